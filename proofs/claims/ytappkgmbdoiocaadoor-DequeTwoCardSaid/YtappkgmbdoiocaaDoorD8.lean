/- What functions of the program compute; that they do. -/
import Derived.Test.YtappkgmbdoiocaaDoorTD8
import Derived.Test.YtappkgmbdoiocaaDoorD1
import Derived.Test.YtappkgmbdoiocaaDoorD2
set_option linter.unusedVariables false
set_option linter.unusedSimpArgs false
namespace Go.Proofs.YtappkgmbdoiocaaDoor
open Go.RowKit
noncomputable def law32_DequeTwo_j1 (g1272 : Bool) : Option Bool := some (g1272)
noncomputable def law32_DequeTwo_j2 (u845 : Int) (seen1237 : (List (KeyD × Bool))) (d1240 : (List KeyD)) : Option Bool := (deque_Pop (DequeD.mk d1240)).bind fun u1244 => (deque_Steal (DequeD.mk d1240)).bind fun u1253 => cond (!(u1244.2.2)) (cond (!(u1253.2.2)) (cond (((seen1237.length : Int) : Int) == u845) ((law32_awake).bind fun u1276 => law32_DequeTwo_j1 u1276) (law32_DequeTwo_j1 false)) (law32_DequeTwo_j1 false)) (law32_DequeTwo_j1 false)
noncomputable def law32_DequeTwo_j3 (g1451 : Int) (seen1699 : (List (KeyD × Bool))) (low1702 : Int) (high1703 : Int) (d1704 : (List KeyD)) : Option (Fl ((List (KeyD × Bool)) × Int × Int × Int × (List KeyD)) (Fl ((List (KeyD × Bool)) × (List KeyD)) Bool)) := some (.go (seen1699, low1702, high1703, IntKind.i64.wrap (g1451 + 1), d1704))
noncomputable def law32_DequeTwo_j4 (seen1446 : (List (KeyD × Bool))) (g1451 : Int) (low1740 : Int) (high1741 : Int) (ok1742 : Bool) (d1743 : (List KeyD)) (x1747 : Int) (x1748 : ByteArray) (want1749 : Int) (want1750 : ByteArray) : Option (Fl ((List (KeyD × Bool)) × Int × Int × Int × (List KeyD)) (Fl ((List (KeyD × Bool)) × (List KeyD)) Bool)) := cond (!(ok1742)) (some (.out (.out false))) ((some ((mget keq_KeyD (KeyD.mk x1747 x1748) seen1446).getD false)).bind fun u1758 => cond u1758 (some (.out (.out false))) (cond (!((x1747 : Int) == want1749 && x1748.toList == want1750.toList)) (some (.out (.out false))) (law32_DequeTwo_j3 g1451 (mput keq_KeyD (KeyD.mk x1747 x1748) true seen1446) low1740 high1741 d1743)))
noncomputable def law32_DequeTwo_j5 (seen1446 : (List (KeyD × Bool))) (low1449 : Int) (high1450 : Int) (g1451 : Int) (d1452 : (List KeyD)) (steal1722 : Bool) : Option (Fl ((List (KeyD × Bool)) × Int × Int × Int × (List KeyD)) (Fl ((List (KeyD × Bool)) × (List KeyD)) Bool)) := (ref23_Cell high1450).bind fun u1726 => cond steal1722 ((deque_Steal (DequeD.mk d1452)).bind fun u1767 => (ref23_Cell low1449).bind fun u1770 => law32_DequeTwo_j4 seen1446 g1451 (IntKind.i64.wrap (low1449 + 1)) high1450 u1767.2.2 u1767.1.Keys u1767.2.1.Kind u1767.2.1.Text u1770.Kind u1770.Text) ((deque_Pop (DequeD.mk d1452)).bind fun u1772 => law32_DequeTwo_j4 seen1446 g1451 low1449 (IntKind.i64.wrap (high1450 - 1)) u1772.2.2 u1772.1.Keys u1772.2.1.Kind u1772.2.1.Text u1726.Kind u1726.Text)
noncomputable def law32_DequeTwo_l6 (turns_ : (List Bool)) (u845 : Int) (seen1446 : (List (KeyD × Bool))) (low1449 : Int) (high1450 : Int) (g1451 : Int) (d1452 : (List KeyD)) : Option (Fl ((List (KeyD × Bool)) × Int × Int × Int × (List KeyD)) (Fl ((List (KeyD × Bool)) × (List KeyD)) Bool)) := cond (decide ((g1451 : Int) < u845)) (cond (decide ((g1451 : Int) < (turns_.length : Int))) ((getI turns_ g1451).bind fun e1776 => law32_DequeTwo_j5 seen1446 low1449 high1450 g1451 d1452 e1776) (law32_DequeTwo_j5 seen1446 low1449 high1450 g1451 d1452 false)) (some (.out (.go (seen1446, d1452))))
noncomputable def law32_DequeTwo_j7 (turns_ : (List Bool)) (u845 : Int) (d884 : (List KeyD)) : Option Bool := (loop (fun s : (List (KeyD × Bool)) × Int × Int × Int × (List KeyD) => law32_DequeTwo_l6 turns_ u845 s.1 s.2.1 s.2.2.1 s.2.2.2.1 s.2.2.2.2) (([] : (List (KeyD × Bool))), 0, IntKind.i64.wrap (u845 - 1), 0, d884)).bind fun r => Fl.el r (fun s => law32_DequeTwo_j2 u845 s.1 s.2) (fun y => some (y))
noncomputable def law32_DequeTwo_l8 (u845 : Int) (g1798 : Int) (d1799 : (List KeyD)) : Option (Fl (Int × (List KeyD)) ((List KeyD))) := cond (decide ((g1798 : Int) < u845)) ((ref23_Cell g1798).bind fun u1826 => (deque_Push (DequeD.mk d1799) u1826).bind fun u1828 => some (.go (IntKind.i64.wrap (g1798 + 1), u1828.1.Keys))) (some (.out d1799))
noncomputable def law32_DequeTwo (n_0 : Int) (turns_ : (List Bool)) : Option Bool := (mill_Mod n_0 30).bind fun u845 => (loop (fun s : Int × (List KeyD) => law32_DequeTwo_l8 u845 s.1 s.2) (0, ([] : List KeyD))).bind fun r => law32_DequeTwo_j7 turns_ u845 r
set_option maxRecDepth 100000 in
set_option maxHeartbeats 4000000 in
theorem law32_DequeTwo_c (T : Nat → Prop) (W0 : World) (hT : ∀ k, T k → k < W0.heap.size) (hLv : LvP T W0) (n_0 : Int) (turns_ : (List Bool)) (v1 : Value) (hv1 : SlR Rep.bool T W0 v1 turns_) (y : Bool) (hM : law32_DequeTwo n_0 turns_ = some y) : Rets Tryd.prog No 4 [.int .i64 n_0, v1] W0 (fun v w' => v = .bool y) := by
  refine enter (c := _) Tryd.func4 rfl T 116 Tryd.ntmps4 hT rfl fun a hS => ?_
  replace hS := hS.fact LvF (LvP.dn hLv)
  replace hS := hS.fact (SlF Rep.bool v1 turns_) (SlR.dn hv1)
  unfold law32_DequeTwo at hM
  refine wp_seq_k fun K172 hK172 => ?_
  refine r_list ?_
  refine wl rfl (ky (v := .bool false) hS (y_assign hS rfl) rfl rfl fun a hS => ?_)
  refine wpList_nil ?_
  try simp only [Exit.then, Exit.inBlock, ↓reduceIte, Nat.reduceEqDiff]
  refine hK172 _ _ ?_
  refine wp_seq_k fun K173 hK173 => ?_
  refine r_list ?_
  refine wl rfl (k_alloc hS ze26 rfl fun b842 hnb844 a w hk hS => ?_)
  refine wpList_nil ?_
  try simp only [Exit.then, Exit.inBlock, ↓reduceIte, Nat.reduceEqDiff]
  refine hK173 _ _ ?_
  refine wp_seq_k fun K174 hK174 => ?_
  refine r_list ?_
  refine wl rfl (ky (v := .int .i64 n_0) hS (y_move hS rfl) rfl rfl fun a hS => ?_)
  obtain ⟨u845, hu845, hM⟩ := bd hM
  refine wl rfl (k_call hS ci18 rfl rfl (mill_Mod_c _ _ hS.dlt n_0 30 _ hu845) fun _ w hR a hk hA => ?_)
  have he := Eq.symm hR
  subst he
  have hS := hA [] (fun r hr => by cases hr) List.Pairwise.nil
  refine wl rfl (ky (v := .int .i64 u845) hS (y_assign hS rfl) rfl rfl fun a hS => ?_)
  refine wpList_nil ?_
  try simp only [Exit.then, Exit.inBlock, ↓reduceIte, Nat.reduceEqDiff]
  refine hK174 _ _ ?_
  refine seq_j (J := fun a w => ∃ (d884 : (List KeyD)) (v885 : Value) (cl886 : (List Value)), St W0 No T 116 [(1, v1), (5, .pointer (some ⟨b842, 0, none⟩)), (6, .int .i64 u845)] [.own v885 28 R_KeyD.size cl886, .box b842 [v885] 26] [SlF Rep.bool v1 turns_, RowsF R_KeyD cl886 d884, LvF] a w ∧ law32_DequeTwo_j7 turns_ u845 d884 = some y) ?_ ?_
  · skip
    refine wp_seq_k fun K370 hK370 => ?_
    refine r_list ?_
    refine wl rfl (ky (v := .int .i64 u845) hS (y_move hS rfl) rfl rfl fun a hS => ?_)
    refine wl rfl (ky (v := .int .i64 0) hS (y_move hS rfl) rfl rfl fun a hS => ?_)
    refine wpList_nil ?_
    try simp only [Exit.then, Exit.inBlock, ↓reduceIte, Nat.reduceEqDiff]
    refine hK370 _ _ ?_
    refine wp_block ?_
    replace hS := hS.nilRow R_KeyD 28 (by decide)
    obtain ⟨r1, hl1, hMo1⟩ := bd hM
    refine wp_lp (fun s : Int × (List KeyD) => law32_DequeTwo_l8 u845 s.1 s.2) (fun s a w => ∃ (g1798 : Int) (d1799 : (List KeyD)) (v1800 : Value) (cl1801 : (List Value)), (g1798, d1799) = s ∧ St W0 No T 116 [(1, v1), (5, .pointer (some ⟨b842, 0, none⟩)), (6, .int .i64 u845), (24, .int .i64 u845), (25, .int .i64 g1798)] [.own v1800 28 R_KeyD.size cl1801, .box b842 [v1800] 26] [SlF Rep.bool v1 turns_, RowsF R_KeyD cl1801 d1799, LvF] a w) hl1 ⟨0, ([] : List KeyD), (.slice none 0 0), ([]), rfl, (hS.meet [0, 1] (by decide) ⟨rfl, rfl, rfl, rfl, rfl, trivial⟩ ⟨rfl, rfl, trivial⟩ ⟨⟨1, rfl⟩, ⟨0, rfl⟩, ⟨2, rfl⟩, trivial⟩)⟩ ?_
    rintro s a w f1 ⟨g1798, d1799, v1800, cl1801, rfl, hS⟩ hM hf1
    have hM : law32_DequeTwo_l8 u845 g1798 d1799 = some f1 := hM
    unfold law32_DequeTwo_l8 at hM
    refine wp_seq_k fun K379 hK379 => ?_
    refine r_list ?_
    refine wl rfl (ky (v := .bool (decide ((g1798 : Int) < u845))) hS (y_int hS rfl rfl rfl) rfl rfl fun a hS => ?_)
    refine wpList_nil ?_
    try simp only [Exit.then, Exit.inBlock, ↓reduceIte, Nat.reduceEqDiff]
    refine hK379 _ _ ?_
    refine wp_seq_k fun K380 hK380 => ?_
    rcases bool2 (decide ((g1798 : Int) < u845)) with hb1820 | hb1820
    · replace hM := ct hb1820 hM
      refine c_t hS rfl hb1820 ?_
      refine wp_skip ?_
      try simp only [Exit.then, Exit.inBlock, ↓reduceIte, Nat.reduceEqDiff]
      refine hK380 _ _ ?_
      refine wp_seq_k fun K381 hK381 => ?_
      refine wp_block ?_
      refine wp_seq_k fun K382 hK382 => ?_
      refine r_list ?_
      refine wl rfl (ky (v := .int .i64 g1798) hS (y_move hS rfl) rfl rfl fun a hS => ?_)
      refine wl rfl (ky (v := .int .i64 g1798) hS (y_assign hS rfl) rfl rfl fun a hS => ?_)
      refine wpList_nil ?_
      try simp only [Exit.then, Exit.inBlock, ↓reduceIte, Nat.reduceEqDiff]
      refine hK382 _ _ ?_
      refine draws [(7, .blk (some b842))] hS mixed rfl (fun c a d v w h => by cases d <;> exact h) fun w hQ hS => ?_
      refine dy (l := []) 0 (v := .agg #[v1800]) rfl (by kernel_rfl) (by kernel_rfl) (by kernel_rfl) (by kernel_rfl) hQ hS (y_load hS rfl ty26 1 rfl eo_nil (us := [v1800]) rfl rfl (fun h => by cases h)) rfl rfl rfl fun a hS => ?_
      refine dy 1 (v := .int .i64 g1798) rfl (by kernel_rfl) (by kernel_rfl) (by kernel_rfl) rfl hQ hS (y_move hS rfl) rfl rfl rfl fun a hS => ?_
      obtain ⟨u1826, hu1826, hM⟩ := bd hM
      refine wpE_one (i := 2) rfl (by kernel_rfl) rfl (k_call hS ci16 rfl rfl (ref23_Cell_c _ _ hS.dlt (hS.get 2 rfl) g1798 _ hu1826) fun _ w hR a hk hA => ⟨stN (hk), ?_⟩)
      have he := Eq.symm hR
      subst he
      have hS := hA [] (fun r hr => by cases hr) List.Pairwise.nil
      have hL := hS
      replace hL := hL.freeze (R := R_KeyD) 0 rfl 1 rfl
      obtain ⟨u1828, hu1828, hM⟩ := bd hM
      refine wpE_one (i := 3) rfl (by kernel_rfl) rfl (k_call hS ci15 rfl rfl (deque_Push_c _ _ hL.dlt (hL.get 3 rfl) (DequeD.mk d1799) u1826 _ (hL.get 0 rfl) _ hu1828) fun _ w hR a hk hA => ⟨stN (hk), ?_⟩)
      obtain ⟨vz1829_2, clz1829_3, he, ⟨hOvz1829_2, hFvz1829_2, hRvz1829_2⟩⟩ := hR
      replace he := he.symm
      subst he
      have hS := hA [.own vz1829_2 28 R_KeyD.size clz1829_3] (adds1 ⟨hOvz1829_2, by decide⟩ hFvz1829_2) (pw1 _)
      replace hS := hS.fact (RowsF R_KeyD clz1829_3 u1828.1.Keys) hRvz1829_2
      refine dy 4 (v := .tuple #[.agg #[vz1829_2], .int .i64 u1828.2]) rfl (by kernel_rfl) (by kernel_rfl) (by kernel_rfl) rfl hQ hS (y_move hS rfl) rfl rfl rfl fun a hS => ?_
      refine dy 5 (v := .agg #[vz1829_2]) rfl (by kernel_rfl) (by kernel_rfl) (by kernel_rfl) rfl hQ hS (y_ex hS rfl rfl) rfl rfl rfl fun a hS => ?_
      refine dy 6 (v := .int .i64 u1828.2) rfl (by kernel_rfl) (by kernel_rfl) (by kernel_rfl) rfl hQ hS (y_ex hS rfl rfl) rfl rfl rfl fun a hS => ?_
      refine wpE_one (i := 7) rfl (by kernel_rfl) rfl (k_store hS rfl rfl (us := [vz1829_2]) rfl ty26 2 rfl rfl rfl (oc (own_one (hS.own _ (List.mem_of_getElem? (i := 0) rfl)).1) on) fun w hk hS => ⟨stM rfl hk etBox, ?_⟩)
      refine wpE_done (by kernel_rfl) ?_ _
      try simp only [Exit.then, Exit.inBlock, ↓reduceIte, Nat.reduceEqDiff]
      refine hK381 _ _ ?_
      refine r_list ?_
      refine wl rfl (ky (v := .int .i64 (IntKind.i64.wrap (g1798 + 1))) hS (y_int hS rfl rfl rfl) rfl rfl fun a hS => ?_)
      refine wl rfl (ky (v := .int .i64 (IntKind.i64.wrap (g1798 + 1))) hS (y_move hS rfl) rfl rfl fun a hS => ?_)
      refine wpList_nil ?_
      try simp only [Exit.then, Exit.inBlock, ↓reduceIte, Nat.reduceEqDiff]
      exact ⟨(IntKind.i64.wrap (g1798 + 1), u1828.1.Keys), (Option.some.inj hM).symm, (IntKind.i64.wrap (g1798 + 1)), u1828.1.Keys, vz1829_2, clz1829_3, rfl, (hS.meet [0, 2] (by decide) ⟨rfl, rfl, rfl, rfl, rfl, trivial⟩ ⟨rfl, rfl, trivial⟩ ⟨⟨1, rfl⟩, ⟨0, rfl⟩, ⟨3, rfl⟩, trivial⟩)⟩
    · replace hM := cf hb1820 hM
      refine c_f hS rfl hb1820 ?_
      refine wp_exit ?_
      try simp only [Exit.then, Exit.inBlock, ↓reduceIte, Nat.reduceEqDiff]
      injection hM with hM
      subst hM
      have hr := hf1 _ rfl
      subst hr
      have hM : law32_DequeTwo_j7 turns_ u845 d1799 = some y := hMo1
      exact ⟨d1799, v1800, cl1801, (hS.meet [0, 1] (by decide) ⟨rfl, rfl, rfl, trivial⟩ ⟨rfl, rfl, trivial⟩ ⟨⟨0, rfl⟩, ⟨1, rfl⟩, ⟨2, rfl⟩, trivial⟩), hM⟩
  · rintro a w ⟨d884, v885, cl886, hS, hM⟩
    unfold law32_DequeTwo_j7 at hM
    refine wp_seq_k fun K184 hK184 => ?_
    refine r_list ?_
    refine wl rfl (k_mkmap R_KeyD true Rep.bool false hS rfl fun b888 hnb889 a w hk hS => ?_)
    refine wl rfl (ky (v := .map (some b888)) hS (y_assign hS rfl) rfl rfl fun a hS => ?_)
    refine wpList_nil ?_
    try simp only [Exit.then, Exit.inBlock, ↓reduceIte, Nat.reduceEqDiff]
    refine hK184 _ _ ?_
    refine wp_seq_k fun K185 hK185 => ?_
    refine r_list ?_
    refine wl rfl (ky (v := .int .i64 u845) hS (y_move hS rfl) rfl rfl fun a hS => ?_)
    refine wl rfl (ky (v := .int .i64 (IntKind.i64.wrap (u845 - 1))) hS (y_int hS rfl rfl rfl) rfl rfl fun a hS => ?_)
    refine wl rfl (ky (v := .int .i64 0) hS (y_assign hS rfl) rfl rfl fun a hS => ?_)
    refine wl rfl (ky (v := .int .i64 (IntKind.i64.wrap (u845 - 1))) hS (y_assign hS rfl) rfl rfl fun a hS => ?_)
    refine wpList_nil ?_
    try simp only [Exit.then, Exit.inBlock, ↓reduceIte, Nat.reduceEqDiff]
    refine hK185 _ _ ?_
    refine seq_j (J := fun a w => ∃ (seen1237 : (List (KeyD × Bool))) (d1240 : (List KeyD)) (es1238 : (Array MapEntry)) (ck1239 : Nat) (v1241 : Value) (cl1242 : (List Value)), St W0 No T 116 [(5, .pointer (some ⟨b842, 0, none⟩)), (6, .int .i64 u845), (8, .map (some b888))] [.obj b888 (.map es1238 ck1239), .own v1241 28 R_KeyD.size cl1242, .box b842 [v1241] 26] [MapF R_KeyD true Rep.bool false es1238 seen1237, RowsF R_KeyD cl1242 d1240, LvF] a w ∧ law32_DequeTwo_j2 u845 seen1237 d1240 = some y) ?_ ?_
    · skip
      refine wp_seq_k fun K261 hK261 => ?_
      refine r_list ?_
      refine wl rfl (ky (v := .int .i64 u845) hS (y_move hS rfl) rfl rfl fun a hS => ?_)
      refine wl rfl (ky (v := .int .i64 0) hS (y_move hS rfl) rfl rfl fun a hS => ?_)
      refine wpList_nil ?_
      try simp only [Exit.then, Exit.inBlock, ↓reduceIte, Nat.reduceEqDiff]
      refine hK261 _ _ ?_
      refine wp_block ?_
      obtain ⟨r1, hl1, hMo1⟩ := bd hM
      refine wp_lp (fun s : (List (KeyD × Bool)) × Int × Int × Int × (List KeyD) => law32_DequeTwo_l6 turns_ u845 s.1 s.2.1 s.2.2.1 s.2.2.2.1 s.2.2.2.2) (fun s a w => ∃ (seen1446 : (List (KeyD × Bool))) (low1449 : Int) (high1450 : Int) (g1451 : Int) (d1452 : (List KeyD)) (es1447 : (Array MapEntry)) (ck1448 : Nat) (v1453 : Value) (cl1454 : (List Value)), (seen1446, low1449, high1450, g1451, d1452) = s ∧ St W0 No T 116 [(1, v1), (5, .pointer (some ⟨b842, 0, none⟩)), (6, .int .i64 u845), (8, .map (some b888)), (9, .int .i64 low1449), (10, .int .i64 high1450), (39, .int .i64 u845), (40, .int .i64 g1451)] [.obj b888 (.map es1447 ck1448), .own v1453 28 R_KeyD.size cl1454, .box b842 [v1453] 26] [SlF Rep.bool v1 turns_, MapF R_KeyD true Rep.bool false es1447 seen1446, RowsF R_KeyD cl1454 d1452, LvF] a w) hl1 ⟨([] : (List (KeyD × Bool))), 0, (IntKind.i64.wrap (u845 - 1)), 0, d884, (#[]), 0, v885, cl886, rfl, (hS.meet [0, 1, 2] (by decide) ⟨rfl, rfl, rfl, rfl, rfl, rfl, rfl, rfl, trivial⟩ ⟨rfl, rfl, rfl, trivial⟩ ⟨⟨1, rfl⟩, ⟨0, rfl⟩, ⟨2, rfl⟩, ⟨3, rfl⟩, trivial⟩)⟩ ?_
      rintro s a w f1 ⟨seen1446, low1449, high1450, g1451, d1452, es1447, ck1448, v1453, cl1454, rfl, hS⟩ hM hf1
      have hM : law32_DequeTwo_l6 turns_ u845 seen1446 low1449 high1450 g1451 d1452 = some f1 := hM
      unfold law32_DequeTwo_l6 at hM
      refine wp_seq_k fun K334 hK334 => ?_
      refine r_list ?_
      refine wl rfl (ky (v := .bool (decide ((g1451 : Int) < u845))) hS (y_int hS rfl rfl rfl) rfl rfl fun a hS => ?_)
      refine wpList_nil ?_
      try simp only [Exit.then, Exit.inBlock, ↓reduceIte, Nat.reduceEqDiff]
      refine hK334 _ _ ?_
      refine wp_seq_k fun K335 hK335 => ?_
      rcases bool2 (decide ((g1451 : Int) < u845)) with hb1624 | hb1624
      · replace hM := ct hb1624 hM
        refine c_t hS rfl hb1624 ?_
        refine wp_skip ?_
        try simp only [Exit.then, Exit.inBlock, ↓reduceIte, Nat.reduceEqDiff]
        refine hK335 _ _ ?_
        refine seq_j (J := fun a w => ∃ (seen1699 : (List (KeyD × Bool))) (low1702 : Int) (high1703 : Int) (d1704 : (List KeyD)) (es1700 : (Array MapEntry)) (ck1701 : Nat) (v1705 : Value) (cl1706 : (List Value)), St W0 No T 116 [(1, v1), (5, .pointer (some ⟨b842, 0, none⟩)), (6, .int .i64 u845), (8, .map (some b888)), (9, .int .i64 low1702), (10, .int .i64 high1703), (39, .int .i64 u845), (40, .int .i64 g1451)] [.obj b888 (.map es1700 ck1701), .own v1705 28 R_KeyD.size cl1706, .box b842 [v1705] 26] [SlF Rep.bool v1 turns_, MapF R_KeyD true Rep.bool false es1700 seen1699, RowsF R_KeyD cl1706 d1704, LvF] a w ∧ law32_DequeTwo_j3 g1451 seen1699 low1702 high1703 d1704 = some f1) ?_ ?_
        · skip
          refine wp_block ?_
          refine wp_seq_k fun K353 hK353 => ?_
          refine r_list ?_
          refine wl rfl (ky (v := .int .i64 g1451) hS (y_move hS rfl) rfl rfl fun a hS => ?_)
          refine wl rfl (ky (v := .int .i64 g1451) hS (y_assign hS rfl) rfl rfl fun a hS => ?_)
          refine wpList_nil ?_
          try simp only [Exit.then, Exit.inBlock, ↓reduceIte, Nat.reduceEqDiff]
          refine hK353 _ _ ?_
          refine seq_j (J := fun a w => ∃ (steal1722 : Bool), St W0 No T 116 [(1, v1), (5, .pointer (some ⟨b842, 0, none⟩)), (6, .int .i64 u845), (8, .map (some b888)), (9, .int .i64 low1449), (10, .int .i64 high1450), (12, .bool steal1722), (39, .int .i64 u845), (40, .int .i64 g1451)] [.obj b888 (.map es1447 ck1448), .own v1453 28 R_KeyD.size cl1454, .box b842 [v1453] 26] [SlF Rep.bool v1 turns_, MapF R_KeyD true Rep.bool false es1447 seen1446, RowsF R_KeyD cl1454 d1452, LvF] a w ∧ law32_DequeTwo_j5 seen1446 low1449 high1450 g1451 d1452 steal1722 = some f1) ?_ ?_
          · skip
            refine r_list ?_
            refine wl rfl (ky (v := .int .i64 g1451) hS (y_move hS rfl) rfl rfl fun a hS => ?_)
            refine wl rfl (ky (v := v1) hS (y_move hS rfl) rfl rfl fun a hS => ?_)
            refine wl rfl (ky (v := .int .i64 (turns_.length : Int)) hS (y_len (R := Rep.bool) (xs := turns_) hS sl37 rfl 0 rfl) rfl rfl fun a hS => ?_)
            refine wl rfl (ky (v := .bool (decide ((g1451 : Int) < (turns_.length : Int)))) hS (y_int hS rfl rfl rfl) rfl rfl fun a hS => ?_)
            refine wl rfl (ky (v := .bool (decide ((g1451 : Int) < (turns_.length : Int)))) hS (y_move hS rfl) rfl rfl fun a hS => ?_)
            rcases bool2 (decide ((g1451 : Int) < (turns_.length : Int))) with hb1775 | hb1775
            · replace hM := ct hb1775 hM
              refine wg hS rfl rfl rfl hb1775 (ky (v := v1) hS (y_move hS rfl) rfl rfl fun a hS => ?_)
              refine wg hS rfl rfl rfl hb1775 (ky (v := .int .i64 g1451) hS (y_move hS rfl) rfl rfl fun a hS => ?_)
              obtain ⟨e1776, he1776, hM⟩ := bd hM
              refine wg hS rfl rfl rfl hb1775 (k_index (R := Rep.bool) hS sl37 ty4 rfl rfl 0 rfl he1776 rfl fun b1777 o1778 cs1780 hr1779 a hS => ?_)
              obtain rfl := hr1779
              refine wg hS rfl rfl rfl hb1775 (ky (v := .bool e1776) hS (y_loadc (k := 0) hS ty4 0 rfl rfl (fun _ h => h.elim) (us := [.bool e1776]) rfl rfl (fun _ => rfl)) rfl rfl fun a hS => ?_)
              refine wl rfl (ky (v := .bool e1776) hS (y_pickt hS rfl hb1775 rfl) rfl rfl fun a hS => ?_)
              refine wl rfl (ky (v := .bool e1776) hS (y_assign hS rfl) rfl rfl fun a hS => ?_)
              refine wpList_nil ?_
              try simp only [Exit.then, Exit.inBlock, ↓reduceIte, Nat.reduceEqDiff]
              exact ⟨e1776, (hS.meet [0, 1, 2] (by decide) ⟨rfl, rfl, rfl, rfl, rfl, rfl, rfl, rfl, rfl, trivial⟩ ⟨rfl, rfl, rfl, trivial⟩ ⟨⟨1, rfl⟩, ⟨2, rfl⟩, ⟨3, rfl⟩, ⟨4, rfl⟩, trivial⟩), hM⟩
            · replace hM := cf hb1775 hM
              refine wn hS rfl rfl rfl hb1775 rfl rfl fun a hS => ?_
              refine wn hS rfl rfl rfl hb1775 rfl rfl fun a hS => ?_
              refine wn hS rfl rfl rfl hb1775 rfl rfl fun a hS => ?_
              refine wn hS rfl rfl rfl hb1775 rfl rfl fun a hS => ?_
              refine wl rfl (ky (v := .bool false) hS (y_pickf hS rfl hb1775 rfl) rfl rfl fun a hS => ?_)
              refine wl rfl (ky (v := .bool false) hS (y_assign hS rfl) rfl rfl fun a hS => ?_)
              refine wpList_nil ?_
              try simp only [Exit.then, Exit.inBlock, ↓reduceIte, Nat.reduceEqDiff]
              exact ⟨false, (hS.meet [0, 1, 2] (by decide) ⟨rfl, rfl, rfl, rfl, rfl, rfl, rfl, rfl, rfl, trivial⟩ ⟨rfl, rfl, rfl, trivial⟩ ⟨⟨0, rfl⟩, ⟨1, rfl⟩, ⟨2, rfl⟩, ⟨3, rfl⟩, trivial⟩), hM⟩
          · rintro a w ⟨steal1722, hS, hM⟩
            unfold law32_DequeTwo_j5 at hM
            refine wp_seq_k fun K354 hK354 => ?_
            refine r_list ?_
            refine wl rfl (k_alloc hS ze28 rfl fun b1723 hnb1725 a w hk hS => ?_)
            refine wpList_nil ?_
            try simp only [Exit.then, Exit.inBlock, ↓reduceIte, Nat.reduceEqDiff]
            refine hK354 _ _ ?_
            refine wp_seq_k fun K355 hK355 => ?_
            refine r_list ?_
            refine wl rfl (ky (v := .bool false) hS (y_assign hS rfl) rfl rfl fun a hS => ?_)
            refine wpList_nil ?_
            try simp only [Exit.then, Exit.inBlock, ↓reduceIte, Nat.reduceEqDiff]
            refine hK355 _ _ ?_
            refine wp_seq_k fun K356 hK356 => ?_
            refine r_list ?_
            refine wl rfl (ky (v := .int .i64 high1450) hS (y_move hS rfl) rfl rfl fun a hS => ?_)
            obtain ⟨u1726, hu1726, hM⟩ := bd hM
            refine wl rfl (k_call hS ci16 rfl rfl (ref23_Cell_c _ _ hS.dlt (hS.get 3 rfl) high1450 _ hu1726) fun _ w hR a hk hA => ?_)
            have he := Eq.symm hR
            subst he
            have hS := hA [] (fun r hr => by cases hr) List.Pairwise.nil
            refine wl rfl (k_alloc hS ze28 rfl fun b1728 hnb1730 a w hk hS => ?_)
            refine wl rfl (k_store hS rfl rfl (us := [.int .i64 u1726.Kind, .string u1726.Text]) rfl ty28 0 rfl rfl rfl (oc rfl (oc rfl on)) fun w hk hS => ?_)
            refine wpList_nil ?_
            try simp only [Exit.then, Exit.inBlock, ↓reduceIte, Nat.reduceEqDiff]
            refine hK356 _ _ ?_
            refine seq_j (J := fun a w => ∃ (low1740 : Int) (high1741 : Int) (ok1742 : Bool) (d1743 : (List KeyD)) (x1747 : Int) (x1748 : ByteArray) (want1749 : Int) (want1750 : ByteArray) (v1744 : Value) (cl1745 : (List Value)), St W0 No T 116 [(1, v1), (5, .pointer (some ⟨b842, 0, none⟩)), (6, .int .i64 u845), (8, .map (some b888)), (9, .int .i64 low1740), (10, .int .i64 high1741), (13, .pointer (some ⟨b1723, 0, none⟩)), (14, .bool ok1742), (15, .pointer (some ⟨b1728, 0, none⟩)), (39, .int .i64 u845), (40, .int .i64 g1451)] [.obj b888 (.map es1447 ck1448), .own v1744 28 R_KeyD.size cl1745, .box b842 [v1744] 26, .box b1723 [.int .i64 x1747, .string x1748] 28, .box b1728 [.int .i64 want1749, .string want1750] 28] [SlF Rep.bool v1 turns_, MapF R_KeyD true Rep.bool false es1447 seen1446, RowsF R_KeyD cl1745 d1743, LvF] a w ∧ law32_DequeTwo_j4 seen1446 g1451 low1740 high1741 ok1742 d1743 x1747 x1748 want1749 want1750 = some f1) ?_ ?_
            · skip
              refine wp_seq_k fun K366 hK366 => ?_
              refine r_list ?_
              refine wl rfl (ky (v := .bool steal1722) hS (y_move hS rfl) rfl rfl fun a hS => ?_)
              refine wpList_nil ?_
              try simp only [Exit.then, Exit.inBlock, ↓reduceIte, Nat.reduceEqDiff]
              refine hK366 _ _ ?_
              rcases bool2 (steal1722) with hb1766 | hb1766
              · replace hM := ct hb1766 hM
                refine c_t hS rfl hb1766 ?_
                refine wp_seq_k fun K367 hK367 => ?_
                refine r_list ?_
                refine wl rfl (ky (v := .agg #[v1453]) hS (y_load hS rfl ty26 4 rfl id (us := [v1453]) rfl rfl (fun h => by cases h)) rfl rfl fun a hS => ?_)
                have hL := hS
                replace hL := hL.freeze (R := R_KeyD) 3 rfl 2 rfl
                obtain ⟨u1767, hu1767, hM⟩ := bd hM
                refine wl rfl (k_call hS ci14 rfl rfl (deque_Steal_c _ _ hL.dlt (DequeD.mk d1452) _ (hL.get 0 rfl) _ hu1767) fun _ w hR a hk hA => ?_)
                obtain ⟨vz1768_2, clz1768_3, he, ⟨hOvz1768_2, hFvz1768_2, hRvz1768_2⟩⟩ := hR
                replace he := he.symm
                subst he
                have hS := hA [.own vz1768_2 28 R_KeyD.size clz1768_3] (adds1 ⟨hOvz1768_2, by decide⟩ hFvz1768_2) (pw1 _)
                replace hS := hS.fact (RowsF R_KeyD clz1768_3 u1767.1.Keys) hRvz1768_2
                refine wl rfl (ky (v := .tuple #[.agg #[vz1768_2], .agg #[.int .i64 u1767.2.1.Kind, .string u1767.2.1.Text], .bool u1767.2.2]) hS (y_move hS rfl) rfl rfl fun a hS => ?_)
                refine wl rfl (ky (v := .agg #[vz1768_2]) hS (y_ex hS rfl rfl) rfl rfl fun a hS => ?_)
                refine wl rfl (ky (v := .agg #[.int .i64 u1767.2.1.Kind, .string u1767.2.1.Text]) hS (y_ex hS rfl rfl) rfl rfl fun a hS => ?_)
                refine wl rfl (ky (v := .bool u1767.2.2) hS (y_ex hS rfl rfl) rfl rfl fun a hS => ?_)
                refine wl rfl (k_store hS rfl rfl (us := [vz1768_2]) rfl ty26 5 rfl rfl rfl (oc (own_one (hS.own _ (List.mem_of_getElem? (i := 0) rfl)).1) on) fun w hk hS => ?_)
                refine wl rfl (k_store hS rfl rfl (us := [.int .i64 u1767.2.1.Kind, .string u1767.2.1.Text]) rfl ty28 2 rfl rfl rfl (oc rfl (oc rfl on)) fun w hk hS => ?_)
                refine wl rfl (ky (v := .bool u1767.2.2) hS (y_assign hS rfl) rfl rfl fun a hS => ?_)
                refine wpList_nil ?_
                try simp only [Exit.then, Exit.inBlock, ↓reduceIte, Nat.reduceEqDiff]
                refine hK367 _ _ ?_
                refine wp_seq_k fun K368 hK368 => ?_
                refine r_list ?_
                refine wl rfl (ky (v := .int .i64 low1449) hS (y_move hS rfl) rfl rfl fun a hS => ?_)
                obtain ⟨u1770, hu1770, hM⟩ := bd hM
                refine wl rfl (k_call hS ci16 rfl rfl (ref23_Cell_c _ _ hS.dlt (hS.get 4 rfl) low1449 _ hu1770) fun _ w hR a hk hA => ?_)
                have he := Eq.symm hR
                subst he
                have hS := hA [] (fun r hr => by cases hr) List.Pairwise.nil
                refine wl rfl (k_store hS rfl rfl (us := [.int .i64 u1770.Kind, .string u1770.Text]) rfl ty28 1 rfl rfl rfl (oc rfl (oc rfl on)) fun w hk hS => ?_)
                refine wpList_nil ?_
                try simp only [Exit.then, Exit.inBlock, ↓reduceIte, Nat.reduceEqDiff]
                refine hK368 _ _ ?_
                refine r_list ?_
                refine wl rfl (ky (v := .int .i64 low1449) hS (y_move hS rfl) rfl rfl fun a hS => ?_)
                refine wl rfl (ky (v := .int .i64 (IntKind.i64.wrap (low1449 + 1))) hS (y_int hS rfl rfl rfl) rfl rfl fun a hS => ?_)
                refine wl rfl (ky (v := .int .i64 (IntKind.i64.wrap (low1449 + 1))) hS (y_assign hS rfl) rfl rfl fun a hS => ?_)
                refine wpList_nil ?_
                try simp only [Exit.then, Exit.inBlock, ↓reduceIte, Nat.reduceEqDiff]
                exact ⟨(IntKind.i64.wrap (low1449 + 1)), high1450, u1767.2.2, u1767.1.Keys, u1767.2.1.Kind, u1767.2.1.Text, u1770.Kind, u1770.Text, vz1768_2, clz1768_3, (hS.meet [3, 0, 5, 2, 1] (by decide) ⟨rfl, rfl, rfl, rfl, rfl, rfl, rfl, rfl, rfl, rfl, rfl, trivial⟩ ⟨rfl, rfl, rfl, rfl, rfl, trivial⟩ ⟨⟨1, rfl⟩, ⟨2, rfl⟩, ⟨0, rfl⟩, ⟨4, rfl⟩, trivial⟩), hM⟩
              · replace hM := cf hb1766 hM
                refine c_f hS rfl hb1766 ?_
                refine wp_seq_k fun K369 hK369 => ?_
                refine r_list ?_
                refine wl rfl (ky (v := .agg #[v1453]) hS (y_load hS rfl ty26 4 rfl id (us := [v1453]) rfl rfl (fun h => by cases h)) rfl rfl fun a hS => ?_)
                have hL := hS
                replace hL := hL.freeze (R := R_KeyD) 3 rfl 2 rfl
                obtain ⟨u1772, hu1772, hM⟩ := bd hM
                refine wl rfl (k_call hS ci13 rfl rfl (deque_Pop_c _ _ hL.dlt (DequeD.mk d1452) _ (hL.get 0 rfl) _ hu1772) fun _ w hR a hk hA => ?_)
                obtain ⟨vz1773_2, clz1773_3, he, ⟨hOvz1773_2, hFvz1773_2, hRvz1773_2⟩⟩ := hR
                replace he := he.symm
                subst he
                have hS := hA [.own vz1773_2 28 R_KeyD.size clz1773_3] (adds1 ⟨hOvz1773_2, by decide⟩ hFvz1773_2) (pw1 _)
                replace hS := hS.fact (RowsF R_KeyD clz1773_3 u1772.1.Keys) hRvz1773_2
                refine wl rfl (ky (v := .tuple #[.agg #[vz1773_2], .agg #[.int .i64 u1772.2.1.Kind, .string u1772.2.1.Text], .bool u1772.2.2]) hS (y_move hS rfl) rfl rfl fun a hS => ?_)
                refine wl rfl (ky (v := .agg #[vz1773_2]) hS (y_ex hS rfl rfl) rfl rfl fun a hS => ?_)
                refine wl rfl (ky (v := .agg #[.int .i64 u1772.2.1.Kind, .string u1772.2.1.Text]) hS (y_ex hS rfl rfl) rfl rfl fun a hS => ?_)
                refine wl rfl (ky (v := .bool u1772.2.2) hS (y_ex hS rfl rfl) rfl rfl fun a hS => ?_)
                refine wl rfl (k_store hS rfl rfl (us := [vz1773_2]) rfl ty26 5 rfl rfl rfl (oc (own_one (hS.own _ (List.mem_of_getElem? (i := 0) rfl)).1) on) fun w hk hS => ?_)
                refine wl rfl (k_store hS rfl rfl (us := [.int .i64 u1772.2.1.Kind, .string u1772.2.1.Text]) rfl ty28 2 rfl rfl rfl (oc rfl (oc rfl on)) fun w hk hS => ?_)
                refine wl rfl (ky (v := .bool u1772.2.2) hS (y_assign hS rfl) rfl rfl fun a hS => ?_)
                refine wpList_nil ?_
                try simp only [Exit.then, Exit.inBlock, ↓reduceIte, Nat.reduceEqDiff]
                refine hK369 _ _ ?_
                refine r_list ?_
                refine wl rfl (ky (v := .int .i64 high1450) hS (y_move hS rfl) rfl rfl fun a hS => ?_)
                refine wl rfl (ky (v := .int .i64 (IntKind.i64.wrap (high1450 - 1))) hS (y_int hS rfl rfl rfl) rfl rfl fun a hS => ?_)
                refine wl rfl (ky (v := .int .i64 (IntKind.i64.wrap (high1450 - 1))) hS (y_assign hS rfl) rfl rfl fun a hS => ?_)
                refine wpList_nil ?_
                try simp only [Exit.then, Exit.inBlock, ↓reduceIte, Nat.reduceEqDiff]
                exact ⟨low1449, (IntKind.i64.wrap (high1450 - 1)), u1772.2.2, u1772.1.Keys, u1772.2.1.Kind, u1772.2.1.Text, u1726.Kind, u1726.Text, vz1773_2, clz1773_3, (hS.meet [3, 0, 5, 2, 1] (by decide) ⟨rfl, rfl, rfl, rfl, rfl, rfl, rfl, rfl, rfl, rfl, rfl, trivial⟩ ⟨rfl, rfl, rfl, rfl, rfl, trivial⟩ ⟨⟨1, rfl⟩, ⟨2, rfl⟩, ⟨0, rfl⟩, ⟨4, rfl⟩, trivial⟩), hM⟩
            · rintro a w ⟨low1740, high1741, ok1742, d1743, x1747, x1748, want1749, want1750, v1744, cl1745, hS, hM⟩
              unfold law32_DequeTwo_j4 at hM
              refine wp_seq_k fun K361 hK361 => ?_
              refine wp_seq_k fun K362 hK362 => ?_
              refine r_list ?_
              refine wl rfl (ky (v := .bool ok1742) hS (y_move hS rfl) rfl rfl fun a hS => ?_)
              refine wl rfl (ky (v := .bool (!(ok1742))) hS (y_not hS rfl) rfl rfl fun a hS => ?_)
              refine wl rfl (ky (v := .bool (!(ok1742))) hS (y_move hS rfl) rfl rfl fun a hS => ?_)
              rcases bool2 (!(ok1742)) with hb1757 | hb1757
              · replace hM := ct hb1757 hM
                refine wn hS rfl rfl rfl hb1757 rfl rfl fun a hS => ?_
                refine wn hS rfl rfl rfl hb1757 rfl rfl fun a hS => ?_
                refine wn hS rfl rfl rfl hb1757 rfl rfl fun a hS => ?_
                refine wl rfl (ky (v := .bool true) hS (y_pickt hS rfl hb1757 rfl) rfl rfl fun a hS => ?_)
                refine wl rfl (ky (v := .bool true) hS (y_move hS rfl) rfl rfl fun a hS => ?_)
                refine wn hS rfl rfl rfl rfl rfl rfl fun a hS => ?_
                refine wn hS rfl rfl rfl rfl rfl rfl fun a hS => ?_
                refine wn hS rfl rfl rfl rfl rfl rfl fun a hS => ?_
                refine wl rfl (ky (v := .bool true) hS (y_pickt hS rfl rfl rfl) rfl rfl fun a hS => ?_)
                refine wpList_nil ?_
                try simp only [Exit.then, Exit.inBlock, ↓reduceIte, Nat.reduceEqDiff]
                refine hK362 _ _ ?_
                refine c_t hS rfl rfl ?_
                refine wp_seq_k fun K363 hK363 => ?_
                refine r_list ?_
                refine wl rfl (ky (v := .bool false) hS (y_assign hS rfl) rfl rfl fun a hS => ?_)
                refine wpList_nil ?_
                try simp only [Exit.then, Exit.inBlock, ↓reduceIte, Nat.reduceEqDiff]
                refine hK363 _ _ ?_
                refine wp_ret ?_
                injection hM with hM
                subst hM
                have hr := hf1 _ rfl
                subst hr
                replace hMo1 := el_out hMo1
                have hM := hMo1
                injection hM with hM
                subst hM
                try simp only [Exit.then, Exit.inBlock, ↓reduceIte, Nat.reduceEqDiff]
                refine ret_ok hS Tryd.results4 (res_tmp hS rfl res_nil) ?_
                exact rfl
              · replace hM := cf hb1757 hM
                refine wg hS rfl rfl rfl hb1757 (ky (v := .map (some b888)) hS (y_move hS rfl) rfl rfl fun a hS => ?_)
                refine wg hS rfl rfl rfl hb1757 (ky (v := .agg #[.int .i64 x1747, .string x1748]) hS (y_load hS rfl ty28 3 rfl id (us := [.int .i64 x1747, .string x1748]) rfl rfl (fun h => by cases h)) rfl rfl fun a hS => ?_)
                obtain ⟨u1758, hu1758, hM⟩ := bd hM
                obtain ⟨cv1759, hr1760, hy1761⟩ := d_looku hS mp39 kt_KeyD 0 rfl 1 rfl (c := [.int .i64 x1747, .string x1748]) (key := (KeyD.mk x1747 x1748)) rfl zv4 (zc := [.bool false]) rfl rfl hu1758
                obtain rfl := hr1760
                refine wg hS rfl rfl rfl hb1757 (ky (v := .bool u1758) hS (hy1761 rfl rfl id) rfl rfl fun a hS => ?_)
                refine wl rfl (ky (v := .bool u1758) hS (y_pickf hS rfl hb1757 rfl) rfl rfl fun a hS => ?_)
                refine wl rfl (ky (v := .bool u1758) hS (y_move hS rfl) rfl rfl fun a hS => ?_)
                rcases bool2 (u1758) with hb1762 | hb1762
                · replace hM := ct hb1762 hM
                  refine wn hS rfl rfl rfl hb1762 rfl rfl fun a hS => ?_
                  refine wn hS rfl rfl rfl hb1762 rfl rfl fun a hS => ?_
                  refine wn hS rfl rfl rfl hb1762 rfl rfl fun a hS => ?_
                  refine wl rfl (ky (v := .bool true) hS (y_pickt hS rfl hb1762 rfl) rfl rfl fun a hS => ?_)
                  refine wpList_nil ?_
                  try simp only [Exit.then, Exit.inBlock, ↓reduceIte, Nat.reduceEqDiff]
                  refine hK362 _ _ ?_
                  refine c_t hS rfl rfl ?_
                  refine wp_seq_k fun K364 hK364 => ?_
                  refine r_list ?_
                  refine wl rfl (ky (v := .bool false) hS (y_assign hS rfl) rfl rfl fun a hS => ?_)
                  refine wpList_nil ?_
                  try simp only [Exit.then, Exit.inBlock, ↓reduceIte, Nat.reduceEqDiff]
                  refine hK364 _ _ ?_
                  refine wp_ret ?_
                  injection hM with hM
                  subst hM
                  have hr := hf1 _ rfl
                  subst hr
                  replace hMo1 := el_out hMo1
                  have hM := hMo1
                  injection hM with hM
                  subst hM
                  try simp only [Exit.then, Exit.inBlock, ↓reduceIte, Nat.reduceEqDiff]
                  refine ret_ok hS Tryd.results4 (res_tmp hS rfl res_nil) ?_
                  exact rfl
                · replace hM := cf hb1762 hM
                  refine wg hS rfl rfl rfl hb1762 (ky (v := .agg #[.int .i64 x1747, .string x1748]) hS (y_load hS rfl ty28 3 rfl id (us := [.int .i64 x1747, .string x1748]) rfl rfl (fun h => by cases h)) rfl rfl fun a hS => ?_)
                  refine wg hS rfl rfl rfl hb1762 (ky (v := .agg #[.int .i64 want1749, .string want1750]) hS (y_load hS rfl ty28 4 rfl id (us := [.int .i64 want1749, .string want1750]) rfl rfl (fun h => by cases h)) rfl rfl fun a hS => ?_)
                  refine wg hS rfl rfl rfl hb1762 (ky (v := .bool (!((x1747 : Int) == want1749 && x1748.toList == want1750.toList))) hS (eq28n hS rfl rfl) rfl rfl fun a hS => ?_)
                  refine wl rfl (ky (v := .bool (!((x1747 : Int) == want1749 && x1748.toList == want1750.toList))) hS (y_pickf hS rfl hb1762 rfl) rfl rfl fun a hS => ?_)
                  refine wpList_nil ?_
                  try simp only [Exit.then, Exit.inBlock, ↓reduceIte, Nat.reduceEqDiff]
                  refine hK362 _ _ ?_
                  rcases bool2 (!((x1747 : Int) == want1749 && x1748.toList == want1750.toList)) with hb1763 | hb1763
                  · replace hM := ct hb1763 hM
                    refine c_t hS rfl hb1763 ?_
                    refine wp_seq_k fun K365 hK365 => ?_
                    refine r_list ?_
                    refine wl rfl (ky (v := .bool false) hS (y_assign hS rfl) rfl rfl fun a hS => ?_)
                    refine wpList_nil ?_
                    try simp only [Exit.then, Exit.inBlock, ↓reduceIte, Nat.reduceEqDiff]
                    refine hK365 _ _ ?_
                    refine wp_ret ?_
                    injection hM with hM
                    subst hM
                    have hr := hf1 _ rfl
                    subst hr
                    replace hMo1 := el_out hMo1
                    have hM := hMo1
                    injection hM with hM
                    subst hM
                    try simp only [Exit.then, Exit.inBlock, ↓reduceIte, Nat.reduceEqDiff]
                    refine ret_ok hS Tryd.results4 (res_tmp hS rfl res_nil) ?_
                    exact rfl
                  · replace hM := cf hb1763 hM
                    refine c_f hS rfl hb1763 ?_
                    refine wp_skip ?_
                    try simp only [Exit.then, Exit.inBlock, ↓reduceIte, Nat.reduceEqDiff]
                    refine hK361 _ _ ?_
                    refine r_list ?_
                    refine wl rfl (ky (v := .map (some b888)) hS (y_move hS rfl) rfl rfl fun a hS => ?_)
                    refine wl rfl (ky (v := .agg #[.int .i64 x1747, .string x1748]) hS (y_load hS rfl ty28 3 rfl id (us := [.int .i64 x1747, .string x1748]) rfl rfl (fun h => by cases h)) rfl rfl fun a hS => ?_)
                    refine wl rfl (k_mput hS mp39 kt_KeyD 0 rfl 1 rfl (c := [.int .i64 x1747, .string x1748]) (cv := [.bool true]) (key := (KeyD.mk x1747 x1748)) (val := true) rfl rfl rfl rfl rfl fun es1764 ck1765 w hk hS => ?_)
                    refine wpList_nil ?_
                    try simp only [Exit.then, Exit.inBlock, ↓reduceIte, Nat.reduceEqDiff]
                    exact ⟨(mput keq_KeyD (KeyD.mk x1747 x1748) true seen1446), low1740, high1741, d1743, es1764, ck1765, v1744, cl1745, (hS.meet [0, 1, 2] (by decide) ⟨rfl, rfl, rfl, rfl, rfl, rfl, rfl, rfl, trivial⟩ ⟨rfl, rfl, rfl, trivial⟩ ⟨⟨1, rfl⟩, ⟨0, rfl⟩, ⟨3, rfl⟩, ⟨4, rfl⟩, trivial⟩), hM⟩
        · rintro a w ⟨seen1699, low1702, high1703, d1704, es1700, ck1701, v1705, cl1706, hS, hM⟩
          unfold law32_DequeTwo_j3 at hM
          refine r_list ?_
          refine wl rfl (ky (v := .int .i64 (IntKind.i64.wrap (g1451 + 1))) hS (y_int hS rfl rfl rfl) rfl rfl fun a hS => ?_)
          refine wl rfl (ky (v := .int .i64 (IntKind.i64.wrap (g1451 + 1))) hS (y_move hS rfl) rfl rfl fun a hS => ?_)
          refine wpList_nil ?_
          try simp only [Exit.then, Exit.inBlock, ↓reduceIte, Nat.reduceEqDiff]
          exact ⟨(seen1699, low1702, high1703, IntKind.i64.wrap (g1451 + 1), d1704), (Option.some.inj hM).symm, seen1699, low1702, high1703, (IntKind.i64.wrap (g1451 + 1)), d1704, es1700, ck1701, v1705, cl1706, rfl, (hS.meet [0, 1, 2] (by decide) ⟨rfl, rfl, rfl, rfl, rfl, rfl, rfl, rfl, trivial⟩ ⟨rfl, rfl, rfl, trivial⟩ ⟨⟨0, rfl⟩, ⟨1, rfl⟩, ⟨2, rfl⟩, ⟨3, rfl⟩, trivial⟩)⟩
      · replace hM := cf hb1624 hM
        refine c_f hS rfl hb1624 ?_
        refine wp_exit ?_
        try simp only [Exit.then, Exit.inBlock, ↓reduceIte, Nat.reduceEqDiff]
        injection hM with hM
        subst hM
        have hr := hf1 _ rfl
        subst hr
        replace hMo1 := el_go hMo1
        have hM : law32_DequeTwo_j2 u845 seen1446 d1452 = some y := hMo1
        exact ⟨seen1446, d1452, es1447, ck1448, v1453, cl1454, (hS.meet [0, 1, 2] (by decide) ⟨rfl, rfl, rfl, trivial⟩ ⟨rfl, rfl, rfl, trivial⟩ ⟨⟨1, rfl⟩, ⟨2, rfl⟩, ⟨3, rfl⟩, trivial⟩), hM⟩
    · rintro a w ⟨seen1237, d1240, es1238, ck1239, v1241, cl1242, hS, hM⟩
      unfold law32_DequeTwo_j2 at hM
      refine wp_seq_k fun K259 hK259 => ?_
      refine r_list ?_
      refine wl rfl (ky (v := .agg #[v1241]) hS (y_load hS rfl ty26 2 rfl id (us := [v1241]) rfl rfl (fun h => by cases h)) rfl rfl fun a hS => ?_)
      have hL := hS
      replace hL := hL.freeze (R := R_KeyD) 1 rfl 1 rfl
      obtain ⟨u1244, hu1244, hM⟩ := bd hM
      refine wl rfl (k_call hS ci13 rfl rfl (deque_Pop_c _ _ hL.dlt (DequeD.mk d1240) _ (hL.get 0 rfl) _ hu1244) fun _ w hR a hk hA => ?_)
      obtain ⟨vz1245_2, clz1245_3, he, ⟨hOvz1245_2, hFvz1245_2, hRvz1245_2⟩⟩ := hR
      replace he := he.symm
      subst he
      have hS := hA [.own vz1245_2 28 R_KeyD.size clz1245_3] (adds1 ⟨hOvz1245_2, by decide⟩ hFvz1245_2) (pw1 _)
      replace hS := hS.fact (RowsF R_KeyD clz1245_3 u1244.1.Keys) hRvz1245_2
      refine wl rfl (ky (v := .tuple #[.agg #[vz1245_2], .agg #[.int .i64 u1244.2.1.Kind, .string u1244.2.1.Text], .bool u1244.2.2]) hS (y_move hS rfl) rfl rfl fun a hS => ?_)
      refine wl rfl (ky (v := .agg #[vz1245_2]) hS (y_ex hS rfl rfl) rfl rfl fun a hS => ?_)
      refine wl rfl (ky (v := .agg #[.int .i64 u1244.2.1.Kind, .string u1244.2.1.Text]) hS (y_ex hS rfl rfl) rfl rfl fun a hS => ?_)
      refine wl rfl (ky (v := .bool u1244.2.2) hS (y_ex hS rfl rfl) rfl rfl fun a hS => ?_)
      refine wl rfl (k_alloc hS ze26 rfl fun b1247 hnb1249 a w hk hS => ?_)
      refine wl rfl (k_alloc hS ze28 rfl fun b1250 hnb1252 a w hk hS => ?_)
      refine wl rfl (k_store hS rfl rfl (us := [vz1245_2]) rfl ty26 1 rfl rfl rfl (oc (own_one (hS.own _ (List.mem_of_getElem? (i := 2) rfl)).1) on) fun w hk hS => ?_)
      refine wl rfl (k_store hS rfl rfl (us := [.int .i64 u1244.2.1.Kind, .string u1244.2.1.Text]) rfl ty28 0 rfl rfl rfl (oc rfl (oc rfl on)) fun w hk hS => ?_)
      refine wl rfl (ky (v := .bool u1244.2.2) hS (y_assign hS rfl) rfl rfl fun a hS => ?_)
      refine wpList_nil ?_
      try simp only [Exit.then, Exit.inBlock, ↓reduceIte, Nat.reduceEqDiff]
      refine hK259 _ _ ?_
      refine wp_seq_k fun K260 hK260 => ?_
      refine r_list ?_
      refine wl rfl (ky (v := .agg #[v1241]) hS (y_load hS rfl ty26 5 rfl id (us := [v1241]) rfl rfl (fun h => by cases h)) rfl rfl fun a hS => ?_)
      have hL := hS
      replace hL := hL.freeze (R := R_KeyD) 4 rfl 2 rfl
      obtain ⟨u1253, hu1253, hM⟩ := bd hM
      refine wl rfl (k_call hS ci14 rfl rfl (deque_Steal_c _ _ hL.dlt (DequeD.mk d1240) _ (hL.get 0 rfl) _ hu1253) fun _ w hR a hk hA => ?_)
      obtain ⟨vz1254_2, clz1254_3, he, ⟨hOvz1254_2, hFvz1254_2, hRvz1254_2⟩⟩ := hR
      replace he := he.symm
      subst he
      have hS := hA [.own vz1254_2 28 R_KeyD.size clz1254_3] (adds1 ⟨hOvz1254_2, by decide⟩ hFvz1254_2) (pw1 _)
      replace hS := hS.fact (RowsF R_KeyD clz1254_3 u1253.1.Keys) hRvz1254_2
      refine wl rfl (ky (v := .tuple #[.agg #[vz1254_2], .agg #[.int .i64 u1253.2.1.Kind, .string u1253.2.1.Text], .bool u1253.2.2]) hS (y_move hS rfl) rfl rfl fun a hS => ?_)
      refine wl rfl (ky (v := .agg #[vz1254_2]) hS (y_ex hS rfl rfl) rfl rfl fun a hS => ?_)
      refine wl rfl (ky (v := .agg #[.int .i64 u1253.2.1.Kind, .string u1253.2.1.Text]) hS (y_ex hS rfl rfl) rfl rfl fun a hS => ?_)
      refine wl rfl (ky (v := .bool u1253.2.2) hS (y_ex hS rfl rfl) rfl rfl fun a hS => ?_)
      refine wl rfl (k_alloc hS ze26 rfl fun b1256 hnb1258 a w hk hS => ?_)
      refine wl rfl (k_alloc hS ze28 rfl fun b1259 hnb1261 a w hk hS => ?_)
      refine wl rfl (k_store hS rfl rfl (us := [vz1254_2]) rfl ty26 1 rfl rfl rfl (oc (own_one (hS.own _ (List.mem_of_getElem? (i := 2) rfl)).1) on) fun w hk hS => ?_)
      refine wl rfl (k_store hS rfl rfl (us := [.int .i64 u1253.2.1.Kind, .string u1253.2.1.Text]) rfl ty28 0 rfl rfl rfl (oc rfl (oc rfl on)) fun w hk hS => ?_)
      refine wl rfl (ky (v := .bool u1253.2.2) hS (y_assign hS rfl) rfl rfl fun a hS => ?_)
      refine wpList_nil ?_
      try simp only [Exit.then, Exit.inBlock, ↓reduceIte, Nat.reduceEqDiff]
      refine hK260 _ _ ?_
      refine seq_j (J := fun a w => ∃ (g1272 : Bool), St W0 No T 116 [(4, .bool g1272)] [] [LvF] a w ∧ law32_DequeTwo_j1 g1272 = some y) ?_ ?_
      · skip
        refine r_list ?_
        refine wl rfl (ky (v := .bool u1244.2.2) hS (y_move hS rfl) rfl rfl fun a hS => ?_)
        refine wl rfl (ky (v := .bool (!(u1244.2.2))) hS (y_not hS rfl) rfl rfl fun a hS => ?_)
        refine wl rfl (ky (v := .bool (!(u1244.2.2))) hS (y_move hS rfl) rfl rfl fun a hS => ?_)
        rcases bool2 (!(u1244.2.2)) with hb1273 | hb1273
        · replace hM := ct hb1273 hM
          refine wg hS rfl rfl rfl hb1273 (ky (v := .bool u1253.2.2) hS (y_move hS rfl) rfl rfl fun a hS => ?_)
          refine wg hS rfl rfl rfl hb1273 (ky (v := .bool (!(u1253.2.2))) hS (y_not hS rfl) rfl rfl fun a hS => ?_)
          refine wl rfl (ky (v := .bool (!(u1253.2.2))) hS (y_pickt hS rfl hb1273 rfl) rfl rfl fun a hS => ?_)
          refine wl rfl (ky (v := .bool (!(u1253.2.2))) hS (y_move hS rfl) rfl rfl fun a hS => ?_)
          rcases bool2 (!(u1253.2.2)) with hb1274 | hb1274
          · replace hM := ct hb1274 hM
            refine wg hS rfl rfl rfl hb1274 (ky (v := .map (some b888)) hS (y_move hS rfl) rfl rfl fun a hS => ?_)
            refine wg hS rfl rfl rfl hb1274 (ky (v := .int .i64 (seen1237.length : Int)) hS (y_mlen hS mp39 rfl 6 rfl 2 rfl id) rfl rfl fun a hS => ?_)
            refine wg hS rfl rfl rfl hb1274 (ky (v := .int .i64 u845) hS (y_move hS rfl) rfl rfl fun a hS => ?_)
            refine wg hS rfl rfl rfl hb1274 (ky (v := .bool (((seen1237.length : Int) : Int) == u845)) hS (y_int hS rfl rfl rfl) rfl rfl fun a hS => ?_)
            refine wl rfl (ky (v := .bool (((seen1237.length : Int) : Int) == u845)) hS (y_pickt hS rfl hb1274 rfl) rfl rfl fun a hS => ?_)
            refine wl rfl (ky (v := .bool (((seen1237.length : Int) : Int) == u845)) hS (y_move hS rfl) rfl rfl fun a hS => ?_)
            rcases bool2 (((seen1237.length : Int) : Int) == u845) with hb1275 | hb1275
            · replace hM := ct hb1275 hM
              obtain ⟨u1276, hu1276, hM⟩ := bd hM
              refine wg hS rfl rfl rfl hb1275 (k_call hS ci12 rfl rfl (law32_awake_c _ _ hS.dlt (hS.get 4 rfl) _ hu1276) fun _ w hR a hk hA => ?_)
              have he := Eq.symm hR
              subst he
              have hS := hA [] (fun r hr => by cases hr) List.Pairwise.nil
              refine wl rfl (ky (v := .bool u1276) hS (y_pickt hS rfl hb1275 rfl) rfl rfl fun a hS => ?_)
              refine wl rfl (ky (v := .bool u1276) hS (y_assign hS rfl) rfl rfl fun a hS => ?_)
              refine wpList_nil ?_
              try simp only [Exit.then, Exit.inBlock, ↓reduceIte, Nat.reduceEqDiff]
              exact ⟨u1276, (hS.meet [] (by decide) ⟨rfl, trivial⟩ trivial ⟨⟨4, rfl⟩, trivial⟩), hM⟩
            · replace hM := cf hb1275 hM
              refine wn hS rfl rfl rfl hb1275 rfl rfl fun a hS => ?_
              refine wl rfl (ky (v := .bool false) hS (y_pickf hS rfl hb1275 rfl) rfl rfl fun a hS => ?_)
              refine wl rfl (ky (v := .bool false) hS (y_assign hS rfl) rfl rfl fun a hS => ?_)
              refine wpList_nil ?_
              try simp only [Exit.then, Exit.inBlock, ↓reduceIte, Nat.reduceEqDiff]
              exact ⟨false, (hS.meet [] (by decide) ⟨rfl, trivial⟩ trivial ⟨⟨4, rfl⟩, trivial⟩), hM⟩
          · replace hM := cf hb1274 hM
            refine wn hS rfl rfl rfl hb1274 rfl rfl fun a hS => ?_
            refine wn hS rfl rfl rfl hb1274 rfl rfl fun a hS => ?_
            refine wn hS rfl rfl rfl hb1274 rfl rfl fun a hS => ?_
            refine wn hS rfl rfl rfl hb1274 rfl rfl fun a hS => ?_
            refine wl rfl (ky (v := .bool false) hS (y_pickf hS rfl hb1274 rfl) rfl rfl fun a hS => ?_)
            refine wl rfl (ky (v := .bool false) hS (y_move hS rfl) rfl rfl fun a hS => ?_)
            refine wn hS rfl rfl rfl rfl rfl rfl fun a hS => ?_
            refine wl rfl (ky (v := .bool false) hS (y_pickf hS rfl rfl rfl) rfl rfl fun a hS => ?_)
            refine wl rfl (ky (v := .bool false) hS (y_assign hS rfl) rfl rfl fun a hS => ?_)
            refine wpList_nil ?_
            try simp only [Exit.then, Exit.inBlock, ↓reduceIte, Nat.reduceEqDiff]
            exact ⟨false, (hS.meet [] (by decide) ⟨rfl, trivial⟩ trivial ⟨⟨4, rfl⟩, trivial⟩), hM⟩
        · replace hM := cf hb1273 hM
          refine wn hS rfl rfl rfl hb1273 rfl rfl fun a hS => ?_
          refine wn hS rfl rfl rfl hb1273 rfl rfl fun a hS => ?_
          refine wl rfl (ky (v := .bool false) hS (y_pickf hS rfl hb1273 rfl) rfl rfl fun a hS => ?_)
          refine wl rfl (ky (v := .bool false) hS (y_move hS rfl) rfl rfl fun a hS => ?_)
          refine wn hS rfl rfl rfl rfl rfl rfl fun a hS => ?_
          refine wn hS rfl rfl rfl rfl rfl rfl fun a hS => ?_
          refine wn hS rfl rfl rfl rfl rfl rfl fun a hS => ?_
          refine wn hS rfl rfl rfl rfl rfl rfl fun a hS => ?_
          refine wl rfl (ky (v := .bool false) hS (y_pickf hS rfl rfl rfl) rfl rfl fun a hS => ?_)
          refine wl rfl (ky (v := .bool false) hS (y_move hS rfl) rfl rfl fun a hS => ?_)
          refine wn hS rfl rfl rfl rfl rfl rfl fun a hS => ?_
          refine wl rfl (ky (v := .bool false) hS (y_pickf hS rfl rfl rfl) rfl rfl fun a hS => ?_)
          refine wl rfl (ky (v := .bool false) hS (y_assign hS rfl) rfl rfl fun a hS => ?_)
          refine wpList_nil ?_
          try simp only [Exit.then, Exit.inBlock, ↓reduceIte, Nat.reduceEqDiff]
          exact ⟨false, (hS.meet [] (by decide) ⟨rfl, trivial⟩ trivial ⟨⟨4, rfl⟩, trivial⟩), hM⟩
      · rintro a w ⟨g1272, hS, hM⟩
        unfold law32_DequeTwo_j1 at hM
        refine wp_ret ?_
        injection hM with hM
        subst hM
        try simp only [Exit.then, Exit.inBlock, ↓reduceIte, Nat.reduceEqDiff]
        refine ret_ok hS Tryd.results4 (res_tmp hS rfl res_nil) ?_
        exact rfl
end Go.Proofs.YtappkgmbdoiocaaDoor
