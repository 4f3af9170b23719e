/- What functions of the program compute; that they do. -/
import Derived.Test.YtjoilbmkcknnfaaDoorMT
import Derived.Test.YtjoilbmkcknnfaaDoorJ1
import Derived.Test.YtjoilbmkcknnfaaDoorD1
import Derived.Test.YtjoilbmkcknnfaaDoorE1
import Derived.Test.YtjoilbmkcknnfaaDoorE2
set_option linter.unusedVariables false
set_option linter.unusedSimpArgs false
namespace Go.Proofs.YtjoilbmkcknnfaaDoor
open Go.RowKit
noncomputable def compact_Key_j1 (s_0 : (List KeyD)) : Option (List KeyD) := some (s_0)
noncomputable def compact_Key_j2 (k12085 : Int) : Option (Fl (Int) (Fl (Unit) (List KeyD))) := some (.go (IntKind.i64.wrap (k12085 + 1)))
noncomputable def compact_Key_j3 (s15639 : (List KeyD)) (k15641 : Int) : Option (Fl (Int) (Fl (Unit) (List KeyD))) := (subI s15639 k15641 s15639.length).bind fun l15642 => (subI (List.take (Int.toNat k15641) s15639 ++ List.replicate ((Int.toNat (s15639.length : Int)) - (Int.toNat k15641)) (KeyD.mk (0 : Int) (ByteArray.mk #[])) ++ List.drop (Int.toNat (s15639.length : Int)) s15639) 0 k15641).bind fun l15648 => some (.out (.out l15648))
noncomputable def compact_Key_j4 (s16219 : (List KeyD)) (k16221 : Int) (k216222 : Int) : Option (Fl ((List KeyD) × Int × Int) ((List KeyD) × Int)) := some (.go (s16219, k16221, IntKind.i64.wrap (k216222 + 1)))
noncomputable def compact_Key_l5 (s_0 : (List KeyD)) (k12085 : Int) (s15878 : (List KeyD)) (k15880 : Int) (k215881 : Int) : Option (Fl ((List KeyD) × Int × Int) ((List KeyD) × Int)) := cond (decide ((k215881 : Int) < (((Int.toNat (s_0.length : Int)) - (Int.toNat k12085) : Nat) : Int))) (gd (decide (0 ≤ k215881)) <| gd (decide (k215881 < (((Int.toNat (s_0.length : Int)) - (Int.toNat k12085) : Nat) : Int))) <| (getI s15878 ((((Int.toNat k12085) : Nat) : Int) + k215881)).bind fun e16291 => gd (decide (0 ≤ IntKind.i64.wrap (k215881 - 1))) <| gd (decide (IntKind.i64.wrap (k215881 - 1) < (((Int.toNat (s_0.length : Int)) - (Int.toNat k12085) : Nat) : Int))) <| (getI s15878 ((((Int.toNat k12085) : Nat) : Int) + (IntKind.i64.wrap (k215881 - 1)))).bind fun e16302 => cond (!((e16291.Kind : Int) == e16302.Kind && e16291.Text.toList == e16302.Text.toList)) (gd (decide (0 ≤ k215881)) <| gd (decide (k215881 < (((Int.toNat (s_0.length : Int)) - (Int.toNat k12085) : Nat) : Int))) <| (getI s15878 ((((Int.toNat k12085) : Nat) : Int) + k215881)).bind fun e16314 => (getI s15878 k15880).bind fun e16323 => compact_Key_j4 (s15878.set (Int.toNat k15880) e16314) (IntKind.i64.wrap (k15880 + 1)) k215881) (compact_Key_j4 s15878 k15880 k215881)) (some (.out (s15878, k15880)))
noncomputable def compact_Key_l6 (s_0 : (List KeyD)) (k12085 : Int) : Option (Fl (Int) (Fl (Unit) (List KeyD))) := cond (decide ((k12085 : Int) < (s_0.length : Int))) ((getI s_0 k12085).bind fun e15158 => (getI s_0 (IntKind.i64.wrap (k12085 - 1))).bind fun e15167 => cond ((e15158.Kind : Int) == e15167.Kind && e15158.Text.toList == e15167.Text.toList) ((subI s_0 k12085 s_0.length).bind fun l15177 => (loop (fun s : (List KeyD) × Int × Int => compact_Key_l5 s_0 k12085 s.1 s.2.1 s.2.2) (s_0, k12085, 1)).bind fun r => compact_Key_j3 r.1 r.2) (compact_Key_j2 k12085)) (some (.out (.go ())))
noncomputable def compact_Key (s_0 : (List KeyD)) : Option (List KeyD) := cond (decide (((s_0.length : Int) : Int) < 2)) (some (s_0)) ((loop (fun s : Int => compact_Key_l6 s_0 s) 1).bind fun r => Fl.el r (fun s => compact_Key_j1 s_0) (fun y => some (y)))
set_option maxRecDepth 100000 in
set_option maxHeartbeats 4000000 in
theorem compact_Key_c (T : Nat → Prop) (W0 : World) (hT : ∀ k, T k → k < W0.heap.size) (s_0 : (List KeyD)) (v1 : Value) (cl2 : List Value) (hD : DOk T W0 [.own v1 28 R_KeyD.size cl2]) (hv1 : RowsOk R_KeyD (dT T [.own v1 28 R_KeyD.size cl2]) W0 cl2 s_0) (y : (List KeyD)) (hM : compact_Key s_0 = some y) : Rets Tryd.prog (MD [.own v1 28 R_KeyD.size cl2]) 90 [v1] W0 (fun v w' => ∃ (v3 : Value) (cl4 : List Value), v = v3 ∧ RowsOk R_KeyD (dT T [.own v3 28 R_KeyD.size cl4]) w' cl4 y ∧ DNew W0 w' [.own v1 28 R_KeyD.size cl2] [.own v3 28 R_KeyD.size cl4]) := by
  refine enterD (c := _) Tryd.func90 rfl T 61 Tryd.ntmps90 hT rfl hD fun a hS => ?_
  replace hS := hS.fact (RowsF R_KeyD cl2 s_0) hv1
  unfold compact_Key at hM
  refine wp_seq_k fun K194 hK194 => ?_
  refine r_list ?_
  refine wl rfl (ky (v := .slice none 0 0) hS (y_assign hS rfl) rfl rfl fun a hS => ?_)
  refine wpList_nil ?_
  try simp only [Exit.then, Exit.inBlock, ↓reduceIte, Nat.reduceEqDiff]
  refine hK194 _ _ ?_
  refine wp_seq_k fun K195 hK195 => ?_
  refine wp_seq_k fun K196 hK196 => ?_
  refine r_list ?_
  refine wl rfl (ky (v := v1) hS (y_move hS rfl) rfl rfl fun a hS => ?_)
  refine wl rfl (ky (v := .int .i64 (s_0.length : Int)) hS (y_leno (R := R_KeyD) (xs := s_0) hS sl22 rfl 0 rfl 0 rfl) rfl rfl fun a hS => ?_)
  refine wl rfl (ky (v := .bool (decide (((s_0.length : Int) : Int) < 2))) hS (y_int hS rfl rfl rfl) rfl rfl fun a hS => ?_)
  refine wpList_nil ?_
  try simp only [Exit.then, Exit.inBlock, ↓reduceIte, Nat.reduceEqDiff]
  refine hK196 _ _ ?_
  rcases bool2 (decide (((s_0.length : Int) : Int) < 2)) with hb6047 | hb6047
  · replace hM := ct hb6047 hM
    refine c_t hS rfl hb6047 ?_
    refine wp_seq_k fun K197 hK197 => ?_
    refine r_list ?_
    refine wl rfl (ky (v := v1) hS (y_move hS rfl) rfl rfl fun a hS => ?_)
    refine wl rfl (ky (v := v1) hS (y_assign hS rfl) rfl rfl fun a hS => ?_)
    refine wpList_nil ?_
    try simp only [Exit.then, Exit.inBlock, ↓reduceIte, Nat.reduceEqDiff]
    refine hK197 _ _ ?_
    refine wp_ret ?_
    injection hM with hM
    subst hM
    try simp only [Exit.then, Exit.inBlock, ↓reduceIte, Nat.reduceEqDiff]
    refine ret_ok hS Tryd.results90 (res_tmp hS rfl res_nil) ?_
    have hZ := hS.meet (G' := []) (D' := [.own v1 28 R_KeyD.size cl2]) (F' := [RowsF R_KeyD cl2 s_0]) [0] (by decide) trivial ⟨rfl, trivial⟩ ⟨⟨0, rfl⟩, trivial⟩
    exact ⟨v1, cl2, rfl, (hZ.get 0 rfl), hZ.dnew⟩
  · replace hM := cf hb6047 hM
    refine c_f hS rfl hb6047 ?_
    refine wp_skip ?_
    try simp only [Exit.then, Exit.inBlock, ↓reduceIte, Nat.reduceEqDiff]
    refine hK195 _ _ ?_
    refine seq_j (J := fun a w => St W0 (MD [.own v1 28 R_KeyD.size cl2]) T 61 [(0, v1)] [.own v1 28 R_KeyD.size cl2] [RowsF R_KeyD cl2 s_0] a w ∧ compact_Key_j1 s_0 = some y) ?_ ?_
    · skip
      refine wp_seq_k fun K324 hK324 => ?_
      refine r_list ?_
      refine wl rfl (ky (v := .int .i64 1) hS (y_assign hS rfl) rfl rfl fun a hS => ?_)
      refine wpList_nil ?_
      try simp only [Exit.then, Exit.inBlock, ↓reduceIte, Nat.reduceEqDiff]
      refine hK324 _ _ ?_
      refine wp_block ?_
      obtain ⟨r1, hl1, hMo1⟩ := bd hM
      refine wp_lp (fun s : Int => compact_Key_l6 s_0 s) (fun s a w => ∃ (k12085 : Int), k12085 = s ∧ St W0 (MD [.own v1 28 R_KeyD.size cl2]) T 61 [(0, v1), (3, .int .i64 k12085)] [.own v1 28 R_KeyD.size cl2] [RowsF R_KeyD cl2 s_0] a w) hl1 ⟨1, rfl, (hS.meet [0] (by decide) ⟨rfl, rfl, trivial⟩ ⟨rfl, trivial⟩ ⟨⟨0, rfl⟩, trivial⟩)⟩ ?_
      rintro s a w f1 ⟨k12085, rfl, hS⟩ hM hf1
      have hM : compact_Key_l6 s_0 k12085 = some f1 := hM
      unfold compact_Key_l6 at hM
      refine wp_seq_k fun K449 hK449 => ?_
      refine wp_seq_k fun K450 hK450 => ?_
      refine r_list ?_
      refine wl rfl (ky (v := .int .i64 k12085) hS (y_move hS rfl) rfl rfl fun a hS => ?_)
      refine wl rfl (ky (v := v1) hS (y_move hS rfl) rfl rfl fun a hS => ?_)
      refine wl rfl (ky (v := .int .i64 (s_0.length : Int)) hS (y_leno (R := R_KeyD) (xs := s_0) hS sl22 rfl 0 rfl 0 rfl) rfl rfl fun a hS => ?_)
      refine wl rfl (ky (v := .bool (decide ((k12085 : Int) < (s_0.length : Int)))) hS (y_int hS rfl rfl rfl) rfl rfl fun a hS => ?_)
      refine wpList_nil ?_
      try simp only [Exit.then, Exit.inBlock, ↓reduceIte, Nat.reduceEqDiff]
      refine hK450 _ _ ?_
      rcases bool2 (decide ((k12085 : Int) < (s_0.length : Int))) with hb14098 | hb14098
      · replace hM := ct hb14098 hM
        refine c_t hS rfl hb14098 ?_
        refine wp_skip ?_
        try simp only [Exit.then, Exit.inBlock, ↓reduceIte, Nat.reduceEqDiff]
        refine hK449 _ _ ?_
        refine seq_j (J := fun a w => St W0 (MD [.own v1 28 R_KeyD.size cl2]) T 61 [(0, v1), (3, .int .i64 k12085)] [.own v1 28 R_KeyD.size cl2] [RowsF R_KeyD cl2 s_0] a w ∧ compact_Key_j2 k12085 = some f1) ?_ ?_
        · skip
          refine wp_block ?_
          refine wp_seq_k fun K481 hK481 => ?_
          refine draws [] hS mixed rfl (fun c a d v w h => by cases d <;> exact h) fun w hQ hS => ?_
          refine dy 0 (v := v1) rfl (by kernel_rfl) (by kernel_rfl) (by kernel_rfl) rfl hQ hS (y_move hS rfl) rfl rfl rfl fun a hS => ?_
          refine dy 1 (v := .int .i64 k12085) rfl (by kernel_rfl) (by kernel_rfl) (by kernel_rfl) rfl hQ hS (y_move hS rfl) rfl rfl rfl fun a hS => ?_
          obtain ⟨e15158, he15158, hM⟩ := bd hM
          obtain ⟨b15159, o15160, p15165, cs15162, hr15161, hO15163, hC15164, hy15166⟩ := d_indexo (R := R_KeyD) hS sl22 ty28 0 rfl 0 rfl he15158
          obtain rfl := hr15161
          refine dy 2 (v := .pointer (some ⟨b15159, o15160, none⟩)) rfl (by kernel_rfl) (by kernel_rfl) (by kernel_rfl) rfl hQ hS (hy15166 rfl rfl) rfl rfl rfl fun a hS => ?_
          refine dy (l := []) 3 (v := .agg #[.int .i64 e15158.Kind, .string e15158.Text]) rfl (by kernel_rfl) (by kernel_rfl) (by kernel_rfl) (by kernel_rfl) hQ hS (y_loado (k := 0) hS ty28 0 rfl hO15163 hC15164 rfl eo_nil (us := [.int .i64 e15158.Kind, .string e15158.Text]) rfl rfl (fun h => by cases h)) rfl rfl rfl fun a hS => ?_
          refine dy 4 (v := v1) rfl (by kernel_rfl) (by kernel_rfl) (by kernel_rfl) rfl hQ hS (y_move hS rfl) rfl rfl rfl fun a hS => ?_
          refine dy 5 (v := .int .i64 k12085) rfl (by kernel_rfl) (by kernel_rfl) (by kernel_rfl) rfl hQ hS (y_move hS rfl) rfl rfl rfl fun a hS => ?_
          refine dy 6 (v := .int .i64 (IntKind.i64.wrap (k12085 - 1))) rfl (by kernel_rfl) (by kernel_rfl) (by kernel_rfl) rfl hQ hS (y_int hS rfl rfl rfl) rfl rfl rfl fun a hS => ?_
          obtain ⟨e15167, he15167, hM⟩ := bd hM
          obtain ⟨b15168, o15169, p15174, cs15171, hr15170, hO15172, hC15173, hy15175⟩ := d_indexo (R := R_KeyD) hS sl22 ty28 0 rfl 0 rfl he15167
          obtain rfl := hr15170
          refine dy 7 (v := .pointer (some ⟨b15168, o15169, none⟩)) rfl (by kernel_rfl) (by kernel_rfl) (by kernel_rfl) rfl hQ hS (hy15175 rfl rfl) rfl rfl rfl fun a hS => ?_
          refine dy (l := []) 8 (v := .agg #[.int .i64 e15167.Kind, .string e15167.Text]) rfl (by kernel_rfl) (by kernel_rfl) (by kernel_rfl) (by kernel_rfl) hQ hS (y_loado (k := 0) hS ty28 0 rfl hO15172 hC15173 rfl eo_nil (us := [.int .i64 e15167.Kind, .string e15167.Text]) rfl rfl (fun h => by cases h)) rfl rfl rfl fun a hS => ?_
          refine dy 9 (v := .bool ((e15158.Kind : Int) == e15167.Kind && e15158.Text.toList == e15167.Text.toList)) rfl (by kernel_rfl) (by kernel_rfl) (by kernel_rfl) rfl hQ hS (eq28 hS rfl rfl) rfl rfl rfl fun a hS => ?_
          refine wpE_done (by kernel_rfl) ?_ _
          try simp only [Exit.then, Exit.inBlock, ↓reduceIte, Nat.reduceEqDiff]
          refine hK481 _ _ ?_
          rcases bool2 ((e15158.Kind : Int) == e15167.Kind && e15158.Text.toList == e15167.Text.toList) with hb15176 | hb15176
          · replace hM := ct hb15176 hM
            refine c_t hS rfl hb15176 ?_
            refine wp_seq_k fun K482 hK482 => ?_
            refine r_list ?_
            refine wl rfl (ky (v := v1) hS (y_move hS rfl) rfl rfl fun a hS => ?_)
            refine wl rfl (ky (v := .int .i64 k12085) hS (y_move hS rfl) rfl rfl fun a hS => ?_)
            obtain ⟨l15177, hl15177, hM⟩ := bd hM
            obtain ⟨v15178, hv15179, hw15181, hy15180⟩ := d_win (R := R_KeyD) hS sl22 ty28 0 rfl 0 rfl hl15177
            replace hS := hS.fact (WinF 2 v1 v15178 (Int.toNat k12085) (Int.toNat (s_0.length : Int)) s_0.length) hw15181
            refine wl rfl (ky (v := v15178) hS (hy15180 (k2 := .i64) rfl (.inl ⟨_, rfl, rfl⟩) (.inr ⟨rfl, rfl⟩)) rfl rfl fun a hS => ?_)
            refine wl rfl (ky (v := v15178) hS (y_assign hS rfl) rfl rfl fun a hS => ?_)
            refine wpList_nil ?_
            try simp only [Exit.then, Exit.inBlock, ↓reduceIte, Nat.reduceEqDiff]
            refine hK482 _ _ ?_
            refine seq_j (J := fun a w => ∃ (s15639 : (List KeyD)) (k15641 : Int) (cl15640 : (List Value)), St W0 (MD [.own v1 28 R_KeyD.size cl2]) T 61 [(0, v1), (3, .int .i64 k15641)] [.own v1 28 R_KeyD.size cl15640] [RowsF R_KeyD cl15640 s15639] a w ∧ compact_Key_j3 s15639 k15641 = some f1) ?_ ?_
            · skip
              refine wp_seq_k fun K498 hK498 => ?_
              refine r_list ?_
              refine wl rfl (ky (v := .int .i64 1) hS (y_assign hS rfl) rfl rfl fun a hS => ?_)
              refine wpList_nil ?_
              try simp only [Exit.then, Exit.inBlock, ↓reduceIte, Nat.reduceEqDiff]
              refine hK498 _ _ ?_
              refine wp_block ?_
              obtain ⟨r2, hl2, hMo2⟩ := bd hM
              refine wp_lp (fun s : (List KeyD) × Int × Int => compact_Key_l5 s_0 k12085 s.1 s.2.1 s.2.2) (fun s a w => ∃ (s15878 : (List KeyD)) (k15880 : Int) (k215881 : Int) (cl15879 : (List Value)), (s15878, k15880, k215881) = s ∧ St W0 (MD [.own v1 28 R_KeyD.size cl2]) T 61 [(0, v1), (3, .int .i64 k15880), (4, v15178), (5, .int .i64 k215881)] [.own v1 28 R_KeyD.size cl15879] [RowsF R_KeyD cl15879 s15878, WinF 2 v1 v15178 (Int.toNat k12085) (Int.toNat (s_0.length : Int)) s_0.length] a w) hl2 ⟨s_0, k12085, 1, cl2, rfl, (hS.meet [0] (by decide) ⟨rfl, rfl, rfl, rfl, trivial⟩ ⟨rfl, trivial⟩ ⟨⟨1, rfl⟩, ⟨0, rfl⟩, trivial⟩)⟩ ?_
              rintro s a w f2 ⟨s15878, k15880, k215881, cl15879, rfl, hS⟩ hM hf2
              have hM : compact_Key_l5 s_0 k12085 s15878 k15880 k215881 = some f2 := hM
              unfold compact_Key_l5 at hM
              refine wp_seq_k fun K511 hK511 => ?_
              refine wp_seq_k fun K512 hK512 => ?_
              refine r_list ?_
              refine wl rfl (ky (v := .int .i64 k215881) hS (y_move hS rfl) rfl rfl fun a hS => ?_)
              refine wl rfl (ky (v := v15178) hS (y_move hS rfl) rfl rfl fun a hS => ?_)
              refine wl rfl (ky (v := .int .i64 (((Int.toNat (s_0.length : Int)) - (Int.toNat k12085) : Nat) : Int)) hS (y_lenw hS sl22 rfl (hS.get 1 rfl)) rfl rfl fun a hS => ?_)
              refine wl rfl (ky (v := .bool (decide ((k215881 : Int) < (((Int.toNat (s_0.length : Int)) - (Int.toNat k12085) : Nat) : Int)))) hS (y_int hS rfl rfl rfl) rfl rfl fun a hS => ?_)
              refine wpList_nil ?_
              try simp only [Exit.then, Exit.inBlock, ↓reduceIte, Nat.reduceEqDiff]
              refine hK512 _ _ ?_
              rcases bool2 (decide ((k215881 : Int) < (((Int.toNat (s_0.length : Int)) - (Int.toNat k12085) : Nat) : Int))) with hb16109 | hb16109
              · replace hM := ct hb16109 hM
                refine c_t hS rfl hb16109 ?_
                refine wp_skip ?_
                try simp only [Exit.then, Exit.inBlock, ↓reduceIte, Nat.reduceEqDiff]
                refine hK511 _ _ ?_
                refine seq_j (J := fun a w => ∃ (s16219 : (List KeyD)) (k16221 : Int) (k216222 : Int) (cl16220 : (List Value)), St W0 (MD [.own v1 28 R_KeyD.size cl2]) T 61 [(0, v1), (3, .int .i64 k16221), (4, v15178), (5, .int .i64 k216222)] [.own v1 28 R_KeyD.size cl16220] [RowsF R_KeyD cl16220 s16219, WinF 2 v1 v15178 (Int.toNat k12085) (Int.toNat (s_0.length : Int)) s_0.length] a w ∧ compact_Key_j4 s16219 k16221 k216222 = some f2) ?_ ?_
                · skip
                  refine wp_block ?_
                  refine wp_seq_k fun K515 hK515 => ?_
                  refine draws [] hS mixed rfl (fun c a d v w h => by cases d <;> exact h) fun w hQ hS => ?_
                  refine dy 0 (v := v15178) rfl (by kernel_rfl) (by kernel_rfl) (by kernel_rfl) rfl hQ hS (y_move hS rfl) rfl rfl rfl fun a hS => ?_
                  refine dy 1 (v := .int .i64 k215881) rfl (by kernel_rfl) (by kernel_rfl) (by kernel_rfl) rfl hQ hS (y_move hS rfl) rfl rfl rfl fun a hS => ?_
                  obtain ⟨hg16289, hM⟩ := gd_some hM
                  obtain ⟨hg16290, hM⟩ := gd_some hM
                  obtain ⟨e16291, he16291, hM⟩ := bd hM
                  obtain ⟨b16292, o16293, p16298, cs16295, hr16294, hO16296, hC16297, hy16299⟩ := d_indexw (R := R_KeyD) hS sl22 ty28 0 rfl 0 rfl (hS.get 1 rfl) hg16289 hg16290 he16291
                  obtain rfl := hr16294
                  refine dy 2 (v := .pointer (some ⟨b16292, o16293, none⟩)) rfl (by kernel_rfl) (by kernel_rfl) (by kernel_rfl) rfl hQ hS (hy16299 rfl rfl) rfl rfl rfl fun a hS => ?_
                  refine dy (l := []) 3 (v := .agg #[.int .i64 e16291.Kind, .string e16291.Text]) rfl (by kernel_rfl) (by kernel_rfl) (by kernel_rfl) (by kernel_rfl) hQ hS (y_loado (k := 0) hS ty28 0 rfl hO16296 hC16297 rfl eo_nil (us := [.int .i64 e16291.Kind, .string e16291.Text]) rfl rfl (fun h => by cases h)) rfl rfl rfl fun a hS => ?_
                  refine dy 4 (v := v15178) rfl (by kernel_rfl) (by kernel_rfl) (by kernel_rfl) rfl hQ hS (y_move hS rfl) rfl rfl rfl fun a hS => ?_
                  refine dy 5 (v := .int .i64 k215881) rfl (by kernel_rfl) (by kernel_rfl) (by kernel_rfl) rfl hQ hS (y_move hS rfl) rfl rfl rfl fun a hS => ?_
                  refine dy 6 (v := .int .i64 (IntKind.i64.wrap (k215881 - 1))) rfl (by kernel_rfl) (by kernel_rfl) (by kernel_rfl) rfl hQ hS (y_int hS rfl rfl rfl) rfl rfl rfl fun a hS => ?_
                  obtain ⟨hg16300, hM⟩ := gd_some hM
                  obtain ⟨hg16301, hM⟩ := gd_some hM
                  obtain ⟨e16302, he16302, hM⟩ := bd hM
                  obtain ⟨b16303, o16304, p16309, cs16306, hr16305, hO16307, hC16308, hy16310⟩ := d_indexw (R := R_KeyD) hS sl22 ty28 0 rfl 0 rfl (hS.get 1 rfl) hg16300 hg16301 he16302
                  obtain rfl := hr16305
                  refine dy 7 (v := .pointer (some ⟨b16303, o16304, none⟩)) rfl (by kernel_rfl) (by kernel_rfl) (by kernel_rfl) rfl hQ hS (hy16310 rfl rfl) rfl rfl rfl fun a hS => ?_
                  refine dy (l := []) 8 (v := .agg #[.int .i64 e16302.Kind, .string e16302.Text]) rfl (by kernel_rfl) (by kernel_rfl) (by kernel_rfl) (by kernel_rfl) hQ hS (y_loado (k := 0) hS ty28 0 rfl hO16307 hC16308 rfl eo_nil (us := [.int .i64 e16302.Kind, .string e16302.Text]) rfl rfl (fun h => by cases h)) rfl rfl rfl fun a hS => ?_
                  refine dy 9 (v := .bool (!((e16291.Kind : Int) == e16302.Kind && e16291.Text.toList == e16302.Text.toList))) rfl (by kernel_rfl) (by kernel_rfl) (by kernel_rfl) rfl hQ hS (eq28n hS rfl rfl) rfl rfl rfl fun a hS => ?_
                  refine wpE_done (by kernel_rfl) ?_ _
                  try simp only [Exit.then, Exit.inBlock, ↓reduceIte, Nat.reduceEqDiff]
                  refine hK515 _ _ ?_
                  rcases bool2 (!((e16291.Kind : Int) == e16302.Kind && e16291.Text.toList == e16302.Text.toList)) with hb16311 | hb16311
                  · replace hM := ct hb16311 hM
                    refine c_t hS rfl hb16311 ?_
                    refine wp_seq_k fun K516 hK516 => ?_
                    refine r_list ?_
                    refine wl rfl (ky (v := v1) hS (y_move hS rfl) rfl rfl fun a hS => ?_)
                    refine wl rfl (ky (v := .int .i64 k15880) hS (y_move hS rfl) rfl rfl fun a hS => ?_)
                    refine wl rfl (ky (v := v15178) hS (y_move hS rfl) rfl rfl fun a hS => ?_)
                    refine wl rfl (ky (v := .int .i64 k215881) hS (y_move hS rfl) rfl rfl fun a hS => ?_)
                    obtain ⟨hg16312, hM⟩ := gd_some hM
                    obtain ⟨hg16313, hM⟩ := gd_some hM
                    obtain ⟨e16314, he16314, hM⟩ := bd hM
                    obtain ⟨b16315, o16316, p16321, cs16318, hr16317, hO16319, hC16320, hy16322⟩ := d_indexw (R := R_KeyD) hS sl22 ty28 0 rfl 0 rfl (hS.get 1 rfl) hg16312 hg16313 he16314
                    obtain rfl := hr16317
                    refine wl rfl (ky (v := .pointer (some ⟨b16315, o16316, none⟩)) hS (hy16322 rfl rfl) rfl rfl fun a hS => ?_)
                    refine wl rfl (ky (v := .agg #[.int .i64 e16314.Kind, .string e16314.Text]) hS (y_loado (k := 0) hS ty28 0 rfl hO16319 hC16320 rfl id (us := [.int .i64 e16314.Kind, .string e16314.Text]) rfl rfl (fun h => by cases h)) rfl rfl fun a hS => ?_)
                    obtain ⟨e16323, he16323, hM⟩ := bd hM
                    refine wl rfl (k_indexo (R := R_KeyD) hS sl22 ty28 rfl rfl 0 rfl 0 rfl he16323 rfl fun b16324 o16325 p16330 cs16327 hr16326 hO16328 hC16329 a hS => ?_)
                    obtain rfl := hr16326
                    refine wl rfl (k_storeo (R := R_KeyD) (k := 0) (cs := [.int .i64 e16323.Kind, .string e16323.Text]) (us := [.int .i64 e16314.Kind, .string e16314.Text]) (x' := e16314) hS rfl rfl rfl ty28 0 rfl 0 rfl hO16328 hC16329 he16323 rfl rfl rfl rfl fun cl16331 w hk hS => ?_)
                    refine wpList_nil ?_
                    try simp only [Exit.then, Exit.inBlock, ↓reduceIte, Nat.reduceEqDiff]
                    refine hK516 _ _ ?_
                    refine r_list ?_
                    refine wl rfl (ky (v := .int .i64 k15880) hS (y_move hS rfl) rfl rfl fun a hS => ?_)
                    refine wl rfl (ky (v := .int .i64 (IntKind.i64.wrap (k15880 + 1))) hS (y_int hS rfl rfl rfl) rfl rfl fun a hS => ?_)
                    refine wl rfl (ky (v := .int .i64 (IntKind.i64.wrap (k15880 + 1))) hS (y_assign hS rfl) rfl rfl fun a hS => ?_)
                    refine wpList_nil ?_
                    try simp only [Exit.then, Exit.inBlock, ↓reduceIte, Nat.reduceEqDiff]
                    exact ⟨(s15878.set (Int.toNat k15880) e16314), (IntKind.i64.wrap (k15880 + 1)), k215881, cl16331, (hS.meet [0] (by decide) ⟨rfl, rfl, rfl, rfl, trivial⟩ ⟨rfl, trivial⟩ ⟨⟨0, rfl⟩, ⟨2, rfl⟩, trivial⟩), hM⟩
                  · replace hM := cf hb16311 hM
                    refine c_f hS rfl hb16311 ?_
                    refine wp_skip ?_
                    try simp only [Exit.then, Exit.inBlock, ↓reduceIte, Nat.reduceEqDiff]
                    exact ⟨s15878, k15880, k215881, cl15879, (hS.meet [0] (by decide) ⟨rfl, rfl, rfl, rfl, trivial⟩ ⟨rfl, trivial⟩ ⟨⟨0, rfl⟩, ⟨1, rfl⟩, trivial⟩), hM⟩
                · rintro a w ⟨s16219, k16221, k216222, cl16220, hS, hM⟩
                  unfold compact_Key_j4 at hM
                  refine r_list ?_
                  refine wl rfl (ky (v := .int .i64 k216222) hS (y_move hS rfl) rfl rfl fun a hS => ?_)
                  refine wl rfl (ky (v := .int .i64 (IntKind.i64.wrap (k216222 + 1))) hS (y_int hS rfl rfl rfl) rfl rfl fun a hS => ?_)
                  refine wl rfl (ky (v := .int .i64 (IntKind.i64.wrap (k216222 + 1))) hS (y_assign hS rfl) rfl rfl fun a hS => ?_)
                  refine wpList_nil ?_
                  try simp only [Exit.then, Exit.inBlock, ↓reduceIte, Nat.reduceEqDiff]
                  exact ⟨(s16219, k16221, IntKind.i64.wrap (k216222 + 1)), (Option.some.inj hM).symm, s16219, k16221, (IntKind.i64.wrap (k216222 + 1)), cl16220, rfl, (hS.meet [0] (by decide) ⟨rfl, rfl, rfl, rfl, trivial⟩ ⟨rfl, trivial⟩ ⟨⟨0, rfl⟩, ⟨1, rfl⟩, trivial⟩)⟩
              · replace hM := cf hb16109 hM
                refine c_f hS rfl hb16109 ?_
                refine wp_exit ?_
                try simp only [Exit.then, Exit.inBlock, ↓reduceIte, Nat.reduceEqDiff]
                injection hM with hM
                subst hM
                have hr := hf2 _ rfl
                subst hr
                have hM : compact_Key_j3 s15878 k15880 = some f1 := hMo2
                exact ⟨s15878, k15880, cl15879, (hS.meet [0] (by decide) ⟨rfl, rfl, trivial⟩ ⟨rfl, trivial⟩ ⟨⟨0, rfl⟩, trivial⟩), hM⟩
            · rintro a w ⟨s15639, k15641, cl15640, hS, hM⟩
              unfold compact_Key_j3 at hM
              refine wp_seq_k fun K496 hK496 => ?_
              refine r_list ?_
              refine wl rfl (ky (v := v1) hS (y_move hS rfl) rfl rfl fun a hS => ?_)
              refine wl rfl (ky (v := .int .i64 k15641) hS (y_move hS rfl) rfl rfl fun a hS => ?_)
              obtain ⟨l15642, hl15642, hM⟩ := bd hM
              obtain ⟨v15643, hv15644, hw15646, hy15645⟩ := d_win (R := R_KeyD) hS sl22 ty28 0 rfl 0 rfl hl15642
              replace hS := hS.fact (WinF 2 v1 v15643 (Int.toNat k15641) (Int.toNat (s15639.length : Int)) s15639.length) hw15646
              refine wl rfl (ky (v := v15643) hS (hy15645 (k2 := .i64) rfl (.inl ⟨_, rfl, rfl⟩) (.inr ⟨rfl, rfl⟩)) rfl rfl fun a hS => ?_)
              refine wl rfl (k_clear (R := R_KeyD) (z0 := (KeyD.mk (0 : Int) (ByteArray.mk #[]))) (xs := s15639) hS el22 ze28 rfl 0 rfl 1 rfl (hS.get 0 rfl) rfl fun cl15647 w hk hS => ?_)
              refine wpList_nil ?_
              try simp only [Exit.then, Exit.inBlock, ↓reduceIte, Nat.reduceEqDiff]
              refine hK496 _ _ ?_
              refine wp_seq_k fun K497 hK497 => ?_
              refine r_list ?_
              refine wl rfl (ky (v := v1) hS (y_move hS rfl) rfl rfl fun a hS => ?_)
              refine wl rfl (ky (v := .int .i64 k15641) hS (y_move hS rfl) rfl rfl fun a hS => ?_)
              obtain ⟨l15648, hl15648, hM⟩ := bd hM
              refine wl rfl (k_subo (R := R_KeyD) (k1 := .i64) hS sl22 ty28 rfl (.inr ⟨rfl, rfl⟩) (.inl ⟨_, rfl, rfl⟩) 0 rfl 0 rfl hl15648 rfl fun v15649 cl15650 a hS => ?_)
              refine wl rfl (ky (v := v15649) hS (y_assign hS rfl) rfl rfl fun a hS => ?_)
              refine wpList_nil ?_
              try simp only [Exit.then, Exit.inBlock, ↓reduceIte, Nat.reduceEqDiff]
              refine hK497 _ _ ?_
              refine wp_ret ?_
              injection hM with hM
              subst hM
              have hr := hf1 _ rfl
              subst hr
              replace hMo1 := el_out hMo1
              have hM := hMo1
              injection hM with hM
              subst hM
              try simp only [Exit.then, Exit.inBlock, ↓reduceIte, Nat.reduceEqDiff]
              refine ret_ok hS Tryd.results90 (res_tmp hS rfl res_nil) ?_
              have hZ := hS.meet (G' := []) (D' := [.own v15649 28 R_KeyD.size cl15650]) (F' := [RowsF R_KeyD cl15650 l15648]) [0] (by decide) trivial ⟨rfl, trivial⟩ ⟨⟨0, rfl⟩, trivial⟩
              exact ⟨v15649, cl15650, rfl, (hZ.get 0 rfl), hZ.dnew⟩
          · replace hM := cf hb15176 hM
            refine c_f hS rfl hb15176 ?_
            refine wp_skip ?_
            try simp only [Exit.then, Exit.inBlock, ↓reduceIte, Nat.reduceEqDiff]
            exact ⟨(hS.meet [0] (by decide) ⟨rfl, rfl, trivial⟩ ⟨rfl, trivial⟩ ⟨⟨0, rfl⟩, trivial⟩), hM⟩
        · rintro a w ⟨hS, hM⟩
          unfold compact_Key_j2 at hM
          refine r_list ?_
          refine wl rfl (ky (v := .int .i64 k12085) hS (y_move hS rfl) rfl rfl fun a hS => ?_)
          refine wl rfl (ky (v := .int .i64 (IntKind.i64.wrap (k12085 + 1))) hS (y_int hS rfl rfl rfl) rfl rfl fun a hS => ?_)
          refine wl rfl (ky (v := .int .i64 (IntKind.i64.wrap (k12085 + 1))) hS (y_assign hS rfl) rfl rfl fun a hS => ?_)
          refine wpList_nil ?_
          try simp only [Exit.then, Exit.inBlock, ↓reduceIte, Nat.reduceEqDiff]
          exact ⟨IntKind.i64.wrap (k12085 + 1), (Option.some.inj hM).symm, (IntKind.i64.wrap (k12085 + 1)), rfl, (hS.meet [0] (by decide) ⟨rfl, rfl, trivial⟩ ⟨rfl, trivial⟩ ⟨⟨0, rfl⟩, trivial⟩)⟩
      · replace hM := cf hb14098 hM
        refine c_f hS rfl hb14098 ?_
        refine wp_exit ?_
        try simp only [Exit.then, Exit.inBlock, ↓reduceIte, Nat.reduceEqDiff]
        injection hM with hM
        subst hM
        have hr := hf1 _ rfl
        subst hr
        replace hMo1 := el_go hMo1
        have hM : compact_Key_j1 s_0 = some y := hMo1
        exact ⟨(hS.meet [0] (by decide) ⟨rfl, trivial⟩ ⟨rfl, trivial⟩ ⟨⟨0, rfl⟩, trivial⟩), hM⟩
    · rintro a w ⟨hS, hM⟩
      unfold compact_Key_j1 at hM
      refine wp_seq_k fun K323 hK323 => ?_
      refine r_list ?_
      refine wl rfl (ky (v := v1) hS (y_move hS rfl) rfl rfl fun a hS => ?_)
      refine wl rfl (ky (v := v1) hS (y_assign hS rfl) rfl rfl fun a hS => ?_)
      refine wpList_nil ?_
      try simp only [Exit.then, Exit.inBlock, ↓reduceIte, Nat.reduceEqDiff]
      refine hK323 _ _ ?_
      refine wp_ret ?_
      injection hM with hM
      subst hM
      try simp only [Exit.then, Exit.inBlock, ↓reduceIte, Nat.reduceEqDiff]
      refine ret_ok hS Tryd.results90 (res_tmp hS rfl res_nil) ?_
      have hZ := hS.meet (G' := []) (D' := [.own v1 28 R_KeyD.size cl2]) (F' := [RowsF R_KeyD cl2 s_0]) [0] (by decide) trivial ⟨rfl, trivial⟩ ⟨⟨0, rfl⟩, trivial⟩
      exact ⟨v1, cl2, rfl, (hZ.get 0 rfl), hZ.dnew⟩

noncomputable def key_Sorted (l_0 : (List KeyD)) : Option (List KeyD) := (clone_Key l_0).bind fun u13 => gd (roomB u13.length) <| (compact_Key (sortK u13)).bind fun u20 => some (u20)
set_option maxRecDepth 100000 in
set_option maxHeartbeats 4000000 in
theorem key_Sorted_c (T : Nat → Prop) (W0 : World) (hT : ∀ k, T k → k < W0.heap.size) (hLv : LvP T W0) (l_0 : (List KeyD)) (v1 : Value) (hv1 : SlR R_KeyD T W0 v1 l_0) (y : (List KeyD)) (hM : key_Sorted l_0 = some y) : Rets Tryd.prog No 55 [v1] W0 (fun v w' => ∃ (v2 : Value) (cl3 : List Value), v = v2 ∧ OwnR R_KeyD T W0 w' [.own v2 28 R_KeyD.size cl3] 28 v2 cl3 y) := by
  refine enter (c := _) Tryd.func55 rfl T 10 Tryd.ntmps55 hT rfl fun a hS => ?_
  replace hS := hS.fact LvF (LvP.dn hLv)
  replace hS := hS.fact (SlF R_KeyD v1 l_0) (SlR.dn hv1)
  unfold key_Sorted at hM
  refine wp_seq_k fun K5 hK5 => ?_
  refine r_list ?_
  refine wl rfl (ky (v := .slice none 0 0) hS (y_assign hS rfl) rfl rfl fun a hS => ?_)
  refine wpList_nil ?_
  try simp only [Exit.then, Exit.inBlock, ↓reduceIte, Nat.reduceEqDiff]
  refine hK5 _ _ ?_
  refine wp_seq_k fun K6 hK6 => ?_
  refine r_list ?_
  refine wl rfl (ky (v := v1) hS (y_move hS rfl) rfl rfl fun a hS => ?_)
  obtain ⟨u13, hu13, hM⟩ := bd hM
  refine wl rfl (k_call hS ci88 rfl rfl (clone_Key_c _ _ hS.dlt l_0 _ (hS.get 0 rfl) _ hu13) fun _ w hR a hk hA => ?_)
  obtain ⟨vz14_2, clz14_3, he, ⟨hOvz14_2, hFvz14_2, hRvz14_2⟩⟩ := hR
  replace he := he.symm
  subst he
  have hS := hA [.own vz14_2 28 R_KeyD.size clz14_3] (adds1 ⟨hOvz14_2, by decide⟩ hFvz14_2) (pw1 _)
  replace hS := hS.fact (RowsF R_KeyD clz14_3 u13) (hRvz14_2.keep (Kt.refl _ _) (dT_dT _))
  refine wl rfl (ky (v := vz14_2) hS (y_assign hS rfl) rfl rfl fun a hS => ?_)
  refine wpList_nil ?_
  try simp only [Exit.then, Exit.inBlock, ↓reduceIte, Nat.reduceEqDiff]
  refine hK6 _ _ ?_
  refine wp_seq_k fun K7 hK7 => ?_
  refine r_list ?_
  refine wl rfl (ky (v := vz14_2) hS (y_move hS rfl) rfl rfl fun a hS => ?_)
  obtain ⟨hg16, hM⟩ := gd_some hM
  replace hS := (show St W0 No T 10 _ ([.own vz14_2 28 R_KeyD.size clz14_3] ++ []) _ _ _ from hS)
  refine wl rfl (k_callD (D0 := [.own vz14_2 28 R_KeyD.size clz14_3]) (Dr := []) hS ci89 rfl rfl (sortKey_c _ _ _ _ _ hS.dok (hS.getD 0 rfl) hg16) fun _ w hR a hk hA => ?_)
  obtain ⟨he, cl17, hR19, hN18⟩ := hR
  subst he
  have hS := hA _ hN18
  replace hS := (show St W0 No T 10 _ [.own vz14_2 28 R_KeyD.size cl17] _ _ _ from hS)
  replace hS := hS.fact (RowsF R_KeyD cl17 (sortK u13)) (hR19.keep (Kt.refl _ _) (dT_join _))
  refine wpList_nil ?_
  try simp only [Exit.then, Exit.inBlock, ↓reduceIte, Nat.reduceEqDiff]
  refine hK7 _ _ ?_
  refine wp_seq_k fun K8 hK8 => ?_
  refine r_list ?_
  refine wl rfl (ky (v := vz14_2) hS (y_move hS rfl) rfl rfl fun a hS => ?_)
  have hL := hS
  obtain ⟨u20, hu20, hM⟩ := bd hM
  replace hS := (show St W0 No T 10 _ ([.own vz14_2 28 R_KeyD.size cl17] ++ []) _ _ _ from hS)
  refine wl rfl (k_callD (D0 := [.own vz14_2 28 R_KeyD.size cl17]) (Dr := []) hS ci90 rfl rfl (compact_Key_c _ _ hS.dltD (sortK u13) _ _ hS.dok (hS.getD 0 rfl) _ hu20) fun _ w hR a hk hA => ?_)
  obtain ⟨vz21_3, clz21_4, he, hRvz21_3, hN22⟩ := hR
  replace he := he.symm
  subst he
  have hS := hA _ hN22
  replace hS := (show St W0 No T 10 _ [.own vz21_3 28 R_KeyD.size clz21_4] _ _ _ from hS)
  replace hS := hS.fact (RowsF R_KeyD clz21_4 u20) (hRvz21_3.keep (Kt.refl _ _) (dT_join _))
  refine wl rfl (ky (v := vz21_3) hS (y_assign hS rfl) rfl rfl fun a hS => ?_)
  refine wpList_nil ?_
  try simp only [Exit.then, Exit.inBlock, ↓reduceIte, Nat.reduceEqDiff]
  refine hK8 _ _ ?_
  refine wp_ret ?_
  injection hM with hM
  subst hM
  try simp only [Exit.then, Exit.inBlock, ↓reduceIte, Nat.reduceEqDiff]
  refine ret_ok hS Tryd.results55 (res_tmp hS rfl res_nil) ?_
  exact ⟨vz21_3, clz21_4, rfl, hS.retOwn ⟨.inr (List.mem_of_getElem? (i := 0) rfl), trivial⟩ 0 rfl 0 rfl⟩

noncomputable def ref23_Sorted_j1 (out4085 : (List KeyD)) : Option (List KeyD) := some (out4085)
noncomputable def ref23_Sorted_j2 (g4802 : Int) (out5784 : (List KeyD)) : Option (Fl ((List KeyD) × Int) ((List KeyD))) := some (.go (out5784, IntKind.i64.wrap (g4802 + 1)))
noncomputable def ref23_Sorted_j3 (out4798 : (List KeyD)) (g4802 : Int) (e5788 : KeyD) (i5898 : Int) (g5939 : Bool) : Option (Fl ((List KeyD) × Int) ((List KeyD))) := cond g5939 ((subI out4798 0 i5898).bind fun l5966 => (subI out4798 i5898 out4798.length).bind fun l5971 => gd (roomB (([] : List KeyD).length + l5966.length)) <| gd (roomB ((([] : List KeyD) ++ l5966).length + ([e5788]).length)) <| gd (roomB (((([] : List KeyD) ++ l5966) ++ ([e5788])).length + l5971.length)) <| ref23_Sorted_j2 g4802 (((([] : List KeyD) ++ l5966) ++ ([e5788])) ++ l5971)) (ref23_Sorted_j2 g4802 out4798)
noncomputable def ref23_Sorted_j4 (out4798 : (List KeyD)) (g4802 : Int) (e5788 : KeyD) (i5898 : Int) : Option (Fl ((List KeyD) × Int) ((List KeyD))) := cond ((i5898 : Int) == (out4798.length : Int)) (ref23_Sorted_j3 out4798 g4802 e5788 i5898 true) ((getI out4798 i5898).bind fun e6001 => ref23_Sorted_j3 out4798 g4802 e5788 i5898 (!((e6001.Kind : Int) == e5788.Kind && e6001.Text.toList == e5788.Text.toList)))
noncomputable def ref23_Sorted_l5 (out4798 : (List KeyD)) (e5788 : KeyD) (i6060 : Int) : Option (Fl (Int) (Int)) := cond (decide ((i6060 : Int) < (out4798.length : Int))) ((getI out4798 i6060).bind fun e6148 => (ref23_Cmp e6148 e5788).bind fun u6157 => cond (decide ((u6157 : Int) < 0)) (some (.go (IntKind.i64.wrap (i6060 + 1)))) (some (.out i6060))) (some (.out i6060))
noncomputable def ref23_Sorted_l6 (l_0 : (List KeyD)) (out4798 : (List KeyD)) (g4802 : Int) : Option (Fl ((List KeyD) × Int) ((List KeyD))) := cond (decide ((g4802 : Int) < (l_0.length : Int))) ((getI l_0 g4802).bind fun e5788 => (loop (fun s : Int => ref23_Sorted_l5 out4798 e5788 s) 0).bind fun r => ref23_Sorted_j4 out4798 g4802 e5788 r) (some (.out out4798))
noncomputable def ref23_Sorted (l_0 : (List KeyD)) : Option (List KeyD) := (loop (fun s : (List KeyD) × Int => ref23_Sorted_l6 l_0 s.1 s.2) (([] : List KeyD), 0)).bind fun r => ref23_Sorted_j1 r
set_option maxRecDepth 100000 in
set_option maxHeartbeats 4000000 in
theorem ref23_Sorted_c (T : Nat → Prop) (W0 : World) (hT : ∀ k, T k → k < W0.heap.size) (hLv : LvP T W0) (l_0 : (List KeyD)) (v1 : Value) (hv1 : SlR R_KeyD T W0 v1 l_0) (y : (List KeyD)) (hM : ref23_Sorted l_0 = some y) : Rets Tryd.prog No 56 [v1] W0 (fun v w' => ∃ (v2 : Value) (cl3 : List Value), v = v2 ∧ OwnR R_KeyD T W0 w' [.own v2 28 R_KeyD.size cl3] 28 v2 cl3 y) := by
  refine enter (c := _) Tryd.func56 rfl T 53 Tryd.ntmps56 hT rfl fun a hS => ?_
  replace hS := hS.fact LvF (LvP.dn hLv)
  replace hS := hS.fact (SlF R_KeyD v1 l_0) (SlR.dn hv1)
  unfold ref23_Sorted at hM
  refine wp_seq_k fun K92 hK92 => ?_
  refine r_list ?_
  refine wl rfl (ky (v := .slice none 0 0) hS (y_assign hS rfl) rfl rfl fun a hS => ?_)
  refine wpList_nil ?_
  try simp only [Exit.then, Exit.inBlock, ↓reduceIte, Nat.reduceEqDiff]
  refine hK92 _ _ ?_
  refine wp_seq_k fun K93 hK93 => ?_
  refine r_list ?_
  refine wl rfl (ky (v := .slice none 0 0) hS (y_assign hS rfl) rfl rfl fun a hS => ?_)
  refine wpList_nil ?_
  try simp only [Exit.then, Exit.inBlock, ↓reduceIte, Nat.reduceEqDiff]
  refine hK93 _ _ ?_
  refine seq_j (J := fun a w => ∃ (out4085 : (List KeyD)) (v4086 : Value) (cl4087 : (List Value)), St W0 No T 53 [(3, v4086)] [.own v4086 28 R_KeyD.size cl4087] [RowsF R_KeyD cl4087 out4085, LvF] a w ∧ ref23_Sorted_j1 out4085 = some y) ?_ ?_
  · skip
    refine wp_seq_k fun K140 hK140 => ?_
    refine r_list ?_
    refine wl rfl (ky (v := v1) hS (y_move hS rfl) rfl rfl fun a hS => ?_)
    refine wl rfl (ky (v := .int .i64 (l_0.length : Int)) hS (y_len (R := R_KeyD) (xs := l_0) hS sl22 rfl 0 rfl) rfl rfl fun a hS => ?_)
    refine wl rfl (ky (v := .int .i64 0) hS (y_move hS rfl) rfl rfl fun a hS => ?_)
    refine wpList_nil ?_
    try simp only [Exit.then, Exit.inBlock, ↓reduceIte, Nat.reduceEqDiff]
    refine hK140 _ _ ?_
    refine wp_block ?_
    replace hS := hS.nilRow R_KeyD 28 (by decide)
    obtain ⟨r1, hl1, hMo1⟩ := bd hM
    refine wp_lp (fun s : (List KeyD) × Int => ref23_Sorted_l6 l_0 s.1 s.2) (fun s a w => ∃ (out4798 : (List KeyD)) (g4802 : Int) (v4799 : Value) (cl4800 : (List Value)), (out4798, g4802) = s ∧ St W0 No T 53 [(3, v4799), (7, v1), (8, .int .i64 (l_0.length : Int)), (9, .int .i64 g4802)] [.own v4799 28 R_KeyD.size cl4800] [RowsF R_KeyD cl4800 out4798, SlF R_KeyD v1 l_0, LvF] a w) hl1 ⟨([] : List KeyD), 0, (.slice none 0 0), ([]), rfl, (hS.meet [0] (by decide) ⟨rfl, rfl, rfl, rfl, trivial⟩ ⟨rfl, trivial⟩ ⟨⟨0, rfl⟩, ⟨1, rfl⟩, ⟨2, rfl⟩, trivial⟩)⟩ ?_
    rintro s a w f1 ⟨out4798, g4802, v4799, cl4800, rfl, hS⟩ hM hf1
    have hM : ref23_Sorted_l6 l_0 out4798 g4802 = some f1 := hM
    unfold ref23_Sorted_l6 at hM
    refine wp_seq_k fun K185 hK185 => ?_
    refine r_list ?_
    refine wl rfl (ky (v := .bool (decide ((g4802 : Int) < (l_0.length : Int)))) hS (y_int hS rfl rfl rfl) rfl rfl fun a hS => ?_)
    refine wpList_nil ?_
    try simp only [Exit.then, Exit.inBlock, ↓reduceIte, Nat.reduceEqDiff]
    refine hK185 _ _ ?_
    refine wp_seq_k fun K186 hK186 => ?_
    rcases bool2 (decide ((g4802 : Int) < (l_0.length : Int))) with hb5460 | hb5460
    · replace hM := ct hb5460 hM
      refine c_t hS rfl hb5460 ?_
      refine wp_skip ?_
      try simp only [Exit.then, Exit.inBlock, ↓reduceIte, Nat.reduceEqDiff]
      refine hK186 _ _ ?_
      refine seq_j (J := fun a w => ∃ (out5784 : (List KeyD)) (v5785 : Value) (cl5786 : (List Value)), St W0 No T 53 [(3, v5785), (7, v1), (8, .int .i64 (l_0.length : Int)), (9, .int .i64 g4802)] [.own v5785 28 R_KeyD.size cl5786] [RowsF R_KeyD cl5786 out5784, SlF R_KeyD v1 l_0, LvF] a w ∧ ref23_Sorted_j2 g4802 out5784 = some f1) ?_ ?_
      · skip
        refine wp_block ?_
        refine wp_seq_k fun K197 hK197 => ?_
        refine r_list ?_
        obtain ⟨e5788, he5788, hM⟩ := bd hM
        refine wl rfl (k_index (R := R_KeyD) hS sl22 ty28 rfl rfl 1 rfl he5788 rfl fun b5789 o5790 cs5792 hr5791 a hS => ?_)
        obtain rfl := hr5791
        refine wl rfl (ky (v := .agg #[.int .i64 e5788.Kind, .string e5788.Text]) hS (y_loadc (k := 0) hS ty28 0 rfl rfl (fun _ h => h.elim) (us := [.int .i64 e5788.Kind, .string e5788.Text]) rfl rfl (fun h => by cases h)) rfl rfl fun a hS => ?_)
        refine wl rfl (k_alloc hS ze28 rfl fun b5794 hnb5796 a w hk hS => ?_)
        refine wl rfl (k_store hS rfl rfl (us := [.int .i64 e5788.Kind, .string e5788.Text]) rfl ty28 0 rfl rfl rfl (oc rfl (oc rfl on)) fun w hk hS => ?_)
        refine wpList_nil ?_
        try simp only [Exit.then, Exit.inBlock, ↓reduceIte, Nat.reduceEqDiff]
        refine hK197 _ _ ?_
        refine wp_seq_k fun K198 hK198 => ?_
        refine r_list ?_
        refine wl rfl (ky (v := .int .i64 0) hS (y_assign hS rfl) rfl rfl fun a hS => ?_)
        refine wpList_nil ?_
        try simp only [Exit.then, Exit.inBlock, ↓reduceIte, Nat.reduceEqDiff]
        refine hK198 _ _ ?_
        refine seq_j (J := fun a w => ∃ (i5898 : Int), St W0 No T 53 [(3, v4799), (5, .pointer (some ⟨b5794, 0, none⟩)), (6, .int .i64 i5898), (7, v1), (8, .int .i64 (l_0.length : Int)), (9, .int .i64 g4802)] [.own v4799 28 R_KeyD.size cl4800, .box b5794 [.int .i64 e5788.Kind, .string e5788.Text] 28] [RowsF R_KeyD cl4800 out4798, SlF R_KeyD v1 l_0, LvF] a w ∧ ref23_Sorted_j4 out4798 g4802 e5788 i5898 = some f1) ?_ ?_
        · skip
          refine wp_block ?_
          obtain ⟨r2, hl2, hMo2⟩ := bd hM
          refine wp_lp (fun s : Int => ref23_Sorted_l5 out4798 e5788 s) (fun s a w => ∃ (i6060 : Int), i6060 = s ∧ St W0 No T 53 [(3, v4799), (5, .pointer (some ⟨b5794, 0, none⟩)), (6, .int .i64 i6060), (7, v1), (8, .int .i64 (l_0.length : Int)), (9, .int .i64 g4802)] [.own v4799 28 R_KeyD.size cl4800, .box b5794 [.int .i64 e5788.Kind, .string e5788.Text] 28] [RowsF R_KeyD cl4800 out4798, SlF R_KeyD v1 l_0, LvF] a w) hl2 ⟨0, rfl, (hS.meet [1, 0] (by decide) ⟨rfl, rfl, rfl, rfl, rfl, rfl, trivial⟩ ⟨rfl, rfl, trivial⟩ ⟨⟨1, rfl⟩, ⟨2, rfl⟩, ⟨3, rfl⟩, trivial⟩)⟩ ?_
          rintro s a w f2 ⟨i6060, rfl, hS⟩ hM hf2
          have hM : ref23_Sorted_l5 out4798 e5788 i6060 = some f2 := hM
          unfold ref23_Sorted_l5 at hM
          refine wp_seq_k fun K207 hK207 => ?_
          refine wp_seq_k fun K208 hK208 => ?_
          refine draws [] hS mixed rfl (fun c a d v w h => by cases d <;> exact h) fun w hQ hS => ?_
          refine dy 0 (v := .int .i64 i6060) rfl (by kernel_rfl) (by kernel_rfl) (by kernel_rfl) rfl hQ hS (y_move hS rfl) rfl rfl rfl fun a hS => ?_
          refine dy 1 (v := v4799) rfl (by kernel_rfl) (by kernel_rfl) (by kernel_rfl) rfl hQ hS (y_move hS rfl) rfl rfl rfl fun a hS => ?_
          refine dy 2 (v := .int .i64 (out4798.length : Int)) rfl (by kernel_rfl) (by kernel_rfl) (by kernel_rfl) rfl hQ hS (y_leno (R := R_KeyD) (xs := out4798) hS sl22 rfl 0 rfl 0 rfl) rfl rfl rfl fun a hS => ?_
          refine dy 3 (v := .bool (decide ((i6060 : Int) < (out4798.length : Int)))) rfl (by kernel_rfl) (by kernel_rfl) (by kernel_rfl) rfl hQ hS (y_int hS rfl rfl rfl) rfl rfl rfl fun a hS => ?_
          refine dy 4 (v := .bool (decide ((i6060 : Int) < (out4798.length : Int)))) rfl (by kernel_rfl) (by kernel_rfl) (by kernel_rfl) rfl hQ hS (y_move hS rfl) rfl rfl rfl fun a hS => ?_
          rcases bool2 (decide ((i6060 : Int) < (out4798.length : Int))) with hb6147 | hb6147
          · replace hM := ct hb6147 hM
            refine dyg 5 (v := v4799) rfl (by kernel_rfl) (by kernel_rfl) (by kernel_rfl) rfl hQ hS (y_move hS rfl) rfl rfl rfl hb6147 rfl rfl fun a hS => ?_
            refine dyg 6 (v := .int .i64 i6060) rfl (by kernel_rfl) (by kernel_rfl) (by kernel_rfl) rfl hQ hS (y_move hS rfl) rfl rfl rfl hb6147 rfl rfl fun a hS => ?_
            obtain ⟨e6148, he6148, hM⟩ := bd hM
            obtain ⟨b6149, o6150, p6155, cs6152, hr6151, hO6153, hC6154, hy6156⟩ := d_indexo (R := R_KeyD) hS sl22 ty28 0 rfl 0 rfl he6148
            obtain rfl := hr6151
            refine dyg 7 (v := .pointer (some ⟨b6149, o6150, none⟩)) rfl (by kernel_rfl) (by kernel_rfl) (by kernel_rfl) rfl hQ hS (hy6156 rfl rfl) rfl rfl rfl hb6147 rfl rfl fun a hS => ?_
            refine dyg (l := []) 8 (v := .agg #[.int .i64 e6148.Kind, .string e6148.Text]) rfl (by kernel_rfl) (by kernel_rfl) (by kernel_rfl) (by kernel_rfl) hQ hS (y_loado (k := 0) hS ty28 0 rfl hO6153 hC6154 rfl eo_nil (us := [.int .i64 e6148.Kind, .string e6148.Text]) rfl rfl (fun h => by cases h)) rfl rfl rfl hb6147 rfl rfl fun a hS => ?_
            refine dyg (l := []) 9 (v := .agg #[.int .i64 e5788.Kind, .string e5788.Text]) rfl (by kernel_rfl) (by kernel_rfl) (by kernel_rfl) (by kernel_rfl) hQ hS (y_load hS rfl ty28 1 rfl eo_nil (us := [.int .i64 e5788.Kind, .string e5788.Text]) rfl rfl (fun h => by cases h)) rfl rfl rfl hb6147 rfl rfl fun a hS => ?_
            obtain ⟨u6157, hu6157, hM⟩ := bd hM
            refine wpE_oneg (i := 10) rfl (by kernel_rfl) hS rfl rfl rfl hb6147 (k_call hS ci58 rfl rfl (ref23_Cmp_c _ _ hS.dlt (hS.get 2 rfl) e6148 e5788 _ hu6157) fun _ w hR a hk hA => ⟨stN (hk), ?_⟩)
            have he := Eq.symm hR
            subst he
            have hS := hA [] (fun r hr => by cases hr) List.Pairwise.nil
            refine dyg 11 (v := .bool (decide ((u6157 : Int) < 0))) rfl (by kernel_rfl) (by kernel_rfl) (by kernel_rfl) rfl hQ hS (y_int hS rfl rfl rfl) rfl rfl rfl hb6147 rfl rfl fun a hS => ?_
            refine dy 12 (v := .bool (decide ((u6157 : Int) < 0))) rfl (by kernel_rfl) (by kernel_rfl) (by kernel_rfl) rfl hQ hS (y_pickt hS rfl hb6147 rfl) rfl rfl rfl fun a hS => ?_
            refine wpE_done (by kernel_rfl) ?_ _
            try simp only [Exit.then, Exit.inBlock, ↓reduceIte, Nat.reduceEqDiff]
            refine hK208 _ _ ?_
            rcases bool2 (decide ((u6157 : Int) < 0)) with hb6159 | hb6159
            · replace hM := ct hb6159 hM
              refine c_t hS rfl hb6159 ?_
              refine wp_skip ?_
              try simp only [Exit.then, Exit.inBlock, ↓reduceIte, Nat.reduceEqDiff]
              refine hK207 _ _ ?_
              refine wp_block ?_
              refine r_list ?_
              refine wl rfl (ky (v := .int .i64 i6060) hS (y_move hS rfl) rfl rfl fun a hS => ?_)
              refine wl rfl (ky (v := .int .i64 (IntKind.i64.wrap (i6060 + 1))) hS (y_int hS rfl rfl rfl) rfl rfl fun a hS => ?_)
              refine wl rfl (ky (v := .int .i64 (IntKind.i64.wrap (i6060 + 1))) hS (y_assign hS rfl) rfl rfl fun a hS => ?_)
              refine wpList_nil ?_
              try simp only [Exit.then, Exit.inBlock, ↓reduceIte, Nat.reduceEqDiff]
              exact ⟨IntKind.i64.wrap (i6060 + 1), (Option.some.inj hM).symm, (IntKind.i64.wrap (i6060 + 1)), rfl, (hS.meet [0, 1] (by decide) ⟨rfl, rfl, rfl, rfl, rfl, rfl, trivial⟩ ⟨rfl, rfl, trivial⟩ ⟨⟨0, rfl⟩, ⟨1, rfl⟩, ⟨2, rfl⟩, trivial⟩)⟩
            · replace hM := cf hb6159 hM
              refine c_f hS rfl hb6159 ?_
              refine wp_exit ?_
              try simp only [Exit.then, Exit.inBlock, ↓reduceIte, Nat.reduceEqDiff]
              injection hM with hM
              subst hM
              have hr := hf2 _ rfl
              subst hr
              have hM : ref23_Sorted_j4 out4798 g4802 e5788 i6060 = some f1 := hMo2
              exact ⟨i6060, (hS.meet [0, 1] (by decide) ⟨rfl, rfl, rfl, rfl, rfl, rfl, trivial⟩ ⟨rfl, rfl, trivial⟩ ⟨⟨0, rfl⟩, ⟨1, rfl⟩, ⟨2, rfl⟩, trivial⟩), hM⟩
          · replace hM := cf hb6147 hM
            refine dyn 5 rfl (by kernel_rfl) (by kernel_rfl) (by kernel_rfl) hQ hS rfl rfl rfl hb6147 rfl rfl fun a hS => ?_
            refine dyn 6 rfl (by kernel_rfl) (by kernel_rfl) (by kernel_rfl) hQ hS rfl rfl rfl hb6147 rfl rfl fun a hS => ?_
            refine dyn 7 rfl (by kernel_rfl) (by kernel_rfl) (by kernel_rfl) hQ hS rfl rfl rfl hb6147 rfl rfl fun a hS => ?_
            refine dyn 8 rfl (by kernel_rfl) (by kernel_rfl) (by kernel_rfl) hQ hS rfl rfl rfl hb6147 rfl rfl fun a hS => ?_
            refine dyn 9 rfl (by kernel_rfl) (by kernel_rfl) (by kernel_rfl) hQ hS rfl rfl rfl hb6147 rfl rfl fun a hS => ?_
            refine dyn 10 rfl (by kernel_rfl) (by kernel_rfl) (by kernel_rfl) hQ hS rfl rfl rfl hb6147 rfl rfl fun a hS => ?_
            refine dyn 11 rfl (by kernel_rfl) (by kernel_rfl) (by kernel_rfl) hQ hS rfl rfl rfl hb6147 rfl rfl fun a hS => ?_
            refine dy 12 (v := .bool false) rfl (by kernel_rfl) (by kernel_rfl) (by kernel_rfl) rfl hQ hS (y_pickf hS rfl hb6147 rfl) rfl rfl rfl fun a hS => ?_
            refine wpE_done (by kernel_rfl) ?_ _
            try simp only [Exit.then, Exit.inBlock, ↓reduceIte, Nat.reduceEqDiff]
            refine hK208 _ _ ?_
            refine c_f hS rfl rfl ?_
            refine wp_exit ?_
            try simp only [Exit.then, Exit.inBlock, ↓reduceIte, Nat.reduceEqDiff]
            injection hM with hM
            subst hM
            have hr := hf2 _ rfl
            subst hr
            have hM : ref23_Sorted_j4 out4798 g4802 e5788 i6060 = some f1 := hMo2
            exact ⟨i6060, (hS.meet [0, 1] (by decide) ⟨rfl, rfl, rfl, rfl, rfl, rfl, trivial⟩ ⟨rfl, rfl, trivial⟩ ⟨⟨0, rfl⟩, ⟨1, rfl⟩, ⟨2, rfl⟩, trivial⟩), hM⟩
        · rintro a w ⟨i5898, hS, hM⟩
          unfold ref23_Sorted_j4 at hM
          refine seq_j (J := fun a w => ∃ (g5939 : Bool), St W0 No T 53 [(3, v4799), (5, .pointer (some ⟨b5794, 0, none⟩)), (6, .int .i64 i5898), (7, v1), (8, .int .i64 (l_0.length : Int)), (9, .int .i64 g4802), (39, .bool g5939)] [.own v4799 28 R_KeyD.size cl4800, .box b5794 [.int .i64 e5788.Kind, .string e5788.Text] 28] [RowsF R_KeyD cl4800 out4798, SlF R_KeyD v1 l_0, LvF] a w ∧ ref23_Sorted_j3 out4798 g4802 e5788 i5898 g5939 = some f1) ?_ ?_
          · skip
            refine draws [] hS mixed rfl (fun c a d v w h => by cases d <;> exact h) fun w hQ hS => ?_
            refine dy 0 (v := .int .i64 i5898) rfl (by kernel_rfl) (by kernel_rfl) (by kernel_rfl) rfl hQ hS (y_move hS rfl) rfl rfl rfl fun a hS => ?_
            refine dy 1 (v := v4799) rfl (by kernel_rfl) (by kernel_rfl) (by kernel_rfl) rfl hQ hS (y_move hS rfl) rfl rfl rfl fun a hS => ?_
            refine dy 2 (v := .int .i64 (out4798.length : Int)) rfl (by kernel_rfl) (by kernel_rfl) (by kernel_rfl) rfl hQ hS (y_leno (R := R_KeyD) (xs := out4798) hS sl22 rfl 0 rfl 0 rfl) rfl rfl rfl fun a hS => ?_
            refine dy 3 (v := .bool ((i5898 : Int) == (out4798.length : Int))) rfl (by kernel_rfl) (by kernel_rfl) (by kernel_rfl) rfl hQ hS (y_int hS rfl rfl rfl) rfl rfl rfl fun a hS => ?_
            refine dy 4 (v := .bool ((i5898 : Int) == (out4798.length : Int))) rfl (by kernel_rfl) (by kernel_rfl) (by kernel_rfl) rfl hQ hS (y_move hS rfl) rfl rfl rfl fun a hS => ?_
            rcases bool2 ((i5898 : Int) == (out4798.length : Int)) with hb6000 | hb6000
            · replace hM := ct hb6000 hM
              refine dyn 5 rfl (by kernel_rfl) (by kernel_rfl) (by kernel_rfl) hQ hS rfl rfl rfl hb6000 rfl rfl fun a hS => ?_
              refine dyn 6 rfl (by kernel_rfl) (by kernel_rfl) (by kernel_rfl) hQ hS rfl rfl rfl hb6000 rfl rfl fun a hS => ?_
              refine dyn 7 rfl (by kernel_rfl) (by kernel_rfl) (by kernel_rfl) hQ hS rfl rfl rfl hb6000 rfl rfl fun a hS => ?_
              refine dyn 8 rfl (by kernel_rfl) (by kernel_rfl) (by kernel_rfl) hQ hS rfl rfl rfl hb6000 rfl rfl fun a hS => ?_
              refine dyn 9 rfl (by kernel_rfl) (by kernel_rfl) (by kernel_rfl) hQ hS rfl rfl rfl hb6000 rfl rfl fun a hS => ?_
              refine dyn 10 rfl (by kernel_rfl) (by kernel_rfl) (by kernel_rfl) hQ hS rfl rfl rfl hb6000 rfl rfl fun a hS => ?_
              refine dy 11 (v := .bool true) rfl (by kernel_rfl) (by kernel_rfl) (by kernel_rfl) rfl hQ hS (y_pickt hS rfl hb6000 rfl) rfl rfl rfl fun a hS => ?_
              refine wpE_done (by kernel_rfl) ?_ _
              try simp only [Exit.then, Exit.inBlock, ↓reduceIte, Nat.reduceEqDiff]
              exact ⟨true, (hS.meet [0, 1] (by decide) ⟨rfl, rfl, rfl, rfl, rfl, rfl, rfl, trivial⟩ ⟨rfl, rfl, trivial⟩ ⟨⟨0, rfl⟩, ⟨1, rfl⟩, ⟨2, rfl⟩, trivial⟩), hM⟩
            · replace hM := cf hb6000 hM
              refine dyg 5 (v := v4799) rfl (by kernel_rfl) (by kernel_rfl) (by kernel_rfl) rfl hQ hS (y_move hS rfl) rfl rfl rfl hb6000 rfl rfl fun a hS => ?_
              refine dyg 6 (v := .int .i64 i5898) rfl (by kernel_rfl) (by kernel_rfl) (by kernel_rfl) rfl hQ hS (y_move hS rfl) rfl rfl rfl hb6000 rfl rfl fun a hS => ?_
              obtain ⟨e6001, he6001, hM⟩ := bd hM
              obtain ⟨b6002, o6003, p6008, cs6005, hr6004, hO6006, hC6007, hy6009⟩ := d_indexo (R := R_KeyD) hS sl22 ty28 0 rfl 0 rfl he6001
              obtain rfl := hr6004
              refine dyg 7 (v := .pointer (some ⟨b6002, o6003, none⟩)) rfl (by kernel_rfl) (by kernel_rfl) (by kernel_rfl) rfl hQ hS (hy6009 rfl rfl) rfl rfl rfl hb6000 rfl rfl fun a hS => ?_
              refine dyg (l := []) 8 (v := .agg #[.int .i64 e6001.Kind, .string e6001.Text]) rfl (by kernel_rfl) (by kernel_rfl) (by kernel_rfl) (by kernel_rfl) hQ hS (y_loado (k := 0) hS ty28 0 rfl hO6006 hC6007 rfl eo_nil (us := [.int .i64 e6001.Kind, .string e6001.Text]) rfl rfl (fun h => by cases h)) rfl rfl rfl hb6000 rfl rfl fun a hS => ?_
              refine dyg (l := []) 9 (v := .agg #[.int .i64 e5788.Kind, .string e5788.Text]) rfl (by kernel_rfl) (by kernel_rfl) (by kernel_rfl) (by kernel_rfl) hQ hS (y_load hS rfl ty28 1 rfl eo_nil (us := [.int .i64 e5788.Kind, .string e5788.Text]) rfl rfl (fun h => by cases h)) rfl rfl rfl hb6000 rfl rfl fun a hS => ?_
              refine dyg 10 (v := .bool (!((e6001.Kind : Int) == e5788.Kind && e6001.Text.toList == e5788.Text.toList))) rfl (by kernel_rfl) (by kernel_rfl) (by kernel_rfl) rfl hQ hS (eq28n hS rfl rfl) rfl rfl rfl hb6000 rfl rfl fun a hS => ?_
              refine dy 11 (v := .bool (!((e6001.Kind : Int) == e5788.Kind && e6001.Text.toList == e5788.Text.toList))) rfl (by kernel_rfl) (by kernel_rfl) (by kernel_rfl) rfl hQ hS (y_pickf hS rfl hb6000 rfl) rfl rfl rfl fun a hS => ?_
              refine wpE_done (by kernel_rfl) ?_ _
              try simp only [Exit.then, Exit.inBlock, ↓reduceIte, Nat.reduceEqDiff]
              exact ⟨(!((e6001.Kind : Int) == e5788.Kind && e6001.Text.toList == e5788.Text.toList)), (hS.meet [0, 1] (by decide) ⟨rfl, rfl, rfl, rfl, rfl, rfl, rfl, trivial⟩ ⟨rfl, rfl, trivial⟩ ⟨⟨0, rfl⟩, ⟨1, rfl⟩, ⟨2, rfl⟩, trivial⟩), hM⟩
          · rintro a w ⟨g5939, hS, hM⟩
            unfold ref23_Sorted_j3 at hM
            rcases bool2 (g5939) with hb5940 | hb5940
            · replace hM := ct hb5940 hM
              refine c_t hS rfl hb5940 ?_
              replace hS := hS.nilRow R_KeyD 28 (by decide)
              refine draws [(3, .blk (Value.ownBlock (.slice none 0 0))), (6, .any), (10, .any)] hS mixed rfl (fun c a d v w h => by cases d <;> exact h) fun w hQ hS => ?_
              refine dy 0 (v := v4799) rfl (by kernel_rfl) (by kernel_rfl) (by kernel_rfl) rfl hQ hS (y_move hS rfl) rfl rfl rfl fun a hS => ?_
              refine dy 1 (v := .int .i64 i5898) rfl (by kernel_rfl) (by kernel_rfl) (by kernel_rfl) rfl hQ hS (y_move hS rfl) rfl rfl rfl fun a hS => ?_
              obtain ⟨l5966, hl5966, hM⟩ := bd hM
              obtain ⟨v5967, hv5968, hy5969⟩ := d_view (R := R_KeyD) hS sl22 ty28 1 rfl 1 rfl hl5966
              refine dy 2 (v := v5967) rfl (by kernel_rfl) (by kernel_rfl) (by kernel_rfl) rfl hQ hS (hy5969 (k1 := .i64) rfl (.inr ⟨rfl, rfl⟩) (.inl ⟨_, rfl, rfl⟩)) rfl rfl rfl fun a hS => ?_
              refine dy (l := [.blk (Value.ownBlock (.slice none 0 0))]) 4 (v := .agg #[.int .i64 e5788.Kind, .string e5788.Text]) rfl (by kernel_rfl) (by kernel_rfl) (by kernel_rfl) (by kernel_rfl) hQ hS (y_load hS rfl ty28 2 rfl (eo_ne hS 2 rfl rfl 0 rfl rfl (by decide) eo_nil) (us := [.int .i64 e5788.Kind, .string e5788.Text]) rfl rfl (fun h => by cases h)) rfl rfl rfl fun a hS => ?_
              refine dy 7 (v := v4799) rfl (by kernel_rfl) (by kernel_rfl) (by kernel_rfl) rfl hQ hS (y_move hS rfl) rfl rfl rfl fun a hS => ?_
              refine dy 8 (v := .int .i64 i5898) rfl (by kernel_rfl) (by kernel_rfl) (by kernel_rfl) rfl hQ hS (y_move hS rfl) rfl rfl rfl fun a hS => ?_
              obtain ⟨l5971, hl5971, hM⟩ := bd hM
              obtain ⟨v5972, hv5973, hy5974⟩ := d_view (R := R_KeyD) hS sl22 ty28 1 rfl 1 rfl hl5971
              refine dy 9 (v := v5972) rfl (by kernel_rfl) (by kernel_rfl) (by kernel_rfl) rfl hQ hS (hy5974 (k2 := .i64) rfl (.inl ⟨_, rfl, rfl⟩) (.inr ⟨rfl, rfl⟩)) rfl rfl rfl fun a hS => ?_
              obtain ⟨hg5976, hM⟩ := gd_some hM
              refine wpE_two (i := 3) (j := 5) rfl rfl (by kernel_rfl) rfl rfl ?_ ?_
              · skip
                skip
                replace hS := hS.freeze (R := R_KeyD) 1 rfl 1 rfl
                replace hS := hS.fact (SlF R_KeyD v5967 l5966) (hv5968 _ _ (hS.get 0 rfl))
                refine id (k_apps (R := R_KeyD) (xs := ([] : List KeyD)) (ys := l5966) hS el22 (by decide) (by decide) rfl rfl 0 rfl 2 rfl 0 rfl hg5976 rfl fun v5977 cl5978 a w hk hS => ⟨stM rfl hk etOwn, ?_⟩)
                refine wpE_one (i := 5) rfl (by kernel_rfl) rfl (k_bslice (ps := [(0, .tmp 44)]) hS el22 ze28 (zl := [.int .i64 0, .string (ByteArray.mk #[])]) (by kernel_rfl) rfl (us := [[.int .i64 e5788.Kind, .string e5788.Text]]) ⟨rfl, trivial⟩ (ws := [.int .i64 e5788.Kind, .string e5788.Text]) rfl rfl rfl rfl fun b5980 a w hk hS => ⟨stN (hk), ?_⟩)
                replace hS := hS.lit (R := R_KeyD) (us := [.int .i64 e5788.Kind, .string e5788.Text]) (xs := [e5788]) 0 rfl (by decide) (RowsOk.one_ (R := R_KeyD) (x := e5788) rfl) rfl rfl
                replace hS := hS.freeze (R := R_KeyD) 0 rfl 0 rfl
                obtain ⟨hg5982, hM⟩ := gd_some hM
                refine wpE_one (i := 6) rfl (by kernel_rfl) rfl (k_apps (R := R_KeyD) (xs := (([] : List KeyD) ++ l5966)) (ys := [e5788]) hS el22 (by decide) (by decide) rfl rfl 0 rfl 2 rfl 0 rfl hg5982 rfl fun v5983 cl5984 a w hk hS => ⟨stM rfl hk etAny, ?_⟩)
                replace hS := hS.fact (SlF R_KeyD v5972 l5971) (hv5973 _ _ (hS.get 5 rfl))
                obtain ⟨hg5986, hM⟩ := gd_some hM
                refine wpE_one (i := 10) rfl (by kernel_rfl) rfl (k_apps (R := R_KeyD) (xs := ((([] : List KeyD) ++ l5966) ++ ([e5788]))) (ys := l5971) hS el22 (by decide) (by decide) rfl rfl 0 rfl 1 rfl 0 rfl hg5986 rfl fun v5987 cl5988 a w hk hS => ⟨stM rfl hk etAny, ?_⟩)
                refine dy 11 (v := v5987) rfl (by kernel_rfl) (by kernel_rfl) (by kernel_rfl) rfl hQ hS (y_assign hS rfl) rfl rfl rfl fun a hS => ?_
                refine wpE_done (by kernel_rfl) ?_ _
                try simp only [Exit.then, Exit.inBlock, ↓reduceIte, Nat.reduceEqDiff]
                exact ⟨(((([] : List KeyD) ++ l5966) ++ ([e5788])) ++ l5971), v5987, cl5988, (hS.meet [0] (by decide) ⟨rfl, rfl, rfl, rfl, trivial⟩ ⟨rfl, trivial⟩ ⟨⟨0, rfl⟩, ⟨10, rfl⟩, ⟨11, rfl⟩, trivial⟩), hM⟩
              · skip
                skip
                refine id (k_bslice (ps := [(0, .tmp 44)]) hS el22 ze28 (zl := [.int .i64 0, .string (ByteArray.mk #[])]) (by kernel_rfl) rfl (us := [[.int .i64 e5788.Kind, .string e5788.Text]]) ⟨rfl, trivial⟩ (ws := [.int .i64 e5788.Kind, .string e5788.Text]) rfl rfl rfl rfl fun b5977 a w hk hS => ⟨stN (hk), ?_⟩)
                replace hS := hS.freeze (R := R_KeyD) 2 rfl 1 rfl
                replace hS := hS.fact (SlF R_KeyD v5967 l5966) (hv5968 _ _ (hS.get 0 rfl))
                refine wpE_one (i := 3) rfl (by kernel_rfl) rfl (k_apps (R := R_KeyD) (xs := ([] : List KeyD)) (ys := l5966) hS el22 (by decide) (by decide) rfl rfl 1 rfl 2 rfl 0 rfl hg5976 rfl fun v5979 cl5980 a w hk hS => ⟨stM rfl hk etOwn, ?_⟩)
                replace hS := hS.lit (R := R_KeyD) (us := [.int .i64 e5788.Kind, .string e5788.Text]) (xs := [e5788]) 0 rfl (by decide) (RowsOk.one_ (R := R_KeyD) (x := e5788) rfl) rfl rfl
                replace hS := hS.freeze (R := R_KeyD) 0 rfl 0 rfl
                obtain ⟨hg5982, hM⟩ := gd_some hM
                refine wpE_one (i := 6) rfl (by kernel_rfl) rfl (k_apps (R := R_KeyD) (xs := (([] : List KeyD) ++ l5966)) (ys := [e5788]) hS el22 (by decide) (by decide) rfl rfl 0 rfl 2 rfl 0 rfl hg5982 rfl fun v5983 cl5984 a w hk hS => ⟨stM rfl hk etAny, ?_⟩)
                replace hS := hS.fact (SlF R_KeyD v5972 l5971) (hv5973 _ _ (hS.get 5 rfl))
                obtain ⟨hg5986, hM⟩ := gd_some hM
                refine wpE_one (i := 10) rfl (by kernel_rfl) rfl (k_apps (R := R_KeyD) (xs := ((([] : List KeyD) ++ l5966) ++ ([e5788]))) (ys := l5971) hS el22 (by decide) (by decide) rfl rfl 0 rfl 1 rfl 0 rfl hg5986 rfl fun v5987 cl5988 a w hk hS => ⟨stM rfl hk etAny, ?_⟩)
                refine dy 11 (v := v5987) rfl (by kernel_rfl) (by kernel_rfl) (by kernel_rfl) rfl hQ hS (y_assign hS rfl) rfl rfl rfl fun a hS => ?_
                refine wpE_done (by kernel_rfl) ?_ _
                try simp only [Exit.then, Exit.inBlock, ↓reduceIte, Nat.reduceEqDiff]
                exact ⟨(((([] : List KeyD) ++ l5966) ++ ([e5788])) ++ l5971), v5987, cl5988, (hS.meet [0] (by decide) ⟨rfl, rfl, rfl, rfl, trivial⟩ ⟨rfl, trivial⟩ ⟨⟨0, rfl⟩, ⟨10, rfl⟩, ⟨11, rfl⟩, trivial⟩), hM⟩
            · replace hM := cf hb5940 hM
              refine c_f hS rfl hb5940 ?_
              refine wp_skip ?_
              try simp only [Exit.then, Exit.inBlock, ↓reduceIte, Nat.reduceEqDiff]
              exact ⟨out4798, v4799, cl4800, (hS.meet [0] (by decide) ⟨rfl, rfl, rfl, rfl, trivial⟩ ⟨rfl, trivial⟩ ⟨⟨0, rfl⟩, ⟨1, rfl⟩, ⟨2, rfl⟩, trivial⟩), hM⟩
      · rintro a w ⟨out5784, v5785, cl5786, hS, hM⟩
        unfold ref23_Sorted_j2 at hM
        refine r_list ?_
        refine wl rfl (ky (v := .int .i64 (IntKind.i64.wrap (g4802 + 1))) hS (y_int hS rfl rfl rfl) rfl rfl fun a hS => ?_)
        refine wl rfl (ky (v := .int .i64 (IntKind.i64.wrap (g4802 + 1))) hS (y_move hS rfl) rfl rfl fun a hS => ?_)
        refine wpList_nil ?_
        try simp only [Exit.then, Exit.inBlock, ↓reduceIte, Nat.reduceEqDiff]
        exact ⟨(out5784, IntKind.i64.wrap (g4802 + 1)), (Option.some.inj hM).symm, out5784, (IntKind.i64.wrap (g4802 + 1)), v5785, cl5786, rfl, (hS.meet [0] (by decide) ⟨rfl, rfl, rfl, rfl, trivial⟩ ⟨rfl, trivial⟩ ⟨⟨0, rfl⟩, ⟨1, rfl⟩, ⟨2, rfl⟩, trivial⟩)⟩
    · replace hM := cf hb5460 hM
      refine c_f hS rfl hb5460 ?_
      refine wp_exit ?_
      try simp only [Exit.then, Exit.inBlock, ↓reduceIte, Nat.reduceEqDiff]
      injection hM with hM
      subst hM
      have hr := hf1 _ rfl
      subst hr
      have hM : ref23_Sorted_j1 out4798 = some y := hMo1
      exact ⟨out4798, v4799, cl4800, (hS.meet [0] (by decide) ⟨rfl, trivial⟩ ⟨rfl, trivial⟩ ⟨⟨0, rfl⟩, ⟨2, rfl⟩, trivial⟩), hM⟩
  · rintro a w ⟨out4085, v4086, cl4087, hS, hM⟩
    unfold ref23_Sorted_j1 at hM
    refine wp_seq_k fun K139 hK139 => ?_
    refine r_list ?_
    refine wl rfl (ky (v := v4086) hS (y_move hS rfl) rfl rfl fun a hS => ?_)
    refine wl rfl (ky (v := v4086) hS (y_assign hS rfl) rfl rfl fun a hS => ?_)
    refine wpList_nil ?_
    try simp only [Exit.then, Exit.inBlock, ↓reduceIte, Nat.reduceEqDiff]
    refine hK139 _ _ ?_
    refine wp_ret ?_
    injection hM with hM
    subst hM
    try simp only [Exit.then, Exit.inBlock, ↓reduceIte, Nat.reduceEqDiff]
    refine ret_ok hS Tryd.results56 (res_tmp hS rfl res_nil) ?_
    exact ⟨v4086, cl4087, rfl, hS.retOwn ⟨.inr (List.mem_of_getElem? (i := 0) rfl), trivial⟩ 0 rfl 0 rfl⟩

noncomputable def law23_keys_j1 (l172 : (List KeyD)) : Option (List KeyD) := some (l172)
noncomputable def law23_keys_l2 (l200 : (List KeyD)) (k204 : Int) (g205 : (List Int)) (g207 : Int) : Option (Fl ((List KeyD) × Int × (List Int) × Int) ((List KeyD))) := cond (decide ((0 : Int) < k204)) ((dice_Next (DiceD.mk g205 g207) 4).bind fun u231 => (dice_Word (DiceD.mk u231.2.L u231.2.At) ([(ByteArray.mk #[]), (ByteArray.mk #[97]), (ByteArray.mk #[98]), (ByteArray.mk #[97, 98]), (ByteArray.mk #[97, 32, 98]), (ByteArray.mk #[37]), (ByteArray.mk #[255]), (ByteArray.mk #[195, 169])])).bind fun u235 => gd (roomB (l200.length + ([(KeyD.mk (IntKind.i64.wrap (1 + u231.1)) u235.1)]).length)) <| some (.go ((l200 ++ ([(KeyD.mk (IntKind.i64.wrap (1 + u231.1)) u235.1)])), IntKind.i64.wrap (k204 - 1), u235.2.L, u235.2.At))) (some (.out l200))
noncomputable def law23_keys (t_0 : (List Int)) : Option (List KeyD) := (mill_Roll t_0).bind fun u116 => (dice_Next u116 12).bind fun u176 => (loop (fun s : (List KeyD) × Int × (List Int) × Int => law23_keys_l2 s.1 s.2.1 s.2.2.1 s.2.2.2) (([] : List KeyD), u176.1, u176.2.L, u176.2.At)).bind fun r => law23_keys_j1 r
set_option maxRecDepth 100000 in
set_option maxHeartbeats 4000000 in
theorem law23_keys_c (T : Nat → Prop) (W0 : World) (hT : ∀ k, T k → k < W0.heap.size) (t_0 : (List Int)) (v1 : Value) (hv1 : SlR (Rep.int .i64) T W0 v1 t_0) (y : (List KeyD)) (hM : law23_keys t_0 = some y) : Rets Tryd.prog No 15 [v1] W0 (fun v w' => ∃ (v2 : Value) (cl3 : List Value), v = v2 ∧ OwnR R_KeyD T W0 w' [.own v2 28 R_KeyD.size cl3] 28 v2 cl3 y) := by
  refine enter (c := _) Tryd.func15 rfl T 25 Tryd.ntmps15 hT rfl fun a hS => ?_
  replace hS := hS.fact (SlF (Rep.int .i64) v1 t_0) (SlR.dn hv1)
  unfold law23_keys at hM
  refine wp_seq_k fun K19 hK19 => ?_
  refine r_list ?_
  refine wl rfl (ky (v := .slice none 0 0) hS (y_assign hS rfl) rfl rfl fun a hS => ?_)
  refine wpList_nil ?_
  try simp only [Exit.then, Exit.inBlock, ↓reduceIte, Nat.reduceEqDiff]
  refine hK19 _ _ ?_
  refine wp_seq_k fun K20 hK20 => ?_
  refine r_list ?_
  refine wl rfl (ky (v := v1) hS (y_move hS rfl) rfl rfl fun a hS => ?_)
  obtain ⟨u116, hu116, hM⟩ := bd hM
  refine wl rfl (k_call hS ci34 rfl rfl (mill_Roll_c _ _ hS.dlt t_0 _ (hS.get 0 rfl) _ hu116) fun _ w hR a hk hA => ?_)
  obtain ⟨bz117_2, vz117_3, he, hFbz117_2, hObz117_2, hRvz117_3⟩ := hR
  replace he := he.symm
  subst he
  have hS := hA [.box bz117_2 [vz117_3, .int .i64 u116.At] 98] (adds1 hObz117_2 (fun k hk => by simp only [Res.dom, Option.some.injEq] at hk; omega)) (pw1 _)
  replace hS := hS.fact (SlF (Rep.int .i64) vz117_3 u116.L) (hRvz117_3.sub (dT_dT _))
  refine wl rfl (ky (v := .pointer (some ⟨bz117_2, 0, none⟩)) hS (y_assign hS rfl) rfl rfl fun a hS => ?_)
  refine wpList_nil ?_
  try simp only [Exit.then, Exit.inBlock, ↓reduceIte, Nat.reduceEqDiff]
  refine hK20 _ _ ?_
  refine wp_seq_k fun K21 hK21 => ?_
  refine r_list ?_
  refine wl rfl (ky (v := .slice none 0 0) hS (y_assign hS rfl) rfl rfl fun a hS => ?_)
  refine wpList_nil ?_
  try simp only [Exit.then, Exit.inBlock, ↓reduceIte, Nat.reduceEqDiff]
  refine hK21 _ _ ?_
  refine seq_j (J := fun a w => ∃ (l172 : (List KeyD)) (v173 : Value) (cl174 : (List Value)), St W0 No T 25 [(4, v173)] [.own v173 28 R_KeyD.size cl174] [RowsF R_KeyD cl174 l172] a w ∧ law23_keys_j1 l172 = some y) ?_ ?_
  · skip
    refine wp_seq_k fun K30 hK30 => ?_
    refine r_list ?_
    refine wl rfl (ky (v := .pointer (some ⟨bz117_2, 0, none⟩)) hS (y_move hS rfl) rfl rfl fun a hS => ?_)
    obtain ⟨u176, hu176, hM⟩ := bd hM
    refine wl rfl (k_callm hS ci42 rfl rfl 0 rfl (dice_Next_c _ _ (hS.drop 0).dlt u116 12 _ _ (hS.boxRow 0 rfl) (hS.notin 0 rfl) (SlR.lent (i := 0) rfl (hS.get 0 rfl)) _ hu176) fun _ w hR hk => ?_)
    obtain ⟨vz177_3, he, hrow, hRvz177_3⟩ := hR
    replace he := he.symm
    subst he
    refine ⟨[vz177_3, .int .i64 u176.2.At], hrow, fun a hS => ?_⟩
    replace hS := hS.fact (SlF (Rep.int .i64) vz177_3 u176.2.L) (SlR.back (i := 0) rfl hRvz177_3)
    refine wl rfl (ky (v := .int .i64 u176.1) hS (y_assign hS rfl) rfl rfl fun a hS => ?_)
    refine wpList_nil ?_
    try simp only [Exit.then, Exit.inBlock, ↓reduceIte, Nat.reduceEqDiff]
    refine hK30 _ _ ?_
    refine wp_block ?_
    replace hS := hS.nilRow R_KeyD 28 (by decide)
    obtain ⟨r1, hl1, hMo1⟩ := bd hM
    refine wp_lp (fun s : (List KeyD) × Int × (List Int) × Int => law23_keys_l2 s.1 s.2.1 s.2.2.1 s.2.2.2) (fun s a w => ∃ (l200 : (List KeyD)) (k204 : Int) (g205 : (List Int)) (g207 : Int) (v201 : Value) (cl202 : (List Value)) (v206 : Value), (l200, k204, g205, g207) = s ∧ St W0 No T 25 [(3, .pointer (some ⟨bz117_2, 0, none⟩)), (4, v201), (5, .int .i64 k204)] [.own v201 28 R_KeyD.size cl202, .box bz117_2 [v206, .int .i64 g207] 98] [RowsF R_KeyD cl202 l200, SlF (Rep.int .i64) v206 g205] a w) hl1 ⟨([] : List KeyD), u176.1, u176.2.L, u176.2.At, (.slice none 0 0), ([]), vz177_3, rfl, (hS.meet [0, 1] (by decide) ⟨rfl, rfl, rfl, trivial⟩ ⟨rfl, rfl, trivial⟩ ⟨⟨0, rfl⟩, ⟨1, rfl⟩, trivial⟩)⟩ ?_
    rintro s a w f1 ⟨l200, k204, g205, g207, v201, cl202, v206, rfl, hS⟩ hM hf1
    have hM : law23_keys_l2 l200 k204 g205 g207 = some f1 := hM
    unfold law23_keys_l2 at hM
    refine wp_seq_k fun K37 hK37 => ?_
    refine wp_seq_k fun K38 hK38 => ?_
    refine r_list ?_
    refine wl rfl (ky (v := .int .i64 k204) hS (y_move hS rfl) rfl rfl fun a hS => ?_)
    refine wl rfl (ky (v := .bool (decide ((0 : Int) < k204))) hS (y_int hS rfl rfl rfl) rfl rfl fun a hS => ?_)
    refine wpList_nil ?_
    try simp only [Exit.then, Exit.inBlock, ↓reduceIte, Nat.reduceEqDiff]
    refine hK38 _ _ ?_
    rcases bool2 (decide ((0 : Int) < k204)) with hb230 | hb230
    · replace hM := ct hb230 hM
      refine c_t hS rfl hb230 ?_
      refine wp_skip ?_
      try simp only [Exit.then, Exit.inBlock, ↓reduceIte, Nat.reduceEqDiff]
      refine hK37 _ _ ?_
      refine wp_seq_k fun K39 hK39 => ?_
      refine wp_block ?_
      refine r_list ?_
      refine wl rfl (ky (v := v201) hS (y_move hS rfl) rfl rfl fun a hS => ?_)
      refine wl rfl (ky (v := .pointer (some ⟨bz117_2, 0, none⟩)) hS (y_move hS rfl) rfl rfl fun a hS => ?_)
      obtain ⟨u231, hu231, hM⟩ := bd hM
      refine wl rfl (k_callm hS ci42 rfl rfl 1 rfl (dice_Next_c _ _ (hS.drop 1).dlt (DiceD.mk g205 g207) 4 _ _ (hS.boxRow 1 rfl) (hS.notin 1 rfl) (SlR.lent (i := 1) rfl (hS.get 1 rfl)) _ hu231) fun _ w hR hk => ?_)
      obtain ⟨vz232_3, he, hrow, hRvz232_3⟩ := hR
      replace he := he.symm
      subst he
      refine ⟨[vz232_3, .int .i64 u231.2.At], hrow, fun a hS => ?_⟩
      replace hS := hS.fact (SlF (Rep.int .i64) vz232_3 u231.2.L) (SlR.back (i := 1) rfl hRvz232_3)
      refine wl rfl (ky (v := .int .i64 (IntKind.i64.wrap (1 + u231.1))) hS (y_int hS rfl rfl rfl) rfl rfl fun a hS => ?_)
      refine wl rfl (ky (v := .pointer (some ⟨bz117_2, 0, none⟩)) hS (y_move hS rfl) rfl rfl fun a hS => ?_)
      refine wl rfl (k_bslice (ps := [(0, .const (.string ⟨#[]⟩)), (1, .const (.string ⟨#[97]⟩)), (2, .const (.string ⟨#[98]⟩)), (3, .const (.string ⟨#[97, 98]⟩)), (4, .const (.string ⟨#[97, 32, 98]⟩)), (5, .const (.string ⟨#[37]⟩)), (6, .const (.string ⟨#[255]⟩)), (7, .const (.string ⟨#[195, 169]⟩))]) hS el32 ze9 (zl := [.string (ByteArray.mk #[]), .string (ByteArray.mk #[]), .string (ByteArray.mk #[]), .string (ByteArray.mk #[]), .string (ByteArray.mk #[]), .string (ByteArray.mk #[]), .string (ByteArray.mk #[]), .string (ByteArray.mk #[])]) (by kernel_rfl) rfl (us := [[.string (ByteArray.mk #[])], [.string (ByteArray.mk #[97])], [.string (ByteArray.mk #[98])], [.string (ByteArray.mk #[97, 98])], [.string (ByteArray.mk #[97, 32, 98])], [.string (ByteArray.mk #[37])], [.string (ByteArray.mk #[255])], [.string (ByteArray.mk #[195, 169])]]) ⟨rfl, ⟨rfl, ⟨rfl, ⟨rfl, ⟨rfl, ⟨rfl, ⟨rfl, ⟨rfl, trivial⟩⟩⟩⟩⟩⟩⟩⟩ (ws := [.string (ByteArray.mk #[]), .string (ByteArray.mk #[97]), .string (ByteArray.mk #[98]), .string (ByteArray.mk #[97, 98]), .string (ByteArray.mk #[97, 32, 98]), .string (ByteArray.mk #[37]), .string (ByteArray.mk #[255]), .string (ByteArray.mk #[195, 169])]) rfl rfl rfl rfl fun b233 a w hk hS => ?_)
      replace hS := hS.lit (R := Rep.str) (us := [.string (ByteArray.mk #[]), .string (ByteArray.mk #[97]), .string (ByteArray.mk #[98]), .string (ByteArray.mk #[97, 98]), .string (ByteArray.mk #[97, 32, 98]), .string (ByteArray.mk #[37]), .string (ByteArray.mk #[255]), .string (ByteArray.mk #[195, 169])]) (xs := [(ByteArray.mk #[]), (ByteArray.mk #[97]), (ByteArray.mk #[98]), (ByteArray.mk #[97, 98]), (ByteArray.mk #[97, 32, 98]), (ByteArray.mk #[37]), (ByteArray.mk #[255]), (ByteArray.mk #[195, 169])]) 0 rfl (by decide) ((RowsOk.one_ (R := Rep.str) (x := (ByteArray.mk #[])) rfl).append ((RowsOk.one_ (R := Rep.str) (x := (ByteArray.mk #[97])) rfl).append ((RowsOk.one_ (R := Rep.str) (x := (ByteArray.mk #[98])) rfl).append ((RowsOk.one_ (R := Rep.str) (x := (ByteArray.mk #[97, 98])) rfl).append ((RowsOk.one_ (R := Rep.str) (x := (ByteArray.mk #[97, 32, 98])) rfl).append ((RowsOk.one_ (R := Rep.str) (x := (ByteArray.mk #[37])) rfl).append ((RowsOk.one_ (R := Rep.str) (x := (ByteArray.mk #[255])) rfl).append (RowsOk.one_ (R := Rep.str) (x := (ByteArray.mk #[195, 169])) rfl)))))))) rfl rfl
      replace hS := hS.freeze (R := Rep.str) 0 rfl 0 rfl
      obtain ⟨u235, hu235, hM⟩ := bd hM
      refine wl rfl (k_callm hS ci60 rfl rfl 1 rfl (dice_Word_c _ _ (hS.drop 1).dlt (DiceD.mk u231.2.L u231.2.At) ([(ByteArray.mk #[]), (ByteArray.mk #[97]), (ByteArray.mk #[98]), (ByteArray.mk #[97, 98]), (ByteArray.mk #[97, 32, 98]), (ByteArray.mk #[37]), (ByteArray.mk #[255]), (ByteArray.mk #[195, 169])]) _ _ _ (hS.boxRow 1 rfl) (hS.notin 1 rfl) (SlR.lent (i := 1) rfl (hS.get 2 rfl)) (SlR.lent (i := 1) rfl (hS.get 0 rfl)) _ hu235) fun _ w hR hk => ?_)
      obtain ⟨vz236_4, he, hrow, hRvz236_4⟩ := hR
      replace he := he.symm
      subst he
      refine ⟨[vz236_4, .int .i64 u235.2.At], hrow, fun a hS => ?_⟩
      replace hS := hS.fact (SlF (Rep.int .i64) vz236_4 u235.2.L) (SlR.back (i := 1) rfl hRvz236_4)
      refine wl rfl (ky (v := .agg #[.int .i64 (IntKind.i64.wrap (1 + u231.1)), .string u235.1]) hS (y_build (ps := [(0, .tmp 17), (1, .tmp 20)]) hS pl28 ze28 rfl (us := [[.int .i64 (IntKind.i64.wrap (1 + u231.1))], [.string u235.1]]) ⟨rfl, ⟨rfl, trivial⟩⟩ (ws := [.int .i64 (IntKind.i64.wrap (1 + u231.1)), .string u235.1]) rfl) rfl rfl fun a hS => ?_)
      refine wl rfl (k_bslice (ps := [(0, .tmp 21)]) hS el22 ze28 (zl := [.int .i64 0, .string (ByteArray.mk #[])]) (by kernel_rfl) rfl (us := [[.int .i64 (IntKind.i64.wrap (1 + u231.1)), .string u235.1]]) ⟨rfl, trivial⟩ (ws := [.int .i64 (IntKind.i64.wrap (1 + u231.1)), .string u235.1]) rfl rfl rfl rfl fun b237 a w hk hS => ?_)
      replace hS := hS.lit (R := R_KeyD) (us := [.int .i64 (IntKind.i64.wrap (1 + u231.1)), .string u235.1]) (xs := [(KeyD.mk (IntKind.i64.wrap (1 + u231.1)) u235.1)]) 0 rfl (by decide) (RowsOk.one_ (R := R_KeyD) (x := (KeyD.mk (IntKind.i64.wrap (1 + u231.1)) u235.1)) rfl) rfl rfl
      replace hS := hS.freeze (R := R_KeyD) 0 rfl 0 rfl
      obtain ⟨hg239, hM⟩ := gd_some hM
      refine wl rfl (k_apps (R := R_KeyD) (xs := l200) (ys := [(KeyD.mk (IntKind.i64.wrap (1 + u231.1)) u235.1)]) hS el22 (by decide) (by decide) rfl rfl 0 rfl 6 rfl 0 rfl hg239 rfl fun v240 cl241 a w hk hS => ?_)
      refine wl rfl (ky (v := v240) hS (y_assign hS rfl) rfl rfl fun a hS => ?_)
      refine wpList_nil ?_
      try simp only [Exit.then, Exit.inBlock, ↓reduceIte, Nat.reduceEqDiff]
      refine hK39 _ _ ?_
      refine r_list ?_
      refine wl rfl (ky (v := .int .i64 k204) hS (y_move hS rfl) rfl rfl fun a hS => ?_)
      refine wl rfl (ky (v := .int .i64 (IntKind.i64.wrap (k204 - 1))) hS (y_int hS rfl rfl rfl) rfl rfl fun a hS => ?_)
      refine wl rfl (ky (v := .int .i64 (IntKind.i64.wrap (k204 - 1))) hS (y_assign hS rfl) rfl rfl fun a hS => ?_)
      refine wpList_nil ?_
      try simp only [Exit.then, Exit.inBlock, ↓reduceIte, Nat.reduceEqDiff]
      exact ⟨((l200 ++ ([(KeyD.mk (IntKind.i64.wrap (1 + u231.1)) u235.1)])), IntKind.i64.wrap (k204 - 1), u235.2.L, u235.2.At), (Option.some.inj hM).symm, (l200 ++ ([(KeyD.mk (IntKind.i64.wrap (1 + u231.1)) u235.1)])), (IntKind.i64.wrap (k204 - 1)), u235.2.L, u235.2.At, v240, cl241, vz236_4, rfl, (hS.meet [0, 1] (by decide) ⟨rfl, rfl, rfl, trivial⟩ ⟨rfl, rfl, trivial⟩ ⟨⟨0, rfl⟩, ⟨3, rfl⟩, trivial⟩)⟩
    · replace hM := cf hb230 hM
      refine c_f hS rfl hb230 ?_
      refine wp_exit ?_
      try simp only [Exit.then, Exit.inBlock, ↓reduceIte, Nat.reduceEqDiff]
      injection hM with hM
      subst hM
      have hr := hf1 _ rfl
      subst hr
      have hM : law23_keys_j1 l200 = some y := hMo1
      exact ⟨l200, v201, cl202, (hS.meet [0] (by decide) ⟨rfl, trivial⟩ ⟨rfl, trivial⟩ ⟨⟨0, rfl⟩, trivial⟩), hM⟩
  · rintro a w ⟨l172, v173, cl174, hS, hM⟩
    unfold law23_keys_j1 at hM
    refine wp_seq_k fun K29 hK29 => ?_
    refine r_list ?_
    refine wl rfl (ky (v := v173) hS (y_move hS rfl) rfl rfl fun a hS => ?_)
    refine wl rfl (ky (v := v173) hS (y_assign hS rfl) rfl rfl fun a hS => ?_)
    refine wpList_nil ?_
    try simp only [Exit.then, Exit.inBlock, ↓reduceIte, Nat.reduceEqDiff]
    refine hK29 _ _ ?_
    refine wp_ret ?_
    injection hM with hM
    subst hM
    try simp only [Exit.then, Exit.inBlock, ↓reduceIte, Nat.reduceEqDiff]
    refine ret_ok hS Tryd.results15 (res_tmp hS rfl res_nil) ?_
    exact ⟨v173, cl174, rfl, hS.retOwn ⟨.inr (List.mem_of_getElem? (i := 0) rfl), trivial⟩ 0 rfl 0 rfl⟩
end Go.Proofs.YtjoilbmkcknnfaaDoor
