/- What functions of the program compute; that they do. -/
import Derived.Test.YtjoilbmkcknnfaaDoorTE6
import Derived.Test.YtjoilbmkcknnfaaDoorD1
import Derived.Test.YtjoilbmkcknnfaaDoorE1
import Derived.Test.YtjoilbmkcknnfaaDoorE2
set_option linter.unusedVariables false
set_option linter.unusedSimpArgs false
namespace Go.Proofs.YtjoilbmkcknnfaaDoor
open Go.RowKit
noncomputable def ref26_Valid_j1 (g175 : Bool) : Option Bool := some (g175)
noncomputable def ref26_Valid_j2 (r_0 : RecordD) : Option Bool := (ref23_Valid r_0.Key).bind fun u176 => cond u176 ((ref23_Input r_0.Key).bind fun u179 => cond (!(u179)) (cond (decide (((r_0.Value.size : Int) : Int) ≤ 1073741824)) (cond (decide (((r_0.Reads.length : Int) : Int) ≤ 4000)) (cond (decide ((0 : Int) ≤ r_0.Changed)) (cond (decide ((r_0.Changed : Int) ≤ r_0.Verified)) (cond (decide ((r_0.Verified : Int) ≤ 1073741824)) (cond (decide ((1 : Int) ≤ r_0.Cost)) (cond (decide ((r_0.Cost : Int) ≤ 1073741824)) (cond (!(r_0.Dirty)) (ref26_Valid_j1 true) ((ref23_Cyclic r_0.Key).bind fun u190 => ref26_Valid_j1 u190)) (ref26_Valid_j1 false)) (ref26_Valid_j1 false)) (ref26_Valid_j1 false)) (ref26_Valid_j1 false)) (ref26_Valid_j1 false)) (ref26_Valid_j1 false)) (ref26_Valid_j1 false)) (ref26_Valid_j1 false)) (ref26_Valid_j1 false)
noncomputable def ref26_Valid_l3 (r_0 : RecordD) (g206 : Int) : Option (Fl (Int) (Fl (Unit) Bool)) := cond (decide ((g206 : Int) < (r_0.Reads.length : Int))) ((getI r_0.Reads g206).bind fun e222 => (ref23_Valid e222).bind fun u231 => cond (!(u231)) (some (.out (.out false))) (some (.go (IntKind.i64.wrap (g206 + 1))))) (some (.out (.go ())))
noncomputable def ref26_Valid (r_0 : RecordD) : Option Bool := (loop (fun s : Int => ref26_Valid_l3 r_0 s) 0).bind fun r => Fl.el r (fun s => ref26_Valid_j2 r_0) (fun y => some (y))
set_option maxRecDepth 100000 in
set_option maxHeartbeats 4000000 in
theorem ref26_Valid_c (T : Nat → Prop) (W0 : World) (hT : ∀ k, T k → k < W0.heap.size) (r_0 : RecordD) (v1 : Value) (hv1 : SlR R_KeyD T W0 v1 r_0.Reads) (y : Bool) (hM : ref26_Valid r_0 = some y) : Rets Tryd.prog No 49 [.agg #[.int .i64 r_0.Key.Kind, .string r_0.Key.Text, .string r_0.Value, v1, .int .i64 r_0.Changed, .int .i64 r_0.Verified, .int .i64 r_0.Cost, .bool r_0.Dirty]] W0 (fun v w' => v = .bool y) := by
  refine enter (c := _) Tryd.func49 rfl T 74 Tryd.ntmps49 hT rfl fun a hS => ?_
  replace hS := hS.fact (SlF R_KeyD v1 r_0.Reads) (SlR.dn hv1)
  unfold ref26_Valid at hM
  refine wp_seq_k fun K22 hK22 => ?_
  refine r_list ?_
  refine wl rfl (k_box hS rfl (cs := [.int .i64 r_0.Key.Kind, .string r_0.Key.Text, .string r_0.Value, v1, .int .i64 r_0.Changed, .int .i64 r_0.Verified, .int .i64 r_0.Cost, .bool r_0.Dirty]) rfl rfl fun b111 hnb113 a w hk hS => ?_)
  refine wl rfl (ky (v := .bool false) hS (y_assign hS rfl) rfl rfl fun a hS => ?_)
  refine wpList_nil ?_
  try simp only [Exit.then, Exit.inBlock, ↓reduceIte, Nat.reduceEqDiff]
  refine hK22 _ _ ?_
  refine seq_j (J := fun a w => St W0 No T 74 [(1, .pointer (some ⟨b111, 0, none⟩))] [.box b111 [.int .i64 r_0.Key.Kind, .string r_0.Key.Text, .string r_0.Value, v1, .int .i64 r_0.Changed, .int .i64 r_0.Verified, .int .i64 r_0.Cost, .bool r_0.Dirty] 54] [SlF R_KeyD v1 r_0.Reads] a w ∧ ref26_Valid_j2 r_0 = some y) ?_ ?_
  · skip
    refine wp_seq_k fun K36 hK36 => ?_
    refine r_list ?_
    refine wl rfl (ky (v := .pointer (some ⟨b111, 0 + 3, none⟩)) hS (y_fld hS rfl fl54_2) rfl rfl fun a hS => ?_)
    refine wl rfl (ky (v := v1) hS (y_load hS rfl ty22 0 rfl id (us := [v1]) rfl rfl (fun _ => rfl)) rfl rfl fun a hS => ?_)
    refine wl rfl (ky (v := .int .i64 (r_0.Reads.length : Int)) hS (y_len (R := R_KeyD) (xs := r_0.Reads) hS sl22 rfl 0 rfl) rfl rfl fun a hS => ?_)
    refine wl rfl (ky (v := .int .i64 0) hS (y_move hS rfl) rfl rfl fun a hS => ?_)
    refine wpList_nil ?_
    try simp only [Exit.then, Exit.inBlock, ↓reduceIte, Nat.reduceEqDiff]
    refine hK36 _ _ ?_
    refine wp_block ?_
    obtain ⟨r1, hl1, hMo1⟩ := bd hM
    refine wp_lp (fun s : Int => ref26_Valid_l3 r_0 s) (fun s a w => ∃ (g206 : Int), g206 = s ∧ St W0 No T 74 [(1, .pointer (some ⟨b111, 0, none⟩)), (6, v1), (7, .int .i64 (r_0.Reads.length : Int)), (8, .int .i64 g206)] [.box b111 [.int .i64 r_0.Key.Kind, .string r_0.Key.Text, .string r_0.Value, v1, .int .i64 r_0.Changed, .int .i64 r_0.Verified, .int .i64 r_0.Cost, .bool r_0.Dirty] 54] [SlF R_KeyD v1 r_0.Reads] a w) hl1 ⟨0, rfl, (hS.meet [0] (by decide) ⟨rfl, rfl, rfl, rfl, trivial⟩ ⟨rfl, trivial⟩ ⟨⟨0, rfl⟩, trivial⟩)⟩ ?_
    rintro s a w f1 ⟨g206, rfl, hS⟩ hM hf1
    have hM : ref26_Valid_l3 r_0 g206 = some f1 := hM
    unfold ref26_Valid_l3 at hM
    refine wp_seq_k fun K49 hK49 => ?_
    refine r_list ?_
    refine wl rfl (ky (v := .bool (decide ((g206 : Int) < (r_0.Reads.length : Int)))) hS (y_int hS rfl rfl rfl) rfl rfl fun a hS => ?_)
    refine wpList_nil ?_
    try simp only [Exit.then, Exit.inBlock, ↓reduceIte, Nat.reduceEqDiff]
    refine hK49 _ _ ?_
    refine wp_seq_k fun K50 hK50 => ?_
    rcases bool2 (decide ((g206 : Int) < (r_0.Reads.length : Int))) with hb221 | hb221
    · replace hM := ct hb221 hM
      refine c_t hS rfl hb221 ?_
      refine wp_skip ?_
      try simp only [Exit.then, Exit.inBlock, ↓reduceIte, Nat.reduceEqDiff]
      refine hK50 _ _ ?_
      refine wp_seq_k fun K51 hK51 => ?_
      refine wp_block ?_
      refine wp_seq_k fun K52 hK52 => ?_
      refine r_list ?_
      obtain ⟨e222, he222, hM⟩ := bd hM
      refine wl rfl (k_index (R := R_KeyD) hS sl22 ty28 rfl rfl 0 rfl he222 rfl fun b223 o224 cs226 hr225 a hS => ?_)
      obtain rfl := hr225
      refine wl rfl (ky (v := .agg #[.int .i64 e222.Kind, .string e222.Text]) hS (y_loadc (k := 0) hS ty28 0 rfl rfl (fun _ h => h.elim) (us := [.int .i64 e222.Kind, .string e222.Text]) rfl rfl (fun h => by cases h)) rfl rfl fun a hS => ?_)
      refine wl rfl (k_alloc hS ze28 rfl fun b228 hnb230 a w hk hS => ?_)
      refine wl rfl (k_store hS rfl rfl (us := [.int .i64 e222.Kind, .string e222.Text]) rfl ty28 0 rfl rfl rfl (oc rfl (oc rfl on)) fun w hk hS => ?_)
      refine wpList_nil ?_
      try simp only [Exit.then, Exit.inBlock, ↓reduceIte, Nat.reduceEqDiff]
      refine hK52 _ _ ?_
      refine wp_seq_k fun K53 hK53 => ?_
      refine r_list ?_
      refine wl rfl (ky (v := .agg #[.int .i64 e222.Kind, .string e222.Text]) hS (y_load hS rfl ty28 0 rfl id (us := [.int .i64 e222.Kind, .string e222.Text]) rfl rfl (fun h => by cases h)) rfl rfl fun a hS => ?_)
      obtain ⟨u231, hu231, hM⟩ := bd hM
      refine wl rfl (k_call hS ci22 rfl rfl (ref23_Valid_c _ _ hS.dlt e222 _ hu231) fun _ w hR a hk hA => ?_)
      have he := Eq.symm hR
      subst he
      have hS := hA [] (fun r hr => by cases hr) List.Pairwise.nil
      refine wl rfl (ky (v := .bool (!(u231))) hS (y_not hS rfl) rfl rfl fun a hS => ?_)
      refine wpList_nil ?_
      try simp only [Exit.then, Exit.inBlock, ↓reduceIte, Nat.reduceEqDiff]
      refine hK53 _ _ ?_
      rcases bool2 (!(u231)) with hb233 | hb233
      · replace hM := ct hb233 hM
        refine c_t hS rfl hb233 ?_
        refine wp_seq_k fun K54 hK54 => ?_
        refine r_list ?_
        refine wl rfl (ky (v := .bool false) hS (y_assign hS rfl) rfl rfl fun a hS => ?_)
        refine wpList_nil ?_
        try simp only [Exit.then, Exit.inBlock, ↓reduceIte, Nat.reduceEqDiff]
        refine hK54 _ _ ?_
        refine wp_ret ?_
        injection hM with hM
        subst hM
        have hr := hf1 _ rfl
        subst hr
        replace hMo1 := el_out hMo1
        have hM := hMo1
        injection hM with hM
        subst hM
        try simp only [Exit.then, Exit.inBlock, ↓reduceIte, Nat.reduceEqDiff]
        refine ret_ok hS Tryd.results49 (res_tmp hS rfl res_nil) ?_
        exact rfl
      · replace hM := cf hb233 hM
        refine c_f hS rfl hb233 ?_
        refine wp_skip ?_
        try simp only [Exit.then, Exit.inBlock, ↓reduceIte, Nat.reduceEqDiff]
        refine hK51 _ _ ?_
        refine r_list ?_
        refine wl rfl (ky (v := .int .i64 (IntKind.i64.wrap (g206 + 1))) hS (y_int hS rfl rfl rfl) rfl rfl fun a hS => ?_)
        refine wl rfl (ky (v := .int .i64 (IntKind.i64.wrap (g206 + 1))) hS (y_move hS rfl) rfl rfl fun a hS => ?_)
        refine wpList_nil ?_
        try simp only [Exit.then, Exit.inBlock, ↓reduceIte, Nat.reduceEqDiff]
        exact ⟨IntKind.i64.wrap (g206 + 1), (Option.some.inj hM).symm, (IntKind.i64.wrap (g206 + 1)), rfl, (hS.meet [1] (by decide) ⟨rfl, rfl, rfl, rfl, trivial⟩ ⟨rfl, trivial⟩ ⟨⟨1, rfl⟩, trivial⟩)⟩
    · replace hM := cf hb221 hM
      refine c_f hS rfl hb221 ?_
      refine wp_exit ?_
      try simp only [Exit.then, Exit.inBlock, ↓reduceIte, Nat.reduceEqDiff]
      injection hM with hM
      subst hM
      have hr := hf1 _ rfl
      subst hr
      replace hMo1 := el_go hMo1
      have hM : ref26_Valid_j2 r_0 = some y := hMo1
      exact ⟨(hS.meet [0] (by decide) ⟨rfl, trivial⟩ ⟨rfl, trivial⟩ ⟨⟨0, rfl⟩, trivial⟩), hM⟩
  · rintro a w ⟨hS, hM⟩
    unfold ref26_Valid_j2 at hM
    refine seq_j (J := fun a w => ∃ (g175 : Bool), St W0 No T 74 [(2, .bool g175)] [] [] a w ∧ ref26_Valid_j1 g175 = some y) ?_ ?_
    · skip
      refine r_list ?_
      refine wl rfl (ky (v := .pointer (some ⟨b111, 0 + 0, none⟩)) hS (y_fld hS rfl fl54_0) rfl rfl fun a hS => ?_)
      refine wl rfl (ky (v := .agg #[.int .i64 r_0.Key.Kind, .string r_0.Key.Text]) hS (y_load hS rfl ty28 0 rfl id (us := [.int .i64 r_0.Key.Kind, .string r_0.Key.Text]) rfl rfl (fun h => by cases h)) rfl rfl fun a hS => ?_)
      obtain ⟨u176, hu176, hM⟩ := bd hM
      refine wl rfl (k_call hS ci22 rfl rfl (ref23_Valid_c _ _ hS.dlt r_0.Key _ hu176) fun _ w hR a hk hA => ?_)
      have he := Eq.symm hR
      subst he
      have hS := hA [] (fun r hr => by cases hr) List.Pairwise.nil
      refine wl rfl (ky (v := .bool u176) hS (y_move hS rfl) rfl rfl fun a hS => ?_)
      rcases bool2 (u176) with hb178 | hb178
      · replace hM := ct hb178 hM
        refine wg hS rfl rfl rfl hb178 (ky (v := .pointer (some ⟨b111, 0 + 0, none⟩)) hS (y_fld hS rfl fl54_0) rfl rfl fun a hS => ?_)
        refine wg hS rfl rfl rfl hb178 (ky (v := .agg #[.int .i64 r_0.Key.Kind, .string r_0.Key.Text]) hS (y_load hS rfl ty28 0 rfl id (us := [.int .i64 r_0.Key.Kind, .string r_0.Key.Text]) rfl rfl (fun h => by cases h)) rfl rfl fun a hS => ?_)
        obtain ⟨u179, hu179, hM⟩ := bd hM
        refine wg hS rfl rfl rfl hb178 (k_call hS ci26 rfl rfl (ref23_Input_c _ _ hS.dlt r_0.Key _ hu179) fun _ w hR a hk hA => ?_)
        have he := Eq.symm hR
        subst he
        have hS := hA [] (fun r hr => by cases hr) List.Pairwise.nil
        refine wg hS rfl rfl rfl hb178 (ky (v := .bool (!(u179))) hS (y_not hS rfl) rfl rfl fun a hS => ?_)
        refine wl rfl (ky (v := .bool (!(u179))) hS (y_pickt hS rfl hb178 rfl) rfl rfl fun a hS => ?_)
        refine wl rfl (ky (v := .bool (!(u179))) hS (y_move hS rfl) rfl rfl fun a hS => ?_)
        rcases bool2 (!(u179)) with hb181 | hb181
        · replace hM := ct hb181 hM
          refine wg hS rfl rfl rfl hb181 (ky (v := .pointer (some ⟨b111, 0 + 2, none⟩)) hS (y_fld hS rfl fl54_1) rfl rfl fun a hS => ?_)
          refine wg hS rfl rfl rfl hb181 (ky (v := .string r_0.Value) hS (y_load hS rfl ty9 0 rfl id (us := [.string r_0.Value]) rfl rfl (fun _ => rfl)) rfl rfl fun a hS => ?_)
          refine wg hS rfl rfl rfl hb181 (ky (v := .int .i64 (r_0.Value.size : Int)) hS (y_lens hS Tryd.underlying9 rfl) rfl rfl fun a hS => ?_)
          refine wg hS rfl rfl rfl hb181 (ky (v := .bool (decide (((r_0.Value.size : Int) : Int) ≤ 1073741824))) hS (y_int hS rfl rfl rfl) rfl rfl fun a hS => ?_)
          refine wl rfl (ky (v := .bool (decide (((r_0.Value.size : Int) : Int) ≤ 1073741824))) hS (y_pickt hS rfl hb181 rfl) rfl rfl fun a hS => ?_)
          refine wl rfl (ky (v := .bool (decide (((r_0.Value.size : Int) : Int) ≤ 1073741824))) hS (y_move hS rfl) rfl rfl fun a hS => ?_)
          rcases bool2 (decide (((r_0.Value.size : Int) : Int) ≤ 1073741824)) with hb182 | hb182
          · replace hM := ct hb182 hM
            refine wg hS rfl rfl rfl hb182 (ky (v := .pointer (some ⟨b111, 0 + 3, none⟩)) hS (y_fld hS rfl fl54_2) rfl rfl fun a hS => ?_)
            refine wg hS rfl rfl rfl hb182 (ky (v := v1) hS (y_load hS rfl ty22 0 rfl id (us := [v1]) rfl rfl (fun _ => rfl)) rfl rfl fun a hS => ?_)
            refine wg hS rfl rfl rfl hb182 (ky (v := .int .i64 (r_0.Reads.length : Int)) hS (y_len (R := R_KeyD) (xs := r_0.Reads) hS sl22 rfl 0 rfl) rfl rfl fun a hS => ?_)
            refine wg hS rfl rfl rfl hb182 (ky (v := .bool (decide (((r_0.Reads.length : Int) : Int) ≤ 4000))) hS (y_int hS rfl rfl rfl) rfl rfl fun a hS => ?_)
            refine wl rfl (ky (v := .bool (decide (((r_0.Reads.length : Int) : Int) ≤ 4000))) hS (y_pickt hS rfl hb182 rfl) rfl rfl fun a hS => ?_)
            refine wl rfl (ky (v := .bool (decide (((r_0.Reads.length : Int) : Int) ≤ 4000))) hS (y_move hS rfl) rfl rfl fun a hS => ?_)
            rcases bool2 (decide (((r_0.Reads.length : Int) : Int) ≤ 4000)) with hb183 | hb183
            · replace hM := ct hb183 hM
              refine wg hS rfl rfl rfl hb183 (ky (v := .pointer (some ⟨b111, 0 + 4, none⟩)) hS (y_fld hS rfl fl54_3) rfl rfl fun a hS => ?_)
              refine wg hS rfl rfl rfl hb183 (ky (v := .int .i64 r_0.Changed) hS (y_load hS rfl ty3 0 rfl id (us := [.int .i64 r_0.Changed]) rfl rfl (fun _ => rfl)) rfl rfl fun a hS => ?_)
              refine wg hS rfl rfl rfl hb183 (ky (v := .bool (decide ((0 : Int) ≤ r_0.Changed))) hS (y_int hS rfl rfl rfl) rfl rfl fun a hS => ?_)
              refine wl rfl (ky (v := .bool (decide ((0 : Int) ≤ r_0.Changed))) hS (y_pickt hS rfl hb183 rfl) rfl rfl fun a hS => ?_)
              refine wl rfl (ky (v := .bool (decide ((0 : Int) ≤ r_0.Changed))) hS (y_move hS rfl) rfl rfl fun a hS => ?_)
              rcases bool2 (decide ((0 : Int) ≤ r_0.Changed)) with hb184 | hb184
              · replace hM := ct hb184 hM
                refine wg hS rfl rfl rfl hb184 (ky (v := .pointer (some ⟨b111, 0 + 4, none⟩)) hS (y_fld hS rfl fl54_3) rfl rfl fun a hS => ?_)
                refine wg hS rfl rfl rfl hb184 (ky (v := .int .i64 r_0.Changed) hS (y_load hS rfl ty3 0 rfl id (us := [.int .i64 r_0.Changed]) rfl rfl (fun _ => rfl)) rfl rfl fun a hS => ?_)
                refine wg hS rfl rfl rfl hb184 (ky (v := .pointer (some ⟨b111, 0 + 5, none⟩)) hS (y_fld hS rfl fl54_4) rfl rfl fun a hS => ?_)
                refine wg hS rfl rfl rfl hb184 (ky (v := .int .i64 r_0.Verified) hS (y_load hS rfl ty3 0 rfl id (us := [.int .i64 r_0.Verified]) rfl rfl (fun _ => rfl)) rfl rfl fun a hS => ?_)
                refine wg hS rfl rfl rfl hb184 (ky (v := .bool (decide ((r_0.Changed : Int) ≤ r_0.Verified))) hS (y_int hS rfl rfl rfl) rfl rfl fun a hS => ?_)
                refine wl rfl (ky (v := .bool (decide ((r_0.Changed : Int) ≤ r_0.Verified))) hS (y_pickt hS rfl hb184 rfl) rfl rfl fun a hS => ?_)
                refine wl rfl (ky (v := .bool (decide ((r_0.Changed : Int) ≤ r_0.Verified))) hS (y_move hS rfl) rfl rfl fun a hS => ?_)
                rcases bool2 (decide ((r_0.Changed : Int) ≤ r_0.Verified)) with hb185 | hb185
                · replace hM := ct hb185 hM
                  refine wg hS rfl rfl rfl hb185 (ky (v := .pointer (some ⟨b111, 0 + 5, none⟩)) hS (y_fld hS rfl fl54_4) rfl rfl fun a hS => ?_)
                  refine wg hS rfl rfl rfl hb185 (ky (v := .int .i64 r_0.Verified) hS (y_load hS rfl ty3 0 rfl id (us := [.int .i64 r_0.Verified]) rfl rfl (fun _ => rfl)) rfl rfl fun a hS => ?_)
                  refine wg hS rfl rfl rfl hb185 (ky (v := .bool (decide ((r_0.Verified : Int) ≤ 1073741824))) hS (y_int hS rfl rfl rfl) rfl rfl fun a hS => ?_)
                  refine wl rfl (ky (v := .bool (decide ((r_0.Verified : Int) ≤ 1073741824))) hS (y_pickt hS rfl hb185 rfl) rfl rfl fun a hS => ?_)
                  refine wl rfl (ky (v := .bool (decide ((r_0.Verified : Int) ≤ 1073741824))) hS (y_move hS rfl) rfl rfl fun a hS => ?_)
                  rcases bool2 (decide ((r_0.Verified : Int) ≤ 1073741824)) with hb186 | hb186
                  · replace hM := ct hb186 hM
                    refine wg hS rfl rfl rfl hb186 (ky (v := .pointer (some ⟨b111, 0 + 6, none⟩)) hS (y_fld hS rfl fl54_5) rfl rfl fun a hS => ?_)
                    refine wg hS rfl rfl rfl hb186 (ky (v := .int .i64 r_0.Cost) hS (y_load hS rfl ty3 0 rfl id (us := [.int .i64 r_0.Cost]) rfl rfl (fun _ => rfl)) rfl rfl fun a hS => ?_)
                    refine wg hS rfl rfl rfl hb186 (ky (v := .bool (decide ((1 : Int) ≤ r_0.Cost))) hS (y_int hS rfl rfl rfl) rfl rfl fun a hS => ?_)
                    refine wl rfl (ky (v := .bool (decide ((1 : Int) ≤ r_0.Cost))) hS (y_pickt hS rfl hb186 rfl) rfl rfl fun a hS => ?_)
                    refine wl rfl (ky (v := .bool (decide ((1 : Int) ≤ r_0.Cost))) hS (y_move hS rfl) rfl rfl fun a hS => ?_)
                    rcases bool2 (decide ((1 : Int) ≤ r_0.Cost)) with hb187 | hb187
                    · replace hM := ct hb187 hM
                      refine wg hS rfl rfl rfl hb187 (ky (v := .pointer (some ⟨b111, 0 + 6, none⟩)) hS (y_fld hS rfl fl54_5) rfl rfl fun a hS => ?_)
                      refine wg hS rfl rfl rfl hb187 (ky (v := .int .i64 r_0.Cost) hS (y_load hS rfl ty3 0 rfl id (us := [.int .i64 r_0.Cost]) rfl rfl (fun _ => rfl)) rfl rfl fun a hS => ?_)
                      refine wg hS rfl rfl rfl hb187 (ky (v := .bool (decide ((r_0.Cost : Int) ≤ 1073741824))) hS (y_int hS rfl rfl rfl) rfl rfl fun a hS => ?_)
                      refine wl rfl (ky (v := .bool (decide ((r_0.Cost : Int) ≤ 1073741824))) hS (y_pickt hS rfl hb187 rfl) rfl rfl fun a hS => ?_)
                      refine wl rfl (ky (v := .bool (decide ((r_0.Cost : Int) ≤ 1073741824))) hS (y_move hS rfl) rfl rfl fun a hS => ?_)
                      rcases bool2 (decide ((r_0.Cost : Int) ≤ 1073741824)) with hb188 | hb188
                      · replace hM := ct hb188 hM
                        refine wg hS rfl rfl rfl hb188 (ky (v := .pointer (some ⟨b111, 0 + 7, none⟩)) hS (y_fld hS rfl fl54_6) rfl rfl fun a hS => ?_)
                        refine wg hS rfl rfl rfl hb188 (ky (v := .bool r_0.Dirty) hS (y_load hS rfl ty4 0 rfl id (us := [.bool r_0.Dirty]) rfl rfl (fun _ => rfl)) rfl rfl fun a hS => ?_)
                        refine wg hS rfl rfl rfl hb188 (ky (v := .bool (!(r_0.Dirty))) hS (y_not hS rfl) rfl rfl fun a hS => ?_)
                        refine wg hS rfl rfl rfl hb188 (ky (v := .bool (!(r_0.Dirty))) hS (y_move hS rfl) rfl rfl fun a hS => ?_)
                        rcases bool2 (!(r_0.Dirty)) with hb189 | hb189
                        · replace hM := ct hb189 hM
                          refine wn hS rfl rfl rfl hb189 rfl rfl fun a hS => ?_
                          refine wn hS rfl rfl rfl hb189 rfl rfl fun a hS => ?_
                          refine wn hS rfl rfl rfl hb189 rfl rfl fun a hS => ?_
                          refine wg hS rfl rfl rfl hb188 (ky (v := .bool true) hS (y_pickt hS rfl hb189 rfl) rfl rfl fun a hS => ?_)
                          refine wl rfl (ky (v := .bool true) hS (y_pickt hS rfl hb188 rfl) rfl rfl fun a hS => ?_)
                          refine wl rfl (ky (v := .bool true) hS (y_assign hS rfl) rfl rfl fun a hS => ?_)
                          refine wpList_nil ?_
                          try simp only [Exit.then, Exit.inBlock, ↓reduceIte, Nat.reduceEqDiff]
                          exact ⟨true, (hS.meet [] (by decide) ⟨rfl, trivial⟩ trivial trivial), hM⟩
                        · replace hM := cf hb189 hM
                          refine wg hS rfl rfl rfl hb189 (ky (v := .pointer (some ⟨b111, 0 + 0, none⟩)) hS (y_fld hS rfl fl54_0) rfl rfl fun a hS => ?_)
                          refine wg hS rfl rfl rfl hb189 (ky (v := .agg #[.int .i64 r_0.Key.Kind, .string r_0.Key.Text]) hS (y_load hS rfl ty28 0 rfl id (us := [.int .i64 r_0.Key.Kind, .string r_0.Key.Text]) rfl rfl (fun h => by cases h)) rfl rfl fun a hS => ?_)
                          obtain ⟨u190, hu190, hM⟩ := bd hM
                          refine wg hS rfl rfl rfl hb189 (k_call hS ci28 rfl rfl (ref23_Cyclic_c _ _ hS.dlt r_0.Key _ hu190) fun _ w hR a hk hA => ?_)
                          have he := Eq.symm hR
                          subst he
                          have hS := hA [] (fun r hr => by cases hr) List.Pairwise.nil
                          refine wg hS rfl rfl rfl hb188 (ky (v := .bool u190) hS (y_pickf hS rfl hb189 rfl) rfl rfl fun a hS => ?_)
                          refine wl rfl (ky (v := .bool u190) hS (y_pickt hS rfl hb188 rfl) rfl rfl fun a hS => ?_)
                          refine wl rfl (ky (v := .bool u190) hS (y_assign hS rfl) rfl rfl fun a hS => ?_)
                          refine wpList_nil ?_
                          try simp only [Exit.then, Exit.inBlock, ↓reduceIte, Nat.reduceEqDiff]
                          exact ⟨u190, (hS.meet [] (by decide) ⟨rfl, trivial⟩ trivial trivial), hM⟩
                      · replace hM := cf hb188 hM
                        refine wn hS rfl rfl rfl hb188 rfl rfl fun a hS => ?_
                        refine wn hS rfl rfl rfl hb188 rfl rfl fun a hS => ?_
                        refine wn hS rfl rfl rfl hb188 rfl rfl fun a hS => ?_
                        refine wn hS rfl rfl rfl hb188 rfl rfl fun a hS => ?_
                        refine wnu hS rfl rfl rfl rfl rfl fun a hS => ?_
                        refine wnu hS rfl rfl rfl rfl rfl fun a hS => ?_
                        refine wnu hS rfl rfl rfl rfl rfl fun a hS => ?_
                        refine wn hS rfl rfl rfl hb188 rfl rfl fun a hS => ?_
                        refine wl rfl (ky (v := .bool false) hS (y_pickf hS rfl hb188 rfl) rfl rfl fun a hS => ?_)
                        refine wl rfl (ky (v := .bool false) hS (y_assign hS rfl) rfl rfl fun a hS => ?_)
                        refine wpList_nil ?_
                        try simp only [Exit.then, Exit.inBlock, ↓reduceIte, Nat.reduceEqDiff]
                        exact ⟨false, (hS.meet [] (by decide) ⟨rfl, trivial⟩ trivial trivial), hM⟩
                    · replace hM := cf hb187 hM
                      refine wn hS rfl rfl rfl hb187 rfl rfl fun a hS => ?_
                      refine wn hS rfl rfl rfl hb187 rfl rfl fun a hS => ?_
                      refine wn hS rfl rfl rfl hb187 rfl rfl fun a hS => ?_
                      refine wl rfl (ky (v := .bool false) hS (y_pickf hS rfl hb187 rfl) rfl rfl fun a hS => ?_)
                      refine wl rfl (ky (v := .bool false) hS (y_move hS rfl) rfl rfl fun a hS => ?_)
                      refine wn hS rfl rfl rfl rfl rfl rfl fun a hS => ?_
                      refine wn hS rfl rfl rfl rfl rfl rfl fun a hS => ?_
                      refine wn hS rfl rfl rfl rfl rfl rfl fun a hS => ?_
                      refine wn hS rfl rfl rfl rfl rfl rfl fun a hS => ?_
                      refine wnu hS rfl rfl rfl rfl rfl fun a hS => ?_
                      refine wnu hS rfl rfl rfl rfl rfl fun a hS => ?_
                      refine wnu hS rfl rfl rfl rfl rfl fun a hS => ?_
                      refine wn hS rfl rfl rfl rfl rfl rfl fun a hS => ?_
                      refine wl rfl (ky (v := .bool false) hS (y_pickf hS rfl rfl rfl) rfl rfl fun a hS => ?_)
                      refine wl rfl (ky (v := .bool false) hS (y_assign hS rfl) rfl rfl fun a hS => ?_)
                      refine wpList_nil ?_
                      try simp only [Exit.then, Exit.inBlock, ↓reduceIte, Nat.reduceEqDiff]
                      exact ⟨false, (hS.meet [] (by decide) ⟨rfl, trivial⟩ trivial trivial), hM⟩
                  · replace hM := cf hb186 hM
                    refine wn hS rfl rfl rfl hb186 rfl rfl fun a hS => ?_
                    refine wn hS rfl rfl rfl hb186 rfl rfl fun a hS => ?_
                    refine wn hS rfl rfl rfl hb186 rfl rfl fun a hS => ?_
                    refine wl rfl (ky (v := .bool false) hS (y_pickf hS rfl hb186 rfl) rfl rfl fun a hS => ?_)
                    refine wl rfl (ky (v := .bool false) hS (y_move hS rfl) rfl rfl fun a hS => ?_)
                    refine wn hS rfl rfl rfl rfl rfl rfl fun a hS => ?_
                    refine wn hS rfl rfl rfl rfl rfl rfl fun a hS => ?_
                    refine wn hS rfl rfl rfl rfl rfl rfl fun a hS => ?_
                    refine wl rfl (ky (v := .bool false) hS (y_pickf hS rfl rfl rfl) rfl rfl fun a hS => ?_)
                    refine wl rfl (ky (v := .bool false) hS (y_move hS rfl) rfl rfl fun a hS => ?_)
                    refine wn hS rfl rfl rfl rfl rfl rfl fun a hS => ?_
                    refine wn hS rfl rfl rfl rfl rfl rfl fun a hS => ?_
                    refine wn hS rfl rfl rfl rfl rfl rfl fun a hS => ?_
                    refine wn hS rfl rfl rfl rfl rfl rfl fun a hS => ?_
                    refine wnu hS rfl rfl rfl rfl rfl fun a hS => ?_
                    refine wnu hS rfl rfl rfl rfl rfl fun a hS => ?_
                    refine wnu hS rfl rfl rfl rfl rfl fun a hS => ?_
                    refine wn hS rfl rfl rfl rfl rfl rfl fun a hS => ?_
                    refine wl rfl (ky (v := .bool false) hS (y_pickf hS rfl rfl rfl) rfl rfl fun a hS => ?_)
                    refine wl rfl (ky (v := .bool false) hS (y_assign hS rfl) rfl rfl fun a hS => ?_)
                    refine wpList_nil ?_
                    try simp only [Exit.then, Exit.inBlock, ↓reduceIte, Nat.reduceEqDiff]
                    exact ⟨false, (hS.meet [] (by decide) ⟨rfl, trivial⟩ trivial trivial), hM⟩
                · replace hM := cf hb185 hM
                  refine wn hS rfl rfl rfl hb185 rfl rfl fun a hS => ?_
                  refine wn hS rfl rfl rfl hb185 rfl rfl fun a hS => ?_
                  refine wn hS rfl rfl rfl hb185 rfl rfl fun a hS => ?_
                  refine wl rfl (ky (v := .bool false) hS (y_pickf hS rfl hb185 rfl) rfl rfl fun a hS => ?_)
                  refine wl rfl (ky (v := .bool false) hS (y_move hS rfl) rfl rfl fun a hS => ?_)
                  refine wn hS rfl rfl rfl rfl rfl rfl fun a hS => ?_
                  refine wn hS rfl rfl rfl rfl rfl rfl fun a hS => ?_
                  refine wn hS rfl rfl rfl rfl rfl rfl fun a hS => ?_
                  refine wl rfl (ky (v := .bool false) hS (y_pickf hS rfl rfl rfl) rfl rfl fun a hS => ?_)
                  refine wl rfl (ky (v := .bool false) hS (y_move hS rfl) rfl rfl fun a hS => ?_)
                  refine wn hS rfl rfl rfl rfl rfl rfl fun a hS => ?_
                  refine wn hS rfl rfl rfl rfl rfl rfl fun a hS => ?_
                  refine wn hS rfl rfl rfl rfl rfl rfl fun a hS => ?_
                  refine wl rfl (ky (v := .bool false) hS (y_pickf hS rfl rfl rfl) rfl rfl fun a hS => ?_)
                  refine wl rfl (ky (v := .bool false) hS (y_move hS rfl) rfl rfl fun a hS => ?_)
                  refine wn hS rfl rfl rfl rfl rfl rfl fun a hS => ?_
                  refine wn hS rfl rfl rfl rfl rfl rfl fun a hS => ?_
                  refine wn hS rfl rfl rfl rfl rfl rfl fun a hS => ?_
                  refine wn hS rfl rfl rfl rfl rfl rfl fun a hS => ?_
                  refine wnu hS rfl rfl rfl rfl rfl fun a hS => ?_
                  refine wnu hS rfl rfl rfl rfl rfl fun a hS => ?_
                  refine wnu hS rfl rfl rfl rfl rfl fun a hS => ?_
                  refine wn hS rfl rfl rfl rfl rfl rfl fun a hS => ?_
                  refine wl rfl (ky (v := .bool false) hS (y_pickf hS rfl rfl rfl) rfl rfl fun a hS => ?_)
                  refine wl rfl (ky (v := .bool false) hS (y_assign hS rfl) rfl rfl fun a hS => ?_)
                  refine wpList_nil ?_
                  try simp only [Exit.then, Exit.inBlock, ↓reduceIte, Nat.reduceEqDiff]
                  exact ⟨false, (hS.meet [] (by decide) ⟨rfl, trivial⟩ trivial trivial), hM⟩
              · replace hM := cf hb184 hM
                refine wn hS rfl rfl rfl hb184 rfl rfl fun a hS => ?_
                refine wn hS rfl rfl rfl hb184 rfl rfl fun a hS => ?_
                refine wn hS rfl rfl rfl hb184 rfl rfl fun a hS => ?_
                refine wn hS rfl rfl rfl hb184 rfl rfl fun a hS => ?_
                refine wn hS rfl rfl rfl hb184 rfl rfl fun a hS => ?_
                refine wl rfl (ky (v := .bool false) hS (y_pickf hS rfl hb184 rfl) rfl rfl fun a hS => ?_)
                refine wl rfl (ky (v := .bool false) hS (y_move hS rfl) rfl rfl fun a hS => ?_)
                refine wn hS rfl rfl rfl rfl rfl rfl fun a hS => ?_
                refine wn hS rfl rfl rfl rfl rfl rfl fun a hS => ?_
                refine wn hS rfl rfl rfl rfl rfl rfl fun a hS => ?_
                refine wl rfl (ky (v := .bool false) hS (y_pickf hS rfl rfl rfl) rfl rfl fun a hS => ?_)
                refine wl rfl (ky (v := .bool false) hS (y_move hS rfl) rfl rfl fun a hS => ?_)
                refine wn hS rfl rfl rfl rfl rfl rfl fun a hS => ?_
                refine wn hS rfl rfl rfl rfl rfl rfl fun a hS => ?_
                refine wn hS rfl rfl rfl rfl rfl rfl fun a hS => ?_
                refine wl rfl (ky (v := .bool false) hS (y_pickf hS rfl rfl rfl) rfl rfl fun a hS => ?_)
                refine wl rfl (ky (v := .bool false) hS (y_move hS rfl) rfl rfl fun a hS => ?_)
                refine wn hS rfl rfl rfl rfl rfl rfl fun a hS => ?_
                refine wn hS rfl rfl rfl rfl rfl rfl fun a hS => ?_
                refine wn hS rfl rfl rfl rfl rfl rfl fun a hS => ?_
                refine wl rfl (ky (v := .bool false) hS (y_pickf hS rfl rfl rfl) rfl rfl fun a hS => ?_)
                refine wl rfl (ky (v := .bool false) hS (y_move hS rfl) rfl rfl fun a hS => ?_)
                refine wn hS rfl rfl rfl rfl rfl rfl fun a hS => ?_
                refine wn hS rfl rfl rfl rfl rfl rfl fun a hS => ?_
                refine wn hS rfl rfl rfl rfl rfl rfl fun a hS => ?_
                refine wn hS rfl rfl rfl rfl rfl rfl fun a hS => ?_
                refine wnu hS rfl rfl rfl rfl rfl fun a hS => ?_
                refine wnu hS rfl rfl rfl rfl rfl fun a hS => ?_
                refine wnu hS rfl rfl rfl rfl rfl fun a hS => ?_
                refine wn hS rfl rfl rfl rfl rfl rfl fun a hS => ?_
                refine wl rfl (ky (v := .bool false) hS (y_pickf hS rfl rfl rfl) rfl rfl fun a hS => ?_)
                refine wl rfl (ky (v := .bool false) hS (y_assign hS rfl) rfl rfl fun a hS => ?_)
                refine wpList_nil ?_
                try simp only [Exit.then, Exit.inBlock, ↓reduceIte, Nat.reduceEqDiff]
                exact ⟨false, (hS.meet [] (by decide) ⟨rfl, trivial⟩ trivial trivial), hM⟩
            · replace hM := cf hb183 hM
              refine wn hS rfl rfl rfl hb183 rfl rfl fun a hS => ?_
              refine wn hS rfl rfl rfl hb183 rfl rfl fun a hS => ?_
              refine wn hS rfl rfl rfl hb183 rfl rfl fun a hS => ?_
              refine wl rfl (ky (v := .bool false) hS (y_pickf hS rfl hb183 rfl) rfl rfl fun a hS => ?_)
              refine wl rfl (ky (v := .bool false) hS (y_move hS rfl) rfl rfl fun a hS => ?_)
              refine wn hS rfl rfl rfl rfl rfl rfl fun a hS => ?_
              refine wn hS rfl rfl rfl rfl rfl rfl fun a hS => ?_
              refine wn hS rfl rfl rfl rfl rfl rfl fun a hS => ?_
              refine wn hS rfl rfl rfl rfl rfl rfl fun a hS => ?_
              refine wn hS rfl rfl rfl rfl rfl rfl fun a hS => ?_
              refine wl rfl (ky (v := .bool false) hS (y_pickf hS rfl rfl rfl) rfl rfl fun a hS => ?_)
              refine wl rfl (ky (v := .bool false) hS (y_move hS rfl) rfl rfl fun a hS => ?_)
              refine wn hS rfl rfl rfl rfl rfl rfl fun a hS => ?_
              refine wn hS rfl rfl rfl rfl rfl rfl fun a hS => ?_
              refine wn hS rfl rfl rfl rfl rfl rfl fun a hS => ?_
              refine wl rfl (ky (v := .bool false) hS (y_pickf hS rfl rfl rfl) rfl rfl fun a hS => ?_)
              refine wl rfl (ky (v := .bool false) hS (y_move hS rfl) rfl rfl fun a hS => ?_)
              refine wn hS rfl rfl rfl rfl rfl rfl fun a hS => ?_
              refine wn hS rfl rfl rfl rfl rfl rfl fun a hS => ?_
              refine wn hS rfl rfl rfl rfl rfl rfl fun a hS => ?_
              refine wl rfl (ky (v := .bool false) hS (y_pickf hS rfl rfl rfl) rfl rfl fun a hS => ?_)
              refine wl rfl (ky (v := .bool false) hS (y_move hS rfl) rfl rfl fun a hS => ?_)
              refine wn hS rfl rfl rfl rfl rfl rfl fun a hS => ?_
              refine wn hS rfl rfl rfl rfl rfl rfl fun a hS => ?_
              refine wn hS rfl rfl rfl rfl rfl rfl fun a hS => ?_
              refine wl rfl (ky (v := .bool false) hS (y_pickf hS rfl rfl rfl) rfl rfl fun a hS => ?_)
              refine wl rfl (ky (v := .bool false) hS (y_move hS rfl) rfl rfl fun a hS => ?_)
              refine wn hS rfl rfl rfl rfl rfl rfl fun a hS => ?_
              refine wn hS rfl rfl rfl rfl rfl rfl fun a hS => ?_
              refine wn hS rfl rfl rfl rfl rfl rfl fun a hS => ?_
              refine wn hS rfl rfl rfl rfl rfl rfl fun a hS => ?_
              refine wnu hS rfl rfl rfl rfl rfl fun a hS => ?_
              refine wnu hS rfl rfl rfl rfl rfl fun a hS => ?_
              refine wnu hS rfl rfl rfl rfl rfl fun a hS => ?_
              refine wn hS rfl rfl rfl rfl rfl rfl fun a hS => ?_
              refine wl rfl (ky (v := .bool false) hS (y_pickf hS rfl rfl rfl) rfl rfl fun a hS => ?_)
              refine wl rfl (ky (v := .bool false) hS (y_assign hS rfl) rfl rfl fun a hS => ?_)
              refine wpList_nil ?_
              try simp only [Exit.then, Exit.inBlock, ↓reduceIte, Nat.reduceEqDiff]
              exact ⟨false, (hS.meet [] (by decide) ⟨rfl, trivial⟩ trivial trivial), hM⟩
          · replace hM := cf hb182 hM
            refine wn hS rfl rfl rfl hb182 rfl rfl fun a hS => ?_
            refine wn hS rfl rfl rfl hb182 rfl rfl fun a hS => ?_
            refine wn hS rfl rfl rfl hb182 rfl rfl fun a hS => ?_
            refine wn hS rfl rfl rfl hb182 rfl rfl fun a hS => ?_
            refine wl rfl (ky (v := .bool false) hS (y_pickf hS rfl hb182 rfl) rfl rfl fun a hS => ?_)
            refine wl rfl (ky (v := .bool false) hS (y_move hS rfl) rfl rfl fun a hS => ?_)
            refine wn hS rfl rfl rfl rfl rfl rfl fun a hS => ?_
            refine wn hS rfl rfl rfl rfl rfl rfl fun a hS => ?_
            refine wn hS rfl rfl rfl rfl rfl rfl fun a hS => ?_
            refine wl rfl (ky (v := .bool false) hS (y_pickf hS rfl rfl rfl) rfl rfl fun a hS => ?_)
            refine wl rfl (ky (v := .bool false) hS (y_move hS rfl) rfl rfl fun a hS => ?_)
            refine wn hS rfl rfl rfl rfl rfl rfl fun a hS => ?_
            refine wn hS rfl rfl rfl rfl rfl rfl fun a hS => ?_
            refine wn hS rfl rfl rfl rfl rfl rfl fun a hS => ?_
            refine wn hS rfl rfl rfl rfl rfl rfl fun a hS => ?_
            refine wn hS rfl rfl rfl rfl rfl rfl fun a hS => ?_
            refine wl rfl (ky (v := .bool false) hS (y_pickf hS rfl rfl rfl) rfl rfl fun a hS => ?_)
            refine wl rfl (ky (v := .bool false) hS (y_move hS rfl) rfl rfl fun a hS => ?_)
            refine wn hS rfl rfl rfl rfl rfl rfl fun a hS => ?_
            refine wn hS rfl rfl rfl rfl rfl rfl fun a hS => ?_
            refine wn hS rfl rfl rfl rfl rfl rfl fun a hS => ?_
            refine wl rfl (ky (v := .bool false) hS (y_pickf hS rfl rfl rfl) rfl rfl fun a hS => ?_)
            refine wl rfl (ky (v := .bool false) hS (y_move hS rfl) rfl rfl fun a hS => ?_)
            refine wn hS rfl rfl rfl rfl rfl rfl fun a hS => ?_
            refine wn hS rfl rfl rfl rfl rfl rfl fun a hS => ?_
            refine wn hS rfl rfl rfl rfl rfl rfl fun a hS => ?_
            refine wl rfl (ky (v := .bool false) hS (y_pickf hS rfl rfl rfl) rfl rfl fun a hS => ?_)
            refine wl rfl (ky (v := .bool false) hS (y_move hS rfl) rfl rfl fun a hS => ?_)
            refine wn hS rfl rfl rfl rfl rfl rfl fun a hS => ?_
            refine wn hS rfl rfl rfl rfl rfl rfl fun a hS => ?_
            refine wn hS rfl rfl rfl rfl rfl rfl fun a hS => ?_
            refine wl rfl (ky (v := .bool false) hS (y_pickf hS rfl rfl rfl) rfl rfl fun a hS => ?_)
            refine wl rfl (ky (v := .bool false) hS (y_move hS rfl) rfl rfl fun a hS => ?_)
            refine wn hS rfl rfl rfl rfl rfl rfl fun a hS => ?_
            refine wn hS rfl rfl rfl rfl rfl rfl fun a hS => ?_
            refine wn hS rfl rfl rfl rfl rfl rfl fun a hS => ?_
            refine wn hS rfl rfl rfl rfl rfl rfl fun a hS => ?_
            refine wnu hS rfl rfl rfl rfl rfl fun a hS => ?_
            refine wnu hS rfl rfl rfl rfl rfl fun a hS => ?_
            refine wnu hS rfl rfl rfl rfl rfl fun a hS => ?_
            refine wn hS rfl rfl rfl rfl rfl rfl fun a hS => ?_
            refine wl rfl (ky (v := .bool false) hS (y_pickf hS rfl rfl rfl) rfl rfl fun a hS => ?_)
            refine wl rfl (ky (v := .bool false) hS (y_assign hS rfl) rfl rfl fun a hS => ?_)
            refine wpList_nil ?_
            try simp only [Exit.then, Exit.inBlock, ↓reduceIte, Nat.reduceEqDiff]
            exact ⟨false, (hS.meet [] (by decide) ⟨rfl, trivial⟩ trivial trivial), hM⟩
        · replace hM := cf hb181 hM
          refine wn hS rfl rfl rfl hb181 rfl rfl fun a hS => ?_
          refine wn hS rfl rfl rfl hb181 rfl rfl fun a hS => ?_
          refine wn hS rfl rfl rfl hb181 rfl rfl fun a hS => ?_
          refine wn hS rfl rfl rfl hb181 rfl rfl fun a hS => ?_
          refine wl rfl (ky (v := .bool false) hS (y_pickf hS rfl hb181 rfl) rfl rfl fun a hS => ?_)
          refine wl rfl (ky (v := .bool false) hS (y_move hS rfl) rfl rfl fun a hS => ?_)
          refine wn hS rfl rfl rfl rfl rfl rfl fun a hS => ?_
          refine wn hS rfl rfl rfl rfl rfl rfl fun a hS => ?_
          refine wn hS rfl rfl rfl rfl rfl rfl fun a hS => ?_
          refine wn hS rfl rfl rfl rfl rfl rfl fun a hS => ?_
          refine wl rfl (ky (v := .bool false) hS (y_pickf hS rfl rfl rfl) rfl rfl fun a hS => ?_)
          refine wl rfl (ky (v := .bool false) hS (y_move hS rfl) rfl rfl fun a hS => ?_)
          refine wn hS rfl rfl rfl rfl rfl rfl fun a hS => ?_
          refine wn hS rfl rfl rfl rfl rfl rfl fun a hS => ?_
          refine wn hS rfl rfl rfl rfl rfl rfl fun a hS => ?_
          refine wl rfl (ky (v := .bool false) hS (y_pickf hS rfl rfl rfl) rfl rfl fun a hS => ?_)
          refine wl rfl (ky (v := .bool false) hS (y_move hS rfl) rfl rfl fun a hS => ?_)
          refine wn hS rfl rfl rfl rfl rfl rfl fun a hS => ?_
          refine wn hS rfl rfl rfl rfl rfl rfl fun a hS => ?_
          refine wn hS rfl rfl rfl rfl rfl rfl fun a hS => ?_
          refine wn hS rfl rfl rfl rfl rfl rfl fun a hS => ?_
          refine wn hS rfl rfl rfl rfl rfl rfl fun a hS => ?_
          refine wl rfl (ky (v := .bool false) hS (y_pickf hS rfl rfl rfl) rfl rfl fun a hS => ?_)
          refine wl rfl (ky (v := .bool false) hS (y_move hS rfl) rfl rfl fun a hS => ?_)
          refine wn hS rfl rfl rfl rfl rfl rfl fun a hS => ?_
          refine wn hS rfl rfl rfl rfl rfl rfl fun a hS => ?_
          refine wn hS rfl rfl rfl rfl rfl rfl fun a hS => ?_
          refine wl rfl (ky (v := .bool false) hS (y_pickf hS rfl rfl rfl) rfl rfl fun a hS => ?_)
          refine wl rfl (ky (v := .bool false) hS (y_move hS rfl) rfl rfl fun a hS => ?_)
          refine wn hS rfl rfl rfl rfl rfl rfl fun a hS => ?_
          refine wn hS rfl rfl rfl rfl rfl rfl fun a hS => ?_
          refine wn hS rfl rfl rfl rfl rfl rfl fun a hS => ?_
          refine wl rfl (ky (v := .bool false) hS (y_pickf hS rfl rfl rfl) rfl rfl fun a hS => ?_)
          refine wl rfl (ky (v := .bool false) hS (y_move hS rfl) rfl rfl fun a hS => ?_)
          refine wn hS rfl rfl rfl rfl rfl rfl fun a hS => ?_
          refine wn hS rfl rfl rfl rfl rfl rfl fun a hS => ?_
          refine wn hS rfl rfl rfl rfl rfl rfl fun a hS => ?_
          refine wl rfl (ky (v := .bool false) hS (y_pickf hS rfl rfl rfl) rfl rfl fun a hS => ?_)
          refine wl rfl (ky (v := .bool false) hS (y_move hS rfl) rfl rfl fun a hS => ?_)
          refine wn hS rfl rfl rfl rfl rfl rfl fun a hS => ?_
          refine wn hS rfl rfl rfl rfl rfl rfl fun a hS => ?_
          refine wn hS rfl rfl rfl rfl rfl rfl fun a hS => ?_
          refine wn hS rfl rfl rfl rfl rfl rfl fun a hS => ?_
          refine wnu hS rfl rfl rfl rfl rfl fun a hS => ?_
          refine wnu hS rfl rfl rfl rfl rfl fun a hS => ?_
          refine wnu hS rfl rfl rfl rfl rfl fun a hS => ?_
          refine wn hS rfl rfl rfl rfl rfl rfl fun a hS => ?_
          refine wl rfl (ky (v := .bool false) hS (y_pickf hS rfl rfl rfl) rfl rfl fun a hS => ?_)
          refine wl rfl (ky (v := .bool false) hS (y_assign hS rfl) rfl rfl fun a hS => ?_)
          refine wpList_nil ?_
          try simp only [Exit.then, Exit.inBlock, ↓reduceIte, Nat.reduceEqDiff]
          exact ⟨false, (hS.meet [] (by decide) ⟨rfl, trivial⟩ trivial trivial), hM⟩
      · replace hM := cf hb178 hM
        refine wn hS rfl rfl rfl hb178 rfl rfl fun a hS => ?_
        refine wn hS rfl rfl rfl hb178 rfl rfl fun a hS => ?_
        refine wn hS rfl rfl rfl hb178 rfl rfl fun a hS => ?_
        refine wn hS rfl rfl rfl hb178 rfl rfl fun a hS => ?_
        refine wl rfl (ky (v := .bool false) hS (y_pickf hS rfl hb178 rfl) rfl rfl fun a hS => ?_)
        refine wl rfl (ky (v := .bool false) hS (y_move hS rfl) rfl rfl fun a hS => ?_)
        refine wn hS rfl rfl rfl rfl rfl rfl fun a hS => ?_
        refine wn hS rfl rfl rfl rfl rfl rfl fun a hS => ?_
        refine wn hS rfl rfl rfl rfl rfl rfl fun a hS => ?_
        refine wn hS rfl rfl rfl rfl rfl rfl fun a hS => ?_
        refine wl rfl (ky (v := .bool false) hS (y_pickf hS rfl rfl rfl) rfl rfl fun a hS => ?_)
        refine wl rfl (ky (v := .bool false) hS (y_move hS rfl) rfl rfl fun a hS => ?_)
        refine wn hS rfl rfl rfl rfl rfl rfl fun a hS => ?_
        refine wn hS rfl rfl rfl rfl rfl rfl fun a hS => ?_
        refine wn hS rfl rfl rfl rfl rfl rfl fun a hS => ?_
        refine wn hS rfl rfl rfl rfl rfl rfl fun a hS => ?_
        refine wl rfl (ky (v := .bool false) hS (y_pickf hS rfl rfl rfl) rfl rfl fun a hS => ?_)
        refine wl rfl (ky (v := .bool false) hS (y_move hS rfl) rfl rfl fun a hS => ?_)
        refine wn hS rfl rfl rfl rfl rfl rfl fun a hS => ?_
        refine wn hS rfl rfl rfl rfl rfl rfl fun a hS => ?_
        refine wn hS rfl rfl rfl rfl rfl rfl fun a hS => ?_
        refine wl rfl (ky (v := .bool false) hS (y_pickf hS rfl rfl rfl) rfl rfl fun a hS => ?_)
        refine wl rfl (ky (v := .bool false) hS (y_move hS rfl) rfl rfl fun a hS => ?_)
        refine wn hS rfl rfl rfl rfl rfl rfl fun a hS => ?_
        refine wn hS rfl rfl rfl rfl rfl rfl fun a hS => ?_
        refine wn hS rfl rfl rfl rfl rfl rfl fun a hS => ?_
        refine wn hS rfl rfl rfl rfl rfl rfl fun a hS => ?_
        refine wn hS rfl rfl rfl rfl rfl rfl fun a hS => ?_
        refine wl rfl (ky (v := .bool false) hS (y_pickf hS rfl rfl rfl) rfl rfl fun a hS => ?_)
        refine wl rfl (ky (v := .bool false) hS (y_move hS rfl) rfl rfl fun a hS => ?_)
        refine wn hS rfl rfl rfl rfl rfl rfl fun a hS => ?_
        refine wn hS rfl rfl rfl rfl rfl rfl fun a hS => ?_
        refine wn hS rfl rfl rfl rfl rfl rfl fun a hS => ?_
        refine wl rfl (ky (v := .bool false) hS (y_pickf hS rfl rfl rfl) rfl rfl fun a hS => ?_)
        refine wl rfl (ky (v := .bool false) hS (y_move hS rfl) rfl rfl fun a hS => ?_)
        refine wn hS rfl rfl rfl rfl rfl rfl fun a hS => ?_
        refine wn hS rfl rfl rfl rfl rfl rfl fun a hS => ?_
        refine wn hS rfl rfl rfl rfl rfl rfl fun a hS => ?_
        refine wl rfl (ky (v := .bool false) hS (y_pickf hS rfl rfl rfl) rfl rfl fun a hS => ?_)
        refine wl rfl (ky (v := .bool false) hS (y_move hS rfl) rfl rfl fun a hS => ?_)
        refine wn hS rfl rfl rfl rfl rfl rfl fun a hS => ?_
        refine wn hS rfl rfl rfl rfl rfl rfl fun a hS => ?_
        refine wn hS rfl rfl rfl rfl rfl rfl fun a hS => ?_
        refine wl rfl (ky (v := .bool false) hS (y_pickf hS rfl rfl rfl) rfl rfl fun a hS => ?_)
        refine wl rfl (ky (v := .bool false) hS (y_move hS rfl) rfl rfl fun a hS => ?_)
        refine wn hS rfl rfl rfl rfl rfl rfl fun a hS => ?_
        refine wn hS rfl rfl rfl rfl rfl rfl fun a hS => ?_
        refine wn hS rfl rfl rfl rfl rfl rfl fun a hS => ?_
        refine wn hS rfl rfl rfl rfl rfl rfl fun a hS => ?_
        refine wnu hS rfl rfl rfl rfl rfl fun a hS => ?_
        refine wnu hS rfl rfl rfl rfl rfl fun a hS => ?_
        refine wnu hS rfl rfl rfl rfl rfl fun a hS => ?_
        refine wn hS rfl rfl rfl rfl rfl rfl fun a hS => ?_
        refine wl rfl (ky (v := .bool false) hS (y_pickf hS rfl rfl rfl) rfl rfl fun a hS => ?_)
        refine wl rfl (ky (v := .bool false) hS (y_assign hS rfl) rfl rfl fun a hS => ?_)
        refine wpList_nil ?_
        try simp only [Exit.then, Exit.inBlock, ↓reduceIte, Nat.reduceEqDiff]
        exact ⟨false, (hS.meet [] (by decide) ⟨rfl, trivial⟩ trivial trivial), hM⟩
    · rintro a w ⟨g175, hS, hM⟩
      unfold ref26_Valid_j1 at hM
      refine wp_ret ?_
      injection hM with hM
      subst hM
      try simp only [Exit.then, Exit.inBlock, ↓reduceIte, Nat.reduceEqDiff]
      refine ret_ok hS Tryd.results49 (res_tmp hS rfl res_nil) ?_
      exact rfl

noncomputable def ref26_Size (r_0 : RecordD) : Option Int := some (IntKind.i64.wrap ((IntKind.i64.wrap ((IntKind.i64.wrap (16 + (r_0.Key.Text.size : Int))) + (r_0.Value.size : Int))) + (IntKind.i64.wrap (8 * (r_0.Reads.length : Int)))))
set_option maxRecDepth 100000 in
set_option maxHeartbeats 4000000 in
theorem ref26_Size_c (T : Nat → Prop) (W0 : World) (hT : ∀ k, T k → k < W0.heap.size) (r_0 : RecordD) (v1 : Value) (hv1 : SlR R_KeyD T W0 v1 r_0.Reads) (y : Int) (hM : ref26_Size r_0 = some y) : Rets Tryd.prog No 50 [.agg #[.int .i64 r_0.Key.Kind, .string r_0.Key.Text, .string r_0.Value, v1, .int .i64 r_0.Changed, .int .i64 r_0.Verified, .int .i64 r_0.Cost, .bool r_0.Dirty]] W0 (fun v w' => v = .int .i64 y) := by
  refine enter (c := _) Tryd.func50 rfl T 17 Tryd.ntmps50 hT rfl fun a hS => ?_
  replace hS := hS.fact (SlF R_KeyD v1 r_0.Reads) (SlR.dn hv1)
  unfold ref26_Size at hM
  refine wp_seq_k fun K3 hK3 => ?_
  refine r_list ?_
  refine wl rfl (k_box hS rfl (cs := [.int .i64 r_0.Key.Kind, .string r_0.Key.Text, .string r_0.Value, v1, .int .i64 r_0.Changed, .int .i64 r_0.Verified, .int .i64 r_0.Cost, .bool r_0.Dirty]) rfl rfl fun b4 hnb6 a w hk hS => ?_)
  refine wl rfl (ky (v := .int .i64 0) hS (y_assign hS rfl) rfl rfl fun a hS => ?_)
  refine wpList_nil ?_
  try simp only [Exit.then, Exit.inBlock, ↓reduceIte, Nat.reduceEqDiff]
  refine hK3 _ _ ?_
  refine wp_seq_k fun K4 hK4 => ?_
  refine r_list ?_
  refine wl rfl (ky (v := .pointer (some ⟨b4, 0 + 0, none⟩)) hS (y_fld hS rfl fl54_0) rfl rfl fun a hS => ?_)
  refine wl rfl (ky (v := .pointer (some ⟨b4, 0 + 0 + 1, none⟩)) hS (y_fld hS rfl fl28_1) rfl rfl fun a hS => ?_)
  refine wl rfl (ky (v := .string r_0.Key.Text) hS (y_load hS rfl ty9 0 rfl id (us := [.string r_0.Key.Text]) rfl rfl (fun _ => rfl)) rfl rfl fun a hS => ?_)
  refine wl rfl (ky (v := .int .i64 (r_0.Key.Text.size : Int)) hS (y_lens hS Tryd.underlying9 rfl) rfl rfl fun a hS => ?_)
  refine wl rfl (ky (v := .int .i64 (IntKind.i64.wrap (16 + (r_0.Key.Text.size : Int)))) hS (y_int hS rfl rfl rfl) rfl rfl fun a hS => ?_)
  refine wl rfl (ky (v := .pointer (some ⟨b4, 0 + 2, none⟩)) hS (y_fld hS rfl fl54_1) rfl rfl fun a hS => ?_)
  refine wl rfl (ky (v := .string r_0.Value) hS (y_load hS rfl ty9 0 rfl id (us := [.string r_0.Value]) rfl rfl (fun _ => rfl)) rfl rfl fun a hS => ?_)
  refine wl rfl (ky (v := .int .i64 (r_0.Value.size : Int)) hS (y_lens hS Tryd.underlying9 rfl) rfl rfl fun a hS => ?_)
  refine wl rfl (ky (v := .int .i64 (IntKind.i64.wrap ((IntKind.i64.wrap (16 + (r_0.Key.Text.size : Int))) + (r_0.Value.size : Int)))) hS (y_int hS rfl rfl rfl) rfl rfl fun a hS => ?_)
  refine wl rfl (ky (v := .pointer (some ⟨b4, 0 + 3, none⟩)) hS (y_fld hS rfl fl54_2) rfl rfl fun a hS => ?_)
  refine wl rfl (ky (v := v1) hS (y_load hS rfl ty22 0 rfl id (us := [v1]) rfl rfl (fun _ => rfl)) rfl rfl fun a hS => ?_)
  refine wl rfl (ky (v := .int .i64 (r_0.Reads.length : Int)) hS (y_len (R := R_KeyD) (xs := r_0.Reads) hS sl22 rfl 0 rfl) rfl rfl fun a hS => ?_)
  refine wl rfl (ky (v := .int .i64 (IntKind.i64.wrap (8 * (r_0.Reads.length : Int)))) hS (y_int hS rfl rfl rfl) rfl rfl fun a hS => ?_)
  refine wl rfl (ky (v := .int .i64 (IntKind.i64.wrap ((IntKind.i64.wrap ((IntKind.i64.wrap (16 + (r_0.Key.Text.size : Int))) + (r_0.Value.size : Int))) + (IntKind.i64.wrap (8 * (r_0.Reads.length : Int)))))) hS (y_int hS rfl rfl rfl) rfl rfl fun a hS => ?_)
  refine wl rfl (ky (v := .int .i64 (IntKind.i64.wrap ((IntKind.i64.wrap ((IntKind.i64.wrap (16 + (r_0.Key.Text.size : Int))) + (r_0.Value.size : Int))) + (IntKind.i64.wrap (8 * (r_0.Reads.length : Int)))))) hS (y_assign hS rfl) rfl rfl fun a hS => ?_)
  refine wpList_nil ?_
  try simp only [Exit.then, Exit.inBlock, ↓reduceIte, Nat.reduceEqDiff]
  refine hK4 _ _ ?_
  refine wp_ret ?_
  injection hM with hM
  subst hM
  try simp only [Exit.then, Exit.inBlock, ↓reduceIte, Nat.reduceEqDiff]
  refine ret_ok hS Tryd.results50 (res_tmp hS rfl res_nil) ?_
  exact rfl

noncomputable def ref26_ValidList_j1 (l_0 : (List RecordD)) : Option Bool := some (decide (((l_0.length : Int) : Int) ≤ 4000))
noncomputable def ref26_ValidList_j2 (g606 : Int) (g772 : Bool) : Option (Fl (Int) (Fl (Unit) Bool)) := cond g772 (some (.out (.out false))) (some (.go (IntKind.i64.wrap (g606 + 1))))
noncomputable def ref26_ValidList_l3 (l_0 : (List RecordD)) (g606 : Int) : Option (Fl (Int) (Fl (Unit) Bool)) := cond (decide ((g606 : Int) < (l_0.length : Int))) ((getI l_0 g606).bind fun e706 => (ref26_Valid e706).bind fun u788 => cond (!(u788)) (ref26_ValidList_j2 g606 true) (cond (decide ((0 : Int) < g606)) ((getI l_0 (IntKind.i64.wrap (g606 - 1))).bind fun e792 => (ref23_Cmp e792.Key e706.Key).bind fun u800 => ref26_ValidList_j2 g606 (decide ((0 : Int) ≤ u800))) (ref26_ValidList_j2 g606 false))) (some (.out (.go ())))
noncomputable def ref26_ValidList (l_0 : (List RecordD)) : Option Bool := (loop (fun s : Int => ref26_ValidList_l3 l_0 s) 0).bind fun r => Fl.el r (fun s => ref26_ValidList_j1 l_0) (fun y => some (y))
set_option maxRecDepth 100000 in
set_option maxHeartbeats 4000000 in
theorem ref26_ValidList_c (T : Nat → Prop) (W0 : World) (hT : ∀ k, T k → k < W0.heap.size) (hLv : LvP T W0) (l_0 : (List RecordD)) (v1 : Value) (hv1 : SlR R_RecordD T W0 v1 l_0) (y : Bool) (hM : ref26_ValidList l_0 = some y) : Rets Tryd.prog No 51 [v1] W0 (fun v w' => v = .bool y) := by
  refine enter (c := _) Tryd.func51 rfl T 35 Tryd.ntmps51 hT rfl fun a hS => ?_
  replace hS := hS.fact LvF (LvP.dn hLv)
  replace hS := hS.fact (SlF R_RecordD v1 l_0) (SlR.dn hv1)
  unfold ref26_ValidList at hM
  refine wp_seq_k fun K20 hK20 => ?_
  refine r_list ?_
  refine wl rfl (ky (v := .bool false) hS (y_assign hS rfl) rfl rfl fun a hS => ?_)
  refine wpList_nil ?_
  try simp only [Exit.then, Exit.inBlock, ↓reduceIte, Nat.reduceEqDiff]
  refine hK20 _ _ ?_
  refine seq_j (J := fun a w => St W0 No T 35 [(0, v1)] [] [SlF R_RecordD v1 l_0, LvF] a w ∧ ref26_ValidList_j1 l_0 = some y) ?_ ?_
  · skip
    refine wp_seq_k fun K33 hK33 => ?_
    refine r_list ?_
    refine wl rfl (ky (v := v1) hS (y_move hS rfl) rfl rfl fun a hS => ?_)
    refine wl rfl (ky (v := .int .i64 (l_0.length : Int)) hS (y_len (R := R_RecordD) (xs := l_0) hS sl51 rfl 0 rfl) rfl rfl fun a hS => ?_)
    refine wl rfl (ky (v := .int .i64 0) hS (y_move hS rfl) rfl rfl fun a hS => ?_)
    refine wpList_nil ?_
    try simp only [Exit.then, Exit.inBlock, ↓reduceIte, Nat.reduceEqDiff]
    refine hK33 _ _ ?_
    refine wp_block ?_
    obtain ⟨r1, hl1, hMo1⟩ := bd hM
    refine wp_lp (fun s : Int => ref26_ValidList_l3 l_0 s) (fun s a w => ∃ (g606 : Int), g606 = s ∧ St W0 No T 35 [(0, v1), (5, v1), (6, .int .i64 (l_0.length : Int)), (7, .int .i64 g606)] [] [SlF R_RecordD v1 l_0, LvF] a w) hl1 ⟨0, rfl, (hS.meet [] (by decide) ⟨rfl, rfl, rfl, rfl, trivial⟩ trivial ⟨⟨0, rfl⟩, ⟨1, rfl⟩, trivial⟩)⟩ ?_
    rintro s a w f1 ⟨g606, rfl, hS⟩ hM hf1
    have hM : ref26_ValidList_l3 l_0 g606 = some f1 := hM
    unfold ref26_ValidList_l3 at hM
    refine wp_seq_k fun K44 hK44 => ?_
    refine r_list ?_
    refine wl rfl (ky (v := .bool (decide ((g606 : Int) < (l_0.length : Int)))) hS (y_int hS rfl rfl rfl) rfl rfl fun a hS => ?_)
    refine wpList_nil ?_
    try simp only [Exit.then, Exit.inBlock, ↓reduceIte, Nat.reduceEqDiff]
    refine hK44 _ _ ?_
    refine wp_seq_k fun K45 hK45 => ?_
    rcases bool2 (decide ((g606 : Int) < (l_0.length : Int))) with hb705 | hb705
    · replace hM := ct hb705 hM
      refine c_t hS rfl hb705 ?_
      refine wp_skip ?_
      try simp only [Exit.then, Exit.inBlock, ↓reduceIte, Nat.reduceEqDiff]
      refine hK45 _ _ ?_
      refine wp_seq_k fun K46 hK46 => ?_
      refine wp_block ?_
      refine wp_seq_k fun K47 hK47 => ?_
      refine r_list ?_
      refine wl rfl (ky (v := .int .i64 g606) hS (y_move hS rfl) rfl rfl fun a hS => ?_)
      obtain ⟨e706, he706, hM⟩ := bd hM
      refine wl rfl (k_index (R := R_RecordD) hS sl51 ty54 rfl rfl 0 rfl he706 rfl fun b708 o709 cs711 hr710 a hS => ?_)
      obtain ⟨v707, rfl, hv707⟩ := hr710
      replace hS := hS.fact (SlF R_KeyD v707 e706.Reads) hv707
      refine wl rfl (ky (v := .agg #[.int .i64 e706.Key.Kind, .string e706.Key.Text, .string e706.Value, v707, .int .i64 e706.Changed, .int .i64 e706.Verified, .int .i64 e706.Cost, .bool e706.Dirty]) hS (y_loadc (k := 0) hS ty54 1 rfl rfl (fun _ h => h.elim) (us := [.int .i64 e706.Key.Kind, .string e706.Key.Text, .string e706.Value, v707, .int .i64 e706.Changed, .int .i64 e706.Verified, .int .i64 e706.Cost, .bool e706.Dirty]) rfl rfl (fun h => by cases h)) rfl rfl fun a hS => ?_)
      refine wl rfl (k_alloc hS ze54 rfl fun b713 hnb715 a w hk hS => ?_)
      refine wl rfl (ky (v := .int .i64 g606) hS (y_assign hS rfl) rfl rfl fun a hS => ?_)
      refine wl rfl (k_store hS rfl rfl (us := [.int .i64 e706.Key.Kind, .string e706.Key.Text, .string e706.Value, v707, .int .i64 e706.Changed, .int .i64 e706.Verified, .int .i64 e706.Cost, .bool e706.Dirty]) rfl ty54 0 rfl rfl rfl (oc rfl (oc rfl (oc rfl (oc (SlR.one ((hS.get 0 rfl) : SlR R_KeyD _ _ _ _)) (oc rfl (oc rfl (oc rfl (oc rfl on)))))))) fun w hk hS => ?_)
      refine wpList_nil ?_
      try simp only [Exit.then, Exit.inBlock, ↓reduceIte, Nat.reduceEqDiff]
      refine hK47 _ _ ?_
      refine seq_j (J := fun a w => ∃ (g772 : Bool), St W0 No T 35 [(0, v1), (5, v1), (6, .int .i64 (l_0.length : Int)), (7, .int .i64 g606), (30, .bool g772)] [] [SlF R_RecordD v1 l_0, LvF] a w ∧ ref26_ValidList_j2 g606 g772 = some f1) ?_ ?_
      · skip
        refine draws [] hS mixed rfl (fun c a d v w h => by cases d <;> exact h) fun w hQ hS => ?_
        refine dy (l := []) 0 (v := .agg #[.int .i64 e706.Key.Kind, .string e706.Key.Text, .string e706.Value, v707, .int .i64 e706.Changed, .int .i64 e706.Verified, .int .i64 e706.Cost, .bool e706.Dirty]) rfl (by kernel_rfl) (by kernel_rfl) (by kernel_rfl) (by kernel_rfl) hQ hS (y_load hS rfl ty54 0 rfl eo_nil (us := [.int .i64 e706.Key.Kind, .string e706.Key.Text, .string e706.Value, v707, .int .i64 e706.Changed, .int .i64 e706.Verified, .int .i64 e706.Cost, .bool e706.Dirty]) rfl rfl (fun h => by cases h)) rfl rfl rfl fun a hS => ?_
        obtain ⟨u788, hu788, hM⟩ := bd hM
        refine wpE_one (i := 1) rfl (by kernel_rfl) rfl (k_call hS ci49 rfl rfl (ref26_Valid_c _ _ hS.dlt e706 _ (hS.get 0 rfl) _ hu788) fun _ w hR a hk hA => ⟨stN (hk), ?_⟩)
        have he := Eq.symm hR
        subst he
        have hS := hA [] (fun r hr => by cases hr) List.Pairwise.nil
        refine dy 2 (v := .bool (!(u788))) rfl (by kernel_rfl) (by kernel_rfl) (by kernel_rfl) rfl hQ hS (y_not hS rfl) rfl rfl rfl fun a hS => ?_
        refine dy 3 (v := .bool (!(u788))) rfl (by kernel_rfl) (by kernel_rfl) (by kernel_rfl) rfl hQ hS (y_move hS rfl) rfl rfl rfl fun a hS => ?_
        rcases bool2 (!(u788)) with hb790 | hb790
        · replace hM := ct hb790 hM
          refine dyn 4 rfl (by kernel_rfl) (by kernel_rfl) (by kernel_rfl) hQ hS rfl rfl rfl hb790 rfl rfl fun a hS => ?_
          refine dyn 5 rfl (by kernel_rfl) (by kernel_rfl) (by kernel_rfl) hQ hS rfl rfl rfl hb790 rfl rfl fun a hS => ?_
          refine dyn 6 rfl (by kernel_rfl) (by kernel_rfl) (by kernel_rfl) hQ hS rfl rfl rfl hb790 rfl rfl fun a hS => ?_
          refine dynu 7 rfl (by kernel_rfl) (by kernel_rfl) (by kernel_rfl) hQ hS rfl rfl rfl rfl rfl fun a hS => ?_
          refine dynu 8 rfl (by kernel_rfl) (by kernel_rfl) (by kernel_rfl) hQ hS rfl rfl rfl rfl rfl fun a hS => ?_
          refine dynu 9 rfl (by kernel_rfl) (by kernel_rfl) (by kernel_rfl) hQ hS rfl rfl rfl rfl rfl fun a hS => ?_
          refine dynu 10 rfl (by kernel_rfl) (by kernel_rfl) (by kernel_rfl) hQ hS rfl rfl rfl rfl rfl fun a hS => ?_
          refine dynu 11 rfl (by kernel_rfl) (by kernel_rfl) (by kernel_rfl) hQ hS rfl rfl rfl rfl rfl fun a hS => ?_
          refine dynu 12 rfl (by kernel_rfl) (by kernel_rfl) (by kernel_rfl) hQ hS rfl rfl rfl rfl rfl fun a hS => ?_
          refine dynu 13 rfl (by kernel_rfl) (by kernel_rfl) (by kernel_rfl) hQ hS rfl rfl rfl rfl rfl fun a hS => ?_
          refine dynu 14 rfl (by kernel_rfl) (by kernel_rfl) (by kernel_rfl) hQ hS rfl rfl rfl rfl rfl fun a hS => ?_
          refine dynu 15 rfl (by kernel_rfl) (by kernel_rfl) (by kernel_rfl) hQ hS rfl rfl rfl rfl rfl fun a hS => ?_
          refine dynu 16 rfl (by kernel_rfl) (by kernel_rfl) (by kernel_rfl) hQ hS rfl rfl rfl rfl rfl fun a hS => ?_
          refine dyn 17 rfl (by kernel_rfl) (by kernel_rfl) (by kernel_rfl) hQ hS rfl rfl rfl hb790 rfl rfl fun a hS => ?_
          refine dy 18 (v := .bool true) rfl (by kernel_rfl) (by kernel_rfl) (by kernel_rfl) rfl hQ hS (y_pickt hS rfl hb790 rfl) rfl rfl rfl fun a hS => ?_
          refine wpE_done (by kernel_rfl) ?_ _
          try simp only [Exit.then, Exit.inBlock, ↓reduceIte, Nat.reduceEqDiff]
          exact ⟨true, (hS.meet [] (by decide) ⟨rfl, rfl, rfl, rfl, rfl, trivial⟩ trivial ⟨⟨2, rfl⟩, ⟨3, rfl⟩, trivial⟩), hM⟩
        · replace hM := cf hb790 hM
          refine dyg 4 (v := .int .i64 g606) rfl (by kernel_rfl) (by kernel_rfl) (by kernel_rfl) rfl hQ hS (y_move hS rfl) rfl rfl rfl hb790 rfl rfl fun a hS => ?_
          refine dyg 5 (v := .bool (decide ((0 : Int) < g606))) rfl (by kernel_rfl) (by kernel_rfl) (by kernel_rfl) rfl hQ hS (y_int hS rfl rfl rfl) rfl rfl rfl hb790 rfl rfl fun a hS => ?_
          refine dyg 6 (v := .bool (decide ((0 : Int) < g606))) rfl (by kernel_rfl) (by kernel_rfl) (by kernel_rfl) rfl hQ hS (y_move hS rfl) rfl rfl rfl hb790 rfl rfl fun a hS => ?_
          rcases bool2 (decide ((0 : Int) < g606)) with hb791 | hb791
          · replace hM := ct hb791 hM
            refine dyg 7 (v := v1) rfl (by kernel_rfl) (by kernel_rfl) (by kernel_rfl) rfl hQ hS (y_move hS rfl) rfl rfl rfl hb791 rfl rfl fun a hS => ?_
            refine dyg 8 (v := .int .i64 g606) rfl (by kernel_rfl) (by kernel_rfl) (by kernel_rfl) rfl hQ hS (y_move hS rfl) rfl rfl rfl hb791 rfl rfl fun a hS => ?_
            refine dyg 9 (v := .int .i64 (IntKind.i64.wrap (g606 - 1))) rfl (by kernel_rfl) (by kernel_rfl) (by kernel_rfl) rfl hQ hS (y_int hS rfl rfl rfl) rfl rfl rfl hb791 rfl rfl fun a hS => ?_
            obtain ⟨e792, he792, hM⟩ := bd hM
            obtain ⟨b794, o795, cs797, hr796, hy799, hS⟩ := d_index (R := R_RecordD) hS sl51 ty54 2 rfl he792
            obtain ⟨v793, rfl, hv793⟩ := hr796
            replace hS := hS.fact (SlF R_KeyD v793 e792.Reads) hv793
            refine dyg 10 (v := .pointer (some ⟨b794, o795, none⟩)) rfl (by kernel_rfl) (by kernel_rfl) (by kernel_rfl) rfl hQ hS (hy799 rfl rfl) rfl rfl rfl hb791 rfl rfl fun a hS => ?_
            refine dyg 11 (v := .pointer (some ⟨b794, o795 + 0, none⟩)) rfl (by kernel_rfl) (by kernel_rfl) (by kernel_rfl) rfl hQ hS (y_fld hS rfl fl54_0) rfl rfl rfl hb791 rfl rfl fun a hS => ?_
            refine dyg (l := []) 12 (v := .agg #[.int .i64 e792.Key.Kind, .string e792.Key.Text]) rfl (by kernel_rfl) (by kernel_rfl) (by kernel_rfl) (by kernel_rfl) hQ hS (y_loadc (k := 0) hS ty28 1 rfl rfl es_nil (us := [.int .i64 e792.Key.Kind, .string e792.Key.Text]) rfl rfl (fun h => by cases h)) rfl rfl rfl hb791 rfl rfl fun a hS => ?_
            refine dyg 13 (v := .pointer (some ⟨b713, 0 + 0, none⟩)) rfl (by kernel_rfl) (by kernel_rfl) (by kernel_rfl) rfl hQ hS (y_fld hS rfl fl54_0) rfl rfl rfl hb791 rfl rfl fun a hS => ?_
            refine dyg (l := []) 14 (v := .agg #[.int .i64 e706.Key.Kind, .string e706.Key.Text]) rfl (by kernel_rfl) (by kernel_rfl) (by kernel_rfl) (by kernel_rfl) hQ hS (y_load hS rfl ty28 0 rfl eo_nil (us := [.int .i64 e706.Key.Kind, .string e706.Key.Text]) rfl rfl (fun h => by cases h)) rfl rfl rfl hb791 rfl rfl fun a hS => ?_
            obtain ⟨u800, hu800, hM⟩ := bd hM
            refine wpE_oneg (i := 15) rfl (by kernel_rfl) hS rfl rfl rfl hb791 (k_call hS ci58 rfl rfl (ref23_Cmp_c _ _ hS.dlt (hS.get 5 rfl) e792.Key e706.Key _ hu800) fun _ w hR a hk hA => ⟨stN (hk), ?_⟩)
            have he := Eq.symm hR
            subst he
            have hS := hA [] (fun r hr => by cases hr) List.Pairwise.nil
            refine dyg 16 (v := .bool (decide ((0 : Int) ≤ u800))) rfl (by kernel_rfl) (by kernel_rfl) (by kernel_rfl) rfl hQ hS (y_int hS rfl rfl rfl) rfl rfl rfl hb791 rfl rfl fun a hS => ?_
            refine dyg 17 (v := .bool (decide ((0 : Int) ≤ u800))) rfl (by kernel_rfl) (by kernel_rfl) (by kernel_rfl) rfl hQ hS (y_pickt hS rfl hb791 rfl) rfl rfl rfl hb790 rfl rfl fun a hS => ?_
            refine dy 18 (v := .bool (decide ((0 : Int) ≤ u800))) rfl (by kernel_rfl) (by kernel_rfl) (by kernel_rfl) rfl hQ hS (y_pickf hS rfl hb790 rfl) rfl rfl rfl fun a hS => ?_
            refine wpE_done (by kernel_rfl) ?_ _
            try simp only [Exit.then, Exit.inBlock, ↓reduceIte, Nat.reduceEqDiff]
            exact ⟨(decide ((0 : Int) ≤ u800)), (hS.meet [] (by decide) ⟨rfl, rfl, rfl, rfl, rfl, trivial⟩ trivial ⟨⟨4, rfl⟩, ⟨5, rfl⟩, trivial⟩), hM⟩
          · replace hM := cf hb791 hM
            refine dyn 7 rfl (by kernel_rfl) (by kernel_rfl) (by kernel_rfl) hQ hS rfl rfl rfl hb791 rfl rfl fun a hS => ?_
            refine dyn 8 rfl (by kernel_rfl) (by kernel_rfl) (by kernel_rfl) hQ hS rfl rfl rfl hb791 rfl rfl fun a hS => ?_
            refine dyn 9 rfl (by kernel_rfl) (by kernel_rfl) (by kernel_rfl) hQ hS rfl rfl rfl hb791 rfl rfl fun a hS => ?_
            refine dyn 10 rfl (by kernel_rfl) (by kernel_rfl) (by kernel_rfl) hQ hS rfl rfl rfl hb791 rfl rfl fun a hS => ?_
            refine dyn 11 rfl (by kernel_rfl) (by kernel_rfl) (by kernel_rfl) hQ hS rfl rfl rfl hb791 rfl rfl fun a hS => ?_
            refine dyn 12 rfl (by kernel_rfl) (by kernel_rfl) (by kernel_rfl) hQ hS rfl rfl rfl hb791 rfl rfl fun a hS => ?_
            refine dyn 13 rfl (by kernel_rfl) (by kernel_rfl) (by kernel_rfl) hQ hS rfl rfl rfl hb791 rfl rfl fun a hS => ?_
            refine dyn 14 rfl (by kernel_rfl) (by kernel_rfl) (by kernel_rfl) hQ hS rfl rfl rfl hb791 rfl rfl fun a hS => ?_
            refine dyn 15 rfl (by kernel_rfl) (by kernel_rfl) (by kernel_rfl) hQ hS rfl rfl rfl hb791 rfl rfl fun a hS => ?_
            refine dyn 16 rfl (by kernel_rfl) (by kernel_rfl) (by kernel_rfl) hQ hS rfl rfl rfl hb791 rfl rfl fun a hS => ?_
            refine dyg 17 (v := .bool false) rfl (by kernel_rfl) (by kernel_rfl) (by kernel_rfl) rfl hQ hS (y_pickf hS rfl hb791 rfl) rfl rfl rfl hb790 rfl rfl fun a hS => ?_
            refine dy 18 (v := .bool false) rfl (by kernel_rfl) (by kernel_rfl) (by kernel_rfl) rfl hQ hS (y_pickf hS rfl hb790 rfl) rfl rfl rfl fun a hS => ?_
            refine wpE_done (by kernel_rfl) ?_ _
            try simp only [Exit.then, Exit.inBlock, ↓reduceIte, Nat.reduceEqDiff]
            exact ⟨false, (hS.meet [] (by decide) ⟨rfl, rfl, rfl, rfl, rfl, trivial⟩ trivial ⟨⟨2, rfl⟩, ⟨3, rfl⟩, trivial⟩), hM⟩
      · rintro a w ⟨g772, hS, hM⟩
        unfold ref26_ValidList_j2 at hM
        rcases bool2 (g772) with hb773 | hb773
        · replace hM := ct hb773 hM
          refine c_t hS rfl hb773 ?_
          refine wp_seq_k fun K48 hK48 => ?_
          refine r_list ?_
          refine wl rfl (ky (v := .bool false) hS (y_assign hS rfl) rfl rfl fun a hS => ?_)
          refine wpList_nil ?_
          try simp only [Exit.then, Exit.inBlock, ↓reduceIte, Nat.reduceEqDiff]
          refine hK48 _ _ ?_
          refine wp_ret ?_
          injection hM with hM
          subst hM
          have hr := hf1 _ rfl
          subst hr
          replace hMo1 := el_out hMo1
          have hM := hMo1
          injection hM with hM
          subst hM
          try simp only [Exit.then, Exit.inBlock, ↓reduceIte, Nat.reduceEqDiff]
          refine ret_ok hS Tryd.results51 (res_tmp hS rfl res_nil) ?_
          exact rfl
        · replace hM := cf hb773 hM
          refine c_f hS rfl hb773 ?_
          refine wp_skip ?_
          try simp only [Exit.then, Exit.inBlock, ↓reduceIte, Nat.reduceEqDiff]
          refine hK46 _ _ ?_
          refine r_list ?_
          refine wl rfl (ky (v := .int .i64 (IntKind.i64.wrap (g606 + 1))) hS (y_int hS rfl rfl rfl) rfl rfl fun a hS => ?_)
          refine wl rfl (ky (v := .int .i64 (IntKind.i64.wrap (g606 + 1))) hS (y_move hS rfl) rfl rfl fun a hS => ?_)
          refine wpList_nil ?_
          try simp only [Exit.then, Exit.inBlock, ↓reduceIte, Nat.reduceEqDiff]
          exact ⟨IntKind.i64.wrap (g606 + 1), (Option.some.inj hM).symm, (IntKind.i64.wrap (g606 + 1)), rfl, (hS.meet [] (by decide) ⟨rfl, rfl, rfl, rfl, trivial⟩ trivial ⟨⟨0, rfl⟩, ⟨1, rfl⟩, trivial⟩)⟩
    · replace hM := cf hb705 hM
      refine c_f hS rfl hb705 ?_
      refine wp_exit ?_
      try simp only [Exit.then, Exit.inBlock, ↓reduceIte, Nat.reduceEqDiff]
      injection hM with hM
      subst hM
      have hr := hf1 _ rfl
      subst hr
      replace hMo1 := el_go hMo1
      have hM : ref26_ValidList_j1 l_0 = some y := hMo1
      exact ⟨(hS.meet [] (by decide) ⟨rfl, trivial⟩ trivial ⟨⟨0, rfl⟩, ⟨1, rfl⟩, trivial⟩), hM⟩
  · rintro a w ⟨hS, hM⟩
    unfold ref26_ValidList_j1 at hM
    refine wp_seq_k fun K32 hK32 => ?_
    refine r_list ?_
    refine wl rfl (ky (v := v1) hS (y_move hS rfl) rfl rfl fun a hS => ?_)
    refine wl rfl (ky (v := .int .i64 (l_0.length : Int)) hS (y_len (R := R_RecordD) (xs := l_0) hS sl51 rfl 0 rfl) rfl rfl fun a hS => ?_)
    refine wl rfl (ky (v := .bool (decide (((l_0.length : Int) : Int) ≤ 4000))) hS (y_int hS rfl rfl rfl) rfl rfl fun a hS => ?_)
    refine wl rfl (ky (v := .bool (decide (((l_0.length : Int) : Int) ≤ 4000))) hS (y_assign hS rfl) rfl rfl fun a hS => ?_)
    refine wpList_nil ?_
    try simp only [Exit.then, Exit.inBlock, ↓reduceIte, Nat.reduceEqDiff]
    refine hK32 _ _ ?_
    refine wp_ret ?_
    injection hM with hM
    subst hM
    try simp only [Exit.then, Exit.inBlock, ↓reduceIte, Nat.reduceEqDiff]
    refine ret_ok hS Tryd.results51 (res_tmp hS rfl res_nil) ?_
    exact rfl

noncomputable def ref26_Find_j1 : Option (RecordD × Bool) := some (((RecordD.mk (KeyD.mk 0 (ByteArray.mk #[])) (ByteArray.mk #[]) ([]) 0 0 0 false), false))
noncomputable def ref26_Find_l2 (l_0 : (List RecordD)) (k_1 : KeyD) (g124 : Int) : Option (Fl (Int) (Fl (Unit) (RecordD × Bool))) := cond (decide ((g124 : Int) < (l_0.length : Int))) ((getI l_0 g124).bind fun e142 => cond ((e142.Key.Kind : Int) == k_1.Kind && e142.Key.Text.toList == k_1.Text.toList) ((ref26_CopyOne e142).bind fun u153 => some (.out (.out (u153, true)))) (some (.go (IntKind.i64.wrap (g124 + 1))))) (some (.out (.go ())))
noncomputable def ref26_Find (l_0 : (List RecordD)) (k_1 : KeyD) : Option (RecordD × Bool) := (loop (fun s : Int => ref26_Find_l2 l_0 k_1 s) 0).bind fun r => Fl.el r (fun s => ref26_Find_j1) (fun y => some (y))
set_option maxRecDepth 100000 in
set_option maxHeartbeats 4000000 in
theorem ref26_Find_c (T : Nat → Prop) (W0 : World) (hT : ∀ k, T k → k < W0.heap.size) (l_0 : (List RecordD)) (k_1 : KeyD) (v1 : Value) (hv1 : SlR R_RecordD T W0 v1 l_0) (y : RecordD × Bool) (hM : ref26_Find l_0 k_1 = some y) : Rets Tryd.prog No 52 [v1, .agg #[.int .i64 k_1.Kind, .string k_1.Text]] W0 (fun v w' => ∃ (v2 : Value) (cl3 : List Value), v = .tuple #[.agg #[.int .i64 y.1.Key.Kind, .string y.1.Key.Text, .string y.1.Value, v2, .int .i64 y.1.Changed, .int .i64 y.1.Verified, .int .i64 y.1.Cost, .bool y.1.Dirty], .bool y.2] ∧ OwnR R_KeyD T W0 w' [.own v2 28 R_KeyD.size cl3] 28 v2 cl3 y.1.Reads) := by
  refine enter (c := _) Tryd.func52 rfl T 22 Tryd.ntmps52 hT rfl fun a hS => ?_
  replace hS := hS.fact (SlF R_RecordD v1 l_0) (SlR.dn hv1)
  unfold ref26_Find at hM
  refine wp_seq_k fun K17 hK17 => ?_
  refine r_list ?_
  refine wl rfl (k_box hS rfl (cs := [.int .i64 k_1.Kind, .string k_1.Text]) rfl rfl fun b69 hnb71 a w hk hS => ?_)
  refine wl rfl (k_alloc hS ze54 rfl fun b72 hnb74 a w hk hS => ?_)
  refine wl rfl (ky (v := .bool false) hS (y_assign hS rfl) rfl rfl fun a hS => ?_)
  refine wpList_nil ?_
  try simp only [Exit.then, Exit.inBlock, ↓reduceIte, Nat.reduceEqDiff]
  refine hK17 _ _ ?_
  refine seq_j (J := fun a w => St W0 No T 22 [(4, .pointer (some ⟨b72, 0, none⟩))] [.box b72 [.int .i64 0, .string (ByteArray.mk #[]), .string (ByteArray.mk #[]), .slice none 0 0, .int .i64 0, .int .i64 0, .int .i64 0, .bool false] 54] [] a w ∧ ref26_Find_j1 = some y) ?_ ?_
  · skip
    refine wp_seq_k fun K32 hK32 => ?_
    refine r_list ?_
    refine wl rfl (ky (v := v1) hS (y_move hS rfl) rfl rfl fun a hS => ?_)
    refine wl rfl (ky (v := .int .i64 (l_0.length : Int)) hS (y_len (R := R_RecordD) (xs := l_0) hS sl51 rfl 0 rfl) rfl rfl fun a hS => ?_)
    refine wl rfl (ky (v := .int .i64 0) hS (y_move hS rfl) rfl rfl fun a hS => ?_)
    refine wpList_nil ?_
    try simp only [Exit.then, Exit.inBlock, ↓reduceIte, Nat.reduceEqDiff]
    refine hK32 _ _ ?_
    refine wp_block ?_
    obtain ⟨r1, hl1, hMo1⟩ := bd hM
    refine wp_lp (fun s : Int => ref26_Find_l2 l_0 k_1 s) (fun s a w => ∃ (g124 : Int), g124 = s ∧ St W0 No T 22 [(3, .pointer (some ⟨b69, 0, none⟩)), (4, .pointer (some ⟨b72, 0, none⟩)), (8, v1), (9, .int .i64 (l_0.length : Int)), (10, .int .i64 g124)] [.box b69 [.int .i64 k_1.Kind, .string k_1.Text] 28, .box b72 [.int .i64 0, .string (ByteArray.mk #[]), .string (ByteArray.mk #[]), .slice none 0 0, .int .i64 0, .int .i64 0, .int .i64 0, .bool false] 54] [SlF R_RecordD v1 l_0] a w) hl1 ⟨0, rfl, (hS.meet [1, 0] (by decide) ⟨rfl, rfl, rfl, rfl, rfl, trivial⟩ ⟨rfl, rfl, trivial⟩ ⟨⟨0, rfl⟩, trivial⟩)⟩ ?_
    rintro s a w f1 ⟨g124, rfl, hS⟩ hM hf1
    have hM : ref26_Find_l2 l_0 k_1 g124 = some f1 := hM
    unfold ref26_Find_l2 at hM
    refine wp_seq_k fun K45 hK45 => ?_
    refine r_list ?_
    refine wl rfl (ky (v := .bool (decide ((g124 : Int) < (l_0.length : Int)))) hS (y_int hS rfl rfl rfl) rfl rfl fun a hS => ?_)
    refine wpList_nil ?_
    try simp only [Exit.then, Exit.inBlock, ↓reduceIte, Nat.reduceEqDiff]
    refine hK45 _ _ ?_
    refine wp_seq_k fun K46 hK46 => ?_
    rcases bool2 (decide ((g124 : Int) < (l_0.length : Int))) with hb141 | hb141
    · replace hM := ct hb141 hM
      refine c_t hS rfl hb141 ?_
      refine wp_skip ?_
      try simp only [Exit.then, Exit.inBlock, ↓reduceIte, Nat.reduceEqDiff]
      refine hK46 _ _ ?_
      refine wp_seq_k fun K47 hK47 => ?_
      refine wp_block ?_
      refine wp_seq_k fun K48 hK48 => ?_
      refine r_list ?_
      obtain ⟨e142, he142, hM⟩ := bd hM
      refine wl rfl (k_index (R := R_RecordD) hS sl51 ty54 rfl rfl 0 rfl he142 rfl fun b144 o145 cs147 hr146 a hS => ?_)
      obtain ⟨v143, rfl, hv143⟩ := hr146
      replace hS := hS.fact (SlF R_KeyD v143 e142.Reads) hv143
      refine wl rfl (ky (v := .agg #[.int .i64 e142.Key.Kind, .string e142.Key.Text, .string e142.Value, v143, .int .i64 e142.Changed, .int .i64 e142.Verified, .int .i64 e142.Cost, .bool e142.Dirty]) hS (y_loadc (k := 0) hS ty54 1 rfl rfl (fun _ h => h.elim) (us := [.int .i64 e142.Key.Kind, .string e142.Key.Text, .string e142.Value, v143, .int .i64 e142.Changed, .int .i64 e142.Verified, .int .i64 e142.Cost, .bool e142.Dirty]) rfl rfl (fun h => by cases h)) rfl rfl fun a hS => ?_)
      refine wl rfl (k_alloc hS ze54 rfl fun b149 hnb151 a w hk hS => ?_)
      refine wl rfl (k_store hS rfl rfl (us := [.int .i64 e142.Key.Kind, .string e142.Key.Text, .string e142.Value, v143, .int .i64 e142.Changed, .int .i64 e142.Verified, .int .i64 e142.Cost, .bool e142.Dirty]) rfl ty54 0 rfl rfl rfl (oc rfl (oc rfl (oc rfl (oc (SlR.one ((hS.get 0 rfl) : SlR R_KeyD _ _ _ _)) (oc rfl (oc rfl (oc rfl (oc rfl on)))))))) fun w hk hS => ?_)
      refine wpList_nil ?_
      try simp only [Exit.then, Exit.inBlock, ↓reduceIte, Nat.reduceEqDiff]
      refine hK48 _ _ ?_
      refine wp_seq_k fun K49 hK49 => ?_
      refine r_list ?_
      refine wl rfl (ky (v := .pointer (some ⟨b149, 0 + 0, none⟩)) hS (y_fld hS rfl fl54_0) rfl rfl fun a hS => ?_)
      refine wl rfl (ky (v := .agg #[.int .i64 e142.Key.Kind, .string e142.Key.Text]) hS (y_load hS rfl ty28 0 rfl id (us := [.int .i64 e142.Key.Kind, .string e142.Key.Text]) rfl rfl (fun h => by cases h)) rfl rfl fun a hS => ?_)
      refine wl rfl (ky (v := .agg #[.int .i64 k_1.Kind, .string k_1.Text]) hS (y_load hS rfl ty28 1 rfl id (us := [.int .i64 k_1.Kind, .string k_1.Text]) rfl rfl (fun h => by cases h)) rfl rfl fun a hS => ?_)
      refine wl rfl (ky (v := .bool ((e142.Key.Kind : Int) == k_1.Kind && e142.Key.Text.toList == k_1.Text.toList)) hS (eq28 hS rfl rfl) rfl rfl fun a hS => ?_)
      refine wpList_nil ?_
      try simp only [Exit.then, Exit.inBlock, ↓reduceIte, Nat.reduceEqDiff]
      refine hK49 _ _ ?_
      rcases bool2 ((e142.Key.Kind : Int) == k_1.Kind && e142.Key.Text.toList == k_1.Text.toList) with hb152 | hb152
      · replace hM := ct hb152 hM
        refine c_t hS rfl hb152 ?_
        refine wp_seq_k fun K50 hK50 => ?_
        refine r_list ?_
        refine wl rfl (ky (v := .agg #[.int .i64 e142.Key.Kind, .string e142.Key.Text, .string e142.Value, v143, .int .i64 e142.Changed, .int .i64 e142.Verified, .int .i64 e142.Cost, .bool e142.Dirty]) hS (y_load hS rfl ty54 0 rfl id (us := [.int .i64 e142.Key.Kind, .string e142.Key.Text, .string e142.Value, v143, .int .i64 e142.Changed, .int .i64 e142.Verified, .int .i64 e142.Cost, .bool e142.Dirty]) rfl rfl (fun h => by cases h)) rfl rfl fun a hS => ?_)
        obtain ⟨u153, hu153, hM⟩ := bd hM
        refine wl rfl (k_call hS ci79 rfl rfl (ref26_CopyOne_c _ _ hS.dlt e142 _ (hS.get 0 rfl) _ hu153) fun _ w hR a hk hA => ?_)
        obtain ⟨vz154_2, clz154_3, he, ⟨hOvz154_2, hFvz154_2, hRvz154_2⟩⟩ := hR
        replace he := he.symm
        subst he
        have hS := hA [.own vz154_2 28 R_KeyD.size clz154_3] (adds1 ⟨hOvz154_2, by decide⟩ hFvz154_2) (pw1 _)
        replace hS := hS.fact (RowsF R_KeyD clz154_3 u153.Reads) (hRvz154_2.keep (Kt.refl _ _) (dT_dT _))
        refine wl rfl (k_store hS rfl rfl (us := [.int .i64 u153.Key.Kind, .string u153.Key.Text, .string u153.Value, vz154_2, .int .i64 u153.Changed, .int .i64 u153.Verified, .int .i64 u153.Cost, .bool u153.Dirty]) rfl ty54 3 rfl rfl rfl (oc rfl (oc rfl (oc rfl (oc (own_one (hS.own _ (List.mem_of_getElem? (i := 0) rfl)).1) (oc rfl (oc rfl (oc rfl (oc rfl on)))))))) fun w hk hS => ?_)
        refine wl rfl (ky (v := .bool true) hS (y_assign hS rfl) rfl rfl fun a hS => ?_)
        refine wpList_nil ?_
        try simp only [Exit.then, Exit.inBlock, ↓reduceIte, Nat.reduceEqDiff]
        refine hK50 _ _ ?_
        refine wp_ret ?_
        injection hM with hM
        subst hM
        have hr := hf1 _ rfl
        subst hr
        replace hMo1 := el_out hMo1
        have hM := hMo1
        injection hM with hM
        subst hM
        try simp only [Exit.then, Exit.inBlock, ↓reduceIte, Nat.reduceEqDiff]
        refine ret_ok hS Tryd.results52 (res_cell hS rfl 3 rfl ty54 rfl (fun h => by cases h) (res_tmp hS rfl res_nil)) ?_
        exact ⟨vz154_2, clz154_3, rfl, hS.retOwn ⟨.inr (List.mem_of_getElem? (i := 0) rfl), trivial⟩ 0 rfl 0 rfl⟩
      · replace hM := cf hb152 hM
        refine c_f hS rfl hb152 ?_
        refine wp_skip ?_
        try simp only [Exit.then, Exit.inBlock, ↓reduceIte, Nat.reduceEqDiff]
        refine hK47 _ _ ?_
        refine r_list ?_
        refine wl rfl (ky (v := .int .i64 (IntKind.i64.wrap (g124 + 1))) hS (y_int hS rfl rfl rfl) rfl rfl fun a hS => ?_)
        refine wl rfl (ky (v := .int .i64 (IntKind.i64.wrap (g124 + 1))) hS (y_move hS rfl) rfl rfl fun a hS => ?_)
        refine wpList_nil ?_
        try simp only [Exit.then, Exit.inBlock, ↓reduceIte, Nat.reduceEqDiff]
        exact ⟨IntKind.i64.wrap (g124 + 1), (Option.some.inj hM).symm, (IntKind.i64.wrap (g124 + 1)), rfl, (hS.meet [1, 2] (by decide) ⟨rfl, rfl, rfl, rfl, rfl, trivial⟩ ⟨rfl, rfl, trivial⟩ ⟨⟨2, rfl⟩, trivial⟩)⟩
    · replace hM := cf hb141 hM
      refine c_f hS rfl hb141 ?_
      refine wp_exit ?_
      try simp only [Exit.then, Exit.inBlock, ↓reduceIte, Nat.reduceEqDiff]
      injection hM with hM
      subst hM
      have hr := hf1 _ rfl
      subst hr
      replace hMo1 := el_go hMo1
      have hM : ref26_Find_j1 = some y := hMo1
      exact ⟨(hS.meet [1] (by decide) ⟨rfl, trivial⟩ ⟨rfl, trivial⟩ trivial), hM⟩
  · rintro a w ⟨hS, hM⟩
    unfold ref26_Find_j1 at hM
    refine wp_seq_k fun K31 hK31 => ?_
    refine r_list ?_
    refine wl rfl (ky (v := .agg #[.int .i64 0, .string (ByteArray.mk #[]), .string (ByteArray.mk #[]), .slice none 0 0, .int .i64 0, .int .i64 0, .int .i64 0, .bool false]) hS (y_build (ps := []) hS pl54 ze54 rfl (us := []) trivial (ws := [.int .i64 0, .string (ByteArray.mk #[]), .string (ByteArray.mk #[]), .slice none 0 0, .int .i64 0, .int .i64 0, .int .i64 0, .bool false]) rfl) rfl rfl fun a hS => ?_)
    refine wl rfl (k_store hS rfl rfl (us := [.int .i64 0, .string (ByteArray.mk #[]), .string (ByteArray.mk #[]), .slice none 0 0, .int .i64 0, .int .i64 0, .int .i64 0, .bool false]) rfl ty54 0 rfl rfl rfl (oc rfl (oc rfl (oc rfl (oc rfl (oc rfl (oc rfl (oc rfl (oc rfl on)))))))) fun w hk hS => ?_)
    refine wl rfl (ky (v := .bool false) hS (y_assign hS rfl) rfl rfl fun a hS => ?_)
    refine wpList_nil ?_
    try simp only [Exit.then, Exit.inBlock, ↓reduceIte, Nat.reduceEqDiff]
    refine hK31 _ _ ?_
    refine wp_ret ?_
    injection hM with hM
    subst hM
    try simp only [Exit.then, Exit.inBlock, ↓reduceIte, Nat.reduceEqDiff]
    refine ret_ok hS Tryd.results52 (res_cell hS rfl 0 rfl ty54 rfl (fun h => by cases h) (res_tmp hS rfl res_nil)) ?_
    exact ⟨.slice none 0 0, [], rfl, ret_nil _ _ _ _ _ _⟩

noncomputable def ref23_Has_j1 : Option Bool := some (false)
noncomputable def ref23_Has_l2 (l_0 : (List KeyD)) (k_1 : KeyD) (g58 : Int) (g59 : Int) (k60 : Int) : Option (Fl (Int × Int × Int) (Fl (Unit) Bool)) := cond (decide ((g59 : Int) < g58)) ((getI l_0 g59).bind fun e76 => cond ((e76.Kind : Int) == k60 && e76.Text.toList == k_1.Text.toList) (some (.out (.out true))) (some (.go (g58, IntKind.i64.wrap (g59 + 1), k60)))) (some (.out (.go ())))
noncomputable def ref23_Has (l_0 : (List KeyD)) (k_1 : KeyD) : Option Bool := (loop (fun s : Int × Int × Int => ref23_Has_l2 l_0 k_1 s.1 s.2.1 s.2.2) ((l_0.length : Int), 0, k_1.Kind)).bind fun r => Fl.el r (fun s => ref23_Has_j1) (fun y => some (y))
set_option maxRecDepth 100000 in
set_option maxHeartbeats 4000000 in
theorem ref23_Has_c (T : Nat → Prop) (W0 : World) (hT : ∀ k, T k → k < W0.heap.size) (l_0 : (List KeyD)) (k_1 : KeyD) (v1 : Value) (hv1 : SlR R_KeyD T W0 v1 l_0) (y : Bool) (hM : ref23_Has l_0 k_1 = some y) : Rets Tryd.prog No 87 [v1, .agg #[.int .i64 k_1.Kind, .string k_1.Text]] W0 (fun v w' => v = .bool y) := by
  refine enter (c := _) Tryd.func87 rfl T 17 Tryd.ntmps87 hT rfl fun a hS => ?_
  replace hS := hS.fact (SlF R_KeyD v1 l_0) (SlR.dn hv1)
  unfold ref23_Has at hM
  refine wp_seq_k fun K17 hK17 => ?_
  refine r_list ?_
  refine wl rfl (k_box hS rfl (cs := [.int .i64 k_1.Kind, .string k_1.Text]) rfl rfl fun b38 hnb40 a w hk hS => ?_)
  refine wl rfl (ky (v := .bool false) hS (y_assign hS rfl) rfl rfl fun a hS => ?_)
  refine wpList_nil ?_
  try simp only [Exit.then, Exit.inBlock, ↓reduceIte, Nat.reduceEqDiff]
  refine hK17 _ _ ?_
  refine seq_j (J := fun a w => St W0 No T 17 [] [] [] a w ∧ ref23_Has_j1 = some y) ?_ ?_
  · skip
    refine wp_seq_k fun K26 hK26 => ?_
    refine r_list ?_
    refine wl rfl (ky (v := v1) hS (y_move hS rfl) rfl rfl fun a hS => ?_)
    refine wl rfl (ky (v := .int .i64 (l_0.length : Int)) hS (y_len (R := R_KeyD) (xs := l_0) hS sl22 rfl 0 rfl) rfl rfl fun a hS => ?_)
    refine wl rfl (ky (v := .int .i64 0) hS (y_move hS rfl) rfl rfl fun a hS => ?_)
    refine wpList_nil ?_
    try simp only [Exit.then, Exit.inBlock, ↓reduceIte, Nat.reduceEqDiff]
    refine hK26 _ _ ?_
    refine wp_block ?_
    obtain ⟨r1, hl1, hMo1⟩ := bd hM
    refine wp_lp (fun s : Int × Int × Int => ref23_Has_l2 l_0 k_1 s.1 s.2.1 s.2.2) (fun s a w => ∃ (g58 : Int) (g59 : Int) (k60 : Int), (g58, g59, k60) = s ∧ St W0 No T 17 [(3, .pointer (some ⟨b38, 0, none⟩)), (7, v1), (8, .int .i64 g58), (9, .int .i64 g59)] [.box b38 [.int .i64 k60, .string k_1.Text] 28] [SlF R_KeyD v1 l_0] a w) hl1 ⟨(l_0.length : Int), 0, k_1.Kind, rfl, (hS.meet [0] (by decide) ⟨rfl, rfl, rfl, rfl, trivial⟩ ⟨rfl, trivial⟩ ⟨⟨0, rfl⟩, trivial⟩)⟩ ?_
    rintro s a w f1 ⟨g58, g59, k60, rfl, hS⟩ hM hf1
    have hM : ref23_Has_l2 l_0 k_1 g58 g59 k60 = some f1 := hM
    unfold ref23_Has_l2 at hM
    refine wp_seq_k fun K33 hK33 => ?_
    refine r_list ?_
    refine wl rfl (ky (v := .bool (decide ((g59 : Int) < g58))) hS (y_int hS rfl rfl rfl) rfl rfl fun a hS => ?_)
    refine wpList_nil ?_
    try simp only [Exit.then, Exit.inBlock, ↓reduceIte, Nat.reduceEqDiff]
    refine hK33 _ _ ?_
    refine wp_seq_k fun K34 hK34 => ?_
    rcases bool2 (decide ((g59 : Int) < g58)) with hb75 | hb75
    · replace hM := ct hb75 hM
      refine c_t hS rfl hb75 ?_
      refine wp_skip ?_
      try simp only [Exit.then, Exit.inBlock, ↓reduceIte, Nat.reduceEqDiff]
      refine hK34 _ _ ?_
      refine wp_seq_k fun K35 hK35 => ?_
      refine wp_block ?_
      refine wp_seq_k fun K36 hK36 => ?_
      refine r_list ?_
      obtain ⟨e76, he76, hM⟩ := bd hM
      refine wl rfl (k_index (R := R_KeyD) hS sl22 ty28 rfl rfl 0 rfl he76 rfl fun b77 o78 cs80 hr79 a hS => ?_)
      obtain rfl := hr79
      refine wl rfl (ky (v := .agg #[.int .i64 e76.Kind, .string e76.Text]) hS (y_loadc (k := 0) hS ty28 0 rfl rfl (fun _ h => h.elim) (us := [.int .i64 e76.Kind, .string e76.Text]) rfl rfl (fun h => by cases h)) rfl rfl fun a hS => ?_)
      refine wl rfl (k_alloc hS ze28 rfl fun b82 hnb84 a w hk hS => ?_)
      refine wl rfl (k_store hS rfl rfl (us := [.int .i64 e76.Kind, .string e76.Text]) rfl ty28 0 rfl rfl rfl (oc rfl (oc rfl on)) fun w hk hS => ?_)
      refine wpList_nil ?_
      try simp only [Exit.then, Exit.inBlock, ↓reduceIte, Nat.reduceEqDiff]
      refine hK36 _ _ ?_
      refine wp_seq_k fun K37 hK37 => ?_
      refine r_list ?_
      refine wl rfl (ky (v := .agg #[.int .i64 e76.Kind, .string e76.Text]) hS (y_load hS rfl ty28 0 rfl id (us := [.int .i64 e76.Kind, .string e76.Text]) rfl rfl (fun h => by cases h)) rfl rfl fun a hS => ?_)
      refine wl rfl (ky (v := .agg #[.int .i64 k60, .string k_1.Text]) hS (y_load hS rfl ty28 1 rfl id (us := [.int .i64 k60, .string k_1.Text]) rfl rfl (fun h => by cases h)) rfl rfl fun a hS => ?_)
      refine wl rfl (ky (v := .bool ((e76.Kind : Int) == k60 && e76.Text.toList == k_1.Text.toList)) hS (eq28 hS rfl rfl) rfl rfl fun a hS => ?_)
      refine wpList_nil ?_
      try simp only [Exit.then, Exit.inBlock, ↓reduceIte, Nat.reduceEqDiff]
      refine hK37 _ _ ?_
      rcases bool2 ((e76.Kind : Int) == k60 && e76.Text.toList == k_1.Text.toList) with hb85 | hb85
      · replace hM := ct hb85 hM
        refine c_t hS rfl hb85 ?_
        refine wp_seq_k fun K38 hK38 => ?_
        refine r_list ?_
        refine wl rfl (ky (v := .bool true) hS (y_assign hS rfl) rfl rfl fun a hS => ?_)
        refine wpList_nil ?_
        try simp only [Exit.then, Exit.inBlock, ↓reduceIte, Nat.reduceEqDiff]
        refine hK38 _ _ ?_
        refine wp_ret ?_
        injection hM with hM
        subst hM
        have hr := hf1 _ rfl
        subst hr
        replace hMo1 := el_out hMo1
        have hM := hMo1
        injection hM with hM
        subst hM
        try simp only [Exit.then, Exit.inBlock, ↓reduceIte, Nat.reduceEqDiff]
        refine ret_ok hS Tryd.results87 (res_tmp hS rfl res_nil) ?_
        exact rfl
      · replace hM := cf hb85 hM
        refine c_f hS rfl hb85 ?_
        refine wp_skip ?_
        try simp only [Exit.then, Exit.inBlock, ↓reduceIte, Nat.reduceEqDiff]
        refine hK35 _ _ ?_
        refine r_list ?_
        refine wl rfl (ky (v := .int .i64 (IntKind.i64.wrap (g59 + 1))) hS (y_int hS rfl rfl rfl) rfl rfl fun a hS => ?_)
        refine wl rfl (ky (v := .int .i64 (IntKind.i64.wrap (g59 + 1))) hS (y_move hS rfl) rfl rfl fun a hS => ?_)
        refine wpList_nil ?_
        try simp only [Exit.then, Exit.inBlock, ↓reduceIte, Nat.reduceEqDiff]
        exact ⟨(g58, IntKind.i64.wrap (g59 + 1), k60), (Option.some.inj hM).symm, g58, (IntKind.i64.wrap (g59 + 1)), k60, rfl, (hS.meet [1] (by decide) ⟨rfl, rfl, rfl, rfl, trivial⟩ ⟨rfl, trivial⟩ ⟨⟨1, rfl⟩, trivial⟩)⟩
    · replace hM := cf hb75 hM
      refine c_f hS rfl hb75 ?_
      refine wp_exit ?_
      try simp only [Exit.then, Exit.inBlock, ↓reduceIte, Nat.reduceEqDiff]
      injection hM with hM
      subst hM
      have hr := hf1 _ rfl
      subst hr
      replace hMo1 := el_go hMo1
      have hM : ref23_Has_j1 = some y := hMo1
      exact ⟨(hS.meet [] (by decide) trivial trivial trivial), hM⟩
  · rintro a w ⟨hS, hM⟩
    unfold ref23_Has_j1 at hM
    refine wp_seq_k fun K25 hK25 => ?_
    refine r_list ?_
    refine wl rfl (ky (v := .bool false) hS (y_assign hS rfl) rfl rfl fun a hS => ?_)
    refine wpList_nil ?_
    try simp only [Exit.then, Exit.inBlock, ↓reduceIte, Nat.reduceEqDiff]
    refine hK25 _ _ ?_
    refine wp_ret ?_
    injection hM with hM
    subst hM
    try simp only [Exit.then, Exit.inBlock, ↓reduceIte, Nat.reduceEqDiff]
    refine ret_ok hS Tryd.results87 (res_tmp hS rfl res_nil) ?_
    exact rfl

noncomputable def ref26_Readers_j1 (out335 : (List KeyD)) : Option (List KeyD) := some (out335)
noncomputable def ref26_Readers_j2 (g394 : Int) (out464 : (List KeyD)) : Option (Fl ((List KeyD) × Int) ((List KeyD))) := some (.go (out464, IntKind.i64.wrap (g394 + 1)))
noncomputable def ref26_Readers_l3 (l_0 : (List RecordD)) (k_1 : KeyD) (out390 : (List KeyD)) (g394 : Int) : Option (Fl ((List KeyD) × Int) ((List KeyD))) := cond (decide ((g394 : Int) < (l_0.length : Int))) ((getI l_0 g394).bind fun e468 => (ref23_Has e468.Reads k_1).bind fun u478 => cond u478 (gd (roomB (out390.length + ([e468.Key]).length)) <| ref26_Readers_j2 g394 (out390 ++ ([e468.Key]))) (ref26_Readers_j2 g394 out390)) (some (.out out390))
noncomputable def ref26_Readers (l_0 : (List RecordD)) (k_1 : KeyD) : Option (List KeyD) := (loop (fun s : (List KeyD) × Int => ref26_Readers_l3 l_0 k_1 s.1 s.2) (([] : List KeyD), 0)).bind fun r => ref26_Readers_j1 r
set_option maxRecDepth 100000 in
set_option maxHeartbeats 4000000 in
theorem ref26_Readers_c (T : Nat → Prop) (W0 : World) (hT : ∀ k, T k → k < W0.heap.size) (l_0 : (List RecordD)) (k_1 : KeyD) (v1 : Value) (hv1 : SlR R_RecordD T W0 v1 l_0) (y : (List KeyD)) (hM : ref26_Readers l_0 k_1 = some y) : Rets Tryd.prog No 54 [v1, .agg #[.int .i64 k_1.Kind, .string k_1.Text]] W0 (fun v w' => ∃ (v2 : Value) (cl3 : List Value), v = v2 ∧ OwnR R_KeyD T W0 w' [.own v2 28 R_KeyD.size cl3] 28 v2 cl3 y) := by
  refine enter (c := _) Tryd.func54 rfl T 25 Tryd.ntmps54 hT rfl fun a hS => ?_
  replace hS := hS.fact (SlF R_RecordD v1 l_0) (SlR.dn hv1)
  unfold ref26_Readers at hM
  refine wp_seq_k fun K30 hK30 => ?_
  refine r_list ?_
  refine wl rfl (k_box hS rfl (cs := [.int .i64 k_1.Kind, .string k_1.Text]) rfl rfl fun b228 hnb230 a w hk hS => ?_)
  refine wl rfl (ky (v := .slice none 0 0) hS (y_assign hS rfl) rfl rfl fun a hS => ?_)
  refine wpList_nil ?_
  try simp only [Exit.then, Exit.inBlock, ↓reduceIte, Nat.reduceEqDiff]
  refine hK30 _ _ ?_
  refine wp_seq_k fun K31 hK31 => ?_
  refine r_list ?_
  refine wl rfl (ky (v := .slice none 0 0) hS (y_assign hS rfl) rfl rfl fun a hS => ?_)
  refine wpList_nil ?_
  try simp only [Exit.then, Exit.inBlock, ↓reduceIte, Nat.reduceEqDiff]
  refine hK31 _ _ ?_
  refine seq_j (J := fun a w => ∃ (out335 : (List KeyD)) (v336 : Value) (cl337 : (List Value)), St W0 No T 25 [(5, v336)] [.own v336 28 R_KeyD.size cl337] [RowsF R_KeyD cl337 out335] a w ∧ ref26_Readers_j1 out335 = some y) ?_ ?_
  · skip
    refine wp_seq_k fun K46 hK46 => ?_
    refine r_list ?_
    refine wl rfl (ky (v := v1) hS (y_move hS rfl) rfl rfl fun a hS => ?_)
    refine wl rfl (ky (v := .int .i64 (l_0.length : Int)) hS (y_len (R := R_RecordD) (xs := l_0) hS sl51 rfl 0 rfl) rfl rfl fun a hS => ?_)
    refine wl rfl (ky (v := .int .i64 0) hS (y_move hS rfl) rfl rfl fun a hS => ?_)
    refine wpList_nil ?_
    try simp only [Exit.then, Exit.inBlock, ↓reduceIte, Nat.reduceEqDiff]
    refine hK46 _ _ ?_
    refine wp_block ?_
    replace hS := hS.nilRow R_KeyD 28 (by decide)
    obtain ⟨r1, hl1, hMo1⟩ := bd hM
    refine wp_lp (fun s : (List KeyD) × Int => ref26_Readers_l3 l_0 k_1 s.1 s.2) (fun s a w => ∃ (out390 : (List KeyD)) (g394 : Int) (v391 : Value) (cl392 : (List Value)), (out390, g394) = s ∧ St W0 No T 25 [(3, .pointer (some ⟨b228, 0, none⟩)), (5, v391), (8, v1), (9, .int .i64 (l_0.length : Int)), (10, .int .i64 g394)] [.own v391 28 R_KeyD.size cl392, .box b228 [.int .i64 k_1.Kind, .string k_1.Text] 28] [RowsF R_KeyD cl392 out390, SlF R_RecordD v1 l_0] a w) hl1 ⟨([] : List KeyD), 0, (.slice none 0 0), ([]), rfl, (hS.meet [0, 1] (by decide) ⟨rfl, rfl, rfl, rfl, rfl, trivial⟩ ⟨rfl, rfl, trivial⟩ ⟨⟨0, rfl⟩, ⟨1, rfl⟩, trivial⟩)⟩ ?_
    rintro s a w f1 ⟨out390, g394, v391, cl392, rfl, hS⟩ hM hf1
    have hM : ref26_Readers_l3 l_0 k_1 out390 g394 = some f1 := hM
    unfold ref26_Readers_l3 at hM
    refine wp_seq_k fun K59 hK59 => ?_
    refine r_list ?_
    refine wl rfl (ky (v := .bool (decide ((g394 : Int) < (l_0.length : Int)))) hS (y_int hS rfl rfl rfl) rfl rfl fun a hS => ?_)
    refine wpList_nil ?_
    try simp only [Exit.then, Exit.inBlock, ↓reduceIte, Nat.reduceEqDiff]
    refine hK59 _ _ ?_
    refine wp_seq_k fun K60 hK60 => ?_
    rcases bool2 (decide ((g394 : Int) < (l_0.length : Int))) with hb444 | hb444
    · replace hM := ct hb444 hM
      refine c_t hS rfl hb444 ?_
      refine wp_skip ?_
      try simp only [Exit.then, Exit.inBlock, ↓reduceIte, Nat.reduceEqDiff]
      refine hK60 _ _ ?_
      refine seq_j (J := fun a w => ∃ (out464 : (List KeyD)) (v465 : Value) (cl466 : (List Value)), St W0 No T 25 [(3, .pointer (some ⟨b228, 0, none⟩)), (5, v465), (8, v1), (9, .int .i64 (l_0.length : Int)), (10, .int .i64 g394)] [.own v465 28 R_KeyD.size cl466, .box b228 [.int .i64 k_1.Kind, .string k_1.Text] 28] [RowsF R_KeyD cl466 out464, SlF R_RecordD v1 l_0] a w ∧ ref26_Readers_j2 g394 out464 = some f1) ?_ ?_
      · skip
        refine wp_block ?_
        refine wp_seq_k fun K63 hK63 => ?_
        refine r_list ?_
        obtain ⟨e468, he468, hM⟩ := bd hM
        refine wl rfl (k_index (R := R_RecordD) hS sl51 ty54 rfl rfl 1 rfl he468 rfl fun b470 o471 cs473 hr472 a hS => ?_)
        obtain ⟨v469, rfl, hv469⟩ := hr472
        replace hS := hS.fact (SlF R_KeyD v469 e468.Reads) hv469
        refine wl rfl (ky (v := .agg #[.int .i64 e468.Key.Kind, .string e468.Key.Text, .string e468.Value, v469, .int .i64 e468.Changed, .int .i64 e468.Verified, .int .i64 e468.Cost, .bool e468.Dirty]) hS (y_loadc (k := 0) hS ty54 1 rfl rfl (fun _ h => h.elim) (us := [.int .i64 e468.Key.Kind, .string e468.Key.Text, .string e468.Value, v469, .int .i64 e468.Changed, .int .i64 e468.Verified, .int .i64 e468.Cost, .bool e468.Dirty]) rfl rfl (fun h => by cases h)) rfl rfl fun a hS => ?_)
        refine wl rfl (k_alloc hS ze54 rfl fun b475 hnb477 a w hk hS => ?_)
        refine wl rfl (k_store hS rfl rfl (us := [.int .i64 e468.Key.Kind, .string e468.Key.Text, .string e468.Value, v469, .int .i64 e468.Changed, .int .i64 e468.Verified, .int .i64 e468.Cost, .bool e468.Dirty]) rfl ty54 0 rfl rfl rfl (oc rfl (oc rfl (oc rfl (oc (SlR.one ((hS.get 0 rfl) : SlR R_KeyD _ _ _ _)) (oc rfl (oc rfl (oc rfl (oc rfl on)))))))) fun w hk hS => ?_)
        refine wpList_nil ?_
        try simp only [Exit.then, Exit.inBlock, ↓reduceIte, Nat.reduceEqDiff]
        refine hK63 _ _ ?_
        refine wp_seq_k fun K64 hK64 => ?_
        refine r_list ?_
        refine wl rfl (ky (v := .pointer (some ⟨b475, 0 + 3, none⟩)) hS (y_fld hS rfl fl54_2) rfl rfl fun a hS => ?_)
        refine wl rfl (ky (v := v469) hS (y_load hS rfl ty22 0 rfl id (us := [v469]) rfl rfl (fun _ => rfl)) rfl rfl fun a hS => ?_)
        refine wl rfl (ky (v := .agg #[.int .i64 k_1.Kind, .string k_1.Text]) hS (y_load hS rfl ty28 2 rfl id (us := [.int .i64 k_1.Kind, .string k_1.Text]) rfl rfl (fun h => by cases h)) rfl rfl fun a hS => ?_)
        obtain ⟨u478, hu478, hM⟩ := bd hM
        refine wl rfl (k_call hS ci87 rfl rfl (ref23_Has_c _ _ hS.dlt e468.Reads k_1 _ (hS.get 0 rfl) _ hu478) fun _ w hR a hk hA => ?_)
        have he := Eq.symm hR
        subst he
        have hS := hA [] (fun r hr => by cases hr) List.Pairwise.nil
        refine wpList_nil ?_
        try simp only [Exit.then, Exit.inBlock, ↓reduceIte, Nat.reduceEqDiff]
        refine hK64 _ _ ?_
        rcases bool2 (u478) with hb480 | hb480
        · replace hM := ct hb480 hM
          refine c_t hS rfl hb480 ?_
          refine r_list ?_
          refine wl rfl (ky (v := v391) hS (y_move hS rfl) rfl rfl fun a hS => ?_)
          refine wl rfl (ky (v := .pointer (some ⟨b475, 0 + 0, none⟩)) hS (y_fld hS rfl fl54_0) rfl rfl fun a hS => ?_)
          refine wl rfl (ky (v := .agg #[.int .i64 e468.Key.Kind, .string e468.Key.Text]) hS (y_load hS rfl ty28 0 rfl id (us := [.int .i64 e468.Key.Kind, .string e468.Key.Text]) rfl rfl (fun h => by cases h)) rfl rfl fun a hS => ?_)
          refine wl rfl (k_bslice (ps := [(0, .tmp 20)]) hS el22 ze28 (zl := [.int .i64 0, .string (ByteArray.mk #[])]) (by kernel_rfl) rfl (us := [[.int .i64 e468.Key.Kind, .string e468.Key.Text]]) ⟨rfl, trivial⟩ (ws := [.int .i64 e468.Key.Kind, .string e468.Key.Text]) rfl rfl rfl rfl fun b481 a w hk hS => ?_)
          replace hS := hS.lit (R := R_KeyD) (us := [.int .i64 e468.Key.Kind, .string e468.Key.Text]) (xs := [e468.Key]) 0 rfl (by decide) (RowsOk.one_ (R := R_KeyD) (x := e468.Key) rfl) rfl rfl
          replace hS := hS.freeze (R := R_KeyD) 0 rfl 0 rfl
          obtain ⟨hg483, hM⟩ := gd_some hM
          refine wl rfl (k_apps (R := R_KeyD) (xs := out390) (ys := [e468.Key]) hS el22 (by decide) (by decide) rfl rfl 1 rfl 4 rfl 0 rfl hg483 rfl fun v484 cl485 a w hk hS => ?_)
          refine wl rfl (ky (v := v484) hS (y_assign hS rfl) rfl rfl fun a hS => ?_)
          refine wpList_nil ?_
          try simp only [Exit.then, Exit.inBlock, ↓reduceIte, Nat.reduceEqDiff]
          exact ⟨(out390 ++ ([e468.Key])), v484, cl485, (hS.meet [1, 2] (by decide) ⟨rfl, rfl, rfl, rfl, rfl, trivial⟩ ⟨rfl, rfl, trivial⟩ ⟨⟨0, rfl⟩, ⟨6, rfl⟩, trivial⟩), hM⟩
        · replace hM := cf hb480 hM
          refine c_f hS rfl hb480 ?_
          refine wp_skip ?_
          try simp only [Exit.then, Exit.inBlock, ↓reduceIte, Nat.reduceEqDiff]
          exact ⟨out390, v391, cl392, (hS.meet [1, 2] (by decide) ⟨rfl, rfl, rfl, rfl, rfl, trivial⟩ ⟨rfl, rfl, trivial⟩ ⟨⟨2, rfl⟩, ⟨3, rfl⟩, trivial⟩), hM⟩
      · rintro a w ⟨out464, v465, cl466, hS, hM⟩
        unfold ref26_Readers_j2 at hM
        refine r_list ?_
        refine wl rfl (ky (v := .int .i64 (IntKind.i64.wrap (g394 + 1))) hS (y_int hS rfl rfl rfl) rfl rfl fun a hS => ?_)
        refine wl rfl (ky (v := .int .i64 (IntKind.i64.wrap (g394 + 1))) hS (y_move hS rfl) rfl rfl fun a hS => ?_)
        refine wpList_nil ?_
        try simp only [Exit.then, Exit.inBlock, ↓reduceIte, Nat.reduceEqDiff]
        exact ⟨(out464, IntKind.i64.wrap (g394 + 1)), (Option.some.inj hM).symm, out464, (IntKind.i64.wrap (g394 + 1)), v465, cl466, rfl, (hS.meet [0, 1] (by decide) ⟨rfl, rfl, rfl, rfl, rfl, trivial⟩ ⟨rfl, rfl, trivial⟩ ⟨⟨0, rfl⟩, ⟨1, rfl⟩, trivial⟩)⟩
    · replace hM := cf hb444 hM
      refine c_f hS rfl hb444 ?_
      refine wp_exit ?_
      try simp only [Exit.then, Exit.inBlock, ↓reduceIte, Nat.reduceEqDiff]
      injection hM with hM
      subst hM
      have hr := hf1 _ rfl
      subst hr
      have hM : ref26_Readers_j1 out390 = some y := hMo1
      exact ⟨out390, v391, cl392, (hS.meet [0] (by decide) ⟨rfl, trivial⟩ ⟨rfl, trivial⟩ ⟨⟨0, rfl⟩, trivial⟩), hM⟩
  · rintro a w ⟨out335, v336, cl337, hS, hM⟩
    unfold ref26_Readers_j1 at hM
    refine wp_seq_k fun K45 hK45 => ?_
    refine r_list ?_
    refine wl rfl (ky (v := v336) hS (y_move hS rfl) rfl rfl fun a hS => ?_)
    refine wl rfl (ky (v := v336) hS (y_assign hS rfl) rfl rfl fun a hS => ?_)
    refine wpList_nil ?_
    try simp only [Exit.then, Exit.inBlock, ↓reduceIte, Nat.reduceEqDiff]
    refine hK45 _ _ ?_
    refine wp_ret ?_
    injection hM with hM
    subst hM
    try simp only [Exit.then, Exit.inBlock, ↓reduceIte, Nat.reduceEqDiff]
    refine ret_ok hS Tryd.results54 (res_tmp hS rfl res_nil) ?_
    exact ⟨v336, cl337, rfl, hS.retOwn ⟨.inr (List.mem_of_getElem? (i := 0) rfl), trivial⟩ 0 rfl 0 rfl⟩

noncomputable def law26_RecordValid_j1 : Option Bool := (law26_awake).bind fun u3265 => some (u3265)
noncomputable def law26_RecordValid_j2 (g3685 : (List (List RecordD))) (g3689 : Int) : Option (Fl ((List (List RecordD)) × Int) (Fl (Unit) Bool)) := some (.go (g3685, IntKind.i64.wrap (g3689 + 1)))
noncomputable def law26_RecordValid_l3 (k_4 : KeyD) (r2272 : Int) (r2273 : ByteArray) (e4306 : (List RecordD)) (u4340 : KeyD) (g4426 : (List KeyD)) (g4430 : Int) : Option (Fl ((List KeyD) × Int) (Fl (Unit) Bool)) := cond (decide ((g4430 : Int) < (([k_4, u4340, (KeyD.mk r2272 r2273)]).length : Int))) ((getI g4426 g4430).bind fun e4510 => (record_Find e4306 e4510).bind fun u4521 => (ref26_Find e4306 e4510).bind fun u4527 => (ref26_SameOne (RecordD.mk (KeyD.mk u4521.1.Key.Kind u4521.1.Key.Text) u4521.1.Value u4521.1.Reads u4521.1.Changed u4521.1.Verified u4521.1.Cost u4521.1.Dirty) (RecordD.mk (KeyD.mk u4527.1.Key.Kind u4527.1.Key.Text) u4527.1.Value u4527.1.Reads u4527.1.Changed u4527.1.Verified u4527.1.Cost u4527.1.Dirty)).bind fun u4569 => cond (!(u4569)) (some (.out (.out false))) (cond (u4521.2 != u4527.2) (some (.out (.out false))) ((record_Readers e4306 e4510).bind fun u4573 => (ref26_Readers e4306 e4510).bind fun u4576 => (ref23_SameList u4573 u4576).bind fun u4579 => cond (!(u4579)) (some (.out (.out false))) (some (.go (g4426, IntKind.i64.wrap (g4430 + 1))))))) (some (.out (.go ())))
noncomputable def law26_RecordValid_l4 (raw_ : (List RecordD)) (by_3 : Int) (k_4 : KeyD) (u2218 : ((List RecordD) × DiceD)) (r2272 : Int) (r2273 : ByteArray) (m2324 : (List RecordD)) (g3685 : (List (List RecordD))) (g3689 : Int) : Option (Fl ((List (List RecordD)) × Int) (Fl (Unit) Bool)) := cond (decide ((g3689 : Int) < (([u2218.1, m2324, raw_]).length : Int))) ((getI g3685 g3689).bind fun e4306 => (record_ValidList e4306).bind fun u4315 => (ref26_ValidList e4306).bind fun u4317 => cond (u4315 != u4317) (some (.out (.out false))) ((mill_Mod by_3 4).bind fun u4338 => (ref23_Cell u4338).bind fun u4340 => (loop (fun s : (List KeyD) × Int => law26_RecordValid_l3 k_4 r2272 r2273 e4306 u4340 s.1 s.2) ([k_4, u4340, (KeyD.mk r2272 r2273)], 0)).bind fun r => Fl.el r (fun s => law26_RecordValid_j2 g3685 g3689) (fun y => some (.out (.out y))))) (some (.out (.go ())))
noncomputable def law26_RecordValid_j5 (raw_ : (List RecordD)) (by_3 : Int) (k_4 : KeyD) (u2218 : ((List RecordD) × DiceD)) (r2272 : Int) (r2273 : ByteArray) (m2324 : (List RecordD)) : Option Bool := (loop (fun s : (List (List RecordD)) × Int => law26_RecordValid_l4 raw_ by_3 k_4 u2218 r2272 r2273 m2324 s.1 s.2) ([u2218.1, m2324, raw_], 0)).bind fun r => Fl.el r (fun s => law26_RecordValid_j1) (fun y => some (y))
noncomputable def law26_RecordValid_l6 (raw_ : (List RecordD)) (m2324 : (List RecordD)) (g4634 : Int) : Option (Fl (Int) (Fl (Unit) Bool)) := cond (decide ((g4634 : Int) < ((m2324 ++ raw_).length : Int))) ((getI (m2324 ++ raw_) g4634).bind fun e4685 => (record_Valid e4685).bind fun u4722 => (ref26_Valid e4685).bind fun u4724 => cond (u4722 != u4724) (some (.out (.out false))) ((record_Size e4685).bind fun u4727 => (ref26_Size e4685).bind fun u4729 => cond ((u4727 : Int) != u4729) (some (.out (.out false))) (some (.go (IntKind.i64.wrap (g4634 + 1)))))) (some (.out (.go ())))
noncomputable def law26_RecordValid_j7 (raw_ : (List RecordD)) (by_3 : Int) (k_4 : KeyD) (u2218 : ((List RecordD) × DiceD)) (r2272 : Int) (r2273 : ByteArray) (m2324 : (List RecordD)) : Option Bool := gd (roomB (m2324.length + raw_.length)) <| (loop (fun s : Int => law26_RecordValid_l6 raw_ m2324 s) 0).bind fun r => Fl.el r (fun s => law26_RecordValid_j5 raw_ by_3 k_4 u2218 r2272 r2273 m2324) (fun y => some (y))
noncomputable def law26_RecordValid_j8 (raw_ : (List RecordD)) (by_3 : Int) (k_4 : KeyD) (u2218 : ((List RecordD) × DiceD)) (u2221 : (RecordD × DiceD)) (r2272 : Int) (r2273 : ByteArray) (r2274 : (List KeyD)) (r2278 : Int) (r2279 : Int) (r2280 : Int) (r2281 : Bool) : Option Bool := gd (roomB (([] : List RecordD).length + u2218.1.length)) <| gd (roomB ((([] : List RecordD) ++ u2218.1).length + ([(RecordD.mk (KeyD.mk r2272 r2273) u2221.1.Value r2274 r2278 r2279 r2280 r2281)]).length)) <| law26_RecordValid_j7 raw_ by_3 k_4 u2218 r2272 r2273 ((([] : List RecordD) ++ u2218.1) ++ ([(RecordD.mk (KeyD.mk r2272 r2273) u2221.1.Value r2274 r2278 r2279 r2280 r2281)]))
noncomputable def law26_RecordValid_j9 (raw_ : (List RecordD)) (t_1 : (List Int)) (what_ : Int) (by_3 : Int) (k_4 : KeyD) : Option Bool := (mill_Roll t_1).bind fun u2215 => (law26_some u2215).bind fun u2218 => (law26_one (DiceD.mk u2218.2.L u2218.2.At)).bind fun u2221 => (mill_Mod what_ 9).bind fun u4753 => cond ((u4753 : Int) == 0) ((mill_Mod by_3 36).bind fun u4756 => law26_RecordValid_j8 raw_ by_3 k_4 u2218 u2221 u4756 (ByteArray.mk #[49]) u2221.1.Reads u2221.1.Changed u2221.1.Verified u2221.1.Cost u2221.1.Dirty) (cond ((u4753 : Int) == 1) ((mill_Mod by_3 3).bind fun u4761 => law26_RecordValid_j8 raw_ by_3 k_4 u2218 u2221 u2221.1.Key.Kind u2221.1.Key.Text u2221.1.Reads (IntKind.i64.wrap ((IntKind.i64.wrap (u2221.1.Verified + u4761)) - 1)) u2221.1.Verified u2221.1.Cost u2221.1.Dirty) (cond ((u4753 : Int) == 2) ((mill_Mod by_3 2).bind fun u4764 => law26_RecordValid_j8 raw_ by_3 k_4 u2218 u2221 u2221.1.Key.Kind u2221.1.Key.Text u2221.1.Reads u2221.1.Changed (IntKind.i64.wrap (1073741824 + u4764)) u2221.1.Cost u2221.1.Dirty) (cond ((u4753 : Int) == 3) ((mill_Mod by_3 4).bind fun u4769 => (getI ([0, 1, 1073741824, 1073741825]) u4769).bind fun e4771 => law26_RecordValid_j8 raw_ by_3 k_4 u2218 u2221 u2221.1.Key.Kind u2221.1.Key.Text u2221.1.Reads u2221.1.Changed u2221.1.Verified e4771 u2221.1.Dirty) (cond ((u4753 : Int) == 4) (law26_RecordValid_j8 raw_ by_3 k_4 u2218 u2221 u2221.1.Key.Kind u2221.1.Key.Text u2221.1.Reads u2221.1.Changed u2221.1.Verified u2221.1.Cost true) (cond ((u4753 : Int) == 5) ((mill_Mod by_3 36).bind fun u4787 => gd (roomB (u2221.1.Reads.length + ([(KeyD.mk u4787 (ByteArray.mk #[120]))]).length)) <| law26_RecordValid_j8 raw_ by_3 k_4 u2218 u2221 u2221.1.Key.Kind u2221.1.Key.Text (u2221.1.Reads ++ ([(KeyD.mk u4787 (ByteArray.mk #[120]))])) u2221.1.Changed u2221.1.Verified u2221.1.Cost u2221.1.Dirty) (cond ((u4753 : Int) == 6) ((mill_Mod by_3 2).bind fun u4796 => law26_RecordValid_j8 raw_ by_3 k_4 u2218 u2221 u2221.1.Key.Kind u2221.1.Key.Text u2221.1.Reads (IntKind.i64.wrap (0 - u4796)) u2221.1.Verified u2221.1.Cost u2221.1.Dirty) (law26_RecordValid_j8 raw_ by_3 k_4 u2218 u2221 u2221.1.Key.Kind u2221.1.Key.Text u2221.1.Reads u2221.1.Changed u2221.1.Verified u2221.1.Cost u2221.1.Dirty)))))))
noncomputable def law26_RecordValid_l10 (raw_ : (List RecordD)) (g4821 : Int) : Option (Fl (Int) (Fl (Unit) Bool)) := cond (decide ((g4821 : Int) < (raw_.length : Int))) ((getI raw_ g4821).bind fun e4846 => cond (decide ((2000 : Int) < (e4846.Value.size : Int))) ((law26_awake).bind fun u4859 => some (.out (.out u4859))) (cond (decide ((200 : Int) < (e4846.Reads.length : Int))) ((law26_awake).bind fun u4862 => some (.out (.out u4862))) (cond (decide ((500 : Int) < (e4846.Key.Text.size : Int))) ((law26_awake).bind fun u4865 => some (.out (.out u4865))) (some (.go (IntKind.i64.wrap (g4821 + 1))))))) (some (.out (.go ())))
noncomputable def law26_RecordValid (raw_ : (List RecordD)) (t_1 : (List Int)) (what_ : Int) (by_3 : Int) (k_4 : KeyD) : Option Bool := cond (decide ((40 : Int) < (raw_.length : Int))) ((law26_awake).bind fun u2161 => some (u2161)) ((mill_Light t_1).bind fun u2163 => cond (!(u2163)) ((law26_awake).bind fun u2166 => some (u2166)) ((loop (fun s : Int => law26_RecordValid_l10 raw_ s) 0).bind fun r => Fl.el r (fun s => law26_RecordValid_j9 raw_ t_1 what_ by_3 k_4) (fun y => some (y))))
set_option maxRecDepth 100000 in
set_option maxHeartbeats 4000000 in
theorem law26_RecordValid_c (T : Nat → Prop) (W0 : World) (hT : ∀ k, T k → k < W0.heap.size) (hLv : LvP T W0) (raw_ : (List RecordD)) (t_1 : (List Int)) (what_ : Int) (by_3 : Int) (k_4 : KeyD) (v1 : Value) (v2 : Value) (hv1 : SlR R_RecordD T W0 v1 raw_) (hv2 : SlR (Rep.int .i64) T W0 v2 t_1) (y : Bool) (hM : law26_RecordValid raw_ t_1 what_ by_3 k_4 = some y) : Rets Tryd.prog No 10 [v1, v2, .int .i64 what_, .int .i64 by_3, .agg #[.int .i64 k_4.Kind, .string k_4.Text]] W0 (fun v w' => v = .bool y) := by
  refine enter (c := _) Tryd.func10 rfl T 203 Tryd.ntmps10 hT rfl fun a hS => ?_
  replace hS := hS.fact LvF (LvP.dn hLv)
  replace hS := hS.fact (SlF R_RecordD v1 raw_) (SlR.dn hv1)
  replace hS := hS.fact (SlF (Rep.int .i64) v2 t_1) (SlR.dn hv2)
  unfold law26_RecordValid at hM
  refine wp_seq_k fun K292 hK292 => ?_
  refine r_list ?_
  refine wl rfl (k_box hS rfl (cs := [.int .i64 k_4.Kind, .string k_4.Text]) rfl rfl fun b2154 hnb2156 a w hk hS => ?_)
  refine wl rfl (ky (v := .bool false) hS (y_assign hS rfl) rfl rfl fun a hS => ?_)
  refine wpList_nil ?_
  try simp only [Exit.then, Exit.inBlock, ↓reduceIte, Nat.reduceEqDiff]
  refine hK292 _ _ ?_
  refine wp_seq_k fun K293 hK293 => ?_
  refine wp_seq_k fun K294 hK294 => ?_
  refine r_list ?_
  refine wl rfl (ky (v := v1) hS (y_move hS rfl) rfl rfl fun a hS => ?_)
  refine wl rfl (ky (v := .int .i64 (raw_.length : Int)) hS (y_len (R := R_RecordD) (xs := raw_) hS sl51 rfl 1 rfl) rfl rfl fun a hS => ?_)
  refine wl rfl (ky (v := .bool (decide ((40 : Int) < (raw_.length : Int)))) hS (y_int hS rfl rfl rfl) rfl rfl fun a hS => ?_)
  refine wl rfl (ky (v := .bool (decide ((40 : Int) < (raw_.length : Int)))) hS (y_move hS rfl) rfl rfl fun a hS => ?_)
  rcases bool2 (decide ((40 : Int) < (raw_.length : Int))) with hb2160 | hb2160
  · replace hM := ct hb2160 hM
    refine wn hS rfl rfl rfl hb2160 rfl rfl fun a hS => ?_
    refine wn hS rfl rfl rfl hb2160 rfl rfl fun a hS => ?_
    refine wn hS rfl rfl rfl hb2160 rfl rfl fun a hS => ?_
    refine wl rfl (ky (v := .bool true) hS (y_pickt hS rfl hb2160 rfl) rfl rfl fun a hS => ?_)
    refine wpList_nil ?_
    try simp only [Exit.then, Exit.inBlock, ↓reduceIte, Nat.reduceEqDiff]
    refine hK294 _ _ ?_
    refine c_t hS rfl rfl ?_
    refine wp_seq_k fun K295 hK295 => ?_
    refine r_list ?_
    obtain ⟨u2161, hu2161, hM⟩ := bd hM
    refine wl rfl (k_call hS ci33 rfl rfl (law26_awake_c _ _ hS.dlt (hS.get 2 rfl) _ hu2161) fun _ w hR a hk hA => ?_)
    have he := Eq.symm hR
    subst he
    have hS := hA [] (fun r hr => by cases hr) List.Pairwise.nil
    refine wl rfl (ky (v := .bool u2161) hS (y_assign hS rfl) rfl rfl fun a hS => ?_)
    refine wpList_nil ?_
    try simp only [Exit.then, Exit.inBlock, ↓reduceIte, Nat.reduceEqDiff]
    refine hK295 _ _ ?_
    refine wp_ret ?_
    injection hM with hM
    subst hM
    try simp only [Exit.then, Exit.inBlock, ↓reduceIte, Nat.reduceEqDiff]
    refine ret_ok hS Tryd.results10 (res_tmp hS rfl res_nil) ?_
    exact rfl
  · replace hM := cf hb2160 hM
    refine wg hS rfl rfl rfl hb2160 (ky (v := v2) hS (y_move hS rfl) rfl rfl fun a hS => ?_)
    obtain ⟨u2163, hu2163, hM⟩ := bd hM
    refine wg hS rfl rfl rfl hb2160 (k_call hS ci13 rfl rfl (mill_Light_c _ _ hS.dlt t_1 _ (hS.get 0 rfl) _ hu2163) fun _ w hR a hk hA => ?_)
    have he := Eq.symm hR
    subst he
    have hS := hA [] (fun r hr => by cases hr) List.Pairwise.nil
    refine wg hS rfl rfl rfl hb2160 (ky (v := .bool (!(u2163))) hS (y_not hS rfl) rfl rfl fun a hS => ?_)
    refine wl rfl (ky (v := .bool (!(u2163))) hS (y_pickf hS rfl hb2160 rfl) rfl rfl fun a hS => ?_)
    refine wpList_nil ?_
    try simp only [Exit.then, Exit.inBlock, ↓reduceIte, Nat.reduceEqDiff]
    refine hK294 _ _ ?_
    rcases bool2 (!(u2163)) with hb2165 | hb2165
    · replace hM := ct hb2165 hM
      refine c_t hS rfl hb2165 ?_
      refine wp_seq_k fun K296 hK296 => ?_
      refine r_list ?_
      obtain ⟨u2166, hu2166, hM⟩ := bd hM
      refine wl rfl (k_call hS ci33 rfl rfl (law26_awake_c _ _ hS.dlt (hS.get 2 rfl) _ hu2166) fun _ w hR a hk hA => ?_)
      have he := Eq.symm hR
      subst he
      have hS := hA [] (fun r hr => by cases hr) List.Pairwise.nil
      refine wl rfl (ky (v := .bool u2166) hS (y_assign hS rfl) rfl rfl fun a hS => ?_)
      refine wpList_nil ?_
      try simp only [Exit.then, Exit.inBlock, ↓reduceIte, Nat.reduceEqDiff]
      refine hK296 _ _ ?_
      refine wp_ret ?_
      injection hM with hM
      subst hM
      try simp only [Exit.then, Exit.inBlock, ↓reduceIte, Nat.reduceEqDiff]
      refine ret_ok hS Tryd.results10 (res_tmp hS rfl res_nil) ?_
      exact rfl
    · replace hM := cf hb2165 hM
      refine c_f hS rfl hb2165 ?_
      refine wp_skip ?_
      try simp only [Exit.then, Exit.inBlock, ↓reduceIte, Nat.reduceEqDiff]
      refine hK293 _ _ ?_
      refine seq_j (J := fun a w => St W0 No T 203 [(0, v1), (1, v2), (2, .int .i64 what_), (3, .int .i64 by_3), (9, .pointer (some ⟨b2154, 0, none⟩))] [.box b2154 [.int .i64 k_4.Kind, .string k_4.Text] 28] [SlF R_RecordD v1 raw_, SlF (Rep.int .i64) v2 t_1, LvF] a w ∧ law26_RecordValid_j9 raw_ t_1 what_ by_3 k_4 = some y) ?_ ?_
      · skip
        refine wp_seq_k fun K643 hK643 => ?_
        refine r_list ?_
        refine wl rfl (ky (v := v1) hS (y_move hS rfl) rfl rfl fun a hS => ?_)
        refine wl rfl (ky (v := .int .i64 (raw_.length : Int)) hS (y_len (R := R_RecordD) (xs := raw_) hS sl51 rfl 1 rfl) rfl rfl fun a hS => ?_)
        refine wl rfl (ky (v := .int .i64 0) hS (y_move hS rfl) rfl rfl fun a hS => ?_)
        refine wpList_nil ?_
        try simp only [Exit.then, Exit.inBlock, ↓reduceIte, Nat.reduceEqDiff]
        refine hK643 _ _ ?_
        refine wp_block ?_
        obtain ⟨r1, hl1, hMo1⟩ := bd hM
        refine wp_lp (fun s : Int => law26_RecordValid_l10 raw_ s) (fun s a w => ∃ (g4821 : Int), g4821 = s ∧ St W0 No T 203 [(0, v1), (1, v2), (2, .int .i64 what_), (3, .int .i64 by_3), (9, .pointer (some ⟨b2154, 0, none⟩)), (36, v1), (37, .int .i64 (raw_.length : Int)), (38, .int .i64 g4821)] [.box b2154 [.int .i64 k_4.Kind, .string k_4.Text] 28] [SlF R_RecordD v1 raw_, SlF (Rep.int .i64) v2 t_1, LvF] a w) hl1 ⟨0, rfl, (hS.meet [0] (by decide) ⟨rfl, rfl, rfl, rfl, rfl, rfl, rfl, rfl, trivial⟩ ⟨rfl, trivial⟩ ⟨⟨1, rfl⟩, ⟨0, rfl⟩, ⟨2, rfl⟩, trivial⟩)⟩ ?_
        rintro s a w f1 ⟨g4821, rfl, hS⟩ hM hf1
        have hM : law26_RecordValid_l10 raw_ g4821 = some f1 := hM
        unfold law26_RecordValid_l10 at hM
        refine wp_seq_k fun K660 hK660 => ?_
        refine r_list ?_
        refine wl rfl (ky (v := .bool (decide ((g4821 : Int) < (raw_.length : Int)))) hS (y_int hS rfl rfl rfl) rfl rfl fun a hS => ?_)
        refine wpList_nil ?_
        try simp only [Exit.then, Exit.inBlock, ↓reduceIte, Nat.reduceEqDiff]
        refine hK660 _ _ ?_
        refine wp_seq_k fun K661 hK661 => ?_
        rcases bool2 (decide ((g4821 : Int) < (raw_.length : Int))) with hb4845 | hb4845
        · replace hM := ct hb4845 hM
          refine c_t hS rfl hb4845 ?_
          refine wp_skip ?_
          try simp only [Exit.then, Exit.inBlock, ↓reduceIte, Nat.reduceEqDiff]
          refine hK661 _ _ ?_
          refine wp_seq_k fun K662 hK662 => ?_
          refine wp_block ?_
          refine wp_seq_k fun K663 hK663 => ?_
          refine r_list ?_
          obtain ⟨e4846, he4846, hM⟩ := bd hM
          refine wl rfl (k_index (R := R_RecordD) hS sl51 ty54 rfl rfl 0 rfl he4846 rfl fun b4848 o4849 cs4851 hr4850 a hS => ?_)
          obtain ⟨v4847, rfl, hv4847⟩ := hr4850
          replace hS := hS.fact (SlF R_KeyD v4847 e4846.Reads) hv4847
          refine wl rfl (ky (v := .agg #[.int .i64 e4846.Key.Kind, .string e4846.Key.Text, .string e4846.Value, v4847, .int .i64 e4846.Changed, .int .i64 e4846.Verified, .int .i64 e4846.Cost, .bool e4846.Dirty]) hS (y_loadc (k := 0) hS ty54 1 rfl rfl (fun _ h => h.elim) (us := [.int .i64 e4846.Key.Kind, .string e4846.Key.Text, .string e4846.Value, v4847, .int .i64 e4846.Changed, .int .i64 e4846.Verified, .int .i64 e4846.Cost, .bool e4846.Dirty]) rfl rfl (fun h => by cases h)) rfl rfl fun a hS => ?_)
          refine wl rfl (k_alloc hS ze54 rfl fun b4853 hnb4855 a w hk hS => ?_)
          refine wl rfl (k_store hS rfl rfl (us := [.int .i64 e4846.Key.Kind, .string e4846.Key.Text, .string e4846.Value, v4847, .int .i64 e4846.Changed, .int .i64 e4846.Verified, .int .i64 e4846.Cost, .bool e4846.Dirty]) rfl ty54 0 rfl rfl rfl (oc rfl (oc rfl (oc rfl (oc (SlR.one ((hS.get 0 rfl) : SlR R_KeyD _ _ _ _)) (oc rfl (oc rfl (oc rfl (oc rfl on)))))))) fun w hk hS => ?_)
          refine wpList_nil ?_
          try simp only [Exit.then, Exit.inBlock, ↓reduceIte, Nat.reduceEqDiff]
          refine hK663 _ _ ?_
          refine wp_seq_k fun K664 hK664 => ?_
          refine r_list ?_
          refine wl rfl (ky (v := .pointer (some ⟨b4853, 0 + 2, none⟩)) hS (y_fld hS rfl fl54_1) rfl rfl fun a hS => ?_)
          refine wl rfl (ky (v := .string e4846.Value) hS (y_load hS rfl ty9 0 rfl id (us := [.string e4846.Value]) rfl rfl (fun _ => rfl)) rfl rfl fun a hS => ?_)
          refine wl rfl (ky (v := .int .i64 (e4846.Value.size : Int)) hS (y_lens hS Tryd.underlying9 rfl) rfl rfl fun a hS => ?_)
          refine wl rfl (ky (v := .bool (decide ((2000 : Int) < (e4846.Value.size : Int)))) hS (y_int hS rfl rfl rfl) rfl rfl fun a hS => ?_)
          refine wl rfl (ky (v := .bool (decide ((2000 : Int) < (e4846.Value.size : Int)))) hS (y_move hS rfl) rfl rfl fun a hS => ?_)
          rcases bool2 (decide ((2000 : Int) < (e4846.Value.size : Int))) with hb4858 | hb4858
          · replace hM := ct hb4858 hM
            refine wn hS rfl rfl rfl hb4858 rfl rfl fun a hS => ?_
            refine wn hS rfl rfl rfl hb4858 rfl rfl fun a hS => ?_
            refine wn hS rfl rfl rfl hb4858 rfl rfl fun a hS => ?_
            refine wn hS rfl rfl rfl hb4858 rfl rfl fun a hS => ?_
            refine wl rfl (ky (v := .bool true) hS (y_pickt hS rfl hb4858 rfl) rfl rfl fun a hS => ?_)
            refine wl rfl (ky (v := .bool true) hS (y_move hS rfl) rfl rfl fun a hS => ?_)
            refine wn hS rfl rfl rfl rfl rfl rfl fun a hS => ?_
            refine wn hS rfl rfl rfl rfl rfl rfl fun a hS => ?_
            refine wn hS rfl rfl rfl rfl rfl rfl fun a hS => ?_
            refine wn hS rfl rfl rfl rfl rfl rfl fun a hS => ?_
            refine wn hS rfl rfl rfl rfl rfl rfl fun a hS => ?_
            refine wl rfl (ky (v := .bool true) hS (y_pickt hS rfl rfl rfl) rfl rfl fun a hS => ?_)
            refine wpList_nil ?_
            try simp only [Exit.then, Exit.inBlock, ↓reduceIte, Nat.reduceEqDiff]
            refine hK664 _ _ ?_
            refine c_t hS rfl rfl ?_
            refine wp_seq_k fun K665 hK665 => ?_
            refine r_list ?_
            obtain ⟨u4859, hu4859, hM⟩ := bd hM
            refine wl rfl (k_call hS ci33 rfl rfl (law26_awake_c _ _ hS.dlt (hS.get 4 rfl) _ hu4859) fun _ w hR a hk hA => ?_)
            have he := Eq.symm hR
            subst he
            have hS := hA [] (fun r hr => by cases hr) List.Pairwise.nil
            refine wl rfl (ky (v := .bool u4859) hS (y_assign hS rfl) rfl rfl fun a hS => ?_)
            refine wpList_nil ?_
            try simp only [Exit.then, Exit.inBlock, ↓reduceIte, Nat.reduceEqDiff]
            refine hK665 _ _ ?_
            refine wp_ret ?_
            injection hM with hM
            subst hM
            have hr := hf1 _ rfl
            subst hr
            replace hMo1 := el_out hMo1
            have hM := hMo1
            injection hM with hM
            subst hM
            try simp only [Exit.then, Exit.inBlock, ↓reduceIte, Nat.reduceEqDiff]
            refine ret_ok hS Tryd.results10 (res_tmp hS rfl res_nil) ?_
            exact rfl
          · replace hM := cf hb4858 hM
            refine wg hS rfl rfl rfl hb4858 (ky (v := .pointer (some ⟨b4853, 0 + 3, none⟩)) hS (y_fld hS rfl fl54_2) rfl rfl fun a hS => ?_)
            refine wg hS rfl rfl rfl hb4858 (ky (v := v4847) hS (y_load hS rfl ty22 0 rfl id (us := [v4847]) rfl rfl (fun _ => rfl)) rfl rfl fun a hS => ?_)
            refine wg hS rfl rfl rfl hb4858 (ky (v := .int .i64 (e4846.Reads.length : Int)) hS (y_len (R := R_KeyD) (xs := e4846.Reads) hS sl22 rfl 0 rfl) rfl rfl fun a hS => ?_)
            refine wg hS rfl rfl rfl hb4858 (ky (v := .bool (decide ((200 : Int) < (e4846.Reads.length : Int)))) hS (y_int hS rfl rfl rfl) rfl rfl fun a hS => ?_)
            refine wl rfl (ky (v := .bool (decide ((200 : Int) < (e4846.Reads.length : Int)))) hS (y_pickf hS rfl hb4858 rfl) rfl rfl fun a hS => ?_)
            refine wl rfl (ky (v := .bool (decide ((200 : Int) < (e4846.Reads.length : Int)))) hS (y_move hS rfl) rfl rfl fun a hS => ?_)
            rcases bool2 (decide ((200 : Int) < (e4846.Reads.length : Int))) with hb4861 | hb4861
            · replace hM := ct hb4861 hM
              refine wn hS rfl rfl rfl hb4861 rfl rfl fun a hS => ?_
              refine wn hS rfl rfl rfl hb4861 rfl rfl fun a hS => ?_
              refine wn hS rfl rfl rfl hb4861 rfl rfl fun a hS => ?_
              refine wn hS rfl rfl rfl hb4861 rfl rfl fun a hS => ?_
              refine wn hS rfl rfl rfl hb4861 rfl rfl fun a hS => ?_
              refine wl rfl (ky (v := .bool true) hS (y_pickt hS rfl hb4861 rfl) rfl rfl fun a hS => ?_)
              refine wpList_nil ?_
              try simp only [Exit.then, Exit.inBlock, ↓reduceIte, Nat.reduceEqDiff]
              refine hK664 _ _ ?_
              refine c_t hS rfl rfl ?_
              refine wp_seq_k fun K666 hK666 => ?_
              refine r_list ?_
              obtain ⟨u4862, hu4862, hM⟩ := bd hM
              refine wl rfl (k_call hS ci33 rfl rfl (law26_awake_c _ _ hS.dlt (hS.get 4 rfl) _ hu4862) fun _ w hR a hk hA => ?_)
              have he := Eq.symm hR
              subst he
              have hS := hA [] (fun r hr => by cases hr) List.Pairwise.nil
              refine wl rfl (ky (v := .bool u4862) hS (y_assign hS rfl) rfl rfl fun a hS => ?_)
              refine wpList_nil ?_
              try simp only [Exit.then, Exit.inBlock, ↓reduceIte, Nat.reduceEqDiff]
              refine hK666 _ _ ?_
              refine wp_ret ?_
              injection hM with hM
              subst hM
              have hr := hf1 _ rfl
              subst hr
              replace hMo1 := el_out hMo1
              have hM := hMo1
              injection hM with hM
              subst hM
              try simp only [Exit.then, Exit.inBlock, ↓reduceIte, Nat.reduceEqDiff]
              refine ret_ok hS Tryd.results10 (res_tmp hS rfl res_nil) ?_
              exact rfl
            · replace hM := cf hb4861 hM
              refine wg hS rfl rfl rfl hb4861 (ky (v := .pointer (some ⟨b4853, 0 + 0, none⟩)) hS (y_fld hS rfl fl54_0) rfl rfl fun a hS => ?_)
              refine wg hS rfl rfl rfl hb4861 (ky (v := .pointer (some ⟨b4853, 0 + 0 + 1, none⟩)) hS (y_fld hS rfl fl28_1) rfl rfl fun a hS => ?_)
              refine wg hS rfl rfl rfl hb4861 (ky (v := .string e4846.Key.Text) hS (y_load hS rfl ty9 0 rfl id (us := [.string e4846.Key.Text]) rfl rfl (fun _ => rfl)) rfl rfl fun a hS => ?_)
              refine wg hS rfl rfl rfl hb4861 (ky (v := .int .i64 (e4846.Key.Text.size : Int)) hS (y_lens hS Tryd.underlying9 rfl) rfl rfl fun a hS => ?_)
              refine wg hS rfl rfl rfl hb4861 (ky (v := .bool (decide ((500 : Int) < (e4846.Key.Text.size : Int)))) hS (y_int hS rfl rfl rfl) rfl rfl fun a hS => ?_)
              refine wl rfl (ky (v := .bool (decide ((500 : Int) < (e4846.Key.Text.size : Int)))) hS (y_pickf hS rfl hb4861 rfl) rfl rfl fun a hS => ?_)
              refine wpList_nil ?_
              try simp only [Exit.then, Exit.inBlock, ↓reduceIte, Nat.reduceEqDiff]
              refine hK664 _ _ ?_
              rcases bool2 (decide ((500 : Int) < (e4846.Key.Text.size : Int))) with hb4864 | hb4864
              · replace hM := ct hb4864 hM
                refine c_t hS rfl hb4864 ?_
                refine wp_seq_k fun K667 hK667 => ?_
                refine r_list ?_
                obtain ⟨u4865, hu4865, hM⟩ := bd hM
                refine wl rfl (k_call hS ci33 rfl rfl (law26_awake_c _ _ hS.dlt (hS.get 4 rfl) _ hu4865) fun _ w hR a hk hA => ?_)
                have he := Eq.symm hR
                subst he
                have hS := hA [] (fun r hr => by cases hr) List.Pairwise.nil
                refine wl rfl (ky (v := .bool u4865) hS (y_assign hS rfl) rfl rfl fun a hS => ?_)
                refine wpList_nil ?_
                try simp only [Exit.then, Exit.inBlock, ↓reduceIte, Nat.reduceEqDiff]
                refine hK667 _ _ ?_
                refine wp_ret ?_
                injection hM with hM
                subst hM
                have hr := hf1 _ rfl
                subst hr
                replace hMo1 := el_out hMo1
                have hM := hMo1
                injection hM with hM
                subst hM
                try simp only [Exit.then, Exit.inBlock, ↓reduceIte, Nat.reduceEqDiff]
                refine ret_ok hS Tryd.results10 (res_tmp hS rfl res_nil) ?_
                exact rfl
              · replace hM := cf hb4864 hM
                refine c_f hS rfl hb4864 ?_
                refine wp_skip ?_
                try simp only [Exit.then, Exit.inBlock, ↓reduceIte, Nat.reduceEqDiff]
                refine hK662 _ _ ?_
                refine r_list ?_
                refine wl rfl (ky (v := .int .i64 (IntKind.i64.wrap (g4821 + 1))) hS (y_int hS rfl rfl rfl) rfl rfl fun a hS => ?_)
                refine wl rfl (ky (v := .int .i64 (IntKind.i64.wrap (g4821 + 1))) hS (y_move hS rfl) rfl rfl fun a hS => ?_)
                refine wpList_nil ?_
                try simp only [Exit.then, Exit.inBlock, ↓reduceIte, Nat.reduceEqDiff]
                exact ⟨IntKind.i64.wrap (g4821 + 1), (Option.some.inj hM).symm, (IntKind.i64.wrap (g4821 + 1)), rfl, (hS.meet [1] (by decide) ⟨rfl, rfl, rfl, rfl, rfl, rfl, rfl, rfl, trivial⟩ ⟨rfl, trivial⟩ ⟨⟨2, rfl⟩, ⟨3, rfl⟩, ⟨4, rfl⟩, trivial⟩)⟩
        · replace hM := cf hb4845 hM
          refine c_f hS rfl hb4845 ?_
          refine wp_exit ?_
          try simp only [Exit.then, Exit.inBlock, ↓reduceIte, Nat.reduceEqDiff]
          injection hM with hM
          subst hM
          have hr := hf1 _ rfl
          subst hr
          replace hMo1 := el_go hMo1
          have hM : law26_RecordValid_j9 raw_ t_1 what_ by_3 k_4 = some y := hMo1
          exact ⟨(hS.meet [0] (by decide) ⟨rfl, rfl, rfl, rfl, rfl, trivial⟩ ⟨rfl, trivial⟩ ⟨⟨0, rfl⟩, ⟨1, rfl⟩, ⟨2, rfl⟩, trivial⟩), hM⟩
      · rintro a w ⟨hS, hM⟩
        unfold law26_RecordValid_j9 at hM
        refine wp_seq_k fun K314 hK314 => ?_
        refine r_list ?_
        refine wl rfl (ky (v := v2) hS (y_move hS rfl) rfl rfl fun a hS => ?_)
        obtain ⟨u2215, hu2215, hM⟩ := bd hM
        refine wl rfl (k_call hS ci34 rfl rfl (mill_Roll_c _ _ hS.dlt t_1 _ (hS.get 1 rfl) _ hu2215) fun _ w hR a hk hA => ?_)
        obtain ⟨bz2216_2, vz2216_3, he, hFbz2216_2, hObz2216_2, hRvz2216_3⟩ := hR
        replace he := he.symm
        subst he
        have hS := hA [.box bz2216_2 [vz2216_3, .int .i64 u2215.At] 98] (adds1 hObz2216_2 (fun k hk => by simp only [Res.dom, Option.some.injEq] at hk; omega)) (pw1 _)
        replace hS := hS.fact (SlF (Rep.int .i64) vz2216_3 u2215.L) (hRvz2216_3.sub (dT_dT _))
        refine wl rfl (ky (v := .pointer (some ⟨bz2216_2, 0, none⟩)) hS (y_assign hS rfl) rfl rfl fun a hS => ?_)
        refine wpList_nil ?_
        try simp only [Exit.then, Exit.inBlock, ↓reduceIte, Nat.reduceEqDiff]
        refine hK314 _ _ ?_
        refine wp_seq_k fun K315 hK315 => ?_
        refine r_list ?_
        refine wl rfl (ky (v := .pointer (some ⟨bz2216_2, 0, none⟩)) hS (y_move hS rfl) rfl rfl fun a hS => ?_)
        obtain ⟨u2218, hu2218, hM⟩ := bd hM
        refine wl rfl (k_callmr hS ci35 rfl rfl 0 rfl (law26_some_c _ _ (hS.drop 0).dlt u2215 _ _ (hS.boxRow 0 rfl) (hS.notin 0 rfl) (SlR.lent (i := 0) rfl (hS.get 0 rfl)) (LvF.keep (hS.get 3 rfl) (Kt.refl _ _) (fun k hk => .inl ((dT_in (i := 0) rfl k).1 hk))) _ hu2218) fun _ w hR hk => ?_)
        obtain ⟨vz2219_3, clz2219_4, vz2219_5, he, ⟨hOvz2219_3, hFvz2219_3, hRvz2219_3⟩, hrow, hRvz2219_5⟩ := hR
        replace he := he.symm
        subst he
        refine ⟨[vz2219_5, .int .i64 u2218.2.At], [.own vz2219_3 54 R_RecordD.size clz2219_4], hrow, adds1 ⟨hOvz2219_3, by decide⟩ hFvz2219_3, pw1 _, fun a hS => ?_⟩
        replace hS := hS.fact (RowsF R_RecordD clz2219_4 u2218.1) (hRvz2219_3.keep (Kt.refl _ _) (Nw.back2 (i := 0) rfl [.own vz2219_3 54 R_RecordD.size clz2219_4] _))
        replace hS := hS.fact (SlF (Rep.int .i64) vz2219_5 u2218.2.L) (hRvz2219_5.sub (Nw.back2 (i := 0) rfl [.own vz2219_3 54 R_RecordD.size clz2219_4] _))
        refine wl rfl (ky (v := vz2219_3) hS (y_assign hS rfl) rfl rfl fun a hS => ?_)
        refine wpList_nil ?_
        try simp only [Exit.then, Exit.inBlock, ↓reduceIte, Nat.reduceEqDiff]
        refine hK315 _ _ ?_
        refine wp_seq_k fun K316 hK316 => ?_
        refine r_list ?_
        refine wl rfl (ky (v := .pointer (some ⟨bz2216_2, 0, none⟩)) hS (y_move hS rfl) rfl rfl fun a hS => ?_)
        obtain ⟨u2221, hu2221, hM⟩ := bd hM
        refine wl rfl (k_callmr hS ci36 rfl rfl 1 rfl (law26_one_c _ _ (hS.drop 1).dlt (DiceD.mk u2218.2.L u2218.2.At) _ _ (hS.boxRow 1 rfl) (hS.notin 1 rfl) (SlR.lent (i := 1) rfl (hS.get 0 rfl)) (LvF.keep (hS.get 5 rfl) (Kt.refl _ _) (fun k hk => .inl ((dT_in (i := 1) rfl k).1 hk))) _ hu2221) fun _ w hR hk => ?_)
        obtain ⟨vz2222_3, clz2222_4, vz2222_5, he, ⟨hOvz2222_3, hFvz2222_3, hRvz2222_3⟩, hrow, hRvz2222_5⟩ := hR
        replace he := he.symm
        subst he
        refine ⟨[vz2222_5, .int .i64 u2221.2.At], [.own vz2222_3 28 R_KeyD.size clz2222_4], hrow, adds1 ⟨hOvz2222_3, by decide⟩ hFvz2222_3, pw1 _, fun a hS => ?_⟩
        replace hS := hS.fact (RowsF R_KeyD clz2222_4 u2221.1.Reads) (hRvz2222_3.keep (Kt.refl _ _) (Nw.back2 (i := 1) rfl [.own vz2222_3 28 R_KeyD.size clz2222_4] _))
        replace hS := hS.fact (SlF (Rep.int .i64) vz2222_5 u2221.2.L) (hRvz2222_5.sub (Nw.back2 (i := 1) rfl [.own vz2222_3 28 R_KeyD.size clz2222_4] _))
        refine wl rfl (k_alloc hS ze54 rfl fun b2224 hnb2226 a w hk hS => ?_)
        refine wl rfl (k_store hS rfl rfl (us := [.int .i64 u2221.1.Key.Kind, .string u2221.1.Key.Text, .string u2221.1.Value, vz2222_3, .int .i64 u2221.1.Changed, .int .i64 u2221.1.Verified, .int .i64 u2221.1.Cost, .bool u2221.1.Dirty]) rfl ty54 0 rfl rfl rfl (oc rfl (oc rfl (oc rfl (oc (own_one (hS.own _ (List.mem_of_getElem? (i := 1) rfl)).1) (oc rfl (oc rfl (oc rfl (oc rfl on)))))))) fun w hk hS => ?_)
        refine wpList_nil ?_
        try simp only [Exit.then, Exit.inBlock, ↓reduceIte, Nat.reduceEqDiff]
        refine hK316 _ _ ?_
        refine seq_j (J := fun a w => ∃ (r2272 : Int) (r2273 : ByteArray) (r2274 : (List KeyD)) (r2278 : Int) (r2279 : Int) (r2280 : Int) (r2281 : Bool) (v2275 : Value) (cl2276 : (List Value)), St W0 No T 203 [(0, v1), (3, .int .i64 by_3), (9, .pointer (some ⟨b2154, 0, none⟩)), (14, vz2219_3), (15, .pointer (some ⟨b2224, 0, none⟩))] [.own vz2219_3 54 R_RecordD.size clz2219_4, .box b2154 [.int .i64 k_4.Kind, .string k_4.Text] 28, .own v2275 28 R_KeyD.size cl2276, .box b2224 [.int .i64 r2272, .string r2273, .string u2221.1.Value, v2275, .int .i64 r2278, .int .i64 r2279, .int .i64 r2280, .bool r2281] 54] [SlF R_RecordD v1 raw_, RowsF R_RecordD clz2219_4 u2218.1, RowsF R_KeyD cl2276 r2274, LvF] a w ∧ law26_RecordValid_j8 raw_ by_3 k_4 u2218 u2221 r2272 r2273 r2274 r2278 r2279 r2280 r2281 = some y) ?_ ?_
        · skip
          refine wp_seq_k fun K635 hK635 => ?_
          refine r_list ?_
          refine wl rfl (ky (v := .int .i64 what_) hS (y_move hS rfl) rfl rfl fun a hS => ?_)
          obtain ⟨u4753, hu4753, hM⟩ := bd hM
          refine wl rfl (k_call hS ci18 rfl rfl (mill_Mod_c _ _ hS.dlt what_ 9 _ hu4753) fun _ w hR a hk hA => ?_)
          have he := Eq.symm hR
          subst he
          have hS := hA [] (fun r hr => by cases hr) List.Pairwise.nil
          refine wpList_nil ?_
          try simp only [Exit.then, Exit.inBlock, ↓reduceIte, Nat.reduceEqDiff]
          refine hK635 _ _ ?_
          refine wp_block ?_
          refine wp_seq_k fun K636 hK636 => ?_
          refine r_list ?_
          refine wl rfl (ky (v := .bool ((u4753 : Int) == 0)) hS (y_int hS rfl rfl rfl) rfl rfl fun a hS => ?_)
          refine wl rfl (ky (v := .bool ((u4753 : Int) == 0)) hS (y_assign hS rfl) rfl rfl fun a hS => ?_)
          refine wpList_nil ?_
          try simp only [Exit.then, Exit.inBlock, ↓reduceIte, Nat.reduceEqDiff]
          refine hK636 _ _ ?_
          rcases bool2 ((u4753 : Int) == 0) with hb4755 | hb4755
          · replace hM := ct hb4755 hM
            refine c_t hS rfl hb4755 ?_
            refine r_list ?_
            refine wl rfl (ky (v := .int .i64 by_3) hS (y_move hS rfl) rfl rfl fun a hS => ?_)
            obtain ⟨u4756, hu4756, hM⟩ := bd hM
            refine wl rfl (k_call hS ci18 rfl rfl (mill_Mod_c _ _ hS.dlt by_3 36 _ hu4756) fun _ w hR a hk hA => ?_)
            have he := Eq.symm hR
            subst he
            have hS := hA [] (fun r hr => by cases hr) List.Pairwise.nil
            refine wl rfl (ky (v := .agg #[.int .i64 u4756, .string (ByteArray.mk #[49])]) hS (y_build (ps := [(0, .tmp 72), (1, .const (.string ⟨#[49]⟩))]) hS pl28 ze28 rfl (us := [[.int .i64 u4756], [.string (ByteArray.mk #[49])]]) ⟨rfl, ⟨rfl, trivial⟩⟩ (ws := [.int .i64 u4756, .string (ByteArray.mk #[49])]) rfl) rfl rfl fun a hS => ?_)
            refine wl rfl (ky (v := .pointer (some ⟨b2224, 0 + 0, none⟩)) hS (y_fld hS rfl fl54_0) rfl rfl fun a hS => ?_)
            refine wl rfl (k_store hS rfl rfl (us := [.int .i64 u4756, .string (ByteArray.mk #[49])]) rfl ty28 0 rfl rfl rfl (oc rfl (oc rfl on)) fun w hk hS => ?_)
            refine wpList_nil ?_
            try simp only [Exit.then, Exit.inBlock, ↓reduceIte, Nat.reduceEqDiff]
            exact ⟨u4756, (ByteArray.mk #[49]), u2221.1.Reads, u2221.1.Changed, u2221.1.Verified, u2221.1.Cost, u2221.1.Dirty, vz2222_3, clz2222_4, (hS.meet [2, 4, 1, 0] (by decide) ⟨rfl, rfl, rfl, rfl, rfl, trivial⟩ ⟨rfl, rfl, rfl, rfl, trivial⟩ ⟨⟨5, rfl⟩, ⟨3, rfl⟩, ⟨1, rfl⟩, ⟨7, rfl⟩, trivial⟩), hM⟩
          · replace hM := cf hb4755 hM
            refine c_f hS rfl hb4755 ?_
            refine wp_seq_k fun K637 hK637 => ?_
            refine r_list ?_
            refine wl rfl (ky (v := .bool ((u4753 : Int) == 1)) hS (y_int hS rfl rfl rfl) rfl rfl fun a hS => ?_)
            refine wl rfl (ky (v := .bool ((u4753 : Int) == 1)) hS (y_assign hS rfl) rfl rfl fun a hS => ?_)
            refine wpList_nil ?_
            try simp only [Exit.then, Exit.inBlock, ↓reduceIte, Nat.reduceEqDiff]
            refine hK637 _ _ ?_
            rcases bool2 ((u4753 : Int) == 1) with hb4758 | hb4758
            · replace hM := ct hb4758 hM
              refine c_t hS rfl hb4758 ?_
              refine draws [(7, .blk (some b2224))] hS mixed rfl (fun c a d v w h => by cases d <;> exact h) fun w hQ hS => ?_
              refine dy 0 (v := .pointer (some ⟨b2224, 0 + 5, none⟩)) rfl (by kernel_rfl) (by kernel_rfl) (by kernel_rfl) rfl hQ hS (y_fld hS rfl fl54_4) rfl rfl rfl fun a hS => ?_
              refine dy (l := []) 1 (v := .int .i64 u2221.1.Verified) rfl (by kernel_rfl) (by kernel_rfl) (by kernel_rfl) (by kernel_rfl) hQ hS (y_load hS rfl ty3 0 rfl eo_nil (us := [.int .i64 u2221.1.Verified]) rfl rfl (fun _ => rfl)) rfl rfl rfl fun a hS => ?_
              refine dy 2 (v := .int .i64 by_3) rfl (by kernel_rfl) (by kernel_rfl) (by kernel_rfl) rfl hQ hS (y_move hS rfl) rfl rfl rfl fun a hS => ?_
              obtain ⟨u4761, hu4761, hM⟩ := bd hM
              refine wpE_one (i := 3) rfl (by kernel_rfl) rfl (k_call hS ci18 rfl rfl (mill_Mod_c _ _ hS.dlt by_3 3 _ hu4761) fun _ w hR a hk hA => ⟨stN (hk), ?_⟩)
              have he := Eq.symm hR
              subst he
              have hS := hA [] (fun r hr => by cases hr) List.Pairwise.nil
              refine dy 4 (v := .int .i64 (IntKind.i64.wrap (u2221.1.Verified + u4761))) rfl (by kernel_rfl) (by kernel_rfl) (by kernel_rfl) rfl hQ hS (y_int hS rfl rfl rfl) rfl rfl rfl fun a hS => ?_
              refine dy 5 (v := .int .i64 (IntKind.i64.wrap ((IntKind.i64.wrap (u2221.1.Verified + u4761)) - 1))) rfl (by kernel_rfl) (by kernel_rfl) (by kernel_rfl) rfl hQ hS (y_int hS rfl rfl rfl) rfl rfl rfl fun a hS => ?_
              refine dy 6 (v := .pointer (some ⟨b2224, 0 + 4, none⟩)) rfl (by kernel_rfl) (by kernel_rfl) (by kernel_rfl) rfl hQ hS (y_fld hS rfl fl54_3) rfl rfl rfl fun a hS => ?_
              refine wpE_one (i := 7) rfl (by kernel_rfl) rfl (k_store hS rfl rfl (us := [.int .i64 (IntKind.i64.wrap ((IntKind.i64.wrap (u2221.1.Verified + u4761)) - 1))]) rfl ty3 0 rfl rfl rfl (oc rfl on) fun w hk hS => ⟨stM rfl hk etBox, ?_⟩)
              refine wpE_done (by kernel_rfl) ?_ _
              try simp only [Exit.then, Exit.inBlock, ↓reduceIte, Nat.reduceEqDiff]
              exact ⟨u2221.1.Key.Kind, u2221.1.Key.Text, u2221.1.Reads, (IntKind.i64.wrap ((IntKind.i64.wrap (u2221.1.Verified + u4761)) - 1)), u2221.1.Verified, u2221.1.Cost, u2221.1.Dirty, vz2222_3, clz2222_4, (hS.meet [2, 4, 1, 0] (by decide) ⟨rfl, rfl, rfl, rfl, rfl, trivial⟩ ⟨rfl, rfl, rfl, rfl, trivial⟩ ⟨⟨5, rfl⟩, ⟨3, rfl⟩, ⟨1, rfl⟩, ⟨7, rfl⟩, trivial⟩), hM⟩
            · replace hM := cf hb4758 hM
              refine c_f hS rfl hb4758 ?_
              refine wp_seq_k fun K638 hK638 => ?_
              refine r_list ?_
              refine wl rfl (ky (v := .bool ((u4753 : Int) == 2)) hS (y_int hS rfl rfl rfl) rfl rfl fun a hS => ?_)
              refine wl rfl (ky (v := .bool ((u4753 : Int) == 2)) hS (y_assign hS rfl) rfl rfl fun a hS => ?_)
              refine wpList_nil ?_
              try simp only [Exit.then, Exit.inBlock, ↓reduceIte, Nat.reduceEqDiff]
              refine hK638 _ _ ?_
              rcases bool2 ((u4753 : Int) == 2) with hb4763 | hb4763
              · replace hM := ct hb4763 hM
                refine c_t hS rfl hb4763 ?_
                refine r_list ?_
                refine wl rfl (ky (v := .int .i64 by_3) hS (y_move hS rfl) rfl rfl fun a hS => ?_)
                obtain ⟨u4764, hu4764, hM⟩ := bd hM
                refine wl rfl (k_call hS ci18 rfl rfl (mill_Mod_c _ _ hS.dlt by_3 2 _ hu4764) fun _ w hR a hk hA => ?_)
                have he := Eq.symm hR
                subst he
                have hS := hA [] (fun r hr => by cases hr) List.Pairwise.nil
                refine wl rfl (ky (v := .int .i64 (IntKind.i64.wrap (1073741824 + u4764))) hS (y_int hS rfl rfl rfl) rfl rfl fun a hS => ?_)
                refine wl rfl (ky (v := .pointer (some ⟨b2224, 0 + 5, none⟩)) hS (y_fld hS rfl fl54_4) rfl rfl fun a hS => ?_)
                refine wl rfl (k_store hS rfl rfl (us := [.int .i64 (IntKind.i64.wrap (1073741824 + u4764))]) rfl ty3 0 rfl rfl rfl (oc rfl on) fun w hk hS => ?_)
                refine wpList_nil ?_
                try simp only [Exit.then, Exit.inBlock, ↓reduceIte, Nat.reduceEqDiff]
                exact ⟨u2221.1.Key.Kind, u2221.1.Key.Text, u2221.1.Reads, u2221.1.Changed, (IntKind.i64.wrap (1073741824 + u4764)), u2221.1.Cost, u2221.1.Dirty, vz2222_3, clz2222_4, (hS.meet [2, 4, 1, 0] (by decide) ⟨rfl, rfl, rfl, rfl, rfl, trivial⟩ ⟨rfl, rfl, rfl, rfl, trivial⟩ ⟨⟨5, rfl⟩, ⟨3, rfl⟩, ⟨1, rfl⟩, ⟨7, rfl⟩, trivial⟩), hM⟩
              · replace hM := cf hb4763 hM
                refine c_f hS rfl hb4763 ?_
                refine wp_seq_k fun K639 hK639 => ?_
                refine r_list ?_
                refine wl rfl (ky (v := .bool ((u4753 : Int) == 3)) hS (y_int hS rfl rfl rfl) rfl rfl fun a hS => ?_)
                refine wl rfl (ky (v := .bool ((u4753 : Int) == 3)) hS (y_assign hS rfl) rfl rfl fun a hS => ?_)
                refine wpList_nil ?_
                try simp only [Exit.then, Exit.inBlock, ↓reduceIte, Nat.reduceEqDiff]
                refine hK639 _ _ ?_
                rcases bool2 ((u4753 : Int) == 3) with hb4766 | hb4766
                · replace hM := ct hb4766 hM
                  refine c_t hS rfl hb4766 ?_
                  refine r_list ?_
                  refine wl rfl (k_bslice (ps := [(0, .const (.int .i64 0)), (1, .const (.int .i64 1)), (2, .const (.int .i64 1073741824)), (3, .const (.int .i64 1073741825))]) hS el23 ze3 (zl := [.int .i64 0, .int .i64 0, .int .i64 0, .int .i64 0]) (by kernel_rfl) rfl (us := [[.int .i64 0], [.int .i64 1], [.int .i64 1073741824], [.int .i64 1073741825]]) ⟨rfl, ⟨rfl, ⟨rfl, ⟨rfl, trivial⟩⟩⟩⟩ (ws := [.int .i64 0, .int .i64 1, .int .i64 1073741824, .int .i64 1073741825]) rfl rfl rfl rfl fun b4767 a w hk hS => ?_)
                  refine wl rfl (ky (v := .int .i64 by_3) hS (y_move hS rfl) rfl rfl fun a hS => ?_)
                  obtain ⟨u4769, hu4769, hM⟩ := bd hM
                  refine wl rfl (k_call hS ci18 rfl rfl (mill_Mod_c _ _ hS.dlt by_3 4 _ hu4769) fun _ w hR a hk hA => ?_)
                  have he := Eq.symm hR
                  subst he
                  have hS := hA [] (fun r hr => by cases hr) List.Pairwise.nil
                  replace hS := hS.lit (R := (Rep.int .i64)) (us := [.int .i64 0, .int .i64 1, .int .i64 1073741824, .int .i64 1073741825]) (xs := [0, 1, 1073741824, 1073741825]) 0 rfl (by decide) ((RowsOk.one_ (R := (Rep.int .i64)) (x := 0) rfl).append ((RowsOk.one_ (R := (Rep.int .i64)) (x := 1) rfl).append ((RowsOk.one_ (R := (Rep.int .i64)) (x := 1073741824) rfl).append (RowsOk.one_ (R := (Rep.int .i64)) (x := 1073741825) rfl)))) rfl rfl
                  replace hS := hS.freeze (R := (Rep.int .i64)) 0 rfl 0 rfl
                  obtain ⟨e4771, he4771, hM⟩ := bd hM
                  refine wl rfl (k_index (R := (Rep.int .i64)) hS sl23 ty3 rfl rfl 0 rfl he4771 rfl fun b4772 o4773 cs4775 hr4774 a hS => ?_)
                  obtain rfl := hr4774
                  refine wl rfl (ky (v := .int .i64 e4771) hS (y_loadc (k := 0) hS ty3 0 rfl rfl (fun _ h => h.elim) (us := [.int .i64 e4771]) rfl rfl (fun _ => rfl)) rfl rfl fun a hS => ?_)
                  refine wl rfl (ky (v := .pointer (some ⟨b2224, 0 + 6, none⟩)) hS (y_fld hS rfl fl54_5) rfl rfl fun a hS => ?_)
                  refine wl rfl (k_store hS rfl rfl (us := [.int .i64 e4771]) rfl ty3 0 rfl rfl rfl (oc rfl on) fun w hk hS => ?_)
                  refine wpList_nil ?_
                  try simp only [Exit.then, Exit.inBlock, ↓reduceIte, Nat.reduceEqDiff]
                  exact ⟨u2221.1.Key.Kind, u2221.1.Key.Text, u2221.1.Reads, u2221.1.Changed, u2221.1.Verified, e4771, u2221.1.Dirty, vz2222_3, clz2222_4, (hS.meet [2, 4, 1, 0] (by decide) ⟨rfl, rfl, rfl, rfl, rfl, trivial⟩ ⟨rfl, rfl, rfl, rfl, trivial⟩ ⟨⟨8, rfl⟩, ⟨6, rfl⟩, ⟨4, rfl⟩, ⟨10, rfl⟩, trivial⟩), hM⟩
                · replace hM := cf hb4766 hM
                  refine c_f hS rfl hb4766 ?_
                  refine wp_seq_k fun K640 hK640 => ?_
                  refine r_list ?_
                  refine wl rfl (ky (v := .bool ((u4753 : Int) == 4)) hS (y_int hS rfl rfl rfl) rfl rfl fun a hS => ?_)
                  refine wl rfl (ky (v := .bool ((u4753 : Int) == 4)) hS (y_assign hS rfl) rfl rfl fun a hS => ?_)
                  refine wpList_nil ?_
                  try simp only [Exit.then, Exit.inBlock, ↓reduceIte, Nat.reduceEqDiff]
                  refine hK640 _ _ ?_
                  rcases bool2 ((u4753 : Int) == 4) with hb4777 | hb4777
                  · replace hM := ct hb4777 hM
                    refine c_t hS rfl hb4777 ?_
                    refine r_list ?_
                    refine wl rfl (ky (v := .pointer (some ⟨b2224, 0 + 7, none⟩)) hS (y_fld hS rfl fl54_6) rfl rfl fun a hS => ?_)
                    refine wl rfl (k_store hS rfl rfl (us := [.bool true]) rfl ty4 0 rfl rfl rfl (oc rfl on) fun w hk hS => ?_)
                    refine wpList_nil ?_
                    try simp only [Exit.then, Exit.inBlock, ↓reduceIte, Nat.reduceEqDiff]
                    exact ⟨u2221.1.Key.Kind, u2221.1.Key.Text, u2221.1.Reads, u2221.1.Changed, u2221.1.Verified, u2221.1.Cost, true, vz2222_3, clz2222_4, (hS.meet [2, 4, 1, 0] (by decide) ⟨rfl, rfl, rfl, rfl, rfl, trivial⟩ ⟨rfl, rfl, rfl, rfl, trivial⟩ ⟨⟨5, rfl⟩, ⟨3, rfl⟩, ⟨1, rfl⟩, ⟨7, rfl⟩, trivial⟩), hM⟩
                  · replace hM := cf hb4777 hM
                    refine c_f hS rfl hb4777 ?_
                    refine wp_seq_k fun K641 hK641 => ?_
                    refine r_list ?_
                    refine wl rfl (ky (v := .bool ((u4753 : Int) == 5)) hS (y_int hS rfl rfl rfl) rfl rfl fun a hS => ?_)
                    refine wl rfl (ky (v := .bool ((u4753 : Int) == 5)) hS (y_assign hS rfl) rfl rfl fun a hS => ?_)
                    refine wpList_nil ?_
                    try simp only [Exit.then, Exit.inBlock, ↓reduceIte, Nat.reduceEqDiff]
                    refine hK641 _ _ ?_
                    rcases bool2 ((u4753 : Int) == 5) with hb4778 | hb4778
                    · replace hM := ct hb4778 hM
                      refine c_t hS rfl hb4778 ?_
                      refine draws [(6, .blk (Value.ownBlock vz2222_3)), (8, .blk (some b2224))] hS mixed rfl (fun c a d v w h => by cases d <;> exact h) fun w hQ hS => ?_
                      refine dy 0 (v := .pointer (some ⟨b2224, 0 + 3, none⟩)) rfl (by kernel_rfl) (by kernel_rfl) (by kernel_rfl) rfl hQ hS (y_fld hS rfl fl54_2) rfl rfl rfl fun a hS => ?_
                      refine dy (l := []) 1 (v := vz2222_3) rfl (by kernel_rfl) (by kernel_rfl) (by kernel_rfl) (by kernel_rfl) hQ hS (y_load hS rfl ty22 0 rfl eo_nil (us := [vz2222_3]) rfl rfl (fun _ => rfl)) rfl rfl rfl fun a hS => ?_
                      refine dy 2 (v := .int .i64 by_3) rfl (by kernel_rfl) (by kernel_rfl) (by kernel_rfl) rfl hQ hS (y_move hS rfl) rfl rfl rfl fun a hS => ?_
                      obtain ⟨u4787, hu4787, hM⟩ := bd hM
                      refine wpE_one (i := 3) rfl (by kernel_rfl) rfl (k_call hS ci18 rfl rfl (mill_Mod_c _ _ hS.dlt by_3 36 _ hu4787) fun _ w hR a hk hA => ⟨stN (hk), ?_⟩)
                      have he := Eq.symm hR
                      subst he
                      have hS := hA [] (fun r hr => by cases hr) List.Pairwise.nil
                      refine dy 4 (v := .agg #[.int .i64 u4787, .string (ByteArray.mk #[120])]) rfl (by kernel_rfl) (by kernel_rfl) (by kernel_rfl) rfl hQ hS (y_build (ps := [(0, .tmp 106), (1, .const (.string ⟨#[120]⟩))]) hS pl28 ze28 rfl (us := [[.int .i64 u4787], [.string (ByteArray.mk #[120])]]) ⟨rfl, ⟨rfl, trivial⟩⟩ (ws := [.int .i64 u4787, .string (ByteArray.mk #[120])]) rfl) rfl rfl rfl fun a hS => ?_
                      refine wpE_one (i := 5) rfl (by kernel_rfl) rfl (k_bslice (ps := [(0, .tmp 107)]) hS el22 ze28 (zl := [.int .i64 0, .string (ByteArray.mk #[])]) (by kernel_rfl) rfl (us := [[.int .i64 u4787, .string (ByteArray.mk #[120])]]) ⟨rfl, trivial⟩ (ws := [.int .i64 u4787, .string (ByteArray.mk #[120])]) rfl rfl rfl rfl fun b4789 a w hk hS => ⟨stN (hk), ?_⟩)
                      replace hS := hS.lit (R := R_KeyD) (us := [.int .i64 u4787, .string (ByteArray.mk #[120])]) (xs := [(KeyD.mk u4787 (ByteArray.mk #[120]))]) 0 rfl (by decide) (RowsOk.one_ (R := R_KeyD) (x := (KeyD.mk u4787 (ByteArray.mk #[120]))) rfl) rfl rfl
                      replace hS := hS.freeze (R := R_KeyD) 0 rfl 0 rfl
                      obtain ⟨hg4791, hM⟩ := gd_some hM
                      refine wpE_one (i := 6) rfl (by kernel_rfl) rfl (k_apps (R := R_KeyD) (xs := u2221.1.Reads) (ys := [(KeyD.mk u4787 (ByteArray.mk #[120]))]) hS el22 (by decide) (by decide) rfl rfl 1 rfl 3 rfl 0 rfl hg4791 rfl fun v4792 cl4793 a w hk hS => ⟨stM rfl hk etOwn, ?_⟩)
                      refine dy 7 (v := .pointer (some ⟨b2224, 0 + 3, none⟩)) rfl (by kernel_rfl) (by kernel_rfl) (by kernel_rfl) rfl hQ hS (y_fld hS rfl fl54_2) rfl rfl rfl fun a hS => ?_
                      refine wpE_one (i := 8) rfl (by kernel_rfl) rfl (k_store hS rfl rfl (us := [v4792]) (cells1 (own_one (hS.own _ (List.mem_of_getElem? (i := 1) rfl)).1)) ty22 0 rfl rfl rfl (oc (own_one (hS.own _ (List.mem_of_getElem? (i := 1) rfl)).1) on) fun w hk hS => ⟨stM rfl hk etBox, ?_⟩)
                      refine wpE_done (by kernel_rfl) ?_ _
                      try simp only [Exit.then, Exit.inBlock, ↓reduceIte, Nat.reduceEqDiff]
                      exact ⟨u2221.1.Key.Kind, u2221.1.Key.Text, (u2221.1.Reads ++ ([(KeyD.mk u4787 (ByteArray.mk #[120]))])), u2221.1.Changed, u2221.1.Verified, u2221.1.Cost, u2221.1.Dirty, v4792, cl4793, (hS.meet [2, 4, 1, 0] (by decide) ⟨rfl, rfl, rfl, rfl, rfl, trivial⟩ ⟨rfl, rfl, rfl, rfl, trivial⟩ ⟨⟨8, rfl⟩, ⟨6, rfl⟩, ⟨0, rfl⟩, ⟨10, rfl⟩, trivial⟩), hM⟩
                    · replace hM := cf hb4778 hM
                      refine c_f hS rfl hb4778 ?_
                      refine wp_seq_k fun K642 hK642 => ?_
                      refine r_list ?_
                      refine wl rfl (ky (v := .bool ((u4753 : Int) == 6)) hS (y_int hS rfl rfl rfl) rfl rfl fun a hS => ?_)
                      refine wl rfl (ky (v := .bool ((u4753 : Int) == 6)) hS (y_assign hS rfl) rfl rfl fun a hS => ?_)
                      refine wpList_nil ?_
                      try simp only [Exit.then, Exit.inBlock, ↓reduceIte, Nat.reduceEqDiff]
                      refine hK642 _ _ ?_
                      rcases bool2 ((u4753 : Int) == 6) with hb4795 | hb4795
                      · replace hM := ct hb4795 hM
                        refine c_t hS rfl hb4795 ?_
                        refine r_list ?_
                        refine wl rfl (ky (v := .int .i64 by_3) hS (y_move hS rfl) rfl rfl fun a hS => ?_)
                        obtain ⟨u4796, hu4796, hM⟩ := bd hM
                        refine wl rfl (k_call hS ci18 rfl rfl (mill_Mod_c _ _ hS.dlt by_3 2 _ hu4796) fun _ w hR a hk hA => ?_)
                        have he := Eq.symm hR
                        subst he
                        have hS := hA [] (fun r hr => by cases hr) List.Pairwise.nil
                        refine wl rfl (ky (v := .int .i64 (IntKind.i64.wrap (0 - u4796))) hS (y_neg hS rfl) rfl rfl fun a hS => ?_)
                        refine wl rfl (ky (v := .pointer (some ⟨b2224, 0 + 4, none⟩)) hS (y_fld hS rfl fl54_3) rfl rfl fun a hS => ?_)
                        refine wl rfl (k_store hS rfl rfl (us := [.int .i64 (IntKind.i64.wrap (0 - u4796))]) rfl ty3 0 rfl rfl rfl (oc rfl on) fun w hk hS => ?_)
                        refine wpList_nil ?_
                        try simp only [Exit.then, Exit.inBlock, ↓reduceIte, Nat.reduceEqDiff]
                        exact ⟨u2221.1.Key.Kind, u2221.1.Key.Text, u2221.1.Reads, (IntKind.i64.wrap (0 - u4796)), u2221.1.Verified, u2221.1.Cost, u2221.1.Dirty, vz2222_3, clz2222_4, (hS.meet [2, 4, 1, 0] (by decide) ⟨rfl, rfl, rfl, rfl, rfl, trivial⟩ ⟨rfl, rfl, rfl, rfl, trivial⟩ ⟨⟨5, rfl⟩, ⟨3, rfl⟩, ⟨1, rfl⟩, ⟨7, rfl⟩, trivial⟩), hM⟩
                      · replace hM := cf hb4795 hM
                        refine c_f hS rfl hb4795 ?_
                        refine wp_skip ?_
                        try simp only [Exit.then, Exit.inBlock, ↓reduceIte, Nat.reduceEqDiff]
                        exact ⟨u2221.1.Key.Kind, u2221.1.Key.Text, u2221.1.Reads, u2221.1.Changed, u2221.1.Verified, u2221.1.Cost, u2221.1.Dirty, vz2222_3, clz2222_4, (hS.meet [2, 4, 1, 0] (by decide) ⟨rfl, rfl, rfl, rfl, rfl, trivial⟩ ⟨rfl, rfl, rfl, rfl, trivial⟩ ⟨⟨5, rfl⟩, ⟨3, rfl⟩, ⟨1, rfl⟩, ⟨7, rfl⟩, trivial⟩), hM⟩
        · rintro a w ⟨r2272, r2273, r2274, r2278, r2279, r2280, r2281, v2275, cl2276, hS, hM⟩
          unfold law26_RecordValid_j8 at hM
          refine seq_j (J := fun a w => ∃ (m2324 : (List RecordD)) (v2325 : Value) (cl2326 : (List Value)), St W0 No T 203 [(0, v1), (3, .int .i64 by_3), (9, .pointer (some ⟨b2154, 0, none⟩)), (14, vz2219_3), (15, .pointer (some ⟨b2224, 0, none⟩)), (16, v2325)] [.own v2325 54 R_RecordD.size cl2326, .box b2154 [.int .i64 k_4.Kind, .string k_4.Text] 28, .box b2224 [.int .i64 r2272, .string r2273, .string u2221.1.Value, v2275, .int .i64 r2278, .int .i64 r2279, .int .i64 r2280, .bool r2281] 54] [SlF R_RecordD v1 raw_, SlF R_RecordD vz2219_3 u2218.1, RowsF R_RecordD cl2326 m2324, SlF R_KeyD v2275 r2274, LvF] a w ∧ law26_RecordValid_j7 raw_ by_3 k_4 u2218 r2272 r2273 m2324 = some y) ?_ ?_
          · skip
            replace hS := hS.nilRow R_RecordD 54 (by decide)
            refine draws [(1, .blk (Value.ownBlock (.slice none 0 0))), (4, .any)] hS mixed rfl (fun c a d v w h => by cases d <;> exact h) fun w hQ hS => ?_
            refine dy 0 (v := vz2219_3) rfl (by kernel_rfl) (by kernel_rfl) (by kernel_rfl) rfl hQ hS (y_move hS rfl) rfl rfl rfl fun a hS => ?_
            refine dy (l := [.blk (Value.ownBlock (.slice none 0 0))]) 2 (v := .agg #[.int .i64 r2272, .string r2273, .string u2221.1.Value, v2275, .int .i64 r2278, .int .i64 r2279, .int .i64 r2280, .bool r2281]) rfl (by kernel_rfl) (by kernel_rfl) (by kernel_rfl) (by kernel_rfl) hQ hS (y_load hS rfl ty54 4 rfl (eo_ne hS 4 rfl rfl 0 rfl rfl (by decide) eo_nil) (us := [.int .i64 r2272, .string r2273, .string u2221.1.Value, v2275, .int .i64 r2278, .int .i64 r2279, .int .i64 r2280, .bool r2281]) rfl rfl (fun h => by cases h)) rfl rfl rfl fun a hS => ?_
            obtain ⟨hg4743, hM⟩ := gd_some hM
            refine wpE_two (i := 1) (j := 3) rfl rfl (by kernel_rfl) rfl rfl ?_ ?_
            · skip
              skip
              replace hS := hS.freeze (R := R_RecordD) 1 rfl 2 rfl
              refine id (k_apps (R := R_RecordD) (xs := ([] : List RecordD)) (ys := u2218.1) hS el51 (by decide) (by decide) rfl rfl 0 rfl 1 rfl 0 rfl hg4743 rfl fun v4744 cl4745 a w hk hS => ⟨stM rfl hk etOwn, ?_⟩)
              refine wpE_one (i := 3) rfl (by kernel_rfl) rfl (k_bslice (ps := [(0, .tmp 119)]) hS el51 ze54 (zl := [.int .i64 0, .string (ByteArray.mk #[]), .string (ByteArray.mk #[]), .slice none 0 0, .int .i64 0, .int .i64 0, .int .i64 0, .bool false]) (by kernel_rfl) rfl (us := [[.int .i64 r2272, .string r2273, .string u2221.1.Value, v2275, .int .i64 r2278, .int .i64 r2279, .int .i64 r2280, .bool r2281]]) ⟨rfl, trivial⟩ (ws := [.int .i64 r2272, .string r2273, .string u2221.1.Value, v2275, .int .i64 r2278, .int .i64 r2279, .int .i64 r2280, .bool r2281]) rfl rfl rfl rfl fun b4747 a w hk hS => ⟨stN (hk), ?_⟩)
              replace hS := hS.freeze (R := R_KeyD) 3 rfl 5 rfl
              replace hS := hS.lit (R := R_RecordD) (us := [.int .i64 r2272, .string r2273, .string u2221.1.Value, v2275, .int .i64 r2278, .int .i64 r2279, .int .i64 r2280, .bool r2281]) (xs := [(RecordD.mk (KeyD.mk r2272 r2273) u2221.1.Value r2274 r2278 r2279 r2280 r2281)]) 0 rfl (by decide) (RowsOk.one_ (R := R_RecordD) (x := (RecordD.mk (KeyD.mk r2272 r2273) u2221.1.Value r2274 r2278 r2279 r2280 r2281)) (⟨_, rfl, (hS.get 0 rfl)⟩)) rfl rfl
              replace hS := hS.freeze (R := R_RecordD) 0 rfl 0 rfl
              obtain ⟨hg4749, hM⟩ := gd_some hM
              refine wpE_one (i := 4) rfl (by kernel_rfl) rfl (k_apps (R := R_RecordD) (xs := (([] : List RecordD) ++ u2218.1)) (ys := [(RecordD.mk (KeyD.mk r2272 r2273) u2221.1.Value r2274 r2278 r2279 r2280 r2281)]) hS el51 (by decide) (by decide) rfl rfl 0 rfl 3 rfl 0 rfl hg4749 rfl fun v4750 cl4751 a w hk hS => ⟨stM rfl hk etAny, ?_⟩)
              refine dy 5 (v := v4750) rfl (by kernel_rfl) (by kernel_rfl) (by kernel_rfl) rfl hQ hS (y_assign hS rfl) rfl rfl rfl fun a hS => ?_
              refine wpE_done (by kernel_rfl) ?_ _
              try simp only [Exit.then, Exit.inBlock, ↓reduceIte, Nat.reduceEqDiff]
              exact ⟨((([] : List RecordD) ++ u2218.1) ++ ([(RecordD.mk (KeyD.mk r2272 r2273) u2221.1.Value r2274 r2278 r2279 r2280 r2281)])), v4750, cl4751, (hS.meet [0, 1, 2] (by decide) ⟨rfl, rfl, rfl, rfl, rfl, rfl, trivial⟩ ⟨rfl, rfl, rfl, trivial⟩ ⟨⟨7, rfl⟩, ⟨5, rfl⟩, ⟨0, rfl⟩, ⟨3, rfl⟩, ⟨10, rfl⟩, trivial⟩), hM⟩
            · skip
              skip
              refine id (k_bslice (ps := [(0, .tmp 119)]) hS el51 ze54 (zl := [.int .i64 0, .string (ByteArray.mk #[]), .string (ByteArray.mk #[]), .slice none 0 0, .int .i64 0, .int .i64 0, .int .i64 0, .bool false]) (by kernel_rfl) rfl (us := [[.int .i64 r2272, .string r2273, .string u2221.1.Value, v2275, .int .i64 r2278, .int .i64 r2279, .int .i64 r2280, .bool r2281]]) ⟨rfl, trivial⟩ (ws := [.int .i64 r2272, .string r2273, .string u2221.1.Value, v2275, .int .i64 r2278, .int .i64 r2279, .int .i64 r2280, .bool r2281]) rfl rfl rfl rfl fun b4744 a w hk hS => ⟨stN (hk), ?_⟩)
              replace hS := hS.freeze (R := R_RecordD) 2 rfl 2 rfl
              refine wpE_one (i := 1) rfl (by kernel_rfl) rfl (k_apps (R := R_RecordD) (xs := ([] : List RecordD)) (ys := u2218.1) hS el51 (by decide) (by decide) rfl rfl 1 rfl 1 rfl 0 rfl hg4743 rfl fun v4746 cl4747 a w hk hS => ⟨stM rfl hk etOwn, ?_⟩)
              replace hS := hS.freeze (R := R_KeyD) 3 rfl 5 rfl
              replace hS := hS.lit (R := R_RecordD) (us := [.int .i64 r2272, .string r2273, .string u2221.1.Value, v2275, .int .i64 r2278, .int .i64 r2279, .int .i64 r2280, .bool r2281]) (xs := [(RecordD.mk (KeyD.mk r2272 r2273) u2221.1.Value r2274 r2278 r2279 r2280 r2281)]) 0 rfl (by decide) (RowsOk.one_ (R := R_RecordD) (x := (RecordD.mk (KeyD.mk r2272 r2273) u2221.1.Value r2274 r2278 r2279 r2280 r2281)) (⟨_, rfl, (hS.get 0 rfl)⟩)) rfl rfl
              replace hS := hS.freeze (R := R_RecordD) 0 rfl 0 rfl
              obtain ⟨hg4749, hM⟩ := gd_some hM
              refine wpE_one (i := 4) rfl (by kernel_rfl) rfl (k_apps (R := R_RecordD) (xs := (([] : List RecordD) ++ u2218.1)) (ys := [(RecordD.mk (KeyD.mk r2272 r2273) u2221.1.Value r2274 r2278 r2279 r2280 r2281)]) hS el51 (by decide) (by decide) rfl rfl 0 rfl 3 rfl 0 rfl hg4749 rfl fun v4750 cl4751 a w hk hS => ⟨stM rfl hk etAny, ?_⟩)
              refine dy 5 (v := v4750) rfl (by kernel_rfl) (by kernel_rfl) (by kernel_rfl) rfl hQ hS (y_assign hS rfl) rfl rfl rfl fun a hS => ?_
              refine wpE_done (by kernel_rfl) ?_ _
              try simp only [Exit.then, Exit.inBlock, ↓reduceIte, Nat.reduceEqDiff]
              exact ⟨((([] : List RecordD) ++ u2218.1) ++ ([(RecordD.mk (KeyD.mk r2272 r2273) u2221.1.Value r2274 r2278 r2279 r2280 r2281)])), v4750, cl4751, (hS.meet [0, 1, 2] (by decide) ⟨rfl, rfl, rfl, rfl, rfl, rfl, trivial⟩ ⟨rfl, rfl, rfl, trivial⟩ ⟨⟨7, rfl⟩, ⟨5, rfl⟩, ⟨0, rfl⟩, ⟨3, rfl⟩, ⟨10, rfl⟩, trivial⟩), hM⟩
          · rintro a w ⟨m2324, v2325, cl2326, hS, hM⟩
            unfold law26_RecordValid_j7 at hM
            refine seq_j (J := fun a w => St W0 No T 203 [(0, v1), (3, .int .i64 by_3), (9, .pointer (some ⟨b2154, 0, none⟩)), (14, vz2219_3), (15, .pointer (some ⟨b2224, 0, none⟩)), (16, v2325)] [.box b2154 [.int .i64 k_4.Kind, .string k_4.Text] 28, .box b2224 [.int .i64 r2272, .string r2273, .string u2221.1.Value, v2275, .int .i64 r2278, .int .i64 r2279, .int .i64 r2280, .bool r2281] 54] [SlF R_RecordD v1 raw_, SlF R_RecordD vz2219_3 u2218.1, SlF R_RecordD v2325 m2324, SlF R_KeyD v2275 r2274, LvF] a w ∧ law26_RecordValid_j5 raw_ by_3 k_4 u2218 r2272 r2273 m2324 = some y) ?_ ?_
            · skip
              refine wp_seq_k fun K613 hK613 => ?_
              refine r_list ?_
              refine wl rfl (ky (v := v2325) hS (y_move hS rfl) rfl rfl fun a hS => ?_)
              refine wl rfl (ky (v := v1) hS (y_move hS rfl) rfl rfl fun a hS => ?_)
              obtain ⟨hg4582, hM⟩ := gd_some hM
              refine wl rfl (k_appskeep (R := R_RecordD) (xs := m2324) (ys := raw_) hS el51 (by decide) (by decide) rfl rfl 0 rfl 2 rfl 0 rfl hg4582 rfl fun v4583 cl4584 a w hk hS => ?_)
              refine wl rfl (ky (v := .int .i64 ((m2324 ++ raw_).length : Int)) hS (y_len (R := R_RecordD) (xs := (m2324 ++ raw_)) hS sl51 rfl 1 rfl) rfl rfl fun a hS => ?_)
              refine wl rfl (ky (v := .int .i64 0) hS (y_move hS rfl) rfl rfl fun a hS => ?_)
              refine wpList_nil ?_
              try simp only [Exit.then, Exit.inBlock, ↓reduceIte, Nat.reduceEqDiff]
              refine hK613 _ _ ?_
              refine wp_block ?_
              obtain ⟨r1, hl1, hMo1⟩ := bd hM
              refine wp_lp (fun s : Int => law26_RecordValid_l6 raw_ m2324 s) (fun s a w => ∃ (g4634 : Int), g4634 = s ∧ St W0 No T 203 [(0, v1), (3, .int .i64 by_3), (9, .pointer (some ⟨b2154, 0, none⟩)), (14, vz2219_3), (15, .pointer (some ⟨b2224, 0, none⟩)), (16, v2325), (124, v4583), (125, .int .i64 ((m2324 ++ raw_).length : Int)), (126, .int .i64 g4634)] [.box b2154 [.int .i64 k_4.Kind, .string k_4.Text] 28, .box b2224 [.int .i64 r2272, .string r2273, .string u2221.1.Value, v2275, .int .i64 r2278, .int .i64 r2279, .int .i64 r2280, .bool r2281] 54] [SlF R_RecordD v1 raw_, SlF R_RecordD vz2219_3 u2218.1, SlF R_RecordD v2325 m2324, SlF R_RecordD v4583 (m2324 ++ raw_), SlF R_KeyD v2275 r2274, LvF] a w) hl1 ⟨0, rfl, (hS.meet [0, 1] (by decide) ⟨rfl, rfl, rfl, rfl, rfl, rfl, rfl, rfl, rfl, trivial⟩ ⟨rfl, rfl, trivial⟩ ⟨⟨3, rfl⟩, ⟨4, rfl⟩, ⟨0, rfl⟩, ⟨1, rfl⟩, ⟨6, rfl⟩, ⟨7, rfl⟩, trivial⟩)⟩ ?_
              rintro s a w f1 ⟨g4634, rfl, hS⟩ hM hf1
              have hM : law26_RecordValid_l6 raw_ m2324 g4634 = some f1 := hM
              unfold law26_RecordValid_l6 at hM
              refine wp_seq_k fun K628 hK628 => ?_
              refine r_list ?_
              refine wl rfl (ky (v := .bool (decide ((g4634 : Int) < ((m2324 ++ raw_).length : Int)))) hS (y_int hS rfl rfl rfl) rfl rfl fun a hS => ?_)
              refine wpList_nil ?_
              try simp only [Exit.then, Exit.inBlock, ↓reduceIte, Nat.reduceEqDiff]
              refine hK628 _ _ ?_
              refine wp_seq_k fun K629 hK629 => ?_
              rcases bool2 (decide ((g4634 : Int) < ((m2324 ++ raw_).length : Int))) with hb4684 | hb4684
              · replace hM := ct hb4684 hM
                refine c_t hS rfl hb4684 ?_
                refine wp_skip ?_
                try simp only [Exit.then, Exit.inBlock, ↓reduceIte, Nat.reduceEqDiff]
                refine hK629 _ _ ?_
                refine wp_seq_k fun K630 hK630 => ?_
                refine wp_block ?_
                refine wp_seq_k fun K631 hK631 => ?_
                refine r_list ?_
                obtain ⟨e4685, he4685, hM⟩ := bd hM
                refine wl rfl (k_index (R := R_RecordD) hS sl51 ty54 rfl rfl 3 rfl he4685 rfl fun b4687 o4688 cs4690 hr4689 a hS => ?_)
                obtain ⟨v4686, rfl, hv4686⟩ := hr4689
                replace hS := hS.fact (SlF R_KeyD v4686 e4685.Reads) hv4686
                refine wl rfl (ky (v := .agg #[.int .i64 e4685.Key.Kind, .string e4685.Key.Text, .string e4685.Value, v4686, .int .i64 e4685.Changed, .int .i64 e4685.Verified, .int .i64 e4685.Cost, .bool e4685.Dirty]) hS (y_loadc (k := 0) hS ty54 1 rfl rfl (fun _ h => h.elim) (us := [.int .i64 e4685.Key.Kind, .string e4685.Key.Text, .string e4685.Value, v4686, .int .i64 e4685.Changed, .int .i64 e4685.Verified, .int .i64 e4685.Cost, .bool e4685.Dirty]) rfl rfl (fun h => by cases h)) rfl rfl fun a hS => ?_)
                refine wl rfl (k_alloc hS ze54 rfl fun b4692 hnb4694 a w hk hS => ?_)
                refine wl rfl (k_store hS rfl rfl (us := [.int .i64 e4685.Key.Kind, .string e4685.Key.Text, .string e4685.Value, v4686, .int .i64 e4685.Changed, .int .i64 e4685.Verified, .int .i64 e4685.Cost, .bool e4685.Dirty]) rfl ty54 0 rfl rfl rfl (oc rfl (oc rfl (oc rfl (oc (SlR.one ((hS.get 0 rfl) : SlR R_KeyD _ _ _ _)) (oc rfl (oc rfl (oc rfl (oc rfl on)))))))) fun w hk hS => ?_)
                refine wpList_nil ?_
                try simp only [Exit.then, Exit.inBlock, ↓reduceIte, Nat.reduceEqDiff]
                refine hK631 _ _ ?_
                refine wp_seq_k fun K632 hK632 => ?_
                refine draws [] hS mixed rfl (fun c a d v w h => by cases d <;> exact h) fun w hQ hS => ?_
                refine dy (l := []) 0 (v := .agg #[.int .i64 e4685.Key.Kind, .string e4685.Key.Text, .string e4685.Value, v4686, .int .i64 e4685.Changed, .int .i64 e4685.Verified, .int .i64 e4685.Cost, .bool e4685.Dirty]) rfl (by kernel_rfl) (by kernel_rfl) (by kernel_rfl) (by kernel_rfl) hQ hS (y_load hS rfl ty54 0 rfl eo_nil (us := [.int .i64 e4685.Key.Kind, .string e4685.Key.Text, .string e4685.Value, v4686, .int .i64 e4685.Changed, .int .i64 e4685.Verified, .int .i64 e4685.Cost, .bool e4685.Dirty]) rfl rfl (fun h => by cases h)) rfl rfl rfl fun a hS => ?_
                refine dy (l := []) 2 (v := .agg #[.int .i64 e4685.Key.Kind, .string e4685.Key.Text, .string e4685.Value, v4686, .int .i64 e4685.Changed, .int .i64 e4685.Verified, .int .i64 e4685.Cost, .bool e4685.Dirty]) rfl (by kernel_rfl) (by kernel_rfl) (by kernel_rfl) (by kernel_rfl) hQ hS (y_load hS rfl ty54 0 rfl eo_nil (us := [.int .i64 e4685.Key.Kind, .string e4685.Key.Text, .string e4685.Value, v4686, .int .i64 e4685.Changed, .int .i64 e4685.Verified, .int .i64 e4685.Cost, .bool e4685.Dirty]) rfl rfl (fun h => by cases h)) rfl rfl rfl fun a hS => ?_
                obtain ⟨u4722, hu4722, hM⟩ := bd hM
                refine wpE_one (i := 1) rfl (by kernel_rfl) rfl (k_call hS ci48 rfl rfl (record_Valid_c _ _ hS.dlt (hS.get 7 rfl) e4685 _ (hS.get 0 rfl) _ hu4722) fun _ w hR a hk hA => ⟨stN (hk), ?_⟩)
                have he := Eq.symm hR
                subst he
                have hS := hA [] (fun r hr => by cases hr) List.Pairwise.nil
                obtain ⟨u4724, hu4724, hM⟩ := bd hM
                refine wpE_one (i := 3) rfl (by kernel_rfl) rfl (k_call hS ci49 rfl rfl (ref26_Valid_c _ _ hS.dlt e4685 _ (hS.get 0 rfl) _ hu4724) fun _ w hR a hk hA => ⟨stN (hk), ?_⟩)
                have he := Eq.symm hR
                subst he
                have hS := hA [] (fun r hr => by cases hr) List.Pairwise.nil
                refine dy 4 (v := .bool (u4722 != u4724)) rfl (by kernel_rfl) (by kernel_rfl) (by kernel_rfl) rfl hQ hS (y_bool hS rfl rfl Tryd.underlying4 (.inr ⟨rfl, rfl⟩)) rfl rfl rfl fun a hS => ?_
                refine dy 5 (v := .bool (u4722 != u4724)) rfl (by kernel_rfl) (by kernel_rfl) (by kernel_rfl) rfl hQ hS (y_move hS rfl) rfl rfl rfl fun a hS => ?_
                rcases bool2 (u4722 != u4724) with hb4726 | hb4726
                · replace hM := ct hb4726 hM
                  refine dyn 6 rfl (by kernel_rfl) (by kernel_rfl) (by kernel_rfl) hQ hS rfl rfl rfl hb4726 rfl rfl fun a hS => ?_
                  refine dyn 7 rfl (by kernel_rfl) (by kernel_rfl) (by kernel_rfl) hQ hS rfl rfl rfl hb4726 rfl rfl fun a hS => ?_
                  refine dyn 8 rfl (by kernel_rfl) (by kernel_rfl) (by kernel_rfl) hQ hS rfl rfl rfl hb4726 rfl rfl fun a hS => ?_
                  refine dyn 9 rfl (by kernel_rfl) (by kernel_rfl) (by kernel_rfl) hQ hS rfl rfl rfl hb4726 rfl rfl fun a hS => ?_
                  refine dyn 10 rfl (by kernel_rfl) (by kernel_rfl) (by kernel_rfl) hQ hS rfl rfl rfl hb4726 rfl rfl fun a hS => ?_
                  refine dy 11 (v := .bool true) rfl (by kernel_rfl) (by kernel_rfl) (by kernel_rfl) rfl hQ hS (y_pickt hS rfl hb4726 rfl) rfl rfl rfl fun a hS => ?_
                  refine wpE_done (by kernel_rfl) ?_ _
                  try simp only [Exit.then, Exit.inBlock, ↓reduceIte, Nat.reduceEqDiff]
                  refine hK632 _ _ ?_
                  refine c_t hS rfl rfl ?_
                  refine wp_seq_k fun K633 hK633 => ?_
                  refine r_list ?_
                  refine wl rfl (ky (v := .bool false) hS (y_assign hS rfl) rfl rfl fun a hS => ?_)
                  refine wpList_nil ?_
                  try simp only [Exit.then, Exit.inBlock, ↓reduceIte, Nat.reduceEqDiff]
                  refine hK633 _ _ ?_
                  refine wp_ret ?_
                  injection hM with hM
                  subst hM
                  have hr := hf1 _ rfl
                  subst hr
                  replace hMo1 := el_out hMo1
                  have hM := hMo1
                  injection hM with hM
                  subst hM
                  try simp only [Exit.then, Exit.inBlock, ↓reduceIte, Nat.reduceEqDiff]
                  refine ret_ok hS Tryd.results10 (res_tmp hS rfl res_nil) ?_
                  exact rfl
                · replace hM := cf hb4726 hM
                  refine dyg (l := []) 6 (v := .agg #[.int .i64 e4685.Key.Kind, .string e4685.Key.Text, .string e4685.Value, v4686, .int .i64 e4685.Changed, .int .i64 e4685.Verified, .int .i64 e4685.Cost, .bool e4685.Dirty]) rfl (by kernel_rfl) (by kernel_rfl) (by kernel_rfl) (by kernel_rfl) hQ hS (y_load hS rfl ty54 0 rfl eo_nil (us := [.int .i64 e4685.Key.Kind, .string e4685.Key.Text, .string e4685.Value, v4686, .int .i64 e4685.Changed, .int .i64 e4685.Verified, .int .i64 e4685.Cost, .bool e4685.Dirty]) rfl rfl (fun h => by cases h)) rfl rfl rfl hb4726 rfl rfl fun a hS => ?_
                  refine dyg (l := []) 8 (v := .agg #[.int .i64 e4685.Key.Kind, .string e4685.Key.Text, .string e4685.Value, v4686, .int .i64 e4685.Changed, .int .i64 e4685.Verified, .int .i64 e4685.Cost, .bool e4685.Dirty]) rfl (by kernel_rfl) (by kernel_rfl) (by kernel_rfl) (by kernel_rfl) hQ hS (y_load hS rfl ty54 0 rfl eo_nil (us := [.int .i64 e4685.Key.Kind, .string e4685.Key.Text, .string e4685.Value, v4686, .int .i64 e4685.Changed, .int .i64 e4685.Verified, .int .i64 e4685.Cost, .bool e4685.Dirty]) rfl rfl (fun h => by cases h)) rfl rfl rfl hb4726 rfl rfl fun a hS => ?_
                  obtain ⟨u4727, hu4727, hM⟩ := bd hM
                  refine wpE_oneg (i := 7) rfl (by kernel_rfl) hS rfl rfl rfl hb4726 (k_call hS ci47 rfl rfl (record_Size_c _ _ hS.dlt e4685 _ (hS.get 0 rfl) _ hu4727) fun _ w hR a hk hA => ⟨stN (hk), ?_⟩)
                  have he := Eq.symm hR
                  subst he
                  have hS := hA [] (fun r hr => by cases hr) List.Pairwise.nil
                  obtain ⟨u4729, hu4729, hM⟩ := bd hM
                  refine wpE_oneg (i := 9) rfl (by kernel_rfl) hS rfl rfl rfl hb4726 (k_call hS ci50 rfl rfl (ref26_Size_c _ _ hS.dlt e4685 _ (hS.get 0 rfl) _ hu4729) fun _ w hR a hk hA => ⟨stN (hk), ?_⟩)
                  have he := Eq.symm hR
                  subst he
                  have hS := hA [] (fun r hr => by cases hr) List.Pairwise.nil
                  refine dyg 10 (v := .bool ((u4727 : Int) != u4729)) rfl (by kernel_rfl) (by kernel_rfl) (by kernel_rfl) rfl hQ hS (y_int hS rfl rfl rfl) rfl rfl rfl hb4726 rfl rfl fun a hS => ?_
                  refine dy 11 (v := .bool ((u4727 : Int) != u4729)) rfl (by kernel_rfl) (by kernel_rfl) (by kernel_rfl) rfl hQ hS (y_pickf hS rfl hb4726 rfl) rfl rfl rfl fun a hS => ?_
                  refine wpE_done (by kernel_rfl) ?_ _
                  try simp only [Exit.then, Exit.inBlock, ↓reduceIte, Nat.reduceEqDiff]
                  refine hK632 _ _ ?_
                  rcases bool2 ((u4727 : Int) != u4729) with hb4731 | hb4731
                  · replace hM := ct hb4731 hM
                    refine c_t hS rfl hb4731 ?_
                    refine wp_seq_k fun K634 hK634 => ?_
                    refine r_list ?_
                    refine wl rfl (ky (v := .bool false) hS (y_assign hS rfl) rfl rfl fun a hS => ?_)
                    refine wpList_nil ?_
                    try simp only [Exit.then, Exit.inBlock, ↓reduceIte, Nat.reduceEqDiff]
                    refine hK634 _ _ ?_
                    refine wp_ret ?_
                    injection hM with hM
                    subst hM
                    have hr := hf1 _ rfl
                    subst hr
                    replace hMo1 := el_out hMo1
                    have hM := hMo1
                    injection hM with hM
                    subst hM
                    try simp only [Exit.then, Exit.inBlock, ↓reduceIte, Nat.reduceEqDiff]
                    refine ret_ok hS Tryd.results10 (res_tmp hS rfl res_nil) ?_
                    exact rfl
                  · replace hM := cf hb4731 hM
                    refine c_f hS rfl hb4731 ?_
                    refine wp_skip ?_
                    try simp only [Exit.then, Exit.inBlock, ↓reduceIte, Nat.reduceEqDiff]
                    refine hK630 _ _ ?_
                    refine r_list ?_
                    refine wl rfl (ky (v := .int .i64 (IntKind.i64.wrap (g4634 + 1))) hS (y_int hS rfl rfl rfl) rfl rfl fun a hS => ?_)
                    refine wl rfl (ky (v := .int .i64 (IntKind.i64.wrap (g4634 + 1))) hS (y_move hS rfl) rfl rfl fun a hS => ?_)
                    refine wpList_nil ?_
                    try simp only [Exit.then, Exit.inBlock, ↓reduceIte, Nat.reduceEqDiff]
                    exact ⟨IntKind.i64.wrap (g4634 + 1), (Option.some.inj hM).symm, (IntKind.i64.wrap (g4634 + 1)), rfl, (hS.meet [1, 2] (by decide) ⟨rfl, rfl, rfl, rfl, rfl, rfl, rfl, rfl, rfl, trivial⟩ ⟨rfl, rfl, trivial⟩ ⟨⟨2, rfl⟩, ⟨3, rfl⟩, ⟨4, rfl⟩, ⟨5, rfl⟩, ⟨6, rfl⟩, ⟨7, rfl⟩, trivial⟩)⟩
              · replace hM := cf hb4684 hM
                refine c_f hS rfl hb4684 ?_
                refine wp_exit ?_
                try simp only [Exit.then, Exit.inBlock, ↓reduceIte, Nat.reduceEqDiff]
                injection hM with hM
                subst hM
                have hr := hf1 _ rfl
                subst hr
                replace hMo1 := el_go hMo1
                have hM : law26_RecordValid_j5 raw_ by_3 k_4 u2218 r2272 r2273 m2324 = some y := hMo1
                exact ⟨(hS.meet [0, 1] (by decide) ⟨rfl, rfl, rfl, rfl, rfl, rfl, trivial⟩ ⟨rfl, rfl, trivial⟩ ⟨⟨0, rfl⟩, ⟨1, rfl⟩, ⟨2, rfl⟩, ⟨4, rfl⟩, ⟨5, rfl⟩, trivial⟩), hM⟩
            · rintro a w ⟨hS, hM⟩
              unfold law26_RecordValid_j5 at hM
              refine seq_j (J := fun a w => St W0 No T 203 [] [] [LvF] a w ∧ law26_RecordValid_j1 = some y) ?_ ?_
              · skip
                refine wp_seq_k fun K446 hK446 => ?_
                refine r_list ?_
                refine wl rfl (ky (v := vz2219_3) hS (y_move hS rfl) rfl rfl fun a hS => ?_)
                refine wl rfl (ky (v := v2325) hS (y_move hS rfl) rfl rfl fun a hS => ?_)
                refine wl rfl (ky (v := v1) hS (y_move hS rfl) rfl rfl fun a hS => ?_)
                refine wl rfl (k_bslice (ps := [(0, .tmp 143), (1, .tmp 144), (2, .tmp 145)]) hS el70 ze51 (zl := [.slice none 0 0, .slice none 0 0, .slice none 0 0]) (by kernel_rfl) rfl (us := [[vz2219_3], [v2325], [v1]]) ⟨(cells1 (SlR.one ((hS.get 1 rfl) : SlR R_RecordD _ _ _ _))), ⟨(cells1 (SlR.one ((hS.get 2 rfl) : SlR R_RecordD _ _ _ _))), ⟨(cells1 (SlR.one ((hS.get 0 rfl) : SlR R_RecordD _ _ _ _))), trivial⟩⟩⟩ (ws := [vz2219_3, v2325, v1]) rfl rfl rfl rfl fun b3267 a w hk hS => ?_)
                replace hS := hS.lit (R := (Rep.slice R_RecordD)) (us := [vz2219_3, v2325, v1]) (xs := [u2218.1, m2324, raw_]) 0 rfl (by decide) ((RowsOk.one_ (R := (Rep.slice R_RecordD)) (x := u2218.1) (⟨_, rfl, (hS.get 1 rfl)⟩)).append ((RowsOk.one_ (R := (Rep.slice R_RecordD)) (x := m2324) (⟨_, rfl, (hS.get 2 rfl)⟩)).append (RowsOk.one_ (R := (Rep.slice R_RecordD)) (x := raw_) (⟨_, rfl, (hS.get 0 rfl)⟩)))) rfl rfl
                refine wl rfl (ky (v := .int .i64 (([u2218.1, m2324, raw_]).length : Int)) hS (y_leno (R := (Rep.slice R_RecordD)) (xs := [u2218.1, m2324, raw_]) hS sl70 rfl 0 rfl 0 rfl) rfl rfl fun a hS => ?_)
                refine wl rfl (ky (v := .int .i64 0) hS (y_move hS rfl) rfl rfl fun a hS => ?_)
                refine wpList_nil ?_
                try simp only [Exit.then, Exit.inBlock, ↓reduceIte, Nat.reduceEqDiff]
                refine hK446 _ _ ?_
                refine wp_block ?_
                obtain ⟨r1, hl1, hMo1⟩ := bd hM
                refine wp_lp (fun s : (List (List RecordD)) × Int => law26_RecordValid_l4 raw_ by_3 k_4 u2218 r2272 r2273 m2324 s.1 s.2) (fun s a w => ∃ (g3685 : (List (List RecordD))) (g3689 : Int) (v3686 : Value) (cl3687 : (List Value)), (g3685, g3689) = s ∧ St W0 No T 203 [(3, .int .i64 by_3), (9, .pointer (some ⟨b2154, 0, none⟩)), (15, .pointer (some ⟨b2224, 0, none⟩)), (146, v3686), (147, .int .i64 (([u2218.1, m2324, raw_]).length : Int)), (148, .int .i64 g3689)] [.own v3686 51 (Rep.slice R_RecordD).size cl3687, .box b2154 [.int .i64 k_4.Kind, .string k_4.Text] 28, .box b2224 [.int .i64 r2272, .string r2273, .string u2221.1.Value, v2275, .int .i64 r2278, .int .i64 r2279, .int .i64 r2280, .bool r2281] 54] [RowsF (Rep.slice R_RecordD) cl3687 g3685, SlF R_KeyD v2275 r2274, LvF] a w) hl1 ⟨([u2218.1, m2324, raw_]), 0, (.slice (some ⟨b3267, 0, none⟩) 3 3), ([vz2219_3, v2325, v1]), rfl, (hS.meet [0, 1, 2] (by decide) ⟨rfl, rfl, rfl, rfl, rfl, rfl, trivial⟩ ⟨rfl, rfl, rfl, trivial⟩ ⟨⟨0, rfl⟩, ⟨4, rfl⟩, ⟨5, rfl⟩, trivial⟩)⟩ ?_
                rintro s a w f1 ⟨g3685, g3689, v3686, cl3687, rfl, hS⟩ hM hf1
                have hM : law26_RecordValid_l4 raw_ by_3 k_4 u2218 r2272 r2273 m2324 g3685 g3689 = some f1 := hM
                unfold law26_RecordValid_l4 at hM
                refine wp_seq_k fun K551 hK551 => ?_
                refine r_list ?_
                refine wl rfl (ky (v := .bool (decide ((g3689 : Int) < (([u2218.1, m2324, raw_]).length : Int)))) hS (y_int hS rfl rfl rfl) rfl rfl fun a hS => ?_)
                refine wpList_nil ?_
                try simp only [Exit.then, Exit.inBlock, ↓reduceIte, Nat.reduceEqDiff]
                refine hK551 _ _ ?_
                refine wp_seq_k fun K552 hK552 => ?_
                rcases bool2 (decide ((g3689 : Int) < (([u2218.1, m2324, raw_]).length : Int))) with hb4102 | hb4102
                · replace hM := ct hb4102 hM
                  refine c_t hS rfl hb4102 ?_
                  refine wp_skip ?_
                  try simp only [Exit.then, Exit.inBlock, ↓reduceIte, Nat.reduceEqDiff]
                  refine hK552 _ _ ?_
                  refine seq_j (J := fun a w => St W0 No T 203 [(3, .int .i64 by_3), (9, .pointer (some ⟨b2154, 0, none⟩)), (15, .pointer (some ⟨b2224, 0, none⟩)), (146, v3686), (147, .int .i64 (([u2218.1, m2324, raw_]).length : Int)), (148, .int .i64 g3689)] [.own v3686 51 (Rep.slice R_RecordD).size cl3687, .box b2154 [.int .i64 k_4.Kind, .string k_4.Text] 28, .box b2224 [.int .i64 r2272, .string r2273, .string u2221.1.Value, v2275, .int .i64 r2278, .int .i64 r2279, .int .i64 r2280, .bool r2281] 54] [RowsF (Rep.slice R_RecordD) cl3687 g3685, SlF R_KeyD v2275 r2274, LvF] a w ∧ law26_RecordValid_j2 g3685 g3689 = some f1) ?_ ?_
                  · skip
                    refine wp_block ?_
                    refine wp_seq_k fun K578 hK578 => ?_
                    refine r_list ?_
                    obtain ⟨e4306, he4306, hM⟩ := bd hM
                    refine wl rfl (k_indexo (R := (Rep.slice R_RecordD)) hS sl70 ty51 rfl rfl 0 rfl 0 rfl he4306 rfl fun b4308 o4309 p4314 cs4311 hr4310 hO4312 hC4313 a hS => ?_)
                    obtain ⟨v4307, rfl, hv4307⟩ := hr4310
                    replace hS := hS.fact (SlF R_RecordD v4307 e4306) hv4307
                    refine wl rfl (ky (v := v4307) hS (y_loado (k := 0) hS ty51 0 rfl hO4312 hC4313 rfl id (us := [v4307]) rfl rfl (fun _ => rfl)) rfl rfl fun a hS => ?_)
                    refine wl rfl (ky (v := v4307) hS (y_assign hS rfl) rfl rfl fun a hS => ?_)
                    refine wpList_nil ?_
                    try simp only [Exit.then, Exit.inBlock, ↓reduceIte, Nat.reduceEqDiff]
                    refine hK578 _ _ ?_
                    refine wp_seq_k fun K579 hK579 => ?_
                    refine wp_seq_k fun K580 hK580 => ?_
                    refine r_list ?_
                    refine wl rfl (ky (v := v4307) hS (y_move hS rfl) rfl rfl fun a hS => ?_)
                    obtain ⟨u4315, hu4315, hM⟩ := bd hM
                    refine wl rfl (k_call hS ci43 rfl rfl (record_ValidList_c _ _ hS.dlt (hS.get 3 rfl) e4306 _ (hS.get 0 rfl) _ hu4315) fun _ w hR a hk hA => ?_)
                    have he := Eq.symm hR
                    subst he
                    have hS := hA [] (fun r hr => by cases hr) List.Pairwise.nil
                    refine wl rfl (ky (v := v4307) hS (y_move hS rfl) rfl rfl fun a hS => ?_)
                    obtain ⟨u4317, hu4317, hM⟩ := bd hM
                    refine wl rfl (k_call hS ci51 rfl rfl (ref26_ValidList_c _ _ hS.dlt (hS.get 3 rfl) e4306 _ (hS.get 0 rfl) _ hu4317) fun _ w hR a hk hA => ?_)
                    have he := Eq.symm hR
                    subst he
                    have hS := hA [] (fun r hr => by cases hr) List.Pairwise.nil
                    refine wl rfl (ky (v := .bool (u4315 != u4317)) hS (y_bool hS rfl rfl Tryd.underlying4 (.inr ⟨rfl, rfl⟩)) rfl rfl fun a hS => ?_)
                    refine wpList_nil ?_
                    try simp only [Exit.then, Exit.inBlock, ↓reduceIte, Nat.reduceEqDiff]
                    refine hK580 _ _ ?_
                    rcases bool2 (u4315 != u4317) with hb4319 | hb4319
                    · replace hM := ct hb4319 hM
                      refine c_t hS rfl hb4319 ?_
                      refine wp_seq_k fun K581 hK581 => ?_
                      refine r_list ?_
                      refine wl rfl (ky (v := .bool false) hS (y_assign hS rfl) rfl rfl fun a hS => ?_)
                      refine wpList_nil ?_
                      try simp only [Exit.then, Exit.inBlock, ↓reduceIte, Nat.reduceEqDiff]
                      refine hK581 _ _ ?_
                      refine wp_ret ?_
                      injection hM with hM
                      subst hM
                      have hr := hf1 _ rfl
                      subst hr
                      replace hMo1 := el_out hMo1
                      have hM := hMo1
                      injection hM with hM
                      subst hM
                      try simp only [Exit.then, Exit.inBlock, ↓reduceIte, Nat.reduceEqDiff]
                      refine ret_ok hS Tryd.results10 (res_tmp hS rfl res_nil) ?_
                      exact rfl
                    · replace hM := cf hb4319 hM
                      refine c_f hS rfl hb4319 ?_
                      refine wp_skip ?_
                      try simp only [Exit.then, Exit.inBlock, ↓reduceIte, Nat.reduceEqDiff]
                      refine hK579 _ _ ?_
                      refine wp_seq_k fun K582 hK582 => ?_
                      refine draws [] hS mixed rfl (fun c a d v w h => by cases d <;> exact h) fun w hQ hS => ?_
                      refine dy (l := []) 0 (v := .agg #[.int .i64 k_4.Kind, .string k_4.Text]) rfl (by kernel_rfl) (by kernel_rfl) (by kernel_rfl) (by kernel_rfl) hQ hS (y_load hS rfl ty28 1 rfl eo_nil (us := [.int .i64 k_4.Kind, .string k_4.Text]) rfl rfl (fun h => by cases h)) rfl rfl rfl fun a hS => ?_
                      refine dy 1 (v := .int .i64 by_3) rfl (by kernel_rfl) (by kernel_rfl) (by kernel_rfl) rfl hQ hS (y_move hS rfl) rfl rfl rfl fun a hS => ?_
                      refine dy 4 (v := .pointer (some ⟨b2224, 0 + 0, none⟩)) rfl (by kernel_rfl) (by kernel_rfl) (by kernel_rfl) rfl hQ hS (y_fld hS rfl fl54_0) rfl rfl rfl fun a hS => ?_
                      refine dy (l := []) 5 (v := .agg #[.int .i64 r2272, .string r2273]) rfl (by kernel_rfl) (by kernel_rfl) (by kernel_rfl) (by kernel_rfl) hQ hS (y_load hS rfl ty28 2 rfl eo_nil (us := [.int .i64 r2272, .string r2273]) rfl rfl (fun h => by cases h)) rfl rfl rfl fun a hS => ?_
                      refine dy 8 (v := .int .i64 0) rfl (by kernel_rfl) (by kernel_rfl) (by kernel_rfl) rfl hQ hS (y_move hS rfl) rfl rfl rfl fun a hS => ?_
                      obtain ⟨u4338, hu4338, hM⟩ := bd hM
                      refine wpE_one (i := 2) rfl (by kernel_rfl) rfl (k_call hS ci18 rfl rfl (mill_Mod_c _ _ hS.dlt by_3 4 _ hu4338) fun _ w hR a hk hA => ⟨stN (hk), ?_⟩)
                      have he := Eq.symm hR
                      subst he
                      have hS := hA [] (fun r hr => by cases hr) List.Pairwise.nil
                      obtain ⟨u4340, hu4340, hM⟩ := bd hM
                      refine wpE_one (i := 3) rfl (by kernel_rfl) rfl (k_call hS ci30 rfl rfl (ref23_Cell_c _ _ hS.dlt (hS.get 3 rfl) u4338 _ hu4340) fun _ w hR a hk hA => ⟨stN (hk), ?_⟩)
                      have he := Eq.symm hR
                      subst he
                      have hS := hA [] (fun r hr => by cases hr) List.Pairwise.nil
                      refine wpE_one (i := 6) rfl (by kernel_rfl) rfl (k_bslice (ps := [(0, .tmp 157), (1, .tmp 160), (2, .tmp 162)]) hS el22 ze28 (zl := [.int .i64 0, .string (ByteArray.mk #[]), .int .i64 0, .string (ByteArray.mk #[]), .int .i64 0, .string (ByteArray.mk #[])]) (by kernel_rfl) rfl (us := [[.int .i64 k_4.Kind, .string k_4.Text], [.int .i64 u4340.Kind, .string u4340.Text], [.int .i64 r2272, .string r2273]]) ⟨rfl, ⟨rfl, ⟨rfl, trivial⟩⟩⟩ (ws := [.int .i64 k_4.Kind, .string k_4.Text, .int .i64 u4340.Kind, .string u4340.Text, .int .i64 r2272, .string r2273]) rfl rfl rfl rfl fun b4342 a w hk hS => ⟨stN (hk), ?_⟩)
                      replace hS := hS.lit (R := R_KeyD) (us := [.int .i64 k_4.Kind, .string k_4.Text, .int .i64 u4340.Kind, .string u4340.Text, .int .i64 r2272, .string r2273]) (xs := [k_4, u4340, (KeyD.mk r2272 r2273)]) 0 rfl (by decide) ((RowsOk.one_ (R := R_KeyD) (x := k_4) rfl).append ((RowsOk.one_ (R := R_KeyD) (x := u4340) rfl).append (RowsOk.one_ (R := R_KeyD) (x := (KeyD.mk r2272 r2273)) rfl))) rfl rfl
                      refine dy 7 (v := .int .i64 (([k_4, u4340, (KeyD.mk r2272 r2273)]).length : Int)) rfl (by kernel_rfl) (by kernel_rfl) (by kernel_rfl) rfl hQ hS (y_leno (R := R_KeyD) (xs := [k_4, u4340, (KeyD.mk r2272 r2273)]) hS sl22 rfl 0 rfl 0 rfl) rfl rfl rfl fun a hS => ?_
                      refine wpE_done (by kernel_rfl) ?_ _
                      try simp only [Exit.then, Exit.inBlock, ↓reduceIte, Nat.reduceEqDiff]
                      refine hK582 _ _ ?_
                      refine wp_block ?_
                      obtain ⟨r2, hl2, hMo2⟩ := bd hM
                      refine wp_lp (fun s : (List KeyD) × Int => law26_RecordValid_l3 k_4 r2272 r2273 e4306 u4340 s.1 s.2) (fun s a w => ∃ (g4426 : (List KeyD)) (g4430 : Int) (v4427 : Value) (cl4428 : (List Value)), (g4426, g4430) = s ∧ St W0 No T 203 [(3, .int .i64 by_3), (9, .pointer (some ⟨b2154, 0, none⟩)), (15, .pointer (some ⟨b2224, 0, none⟩)), (20, v4307), (146, v3686), (147, .int .i64 (([u2218.1, m2324, raw_]).length : Int)), (148, .int .i64 g3689), (163, v4427), (164, .int .i64 (([k_4, u4340, (KeyD.mk r2272 r2273)]).length : Int)), (165, .int .i64 g4430)] [.own v3686 51 (Rep.slice R_RecordD).size cl3687, .own v4427 28 R_KeyD.size cl4428, .box b2154 [.int .i64 k_4.Kind, .string k_4.Text] 28, .box b2224 [.int .i64 r2272, .string r2273, .string u2221.1.Value, v2275, .int .i64 r2278, .int .i64 r2279, .int .i64 r2280, .bool r2281] 54] [SlF R_RecordD v4307 e4306, RowsF (Rep.slice R_RecordD) cl3687 g3685, RowsF R_KeyD cl4428 g4426, SlF R_KeyD v2275 r2274, LvF] a w) hl2 ⟨([k_4, u4340, (KeyD.mk r2272 r2273)]), 0, (.slice (some ⟨b4342, 0, none⟩) 3 3), ([.int .i64 k_4.Kind, .string k_4.Text, .int .i64 u4340.Kind, .string u4340.Text, .int .i64 r2272, .string r2273]), rfl, (hS.meet [1, 0, 2, 3] (by decide) ⟨rfl, rfl, rfl, rfl, rfl, rfl, rfl, rfl, rfl, rfl, trivial⟩ ⟨rfl, rfl, rfl, rfl, trivial⟩ ⟨⟨1, rfl⟩, ⟨2, rfl⟩, ⟨0, rfl⟩, ⟨3, rfl⟩, ⟨4, rfl⟩, trivial⟩)⟩ ?_
                      rintro s a w f2 ⟨g4426, g4430, v4427, cl4428, rfl, hS⟩ hM hf2
                      have hM : law26_RecordValid_l3 k_4 r2272 r2273 e4306 u4340 g4426 g4430 = some f2 := hM
                      unfold law26_RecordValid_l3 at hM
                      refine wp_seq_k fun K603 hK603 => ?_
                      refine r_list ?_
                      refine wl rfl (ky (v := .bool (decide ((g4430 : Int) < (([k_4, u4340, (KeyD.mk r2272 r2273)]).length : Int)))) hS (y_int hS rfl rfl rfl) rfl rfl fun a hS => ?_)
                      refine wpList_nil ?_
                      try simp only [Exit.then, Exit.inBlock, ↓reduceIte, Nat.reduceEqDiff]
                      refine hK603 _ _ ?_
                      refine wp_seq_k fun K604 hK604 => ?_
                      rcases bool2 (decide ((g4430 : Int) < (([k_4, u4340, (KeyD.mk r2272 r2273)]).length : Int))) with hb4509 | hb4509
                      · replace hM := ct hb4509 hM
                        refine c_t hS rfl hb4509 ?_
                        refine wp_skip ?_
                        try simp only [Exit.then, Exit.inBlock, ↓reduceIte, Nat.reduceEqDiff]
                        refine hK604 _ _ ?_
                        refine wp_seq_k fun K605 hK605 => ?_
                        refine wp_block ?_
                        refine wp_seq_k fun K606 hK606 => ?_
                        refine r_list ?_
                        obtain ⟨e4510, he4510, hM⟩ := bd hM
                        refine wl rfl (k_indexo (R := R_KeyD) hS sl22 ty28 rfl rfl 1 rfl 2 rfl he4510 rfl fun b4511 o4512 p4517 cs4514 hr4513 hO4515 hC4516 a hS => ?_)
                        obtain rfl := hr4513
                        refine wl rfl (ky (v := .agg #[.int .i64 e4510.Kind, .string e4510.Text]) hS (y_loado (k := 0) hS ty28 1 rfl hO4515 hC4516 rfl id (us := [.int .i64 e4510.Kind, .string e4510.Text]) rfl rfl (fun h => by cases h)) rfl rfl fun a hS => ?_)
                        refine wl rfl (k_alloc hS ze28 rfl fun b4518 hnb4520 a w hk hS => ?_)
                        refine wl rfl (k_store hS rfl rfl (us := [.int .i64 e4510.Kind, .string e4510.Text]) rfl ty28 0 rfl rfl rfl (oc rfl (oc rfl on)) fun w hk hS => ?_)
                        refine wpList_nil ?_
                        try simp only [Exit.then, Exit.inBlock, ↓reduceIte, Nat.reduceEqDiff]
                        refine hK606 _ _ ?_
                        refine wp_seq_k fun K607 hK607 => ?_
                        refine r_list ?_
                        refine wl rfl (ky (v := v4307) hS (y_move hS rfl) rfl rfl fun a hS => ?_)
                        refine wl rfl (ky (v := .agg #[.int .i64 e4510.Kind, .string e4510.Text]) hS (y_load hS rfl ty28 0 rfl id (us := [.int .i64 e4510.Kind, .string e4510.Text]) rfl rfl (fun h => by cases h)) rfl rfl fun a hS => ?_)
                        obtain ⟨u4521, hu4521, hM⟩ := bd hM
                        refine wl rfl (k_call hS ci44 rfl rfl (record_Find_c _ _ hS.dlt (hS.get 4 rfl) e4306 e4510 _ (hS.get 0 rfl) _ hu4521) fun _ w hR a hk hA => ?_)
                        obtain ⟨vz4522_2, clz4522_3, he, ⟨hOvz4522_2, hFvz4522_2, hRvz4522_2⟩⟩ := hR
                        replace he := he.symm
                        subst he
                        have hS := hA [.own vz4522_2 28 R_KeyD.size clz4522_3] (adds1 ⟨hOvz4522_2, by decide⟩ hFvz4522_2) (pw1 _)
                        replace hS := hS.fact (RowsF R_KeyD clz4522_3 u4521.1.Reads) (hRvz4522_2.keep (Kt.refl _ _) (dT_dT _))
                        refine wl rfl (ky (v := .tuple #[.agg #[.int .i64 u4521.1.Key.Kind, .string u4521.1.Key.Text, .string u4521.1.Value, vz4522_2, .int .i64 u4521.1.Changed, .int .i64 u4521.1.Verified, .int .i64 u4521.1.Cost, .bool u4521.1.Dirty], .bool u4521.2]) hS (y_move hS rfl) rfl rfl fun a hS => ?_)
                        refine wl rfl (ky (v := .agg #[.int .i64 u4521.1.Key.Kind, .string u4521.1.Key.Text, .string u4521.1.Value, vz4522_2, .int .i64 u4521.1.Changed, .int .i64 u4521.1.Verified, .int .i64 u4521.1.Cost, .bool u4521.1.Dirty]) hS (y_ex hS rfl rfl) rfl rfl fun a hS => ?_)
                        refine wl rfl (ky (v := .bool u4521.2) hS (y_ex hS rfl rfl) rfl rfl fun a hS => ?_)
                        refine wl rfl (k_alloc hS ze54 rfl fun b4524 hnb4526 a w hk hS => ?_)
                        refine wl rfl (k_store hS rfl rfl (us := [.int .i64 u4521.1.Key.Kind, .string u4521.1.Key.Text, .string u4521.1.Value, vz4522_2, .int .i64 u4521.1.Changed, .int .i64 u4521.1.Verified, .int .i64 u4521.1.Cost, .bool u4521.1.Dirty]) rfl ty54 0 rfl rfl rfl (oc rfl (oc rfl (oc rfl (oc (own_one (hS.own _ (List.mem_of_getElem? (i := 1) rfl)).1) (oc rfl (oc rfl (oc rfl (oc rfl on)))))))) fun w hk hS => ?_)
                        refine wl rfl (ky (v := .bool u4521.2) hS (y_assign hS rfl) rfl rfl fun a hS => ?_)
                        refine wpList_nil ?_
                        try simp only [Exit.then, Exit.inBlock, ↓reduceIte, Nat.reduceEqDiff]
                        refine hK607 _ _ ?_
                        refine wp_seq_k fun K608 hK608 => ?_
                        refine r_list ?_
                        refine wl rfl (ky (v := v4307) hS (y_move hS rfl) rfl rfl fun a hS => ?_)
                        refine wl rfl (ky (v := .agg #[.int .i64 e4510.Kind, .string e4510.Text]) hS (y_load hS rfl ty28 2 rfl id (us := [.int .i64 e4510.Kind, .string e4510.Text]) rfl rfl (fun h => by cases h)) rfl rfl fun a hS => ?_)
                        obtain ⟨u4527, hu4527, hM⟩ := bd hM
                        refine wl rfl (k_call hS ci52 rfl rfl (ref26_Find_c _ _ hS.dlt e4306 e4510 _ (hS.get 1 rfl) _ hu4527) fun _ w hR a hk hA => ?_)
                        obtain ⟨vz4528_2, clz4528_3, he, ⟨hOvz4528_2, hFvz4528_2, hRvz4528_2⟩⟩ := hR
                        replace he := he.symm
                        subst he
                        have hS := hA [.own vz4528_2 28 R_KeyD.size clz4528_3] (adds1 ⟨hOvz4528_2, by decide⟩ hFvz4528_2) (pw1 _)
                        replace hS := hS.fact (RowsF R_KeyD clz4528_3 u4527.1.Reads) (hRvz4528_2.keep (Kt.refl _ _) (dT_dT _))
                        refine wl rfl (ky (v := .tuple #[.agg #[.int .i64 u4527.1.Key.Kind, .string u4527.1.Key.Text, .string u4527.1.Value, vz4528_2, .int .i64 u4527.1.Changed, .int .i64 u4527.1.Verified, .int .i64 u4527.1.Cost, .bool u4527.1.Dirty], .bool u4527.2]) hS (y_move hS rfl) rfl rfl fun a hS => ?_)
                        refine wl rfl (ky (v := .agg #[.int .i64 u4527.1.Key.Kind, .string u4527.1.Key.Text, .string u4527.1.Value, vz4528_2, .int .i64 u4527.1.Changed, .int .i64 u4527.1.Verified, .int .i64 u4527.1.Cost, .bool u4527.1.Dirty]) hS (y_ex hS rfl rfl) rfl rfl fun a hS => ?_)
                        refine wl rfl (ky (v := .bool u4527.2) hS (y_ex hS rfl rfl) rfl rfl fun a hS => ?_)
                        refine wl rfl (k_alloc hS ze54 rfl fun b4530 hnb4532 a w hk hS => ?_)
                        refine wl rfl (k_store hS rfl rfl (us := [.int .i64 u4527.1.Key.Kind, .string u4527.1.Key.Text, .string u4527.1.Value, vz4528_2, .int .i64 u4527.1.Changed, .int .i64 u4527.1.Verified, .int .i64 u4527.1.Cost, .bool u4527.1.Dirty]) rfl ty54 0 rfl rfl rfl (oc rfl (oc rfl (oc rfl (oc (own_one (hS.own _ (List.mem_of_getElem? (i := 1) rfl)).1) (oc rfl (oc rfl (oc rfl (oc rfl on)))))))) fun w hk hS => ?_)
                        refine wl rfl (ky (v := .bool u4527.2) hS (y_assign hS rfl) rfl rfl fun a hS => ?_)
                        refine wpList_nil ?_
                        try simp only [Exit.then, Exit.inBlock, ↓reduceIte, Nat.reduceEqDiff]
                        refine hK608 _ _ ?_
                        refine wp_seq_k fun K609 hK609 => ?_
                        refine draws [] hS mixed rfl (fun c a d v w h => by cases d <;> exact h) fun w hQ hS => ?_
                        refine dy (l := []) 0 (v := .agg #[.int .i64 u4521.1.Key.Kind, .string u4521.1.Key.Text, .string u4521.1.Value, vz4522_2, .int .i64 u4521.1.Changed, .int .i64 u4521.1.Verified, .int .i64 u4521.1.Cost, .bool u4521.1.Dirty]) rfl (by kernel_rfl) (by kernel_rfl) (by kernel_rfl) (by kernel_rfl) hQ hS (y_load hS rfl ty54 2 rfl eo_nil (us := [.int .i64 u4521.1.Key.Kind, .string u4521.1.Key.Text, .string u4521.1.Value, vz4522_2, .int .i64 u4521.1.Changed, .int .i64 u4521.1.Verified, .int .i64 u4521.1.Cost, .bool u4521.1.Dirty]) rfl rfl (fun h => by cases h)) rfl rfl rfl fun a hS => ?_
                        refine dy (l := []) 1 (v := .agg #[.int .i64 u4527.1.Key.Kind, .string u4527.1.Key.Text, .string u4527.1.Value, vz4528_2, .int .i64 u4527.1.Changed, .int .i64 u4527.1.Verified, .int .i64 u4527.1.Cost, .bool u4527.1.Dirty]) rfl (by kernel_rfl) (by kernel_rfl) (by kernel_rfl) (by kernel_rfl) hQ hS (y_load hS rfl ty54 0 rfl eo_nil (us := [.int .i64 u4527.1.Key.Kind, .string u4527.1.Key.Text, .string u4527.1.Value, vz4528_2, .int .i64 u4527.1.Changed, .int .i64 u4527.1.Verified, .int .i64 u4527.1.Cost, .bool u4527.1.Dirty]) rfl rfl (fun h => by cases h)) rfl rfl rfl fun a hS => ?_
                        have hL := hS
                        replace hL := hL.freeze (R := R_KeyD) 3 rfl 1 rfl
                        replace hL := hL.freeze (R := R_KeyD) 1 rfl 1 rfl
                        obtain ⟨u4569, hu4569, hM⟩ := bd hM
                        refine wpE_one (i := 2) rfl (by kernel_rfl) rfl (k_call hS ci45 rfl rfl (ref26_SameOne_c _ _ hL.dlt (RecordD.mk (KeyD.mk u4521.1.Key.Kind u4521.1.Key.Text) u4521.1.Value u4521.1.Reads u4521.1.Changed u4521.1.Verified u4521.1.Cost u4521.1.Dirty) (RecordD.mk (KeyD.mk u4527.1.Key.Kind u4527.1.Key.Text) u4527.1.Value u4527.1.Reads u4527.1.Changed u4527.1.Verified u4527.1.Cost u4527.1.Dirty) _ _ (hL.get 1 rfl) (hL.get 0 rfl) _ hu4569) fun _ w hR a hk hA => ⟨stN (hk), ?_⟩)
                        have he := Eq.symm hR
                        subst he
                        have hS := hA [] (fun r hr => by cases hr) List.Pairwise.nil
                        refine dy 3 (v := .bool (!(u4569))) rfl (by kernel_rfl) (by kernel_rfl) (by kernel_rfl) rfl hQ hS (y_not hS rfl) rfl rfl rfl fun a hS => ?_
                        refine dy 4 (v := .bool (!(u4569))) rfl (by kernel_rfl) (by kernel_rfl) (by kernel_rfl) rfl hQ hS (y_move hS rfl) rfl rfl rfl fun a hS => ?_
                        rcases bool2 (!(u4569)) with hb4571 | hb4571
                        · replace hM := ct hb4571 hM
                          refine dyn 5 rfl (by kernel_rfl) (by kernel_rfl) (by kernel_rfl) hQ hS rfl rfl rfl hb4571 rfl rfl fun a hS => ?_
                          refine dyn 6 rfl (by kernel_rfl) (by kernel_rfl) (by kernel_rfl) hQ hS rfl rfl rfl hb4571 rfl rfl fun a hS => ?_
                          refine dyn 7 rfl (by kernel_rfl) (by kernel_rfl) (by kernel_rfl) hQ hS rfl rfl rfl hb4571 rfl rfl fun a hS => ?_
                          refine dy 8 (v := .bool true) rfl (by kernel_rfl) (by kernel_rfl) (by kernel_rfl) rfl hQ hS (y_pickt hS rfl hb4571 rfl) rfl rfl rfl fun a hS => ?_
                          refine dy 9 (v := .bool true) rfl (by kernel_rfl) (by kernel_rfl) (by kernel_rfl) rfl hQ hS (y_move hS rfl) rfl rfl rfl fun a hS => ?_
                          refine dyn 10 rfl (by kernel_rfl) (by kernel_rfl) (by kernel_rfl) hQ hS rfl rfl rfl rfl rfl rfl fun a hS => ?_
                          refine dyn 11 rfl (by kernel_rfl) (by kernel_rfl) (by kernel_rfl) hQ hS rfl rfl rfl rfl rfl rfl fun a hS => ?_
                          refine dyn 12 rfl (by kernel_rfl) (by kernel_rfl) (by kernel_rfl) hQ hS rfl rfl rfl rfl rfl rfl fun a hS => ?_
                          refine dyn 13 rfl (by kernel_rfl) (by kernel_rfl) (by kernel_rfl) hQ hS rfl rfl rfl rfl rfl rfl fun a hS => ?_
                          refine dyn 14 rfl (by kernel_rfl) (by kernel_rfl) (by kernel_rfl) hQ hS rfl rfl rfl rfl rfl rfl fun a hS => ?_
                          refine dyn 15 rfl (by kernel_rfl) (by kernel_rfl) (by kernel_rfl) hQ hS rfl rfl rfl rfl rfl rfl fun a hS => ?_
                          refine dyn 16 rfl (by kernel_rfl) (by kernel_rfl) (by kernel_rfl) hQ hS rfl rfl rfl rfl rfl rfl fun a hS => ?_
                          refine dyn 17 rfl (by kernel_rfl) (by kernel_rfl) (by kernel_rfl) hQ hS rfl rfl rfl rfl rfl rfl fun a hS => ?_
                          refine dy 18 (v := .bool true) rfl (by kernel_rfl) (by kernel_rfl) (by kernel_rfl) rfl hQ hS (y_pickt hS rfl rfl rfl) rfl rfl rfl fun a hS => ?_
                          refine wpE_done (by kernel_rfl) ?_ _
                          try simp only [Exit.then, Exit.inBlock, ↓reduceIte, Nat.reduceEqDiff]
                          refine hK609 _ _ ?_
                          refine c_t hS rfl rfl ?_
                          refine wp_seq_k fun K610 hK610 => ?_
                          refine r_list ?_
                          refine wl rfl (ky (v := .bool false) hS (y_assign hS rfl) rfl rfl fun a hS => ?_)
                          refine wpList_nil ?_
                          try simp only [Exit.then, Exit.inBlock, ↓reduceIte, Nat.reduceEqDiff]
                          refine hK610 _ _ ?_
                          refine wp_ret ?_
                          injection hM with hM
                          subst hM
                          have hr := hf2 _ rfl
                          subst hr
                          replace hMo2 := el_out hMo2
                          have hM := hMo2
                          injection hM with hM
                          subst hM
                          have hr := hf1 _ rfl
                          subst hr
                          replace hMo1 := el_out hMo1
                          have hM := hMo1
                          injection hM with hM
                          subst hM
                          try simp only [Exit.then, Exit.inBlock, ↓reduceIte, Nat.reduceEqDiff]
                          refine ret_ok hS Tryd.results10 (res_tmp hS rfl res_nil) ?_
                          exact rfl
                        · replace hM := cf hb4571 hM
                          refine dyg 5 (v := .bool u4521.2) rfl (by kernel_rfl) (by kernel_rfl) (by kernel_rfl) rfl hQ hS (y_move hS rfl) rfl rfl rfl hb4571 rfl rfl fun a hS => ?_
                          refine dyg 6 (v := .bool u4527.2) rfl (by kernel_rfl) (by kernel_rfl) (by kernel_rfl) rfl hQ hS (y_move hS rfl) rfl rfl rfl hb4571 rfl rfl fun a hS => ?_
                          refine dyg 7 (v := .bool (u4521.2 != u4527.2)) rfl (by kernel_rfl) (by kernel_rfl) (by kernel_rfl) rfl hQ hS (y_bool hS rfl rfl Tryd.underlying4 (.inr ⟨rfl, rfl⟩)) rfl rfl rfl hb4571 rfl rfl fun a hS => ?_
                          refine dy 8 (v := .bool (u4521.2 != u4527.2)) rfl (by kernel_rfl) (by kernel_rfl) (by kernel_rfl) rfl hQ hS (y_pickf hS rfl hb4571 rfl) rfl rfl rfl fun a hS => ?_
                          refine dy 9 (v := .bool (u4521.2 != u4527.2)) rfl (by kernel_rfl) (by kernel_rfl) (by kernel_rfl) rfl hQ hS (y_move hS rfl) rfl rfl rfl fun a hS => ?_
                          rcases bool2 (u4521.2 != u4527.2) with hb4572 | hb4572
                          · replace hM := ct hb4572 hM
                            refine dyn 10 rfl (by kernel_rfl) (by kernel_rfl) (by kernel_rfl) hQ hS rfl rfl rfl hb4572 rfl rfl fun a hS => ?_
                            refine dyn 11 rfl (by kernel_rfl) (by kernel_rfl) (by kernel_rfl) hQ hS rfl rfl rfl hb4572 rfl rfl fun a hS => ?_
                            refine dyn 12 rfl (by kernel_rfl) (by kernel_rfl) (by kernel_rfl) hQ hS rfl rfl rfl hb4572 rfl rfl fun a hS => ?_
                            refine dyn 13 rfl (by kernel_rfl) (by kernel_rfl) (by kernel_rfl) hQ hS rfl rfl rfl hb4572 rfl rfl fun a hS => ?_
                            refine dyn 14 rfl (by kernel_rfl) (by kernel_rfl) (by kernel_rfl) hQ hS rfl rfl rfl hb4572 rfl rfl fun a hS => ?_
                            refine dyn 15 rfl (by kernel_rfl) (by kernel_rfl) (by kernel_rfl) hQ hS rfl rfl rfl hb4572 rfl rfl fun a hS => ?_
                            refine dyn 16 rfl (by kernel_rfl) (by kernel_rfl) (by kernel_rfl) hQ hS rfl rfl rfl hb4572 rfl rfl fun a hS => ?_
                            refine dyn 17 rfl (by kernel_rfl) (by kernel_rfl) (by kernel_rfl) hQ hS rfl rfl rfl hb4572 rfl rfl fun a hS => ?_
                            refine dy 18 (v := .bool true) rfl (by kernel_rfl) (by kernel_rfl) (by kernel_rfl) rfl hQ hS (y_pickt hS rfl hb4572 rfl) rfl rfl rfl fun a hS => ?_
                            refine wpE_done (by kernel_rfl) ?_ _
                            try simp only [Exit.then, Exit.inBlock, ↓reduceIte, Nat.reduceEqDiff]
                            refine hK609 _ _ ?_
                            refine c_t hS rfl rfl ?_
                            refine wp_seq_k fun K611 hK611 => ?_
                            refine r_list ?_
                            refine wl rfl (ky (v := .bool false) hS (y_assign hS rfl) rfl rfl fun a hS => ?_)
                            refine wpList_nil ?_
                            try simp only [Exit.then, Exit.inBlock, ↓reduceIte, Nat.reduceEqDiff]
                            refine hK611 _ _ ?_
                            refine wp_ret ?_
                            injection hM with hM
                            subst hM
                            have hr := hf2 _ rfl
                            subst hr
                            replace hMo2 := el_out hMo2
                            have hM := hMo2
                            injection hM with hM
                            subst hM
                            have hr := hf1 _ rfl
                            subst hr
                            replace hMo1 := el_out hMo1
                            have hM := hMo1
                            injection hM with hM
                            subst hM
                            try simp only [Exit.then, Exit.inBlock, ↓reduceIte, Nat.reduceEqDiff]
                            refine ret_ok hS Tryd.results10 (res_tmp hS rfl res_nil) ?_
                            exact rfl
                          · replace hM := cf hb4572 hM
                            refine dyg 10 (v := v4307) rfl (by kernel_rfl) (by kernel_rfl) (by kernel_rfl) rfl hQ hS (y_move hS rfl) rfl rfl rfl hb4572 rfl rfl fun a hS => ?_
                            refine dyg (l := []) 11 (v := .agg #[.int .i64 e4510.Kind, .string e4510.Text]) rfl (by kernel_rfl) (by kernel_rfl) (by kernel_rfl) (by kernel_rfl) hQ hS (y_load hS rfl ty28 4 rfl eo_nil (us := [.int .i64 e4510.Kind, .string e4510.Text]) rfl rfl (fun h => by cases h)) rfl rfl rfl hb4572 rfl rfl fun a hS => ?_
                            refine dyg 13 (v := v4307) rfl (by kernel_rfl) (by kernel_rfl) (by kernel_rfl) rfl hQ hS (y_move hS rfl) rfl rfl rfl hb4572 rfl rfl fun a hS => ?_
                            refine dyg (l := []) 14 (v := .agg #[.int .i64 e4510.Kind, .string e4510.Text]) rfl (by kernel_rfl) (by kernel_rfl) (by kernel_rfl) (by kernel_rfl) hQ hS (y_load hS rfl ty28 4 rfl eo_nil (us := [.int .i64 e4510.Kind, .string e4510.Text]) rfl rfl (fun h => by cases h)) rfl rfl rfl hb4572 rfl rfl fun a hS => ?_
                            obtain ⟨u4573, hu4573, hM⟩ := bd hM
                            refine wpE_oneg (i := 12) rfl (by kernel_rfl) hS rfl rfl rfl hb4572 (k_call hS ci46 rfl rfl (record_Readers_c _ _ hS.dlt e4306 e4510 _ (hS.get 2 rfl) _ hu4573) fun _ w hR a hk hA => ⟨stN (hk), ?_⟩)
                            obtain ⟨vz4574_2, clz4574_3, he, ⟨hOvz4574_2, hFvz4574_2, hRvz4574_2⟩⟩ := hR
                            replace he := he.symm
                            subst he
                            have hS := hA [.own vz4574_2 28 R_KeyD.size clz4574_3] (adds1 ⟨hOvz4574_2, by decide⟩ hFvz4574_2) (pw1 _)
                            replace hS := hS.fact (RowsF R_KeyD clz4574_3 u4573) (hRvz4574_2.keep (Kt.refl _ _) (dT_dT _))
                            obtain ⟨u4576, hu4576, hM⟩ := bd hM
                            refine wpE_oneg (i := 15) rfl (by kernel_rfl) hS rfl rfl rfl hb4572 (k_call hS ci54 rfl rfl (ref26_Readers_c _ _ hS.dlt e4306 e4510 _ (hS.get 3 rfl) _ hu4576) fun _ w hR a hk hA => ⟨stN (hk), ?_⟩)
                            obtain ⟨vz4577_2, clz4577_3, he, ⟨hOvz4577_2, hFvz4577_2, hRvz4577_2⟩⟩ := hR
                            replace he := he.symm
                            subst he
                            have hS := hA [.own vz4577_2 28 R_KeyD.size clz4577_3] (adds1 ⟨hOvz4577_2, by decide⟩ hFvz4577_2) (pw1 _)
                            replace hS := hS.fact (RowsF R_KeyD clz4577_3 u4576) (hRvz4577_2.keep (Kt.refl _ _) (dT_dT _))
                            have hL := hS
                            replace hL := hL.freeze (R := R_KeyD) 1 rfl 1 rfl
                            replace hL := hL.freeze (R := R_KeyD) 0 rfl 1 rfl
                            obtain ⟨u4579, hu4579, hM⟩ := bd hM
                            refine wpE_oneg (i := 16) rfl (by kernel_rfl) hS rfl rfl rfl hb4572 (k_call hS ci53 rfl rfl (ref23_SameList_c _ _ hL.dlt u4573 u4576 _ _ (hL.get 1 rfl) (hL.get 0 rfl) _ hu4579) fun _ w hR a hk hA => ⟨stN (hk), ?_⟩)
                            have he := Eq.symm hR
                            subst he
                            have hS := hA [] (fun r hr => by cases hr) List.Pairwise.nil
                            refine dyg 17 (v := .bool (!(u4579))) rfl (by kernel_rfl) (by kernel_rfl) (by kernel_rfl) rfl hQ hS (y_not hS rfl) rfl rfl rfl hb4572 rfl rfl fun a hS => ?_
                            refine dy 18 (v := .bool (!(u4579))) rfl (by kernel_rfl) (by kernel_rfl) (by kernel_rfl) rfl hQ hS (y_pickf hS rfl hb4572 rfl) rfl rfl rfl fun a hS => ?_
                            refine wpE_done (by kernel_rfl) ?_ _
                            try simp only [Exit.then, Exit.inBlock, ↓reduceIte, Nat.reduceEqDiff]
                            refine hK609 _ _ ?_
                            rcases bool2 (!(u4579)) with hb4581 | hb4581
                            · replace hM := ct hb4581 hM
                              refine c_t hS rfl hb4581 ?_
                              refine wp_seq_k fun K612 hK612 => ?_
                              refine r_list ?_
                              refine wl rfl (ky (v := .bool false) hS (y_assign hS rfl) rfl rfl fun a hS => ?_)
                              refine wpList_nil ?_
                              try simp only [Exit.then, Exit.inBlock, ↓reduceIte, Nat.reduceEqDiff]
                              refine hK612 _ _ ?_
                              refine wp_ret ?_
                              injection hM with hM
                              subst hM
                              have hr := hf2 _ rfl
                              subst hr
                              replace hMo2 := el_out hMo2
                              have hM := hMo2
                              injection hM with hM
                              subst hM
                              have hr := hf1 _ rfl
                              subst hr
                              replace hMo1 := el_out hMo1
                              have hM := hMo1
                              injection hM with hM
                              subst hM
                              try simp only [Exit.then, Exit.inBlock, ↓reduceIte, Nat.reduceEqDiff]
                              refine ret_ok hS Tryd.results10 (res_tmp hS rfl res_nil) ?_
                              exact rfl
                            · replace hM := cf hb4581 hM
                              refine c_f hS rfl hb4581 ?_
                              refine wp_skip ?_
                              try simp only [Exit.then, Exit.inBlock, ↓reduceIte, Nat.reduceEqDiff]
                              refine hK605 _ _ ?_
                              refine r_list ?_
                              refine wl rfl (ky (v := .int .i64 (IntKind.i64.wrap (g4430 + 1))) hS (y_int hS rfl rfl rfl) rfl rfl fun a hS => ?_)
                              refine wl rfl (ky (v := .int .i64 (IntKind.i64.wrap (g4430 + 1))) hS (y_move hS rfl) rfl rfl fun a hS => ?_)
                              refine wpList_nil ?_
                              try simp only [Exit.then, Exit.inBlock, ↓reduceIte, Nat.reduceEqDiff]
                              exact ⟨(g4426, IntKind.i64.wrap (g4430 + 1)), (Option.some.inj hM).symm, g4426, (IntKind.i64.wrap (g4430 + 1)), v4427, cl4428, rfl, (hS.meet [7, 8, 9, 10] (by decide) ⟨rfl, rfl, rfl, rfl, rfl, rfl, rfl, rfl, rfl, rfl, trivial⟩ ⟨rfl, rfl, rfl, rfl, trivial⟩ ⟨⟨4, rfl⟩, ⟨5, rfl⟩, ⟨6, rfl⟩, ⟨7, rfl⟩, ⟨8, rfl⟩, trivial⟩)⟩
                      · replace hM := cf hb4509 hM
                        refine c_f hS rfl hb4509 ?_
                        refine wp_exit ?_
                        try simp only [Exit.then, Exit.inBlock, ↓reduceIte, Nat.reduceEqDiff]
                        injection hM with hM
                        subst hM
                        have hr := hf2 _ rfl
                        subst hr
                        replace hMo2 := el_go hMo2
                        have hM : law26_RecordValid_j2 g3685 g3689 = some f1 := hMo2
                        exact ⟨(hS.meet [0, 2, 3] (by decide) ⟨rfl, rfl, rfl, rfl, rfl, rfl, trivial⟩ ⟨rfl, rfl, rfl, trivial⟩ ⟨⟨1, rfl⟩, ⟨3, rfl⟩, ⟨4, rfl⟩, trivial⟩), hM⟩
                  · rintro a w ⟨hS, hM⟩
                    unfold law26_RecordValid_j2 at hM
                    refine r_list ?_
                    refine wl rfl (ky (v := .int .i64 (IntKind.i64.wrap (g3689 + 1))) hS (y_int hS rfl rfl rfl) rfl rfl fun a hS => ?_)
                    refine wl rfl (ky (v := .int .i64 (IntKind.i64.wrap (g3689 + 1))) hS (y_move hS rfl) rfl rfl fun a hS => ?_)
                    refine wpList_nil ?_
                    try simp only [Exit.then, Exit.inBlock, ↓reduceIte, Nat.reduceEqDiff]
                    exact ⟨(g3685, IntKind.i64.wrap (g3689 + 1)), (Option.some.inj hM).symm, g3685, (IntKind.i64.wrap (g3689 + 1)), v3686, cl3687, rfl, (hS.meet [0, 1, 2] (by decide) ⟨rfl, rfl, rfl, rfl, rfl, rfl, trivial⟩ ⟨rfl, rfl, rfl, trivial⟩ ⟨⟨0, rfl⟩, ⟨1, rfl⟩, ⟨2, rfl⟩, trivial⟩)⟩
                · replace hM := cf hb4102 hM
                  refine c_f hS rfl hb4102 ?_
                  refine wp_exit ?_
                  try simp only [Exit.then, Exit.inBlock, ↓reduceIte, Nat.reduceEqDiff]
                  injection hM with hM
                  subst hM
                  have hr := hf1 _ rfl
                  subst hr
                  replace hMo1 := el_go hMo1
                  have hM : law26_RecordValid_j1 = some y := hMo1
                  exact ⟨(hS.meet [] (by decide) trivial trivial ⟨⟨2, rfl⟩, trivial⟩), hM⟩
              · rintro a w ⟨hS, hM⟩
                unfold law26_RecordValid_j1 at hM
                refine wp_seq_k fun K445 hK445 => ?_
                refine r_list ?_
                obtain ⟨u3265, hu3265, hM⟩ := bd hM
                refine wl rfl (k_call hS ci33 rfl rfl (law26_awake_c _ _ hS.dlt (hS.get 0 rfl) _ hu3265) fun _ w hR a hk hA => ?_)
                have he := Eq.symm hR
                subst he
                have hS := hA [] (fun r hr => by cases hr) List.Pairwise.nil
                refine wl rfl (ky (v := .bool u3265) hS (y_assign hS rfl) rfl rfl fun a hS => ?_)
                refine wpList_nil ?_
                try simp only [Exit.then, Exit.inBlock, ↓reduceIte, Nat.reduceEqDiff]
                refine hK445 _ _ ?_
                refine wp_ret ?_
                injection hM with hM
                subst hM
                try simp only [Exit.then, Exit.inBlock, ↓reduceIte, Nat.reduceEqDiff]
                refine ret_ok hS Tryd.results10 (res_tmp hS rfl res_nil) ?_
                exact rfl
end Go.Proofs.YtjoilbmkcknnfaaDoor
