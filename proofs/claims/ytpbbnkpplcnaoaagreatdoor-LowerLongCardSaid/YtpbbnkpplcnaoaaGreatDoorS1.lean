/- What functions of the program compute; that they do. -/
import Derived.Test.YtpbbnkpplcnaoaaGreatDoorTS1
set_option linter.unusedVariables false
set_option linter.unusedSimpArgs false
namespace Go.Proofs.YtpbbnkpplcnaoaaGreatDoor
open Go.RowKit
noncomputable def ref10_SameNumbers_j1 : Option Bool := some (true)
noncomputable def ref10_SameNumbers_l2 (a_0 : (List Int)) (b_1 : (List Int)) (i364 : Int) : Option (Fl (Int) (Fl (Unit) Bool)) := cond (decide ((i364 : Int) < (a_0.length : Int))) ((getI a_0 i364).bind fun e467 => (getI b_1 i364).bind fun e474 => cond ((e467 : Int) != e474) (some (.out (.out false))) (some (.go (IntKind.i64.wrap (i364 + 1))))) (some (.out (.go ())))
noncomputable def ref10_SameNumbers (a_0 : (List Int)) (b_1 : (List Int)) : Option Bool := cond (((a_0.length : Int) : Int) != (b_1.length : Int)) (some (false)) ((loop (fun s : Int => ref10_SameNumbers_l2 a_0 b_1 s) 0).bind fun r => Fl.el r (fun s => ref10_SameNumbers_j1) (fun y => some (y)))
set_option maxRecDepth 100000 in
set_option maxHeartbeats 4000000 in
theorem ref10_SameNumbers_c (T : Nat → Prop) (W0 : World) (hT : ∀ k, T k → k < W0.heap.size) (a_0 : (List Int)) (b_1 : (List Int)) (v1 : Value) (v2 : Value) (hv1 : SlR (Rep.int .i64) T W0 v1 a_0) (hv2 : SlR (Rep.int .i64) T W0 v2 b_1) (y : Bool) (hM : ref10_SameNumbers a_0 b_1 = some y) : Rets Tryz.prog No 29 [v1, v2] W0 (fun v w' => v = .bool y) := by
  refine enter (c := _) Tryz.func29 rfl T 26 Tryz.ntmps29 hT rfl fun a hS => ?_
  replace hS := hS.fact (SlF (Rep.int .i64) v1 a_0) (SlR.dn hv1)
  replace hS := hS.fact (SlF (Rep.int .i64) v2 b_1) (SlR.dn hv2)
  unfold ref10_SameNumbers at hM
  refine wp_seq_k fun K23 hK23 => ?_
  refine r_list ?_
  refine wl rfl (ky (v := .bool false) hS (y_assign hS rfl) rfl rfl fun a hS => ?_)
  refine wpList_nil ?_
  try simp only [Exit.then, Exit.inBlock, ↓reduceIte, Nat.reduceEqDiff]
  refine hK23 _ _ ?_
  refine wp_seq_k fun K24 hK24 => ?_
  refine wp_seq_k fun K25 hK25 => ?_
  refine r_list ?_
  refine wl rfl (ky (v := v1) hS (y_move hS rfl) rfl rfl fun a hS => ?_)
  refine wl rfl (ky (v := .int .i64 (a_0.length : Int)) hS (y_len (R := (Rep.int .i64)) (xs := a_0) hS sl33 rfl 1 rfl) rfl rfl fun a hS => ?_)
  refine wl rfl (ky (v := v2) hS (y_move hS rfl) rfl rfl fun a hS => ?_)
  refine wl rfl (ky (v := .int .i64 (b_1.length : Int)) hS (y_len (R := (Rep.int .i64)) (xs := b_1) hS sl33 rfl 0 rfl) rfl rfl fun a hS => ?_)
  refine wl rfl (ky (v := .bool (((a_0.length : Int) : Int) != (b_1.length : Int))) hS (y_int hS rfl rfl rfl) rfl rfl fun a hS => ?_)
  refine wpList_nil ?_
  try simp only [Exit.then, Exit.inBlock, ↓reduceIte, Nat.reduceEqDiff]
  refine hK25 _ _ ?_
  rcases bool2 (((a_0.length : Int) : Int) != (b_1.length : Int)) with hb185 | hb185
  · replace hM := ct hb185 hM
    refine c_t hS rfl hb185 ?_
    refine wp_seq_k fun K26 hK26 => ?_
    refine r_list ?_
    refine wl rfl (ky (v := .bool false) hS (y_assign hS rfl) rfl rfl fun a hS => ?_)
    refine wpList_nil ?_
    try simp only [Exit.then, Exit.inBlock, ↓reduceIte, Nat.reduceEqDiff]
    refine hK26 _ _ ?_
    refine wp_ret ?_
    injection hM with hM
    subst hM
    try simp only [Exit.then, Exit.inBlock, ↓reduceIte, Nat.reduceEqDiff]
    refine ret_ok hS Tryz.results29 (res_tmp hS rfl res_nil) ?_
    exact rfl
  · replace hM := cf hb185 hM
    refine c_f hS rfl hb185 ?_
    refine wp_skip ?_
    try simp only [Exit.then, Exit.inBlock, ↓reduceIte, Nat.reduceEqDiff]
    refine hK24 _ _ ?_
    refine seq_j (J := fun a w => St W0 No T 26 [] [] [] a w ∧ ref10_SameNumbers_j1 = some y) ?_ ?_
    · skip
      refine wp_seq_k fun K39 hK39 => ?_
      refine r_list ?_
      refine wl rfl (ky (v := .int .i64 0) hS (y_assign hS rfl) rfl rfl fun a hS => ?_)
      refine wpList_nil ?_
      try simp only [Exit.then, Exit.inBlock, ↓reduceIte, Nat.reduceEqDiff]
      refine hK39 _ _ ?_
      refine wp_block ?_
      obtain ⟨r1, hl1, hMo1⟩ := bd hM
      refine wp_lp (fun s : Int => ref10_SameNumbers_l2 a_0 b_1 s) (fun s a w => ∃ (i364 : Int), i364 = s ∧ St W0 No T 26 [(0, v1), (1, v2), (5, .int .i64 i364)] [] [SlF (Rep.int .i64) v1 a_0, SlF (Rep.int .i64) v2 b_1] a w) hl1 ⟨0, rfl, (hS.meet [] (by decide) ⟨rfl, rfl, rfl, trivial⟩ trivial ⟨⟨1, rfl⟩, ⟨0, rfl⟩, trivial⟩)⟩ ?_
      rintro s a w f1 ⟨i364, rfl, hS⟩ hM hf1
      have hM : ref10_SameNumbers_l2 a_0 b_1 i364 = some f1 := hM
      unfold ref10_SameNumbers_l2 at hM
      refine wp_seq_k fun K50 hK50 => ?_
      refine wp_seq_k fun K51 hK51 => ?_
      refine r_list ?_
      refine wl rfl (ky (v := .int .i64 i364) hS (y_move hS rfl) rfl rfl fun a hS => ?_)
      refine wl rfl (ky (v := v1) hS (y_move hS rfl) rfl rfl fun a hS => ?_)
      refine wl rfl (ky (v := .int .i64 (a_0.length : Int)) hS (y_len (R := (Rep.int .i64)) (xs := a_0) hS sl33 rfl 0 rfl) rfl rfl fun a hS => ?_)
      refine wl rfl (ky (v := .bool (decide ((i364 : Int) < (a_0.length : Int)))) hS (y_int hS rfl rfl rfl) rfl rfl fun a hS => ?_)
      refine wpList_nil ?_
      try simp only [Exit.then, Exit.inBlock, ↓reduceIte, Nat.reduceEqDiff]
      refine hK51 _ _ ?_
      rcases bool2 (decide ((i364 : Int) < (a_0.length : Int))) with hb424 | hb424
      · replace hM := ct hb424 hM
        refine c_t hS rfl hb424 ?_
        refine wp_skip ?_
        try simp only [Exit.then, Exit.inBlock, ↓reduceIte, Nat.reduceEqDiff]
        refine hK50 _ _ ?_
        refine wp_seq_k fun K52 hK52 => ?_
        refine wp_block ?_
        refine wp_seq_k fun K53 hK53 => ?_
        refine draws [] hS mixed rfl (fun c a d v w h => by cases d <;> exact h) fun w hQ hS => ?_
        refine dy 0 (v := v1) rfl (by kernel_rfl) (by kernel_rfl) (by kernel_rfl) rfl hQ hS (y_move hS rfl) rfl rfl rfl fun a hS => ?_
        refine dy 1 (v := .int .i64 i364) rfl (by kernel_rfl) (by kernel_rfl) (by kernel_rfl) rfl hQ hS (y_move hS rfl) rfl rfl rfl fun a hS => ?_
        obtain ⟨e467, he467, hM⟩ := bd hM
        obtain ⟨b468, o469, cs471, hr470, hy473, hS⟩ := d_index (R := (Rep.int .i64)) hS sl33 ty3 0 rfl he467
        obtain rfl := hr470
        refine dy 2 (v := .pointer (some ⟨b468, o469, none⟩)) rfl (by kernel_rfl) (by kernel_rfl) (by kernel_rfl) rfl hQ hS (hy473 rfl rfl) rfl rfl rfl fun a hS => ?_
        refine dy (l := []) 3 (v := .int .i64 e467) rfl (by kernel_rfl) (by kernel_rfl) (by kernel_rfl) (by kernel_rfl) hQ hS (y_loadc (k := 0) hS ty3 0 rfl rfl es_nil (us := [.int .i64 e467]) rfl rfl (fun _ => rfl)) rfl rfl rfl fun a hS => ?_
        refine dy 4 (v := v2) rfl (by kernel_rfl) (by kernel_rfl) (by kernel_rfl) rfl hQ hS (y_move hS rfl) rfl rfl rfl fun a hS => ?_
        refine dy 5 (v := .int .i64 i364) rfl (by kernel_rfl) (by kernel_rfl) (by kernel_rfl) rfl hQ hS (y_move hS rfl) rfl rfl rfl fun a hS => ?_
        obtain ⟨e474, he474, hM⟩ := bd hM
        obtain ⟨b475, o476, cs478, hr477, hy480, hS⟩ := d_index (R := (Rep.int .i64)) hS sl33 ty3 2 rfl he474
        obtain rfl := hr477
        refine dy 6 (v := .pointer (some ⟨b475, o476, none⟩)) rfl (by kernel_rfl) (by kernel_rfl) (by kernel_rfl) rfl hQ hS (hy480 rfl rfl) rfl rfl rfl fun a hS => ?_
        refine dy (l := []) 7 (v := .int .i64 e474) rfl (by kernel_rfl) (by kernel_rfl) (by kernel_rfl) (by kernel_rfl) hQ hS (y_loadc (k := 0) hS ty3 0 rfl rfl es_nil (us := [.int .i64 e474]) rfl rfl (fun _ => rfl)) rfl rfl rfl fun a hS => ?_
        refine dy 8 (v := .bool ((e467 : Int) != e474)) rfl (by kernel_rfl) (by kernel_rfl) (by kernel_rfl) rfl hQ hS (y_int hS rfl rfl rfl) rfl rfl rfl fun a hS => ?_
        refine wpE_done (by kernel_rfl) ?_ _
        try simp only [Exit.then, Exit.inBlock, ↓reduceIte, Nat.reduceEqDiff]
        refine hK53 _ _ ?_
        rcases bool2 ((e467 : Int) != e474) with hb481 | hb481
        · replace hM := ct hb481 hM
          refine c_t hS rfl hb481 ?_
          refine wp_seq_k fun K54 hK54 => ?_
          refine r_list ?_
          refine wl rfl (ky (v := .bool false) hS (y_assign hS rfl) rfl rfl fun a hS => ?_)
          refine wpList_nil ?_
          try simp only [Exit.then, Exit.inBlock, ↓reduceIte, Nat.reduceEqDiff]
          refine hK54 _ _ ?_
          refine wp_ret ?_
          injection hM with hM
          subst hM
          have hr := hf1 _ rfl
          subst hr
          replace hMo1 := el_out hMo1
          have hM := hMo1
          injection hM with hM
          subst hM
          try simp only [Exit.then, Exit.inBlock, ↓reduceIte, Nat.reduceEqDiff]
          refine ret_ok hS Tryz.results29 (res_tmp hS rfl res_nil) ?_
          exact rfl
        · replace hM := cf hb481 hM
          refine c_f hS rfl hb481 ?_
          refine wp_skip ?_
          try simp only [Exit.then, Exit.inBlock, ↓reduceIte, Nat.reduceEqDiff]
          refine hK52 _ _ ?_
          refine r_list ?_
          refine wl rfl (ky (v := .int .i64 i364) hS (y_move hS rfl) rfl rfl fun a hS => ?_)
          refine wl rfl (ky (v := .int .i64 (IntKind.i64.wrap (i364 + 1))) hS (y_int hS rfl rfl rfl) rfl rfl fun a hS => ?_)
          refine wl rfl (ky (v := .int .i64 (IntKind.i64.wrap (i364 + 1))) hS (y_assign hS rfl) rfl rfl fun a hS => ?_)
          refine wpList_nil ?_
          try simp only [Exit.then, Exit.inBlock, ↓reduceIte, Nat.reduceEqDiff]
          exact ⟨IntKind.i64.wrap (i364 + 1), (Option.some.inj hM).symm, (IntKind.i64.wrap (i364 + 1)), rfl, (hS.meet [] (by decide) ⟨rfl, rfl, rfl, trivial⟩ trivial ⟨⟨2, rfl⟩, ⟨3, rfl⟩, trivial⟩)⟩
      · replace hM := cf hb424 hM
        refine c_f hS rfl hb424 ?_
        refine wp_exit ?_
        try simp only [Exit.then, Exit.inBlock, ↓reduceIte, Nat.reduceEqDiff]
        injection hM with hM
        subst hM
        have hr := hf1 _ rfl
        subst hr
        replace hMo1 := el_go hMo1
        have hM : ref10_SameNumbers_j1 = some y := hMo1
        exact ⟨(hS.meet [] (by decide) trivial trivial trivial), hM⟩
    · rintro a w ⟨hS, hM⟩
      unfold ref10_SameNumbers_j1 at hM
      refine wp_seq_k fun K38 hK38 => ?_
      refine r_list ?_
      refine wl rfl (ky (v := .bool true) hS (y_assign hS rfl) rfl rfl fun a hS => ?_)
      refine wpList_nil ?_
      try simp only [Exit.then, Exit.inBlock, ↓reduceIte, Nat.reduceEqDiff]
      refine hK38 _ _ ?_
      refine wp_ret ?_
      injection hM with hM
      subst hM
      try simp only [Exit.then, Exit.inBlock, ↓reduceIte, Nat.reduceEqDiff]
      refine ret_ok hS Tryz.results29 (res_tmp hS rfl res_nil) ?_
      exact rfl

noncomputable def ref10_SameCode_j1 : Option Bool := some (true)
noncomputable def ref10_SameCode_j2 (i1162 : Int) (y1458 : Int) (y1459 : Int) (y1460 : Int) (y1461 : Int) (y1462 : (List Int)) (y1464 : ByteArray) (x1465 : Int) (x1466 : Int) (x1467 : Int) (x1468 : Int) (x1469 : (List Int)) (x1471 : ByteArray) : Option (Fl (Int) (Fl (Unit) Bool)) := cond ((y1458 : Int) != x1465) (some (.out (.out false))) (cond ((y1459 : Int) != x1466) (some (.out (.out false))) (cond ((y1460 : Int) != x1467) (some (.out (.out false))) (cond ((y1461 : Int) != x1468) (some (.out (.out false))) (cond (!(y1464.toList == x1471.toList)) (some (.out (.out false))) ((ref10_SameNumbers y1462 x1469).bind fun u1484 => cond (!(u1484)) (some (.out (.out false))) (some (.go (IntKind.i64.wrap (i1162 + 1)))))))))
noncomputable def ref10_SameCode_l3 (a_0 : CodeD) (b_1 : CodeD) (i1162 : Int) : Option (Fl (Int) (Fl (Unit) Bool)) := cond (decide ((i1162 : Int) < (a_0.Ops.length : Int))) ((getI a_0.Ops i1162).bind fun e1510 => (getI b_1.Ops i1162).bind fun e1520 => ref10_SameCode_j2 i1162 e1510.Kind e1510.A e1510.B e1510.C e1510.List e1510.Sym e1520.Kind e1520.A e1520.B e1520.C e1520.List e1520.Sym) (some (.out (.go ())))
noncomputable def ref10_SameCode (a_0 : CodeD) (b_1 : CodeD) : Option Bool := cond ((a_0.Params : Int) != b_1.Params) (some (false)) (cond ((a_0.Regs : Int) != b_1.Regs) (some (false)) (cond (((a_0.Ops.length : Int) : Int) != (b_1.Ops.length : Int)) (some (false)) ((loop (fun s : Int => ref10_SameCode_l3 a_0 b_1 s) 0).bind fun r => Fl.el r (fun s => ref10_SameCode_j1) (fun y => some (y)))))
set_option maxRecDepth 100000 in
set_option maxHeartbeats 4000000 in
theorem ref10_SameCode_c (T : Nat → Prop) (W0 : World) (hT : ∀ k, T k → k < W0.heap.size) (a_0 : CodeD) (b_1 : CodeD) (v1 : Value) (v2 : Value) (hv1 : SlR R_OpD T W0 v1 a_0.Ops) (hv2 : SlR R_OpD T W0 v2 b_1.Ops) (y : Bool) (hM : ref10_SameCode a_0 b_1 = some y) : Rets Tryz.prog No 11 [.agg #[.int .i64 a_0.Params, .int .i64 a_0.Regs, v1], .agg #[.int .i64 b_1.Params, .int .i64 b_1.Regs, v2]] W0 (fun v w' => v = .bool y) := by
  refine enter (c := _) Tryz.func11 rfl T 87 Tryz.ntmps11 hT rfl fun a hS => ?_
  replace hS := hS.fact (SlF R_OpD v1 a_0.Ops) (SlR.dn hv1)
  replace hS := hS.fact (SlF R_OpD v2 b_1.Ops) (SlR.dn hv2)
  unfold ref10_SameCode at hM
  refine wp_seq_k fun K40 hK40 => ?_
  refine r_list ?_
  refine wl rfl (k_box hS rfl (cs := [.int .i64 a_0.Params, .int .i64 a_0.Regs, v1]) rfl rfl fun b586 hnb588 a w hk hS => ?_)
  refine wl rfl (k_box hS rfl (cs := [.int .i64 b_1.Params, .int .i64 b_1.Regs, v2]) rfl rfl fun b589 hnb591 a w hk hS => ?_)
  refine wl rfl (ky (v := .bool false) hS (y_assign hS rfl) rfl rfl fun a hS => ?_)
  refine wpList_nil ?_
  try simp only [Exit.then, Exit.inBlock, ↓reduceIte, Nat.reduceEqDiff]
  refine hK40 _ _ ?_
  refine wp_seq_k fun K41 hK41 => ?_
  refine wp_seq_k fun K42 hK42 => ?_
  refine r_list ?_
  refine wl rfl (ky (v := .pointer (some ⟨b586, 0 + 0, none⟩)) hS (y_fld hS rfl fl31_0) rfl rfl fun a hS => ?_)
  refine wl rfl (ky (v := .int .i64 a_0.Params) hS (y_load hS rfl ty3 1 rfl id (us := [.int .i64 a_0.Params]) rfl rfl (fun _ => rfl)) rfl rfl fun a hS => ?_)
  refine wl rfl (ky (v := .pointer (some ⟨b589, 0 + 0, none⟩)) hS (y_fld hS rfl fl31_0) rfl rfl fun a hS => ?_)
  refine wl rfl (ky (v := .int .i64 b_1.Params) hS (y_load hS rfl ty3 0 rfl id (us := [.int .i64 b_1.Params]) rfl rfl (fun _ => rfl)) rfl rfl fun a hS => ?_)
  refine wl rfl (ky (v := .bool ((a_0.Params : Int) != b_1.Params)) hS (y_int hS rfl rfl rfl) rfl rfl fun a hS => ?_)
  refine wl rfl (ky (v := .bool ((a_0.Params : Int) != b_1.Params)) hS (y_move hS rfl) rfl rfl fun a hS => ?_)
  rcases bool2 ((a_0.Params : Int) != b_1.Params) with hb594 | hb594
  · replace hM := ct hb594 hM
    refine wn hS rfl rfl rfl hb594 rfl rfl fun a hS => ?_
    refine wn hS rfl rfl rfl hb594 rfl rfl fun a hS => ?_
    refine wn hS rfl rfl rfl hb594 rfl rfl fun a hS => ?_
    refine wn hS rfl rfl rfl hb594 rfl rfl fun a hS => ?_
    refine wn hS rfl rfl rfl hb594 rfl rfl fun a hS => ?_
    refine wl rfl (ky (v := .bool true) hS (y_pickt hS rfl hb594 rfl) rfl rfl fun a hS => ?_)
    refine wl rfl (ky (v := .bool true) hS (y_move hS rfl) rfl rfl fun a hS => ?_)
    refine wn hS rfl rfl rfl rfl rfl rfl fun a hS => ?_
    refine wn hS rfl rfl rfl rfl rfl rfl fun a hS => ?_
    refine wn hS rfl rfl rfl rfl rfl rfl fun a hS => ?_
    refine wn hS rfl rfl rfl rfl rfl rfl fun a hS => ?_
    refine wn hS rfl rfl rfl rfl rfl rfl fun a hS => ?_
    refine wn hS rfl rfl rfl rfl rfl rfl fun a hS => ?_
    refine wn hS rfl rfl rfl rfl rfl rfl fun a hS => ?_
    refine wl rfl (ky (v := .bool true) hS (y_pickt hS rfl rfl rfl) rfl rfl fun a hS => ?_)
    refine wpList_nil ?_
    try simp only [Exit.then, Exit.inBlock, ↓reduceIte, Nat.reduceEqDiff]
    refine hK42 _ _ ?_
    refine c_t hS rfl rfl ?_
    refine wp_seq_k fun K43 hK43 => ?_
    refine r_list ?_
    refine wl rfl (ky (v := .bool false) hS (y_assign hS rfl) rfl rfl fun a hS => ?_)
    refine wpList_nil ?_
    try simp only [Exit.then, Exit.inBlock, ↓reduceIte, Nat.reduceEqDiff]
    refine hK43 _ _ ?_
    refine wp_ret ?_
    injection hM with hM
    subst hM
    try simp only [Exit.then, Exit.inBlock, ↓reduceIte, Nat.reduceEqDiff]
    refine ret_ok hS Tryz.results11 (res_tmp hS rfl res_nil) ?_
    exact rfl
  · replace hM := cf hb594 hM
    refine wg hS rfl rfl rfl hb594 (ky (v := .pointer (some ⟨b586, 0 + 1, none⟩)) hS (y_fld hS rfl fl31_1) rfl rfl fun a hS => ?_)
    refine wg hS rfl rfl rfl hb594 (ky (v := .int .i64 a_0.Regs) hS (y_load hS rfl ty3 1 rfl id (us := [.int .i64 a_0.Regs]) rfl rfl (fun _ => rfl)) rfl rfl fun a hS => ?_)
    refine wg hS rfl rfl rfl hb594 (ky (v := .pointer (some ⟨b589, 0 + 1, none⟩)) hS (y_fld hS rfl fl31_1) rfl rfl fun a hS => ?_)
    refine wg hS rfl rfl rfl hb594 (ky (v := .int .i64 b_1.Regs) hS (y_load hS rfl ty3 0 rfl id (us := [.int .i64 b_1.Regs]) rfl rfl (fun _ => rfl)) rfl rfl fun a hS => ?_)
    refine wg hS rfl rfl rfl hb594 (ky (v := .bool ((a_0.Regs : Int) != b_1.Regs)) hS (y_int hS rfl rfl rfl) rfl rfl fun a hS => ?_)
    refine wl rfl (ky (v := .bool ((a_0.Regs : Int) != b_1.Regs)) hS (y_pickf hS rfl hb594 rfl) rfl rfl fun a hS => ?_)
    refine wl rfl (ky (v := .bool ((a_0.Regs : Int) != b_1.Regs)) hS (y_move hS rfl) rfl rfl fun a hS => ?_)
    rcases bool2 ((a_0.Regs : Int) != b_1.Regs) with hb595 | hb595
    · replace hM := ct hb595 hM
      refine wn hS rfl rfl rfl hb595 rfl rfl fun a hS => ?_
      refine wn hS rfl rfl rfl hb595 rfl rfl fun a hS => ?_
      refine wn hS rfl rfl rfl hb595 rfl rfl fun a hS => ?_
      refine wn hS rfl rfl rfl hb595 rfl rfl fun a hS => ?_
      refine wn hS rfl rfl rfl hb595 rfl rfl fun a hS => ?_
      refine wn hS rfl rfl rfl hb595 rfl rfl fun a hS => ?_
      refine wn hS rfl rfl rfl hb595 rfl rfl fun a hS => ?_
      refine wl rfl (ky (v := .bool true) hS (y_pickt hS rfl hb595 rfl) rfl rfl fun a hS => ?_)
      refine wpList_nil ?_
      try simp only [Exit.then, Exit.inBlock, ↓reduceIte, Nat.reduceEqDiff]
      refine hK42 _ _ ?_
      refine c_t hS rfl rfl ?_
      refine wp_seq_k fun K44 hK44 => ?_
      refine r_list ?_
      refine wl rfl (ky (v := .bool false) hS (y_assign hS rfl) rfl rfl fun a hS => ?_)
      refine wpList_nil ?_
      try simp only [Exit.then, Exit.inBlock, ↓reduceIte, Nat.reduceEqDiff]
      refine hK44 _ _ ?_
      refine wp_ret ?_
      injection hM with hM
      subst hM
      try simp only [Exit.then, Exit.inBlock, ↓reduceIte, Nat.reduceEqDiff]
      refine ret_ok hS Tryz.results11 (res_tmp hS rfl res_nil) ?_
      exact rfl
    · replace hM := cf hb595 hM
      refine wg hS rfl rfl rfl hb595 (ky (v := .pointer (some ⟨b586, 0 + 2, none⟩)) hS (y_fld hS rfl fl31_2) rfl rfl fun a hS => ?_)
      refine wg hS rfl rfl rfl hb595 (ky (v := v1) hS (y_load hS rfl ty29 1 rfl id (us := [v1]) rfl rfl (fun _ => rfl)) rfl rfl fun a hS => ?_)
      refine wg hS rfl rfl rfl hb595 (ky (v := .int .i64 (a_0.Ops.length : Int)) hS (y_len (R := R_OpD) (xs := a_0.Ops) hS sl29 rfl 1 rfl) rfl rfl fun a hS => ?_)
      refine wg hS rfl rfl rfl hb595 (ky (v := .pointer (some ⟨b589, 0 + 2, none⟩)) hS (y_fld hS rfl fl31_2) rfl rfl fun a hS => ?_)
      refine wg hS rfl rfl rfl hb595 (ky (v := v2) hS (y_load hS rfl ty29 0 rfl id (us := [v2]) rfl rfl (fun _ => rfl)) rfl rfl fun a hS => ?_)
      refine wg hS rfl rfl rfl hb595 (ky (v := .int .i64 (b_1.Ops.length : Int)) hS (y_len (R := R_OpD) (xs := b_1.Ops) hS sl29 rfl 0 rfl) rfl rfl fun a hS => ?_)
      refine wg hS rfl rfl rfl hb595 (ky (v := .bool (((a_0.Ops.length : Int) : Int) != (b_1.Ops.length : Int))) hS (y_int hS rfl rfl rfl) rfl rfl fun a hS => ?_)
      refine wl rfl (ky (v := .bool (((a_0.Ops.length : Int) : Int) != (b_1.Ops.length : Int))) hS (y_pickf hS rfl hb595 rfl) rfl rfl fun a hS => ?_)
      refine wpList_nil ?_
      try simp only [Exit.then, Exit.inBlock, ↓reduceIte, Nat.reduceEqDiff]
      refine hK42 _ _ ?_
      rcases bool2 (((a_0.Ops.length : Int) : Int) != (b_1.Ops.length : Int)) with hb596 | hb596
      · replace hM := ct hb596 hM
        refine c_t hS rfl hb596 ?_
        refine wp_seq_k fun K45 hK45 => ?_
        refine r_list ?_
        refine wl rfl (ky (v := .bool false) hS (y_assign hS rfl) rfl rfl fun a hS => ?_)
        refine wpList_nil ?_
        try simp only [Exit.then, Exit.inBlock, ↓reduceIte, Nat.reduceEqDiff]
        refine hK45 _ _ ?_
        refine wp_ret ?_
        injection hM with hM
        subst hM
        try simp only [Exit.then, Exit.inBlock, ↓reduceIte, Nat.reduceEqDiff]
        refine ret_ok hS Tryz.results11 (res_tmp hS rfl res_nil) ?_
        exact rfl
      · replace hM := cf hb596 hM
        refine c_f hS rfl hb596 ?_
        refine wp_skip ?_
        try simp only [Exit.then, Exit.inBlock, ↓reduceIte, Nat.reduceEqDiff]
        refine hK41 _ _ ?_
        refine seq_j (J := fun a w => St W0 No T 87 [] [] [] a w ∧ ref10_SameCode_j1 = some y) ?_ ?_
        · skip
          refine wp_seq_k fun K68 hK68 => ?_
          refine r_list ?_
          refine wl rfl (ky (v := .int .i64 0) hS (y_assign hS rfl) rfl rfl fun a hS => ?_)
          refine wpList_nil ?_
          try simp only [Exit.then, Exit.inBlock, ↓reduceIte, Nat.reduceEqDiff]
          refine hK68 _ _ ?_
          refine wp_block ?_
          obtain ⟨r1, hl1, hMo1⟩ := bd hM
          refine wp_lp (fun s : Int => ref10_SameCode_l3 a_0 b_1 s) (fun s a w => ∃ (i1162 : Int), i1162 = s ∧ St W0 No T 87 [(2, .pointer (some ⟨b586, 0, none⟩)), (3, .pointer (some ⟨b589, 0, none⟩)), (5, .int .i64 i1162)] [.box b586 [.int .i64 a_0.Params, .int .i64 a_0.Regs, v1] 31, .box b589 [.int .i64 b_1.Params, .int .i64 b_1.Regs, v2] 31] [SlF R_OpD v1 a_0.Ops, SlF R_OpD v2 b_1.Ops] a w) hl1 ⟨0, rfl, (hS.meet [1, 0] (by decide) ⟨rfl, rfl, rfl, trivial⟩ ⟨rfl, rfl, trivial⟩ ⟨⟨1, rfl⟩, ⟨0, rfl⟩, trivial⟩)⟩ ?_
          rintro s a w f1 ⟨i1162, rfl, hS⟩ hM hf1
          have hM : ref10_SameCode_l3 a_0 b_1 i1162 = some f1 := hM
          unfold ref10_SameCode_l3 at hM
          refine wp_seq_k fun K89 hK89 => ?_
          refine wp_seq_k fun K90 hK90 => ?_
          refine r_list ?_
          refine wl rfl (ky (v := .int .i64 i1162) hS (y_move hS rfl) rfl rfl fun a hS => ?_)
          refine wl rfl (ky (v := .pointer (some ⟨b586, 0 + 2, none⟩)) hS (y_fld hS rfl fl31_2) rfl rfl fun a hS => ?_)
          refine wl rfl (ky (v := v1) hS (y_load hS rfl ty29 0 rfl id (us := [v1]) rfl rfl (fun _ => rfl)) rfl rfl fun a hS => ?_)
          refine wl rfl (ky (v := .int .i64 (a_0.Ops.length : Int)) hS (y_len (R := R_OpD) (xs := a_0.Ops) hS sl29 rfl 0 rfl) rfl rfl fun a hS => ?_)
          refine wl rfl (ky (v := .bool (decide ((i1162 : Int) < (a_0.Ops.length : Int)))) hS (y_int hS rfl rfl rfl) rfl rfl fun a hS => ?_)
          refine wpList_nil ?_
          try simp only [Exit.then, Exit.inBlock, ↓reduceIte, Nat.reduceEqDiff]
          refine hK90 _ _ ?_
          rcases bool2 (decide ((i1162 : Int) < (a_0.Ops.length : Int))) with hb1351 | hb1351
          · replace hM := ct hb1351 hM
            refine c_t hS rfl hb1351 ?_
            refine wp_skip ?_
            try simp only [Exit.then, Exit.inBlock, ↓reduceIte, Nat.reduceEqDiff]
            refine hK89 _ _ ?_
            refine wp_seq_k fun K91 hK91 => ?_
            refine wp_block ?_
            refine seq_j (J := fun a w => ∃ (y1458 : Int) (y1459 : Int) (y1460 : Int) (y1461 : Int) (y1462 : (List Int)) (y1464 : ByteArray) (x1465 : Int) (x1466 : Int) (x1467 : Int) (x1468 : Int) (x1469 : (List Int)) (x1471 : ByteArray) (b1454 : Nat) (b1456 : Nat) (v1463 : Value) (v1470 : Value), St W0 No T 87 [(2, .pointer (some ⟨b586, 0, none⟩)), (3, .pointer (some ⟨b589, 0, none⟩)), (5, .int .i64 i1162), (6, .pointer (some ⟨b1454, 0, none⟩)), (7, .pointer (some ⟨b1456, 0, none⟩))] [.box b586 [.int .i64 a_0.Params, .int .i64 a_0.Regs, v1] 31, .box b589 [.int .i64 b_1.Params, .int .i64 b_1.Regs, v2] 31, .box b1454 [.int .i64 y1458, .int .i64 y1459, .int .i64 y1460, .int .i64 y1461, v1463, .string y1464] 35, .box b1456 [.int .i64 x1465, .int .i64 x1466, .int .i64 x1467, .int .i64 x1468, v1470, .string x1471] 35] [SlF R_OpD v1 a_0.Ops, SlF R_OpD v2 b_1.Ops, SlF (Rep.int .i64) v1463 y1462, SlF (Rep.int .i64) v1470 x1469] a w ∧ ref10_SameCode_j2 i1162 y1458 y1459 y1460 y1461 y1462 y1464 x1465 x1466 x1467 x1468 x1469 x1471 = some f1) ?_ ?_
            · skip
              obtain ⟨N1509, hN1509⟩ : ∃ N, N = w.heap.size := ⟨_, rfl⟩
              replace hS := hS.fact (SzF N1509) (Nat.le_of_eq hN1509)
              refine draws [(12, .new N1509), (13, .new N1509)] hS mixed rfl (fun c a d v w h => by cases d <;> exact h) fun w hQ hS => ?_
              refine dy 0 (v := .pointer (some ⟨b586, 0 + 2, none⟩)) rfl (by kernel_rfl) (by kernel_rfl) (by kernel_rfl) rfl hQ hS (y_fld hS rfl fl31_2) rfl rfl rfl fun a hS => ?_
              refine dy (l := []) 1 (v := v1) rfl (by kernel_rfl) (by kernel_rfl) (by kernel_rfl) (by kernel_rfl) hQ hS (y_load hS rfl ty29 0 rfl eo_nil (us := [v1]) rfl rfl (fun _ => rfl)) rfl rfl rfl fun a hS => ?_
              refine dy 2 (v := .int .i64 i1162) rfl (by kernel_rfl) (by kernel_rfl) (by kernel_rfl) rfl hQ hS (y_move hS rfl) rfl rfl rfl fun a hS => ?_
              obtain ⟨e1510, he1510, hM⟩ := bd hM
              obtain ⟨b1512, o1513, cs1515, hr1514, hy1517, hS⟩ := d_index (R := R_OpD) hS sl29 ty35 1 rfl he1510
              obtain ⟨v1511, rfl, hv1511⟩ := hr1514
              replace hS := hS.fact (SlF (Rep.int .i64) v1511 e1510.List) hv1511
              refine dy 3 (v := .pointer (some ⟨b1512, o1513, none⟩)) rfl (by kernel_rfl) (by kernel_rfl) (by kernel_rfl) rfl hQ hS (hy1517 rfl rfl) rfl rfl rfl fun a hS => ?_
              refine dy (l := []) 4 (v := .agg #[.int .i64 e1510.Kind, .int .i64 e1510.A, .int .i64 e1510.B, .int .i64 e1510.C, v1511, .string e1510.Sym]) rfl (by kernel_rfl) (by kernel_rfl) (by kernel_rfl) (by kernel_rfl) hQ hS (y_loadc (k := 0) hS ty35 1 rfl rfl es_nil (us := [.int .i64 e1510.Kind, .int .i64 e1510.A, .int .i64 e1510.B, .int .i64 e1510.C, v1511, .string e1510.Sym]) rfl rfl (fun h => by cases h)) rfl rfl rfl fun a hS => ?_
              refine dy 5 (v := .pointer (some ⟨b589, 0 + 2, none⟩)) rfl (by kernel_rfl) (by kernel_rfl) (by kernel_rfl) rfl hQ hS (y_fld hS rfl fl31_2) rfl rfl rfl fun a hS => ?_
              obtain ⟨N1518, hN1519⟩ : ∃ N, N = w.heap.size := ⟨_, rfl⟩
              refine wpE_upd 12 (.new N1518) _ (by kernel_rfl) (etNN (szLe hN1519 (hS.get 2 rfl))) ?_
              replace hS := hS.fact (SzF N1518) (Nat.le_of_eq hN1519)
              refine dy (l := [.new N1518]) 6 (v := v2) rfl (by kernel_rfl) (by kernel_rfl) (by kernel_rfl) (by kernel_rfl) hQ hS (y_load hS rfl ty29 1 rfl (eo_new hS hN1519 1 rfl rfl eo_nil) (us := [v2]) rfl rfl (fun _ => rfl)) rfl rfl rfl fun a hS => ?_
              refine dy 7 (v := .int .i64 i1162) rfl (by kernel_rfl) (by kernel_rfl) (by kernel_rfl) rfl hQ hS (y_move hS rfl) rfl rfl rfl fun a hS => ?_
              obtain ⟨e1520, he1520, hM⟩ := bd hM
              obtain ⟨b1522, o1523, cs1525, hr1524, hy1527, hS⟩ := d_index (R := R_OpD) hS sl29 ty35 5 rfl he1520
              obtain ⟨v1521, rfl, hv1521⟩ := hr1524
              replace hS := hS.fact (SlF (Rep.int .i64) v1521 e1520.List) hv1521
              refine dy 8 (v := .pointer (some ⟨b1522, o1523, none⟩)) rfl (by kernel_rfl) (by kernel_rfl) (by kernel_rfl) rfl hQ hS (hy1527 rfl rfl) rfl rfl rfl fun a hS => ?_
              obtain ⟨N1528, hN1529⟩ : ∃ N, N = w.heap.size := ⟨_, rfl⟩
              refine wpE_upd 12 (.new N1528) _ (by kernel_rfl) (etNN (szLe hN1529 (hS.get 2 rfl))) ?_
              replace hS := hS.fact (SzF N1528) (Nat.le_of_eq hN1529)
              refine dy (l := [.new N1528]) 9 (v := .agg #[.int .i64 e1520.Kind, .int .i64 e1520.A, .int .i64 e1520.B, .int .i64 e1520.C, v1521, .string e1520.Sym]) rfl (by kernel_rfl) (by kernel_rfl) (by kernel_rfl) (by kernel_rfl) hQ hS (y_loadc (k := 0) hS ty35 2 rfl rfl (es_new hN1529 es_nil) (us := [.int .i64 e1520.Kind, .int .i64 e1520.A, .int .i64 e1520.B, .int .i64 e1520.C, v1521, .string e1520.Sym]) rfl rfl (fun h => by cases h)) rfl rfl rfl fun a hS => ?_
              refine wpE_two (i := 10) (j := 11) rfl rfl (by kernel_rfl) rfl rfl ?_ ?_
              · skip
                skip
                have hz1533 := (hS.get 0 rfl : N1528 ≤ w.heap.size)
                refine id (k_alloc hS ze35 rfl fun b1530 hnb1532 a w hk hS => ⟨stN (hk), ?_⟩)
                refine wpE_upd 12 (.blk (some b1530)) _ (by kernel_rfl) (etNB (Nat.le_trans hz1533 hnb1532)) ?_
                have hz1537 := (hS.get 6 rfl : N1509 ≤ w.heap.size)
                refine wpE_one (i := 11) rfl (by kernel_rfl) rfl (k_alloc hS ze35 rfl fun b1534 hnb1536 a w hk hS => ⟨stN (hk), ?_⟩)
                refine wpE_upd 13 (.blk (some b1534)) _ (by kernel_rfl) (etNB (Nat.le_trans hz1537 hnb1536)) ?_
                refine wpE_one (i := 12) rfl (by kernel_rfl) rfl (k_store hS rfl rfl (us := [.int .i64 e1510.Kind, .int .i64 e1510.A, .int .i64 e1510.B, .int .i64 e1510.C, v1511, .string e1510.Sym]) rfl ty35 1 rfl rfl rfl (oc rfl (oc rfl (oc rfl (oc rfl (oc (SlR.one ((hS.get 4 rfl) : SlR (Rep.int .i64) _ _ _ _)) (oc rfl on)))))) fun w hk hS => ⟨stM rfl hk etBox, ?_⟩)
                refine wpE_one (i := 13) rfl (by kernel_rfl) rfl (k_store hS rfl rfl (us := [.int .i64 e1520.Kind, .int .i64 e1520.A, .int .i64 e1520.B, .int .i64 e1520.C, v1521, .string e1520.Sym]) rfl ty35 0 rfl rfl rfl (oc rfl (oc rfl (oc rfl (oc rfl (oc (SlR.one ((hS.get 1 rfl) : SlR (Rep.int .i64) _ _ _ _)) (oc rfl on)))))) fun w hk hS => ⟨stM rfl hk etBox, ?_⟩)
                refine wpE_done (by kernel_rfl) ?_ _
                try simp only [Exit.then, Exit.inBlock, ↓reduceIte, Nat.reduceEqDiff]
                exact ⟨e1510.Kind, e1510.A, e1510.B, e1510.C, e1510.List, e1510.Sym, e1520.Kind, e1520.A, e1520.B, e1520.C, e1520.List, e1520.Sym, b1530, b1534, v1511, v1521, (hS.meet [2, 3, 1, 0] (by decide) ⟨rfl, rfl, rfl, rfl, rfl, trivial⟩ ⟨rfl, rfl, rfl, rfl, trivial⟩ ⟨⟨7, rfl⟩, ⟨8, rfl⟩, ⟨4, rfl⟩, ⟨1, rfl⟩, trivial⟩), hM⟩
              · skip
                skip
                have hz1533 := (hS.get 6 rfl : N1509 ≤ w.heap.size)
                refine id (k_alloc hS ze35 rfl fun b1530 hnb1532 a w hk hS => ⟨stN (hk), ?_⟩)
                refine wpE_upd 13 (.blk (some b1530)) _ (by kernel_rfl) (etNB (Nat.le_trans hz1533 hnb1532)) ?_
                have hz1537 := (hS.get 0 rfl : N1528 ≤ w.heap.size)
                refine wpE_one (i := 10) rfl (by kernel_rfl) rfl (k_alloc hS ze35 rfl fun b1534 hnb1536 a w hk hS => ⟨stN (hk), ?_⟩)
                refine wpE_upd 12 (.blk (some b1534)) _ (by kernel_rfl) (etNB (Nat.le_trans hz1537 hnb1536)) ?_
                refine wpE_one (i := 12) rfl (by kernel_rfl) rfl (k_store hS rfl rfl (us := [.int .i64 e1510.Kind, .int .i64 e1510.A, .int .i64 e1510.B, .int .i64 e1510.C, v1511, .string e1510.Sym]) rfl ty35 0 rfl rfl rfl (oc rfl (oc rfl (oc rfl (oc rfl (oc (SlR.one ((hS.get 4 rfl) : SlR (Rep.int .i64) _ _ _ _)) (oc rfl on)))))) fun w hk hS => ⟨stM rfl hk etBox, ?_⟩)
                refine wpE_one (i := 13) rfl (by kernel_rfl) rfl (k_store hS rfl rfl (us := [.int .i64 e1520.Kind, .int .i64 e1520.A, .int .i64 e1520.B, .int .i64 e1520.C, v1521, .string e1520.Sym]) rfl ty35 1 rfl rfl rfl (oc rfl (oc rfl (oc rfl (oc rfl (oc (SlR.one ((hS.get 1 rfl) : SlR (Rep.int .i64) _ _ _ _)) (oc rfl on)))))) fun w hk hS => ⟨stM rfl hk etBox, ?_⟩)
                refine wpE_done (by kernel_rfl) ?_ _
                try simp only [Exit.then, Exit.inBlock, ↓reduceIte, Nat.reduceEqDiff]
                exact ⟨e1510.Kind, e1510.A, e1510.B, e1510.C, e1510.List, e1510.Sym, e1520.Kind, e1520.A, e1520.B, e1520.C, e1520.List, e1520.Sym, b1534, b1530, v1511, v1521, (hS.meet [2, 3, 0, 1] (by decide) ⟨rfl, rfl, rfl, rfl, rfl, trivial⟩ ⟨rfl, rfl, rfl, rfl, trivial⟩ ⟨⟨7, rfl⟩, ⟨8, rfl⟩, ⟨4, rfl⟩, ⟨1, rfl⟩, trivial⟩), hM⟩
            · rintro a w ⟨y1458, y1459, y1460, y1461, y1462, y1464, x1465, x1466, x1467, x1468, x1469, x1471, b1454, b1456, v1463, v1470, hS, hM⟩
              unfold ref10_SameCode_j2 at hM
              refine wp_seq_k fun K92 hK92 => ?_
              refine r_list ?_
              refine wl rfl (ky (v := .pointer (some ⟨b1454, 0 + 0, none⟩)) hS (y_fld hS rfl fl35_0) rfl rfl fun a hS => ?_)
              refine wl rfl (ky (v := .int .i64 y1458) hS (y_load hS rfl ty3 2 rfl id (us := [.int .i64 y1458]) rfl rfl (fun _ => rfl)) rfl rfl fun a hS => ?_)
              refine wl rfl (ky (v := .pointer (some ⟨b1456, 0 + 0, none⟩)) hS (y_fld hS rfl fl35_0) rfl rfl fun a hS => ?_)
              refine wl rfl (ky (v := .int .i64 x1465) hS (y_load hS rfl ty3 3 rfl id (us := [.int .i64 x1465]) rfl rfl (fun _ => rfl)) rfl rfl fun a hS => ?_)
              refine wl rfl (ky (v := .bool ((y1458 : Int) != x1465)) hS (y_int hS rfl rfl rfl) rfl rfl fun a hS => ?_)
              refine wl rfl (ky (v := .bool ((y1458 : Int) != x1465)) hS (y_move hS rfl) rfl rfl fun a hS => ?_)
              rcases bool2 ((y1458 : Int) != x1465) with hb1479 | hb1479
              · replace hM := ct hb1479 hM
                refine wn hS rfl rfl rfl hb1479 rfl rfl fun a hS => ?_
                refine wn hS rfl rfl rfl hb1479 rfl rfl fun a hS => ?_
                refine wn hS rfl rfl rfl hb1479 rfl rfl fun a hS => ?_
                refine wn hS rfl rfl rfl hb1479 rfl rfl fun a hS => ?_
                refine wn hS rfl rfl rfl hb1479 rfl rfl fun a hS => ?_
                refine wl rfl (ky (v := .bool true) hS (y_pickt hS rfl hb1479 rfl) rfl rfl fun a hS => ?_)
                refine wl rfl (ky (v := .bool true) hS (y_move hS rfl) rfl rfl fun a hS => ?_)
                refine wn hS rfl rfl rfl rfl rfl rfl fun a hS => ?_
                refine wn hS rfl rfl rfl rfl rfl rfl fun a hS => ?_
                refine wn hS rfl rfl rfl rfl rfl rfl fun a hS => ?_
                refine wn hS rfl rfl rfl rfl rfl rfl fun a hS => ?_
                refine wn hS rfl rfl rfl rfl rfl rfl fun a hS => ?_
                refine wl rfl (ky (v := .bool true) hS (y_pickt hS rfl rfl rfl) rfl rfl fun a hS => ?_)
                refine wl rfl (ky (v := .bool true) hS (y_move hS rfl) rfl rfl fun a hS => ?_)
                refine wn hS rfl rfl rfl rfl rfl rfl fun a hS => ?_
                refine wn hS rfl rfl rfl rfl rfl rfl fun a hS => ?_
                refine wn hS rfl rfl rfl rfl rfl rfl fun a hS => ?_
                refine wn hS rfl rfl rfl rfl rfl rfl fun a hS => ?_
                refine wn hS rfl rfl rfl rfl rfl rfl fun a hS => ?_
                refine wl rfl (ky (v := .bool true) hS (y_pickt hS rfl rfl rfl) rfl rfl fun a hS => ?_)
                refine wl rfl (ky (v := .bool true) hS (y_move hS rfl) rfl rfl fun a hS => ?_)
                refine wn hS rfl rfl rfl rfl rfl rfl fun a hS => ?_
                refine wn hS rfl rfl rfl rfl rfl rfl fun a hS => ?_
                refine wn hS rfl rfl rfl rfl rfl rfl fun a hS => ?_
                refine wn hS rfl rfl rfl rfl rfl rfl fun a hS => ?_
                refine wn hS rfl rfl rfl rfl rfl rfl fun a hS => ?_
                refine wl rfl (ky (v := .bool true) hS (y_pickt hS rfl rfl rfl) rfl rfl fun a hS => ?_)
                refine wl rfl (ky (v := .bool true) hS (y_move hS rfl) rfl rfl fun a hS => ?_)
                refine wn hS rfl rfl rfl rfl rfl rfl fun a hS => ?_
                refine wn hS rfl rfl rfl rfl rfl rfl fun a hS => ?_
                refine wn hS rfl rfl rfl rfl rfl rfl fun a hS => ?_
                refine wn hS rfl rfl rfl rfl rfl rfl fun a hS => ?_
                refine wn hS rfl rfl rfl rfl rfl rfl fun a hS => ?_
                refine wn hS rfl rfl rfl rfl rfl rfl fun a hS => ?_
                refine wl rfl (ky (v := .bool true) hS (y_pickt hS rfl rfl rfl) rfl rfl fun a hS => ?_)
                refine wpList_nil ?_
                try simp only [Exit.then, Exit.inBlock, ↓reduceIte, Nat.reduceEqDiff]
                refine hK92 _ _ ?_
                refine c_t hS rfl rfl ?_
                refine wp_seq_k fun K93 hK93 => ?_
                refine r_list ?_
                refine wl rfl (ky (v := .bool false) hS (y_assign hS rfl) rfl rfl fun a hS => ?_)
                refine wpList_nil ?_
                try simp only [Exit.then, Exit.inBlock, ↓reduceIte, Nat.reduceEqDiff]
                refine hK93 _ _ ?_
                refine wp_ret ?_
                injection hM with hM
                subst hM
                have hr := hf1 _ rfl
                subst hr
                replace hMo1 := el_out hMo1
                have hM := hMo1
                injection hM with hM
                subst hM
                try simp only [Exit.then, Exit.inBlock, ↓reduceIte, Nat.reduceEqDiff]
                refine ret_ok hS Tryz.results11 (res_tmp hS rfl res_nil) ?_
                exact rfl
              · replace hM := cf hb1479 hM
                refine wg hS rfl rfl rfl hb1479 (ky (v := .pointer (some ⟨b1454, 0 + 1, none⟩)) hS (y_fld hS rfl fl35_1) rfl rfl fun a hS => ?_)
                refine wg hS rfl rfl rfl hb1479 (ky (v := .int .i64 y1459) hS (y_load hS rfl ty3 2 rfl id (us := [.int .i64 y1459]) rfl rfl (fun _ => rfl)) rfl rfl fun a hS => ?_)
                refine wg hS rfl rfl rfl hb1479 (ky (v := .pointer (some ⟨b1456, 0 + 1, none⟩)) hS (y_fld hS rfl fl35_1) rfl rfl fun a hS => ?_)
                refine wg hS rfl rfl rfl hb1479 (ky (v := .int .i64 x1466) hS (y_load hS rfl ty3 3 rfl id (us := [.int .i64 x1466]) rfl rfl (fun _ => rfl)) rfl rfl fun a hS => ?_)
                refine wg hS rfl rfl rfl hb1479 (ky (v := .bool ((y1459 : Int) != x1466)) hS (y_int hS rfl rfl rfl) rfl rfl fun a hS => ?_)
                refine wl rfl (ky (v := .bool ((y1459 : Int) != x1466)) hS (y_pickf hS rfl hb1479 rfl) rfl rfl fun a hS => ?_)
                refine wl rfl (ky (v := .bool ((y1459 : Int) != x1466)) hS (y_move hS rfl) rfl rfl fun a hS => ?_)
                rcases bool2 ((y1459 : Int) != x1466) with hb1480 | hb1480
                · replace hM := ct hb1480 hM
                  refine wn hS rfl rfl rfl hb1480 rfl rfl fun a hS => ?_
                  refine wn hS rfl rfl rfl hb1480 rfl rfl fun a hS => ?_
                  refine wn hS rfl rfl rfl hb1480 rfl rfl fun a hS => ?_
                  refine wn hS rfl rfl rfl hb1480 rfl rfl fun a hS => ?_
                  refine wn hS rfl rfl rfl hb1480 rfl rfl fun a hS => ?_
                  refine wl rfl (ky (v := .bool true) hS (y_pickt hS rfl hb1480 rfl) rfl rfl fun a hS => ?_)
                  refine wl rfl (ky (v := .bool true) hS (y_move hS rfl) rfl rfl fun a hS => ?_)
                  refine wn hS rfl rfl rfl rfl rfl rfl fun a hS => ?_
                  refine wn hS rfl rfl rfl rfl rfl rfl fun a hS => ?_
                  refine wn hS rfl rfl rfl rfl rfl rfl fun a hS => ?_
                  refine wn hS rfl rfl rfl rfl rfl rfl fun a hS => ?_
                  refine wn hS rfl rfl rfl rfl rfl rfl fun a hS => ?_
                  refine wl rfl (ky (v := .bool true) hS (y_pickt hS rfl rfl rfl) rfl rfl fun a hS => ?_)
                  refine wl rfl (ky (v := .bool true) hS (y_move hS rfl) rfl rfl fun a hS => ?_)
                  refine wn hS rfl rfl rfl rfl rfl rfl fun a hS => ?_
                  refine wn hS rfl rfl rfl rfl rfl rfl fun a hS => ?_
                  refine wn hS rfl rfl rfl rfl rfl rfl fun a hS => ?_
                  refine wn hS rfl rfl rfl rfl rfl rfl fun a hS => ?_
                  refine wn hS rfl rfl rfl rfl rfl rfl fun a hS => ?_
                  refine wl rfl (ky (v := .bool true) hS (y_pickt hS rfl rfl rfl) rfl rfl fun a hS => ?_)
                  refine wl rfl (ky (v := .bool true) hS (y_move hS rfl) rfl rfl fun a hS => ?_)
                  refine wn hS rfl rfl rfl rfl rfl rfl fun a hS => ?_
                  refine wn hS rfl rfl rfl rfl rfl rfl fun a hS => ?_
                  refine wn hS rfl rfl rfl rfl rfl rfl fun a hS => ?_
                  refine wn hS rfl rfl rfl rfl rfl rfl fun a hS => ?_
                  refine wn hS rfl rfl rfl rfl rfl rfl fun a hS => ?_
                  refine wn hS rfl rfl rfl rfl rfl rfl fun a hS => ?_
                  refine wl rfl (ky (v := .bool true) hS (y_pickt hS rfl rfl rfl) rfl rfl fun a hS => ?_)
                  refine wpList_nil ?_
                  try simp only [Exit.then, Exit.inBlock, ↓reduceIte, Nat.reduceEqDiff]
                  refine hK92 _ _ ?_
                  refine c_t hS rfl rfl ?_
                  refine wp_seq_k fun K94 hK94 => ?_
                  refine r_list ?_
                  refine wl rfl (ky (v := .bool false) hS (y_assign hS rfl) rfl rfl fun a hS => ?_)
                  refine wpList_nil ?_
                  try simp only [Exit.then, Exit.inBlock, ↓reduceIte, Nat.reduceEqDiff]
                  refine hK94 _ _ ?_
                  refine wp_ret ?_
                  injection hM with hM
                  subst hM
                  have hr := hf1 _ rfl
                  subst hr
                  replace hMo1 := el_out hMo1
                  have hM := hMo1
                  injection hM with hM
                  subst hM
                  try simp only [Exit.then, Exit.inBlock, ↓reduceIte, Nat.reduceEqDiff]
                  refine ret_ok hS Tryz.results11 (res_tmp hS rfl res_nil) ?_
                  exact rfl
                · replace hM := cf hb1480 hM
                  refine wg hS rfl rfl rfl hb1480 (ky (v := .pointer (some ⟨b1454, 0 + 2, none⟩)) hS (y_fld hS rfl fl35_2) rfl rfl fun a hS => ?_)
                  refine wg hS rfl rfl rfl hb1480 (ky (v := .int .i64 y1460) hS (y_load hS rfl ty3 2 rfl id (us := [.int .i64 y1460]) rfl rfl (fun _ => rfl)) rfl rfl fun a hS => ?_)
                  refine wg hS rfl rfl rfl hb1480 (ky (v := .pointer (some ⟨b1456, 0 + 2, none⟩)) hS (y_fld hS rfl fl35_2) rfl rfl fun a hS => ?_)
                  refine wg hS rfl rfl rfl hb1480 (ky (v := .int .i64 x1467) hS (y_load hS rfl ty3 3 rfl id (us := [.int .i64 x1467]) rfl rfl (fun _ => rfl)) rfl rfl fun a hS => ?_)
                  refine wg hS rfl rfl rfl hb1480 (ky (v := .bool ((y1460 : Int) != x1467)) hS (y_int hS rfl rfl rfl) rfl rfl fun a hS => ?_)
                  refine wl rfl (ky (v := .bool ((y1460 : Int) != x1467)) hS (y_pickf hS rfl hb1480 rfl) rfl rfl fun a hS => ?_)
                  refine wl rfl (ky (v := .bool ((y1460 : Int) != x1467)) hS (y_move hS rfl) rfl rfl fun a hS => ?_)
                  rcases bool2 ((y1460 : Int) != x1467) with hb1481 | hb1481
                  · replace hM := ct hb1481 hM
                    refine wn hS rfl rfl rfl hb1481 rfl rfl fun a hS => ?_
                    refine wn hS rfl rfl rfl hb1481 rfl rfl fun a hS => ?_
                    refine wn hS rfl rfl rfl hb1481 rfl rfl fun a hS => ?_
                    refine wn hS rfl rfl rfl hb1481 rfl rfl fun a hS => ?_
                    refine wn hS rfl rfl rfl hb1481 rfl rfl fun a hS => ?_
                    refine wl rfl (ky (v := .bool true) hS (y_pickt hS rfl hb1481 rfl) rfl rfl fun a hS => ?_)
                    refine wl rfl (ky (v := .bool true) hS (y_move hS rfl) rfl rfl fun a hS => ?_)
                    refine wn hS rfl rfl rfl rfl rfl rfl fun a hS => ?_
                    refine wn hS rfl rfl rfl rfl rfl rfl fun a hS => ?_
                    refine wn hS rfl rfl rfl rfl rfl rfl fun a hS => ?_
                    refine wn hS rfl rfl rfl rfl rfl rfl fun a hS => ?_
                    refine wn hS rfl rfl rfl rfl rfl rfl fun a hS => ?_
                    refine wl rfl (ky (v := .bool true) hS (y_pickt hS rfl rfl rfl) rfl rfl fun a hS => ?_)
                    refine wl rfl (ky (v := .bool true) hS (y_move hS rfl) rfl rfl fun a hS => ?_)
                    refine wn hS rfl rfl rfl rfl rfl rfl fun a hS => ?_
                    refine wn hS rfl rfl rfl rfl rfl rfl fun a hS => ?_
                    refine wn hS rfl rfl rfl rfl rfl rfl fun a hS => ?_
                    refine wn hS rfl rfl rfl rfl rfl rfl fun a hS => ?_
                    refine wn hS rfl rfl rfl rfl rfl rfl fun a hS => ?_
                    refine wn hS rfl rfl rfl rfl rfl rfl fun a hS => ?_
                    refine wl rfl (ky (v := .bool true) hS (y_pickt hS rfl rfl rfl) rfl rfl fun a hS => ?_)
                    refine wpList_nil ?_
                    try simp only [Exit.then, Exit.inBlock, ↓reduceIte, Nat.reduceEqDiff]
                    refine hK92 _ _ ?_
                    refine c_t hS rfl rfl ?_
                    refine wp_seq_k fun K95 hK95 => ?_
                    refine r_list ?_
                    refine wl rfl (ky (v := .bool false) hS (y_assign hS rfl) rfl rfl fun a hS => ?_)
                    refine wpList_nil ?_
                    try simp only [Exit.then, Exit.inBlock, ↓reduceIte, Nat.reduceEqDiff]
                    refine hK95 _ _ ?_
                    refine wp_ret ?_
                    injection hM with hM
                    subst hM
                    have hr := hf1 _ rfl
                    subst hr
                    replace hMo1 := el_out hMo1
                    have hM := hMo1
                    injection hM with hM
                    subst hM
                    try simp only [Exit.then, Exit.inBlock, ↓reduceIte, Nat.reduceEqDiff]
                    refine ret_ok hS Tryz.results11 (res_tmp hS rfl res_nil) ?_
                    exact rfl
                  · replace hM := cf hb1481 hM
                    refine wg hS rfl rfl rfl hb1481 (ky (v := .pointer (some ⟨b1454, 0 + 3, none⟩)) hS (y_fld hS rfl fl35_3) rfl rfl fun a hS => ?_)
                    refine wg hS rfl rfl rfl hb1481 (ky (v := .int .i64 y1461) hS (y_load hS rfl ty3 2 rfl id (us := [.int .i64 y1461]) rfl rfl (fun _ => rfl)) rfl rfl fun a hS => ?_)
                    refine wg hS rfl rfl rfl hb1481 (ky (v := .pointer (some ⟨b1456, 0 + 3, none⟩)) hS (y_fld hS rfl fl35_3) rfl rfl fun a hS => ?_)
                    refine wg hS rfl rfl rfl hb1481 (ky (v := .int .i64 x1468) hS (y_load hS rfl ty3 3 rfl id (us := [.int .i64 x1468]) rfl rfl (fun _ => rfl)) rfl rfl fun a hS => ?_)
                    refine wg hS rfl rfl rfl hb1481 (ky (v := .bool ((y1461 : Int) != x1468)) hS (y_int hS rfl rfl rfl) rfl rfl fun a hS => ?_)
                    refine wl rfl (ky (v := .bool ((y1461 : Int) != x1468)) hS (y_pickf hS rfl hb1481 rfl) rfl rfl fun a hS => ?_)
                    refine wl rfl (ky (v := .bool ((y1461 : Int) != x1468)) hS (y_move hS rfl) rfl rfl fun a hS => ?_)
                    rcases bool2 ((y1461 : Int) != x1468) with hb1482 | hb1482
                    · replace hM := ct hb1482 hM
                      refine wn hS rfl rfl rfl hb1482 rfl rfl fun a hS => ?_
                      refine wn hS rfl rfl rfl hb1482 rfl rfl fun a hS => ?_
                      refine wn hS rfl rfl rfl hb1482 rfl rfl fun a hS => ?_
                      refine wn hS rfl rfl rfl hb1482 rfl rfl fun a hS => ?_
                      refine wn hS rfl rfl rfl hb1482 rfl rfl fun a hS => ?_
                      refine wl rfl (ky (v := .bool true) hS (y_pickt hS rfl hb1482 rfl) rfl rfl fun a hS => ?_)
                      refine wl rfl (ky (v := .bool true) hS (y_move hS rfl) rfl rfl fun a hS => ?_)
                      refine wn hS rfl rfl rfl rfl rfl rfl fun a hS => ?_
                      refine wn hS rfl rfl rfl rfl rfl rfl fun a hS => ?_
                      refine wn hS rfl rfl rfl rfl rfl rfl fun a hS => ?_
                      refine wn hS rfl rfl rfl rfl rfl rfl fun a hS => ?_
                      refine wn hS rfl rfl rfl rfl rfl rfl fun a hS => ?_
                      refine wn hS rfl rfl rfl rfl rfl rfl fun a hS => ?_
                      refine wl rfl (ky (v := .bool true) hS (y_pickt hS rfl rfl rfl) rfl rfl fun a hS => ?_)
                      refine wpList_nil ?_
                      try simp only [Exit.then, Exit.inBlock, ↓reduceIte, Nat.reduceEqDiff]
                      refine hK92 _ _ ?_
                      refine c_t hS rfl rfl ?_
                      refine wp_seq_k fun K96 hK96 => ?_
                      refine r_list ?_
                      refine wl rfl (ky (v := .bool false) hS (y_assign hS rfl) rfl rfl fun a hS => ?_)
                      refine wpList_nil ?_
                      try simp only [Exit.then, Exit.inBlock, ↓reduceIte, Nat.reduceEqDiff]
                      refine hK96 _ _ ?_
                      refine wp_ret ?_
                      injection hM with hM
                      subst hM
                      have hr := hf1 _ rfl
                      subst hr
                      replace hMo1 := el_out hMo1
                      have hM := hMo1
                      injection hM with hM
                      subst hM
                      try simp only [Exit.then, Exit.inBlock, ↓reduceIte, Nat.reduceEqDiff]
                      refine ret_ok hS Tryz.results11 (res_tmp hS rfl res_nil) ?_
                      exact rfl
                    · replace hM := cf hb1482 hM
                      refine wg hS rfl rfl rfl hb1482 (ky (v := .pointer (some ⟨b1454, 0 + 5, none⟩)) hS (y_fld hS rfl fl35_5) rfl rfl fun a hS => ?_)
                      refine wg hS rfl rfl rfl hb1482 (ky (v := .string y1464) hS (y_load hS rfl ty9 2 rfl id (us := [.string y1464]) rfl rfl (fun _ => rfl)) rfl rfl fun a hS => ?_)
                      refine wg hS rfl rfl rfl hb1482 (ky (v := .pointer (some ⟨b1456, 0 + 5, none⟩)) hS (y_fld hS rfl fl35_5) rfl rfl fun a hS => ?_)
                      refine wg hS rfl rfl rfl hb1482 (ky (v := .string x1471) hS (y_load hS rfl ty9 3 rfl id (us := [.string x1471]) rfl rfl (fun _ => rfl)) rfl rfl fun a hS => ?_)
                      refine wg hS rfl rfl rfl hb1482 (ky (v := .bool (!(y1464.toList == x1471.toList))) hS (y_str hS rfl rfl rfl) rfl rfl fun a hS => ?_)
                      refine wl rfl (ky (v := .bool (!(y1464.toList == x1471.toList))) hS (y_pickf hS rfl hb1482 rfl) rfl rfl fun a hS => ?_)
                      refine wl rfl (ky (v := .bool (!(y1464.toList == x1471.toList))) hS (y_move hS rfl) rfl rfl fun a hS => ?_)
                      rcases bool2 (!(y1464.toList == x1471.toList)) with hb1483 | hb1483
                      · replace hM := ct hb1483 hM
                        refine wn hS rfl rfl rfl hb1483 rfl rfl fun a hS => ?_
                        refine wn hS rfl rfl rfl hb1483 rfl rfl fun a hS => ?_
                        refine wn hS rfl rfl rfl hb1483 rfl rfl fun a hS => ?_
                        refine wn hS rfl rfl rfl hb1483 rfl rfl fun a hS => ?_
                        refine wn hS rfl rfl rfl hb1483 rfl rfl fun a hS => ?_
                        refine wn hS rfl rfl rfl hb1483 rfl rfl fun a hS => ?_
                        refine wl rfl (ky (v := .bool true) hS (y_pickt hS rfl hb1483 rfl) rfl rfl fun a hS => ?_)
                        refine wpList_nil ?_
                        try simp only [Exit.then, Exit.inBlock, ↓reduceIte, Nat.reduceEqDiff]
                        refine hK92 _ _ ?_
                        refine c_t hS rfl rfl ?_
                        refine wp_seq_k fun K97 hK97 => ?_
                        refine r_list ?_
                        refine wl rfl (ky (v := .bool false) hS (y_assign hS rfl) rfl rfl fun a hS => ?_)
                        refine wpList_nil ?_
                        try simp only [Exit.then, Exit.inBlock, ↓reduceIte, Nat.reduceEqDiff]
                        refine hK97 _ _ ?_
                        refine wp_ret ?_
                        injection hM with hM
                        subst hM
                        have hr := hf1 _ rfl
                        subst hr
                        replace hMo1 := el_out hMo1
                        have hM := hMo1
                        injection hM with hM
                        subst hM
                        try simp only [Exit.then, Exit.inBlock, ↓reduceIte, Nat.reduceEqDiff]
                        refine ret_ok hS Tryz.results11 (res_tmp hS rfl res_nil) ?_
                        exact rfl
                      · replace hM := cf hb1483 hM
                        refine wg hS rfl rfl rfl hb1483 (ky (v := .pointer (some ⟨b1454, 0 + 4, none⟩)) hS (y_fld hS rfl fl35_4) rfl rfl fun a hS => ?_)
                        refine wg hS rfl rfl rfl hb1483 (ky (v := v1463) hS (y_load hS rfl ty33 2 rfl id (us := [v1463]) rfl rfl (fun _ => rfl)) rfl rfl fun a hS => ?_)
                        refine wg hS rfl rfl rfl hb1483 (ky (v := .pointer (some ⟨b1456, 0 + 4, none⟩)) hS (y_fld hS rfl fl35_4) rfl rfl fun a hS => ?_)
                        refine wg hS rfl rfl rfl hb1483 (ky (v := v1470) hS (y_load hS rfl ty33 3 rfl id (us := [v1470]) rfl rfl (fun _ => rfl)) rfl rfl fun a hS => ?_)
                        obtain ⟨u1484, hu1484, hM⟩ := bd hM
                        refine wg hS rfl rfl rfl hb1483 (k_call hS ci29 rfl rfl (ref10_SameNumbers_c _ _ hS.dlt y1462 x1469 _ _ (hS.get 2 rfl) (hS.get 3 rfl) _ hu1484) fun _ w hR a hk hA => ?_)
                        have he := Eq.symm hR
                        subst he
                        have hS := hA [] (fun r hr => by cases hr) List.Pairwise.nil
                        refine wg hS rfl rfl rfl hb1483 (ky (v := .bool (!(u1484))) hS (y_not hS rfl) rfl rfl fun a hS => ?_)
                        refine wl rfl (ky (v := .bool (!(u1484))) hS (y_pickf hS rfl hb1483 rfl) rfl rfl fun a hS => ?_)
                        refine wpList_nil ?_
                        try simp only [Exit.then, Exit.inBlock, ↓reduceIte, Nat.reduceEqDiff]
                        refine hK92 _ _ ?_
                        rcases bool2 (!(u1484)) with hb1486 | hb1486
                        · replace hM := ct hb1486 hM
                          refine c_t hS rfl hb1486 ?_
                          refine wp_seq_k fun K98 hK98 => ?_
                          refine r_list ?_
                          refine wl rfl (ky (v := .bool false) hS (y_assign hS rfl) rfl rfl fun a hS => ?_)
                          refine wpList_nil ?_
                          try simp only [Exit.then, Exit.inBlock, ↓reduceIte, Nat.reduceEqDiff]
                          refine hK98 _ _ ?_
                          refine wp_ret ?_
                          injection hM with hM
                          subst hM
                          have hr := hf1 _ rfl
                          subst hr
                          replace hMo1 := el_out hMo1
                          have hM := hMo1
                          injection hM with hM
                          subst hM
                          try simp only [Exit.then, Exit.inBlock, ↓reduceIte, Nat.reduceEqDiff]
                          refine ret_ok hS Tryz.results11 (res_tmp hS rfl res_nil) ?_
                          exact rfl
                        · replace hM := cf hb1486 hM
                          refine c_f hS rfl hb1486 ?_
                          refine wp_skip ?_
                          try simp only [Exit.then, Exit.inBlock, ↓reduceIte, Nat.reduceEqDiff]
                          refine hK91 _ _ ?_
                          refine r_list ?_
                          refine wl rfl (ky (v := .int .i64 i1162) hS (y_move hS rfl) rfl rfl fun a hS => ?_)
                          refine wl rfl (ky (v := .int .i64 (IntKind.i64.wrap (i1162 + 1))) hS (y_int hS rfl rfl rfl) rfl rfl fun a hS => ?_)
                          refine wl rfl (ky (v := .int .i64 (IntKind.i64.wrap (i1162 + 1))) hS (y_assign hS rfl) rfl rfl fun a hS => ?_)
                          refine wpList_nil ?_
                          try simp only [Exit.then, Exit.inBlock, ↓reduceIte, Nat.reduceEqDiff]
                          exact ⟨IntKind.i64.wrap (i1162 + 1), (Option.some.inj hM).symm, (IntKind.i64.wrap (i1162 + 1)), rfl, (hS.meet [0, 1] (by decide) ⟨rfl, rfl, rfl, trivial⟩ ⟨rfl, rfl, trivial⟩ ⟨⟨0, rfl⟩, ⟨1, rfl⟩, trivial⟩)⟩
          · replace hM := cf hb1351 hM
            refine c_f hS rfl hb1351 ?_
            refine wp_exit ?_
            try simp only [Exit.then, Exit.inBlock, ↓reduceIte, Nat.reduceEqDiff]
            injection hM with hM
            subst hM
            have hr := hf1 _ rfl
            subst hr
            replace hMo1 := el_go hMo1
            have hM : ref10_SameCode_j1 = some y := hMo1
            exact ⟨(hS.meet [] (by decide) trivial trivial trivial), hM⟩
        · rintro a w ⟨hS, hM⟩
          unfold ref10_SameCode_j1 at hM
          refine wp_seq_k fun K67 hK67 => ?_
          refine r_list ?_
          refine wl rfl (ky (v := .bool true) hS (y_assign hS rfl) rfl rfl fun a hS => ?_)
          refine wpList_nil ?_
          try simp only [Exit.then, Exit.inBlock, ↓reduceIte, Nat.reduceEqDiff]
          refine hK67 _ _ ?_
          refine wp_ret ?_
          injection hM with hM
          subst hM
          try simp only [Exit.then, Exit.inBlock, ↓reduceIte, Nat.reduceEqDiff]
          refine ret_ok hS Tryz.results11 (res_tmp hS rfl res_nil) ?_
          exact rfl
end Go.Proofs.YtpbbnkpplcnaoaaGreatDoor
