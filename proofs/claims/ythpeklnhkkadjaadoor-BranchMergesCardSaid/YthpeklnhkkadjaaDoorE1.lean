/- What functions of the program compute; that they do. -/
import Derived.Test.YthpeklnhkkadjaaDoorMT
import Derived.Test.YthpeklnhkkadjaaDoorJ1
import Derived.Test.YthpeklnhkkadjaaDoorD1
set_option linter.unusedVariables false
set_option linter.unusedSimpArgs false
namespace Go.Proofs.YthpeklnhkkadjaaDoor
open Go.RowKit
noncomputable def clone_Key (s_0 : (List KeyD)) : Option (List KeyD) := gd (roomB (([] : List KeyD).length + s_0.length)) <| some ((([] : List KeyD) ++ s_0))
set_option maxRecDepth 100000 in
set_option maxHeartbeats 4000000 in
theorem clone_Key_c (T : Nat → Prop) (W0 : World) (hT : ∀ k, T k → k < W0.heap.size) (s_0 : (List KeyD)) (v1 : Value) (hv1 : SlR R_KeyD T W0 v1 s_0) (y : (List KeyD)) (hM : clone_Key s_0 = some y) : Rets Tryd.prog No 58 [v1] W0 (fun v w' => ∃ (v2 : Value) (cl3 : List Value), v = v2 ∧ OwnR R_KeyD T W0 w' [.own v2 26 R_KeyD.size cl3] 26 v2 cl3 y) := by
  refine enter (c := _) Tryd.func58 rfl T 8 Tryd.ntmps58 hT rfl fun a hS => ?_
  replace hS := hS.fact (SlF R_KeyD v1 s_0) (SlR.dn hv1)
  unfold clone_Key at hM
  refine wp_seq_k fun K6 hK6 => ?_
  refine r_list ?_
  refine wl rfl (ky (v := .slice none 0 0) hS (y_assign hS rfl) rfl rfl fun a hS => ?_)
  refine wpList_nil ?_
  try simp only [Exit.then, Exit.inBlock, ↓reduceIte, Nat.reduceEqDiff]
  refine hK6 _ _ ?_
  refine wp_seq_k fun K7 hK7 => ?_
  refine wp_seq_k fun K8 hK8 => ?_
  refine r_list ?_
  refine wl rfl (ky (v := v1) hS (y_move hS rfl) rfl rfl fun a hS => ?_)
  obtain ⟨bn12, hbn13, hy14, hy15⟩ := y_slnil (R := R_KeyD) hS sl22 0 rfl
  refine wl rfl (ky (v := .bool bn12) hS (hy14 rfl) rfl rfl fun a hS => ?_)
  refine wpList_nil ?_
  try simp only [Exit.then, Exit.inBlock, ↓reduceIte, Nat.reduceEqDiff]
  refine hK8 _ _ ?_
  rcases bool2 (bn12) with hb16 | hb16
  · rw [hbn13 hb16] at hM
    have hM : some ([]) = some y := hM
    refine c_t hS rfl hb16 ?_
    refine wp_seq_k fun K9 hK9 => ?_
    refine r_list ?_
    refine wl rfl (ky (v := .slice none 0 0) hS (y_assign hS rfl) rfl rfl fun a hS => ?_)
    refine wpList_nil ?_
    try simp only [Exit.then, Exit.inBlock, ↓reduceIte, Nat.reduceEqDiff]
    refine hK9 _ _ ?_
    refine wp_ret ?_
    injection hM with hM
    subst hM
    try simp only [Exit.then, Exit.inBlock, ↓reduceIte, Nat.reduceEqDiff]
    refine ret_ok hS Tryd.results58 (res_tmp hS rfl res_nil) ?_
    exact ⟨.slice none 0 0, [], rfl, ret_nil _ _ _ _ _ _⟩
  · skip
    refine c_f hS rfl hb16 ?_
    refine wp_skip ?_
    try simp only [Exit.then, Exit.inBlock, ↓reduceIte, Nat.reduceEqDiff]
    refine hK7 _ _ ?_
    refine wp_seq_k fun K10 hK10 => ?_
    refine r_list ?_
    refine wl rfl (k_bslice0 R_KeyD hS el22 rfl fun v17 a w hk hS => ?_)
    refine wl rfl (ky (v := v1) hS (y_move hS rfl) rfl rfl fun a hS => ?_)
    obtain ⟨hg19, hM⟩ := gd_some hM
    refine wl rfl (k_apps (R := R_KeyD) (xs := ([] : List KeyD)) (ys := s_0) hS el22 (by decide) (by decide) rfl rfl 0 rfl 0 rfl 1 rfl hg19 rfl fun v20 cl21 a w hk hS => ?_)
    refine wl rfl (ky (v := v20) hS (y_assign hS rfl) rfl rfl fun a hS => ?_)
    refine wpList_nil ?_
    try simp only [Exit.then, Exit.inBlock, ↓reduceIte, Nat.reduceEqDiff]
    refine hK10 _ _ ?_
    refine wp_ret ?_
    injection hM with hM
    subst hM
    try simp only [Exit.then, Exit.inBlock, ↓reduceIte, Nat.reduceEqDiff]
    refine ret_ok hS Tryd.results58 (res_tmp hS rfl res_nil) ?_
    exact ⟨v20, cl21, rfl, hS.retOwn ⟨.inr (List.mem_of_getElem? (i := 0) rfl), trivial⟩ 0 rfl 0 rfl⟩

noncomputable def cmp_isNaN_int (x_0 : Int) : Option Bool := some ((x_0 : Int) != x_0)
set_option maxRecDepth 100000 in
set_option maxHeartbeats 4000000 in
theorem cmp_isNaN_int_c (T : Nat → Prop) (W0 : World) (hT : ∀ k, T k → k < W0.heap.size) (x_0 : Int) (y : Bool) (hM : cmp_isNaN_int x_0 = some y) : Rets Tryd.prog No 125 [.int .i64 x_0] W0 (fun v w' => v = .bool y) := by
  refine enter (c := _) Tryd.func125 rfl T 6 Tryd.ntmps125 hT rfl fun a hS => ?_
  unfold cmp_isNaN_int at hM
  refine wp_seq_k fun K3 hK3 => ?_
  refine r_list ?_
  refine wl rfl (ky (v := .bool false) hS (y_assign hS rfl) rfl rfl fun a hS => ?_)
  refine wpList_nil ?_
  try simp only [Exit.then, Exit.inBlock, ↓reduceIte, Nat.reduceEqDiff]
  refine hK3 _ _ ?_
  refine wp_seq_k fun K4 hK4 => ?_
  refine r_list ?_
  refine wl rfl (ky (v := .int .i64 x_0) hS (y_move hS rfl) rfl rfl fun a hS => ?_)
  refine wl rfl (ky (v := .int .i64 x_0) hS (y_move hS rfl) rfl rfl fun a hS => ?_)
  refine wl rfl (ky (v := .bool ((x_0 : Int) != x_0)) hS (y_int hS rfl rfl rfl) rfl rfl fun a hS => ?_)
  refine wl rfl (ky (v := .bool ((x_0 : Int) != x_0)) hS (y_assign hS rfl) rfl rfl fun a hS => ?_)
  refine wpList_nil ?_
  try simp only [Exit.then, Exit.inBlock, ↓reduceIte, Nat.reduceEqDiff]
  refine hK4 _ _ ?_
  refine wp_ret ?_
  injection hM with hM
  subst hM
  try simp only [Exit.then, Exit.inBlock, ↓reduceIte, Nat.reduceEqDiff]
  refine ret_ok hS Tryd.results125 (res_tmp hS rfl res_nil) ?_
  exact rfl

noncomputable def cmp_Compare (x_0 : Int) (y_1 : Int) : Option Int := (cmp_isNaN_int x_0).bind fun u10 => (cmp_isNaN_int y_1).bind fun u12 => cond u10 (cond u12 (some (0)) (some ((-1)))) (cond u12 (some (1)) (cond (decide ((x_0 : Int) < y_1)) (some ((-1))) (cond (decide ((y_1 : Int) < x_0)) (some (1)) (some (0)))))
set_option maxRecDepth 100000 in
set_option maxHeartbeats 4000000 in
theorem cmp_Compare_c (T : Nat → Prop) (W0 : World) (hT : ∀ k, T k → k < W0.heap.size) (x_0 : Int) (y_1 : Int) (y : Int) (hM : cmp_Compare x_0 y_1 = some y) : Rets Tryd.prog No 112 [.int .i64 x_0, .int .i64 y_1] W0 (fun v w' => v = .int .i64 y) := by
  refine enter (c := _) Tryd.func112 rfl T 20 Tryd.ntmps112 hT rfl fun a hS => ?_
  unfold cmp_Compare at hM
  refine wp_seq_k fun K20 hK20 => ?_
  refine r_list ?_
  refine wl rfl (ky (v := .int .i64 0) hS (y_assign hS rfl) rfl rfl fun a hS => ?_)
  refine wpList_nil ?_
  try simp only [Exit.then, Exit.inBlock, ↓reduceIte, Nat.reduceEqDiff]
  refine hK20 _ _ ?_
  refine wp_seq_k fun K21 hK21 => ?_
  refine r_list ?_
  refine wl rfl (ky (v := .int .i64 x_0) hS (y_move hS rfl) rfl rfl fun a hS => ?_)
  obtain ⟨u10, hu10, hM⟩ := bd hM
  refine wl rfl (k_call hS ci125 rfl rfl (cmp_isNaN_int_c _ _ hS.dlt x_0 _ hu10) fun _ w hR a hk hA => ?_)
  have he := Eq.symm hR
  subst he
  have hS := hA [] (fun r hr => by cases hr) List.Pairwise.nil
  refine wl rfl (ky (v := .bool u10) hS (y_assign hS rfl) rfl rfl fun a hS => ?_)
  refine wpList_nil ?_
  try simp only [Exit.then, Exit.inBlock, ↓reduceIte, Nat.reduceEqDiff]
  refine hK21 _ _ ?_
  refine wp_seq_k fun K22 hK22 => ?_
  refine r_list ?_
  refine wl rfl (ky (v := .int .i64 y_1) hS (y_move hS rfl) rfl rfl fun a hS => ?_)
  obtain ⟨u12, hu12, hM⟩ := bd hM
  refine wl rfl (k_call hS ci125 rfl rfl (cmp_isNaN_int_c _ _ hS.dlt y_1 _ hu12) fun _ w hR a hk hA => ?_)
  have he := Eq.symm hR
  subst he
  have hS := hA [] (fun r hr => by cases hr) List.Pairwise.nil
  refine wl rfl (ky (v := .bool u12) hS (y_assign hS rfl) rfl rfl fun a hS => ?_)
  refine wpList_nil ?_
  try simp only [Exit.then, Exit.inBlock, ↓reduceIte, Nat.reduceEqDiff]
  refine hK22 _ _ ?_
  refine wp_seq_k fun K23 hK23 => ?_
  refine wp_seq_k fun K24 hK24 => ?_
  refine r_list ?_
  refine wl rfl (ky (v := .bool u10) hS (y_move hS rfl) rfl rfl fun a hS => ?_)
  refine wpList_nil ?_
  try simp only [Exit.then, Exit.inBlock, ↓reduceIte, Nat.reduceEqDiff]
  refine hK24 _ _ ?_
  rcases bool2 (u10) with hb14 | hb14
  · replace hM := ct hb14 hM
    refine c_t hS rfl hb14 ?_
    refine wp_seq_k fun K25 hK25 => ?_
    refine wp_seq_k fun K26 hK26 => ?_
    refine r_list ?_
    refine wl rfl (ky (v := .bool u12) hS (y_move hS rfl) rfl rfl fun a hS => ?_)
    refine wpList_nil ?_
    try simp only [Exit.then, Exit.inBlock, ↓reduceIte, Nat.reduceEqDiff]
    refine hK26 _ _ ?_
    rcases bool2 (u12) with hb15 | hb15
    · replace hM := ct hb15 hM
      refine c_t hS rfl hb15 ?_
      refine wp_seq_k fun K27 hK27 => ?_
      refine r_list ?_
      refine wl rfl (ky (v := .int .i64 0) hS (y_assign hS rfl) rfl rfl fun a hS => ?_)
      refine wpList_nil ?_
      try simp only [Exit.then, Exit.inBlock, ↓reduceIte, Nat.reduceEqDiff]
      refine hK27 _ _ ?_
      refine wp_ret ?_
      injection hM with hM
      subst hM
      try simp only [Exit.then, Exit.inBlock, ↓reduceIte, Nat.reduceEqDiff]
      refine ret_ok hS Tryd.results112 (res_tmp hS rfl res_nil) ?_
      exact rfl
    · replace hM := cf hb15 hM
      refine c_f hS rfl hb15 ?_
      refine wp_skip ?_
      try simp only [Exit.then, Exit.inBlock, ↓reduceIte, Nat.reduceEqDiff]
      refine hK25 _ _ ?_
      refine wp_seq_k fun K28 hK28 => ?_
      refine r_list ?_
      refine wl rfl (ky (v := .int .i64 (-1)) hS (y_assign hS rfl) rfl rfl fun a hS => ?_)
      refine wpList_nil ?_
      try simp only [Exit.then, Exit.inBlock, ↓reduceIte, Nat.reduceEqDiff]
      refine hK28 _ _ ?_
      refine wp_ret ?_
      injection hM with hM
      subst hM
      try simp only [Exit.then, Exit.inBlock, ↓reduceIte, Nat.reduceEqDiff]
      refine ret_ok hS Tryd.results112 (res_tmp hS rfl res_nil) ?_
      exact rfl
  · replace hM := cf hb14 hM
    refine c_f hS rfl hb14 ?_
    refine wp_skip ?_
    try simp only [Exit.then, Exit.inBlock, ↓reduceIte, Nat.reduceEqDiff]
    refine hK23 _ _ ?_
    refine wp_seq_k fun K29 hK29 => ?_
    refine wp_seq_k fun K30 hK30 => ?_
    refine r_list ?_
    refine wl rfl (ky (v := .bool u12) hS (y_move hS rfl) rfl rfl fun a hS => ?_)
    refine wpList_nil ?_
    try simp only [Exit.then, Exit.inBlock, ↓reduceIte, Nat.reduceEqDiff]
    refine hK30 _ _ ?_
    rcases bool2 (u12) with hb16 | hb16
    · replace hM := ct hb16 hM
      refine c_t hS rfl hb16 ?_
      refine wp_seq_k fun K31 hK31 => ?_
      refine r_list ?_
      refine wl rfl (ky (v := .int .i64 1) hS (y_assign hS rfl) rfl rfl fun a hS => ?_)
      refine wpList_nil ?_
      try simp only [Exit.then, Exit.inBlock, ↓reduceIte, Nat.reduceEqDiff]
      refine hK31 _ _ ?_
      refine wp_ret ?_
      injection hM with hM
      subst hM
      try simp only [Exit.then, Exit.inBlock, ↓reduceIte, Nat.reduceEqDiff]
      refine ret_ok hS Tryd.results112 (res_tmp hS rfl res_nil) ?_
      exact rfl
    · replace hM := cf hb16 hM
      refine c_f hS rfl hb16 ?_
      refine wp_skip ?_
      try simp only [Exit.then, Exit.inBlock, ↓reduceIte, Nat.reduceEqDiff]
      refine hK29 _ _ ?_
      refine wp_seq_k fun K32 hK32 => ?_
      refine wp_seq_k fun K33 hK33 => ?_
      refine r_list ?_
      refine wl rfl (ky (v := .int .i64 x_0) hS (y_move hS rfl) rfl rfl fun a hS => ?_)
      refine wl rfl (ky (v := .int .i64 y_1) hS (y_move hS rfl) rfl rfl fun a hS => ?_)
      refine wl rfl (ky (v := .bool (decide ((x_0 : Int) < y_1))) hS (y_int hS rfl rfl rfl) rfl rfl fun a hS => ?_)
      refine wpList_nil ?_
      try simp only [Exit.then, Exit.inBlock, ↓reduceIte, Nat.reduceEqDiff]
      refine hK33 _ _ ?_
      rcases bool2 (decide ((x_0 : Int) < y_1)) with hb17 | hb17
      · replace hM := ct hb17 hM
        refine c_t hS rfl hb17 ?_
        refine wp_seq_k fun K34 hK34 => ?_
        refine r_list ?_
        refine wl rfl (ky (v := .int .i64 (-1)) hS (y_assign hS rfl) rfl rfl fun a hS => ?_)
        refine wpList_nil ?_
        try simp only [Exit.then, Exit.inBlock, ↓reduceIte, Nat.reduceEqDiff]
        refine hK34 _ _ ?_
        refine wp_ret ?_
        injection hM with hM
        subst hM
        try simp only [Exit.then, Exit.inBlock, ↓reduceIte, Nat.reduceEqDiff]
        refine ret_ok hS Tryd.results112 (res_tmp hS rfl res_nil) ?_
        exact rfl
      · replace hM := cf hb17 hM
        refine c_f hS rfl hb17 ?_
        refine wp_skip ?_
        try simp only [Exit.then, Exit.inBlock, ↓reduceIte, Nat.reduceEqDiff]
        refine hK32 _ _ ?_
        refine wp_seq_k fun K35 hK35 => ?_
        refine wp_seq_k fun K36 hK36 => ?_
        refine r_list ?_
        refine wl rfl (ky (v := .int .i64 x_0) hS (y_move hS rfl) rfl rfl fun a hS => ?_)
        refine wl rfl (ky (v := .int .i64 y_1) hS (y_move hS rfl) rfl rfl fun a hS => ?_)
        refine wl rfl (ky (v := .bool (decide ((y_1 : Int) < x_0))) hS (y_int hS rfl rfl rfl) rfl rfl fun a hS => ?_)
        refine wpList_nil ?_
        try simp only [Exit.then, Exit.inBlock, ↓reduceIte, Nat.reduceEqDiff]
        refine hK36 _ _ ?_
        rcases bool2 (decide ((y_1 : Int) < x_0)) with hb18 | hb18
        · replace hM := ct hb18 hM
          refine c_t hS rfl hb18 ?_
          refine wp_seq_k fun K37 hK37 => ?_
          refine r_list ?_
          refine wl rfl (ky (v := .int .i64 1) hS (y_assign hS rfl) rfl rfl fun a hS => ?_)
          refine wpList_nil ?_
          try simp only [Exit.then, Exit.inBlock, ↓reduceIte, Nat.reduceEqDiff]
          refine hK37 _ _ ?_
          refine wp_ret ?_
          injection hM with hM
          subst hM
          try simp only [Exit.then, Exit.inBlock, ↓reduceIte, Nat.reduceEqDiff]
          refine ret_ok hS Tryd.results112 (res_tmp hS rfl res_nil) ?_
          exact rfl
        · replace hM := cf hb18 hM
          refine c_f hS rfl hb18 ?_
          refine wp_skip ?_
          try simp only [Exit.then, Exit.inBlock, ↓reduceIte, Nat.reduceEqDiff]
          refine hK35 _ _ ?_
          refine wp_seq_k fun K38 hK38 => ?_
          refine r_list ?_
          refine wl rfl (ky (v := .int .i64 0) hS (y_assign hS rfl) rfl rfl fun a hS => ?_)
          refine wpList_nil ?_
          try simp only [Exit.then, Exit.inBlock, ↓reduceIte, Nat.reduceEqDiff]
          refine hK38 _ _ ?_
          refine wp_ret ?_
          injection hM with hM
          subst hM
          try simp only [Exit.then, Exit.inBlock, ↓reduceIte, Nat.reduceEqDiff]
          refine ret_ok hS Tryd.results112 (res_tmp hS rfl res_nil) ?_
          exact rfl

noncomputable def cmp_Or_j1 (zero48 : Int) : Option Int := some (zero48)
noncomputable def cmp_Or_l2 (vals_ : (List Int)) (zero49 : Int) (g50 : Int) (g51 : Int) : Option (Fl (Int × Int × Int) (Fl (Int) Int)) := cond (decide ((g51 : Int) < g50)) ((getI vals_ g51).bind fun e64 => cond ((e64 : Int) != zero49) (some (.out (.out e64))) (some (.go (zero49, g50, IntKind.i64.wrap (g51 + 1))))) (some (.out (.go zero49)))
noncomputable def cmp_Or (vals_ : (List Int)) : Option Int := (loop (fun s : Int × Int × Int => cmp_Or_l2 vals_ s.1 s.2.1 s.2.2) (0, (vals_.length : Int), 0)).bind fun r => Fl.el r (fun s => cmp_Or_j1 s) (fun y => some (y))
set_option maxRecDepth 100000 in
set_option maxHeartbeats 4000000 in
theorem cmp_Or_c (T : Nat → Prop) (W0 : World) (hT : ∀ k, T k → k < W0.heap.size) (vals_ : (List Int)) (v1 : Value) (hv1 : SlR (Rep.int .i64) T W0 v1 vals_) (y : Int) (hM : cmp_Or vals_ = some y) : Rets Tryd.prog No 111 [v1] W0 (fun v w' => v = .int .i64 y) := by
  refine enter (c := _) Tryd.func111 rfl T 18 Tryd.ntmps111 hT rfl fun a hS => ?_
  replace hS := hS.fact (SlF (Rep.int .i64) v1 vals_) (SlR.dn hv1)
  unfold cmp_Or at hM
  refine wp_seq_k fun K18 hK18 => ?_
  refine r_list ?_
  refine wl rfl (ky (v := .int .i64 0) hS (y_assign hS rfl) rfl rfl fun a hS => ?_)
  refine wpList_nil ?_
  try simp only [Exit.then, Exit.inBlock, ↓reduceIte, Nat.reduceEqDiff]
  refine hK18 _ _ ?_
  refine wp_seq_k fun K19 hK19 => ?_
  refine r_list ?_
  refine wl rfl (ky (v := .int .i64 0) hS (y_assign hS rfl) rfl rfl fun a hS => ?_)
  refine wpList_nil ?_
  try simp only [Exit.then, Exit.inBlock, ↓reduceIte, Nat.reduceEqDiff]
  refine hK19 _ _ ?_
  refine seq_j (J := fun a w => ∃ (zero48 : Int), St W0 No T 18 [(3, .int .i64 zero48)] [] [] a w ∧ cmp_Or_j1 zero48 = some y) ?_ ?_
  · skip
    refine wp_seq_k fun K28 hK28 => ?_
    refine r_list ?_
    refine wl rfl (ky (v := v1) hS (y_move hS rfl) rfl rfl fun a hS => ?_)
    refine wl rfl (ky (v := .int .i64 (vals_.length : Int)) hS (y_len (R := (Rep.int .i64)) (xs := vals_) hS sl39 rfl 0 rfl) rfl rfl fun a hS => ?_)
    refine wl rfl (ky (v := .int .i64 0) hS (y_move hS rfl) rfl rfl fun a hS => ?_)
    refine wpList_nil ?_
    try simp only [Exit.then, Exit.inBlock, ↓reduceIte, Nat.reduceEqDiff]
    refine hK28 _ _ ?_
    refine wp_block ?_
    obtain ⟨r1, hl1, hMo1⟩ := bd hM
    refine wp_lp (fun s : Int × Int × Int => cmp_Or_l2 vals_ s.1 s.2.1 s.2.2) (fun s a w => ∃ (zero49 : Int) (g50 : Int) (g51 : Int), (zero49, g50, g51) = s ∧ St W0 No T 18 [(3, .int .i64 zero49), (6, v1), (7, .int .i64 g50), (8, .int .i64 g51)] [] [SlF (Rep.int .i64) v1 vals_] a w) hl1 ⟨0, (vals_.length : Int), 0, rfl, (hS.meet [] (by decide) ⟨rfl, rfl, rfl, rfl, trivial⟩ trivial ⟨⟨0, rfl⟩, trivial⟩)⟩ ?_
    rintro s a w f1 ⟨zero49, g50, g51, rfl, hS⟩ hM hf1
    have hM : cmp_Or_l2 vals_ zero49 g50 g51 = some f1 := hM
    unfold cmp_Or_l2 at hM
    refine wp_seq_k fun K35 hK35 => ?_
    refine r_list ?_
    refine wl rfl (ky (v := .bool (decide ((g51 : Int) < g50))) hS (y_int hS rfl rfl rfl) rfl rfl fun a hS => ?_)
    refine wpList_nil ?_
    try simp only [Exit.then, Exit.inBlock, ↓reduceIte, Nat.reduceEqDiff]
    refine hK35 _ _ ?_
    refine wp_seq_k fun K36 hK36 => ?_
    rcases bool2 (decide ((g51 : Int) < g50)) with hb63 | hb63
    · replace hM := ct hb63 hM
      refine c_t hS rfl hb63 ?_
      refine wp_skip ?_
      try simp only [Exit.then, Exit.inBlock, ↓reduceIte, Nat.reduceEqDiff]
      refine hK36 _ _ ?_
      refine wp_seq_k fun K37 hK37 => ?_
      refine wp_block ?_
      refine wp_seq_k fun K38 hK38 => ?_
      refine r_list ?_
      obtain ⟨e64, he64, hM⟩ := bd hM
      refine wl rfl (k_index (R := (Rep.int .i64)) hS sl39 ty3 rfl rfl 0 rfl he64 rfl fun b65 o66 cs68 hr67 a hS => ?_)
      obtain rfl := hr67
      refine wl rfl (ky (v := .int .i64 e64) hS (y_loadc (k := 0) hS ty3 0 rfl rfl (fun _ h => h.elim) (us := [.int .i64 e64]) rfl rfl (fun _ => rfl)) rfl rfl fun a hS => ?_)
      refine wl rfl (ky (v := .int .i64 e64) hS (y_assign hS rfl) rfl rfl fun a hS => ?_)
      refine wpList_nil ?_
      try simp only [Exit.then, Exit.inBlock, ↓reduceIte, Nat.reduceEqDiff]
      refine hK38 _ _ ?_
      refine wp_seq_k fun K39 hK39 => ?_
      refine r_list ?_
      refine wl rfl (ky (v := .int .i64 e64) hS (y_move hS rfl) rfl rfl fun a hS => ?_)
      refine wl rfl (ky (v := .int .i64 zero49) hS (y_move hS rfl) rfl rfl fun a hS => ?_)
      refine wl rfl (ky (v := .bool ((e64 : Int) != zero49)) hS (y_int hS rfl rfl rfl) rfl rfl fun a hS => ?_)
      refine wpList_nil ?_
      try simp only [Exit.then, Exit.inBlock, ↓reduceIte, Nat.reduceEqDiff]
      refine hK39 _ _ ?_
      rcases bool2 ((e64 : Int) != zero49) with hb70 | hb70
      · replace hM := ct hb70 hM
        refine c_t hS rfl hb70 ?_
        refine wp_seq_k fun K40 hK40 => ?_
        refine r_list ?_
        refine wl rfl (ky (v := .int .i64 e64) hS (y_move hS rfl) rfl rfl fun a hS => ?_)
        refine wl rfl (ky (v := .int .i64 e64) hS (y_assign hS rfl) rfl rfl fun a hS => ?_)
        refine wpList_nil ?_
        try simp only [Exit.then, Exit.inBlock, ↓reduceIte, Nat.reduceEqDiff]
        refine hK40 _ _ ?_
        refine wp_ret ?_
        injection hM with hM
        subst hM
        have hr := hf1 _ rfl
        subst hr
        replace hMo1 := el_out hMo1
        have hM := hMo1
        injection hM with hM
        subst hM
        try simp only [Exit.then, Exit.inBlock, ↓reduceIte, Nat.reduceEqDiff]
        refine ret_ok hS Tryd.results111 (res_tmp hS rfl res_nil) ?_
        exact rfl
      · replace hM := cf hb70 hM
        refine c_f hS rfl hb70 ?_
        refine wp_skip ?_
        try simp only [Exit.then, Exit.inBlock, ↓reduceIte, Nat.reduceEqDiff]
        refine hK37 _ _ ?_
        refine r_list ?_
        refine wl rfl (ky (v := .int .i64 (IntKind.i64.wrap (g51 + 1))) hS (y_int hS rfl rfl rfl) rfl rfl fun a hS => ?_)
        refine wl rfl (ky (v := .int .i64 (IntKind.i64.wrap (g51 + 1))) hS (y_move hS rfl) rfl rfl fun a hS => ?_)
        refine wpList_nil ?_
        try simp only [Exit.then, Exit.inBlock, ↓reduceIte, Nat.reduceEqDiff]
        exact ⟨(zero49, g50, IntKind.i64.wrap (g51 + 1)), (Option.some.inj hM).symm, zero49, g50, (IntKind.i64.wrap (g51 + 1)), rfl, (hS.meet [] (by decide) ⟨rfl, rfl, rfl, rfl, trivial⟩ trivial ⟨⟨1, rfl⟩, trivial⟩)⟩
    · replace hM := cf hb63 hM
      refine c_f hS rfl hb63 ?_
      refine wp_exit ?_
      try simp only [Exit.then, Exit.inBlock, ↓reduceIte, Nat.reduceEqDiff]
      injection hM with hM
      subst hM
      have hr := hf1 _ rfl
      subst hr
      replace hMo1 := el_go hMo1
      have hM : cmp_Or_j1 zero49 = some y := hMo1
      exact ⟨zero49, (hS.meet [] (by decide) ⟨rfl, trivial⟩ trivial trivial), hM⟩
  · rintro a w ⟨zero48, hS, hM⟩
    unfold cmp_Or_j1 at hM
    refine wp_seq_k fun K27 hK27 => ?_
    refine r_list ?_
    refine wl rfl (ky (v := .int .i64 zero48) hS (y_move hS rfl) rfl rfl fun a hS => ?_)
    refine wl rfl (ky (v := .int .i64 zero48) hS (y_assign hS rfl) rfl rfl fun a hS => ?_)
    refine wpList_nil ?_
    try simp only [Exit.then, Exit.inBlock, ↓reduceIte, Nat.reduceEqDiff]
    refine hK27 _ _ ?_
    refine wp_ret ?_
    injection hM with hM
    subst hM
    try simp only [Exit.then, Exit.inBlock, ↓reduceIte, Nat.reduceEqDiff]
    refine ret_ok hS Tryd.results111 (res_tmp hS rfl res_nil) ?_
    exact rfl

noncomputable def key_Cmp (a_0 : KeyD) (b_1 : KeyD) : Option Int := (cmp_Compare a_0.Kind b_1.Kind).bind fun u69 => (compareSM a_0.Text b_1.Text).bind fun u71 => (cmp_Or ([u69, u71])).bind fun u75 => some (u75)
set_option maxRecDepth 100000 in
set_option maxHeartbeats 4000000 in
theorem key_Cmp_c (T : Nat → Prop) (W0 : World) (hT : ∀ k, T k → k < W0.heap.size) (hLv : LvP T W0) (a_0 : KeyD) (b_1 : KeyD) (y : Int) (hM : key_Cmp a_0 b_1 = some y) : Rets Tryd.prog No 101 [.agg #[.int .i64 a_0.Kind, .string a_0.Text], .agg #[.int .i64 b_1.Kind, .string b_1.Text]] W0 (fun v w' => v = .int .i64 y) := by
  refine enter (c := _) Tryd.func101 rfl T 17 Tryd.ntmps101 hT rfl fun a hS => ?_
  replace hS := hS.fact LvF (LvP.dn hLv)
  unfold key_Cmp at hM
  refine wp_seq_k fun K3 hK3 => ?_
  refine r_list ?_
  refine wl rfl (k_box hS rfl (cs := [.int .i64 a_0.Kind, .string a_0.Text]) rfl rfl fun b39 hnb41 a w hk hS => ?_)
  refine wl rfl (k_box hS rfl (cs := [.int .i64 b_1.Kind, .string b_1.Text]) rfl rfl fun b42 hnb44 a w hk hS => ?_)
  refine wl rfl (ky (v := .int .i64 0) hS (y_assign hS rfl) rfl rfl fun a hS => ?_)
  refine wpList_nil ?_
  try simp only [Exit.then, Exit.inBlock, ↓reduceIte, Nat.reduceEqDiff]
  refine hK3 _ _ ?_
  refine wp_seq_k fun K4 hK4 => ?_
  refine draws [] hS mixed rfl (fun c a d v w h => by cases d <;> exact h) fun w hQ hS => ?_
  refine dy 0 (v := .pointer (some ⟨b39, 0 + 0, none⟩)) rfl (by kernel_rfl) (by kernel_rfl) (by kernel_rfl) rfl hQ hS (y_fld hS rfl fl26_0) rfl rfl rfl fun a hS => ?_
  refine dy (l := []) 1 (v := .int .i64 a_0.Kind) rfl (by kernel_rfl) (by kernel_rfl) (by kernel_rfl) (by kernel_rfl) hQ hS (y_load hS rfl ty3 1 rfl eo_nil (us := [.int .i64 a_0.Kind]) rfl rfl (fun _ => rfl)) rfl rfl rfl fun a hS => ?_
  refine dy 2 (v := .pointer (some ⟨b42, 0 + 0, none⟩)) rfl (by kernel_rfl) (by kernel_rfl) (by kernel_rfl) rfl hQ hS (y_fld hS rfl fl26_0) rfl rfl rfl fun a hS => ?_
  refine dy (l := []) 3 (v := .int .i64 b_1.Kind) rfl (by kernel_rfl) (by kernel_rfl) (by kernel_rfl) (by kernel_rfl) hQ hS (y_load hS rfl ty3 0 rfl eo_nil (us := [.int .i64 b_1.Kind]) rfl rfl (fun _ => rfl)) rfl rfl rfl fun a hS => ?_
  refine dy 5 (v := .pointer (some ⟨b39, 0 + 1, none⟩)) rfl (by kernel_rfl) (by kernel_rfl) (by kernel_rfl) rfl hQ hS (y_fld hS rfl fl26_1) rfl rfl rfl fun a hS => ?_
  refine dy (l := []) 6 (v := .string a_0.Text) rfl (by kernel_rfl) (by kernel_rfl) (by kernel_rfl) (by kernel_rfl) hQ hS (y_load hS rfl ty9 1 rfl eo_nil (us := [.string a_0.Text]) rfl rfl (fun _ => rfl)) rfl rfl rfl fun a hS => ?_
  refine dy 7 (v := .pointer (some ⟨b42, 0 + 1, none⟩)) rfl (by kernel_rfl) (by kernel_rfl) (by kernel_rfl) rfl hQ hS (y_fld hS rfl fl26_1) rfl rfl rfl fun a hS => ?_
  refine dy (l := []) 8 (v := .string b_1.Text) rfl (by kernel_rfl) (by kernel_rfl) (by kernel_rfl) (by kernel_rfl) hQ hS (y_load hS rfl ty9 0 rfl eo_nil (us := [.string b_1.Text]) rfl rfl (fun _ => rfl)) rfl rfl rfl fun a hS => ?_
  obtain ⟨u69, hu69, hM⟩ := bd hM
  refine wpE_one (i := 4) rfl (by kernel_rfl) rfl (k_call hS ci112 rfl rfl (cmp_Compare_c _ _ hS.dlt a_0.Kind b_1.Kind _ hu69) fun _ w hR a hk hA => ⟨stN (hk), ?_⟩)
  have he := Eq.symm hR
  subst he
  have hS := hA [] (fun r hr => by cases hr) List.Pairwise.nil
  obtain ⟨u71, hu71, hM⟩ := bd hM
  refine wpE_one (i := 9) rfl (by kernel_rfl) rfl (k_call hS ci80 rfl rfl (compareSM_c _ _ hS.dlt (hS.get 0 rfl) a_0.Text b_1.Text _ hu71) fun _ w hR a hk hA => ⟨stN (hk), ?_⟩)
  have he := Eq.symm hR
  subst he
  have hS := hA [] (fun r hr => by cases hr) List.Pairwise.nil
  refine wpE_one (i := 10) rfl (by kernel_rfl) rfl (k_bslice (ps := [(0, .tmp 9), (1, .tmp 14)]) hS el39 ze3 (zl := [.int .i64 0, .int .i64 0]) (by kernel_rfl) rfl (us := [[.int .i64 u69], [.int .i64 u71]]) ⟨rfl, ⟨rfl, trivial⟩⟩ (ws := [.int .i64 u69, .int .i64 u71]) rfl rfl rfl rfl fun b73 a w hk hS => ⟨stN (hk), ?_⟩)
  replace hS := hS.lit (R := (Rep.int .i64)) (us := [.int .i64 u69, .int .i64 u71]) (xs := [u69, u71]) 0 rfl (by decide) ((RowsOk.one_ (R := (Rep.int .i64)) (x := u69) rfl).append (RowsOk.one_ (R := (Rep.int .i64)) (x := u71) rfl)) rfl rfl
  have hL := hS
  replace hL := hL.freeze (R := (Rep.int .i64)) 0 rfl 0 rfl
  obtain ⟨u75, hu75, hM⟩ := bd hM
  refine wpE_one (i := 11) rfl (by kernel_rfl) rfl (k_call hS ci111 rfl rfl (cmp_Or_c _ _ hL.dlt ([u69, u71]) _ (hL.get 0 rfl) _ hu75) fun _ w hR a hk hA => ⟨stN (hk), ?_⟩)
  have he := Eq.symm hR
  subst he
  have hS := hA [] (fun r hr => by cases hr) List.Pairwise.nil
  refine dy 12 (v := .int .i64 u75) rfl (by kernel_rfl) (by kernel_rfl) (by kernel_rfl) rfl hQ hS (y_assign hS rfl) rfl rfl rfl fun a hS => ?_
  refine wpE_done (by kernel_rfl) ?_ _
  try simp only [Exit.then, Exit.inBlock, ↓reduceIte, Nat.reduceEqDiff]
  refine hK4 _ _ ?_
  refine wp_ret ?_
  injection hM with hM
  subst hM
  try simp only [Exit.then, Exit.inBlock, ↓reduceIte, Nat.reduceEqDiff]
  refine ret_ok hS Tryd.results101 (res_tmp hS rfl res_nil) ?_
  exact rfl

noncomputable def compact_Key_j1 (s_0 : (List KeyD)) : Option (List KeyD) := some (s_0)
noncomputable def compact_Key_j2 (k12085 : Int) : Option (Fl (Int) (Fl (Unit) (List KeyD))) := some (.go (IntKind.i64.wrap (k12085 + 1)))
noncomputable def compact_Key_j3 (s15639 : (List KeyD)) (k15641 : Int) : Option (Fl (Int) (Fl (Unit) (List KeyD))) := (subI s15639 k15641 s15639.length).bind fun l15642 => (subI (List.take (Int.toNat k15641) s15639 ++ List.replicate ((Int.toNat (s15639.length : Int)) - (Int.toNat k15641)) (KeyD.mk (0 : Int) (ByteArray.mk #[])) ++ List.drop (Int.toNat (s15639.length : Int)) s15639) 0 k15641).bind fun l15648 => some (.out (.out l15648))
noncomputable def compact_Key_j4 (s16219 : (List KeyD)) (k16221 : Int) (k216222 : Int) : Option (Fl ((List KeyD) × Int × Int) ((List KeyD) × Int)) := some (.go (s16219, k16221, IntKind.i64.wrap (k216222 + 1)))
noncomputable def compact_Key_l5 (s_0 : (List KeyD)) (k12085 : Int) (s15878 : (List KeyD)) (k15880 : Int) (k215881 : Int) : Option (Fl ((List KeyD) × Int × Int) ((List KeyD) × Int)) := cond (decide ((k215881 : Int) < (((Int.toNat (s_0.length : Int)) - (Int.toNat k12085) : Nat) : Int))) (gd (decide (0 ≤ k215881)) <| gd (decide (k215881 < (((Int.toNat (s_0.length : Int)) - (Int.toNat k12085) : Nat) : Int))) <| (getI s15878 ((((Int.toNat k12085) : Nat) : Int) + k215881)).bind fun e16291 => gd (decide (0 ≤ IntKind.i64.wrap (k215881 - 1))) <| gd (decide (IntKind.i64.wrap (k215881 - 1) < (((Int.toNat (s_0.length : Int)) - (Int.toNat k12085) : Nat) : Int))) <| (getI s15878 ((((Int.toNat k12085) : Nat) : Int) + (IntKind.i64.wrap (k215881 - 1)))).bind fun e16302 => cond (!((e16291.Kind : Int) == e16302.Kind && e16291.Text.toList == e16302.Text.toList)) (gd (decide (0 ≤ k215881)) <| gd (decide (k215881 < (((Int.toNat (s_0.length : Int)) - (Int.toNat k12085) : Nat) : Int))) <| (getI s15878 ((((Int.toNat k12085) : Nat) : Int) + k215881)).bind fun e16314 => (getI s15878 k15880).bind fun e16323 => compact_Key_j4 (s15878.set (Int.toNat k15880) e16314) (IntKind.i64.wrap (k15880 + 1)) k215881) (compact_Key_j4 s15878 k15880 k215881)) (some (.out (s15878, k15880)))
noncomputable def compact_Key_l6 (s_0 : (List KeyD)) (k12085 : Int) : Option (Fl (Int) (Fl (Unit) (List KeyD))) := cond (decide ((k12085 : Int) < (s_0.length : Int))) ((getI s_0 k12085).bind fun e15158 => (getI s_0 (IntKind.i64.wrap (k12085 - 1))).bind fun e15167 => cond ((e15158.Kind : Int) == e15167.Kind && e15158.Text.toList == e15167.Text.toList) ((subI s_0 k12085 s_0.length).bind fun l15177 => (loop (fun s : (List KeyD) × Int × Int => compact_Key_l5 s_0 k12085 s.1 s.2.1 s.2.2) (s_0, k12085, 1)).bind fun r => compact_Key_j3 r.1 r.2) (compact_Key_j2 k12085)) (some (.out (.go ())))
noncomputable def compact_Key (s_0 : (List KeyD)) : Option (List KeyD) := cond (decide (((s_0.length : Int) : Int) < 2)) (some (s_0)) ((loop (fun s : Int => compact_Key_l6 s_0 s) 1).bind fun r => Fl.el r (fun s => compact_Key_j1 s_0) (fun y => some (y)))
set_option maxRecDepth 100000 in
set_option maxHeartbeats 4000000 in
theorem compact_Key_c (T : Nat → Prop) (W0 : World) (hT : ∀ k, T k → k < W0.heap.size) (s_0 : (List KeyD)) (v1 : Value) (cl2 : List Value) (hD : DOk T W0 [.own v1 26 R_KeyD.size cl2]) (hv1 : RowsOk R_KeyD (dT T [.own v1 26 R_KeyD.size cl2]) W0 cl2 s_0) (y : (List KeyD)) (hM : compact_Key s_0 = some y) : Rets Tryd.prog (MD [.own v1 26 R_KeyD.size cl2]) 109 [v1] W0 (fun v w' => ∃ (v3 : Value) (cl4 : List Value), v = v3 ∧ RowsOk R_KeyD (dT T [.own v3 26 R_KeyD.size cl4]) w' cl4 y ∧ DNew W0 w' [.own v1 26 R_KeyD.size cl2] [.own v3 26 R_KeyD.size cl4]) := by
  refine enterD (c := _) Tryd.func109 rfl T 61 Tryd.ntmps109 hT rfl hD fun a hS => ?_
  replace hS := hS.fact (RowsF R_KeyD cl2 s_0) hv1
  unfold compact_Key at hM
  refine wp_seq_k fun K194 hK194 => ?_
  refine r_list ?_
  refine wl rfl (ky (v := .slice none 0 0) hS (y_assign hS rfl) rfl rfl fun a hS => ?_)
  refine wpList_nil ?_
  try simp only [Exit.then, Exit.inBlock, ↓reduceIte, Nat.reduceEqDiff]
  refine hK194 _ _ ?_
  refine wp_seq_k fun K195 hK195 => ?_
  refine wp_seq_k fun K196 hK196 => ?_
  refine r_list ?_
  refine wl rfl (ky (v := v1) hS (y_move hS rfl) rfl rfl fun a hS => ?_)
  refine wl rfl (ky (v := .int .i64 (s_0.length : Int)) hS (y_leno (R := R_KeyD) (xs := s_0) hS sl22 rfl 0 rfl 0 rfl) rfl rfl fun a hS => ?_)
  refine wl rfl (ky (v := .bool (decide (((s_0.length : Int) : Int) < 2))) hS (y_int hS rfl rfl rfl) rfl rfl fun a hS => ?_)
  refine wpList_nil ?_
  try simp only [Exit.then, Exit.inBlock, ↓reduceIte, Nat.reduceEqDiff]
  refine hK196 _ _ ?_
  rcases bool2 (decide (((s_0.length : Int) : Int) < 2)) with hb6047 | hb6047
  · replace hM := ct hb6047 hM
    refine c_t hS rfl hb6047 ?_
    refine wp_seq_k fun K197 hK197 => ?_
    refine r_list ?_
    refine wl rfl (ky (v := v1) hS (y_move hS rfl) rfl rfl fun a hS => ?_)
    refine wl rfl (ky (v := v1) hS (y_assign hS rfl) rfl rfl fun a hS => ?_)
    refine wpList_nil ?_
    try simp only [Exit.then, Exit.inBlock, ↓reduceIte, Nat.reduceEqDiff]
    refine hK197 _ _ ?_
    refine wp_ret ?_
    injection hM with hM
    subst hM
    try simp only [Exit.then, Exit.inBlock, ↓reduceIte, Nat.reduceEqDiff]
    refine ret_ok hS Tryd.results109 (res_tmp hS rfl res_nil) ?_
    have hZ := hS.meet (G' := []) (D' := [.own v1 26 R_KeyD.size cl2]) (F' := [RowsF R_KeyD cl2 s_0]) [0] (by decide) trivial ⟨rfl, trivial⟩ ⟨⟨0, rfl⟩, trivial⟩
    exact ⟨v1, cl2, rfl, (hZ.get 0 rfl), hZ.dnew⟩
  · replace hM := cf hb6047 hM
    refine c_f hS rfl hb6047 ?_
    refine wp_skip ?_
    try simp only [Exit.then, Exit.inBlock, ↓reduceIte, Nat.reduceEqDiff]
    refine hK195 _ _ ?_
    refine seq_j (J := fun a w => St W0 (MD [.own v1 26 R_KeyD.size cl2]) T 61 [(0, v1)] [.own v1 26 R_KeyD.size cl2] [RowsF R_KeyD cl2 s_0] a w ∧ compact_Key_j1 s_0 = some y) ?_ ?_
    · skip
      refine wp_seq_k fun K324 hK324 => ?_
      refine r_list ?_
      refine wl rfl (ky (v := .int .i64 1) hS (y_assign hS rfl) rfl rfl fun a hS => ?_)
      refine wpList_nil ?_
      try simp only [Exit.then, Exit.inBlock, ↓reduceIte, Nat.reduceEqDiff]
      refine hK324 _ _ ?_
      refine wp_block ?_
      obtain ⟨r1, hl1, hMo1⟩ := bd hM
      refine wp_lp (fun s : Int => compact_Key_l6 s_0 s) (fun s a w => ∃ (k12085 : Int), k12085 = s ∧ St W0 (MD [.own v1 26 R_KeyD.size cl2]) T 61 [(0, v1), (3, .int .i64 k12085)] [.own v1 26 R_KeyD.size cl2] [RowsF R_KeyD cl2 s_0] a w) hl1 ⟨1, rfl, (hS.meet [0] (by decide) ⟨rfl, rfl, trivial⟩ ⟨rfl, trivial⟩ ⟨⟨0, rfl⟩, trivial⟩)⟩ ?_
      rintro s a w f1 ⟨k12085, rfl, hS⟩ hM hf1
      have hM : compact_Key_l6 s_0 k12085 = some f1 := hM
      unfold compact_Key_l6 at hM
      refine wp_seq_k fun K449 hK449 => ?_
      refine wp_seq_k fun K450 hK450 => ?_
      refine r_list ?_
      refine wl rfl (ky (v := .int .i64 k12085) hS (y_move hS rfl) rfl rfl fun a hS => ?_)
      refine wl rfl (ky (v := v1) hS (y_move hS rfl) rfl rfl fun a hS => ?_)
      refine wl rfl (ky (v := .int .i64 (s_0.length : Int)) hS (y_leno (R := R_KeyD) (xs := s_0) hS sl22 rfl 0 rfl 0 rfl) rfl rfl fun a hS => ?_)
      refine wl rfl (ky (v := .bool (decide ((k12085 : Int) < (s_0.length : Int)))) hS (y_int hS rfl rfl rfl) rfl rfl fun a hS => ?_)
      refine wpList_nil ?_
      try simp only [Exit.then, Exit.inBlock, ↓reduceIte, Nat.reduceEqDiff]
      refine hK450 _ _ ?_
      rcases bool2 (decide ((k12085 : Int) < (s_0.length : Int))) with hb14098 | hb14098
      · replace hM := ct hb14098 hM
        refine c_t hS rfl hb14098 ?_
        refine wp_skip ?_
        try simp only [Exit.then, Exit.inBlock, ↓reduceIte, Nat.reduceEqDiff]
        refine hK449 _ _ ?_
        refine seq_j (J := fun a w => St W0 (MD [.own v1 26 R_KeyD.size cl2]) T 61 [(0, v1), (3, .int .i64 k12085)] [.own v1 26 R_KeyD.size cl2] [RowsF R_KeyD cl2 s_0] a w ∧ compact_Key_j2 k12085 = some f1) ?_ ?_
        · skip
          refine wp_block ?_
          refine wp_seq_k fun K481 hK481 => ?_
          refine draws [] hS mixed rfl (fun c a d v w h => by cases d <;> exact h) fun w hQ hS => ?_
          refine dy 0 (v := v1) rfl (by kernel_rfl) (by kernel_rfl) (by kernel_rfl) rfl hQ hS (y_move hS rfl) rfl rfl rfl fun a hS => ?_
          refine dy 1 (v := .int .i64 k12085) rfl (by kernel_rfl) (by kernel_rfl) (by kernel_rfl) rfl hQ hS (y_move hS rfl) rfl rfl rfl fun a hS => ?_
          obtain ⟨e15158, he15158, hM⟩ := bd hM
          obtain ⟨b15159, o15160, p15165, cs15162, hr15161, hO15163, hC15164, hy15166⟩ := d_indexo (R := R_KeyD) hS sl22 ty26 0 rfl 0 rfl he15158
          obtain rfl := hr15161
          refine dy 2 (v := .pointer (some ⟨b15159, o15160, none⟩)) rfl (by kernel_rfl) (by kernel_rfl) (by kernel_rfl) rfl hQ hS (hy15166 rfl rfl) rfl rfl rfl fun a hS => ?_
          refine dy (l := []) 3 (v := .agg #[.int .i64 e15158.Kind, .string e15158.Text]) rfl (by kernel_rfl) (by kernel_rfl) (by kernel_rfl) (by kernel_rfl) hQ hS (y_loado (k := 0) hS ty26 0 rfl hO15163 hC15164 rfl eo_nil (us := [.int .i64 e15158.Kind, .string e15158.Text]) rfl rfl (fun h => by cases h)) rfl rfl rfl fun a hS => ?_
          refine dy 4 (v := v1) rfl (by kernel_rfl) (by kernel_rfl) (by kernel_rfl) rfl hQ hS (y_move hS rfl) rfl rfl rfl fun a hS => ?_
          refine dy 5 (v := .int .i64 k12085) rfl (by kernel_rfl) (by kernel_rfl) (by kernel_rfl) rfl hQ hS (y_move hS rfl) rfl rfl rfl fun a hS => ?_
          refine dy 6 (v := .int .i64 (IntKind.i64.wrap (k12085 - 1))) rfl (by kernel_rfl) (by kernel_rfl) (by kernel_rfl) rfl hQ hS (y_int hS rfl rfl rfl) rfl rfl rfl fun a hS => ?_
          obtain ⟨e15167, he15167, hM⟩ := bd hM
          obtain ⟨b15168, o15169, p15174, cs15171, hr15170, hO15172, hC15173, hy15175⟩ := d_indexo (R := R_KeyD) hS sl22 ty26 0 rfl 0 rfl he15167
          obtain rfl := hr15170
          refine dy 7 (v := .pointer (some ⟨b15168, o15169, none⟩)) rfl (by kernel_rfl) (by kernel_rfl) (by kernel_rfl) rfl hQ hS (hy15175 rfl rfl) rfl rfl rfl fun a hS => ?_
          refine dy (l := []) 8 (v := .agg #[.int .i64 e15167.Kind, .string e15167.Text]) rfl (by kernel_rfl) (by kernel_rfl) (by kernel_rfl) (by kernel_rfl) hQ hS (y_loado (k := 0) hS ty26 0 rfl hO15172 hC15173 rfl eo_nil (us := [.int .i64 e15167.Kind, .string e15167.Text]) rfl rfl (fun h => by cases h)) rfl rfl rfl fun a hS => ?_
          refine dy 9 (v := .bool ((e15158.Kind : Int) == e15167.Kind && e15158.Text.toList == e15167.Text.toList)) rfl (by kernel_rfl) (by kernel_rfl) (by kernel_rfl) rfl hQ hS (eq26 hS rfl rfl) rfl rfl rfl fun a hS => ?_
          refine wpE_done (by kernel_rfl) ?_ _
          try simp only [Exit.then, Exit.inBlock, ↓reduceIte, Nat.reduceEqDiff]
          refine hK481 _ _ ?_
          rcases bool2 ((e15158.Kind : Int) == e15167.Kind && e15158.Text.toList == e15167.Text.toList) with hb15176 | hb15176
          · replace hM := ct hb15176 hM
            refine c_t hS rfl hb15176 ?_
            refine wp_seq_k fun K482 hK482 => ?_
            refine r_list ?_
            refine wl rfl (ky (v := v1) hS (y_move hS rfl) rfl rfl fun a hS => ?_)
            refine wl rfl (ky (v := .int .i64 k12085) hS (y_move hS rfl) rfl rfl fun a hS => ?_)
            obtain ⟨l15177, hl15177, hM⟩ := bd hM
            obtain ⟨v15178, hv15179, hw15181, hy15180⟩ := d_win (R := R_KeyD) hS sl22 ty26 0 rfl 0 rfl hl15177
            replace hS := hS.fact (WinF 2 v1 v15178 (Int.toNat k12085) (Int.toNat (s_0.length : Int)) s_0.length) hw15181
            refine wl rfl (ky (v := v15178) hS (hy15180 (k2 := .i64) rfl (.inl ⟨_, rfl, rfl⟩) (.inr ⟨rfl, rfl⟩)) rfl rfl fun a hS => ?_)
            refine wl rfl (ky (v := v15178) hS (y_assign hS rfl) rfl rfl fun a hS => ?_)
            refine wpList_nil ?_
            try simp only [Exit.then, Exit.inBlock, ↓reduceIte, Nat.reduceEqDiff]
            refine hK482 _ _ ?_
            refine seq_j (J := fun a w => ∃ (s15639 : (List KeyD)) (k15641 : Int) (cl15640 : (List Value)), St W0 (MD [.own v1 26 R_KeyD.size cl2]) T 61 [(0, v1), (3, .int .i64 k15641)] [.own v1 26 R_KeyD.size cl15640] [RowsF R_KeyD cl15640 s15639] a w ∧ compact_Key_j3 s15639 k15641 = some f1) ?_ ?_
            · skip
              refine wp_seq_k fun K498 hK498 => ?_
              refine r_list ?_
              refine wl rfl (ky (v := .int .i64 1) hS (y_assign hS rfl) rfl rfl fun a hS => ?_)
              refine wpList_nil ?_
              try simp only [Exit.then, Exit.inBlock, ↓reduceIte, Nat.reduceEqDiff]
              refine hK498 _ _ ?_
              refine wp_block ?_
              obtain ⟨r2, hl2, hMo2⟩ := bd hM
              refine wp_lp (fun s : (List KeyD) × Int × Int => compact_Key_l5 s_0 k12085 s.1 s.2.1 s.2.2) (fun s a w => ∃ (s15878 : (List KeyD)) (k15880 : Int) (k215881 : Int) (cl15879 : (List Value)), (s15878, k15880, k215881) = s ∧ St W0 (MD [.own v1 26 R_KeyD.size cl2]) T 61 [(0, v1), (3, .int .i64 k15880), (4, v15178), (5, .int .i64 k215881)] [.own v1 26 R_KeyD.size cl15879] [RowsF R_KeyD cl15879 s15878, WinF 2 v1 v15178 (Int.toNat k12085) (Int.toNat (s_0.length : Int)) s_0.length] a w) hl2 ⟨s_0, k12085, 1, cl2, rfl, (hS.meet [0] (by decide) ⟨rfl, rfl, rfl, rfl, trivial⟩ ⟨rfl, trivial⟩ ⟨⟨1, rfl⟩, ⟨0, rfl⟩, trivial⟩)⟩ ?_
              rintro s a w f2 ⟨s15878, k15880, k215881, cl15879, rfl, hS⟩ hM hf2
              have hM : compact_Key_l5 s_0 k12085 s15878 k15880 k215881 = some f2 := hM
              unfold compact_Key_l5 at hM
              refine wp_seq_k fun K511 hK511 => ?_
              refine wp_seq_k fun K512 hK512 => ?_
              refine r_list ?_
              refine wl rfl (ky (v := .int .i64 k215881) hS (y_move hS rfl) rfl rfl fun a hS => ?_)
              refine wl rfl (ky (v := v15178) hS (y_move hS rfl) rfl rfl fun a hS => ?_)
              refine wl rfl (ky (v := .int .i64 (((Int.toNat (s_0.length : Int)) - (Int.toNat k12085) : Nat) : Int)) hS (y_lenw hS sl22 rfl (hS.get 1 rfl)) rfl rfl fun a hS => ?_)
              refine wl rfl (ky (v := .bool (decide ((k215881 : Int) < (((Int.toNat (s_0.length : Int)) - (Int.toNat k12085) : Nat) : Int)))) hS (y_int hS rfl rfl rfl) rfl rfl fun a hS => ?_)
              refine wpList_nil ?_
              try simp only [Exit.then, Exit.inBlock, ↓reduceIte, Nat.reduceEqDiff]
              refine hK512 _ _ ?_
              rcases bool2 (decide ((k215881 : Int) < (((Int.toNat (s_0.length : Int)) - (Int.toNat k12085) : Nat) : Int))) with hb16109 | hb16109
              · replace hM := ct hb16109 hM
                refine c_t hS rfl hb16109 ?_
                refine wp_skip ?_
                try simp only [Exit.then, Exit.inBlock, ↓reduceIte, Nat.reduceEqDiff]
                refine hK511 _ _ ?_
                refine seq_j (J := fun a w => ∃ (s16219 : (List KeyD)) (k16221 : Int) (k216222 : Int) (cl16220 : (List Value)), St W0 (MD [.own v1 26 R_KeyD.size cl2]) T 61 [(0, v1), (3, .int .i64 k16221), (4, v15178), (5, .int .i64 k216222)] [.own v1 26 R_KeyD.size cl16220] [RowsF R_KeyD cl16220 s16219, WinF 2 v1 v15178 (Int.toNat k12085) (Int.toNat (s_0.length : Int)) s_0.length] a w ∧ compact_Key_j4 s16219 k16221 k216222 = some f2) ?_ ?_
                · skip
                  refine wp_block ?_
                  refine wp_seq_k fun K515 hK515 => ?_
                  refine draws [] hS mixed rfl (fun c a d v w h => by cases d <;> exact h) fun w hQ hS => ?_
                  refine dy 0 (v := v15178) rfl (by kernel_rfl) (by kernel_rfl) (by kernel_rfl) rfl hQ hS (y_move hS rfl) rfl rfl rfl fun a hS => ?_
                  refine dy 1 (v := .int .i64 k215881) rfl (by kernel_rfl) (by kernel_rfl) (by kernel_rfl) rfl hQ hS (y_move hS rfl) rfl rfl rfl fun a hS => ?_
                  obtain ⟨hg16289, hM⟩ := gd_some hM
                  obtain ⟨hg16290, hM⟩ := gd_some hM
                  obtain ⟨e16291, he16291, hM⟩ := bd hM
                  obtain ⟨b16292, o16293, p16298, cs16295, hr16294, hO16296, hC16297, hy16299⟩ := d_indexw (R := R_KeyD) hS sl22 ty26 0 rfl 0 rfl (hS.get 1 rfl) hg16289 hg16290 he16291
                  obtain rfl := hr16294
                  refine dy 2 (v := .pointer (some ⟨b16292, o16293, none⟩)) rfl (by kernel_rfl) (by kernel_rfl) (by kernel_rfl) rfl hQ hS (hy16299 rfl rfl) rfl rfl rfl fun a hS => ?_
                  refine dy (l := []) 3 (v := .agg #[.int .i64 e16291.Kind, .string e16291.Text]) rfl (by kernel_rfl) (by kernel_rfl) (by kernel_rfl) (by kernel_rfl) hQ hS (y_loado (k := 0) hS ty26 0 rfl hO16296 hC16297 rfl eo_nil (us := [.int .i64 e16291.Kind, .string e16291.Text]) rfl rfl (fun h => by cases h)) rfl rfl rfl fun a hS => ?_
                  refine dy 4 (v := v15178) rfl (by kernel_rfl) (by kernel_rfl) (by kernel_rfl) rfl hQ hS (y_move hS rfl) rfl rfl rfl fun a hS => ?_
                  refine dy 5 (v := .int .i64 k215881) rfl (by kernel_rfl) (by kernel_rfl) (by kernel_rfl) rfl hQ hS (y_move hS rfl) rfl rfl rfl fun a hS => ?_
                  refine dy 6 (v := .int .i64 (IntKind.i64.wrap (k215881 - 1))) rfl (by kernel_rfl) (by kernel_rfl) (by kernel_rfl) rfl hQ hS (y_int hS rfl rfl rfl) rfl rfl rfl fun a hS => ?_
                  obtain ⟨hg16300, hM⟩ := gd_some hM
                  obtain ⟨hg16301, hM⟩ := gd_some hM
                  obtain ⟨e16302, he16302, hM⟩ := bd hM
                  obtain ⟨b16303, o16304, p16309, cs16306, hr16305, hO16307, hC16308, hy16310⟩ := d_indexw (R := R_KeyD) hS sl22 ty26 0 rfl 0 rfl (hS.get 1 rfl) hg16300 hg16301 he16302
                  obtain rfl := hr16305
                  refine dy 7 (v := .pointer (some ⟨b16303, o16304, none⟩)) rfl (by kernel_rfl) (by kernel_rfl) (by kernel_rfl) rfl hQ hS (hy16310 rfl rfl) rfl rfl rfl fun a hS => ?_
                  refine dy (l := []) 8 (v := .agg #[.int .i64 e16302.Kind, .string e16302.Text]) rfl (by kernel_rfl) (by kernel_rfl) (by kernel_rfl) (by kernel_rfl) hQ hS (y_loado (k := 0) hS ty26 0 rfl hO16307 hC16308 rfl eo_nil (us := [.int .i64 e16302.Kind, .string e16302.Text]) rfl rfl (fun h => by cases h)) rfl rfl rfl fun a hS => ?_
                  refine dy 9 (v := .bool (!((e16291.Kind : Int) == e16302.Kind && e16291.Text.toList == e16302.Text.toList))) rfl (by kernel_rfl) (by kernel_rfl) (by kernel_rfl) rfl hQ hS (eq26n hS rfl rfl) rfl rfl rfl fun a hS => ?_
                  refine wpE_done (by kernel_rfl) ?_ _
                  try simp only [Exit.then, Exit.inBlock, ↓reduceIte, Nat.reduceEqDiff]
                  refine hK515 _ _ ?_
                  rcases bool2 (!((e16291.Kind : Int) == e16302.Kind && e16291.Text.toList == e16302.Text.toList)) with hb16311 | hb16311
                  · replace hM := ct hb16311 hM
                    refine c_t hS rfl hb16311 ?_
                    refine wp_seq_k fun K516 hK516 => ?_
                    refine r_list ?_
                    refine wl rfl (ky (v := v1) hS (y_move hS rfl) rfl rfl fun a hS => ?_)
                    refine wl rfl (ky (v := .int .i64 k15880) hS (y_move hS rfl) rfl rfl fun a hS => ?_)
                    refine wl rfl (ky (v := v15178) hS (y_move hS rfl) rfl rfl fun a hS => ?_)
                    refine wl rfl (ky (v := .int .i64 k215881) hS (y_move hS rfl) rfl rfl fun a hS => ?_)
                    obtain ⟨hg16312, hM⟩ := gd_some hM
                    obtain ⟨hg16313, hM⟩ := gd_some hM
                    obtain ⟨e16314, he16314, hM⟩ := bd hM
                    obtain ⟨b16315, o16316, p16321, cs16318, hr16317, hO16319, hC16320, hy16322⟩ := d_indexw (R := R_KeyD) hS sl22 ty26 0 rfl 0 rfl (hS.get 1 rfl) hg16312 hg16313 he16314
                    obtain rfl := hr16317
                    refine wl rfl (ky (v := .pointer (some ⟨b16315, o16316, none⟩)) hS (hy16322 rfl rfl) rfl rfl fun a hS => ?_)
                    refine wl rfl (ky (v := .agg #[.int .i64 e16314.Kind, .string e16314.Text]) hS (y_loado (k := 0) hS ty26 0 rfl hO16319 hC16320 rfl id (us := [.int .i64 e16314.Kind, .string e16314.Text]) rfl rfl (fun h => by cases h)) rfl rfl fun a hS => ?_)
                    obtain ⟨e16323, he16323, hM⟩ := bd hM
                    refine wl rfl (k_indexo (R := R_KeyD) hS sl22 ty26 rfl rfl 0 rfl 0 rfl he16323 rfl fun b16324 o16325 p16330 cs16327 hr16326 hO16328 hC16329 a hS => ?_)
                    obtain rfl := hr16326
                    refine wl rfl (k_storeo (R := R_KeyD) (k := 0) (cs := [.int .i64 e16323.Kind, .string e16323.Text]) (us := [.int .i64 e16314.Kind, .string e16314.Text]) (x' := e16314) hS rfl rfl rfl ty26 0 rfl 0 rfl hO16328 hC16329 he16323 rfl rfl rfl rfl fun cl16331 w hk hS => ?_)
                    refine wpList_nil ?_
                    try simp only [Exit.then, Exit.inBlock, ↓reduceIte, Nat.reduceEqDiff]
                    refine hK516 _ _ ?_
                    refine r_list ?_
                    refine wl rfl (ky (v := .int .i64 k15880) hS (y_move hS rfl) rfl rfl fun a hS => ?_)
                    refine wl rfl (ky (v := .int .i64 (IntKind.i64.wrap (k15880 + 1))) hS (y_int hS rfl rfl rfl) rfl rfl fun a hS => ?_)
                    refine wl rfl (ky (v := .int .i64 (IntKind.i64.wrap (k15880 + 1))) hS (y_assign hS rfl) rfl rfl fun a hS => ?_)
                    refine wpList_nil ?_
                    try simp only [Exit.then, Exit.inBlock, ↓reduceIte, Nat.reduceEqDiff]
                    exact ⟨(s15878.set (Int.toNat k15880) e16314), (IntKind.i64.wrap (k15880 + 1)), k215881, cl16331, (hS.meet [0] (by decide) ⟨rfl, rfl, rfl, rfl, trivial⟩ ⟨rfl, trivial⟩ ⟨⟨0, rfl⟩, ⟨2, rfl⟩, trivial⟩), hM⟩
                  · replace hM := cf hb16311 hM
                    refine c_f hS rfl hb16311 ?_
                    refine wp_skip ?_
                    try simp only [Exit.then, Exit.inBlock, ↓reduceIte, Nat.reduceEqDiff]
                    exact ⟨s15878, k15880, k215881, cl15879, (hS.meet [0] (by decide) ⟨rfl, rfl, rfl, rfl, trivial⟩ ⟨rfl, trivial⟩ ⟨⟨0, rfl⟩, ⟨1, rfl⟩, trivial⟩), hM⟩
                · rintro a w ⟨s16219, k16221, k216222, cl16220, hS, hM⟩
                  unfold compact_Key_j4 at hM
                  refine r_list ?_
                  refine wl rfl (ky (v := .int .i64 k216222) hS (y_move hS rfl) rfl rfl fun a hS => ?_)
                  refine wl rfl (ky (v := .int .i64 (IntKind.i64.wrap (k216222 + 1))) hS (y_int hS rfl rfl rfl) rfl rfl fun a hS => ?_)
                  refine wl rfl (ky (v := .int .i64 (IntKind.i64.wrap (k216222 + 1))) hS (y_assign hS rfl) rfl rfl fun a hS => ?_)
                  refine wpList_nil ?_
                  try simp only [Exit.then, Exit.inBlock, ↓reduceIte, Nat.reduceEqDiff]
                  exact ⟨(s16219, k16221, IntKind.i64.wrap (k216222 + 1)), (Option.some.inj hM).symm, s16219, k16221, (IntKind.i64.wrap (k216222 + 1)), cl16220, rfl, (hS.meet [0] (by decide) ⟨rfl, rfl, rfl, rfl, trivial⟩ ⟨rfl, trivial⟩ ⟨⟨0, rfl⟩, ⟨1, rfl⟩, trivial⟩)⟩
              · replace hM := cf hb16109 hM
                refine c_f hS rfl hb16109 ?_
                refine wp_exit ?_
                try simp only [Exit.then, Exit.inBlock, ↓reduceIte, Nat.reduceEqDiff]
                injection hM with hM
                subst hM
                have hr := hf2 _ rfl
                subst hr
                have hM : compact_Key_j3 s15878 k15880 = some f1 := hMo2
                exact ⟨s15878, k15880, cl15879, (hS.meet [0] (by decide) ⟨rfl, rfl, trivial⟩ ⟨rfl, trivial⟩ ⟨⟨0, rfl⟩, trivial⟩), hM⟩
            · rintro a w ⟨s15639, k15641, cl15640, hS, hM⟩
              unfold compact_Key_j3 at hM
              refine wp_seq_k fun K496 hK496 => ?_
              refine r_list ?_
              refine wl rfl (ky (v := v1) hS (y_move hS rfl) rfl rfl fun a hS => ?_)
              refine wl rfl (ky (v := .int .i64 k15641) hS (y_move hS rfl) rfl rfl fun a hS => ?_)
              obtain ⟨l15642, hl15642, hM⟩ := bd hM
              obtain ⟨v15643, hv15644, hw15646, hy15645⟩ := d_win (R := R_KeyD) hS sl22 ty26 0 rfl 0 rfl hl15642
              replace hS := hS.fact (WinF 2 v1 v15643 (Int.toNat k15641) (Int.toNat (s15639.length : Int)) s15639.length) hw15646
              refine wl rfl (ky (v := v15643) hS (hy15645 (k2 := .i64) rfl (.inl ⟨_, rfl, rfl⟩) (.inr ⟨rfl, rfl⟩)) rfl rfl fun a hS => ?_)
              refine wl rfl (k_clear (R := R_KeyD) (z0 := (KeyD.mk (0 : Int) (ByteArray.mk #[]))) (xs := s15639) hS el22 ze26 rfl 0 rfl 1 rfl (hS.get 0 rfl) rfl fun cl15647 w hk hS => ?_)
              refine wpList_nil ?_
              try simp only [Exit.then, Exit.inBlock, ↓reduceIte, Nat.reduceEqDiff]
              refine hK496 _ _ ?_
              refine wp_seq_k fun K497 hK497 => ?_
              refine r_list ?_
              refine wl rfl (ky (v := v1) hS (y_move hS rfl) rfl rfl fun a hS => ?_)
              refine wl rfl (ky (v := .int .i64 k15641) hS (y_move hS rfl) rfl rfl fun a hS => ?_)
              obtain ⟨l15648, hl15648, hM⟩ := bd hM
              refine wl rfl (k_subo (R := R_KeyD) (k1 := .i64) hS sl22 ty26 rfl (.inr ⟨rfl, rfl⟩) (.inl ⟨_, rfl, rfl⟩) 0 rfl 0 rfl hl15648 rfl fun v15649 cl15650 a hS => ?_)
              refine wl rfl (ky (v := v15649) hS (y_assign hS rfl) rfl rfl fun a hS => ?_)
              refine wpList_nil ?_
              try simp only [Exit.then, Exit.inBlock, ↓reduceIte, Nat.reduceEqDiff]
              refine hK497 _ _ ?_
              refine wp_ret ?_
              injection hM with hM
              subst hM
              have hr := hf1 _ rfl
              subst hr
              replace hMo1 := el_out hMo1
              have hM := hMo1
              injection hM with hM
              subst hM
              try simp only [Exit.then, Exit.inBlock, ↓reduceIte, Nat.reduceEqDiff]
              refine ret_ok hS Tryd.results109 (res_tmp hS rfl res_nil) ?_
              have hZ := hS.meet (G' := []) (D' := [.own v15649 26 R_KeyD.size cl15650]) (F' := [RowsF R_KeyD cl15650 l15648]) [0] (by decide) trivial ⟨rfl, trivial⟩ ⟨⟨0, rfl⟩, trivial⟩
              exact ⟨v15649, cl15650, rfl, (hZ.get 0 rfl), hZ.dnew⟩
          · replace hM := cf hb15176 hM
            refine c_f hS rfl hb15176 ?_
            refine wp_skip ?_
            try simp only [Exit.then, Exit.inBlock, ↓reduceIte, Nat.reduceEqDiff]
            exact ⟨(hS.meet [0] (by decide) ⟨rfl, rfl, trivial⟩ ⟨rfl, trivial⟩ ⟨⟨0, rfl⟩, trivial⟩), hM⟩
        · rintro a w ⟨hS, hM⟩
          unfold compact_Key_j2 at hM
          refine r_list ?_
          refine wl rfl (ky (v := .int .i64 k12085) hS (y_move hS rfl) rfl rfl fun a hS => ?_)
          refine wl rfl (ky (v := .int .i64 (IntKind.i64.wrap (k12085 + 1))) hS (y_int hS rfl rfl rfl) rfl rfl fun a hS => ?_)
          refine wl rfl (ky (v := .int .i64 (IntKind.i64.wrap (k12085 + 1))) hS (y_assign hS rfl) rfl rfl fun a hS => ?_)
          refine wpList_nil ?_
          try simp only [Exit.then, Exit.inBlock, ↓reduceIte, Nat.reduceEqDiff]
          exact ⟨IntKind.i64.wrap (k12085 + 1), (Option.some.inj hM).symm, (IntKind.i64.wrap (k12085 + 1)), rfl, (hS.meet [0] (by decide) ⟨rfl, rfl, trivial⟩ ⟨rfl, trivial⟩ ⟨⟨0, rfl⟩, trivial⟩)⟩
      · replace hM := cf hb14098 hM
        refine c_f hS rfl hb14098 ?_
        refine wp_exit ?_
        try simp only [Exit.then, Exit.inBlock, ↓reduceIte, Nat.reduceEqDiff]
        injection hM with hM
        subst hM
        have hr := hf1 _ rfl
        subst hr
        replace hMo1 := el_go hMo1
        have hM : compact_Key_j1 s_0 = some y := hMo1
        exact ⟨(hS.meet [0] (by decide) ⟨rfl, trivial⟩ ⟨rfl, trivial⟩ ⟨⟨0, rfl⟩, trivial⟩), hM⟩
    · rintro a w ⟨hS, hM⟩
      unfold compact_Key_j1 at hM
      refine wp_seq_k fun K323 hK323 => ?_
      refine r_list ?_
      refine wl rfl (ky (v := v1) hS (y_move hS rfl) rfl rfl fun a hS => ?_)
      refine wl rfl (ky (v := v1) hS (y_assign hS rfl) rfl rfl fun a hS => ?_)
      refine wpList_nil ?_
      try simp only [Exit.then, Exit.inBlock, ↓reduceIte, Nat.reduceEqDiff]
      refine hK323 _ _ ?_
      refine wp_ret ?_
      injection hM with hM
      subst hM
      try simp only [Exit.then, Exit.inBlock, ↓reduceIte, Nat.reduceEqDiff]
      refine ret_ok hS Tryd.results109 (res_tmp hS rfl res_nil) ?_
      have hZ := hS.meet (G' := []) (D' := [.own v1 26 R_KeyD.size cl2]) (F' := [RowsF R_KeyD cl2 s_0]) [0] (by decide) trivial ⟨rfl, trivial⟩ ⟨⟨0, rfl⟩, trivial⟩
      exact ⟨v1, cl2, rfl, (hZ.get 0 rfl), hZ.dnew⟩

noncomputable def key_Sorted (l_0 : (List KeyD)) : Option (List KeyD) := (clone_Key l_0).bind fun u13 => gd (roomB u13.length) <| (compact_Key (sortK u13)).bind fun u20 => some (u20)
set_option maxRecDepth 100000 in
set_option maxHeartbeats 4000000 in
theorem key_Sorted_c (T : Nat → Prop) (W0 : World) (hT : ∀ k, T k → k < W0.heap.size) (hLv : LvP T W0) (l_0 : (List KeyD)) (v1 : Value) (hv1 : SlR R_KeyD T W0 v1 l_0) (y : (List KeyD)) (hM : key_Sorted l_0 = some y) : Rets Tryd.prog No 94 [v1] W0 (fun v w' => ∃ (v2 : Value) (cl3 : List Value), v = v2 ∧ OwnR R_KeyD T W0 w' [.own v2 26 R_KeyD.size cl3] 26 v2 cl3 y) := by
  refine enter (c := _) Tryd.func94 rfl T 10 Tryd.ntmps94 hT rfl fun a hS => ?_
  replace hS := hS.fact LvF (LvP.dn hLv)
  replace hS := hS.fact (SlF R_KeyD v1 l_0) (SlR.dn hv1)
  unfold key_Sorted at hM
  refine wp_seq_k fun K5 hK5 => ?_
  refine r_list ?_
  refine wl rfl (ky (v := .slice none 0 0) hS (y_assign hS rfl) rfl rfl fun a hS => ?_)
  refine wpList_nil ?_
  try simp only [Exit.then, Exit.inBlock, ↓reduceIte, Nat.reduceEqDiff]
  refine hK5 _ _ ?_
  refine wp_seq_k fun K6 hK6 => ?_
  refine r_list ?_
  refine wl rfl (ky (v := v1) hS (y_move hS rfl) rfl rfl fun a hS => ?_)
  obtain ⟨u13, hu13, hM⟩ := bd hM
  refine wl rfl (k_call hS ci58 rfl rfl (clone_Key_c _ _ hS.dlt l_0 _ (hS.get 0 rfl) _ hu13) fun _ w hR a hk hA => ?_)
  obtain ⟨vz14_2, clz14_3, he, ⟨hOvz14_2, hFvz14_2, hRvz14_2⟩⟩ := hR
  replace he := he.symm
  subst he
  have hS := hA [.own vz14_2 26 R_KeyD.size clz14_3] (adds1 ⟨hOvz14_2, by decide⟩ hFvz14_2) (pw1 _)
  replace hS := hS.fact (RowsF R_KeyD clz14_3 u13) (hRvz14_2.keep (Kt.refl _ _) (dT_dT _))
  refine wl rfl (ky (v := vz14_2) hS (y_assign hS rfl) rfl rfl fun a hS => ?_)
  refine wpList_nil ?_
  try simp only [Exit.then, Exit.inBlock, ↓reduceIte, Nat.reduceEqDiff]
  refine hK6 _ _ ?_
  refine wp_seq_k fun K7 hK7 => ?_
  refine r_list ?_
  refine wl rfl (ky (v := vz14_2) hS (y_move hS rfl) rfl rfl fun a hS => ?_)
  obtain ⟨hg16, hM⟩ := gd_some hM
  replace hS := (show St W0 No T 10 _ ([.own vz14_2 26 R_KeyD.size clz14_3] ++ []) _ _ _ from hS)
  refine wl rfl (k_callD (D0 := [.own vz14_2 26 R_KeyD.size clz14_3]) (Dr := []) hS ci108 rfl rfl (sortKey_c _ _ _ _ _ hS.dok (hS.getD 0 rfl) hg16) fun _ w hR a hk hA => ?_)
  obtain ⟨he, cl17, hR19, hN18⟩ := hR
  subst he
  have hS := hA _ hN18
  replace hS := (show St W0 No T 10 _ [.own vz14_2 26 R_KeyD.size cl17] _ _ _ from hS)
  replace hS := hS.fact (RowsF R_KeyD cl17 (sortK u13)) (hR19.keep (Kt.refl _ _) (dT_join _))
  refine wpList_nil ?_
  try simp only [Exit.then, Exit.inBlock, ↓reduceIte, Nat.reduceEqDiff]
  refine hK7 _ _ ?_
  refine wp_seq_k fun K8 hK8 => ?_
  refine r_list ?_
  refine wl rfl (ky (v := vz14_2) hS (y_move hS rfl) rfl rfl fun a hS => ?_)
  have hL := hS
  obtain ⟨u20, hu20, hM⟩ := bd hM
  replace hS := (show St W0 No T 10 _ ([.own vz14_2 26 R_KeyD.size cl17] ++ []) _ _ _ from hS)
  refine wl rfl (k_callD (D0 := [.own vz14_2 26 R_KeyD.size cl17]) (Dr := []) hS ci109 rfl rfl (compact_Key_c _ _ hS.dltD (sortK u13) _ _ hS.dok (hS.getD 0 rfl) _ hu20) fun _ w hR a hk hA => ?_)
  obtain ⟨vz21_3, clz21_4, he, hRvz21_3, hN22⟩ := hR
  replace he := he.symm
  subst he
  have hS := hA _ hN22
  replace hS := (show St W0 No T 10 _ [.own vz21_3 26 R_KeyD.size clz21_4] _ _ _ from hS)
  replace hS := hS.fact (RowsF R_KeyD clz21_4 u20) (hRvz21_3.keep (Kt.refl _ _) (dT_join _))
  refine wl rfl (ky (v := vz21_3) hS (y_assign hS rfl) rfl rfl fun a hS => ?_)
  refine wpList_nil ?_
  try simp only [Exit.then, Exit.inBlock, ↓reduceIte, Nat.reduceEqDiff]
  refine hK8 _ _ ?_
  refine wp_ret ?_
  injection hM with hM
  subst hM
  try simp only [Exit.then, Exit.inBlock, ↓reduceIte, Nat.reduceEqDiff]
  refine ret_ok hS Tryd.results94 (res_tmp hS rfl res_nil) ?_
  exact ⟨vz21_3, clz21_4, rfl, hS.retOwn ⟨.inr (List.mem_of_getElem? (i := 0) rfl), trivial⟩ 0 rfl 0 rfl⟩

noncomputable def branch_contents_j1 (l_0 : (List ChangeD)) : Option Bool := some (decide (((l_0.length : Int) : Int) ≤ 64))
noncomputable def branch_contents_j2 (g744 : Int) (g948 : Bool) : Option (Fl (Int) (Fl (Unit) Bool)) := cond g948 (some (.out (.out false))) (some (.go (IntKind.i64.wrap (g744 + 1))))
noncomputable def branch_contents_l3 (l_0 : (List ChangeD)) (g744 : Int) : Option (Fl (Int) (Fl (Unit) Bool)) := cond (decide ((g744 : Int) < (l_0.length : Int))) ((getI l_0 g744).bind fun e867 => (key_Valid e867.Key).bind fun u968 => cond (!(u968)) (branch_contents_j2 g744 true) ((key_Input e867.Key).bind fun u971 => cond (!(u971)) (branch_contents_j2 g744 true) (cond (e867.Value.toList == (ByteArray.mk #[]).toList) (branch_contents_j2 g744 true) (cond (decide ((1073741824 : Int) < (e867.Value.size : Int))) (branch_contents_j2 g744 true) (cond (decide ((0 : Int) < g744)) ((getI l_0 (IntKind.i64.wrap (g744 - 1))).bind fun e977 => (key_Cmp e977.Key e867.Key).bind fun u984 => branch_contents_j2 g744 (decide ((0 : Int) ≤ u984))) (branch_contents_j2 g744 false)))))) (some (.out (.go ())))
noncomputable def branch_contents (l_0 : (List ChangeD)) : Option Bool := (loop (fun s : Int => branch_contents_l3 l_0 s) 0).bind fun r => Fl.el r (fun s => branch_contents_j1 l_0) (fun y => some (y))
set_option maxRecDepth 100000 in
set_option maxHeartbeats 4000000 in
theorem branch_contents_c (T : Nat → Prop) (W0 : World) (hT : ∀ k, T k → k < W0.heap.size) (hLv : LvP T W0) (l_0 : (List ChangeD)) (v1 : Value) (hv1 : SlR R_ChangeD T W0 v1 l_0) (y : Bool) (hM : branch_contents l_0 = some y) : Rets Tryd.prog No 77 [v1] W0 (fun v w' => v = .bool y) := by
  refine enter (c := _) Tryd.func77 rfl T 53 Tryd.ntmps77 hT rfl fun a hS => ?_
  replace hS := hS.fact LvF (LvP.dn hLv)
  replace hS := hS.fact (SlF R_ChangeD v1 l_0) (SlR.dn hv1)
  unfold branch_contents at hM
  refine wp_seq_k fun K20 hK20 => ?_
  refine r_list ?_
  refine wl rfl (ky (v := .bool false) hS (y_assign hS rfl) rfl rfl fun a hS => ?_)
  refine wpList_nil ?_
  try simp only [Exit.then, Exit.inBlock, ↓reduceIte, Nat.reduceEqDiff]
  refine hK20 _ _ ?_
  refine seq_j (J := fun a w => St W0 No T 53 [(0, v1)] [] [SlF R_ChangeD v1 l_0, LvF] a w ∧ branch_contents_j1 l_0 = some y) ?_ ?_
  · skip
    refine wp_seq_k fun K33 hK33 => ?_
    refine r_list ?_
    refine wl rfl (ky (v := v1) hS (y_move hS rfl) rfl rfl fun a hS => ?_)
    refine wl rfl (ky (v := .int .i64 (l_0.length : Int)) hS (y_len (R := R_ChangeD) (xs := l_0) hS sl79 rfl 0 rfl) rfl rfl fun a hS => ?_)
    refine wl rfl (ky (v := .int .i64 0) hS (y_move hS rfl) rfl rfl fun a hS => ?_)
    refine wpList_nil ?_
    try simp only [Exit.then, Exit.inBlock, ↓reduceIte, Nat.reduceEqDiff]
    refine hK33 _ _ ?_
    refine wp_block ?_
    obtain ⟨r1, hl1, hMo1⟩ := bd hM
    refine wp_lp (fun s : Int => branch_contents_l3 l_0 s) (fun s a w => ∃ (g744 : Int), g744 = s ∧ St W0 No T 53 [(0, v1), (5, v1), (6, .int .i64 (l_0.length : Int)), (7, .int .i64 g744)] [] [SlF R_ChangeD v1 l_0, LvF] a w) hl1 ⟨0, rfl, (hS.meet [] (by decide) ⟨rfl, rfl, rfl, rfl, trivial⟩ trivial ⟨⟨0, rfl⟩, ⟨1, rfl⟩, trivial⟩)⟩ ?_
    rintro s a w f1 ⟨g744, rfl, hS⟩ hM hf1
    have hM : branch_contents_l3 l_0 g744 = some f1 := hM
    unfold branch_contents_l3 at hM
    refine wp_seq_k fun K44 hK44 => ?_
    refine r_list ?_
    refine wl rfl (ky (v := .bool (decide ((g744 : Int) < (l_0.length : Int)))) hS (y_int hS rfl rfl rfl) rfl rfl fun a hS => ?_)
    refine wpList_nil ?_
    try simp only [Exit.then, Exit.inBlock, ↓reduceIte, Nat.reduceEqDiff]
    refine hK44 _ _ ?_
    refine wp_seq_k fun K45 hK45 => ?_
    rcases bool2 (decide ((g744 : Int) < (l_0.length : Int))) with hb866 | hb866
    · replace hM := ct hb866 hM
      refine c_t hS rfl hb866 ?_
      refine wp_skip ?_
      try simp only [Exit.then, Exit.inBlock, ↓reduceIte, Nat.reduceEqDiff]
      refine hK45 _ _ ?_
      refine wp_seq_k fun K46 hK46 => ?_
      refine wp_block ?_
      refine wp_seq_k fun K47 hK47 => ?_
      refine r_list ?_
      refine wl rfl (ky (v := .int .i64 g744) hS (y_move hS rfl) rfl rfl fun a hS => ?_)
      obtain ⟨e867, he867, hM⟩ := bd hM
      refine wl rfl (k_index (R := R_ChangeD) hS sl79 ty88 rfl rfl 0 rfl he867 rfl fun b868 o869 cs871 hr870 a hS => ?_)
      obtain rfl := hr870
      refine wl rfl (ky (v := .agg #[.int .i64 e867.Key.Kind, .string e867.Key.Text, .string e867.Value]) hS (y_loadc (k := 0) hS ty88 0 rfl rfl (fun _ h => h.elim) (us := [.int .i64 e867.Key.Kind, .string e867.Key.Text, .string e867.Value]) rfl rfl (fun h => by cases h)) rfl rfl fun a hS => ?_)
      refine wl rfl (k_alloc hS ze88 rfl fun b873 hnb875 a w hk hS => ?_)
      refine wl rfl (ky (v := .int .i64 g744) hS (y_assign hS rfl) rfl rfl fun a hS => ?_)
      refine wl rfl (k_store hS rfl rfl (us := [.int .i64 e867.Key.Kind, .string e867.Key.Text, .string e867.Value]) rfl ty88 0 rfl rfl rfl (oc rfl (oc rfl (oc rfl on))) fun w hk hS => ?_)
      refine wpList_nil ?_
      try simp only [Exit.then, Exit.inBlock, ↓reduceIte, Nat.reduceEqDiff]
      refine hK47 _ _ ?_
      refine seq_j (J := fun a w => ∃ (g948 : Bool), St W0 No T 53 [(0, v1), (5, v1), (6, .int .i64 (l_0.length : Int)), (7, .int .i64 g744), (48, .bool g948)] [] [SlF R_ChangeD v1 l_0, LvF] a w ∧ branch_contents_j2 g744 g948 = some f1) ?_ ?_
      · skip
        refine draws [] hS mixed rfl (fun c a d v w h => by cases d <;> exact h) fun w hQ hS => ?_
        refine dy 0 (v := .pointer (some ⟨b873, 0 + 0, none⟩)) rfl (by kernel_rfl) (by kernel_rfl) (by kernel_rfl) rfl hQ hS (y_fld hS rfl fl88_0) rfl rfl rfl fun a hS => ?_
        refine dy (l := []) 1 (v := .agg #[.int .i64 e867.Key.Kind, .string e867.Key.Text]) rfl (by kernel_rfl) (by kernel_rfl) (by kernel_rfl) (by kernel_rfl) hQ hS (y_load hS rfl ty26 0 rfl eo_nil (us := [.int .i64 e867.Key.Kind, .string e867.Key.Text]) rfl rfl (fun h => by cases h)) rfl rfl rfl fun a hS => ?_
        obtain ⟨u968, hu968, hM⟩ := bd hM
        refine wpE_one (i := 2) rfl (by kernel_rfl) rfl (k_call hS ci53 rfl rfl (key_Valid_c _ _ hS.dlt (hS.get 2 rfl) e867.Key _ hu968) fun _ w hR a hk hA => ⟨stN (hk), ?_⟩)
        have he := Eq.symm hR
        subst he
        have hS := hA [] (fun r hr => by cases hr) List.Pairwise.nil
        refine dy 3 (v := .bool (!(u968))) rfl (by kernel_rfl) (by kernel_rfl) (by kernel_rfl) rfl hQ hS (y_not hS rfl) rfl rfl rfl fun a hS => ?_
        refine dy 4 (v := .bool (!(u968))) rfl (by kernel_rfl) (by kernel_rfl) (by kernel_rfl) rfl hQ hS (y_move hS rfl) rfl rfl rfl fun a hS => ?_
        rcases bool2 (!(u968)) with hb970 | hb970
        · replace hM := ct hb970 hM
          refine dyn 5 rfl (by kernel_rfl) (by kernel_rfl) (by kernel_rfl) hQ hS rfl rfl rfl hb970 rfl rfl fun a hS => ?_
          refine dyn 6 rfl (by kernel_rfl) (by kernel_rfl) (by kernel_rfl) hQ hS rfl rfl rfl hb970 rfl rfl fun a hS => ?_
          refine dyn 7 rfl (by kernel_rfl) (by kernel_rfl) (by kernel_rfl) hQ hS rfl rfl rfl hb970 rfl rfl fun a hS => ?_
          refine dyn 8 rfl (by kernel_rfl) (by kernel_rfl) (by kernel_rfl) hQ hS rfl rfl rfl hb970 rfl rfl fun a hS => ?_
          refine dy 9 (v := .bool true) rfl (by kernel_rfl) (by kernel_rfl) (by kernel_rfl) rfl hQ hS (y_pickt hS rfl hb970 rfl) rfl rfl rfl fun a hS => ?_
          refine dy 10 (v := .bool true) rfl (by kernel_rfl) (by kernel_rfl) (by kernel_rfl) rfl hQ hS (y_move hS rfl) rfl rfl rfl fun a hS => ?_
          refine dyn 11 rfl (by kernel_rfl) (by kernel_rfl) (by kernel_rfl) hQ hS rfl rfl rfl rfl rfl rfl fun a hS => ?_
          refine dyn 12 rfl (by kernel_rfl) (by kernel_rfl) (by kernel_rfl) hQ hS rfl rfl rfl rfl rfl rfl fun a hS => ?_
          refine dyn 13 rfl (by kernel_rfl) (by kernel_rfl) (by kernel_rfl) hQ hS rfl rfl rfl rfl rfl rfl fun a hS => ?_
          refine dy 14 (v := .bool true) rfl (by kernel_rfl) (by kernel_rfl) (by kernel_rfl) rfl hQ hS (y_pickt hS rfl rfl rfl) rfl rfl rfl fun a hS => ?_
          refine dy 15 (v := .bool true) rfl (by kernel_rfl) (by kernel_rfl) (by kernel_rfl) rfl hQ hS (y_move hS rfl) rfl rfl rfl fun a hS => ?_
          refine dyn 16 rfl (by kernel_rfl) (by kernel_rfl) (by kernel_rfl) hQ hS rfl rfl rfl rfl rfl rfl fun a hS => ?_
          refine dyn 17 rfl (by kernel_rfl) (by kernel_rfl) (by kernel_rfl) hQ hS rfl rfl rfl rfl rfl rfl fun a hS => ?_
          refine dyn 18 rfl (by kernel_rfl) (by kernel_rfl) (by kernel_rfl) hQ hS rfl rfl rfl rfl rfl rfl fun a hS => ?_
          refine dyn 19 rfl (by kernel_rfl) (by kernel_rfl) (by kernel_rfl) hQ hS rfl rfl rfl rfl rfl rfl fun a hS => ?_
          refine dy 20 (v := .bool true) rfl (by kernel_rfl) (by kernel_rfl) (by kernel_rfl) rfl hQ hS (y_pickt hS rfl rfl rfl) rfl rfl rfl fun a hS => ?_
          refine dy 21 (v := .bool true) rfl (by kernel_rfl) (by kernel_rfl) (by kernel_rfl) rfl hQ hS (y_move hS rfl) rfl rfl rfl fun a hS => ?_
          refine dyn 22 rfl (by kernel_rfl) (by kernel_rfl) (by kernel_rfl) hQ hS rfl rfl rfl rfl rfl rfl fun a hS => ?_
          refine dyn 23 rfl (by kernel_rfl) (by kernel_rfl) (by kernel_rfl) hQ hS rfl rfl rfl rfl rfl rfl fun a hS => ?_
          refine dyn 24 rfl (by kernel_rfl) (by kernel_rfl) (by kernel_rfl) hQ hS rfl rfl rfl rfl rfl rfl fun a hS => ?_
          refine dynu 25 rfl (by kernel_rfl) (by kernel_rfl) (by kernel_rfl) hQ hS rfl rfl rfl rfl rfl fun a hS => ?_
          refine dynu 26 rfl (by kernel_rfl) (by kernel_rfl) (by kernel_rfl) hQ hS rfl rfl rfl rfl rfl fun a hS => ?_
          refine dynu 27 rfl (by kernel_rfl) (by kernel_rfl) (by kernel_rfl) hQ hS rfl rfl rfl rfl rfl fun a hS => ?_
          refine dynu 28 rfl (by kernel_rfl) (by kernel_rfl) (by kernel_rfl) hQ hS rfl rfl rfl rfl rfl fun a hS => ?_
          refine dynu 29 rfl (by kernel_rfl) (by kernel_rfl) (by kernel_rfl) hQ hS rfl rfl rfl rfl rfl fun a hS => ?_
          refine dynu 30 rfl (by kernel_rfl) (by kernel_rfl) (by kernel_rfl) hQ hS rfl rfl rfl rfl rfl fun a hS => ?_
          refine dynu 31 rfl (by kernel_rfl) (by kernel_rfl) (by kernel_rfl) hQ hS rfl rfl rfl rfl rfl fun a hS => ?_
          refine dynu 32 rfl (by kernel_rfl) (by kernel_rfl) (by kernel_rfl) hQ hS rfl rfl rfl rfl rfl fun a hS => ?_
          refine dynu 33 rfl (by kernel_rfl) (by kernel_rfl) (by kernel_rfl) hQ hS rfl rfl rfl rfl rfl fun a hS => ?_
          refine dynu 34 rfl (by kernel_rfl) (by kernel_rfl) (by kernel_rfl) hQ hS rfl rfl rfl rfl rfl fun a hS => ?_
          refine dyn 35 rfl (by kernel_rfl) (by kernel_rfl) (by kernel_rfl) hQ hS rfl rfl rfl rfl rfl rfl fun a hS => ?_
          refine dy 36 (v := .bool true) rfl (by kernel_rfl) (by kernel_rfl) (by kernel_rfl) rfl hQ hS (y_pickt hS rfl rfl rfl) rfl rfl rfl fun a hS => ?_
          refine wpE_done (by kernel_rfl) ?_ _
          try simp only [Exit.then, Exit.inBlock, ↓reduceIte, Nat.reduceEqDiff]
          exact ⟨true, (hS.meet [] (by decide) ⟨rfl, rfl, rfl, rfl, rfl, trivial⟩ trivial ⟨⟨1, rfl⟩, ⟨2, rfl⟩, trivial⟩), hM⟩
        · replace hM := cf hb970 hM
          refine dyg 5 (v := .pointer (some ⟨b873, 0 + 0, none⟩)) rfl (by kernel_rfl) (by kernel_rfl) (by kernel_rfl) rfl hQ hS (y_fld hS rfl fl88_0) rfl rfl rfl hb970 rfl rfl fun a hS => ?_
          refine dyg (l := []) 6 (v := .agg #[.int .i64 e867.Key.Kind, .string e867.Key.Text]) rfl (by kernel_rfl) (by kernel_rfl) (by kernel_rfl) (by kernel_rfl) hQ hS (y_load hS rfl ty26 0 rfl eo_nil (us := [.int .i64 e867.Key.Kind, .string e867.Key.Text]) rfl rfl (fun h => by cases h)) rfl rfl rfl hb970 rfl rfl fun a hS => ?_
          obtain ⟨u971, hu971, hM⟩ := bd hM
          refine wpE_oneg (i := 7) rfl (by kernel_rfl) hS rfl rfl rfl hb970 (k_call hS ci100 rfl rfl (key_Input_c _ _ hS.dlt e867.Key _ hu971) fun _ w hR a hk hA => ⟨stN (hk), ?_⟩)
          have he := Eq.symm hR
          subst he
          have hS := hA [] (fun r hr => by cases hr) List.Pairwise.nil
          refine dyg 8 (v := .bool (!(u971))) rfl (by kernel_rfl) (by kernel_rfl) (by kernel_rfl) rfl hQ hS (y_not hS rfl) rfl rfl rfl hb970 rfl rfl fun a hS => ?_
          refine dy 9 (v := .bool (!(u971))) rfl (by kernel_rfl) (by kernel_rfl) (by kernel_rfl) rfl hQ hS (y_pickf hS rfl hb970 rfl) rfl rfl rfl fun a hS => ?_
          refine dy 10 (v := .bool (!(u971))) rfl (by kernel_rfl) (by kernel_rfl) (by kernel_rfl) rfl hQ hS (y_move hS rfl) rfl rfl rfl fun a hS => ?_
          rcases bool2 (!(u971)) with hb973 | hb973
          · replace hM := ct hb973 hM
            refine dyn 11 rfl (by kernel_rfl) (by kernel_rfl) (by kernel_rfl) hQ hS rfl rfl rfl hb973 rfl rfl fun a hS => ?_
            refine dyn 12 rfl (by kernel_rfl) (by kernel_rfl) (by kernel_rfl) hQ hS rfl rfl rfl hb973 rfl rfl fun a hS => ?_
            refine dyn 13 rfl (by kernel_rfl) (by kernel_rfl) (by kernel_rfl) hQ hS rfl rfl rfl hb973 rfl rfl fun a hS => ?_
            refine dy 14 (v := .bool true) rfl (by kernel_rfl) (by kernel_rfl) (by kernel_rfl) rfl hQ hS (y_pickt hS rfl hb973 rfl) rfl rfl rfl fun a hS => ?_
            refine dy 15 (v := .bool true) rfl (by kernel_rfl) (by kernel_rfl) (by kernel_rfl) rfl hQ hS (y_move hS rfl) rfl rfl rfl fun a hS => ?_
            refine dyn 16 rfl (by kernel_rfl) (by kernel_rfl) (by kernel_rfl) hQ hS rfl rfl rfl rfl rfl rfl fun a hS => ?_
            refine dyn 17 rfl (by kernel_rfl) (by kernel_rfl) (by kernel_rfl) hQ hS rfl rfl rfl rfl rfl rfl fun a hS => ?_
            refine dyn 18 rfl (by kernel_rfl) (by kernel_rfl) (by kernel_rfl) hQ hS rfl rfl rfl rfl rfl rfl fun a hS => ?_
            refine dyn 19 rfl (by kernel_rfl) (by kernel_rfl) (by kernel_rfl) hQ hS rfl rfl rfl rfl rfl rfl fun a hS => ?_
            refine dy 20 (v := .bool true) rfl (by kernel_rfl) (by kernel_rfl) (by kernel_rfl) rfl hQ hS (y_pickt hS rfl rfl rfl) rfl rfl rfl fun a hS => ?_
            refine dy 21 (v := .bool true) rfl (by kernel_rfl) (by kernel_rfl) (by kernel_rfl) rfl hQ hS (y_move hS rfl) rfl rfl rfl fun a hS => ?_
            refine dyn 22 rfl (by kernel_rfl) (by kernel_rfl) (by kernel_rfl) hQ hS rfl rfl rfl rfl rfl rfl fun a hS => ?_
            refine dyn 23 rfl (by kernel_rfl) (by kernel_rfl) (by kernel_rfl) hQ hS rfl rfl rfl rfl rfl rfl fun a hS => ?_
            refine dyn 24 rfl (by kernel_rfl) (by kernel_rfl) (by kernel_rfl) hQ hS rfl rfl rfl rfl rfl rfl fun a hS => ?_
            refine dynu 25 rfl (by kernel_rfl) (by kernel_rfl) (by kernel_rfl) hQ hS rfl rfl rfl rfl rfl fun a hS => ?_
            refine dynu 26 rfl (by kernel_rfl) (by kernel_rfl) (by kernel_rfl) hQ hS rfl rfl rfl rfl rfl fun a hS => ?_
            refine dynu 27 rfl (by kernel_rfl) (by kernel_rfl) (by kernel_rfl) hQ hS rfl rfl rfl rfl rfl fun a hS => ?_
            refine dynu 28 rfl (by kernel_rfl) (by kernel_rfl) (by kernel_rfl) hQ hS rfl rfl rfl rfl rfl fun a hS => ?_
            refine dynu 29 rfl (by kernel_rfl) (by kernel_rfl) (by kernel_rfl) hQ hS rfl rfl rfl rfl rfl fun a hS => ?_
            refine dynu 30 rfl (by kernel_rfl) (by kernel_rfl) (by kernel_rfl) hQ hS rfl rfl rfl rfl rfl fun a hS => ?_
            refine dynu 31 rfl (by kernel_rfl) (by kernel_rfl) (by kernel_rfl) hQ hS rfl rfl rfl rfl rfl fun a hS => ?_
            refine dynu 32 rfl (by kernel_rfl) (by kernel_rfl) (by kernel_rfl) hQ hS rfl rfl rfl rfl rfl fun a hS => ?_
            refine dynu 33 rfl (by kernel_rfl) (by kernel_rfl) (by kernel_rfl) hQ hS rfl rfl rfl rfl rfl fun a hS => ?_
            refine dynu 34 rfl (by kernel_rfl) (by kernel_rfl) (by kernel_rfl) hQ hS rfl rfl rfl rfl rfl fun a hS => ?_
            refine dyn 35 rfl (by kernel_rfl) (by kernel_rfl) (by kernel_rfl) hQ hS rfl rfl rfl rfl rfl rfl fun a hS => ?_
            refine dy 36 (v := .bool true) rfl (by kernel_rfl) (by kernel_rfl) (by kernel_rfl) rfl hQ hS (y_pickt hS rfl rfl rfl) rfl rfl rfl fun a hS => ?_
            refine wpE_done (by kernel_rfl) ?_ _
            try simp only [Exit.then, Exit.inBlock, ↓reduceIte, Nat.reduceEqDiff]
            exact ⟨true, (hS.meet [] (by decide) ⟨rfl, rfl, rfl, rfl, rfl, trivial⟩ trivial ⟨⟨1, rfl⟩, ⟨2, rfl⟩, trivial⟩), hM⟩
          · replace hM := cf hb973 hM
            refine dyg 11 (v := .pointer (some ⟨b873, 0 + 2, none⟩)) rfl (by kernel_rfl) (by kernel_rfl) (by kernel_rfl) rfl hQ hS (y_fld hS rfl fl88_1) rfl rfl rfl hb973 rfl rfl fun a hS => ?_
            refine dyg (l := []) 12 (v := .string e867.Value) rfl (by kernel_rfl) (by kernel_rfl) (by kernel_rfl) (by kernel_rfl) hQ hS (y_load hS rfl ty9 0 rfl eo_nil (us := [.string e867.Value]) rfl rfl (fun _ => rfl)) rfl rfl rfl hb973 rfl rfl fun a hS => ?_
            refine dyg 13 (v := .bool (e867.Value.toList == (ByteArray.mk #[]).toList)) rfl (by kernel_rfl) (by kernel_rfl) (by kernel_rfl) rfl hQ hS (y_str hS rfl rfl rfl) rfl rfl rfl hb973 rfl rfl fun a hS => ?_
            refine dy 14 (v := .bool (e867.Value.toList == (ByteArray.mk #[]).toList)) rfl (by kernel_rfl) (by kernel_rfl) (by kernel_rfl) rfl hQ hS (y_pickf hS rfl hb973 rfl) rfl rfl rfl fun a hS => ?_
            refine dy 15 (v := .bool (e867.Value.toList == (ByteArray.mk #[]).toList)) rfl (by kernel_rfl) (by kernel_rfl) (by kernel_rfl) rfl hQ hS (y_move hS rfl) rfl rfl rfl fun a hS => ?_
            rcases bool2 (e867.Value.toList == (ByteArray.mk #[]).toList) with hb974 | hb974
            · replace hM := ct hb974 hM
              refine dyn 16 rfl (by kernel_rfl) (by kernel_rfl) (by kernel_rfl) hQ hS rfl rfl rfl hb974 rfl rfl fun a hS => ?_
              refine dyn 17 rfl (by kernel_rfl) (by kernel_rfl) (by kernel_rfl) hQ hS rfl rfl rfl hb974 rfl rfl fun a hS => ?_
              refine dyn 18 rfl (by kernel_rfl) (by kernel_rfl) (by kernel_rfl) hQ hS rfl rfl rfl hb974 rfl rfl fun a hS => ?_
              refine dyn 19 rfl (by kernel_rfl) (by kernel_rfl) (by kernel_rfl) hQ hS rfl rfl rfl hb974 rfl rfl fun a hS => ?_
              refine dy 20 (v := .bool true) rfl (by kernel_rfl) (by kernel_rfl) (by kernel_rfl) rfl hQ hS (y_pickt hS rfl hb974 rfl) rfl rfl rfl fun a hS => ?_
              refine dy 21 (v := .bool true) rfl (by kernel_rfl) (by kernel_rfl) (by kernel_rfl) rfl hQ hS (y_move hS rfl) rfl rfl rfl fun a hS => ?_
              refine dyn 22 rfl (by kernel_rfl) (by kernel_rfl) (by kernel_rfl) hQ hS rfl rfl rfl rfl rfl rfl fun a hS => ?_
              refine dyn 23 rfl (by kernel_rfl) (by kernel_rfl) (by kernel_rfl) hQ hS rfl rfl rfl rfl rfl rfl fun a hS => ?_
              refine dyn 24 rfl (by kernel_rfl) (by kernel_rfl) (by kernel_rfl) hQ hS rfl rfl rfl rfl rfl rfl fun a hS => ?_
              refine dynu 25 rfl (by kernel_rfl) (by kernel_rfl) (by kernel_rfl) hQ hS rfl rfl rfl rfl rfl fun a hS => ?_
              refine dynu 26 rfl (by kernel_rfl) (by kernel_rfl) (by kernel_rfl) hQ hS rfl rfl rfl rfl rfl fun a hS => ?_
              refine dynu 27 rfl (by kernel_rfl) (by kernel_rfl) (by kernel_rfl) hQ hS rfl rfl rfl rfl rfl fun a hS => ?_
              refine dynu 28 rfl (by kernel_rfl) (by kernel_rfl) (by kernel_rfl) hQ hS rfl rfl rfl rfl rfl fun a hS => ?_
              refine dynu 29 rfl (by kernel_rfl) (by kernel_rfl) (by kernel_rfl) hQ hS rfl rfl rfl rfl rfl fun a hS => ?_
              refine dynu 30 rfl (by kernel_rfl) (by kernel_rfl) (by kernel_rfl) hQ hS rfl rfl rfl rfl rfl fun a hS => ?_
              refine dynu 31 rfl (by kernel_rfl) (by kernel_rfl) (by kernel_rfl) hQ hS rfl rfl rfl rfl rfl fun a hS => ?_
              refine dynu 32 rfl (by kernel_rfl) (by kernel_rfl) (by kernel_rfl) hQ hS rfl rfl rfl rfl rfl fun a hS => ?_
              refine dynu 33 rfl (by kernel_rfl) (by kernel_rfl) (by kernel_rfl) hQ hS rfl rfl rfl rfl rfl fun a hS => ?_
              refine dynu 34 rfl (by kernel_rfl) (by kernel_rfl) (by kernel_rfl) hQ hS rfl rfl rfl rfl rfl fun a hS => ?_
              refine dyn 35 rfl (by kernel_rfl) (by kernel_rfl) (by kernel_rfl) hQ hS rfl rfl rfl rfl rfl rfl fun a hS => ?_
              refine dy 36 (v := .bool true) rfl (by kernel_rfl) (by kernel_rfl) (by kernel_rfl) rfl hQ hS (y_pickt hS rfl rfl rfl) rfl rfl rfl fun a hS => ?_
              refine wpE_done (by kernel_rfl) ?_ _
              try simp only [Exit.then, Exit.inBlock, ↓reduceIte, Nat.reduceEqDiff]
              exact ⟨true, (hS.meet [] (by decide) ⟨rfl, rfl, rfl, rfl, rfl, trivial⟩ trivial ⟨⟨1, rfl⟩, ⟨2, rfl⟩, trivial⟩), hM⟩
            · replace hM := cf hb974 hM
              refine dyg 16 (v := .pointer (some ⟨b873, 0 + 2, none⟩)) rfl (by kernel_rfl) (by kernel_rfl) (by kernel_rfl) rfl hQ hS (y_fld hS rfl fl88_1) rfl rfl rfl hb974 rfl rfl fun a hS => ?_
              refine dyg (l := []) 17 (v := .string e867.Value) rfl (by kernel_rfl) (by kernel_rfl) (by kernel_rfl) (by kernel_rfl) hQ hS (y_load hS rfl ty9 0 rfl eo_nil (us := [.string e867.Value]) rfl rfl (fun _ => rfl)) rfl rfl rfl hb974 rfl rfl fun a hS => ?_
              refine dyg 18 (v := .int .i64 (e867.Value.size : Int)) rfl (by kernel_rfl) (by kernel_rfl) (by kernel_rfl) rfl hQ hS (y_lens hS Tryd.underlying9 rfl) rfl rfl rfl hb974 rfl rfl fun a hS => ?_
              refine dyg 19 (v := .bool (decide ((1073741824 : Int) < (e867.Value.size : Int)))) rfl (by kernel_rfl) (by kernel_rfl) (by kernel_rfl) rfl hQ hS (y_int hS rfl rfl rfl) rfl rfl rfl hb974 rfl rfl fun a hS => ?_
              refine dy 20 (v := .bool (decide ((1073741824 : Int) < (e867.Value.size : Int)))) rfl (by kernel_rfl) (by kernel_rfl) (by kernel_rfl) rfl hQ hS (y_pickf hS rfl hb974 rfl) rfl rfl rfl fun a hS => ?_
              refine dy 21 (v := .bool (decide ((1073741824 : Int) < (e867.Value.size : Int)))) rfl (by kernel_rfl) (by kernel_rfl) (by kernel_rfl) rfl hQ hS (y_move hS rfl) rfl rfl rfl fun a hS => ?_
              rcases bool2 (decide ((1073741824 : Int) < (e867.Value.size : Int))) with hb975 | hb975
              · replace hM := ct hb975 hM
                refine dyn 22 rfl (by kernel_rfl) (by kernel_rfl) (by kernel_rfl) hQ hS rfl rfl rfl hb975 rfl rfl fun a hS => ?_
                refine dyn 23 rfl (by kernel_rfl) (by kernel_rfl) (by kernel_rfl) hQ hS rfl rfl rfl hb975 rfl rfl fun a hS => ?_
                refine dyn 24 rfl (by kernel_rfl) (by kernel_rfl) (by kernel_rfl) hQ hS rfl rfl rfl hb975 rfl rfl fun a hS => ?_
                refine dynu 25 rfl (by kernel_rfl) (by kernel_rfl) (by kernel_rfl) hQ hS rfl rfl rfl rfl rfl fun a hS => ?_
                refine dynu 26 rfl (by kernel_rfl) (by kernel_rfl) (by kernel_rfl) hQ hS rfl rfl rfl rfl rfl fun a hS => ?_
                refine dynu 27 rfl (by kernel_rfl) (by kernel_rfl) (by kernel_rfl) hQ hS rfl rfl rfl rfl rfl fun a hS => ?_
                refine dynu 28 rfl (by kernel_rfl) (by kernel_rfl) (by kernel_rfl) hQ hS rfl rfl rfl rfl rfl fun a hS => ?_
                refine dynu 29 rfl (by kernel_rfl) (by kernel_rfl) (by kernel_rfl) hQ hS rfl rfl rfl rfl rfl fun a hS => ?_
                refine dynu 30 rfl (by kernel_rfl) (by kernel_rfl) (by kernel_rfl) hQ hS rfl rfl rfl rfl rfl fun a hS => ?_
                refine dynu 31 rfl (by kernel_rfl) (by kernel_rfl) (by kernel_rfl) hQ hS rfl rfl rfl rfl rfl fun a hS => ?_
                refine dynu 32 rfl (by kernel_rfl) (by kernel_rfl) (by kernel_rfl) hQ hS rfl rfl rfl rfl rfl fun a hS => ?_
                refine dynu 33 rfl (by kernel_rfl) (by kernel_rfl) (by kernel_rfl) hQ hS rfl rfl rfl rfl rfl fun a hS => ?_
                refine dynu 34 rfl (by kernel_rfl) (by kernel_rfl) (by kernel_rfl) hQ hS rfl rfl rfl rfl rfl fun a hS => ?_
                refine dyn 35 rfl (by kernel_rfl) (by kernel_rfl) (by kernel_rfl) hQ hS rfl rfl rfl hb975 rfl rfl fun a hS => ?_
                refine dy 36 (v := .bool true) rfl (by kernel_rfl) (by kernel_rfl) (by kernel_rfl) rfl hQ hS (y_pickt hS rfl hb975 rfl) rfl rfl rfl fun a hS => ?_
                refine wpE_done (by kernel_rfl) ?_ _
                try simp only [Exit.then, Exit.inBlock, ↓reduceIte, Nat.reduceEqDiff]
                exact ⟨true, (hS.meet [] (by decide) ⟨rfl, rfl, rfl, rfl, rfl, trivial⟩ trivial ⟨⟨1, rfl⟩, ⟨2, rfl⟩, trivial⟩), hM⟩
              · replace hM := cf hb975 hM
                refine dyg 22 (v := .int .i64 g744) rfl (by kernel_rfl) (by kernel_rfl) (by kernel_rfl) rfl hQ hS (y_move hS rfl) rfl rfl rfl hb975 rfl rfl fun a hS => ?_
                refine dyg 23 (v := .bool (decide ((0 : Int) < g744))) rfl (by kernel_rfl) (by kernel_rfl) (by kernel_rfl) rfl hQ hS (y_int hS rfl rfl rfl) rfl rfl rfl hb975 rfl rfl fun a hS => ?_
                refine dyg 24 (v := .bool (decide ((0 : Int) < g744))) rfl (by kernel_rfl) (by kernel_rfl) (by kernel_rfl) rfl hQ hS (y_move hS rfl) rfl rfl rfl hb975 rfl rfl fun a hS => ?_
                rcases bool2 (decide ((0 : Int) < g744)) with hb976 | hb976
                · replace hM := ct hb976 hM
                  refine dyg 25 (v := v1) rfl (by kernel_rfl) (by kernel_rfl) (by kernel_rfl) rfl hQ hS (y_move hS rfl) rfl rfl rfl hb976 rfl rfl fun a hS => ?_
                  refine dyg 26 (v := .int .i64 g744) rfl (by kernel_rfl) (by kernel_rfl) (by kernel_rfl) rfl hQ hS (y_move hS rfl) rfl rfl rfl hb976 rfl rfl fun a hS => ?_
                  refine dyg 27 (v := .int .i64 (IntKind.i64.wrap (g744 - 1))) rfl (by kernel_rfl) (by kernel_rfl) (by kernel_rfl) rfl hQ hS (y_int hS rfl rfl rfl) rfl rfl rfl hb976 rfl rfl fun a hS => ?_
                  obtain ⟨e977, he977, hM⟩ := bd hM
                  obtain ⟨b978, o979, cs981, hr980, hy983, hS⟩ := d_index (R := R_ChangeD) hS sl79 ty88 1 rfl he977
                  obtain rfl := hr980
                  refine dyg 28 (v := .pointer (some ⟨b978, o979, none⟩)) rfl (by kernel_rfl) (by kernel_rfl) (by kernel_rfl) rfl hQ hS (hy983 rfl rfl) rfl rfl rfl hb976 rfl rfl fun a hS => ?_
                  refine dyg 29 (v := .pointer (some ⟨b978, o979 + 0, none⟩)) rfl (by kernel_rfl) (by kernel_rfl) (by kernel_rfl) rfl hQ hS (y_fld hS rfl fl88_0) rfl rfl rfl hb976 rfl rfl fun a hS => ?_
                  refine dyg (l := []) 30 (v := .agg #[.int .i64 e977.Key.Kind, .string e977.Key.Text]) rfl (by kernel_rfl) (by kernel_rfl) (by kernel_rfl) (by kernel_rfl) hQ hS (y_loadc (k := 0) hS ty26 0 rfl rfl es_nil (us := [.int .i64 e977.Key.Kind, .string e977.Key.Text]) rfl rfl (fun h => by cases h)) rfl rfl rfl hb976 rfl rfl fun a hS => ?_
                  refine dyg 31 (v := .pointer (some ⟨b873, 0 + 0, none⟩)) rfl (by kernel_rfl) (by kernel_rfl) (by kernel_rfl) rfl hQ hS (y_fld hS rfl fl88_0) rfl rfl rfl hb976 rfl rfl fun a hS => ?_
                  refine dyg (l := []) 32 (v := .agg #[.int .i64 e867.Key.Kind, .string e867.Key.Text]) rfl (by kernel_rfl) (by kernel_rfl) (by kernel_rfl) (by kernel_rfl) hQ hS (y_load hS rfl ty26 0 rfl eo_nil (us := [.int .i64 e867.Key.Kind, .string e867.Key.Text]) rfl rfl (fun h => by cases h)) rfl rfl rfl hb976 rfl rfl fun a hS => ?_
                  obtain ⟨u984, hu984, hM⟩ := bd hM
                  refine wpE_oneg (i := 33) rfl (by kernel_rfl) hS rfl rfl rfl hb976 (k_call hS ci101 rfl rfl (key_Cmp_c _ _ hS.dlt (hS.get 3 rfl) e977.Key e867.Key _ hu984) fun _ w hR a hk hA => ⟨stN (hk), ?_⟩)
                  have he := Eq.symm hR
                  subst he
                  have hS := hA [] (fun r hr => by cases hr) List.Pairwise.nil
                  refine dyg 34 (v := .bool (decide ((0 : Int) ≤ u984))) rfl (by kernel_rfl) (by kernel_rfl) (by kernel_rfl) rfl hQ hS (y_int hS rfl rfl rfl) rfl rfl rfl hb976 rfl rfl fun a hS => ?_
                  refine dyg 35 (v := .bool (decide ((0 : Int) ≤ u984))) rfl (by kernel_rfl) (by kernel_rfl) (by kernel_rfl) rfl hQ hS (y_pickt hS rfl hb976 rfl) rfl rfl rfl hb975 rfl rfl fun a hS => ?_
                  refine dy 36 (v := .bool (decide ((0 : Int) ≤ u984))) rfl (by kernel_rfl) (by kernel_rfl) (by kernel_rfl) rfl hQ hS (y_pickf hS rfl hb975 rfl) rfl rfl rfl fun a hS => ?_
                  refine wpE_done (by kernel_rfl) ?_ _
                  try simp only [Exit.then, Exit.inBlock, ↓reduceIte, Nat.reduceEqDiff]
                  exact ⟨(decide ((0 : Int) ≤ u984)), (hS.meet [] (by decide) ⟨rfl, rfl, rfl, rfl, rfl, trivial⟩ trivial ⟨⟨2, rfl⟩, ⟨3, rfl⟩, trivial⟩), hM⟩
                · replace hM := cf hb976 hM
                  refine dyn 25 rfl (by kernel_rfl) (by kernel_rfl) (by kernel_rfl) hQ hS rfl rfl rfl hb976 rfl rfl fun a hS => ?_
                  refine dyn 26 rfl (by kernel_rfl) (by kernel_rfl) (by kernel_rfl) hQ hS rfl rfl rfl hb976 rfl rfl fun a hS => ?_
                  refine dyn 27 rfl (by kernel_rfl) (by kernel_rfl) (by kernel_rfl) hQ hS rfl rfl rfl hb976 rfl rfl fun a hS => ?_
                  refine dyn 28 rfl (by kernel_rfl) (by kernel_rfl) (by kernel_rfl) hQ hS rfl rfl rfl hb976 rfl rfl fun a hS => ?_
                  refine dyn 29 rfl (by kernel_rfl) (by kernel_rfl) (by kernel_rfl) hQ hS rfl rfl rfl hb976 rfl rfl fun a hS => ?_
                  refine dyn 30 rfl (by kernel_rfl) (by kernel_rfl) (by kernel_rfl) hQ hS rfl rfl rfl hb976 rfl rfl fun a hS => ?_
                  refine dyn 31 rfl (by kernel_rfl) (by kernel_rfl) (by kernel_rfl) hQ hS rfl rfl rfl hb976 rfl rfl fun a hS => ?_
                  refine dyn 32 rfl (by kernel_rfl) (by kernel_rfl) (by kernel_rfl) hQ hS rfl rfl rfl hb976 rfl rfl fun a hS => ?_
                  refine dyn 33 rfl (by kernel_rfl) (by kernel_rfl) (by kernel_rfl) hQ hS rfl rfl rfl hb976 rfl rfl fun a hS => ?_
                  refine dyn 34 rfl (by kernel_rfl) (by kernel_rfl) (by kernel_rfl) hQ hS rfl rfl rfl hb976 rfl rfl fun a hS => ?_
                  refine dyg 35 (v := .bool false) rfl (by kernel_rfl) (by kernel_rfl) (by kernel_rfl) rfl hQ hS (y_pickf hS rfl hb976 rfl) rfl rfl rfl hb975 rfl rfl fun a hS => ?_
                  refine dy 36 (v := .bool false) rfl (by kernel_rfl) (by kernel_rfl) (by kernel_rfl) rfl hQ hS (y_pickf hS rfl hb975 rfl) rfl rfl rfl fun a hS => ?_
                  refine wpE_done (by kernel_rfl) ?_ _
                  try simp only [Exit.then, Exit.inBlock, ↓reduceIte, Nat.reduceEqDiff]
                  exact ⟨false, (hS.meet [] (by decide) ⟨rfl, rfl, rfl, rfl, rfl, trivial⟩ trivial ⟨⟨1, rfl⟩, ⟨2, rfl⟩, trivial⟩), hM⟩
      · rintro a w ⟨g948, hS, hM⟩
        unfold branch_contents_j2 at hM
        rcases bool2 (g948) with hb949 | hb949
        · replace hM := ct hb949 hM
          refine c_t hS rfl hb949 ?_
          refine wp_seq_k fun K48 hK48 => ?_
          refine r_list ?_
          refine wl rfl (ky (v := .bool false) hS (y_assign hS rfl) rfl rfl fun a hS => ?_)
          refine wpList_nil ?_
          try simp only [Exit.then, Exit.inBlock, ↓reduceIte, Nat.reduceEqDiff]
          refine hK48 _ _ ?_
          refine wp_ret ?_
          injection hM with hM
          subst hM
          have hr := hf1 _ rfl
          subst hr
          replace hMo1 := el_out hMo1
          have hM := hMo1
          injection hM with hM
          subst hM
          try simp only [Exit.then, Exit.inBlock, ↓reduceIte, Nat.reduceEqDiff]
          refine ret_ok hS Tryd.results77 (res_tmp hS rfl res_nil) ?_
          exact rfl
        · replace hM := cf hb949 hM
          refine c_f hS rfl hb949 ?_
          refine wp_skip ?_
          try simp only [Exit.then, Exit.inBlock, ↓reduceIte, Nat.reduceEqDiff]
          refine hK46 _ _ ?_
          refine r_list ?_
          refine wl rfl (ky (v := .int .i64 (IntKind.i64.wrap (g744 + 1))) hS (y_int hS rfl rfl rfl) rfl rfl fun a hS => ?_)
          refine wl rfl (ky (v := .int .i64 (IntKind.i64.wrap (g744 + 1))) hS (y_move hS rfl) rfl rfl fun a hS => ?_)
          refine wpList_nil ?_
          try simp only [Exit.then, Exit.inBlock, ↓reduceIte, Nat.reduceEqDiff]
          exact ⟨IntKind.i64.wrap (g744 + 1), (Option.some.inj hM).symm, (IntKind.i64.wrap (g744 + 1)), rfl, (hS.meet [] (by decide) ⟨rfl, rfl, rfl, rfl, trivial⟩ trivial ⟨⟨0, rfl⟩, ⟨1, rfl⟩, trivial⟩)⟩
    · replace hM := cf hb866 hM
      refine c_f hS rfl hb866 ?_
      refine wp_exit ?_
      try simp only [Exit.then, Exit.inBlock, ↓reduceIte, Nat.reduceEqDiff]
      injection hM with hM
      subst hM
      have hr := hf1 _ rfl
      subst hr
      replace hMo1 := el_go hMo1
      have hM : branch_contents_j1 l_0 = some y := hMo1
      exact ⟨(hS.meet [] (by decide) ⟨rfl, trivial⟩ trivial ⟨⟨0, rfl⟩, ⟨1, rfl⟩, trivial⟩), hM⟩
  · rintro a w ⟨hS, hM⟩
    unfold branch_contents_j1 at hM
    refine wp_seq_k fun K32 hK32 => ?_
    refine r_list ?_
    refine wl rfl (ky (v := v1) hS (y_move hS rfl) rfl rfl fun a hS => ?_)
    refine wl rfl (ky (v := .int .i64 (l_0.length : Int)) hS (y_len (R := R_ChangeD) (xs := l_0) hS sl79 rfl 0 rfl) rfl rfl fun a hS => ?_)
    refine wl rfl (ky (v := .bool (decide (((l_0.length : Int) : Int) ≤ 64))) hS (y_int hS rfl rfl rfl) rfl rfl fun a hS => ?_)
    refine wl rfl (ky (v := .bool (decide (((l_0.length : Int) : Int) ≤ 64))) hS (y_assign hS rfl) rfl rfl fun a hS => ?_)
    refine wpList_nil ?_
    try simp only [Exit.then, Exit.inBlock, ↓reduceIte, Nat.reduceEqDiff]
    refine hK32 _ _ ?_
    refine wp_ret ?_
    injection hM with hM
    subst hM
    try simp only [Exit.then, Exit.inBlock, ↓reduceIte, Nat.reduceEqDiff]
    refine ret_ok hS Tryd.results77 (res_tmp hS rfl res_nil) ?_
    exact rfl

noncomputable def branch_values_j1 (out128 : (List (KeyD × ByteArray))) : Option (List (KeyD × ByteArray)) := some (out128)
noncomputable def branch_values_l2 (l_0 : (List ChangeD)) (out147 : (List (KeyD × ByteArray))) (g150 : Int) : Option (Fl ((List (KeyD × ByteArray)) × Int) ((List (KeyD × ByteArray)))) := cond (decide ((g150 : Int) < (l_0.length : Int))) ((getI l_0 g150).bind fun e168 => some (.go ((mput keq_KeyD e168.Key e168.Value out147), IntKind.i64.wrap (g150 + 1)))) (some (.out out147))
noncomputable def branch_values (l_0 : (List ChangeD)) : Option (List (KeyD × ByteArray)) := (loop (fun s : (List (KeyD × ByteArray)) × Int => branch_values_l2 l_0 s.1 s.2) (([] : (List (KeyD × ByteArray))), 0)).bind fun r => branch_values_j1 r
set_option maxRecDepth 100000 in
set_option maxHeartbeats 4000000 in
theorem branch_values_c (T : Nat → Prop) (W0 : World) (hT : ∀ k, T k → k < W0.heap.size) (l_0 : (List ChangeD)) (v1 : Value) (hv1 : SlR R_ChangeD T W0 v1 l_0) (y : (List (KeyD × ByteArray))) (hM : branch_values l_0 = some y) : Rets Tryd.prog No 78 [v1] W0 (fun v w' => ∃ (b2 : Nat) (es3 : Array MapEntry) (ck4 : Nat), v = .map (some b2) ∧ MapR R_KeyD true Rep.str false T W0 w' [.obj b2 (.map es3 ck4)] b2 es3 ck4 y) := by
  refine enter (c := _) Tryd.func78 rfl T 20 Tryd.ntmps78 hT rfl fun a hS => ?_
  replace hS := hS.fact (SlF R_ChangeD v1 l_0) (SlR.dn hv1)
  unfold branch_values at hM
  refine wp_seq_k fun K22 hK22 => ?_
  refine r_list ?_
  refine wl rfl (ky (v := .map none) hS (y_assign hS rfl) rfl rfl fun a hS => ?_)
  refine wpList_nil ?_
  try simp only [Exit.then, Exit.inBlock, ↓reduceIte, Nat.reduceEqDiff]
  refine hK22 _ _ ?_
  refine wp_seq_k fun K23 hK23 => ?_
  refine r_list ?_
  refine wl rfl (k_mkmap R_KeyD true Rep.str false hS rfl fun b89 hnb90 a w hk hS => ?_)
  refine wl rfl (ky (v := .map (some b89)) hS (y_assign hS rfl) rfl rfl fun a hS => ?_)
  refine wpList_nil ?_
  try simp only [Exit.then, Exit.inBlock, ↓reduceIte, Nat.reduceEqDiff]
  refine hK23 _ _ ?_
  refine seq_j (J := fun a w => ∃ (out128 : (List (KeyD × ByteArray))) (es129 : (Array MapEntry)) (ck130 : Nat), St W0 No T 20 [(3, .map (some b89))] [.obj b89 (.map es129 ck130)] [MapF R_KeyD true Rep.str false es129 out128] a w ∧ branch_values_j1 out128 = some y) ?_ ?_
  · skip
    refine wp_seq_k fun K34 hK34 => ?_
    refine r_list ?_
    refine wl rfl (ky (v := v1) hS (y_move hS rfl) rfl rfl fun a hS => ?_)
    refine wl rfl (ky (v := .int .i64 (l_0.length : Int)) hS (y_len (R := R_ChangeD) (xs := l_0) hS sl79 rfl 1 rfl) rfl rfl fun a hS => ?_)
    refine wl rfl (ky (v := .int .i64 0) hS (y_move hS rfl) rfl rfl fun a hS => ?_)
    refine wpList_nil ?_
    try simp only [Exit.then, Exit.inBlock, ↓reduceIte, Nat.reduceEqDiff]
    refine hK34 _ _ ?_
    refine wp_block ?_
    obtain ⟨r1, hl1, hMo1⟩ := bd hM
    refine wp_lp (fun s : (List (KeyD × ByteArray)) × Int => branch_values_l2 l_0 s.1 s.2) (fun s a w => ∃ (out147 : (List (KeyD × ByteArray))) (g150 : Int) (es148 : (Array MapEntry)) (ck149 : Nat), (out147, g150) = s ∧ St W0 No T 20 [(3, .map (some b89)), (7, v1), (8, .int .i64 (l_0.length : Int)), (9, .int .i64 g150)] [.obj b89 (.map es148 ck149)] [MapF R_KeyD true Rep.str false es148 out147, SlF R_ChangeD v1 l_0] a w) hl1 ⟨([] : (List (KeyD × ByteArray))), 0, (#[]), 0, rfl, (hS.meet [0] (by decide) ⟨rfl, rfl, rfl, rfl, trivial⟩ ⟨rfl, trivial⟩ ⟨⟨0, rfl⟩, ⟨1, rfl⟩, trivial⟩)⟩ ?_
    rintro s a w f1 ⟨out147, g150, es148, ck149, rfl, hS⟩ hM hf1
    have hM : branch_values_l2 l_0 out147 g150 = some f1 := hM
    unfold branch_values_l2 at hM
    refine wp_seq_k fun K43 hK43 => ?_
    refine r_list ?_
    refine wl rfl (ky (v := .bool (decide ((g150 : Int) < (l_0.length : Int)))) hS (y_int hS rfl rfl rfl) rfl rfl fun a hS => ?_)
    refine wpList_nil ?_
    try simp only [Exit.then, Exit.inBlock, ↓reduceIte, Nat.reduceEqDiff]
    refine hK43 _ _ ?_
    refine wp_seq_k fun K44 hK44 => ?_
    rcases bool2 (decide ((g150 : Int) < (l_0.length : Int))) with hb167 | hb167
    · replace hM := ct hb167 hM
      refine c_t hS rfl hb167 ?_
      refine wp_skip ?_
      try simp only [Exit.then, Exit.inBlock, ↓reduceIte, Nat.reduceEqDiff]
      refine hK44 _ _ ?_
      refine wp_seq_k fun K45 hK45 => ?_
      refine wp_block ?_
      refine wp_seq_k fun K46 hK46 => ?_
      refine r_list ?_
      obtain ⟨e168, he168, hM⟩ := bd hM
      refine wl rfl (k_index (R := R_ChangeD) hS sl79 ty88 rfl rfl 1 rfl he168 rfl fun b169 o170 cs172 hr171 a hS => ?_)
      obtain rfl := hr171
      refine wl rfl (ky (v := .agg #[.int .i64 e168.Key.Kind, .string e168.Key.Text, .string e168.Value]) hS (y_loadc (k := 0) hS ty88 0 rfl rfl (fun _ h => h.elim) (us := [.int .i64 e168.Key.Kind, .string e168.Key.Text, .string e168.Value]) rfl rfl (fun h => by cases h)) rfl rfl fun a hS => ?_)
      refine wl rfl (k_alloc hS ze88 rfl fun b174 hnb176 a w hk hS => ?_)
      refine wl rfl (k_store hS rfl rfl (us := [.int .i64 e168.Key.Kind, .string e168.Key.Text, .string e168.Value]) rfl ty88 0 rfl rfl rfl (oc rfl (oc rfl (oc rfl on))) fun w hk hS => ?_)
      refine wpList_nil ?_
      try simp only [Exit.then, Exit.inBlock, ↓reduceIte, Nat.reduceEqDiff]
      refine hK46 _ _ ?_
      refine r_list ?_
      refine wl rfl (ky (v := .map (some b89)) hS (y_move hS rfl) rfl rfl fun a hS => ?_)
      refine wl rfl (ky (v := .pointer (some ⟨b174, 0 + 0, none⟩)) hS (y_fld hS rfl fl88_0) rfl rfl fun a hS => ?_)
      refine wl rfl (ky (v := .agg #[.int .i64 e168.Key.Kind, .string e168.Key.Text]) hS (y_load hS rfl ty26 0 rfl id (us := [.int .i64 e168.Key.Kind, .string e168.Key.Text]) rfl rfl (fun h => by cases h)) rfl rfl fun a hS => ?_)
      refine wl rfl (ky (v := .pointer (some ⟨b174, 0 + 2, none⟩)) hS (y_fld hS rfl fl88_1) rfl rfl fun a hS => ?_)
      refine wl rfl (ky (v := .string e168.Value) hS (y_load hS rfl ty9 0 rfl id (us := [.string e168.Value]) rfl rfl (fun _ => rfl)) rfl rfl fun a hS => ?_)
      refine wl rfl (k_mput hS mp84 kt_KeyD 1 rfl 1 rfl (c := [.int .i64 e168.Key.Kind, .string e168.Key.Text]) (cv := [.string e168.Value]) (key := e168.Key) (val := e168.Value) rfl rfl rfl rfl rfl fun es177 ck178 w hk hS => ?_)
      refine wpList_nil ?_
      try simp only [Exit.then, Exit.inBlock, ↓reduceIte, Nat.reduceEqDiff]
      refine hK45 _ _ ?_
      refine r_list ?_
      refine wl rfl (ky (v := .int .i64 (IntKind.i64.wrap (g150 + 1))) hS (y_int hS rfl rfl rfl) rfl rfl fun a hS => ?_)
      refine wl rfl (ky (v := .int .i64 (IntKind.i64.wrap (g150 + 1))) hS (y_move hS rfl) rfl rfl fun a hS => ?_)
      refine wpList_nil ?_
      try simp only [Exit.then, Exit.inBlock, ↓reduceIte, Nat.reduceEqDiff]
      exact ⟨((mput keq_KeyD e168.Key e168.Value out147), IntKind.i64.wrap (g150 + 1)), (Option.some.inj hM).symm, (mput keq_KeyD e168.Key e168.Value out147), (IntKind.i64.wrap (g150 + 1)), es177, ck178, rfl, (hS.meet [1] (by decide) ⟨rfl, rfl, rfl, rfl, trivial⟩ ⟨rfl, trivial⟩ ⟨⟨0, rfl⟩, ⟨3, rfl⟩, trivial⟩)⟩
    · replace hM := cf hb167 hM
      refine c_f hS rfl hb167 ?_
      refine wp_exit ?_
      try simp only [Exit.then, Exit.inBlock, ↓reduceIte, Nat.reduceEqDiff]
      injection hM with hM
      subst hM
      have hr := hf1 _ rfl
      subst hr
      have hM : branch_values_j1 out147 = some y := hMo1
      exact ⟨out147, es148, ck149, (hS.meet [0] (by decide) ⟨rfl, trivial⟩ ⟨rfl, trivial⟩ ⟨⟨0, rfl⟩, trivial⟩), hM⟩
  · rintro a w ⟨out128, es129, ck130, hS, hM⟩
    unfold branch_values_j1 at hM
    refine wp_seq_k fun K33 hK33 => ?_
    refine r_list ?_
    refine wl rfl (ky (v := .map (some b89)) hS (y_move hS rfl) rfl rfl fun a hS => ?_)
    refine wl rfl (ky (v := .map (some b89)) hS (y_assign hS rfl) rfl rfl fun a hS => ?_)
    refine wpList_nil ?_
    try simp only [Exit.then, Exit.inBlock, ↓reduceIte, Nat.reduceEqDiff]
    refine hK33 _ _ ?_
    refine wp_ret ?_
    injection hM with hM
    subst hM
    try simp only [Exit.then, Exit.inBlock, ↓reduceIte, Nat.reduceEqDiff]
    refine ret_ok hS Tryd.results78 (res_tmp hS rfl res_nil) ?_
    exact ⟨b89, es129, ck130, rfl, hS.retMap ⟨.inr (List.mem_of_getElem? (i := 0) rfl), trivial⟩ 0 rfl 0 rfl⟩

noncomputable def branch_keys_j1 (out765 : (List KeyD)) : Option (List KeyD) := (key_Sorted out765).bind fun u769 => some (u769)
noncomputable def branch_keys_j2 (g896 : Int) (out1071 : (List KeyD)) : Option (Fl ((List KeyD) × Int) ((List KeyD))) := some (.go (out1071, IntKind.i64.wrap (g896 + 1)))
noncomputable def branch_keys_l3 (e1075 : (List ChangeD)) (out1103 : (List KeyD)) (g1107 : Int) : Option (Fl ((List KeyD) × Int) ((List KeyD))) := cond (decide ((g1107 : Int) < (e1075.length : Int))) ((getI e1075 g1107).bind fun e1130 => gd (roomB (out1103.length + ([e1130.Key]).length)) <| some (.go ((out1103 ++ ([e1130.Key])), IntKind.i64.wrap (g1107 + 1)))) (some (.out out1103))
noncomputable def branch_keys_l4 (lists_ : (List (List ChangeD))) (out892 : (List KeyD)) (g896 : Int) : Option (Fl ((List KeyD) × Int) ((List KeyD))) := cond (decide ((g896 : Int) < (lists_.length : Int))) ((getI lists_ g896).bind fun e1075 => (loop (fun s : (List KeyD) × Int => branch_keys_l3 e1075 s.1 s.2) (out892, 0)).bind fun r => branch_keys_j2 g896 r) (some (.out out892))
noncomputable def branch_keys (lists_ : (List (List ChangeD))) : Option (List KeyD) := (loop (fun s : (List KeyD) × Int => branch_keys_l4 lists_ s.1 s.2) (([] : List KeyD), 0)).bind fun r => branch_keys_j1 r
set_option maxRecDepth 100000 in
set_option maxHeartbeats 4000000 in
theorem branch_keys_c (T : Nat → Prop) (W0 : World) (hT : ∀ k, T k → k < W0.heap.size) (hLv : LvP T W0) (lists_ : (List (List ChangeD))) (v1 : Value) (hv1 : SlR (Rep.slice R_ChangeD) T W0 v1 lists_) (y : (List KeyD)) (hM : branch_keys lists_ = some y) : Rets Tryd.prog No 79 [v1] W0 (fun v w' => ∃ (v2 : Value) (cl3 : List Value), v = v2 ∧ OwnR R_KeyD T W0 w' [.own v2 26 R_KeyD.size cl3] 26 v2 cl3 y) := by
  refine enter (c := _) Tryd.func79 rfl T 29 Tryd.ntmps79 hT rfl fun a hS => ?_
  replace hS := hS.fact LvF (LvP.dn hLv)
  replace hS := hS.fact (SlF (Rep.slice R_ChangeD) v1 lists_) (SlR.dn hv1)
  unfold branch_keys at hM
  refine wp_seq_k fun K94 hK94 => ?_
  refine r_list ?_
  refine wl rfl (ky (v := .slice none 0 0) hS (y_assign hS rfl) rfl rfl fun a hS => ?_)
  refine wpList_nil ?_
  try simp only [Exit.then, Exit.inBlock, ↓reduceIte, Nat.reduceEqDiff]
  refine hK94 _ _ ?_
  refine wp_seq_k fun K95 hK95 => ?_
  refine r_list ?_
  refine wl rfl (ky (v := .slice none 0 0) hS (y_assign hS rfl) rfl rfl fun a hS => ?_)
  refine wpList_nil ?_
  try simp only [Exit.then, Exit.inBlock, ↓reduceIte, Nat.reduceEqDiff]
  refine hK95 _ _ ?_
  refine seq_j (J := fun a w => ∃ (out765 : (List KeyD)) (v766 : Value) (cl767 : (List Value)), St W0 No T 29 [(3, v766)] [.own v766 26 R_KeyD.size cl767] [RowsF R_KeyD cl767 out765, LvF] a w ∧ branch_keys_j1 out765 = some y) ?_ ?_
  · skip
    refine wp_seq_k fun K142 hK142 => ?_
    refine r_list ?_
    refine wl rfl (ky (v := v1) hS (y_move hS rfl) rfl rfl fun a hS => ?_)
    refine wl rfl (ky (v := .int .i64 (lists_.length : Int)) hS (y_len (R := (Rep.slice R_ChangeD)) (xs := lists_) hS sl86 rfl 0 rfl) rfl rfl fun a hS => ?_)
    refine wl rfl (ky (v := .int .i64 0) hS (y_move hS rfl) rfl rfl fun a hS => ?_)
    refine wpList_nil ?_
    try simp only [Exit.then, Exit.inBlock, ↓reduceIte, Nat.reduceEqDiff]
    refine hK142 _ _ ?_
    refine wp_block ?_
    replace hS := hS.nilRow R_KeyD 26 (by decide)
    obtain ⟨r1, hl1, hMo1⟩ := bd hM
    refine wp_lp (fun s : (List KeyD) × Int => branch_keys_l4 lists_ s.1 s.2) (fun s a w => ∃ (out892 : (List KeyD)) (g896 : Int) (v893 : Value) (cl894 : (List Value)), (out892, g896) = s ∧ St W0 No T 29 [(3, v893), (8, v1), (9, .int .i64 (lists_.length : Int)), (10, .int .i64 g896)] [.own v893 26 R_KeyD.size cl894] [RowsF R_KeyD cl894 out892, SlF (Rep.slice R_ChangeD) v1 lists_, LvF] a w) hl1 ⟨([] : List KeyD), 0, (.slice none 0 0), ([]), rfl, (hS.meet [0] (by decide) ⟨rfl, rfl, rfl, rfl, trivial⟩ ⟨rfl, trivial⟩ ⟨⟨0, rfl⟩, ⟨1, rfl⟩, ⟨2, rfl⟩, trivial⟩)⟩ ?_
    rintro s a w f1 ⟨out892, g896, v893, cl894, rfl, hS⟩ hM hf1
    have hM : branch_keys_l4 lists_ out892 g896 = some f1 := hM
    unfold branch_keys_l4 at hM
    refine wp_seq_k fun K187 hK187 => ?_
    refine r_list ?_
    refine wl rfl (ky (v := .bool (decide ((g896 : Int) < (lists_.length : Int)))) hS (y_int hS rfl rfl rfl) rfl rfl fun a hS => ?_)
    refine wpList_nil ?_
    try simp only [Exit.then, Exit.inBlock, ↓reduceIte, Nat.reduceEqDiff]
    refine hK187 _ _ ?_
    refine wp_seq_k fun K188 hK188 => ?_
    rcases bool2 (decide ((g896 : Int) < (lists_.length : Int))) with hb1016 | hb1016
    · replace hM := ct hb1016 hM
      refine c_t hS rfl hb1016 ?_
      refine wp_skip ?_
      try simp only [Exit.then, Exit.inBlock, ↓reduceIte, Nat.reduceEqDiff]
      refine hK188 _ _ ?_
      refine seq_j (J := fun a w => ∃ (out1071 : (List KeyD)) (v1072 : Value) (cl1073 : (List Value)), St W0 No T 29 [(3, v1072), (8, v1), (9, .int .i64 (lists_.length : Int)), (10, .int .i64 g896)] [.own v1072 26 R_KeyD.size cl1073] [RowsF R_KeyD cl1073 out1071, SlF (Rep.slice R_ChangeD) v1 lists_, LvF] a w ∧ branch_keys_j2 g896 out1071 = some f1) ?_ ?_
      · skip
        refine wp_block ?_
        refine wp_seq_k fun K199 hK199 => ?_
        refine r_list ?_
        obtain ⟨e1075, he1075, hM⟩ := bd hM
        refine wl rfl (k_index (R := (Rep.slice R_ChangeD)) hS sl86 ty79 rfl rfl 1 rfl he1075 rfl fun b1077 o1078 cs1080 hr1079 a hS => ?_)
        obtain ⟨v1076, rfl, hv1076⟩ := hr1079
        replace hS := hS.fact (SlF R_ChangeD v1076 e1075) hv1076
        refine wl rfl (ky (v := v1076) hS (y_loadc (k := 0) hS ty79 1 rfl rfl (fun _ h => h.elim) (us := [v1076]) rfl rfl (fun _ => rfl)) rfl rfl fun a hS => ?_)
        refine wl rfl (ky (v := v1076) hS (y_assign hS rfl) rfl rfl fun a hS => ?_)
        refine wpList_nil ?_
        try simp only [Exit.then, Exit.inBlock, ↓reduceIte, Nat.reduceEqDiff]
        refine hK199 _ _ ?_
        refine wp_seq_k fun K200 hK200 => ?_
        refine r_list ?_
        refine wl rfl (ky (v := v1076) hS (y_move hS rfl) rfl rfl fun a hS => ?_)
        refine wl rfl (ky (v := .int .i64 (e1075.length : Int)) hS (y_len (R := R_ChangeD) (xs := e1075) hS sl79 rfl 0 rfl) rfl rfl fun a hS => ?_)
        refine wl rfl (ky (v := .int .i64 0) hS (y_move hS rfl) rfl rfl fun a hS => ?_)
        refine wpList_nil ?_
        try simp only [Exit.then, Exit.inBlock, ↓reduceIte, Nat.reduceEqDiff]
        refine hK200 _ _ ?_
        refine wp_block ?_
        obtain ⟨r2, hl2, hMo2⟩ := bd hM
        refine wp_lp (fun s : (List KeyD) × Int => branch_keys_l3 e1075 s.1 s.2) (fun s a w => ∃ (out1103 : (List KeyD)) (g1107 : Int) (v1104 : Value) (cl1105 : (List Value)), (out1103, g1107) = s ∧ St W0 No T 29 [(3, v1104), (8, v1), (9, .int .i64 (lists_.length : Int)), (10, .int .i64 g896), (14, v1076), (15, .int .i64 (e1075.length : Int)), (16, .int .i64 g1107)] [.own v1104 26 R_KeyD.size cl1105] [RowsF R_KeyD cl1105 out1103, SlF (Rep.slice R_ChangeD) v1 lists_, SlF R_ChangeD v1076 e1075, LvF] a w) hl2 ⟨out892, 0, v893, cl894, rfl, (hS.meet [0] (by decide) ⟨rfl, rfl, rfl, rfl, rfl, rfl, rfl, trivial⟩ ⟨rfl, trivial⟩ ⟨⟨2, rfl⟩, ⟨3, rfl⟩, ⟨0, rfl⟩, ⟨4, rfl⟩, trivial⟩)⟩ ?_
        rintro s a w f2 ⟨out1103, g1107, v1104, cl1105, rfl, hS⟩ hM hf2
        have hM : branch_keys_l3 e1075 out1103 g1107 = some f2 := hM
        unfold branch_keys_l3 at hM
        refine wp_seq_k fun K209 hK209 => ?_
        refine r_list ?_
        refine wl rfl (ky (v := .bool (decide ((g1107 : Int) < (e1075.length : Int)))) hS (y_int hS rfl rfl rfl) rfl rfl fun a hS => ?_)
        refine wpList_nil ?_
        try simp only [Exit.then, Exit.inBlock, ↓reduceIte, Nat.reduceEqDiff]
        refine hK209 _ _ ?_
        refine wp_seq_k fun K210 hK210 => ?_
        rcases bool2 (decide ((g1107 : Int) < (e1075.length : Int))) with hb1129 | hb1129
        · replace hM := ct hb1129 hM
          refine c_t hS rfl hb1129 ?_
          refine wp_skip ?_
          try simp only [Exit.then, Exit.inBlock, ↓reduceIte, Nat.reduceEqDiff]
          refine hK210 _ _ ?_
          refine wp_seq_k fun K211 hK211 => ?_
          refine wp_block ?_
          refine wp_seq_k fun K212 hK212 => ?_
          refine r_list ?_
          obtain ⟨e1130, he1130, hM⟩ := bd hM
          refine wl rfl (k_index (R := R_ChangeD) hS sl79 ty88 rfl rfl 2 rfl he1130 rfl fun b1131 o1132 cs1134 hr1133 a hS => ?_)
          obtain rfl := hr1133
          refine wl rfl (ky (v := .agg #[.int .i64 e1130.Key.Kind, .string e1130.Key.Text, .string e1130.Value]) hS (y_loadc (k := 0) hS ty88 0 rfl rfl (fun _ h => h.elim) (us := [.int .i64 e1130.Key.Kind, .string e1130.Key.Text, .string e1130.Value]) rfl rfl (fun h => by cases h)) rfl rfl fun a hS => ?_)
          refine wl rfl (k_alloc hS ze88 rfl fun b1136 hnb1138 a w hk hS => ?_)
          refine wl rfl (k_store hS rfl rfl (us := [.int .i64 e1130.Key.Kind, .string e1130.Key.Text, .string e1130.Value]) rfl ty88 0 rfl rfl rfl (oc rfl (oc rfl (oc rfl on))) fun w hk hS => ?_)
          refine wpList_nil ?_
          try simp only [Exit.then, Exit.inBlock, ↓reduceIte, Nat.reduceEqDiff]
          refine hK212 _ _ ?_
          refine r_list ?_
          refine wl rfl (ky (v := v1104) hS (y_move hS rfl) rfl rfl fun a hS => ?_)
          refine wl rfl (ky (v := .pointer (some ⟨b1136, 0 + 0, none⟩)) hS (y_fld hS rfl fl88_0) rfl rfl fun a hS => ?_)
          refine wl rfl (ky (v := .agg #[.int .i64 e1130.Key.Kind, .string e1130.Key.Text]) hS (y_load hS rfl ty26 0 rfl id (us := [.int .i64 e1130.Key.Kind, .string e1130.Key.Text]) rfl rfl (fun h => by cases h)) rfl rfl fun a hS => ?_)
          refine wl rfl (k_bslice (ps := [(0, .tmp 22)]) hS el22 ze26 (zl := [.int .i64 0, .string (ByteArray.mk #[])]) (by kernel_rfl) rfl (us := [[.int .i64 e1130.Key.Kind, .string e1130.Key.Text]]) ⟨rfl, trivial⟩ (ws := [.int .i64 e1130.Key.Kind, .string e1130.Key.Text]) rfl rfl rfl rfl fun b1139 a w hk hS => ?_)
          replace hS := hS.lit (R := R_KeyD) (us := [.int .i64 e1130.Key.Kind, .string e1130.Key.Text]) (xs := [e1130.Key]) 0 rfl (by decide) (RowsOk.one_ (R := R_KeyD) (x := e1130.Key) rfl) rfl rfl
          replace hS := hS.freeze (R := R_KeyD) 0 rfl 0 rfl
          obtain ⟨hg1141, hM⟩ := gd_some hM
          refine wl rfl (k_apps (R := R_KeyD) (xs := out1103) (ys := [e1130.Key]) hS el22 (by decide) (by decide) rfl rfl 1 rfl 3 rfl 0 rfl hg1141 rfl fun v1142 cl1143 a w hk hS => ?_)
          refine wl rfl (ky (v := v1142) hS (y_assign hS rfl) rfl rfl fun a hS => ?_)
          refine wpList_nil ?_
          try simp only [Exit.then, Exit.inBlock, ↓reduceIte, Nat.reduceEqDiff]
          refine hK211 _ _ ?_
          refine r_list ?_
          refine wl rfl (ky (v := .int .i64 (IntKind.i64.wrap (g1107 + 1))) hS (y_int hS rfl rfl rfl) rfl rfl fun a hS => ?_)
          refine wl rfl (ky (v := .int .i64 (IntKind.i64.wrap (g1107 + 1))) hS (y_move hS rfl) rfl rfl fun a hS => ?_)
          refine wpList_nil ?_
          try simp only [Exit.then, Exit.inBlock, ↓reduceIte, Nat.reduceEqDiff]
          exact ⟨((out1103 ++ ([e1130.Key])), IntKind.i64.wrap (g1107 + 1)), (Option.some.inj hM).symm, (out1103 ++ ([e1130.Key])), (IntKind.i64.wrap (g1107 + 1)), v1142, cl1143, rfl, (hS.meet [1] (by decide) ⟨rfl, rfl, rfl, rfl, rfl, rfl, rfl, trivial⟩ ⟨rfl, trivial⟩ ⟨⟨0, rfl⟩, ⟨5, rfl⟩, ⟨6, rfl⟩, ⟨7, rfl⟩, trivial⟩)⟩
        · replace hM := cf hb1129 hM
          refine c_f hS rfl hb1129 ?_
          refine wp_exit ?_
          try simp only [Exit.then, Exit.inBlock, ↓reduceIte, Nat.reduceEqDiff]
          injection hM with hM
          subst hM
          have hr := hf2 _ rfl
          subst hr
          have hM : branch_keys_j2 g896 out1103 = some f1 := hMo2
          exact ⟨out1103, v1104, cl1105, (hS.meet [0] (by decide) ⟨rfl, rfl, rfl, rfl, trivial⟩ ⟨rfl, trivial⟩ ⟨⟨0, rfl⟩, ⟨1, rfl⟩, ⟨3, rfl⟩, trivial⟩), hM⟩
      · rintro a w ⟨out1071, v1072, cl1073, hS, hM⟩
        unfold branch_keys_j2 at hM
        refine r_list ?_
        refine wl rfl (ky (v := .int .i64 (IntKind.i64.wrap (g896 + 1))) hS (y_int hS rfl rfl rfl) rfl rfl fun a hS => ?_)
        refine wl rfl (ky (v := .int .i64 (IntKind.i64.wrap (g896 + 1))) hS (y_move hS rfl) rfl rfl fun a hS => ?_)
        refine wpList_nil ?_
        try simp only [Exit.then, Exit.inBlock, ↓reduceIte, Nat.reduceEqDiff]
        exact ⟨(out1071, IntKind.i64.wrap (g896 + 1)), (Option.some.inj hM).symm, out1071, (IntKind.i64.wrap (g896 + 1)), v1072, cl1073, rfl, (hS.meet [0] (by decide) ⟨rfl, rfl, rfl, rfl, trivial⟩ ⟨rfl, trivial⟩ ⟨⟨0, rfl⟩, ⟨1, rfl⟩, ⟨2, rfl⟩, trivial⟩)⟩
    · replace hM := cf hb1016 hM
      refine c_f hS rfl hb1016 ?_
      refine wp_exit ?_
      try simp only [Exit.then, Exit.inBlock, ↓reduceIte, Nat.reduceEqDiff]
      injection hM with hM
      subst hM
      have hr := hf1 _ rfl
      subst hr
      have hM : branch_keys_j1 out892 = some y := hMo1
      exact ⟨out892, v893, cl894, (hS.meet [0] (by decide) ⟨rfl, trivial⟩ ⟨rfl, trivial⟩ ⟨⟨0, rfl⟩, ⟨2, rfl⟩, trivial⟩), hM⟩
  · rintro a w ⟨out765, v766, cl767, hS, hM⟩
    unfold branch_keys_j1 at hM
    refine wp_seq_k fun K141 hK141 => ?_
    refine r_list ?_
    refine wl rfl (ky (v := v766) hS (y_move hS rfl) rfl rfl fun a hS => ?_)
    have hL := hS
    replace hL := hL.freeze (R := R_KeyD) 0 rfl 0 rfl
    obtain ⟨u769, hu769, hM⟩ := bd hM
    refine wl rfl (k_call hS ci94 rfl rfl (key_Sorted_c _ _ hL.dlt (hL.get 2 rfl) out765 _ (hL.get 0 rfl) _ hu769) fun _ w hR a hk hA => ?_)
    obtain ⟨vz770_2, clz770_3, he, ⟨hOvz770_2, hFvz770_2, hRvz770_2⟩⟩ := hR
    replace he := he.symm
    subst he
    have hS := hA [.own vz770_2 26 R_KeyD.size clz770_3] (adds1 ⟨hOvz770_2, by decide⟩ hFvz770_2) (pw1 _)
    replace hS := hS.fact (RowsF R_KeyD clz770_3 u769) hRvz770_2
    refine wl rfl (ky (v := vz770_2) hS (y_assign hS rfl) rfl rfl fun a hS => ?_)
    refine wpList_nil ?_
    try simp only [Exit.then, Exit.inBlock, ↓reduceIte, Nat.reduceEqDiff]
    refine hK141 _ _ ?_
    refine wp_ret ?_
    injection hM with hM
    subst hM
    try simp only [Exit.then, Exit.inBlock, ↓reduceIte, Nat.reduceEqDiff]
    refine ret_ok hS Tryd.results79 (res_tmp hS rfl res_nil) ?_
    exact ⟨vz770_2, clz770_3, rfl, hS.retOwn ⟨.inr (List.mem_of_getElem? (i := 0) rfl), trivial⟩ 0 rfl 0 rfl⟩

noncomputable def branch_Merge_j1 (out2860 : (List ChangeD)) (clashes2864 : (List KeyD)) : Option ((List ChangeD) × (List KeyD) × Int) := cond (decide ((64 : Int) < (out2860.length : Int))) (some (([], [], 45))) (cond (decide ((0 : Int) < (clashes2864.length : Int))) (some ((out2860, clashes2864, 49))) (some ((out2860, [], 0))))
noncomputable def branch_Merge_j2 (g3346 : Int) (out4019 : (List ChangeD)) (clashes4023 : (List KeyD)) : Option (Fl ((List ChangeD) × (List KeyD) × Int) ((List ChangeD) × (List KeyD))) := some (.go (out4019, clashes4023, IntKind.i64.wrap (g3346 + 1)))
noncomputable def branch_Merge_j3 (out3338 : (List ChangeD)) (g3346 : Int) (e4027 : KeyD) (clashes4137 : (List KeyD)) (v4141 : ByteArray) : Option (Fl ((List ChangeD) × (List KeyD) × Int) ((List ChangeD) × (List KeyD))) := cond (!(v4141.toList == (ByteArray.mk #[]).toList)) (gd (roomB (out3338.length + ([(ChangeD.mk e4027 v4141)]).length)) <| branch_Merge_j2 g3346 (out3338 ++ ([(ChangeD.mk e4027 v4141)])) clashes4137) (branch_Merge_j2 g3346 out3338 clashes4137)
noncomputable def branch_Merge_j4 (u1922 : (List (KeyD × ByteArray))) (u1928 : (List (KeyD × ByteArray))) (out3338 : (List ChangeD)) (clashes3342 : (List KeyD)) (g3346 : Int) (e4027 : KeyD) (u4038 : ByteArray) (g4201 : Bool) : Option (Fl ((List ChangeD) × (List KeyD) × Int) ((List ChangeD) × (List KeyD))) := cond g4201 (branch_Merge_j3 out3338 g3346 e4027 clashes3342 u4038) ((some ((mget keq_KeyD e4027 u1922).getD (ByteArray.mk #[]))).bind fun u4203 => cond (u4038.toList == u4203.toList) ((some ((mget keq_KeyD e4027 u1928).getD (ByteArray.mk #[]))).bind fun u4208 => branch_Merge_j3 out3338 g3346 e4027 clashes3342 u4208) (gd (roomB (clashes3342.length + ([e4027]).length)) <| branch_Merge_j3 out3338 g3346 e4027 (clashes3342 ++ ([e4027])) u4038))
noncomputable def branch_Merge_l5 (u1922 : (List (KeyD × ByteArray))) (u1925 : (List (KeyD × ByteArray))) (u1928 : (List (KeyD × ByteArray))) (u2872 : (List KeyD)) (out3338 : (List ChangeD)) (clashes3342 : (List KeyD)) (g3346 : Int) : Option (Fl ((List ChangeD) × (List KeyD) × Int) ((List ChangeD) × (List KeyD))) := cond (decide ((g3346 : Int) < (u2872.length : Int))) ((getI u2872 g3346).bind fun e4027 => (some ((mget keq_KeyD e4027 u1925).getD (ByteArray.mk #[]))).bind fun u4038 => (some ((mget keq_KeyD e4027 u1928).getD (ByteArray.mk #[]))).bind fun u4231 => (some ((mget keq_KeyD e4027 u1922).getD (ByteArray.mk #[]))).bind fun u4235 => cond (u4231.toList == u4235.toList) (branch_Merge_j4 u1922 u1928 out3338 clashes3342 g3346 e4027 u4038 true) ((some ((mget keq_KeyD e4027 u1928).getD (ByteArray.mk #[]))).bind fun u4240 => branch_Merge_j4 u1922 u1928 out3338 clashes3342 g3346 e4027 u4038 (u4240.toList == u4038.toList))) (some (.out (out3338, clashes3342)))
noncomputable def branch_Merge (base_ : (List ChangeD)) (a_1 : (List ChangeD)) (b_2 : (List ChangeD)) : Option ((List ChangeD) × (List KeyD) × Int) := (branch_contents base_).bind fun u1913 => cond (!(u1913)) (some (([], [], 5))) ((branch_contents a_1).bind fun u1916 => cond (!(u1916)) (some (([], [], 5))) ((branch_contents b_2).bind fun u1919 => cond (!(u1919)) (some (([], [], 5))) ((branch_values base_).bind fun u1922 => (branch_values a_1).bind fun u1925 => (branch_values b_2).bind fun u1928 => (branch_keys ([base_, a_1, b_2])).bind fun u2872 => (loop (fun s : (List ChangeD) × (List KeyD) × Int => branch_Merge_l5 u1922 u1925 u1928 u2872 s.1 s.2.1 s.2.2) (([] : List ChangeD), ([] : List KeyD), 0)).bind fun r => branch_Merge_j1 r.1 r.2)))
set_option maxRecDepth 100000 in
set_option maxHeartbeats 4000000 in
theorem branch_Merge_c (T : Nat → Prop) (W0 : World) (hT : ∀ k, T k → k < W0.heap.size) (hLv : LvP T W0) (base_ : (List ChangeD)) (a_1 : (List ChangeD)) (b_2 : (List ChangeD)) (v1 : Value) (v2 : Value) (v3 : Value) (hv1 : SlR R_ChangeD T W0 v1 base_) (hv2 : SlR R_ChangeD T W0 v2 a_1) (hv3 : SlR R_ChangeD T W0 v3 b_2) (y : (List ChangeD) × (List KeyD) × Int) (hM : branch_Merge base_ a_1 b_2 = some y) : Rets Tryd.prog No 47 [v1, v2, v3] W0 (fun v w' => ∃ (v4 : Value) (cl5 : List Value) (v6 : Value) (cl7 : List Value), v = .tuple #[v4, v6, .int .i64 y.2.2] ∧ OwnR R_ChangeD T W0 w' [.own v4 88 R_ChangeD.size cl5, .own v6 26 R_KeyD.size cl7] 88 v4 cl5 y.1 ∧ OwnR R_KeyD T W0 w' [.own v4 88 R_ChangeD.size cl5, .own v6 26 R_KeyD.size cl7] 26 v6 cl7 y.2.1 ∧ (∀ k, v4.ownBlock = some k → v6.ownBlock ≠ some k)) := by
  refine enter (c := _) Tryd.func47 rfl T 97 Tryd.ntmps47 hT rfl fun a hS => ?_
  replace hS := hS.fact LvF (LvP.dn hLv)
  replace hS := hS.fact (SlF R_ChangeD v1 base_) (SlR.dn hv1)
  replace hS := hS.fact (SlF R_ChangeD v2 a_1) (SlR.dn hv2)
  replace hS := hS.fact (SlF R_ChangeD v3 b_2) (SlR.dn hv3)
  unfold branch_Merge at hM
  refine wp_seq_k fun K66 hK66 => ?_
  refine r_list ?_
  refine wl rfl (ky (v := .slice none 0 0) hS (y_assign hS rfl) rfl rfl fun a hS => ?_)
  refine wl rfl (ky (v := .slice none 0 0) hS (y_assign hS rfl) rfl rfl fun a hS => ?_)
  refine wl rfl (ky (v := .int .i64 0) hS (y_assign hS rfl) rfl rfl fun a hS => ?_)
  refine wpList_nil ?_
  try simp only [Exit.then, Exit.inBlock, ↓reduceIte, Nat.reduceEqDiff]
  refine hK66 _ _ ?_
  refine wp_seq_k fun K67 hK67 => ?_
  refine wp_seq_k fun K68 hK68 => ?_
  refine r_list ?_
  refine wl rfl (ky (v := v1) hS (y_move hS rfl) rfl rfl fun a hS => ?_)
  obtain ⟨u1913, hu1913, hM⟩ := bd hM
  refine wl rfl (k_call hS ci77 rfl rfl (branch_contents_c _ _ hS.dlt (hS.get 3 rfl) base_ _ (hS.get 2 rfl) _ hu1913) fun _ w hR a hk hA => ?_)
  have he := Eq.symm hR
  subst he
  have hS := hA [] (fun r hr => by cases hr) List.Pairwise.nil
  refine wl rfl (ky (v := .bool (!(u1913))) hS (y_not hS rfl) rfl rfl fun a hS => ?_)
  refine wl rfl (ky (v := .bool (!(u1913))) hS (y_move hS rfl) rfl rfl fun a hS => ?_)
  rcases bool2 (!(u1913)) with hb1915 | hb1915
  · replace hM := ct hb1915 hM
    refine wn hS rfl rfl rfl hb1915 rfl rfl fun a hS => ?_
    refine wn hS rfl rfl rfl hb1915 rfl rfl fun a hS => ?_
    refine wn hS rfl rfl rfl hb1915 rfl rfl fun a hS => ?_
    refine wl rfl (ky (v := .bool true) hS (y_pickt hS rfl hb1915 rfl) rfl rfl fun a hS => ?_)
    refine wl rfl (ky (v := .bool true) hS (y_move hS rfl) rfl rfl fun a hS => ?_)
    refine wn hS rfl rfl rfl rfl rfl rfl fun a hS => ?_
    refine wn hS rfl rfl rfl rfl rfl rfl fun a hS => ?_
    refine wn hS rfl rfl rfl rfl rfl rfl fun a hS => ?_
    refine wl rfl (ky (v := .bool true) hS (y_pickt hS rfl rfl rfl) rfl rfl fun a hS => ?_)
    refine wpList_nil ?_
    try simp only [Exit.then, Exit.inBlock, ↓reduceIte, Nat.reduceEqDiff]
    refine hK68 _ _ ?_
    refine c_t hS rfl rfl ?_
    refine wp_seq_k fun K69 hK69 => ?_
    refine r_list ?_
    refine wl rfl (ky (v := .slice none 0 0) hS (y_assign hS rfl) rfl rfl fun a hS => ?_)
    refine wl rfl (ky (v := .slice none 0 0) hS (y_assign hS rfl) rfl rfl fun a hS => ?_)
    refine wl rfl (ky (v := .int .i64 5) hS (y_assign hS rfl) rfl rfl fun a hS => ?_)
    refine wpList_nil ?_
    try simp only [Exit.then, Exit.inBlock, ↓reduceIte, Nat.reduceEqDiff]
    refine hK69 _ _ ?_
    refine wp_ret ?_
    injection hM with hM
    subst hM
    try simp only [Exit.then, Exit.inBlock, ↓reduceIte, Nat.reduceEqDiff]
    refine ret_ok hS Tryd.results47 (res_tmp hS rfl (res_tmp hS rfl (res_tmp hS rfl res_nil))) ?_
    exact ⟨.slice none 0 0, [], .slice none 0 0, [], rfl, ret_nil _ _ _ _ _ _, ret_nil _ _ _ _ _ _, (fun k h => by simp [Value.ownBlock] at *)⟩
  · replace hM := cf hb1915 hM
    refine wg hS rfl rfl rfl hb1915 (ky (v := v2) hS (y_move hS rfl) rfl rfl fun a hS => ?_)
    obtain ⟨u1916, hu1916, hM⟩ := bd hM
    refine wg hS rfl rfl rfl hb1915 (k_call hS ci77 rfl rfl (branch_contents_c _ _ hS.dlt (hS.get 3 rfl) a_1 _ (hS.get 1 rfl) _ hu1916) fun _ w hR a hk hA => ?_)
    have he := Eq.symm hR
    subst he
    have hS := hA [] (fun r hr => by cases hr) List.Pairwise.nil
    refine wg hS rfl rfl rfl hb1915 (ky (v := .bool (!(u1916))) hS (y_not hS rfl) rfl rfl fun a hS => ?_)
    refine wl rfl (ky (v := .bool (!(u1916))) hS (y_pickf hS rfl hb1915 rfl) rfl rfl fun a hS => ?_)
    refine wl rfl (ky (v := .bool (!(u1916))) hS (y_move hS rfl) rfl rfl fun a hS => ?_)
    rcases bool2 (!(u1916)) with hb1918 | hb1918
    · replace hM := ct hb1918 hM
      refine wn hS rfl rfl rfl hb1918 rfl rfl fun a hS => ?_
      refine wn hS rfl rfl rfl hb1918 rfl rfl fun a hS => ?_
      refine wn hS rfl rfl rfl hb1918 rfl rfl fun a hS => ?_
      refine wl rfl (ky (v := .bool true) hS (y_pickt hS rfl hb1918 rfl) rfl rfl fun a hS => ?_)
      refine wpList_nil ?_
      try simp only [Exit.then, Exit.inBlock, ↓reduceIte, Nat.reduceEqDiff]
      refine hK68 _ _ ?_
      refine c_t hS rfl rfl ?_
      refine wp_seq_k fun K70 hK70 => ?_
      refine r_list ?_
      refine wl rfl (ky (v := .slice none 0 0) hS (y_assign hS rfl) rfl rfl fun a hS => ?_)
      refine wl rfl (ky (v := .slice none 0 0) hS (y_assign hS rfl) rfl rfl fun a hS => ?_)
      refine wl rfl (ky (v := .int .i64 5) hS (y_assign hS rfl) rfl rfl fun a hS => ?_)
      refine wpList_nil ?_
      try simp only [Exit.then, Exit.inBlock, ↓reduceIte, Nat.reduceEqDiff]
      refine hK70 _ _ ?_
      refine wp_ret ?_
      injection hM with hM
      subst hM
      try simp only [Exit.then, Exit.inBlock, ↓reduceIte, Nat.reduceEqDiff]
      refine ret_ok hS Tryd.results47 (res_tmp hS rfl (res_tmp hS rfl (res_tmp hS rfl res_nil))) ?_
      exact ⟨.slice none 0 0, [], .slice none 0 0, [], rfl, ret_nil _ _ _ _ _ _, ret_nil _ _ _ _ _ _, (fun k h => by simp [Value.ownBlock] at *)⟩
    · replace hM := cf hb1918 hM
      refine wg hS rfl rfl rfl hb1918 (ky (v := v3) hS (y_move hS rfl) rfl rfl fun a hS => ?_)
      obtain ⟨u1919, hu1919, hM⟩ := bd hM
      refine wg hS rfl rfl rfl hb1918 (k_call hS ci77 rfl rfl (branch_contents_c _ _ hS.dlt (hS.get 3 rfl) b_2 _ (hS.get 0 rfl) _ hu1919) fun _ w hR a hk hA => ?_)
      have he := Eq.symm hR
      subst he
      have hS := hA [] (fun r hr => by cases hr) List.Pairwise.nil
      refine wg hS rfl rfl rfl hb1918 (ky (v := .bool (!(u1919))) hS (y_not hS rfl) rfl rfl fun a hS => ?_)
      refine wl rfl (ky (v := .bool (!(u1919))) hS (y_pickf hS rfl hb1918 rfl) rfl rfl fun a hS => ?_)
      refine wpList_nil ?_
      try simp only [Exit.then, Exit.inBlock, ↓reduceIte, Nat.reduceEqDiff]
      refine hK68 _ _ ?_
      rcases bool2 (!(u1919)) with hb1921 | hb1921
      · replace hM := ct hb1921 hM
        refine c_t hS rfl hb1921 ?_
        refine wp_seq_k fun K71 hK71 => ?_
        refine r_list ?_
        refine wl rfl (ky (v := .slice none 0 0) hS (y_assign hS rfl) rfl rfl fun a hS => ?_)
        refine wl rfl (ky (v := .slice none 0 0) hS (y_assign hS rfl) rfl rfl fun a hS => ?_)
        refine wl rfl (ky (v := .int .i64 5) hS (y_assign hS rfl) rfl rfl fun a hS => ?_)
        refine wpList_nil ?_
        try simp only [Exit.then, Exit.inBlock, ↓reduceIte, Nat.reduceEqDiff]
        refine hK71 _ _ ?_
        refine wp_ret ?_
        injection hM with hM
        subst hM
        try simp only [Exit.then, Exit.inBlock, ↓reduceIte, Nat.reduceEqDiff]
        refine ret_ok hS Tryd.results47 (res_tmp hS rfl (res_tmp hS rfl (res_tmp hS rfl res_nil))) ?_
        exact ⟨.slice none 0 0, [], .slice none 0 0, [], rfl, ret_nil _ _ _ _ _ _, ret_nil _ _ _ _ _ _, (fun k h => by simp [Value.ownBlock] at *)⟩
      · replace hM := cf hb1921 hM
        refine c_f hS rfl hb1921 ?_
        refine wp_skip ?_
        try simp only [Exit.then, Exit.inBlock, ↓reduceIte, Nat.reduceEqDiff]
        refine hK67 _ _ ?_
        refine wp_seq_k fun K72 hK72 => ?_
        refine r_list ?_
        refine wl rfl (ky (v := v1) hS (y_move hS rfl) rfl rfl fun a hS => ?_)
        obtain ⟨u1922, hu1922, hM⟩ := bd hM
        refine wl rfl (k_call hS ci78 rfl rfl (branch_values_c _ _ hS.dlt base_ _ (hS.get 2 rfl) _ hu1922) fun _ w hR a hk hA => ?_)
        obtain ⟨bz1923_2, esz1923_3, ckz1923_4, he, ⟨hObz1923_2, hFbz1923_2, hRbz1923_2⟩⟩ := hR
        replace he := he.symm
        subst he
        have hS := hA [.obj bz1923_2 (.map esz1923_3 ckz1923_4)] (adds1 hObz1923_2 (obj_new hFbz1923_2)) (pw1 _)
        replace hS := hS.fact (MapF R_KeyD true Rep.str false esz1923_3 u1922) (hRbz1923_2.keep (Kt.refl _ _) (dT_dT _))
        refine wl rfl (ky (v := v2) hS (y_move hS rfl) rfl rfl fun a hS => ?_)
        obtain ⟨u1925, hu1925, hM⟩ := bd hM
        refine wl rfl (k_call hS ci78 rfl rfl (branch_values_c _ _ hS.dlt a_1 _ (hS.get 2 rfl) _ hu1925) fun _ w hR a hk hA => ?_)
        obtain ⟨bz1926_2, esz1926_3, ckz1926_4, he, ⟨hObz1926_2, hFbz1926_2, hRbz1926_2⟩⟩ := hR
        replace he := he.symm
        subst he
        have hS := hA [.obj bz1926_2 (.map esz1926_3 ckz1926_4)] (adds1 hObz1926_2 (obj_new hFbz1926_2)) (pw1 _)
        replace hS := hS.fact (MapF R_KeyD true Rep.str false esz1926_3 u1925) (hRbz1926_2.keep (Kt.refl _ _) (dT_dT _))
        refine wl rfl (ky (v := v3) hS (y_move hS rfl) rfl rfl fun a hS => ?_)
        obtain ⟨u1928, hu1928, hM⟩ := bd hM
        refine wl rfl (k_call hS ci78 rfl rfl (branch_values_c _ _ hS.dlt b_2 _ (hS.get 2 rfl) _ hu1928) fun _ w hR a hk hA => ?_)
        obtain ⟨bz1929_2, esz1929_3, ckz1929_4, he, ⟨hObz1929_2, hFbz1929_2, hRbz1929_2⟩⟩ := hR
        replace he := he.symm
        subst he
        have hS := hA [.obj bz1929_2 (.map esz1929_3 ckz1929_4)] (adds1 hObz1929_2 (obj_new hFbz1929_2)) (pw1 _)
        replace hS := hS.fact (MapF R_KeyD true Rep.str false esz1929_3 u1928) (hRbz1929_2.keep (Kt.refl _ _) (dT_dT _))
        refine wl rfl (ky (v := .map (some bz1923_2)) hS (y_assign hS rfl) rfl rfl fun a hS => ?_)
        refine wl rfl (ky (v := .map (some bz1926_2)) hS (y_assign hS rfl) rfl rfl fun a hS => ?_)
        refine wl rfl (ky (v := .map (some bz1929_2)) hS (y_assign hS rfl) rfl rfl fun a hS => ?_)
        refine wpList_nil ?_
        try simp only [Exit.then, Exit.inBlock, ↓reduceIte, Nat.reduceEqDiff]
        refine hK72 _ _ ?_
        refine wp_seq_k fun K73 hK73 => ?_
        refine r_list ?_
        refine wl rfl (ky (v := .slice none 0 0) hS (y_assign hS rfl) rfl rfl fun a hS => ?_)
        refine wpList_nil ?_
        try simp only [Exit.then, Exit.inBlock, ↓reduceIte, Nat.reduceEqDiff]
        refine hK73 _ _ ?_
        refine wp_seq_k fun K74 hK74 => ?_
        refine r_list ?_
        refine wl rfl (ky (v := .slice none 0 0) hS (y_assign hS rfl) rfl rfl fun a hS => ?_)
        refine wpList_nil ?_
        try simp only [Exit.then, Exit.inBlock, ↓reduceIte, Nat.reduceEqDiff]
        refine hK74 _ _ ?_
        refine seq_j (J := fun a w => ∃ (out2860 : (List ChangeD)) (clashes2864 : (List KeyD)) (v2861 : Value) (cl2862 : (List Value)) (v2865 : Value) (cl2866 : (List Value)), St W0 No T 97 [(12, v2861), (13, v2865)] [.own v2861 88 R_ChangeD.size cl2862, .own v2865 26 R_KeyD.size cl2866] [RowsF R_ChangeD cl2862 out2860, RowsF R_KeyD cl2866 clashes2864, LvF] a w ∧ branch_Merge_j1 out2860 clashes2864 = some y) ?_ ?_
        · skip
          refine wp_seq_k fun K106 hK106 => ?_
          refine r_list ?_
          refine wl rfl (ky (v := v1) hS (y_move hS rfl) rfl rfl fun a hS => ?_)
          refine wl rfl (ky (v := v2) hS (y_move hS rfl) rfl rfl fun a hS => ?_)
          refine wl rfl (ky (v := v3) hS (y_move hS rfl) rfl rfl fun a hS => ?_)
          refine wl rfl (k_bslice (ps := [(0, .tmp 36), (1, .tmp 37), (2, .tmp 38)]) hS el86 ze79 (zl := [.slice none 0 0, .slice none 0 0, .slice none 0 0]) (by kernel_rfl) rfl (us := [[v1], [v2], [v3]]) ⟨(cells1 (SlR.one ((hS.get 5 rfl) : SlR R_ChangeD _ _ _ _))), ⟨(cells1 (SlR.one ((hS.get 4 rfl) : SlR R_ChangeD _ _ _ _))), ⟨(cells1 (SlR.one ((hS.get 3 rfl) : SlR R_ChangeD _ _ _ _))), trivial⟩⟩⟩ (ws := [v1, v2, v3]) rfl rfl rfl rfl fun b2870 a w hk hS => ?_)
          replace hS := hS.lit (R := (Rep.slice R_ChangeD)) (us := [v1, v2, v3]) (xs := [base_, a_1, b_2]) 0 rfl (by decide) ((RowsOk.one_ (R := (Rep.slice R_ChangeD)) (x := base_) (⟨_, rfl, (hS.get 5 rfl)⟩)).append ((RowsOk.one_ (R := (Rep.slice R_ChangeD)) (x := a_1) (⟨_, rfl, (hS.get 4 rfl)⟩)).append (RowsOk.one_ (R := (Rep.slice R_ChangeD)) (x := b_2) (⟨_, rfl, (hS.get 3 rfl)⟩)))) rfl rfl
          have hL := hS
          replace hL := hL.freeze (R := (Rep.slice R_ChangeD)) 0 rfl 0 rfl
          obtain ⟨u2872, hu2872, hM⟩ := bd hM
          refine wl rfl (k_call hS ci79 rfl rfl (branch_keys_c _ _ hL.dlt (hL.get 8 rfl) ([base_, a_1, b_2]) _ (hL.get 0 rfl) _ hu2872) fun _ w hR a hk hA => ?_)
          obtain ⟨vz2873_2, clz2873_3, he, ⟨hOvz2873_2, hFvz2873_2, hRvz2873_2⟩⟩ := hR
          replace he := he.symm
          subst he
          have hS := hA [.own vz2873_2 26 R_KeyD.size clz2873_3] (adds1 ⟨hOvz2873_2, by decide⟩ hFvz2873_2) (pw1 _)
          replace hS := hS.fact (RowsF R_KeyD clz2873_3 u2872) hRvz2873_2
          refine wl rfl (ky (v := .int .i64 (u2872.length : Int)) hS (y_leno (R := R_KeyD) (xs := u2872) hS sl22 rfl 0 rfl 0 rfl) rfl rfl fun a hS => ?_)
          refine wl rfl (ky (v := .int .i64 0) hS (y_move hS rfl) rfl rfl fun a hS => ?_)
          refine wpList_nil ?_
          try simp only [Exit.then, Exit.inBlock, ↓reduceIte, Nat.reduceEqDiff]
          refine hK106 _ _ ?_
          refine wp_block ?_
          replace hS := hS.nilRow R_ChangeD 88 (by decide)
          replace hS := hS.nilRow R_KeyD 26 (by decide)
          obtain ⟨r1, hl1, hMo1⟩ := bd hM
          refine wp_lp (fun s : (List ChangeD) × (List KeyD) × Int => branch_Merge_l5 u1922 u1925 u1928 u2872 s.1 s.2.1 s.2.2) (fun s a w => ∃ (out3338 : (List ChangeD)) (clashes3342 : (List KeyD)) (g3346 : Int) (v3339 : Value) (cl3340 : (List Value)) (v3343 : Value) (cl3344 : (List Value)), (out3338, clashes3342, g3346) = s ∧ St W0 No T 97 [(9, .map (some bz1923_2)), (10, .map (some bz1926_2)), (11, .map (some bz1929_2)), (12, v3339), (13, v3343), (40, vz2873_2), (41, .int .i64 (u2872.length : Int)), (42, .int .i64 g3346)] [.obj bz1923_2 (.map esz1923_3 ckz1923_4), .obj bz1926_2 (.map esz1926_3 ckz1926_4), .obj bz1929_2 (.map esz1929_3 ckz1929_4), .own v3339 88 R_ChangeD.size cl3340, .own v3343 26 R_KeyD.size cl3344, .own vz2873_2 26 R_KeyD.size clz2873_3] [MapF R_KeyD true Rep.str false esz1923_3 u1922, MapF R_KeyD true Rep.str false esz1926_3 u1925, MapF R_KeyD true Rep.str false esz1929_3 u1928, RowsF R_ChangeD cl3340 out3338, RowsF R_KeyD cl3344 clashes3342, RowsF R_KeyD clz2873_3 u2872, LvF] a w) hl1 ⟨([] : List ChangeD), ([] : List KeyD), 0, (.slice none 0 0), ([]), (.slice none 0 0), ([]), rfl, (hS.meet [6, 5, 4, 1, 0, 2] (by decide) ⟨rfl, rfl, rfl, rfl, rfl, rfl, rfl, rfl, trivial⟩ ⟨rfl, rfl, rfl, rfl, rfl, rfl, trivial⟩ ⟨⟨6, rfl⟩, ⟨5, rfl⟩, ⟨4, rfl⟩, ⟨1, rfl⟩, ⟨0, rfl⟩, ⟨2, rfl⟩, ⟨10, rfl⟩, trivial⟩)⟩ ?_
          rintro s a w f1 ⟨out3338, clashes3342, g3346, v3339, cl3340, v3343, cl3344, rfl, hS⟩ hM hf1
          have hM : branch_Merge_l5 u1922 u1925 u1928 u2872 out3338 clashes3342 g3346 = some f1 := hM
          unfold branch_Merge_l5 at hM
          refine wp_seq_k fun K131 hK131 => ?_
          refine r_list ?_
          refine wl rfl (ky (v := .bool (decide ((g3346 : Int) < (u2872.length : Int)))) hS (y_int hS rfl rfl rfl) rfl rfl fun a hS => ?_)
          refine wpList_nil ?_
          try simp only [Exit.then, Exit.inBlock, ↓reduceIte, Nat.reduceEqDiff]
          refine hK131 _ _ ?_
          refine wp_seq_k fun K132 hK132 => ?_
          rcases bool2 (decide ((g3346 : Int) < (u2872.length : Int))) with hb3801 | hb3801
          · replace hM := ct hb3801 hM
            refine c_t hS rfl hb3801 ?_
            refine wp_skip ?_
            try simp only [Exit.then, Exit.inBlock, ↓reduceIte, Nat.reduceEqDiff]
            refine hK132 _ _ ?_
            refine seq_j (J := fun a w => ∃ (out4019 : (List ChangeD)) (clashes4023 : (List KeyD)) (v4020 : Value) (cl4021 : (List Value)) (v4024 : Value) (cl4025 : (List Value)), St W0 No T 97 [(9, .map (some bz1923_2)), (10, .map (some bz1926_2)), (11, .map (some bz1929_2)), (12, v4020), (13, v4024), (40, vz2873_2), (41, .int .i64 (u2872.length : Int)), (42, .int .i64 g3346)] [.obj bz1923_2 (.map esz1923_3 ckz1923_4), .obj bz1926_2 (.map esz1926_3 ckz1926_4), .obj bz1929_2 (.map esz1929_3 ckz1929_4), .own v4020 88 R_ChangeD.size cl4021, .own v4024 26 R_KeyD.size cl4025, .own vz2873_2 26 R_KeyD.size clz2873_3] [MapF R_KeyD true Rep.str false esz1923_3 u1922, MapF R_KeyD true Rep.str false esz1926_3 u1925, MapF R_KeyD true Rep.str false esz1929_3 u1928, RowsF R_ChangeD cl4021 out4019, RowsF R_KeyD cl4025 clashes4023, RowsF R_KeyD clz2873_3 u2872, LvF] a w ∧ branch_Merge_j2 g3346 out4019 clashes4023 = some f1) ?_ ?_
            · skip
              refine wp_block ?_
              refine wp_seq_k fun K138 hK138 => ?_
              refine r_list ?_
              obtain ⟨e4027, he4027, hM⟩ := bd hM
              refine wl rfl (k_indexo (R := R_KeyD) hS sl22 ty26 rfl rfl 5 rfl 5 rfl he4027 rfl fun b4028 o4029 p4034 cs4031 hr4030 hO4032 hC4033 a hS => ?_)
              obtain rfl := hr4030
              refine wl rfl (ky (v := .agg #[.int .i64 e4027.Kind, .string e4027.Text]) hS (y_loado (k := 0) hS ty26 5 rfl hO4032 hC4033 rfl id (us := [.int .i64 e4027.Kind, .string e4027.Text]) rfl rfl (fun h => by cases h)) rfl rfl fun a hS => ?_)
              refine wl rfl (k_alloc hS ze26 rfl fun b4035 hnb4037 a w hk hS => ?_)
              refine wl rfl (k_store hS rfl rfl (us := [.int .i64 e4027.Kind, .string e4027.Text]) rfl ty26 0 rfl rfl rfl (oc rfl (oc rfl on)) fun w hk hS => ?_)
              refine wpList_nil ?_
              try simp only [Exit.then, Exit.inBlock, ↓reduceIte, Nat.reduceEqDiff]
              refine hK138 _ _ ?_
              refine wp_seq_k fun K139 hK139 => ?_
              refine r_list ?_
              refine wl rfl (ky (v := .map (some bz1926_2)) hS (y_move hS rfl) rfl rfl fun a hS => ?_)
              refine wl rfl (ky (v := .agg #[.int .i64 e4027.Kind, .string e4027.Text]) hS (y_load hS rfl ty26 0 rfl id (us := [.int .i64 e4027.Kind, .string e4027.Text]) rfl rfl (fun h => by cases h)) rfl rfl fun a hS => ?_)
              obtain ⟨u4038, hu4038, hM⟩ := bd hM
              obtain ⟨cv4039, hr4040, hy4041⟩ := d_looku hS mp84 kt_KeyD 2 rfl 1 rfl (c := [.int .i64 e4027.Kind, .string e4027.Text]) (key := e4027) rfl zv9 (zc := [.string (ByteArray.mk #[])]) rfl rfl hu4038
              obtain rfl := hr4040
              refine wl rfl (ky (v := .string u4038) hS (hy4041 rfl rfl id) rfl rfl fun a hS => ?_)
              refine wl rfl (ky (v := .string u4038) hS (y_assign hS rfl) rfl rfl fun a hS => ?_)
              refine wpList_nil ?_
              try simp only [Exit.then, Exit.inBlock, ↓reduceIte, Nat.reduceEqDiff]
              refine hK139 _ _ ?_
              refine seq_j (J := fun a w => ∃ (clashes4137 : (List KeyD)) (v4141 : ByteArray) (v4138 : Value) (cl4139 : (List Value)), St W0 No T 97 [(9, .map (some bz1923_2)), (10, .map (some bz1926_2)), (11, .map (some bz1929_2)), (12, v3339), (13, v4138), (15, .pointer (some ⟨b4035, 0, none⟩)), (16, .string v4141), (40, vz2873_2), (41, .int .i64 (u2872.length : Int)), (42, .int .i64 g3346)] [.obj bz1923_2 (.map esz1923_3 ckz1923_4), .obj bz1926_2 (.map esz1926_3 ckz1926_4), .obj bz1929_2 (.map esz1929_3 ckz1929_4), .own v3339 88 R_ChangeD.size cl3340, .own v4138 26 R_KeyD.size cl4139, .own vz2873_2 26 R_KeyD.size clz2873_3, .box b4035 [.int .i64 e4027.Kind, .string e4027.Text] 26] [MapF R_KeyD true Rep.str false esz1923_3 u1922, MapF R_KeyD true Rep.str false esz1926_3 u1925, MapF R_KeyD true Rep.str false esz1929_3 u1928, RowsF R_ChangeD cl3340 out3338, RowsF R_KeyD cl4139 clashes4137, RowsF R_KeyD clz2873_3 u2872, LvF] a w ∧ branch_Merge_j3 out3338 g3346 e4027 clashes4137 v4141 = some f1) ?_ ?_
              · skip
                refine wp_block ?_
                refine seq_j (J := fun a w => ∃ (g4201 : Bool), St W0 No T 97 [(9, .map (some bz1923_2)), (10, .map (some bz1926_2)), (11, .map (some bz1929_2)), (12, v3339), (13, v3343), (15, .pointer (some ⟨b4035, 0, none⟩)), (16, .string u4038), (40, vz2873_2), (41, .int .i64 (u2872.length : Int)), (42, .int .i64 g3346), (53, .bool g4201)] [.obj bz1923_2 (.map esz1923_3 ckz1923_4), .obj bz1926_2 (.map esz1926_3 ckz1926_4), .obj bz1929_2 (.map esz1929_3 ckz1929_4), .own v3339 88 R_ChangeD.size cl3340, .own v3343 26 R_KeyD.size cl3344, .own vz2873_2 26 R_KeyD.size clz2873_3, .box b4035 [.int .i64 e4027.Kind, .string e4027.Text] 26] [MapF R_KeyD true Rep.str false esz1923_3 u1922, MapF R_KeyD true Rep.str false esz1926_3 u1925, MapF R_KeyD true Rep.str false esz1929_3 u1928, RowsF R_ChangeD cl3340 out3338, RowsF R_KeyD cl3344 clashes3342, RowsF R_KeyD clz2873_3 u2872, LvF] a w ∧ branch_Merge_j4 u1922 u1928 out3338 clashes3342 g3346 e4027 u4038 g4201 = some f1) ?_ ?_
                · skip
                  refine draws [] hS mixed rfl (fun c a d v w h => by cases d <;> exact h) fun w hQ hS => ?_
                  refine dy 0 (v := .map (some bz1929_2)) rfl (by kernel_rfl) (by kernel_rfl) (by kernel_rfl) rfl hQ hS (y_move hS rfl) rfl rfl rfl fun a hS => ?_
                  refine dy (l := []) 1 (v := .agg #[.int .i64 e4027.Kind, .string e4027.Text]) rfl (by kernel_rfl) (by kernel_rfl) (by kernel_rfl) (by kernel_rfl) hQ hS (y_load hS rfl ty26 0 rfl eo_nil (us := [.int .i64 e4027.Kind, .string e4027.Text]) rfl rfl (fun h => by cases h)) rfl rfl rfl fun a hS => ?_
                  obtain ⟨u4231, hu4231, hM⟩ := bd hM
                  obtain ⟨cv4232, hr4233, hy4234⟩ := d_looku hS mp84 kt_KeyD 3 rfl 2 rfl (c := [.int .i64 e4027.Kind, .string e4027.Text]) (key := e4027) rfl zv9 (zc := [.string (ByteArray.mk #[])]) rfl rfl hu4231
                  obtain rfl := hr4233
                  refine dy (l := []) 2 (v := .string u4231) rfl (by kernel_rfl) (by kernel_rfl) (by kernel_rfl) (by kernel_rfl) hQ hS (hy4234 rfl rfl eo_nil) rfl rfl rfl fun a hS => ?_
                  refine dy 3 (v := .map (some bz1923_2)) rfl (by kernel_rfl) (by kernel_rfl) (by kernel_rfl) rfl hQ hS (y_move hS rfl) rfl rfl rfl fun a hS => ?_
                  refine dy (l := []) 4 (v := .agg #[.int .i64 e4027.Kind, .string e4027.Text]) rfl (by kernel_rfl) (by kernel_rfl) (by kernel_rfl) (by kernel_rfl) hQ hS (y_load hS rfl ty26 0 rfl eo_nil (us := [.int .i64 e4027.Kind, .string e4027.Text]) rfl rfl (fun h => by cases h)) rfl rfl rfl fun a hS => ?_
                  obtain ⟨u4235, hu4235, hM⟩ := bd hM
                  obtain ⟨cv4236, hr4237, hy4238⟩ := d_looku hS mp84 kt_KeyD 1 rfl 0 rfl (c := [.int .i64 e4027.Kind, .string e4027.Text]) (key := e4027) rfl zv9 (zc := [.string (ByteArray.mk #[])]) rfl rfl hu4235
                  obtain rfl := hr4237
                  refine dy (l := []) 5 (v := .string u4235) rfl (by kernel_rfl) (by kernel_rfl) (by kernel_rfl) (by kernel_rfl) hQ hS (hy4238 rfl rfl eo_nil) rfl rfl rfl fun a hS => ?_
                  refine dy 6 (v := .bool (u4231.toList == u4235.toList)) rfl (by kernel_rfl) (by kernel_rfl) (by kernel_rfl) rfl hQ hS (y_str hS rfl rfl rfl) rfl rfl rfl fun a hS => ?_
                  refine dy 7 (v := .bool (u4231.toList == u4235.toList)) rfl (by kernel_rfl) (by kernel_rfl) (by kernel_rfl) rfl hQ hS (y_move hS rfl) rfl rfl rfl fun a hS => ?_
                  rcases bool2 (u4231.toList == u4235.toList) with hb4239 | hb4239
                  · replace hM := ct hb4239 hM
                    refine dyn 8 rfl (by kernel_rfl) (by kernel_rfl) (by kernel_rfl) hQ hS rfl rfl rfl hb4239 rfl rfl fun a hS => ?_
                    refine dyn 9 rfl (by kernel_rfl) (by kernel_rfl) (by kernel_rfl) hQ hS rfl rfl rfl hb4239 rfl rfl fun a hS => ?_
                    refine dyn 10 rfl (by kernel_rfl) (by kernel_rfl) (by kernel_rfl) hQ hS rfl rfl rfl hb4239 rfl rfl fun a hS => ?_
                    refine dyn 11 rfl (by kernel_rfl) (by kernel_rfl) (by kernel_rfl) hQ hS rfl rfl rfl hb4239 rfl rfl fun a hS => ?_
                    refine dyn 12 rfl (by kernel_rfl) (by kernel_rfl) (by kernel_rfl) hQ hS rfl rfl rfl hb4239 rfl rfl fun a hS => ?_
                    refine dy 13 (v := .bool true) rfl (by kernel_rfl) (by kernel_rfl) (by kernel_rfl) rfl hQ hS (y_pickt hS rfl hb4239 rfl) rfl rfl rfl fun a hS => ?_
                    refine dy 14 (v := .bool true) rfl (by kernel_rfl) (by kernel_rfl) (by kernel_rfl) rfl hQ hS (y_assign hS rfl) rfl rfl rfl fun a hS => ?_
                    refine wpE_done (by kernel_rfl) ?_ _
                    try simp only [Exit.then, Exit.inBlock, ↓reduceIte, Nat.reduceEqDiff]
                    exact ⟨true, (hS.meet [1, 2, 3, 4, 5, 6, 0] (by decide) ⟨rfl, rfl, rfl, rfl, rfl, rfl, rfl, rfl, rfl, rfl, rfl, trivial⟩ ⟨rfl, rfl, rfl, rfl, rfl, rfl, rfl, trivial⟩ ⟨⟨0, rfl⟩, ⟨1, rfl⟩, ⟨2, rfl⟩, ⟨3, rfl⟩, ⟨4, rfl⟩, ⟨5, rfl⟩, ⟨6, rfl⟩, trivial⟩), hM⟩
                  · replace hM := cf hb4239 hM
                    refine dyg 8 (v := .map (some bz1929_2)) rfl (by kernel_rfl) (by kernel_rfl) (by kernel_rfl) rfl hQ hS (y_move hS rfl) rfl rfl rfl hb4239 rfl rfl fun a hS => ?_
                    refine dyg (l := []) 9 (v := .agg #[.int .i64 e4027.Kind, .string e4027.Text]) rfl (by kernel_rfl) (by kernel_rfl) (by kernel_rfl) (by kernel_rfl) hQ hS (y_load hS rfl ty26 0 rfl eo_nil (us := [.int .i64 e4027.Kind, .string e4027.Text]) rfl rfl (fun h => by cases h)) rfl rfl rfl hb4239 rfl rfl fun a hS => ?_
                    obtain ⟨u4240, hu4240, hM⟩ := bd hM
                    obtain ⟨cv4241, hr4242, hy4243⟩ := d_looku hS mp84 kt_KeyD 3 rfl 2 rfl (c := [.int .i64 e4027.Kind, .string e4027.Text]) (key := e4027) rfl zv9 (zc := [.string (ByteArray.mk #[])]) rfl rfl hu4240
                    obtain rfl := hr4242
                    refine dyg (l := []) 10 (v := .string u4240) rfl (by kernel_rfl) (by kernel_rfl) (by kernel_rfl) (by kernel_rfl) hQ hS (hy4243 rfl rfl eo_nil) rfl rfl rfl hb4239 rfl rfl fun a hS => ?_
                    refine dyg 11 (v := .string u4038) rfl (by kernel_rfl) (by kernel_rfl) (by kernel_rfl) rfl hQ hS (y_move hS rfl) rfl rfl rfl hb4239 rfl rfl fun a hS => ?_
                    refine dyg 12 (v := .bool (u4240.toList == u4038.toList)) rfl (by kernel_rfl) (by kernel_rfl) (by kernel_rfl) rfl hQ hS (y_str hS rfl rfl rfl) rfl rfl rfl hb4239 rfl rfl fun a hS => ?_
                    refine dy 13 (v := .bool (u4240.toList == u4038.toList)) rfl (by kernel_rfl) (by kernel_rfl) (by kernel_rfl) rfl hQ hS (y_pickf hS rfl hb4239 rfl) rfl rfl rfl fun a hS => ?_
                    refine dy 14 (v := .bool (u4240.toList == u4038.toList)) rfl (by kernel_rfl) (by kernel_rfl) (by kernel_rfl) rfl hQ hS (y_assign hS rfl) rfl rfl rfl fun a hS => ?_
                    refine wpE_done (by kernel_rfl) ?_ _
                    try simp only [Exit.then, Exit.inBlock, ↓reduceIte, Nat.reduceEqDiff]
                    exact ⟨(u4240.toList == u4038.toList), (hS.meet [1, 2, 3, 4, 5, 6, 0] (by decide) ⟨rfl, rfl, rfl, rfl, rfl, rfl, rfl, rfl, rfl, rfl, rfl, trivial⟩ ⟨rfl, rfl, rfl, rfl, rfl, rfl, rfl, trivial⟩ ⟨⟨0, rfl⟩, ⟨1, rfl⟩, ⟨2, rfl⟩, ⟨3, rfl⟩, ⟨4, rfl⟩, ⟨5, rfl⟩, ⟨6, rfl⟩, trivial⟩), hM⟩
                · rintro a w ⟨g4201, hS, hM⟩
                  unfold branch_Merge_j4 at hM
                  rcases bool2 (g4201) with hb4202 | hb4202
                  · replace hM := ct hb4202 hM
                    refine c_t hS rfl hb4202 ?_
                    refine wp_skip ?_
                    try simp only [Exit.then, Exit.inBlock, ↓reduceIte, Nat.reduceEqDiff]
                    exact ⟨clashes3342, u4038, v3343, cl3344, (hS.meet [0, 1, 2, 3, 4, 5, 6] (by decide) ⟨rfl, rfl, rfl, rfl, rfl, rfl, rfl, rfl, rfl, rfl, trivial⟩ ⟨rfl, rfl, rfl, rfl, rfl, rfl, rfl, trivial⟩ ⟨⟨0, rfl⟩, ⟨1, rfl⟩, ⟨2, rfl⟩, ⟨3, rfl⟩, ⟨4, rfl⟩, ⟨5, rfl⟩, ⟨6, rfl⟩, trivial⟩), hM⟩
                  · replace hM := cf hb4202 hM
                    refine c_f hS rfl hb4202 ?_
                    refine wp_seq_k fun K142 hK142 => ?_
                    refine r_list ?_
                    refine wl rfl (ky (v := .string u4038) hS (y_move hS rfl) rfl rfl fun a hS => ?_)
                    refine wl rfl (ky (v := .map (some bz1923_2)) hS (y_move hS rfl) rfl rfl fun a hS => ?_)
                    refine wl rfl (ky (v := .agg #[.int .i64 e4027.Kind, .string e4027.Text]) hS (y_load hS rfl ty26 6 rfl id (us := [.int .i64 e4027.Kind, .string e4027.Text]) rfl rfl (fun h => by cases h)) rfl rfl fun a hS => ?_)
                    obtain ⟨u4203, hu4203, hM⟩ := bd hM
                    obtain ⟨cv4204, hr4205, hy4206⟩ := d_looku hS mp84 kt_KeyD 0 rfl 0 rfl (c := [.int .i64 e4027.Kind, .string e4027.Text]) (key := e4027) rfl zv9 (zc := [.string (ByteArray.mk #[])]) rfl rfl hu4203
                    obtain rfl := hr4205
                    refine wl rfl (ky (v := .string u4203) hS (hy4206 rfl rfl id) rfl rfl fun a hS => ?_)
                    refine wl rfl (ky (v := .bool (u4038.toList == u4203.toList)) hS (y_str hS rfl rfl rfl) rfl rfl fun a hS => ?_)
                    refine wl rfl (ky (v := .bool (u4038.toList == u4203.toList)) hS (y_assign hS rfl) rfl rfl fun a hS => ?_)
                    refine wpList_nil ?_
                    try simp only [Exit.then, Exit.inBlock, ↓reduceIte, Nat.reduceEqDiff]
                    refine hK142 _ _ ?_
                    rcases bool2 (u4038.toList == u4203.toList) with hb4207 | hb4207
                    · replace hM := ct hb4207 hM
                      refine c_t hS rfl hb4207 ?_
                      refine r_list ?_
                      refine wl rfl (ky (v := .map (some bz1929_2)) hS (y_move hS rfl) rfl rfl fun a hS => ?_)
                      refine wl rfl (ky (v := .agg #[.int .i64 e4027.Kind, .string e4027.Text]) hS (y_load hS rfl ty26 6 rfl id (us := [.int .i64 e4027.Kind, .string e4027.Text]) rfl rfl (fun h => by cases h)) rfl rfl fun a hS => ?_)
                      obtain ⟨u4208, hu4208, hM⟩ := bd hM
                      obtain ⟨cv4209, hr4210, hy4211⟩ := d_looku hS mp84 kt_KeyD 2 rfl 2 rfl (c := [.int .i64 e4027.Kind, .string e4027.Text]) (key := e4027) rfl zv9 (zc := [.string (ByteArray.mk #[])]) rfl rfl hu4208
                      obtain rfl := hr4210
                      refine wl rfl (ky (v := .string u4208) hS (hy4211 rfl rfl id) rfl rfl fun a hS => ?_)
                      refine wl rfl (ky (v := .string u4208) hS (y_assign hS rfl) rfl rfl fun a hS => ?_)
                      refine wpList_nil ?_
                      try simp only [Exit.then, Exit.inBlock, ↓reduceIte, Nat.reduceEqDiff]
                      exact ⟨clashes3342, u4208, v3343, cl3344, (hS.meet [0, 1, 2, 3, 4, 5, 6] (by decide) ⟨rfl, rfl, rfl, rfl, rfl, rfl, rfl, rfl, rfl, rfl, trivial⟩ ⟨rfl, rfl, rfl, rfl, rfl, rfl, rfl, trivial⟩ ⟨⟨0, rfl⟩, ⟨1, rfl⟩, ⟨2, rfl⟩, ⟨3, rfl⟩, ⟨4, rfl⟩, ⟨5, rfl⟩, ⟨6, rfl⟩, trivial⟩), hM⟩
                    · replace hM := cf hb4207 hM
                      refine c_f hS rfl hb4207 ?_
                      refine r_list ?_
                      refine wl rfl (ky (v := v3343) hS (y_move hS rfl) rfl rfl fun a hS => ?_)
                      refine wl rfl (ky (v := .agg #[.int .i64 e4027.Kind, .string e4027.Text]) hS (y_load hS rfl ty26 6 rfl id (us := [.int .i64 e4027.Kind, .string e4027.Text]) rfl rfl (fun h => by cases h)) rfl rfl fun a hS => ?_)
                      refine wl rfl (k_bslice (ps := [(0, .tmp 50)]) hS el22 ze26 (zl := [.int .i64 0, .string (ByteArray.mk #[])]) (by kernel_rfl) rfl (us := [[.int .i64 e4027.Kind, .string e4027.Text]]) ⟨rfl, trivial⟩ (ws := [.int .i64 e4027.Kind, .string e4027.Text]) rfl rfl rfl rfl fun b4212 a w hk hS => ?_)
                      replace hS := hS.lit (R := R_KeyD) (us := [.int .i64 e4027.Kind, .string e4027.Text]) (xs := [e4027]) 0 rfl (by decide) (RowsOk.one_ (R := R_KeyD) (x := e4027) rfl) rfl rfl
                      replace hS := hS.freeze (R := R_KeyD) 0 rfl 0 rfl
                      obtain ⟨hg4214, hM⟩ := gd_some hM
                      refine wl rfl (k_apps (R := R_KeyD) (xs := clashes3342) (ys := [e4027]) hS el22 (by decide) (by decide) rfl rfl 4 rfl 6 rfl 0 rfl hg4214 rfl fun v4215 cl4216 a w hk hS => ?_)
                      refine wl rfl (ky (v := v4215) hS (y_assign hS rfl) rfl rfl fun a hS => ?_)
                      refine wpList_nil ?_
                      try simp only [Exit.then, Exit.inBlock, ↓reduceIte, Nat.reduceEqDiff]
                      exact ⟨(clashes3342 ++ ([e4027])), u4038, v4215, cl4216, (hS.meet [0, 1, 2, 3, 4, 5, 6] (by decide) ⟨rfl, rfl, rfl, rfl, rfl, rfl, rfl, rfl, rfl, rfl, trivial⟩ ⟨rfl, rfl, rfl, rfl, rfl, rfl, rfl, trivial⟩ ⟨⟨3, rfl⟩, ⟨4, rfl⟩, ⟨5, rfl⟩, ⟨6, rfl⟩, ⟨0, rfl⟩, ⟨8, rfl⟩, ⟨9, rfl⟩, trivial⟩), hM⟩
              · rintro a w ⟨clashes4137, v4141, v4138, cl4139, hS, hM⟩
                unfold branch_Merge_j3 at hM
                refine wp_seq_k fun K141 hK141 => ?_
                refine r_list ?_
                refine wl rfl (ky (v := .string v4141) hS (y_move hS rfl) rfl rfl fun a hS => ?_)
                refine wl rfl (ky (v := .bool (!(v4141.toList == (ByteArray.mk #[]).toList))) hS (y_str hS rfl rfl rfl) rfl rfl fun a hS => ?_)
                refine wpList_nil ?_
                try simp only [Exit.then, Exit.inBlock, ↓reduceIte, Nat.reduceEqDiff]
                refine hK141 _ _ ?_
                rcases bool2 (!(v4141.toList == (ByteArray.mk #[]).toList)) with hb4142 | hb4142
                · replace hM := ct hb4142 hM
                  refine c_t hS rfl hb4142 ?_
                  refine r_list ?_
                  refine wl rfl (ky (v := v3339) hS (y_move hS rfl) rfl rfl fun a hS => ?_)
                  refine wl rfl (ky (v := .agg #[.int .i64 e4027.Kind, .string e4027.Text]) hS (y_load hS rfl ty26 6 rfl id (us := [.int .i64 e4027.Kind, .string e4027.Text]) rfl rfl (fun h => by cases h)) rfl rfl fun a hS => ?_)
                  refine wl rfl (ky (v := .string v4141) hS (y_move hS rfl) rfl rfl fun a hS => ?_)
                  refine wl rfl (ky (v := .agg #[.int .i64 e4027.Kind, .string e4027.Text, .string v4141]) hS (y_build (ps := [(0, .tmp 80), (1, .tmp 81)]) hS pl88 ze88 rfl (us := [[.int .i64 e4027.Kind, .string e4027.Text], [.string v4141]]) ⟨rfl, ⟨rfl, trivial⟩⟩ (ws := [.int .i64 e4027.Kind, .string e4027.Text, .string v4141]) rfl) rfl rfl fun a hS => ?_)
                  refine wl rfl (k_bslice (ps := [(0, .tmp 82)]) hS el79 ze88 (zl := [.int .i64 0, .string (ByteArray.mk #[]), .string (ByteArray.mk #[])]) (by kernel_rfl) rfl (us := [[.int .i64 e4027.Kind, .string e4027.Text, .string v4141]]) ⟨rfl, trivial⟩ (ws := [.int .i64 e4027.Kind, .string e4027.Text, .string v4141]) rfl rfl rfl rfl fun b4143 a w hk hS => ?_)
                  replace hS := hS.lit (R := R_ChangeD) (us := [.int .i64 e4027.Kind, .string e4027.Text, .string v4141]) (xs := [(ChangeD.mk e4027 v4141)]) 0 rfl (by decide) (RowsOk.one_ (R := R_ChangeD) (x := (ChangeD.mk e4027 v4141)) rfl) rfl rfl
                  replace hS := hS.freeze (R := R_ChangeD) 0 rfl 0 rfl
                  obtain ⟨hg4145, hM⟩ := gd_some hM
                  refine wl rfl (k_apps (R := R_ChangeD) (xs := out3338) (ys := [(ChangeD.mk e4027 v4141)]) hS el79 (by decide) (by decide) rfl rfl 3 rfl 5 rfl 0 rfl hg4145 rfl fun v4146 cl4147 a w hk hS => ?_)
                  refine wl rfl (ky (v := v4146) hS (y_assign hS rfl) rfl rfl fun a hS => ?_)
                  refine wpList_nil ?_
                  try simp only [Exit.then, Exit.inBlock, ↓reduceIte, Nat.reduceEqDiff]
                  exact ⟨(out3338 ++ ([(ChangeD.mk e4027 v4141)])), clashes4137, v4146, cl4147, v4138, cl4139, (hS.meet [0, 1, 2, 3, 4, 5] (by decide) ⟨rfl, rfl, rfl, rfl, rfl, rfl, rfl, rfl, trivial⟩ ⟨rfl, rfl, rfl, rfl, rfl, rfl, trivial⟩ ⟨⟨3, rfl⟩, ⟨4, rfl⟩, ⟨5, rfl⟩, ⟨0, rfl⟩, ⟨7, rfl⟩, ⟨8, rfl⟩, ⟨9, rfl⟩, trivial⟩), hM⟩
                · replace hM := cf hb4142 hM
                  refine c_f hS rfl hb4142 ?_
                  refine wp_skip ?_
                  try simp only [Exit.then, Exit.inBlock, ↓reduceIte, Nat.reduceEqDiff]
                  exact ⟨out3338, clashes4137, v3339, cl3340, v4138, cl4139, (hS.meet [0, 1, 2, 3, 4, 5] (by decide) ⟨rfl, rfl, rfl, rfl, rfl, rfl, rfl, rfl, trivial⟩ ⟨rfl, rfl, rfl, rfl, rfl, rfl, trivial⟩ ⟨⟨0, rfl⟩, ⟨1, rfl⟩, ⟨2, rfl⟩, ⟨3, rfl⟩, ⟨4, rfl⟩, ⟨5, rfl⟩, ⟨6, rfl⟩, trivial⟩), hM⟩
            · rintro a w ⟨out4019, clashes4023, v4020, cl4021, v4024, cl4025, hS, hM⟩
              unfold branch_Merge_j2 at hM
              refine r_list ?_
              refine wl rfl (ky (v := .int .i64 (IntKind.i64.wrap (g3346 + 1))) hS (y_int hS rfl rfl rfl) rfl rfl fun a hS => ?_)
              refine wl rfl (ky (v := .int .i64 (IntKind.i64.wrap (g3346 + 1))) hS (y_move hS rfl) rfl rfl fun a hS => ?_)
              refine wpList_nil ?_
              try simp only [Exit.then, Exit.inBlock, ↓reduceIte, Nat.reduceEqDiff]
              exact ⟨(out4019, clashes4023, IntKind.i64.wrap (g3346 + 1)), (Option.some.inj hM).symm, out4019, clashes4023, (IntKind.i64.wrap (g3346 + 1)), v4020, cl4021, v4024, cl4025, rfl, (hS.meet [0, 1, 2, 3, 4, 5] (by decide) ⟨rfl, rfl, rfl, rfl, rfl, rfl, rfl, rfl, trivial⟩ ⟨rfl, rfl, rfl, rfl, rfl, rfl, trivial⟩ ⟨⟨0, rfl⟩, ⟨1, rfl⟩, ⟨2, rfl⟩, ⟨3, rfl⟩, ⟨4, rfl⟩, ⟨5, rfl⟩, ⟨6, rfl⟩, trivial⟩)⟩
          · replace hM := cf hb3801 hM
            refine c_f hS rfl hb3801 ?_
            refine wp_exit ?_
            try simp only [Exit.then, Exit.inBlock, ↓reduceIte, Nat.reduceEqDiff]
            injection hM with hM
            subst hM
            have hr := hf1 _ rfl
            subst hr
            have hM : branch_Merge_j1 out3338 clashes3342 = some y := hMo1
            exact ⟨out3338, clashes3342, v3339, cl3340, v3343, cl3344, (hS.meet [3, 4] (by decide) ⟨rfl, rfl, trivial⟩ ⟨rfl, rfl, trivial⟩ ⟨⟨3, rfl⟩, ⟨4, rfl⟩, ⟨6, rfl⟩, trivial⟩), hM⟩
        · rintro a w ⟨out2860, clashes2864, v2861, cl2862, v2865, cl2866, hS, hM⟩
          unfold branch_Merge_j1 at hM
          refine wp_seq_k fun K100 hK100 => ?_
          refine wp_block ?_
          refine wp_seq_k fun K101 hK101 => ?_
          refine r_list ?_
          refine wl rfl (ky (v := v2861) hS (y_move hS rfl) rfl rfl fun a hS => ?_)
          refine wl rfl (ky (v := .int .i64 (out2860.length : Int)) hS (y_leno (R := R_ChangeD) (xs := out2860) hS sl79 rfl 0 rfl 0 rfl) rfl rfl fun a hS => ?_)
          refine wl rfl (ky (v := .bool (decide ((64 : Int) < (out2860.length : Int)))) hS (y_int hS rfl rfl rfl) rfl rfl fun a hS => ?_)
          refine wl rfl (ky (v := .bool (decide ((64 : Int) < (out2860.length : Int)))) hS (y_assign hS rfl) rfl rfl fun a hS => ?_)
          refine wpList_nil ?_
          try simp only [Exit.then, Exit.inBlock, ↓reduceIte, Nat.reduceEqDiff]
          refine hK101 _ _ ?_
          rcases bool2 (decide ((64 : Int) < (out2860.length : Int))) with hb2868 | hb2868
          · replace hM := ct hb2868 hM
            refine c_t hS rfl hb2868 ?_
            refine wp_seq_k fun K102 hK102 => ?_
            refine r_list ?_
            refine wl rfl (ky (v := .slice none 0 0) hS (y_assign hS rfl) rfl rfl fun a hS => ?_)
            refine wl rfl (ky (v := .slice none 0 0) hS (y_assign hS rfl) rfl rfl fun a hS => ?_)
            refine wl rfl (ky (v := .int .i64 45) hS (y_assign hS rfl) rfl rfl fun a hS => ?_)
            refine wpList_nil ?_
            try simp only [Exit.then, Exit.inBlock, ↓reduceIte, Nat.reduceEqDiff]
            refine hK102 _ _ ?_
            refine wp_ret ?_
            injection hM with hM
            subst hM
            try simp only [Exit.then, Exit.inBlock, ↓reduceIte, Nat.reduceEqDiff]
            refine ret_ok hS Tryd.results47 (res_tmp hS rfl (res_tmp hS rfl (res_tmp hS rfl res_nil))) ?_
            exact ⟨.slice none 0 0, [], .slice none 0 0, [], rfl, ret_nil _ _ _ _ _ _, ret_nil _ _ _ _ _ _, (fun k h => by simp [Value.ownBlock] at *)⟩
          · replace hM := cf hb2868 hM
            refine c_f hS rfl hb2868 ?_
            refine wp_seq_k fun K103 hK103 => ?_
            refine r_list ?_
            refine wl rfl (ky (v := v2865) hS (y_move hS rfl) rfl rfl fun a hS => ?_)
            refine wl rfl (ky (v := .int .i64 (clashes2864.length : Int)) hS (y_leno (R := R_KeyD) (xs := clashes2864) hS sl22 rfl 1 rfl 1 rfl) rfl rfl fun a hS => ?_)
            refine wl rfl (ky (v := .bool (decide ((0 : Int) < (clashes2864.length : Int)))) hS (y_int hS rfl rfl rfl) rfl rfl fun a hS => ?_)
            refine wl rfl (ky (v := .bool (decide ((0 : Int) < (clashes2864.length : Int)))) hS (y_assign hS rfl) rfl rfl fun a hS => ?_)
            refine wpList_nil ?_
            try simp only [Exit.then, Exit.inBlock, ↓reduceIte, Nat.reduceEqDiff]
            refine hK103 _ _ ?_
            rcases bool2 (decide ((0 : Int) < (clashes2864.length : Int))) with hb2869 | hb2869
            · replace hM := ct hb2869 hM
              refine c_t hS rfl hb2869 ?_
              refine wp_seq_k fun K104 hK104 => ?_
              refine r_list ?_
              refine wl rfl (ky (v := v2861) hS (y_move hS rfl) rfl rfl fun a hS => ?_)
              refine wl rfl (ky (v := v2865) hS (y_move hS rfl) rfl rfl fun a hS => ?_)
              refine wl rfl (ky (v := v2861) hS (y_assign hS rfl) rfl rfl fun a hS => ?_)
              refine wl rfl (ky (v := v2865) hS (y_assign hS rfl) rfl rfl fun a hS => ?_)
              refine wl rfl (ky (v := .int .i64 49) hS (y_assign hS rfl) rfl rfl fun a hS => ?_)
              refine wpList_nil ?_
              try simp only [Exit.then, Exit.inBlock, ↓reduceIte, Nat.reduceEqDiff]
              refine hK104 _ _ ?_
              refine wp_ret ?_
              injection hM with hM
              subst hM
              try simp only [Exit.then, Exit.inBlock, ↓reduceIte, Nat.reduceEqDiff]
              refine ret_ok hS Tryd.results47 (res_tmp hS rfl (res_tmp hS rfl (res_tmp hS rfl res_nil))) ?_
              exact ⟨v2861, cl2862, v2865, cl2866, rfl, hS.retOwn ⟨.inr (List.mem_of_getElem? (i := 0) rfl), ⟨.inr (List.mem_of_getElem? (i := 1) rfl), trivial⟩⟩ 0 rfl 0 rfl, hS.retOwn ⟨.inr (List.mem_of_getElem? (i := 0) rfl), ⟨.inr (List.mem_of_getElem? (i := 1) rfl), trivial⟩⟩ 1 rfl 1 rfl, (hS.apart2 0 rfl 1 rfl (by decide))⟩
            · replace hM := cf hb2869 hM
              refine c_f hS rfl hb2869 ?_
              refine wp_skip ?_
              try simp only [Exit.then, Exit.inBlock, ↓reduceIte, Nat.reduceEqDiff]
              refine hK100 _ _ ?_
              refine wp_seq_k fun K105 hK105 => ?_
              refine r_list ?_
              refine wl rfl (ky (v := v2861) hS (y_move hS rfl) rfl rfl fun a hS => ?_)
              refine wl rfl (ky (v := v2861) hS (y_assign hS rfl) rfl rfl fun a hS => ?_)
              refine wl rfl (ky (v := .slice none 0 0) hS (y_assign hS rfl) rfl rfl fun a hS => ?_)
              refine wl rfl (ky (v := .int .i64 0) hS (y_assign hS rfl) rfl rfl fun a hS => ?_)
              refine wpList_nil ?_
              try simp only [Exit.then, Exit.inBlock, ↓reduceIte, Nat.reduceEqDiff]
              refine hK105 _ _ ?_
              refine wp_ret ?_
              injection hM with hM
              subst hM
              try simp only [Exit.then, Exit.inBlock, ↓reduceIte, Nat.reduceEqDiff]
              refine ret_ok hS Tryd.results47 (res_tmp hS rfl (res_tmp hS rfl (res_tmp hS rfl res_nil))) ?_
              exact ⟨v2861, cl2862, .slice none 0 0, [], rfl, hS.retOwn ⟨.inr (List.mem_of_getElem? (i := 0) rfl), ⟨.inl rfl, trivial⟩⟩ 0 rfl 0 rfl, ret_nil _ _ _ _ _ _, (fun k h => by simp [Value.ownBlock] at *)⟩

noncomputable def ref39_Same_j1 : Option Bool := some (true)
noncomputable def ref39_Same_l2 (a_0 : (List ChangeD)) (b_1 : (List ChangeD)) (g214 : Int) : Option (Fl (Int) (Fl (Unit) Bool)) := cond (decide ((g214 : Int) < (a_0.length : Int))) ((getI a_0 g214).bind fun e256 => (getI b_1 g214).bind fun e286 => cond (!((e286.Key.Kind : Int) == e256.Key.Kind && e286.Key.Text.toList == e256.Key.Text.toList && e286.Value.toList == e256.Value.toList)) (some (.out (.out false))) (some (.go (IntKind.i64.wrap (g214 + 1))))) (some (.out (.go ())))
noncomputable def ref39_Same (a_0 : (List ChangeD)) (b_1 : (List ChangeD)) : Option Bool := cond (((a_0.length : Int) : Int) != (b_1.length : Int)) (some (false)) ((loop (fun s : Int => ref39_Same_l2 a_0 b_1 s) 0).bind fun r => Fl.el r (fun s => ref39_Same_j1) (fun y => some (y)))
set_option maxRecDepth 100000 in
set_option maxHeartbeats 4000000 in
theorem ref39_Same_c (T : Nat → Prop) (W0 : World) (hT : ∀ k, T k → k < W0.heap.size) (a_0 : (List ChangeD)) (b_1 : (List ChangeD)) (v1 : Value) (v2 : Value) (hv1 : SlR R_ChangeD T W0 v1 a_0) (hv2 : SlR R_ChangeD T W0 v2 b_1) (y : Bool) (hM : ref39_Same a_0 b_1 = some y) : Rets Tryd.prog No 48 [v1, v2] W0 (fun v w' => v = .bool y) := by
  refine enter (c := _) Tryd.func48 rfl T 26 Tryd.ntmps48 hT rfl fun a hS => ?_
  replace hS := hS.fact (SlF R_ChangeD v1 a_0) (SlR.dn hv1)
  replace hS := hS.fact (SlF R_ChangeD v2 b_1) (SlR.dn hv2)
  unfold ref39_Same at hM
  refine wp_seq_k fun K20 hK20 => ?_
  refine r_list ?_
  refine wl rfl (ky (v := .bool false) hS (y_assign hS rfl) rfl rfl fun a hS => ?_)
  refine wpList_nil ?_
  try simp only [Exit.then, Exit.inBlock, ↓reduceIte, Nat.reduceEqDiff]
  refine hK20 _ _ ?_
  refine wp_seq_k fun K21 hK21 => ?_
  refine wp_seq_k fun K22 hK22 => ?_
  refine r_list ?_
  refine wl rfl (ky (v := v1) hS (y_move hS rfl) rfl rfl fun a hS => ?_)
  refine wl rfl (ky (v := .int .i64 (a_0.length : Int)) hS (y_len (R := R_ChangeD) (xs := a_0) hS sl79 rfl 1 rfl) rfl rfl fun a hS => ?_)
  refine wl rfl (ky (v := v2) hS (y_move hS rfl) rfl rfl fun a hS => ?_)
  refine wl rfl (ky (v := .int .i64 (b_1.length : Int)) hS (y_len (R := R_ChangeD) (xs := b_1) hS sl79 rfl 0 rfl) rfl rfl fun a hS => ?_)
  refine wl rfl (ky (v := .bool (((a_0.length : Int) : Int) != (b_1.length : Int))) hS (y_int hS rfl rfl rfl) rfl rfl fun a hS => ?_)
  refine wpList_nil ?_
  try simp only [Exit.then, Exit.inBlock, ↓reduceIte, Nat.reduceEqDiff]
  refine hK22 _ _ ?_
  rcases bool2 (((a_0.length : Int) : Int) != (b_1.length : Int)) with hb92 | hb92
  · replace hM := ct hb92 hM
    refine c_t hS rfl hb92 ?_
    refine wp_seq_k fun K23 hK23 => ?_
    refine r_list ?_
    refine wl rfl (ky (v := .bool false) hS (y_assign hS rfl) rfl rfl fun a hS => ?_)
    refine wpList_nil ?_
    try simp only [Exit.then, Exit.inBlock, ↓reduceIte, Nat.reduceEqDiff]
    refine hK23 _ _ ?_
    refine wp_ret ?_
    injection hM with hM
    subst hM
    try simp only [Exit.then, Exit.inBlock, ↓reduceIte, Nat.reduceEqDiff]
    refine ret_ok hS Tryd.results48 (res_tmp hS rfl res_nil) ?_
    exact rfl
  · replace hM := cf hb92 hM
    refine c_f hS rfl hb92 ?_
    refine wp_skip ?_
    try simp only [Exit.then, Exit.inBlock, ↓reduceIte, Nat.reduceEqDiff]
    refine hK21 _ _ ?_
    refine seq_j (J := fun a w => St W0 No T 26 [] [] [] a w ∧ ref39_Same_j1 = some y) ?_ ?_
    · skip
      refine wp_seq_k fun K38 hK38 => ?_
      refine r_list ?_
      refine wl rfl (ky (v := v1) hS (y_move hS rfl) rfl rfl fun a hS => ?_)
      refine wl rfl (ky (v := .int .i64 (a_0.length : Int)) hS (y_len (R := R_ChangeD) (xs := a_0) hS sl79 rfl 1 rfl) rfl rfl fun a hS => ?_)
      refine wl rfl (ky (v := .int .i64 0) hS (y_move hS rfl) rfl rfl fun a hS => ?_)
      refine wpList_nil ?_
      try simp only [Exit.then, Exit.inBlock, ↓reduceIte, Nat.reduceEqDiff]
      refine hK38 _ _ ?_
      refine wp_block ?_
      obtain ⟨r1, hl1, hMo1⟩ := bd hM
      refine wp_lp (fun s : Int => ref39_Same_l2 a_0 b_1 s) (fun s a w => ∃ (g214 : Int), g214 = s ∧ St W0 No T 26 [(1, v2), (12, v1), (13, .int .i64 (a_0.length : Int)), (14, .int .i64 g214)] [] [SlF R_ChangeD v2 b_1, SlF R_ChangeD v1 a_0] a w) hl1 ⟨0, rfl, (hS.meet [] (by decide) ⟨rfl, rfl, rfl, rfl, trivial⟩ trivial ⟨⟨0, rfl⟩, ⟨1, rfl⟩, trivial⟩)⟩ ?_
      rintro s a w f1 ⟨g214, rfl, hS⟩ hM hf1
      have hM : ref39_Same_l2 a_0 b_1 g214 = some f1 := hM
      unfold ref39_Same_l2 at hM
      refine wp_seq_k fun K51 hK51 => ?_
      refine r_list ?_
      refine wl rfl (ky (v := .bool (decide ((g214 : Int) < (a_0.length : Int)))) hS (y_int hS rfl rfl rfl) rfl rfl fun a hS => ?_)
      refine wpList_nil ?_
      try simp only [Exit.then, Exit.inBlock, ↓reduceIte, Nat.reduceEqDiff]
      refine hK51 _ _ ?_
      refine wp_seq_k fun K52 hK52 => ?_
      rcases bool2 (decide ((g214 : Int) < (a_0.length : Int))) with hb255 | hb255
      · replace hM := ct hb255 hM
        refine c_t hS rfl hb255 ?_
        refine wp_skip ?_
        try simp only [Exit.then, Exit.inBlock, ↓reduceIte, Nat.reduceEqDiff]
        refine hK52 _ _ ?_
        refine wp_seq_k fun K53 hK53 => ?_
        refine wp_block ?_
        refine wp_seq_k fun K54 hK54 => ?_
        refine r_list ?_
        refine wl rfl (ky (v := .int .i64 g214) hS (y_move hS rfl) rfl rfl fun a hS => ?_)
        obtain ⟨e256, he256, hM⟩ := bd hM
        refine wl rfl (k_index (R := R_ChangeD) hS sl79 ty88 rfl rfl 1 rfl he256 rfl fun b257 o258 cs260 hr259 a hS => ?_)
        obtain rfl := hr259
        refine wl rfl (ky (v := .agg #[.int .i64 e256.Key.Kind, .string e256.Key.Text, .string e256.Value]) hS (y_loadc (k := 0) hS ty88 0 rfl rfl (fun _ h => h.elim) (us := [.int .i64 e256.Key.Kind, .string e256.Key.Text, .string e256.Value]) rfl rfl (fun h => by cases h)) rfl rfl fun a hS => ?_)
        refine wl rfl (k_alloc hS ze88 rfl fun b262 hnb264 a w hk hS => ?_)
        refine wl rfl (ky (v := .int .i64 g214) hS (y_assign hS rfl) rfl rfl fun a hS => ?_)
        refine wl rfl (k_store hS rfl rfl (us := [.int .i64 e256.Key.Kind, .string e256.Key.Text, .string e256.Value]) rfl ty88 0 rfl rfl rfl (oc rfl (oc rfl (oc rfl on))) fun w hk hS => ?_)
        refine wpList_nil ?_
        try simp only [Exit.then, Exit.inBlock, ↓reduceIte, Nat.reduceEqDiff]
        refine hK54 _ _ ?_
        refine wp_seq_k fun K55 hK55 => ?_
        refine draws [] hS mixed rfl (fun c a d v w h => by cases d <;> exact h) fun w hQ hS => ?_
        refine dy 0 (v := v2) rfl (by kernel_rfl) (by kernel_rfl) (by kernel_rfl) rfl hQ hS (y_move hS rfl) rfl rfl rfl fun a hS => ?_
        refine dy 1 (v := .int .i64 g214) rfl (by kernel_rfl) (by kernel_rfl) (by kernel_rfl) rfl hQ hS (y_move hS rfl) rfl rfl rfl fun a hS => ?_
        obtain ⟨e286, he286, hM⟩ := bd hM
        obtain ⟨b287, o288, cs290, hr289, hy292, hS⟩ := d_index (R := R_ChangeD) hS sl79 ty88 1 rfl he286
        obtain rfl := hr289
        refine dy 2 (v := .pointer (some ⟨b287, o288, none⟩)) rfl (by kernel_rfl) (by kernel_rfl) (by kernel_rfl) rfl hQ hS (hy292 rfl rfl) rfl rfl rfl fun a hS => ?_
        refine dy (l := []) 3 (v := .agg #[.int .i64 e286.Key.Kind, .string e286.Key.Text, .string e286.Value]) rfl (by kernel_rfl) (by kernel_rfl) (by kernel_rfl) (by kernel_rfl) hQ hS (y_loadc (k := 0) hS ty88 0 rfl rfl es_nil (us := [.int .i64 e286.Key.Kind, .string e286.Key.Text, .string e286.Value]) rfl rfl (fun h => by cases h)) rfl rfl rfl fun a hS => ?_
        refine dy (l := []) 4 (v := .agg #[.int .i64 e256.Key.Kind, .string e256.Key.Text, .string e256.Value]) rfl (by kernel_rfl) (by kernel_rfl) (by kernel_rfl) (by kernel_rfl) hQ hS (y_load hS rfl ty88 0 rfl eo_nil (us := [.int .i64 e256.Key.Kind, .string e256.Key.Text, .string e256.Value]) rfl rfl (fun h => by cases h)) rfl rfl rfl fun a hS => ?_
        refine dy 5 (v := .bool (!((e286.Key.Kind : Int) == e256.Key.Kind && e286.Key.Text.toList == e256.Key.Text.toList && e286.Value.toList == e256.Value.toList))) rfl (by kernel_rfl) (by kernel_rfl) (by kernel_rfl) rfl hQ hS (eq88n hS rfl rfl) rfl rfl rfl fun a hS => ?_
        refine wpE_done (by kernel_rfl) ?_ _
        try simp only [Exit.then, Exit.inBlock, ↓reduceIte, Nat.reduceEqDiff]
        refine hK55 _ _ ?_
        rcases bool2 (!((e286.Key.Kind : Int) == e256.Key.Kind && e286.Key.Text.toList == e256.Key.Text.toList && e286.Value.toList == e256.Value.toList)) with hb293 | hb293
        · replace hM := ct hb293 hM
          refine c_t hS rfl hb293 ?_
          refine wp_seq_k fun K56 hK56 => ?_
          refine r_list ?_
          refine wl rfl (ky (v := .bool false) hS (y_assign hS rfl) rfl rfl fun a hS => ?_)
          refine wpList_nil ?_
          try simp only [Exit.then, Exit.inBlock, ↓reduceIte, Nat.reduceEqDiff]
          refine hK56 _ _ ?_
          refine wp_ret ?_
          injection hM with hM
          subst hM
          have hr := hf1 _ rfl
          subst hr
          replace hMo1 := el_out hMo1
          have hM := hMo1
          injection hM with hM
          subst hM
          try simp only [Exit.then, Exit.inBlock, ↓reduceIte, Nat.reduceEqDiff]
          refine ret_ok hS Tryd.results48 (res_tmp hS rfl res_nil) ?_
          exact rfl
        · replace hM := cf hb293 hM
          refine c_f hS rfl hb293 ?_
          refine wp_skip ?_
          try simp only [Exit.then, Exit.inBlock, ↓reduceIte, Nat.reduceEqDiff]
          refine hK53 _ _ ?_
          refine r_list ?_
          refine wl rfl (ky (v := .int .i64 (IntKind.i64.wrap (g214 + 1))) hS (y_int hS rfl rfl rfl) rfl rfl fun a hS => ?_)
          refine wl rfl (ky (v := .int .i64 (IntKind.i64.wrap (g214 + 1))) hS (y_move hS rfl) rfl rfl fun a hS => ?_)
          refine wpList_nil ?_
          try simp only [Exit.then, Exit.inBlock, ↓reduceIte, Nat.reduceEqDiff]
          exact ⟨IntKind.i64.wrap (g214 + 1), (Option.some.inj hM).symm, (IntKind.i64.wrap (g214 + 1)), rfl, (hS.meet [] (by decide) ⟨rfl, rfl, rfl, rfl, trivial⟩ trivial ⟨⟨2, rfl⟩, ⟨3, rfl⟩, trivial⟩)⟩
      · replace hM := cf hb255 hM
        refine c_f hS rfl hb255 ?_
        refine wp_exit ?_
        try simp only [Exit.then, Exit.inBlock, ↓reduceIte, Nat.reduceEqDiff]
        injection hM with hM
        subst hM
        have hr := hf1 _ rfl
        subst hr
        replace hMo1 := el_go hMo1
        have hM : ref39_Same_j1 = some y := hMo1
        exact ⟨(hS.meet [] (by decide) trivial trivial trivial), hM⟩
    · rintro a w ⟨hS, hM⟩
      unfold ref39_Same_j1 at hM
      refine wp_seq_k fun K37 hK37 => ?_
      refine r_list ?_
      refine wl rfl (ky (v := .bool true) hS (y_assign hS rfl) rfl rfl fun a hS => ?_)
      refine wpList_nil ?_
      try simp only [Exit.then, Exit.inBlock, ↓reduceIte, Nat.reduceEqDiff]
      refine hK37 _ _ ?_
      refine wp_ret ?_
      injection hM with hM
      subst hM
      try simp only [Exit.then, Exit.inBlock, ↓reduceIte, Nat.reduceEqDiff]
      refine ret_ok hS Tryd.results48 (res_tmp hS rfl res_nil) ?_
      exact rfl

noncomputable def branch_Diff_j1 (out897 : (List ChangeD)) : Option (List ChangeD) := some (out897)
noncomputable def branch_Diff_j2 (g1053 : Int) (out1258 : (List ChangeD)) : Option (Fl ((List ChangeD) × Int) ((List ChangeD))) := some (.go (out1258, IntKind.i64.wrap (g1053 + 1)))
noncomputable def branch_Diff_l3 (u600 : (List (KeyD × ByteArray))) (u603 : (List (KeyD × ByteArray))) (u903 : (List KeyD)) (out1049 : (List ChangeD)) (g1053 : Int) : Option (Fl ((List ChangeD) × Int) ((List ChangeD))) := cond (decide ((g1053 : Int) < (u903.length : Int))) ((getI u903 g1053).bind fun e1262 => (some ((mget keq_KeyD e1262 u600).getD (ByteArray.mk #[]))).bind fun u1297 => (some ((mget keq_KeyD e1262 u603).getD (ByteArray.mk #[]))).bind fun u1301 => cond (!(u1297.toList == u1301.toList)) ((some ((mget keq_KeyD e1262 u603).getD (ByteArray.mk #[]))).bind fun u1316 => gd (roomB (out1049.length + ([(ChangeD.mk e1262 u1316)]).length)) <| branch_Diff_j2 g1053 (out1049 ++ ([(ChangeD.mk e1262 u1316)]))) (branch_Diff_j2 g1053 out1049)) (some (.out out1049))
noncomputable def branch_Diff (from_0 : (List ChangeD)) (to_1 : (List ChangeD)) : Option (List ChangeD) := (branch_values from_0).bind fun u600 => (branch_values to_1).bind fun u603 => (branch_keys ([from_0, to_1])).bind fun u903 => (loop (fun s : (List ChangeD) × Int => branch_Diff_l3 u600 u603 u903 s.1 s.2) (([] : List ChangeD), 0)).bind fun r => branch_Diff_j1 r
set_option maxRecDepth 100000 in
set_option maxHeartbeats 4000000 in
theorem branch_Diff_c (T : Nat → Prop) (W0 : World) (hT : ∀ k, T k → k < W0.heap.size) (hLv : LvP T W0) (from_0 : (List ChangeD)) (to_1 : (List ChangeD)) (v1 : Value) (v2 : Value) (hv1 : SlR R_ChangeD T W0 v1 from_0) (hv2 : SlR R_ChangeD T W0 v2 to_1) (y : (List ChangeD)) (hM : branch_Diff from_0 to_1 = some y) : Rets Tryd.prog No 49 [v1, v2] W0 (fun v w' => ∃ (v3 : Value) (cl4 : List Value), v = v3 ∧ OwnR R_ChangeD T W0 w' [.own v3 88 R_ChangeD.size cl4] 88 v3 cl4 y) := by
  refine enter (c := _) Tryd.func49 rfl T 40 Tryd.ntmps49 hT rfl fun a hS => ?_
  replace hS := hS.fact LvF (LvP.dn hLv)
  replace hS := hS.fact (SlF R_ChangeD v1 from_0) (SlR.dn hv1)
  replace hS := hS.fact (SlF R_ChangeD v2 to_1) (SlR.dn hv2)
  unfold branch_Diff at hM
  refine wp_seq_k fun K31 hK31 => ?_
  refine r_list ?_
  refine wl rfl (ky (v := .slice none 0 0) hS (y_assign hS rfl) rfl rfl fun a hS => ?_)
  refine wpList_nil ?_
  try simp only [Exit.then, Exit.inBlock, ↓reduceIte, Nat.reduceEqDiff]
  refine hK31 _ _ ?_
  refine wp_seq_k fun K32 hK32 => ?_
  refine r_list ?_
  refine wl rfl (ky (v := v1) hS (y_move hS rfl) rfl rfl fun a hS => ?_)
  obtain ⟨u600, hu600, hM⟩ := bd hM
  refine wl rfl (k_call hS ci78 rfl rfl (branch_values_c _ _ hS.dlt from_0 _ (hS.get 1 rfl) _ hu600) fun _ w hR a hk hA => ?_)
  obtain ⟨bz601_2, esz601_3, ckz601_4, he, ⟨hObz601_2, hFbz601_2, hRbz601_2⟩⟩ := hR
  replace he := he.symm
  subst he
  have hS := hA [.obj bz601_2 (.map esz601_3 ckz601_4)] (adds1 hObz601_2 (obj_new hFbz601_2)) (pw1 _)
  replace hS := hS.fact (MapF R_KeyD true Rep.str false esz601_3 u600) (hRbz601_2.keep (Kt.refl _ _) (dT_dT _))
  refine wl rfl (ky (v := v2) hS (y_move hS rfl) rfl rfl fun a hS => ?_)
  obtain ⟨u603, hu603, hM⟩ := bd hM
  refine wl rfl (k_call hS ci78 rfl rfl (branch_values_c _ _ hS.dlt to_1 _ (hS.get 1 rfl) _ hu603) fun _ w hR a hk hA => ?_)
  obtain ⟨bz604_2, esz604_3, ckz604_4, he, ⟨hObz604_2, hFbz604_2, hRbz604_2⟩⟩ := hR
  replace he := he.symm
  subst he
  have hS := hA [.obj bz604_2 (.map esz604_3 ckz604_4)] (adds1 hObz604_2 (obj_new hFbz604_2)) (pw1 _)
  replace hS := hS.fact (MapF R_KeyD true Rep.str false esz604_3 u603) (hRbz604_2.keep (Kt.refl _ _) (dT_dT _))
  refine wl rfl (ky (v := .map (some bz601_2)) hS (y_assign hS rfl) rfl rfl fun a hS => ?_)
  refine wl rfl (ky (v := .map (some bz604_2)) hS (y_assign hS rfl) rfl rfl fun a hS => ?_)
  refine wpList_nil ?_
  try simp only [Exit.then, Exit.inBlock, ↓reduceIte, Nat.reduceEqDiff]
  refine hK32 _ _ ?_
  refine wp_seq_k fun K33 hK33 => ?_
  refine r_list ?_
  refine wl rfl (ky (v := .slice none 0 0) hS (y_assign hS rfl) rfl rfl fun a hS => ?_)
  refine wpList_nil ?_
  try simp only [Exit.then, Exit.inBlock, ↓reduceIte, Nat.reduceEqDiff]
  refine hK33 _ _ ?_
  refine seq_j (J := fun a w => ∃ (out897 : (List ChangeD)) (v898 : Value) (cl899 : (List Value)), St W0 No T 40 [(7, v898)] [.own v898 88 R_ChangeD.size cl899] [RowsF R_ChangeD cl899 out897, LvF] a w ∧ branch_Diff_j1 out897 = some y) ?_ ?_
  · skip
    refine wp_seq_k fun K48 hK48 => ?_
    refine r_list ?_
    refine wl rfl (ky (v := v1) hS (y_move hS rfl) rfl rfl fun a hS => ?_)
    refine wl rfl (ky (v := v2) hS (y_move hS rfl) rfl rfl fun a hS => ?_)
    refine wl rfl (k_bslice (ps := [(0, .tmp 14), (1, .tmp 15)]) hS el86 ze79 (zl := [.slice none 0 0, .slice none 0 0]) (by kernel_rfl) rfl (us := [[v1], [v2]]) ⟨(cells1 (SlR.one ((hS.get 3 rfl) : SlR R_ChangeD _ _ _ _))), ⟨(cells1 (SlR.one ((hS.get 2 rfl) : SlR R_ChangeD _ _ _ _))), trivial⟩⟩ (ws := [v1, v2]) rfl rfl rfl rfl fun b901 a w hk hS => ?_)
    replace hS := hS.lit (R := (Rep.slice R_ChangeD)) (us := [v1, v2]) (xs := [from_0, to_1]) 0 rfl (by decide) ((RowsOk.one_ (R := (Rep.slice R_ChangeD)) (x := from_0) (⟨_, rfl, (hS.get 3 rfl)⟩)).append (RowsOk.one_ (R := (Rep.slice R_ChangeD)) (x := to_1) (⟨_, rfl, (hS.get 2 rfl)⟩))) rfl rfl
    have hL := hS
    replace hL := hL.freeze (R := (Rep.slice R_ChangeD)) 0 rfl 0 rfl
    obtain ⟨u903, hu903, hM⟩ := bd hM
    refine wl rfl (k_call hS ci79 rfl rfl (branch_keys_c _ _ hL.dlt (hL.get 6 rfl) ([from_0, to_1]) _ (hL.get 0 rfl) _ hu903) fun _ w hR a hk hA => ?_)
    obtain ⟨vz904_2, clz904_3, he, ⟨hOvz904_2, hFvz904_2, hRvz904_2⟩⟩ := hR
    replace he := he.symm
    subst he
    have hS := hA [.own vz904_2 26 R_KeyD.size clz904_3] (adds1 ⟨hOvz904_2, by decide⟩ hFvz904_2) (pw1 _)
    replace hS := hS.fact (RowsF R_KeyD clz904_3 u903) hRvz904_2
    refine wl rfl (ky (v := .int .i64 (u903.length : Int)) hS (y_leno (R := R_KeyD) (xs := u903) hS sl22 rfl 0 rfl 0 rfl) rfl rfl fun a hS => ?_)
    refine wl rfl (ky (v := .int .i64 0) hS (y_move hS rfl) rfl rfl fun a hS => ?_)
    refine wpList_nil ?_
    try simp only [Exit.then, Exit.inBlock, ↓reduceIte, Nat.reduceEqDiff]
    refine hK48 _ _ ?_
    refine wp_block ?_
    replace hS := hS.nilRow R_ChangeD 88 (by decide)
    obtain ⟨r1, hl1, hMo1⟩ := bd hM
    refine wp_lp (fun s : (List ChangeD) × Int => branch_Diff_l3 u600 u603 u903 s.1 s.2) (fun s a w => ∃ (out1049 : (List ChangeD)) (g1053 : Int) (v1050 : Value) (cl1051 : (List Value)), (out1049, g1053) = s ∧ St W0 No T 40 [(5, .map (some bz601_2)), (6, .map (some bz604_2)), (7, v1050), (17, vz904_2), (18, .int .i64 (u903.length : Int)), (19, .int .i64 g1053)] [.obj bz601_2 (.map esz601_3 ckz601_4), .obj bz604_2 (.map esz604_3 ckz604_4), .own v1050 88 R_ChangeD.size cl1051, .own vz904_2 26 R_KeyD.size clz904_3] [MapF R_KeyD true Rep.str false esz601_3 u600, MapF R_KeyD true Rep.str false esz604_3 u603, RowsF R_ChangeD cl1051 out1049, RowsF R_KeyD clz904_3 u903, LvF] a w) hl1 ⟨([] : List ChangeD), 0, (.slice none 0 0), ([]), rfl, (hS.meet [4, 3, 0, 1] (by decide) ⟨rfl, rfl, rfl, rfl, rfl, rfl, trivial⟩ ⟨rfl, rfl, rfl, rfl, trivial⟩ ⟨⟨4, rfl⟩, ⟨3, rfl⟩, ⟨0, rfl⟩, ⟨1, rfl⟩, ⟨7, rfl⟩, trivial⟩)⟩ ?_
    rintro s a w f1 ⟨out1049, g1053, v1050, cl1051, rfl, hS⟩ hM hf1
    have hM : branch_Diff_l3 u600 u603 u903 out1049 g1053 = some f1 := hM
    unfold branch_Diff_l3 at hM
    refine wp_seq_k fun K61 hK61 => ?_
    refine r_list ?_
    refine wl rfl (ky (v := .bool (decide ((g1053 : Int) < (u903.length : Int)))) hS (y_int hS rfl rfl rfl) rfl rfl fun a hS => ?_)
    refine wpList_nil ?_
    try simp only [Exit.then, Exit.inBlock, ↓reduceIte, Nat.reduceEqDiff]
    refine hK61 _ _ ?_
    refine wp_seq_k fun K62 hK62 => ?_
    rcases bool2 (decide ((g1053 : Int) < (u903.length : Int))) with hb1193 | hb1193
    · replace hM := ct hb1193 hM
      refine c_t hS rfl hb1193 ?_
      refine wp_skip ?_
      try simp only [Exit.then, Exit.inBlock, ↓reduceIte, Nat.reduceEqDiff]
      refine hK62 _ _ ?_
      refine seq_j (J := fun a w => ∃ (out1258 : (List ChangeD)) (v1259 : Value) (cl1260 : (List Value)), St W0 No T 40 [(5, .map (some bz601_2)), (6, .map (some bz604_2)), (7, v1259), (17, vz904_2), (18, .int .i64 (u903.length : Int)), (19, .int .i64 g1053)] [.obj bz601_2 (.map esz601_3 ckz601_4), .obj bz604_2 (.map esz604_3 ckz604_4), .own v1259 88 R_ChangeD.size cl1260, .own vz904_2 26 R_KeyD.size clz904_3] [MapF R_KeyD true Rep.str false esz601_3 u600, MapF R_KeyD true Rep.str false esz604_3 u603, RowsF R_ChangeD cl1260 out1258, RowsF R_KeyD clz904_3 u903, LvF] a w ∧ branch_Diff_j2 g1053 out1258 = some f1) ?_ ?_
      · skip
        refine wp_block ?_
        refine wp_seq_k fun K65 hK65 => ?_
        refine r_list ?_
        obtain ⟨e1262, he1262, hM⟩ := bd hM
        refine wl rfl (k_indexo (R := R_KeyD) hS sl22 ty26 rfl rfl 3 rfl 3 rfl he1262 rfl fun b1263 o1264 p1269 cs1266 hr1265 hO1267 hC1268 a hS => ?_)
        obtain rfl := hr1265
        refine wl rfl (ky (v := .agg #[.int .i64 e1262.Kind, .string e1262.Text]) hS (y_loado (k := 0) hS ty26 3 rfl hO1267 hC1268 rfl id (us := [.int .i64 e1262.Kind, .string e1262.Text]) rfl rfl (fun h => by cases h)) rfl rfl fun a hS => ?_)
        refine wl rfl (k_alloc hS ze26 rfl fun b1270 hnb1272 a w hk hS => ?_)
        refine wl rfl (k_store hS rfl rfl (us := [.int .i64 e1262.Kind, .string e1262.Text]) rfl ty26 0 rfl rfl rfl (oc rfl (oc rfl on)) fun w hk hS => ?_)
        refine wpList_nil ?_
        try simp only [Exit.then, Exit.inBlock, ↓reduceIte, Nat.reduceEqDiff]
        refine hK65 _ _ ?_
        refine wp_seq_k fun K66 hK66 => ?_
        refine draws [] hS mixed rfl (fun c a d v w h => by cases d <;> exact h) fun w hQ hS => ?_
        refine dy 0 (v := .map (some bz601_2)) rfl (by kernel_rfl) (by kernel_rfl) (by kernel_rfl) rfl hQ hS (y_move hS rfl) rfl rfl rfl fun a hS => ?_
        refine dy (l := []) 1 (v := .agg #[.int .i64 e1262.Kind, .string e1262.Text]) rfl (by kernel_rfl) (by kernel_rfl) (by kernel_rfl) (by kernel_rfl) hQ hS (y_load hS rfl ty26 0 rfl eo_nil (us := [.int .i64 e1262.Kind, .string e1262.Text]) rfl rfl (fun h => by cases h)) rfl rfl rfl fun a hS => ?_
        obtain ⟨u1297, hu1297, hM⟩ := bd hM
        obtain ⟨cv1298, hr1299, hy1300⟩ := d_looku hS mp84 kt_KeyD 1 rfl 0 rfl (c := [.int .i64 e1262.Kind, .string e1262.Text]) (key := e1262) rfl zv9 (zc := [.string (ByteArray.mk #[])]) rfl rfl hu1297
        obtain rfl := hr1299
        refine dy (l := []) 2 (v := .string u1297) rfl (by kernel_rfl) (by kernel_rfl) (by kernel_rfl) (by kernel_rfl) hQ hS (hy1300 rfl rfl eo_nil) rfl rfl rfl fun a hS => ?_
        refine dy 3 (v := .map (some bz604_2)) rfl (by kernel_rfl) (by kernel_rfl) (by kernel_rfl) rfl hQ hS (y_move hS rfl) rfl rfl rfl fun a hS => ?_
        refine dy (l := []) 4 (v := .agg #[.int .i64 e1262.Kind, .string e1262.Text]) rfl (by kernel_rfl) (by kernel_rfl) (by kernel_rfl) (by kernel_rfl) hQ hS (y_load hS rfl ty26 0 rfl eo_nil (us := [.int .i64 e1262.Kind, .string e1262.Text]) rfl rfl (fun h => by cases h)) rfl rfl rfl fun a hS => ?_
        obtain ⟨u1301, hu1301, hM⟩ := bd hM
        obtain ⟨cv1302, hr1303, hy1304⟩ := d_looku hS mp84 kt_KeyD 2 rfl 1 rfl (c := [.int .i64 e1262.Kind, .string e1262.Text]) (key := e1262) rfl zv9 (zc := [.string (ByteArray.mk #[])]) rfl rfl hu1301
        obtain rfl := hr1303
        refine dy (l := []) 5 (v := .string u1301) rfl (by kernel_rfl) (by kernel_rfl) (by kernel_rfl) (by kernel_rfl) hQ hS (hy1304 rfl rfl eo_nil) rfl rfl rfl fun a hS => ?_
        refine dy 6 (v := .bool (!(u1297.toList == u1301.toList))) rfl (by kernel_rfl) (by kernel_rfl) (by kernel_rfl) rfl hQ hS (y_str hS rfl rfl rfl) rfl rfl rfl fun a hS => ?_
        refine wpE_done (by kernel_rfl) ?_ _
        try simp only [Exit.then, Exit.inBlock, ↓reduceIte, Nat.reduceEqDiff]
        refine hK66 _ _ ?_
        rcases bool2 (!(u1297.toList == u1301.toList)) with hb1305 | hb1305
        · replace hM := ct hb1305 hM
          refine c_t hS rfl hb1305 ?_
          refine draws [(7, .blk (Value.ownBlock v1050))] hS mixed rfl (fun c a d v w h => by cases d <;> exact h) fun w hQ hS => ?_
          refine dy 0 (v := v1050) rfl (by kernel_rfl) (by kernel_rfl) (by kernel_rfl) rfl hQ hS (y_move hS rfl) rfl rfl rfl fun a hS => ?_
          refine dy (l := []) 1 (v := .agg #[.int .i64 e1262.Kind, .string e1262.Text]) rfl (by kernel_rfl) (by kernel_rfl) (by kernel_rfl) (by kernel_rfl) hQ hS (y_load hS rfl ty26 0 rfl eo_nil (us := [.int .i64 e1262.Kind, .string e1262.Text]) rfl rfl (fun h => by cases h)) rfl rfl rfl fun a hS => ?_
          refine dy 2 (v := .map (some bz604_2)) rfl (by kernel_rfl) (by kernel_rfl) (by kernel_rfl) rfl hQ hS (y_move hS rfl) rfl rfl rfl fun a hS => ?_
          refine dy (l := []) 3 (v := .agg #[.int .i64 e1262.Kind, .string e1262.Text]) rfl (by kernel_rfl) (by kernel_rfl) (by kernel_rfl) (by kernel_rfl) hQ hS (y_load hS rfl ty26 0 rfl eo_nil (us := [.int .i64 e1262.Kind, .string e1262.Text]) rfl rfl (fun h => by cases h)) rfl rfl rfl fun a hS => ?_
          obtain ⟨u1316, hu1316, hM⟩ := bd hM
          obtain ⟨cv1317, hr1318, hy1319⟩ := d_looku hS mp84 kt_KeyD 2 rfl 1 rfl (c := [.int .i64 e1262.Kind, .string e1262.Text]) (key := e1262) rfl zv9 (zc := [.string (ByteArray.mk #[])]) rfl rfl hu1316
          obtain rfl := hr1318
          refine dy (l := []) 4 (v := .string u1316) rfl (by kernel_rfl) (by kernel_rfl) (by kernel_rfl) (by kernel_rfl) hQ hS (hy1319 rfl rfl eo_nil) rfl rfl rfl fun a hS => ?_
          refine dy 5 (v := .agg #[.int .i64 e1262.Kind, .string e1262.Text, .string u1316]) rfl (by kernel_rfl) (by kernel_rfl) (by kernel_rfl) rfl hQ hS (y_build (ps := [(0, .tmp 31), (1, .tmp 34)]) hS pl88 ze88 rfl (us := [[.int .i64 e1262.Kind, .string e1262.Text], [.string u1316]]) ⟨rfl, ⟨rfl, trivial⟩⟩ (ws := [.int .i64 e1262.Kind, .string e1262.Text, .string u1316]) rfl) rfl rfl rfl fun a hS => ?_
          refine wpE_one (i := 6) rfl (by kernel_rfl) rfl (k_bslice (ps := [(0, .tmp 35)]) hS el79 ze88 (zl := [.int .i64 0, .string (ByteArray.mk #[]), .string (ByteArray.mk #[])]) (by kernel_rfl) rfl (us := [[.int .i64 e1262.Kind, .string e1262.Text, .string u1316]]) ⟨rfl, trivial⟩ (ws := [.int .i64 e1262.Kind, .string e1262.Text, .string u1316]) rfl rfl rfl rfl fun b1320 a w hk hS => ⟨stN (hk), ?_⟩)
          replace hS := hS.lit (R := R_ChangeD) (us := [.int .i64 e1262.Kind, .string e1262.Text, .string u1316]) (xs := [(ChangeD.mk e1262 u1316)]) 0 rfl (by decide) (RowsOk.one_ (R := R_ChangeD) (x := (ChangeD.mk e1262 u1316)) rfl) rfl rfl
          replace hS := hS.freeze (R := R_ChangeD) 0 rfl 0 rfl
          obtain ⟨hg1322, hM⟩ := gd_some hM
          refine wpE_one (i := 7) rfl (by kernel_rfl) rfl (k_apps (R := R_ChangeD) (xs := out1049) (ys := [(ChangeD.mk e1262 u1316)]) hS el79 (by decide) (by decide) rfl rfl 3 rfl 4 rfl 0 rfl hg1322 rfl fun v1323 cl1324 a w hk hS => ⟨stM rfl hk etOwn, ?_⟩)
          refine dy 8 (v := v1323) rfl (by kernel_rfl) (by kernel_rfl) (by kernel_rfl) rfl hQ hS (y_assign hS rfl) rfl rfl rfl fun a hS => ?_
          refine wpE_done (by kernel_rfl) ?_ _
          try simp only [Exit.then, Exit.inBlock, ↓reduceIte, Nat.reduceEqDiff]
          exact ⟨(out1049 ++ ([(ChangeD.mk e1262 u1316)])), v1323, cl1324, (hS.meet [1, 2, 3, 4] (by decide) ⟨rfl, rfl, rfl, rfl, rfl, rfl, trivial⟩ ⟨rfl, rfl, rfl, rfl, trivial⟩ ⟨⟨3, rfl⟩, ⟨4, rfl⟩, ⟨0, rfl⟩, ⟨6, rfl⟩, ⟨7, rfl⟩, trivial⟩), hM⟩
        · replace hM := cf hb1305 hM
          refine c_f hS rfl hb1305 ?_
          refine wp_skip ?_
          try simp only [Exit.then, Exit.inBlock, ↓reduceIte, Nat.reduceEqDiff]
          exact ⟨out1049, v1050, cl1051, (hS.meet [1, 2, 3, 4] (by decide) ⟨rfl, rfl, rfl, rfl, rfl, rfl, trivial⟩ ⟨rfl, rfl, rfl, rfl, trivial⟩ ⟨⟨0, rfl⟩, ⟨1, rfl⟩, ⟨2, rfl⟩, ⟨3, rfl⟩, ⟨4, rfl⟩, trivial⟩), hM⟩
      · rintro a w ⟨out1258, v1259, cl1260, hS, hM⟩
        unfold branch_Diff_j2 at hM
        refine r_list ?_
        refine wl rfl (ky (v := .int .i64 (IntKind.i64.wrap (g1053 + 1))) hS (y_int hS rfl rfl rfl) rfl rfl fun a hS => ?_)
        refine wl rfl (ky (v := .int .i64 (IntKind.i64.wrap (g1053 + 1))) hS (y_move hS rfl) rfl rfl fun a hS => ?_)
        refine wpList_nil ?_
        try simp only [Exit.then, Exit.inBlock, ↓reduceIte, Nat.reduceEqDiff]
        exact ⟨(out1258, IntKind.i64.wrap (g1053 + 1)), (Option.some.inj hM).symm, out1258, (IntKind.i64.wrap (g1053 + 1)), v1259, cl1260, rfl, (hS.meet [0, 1, 2, 3] (by decide) ⟨rfl, rfl, rfl, rfl, rfl, rfl, trivial⟩ ⟨rfl, rfl, rfl, rfl, trivial⟩ ⟨⟨0, rfl⟩, ⟨1, rfl⟩, ⟨2, rfl⟩, ⟨3, rfl⟩, ⟨4, rfl⟩, trivial⟩)⟩
    · replace hM := cf hb1193 hM
      refine c_f hS rfl hb1193 ?_
      refine wp_exit ?_
      try simp only [Exit.then, Exit.inBlock, ↓reduceIte, Nat.reduceEqDiff]
      injection hM with hM
      subst hM
      have hr := hf1 _ rfl
      subst hr
      have hM : branch_Diff_j1 out1049 = some y := hMo1
      exact ⟨out1049, v1050, cl1051, (hS.meet [2] (by decide) ⟨rfl, trivial⟩ ⟨rfl, trivial⟩ ⟨⟨2, rfl⟩, ⟨4, rfl⟩, trivial⟩), hM⟩
  · rintro a w ⟨out897, v898, cl899, hS, hM⟩
    unfold branch_Diff_j1 at hM
    refine wp_seq_k fun K47 hK47 => ?_
    refine r_list ?_
    refine wl rfl (ky (v := v898) hS (y_move hS rfl) rfl rfl fun a hS => ?_)
    refine wl rfl (ky (v := v898) hS (y_assign hS rfl) rfl rfl fun a hS => ?_)
    refine wpList_nil ?_
    try simp only [Exit.then, Exit.inBlock, ↓reduceIte, Nat.reduceEqDiff]
    refine hK47 _ _ ?_
    refine wp_ret ?_
    injection hM with hM
    subst hM
    try simp only [Exit.then, Exit.inBlock, ↓reduceIte, Nat.reduceEqDiff]
    refine ret_ok hS Tryd.results49 (res_tmp hS rfl res_nil) ?_
    exact ⟨v898, cl899, rfl, hS.retOwn ⟨.inr (List.mem_of_getElem? (i := 0) rfl), trivial⟩ 0 rfl 0 rfl⟩

noncomputable def law39_awake_j1 (g108 : Bool) : Option Bool := some (g108)
noncomputable def law39_awake : Option Bool := (ref23_Cell 0).bind fun u62 => (ref23_Cell 0).bind fun u66 => (ref23_Cell 0).bind fun u70 => (ref23_Cell 1).bind fun u72 => (branch_Merge ([(ChangeD.mk u62 (ByteArray.mk #[49]))]) ([(ChangeD.mk u66 (ByteArray.mk #[50]))]) ([(ChangeD.mk u70 (ByteArray.mk #[49])), (ChangeD.mk u72 (ByteArray.mk #[53]))])).bind fun u76 => cond ((u76.2.2 : Int) == 0) (cond (((u76.2.1.length : Int) : Int) == 0) ((ref23_Cell 0).bind fun u111 => (ref23_Cell 1).bind fun u113 => (ref39_Same u76.1 ([(ChangeD.mk u111 (ByteArray.mk #[50])), (ChangeD.mk u113 (ByteArray.mk #[53]))])).bind fun u117 => cond u117 ((branch_Diff ([(ChangeD.mk u62 (ByteArray.mk #[49]))]) ([(ChangeD.mk u66 (ByteArray.mk #[50]))])).bind fun u120 => law39_awake_j1 (((u120.length : Int) : Int) == 1)) (law39_awake_j1 false)) (law39_awake_j1 false)) (law39_awake_j1 false)
set_option maxRecDepth 100000 in
set_option maxHeartbeats 4000000 in
theorem law39_awake_c (T : Nat → Prop) (W0 : World) (hT : ∀ k, T k → k < W0.heap.size) (hLv : LvP T W0) (y : Bool) (hM : law39_awake = some y) : Rets Tryd.prog No 45 [] W0 (fun v w' => v = .bool y) := by
  refine enter (c := _) Tryd.func45 rfl T 49 Tryd.ntmps45 hT rfl fun a hS => ?_
  replace hS := hS.fact LvF (LvP.dn hLv)
  unfold law39_awake at hM
  refine wp_seq_k fun K6 hK6 => ?_
  refine r_list ?_
  refine wl rfl (ky (v := .bool false) hS (y_assign hS rfl) rfl rfl fun a hS => ?_)
  refine wpList_nil ?_
  try simp only [Exit.then, Exit.inBlock, ↓reduceIte, Nat.reduceEqDiff]
  refine hK6 _ _ ?_
  refine wp_seq_k fun K7 hK7 => ?_
  refine r_list ?_
  obtain ⟨u62, hu62, hM⟩ := bd hM
  refine wl rfl (k_call hS ci14 rfl rfl (ref23_Cell_c _ _ hS.dlt (hS.get 0 rfl) 0 _ hu62) fun _ w hR a hk hA => ?_)
  have he := Eq.symm hR
  subst he
  have hS := hA [] (fun r hr => by cases hr) List.Pairwise.nil
  refine wl rfl (ky (v := .agg #[.int .i64 u62.Kind, .string u62.Text, .string (ByteArray.mk #[49])]) hS (y_build (ps := [(0, .tmp 7), (1, .const (.string ⟨#[49]⟩))]) hS pl88 ze88 rfl (us := [[.int .i64 u62.Kind, .string u62.Text], [.string (ByteArray.mk #[49])]]) ⟨rfl, ⟨rfl, trivial⟩⟩ (ws := [.int .i64 u62.Kind, .string u62.Text, .string (ByteArray.mk #[49])]) rfl) rfl rfl fun a hS => ?_)
  refine wl rfl (k_bslice (ps := [(0, .tmp 8)]) hS el79 ze88 (zl := [.int .i64 0, .string (ByteArray.mk #[]), .string (ByteArray.mk #[])]) (by kernel_rfl) rfl (us := [[.int .i64 u62.Kind, .string u62.Text, .string (ByteArray.mk #[49])]]) ⟨rfl, trivial⟩ (ws := [.int .i64 u62.Kind, .string u62.Text, .string (ByteArray.mk #[49])]) rfl rfl rfl rfl fun b64 a w hk hS => ?_)
  refine wl rfl (ky (v := .slice (some ⟨b64, 0, none⟩) 1 1) hS (y_assign hS rfl) rfl rfl fun a hS => ?_)
  refine wpList_nil ?_
  try simp only [Exit.then, Exit.inBlock, ↓reduceIte, Nat.reduceEqDiff]
  refine hK7 _ _ ?_
  refine wp_seq_k fun K8 hK8 => ?_
  refine r_list ?_
  obtain ⟨u66, hu66, hM⟩ := bd hM
  refine wl rfl (k_call hS ci14 rfl rfl (ref23_Cell_c _ _ hS.dlt (hS.get 0 rfl) 0 _ hu66) fun _ w hR a hk hA => ?_)
  have he := Eq.symm hR
  subst he
  have hS := hA [] (fun r hr => by cases hr) List.Pairwise.nil
  refine wl rfl (ky (v := .agg #[.int .i64 u66.Kind, .string u66.Text, .string (ByteArray.mk #[50])]) hS (y_build (ps := [(0, .tmp 10), (1, .const (.string ⟨#[50]⟩))]) hS pl88 ze88 rfl (us := [[.int .i64 u66.Kind, .string u66.Text], [.string (ByteArray.mk #[50])]]) ⟨rfl, ⟨rfl, trivial⟩⟩ (ws := [.int .i64 u66.Kind, .string u66.Text, .string (ByteArray.mk #[50])]) rfl) rfl rfl fun a hS => ?_)
  refine wl rfl (k_bslice (ps := [(0, .tmp 11)]) hS el79 ze88 (zl := [.int .i64 0, .string (ByteArray.mk #[]), .string (ByteArray.mk #[])]) (by kernel_rfl) rfl (us := [[.int .i64 u66.Kind, .string u66.Text, .string (ByteArray.mk #[50])]]) ⟨rfl, trivial⟩ (ws := [.int .i64 u66.Kind, .string u66.Text, .string (ByteArray.mk #[50])]) rfl rfl rfl rfl fun b68 a w hk hS => ?_)
  refine wl rfl (ky (v := .slice (some ⟨b68, 0, none⟩) 1 1) hS (y_assign hS rfl) rfl rfl fun a hS => ?_)
  refine wpList_nil ?_
  try simp only [Exit.then, Exit.inBlock, ↓reduceIte, Nat.reduceEqDiff]
  refine hK8 _ _ ?_
  refine wp_seq_k fun K9 hK9 => ?_
  refine r_list ?_
  obtain ⟨u70, hu70, hM⟩ := bd hM
  refine wl rfl (k_call hS ci14 rfl rfl (ref23_Cell_c _ _ hS.dlt (hS.get 0 rfl) 0 _ hu70) fun _ w hR a hk hA => ?_)
  have he := Eq.symm hR
  subst he
  have hS := hA [] (fun r hr => by cases hr) List.Pairwise.nil
  refine wl rfl (ky (v := .agg #[.int .i64 u70.Kind, .string u70.Text, .string (ByteArray.mk #[49])]) hS (y_build (ps := [(0, .tmp 13), (1, .const (.string ⟨#[49]⟩))]) hS pl88 ze88 rfl (us := [[.int .i64 u70.Kind, .string u70.Text], [.string (ByteArray.mk #[49])]]) ⟨rfl, ⟨rfl, trivial⟩⟩ (ws := [.int .i64 u70.Kind, .string u70.Text, .string (ByteArray.mk #[49])]) rfl) rfl rfl fun a hS => ?_)
  obtain ⟨u72, hu72, hM⟩ := bd hM
  refine wl rfl (k_call hS ci14 rfl rfl (ref23_Cell_c _ _ hS.dlt (hS.get 0 rfl) 1 _ hu72) fun _ w hR a hk hA => ?_)
  have he := Eq.symm hR
  subst he
  have hS := hA [] (fun r hr => by cases hr) List.Pairwise.nil
  refine wl rfl (ky (v := .agg #[.int .i64 u72.Kind, .string u72.Text, .string (ByteArray.mk #[53])]) hS (y_build (ps := [(0, .tmp 15), (1, .const (.string ⟨#[53]⟩))]) hS pl88 ze88 rfl (us := [[.int .i64 u72.Kind, .string u72.Text], [.string (ByteArray.mk #[53])]]) ⟨rfl, ⟨rfl, trivial⟩⟩ (ws := [.int .i64 u72.Kind, .string u72.Text, .string (ByteArray.mk #[53])]) rfl) rfl rfl fun a hS => ?_)
  refine wl rfl (k_bslice (ps := [(0, .tmp 14), (1, .tmp 16)]) hS el79 ze88 (zl := [.int .i64 0, .string (ByteArray.mk #[]), .string (ByteArray.mk #[]), .int .i64 0, .string (ByteArray.mk #[]), .string (ByteArray.mk #[])]) (by kernel_rfl) rfl (us := [[.int .i64 u70.Kind, .string u70.Text, .string (ByteArray.mk #[49])], [.int .i64 u72.Kind, .string u72.Text, .string (ByteArray.mk #[53])]]) ⟨rfl, ⟨rfl, trivial⟩⟩ (ws := [.int .i64 u70.Kind, .string u70.Text, .string (ByteArray.mk #[49]), .int .i64 u72.Kind, .string u72.Text, .string (ByteArray.mk #[53])]) rfl rfl rfl rfl fun b74 a w hk hS => ?_)
  refine wl rfl (ky (v := .slice (some ⟨b74, 0, none⟩) 2 2) hS (y_assign hS rfl) rfl rfl fun a hS => ?_)
  refine wpList_nil ?_
  try simp only [Exit.then, Exit.inBlock, ↓reduceIte, Nat.reduceEqDiff]
  refine hK9 _ _ ?_
  refine wp_seq_k fun K10 hK10 => ?_
  refine r_list ?_
  refine wl rfl (ky (v := .slice (some ⟨b64, 0, none⟩) 1 1) hS (y_move hS rfl) rfl rfl fun a hS => ?_)
  refine wl rfl (ky (v := .slice (some ⟨b68, 0, none⟩) 1 1) hS (y_move hS rfl) rfl rfl fun a hS => ?_)
  refine wl rfl (ky (v := .slice (some ⟨b74, 0, none⟩) 2 2) hS (y_move hS rfl) rfl rfl fun a hS => ?_)
  replace hS := hS.lit (R := R_ChangeD) (us := [.int .i64 u62.Kind, .string u62.Text, .string (ByteArray.mk #[49])]) (xs := [(ChangeD.mk u62 (ByteArray.mk #[49]))]) 2 rfl (by decide) (RowsOk.one_ (R := R_ChangeD) (x := (ChangeD.mk u62 (ByteArray.mk #[49]))) rfl) rfl rfl
  replace hS := hS.lit (R := R_ChangeD) (us := [.int .i64 u66.Kind, .string u66.Text, .string (ByteArray.mk #[50])]) (xs := [(ChangeD.mk u66 (ByteArray.mk #[50]))]) 1 rfl (by decide) (RowsOk.one_ (R := R_ChangeD) (x := (ChangeD.mk u66 (ByteArray.mk #[50]))) rfl) rfl rfl
  replace hS := hS.lit (R := R_ChangeD) (us := [.int .i64 u70.Kind, .string u70.Text, .string (ByteArray.mk #[49]), .int .i64 u72.Kind, .string u72.Text, .string (ByteArray.mk #[53])]) (xs := [(ChangeD.mk u70 (ByteArray.mk #[49])), (ChangeD.mk u72 (ByteArray.mk #[53]))]) 0 rfl (by decide) ((RowsOk.one_ (R := R_ChangeD) (x := (ChangeD.mk u70 (ByteArray.mk #[49]))) rfl).append (RowsOk.one_ (R := R_ChangeD) (x := (ChangeD.mk u72 (ByteArray.mk #[53]))) rfl)) rfl rfl
  have hL := hS
  replace hL := hL.freeze (R := R_ChangeD) 2 rfl 2 rfl
  replace hL := hL.freeze (R := R_ChangeD) 1 rfl 2 rfl
  replace hL := hL.freeze (R := R_ChangeD) 0 rfl 2 rfl
  obtain ⟨u76, hu76, hM⟩ := bd hM
  refine wl rfl (k_call hS ci47 rfl rfl (branch_Merge_c _ _ hL.dlt (hL.get 6 rfl) ([(ChangeD.mk u62 (ByteArray.mk #[49]))]) ([(ChangeD.mk u66 (ByteArray.mk #[50]))]) ([(ChangeD.mk u70 (ByteArray.mk #[49])), (ChangeD.mk u72 (ByteArray.mk #[53]))]) _ _ _ (hL.get 2 rfl) (hL.get 1 rfl) (hL.get 0 rfl) _ hu76) fun _ w hR a hk hA => ?_)
  obtain ⟨vz77_4, clz77_5, vz77_6, clz77_7, he, ⟨hOvz77_4, hFvz77_4, hRvz77_4⟩, ⟨hOvz77_6, hFvz77_6, hRvz77_6⟩, hA0⟩ := hR
  replace he := he.symm
  subst he
  have hS := hA [.own vz77_4 88 R_ChangeD.size clz77_5, .own vz77_6 26 R_KeyD.size clz77_7] (adds2 ⟨hOvz77_4, by decide⟩ hFvz77_4 ⟨hOvz77_6, by decide⟩ hFvz77_6) (pw2 hA0)
  replace hS := hS.fact (RowsF R_ChangeD clz77_5 u76.1) hRvz77_4
  replace hS := hS.fact (RowsF R_KeyD clz77_7 u76.2.1) hRvz77_6
  refine wl rfl (ky (v := .tuple #[vz77_4, vz77_6, .int .i64 u76.2.2]) hS (y_move hS rfl) rfl rfl fun a hS => ?_)
  refine wl rfl (ky (v := vz77_4) hS (y_ex hS rfl rfl) rfl rfl fun a hS => ?_)
  refine wl rfl (ky (v := vz77_6) hS (y_ex hS rfl rfl) rfl rfl fun a hS => ?_)
  refine wl rfl (ky (v := .int .i64 u76.2.2) hS (y_ex hS rfl rfl) rfl rfl fun a hS => ?_)
  refine wl rfl (ky (v := vz77_4) hS (y_assign hS rfl) rfl rfl fun a hS => ?_)
  refine wl rfl (ky (v := vz77_6) hS (y_assign hS rfl) rfl rfl fun a hS => ?_)
  refine wl rfl (ky (v := .int .i64 u76.2.2) hS (y_assign hS rfl) rfl rfl fun a hS => ?_)
  refine wpList_nil ?_
  try simp only [Exit.then, Exit.inBlock, ↓reduceIte, Nat.reduceEqDiff]
  refine hK10 _ _ ?_
  refine seq_j (J := fun a w => ∃ (g108 : Bool), St W0 No T 49 [(0, .bool g108)] [] [LvF] a w ∧ law39_awake_j1 g108 = some y) ?_ ?_
  · skip
    refine r_list ?_
    refine wl rfl (ky (v := .int .i64 u76.2.2) hS (y_move hS rfl) rfl rfl fun a hS => ?_)
    refine wl rfl (ky (v := .bool ((u76.2.2 : Int) == 0)) hS (y_int hS rfl rfl rfl) rfl rfl fun a hS => ?_)
    refine wl rfl (ky (v := .bool ((u76.2.2 : Int) == 0)) hS (y_move hS rfl) rfl rfl fun a hS => ?_)
    rcases bool2 ((u76.2.2 : Int) == 0) with hb109 | hb109
    · replace hM := ct hb109 hM
      refine wg hS rfl rfl rfl hb109 (ky (v := vz77_6) hS (y_move hS rfl) rfl rfl fun a hS => ?_)
      refine wg hS rfl rfl rfl hb109 (ky (v := .int .i64 (u76.2.1.length : Int)) hS (y_leno (R := R_KeyD) (xs := u76.2.1) hS sl22 rfl 1 rfl 0 rfl) rfl rfl fun a hS => ?_)
      refine wg hS rfl rfl rfl hb109 (ky (v := .bool (((u76.2.1.length : Int) : Int) == 0)) hS (y_int hS rfl rfl rfl) rfl rfl fun a hS => ?_)
      refine wl rfl (ky (v := .bool (((u76.2.1.length : Int) : Int) == 0)) hS (y_pickt hS rfl hb109 rfl) rfl rfl fun a hS => ?_)
      refine wl rfl (ky (v := .bool (((u76.2.1.length : Int) : Int) == 0)) hS (y_move hS rfl) rfl rfl fun a hS => ?_)
      rcases bool2 (((u76.2.1.length : Int) : Int) == 0) with hb110 | hb110
      · replace hM := ct hb110 hM
        refine wg hS rfl rfl rfl hb110 (ky (v := vz77_4) hS (y_move hS rfl) rfl rfl fun a hS => ?_)
        obtain ⟨u111, hu111, hM⟩ := bd hM
        refine wg hS rfl rfl rfl hb110 (k_call hS ci14 rfl rfl (ref23_Cell_c _ _ hS.dlt (hS.get 5 rfl) 0 _ hu111) fun _ w hR a hk hA => ?_)
        have he := Eq.symm hR
        subst he
        have hS := hA [] (fun r hr => by cases hr) List.Pairwise.nil
        refine wg hS rfl rfl rfl hb110 (ky (v := .agg #[.int .i64 u111.Kind, .string u111.Text, .string (ByteArray.mk #[50])]) hS (y_build (ps := [(0, .tmp 35), (1, .const (.string ⟨#[50]⟩))]) hS pl88 ze88 rfl (us := [[.int .i64 u111.Kind, .string u111.Text], [.string (ByteArray.mk #[50])]]) ⟨rfl, ⟨rfl, trivial⟩⟩ (ws := [.int .i64 u111.Kind, .string u111.Text, .string (ByteArray.mk #[50])]) rfl) rfl rfl fun a hS => ?_)
        obtain ⟨u113, hu113, hM⟩ := bd hM
        refine wg hS rfl rfl rfl hb110 (k_call hS ci14 rfl rfl (ref23_Cell_c _ _ hS.dlt (hS.get 5 rfl) 1 _ hu113) fun _ w hR a hk hA => ?_)
        have he := Eq.symm hR
        subst he
        have hS := hA [] (fun r hr => by cases hr) List.Pairwise.nil
        refine wg hS rfl rfl rfl hb110 (ky (v := .agg #[.int .i64 u113.Kind, .string u113.Text, .string (ByteArray.mk #[53])]) hS (y_build (ps := [(0, .tmp 37), (1, .const (.string ⟨#[53]⟩))]) hS pl88 ze88 rfl (us := [[.int .i64 u113.Kind, .string u113.Text], [.string (ByteArray.mk #[53])]]) ⟨rfl, ⟨rfl, trivial⟩⟩ (ws := [.int .i64 u113.Kind, .string u113.Text, .string (ByteArray.mk #[53])]) rfl) rfl rfl fun a hS => ?_)
        refine wg hS rfl rfl rfl hb110 (k_bslice (ps := [(0, .tmp 36), (1, .tmp 38)]) hS el79 ze88 (zl := [.int .i64 0, .string (ByteArray.mk #[]), .string (ByteArray.mk #[]), .int .i64 0, .string (ByteArray.mk #[]), .string (ByteArray.mk #[])]) (by kernel_rfl) rfl (us := [[.int .i64 u111.Kind, .string u111.Text, .string (ByteArray.mk #[50])], [.int .i64 u113.Kind, .string u113.Text, .string (ByteArray.mk #[53])]]) ⟨rfl, ⟨rfl, trivial⟩⟩ (ws := [.int .i64 u111.Kind, .string u111.Text, .string (ByteArray.mk #[50]), .int .i64 u113.Kind, .string u113.Text, .string (ByteArray.mk #[53])]) rfl rfl rfl rfl fun b115 a w hk hS => ?_)
        replace hS := hS.lit (R := R_ChangeD) (us := [.int .i64 u111.Kind, .string u111.Text, .string (ByteArray.mk #[50]), .int .i64 u113.Kind, .string u113.Text, .string (ByteArray.mk #[53])]) (xs := [(ChangeD.mk u111 (ByteArray.mk #[50])), (ChangeD.mk u113 (ByteArray.mk #[53]))]) 0 rfl (by decide) ((RowsOk.one_ (R := R_ChangeD) (x := (ChangeD.mk u111 (ByteArray.mk #[50]))) rfl).append (RowsOk.one_ (R := R_ChangeD) (x := (ChangeD.mk u113 (ByteArray.mk #[53]))) rfl)) rfl rfl
        have hL := hS
        replace hL := hL.freeze (R := R_ChangeD) 1 rfl 2 rfl
        replace hL := hL.freeze (R := R_ChangeD) 0 rfl 1 rfl
        obtain ⟨u117, hu117, hM⟩ := bd hM
        refine wg hS rfl rfl rfl hb110 (k_call hS ci48 rfl rfl (ref39_Same_c _ _ hL.dlt u76.1 ([(ChangeD.mk u111 (ByteArray.mk #[50])), (ChangeD.mk u113 (ByteArray.mk #[53]))]) _ _ (hL.get 1 rfl) (hL.get 0 rfl) _ hu117) fun _ w hR a hk hA => ?_)
        have he := Eq.symm hR
        subst he
        have hS := hA [] (fun r hr => by cases hr) List.Pairwise.nil
        refine wl rfl (ky (v := .bool u117) hS (y_pickt hS rfl hb110 rfl) rfl rfl fun a hS => ?_)
        refine wl rfl (ky (v := .bool u117) hS (y_move hS rfl) rfl rfl fun a hS => ?_)
        rcases bool2 (u117) with hb119 | hb119
        · replace hM := ct hb119 hM
          refine wg hS rfl rfl rfl hb119 (ky (v := .slice (some ⟨b64, 0, none⟩) 1 1) hS (y_move hS rfl) rfl rfl fun a hS => ?_)
          refine wg hS rfl rfl rfl hb119 (ky (v := .slice (some ⟨b68, 0, none⟩) 1 1) hS (y_move hS rfl) rfl rfl fun a hS => ?_)
          have hL := hS
          replace hL := hL.freeze (R := R_ChangeD) 5 rfl 5 rfl
          replace hL := hL.freeze (R := R_ChangeD) 4 rfl 5 rfl
          obtain ⟨u120, hu120, hM⟩ := bd hM
          refine wg hS rfl rfl rfl hb119 (k_call hS ci49 rfl rfl (branch_Diff_c _ _ hL.dlt (hL.get 8 rfl) ([(ChangeD.mk u62 (ByteArray.mk #[49]))]) ([(ChangeD.mk u66 (ByteArray.mk #[50]))]) _ _ (hL.get 1 rfl) (hL.get 0 rfl) _ hu120) fun _ w hR a hk hA => ?_)
          obtain ⟨vz121_3, clz121_4, he, ⟨hOvz121_3, hFvz121_3, hRvz121_3⟩⟩ := hR
          replace he := he.symm
          subst he
          have hS := hA [.own vz121_3 88 R_ChangeD.size clz121_4] (adds1 ⟨hOvz121_3, by decide⟩ hFvz121_3) (pw1 _)
          replace hS := hS.fact (RowsF R_ChangeD clz121_4 u120) hRvz121_3
          refine wg hS rfl rfl rfl hb119 (ky (v := .int .i64 (u120.length : Int)) hS (y_leno (R := R_ChangeD) (xs := u120) hS sl79 rfl 0 rfl 0 rfl) rfl rfl fun a hS => ?_)
          refine wg hS rfl rfl rfl hb119 (ky (v := .bool (((u120.length : Int) : Int) == 1)) hS (y_int hS rfl rfl rfl) rfl rfl fun a hS => ?_)
          refine wl rfl (ky (v := .bool (((u120.length : Int) : Int) == 1)) hS (y_pickt hS rfl hb119 rfl) rfl rfl fun a hS => ?_)
          refine wl rfl (ky (v := .bool (((u120.length : Int) : Int) == 1)) hS (y_assign hS rfl) rfl rfl fun a hS => ?_)
          refine wpList_nil ?_
          try simp only [Exit.then, Exit.inBlock, ↓reduceIte, Nat.reduceEqDiff]
          exact ⟨(((u120.length : Int) : Int) == 1), (hS.meet [] (by decide) ⟨rfl, trivial⟩ trivial ⟨⟨7, rfl⟩, trivial⟩), hM⟩
        · replace hM := cf hb119 hM
          refine wn hS rfl rfl rfl hb119 rfl rfl fun a hS => ?_
          refine wn hS rfl rfl rfl hb119 rfl rfl fun a hS => ?_
          refine wn hS rfl rfl rfl hb119 rfl rfl fun a hS => ?_
          refine wn hS rfl rfl rfl hb119 rfl rfl fun a hS => ?_
          refine wn hS rfl rfl rfl hb119 rfl rfl fun a hS => ?_
          refine wl rfl (ky (v := .bool false) hS (y_pickf hS rfl hb119 rfl) rfl rfl fun a hS => ?_)
          refine wl rfl (ky (v := .bool false) hS (y_assign hS rfl) rfl rfl fun a hS => ?_)
          refine wpList_nil ?_
          try simp only [Exit.then, Exit.inBlock, ↓reduceIte, Nat.reduceEqDiff]
          exact ⟨false, (hS.meet [] (by decide) ⟨rfl, trivial⟩ trivial ⟨⟨6, rfl⟩, trivial⟩), hM⟩
      · replace hM := cf hb110 hM
        refine wn hS rfl rfl rfl hb110 rfl rfl fun a hS => ?_
        refine wn hS rfl rfl rfl hb110 rfl rfl fun a hS => ?_
        refine wn hS rfl rfl rfl hb110 rfl rfl fun a hS => ?_
        refine wn hS rfl rfl rfl hb110 rfl rfl fun a hS => ?_
        refine wn hS rfl rfl rfl hb110 rfl rfl fun a hS => ?_
        refine wn hS rfl rfl rfl hb110 rfl rfl fun a hS => ?_
        refine wn hS rfl rfl rfl hb110 rfl rfl fun a hS => ?_
        refine wl rfl (ky (v := .bool false) hS (y_pickf hS rfl hb110 rfl) rfl rfl fun a hS => ?_)
        refine wl rfl (ky (v := .bool false) hS (y_move hS rfl) rfl rfl fun a hS => ?_)
        refine wn hS rfl rfl rfl rfl rfl rfl fun a hS => ?_
        refine wn hS rfl rfl rfl rfl rfl rfl fun a hS => ?_
        refine wn hS rfl rfl rfl rfl rfl rfl fun a hS => ?_
        refine wn hS rfl rfl rfl rfl rfl rfl fun a hS => ?_
        refine wn hS rfl rfl rfl rfl rfl rfl fun a hS => ?_
        refine wl rfl (ky (v := .bool false) hS (y_pickf hS rfl rfl rfl) rfl rfl fun a hS => ?_)
        refine wl rfl (ky (v := .bool false) hS (y_assign hS rfl) rfl rfl fun a hS => ?_)
        refine wpList_nil ?_
        try simp only [Exit.then, Exit.inBlock, ↓reduceIte, Nat.reduceEqDiff]
        exact ⟨false, (hS.meet [] (by decide) ⟨rfl, trivial⟩ trivial ⟨⟨5, rfl⟩, trivial⟩), hM⟩
    · replace hM := cf hb109 hM
      refine wn hS rfl rfl rfl hb109 rfl rfl fun a hS => ?_
      refine wn hS rfl rfl rfl hb109 rfl rfl fun a hS => ?_
      refine wn hS rfl rfl rfl hb109 rfl rfl fun a hS => ?_
      refine wl rfl (ky (v := .bool false) hS (y_pickf hS rfl hb109 rfl) rfl rfl fun a hS => ?_)
      refine wl rfl (ky (v := .bool false) hS (y_move hS rfl) rfl rfl fun a hS => ?_)
      refine wn hS rfl rfl rfl rfl rfl rfl fun a hS => ?_
      refine wn hS rfl rfl rfl rfl rfl rfl fun a hS => ?_
      refine wn hS rfl rfl rfl rfl rfl rfl fun a hS => ?_
      refine wn hS rfl rfl rfl rfl rfl rfl fun a hS => ?_
      refine wn hS rfl rfl rfl rfl rfl rfl fun a hS => ?_
      refine wn hS rfl rfl rfl rfl rfl rfl fun a hS => ?_
      refine wn hS rfl rfl rfl rfl rfl rfl fun a hS => ?_
      refine wl rfl (ky (v := .bool false) hS (y_pickf hS rfl rfl rfl) rfl rfl fun a hS => ?_)
      refine wl rfl (ky (v := .bool false) hS (y_move hS rfl) rfl rfl fun a hS => ?_)
      refine wn hS rfl rfl rfl rfl rfl rfl fun a hS => ?_
      refine wn hS rfl rfl rfl rfl rfl rfl fun a hS => ?_
      refine wn hS rfl rfl rfl rfl rfl rfl fun a hS => ?_
      refine wn hS rfl rfl rfl rfl rfl rfl fun a hS => ?_
      refine wn hS rfl rfl rfl rfl rfl rfl fun a hS => ?_
      refine wl rfl (ky (v := .bool false) hS (y_pickf hS rfl rfl rfl) rfl rfl fun a hS => ?_)
      refine wl rfl (ky (v := .bool false) hS (y_assign hS rfl) rfl rfl fun a hS => ?_)
      refine wpList_nil ?_
      try simp only [Exit.then, Exit.inBlock, ↓reduceIte, Nat.reduceEqDiff]
      exact ⟨false, (hS.meet [] (by decide) ⟨rfl, trivial⟩ trivial ⟨⟨5, rfl⟩, trivial⟩), hM⟩
  · rintro a w ⟨g108, hS, hM⟩
    unfold law39_awake_j1 at hM
    refine wp_ret ?_
    injection hM with hM
    subst hM
    try simp only [Exit.then, Exit.inBlock, ↓reduceIte, Nat.reduceEqDiff]
    refine ret_ok hS Tryd.results45 (res_tmp hS rfl res_nil) ?_
    exact rfl
end Go.Proofs.YthpeklnhkkadjaaDoor
