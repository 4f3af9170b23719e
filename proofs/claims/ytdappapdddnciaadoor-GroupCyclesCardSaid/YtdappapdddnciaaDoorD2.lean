/- What functions of the program compute; that they do. -/
import Derived.Test.YtdappapdddnciaaDoorMT
import Derived.Test.YtdappapdddnciaaDoorJ1
import Derived.Test.YtdappapdddnciaaDoorD0
set_option linter.unusedVariables false
set_option linter.unusedSimpArgs false
namespace Go.Proofs.YtdappapdddnciaaDoor
open Go.RowKit
noncomputable def cmp_isNaN_int (x_0 : Int) : Option Bool := some ((x_0 : Int) != x_0)
set_option maxRecDepth 100000 in
set_option maxHeartbeats 4000000 in
theorem cmp_isNaN_int_c (T : Nat → Prop) (W0 : World) (hT : ∀ k, T k → k < W0.heap.size) (x_0 : Int) (y : Bool) (hM : cmp_isNaN_int x_0 = some y) : Rets Tryd.prog No 78 [.int .i64 x_0] W0 (fun v w' => v = .bool y) := by
  refine enter (c := _) Tryd.func78 rfl T 6 Tryd.ntmps78 hT rfl fun a hS => ?_
  unfold cmp_isNaN_int at hM
  refine wp_seq_k fun K3 hK3 => ?_
  refine r_list ?_
  refine wl rfl (ky (v := .bool false) hS (y_assign hS rfl) rfl rfl fun a hS => ?_)
  refine wpList_nil ?_
  try simp only [Exit.then, Exit.inBlock, ↓reduceIte, Nat.reduceEqDiff]
  refine hK3 _ _ ?_
  refine wp_seq_k fun K4 hK4 => ?_
  refine r_list ?_
  refine wl rfl (ky (v := .int .i64 x_0) hS (y_move hS rfl) rfl rfl fun a hS => ?_)
  refine wl rfl (ky (v := .int .i64 x_0) hS (y_move hS rfl) rfl rfl fun a hS => ?_)
  refine wl rfl (ky (v := .bool ((x_0 : Int) != x_0)) hS (y_int hS rfl rfl rfl) rfl rfl fun a hS => ?_)
  refine wl rfl (ky (v := .bool ((x_0 : Int) != x_0)) hS (y_assign hS rfl) rfl rfl fun a hS => ?_)
  refine wpList_nil ?_
  try simp only [Exit.then, Exit.inBlock, ↓reduceIte, Nat.reduceEqDiff]
  refine hK4 _ _ ?_
  refine wp_ret ?_
  injection hM with hM
  subst hM
  try simp only [Exit.then, Exit.inBlock, ↓reduceIte, Nat.reduceEqDiff]
  refine ret_ok hS Tryd.results78 (res_tmp hS rfl res_nil) ?_
  exact rfl

noncomputable def cmp_Compare (x_0 : Int) (y_1 : Int) : Option Int := (cmp_isNaN_int x_0).bind fun u10 => (cmp_isNaN_int y_1).bind fun u12 => cond u10 (cond u12 (some (0)) (some ((-1)))) (cond u12 (some (1)) (cond (decide ((x_0 : Int) < y_1)) (some ((-1))) (cond (decide ((y_1 : Int) < x_0)) (some (1)) (some (0)))))
set_option maxRecDepth 100000 in
set_option maxHeartbeats 4000000 in
theorem cmp_Compare_c (T : Nat → Prop) (W0 : World) (hT : ∀ k, T k → k < W0.heap.size) (x_0 : Int) (y_1 : Int) (y : Int) (hM : cmp_Compare x_0 y_1 = some y) : Rets Tryd.prog No 62 [.int .i64 x_0, .int .i64 y_1] W0 (fun v w' => v = .int .i64 y) := by
  refine enter (c := _) Tryd.func62 rfl T 20 Tryd.ntmps62 hT rfl fun a hS => ?_
  unfold cmp_Compare at hM
  refine wp_seq_k fun K20 hK20 => ?_
  refine r_list ?_
  refine wl rfl (ky (v := .int .i64 0) hS (y_assign hS rfl) rfl rfl fun a hS => ?_)
  refine wpList_nil ?_
  try simp only [Exit.then, Exit.inBlock, ↓reduceIte, Nat.reduceEqDiff]
  refine hK20 _ _ ?_
  refine wp_seq_k fun K21 hK21 => ?_
  refine r_list ?_
  refine wl rfl (ky (v := .int .i64 x_0) hS (y_move hS rfl) rfl rfl fun a hS => ?_)
  obtain ⟨u10, hu10, hM⟩ := bd hM
  refine wl rfl (k_call hS ci78 rfl rfl (cmp_isNaN_int_c _ _ hS.dlt x_0 _ hu10) fun _ w hR a hk hA => ?_)
  have he := Eq.symm hR
  subst he
  have hS := hA [] (fun r hr => by cases hr) List.Pairwise.nil
  refine wl rfl (ky (v := .bool u10) hS (y_assign hS rfl) rfl rfl fun a hS => ?_)
  refine wpList_nil ?_
  try simp only [Exit.then, Exit.inBlock, ↓reduceIte, Nat.reduceEqDiff]
  refine hK21 _ _ ?_
  refine wp_seq_k fun K22 hK22 => ?_
  refine r_list ?_
  refine wl rfl (ky (v := .int .i64 y_1) hS (y_move hS rfl) rfl rfl fun a hS => ?_)
  obtain ⟨u12, hu12, hM⟩ := bd hM
  refine wl rfl (k_call hS ci78 rfl rfl (cmp_isNaN_int_c _ _ hS.dlt y_1 _ hu12) fun _ w hR a hk hA => ?_)
  have he := Eq.symm hR
  subst he
  have hS := hA [] (fun r hr => by cases hr) List.Pairwise.nil
  refine wl rfl (ky (v := .bool u12) hS (y_assign hS rfl) rfl rfl fun a hS => ?_)
  refine wpList_nil ?_
  try simp only [Exit.then, Exit.inBlock, ↓reduceIte, Nat.reduceEqDiff]
  refine hK22 _ _ ?_
  refine wp_seq_k fun K23 hK23 => ?_
  refine wp_seq_k fun K24 hK24 => ?_
  refine r_list ?_
  refine wl rfl (ky (v := .bool u10) hS (y_move hS rfl) rfl rfl fun a hS => ?_)
  refine wpList_nil ?_
  try simp only [Exit.then, Exit.inBlock, ↓reduceIte, Nat.reduceEqDiff]
  refine hK24 _ _ ?_
  rcases bool2 (u10) with hb14 | hb14
  · replace hM := ct hb14 hM
    refine c_t hS rfl hb14 ?_
    refine wp_seq_k fun K25 hK25 => ?_
    refine wp_seq_k fun K26 hK26 => ?_
    refine r_list ?_
    refine wl rfl (ky (v := .bool u12) hS (y_move hS rfl) rfl rfl fun a hS => ?_)
    refine wpList_nil ?_
    try simp only [Exit.then, Exit.inBlock, ↓reduceIte, Nat.reduceEqDiff]
    refine hK26 _ _ ?_
    rcases bool2 (u12) with hb15 | hb15
    · replace hM := ct hb15 hM
      refine c_t hS rfl hb15 ?_
      refine wp_seq_k fun K27 hK27 => ?_
      refine r_list ?_
      refine wl rfl (ky (v := .int .i64 0) hS (y_assign hS rfl) rfl rfl fun a hS => ?_)
      refine wpList_nil ?_
      try simp only [Exit.then, Exit.inBlock, ↓reduceIte, Nat.reduceEqDiff]
      refine hK27 _ _ ?_
      refine wp_ret ?_
      injection hM with hM
      subst hM
      try simp only [Exit.then, Exit.inBlock, ↓reduceIte, Nat.reduceEqDiff]
      refine ret_ok hS Tryd.results62 (res_tmp hS rfl res_nil) ?_
      exact rfl
    · replace hM := cf hb15 hM
      refine c_f hS rfl hb15 ?_
      refine wp_skip ?_
      try simp only [Exit.then, Exit.inBlock, ↓reduceIte, Nat.reduceEqDiff]
      refine hK25 _ _ ?_
      refine wp_seq_k fun K28 hK28 => ?_
      refine r_list ?_
      refine wl rfl (ky (v := .int .i64 (-1)) hS (y_assign hS rfl) rfl rfl fun a hS => ?_)
      refine wpList_nil ?_
      try simp only [Exit.then, Exit.inBlock, ↓reduceIte, Nat.reduceEqDiff]
      refine hK28 _ _ ?_
      refine wp_ret ?_
      injection hM with hM
      subst hM
      try simp only [Exit.then, Exit.inBlock, ↓reduceIte, Nat.reduceEqDiff]
      refine ret_ok hS Tryd.results62 (res_tmp hS rfl res_nil) ?_
      exact rfl
  · replace hM := cf hb14 hM
    refine c_f hS rfl hb14 ?_
    refine wp_skip ?_
    try simp only [Exit.then, Exit.inBlock, ↓reduceIte, Nat.reduceEqDiff]
    refine hK23 _ _ ?_
    refine wp_seq_k fun K29 hK29 => ?_
    refine wp_seq_k fun K30 hK30 => ?_
    refine r_list ?_
    refine wl rfl (ky (v := .bool u12) hS (y_move hS rfl) rfl rfl fun a hS => ?_)
    refine wpList_nil ?_
    try simp only [Exit.then, Exit.inBlock, ↓reduceIte, Nat.reduceEqDiff]
    refine hK30 _ _ ?_
    rcases bool2 (u12) with hb16 | hb16
    · replace hM := ct hb16 hM
      refine c_t hS rfl hb16 ?_
      refine wp_seq_k fun K31 hK31 => ?_
      refine r_list ?_
      refine wl rfl (ky (v := .int .i64 1) hS (y_assign hS rfl) rfl rfl fun a hS => ?_)
      refine wpList_nil ?_
      try simp only [Exit.then, Exit.inBlock, ↓reduceIte, Nat.reduceEqDiff]
      refine hK31 _ _ ?_
      refine wp_ret ?_
      injection hM with hM
      subst hM
      try simp only [Exit.then, Exit.inBlock, ↓reduceIte, Nat.reduceEqDiff]
      refine ret_ok hS Tryd.results62 (res_tmp hS rfl res_nil) ?_
      exact rfl
    · replace hM := cf hb16 hM
      refine c_f hS rfl hb16 ?_
      refine wp_skip ?_
      try simp only [Exit.then, Exit.inBlock, ↓reduceIte, Nat.reduceEqDiff]
      refine hK29 _ _ ?_
      refine wp_seq_k fun K32 hK32 => ?_
      refine wp_seq_k fun K33 hK33 => ?_
      refine r_list ?_
      refine wl rfl (ky (v := .int .i64 x_0) hS (y_move hS rfl) rfl rfl fun a hS => ?_)
      refine wl rfl (ky (v := .int .i64 y_1) hS (y_move hS rfl) rfl rfl fun a hS => ?_)
      refine wl rfl (ky (v := .bool (decide ((x_0 : Int) < y_1))) hS (y_int hS rfl rfl rfl) rfl rfl fun a hS => ?_)
      refine wpList_nil ?_
      try simp only [Exit.then, Exit.inBlock, ↓reduceIte, Nat.reduceEqDiff]
      refine hK33 _ _ ?_
      rcases bool2 (decide ((x_0 : Int) < y_1)) with hb17 | hb17
      · replace hM := ct hb17 hM
        refine c_t hS rfl hb17 ?_
        refine wp_seq_k fun K34 hK34 => ?_
        refine r_list ?_
        refine wl rfl (ky (v := .int .i64 (-1)) hS (y_assign hS rfl) rfl rfl fun a hS => ?_)
        refine wpList_nil ?_
        try simp only [Exit.then, Exit.inBlock, ↓reduceIte, Nat.reduceEqDiff]
        refine hK34 _ _ ?_
        refine wp_ret ?_
        injection hM with hM
        subst hM
        try simp only [Exit.then, Exit.inBlock, ↓reduceIte, Nat.reduceEqDiff]
        refine ret_ok hS Tryd.results62 (res_tmp hS rfl res_nil) ?_
        exact rfl
      · replace hM := cf hb17 hM
        refine c_f hS rfl hb17 ?_
        refine wp_skip ?_
        try simp only [Exit.then, Exit.inBlock, ↓reduceIte, Nat.reduceEqDiff]
        refine hK32 _ _ ?_
        refine wp_seq_k fun K35 hK35 => ?_
        refine wp_seq_k fun K36 hK36 => ?_
        refine r_list ?_
        refine wl rfl (ky (v := .int .i64 x_0) hS (y_move hS rfl) rfl rfl fun a hS => ?_)
        refine wl rfl (ky (v := .int .i64 y_1) hS (y_move hS rfl) rfl rfl fun a hS => ?_)
        refine wl rfl (ky (v := .bool (decide ((y_1 : Int) < x_0))) hS (y_int hS rfl rfl rfl) rfl rfl fun a hS => ?_)
        refine wpList_nil ?_
        try simp only [Exit.then, Exit.inBlock, ↓reduceIte, Nat.reduceEqDiff]
        refine hK36 _ _ ?_
        rcases bool2 (decide ((y_1 : Int) < x_0)) with hb18 | hb18
        · replace hM := ct hb18 hM
          refine c_t hS rfl hb18 ?_
          refine wp_seq_k fun K37 hK37 => ?_
          refine r_list ?_
          refine wl rfl (ky (v := .int .i64 1) hS (y_assign hS rfl) rfl rfl fun a hS => ?_)
          refine wpList_nil ?_
          try simp only [Exit.then, Exit.inBlock, ↓reduceIte, Nat.reduceEqDiff]
          refine hK37 _ _ ?_
          refine wp_ret ?_
          injection hM with hM
          subst hM
          try simp only [Exit.then, Exit.inBlock, ↓reduceIte, Nat.reduceEqDiff]
          refine ret_ok hS Tryd.results62 (res_tmp hS rfl res_nil) ?_
          exact rfl
        · replace hM := cf hb18 hM
          refine c_f hS rfl hb18 ?_
          refine wp_skip ?_
          try simp only [Exit.then, Exit.inBlock, ↓reduceIte, Nat.reduceEqDiff]
          refine hK35 _ _ ?_
          refine wp_seq_k fun K38 hK38 => ?_
          refine r_list ?_
          refine wl rfl (ky (v := .int .i64 0) hS (y_assign hS rfl) rfl rfl fun a hS => ?_)
          refine wpList_nil ?_
          try simp only [Exit.then, Exit.inBlock, ↓reduceIte, Nat.reduceEqDiff]
          refine hK38 _ _ ?_
          refine wp_ret ?_
          injection hM with hM
          subst hM
          try simp only [Exit.then, Exit.inBlock, ↓reduceIte, Nat.reduceEqDiff]
          refine ret_ok hS Tryd.results62 (res_tmp hS rfl res_nil) ?_
          exact rfl

noncomputable def cmp_Or_j1 (zero48 : Int) : Option Int := some (zero48)
noncomputable def cmp_Or_l2 (vals_ : (List Int)) (zero49 : Int) (g50 : Int) (g51 : Int) : Option (Fl (Int × Int × Int) (Fl (Int) Int)) := cond (decide ((g51 : Int) < g50)) ((getI vals_ g51).bind fun e64 => cond ((e64 : Int) != zero49) (some (.out (.out e64))) (some (.go (zero49, g50, IntKind.i64.wrap (g51 + 1))))) (some (.out (.go zero49)))
noncomputable def cmp_Or (vals_ : (List Int)) : Option Int := (loop (fun s : Int × Int × Int => cmp_Or_l2 vals_ s.1 s.2.1 s.2.2) (0, (vals_.length : Int), 0)).bind fun r => Fl.el r (fun s => cmp_Or_j1 s) (fun y => some (y))
set_option maxRecDepth 100000 in
set_option maxHeartbeats 4000000 in
theorem cmp_Or_c (T : Nat → Prop) (W0 : World) (hT : ∀ k, T k → k < W0.heap.size) (vals_ : (List Int)) (v1 : Value) (hv1 : SlR (Rep.int .i64) T W0 v1 vals_) (y : Int) (hM : cmp_Or vals_ = some y) : Rets Tryd.prog No 61 [v1] W0 (fun v w' => v = .int .i64 y) := by
  refine enter (c := _) Tryd.func61 rfl T 18 Tryd.ntmps61 hT rfl fun a hS => ?_
  replace hS := hS.fact (SlF (Rep.int .i64) v1 vals_) (SlR.dn hv1)
  unfold cmp_Or at hM
  refine wp_seq_k fun K18 hK18 => ?_
  refine r_list ?_
  refine wl rfl (ky (v := .int .i64 0) hS (y_assign hS rfl) rfl rfl fun a hS => ?_)
  refine wpList_nil ?_
  try simp only [Exit.then, Exit.inBlock, ↓reduceIte, Nat.reduceEqDiff]
  refine hK18 _ _ ?_
  refine wp_seq_k fun K19 hK19 => ?_
  refine r_list ?_
  refine wl rfl (ky (v := .int .i64 0) hS (y_assign hS rfl) rfl rfl fun a hS => ?_)
  refine wpList_nil ?_
  try simp only [Exit.then, Exit.inBlock, ↓reduceIte, Nat.reduceEqDiff]
  refine hK19 _ _ ?_
  refine seq_j (J := fun a w => ∃ (zero48 : Int), St W0 No T 18 [(3, .int .i64 zero48)] [] [] a w ∧ cmp_Or_j1 zero48 = some y) ?_ ?_
  · skip
    refine wp_seq_k fun K28 hK28 => ?_
    refine r_list ?_
    refine wl rfl (ky (v := v1) hS (y_move hS rfl) rfl rfl fun a hS => ?_)
    refine wl rfl (ky (v := .int .i64 (vals_.length : Int)) hS (y_len (R := (Rep.int .i64)) (xs := vals_) hS sl22 rfl 0 rfl) rfl rfl fun a hS => ?_)
    refine wl rfl (ky (v := .int .i64 0) hS (y_move hS rfl) rfl rfl fun a hS => ?_)
    refine wpList_nil ?_
    try simp only [Exit.then, Exit.inBlock, ↓reduceIte, Nat.reduceEqDiff]
    refine hK28 _ _ ?_
    refine wp_block ?_
    obtain ⟨r1, hl1, hMo1⟩ := bd hM
    refine wp_lp (fun s : Int × Int × Int => cmp_Or_l2 vals_ s.1 s.2.1 s.2.2) (fun s a w => ∃ (zero49 : Int) (g50 : Int) (g51 : Int), (zero49, g50, g51) = s ∧ St W0 No T 18 [(3, .int .i64 zero49), (6, v1), (7, .int .i64 g50), (8, .int .i64 g51)] [] [SlF (Rep.int .i64) v1 vals_] a w) hl1 ⟨0, (vals_.length : Int), 0, rfl, (hS.meet [] (by decide) ⟨rfl, rfl, rfl, rfl, trivial⟩ trivial ⟨⟨0, rfl⟩, trivial⟩)⟩ ?_
    rintro s a w f1 ⟨zero49, g50, g51, rfl, hS⟩ hM hf1
    have hM : cmp_Or_l2 vals_ zero49 g50 g51 = some f1 := hM
    unfold cmp_Or_l2 at hM
    refine wp_seq_k fun K35 hK35 => ?_
    refine r_list ?_
    refine wl rfl (ky (v := .bool (decide ((g51 : Int) < g50))) hS (y_int hS rfl rfl rfl) rfl rfl fun a hS => ?_)
    refine wpList_nil ?_
    try simp only [Exit.then, Exit.inBlock, ↓reduceIte, Nat.reduceEqDiff]
    refine hK35 _ _ ?_
    refine wp_seq_k fun K36 hK36 => ?_
    rcases bool2 (decide ((g51 : Int) < g50)) with hb63 | hb63
    · replace hM := ct hb63 hM
      refine c_t hS rfl hb63 ?_
      refine wp_skip ?_
      try simp only [Exit.then, Exit.inBlock, ↓reduceIte, Nat.reduceEqDiff]
      refine hK36 _ _ ?_
      refine wp_seq_k fun K37 hK37 => ?_
      refine wp_block ?_
      refine wp_seq_k fun K38 hK38 => ?_
      refine r_list ?_
      obtain ⟨e64, he64, hM⟩ := bd hM
      refine wl rfl (k_index (R := (Rep.int .i64)) hS sl22 ty3 rfl rfl 0 rfl he64 rfl fun b65 o66 cs68 hr67 a hS => ?_)
      obtain rfl := hr67
      refine wl rfl (ky (v := .int .i64 e64) hS (y_loadc (k := 0) hS ty3 0 rfl rfl (fun _ h => h.elim) (us := [.int .i64 e64]) rfl rfl (fun _ => rfl)) rfl rfl fun a hS => ?_)
      refine wl rfl (ky (v := .int .i64 e64) hS (y_assign hS rfl) rfl rfl fun a hS => ?_)
      refine wpList_nil ?_
      try simp only [Exit.then, Exit.inBlock, ↓reduceIte, Nat.reduceEqDiff]
      refine hK38 _ _ ?_
      refine wp_seq_k fun K39 hK39 => ?_
      refine r_list ?_
      refine wl rfl (ky (v := .int .i64 e64) hS (y_move hS rfl) rfl rfl fun a hS => ?_)
      refine wl rfl (ky (v := .int .i64 zero49) hS (y_move hS rfl) rfl rfl fun a hS => ?_)
      refine wl rfl (ky (v := .bool ((e64 : Int) != zero49)) hS (y_int hS rfl rfl rfl) rfl rfl fun a hS => ?_)
      refine wpList_nil ?_
      try simp only [Exit.then, Exit.inBlock, ↓reduceIte, Nat.reduceEqDiff]
      refine hK39 _ _ ?_
      rcases bool2 ((e64 : Int) != zero49) with hb70 | hb70
      · replace hM := ct hb70 hM
        refine c_t hS rfl hb70 ?_
        refine wp_seq_k fun K40 hK40 => ?_
        refine r_list ?_
        refine wl rfl (ky (v := .int .i64 e64) hS (y_move hS rfl) rfl rfl fun a hS => ?_)
        refine wl rfl (ky (v := .int .i64 e64) hS (y_assign hS rfl) rfl rfl fun a hS => ?_)
        refine wpList_nil ?_
        try simp only [Exit.then, Exit.inBlock, ↓reduceIte, Nat.reduceEqDiff]
        refine hK40 _ _ ?_
        refine wp_ret ?_
        injection hM with hM
        subst hM
        have hr := hf1 _ rfl
        subst hr
        replace hMo1 := el_out hMo1
        have hM := hMo1
        injection hM with hM
        subst hM
        try simp only [Exit.then, Exit.inBlock, ↓reduceIte, Nat.reduceEqDiff]
        refine ret_ok hS Tryd.results61 (res_tmp hS rfl res_nil) ?_
        exact rfl
      · replace hM := cf hb70 hM
        refine c_f hS rfl hb70 ?_
        refine wp_skip ?_
        try simp only [Exit.then, Exit.inBlock, ↓reduceIte, Nat.reduceEqDiff]
        refine hK37 _ _ ?_
        refine r_list ?_
        refine wl rfl (ky (v := .int .i64 (IntKind.i64.wrap (g51 + 1))) hS (y_int hS rfl rfl rfl) rfl rfl fun a hS => ?_)
        refine wl rfl (ky (v := .int .i64 (IntKind.i64.wrap (g51 + 1))) hS (y_move hS rfl) rfl rfl fun a hS => ?_)
        refine wpList_nil ?_
        try simp only [Exit.then, Exit.inBlock, ↓reduceIte, Nat.reduceEqDiff]
        exact ⟨(zero49, g50, IntKind.i64.wrap (g51 + 1)), (Option.some.inj hM).symm, zero49, g50, (IntKind.i64.wrap (g51 + 1)), rfl, (hS.meet [] (by decide) ⟨rfl, rfl, rfl, rfl, trivial⟩ trivial ⟨⟨1, rfl⟩, trivial⟩)⟩
    · replace hM := cf hb63 hM
      refine c_f hS rfl hb63 ?_
      refine wp_exit ?_
      try simp only [Exit.then, Exit.inBlock, ↓reduceIte, Nat.reduceEqDiff]
      injection hM with hM
      subst hM
      have hr := hf1 _ rfl
      subst hr
      replace hMo1 := el_go hMo1
      have hM : cmp_Or_j1 zero49 = some y := hMo1
      exact ⟨zero49, (hS.meet [] (by decide) ⟨rfl, trivial⟩ trivial trivial), hM⟩
  · rintro a w ⟨zero48, hS, hM⟩
    unfold cmp_Or_j1 at hM
    refine wp_seq_k fun K27 hK27 => ?_
    refine r_list ?_
    refine wl rfl (ky (v := .int .i64 zero48) hS (y_move hS rfl) rfl rfl fun a hS => ?_)
    refine wl rfl (ky (v := .int .i64 zero48) hS (y_assign hS rfl) rfl rfl fun a hS => ?_)
    refine wpList_nil ?_
    try simp only [Exit.then, Exit.inBlock, ↓reduceIte, Nat.reduceEqDiff]
    refine hK27 _ _ ?_
    refine wp_ret ?_
    injection hM with hM
    subst hM
    try simp only [Exit.then, Exit.inBlock, ↓reduceIte, Nat.reduceEqDiff]
    refine ret_ok hS Tryd.results61 (res_tmp hS rfl res_nil) ?_
    exact rfl

noncomputable def key_Cmp (a_0 : KeyD) (b_1 : KeyD) : Option Int := (cmp_Compare a_0.Kind b_1.Kind).bind fun u69 => (compareSM a_0.Text b_1.Text).bind fun u71 => (cmp_Or ([u69, u71])).bind fun u75 => some (u75)
set_option maxRecDepth 100000 in
set_option maxHeartbeats 4000000 in
theorem key_Cmp_c (T : Nat → Prop) (W0 : World) (hT : ∀ k, T k → k < W0.heap.size) (hLv : LvP T W0) (a_0 : KeyD) (b_1 : KeyD) (y : Int) (hM : key_Cmp a_0 b_1 = some y) : Rets Tryd.prog No 51 [.agg #[.int .i64 a_0.Kind, .string a_0.Text], .agg #[.int .i64 b_1.Kind, .string b_1.Text]] W0 (fun v w' => v = .int .i64 y) := by
  refine enter (c := _) Tryd.func51 rfl T 17 Tryd.ntmps51 hT rfl fun a hS => ?_
  replace hS := hS.fact LvF (LvP.dn hLv)
  unfold key_Cmp at hM
  refine wp_seq_k fun K3 hK3 => ?_
  refine r_list ?_
  refine wl rfl (k_box hS rfl (cs := [.int .i64 a_0.Kind, .string a_0.Text]) rfl rfl fun b39 hnb41 a w hk hS => ?_)
  refine wl rfl (k_box hS rfl (cs := [.int .i64 b_1.Kind, .string b_1.Text]) rfl rfl fun b42 hnb44 a w hk hS => ?_)
  refine wl rfl (ky (v := .int .i64 0) hS (y_assign hS rfl) rfl rfl fun a hS => ?_)
  refine wpList_nil ?_
  try simp only [Exit.then, Exit.inBlock, ↓reduceIte, Nat.reduceEqDiff]
  refine hK3 _ _ ?_
  refine wp_seq_k fun K4 hK4 => ?_
  refine draws [] hS mixed rfl (fun c a d v w h => by cases d <;> exact h) fun w hQ hS => ?_
  refine dy 0 (v := .pointer (some ⟨b39, 0 + 0, none⟩)) rfl (by kernel_rfl) (by kernel_rfl) (by kernel_rfl) rfl hQ hS (y_fld hS rfl fl32_0) rfl rfl rfl fun a hS => ?_
  refine dy (l := []) 1 (v := .int .i64 a_0.Kind) rfl (by kernel_rfl) (by kernel_rfl) (by kernel_rfl) (by kernel_rfl) hQ hS (y_load hS rfl ty3 1 rfl eo_nil (us := [.int .i64 a_0.Kind]) rfl rfl (fun _ => rfl)) rfl rfl rfl fun a hS => ?_
  refine dy 2 (v := .pointer (some ⟨b42, 0 + 0, none⟩)) rfl (by kernel_rfl) (by kernel_rfl) (by kernel_rfl) rfl hQ hS (y_fld hS rfl fl32_0) rfl rfl rfl fun a hS => ?_
  refine dy (l := []) 3 (v := .int .i64 b_1.Kind) rfl (by kernel_rfl) (by kernel_rfl) (by kernel_rfl) (by kernel_rfl) hQ hS (y_load hS rfl ty3 0 rfl eo_nil (us := [.int .i64 b_1.Kind]) rfl rfl (fun _ => rfl)) rfl rfl rfl fun a hS => ?_
  refine dy 5 (v := .pointer (some ⟨b39, 0 + 1, none⟩)) rfl (by kernel_rfl) (by kernel_rfl) (by kernel_rfl) rfl hQ hS (y_fld hS rfl fl32_1) rfl rfl rfl fun a hS => ?_
  refine dy (l := []) 6 (v := .string a_0.Text) rfl (by kernel_rfl) (by kernel_rfl) (by kernel_rfl) (by kernel_rfl) hQ hS (y_load hS rfl ty9 1 rfl eo_nil (us := [.string a_0.Text]) rfl rfl (fun _ => rfl)) rfl rfl rfl fun a hS => ?_
  refine dy 7 (v := .pointer (some ⟨b42, 0 + 1, none⟩)) rfl (by kernel_rfl) (by kernel_rfl) (by kernel_rfl) rfl hQ hS (y_fld hS rfl fl32_1) rfl rfl rfl fun a hS => ?_
  refine dy (l := []) 8 (v := .string b_1.Text) rfl (by kernel_rfl) (by kernel_rfl) (by kernel_rfl) (by kernel_rfl) hQ hS (y_load hS rfl ty9 0 rfl eo_nil (us := [.string b_1.Text]) rfl rfl (fun _ => rfl)) rfl rfl rfl fun a hS => ?_
  obtain ⟨u69, hu69, hM⟩ := bd hM
  refine wpE_one (i := 4) rfl (by kernel_rfl) rfl (k_call hS ci62 rfl rfl (cmp_Compare_c _ _ hS.dlt a_0.Kind b_1.Kind _ hu69) fun _ w hR a hk hA => ⟨stN (hk), ?_⟩)
  have he := Eq.symm hR
  subst he
  have hS := hA [] (fun r hr => by cases hr) List.Pairwise.nil
  obtain ⟨u71, hu71, hM⟩ := bd hM
  refine wpE_one (i := 9) rfl (by kernel_rfl) rfl (k_call hS ci45 rfl rfl (compareSM_c _ _ hS.dlt (hS.get 0 rfl) a_0.Text b_1.Text _ hu71) fun _ w hR a hk hA => ⟨stN (hk), ?_⟩)
  have he := Eq.symm hR
  subst he
  have hS := hA [] (fun r hr => by cases hr) List.Pairwise.nil
  refine wpE_one (i := 10) rfl (by kernel_rfl) rfl (k_bslice (ps := [(0, .tmp 9), (1, .tmp 14)]) hS el22 ze3 (zl := [.int .i64 0, .int .i64 0]) (by kernel_rfl) rfl (us := [[.int .i64 u69], [.int .i64 u71]]) ⟨rfl, ⟨rfl, trivial⟩⟩ (ws := [.int .i64 u69, .int .i64 u71]) rfl rfl rfl rfl fun b73 a w hk hS => ⟨stN (hk), ?_⟩)
  replace hS := hS.lit (R := (Rep.int .i64)) (us := [.int .i64 u69, .int .i64 u71]) (xs := [u69, u71]) 0 rfl (by decide) ((RowsOk.one_ (R := (Rep.int .i64)) (x := u69) rfl).append (RowsOk.one_ (R := (Rep.int .i64)) (x := u71) rfl)) rfl rfl
  have hL := hS
  replace hL := hL.freeze (R := (Rep.int .i64)) 0 rfl 0 rfl
  obtain ⟨u75, hu75, hM⟩ := bd hM
  refine wpE_one (i := 11) rfl (by kernel_rfl) rfl (k_call hS ci61 rfl rfl (cmp_Or_c _ _ hL.dlt ([u69, u71]) _ (hL.get 0 rfl) _ hu75) fun _ w hR a hk hA => ⟨stN (hk), ?_⟩)
  have he := Eq.symm hR
  subst he
  have hS := hA [] (fun r hr => by cases hr) List.Pairwise.nil
  refine dy 12 (v := .int .i64 u75) rfl (by kernel_rfl) (by kernel_rfl) (by kernel_rfl) rfl hQ hS (y_assign hS rfl) rfl rfl rfl fun a hS => ?_
  refine wpE_done (by kernel_rfl) ?_ _
  try simp only [Exit.then, Exit.inBlock, ↓reduceIte, Nat.reduceEqDiff]
  refine hK4 _ _ ?_
  refine wp_ret ?_
  injection hM with hM
  subst hM
  try simp only [Exit.then, Exit.inBlock, ↓reduceIte, Nat.reduceEqDiff]
  refine ret_ok hS Tryd.results51 (res_tmp hS rfl res_nil) ?_
  exact rfl

noncomputable def compact_Key_j1 (s_0 : (List KeyD)) : Option (List KeyD) := some (s_0)
noncomputable def compact_Key_j2 (k12085 : Int) : Option (Fl (Int) (Fl (Unit) (List KeyD))) := some (.go (IntKind.i64.wrap (k12085 + 1)))
noncomputable def compact_Key_j3 (s15639 : (List KeyD)) (k15641 : Int) : Option (Fl (Int) (Fl (Unit) (List KeyD))) := (subI s15639 k15641 s15639.length).bind fun l15642 => (subI (List.take (Int.toNat k15641) s15639 ++ List.replicate ((Int.toNat (s15639.length : Int)) - (Int.toNat k15641)) (KeyD.mk (0 : Int) (ByteArray.mk #[])) ++ List.drop (Int.toNat (s15639.length : Int)) s15639) 0 k15641).bind fun l15648 => some (.out (.out l15648))
noncomputable def compact_Key_j4 (s16219 : (List KeyD)) (k16221 : Int) (k216222 : Int) : Option (Fl ((List KeyD) × Int × Int) ((List KeyD) × Int)) := some (.go (s16219, k16221, IntKind.i64.wrap (k216222 + 1)))
noncomputable def compact_Key_l5 (s_0 : (List KeyD)) (k12085 : Int) (s15878 : (List KeyD)) (k15880 : Int) (k215881 : Int) : Option (Fl ((List KeyD) × Int × Int) ((List KeyD) × Int)) := cond (decide ((k215881 : Int) < (((Int.toNat (s_0.length : Int)) - (Int.toNat k12085) : Nat) : Int))) (gd (decide (0 ≤ k215881)) <| gd (decide (k215881 < (((Int.toNat (s_0.length : Int)) - (Int.toNat k12085) : Nat) : Int))) <| (getI s15878 ((((Int.toNat k12085) : Nat) : Int) + k215881)).bind fun e16291 => gd (decide (0 ≤ IntKind.i64.wrap (k215881 - 1))) <| gd (decide (IntKind.i64.wrap (k215881 - 1) < (((Int.toNat (s_0.length : Int)) - (Int.toNat k12085) : Nat) : Int))) <| (getI s15878 ((((Int.toNat k12085) : Nat) : Int) + (IntKind.i64.wrap (k215881 - 1)))).bind fun e16302 => cond (!((e16291.Kind : Int) == e16302.Kind && e16291.Text.toList == e16302.Text.toList)) (gd (decide (0 ≤ k215881)) <| gd (decide (k215881 < (((Int.toNat (s_0.length : Int)) - (Int.toNat k12085) : Nat) : Int))) <| (getI s15878 ((((Int.toNat k12085) : Nat) : Int) + k215881)).bind fun e16314 => (getI s15878 k15880).bind fun e16323 => compact_Key_j4 (s15878.set (Int.toNat k15880) e16314) (IntKind.i64.wrap (k15880 + 1)) k215881) (compact_Key_j4 s15878 k15880 k215881)) (some (.out (s15878, k15880)))
noncomputable def compact_Key_l6 (s_0 : (List KeyD)) (k12085 : Int) : Option (Fl (Int) (Fl (Unit) (List KeyD))) := cond (decide ((k12085 : Int) < (s_0.length : Int))) ((getI s_0 k12085).bind fun e15158 => (getI s_0 (IntKind.i64.wrap (k12085 - 1))).bind fun e15167 => cond ((e15158.Kind : Int) == e15167.Kind && e15158.Text.toList == e15167.Text.toList) ((subI s_0 k12085 s_0.length).bind fun l15177 => (loop (fun s : (List KeyD) × Int × Int => compact_Key_l5 s_0 k12085 s.1 s.2.1 s.2.2) (s_0, k12085, 1)).bind fun r => compact_Key_j3 r.1 r.2) (compact_Key_j2 k12085)) (some (.out (.go ())))
noncomputable def compact_Key (s_0 : (List KeyD)) : Option (List KeyD) := cond (decide (((s_0.length : Int) : Int) < 2)) (some (s_0)) ((loop (fun s : Int => compact_Key_l6 s_0 s) 1).bind fun r => Fl.el r (fun s => compact_Key_j1 s_0) (fun y => some (y)))
set_option maxRecDepth 100000 in
set_option maxHeartbeats 4000000 in
theorem compact_Key_c (T : Nat → Prop) (W0 : World) (hT : ∀ k, T k → k < W0.heap.size) (s_0 : (List KeyD)) (v1 : Value) (cl2 : List Value) (hD : DOk T W0 [.own v1 32 R_KeyD.size cl2]) (hv1 : RowsOk R_KeyD (dT T [.own v1 32 R_KeyD.size cl2]) W0 cl2 s_0) (y : (List KeyD)) (hM : compact_Key s_0 = some y) : Rets Tryd.prog (MD [.own v1 32 R_KeyD.size cl2]) 52 [v1] W0 (fun v w' => ∃ (v3 : Value) (cl4 : List Value), v = v3 ∧ RowsOk R_KeyD (dT T [.own v3 32 R_KeyD.size cl4]) w' cl4 y ∧ DNew W0 w' [.own v1 32 R_KeyD.size cl2] [.own v3 32 R_KeyD.size cl4]) := by
  refine enterD (c := _) Tryd.func52 rfl T 61 Tryd.ntmps52 hT rfl hD fun a hS => ?_
  replace hS := hS.fact (RowsF R_KeyD cl2 s_0) hv1
  unfold compact_Key at hM
  refine wp_seq_k fun K194 hK194 => ?_
  refine r_list ?_
  refine wl rfl (ky (v := .slice none 0 0) hS (y_assign hS rfl) rfl rfl fun a hS => ?_)
  refine wpList_nil ?_
  try simp only [Exit.then, Exit.inBlock, ↓reduceIte, Nat.reduceEqDiff]
  refine hK194 _ _ ?_
  refine wp_seq_k fun K195 hK195 => ?_
  refine wp_seq_k fun K196 hK196 => ?_
  refine r_list ?_
  refine wl rfl (ky (v := v1) hS (y_move hS rfl) rfl rfl fun a hS => ?_)
  refine wl rfl (ky (v := .int .i64 (s_0.length : Int)) hS (y_leno (R := R_KeyD) (xs := s_0) hS sl23 rfl 0 rfl 0 rfl) rfl rfl fun a hS => ?_)
  refine wl rfl (ky (v := .bool (decide (((s_0.length : Int) : Int) < 2))) hS (y_int hS rfl rfl rfl) rfl rfl fun a hS => ?_)
  refine wpList_nil ?_
  try simp only [Exit.then, Exit.inBlock, ↓reduceIte, Nat.reduceEqDiff]
  refine hK196 _ _ ?_
  rcases bool2 (decide (((s_0.length : Int) : Int) < 2)) with hb6047 | hb6047
  · replace hM := ct hb6047 hM
    refine c_t hS rfl hb6047 ?_
    refine wp_seq_k fun K197 hK197 => ?_
    refine r_list ?_
    refine wl rfl (ky (v := v1) hS (y_move hS rfl) rfl rfl fun a hS => ?_)
    refine wl rfl (ky (v := v1) hS (y_assign hS rfl) rfl rfl fun a hS => ?_)
    refine wpList_nil ?_
    try simp only [Exit.then, Exit.inBlock, ↓reduceIte, Nat.reduceEqDiff]
    refine hK197 _ _ ?_
    refine wp_ret ?_
    injection hM with hM
    subst hM
    try simp only [Exit.then, Exit.inBlock, ↓reduceIte, Nat.reduceEqDiff]
    refine ret_ok hS Tryd.results52 (res_tmp hS rfl res_nil) ?_
    have hZ := hS.meet (G' := []) (D' := [.own v1 32 R_KeyD.size cl2]) (F' := [RowsF R_KeyD cl2 s_0]) [0] (by decide) trivial ⟨rfl, trivial⟩ ⟨⟨0, rfl⟩, trivial⟩
    exact ⟨v1, cl2, rfl, (hZ.get 0 rfl), hZ.dnew⟩
  · replace hM := cf hb6047 hM
    refine c_f hS rfl hb6047 ?_
    refine wp_skip ?_
    try simp only [Exit.then, Exit.inBlock, ↓reduceIte, Nat.reduceEqDiff]
    refine hK195 _ _ ?_
    refine seq_j (J := fun a w => St W0 (MD [.own v1 32 R_KeyD.size cl2]) T 61 [(0, v1)] [.own v1 32 R_KeyD.size cl2] [RowsF R_KeyD cl2 s_0] a w ∧ compact_Key_j1 s_0 = some y) ?_ ?_
    · skip
      refine wp_seq_k fun K324 hK324 => ?_
      refine r_list ?_
      refine wl rfl (ky (v := .int .i64 1) hS (y_assign hS rfl) rfl rfl fun a hS => ?_)
      refine wpList_nil ?_
      try simp only [Exit.then, Exit.inBlock, ↓reduceIte, Nat.reduceEqDiff]
      refine hK324 _ _ ?_
      refine wp_block ?_
      obtain ⟨r1, hl1, hMo1⟩ := bd hM
      refine wp_lp (fun s : Int => compact_Key_l6 s_0 s) (fun s a w => ∃ (k12085 : Int), k12085 = s ∧ St W0 (MD [.own v1 32 R_KeyD.size cl2]) T 61 [(0, v1), (3, .int .i64 k12085)] [.own v1 32 R_KeyD.size cl2] [RowsF R_KeyD cl2 s_0] a w) hl1 ⟨1, rfl, (hS.meet [0] (by decide) ⟨rfl, rfl, trivial⟩ ⟨rfl, trivial⟩ ⟨⟨0, rfl⟩, trivial⟩)⟩ ?_
      rintro s a w f1 ⟨k12085, rfl, hS⟩ hM hf1
      have hM : compact_Key_l6 s_0 k12085 = some f1 := hM
      unfold compact_Key_l6 at hM
      refine wp_seq_k fun K449 hK449 => ?_
      refine wp_seq_k fun K450 hK450 => ?_
      refine r_list ?_
      refine wl rfl (ky (v := .int .i64 k12085) hS (y_move hS rfl) rfl rfl fun a hS => ?_)
      refine wl rfl (ky (v := v1) hS (y_move hS rfl) rfl rfl fun a hS => ?_)
      refine wl rfl (ky (v := .int .i64 (s_0.length : Int)) hS (y_leno (R := R_KeyD) (xs := s_0) hS sl23 rfl 0 rfl 0 rfl) rfl rfl fun a hS => ?_)
      refine wl rfl (ky (v := .bool (decide ((k12085 : Int) < (s_0.length : Int)))) hS (y_int hS rfl rfl rfl) rfl rfl fun a hS => ?_)
      refine wpList_nil ?_
      try simp only [Exit.then, Exit.inBlock, ↓reduceIte, Nat.reduceEqDiff]
      refine hK450 _ _ ?_
      rcases bool2 (decide ((k12085 : Int) < (s_0.length : Int))) with hb14098 | hb14098
      · replace hM := ct hb14098 hM
        refine c_t hS rfl hb14098 ?_
        refine wp_skip ?_
        try simp only [Exit.then, Exit.inBlock, ↓reduceIte, Nat.reduceEqDiff]
        refine hK449 _ _ ?_
        refine seq_j (J := fun a w => St W0 (MD [.own v1 32 R_KeyD.size cl2]) T 61 [(0, v1), (3, .int .i64 k12085)] [.own v1 32 R_KeyD.size cl2] [RowsF R_KeyD cl2 s_0] a w ∧ compact_Key_j2 k12085 = some f1) ?_ ?_
        · skip
          refine wp_block ?_
          refine wp_seq_k fun K481 hK481 => ?_
          refine draws [] hS mixed rfl (fun c a d v w h => by cases d <;> exact h) fun w hQ hS => ?_
          refine dy 0 (v := v1) rfl (by kernel_rfl) (by kernel_rfl) (by kernel_rfl) rfl hQ hS (y_move hS rfl) rfl rfl rfl fun a hS => ?_
          refine dy 1 (v := .int .i64 k12085) rfl (by kernel_rfl) (by kernel_rfl) (by kernel_rfl) rfl hQ hS (y_move hS rfl) rfl rfl rfl fun a hS => ?_
          obtain ⟨e15158, he15158, hM⟩ := bd hM
          obtain ⟨b15159, o15160, p15165, cs15162, hr15161, hO15163, hC15164, hy15166⟩ := d_indexo (R := R_KeyD) hS sl23 ty32 0 rfl 0 rfl he15158
          obtain rfl := hr15161
          refine dy 2 (v := .pointer (some ⟨b15159, o15160, none⟩)) rfl (by kernel_rfl) (by kernel_rfl) (by kernel_rfl) rfl hQ hS (hy15166 rfl rfl) rfl rfl rfl fun a hS => ?_
          refine dy (l := []) 3 (v := .agg #[.int .i64 e15158.Kind, .string e15158.Text]) rfl (by kernel_rfl) (by kernel_rfl) (by kernel_rfl) (by kernel_rfl) hQ hS (y_loado (k := 0) hS ty32 0 rfl hO15163 hC15164 rfl eo_nil (us := [.int .i64 e15158.Kind, .string e15158.Text]) rfl rfl (fun h => by cases h)) rfl rfl rfl fun a hS => ?_
          refine dy 4 (v := v1) rfl (by kernel_rfl) (by kernel_rfl) (by kernel_rfl) rfl hQ hS (y_move hS rfl) rfl rfl rfl fun a hS => ?_
          refine dy 5 (v := .int .i64 k12085) rfl (by kernel_rfl) (by kernel_rfl) (by kernel_rfl) rfl hQ hS (y_move hS rfl) rfl rfl rfl fun a hS => ?_
          refine dy 6 (v := .int .i64 (IntKind.i64.wrap (k12085 - 1))) rfl (by kernel_rfl) (by kernel_rfl) (by kernel_rfl) rfl hQ hS (y_int hS rfl rfl rfl) rfl rfl rfl fun a hS => ?_
          obtain ⟨e15167, he15167, hM⟩ := bd hM
          obtain ⟨b15168, o15169, p15174, cs15171, hr15170, hO15172, hC15173, hy15175⟩ := d_indexo (R := R_KeyD) hS sl23 ty32 0 rfl 0 rfl he15167
          obtain rfl := hr15170
          refine dy 7 (v := .pointer (some ⟨b15168, o15169, none⟩)) rfl (by kernel_rfl) (by kernel_rfl) (by kernel_rfl) rfl hQ hS (hy15175 rfl rfl) rfl rfl rfl fun a hS => ?_
          refine dy (l := []) 8 (v := .agg #[.int .i64 e15167.Kind, .string e15167.Text]) rfl (by kernel_rfl) (by kernel_rfl) (by kernel_rfl) (by kernel_rfl) hQ hS (y_loado (k := 0) hS ty32 0 rfl hO15172 hC15173 rfl eo_nil (us := [.int .i64 e15167.Kind, .string e15167.Text]) rfl rfl (fun h => by cases h)) rfl rfl rfl fun a hS => ?_
          refine dy 9 (v := .bool ((e15158.Kind : Int) == e15167.Kind && e15158.Text.toList == e15167.Text.toList)) rfl (by kernel_rfl) (by kernel_rfl) (by kernel_rfl) rfl hQ hS (eq32 hS rfl rfl) rfl rfl rfl fun a hS => ?_
          refine wpE_done (by kernel_rfl) ?_ _
          try simp only [Exit.then, Exit.inBlock, ↓reduceIte, Nat.reduceEqDiff]
          refine hK481 _ _ ?_
          rcases bool2 ((e15158.Kind : Int) == e15167.Kind && e15158.Text.toList == e15167.Text.toList) with hb15176 | hb15176
          · replace hM := ct hb15176 hM
            refine c_t hS rfl hb15176 ?_
            refine wp_seq_k fun K482 hK482 => ?_
            refine r_list ?_
            refine wl rfl (ky (v := v1) hS (y_move hS rfl) rfl rfl fun a hS => ?_)
            refine wl rfl (ky (v := .int .i64 k12085) hS (y_move hS rfl) rfl rfl fun a hS => ?_)
            obtain ⟨l15177, hl15177, hM⟩ := bd hM
            obtain ⟨v15178, hv15179, hw15181, hy15180⟩ := d_win (R := R_KeyD) hS sl23 ty32 0 rfl 0 rfl hl15177
            replace hS := hS.fact (WinF 2 v1 v15178 (Int.toNat k12085) (Int.toNat (s_0.length : Int)) s_0.length) hw15181
            refine wl rfl (ky (v := v15178) hS (hy15180 (k2 := .i64) rfl (.inl ⟨_, rfl, rfl⟩) (.inr ⟨rfl, rfl⟩)) rfl rfl fun a hS => ?_)
            refine wl rfl (ky (v := v15178) hS (y_assign hS rfl) rfl rfl fun a hS => ?_)
            refine wpList_nil ?_
            try simp only [Exit.then, Exit.inBlock, ↓reduceIte, Nat.reduceEqDiff]
            refine hK482 _ _ ?_
            refine seq_j (J := fun a w => ∃ (s15639 : (List KeyD)) (k15641 : Int) (cl15640 : (List Value)), St W0 (MD [.own v1 32 R_KeyD.size cl2]) T 61 [(0, v1), (3, .int .i64 k15641)] [.own v1 32 R_KeyD.size cl15640] [RowsF R_KeyD cl15640 s15639] a w ∧ compact_Key_j3 s15639 k15641 = some f1) ?_ ?_
            · skip
              refine wp_seq_k fun K498 hK498 => ?_
              refine r_list ?_
              refine wl rfl (ky (v := .int .i64 1) hS (y_assign hS rfl) rfl rfl fun a hS => ?_)
              refine wpList_nil ?_
              try simp only [Exit.then, Exit.inBlock, ↓reduceIte, Nat.reduceEqDiff]
              refine hK498 _ _ ?_
              refine wp_block ?_
              obtain ⟨r2, hl2, hMo2⟩ := bd hM
              refine wp_lp (fun s : (List KeyD) × Int × Int => compact_Key_l5 s_0 k12085 s.1 s.2.1 s.2.2) (fun s a w => ∃ (s15878 : (List KeyD)) (k15880 : Int) (k215881 : Int) (cl15879 : (List Value)), (s15878, k15880, k215881) = s ∧ St W0 (MD [.own v1 32 R_KeyD.size cl2]) T 61 [(0, v1), (3, .int .i64 k15880), (4, v15178), (5, .int .i64 k215881)] [.own v1 32 R_KeyD.size cl15879] [RowsF R_KeyD cl15879 s15878, WinF 2 v1 v15178 (Int.toNat k12085) (Int.toNat (s_0.length : Int)) s_0.length] a w) hl2 ⟨s_0, k12085, 1, cl2, rfl, (hS.meet [0] (by decide) ⟨rfl, rfl, rfl, rfl, trivial⟩ ⟨rfl, trivial⟩ ⟨⟨1, rfl⟩, ⟨0, rfl⟩, trivial⟩)⟩ ?_
              rintro s a w f2 ⟨s15878, k15880, k215881, cl15879, rfl, hS⟩ hM hf2
              have hM : compact_Key_l5 s_0 k12085 s15878 k15880 k215881 = some f2 := hM
              unfold compact_Key_l5 at hM
              refine wp_seq_k fun K511 hK511 => ?_
              refine wp_seq_k fun K512 hK512 => ?_
              refine r_list ?_
              refine wl rfl (ky (v := .int .i64 k215881) hS (y_move hS rfl) rfl rfl fun a hS => ?_)
              refine wl rfl (ky (v := v15178) hS (y_move hS rfl) rfl rfl fun a hS => ?_)
              refine wl rfl (ky (v := .int .i64 (((Int.toNat (s_0.length : Int)) - (Int.toNat k12085) : Nat) : Int)) hS (y_lenw hS sl23 rfl (hS.get 1 rfl)) rfl rfl fun a hS => ?_)
              refine wl rfl (ky (v := .bool (decide ((k215881 : Int) < (((Int.toNat (s_0.length : Int)) - (Int.toNat k12085) : Nat) : Int)))) hS (y_int hS rfl rfl rfl) rfl rfl fun a hS => ?_)
              refine wpList_nil ?_
              try simp only [Exit.then, Exit.inBlock, ↓reduceIte, Nat.reduceEqDiff]
              refine hK512 _ _ ?_
              rcases bool2 (decide ((k215881 : Int) < (((Int.toNat (s_0.length : Int)) - (Int.toNat k12085) : Nat) : Int))) with hb16109 | hb16109
              · replace hM := ct hb16109 hM
                refine c_t hS rfl hb16109 ?_
                refine wp_skip ?_
                try simp only [Exit.then, Exit.inBlock, ↓reduceIte, Nat.reduceEqDiff]
                refine hK511 _ _ ?_
                refine seq_j (J := fun a w => ∃ (s16219 : (List KeyD)) (k16221 : Int) (k216222 : Int) (cl16220 : (List Value)), St W0 (MD [.own v1 32 R_KeyD.size cl2]) T 61 [(0, v1), (3, .int .i64 k16221), (4, v15178), (5, .int .i64 k216222)] [.own v1 32 R_KeyD.size cl16220] [RowsF R_KeyD cl16220 s16219, WinF 2 v1 v15178 (Int.toNat k12085) (Int.toNat (s_0.length : Int)) s_0.length] a w ∧ compact_Key_j4 s16219 k16221 k216222 = some f2) ?_ ?_
                · skip
                  refine wp_block ?_
                  refine wp_seq_k fun K515 hK515 => ?_
                  refine draws [] hS mixed rfl (fun c a d v w h => by cases d <;> exact h) fun w hQ hS => ?_
                  refine dy 0 (v := v15178) rfl (by kernel_rfl) (by kernel_rfl) (by kernel_rfl) rfl hQ hS (y_move hS rfl) rfl rfl rfl fun a hS => ?_
                  refine dy 1 (v := .int .i64 k215881) rfl (by kernel_rfl) (by kernel_rfl) (by kernel_rfl) rfl hQ hS (y_move hS rfl) rfl rfl rfl fun a hS => ?_
                  obtain ⟨hg16289, hM⟩ := gd_some hM
                  obtain ⟨hg16290, hM⟩ := gd_some hM
                  obtain ⟨e16291, he16291, hM⟩ := bd hM
                  obtain ⟨b16292, o16293, p16298, cs16295, hr16294, hO16296, hC16297, hy16299⟩ := d_indexw (R := R_KeyD) hS sl23 ty32 0 rfl 0 rfl (hS.get 1 rfl) hg16289 hg16290 he16291
                  obtain rfl := hr16294
                  refine dy 2 (v := .pointer (some ⟨b16292, o16293, none⟩)) rfl (by kernel_rfl) (by kernel_rfl) (by kernel_rfl) rfl hQ hS (hy16299 rfl rfl) rfl rfl rfl fun a hS => ?_
                  refine dy (l := []) 3 (v := .agg #[.int .i64 e16291.Kind, .string e16291.Text]) rfl (by kernel_rfl) (by kernel_rfl) (by kernel_rfl) (by kernel_rfl) hQ hS (y_loado (k := 0) hS ty32 0 rfl hO16296 hC16297 rfl eo_nil (us := [.int .i64 e16291.Kind, .string e16291.Text]) rfl rfl (fun h => by cases h)) rfl rfl rfl fun a hS => ?_
                  refine dy 4 (v := v15178) rfl (by kernel_rfl) (by kernel_rfl) (by kernel_rfl) rfl hQ hS (y_move hS rfl) rfl rfl rfl fun a hS => ?_
                  refine dy 5 (v := .int .i64 k215881) rfl (by kernel_rfl) (by kernel_rfl) (by kernel_rfl) rfl hQ hS (y_move hS rfl) rfl rfl rfl fun a hS => ?_
                  refine dy 6 (v := .int .i64 (IntKind.i64.wrap (k215881 - 1))) rfl (by kernel_rfl) (by kernel_rfl) (by kernel_rfl) rfl hQ hS (y_int hS rfl rfl rfl) rfl rfl rfl fun a hS => ?_
                  obtain ⟨hg16300, hM⟩ := gd_some hM
                  obtain ⟨hg16301, hM⟩ := gd_some hM
                  obtain ⟨e16302, he16302, hM⟩ := bd hM
                  obtain ⟨b16303, o16304, p16309, cs16306, hr16305, hO16307, hC16308, hy16310⟩ := d_indexw (R := R_KeyD) hS sl23 ty32 0 rfl 0 rfl (hS.get 1 rfl) hg16300 hg16301 he16302
                  obtain rfl := hr16305
                  refine dy 7 (v := .pointer (some ⟨b16303, o16304, none⟩)) rfl (by kernel_rfl) (by kernel_rfl) (by kernel_rfl) rfl hQ hS (hy16310 rfl rfl) rfl rfl rfl fun a hS => ?_
                  refine dy (l := []) 8 (v := .agg #[.int .i64 e16302.Kind, .string e16302.Text]) rfl (by kernel_rfl) (by kernel_rfl) (by kernel_rfl) (by kernel_rfl) hQ hS (y_loado (k := 0) hS ty32 0 rfl hO16307 hC16308 rfl eo_nil (us := [.int .i64 e16302.Kind, .string e16302.Text]) rfl rfl (fun h => by cases h)) rfl rfl rfl fun a hS => ?_
                  refine dy 9 (v := .bool (!((e16291.Kind : Int) == e16302.Kind && e16291.Text.toList == e16302.Text.toList))) rfl (by kernel_rfl) (by kernel_rfl) (by kernel_rfl) rfl hQ hS (eq32n hS rfl rfl) rfl rfl rfl fun a hS => ?_
                  refine wpE_done (by kernel_rfl) ?_ _
                  try simp only [Exit.then, Exit.inBlock, ↓reduceIte, Nat.reduceEqDiff]
                  refine hK515 _ _ ?_
                  rcases bool2 (!((e16291.Kind : Int) == e16302.Kind && e16291.Text.toList == e16302.Text.toList)) with hb16311 | hb16311
                  · replace hM := ct hb16311 hM
                    refine c_t hS rfl hb16311 ?_
                    refine wp_seq_k fun K516 hK516 => ?_
                    refine r_list ?_
                    refine wl rfl (ky (v := v1) hS (y_move hS rfl) rfl rfl fun a hS => ?_)
                    refine wl rfl (ky (v := .int .i64 k15880) hS (y_move hS rfl) rfl rfl fun a hS => ?_)
                    refine wl rfl (ky (v := v15178) hS (y_move hS rfl) rfl rfl fun a hS => ?_)
                    refine wl rfl (ky (v := .int .i64 k215881) hS (y_move hS rfl) rfl rfl fun a hS => ?_)
                    obtain ⟨hg16312, hM⟩ := gd_some hM
                    obtain ⟨hg16313, hM⟩ := gd_some hM
                    obtain ⟨e16314, he16314, hM⟩ := bd hM
                    obtain ⟨b16315, o16316, p16321, cs16318, hr16317, hO16319, hC16320, hy16322⟩ := d_indexw (R := R_KeyD) hS sl23 ty32 0 rfl 0 rfl (hS.get 1 rfl) hg16312 hg16313 he16314
                    obtain rfl := hr16317
                    refine wl rfl (ky (v := .pointer (some ⟨b16315, o16316, none⟩)) hS (hy16322 rfl rfl) rfl rfl fun a hS => ?_)
                    refine wl rfl (ky (v := .agg #[.int .i64 e16314.Kind, .string e16314.Text]) hS (y_loado (k := 0) hS ty32 0 rfl hO16319 hC16320 rfl id (us := [.int .i64 e16314.Kind, .string e16314.Text]) rfl rfl (fun h => by cases h)) rfl rfl fun a hS => ?_)
                    obtain ⟨e16323, he16323, hM⟩ := bd hM
                    refine wl rfl (k_indexo (R := R_KeyD) hS sl23 ty32 rfl rfl 0 rfl 0 rfl he16323 rfl fun b16324 o16325 p16330 cs16327 hr16326 hO16328 hC16329 a hS => ?_)
                    obtain rfl := hr16326
                    refine wl rfl (k_storeo (R := R_KeyD) (k := 0) (cs := [.int .i64 e16323.Kind, .string e16323.Text]) (us := [.int .i64 e16314.Kind, .string e16314.Text]) (x' := e16314) hS rfl rfl rfl ty32 0 rfl 0 rfl hO16328 hC16329 he16323 rfl rfl rfl rfl fun cl16331 w hk hS => ?_)
                    refine wpList_nil ?_
                    try simp only [Exit.then, Exit.inBlock, ↓reduceIte, Nat.reduceEqDiff]
                    refine hK516 _ _ ?_
                    refine r_list ?_
                    refine wl rfl (ky (v := .int .i64 k15880) hS (y_move hS rfl) rfl rfl fun a hS => ?_)
                    refine wl rfl (ky (v := .int .i64 (IntKind.i64.wrap (k15880 + 1))) hS (y_int hS rfl rfl rfl) rfl rfl fun a hS => ?_)
                    refine wl rfl (ky (v := .int .i64 (IntKind.i64.wrap (k15880 + 1))) hS (y_assign hS rfl) rfl rfl fun a hS => ?_)
                    refine wpList_nil ?_
                    try simp only [Exit.then, Exit.inBlock, ↓reduceIte, Nat.reduceEqDiff]
                    exact ⟨(s15878.set (Int.toNat k15880) e16314), (IntKind.i64.wrap (k15880 + 1)), k215881, cl16331, (hS.meet [0] (by decide) ⟨rfl, rfl, rfl, rfl, trivial⟩ ⟨rfl, trivial⟩ ⟨⟨0, rfl⟩, ⟨2, rfl⟩, trivial⟩), hM⟩
                  · replace hM := cf hb16311 hM
                    refine c_f hS rfl hb16311 ?_
                    refine wp_skip ?_
                    try simp only [Exit.then, Exit.inBlock, ↓reduceIte, Nat.reduceEqDiff]
                    exact ⟨s15878, k15880, k215881, cl15879, (hS.meet [0] (by decide) ⟨rfl, rfl, rfl, rfl, trivial⟩ ⟨rfl, trivial⟩ ⟨⟨0, rfl⟩, ⟨1, rfl⟩, trivial⟩), hM⟩
                · rintro a w ⟨s16219, k16221, k216222, cl16220, hS, hM⟩
                  unfold compact_Key_j4 at hM
                  refine r_list ?_
                  refine wl rfl (ky (v := .int .i64 k216222) hS (y_move hS rfl) rfl rfl fun a hS => ?_)
                  refine wl rfl (ky (v := .int .i64 (IntKind.i64.wrap (k216222 + 1))) hS (y_int hS rfl rfl rfl) rfl rfl fun a hS => ?_)
                  refine wl rfl (ky (v := .int .i64 (IntKind.i64.wrap (k216222 + 1))) hS (y_assign hS rfl) rfl rfl fun a hS => ?_)
                  refine wpList_nil ?_
                  try simp only [Exit.then, Exit.inBlock, ↓reduceIte, Nat.reduceEqDiff]
                  exact ⟨(s16219, k16221, IntKind.i64.wrap (k216222 + 1)), (Option.some.inj hM).symm, s16219, k16221, (IntKind.i64.wrap (k216222 + 1)), cl16220, rfl, (hS.meet [0] (by decide) ⟨rfl, rfl, rfl, rfl, trivial⟩ ⟨rfl, trivial⟩ ⟨⟨0, rfl⟩, ⟨1, rfl⟩, trivial⟩)⟩
              · replace hM := cf hb16109 hM
                refine c_f hS rfl hb16109 ?_
                refine wp_exit ?_
                try simp only [Exit.then, Exit.inBlock, ↓reduceIte, Nat.reduceEqDiff]
                injection hM with hM
                subst hM
                have hr := hf2 _ rfl
                subst hr
                have hM : compact_Key_j3 s15878 k15880 = some f1 := hMo2
                exact ⟨s15878, k15880, cl15879, (hS.meet [0] (by decide) ⟨rfl, rfl, trivial⟩ ⟨rfl, trivial⟩ ⟨⟨0, rfl⟩, trivial⟩), hM⟩
            · rintro a w ⟨s15639, k15641, cl15640, hS, hM⟩
              unfold compact_Key_j3 at hM
              refine wp_seq_k fun K496 hK496 => ?_
              refine r_list ?_
              refine wl rfl (ky (v := v1) hS (y_move hS rfl) rfl rfl fun a hS => ?_)
              refine wl rfl (ky (v := .int .i64 k15641) hS (y_move hS rfl) rfl rfl fun a hS => ?_)
              obtain ⟨l15642, hl15642, hM⟩ := bd hM
              obtain ⟨v15643, hv15644, hw15646, hy15645⟩ := d_win (R := R_KeyD) hS sl23 ty32 0 rfl 0 rfl hl15642
              replace hS := hS.fact (WinF 2 v1 v15643 (Int.toNat k15641) (Int.toNat (s15639.length : Int)) s15639.length) hw15646
              refine wl rfl (ky (v := v15643) hS (hy15645 (k2 := .i64) rfl (.inl ⟨_, rfl, rfl⟩) (.inr ⟨rfl, rfl⟩)) rfl rfl fun a hS => ?_)
              refine wl rfl (k_clear (R := R_KeyD) (z0 := (KeyD.mk (0 : Int) (ByteArray.mk #[]))) (xs := s15639) hS el23 ze32 rfl 0 rfl 1 rfl (hS.get 0 rfl) rfl fun cl15647 w hk hS => ?_)
              refine wpList_nil ?_
              try simp only [Exit.then, Exit.inBlock, ↓reduceIte, Nat.reduceEqDiff]
              refine hK496 _ _ ?_
              refine wp_seq_k fun K497 hK497 => ?_
              refine r_list ?_
              refine wl rfl (ky (v := v1) hS (y_move hS rfl) rfl rfl fun a hS => ?_)
              refine wl rfl (ky (v := .int .i64 k15641) hS (y_move hS rfl) rfl rfl fun a hS => ?_)
              obtain ⟨l15648, hl15648, hM⟩ := bd hM
              refine wl rfl (k_subo (R := R_KeyD) (k1 := .i64) hS sl23 ty32 rfl (.inr ⟨rfl, rfl⟩) (.inl ⟨_, rfl, rfl⟩) 0 rfl 0 rfl hl15648 rfl fun v15649 cl15650 a hS => ?_)
              refine wl rfl (ky (v := v15649) hS (y_assign hS rfl) rfl rfl fun a hS => ?_)
              refine wpList_nil ?_
              try simp only [Exit.then, Exit.inBlock, ↓reduceIte, Nat.reduceEqDiff]
              refine hK497 _ _ ?_
              refine wp_ret ?_
              injection hM with hM
              subst hM
              have hr := hf1 _ rfl
              subst hr
              replace hMo1 := el_out hMo1
              have hM := hMo1
              injection hM with hM
              subst hM
              try simp only [Exit.then, Exit.inBlock, ↓reduceIte, Nat.reduceEqDiff]
              refine ret_ok hS Tryd.results52 (res_tmp hS rfl res_nil) ?_
              have hZ := hS.meet (G' := []) (D' := [.own v15649 32 R_KeyD.size cl15650]) (F' := [RowsF R_KeyD cl15650 l15648]) [0] (by decide) trivial ⟨rfl, trivial⟩ ⟨⟨0, rfl⟩, trivial⟩
              exact ⟨v15649, cl15650, rfl, (hZ.get 0 rfl), hZ.dnew⟩
          · replace hM := cf hb15176 hM
            refine c_f hS rfl hb15176 ?_
            refine wp_skip ?_
            try simp only [Exit.then, Exit.inBlock, ↓reduceIte, Nat.reduceEqDiff]
            exact ⟨(hS.meet [0] (by decide) ⟨rfl, rfl, trivial⟩ ⟨rfl, trivial⟩ ⟨⟨0, rfl⟩, trivial⟩), hM⟩
        · rintro a w ⟨hS, hM⟩
          unfold compact_Key_j2 at hM
          refine r_list ?_
          refine wl rfl (ky (v := .int .i64 k12085) hS (y_move hS rfl) rfl rfl fun a hS => ?_)
          refine wl rfl (ky (v := .int .i64 (IntKind.i64.wrap (k12085 + 1))) hS (y_int hS rfl rfl rfl) rfl rfl fun a hS => ?_)
          refine wl rfl (ky (v := .int .i64 (IntKind.i64.wrap (k12085 + 1))) hS (y_assign hS rfl) rfl rfl fun a hS => ?_)
          refine wpList_nil ?_
          try simp only [Exit.then, Exit.inBlock, ↓reduceIte, Nat.reduceEqDiff]
          exact ⟨IntKind.i64.wrap (k12085 + 1), (Option.some.inj hM).symm, (IntKind.i64.wrap (k12085 + 1)), rfl, (hS.meet [0] (by decide) ⟨rfl, rfl, trivial⟩ ⟨rfl, trivial⟩ ⟨⟨0, rfl⟩, trivial⟩)⟩
      · replace hM := cf hb14098 hM
        refine c_f hS rfl hb14098 ?_
        refine wp_exit ?_
        try simp only [Exit.then, Exit.inBlock, ↓reduceIte, Nat.reduceEqDiff]
        injection hM with hM
        subst hM
        have hr := hf1 _ rfl
        subst hr
        replace hMo1 := el_go hMo1
        have hM : compact_Key_j1 s_0 = some y := hMo1
        exact ⟨(hS.meet [0] (by decide) ⟨rfl, trivial⟩ ⟨rfl, trivial⟩ ⟨⟨0, rfl⟩, trivial⟩), hM⟩
    · rintro a w ⟨hS, hM⟩
      unfold compact_Key_j1 at hM
      refine wp_seq_k fun K323 hK323 => ?_
      refine r_list ?_
      refine wl rfl (ky (v := v1) hS (y_move hS rfl) rfl rfl fun a hS => ?_)
      refine wl rfl (ky (v := v1) hS (y_assign hS rfl) rfl rfl fun a hS => ?_)
      refine wpList_nil ?_
      try simp only [Exit.then, Exit.inBlock, ↓reduceIte, Nat.reduceEqDiff]
      refine hK323 _ _ ?_
      refine wp_ret ?_
      injection hM with hM
      subst hM
      try simp only [Exit.then, Exit.inBlock, ↓reduceIte, Nat.reduceEqDiff]
      refine ret_ok hS Tryd.results52 (res_tmp hS rfl res_nil) ?_
      have hZ := hS.meet (G' := []) (D' := [.own v1 32 R_KeyD.size cl2]) (F' := [RowsF R_KeyD cl2 s_0]) [0] (by decide) trivial ⟨rfl, trivial⟩ ⟨⟨0, rfl⟩, trivial⟩
      exact ⟨v1, cl2, rfl, (hZ.get 0 rfl), hZ.dnew⟩

noncomputable def key_Sorted (l_0 : (List KeyD)) : Option (List KeyD) := (clone_Key l_0).bind fun u13 => gd (roomB u13.length) <| (compact_Key (sortK u13)).bind fun u20 => some (u20)
set_option maxRecDepth 100000 in
set_option maxHeartbeats 4000000 in
theorem key_Sorted_c (T : Nat → Prop) (W0 : World) (hT : ∀ k, T k → k < W0.heap.size) (hLv : LvP T W0) (l_0 : (List KeyD)) (v1 : Value) (hv1 : SlR R_KeyD T W0 v1 l_0) (y : (List KeyD)) (hM : key_Sorted l_0 = some y) : Rets Tryd.prog No 39 [v1] W0 (fun v w' => ∃ (v2 : Value) (cl3 : List Value), v = v2 ∧ OwnR R_KeyD T W0 w' [.own v2 32 R_KeyD.size cl3] 32 v2 cl3 y) := by
  refine enter (c := _) Tryd.func39 rfl T 10 Tryd.ntmps39 hT rfl fun a hS => ?_
  replace hS := hS.fact LvF (LvP.dn hLv)
  replace hS := hS.fact (SlF R_KeyD v1 l_0) (SlR.dn hv1)
  unfold key_Sorted at hM
  refine wp_seq_k fun K5 hK5 => ?_
  refine r_list ?_
  refine wl rfl (ky (v := .slice none 0 0) hS (y_assign hS rfl) rfl rfl fun a hS => ?_)
  refine wpList_nil ?_
  try simp only [Exit.then, Exit.inBlock, ↓reduceIte, Nat.reduceEqDiff]
  refine hK5 _ _ ?_
  refine wp_seq_k fun K6 hK6 => ?_
  refine r_list ?_
  refine wl rfl (ky (v := v1) hS (y_move hS rfl) rfl rfl fun a hS => ?_)
  obtain ⟨u13, hu13, hM⟩ := bd hM
  refine wl rfl (k_call hS ci49 rfl rfl (clone_Key_c _ _ hS.dlt l_0 _ (hS.get 0 rfl) _ hu13) fun _ w hR a hk hA => ?_)
  obtain ⟨vz14_2, clz14_3, he, ⟨hOvz14_2, hFvz14_2, hRvz14_2⟩⟩ := hR
  replace he := he.symm
  subst he
  have hS := hA [.own vz14_2 32 R_KeyD.size clz14_3] (adds1 ⟨hOvz14_2, by decide⟩ hFvz14_2) (pw1 _)
  replace hS := hS.fact (RowsF R_KeyD clz14_3 u13) (hRvz14_2.keep (Kt.refl _ _) (dT_dT _))
  refine wl rfl (ky (v := vz14_2) hS (y_assign hS rfl) rfl rfl fun a hS => ?_)
  refine wpList_nil ?_
  try simp only [Exit.then, Exit.inBlock, ↓reduceIte, Nat.reduceEqDiff]
  refine hK6 _ _ ?_
  refine wp_seq_k fun K7 hK7 => ?_
  refine r_list ?_
  refine wl rfl (ky (v := vz14_2) hS (y_move hS rfl) rfl rfl fun a hS => ?_)
  obtain ⟨hg16, hM⟩ := gd_some hM
  replace hS := (show St W0 No T 10 _ ([.own vz14_2 32 R_KeyD.size clz14_3] ++ []) _ _ _ from hS)
  refine wl rfl (k_callD (D0 := [.own vz14_2 32 R_KeyD.size clz14_3]) (Dr := []) hS ci50 rfl rfl (sortKey_c _ _ _ _ _ hS.dok (hS.getD 0 rfl) hg16) fun _ w hR a hk hA => ?_)
  obtain ⟨he, cl17, hR19, hN18⟩ := hR
  subst he
  have hS := hA _ hN18
  replace hS := (show St W0 No T 10 _ [.own vz14_2 32 R_KeyD.size cl17] _ _ _ from hS)
  replace hS := hS.fact (RowsF R_KeyD cl17 (sortK u13)) (hR19.keep (Kt.refl _ _) (dT_join _))
  refine wpList_nil ?_
  try simp only [Exit.then, Exit.inBlock, ↓reduceIte, Nat.reduceEqDiff]
  refine hK7 _ _ ?_
  refine wp_seq_k fun K8 hK8 => ?_
  refine r_list ?_
  refine wl rfl (ky (v := vz14_2) hS (y_move hS rfl) rfl rfl fun a hS => ?_)
  have hL := hS
  obtain ⟨u20, hu20, hM⟩ := bd hM
  replace hS := (show St W0 No T 10 _ ([.own vz14_2 32 R_KeyD.size cl17] ++ []) _ _ _ from hS)
  refine wl rfl (k_callD (D0 := [.own vz14_2 32 R_KeyD.size cl17]) (Dr := []) hS ci52 rfl rfl (compact_Key_c _ _ hS.dltD (sortK u13) _ _ hS.dok (hS.getD 0 rfl) _ hu20) fun _ w hR a hk hA => ?_)
  obtain ⟨vz21_3, clz21_4, he, hRvz21_3, hN22⟩ := hR
  replace he := he.symm
  subst he
  have hS := hA _ hN22
  replace hS := (show St W0 No T 10 _ [.own vz21_3 32 R_KeyD.size clz21_4] _ _ _ from hS)
  replace hS := hS.fact (RowsF R_KeyD clz21_4 u20) (hRvz21_3.keep (Kt.refl _ _) (dT_join _))
  refine wl rfl (ky (v := vz21_3) hS (y_assign hS rfl) rfl rfl fun a hS => ?_)
  refine wpList_nil ?_
  try simp only [Exit.then, Exit.inBlock, ↓reduceIte, Nat.reduceEqDiff]
  refine hK8 _ _ ?_
  refine wp_ret ?_
  injection hM with hM
  subst hM
  try simp only [Exit.then, Exit.inBlock, ↓reduceIte, Nat.reduceEqDiff]
  refine ret_ok hS Tryd.results39 (res_tmp hS rfl res_nil) ?_
  exact ⟨vz21_3, clz21_4, rfl, hS.retOwn ⟨.inr (List.mem_of_getElem? (i := 0) rfl), trivial⟩ 0 rfl 0 rfl⟩
end Go.Proofs.YtdappapdddnciaaDoor
