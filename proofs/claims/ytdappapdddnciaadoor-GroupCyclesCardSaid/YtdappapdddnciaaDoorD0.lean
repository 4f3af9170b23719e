/- What functions of the program compute; that they do. -/
import Derived.Test.YtdappapdddnciaaDoorMT
set_option linter.unusedVariables false
set_option linter.unusedSimpArgs false
namespace Go.Proofs.YtdappapdddnciaaDoor
open Go.RowKit
noncomputable def key_language_j1 (g7 : Bool) : Option Bool := some (g7)
noncomputable def key_language (kind_ : Int) : Option Bool := cond (decide ((1 : Int) ≤ kind_)) (key_language_j1 (decide ((kind_ : Int) ≤ 22))) (key_language_j1 false)
set_option maxRecDepth 100000 in
set_option maxHeartbeats 4000000 in
theorem key_language_c (T : Nat → Prop) (W0 : World) (hT : ∀ k, T k → k < W0.heap.size) (kind_ : Int) (y : Bool) (hM : key_language kind_ = some y) : Rets Tryd.prog No 47 [.int .i64 kind_] W0 (fun v w' => v = .bool y) := by
  refine enter (c := _) Tryd.func47 rfl T 9 Tryd.ntmps47 hT rfl fun a hS => ?_
  unfold key_language at hM
  refine wp_seq_k fun K2 hK2 => ?_
  refine r_list ?_
  refine wl rfl (ky (v := .bool false) hS (y_assign hS rfl) rfl rfl fun a hS => ?_)
  refine wpList_nil ?_
  try simp only [Exit.then, Exit.inBlock, ↓reduceIte, Nat.reduceEqDiff]
  refine hK2 _ _ ?_
  refine seq_j (J := fun a w => ∃ (g7 : Bool), St W0 No T 9 [(2, .bool g7)] [] [] a w ∧ key_language_j1 g7 = some y) ?_ ?_
  · skip
    refine r_list ?_
    refine wl rfl (ky (v := .int .i64 kind_) hS (y_move hS rfl) rfl rfl fun a hS => ?_)
    refine wl rfl (ky (v := .bool (decide ((1 : Int) ≤ kind_))) hS (y_int hS rfl rfl rfl) rfl rfl fun a hS => ?_)
    refine wl rfl (ky (v := .bool (decide ((1 : Int) ≤ kind_))) hS (y_move hS rfl) rfl rfl fun a hS => ?_)
    rcases bool2 (decide ((1 : Int) ≤ kind_)) with hb8 | hb8
    · replace hM := ct hb8 hM
      refine wg hS rfl rfl rfl hb8 (ky (v := .int .i64 kind_) hS (y_move hS rfl) rfl rfl fun a hS => ?_)
      refine wg hS rfl rfl rfl hb8 (ky (v := .bool (decide ((kind_ : Int) ≤ 22))) hS (y_int hS rfl rfl rfl) rfl rfl fun a hS => ?_)
      refine wl rfl (ky (v := .bool (decide ((kind_ : Int) ≤ 22))) hS (y_pickt hS rfl hb8 rfl) rfl rfl fun a hS => ?_)
      refine wl rfl (ky (v := .bool (decide ((kind_ : Int) ≤ 22))) hS (y_assign hS rfl) rfl rfl fun a hS => ?_)
      refine wpList_nil ?_
      try simp only [Exit.then, Exit.inBlock, ↓reduceIte, Nat.reduceEqDiff]
      exact ⟨(decide ((kind_ : Int) ≤ 22)), (hS.meet [] (by decide) ⟨rfl, trivial⟩ trivial trivial), hM⟩
    · replace hM := cf hb8 hM
      refine wn hS rfl rfl rfl hb8 rfl rfl fun a hS => ?_
      refine wn hS rfl rfl rfl hb8 rfl rfl fun a hS => ?_
      refine wl rfl (ky (v := .bool false) hS (y_pickf hS rfl hb8 rfl) rfl rfl fun a hS => ?_)
      refine wl rfl (ky (v := .bool false) hS (y_assign hS rfl) rfl rfl fun a hS => ?_)
      refine wpList_nil ?_
      try simp only [Exit.then, Exit.inBlock, ↓reduceIte, Nat.reduceEqDiff]
      exact ⟨false, (hS.meet [] (by decide) ⟨rfl, trivial⟩ trivial trivial), hM⟩
  · rintro a w ⟨g7, hS, hM⟩
    unfold key_language_j1 at hM
    refine wp_ret ?_
    injection hM with hM
    subst hM
    try simp only [Exit.then, Exit.inBlock, ↓reduceIte, Nat.reduceEqDiff]
    refine ret_ok hS Tryd.results47 (res_tmp hS rfl res_nil) ?_
    exact rfl

noncomputable def queries_Cyclic_j1 : Option Bool := some (false)
noncomputable def queries_Cyclic_j2 (g28 : Bool) : Option Bool := cond g28 (some (true)) (queries_Cyclic_j1)
noncomputable def queries_Cyclic (kind_ : Int) : Option Bool := cond ((kind_ : Int) == 7) (queries_Cyclic_j2 ((kind_ : Int) == 7)) (cond ((kind_ : Int) == 14) (queries_Cyclic_j2 ((kind_ : Int) == 14)) (cond ((kind_ : Int) == 17) (queries_Cyclic_j2 ((kind_ : Int) == 17)) (queries_Cyclic_j2 ((kind_ : Int) == 18))))
set_option maxRecDepth 100000 in
set_option maxHeartbeats 4000000 in
theorem queries_Cyclic_c (T : Nat → Prop) (W0 : World) (hT : ∀ k, T k → k < W0.heap.size) (kind_ : Int) (y : Bool) (hM : queries_Cyclic kind_ = some y) : Rets Tryd.prog No 48 [.int .i64 kind_] W0 (fun v w' => v = .bool y) := by
  refine enter (c := _) Tryd.func48 rfl T 9 Tryd.ntmps48 hT rfl fun a hS => ?_
  unfold queries_Cyclic at hM
  refine wp_seq_k fun K19 hK19 => ?_
  refine r_list ?_
  refine wl rfl (ky (v := .bool false) hS (y_assign hS rfl) rfl rfl fun a hS => ?_)
  refine wpList_nil ?_
  try simp only [Exit.then, Exit.inBlock, ↓reduceIte, Nat.reduceEqDiff]
  refine hK19 _ _ ?_
  refine seq_j (J := fun a w => St W0 No T 9 [] [] [] a w ∧ queries_Cyclic_j1 = some y) ?_ ?_
  · skip
    refine wp_seq_k fun K29 hK29 => ?_
    refine r_list ?_
    refine wl rfl (ky (v := .int .i64 kind_) hS (y_move hS rfl) rfl rfl fun a hS => ?_)
    refine wpList_nil ?_
    try simp only [Exit.then, Exit.inBlock, ↓reduceIte, Nat.reduceEqDiff]
    refine hK29 _ _ ?_
    refine wp_block ?_
    refine seq_j (J := fun a w => ∃ (g28 : Bool), St W0 No T 9 [(4, .bool g28)] [] [] a w ∧ queries_Cyclic_j2 g28 = some y) ?_ ?_
    · skip
      refine wp_seq_k fun K34 hK34 => ?_
      refine r_list ?_
      refine wl rfl (ky (v := .bool ((kind_ : Int) == 7)) hS (y_int hS rfl rfl rfl) rfl rfl fun a hS => ?_)
      refine wl rfl (ky (v := .bool ((kind_ : Int) == 7)) hS (y_assign hS rfl) rfl rfl fun a hS => ?_)
      refine wpList_nil ?_
      try simp only [Exit.then, Exit.inBlock, ↓reduceIte, Nat.reduceEqDiff]
      refine hK34 _ _ ?_
      rcases bool2 ((kind_ : Int) == 7) with hb30 | hb30
      · replace hM := ct hb30 hM
        refine c_t hS rfl hb30 ?_
        refine wp_skip ?_
        try simp only [Exit.then, Exit.inBlock, ↓reduceIte, Nat.reduceEqDiff]
        exact ⟨((kind_ : Int) == 7), (hS.meet [] (by decide) ⟨rfl, trivial⟩ trivial trivial), hM⟩
      · replace hM := cf hb30 hM
        refine c_f hS rfl hb30 ?_
        refine wp_seq_k fun K35 hK35 => ?_
        refine r_list ?_
        refine wl rfl (ky (v := .bool ((kind_ : Int) == 14)) hS (y_int hS rfl rfl rfl) rfl rfl fun a hS => ?_)
        refine wl rfl (ky (v := .bool ((kind_ : Int) == 14)) hS (y_assign hS rfl) rfl rfl fun a hS => ?_)
        refine wpList_nil ?_
        try simp only [Exit.then, Exit.inBlock, ↓reduceIte, Nat.reduceEqDiff]
        refine hK35 _ _ ?_
        rcases bool2 ((kind_ : Int) == 14) with hb31 | hb31
        · replace hM := ct hb31 hM
          refine c_t hS rfl hb31 ?_
          refine wp_skip ?_
          try simp only [Exit.then, Exit.inBlock, ↓reduceIte, Nat.reduceEqDiff]
          exact ⟨((kind_ : Int) == 14), (hS.meet [] (by decide) ⟨rfl, trivial⟩ trivial trivial), hM⟩
        · replace hM := cf hb31 hM
          refine c_f hS rfl hb31 ?_
          refine wp_seq_k fun K36 hK36 => ?_
          refine r_list ?_
          refine wl rfl (ky (v := .bool ((kind_ : Int) == 17)) hS (y_int hS rfl rfl rfl) rfl rfl fun a hS => ?_)
          refine wl rfl (ky (v := .bool ((kind_ : Int) == 17)) hS (y_assign hS rfl) rfl rfl fun a hS => ?_)
          refine wpList_nil ?_
          try simp only [Exit.then, Exit.inBlock, ↓reduceIte, Nat.reduceEqDiff]
          refine hK36 _ _ ?_
          rcases bool2 ((kind_ : Int) == 17) with hb32 | hb32
          · replace hM := ct hb32 hM
            refine c_t hS rfl hb32 ?_
            refine wp_skip ?_
            try simp only [Exit.then, Exit.inBlock, ↓reduceIte, Nat.reduceEqDiff]
            exact ⟨((kind_ : Int) == 17), (hS.meet [] (by decide) ⟨rfl, trivial⟩ trivial trivial), hM⟩
          · replace hM := cf hb32 hM
            refine c_f hS rfl hb32 ?_
            refine r_list ?_
            refine wl rfl (ky (v := .bool ((kind_ : Int) == 18)) hS (y_int hS rfl rfl rfl) rfl rfl fun a hS => ?_)
            refine wl rfl (ky (v := .bool ((kind_ : Int) == 18)) hS (y_assign hS rfl) rfl rfl fun a hS => ?_)
            refine wpList_nil ?_
            try simp only [Exit.then, Exit.inBlock, ↓reduceIte, Nat.reduceEqDiff]
            exact ⟨((kind_ : Int) == 18), (hS.meet [] (by decide) ⟨rfl, trivial⟩ trivial trivial), hM⟩
    · rintro a w ⟨g28, hS, hM⟩
      unfold queries_Cyclic_j2 at hM
      rcases bool2 (g28) with hb29 | hb29
      · replace hM := ct hb29 hM
        refine c_t hS rfl hb29 ?_
        refine wp_seq_k fun K33 hK33 => ?_
        refine r_list ?_
        refine wl rfl (ky (v := .bool true) hS (y_assign hS rfl) rfl rfl fun a hS => ?_)
        refine wpList_nil ?_
        try simp only [Exit.then, Exit.inBlock, ↓reduceIte, Nat.reduceEqDiff]
        refine hK33 _ _ ?_
        refine wp_ret ?_
        injection hM with hM
        subst hM
        try simp only [Exit.then, Exit.inBlock, ↓reduceIte, Nat.reduceEqDiff]
        refine ret_ok hS Tryd.results48 (res_tmp hS rfl res_nil) ?_
        exact rfl
      · replace hM := cf hb29 hM
        refine c_f hS rfl hb29 ?_
        refine wp_skip ?_
        try simp only [Exit.then, Exit.inBlock, ↓reduceIte, Nat.reduceEqDiff]
        exact ⟨(hS.meet [] (by decide) trivial trivial trivial), hM⟩
  · rintro a w ⟨hS, hM⟩
    unfold queries_Cyclic_j1 at hM
    refine wp_seq_k fun K28 hK28 => ?_
    refine r_list ?_
    refine wl rfl (ky (v := .bool false) hS (y_assign hS rfl) rfl rfl fun a hS => ?_)
    refine wpList_nil ?_
    try simp only [Exit.then, Exit.inBlock, ↓reduceIte, Nat.reduceEqDiff]
    refine hK28 _ _ ?_
    refine wp_ret ?_
    injection hM with hM
    subst hM
    try simp only [Exit.then, Exit.inBlock, ↓reduceIte, Nat.reduceEqDiff]
    refine ret_ok hS Tryd.results48 (res_tmp hS rfl res_nil) ?_
    exact rfl

noncomputable def key_Cyclic_j1 (g38 : Bool) : Option Bool := some (g38)
noncomputable def key_Cyclic (k_0 : KeyD) : Option Bool := cond ((k_0.Kind : Int) == 32) (key_Cyclic_j1 true) ((key_language k_0.Kind).bind fun u40 => cond u40 ((queries_Cyclic k_0.Kind).bind fun u43 => key_Cyclic_j1 u43) (key_Cyclic_j1 false))
set_option maxRecDepth 100000 in
set_option maxHeartbeats 4000000 in
theorem key_Cyclic_c (T : Nat → Prop) (W0 : World) (hT : ∀ k, T k → k < W0.heap.size) (k_0 : KeyD) (y : Bool) (hM : key_Cyclic k_0 = some y) : Rets Tryd.prog No 38 [.agg #[.int .i64 k_0.Kind, .string k_0.Text]] W0 (fun v w' => v = .bool y) := by
  refine enter (c := _) Tryd.func38 rfl T 16 Tryd.ntmps38 hT rfl fun a hS => ?_
  unfold key_Cyclic at hM
  refine wp_seq_k fun K2 hK2 => ?_
  refine r_list ?_
  refine wl rfl (k_box hS rfl (cs := [.int .i64 k_0.Kind, .string k_0.Text]) rfl rfl fun b23 hnb25 a w hk hS => ?_)
  refine wl rfl (ky (v := .bool false) hS (y_assign hS rfl) rfl rfl fun a hS => ?_)
  refine wpList_nil ?_
  try simp only [Exit.then, Exit.inBlock, ↓reduceIte, Nat.reduceEqDiff]
  refine hK2 _ _ ?_
  refine seq_j (J := fun a w => ∃ (g38 : Bool), St W0 No T 16 [(2, .bool g38)] [] [] a w ∧ key_Cyclic_j1 g38 = some y) ?_ ?_
  · skip
    refine r_list ?_
    refine wl rfl (ky (v := .pointer (some ⟨b23, 0 + 0, none⟩)) hS (y_fld hS rfl fl32_0) rfl rfl fun a hS => ?_)
    refine wl rfl (ky (v := .int .i64 k_0.Kind) hS (y_load hS rfl ty3 0 rfl id (us := [.int .i64 k_0.Kind]) rfl rfl (fun _ => rfl)) rfl rfl fun a hS => ?_)
    refine wl rfl (ky (v := .bool ((k_0.Kind : Int) == 32)) hS (y_int hS rfl rfl rfl) rfl rfl fun a hS => ?_)
    refine wl rfl (ky (v := .bool ((k_0.Kind : Int) == 32)) hS (y_move hS rfl) rfl rfl fun a hS => ?_)
    rcases bool2 ((k_0.Kind : Int) == 32) with hb39 | hb39
    · replace hM := ct hb39 hM
      refine wn hS rfl rfl rfl hb39 rfl rfl fun a hS => ?_
      refine wn hS rfl rfl rfl hb39 rfl rfl fun a hS => ?_
      refine wn hS rfl rfl rfl hb39 rfl rfl fun a hS => ?_
      refine wn hS rfl rfl rfl hb39 rfl rfl fun a hS => ?_
      refine wnu hS rfl rfl rfl rfl rfl fun a hS => ?_
      refine wnu hS rfl rfl rfl rfl rfl fun a hS => ?_
      refine wnu hS rfl rfl rfl rfl rfl fun a hS => ?_
      refine wn hS rfl rfl rfl hb39 rfl rfl fun a hS => ?_
      refine wl rfl (ky (v := .bool true) hS (y_pickt hS rfl hb39 rfl) rfl rfl fun a hS => ?_)
      refine wl rfl (ky (v := .bool true) hS (y_assign hS rfl) rfl rfl fun a hS => ?_)
      refine wpList_nil ?_
      try simp only [Exit.then, Exit.inBlock, ↓reduceIte, Nat.reduceEqDiff]
      exact ⟨true, (hS.meet [] (by decide) ⟨rfl, trivial⟩ trivial trivial), hM⟩
    · replace hM := cf hb39 hM
      refine wg hS rfl rfl rfl hb39 (ky (v := .pointer (some ⟨b23, 0 + 0, none⟩)) hS (y_fld hS rfl fl32_0) rfl rfl fun a hS => ?_)
      refine wg hS rfl rfl rfl hb39 (ky (v := .int .i64 k_0.Kind) hS (y_load hS rfl ty3 0 rfl id (us := [.int .i64 k_0.Kind]) rfl rfl (fun _ => rfl)) rfl rfl fun a hS => ?_)
      obtain ⟨u40, hu40, hM⟩ := bd hM
      refine wg hS rfl rfl rfl hb39 (k_call hS ci47 rfl rfl (key_language_c _ _ hS.dlt k_0.Kind _ hu40) fun _ w hR a hk hA => ?_)
      have he := Eq.symm hR
      subst he
      have hS := hA [] (fun r hr => by cases hr) List.Pairwise.nil
      refine wg hS rfl rfl rfl hb39 (ky (v := .bool u40) hS (y_move hS rfl) rfl rfl fun a hS => ?_)
      rcases bool2 (u40) with hb42 | hb42
      · replace hM := ct hb42 hM
        refine wg hS rfl rfl rfl hb42 (ky (v := .pointer (some ⟨b23, 0 + 0, none⟩)) hS (y_fld hS rfl fl32_0) rfl rfl fun a hS => ?_)
        refine wg hS rfl rfl rfl hb42 (ky (v := .int .i64 k_0.Kind) hS (y_load hS rfl ty3 0 rfl id (us := [.int .i64 k_0.Kind]) rfl rfl (fun _ => rfl)) rfl rfl fun a hS => ?_)
        obtain ⟨u43, hu43, hM⟩ := bd hM
        refine wg hS rfl rfl rfl hb42 (k_call hS ci48 rfl rfl (queries_Cyclic_c _ _ hS.dlt k_0.Kind _ hu43) fun _ w hR a hk hA => ?_)
        have he := Eq.symm hR
        subst he
        have hS := hA [] (fun r hr => by cases hr) List.Pairwise.nil
        refine wg hS rfl rfl rfl hb39 (ky (v := .bool u43) hS (y_pickt hS rfl hb42 rfl) rfl rfl fun a hS => ?_)
        refine wl rfl (ky (v := .bool u43) hS (y_pickf hS rfl hb39 rfl) rfl rfl fun a hS => ?_)
        refine wl rfl (ky (v := .bool u43) hS (y_assign hS rfl) rfl rfl fun a hS => ?_)
        refine wpList_nil ?_
        try simp only [Exit.then, Exit.inBlock, ↓reduceIte, Nat.reduceEqDiff]
        exact ⟨u43, (hS.meet [] (by decide) ⟨rfl, trivial⟩ trivial trivial), hM⟩
      · replace hM := cf hb42 hM
        refine wn hS rfl rfl rfl hb42 rfl rfl fun a hS => ?_
        refine wn hS rfl rfl rfl hb42 rfl rfl fun a hS => ?_
        refine wn hS rfl rfl rfl hb42 rfl rfl fun a hS => ?_
        refine wg hS rfl rfl rfl hb39 (ky (v := .bool false) hS (y_pickf hS rfl hb42 rfl) rfl rfl fun a hS => ?_)
        refine wl rfl (ky (v := .bool false) hS (y_pickf hS rfl hb39 rfl) rfl rfl fun a hS => ?_)
        refine wl rfl (ky (v := .bool false) hS (y_assign hS rfl) rfl rfl fun a hS => ?_)
        refine wpList_nil ?_
        try simp only [Exit.then, Exit.inBlock, ↓reduceIte, Nat.reduceEqDiff]
        exact ⟨false, (hS.meet [] (by decide) ⟨rfl, trivial⟩ trivial trivial), hM⟩
  · rintro a w ⟨g38, hS, hM⟩
    unfold key_Cyclic_j1 at hM
    refine wp_ret ?_
    injection hM with hM
    subst hM
    try simp only [Exit.then, Exit.inBlock, ↓reduceIte, Nat.reduceEqDiff]
    refine ret_ok hS Tryd.results38 (res_tmp hS rfl res_nil) ?_
    exact rfl

noncomputable def group_Open_j1 (g28 : Bool) : Option Bool := some (g28)
noncomputable def group_Open (r_0 : RecordD) (revision_ : Int) : Option Bool := (key_Cyclic r_0.Key).bind fun u29 => cond u29 (cond (decide ((r_0.Verified : Int) < revision_)) (group_Open_j1 (!(r_0.Dirty))) (group_Open_j1 false)) (group_Open_j1 false)
set_option maxRecDepth 100000 in
set_option maxHeartbeats 4000000 in
theorem group_Open_c (T : Nat → Prop) (W0 : World) (hT : ∀ k, T k → k < W0.heap.size) (r_0 : RecordD) (revision_ : Int) (v1 : Value) (hv1 : SlR R_KeyD T W0 v1 r_0.Reads) (y : Bool) (hM : group_Open r_0 revision_ = some y) : Rets Tryd.prog No 26 [.agg #[.int .i64 r_0.Key.Kind, .string r_0.Key.Text, .string r_0.Value, v1, .int .i64 r_0.Changed, .int .i64 r_0.Verified, .int .i64 r_0.Cost, .bool r_0.Dirty], .int .i64 revision_] W0 (fun v w' => v = .bool y) := by
  refine enter (c := _) Tryd.func26 rfl T 19 Tryd.ntmps26 hT rfl fun a hS => ?_
  replace hS := hS.fact (SlF R_KeyD v1 r_0.Reads) (SlR.dn hv1)
  unfold group_Open at hM
  refine wp_seq_k fun K2 hK2 => ?_
  refine r_list ?_
  refine wl rfl (k_box hS rfl (cs := [.int .i64 r_0.Key.Kind, .string r_0.Key.Text, .string r_0.Value, v1, .int .i64 r_0.Changed, .int .i64 r_0.Verified, .int .i64 r_0.Cost, .bool r_0.Dirty]) rfl rfl fun b17 hnb19 a w hk hS => ?_)
  refine wl rfl (ky (v := .bool false) hS (y_assign hS rfl) rfl rfl fun a hS => ?_)
  refine wpList_nil ?_
  try simp only [Exit.then, Exit.inBlock, ↓reduceIte, Nat.reduceEqDiff]
  refine hK2 _ _ ?_
  refine seq_j (J := fun a w => ∃ (g28 : Bool), St W0 No T 19 [(4, .bool g28)] [] [] a w ∧ group_Open_j1 g28 = some y) ?_ ?_
  · skip
    refine r_list ?_
    refine wl rfl (ky (v := .pointer (some ⟨b17, 0 + 0, none⟩)) hS (y_fld hS rfl fl34_0) rfl rfl fun a hS => ?_)
    refine wl rfl (ky (v := .agg #[.int .i64 r_0.Key.Kind, .string r_0.Key.Text]) hS (y_load hS rfl ty32 0 rfl id (us := [.int .i64 r_0.Key.Kind, .string r_0.Key.Text]) rfl rfl (fun h => by cases h)) rfl rfl fun a hS => ?_)
    obtain ⟨u29, hu29, hM⟩ := bd hM
    refine wl rfl (k_call hS ci38 rfl rfl (key_Cyclic_c _ _ hS.dlt r_0.Key _ hu29) fun _ w hR a hk hA => ?_)
    have he := Eq.symm hR
    subst he
    have hS := hA [] (fun r hr => by cases hr) List.Pairwise.nil
    refine wl rfl (ky (v := .bool u29) hS (y_move hS rfl) rfl rfl fun a hS => ?_)
    rcases bool2 (u29) with hb31 | hb31
    · replace hM := ct hb31 hM
      refine wg hS rfl rfl rfl hb31 (ky (v := .pointer (some ⟨b17, 0 + 5, none⟩)) hS (y_fld hS rfl fl34_4) rfl rfl fun a hS => ?_)
      refine wg hS rfl rfl rfl hb31 (ky (v := .int .i64 r_0.Verified) hS (y_load hS rfl ty3 0 rfl id (us := [.int .i64 r_0.Verified]) rfl rfl (fun _ => rfl)) rfl rfl fun a hS => ?_)
      refine wg hS rfl rfl rfl hb31 (ky (v := .int .i64 revision_) hS (y_move hS rfl) rfl rfl fun a hS => ?_)
      refine wg hS rfl rfl rfl hb31 (ky (v := .bool (decide ((r_0.Verified : Int) < revision_))) hS (y_int hS rfl rfl rfl) rfl rfl fun a hS => ?_)
      refine wl rfl (ky (v := .bool (decide ((r_0.Verified : Int) < revision_))) hS (y_pickt hS rfl hb31 rfl) rfl rfl fun a hS => ?_)
      refine wl rfl (ky (v := .bool (decide ((r_0.Verified : Int) < revision_))) hS (y_move hS rfl) rfl rfl fun a hS => ?_)
      rcases bool2 (decide ((r_0.Verified : Int) < revision_)) with hb32 | hb32
      · replace hM := ct hb32 hM
        refine wg hS rfl rfl rfl hb32 (ky (v := .pointer (some ⟨b17, 0 + 7, none⟩)) hS (y_fld hS rfl fl34_6) rfl rfl fun a hS => ?_)
        refine wg hS rfl rfl rfl hb32 (ky (v := .bool r_0.Dirty) hS (y_load hS rfl ty4 0 rfl id (us := [.bool r_0.Dirty]) rfl rfl (fun _ => rfl)) rfl rfl fun a hS => ?_)
        refine wg hS rfl rfl rfl hb32 (ky (v := .bool (!(r_0.Dirty))) hS (y_not hS rfl) rfl rfl fun a hS => ?_)
        refine wl rfl (ky (v := .bool (!(r_0.Dirty))) hS (y_pickt hS rfl hb32 rfl) rfl rfl fun a hS => ?_)
        refine wl rfl (ky (v := .bool (!(r_0.Dirty))) hS (y_assign hS rfl) rfl rfl fun a hS => ?_)
        refine wpList_nil ?_
        try simp only [Exit.then, Exit.inBlock, ↓reduceIte, Nat.reduceEqDiff]
        exact ⟨(!(r_0.Dirty)), (hS.meet [] (by decide) ⟨rfl, trivial⟩ trivial trivial), hM⟩
      · replace hM := cf hb32 hM
        refine wn hS rfl rfl rfl hb32 rfl rfl fun a hS => ?_
        refine wn hS rfl rfl rfl hb32 rfl rfl fun a hS => ?_
        refine wn hS rfl rfl rfl hb32 rfl rfl fun a hS => ?_
        refine wl rfl (ky (v := .bool false) hS (y_pickf hS rfl hb32 rfl) rfl rfl fun a hS => ?_)
        refine wl rfl (ky (v := .bool false) hS (y_assign hS rfl) rfl rfl fun a hS => ?_)
        refine wpList_nil ?_
        try simp only [Exit.then, Exit.inBlock, ↓reduceIte, Nat.reduceEqDiff]
        exact ⟨false, (hS.meet [] (by decide) ⟨rfl, trivial⟩ trivial trivial), hM⟩
    · replace hM := cf hb31 hM
      refine wn hS rfl rfl rfl hb31 rfl rfl fun a hS => ?_
      refine wn hS rfl rfl rfl hb31 rfl rfl fun a hS => ?_
      refine wn hS rfl rfl rfl hb31 rfl rfl fun a hS => ?_
      refine wn hS rfl rfl rfl hb31 rfl rfl fun a hS => ?_
      refine wl rfl (ky (v := .bool false) hS (y_pickf hS rfl hb31 rfl) rfl rfl fun a hS => ?_)
      refine wl rfl (ky (v := .bool false) hS (y_move hS rfl) rfl rfl fun a hS => ?_)
      refine wn hS rfl rfl rfl rfl rfl rfl fun a hS => ?_
      refine wn hS rfl rfl rfl rfl rfl rfl fun a hS => ?_
      refine wn hS rfl rfl rfl rfl rfl rfl fun a hS => ?_
      refine wl rfl (ky (v := .bool false) hS (y_pickf hS rfl rfl rfl) rfl rfl fun a hS => ?_)
      refine wl rfl (ky (v := .bool false) hS (y_assign hS rfl) rfl rfl fun a hS => ?_)
      refine wpList_nil ?_
      try simp only [Exit.then, Exit.inBlock, ↓reduceIte, Nat.reduceEqDiff]
      exact ⟨false, (hS.meet [] (by decide) ⟨rfl, trivial⟩ trivial trivial), hM⟩
  · rintro a w ⟨g28, hS, hM⟩
    unfold group_Open_j1 at hM
    refine wp_ret ?_
    injection hM with hM
    subst hM
    try simp only [Exit.then, Exit.inBlock, ↓reduceIte, Nat.reduceEqDiff]
    refine ret_ok hS Tryd.results26 (res_tmp hS rfl res_nil) ?_
    exact rfl

noncomputable def ref23_SameList_j1 : Option Bool := some (true)
noncomputable def ref23_SameList_l2 (a_0 : (List KeyD)) (b_1 : (List KeyD)) (g214 : Int) : Option (Fl (Int) (Fl (Unit) Bool)) := cond (decide ((g214 : Int) < (a_0.length : Int))) ((getI a_0 g214).bind fun e256 => (getI b_1 g214).bind fun e286 => cond (!((e286.Kind : Int) == e256.Kind && e286.Text.toList == e256.Text.toList)) (some (.out (.out false))) (some (.go (IntKind.i64.wrap (g214 + 1))))) (some (.out (.go ())))
noncomputable def ref23_SameList (a_0 : (List KeyD)) (b_1 : (List KeyD)) : Option Bool := cond (((a_0.length : Int) : Int) != (b_1.length : Int)) (some (false)) ((loop (fun s : Int => ref23_SameList_l2 a_0 b_1 s) 0).bind fun r => Fl.el r (fun s => ref23_SameList_j1) (fun y => some (y)))
set_option maxRecDepth 100000 in
set_option maxHeartbeats 4000000 in
theorem ref23_SameList_c (T : Nat → Prop) (W0 : World) (hT : ∀ k, T k → k < W0.heap.size) (a_0 : (List KeyD)) (b_1 : (List KeyD)) (v1 : Value) (v2 : Value) (hv1 : SlR R_KeyD T W0 v1 a_0) (hv2 : SlR R_KeyD T W0 v2 b_1) (y : Bool) (hM : ref23_SameList a_0 b_1 = some y) : Rets Tryd.prog No 15 [v1, v2] W0 (fun v w' => v = .bool y) := by
  refine enter (c := _) Tryd.func15 rfl T 26 Tryd.ntmps15 hT rfl fun a hS => ?_
  replace hS := hS.fact (SlF R_KeyD v1 a_0) (SlR.dn hv1)
  replace hS := hS.fact (SlF R_KeyD v2 b_1) (SlR.dn hv2)
  unfold ref23_SameList at hM
  refine wp_seq_k fun K20 hK20 => ?_
  refine r_list ?_
  refine wl rfl (ky (v := .bool false) hS (y_assign hS rfl) rfl rfl fun a hS => ?_)
  refine wpList_nil ?_
  try simp only [Exit.then, Exit.inBlock, ↓reduceIte, Nat.reduceEqDiff]
  refine hK20 _ _ ?_
  refine wp_seq_k fun K21 hK21 => ?_
  refine wp_seq_k fun K22 hK22 => ?_
  refine r_list ?_
  refine wl rfl (ky (v := v1) hS (y_move hS rfl) rfl rfl fun a hS => ?_)
  refine wl rfl (ky (v := .int .i64 (a_0.length : Int)) hS (y_len (R := R_KeyD) (xs := a_0) hS sl23 rfl 1 rfl) rfl rfl fun a hS => ?_)
  refine wl rfl (ky (v := v2) hS (y_move hS rfl) rfl rfl fun a hS => ?_)
  refine wl rfl (ky (v := .int .i64 (b_1.length : Int)) hS (y_len (R := R_KeyD) (xs := b_1) hS sl23 rfl 0 rfl) rfl rfl fun a hS => ?_)
  refine wl rfl (ky (v := .bool (((a_0.length : Int) : Int) != (b_1.length : Int))) hS (y_int hS rfl rfl rfl) rfl rfl fun a hS => ?_)
  refine wpList_nil ?_
  try simp only [Exit.then, Exit.inBlock, ↓reduceIte, Nat.reduceEqDiff]
  refine hK22 _ _ ?_
  rcases bool2 (((a_0.length : Int) : Int) != (b_1.length : Int)) with hb92 | hb92
  · replace hM := ct hb92 hM
    refine c_t hS rfl hb92 ?_
    refine wp_seq_k fun K23 hK23 => ?_
    refine r_list ?_
    refine wl rfl (ky (v := .bool false) hS (y_assign hS rfl) rfl rfl fun a hS => ?_)
    refine wpList_nil ?_
    try simp only [Exit.then, Exit.inBlock, ↓reduceIte, Nat.reduceEqDiff]
    refine hK23 _ _ ?_
    refine wp_ret ?_
    injection hM with hM
    subst hM
    try simp only [Exit.then, Exit.inBlock, ↓reduceIte, Nat.reduceEqDiff]
    refine ret_ok hS Tryd.results15 (res_tmp hS rfl res_nil) ?_
    exact rfl
  · replace hM := cf hb92 hM
    refine c_f hS rfl hb92 ?_
    refine wp_skip ?_
    try simp only [Exit.then, Exit.inBlock, ↓reduceIte, Nat.reduceEqDiff]
    refine hK21 _ _ ?_
    refine seq_j (J := fun a w => St W0 No T 26 [] [] [] a w ∧ ref23_SameList_j1 = some y) ?_ ?_
    · skip
      refine wp_seq_k fun K38 hK38 => ?_
      refine r_list ?_
      refine wl rfl (ky (v := v1) hS (y_move hS rfl) rfl rfl fun a hS => ?_)
      refine wl rfl (ky (v := .int .i64 (a_0.length : Int)) hS (y_len (R := R_KeyD) (xs := a_0) hS sl23 rfl 1 rfl) rfl rfl fun a hS => ?_)
      refine wl rfl (ky (v := .int .i64 0) hS (y_move hS rfl) rfl rfl fun a hS => ?_)
      refine wpList_nil ?_
      try simp only [Exit.then, Exit.inBlock, ↓reduceIte, Nat.reduceEqDiff]
      refine hK38 _ _ ?_
      refine wp_block ?_
      obtain ⟨r1, hl1, hMo1⟩ := bd hM
      refine wp_lp (fun s : Int => ref23_SameList_l2 a_0 b_1 s) (fun s a w => ∃ (g214 : Int), g214 = s ∧ St W0 No T 26 [(1, v2), (12, v1), (13, .int .i64 (a_0.length : Int)), (14, .int .i64 g214)] [] [SlF R_KeyD v2 b_1, SlF R_KeyD v1 a_0] a w) hl1 ⟨0, rfl, (hS.meet [] (by decide) ⟨rfl, rfl, rfl, rfl, trivial⟩ trivial ⟨⟨0, rfl⟩, ⟨1, rfl⟩, trivial⟩)⟩ ?_
      rintro s a w f1 ⟨g214, rfl, hS⟩ hM hf1
      have hM : ref23_SameList_l2 a_0 b_1 g214 = some f1 := hM
      unfold ref23_SameList_l2 at hM
      refine wp_seq_k fun K51 hK51 => ?_
      refine r_list ?_
      refine wl rfl (ky (v := .bool (decide ((g214 : Int) < (a_0.length : Int)))) hS (y_int hS rfl rfl rfl) rfl rfl fun a hS => ?_)
      refine wpList_nil ?_
      try simp only [Exit.then, Exit.inBlock, ↓reduceIte, Nat.reduceEqDiff]
      refine hK51 _ _ ?_
      refine wp_seq_k fun K52 hK52 => ?_
      rcases bool2 (decide ((g214 : Int) < (a_0.length : Int))) with hb255 | hb255
      · replace hM := ct hb255 hM
        refine c_t hS rfl hb255 ?_
        refine wp_skip ?_
        try simp only [Exit.then, Exit.inBlock, ↓reduceIte, Nat.reduceEqDiff]
        refine hK52 _ _ ?_
        refine wp_seq_k fun K53 hK53 => ?_
        refine wp_block ?_
        refine wp_seq_k fun K54 hK54 => ?_
        refine r_list ?_
        refine wl rfl (ky (v := .int .i64 g214) hS (y_move hS rfl) rfl rfl fun a hS => ?_)
        obtain ⟨e256, he256, hM⟩ := bd hM
        refine wl rfl (k_index (R := R_KeyD) hS sl23 ty32 rfl rfl 1 rfl he256 rfl fun b257 o258 cs260 hr259 a hS => ?_)
        obtain rfl := hr259
        refine wl rfl (ky (v := .agg #[.int .i64 e256.Kind, .string e256.Text]) hS (y_loadc (k := 0) hS ty32 0 rfl rfl (fun _ h => h.elim) (us := [.int .i64 e256.Kind, .string e256.Text]) rfl rfl (fun h => by cases h)) rfl rfl fun a hS => ?_)
        refine wl rfl (k_alloc hS ze32 rfl fun b262 hnb264 a w hk hS => ?_)
        refine wl rfl (ky (v := .int .i64 g214) hS (y_assign hS rfl) rfl rfl fun a hS => ?_)
        refine wl rfl (k_store hS rfl rfl (us := [.int .i64 e256.Kind, .string e256.Text]) rfl ty32 0 rfl rfl rfl (oc rfl (oc rfl on)) fun w hk hS => ?_)
        refine wpList_nil ?_
        try simp only [Exit.then, Exit.inBlock, ↓reduceIte, Nat.reduceEqDiff]
        refine hK54 _ _ ?_
        refine wp_seq_k fun K55 hK55 => ?_
        refine draws [] hS mixed rfl (fun c a d v w h => by cases d <;> exact h) fun w hQ hS => ?_
        refine dy 0 (v := v2) rfl (by kernel_rfl) (by kernel_rfl) (by kernel_rfl) rfl hQ hS (y_move hS rfl) rfl rfl rfl fun a hS => ?_
        refine dy 1 (v := .int .i64 g214) rfl (by kernel_rfl) (by kernel_rfl) (by kernel_rfl) rfl hQ hS (y_move hS rfl) rfl rfl rfl fun a hS => ?_
        obtain ⟨e286, he286, hM⟩ := bd hM
        obtain ⟨b287, o288, cs290, hr289, hy292, hS⟩ := d_index (R := R_KeyD) hS sl23 ty32 1 rfl he286
        obtain rfl := hr289
        refine dy 2 (v := .pointer (some ⟨b287, o288, none⟩)) rfl (by kernel_rfl) (by kernel_rfl) (by kernel_rfl) rfl hQ hS (hy292 rfl rfl) rfl rfl rfl fun a hS => ?_
        refine dy (l := []) 3 (v := .agg #[.int .i64 e286.Kind, .string e286.Text]) rfl (by kernel_rfl) (by kernel_rfl) (by kernel_rfl) (by kernel_rfl) hQ hS (y_loadc (k := 0) hS ty32 0 rfl rfl es_nil (us := [.int .i64 e286.Kind, .string e286.Text]) rfl rfl (fun h => by cases h)) rfl rfl rfl fun a hS => ?_
        refine dy (l := []) 4 (v := .agg #[.int .i64 e256.Kind, .string e256.Text]) rfl (by kernel_rfl) (by kernel_rfl) (by kernel_rfl) (by kernel_rfl) hQ hS (y_load hS rfl ty32 0 rfl eo_nil (us := [.int .i64 e256.Kind, .string e256.Text]) rfl rfl (fun h => by cases h)) rfl rfl rfl fun a hS => ?_
        refine dy 5 (v := .bool (!((e286.Kind : Int) == e256.Kind && e286.Text.toList == e256.Text.toList))) rfl (by kernel_rfl) (by kernel_rfl) (by kernel_rfl) rfl hQ hS (eq32n hS rfl rfl) rfl rfl rfl fun a hS => ?_
        refine wpE_done (by kernel_rfl) ?_ _
        try simp only [Exit.then, Exit.inBlock, ↓reduceIte, Nat.reduceEqDiff]
        refine hK55 _ _ ?_
        rcases bool2 (!((e286.Kind : Int) == e256.Kind && e286.Text.toList == e256.Text.toList)) with hb293 | hb293
        · replace hM := ct hb293 hM
          refine c_t hS rfl hb293 ?_
          refine wp_seq_k fun K56 hK56 => ?_
          refine r_list ?_
          refine wl rfl (ky (v := .bool false) hS (y_assign hS rfl) rfl rfl fun a hS => ?_)
          refine wpList_nil ?_
          try simp only [Exit.then, Exit.inBlock, ↓reduceIte, Nat.reduceEqDiff]
          refine hK56 _ _ ?_
          refine wp_ret ?_
          injection hM with hM
          subst hM
          have hr := hf1 _ rfl
          subst hr
          replace hMo1 := el_out hMo1
          have hM := hMo1
          injection hM with hM
          subst hM
          try simp only [Exit.then, Exit.inBlock, ↓reduceIte, Nat.reduceEqDiff]
          refine ret_ok hS Tryd.results15 (res_tmp hS rfl res_nil) ?_
          exact rfl
        · replace hM := cf hb293 hM
          refine c_f hS rfl hb293 ?_
          refine wp_skip ?_
          try simp only [Exit.then, Exit.inBlock, ↓reduceIte, Nat.reduceEqDiff]
          refine hK53 _ _ ?_
          refine r_list ?_
          refine wl rfl (ky (v := .int .i64 (IntKind.i64.wrap (g214 + 1))) hS (y_int hS rfl rfl rfl) rfl rfl fun a hS => ?_)
          refine wl rfl (ky (v := .int .i64 (IntKind.i64.wrap (g214 + 1))) hS (y_move hS rfl) rfl rfl fun a hS => ?_)
          refine wpList_nil ?_
          try simp only [Exit.then, Exit.inBlock, ↓reduceIte, Nat.reduceEqDiff]
          exact ⟨IntKind.i64.wrap (g214 + 1), (Option.some.inj hM).symm, (IntKind.i64.wrap (g214 + 1)), rfl, (hS.meet [] (by decide) ⟨rfl, rfl, rfl, rfl, trivial⟩ trivial ⟨⟨2, rfl⟩, ⟨3, rfl⟩, trivial⟩)⟩
      · replace hM := cf hb255 hM
        refine c_f hS rfl hb255 ?_
        refine wp_exit ?_
        try simp only [Exit.then, Exit.inBlock, ↓reduceIte, Nat.reduceEqDiff]
        injection hM with hM
        subst hM
        have hr := hf1 _ rfl
        subst hr
        replace hMo1 := el_go hMo1
        have hM : ref23_SameList_j1 = some y := hMo1
        exact ⟨(hS.meet [] (by decide) trivial trivial trivial), hM⟩
    · rintro a w ⟨hS, hM⟩
      unfold ref23_SameList_j1 at hM
      refine wp_seq_k fun K37 hK37 => ?_
      refine r_list ?_
      refine wl rfl (ky (v := .bool true) hS (y_assign hS rfl) rfl rfl fun a hS => ?_)
      refine wpList_nil ?_
      try simp only [Exit.then, Exit.inBlock, ↓reduceIte, Nat.reduceEqDiff]
      refine hK37 _ _ ?_
      refine wp_ret ?_
      injection hM with hM
      subst hM
      try simp only [Exit.then, Exit.inBlock, ↓reduceIte, Nat.reduceEqDiff]
      refine ret_ok hS Tryd.results15 (res_tmp hS rfl res_nil) ?_
      exact rfl

noncomputable def ref29_SameChecks_j1 : Option Bool := some (true)
noncomputable def ref29_SameChecks_l2 (a_0 : (List CheckD)) (b_1 : (List CheckD)) (g214 : Int) : Option (Fl (Int) (Fl (Unit) Bool)) := cond (decide ((g214 : Int) < (a_0.length : Int))) ((getI a_0 g214).bind fun e256 => (getI b_1 g214).bind fun e286 => cond (!((e286.Member.Kind : Int) == e256.Member.Kind && e286.Member.Text.toList == e256.Member.Text.toList && (e286.Read.Kind : Int) == e256.Read.Kind && e286.Read.Text.toList == e256.Read.Text.toList)) (some (.out (.out false))) (some (.go (IntKind.i64.wrap (g214 + 1))))) (some (.out (.go ())))
noncomputable def ref29_SameChecks (a_0 : (List CheckD)) (b_1 : (List CheckD)) : Option Bool := cond (((a_0.length : Int) : Int) != (b_1.length : Int)) (some (false)) ((loop (fun s : Int => ref29_SameChecks_l2 a_0 b_1 s) 0).bind fun r => Fl.el r (fun s => ref29_SameChecks_j1) (fun y => some (y)))
set_option maxRecDepth 100000 in
set_option maxHeartbeats 4000000 in
theorem ref29_SameChecks_c (T : Nat → Prop) (W0 : World) (hT : ∀ k, T k → k < W0.heap.size) (a_0 : (List CheckD)) (b_1 : (List CheckD)) (v1 : Value) (v2 : Value) (hv1 : SlR R_CheckD T W0 v1 a_0) (hv2 : SlR R_CheckD T W0 v2 b_1) (y : Bool) (hM : ref29_SameChecks a_0 b_1 = some y) : Rets Tryd.prog No 16 [v1, v2] W0 (fun v w' => v = .bool y) := by
  refine enter (c := _) Tryd.func16 rfl T 26 Tryd.ntmps16 hT rfl fun a hS => ?_
  replace hS := hS.fact (SlF R_CheckD v1 a_0) (SlR.dn hv1)
  replace hS := hS.fact (SlF R_CheckD v2 b_1) (SlR.dn hv2)
  unfold ref29_SameChecks at hM
  refine wp_seq_k fun K20 hK20 => ?_
  refine r_list ?_
  refine wl rfl (ky (v := .bool false) hS (y_assign hS rfl) rfl rfl fun a hS => ?_)
  refine wpList_nil ?_
  try simp only [Exit.then, Exit.inBlock, ↓reduceIte, Nat.reduceEqDiff]
  refine hK20 _ _ ?_
  refine wp_seq_k fun K21 hK21 => ?_
  refine wp_seq_k fun K22 hK22 => ?_
  refine r_list ?_
  refine wl rfl (ky (v := v1) hS (y_move hS rfl) rfl rfl fun a hS => ?_)
  refine wl rfl (ky (v := .int .i64 (a_0.length : Int)) hS (y_len (R := R_CheckD) (xs := a_0) hS sl39 rfl 1 rfl) rfl rfl fun a hS => ?_)
  refine wl rfl (ky (v := v2) hS (y_move hS rfl) rfl rfl fun a hS => ?_)
  refine wl rfl (ky (v := .int .i64 (b_1.length : Int)) hS (y_len (R := R_CheckD) (xs := b_1) hS sl39 rfl 0 rfl) rfl rfl fun a hS => ?_)
  refine wl rfl (ky (v := .bool (((a_0.length : Int) : Int) != (b_1.length : Int))) hS (y_int hS rfl rfl rfl) rfl rfl fun a hS => ?_)
  refine wpList_nil ?_
  try simp only [Exit.then, Exit.inBlock, ↓reduceIte, Nat.reduceEqDiff]
  refine hK22 _ _ ?_
  rcases bool2 (((a_0.length : Int) : Int) != (b_1.length : Int)) with hb92 | hb92
  · replace hM := ct hb92 hM
    refine c_t hS rfl hb92 ?_
    refine wp_seq_k fun K23 hK23 => ?_
    refine r_list ?_
    refine wl rfl (ky (v := .bool false) hS (y_assign hS rfl) rfl rfl fun a hS => ?_)
    refine wpList_nil ?_
    try simp only [Exit.then, Exit.inBlock, ↓reduceIte, Nat.reduceEqDiff]
    refine hK23 _ _ ?_
    refine wp_ret ?_
    injection hM with hM
    subst hM
    try simp only [Exit.then, Exit.inBlock, ↓reduceIte, Nat.reduceEqDiff]
    refine ret_ok hS Tryd.results16 (res_tmp hS rfl res_nil) ?_
    exact rfl
  · replace hM := cf hb92 hM
    refine c_f hS rfl hb92 ?_
    refine wp_skip ?_
    try simp only [Exit.then, Exit.inBlock, ↓reduceIte, Nat.reduceEqDiff]
    refine hK21 _ _ ?_
    refine seq_j (J := fun a w => St W0 No T 26 [] [] [] a w ∧ ref29_SameChecks_j1 = some y) ?_ ?_
    · skip
      refine wp_seq_k fun K38 hK38 => ?_
      refine r_list ?_
      refine wl rfl (ky (v := v1) hS (y_move hS rfl) rfl rfl fun a hS => ?_)
      refine wl rfl (ky (v := .int .i64 (a_0.length : Int)) hS (y_len (R := R_CheckD) (xs := a_0) hS sl39 rfl 1 rfl) rfl rfl fun a hS => ?_)
      refine wl rfl (ky (v := .int .i64 0) hS (y_move hS rfl) rfl rfl fun a hS => ?_)
      refine wpList_nil ?_
      try simp only [Exit.then, Exit.inBlock, ↓reduceIte, Nat.reduceEqDiff]
      refine hK38 _ _ ?_
      refine wp_block ?_
      obtain ⟨r1, hl1, hMo1⟩ := bd hM
      refine wp_lp (fun s : Int => ref29_SameChecks_l2 a_0 b_1 s) (fun s a w => ∃ (g214 : Int), g214 = s ∧ St W0 No T 26 [(1, v2), (12, v1), (13, .int .i64 (a_0.length : Int)), (14, .int .i64 g214)] [] [SlF R_CheckD v2 b_1, SlF R_CheckD v1 a_0] a w) hl1 ⟨0, rfl, (hS.meet [] (by decide) ⟨rfl, rfl, rfl, rfl, trivial⟩ trivial ⟨⟨0, rfl⟩, ⟨1, rfl⟩, trivial⟩)⟩ ?_
      rintro s a w f1 ⟨g214, rfl, hS⟩ hM hf1
      have hM : ref29_SameChecks_l2 a_0 b_1 g214 = some f1 := hM
      unfold ref29_SameChecks_l2 at hM
      refine wp_seq_k fun K51 hK51 => ?_
      refine r_list ?_
      refine wl rfl (ky (v := .bool (decide ((g214 : Int) < (a_0.length : Int)))) hS (y_int hS rfl rfl rfl) rfl rfl fun a hS => ?_)
      refine wpList_nil ?_
      try simp only [Exit.then, Exit.inBlock, ↓reduceIte, Nat.reduceEqDiff]
      refine hK51 _ _ ?_
      refine wp_seq_k fun K52 hK52 => ?_
      rcases bool2 (decide ((g214 : Int) < (a_0.length : Int))) with hb255 | hb255
      · replace hM := ct hb255 hM
        refine c_t hS rfl hb255 ?_
        refine wp_skip ?_
        try simp only [Exit.then, Exit.inBlock, ↓reduceIte, Nat.reduceEqDiff]
        refine hK52 _ _ ?_
        refine wp_seq_k fun K53 hK53 => ?_
        refine wp_block ?_
        refine wp_seq_k fun K54 hK54 => ?_
        refine r_list ?_
        refine wl rfl (ky (v := .int .i64 g214) hS (y_move hS rfl) rfl rfl fun a hS => ?_)
        obtain ⟨e256, he256, hM⟩ := bd hM
        refine wl rfl (k_index (R := R_CheckD) hS sl39 ty44 rfl rfl 1 rfl he256 rfl fun b257 o258 cs260 hr259 a hS => ?_)
        obtain rfl := hr259
        refine wl rfl (ky (v := .agg #[.int .i64 e256.Member.Kind, .string e256.Member.Text, .int .i64 e256.Read.Kind, .string e256.Read.Text]) hS (y_loadc (k := 0) hS ty44 0 rfl rfl (fun _ h => h.elim) (us := [.int .i64 e256.Member.Kind, .string e256.Member.Text, .int .i64 e256.Read.Kind, .string e256.Read.Text]) rfl rfl (fun h => by cases h)) rfl rfl fun a hS => ?_)
        refine wl rfl (k_alloc hS ze44 rfl fun b262 hnb264 a w hk hS => ?_)
        refine wl rfl (ky (v := .int .i64 g214) hS (y_assign hS rfl) rfl rfl fun a hS => ?_)
        refine wl rfl (k_store hS rfl rfl (us := [.int .i64 e256.Member.Kind, .string e256.Member.Text, .int .i64 e256.Read.Kind, .string e256.Read.Text]) rfl ty44 0 rfl rfl rfl (oc rfl (oc rfl (oc rfl (oc rfl on)))) fun w hk hS => ?_)
        refine wpList_nil ?_
        try simp only [Exit.then, Exit.inBlock, ↓reduceIte, Nat.reduceEqDiff]
        refine hK54 _ _ ?_
        refine wp_seq_k fun K55 hK55 => ?_
        refine draws [] hS mixed rfl (fun c a d v w h => by cases d <;> exact h) fun w hQ hS => ?_
        refine dy 0 (v := v2) rfl (by kernel_rfl) (by kernel_rfl) (by kernel_rfl) rfl hQ hS (y_move hS rfl) rfl rfl rfl fun a hS => ?_
        refine dy 1 (v := .int .i64 g214) rfl (by kernel_rfl) (by kernel_rfl) (by kernel_rfl) rfl hQ hS (y_move hS rfl) rfl rfl rfl fun a hS => ?_
        obtain ⟨e286, he286, hM⟩ := bd hM
        obtain ⟨b287, o288, cs290, hr289, hy292, hS⟩ := d_index (R := R_CheckD) hS sl39 ty44 1 rfl he286
        obtain rfl := hr289
        refine dy 2 (v := .pointer (some ⟨b287, o288, none⟩)) rfl (by kernel_rfl) (by kernel_rfl) (by kernel_rfl) rfl hQ hS (hy292 rfl rfl) rfl rfl rfl fun a hS => ?_
        refine dy (l := []) 3 (v := .agg #[.int .i64 e286.Member.Kind, .string e286.Member.Text, .int .i64 e286.Read.Kind, .string e286.Read.Text]) rfl (by kernel_rfl) (by kernel_rfl) (by kernel_rfl) (by kernel_rfl) hQ hS (y_loadc (k := 0) hS ty44 0 rfl rfl es_nil (us := [.int .i64 e286.Member.Kind, .string e286.Member.Text, .int .i64 e286.Read.Kind, .string e286.Read.Text]) rfl rfl (fun h => by cases h)) rfl rfl rfl fun a hS => ?_
        refine dy (l := []) 4 (v := .agg #[.int .i64 e256.Member.Kind, .string e256.Member.Text, .int .i64 e256.Read.Kind, .string e256.Read.Text]) rfl (by kernel_rfl) (by kernel_rfl) (by kernel_rfl) (by kernel_rfl) hQ hS (y_load hS rfl ty44 0 rfl eo_nil (us := [.int .i64 e256.Member.Kind, .string e256.Member.Text, .int .i64 e256.Read.Kind, .string e256.Read.Text]) rfl rfl (fun h => by cases h)) rfl rfl rfl fun a hS => ?_
        refine dy 5 (v := .bool (!((e286.Member.Kind : Int) == e256.Member.Kind && e286.Member.Text.toList == e256.Member.Text.toList && (e286.Read.Kind : Int) == e256.Read.Kind && e286.Read.Text.toList == e256.Read.Text.toList))) rfl (by kernel_rfl) (by kernel_rfl) (by kernel_rfl) rfl hQ hS (eq44n hS rfl rfl) rfl rfl rfl fun a hS => ?_
        refine wpE_done (by kernel_rfl) ?_ _
        try simp only [Exit.then, Exit.inBlock, ↓reduceIte, Nat.reduceEqDiff]
        refine hK55 _ _ ?_
        rcases bool2 (!((e286.Member.Kind : Int) == e256.Member.Kind && e286.Member.Text.toList == e256.Member.Text.toList && (e286.Read.Kind : Int) == e256.Read.Kind && e286.Read.Text.toList == e256.Read.Text.toList)) with hb293 | hb293
        · replace hM := ct hb293 hM
          refine c_t hS rfl hb293 ?_
          refine wp_seq_k fun K56 hK56 => ?_
          refine r_list ?_
          refine wl rfl (ky (v := .bool false) hS (y_assign hS rfl) rfl rfl fun a hS => ?_)
          refine wpList_nil ?_
          try simp only [Exit.then, Exit.inBlock, ↓reduceIte, Nat.reduceEqDiff]
          refine hK56 _ _ ?_
          refine wp_ret ?_
          injection hM with hM
          subst hM
          have hr := hf1 _ rfl
          subst hr
          replace hMo1 := el_out hMo1
          have hM := hMo1
          injection hM with hM
          subst hM
          try simp only [Exit.then, Exit.inBlock, ↓reduceIte, Nat.reduceEqDiff]
          refine ret_ok hS Tryd.results16 (res_tmp hS rfl res_nil) ?_
          exact rfl
        · replace hM := cf hb293 hM
          refine c_f hS rfl hb293 ?_
          refine wp_skip ?_
          try simp only [Exit.then, Exit.inBlock, ↓reduceIte, Nat.reduceEqDiff]
          refine hK53 _ _ ?_
          refine r_list ?_
          refine wl rfl (ky (v := .int .i64 (IntKind.i64.wrap (g214 + 1))) hS (y_int hS rfl rfl rfl) rfl rfl fun a hS => ?_)
          refine wl rfl (ky (v := .int .i64 (IntKind.i64.wrap (g214 + 1))) hS (y_move hS rfl) rfl rfl fun a hS => ?_)
          refine wpList_nil ?_
          try simp only [Exit.then, Exit.inBlock, ↓reduceIte, Nat.reduceEqDiff]
          exact ⟨IntKind.i64.wrap (g214 + 1), (Option.some.inj hM).symm, (IntKind.i64.wrap (g214 + 1)), rfl, (hS.meet [] (by decide) ⟨rfl, rfl, rfl, rfl, trivial⟩ trivial ⟨⟨2, rfl⟩, ⟨3, rfl⟩, trivial⟩)⟩
      · replace hM := cf hb255 hM
        refine c_f hS rfl hb255 ?_
        refine wp_exit ?_
        try simp only [Exit.then, Exit.inBlock, ↓reduceIte, Nat.reduceEqDiff]
        injection hM with hM
        subst hM
        have hr := hf1 _ rfl
        subst hr
        replace hMo1 := el_go hMo1
        have hM : ref29_SameChecks_j1 = some y := hMo1
        exact ⟨(hS.meet [] (by decide) trivial trivial trivial), hM⟩
    · rintro a w ⟨hS, hM⟩
      unfold ref29_SameChecks_j1 at hM
      refine wp_seq_k fun K37 hK37 => ?_
      refine r_list ?_
      refine wl rfl (ky (v := .bool true) hS (y_assign hS rfl) rfl rfl fun a hS => ?_)
      refine wpList_nil ?_
      try simp only [Exit.then, Exit.inBlock, ↓reduceIte, Nat.reduceEqDiff]
      refine hK37 _ _ ?_
      refine wp_ret ?_
      injection hM with hM
      subst hM
      try simp only [Exit.then, Exit.inBlock, ↓reduceIte, Nat.reduceEqDiff]
      refine ret_ok hS Tryd.results16 (res_tmp hS rfl res_nil) ?_
      exact rfl

noncomputable def indexf_Record_j1 : Option Int := some ((-1))
noncomputable def indexf_Record_l2 (s_0 : (List RecordD)) (f_1 : RecordD → Option Bool) (g50 : Int) (g51 : Int) : Option (Fl (Int × Int) (Fl (Unit) Int)) := cond (decide ((g51 : Int) < g50)) ((getI s_0 g51).bind fun e66 => (f_1 e66).bind fun u73 => cond u73 (some (.out (.out g51))) (some (.go (g50, IntKind.i64.wrap (g51 + 1))))) (some (.out (.go ())))
noncomputable def indexf_Record (f_1 : RecordD → Option Bool) (s_0 : (List RecordD)) : Option Int := (loop (fun s : Int × Int => indexf_Record_l2 s_0 f_1 s.1 s.2) ((s_0.length : Int), 0)).bind fun r => Fl.el r (fun s => indexf_Record_j1) (fun y => some (y))
set_option maxRecDepth 100000 in
set_option maxHeartbeats 4000000 in
theorem indexf_Record_c (T : Nat → Prop) (W0 : World) (hT : ∀ k, T k → k < W0.heap.size) (hLv : LvP T W0) (f_1g : Nat) (hcf_1 : callI Tryd.prog f_1g = true) (f_1k : List Value) (f_1P : Fact) (f_1 : RecordD → Option Bool) (hf_1 : ∀ (T : Nat → Prop) (W0 : World) (hT : ∀ k, T k → k < W0.heap.size) (hLv : LvP T W0) (hP : f_1P.p T W0) (x0 : RecordD) (vq1 : Value) (hvq1 : SlR R_KeyD T W0 vq1 x0.Reads) (y : Bool) (hM : f_1 x0 = some y), Rets Tryd.prog No f_1g ([.agg #[.int .i64 x0.Key.Kind, .string x0.Key.Text, .string x0.Value, vq1, .int .i64 x0.Changed, .int .i64 x0.Verified, .int .i64 x0.Cost, .bool x0.Dirty]] ++ f_1k) W0 (fun v w' => v = .bool y)) (hPf_1 : f_1P.p T W0) (s_0 : (List RecordD)) (v1 : Value) (hv1 : SlR R_RecordD T W0 v1 s_0) (y : Int) (hM : indexf_Record f_1 s_0 = some y) : Rets Tryd.prog No 41 [v1, .func (.func f_1g) #[] f_1k.toArray] W0 (fun v w' => v = .int .i64 y) := by
  refine enter (c := _) Tryd.func41 rfl T 19 Tryd.ntmps41 hT rfl fun a hS => ?_
  replace hS := hS.fact f_1P (Fact.dn _ hPf_1)
  replace hS := hS.fact LvF (LvP.dn hLv)
  replace hS := hS.fact (SlF R_RecordD v1 s_0) (SlR.dn hv1)
  unfold indexf_Record at hM
  refine wp_seq_k fun K17 hK17 => ?_
  refine r_list ?_
  refine wl rfl (ky (v := .int .i64 0) hS (y_assign hS rfl) rfl rfl fun a hS => ?_)
  refine wpList_nil ?_
  try simp only [Exit.then, Exit.inBlock, ↓reduceIte, Nat.reduceEqDiff]
  refine hK17 _ _ ?_
  refine seq_j (J := fun a w => St W0 No T 19 [] [] [LvF, f_1P] a w ∧ indexf_Record_j1 = some y) ?_ ?_
  · skip
    refine wp_seq_k fun K26 hK26 => ?_
    refine r_list ?_
    refine wl rfl (ky (v := v1) hS (y_move hS rfl) rfl rfl fun a hS => ?_)
    refine wl rfl (ky (v := .int .i64 (s_0.length : Int)) hS (y_len (R := R_RecordD) (xs := s_0) hS sl28 rfl 0 rfl) rfl rfl fun a hS => ?_)
    refine wl rfl (ky (v := .int .i64 0) hS (y_move hS rfl) rfl rfl fun a hS => ?_)
    refine wpList_nil ?_
    try simp only [Exit.then, Exit.inBlock, ↓reduceIte, Nat.reduceEqDiff]
    refine hK26 _ _ ?_
    refine wp_block ?_
    obtain ⟨r1, hl1, hMo1⟩ := bd hM
    refine wp_lp (fun s : Int × Int => indexf_Record_l2 s_0 f_1 s.1 s.2) (fun s a w => ∃ (g50 : Int) (g51 : Int), (g50, g51) = s ∧ St W0 No T 19 [(0, v1), (1, .func (.func f_1g) #[] f_1k.toArray), (7, .int .i64 g50), (8, .int .i64 g51)] [] [SlF R_RecordD v1 s_0, LvF, f_1P] a w) hl1 ⟨(s_0.length : Int), 0, rfl, (hS.meet [] (by decide) ⟨rfl, rfl, rfl, rfl, trivial⟩ trivial ⟨⟨0, rfl⟩, ⟨1, rfl⟩, ⟨2, rfl⟩, trivial⟩)⟩ ?_
    rintro s a w f1 ⟨g50, g51, rfl, hS⟩ hM hf1
    have hM : indexf_Record_l2 s_0 f_1 g50 g51 = some f1 := hM
    unfold indexf_Record_l2 at hM
    refine wp_seq_k fun K33 hK33 => ?_
    refine r_list ?_
    refine wl rfl (ky (v := .bool (decide ((g51 : Int) < g50))) hS (y_int hS rfl rfl rfl) rfl rfl fun a hS => ?_)
    refine wpList_nil ?_
    try simp only [Exit.then, Exit.inBlock, ↓reduceIte, Nat.reduceEqDiff]
    refine hK33 _ _ ?_
    refine wp_seq_k fun K34 hK34 => ?_
    rcases bool2 (decide ((g51 : Int) < g50)) with hb65 | hb65
    · replace hM := ct hb65 hM
      refine c_t hS rfl hb65 ?_
      refine wp_skip ?_
      try simp only [Exit.then, Exit.inBlock, ↓reduceIte, Nat.reduceEqDiff]
      refine hK34 _ _ ?_
      refine wp_seq_k fun K35 hK35 => ?_
      refine wp_block ?_
      refine wp_seq_k fun K36 hK36 => ?_
      refine r_list ?_
      refine wl rfl (ky (v := .int .i64 g51) hS (y_move hS rfl) rfl rfl fun a hS => ?_)
      refine wl rfl (ky (v := .int .i64 g51) hS (y_assign hS rfl) rfl rfl fun a hS => ?_)
      refine wpList_nil ?_
      try simp only [Exit.then, Exit.inBlock, ↓reduceIte, Nat.reduceEqDiff]
      refine hK36 _ _ ?_
      refine wp_seq_k fun K37 hK37 => ?_
      refine r_list ?_
      refine wl rfl (ky (v := .func (.func f_1g) #[] f_1k.toArray) hS (y_move hS rfl) rfl rfl fun a hS => ?_)
      refine wl rfl (ky (v := v1) hS (y_move hS rfl) rfl rfl fun a hS => ?_)
      refine wl rfl (ky (v := .int .i64 g51) hS (y_move hS rfl) rfl rfl fun a hS => ?_)
      obtain ⟨e66, he66, hM⟩ := bd hM
      refine wl rfl (k_index (R := R_RecordD) hS sl28 ty34 rfl rfl 0 rfl he66 rfl fun b68 o69 cs71 hr70 a hS => ?_)
      obtain ⟨v67, rfl, hv67⟩ := hr70
      replace hS := hS.fact (SlF R_KeyD v67 e66.Reads) hv67
      refine wl rfl (ky (v := .agg #[.int .i64 e66.Key.Kind, .string e66.Key.Text, .string e66.Value, v67, .int .i64 e66.Changed, .int .i64 e66.Verified, .int .i64 e66.Cost, .bool e66.Dirty]) hS (y_loadc (k := 0) hS ty34 1 rfl rfl (fun _ h => h.elim) (us := [.int .i64 e66.Key.Kind, .string e66.Key.Text, .string e66.Value, v67, .int .i64 e66.Changed, .int .i64 e66.Verified, .int .i64 e66.Cost, .bool e66.Dirty]) rfl rfl (fun h => by cases h)) rfl rfl fun a hS => ?_)
      obtain ⟨u73, hu73, hM⟩ := bd hM
      refine wl rfl (k_callv (cap := f_1k) hS rfl hcf_1 rfl rfl (hf_1 _ _ hS.dlt (hS.get 3 rfl) (hS.get 4 rfl) e66 _ (hS.get 0 rfl) _ hu73) fun _ w hR a hk hA => ?_)
      have he := Eq.symm hR
      subst he
      have hS := hA [] (fun r hr => by cases hr) List.Pairwise.nil
      refine wpList_nil ?_
      try simp only [Exit.then, Exit.inBlock, ↓reduceIte, Nat.reduceEqDiff]
      refine hK37 _ _ ?_
      rcases bool2 (u73) with hb75 | hb75
      · replace hM := ct hb75 hM
        refine c_t hS rfl hb75 ?_
        refine wp_seq_k fun K38 hK38 => ?_
        refine r_list ?_
        refine wl rfl (ky (v := .int .i64 g51) hS (y_move hS rfl) rfl rfl fun a hS => ?_)
        refine wl rfl (ky (v := .int .i64 g51) hS (y_assign hS rfl) rfl rfl fun a hS => ?_)
        refine wpList_nil ?_
        try simp only [Exit.then, Exit.inBlock, ↓reduceIte, Nat.reduceEqDiff]
        refine hK38 _ _ ?_
        refine wp_ret ?_
        injection hM with hM
        subst hM
        have hr := hf1 _ rfl
        subst hr
        replace hMo1 := el_out hMo1
        have hM := hMo1
        injection hM with hM
        subst hM
        try simp only [Exit.then, Exit.inBlock, ↓reduceIte, Nat.reduceEqDiff]
        refine ret_ok hS Tryd.results41 (res_tmp hS rfl res_nil) ?_
        exact rfl
      · replace hM := cf hb75 hM
        refine c_f hS rfl hb75 ?_
        refine wp_skip ?_
        try simp only [Exit.then, Exit.inBlock, ↓reduceIte, Nat.reduceEqDiff]
        refine hK35 _ _ ?_
        refine r_list ?_
        refine wl rfl (ky (v := .int .i64 (IntKind.i64.wrap (g51 + 1))) hS (y_int hS rfl rfl rfl) rfl rfl fun a hS => ?_)
        refine wl rfl (ky (v := .int .i64 (IntKind.i64.wrap (g51 + 1))) hS (y_move hS rfl) rfl rfl fun a hS => ?_)
        refine wpList_nil ?_
        try simp only [Exit.then, Exit.inBlock, ↓reduceIte, Nat.reduceEqDiff]
        exact ⟨(g50, IntKind.i64.wrap (g51 + 1)), (Option.some.inj hM).symm, g50, (IntKind.i64.wrap (g51 + 1)), rfl, (hS.meet [] (by decide) ⟨rfl, rfl, rfl, rfl, trivial⟩ trivial ⟨⟨2, rfl⟩, ⟨3, rfl⟩, ⟨4, rfl⟩, trivial⟩)⟩
    · replace hM := cf hb65 hM
      refine c_f hS rfl hb65 ?_
      refine wp_exit ?_
      try simp only [Exit.then, Exit.inBlock, ↓reduceIte, Nat.reduceEqDiff]
      injection hM with hM
      subst hM
      have hr := hf1 _ rfl
      subst hr
      replace hMo1 := el_go hMo1
      have hM : indexf_Record_j1 = some y := hMo1
      exact ⟨(hS.meet [] (by decide) trivial trivial ⟨⟨1, rfl⟩, ⟨2, rfl⟩, trivial⟩), hM⟩
  · rintro a w ⟨hS, hM⟩
    unfold indexf_Record_j1 at hM
    refine wp_seq_k fun K25 hK25 => ?_
    refine r_list ?_
    refine wl rfl (ky (v := .int .i64 (-1)) hS (y_assign hS rfl) rfl rfl fun a hS => ?_)
    refine wpList_nil ?_
    try simp only [Exit.then, Exit.inBlock, ↓reduceIte, Nat.reduceEqDiff]
    refine hK25 _ _ ?_
    refine wp_ret ?_
    injection hM with hM
    subst hM
    try simp only [Exit.then, Exit.inBlock, ↓reduceIte, Nat.reduceEqDiff]
    refine ret_ok hS Tryd.results41 (res_tmp hS rfl res_nil) ?_
    exact rfl

noncomputable def clone_Key (s_0 : (List KeyD)) : Option (List KeyD) := gd (roomB (([] : List KeyD).length + s_0.length)) <| some ((([] : List KeyD) ++ s_0))
set_option maxRecDepth 100000 in
set_option maxHeartbeats 4000000 in
theorem clone_Key_c (T : Nat → Prop) (W0 : World) (hT : ∀ k, T k → k < W0.heap.size) (s_0 : (List KeyD)) (v1 : Value) (hv1 : SlR R_KeyD T W0 v1 s_0) (y : (List KeyD)) (hM : clone_Key s_0 = some y) : Rets Tryd.prog No 49 [v1] W0 (fun v w' => ∃ (v2 : Value) (cl3 : List Value), v = v2 ∧ OwnR R_KeyD T W0 w' [.own v2 32 R_KeyD.size cl3] 32 v2 cl3 y) := by
  refine enter (c := _) Tryd.func49 rfl T 8 Tryd.ntmps49 hT rfl fun a hS => ?_
  replace hS := hS.fact (SlF R_KeyD v1 s_0) (SlR.dn hv1)
  unfold clone_Key at hM
  refine wp_seq_k fun K6 hK6 => ?_
  refine r_list ?_
  refine wl rfl (ky (v := .slice none 0 0) hS (y_assign hS rfl) rfl rfl fun a hS => ?_)
  refine wpList_nil ?_
  try simp only [Exit.then, Exit.inBlock, ↓reduceIte, Nat.reduceEqDiff]
  refine hK6 _ _ ?_
  refine wp_seq_k fun K7 hK7 => ?_
  refine wp_seq_k fun K8 hK8 => ?_
  refine r_list ?_
  refine wl rfl (ky (v := v1) hS (y_move hS rfl) rfl rfl fun a hS => ?_)
  obtain ⟨bn12, hbn13, hy14, hy15⟩ := y_slnil (R := R_KeyD) hS sl23 0 rfl
  refine wl rfl (ky (v := .bool bn12) hS (hy14 rfl) rfl rfl fun a hS => ?_)
  refine wpList_nil ?_
  try simp only [Exit.then, Exit.inBlock, ↓reduceIte, Nat.reduceEqDiff]
  refine hK8 _ _ ?_
  rcases bool2 (bn12) with hb16 | hb16
  · rw [hbn13 hb16] at hM
    have hM : some ([]) = some y := hM
    refine c_t hS rfl hb16 ?_
    refine wp_seq_k fun K9 hK9 => ?_
    refine r_list ?_
    refine wl rfl (ky (v := .slice none 0 0) hS (y_assign hS rfl) rfl rfl fun a hS => ?_)
    refine wpList_nil ?_
    try simp only [Exit.then, Exit.inBlock, ↓reduceIte, Nat.reduceEqDiff]
    refine hK9 _ _ ?_
    refine wp_ret ?_
    injection hM with hM
    subst hM
    try simp only [Exit.then, Exit.inBlock, ↓reduceIte, Nat.reduceEqDiff]
    refine ret_ok hS Tryd.results49 (res_tmp hS rfl res_nil) ?_
    exact ⟨.slice none 0 0, [], rfl, ret_nil _ _ _ _ _ _⟩
  · skip
    refine c_f hS rfl hb16 ?_
    refine wp_skip ?_
    try simp only [Exit.then, Exit.inBlock, ↓reduceIte, Nat.reduceEqDiff]
    refine hK7 _ _ ?_
    refine wp_seq_k fun K10 hK10 => ?_
    refine r_list ?_
    refine wl rfl (k_bslice0 R_KeyD hS el23 rfl fun v17 a w hk hS => ?_)
    refine wl rfl (ky (v := v1) hS (y_move hS rfl) rfl rfl fun a hS => ?_)
    obtain ⟨hg19, hM⟩ := gd_some hM
    refine wl rfl (k_apps (R := R_KeyD) (xs := ([] : List KeyD)) (ys := s_0) hS el23 (by decide) (by decide) rfl rfl 0 rfl 0 rfl 1 rfl hg19 rfl fun v20 cl21 a w hk hS => ?_)
    refine wl rfl (ky (v := v20) hS (y_assign hS rfl) rfl rfl fun a hS => ?_)
    refine wpList_nil ?_
    try simp only [Exit.then, Exit.inBlock, ↓reduceIte, Nat.reduceEqDiff]
    refine hK10 _ _ ?_
    refine wp_ret ?_
    injection hM with hM
    subst hM
    try simp only [Exit.then, Exit.inBlock, ↓reduceIte, Nat.reduceEqDiff]
    refine ret_ok hS Tryd.results49 (res_tmp hS rfl res_nil) ?_
    exact ⟨v20, cl21, rfl, hS.retOwn ⟨.inr (List.mem_of_getElem? (i := 0) rfl), trivial⟩ 0 rfl 0 rfl⟩

noncomputable def record_Find_1 (r_0 : RecordD) (p_1 : KeyD) : Option Bool := some ((r_0.Key.Kind : Int) == p_1.Kind && r_0.Key.Text.toList == p_1.Text.toList)
set_option maxRecDepth 100000 in
set_option maxHeartbeats 4000000 in
theorem record_Find_1_c (T : Nat → Prop) (W0 : World) (hT : ∀ k, T k → k < W0.heap.size) (r_0 : RecordD) (p_1 : KeyD) (v1 : Value) (b2 : Nat) (hv1 : SlR R_KeyD T W0 v1 r_0.Reads) (hCb2 : (CellsF b2 0 [.int .i64 p_1.Kind, .string p_1.Text]).p T W0) (y : Bool) (hM : record_Find_1 r_0 p_1 = some y) : Rets Tryd.prog No 42 [.agg #[.int .i64 r_0.Key.Kind, .string r_0.Key.Text, .string r_0.Value, v1, .int .i64 r_0.Changed, .int .i64 r_0.Verified, .int .i64 r_0.Cost, .bool r_0.Dirty], .pointer (some ⟨b2, 0, none⟩)] W0 (fun v w' => v = .bool y) := by
  refine enter (c := _) Tryd.func42 rfl T 8 Tryd.ntmps42 hT rfl fun a hS => ?_
  replace hS := hS.fact (CellsF b2 0 [.int .i64 p_1.Kind, .string p_1.Text]) (Fact.dn _ hCb2)
  replace hS := hS.fact (SlF R_KeyD v1 r_0.Reads) (SlR.dn hv1)
  unfold record_Find_1 at hM
  refine wp_seq_k fun K3 hK3 => ?_
  refine r_list ?_
  refine wl rfl (k_box hS rfl (cs := [.int .i64 r_0.Key.Kind, .string r_0.Key.Text, .string r_0.Value, v1, .int .i64 r_0.Changed, .int .i64 r_0.Verified, .int .i64 r_0.Cost, .bool r_0.Dirty]) rfl rfl fun b4 hnb6 a w hk hS => ?_)
  refine wl rfl (ky (v := .bool false) hS (y_assign hS rfl) rfl rfl fun a hS => ?_)
  refine wpList_nil ?_
  try simp only [Exit.then, Exit.inBlock, ↓reduceIte, Nat.reduceEqDiff]
  refine hK3 _ _ ?_
  refine wp_seq_k fun K4 hK4 => ?_
  refine r_list ?_
  refine wl rfl (ky (v := .pointer (some ⟨b4, 0 + 0, none⟩)) hS (y_fld hS rfl fl34_0) rfl rfl fun a hS => ?_)
  refine wl rfl (ky (v := .agg #[.int .i64 r_0.Key.Kind, .string r_0.Key.Text]) hS (y_load hS rfl ty32 0 rfl id (us := [.int .i64 r_0.Key.Kind, .string r_0.Key.Text]) rfl rfl (fun h => by cases h)) rfl rfl fun a hS => ?_)
  refine wl rfl (ky (v := .agg #[.int .i64 p_1.Kind, .string p_1.Text]) hS (y_loadc (k := 0) hS ty32 1 rfl rfl (fun _ h => h.elim) (us := [.int .i64 p_1.Kind, .string p_1.Text]) rfl rfl (fun h => by cases h)) rfl rfl fun a hS => ?_)
  refine wl rfl (ky (v := .bool ((r_0.Key.Kind : Int) == p_1.Kind && r_0.Key.Text.toList == p_1.Text.toList)) hS (eq32 hS rfl rfl) rfl rfl fun a hS => ?_)
  refine wl rfl (ky (v := .bool ((r_0.Key.Kind : Int) == p_1.Kind && r_0.Key.Text.toList == p_1.Text.toList)) hS (y_assign hS rfl) rfl rfl fun a hS => ?_)
  refine wpList_nil ?_
  try simp only [Exit.then, Exit.inBlock, ↓reduceIte, Nat.reduceEqDiff]
  refine hK4 _ _ ?_
  refine wp_ret ?_
  injection hM with hM
  subst hM
  try simp only [Exit.then, Exit.inBlock, ↓reduceIte, Nat.reduceEqDiff]
  refine ret_ok hS Tryd.results42 (res_tmp hS rfl res_nil) ?_
  exact rfl

noncomputable def record_Own (r_0 : RecordD) : Option RecordD := (clone_Key r_0.Reads).bind fun u16 => some ((RecordD.mk r_0.Key r_0.Value u16 r_0.Changed r_0.Verified r_0.Cost r_0.Dirty))
set_option maxRecDepth 100000 in
set_option maxHeartbeats 4000000 in
theorem record_Own_c (T : Nat → Prop) (W0 : World) (hT : ∀ k, T k → k < W0.heap.size) (r_0 : RecordD) (v1 : Value) (hv1 : SlR R_KeyD T W0 v1 r_0.Reads) (y : RecordD) (hM : record_Own r_0 = some y) : Rets Tryd.prog No 43 [.agg #[.int .i64 r_0.Key.Kind, .string r_0.Key.Text, .string r_0.Value, v1, .int .i64 r_0.Changed, .int .i64 r_0.Verified, .int .i64 r_0.Cost, .bool r_0.Dirty]] W0 (fun v w' => ∃ (v2 : Value) (cl3 : List Value), v = .agg #[.int .i64 y.Key.Kind, .string y.Key.Text, .string y.Value, v2, .int .i64 y.Changed, .int .i64 y.Verified, .int .i64 y.Cost, .bool y.Dirty] ∧ OwnR R_KeyD T W0 w' [.own v2 32 R_KeyD.size cl3] 32 v2 cl3 y.Reads) := by
  refine enter (c := _) Tryd.func43 rfl T 8 Tryd.ntmps43 hT rfl fun a hS => ?_
  replace hS := hS.fact (SlF R_KeyD v1 r_0.Reads) (SlR.dn hv1)
  unfold record_Own at hM
  refine wp_seq_k fun K4 hK4 => ?_
  refine r_list ?_
  refine wl rfl (k_box hS rfl (cs := [.int .i64 r_0.Key.Kind, .string r_0.Key.Text, .string r_0.Value, v1, .int .i64 r_0.Changed, .int .i64 r_0.Verified, .int .i64 r_0.Cost, .bool r_0.Dirty]) rfl rfl fun b10 hnb12 a w hk hS => ?_)
  refine wl rfl (k_alloc hS ze34 rfl fun b13 hnb15 a w hk hS => ?_)
  refine wpList_nil ?_
  try simp only [Exit.then, Exit.inBlock, ↓reduceIte, Nat.reduceEqDiff]
  refine hK4 _ _ ?_
  refine wp_seq_k fun K5 hK5 => ?_
  refine r_list ?_
  refine wl rfl (ky (v := .pointer (some ⟨b10, 0 + 3, none⟩)) hS (y_fld hS rfl fl34_2) rfl rfl fun a hS => ?_)
  refine wl rfl (ky (v := v1) hS (y_load hS rfl ty23 1 rfl id (us := [v1]) rfl rfl (fun _ => rfl)) rfl rfl fun a hS => ?_)
  obtain ⟨u16, hu16, hM⟩ := bd hM
  refine wl rfl (k_call hS ci49 rfl rfl (clone_Key_c _ _ hS.dlt r_0.Reads _ (hS.get 0 rfl) _ hu16) fun _ w hR a hk hA => ?_)
  obtain ⟨vz17_2, clz17_3, he, ⟨hOvz17_2, hFvz17_2, hRvz17_2⟩⟩ := hR
  replace he := he.symm
  subst he
  have hS := hA [.own vz17_2 32 R_KeyD.size clz17_3] (adds1 ⟨hOvz17_2, by decide⟩ hFvz17_2) (pw1 _)
  replace hS := hS.fact (RowsF R_KeyD clz17_3 u16) (hRvz17_2.keep (Kt.refl _ _) (dT_dT _))
  refine wl rfl (ky (v := .pointer (some ⟨b10, 0 + 3, none⟩)) hS (y_fld hS rfl fl34_2) rfl rfl fun a hS => ?_)
  refine wl rfl (k_store hS rfl rfl (us := [vz17_2]) (cells1 (own_one (hS.own _ (List.mem_of_getElem? (i := 0) rfl)).1)) ty23 2 rfl rfl rfl (oc (own_one (hS.own _ (List.mem_of_getElem? (i := 0) rfl)).1) on) fun w hk hS => ?_)
  refine wpList_nil ?_
  try simp only [Exit.then, Exit.inBlock, ↓reduceIte, Nat.reduceEqDiff]
  refine hK5 _ _ ?_
  refine wp_seq_k fun K6 hK6 => ?_
  refine r_list ?_
  refine wl rfl (ky (v := .agg #[.int .i64 r_0.Key.Kind, .string r_0.Key.Text, .string r_0.Value, vz17_2, .int .i64 r_0.Changed, .int .i64 r_0.Verified, .int .i64 r_0.Cost, .bool r_0.Dirty]) hS (y_load hS rfl ty34 2 rfl id (us := [.int .i64 r_0.Key.Kind, .string r_0.Key.Text, .string r_0.Value, vz17_2, .int .i64 r_0.Changed, .int .i64 r_0.Verified, .int .i64 r_0.Cost, .bool r_0.Dirty]) rfl rfl (fun h => by cases h)) rfl rfl fun a hS => ?_)
  refine wl rfl (k_store hS rfl rfl (us := [.int .i64 r_0.Key.Kind, .string r_0.Key.Text, .string r_0.Value, vz17_2, .int .i64 r_0.Changed, .int .i64 r_0.Verified, .int .i64 r_0.Cost, .bool r_0.Dirty]) rfl ty34 1 rfl rfl rfl (oc rfl (oc rfl (oc rfl (oc (own_one (hS.own _ (List.mem_of_getElem? (i := 0) rfl)).1) (oc rfl (oc rfl (oc rfl (oc rfl on)))))))) fun w hk hS => ?_)
  refine wpList_nil ?_
  try simp only [Exit.then, Exit.inBlock, ↓reduceIte, Nat.reduceEqDiff]
  refine hK6 _ _ ?_
  refine wp_ret ?_
  injection hM with hM
  subst hM
  try simp only [Exit.then, Exit.inBlock, ↓reduceIte, Nat.reduceEqDiff]
  refine ret_ok hS Tryd.results43 (res_cell hS rfl 1 rfl ty34 rfl (fun h => by cases h) res_nil) ?_
  exact ⟨vz17_2, clz17_3, rfl, hS.retOwn ⟨.inr (List.mem_of_getElem? (i := 0) rfl), trivial⟩ 0 rfl 0 rfl⟩

noncomputable def record_Find (l_0 : (List RecordD)) (k_1 : KeyD) : Option (RecordD × Bool) := (indexf_Record (fun x0 => record_Find_1 x0 k_1) l_0).bind fun u28 => cond (decide ((u28 : Int) < 0)) (some (((RecordD.mk (KeyD.mk 0 (ByteArray.mk #[])) (ByteArray.mk #[]) ([]) 0 0 0 false), false))) ((getI l_0 u28).bind fun e31 => (record_Own e31).bind fun u38 => some ((u38, true)))
set_option maxRecDepth 100000 in
set_option maxHeartbeats 4000000 in
theorem record_Find_c (T : Nat → Prop) (W0 : World) (hT : ∀ k, T k → k < W0.heap.size) (hLv : LvP T W0) (l_0 : (List RecordD)) (k_1 : KeyD) (v1 : Value) (hv1 : SlR R_RecordD T W0 v1 l_0) (y : RecordD × Bool) (hM : record_Find l_0 k_1 = some y) : Rets Tryd.prog No 32 [v1, .agg #[.int .i64 k_1.Kind, .string k_1.Text]] W0 (fun v w' => ∃ (v2 : Value) (cl3 : List Value), v = .tuple #[.agg #[.int .i64 y.1.Key.Kind, .string y.1.Key.Text, .string y.1.Value, v2, .int .i64 y.1.Changed, .int .i64 y.1.Verified, .int .i64 y.1.Cost, .bool y.1.Dirty], .bool y.2] ∧ OwnR R_KeyD T W0 w' [.own v2 32 R_KeyD.size cl3] 32 v2 cl3 y.1.Reads) := by
  refine enter (c := _) Tryd.func32 rfl T 18 Tryd.ntmps32 hT rfl fun a hS => ?_
  replace hS := hS.fact LvF (LvP.dn hLv)
  replace hS := hS.fact (SlF R_RecordD v1 l_0) (SlR.dn hv1)
  unfold record_Find at hM
  refine wp_seq_k fun K7 hK7 => ?_
  refine r_list ?_
  refine wl rfl (k_box hS rfl (cs := [.int .i64 k_1.Kind, .string k_1.Text]) rfl rfl fun b21 hnb23 a w hk hS => ?_)
  refine wl rfl (k_alloc hS ze34 rfl fun b24 hnb26 a w hk hS => ?_)
  refine wl rfl (ky (v := .bool false) hS (y_assign hS rfl) rfl rfl fun a hS => ?_)
  refine wpList_nil ?_
  try simp only [Exit.then, Exit.inBlock, ↓reduceIte, Nat.reduceEqDiff]
  refine hK7 _ _ ?_
  refine wp_seq_k fun K8 hK8 => ?_
  refine r_list ?_
  refine wl rfl (ky (v := v1) hS (y_move hS rfl) rfl rfl fun a hS => ?_)
  replace hS := hS.freezeBox 1 rfl
  refine wl rfl (ky (v := .func (.func 42) #[] #[.pointer (some ⟨b21, 0, none⟩)]) hS (y_mkfunc (vs := [.pointer (some ⟨b21, 0, none⟩)]) hS rfl) rfl rfl fun a hS => ?_)
  obtain ⟨u28, hu28, hM⟩ := bd hM
  refine wl rfl (k_call hS ci41 rfl rfl (indexf_Record_c _ _ hS.dlt (hS.get 2 rfl) 42 ci42 [.pointer (some ⟨b21, 0, none⟩)] (AndF (CellsF b21 0 [.int .i64 k_1.Kind, .string k_1.Text]) TrueF) (fun x0 => record_Find_1 x0 k_1) (fun T W0 hT hLv hP x0 v1 hv1 y hM => record_Find_1_c T W0 hT x0 k_1 v1 b21 hv1 hP.1 y hM) ⟨(hS.get 0 rfl), trivial⟩ l_0 _ (hS.get 1 rfl) _ hu28) fun _ w hR a hk hA => ?_)
  have he := Eq.symm hR
  subst he
  have hS := hA [] (fun r hr => by cases hr) List.Pairwise.nil
  refine wl rfl (ky (v := .int .i64 u28) hS (y_assign hS rfl) rfl rfl fun a hS => ?_)
  refine wpList_nil ?_
  try simp only [Exit.then, Exit.inBlock, ↓reduceIte, Nat.reduceEqDiff]
  refine hK8 _ _ ?_
  refine wp_seq_k fun K9 hK9 => ?_
  refine wp_seq_k fun K10 hK10 => ?_
  refine r_list ?_
  refine wl rfl (ky (v := .int .i64 u28) hS (y_move hS rfl) rfl rfl fun a hS => ?_)
  refine wl rfl (ky (v := .bool (decide ((u28 : Int) < 0))) hS (y_int hS rfl rfl rfl) rfl rfl fun a hS => ?_)
  refine wpList_nil ?_
  try simp only [Exit.then, Exit.inBlock, ↓reduceIte, Nat.reduceEqDiff]
  refine hK10 _ _ ?_
  rcases bool2 (decide ((u28 : Int) < 0)) with hb30 | hb30
  · replace hM := ct hb30 hM
    refine c_t hS rfl hb30 ?_
    refine wp_seq_k fun K11 hK11 => ?_
    refine r_list ?_
    refine wl rfl (ky (v := .agg #[.int .i64 0, .string (ByteArray.mk #[]), .string (ByteArray.mk #[]), .slice none 0 0, .int .i64 0, .int .i64 0, .int .i64 0, .bool false]) hS (y_build (ps := []) hS pl34 ze34 rfl (us := []) trivial (ws := [.int .i64 0, .string (ByteArray.mk #[]), .string (ByteArray.mk #[]), .slice none 0 0, .int .i64 0, .int .i64 0, .int .i64 0, .bool false]) rfl) rfl rfl fun a hS => ?_)
    refine wl rfl (k_store hS rfl rfl (us := [.int .i64 0, .string (ByteArray.mk #[]), .string (ByteArray.mk #[]), .slice none 0 0, .int .i64 0, .int .i64 0, .int .i64 0, .bool false]) rfl ty34 0 rfl rfl rfl (oc rfl (oc rfl (oc rfl (oc rfl (oc rfl (oc rfl (oc rfl (oc rfl on)))))))) fun w hk hS => ?_)
    refine wl rfl (ky (v := .bool false) hS (y_assign hS rfl) rfl rfl fun a hS => ?_)
    refine wpList_nil ?_
    try simp only [Exit.then, Exit.inBlock, ↓reduceIte, Nat.reduceEqDiff]
    refine hK11 _ _ ?_
    refine wp_ret ?_
    injection hM with hM
    subst hM
    try simp only [Exit.then, Exit.inBlock, ↓reduceIte, Nat.reduceEqDiff]
    refine ret_ok hS Tryd.results32 (res_cell hS rfl 0 rfl ty34 rfl (fun h => by cases h) (res_tmp hS rfl res_nil)) ?_
    exact ⟨.slice none 0 0, [], rfl, ret_nil _ _ _ _ _ _⟩
  · replace hM := cf hb30 hM
    refine c_f hS rfl hb30 ?_
    refine wp_skip ?_
    try simp only [Exit.then, Exit.inBlock, ↓reduceIte, Nat.reduceEqDiff]
    refine hK9 _ _ ?_
    refine wp_seq_k fun K12 hK12 => ?_
    refine r_list ?_
    refine wl rfl (ky (v := v1) hS (y_move hS rfl) rfl rfl fun a hS => ?_)
    refine wl rfl (ky (v := .int .i64 u28) hS (y_move hS rfl) rfl rfl fun a hS => ?_)
    obtain ⟨e31, he31, hM⟩ := bd hM
    refine wl rfl (k_index (R := R_RecordD) hS sl28 ty34 rfl rfl 1 rfl he31 rfl fun b33 o34 cs36 hr35 a hS => ?_)
    obtain ⟨v32, rfl, hv32⟩ := hr35
    replace hS := hS.fact (SlF R_KeyD v32 e31.Reads) hv32
    refine wl rfl (ky (v := .agg #[.int .i64 e31.Key.Kind, .string e31.Key.Text, .string e31.Value, v32, .int .i64 e31.Changed, .int .i64 e31.Verified, .int .i64 e31.Cost, .bool e31.Dirty]) hS (y_loadc (k := 0) hS ty34 1 rfl rfl (fun _ h => h.elim) (us := [.int .i64 e31.Key.Kind, .string e31.Key.Text, .string e31.Value, v32, .int .i64 e31.Changed, .int .i64 e31.Verified, .int .i64 e31.Cost, .bool e31.Dirty]) rfl rfl (fun h => by cases h)) rfl rfl fun a hS => ?_)
    obtain ⟨u38, hu38, hM⟩ := bd hM
    refine wl rfl (k_call hS ci43 rfl rfl (record_Own_c _ _ hS.dlt e31 _ (hS.get 0 rfl) _ hu38) fun _ w hR a hk hA => ?_)
    obtain ⟨vz39_2, clz39_3, he, ⟨hOvz39_2, hFvz39_2, hRvz39_2⟩⟩ := hR
    replace he := he.symm
    subst he
    have hS := hA [.own vz39_2 32 R_KeyD.size clz39_3] (adds1 ⟨hOvz39_2, by decide⟩ hFvz39_2) (pw1 _)
    replace hS := hS.fact (RowsF R_KeyD clz39_3 u38.Reads) (hRvz39_2.keep (Kt.refl _ _) (dT_dT _))
    refine wl rfl (k_store hS rfl rfl (us := [.int .i64 u38.Key.Kind, .string u38.Key.Text, .string u38.Value, vz39_2, .int .i64 u38.Changed, .int .i64 u38.Verified, .int .i64 u38.Cost, .bool u38.Dirty]) rfl ty34 1 rfl rfl rfl (oc rfl (oc rfl (oc rfl (oc (own_one (hS.own _ (List.mem_of_getElem? (i := 0) rfl)).1) (oc rfl (oc rfl (oc rfl (oc rfl on)))))))) fun w hk hS => ?_)
    refine wl rfl (ky (v := .bool true) hS (y_assign hS rfl) rfl rfl fun a hS => ?_)
    refine wpList_nil ?_
    try simp only [Exit.then, Exit.inBlock, ↓reduceIte, Nat.reduceEqDiff]
    refine hK12 _ _ ?_
    refine wp_ret ?_
    injection hM with hM
    subst hM
    try simp only [Exit.then, Exit.inBlock, ↓reduceIte, Nat.reduceEqDiff]
    refine ret_ok hS Tryd.results32 (res_cell hS rfl 1 rfl ty34 rfl (fun h => by cases h) (res_tmp hS rfl res_nil)) ?_
    exact ⟨vz39_2, clz39_3, rfl, hS.retOwn ⟨.inr (List.mem_of_getElem? (i := 0) rfl), trivial⟩ 0 rfl 0 rfl⟩

noncomputable def index_Key_j1 : Option Int := some ((-1))
noncomputable def index_Key_l2 (s_0 : (List KeyD)) (v_1 : KeyD) (g173 : Int) : Option (Fl (Int) (Fl (Unit) Int)) := cond (decide ((g173 : Int) < (s_0.length : Int))) ((getI s_0 g173).bind fun e227 => cond ((v_1.Kind : Int) == e227.Kind && v_1.Text.toList == e227.Text.toList) (some (.out (.out g173))) (some (.go (IntKind.i64.wrap (g173 + 1))))) (some (.out (.go ())))
noncomputable def index_Key (s_0 : (List KeyD)) (v_1 : KeyD) : Option Int := (loop (fun s : Int => index_Key_l2 s_0 v_1 s) 0).bind fun r => Fl.el r (fun s => index_Key_j1) (fun y => some (y))
set_option maxRecDepth 100000 in
set_option maxHeartbeats 4000000 in
theorem index_Key_c (T : Nat → Prop) (W0 : World) (hT : ∀ k, T k → k < W0.heap.size) (s_0 : (List KeyD)) (v_1 : KeyD) (v1 : Value) (hv1 : SlR R_KeyD T W0 v1 s_0) (y : Int) (hM : index_Key s_0 v_1 = some y) : Rets Tryd.prog No 44 [v1, .agg #[.int .i64 v_1.Kind, .string v_1.Text]] W0 (fun v w' => v = .int .i64 y) := by
  refine enter (c := _) Tryd.func44 rfl T 19 Tryd.ntmps44 hT rfl fun a hS => ?_
  replace hS := hS.fact (SlF R_KeyD v1 s_0) (SlR.dn hv1)
  unfold index_Key at hM
  refine wp_seq_k fun K17 hK17 => ?_
  refine r_list ?_
  refine wl rfl (k_box hS rfl (cs := [.int .i64 v_1.Kind, .string v_1.Text]) rfl rfl fun b76 hnb78 a w hk hS => ?_)
  refine wl rfl (ky (v := .int .i64 0) hS (y_assign hS rfl) rfl rfl fun a hS => ?_)
  refine wpList_nil ?_
  try simp only [Exit.then, Exit.inBlock, ↓reduceIte, Nat.reduceEqDiff]
  refine hK17 _ _ ?_
  refine seq_j (J := fun a w => St W0 No T 19 [] [] [] a w ∧ index_Key_j1 = some y) ?_ ?_
  · skip
    refine wp_seq_k fun K32 hK32 => ?_
    refine r_list ?_
    refine wl rfl (ky (v := v1) hS (y_move hS rfl) rfl rfl fun a hS => ?_)
    refine wl rfl (ky (v := .int .i64 (s_0.length : Int)) hS (y_len (R := R_KeyD) (xs := s_0) hS sl23 rfl 0 rfl) rfl rfl fun a hS => ?_)
    refine wl rfl (ky (v := .int .i64 0) hS (y_move hS rfl) rfl rfl fun a hS => ?_)
    refine wpList_nil ?_
    try simp only [Exit.then, Exit.inBlock, ↓reduceIte, Nat.reduceEqDiff]
    refine hK32 _ _ ?_
    refine wp_block ?_
    obtain ⟨r1, hl1, hMo1⟩ := bd hM
    refine wp_lp (fun s : Int => index_Key_l2 s_0 v_1 s) (fun s a w => ∃ (g173 : Int), g173 = s ∧ St W0 No T 19 [(0, v1), (3, .pointer (some ⟨b76, 0, none⟩)), (7, .int .i64 (s_0.length : Int)), (8, .int .i64 g173)] [.box b76 [.int .i64 v_1.Kind, .string v_1.Text] 32] [SlF R_KeyD v1 s_0] a w) hl1 ⟨0, rfl, (hS.meet [0] (by decide) ⟨rfl, rfl, rfl, rfl, trivial⟩ ⟨rfl, trivial⟩ ⟨⟨0, rfl⟩, trivial⟩)⟩ ?_
    rintro s a w f1 ⟨g173, rfl, hS⟩ hM hf1
    have hM : index_Key_l2 s_0 v_1 g173 = some f1 := hM
    unfold index_Key_l2 at hM
    refine wp_seq_k fun K45 hK45 => ?_
    refine r_list ?_
    refine wl rfl (ky (v := .bool (decide ((g173 : Int) < (s_0.length : Int)))) hS (y_int hS rfl rfl rfl) rfl rfl fun a hS => ?_)
    refine wpList_nil ?_
    try simp only [Exit.then, Exit.inBlock, ↓reduceIte, Nat.reduceEqDiff]
    refine hK45 _ _ ?_
    refine wp_seq_k fun K46 hK46 => ?_
    rcases bool2 (decide ((g173 : Int) < (s_0.length : Int))) with hb205 | hb205
    · replace hM := ct hb205 hM
      refine c_t hS rfl hb205 ?_
      refine wp_skip ?_
      try simp only [Exit.then, Exit.inBlock, ↓reduceIte, Nat.reduceEqDiff]
      refine hK46 _ _ ?_
      refine wp_seq_k fun K47 hK47 => ?_
      refine wp_block ?_
      refine wp_seq_k fun K48 hK48 => ?_
      refine r_list ?_
      refine wl rfl (ky (v := .int .i64 g173) hS (y_move hS rfl) rfl rfl fun a hS => ?_)
      refine wl rfl (ky (v := .int .i64 g173) hS (y_assign hS rfl) rfl rfl fun a hS => ?_)
      refine wpList_nil ?_
      try simp only [Exit.then, Exit.inBlock, ↓reduceIte, Nat.reduceEqDiff]
      refine hK48 _ _ ?_
      refine wp_seq_k fun K49 hK49 => ?_
      refine draws [] hS mixed rfl (fun c a d v w h => by cases d <;> exact h) fun w hQ hS => ?_
      refine dy (l := []) 0 (v := .agg #[.int .i64 v_1.Kind, .string v_1.Text]) rfl (by kernel_rfl) (by kernel_rfl) (by kernel_rfl) (by kernel_rfl) hQ hS (y_load hS rfl ty32 0 rfl eo_nil (us := [.int .i64 v_1.Kind, .string v_1.Text]) rfl rfl (fun h => by cases h)) rfl rfl rfl fun a hS => ?_
      refine dy 1 (v := v1) rfl (by kernel_rfl) (by kernel_rfl) (by kernel_rfl) rfl hQ hS (y_move hS rfl) rfl rfl rfl fun a hS => ?_
      refine dy 2 (v := .int .i64 g173) rfl (by kernel_rfl) (by kernel_rfl) (by kernel_rfl) rfl hQ hS (y_move hS rfl) rfl rfl rfl fun a hS => ?_
      obtain ⟨e227, he227, hM⟩ := bd hM
      obtain ⟨b228, o229, cs231, hr230, hy233, hS⟩ := d_index (R := R_KeyD) hS sl23 ty32 0 rfl he227
      obtain rfl := hr230
      refine dy 3 (v := .pointer (some ⟨b228, o229, none⟩)) rfl (by kernel_rfl) (by kernel_rfl) (by kernel_rfl) rfl hQ hS (hy233 rfl rfl) rfl rfl rfl fun a hS => ?_
      refine dy (l := []) 4 (v := .agg #[.int .i64 e227.Kind, .string e227.Text]) rfl (by kernel_rfl) (by kernel_rfl) (by kernel_rfl) (by kernel_rfl) hQ hS (y_loadc (k := 0) hS ty32 0 rfl rfl es_nil (us := [.int .i64 e227.Kind, .string e227.Text]) rfl rfl (fun h => by cases h)) rfl rfl rfl fun a hS => ?_
      refine dy 5 (v := .bool ((v_1.Kind : Int) == e227.Kind && v_1.Text.toList == e227.Text.toList)) rfl (by kernel_rfl) (by kernel_rfl) (by kernel_rfl) rfl hQ hS (eq32 hS rfl rfl) rfl rfl rfl fun a hS => ?_
      refine wpE_done (by kernel_rfl) ?_ _
      try simp only [Exit.then, Exit.inBlock, ↓reduceIte, Nat.reduceEqDiff]
      refine hK49 _ _ ?_
      rcases bool2 ((v_1.Kind : Int) == e227.Kind && v_1.Text.toList == e227.Text.toList) with hb234 | hb234
      · replace hM := ct hb234 hM
        refine c_t hS rfl hb234 ?_
        refine wp_seq_k fun K50 hK50 => ?_
        refine r_list ?_
        refine wl rfl (ky (v := .int .i64 g173) hS (y_move hS rfl) rfl rfl fun a hS => ?_)
        refine wl rfl (ky (v := .int .i64 g173) hS (y_assign hS rfl) rfl rfl fun a hS => ?_)
        refine wpList_nil ?_
        try simp only [Exit.then, Exit.inBlock, ↓reduceIte, Nat.reduceEqDiff]
        refine hK50 _ _ ?_
        refine wp_ret ?_
        injection hM with hM
        subst hM
        have hr := hf1 _ rfl
        subst hr
        replace hMo1 := el_out hMo1
        have hM := hMo1
        injection hM with hM
        subst hM
        try simp only [Exit.then, Exit.inBlock, ↓reduceIte, Nat.reduceEqDiff]
        refine ret_ok hS Tryd.results44 (res_tmp hS rfl res_nil) ?_
        exact rfl
      · replace hM := cf hb234 hM
        refine c_f hS rfl hb234 ?_
        refine wp_skip ?_
        try simp only [Exit.then, Exit.inBlock, ↓reduceIte, Nat.reduceEqDiff]
        refine hK47 _ _ ?_
        refine r_list ?_
        refine wl rfl (ky (v := .int .i64 (IntKind.i64.wrap (g173 + 1))) hS (y_int hS rfl rfl rfl) rfl rfl fun a hS => ?_)
        refine wl rfl (ky (v := .int .i64 (IntKind.i64.wrap (g173 + 1))) hS (y_move hS rfl) rfl rfl fun a hS => ?_)
        refine wpList_nil ?_
        try simp only [Exit.then, Exit.inBlock, ↓reduceIte, Nat.reduceEqDiff]
        exact ⟨IntKind.i64.wrap (g173 + 1), (Option.some.inj hM).symm, (IntKind.i64.wrap (g173 + 1)), rfl, (hS.meet [0] (by decide) ⟨rfl, rfl, rfl, rfl, trivial⟩ ⟨rfl, trivial⟩ ⟨⟨1, rfl⟩, trivial⟩)⟩
    · replace hM := cf hb205 hM
      refine c_f hS rfl hb205 ?_
      refine wp_exit ?_
      try simp only [Exit.then, Exit.inBlock, ↓reduceIte, Nat.reduceEqDiff]
      injection hM with hM
      subst hM
      have hr := hf1 _ rfl
      subst hr
      replace hMo1 := el_go hMo1
      have hM : index_Key_j1 = some y := hMo1
      exact ⟨(hS.meet [] (by decide) trivial trivial trivial), hM⟩
  · rintro a w ⟨hS, hM⟩
    unfold index_Key_j1 at hM
    refine wp_seq_k fun K31 hK31 => ?_
    refine r_list ?_
    refine wl rfl (ky (v := .int .i64 (-1)) hS (y_assign hS rfl) rfl rfl fun a hS => ?_)
    refine wpList_nil ?_
    try simp only [Exit.then, Exit.inBlock, ↓reduceIte, Nat.reduceEqDiff]
    refine hK31 _ _ ?_
    refine wp_ret ?_
    injection hM with hM
    subst hM
    try simp only [Exit.then, Exit.inBlock, ↓reduceIte, Nat.reduceEqDiff]
    refine ret_ok hS Tryd.results44 (res_tmp hS rfl res_nil) ?_
    exact rfl

noncomputable def contains_Key (s_0 : (List KeyD)) (v_1 : KeyD) : Option Bool := (index_Key s_0 v_1).bind fun u9 => some (decide ((0 : Int) ≤ u9))
set_option maxRecDepth 100000 in
set_option maxHeartbeats 4000000 in
theorem contains_Key_c (T : Nat → Prop) (W0 : World) (hT : ∀ k, T k → k < W0.heap.size) (s_0 : (List KeyD)) (v_1 : KeyD) (v1 : Value) (hv1 : SlR R_KeyD T W0 v1 s_0) (y : Bool) (hM : contains_Key s_0 v_1 = some y) : Rets Tryd.prog No 33 [v1, .agg #[.int .i64 v_1.Kind, .string v_1.Text]] W0 (fun v w' => v = .bool y) := by
  refine enter (c := _) Tryd.func33 rfl T 9 Tryd.ntmps33 hT rfl fun a hS => ?_
  replace hS := hS.fact (SlF R_KeyD v1 s_0) (SlR.dn hv1)
  unfold contains_Key at hM
  refine wp_seq_k fun K3 hK3 => ?_
  refine r_list ?_
  refine wl rfl (k_box hS rfl (cs := [.int .i64 v_1.Kind, .string v_1.Text]) rfl rfl fun b6 hnb8 a w hk hS => ?_)
  refine wl rfl (ky (v := .bool false) hS (y_assign hS rfl) rfl rfl fun a hS => ?_)
  refine wpList_nil ?_
  try simp only [Exit.then, Exit.inBlock, ↓reduceIte, Nat.reduceEqDiff]
  refine hK3 _ _ ?_
  refine wp_seq_k fun K4 hK4 => ?_
  refine r_list ?_
  refine wl rfl (ky (v := v1) hS (y_move hS rfl) rfl rfl fun a hS => ?_)
  refine wl rfl (ky (v := .agg #[.int .i64 v_1.Kind, .string v_1.Text]) hS (y_load hS rfl ty32 0 rfl id (us := [.int .i64 v_1.Kind, .string v_1.Text]) rfl rfl (fun h => by cases h)) rfl rfl fun a hS => ?_)
  obtain ⟨u9, hu9, hM⟩ := bd hM
  refine wl rfl (k_call hS ci44 rfl rfl (index_Key_c _ _ hS.dlt s_0 v_1 _ (hS.get 0 rfl) _ hu9) fun _ w hR a hk hA => ?_)
  have he := Eq.symm hR
  subst he
  have hS := hA [] (fun r hr => by cases hr) List.Pairwise.nil
  refine wl rfl (ky (v := .bool (decide ((0 : Int) ≤ u9))) hS (y_int hS rfl rfl rfl) rfl rfl fun a hS => ?_)
  refine wl rfl (ky (v := .bool (decide ((0 : Int) ≤ u9))) hS (y_assign hS rfl) rfl rfl fun a hS => ?_)
  refine wpList_nil ?_
  try simp only [Exit.then, Exit.inBlock, ↓reduceIte, Nat.reduceEqDiff]
  refine hK4 _ _ ?_
  refine wp_ret ?_
  injection hM with hM
  subst hM
  try simp only [Exit.then, Exit.inBlock, ↓reduceIte, Nat.reduceEqDiff]
  refine ret_ok hS Tryd.results33 (res_tmp hS rfl res_nil) ?_
  exact rfl

noncomputable def group_Checks_j1 (out1591 : (List CheckD)) : Option (List CheckD) := some (out1591)
noncomputable def group_Checks_j2 (g1855 : Int) (out2228 : (List CheckD)) : Option (Fl ((List CheckD) × Int) ((List CheckD))) := some (.go (out2228, IntKind.i64.wrap (g1855 + 1)))
noncomputable def group_Checks_j3 (g2301 : Int) (out2373 : (List CheckD)) : Option (Fl ((List CheckD) × Int) ((List CheckD))) := some (.go (out2373, IntKind.i64.wrap (g2301 + 1)))
noncomputable def group_Checks_l4 (group_ : (List KeyD)) (e2232 : KeyD) (u2241 : (RecordD × Bool)) (out2297 : (List CheckD)) (g2301 : Int) : Option (Fl ((List CheckD) × Int) ((List CheckD))) := cond (decide ((g2301 : Int) < (u2241.1.Reads.length : Int))) ((getI u2241.1.Reads g2301).bind fun e2377 => (contains_Key group_ e2377).bind fun u2388 => cond (!(u2388)) (gd (roomB (out2297.length + ([(CheckD.mk e2232 e2377)]).length)) <| group_Checks_j3 g2301 (out2297 ++ ([(CheckD.mk e2232 e2377)]))) (group_Checks_j3 g2301 out2297)) (some (.out out2297))
noncomputable def group_Checks_l5 (l_0 : (List RecordD)) (group_ : (List KeyD)) (out1851 : (List CheckD)) (g1855 : Int) : Option (Fl ((List CheckD) × Int) ((List CheckD))) := cond (decide ((g1855 : Int) < (group_.length : Int))) ((getI group_ g1855).bind fun e2232 => (record_Find l_0 e2232).bind fun u2241 => (loop (fun s : (List CheckD) × Int => group_Checks_l4 group_ e2232 u2241 s.1 s.2) (out1851, 0)).bind fun r => group_Checks_j2 g1855 r) (some (.out out1851))
noncomputable def group_Checks (l_0 : (List RecordD)) (group_ : (List KeyD)) : Option (List CheckD) := (loop (fun s : (List CheckD) × Int => group_Checks_l5 l_0 group_ s.1 s.2) (([] : List CheckD), 0)).bind fun r => group_Checks_j1 r
set_option maxRecDepth 100000 in
set_option maxHeartbeats 4000000 in
theorem group_Checks_c (T : Nat → Prop) (W0 : World) (hT : ∀ k, T k → k < W0.heap.size) (hLv : LvP T W0) (l_0 : (List RecordD)) (group_ : (List KeyD)) (v1 : Value) (v2 : Value) (hv1 : SlR R_RecordD T W0 v1 l_0) (hv2 : SlR R_KeyD T W0 v2 group_) (y : (List CheckD)) (hM : group_Checks l_0 group_ = some y) : Rets Tryd.prog No 17 [v1, v2] W0 (fun v w' => ∃ (v3 : Value) (cl4 : List Value), v = v3 ∧ OwnR R_CheckD T W0 w' [.own v3 44 R_CheckD.size cl4] 44 v3 cl4 y) := by
  refine enter (c := _) Tryd.func17 rfl T 44 Tryd.ntmps17 hT rfl fun a hS => ?_
  replace hS := hS.fact LvF (LvP.dn hLv)
  replace hS := hS.fact (SlF R_RecordD v1 l_0) (SlR.dn hv1)
  replace hS := hS.fact (SlF R_KeyD v2 group_) (SlR.dn hv2)
  unfold group_Checks at hM
  refine wp_seq_k fun K134 hK134 => ?_
  refine r_list ?_
  refine wl rfl (ky (v := .slice none 0 0) hS (y_assign hS rfl) rfl rfl fun a hS => ?_)
  refine wpList_nil ?_
  try simp only [Exit.then, Exit.inBlock, ↓reduceIte, Nat.reduceEqDiff]
  refine hK134 _ _ ?_
  refine wp_seq_k fun K135 hK135 => ?_
  refine r_list ?_
  refine wl rfl (ky (v := .slice none 0 0) hS (y_assign hS rfl) rfl rfl fun a hS => ?_)
  refine wpList_nil ?_
  try simp only [Exit.then, Exit.inBlock, ↓reduceIte, Nat.reduceEqDiff]
  refine hK135 _ _ ?_
  refine seq_j (J := fun a w => ∃ (out1591 : (List CheckD)) (v1592 : Value) (cl1593 : (List Value)), St W0 No T 44 [(5, v1592)] [.own v1592 44 R_CheckD.size cl1593] [RowsF R_CheckD cl1593 out1591, LvF] a w ∧ group_Checks_j1 out1591 = some y) ?_ ?_
  · skip
    refine wp_seq_k fun K202 hK202 => ?_
    refine r_list ?_
    refine wl rfl (ky (v := v2) hS (y_move hS rfl) rfl rfl fun a hS => ?_)
    refine wl rfl (ky (v := .int .i64 (group_.length : Int)) hS (y_len (R := R_KeyD) (xs := group_) hS sl23 rfl 0 rfl) rfl rfl fun a hS => ?_)
    refine wl rfl (ky (v := .int .i64 0) hS (y_move hS rfl) rfl rfl fun a hS => ?_)
    refine wpList_nil ?_
    try simp only [Exit.then, Exit.inBlock, ↓reduceIte, Nat.reduceEqDiff]
    refine hK202 _ _ ?_
    refine wp_block ?_
    replace hS := hS.nilRow R_CheckD 44 (by decide)
    obtain ⟨r1, hl1, hMo1⟩ := bd hM
    refine wp_lp (fun s : (List CheckD) × Int => group_Checks_l5 l_0 group_ s.1 s.2) (fun s a w => ∃ (out1851 : (List CheckD)) (g1855 : Int) (v1852 : Value) (cl1853 : (List Value)), (out1851, g1855) = s ∧ St W0 No T 44 [(0, v1), (1, v2), (5, v1852), (12, v2), (13, .int .i64 (group_.length : Int)), (14, .int .i64 g1855)] [.own v1852 44 R_CheckD.size cl1853] [SlF R_RecordD v1 l_0, SlF R_KeyD v2 group_, RowsF R_CheckD cl1853 out1851, LvF] a w) hl1 ⟨([] : List CheckD), 0, (.slice none 0 0), ([]), rfl, (hS.meet [0] (by decide) ⟨rfl, rfl, rfl, rfl, rfl, rfl, trivial⟩ ⟨rfl, trivial⟩ ⟨⟨2, rfl⟩, ⟨1, rfl⟩, ⟨0, rfl⟩, ⟨3, rfl⟩, trivial⟩)⟩ ?_
    rintro s a w f1 ⟨out1851, g1855, v1852, cl1853, rfl, hS⟩ hM hf1
    have hM : group_Checks_l5 l_0 group_ out1851 g1855 = some f1 := hM
    unfold group_Checks_l5 at hM
    refine wp_seq_k fun K267 hK267 => ?_
    refine r_list ?_
    refine wl rfl (ky (v := .bool (decide ((g1855 : Int) < (group_.length : Int)))) hS (y_int hS rfl rfl rfl) rfl rfl fun a hS => ?_)
    refine wpList_nil ?_
    try simp only [Exit.then, Exit.inBlock, ↓reduceIte, Nat.reduceEqDiff]
    refine hK267 _ _ ?_
    refine wp_seq_k fun K268 hK268 => ?_
    rcases bool2 (decide ((g1855 : Int) < (group_.length : Int))) with hb2107 | hb2107
    · replace hM := ct hb2107 hM
      refine c_t hS rfl hb2107 ?_
      refine wp_skip ?_
      try simp only [Exit.then, Exit.inBlock, ↓reduceIte, Nat.reduceEqDiff]
      refine hK268 _ _ ?_
      refine seq_j (J := fun a w => ∃ (out2228 : (List CheckD)) (v2229 : Value) (cl2230 : (List Value)), St W0 No T 44 [(0, v1), (1, v2), (5, v2229), (12, v2), (13, .int .i64 (group_.length : Int)), (14, .int .i64 g1855)] [.own v2229 44 R_CheckD.size cl2230] [SlF R_RecordD v1 l_0, SlF R_KeyD v2 group_, RowsF R_CheckD cl2230 out2228, LvF] a w ∧ group_Checks_j2 g1855 out2228 = some f1) ?_ ?_
      · skip
        refine wp_block ?_
        refine wp_seq_k fun K284 hK284 => ?_
        refine r_list ?_
        obtain ⟨e2232, he2232, hM⟩ := bd hM
        refine wl rfl (k_index (R := R_KeyD) hS sl23 ty32 rfl rfl 1 rfl he2232 rfl fun b2233 o2234 cs2236 hr2235 a hS => ?_)
        obtain rfl := hr2235
        refine wl rfl (ky (v := .agg #[.int .i64 e2232.Kind, .string e2232.Text]) hS (y_loadc (k := 0) hS ty32 0 rfl rfl (fun _ h => h.elim) (us := [.int .i64 e2232.Kind, .string e2232.Text]) rfl rfl (fun h => by cases h)) rfl rfl fun a hS => ?_)
        refine wl rfl (k_alloc hS ze32 rfl fun b2238 hnb2240 a w hk hS => ?_)
        refine wl rfl (k_store hS rfl rfl (us := [.int .i64 e2232.Kind, .string e2232.Text]) rfl ty32 0 rfl rfl rfl (oc rfl (oc rfl on)) fun w hk hS => ?_)
        refine wpList_nil ?_
        try simp only [Exit.then, Exit.inBlock, ↓reduceIte, Nat.reduceEqDiff]
        refine hK284 _ _ ?_
        refine wp_seq_k fun K285 hK285 => ?_
        refine r_list ?_
        refine wl rfl (ky (v := v1) hS (y_move hS rfl) rfl rfl fun a hS => ?_)
        refine wl rfl (ky (v := .agg #[.int .i64 e2232.Kind, .string e2232.Text]) hS (y_load hS rfl ty32 0 rfl id (us := [.int .i64 e2232.Kind, .string e2232.Text]) rfl rfl (fun h => by cases h)) rfl rfl fun a hS => ?_)
        obtain ⟨u2241, hu2241, hM⟩ := bd hM
        refine wl rfl (k_call hS ci32 rfl rfl (record_Find_c _ _ hS.dlt (hS.get 4 rfl) l_0 e2232 _ (hS.get 1 rfl) _ hu2241) fun _ w hR a hk hA => ?_)
        obtain ⟨vz2242_2, clz2242_3, he, ⟨hOvz2242_2, hFvz2242_2, hRvz2242_2⟩⟩ := hR
        replace he := he.symm
        subst he
        have hS := hA [.own vz2242_2 32 R_KeyD.size clz2242_3] (adds1 ⟨hOvz2242_2, by decide⟩ hFvz2242_2) (pw1 _)
        replace hS := hS.fact (RowsF R_KeyD clz2242_3 u2241.1.Reads) (hRvz2242_2.keep (Kt.refl _ _) (dT_dT _))
        refine wl rfl (ky (v := .tuple #[.agg #[.int .i64 u2241.1.Key.Kind, .string u2241.1.Key.Text, .string u2241.1.Value, vz2242_2, .int .i64 u2241.1.Changed, .int .i64 u2241.1.Verified, .int .i64 u2241.1.Cost, .bool u2241.1.Dirty], .bool u2241.2]) hS (y_move hS rfl) rfl rfl fun a hS => ?_)
        refine wl rfl (ky (v := .agg #[.int .i64 u2241.1.Key.Kind, .string u2241.1.Key.Text, .string u2241.1.Value, vz2242_2, .int .i64 u2241.1.Changed, .int .i64 u2241.1.Verified, .int .i64 u2241.1.Cost, .bool u2241.1.Dirty]) hS (y_ex hS rfl rfl) rfl rfl fun a hS => ?_)
        refine wl rfl (ky (v := .bool u2241.2) hS (y_ex hS rfl rfl) rfl rfl fun a hS => ?_)
        refine wl rfl (k_alloc hS ze34 rfl fun b2244 hnb2246 a w hk hS => ?_)
        refine wl rfl (k_store hS rfl rfl (us := [.int .i64 u2241.1.Key.Kind, .string u2241.1.Key.Text, .string u2241.1.Value, vz2242_2, .int .i64 u2241.1.Changed, .int .i64 u2241.1.Verified, .int .i64 u2241.1.Cost, .bool u2241.1.Dirty]) rfl ty34 0 rfl rfl rfl (oc rfl (oc rfl (oc rfl (oc (own_one (hS.own _ (List.mem_of_getElem? (i := 1) rfl)).1) (oc rfl (oc rfl (oc rfl (oc rfl on)))))))) fun w hk hS => ?_)
        refine wl rfl (ky (v := .bool u2241.2) hS (y_assign hS rfl) rfl rfl fun a hS => ?_)
        refine wpList_nil ?_
        try simp only [Exit.then, Exit.inBlock, ↓reduceIte, Nat.reduceEqDiff]
        refine hK285 _ _ ?_
        refine wp_seq_k fun K286 hK286 => ?_
        refine r_list ?_
        refine wl rfl (ky (v := .pointer (some ⟨b2244, 0 + 3, none⟩)) hS (y_fld hS rfl fl34_2) rfl rfl fun a hS => ?_)
        refine wl rfl (ky (v := vz2242_2) hS (y_load hS rfl ty23 0 rfl id (us := [vz2242_2]) rfl rfl (fun _ => rfl)) rfl rfl fun a hS => ?_)
        refine wl rfl (ky (v := .int .i64 (u2241.1.Reads.length : Int)) hS (y_leno (R := R_KeyD) (xs := u2241.1.Reads) hS sl23 rfl 1 rfl 0 rfl) rfl rfl fun a hS => ?_)
        refine wl rfl (ky (v := .int .i64 0) hS (y_move hS rfl) rfl rfl fun a hS => ?_)
        refine wpList_nil ?_
        try simp only [Exit.then, Exit.inBlock, ↓reduceIte, Nat.reduceEqDiff]
        refine hK286 _ _ ?_
        refine wp_block ?_
        obtain ⟨r2, hl2, hMo2⟩ := bd hM
        refine wp_lp (fun s : (List CheckD) × Int => group_Checks_l4 group_ e2232 u2241 s.1 s.2) (fun s a w => ∃ (out2297 : (List CheckD)) (g2301 : Int) (v2298 : Value) (cl2299 : (List Value)), (out2297, g2301) = s ∧ St W0 No T 44 [(0, v1), (1, v2), (5, v2298), (7, .pointer (some ⟨b2238, 0, none⟩)), (12, v2), (13, .int .i64 (group_.length : Int)), (14, .int .i64 g1855), (25, vz2242_2), (26, .int .i64 (u2241.1.Reads.length : Int)), (27, .int .i64 g2301)] [.own v2298 44 R_CheckD.size cl2299, .own vz2242_2 32 R_KeyD.size clz2242_3, .box b2238 [.int .i64 e2232.Kind, .string e2232.Text] 32] [SlF R_RecordD v1 l_0, SlF R_KeyD v2 group_, RowsF R_CheckD cl2299 out2297, RowsF R_KeyD clz2242_3 u2241.1.Reads, LvF] a w) hl2 ⟨out1851, 0, v1852, cl1853, rfl, (hS.meet [3, 1, 2] (by decide) ⟨rfl, rfl, rfl, rfl, rfl, rfl, rfl, rfl, rfl, rfl, trivial⟩ ⟨rfl, rfl, rfl, trivial⟩ ⟨⟨2, rfl⟩, ⟨3, rfl⟩, ⟨4, rfl⟩, ⟨0, rfl⟩, ⟨5, rfl⟩, trivial⟩)⟩ ?_
        rintro s a w f2 ⟨out2297, g2301, v2298, cl2299, rfl, hS⟩ hM hf2
        have hM : group_Checks_l4 group_ e2232 u2241 out2297 g2301 = some f2 := hM
        unfold group_Checks_l4 at hM
        refine wp_seq_k fun K299 hK299 => ?_
        refine r_list ?_
        refine wl rfl (ky (v := .bool (decide ((g2301 : Int) < (u2241.1.Reads.length : Int)))) hS (y_int hS rfl rfl rfl) rfl rfl fun a hS => ?_)
        refine wpList_nil ?_
        try simp only [Exit.then, Exit.inBlock, ↓reduceIte, Nat.reduceEqDiff]
        refine hK299 _ _ ?_
        refine wp_seq_k fun K300 hK300 => ?_
        rcases bool2 (decide ((g2301 : Int) < (u2241.1.Reads.length : Int))) with hb2352 | hb2352
        · replace hM := ct hb2352 hM
          refine c_t hS rfl hb2352 ?_
          refine wp_skip ?_
          try simp only [Exit.then, Exit.inBlock, ↓reduceIte, Nat.reduceEqDiff]
          refine hK300 _ _ ?_
          refine seq_j (J := fun a w => ∃ (out2373 : (List CheckD)) (v2374 : Value) (cl2375 : (List Value)), St W0 No T 44 [(0, v1), (1, v2), (5, v2374), (7, .pointer (some ⟨b2238, 0, none⟩)), (12, v2), (13, .int .i64 (group_.length : Int)), (14, .int .i64 g1855), (25, vz2242_2), (26, .int .i64 (u2241.1.Reads.length : Int)), (27, .int .i64 g2301)] [.own v2374 44 R_CheckD.size cl2375, .own vz2242_2 32 R_KeyD.size clz2242_3, .box b2238 [.int .i64 e2232.Kind, .string e2232.Text] 32] [SlF R_RecordD v1 l_0, SlF R_KeyD v2 group_, RowsF R_CheckD cl2375 out2373, RowsF R_KeyD clz2242_3 u2241.1.Reads, LvF] a w ∧ group_Checks_j3 g2301 out2373 = some f2) ?_ ?_
          · skip
            refine wp_block ?_
            refine wp_seq_k fun K303 hK303 => ?_
            refine r_list ?_
            obtain ⟨e2377, he2377, hM⟩ := bd hM
            refine wl rfl (k_indexo (R := R_KeyD) hS sl23 ty32 rfl rfl 1 rfl 3 rfl he2377 rfl fun b2378 o2379 p2384 cs2381 hr2380 hO2382 hC2383 a hS => ?_)
            obtain rfl := hr2380
            refine wl rfl (ky (v := .agg #[.int .i64 e2377.Kind, .string e2377.Text]) hS (y_loado (k := 0) hS ty32 1 rfl hO2382 hC2383 rfl id (us := [.int .i64 e2377.Kind, .string e2377.Text]) rfl rfl (fun h => by cases h)) rfl rfl fun a hS => ?_)
            refine wl rfl (k_alloc hS ze32 rfl fun b2385 hnb2387 a w hk hS => ?_)
            refine wl rfl (k_store hS rfl rfl (us := [.int .i64 e2377.Kind, .string e2377.Text]) rfl ty32 0 rfl rfl rfl (oc rfl (oc rfl on)) fun w hk hS => ?_)
            refine wpList_nil ?_
            try simp only [Exit.then, Exit.inBlock, ↓reduceIte, Nat.reduceEqDiff]
            refine hK303 _ _ ?_
            refine wp_seq_k fun K304 hK304 => ?_
            refine r_list ?_
            refine wl rfl (ky (v := v2) hS (y_move hS rfl) rfl rfl fun a hS => ?_)
            refine wl rfl (ky (v := .agg #[.int .i64 e2377.Kind, .string e2377.Text]) hS (y_load hS rfl ty32 0 rfl id (us := [.int .i64 e2377.Kind, .string e2377.Text]) rfl rfl (fun h => by cases h)) rfl rfl fun a hS => ?_)
            obtain ⟨u2388, hu2388, hM⟩ := bd hM
            refine wl rfl (k_call hS ci33 rfl rfl (contains_Key_c _ _ hS.dlt group_ e2377 _ (hS.get 1 rfl) _ hu2388) fun _ w hR a hk hA => ?_)
            have he := Eq.symm hR
            subst he
            have hS := hA [] (fun r hr => by cases hr) List.Pairwise.nil
            refine wl rfl (ky (v := .bool (!(u2388))) hS (y_not hS rfl) rfl rfl fun a hS => ?_)
            refine wpList_nil ?_
            try simp only [Exit.then, Exit.inBlock, ↓reduceIte, Nat.reduceEqDiff]
            refine hK304 _ _ ?_
            rcases bool2 (!(u2388)) with hb2390 | hb2390
            · replace hM := ct hb2390 hM
              refine c_t hS rfl hb2390 ?_
              refine r_list ?_
              refine wl rfl (ky (v := v2298) hS (y_move hS rfl) rfl rfl fun a hS => ?_)
              refine wl rfl (ky (v := .agg #[.int .i64 e2232.Kind, .string e2232.Text]) hS (y_load hS rfl ty32 3 rfl id (us := [.int .i64 e2232.Kind, .string e2232.Text]) rfl rfl (fun h => by cases h)) rfl rfl fun a hS => ?_)
              refine wl rfl (ky (v := .agg #[.int .i64 e2377.Kind, .string e2377.Text]) hS (y_load hS rfl ty32 0 rfl id (us := [.int .i64 e2377.Kind, .string e2377.Text]) rfl rfl (fun h => by cases h)) rfl rfl fun a hS => ?_)
              refine wl rfl (ky (v := .agg #[.int .i64 e2232.Kind, .string e2232.Text, .int .i64 e2377.Kind, .string e2377.Text]) hS (y_build (ps := [(0, .tmp 36), (1, .tmp 37)]) hS pl44 ze44 rfl (us := [[.int .i64 e2232.Kind, .string e2232.Text], [.int .i64 e2377.Kind, .string e2377.Text]]) ⟨rfl, ⟨rfl, trivial⟩⟩ (ws := [.int .i64 e2232.Kind, .string e2232.Text, .int .i64 e2377.Kind, .string e2377.Text]) rfl) rfl rfl fun a hS => ?_)
              refine wl rfl (k_bslice (ps := [(0, .tmp 38)]) hS el39 ze44 (zl := [.int .i64 0, .string (ByteArray.mk #[]), .int .i64 0, .string (ByteArray.mk #[])]) (by kernel_rfl) rfl (us := [[.int .i64 e2232.Kind, .string e2232.Text, .int .i64 e2377.Kind, .string e2377.Text]]) ⟨rfl, trivial⟩ (ws := [.int .i64 e2232.Kind, .string e2232.Text, .int .i64 e2377.Kind, .string e2377.Text]) rfl rfl rfl rfl fun b2391 a w hk hS => ?_)
              replace hS := hS.lit (R := R_CheckD) (us := [.int .i64 e2232.Kind, .string e2232.Text, .int .i64 e2377.Kind, .string e2377.Text]) (xs := [(CheckD.mk e2232 e2377)]) 0 rfl (by decide) (RowsOk.one_ (R := R_CheckD) (x := (CheckD.mk e2232 e2377)) rfl) rfl rfl
              replace hS := hS.freeze (R := R_CheckD) 0 rfl 0 rfl
              obtain ⟨hg2393, hM⟩ := gd_some hM
              refine wl rfl (k_apps (R := R_CheckD) (xs := out2297) (ys := [(CheckD.mk e2232 e2377)]) hS el39 (by decide) (by decide) rfl rfl 1 rfl 4 rfl 0 rfl hg2393 rfl fun v2394 cl2395 a w hk hS => ?_)
              refine wl rfl (ky (v := v2394) hS (y_assign hS rfl) rfl rfl fun a hS => ?_)
              refine wpList_nil ?_
              try simp only [Exit.then, Exit.inBlock, ↓reduceIte, Nat.reduceEqDiff]
              exact ⟨(out2297 ++ ([(CheckD.mk e2232 e2377)])), v2394, cl2395, (hS.meet [1, 2, 3] (by decide) ⟨rfl, rfl, rfl, rfl, rfl, rfl, rfl, rfl, rfl, rfl, trivial⟩ ⟨rfl, rfl, rfl, trivial⟩ ⟨⟨3, rfl⟩, ⟨4, rfl⟩, ⟨0, rfl⟩, ⟨6, rfl⟩, ⟨7, rfl⟩, trivial⟩), hM⟩
            · replace hM := cf hb2390 hM
              refine c_f hS rfl hb2390 ?_
              refine wp_skip ?_
              try simp only [Exit.then, Exit.inBlock, ↓reduceIte, Nat.reduceEqDiff]
              exact ⟨out2297, v2298, cl2299, (hS.meet [1, 2, 3] (by decide) ⟨rfl, rfl, rfl, rfl, rfl, rfl, rfl, rfl, rfl, rfl, trivial⟩ ⟨rfl, rfl, rfl, trivial⟩ ⟨⟨0, rfl⟩, ⟨1, rfl⟩, ⟨2, rfl⟩, ⟨3, rfl⟩, ⟨4, rfl⟩, trivial⟩), hM⟩
          · rintro a w ⟨out2373, v2374, cl2375, hS, hM⟩
            unfold group_Checks_j3 at hM
            refine r_list ?_
            refine wl rfl (ky (v := .int .i64 (IntKind.i64.wrap (g2301 + 1))) hS (y_int hS rfl rfl rfl) rfl rfl fun a hS => ?_)
            refine wl rfl (ky (v := .int .i64 (IntKind.i64.wrap (g2301 + 1))) hS (y_move hS rfl) rfl rfl fun a hS => ?_)
            refine wpList_nil ?_
            try simp only [Exit.then, Exit.inBlock, ↓reduceIte, Nat.reduceEqDiff]
            exact ⟨(out2373, IntKind.i64.wrap (g2301 + 1)), (Option.some.inj hM).symm, out2373, (IntKind.i64.wrap (g2301 + 1)), v2374, cl2375, rfl, (hS.meet [0, 1, 2] (by decide) ⟨rfl, rfl, rfl, rfl, rfl, rfl, rfl, rfl, rfl, rfl, trivial⟩ ⟨rfl, rfl, rfl, trivial⟩ ⟨⟨0, rfl⟩, ⟨1, rfl⟩, ⟨2, rfl⟩, ⟨3, rfl⟩, ⟨4, rfl⟩, trivial⟩)⟩
        · replace hM := cf hb2352 hM
          refine c_f hS rfl hb2352 ?_
          refine wp_exit ?_
          try simp only [Exit.then, Exit.inBlock, ↓reduceIte, Nat.reduceEqDiff]
          injection hM with hM
          subst hM
          have hr := hf2 _ rfl
          subst hr
          have hM : group_Checks_j2 g1855 out2297 = some f1 := hMo2
          exact ⟨out2297, v2298, cl2299, (hS.meet [0] (by decide) ⟨rfl, rfl, rfl, rfl, rfl, rfl, trivial⟩ ⟨rfl, trivial⟩ ⟨⟨0, rfl⟩, ⟨1, rfl⟩, ⟨2, rfl⟩, ⟨4, rfl⟩, trivial⟩), hM⟩
      · rintro a w ⟨out2228, v2229, cl2230, hS, hM⟩
        unfold group_Checks_j2 at hM
        refine r_list ?_
        refine wl rfl (ky (v := .int .i64 (IntKind.i64.wrap (g1855 + 1))) hS (y_int hS rfl rfl rfl) rfl rfl fun a hS => ?_)
        refine wl rfl (ky (v := .int .i64 (IntKind.i64.wrap (g1855 + 1))) hS (y_move hS rfl) rfl rfl fun a hS => ?_)
        refine wpList_nil ?_
        try simp only [Exit.then, Exit.inBlock, ↓reduceIte, Nat.reduceEqDiff]
        exact ⟨(out2228, IntKind.i64.wrap (g1855 + 1)), (Option.some.inj hM).symm, out2228, (IntKind.i64.wrap (g1855 + 1)), v2229, cl2230, rfl, (hS.meet [0] (by decide) ⟨rfl, rfl, rfl, rfl, rfl, rfl, trivial⟩ ⟨rfl, trivial⟩ ⟨⟨0, rfl⟩, ⟨1, rfl⟩, ⟨2, rfl⟩, ⟨3, rfl⟩, trivial⟩)⟩
    · replace hM := cf hb2107 hM
      refine c_f hS rfl hb2107 ?_
      refine wp_exit ?_
      try simp only [Exit.then, Exit.inBlock, ↓reduceIte, Nat.reduceEqDiff]
      injection hM with hM
      subst hM
      have hr := hf1 _ rfl
      subst hr
      have hM : group_Checks_j1 out1851 = some y := hMo1
      exact ⟨out1851, v1852, cl1853, (hS.meet [0] (by decide) ⟨rfl, trivial⟩ ⟨rfl, trivial⟩ ⟨⟨2, rfl⟩, ⟨3, rfl⟩, trivial⟩), hM⟩
  · rintro a w ⟨out1591, v1592, cl1593, hS, hM⟩
    unfold group_Checks_j1 at hM
    refine wp_seq_k fun K201 hK201 => ?_
    refine r_list ?_
    refine wl rfl (ky (v := v1592) hS (y_move hS rfl) rfl rfl fun a hS => ?_)
    refine wl rfl (ky (v := v1592) hS (y_assign hS rfl) rfl rfl fun a hS => ?_)
    refine wpList_nil ?_
    try simp only [Exit.then, Exit.inBlock, ↓reduceIte, Nat.reduceEqDiff]
    refine hK201 _ _ ?_
    refine wp_ret ?_
    injection hM with hM
    subst hM
    try simp only [Exit.then, Exit.inBlock, ↓reduceIte, Nat.reduceEqDiff]
    refine ret_ok hS Tryd.results17 (res_tmp hS rfl res_nil) ?_
    exact ⟨v1592, cl1593, rfl, hS.retOwn ⟨.inr (List.mem_of_getElem? (i := 0) rfl), trivial⟩ 0 rfl 0 rfl⟩
end Go.Proofs.YtdappapdddnciaaDoor
