/- What functions of the program compute; that they do. -/
import Derived.Test.YtdappapdddnciaaDoorMT
set_option linter.unusedVariables false
set_option linter.unusedSimpArgs false
namespace Go.Proofs.YtdappapdddnciaaDoor
open Go.RowKit
noncomputable def mill_Light (t_0 : (List Int)) : Option Bool := some (decide (((t_0.length : Int) : Int) ≤ 400))
set_option maxRecDepth 100000 in
set_option maxHeartbeats 4000000 in
theorem mill_Light_c (T : Nat → Prop) (W0 : World) (hT : ∀ k, T k → k < W0.heap.size) (t_0 : (List Int)) (v1 : Value) (hv1 : SlR (Rep.int .i64) T W0 v1 t_0) (y : Bool) (hM : mill_Light t_0 = some y) : Rets Tryd.prog No 7 [v1] W0 (fun v w' => v = .bool y) := by
  refine enter (c := _) Tryd.func7 rfl T 6 Tryd.ntmps7 hT rfl fun a hS => ?_
  replace hS := hS.fact (SlF (Rep.int .i64) v1 t_0) (SlR.dn hv1)
  unfold mill_Light at hM
  refine wp_seq_k fun K3 hK3 => ?_
  refine r_list ?_
  refine wl rfl (ky (v := .bool false) hS (y_assign hS rfl) rfl rfl fun a hS => ?_)
  refine wpList_nil ?_
  try simp only [Exit.then, Exit.inBlock, ↓reduceIte, Nat.reduceEqDiff]
  refine hK3 _ _ ?_
  refine wp_seq_k fun K4 hK4 => ?_
  refine r_list ?_
  refine wl rfl (ky (v := v1) hS (y_move hS rfl) rfl rfl fun a hS => ?_)
  refine wl rfl (ky (v := .int .i64 (t_0.length : Int)) hS (y_len (R := (Rep.int .i64)) (xs := t_0) hS sl22 rfl 0 rfl) rfl rfl fun a hS => ?_)
  refine wl rfl (ky (v := .bool (decide (((t_0.length : Int) : Int) ≤ 400))) hS (y_int hS rfl rfl rfl) rfl rfl fun a hS => ?_)
  refine wl rfl (ky (v := .bool (decide (((t_0.length : Int) : Int) ≤ 400))) hS (y_assign hS rfl) rfl rfl fun a hS => ?_)
  refine wpList_nil ?_
  try simp only [Exit.then, Exit.inBlock, ↓reduceIte, Nat.reduceEqDiff]
  refine hK4 _ _ ?_
  refine wp_ret ?_
  injection hM with hM
  subst hM
  try simp only [Exit.then, Exit.inBlock, ↓reduceIte, Nat.reduceEqDiff]
  refine ret_ok hS Tryd.results7 (res_tmp hS rfl res_nil) ?_
  exact rfl

noncomputable def ref23_Cell (n_0 : Int) : Option KeyD := cond (decide ((n_0 : Int) < 0)) (some ((KeyD.mk 0 (ByteArray.mk #[])))) (cond (decide ((99 : Int) < n_0)) (some ((KeyD.mk 0 (ByteArray.mk #[])))) ((itoaM n_0).bind fun u15 => some ((KeyD.mk 30 u15))))
set_option maxRecDepth 100000 in
set_option maxHeartbeats 4000000 in
theorem ref23_Cell_c (T : Nat → Prop) (W0 : World) (hT : ∀ k, T k → k < W0.heap.size) (hLv : LvP T W0) (n_0 : Int) (y : KeyD) (hM : ref23_Cell n_0 = some y) : Rets Tryd.prog No 12 [.int .i64 n_0] W0 (fun v w' => v = .agg #[.int .i64 y.Kind, .string y.Text]) := by
  refine enter (c := _) Tryd.func12 rfl T 13 Tryd.ntmps12 hT rfl fun a hS => ?_
  replace hS := hS.fact LvF (LvP.dn hLv)
  unfold ref23_Cell at hM
  refine wp_seq_k fun K7 hK7 => ?_
  refine r_list ?_
  refine wl rfl (k_alloc hS ze32 rfl fun b9 hnb11 a w hk hS => ?_)
  refine wpList_nil ?_
  try simp only [Exit.then, Exit.inBlock, ↓reduceIte, Nat.reduceEqDiff]
  refine hK7 _ _ ?_
  refine wp_seq_k fun K8 hK8 => ?_
  refine wp_seq_k fun K9 hK9 => ?_
  refine r_list ?_
  refine wl rfl (ky (v := .int .i64 n_0) hS (y_move hS rfl) rfl rfl fun a hS => ?_)
  refine wl rfl (ky (v := .bool (decide ((n_0 : Int) < 0))) hS (y_int hS rfl rfl rfl) rfl rfl fun a hS => ?_)
  refine wl rfl (ky (v := .bool (decide ((n_0 : Int) < 0))) hS (y_move hS rfl) rfl rfl fun a hS => ?_)
  rcases bool2 (decide ((n_0 : Int) < 0)) with hb13 | hb13
  · replace hM := ct hb13 hM
    refine wn hS rfl rfl rfl hb13 rfl rfl fun a hS => ?_
    refine wn hS rfl rfl rfl hb13 rfl rfl fun a hS => ?_
    refine wl rfl (ky (v := .bool true) hS (y_pickt hS rfl hb13 rfl) rfl rfl fun a hS => ?_)
    refine wpList_nil ?_
    try simp only [Exit.then, Exit.inBlock, ↓reduceIte, Nat.reduceEqDiff]
    refine hK9 _ _ ?_
    refine c_t hS rfl rfl ?_
    refine wp_seq_k fun K10 hK10 => ?_
    refine r_list ?_
    refine wl rfl (ky (v := .agg #[.int .i64 0, .string (ByteArray.mk #[])]) hS (y_build (ps := []) hS pl32 ze32 rfl (us := []) trivial (ws := [.int .i64 0, .string (ByteArray.mk #[])]) rfl) rfl rfl fun a hS => ?_)
    refine wl rfl (k_store hS rfl rfl (us := [.int .i64 0, .string (ByteArray.mk #[])]) rfl ty32 0 rfl rfl rfl (oc rfl (oc rfl on)) fun w hk hS => ?_)
    refine wpList_nil ?_
    try simp only [Exit.then, Exit.inBlock, ↓reduceIte, Nat.reduceEqDiff]
    refine hK10 _ _ ?_
    refine wp_ret ?_
    injection hM with hM
    subst hM
    try simp only [Exit.then, Exit.inBlock, ↓reduceIte, Nat.reduceEqDiff]
    refine ret_ok hS Tryd.results12 (res_cell hS rfl 0 rfl ty32 rfl (fun h => by cases h) res_nil) ?_
    exact rfl
  · replace hM := cf hb13 hM
    refine wg hS rfl rfl rfl hb13 (ky (v := .int .i64 n_0) hS (y_move hS rfl) rfl rfl fun a hS => ?_)
    refine wg hS rfl rfl rfl hb13 (ky (v := .bool (decide ((99 : Int) < n_0))) hS (y_int hS rfl rfl rfl) rfl rfl fun a hS => ?_)
    refine wl rfl (ky (v := .bool (decide ((99 : Int) < n_0))) hS (y_pickf hS rfl hb13 rfl) rfl rfl fun a hS => ?_)
    refine wpList_nil ?_
    try simp only [Exit.then, Exit.inBlock, ↓reduceIte, Nat.reduceEqDiff]
    refine hK9 _ _ ?_
    rcases bool2 (decide ((99 : Int) < n_0)) with hb14 | hb14
    · replace hM := ct hb14 hM
      refine c_t hS rfl hb14 ?_
      refine wp_seq_k fun K11 hK11 => ?_
      refine r_list ?_
      refine wl rfl (ky (v := .agg #[.int .i64 0, .string (ByteArray.mk #[])]) hS (y_build (ps := []) hS pl32 ze32 rfl (us := []) trivial (ws := [.int .i64 0, .string (ByteArray.mk #[])]) rfl) rfl rfl fun a hS => ?_)
      refine wl rfl (k_store hS rfl rfl (us := [.int .i64 0, .string (ByteArray.mk #[])]) rfl ty32 0 rfl rfl rfl (oc rfl (oc rfl on)) fun w hk hS => ?_)
      refine wpList_nil ?_
      try simp only [Exit.then, Exit.inBlock, ↓reduceIte, Nat.reduceEqDiff]
      refine hK11 _ _ ?_
      refine wp_ret ?_
      injection hM with hM
      subst hM
      try simp only [Exit.then, Exit.inBlock, ↓reduceIte, Nat.reduceEqDiff]
      refine ret_ok hS Tryd.results12 (res_cell hS rfl 0 rfl ty32 rfl (fun h => by cases h) res_nil) ?_
      exact rfl
    · replace hM := cf hb14 hM
      refine c_f hS rfl hb14 ?_
      refine wp_skip ?_
      try simp only [Exit.then, Exit.inBlock, ↓reduceIte, Nat.reduceEqDiff]
      refine hK8 _ _ ?_
      refine wp_seq_k fun K12 hK12 => ?_
      refine r_list ?_
      refine wl rfl (ky (v := .int .i64 n_0) hS (y_move hS rfl) rfl rfl fun a hS => ?_)
      obtain ⟨u15, hu15, hM⟩ := bd hM
      refine wl rfl (k_call hS ci24 rfl rfl (itoaM_c _ _ hS.dlt (hS.get 0 rfl) n_0 _ hu15) fun _ w hR a hk hA => ?_)
      have he := Eq.symm hR
      subst he
      have hS := hA [] (fun r hr => by cases hr) List.Pairwise.nil
      refine wl rfl (ky (v := .agg #[.int .i64 30, .string u15]) hS (y_build (ps := [(0, .const (.int .i64 30)), (1, .tmp 11)]) hS pl32 ze32 rfl (us := [[.int .i64 30], [.string u15]]) ⟨rfl, ⟨rfl, trivial⟩⟩ (ws := [.int .i64 30, .string u15]) rfl) rfl rfl fun a hS => ?_)
      refine wl rfl (k_store hS rfl rfl (us := [.int .i64 30, .string u15]) rfl ty32 0 rfl rfl rfl (oc rfl (oc rfl on)) fun w hk hS => ?_)
      refine wpList_nil ?_
      try simp only [Exit.then, Exit.inBlock, ↓reduceIte, Nat.reduceEqDiff]
      refine hK12 _ _ ?_
      refine wp_ret ?_
      injection hM with hM
      subst hM
      try simp only [Exit.then, Exit.inBlock, ↓reduceIte, Nat.reduceEqDiff]
      refine ret_ok hS Tryd.results12 (res_cell hS rfl 0 rfl ty32 rfl (fun h => by cases h) res_nil) ?_
      exact rfl

noncomputable def mill_Roll (t_0 : (List Int)) : Option DiceD := some ((DiceD.mk t_0 0))
set_option maxRecDepth 100000 in
set_option maxHeartbeats 4000000 in
theorem mill_Roll_c (T : Nat → Prop) (W0 : World) (hT : ∀ k, T k → k < W0.heap.size) (t_0 : (List Int)) (v1 : Value) (hv1 : SlR (Rep.int .i64) T W0 v1 t_0) (y : DiceD) (hM : mill_Roll t_0 = some y) : Rets Tryd.prog No 9 [v1] W0 (fun v w' => ∃ (b2 : Nat) (v3 : Value), v = .pointer (some ⟨b2, 0, none⟩) ∧ W0.heap.size ≤ b2 ∧ w'.heap[b2]? = some (.cells #[v3, .int .i64 y.At] 52 (0, 0)) ∧ SlR (Rep.int .i64) (dT T [.box b2 [v3, .int .i64 y.At] 52]) w' v3 y.L) := by
  refine enter (c := _) Tryd.func9 rfl T 6 Tryd.ntmps9 hT rfl fun a hS => ?_
  replace hS := hS.fact (SlF (Rep.int .i64) v1 t_0) (SlR.dn hv1)
  unfold mill_Roll at hM
  refine wp_seq_k fun K3 hK3 => ?_
  refine r_list ?_
  refine wl rfl (ky (v := .pointer none) hS (y_assign hS rfl) rfl rfl fun a hS => ?_)
  refine wpList_nil ?_
  try simp only [Exit.then, Exit.inBlock, ↓reduceIte, Nat.reduceEqDiff]
  refine hK3 _ _ ?_
  refine wp_seq_k fun K4 hK4 => ?_
  refine r_list ?_
  refine wl rfl (ky (v := v1) hS (y_move hS rfl) rfl rfl fun a hS => ?_)
  refine wl rfl (ky (v := .agg #[v1, .int .i64 0]) hS (y_build (ps := [(0, .tmp 3)]) hS pl52 ze52 rfl (us := [[v1]]) ⟨(cells1 (SlR.one ((hS.get 0 rfl) : SlR (Rep.int .i64) _ _ _ _))), trivial⟩ (ws := [v1, .int .i64 0]) rfl) rfl rfl fun a hS => ?_)
  refine wl rfl (k_box hS rfl (cs := [v1, .int .i64 0]) rfl rfl fun b4 hnb6 a w hk hS => ?_)
  refine wl rfl (ky (v := .pointer (some ⟨b4, 0, none⟩)) hS (y_assign hS rfl) rfl rfl fun a hS => ?_)
  refine wpList_nil ?_
  try simp only [Exit.then, Exit.inBlock, ↓reduceIte, Nat.reduceEqDiff]
  refine hK4 _ _ ?_
  refine wp_ret ?_
  injection hM with hM
  subst hM
  try simp only [Exit.then, Exit.inBlock, ↓reduceIte, Nat.reduceEqDiff]
  refine ret_ok hS Tryd.results9 (res_tmp hS rfl res_nil) ?_
  exact ⟨b4, v1, rfl, hS.boxNew 0 rfl, hS.boxRow 0 rfl, (SlR.up ⟨.inr (List.mem_of_getElem? (i := 0) rfl), trivial⟩ (hS.get 0 rfl))⟩

noncomputable def ref26_CopyOne (r_0 : RecordD) : Option RecordD := gd (roomB (([] : List KeyD).length + r_0.Reads.length)) <| some ((RecordD.mk r_0.Key r_0.Value (([] : List KeyD) ++ r_0.Reads) r_0.Changed r_0.Verified r_0.Cost r_0.Dirty))
set_option maxRecDepth 100000 in
set_option maxHeartbeats 4000000 in
theorem ref26_CopyOne_c (T : Nat → Prop) (W0 : World) (hT : ∀ k, T k → k < W0.heap.size) (r_0 : RecordD) (v1 : Value) (hv1 : SlR R_KeyD T W0 v1 r_0.Reads) (y : RecordD) (hM : ref26_CopyOne r_0 = some y) : Rets Tryd.prog No 34 [.agg #[.int .i64 r_0.Key.Kind, .string r_0.Key.Text, .string r_0.Value, v1, .int .i64 r_0.Changed, .int .i64 r_0.Verified, .int .i64 r_0.Cost, .bool r_0.Dirty]] W0 (fun v w' => ∃ (v2 : Value) (cl3 : List Value), v = .agg #[.int .i64 y.Key.Kind, .string y.Key.Text, .string y.Value, v2, .int .i64 y.Changed, .int .i64 y.Verified, .int .i64 y.Cost, .bool y.Dirty] ∧ OwnR R_KeyD T W0 w' [.own v2 32 R_KeyD.size cl3] 32 v2 cl3 y.Reads) := by
  refine enter (c := _) Tryd.func34 rfl T 8 Tryd.ntmps34 hT rfl fun a hS => ?_
  replace hS := hS.fact (SlF R_KeyD v1 r_0.Reads) (SlR.dn hv1)
  unfold ref26_CopyOne at hM
  refine wp_seq_k fun K4 hK4 => ?_
  refine r_list ?_
  refine wl rfl (k_box hS rfl (cs := [.int .i64 r_0.Key.Kind, .string r_0.Key.Text, .string r_0.Value, v1, .int .i64 r_0.Changed, .int .i64 r_0.Verified, .int .i64 r_0.Cost, .bool r_0.Dirty]) rfl rfl fun b12 hnb14 a w hk hS => ?_)
  refine wl rfl (k_alloc hS ze34 rfl fun b15 hnb17 a w hk hS => ?_)
  refine wpList_nil ?_
  try simp only [Exit.then, Exit.inBlock, ↓reduceIte, Nat.reduceEqDiff]
  refine hK4 _ _ ?_
  refine wp_seq_k fun K5 hK5 => ?_
  refine r_list ?_
  refine wl rfl (ky (v := .pointer (some ⟨b12, 0 + 3, none⟩)) hS (y_fld hS rfl fl34_2) rfl rfl fun a hS => ?_)
  refine wl rfl (ky (v := v1) hS (y_load hS rfl ty23 1 rfl id (us := [v1]) rfl rfl (fun _ => rfl)) rfl rfl fun a hS => ?_)
  replace hS := hS.nilRow R_KeyD 32 (by decide)
  obtain ⟨hg19, hM⟩ := gd_some hM
  refine wl rfl (k_apps (R := R_KeyD) (xs := ([] : List KeyD)) (ys := r_0.Reads) hS el23 (by decide) (by decide) rfl rfl 0 rfl 0 rfl 1 rfl hg19 rfl fun v20 cl21 a w hk hS => ?_)
  refine wl rfl (ky (v := .pointer (some ⟨b12, 0 + 3, none⟩)) hS (y_fld hS rfl fl34_2) rfl rfl fun a hS => ?_)
  refine wl rfl (k_store hS rfl rfl (us := [v20]) (cells1 (own_one (hS.own _ (List.mem_of_getElem? (i := 0) rfl)).1)) ty23 2 rfl rfl rfl (oc (own_one (hS.own _ (List.mem_of_getElem? (i := 0) rfl)).1) on) fun w hk hS => ?_)
  refine wpList_nil ?_
  try simp only [Exit.then, Exit.inBlock, ↓reduceIte, Nat.reduceEqDiff]
  refine hK5 _ _ ?_
  refine wp_seq_k fun K6 hK6 => ?_
  refine r_list ?_
  refine wl rfl (ky (v := .agg #[.int .i64 r_0.Key.Kind, .string r_0.Key.Text, .string r_0.Value, v20, .int .i64 r_0.Changed, .int .i64 r_0.Verified, .int .i64 r_0.Cost, .bool r_0.Dirty]) hS (y_load hS rfl ty34 2 rfl id (us := [.int .i64 r_0.Key.Kind, .string r_0.Key.Text, .string r_0.Value, v20, .int .i64 r_0.Changed, .int .i64 r_0.Verified, .int .i64 r_0.Cost, .bool r_0.Dirty]) rfl rfl (fun h => by cases h)) rfl rfl fun a hS => ?_)
  refine wl rfl (k_store hS rfl rfl (us := [.int .i64 r_0.Key.Kind, .string r_0.Key.Text, .string r_0.Value, v20, .int .i64 r_0.Changed, .int .i64 r_0.Verified, .int .i64 r_0.Cost, .bool r_0.Dirty]) rfl ty34 1 rfl rfl rfl (oc rfl (oc rfl (oc rfl (oc (own_one (hS.own _ (List.mem_of_getElem? (i := 0) rfl)).1) (oc rfl (oc rfl (oc rfl (oc rfl on)))))))) fun w hk hS => ?_)
  refine wpList_nil ?_
  try simp only [Exit.then, Exit.inBlock, ↓reduceIte, Nat.reduceEqDiff]
  refine hK6 _ _ ?_
  refine wp_ret ?_
  injection hM with hM
  subst hM
  try simp only [Exit.then, Exit.inBlock, ↓reduceIte, Nat.reduceEqDiff]
  refine ret_ok hS Tryd.results34 (res_cell hS rfl 1 rfl ty34 rfl (fun h => by cases h) res_nil) ?_
  exact ⟨v20, cl21, rfl, hS.retOwn ⟨.inr (List.mem_of_getElem? (i := 0) rfl), trivial⟩ 0 rfl 0 rfl⟩

noncomputable def ref23_Cmp (a_0 : KeyD) (b_1 : KeyD) : Option Int := cond (decide ((a_0.Kind : Int) < b_1.Kind)) (some ((-1))) (cond (decide ((b_1.Kind : Int) < a_0.Kind)) (some (1)) ((compareSM a_0.Text b_1.Text).bind fun u19 => some (u19)))
set_option maxRecDepth 100000 in
set_option maxHeartbeats 4000000 in
theorem ref23_Cmp_c (T : Nat → Prop) (W0 : World) (hT : ∀ k, T k → k < W0.heap.size) (hLv : LvP T W0) (a_0 : KeyD) (b_1 : KeyD) (y : Int) (hM : ref23_Cmp a_0 b_1 = some y) : Rets Tryd.prog No 35 [.agg #[.int .i64 a_0.Kind, .string a_0.Text], .agg #[.int .i64 b_1.Kind, .string b_1.Text]] W0 (fun v w' => v = .int .i64 y) := by
  refine enter (c := _) Tryd.func35 rfl T 22 Tryd.ntmps35 hT rfl fun a hS => ?_
  replace hS := hS.fact LvF (LvP.dn hLv)
  unfold ref23_Cmp at hM
  refine wp_seq_k fun K8 hK8 => ?_
  refine r_list ?_
  refine wl rfl (k_box hS rfl (cs := [.int .i64 a_0.Kind, .string a_0.Text]) rfl rfl fun b11 hnb13 a w hk hS => ?_)
  refine wl rfl (k_box hS rfl (cs := [.int .i64 b_1.Kind, .string b_1.Text]) rfl rfl fun b14 hnb16 a w hk hS => ?_)
  refine wl rfl (ky (v := .int .i64 0) hS (y_assign hS rfl) rfl rfl fun a hS => ?_)
  refine wpList_nil ?_
  try simp only [Exit.then, Exit.inBlock, ↓reduceIte, Nat.reduceEqDiff]
  refine hK8 _ _ ?_
  refine wp_seq_k fun K9 hK9 => ?_
  refine wp_block ?_
  refine wp_seq_k fun K10 hK10 => ?_
  refine r_list ?_
  refine wl rfl (ky (v := .pointer (some ⟨b11, 0 + 0, none⟩)) hS (y_fld hS rfl fl32_0) rfl rfl fun a hS => ?_)
  refine wl rfl (ky (v := .int .i64 a_0.Kind) hS (y_load hS rfl ty3 1 rfl id (us := [.int .i64 a_0.Kind]) rfl rfl (fun _ => rfl)) rfl rfl fun a hS => ?_)
  refine wl rfl (ky (v := .pointer (some ⟨b14, 0 + 0, none⟩)) hS (y_fld hS rfl fl32_0) rfl rfl fun a hS => ?_)
  refine wl rfl (ky (v := .int .i64 b_1.Kind) hS (y_load hS rfl ty3 0 rfl id (us := [.int .i64 b_1.Kind]) rfl rfl (fun _ => rfl)) rfl rfl fun a hS => ?_)
  refine wl rfl (ky (v := .bool (decide ((a_0.Kind : Int) < b_1.Kind))) hS (y_int hS rfl rfl rfl) rfl rfl fun a hS => ?_)
  refine wl rfl (ky (v := .bool (decide ((a_0.Kind : Int) < b_1.Kind))) hS (y_assign hS rfl) rfl rfl fun a hS => ?_)
  refine wpList_nil ?_
  try simp only [Exit.then, Exit.inBlock, ↓reduceIte, Nat.reduceEqDiff]
  refine hK10 _ _ ?_
  rcases bool2 (decide ((a_0.Kind : Int) < b_1.Kind)) with hb17 | hb17
  · replace hM := ct hb17 hM
    refine c_t hS rfl hb17 ?_
    refine wp_seq_k fun K11 hK11 => ?_
    refine r_list ?_
    refine wl rfl (ky (v := .int .i64 (-1)) hS (y_assign hS rfl) rfl rfl fun a hS => ?_)
    refine wpList_nil ?_
    try simp only [Exit.then, Exit.inBlock, ↓reduceIte, Nat.reduceEqDiff]
    refine hK11 _ _ ?_
    refine wp_ret ?_
    injection hM with hM
    subst hM
    try simp only [Exit.then, Exit.inBlock, ↓reduceIte, Nat.reduceEqDiff]
    refine ret_ok hS Tryd.results35 (res_tmp hS rfl res_nil) ?_
    exact rfl
  · replace hM := cf hb17 hM
    refine c_f hS rfl hb17 ?_
    refine wp_seq_k fun K12 hK12 => ?_
    refine r_list ?_
    refine wl rfl (ky (v := .pointer (some ⟨b11, 0 + 0, none⟩)) hS (y_fld hS rfl fl32_0) rfl rfl fun a hS => ?_)
    refine wl rfl (ky (v := .int .i64 a_0.Kind) hS (y_load hS rfl ty3 1 rfl id (us := [.int .i64 a_0.Kind]) rfl rfl (fun _ => rfl)) rfl rfl fun a hS => ?_)
    refine wl rfl (ky (v := .pointer (some ⟨b14, 0 + 0, none⟩)) hS (y_fld hS rfl fl32_0) rfl rfl fun a hS => ?_)
    refine wl rfl (ky (v := .int .i64 b_1.Kind) hS (y_load hS rfl ty3 0 rfl id (us := [.int .i64 b_1.Kind]) rfl rfl (fun _ => rfl)) rfl rfl fun a hS => ?_)
    refine wl rfl (ky (v := .bool (decide ((b_1.Kind : Int) < a_0.Kind))) hS (y_int hS rfl rfl rfl) rfl rfl fun a hS => ?_)
    refine wl rfl (ky (v := .bool (decide ((b_1.Kind : Int) < a_0.Kind))) hS (y_assign hS rfl) rfl rfl fun a hS => ?_)
    refine wpList_nil ?_
    try simp only [Exit.then, Exit.inBlock, ↓reduceIte, Nat.reduceEqDiff]
    refine hK12 _ _ ?_
    rcases bool2 (decide ((b_1.Kind : Int) < a_0.Kind)) with hb18 | hb18
    · replace hM := ct hb18 hM
      refine c_t hS rfl hb18 ?_
      refine wp_seq_k fun K13 hK13 => ?_
      refine r_list ?_
      refine wl rfl (ky (v := .int .i64 1) hS (y_assign hS rfl) rfl rfl fun a hS => ?_)
      refine wpList_nil ?_
      try simp only [Exit.then, Exit.inBlock, ↓reduceIte, Nat.reduceEqDiff]
      refine hK13 _ _ ?_
      refine wp_ret ?_
      injection hM with hM
      subst hM
      try simp only [Exit.then, Exit.inBlock, ↓reduceIte, Nat.reduceEqDiff]
      refine ret_ok hS Tryd.results35 (res_tmp hS rfl res_nil) ?_
      exact rfl
    · replace hM := cf hb18 hM
      refine c_f hS rfl hb18 ?_
      refine wp_skip ?_
      try simp only [Exit.then, Exit.inBlock, ↓reduceIte, Nat.reduceEqDiff]
      refine hK9 _ _ ?_
      refine wp_seq_k fun K14 hK14 => ?_
      refine r_list ?_
      refine wl rfl (ky (v := .pointer (some ⟨b11, 0 + 1, none⟩)) hS (y_fld hS rfl fl32_1) rfl rfl fun a hS => ?_)
      refine wl rfl (ky (v := .string a_0.Text) hS (y_load hS rfl ty9 1 rfl id (us := [.string a_0.Text]) rfl rfl (fun _ => rfl)) rfl rfl fun a hS => ?_)
      refine wl rfl (ky (v := .pointer (some ⟨b14, 0 + 1, none⟩)) hS (y_fld hS rfl fl32_1) rfl rfl fun a hS => ?_)
      refine wl rfl (ky (v := .string b_1.Text) hS (y_load hS rfl ty9 0 rfl id (us := [.string b_1.Text]) rfl rfl (fun _ => rfl)) rfl rfl fun a hS => ?_)
      obtain ⟨u19, hu19, hM⟩ := bd hM
      refine wl rfl (k_call hS ci45 rfl rfl (compareSM_c _ _ hS.dlt (hS.get 0 rfl) a_0.Text b_1.Text _ hu19) fun _ w hR a hk hA => ?_)
      have he := Eq.symm hR
      subst he
      have hS := hA [] (fun r hr => by cases hr) List.Pairwise.nil
      refine wl rfl (ky (v := .int .i64 u19) hS (y_assign hS rfl) rfl rfl fun a hS => ?_)
      refine wpList_nil ?_
      try simp only [Exit.then, Exit.inBlock, ↓reduceIte, Nat.reduceEqDiff]
      refine hK14 _ _ ?_
      refine wp_ret ?_
      injection hM with hM
      subst hM
      try simp only [Exit.then, Exit.inBlock, ↓reduceIte, Nat.reduceEqDiff]
      refine ret_ok hS Tryd.results35 (res_tmp hS rfl res_nil) ?_
      exact rfl

noncomputable def ref26_Put_j1 (out789 : (List RecordD)) : Option (List RecordD) := some (out789)
noncomputable def ref26_Put_j2 (r_1 : RecordD) (out774 : (List RecordD)) (put778 : Bool) : Option (List RecordD) := cond (!(put778)) ((ref26_CopyOne r_1).bind fun u794 => gd (roomB (out774.length + ([u794]).length)) <| ref26_Put_j1 (out774 ++ ([u794]))) (ref26_Put_j1 out774)
noncomputable def ref26_Put_j3 (g918 : Int) (out1089 : (List RecordD)) (put1093 : Bool) : Option (Fl ((List RecordD) × Bool × Int) ((List RecordD) × Bool)) := some (.go (out1089, put1093, IntKind.i64.wrap (g918 + 1)))
noncomputable def ref26_Put_j4 (g918 : Int) (e1094 : RecordD) (u1104 : Int) (out1120 : (List RecordD)) (put1124 : Bool) : Option (Fl ((List RecordD) × Bool × Int) ((List RecordD) × Bool)) := cond ((u1104 : Int) != 0) (gd (roomB (out1120.length + ([e1094]).length)) <| ref26_Put_j3 g918 (out1120 ++ ([e1094])) put1124) (ref26_Put_j3 g918 out1120 put1124)
noncomputable def ref26_Put_j5 (r_1 : RecordD) (out913 : (List RecordD)) (put917 : Bool) (g918 : Int) (e1094 : RecordD) (u1104 : Int) (g1134 : Bool) : Option (Fl ((List RecordD) × Bool × Int) ((List RecordD) × Bool)) := cond g1134 ((ref26_CopyOne r_1).bind fun u1136 => gd (roomB (out913.length + ([u1136]).length)) <| ref26_Put_j4 g918 e1094 u1104 (out913 ++ ([u1136])) true) (ref26_Put_j4 g918 e1094 u1104 out913 put917)
noncomputable def ref26_Put_l6 (l_0 : (List RecordD)) (r_1 : RecordD) (out913 : (List RecordD)) (put917 : Bool) (g918 : Int) : Option (Fl ((List RecordD) × Bool × Int) ((List RecordD) × Bool)) := cond (decide ((g918 : Int) < (l_0.length : Int))) ((getI l_0 g918).bind fun e1094 => (ref23_Cmp e1094.Key r_1.Key).bind fun u1104 => cond (decide ((0 : Int) ≤ u1104)) (ref26_Put_j5 r_1 out913 put917 g918 e1094 u1104 (!(put917))) (ref26_Put_j5 r_1 out913 put917 g918 e1094 u1104 false)) (some (.out (out913, put917)))
noncomputable def ref26_Put (l_0 : (List RecordD)) (r_1 : RecordD) : Option (List RecordD) := (loop (fun s : (List RecordD) × Bool × Int => ref26_Put_l6 l_0 r_1 s.1 s.2.1 s.2.2) (([] : List RecordD), false, 0)).bind fun r => ref26_Put_j2 r_1 r.1 r.2
set_option maxRecDepth 100000 in
set_option maxHeartbeats 4000000 in
theorem ref26_Put_c (T : Nat → Prop) (W0 : World) (hT : ∀ k, T k → k < W0.heap.size) (hLv : LvP T W0) (l_0 : (List RecordD)) (r_1 : RecordD) (v1 : Value) (v2 : Value) (hv1 : SlR R_RecordD T W0 v1 l_0) (hv2 : SlR R_KeyD T W0 v2 r_1.Reads) (y : (List RecordD)) (hM : ref26_Put l_0 r_1 = some y) : Rets Tryd.prog No 21 [v1, .agg #[.int .i64 r_1.Key.Kind, .string r_1.Key.Text, .string r_1.Value, v2, .int .i64 r_1.Changed, .int .i64 r_1.Verified, .int .i64 r_1.Cost, .bool r_1.Dirty]] W0 (fun v w' => ∃ (v3 : Value) (cl4 : List Value), v = v3 ∧ OwnR R_RecordD T W0 w' [.own v3 34 R_RecordD.size cl4] 34 v3 cl4 y) := by
  refine enter (c := _) Tryd.func21 rfl T 47 Tryd.ntmps21 hT rfl fun a hS => ?_
  replace hS := hS.fact LvF (LvP.dn hLv)
  replace hS := hS.fact (SlF R_RecordD v1 l_0) (SlR.dn hv1)
  replace hS := hS.fact (SlF R_KeyD v2 r_1.Reads) (SlR.dn hv2)
  unfold ref26_Put at hM
  refine wp_seq_k fun K49 hK49 => ?_
  refine r_list ?_
  refine wl rfl (k_box hS rfl (cs := [.int .i64 r_1.Key.Kind, .string r_1.Key.Text, .string r_1.Value, v2, .int .i64 r_1.Changed, .int .i64 r_1.Verified, .int .i64 r_1.Cost, .bool r_1.Dirty]) rfl rfl fun b539 hnb541 a w hk hS => ?_)
  refine wl rfl (ky (v := .slice none 0 0) hS (y_assign hS rfl) rfl rfl fun a hS => ?_)
  refine wpList_nil ?_
  try simp only [Exit.then, Exit.inBlock, ↓reduceIte, Nat.reduceEqDiff]
  refine hK49 _ _ ?_
  refine wp_seq_k fun K50 hK50 => ?_
  refine r_list ?_
  refine wl rfl (ky (v := .slice none 0 0) hS (y_assign hS rfl) rfl rfl fun a hS => ?_)
  refine wpList_nil ?_
  try simp only [Exit.then, Exit.inBlock, ↓reduceIte, Nat.reduceEqDiff]
  refine hK50 _ _ ?_
  refine wp_seq_k fun K51 hK51 => ?_
  refine r_list ?_
  refine wl rfl (ky (v := .bool false) hS (y_assign hS rfl) rfl rfl fun a hS => ?_)
  refine wpList_nil ?_
  try simp only [Exit.then, Exit.inBlock, ↓reduceIte, Nat.reduceEqDiff]
  refine hK51 _ _ ?_
  refine seq_j (J := fun a w => ∃ (out774 : (List RecordD)) (put778 : Bool) (v775 : Value) (cl776 : (List Value)), St W0 No T 47 [(3, .pointer (some ⟨b539, 0, none⟩)), (5, v775), (6, .bool put778)] [.own v775 34 R_RecordD.size cl776, .box b539 [.int .i64 r_1.Key.Kind, .string r_1.Key.Text, .string r_1.Value, v2, .int .i64 r_1.Changed, .int .i64 r_1.Verified, .int .i64 r_1.Cost, .bool r_1.Dirty] 34] [RowsF R_RecordD cl776 out774, SlF R_KeyD v2 r_1.Reads, LvF] a w ∧ ref26_Put_j2 r_1 out774 put778 = some y) ?_ ?_
  · skip
    refine wp_seq_k fun K76 hK76 => ?_
    refine r_list ?_
    refine wl rfl (ky (v := v1) hS (y_move hS rfl) rfl rfl fun a hS => ?_)
    refine wl rfl (ky (v := .int .i64 (l_0.length : Int)) hS (y_len (R := R_RecordD) (xs := l_0) hS sl28 rfl 1 rfl) rfl rfl fun a hS => ?_)
    refine wl rfl (ky (v := .int .i64 0) hS (y_move hS rfl) rfl rfl fun a hS => ?_)
    refine wpList_nil ?_
    try simp only [Exit.then, Exit.inBlock, ↓reduceIte, Nat.reduceEqDiff]
    refine hK76 _ _ ?_
    refine wp_block ?_
    replace hS := hS.nilRow R_RecordD 34 (by decide)
    obtain ⟨r1, hl1, hMo1⟩ := bd hM
    refine wp_lp (fun s : (List RecordD) × Bool × Int => ref26_Put_l6 l_0 r_1 s.1 s.2.1 s.2.2) (fun s a w => ∃ (out913 : (List RecordD)) (put917 : Bool) (g918 : Int) (v914 : Value) (cl915 : (List Value)), (out913, put917, g918) = s ∧ St W0 No T 47 [(3, .pointer (some ⟨b539, 0, none⟩)), (5, v914), (6, .bool put917), (10, v1), (11, .int .i64 (l_0.length : Int)), (12, .int .i64 g918)] [.own v914 34 R_RecordD.size cl915, .box b539 [.int .i64 r_1.Key.Kind, .string r_1.Key.Text, .string r_1.Value, v2, .int .i64 r_1.Changed, .int .i64 r_1.Verified, .int .i64 r_1.Cost, .bool r_1.Dirty] 34] [RowsF R_RecordD cl915 out913, SlF R_RecordD v1 l_0, SlF R_KeyD v2 r_1.Reads, LvF] a w) hl1 ⟨([] : List RecordD), false, 0, (.slice none 0 0), ([]), rfl, (hS.meet [0, 1] (by decide) ⟨rfl, rfl, rfl, rfl, rfl, rfl, trivial⟩ ⟨rfl, rfl, trivial⟩ ⟨⟨0, rfl⟩, ⟨2, rfl⟩, ⟨1, rfl⟩, ⟨3, rfl⟩, trivial⟩)⟩ ?_
    rintro s a w f1 ⟨out913, put917, g918, v914, cl915, rfl, hS⟩ hM hf1
    have hM : ref26_Put_l6 l_0 r_1 out913 put917 g918 = some f1 := hM
    unfold ref26_Put_l6 at hM
    refine wp_seq_k fun K97 hK97 => ?_
    refine r_list ?_
    refine wl rfl (ky (v := .bool (decide ((g918 : Int) < (l_0.length : Int)))) hS (y_int hS rfl rfl rfl) rfl rfl fun a hS => ?_)
    refine wpList_nil ?_
    try simp only [Exit.then, Exit.inBlock, ↓reduceIte, Nat.reduceEqDiff]
    refine hK97 _ _ ?_
    refine wp_seq_k fun K98 hK98 => ?_
    rcases bool2 (decide ((g918 : Int) < (l_0.length : Int))) with hb1036 | hb1036
    · replace hM := ct hb1036 hM
      refine c_t hS rfl hb1036 ?_
      refine wp_skip ?_
      try simp only [Exit.then, Exit.inBlock, ↓reduceIte, Nat.reduceEqDiff]
      refine hK98 _ _ ?_
      refine seq_j (J := fun a w => ∃ (out1089 : (List RecordD)) (put1093 : Bool) (v1090 : Value) (cl1091 : (List Value)), St W0 No T 47 [(3, .pointer (some ⟨b539, 0, none⟩)), (5, v1090), (6, .bool put1093), (10, v1), (11, .int .i64 (l_0.length : Int)), (12, .int .i64 g918)] [.own v1090 34 R_RecordD.size cl1091, .box b539 [.int .i64 r_1.Key.Kind, .string r_1.Key.Text, .string r_1.Value, v2, .int .i64 r_1.Changed, .int .i64 r_1.Verified, .int .i64 r_1.Cost, .bool r_1.Dirty] 34] [RowsF R_RecordD cl1091 out1089, SlF R_RecordD v1 l_0, SlF R_KeyD v2 r_1.Reads, LvF] a w ∧ ref26_Put_j3 g918 out1089 put1093 = some f1) ?_ ?_
      · skip
        refine wp_block ?_
        refine wp_seq_k fun K102 hK102 => ?_
        refine r_list ?_
        obtain ⟨e1094, he1094, hM⟩ := bd hM
        refine wl rfl (k_index (R := R_RecordD) hS sl28 ty34 rfl rfl 1 rfl he1094 rfl fun b1096 o1097 cs1099 hr1098 a hS => ?_)
        obtain ⟨v1095, rfl, hv1095⟩ := hr1098
        replace hS := hS.fact (SlF R_KeyD v1095 e1094.Reads) hv1095
        refine wl rfl (ky (v := .agg #[.int .i64 e1094.Key.Kind, .string e1094.Key.Text, .string e1094.Value, v1095, .int .i64 e1094.Changed, .int .i64 e1094.Verified, .int .i64 e1094.Cost, .bool e1094.Dirty]) hS (y_loadc (k := 0) hS ty34 1 rfl rfl (fun _ h => h.elim) (us := [.int .i64 e1094.Key.Kind, .string e1094.Key.Text, .string e1094.Value, v1095, .int .i64 e1094.Changed, .int .i64 e1094.Verified, .int .i64 e1094.Cost, .bool e1094.Dirty]) rfl rfl (fun h => by cases h)) rfl rfl fun a hS => ?_)
        refine wl rfl (k_alloc hS ze34 rfl fun b1101 hnb1103 a w hk hS => ?_)
        refine wl rfl (k_store hS rfl rfl (us := [.int .i64 e1094.Key.Kind, .string e1094.Key.Text, .string e1094.Value, v1095, .int .i64 e1094.Changed, .int .i64 e1094.Verified, .int .i64 e1094.Cost, .bool e1094.Dirty]) rfl ty34 0 rfl rfl rfl (oc rfl (oc rfl (oc rfl (oc (SlR.one ((hS.get 0 rfl) : SlR R_KeyD _ _ _ _)) (oc rfl (oc rfl (oc rfl (oc rfl on)))))))) fun w hk hS => ?_)
        refine wpList_nil ?_
        try simp only [Exit.then, Exit.inBlock, ↓reduceIte, Nat.reduceEqDiff]
        refine hK102 _ _ ?_
        refine wp_seq_k fun K103 hK103 => ?_
        refine r_list ?_
        refine wl rfl (ky (v := .pointer (some ⟨b1101, 0 + 0, none⟩)) hS (y_fld hS rfl fl34_0) rfl rfl fun a hS => ?_)
        refine wl rfl (ky (v := .agg #[.int .i64 e1094.Key.Kind, .string e1094.Key.Text]) hS (y_load hS rfl ty32 0 rfl id (us := [.int .i64 e1094.Key.Kind, .string e1094.Key.Text]) rfl rfl (fun h => by cases h)) rfl rfl fun a hS => ?_)
        refine wl rfl (ky (v := .pointer (some ⟨b539, 0 + 0, none⟩)) hS (y_fld hS rfl fl34_0) rfl rfl fun a hS => ?_)
        refine wl rfl (ky (v := .agg #[.int .i64 r_1.Key.Kind, .string r_1.Key.Text]) hS (y_load hS rfl ty32 2 rfl id (us := [.int .i64 r_1.Key.Kind, .string r_1.Key.Text]) rfl rfl (fun h => by cases h)) rfl rfl fun a hS => ?_)
        obtain ⟨u1104, hu1104, hM⟩ := bd hM
        refine wl rfl (k_call hS ci35 rfl rfl (ref23_Cmp_c _ _ hS.dlt (hS.get 5 rfl) e1094.Key r_1.Key _ hu1104) fun _ w hR a hk hA => ?_)
        have he := Eq.symm hR
        subst he
        have hS := hA [] (fun r hr => by cases hr) List.Pairwise.nil
        refine wl rfl (ky (v := .int .i64 u1104) hS (y_assign hS rfl) rfl rfl fun a hS => ?_)
        refine wpList_nil ?_
        try simp only [Exit.then, Exit.inBlock, ↓reduceIte, Nat.reduceEqDiff]
        refine hK103 _ _ ?_
        refine seq_j (J := fun a w => ∃ (out1120 : (List RecordD)) (put1124 : Bool) (v1121 : Value) (cl1122 : (List Value)), St W0 No T 47 [(3, .pointer (some ⟨b539, 0, none⟩)), (5, v1121), (6, .bool put1124), (8, .pointer (some ⟨b1101, 0, none⟩)), (9, .int .i64 u1104), (10, v1), (11, .int .i64 (l_0.length : Int)), (12, .int .i64 g918)] [.own v1121 34 R_RecordD.size cl1122, .box b539 [.int .i64 r_1.Key.Kind, .string r_1.Key.Text, .string r_1.Value, v2, .int .i64 r_1.Changed, .int .i64 r_1.Verified, .int .i64 r_1.Cost, .bool r_1.Dirty] 34, .box b1101 [.int .i64 e1094.Key.Kind, .string e1094.Key.Text, .string e1094.Value, v1095, .int .i64 e1094.Changed, .int .i64 e1094.Verified, .int .i64 e1094.Cost, .bool e1094.Dirty] 34] [RowsF R_RecordD cl1122 out1120, SlF R_RecordD v1 l_0, SlF R_KeyD v2 r_1.Reads, SlF R_KeyD v1095 e1094.Reads, LvF] a w ∧ ref26_Put_j4 g918 e1094 u1104 out1120 put1124 = some f1) ?_ ?_
        · skip
          refine seq_j (J := fun a w => ∃ (g1134 : Bool), St W0 No T 47 [(3, .pointer (some ⟨b539, 0, none⟩)), (5, v914), (6, .bool put917), (8, .pointer (some ⟨b1101, 0, none⟩)), (9, .int .i64 u1104), (10, v1), (11, .int .i64 (l_0.length : Int)), (12, .int .i64 g918), (26, .bool g1134)] [.own v914 34 R_RecordD.size cl915, .box b539 [.int .i64 r_1.Key.Kind, .string r_1.Key.Text, .string r_1.Value, v2, .int .i64 r_1.Changed, .int .i64 r_1.Verified, .int .i64 r_1.Cost, .bool r_1.Dirty] 34, .box b1101 [.int .i64 e1094.Key.Kind, .string e1094.Key.Text, .string e1094.Value, v1095, .int .i64 e1094.Changed, .int .i64 e1094.Verified, .int .i64 e1094.Cost, .bool e1094.Dirty] 34] [RowsF R_RecordD cl915 out913, SlF R_RecordD v1 l_0, SlF R_KeyD v2 r_1.Reads, SlF R_KeyD v1095 e1094.Reads, LvF] a w ∧ ref26_Put_j5 r_1 out913 put917 g918 e1094 u1104 g1134 = some f1) ?_ ?_
          · skip
            refine r_list ?_
            refine wl rfl (ky (v := .int .i64 u1104) hS (y_move hS rfl) rfl rfl fun a hS => ?_)
            refine wl rfl (ky (v := .bool (decide ((0 : Int) ≤ u1104))) hS (y_int hS rfl rfl rfl) rfl rfl fun a hS => ?_)
            refine wl rfl (ky (v := .bool (decide ((0 : Int) ≤ u1104))) hS (y_move hS rfl) rfl rfl fun a hS => ?_)
            rcases bool2 (decide ((0 : Int) ≤ u1104)) with hb1145 | hb1145
            · replace hM := ct hb1145 hM
              refine wg hS rfl rfl rfl hb1145 (ky (v := .bool put917) hS (y_move hS rfl) rfl rfl fun a hS => ?_)
              refine wg hS rfl rfl rfl hb1145 (ky (v := .bool (!(put917))) hS (y_not hS rfl) rfl rfl fun a hS => ?_)
              refine wl rfl (ky (v := .bool (!(put917))) hS (y_pickt hS rfl hb1145 rfl) rfl rfl fun a hS => ?_)
              refine wpList_nil ?_
              try simp only [Exit.then, Exit.inBlock, ↓reduceIte, Nat.reduceEqDiff]
              exact ⟨(!(put917)), (hS.meet [1, 2, 0] (by decide) ⟨rfl, rfl, rfl, rfl, rfl, rfl, rfl, rfl, rfl, trivial⟩ ⟨rfl, rfl, rfl, trivial⟩ ⟨⟨2, rfl⟩, ⟨3, rfl⟩, ⟨4, rfl⟩, ⟨0, rfl⟩, ⟨5, rfl⟩, trivial⟩), hM⟩
            · replace hM := cf hb1145 hM
              refine wn hS rfl rfl rfl hb1145 rfl rfl fun a hS => ?_
              refine wn hS rfl rfl rfl hb1145 rfl rfl fun a hS => ?_
              refine wl rfl (ky (v := .bool false) hS (y_pickf hS rfl hb1145 rfl) rfl rfl fun a hS => ?_)
              refine wpList_nil ?_
              try simp only [Exit.then, Exit.inBlock, ↓reduceIte, Nat.reduceEqDiff]
              exact ⟨false, (hS.meet [1, 2, 0] (by decide) ⟨rfl, rfl, rfl, rfl, rfl, rfl, rfl, rfl, rfl, trivial⟩ ⟨rfl, rfl, rfl, trivial⟩ ⟨⟨2, rfl⟩, ⟨3, rfl⟩, ⟨4, rfl⟩, ⟨0, rfl⟩, ⟨5, rfl⟩, trivial⟩), hM⟩
          · rintro a w ⟨g1134, hS, hM⟩
            unfold ref26_Put_j5 at hM
            rcases bool2 (g1134) with hb1135 | hb1135
            · replace hM := ct hb1135 hM
              refine c_t hS rfl hb1135 ?_
              refine r_list ?_
              refine wl rfl (ky (v := v914) hS (y_move hS rfl) rfl rfl fun a hS => ?_)
              refine wl rfl (ky (v := .agg #[.int .i64 r_1.Key.Kind, .string r_1.Key.Text, .string r_1.Value, v2, .int .i64 r_1.Changed, .int .i64 r_1.Verified, .int .i64 r_1.Cost, .bool r_1.Dirty]) hS (y_load hS rfl ty34 1 rfl id (us := [.int .i64 r_1.Key.Kind, .string r_1.Key.Text, .string r_1.Value, v2, .int .i64 r_1.Changed, .int .i64 r_1.Verified, .int .i64 r_1.Cost, .bool r_1.Dirty]) rfl rfl (fun h => by cases h)) rfl rfl fun a hS => ?_)
              obtain ⟨u1136, hu1136, hM⟩ := bd hM
              refine wl rfl (k_call hS ci34 rfl rfl (ref26_CopyOne_c _ _ hS.dlt r_1 _ (hS.get 2 rfl) _ hu1136) fun _ w hR a hk hA => ?_)
              obtain ⟨vz1137_2, clz1137_3, he, ⟨hOvz1137_2, hFvz1137_2, hRvz1137_2⟩⟩ := hR
              replace he := he.symm
              subst he
              have hS := hA [.own vz1137_2 32 R_KeyD.size clz1137_3] (adds1 ⟨hOvz1137_2, by decide⟩ hFvz1137_2) (pw1 _)
              replace hS := hS.fact (RowsF R_KeyD clz1137_3 u1136.Reads) (hRvz1137_2.keep (Kt.refl _ _) (dT_dT _))
              refine wl rfl (k_bslice (ps := [(0, .tmp 29)]) hS el28 ze34 (zl := [.int .i64 0, .string (ByteArray.mk #[]), .string (ByteArray.mk #[]), .slice none 0 0, .int .i64 0, .int .i64 0, .int .i64 0, .bool false]) (by kernel_rfl) rfl (us := [[.int .i64 u1136.Key.Kind, .string u1136.Key.Text, .string u1136.Value, vz1137_2, .int .i64 u1136.Changed, .int .i64 u1136.Verified, .int .i64 u1136.Cost, .bool u1136.Dirty]]) ⟨rfl, trivial⟩ (ws := [.int .i64 u1136.Key.Kind, .string u1136.Key.Text, .string u1136.Value, vz1137_2, .int .i64 u1136.Changed, .int .i64 u1136.Verified, .int .i64 u1136.Cost, .bool u1136.Dirty]) rfl rfl rfl rfl fun b1139 a w hk hS => ?_)
              replace hS := hS.freeze (R := R_KeyD) 1 rfl 0 rfl
              replace hS := hS.lit (R := R_RecordD) (us := [.int .i64 u1136.Key.Kind, .string u1136.Key.Text, .string u1136.Value, vz1137_2, .int .i64 u1136.Changed, .int .i64 u1136.Verified, .int .i64 u1136.Cost, .bool u1136.Dirty]) (xs := [u1136]) 0 rfl (by decide) (RowsOk.one_ (R := R_RecordD) (x := u1136) (⟨_, rfl, (hS.get 0 rfl)⟩)) rfl rfl
              replace hS := hS.freeze (R := R_RecordD) 0 rfl 0 rfl
              obtain ⟨hg1141, hM⟩ := gd_some hM
              refine wl rfl (k_apps (R := R_RecordD) (xs := out913) (ys := [u1136]) hS el28 (by decide) (by decide) rfl rfl 0 rfl 4 rfl 0 rfl hg1141 rfl fun v1142 cl1143 a w hk hS => ?_)
              refine wl rfl (ky (v := v1142) hS (y_assign hS rfl) rfl rfl fun a hS => ?_)
              refine wl rfl (ky (v := .bool true) hS (y_assign hS rfl) rfl rfl fun a hS => ?_)
              refine wpList_nil ?_
              try simp only [Exit.then, Exit.inBlock, ↓reduceIte, Nat.reduceEqDiff]
              exact ⟨(out913 ++ ([u1136])), true, v1142, cl1143, (hS.meet [0, 1, 2] (by decide) ⟨rfl, rfl, rfl, rfl, rfl, rfl, rfl, rfl, trivial⟩ ⟨rfl, rfl, rfl, trivial⟩ ⟨⟨0, rfl⟩, ⟨6, rfl⟩, ⟨7, rfl⟩, ⟨8, rfl⟩, ⟨9, rfl⟩, trivial⟩), hM⟩
            · replace hM := cf hb1135 hM
              refine c_f hS rfl hb1135 ?_
              refine wp_skip ?_
              try simp only [Exit.then, Exit.inBlock, ↓reduceIte, Nat.reduceEqDiff]
              exact ⟨out913, put917, v914, cl915, (hS.meet [0, 1, 2] (by decide) ⟨rfl, rfl, rfl, rfl, rfl, rfl, rfl, rfl, trivial⟩ ⟨rfl, rfl, rfl, trivial⟩ ⟨⟨0, rfl⟩, ⟨1, rfl⟩, ⟨2, rfl⟩, ⟨3, rfl⟩, ⟨4, rfl⟩, trivial⟩), hM⟩
        · rintro a w ⟨out1120, put1124, v1121, cl1122, hS, hM⟩
          unfold ref26_Put_j4 at hM
          refine wp_seq_k fun K104 hK104 => ?_
          refine r_list ?_
          refine wl rfl (ky (v := .int .i64 u1104) hS (y_move hS rfl) rfl rfl fun a hS => ?_)
          refine wl rfl (ky (v := .bool ((u1104 : Int) != 0)) hS (y_int hS rfl rfl rfl) rfl rfl fun a hS => ?_)
          refine wpList_nil ?_
          try simp only [Exit.then, Exit.inBlock, ↓reduceIte, Nat.reduceEqDiff]
          refine hK104 _ _ ?_
          rcases bool2 ((u1104 : Int) != 0) with hb1125 | hb1125
          · replace hM := ct hb1125 hM
            refine c_t hS rfl hb1125 ?_
            refine r_list ?_
            refine wl rfl (ky (v := v1121) hS (y_move hS rfl) rfl rfl fun a hS => ?_)
            refine wl rfl (ky (v := .agg #[.int .i64 e1094.Key.Kind, .string e1094.Key.Text, .string e1094.Value, v1095, .int .i64 e1094.Changed, .int .i64 e1094.Verified, .int .i64 e1094.Cost, .bool e1094.Dirty]) hS (y_load hS rfl ty34 2 rfl id (us := [.int .i64 e1094.Key.Kind, .string e1094.Key.Text, .string e1094.Value, v1095, .int .i64 e1094.Changed, .int .i64 e1094.Verified, .int .i64 e1094.Cost, .bool e1094.Dirty]) rfl rfl (fun h => by cases h)) rfl rfl fun a hS => ?_)
            refine wl rfl (k_bslice (ps := [(0, .tmp 35)]) hS el28 ze34 (zl := [.int .i64 0, .string (ByteArray.mk #[]), .string (ByteArray.mk #[]), .slice none 0 0, .int .i64 0, .int .i64 0, .int .i64 0, .bool false]) (by kernel_rfl) rfl (us := [[.int .i64 e1094.Key.Kind, .string e1094.Key.Text, .string e1094.Value, v1095, .int .i64 e1094.Changed, .int .i64 e1094.Verified, .int .i64 e1094.Cost, .bool e1094.Dirty]]) ⟨rfl, trivial⟩ (ws := [.int .i64 e1094.Key.Kind, .string e1094.Key.Text, .string e1094.Value, v1095, .int .i64 e1094.Changed, .int .i64 e1094.Verified, .int .i64 e1094.Cost, .bool e1094.Dirty]) rfl rfl rfl rfl fun b1126 a w hk hS => ?_)
            replace hS := hS.lit (R := R_RecordD) (us := [.int .i64 e1094.Key.Kind, .string e1094.Key.Text, .string e1094.Value, v1095, .int .i64 e1094.Changed, .int .i64 e1094.Verified, .int .i64 e1094.Cost, .bool e1094.Dirty]) (xs := [e1094]) 0 rfl (by decide) (RowsOk.one_ (R := R_RecordD) (x := e1094) (⟨_, rfl, (hS.get 3 rfl)⟩)) rfl rfl
            replace hS := hS.freeze (R := R_RecordD) 0 rfl 0 rfl
            obtain ⟨hg1128, hM⟩ := gd_some hM
            refine wl rfl (k_apps (R := R_RecordD) (xs := out1120) (ys := [e1094]) hS el28 (by decide) (by decide) rfl rfl 0 rfl 2 rfl 0 rfl hg1128 rfl fun v1129 cl1130 a w hk hS => ?_)
            refine wl rfl (ky (v := v1129) hS (y_assign hS rfl) rfl rfl fun a hS => ?_)
            refine wpList_nil ?_
            try simp only [Exit.then, Exit.inBlock, ↓reduceIte, Nat.reduceEqDiff]
            exact ⟨(out1120 ++ ([e1094])), put1124, v1129, cl1130, (hS.meet [0, 1] (by decide) ⟨rfl, rfl, rfl, rfl, rfl, rfl, trivial⟩ ⟨rfl, rfl, trivial⟩ ⟨⟨0, rfl⟩, ⟨4, rfl⟩, ⟨5, rfl⟩, ⟨7, rfl⟩, trivial⟩), hM⟩
          · replace hM := cf hb1125 hM
            refine c_f hS rfl hb1125 ?_
            refine wp_skip ?_
            try simp only [Exit.then, Exit.inBlock, ↓reduceIte, Nat.reduceEqDiff]
            exact ⟨out1120, put1124, v1121, cl1122, (hS.meet [0, 1] (by decide) ⟨rfl, rfl, rfl, rfl, rfl, rfl, trivial⟩ ⟨rfl, rfl, trivial⟩ ⟨⟨0, rfl⟩, ⟨1, rfl⟩, ⟨2, rfl⟩, ⟨4, rfl⟩, trivial⟩), hM⟩
      · rintro a w ⟨out1089, put1093, v1090, cl1091, hS, hM⟩
        unfold ref26_Put_j3 at hM
        refine r_list ?_
        refine wl rfl (ky (v := .int .i64 (IntKind.i64.wrap (g918 + 1))) hS (y_int hS rfl rfl rfl) rfl rfl fun a hS => ?_)
        refine wl rfl (ky (v := .int .i64 (IntKind.i64.wrap (g918 + 1))) hS (y_move hS rfl) rfl rfl fun a hS => ?_)
        refine wpList_nil ?_
        try simp only [Exit.then, Exit.inBlock, ↓reduceIte, Nat.reduceEqDiff]
        exact ⟨(out1089, put1093, IntKind.i64.wrap (g918 + 1)), (Option.some.inj hM).symm, out1089, put1093, (IntKind.i64.wrap (g918 + 1)), v1090, cl1091, rfl, (hS.meet [0, 1] (by decide) ⟨rfl, rfl, rfl, rfl, rfl, rfl, trivial⟩ ⟨rfl, rfl, trivial⟩ ⟨⟨0, rfl⟩, ⟨1, rfl⟩, ⟨2, rfl⟩, ⟨3, rfl⟩, trivial⟩)⟩
    · replace hM := cf hb1036 hM
      refine c_f hS rfl hb1036 ?_
      refine wp_exit ?_
      try simp only [Exit.then, Exit.inBlock, ↓reduceIte, Nat.reduceEqDiff]
      injection hM with hM
      subst hM
      have hr := hf1 _ rfl
      subst hr
      have hM : ref26_Put_j2 r_1 out913 put917 = some y := hMo1
      exact ⟨out913, put917, v914, cl915, (hS.meet [0, 1] (by decide) ⟨rfl, rfl, rfl, trivial⟩ ⟨rfl, rfl, trivial⟩ ⟨⟨0, rfl⟩, ⟨2, rfl⟩, ⟨3, rfl⟩, trivial⟩), hM⟩
  · rintro a w ⟨out774, put778, v775, cl776, hS, hM⟩
    unfold ref26_Put_j2 at hM
    refine seq_j (J := fun a w => ∃ (out789 : (List RecordD)) (v790 : Value) (cl791 : (List Value)), St W0 No T 47 [(5, v790)] [.own v790 34 R_RecordD.size cl791] [RowsF R_RecordD cl791 out789, LvF] a w ∧ ref26_Put_j1 out789 = some y) ?_ ?_
    · skip
      refine wp_seq_k fun K75 hK75 => ?_
      refine r_list ?_
      refine wl rfl (ky (v := .bool put778) hS (y_move hS rfl) rfl rfl fun a hS => ?_)
      refine wl rfl (ky (v := .bool (!(put778))) hS (y_not hS rfl) rfl rfl fun a hS => ?_)
      refine wpList_nil ?_
      try simp only [Exit.then, Exit.inBlock, ↓reduceIte, Nat.reduceEqDiff]
      refine hK75 _ _ ?_
      rcases bool2 (!(put778)) with hb793 | hb793
      · replace hM := ct hb793 hM
        refine c_t hS rfl hb793 ?_
        refine r_list ?_
        refine wl rfl (ky (v := v775) hS (y_move hS rfl) rfl rfl fun a hS => ?_)
        refine wl rfl (ky (v := .agg #[.int .i64 r_1.Key.Kind, .string r_1.Key.Text, .string r_1.Value, v2, .int .i64 r_1.Changed, .int .i64 r_1.Verified, .int .i64 r_1.Cost, .bool r_1.Dirty]) hS (y_load hS rfl ty34 1 rfl id (us := [.int .i64 r_1.Key.Kind, .string r_1.Key.Text, .string r_1.Value, v2, .int .i64 r_1.Changed, .int .i64 r_1.Verified, .int .i64 r_1.Cost, .bool r_1.Dirty]) rfl rfl (fun h => by cases h)) rfl rfl fun a hS => ?_)
        obtain ⟨u794, hu794, hM⟩ := bd hM
        refine wl rfl (k_call hS ci34 rfl rfl (ref26_CopyOne_c _ _ hS.dlt r_1 _ (hS.get 1 rfl) _ hu794) fun _ w hR a hk hA => ?_)
        obtain ⟨vz795_2, clz795_3, he, ⟨hOvz795_2, hFvz795_2, hRvz795_2⟩⟩ := hR
        replace he := he.symm
        subst he
        have hS := hA [.own vz795_2 32 R_KeyD.size clz795_3] (adds1 ⟨hOvz795_2, by decide⟩ hFvz795_2) (pw1 _)
        replace hS := hS.fact (RowsF R_KeyD clz795_3 u794.Reads) (hRvz795_2.keep (Kt.refl _ _) (dT_dT _))
        refine wl rfl (k_bslice (ps := [(0, .tmp 43)]) hS el28 ze34 (zl := [.int .i64 0, .string (ByteArray.mk #[]), .string (ByteArray.mk #[]), .slice none 0 0, .int .i64 0, .int .i64 0, .int .i64 0, .bool false]) (by kernel_rfl) rfl (us := [[.int .i64 u794.Key.Kind, .string u794.Key.Text, .string u794.Value, vz795_2, .int .i64 u794.Changed, .int .i64 u794.Verified, .int .i64 u794.Cost, .bool u794.Dirty]]) ⟨rfl, trivial⟩ (ws := [.int .i64 u794.Key.Kind, .string u794.Key.Text, .string u794.Value, vz795_2, .int .i64 u794.Changed, .int .i64 u794.Verified, .int .i64 u794.Cost, .bool u794.Dirty]) rfl rfl rfl rfl fun b797 a w hk hS => ?_)
        replace hS := hS.freeze (R := R_KeyD) 1 rfl 0 rfl
        replace hS := hS.lit (R := R_RecordD) (us := [.int .i64 u794.Key.Kind, .string u794.Key.Text, .string u794.Value, vz795_2, .int .i64 u794.Changed, .int .i64 u794.Verified, .int .i64 u794.Cost, .bool u794.Dirty]) (xs := [u794]) 0 rfl (by decide) (RowsOk.one_ (R := R_RecordD) (x := u794) (⟨_, rfl, (hS.get 0 rfl)⟩)) rfl rfl
        replace hS := hS.freeze (R := R_RecordD) 0 rfl 0 rfl
        obtain ⟨hg799, hM⟩ := gd_some hM
        refine wl rfl (k_apps (R := R_RecordD) (xs := out774) (ys := [u794]) hS el28 (by decide) (by decide) rfl rfl 0 rfl 4 rfl 0 rfl hg799 rfl fun v800 cl801 a w hk hS => ?_)
        refine wl rfl (ky (v := v800) hS (y_assign hS rfl) rfl rfl fun a hS => ?_)
        refine wpList_nil ?_
        try simp only [Exit.then, Exit.inBlock, ↓reduceIte, Nat.reduceEqDiff]
        exact ⟨(out774 ++ ([u794])), v800, cl801, (hS.meet [0] (by decide) ⟨rfl, trivial⟩ ⟨rfl, trivial⟩ ⟨⟨0, rfl⟩, ⟨7, rfl⟩, trivial⟩), hM⟩
      · replace hM := cf hb793 hM
        refine c_f hS rfl hb793 ?_
        refine wp_skip ?_
        try simp only [Exit.then, Exit.inBlock, ↓reduceIte, Nat.reduceEqDiff]
        exact ⟨out774, v775, cl776, (hS.meet [0] (by decide) ⟨rfl, trivial⟩ ⟨rfl, trivial⟩ ⟨⟨0, rfl⟩, ⟨2, rfl⟩, trivial⟩), hM⟩
    · rintro a w ⟨out789, v790, cl791, hS, hM⟩
      unfold ref26_Put_j1 at hM
      refine wp_seq_k fun K74 hK74 => ?_
      refine r_list ?_
      refine wl rfl (ky (v := v790) hS (y_move hS rfl) rfl rfl fun a hS => ?_)
      refine wl rfl (ky (v := v790) hS (y_assign hS rfl) rfl rfl fun a hS => ?_)
      refine wpList_nil ?_
      try simp only [Exit.then, Exit.inBlock, ↓reduceIte, Nat.reduceEqDiff]
      refine hK74 _ _ ?_
      refine wp_ret ?_
      injection hM with hM
      subst hM
      try simp only [Exit.then, Exit.inBlock, ↓reduceIte, Nat.reduceEqDiff]
      refine ret_ok hS Tryd.results21 (res_tmp hS rfl res_nil) ?_
      exact ⟨v790, cl791, rfl, hS.retOwn ⟨.inr (List.mem_of_getElem? (i := 0) rfl), trivial⟩ 0 rfl 0 rfl⟩

noncomputable def mill_Mod (n_0 : Int) (m_1 : Int) : Option Int := cond (decide ((m_1 : Int) < 1)) (some (0)) (gd ((m_1 : Int) != 0) <| gd ((m_1 : Int) != 0) <| some (Int.tmod (IntKind.i64.wrap ((Int.tmod n_0 m_1) + m_1)) m_1))
set_option maxRecDepth 100000 in
set_option maxHeartbeats 4000000 in
theorem mill_Mod_c (T : Nat → Prop) (W0 : World) (hT : ∀ k, T k → k < W0.heap.size) (n_0 : Int) (m_1 : Int) (y : Int) (hM : mill_Mod n_0 m_1 = some y) : Rets Tryd.prog No 11 [.int .i64 n_0, .int .i64 m_1] W0 (fun v w' => v = .int .i64 y) := by
  refine enter (c := _) Tryd.func11 rfl T 14 Tryd.ntmps11 hT rfl fun a hS => ?_
  unfold mill_Mod at hM
  refine wp_seq_k fun K6 hK6 => ?_
  refine r_list ?_
  refine wl rfl (ky (v := .int .i64 0) hS (y_assign hS rfl) rfl rfl fun a hS => ?_)
  refine wpList_nil ?_
  try simp only [Exit.then, Exit.inBlock, ↓reduceIte, Nat.reduceEqDiff]
  refine hK6 _ _ ?_
  refine wp_seq_k fun K7 hK7 => ?_
  refine wp_seq_k fun K8 hK8 => ?_
  refine r_list ?_
  refine wl rfl (ky (v := .int .i64 m_1) hS (y_move hS rfl) rfl rfl fun a hS => ?_)
  refine wl rfl (ky (v := .bool (decide ((m_1 : Int) < 1))) hS (y_int hS rfl rfl rfl) rfl rfl fun a hS => ?_)
  refine wpList_nil ?_
  try simp only [Exit.then, Exit.inBlock, ↓reduceIte, Nat.reduceEqDiff]
  refine hK8 _ _ ?_
  rcases bool2 (decide ((m_1 : Int) < 1)) with hb4 | hb4
  · replace hM := ct hb4 hM
    refine c_t hS rfl hb4 ?_
    refine wp_seq_k fun K9 hK9 => ?_
    refine r_list ?_
    refine wl rfl (ky (v := .int .i64 0) hS (y_assign hS rfl) rfl rfl fun a hS => ?_)
    refine wpList_nil ?_
    try simp only [Exit.then, Exit.inBlock, ↓reduceIte, Nat.reduceEqDiff]
    refine hK9 _ _ ?_
    refine wp_ret ?_
    injection hM with hM
    subst hM
    try simp only [Exit.then, Exit.inBlock, ↓reduceIte, Nat.reduceEqDiff]
    refine ret_ok hS Tryd.results11 (res_tmp hS rfl res_nil) ?_
    exact rfl
  · replace hM := cf hb4 hM
    refine c_f hS rfl hb4 ?_
    refine wp_skip ?_
    try simp only [Exit.then, Exit.inBlock, ↓reduceIte, Nat.reduceEqDiff]
    refine hK7 _ _ ?_
    refine wp_seq_k fun K10 hK10 => ?_
    refine r_list ?_
    refine wl rfl (ky (v := .int .i64 n_0) hS (y_move hS rfl) rfl rfl fun a hS => ?_)
    refine wl rfl (ky (v := .int .i64 m_1) hS (y_move hS rfl) rfl rfl fun a hS => ?_)
    obtain ⟨hg5, hM⟩ := gd_some hM
    refine wl rfl (ky (v := .int .i64 (Int.tmod n_0 m_1)) hS (y_rem hS rfl rfl (bne_iff_ne.1 hg5)) rfl rfl fun a hS => ?_)
    refine wl rfl (ky (v := .int .i64 m_1) hS (y_move hS rfl) rfl rfl fun a hS => ?_)
    refine wl rfl (ky (v := .int .i64 (IntKind.i64.wrap ((Int.tmod n_0 m_1) + m_1))) hS (y_int hS rfl rfl rfl) rfl rfl fun a hS => ?_)
    refine wl rfl (ky (v := .int .i64 m_1) hS (y_move hS rfl) rfl rfl fun a hS => ?_)
    obtain ⟨hg6, hM⟩ := gd_some hM
    refine wl rfl (ky (v := .int .i64 (Int.tmod (IntKind.i64.wrap ((Int.tmod n_0 m_1) + m_1)) m_1)) hS (y_rem hS rfl rfl (bne_iff_ne.1 hg6)) rfl rfl fun a hS => ?_)
    refine wl rfl (ky (v := .int .i64 (Int.tmod (IntKind.i64.wrap ((Int.tmod n_0 m_1) + m_1)) m_1)) hS (y_assign hS rfl) rfl rfl fun a hS => ?_)
    refine wpList_nil ?_
    try simp only [Exit.then, Exit.inBlock, ↓reduceIte, Nat.reduceEqDiff]
    refine hK10 _ _ ?_
    refine wp_ret ?_
    injection hM with hM
    subst hM
    try simp only [Exit.then, Exit.inBlock, ↓reduceIte, Nat.reduceEqDiff]
    refine ret_ok hS Tryd.results11 (res_tmp hS rfl res_nil) ?_
    exact rfl

noncomputable def dice_Next (d_0 : DiceD) (n_1 : Int) : Option (Int × DiceD) := cond (decide (((d_0.L.length : Int) : Int) ≤ d_0.At)) (some ((0, d_0))) ((getI d_0.L (IntKind.i64.wrap ((IntKind.i64.wrap (d_0.At + 1)) - 1))).bind fun e66 => (mill_Mod e66 n_1).bind fun u73 => some ((u73, (DiceD.mk d_0.L (IntKind.i64.wrap (d_0.At + 1))))))
set_option maxRecDepth 100000 in
set_option maxHeartbeats 4000000 in
theorem dice_Next_c (T : Nat → Prop) (W0 : World) (hT : ∀ k, T k → k < W0.heap.size) (d_0 : DiceD) (n_1 : Int) (v2 : Value) (b1 : Nat) (hb1 : W0.heap[b1]? = some (.cells #[v2, .int .i64 d_0.At] 52 (0, 0))) (hTb1 : ¬ T b1) (hv2 : SlR (Rep.int .i64) (dT T [.box b1 [v2, .int .i64 d_0.At] 52]) W0 v2 d_0.L) (y : Int × DiceD) (hM : dice_Next d_0 n_1 = some y) : Rets Tryd.prog (fun k => k = b1) 22 [.pointer (some ⟨b1, 0, none⟩), .int .i64 n_1] W0 (fun v w' => ∃ (v3 : Value), v = .int .i64 y.1 ∧ w'.heap[b1]? = some (.cells #[v3, .int .i64 y.2.At] 52 (0, 0)) ∧ SlR (Rep.int .i64) (dT T [.box b1 [v3, .int .i64 y.2.At] 52]) w' v3 y.2.L) := by
  refine enterm (c := _) Tryd.func22 rfl T 35 Tryd.ntmps22 hT rfl hb1 hTb1 fun a hS => ?_
  replace hS := hS.fact (SlF (Rep.int .i64) v2 d_0.L) hv2
  unfold dice_Next at hM
  refine wp_seq_k fun K7 hK7 => ?_
  refine r_list ?_
  refine wl rfl (ky (v := .int .i64 0) hS (y_assign hS rfl) rfl rfl fun a hS => ?_)
  refine wpList_nil ?_
  try simp only [Exit.then, Exit.inBlock, ↓reduceIte, Nat.reduceEqDiff]
  refine hK7 _ _ ?_
  refine wp_seq_k fun K8 hK8 => ?_
  refine wp_seq_k fun K9 hK9 => ?_
  refine draws [] hS mixed rfl (fun c a d v w h => by cases d <;> exact h) fun w hQ hS => ?_
  refine dy 0 (v := .pointer (some ⟨b1, 0, none⟩)) rfl (by kernel_rfl) (by kernel_rfl) (by kernel_rfl) rfl hQ hS (y_move hS rfl) rfl rfl rfl fun a hS => ?_
  refine dy 1 (v := .pointer (some ⟨b1, 0, none⟩)) rfl (by kernel_rfl) (by kernel_rfl) (by kernel_rfl) rfl hQ hS (y_nil hS rfl) rfl rfl rfl fun a hS => ?_
  refine dy 2 (v := .pointer (some ⟨b1, 0 + 1, none⟩)) rfl (by kernel_rfl) (by kernel_rfl) (by kernel_rfl) rfl hQ hS (y_fld hS rfl fl52_1) rfl rfl rfl fun a hS => ?_
  refine dy (l := []) 3 (v := .int .i64 d_0.At) rfl (by kernel_rfl) (by kernel_rfl) (by kernel_rfl) (by kernel_rfl) hQ hS (y_load hS rfl ty3 0 rfl eo_nil (us := [.int .i64 d_0.At]) rfl rfl (fun _ => rfl)) rfl rfl rfl fun a hS => ?_
  refine dy 4 (v := .pointer (some ⟨b1, 0, none⟩)) rfl (by kernel_rfl) (by kernel_rfl) (by kernel_rfl) rfl hQ hS (y_move hS rfl) rfl rfl rfl fun a hS => ?_
  refine dy 5 (v := .pointer (some ⟨b1, 0, none⟩)) rfl (by kernel_rfl) (by kernel_rfl) (by kernel_rfl) rfl hQ hS (y_nil hS rfl) rfl rfl rfl fun a hS => ?_
  refine dy 6 (v := .pointer (some ⟨b1, 0 + 0, none⟩)) rfl (by kernel_rfl) (by kernel_rfl) (by kernel_rfl) rfl hQ hS (y_fld hS rfl fl52_0) rfl rfl rfl fun a hS => ?_
  refine dy (l := []) 7 (v := v2) rfl (by kernel_rfl) (by kernel_rfl) (by kernel_rfl) (by kernel_rfl) hQ hS (y_load hS rfl ty22 0 rfl eo_nil (us := [v2]) rfl rfl (fun _ => rfl)) rfl rfl rfl fun a hS => ?_
  refine dy 8 (v := .int .i64 (d_0.L.length : Int)) rfl (by kernel_rfl) (by kernel_rfl) (by kernel_rfl) rfl hQ hS (y_len (R := (Rep.int .i64)) (xs := d_0.L) hS sl22 rfl 0 rfl) rfl rfl rfl fun a hS => ?_
  refine dy 9 (v := .bool (decide (((d_0.L.length : Int) : Int) ≤ d_0.At))) rfl (by kernel_rfl) (by kernel_rfl) (by kernel_rfl) rfl hQ hS (y_int hS rfl rfl rfl) rfl rfl rfl fun a hS => ?_
  refine wpE_done (by kernel_rfl) ?_ _
  try simp only [Exit.then, Exit.inBlock, ↓reduceIte, Nat.reduceEqDiff]
  refine hK9 _ _ ?_
  rcases bool2 (decide (((d_0.L.length : Int) : Int) ≤ d_0.At)) with hb38 | hb38
  · replace hM := ct hb38 hM
    refine c_t hS rfl hb38 ?_
    refine wp_seq_k fun K10 hK10 => ?_
    refine r_list ?_
    refine wl rfl (ky (v := .int .i64 0) hS (y_assign hS rfl) rfl rfl fun a hS => ?_)
    refine wpList_nil ?_
    try simp only [Exit.then, Exit.inBlock, ↓reduceIte, Nat.reduceEqDiff]
    refine hK10 _ _ ?_
    refine wp_ret ?_
    injection hM with hM
    subst hM
    try simp only [Exit.then, Exit.inBlock, ↓reduceIte, Nat.reduceEqDiff]
    refine ret_ok hS Tryd.results22 (res_tmp hS rfl res_nil) ?_
    exact ⟨v2, rfl, hS.boxRow 0 rfl, (SlR.up ⟨.inr (List.mem_of_getElem? (i := 0) rfl), trivial⟩ (hS.get 0 rfl))⟩
  · replace hM := cf hb38 hM
    refine c_f hS rfl hb38 ?_
    refine wp_skip ?_
    try simp only [Exit.then, Exit.inBlock, ↓reduceIte, Nat.reduceEqDiff]
    refine hK8 _ _ ?_
    refine wp_seq_k fun K11 hK11 => ?_
    refine r_list ?_
    refine wl rfl (ky (v := .pointer (some ⟨b1, 0, none⟩)) hS (y_move hS rfl) rfl rfl fun a hS => ?_)
    refine wl rfl (ky (v := .pointer (some ⟨b1, 0, none⟩)) hS (y_nil hS rfl) rfl rfl fun a hS => ?_)
    refine wl rfl (ky (v := .pointer (some ⟨b1, 0 + 1, none⟩)) hS (y_fld hS rfl fl52_1) rfl rfl fun a hS => ?_)
    refine wl rfl (ky (v := .int .i64 d_0.At) hS (y_load hS rfl ty3 0 rfl id (us := [.int .i64 d_0.At]) rfl rfl (fun _ => rfl)) rfl rfl fun a hS => ?_)
    refine wl rfl (ky (v := .int .i64 (IntKind.i64.wrap (d_0.At + 1))) hS (y_int hS rfl rfl rfl) rfl rfl fun a hS => ?_)
    refine wl rfl (ky (v := .pointer (some ⟨b1, 0, none⟩)) hS (y_nil hS rfl) rfl rfl fun a hS => ?_)
    refine wl rfl (ky (v := .pointer (some ⟨b1, 0 + 1, none⟩)) hS (y_fld hS rfl fl52_1) rfl rfl fun a hS => ?_)
    refine wl rfl (k_store hS rfl rfl (us := [.int .i64 (IntKind.i64.wrap (d_0.At + 1))]) rfl ty3 0 rfl rfl rfl (oc rfl on) fun w hk hS => ?_)
    refine wpList_nil ?_
    try simp only [Exit.then, Exit.inBlock, ↓reduceIte, Nat.reduceEqDiff]
    refine hK11 _ _ ?_
    refine wp_seq_k fun K12 hK12 => ?_
    refine draws [] hS mixed rfl (fun c a d v w h => by cases d <;> exact h) fun w hQ hS => ?_
    refine dy 0 (v := .pointer (some ⟨b1, 0, none⟩)) rfl (by kernel_rfl) (by kernel_rfl) (by kernel_rfl) rfl hQ hS (y_move hS rfl) rfl rfl rfl fun a hS => ?_
    refine dy 1 (v := .pointer (some ⟨b1, 0, none⟩)) rfl (by kernel_rfl) (by kernel_rfl) (by kernel_rfl) rfl hQ hS (y_nil hS rfl) rfl rfl rfl fun a hS => ?_
    refine dy 2 (v := .pointer (some ⟨b1, 0 + 0, none⟩)) rfl (by kernel_rfl) (by kernel_rfl) (by kernel_rfl) rfl hQ hS (y_fld hS rfl fl52_0) rfl rfl rfl fun a hS => ?_
    refine dy (l := []) 3 (v := v2) rfl (by kernel_rfl) (by kernel_rfl) (by kernel_rfl) (by kernel_rfl) hQ hS (y_load hS rfl ty22 0 rfl eo_nil (us := [v2]) rfl rfl (fun _ => rfl)) rfl rfl rfl fun a hS => ?_
    refine dy 4 (v := .pointer (some ⟨b1, 0, none⟩)) rfl (by kernel_rfl) (by kernel_rfl) (by kernel_rfl) rfl hQ hS (y_move hS rfl) rfl rfl rfl fun a hS => ?_
    refine dy 5 (v := .pointer (some ⟨b1, 0, none⟩)) rfl (by kernel_rfl) (by kernel_rfl) (by kernel_rfl) rfl hQ hS (y_nil hS rfl) rfl rfl rfl fun a hS => ?_
    refine dy 6 (v := .pointer (some ⟨b1, 0 + 1, none⟩)) rfl (by kernel_rfl) (by kernel_rfl) (by kernel_rfl) rfl hQ hS (y_fld hS rfl fl52_1) rfl rfl rfl fun a hS => ?_
    refine dy (l := []) 7 (v := .int .i64 (IntKind.i64.wrap (d_0.At + 1))) rfl (by kernel_rfl) (by kernel_rfl) (by kernel_rfl) (by kernel_rfl) hQ hS (y_load hS rfl ty3 0 rfl eo_nil (us := [.int .i64 (IntKind.i64.wrap (d_0.At + 1))]) rfl rfl (fun _ => rfl)) rfl rfl rfl fun a hS => ?_
    refine dy 8 (v := .int .i64 (IntKind.i64.wrap ((IntKind.i64.wrap (d_0.At + 1)) - 1))) rfl (by kernel_rfl) (by kernel_rfl) (by kernel_rfl) rfl hQ hS (y_int hS rfl rfl rfl) rfl rfl rfl fun a hS => ?_
    obtain ⟨e66, he66, hM⟩ := bd hM
    obtain ⟨b67, o68, cs70, hr69, hy72, hS⟩ := d_index (R := (Rep.int .i64)) hS sl22 ty3 0 rfl he66
    obtain rfl := hr69
    refine dy 9 (v := .pointer (some ⟨b67, o68, none⟩)) rfl (by kernel_rfl) (by kernel_rfl) (by kernel_rfl) rfl hQ hS (hy72 rfl rfl) rfl rfl rfl fun a hS => ?_
    refine dy (l := []) 10 (v := .int .i64 e66) rfl (by kernel_rfl) (by kernel_rfl) (by kernel_rfl) (by kernel_rfl) hQ hS (y_loadc (k := 0) hS ty3 0 rfl rfl es_nil (us := [.int .i64 e66]) rfl rfl (fun _ => rfl)) rfl rfl rfl fun a hS => ?_
    refine dy 11 (v := .int .i64 n_1) rfl (by kernel_rfl) (by kernel_rfl) (by kernel_rfl) rfl hQ hS (y_move hS rfl) rfl rfl rfl fun a hS => ?_
    obtain ⟨u73, hu73, hM⟩ := bd hM
    refine wpE_one (i := 12) rfl (by kernel_rfl) rfl (k_call hS ci11 rfl rfl (mill_Mod_c _ _ hS.dlt e66 n_1 _ hu73) fun _ w hR a hk hA => ⟨stN (hk), ?_⟩)
    have he := Eq.symm hR
    subst he
    have hS := hA [] (fun r hr => by cases hr) List.Pairwise.nil
    refine dy 13 (v := .int .i64 u73) rfl (by kernel_rfl) (by kernel_rfl) (by kernel_rfl) rfl hQ hS (y_assign hS rfl) rfl rfl rfl fun a hS => ?_
    refine wpE_done (by kernel_rfl) ?_ _
    try simp only [Exit.then, Exit.inBlock, ↓reduceIte, Nat.reduceEqDiff]
    refine hK12 _ _ ?_
    refine wp_ret ?_
    injection hM with hM
    subst hM
    try simp only [Exit.then, Exit.inBlock, ↓reduceIte, Nat.reduceEqDiff]
    refine ret_ok hS Tryd.results22 (res_tmp hS rfl res_nil) ?_
    exact ⟨v2, rfl, hS.boxRow 0 rfl, (SlR.up ⟨.inr (List.mem_of_getElem? (i := 0) rfl), trivial⟩ (hS.get 1 rfl))⟩

noncomputable def dice_Word (d_0 : DiceD) (l_1 : (List ByteArray)) : Option (ByteArray × DiceD) := (dice_Next d_0 (l_1.length : Int)).bind fun u9 => (getI l_1 u9.1).bind fun e11 => some ((e11, (DiceD.mk u9.2.L u9.2.At)))
set_option maxRecDepth 100000 in
set_option maxHeartbeats 4000000 in
theorem dice_Word_c (T : Nat → Prop) (W0 : World) (hT : ∀ k, T k → k < W0.heap.size) (d_0 : DiceD) (l_1 : (List ByteArray)) (v2 : Value) (v3 : Value) (b1 : Nat) (hb1 : W0.heap[b1]? = some (.cells #[v2, .int .i64 d_0.At] 52 (0, 0))) (hTb1 : ¬ T b1) (hv2 : SlR (Rep.int .i64) (dT T [.box b1 [v2, .int .i64 d_0.At] 52]) W0 v2 d_0.L) (hv3 : SlR Rep.str (dT T [.box b1 [v2, .int .i64 d_0.At] 52]) W0 v3 l_1) (y : ByteArray × DiceD) (hM : dice_Word d_0 l_1 = some y) : Rets Tryd.prog (fun k => k = b1) 23 [.pointer (some ⟨b1, 0, none⟩), v3] W0 (fun v w' => ∃ (v4 : Value), v = .string y.1 ∧ w'.heap[b1]? = some (.cells #[v4, .int .i64 y.2.At] 52 (0, 0)) ∧ SlR (Rep.int .i64) (dT T [.box b1 [v4, .int .i64 y.2.At] 52]) w' v4 y.2.L) := by
  refine enterm (c := _) Tryd.func23 rfl T 12 Tryd.ntmps23 hT rfl hb1 hTb1 fun a hS => ?_
  replace hS := hS.fact (SlF (Rep.int .i64) v2 d_0.L) hv2
  replace hS := hS.fact (SlF Rep.str v3 l_1) hv3
  unfold dice_Word at hM
  refine wp_seq_k fun K3 hK3 => ?_
  refine r_list ?_
  refine wl rfl (ky (v := .string (ByteArray.mk #[])) hS (y_assign hS rfl) rfl rfl fun a hS => ?_)
  refine wpList_nil ?_
  try simp only [Exit.then, Exit.inBlock, ↓reduceIte, Nat.reduceEqDiff]
  refine hK3 _ _ ?_
  refine wp_seq_k fun K4 hK4 => ?_
  refine r_list ?_
  refine wl rfl (ky (v := v3) hS (y_move hS rfl) rfl rfl fun a hS => ?_)
  refine wl rfl (ky (v := .pointer (some ⟨b1, 0, none⟩)) hS (y_move hS rfl) rfl rfl fun a hS => ?_)
  refine wl rfl (ky (v := v3) hS (y_move hS rfl) rfl rfl fun a hS => ?_)
  refine wl rfl (ky (v := .int .i64 (l_1.length : Int)) hS (y_len (R := Rep.str) (xs := l_1) hS sl70 rfl 0 rfl) rfl rfl fun a hS => ?_)
  obtain ⟨u9, hu9, hM⟩ := bd hM
  refine wl rfl (k_callm hS ci22 rfl rfl 0 rfl (dice_Next_c _ _ (hS.drop 0).dlt d_0 (l_1.length : Int) _ _ (hS.boxRow 0 rfl) (hS.notin 0 rfl) (SlR.lent (i := 0) rfl (hS.get 1 rfl)) _ hu9) fun _ w hR hk => ?_)
  obtain ⟨vz10_3, he, hrow, hRvz10_3⟩ := hR
  replace he := he.symm
  subst he
  refine ⟨[vz10_3, .int .i64 u9.2.At], hrow, fun a hS => ?_⟩
  replace hS := hS.fact (SlF (Rep.int .i64) vz10_3 u9.2.L) (SlR.back (i := 0) rfl hRvz10_3)
  obtain ⟨e11, he11, hM⟩ := bd hM
  refine wl rfl (k_index (R := Rep.str) hS sl70 ty9 rfl rfl 1 rfl he11 rfl fun b12 o13 cs15 hr14 a hS => ?_)
  obtain rfl := hr14
  refine wl rfl (ky (v := .string e11) hS (y_loadc (k := 0) hS ty9 0 rfl rfl (fun _ h => h.elim) (us := [.string e11]) rfl rfl (fun _ => rfl)) rfl rfl fun a hS => ?_)
  refine wl rfl (ky (v := .string e11) hS (y_assign hS rfl) rfl rfl fun a hS => ?_)
  refine wpList_nil ?_
  try simp only [Exit.then, Exit.inBlock, ↓reduceIte, Nat.reduceEqDiff]
  refine hK4 _ _ ?_
  refine wp_ret ?_
  injection hM with hM
  subst hM
  try simp only [Exit.then, Exit.inBlock, ↓reduceIte, Nat.reduceEqDiff]
  refine ret_ok hS Tryd.results23 (res_tmp hS rfl res_nil) ?_
  exact ⟨vz10_3, rfl, hS.boxRow 0 rfl, (SlR.up ⟨.inr (List.mem_of_getElem? (i := 0) rfl), trivial⟩ (hS.get 1 rfl))⟩

noncomputable def law29_records_j1 (l2367 : (List RecordD)) (d2371 : (List Int)) (d2373 : Int) : Option ((List RecordD) × DiceD) := some ((l2367, (DiceD.mk d2371 d2373)))
noncomputable def law29_records_j2 (k2762 : Int) (l3333 : (List RecordD)) (d3337 : (List Int)) (d3339 : Int) : Option (Fl ((List RecordD) × Int × (List Int) × Int) ((List RecordD) × (List Int) × Int)) := some (.go (l3333, IntKind.i64.wrap (k2762 - 1), d3337, d3339))
noncomputable def law29_records_j3 (l2758 : (List RecordD)) (k2762 : Int) (u3340 : (Int × DiceD)) (u3344 : (ByteArray × DiceD)) (u3346 : (Int × DiceD)) (r3355 : Bool) (d3434 : (List Int)) (d3436 : Int) (r3437 : (List KeyD)) : Option (Fl ((List RecordD) × Int × (List Int) × Int) ((List RecordD) × (List Int) × Int)) := (ref26_Put l2758 (RecordD.mk (KeyD.mk (IntKind.i64.wrap (32 - (IntKind.i64.wrap (Int.tdiv u3340.1 4)))) u3344.1) (ByteArray.mk #[]) r3437 0 u3346.1 1 r3355)).bind fun u3441 => law29_records_j2 k2762 u3441 d3434 d3436
noncomputable def law29_records_l4 (n3481 : Int) (d3482 : (List Int)) (d3484 : Int) (r3485 : (List KeyD)) : Option (Fl (Int × (List Int) × Int × (List KeyD)) ((List Int) × Int × (List KeyD))) := cond (decide ((0 : Int) < n3481)) ((dice_Next (DiceD.mk d3482 d3484) 6).bind fun u3536 => (dice_Word (DiceD.mk u3536.2.L u3536.2.At) ([(ByteArray.mk #[48]), (ByteArray.mk #[49]), (ByteArray.mk #[50]), (ByteArray.mk #[51]), (ByteArray.mk #[52])])).bind fun u3540 => gd (roomB (r3485.length + ([(KeyD.mk (IntKind.i64.wrap (32 - (IntKind.i64.wrap (Int.tdiv u3536.1 5)))) u3540.1)]).length)) <| some (.go (IntKind.i64.wrap (n3481 - 1), u3540.2.L, u3540.2.At, (r3485 ++ ([(KeyD.mk (IntKind.i64.wrap (32 - (IntKind.i64.wrap (Int.tdiv u3536.1 5)))) u3540.1)]))))) (some (.out (d3482, d3484, r3485)))
noncomputable def law29_records_j5 (l2758 : (List RecordD)) (k2762 : Int) (u3340 : (Int × DiceD)) (u3344 : (ByteArray × DiceD)) (u3346 : (Int × DiceD)) (u3348 : (Int × DiceD)) (r3355 : Bool) : Option (Fl ((List RecordD) × Int × (List Int) × Int) ((List RecordD) × (List Int) × Int)) := (dice_Next (DiceD.mk u3348.2.L u3348.2.At) 4).bind fun u3444 => (loop (fun s : Int × (List Int) × Int × (List KeyD) => law29_records_l4 s.1 s.2.1 s.2.2.1 s.2.2.2) (u3444.1, u3444.2.L, u3444.2.At, ([] : List KeyD))).bind fun r => law29_records_j3 l2758 k2762 u3340 u3344 u3346 r3355 r.1 r.2.1 r.2.2
noncomputable def law29_records_l6 (l2758 : (List RecordD)) (k2762 : Int) (d2763 : (List Int)) (d2765 : Int) : Option (Fl ((List RecordD) × Int × (List Int) × Int) ((List RecordD) × (List Int) × Int)) := cond (decide ((0 : Int) < k2762)) ((dice_Next (DiceD.mk d2763 d2765) 5).bind fun u3340 => (dice_Word (DiceD.mk u3340.2.L u3340.2.At) ([(ByteArray.mk #[48]), (ByteArray.mk #[49]), (ByteArray.mk #[50]), (ByteArray.mk #[51]), (ByteArray.mk #[52])])).bind fun u3344 => (dice_Next (DiceD.mk u3344.2.L u3344.2.At) 3).bind fun u3346 => (dice_Next (DiceD.mk u3346.2.L u3346.2.At) 8).bind fun u3348 => cond ((u3348.1 : Int) == 1) (law29_records_j5 l2758 k2762 u3340 u3344 u3346 u3348 ((IntKind.i64.wrap (32 - (IntKind.i64.wrap (Int.tdiv u3340.1 4))) : Int) == 32)) (law29_records_j5 l2758 k2762 u3340 u3344 u3346 u3348 false)) (some (.out (l2758, d2763, d2765)))
noncomputable def law29_records (d_0 : DiceD) : Option ((List RecordD) × DiceD) := (dice_Next d_0 6).bind fun u2374 => (loop (fun s : (List RecordD) × Int × (List Int) × Int => law29_records_l6 s.1 s.2.1 s.2.2.1 s.2.2.2) (([] : List RecordD), IntKind.i64.wrap (2 + u2374.1), u2374.2.L, u2374.2.At)).bind fun r => law29_records_j1 r.1 r.2.1 r.2.2
set_option maxRecDepth 100000 in
set_option maxHeartbeats 4000000 in
theorem law29_records_c (T : Nat → Prop) (W0 : World) (hT : ∀ k, T k → k < W0.heap.size) (d_0 : DiceD) (v2 : Value) (b1 : Nat) (hb1 : W0.heap[b1]? = some (.cells #[v2, .int .i64 d_0.At] 52 (0, 0))) (hTb1 : ¬ T b1) (hv2 : SlR (Rep.int .i64) (dT T [.box b1 [v2, .int .i64 d_0.At] 52]) W0 v2 d_0.L) (hLv : LvP (dT T [.box b1 [v2, .int .i64 d_0.At] 52]) W0) (y : (List RecordD) × DiceD) (hM : law29_records d_0 = some y) : Rets Tryd.prog (fun k => k = b1) 10 [.pointer (some ⟨b1, 0, none⟩)] W0 (fun v w' => ∃ (v3 : Value) (cl4 : List Value) (v5 : Value), v = v3 ∧ OwnR R_RecordD T W0 w' [.own v3 34 R_RecordD.size cl4, .box b1 [v5, .int .i64 y.2.At] 52] 34 v3 cl4 y.1 ∧ w'.heap[b1]? = some (.cells #[v5, .int .i64 y.2.At] 52 (0, 0)) ∧ SlR (Rep.int .i64) (dT T [.own v3 34 R_RecordD.size cl4, .box b1 [v5, .int .i64 y.2.At] 52]) w' v5 y.2.L) := by
  refine enterm (c := _) Tryd.func10 rfl T 60 Tryd.ntmps10 hT rfl hb1 hTb1 fun a hS => ?_
  replace hS := hS.fact LvF hLv
  replace hS := hS.fact (SlF (Rep.int .i64) v2 d_0.L) hv2
  unfold law29_records at hM
  refine wp_seq_k fun K134 hK134 => ?_
  refine r_list ?_
  refine wl rfl (ky (v := .slice none 0 0) hS (y_assign hS rfl) rfl rfl fun a hS => ?_)
  refine wpList_nil ?_
  try simp only [Exit.then, Exit.inBlock, ↓reduceIte, Nat.reduceEqDiff]
  refine hK134 _ _ ?_
  refine wp_seq_k fun K135 hK135 => ?_
  refine r_list ?_
  refine wl rfl (ky (v := .slice none 0 0) hS (y_assign hS rfl) rfl rfl fun a hS => ?_)
  refine wpList_nil ?_
  try simp only [Exit.then, Exit.inBlock, ↓reduceIte, Nat.reduceEqDiff]
  refine hK135 _ _ ?_
  refine seq_j (J := fun a w => ∃ (l2367 : (List RecordD)) (d2371 : (List Int)) (d2373 : Int) (v2368 : Value) (cl2369 : (List Value)) (v2372 : Value), St W0 (fun k => k = b1) T 60 [(3, v2368)] [.own v2368 34 R_RecordD.size cl2369, .box b1 [v2372, .int .i64 d2373] 52] [RowsF R_RecordD cl2369 l2367, SlF (Rep.int .i64) v2372 d2371, LvF] a w ∧ law29_records_j1 l2367 d2371 d2373 = some y) ?_ ?_
  · skip
    refine wp_seq_k fun K202 hK202 => ?_
    refine r_list ?_
    refine wl rfl (ky (v := .pointer (some ⟨b1, 0, none⟩)) hS (y_move hS rfl) rfl rfl fun a hS => ?_)
    obtain ⟨u2374, hu2374, hM⟩ := bd hM
    refine wl rfl (k_callm hS ci22 rfl rfl 0 rfl (dice_Next_c _ _ (hS.drop 0).dlt d_0 6 _ _ (hS.boxRow 0 rfl) (hS.notin 0 rfl) (SlR.lent (i := 0) rfl (hS.get 0 rfl)) _ hu2374) fun _ w hR hk => ?_)
    obtain ⟨vz2375_3, he, hrow, hRvz2375_3⟩ := hR
    replace he := he.symm
    subst he
    refine ⟨[vz2375_3, .int .i64 u2374.2.At], hrow, fun a hS => ?_⟩
    replace hS := hS.fact (SlF (Rep.int .i64) vz2375_3 u2374.2.L) (SlR.back (i := 0) rfl hRvz2375_3)
    refine wl rfl (ky (v := .int .i64 (IntKind.i64.wrap (2 + u2374.1))) hS (y_int hS rfl rfl rfl) rfl rfl fun a hS => ?_)
    refine wl rfl (ky (v := .int .i64 (IntKind.i64.wrap (2 + u2374.1))) hS (y_assign hS rfl) rfl rfl fun a hS => ?_)
    refine wpList_nil ?_
    try simp only [Exit.then, Exit.inBlock, ↓reduceIte, Nat.reduceEqDiff]
    refine hK202 _ _ ?_
    refine wp_block ?_
    replace hS := hS.nilRow R_RecordD 34 (by decide)
    obtain ⟨r1, hl1, hMo1⟩ := bd hM
    refine wp_lp (fun s : (List RecordD) × Int × (List Int) × Int => law29_records_l6 s.1 s.2.1 s.2.2.1 s.2.2.2) (fun s a w => ∃ (l2758 : (List RecordD)) (k2762 : Int) (d2763 : (List Int)) (d2765 : Int) (v2759 : Value) (cl2760 : (List Value)) (v2764 : Value), (l2758, k2762, d2763, d2765) = s ∧ St W0 (fun k => k = b1) T 60 [(0, .pointer (some ⟨b1, 0, none⟩)), (3, v2759), (4, .int .i64 k2762)] [.own v2759 34 R_RecordD.size cl2760, .box b1 [v2764, .int .i64 d2765] 52] [RowsF R_RecordD cl2760 l2758, SlF (Rep.int .i64) v2764 d2763, LvF] a w) hl1 ⟨([] : List RecordD), (IntKind.i64.wrap (2 + u2374.1)), u2374.2.L, u2374.2.At, (.slice none 0 0), ([]), vz2375_3, rfl, (hS.meet [0, 1] (by decide) ⟨rfl, rfl, rfl, trivial⟩ ⟨rfl, rfl, trivial⟩ ⟨⟨0, rfl⟩, ⟨1, rfl⟩, ⟨3, rfl⟩, trivial⟩)⟩ ?_
    rintro s a w f1 ⟨l2758, k2762, d2763, d2765, v2759, cl2760, v2764, rfl, hS⟩ hM hf1
    have hM : law29_records_l6 l2758 k2762 d2763 d2765 = some f1 := hM
    unfold law29_records_l6 at hM
    refine wp_seq_k fun K267 hK267 => ?_
    refine wp_seq_k fun K268 hK268 => ?_
    refine r_list ?_
    refine wl rfl (ky (v := .int .i64 k2762) hS (y_move hS rfl) rfl rfl fun a hS => ?_)
    refine wl rfl (ky (v := .bool (decide ((0 : Int) < k2762))) hS (y_int hS rfl rfl rfl) rfl rfl fun a hS => ?_)
    refine wpList_nil ?_
    try simp only [Exit.then, Exit.inBlock, ↓reduceIte, Nat.reduceEqDiff]
    refine hK268 _ _ ?_
    rcases bool2 (decide ((0 : Int) < k2762)) with hb3149 | hb3149
    · replace hM := ct hb3149 hM
      refine c_t hS rfl hb3149 ?_
      refine wp_skip ?_
      try simp only [Exit.then, Exit.inBlock, ↓reduceIte, Nat.reduceEqDiff]
      refine hK267 _ _ ?_
      refine seq_j (J := fun a w => ∃ (l3333 : (List RecordD)) (d3337 : (List Int)) (d3339 : Int) (v3334 : Value) (cl3335 : (List Value)) (v3338 : Value), St W0 (fun k => k = b1) T 60 [(0, .pointer (some ⟨b1, 0, none⟩)), (3, v3334), (4, .int .i64 k2762)] [.own v3334 34 R_RecordD.size cl3335, .box b1 [v3338, .int .i64 d3339] 52] [RowsF R_RecordD cl3335 l3333, SlF (Rep.int .i64) v3338 d3337, LvF] a w ∧ law29_records_j2 k2762 l3333 d3337 d3339 = some f1) ?_ ?_
      · skip
        refine wp_block ?_
        refine wp_seq_k fun K284 hK284 => ?_
        refine r_list ?_
        refine wl rfl (ky (v := .pointer (some ⟨b1, 0, none⟩)) hS (y_move hS rfl) rfl rfl fun a hS => ?_)
        obtain ⟨u3340, hu3340, hM⟩ := bd hM
        refine wl rfl (k_callm hS ci22 rfl rfl 1 rfl (dice_Next_c _ _ (hS.drop 1).dlt (DiceD.mk d2763 d2765) 5 _ _ (hS.boxRow 1 rfl) (hS.notin 1 rfl) (SlR.lent (i := 1) rfl (hS.get 1 rfl)) _ hu3340) fun _ w hR hk => ?_)
        obtain ⟨vz3341_3, he, hrow, hRvz3341_3⟩ := hR
        replace he := he.symm
        subst he
        refine ⟨[vz3341_3, .int .i64 u3340.2.At], hrow, fun a hS => ?_⟩
        replace hS := hS.fact (SlF (Rep.int .i64) vz3341_3 u3340.2.L) (SlR.back (i := 1) rfl hRvz3341_3)
        refine wl rfl (ky (v := .int .i64 (IntKind.i64.wrap (Int.tdiv u3340.1 4))) hS (y_quo hS rfl rfl (by decide)) rfl rfl fun a hS => ?_)
        refine wl rfl (ky (v := .int .i64 (IntKind.i64.wrap (32 - (IntKind.i64.wrap (Int.tdiv u3340.1 4))))) hS (y_int hS rfl rfl rfl) rfl rfl fun a hS => ?_)
        refine wl rfl (ky (v := .pointer (some ⟨b1, 0, none⟩)) hS (y_move hS rfl) rfl rfl fun a hS => ?_)
        refine wl rfl (k_bslice (ps := [(0, .const (.string ⟨#[48]⟩)), (1, .const (.string ⟨#[49]⟩)), (2, .const (.string ⟨#[50]⟩)), (3, .const (.string ⟨#[51]⟩)), (4, .const (.string ⟨#[52]⟩))]) hS el70 ze9 (zl := [.string (ByteArray.mk #[]), .string (ByteArray.mk #[]), .string (ByteArray.mk #[]), .string (ByteArray.mk #[]), .string (ByteArray.mk #[])]) (by kernel_rfl) rfl (us := [[.string (ByteArray.mk #[48])], [.string (ByteArray.mk #[49])], [.string (ByteArray.mk #[50])], [.string (ByteArray.mk #[51])], [.string (ByteArray.mk #[52])]]) ⟨rfl, ⟨rfl, ⟨rfl, ⟨rfl, ⟨rfl, trivial⟩⟩⟩⟩⟩ (ws := [.string (ByteArray.mk #[48]), .string (ByteArray.mk #[49]), .string (ByteArray.mk #[50]), .string (ByteArray.mk #[51]), .string (ByteArray.mk #[52])]) rfl rfl rfl rfl fun b3342 a w hk hS => ?_)
        replace hS := hS.lit (R := Rep.str) (us := [.string (ByteArray.mk #[48]), .string (ByteArray.mk #[49]), .string (ByteArray.mk #[50]), .string (ByteArray.mk #[51]), .string (ByteArray.mk #[52])]) (xs := [(ByteArray.mk #[48]), (ByteArray.mk #[49]), (ByteArray.mk #[50]), (ByteArray.mk #[51]), (ByteArray.mk #[52])]) 0 rfl (by decide) ((RowsOk.one_ (R := Rep.str) (x := (ByteArray.mk #[48])) rfl).append ((RowsOk.one_ (R := Rep.str) (x := (ByteArray.mk #[49])) rfl).append ((RowsOk.one_ (R := Rep.str) (x := (ByteArray.mk #[50])) rfl).append ((RowsOk.one_ (R := Rep.str) (x := (ByteArray.mk #[51])) rfl).append (RowsOk.one_ (R := Rep.str) (x := (ByteArray.mk #[52])) rfl))))) rfl rfl
        replace hS := hS.freeze (R := Rep.str) 0 rfl 0 rfl
        obtain ⟨u3344, hu3344, hM⟩ := bd hM
        refine wl rfl (k_callm hS ci23 rfl rfl 1 rfl (dice_Word_c _ _ (hS.drop 1).dlt (DiceD.mk u3340.2.L u3340.2.At) ([(ByteArray.mk #[48]), (ByteArray.mk #[49]), (ByteArray.mk #[50]), (ByteArray.mk #[51]), (ByteArray.mk #[52])]) _ _ _ (hS.boxRow 1 rfl) (hS.notin 1 rfl) (SlR.lent (i := 1) rfl (hS.get 2 rfl)) (SlR.lent (i := 1) rfl (hS.get 0 rfl)) _ hu3344) fun _ w hR hk => ?_)
        obtain ⟨vz3345_4, he, hrow, hRvz3345_4⟩ := hR
        replace he := he.symm
        subst he
        refine ⟨[vz3345_4, .int .i64 u3344.2.At], hrow, fun a hS => ?_⟩
        replace hS := hS.fact (SlF (Rep.int .i64) vz3345_4 u3344.2.L) (SlR.back (i := 1) rfl hRvz3345_4)
        refine wl rfl (ky (v := .agg #[.int .i64 (IntKind.i64.wrap (32 - (IntKind.i64.wrap (Int.tdiv u3340.1 4)))), .string u3344.1]) hS (y_build (ps := [(0, .tmp 17), (1, .tmp 20)]) hS pl32 ze32 rfl (us := [[.int .i64 (IntKind.i64.wrap (32 - (IntKind.i64.wrap (Int.tdiv u3340.1 4))))], [.string u3344.1]]) ⟨rfl, ⟨rfl, trivial⟩⟩ (ws := [.int .i64 (IntKind.i64.wrap (32 - (IntKind.i64.wrap (Int.tdiv u3340.1 4)))), .string u3344.1]) rfl) rfl rfl fun a hS => ?_)
        refine wl rfl (ky (v := .pointer (some ⟨b1, 0, none⟩)) hS (y_move hS rfl) rfl rfl fun a hS => ?_)
        obtain ⟨u3346, hu3346, hM⟩ := bd hM
        refine wl rfl (k_callm hS ci22 rfl rfl 1 rfl (dice_Next_c _ _ (hS.drop 1).dlt (DiceD.mk u3344.2.L u3344.2.At) 3 _ _ (hS.boxRow 1 rfl) (hS.notin 1 rfl) (SlR.lent (i := 1) rfl (hS.get 0 rfl)) _ hu3346) fun _ w hR hk => ?_)
        obtain ⟨vz3347_3, he, hrow, hRvz3347_3⟩ := hR
        replace he := he.symm
        subst he
        refine ⟨[vz3347_3, .int .i64 u3346.2.At], hrow, fun a hS => ?_⟩
        replace hS := hS.fact (SlF (Rep.int .i64) vz3347_3 u3346.2.L) (SlR.back (i := 1) rfl hRvz3347_3)
        refine wl rfl (ky (v := .pointer (some ⟨b1, 0, none⟩)) hS (y_move hS rfl) rfl rfl fun a hS => ?_)
        obtain ⟨u3348, hu3348, hM⟩ := bd hM
        refine wl rfl (k_callm hS ci22 rfl rfl 1 rfl (dice_Next_c _ _ (hS.drop 1).dlt (DiceD.mk u3346.2.L u3346.2.At) 8 _ _ (hS.boxRow 1 rfl) (hS.notin 1 rfl) (SlR.lent (i := 1) rfl (hS.get 0 rfl)) _ hu3348) fun _ w hR hk => ?_)
        obtain ⟨vz3349_3, he, hrow, hRvz3349_3⟩ := hR
        replace he := he.symm
        subst he
        refine ⟨[vz3349_3, .int .i64 u3348.2.At], hrow, fun a hS => ?_⟩
        replace hS := hS.fact (SlF (Rep.int .i64) vz3349_3 u3348.2.L) (SlR.back (i := 1) rfl hRvz3349_3)
        refine wl rfl (ky (v := .bool ((u3348.1 : Int) == 1)) hS (y_int hS rfl rfl rfl) rfl rfl fun a hS => ?_)
        refine wl rfl (ky (v := .agg #[.int .i64 (IntKind.i64.wrap (32 - (IntKind.i64.wrap (Int.tdiv u3340.1 4)))), .string u3344.1, .string (ByteArray.mk #[]), .slice none 0 0, .int .i64 0, .int .i64 u3346.1, .int .i64 1, .bool ((u3348.1 : Int) == 1)]) hS (y_build (ps := [(0, .tmp 21), (4, .tmp 23), (5, .const (.int .i64 1)), (6, .tmp 26)]) hS pl34 ze34 rfl (us := [[.int .i64 (IntKind.i64.wrap (32 - (IntKind.i64.wrap (Int.tdiv u3340.1 4)))), .string u3344.1], [.int .i64 u3346.1], [.int .i64 1], [.bool ((u3348.1 : Int) == 1)]]) ⟨rfl, ⟨rfl, ⟨rfl, ⟨rfl, trivial⟩⟩⟩⟩ (ws := [.int .i64 (IntKind.i64.wrap (32 - (IntKind.i64.wrap (Int.tdiv u3340.1 4)))), .string u3344.1, .string (ByteArray.mk #[]), .slice none 0 0, .int .i64 0, .int .i64 u3346.1, .int .i64 1, .bool ((u3348.1 : Int) == 1)]) rfl) rfl rfl fun a hS => ?_)
        refine wl rfl (k_alloc hS ze34 rfl fun b3350 hnb3352 a w hk hS => ?_)
        refine wl rfl (k_store hS rfl rfl (us := [.int .i64 (IntKind.i64.wrap (32 - (IntKind.i64.wrap (Int.tdiv u3340.1 4)))), .string u3344.1, .string (ByteArray.mk #[]), .slice none 0 0, .int .i64 0, .int .i64 u3346.1, .int .i64 1, .bool ((u3348.1 : Int) == 1)]) rfl ty34 0 rfl rfl rfl (oc rfl (oc rfl (oc rfl (oc rfl (oc rfl (oc rfl (oc rfl (oc rfl on)))))))) fun w hk hS => ?_)
        refine wpList_nil ?_
        try simp only [Exit.then, Exit.inBlock, ↓reduceIte, Nat.reduceEqDiff]
        refine hK284 _ _ ?_
        refine seq_j (J := fun a w => ∃ (r3355 : Bool), St W0 (fun k => k = b1) T 60 [(0, .pointer (some ⟨b1, 0, none⟩)), (3, v2759), (4, .int .i64 k2762), (5, .pointer (some ⟨b3350, 0, none⟩))] [.own v2759 34 R_RecordD.size cl2760, .box b1 [vz3349_3, .int .i64 u3348.2.At] 52, .box b3350 [.int .i64 (IntKind.i64.wrap (32 - (IntKind.i64.wrap (Int.tdiv u3340.1 4)))), .string u3344.1, .string (ByteArray.mk #[]), .slice none 0 0, .int .i64 0, .int .i64 u3346.1, .int .i64 1, .bool r3355] 34] [RowsF R_RecordD cl2760 l2758, SlF (Rep.int .i64) vz3349_3 u3348.2.L, LvF] a w ∧ law29_records_j5 l2758 k2762 u3340 u3344 u3346 u3348 r3355 = some f1) ?_ ?_
        · skip
          refine r_list ?_
          refine wl rfl (ky (v := .pointer (some ⟨b3350, 0 + 7, none⟩)) hS (y_fld hS rfl fl34_6) rfl rfl fun a hS => ?_)
          refine wl rfl (ky (v := .bool ((u3348.1 : Int) == 1)) hS (y_load hS rfl ty4 0 rfl id (us := [.bool ((u3348.1 : Int) == 1)]) rfl rfl (fun _ => rfl)) rfl rfl fun a hS => ?_)
          refine wl rfl (ky (v := .bool ((u3348.1 : Int) == 1)) hS (y_move hS rfl) rfl rfl fun a hS => ?_)
          rcases bool2 ((u3348.1 : Int) == 1) with hb3548 | hb3548
          · replace hM := ct hb3548 hM
            refine wg hS rfl rfl rfl hb3548 (ky (v := .pointer (some ⟨b3350, 0 + 0, none⟩)) hS (y_fld hS rfl fl34_0) rfl rfl fun a hS => ?_)
            refine wg hS rfl rfl rfl hb3548 (ky (v := .pointer (some ⟨b3350, 0 + 0 + 0, none⟩)) hS (y_fld hS rfl fl32_0) rfl rfl fun a hS => ?_)
            refine wg hS rfl rfl rfl hb3548 (ky (v := .int .i64 (IntKind.i64.wrap (32 - (IntKind.i64.wrap (Int.tdiv u3340.1 4))))) hS (y_load hS rfl ty3 0 rfl id (us := [.int .i64 (IntKind.i64.wrap (32 - (IntKind.i64.wrap (Int.tdiv u3340.1 4))))]) rfl rfl (fun _ => rfl)) rfl rfl fun a hS => ?_)
            refine wg hS rfl rfl rfl hb3548 (ky (v := .bool ((IntKind.i64.wrap (32 - (IntKind.i64.wrap (Int.tdiv u3340.1 4))) : Int) == 32)) hS (y_int hS rfl rfl rfl) rfl rfl fun a hS => ?_)
            refine wl rfl (ky (v := .bool ((IntKind.i64.wrap (32 - (IntKind.i64.wrap (Int.tdiv u3340.1 4))) : Int) == 32)) hS (y_pickt hS rfl hb3548 rfl) rfl rfl fun a hS => ?_)
            refine wl rfl (ky (v := .pointer (some ⟨b3350, 0 + 7, none⟩)) hS (y_fld hS rfl fl34_6) rfl rfl fun a hS => ?_)
            refine wl rfl (k_store hS rfl rfl (us := [.bool ((IntKind.i64.wrap (32 - (IntKind.i64.wrap (Int.tdiv u3340.1 4))) : Int) == 32)]) rfl ty4 0 rfl rfl rfl (oc rfl on) fun w hk hS => ?_)
            refine wpList_nil ?_
            try simp only [Exit.then, Exit.inBlock, ↓reduceIte, Nat.reduceEqDiff]
            exact ⟨((IntKind.i64.wrap (32 - (IntKind.i64.wrap (Int.tdiv u3340.1 4))) : Int) == 32), (hS.meet [1, 2, 0] (by decide) ⟨rfl, rfl, rfl, rfl, trivial⟩ ⟨rfl, rfl, rfl, trivial⟩ ⟨⟨6, rfl⟩, ⟨0, rfl⟩, ⟨8, rfl⟩, trivial⟩), hM⟩
          · replace hM := cf hb3548 hM
            refine wn hS rfl rfl rfl hb3548 rfl rfl fun a hS => ?_
            refine wn hS rfl rfl rfl hb3548 rfl rfl fun a hS => ?_
            refine wn hS rfl rfl rfl hb3548 rfl rfl fun a hS => ?_
            refine wn hS rfl rfl rfl hb3548 rfl rfl fun a hS => ?_
            refine wl rfl (ky (v := .bool false) hS (y_pickf hS rfl hb3548 rfl) rfl rfl fun a hS => ?_)
            refine wl rfl (ky (v := .pointer (some ⟨b3350, 0 + 7, none⟩)) hS (y_fld hS rfl fl34_6) rfl rfl fun a hS => ?_)
            refine wl rfl (k_store hS rfl rfl (us := [.bool false]) rfl ty4 0 rfl rfl rfl (oc rfl on) fun w hk hS => ?_)
            refine wpList_nil ?_
            try simp only [Exit.then, Exit.inBlock, ↓reduceIte, Nat.reduceEqDiff]
            exact ⟨false, (hS.meet [1, 2, 0] (by decide) ⟨rfl, rfl, rfl, rfl, trivial⟩ ⟨rfl, rfl, rfl, trivial⟩ ⟨⟨6, rfl⟩, ⟨0, rfl⟩, ⟨8, rfl⟩, trivial⟩), hM⟩
        · rintro a w ⟨r3355, hS, hM⟩
          unfold law29_records_j5 at hM
          refine seq_j (J := fun a w => ∃ (d3434 : (List Int)) (d3436 : Int) (r3437 : (List KeyD)) (v3438 : Value) (cl3439 : (List Value)) (v3435 : Value), St W0 (fun k => k = b1) T 60 [(0, .pointer (some ⟨b1, 0, none⟩)), (3, v2759), (4, .int .i64 k2762), (5, .pointer (some ⟨b3350, 0, none⟩))] [.own v2759 34 R_RecordD.size cl2760, .box b1 [v3435, .int .i64 d3436] 52, .own v3438 32 R_KeyD.size cl3439, .box b3350 [.int .i64 (IntKind.i64.wrap (32 - (IntKind.i64.wrap (Int.tdiv u3340.1 4)))), .string u3344.1, .string (ByteArray.mk #[]), v3438, .int .i64 0, .int .i64 u3346.1, .int .i64 1, .bool r3355] 34] [RowsF R_RecordD cl2760 l2758, SlF (Rep.int .i64) v3435 d3434, RowsF R_KeyD cl3439 r3437, LvF] a w ∧ law29_records_j3 l2758 k2762 u3340 u3344 u3346 r3355 d3434 d3436 r3437 = some f1) ?_ ?_
          · skip
            refine wp_seq_k fun K292 hK292 => ?_
            refine r_list ?_
            refine wl rfl (ky (v := .pointer (some ⟨b1, 0, none⟩)) hS (y_move hS rfl) rfl rfl fun a hS => ?_)
            obtain ⟨u3444, hu3444, hM⟩ := bd hM
            refine wl rfl (k_callm hS ci22 rfl rfl 1 rfl (dice_Next_c _ _ (hS.drop 1).dlt (DiceD.mk u3348.2.L u3348.2.At) 4 _ _ (hS.boxRow 1 rfl) (hS.notin 1 rfl) (SlR.lent (i := 1) rfl (hS.get 1 rfl)) _ hu3444) fun _ w hR hk => ?_)
            obtain ⟨vz3445_3, he, hrow, hRvz3445_3⟩ := hR
            replace he := he.symm
            subst he
            refine ⟨[vz3445_3, .int .i64 u3444.2.At], hrow, fun a hS => ?_⟩
            replace hS := hS.fact (SlF (Rep.int .i64) vz3445_3 u3444.2.L) (SlR.back (i := 1) rfl hRvz3445_3)
            refine wl rfl (ky (v := .int .i64 u3444.1) hS (y_assign hS rfl) rfl rfl fun a hS => ?_)
            refine wpList_nil ?_
            try simp only [Exit.then, Exit.inBlock, ↓reduceIte, Nat.reduceEqDiff]
            refine hK292 _ _ ?_
            refine wp_block ?_
            replace hS := hS.nilRow R_KeyD 32 (by decide)
            obtain ⟨r2, hl2, hMo2⟩ := bd hM
            refine wp_lp (fun s : Int × (List Int) × Int × (List KeyD) => law29_records_l4 s.1 s.2.1 s.2.2.1 s.2.2.2) (fun s a w => ∃ (n3481 : Int) (d3482 : (List Int)) (d3484 : Int) (r3485 : (List KeyD)) (v3486 : Value) (cl3487 : (List Value)) (v3483 : Value), (n3481, d3482, d3484, r3485) = s ∧ St W0 (fun k => k = b1) T 60 [(0, .pointer (some ⟨b1, 0, none⟩)), (3, v2759), (4, .int .i64 k2762), (5, .pointer (some ⟨b3350, 0, none⟩)), (6, .int .i64 n3481)] [.own v2759 34 R_RecordD.size cl2760, .box b1 [v3483, .int .i64 d3484] 52, .own v3486 32 R_KeyD.size cl3487, .box b3350 [.int .i64 (IntKind.i64.wrap (32 - (IntKind.i64.wrap (Int.tdiv u3340.1 4)))), .string u3344.1, .string (ByteArray.mk #[]), v3486, .int .i64 0, .int .i64 u3346.1, .int .i64 1, .bool r3355] 34] [RowsF R_RecordD cl2760 l2758, SlF (Rep.int .i64) v3483 d3482, RowsF R_KeyD cl3487 r3485, LvF] a w) hl2 ⟨u3444.1, u3444.2.L, u3444.2.At, ([] : List KeyD), (.slice none 0 0), ([]), vz3445_3, rfl, (hS.meet [1, 2, 0, 3] (by decide) ⟨rfl, rfl, rfl, rfl, rfl, trivial⟩ ⟨rfl, rfl, rfl, rfl, trivial⟩ ⟨⟨2, rfl⟩, ⟨1, rfl⟩, ⟨0, rfl⟩, ⟨4, rfl⟩, trivial⟩)⟩ ?_
            rintro s a w f2 ⟨n3481, d3482, d3484, r3485, v3486, cl3487, v3483, rfl, hS⟩ hM hf2
            have hM : law29_records_l4 n3481 d3482 d3484 r3485 = some f2 := hM
            unfold law29_records_l4 at hM
            refine wp_seq_k fun K299 hK299 => ?_
            refine wp_seq_k fun K300 hK300 => ?_
            refine r_list ?_
            refine wl rfl (ky (v := .int .i64 n3481) hS (y_move hS rfl) rfl rfl fun a hS => ?_)
            refine wl rfl (ky (v := .bool (decide ((0 : Int) < n3481))) hS (y_int hS rfl rfl rfl) rfl rfl fun a hS => ?_)
            refine wpList_nil ?_
            try simp only [Exit.then, Exit.inBlock, ↓reduceIte, Nat.reduceEqDiff]
            refine hK300 _ _ ?_
            rcases bool2 (decide ((0 : Int) < n3481)) with hb3523 | hb3523
            · replace hM := ct hb3523 hM
              refine c_t hS rfl hb3523 ?_
              refine wp_skip ?_
              try simp only [Exit.then, Exit.inBlock, ↓reduceIte, Nat.reduceEqDiff]
              refine hK299 _ _ ?_
              refine wp_seq_k fun K301 hK301 => ?_
              refine wp_block ?_
              refine draws [(3, .blk (some b1)), (8, .blk (some b1)), (11, .blk (Value.ownBlock v3486)), (13, .blk (some b3350))] hS mixed rfl (fun c a d v w h => by cases d <;> exact h) fun w hQ hS => ?_
              refine dy 0 (v := .pointer (some ⟨b3350, 0 + 3, none⟩)) rfl (by kernel_rfl) (by kernel_rfl) (by kernel_rfl) rfl hQ hS (y_fld hS rfl fl34_2) rfl rfl rfl fun a hS => ?_
              refine dy (l := [.blk (some b1), .blk (some b1)]) 1 (v := v3486) rfl (by kernel_rfl) (by kernel_rfl) (by kernel_rfl) (by kernel_rfl) hQ hS (y_load hS rfl ty23 3 rfl (eo_ne hS 3 rfl rfl 1 rfl rfl (by decide) (eo_ne hS 3 rfl rfl 1 rfl rfl (by decide) eo_nil)) (us := [v3486]) rfl rfl (fun _ => rfl)) rfl rfl rfl fun a hS => ?_
              refine dy 2 (v := .pointer (some ⟨b1, 0, none⟩)) rfl (by kernel_rfl) (by kernel_rfl) (by kernel_rfl) rfl hQ hS (y_move hS rfl) rfl rfl rfl fun a hS => ?_
              refine dy 6 (v := .pointer (some ⟨b1, 0, none⟩)) rfl (by kernel_rfl) (by kernel_rfl) (by kernel_rfl) rfl hQ hS (y_move hS rfl) rfl rfl rfl fun a hS => ?_
              obtain ⟨u3536, hu3536, hM⟩ := bd hM
              refine wpE_two (i := 3) (j := 7) rfl rfl (by kernel_rfl) rfl rfl ?_ ?_
              · skip
                skip
                refine id (k_callm hS ci22 rfl rfl 1 rfl (dice_Next_c _ _ (hS.drop 1).dlt (DiceD.mk d3482 d3484) 6 _ _ (hS.boxRow 1 rfl) (hS.notin 1 rfl) (SlR.lent (i := 1) rfl (hS.get 1 rfl)) _ hu3536) fun _ w hR hk => ?_)
                obtain ⟨vz3537_3, he, hrow, hRvz3537_3⟩ := hR
                replace he := he.symm
                subst he
                refine ⟨[vz3537_3, .int .i64 u3536.2.At], hrow, fun a hS => ⟨stM rfl hk etBox, ?_⟩⟩
                replace hS := hS.fact (SlF (Rep.int .i64) vz3537_3 u3536.2.L) (SlR.back (i := 1) rfl hRvz3537_3)
                refine dy 4 (v := .int .i64 (IntKind.i64.wrap (Int.tdiv u3536.1 5))) rfl (by kernel_rfl) (by kernel_rfl) (by kernel_rfl) rfl hQ hS (y_quo hS rfl rfl (by decide)) rfl rfl rfl fun a hS => ?_
                refine dy 5 (v := .int .i64 (IntKind.i64.wrap (32 - (IntKind.i64.wrap (Int.tdiv u3536.1 5))))) rfl (by kernel_rfl) (by kernel_rfl) (by kernel_rfl) rfl hQ hS (y_int hS rfl rfl rfl) rfl rfl rfl fun a hS => ?_
                refine wpE_one (i := 7) rfl (by kernel_rfl) rfl (k_bslice (ps := [(0, .const (.string ⟨#[48]⟩)), (1, .const (.string ⟨#[49]⟩)), (2, .const (.string ⟨#[50]⟩)), (3, .const (.string ⟨#[51]⟩)), (4, .const (.string ⟨#[52]⟩))]) hS el70 ze9 (zl := [.string (ByteArray.mk #[]), .string (ByteArray.mk #[]), .string (ByteArray.mk #[]), .string (ByteArray.mk #[]), .string (ByteArray.mk #[])]) (by kernel_rfl) rfl (us := [[.string (ByteArray.mk #[48])], [.string (ByteArray.mk #[49])], [.string (ByteArray.mk #[50])], [.string (ByteArray.mk #[51])], [.string (ByteArray.mk #[52])]]) ⟨rfl, ⟨rfl, ⟨rfl, ⟨rfl, ⟨rfl, trivial⟩⟩⟩⟩⟩ (ws := [.string (ByteArray.mk #[48]), .string (ByteArray.mk #[49]), .string (ByteArray.mk #[50]), .string (ByteArray.mk #[51]), .string (ByteArray.mk #[52])]) rfl rfl rfl rfl fun b3538 a w hk hS => ⟨stN (hk), ?_⟩)
                replace hS := hS.lit (R := Rep.str) (us := [.string (ByteArray.mk #[48]), .string (ByteArray.mk #[49]), .string (ByteArray.mk #[50]), .string (ByteArray.mk #[51]), .string (ByteArray.mk #[52])]) (xs := [(ByteArray.mk #[48]), (ByteArray.mk #[49]), (ByteArray.mk #[50]), (ByteArray.mk #[51]), (ByteArray.mk #[52])]) 0 rfl (by decide) ((RowsOk.one_ (R := Rep.str) (x := (ByteArray.mk #[48])) rfl).append ((RowsOk.one_ (R := Rep.str) (x := (ByteArray.mk #[49])) rfl).append ((RowsOk.one_ (R := Rep.str) (x := (ByteArray.mk #[50])) rfl).append ((RowsOk.one_ (R := Rep.str) (x := (ByteArray.mk #[51])) rfl).append (RowsOk.one_ (R := Rep.str) (x := (ByteArray.mk #[52])) rfl))))) rfl rfl
                replace hS := hS.freeze (R := Rep.str) 0 rfl 0 rfl
                obtain ⟨u3540, hu3540, hM⟩ := bd hM
                refine wpE_one (i := 8) rfl (by kernel_rfl) rfl (k_callm hS ci23 rfl rfl 1 rfl (dice_Word_c _ _ (hS.drop 1).dlt (DiceD.mk u3536.2.L u3536.2.At) ([(ByteArray.mk #[48]), (ByteArray.mk #[49]), (ByteArray.mk #[50]), (ByteArray.mk #[51]), (ByteArray.mk #[52])]) _ _ _ (hS.boxRow 1 rfl) (hS.notin 1 rfl) (SlR.lent (i := 1) rfl (hS.get 2 rfl)) (SlR.lent (i := 1) rfl (hS.get 0 rfl)) _ hu3540) fun _ w hR hk => ?_)
                obtain ⟨vz3541_4, he, hrow, hRvz3541_4⟩ := hR
                replace he := he.symm
                subst he
                refine ⟨[vz3541_4, .int .i64 u3540.2.At], hrow, fun a hS => ⟨stM rfl hk etBox, ?_⟩⟩
                replace hS := hS.fact (SlF (Rep.int .i64) vz3541_4 u3540.2.L) (SlR.back (i := 1) rfl hRvz3541_4)
                refine dy 9 (v := .agg #[.int .i64 (IntKind.i64.wrap (32 - (IntKind.i64.wrap (Int.tdiv u3536.1 5)))), .string u3540.1]) rfl (by kernel_rfl) (by kernel_rfl) (by kernel_rfl) rfl hQ hS (y_build (ps := [(0, .tmp 48), (1, .tmp 51)]) hS pl32 ze32 rfl (us := [[.int .i64 (IntKind.i64.wrap (32 - (IntKind.i64.wrap (Int.tdiv u3536.1 5))))], [.string u3540.1]]) ⟨rfl, ⟨rfl, trivial⟩⟩ (ws := [.int .i64 (IntKind.i64.wrap (32 - (IntKind.i64.wrap (Int.tdiv u3536.1 5)))), .string u3540.1]) rfl) rfl rfl rfl fun a hS => ?_
                refine wpE_one (i := 10) rfl (by kernel_rfl) rfl (k_bslice (ps := [(0, .tmp 52)]) hS el23 ze32 (zl := [.int .i64 0, .string (ByteArray.mk #[])]) (by kernel_rfl) rfl (us := [[.int .i64 (IntKind.i64.wrap (32 - (IntKind.i64.wrap (Int.tdiv u3536.1 5)))), .string u3540.1]]) ⟨rfl, trivial⟩ (ws := [.int .i64 (IntKind.i64.wrap (32 - (IntKind.i64.wrap (Int.tdiv u3536.1 5)))), .string u3540.1]) rfl rfl rfl rfl fun b3542 a w hk hS => ⟨stN (hk), ?_⟩)
                replace hS := hS.lit (R := R_KeyD) (us := [.int .i64 (IntKind.i64.wrap (32 - (IntKind.i64.wrap (Int.tdiv u3536.1 5)))), .string u3540.1]) (xs := [(KeyD.mk (IntKind.i64.wrap (32 - (IntKind.i64.wrap (Int.tdiv u3536.1 5)))) u3540.1)]) 0 rfl (by decide) (RowsOk.one_ (R := R_KeyD) (x := (KeyD.mk (IntKind.i64.wrap (32 - (IntKind.i64.wrap (Int.tdiv u3536.1 5)))) u3540.1)) rfl) rfl rfl
                replace hS := hS.freeze (R := R_KeyD) 0 rfl 0 rfl
                obtain ⟨hg3544, hM⟩ := gd_some hM
                refine wpE_one (i := 11) rfl (by kernel_rfl) rfl (k_apps (R := R_KeyD) (xs := r3485) (ys := [(KeyD.mk (IntKind.i64.wrap (32 - (IntKind.i64.wrap (Int.tdiv u3536.1 5)))) u3540.1)]) hS el23 (by decide) (by decide) rfl rfl 2 rfl 8 rfl 0 rfl hg3544 rfl fun v3545 cl3546 a w hk hS => ⟨stM rfl hk etOwn, ?_⟩)
                refine dy 12 (v := .pointer (some ⟨b3350, 0 + 3, none⟩)) rfl (by kernel_rfl) (by kernel_rfl) (by kernel_rfl) rfl hQ hS (y_fld hS rfl fl34_2) rfl rfl rfl fun a hS => ?_
                refine wpE_one (i := 13) rfl (by kernel_rfl) rfl (k_store hS rfl rfl (us := [v3545]) (cells1 (own_one (hS.own _ (List.mem_of_getElem? (i := 2) rfl)).1)) ty23 3 rfl rfl rfl (oc (own_one (hS.own _ (List.mem_of_getElem? (i := 2) rfl)).1) on) fun w hk hS => ⟨stM rfl hk etBox, ?_⟩)
                refine wpE_done (by kernel_rfl) ?_ _
                try simp only [Exit.then, Exit.inBlock, ↓reduceIte, Nat.reduceEqDiff]
                refine hK301 _ _ ?_
                refine r_list ?_
                refine wl rfl (ky (v := .int .i64 n3481) hS (y_move hS rfl) rfl rfl fun a hS => ?_)
                refine wl rfl (ky (v := .int .i64 (IntKind.i64.wrap (n3481 - 1))) hS (y_int hS rfl rfl rfl) rfl rfl fun a hS => ?_)
                refine wl rfl (ky (v := .int .i64 (IntKind.i64.wrap (n3481 - 1))) hS (y_assign hS rfl) rfl rfl fun a hS => ?_)
                refine wpList_nil ?_
                try simp only [Exit.then, Exit.inBlock, ↓reduceIte, Nat.reduceEqDiff]
                exact ⟨(IntKind.i64.wrap (n3481 - 1), u3540.2.L, u3540.2.At, (r3485 ++ ([(KeyD.mk (IntKind.i64.wrap (32 - (IntKind.i64.wrap (Int.tdiv u3536.1 5)))) u3540.1)]))), (Option.some.inj hM).symm, (IntKind.i64.wrap (n3481 - 1)), u3540.2.L, u3540.2.At, (r3485 ++ ([(KeyD.mk (IntKind.i64.wrap (32 - (IntKind.i64.wrap (Int.tdiv u3536.1 5)))) u3540.1)])), v3545, cl3546, vz3541_4, rfl, (hS.meet [0, 1, 2, 3] (by decide) ⟨rfl, rfl, rfl, rfl, rfl, trivial⟩ ⟨rfl, rfl, rfl, rfl, trivial⟩ ⟨⟨7, rfl⟩, ⟨3, rfl⟩, ⟨0, rfl⟩, ⟨10, rfl⟩, trivial⟩)⟩
              · skip
                skip
                refine id (k_bslice (ps := [(0, .const (.string ⟨#[48]⟩)), (1, .const (.string ⟨#[49]⟩)), (2, .const (.string ⟨#[50]⟩)), (3, .const (.string ⟨#[51]⟩)), (4, .const (.string ⟨#[52]⟩))]) hS el70 ze9 (zl := [.string (ByteArray.mk #[]), .string (ByteArray.mk #[]), .string (ByteArray.mk #[]), .string (ByteArray.mk #[]), .string (ByteArray.mk #[])]) (by kernel_rfl) rfl (us := [[.string (ByteArray.mk #[48])], [.string (ByteArray.mk #[49])], [.string (ByteArray.mk #[50])], [.string (ByteArray.mk #[51])], [.string (ByteArray.mk #[52])]]) ⟨rfl, ⟨rfl, ⟨rfl, ⟨rfl, ⟨rfl, trivial⟩⟩⟩⟩⟩ (ws := [.string (ByteArray.mk #[48]), .string (ByteArray.mk #[49]), .string (ByteArray.mk #[50]), .string (ByteArray.mk #[51]), .string (ByteArray.mk #[52])]) rfl rfl rfl rfl fun b3537 a w hk hS => ⟨stN (hk), ?_⟩)
                refine wpE_one (i := 3) rfl (by kernel_rfl) rfl (k_callm hS ci22 rfl rfl 2 rfl (dice_Next_c _ _ (hS.drop 2).dlt (DiceD.mk d3482 d3484) 6 _ _ (hS.boxRow 2 rfl) (hS.notin 2 rfl) (SlR.lent (i := 2) rfl (hS.get 1 rfl)) _ hu3536) fun _ w hR hk => ?_)
                obtain ⟨vz3539_3, he, hrow, hRvz3539_3⟩ := hR
                replace he := he.symm
                subst he
                refine ⟨[vz3539_3, .int .i64 u3536.2.At], hrow, fun a hS => ⟨stM rfl hk etBox, ?_⟩⟩
                replace hS := hS.fact (SlF (Rep.int .i64) vz3539_3 u3536.2.L) (SlR.back (i := 2) rfl hRvz3539_3)
                refine dy 4 (v := .int .i64 (IntKind.i64.wrap (Int.tdiv u3536.1 5))) rfl (by kernel_rfl) (by kernel_rfl) (by kernel_rfl) rfl hQ hS (y_quo hS rfl rfl (by decide)) rfl rfl rfl fun a hS => ?_
                refine dy 5 (v := .int .i64 (IntKind.i64.wrap (32 - (IntKind.i64.wrap (Int.tdiv u3536.1 5))))) rfl (by kernel_rfl) (by kernel_rfl) (by kernel_rfl) rfl hQ hS (y_int hS rfl rfl rfl) rfl rfl rfl fun a hS => ?_
                replace hS := hS.lit (R := Rep.str) (us := [.string (ByteArray.mk #[48]), .string (ByteArray.mk #[49]), .string (ByteArray.mk #[50]), .string (ByteArray.mk #[51]), .string (ByteArray.mk #[52])]) (xs := [(ByteArray.mk #[48]), (ByteArray.mk #[49]), (ByteArray.mk #[50]), (ByteArray.mk #[51]), (ByteArray.mk #[52])]) 0 rfl (by decide) ((RowsOk.one_ (R := Rep.str) (x := (ByteArray.mk #[48])) rfl).append ((RowsOk.one_ (R := Rep.str) (x := (ByteArray.mk #[49])) rfl).append ((RowsOk.one_ (R := Rep.str) (x := (ByteArray.mk #[50])) rfl).append ((RowsOk.one_ (R := Rep.str) (x := (ByteArray.mk #[51])) rfl).append (RowsOk.one_ (R := Rep.str) (x := (ByteArray.mk #[52])) rfl))))) rfl rfl
                replace hS := hS.freeze (R := Rep.str) 0 rfl 0 rfl
                obtain ⟨u3540, hu3540, hM⟩ := bd hM
                refine wpE_one (i := 8) rfl (by kernel_rfl) rfl (k_callm hS ci23 rfl rfl 1 rfl (dice_Word_c _ _ (hS.drop 1).dlt (DiceD.mk u3536.2.L u3536.2.At) ([(ByteArray.mk #[48]), (ByteArray.mk #[49]), (ByteArray.mk #[50]), (ByteArray.mk #[51]), (ByteArray.mk #[52])]) _ _ _ (hS.boxRow 1 rfl) (hS.notin 1 rfl) (SlR.lent (i := 1) rfl (hS.get 2 rfl)) (SlR.lent (i := 1) rfl (hS.get 0 rfl)) _ hu3540) fun _ w hR hk => ?_)
                obtain ⟨vz3541_4, he, hrow, hRvz3541_4⟩ := hR
                replace he := he.symm
                subst he
                refine ⟨[vz3541_4, .int .i64 u3540.2.At], hrow, fun a hS => ⟨stM rfl hk etBox, ?_⟩⟩
                replace hS := hS.fact (SlF (Rep.int .i64) vz3541_4 u3540.2.L) (SlR.back (i := 1) rfl hRvz3541_4)
                refine dy 9 (v := .agg #[.int .i64 (IntKind.i64.wrap (32 - (IntKind.i64.wrap (Int.tdiv u3536.1 5)))), .string u3540.1]) rfl (by kernel_rfl) (by kernel_rfl) (by kernel_rfl) rfl hQ hS (y_build (ps := [(0, .tmp 48), (1, .tmp 51)]) hS pl32 ze32 rfl (us := [[.int .i64 (IntKind.i64.wrap (32 - (IntKind.i64.wrap (Int.tdiv u3536.1 5))))], [.string u3540.1]]) ⟨rfl, ⟨rfl, trivial⟩⟩ (ws := [.int .i64 (IntKind.i64.wrap (32 - (IntKind.i64.wrap (Int.tdiv u3536.1 5)))), .string u3540.1]) rfl) rfl rfl rfl fun a hS => ?_
                refine wpE_one (i := 10) rfl (by kernel_rfl) rfl (k_bslice (ps := [(0, .tmp 52)]) hS el23 ze32 (zl := [.int .i64 0, .string (ByteArray.mk #[])]) (by kernel_rfl) rfl (us := [[.int .i64 (IntKind.i64.wrap (32 - (IntKind.i64.wrap (Int.tdiv u3536.1 5)))), .string u3540.1]]) ⟨rfl, trivial⟩ (ws := [.int .i64 (IntKind.i64.wrap (32 - (IntKind.i64.wrap (Int.tdiv u3536.1 5)))), .string u3540.1]) rfl rfl rfl rfl fun b3542 a w hk hS => ⟨stN (hk), ?_⟩)
                replace hS := hS.lit (R := R_KeyD) (us := [.int .i64 (IntKind.i64.wrap (32 - (IntKind.i64.wrap (Int.tdiv u3536.1 5)))), .string u3540.1]) (xs := [(KeyD.mk (IntKind.i64.wrap (32 - (IntKind.i64.wrap (Int.tdiv u3536.1 5)))) u3540.1)]) 0 rfl (by decide) (RowsOk.one_ (R := R_KeyD) (x := (KeyD.mk (IntKind.i64.wrap (32 - (IntKind.i64.wrap (Int.tdiv u3536.1 5)))) u3540.1)) rfl) rfl rfl
                replace hS := hS.freeze (R := R_KeyD) 0 rfl 0 rfl
                obtain ⟨hg3544, hM⟩ := gd_some hM
                refine wpE_one (i := 11) rfl (by kernel_rfl) rfl (k_apps (R := R_KeyD) (xs := r3485) (ys := [(KeyD.mk (IntKind.i64.wrap (32 - (IntKind.i64.wrap (Int.tdiv u3536.1 5)))) u3540.1)]) hS el23 (by decide) (by decide) rfl rfl 2 rfl 8 rfl 0 rfl hg3544 rfl fun v3545 cl3546 a w hk hS => ⟨stM rfl hk etOwn, ?_⟩)
                refine dy 12 (v := .pointer (some ⟨b3350, 0 + 3, none⟩)) rfl (by kernel_rfl) (by kernel_rfl) (by kernel_rfl) rfl hQ hS (y_fld hS rfl fl34_2) rfl rfl rfl fun a hS => ?_
                refine wpE_one (i := 13) rfl (by kernel_rfl) rfl (k_store hS rfl rfl (us := [v3545]) (cells1 (own_one (hS.own _ (List.mem_of_getElem? (i := 2) rfl)).1)) ty23 3 rfl rfl rfl (oc (own_one (hS.own _ (List.mem_of_getElem? (i := 2) rfl)).1) on) fun w hk hS => ⟨stM rfl hk etBox, ?_⟩)
                refine wpE_done (by kernel_rfl) ?_ _
                try simp only [Exit.then, Exit.inBlock, ↓reduceIte, Nat.reduceEqDiff]
                refine hK301 _ _ ?_
                refine r_list ?_
                refine wl rfl (ky (v := .int .i64 n3481) hS (y_move hS rfl) rfl rfl fun a hS => ?_)
                refine wl rfl (ky (v := .int .i64 (IntKind.i64.wrap (n3481 - 1))) hS (y_int hS rfl rfl rfl) rfl rfl fun a hS => ?_)
                refine wl rfl (ky (v := .int .i64 (IntKind.i64.wrap (n3481 - 1))) hS (y_assign hS rfl) rfl rfl fun a hS => ?_)
                refine wpList_nil ?_
                try simp only [Exit.then, Exit.inBlock, ↓reduceIte, Nat.reduceEqDiff]
                exact ⟨(IntKind.i64.wrap (n3481 - 1), u3540.2.L, u3540.2.At, (r3485 ++ ([(KeyD.mk (IntKind.i64.wrap (32 - (IntKind.i64.wrap (Int.tdiv u3536.1 5)))) u3540.1)]))), (Option.some.inj hM).symm, (IntKind.i64.wrap (n3481 - 1)), u3540.2.L, u3540.2.At, (r3485 ++ ([(KeyD.mk (IntKind.i64.wrap (32 - (IntKind.i64.wrap (Int.tdiv u3536.1 5)))) u3540.1)])), v3545, cl3546, vz3541_4, rfl, (hS.meet [0, 1, 2, 3] (by decide) ⟨rfl, rfl, rfl, rfl, rfl, trivial⟩ ⟨rfl, rfl, rfl, rfl, trivial⟩ ⟨⟨7, rfl⟩, ⟨3, rfl⟩, ⟨0, rfl⟩, ⟨10, rfl⟩, trivial⟩)⟩
            · replace hM := cf hb3523 hM
              refine c_f hS rfl hb3523 ?_
              refine wp_exit ?_
              try simp only [Exit.then, Exit.inBlock, ↓reduceIte, Nat.reduceEqDiff]
              injection hM with hM
              subst hM
              have hr := hf2 _ rfl
              subst hr
              have hM : law29_records_j3 l2758 k2762 u3340 u3344 u3346 r3355 d3482 d3484 r3485 = some f1 := hMo2
              exact ⟨d3482, d3484, r3485, v3486, cl3487, v3483, (hS.meet [0, 1, 2, 3] (by decide) ⟨rfl, rfl, rfl, rfl, trivial⟩ ⟨rfl, rfl, rfl, rfl, trivial⟩ ⟨⟨0, rfl⟩, ⟨1, rfl⟩, ⟨2, rfl⟩, ⟨3, rfl⟩, trivial⟩), hM⟩
          · rintro a w ⟨d3434, d3436, r3437, v3438, cl3439, v3435, hS, hM⟩
            unfold law29_records_j3 at hM
            refine r_list ?_
            refine wl rfl (ky (v := v2759) hS (y_move hS rfl) rfl rfl fun a hS => ?_)
            refine wl rfl (ky (v := .agg #[.int .i64 (IntKind.i64.wrap (32 - (IntKind.i64.wrap (Int.tdiv u3340.1 4)))), .string u3344.1, .string (ByteArray.mk #[]), v3438, .int .i64 0, .int .i64 u3346.1, .int .i64 1, .bool r3355]) hS (y_load hS rfl ty34 3 rfl id (us := [.int .i64 (IntKind.i64.wrap (32 - (IntKind.i64.wrap (Int.tdiv u3340.1 4)))), .string u3344.1, .string (ByteArray.mk #[]), v3438, .int .i64 0, .int .i64 u3346.1, .int .i64 1, .bool r3355]) rfl rfl (fun h => by cases h)) rfl rfl fun a hS => ?_)
            replace hS := hS.freeze (R := R_RecordD) 0 rfl 0 rfl
            replace hS := hS.freeze (R := R_KeyD) 1 rfl 3 rfl
            obtain ⟨u3441, hu3441, hM⟩ := bd hM
            refine wl rfl (k_call hS ci21 rfl rfl (ref26_Put_c _ _ hS.dlt (hS.get 5 rfl) l2758 (RecordD.mk (KeyD.mk (IntKind.i64.wrap (32 - (IntKind.i64.wrap (Int.tdiv u3340.1 4)))) u3344.1) (ByteArray.mk #[]) r3437 0 u3346.1 1 r3355) _ _ (hS.get 1 rfl) (hS.get 0 rfl) _ hu3441) fun _ w hR a hk hA => ?_)
            obtain ⟨vz3442_3, clz3442_4, he, ⟨hOvz3442_3, hFvz3442_3, hRvz3442_3⟩⟩ := hR
            replace he := he.symm
            subst he
            have hS := hA [.own vz3442_3 34 R_RecordD.size clz3442_4] (adds1 ⟨hOvz3442_3, by decide⟩ hFvz3442_3) (pw1 _)
            replace hS := hS.fact (RowsF R_RecordD clz3442_4 u3441) (hRvz3442_3.keep (Kt.refl _ _) (dT_dT _))
            refine wl rfl (ky (v := vz3442_3) hS (y_assign hS rfl) rfl rfl fun a hS => ?_)
            refine wpList_nil ?_
            try simp only [Exit.then, Exit.inBlock, ↓reduceIte, Nat.reduceEqDiff]
            exact ⟨u3441, d3434, d3436, vz3442_3, clz3442_4, v3435, (hS.meet [0, 1] (by decide) ⟨rfl, rfl, rfl, trivial⟩ ⟨rfl, rfl, trivial⟩ ⟨⟨0, rfl⟩, ⟨4, rfl⟩, ⟨6, rfl⟩, trivial⟩), hM⟩
      · rintro a w ⟨l3333, d3337, d3339, v3334, cl3335, v3338, hS, hM⟩
        unfold law29_records_j2 at hM
        refine r_list ?_
        refine wl rfl (ky (v := .int .i64 k2762) hS (y_move hS rfl) rfl rfl fun a hS => ?_)
        refine wl rfl (ky (v := .int .i64 (IntKind.i64.wrap (k2762 - 1))) hS (y_int hS rfl rfl rfl) rfl rfl fun a hS => ?_)
        refine wl rfl (ky (v := .int .i64 (IntKind.i64.wrap (k2762 - 1))) hS (y_assign hS rfl) rfl rfl fun a hS => ?_)
        refine wpList_nil ?_
        try simp only [Exit.then, Exit.inBlock, ↓reduceIte, Nat.reduceEqDiff]
        exact ⟨(l3333, IntKind.i64.wrap (k2762 - 1), d3337, d3339), (Option.some.inj hM).symm, l3333, (IntKind.i64.wrap (k2762 - 1)), d3337, d3339, v3334, cl3335, v3338, rfl, (hS.meet [0, 1] (by decide) ⟨rfl, rfl, rfl, trivial⟩ ⟨rfl, rfl, trivial⟩ ⟨⟨0, rfl⟩, ⟨1, rfl⟩, ⟨2, rfl⟩, trivial⟩)⟩
    · replace hM := cf hb3149 hM
      refine c_f hS rfl hb3149 ?_
      refine wp_exit ?_
      try simp only [Exit.then, Exit.inBlock, ↓reduceIte, Nat.reduceEqDiff]
      injection hM with hM
      subst hM
      have hr := hf1 _ rfl
      subst hr
      have hM : law29_records_j1 l2758 d2763 d2765 = some y := hMo1
      exact ⟨l2758, d2763, d2765, v2759, cl2760, v2764, (hS.meet [0, 1] (by decide) ⟨rfl, trivial⟩ ⟨rfl, rfl, trivial⟩ ⟨⟨0, rfl⟩, ⟨1, rfl⟩, ⟨2, rfl⟩, trivial⟩), hM⟩
  · rintro a w ⟨l2367, d2371, d2373, v2368, cl2369, v2372, hS, hM⟩
    unfold law29_records_j1 at hM
    refine wp_seq_k fun K201 hK201 => ?_
    refine r_list ?_
    refine wl rfl (ky (v := v2368) hS (y_move hS rfl) rfl rfl fun a hS => ?_)
    refine wl rfl (ky (v := v2368) hS (y_assign hS rfl) rfl rfl fun a hS => ?_)
    refine wpList_nil ?_
    try simp only [Exit.then, Exit.inBlock, ↓reduceIte, Nat.reduceEqDiff]
    refine hK201 _ _ ?_
    refine wp_ret ?_
    injection hM with hM
    subst hM
    try simp only [Exit.then, Exit.inBlock, ↓reduceIte, Nat.reduceEqDiff]
    refine ret_ok hS Tryd.results10 (res_tmp hS rfl res_nil) ?_
    exact ⟨v2368, cl2369, v2372, rfl, hS.retOwnm ⟨.inr (List.mem_of_getElem? (i := 0) rfl), ⟨.inr (List.mem_of_getElem? (i := 1) rfl), trivial⟩⟩ 0 rfl 0 rfl 1 rfl (by decide), hS.boxRow 1 rfl, (SlR.up ⟨.inr (List.mem_of_getElem? (i := 0) rfl), ⟨.inr (List.mem_of_getElem? (i := 1) rfl), trivial⟩⟩ (hS.get 1 rfl))⟩

noncomputable def ref26_Find_j1 : Option (RecordD × Bool) := some (((RecordD.mk (KeyD.mk 0 (ByteArray.mk #[])) (ByteArray.mk #[]) ([]) 0 0 0 false), false))
noncomputable def ref26_Find_l2 (l_0 : (List RecordD)) (k_1 : KeyD) (g124 : Int) : Option (Fl (Int) (Fl (Unit) (RecordD × Bool))) := cond (decide ((g124 : Int) < (l_0.length : Int))) ((getI l_0 g124).bind fun e142 => cond ((e142.Key.Kind : Int) == k_1.Kind && e142.Key.Text.toList == k_1.Text.toList) ((ref26_CopyOne e142).bind fun u153 => some (.out (.out (u153, true)))) (some (.go (IntKind.i64.wrap (g124 + 1))))) (some (.out (.go ())))
noncomputable def ref26_Find (l_0 : (List RecordD)) (k_1 : KeyD) : Option (RecordD × Bool) := (loop (fun s : Int => ref26_Find_l2 l_0 k_1 s) 0).bind fun r => Fl.el r (fun s => ref26_Find_j1) (fun y => some (y))
set_option maxRecDepth 100000 in
set_option maxHeartbeats 4000000 in
theorem ref26_Find_c (T : Nat → Prop) (W0 : World) (hT : ∀ k, T k → k < W0.heap.size) (l_0 : (List RecordD)) (k_1 : KeyD) (v1 : Value) (hv1 : SlR R_RecordD T W0 v1 l_0) (y : RecordD × Bool) (hM : ref26_Find l_0 k_1 = some y) : Rets Tryd.prog No 20 [v1, .agg #[.int .i64 k_1.Kind, .string k_1.Text]] W0 (fun v w' => ∃ (v2 : Value) (cl3 : List Value), v = .tuple #[.agg #[.int .i64 y.1.Key.Kind, .string y.1.Key.Text, .string y.1.Value, v2, .int .i64 y.1.Changed, .int .i64 y.1.Verified, .int .i64 y.1.Cost, .bool y.1.Dirty], .bool y.2] ∧ OwnR R_KeyD T W0 w' [.own v2 32 R_KeyD.size cl3] 32 v2 cl3 y.1.Reads) := by
  refine enter (c := _) Tryd.func20 rfl T 22 Tryd.ntmps20 hT rfl fun a hS => ?_
  replace hS := hS.fact (SlF R_RecordD v1 l_0) (SlR.dn hv1)
  unfold ref26_Find at hM
  refine wp_seq_k fun K17 hK17 => ?_
  refine r_list ?_
  refine wl rfl (k_box hS rfl (cs := [.int .i64 k_1.Kind, .string k_1.Text]) rfl rfl fun b69 hnb71 a w hk hS => ?_)
  refine wl rfl (k_alloc hS ze34 rfl fun b72 hnb74 a w hk hS => ?_)
  refine wl rfl (ky (v := .bool false) hS (y_assign hS rfl) rfl rfl fun a hS => ?_)
  refine wpList_nil ?_
  try simp only [Exit.then, Exit.inBlock, ↓reduceIte, Nat.reduceEqDiff]
  refine hK17 _ _ ?_
  refine seq_j (J := fun a w => St W0 No T 22 [(4, .pointer (some ⟨b72, 0, none⟩))] [.box b72 [.int .i64 0, .string (ByteArray.mk #[]), .string (ByteArray.mk #[]), .slice none 0 0, .int .i64 0, .int .i64 0, .int .i64 0, .bool false] 34] [] a w ∧ ref26_Find_j1 = some y) ?_ ?_
  · skip
    refine wp_seq_k fun K32 hK32 => ?_
    refine r_list ?_
    refine wl rfl (ky (v := v1) hS (y_move hS rfl) rfl rfl fun a hS => ?_)
    refine wl rfl (ky (v := .int .i64 (l_0.length : Int)) hS (y_len (R := R_RecordD) (xs := l_0) hS sl28 rfl 0 rfl) rfl rfl fun a hS => ?_)
    refine wl rfl (ky (v := .int .i64 0) hS (y_move hS rfl) rfl rfl fun a hS => ?_)
    refine wpList_nil ?_
    try simp only [Exit.then, Exit.inBlock, ↓reduceIte, Nat.reduceEqDiff]
    refine hK32 _ _ ?_
    refine wp_block ?_
    obtain ⟨r1, hl1, hMo1⟩ := bd hM
    refine wp_lp (fun s : Int => ref26_Find_l2 l_0 k_1 s) (fun s a w => ∃ (g124 : Int), g124 = s ∧ St W0 No T 22 [(3, .pointer (some ⟨b69, 0, none⟩)), (4, .pointer (some ⟨b72, 0, none⟩)), (8, v1), (9, .int .i64 (l_0.length : Int)), (10, .int .i64 g124)] [.box b69 [.int .i64 k_1.Kind, .string k_1.Text] 32, .box b72 [.int .i64 0, .string (ByteArray.mk #[]), .string (ByteArray.mk #[]), .slice none 0 0, .int .i64 0, .int .i64 0, .int .i64 0, .bool false] 34] [SlF R_RecordD v1 l_0] a w) hl1 ⟨0, rfl, (hS.meet [1, 0] (by decide) ⟨rfl, rfl, rfl, rfl, rfl, trivial⟩ ⟨rfl, rfl, trivial⟩ ⟨⟨0, rfl⟩, trivial⟩)⟩ ?_
    rintro s a w f1 ⟨g124, rfl, hS⟩ hM hf1
    have hM : ref26_Find_l2 l_0 k_1 g124 = some f1 := hM
    unfold ref26_Find_l2 at hM
    refine wp_seq_k fun K45 hK45 => ?_
    refine r_list ?_
    refine wl rfl (ky (v := .bool (decide ((g124 : Int) < (l_0.length : Int)))) hS (y_int hS rfl rfl rfl) rfl rfl fun a hS => ?_)
    refine wpList_nil ?_
    try simp only [Exit.then, Exit.inBlock, ↓reduceIte, Nat.reduceEqDiff]
    refine hK45 _ _ ?_
    refine wp_seq_k fun K46 hK46 => ?_
    rcases bool2 (decide ((g124 : Int) < (l_0.length : Int))) with hb141 | hb141
    · replace hM := ct hb141 hM
      refine c_t hS rfl hb141 ?_
      refine wp_skip ?_
      try simp only [Exit.then, Exit.inBlock, ↓reduceIte, Nat.reduceEqDiff]
      refine hK46 _ _ ?_
      refine wp_seq_k fun K47 hK47 => ?_
      refine wp_block ?_
      refine wp_seq_k fun K48 hK48 => ?_
      refine r_list ?_
      obtain ⟨e142, he142, hM⟩ := bd hM
      refine wl rfl (k_index (R := R_RecordD) hS sl28 ty34 rfl rfl 0 rfl he142 rfl fun b144 o145 cs147 hr146 a hS => ?_)
      obtain ⟨v143, rfl, hv143⟩ := hr146
      replace hS := hS.fact (SlF R_KeyD v143 e142.Reads) hv143
      refine wl rfl (ky (v := .agg #[.int .i64 e142.Key.Kind, .string e142.Key.Text, .string e142.Value, v143, .int .i64 e142.Changed, .int .i64 e142.Verified, .int .i64 e142.Cost, .bool e142.Dirty]) hS (y_loadc (k := 0) hS ty34 1 rfl rfl (fun _ h => h.elim) (us := [.int .i64 e142.Key.Kind, .string e142.Key.Text, .string e142.Value, v143, .int .i64 e142.Changed, .int .i64 e142.Verified, .int .i64 e142.Cost, .bool e142.Dirty]) rfl rfl (fun h => by cases h)) rfl rfl fun a hS => ?_)
      refine wl rfl (k_alloc hS ze34 rfl fun b149 hnb151 a w hk hS => ?_)
      refine wl rfl (k_store hS rfl rfl (us := [.int .i64 e142.Key.Kind, .string e142.Key.Text, .string e142.Value, v143, .int .i64 e142.Changed, .int .i64 e142.Verified, .int .i64 e142.Cost, .bool e142.Dirty]) rfl ty34 0 rfl rfl rfl (oc rfl (oc rfl (oc rfl (oc (SlR.one ((hS.get 0 rfl) : SlR R_KeyD _ _ _ _)) (oc rfl (oc rfl (oc rfl (oc rfl on)))))))) fun w hk hS => ?_)
      refine wpList_nil ?_
      try simp only [Exit.then, Exit.inBlock, ↓reduceIte, Nat.reduceEqDiff]
      refine hK48 _ _ ?_
      refine wp_seq_k fun K49 hK49 => ?_
      refine r_list ?_
      refine wl rfl (ky (v := .pointer (some ⟨b149, 0 + 0, none⟩)) hS (y_fld hS rfl fl34_0) rfl rfl fun a hS => ?_)
      refine wl rfl (ky (v := .agg #[.int .i64 e142.Key.Kind, .string e142.Key.Text]) hS (y_load hS rfl ty32 0 rfl id (us := [.int .i64 e142.Key.Kind, .string e142.Key.Text]) rfl rfl (fun h => by cases h)) rfl rfl fun a hS => ?_)
      refine wl rfl (ky (v := .agg #[.int .i64 k_1.Kind, .string k_1.Text]) hS (y_load hS rfl ty32 1 rfl id (us := [.int .i64 k_1.Kind, .string k_1.Text]) rfl rfl (fun h => by cases h)) rfl rfl fun a hS => ?_)
      refine wl rfl (ky (v := .bool ((e142.Key.Kind : Int) == k_1.Kind && e142.Key.Text.toList == k_1.Text.toList)) hS (eq32 hS rfl rfl) rfl rfl fun a hS => ?_)
      refine wpList_nil ?_
      try simp only [Exit.then, Exit.inBlock, ↓reduceIte, Nat.reduceEqDiff]
      refine hK49 _ _ ?_
      rcases bool2 ((e142.Key.Kind : Int) == k_1.Kind && e142.Key.Text.toList == k_1.Text.toList) with hb152 | hb152
      · replace hM := ct hb152 hM
        refine c_t hS rfl hb152 ?_
        refine wp_seq_k fun K50 hK50 => ?_
        refine r_list ?_
        refine wl rfl (ky (v := .agg #[.int .i64 e142.Key.Kind, .string e142.Key.Text, .string e142.Value, v143, .int .i64 e142.Changed, .int .i64 e142.Verified, .int .i64 e142.Cost, .bool e142.Dirty]) hS (y_load hS rfl ty34 0 rfl id (us := [.int .i64 e142.Key.Kind, .string e142.Key.Text, .string e142.Value, v143, .int .i64 e142.Changed, .int .i64 e142.Verified, .int .i64 e142.Cost, .bool e142.Dirty]) rfl rfl (fun h => by cases h)) rfl rfl fun a hS => ?_)
        obtain ⟨u153, hu153, hM⟩ := bd hM
        refine wl rfl (k_call hS ci34 rfl rfl (ref26_CopyOne_c _ _ hS.dlt e142 _ (hS.get 0 rfl) _ hu153) fun _ w hR a hk hA => ?_)
        obtain ⟨vz154_2, clz154_3, he, ⟨hOvz154_2, hFvz154_2, hRvz154_2⟩⟩ := hR
        replace he := he.symm
        subst he
        have hS := hA [.own vz154_2 32 R_KeyD.size clz154_3] (adds1 ⟨hOvz154_2, by decide⟩ hFvz154_2) (pw1 _)
        replace hS := hS.fact (RowsF R_KeyD clz154_3 u153.Reads) (hRvz154_2.keep (Kt.refl _ _) (dT_dT _))
        refine wl rfl (k_store hS rfl rfl (us := [.int .i64 u153.Key.Kind, .string u153.Key.Text, .string u153.Value, vz154_2, .int .i64 u153.Changed, .int .i64 u153.Verified, .int .i64 u153.Cost, .bool u153.Dirty]) rfl ty34 3 rfl rfl rfl (oc rfl (oc rfl (oc rfl (oc (own_one (hS.own _ (List.mem_of_getElem? (i := 0) rfl)).1) (oc rfl (oc rfl (oc rfl (oc rfl on)))))))) fun w hk hS => ?_)
        refine wl rfl (ky (v := .bool true) hS (y_assign hS rfl) rfl rfl fun a hS => ?_)
        refine wpList_nil ?_
        try simp only [Exit.then, Exit.inBlock, ↓reduceIte, Nat.reduceEqDiff]
        refine hK50 _ _ ?_
        refine wp_ret ?_
        injection hM with hM
        subst hM
        have hr := hf1 _ rfl
        subst hr
        replace hMo1 := el_out hMo1
        have hM := hMo1
        injection hM with hM
        subst hM
        try simp only [Exit.then, Exit.inBlock, ↓reduceIte, Nat.reduceEqDiff]
        refine ret_ok hS Tryd.results20 (res_cell hS rfl 3 rfl ty34 rfl (fun h => by cases h) (res_tmp hS rfl res_nil)) ?_
        exact ⟨vz154_2, clz154_3, rfl, hS.retOwn ⟨.inr (List.mem_of_getElem? (i := 0) rfl), trivial⟩ 0 rfl 0 rfl⟩
      · replace hM := cf hb152 hM
        refine c_f hS rfl hb152 ?_
        refine wp_skip ?_
        try simp only [Exit.then, Exit.inBlock, ↓reduceIte, Nat.reduceEqDiff]
        refine hK47 _ _ ?_
        refine r_list ?_
        refine wl rfl (ky (v := .int .i64 (IntKind.i64.wrap (g124 + 1))) hS (y_int hS rfl rfl rfl) rfl rfl fun a hS => ?_)
        refine wl rfl (ky (v := .int .i64 (IntKind.i64.wrap (g124 + 1))) hS (y_move hS rfl) rfl rfl fun a hS => ?_)
        refine wpList_nil ?_
        try simp only [Exit.then, Exit.inBlock, ↓reduceIte, Nat.reduceEqDiff]
        exact ⟨IntKind.i64.wrap (g124 + 1), (Option.some.inj hM).symm, (IntKind.i64.wrap (g124 + 1)), rfl, (hS.meet [1, 2] (by decide) ⟨rfl, rfl, rfl, rfl, rfl, trivial⟩ ⟨rfl, rfl, trivial⟩ ⟨⟨2, rfl⟩, trivial⟩)⟩
    · replace hM := cf hb141 hM
      refine c_f hS rfl hb141 ?_
      refine wp_exit ?_
      try simp only [Exit.then, Exit.inBlock, ↓reduceIte, Nat.reduceEqDiff]
      injection hM with hM
      subst hM
      have hr := hf1 _ rfl
      subst hr
      replace hMo1 := el_go hMo1
      have hM : ref26_Find_j1 = some y := hMo1
      exact ⟨(hS.meet [1] (by decide) ⟨rfl, trivial⟩ ⟨rfl, trivial⟩ trivial), hM⟩
  · rintro a w ⟨hS, hM⟩
    unfold ref26_Find_j1 at hM
    refine wp_seq_k fun K31 hK31 => ?_
    refine r_list ?_
    refine wl rfl (ky (v := .agg #[.int .i64 0, .string (ByteArray.mk #[]), .string (ByteArray.mk #[]), .slice none 0 0, .int .i64 0, .int .i64 0, .int .i64 0, .bool false]) hS (y_build (ps := []) hS pl34 ze34 rfl (us := []) trivial (ws := [.int .i64 0, .string (ByteArray.mk #[]), .string (ByteArray.mk #[]), .slice none 0 0, .int .i64 0, .int .i64 0, .int .i64 0, .bool false]) rfl) rfl rfl fun a hS => ?_)
    refine wl rfl (k_store hS rfl rfl (us := [.int .i64 0, .string (ByteArray.mk #[]), .string (ByteArray.mk #[]), .slice none 0 0, .int .i64 0, .int .i64 0, .int .i64 0, .bool false]) rfl ty34 0 rfl rfl rfl (oc rfl (oc rfl (oc rfl (oc rfl (oc rfl (oc rfl (oc rfl (oc rfl on)))))))) fun w hk hS => ?_)
    refine wl rfl (ky (v := .bool false) hS (y_assign hS rfl) rfl rfl fun a hS => ?_)
    refine wpList_nil ?_
    try simp only [Exit.then, Exit.inBlock, ↓reduceIte, Nat.reduceEqDiff]
    refine hK31 _ _ ?_
    refine wp_ret ?_
    injection hM with hM
    subst hM
    try simp only [Exit.then, Exit.inBlock, ↓reduceIte, Nat.reduceEqDiff]
    refine ret_ok hS Tryd.results20 (res_cell hS rfl 0 rfl ty34 rfl (fun h => by cases h) (res_tmp hS rfl res_nil)) ?_
    exact ⟨.slice none 0 0, [], rfl, ret_nil _ _ _ _ _ _⟩

noncomputable def ref22_Cyclic_j1 (g17 : Bool) : Option Bool := some (g17)
noncomputable def ref22_Cyclic (kind_ : Int) : Option Bool := cond ((kind_ : Int) == 7) (ref22_Cyclic_j1 true) (cond ((kind_ : Int) == 14) (ref22_Cyclic_j1 true) (cond ((kind_ : Int) == 17) (ref22_Cyclic_j1 true) (ref22_Cyclic_j1 ((kind_ : Int) == 18))))
set_option maxRecDepth 100000 in
set_option maxHeartbeats 4000000 in
theorem ref22_Cyclic_c (T : Nat → Prop) (W0 : World) (hT : ∀ k, T k → k < W0.heap.size) (kind_ : Int) (y : Bool) (hM : ref22_Cyclic kind_ = some y) : Rets Tryd.prog No 53 [.int .i64 kind_] W0 (fun v w' => v = .bool y) := by
  refine enter (c := _) Tryd.func53 rfl T 17 Tryd.ntmps53 hT rfl fun a hS => ?_
  unfold ref22_Cyclic at hM
  refine wp_seq_k fun K2 hK2 => ?_
  refine r_list ?_
  refine wl rfl (ky (v := .bool false) hS (y_assign hS rfl) rfl rfl fun a hS => ?_)
  refine wpList_nil ?_
  try simp only [Exit.then, Exit.inBlock, ↓reduceIte, Nat.reduceEqDiff]
  refine hK2 _ _ ?_
  refine seq_j (J := fun a w => ∃ (g17 : Bool), St W0 No T 17 [(2, .bool g17)] [] [] a w ∧ ref22_Cyclic_j1 g17 = some y) ?_ ?_
  · skip
    refine r_list ?_
    refine wl rfl (ky (v := .int .i64 kind_) hS (y_move hS rfl) rfl rfl fun a hS => ?_)
    refine wl rfl (ky (v := .bool ((kind_ : Int) == 7)) hS (y_int hS rfl rfl rfl) rfl rfl fun a hS => ?_)
    refine wl rfl (ky (v := .bool ((kind_ : Int) == 7)) hS (y_move hS rfl) rfl rfl fun a hS => ?_)
    rcases bool2 ((kind_ : Int) == 7) with hb18 | hb18
    · replace hM := ct hb18 hM
      refine wn hS rfl rfl rfl hb18 rfl rfl fun a hS => ?_
      refine wn hS rfl rfl rfl hb18 rfl rfl fun a hS => ?_
      refine wl rfl (ky (v := .bool true) hS (y_pickt hS rfl hb18 rfl) rfl rfl fun a hS => ?_)
      refine wl rfl (ky (v := .bool true) hS (y_move hS rfl) rfl rfl fun a hS => ?_)
      refine wn hS rfl rfl rfl rfl rfl rfl fun a hS => ?_
      refine wn hS rfl rfl rfl rfl rfl rfl fun a hS => ?_
      refine wl rfl (ky (v := .bool true) hS (y_pickt hS rfl rfl rfl) rfl rfl fun a hS => ?_)
      refine wl rfl (ky (v := .bool true) hS (y_move hS rfl) rfl rfl fun a hS => ?_)
      refine wn hS rfl rfl rfl rfl rfl rfl fun a hS => ?_
      refine wn hS rfl rfl rfl rfl rfl rfl fun a hS => ?_
      refine wl rfl (ky (v := .bool true) hS (y_pickt hS rfl rfl rfl) rfl rfl fun a hS => ?_)
      refine wl rfl (ky (v := .bool true) hS (y_assign hS rfl) rfl rfl fun a hS => ?_)
      refine wpList_nil ?_
      try simp only [Exit.then, Exit.inBlock, ↓reduceIte, Nat.reduceEqDiff]
      exact ⟨true, (hS.meet [] (by decide) ⟨rfl, trivial⟩ trivial trivial), hM⟩
    · replace hM := cf hb18 hM
      refine wg hS rfl rfl rfl hb18 (ky (v := .int .i64 kind_) hS (y_move hS rfl) rfl rfl fun a hS => ?_)
      refine wg hS rfl rfl rfl hb18 (ky (v := .bool ((kind_ : Int) == 14)) hS (y_int hS rfl rfl rfl) rfl rfl fun a hS => ?_)
      refine wl rfl (ky (v := .bool ((kind_ : Int) == 14)) hS (y_pickf hS rfl hb18 rfl) rfl rfl fun a hS => ?_)
      refine wl rfl (ky (v := .bool ((kind_ : Int) == 14)) hS (y_move hS rfl) rfl rfl fun a hS => ?_)
      rcases bool2 ((kind_ : Int) == 14) with hb19 | hb19
      · replace hM := ct hb19 hM
        refine wn hS rfl rfl rfl hb19 rfl rfl fun a hS => ?_
        refine wn hS rfl rfl rfl hb19 rfl rfl fun a hS => ?_
        refine wl rfl (ky (v := .bool true) hS (y_pickt hS rfl hb19 rfl) rfl rfl fun a hS => ?_)
        refine wl rfl (ky (v := .bool true) hS (y_move hS rfl) rfl rfl fun a hS => ?_)
        refine wn hS rfl rfl rfl rfl rfl rfl fun a hS => ?_
        refine wn hS rfl rfl rfl rfl rfl rfl fun a hS => ?_
        refine wl rfl (ky (v := .bool true) hS (y_pickt hS rfl rfl rfl) rfl rfl fun a hS => ?_)
        refine wl rfl (ky (v := .bool true) hS (y_assign hS rfl) rfl rfl fun a hS => ?_)
        refine wpList_nil ?_
        try simp only [Exit.then, Exit.inBlock, ↓reduceIte, Nat.reduceEqDiff]
        exact ⟨true, (hS.meet [] (by decide) ⟨rfl, trivial⟩ trivial trivial), hM⟩
      · replace hM := cf hb19 hM
        refine wg hS rfl rfl rfl hb19 (ky (v := .int .i64 kind_) hS (y_move hS rfl) rfl rfl fun a hS => ?_)
        refine wg hS rfl rfl rfl hb19 (ky (v := .bool ((kind_ : Int) == 17)) hS (y_int hS rfl rfl rfl) rfl rfl fun a hS => ?_)
        refine wl rfl (ky (v := .bool ((kind_ : Int) == 17)) hS (y_pickf hS rfl hb19 rfl) rfl rfl fun a hS => ?_)
        refine wl rfl (ky (v := .bool ((kind_ : Int) == 17)) hS (y_move hS rfl) rfl rfl fun a hS => ?_)
        rcases bool2 ((kind_ : Int) == 17) with hb20 | hb20
        · replace hM := ct hb20 hM
          refine wn hS rfl rfl rfl hb20 rfl rfl fun a hS => ?_
          refine wn hS rfl rfl rfl hb20 rfl rfl fun a hS => ?_
          refine wl rfl (ky (v := .bool true) hS (y_pickt hS rfl hb20 rfl) rfl rfl fun a hS => ?_)
          refine wl rfl (ky (v := .bool true) hS (y_assign hS rfl) rfl rfl fun a hS => ?_)
          refine wpList_nil ?_
          try simp only [Exit.then, Exit.inBlock, ↓reduceIte, Nat.reduceEqDiff]
          exact ⟨true, (hS.meet [] (by decide) ⟨rfl, trivial⟩ trivial trivial), hM⟩
        · replace hM := cf hb20 hM
          refine wg hS rfl rfl rfl hb20 (ky (v := .int .i64 kind_) hS (y_move hS rfl) rfl rfl fun a hS => ?_)
          refine wg hS rfl rfl rfl hb20 (ky (v := .bool ((kind_ : Int) == 18)) hS (y_int hS rfl rfl rfl) rfl rfl fun a hS => ?_)
          refine wl rfl (ky (v := .bool ((kind_ : Int) == 18)) hS (y_pickf hS rfl hb20 rfl) rfl rfl fun a hS => ?_)
          refine wl rfl (ky (v := .bool ((kind_ : Int) == 18)) hS (y_assign hS rfl) rfl rfl fun a hS => ?_)
          refine wpList_nil ?_
          try simp only [Exit.then, Exit.inBlock, ↓reduceIte, Nat.reduceEqDiff]
          exact ⟨((kind_ : Int) == 18), (hS.meet [] (by decide) ⟨rfl, trivial⟩ trivial trivial), hM⟩
  · rintro a w ⟨g17, hS, hM⟩
    unfold ref22_Cyclic_j1 at hM
    refine wp_ret ?_
    injection hM with hM
    subst hM
    try simp only [Exit.then, Exit.inBlock, ↓reduceIte, Nat.reduceEqDiff]
    refine ret_ok hS Tryd.results53 (res_tmp hS rfl res_nil) ?_
    exact rfl

noncomputable def ref23_Cyclic_j1 (g33 : Bool) : Option Bool := some (g33)
noncomputable def ref23_Cyclic (k_0 : KeyD) : Option Bool := cond ((k_0.Kind : Int) == 32) (ref23_Cyclic_j1 true) (cond (decide ((1 : Int) ≤ k_0.Kind)) (cond (decide ((k_0.Kind : Int) ≤ 22)) ((ref22_Cyclic k_0.Kind).bind fun u37 => ref23_Cyclic_j1 u37) (ref23_Cyclic_j1 false)) (ref23_Cyclic_j1 false))
set_option maxRecDepth 100000 in
set_option maxHeartbeats 4000000 in
theorem ref23_Cyclic_c (T : Nat → Prop) (W0 : World) (hT : ∀ k, T k → k < W0.heap.size) (k_0 : KeyD) (y : Bool) (hM : ref23_Cyclic k_0 = some y) : Rets Tryd.prog No 40 [.agg #[.int .i64 k_0.Kind, .string k_0.Text]] W0 (fun v w' => v = .bool y) := by
  refine enter (c := _) Tryd.func40 rfl T 21 Tryd.ntmps40 hT rfl fun a hS => ?_
  unfold ref23_Cyclic at hM
  refine wp_seq_k fun K2 hK2 => ?_
  refine r_list ?_
  refine wl rfl (k_box hS rfl (cs := [.int .i64 k_0.Kind, .string k_0.Text]) rfl rfl fun b20 hnb22 a w hk hS => ?_)
  refine wl rfl (ky (v := .bool false) hS (y_assign hS rfl) rfl rfl fun a hS => ?_)
  refine wpList_nil ?_
  try simp only [Exit.then, Exit.inBlock, ↓reduceIte, Nat.reduceEqDiff]
  refine hK2 _ _ ?_
  refine seq_j (J := fun a w => ∃ (g33 : Bool), St W0 No T 21 [(2, .bool g33)] [] [] a w ∧ ref23_Cyclic_j1 g33 = some y) ?_ ?_
  · skip
    refine r_list ?_
    refine wl rfl (ky (v := .pointer (some ⟨b20, 0 + 0, none⟩)) hS (y_fld hS rfl fl32_0) rfl rfl fun a hS => ?_)
    refine wl rfl (ky (v := .int .i64 k_0.Kind) hS (y_load hS rfl ty3 0 rfl id (us := [.int .i64 k_0.Kind]) rfl rfl (fun _ => rfl)) rfl rfl fun a hS => ?_)
    refine wl rfl (ky (v := .bool ((k_0.Kind : Int) == 32)) hS (y_int hS rfl rfl rfl) rfl rfl fun a hS => ?_)
    refine wl rfl (ky (v := .bool ((k_0.Kind : Int) == 32)) hS (y_move hS rfl) rfl rfl fun a hS => ?_)
    rcases bool2 ((k_0.Kind : Int) == 32) with hb34 | hb34
    · replace hM := ct hb34 hM
      refine wn hS rfl rfl rfl hb34 rfl rfl fun a hS => ?_
      refine wn hS rfl rfl rfl hb34 rfl rfl fun a hS => ?_
      refine wn hS rfl rfl rfl hb34 rfl rfl fun a hS => ?_
      refine wn hS rfl rfl rfl hb34 rfl rfl fun a hS => ?_
      refine wnu hS rfl rfl rfl rfl rfl fun a hS => ?_
      refine wnu hS rfl rfl rfl rfl rfl fun a hS => ?_
      refine wnu hS rfl rfl rfl rfl rfl fun a hS => ?_
      refine wn hS rfl rfl rfl hb34 rfl rfl fun a hS => ?_
      refine wn hS rfl rfl rfl hb34 rfl rfl fun a hS => ?_
      refine wnu hS rfl rfl rfl rfl rfl fun a hS => ?_
      refine wnu hS rfl rfl rfl rfl rfl fun a hS => ?_
      refine wnu hS rfl rfl rfl rfl rfl fun a hS => ?_
      refine wn hS rfl rfl rfl hb34 rfl rfl fun a hS => ?_
      refine wl rfl (ky (v := .bool true) hS (y_pickt hS rfl hb34 rfl) rfl rfl fun a hS => ?_)
      refine wl rfl (ky (v := .bool true) hS (y_assign hS rfl) rfl rfl fun a hS => ?_)
      refine wpList_nil ?_
      try simp only [Exit.then, Exit.inBlock, ↓reduceIte, Nat.reduceEqDiff]
      exact ⟨true, (hS.meet [] (by decide) ⟨rfl, trivial⟩ trivial trivial), hM⟩
    · replace hM := cf hb34 hM
      refine wg hS rfl rfl rfl hb34 (ky (v := .pointer (some ⟨b20, 0 + 0, none⟩)) hS (y_fld hS rfl fl32_0) rfl rfl fun a hS => ?_)
      refine wg hS rfl rfl rfl hb34 (ky (v := .int .i64 k_0.Kind) hS (y_load hS rfl ty3 0 rfl id (us := [.int .i64 k_0.Kind]) rfl rfl (fun _ => rfl)) rfl rfl fun a hS => ?_)
      refine wg hS rfl rfl rfl hb34 (ky (v := .bool (decide ((1 : Int) ≤ k_0.Kind))) hS (y_int hS rfl rfl rfl) rfl rfl fun a hS => ?_)
      refine wg hS rfl rfl rfl hb34 (ky (v := .bool (decide ((1 : Int) ≤ k_0.Kind))) hS (y_move hS rfl) rfl rfl fun a hS => ?_)
      rcases bool2 (decide ((1 : Int) ≤ k_0.Kind)) with hb35 | hb35
      · replace hM := ct hb35 hM
        refine wg hS rfl rfl rfl hb35 (ky (v := .pointer (some ⟨b20, 0 + 0, none⟩)) hS (y_fld hS rfl fl32_0) rfl rfl fun a hS => ?_)
        refine wg hS rfl rfl rfl hb35 (ky (v := .int .i64 k_0.Kind) hS (y_load hS rfl ty3 0 rfl id (us := [.int .i64 k_0.Kind]) rfl rfl (fun _ => rfl)) rfl rfl fun a hS => ?_)
        refine wg hS rfl rfl rfl hb35 (ky (v := .bool (decide ((k_0.Kind : Int) ≤ 22))) hS (y_int hS rfl rfl rfl) rfl rfl fun a hS => ?_)
        refine wg hS rfl rfl rfl hb34 (ky (v := .bool (decide ((k_0.Kind : Int) ≤ 22))) hS (y_pickt hS rfl hb35 rfl) rfl rfl fun a hS => ?_)
        refine wg hS rfl rfl rfl hb34 (ky (v := .bool (decide ((k_0.Kind : Int) ≤ 22))) hS (y_move hS rfl) rfl rfl fun a hS => ?_)
        rcases bool2 (decide ((k_0.Kind : Int) ≤ 22)) with hb36 | hb36
        · replace hM := ct hb36 hM
          refine wg hS rfl rfl rfl hb36 (ky (v := .pointer (some ⟨b20, 0 + 0, none⟩)) hS (y_fld hS rfl fl32_0) rfl rfl fun a hS => ?_)
          refine wg hS rfl rfl rfl hb36 (ky (v := .int .i64 k_0.Kind) hS (y_load hS rfl ty3 0 rfl id (us := [.int .i64 k_0.Kind]) rfl rfl (fun _ => rfl)) rfl rfl fun a hS => ?_)
          obtain ⟨u37, hu37, hM⟩ := bd hM
          refine wg hS rfl rfl rfl hb36 (k_call hS ci53 rfl rfl (ref22_Cyclic_c _ _ hS.dlt k_0.Kind _ hu37) fun _ w hR a hk hA => ?_)
          have he := Eq.symm hR
          subst he
          have hS := hA [] (fun r hr => by cases hr) List.Pairwise.nil
          refine wg hS rfl rfl rfl hb34 (ky (v := .bool u37) hS (y_pickt hS rfl hb36 rfl) rfl rfl fun a hS => ?_)
          refine wl rfl (ky (v := .bool u37) hS (y_pickf hS rfl hb34 rfl) rfl rfl fun a hS => ?_)
          refine wl rfl (ky (v := .bool u37) hS (y_assign hS rfl) rfl rfl fun a hS => ?_)
          refine wpList_nil ?_
          try simp only [Exit.then, Exit.inBlock, ↓reduceIte, Nat.reduceEqDiff]
          exact ⟨u37, (hS.meet [] (by decide) ⟨rfl, trivial⟩ trivial trivial), hM⟩
        · replace hM := cf hb36 hM
          refine wn hS rfl rfl rfl hb36 rfl rfl fun a hS => ?_
          refine wn hS rfl rfl rfl hb36 rfl rfl fun a hS => ?_
          refine wn hS rfl rfl rfl hb36 rfl rfl fun a hS => ?_
          refine wg hS rfl rfl rfl hb34 (ky (v := .bool false) hS (y_pickf hS rfl hb36 rfl) rfl rfl fun a hS => ?_)
          refine wl rfl (ky (v := .bool false) hS (y_pickf hS rfl hb34 rfl) rfl rfl fun a hS => ?_)
          refine wl rfl (ky (v := .bool false) hS (y_assign hS rfl) rfl rfl fun a hS => ?_)
          refine wpList_nil ?_
          try simp only [Exit.then, Exit.inBlock, ↓reduceIte, Nat.reduceEqDiff]
          exact ⟨false, (hS.meet [] (by decide) ⟨rfl, trivial⟩ trivial trivial), hM⟩
      · replace hM := cf hb35 hM
        refine wn hS rfl rfl rfl hb35 rfl rfl fun a hS => ?_
        refine wn hS rfl rfl rfl hb35 rfl rfl fun a hS => ?_
        refine wn hS rfl rfl rfl hb35 rfl rfl fun a hS => ?_
        refine wg hS rfl rfl rfl hb34 (ky (v := .bool false) hS (y_pickf hS rfl hb35 rfl) rfl rfl fun a hS => ?_)
        refine wg hS rfl rfl rfl hb34 (ky (v := .bool false) hS (y_move hS rfl) rfl rfl fun a hS => ?_)
        refine wn hS rfl rfl rfl rfl rfl rfl fun a hS => ?_
        refine wn hS rfl rfl rfl rfl rfl rfl fun a hS => ?_
        refine wn hS rfl rfl rfl rfl rfl rfl fun a hS => ?_
        refine wg hS rfl rfl rfl hb34 (ky (v := .bool false) hS (y_pickf hS rfl rfl rfl) rfl rfl fun a hS => ?_)
        refine wl rfl (ky (v := .bool false) hS (y_pickf hS rfl hb34 rfl) rfl rfl fun a hS => ?_)
        refine wl rfl (ky (v := .bool false) hS (y_assign hS rfl) rfl rfl fun a hS => ?_)
        refine wpList_nil ?_
        try simp only [Exit.then, Exit.inBlock, ↓reduceIte, Nat.reduceEqDiff]
        exact ⟨false, (hS.meet [] (by decide) ⟨rfl, trivial⟩ trivial trivial), hM⟩
  · rintro a w ⟨g33, hS, hM⟩
    unfold ref23_Cyclic_j1 at hM
    refine wp_ret ?_
    injection hM with hM
    subst hM
    try simp only [Exit.then, Exit.inBlock, ↓reduceIte, Nat.reduceEqDiff]
    refine ret_ok hS Tryd.results40 (res_tmp hS rfl res_nil) ?_
    exact rfl

noncomputable def ref29_open_j1 (g45 : Bool) : Option Bool := some (g45)
noncomputable def ref29_open (l_0 : (List RecordD)) (revision_ : Int) (k_2 : KeyD) : Option Bool := (ref26_Find l_0 k_2).bind fun u29 => cond u29.2 ((ref23_Cyclic k_2).bind fun u47 => cond u47 (cond (decide ((u29.1.Verified : Int) < revision_)) (ref29_open_j1 (!(u29.1.Dirty))) (ref29_open_j1 false)) (ref29_open_j1 false)) (ref29_open_j1 false)
set_option maxRecDepth 100000 in
set_option maxHeartbeats 4000000 in
theorem ref29_open_c (T : Nat → Prop) (W0 : World) (hT : ∀ k, T k → k < W0.heap.size) (l_0 : (List RecordD)) (revision_ : Int) (k_2 : KeyD) (v1 : Value) (hv1 : SlR R_RecordD T W0 v1 l_0) (y : Bool) (hM : ref29_open l_0 revision_ k_2 = some y) : Rets Tryd.prog No 29 [v1, .int .i64 revision_, .agg #[.int .i64 k_2.Kind, .string k_2.Text]] W0 (fun v w' => v = .bool y) := by
  refine enter (c := _) Tryd.func29 rfl T 31 Tryd.ntmps29 hT rfl fun a hS => ?_
  replace hS := hS.fact (SlF R_RecordD v1 l_0) (SlR.dn hv1)
  unfold ref29_open at hM
  refine wp_seq_k fun K3 hK3 => ?_
  refine r_list ?_
  refine wl rfl (k_box hS rfl (cs := [.int .i64 k_2.Kind, .string k_2.Text]) rfl rfl fun b26 hnb28 a w hk hS => ?_)
  refine wl rfl (ky (v := .bool false) hS (y_assign hS rfl) rfl rfl fun a hS => ?_)
  refine wpList_nil ?_
  try simp only [Exit.then, Exit.inBlock, ↓reduceIte, Nat.reduceEqDiff]
  refine hK3 _ _ ?_
  refine wp_seq_k fun K4 hK4 => ?_
  refine r_list ?_
  refine wl rfl (ky (v := v1) hS (y_move hS rfl) rfl rfl fun a hS => ?_)
  refine wl rfl (ky (v := .agg #[.int .i64 k_2.Kind, .string k_2.Text]) hS (y_load hS rfl ty32 0 rfl id (us := [.int .i64 k_2.Kind, .string k_2.Text]) rfl rfl (fun h => by cases h)) rfl rfl fun a hS => ?_)
  obtain ⟨u29, hu29, hM⟩ := bd hM
  refine wl rfl (k_call hS ci20 rfl rfl (ref26_Find_c _ _ hS.dlt l_0 k_2 _ (hS.get 0 rfl) _ hu29) fun _ w hR a hk hA => ?_)
  obtain ⟨vz30_2, clz30_3, he, ⟨hOvz30_2, hFvz30_2, hRvz30_2⟩⟩ := hR
  replace he := he.symm
  subst he
  have hS := hA [.own vz30_2 32 R_KeyD.size clz30_3] (adds1 ⟨hOvz30_2, by decide⟩ hFvz30_2) (pw1 _)
  replace hS := hS.fact (RowsF R_KeyD clz30_3 u29.1.Reads) (hRvz30_2.keep (Kt.refl _ _) (dT_dT _))
  refine wl rfl (ky (v := .tuple #[.agg #[.int .i64 u29.1.Key.Kind, .string u29.1.Key.Text, .string u29.1.Value, vz30_2, .int .i64 u29.1.Changed, .int .i64 u29.1.Verified, .int .i64 u29.1.Cost, .bool u29.1.Dirty], .bool u29.2]) hS (y_move hS rfl) rfl rfl fun a hS => ?_)
  refine wl rfl (ky (v := .agg #[.int .i64 u29.1.Key.Kind, .string u29.1.Key.Text, .string u29.1.Value, vz30_2, .int .i64 u29.1.Changed, .int .i64 u29.1.Verified, .int .i64 u29.1.Cost, .bool u29.1.Dirty]) hS (y_ex hS rfl rfl) rfl rfl fun a hS => ?_)
  refine wl rfl (ky (v := .bool u29.2) hS (y_ex hS rfl rfl) rfl rfl fun a hS => ?_)
  refine wl rfl (k_alloc hS ze34 rfl fun b32 hnb34 a w hk hS => ?_)
  refine wl rfl (k_store hS rfl rfl (us := [.int .i64 u29.1.Key.Kind, .string u29.1.Key.Text, .string u29.1.Value, vz30_2, .int .i64 u29.1.Changed, .int .i64 u29.1.Verified, .int .i64 u29.1.Cost, .bool u29.1.Dirty]) rfl ty34 0 rfl rfl rfl (oc rfl (oc rfl (oc rfl (oc (own_one (hS.own _ (List.mem_of_getElem? (i := 1) rfl)).1) (oc rfl (oc rfl (oc rfl (oc rfl on)))))))) fun w hk hS => ?_)
  refine wl rfl (ky (v := .bool u29.2) hS (y_assign hS rfl) rfl rfl fun a hS => ?_)
  refine wpList_nil ?_
  try simp only [Exit.then, Exit.inBlock, ↓reduceIte, Nat.reduceEqDiff]
  refine hK4 _ _ ?_
  refine seq_j (J := fun a w => ∃ (g45 : Bool), St W0 No T 31 [(6, .bool g45)] [] [] a w ∧ ref29_open_j1 g45 = some y) ?_ ?_
  · skip
    refine r_list ?_
    refine wl rfl (ky (v := .bool u29.2) hS (y_move hS rfl) rfl rfl fun a hS => ?_)
    refine wl rfl (ky (v := .bool u29.2) hS (y_move hS rfl) rfl rfl fun a hS => ?_)
    rcases bool2 (u29.2) with hb46 | hb46
    · replace hM := ct hb46 hM
      refine wg hS rfl rfl rfl hb46 (ky (v := .agg #[.int .i64 k_2.Kind, .string k_2.Text]) hS (y_load hS rfl ty32 2 rfl id (us := [.int .i64 k_2.Kind, .string k_2.Text]) rfl rfl (fun h => by cases h)) rfl rfl fun a hS => ?_)
      obtain ⟨u47, hu47, hM⟩ := bd hM
      refine wg hS rfl rfl rfl hb46 (k_call hS ci40 rfl rfl (ref23_Cyclic_c _ _ hS.dlt k_2 _ hu47) fun _ w hR a hk hA => ?_)
      have he := Eq.symm hR
      subst he
      have hS := hA [] (fun r hr => by cases hr) List.Pairwise.nil
      refine wl rfl (ky (v := .bool u47) hS (y_pickt hS rfl hb46 rfl) rfl rfl fun a hS => ?_)
      refine wl rfl (ky (v := .bool u47) hS (y_move hS rfl) rfl rfl fun a hS => ?_)
      rcases bool2 (u47) with hb49 | hb49
      · replace hM := ct hb49 hM
        refine wg hS rfl rfl rfl hb49 (ky (v := .pointer (some ⟨b32, 0 + 5, none⟩)) hS (y_fld hS rfl fl34_4) rfl rfl fun a hS => ?_)
        refine wg hS rfl rfl rfl hb49 (ky (v := .int .i64 u29.1.Verified) hS (y_load hS rfl ty3 0 rfl id (us := [.int .i64 u29.1.Verified]) rfl rfl (fun _ => rfl)) rfl rfl fun a hS => ?_)
        refine wg hS rfl rfl rfl hb49 (ky (v := .int .i64 revision_) hS (y_move hS rfl) rfl rfl fun a hS => ?_)
        refine wg hS rfl rfl rfl hb49 (ky (v := .bool (decide ((u29.1.Verified : Int) < revision_))) hS (y_int hS rfl rfl rfl) rfl rfl fun a hS => ?_)
        refine wl rfl (ky (v := .bool (decide ((u29.1.Verified : Int) < revision_))) hS (y_pickt hS rfl hb49 rfl) rfl rfl fun a hS => ?_)
        refine wl rfl (ky (v := .bool (decide ((u29.1.Verified : Int) < revision_))) hS (y_move hS rfl) rfl rfl fun a hS => ?_)
        rcases bool2 (decide ((u29.1.Verified : Int) < revision_)) with hb50 | hb50
        · replace hM := ct hb50 hM
          refine wg hS rfl rfl rfl hb50 (ky (v := .pointer (some ⟨b32, 0 + 7, none⟩)) hS (y_fld hS rfl fl34_6) rfl rfl fun a hS => ?_)
          refine wg hS rfl rfl rfl hb50 (ky (v := .bool u29.1.Dirty) hS (y_load hS rfl ty4 0 rfl id (us := [.bool u29.1.Dirty]) rfl rfl (fun _ => rfl)) rfl rfl fun a hS => ?_)
          refine wg hS rfl rfl rfl hb50 (ky (v := .bool (!(u29.1.Dirty))) hS (y_not hS rfl) rfl rfl fun a hS => ?_)
          refine wl rfl (ky (v := .bool (!(u29.1.Dirty))) hS (y_pickt hS rfl hb50 rfl) rfl rfl fun a hS => ?_)
          refine wl rfl (ky (v := .bool (!(u29.1.Dirty))) hS (y_assign hS rfl) rfl rfl fun a hS => ?_)
          refine wpList_nil ?_
          try simp only [Exit.then, Exit.inBlock, ↓reduceIte, Nat.reduceEqDiff]
          exact ⟨(!(u29.1.Dirty)), (hS.meet [] (by decide) ⟨rfl, trivial⟩ trivial trivial), hM⟩
        · replace hM := cf hb50 hM
          refine wn hS rfl rfl rfl hb50 rfl rfl fun a hS => ?_
          refine wn hS rfl rfl rfl hb50 rfl rfl fun a hS => ?_
          refine wn hS rfl rfl rfl hb50 rfl rfl fun a hS => ?_
          refine wl rfl (ky (v := .bool false) hS (y_pickf hS rfl hb50 rfl) rfl rfl fun a hS => ?_)
          refine wl rfl (ky (v := .bool false) hS (y_assign hS rfl) rfl rfl fun a hS => ?_)
          refine wpList_nil ?_
          try simp only [Exit.then, Exit.inBlock, ↓reduceIte, Nat.reduceEqDiff]
          exact ⟨false, (hS.meet [] (by decide) ⟨rfl, trivial⟩ trivial trivial), hM⟩
      · replace hM := cf hb49 hM
        refine wn hS rfl rfl rfl hb49 rfl rfl fun a hS => ?_
        refine wn hS rfl rfl rfl hb49 rfl rfl fun a hS => ?_
        refine wn hS rfl rfl rfl hb49 rfl rfl fun a hS => ?_
        refine wn hS rfl rfl rfl hb49 rfl rfl fun a hS => ?_
        refine wl rfl (ky (v := .bool false) hS (y_pickf hS rfl hb49 rfl) rfl rfl fun a hS => ?_)
        refine wl rfl (ky (v := .bool false) hS (y_move hS rfl) rfl rfl fun a hS => ?_)
        refine wn hS rfl rfl rfl rfl rfl rfl fun a hS => ?_
        refine wn hS rfl rfl rfl rfl rfl rfl fun a hS => ?_
        refine wn hS rfl rfl rfl rfl rfl rfl fun a hS => ?_
        refine wl rfl (ky (v := .bool false) hS (y_pickf hS rfl rfl rfl) rfl rfl fun a hS => ?_)
        refine wl rfl (ky (v := .bool false) hS (y_assign hS rfl) rfl rfl fun a hS => ?_)
        refine wpList_nil ?_
        try simp only [Exit.then, Exit.inBlock, ↓reduceIte, Nat.reduceEqDiff]
        exact ⟨false, (hS.meet [] (by decide) ⟨rfl, trivial⟩ trivial trivial), hM⟩
    · replace hM := cf hb46 hM
      refine wn hS rfl rfl rfl hb46 rfl rfl fun a hS => ?_
      refine wn hS rfl rfl rfl hb46 rfl rfl fun a hS => ?_
      refine wl rfl (ky (v := .bool false) hS (y_pickf hS rfl hb46 rfl) rfl rfl fun a hS => ?_)
      refine wl rfl (ky (v := .bool false) hS (y_move hS rfl) rfl rfl fun a hS => ?_)
      refine wn hS rfl rfl rfl rfl rfl rfl fun a hS => ?_
      refine wn hS rfl rfl rfl rfl rfl rfl fun a hS => ?_
      refine wn hS rfl rfl rfl rfl rfl rfl fun a hS => ?_
      refine wn hS rfl rfl rfl rfl rfl rfl fun a hS => ?_
      refine wl rfl (ky (v := .bool false) hS (y_pickf hS rfl rfl rfl) rfl rfl fun a hS => ?_)
      refine wl rfl (ky (v := .bool false) hS (y_move hS rfl) rfl rfl fun a hS => ?_)
      refine wn hS rfl rfl rfl rfl rfl rfl fun a hS => ?_
      refine wn hS rfl rfl rfl rfl rfl rfl fun a hS => ?_
      refine wn hS rfl rfl rfl rfl rfl rfl fun a hS => ?_
      refine wl rfl (ky (v := .bool false) hS (y_pickf hS rfl rfl rfl) rfl rfl fun a hS => ?_)
      refine wl rfl (ky (v := .bool false) hS (y_assign hS rfl) rfl rfl fun a hS => ?_)
      refine wpList_nil ?_
      try simp only [Exit.then, Exit.inBlock, ↓reduceIte, Nat.reduceEqDiff]
      exact ⟨false, (hS.meet [] (by decide) ⟨rfl, trivial⟩ trivial trivial), hM⟩
  · rintro a w ⟨g45, hS, hM⟩
    unfold ref29_open_j1 at hM
    refine wp_ret ?_
    injection hM with hM
    subst hM
    try simp only [Exit.then, Exit.inBlock, ↓reduceIte, Nat.reduceEqDiff]
    refine ret_ok hS Tryd.results29 (res_tmp hS rfl res_nil) ?_
    exact rfl

noncomputable def ref29_leads_j1 (out2845 : (List (KeyD × Bool))) : Option (List (KeyD × Bool)) := some (out2845)
noncomputable def ref29_leads_j2 (i3319 : Int) (out4003 : (List (KeyD × Bool))) (list4006 : (List KeyD)) : Option (Fl ((List (KeyD × Bool)) × (List KeyD) × Int) ((List (KeyD × Bool)))) := some (.go (out4003, list4006, IntKind.i64.wrap (i3319 + 1)))
noncomputable def ref29_leads_j3 (g4131 : Int) (out4275 : (List (KeyD × Bool))) (list4278 : (List KeyD)) : Option (Fl ((List (KeyD × Bool)) × (List KeyD) × Int) ((List (KeyD × Bool)) × (List KeyD))) := some (.go (out4275, list4278, IntKind.i64.wrap (g4131 + 1)))
noncomputable def ref29_leads_j4 (out4124 : (List (KeyD × Bool))) (list4127 : (List KeyD)) (g4131 : Int) (e4282 : KeyD) (g4307 : Bool) : Option (Fl ((List (KeyD × Bool)) × (List KeyD) × Int) ((List (KeyD × Bool)) × (List KeyD))) := cond g4307 (gd (roomB (list4127.length + ([e4282]).length)) <| ref29_leads_j3 g4131 (mput keq_KeyD e4282 true out4124) (list4127 ++ ([e4282]))) (ref29_leads_j3 g4131 out4124 list4127)
noncomputable def ref29_leads_l5 (l_0 : (List RecordD)) (revision_ : Int) (u4018 : (RecordD × Bool)) (out4124 : (List (KeyD × Bool))) (list4127 : (List KeyD)) (g4131 : Int) : Option (Fl ((List (KeyD × Bool)) × (List KeyD) × Int) ((List (KeyD × Bool)) × (List KeyD))) := cond (decide ((g4131 : Int) < (u4018.1.Reads.length : Int))) ((getI u4018.1.Reads g4131).bind fun e4282 => (ref29_open l_0 revision_ e4282).bind fun u4317 => cond u4317 ((some ((mget keq_KeyD e4282 out4124).getD false)).bind fun u4320 => ref29_leads_j4 out4124 list4127 g4131 e4282 (!(u4320))) (ref29_leads_j4 out4124 list4127 g4131 e4282 false)) (some (.out (out4124, list4127)))
noncomputable def ref29_leads_l6 (l_0 : (List RecordD)) (revision_ : Int) (out3312 : (List (KeyD × Bool))) (list3315 : (List KeyD)) (i3319 : Int) : Option (Fl ((List (KeyD × Bool)) × (List KeyD) × Int) ((List (KeyD × Bool)))) := cond (decide ((i3319 : Int) < (list3315.length : Int))) ((getI list3315 i3319).bind fun e4010 => (ref26_Find l_0 e4010).bind fun u4018 => (loop (fun s : (List (KeyD × Bool)) × (List KeyD) × Int => ref29_leads_l5 l_0 revision_ u4018 s.1 s.2.1 s.2.2) (out3312, list3315, 0)).bind fun r => ref29_leads_j2 i3319 r.1 r.2) (some (.out out3312))
noncomputable def ref29_leads (l_0 : (List RecordD)) (revision_ : Int) (k_2 : KeyD) : Option (List (KeyD × Bool)) := (loop (fun s : (List (KeyD × Bool)) × (List KeyD) × Int => ref29_leads_l6 l_0 revision_ s.1 s.2.1 s.2.2) (([] : (List (KeyD × Bool))), [k_2], 0)).bind fun r => ref29_leads_j1 r
set_option maxRecDepth 100000 in
set_option maxHeartbeats 4000000 in
theorem ref29_leads_c (T : Nat → Prop) (W0 : World) (hT : ∀ k, T k → k < W0.heap.size) (l_0 : (List RecordD)) (revision_ : Int) (k_2 : KeyD) (v1 : Value) (hv1 : SlR R_RecordD T W0 v1 l_0) (y : (List (KeyD × Bool))) (hM : ref29_leads l_0 revision_ k_2 = some y) : Rets Tryd.prog No 30 [v1, .int .i64 revision_, .agg #[.int .i64 k_2.Kind, .string k_2.Text]] W0 (fun v w' => ∃ (b2 : Nat) (es3 : Array MapEntry) (ck4 : Nat), v = .map (some b2) ∧ MapR R_KeyD true Rep.bool false T W0 w' [.obj b2 (.map es3 ck4)] b2 es3 ck4 y) := by
  refine enter (c := _) Tryd.func30 rfl T 57 Tryd.ntmps30 hT rfl fun a hS => ?_
  replace hS := hS.fact (SlF R_RecordD v1 l_0) (SlR.dn hv1)
  unfold ref29_leads at hM
  refine wp_seq_k fun K127 hK127 => ?_
  refine r_list ?_
  refine wl rfl (k_box hS rfl (cs := [.int .i64 k_2.Kind, .string k_2.Text]) rfl rfl fun b1905 hnb1907 a w hk hS => ?_)
  refine wl rfl (ky (v := .map none) hS (y_assign hS rfl) rfl rfl fun a hS => ?_)
  refine wpList_nil ?_
  try simp only [Exit.then, Exit.inBlock, ↓reduceIte, Nat.reduceEqDiff]
  refine hK127 _ _ ?_
  refine wp_seq_k fun K128 hK128 => ?_
  refine r_list ?_
  refine wl rfl (k_mkmap R_KeyD true Rep.bool false hS rfl fun b1908 hnb1909 a w hk hS => ?_)
  refine wl rfl (ky (v := .map (some b1908)) hS (y_assign hS rfl) rfl rfl fun a hS => ?_)
  refine wpList_nil ?_
  try simp only [Exit.then, Exit.inBlock, ↓reduceIte, Nat.reduceEqDiff]
  refine hK128 _ _ ?_
  refine wp_seq_k fun K129 hK129 => ?_
  refine r_list ?_
  refine wl rfl (ky (v := .agg #[.int .i64 k_2.Kind, .string k_2.Text]) hS (y_load hS rfl ty32 1 rfl id (us := [.int .i64 k_2.Kind, .string k_2.Text]) rfl rfl (fun h => by cases h)) rfl rfl fun a hS => ?_)
  refine wl rfl (k_bslice (ps := [(0, .tmp 15)]) hS el23 ze32 (zl := [.int .i64 0, .string (ByteArray.mk #[])]) (by kernel_rfl) rfl (us := [[.int .i64 k_2.Kind, .string k_2.Text]]) ⟨rfl, trivial⟩ (ws := [.int .i64 k_2.Kind, .string k_2.Text]) rfl rfl rfl rfl fun b1911 a w hk hS => ?_)
  refine wl rfl (ky (v := .slice (some ⟨b1911, 0, none⟩) 1 1) hS (y_assign hS rfl) rfl rfl fun a hS => ?_)
  refine wpList_nil ?_
  try simp only [Exit.then, Exit.inBlock, ↓reduceIte, Nat.reduceEqDiff]
  refine hK129 _ _ ?_
  refine seq_j (J := fun a w => ∃ (out2845 : (List (KeyD × Bool))) (es2846 : (Array MapEntry)) (ck2847 : Nat), St W0 No T 57 [(7, .map (some b1908))] [.obj b1908 (.map es2846 ck2847)] [MapF R_KeyD true Rep.bool false es2846 out2845] a w ∧ ref29_leads_j1 out2845 = some y) ?_ ?_
  · skip
    refine wp_seq_k fun K192 hK192 => ?_
    refine r_list ?_
    refine wl rfl (ky (v := .int .i64 0) hS (y_assign hS rfl) rfl rfl fun a hS => ?_)
    refine wpList_nil ?_
    try simp only [Exit.then, Exit.inBlock, ↓reduceIte, Nat.reduceEqDiff]
    refine hK192 _ _ ?_
    refine wp_block ?_
    replace hS := hS.lit (R := R_KeyD) (us := [.int .i64 k_2.Kind, .string k_2.Text]) (xs := [k_2]) 0 rfl (by decide) (RowsOk.one_ (R := R_KeyD) (x := k_2) rfl) rfl rfl
    obtain ⟨r1, hl1, hMo1⟩ := bd hM
    refine wp_lp (fun s : (List (KeyD × Bool)) × (List KeyD) × Int => ref29_leads_l6 l_0 revision_ s.1 s.2.1 s.2.2) (fun s a w => ∃ (out3312 : (List (KeyD × Bool))) (list3315 : (List KeyD)) (i3319 : Int) (es3313 : (Array MapEntry)) (ck3314 : Nat) (v3316 : Value) (cl3317 : (List Value)), (out3312, list3315, i3319) = s ∧ St W0 No T 57 [(0, v1), (1, .int .i64 revision_), (7, .map (some b1908)), (8, v3316), (9, .int .i64 i3319)] [.obj b1908 (.map es3313 ck3314), .own v3316 32 R_KeyD.size cl3317] [SlF R_RecordD v1 l_0, MapF R_KeyD true Rep.bool false es3313 out3312, RowsF R_KeyD cl3317 list3315] a w) hl1 ⟨([] : (List (KeyD × Bool))), ([k_2]), 0, (#[]), 0, (.slice (some ⟨b1911, 0, none⟩) 1 1), ([.int .i64 k_2.Kind, .string k_2.Text]), rfl, (hS.meet [1, 0] (by decide) ⟨rfl, rfl, rfl, rfl, rfl, trivial⟩ ⟨rfl, rfl, trivial⟩ ⟨⟨2, rfl⟩, ⟨1, rfl⟩, ⟨0, rfl⟩, trivial⟩)⟩ ?_
    rintro s a w f1 ⟨out3312, list3315, i3319, es3313, ck3314, v3316, cl3317, rfl, hS⟩ hM hf1
    have hM : ref29_leads_l6 l_0 revision_ out3312 list3315 i3319 = some f1 := hM
    unfold ref29_leads_l6 at hM
    refine wp_seq_k fun K253 hK253 => ?_
    refine wp_seq_k fun K254 hK254 => ?_
    refine r_list ?_
    refine wl rfl (ky (v := .int .i64 i3319) hS (y_move hS rfl) rfl rfl fun a hS => ?_)
    refine wl rfl (ky (v := v3316) hS (y_move hS rfl) rfl rfl fun a hS => ?_)
    refine wl rfl (ky (v := .int .i64 (list3315.length : Int)) hS (y_leno (R := R_KeyD) (xs := list3315) hS sl23 rfl 1 rfl 2 rfl) rfl rfl fun a hS => ?_)
    refine wl rfl (ky (v := .bool (decide ((i3319 : Int) < (list3315.length : Int)))) hS (y_int hS rfl rfl rfl) rfl rfl fun a hS => ?_)
    refine wpList_nil ?_
    try simp only [Exit.then, Exit.inBlock, ↓reduceIte, Nat.reduceEqDiff]
    refine hK254 _ _ ?_
    rcases bool2 (decide ((i3319 : Int) < (list3315.length : Int))) with hb3780 | hb3780
    · replace hM := ct hb3780 hM
      refine c_t hS rfl hb3780 ?_
      refine wp_skip ?_
      try simp only [Exit.then, Exit.inBlock, ↓reduceIte, Nat.reduceEqDiff]
      refine hK253 _ _ ?_
      refine seq_j (J := fun a w => ∃ (out4003 : (List (KeyD × Bool))) (list4006 : (List KeyD)) (es4004 : (Array MapEntry)) (ck4005 : Nat) (v4007 : Value) (cl4008 : (List Value)), St W0 No T 57 [(0, v1), (1, .int .i64 revision_), (7, .map (some b1908)), (8, v4007), (9, .int .i64 i3319)] [.obj b1908 (.map es4004 ck4005), .own v4007 32 R_KeyD.size cl4008] [SlF R_RecordD v1 l_0, MapF R_KeyD true Rep.bool false es4004 out4003, RowsF R_KeyD cl4008 list4006] a w ∧ ref29_leads_j2 i3319 out4003 list4006 = some f1) ?_ ?_
      · skip
        refine wp_block ?_
        refine wp_seq_k fun K269 hK269 => ?_
        refine r_list ?_
        refine wl rfl (ky (v := v1) hS (y_move hS rfl) rfl rfl fun a hS => ?_)
        refine wl rfl (ky (v := v3316) hS (y_move hS rfl) rfl rfl fun a hS => ?_)
        refine wl rfl (ky (v := .int .i64 i3319) hS (y_move hS rfl) rfl rfl fun a hS => ?_)
        obtain ⟨e4010, he4010, hM⟩ := bd hM
        refine wl rfl (k_indexo (R := R_KeyD) hS sl23 ty32 rfl rfl 1 rfl 2 rfl he4010 rfl fun b4011 o4012 p4017 cs4014 hr4013 hO4015 hC4016 a hS => ?_)
        obtain rfl := hr4013
        refine wl rfl (ky (v := .agg #[.int .i64 e4010.Kind, .string e4010.Text]) hS (y_loado (k := 0) hS ty32 1 rfl hO4015 hC4016 rfl id (us := [.int .i64 e4010.Kind, .string e4010.Text]) rfl rfl (fun h => by cases h)) rfl rfl fun a hS => ?_)
        obtain ⟨u4018, hu4018, hM⟩ := bd hM
        refine wl rfl (k_call hS ci20 rfl rfl (ref26_Find_c _ _ hS.dlt l_0 e4010 _ (hS.get 0 rfl) _ hu4018) fun _ w hR a hk hA => ?_)
        obtain ⟨vz4019_2, clz4019_3, he, ⟨hOvz4019_2, hFvz4019_2, hRvz4019_2⟩⟩ := hR
        replace he := he.symm
        subst he
        have hS := hA [.own vz4019_2 32 R_KeyD.size clz4019_3] (adds1 ⟨hOvz4019_2, by decide⟩ hFvz4019_2) (pw1 _)
        replace hS := hS.fact (RowsF R_KeyD clz4019_3 u4018.1.Reads) (hRvz4019_2.keep (Kt.refl _ _) (dT_dT _))
        refine wl rfl (ky (v := .tuple #[.agg #[.int .i64 u4018.1.Key.Kind, .string u4018.1.Key.Text, .string u4018.1.Value, vz4019_2, .int .i64 u4018.1.Changed, .int .i64 u4018.1.Verified, .int .i64 u4018.1.Cost, .bool u4018.1.Dirty], .bool u4018.2]) hS (y_move hS rfl) rfl rfl fun a hS => ?_)
        refine wl rfl (ky (v := .agg #[.int .i64 u4018.1.Key.Kind, .string u4018.1.Key.Text, .string u4018.1.Value, vz4019_2, .int .i64 u4018.1.Changed, .int .i64 u4018.1.Verified, .int .i64 u4018.1.Cost, .bool u4018.1.Dirty]) hS (y_ex hS rfl rfl) rfl rfl fun a hS => ?_)
        refine wl rfl (ky (v := .bool u4018.2) hS (y_ex hS rfl rfl) rfl rfl fun a hS => ?_)
        refine wl rfl (k_alloc hS ze34 rfl fun b4021 hnb4023 a w hk hS => ?_)
        refine wl rfl (k_store hS rfl rfl (us := [.int .i64 u4018.1.Key.Kind, .string u4018.1.Key.Text, .string u4018.1.Value, vz4019_2, .int .i64 u4018.1.Changed, .int .i64 u4018.1.Verified, .int .i64 u4018.1.Cost, .bool u4018.1.Dirty]) rfl ty34 0 rfl rfl rfl (oc rfl (oc rfl (oc rfl (oc (own_one (hS.own _ (List.mem_of_getElem? (i := 1) rfl)).1) (oc rfl (oc rfl (oc rfl (oc rfl on)))))))) fun w hk hS => ?_)
        refine wl rfl (ky (v := .bool u4018.2) hS (y_assign hS rfl) rfl rfl fun a hS => ?_)
        refine wpList_nil ?_
        try simp only [Exit.then, Exit.inBlock, ↓reduceIte, Nat.reduceEqDiff]
        refine hK269 _ _ ?_
        refine wp_seq_k fun K270 hK270 => ?_
        refine r_list ?_
        refine wl rfl (ky (v := .pointer (some ⟨b4021, 0 + 3, none⟩)) hS (y_fld hS rfl fl34_2) rfl rfl fun a hS => ?_)
        refine wl rfl (ky (v := vz4019_2) hS (y_load hS rfl ty23 0 rfl id (us := [vz4019_2]) rfl rfl (fun _ => rfl)) rfl rfl fun a hS => ?_)
        refine wl rfl (ky (v := .int .i64 (u4018.1.Reads.length : Int)) hS (y_leno (R := R_KeyD) (xs := u4018.1.Reads) hS sl23 rfl 1 rfl 0 rfl) rfl rfl fun a hS => ?_)
        refine wl rfl (ky (v := .int .i64 0) hS (y_move hS rfl) rfl rfl fun a hS => ?_)
        refine wpList_nil ?_
        try simp only [Exit.then, Exit.inBlock, ↓reduceIte, Nat.reduceEqDiff]
        refine hK270 _ _ ?_
        refine wp_block ?_
        obtain ⟨r2, hl2, hMo2⟩ := bd hM
        refine wp_lp (fun s : (List (KeyD × Bool)) × (List KeyD) × Int => ref29_leads_l5 l_0 revision_ u4018 s.1 s.2.1 s.2.2) (fun s a w => ∃ (out4124 : (List (KeyD × Bool))) (list4127 : (List KeyD)) (g4131 : Int) (es4125 : (Array MapEntry)) (ck4126 : Nat) (v4128 : Value) (cl4129 : (List Value)), (out4124, list4127, g4131) = s ∧ St W0 No T 57 [(0, v1), (1, .int .i64 revision_), (7, .map (some b1908)), (8, v4128), (9, .int .i64 i3319), (33, vz4019_2), (34, .int .i64 (u4018.1.Reads.length : Int)), (35, .int .i64 g4131)] [.obj b1908 (.map es4125 ck4126), .own v4128 32 R_KeyD.size cl4129, .own vz4019_2 32 R_KeyD.size clz4019_3] [SlF R_RecordD v1 l_0, MapF R_KeyD true Rep.bool false es4125 out4124, RowsF R_KeyD cl4129 list4127, RowsF R_KeyD clz4019_3 u4018.1.Reads] a w) hl2 ⟨out3312, list3315, 0, es3313, ck3314, v3316, cl3317, rfl, (hS.meet [2, 3, 1] (by decide) ⟨rfl, rfl, rfl, rfl, rfl, rfl, rfl, rfl, trivial⟩ ⟨rfl, rfl, rfl, trivial⟩ ⟨⟨1, rfl⟩, ⟨2, rfl⟩, ⟨3, rfl⟩, ⟨0, rfl⟩, trivial⟩)⟩ ?_
        rintro s a w f2 ⟨out4124, list4127, g4131, es4125, ck4126, v4128, cl4129, rfl, hS⟩ hM hf2
        have hM : ref29_leads_l5 l_0 revision_ u4018 out4124 list4127 g4131 = some f2 := hM
        unfold ref29_leads_l5 at hM
        refine wp_seq_k fun K283 hK283 => ?_
        refine r_list ?_
        refine wl rfl (ky (v := .bool (decide ((g4131 : Int) < (u4018.1.Reads.length : Int)))) hS (y_int hS rfl rfl rfl) rfl rfl fun a hS => ?_)
        refine wpList_nil ?_
        try simp only [Exit.then, Exit.inBlock, ↓reduceIte, Nat.reduceEqDiff]
        refine hK283 _ _ ?_
        refine wp_seq_k fun K284 hK284 => ?_
        rcases bool2 (decide ((g4131 : Int) < (u4018.1.Reads.length : Int))) with hb4232 | hb4232
        · replace hM := ct hb4232 hM
          refine c_t hS rfl hb4232 ?_
          refine wp_skip ?_
          try simp only [Exit.then, Exit.inBlock, ↓reduceIte, Nat.reduceEqDiff]
          refine hK284 _ _ ?_
          refine seq_j (J := fun a w => ∃ (out4275 : (List (KeyD × Bool))) (list4278 : (List KeyD)) (es4276 : (Array MapEntry)) (ck4277 : Nat) (v4279 : Value) (cl4280 : (List Value)), St W0 No T 57 [(0, v1), (1, .int .i64 revision_), (7, .map (some b1908)), (8, v4279), (9, .int .i64 i3319), (33, vz4019_2), (34, .int .i64 (u4018.1.Reads.length : Int)), (35, .int .i64 g4131)] [.obj b1908 (.map es4276 ck4277), .own v4279 32 R_KeyD.size cl4280, .own vz4019_2 32 R_KeyD.size clz4019_3] [SlF R_RecordD v1 l_0, MapF R_KeyD true Rep.bool false es4276 out4275, RowsF R_KeyD cl4280 list4278, RowsF R_KeyD clz4019_3 u4018.1.Reads] a w ∧ ref29_leads_j3 g4131 out4275 list4278 = some f2) ?_ ?_
          · skip
            refine wp_block ?_
            refine wp_seq_k fun K287 hK287 => ?_
            refine r_list ?_
            obtain ⟨e4282, he4282, hM⟩ := bd hM
            refine wl rfl (k_indexo (R := R_KeyD) hS sl23 ty32 rfl rfl 2 rfl 3 rfl he4282 rfl fun b4283 o4284 p4289 cs4286 hr4285 hO4287 hC4288 a hS => ?_)
            obtain rfl := hr4285
            refine wl rfl (ky (v := .agg #[.int .i64 e4282.Kind, .string e4282.Text]) hS (y_loado (k := 0) hS ty32 2 rfl hO4287 hC4288 rfl id (us := [.int .i64 e4282.Kind, .string e4282.Text]) rfl rfl (fun h => by cases h)) rfl rfl fun a hS => ?_)
            refine wl rfl (k_alloc hS ze32 rfl fun b4290 hnb4292 a w hk hS => ?_)
            refine wl rfl (k_store hS rfl rfl (us := [.int .i64 e4282.Kind, .string e4282.Text]) rfl ty32 0 rfl rfl rfl (oc rfl (oc rfl on)) fun w hk hS => ?_)
            refine wpList_nil ?_
            try simp only [Exit.then, Exit.inBlock, ↓reduceIte, Nat.reduceEqDiff]
            refine hK287 _ _ ?_
            refine seq_j (J := fun a w => ∃ (g4307 : Bool), St W0 No T 57 [(0, v1), (1, .int .i64 revision_), (7, .map (some b1908)), (8, v4128), (9, .int .i64 i3319), (13, .pointer (some ⟨b4290, 0, none⟩)), (33, vz4019_2), (34, .int .i64 (u4018.1.Reads.length : Int)), (35, .int .i64 g4131), (48, .bool g4307)] [.obj b1908 (.map es4125 ck4126), .own v4128 32 R_KeyD.size cl4129, .own vz4019_2 32 R_KeyD.size clz4019_3, .box b4290 [.int .i64 e4282.Kind, .string e4282.Text] 32] [SlF R_RecordD v1 l_0, MapF R_KeyD true Rep.bool false es4125 out4124, RowsF R_KeyD cl4129 list4127, RowsF R_KeyD clz4019_3 u4018.1.Reads] a w ∧ ref29_leads_j4 out4124 list4127 g4131 e4282 g4307 = some f2) ?_ ?_
            · skip
              refine r_list ?_
              refine wl rfl (ky (v := v1) hS (y_move hS rfl) rfl rfl fun a hS => ?_)
              refine wl rfl (ky (v := .int .i64 revision_) hS (y_move hS rfl) rfl rfl fun a hS => ?_)
              refine wl rfl (ky (v := .agg #[.int .i64 e4282.Kind, .string e4282.Text]) hS (y_load hS rfl ty32 0 rfl id (us := [.int .i64 e4282.Kind, .string e4282.Text]) rfl rfl (fun h => by cases h)) rfl rfl fun a hS => ?_)
              obtain ⟨u4317, hu4317, hM⟩ := bd hM
              refine wl rfl (k_call hS ci29 rfl rfl (ref29_open_c _ _ hS.dlt l_0 revision_ e4282 _ (hS.get 0 rfl) _ hu4317) fun _ w hR a hk hA => ?_)
              have he := Eq.symm hR
              subst he
              have hS := hA [] (fun r hr => by cases hr) List.Pairwise.nil
              refine wl rfl (ky (v := .bool u4317) hS (y_move hS rfl) rfl rfl fun a hS => ?_)
              rcases bool2 (u4317) with hb4319 | hb4319
              · replace hM := ct hb4319 hM
                refine wg hS rfl rfl rfl hb4319 (ky (v := .map (some b1908)) hS (y_move hS rfl) rfl rfl fun a hS => ?_)
                refine wg hS rfl rfl rfl hb4319 (ky (v := .agg #[.int .i64 e4282.Kind, .string e4282.Text]) hS (y_load hS rfl ty32 0 rfl id (us := [.int .i64 e4282.Kind, .string e4282.Text]) rfl rfl (fun h => by cases h)) rfl rfl fun a hS => ?_)
                obtain ⟨u4320, hu4320, hM⟩ := bd hM
                obtain ⟨cv4321, hr4322, hy4323⟩ := d_looku hS mp65 kt_KeyD 1 rfl 1 rfl (c := [.int .i64 e4282.Kind, .string e4282.Text]) (key := e4282) rfl zv4 (zc := [.bool false]) rfl rfl hu4320
                obtain rfl := hr4322
                refine wg hS rfl rfl rfl hb4319 (ky (v := .bool u4320) hS (hy4323 rfl rfl id) rfl rfl fun a hS => ?_)
                refine wg hS rfl rfl rfl hb4319 (ky (v := .bool (!(u4320))) hS (y_not hS rfl) rfl rfl fun a hS => ?_)
                refine wl rfl (ky (v := .bool (!(u4320))) hS (y_pickt hS rfl hb4319 rfl) rfl rfl fun a hS => ?_)
                refine wpList_nil ?_
                try simp only [Exit.then, Exit.inBlock, ↓reduceIte, Nat.reduceEqDiff]
                exact ⟨(!(u4320)), (hS.meet [1, 2, 3, 0] (by decide) ⟨rfl, rfl, rfl, rfl, rfl, rfl, rfl, rfl, rfl, rfl, trivial⟩ ⟨rfl, rfl, rfl, rfl, trivial⟩ ⟨⟨0, rfl⟩, ⟨1, rfl⟩, ⟨2, rfl⟩, ⟨3, rfl⟩, trivial⟩), hM⟩
              · replace hM := cf hb4319 hM
                refine wn hS rfl rfl rfl hb4319 rfl rfl fun a hS => ?_
                refine wn hS rfl rfl rfl hb4319 rfl rfl fun a hS => ?_
                refine wn hS rfl rfl rfl hb4319 rfl rfl fun a hS => ?_
                refine wn hS rfl rfl rfl hb4319 rfl rfl fun a hS => ?_
                refine wl rfl (ky (v := .bool false) hS (y_pickf hS rfl hb4319 rfl) rfl rfl fun a hS => ?_)
                refine wpList_nil ?_
                try simp only [Exit.then, Exit.inBlock, ↓reduceIte, Nat.reduceEqDiff]
                exact ⟨false, (hS.meet [1, 2, 3, 0] (by decide) ⟨rfl, rfl, rfl, rfl, rfl, rfl, rfl, rfl, rfl, rfl, trivial⟩ ⟨rfl, rfl, rfl, rfl, trivial⟩ ⟨⟨0, rfl⟩, ⟨1, rfl⟩, ⟨2, rfl⟩, ⟨3, rfl⟩, trivial⟩), hM⟩
            · rintro a w ⟨g4307, hS, hM⟩
              unfold ref29_leads_j4 at hM
              rcases bool2 (g4307) with hb4308 | hb4308
              · replace hM := ct hb4308 hM
                refine c_t hS rfl hb4308 ?_
                refine wp_seq_k fun K288 hK288 => ?_
                refine r_list ?_
                refine wl rfl (ky (v := .map (some b1908)) hS (y_move hS rfl) rfl rfl fun a hS => ?_)
                refine wl rfl (ky (v := .agg #[.int .i64 e4282.Kind, .string e4282.Text]) hS (y_load hS rfl ty32 3 rfl id (us := [.int .i64 e4282.Kind, .string e4282.Text]) rfl rfl (fun h => by cases h)) rfl rfl fun a hS => ?_)
                refine wl rfl (k_mput hS mp65 kt_KeyD 0 rfl 1 rfl (c := [.int .i64 e4282.Kind, .string e4282.Text]) (cv := [.bool true]) (key := e4282) (val := true) rfl rfl rfl rfl rfl fun es4309 ck4310 w hk hS => ?_)
                refine wpList_nil ?_
                try simp only [Exit.then, Exit.inBlock, ↓reduceIte, Nat.reduceEqDiff]
                refine hK288 _ _ ?_
                refine r_list ?_
                refine wl rfl (ky (v := v4128) hS (y_move hS rfl) rfl rfl fun a hS => ?_)
                refine wl rfl (ky (v := .agg #[.int .i64 e4282.Kind, .string e4282.Text]) hS (y_load hS rfl ty32 3 rfl id (us := [.int .i64 e4282.Kind, .string e4282.Text]) rfl rfl (fun h => by cases h)) rfl rfl fun a hS => ?_)
                refine wl rfl (k_bslice (ps := [(0, .tmp 52)]) hS el23 ze32 (zl := [.int .i64 0, .string (ByteArray.mk #[])]) (by kernel_rfl) rfl (us := [[.int .i64 e4282.Kind, .string e4282.Text]]) ⟨rfl, trivial⟩ (ws := [.int .i64 e4282.Kind, .string e4282.Text]) rfl rfl rfl rfl fun b4311 a w hk hS => ?_)
                replace hS := hS.lit (R := R_KeyD) (us := [.int .i64 e4282.Kind, .string e4282.Text]) (xs := [e4282]) 0 rfl (by decide) (RowsOk.one_ (R := R_KeyD) (x := e4282) rfl) rfl rfl
                replace hS := hS.freeze (R := R_KeyD) 0 rfl 0 rfl
                obtain ⟨hg4313, hM⟩ := gd_some hM
                refine wl rfl (k_apps (R := R_KeyD) (xs := list4127) (ys := [e4282]) hS el23 (by decide) (by decide) rfl rfl 1 rfl 5 rfl 0 rfl hg4313 rfl fun v4314 cl4315 a w hk hS => ?_)
                refine wl rfl (ky (v := v4314) hS (y_assign hS rfl) rfl rfl fun a hS => ?_)
                refine wpList_nil ?_
                try simp only [Exit.then, Exit.inBlock, ↓reduceIte, Nat.reduceEqDiff]
                exact ⟨(mput keq_KeyD e4282 true out4124), (list4127 ++ ([e4282])), es4309, ck4310, v4314, cl4315, (hS.meet [0, 1, 2] (by decide) ⟨rfl, rfl, rfl, rfl, rfl, rfl, rfl, rfl, trivial⟩ ⟨rfl, rfl, rfl, trivial⟩ ⟨⟨4, rfl⟩, ⟨3, rfl⟩, ⟨0, rfl⟩, ⟨7, rfl⟩, trivial⟩), hM⟩
              · replace hM := cf hb4308 hM
                refine c_f hS rfl hb4308 ?_
                refine wp_skip ?_
                try simp only [Exit.then, Exit.inBlock, ↓reduceIte, Nat.reduceEqDiff]
                exact ⟨out4124, list4127, es4125, ck4126, v4128, cl4129, (hS.meet [0, 1, 2] (by decide) ⟨rfl, rfl, rfl, rfl, rfl, rfl, rfl, rfl, trivial⟩ ⟨rfl, rfl, rfl, trivial⟩ ⟨⟨0, rfl⟩, ⟨1, rfl⟩, ⟨2, rfl⟩, ⟨3, rfl⟩, trivial⟩), hM⟩
          · rintro a w ⟨out4275, list4278, es4276, ck4277, v4279, cl4280, hS, hM⟩
            unfold ref29_leads_j3 at hM
            refine r_list ?_
            refine wl rfl (ky (v := .int .i64 (IntKind.i64.wrap (g4131 + 1))) hS (y_int hS rfl rfl rfl) rfl rfl fun a hS => ?_)
            refine wl rfl (ky (v := .int .i64 (IntKind.i64.wrap (g4131 + 1))) hS (y_move hS rfl) rfl rfl fun a hS => ?_)
            refine wpList_nil ?_
            try simp only [Exit.then, Exit.inBlock, ↓reduceIte, Nat.reduceEqDiff]
            exact ⟨(out4275, list4278, IntKind.i64.wrap (g4131 + 1)), (Option.some.inj hM).symm, out4275, list4278, (IntKind.i64.wrap (g4131 + 1)), es4276, ck4277, v4279, cl4280, rfl, (hS.meet [0, 1, 2] (by decide) ⟨rfl, rfl, rfl, rfl, rfl, rfl, rfl, rfl, trivial⟩ ⟨rfl, rfl, rfl, trivial⟩ ⟨⟨0, rfl⟩, ⟨1, rfl⟩, ⟨2, rfl⟩, ⟨3, rfl⟩, trivial⟩)⟩
        · replace hM := cf hb4232 hM
          refine c_f hS rfl hb4232 ?_
          refine wp_exit ?_
          try simp only [Exit.then, Exit.inBlock, ↓reduceIte, Nat.reduceEqDiff]
          injection hM with hM
          subst hM
          have hr := hf2 _ rfl
          subst hr
          have hM : ref29_leads_j2 i3319 out4124 list4127 = some f1 := hMo2
          exact ⟨out4124, list4127, es4125, ck4126, v4128, cl4129, (hS.meet [0, 1] (by decide) ⟨rfl, rfl, rfl, rfl, rfl, trivial⟩ ⟨rfl, rfl, trivial⟩ ⟨⟨0, rfl⟩, ⟨1, rfl⟩, ⟨2, rfl⟩, trivial⟩), hM⟩
      · rintro a w ⟨out4003, list4006, es4004, ck4005, v4007, cl4008, hS, hM⟩
        unfold ref29_leads_j2 at hM
        refine r_list ?_
        refine wl rfl (ky (v := .int .i64 i3319) hS (y_move hS rfl) rfl rfl fun a hS => ?_)
        refine wl rfl (ky (v := .int .i64 (IntKind.i64.wrap (i3319 + 1))) hS (y_int hS rfl rfl rfl) rfl rfl fun a hS => ?_)
        refine wl rfl (ky (v := .int .i64 (IntKind.i64.wrap (i3319 + 1))) hS (y_assign hS rfl) rfl rfl fun a hS => ?_)
        refine wpList_nil ?_
        try simp only [Exit.then, Exit.inBlock, ↓reduceIte, Nat.reduceEqDiff]
        exact ⟨(out4003, list4006, IntKind.i64.wrap (i3319 + 1)), (Option.some.inj hM).symm, out4003, list4006, (IntKind.i64.wrap (i3319 + 1)), es4004, ck4005, v4007, cl4008, rfl, (hS.meet [0, 1] (by decide) ⟨rfl, rfl, rfl, rfl, rfl, trivial⟩ ⟨rfl, rfl, trivial⟩ ⟨⟨0, rfl⟩, ⟨1, rfl⟩, ⟨2, rfl⟩, trivial⟩)⟩
    · replace hM := cf hb3780 hM
      refine c_f hS rfl hb3780 ?_
      refine wp_exit ?_
      try simp only [Exit.then, Exit.inBlock, ↓reduceIte, Nat.reduceEqDiff]
      injection hM with hM
      subst hM
      have hr := hf1 _ rfl
      subst hr
      have hM : ref29_leads_j1 out3312 = some y := hMo1
      exact ⟨out3312, es3313, ck3314, (hS.meet [0] (by decide) ⟨rfl, trivial⟩ ⟨rfl, trivial⟩ ⟨⟨1, rfl⟩, trivial⟩), hM⟩
  · rintro a w ⟨out2845, es2846, ck2847, hS, hM⟩
    unfold ref29_leads_j1 at hM
    refine wp_seq_k fun K191 hK191 => ?_
    refine r_list ?_
    refine wl rfl (ky (v := .map (some b1908)) hS (y_move hS rfl) rfl rfl fun a hS => ?_)
    refine wl rfl (ky (v := .map (some b1908)) hS (y_assign hS rfl) rfl rfl fun a hS => ?_)
    refine wpList_nil ?_
    try simp only [Exit.then, Exit.inBlock, ↓reduceIte, Nat.reduceEqDiff]
    refine hK191 _ _ ?_
    refine wp_ret ?_
    injection hM with hM
    subst hM
    try simp only [Exit.then, Exit.inBlock, ↓reduceIte, Nat.reduceEqDiff]
    refine ret_ok hS Tryd.results30 (res_tmp hS rfl res_nil) ?_
    exact ⟨b1908, es2846, ck2847, rfl, hS.retMap ⟨.inr (List.mem_of_getElem? (i := 0) rfl), trivial⟩ 0 rfl 0 rfl⟩

noncomputable def ref23_Sorted_j1 (out4085 : (List KeyD)) : Option (List KeyD) := some (out4085)
noncomputable def ref23_Sorted_j2 (g4802 : Int) (out5784 : (List KeyD)) : Option (Fl ((List KeyD) × Int) ((List KeyD))) := some (.go (out5784, IntKind.i64.wrap (g4802 + 1)))
noncomputable def ref23_Sorted_j3 (out4798 : (List KeyD)) (g4802 : Int) (e5788 : KeyD) (i5898 : Int) (g5939 : Bool) : Option (Fl ((List KeyD) × Int) ((List KeyD))) := cond g5939 ((subI out4798 0 i5898).bind fun l5966 => (subI out4798 i5898 out4798.length).bind fun l5971 => gd (roomB (([] : List KeyD).length + l5966.length)) <| gd (roomB ((([] : List KeyD) ++ l5966).length + ([e5788]).length)) <| gd (roomB (((([] : List KeyD) ++ l5966) ++ ([e5788])).length + l5971.length)) <| ref23_Sorted_j2 g4802 (((([] : List KeyD) ++ l5966) ++ ([e5788])) ++ l5971)) (ref23_Sorted_j2 g4802 out4798)
noncomputable def ref23_Sorted_j4 (out4798 : (List KeyD)) (g4802 : Int) (e5788 : KeyD) (i5898 : Int) : Option (Fl ((List KeyD) × Int) ((List KeyD))) := cond ((i5898 : Int) == (out4798.length : Int)) (ref23_Sorted_j3 out4798 g4802 e5788 i5898 true) ((getI out4798 i5898).bind fun e6001 => ref23_Sorted_j3 out4798 g4802 e5788 i5898 (!((e6001.Kind : Int) == e5788.Kind && e6001.Text.toList == e5788.Text.toList)))
noncomputable def ref23_Sorted_l5 (out4798 : (List KeyD)) (e5788 : KeyD) (i6060 : Int) : Option (Fl (Int) (Int)) := cond (decide ((i6060 : Int) < (out4798.length : Int))) ((getI out4798 i6060).bind fun e6148 => (ref23_Cmp e6148 e5788).bind fun u6157 => cond (decide ((u6157 : Int) < 0)) (some (.go (IntKind.i64.wrap (i6060 + 1)))) (some (.out i6060))) (some (.out i6060))
noncomputable def ref23_Sorted_l6 (l_0 : (List KeyD)) (out4798 : (List KeyD)) (g4802 : Int) : Option (Fl ((List KeyD) × Int) ((List KeyD))) := cond (decide ((g4802 : Int) < (l_0.length : Int))) ((getI l_0 g4802).bind fun e5788 => (loop (fun s : Int => ref23_Sorted_l5 out4798 e5788 s) 0).bind fun r => ref23_Sorted_j4 out4798 g4802 e5788 r) (some (.out out4798))
noncomputable def ref23_Sorted (l_0 : (List KeyD)) : Option (List KeyD) := (loop (fun s : (List KeyD) × Int => ref23_Sorted_l6 l_0 s.1 s.2) (([] : List KeyD), 0)).bind fun r => ref23_Sorted_j1 r
set_option maxRecDepth 100000 in
set_option maxHeartbeats 4000000 in
theorem ref23_Sorted_c (T : Nat → Prop) (W0 : World) (hT : ∀ k, T k → k < W0.heap.size) (hLv : LvP T W0) (l_0 : (List KeyD)) (v1 : Value) (hv1 : SlR R_KeyD T W0 v1 l_0) (y : (List KeyD)) (hM : ref23_Sorted l_0 = some y) : Rets Tryd.prog No 31 [v1] W0 (fun v w' => ∃ (v2 : Value) (cl3 : List Value), v = v2 ∧ OwnR R_KeyD T W0 w' [.own v2 32 R_KeyD.size cl3] 32 v2 cl3 y) := by
  refine enter (c := _) Tryd.func31 rfl T 53 Tryd.ntmps31 hT rfl fun a hS => ?_
  replace hS := hS.fact LvF (LvP.dn hLv)
  replace hS := hS.fact (SlF R_KeyD v1 l_0) (SlR.dn hv1)
  unfold ref23_Sorted at hM
  refine wp_seq_k fun K92 hK92 => ?_
  refine r_list ?_
  refine wl rfl (ky (v := .slice none 0 0) hS (y_assign hS rfl) rfl rfl fun a hS => ?_)
  refine wpList_nil ?_
  try simp only [Exit.then, Exit.inBlock, ↓reduceIte, Nat.reduceEqDiff]
  refine hK92 _ _ ?_
  refine wp_seq_k fun K93 hK93 => ?_
  refine r_list ?_
  refine wl rfl (ky (v := .slice none 0 0) hS (y_assign hS rfl) rfl rfl fun a hS => ?_)
  refine wpList_nil ?_
  try simp only [Exit.then, Exit.inBlock, ↓reduceIte, Nat.reduceEqDiff]
  refine hK93 _ _ ?_
  refine seq_j (J := fun a w => ∃ (out4085 : (List KeyD)) (v4086 : Value) (cl4087 : (List Value)), St W0 No T 53 [(3, v4086)] [.own v4086 32 R_KeyD.size cl4087] [RowsF R_KeyD cl4087 out4085, LvF] a w ∧ ref23_Sorted_j1 out4085 = some y) ?_ ?_
  · skip
    refine wp_seq_k fun K140 hK140 => ?_
    refine r_list ?_
    refine wl rfl (ky (v := v1) hS (y_move hS rfl) rfl rfl fun a hS => ?_)
    refine wl rfl (ky (v := .int .i64 (l_0.length : Int)) hS (y_len (R := R_KeyD) (xs := l_0) hS sl23 rfl 0 rfl) rfl rfl fun a hS => ?_)
    refine wl rfl (ky (v := .int .i64 0) hS (y_move hS rfl) rfl rfl fun a hS => ?_)
    refine wpList_nil ?_
    try simp only [Exit.then, Exit.inBlock, ↓reduceIte, Nat.reduceEqDiff]
    refine hK140 _ _ ?_
    refine wp_block ?_
    replace hS := hS.nilRow R_KeyD 32 (by decide)
    obtain ⟨r1, hl1, hMo1⟩ := bd hM
    refine wp_lp (fun s : (List KeyD) × Int => ref23_Sorted_l6 l_0 s.1 s.2) (fun s a w => ∃ (out4798 : (List KeyD)) (g4802 : Int) (v4799 : Value) (cl4800 : (List Value)), (out4798, g4802) = s ∧ St W0 No T 53 [(3, v4799), (7, v1), (8, .int .i64 (l_0.length : Int)), (9, .int .i64 g4802)] [.own v4799 32 R_KeyD.size cl4800] [RowsF R_KeyD cl4800 out4798, SlF R_KeyD v1 l_0, LvF] a w) hl1 ⟨([] : List KeyD), 0, (.slice none 0 0), ([]), rfl, (hS.meet [0] (by decide) ⟨rfl, rfl, rfl, rfl, trivial⟩ ⟨rfl, trivial⟩ ⟨⟨0, rfl⟩, ⟨1, rfl⟩, ⟨2, rfl⟩, trivial⟩)⟩ ?_
    rintro s a w f1 ⟨out4798, g4802, v4799, cl4800, rfl, hS⟩ hM hf1
    have hM : ref23_Sorted_l6 l_0 out4798 g4802 = some f1 := hM
    unfold ref23_Sorted_l6 at hM
    refine wp_seq_k fun K185 hK185 => ?_
    refine r_list ?_
    refine wl rfl (ky (v := .bool (decide ((g4802 : Int) < (l_0.length : Int)))) hS (y_int hS rfl rfl rfl) rfl rfl fun a hS => ?_)
    refine wpList_nil ?_
    try simp only [Exit.then, Exit.inBlock, ↓reduceIte, Nat.reduceEqDiff]
    refine hK185 _ _ ?_
    refine wp_seq_k fun K186 hK186 => ?_
    rcases bool2 (decide ((g4802 : Int) < (l_0.length : Int))) with hb5460 | hb5460
    · replace hM := ct hb5460 hM
      refine c_t hS rfl hb5460 ?_
      refine wp_skip ?_
      try simp only [Exit.then, Exit.inBlock, ↓reduceIte, Nat.reduceEqDiff]
      refine hK186 _ _ ?_
      refine seq_j (J := fun a w => ∃ (out5784 : (List KeyD)) (v5785 : Value) (cl5786 : (List Value)), St W0 No T 53 [(3, v5785), (7, v1), (8, .int .i64 (l_0.length : Int)), (9, .int .i64 g4802)] [.own v5785 32 R_KeyD.size cl5786] [RowsF R_KeyD cl5786 out5784, SlF R_KeyD v1 l_0, LvF] a w ∧ ref23_Sorted_j2 g4802 out5784 = some f1) ?_ ?_
      · skip
        refine wp_block ?_
        refine wp_seq_k fun K197 hK197 => ?_
        refine r_list ?_
        obtain ⟨e5788, he5788, hM⟩ := bd hM
        refine wl rfl (k_index (R := R_KeyD) hS sl23 ty32 rfl rfl 1 rfl he5788 rfl fun b5789 o5790 cs5792 hr5791 a hS => ?_)
        obtain rfl := hr5791
        refine wl rfl (ky (v := .agg #[.int .i64 e5788.Kind, .string e5788.Text]) hS (y_loadc (k := 0) hS ty32 0 rfl rfl (fun _ h => h.elim) (us := [.int .i64 e5788.Kind, .string e5788.Text]) rfl rfl (fun h => by cases h)) rfl rfl fun a hS => ?_)
        refine wl rfl (k_alloc hS ze32 rfl fun b5794 hnb5796 a w hk hS => ?_)
        refine wl rfl (k_store hS rfl rfl (us := [.int .i64 e5788.Kind, .string e5788.Text]) rfl ty32 0 rfl rfl rfl (oc rfl (oc rfl on)) fun w hk hS => ?_)
        refine wpList_nil ?_
        try simp only [Exit.then, Exit.inBlock, ↓reduceIte, Nat.reduceEqDiff]
        refine hK197 _ _ ?_
        refine wp_seq_k fun K198 hK198 => ?_
        refine r_list ?_
        refine wl rfl (ky (v := .int .i64 0) hS (y_assign hS rfl) rfl rfl fun a hS => ?_)
        refine wpList_nil ?_
        try simp only [Exit.then, Exit.inBlock, ↓reduceIte, Nat.reduceEqDiff]
        refine hK198 _ _ ?_
        refine seq_j (J := fun a w => ∃ (i5898 : Int), St W0 No T 53 [(3, v4799), (5, .pointer (some ⟨b5794, 0, none⟩)), (6, .int .i64 i5898), (7, v1), (8, .int .i64 (l_0.length : Int)), (9, .int .i64 g4802)] [.own v4799 32 R_KeyD.size cl4800, .box b5794 [.int .i64 e5788.Kind, .string e5788.Text] 32] [RowsF R_KeyD cl4800 out4798, SlF R_KeyD v1 l_0, LvF] a w ∧ ref23_Sorted_j4 out4798 g4802 e5788 i5898 = some f1) ?_ ?_
        · skip
          refine wp_block ?_
          obtain ⟨r2, hl2, hMo2⟩ := bd hM
          refine wp_lp (fun s : Int => ref23_Sorted_l5 out4798 e5788 s) (fun s a w => ∃ (i6060 : Int), i6060 = s ∧ St W0 No T 53 [(3, v4799), (5, .pointer (some ⟨b5794, 0, none⟩)), (6, .int .i64 i6060), (7, v1), (8, .int .i64 (l_0.length : Int)), (9, .int .i64 g4802)] [.own v4799 32 R_KeyD.size cl4800, .box b5794 [.int .i64 e5788.Kind, .string e5788.Text] 32] [RowsF R_KeyD cl4800 out4798, SlF R_KeyD v1 l_0, LvF] a w) hl2 ⟨0, rfl, (hS.meet [1, 0] (by decide) ⟨rfl, rfl, rfl, rfl, rfl, rfl, trivial⟩ ⟨rfl, rfl, trivial⟩ ⟨⟨1, rfl⟩, ⟨2, rfl⟩, ⟨3, rfl⟩, trivial⟩)⟩ ?_
          rintro s a w f2 ⟨i6060, rfl, hS⟩ hM hf2
          have hM : ref23_Sorted_l5 out4798 e5788 i6060 = some f2 := hM
          unfold ref23_Sorted_l5 at hM
          refine wp_seq_k fun K207 hK207 => ?_
          refine wp_seq_k fun K208 hK208 => ?_
          refine draws [] hS mixed rfl (fun c a d v w h => by cases d <;> exact h) fun w hQ hS => ?_
          refine dy 0 (v := .int .i64 i6060) rfl (by kernel_rfl) (by kernel_rfl) (by kernel_rfl) rfl hQ hS (y_move hS rfl) rfl rfl rfl fun a hS => ?_
          refine dy 1 (v := v4799) rfl (by kernel_rfl) (by kernel_rfl) (by kernel_rfl) rfl hQ hS (y_move hS rfl) rfl rfl rfl fun a hS => ?_
          refine dy 2 (v := .int .i64 (out4798.length : Int)) rfl (by kernel_rfl) (by kernel_rfl) (by kernel_rfl) rfl hQ hS (y_leno (R := R_KeyD) (xs := out4798) hS sl23 rfl 0 rfl 0 rfl) rfl rfl rfl fun a hS => ?_
          refine dy 3 (v := .bool (decide ((i6060 : Int) < (out4798.length : Int)))) rfl (by kernel_rfl) (by kernel_rfl) (by kernel_rfl) rfl hQ hS (y_int hS rfl rfl rfl) rfl rfl rfl fun a hS => ?_
          refine dy 4 (v := .bool (decide ((i6060 : Int) < (out4798.length : Int)))) rfl (by kernel_rfl) (by kernel_rfl) (by kernel_rfl) rfl hQ hS (y_move hS rfl) rfl rfl rfl fun a hS => ?_
          rcases bool2 (decide ((i6060 : Int) < (out4798.length : Int))) with hb6147 | hb6147
          · replace hM := ct hb6147 hM
            refine dyg 5 (v := v4799) rfl (by kernel_rfl) (by kernel_rfl) (by kernel_rfl) rfl hQ hS (y_move hS rfl) rfl rfl rfl hb6147 rfl rfl fun a hS => ?_
            refine dyg 6 (v := .int .i64 i6060) rfl (by kernel_rfl) (by kernel_rfl) (by kernel_rfl) rfl hQ hS (y_move hS rfl) rfl rfl rfl hb6147 rfl rfl fun a hS => ?_
            obtain ⟨e6148, he6148, hM⟩ := bd hM
            obtain ⟨b6149, o6150, p6155, cs6152, hr6151, hO6153, hC6154, hy6156⟩ := d_indexo (R := R_KeyD) hS sl23 ty32 0 rfl 0 rfl he6148
            obtain rfl := hr6151
            refine dyg 7 (v := .pointer (some ⟨b6149, o6150, none⟩)) rfl (by kernel_rfl) (by kernel_rfl) (by kernel_rfl) rfl hQ hS (hy6156 rfl rfl) rfl rfl rfl hb6147 rfl rfl fun a hS => ?_
            refine dyg (l := []) 8 (v := .agg #[.int .i64 e6148.Kind, .string e6148.Text]) rfl (by kernel_rfl) (by kernel_rfl) (by kernel_rfl) (by kernel_rfl) hQ hS (y_loado (k := 0) hS ty32 0 rfl hO6153 hC6154 rfl eo_nil (us := [.int .i64 e6148.Kind, .string e6148.Text]) rfl rfl (fun h => by cases h)) rfl rfl rfl hb6147 rfl rfl fun a hS => ?_
            refine dyg (l := []) 9 (v := .agg #[.int .i64 e5788.Kind, .string e5788.Text]) rfl (by kernel_rfl) (by kernel_rfl) (by kernel_rfl) (by kernel_rfl) hQ hS (y_load hS rfl ty32 1 rfl eo_nil (us := [.int .i64 e5788.Kind, .string e5788.Text]) rfl rfl (fun h => by cases h)) rfl rfl rfl hb6147 rfl rfl fun a hS => ?_
            obtain ⟨u6157, hu6157, hM⟩ := bd hM
            refine wpE_oneg (i := 10) rfl (by kernel_rfl) hS rfl rfl rfl hb6147 (k_call hS ci35 rfl rfl (ref23_Cmp_c _ _ hS.dlt (hS.get 2 rfl) e6148 e5788 _ hu6157) fun _ w hR a hk hA => ⟨stN (hk), ?_⟩)
            have he := Eq.symm hR
            subst he
            have hS := hA [] (fun r hr => by cases hr) List.Pairwise.nil
            refine dyg 11 (v := .bool (decide ((u6157 : Int) < 0))) rfl (by kernel_rfl) (by kernel_rfl) (by kernel_rfl) rfl hQ hS (y_int hS rfl rfl rfl) rfl rfl rfl hb6147 rfl rfl fun a hS => ?_
            refine dy 12 (v := .bool (decide ((u6157 : Int) < 0))) rfl (by kernel_rfl) (by kernel_rfl) (by kernel_rfl) rfl hQ hS (y_pickt hS rfl hb6147 rfl) rfl rfl rfl fun a hS => ?_
            refine wpE_done (by kernel_rfl) ?_ _
            try simp only [Exit.then, Exit.inBlock, ↓reduceIte, Nat.reduceEqDiff]
            refine hK208 _ _ ?_
            rcases bool2 (decide ((u6157 : Int) < 0)) with hb6159 | hb6159
            · replace hM := ct hb6159 hM
              refine c_t hS rfl hb6159 ?_
              refine wp_skip ?_
              try simp only [Exit.then, Exit.inBlock, ↓reduceIte, Nat.reduceEqDiff]
              refine hK207 _ _ ?_
              refine wp_block ?_
              refine r_list ?_
              refine wl rfl (ky (v := .int .i64 i6060) hS (y_move hS rfl) rfl rfl fun a hS => ?_)
              refine wl rfl (ky (v := .int .i64 (IntKind.i64.wrap (i6060 + 1))) hS (y_int hS rfl rfl rfl) rfl rfl fun a hS => ?_)
              refine wl rfl (ky (v := .int .i64 (IntKind.i64.wrap (i6060 + 1))) hS (y_assign hS rfl) rfl rfl fun a hS => ?_)
              refine wpList_nil ?_
              try simp only [Exit.then, Exit.inBlock, ↓reduceIte, Nat.reduceEqDiff]
              exact ⟨IntKind.i64.wrap (i6060 + 1), (Option.some.inj hM).symm, (IntKind.i64.wrap (i6060 + 1)), rfl, (hS.meet [0, 1] (by decide) ⟨rfl, rfl, rfl, rfl, rfl, rfl, trivial⟩ ⟨rfl, rfl, trivial⟩ ⟨⟨0, rfl⟩, ⟨1, rfl⟩, ⟨2, rfl⟩, trivial⟩)⟩
            · replace hM := cf hb6159 hM
              refine c_f hS rfl hb6159 ?_
              refine wp_exit ?_
              try simp only [Exit.then, Exit.inBlock, ↓reduceIte, Nat.reduceEqDiff]
              injection hM with hM
              subst hM
              have hr := hf2 _ rfl
              subst hr
              have hM : ref23_Sorted_j4 out4798 g4802 e5788 i6060 = some f1 := hMo2
              exact ⟨i6060, (hS.meet [0, 1] (by decide) ⟨rfl, rfl, rfl, rfl, rfl, rfl, trivial⟩ ⟨rfl, rfl, trivial⟩ ⟨⟨0, rfl⟩, ⟨1, rfl⟩, ⟨2, rfl⟩, trivial⟩), hM⟩
          · replace hM := cf hb6147 hM
            refine dyn 5 rfl (by kernel_rfl) (by kernel_rfl) (by kernel_rfl) hQ hS rfl rfl rfl hb6147 rfl rfl fun a hS => ?_
            refine dyn 6 rfl (by kernel_rfl) (by kernel_rfl) (by kernel_rfl) hQ hS rfl rfl rfl hb6147 rfl rfl fun a hS => ?_
            refine dyn 7 rfl (by kernel_rfl) (by kernel_rfl) (by kernel_rfl) hQ hS rfl rfl rfl hb6147 rfl rfl fun a hS => ?_
            refine dyn 8 rfl (by kernel_rfl) (by kernel_rfl) (by kernel_rfl) hQ hS rfl rfl rfl hb6147 rfl rfl fun a hS => ?_
            refine dyn 9 rfl (by kernel_rfl) (by kernel_rfl) (by kernel_rfl) hQ hS rfl rfl rfl hb6147 rfl rfl fun a hS => ?_
            refine dyn 10 rfl (by kernel_rfl) (by kernel_rfl) (by kernel_rfl) hQ hS rfl rfl rfl hb6147 rfl rfl fun a hS => ?_
            refine dyn 11 rfl (by kernel_rfl) (by kernel_rfl) (by kernel_rfl) hQ hS rfl rfl rfl hb6147 rfl rfl fun a hS => ?_
            refine dy 12 (v := .bool false) rfl (by kernel_rfl) (by kernel_rfl) (by kernel_rfl) rfl hQ hS (y_pickf hS rfl hb6147 rfl) rfl rfl rfl fun a hS => ?_
            refine wpE_done (by kernel_rfl) ?_ _
            try simp only [Exit.then, Exit.inBlock, ↓reduceIte, Nat.reduceEqDiff]
            refine hK208 _ _ ?_
            refine c_f hS rfl rfl ?_
            refine wp_exit ?_
            try simp only [Exit.then, Exit.inBlock, ↓reduceIte, Nat.reduceEqDiff]
            injection hM with hM
            subst hM
            have hr := hf2 _ rfl
            subst hr
            have hM : ref23_Sorted_j4 out4798 g4802 e5788 i6060 = some f1 := hMo2
            exact ⟨i6060, (hS.meet [0, 1] (by decide) ⟨rfl, rfl, rfl, rfl, rfl, rfl, trivial⟩ ⟨rfl, rfl, trivial⟩ ⟨⟨0, rfl⟩, ⟨1, rfl⟩, ⟨2, rfl⟩, trivial⟩), hM⟩
        · rintro a w ⟨i5898, hS, hM⟩
          unfold ref23_Sorted_j4 at hM
          refine seq_j (J := fun a w => ∃ (g5939 : Bool), St W0 No T 53 [(3, v4799), (5, .pointer (some ⟨b5794, 0, none⟩)), (6, .int .i64 i5898), (7, v1), (8, .int .i64 (l_0.length : Int)), (9, .int .i64 g4802), (39, .bool g5939)] [.own v4799 32 R_KeyD.size cl4800, .box b5794 [.int .i64 e5788.Kind, .string e5788.Text] 32] [RowsF R_KeyD cl4800 out4798, SlF R_KeyD v1 l_0, LvF] a w ∧ ref23_Sorted_j3 out4798 g4802 e5788 i5898 g5939 = some f1) ?_ ?_
          · skip
            refine draws [] hS mixed rfl (fun c a d v w h => by cases d <;> exact h) fun w hQ hS => ?_
            refine dy 0 (v := .int .i64 i5898) rfl (by kernel_rfl) (by kernel_rfl) (by kernel_rfl) rfl hQ hS (y_move hS rfl) rfl rfl rfl fun a hS => ?_
            refine dy 1 (v := v4799) rfl (by kernel_rfl) (by kernel_rfl) (by kernel_rfl) rfl hQ hS (y_move hS rfl) rfl rfl rfl fun a hS => ?_
            refine dy 2 (v := .int .i64 (out4798.length : Int)) rfl (by kernel_rfl) (by kernel_rfl) (by kernel_rfl) rfl hQ hS (y_leno (R := R_KeyD) (xs := out4798) hS sl23 rfl 0 rfl 0 rfl) rfl rfl rfl fun a hS => ?_
            refine dy 3 (v := .bool ((i5898 : Int) == (out4798.length : Int))) rfl (by kernel_rfl) (by kernel_rfl) (by kernel_rfl) rfl hQ hS (y_int hS rfl rfl rfl) rfl rfl rfl fun a hS => ?_
            refine dy 4 (v := .bool ((i5898 : Int) == (out4798.length : Int))) rfl (by kernel_rfl) (by kernel_rfl) (by kernel_rfl) rfl hQ hS (y_move hS rfl) rfl rfl rfl fun a hS => ?_
            rcases bool2 ((i5898 : Int) == (out4798.length : Int)) with hb6000 | hb6000
            · replace hM := ct hb6000 hM
              refine dyn 5 rfl (by kernel_rfl) (by kernel_rfl) (by kernel_rfl) hQ hS rfl rfl rfl hb6000 rfl rfl fun a hS => ?_
              refine dyn 6 rfl (by kernel_rfl) (by kernel_rfl) (by kernel_rfl) hQ hS rfl rfl rfl hb6000 rfl rfl fun a hS => ?_
              refine dyn 7 rfl (by kernel_rfl) (by kernel_rfl) (by kernel_rfl) hQ hS rfl rfl rfl hb6000 rfl rfl fun a hS => ?_
              refine dyn 8 rfl (by kernel_rfl) (by kernel_rfl) (by kernel_rfl) hQ hS rfl rfl rfl hb6000 rfl rfl fun a hS => ?_
              refine dyn 9 rfl (by kernel_rfl) (by kernel_rfl) (by kernel_rfl) hQ hS rfl rfl rfl hb6000 rfl rfl fun a hS => ?_
              refine dyn 10 rfl (by kernel_rfl) (by kernel_rfl) (by kernel_rfl) hQ hS rfl rfl rfl hb6000 rfl rfl fun a hS => ?_
              refine dy 11 (v := .bool true) rfl (by kernel_rfl) (by kernel_rfl) (by kernel_rfl) rfl hQ hS (y_pickt hS rfl hb6000 rfl) rfl rfl rfl fun a hS => ?_
              refine wpE_done (by kernel_rfl) ?_ _
              try simp only [Exit.then, Exit.inBlock, ↓reduceIte, Nat.reduceEqDiff]
              exact ⟨true, (hS.meet [0, 1] (by decide) ⟨rfl, rfl, rfl, rfl, rfl, rfl, rfl, trivial⟩ ⟨rfl, rfl, trivial⟩ ⟨⟨0, rfl⟩, ⟨1, rfl⟩, ⟨2, rfl⟩, trivial⟩), hM⟩
            · replace hM := cf hb6000 hM
              refine dyg 5 (v := v4799) rfl (by kernel_rfl) (by kernel_rfl) (by kernel_rfl) rfl hQ hS (y_move hS rfl) rfl rfl rfl hb6000 rfl rfl fun a hS => ?_
              refine dyg 6 (v := .int .i64 i5898) rfl (by kernel_rfl) (by kernel_rfl) (by kernel_rfl) rfl hQ hS (y_move hS rfl) rfl rfl rfl hb6000 rfl rfl fun a hS => ?_
              obtain ⟨e6001, he6001, hM⟩ := bd hM
              obtain ⟨b6002, o6003, p6008, cs6005, hr6004, hO6006, hC6007, hy6009⟩ := d_indexo (R := R_KeyD) hS sl23 ty32 0 rfl 0 rfl he6001
              obtain rfl := hr6004
              refine dyg 7 (v := .pointer (some ⟨b6002, o6003, none⟩)) rfl (by kernel_rfl) (by kernel_rfl) (by kernel_rfl) rfl hQ hS (hy6009 rfl rfl) rfl rfl rfl hb6000 rfl rfl fun a hS => ?_
              refine dyg (l := []) 8 (v := .agg #[.int .i64 e6001.Kind, .string e6001.Text]) rfl (by kernel_rfl) (by kernel_rfl) (by kernel_rfl) (by kernel_rfl) hQ hS (y_loado (k := 0) hS ty32 0 rfl hO6006 hC6007 rfl eo_nil (us := [.int .i64 e6001.Kind, .string e6001.Text]) rfl rfl (fun h => by cases h)) rfl rfl rfl hb6000 rfl rfl fun a hS => ?_
              refine dyg (l := []) 9 (v := .agg #[.int .i64 e5788.Kind, .string e5788.Text]) rfl (by kernel_rfl) (by kernel_rfl) (by kernel_rfl) (by kernel_rfl) hQ hS (y_load hS rfl ty32 1 rfl eo_nil (us := [.int .i64 e5788.Kind, .string e5788.Text]) rfl rfl (fun h => by cases h)) rfl rfl rfl hb6000 rfl rfl fun a hS => ?_
              refine dyg 10 (v := .bool (!((e6001.Kind : Int) == e5788.Kind && e6001.Text.toList == e5788.Text.toList))) rfl (by kernel_rfl) (by kernel_rfl) (by kernel_rfl) rfl hQ hS (eq32n hS rfl rfl) rfl rfl rfl hb6000 rfl rfl fun a hS => ?_
              refine dy 11 (v := .bool (!((e6001.Kind : Int) == e5788.Kind && e6001.Text.toList == e5788.Text.toList))) rfl (by kernel_rfl) (by kernel_rfl) (by kernel_rfl) rfl hQ hS (y_pickf hS rfl hb6000 rfl) rfl rfl rfl fun a hS => ?_
              refine wpE_done (by kernel_rfl) ?_ _
              try simp only [Exit.then, Exit.inBlock, ↓reduceIte, Nat.reduceEqDiff]
              exact ⟨(!((e6001.Kind : Int) == e5788.Kind && e6001.Text.toList == e5788.Text.toList)), (hS.meet [0, 1] (by decide) ⟨rfl, rfl, rfl, rfl, rfl, rfl, rfl, trivial⟩ ⟨rfl, rfl, trivial⟩ ⟨⟨0, rfl⟩, ⟨1, rfl⟩, ⟨2, rfl⟩, trivial⟩), hM⟩
          · rintro a w ⟨g5939, hS, hM⟩
            unfold ref23_Sorted_j3 at hM
            rcases bool2 (g5939) with hb5940 | hb5940
            · replace hM := ct hb5940 hM
              refine c_t hS rfl hb5940 ?_
              replace hS := hS.nilRow R_KeyD 32 (by decide)
              refine draws [(3, .blk (Value.ownBlock (.slice none 0 0))), (6, .any), (10, .any)] hS mixed rfl (fun c a d v w h => by cases d <;> exact h) fun w hQ hS => ?_
              refine dy 0 (v := v4799) rfl (by kernel_rfl) (by kernel_rfl) (by kernel_rfl) rfl hQ hS (y_move hS rfl) rfl rfl rfl fun a hS => ?_
              refine dy 1 (v := .int .i64 i5898) rfl (by kernel_rfl) (by kernel_rfl) (by kernel_rfl) rfl hQ hS (y_move hS rfl) rfl rfl rfl fun a hS => ?_
              obtain ⟨l5966, hl5966, hM⟩ := bd hM
              obtain ⟨v5967, hv5968, hy5969⟩ := d_view (R := R_KeyD) hS sl23 ty32 1 rfl 1 rfl hl5966
              refine dy 2 (v := v5967) rfl (by kernel_rfl) (by kernel_rfl) (by kernel_rfl) rfl hQ hS (hy5969 (k1 := .i64) rfl (.inr ⟨rfl, rfl⟩) (.inl ⟨_, rfl, rfl⟩)) rfl rfl rfl fun a hS => ?_
              refine dy (l := [.blk (Value.ownBlock (.slice none 0 0))]) 4 (v := .agg #[.int .i64 e5788.Kind, .string e5788.Text]) rfl (by kernel_rfl) (by kernel_rfl) (by kernel_rfl) (by kernel_rfl) hQ hS (y_load hS rfl ty32 2 rfl (eo_ne hS 2 rfl rfl 0 rfl rfl (by decide) eo_nil) (us := [.int .i64 e5788.Kind, .string e5788.Text]) rfl rfl (fun h => by cases h)) rfl rfl rfl fun a hS => ?_
              refine dy 7 (v := v4799) rfl (by kernel_rfl) (by kernel_rfl) (by kernel_rfl) rfl hQ hS (y_move hS rfl) rfl rfl rfl fun a hS => ?_
              refine dy 8 (v := .int .i64 i5898) rfl (by kernel_rfl) (by kernel_rfl) (by kernel_rfl) rfl hQ hS (y_move hS rfl) rfl rfl rfl fun a hS => ?_
              obtain ⟨l5971, hl5971, hM⟩ := bd hM
              obtain ⟨v5972, hv5973, hy5974⟩ := d_view (R := R_KeyD) hS sl23 ty32 1 rfl 1 rfl hl5971
              refine dy 9 (v := v5972) rfl (by kernel_rfl) (by kernel_rfl) (by kernel_rfl) rfl hQ hS (hy5974 (k2 := .i64) rfl (.inl ⟨_, rfl, rfl⟩) (.inr ⟨rfl, rfl⟩)) rfl rfl rfl fun a hS => ?_
              obtain ⟨hg5976, hM⟩ := gd_some hM
              refine wpE_two (i := 3) (j := 5) rfl rfl (by kernel_rfl) rfl rfl ?_ ?_
              · skip
                skip
                replace hS := hS.freeze (R := R_KeyD) 1 rfl 1 rfl
                replace hS := hS.fact (SlF R_KeyD v5967 l5966) (hv5968 _ _ (hS.get 0 rfl))
                refine id (k_apps (R := R_KeyD) (xs := ([] : List KeyD)) (ys := l5966) hS el23 (by decide) (by decide) rfl rfl 0 rfl 2 rfl 0 rfl hg5976 rfl fun v5977 cl5978 a w hk hS => ⟨stM rfl hk etOwn, ?_⟩)
                refine wpE_one (i := 5) rfl (by kernel_rfl) rfl (k_bslice (ps := [(0, .tmp 44)]) hS el23 ze32 (zl := [.int .i64 0, .string (ByteArray.mk #[])]) (by kernel_rfl) rfl (us := [[.int .i64 e5788.Kind, .string e5788.Text]]) ⟨rfl, trivial⟩ (ws := [.int .i64 e5788.Kind, .string e5788.Text]) rfl rfl rfl rfl fun b5980 a w hk hS => ⟨stN (hk), ?_⟩)
                replace hS := hS.lit (R := R_KeyD) (us := [.int .i64 e5788.Kind, .string e5788.Text]) (xs := [e5788]) 0 rfl (by decide) (RowsOk.one_ (R := R_KeyD) (x := e5788) rfl) rfl rfl
                replace hS := hS.freeze (R := R_KeyD) 0 rfl 0 rfl
                obtain ⟨hg5982, hM⟩ := gd_some hM
                refine wpE_one (i := 6) rfl (by kernel_rfl) rfl (k_apps (R := R_KeyD) (xs := (([] : List KeyD) ++ l5966)) (ys := [e5788]) hS el23 (by decide) (by decide) rfl rfl 0 rfl 2 rfl 0 rfl hg5982 rfl fun v5983 cl5984 a w hk hS => ⟨stM rfl hk etAny, ?_⟩)
                replace hS := hS.fact (SlF R_KeyD v5972 l5971) (hv5973 _ _ (hS.get 5 rfl))
                obtain ⟨hg5986, hM⟩ := gd_some hM
                refine wpE_one (i := 10) rfl (by kernel_rfl) rfl (k_apps (R := R_KeyD) (xs := ((([] : List KeyD) ++ l5966) ++ ([e5788]))) (ys := l5971) hS el23 (by decide) (by decide) rfl rfl 0 rfl 1 rfl 0 rfl hg5986 rfl fun v5987 cl5988 a w hk hS => ⟨stM rfl hk etAny, ?_⟩)
                refine dy 11 (v := v5987) rfl (by kernel_rfl) (by kernel_rfl) (by kernel_rfl) rfl hQ hS (y_assign hS rfl) rfl rfl rfl fun a hS => ?_
                refine wpE_done (by kernel_rfl) ?_ _
                try simp only [Exit.then, Exit.inBlock, ↓reduceIte, Nat.reduceEqDiff]
                exact ⟨(((([] : List KeyD) ++ l5966) ++ ([e5788])) ++ l5971), v5987, cl5988, (hS.meet [0] (by decide) ⟨rfl, rfl, rfl, rfl, trivial⟩ ⟨rfl, trivial⟩ ⟨⟨0, rfl⟩, ⟨10, rfl⟩, ⟨11, rfl⟩, trivial⟩), hM⟩
              · skip
                skip
                refine id (k_bslice (ps := [(0, .tmp 44)]) hS el23 ze32 (zl := [.int .i64 0, .string (ByteArray.mk #[])]) (by kernel_rfl) rfl (us := [[.int .i64 e5788.Kind, .string e5788.Text]]) ⟨rfl, trivial⟩ (ws := [.int .i64 e5788.Kind, .string e5788.Text]) rfl rfl rfl rfl fun b5977 a w hk hS => ⟨stN (hk), ?_⟩)
                replace hS := hS.freeze (R := R_KeyD) 2 rfl 1 rfl
                replace hS := hS.fact (SlF R_KeyD v5967 l5966) (hv5968 _ _ (hS.get 0 rfl))
                refine wpE_one (i := 3) rfl (by kernel_rfl) rfl (k_apps (R := R_KeyD) (xs := ([] : List KeyD)) (ys := l5966) hS el23 (by decide) (by decide) rfl rfl 1 rfl 2 rfl 0 rfl hg5976 rfl fun v5979 cl5980 a w hk hS => ⟨stM rfl hk etOwn, ?_⟩)
                replace hS := hS.lit (R := R_KeyD) (us := [.int .i64 e5788.Kind, .string e5788.Text]) (xs := [e5788]) 0 rfl (by decide) (RowsOk.one_ (R := R_KeyD) (x := e5788) rfl) rfl rfl
                replace hS := hS.freeze (R := R_KeyD) 0 rfl 0 rfl
                obtain ⟨hg5982, hM⟩ := gd_some hM
                refine wpE_one (i := 6) rfl (by kernel_rfl) rfl (k_apps (R := R_KeyD) (xs := (([] : List KeyD) ++ l5966)) (ys := [e5788]) hS el23 (by decide) (by decide) rfl rfl 0 rfl 2 rfl 0 rfl hg5982 rfl fun v5983 cl5984 a w hk hS => ⟨stM rfl hk etAny, ?_⟩)
                replace hS := hS.fact (SlF R_KeyD v5972 l5971) (hv5973 _ _ (hS.get 5 rfl))
                obtain ⟨hg5986, hM⟩ := gd_some hM
                refine wpE_one (i := 10) rfl (by kernel_rfl) rfl (k_apps (R := R_KeyD) (xs := ((([] : List KeyD) ++ l5966) ++ ([e5788]))) (ys := l5971) hS el23 (by decide) (by decide) rfl rfl 0 rfl 1 rfl 0 rfl hg5986 rfl fun v5987 cl5988 a w hk hS => ⟨stM rfl hk etAny, ?_⟩)
                refine dy 11 (v := v5987) rfl (by kernel_rfl) (by kernel_rfl) (by kernel_rfl) rfl hQ hS (y_assign hS rfl) rfl rfl rfl fun a hS => ?_
                refine wpE_done (by kernel_rfl) ?_ _
                try simp only [Exit.then, Exit.inBlock, ↓reduceIte, Nat.reduceEqDiff]
                exact ⟨(((([] : List KeyD) ++ l5966) ++ ([e5788])) ++ l5971), v5987, cl5988, (hS.meet [0] (by decide) ⟨rfl, rfl, rfl, rfl, trivial⟩ ⟨rfl, trivial⟩ ⟨⟨0, rfl⟩, ⟨10, rfl⟩, ⟨11, rfl⟩, trivial⟩), hM⟩
            · replace hM := cf hb5940 hM
              refine c_f hS rfl hb5940 ?_
              refine wp_skip ?_
              try simp only [Exit.then, Exit.inBlock, ↓reduceIte, Nat.reduceEqDiff]
              exact ⟨out4798, v4799, cl4800, (hS.meet [0] (by decide) ⟨rfl, rfl, rfl, rfl, trivial⟩ ⟨rfl, trivial⟩ ⟨⟨0, rfl⟩, ⟨1, rfl⟩, ⟨2, rfl⟩, trivial⟩), hM⟩
      · rintro a w ⟨out5784, v5785, cl5786, hS, hM⟩
        unfold ref23_Sorted_j2 at hM
        refine r_list ?_
        refine wl rfl (ky (v := .int .i64 (IntKind.i64.wrap (g4802 + 1))) hS (y_int hS rfl rfl rfl) rfl rfl fun a hS => ?_)
        refine wl rfl (ky (v := .int .i64 (IntKind.i64.wrap (g4802 + 1))) hS (y_move hS rfl) rfl rfl fun a hS => ?_)
        refine wpList_nil ?_
        try simp only [Exit.then, Exit.inBlock, ↓reduceIte, Nat.reduceEqDiff]
        exact ⟨(out5784, IntKind.i64.wrap (g4802 + 1)), (Option.some.inj hM).symm, out5784, (IntKind.i64.wrap (g4802 + 1)), v5785, cl5786, rfl, (hS.meet [0] (by decide) ⟨rfl, rfl, rfl, rfl, trivial⟩ ⟨rfl, trivial⟩ ⟨⟨0, rfl⟩, ⟨1, rfl⟩, ⟨2, rfl⟩, trivial⟩)⟩
    · replace hM := cf hb5460 hM
      refine c_f hS rfl hb5460 ?_
      refine wp_exit ?_
      try simp only [Exit.then, Exit.inBlock, ↓reduceIte, Nat.reduceEqDiff]
      injection hM with hM
      subst hM
      have hr := hf1 _ rfl
      subst hr
      have hM : ref23_Sorted_j1 out4798 = some y := hMo1
      exact ⟨out4798, v4799, cl4800, (hS.meet [0] (by decide) ⟨rfl, trivial⟩ ⟨rfl, trivial⟩ ⟨⟨0, rfl⟩, ⟨2, rfl⟩, trivial⟩), hM⟩
  · rintro a w ⟨out4085, v4086, cl4087, hS, hM⟩
    unfold ref23_Sorted_j1 at hM
    refine wp_seq_k fun K139 hK139 => ?_
    refine r_list ?_
    refine wl rfl (ky (v := v4086) hS (y_move hS rfl) rfl rfl fun a hS => ?_)
    refine wl rfl (ky (v := v4086) hS (y_assign hS rfl) rfl rfl fun a hS => ?_)
    refine wpList_nil ?_
    try simp only [Exit.then, Exit.inBlock, ↓reduceIte, Nat.reduceEqDiff]
    refine hK139 _ _ ?_
    refine wp_ret ?_
    injection hM with hM
    subst hM
    try simp only [Exit.then, Exit.inBlock, ↓reduceIte, Nat.reduceEqDiff]
    refine ret_ok hS Tryd.results31 (res_tmp hS rfl res_nil) ?_
    exact ⟨v4086, cl4087, rfl, hS.retOwn ⟨.inr (List.mem_of_getElem? (i := 0) rfl), trivial⟩ 0 rfl 0 rfl⟩

noncomputable def ref29_Of_j1 (out1085 : (List KeyD)) : Option (List KeyD) := (ref23_Sorted out1085).bind fun u1089 => some (u1089)
noncomputable def ref29_Of_j2 (g1302 : Int) (out1602 : (List KeyD)) : Option (Fl ((List KeyD) × Int) ((List KeyD))) := some (.go (out1602, IntKind.i64.wrap (g1302 + 1)))
noncomputable def ref29_Of_j3 (out1298 : (List KeyD)) (g1302 : Int) (e1606 : RecordD) (g1668 : Bool) : Option (Fl ((List KeyD) × Int) ((List KeyD))) := cond g1668 (gd (roomB (out1298.length + ([e1606.Key]).length)) <| ref29_Of_j2 g1302 (out1298 ++ ([e1606.Key]))) (ref29_Of_j2 g1302 out1298)
noncomputable def ref29_Of_l4 (l_0 : (List RecordD)) (revision_ : Int) (k_2 : KeyD) (u669 : (List (KeyD × Bool))) (out1298 : (List KeyD)) (g1302 : Int) : Option (Fl ((List KeyD) × Int) ((List KeyD))) := cond (decide ((g1302 : Int) < (l_0.length : Int))) ((getI l_0 g1302).bind fun e1606 => cond (!((e1606.Key.Kind : Int) == k_2.Kind && e1606.Key.Text.toList == k_2.Text.toList)) ((some ((mget keq_KeyD e1606.Key u669).getD false)).bind fun u1690 => cond u1690 ((ref29_leads l_0 revision_ e1606.Key).bind fun u1695 => (some ((mget keq_KeyD k_2 u1695).getD false)).bind fun u1698 => ref29_Of_j3 out1298 g1302 e1606 u1698) (ref29_Of_j3 out1298 g1302 e1606 false)) (ref29_Of_j3 out1298 g1302 e1606 false)) (some (.out out1298))
noncomputable def ref29_Of (l_0 : (List RecordD)) (revision_ : Int) (k_2 : KeyD) : Option (List KeyD) := (ref29_open l_0 revision_ k_2).bind fun u662 => cond (!(u662)) (some ([k_2])) ((ref29_leads l_0 revision_ k_2).bind fun u669 => (loop (fun s : (List KeyD) × Int => ref29_Of_l4 l_0 revision_ k_2 u669 s.1 s.2) ([k_2], 0)).bind fun r => ref29_Of_j1 r)
set_option maxRecDepth 100000 in
set_option maxHeartbeats 4000000 in
theorem ref29_Of_c (T : Nat → Prop) (W0 : World) (hT : ∀ k, T k → k < W0.heap.size) (hLv : LvP T W0) (l_0 : (List RecordD)) (revision_ : Int) (k_2 : KeyD) (v1 : Value) (hv1 : SlR R_RecordD T W0 v1 l_0) (y : (List KeyD)) (hM : ref29_Of l_0 revision_ k_2 = some y) : Rets Tryd.prog No 14 [v1, .int .i64 revision_, .agg #[.int .i64 k_2.Kind, .string k_2.Text]] W0 (fun v w' => ∃ (v2 : Value) (cl3 : List Value), v = v2 ∧ OwnR R_KeyD T W0 w' [.own v2 32 R_KeyD.size cl3] 32 v2 cl3 y) := by
  refine enter (c := _) Tryd.func14 rfl T 57 Tryd.ntmps14 hT rfl fun a hS => ?_
  replace hS := hS.fact LvF (LvP.dn hLv)
  replace hS := hS.fact (SlF R_RecordD v1 l_0) (SlR.dn hv1)
  unfold ref29_Of at hM
  refine wp_seq_k fun K22 hK22 => ?_
  refine r_list ?_
  refine wl rfl (k_box hS rfl (cs := [.int .i64 k_2.Kind, .string k_2.Text]) rfl rfl fun b659 hnb661 a w hk hS => ?_)
  refine wl rfl (ky (v := .slice none 0 0) hS (y_assign hS rfl) rfl rfl fun a hS => ?_)
  refine wpList_nil ?_
  try simp only [Exit.then, Exit.inBlock, ↓reduceIte, Nat.reduceEqDiff]
  refine hK22 _ _ ?_
  refine wp_seq_k fun K23 hK23 => ?_
  refine wp_seq_k fun K24 hK24 => ?_
  refine r_list ?_
  refine wl rfl (ky (v := v1) hS (y_move hS rfl) rfl rfl fun a hS => ?_)
  refine wl rfl (ky (v := .int .i64 revision_) hS (y_move hS rfl) rfl rfl fun a hS => ?_)
  refine wl rfl (ky (v := .agg #[.int .i64 k_2.Kind, .string k_2.Text]) hS (y_load hS rfl ty32 0 rfl id (us := [.int .i64 k_2.Kind, .string k_2.Text]) rfl rfl (fun h => by cases h)) rfl rfl fun a hS => ?_)
  obtain ⟨u662, hu662, hM⟩ := bd hM
  refine wl rfl (k_call hS ci29 rfl rfl (ref29_open_c _ _ hS.dlt l_0 revision_ k_2 _ (hS.get 0 rfl) _ hu662) fun _ w hR a hk hA => ?_)
  have he := Eq.symm hR
  subst he
  have hS := hA [] (fun r hr => by cases hr) List.Pairwise.nil
  refine wl rfl (ky (v := .bool (!(u662))) hS (y_not hS rfl) rfl rfl fun a hS => ?_)
  refine wpList_nil ?_
  try simp only [Exit.then, Exit.inBlock, ↓reduceIte, Nat.reduceEqDiff]
  refine hK24 _ _ ?_
  rcases bool2 (!(u662)) with hb664 | hb664
  · replace hM := ct hb664 hM
    refine c_t hS rfl hb664 ?_
    refine wp_seq_k fun K25 hK25 => ?_
    refine r_list ?_
    refine wl rfl (ky (v := .agg #[.int .i64 k_2.Kind, .string k_2.Text]) hS (y_load hS rfl ty32 0 rfl id (us := [.int .i64 k_2.Kind, .string k_2.Text]) rfl rfl (fun h => by cases h)) rfl rfl fun a hS => ?_)
    refine wl rfl (k_bslice (ps := [(0, .tmp 16)]) hS el23 ze32 (zl := [.int .i64 0, .string (ByteArray.mk #[])]) (by kernel_rfl) rfl (us := [[.int .i64 k_2.Kind, .string k_2.Text]]) ⟨rfl, trivial⟩ (ws := [.int .i64 k_2.Kind, .string k_2.Text]) rfl rfl rfl rfl fun b665 a w hk hS => ?_)
    refine wl rfl (ky (v := .slice (some ⟨b665, 0, none⟩) 1 1) hS (y_assign hS rfl) rfl rfl fun a hS => ?_)
    refine wpList_nil ?_
    try simp only [Exit.then, Exit.inBlock, ↓reduceIte, Nat.reduceEqDiff]
    refine hK25 _ _ ?_
    refine wp_ret ?_
    replace hS := hS.lit (R := R_KeyD) (us := [.int .i64 k_2.Kind, .string k_2.Text]) (xs := [k_2]) 0 rfl (by decide) (RowsOk.one_ (R := R_KeyD) (x := k_2) rfl) rfl rfl
    injection hM with hM
    subst hM
    try simp only [Exit.then, Exit.inBlock, ↓reduceIte, Nat.reduceEqDiff]
    refine ret_ok hS Tryd.results14 (res_tmp hS rfl res_nil) ?_
    exact ⟨(.slice (some ⟨b665, 0, none⟩) 1 1), [.int .i64 k_2.Kind, .string k_2.Text], rfl, hS.retOwn ⟨.inr (List.mem_of_getElem? (i := 0) rfl), trivial⟩ 0 rfl 0 rfl⟩
  · replace hM := cf hb664 hM
    refine c_f hS rfl hb664 ?_
    refine wp_skip ?_
    try simp only [Exit.then, Exit.inBlock, ↓reduceIte, Nat.reduceEqDiff]
    refine hK23 _ _ ?_
    refine wp_seq_k fun K26 hK26 => ?_
    refine r_list ?_
    refine wl rfl (ky (v := .agg #[.int .i64 k_2.Kind, .string k_2.Text]) hS (y_load hS rfl ty32 0 rfl id (us := [.int .i64 k_2.Kind, .string k_2.Text]) rfl rfl (fun h => by cases h)) rfl rfl fun a hS => ?_)
    refine wl rfl (k_bslice (ps := [(0, .tmp 18)]) hS el23 ze32 (zl := [.int .i64 0, .string (ByteArray.mk #[])]) (by kernel_rfl) rfl (us := [[.int .i64 k_2.Kind, .string k_2.Text]]) ⟨rfl, trivial⟩ (ws := [.int .i64 k_2.Kind, .string k_2.Text]) rfl rfl rfl rfl fun b667 a w hk hS => ?_)
    refine wl rfl (ky (v := .slice (some ⟨b667, 0, none⟩) 1 1) hS (y_assign hS rfl) rfl rfl fun a hS => ?_)
    refine wpList_nil ?_
    try simp only [Exit.then, Exit.inBlock, ↓reduceIte, Nat.reduceEqDiff]
    refine hK26 _ _ ?_
    refine wp_seq_k fun K27 hK27 => ?_
    refine r_list ?_
    refine wl rfl (ky (v := v1) hS (y_move hS rfl) rfl rfl fun a hS => ?_)
    refine wl rfl (ky (v := .int .i64 revision_) hS (y_move hS rfl) rfl rfl fun a hS => ?_)
    refine wl rfl (ky (v := .agg #[.int .i64 k_2.Kind, .string k_2.Text]) hS (y_load hS rfl ty32 1 rfl id (us := [.int .i64 k_2.Kind, .string k_2.Text]) rfl rfl (fun h => by cases h)) rfl rfl fun a hS => ?_)
    obtain ⟨u669, hu669, hM⟩ := bd hM
    refine wl rfl (k_call hS ci30 rfl rfl (ref29_leads_c _ _ hS.dlt l_0 revision_ k_2 _ (hS.get 0 rfl) _ hu669) fun _ w hR a hk hA => ?_)
    obtain ⟨bz670_2, esz670_3, ckz670_4, he, ⟨hObz670_2, hFbz670_2, hRbz670_2⟩⟩ := hR
    replace he := he.symm
    subst he
    have hS := hA [.obj bz670_2 (.map esz670_3 ckz670_4)] (adds1 hObz670_2 (obj_new hFbz670_2)) (pw1 _)
    replace hS := hS.fact (MapF R_KeyD true Rep.bool false esz670_3 u669) (hRbz670_2.keep (Kt.refl _ _) (dT_dT _))
    refine wl rfl (ky (v := .map (some bz670_2)) hS (y_assign hS rfl) rfl rfl fun a hS => ?_)
    refine wpList_nil ?_
    try simp only [Exit.then, Exit.inBlock, ↓reduceIte, Nat.reduceEqDiff]
    refine hK27 _ _ ?_
    refine seq_j (J := fun a w => ∃ (out1085 : (List KeyD)) (v1086 : Value) (cl1087 : (List Value)), St W0 No T 57 [(7, v1086)] [.own v1086 32 R_KeyD.size cl1087] [RowsF R_KeyD cl1087 out1085, LvF] a w ∧ ref29_Of_j1 out1085 = some y) ?_ ?_
    · skip
      refine wp_seq_k fun K38 hK38 => ?_
      refine r_list ?_
      refine wl rfl (ky (v := v1) hS (y_move hS rfl) rfl rfl fun a hS => ?_)
      refine wl rfl (ky (v := .int .i64 (l_0.length : Int)) hS (y_len (R := R_RecordD) (xs := l_0) hS sl28 rfl 1 rfl) rfl rfl fun a hS => ?_)
      refine wl rfl (ky (v := .int .i64 0) hS (y_move hS rfl) rfl rfl fun a hS => ?_)
      refine wpList_nil ?_
      try simp only [Exit.then, Exit.inBlock, ↓reduceIte, Nat.reduceEqDiff]
      refine hK38 _ _ ?_
      refine wp_block ?_
      replace hS := hS.lit (R := R_KeyD) (us := [.int .i64 k_2.Kind, .string k_2.Text]) (xs := [k_2]) 1 rfl (by decide) (RowsOk.one_ (R := R_KeyD) (x := k_2) rfl) rfl rfl
      obtain ⟨r1, hl1, hMo1⟩ := bd hM
      refine wp_lp (fun s : (List KeyD) × Int => ref29_Of_l4 l_0 revision_ k_2 u669 s.1 s.2) (fun s a w => ∃ (out1298 : (List KeyD)) (g1302 : Int) (v1299 : Value) (cl1300 : (List Value)), (out1298, g1302) = s ∧ St W0 No T 57 [(0, v1), (1, .int .i64 revision_), (5, .pointer (some ⟨b659, 0, none⟩)), (7, v1299), (8, .map (some bz670_2)), (24, v1), (25, .int .i64 (l_0.length : Int)), (26, .int .i64 g1302)] [.own v1299 32 R_KeyD.size cl1300, .obj bz670_2 (.map esz670_3 ckz670_4), .box b659 [.int .i64 k_2.Kind, .string k_2.Text] 32] [SlF R_RecordD v1 l_0, RowsF R_KeyD cl1300 out1298, MapF R_KeyD true Rep.bool false esz670_3 u669, LvF] a w) hl1 ⟨([k_2]), 0, (.slice (some ⟨b667, 0, none⟩) 1 1), ([.int .i64 k_2.Kind, .string k_2.Text]), rfl, (hS.meet [1, 0, 2] (by decide) ⟨rfl, rfl, rfl, rfl, rfl, rfl, rfl, rfl, trivial⟩ ⟨rfl, rfl, rfl, trivial⟩ ⟨⟨2, rfl⟩, ⟨0, rfl⟩, ⟨1, rfl⟩, ⟨3, rfl⟩, trivial⟩)⟩ ?_
      rintro s a w f1 ⟨out1298, g1302, v1299, cl1300, rfl, hS⟩ hM hf1
      have hM : ref29_Of_l4 l_0 revision_ k_2 u669 out1298 g1302 = some f1 := hM
      unfold ref29_Of_l4 at hM
      refine wp_seq_k fun K47 hK47 => ?_
      refine r_list ?_
      refine wl rfl (ky (v := .bool (decide ((g1302 : Int) < (l_0.length : Int)))) hS (y_int hS rfl rfl rfl) rfl rfl fun a hS => ?_)
      refine wpList_nil ?_
      try simp only [Exit.then, Exit.inBlock, ↓reduceIte, Nat.reduceEqDiff]
      refine hK47 _ _ ?_
      refine wp_seq_k fun K48 hK48 => ?_
      rcases bool2 (decide ((g1302 : Int) < (l_0.length : Int))) with hb1505 | hb1505
      · replace hM := ct hb1505 hM
        refine c_t hS rfl hb1505 ?_
        refine wp_skip ?_
        try simp only [Exit.then, Exit.inBlock, ↓reduceIte, Nat.reduceEqDiff]
        refine hK48 _ _ ?_
        refine seq_j (J := fun a w => ∃ (out1602 : (List KeyD)) (v1603 : Value) (cl1604 : (List Value)), St W0 No T 57 [(0, v1), (1, .int .i64 revision_), (5, .pointer (some ⟨b659, 0, none⟩)), (7, v1603), (8, .map (some bz670_2)), (24, v1), (25, .int .i64 (l_0.length : Int)), (26, .int .i64 g1302)] [.own v1603 32 R_KeyD.size cl1604, .obj bz670_2 (.map esz670_3 ckz670_4), .box b659 [.int .i64 k_2.Kind, .string k_2.Text] 32] [SlF R_RecordD v1 l_0, RowsF R_KeyD cl1604 out1602, MapF R_KeyD true Rep.bool false esz670_3 u669, LvF] a w ∧ ref29_Of_j2 g1302 out1602 = some f1) ?_ ?_
        · skip
          refine wp_block ?_
          refine wp_seq_k fun K50 hK50 => ?_
          refine r_list ?_
          obtain ⟨e1606, he1606, hM⟩ := bd hM
          refine wl rfl (k_index (R := R_RecordD) hS sl28 ty34 rfl rfl 0 rfl he1606 rfl fun b1608 o1609 cs1611 hr1610 a hS => ?_)
          obtain ⟨v1607, rfl, hv1607⟩ := hr1610
          replace hS := hS.fact (SlF R_KeyD v1607 e1606.Reads) hv1607
          refine wl rfl (ky (v := .agg #[.int .i64 e1606.Key.Kind, .string e1606.Key.Text, .string e1606.Value, v1607, .int .i64 e1606.Changed, .int .i64 e1606.Verified, .int .i64 e1606.Cost, .bool e1606.Dirty]) hS (y_loadc (k := 0) hS ty34 1 rfl rfl (fun _ h => h.elim) (us := [.int .i64 e1606.Key.Kind, .string e1606.Key.Text, .string e1606.Value, v1607, .int .i64 e1606.Changed, .int .i64 e1606.Verified, .int .i64 e1606.Cost, .bool e1606.Dirty]) rfl rfl (fun h => by cases h)) rfl rfl fun a hS => ?_)
          refine wl rfl (k_alloc hS ze34 rfl fun b1613 hnb1615 a w hk hS => ?_)
          refine wl rfl (k_store hS rfl rfl (us := [.int .i64 e1606.Key.Kind, .string e1606.Key.Text, .string e1606.Value, v1607, .int .i64 e1606.Changed, .int .i64 e1606.Verified, .int .i64 e1606.Cost, .bool e1606.Dirty]) rfl ty34 0 rfl rfl rfl (oc rfl (oc rfl (oc rfl (oc (SlR.one ((hS.get 0 rfl) : SlR R_KeyD _ _ _ _)) (oc rfl (oc rfl (oc rfl (oc rfl on)))))))) fun w hk hS => ?_)
          refine wpList_nil ?_
          try simp only [Exit.then, Exit.inBlock, ↓reduceIte, Nat.reduceEqDiff]
          refine hK50 _ _ ?_
          refine seq_j (J := fun a w => ∃ (g1668 : Bool), St W0 No T 57 [(0, v1), (1, .int .i64 revision_), (5, .pointer (some ⟨b659, 0, none⟩)), (7, v1299), (8, .map (some bz670_2)), (10, .pointer (some ⟨b1613, 0, none⟩)), (24, v1), (25, .int .i64 (l_0.length : Int)), (26, .int .i64 g1302), (48, .bool g1668)] [.own v1299 32 R_KeyD.size cl1300, .obj bz670_2 (.map esz670_3 ckz670_4), .box b659 [.int .i64 k_2.Kind, .string k_2.Text] 32, .box b1613 [.int .i64 e1606.Key.Kind, .string e1606.Key.Text, .string e1606.Value, v1607, .int .i64 e1606.Changed, .int .i64 e1606.Verified, .int .i64 e1606.Cost, .bool e1606.Dirty] 34] [SlF R_RecordD v1 l_0, RowsF R_KeyD cl1300 out1298, MapF R_KeyD true Rep.bool false esz670_3 u669, SlF R_KeyD v1607 e1606.Reads, LvF] a w ∧ ref29_Of_j3 out1298 g1302 e1606 g1668 = some f1) ?_ ?_
          · skip
            refine draws [] hS mixed rfl (fun c a d v w h => by cases d <;> exact h) fun w hQ hS => ?_
            refine dy 0 (v := .pointer (some ⟨b1613, 0 + 0, none⟩)) rfl (by kernel_rfl) (by kernel_rfl) (by kernel_rfl) rfl hQ hS (y_fld hS rfl fl34_0) rfl rfl rfl fun a hS => ?_
            refine dy (l := []) 1 (v := .agg #[.int .i64 e1606.Key.Kind, .string e1606.Key.Text]) rfl (by kernel_rfl) (by kernel_rfl) (by kernel_rfl) (by kernel_rfl) hQ hS (y_load hS rfl ty32 0 rfl eo_nil (us := [.int .i64 e1606.Key.Kind, .string e1606.Key.Text]) rfl rfl (fun h => by cases h)) rfl rfl rfl fun a hS => ?_
            refine dy (l := []) 2 (v := .agg #[.int .i64 k_2.Kind, .string k_2.Text]) rfl (by kernel_rfl) (by kernel_rfl) (by kernel_rfl) (by kernel_rfl) hQ hS (y_load hS rfl ty32 3 rfl eo_nil (us := [.int .i64 k_2.Kind, .string k_2.Text]) rfl rfl (fun h => by cases h)) rfl rfl rfl fun a hS => ?_
            refine dy 3 (v := .bool (!((e1606.Key.Kind : Int) == k_2.Kind && e1606.Key.Text.toList == k_2.Text.toList))) rfl (by kernel_rfl) (by kernel_rfl) (by kernel_rfl) rfl hQ hS (eq32n hS rfl rfl) rfl rfl rfl fun a hS => ?_
            refine dy 4 (v := .bool (!((e1606.Key.Kind : Int) == k_2.Kind && e1606.Key.Text.toList == k_2.Text.toList))) rfl (by kernel_rfl) (by kernel_rfl) (by kernel_rfl) rfl hQ hS (y_move hS rfl) rfl rfl rfl fun a hS => ?_
            rcases bool2 (!((e1606.Key.Kind : Int) == k_2.Kind && e1606.Key.Text.toList == k_2.Text.toList)) with hb1689 | hb1689
            · replace hM := ct hb1689 hM
              refine dyg 5 (v := .map (some bz670_2)) rfl (by kernel_rfl) (by kernel_rfl) (by kernel_rfl) rfl hQ hS (y_move hS rfl) rfl rfl rfl hb1689 rfl rfl fun a hS => ?_
              refine dyg 6 (v := .pointer (some ⟨b1613, 0 + 0, none⟩)) rfl (by kernel_rfl) (by kernel_rfl) (by kernel_rfl) rfl hQ hS (y_fld hS rfl fl34_0) rfl rfl rfl hb1689 rfl rfl fun a hS => ?_
              refine dyg (l := []) 7 (v := .agg #[.int .i64 e1606.Key.Kind, .string e1606.Key.Text]) rfl (by kernel_rfl) (by kernel_rfl) (by kernel_rfl) (by kernel_rfl) hQ hS (y_load hS rfl ty32 0 rfl eo_nil (us := [.int .i64 e1606.Key.Kind, .string e1606.Key.Text]) rfl rfl (fun h => by cases h)) rfl rfl rfl hb1689 rfl rfl fun a hS => ?_
              obtain ⟨u1690, hu1690, hM⟩ := bd hM
              obtain ⟨cv1691, hr1692, hy1693⟩ := d_looku hS mp65 kt_KeyD 2 rfl 4 rfl (c := [.int .i64 e1606.Key.Kind, .string e1606.Key.Text]) (key := e1606.Key) rfl zv4 (zc := [.bool false]) rfl rfl hu1690
              obtain rfl := hr1692
              refine dyg (l := []) 8 (v := .bool u1690) rfl (by kernel_rfl) (by kernel_rfl) (by kernel_rfl) (by kernel_rfl) hQ hS (hy1693 rfl rfl eo_nil) rfl rfl rfl hb1689 rfl rfl fun a hS => ?_
              refine dy 9 (v := .bool u1690) rfl (by kernel_rfl) (by kernel_rfl) (by kernel_rfl) rfl hQ hS (y_pickt hS rfl hb1689 rfl) rfl rfl rfl fun a hS => ?_
              refine dy 10 (v := .bool u1690) rfl (by kernel_rfl) (by kernel_rfl) (by kernel_rfl) rfl hQ hS (y_move hS rfl) rfl rfl rfl fun a hS => ?_
              rcases bool2 (u1690) with hb1694 | hb1694
              · replace hM := ct hb1694 hM
                refine dyg 11 (v := v1) rfl (by kernel_rfl) (by kernel_rfl) (by kernel_rfl) rfl hQ hS (y_move hS rfl) rfl rfl rfl hb1694 rfl rfl fun a hS => ?_
                refine dyg 12 (v := .int .i64 revision_) rfl (by kernel_rfl) (by kernel_rfl) (by kernel_rfl) rfl hQ hS (y_move hS rfl) rfl rfl rfl hb1694 rfl rfl fun a hS => ?_
                refine dyg 13 (v := .pointer (some ⟨b1613, 0 + 0, none⟩)) rfl (by kernel_rfl) (by kernel_rfl) (by kernel_rfl) rfl hQ hS (y_fld hS rfl fl34_0) rfl rfl rfl hb1694 rfl rfl fun a hS => ?_
                refine dyg (l := []) 14 (v := .agg #[.int .i64 e1606.Key.Kind, .string e1606.Key.Text]) rfl (by kernel_rfl) (by kernel_rfl) (by kernel_rfl) (by kernel_rfl) hQ hS (y_load hS rfl ty32 0 rfl eo_nil (us := [.int .i64 e1606.Key.Kind, .string e1606.Key.Text]) rfl rfl (fun h => by cases h)) rfl rfl rfl hb1694 rfl rfl fun a hS => ?_
                refine dyg (l := []) 16 (v := .agg #[.int .i64 k_2.Kind, .string k_2.Text]) rfl (by kernel_rfl) (by kernel_rfl) (by kernel_rfl) (by kernel_rfl) hQ hS (y_load hS rfl ty32 3 rfl eo_nil (us := [.int .i64 k_2.Kind, .string k_2.Text]) rfl rfl (fun h => by cases h)) rfl rfl rfl hb1694 rfl rfl fun a hS => ?_
                obtain ⟨u1695, hu1695, hM⟩ := bd hM
                refine wpE_oneg (i := 15) rfl (by kernel_rfl) hS rfl rfl rfl hb1694 (k_call hS ci30 rfl rfl (ref29_leads_c _ _ hS.dlt l_0 revision_ e1606.Key _ (hS.get 2 rfl) _ hu1695) fun _ w hR a hk hA => ⟨stN (hk), ?_⟩)
                obtain ⟨bz1696_2, esz1696_3, ckz1696_4, he, ⟨hObz1696_2, hFbz1696_2, hRbz1696_2⟩⟩ := hR
                replace he := he.symm
                subst he
                have hS := hA [.obj bz1696_2 (.map esz1696_3 ckz1696_4)] (adds1 hObz1696_2 (obj_new hFbz1696_2)) (pw1 _)
                replace hS := hS.fact (MapF R_KeyD true Rep.bool false esz1696_3 u1695) (hRbz1696_2.keep (Kt.refl _ _) (dT_dT _))
                obtain ⟨u1698, hu1698, hM⟩ := bd hM
                obtain ⟨cv1699, hr1700, hy1701⟩ := d_looku hS mp65 kt_KeyD 0 rfl 0 rfl (c := [.int .i64 k_2.Kind, .string k_2.Text]) (key := k_2) rfl zv4 (zc := [.bool false]) rfl rfl hu1698
                obtain rfl := hr1700
                refine dyg (l := []) 17 (v := .bool u1698) rfl (by kernel_rfl) (by kernel_rfl) (by kernel_rfl) (by kernel_rfl) hQ hS (hy1701 rfl rfl eo_nil) rfl rfl rfl hb1694 rfl rfl fun a hS => ?_
                refine dy 18 (v := .bool u1698) rfl (by kernel_rfl) (by kernel_rfl) (by kernel_rfl) rfl hQ hS (y_pickt hS rfl hb1694 rfl) rfl rfl rfl fun a hS => ?_
                refine wpE_done (by kernel_rfl) ?_ _
                try simp only [Exit.then, Exit.inBlock, ↓reduceIte, Nat.reduceEqDiff]
                exact ⟨u1698, (hS.meet [2, 3, 4, 1] (by decide) ⟨rfl, rfl, rfl, rfl, rfl, rfl, rfl, rfl, rfl, rfl, trivial⟩ ⟨rfl, rfl, rfl, rfl, trivial⟩ ⟨⟨3, rfl⟩, ⟨4, rfl⟩, ⟨5, rfl⟩, ⟨1, rfl⟩, ⟨6, rfl⟩, trivial⟩), hM⟩
              · replace hM := cf hb1694 hM
                refine dyn 11 rfl (by kernel_rfl) (by kernel_rfl) (by kernel_rfl) hQ hS rfl rfl rfl hb1694 rfl rfl fun a hS => ?_
                refine dyn 12 rfl (by kernel_rfl) (by kernel_rfl) (by kernel_rfl) hQ hS rfl rfl rfl hb1694 rfl rfl fun a hS => ?_
                refine dyn 13 rfl (by kernel_rfl) (by kernel_rfl) (by kernel_rfl) hQ hS rfl rfl rfl hb1694 rfl rfl fun a hS => ?_
                refine dyn 14 rfl (by kernel_rfl) (by kernel_rfl) (by kernel_rfl) hQ hS rfl rfl rfl hb1694 rfl rfl fun a hS => ?_
                refine dyn 15 rfl (by kernel_rfl) (by kernel_rfl) (by kernel_rfl) hQ hS rfl rfl rfl hb1694 rfl rfl fun a hS => ?_
                refine dyn 16 rfl (by kernel_rfl) (by kernel_rfl) (by kernel_rfl) hQ hS rfl rfl rfl hb1694 rfl rfl fun a hS => ?_
                refine dyn 17 rfl (by kernel_rfl) (by kernel_rfl) (by kernel_rfl) hQ hS rfl rfl rfl hb1694 rfl rfl fun a hS => ?_
                refine dy 18 (v := .bool false) rfl (by kernel_rfl) (by kernel_rfl) (by kernel_rfl) rfl hQ hS (y_pickf hS rfl hb1694 rfl) rfl rfl rfl fun a hS => ?_
                refine wpE_done (by kernel_rfl) ?_ _
                try simp only [Exit.then, Exit.inBlock, ↓reduceIte, Nat.reduceEqDiff]
                exact ⟨false, (hS.meet [1, 2, 3, 0] (by decide) ⟨rfl, rfl, rfl, rfl, rfl, rfl, rfl, rfl, rfl, rfl, trivial⟩ ⟨rfl, rfl, rfl, rfl, trivial⟩ ⟨⟨2, rfl⟩, ⟨3, rfl⟩, ⟨4, rfl⟩, ⟨0, rfl⟩, ⟨5, rfl⟩, trivial⟩), hM⟩
            · replace hM := cf hb1689 hM
              refine dyn 5 rfl (by kernel_rfl) (by kernel_rfl) (by kernel_rfl) hQ hS rfl rfl rfl hb1689 rfl rfl fun a hS => ?_
              refine dyn 6 rfl (by kernel_rfl) (by kernel_rfl) (by kernel_rfl) hQ hS rfl rfl rfl hb1689 rfl rfl fun a hS => ?_
              refine dyn 7 rfl (by kernel_rfl) (by kernel_rfl) (by kernel_rfl) hQ hS rfl rfl rfl hb1689 rfl rfl fun a hS => ?_
              refine dyn 8 rfl (by kernel_rfl) (by kernel_rfl) (by kernel_rfl) hQ hS rfl rfl rfl hb1689 rfl rfl fun a hS => ?_
              refine dy 9 (v := .bool false) rfl (by kernel_rfl) (by kernel_rfl) (by kernel_rfl) rfl hQ hS (y_pickf hS rfl hb1689 rfl) rfl rfl rfl fun a hS => ?_
              refine dy 10 (v := .bool false) rfl (by kernel_rfl) (by kernel_rfl) (by kernel_rfl) rfl hQ hS (y_move hS rfl) rfl rfl rfl fun a hS => ?_
              refine dyn 11 rfl (by kernel_rfl) (by kernel_rfl) (by kernel_rfl) hQ hS rfl rfl rfl rfl rfl rfl fun a hS => ?_
              refine dyn 12 rfl (by kernel_rfl) (by kernel_rfl) (by kernel_rfl) hQ hS rfl rfl rfl rfl rfl rfl fun a hS => ?_
              refine dyn 13 rfl (by kernel_rfl) (by kernel_rfl) (by kernel_rfl) hQ hS rfl rfl rfl rfl rfl rfl fun a hS => ?_
              refine dyn 14 rfl (by kernel_rfl) (by kernel_rfl) (by kernel_rfl) hQ hS rfl rfl rfl rfl rfl rfl fun a hS => ?_
              refine dyn 15 rfl (by kernel_rfl) (by kernel_rfl) (by kernel_rfl) hQ hS rfl rfl rfl rfl rfl rfl fun a hS => ?_
              refine dyn 16 rfl (by kernel_rfl) (by kernel_rfl) (by kernel_rfl) hQ hS rfl rfl rfl rfl rfl rfl fun a hS => ?_
              refine dyn 17 rfl (by kernel_rfl) (by kernel_rfl) (by kernel_rfl) hQ hS rfl rfl rfl rfl rfl rfl fun a hS => ?_
              refine dy 18 (v := .bool false) rfl (by kernel_rfl) (by kernel_rfl) (by kernel_rfl) rfl hQ hS (y_pickf hS rfl rfl rfl) rfl rfl rfl fun a hS => ?_
              refine wpE_done (by kernel_rfl) ?_ _
              try simp only [Exit.then, Exit.inBlock, ↓reduceIte, Nat.reduceEqDiff]
              exact ⟨false, (hS.meet [1, 2, 3, 0] (by decide) ⟨rfl, rfl, rfl, rfl, rfl, rfl, rfl, rfl, rfl, rfl, trivial⟩ ⟨rfl, rfl, rfl, rfl, trivial⟩ ⟨⟨2, rfl⟩, ⟨3, rfl⟩, ⟨4, rfl⟩, ⟨0, rfl⟩, ⟨5, rfl⟩, trivial⟩), hM⟩
          · rintro a w ⟨g1668, hS, hM⟩
            unfold ref29_Of_j3 at hM
            rcases bool2 (g1668) with hb1669 | hb1669
            · replace hM := ct hb1669 hM
              refine c_t hS rfl hb1669 ?_
              refine r_list ?_
              refine wl rfl (ky (v := v1299) hS (y_move hS rfl) rfl rfl fun a hS => ?_)
              refine wl rfl (ky (v := .pointer (some ⟨b1613, 0 + 0, none⟩)) hS (y_fld hS rfl fl34_0) rfl rfl fun a hS => ?_)
              refine wl rfl (ky (v := .agg #[.int .i64 e1606.Key.Kind, .string e1606.Key.Text]) hS (y_load hS rfl ty32 3 rfl id (us := [.int .i64 e1606.Key.Kind, .string e1606.Key.Text]) rfl rfl (fun h => by cases h)) rfl rfl fun a hS => ?_)
              refine wl rfl (k_bslice (ps := [(0, .tmp 51)]) hS el23 ze32 (zl := [.int .i64 0, .string (ByteArray.mk #[])]) (by kernel_rfl) rfl (us := [[.int .i64 e1606.Key.Kind, .string e1606.Key.Text]]) ⟨rfl, trivial⟩ (ws := [.int .i64 e1606.Key.Kind, .string e1606.Key.Text]) rfl rfl rfl rfl fun b1670 a w hk hS => ?_)
              replace hS := hS.lit (R := R_KeyD) (us := [.int .i64 e1606.Key.Kind, .string e1606.Key.Text]) (xs := [e1606.Key]) 0 rfl (by decide) (RowsOk.one_ (R := R_KeyD) (x := e1606.Key) rfl) rfl rfl
              replace hS := hS.freeze (R := R_KeyD) 0 rfl 0 rfl
              obtain ⟨hg1672, hM⟩ := gd_some hM
              refine wl rfl (k_apps (R := R_KeyD) (xs := out1298) (ys := [e1606.Key]) hS el23 (by decide) (by decide) rfl rfl 0 rfl 3 rfl 0 rfl hg1672 rfl fun v1673 cl1674 a w hk hS => ?_)
              refine wl rfl (ky (v := v1673) hS (y_assign hS rfl) rfl rfl fun a hS => ?_)
              refine wpList_nil ?_
              try simp only [Exit.then, Exit.inBlock, ↓reduceIte, Nat.reduceEqDiff]
              exact ⟨(out1298 ++ ([e1606.Key])), v1673, cl1674, (hS.meet [0, 1, 2] (by decide) ⟨rfl, rfl, rfl, rfl, rfl, rfl, rfl, rfl, trivial⟩ ⟨rfl, rfl, rfl, trivial⟩ ⟨⟨3, rfl⟩, ⟨0, rfl⟩, ⟨5, rfl⟩, ⟨7, rfl⟩, trivial⟩), hM⟩
            · replace hM := cf hb1669 hM
              refine c_f hS rfl hb1669 ?_
              refine wp_skip ?_
              try simp only [Exit.then, Exit.inBlock, ↓reduceIte, Nat.reduceEqDiff]
              exact ⟨out1298, v1299, cl1300, (hS.meet [0, 1, 2] (by decide) ⟨rfl, rfl, rfl, rfl, rfl, rfl, rfl, rfl, trivial⟩ ⟨rfl, rfl, rfl, trivial⟩ ⟨⟨0, rfl⟩, ⟨1, rfl⟩, ⟨2, rfl⟩, ⟨4, rfl⟩, trivial⟩), hM⟩
        · rintro a w ⟨out1602, v1603, cl1604, hS, hM⟩
          unfold ref29_Of_j2 at hM
          refine r_list ?_
          refine wl rfl (ky (v := .int .i64 (IntKind.i64.wrap (g1302 + 1))) hS (y_int hS rfl rfl rfl) rfl rfl fun a hS => ?_)
          refine wl rfl (ky (v := .int .i64 (IntKind.i64.wrap (g1302 + 1))) hS (y_move hS rfl) rfl rfl fun a hS => ?_)
          refine wpList_nil ?_
          try simp only [Exit.then, Exit.inBlock, ↓reduceIte, Nat.reduceEqDiff]
          exact ⟨(out1602, IntKind.i64.wrap (g1302 + 1)), (Option.some.inj hM).symm, out1602, (IntKind.i64.wrap (g1302 + 1)), v1603, cl1604, rfl, (hS.meet [0, 1, 2] (by decide) ⟨rfl, rfl, rfl, rfl, rfl, rfl, rfl, rfl, trivial⟩ ⟨rfl, rfl, rfl, trivial⟩ ⟨⟨0, rfl⟩, ⟨1, rfl⟩, ⟨2, rfl⟩, ⟨3, rfl⟩, trivial⟩)⟩
      · replace hM := cf hb1505 hM
        refine c_f hS rfl hb1505 ?_
        refine wp_exit ?_
        try simp only [Exit.then, Exit.inBlock, ↓reduceIte, Nat.reduceEqDiff]
        injection hM with hM
        subst hM
        have hr := hf1 _ rfl
        subst hr
        have hM : ref29_Of_j1 out1298 = some y := hMo1
        exact ⟨out1298, v1299, cl1300, (hS.meet [0] (by decide) ⟨rfl, trivial⟩ ⟨rfl, trivial⟩ ⟨⟨1, rfl⟩, ⟨3, rfl⟩, trivial⟩), hM⟩
    · rintro a w ⟨out1085, v1086, cl1087, hS, hM⟩
      unfold ref29_Of_j1 at hM
      refine wp_seq_k fun K37 hK37 => ?_
      refine r_list ?_
      refine wl rfl (ky (v := v1086) hS (y_move hS rfl) rfl rfl fun a hS => ?_)
      have hL := hS
      replace hL := hL.freeze (R := R_KeyD) 0 rfl 0 rfl
      obtain ⟨u1089, hu1089, hM⟩ := bd hM
      refine wl rfl (k_call hS ci31 rfl rfl (ref23_Sorted_c _ _ hL.dlt (hL.get 2 rfl) out1085 _ (hL.get 0 rfl) _ hu1089) fun _ w hR a hk hA => ?_)
      obtain ⟨vz1090_2, clz1090_3, he, ⟨hOvz1090_2, hFvz1090_2, hRvz1090_2⟩⟩ := hR
      replace he := he.symm
      subst he
      have hS := hA [.own vz1090_2 32 R_KeyD.size clz1090_3] (adds1 ⟨hOvz1090_2, by decide⟩ hFvz1090_2) (pw1 _)
      replace hS := hS.fact (RowsF R_KeyD clz1090_3 u1089) hRvz1090_2
      refine wl rfl (ky (v := vz1090_2) hS (y_assign hS rfl) rfl rfl fun a hS => ?_)
      refine wpList_nil ?_
      try simp only [Exit.then, Exit.inBlock, ↓reduceIte, Nat.reduceEqDiff]
      refine hK37 _ _ ?_
      refine wp_ret ?_
      injection hM with hM
      subst hM
      try simp only [Exit.then, Exit.inBlock, ↓reduceIte, Nat.reduceEqDiff]
      refine ret_ok hS Tryd.results14 (res_tmp hS rfl res_nil) ?_
      exact ⟨vz1090_2, clz1090_3, rfl, hS.retOwn ⟨.inr (List.mem_of_getElem? (i := 0) rfl), trivial⟩ 0 rfl 0 rfl⟩

noncomputable def ref23_Has_j1 : Option Bool := some (false)
noncomputable def ref23_Has_l2 (l_0 : (List KeyD)) (k_1 : KeyD) (g58 : Int) (g59 : Int) (k60 : Int) : Option (Fl (Int × Int × Int) (Fl (Unit) Bool)) := cond (decide ((g59 : Int) < g58)) ((getI l_0 g59).bind fun e76 => cond ((e76.Kind : Int) == k60 && e76.Text.toList == k_1.Text.toList) (some (.out (.out true))) (some (.go (g58, IntKind.i64.wrap (g59 + 1), k60)))) (some (.out (.go ())))
noncomputable def ref23_Has (l_0 : (List KeyD)) (k_1 : KeyD) : Option Bool := (loop (fun s : Int × Int × Int => ref23_Has_l2 l_0 k_1 s.1 s.2.1 s.2.2) ((l_0.length : Int), 0, k_1.Kind)).bind fun r => Fl.el r (fun s => ref23_Has_j1) (fun y => some (y))
set_option maxRecDepth 100000 in
set_option maxHeartbeats 4000000 in
theorem ref23_Has_c (T : Nat → Prop) (W0 : World) (hT : ∀ k, T k → k < W0.heap.size) (l_0 : (List KeyD)) (k_1 : KeyD) (v1 : Value) (hv1 : SlR R_KeyD T W0 v1 l_0) (y : Bool) (hM : ref23_Has l_0 k_1 = some y) : Rets Tryd.prog No 19 [v1, .agg #[.int .i64 k_1.Kind, .string k_1.Text]] W0 (fun v w' => v = .bool y) := by
  refine enter (c := _) Tryd.func19 rfl T 17 Tryd.ntmps19 hT rfl fun a hS => ?_
  replace hS := hS.fact (SlF R_KeyD v1 l_0) (SlR.dn hv1)
  unfold ref23_Has at hM
  refine wp_seq_k fun K17 hK17 => ?_
  refine r_list ?_
  refine wl rfl (k_box hS rfl (cs := [.int .i64 k_1.Kind, .string k_1.Text]) rfl rfl fun b38 hnb40 a w hk hS => ?_)
  refine wl rfl (ky (v := .bool false) hS (y_assign hS rfl) rfl rfl fun a hS => ?_)
  refine wpList_nil ?_
  try simp only [Exit.then, Exit.inBlock, ↓reduceIte, Nat.reduceEqDiff]
  refine hK17 _ _ ?_
  refine seq_j (J := fun a w => St W0 No T 17 [] [] [] a w ∧ ref23_Has_j1 = some y) ?_ ?_
  · skip
    refine wp_seq_k fun K26 hK26 => ?_
    refine r_list ?_
    refine wl rfl (ky (v := v1) hS (y_move hS rfl) rfl rfl fun a hS => ?_)
    refine wl rfl (ky (v := .int .i64 (l_0.length : Int)) hS (y_len (R := R_KeyD) (xs := l_0) hS sl23 rfl 0 rfl) rfl rfl fun a hS => ?_)
    refine wl rfl (ky (v := .int .i64 0) hS (y_move hS rfl) rfl rfl fun a hS => ?_)
    refine wpList_nil ?_
    try simp only [Exit.then, Exit.inBlock, ↓reduceIte, Nat.reduceEqDiff]
    refine hK26 _ _ ?_
    refine wp_block ?_
    obtain ⟨r1, hl1, hMo1⟩ := bd hM
    refine wp_lp (fun s : Int × Int × Int => ref23_Has_l2 l_0 k_1 s.1 s.2.1 s.2.2) (fun s a w => ∃ (g58 : Int) (g59 : Int) (k60 : Int), (g58, g59, k60) = s ∧ St W0 No T 17 [(3, .pointer (some ⟨b38, 0, none⟩)), (7, v1), (8, .int .i64 g58), (9, .int .i64 g59)] [.box b38 [.int .i64 k60, .string k_1.Text] 32] [SlF R_KeyD v1 l_0] a w) hl1 ⟨(l_0.length : Int), 0, k_1.Kind, rfl, (hS.meet [0] (by decide) ⟨rfl, rfl, rfl, rfl, trivial⟩ ⟨rfl, trivial⟩ ⟨⟨0, rfl⟩, trivial⟩)⟩ ?_
    rintro s a w f1 ⟨g58, g59, k60, rfl, hS⟩ hM hf1
    have hM : ref23_Has_l2 l_0 k_1 g58 g59 k60 = some f1 := hM
    unfold ref23_Has_l2 at hM
    refine wp_seq_k fun K33 hK33 => ?_
    refine r_list ?_
    refine wl rfl (ky (v := .bool (decide ((g59 : Int) < g58))) hS (y_int hS rfl rfl rfl) rfl rfl fun a hS => ?_)
    refine wpList_nil ?_
    try simp only [Exit.then, Exit.inBlock, ↓reduceIte, Nat.reduceEqDiff]
    refine hK33 _ _ ?_
    refine wp_seq_k fun K34 hK34 => ?_
    rcases bool2 (decide ((g59 : Int) < g58)) with hb75 | hb75
    · replace hM := ct hb75 hM
      refine c_t hS rfl hb75 ?_
      refine wp_skip ?_
      try simp only [Exit.then, Exit.inBlock, ↓reduceIte, Nat.reduceEqDiff]
      refine hK34 _ _ ?_
      refine wp_seq_k fun K35 hK35 => ?_
      refine wp_block ?_
      refine wp_seq_k fun K36 hK36 => ?_
      refine r_list ?_
      obtain ⟨e76, he76, hM⟩ := bd hM
      refine wl rfl (k_index (R := R_KeyD) hS sl23 ty32 rfl rfl 0 rfl he76 rfl fun b77 o78 cs80 hr79 a hS => ?_)
      obtain rfl := hr79
      refine wl rfl (ky (v := .agg #[.int .i64 e76.Kind, .string e76.Text]) hS (y_loadc (k := 0) hS ty32 0 rfl rfl (fun _ h => h.elim) (us := [.int .i64 e76.Kind, .string e76.Text]) rfl rfl (fun h => by cases h)) rfl rfl fun a hS => ?_)
      refine wl rfl (k_alloc hS ze32 rfl fun b82 hnb84 a w hk hS => ?_)
      refine wl rfl (k_store hS rfl rfl (us := [.int .i64 e76.Kind, .string e76.Text]) rfl ty32 0 rfl rfl rfl (oc rfl (oc rfl on)) fun w hk hS => ?_)
      refine wpList_nil ?_
      try simp only [Exit.then, Exit.inBlock, ↓reduceIte, Nat.reduceEqDiff]
      refine hK36 _ _ ?_
      refine wp_seq_k fun K37 hK37 => ?_
      refine r_list ?_
      refine wl rfl (ky (v := .agg #[.int .i64 e76.Kind, .string e76.Text]) hS (y_load hS rfl ty32 0 rfl id (us := [.int .i64 e76.Kind, .string e76.Text]) rfl rfl (fun h => by cases h)) rfl rfl fun a hS => ?_)
      refine wl rfl (ky (v := .agg #[.int .i64 k60, .string k_1.Text]) hS (y_load hS rfl ty32 1 rfl id (us := [.int .i64 k60, .string k_1.Text]) rfl rfl (fun h => by cases h)) rfl rfl fun a hS => ?_)
      refine wl rfl (ky (v := .bool ((e76.Kind : Int) == k60 && e76.Text.toList == k_1.Text.toList)) hS (eq32 hS rfl rfl) rfl rfl fun a hS => ?_)
      refine wpList_nil ?_
      try simp only [Exit.then, Exit.inBlock, ↓reduceIte, Nat.reduceEqDiff]
      refine hK37 _ _ ?_
      rcases bool2 ((e76.Kind : Int) == k60 && e76.Text.toList == k_1.Text.toList) with hb85 | hb85
      · replace hM := ct hb85 hM
        refine c_t hS rfl hb85 ?_
        refine wp_seq_k fun K38 hK38 => ?_
        refine r_list ?_
        refine wl rfl (ky (v := .bool true) hS (y_assign hS rfl) rfl rfl fun a hS => ?_)
        refine wpList_nil ?_
        try simp only [Exit.then, Exit.inBlock, ↓reduceIte, Nat.reduceEqDiff]
        refine hK38 _ _ ?_
        refine wp_ret ?_
        injection hM with hM
        subst hM
        have hr := hf1 _ rfl
        subst hr
        replace hMo1 := el_out hMo1
        have hM := hMo1
        injection hM with hM
        subst hM
        try simp only [Exit.then, Exit.inBlock, ↓reduceIte, Nat.reduceEqDiff]
        refine ret_ok hS Tryd.results19 (res_tmp hS rfl res_nil) ?_
        exact rfl
      · replace hM := cf hb85 hM
        refine c_f hS rfl hb85 ?_
        refine wp_skip ?_
        try simp only [Exit.then, Exit.inBlock, ↓reduceIte, Nat.reduceEqDiff]
        refine hK35 _ _ ?_
        refine r_list ?_
        refine wl rfl (ky (v := .int .i64 (IntKind.i64.wrap (g59 + 1))) hS (y_int hS rfl rfl rfl) rfl rfl fun a hS => ?_)
        refine wl rfl (ky (v := .int .i64 (IntKind.i64.wrap (g59 + 1))) hS (y_move hS rfl) rfl rfl fun a hS => ?_)
        refine wpList_nil ?_
        try simp only [Exit.then, Exit.inBlock, ↓reduceIte, Nat.reduceEqDiff]
        exact ⟨(g58, IntKind.i64.wrap (g59 + 1), k60), (Option.some.inj hM).symm, g58, (IntKind.i64.wrap (g59 + 1)), k60, rfl, (hS.meet [1] (by decide) ⟨rfl, rfl, rfl, rfl, trivial⟩ ⟨rfl, trivial⟩ ⟨⟨1, rfl⟩, trivial⟩)⟩
    · replace hM := cf hb75 hM
      refine c_f hS rfl hb75 ?_
      refine wp_exit ?_
      try simp only [Exit.then, Exit.inBlock, ↓reduceIte, Nat.reduceEqDiff]
      injection hM with hM
      subst hM
      have hr := hf1 _ rfl
      subst hr
      replace hMo1 := el_go hMo1
      have hM : ref23_Has_j1 = some y := hMo1
      exact ⟨(hS.meet [] (by decide) trivial trivial trivial), hM⟩
  · rintro a w ⟨hS, hM⟩
    unfold ref23_Has_j1 at hM
    refine wp_seq_k fun K25 hK25 => ?_
    refine r_list ?_
    refine wl rfl (ky (v := .bool false) hS (y_assign hS rfl) rfl rfl fun a hS => ?_)
    refine wpList_nil ?_
    try simp only [Exit.then, Exit.inBlock, ↓reduceIte, Nat.reduceEqDiff]
    refine hK25 _ _ ?_
    refine wp_ret ?_
    injection hM with hM
    subst hM
    try simp only [Exit.then, Exit.inBlock, ↓reduceIte, Nat.reduceEqDiff]
    refine ret_ok hS Tryd.results19 (res_tmp hS rfl res_nil) ?_
    exact rfl

noncomputable def ref29_Checks_j1 (out1591 : (List CheckD)) : Option (List CheckD) := some (out1591)
noncomputable def ref29_Checks_j2 (g1855 : Int) (out2228 : (List CheckD)) : Option (Fl ((List CheckD) × Int) ((List CheckD))) := some (.go (out2228, IntKind.i64.wrap (g1855 + 1)))
noncomputable def ref29_Checks_j3 (g2301 : Int) (out2373 : (List CheckD)) : Option (Fl ((List CheckD) × Int) ((List CheckD))) := some (.go (out2373, IntKind.i64.wrap (g2301 + 1)))
noncomputable def ref29_Checks_l4 (group_ : (List KeyD)) (e2232 : KeyD) (u2241 : (RecordD × Bool)) (out2297 : (List CheckD)) (g2301 : Int) : Option (Fl ((List CheckD) × Int) ((List CheckD))) := cond (decide ((g2301 : Int) < (u2241.1.Reads.length : Int))) ((getI u2241.1.Reads g2301).bind fun e2377 => (ref23_Has group_ e2377).bind fun u2388 => cond (!(u2388)) (gd (roomB (out2297.length + ([(CheckD.mk e2232 e2377)]).length)) <| ref29_Checks_j3 g2301 (out2297 ++ ([(CheckD.mk e2232 e2377)]))) (ref29_Checks_j3 g2301 out2297)) (some (.out out2297))
noncomputable def ref29_Checks_l5 (l_0 : (List RecordD)) (group_ : (List KeyD)) (out1851 : (List CheckD)) (g1855 : Int) : Option (Fl ((List CheckD) × Int) ((List CheckD))) := cond (decide ((g1855 : Int) < (group_.length : Int))) ((getI group_ g1855).bind fun e2232 => (ref26_Find l_0 e2232).bind fun u2241 => (loop (fun s : (List CheckD) × Int => ref29_Checks_l4 group_ e2232 u2241 s.1 s.2) (out1851, 0)).bind fun r => ref29_Checks_j2 g1855 r) (some (.out out1851))
noncomputable def ref29_Checks (l_0 : (List RecordD)) (group_ : (List KeyD)) : Option (List CheckD) := (loop (fun s : (List CheckD) × Int => ref29_Checks_l5 l_0 group_ s.1 s.2) (([] : List CheckD), 0)).bind fun r => ref29_Checks_j1 r
set_option maxRecDepth 100000 in
set_option maxHeartbeats 4000000 in
theorem ref29_Checks_c (T : Nat → Prop) (W0 : World) (hT : ∀ k, T k → k < W0.heap.size) (l_0 : (List RecordD)) (group_ : (List KeyD)) (v1 : Value) (v2 : Value) (hv1 : SlR R_RecordD T W0 v1 l_0) (hv2 : SlR R_KeyD T W0 v2 group_) (y : (List CheckD)) (hM : ref29_Checks l_0 group_ = some y) : Rets Tryd.prog No 18 [v1, v2] W0 (fun v w' => ∃ (v3 : Value) (cl4 : List Value), v = v3 ∧ OwnR R_CheckD T W0 w' [.own v3 44 R_CheckD.size cl4] 44 v3 cl4 y) := by
  refine enter (c := _) Tryd.func18 rfl T 44 Tryd.ntmps18 hT rfl fun a hS => ?_
  replace hS := hS.fact (SlF R_RecordD v1 l_0) (SlR.dn hv1)
  replace hS := hS.fact (SlF R_KeyD v2 group_) (SlR.dn hv2)
  unfold ref29_Checks at hM
  refine wp_seq_k fun K134 hK134 => ?_
  refine r_list ?_
  refine wl rfl (ky (v := .slice none 0 0) hS (y_assign hS rfl) rfl rfl fun a hS => ?_)
  refine wpList_nil ?_
  try simp only [Exit.then, Exit.inBlock, ↓reduceIte, Nat.reduceEqDiff]
  refine hK134 _ _ ?_
  refine wp_seq_k fun K135 hK135 => ?_
  refine r_list ?_
  refine wl rfl (ky (v := .slice none 0 0) hS (y_assign hS rfl) rfl rfl fun a hS => ?_)
  refine wpList_nil ?_
  try simp only [Exit.then, Exit.inBlock, ↓reduceIte, Nat.reduceEqDiff]
  refine hK135 _ _ ?_
  refine seq_j (J := fun a w => ∃ (out1591 : (List CheckD)) (v1592 : Value) (cl1593 : (List Value)), St W0 No T 44 [(5, v1592)] [.own v1592 44 R_CheckD.size cl1593] [RowsF R_CheckD cl1593 out1591] a w ∧ ref29_Checks_j1 out1591 = some y) ?_ ?_
  · skip
    refine wp_seq_k fun K202 hK202 => ?_
    refine r_list ?_
    refine wl rfl (ky (v := v2) hS (y_move hS rfl) rfl rfl fun a hS => ?_)
    refine wl rfl (ky (v := .int .i64 (group_.length : Int)) hS (y_len (R := R_KeyD) (xs := group_) hS sl23 rfl 0 rfl) rfl rfl fun a hS => ?_)
    refine wl rfl (ky (v := .int .i64 0) hS (y_move hS rfl) rfl rfl fun a hS => ?_)
    refine wpList_nil ?_
    try simp only [Exit.then, Exit.inBlock, ↓reduceIte, Nat.reduceEqDiff]
    refine hK202 _ _ ?_
    refine wp_block ?_
    replace hS := hS.nilRow R_CheckD 44 (by decide)
    obtain ⟨r1, hl1, hMo1⟩ := bd hM
    refine wp_lp (fun s : (List CheckD) × Int => ref29_Checks_l5 l_0 group_ s.1 s.2) (fun s a w => ∃ (out1851 : (List CheckD)) (g1855 : Int) (v1852 : Value) (cl1853 : (List Value)), (out1851, g1855) = s ∧ St W0 No T 44 [(0, v1), (1, v2), (5, v1852), (12, v2), (13, .int .i64 (group_.length : Int)), (14, .int .i64 g1855)] [.own v1852 44 R_CheckD.size cl1853] [SlF R_RecordD v1 l_0, SlF R_KeyD v2 group_, RowsF R_CheckD cl1853 out1851] a w) hl1 ⟨([] : List CheckD), 0, (.slice none 0 0), ([]), rfl, (hS.meet [0] (by decide) ⟨rfl, rfl, rfl, rfl, rfl, rfl, trivial⟩ ⟨rfl, trivial⟩ ⟨⟨2, rfl⟩, ⟨1, rfl⟩, ⟨0, rfl⟩, trivial⟩)⟩ ?_
    rintro s a w f1 ⟨out1851, g1855, v1852, cl1853, rfl, hS⟩ hM hf1
    have hM : ref29_Checks_l5 l_0 group_ out1851 g1855 = some f1 := hM
    unfold ref29_Checks_l5 at hM
    refine wp_seq_k fun K267 hK267 => ?_
    refine r_list ?_
    refine wl rfl (ky (v := .bool (decide ((g1855 : Int) < (group_.length : Int)))) hS (y_int hS rfl rfl rfl) rfl rfl fun a hS => ?_)
    refine wpList_nil ?_
    try simp only [Exit.then, Exit.inBlock, ↓reduceIte, Nat.reduceEqDiff]
    refine hK267 _ _ ?_
    refine wp_seq_k fun K268 hK268 => ?_
    rcases bool2 (decide ((g1855 : Int) < (group_.length : Int))) with hb2107 | hb2107
    · replace hM := ct hb2107 hM
      refine c_t hS rfl hb2107 ?_
      refine wp_skip ?_
      try simp only [Exit.then, Exit.inBlock, ↓reduceIte, Nat.reduceEqDiff]
      refine hK268 _ _ ?_
      refine seq_j (J := fun a w => ∃ (out2228 : (List CheckD)) (v2229 : Value) (cl2230 : (List Value)), St W0 No T 44 [(0, v1), (1, v2), (5, v2229), (12, v2), (13, .int .i64 (group_.length : Int)), (14, .int .i64 g1855)] [.own v2229 44 R_CheckD.size cl2230] [SlF R_RecordD v1 l_0, SlF R_KeyD v2 group_, RowsF R_CheckD cl2230 out2228] a w ∧ ref29_Checks_j2 g1855 out2228 = some f1) ?_ ?_
      · skip
        refine wp_block ?_
        refine wp_seq_k fun K284 hK284 => ?_
        refine r_list ?_
        obtain ⟨e2232, he2232, hM⟩ := bd hM
        refine wl rfl (k_index (R := R_KeyD) hS sl23 ty32 rfl rfl 1 rfl he2232 rfl fun b2233 o2234 cs2236 hr2235 a hS => ?_)
        obtain rfl := hr2235
        refine wl rfl (ky (v := .agg #[.int .i64 e2232.Kind, .string e2232.Text]) hS (y_loadc (k := 0) hS ty32 0 rfl rfl (fun _ h => h.elim) (us := [.int .i64 e2232.Kind, .string e2232.Text]) rfl rfl (fun h => by cases h)) rfl rfl fun a hS => ?_)
        refine wl rfl (k_alloc hS ze32 rfl fun b2238 hnb2240 a w hk hS => ?_)
        refine wl rfl (k_store hS rfl rfl (us := [.int .i64 e2232.Kind, .string e2232.Text]) rfl ty32 0 rfl rfl rfl (oc rfl (oc rfl on)) fun w hk hS => ?_)
        refine wpList_nil ?_
        try simp only [Exit.then, Exit.inBlock, ↓reduceIte, Nat.reduceEqDiff]
        refine hK284 _ _ ?_
        refine wp_seq_k fun K285 hK285 => ?_
        refine r_list ?_
        refine wl rfl (ky (v := v1) hS (y_move hS rfl) rfl rfl fun a hS => ?_)
        refine wl rfl (ky (v := .agg #[.int .i64 e2232.Kind, .string e2232.Text]) hS (y_load hS rfl ty32 0 rfl id (us := [.int .i64 e2232.Kind, .string e2232.Text]) rfl rfl (fun h => by cases h)) rfl rfl fun a hS => ?_)
        obtain ⟨u2241, hu2241, hM⟩ := bd hM
        refine wl rfl (k_call hS ci20 rfl rfl (ref26_Find_c _ _ hS.dlt l_0 e2232 _ (hS.get 1 rfl) _ hu2241) fun _ w hR a hk hA => ?_)
        obtain ⟨vz2242_2, clz2242_3, he, ⟨hOvz2242_2, hFvz2242_2, hRvz2242_2⟩⟩ := hR
        replace he := he.symm
        subst he
        have hS := hA [.own vz2242_2 32 R_KeyD.size clz2242_3] (adds1 ⟨hOvz2242_2, by decide⟩ hFvz2242_2) (pw1 _)
        replace hS := hS.fact (RowsF R_KeyD clz2242_3 u2241.1.Reads) (hRvz2242_2.keep (Kt.refl _ _) (dT_dT _))
        refine wl rfl (ky (v := .tuple #[.agg #[.int .i64 u2241.1.Key.Kind, .string u2241.1.Key.Text, .string u2241.1.Value, vz2242_2, .int .i64 u2241.1.Changed, .int .i64 u2241.1.Verified, .int .i64 u2241.1.Cost, .bool u2241.1.Dirty], .bool u2241.2]) hS (y_move hS rfl) rfl rfl fun a hS => ?_)
        refine wl rfl (ky (v := .agg #[.int .i64 u2241.1.Key.Kind, .string u2241.1.Key.Text, .string u2241.1.Value, vz2242_2, .int .i64 u2241.1.Changed, .int .i64 u2241.1.Verified, .int .i64 u2241.1.Cost, .bool u2241.1.Dirty]) hS (y_ex hS rfl rfl) rfl rfl fun a hS => ?_)
        refine wl rfl (ky (v := .bool u2241.2) hS (y_ex hS rfl rfl) rfl rfl fun a hS => ?_)
        refine wl rfl (k_alloc hS ze34 rfl fun b2244 hnb2246 a w hk hS => ?_)
        refine wl rfl (k_store hS rfl rfl (us := [.int .i64 u2241.1.Key.Kind, .string u2241.1.Key.Text, .string u2241.1.Value, vz2242_2, .int .i64 u2241.1.Changed, .int .i64 u2241.1.Verified, .int .i64 u2241.1.Cost, .bool u2241.1.Dirty]) rfl ty34 0 rfl rfl rfl (oc rfl (oc rfl (oc rfl (oc (own_one (hS.own _ (List.mem_of_getElem? (i := 1) rfl)).1) (oc rfl (oc rfl (oc rfl (oc rfl on)))))))) fun w hk hS => ?_)
        refine wl rfl (ky (v := .bool u2241.2) hS (y_assign hS rfl) rfl rfl fun a hS => ?_)
        refine wpList_nil ?_
        try simp only [Exit.then, Exit.inBlock, ↓reduceIte, Nat.reduceEqDiff]
        refine hK285 _ _ ?_
        refine wp_seq_k fun K286 hK286 => ?_
        refine r_list ?_
        refine wl rfl (ky (v := .pointer (some ⟨b2244, 0 + 3, none⟩)) hS (y_fld hS rfl fl34_2) rfl rfl fun a hS => ?_)
        refine wl rfl (ky (v := vz2242_2) hS (y_load hS rfl ty23 0 rfl id (us := [vz2242_2]) rfl rfl (fun _ => rfl)) rfl rfl fun a hS => ?_)
        refine wl rfl (ky (v := .int .i64 (u2241.1.Reads.length : Int)) hS (y_leno (R := R_KeyD) (xs := u2241.1.Reads) hS sl23 rfl 1 rfl 0 rfl) rfl rfl fun a hS => ?_)
        refine wl rfl (ky (v := .int .i64 0) hS (y_move hS rfl) rfl rfl fun a hS => ?_)
        refine wpList_nil ?_
        try simp only [Exit.then, Exit.inBlock, ↓reduceIte, Nat.reduceEqDiff]
        refine hK286 _ _ ?_
        refine wp_block ?_
        obtain ⟨r2, hl2, hMo2⟩ := bd hM
        refine wp_lp (fun s : (List CheckD) × Int => ref29_Checks_l4 group_ e2232 u2241 s.1 s.2) (fun s a w => ∃ (out2297 : (List CheckD)) (g2301 : Int) (v2298 : Value) (cl2299 : (List Value)), (out2297, g2301) = s ∧ St W0 No T 44 [(0, v1), (1, v2), (5, v2298), (7, .pointer (some ⟨b2238, 0, none⟩)), (12, v2), (13, .int .i64 (group_.length : Int)), (14, .int .i64 g1855), (25, vz2242_2), (26, .int .i64 (u2241.1.Reads.length : Int)), (27, .int .i64 g2301)] [.own v2298 44 R_CheckD.size cl2299, .own vz2242_2 32 R_KeyD.size clz2242_3, .box b2238 [.int .i64 e2232.Kind, .string e2232.Text] 32] [SlF R_RecordD v1 l_0, SlF R_KeyD v2 group_, RowsF R_CheckD cl2299 out2297, RowsF R_KeyD clz2242_3 u2241.1.Reads] a w) hl2 ⟨out1851, 0, v1852, cl1853, rfl, (hS.meet [3, 1, 2] (by decide) ⟨rfl, rfl, rfl, rfl, rfl, rfl, rfl, rfl, rfl, rfl, trivial⟩ ⟨rfl, rfl, rfl, trivial⟩ ⟨⟨2, rfl⟩, ⟨3, rfl⟩, ⟨4, rfl⟩, ⟨0, rfl⟩, trivial⟩)⟩ ?_
        rintro s a w f2 ⟨out2297, g2301, v2298, cl2299, rfl, hS⟩ hM hf2
        have hM : ref29_Checks_l4 group_ e2232 u2241 out2297 g2301 = some f2 := hM
        unfold ref29_Checks_l4 at hM
        refine wp_seq_k fun K299 hK299 => ?_
        refine r_list ?_
        refine wl rfl (ky (v := .bool (decide ((g2301 : Int) < (u2241.1.Reads.length : Int)))) hS (y_int hS rfl rfl rfl) rfl rfl fun a hS => ?_)
        refine wpList_nil ?_
        try simp only [Exit.then, Exit.inBlock, ↓reduceIte, Nat.reduceEqDiff]
        refine hK299 _ _ ?_
        refine wp_seq_k fun K300 hK300 => ?_
        rcases bool2 (decide ((g2301 : Int) < (u2241.1.Reads.length : Int))) with hb2352 | hb2352
        · replace hM := ct hb2352 hM
          refine c_t hS rfl hb2352 ?_
          refine wp_skip ?_
          try simp only [Exit.then, Exit.inBlock, ↓reduceIte, Nat.reduceEqDiff]
          refine hK300 _ _ ?_
          refine seq_j (J := fun a w => ∃ (out2373 : (List CheckD)) (v2374 : Value) (cl2375 : (List Value)), St W0 No T 44 [(0, v1), (1, v2), (5, v2374), (7, .pointer (some ⟨b2238, 0, none⟩)), (12, v2), (13, .int .i64 (group_.length : Int)), (14, .int .i64 g1855), (25, vz2242_2), (26, .int .i64 (u2241.1.Reads.length : Int)), (27, .int .i64 g2301)] [.own v2374 44 R_CheckD.size cl2375, .own vz2242_2 32 R_KeyD.size clz2242_3, .box b2238 [.int .i64 e2232.Kind, .string e2232.Text] 32] [SlF R_RecordD v1 l_0, SlF R_KeyD v2 group_, RowsF R_CheckD cl2375 out2373, RowsF R_KeyD clz2242_3 u2241.1.Reads] a w ∧ ref29_Checks_j3 g2301 out2373 = some f2) ?_ ?_
          · skip
            refine wp_block ?_
            refine wp_seq_k fun K303 hK303 => ?_
            refine r_list ?_
            obtain ⟨e2377, he2377, hM⟩ := bd hM
            refine wl rfl (k_indexo (R := R_KeyD) hS sl23 ty32 rfl rfl 1 rfl 3 rfl he2377 rfl fun b2378 o2379 p2384 cs2381 hr2380 hO2382 hC2383 a hS => ?_)
            obtain rfl := hr2380
            refine wl rfl (ky (v := .agg #[.int .i64 e2377.Kind, .string e2377.Text]) hS (y_loado (k := 0) hS ty32 1 rfl hO2382 hC2383 rfl id (us := [.int .i64 e2377.Kind, .string e2377.Text]) rfl rfl (fun h => by cases h)) rfl rfl fun a hS => ?_)
            refine wl rfl (k_alloc hS ze32 rfl fun b2385 hnb2387 a w hk hS => ?_)
            refine wl rfl (k_store hS rfl rfl (us := [.int .i64 e2377.Kind, .string e2377.Text]) rfl ty32 0 rfl rfl rfl (oc rfl (oc rfl on)) fun w hk hS => ?_)
            refine wpList_nil ?_
            try simp only [Exit.then, Exit.inBlock, ↓reduceIte, Nat.reduceEqDiff]
            refine hK303 _ _ ?_
            refine wp_seq_k fun K304 hK304 => ?_
            refine r_list ?_
            refine wl rfl (ky (v := v2) hS (y_move hS rfl) rfl rfl fun a hS => ?_)
            refine wl rfl (ky (v := .agg #[.int .i64 e2377.Kind, .string e2377.Text]) hS (y_load hS rfl ty32 0 rfl id (us := [.int .i64 e2377.Kind, .string e2377.Text]) rfl rfl (fun h => by cases h)) rfl rfl fun a hS => ?_)
            obtain ⟨u2388, hu2388, hM⟩ := bd hM
            refine wl rfl (k_call hS ci19 rfl rfl (ref23_Has_c _ _ hS.dlt group_ e2377 _ (hS.get 1 rfl) _ hu2388) fun _ w hR a hk hA => ?_)
            have he := Eq.symm hR
            subst he
            have hS := hA [] (fun r hr => by cases hr) List.Pairwise.nil
            refine wl rfl (ky (v := .bool (!(u2388))) hS (y_not hS rfl) rfl rfl fun a hS => ?_)
            refine wpList_nil ?_
            try simp only [Exit.then, Exit.inBlock, ↓reduceIte, Nat.reduceEqDiff]
            refine hK304 _ _ ?_
            rcases bool2 (!(u2388)) with hb2390 | hb2390
            · replace hM := ct hb2390 hM
              refine c_t hS rfl hb2390 ?_
              refine r_list ?_
              refine wl rfl (ky (v := v2298) hS (y_move hS rfl) rfl rfl fun a hS => ?_)
              refine wl rfl (ky (v := .agg #[.int .i64 e2232.Kind, .string e2232.Text]) hS (y_load hS rfl ty32 3 rfl id (us := [.int .i64 e2232.Kind, .string e2232.Text]) rfl rfl (fun h => by cases h)) rfl rfl fun a hS => ?_)
              refine wl rfl (ky (v := .agg #[.int .i64 e2377.Kind, .string e2377.Text]) hS (y_load hS rfl ty32 0 rfl id (us := [.int .i64 e2377.Kind, .string e2377.Text]) rfl rfl (fun h => by cases h)) rfl rfl fun a hS => ?_)
              refine wl rfl (ky (v := .agg #[.int .i64 e2232.Kind, .string e2232.Text, .int .i64 e2377.Kind, .string e2377.Text]) hS (y_build (ps := [(0, .tmp 36), (1, .tmp 37)]) hS pl44 ze44 rfl (us := [[.int .i64 e2232.Kind, .string e2232.Text], [.int .i64 e2377.Kind, .string e2377.Text]]) ⟨rfl, ⟨rfl, trivial⟩⟩ (ws := [.int .i64 e2232.Kind, .string e2232.Text, .int .i64 e2377.Kind, .string e2377.Text]) rfl) rfl rfl fun a hS => ?_)
              refine wl rfl (k_bslice (ps := [(0, .tmp 38)]) hS el39 ze44 (zl := [.int .i64 0, .string (ByteArray.mk #[]), .int .i64 0, .string (ByteArray.mk #[])]) (by kernel_rfl) rfl (us := [[.int .i64 e2232.Kind, .string e2232.Text, .int .i64 e2377.Kind, .string e2377.Text]]) ⟨rfl, trivial⟩ (ws := [.int .i64 e2232.Kind, .string e2232.Text, .int .i64 e2377.Kind, .string e2377.Text]) rfl rfl rfl rfl fun b2391 a w hk hS => ?_)
              replace hS := hS.lit (R := R_CheckD) (us := [.int .i64 e2232.Kind, .string e2232.Text, .int .i64 e2377.Kind, .string e2377.Text]) (xs := [(CheckD.mk e2232 e2377)]) 0 rfl (by decide) (RowsOk.one_ (R := R_CheckD) (x := (CheckD.mk e2232 e2377)) rfl) rfl rfl
              replace hS := hS.freeze (R := R_CheckD) 0 rfl 0 rfl
              obtain ⟨hg2393, hM⟩ := gd_some hM
              refine wl rfl (k_apps (R := R_CheckD) (xs := out2297) (ys := [(CheckD.mk e2232 e2377)]) hS el39 (by decide) (by decide) rfl rfl 1 rfl 4 rfl 0 rfl hg2393 rfl fun v2394 cl2395 a w hk hS => ?_)
              refine wl rfl (ky (v := v2394) hS (y_assign hS rfl) rfl rfl fun a hS => ?_)
              refine wpList_nil ?_
              try simp only [Exit.then, Exit.inBlock, ↓reduceIte, Nat.reduceEqDiff]
              exact ⟨(out2297 ++ ([(CheckD.mk e2232 e2377)])), v2394, cl2395, (hS.meet [1, 2, 3] (by decide) ⟨rfl, rfl, rfl, rfl, rfl, rfl, rfl, rfl, rfl, rfl, trivial⟩ ⟨rfl, rfl, rfl, trivial⟩ ⟨⟨3, rfl⟩, ⟨4, rfl⟩, ⟨0, rfl⟩, ⟨6, rfl⟩, trivial⟩), hM⟩
            · replace hM := cf hb2390 hM
              refine c_f hS rfl hb2390 ?_
              refine wp_skip ?_
              try simp only [Exit.then, Exit.inBlock, ↓reduceIte, Nat.reduceEqDiff]
              exact ⟨out2297, v2298, cl2299, (hS.meet [1, 2, 3] (by decide) ⟨rfl, rfl, rfl, rfl, rfl, rfl, rfl, rfl, rfl, rfl, trivial⟩ ⟨rfl, rfl, rfl, trivial⟩ ⟨⟨0, rfl⟩, ⟨1, rfl⟩, ⟨2, rfl⟩, ⟨3, rfl⟩, trivial⟩), hM⟩
          · rintro a w ⟨out2373, v2374, cl2375, hS, hM⟩
            unfold ref29_Checks_j3 at hM
            refine r_list ?_
            refine wl rfl (ky (v := .int .i64 (IntKind.i64.wrap (g2301 + 1))) hS (y_int hS rfl rfl rfl) rfl rfl fun a hS => ?_)
            refine wl rfl (ky (v := .int .i64 (IntKind.i64.wrap (g2301 + 1))) hS (y_move hS rfl) rfl rfl fun a hS => ?_)
            refine wpList_nil ?_
            try simp only [Exit.then, Exit.inBlock, ↓reduceIte, Nat.reduceEqDiff]
            exact ⟨(out2373, IntKind.i64.wrap (g2301 + 1)), (Option.some.inj hM).symm, out2373, (IntKind.i64.wrap (g2301 + 1)), v2374, cl2375, rfl, (hS.meet [0, 1, 2] (by decide) ⟨rfl, rfl, rfl, rfl, rfl, rfl, rfl, rfl, rfl, rfl, trivial⟩ ⟨rfl, rfl, rfl, trivial⟩ ⟨⟨0, rfl⟩, ⟨1, rfl⟩, ⟨2, rfl⟩, ⟨3, rfl⟩, trivial⟩)⟩
        · replace hM := cf hb2352 hM
          refine c_f hS rfl hb2352 ?_
          refine wp_exit ?_
          try simp only [Exit.then, Exit.inBlock, ↓reduceIte, Nat.reduceEqDiff]
          injection hM with hM
          subst hM
          have hr := hf2 _ rfl
          subst hr
          have hM : ref29_Checks_j2 g1855 out2297 = some f1 := hMo2
          exact ⟨out2297, v2298, cl2299, (hS.meet [0] (by decide) ⟨rfl, rfl, rfl, rfl, rfl, rfl, trivial⟩ ⟨rfl, trivial⟩ ⟨⟨0, rfl⟩, ⟨1, rfl⟩, ⟨2, rfl⟩, trivial⟩), hM⟩
      · rintro a w ⟨out2228, v2229, cl2230, hS, hM⟩
        unfold ref29_Checks_j2 at hM
        refine r_list ?_
        refine wl rfl (ky (v := .int .i64 (IntKind.i64.wrap (g1855 + 1))) hS (y_int hS rfl rfl rfl) rfl rfl fun a hS => ?_)
        refine wl rfl (ky (v := .int .i64 (IntKind.i64.wrap (g1855 + 1))) hS (y_move hS rfl) rfl rfl fun a hS => ?_)
        refine wpList_nil ?_
        try simp only [Exit.then, Exit.inBlock, ↓reduceIte, Nat.reduceEqDiff]
        exact ⟨(out2228, IntKind.i64.wrap (g1855 + 1)), (Option.some.inj hM).symm, out2228, (IntKind.i64.wrap (g1855 + 1)), v2229, cl2230, rfl, (hS.meet [0] (by decide) ⟨rfl, rfl, rfl, rfl, rfl, rfl, trivial⟩ ⟨rfl, trivial⟩ ⟨⟨0, rfl⟩, ⟨1, rfl⟩, ⟨2, rfl⟩, trivial⟩)⟩
    · replace hM := cf hb2107 hM
      refine c_f hS rfl hb2107 ?_
      refine wp_exit ?_
      try simp only [Exit.then, Exit.inBlock, ↓reduceIte, Nat.reduceEqDiff]
      injection hM with hM
      subst hM
      have hr := hf1 _ rfl
      subst hr
      have hM : ref29_Checks_j1 out1851 = some y := hMo1
      exact ⟨out1851, v1852, cl1853, (hS.meet [0] (by decide) ⟨rfl, trivial⟩ ⟨rfl, trivial⟩ ⟨⟨2, rfl⟩, trivial⟩), hM⟩
  · rintro a w ⟨out1591, v1592, cl1593, hS, hM⟩
    unfold ref29_Checks_j1 at hM
    refine wp_seq_k fun K201 hK201 => ?_
    refine r_list ?_
    refine wl rfl (ky (v := v1592) hS (y_move hS rfl) rfl rfl fun a hS => ?_)
    refine wl rfl (ky (v := v1592) hS (y_assign hS rfl) rfl rfl fun a hS => ?_)
    refine wpList_nil ?_
    try simp only [Exit.then, Exit.inBlock, ↓reduceIte, Nat.reduceEqDiff]
    refine hK201 _ _ ?_
    refine wp_ret ?_
    injection hM with hM
    subst hM
    try simp only [Exit.then, Exit.inBlock, ↓reduceIte, Nat.reduceEqDiff]
    refine ret_ok hS Tryd.results18 (res_tmp hS rfl res_nil) ?_
    exact ⟨v1592, cl1593, rfl, hS.retOwn ⟨.inr (List.mem_of_getElem? (i := 0) rfl), trivial⟩ 0 rfl 0 rfl⟩
end Go.Proofs.YtdappapdddnciaaDoor
