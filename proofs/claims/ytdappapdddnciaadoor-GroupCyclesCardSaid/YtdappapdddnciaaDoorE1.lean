/- What functions of the program compute; that they do. -/
import Derived.Test.YtdappapdddnciaaDoorMT
import Derived.Test.YtdappapdddnciaaDoorD2
set_option linter.unusedVariables false
set_option linter.unusedSimpArgs false
namespace Go.Proofs.YtdappapdddnciaaDoor
open Go.RowKit
noncomputable def group_Of_1 (k_0 : KeyD) (p_1 : (List (KeyD × (List KeyD)))) : Option ((List KeyD) × Bool) := (some ((mget keq_KeyD k_0 p_1).getD ([]))).bind fun u12 => some ((u12, (mget keq_KeyD k_0 p_1).isSome))
set_option maxRecDepth 100000 in
set_option maxHeartbeats 4000000 in
theorem group_Of_1_c (T : Nat → Prop) (W0 : World) (hT : ∀ k, T k → k < W0.heap.size) (k_0 : KeyD) (p_1 : (List (KeyD × (List KeyD)))) (v1 : Value) (b2 : Nat) (hv1 : MpR R_KeyD true (Rep.slice R_KeyD) false T W0 v1 p_1) (hCb2 : (CellsF b2 0 [v1]).p T W0) (y : (List KeyD) × Bool) (hM : group_Of_1 k_0 p_1 = some y) : Rets Tryd.prog No 28 [.agg #[.int .i64 k_0.Kind, .string k_0.Text], .pointer (some ⟨b2, 0, none⟩)] W0 (fun v w' => ∃ (v3 : Value), v = .tuple #[v3, .bool y.2] ∧ SlR R_KeyD (dT T []) w' v3 y.1) := by
  refine enter (c := _) Tryd.func28 rfl T 15 Tryd.ntmps28 hT rfl fun a hS => ?_
  replace hS := hS.fact (CellsF b2 0 [v1]) (Fact.dn _ hCb2)
  replace hS := hS.fact (MpF R_KeyD true (Rep.slice R_KeyD) false v1 p_1) (Fact.dn (MpF R_KeyD true (Rep.slice R_KeyD) false v1 p_1) hv1)
  unfold group_Of_1 at hM
  refine wp_seq_k fun K4 hK4 => ?_
  refine r_list ?_
  refine wl rfl (k_box hS rfl (cs := [.int .i64 k_0.Kind, .string k_0.Text]) rfl rfl fun b9 hnb11 a w hk hS => ?_)
  refine wl rfl (ky (v := .slice none 0 0) hS (y_assign hS rfl) rfl rfl fun a hS => ?_)
  refine wl rfl (ky (v := .bool false) hS (y_assign hS rfl) rfl rfl fun a hS => ?_)
  refine wpList_nil ?_
  try simp only [Exit.then, Exit.inBlock, ↓reduceIte, Nat.reduceEqDiff]
  refine hK4 _ _ ?_
  refine wp_seq_k fun K5 hK5 => ?_
  refine r_list ?_
  refine wl rfl (ky (v := v1) hS (y_loadc (k := 0) hS ty56 1 rfl rfl (fun _ h => h.elim) (us := [v1]) rfl rfl (fun _ => rfl)) rfl rfl fun a hS => ?_)
  refine wl rfl (ky (v := .agg #[.int .i64 k_0.Kind, .string k_0.Text]) hS (y_load hS rfl ty32 0 rfl id (us := [.int .i64 k_0.Kind, .string k_0.Text]) rfl rfl (fun h => by cases h)) rfl rfl fun a hS => ?_)
  obtain ⟨u12, hu12, hM⟩ := bd hM
  obtain ⟨cv14, hr15, hy16⟩ := d_looks hS mp56 kt_KeyD 0 rfl (c := [.int .i64 k_0.Kind, .string k_0.Text]) (key := k_0) rfl zv23 (zc := [.slice none 0 0]) rfl (⟨_, rfl, SlR.nil_ _ _ _⟩) hu12
  obtain ⟨v13, rfl, hv13⟩ := hr15
  replace hS := hS.fact (SlF R_KeyD v13 u12) hv13
  refine wl rfl (ky (v := .tuple #[v13, .bool ((mget keq_KeyD k_0 p_1).isSome)]) hS (hy16 rfl rfl (fun _ h => h.elim)) rfl rfl fun a hS => ?_)
  refine wl rfl (ky (v := .tuple #[v13, .bool ((mget keq_KeyD k_0 p_1).isSome)]) hS (y_move hS rfl) rfl rfl fun a hS => ?_)
  refine wl rfl (ky (v := v13) hS (y_ex hS rfl rfl) rfl rfl fun a hS => ?_)
  refine wl rfl (ky (v := .bool ((mget keq_KeyD k_0 p_1).isSome)) hS (y_ex hS rfl rfl) rfl rfl fun a hS => ?_)
  refine wl rfl (ky (v := v13) hS (y_assign hS rfl) rfl rfl fun a hS => ?_)
  refine wl rfl (ky (v := .bool ((mget keq_KeyD k_0 p_1).isSome)) hS (y_assign hS rfl) rfl rfl fun a hS => ?_)
  refine wpList_nil ?_
  try simp only [Exit.then, Exit.inBlock, ↓reduceIte, Nat.reduceEqDiff]
  refine hK5 _ _ ?_
  refine wp_seq_k fun K6 hK6 => ?_
  refine r_list ?_
  refine wl rfl (ky (v := v13) hS (y_move hS rfl) rfl rfl fun a hS => ?_)
  refine wl rfl (ky (v := .bool ((mget keq_KeyD k_0 p_1).isSome)) hS (y_move hS rfl) rfl rfl fun a hS => ?_)
  refine wl rfl (ky (v := v13) hS (y_assign hS rfl) rfl rfl fun a hS => ?_)
  refine wl rfl (ky (v := .bool ((mget keq_KeyD k_0 p_1).isSome)) hS (y_assign hS rfl) rfl rfl fun a hS => ?_)
  refine wpList_nil ?_
  try simp only [Exit.then, Exit.inBlock, ↓reduceIte, Nat.reduceEqDiff]
  refine hK6 _ _ ?_
  refine wp_ret ?_
  injection hM with hM
  subst hM
  try simp only [Exit.then, Exit.inBlock, ↓reduceIte, Nat.reduceEqDiff]
  refine ret_ok hS Tryd.results28 (res_tmp hS rfl (res_tmp hS rfl res_nil)) ?_
  exact ⟨v13, rfl, (SlR.up trivial (hS.get 0 rfl))⟩

noncomputable def group_Among_j1 (out9552 : (List KeyD)) : Option (List KeyD) := (key_Sorted out9552).bind fun u9556 => some (u9556)
noncomputable def group_Among_j2 (back9928 : (List (KeyD × (List KeyD)))) (i9938 : Int) (in10478 : (List (KeyD × Bool))) (out10481 : (List KeyD)) : Option (Fl ((List (KeyD × (List KeyD))) × (List (KeyD × Bool)) × (List KeyD) × Int) ((List KeyD))) := some (.go (back9928, in10478, out10481, IntKind.i64.wrap (i9938 + 1)))
noncomputable def group_Among_j3 (g10581 : Int) (in10689 : (List (KeyD × Bool))) (out10692 : (List KeyD)) : Option (Fl ((List (KeyD × Bool)) × (List KeyD) × Int) ((List (KeyD × Bool)) × (List KeyD))) := some (.go (in10689, out10692, IntKind.i64.wrap (g10581 + 1)))
noncomputable def group_Among_l4 (u10493 : (List KeyD)) (in10574 : (List (KeyD × Bool))) (out10577 : (List KeyD)) (g10581 : Int) : Option (Fl ((List (KeyD × Bool)) × (List KeyD) × Int) ((List (KeyD × Bool)) × (List KeyD))) := cond (decide ((g10581 : Int) < (u10493.length : Int))) ((getI u10493 g10581).bind fun e10696 => (some ((mget keq_KeyD e10696 in10574).getD false)).bind fun u10705 => cond (!(u10705)) (gd (roomB (out10577.length + ([e10696]).length)) <| group_Among_j3 g10581 (mput keq_KeyD e10696 true in10574) (out10577 ++ ([e10696]))) (group_Among_j3 g10581 in10574 out10577)) (some (.out (in10574, out10577)))
noncomputable def group_Among_l5 (back9928 : (List (KeyD × (List KeyD)))) (in9931 : (List (KeyD × Bool))) (out9934 : (List KeyD)) (i9938 : Int) : Option (Fl ((List (KeyD × (List KeyD))) × (List (KeyD × Bool)) × (List KeyD) × Int) ((List KeyD))) := cond (decide ((i9938 : Int) < (out9934.length : Int))) ((getI out9934 i9938).bind fun e10485 => (some ((mget keq_KeyD e10485 back9928).getD ([]))).bind fun u10493 => (loop (fun s : (List (KeyD × Bool)) × (List KeyD) × Int => group_Among_l4 u10493 s.1 s.2.1 s.2.2) (in9931, out9934, 0)).bind fun r => group_Among_j2 back9928 i9938 r.1 r.2) (some (.out out9934))
noncomputable def group_Among_j6 (k_0 : KeyD) (back8796 : (List (KeyD × (List KeyD)))) : Option (List KeyD) := (loop (fun s : (List (KeyD × (List KeyD))) × (List (KeyD × Bool)) × (List KeyD) × Int => group_Among_l5 s.1 s.2.1 s.2.2.1 s.2.2.2) (back8796, (mput keq_KeyD k_0 true ([] : (List (KeyD × Bool)))), [k_0], 0)).bind fun r => group_Among_j1 r
noncomputable def group_Among_j7 (i11937 : Int) (back13721 : (List (KeyD × (List KeyD)))) (seen13725 : (List (KeyD × Bool))) (l13728 : (List KeyD)) : Option (Fl ((List (KeyD × (List KeyD))) × (List (KeyD × Bool)) × (List KeyD) × Int) ((List (KeyD × (List KeyD))))) := some (.go (back13721, seen13725, l13728, IntKind.i64.wrap (i11937 + 1)))
noncomputable def group_Among_j8 (g14035 : Int) (back14448 : (List (KeyD × (List KeyD)))) (seen14452 : (List (KeyD × Bool))) (l14455 : (List KeyD)) : Option (Fl ((List (KeyD × (List KeyD))) × (List (KeyD × Bool)) × (List KeyD) × Int) ((List (KeyD × (List KeyD))) × (List (KeyD × Bool)) × (List KeyD))) := some (.go (back14448, seen14452, l14455, IntKind.i64.wrap (g14035 + 1)))
noncomputable def group_Among_l9 (open_1 : KeyD → Option ((List KeyD) × Bool)) (i11937 : Int) (u13740 : ((List KeyD) × Bool)) (back14024 : (List (KeyD × (List KeyD)))) (seen14028 : (List (KeyD × Bool))) (l14031 : (List KeyD)) (g14035 : Int) : Option (Fl ((List (KeyD × (List KeyD))) × (List (KeyD × Bool)) × (List KeyD) × Int) ((List (KeyD × (List KeyD))) × (List (KeyD × Bool)) × (List KeyD))) := cond (decide ((g14035 : Int) < (u13740.1.length : Int))) ((getI u13740.1 g14035).bind fun e14459 => (open_1 e14459).bind fun u14468 => cond (!(u14468.2)) (group_Among_j8 g14035 back14024 seen14028 l14031) ((getI l14031 i11937).bind fun e14543 => gd (roomB (((mget keq_KeyD e14459 back14024).getD []).length + ([e14543]).length)) <| (some ((mget keq_KeyD e14459 seen14028).getD false)).bind fun u14567 => cond (!(u14567)) (gd (roomB (l14031.length + ([e14459]).length)) <| group_Among_j8 g14035 (mput keq_KeyD e14459 (((mget keq_KeyD e14459 back14024).getD []) ++ ([e14543])) back14024) (mput keq_KeyD e14459 true seen14028) (l14031 ++ ([e14459]))) (group_Among_j8 g14035 (mput keq_KeyD e14459 (((mget keq_KeyD e14459 back14024).getD []) ++ ([e14543])) back14024) seen14028 l14031))) (some (.out (back14024, seen14028, l14031)))
noncomputable def group_Among_l10 (open_1 : KeyD → Option ((List KeyD) × Bool)) (back11926 : (List (KeyD × (List KeyD)))) (seen11930 : (List (KeyD × Bool))) (l11933 : (List KeyD)) (i11937 : Int) : Option (Fl ((List (KeyD × (List KeyD))) × (List (KeyD × Bool)) × (List KeyD) × Int) ((List (KeyD × (List KeyD))))) := cond (decide ((i11937 : Int) < (l11933.length : Int))) ((getI l11933 i11937).bind fun e13732 => (open_1 e13732).bind fun u13740 => (loop (fun s : (List (KeyD × (List KeyD))) × (List (KeyD × Bool)) × (List KeyD) × Int => group_Among_l9 open_1 i11937 u13740 s.1 s.2.1 s.2.2.1 s.2.2.2) (back11926, seen11930, l11933, 0)).bind fun r => group_Among_j7 i11937 r.1 r.2.1 r.2.2) (some (.out back11926))
noncomputable def group_Among (open_1 : KeyD → Option ((List KeyD) × Bool)) (k_0 : KeyD) : Option (List KeyD) := (open_1 k_0).bind fun u6372 => cond (!(u6372.2)) (some ([k_0])) ((loop (fun s : (List (KeyD × (List KeyD))) × (List (KeyD × Bool)) × (List KeyD) × Int => group_Among_l10 open_1 s.1 s.2.1 s.2.2.1 s.2.2.2) (([] : (List (KeyD × (List KeyD)))), (mput keq_KeyD k_0 true ([] : (List (KeyD × Bool)))), [k_0], 0)).bind fun r => group_Among_j6 k_0 r)
set_option maxRecDepth 100000 in
set_option maxHeartbeats 4000000 in
theorem group_Among_c (T : Nat → Prop) (W0 : World) (hT : ∀ k, T k → k < W0.heap.size) (hLv : LvP T W0) (open_1g : Nat) (hcopen_1 : callI Tryd.prog open_1g = true) (open_1k : List Value) (open_1P : Fact) (open_1 : KeyD → Option ((List KeyD) × Bool)) (hopen_1 : ∀ (T : Nat → Prop) (W0 : World) (hT : ∀ k, T k → k < W0.heap.size) (hLv : LvP T W0) (hP : open_1P.p T W0) (x0 : KeyD) (y : (List KeyD) × Bool) (hM : open_1 x0 = some y), Rets Tryd.prog No open_1g ([.agg #[.int .i64 x0.Kind, .string x0.Text]] ++ open_1k) W0 (fun v w' => ∃ (vq1 : Value), v = .tuple #[vq1, .bool y.2] ∧ SlR R_KeyD (dT T []) w' vq1 y.1)) (hPopen_1 : open_1P.p T W0) (k_0 : KeyD) (y : (List KeyD)) (hM : group_Among open_1 k_0 = some y) : Rets Tryd.prog No 27 [.agg #[.int .i64 k_0.Kind, .string k_0.Text], .func (.func open_1g) #[] open_1k.toArray] W0 (fun v w' => ∃ (v1 : Value) (cl2 : List Value), v = v1 ∧ OwnR R_KeyD T W0 w' [.own v1 32 R_KeyD.size cl2] 32 v1 cl2 y) := by
  refine enter (c := _) Tryd.func27 rfl T 124 Tryd.ntmps27 hT rfl fun a hS => ?_
  replace hS := hS.fact open_1P (Fact.dn _ hPopen_1)
  replace hS := hS.fact LvF (LvP.dn hLv)
  unfold group_Among at hM
  refine wp_seq_k fun K376 hK376 => ?_
  refine r_list ?_
  refine wl rfl (k_box hS rfl (cs := [.int .i64 k_0.Kind, .string k_0.Text]) rfl rfl fun b6369 hnb6371 a w hk hS => ?_)
  refine wl rfl (ky (v := .slice none 0 0) hS (y_assign hS rfl) rfl rfl fun a hS => ?_)
  refine wpList_nil ?_
  try simp only [Exit.then, Exit.inBlock, ↓reduceIte, Nat.reduceEqDiff]
  refine hK376 _ _ ?_
  refine wp_seq_k fun K377 hK377 => ?_
  refine wp_seq_k fun K378 hK378 => ?_
  refine r_list ?_
  refine wl rfl (ky (v := .func (.func open_1g) #[] open_1k.toArray) hS (y_move hS rfl) rfl rfl fun a hS => ?_)
  refine wl rfl (ky (v := .agg #[.int .i64 k_0.Kind, .string k_0.Text]) hS (y_load hS rfl ty32 0 rfl id (us := [.int .i64 k_0.Kind, .string k_0.Text]) rfl rfl (fun h => by cases h)) rfl rfl fun a hS => ?_)
  obtain ⟨u6372, hu6372, hM⟩ := bd hM
  refine wl rfl (k_callv (cap := open_1k) hS rfl hcopen_1 rfl rfl (hopen_1 _ _ hS.dlt (hS.get 0 rfl) (hS.get 1 rfl) k_0 _ hu6372) fun _ w hR a hk hA => ?_)
  obtain ⟨vz6373_1, he, hRvz6373_1⟩ := hR
  replace he := he.symm
  subst he
  have hS := hA [] (fun r hr => by cases hr) List.Pairwise.nil
  replace hS := hS.fact (SlF R_KeyD vz6373_1 u6372.1) (hRvz6373_1.sub (dT_dT _))
  refine wl rfl (ky (v := .tuple #[vz6373_1, .bool u6372.2]) hS (y_move hS rfl) rfl rfl fun a hS => ?_)
  refine wl rfl (ky (v := vz6373_1) hS (y_ex hS rfl rfl) rfl rfl fun a hS => ?_)
  refine wl rfl (ky (v := .bool u6372.2) hS (y_ex hS rfl rfl) rfl rfl fun a hS => ?_)
  refine wl rfl (ky (v := vz6373_1) hS (y_assign hS rfl) rfl rfl fun a hS => ?_)
  refine wl rfl (ky (v := .bool u6372.2) hS (y_assign hS rfl) rfl rfl fun a hS => ?_)
  refine wpList_nil ?_
  try simp only [Exit.then, Exit.inBlock, ↓reduceIte, Nat.reduceEqDiff]
  refine hK378 _ _ ?_
  refine wp_seq_k fun K379 hK379 => ?_
  refine r_list ?_
  refine wl rfl (ky (v := .bool u6372.2) hS (y_move hS rfl) rfl rfl fun a hS => ?_)
  refine wl rfl (ky (v := .bool (!(u6372.2))) hS (y_not hS rfl) rfl rfl fun a hS => ?_)
  refine wpList_nil ?_
  try simp only [Exit.then, Exit.inBlock, ↓reduceIte, Nat.reduceEqDiff]
  refine hK379 _ _ ?_
  rcases bool2 (!(u6372.2)) with hb6374 | hb6374
  · replace hM := ct hb6374 hM
    refine c_t hS rfl hb6374 ?_
    refine wp_seq_k fun K380 hK380 => ?_
    refine r_list ?_
    refine wl rfl (ky (v := .agg #[.int .i64 k_0.Kind, .string k_0.Text]) hS (y_load hS rfl ty32 0 rfl id (us := [.int .i64 k_0.Kind, .string k_0.Text]) rfl rfl (fun h => by cases h)) rfl rfl fun a hS => ?_)
    refine wl rfl (k_bslice (ps := [(0, .tmp 30)]) hS el23 ze32 (zl := [.int .i64 0, .string (ByteArray.mk #[])]) (by kernel_rfl) rfl (us := [[.int .i64 k_0.Kind, .string k_0.Text]]) ⟨rfl, trivial⟩ (ws := [.int .i64 k_0.Kind, .string k_0.Text]) rfl rfl rfl rfl fun b6375 a w hk hS => ?_)
    refine wl rfl (ky (v := .slice (some ⟨b6375, 0, none⟩) 1 1) hS (y_assign hS rfl) rfl rfl fun a hS => ?_)
    refine wpList_nil ?_
    try simp only [Exit.then, Exit.inBlock, ↓reduceIte, Nat.reduceEqDiff]
    refine hK380 _ _ ?_
    refine wp_ret ?_
    replace hS := hS.lit (R := R_KeyD) (us := [.int .i64 k_0.Kind, .string k_0.Text]) (xs := [k_0]) 0 rfl (by decide) (RowsOk.one_ (R := R_KeyD) (x := k_0) rfl) rfl rfl
    injection hM with hM
    subst hM
    try simp only [Exit.then, Exit.inBlock, ↓reduceIte, Nat.reduceEqDiff]
    refine ret_ok hS Tryd.results27 (res_tmp hS rfl res_nil) ?_
    exact ⟨(.slice (some ⟨b6375, 0, none⟩) 1 1), [.int .i64 k_0.Kind, .string k_0.Text], rfl, hS.retOwn ⟨.inr (List.mem_of_getElem? (i := 0) rfl), trivial⟩ 0 rfl 0 rfl⟩
  · replace hM := cf hb6374 hM
    refine c_f hS rfl hb6374 ?_
    refine wp_skip ?_
    try simp only [Exit.then, Exit.inBlock, ↓reduceIte, Nat.reduceEqDiff]
    refine hK377 _ _ ?_
    refine wp_seq_k fun K381 hK381 => ?_
    refine r_list ?_
    refine wl rfl (k_mkmapg R_KeyD true R_KeyD 32 hS rfl fun b6377 hnb6378 a w hk hS => ?_)
    refine wl rfl (ky (v := .map (some b6377)) hS (y_assign hS rfl) rfl rfl fun a hS => ?_)
    refine wpList_nil ?_
    try simp only [Exit.then, Exit.inBlock, ↓reduceIte, Nat.reduceEqDiff]
    refine hK381 _ _ ?_
    refine wp_seq_k fun K382 hK382 => ?_
    refine r_list ?_
    refine wl rfl (k_mkmap R_KeyD true Rep.bool false hS rfl fun b6381 hnb6382 a w hk hS => ?_)
    refine wl rfl (ky (v := .agg #[.int .i64 k_0.Kind, .string k_0.Text]) hS (y_load hS rfl ty32 3 rfl id (us := [.int .i64 k_0.Kind, .string k_0.Text]) rfl rfl (fun h => by cases h)) rfl rfl fun a hS => ?_)
    refine wl rfl (k_minsert hS mp65 kt_KeyD 0 rfl 0 rfl (c := [.int .i64 k_0.Kind, .string k_0.Text]) (cv := [.bool true]) (key := k_0) (val := true) rfl rfl rfl rfl rfl fun es6384 ck6385 w hk hS => ?_)
    refine wl rfl (ky (v := .map (some b6381)) hS (y_move hS rfl) rfl rfl fun a hS => ?_)
    refine wl rfl (ky (v := .map (some b6381)) hS (y_assign hS rfl) rfl rfl fun a hS => ?_)
    refine wpList_nil ?_
    try simp only [Exit.then, Exit.inBlock, ↓reduceIte, Nat.reduceEqDiff]
    refine hK382 _ _ ?_
    refine wp_seq_k fun K383 hK383 => ?_
    refine r_list ?_
    refine wl rfl (ky (v := .agg #[.int .i64 k_0.Kind, .string k_0.Text]) hS (y_load hS rfl ty32 3 rfl id (us := [.int .i64 k_0.Kind, .string k_0.Text]) rfl rfl (fun h => by cases h)) rfl rfl fun a hS => ?_)
    refine wl rfl (k_bslice (ps := [(0, .tmp 36)]) hS el23 ze32 (zl := [.int .i64 0, .string (ByteArray.mk #[])]) (by kernel_rfl) rfl (us := [[.int .i64 k_0.Kind, .string k_0.Text]]) ⟨rfl, trivial⟩ (ws := [.int .i64 k_0.Kind, .string k_0.Text]) rfl rfl rfl rfl fun b6386 a w hk hS => ?_)
    refine wl rfl (ky (v := .slice (some ⟨b6386, 0, none⟩) 1 1) hS (y_assign hS rfl) rfl rfl fun a hS => ?_)
    refine wpList_nil ?_
    try simp only [Exit.then, Exit.inBlock, ↓reduceIte, Nat.reduceEqDiff]
    refine hK383 _ _ ?_
    refine seq_j (J := fun a w => ∃ (back8796 : (List (KeyD × (List KeyD)))) (es8797 : (Array MapEntry)) (ck8798 : Nat) (in8799 : (List OwnT)), St W0 No T 124 [(2, .pointer (some ⟨b6369, 0, none⟩)), (7, .map (some b6377))] [.obj b6377 (.map es8797 ck8798), .grp in8799, .box b6369 [.int .i64 k_0.Kind, .string k_0.Text] 32] [MgF R_KeyD true R_KeyD 32 es8797 ck8798 in8799 back8796, LvF, open_1P] a w ∧ group_Among_j6 k_0 back8796 = some y) ?_ ?_
    · skip
      refine wp_seq_k fun K660 hK660 => ?_
      refine r_list ?_
      refine wl rfl (ky (v := .int .i64 0) hS (y_assign hS rfl) rfl rfl fun a hS => ?_)
      refine wpList_nil ?_
      try simp only [Exit.then, Exit.inBlock, ↓reduceIte, Nat.reduceEqDiff]
      refine hK660 _ _ ?_
      refine wp_block ?_
      replace hS := hS.lit (R := R_KeyD) (us := [.int .i64 k_0.Kind, .string k_0.Text]) (xs := [k_0]) 0 rfl (by decide) (RowsOk.one_ (R := R_KeyD) (x := k_0) rfl) rfl rfl
      obtain ⟨r1, hl1, hMo1⟩ := bd hM
      refine wp_lp (fun s : (List (KeyD × (List KeyD))) × (List (KeyD × Bool)) × (List KeyD) × Int => group_Among_l10 open_1 s.1 s.2.1 s.2.2.1 s.2.2.2) (fun s a w => ∃ (back11926 : (List (KeyD × (List KeyD)))) (seen11930 : (List (KeyD × Bool))) (l11933 : (List KeyD)) (i11937 : Int) (es11927 : (Array MapEntry)) (ck11928 : Nat) (in11929 : (List OwnT)) (es11931 : (Array MapEntry)) (ck11932 : Nat) (v11934 : Value) (cl11935 : (List Value)), (back11926, seen11930, l11933, i11937) = s ∧ St W0 No T 124 [(1, .func (.func open_1g) #[] open_1k.toArray), (2, .pointer (some ⟨b6369, 0, none⟩)), (7, .map (some b6377)), (8, .map (some b6381)), (9, v11934), (10, .int .i64 i11937)] [.obj b6377 (.map es11927 ck11928), .grp in11929, .obj b6381 (.map es11931 ck11932), .own v11934 32 R_KeyD.size cl11935, .box b6369 [.int .i64 k_0.Kind, .string k_0.Text] 32] [MgF R_KeyD true R_KeyD 32 es11927 ck11928 in11929 back11926, MapF R_KeyD true Rep.bool false es11931 seen11930, RowsF R_KeyD cl11935 l11933, LvF, open_1P] a w) hl1 ⟨([] : (List (KeyD × (List KeyD)))), (mput keq_KeyD k_0 true ([] : (List (KeyD × Bool)))), ([k_0]), 0, (#[]), 0, ([]), es6384, ck6385, (.slice (some ⟨b6386, 0, none⟩) 1 1), ([.int .i64 k_0.Kind, .string k_0.Text]), rfl, (hS.meet [2, 3, 1, 0, 4] (by decide) ⟨rfl, rfl, rfl, rfl, rfl, rfl, trivial⟩ ⟨rfl, rfl, rfl, rfl, rfl, trivial⟩ ⟨⟨3, rfl⟩, ⟨1, rfl⟩, ⟨0, rfl⟩, ⟨5, rfl⟩, ⟨6, rfl⟩, trivial⟩)⟩ ?_
      rintro s a w f1 ⟨back11926, seen11930, l11933, i11937, es11927, ck11928, in11929, es11931, ck11932, v11934, cl11935, rfl, hS⟩ hM hf1
      have hM : group_Among_l10 open_1 back11926 seen11930 l11933 i11937 = some f1 := hM
      unfold group_Among_l10 at hM
      refine wp_seq_k fun K785 hK785 => ?_
      refine wp_seq_k fun K786 hK786 => ?_
      refine r_list ?_
      refine wl rfl (ky (v := .int .i64 i11937) hS (y_move hS rfl) rfl rfl fun a hS => ?_)
      refine wl rfl (ky (v := v11934) hS (y_move hS rfl) rfl rfl fun a hS => ?_)
      refine wl rfl (ky (v := .int .i64 (l11933.length : Int)) hS (y_leno (R := R_KeyD) (xs := l11933) hS sl23 rfl 3 rfl 2 rfl) rfl rfl fun a hS => ?_)
      refine wl rfl (ky (v := .bool (decide ((i11937 : Int) < (l11933.length : Int)))) hS (y_int hS rfl rfl rfl) rfl rfl fun a hS => ?_)
      refine wpList_nil ?_
      try simp only [Exit.then, Exit.inBlock, ↓reduceIte, Nat.reduceEqDiff]
      refine hK786 _ _ ?_
      rcases bool2 (decide ((i11937 : Int) < (l11933.length : Int))) with hb13134 | hb13134
      · replace hM := ct hb13134 hM
        refine c_t hS rfl hb13134 ?_
        refine wp_skip ?_
        try simp only [Exit.then, Exit.inBlock, ↓reduceIte, Nat.reduceEqDiff]
        refine hK785 _ _ ?_
        refine seq_j (J := fun a w => ∃ (back13721 : (List (KeyD × (List KeyD)))) (seen13725 : (List (KeyD × Bool))) (l13728 : (List KeyD)) (es13722 : (Array MapEntry)) (ck13723 : Nat) (in13724 : (List OwnT)) (es13726 : (Array MapEntry)) (ck13727 : Nat) (v13729 : Value) (cl13730 : (List Value)), St W0 No T 124 [(1, .func (.func open_1g) #[] open_1k.toArray), (2, .pointer (some ⟨b6369, 0, none⟩)), (7, .map (some b6377)), (8, .map (some b6381)), (9, v13729), (10, .int .i64 i11937)] [.obj b6377 (.map es13722 ck13723), .grp in13724, .obj b6381 (.map es13726 ck13727), .own v13729 32 R_KeyD.size cl13730, .box b6369 [.int .i64 k_0.Kind, .string k_0.Text] 32] [MgF R_KeyD true R_KeyD 32 es13722 ck13723 in13724 back13721, MapF R_KeyD true Rep.bool false es13726 seen13725, RowsF R_KeyD cl13730 l13728, LvF, open_1P] a w ∧ group_Among_j7 i11937 back13721 seen13725 l13728 = some f1) ?_ ?_
        · skip
          refine wp_block ?_
          refine wp_seq_k fun K817 hK817 => ?_
          refine r_list ?_
          refine wl rfl (ky (v := .func (.func open_1g) #[] open_1k.toArray) hS (y_move hS rfl) rfl rfl fun a hS => ?_)
          refine wl rfl (ky (v := v11934) hS (y_move hS rfl) rfl rfl fun a hS => ?_)
          refine wl rfl (ky (v := .int .i64 i11937) hS (y_move hS rfl) rfl rfl fun a hS => ?_)
          obtain ⟨e13732, he13732, hM⟩ := bd hM
          refine wl rfl (k_indexo (R := R_KeyD) hS sl23 ty32 rfl rfl 3 rfl 2 rfl he13732 rfl fun b13733 o13734 p13739 cs13736 hr13735 hO13737 hC13738 a hS => ?_)
          obtain rfl := hr13735
          refine wl rfl (ky (v := .agg #[.int .i64 e13732.Kind, .string e13732.Text]) hS (y_loado (k := 0) hS ty32 3 rfl hO13737 hC13738 rfl id (us := [.int .i64 e13732.Kind, .string e13732.Text]) rfl rfl (fun h => by cases h)) rfl rfl fun a hS => ?_)
          obtain ⟨u13740, hu13740, hM⟩ := bd hM
          refine wl rfl (k_callv (cap := open_1k) hS rfl hcopen_1 rfl rfl (hopen_1 _ _ hS.dlt (hS.get 3 rfl) (hS.get 4 rfl) e13732 _ hu13740) fun _ w hR a hk hA => ?_)
          obtain ⟨vz13741_1, he, hRvz13741_1⟩ := hR
          replace he := he.symm
          subst he
          have hS := hA [] (fun r hr => by cases hr) List.Pairwise.nil
          replace hS := hS.fact (SlF R_KeyD vz13741_1 u13740.1) (hRvz13741_1.sub (dT_dT _))
          refine wl rfl (ky (v := .tuple #[vz13741_1, .bool u13740.2]) hS (y_move hS rfl) rfl rfl fun a hS => ?_)
          refine wl rfl (ky (v := vz13741_1) hS (y_ex hS rfl rfl) rfl rfl fun a hS => ?_)
          refine wl rfl (ky (v := .bool u13740.2) hS (y_ex hS rfl rfl) rfl rfl fun a hS => ?_)
          refine wl rfl (ky (v := vz13741_1) hS (y_assign hS rfl) rfl rfl fun a hS => ?_)
          refine wl rfl (ky (v := .bool u13740.2) hS (y_assign hS rfl) rfl rfl fun a hS => ?_)
          refine wpList_nil ?_
          try simp only [Exit.then, Exit.inBlock, ↓reduceIte, Nat.reduceEqDiff]
          refine hK817 _ _ ?_
          refine wp_seq_k fun K818 hK818 => ?_
          refine r_list ?_
          refine wl rfl (ky (v := vz13741_1) hS (y_move hS rfl) rfl rfl fun a hS => ?_)
          refine wl rfl (ky (v := .int .i64 (u13740.1.length : Int)) hS (y_len (R := R_KeyD) (xs := u13740.1) hS sl23 rfl 0 rfl) rfl rfl fun a hS => ?_)
          refine wl rfl (ky (v := .int .i64 0) hS (y_move hS rfl) rfl rfl fun a hS => ?_)
          refine wpList_nil ?_
          try simp only [Exit.then, Exit.inBlock, ↓reduceIte, Nat.reduceEqDiff]
          refine hK818 _ _ ?_
          refine wp_block ?_
          obtain ⟨r2, hl2, hMo2⟩ := bd hM
          refine wp_lp (fun s : (List (KeyD × (List KeyD))) × (List (KeyD × Bool)) × (List KeyD) × Int => group_Among_l9 open_1 i11937 u13740 s.1 s.2.1 s.2.2.1 s.2.2.2) (fun s a w => ∃ (back14024 : (List (KeyD × (List KeyD)))) (seen14028 : (List (KeyD × Bool))) (l14031 : (List KeyD)) (g14035 : Int) (es14025 : (Array MapEntry)) (ck14026 : Nat) (in14027 : (List OwnT)) (es14029 : (Array MapEntry)) (ck14030 : Nat) (v14032 : Value) (cl14033 : (List Value)), (back14024, seen14028, l14031, g14035) = s ∧ St W0 No T 124 [(1, .func (.func open_1g) #[] open_1k.toArray), (2, .pointer (some ⟨b6369, 0, none⟩)), (7, .map (some b6377)), (8, .map (some b6381)), (9, v14032), (10, .int .i64 i11937), (53, vz13741_1), (54, .int .i64 (u13740.1.length : Int)), (55, .int .i64 g14035)] [.obj b6377 (.map es14025 ck14026), .grp in14027, .obj b6381 (.map es14029 ck14030), .own v14032 32 R_KeyD.size cl14033, .box b6369 [.int .i64 k_0.Kind, .string k_0.Text] 32] [MgF R_KeyD true R_KeyD 32 es14025 ck14026 in14027 back14024, MapF R_KeyD true Rep.bool false es14029 seen14028, RowsF R_KeyD cl14033 l14031, SlF R_KeyD vz13741_1 u13740.1, LvF, open_1P] a w) hl2 ⟨back11926, seen11930, l11933, 0, es11927, ck11928, in11929, es11931, ck11932, v11934, cl11935, rfl, (hS.meet [0, 1, 2, 3, 4] (by decide) ⟨rfl, rfl, rfl, rfl, rfl, rfl, rfl, rfl, rfl, trivial⟩ ⟨rfl, rfl, rfl, rfl, rfl, trivial⟩ ⟨⟨1, rfl⟩, ⟨2, rfl⟩, ⟨3, rfl⟩, ⟨0, rfl⟩, ⟨4, rfl⟩, ⟨5, rfl⟩, trivial⟩)⟩ ?_
          rintro s a w f2 ⟨back14024, seen14028, l14031, g14035, es14025, ck14026, in14027, es14029, ck14030, v14032, cl14033, rfl, hS⟩ hM hf2
          have hM : group_Among_l9 open_1 i11937 u13740 back14024 seen14028 l14031 g14035 = some f2 := hM
          unfold group_Among_l9 at hM
          refine wp_seq_k fun K847 hK847 => ?_
          refine r_list ?_
          refine wl rfl (ky (v := .bool (decide ((g14035 : Int) < (u13740.1.length : Int)))) hS (y_int hS rfl rfl rfl) rfl rfl fun a hS => ?_)
          refine wpList_nil ?_
          try simp only [Exit.then, Exit.inBlock, ↓reduceIte, Nat.reduceEqDiff]
          refine hK847 _ _ ?_
          refine wp_seq_k fun K848 hK848 => ?_
          rcases bool2 (decide ((g14035 : Int) < (u13740.1.length : Int))) with hb14318 | hb14318
          · replace hM := ct hb14318 hM
            refine c_t hS rfl hb14318 ?_
            refine wp_skip ?_
            try simp only [Exit.then, Exit.inBlock, ↓reduceIte, Nat.reduceEqDiff]
            refine hK848 _ _ ?_
            refine seq_j (J := fun a w => ∃ (back14448 : (List (KeyD × (List KeyD)))) (seen14452 : (List (KeyD × Bool))) (l14455 : (List KeyD)) (es14449 : (Array MapEntry)) (ck14450 : Nat) (in14451 : (List OwnT)) (es14453 : (Array MapEntry)) (ck14454 : Nat) (v14456 : Value) (cl14457 : (List Value)), St W0 No T 124 [(1, .func (.func open_1g) #[] open_1k.toArray), (2, .pointer (some ⟨b6369, 0, none⟩)), (7, .map (some b6377)), (8, .map (some b6381)), (9, v14456), (10, .int .i64 i11937), (53, vz13741_1), (54, .int .i64 (u13740.1.length : Int)), (55, .int .i64 g14035)] [.obj b6377 (.map es14449 ck14450), .grp in14451, .obj b6381 (.map es14453 ck14454), .own v14456 32 R_KeyD.size cl14457, .box b6369 [.int .i64 k_0.Kind, .string k_0.Text] 32] [MgF R_KeyD true R_KeyD 32 es14449 ck14450 in14451 back14448, MapF R_KeyD true Rep.bool false es14453 seen14452, RowsF R_KeyD cl14457 l14455, SlF R_KeyD vz13741_1 u13740.1, LvF, open_1P] a w ∧ group_Among_j8 g14035 back14448 seen14452 l14455 = some f2) ?_ ?_
            · skip
              refine wp_block ?_
              refine wp_seq_k fun K855 hK855 => ?_
              refine r_list ?_
              obtain ⟨e14459, he14459, hM⟩ := bd hM
              refine wl rfl (k_index (R := R_KeyD) hS sl23 ty32 rfl rfl 3 rfl he14459 rfl fun b14460 o14461 cs14463 hr14462 a hS => ?_)
              obtain rfl := hr14462
              refine wl rfl (ky (v := .agg #[.int .i64 e14459.Kind, .string e14459.Text]) hS (y_loadc (k := 0) hS ty32 0 rfl rfl (fun _ h => h.elim) (us := [.int .i64 e14459.Kind, .string e14459.Text]) rfl rfl (fun h => by cases h)) rfl rfl fun a hS => ?_)
              refine wl rfl (k_alloc hS ze32 rfl fun b14465 hnb14467 a w hk hS => ?_)
              refine wl rfl (k_store hS rfl rfl (us := [.int .i64 e14459.Kind, .string e14459.Text]) rfl ty32 0 rfl rfl rfl (oc rfl (oc rfl on)) fun w hk hS => ?_)
              refine wpList_nil ?_
              try simp only [Exit.then, Exit.inBlock, ↓reduceIte, Nat.reduceEqDiff]
              refine hK855 _ _ ?_
              refine wp_seq_k fun K856 hK856 => ?_
              refine wp_seq_k fun K857 hK857 => ?_
              refine r_list ?_
              refine wl rfl (ky (v := .func (.func open_1g) #[] open_1k.toArray) hS (y_move hS rfl) rfl rfl fun a hS => ?_)
              refine wl rfl (ky (v := .agg #[.int .i64 e14459.Kind, .string e14459.Text]) hS (y_load hS rfl ty32 0 rfl id (us := [.int .i64 e14459.Kind, .string e14459.Text]) rfl rfl (fun h => by cases h)) rfl rfl fun a hS => ?_)
              obtain ⟨u14468, hu14468, hM⟩ := bd hM
              refine wl rfl (k_callv (cap := open_1k) hS rfl hcopen_1 rfl rfl (hopen_1 _ _ hS.dlt (hS.get 5 rfl) (hS.get 6 rfl) e14459 _ hu14468) fun _ w hR a hk hA => ?_)
              obtain ⟨vz14469_1, he, hRvz14469_1⟩ := hR
              replace he := he.symm
              subst he
              have hS := hA [] (fun r hr => by cases hr) List.Pairwise.nil
              replace hS := hS.fact (SlF R_KeyD vz14469_1 u14468.1) (hRvz14469_1.sub (dT_dT _))
              refine wl rfl (ky (v := .tuple #[vz14469_1, .bool u14468.2]) hS (y_move hS rfl) rfl rfl fun a hS => ?_)
              refine wl rfl (ky (v := vz14469_1) hS (y_ex hS rfl rfl) rfl rfl fun a hS => ?_)
              refine wl rfl (ky (v := .bool u14468.2) hS (y_ex hS rfl rfl) rfl rfl fun a hS => ?_)
              refine wl rfl (ky (v := vz14469_1) hS (y_assign hS rfl) rfl rfl fun a hS => ?_)
              refine wl rfl (ky (v := .bool u14468.2) hS (y_assign hS rfl) rfl rfl fun a hS => ?_)
              refine wpList_nil ?_
              try simp only [Exit.then, Exit.inBlock, ↓reduceIte, Nat.reduceEqDiff]
              refine hK857 _ _ ?_
              refine wp_seq_k fun K858 hK858 => ?_
              refine r_list ?_
              refine wl rfl (ky (v := .bool u14468.2) hS (y_move hS rfl) rfl rfl fun a hS => ?_)
              refine wl rfl (ky (v := .bool (!(u14468.2))) hS (y_not hS rfl) rfl rfl fun a hS => ?_)
              refine wpList_nil ?_
              try simp only [Exit.then, Exit.inBlock, ↓reduceIte, Nat.reduceEqDiff]
              refine hK858 _ _ ?_
              rcases bool2 (!(u14468.2)) with hb14470 | hb14470
              · replace hM := ct hb14470 hM
                refine c_t hS rfl hb14470 ?_
                refine wp_exit ?_
                try simp only [Exit.then, Exit.inBlock, ↓reduceIte, Nat.reduceEqDiff]
                exact ⟨back14024, seen14028, l14031, es14025, ck14026, in14027, es14029, ck14030, v14032, cl14033, (hS.meet [1, 2, 3, 4, 5] (by decide) ⟨rfl, rfl, rfl, rfl, rfl, rfl, rfl, rfl, rfl, trivial⟩ ⟨rfl, rfl, rfl, rfl, rfl, trivial⟩ ⟨⟨2, rfl⟩, ⟨3, rfl⟩, ⟨4, rfl⟩, ⟨5, rfl⟩, ⟨6, rfl⟩, ⟨7, rfl⟩, trivial⟩), hM⟩
              · replace hM := cf hb14470 hM
                refine c_f hS rfl hb14470 ?_
                refine wp_skip ?_
                try simp only [Exit.then, Exit.inBlock, ↓reduceIte, Nat.reduceEqDiff]
                refine hK856 _ _ ?_
                refine wp_seq_k fun K859 hK859 => ?_
                refine draws [(7, .blk (some b6377)), (9, .any), (11, .blk (some b6377))] hS mixed rfl (fun c a d v w h => by cases d <;> exact h) fun w hQ hS => ?_
                refine dy 0 (v := .map (some b6377)) rfl (by kernel_rfl) (by kernel_rfl) (by kernel_rfl) rfl hQ hS (y_move hS rfl) rfl rfl rfl fun a hS => ?_
                refine dy (l := []) 1 (v := .agg #[.int .i64 e14459.Kind, .string e14459.Text]) rfl (by kernel_rfl) (by kernel_rfl) (by kernel_rfl) (by kernel_rfl) hQ hS (y_load hS rfl ty32 0 rfl eo_nil (us := [.int .i64 e14459.Kind, .string e14459.Text]) rfl rfl (fun h => by cases h)) rfl rfl rfl fun a hS => ?_
                refine dy 2 (v := v14032) rfl (by kernel_rfl) (by kernel_rfl) (by kernel_rfl) rfl hQ hS (y_move hS rfl) rfl rfl rfl fun a hS => ?_
                refine dy 3 (v := .int .i64 i11937) rfl (by kernel_rfl) (by kernel_rfl) (by kernel_rfl) rfl hQ hS (y_move hS rfl) rfl rfl rfl fun a hS => ?_
                obtain ⟨e14543, he14543, hM⟩ := bd hM
                obtain ⟨b14544, o14545, p14550, cs14547, hr14546, hO14548, hC14549, hy14551⟩ := d_indexo (R := R_KeyD) hS sl23 ty32 4 rfl 4 rfl he14543
                obtain rfl := hr14546
                refine dy 4 (v := .pointer (some ⟨b14544, o14545, none⟩)) rfl (by kernel_rfl) (by kernel_rfl) (by kernel_rfl) rfl hQ hS (hy14551 rfl rfl) rfl rfl rfl fun a hS => ?_
                refine dy (l := []) 5 (v := .agg #[.int .i64 e14543.Kind, .string e14543.Text]) rfl (by kernel_rfl) (by kernel_rfl) (by kernel_rfl) (by kernel_rfl) hQ hS (y_loado (k := 0) hS ty32 4 rfl hO14548 hC14549 rfl eo_nil (us := [.int .i64 e14543.Kind, .string e14543.Text]) rfl rfl (fun h => by cases h)) rfl rfl rfl fun a hS => ?_
                refine wpE_one (i := 6) rfl (by kernel_rfl) rfl (k_bslice (ps := [(0, .tmp 73)]) hS el23 ze32 (zl := [.int .i64 0, .string (ByteArray.mk #[])]) (by kernel_rfl) rfl (us := [[.int .i64 e14543.Kind, .string e14543.Text]]) ⟨rfl, trivial⟩ (ws := [.int .i64 e14543.Kind, .string e14543.Text]) rfl rfl rfl rfl fun b14552 a w hk hS => ⟨stN (hk), ?_⟩)
                refine wpE_one (i := 7) rfl (by kernel_rfl) rfl (k_mentry hS rfl mp56 kt_KeyD zv23 (by decide) 2 rfl 3 rfl rfl 2 rfl (c := [.int .i64 e14459.Kind, .string e14459.Text]) (key := e14459) rfl rfl rfl fun v14554 cl14555 es14556 ck14557 in14558 sp14559 a w hk hS => ⟨stM rfl hk etBox, ?_⟩)
                refine dy 8 (v := v14554) rfl (by kernel_rfl) (by kernel_rfl) (by kernel_rfl) rfl hQ hS (y_ex hS rfl rfl) rfl rfl rfl fun a hS => ?_
                refine dy 10 (v := .int .i64 sp14559) rfl (by kernel_rfl) (by kernel_rfl) (by kernel_rfl) rfl hQ hS (y_ex hS rfl rfl) rfl rfl rfl fun a hS => ?_
                replace hS := hS.lit (R := R_KeyD) (us := [.int .i64 e14543.Kind, .string e14543.Text]) (xs := [e14543]) 1 rfl (by decide) (RowsOk.one_ (R := R_KeyD) (x := e14543) rfl) rfl rfl
                replace hS := hS.freeze (R := R_KeyD) 1 rfl 0 rfl
                obtain ⟨hg14561, hM⟩ := gd_some hM
                refine wpE_one (i := 9) rfl (by kernel_rfl) rfl (k_apps (R := R_KeyD) (xs := ((mget keq_KeyD e14459 back14024).getD [])) (ys := [e14543]) hS el23 (by decide) (by decide) rfl rfl 0 rfl 2 rfl 0 rfl hg14561 rfl fun v14562 cl14563 a w hk hS => ⟨stM rfl hk etAny, ?_⟩)
                refine wpE_one (i := 11) rfl (by kernel_rfl) rfl (k_mstore hS (by decide) 2 rfl 3 rfl 0 rfl rfl 4 rfl 0 rfl rfl rfl rfl fun es14565 in14566 a w hk hS => ⟨stM rfl hk etBox, ?_⟩)
                refine wpE_done (by kernel_rfl) ?_ _
                try simp only [Exit.then, Exit.inBlock, ↓reduceIte, Nat.reduceEqDiff]
                refine hK859 _ _ ?_
                refine wp_seq_k fun K860 hK860 => ?_
                refine r_list ?_
                refine wl rfl (ky (v := .map (some b6381)) hS (y_move hS rfl) rfl rfl fun a hS => ?_)
                refine wl rfl (ky (v := .agg #[.int .i64 e14459.Kind, .string e14459.Text]) hS (y_load hS rfl ty32 0 rfl id (us := [.int .i64 e14459.Kind, .string e14459.Text]) rfl rfl (fun h => by cases h)) rfl rfl fun a hS => ?_)
                obtain ⟨u14567, hu14567, hM⟩ := bd hM
                obtain ⟨cv14568, hr14569, hy14570⟩ := d_looku hS mp65 kt_KeyD 3 rfl 9 rfl (c := [.int .i64 e14459.Kind, .string e14459.Text]) (key := e14459) rfl zv4 (zc := [.bool false]) rfl rfl hu14567
                obtain rfl := hr14569
                refine wl rfl (ky (v := .bool u14567) hS (hy14570 rfl rfl id) rfl rfl fun a hS => ?_)
                refine wl rfl (ky (v := .bool (!(u14567))) hS (y_not hS rfl) rfl rfl fun a hS => ?_)
                refine wpList_nil ?_
                try simp only [Exit.then, Exit.inBlock, ↓reduceIte, Nat.reduceEqDiff]
                refine hK860 _ _ ?_
                rcases bool2 (!(u14567)) with hb14571 | hb14571
                · replace hM := ct hb14571 hM
                  refine c_t hS rfl hb14571 ?_
                  refine draws [(5, .blk (Value.ownBlock v14032)), (6, .blk (some b6381))] hS mixed rfl (fun c a d v w h => by cases d <;> exact h) fun w hQ hS => ?_
                  refine dy 0 (v := .map (some b6381)) rfl (by kernel_rfl) (by kernel_rfl) (by kernel_rfl) rfl hQ hS (y_move hS rfl) rfl rfl rfl fun a hS => ?_
                  refine dy (l := [.blk (Value.ownBlock v14032)]) 1 (v := .agg #[.int .i64 e14459.Kind, .string e14459.Text]) rfl (by kernel_rfl) (by kernel_rfl) (by kernel_rfl) (by kernel_rfl) hQ hS (y_load hS rfl ty32 0 rfl (eo_ne hS 0 rfl rfl 4 rfl rfl (by decide) eo_nil) (us := [.int .i64 e14459.Kind, .string e14459.Text]) rfl rfl (fun h => by cases h)) rfl rfl rfl fun a hS => ?_
                  refine dy 2 (v := v14032) rfl (by kernel_rfl) (by kernel_rfl) (by kernel_rfl) rfl hQ hS (y_move hS rfl) rfl rfl rfl fun a hS => ?_
                  refine dy (l := []) 3 (v := .agg #[.int .i64 e14459.Kind, .string e14459.Text]) rfl (by kernel_rfl) (by kernel_rfl) (by kernel_rfl) (by kernel_rfl) hQ hS (y_load hS rfl ty32 0 rfl eo_nil (us := [.int .i64 e14459.Kind, .string e14459.Text]) rfl rfl (fun h => by cases h)) rfl rfl rfl fun a hS => ?_
                  refine wpE_one (i := 4) rfl (by kernel_rfl) rfl (k_bslice (ps := [(0, .tmp 85)]) hS el23 ze32 (zl := [.int .i64 0, .string (ByteArray.mk #[])]) (by kernel_rfl) rfl (us := [[.int .i64 e14459.Kind, .string e14459.Text]]) ⟨rfl, trivial⟩ (ws := [.int .i64 e14459.Kind, .string e14459.Text]) rfl rfl rfl rfl fun b14580 a w hk hS => ⟨stN (hk), ?_⟩)
                  replace hS := hS.lit (R := R_KeyD) (us := [.int .i64 e14459.Kind, .string e14459.Text]) (xs := [e14459]) 0 rfl (by decide) (RowsOk.one_ (R := R_KeyD) (x := e14459) rfl) rfl rfl
                  replace hS := hS.freeze (R := R_KeyD) 0 rfl 0 rfl
                  obtain ⟨hg14582, hM⟩ := gd_some hM
                  refine wpE_one (i := 5) rfl (by kernel_rfl) rfl (k_apps (R := R_KeyD) (xs := l14031) (ys := [e14459]) hS el23 (by decide) (by decide) rfl rfl 4 rfl 12 rfl 0 rfl hg14582 rfl fun v14583 cl14584 a w hk hS => ⟨stM rfl hk etOwn, ?_⟩)
                  refine wpE_one (i := 6) rfl (by kernel_rfl) rfl (k_mput hS mp65 kt_KeyD 3 rfl 12 rfl (c := [.int .i64 e14459.Kind, .string e14459.Text]) (cv := [.bool true]) (key := e14459) (val := true) rfl rfl rfl rfl rfl fun es14586 ck14587 w hk hS => ⟨stM rfl hk etBox, ?_⟩)
                  refine dy 7 (v := v14583) rfl (by kernel_rfl) (by kernel_rfl) (by kernel_rfl) rfl hQ hS (y_assign hS rfl) rfl rfl rfl fun a hS => ?_
                  refine wpE_done (by kernel_rfl) ?_ _
                  try simp only [Exit.then, Exit.inBlock, ↓reduceIte, Nat.reduceEqDiff]
                  exact ⟨(mput keq_KeyD e14459 (((mget keq_KeyD e14459 back14024).getD []) ++ ([e14543])) back14024), (mput keq_KeyD e14459 true seen14028), (l14031 ++ ([e14459])), es14565, ck14557, in14566, es14586, ck14587, v14583, cl14584, (hS.meet [1, 2, 3, 4, 5] (by decide) ⟨rfl, rfl, rfl, rfl, rfl, rfl, rfl, rfl, rfl, trivial⟩ ⟨rfl, rfl, rfl, rfl, rfl, trivial⟩ ⟨⟨4, rfl⟩, ⟨0, rfl⟩, ⟨1, rfl⟩, ⟨15, rfl⟩, ⟨16, rfl⟩, ⟨17, rfl⟩, trivial⟩), hM⟩
                · replace hM := cf hb14571 hM
                  refine c_f hS rfl hb14571 ?_
                  refine wp_skip ?_
                  try simp only [Exit.then, Exit.inBlock, ↓reduceIte, Nat.reduceEqDiff]
                  exact ⟨(mput keq_KeyD e14459 (((mget keq_KeyD e14459 back14024).getD []) ++ ([e14543])) back14024), seen14028, l14031, es14565, ck14557, in14566, es14029, ck14030, v14032, cl14033, (hS.meet [1, 2, 3, 4, 5] (by decide) ⟨rfl, rfl, rfl, rfl, rfl, rfl, rfl, rfl, rfl, trivial⟩ ⟨rfl, rfl, rfl, rfl, rfl, trivial⟩ ⟨⟨0, rfl⟩, ⟨9, rfl⟩, ⟨10, rfl⟩, ⟨11, rfl⟩, ⟨12, rfl⟩, ⟨13, rfl⟩, trivial⟩), hM⟩
            · rintro a w ⟨back14448, seen14452, l14455, es14449, ck14450, in14451, es14453, ck14454, v14456, cl14457, hS, hM⟩
              unfold group_Among_j8 at hM
              refine r_list ?_
              refine wl rfl (ky (v := .int .i64 (IntKind.i64.wrap (g14035 + 1))) hS (y_int hS rfl rfl rfl) rfl rfl fun a hS => ?_)
              refine wl rfl (ky (v := .int .i64 (IntKind.i64.wrap (g14035 + 1))) hS (y_move hS rfl) rfl rfl fun a hS => ?_)
              refine wpList_nil ?_
              try simp only [Exit.then, Exit.inBlock, ↓reduceIte, Nat.reduceEqDiff]
              exact ⟨(back14448, seen14452, l14455, IntKind.i64.wrap (g14035 + 1)), (Option.some.inj hM).symm, back14448, seen14452, l14455, (IntKind.i64.wrap (g14035 + 1)), es14449, ck14450, in14451, es14453, ck14454, v14456, cl14457, rfl, (hS.meet [0, 1, 2, 3, 4] (by decide) ⟨rfl, rfl, rfl, rfl, rfl, rfl, rfl, rfl, rfl, trivial⟩ ⟨rfl, rfl, rfl, rfl, rfl, trivial⟩ ⟨⟨0, rfl⟩, ⟨1, rfl⟩, ⟨2, rfl⟩, ⟨3, rfl⟩, ⟨4, rfl⟩, ⟨5, rfl⟩, trivial⟩)⟩
          · replace hM := cf hb14318 hM
            refine c_f hS rfl hb14318 ?_
            refine wp_exit ?_
            try simp only [Exit.then, Exit.inBlock, ↓reduceIte, Nat.reduceEqDiff]
            injection hM with hM
            subst hM
            have hr := hf2 _ rfl
            subst hr
            have hM : group_Among_j7 i11937 back14024 seen14028 l14031 = some f1 := hMo2
            exact ⟨back14024, seen14028, l14031, es14025, ck14026, in14027, es14029, ck14030, v14032, cl14033, (hS.meet [0, 1, 2, 3, 4] (by decide) ⟨rfl, rfl, rfl, rfl, rfl, rfl, trivial⟩ ⟨rfl, rfl, rfl, rfl, rfl, trivial⟩ ⟨⟨0, rfl⟩, ⟨1, rfl⟩, ⟨2, rfl⟩, ⟨4, rfl⟩, ⟨5, rfl⟩, trivial⟩), hM⟩
        · rintro a w ⟨back13721, seen13725, l13728, es13722, ck13723, in13724, es13726, ck13727, v13729, cl13730, hS, hM⟩
          unfold group_Among_j7 at hM
          refine r_list ?_
          refine wl rfl (ky (v := .int .i64 i11937) hS (y_move hS rfl) rfl rfl fun a hS => ?_)
          refine wl rfl (ky (v := .int .i64 (IntKind.i64.wrap (i11937 + 1))) hS (y_int hS rfl rfl rfl) rfl rfl fun a hS => ?_)
          refine wl rfl (ky (v := .int .i64 (IntKind.i64.wrap (i11937 + 1))) hS (y_assign hS rfl) rfl rfl fun a hS => ?_)
          refine wpList_nil ?_
          try simp only [Exit.then, Exit.inBlock, ↓reduceIte, Nat.reduceEqDiff]
          exact ⟨(back13721, seen13725, l13728, IntKind.i64.wrap (i11937 + 1)), (Option.some.inj hM).symm, back13721, seen13725, l13728, (IntKind.i64.wrap (i11937 + 1)), es13722, ck13723, in13724, es13726, ck13727, v13729, cl13730, rfl, (hS.meet [0, 1, 2, 3, 4] (by decide) ⟨rfl, rfl, rfl, rfl, rfl, rfl, trivial⟩ ⟨rfl, rfl, rfl, rfl, rfl, trivial⟩ ⟨⟨0, rfl⟩, ⟨1, rfl⟩, ⟨2, rfl⟩, ⟨3, rfl⟩, ⟨4, rfl⟩, trivial⟩)⟩
      · replace hM := cf hb13134 hM
        refine c_f hS rfl hb13134 ?_
        refine wp_exit ?_
        try simp only [Exit.then, Exit.inBlock, ↓reduceIte, Nat.reduceEqDiff]
        injection hM with hM
        subst hM
        have hr := hf1 _ rfl
        subst hr
        have hM : group_Among_j6 k_0 back11926 = some y := hMo1
        exact ⟨back11926, es11927, ck11928, in11929, (hS.meet [0, 1, 4] (by decide) ⟨rfl, rfl, trivial⟩ ⟨rfl, rfl, rfl, trivial⟩ ⟨⟨0, rfl⟩, ⟨3, rfl⟩, ⟨4, rfl⟩, trivial⟩), hM⟩
    · rintro a w ⟨back8796, es8797, ck8798, in8799, hS, hM⟩
      unfold group_Among_j6 at hM
      refine wp_seq_k fun K509 hK509 => ?_
      refine r_list ?_
      refine wl rfl (k_mkmap R_KeyD true Rep.bool false hS rfl fun b8800 hnb8801 a w hk hS => ?_)
      refine wl rfl (ky (v := .agg #[.int .i64 k_0.Kind, .string k_0.Text]) hS (y_load hS rfl ty32 3 rfl id (us := [.int .i64 k_0.Kind, .string k_0.Text]) rfl rfl (fun h => by cases h)) rfl rfl fun a hS => ?_)
      refine wl rfl (k_minsert hS mp65 kt_KeyD 0 rfl 0 rfl (c := [.int .i64 k_0.Kind, .string k_0.Text]) (cv := [.bool true]) (key := k_0) (val := true) rfl rfl rfl rfl rfl fun es8803 ck8804 w hk hS => ?_)
      refine wl rfl (ky (v := .map (some b8800)) hS (y_move hS rfl) rfl rfl fun a hS => ?_)
      refine wl rfl (ky (v := .map (some b8800)) hS (y_assign hS rfl) rfl rfl fun a hS => ?_)
      refine wpList_nil ?_
      try simp only [Exit.then, Exit.inBlock, ↓reduceIte, Nat.reduceEqDiff]
      refine hK509 _ _ ?_
      refine wp_seq_k fun K510 hK510 => ?_
      refine r_list ?_
      refine wl rfl (ky (v := .agg #[.int .i64 k_0.Kind, .string k_0.Text]) hS (y_load hS rfl ty32 3 rfl id (us := [.int .i64 k_0.Kind, .string k_0.Text]) rfl rfl (fun h => by cases h)) rfl rfl fun a hS => ?_)
      refine wl rfl (k_bslice (ps := [(0, .tmp 92)]) hS el23 ze32 (zl := [.int .i64 0, .string (ByteArray.mk #[])]) (by kernel_rfl) rfl (us := [[.int .i64 k_0.Kind, .string k_0.Text]]) ⟨rfl, trivial⟩ (ws := [.int .i64 k_0.Kind, .string k_0.Text]) rfl rfl rfl rfl fun b8805 a w hk hS => ?_)
      refine wl rfl (ky (v := .slice (some ⟨b8805, 0, none⟩) 1 1) hS (y_assign hS rfl) rfl rfl fun a hS => ?_)
      refine wpList_nil ?_
      try simp only [Exit.then, Exit.inBlock, ↓reduceIte, Nat.reduceEqDiff]
      refine hK510 _ _ ?_
      refine seq_j (J := fun a w => ∃ (out9552 : (List KeyD)) (v9553 : Value) (cl9554 : (List Value)), St W0 No T 124 [(18, v9553)] [.own v9553 32 R_KeyD.size cl9554] [RowsF R_KeyD cl9554 out9552, LvF, open_1P] a w ∧ group_Among_j1 out9552 = some y) ?_ ?_
      · skip
        refine wp_seq_k fun K569 hK569 => ?_
        refine r_list ?_
        refine wl rfl (ky (v := .int .i64 0) hS (y_assign hS rfl) rfl rfl fun a hS => ?_)
        refine wpList_nil ?_
        try simp only [Exit.then, Exit.inBlock, ↓reduceIte, Nat.reduceEqDiff]
        refine hK569 _ _ ?_
        refine wp_block ?_
        replace hS := hS.mgfreeze (by decide) 3 rfl 2 rfl
        replace hS := hS.lit (R := R_KeyD) (us := [.int .i64 k_0.Kind, .string k_0.Text]) (xs := [k_0]) 0 rfl (by decide) (RowsOk.one_ (R := R_KeyD) (x := k_0) rfl) rfl rfl
        obtain ⟨r1, hl1, hMo1⟩ := bd hM
        refine wp_lp (fun s : (List (KeyD × (List KeyD))) × (List (KeyD × Bool)) × (List KeyD) × Int => group_Among_l5 s.1 s.2.1 s.2.2.1 s.2.2.2) (fun s a w => ∃ (back9928 : (List (KeyD × (List KeyD)))) (in9931 : (List (KeyD × Bool))) (out9934 : (List KeyD)) (i9938 : Int) (es9929 : (Array MapEntry)) (ck9930 : Nat) (es9932 : (Array MapEntry)) (ck9933 : Nat) (v9935 : Value) (cl9936 : (List Value)), (back9928, in9931, out9934, i9938) = s ∧ St W0 No T 124 [(7, .map (some b6377)), (17, .map (some b8800)), (18, v9935), (19, .int .i64 i9938)] [.obj b6377 (.map es9929 ck9930), .obj b8800 (.map es9932 ck9933), .own v9935 32 R_KeyD.size cl9936] [MapF R_KeyD true (Rep.slice R_KeyD) false es9929 back9928, MapF R_KeyD true Rep.bool false es9932 in9931, RowsF R_KeyD cl9936 out9934, LvF, open_1P] a w) hl1 ⟨back8796, (mput keq_KeyD k_0 true ([] : (List (KeyD × Bool)))), ([k_0]), 0, es8797, ck8798, es8803, ck8804, (.slice (some ⟨b8805, 0, none⟩) 1 1), ([.int .i64 k_0.Kind, .string k_0.Text]), rfl, (hS.meet [2, 1, 0] (by decide) ⟨rfl, rfl, rfl, rfl, trivial⟩ ⟨rfl, rfl, rfl, trivial⟩ ⟨⟨1, rfl⟩, ⟨2, rfl⟩, ⟨0, rfl⟩, ⟨5, rfl⟩, ⟨6, rfl⟩, trivial⟩)⟩ ?_
        rintro s a w f1 ⟨back9928, in9931, out9934, i9938, es9929, ck9930, es9932, ck9933, v9935, cl9936, rfl, hS⟩ hM hf1
        have hM : group_Among_l5 back9928 in9931 out9934 i9938 = some f1 := hM
        unfold group_Among_l5 at hM
        refine wp_seq_k fun K626 hK626 => ?_
        refine wp_seq_k fun K627 hK627 => ?_
        refine r_list ?_
        refine wl rfl (ky (v := .int .i64 i9938) hS (y_move hS rfl) rfl rfl fun a hS => ?_)
        refine wl rfl (ky (v := v9935) hS (y_move hS rfl) rfl rfl fun a hS => ?_)
        refine wl rfl (ky (v := .int .i64 (out9934.length : Int)) hS (y_leno (R := R_KeyD) (xs := out9934) hS sl23 rfl 2 rfl 2 rfl) rfl rfl fun a hS => ?_)
        refine wl rfl (ky (v := .bool (decide ((i9938 : Int) < (out9934.length : Int)))) hS (y_int hS rfl rfl rfl) rfl rfl fun a hS => ?_)
        refine wpList_nil ?_
        try simp only [Exit.then, Exit.inBlock, ↓reduceIte, Nat.reduceEqDiff]
        refine hK627 _ _ ?_
        rcases bool2 (decide ((i9938 : Int) < (out9934.length : Int))) with hb10304 | hb10304
        · replace hM := ct hb10304 hM
          refine c_t hS rfl hb10304 ?_
          refine wp_skip ?_
          try simp only [Exit.then, Exit.inBlock, ↓reduceIte, Nat.reduceEqDiff]
          refine hK626 _ _ ?_
          refine seq_j (J := fun a w => ∃ (in10478 : (List (KeyD × Bool))) (out10481 : (List KeyD)) (es10479 : (Array MapEntry)) (ck10480 : Nat) (v10482 : Value) (cl10483 : (List Value)), St W0 No T 124 [(7, .map (some b6377)), (17, .map (some b8800)), (18, v10482), (19, .int .i64 i9938)] [.obj b6377 (.map es9929 ck9930), .obj b8800 (.map es10479 ck10480), .own v10482 32 R_KeyD.size cl10483] [MapF R_KeyD true (Rep.slice R_KeyD) false es9929 back9928, MapF R_KeyD true Rep.bool false es10479 in10478, RowsF R_KeyD cl10483 out10481, LvF, open_1P] a w ∧ group_Among_j2 back9928 i9938 in10478 out10481 = some f1) ?_ ?_
          · skip
            refine wp_block ?_
            refine wp_seq_k fun K641 hK641 => ?_
            refine r_list ?_
            refine wl rfl (ky (v := .map (some b6377)) hS (y_move hS rfl) rfl rfl fun a hS => ?_)
            refine wl rfl (ky (v := v9935) hS (y_move hS rfl) rfl rfl fun a hS => ?_)
            refine wl rfl (ky (v := .int .i64 i9938) hS (y_move hS rfl) rfl rfl fun a hS => ?_)
            obtain ⟨e10485, he10485, hM⟩ := bd hM
            refine wl rfl (k_indexo (R := R_KeyD) hS sl23 ty32 rfl rfl 2 rfl 2 rfl he10485 rfl fun b10486 o10487 p10492 cs10489 hr10488 hO10490 hC10491 a hS => ?_)
            obtain rfl := hr10488
            refine wl rfl (ky (v := .agg #[.int .i64 e10485.Kind, .string e10485.Text]) hS (y_loado (k := 0) hS ty32 2 rfl hO10490 hC10491 rfl id (us := [.int .i64 e10485.Kind, .string e10485.Text]) rfl rfl (fun h => by cases h)) rfl rfl fun a hS => ?_)
            obtain ⟨u10493, hu10493, hM⟩ := bd hM
            obtain ⟨cv10495, hr10496, hy10497⟩ := d_looku hS mp56 kt_KeyD 0 rfl 0 rfl (c := [.int .i64 e10485.Kind, .string e10485.Text]) (key := e10485) rfl zv23 (zc := [.slice none 0 0]) rfl (⟨_, rfl, SlR.nil_ _ _ _⟩) hu10493
            obtain ⟨v10494, rfl, hv10494⟩ := hr10496
            replace hS := hS.fact (SlF R_KeyD v10494 u10493) hv10494
            refine wl rfl (ky (v := v10494) hS (hy10497 rfl rfl id) rfl rfl fun a hS => ?_)
            refine wl rfl (ky (v := .int .i64 (u10493.length : Int)) hS (y_len (R := R_KeyD) (xs := u10493) hS sl23 rfl 0 rfl) rfl rfl fun a hS => ?_)
            refine wl rfl (ky (v := .int .i64 0) hS (y_move hS rfl) rfl rfl fun a hS => ?_)
            refine wpList_nil ?_
            try simp only [Exit.then, Exit.inBlock, ↓reduceIte, Nat.reduceEqDiff]
            refine hK641 _ _ ?_
            refine wp_block ?_
            obtain ⟨r2, hl2, hMo2⟩ := bd hM
            refine wp_lp (fun s : (List (KeyD × Bool)) × (List KeyD) × Int => group_Among_l4 u10493 s.1 s.2.1 s.2.2) (fun s a w => ∃ (in10574 : (List (KeyD × Bool))) (out10577 : (List KeyD)) (g10581 : Int) (es10575 : (Array MapEntry)) (ck10576 : Nat) (v10578 : Value) (cl10579 : (List Value)), (in10574, out10577, g10581) = s ∧ St W0 No T 124 [(7, .map (some b6377)), (17, .map (some b8800)), (18, v10578), (19, .int .i64 i9938), (105, v10494), (106, .int .i64 (u10493.length : Int)), (107, .int .i64 g10581)] [.obj b6377 (.map es9929 ck9930), .obj b8800 (.map es10575 ck10576), .own v10578 32 R_KeyD.size cl10579] [MapF R_KeyD true (Rep.slice R_KeyD) false es9929 back9928, MapF R_KeyD true Rep.bool false es10575 in10574, RowsF R_KeyD cl10579 out10577, SlF R_KeyD v10494 u10493, LvF, open_1P] a w) hl2 ⟨in9931, out9934, 0, es9932, ck9933, v9935, cl9936, rfl, (hS.meet [0, 1, 2] (by decide) ⟨rfl, rfl, rfl, rfl, rfl, rfl, rfl, trivial⟩ ⟨rfl, rfl, rfl, trivial⟩ ⟨⟨1, rfl⟩, ⟨2, rfl⟩, ⟨3, rfl⟩, ⟨0, rfl⟩, ⟨4, rfl⟩, ⟨5, rfl⟩, trivial⟩)⟩ ?_
            rintro s a w f2 ⟨in10574, out10577, g10581, es10575, ck10576, v10578, cl10579, rfl, hS⟩ hM hf2
            have hM : group_Among_l4 u10493 in10574 out10577 g10581 = some f2 := hM
            unfold group_Among_l4 at hM
            refine wp_seq_k fun K654 hK654 => ?_
            refine r_list ?_
            refine wl rfl (ky (v := .bool (decide ((g10581 : Int) < (u10493.length : Int)))) hS (y_int hS rfl rfl rfl) rfl rfl fun a hS => ?_)
            refine wpList_nil ?_
            try simp only [Exit.then, Exit.inBlock, ↓reduceIte, Nat.reduceEqDiff]
            refine hK654 _ _ ?_
            refine wp_seq_k fun K655 hK655 => ?_
            rcases bool2 (decide ((g10581 : Int) < (u10493.length : Int))) with hb10658 | hb10658
            · replace hM := ct hb10658 hM
              refine c_t hS rfl hb10658 ?_
              refine wp_skip ?_
              try simp only [Exit.then, Exit.inBlock, ↓reduceIte, Nat.reduceEqDiff]
              refine hK655 _ _ ?_
              refine seq_j (J := fun a w => ∃ (in10689 : (List (KeyD × Bool))) (out10692 : (List KeyD)) (es10690 : (Array MapEntry)) (ck10691 : Nat) (v10693 : Value) (cl10694 : (List Value)), St W0 No T 124 [(7, .map (some b6377)), (17, .map (some b8800)), (18, v10693), (19, .int .i64 i9938), (105, v10494), (106, .int .i64 (u10493.length : Int)), (107, .int .i64 g10581)] [.obj b6377 (.map es9929 ck9930), .obj b8800 (.map es10690 ck10691), .own v10693 32 R_KeyD.size cl10694] [MapF R_KeyD true (Rep.slice R_KeyD) false es9929 back9928, MapF R_KeyD true Rep.bool false es10690 in10689, RowsF R_KeyD cl10694 out10692, SlF R_KeyD v10494 u10493, LvF, open_1P] a w ∧ group_Among_j3 g10581 in10689 out10692 = some f2) ?_ ?_
              · skip
                refine wp_block ?_
                refine wp_seq_k fun K658 hK658 => ?_
                refine r_list ?_
                obtain ⟨e10696, he10696, hM⟩ := bd hM
                refine wl rfl (k_index (R := R_KeyD) hS sl23 ty32 rfl rfl 3 rfl he10696 rfl fun b10697 o10698 cs10700 hr10699 a hS => ?_)
                obtain rfl := hr10699
                refine wl rfl (ky (v := .agg #[.int .i64 e10696.Kind, .string e10696.Text]) hS (y_loadc (k := 0) hS ty32 0 rfl rfl (fun _ h => h.elim) (us := [.int .i64 e10696.Kind, .string e10696.Text]) rfl rfl (fun h => by cases h)) rfl rfl fun a hS => ?_)
                refine wl rfl (k_alloc hS ze32 rfl fun b10702 hnb10704 a w hk hS => ?_)
                refine wl rfl (k_store hS rfl rfl (us := [.int .i64 e10696.Kind, .string e10696.Text]) rfl ty32 0 rfl rfl rfl (oc rfl (oc rfl on)) fun w hk hS => ?_)
                refine wpList_nil ?_
                try simp only [Exit.then, Exit.inBlock, ↓reduceIte, Nat.reduceEqDiff]
                refine hK658 _ _ ?_
                refine wp_seq_k fun K659 hK659 => ?_
                refine r_list ?_
                refine wl rfl (ky (v := .map (some b8800)) hS (y_move hS rfl) rfl rfl fun a hS => ?_)
                refine wl rfl (ky (v := .agg #[.int .i64 e10696.Kind, .string e10696.Text]) hS (y_load hS rfl ty32 0 rfl id (us := [.int .i64 e10696.Kind, .string e10696.Text]) rfl rfl (fun h => by cases h)) rfl rfl fun a hS => ?_)
                obtain ⟨u10705, hu10705, hM⟩ := bd hM
                obtain ⟨cv10706, hr10707, hy10708⟩ := d_looku hS mp65 kt_KeyD 2 rfl 2 rfl (c := [.int .i64 e10696.Kind, .string e10696.Text]) (key := e10696) rfl zv4 (zc := [.bool false]) rfl rfl hu10705
                obtain rfl := hr10707
                refine wl rfl (ky (v := .bool u10705) hS (hy10708 rfl rfl id) rfl rfl fun a hS => ?_)
                refine wl rfl (ky (v := .bool (!(u10705))) hS (y_not hS rfl) rfl rfl fun a hS => ?_)
                refine wpList_nil ?_
                try simp only [Exit.then, Exit.inBlock, ↓reduceIte, Nat.reduceEqDiff]
                refine hK659 _ _ ?_
                rcases bool2 (!(u10705)) with hb10709 | hb10709
                · replace hM := ct hb10709 hM
                  refine c_t hS rfl hb10709 ?_
                  refine draws [(5, .blk (Value.ownBlock v10578)), (6, .blk (some b8800))] hS mixed rfl (fun c a d v w h => by cases d <;> exact h) fun w hQ hS => ?_
                  refine dy 0 (v := .map (some b8800)) rfl (by kernel_rfl) (by kernel_rfl) (by kernel_rfl) rfl hQ hS (y_move hS rfl) rfl rfl rfl fun a hS => ?_
                  refine dy (l := [.blk (Value.ownBlock v10578)]) 1 (v := .agg #[.int .i64 e10696.Kind, .string e10696.Text]) rfl (by kernel_rfl) (by kernel_rfl) (by kernel_rfl) (by kernel_rfl) hQ hS (y_load hS rfl ty32 0 rfl (eo_ne hS 0 rfl rfl 3 rfl rfl (by decide) eo_nil) (us := [.int .i64 e10696.Kind, .string e10696.Text]) rfl rfl (fun h => by cases h)) rfl rfl rfl fun a hS => ?_
                  refine dy 2 (v := v10578) rfl (by kernel_rfl) (by kernel_rfl) (by kernel_rfl) rfl hQ hS (y_move hS rfl) rfl rfl rfl fun a hS => ?_
                  refine dy (l := []) 3 (v := .agg #[.int .i64 e10696.Kind, .string e10696.Text]) rfl (by kernel_rfl) (by kernel_rfl) (by kernel_rfl) (by kernel_rfl) hQ hS (y_load hS rfl ty32 0 rfl eo_nil (us := [.int .i64 e10696.Kind, .string e10696.Text]) rfl rfl (fun h => by cases h)) rfl rfl rfl fun a hS => ?_
                  refine wpE_one (i := 4) rfl (by kernel_rfl) rfl (k_bslice (ps := [(0, .tmp 118)]) hS el23 ze32 (zl := [.int .i64 0, .string (ByteArray.mk #[])]) (by kernel_rfl) rfl (us := [[.int .i64 e10696.Kind, .string e10696.Text]]) ⟨rfl, trivial⟩ (ws := [.int .i64 e10696.Kind, .string e10696.Text]) rfl rfl rfl rfl fun b10718 a w hk hS => ⟨stN (hk), ?_⟩)
                  replace hS := hS.lit (R := R_KeyD) (us := [.int .i64 e10696.Kind, .string e10696.Text]) (xs := [e10696]) 0 rfl (by decide) (RowsOk.one_ (R := R_KeyD) (x := e10696) rfl) rfl rfl
                  replace hS := hS.freeze (R := R_KeyD) 0 rfl 0 rfl
                  obtain ⟨hg10720, hM⟩ := gd_some hM
                  refine wpE_one (i := 5) rfl (by kernel_rfl) rfl (k_apps (R := R_KeyD) (xs := out10577) (ys := [e10696]) hS el23 (by decide) (by decide) rfl rfl 3 rfl 5 rfl 0 rfl hg10720 rfl fun v10721 cl10722 a w hk hS => ⟨stM rfl hk etOwn, ?_⟩)
                  refine wpE_one (i := 6) rfl (by kernel_rfl) rfl (k_mput hS mp65 kt_KeyD 2 rfl 5 rfl (c := [.int .i64 e10696.Kind, .string e10696.Text]) (cv := [.bool true]) (key := e10696) (val := true) rfl rfl rfl rfl rfl fun es10724 ck10725 w hk hS => ⟨stM rfl hk etBox, ?_⟩)
                  refine dy 7 (v := v10721) rfl (by kernel_rfl) (by kernel_rfl) (by kernel_rfl) rfl hQ hS (y_assign hS rfl) rfl rfl rfl fun a hS => ?_
                  refine wpE_done (by kernel_rfl) ?_ _
                  try simp only [Exit.then, Exit.inBlock, ↓reduceIte, Nat.reduceEqDiff]
                  exact ⟨(mput keq_KeyD e10696 true in10574), (out10577 ++ ([e10696])), es10724, ck10725, v10721, cl10722, (hS.meet [1, 2, 3] (by decide) ⟨rfl, rfl, rfl, rfl, rfl, rfl, rfl, trivial⟩ ⟨rfl, rfl, rfl, trivial⟩ ⟨⟨5, rfl⟩, ⟨0, rfl⟩, ⟨1, rfl⟩, ⟨8, rfl⟩, ⟨9, rfl⟩, ⟨10, rfl⟩, trivial⟩), hM⟩
                · replace hM := cf hb10709 hM
                  refine c_f hS rfl hb10709 ?_
                  refine wp_skip ?_
                  try simp only [Exit.then, Exit.inBlock, ↓reduceIte, Nat.reduceEqDiff]
                  exact ⟨in10574, out10577, es10575, ck10576, v10578, cl10579, (hS.meet [1, 2, 3] (by decide) ⟨rfl, rfl, rfl, rfl, rfl, rfl, rfl, trivial⟩ ⟨rfl, rfl, rfl, trivial⟩ ⟨⟨1, rfl⟩, ⟨2, rfl⟩, ⟨3, rfl⟩, ⟨4, rfl⟩, ⟨5, rfl⟩, ⟨6, rfl⟩, trivial⟩), hM⟩
              · rintro a w ⟨in10689, out10692, es10690, ck10691, v10693, cl10694, hS, hM⟩
                unfold group_Among_j3 at hM
                refine r_list ?_
                refine wl rfl (ky (v := .int .i64 (IntKind.i64.wrap (g10581 + 1))) hS (y_int hS rfl rfl rfl) rfl rfl fun a hS => ?_)
                refine wl rfl (ky (v := .int .i64 (IntKind.i64.wrap (g10581 + 1))) hS (y_move hS rfl) rfl rfl fun a hS => ?_)
                refine wpList_nil ?_
                try simp only [Exit.then, Exit.inBlock, ↓reduceIte, Nat.reduceEqDiff]
                exact ⟨(in10689, out10692, IntKind.i64.wrap (g10581 + 1)), (Option.some.inj hM).symm, in10689, out10692, (IntKind.i64.wrap (g10581 + 1)), es10690, ck10691, v10693, cl10694, rfl, (hS.meet [0, 1, 2] (by decide) ⟨rfl, rfl, rfl, rfl, rfl, rfl, rfl, trivial⟩ ⟨rfl, rfl, rfl, trivial⟩ ⟨⟨0, rfl⟩, ⟨1, rfl⟩, ⟨2, rfl⟩, ⟨3, rfl⟩, ⟨4, rfl⟩, ⟨5, rfl⟩, trivial⟩)⟩
            · replace hM := cf hb10658 hM
              refine c_f hS rfl hb10658 ?_
              refine wp_exit ?_
              try simp only [Exit.then, Exit.inBlock, ↓reduceIte, Nat.reduceEqDiff]
              injection hM with hM
              subst hM
              have hr := hf2 _ rfl
              subst hr
              have hM : group_Among_j2 back9928 i9938 in10574 out10577 = some f1 := hMo2
              exact ⟨in10574, out10577, es10575, ck10576, v10578, cl10579, (hS.meet [0, 1, 2] (by decide) ⟨rfl, rfl, rfl, rfl, trivial⟩ ⟨rfl, rfl, rfl, trivial⟩ ⟨⟨0, rfl⟩, ⟨1, rfl⟩, ⟨2, rfl⟩, ⟨4, rfl⟩, ⟨5, rfl⟩, trivial⟩), hM⟩
          · rintro a w ⟨in10478, out10481, es10479, ck10480, v10482, cl10483, hS, hM⟩
            unfold group_Among_j2 at hM
            refine r_list ?_
            refine wl rfl (ky (v := .int .i64 i9938) hS (y_move hS rfl) rfl rfl fun a hS => ?_)
            refine wl rfl (ky (v := .int .i64 (IntKind.i64.wrap (i9938 + 1))) hS (y_int hS rfl rfl rfl) rfl rfl fun a hS => ?_)
            refine wl rfl (ky (v := .int .i64 (IntKind.i64.wrap (i9938 + 1))) hS (y_assign hS rfl) rfl rfl fun a hS => ?_)
            refine wpList_nil ?_
            try simp only [Exit.then, Exit.inBlock, ↓reduceIte, Nat.reduceEqDiff]
            exact ⟨(back9928, in10478, out10481, IntKind.i64.wrap (i9938 + 1)), (Option.some.inj hM).symm, back9928, in10478, out10481, (IntKind.i64.wrap (i9938 + 1)), es9929, ck9930, es10479, ck10480, v10482, cl10483, rfl, (hS.meet [0, 1, 2] (by decide) ⟨rfl, rfl, rfl, rfl, trivial⟩ ⟨rfl, rfl, rfl, trivial⟩ ⟨⟨0, rfl⟩, ⟨1, rfl⟩, ⟨2, rfl⟩, ⟨3, rfl⟩, ⟨4, rfl⟩, trivial⟩)⟩
        · replace hM := cf hb10304 hM
          refine c_f hS rfl hb10304 ?_
          refine wp_exit ?_
          try simp only [Exit.then, Exit.inBlock, ↓reduceIte, Nat.reduceEqDiff]
          injection hM with hM
          subst hM
          have hr := hf1 _ rfl
          subst hr
          have hM : group_Among_j1 out9934 = some y := hMo1
          exact ⟨out9934, v9935, cl9936, (hS.meet [2] (by decide) ⟨rfl, trivial⟩ ⟨rfl, trivial⟩ ⟨⟨2, rfl⟩, ⟨3, rfl⟩, ⟨4, rfl⟩, trivial⟩), hM⟩
      · rintro a w ⟨out9552, v9553, cl9554, hS, hM⟩
        unfold group_Among_j1 at hM
        refine wp_seq_k fun K568 hK568 => ?_
        refine r_list ?_
        refine wl rfl (ky (v := v9553) hS (y_move hS rfl) rfl rfl fun a hS => ?_)
        have hL := hS
        replace hL := hL.freeze (R := R_KeyD) 0 rfl 0 rfl
        obtain ⟨u9556, hu9556, hM⟩ := bd hM
        refine wl rfl (k_call hS ci39 rfl rfl (key_Sorted_c _ _ hL.dlt (hL.get 2 rfl) out9552 _ (hL.get 0 rfl) _ hu9556) fun _ w hR a hk hA => ?_)
        obtain ⟨vz9557_2, clz9557_3, he, ⟨hOvz9557_2, hFvz9557_2, hRvz9557_2⟩⟩ := hR
        replace he := he.symm
        subst he
        have hS := hA [.own vz9557_2 32 R_KeyD.size clz9557_3] (adds1 ⟨hOvz9557_2, by decide⟩ hFvz9557_2) (pw1 _)
        replace hS := hS.fact (RowsF R_KeyD clz9557_3 u9556) hRvz9557_2
        refine wl rfl (ky (v := vz9557_2) hS (y_assign hS rfl) rfl rfl fun a hS => ?_)
        refine wpList_nil ?_
        try simp only [Exit.then, Exit.inBlock, ↓reduceIte, Nat.reduceEqDiff]
        refine hK568 _ _ ?_
        refine wp_ret ?_
        injection hM with hM
        subst hM
        try simp only [Exit.then, Exit.inBlock, ↓reduceIte, Nat.reduceEqDiff]
        refine ret_ok hS Tryd.results27 (res_tmp hS rfl res_nil) ?_
        exact ⟨vz9557_2, clz9557_3, rfl, hS.retOwn ⟨.inr (List.mem_of_getElem? (i := 0) rfl), trivial⟩ 0 rfl 0 rfl⟩
end Go.Proofs.YtdappapdddnciaaDoor
