/- What functions of the program compute; that they do. -/
import Derived.Test.YtjoilbmkcknnfaaDoorMT
import Derived.Test.YtjoilbmkcknnfaaDoorD1
set_option linter.unusedVariables false
set_option linter.unusedSimpArgs false
namespace Go.Proofs.YtjoilbmkcknnfaaDoor
open Go.RowKit
noncomputable def bld_WriteString (b_0 : BuilderD) (s_1 : ByteArray) : Option (Int × Bool × BuilderD) := gd (roomB (b_0.Buf.length + s_1.size)) <| some (((s_1.size : Int), false, (BuilderD.mk (b_0.Buf ++ bytesI s_1))))
set_option maxRecDepth 100000 in
set_option maxHeartbeats 4000000 in
theorem bld_WriteString_c (T : Nat → Prop) (W0 : World) (hT : ∀ k, T k → k < W0.heap.size) (b_0 : BuilderD) (s_1 : ByteArray) (b1 : Nat) (v2 : Value) (cl3 : List Value) (p4 : Value) (hD : DOk T W0 [.box b1 [p4, v2] 81, .own v2 5 (Rep.int .u8).size cl3]) (hv2 : RowsOk (Rep.int .u8) (dT T [.box b1 [p4, v2] 81, .own v2 5 (Rep.int .u8).size cl3]) W0 cl3 b_0.Buf) (hp4 : p4 = .pointer none ∨ p4 = .pointer (some ⟨b1, 0, none⟩)) (y : Int × Bool × BuilderD) (hM : bld_WriteString b_0 s_1 = some y) : Rets Tryd.prog (MD [.box b1 [p4, v2] 81, .own v2 5 (Rep.int .u8).size cl3]) 61 [.pointer (some ⟨b1, 0, none⟩), .string s_1] W0 (fun v w' => ∃ (v5 : Value) (v6 : Value) (cl7 : List Value), v = .tuple #[.int .i64 y.1, v5] ∧ ErrIs v5 y.2.1 ∧ DNew W0 w' [.box b1 [p4, v2] 81, .own v2 5 (Rep.int .u8).size cl3] [.box b1 [(.pointer (some ⟨b1, 0, none⟩)), v6] 81, .own v6 5 (Rep.int .u8).size cl7] ∧ RowsOk (Rep.int .u8) (dT T [.box b1 [(.pointer (some ⟨b1, 0, none⟩)), v6] 81, .own v6 5 (Rep.int .u8).size cl7]) w' cl7 y.2.2.Buf) := by
  refine enterD (c := _) Tryd.func61 rfl T 19 Tryd.ntmps61 hT rfl hD fun a hS => ?_
  replace hS := hS.fact (RowsF (Rep.int .u8) cl3 b_0.Buf) hv2
  unfold bld_WriteString at hM
  refine wp_seq_k fun K5 hK5 => ?_
  refine r_list ?_
  refine wl rfl (ky (v := .int .i64 0) hS (y_assign hS rfl) rfl rfl fun a hS => ?_)
  refine wl rfl (ky (v := .nilIface) hS (y_assign hS rfl) rfl rfl fun a hS => ?_)
  refine wpList_nil ?_
  try simp only [Exit.then, Exit.inBlock, ↓reduceIte, Nat.reduceEqDiff]
  refine hK5 _ _ ?_
  refine wp_seq_k fun K6 hK6 => ?_
  refine r_list ?_
  refine wl rfl (ky (v := .pointer (some ⟨b1, 0, none⟩)) hS (y_move hS rfl) rfl rfl fun a hS => ?_)
  refine wl rfl (k_callm hS ci94 rfl rfl 0 rfl (cc_c _ b1 _ _ (hS.boxRow 0 rfl) hp4) fun _ w hR hk => ?_)
  obtain ⟨he, hrow⟩ := hR
  replace he := he.symm
  subst he
  refine ⟨[(.pointer (some ⟨b1, 0, none⟩)), v2], hrow, fun a hS => ?_⟩
  refine wpList_nil ?_
  try simp only [Exit.then, Exit.inBlock, ↓reduceIte, Nat.reduceEqDiff]
  refine hK6 _ _ ?_
  refine wp_seq_k fun K7 hK7 => ?_
  refine r_list ?_
  refine wl rfl (ky (v := .pointer (some ⟨b1, 0, none⟩)) hS (y_move hS rfl) rfl rfl fun a hS => ?_)
  refine wl rfl (ky (v := .pointer (some ⟨b1, 0, none⟩)) hS (y_move hS rfl) rfl rfl fun a hS => ?_)
  refine wl rfl (ky (v := .pointer (some ⟨b1, 0, none⟩)) hS (y_nil hS rfl) rfl rfl fun a hS => ?_)
  refine wl rfl (ky (v := .pointer (some ⟨b1, 0 + 1, none⟩)) hS (y_fld hS rfl fl81_1) rfl rfl fun a hS => ?_)
  refine wl rfl (ky (v := v2) hS (y_load hS rfl ty31 0 rfl id (us := [v2]) rfl rfl (fun _ => rfl)) rfl rfl fun a hS => ?_)
  refine wl rfl (ky (v := .string s_1) hS (y_move hS rfl) rfl rfl fun a hS => ?_)
  obtain ⟨hg5, hM⟩ := gd_some hM
  refine wl rfl (k_appstr (xs := b_0.Buf) (s := s_1) hS el31 Tryd.underlying9 rfl rfl 1 rfl 0 rfl hg5 rfl fun v6 cl7 a w hk hS => ?_)
  refine wl rfl (ky (v := .pointer (some ⟨b1, 0, none⟩)) hS (y_nil hS rfl) rfl rfl fun a hS => ?_)
  refine wl rfl (ky (v := .pointer (some ⟨b1, 0 + 1, none⟩)) hS (y_fld hS rfl fl81_1) rfl rfl fun a hS => ?_)
  refine wl rfl (k_store hS rfl rfl (us := [v6]) (cells1 (own_one (hS.own _ (List.mem_of_getElem? (i := 1) rfl)).1)) ty31 0 rfl rfl rfl (oc (own_one (hS.own _ (List.mem_of_getElem? (i := 1) rfl)).1) on) fun w hk hS => ?_)
  refine wpList_nil ?_
  try simp only [Exit.then, Exit.inBlock, ↓reduceIte, Nat.reduceEqDiff]
  refine hK7 _ _ ?_
  refine wp_seq_k fun K8 hK8 => ?_
  refine r_list ?_
  refine wl rfl (ky (v := .string s_1) hS (y_move hS rfl) rfl rfl fun a hS => ?_)
  refine wl rfl (ky (v := .int .i64 (s_1.size : Int)) hS (y_lens hS Tryd.underlying9 rfl) rfl rfl fun a hS => ?_)
  refine wl rfl (ky (v := .int .i64 (s_1.size : Int)) hS (y_assign hS rfl) rfl rfl fun a hS => ?_)
  refine wl rfl (ky (v := .nilIface) hS (y_assign hS rfl) rfl rfl fun a hS => ?_)
  refine wpList_nil ?_
  try simp only [Exit.then, Exit.inBlock, ↓reduceIte, Nat.reduceEqDiff]
  refine hK8 _ _ ?_
  refine wp_ret ?_
  injection hM with hM
  subst hM
  try simp only [Exit.then, Exit.inBlock, ↓reduceIte, Nat.reduceEqDiff]
  refine ret_ok hS Tryd.results61 (res_tmp hS rfl (res_tmp hS rfl res_nil)) ?_
  have hZ := hS.meet (G' := []) (D' := [.box b1 [(.pointer (some ⟨b1, 0, none⟩)), v6] 81, .own v6 5 (Rep.int .u8).size cl7]) (F' := [RowsF (Rep.int .u8) cl7 (b_0.Buf ++ bytesI s_1)]) [0, 1] (by decide) trivial ⟨rfl, rfl, trivial⟩ ⟨⟨0, rfl⟩, trivial⟩
  exact ⟨.nilIface, v6, cl7, rfl, .inl ⟨rfl, rfl⟩, hZ.dnew, (hZ.get 0 rfl)⟩

noncomputable def bld_WriteByte (b_0 : BuilderD) (c_1 : Int) : Option (Bool × BuilderD) := gd (roomB (b_0.Buf.length + ([c_1]).length)) <| some ((false, (BuilderD.mk (b_0.Buf ++ ([c_1])))))
set_option maxRecDepth 100000 in
set_option maxHeartbeats 4000000 in
theorem bld_WriteByte_c (T : Nat → Prop) (W0 : World) (hT : ∀ k, T k → k < W0.heap.size) (b_0 : BuilderD) (c_1 : Int) (b1 : Nat) (v2 : Value) (cl3 : List Value) (p4 : Value) (hD : DOk T W0 [.box b1 [p4, v2] 81, .own v2 5 (Rep.int .u8).size cl3]) (hv2 : RowsOk (Rep.int .u8) (dT T [.box b1 [p4, v2] 81, .own v2 5 (Rep.int .u8).size cl3]) W0 cl3 b_0.Buf) (hp4 : p4 = .pointer none ∨ p4 = .pointer (some ⟨b1, 0, none⟩)) (y : Bool × BuilderD) (hM : bld_WriteByte b_0 c_1 = some y) : Rets Tryd.prog (MD [.box b1 [p4, v2] 81, .own v2 5 (Rep.int .u8).size cl3]) 64 [.pointer (some ⟨b1, 0, none⟩), .int .u8 c_1] W0 (fun v w' => ∃ (v5 : Value) (v6 : Value) (cl7 : List Value), v = v5 ∧ ErrIs v5 y.1 ∧ DNew W0 w' [.box b1 [p4, v2] 81, .own v2 5 (Rep.int .u8).size cl3] [.box b1 [(.pointer (some ⟨b1, 0, none⟩)), v6] 81, .own v6 5 (Rep.int .u8).size cl7] ∧ RowsOk (Rep.int .u8) (dT T [.box b1 [(.pointer (some ⟨b1, 0, none⟩)), v6] 81, .own v6 5 (Rep.int .u8).size cl7]) w' cl7 y.2.Buf) := by
  refine enterD (c := _) Tryd.func64 rfl T 17 Tryd.ntmps64 hT rfl hD fun a hS => ?_
  replace hS := hS.fact (RowsF (Rep.int .u8) cl3 b_0.Buf) hv2
  unfold bld_WriteByte at hM
  refine wp_seq_k fun K5 hK5 => ?_
  refine r_list ?_
  refine wl rfl (ky (v := .nilIface) hS (y_assign hS rfl) rfl rfl fun a hS => ?_)
  refine wpList_nil ?_
  try simp only [Exit.then, Exit.inBlock, ↓reduceIte, Nat.reduceEqDiff]
  refine hK5 _ _ ?_
  refine wp_seq_k fun K6 hK6 => ?_
  refine r_list ?_
  refine wl rfl (ky (v := .pointer (some ⟨b1, 0, none⟩)) hS (y_move hS rfl) rfl rfl fun a hS => ?_)
  refine wl rfl (k_callm hS ci94 rfl rfl 0 rfl (cc_c _ b1 _ _ (hS.boxRow 0 rfl) hp4) fun _ w hR hk => ?_)
  obtain ⟨he, hrow⟩ := hR
  replace he := he.symm
  subst he
  refine ⟨[(.pointer (some ⟨b1, 0, none⟩)), v2], hrow, fun a hS => ?_⟩
  refine wpList_nil ?_
  try simp only [Exit.then, Exit.inBlock, ↓reduceIte, Nat.reduceEqDiff]
  refine hK6 _ _ ?_
  refine wp_seq_k fun K7 hK7 => ?_
  refine r_list ?_
  refine wl rfl (ky (v := .pointer (some ⟨b1, 0, none⟩)) hS (y_move hS rfl) rfl rfl fun a hS => ?_)
  refine wl rfl (ky (v := .pointer (some ⟨b1, 0, none⟩)) hS (y_move hS rfl) rfl rfl fun a hS => ?_)
  refine wl rfl (ky (v := .pointer (some ⟨b1, 0, none⟩)) hS (y_nil hS rfl) rfl rfl fun a hS => ?_)
  refine wl rfl (ky (v := .pointer (some ⟨b1, 0 + 1, none⟩)) hS (y_fld hS rfl fl81_1) rfl rfl fun a hS => ?_)
  refine wl rfl (ky (v := v2) hS (y_load hS rfl ty31 0 rfl id (us := [v2]) rfl rfl (fun _ => rfl)) rfl rfl fun a hS => ?_)
  refine wl rfl (ky (v := .int .u8 c_1) hS (y_move hS rfl) rfl rfl fun a hS => ?_)
  refine wl rfl (k_bslice (ps := [(0, .tmp 12)]) hS el31 ze5 (zl := [.int .u8 0]) (by kernel_rfl) rfl (us := [[.int .u8 c_1]]) ⟨rfl, trivial⟩ (ws := [.int .u8 c_1]) rfl rfl rfl rfl fun b7 a w hk hS => ?_)
  replace hS := hS.lit (R := (Rep.int .u8)) (us := [.int .u8 c_1]) (xs := [c_1]) 0 rfl (by decide) (RowsOk.one_ (R := (Rep.int .u8)) (x := c_1) rfl) rfl rfl
  replace hS := hS.freeze (R := (Rep.int .u8)) 0 rfl 0 rfl
  obtain ⟨hg9, hM⟩ := gd_some hM
  refine wl rfl (k_apps (R := (Rep.int .u8)) (xs := b_0.Buf) (ys := [c_1]) hS el31 (by decide) (by decide) rfl rfl 1 rfl 2 rfl 0 rfl hg9 rfl fun v10 cl11 a w hk hS => ?_)
  refine wl rfl (ky (v := .pointer (some ⟨b1, 0, none⟩)) hS (y_nil hS rfl) rfl rfl fun a hS => ?_)
  refine wl rfl (ky (v := .pointer (some ⟨b1, 0 + 1, none⟩)) hS (y_fld hS rfl fl81_1) rfl rfl fun a hS => ?_)
  refine wl rfl (k_store hS rfl rfl (us := [v10]) (cells1 (own_one (hS.own _ (List.mem_of_getElem? (i := 1) rfl)).1)) ty31 0 rfl rfl rfl (oc (own_one (hS.own _ (List.mem_of_getElem? (i := 1) rfl)).1) on) fun w hk hS => ?_)
  refine wpList_nil ?_
  try simp only [Exit.then, Exit.inBlock, ↓reduceIte, Nat.reduceEqDiff]
  refine hK7 _ _ ?_
  refine wp_seq_k fun K8 hK8 => ?_
  refine r_list ?_
  refine wl rfl (ky (v := .nilIface) hS (y_assign hS rfl) rfl rfl fun a hS => ?_)
  refine wpList_nil ?_
  try simp only [Exit.then, Exit.inBlock, ↓reduceIte, Nat.reduceEqDiff]
  refine hK8 _ _ ?_
  refine wp_ret ?_
  injection hM with hM
  subst hM
  try simp only [Exit.then, Exit.inBlock, ↓reduceIte, Nat.reduceEqDiff]
  refine ret_ok hS Tryd.results64 (res_tmp hS rfl res_nil) ?_
  have hZ := hS.meet (G' := []) (D' := [.box b1 [(.pointer (some ⟨b1, 0, none⟩)), v10] 81, .own v10 5 (Rep.int .u8).size cl11]) (F' := [RowsF (Rep.int .u8) cl11 (b_0.Buf ++ ([c_1]))]) [0, 1] (by decide) trivial ⟨rfl, rfl, trivial⟩ ⟨⟨0, rfl⟩, trivial⟩
  exact ⟨.nilIface, v10, cl11, rfl, .inl ⟨rfl, rfl⟩, hZ.dnew, (hZ.get 0 rfl)⟩

noncomputable def bld_Write (b_0 : BuilderD) (p_1 : (List Int)) : Option (Int × Bool × BuilderD) := gd (roomB (b_0.Buf.length + p_1.length)) <| some (((p_1.length : Int), false, (BuilderD.mk (b_0.Buf ++ p_1))))
set_option maxRecDepth 100000 in
set_option maxHeartbeats 4000000 in
theorem bld_Write_c (T : Nat → Prop) (W0 : World) (hT : ∀ k, T k → k < W0.heap.size) (b_0 : BuilderD) (p_1 : (List Int)) (v5 : Value) (b1 : Nat) (v2 : Value) (cl3 : List Value) (p4 : Value) (hD : DOk T W0 [.box b1 [p4, v2] 81, .own v2 5 (Rep.int .u8).size cl3]) (hv2 : RowsOk (Rep.int .u8) (dT T [.box b1 [p4, v2] 81, .own v2 5 (Rep.int .u8).size cl3]) W0 cl3 b_0.Buf) (hp4 : p4 = .pointer none ∨ p4 = .pointer (some ⟨b1, 0, none⟩)) (hv5 : SlR (Rep.int .u8) (dT T [.box b1 [p4, v2] 81, .own v2 5 (Rep.int .u8).size cl3]) W0 v5 p_1) (y : Int × Bool × BuilderD) (hM : bld_Write b_0 p_1 = some y) : Rets Tryd.prog (MD [.box b1 [p4, v2] 81, .own v2 5 (Rep.int .u8).size cl3]) 65 [.pointer (some ⟨b1, 0, none⟩), v5] W0 (fun v w' => ∃ (v6 : Value) (v7 : Value) (cl8 : List Value), v = .tuple #[.int .i64 y.1, v6] ∧ ErrIs v6 y.2.1 ∧ DNew W0 w' [.box b1 [p4, v2] 81, .own v2 5 (Rep.int .u8).size cl3] [.box b1 [(.pointer (some ⟨b1, 0, none⟩)), v7] 81, .own v7 5 (Rep.int .u8).size cl8] ∧ RowsOk (Rep.int .u8) (dT T [.box b1 [(.pointer (some ⟨b1, 0, none⟩)), v7] 81, .own v7 5 (Rep.int .u8).size cl8]) w' cl8 y.2.2.Buf) := by
  refine enterD (c := _) Tryd.func65 rfl T 19 Tryd.ntmps65 hT rfl hD fun a hS => ?_
  replace hS := hS.fact (SlF (Rep.int .u8) v5 p_1) hv5
  replace hS := hS.fact (RowsF (Rep.int .u8) cl3 b_0.Buf) hv2
  unfold bld_Write at hM
  refine wp_seq_k fun K5 hK5 => ?_
  refine r_list ?_
  refine wl rfl (ky (v := .int .i64 0) hS (y_assign hS rfl) rfl rfl fun a hS => ?_)
  refine wl rfl (ky (v := .nilIface) hS (y_assign hS rfl) rfl rfl fun a hS => ?_)
  refine wpList_nil ?_
  try simp only [Exit.then, Exit.inBlock, ↓reduceIte, Nat.reduceEqDiff]
  refine hK5 _ _ ?_
  refine wp_seq_k fun K6 hK6 => ?_
  refine r_list ?_
  refine wl rfl (ky (v := .pointer (some ⟨b1, 0, none⟩)) hS (y_move hS rfl) rfl rfl fun a hS => ?_)
  refine wl rfl (k_callm hS ci94 rfl rfl 0 rfl (cc_c _ b1 _ _ (hS.boxRow 0 rfl) hp4) fun _ w hR hk => ?_)
  obtain ⟨he, hrow⟩ := hR
  replace he := he.symm
  subst he
  refine ⟨[(.pointer (some ⟨b1, 0, none⟩)), v2], hrow, fun a hS => ?_⟩
  refine wpList_nil ?_
  try simp only [Exit.then, Exit.inBlock, ↓reduceIte, Nat.reduceEqDiff]
  refine hK6 _ _ ?_
  refine wp_seq_k fun K7 hK7 => ?_
  refine r_list ?_
  refine wl rfl (ky (v := .pointer (some ⟨b1, 0, none⟩)) hS (y_move hS rfl) rfl rfl fun a hS => ?_)
  refine wl rfl (ky (v := .pointer (some ⟨b1, 0, none⟩)) hS (y_move hS rfl) rfl rfl fun a hS => ?_)
  refine wl rfl (ky (v := .pointer (some ⟨b1, 0, none⟩)) hS (y_nil hS rfl) rfl rfl fun a hS => ?_)
  refine wl rfl (ky (v := .pointer (some ⟨b1, 0 + 1, none⟩)) hS (y_fld hS rfl fl81_1) rfl rfl fun a hS => ?_)
  refine wl rfl (ky (v := v2) hS (y_load hS rfl ty31 0 rfl id (us := [v2]) rfl rfl (fun _ => rfl)) rfl rfl fun a hS => ?_)
  refine wl rfl (ky (v := v5) hS (y_move hS rfl) rfl rfl fun a hS => ?_)
  obtain ⟨hg5, hM⟩ := gd_some hM
  refine wl rfl (k_apps (R := (Rep.int .u8)) (xs := b_0.Buf) (ys := p_1) hS el31 (by decide) (by decide) rfl rfl 1 rfl 0 rfl 1 rfl hg5 rfl fun v6 cl7 a w hk hS => ?_)
  refine wl rfl (ky (v := .pointer (some ⟨b1, 0, none⟩)) hS (y_nil hS rfl) rfl rfl fun a hS => ?_)
  refine wl rfl (ky (v := .pointer (some ⟨b1, 0 + 1, none⟩)) hS (y_fld hS rfl fl81_1) rfl rfl fun a hS => ?_)
  refine wl rfl (k_store hS rfl rfl (us := [v6]) (cells1 (own_one (hS.own _ (List.mem_of_getElem? (i := 1) rfl)).1)) ty31 0 rfl rfl rfl (oc (own_one (hS.own _ (List.mem_of_getElem? (i := 1) rfl)).1) on) fun w hk hS => ?_)
  refine wpList_nil ?_
  try simp only [Exit.then, Exit.inBlock, ↓reduceIte, Nat.reduceEqDiff]
  refine hK7 _ _ ?_
  refine wp_seq_k fun K8 hK8 => ?_
  refine r_list ?_
  refine wl rfl (ky (v := v5) hS (y_move hS rfl) rfl rfl fun a hS => ?_)
  refine wl rfl (ky (v := .int .i64 (p_1.length : Int)) hS (y_len (R := (Rep.int .u8)) (xs := p_1) hS sl31 rfl 2 rfl) rfl rfl fun a hS => ?_)
  refine wl rfl (ky (v := .int .i64 (p_1.length : Int)) hS (y_assign hS rfl) rfl rfl fun a hS => ?_)
  refine wl rfl (ky (v := .nilIface) hS (y_assign hS rfl) rfl rfl fun a hS => ?_)
  refine wpList_nil ?_
  try simp only [Exit.then, Exit.inBlock, ↓reduceIte, Nat.reduceEqDiff]
  refine hK8 _ _ ?_
  refine wp_ret ?_
  injection hM with hM
  subst hM
  try simp only [Exit.then, Exit.inBlock, ↓reduceIte, Nat.reduceEqDiff]
  refine ret_ok hS Tryd.results65 (res_tmp hS rfl (res_tmp hS rfl res_nil)) ?_
  have hZ := hS.meet (G' := []) (D' := [.box b1 [(.pointer (some ⟨b1, 0, none⟩)), v6] 81, .own v6 5 (Rep.int .u8).size cl7]) (F' := [RowsF (Rep.int .u8) cl7 (b_0.Buf ++ p_1)]) [0, 1] (by decide) trivial ⟨rfl, rfl, trivial⟩ ⟨⟨0, rfl⟩, trivial⟩
  exact ⟨.nilIface, v6, cl7, rfl, .inl ⟨rfl, rfl⟩, hZ.dnew, (hZ.get 0 rfl)⟩

noncomputable def slite_Cut (s_0 : ByteArray) (sep_ : ByteArray) : Option (ByteArray × ByteArray × Bool) := (indexOneM s_0 sep_).bind fun u12 => cond (decide ((0 : Int) ≤ u12)) ((subS s_0 0 u12).bind fun s21 => (subS s_0 (IntKind.i64.wrap (u12 + (sep_.size : Int))) s_0.size).bind fun s22 => some ((s21, s22, true))) (some ((s_0, (ByteArray.mk #[]), false)))
set_option maxRecDepth 100000 in
set_option maxHeartbeats 4000000 in
theorem slite_Cut_c (T : Nat → Prop) (W0 : World) (hT : ∀ k, T k → k < W0.heap.size) (hLv : LvP T W0) (s_0 : ByteArray) (sep_ : ByteArray) (y : ByteArray × ByteArray × Bool) (hM : slite_Cut s_0 sep_ = some y) : Rets Tryd.prog No 96 [.string s_0, .string sep_] W0 (fun v w' => v = .tuple #[.string y.1, .string y.2.1, .bool y.2.2]) := by
  refine enter (c := _) Tryd.func96 rfl T 23 Tryd.ntmps96 hT rfl fun a hS => ?_
  replace hS := hS.fact LvF (LvP.dn hLv)
  unfold slite_Cut at hM
  refine wp_seq_k fun K7 hK7 => ?_
  refine r_list ?_
  refine wl rfl (ky (v := .string (ByteArray.mk #[])) hS (y_assign hS rfl) rfl rfl fun a hS => ?_)
  refine wl rfl (ky (v := .string (ByteArray.mk #[])) hS (y_assign hS rfl) rfl rfl fun a hS => ?_)
  refine wl rfl (ky (v := .bool false) hS (y_assign hS rfl) rfl rfl fun a hS => ?_)
  refine wpList_nil ?_
  try simp only [Exit.then, Exit.inBlock, ↓reduceIte, Nat.reduceEqDiff]
  refine hK7 _ _ ?_
  refine wp_seq_k fun K8 hK8 => ?_
  refine wp_seq_k fun K9 hK9 => ?_
  refine r_list ?_
  refine wl rfl (ky (v := .string s_0) hS (y_move hS rfl) rfl rfl fun a hS => ?_)
  refine wl rfl (ky (v := .string sep_) hS (y_move hS rfl) rfl rfl fun a hS => ?_)
  obtain ⟨u12, hu12, hM⟩ := bd hM
  refine wl rfl (k_call hS ci113 rfl rfl (indexOneM_c _ _ hS.dlt (hS.get 0 rfl) s_0 sep_ _ hu12) fun _ w hR a hk hA => ?_)
  have he := Eq.symm hR
  subst he
  have hS := hA [] (fun r hr => by cases hr) List.Pairwise.nil
  refine wl rfl (ky (v := .int .i64 u12) hS (y_assign hS rfl) rfl rfl fun a hS => ?_)
  refine wpList_nil ?_
  try simp only [Exit.then, Exit.inBlock, ↓reduceIte, Nat.reduceEqDiff]
  refine hK9 _ _ ?_
  refine wp_seq_k fun K10 hK10 => ?_
  refine r_list ?_
  refine wl rfl (ky (v := .int .i64 u12) hS (y_move hS rfl) rfl rfl fun a hS => ?_)
  refine wl rfl (ky (v := .bool (decide ((0 : Int) ≤ u12))) hS (y_int hS rfl rfl rfl) rfl rfl fun a hS => ?_)
  refine wpList_nil ?_
  try simp only [Exit.then, Exit.inBlock, ↓reduceIte, Nat.reduceEqDiff]
  refine hK10 _ _ ?_
  rcases bool2 (decide ((0 : Int) ≤ u12)) with hb14 | hb14
  · replace hM := ct hb14 hM
    refine c_t hS rfl hb14 ?_
    refine wp_seq_k fun K11 hK11 => ?_
    refine draws [] hS mixed rfl (fun c a d v w h => by cases d <;> exact h) fun w hQ hS => ?_
    refine dy 0 (v := .string s_0) rfl (by kernel_rfl) (by kernel_rfl) (by kernel_rfl) rfl hQ hS (y_move hS rfl) rfl rfl rfl fun a hS => ?_
    refine dy 1 (v := .int .i64 u12) rfl (by kernel_rfl) (by kernel_rfl) (by kernel_rfl) rfl hQ hS (y_move hS rfl) rfl rfl rfl fun a hS => ?_
    obtain ⟨s21, hs21, hM⟩ := bd hM
    refine dy 2 (v := .string s21) rfl (by kernel_rfl) (by kernel_rfl) (by kernel_rfl) rfl hQ hS (y_subs (k1 := .i64) hS Tryd.underlying9 rfl (.inr ⟨rfl, rfl⟩) (.inl ⟨_, rfl, rfl⟩) hs21) rfl rfl rfl fun a hS => ?_
    refine dy 3 (v := .string s_0) rfl (by kernel_rfl) (by kernel_rfl) (by kernel_rfl) rfl hQ hS (y_move hS rfl) rfl rfl rfl fun a hS => ?_
    refine dy 4 (v := .int .i64 u12) rfl (by kernel_rfl) (by kernel_rfl) (by kernel_rfl) rfl hQ hS (y_move hS rfl) rfl rfl rfl fun a hS => ?_
    refine dy 5 (v := .string sep_) rfl (by kernel_rfl) (by kernel_rfl) (by kernel_rfl) rfl hQ hS (y_move hS rfl) rfl rfl rfl fun a hS => ?_
    refine dy 6 (v := .int .i64 (sep_.size : Int)) rfl (by kernel_rfl) (by kernel_rfl) (by kernel_rfl) rfl hQ hS (y_lens hS Tryd.underlying9 rfl) rfl rfl rfl fun a hS => ?_
    refine dy 7 (v := .int .i64 (IntKind.i64.wrap (u12 + (sep_.size : Int)))) rfl (by kernel_rfl) (by kernel_rfl) (by kernel_rfl) rfl hQ hS (y_int hS rfl rfl rfl) rfl rfl rfl fun a hS => ?_
    obtain ⟨s22, hs22, hM⟩ := bd hM
    refine dy 8 (v := .string s22) rfl (by kernel_rfl) (by kernel_rfl) (by kernel_rfl) rfl hQ hS (y_subs (k2 := .i64) hS Tryd.underlying9 rfl (.inl ⟨_, rfl, rfl⟩) (.inr ⟨rfl, rfl⟩) hs22) rfl rfl rfl fun a hS => ?_
    refine dy 9 (v := .string s21) rfl (by kernel_rfl) (by kernel_rfl) (by kernel_rfl) rfl hQ hS (y_assign hS rfl) rfl rfl rfl fun a hS => ?_
    refine dy 10 (v := .string s22) rfl (by kernel_rfl) (by kernel_rfl) (by kernel_rfl) rfl hQ hS (y_assign hS rfl) rfl rfl rfl fun a hS => ?_
    refine dy 11 (v := .bool true) rfl (by kernel_rfl) (by kernel_rfl) (by kernel_rfl) rfl hQ hS (y_assign hS rfl) rfl rfl rfl fun a hS => ?_
    refine wpE_done (by kernel_rfl) ?_ _
    try simp only [Exit.then, Exit.inBlock, ↓reduceIte, Nat.reduceEqDiff]
    refine hK11 _ _ ?_
    refine wp_ret ?_
    injection hM with hM
    subst hM
    try simp only [Exit.then, Exit.inBlock, ↓reduceIte, Nat.reduceEqDiff]
    refine ret_ok hS Tryd.results96 (res_tmp hS rfl (res_tmp hS rfl (res_tmp hS rfl res_nil))) ?_
    exact rfl
  · replace hM := cf hb14 hM
    refine c_f hS rfl hb14 ?_
    refine wp_skip ?_
    try simp only [Exit.then, Exit.inBlock, ↓reduceIte, Nat.reduceEqDiff]
    refine hK8 _ _ ?_
    refine wp_seq_k fun K12 hK12 => ?_
    refine r_list ?_
    refine wl rfl (ky (v := .string s_0) hS (y_move hS rfl) rfl rfl fun a hS => ?_)
    refine wl rfl (ky (v := .string s_0) hS (y_assign hS rfl) rfl rfl fun a hS => ?_)
    refine wl rfl (ky (v := .string (ByteArray.mk #[])) hS (y_assign hS rfl) rfl rfl fun a hS => ?_)
    refine wl rfl (ky (v := .bool false) hS (y_assign hS rfl) rfl rfl fun a hS => ?_)
    refine wpList_nil ?_
    try simp only [Exit.then, Exit.inBlock, ↓reduceIte, Nat.reduceEqDiff]
    refine hK12 _ _ ?_
    refine wp_ret ?_
    injection hM with hM
    subst hM
    try simp only [Exit.then, Exit.inBlock, ↓reduceIte, Nat.reduceEqDiff]
    refine ret_ok hS Tryd.results96 (res_tmp hS rfl (res_tmp hS rfl (res_tmp hS rfl res_nil))) ?_
    exact rfl

noncomputable def strings_Cut (s_0 : ByteArray) (sep_ : ByteArray) : Option (ByteArray × ByteArray × Bool) := (slite_Cut s_0 sep_).bind fun u3 => some ((u3.1, u3.2.1, u3.2.2))
set_option maxRecDepth 100000 in
set_option maxHeartbeats 4000000 in
theorem strings_Cut_c (T : Nat → Prop) (W0 : World) (hT : ∀ k, T k → k < W0.heap.size) (hLv : LvP T W0) (s_0 : ByteArray) (sep_ : ByteArray) (y : ByteArray × ByteArray × Bool) (hM : strings_Cut s_0 sep_ = some y) : Rets Tryd.prog No 67 [.string s_0, .string sep_] W0 (fun v w' => v = .tuple #[.string y.1, .string y.2.1, .bool y.2.2]) := by
  refine enter (c := _) Tryd.func67 rfl T 13 Tryd.ntmps67 hT rfl fun a hS => ?_
  replace hS := hS.fact LvF (LvP.dn hLv)
  unfold strings_Cut at hM
  refine wp_seq_k fun K3 hK3 => ?_
  refine r_list ?_
  refine wl rfl (ky (v := .string (ByteArray.mk #[])) hS (y_assign hS rfl) rfl rfl fun a hS => ?_)
  refine wl rfl (ky (v := .string (ByteArray.mk #[])) hS (y_assign hS rfl) rfl rfl fun a hS => ?_)
  refine wl rfl (ky (v := .bool false) hS (y_assign hS rfl) rfl rfl fun a hS => ?_)
  refine wpList_nil ?_
  try simp only [Exit.then, Exit.inBlock, ↓reduceIte, Nat.reduceEqDiff]
  refine hK3 _ _ ?_
  refine wp_seq_k fun K4 hK4 => ?_
  refine r_list ?_
  refine wl rfl (ky (v := .string s_0) hS (y_move hS rfl) rfl rfl fun a hS => ?_)
  refine wl rfl (ky (v := .string sep_) hS (y_move hS rfl) rfl rfl fun a hS => ?_)
  obtain ⟨u3, hu3, hM⟩ := bd hM
  refine wl rfl (k_call hS ci96 rfl rfl (slite_Cut_c _ _ hS.dlt (hS.get 0 rfl) s_0 sep_ _ hu3) fun _ w hR a hk hA => ?_)
  have he := Eq.symm hR
  subst he
  have hS := hA [] (fun r hr => by cases hr) List.Pairwise.nil
  refine wl rfl (ky (v := .string u3.1) hS (y_ex hS rfl rfl) rfl rfl fun a hS => ?_)
  refine wl rfl (ky (v := .string u3.2.1) hS (y_ex hS rfl rfl) rfl rfl fun a hS => ?_)
  refine wl rfl (ky (v := .bool u3.2.2) hS (y_ex hS rfl rfl) rfl rfl fun a hS => ?_)
  refine wl rfl (ky (v := .string u3.1) hS (y_assign hS rfl) rfl rfl fun a hS => ?_)
  refine wl rfl (ky (v := .string u3.2.1) hS (y_assign hS rfl) rfl rfl fun a hS => ?_)
  refine wl rfl (ky (v := .bool u3.2.2) hS (y_assign hS rfl) rfl rfl fun a hS => ?_)
  refine wpList_nil ?_
  try simp only [Exit.then, Exit.inBlock, ↓reduceIte, Nat.reduceEqDiff]
  refine hK4 _ _ ?_
  refine wp_ret ?_
  injection hM with hM
  subst hM
  try simp only [Exit.then, Exit.inBlock, ↓reduceIte, Nat.reduceEqDiff]
  refine ret_ok hS Tryd.results67 (res_tmp hS rfl (res_tmp hS rfl (res_tmp hS rfl res_nil))) ?_
  exact rfl

noncomputable def key_Print_j1 (out454 : (List Int)) : Option ByteArray := gd (decide (0 < out454.length)) <| gd (roomB out454.length) <| some ((strI out454))
noncomputable def key_Print_j2 (g524 : Int) (out621 : (List Int)) : Option (Fl (Int × (List Int)) ((List Int))) := some (.go (IntKind.i64.wrap (g524 + 1), out621))
noncomputable def key_Print_l3 (k_0 : KeyD) (g524 : Int) (out525 : (List Int)) : Option (Fl (Int × (List Int)) ((List Int))) := cond (decide ((g524 : Int) < (k_0.Text.size : Int))) ((getI k_0.Text.toList g524).bind fun c625 => (key_plain (c625.toNat : Int)).bind fun u626 => cond u626 ((bld_WriteByte (BuilderD.mk out525) (c625.toNat : Int)).bind fun u629 => key_Print_j2 g524 u629.2.Buf) ((getI (ByteArray.mk #[48, 49, 50, 51, 52, 53, 54, 55, 56, 57, 65, 66, 67, 68, 69, 70]).toList (shrI .u8 (c625.toNat : Int) 4)).bind fun c643 => (getI (ByteArray.mk #[48, 49, 50, 51, 52, 53, 54, 55, 56, 57, 65, 66, 67, 68, 69, 70]).toList (ibit .and .u8 (c625.toNat : Int) 15)).bind fun c644 => (bld_Write (BuilderD.mk out525) ([37, (c643.toNat : Int), (c644.toNat : Int)])).bind fun u647 => key_Print_j2 g524 u647.2.2.Buf)) (some (.out out525))
noncomputable def key_Print (k_0 : KeyD) : Option ByteArray := (key_Valid k_0).bind fun u306 => cond (!(u306)) (some ((ByteArray.mk #[]))) ((itoaM k_0.Kind).bind fun u312 => gd (Nat.ble (u312.size + (ByteArray.mk #[58]).size) 140737488355328) <| (bld_WriteString (BuilderD.mk ([] : List Int)) (u312 ++ (ByteArray.mk #[58]))).bind fun u316 => (loop (fun s : Int × (List Int) => key_Print_l3 k_0 s.1 s.2) (0, u316.2.2.Buf)).bind fun r => key_Print_j1 r)
set_option maxRecDepth 100000 in
set_option maxHeartbeats 4000000 in
theorem key_Print_c (T : Nat → Prop) (W0 : World) (hT : ∀ k, T k → k < W0.heap.size) (hLv : LvP T W0) (k_0 : KeyD) (y : ByteArray) (hM : key_Print k_0 = some y) : Rets Tryd.prog No 16 [.agg #[.int .i64 k_0.Kind, .string k_0.Text]] W0 (fun v w' => v = .string y) := by
  refine enter (c := _) Tryd.func16 rfl T 38 Tryd.ntmps16 hT rfl fun a hS => ?_
  replace hS := hS.fact LvF (LvP.dn hLv)
  unfold key_Print at hM
  refine wp_seq_k fun K42 hK42 => ?_
  refine r_list ?_
  refine wl rfl (k_box hS rfl (cs := [.int .i64 k_0.Kind, .string k_0.Text]) rfl rfl fun b303 hnb305 a w hk hS => ?_)
  refine wl rfl (ky (v := .string (ByteArray.mk #[])) hS (y_assign hS rfl) rfl rfl fun a hS => ?_)
  refine wpList_nil ?_
  try simp only [Exit.then, Exit.inBlock, ↓reduceIte, Nat.reduceEqDiff]
  refine hK42 _ _ ?_
  refine wp_seq_k fun K43 hK43 => ?_
  refine wp_seq_k fun K44 hK44 => ?_
  refine r_list ?_
  refine wl rfl (ky (v := .agg #[.int .i64 k_0.Kind, .string k_0.Text]) hS (y_load hS rfl ty28 0 rfl id (us := [.int .i64 k_0.Kind, .string k_0.Text]) rfl rfl (fun h => by cases h)) rfl rfl fun a hS => ?_)
  obtain ⟨u306, hu306, hM⟩ := bd hM
  refine wl rfl (k_call hS ci21 rfl rfl (key_Valid_c _ _ hS.dlt (hS.get 0 rfl) k_0 _ hu306) fun _ w hR a hk hA => ?_)
  have he := Eq.symm hR
  subst he
  have hS := hA [] (fun r hr => by cases hr) List.Pairwise.nil
  refine wl rfl (ky (v := .bool (!(u306))) hS (y_not hS rfl) rfl rfl fun a hS => ?_)
  refine wpList_nil ?_
  try simp only [Exit.then, Exit.inBlock, ↓reduceIte, Nat.reduceEqDiff]
  refine hK44 _ _ ?_
  rcases bool2 (!(u306)) with hb308 | hb308
  · replace hM := ct hb308 hM
    refine c_t hS rfl hb308 ?_
    refine wp_seq_k fun K45 hK45 => ?_
    refine r_list ?_
    refine wl rfl (ky (v := .string (ByteArray.mk #[])) hS (y_assign hS rfl) rfl rfl fun a hS => ?_)
    refine wpList_nil ?_
    try simp only [Exit.then, Exit.inBlock, ↓reduceIte, Nat.reduceEqDiff]
    refine hK45 _ _ ?_
    refine wp_ret ?_
    injection hM with hM
    subst hM
    try simp only [Exit.then, Exit.inBlock, ↓reduceIte, Nat.reduceEqDiff]
    refine ret_ok hS Tryd.results16 (res_tmp hS rfl res_nil) ?_
    exact rfl
  · replace hM := cf hb308 hM
    refine c_f hS rfl hb308 ?_
    refine wp_skip ?_
    try simp only [Exit.then, Exit.inBlock, ↓reduceIte, Nat.reduceEqDiff]
    refine hK43 _ _ ?_
    refine wp_seq_k fun K46 hK46 => ?_
    refine r_list ?_
    refine wl rfl (k_alloc hS ze81 rfl fun b309 hnb311 a w hk hS => ?_)
    refine wpList_nil ?_
    try simp only [Exit.then, Exit.inBlock, ↓reduceIte, Nat.reduceEqDiff]
    refine hK46 _ _ ?_
    refine wp_seq_k fun K47 hK47 => ?_
    refine r_list ?_
    refine wl rfl (ky (v := .pointer (some ⟨b303, 0 + 0, none⟩)) hS (y_fld hS rfl fl28_0) rfl rfl fun a hS => ?_)
    refine wl rfl (ky (v := .int .i64 k_0.Kind) hS (y_load hS rfl ty3 1 rfl id (us := [.int .i64 k_0.Kind]) rfl rfl (fun _ => rfl)) rfl rfl fun a hS => ?_)
    obtain ⟨u312, hu312, hM⟩ := bd hM
    refine wl rfl (k_call hS ci62 rfl rfl (itoaM_c _ _ hS.dlt (hS.get 0 rfl) k_0.Kind _ hu312) fun _ w hR a hk hA => ?_)
    have he := Eq.symm hR
    subst he
    have hS := hA [] (fun r hr => by cases hr) List.Pairwise.nil
    obtain ⟨hg314, hM⟩ := gd_some hM
    refine wl rfl (ky (v := .string (u312 ++ (ByteArray.mk #[58]))) hS (y_cat hS rfl rfl (Nat.le_of_ble_eq_true hg314)) rfl rfl fun a hS => ?_)
    replace hS := hS.nilRow (Rep.int .u8) 5 (by decide)
    obtain ⟨u316, hu316, hM⟩ := bd hM
    replace hS := hS.reD (D' := [.box b309 [.pointer none, (.slice none 0 0)] 81, .own (.slice none 0 0) 5 (Rep.int .u8).size ([]), .box b303 [.int .i64 k_0.Kind, .string k_0.Text] 28]) [1, 0, 2] (by decide) ⟨rfl, rfl, rfl, trivial⟩
    replace hS := (show St W0 No T 38 _ ([.box b309 [.pointer none, (.slice none 0 0)] 81, .own (.slice none 0 0) 5 (Rep.int .u8).size ([])] ++ [.box b303 [.int .i64 k_0.Kind, .string k_0.Text] 28]) _ _ _ from hS)
    refine wl rfl (k_callD (D0 := [.box b309 [.pointer none, (.slice none 0 0)] 81, .own (.slice none 0 0) 5 (Rep.int .u8).size ([])]) (Dr := [.box b303 [.int .i64 k_0.Kind, .string k_0.Text] 28]) hS ci61 rfl rfl (bld_WriteString_c _ _ hS.dltD (BuilderD.mk ([] : List Int)) (u312 ++ (ByteArray.mk #[58])) _ _ _ _ hS.dok (hS.getD 0 rfl) (.inl rfl) _ hu316) fun _ w hR a hk hA => ?_)
    obtain ⟨vz317_5, vz317_6, clz317_7, he, hEvz317_5, hN318, hRclz317_7⟩ := hR
    replace he := he.symm
    subst he
    have hS := hA _ hN318
    replace hS := (show St W0 No T 38 _ [.box b309 [(.pointer (some ⟨b309, 0, none⟩)), vz317_6] 81, .own vz317_6 5 (Rep.int .u8).size clz317_7, .box b303 [.int .i64 k_0.Kind, .string k_0.Text] 28] _ _ _ from hS)
    replace hS := hS.fact (RowsF (Rep.int .u8) clz317_7 u316.2.2.Buf) (hRclz317_7.keep (Kt.refl _ _) (dT_join _))
    refine wpList_nil ?_
    try simp only [Exit.then, Exit.inBlock, ↓reduceIte, Nat.reduceEqDiff]
    refine hK47 _ _ ?_
    refine seq_j (J := fun a w => ∃ (out454 : (List Int)) (v455 : Value) (cl456 : (List Value)), St W0 No T 38 [(3, .pointer (some ⟨b309, 0, none⟩))] [.own v455 5 (Rep.int .u8).size cl456, .box b309 [(.pointer (some ⟨b309, 0, none⟩)), v455] 81] [RowsF (Rep.int .u8) cl456 out454, LvF] a w ∧ key_Print_j1 out454 = some y) ?_ ?_
    · skip
      refine wp_seq_k fun K66 hK66 => ?_
      refine r_list ?_
      refine wl rfl (ky (v := .pointer (some ⟨b303, 0 + 1, none⟩)) hS (y_fld hS rfl fl28_1) rfl rfl fun a hS => ?_)
      refine wl rfl (ky (v := .string k_0.Text) hS (y_load hS rfl ty9 2 rfl id (us := [.string k_0.Text]) rfl rfl (fun _ => rfl)) rfl rfl fun a hS => ?_)
      refine wl rfl (ky (v := .int .i64 (k_0.Text.size : Int)) hS (y_lens hS Tryd.underlying9 rfl) rfl rfl fun a hS => ?_)
      refine wl rfl (ky (v := .int .i64 0) hS (y_move hS rfl) rfl rfl fun a hS => ?_)
      refine wpList_nil ?_
      try simp only [Exit.then, Exit.inBlock, ↓reduceIte, Nat.reduceEqDiff]
      refine hK66 _ _ ?_
      refine wp_block ?_
      obtain ⟨r1, hl1, hMo1⟩ := bd hM
      refine wp_lp (fun s : Int × (List Int) => key_Print_l3 k_0 s.1 s.2) (fun s a w => ∃ (g524 : Int) (out525 : (List Int)) (v526 : Value) (cl527 : (List Value)), (g524, out525) = s ∧ St W0 No T 38 [(1, .pointer (some ⟨b303, 0, none⟩)), (3, .pointer (some ⟨b309, 0, none⟩)), (16, .int .i64 (k_0.Text.size : Int)), (17, .int .i64 g524)] [.box b303 [.int .i64 k_0.Kind, .string k_0.Text] 28, .own v526 5 (Rep.int .u8).size cl527, .box b309 [(.pointer (some ⟨b309, 0, none⟩)), v526] 81] [RowsF (Rep.int .u8) cl527 out525, LvF] a w) hl1 ⟨0, u316.2.2.Buf, vz317_6, clz317_7, rfl, (hS.meet [2, 1, 0] (by decide) ⟨rfl, rfl, rfl, rfl, trivial⟩ ⟨rfl, rfl, rfl, trivial⟩ ⟨⟨0, rfl⟩, ⟨2, rfl⟩, trivial⟩)⟩ ?_
      rintro s a w f1 ⟨g524, out525, v526, cl527, rfl, hS⟩ hM hf1
      have hM : key_Print_l3 k_0 g524 out525 = some f1 := hM
      unfold key_Print_l3 at hM
      refine wp_seq_k fun K83 hK83 => ?_
      refine r_list ?_
      refine wl rfl (ky (v := .bool (decide ((g524 : Int) < (k_0.Text.size : Int)))) hS (y_int hS rfl rfl rfl) rfl rfl fun a hS => ?_)
      refine wpList_nil ?_
      try simp only [Exit.then, Exit.inBlock, ↓reduceIte, Nat.reduceEqDiff]
      refine hK83 _ _ ?_
      refine wp_seq_k fun K84 hK84 => ?_
      rcases bool2 (decide ((g524 : Int) < (k_0.Text.size : Int))) with hb593 | hb593
      · replace hM := ct hb593 hM
        refine c_t hS rfl hb593 ?_
        refine wp_skip ?_
        try simp only [Exit.then, Exit.inBlock, ↓reduceIte, Nat.reduceEqDiff]
        refine hK84 _ _ ?_
        refine seq_j (J := fun a w => ∃ (out621 : (List Int)) (v622 : Value) (cl623 : (List Value)), St W0 No T 38 [(1, .pointer (some ⟨b303, 0, none⟩)), (3, .pointer (some ⟨b309, 0, none⟩)), (16, .int .i64 (k_0.Text.size : Int)), (17, .int .i64 g524)] [.box b303 [.int .i64 k_0.Kind, .string k_0.Text] 28, .own v622 5 (Rep.int .u8).size cl623, .box b309 [(.pointer (some ⟨b309, 0, none⟩)), v622] 81] [RowsF (Rep.int .u8) cl623 out621, LvF] a w ∧ key_Print_j2 g524 out621 = some f1) ?_ ?_
        · skip
          refine wp_block ?_
          refine wp_seq_k fun K88 hK88 => ?_
          refine r_list ?_
          refine wl rfl (ky (v := .int .i64 g524) hS (y_move hS rfl) rfl rfl fun a hS => ?_)
          refine wl rfl (ky (v := .int .i64 g524) hS (y_assign hS rfl) rfl rfl fun a hS => ?_)
          refine wpList_nil ?_
          try simp only [Exit.then, Exit.inBlock, ↓reduceIte, Nat.reduceEqDiff]
          refine hK88 _ _ ?_
          refine wp_seq_k fun K89 hK89 => ?_
          refine r_list ?_
          refine wl rfl (ky (v := .pointer (some ⟨b303, 0 + 1, none⟩)) hS (y_fld hS rfl fl28_1) rfl rfl fun a hS => ?_)
          refine wl rfl (ky (v := .string k_0.Text) hS (y_load hS rfl ty9 0 rfl id (us := [.string k_0.Text]) rfl rfl (fun _ => rfl)) rfl rfl fun a hS => ?_)
          refine wl rfl (ky (v := .int .i64 g524) hS (y_move hS rfl) rfl rfl fun a hS => ?_)
          obtain ⟨c625, hc625, hM⟩ := bd hM
          refine wl rfl (ky (v := .int .u8 (c625.toNat : Int)) hS (y_byte hS Tryd.underlying9 rfl rfl hc625) rfl rfl fun a hS => ?_)
          refine wl rfl (ky (v := .int .u8 (c625.toNat : Int)) hS (y_assign hS rfl) rfl rfl fun a hS => ?_)
          refine wpList_nil ?_
          try simp only [Exit.then, Exit.inBlock, ↓reduceIte, Nat.reduceEqDiff]
          refine hK89 _ _ ?_
          refine wp_seq_k fun K90 hK90 => ?_
          refine r_list ?_
          refine wl rfl (ky (v := .int .u8 (c625.toNat : Int)) hS (y_move hS rfl) rfl rfl fun a hS => ?_)
          obtain ⟨u626, hu626, hM⟩ := bd hM
          refine wl rfl (k_call hS ci63 rfl rfl (key_plain_c _ _ hS.dlt (c625.toNat : Int) _ hu626) fun _ w hR a hk hA => ?_)
          have he := Eq.symm hR
          subst he
          have hS := hA [] (fun r hr => by cases hr) List.Pairwise.nil
          refine wpList_nil ?_
          try simp only [Exit.then, Exit.inBlock, ↓reduceIte, Nat.reduceEqDiff]
          refine hK90 _ _ ?_
          rcases bool2 (u626) with hb628 | hb628
          · replace hM := ct hb628 hM
            refine c_t hS rfl hb628 ?_
            refine r_list ?_
            refine wl rfl (ky (v := .int .u8 (c625.toNat : Int)) hS (y_move hS rfl) rfl rfl fun a hS => ?_)
            obtain ⟨u629, hu629, hM⟩ := bd hM
            replace hS := hS.reD (D' := [.box b309 [(.pointer (some ⟨b309, 0, none⟩)), v526] 81, .own v526 5 (Rep.int .u8).size cl527, .box b303 [.int .i64 k_0.Kind, .string k_0.Text] 28]) [2, 1, 0] (by decide) ⟨rfl, rfl, rfl, trivial⟩
            replace hS := (show St W0 No T 38 _ ([.box b309 [(.pointer (some ⟨b309, 0, none⟩)), v526] 81, .own v526 5 (Rep.int .u8).size cl527] ++ [.box b303 [.int .i64 k_0.Kind, .string k_0.Text] 28]) _ _ _ from hS)
            refine wl rfl (k_callD (D0 := [.box b309 [(.pointer (some ⟨b309, 0, none⟩)), v526] 81, .own v526 5 (Rep.int .u8).size cl527]) (Dr := [.box b303 [.int .i64 k_0.Kind, .string k_0.Text] 28]) hS ci64 rfl rfl (bld_WriteByte_c _ _ hS.dltD (BuilderD.mk out525) (c625.toNat : Int) _ _ _ _ hS.dok (hS.getD 0 rfl) (.inr rfl) _ hu629) fun _ w hR a hk hA => ?_)
            obtain ⟨vz630_5, vz630_6, clz630_7, he, hEvz630_5, hN631, hRclz630_7⟩ := hR
            replace he := he.symm
            subst he
            have hS := hA _ hN631
            replace hS := (show St W0 No T 38 _ [.box b309 [(.pointer (some ⟨b309, 0, none⟩)), vz630_6] 81, .own vz630_6 5 (Rep.int .u8).size clz630_7, .box b303 [.int .i64 k_0.Kind, .string k_0.Text] 28] _ _ _ from hS)
            replace hS := hS.fact (RowsF (Rep.int .u8) clz630_7 u629.2.Buf) (hRclz630_7.keep (Kt.refl _ _) (dT_join _))
            refine wpList_nil ?_
            try simp only [Exit.then, Exit.inBlock, ↓reduceIte, Nat.reduceEqDiff]
            exact ⟨u629.2.Buf, vz630_6, clz630_7, (hS.meet [2, 1, 0] (by decide) ⟨rfl, rfl, rfl, rfl, trivial⟩ ⟨rfl, rfl, rfl, trivial⟩ ⟨⟨0, rfl⟩, ⟨2, rfl⟩, trivial⟩), hM⟩
          · replace hM := cf hb628 hM
            refine c_f hS rfl hb628 ?_
            refine draws [(7, .any)] hS mixed rfl (fun c a d v w h => by cases d <;> exact h) fun w hQ hS => ?_
            refine dy 0 (v := .int .u8 (c625.toNat : Int)) rfl (by kernel_rfl) (by kernel_rfl) (by kernel_rfl) rfl hQ hS (y_move hS rfl) rfl rfl rfl fun a hS => ?_
            refine dy 1 (v := .int .u8 (shrI .u8 (c625.toNat : Int) 4)) rfl (by kernel_rfl) (by kernel_rfl) (by kernel_rfl) rfl hQ hS (y_shr hS rfl rfl rfl) rfl rfl rfl fun a hS => ?_
            obtain ⟨c643, hc643, hM⟩ := bd hM
            refine dy 2 (v := .int .u8 (c643.toNat : Int)) rfl (by kernel_rfl) (by kernel_rfl) (by kernel_rfl) rfl hQ hS (y_byte hS Tryd.underlying9 rfl rfl hc643) rfl rfl rfl fun a hS => ?_
            refine dy 3 (v := .int .u8 (c625.toNat : Int)) rfl (by kernel_rfl) (by kernel_rfl) (by kernel_rfl) rfl hQ hS (y_move hS rfl) rfl rfl rfl fun a hS => ?_
            refine dy 4 (v := .int .u8 (ibit .and .u8 (c625.toNat : Int) 15)) rfl (by kernel_rfl) (by kernel_rfl) (by kernel_rfl) rfl hQ hS (y_bits hS rfl rfl rfl) rfl rfl rfl fun a hS => ?_
            obtain ⟨c644, hc644, hM⟩ := bd hM
            refine dy 5 (v := .int .u8 (c644.toNat : Int)) rfl (by kernel_rfl) (by kernel_rfl) (by kernel_rfl) rfl hQ hS (y_byte hS Tryd.underlying9 rfl rfl hc644) rfl rfl rfl fun a hS => ?_
            refine wpE_one (i := 6) rfl (by kernel_rfl) rfl (k_bslice (ps := [(0, .const (.int .u8 37)), (1, .tmp 30), (2, .tmp 33)]) hS el31 ze5 (zl := [.int .u8 0, .int .u8 0, .int .u8 0]) (by kernel_rfl) rfl (us := [[.int .u8 37], [.int .u8 (c643.toNat : Int)], [.int .u8 (c644.toNat : Int)]]) ⟨rfl, ⟨rfl, ⟨rfl, trivial⟩⟩⟩ (ws := [.int .u8 37, .int .u8 (c643.toNat : Int), .int .u8 (c644.toNat : Int)]) rfl rfl rfl rfl fun b645 a w hk hS => ⟨stN (hk), ?_⟩)
            replace hS := hS.lit (R := (Rep.int .u8)) (us := [.int .u8 37, .int .u8 (c643.toNat : Int), .int .u8 (c644.toNat : Int)]) (xs := [37, (c643.toNat : Int), (c644.toNat : Int)]) 0 rfl (by decide) ((RowsOk.one_ (R := (Rep.int .u8)) (x := 37) rfl).append ((RowsOk.one_ (R := (Rep.int .u8)) (x := (c643.toNat : Int)) rfl).append (RowsOk.one_ (R := (Rep.int .u8)) (x := (c644.toNat : Int)) rfl))) rfl rfl
            replace hS := hS.freeze (R := (Rep.int .u8)) 0 rfl 0 rfl
            obtain ⟨u647, hu647, hM⟩ := bd hM
            replace hS := hS.reD (D' := [.box b309 [(.pointer (some ⟨b309, 0, none⟩)), v526] 81, .own v526 5 (Rep.int .u8).size cl527, .box b303 [.int .i64 k_0.Kind, .string k_0.Text] 28]) [2, 1, 0] (by decide) ⟨rfl, rfl, rfl, trivial⟩
            replace hS := (show St W0 No T 38 _ ([.box b309 [(.pointer (some ⟨b309, 0, none⟩)), v526] 81, .own v526 5 (Rep.int .u8).size cl527] ++ [.box b303 [.int .i64 k_0.Kind, .string k_0.Text] 28]) _ _ _ from hS)
            refine wpE_one (i := 7) rfl (by kernel_rfl) rfl (k_callD (D0 := [.box b309 [(.pointer (some ⟨b309, 0, none⟩)), v526] 81, .own v526 5 (Rep.int .u8).size cl527]) (Dr := [.box b303 [.int .i64 k_0.Kind, .string k_0.Text] 28]) hS ci65 rfl rfl (bld_Write_c _ _ hS.dltD (BuilderD.mk out525) ([37, (c643.toNat : Int), (c644.toNat : Int)]) _ _ _ _ _ hS.dok (hS.getD 2 rfl) (.inr rfl) (hS.getD 0 rfl) _ hu647) fun _ w hR a hk hA => ⟨stM rfl hk etAny, ?_⟩)
            obtain ⟨vz648_6, vz648_7, clz648_8, he, hEvz648_6, hN649, hRclz648_8⟩ := hR
            replace he := he.symm
            subst he
            have hS := hA _ hN649
            replace hS := (show St W0 No T 38 _ [.box b309 [(.pointer (some ⟨b309, 0, none⟩)), vz648_7] 81, .own vz648_7 5 (Rep.int .u8).size clz648_8, .box b303 [.int .i64 k_0.Kind, .string k_0.Text] 28] _ _ _ from hS)
            replace hS := hS.fact (RowsF (Rep.int .u8) clz648_8 u647.2.2.Buf) (hRclz648_8.keep (Kt.refl _ _) (dT_join _))
            refine wpE_done (by kernel_rfl) ?_ _
            try simp only [Exit.then, Exit.inBlock, ↓reduceIte, Nat.reduceEqDiff]
            exact ⟨u647.2.2.Buf, vz648_7, clz648_8, (hS.meet [2, 1, 0] (by decide) ⟨rfl, rfl, rfl, rfl, trivial⟩ ⟨rfl, rfl, rfl, trivial⟩ ⟨⟨0, rfl⟩, ⟨4, rfl⟩, trivial⟩), hM⟩
        · rintro a w ⟨out621, v622, cl623, hS, hM⟩
          unfold key_Print_j2 at hM
          refine r_list ?_
          refine wl rfl (ky (v := .int .i64 (IntKind.i64.wrap (g524 + 1))) hS (y_int hS rfl rfl rfl) rfl rfl fun a hS => ?_)
          refine wl rfl (ky (v := .int .i64 (IntKind.i64.wrap (g524 + 1))) hS (y_move hS rfl) rfl rfl fun a hS => ?_)
          refine wpList_nil ?_
          try simp only [Exit.then, Exit.inBlock, ↓reduceIte, Nat.reduceEqDiff]
          exact ⟨(IntKind.i64.wrap (g524 + 1), out621), (Option.some.inj hM).symm, (IntKind.i64.wrap (g524 + 1)), out621, v622, cl623, rfl, (hS.meet [0, 1, 2] (by decide) ⟨rfl, rfl, rfl, rfl, trivial⟩ ⟨rfl, rfl, rfl, trivial⟩ ⟨⟨0, rfl⟩, ⟨1, rfl⟩, trivial⟩)⟩
      · replace hM := cf hb593 hM
        refine c_f hS rfl hb593 ?_
        refine wp_exit ?_
        try simp only [Exit.then, Exit.inBlock, ↓reduceIte, Nat.reduceEqDiff]
        injection hM with hM
        subst hM
        have hr := hf1 _ rfl
        subst hr
        have hM : key_Print_j1 out525 = some y := hMo1
        exact ⟨out525, v526, cl527, (hS.meet [1, 2] (by decide) ⟨rfl, trivial⟩ ⟨rfl, rfl, trivial⟩ ⟨⟨0, rfl⟩, ⟨1, rfl⟩, trivial⟩), hM⟩
    · rintro a w ⟨out454, v455, cl456, hS, hM⟩
      unfold key_Print_j1 at hM
      refine wp_seq_k fun K65 hK65 => ?_
      refine r_list ?_
      obtain ⟨hg458, hM⟩ := gd_some hM
      obtain ⟨hg459, hM⟩ := gd_some hM
      replace hS := hS.reD (D' := [.own v455 5 (Rep.int .u8).size cl456, .box b309 [(.pointer (some ⟨b309, 0, none⟩)), v455] 81]) [0, 1] (by decide) ⟨rfl, rfl, trivial⟩
      replace hS := (show St W0 No T 38 _ ([.own v455 5 (Rep.int .u8).size cl456] ++ [.box b309 [(.pointer (some ⟨b309, 0, none⟩)), v455] 81]) _ _ _ from hS)
      refine wl rfl (k_callD (D0 := [.own v455 5 (Rep.int .u8).size cl456]) (Dr := [.box b309 [(.pointer (some ⟨b309, 0, none⟩)), v455] 81]) hS ci66 rfl rfl (bs_c _ b309 _ _ _ _ (hS.boxRow 1 rfl) (hS.own _ List.mem_cons_self).1 (rows_bytes_eq (hS.get 0 rfl)) hg458 (roomB_le hg459)) fun _ w hR a hk hA => ?_)
      subst hR
      have hS := hA [] (dnil _ _ _)
      replace hS := (show St W0 No T 38 _ [.box b309 [(.pointer (some ⟨b309, 0, none⟩)), v455] 81] _ _ _ from hS)
      refine wl rfl (ky (v := .string (strI out454)) hS (y_assign hS rfl) rfl rfl fun a hS => ?_)
      refine wpList_nil ?_
      try simp only [Exit.then, Exit.inBlock, ↓reduceIte, Nat.reduceEqDiff]
      refine hK65 _ _ ?_
      refine wp_ret ?_
      injection hM with hM
      subst hM
      try simp only [Exit.then, Exit.inBlock, ↓reduceIte, Nat.reduceEqDiff]
      refine ret_ok hS Tryd.results16 (res_tmp hS rfl res_nil) ?_
      exact rfl

noncomputable def key_Parse_j1 (s_0 : ByteArray) (u566 : (Int × Bool)) (text834 : (List Int)) : Option (KeyD × Int) := (key_Print (KeyD.mk u566.1 (strI text834))).bind fun u841 => cond (u841.toList == (ByteArray.mk #[]).toList) (some (((KeyD.mk 0 (ByteArray.mk #[])), 5))) (cond (!(u841.toList == s_0.toList)) (some (((KeyD.mk 0 (ByteArray.mk #[])), 5))) (some (((KeyD.mk u566.1 (strI text834)), 0))))
noncomputable def key_Parse_l2 (rest982 : ByteArray) (text983 : (List Int)) : Option (Fl (ByteArray × (List Int)) ((List Int))) := cond (decide ((0 : Int) < (rest982.size : Int))) ((getI rest982.toList 0).bind fun c1115 => cond (((c1115.toNat : Int) : Int) != 37) ((getI rest982.toList 0).bind fun c1141 => (subS rest982 1 rest982.size).bind fun s1142 => gd (roomB (text983.length + ([(c1141.toNat : Int)]).length)) <| some (.go (s1142, (text983 ++ ([(c1141.toNat : Int)]))))) (cond (decide (((rest982.size : Int) : Int) < 3)) ((getI rest982.toList 0).bind fun c1174 => (subS rest982 1 rest982.size).bind fun s1175 => gd (roomB (text983.length + ([(c1174.toNat : Int)]).length)) <| some (.go (s1175, (text983 ++ ([(c1174.toNat : Int)]))))) ((getI rest982.toList 1).bind fun c1218 => (getI rest982.toList 2).bind fun c1219 => (indexByteM (ByteArray.mk #[48, 49, 50, 51, 52, 53, 54, 55, 56, 57, 65, 66, 67, 68, 69, 70]) (c1218.toNat : Int)).bind fun u1220 => (indexByteM (ByteArray.mk #[48, 49, 50, 51, 52, 53, 54, 55, 56, 57, 65, 66, 67, 68, 69, 70]) (c1219.toNat : Int)).bind fun u1222 => gd (roomB (text983.length + ([IntKind.u8.wrap (ibit .or .i64 (shlI .i64 u1220 4) (ibit .and .i64 u1222 15))]).length)) <| (subS rest982 3 rest982.size).bind fun s1230 => some (.go (s1230, (text983 ++ ([IntKind.u8.wrap (ibit .or .i64 (shlI .i64 u1220 4) (ibit .and .i64 u1222 15))]))))))) (some (.out text983))
noncomputable def key_Parse (s_0 : ByteArray) : Option (KeyD × Int) := (strings_Cut s_0 (ByteArray.mk #[58])).bind fun u564 => (atoiM u564.1).bind fun u566 => cond u566.2 (some (((KeyD.mk 0 (ByteArray.mk #[])), 5))) ((loop (fun s : ByteArray × (List Int) => key_Parse_l2 s.1 s.2) (u564.2.1, ([] : List Int))).bind fun r => key_Parse_j1 s_0 u566 r)
set_option maxRecDepth 100000 in
set_option maxHeartbeats 4000000 in
theorem key_Parse_c (T : Nat → Prop) (W0 : World) (hT : ∀ k, T k → k < W0.heap.size) (hLv : LvP T W0) (s_0 : ByteArray) (y : KeyD × Int) (hM : key_Parse s_0 = some y) : Rets Tryd.prog No 19 [.string s_0] W0 (fun v w' => v = .tuple #[.agg #[.int .i64 y.1.Kind, .string y.1.Text], .int .i64 y.2]) := by
  refine enter (c := _) Tryd.func19 rfl T 74 Tryd.ntmps19 hT rfl fun a hS => ?_
  replace hS := hS.fact LvF (LvP.dn hLv)
  unfold key_Parse at hM
  refine wp_seq_k fun K43 hK43 => ?_
  refine r_list ?_
  refine wl rfl (k_alloc hS ze28 rfl fun b561 hnb563 a w hk hS => ?_)
  refine wl rfl (ky (v := .int .i64 0) hS (y_assign hS rfl) rfl rfl fun a hS => ?_)
  refine wpList_nil ?_
  try simp only [Exit.then, Exit.inBlock, ↓reduceIte, Nat.reduceEqDiff]
  refine hK43 _ _ ?_
  refine wp_seq_k fun K44 hK44 => ?_
  refine r_list ?_
  refine wl rfl (ky (v := .string s_0) hS (y_move hS rfl) rfl rfl fun a hS => ?_)
  obtain ⟨u564, hu564, hM⟩ := bd hM
  refine wl rfl (k_call hS ci67 rfl rfl (strings_Cut_c _ _ hS.dlt (hS.get 0 rfl) s_0 (ByteArray.mk #[58]) _ hu564) fun _ w hR a hk hA => ?_)
  have he := Eq.symm hR
  subst he
  have hS := hA [] (fun r hr => by cases hr) List.Pairwise.nil
  refine wl rfl (ky (v := .tuple #[.string u564.1, .string u564.2.1, .bool u564.2.2]) hS (y_move hS rfl) rfl rfl fun a hS => ?_)
  refine wl rfl (ky (v := .string u564.1) hS (y_ex hS rfl rfl) rfl rfl fun a hS => ?_)
  refine wl rfl (ky (v := .string u564.2.1) hS (y_ex hS rfl rfl) rfl rfl fun a hS => ?_)
  refine wl rfl (ky (v := .bool u564.2.2) hS (y_ex hS rfl rfl) rfl rfl fun a hS => ?_)
  refine wl rfl (ky (v := .string u564.1) hS (y_assign hS rfl) rfl rfl fun a hS => ?_)
  refine wl rfl (ky (v := .string u564.2.1) hS (y_assign hS rfl) rfl rfl fun a hS => ?_)
  refine wl rfl (ky (v := .bool u564.2.2) hS (y_assign hS rfl) rfl rfl fun a hS => ?_)
  refine wpList_nil ?_
  try simp only [Exit.then, Exit.inBlock, ↓reduceIte, Nat.reduceEqDiff]
  refine hK44 _ _ ?_
  refine wp_seq_k fun K45 hK45 => ?_
  refine r_list ?_
  refine wl rfl (ky (v := .string u564.1) hS (y_move hS rfl) rfl rfl fun a hS => ?_)
  obtain ⟨u566, hu566, hM⟩ := bd hM
  refine wl rfl (k_call hS ci68 rfl rfl (atoiM_c _ _ hS.dlt (hS.get 0 rfl) u564.1 _ hu566) fun _ w hR a hk hA => ?_)
  obtain ⟨vz567_1, he, hEvz567_1⟩ := hR
  replace he := he.symm
  subst he
  have hS := hA [] (fun r hr => by cases hr) List.Pairwise.nil
  refine wl rfl (ky (v := .tuple #[.int .i64 u566.1, vz567_1]) hS (y_move hS rfl) rfl rfl fun a hS => ?_)
  refine wl rfl (ky (v := .int .i64 u566.1) hS (y_ex hS rfl rfl) rfl rfl fun a hS => ?_)
  refine wl rfl (ky (v := vz567_1) hS (y_ex hS rfl rfl) rfl rfl fun a hS => ?_)
  refine wl rfl (ky (v := .int .i64 u566.1) hS (y_assign hS rfl) rfl rfl fun a hS => ?_)
  refine wl rfl (ky (v := vz567_1) hS (y_assign hS rfl) rfl rfl fun a hS => ?_)
  refine wpList_nil ?_
  try simp only [Exit.then, Exit.inBlock, ↓reduceIte, Nat.reduceEqDiff]
  refine hK45 _ _ ?_
  refine wp_seq_k fun K46 hK46 => ?_
  refine wp_seq_k fun K47 hK47 => ?_
  refine r_list ?_
  refine wl rfl (ky (v := vz567_1) hS (y_move hS rfl) rfl rfl fun a hS => ?_)
  refine wl rfl (ky (v := .bool u566.2) hS (y_errne hS rfl hEvz567_1 if83) rfl rfl fun a hS => ?_)
  refine wpList_nil ?_
  try simp only [Exit.then, Exit.inBlock, ↓reduceIte, Nat.reduceEqDiff]
  refine hK47 _ _ ?_
  rcases bool2 (u566.2) with hb568 | hb568
  · replace hM := ct hb568 hM
    refine c_t hS rfl hb568 ?_
    refine wp_seq_k fun K48 hK48 => ?_
    refine r_list ?_
    refine wl rfl (ky (v := .agg #[.int .i64 0, .string (ByteArray.mk #[])]) hS (y_build (ps := []) hS pl28 ze28 rfl (us := []) trivial (ws := [.int .i64 0, .string (ByteArray.mk #[])]) rfl) rfl rfl fun a hS => ?_)
    refine wl rfl (k_store hS rfl rfl (us := [.int .i64 0, .string (ByteArray.mk #[])]) rfl ty28 0 rfl rfl rfl (oc rfl (oc rfl on)) fun w hk hS => ?_)
    refine wl rfl (ky (v := .int .i64 5) hS (y_assign hS rfl) rfl rfl fun a hS => ?_)
    refine wpList_nil ?_
    try simp only [Exit.then, Exit.inBlock, ↓reduceIte, Nat.reduceEqDiff]
    refine hK48 _ _ ?_
    refine wp_ret ?_
    injection hM with hM
    subst hM
    try simp only [Exit.then, Exit.inBlock, ↓reduceIte, Nat.reduceEqDiff]
    refine ret_ok hS Tryd.results19 (res_cell hS rfl 0 rfl ty28 rfl (fun h => by cases h) (res_tmp hS rfl res_nil)) ?_
    exact rfl
  · replace hM := cf hb568 hM
    refine c_f hS rfl hb568 ?_
    refine wp_skip ?_
    try simp only [Exit.then, Exit.inBlock, ↓reduceIte, Nat.reduceEqDiff]
    refine hK46 _ _ ?_
    refine wp_seq_k fun K49 hK49 => ?_
    refine r_list ?_
    refine wl rfl (ky (v := .slice none 0 0) hS (y_assign hS rfl) rfl rfl fun a hS => ?_)
    refine wpList_nil ?_
    try simp only [Exit.then, Exit.inBlock, ↓reduceIte, Nat.reduceEqDiff]
    refine hK49 _ _ ?_
    refine seq_j (J := fun a w => ∃ (text834 : (List Int)) (v835 : Value) (cl836 : (List Value)), St W0 No T 74 [(0, .string s_0), (2, .pointer (some ⟨b561, 0, none⟩)), (7, .int .i64 u566.1), (9, v835)] [.own v835 5 (Rep.int .u8).size cl836, .box b561 [.int .i64 0, .string (ByteArray.mk #[])] 28] [RowsF (Rep.int .u8) cl836 text834, LvF] a w ∧ key_Parse_j1 s_0 u566 text834 = some y) ?_ ?_
    · skip
      refine wp_block ?_
      replace hS := hS.nilRow (Rep.int .u8) 5 (by decide)
      obtain ⟨r1, hl1, hMo1⟩ := bd hM
      refine wp_lp (fun s : ByteArray × (List Int) => key_Parse_l2 s.1 s.2) (fun s a w => ∃ (rest982 : ByteArray) (text983 : (List Int)) (v984 : Value) (cl985 : (List Value)), (rest982, text983) = s ∧ St W0 No T 74 [(0, .string s_0), (2, .pointer (some ⟨b561, 0, none⟩)), (5, .string rest982), (7, .int .i64 u566.1), (9, v984)] [.own v984 5 (Rep.int .u8).size cl985, .box b561 [.int .i64 0, .string (ByteArray.mk #[])] 28] [RowsF (Rep.int .u8) cl985 text983, LvF] a w) hl1 ⟨u564.2.1, ([] : List Int), (.slice none 0 0), ([]), rfl, (hS.meet [0, 1] (by decide) ⟨rfl, rfl, rfl, rfl, rfl, trivial⟩ ⟨rfl, rfl, trivial⟩ ⟨⟨0, rfl⟩, ⟨1, rfl⟩, trivial⟩)⟩ ?_
      rintro s a w f1 ⟨rest982, text983, v984, cl985, rfl, hS⟩ hM hf1
      have hM : key_Parse_l2 rest982 text983 = some f1 := hM
      unfold key_Parse_l2 at hM
      refine wp_seq_k fun K85 hK85 => ?_
      refine wp_seq_k fun K86 hK86 => ?_
      refine r_list ?_
      refine wl rfl (ky (v := .string rest982) hS (y_move hS rfl) rfl rfl fun a hS => ?_)
      refine wl rfl (ky (v := .int .i64 (rest982.size : Int)) hS (y_lens hS Tryd.underlying9 rfl) rfl rfl fun a hS => ?_)
      refine wl rfl (ky (v := .bool (decide ((0 : Int) < (rest982.size : Int)))) hS (y_int hS rfl rfl rfl) rfl rfl fun a hS => ?_)
      refine wpList_nil ?_
      try simp only [Exit.then, Exit.inBlock, ↓reduceIte, Nat.reduceEqDiff]
      refine hK86 _ _ ?_
      rcases bool2 (decide ((0 : Int) < (rest982.size : Int))) with hb1112 | hb1112
      · replace hM := ct hb1112 hM
        refine c_t hS rfl hb1112 ?_
        refine wp_skip ?_
        try simp only [Exit.then, Exit.inBlock, ↓reduceIte, Nat.reduceEqDiff]
        refine hK85 _ _ ?_
        refine wp_block ?_
        refine wp_seq_k fun K87 hK87 => ?_
        refine wp_seq_k fun K88 hK88 => ?_
        refine r_list ?_
        refine wl rfl (ky (v := .string rest982) hS (y_move hS rfl) rfl rfl fun a hS => ?_)
        obtain ⟨c1115, hc1115, hM⟩ := bd hM
        refine wl rfl (ky (v := .int .u8 (c1115.toNat : Int)) hS (y_byte hS Tryd.underlying9 rfl rfl hc1115) rfl rfl fun a hS => ?_)
        refine wl rfl (ky (v := .bool (((c1115.toNat : Int) : Int) != 37)) hS (y_int hS rfl rfl rfl) rfl rfl fun a hS => ?_)
        refine wl rfl (ky (v := .bool (((c1115.toNat : Int) : Int) != 37)) hS (y_move hS rfl) rfl rfl fun a hS => ?_)
        rcases bool2 (((c1115.toNat : Int) : Int) != 37) with hb1116 | hb1116
        · replace hM := ct hb1116 hM
          refine wn hS rfl rfl rfl hb1116 rfl rfl fun a hS => ?_
          refine wn hS rfl rfl rfl hb1116 rfl rfl fun a hS => ?_
          refine wn hS rfl rfl rfl hb1116 rfl rfl fun a hS => ?_
          refine wl rfl (ky (v := .bool true) hS (y_pickt hS rfl hb1116 rfl) rfl rfl fun a hS => ?_)
          refine wpList_nil ?_
          try simp only [Exit.then, Exit.inBlock, ↓reduceIte, Nat.reduceEqDiff]
          refine hK88 _ _ ?_
          refine c_t hS rfl rfl ?_
          refine wp_seq_k fun K89 hK89 => ?_
          refine draws [(4, .blk (Value.ownBlock v984))] hS mixed rfl (fun c a d v w h => by cases d <;> exact h) fun w hQ hS => ?_
          refine dy 0 (v := v984) rfl (by kernel_rfl) (by kernel_rfl) (by kernel_rfl) rfl hQ hS (y_move hS rfl) rfl rfl rfl fun a hS => ?_
          refine dy 1 (v := .string rest982) rfl (by kernel_rfl) (by kernel_rfl) (by kernel_rfl) rfl hQ hS (y_move hS rfl) rfl rfl rfl fun a hS => ?_
          obtain ⟨c1141, hc1141, hM⟩ := bd hM
          refine dy 2 (v := .int .u8 (c1141.toNat : Int)) rfl (by kernel_rfl) (by kernel_rfl) (by kernel_rfl) rfl hQ hS (y_byte hS Tryd.underlying9 rfl rfl hc1141) rfl rfl rfl fun a hS => ?_
          refine dy 5 (v := .string rest982) rfl (by kernel_rfl) (by kernel_rfl) (by kernel_rfl) rfl hQ hS (y_move hS rfl) rfl rfl rfl fun a hS => ?_
          obtain ⟨s1142, hs1142, hM⟩ := bd hM
          refine dy 6 (v := .string s1142) rfl (by kernel_rfl) (by kernel_rfl) (by kernel_rfl) rfl hQ hS (y_subs (k2 := .i64) hS Tryd.underlying9 rfl (.inl ⟨_, rfl, rfl⟩) (.inr ⟨rfl, rfl⟩) hs1142) rfl rfl rfl fun a hS => ?_
          refine wpE_one (i := 3) rfl (by kernel_rfl) rfl (k_bslice (ps := [(0, .tmp 39)]) hS el31 ze5 (zl := [.int .u8 0]) (by kernel_rfl) rfl (us := [[.int .u8 (c1141.toNat : Int)]]) ⟨rfl, trivial⟩ (ws := [.int .u8 (c1141.toNat : Int)]) rfl rfl rfl rfl fun b1143 a w hk hS => ⟨stN (hk), ?_⟩)
          replace hS := hS.lit (R := (Rep.int .u8)) (us := [.int .u8 (c1141.toNat : Int)]) (xs := [(c1141.toNat : Int)]) 0 rfl (by decide) (RowsOk.one_ (R := (Rep.int .u8)) (x := (c1141.toNat : Int)) rfl) rfl rfl
          replace hS := hS.freeze (R := (Rep.int .u8)) 0 rfl 0 rfl
          obtain ⟨hg1145, hM⟩ := gd_some hM
          refine wpE_one (i := 4) rfl (by kernel_rfl) rfl (k_apps (R := (Rep.int .u8)) (xs := text983) (ys := [(c1141.toNat : Int)]) hS el31 (by decide) (by decide) rfl rfl 0 rfl 2 rfl 0 rfl hg1145 rfl fun v1146 cl1147 a w hk hS => ⟨stM rfl hk etOwn, ?_⟩)
          refine dy 7 (v := v1146) rfl (by kernel_rfl) (by kernel_rfl) (by kernel_rfl) rfl hQ hS (y_assign hS rfl) rfl rfl rfl fun a hS => ?_
          refine dy 8 (v := .string s1142) rfl (by kernel_rfl) (by kernel_rfl) (by kernel_rfl) rfl hQ hS (y_assign hS rfl) rfl rfl rfl fun a hS => ?_
          refine wpE_done (by kernel_rfl) ?_ _
          try simp only [Exit.then, Exit.inBlock, ↓reduceIte, Nat.reduceEqDiff]
          refine hK89 _ _ ?_
          refine wp_exit ?_
          try simp only [Exit.then, Exit.inBlock, ↓reduceIte, Nat.reduceEqDiff]
          exact ⟨(s1142, (text983 ++ ([(c1141.toNat : Int)]))), (Option.some.inj hM).symm, s1142, (text983 ++ ([(c1141.toNat : Int)])), v1146, cl1147, rfl, (hS.meet [0, 1] (by decide) ⟨rfl, rfl, rfl, rfl, rfl, trivial⟩ ⟨rfl, rfl, trivial⟩ ⟨⟨0, rfl⟩, ⟨4, rfl⟩, trivial⟩)⟩
        · replace hM := cf hb1116 hM
          refine wg hS rfl rfl rfl hb1116 (ky (v := .string rest982) hS (y_move hS rfl) rfl rfl fun a hS => ?_)
          refine wg hS rfl rfl rfl hb1116 (ky (v := .int .i64 (rest982.size : Int)) hS (y_lens hS Tryd.underlying9 rfl) rfl rfl fun a hS => ?_)
          refine wg hS rfl rfl rfl hb1116 (ky (v := .bool (decide (((rest982.size : Int) : Int) < 3))) hS (y_int hS rfl rfl rfl) rfl rfl fun a hS => ?_)
          refine wl rfl (ky (v := .bool (decide (((rest982.size : Int) : Int) < 3))) hS (y_pickf hS rfl hb1116 rfl) rfl rfl fun a hS => ?_)
          refine wpList_nil ?_
          try simp only [Exit.then, Exit.inBlock, ↓reduceIte, Nat.reduceEqDiff]
          refine hK88 _ _ ?_
          rcases bool2 (decide (((rest982.size : Int) : Int) < 3)) with hb1149 | hb1149
          · replace hM := ct hb1149 hM
            refine c_t hS rfl hb1149 ?_
            refine wp_seq_k fun K90 hK90 => ?_
            refine draws [(4, .blk (Value.ownBlock v984))] hS mixed rfl (fun c a d v w h => by cases d <;> exact h) fun w hQ hS => ?_
            refine dy 0 (v := v984) rfl (by kernel_rfl) (by kernel_rfl) (by kernel_rfl) rfl hQ hS (y_move hS rfl) rfl rfl rfl fun a hS => ?_
            refine dy 1 (v := .string rest982) rfl (by kernel_rfl) (by kernel_rfl) (by kernel_rfl) rfl hQ hS (y_move hS rfl) rfl rfl rfl fun a hS => ?_
            obtain ⟨c1174, hc1174, hM⟩ := bd hM
            refine dy 2 (v := .int .u8 (c1174.toNat : Int)) rfl (by kernel_rfl) (by kernel_rfl) (by kernel_rfl) rfl hQ hS (y_byte hS Tryd.underlying9 rfl rfl hc1174) rfl rfl rfl fun a hS => ?_
            refine dy 5 (v := .string rest982) rfl (by kernel_rfl) (by kernel_rfl) (by kernel_rfl) rfl hQ hS (y_move hS rfl) rfl rfl rfl fun a hS => ?_
            obtain ⟨s1175, hs1175, hM⟩ := bd hM
            refine dy 6 (v := .string s1175) rfl (by kernel_rfl) (by kernel_rfl) (by kernel_rfl) rfl hQ hS (y_subs (k2 := .i64) hS Tryd.underlying9 rfl (.inl ⟨_, rfl, rfl⟩) (.inr ⟨rfl, rfl⟩) hs1175) rfl rfl rfl fun a hS => ?_
            refine wpE_one (i := 3) rfl (by kernel_rfl) rfl (k_bslice (ps := [(0, .tmp 39)]) hS el31 ze5 (zl := [.int .u8 0]) (by kernel_rfl) rfl (us := [[.int .u8 (c1174.toNat : Int)]]) ⟨rfl, trivial⟩ (ws := [.int .u8 (c1174.toNat : Int)]) rfl rfl rfl rfl fun b1176 a w hk hS => ⟨stN (hk), ?_⟩)
            replace hS := hS.lit (R := (Rep.int .u8)) (us := [.int .u8 (c1174.toNat : Int)]) (xs := [(c1174.toNat : Int)]) 0 rfl (by decide) (RowsOk.one_ (R := (Rep.int .u8)) (x := (c1174.toNat : Int)) rfl) rfl rfl
            replace hS := hS.freeze (R := (Rep.int .u8)) 0 rfl 0 rfl
            obtain ⟨hg1178, hM⟩ := gd_some hM
            refine wpE_one (i := 4) rfl (by kernel_rfl) rfl (k_apps (R := (Rep.int .u8)) (xs := text983) (ys := [(c1174.toNat : Int)]) hS el31 (by decide) (by decide) rfl rfl 0 rfl 2 rfl 0 rfl hg1178 rfl fun v1179 cl1180 a w hk hS => ⟨stM rfl hk etOwn, ?_⟩)
            refine dy 7 (v := v1179) rfl (by kernel_rfl) (by kernel_rfl) (by kernel_rfl) rfl hQ hS (y_assign hS rfl) rfl rfl rfl fun a hS => ?_
            refine dy 8 (v := .string s1175) rfl (by kernel_rfl) (by kernel_rfl) (by kernel_rfl) rfl hQ hS (y_assign hS rfl) rfl rfl rfl fun a hS => ?_
            refine wpE_done (by kernel_rfl) ?_ _
            try simp only [Exit.then, Exit.inBlock, ↓reduceIte, Nat.reduceEqDiff]
            refine hK90 _ _ ?_
            refine wp_exit ?_
            try simp only [Exit.then, Exit.inBlock, ↓reduceIte, Nat.reduceEqDiff]
            exact ⟨(s1175, (text983 ++ ([(c1174.toNat : Int)]))), (Option.some.inj hM).symm, s1175, (text983 ++ ([(c1174.toNat : Int)])), v1179, cl1180, rfl, (hS.meet [0, 1] (by decide) ⟨rfl, rfl, rfl, rfl, rfl, trivial⟩ ⟨rfl, rfl, trivial⟩ ⟨⟨0, rfl⟩, ⟨4, rfl⟩, trivial⟩)⟩
          · replace hM := cf hb1149 hM
            refine c_f hS rfl hb1149 ?_
            refine wp_skip ?_
            try simp only [Exit.then, Exit.inBlock, ↓reduceIte, Nat.reduceEqDiff]
            refine hK87 _ _ ?_
            refine wp_seq_k fun K91 hK91 => ?_
            refine draws [(12, .blk (Value.ownBlock v984))] hS mixed rfl (fun c a d v w h => by cases d <;> exact h) fun w hQ hS => ?_
            refine dy 0 (v := v984) rfl (by kernel_rfl) (by kernel_rfl) (by kernel_rfl) rfl hQ hS (y_move hS rfl) rfl rfl rfl fun a hS => ?_
            refine dy 1 (v := .string rest982) rfl (by kernel_rfl) (by kernel_rfl) (by kernel_rfl) rfl hQ hS (y_move hS rfl) rfl rfl rfl fun a hS => ?_
            obtain ⟨c1218, hc1218, hM⟩ := bd hM
            refine dy 2 (v := .int .u8 (c1218.toNat : Int)) rfl (by kernel_rfl) (by kernel_rfl) (by kernel_rfl) rfl hQ hS (y_byte hS Tryd.underlying9 rfl rfl hc1218) rfl rfl rfl fun a hS => ?_
            refine dy 5 (v := .string rest982) rfl (by kernel_rfl) (by kernel_rfl) (by kernel_rfl) rfl hQ hS (y_move hS rfl) rfl rfl rfl fun a hS => ?_
            obtain ⟨c1219, hc1219, hM⟩ := bd hM
            refine dy 6 (v := .int .u8 (c1219.toNat : Int)) rfl (by kernel_rfl) (by kernel_rfl) (by kernel_rfl) rfl hQ hS (y_byte hS Tryd.underlying9 rfl rfl hc1219) rfl rfl rfl fun a hS => ?_
            obtain ⟨u1220, hu1220, hM⟩ := bd hM
            refine wpE_one (i := 3) rfl (by kernel_rfl) rfl (k_call hS ci69 rfl rfl (indexByteM_c _ _ hS.dlt (hS.get 1 rfl) (ByteArray.mk #[48, 49, 50, 51, 52, 53, 54, 55, 56, 57, 65, 66, 67, 68, 69, 70]) (c1218.toNat : Int) _ hu1220) fun _ w hR a hk hA => ⟨stN (hk), ?_⟩)
            have he := Eq.symm hR
            subst he
            have hS := hA [] (fun r hr => by cases hr) List.Pairwise.nil
            refine dy 4 (v := .int .i64 (shlI .i64 u1220 4)) rfl (by kernel_rfl) (by kernel_rfl) (by kernel_rfl) rfl hQ hS (y_shl hS rfl rfl rfl) rfl rfl rfl fun a hS => ?_
            obtain ⟨u1222, hu1222, hM⟩ := bd hM
            refine wpE_one (i := 7) rfl (by kernel_rfl) rfl (k_call hS ci69 rfl rfl (indexByteM_c _ _ hS.dlt (hS.get 1 rfl) (ByteArray.mk #[48, 49, 50, 51, 52, 53, 54, 55, 56, 57, 65, 66, 67, 68, 69, 70]) (c1219.toNat : Int) _ hu1222) fun _ w hR a hk hA => ⟨stN (hk), ?_⟩)
            have he := Eq.symm hR
            subst he
            have hS := hA [] (fun r hr => by cases hr) List.Pairwise.nil
            refine dy 8 (v := .int .i64 (ibit .and .i64 u1222 15)) rfl (by kernel_rfl) (by kernel_rfl) (by kernel_rfl) rfl hQ hS (y_bits hS rfl rfl rfl) rfl rfl rfl fun a hS => ?_
            refine dy 9 (v := .int .i64 (ibit .or .i64 (shlI .i64 u1220 4) (ibit .and .i64 u1222 15))) rfl (by kernel_rfl) (by kernel_rfl) (by kernel_rfl) rfl hQ hS (y_bits hS rfl rfl rfl) rfl rfl rfl fun a hS => ?_
            refine dy 10 (v := .int .u8 (IntKind.u8.wrap (ibit .or .i64 (shlI .i64 u1220 4) (ibit .and .i64 u1222 15)))) rfl (by kernel_rfl) (by kernel_rfl) (by kernel_rfl) rfl hQ hS (y_conv hS rfl Tryd.underlying3 Tryd.underlying5) rfl rfl rfl fun a hS => ?_
            refine wpE_one (i := 11) rfl (by kernel_rfl) rfl (k_bslice (ps := [(0, .tmp 54)]) hS el31 ze5 (zl := [.int .u8 0]) (by kernel_rfl) rfl (us := [[.int .u8 (IntKind.u8.wrap (ibit .or .i64 (shlI .i64 u1220 4) (ibit .and .i64 u1222 15)))]]) ⟨rfl, trivial⟩ (ws := [.int .u8 (IntKind.u8.wrap (ibit .or .i64 (shlI .i64 u1220 4) (ibit .and .i64 u1222 15)))]) rfl rfl rfl rfl fun b1224 a w hk hS => ⟨stN (hk), ?_⟩)
            replace hS := hS.lit (R := (Rep.int .u8)) (us := [.int .u8 (IntKind.u8.wrap (ibit .or .i64 (shlI .i64 u1220 4) (ibit .and .i64 u1222 15)))]) (xs := [IntKind.u8.wrap (ibit .or .i64 (shlI .i64 u1220 4) (ibit .and .i64 u1222 15))]) 0 rfl (by decide) (RowsOk.one_ (R := (Rep.int .u8)) (x := IntKind.u8.wrap (ibit .or .i64 (shlI .i64 u1220 4) (ibit .and .i64 u1222 15))) rfl) rfl rfl
            replace hS := hS.freeze (R := (Rep.int .u8)) 0 rfl 0 rfl
            obtain ⟨hg1226, hM⟩ := gd_some hM
            refine wpE_one (i := 12) rfl (by kernel_rfl) rfl (k_apps (R := (Rep.int .u8)) (xs := text983) (ys := [IntKind.u8.wrap (ibit .or .i64 (shlI .i64 u1220 4) (ibit .and .i64 u1222 15))]) hS el31 (by decide) (by decide) rfl rfl 0 rfl 2 rfl 0 rfl hg1226 rfl fun v1227 cl1228 a w hk hS => ⟨stM rfl hk etOwn, ?_⟩)
            refine dy 13 (v := v1227) rfl (by kernel_rfl) (by kernel_rfl) (by kernel_rfl) rfl hQ hS (y_assign hS rfl) rfl rfl rfl fun a hS => ?_
            refine wpE_done (by kernel_rfl) ?_ _
            try simp only [Exit.then, Exit.inBlock, ↓reduceIte, Nat.reduceEqDiff]
            refine hK91 _ _ ?_
            refine r_list ?_
            refine wl rfl (ky (v := .string rest982) hS (y_move hS rfl) rfl rfl fun a hS => ?_)
            obtain ⟨s1230, hs1230, hM⟩ := bd hM
            refine wl rfl (ky (v := .string s1230) hS (y_subs (k2 := .i64) hS Tryd.underlying9 rfl (.inl ⟨_, rfl, rfl⟩) (.inr ⟨rfl, rfl⟩) hs1230) rfl rfl fun a hS => ?_)
            refine wl rfl (ky (v := .string s1230) hS (y_assign hS rfl) rfl rfl fun a hS => ?_)
            refine wpList_nil ?_
            try simp only [Exit.then, Exit.inBlock, ↓reduceIte, Nat.reduceEqDiff]
            exact ⟨(s1230, (text983 ++ ([IntKind.u8.wrap (ibit .or .i64 (shlI .i64 u1220 4) (ibit .and .i64 u1222 15))]))), (Option.some.inj hM).symm, s1230, (text983 ++ ([IntKind.u8.wrap (ibit .or .i64 (shlI .i64 u1220 4) (ibit .and .i64 u1222 15))])), v1227, cl1228, rfl, (hS.meet [0, 1] (by decide) ⟨rfl, rfl, rfl, rfl, rfl, trivial⟩ ⟨rfl, rfl, trivial⟩ ⟨⟨0, rfl⟩, ⟨4, rfl⟩, trivial⟩)⟩
      · replace hM := cf hb1112 hM
        refine c_f hS rfl hb1112 ?_
        refine wp_exit ?_
        try simp only [Exit.then, Exit.inBlock, ↓reduceIte, Nat.reduceEqDiff]
        injection hM with hM
        subst hM
        have hr := hf1 _ rfl
        subst hr
        have hM : key_Parse_j1 s_0 u566 text983 = some y := hMo1
        exact ⟨text983, v984, cl985, (hS.meet [0, 1] (by decide) ⟨rfl, rfl, rfl, rfl, trivial⟩ ⟨rfl, rfl, trivial⟩ ⟨⟨0, rfl⟩, ⟨1, rfl⟩, trivial⟩), hM⟩
    · rintro a w ⟨text834, v835, cl836, hS, hM⟩
      unfold key_Parse_j1 at hM
      refine wp_seq_k fun K64 hK64 => ?_
      refine r_list ?_
      refine wl rfl (ky (v := .int .i64 u566.1) hS (y_move hS rfl) rfl rfl fun a hS => ?_)
      refine wl rfl (ky (v := v835) hS (y_move hS rfl) rfl rfl fun a hS => ?_)
      refine wl rfl (ky (v := .string (strI text834)) hS (y_b2so hS rfl Tryd.underlying31 Tryd.underlying5 Tryd.underlying9 0 rfl 0 rfl (fun _ _ h => h)) rfl rfl fun a hS => ?_)
      refine wl rfl (ky (v := .agg #[.int .i64 u566.1, .string (strI text834)]) hS (y_build (ps := [(0, .tmp 59), (1, .tmp 61)]) hS pl28 ze28 rfl (us := [[.int .i64 u566.1], [.string (strI text834)]]) ⟨rfl, ⟨rfl, trivial⟩⟩ (ws := [.int .i64 u566.1, .string (strI text834)]) rfl) rfl rfl fun a hS => ?_)
      refine wl rfl (k_alloc hS ze28 rfl fun b838 hnb840 a w hk hS => ?_)
      refine wl rfl (k_store hS rfl rfl (us := [.int .i64 u566.1, .string (strI text834)]) rfl ty28 0 rfl rfl rfl (oc rfl (oc rfl on)) fun w hk hS => ?_)
      refine wpList_nil ?_
      try simp only [Exit.then, Exit.inBlock, ↓reduceIte, Nat.reduceEqDiff]
      refine hK64 _ _ ?_
      refine wp_seq_k fun K65 hK65 => ?_
      refine wp_seq_k fun K66 hK66 => ?_
      refine r_list ?_
      refine wl rfl (ky (v := .agg #[.int .i64 u566.1, .string (strI text834)]) hS (y_load hS rfl ty28 0 rfl id (us := [.int .i64 u566.1, .string (strI text834)]) rfl rfl (fun h => by cases h)) rfl rfl fun a hS => ?_)
      obtain ⟨u841, hu841, hM⟩ := bd hM
      refine wl rfl (k_call hS ci16 rfl rfl (key_Print_c _ _ hS.dlt (hS.get 1 rfl) (KeyD.mk u566.1 (strI text834)) _ hu841) fun _ w hR a hk hA => ?_)
      have he := Eq.symm hR
      subst he
      have hS := hA [] (fun r hr => by cases hr) List.Pairwise.nil
      refine wl rfl (ky (v := .string u841) hS (y_assign hS rfl) rfl rfl fun a hS => ?_)
      refine wpList_nil ?_
      try simp only [Exit.then, Exit.inBlock, ↓reduceIte, Nat.reduceEqDiff]
      refine hK66 _ _ ?_
      refine wp_seq_k fun K67 hK67 => ?_
      refine r_list ?_
      refine wl rfl (ky (v := .string u841) hS (y_move hS rfl) rfl rfl fun a hS => ?_)
      refine wl rfl (ky (v := .bool (u841.toList == (ByteArray.mk #[]).toList)) hS (y_str hS rfl rfl rfl) rfl rfl fun a hS => ?_)
      refine wl rfl (ky (v := .bool (u841.toList == (ByteArray.mk #[]).toList)) hS (y_move hS rfl) rfl rfl fun a hS => ?_)
      rcases bool2 (u841.toList == (ByteArray.mk #[]).toList) with hb844 | hb844
      · replace hM := ct hb844 hM
        refine wn hS rfl rfl rfl hb844 rfl rfl fun a hS => ?_
        refine wn hS rfl rfl rfl hb844 rfl rfl fun a hS => ?_
        refine wn hS rfl rfl rfl hb844 rfl rfl fun a hS => ?_
        refine wl rfl (ky (v := .bool true) hS (y_pickt hS rfl hb844 rfl) rfl rfl fun a hS => ?_)
        refine wpList_nil ?_
        try simp only [Exit.then, Exit.inBlock, ↓reduceIte, Nat.reduceEqDiff]
        refine hK67 _ _ ?_
        refine c_t hS rfl rfl ?_
        refine wp_seq_k fun K68 hK68 => ?_
        refine r_list ?_
        refine wl rfl (ky (v := .agg #[.int .i64 0, .string (ByteArray.mk #[])]) hS (y_build (ps := []) hS pl28 ze28 rfl (us := []) trivial (ws := [.int .i64 0, .string (ByteArray.mk #[])]) rfl) rfl rfl fun a hS => ?_)
        refine wl rfl (k_store hS rfl rfl (us := [.int .i64 0, .string (ByteArray.mk #[])]) rfl ty28 2 rfl rfl rfl (oc rfl (oc rfl on)) fun w hk hS => ?_)
        refine wl rfl (ky (v := .int .i64 5) hS (y_assign hS rfl) rfl rfl fun a hS => ?_)
        refine wpList_nil ?_
        try simp only [Exit.then, Exit.inBlock, ↓reduceIte, Nat.reduceEqDiff]
        refine hK68 _ _ ?_
        refine wp_ret ?_
        injection hM with hM
        subst hM
        try simp only [Exit.then, Exit.inBlock, ↓reduceIte, Nat.reduceEqDiff]
        refine ret_ok hS Tryd.results19 (res_cell hS rfl 2 rfl ty28 rfl (fun h => by cases h) (res_tmp hS rfl res_nil)) ?_
        exact rfl
      · replace hM := cf hb844 hM
        refine wg hS rfl rfl rfl hb844 (ky (v := .string u841) hS (y_move hS rfl) rfl rfl fun a hS => ?_)
        refine wg hS rfl rfl rfl hb844 (ky (v := .string s_0) hS (y_move hS rfl) rfl rfl fun a hS => ?_)
        refine wg hS rfl rfl rfl hb844 (ky (v := .bool (!(u841.toList == s_0.toList))) hS (y_str hS rfl rfl rfl) rfl rfl fun a hS => ?_)
        refine wl rfl (ky (v := .bool (!(u841.toList == s_0.toList))) hS (y_pickf hS rfl hb844 rfl) rfl rfl fun a hS => ?_)
        refine wpList_nil ?_
        try simp only [Exit.then, Exit.inBlock, ↓reduceIte, Nat.reduceEqDiff]
        refine hK67 _ _ ?_
        rcases bool2 (!(u841.toList == s_0.toList)) with hb845 | hb845
        · replace hM := ct hb845 hM
          refine c_t hS rfl hb845 ?_
          refine wp_seq_k fun K69 hK69 => ?_
          refine r_list ?_
          refine wl rfl (ky (v := .agg #[.int .i64 0, .string (ByteArray.mk #[])]) hS (y_build (ps := []) hS pl28 ze28 rfl (us := []) trivial (ws := [.int .i64 0, .string (ByteArray.mk #[])]) rfl) rfl rfl fun a hS => ?_)
          refine wl rfl (k_store hS rfl rfl (us := [.int .i64 0, .string (ByteArray.mk #[])]) rfl ty28 2 rfl rfl rfl (oc rfl (oc rfl on)) fun w hk hS => ?_)
          refine wl rfl (ky (v := .int .i64 5) hS (y_assign hS rfl) rfl rfl fun a hS => ?_)
          refine wpList_nil ?_
          try simp only [Exit.then, Exit.inBlock, ↓reduceIte, Nat.reduceEqDiff]
          refine hK69 _ _ ?_
          refine wp_ret ?_
          injection hM with hM
          subst hM
          try simp only [Exit.then, Exit.inBlock, ↓reduceIte, Nat.reduceEqDiff]
          refine ret_ok hS Tryd.results19 (res_cell hS rfl 2 rfl ty28 rfl (fun h => by cases h) (res_tmp hS rfl res_nil)) ?_
          exact rfl
        · replace hM := cf hb845 hM
          refine c_f hS rfl hb845 ?_
          refine wp_skip ?_
          try simp only [Exit.then, Exit.inBlock, ↓reduceIte, Nat.reduceEqDiff]
          refine hK65 _ _ ?_
          refine wp_seq_k fun K70 hK70 => ?_
          refine r_list ?_
          refine wl rfl (ky (v := .agg #[.int .i64 u566.1, .string (strI text834)]) hS (y_load hS rfl ty28 0 rfl id (us := [.int .i64 u566.1, .string (strI text834)]) rfl rfl (fun h => by cases h)) rfl rfl fun a hS => ?_)
          refine wl rfl (k_store hS rfl rfl (us := [.int .i64 u566.1, .string (strI text834)]) rfl ty28 2 rfl rfl rfl (oc rfl (oc rfl on)) fun w hk hS => ?_)
          refine wl rfl (ky (v := .int .i64 0) hS (y_assign hS rfl) rfl rfl fun a hS => ?_)
          refine wpList_nil ?_
          try simp only [Exit.then, Exit.inBlock, ↓reduceIte, Nat.reduceEqDiff]
          refine hK70 _ _ ?_
          refine wp_ret ?_
          injection hM with hM
          subst hM
          try simp only [Exit.then, Exit.inBlock, ↓reduceIte, Nat.reduceEqDiff]
          refine ret_ok hS Tryd.results19 (res_cell hS rfl 2 rfl ty28 rfl (fun h => by cases h) (res_tmp hS rfl res_nil)) ?_
          exact rfl

noncomputable def law23_awake_j1 (g87 : Bool) : Option Bool := some (g87)
noncomputable def law23_awake : Option Bool := (key_Parse (ByteArray.mk #[50, 58, 97, 37, 50, 48, 98])).bind fun u52 => cond ((u52.2 : Int) == 0) (cond ((u52.1.Kind : Int) == 2 && u52.1.Text.toList == (ByteArray.mk #[97, 32, 98]).toList) ((key_Print (KeyD.mk u52.1.Kind u52.1.Text)).bind fun u90 => cond (u90.toList == (ByteArray.mk #[50, 58, 97, 37, 50, 48, 98]).toList) ((key_Input (KeyD.mk u52.1.Kind u52.1.Text)).bind fun u93 => cond u93 ((key_Cyclic (KeyD.mk u52.1.Kind u52.1.Text)).bind fun u96 => cond (!(u96)) ((key_Cell 7).bind fun u99 => (key_Number u99).bind fun u101 => law23_awake_j1 ((u101 : Int) == 7)) (law23_awake_j1 false)) (law23_awake_j1 false)) (law23_awake_j1 false)) (law23_awake_j1 false)) (law23_awake_j1 false)
set_option maxRecDepth 100000 in
set_option maxHeartbeats 4000000 in
theorem law23_awake_c (T : Nat → Prop) (W0 : World) (hT : ∀ k, T k → k < W0.heap.size) (hLv : LvP T W0) (y : Bool) (hM : law23_awake = some y) : Rets Tryd.prog No 14 [] W0 (fun v w' => v = .bool y) := by
  refine enter (c := _) Tryd.func14 rfl T 33 Tryd.ntmps14 hT rfl fun a hS => ?_
  replace hS := hS.fact LvF (LvP.dn hLv)
  unfold law23_awake at hM
  refine wp_seq_k fun K3 hK3 => ?_
  refine r_list ?_
  refine wl rfl (ky (v := .bool false) hS (y_assign hS rfl) rfl rfl fun a hS => ?_)
  refine wpList_nil ?_
  try simp only [Exit.then, Exit.inBlock, ↓reduceIte, Nat.reduceEqDiff]
  refine hK3 _ _ ?_
  refine wp_seq_k fun K4 hK4 => ?_
  refine r_list ?_
  obtain ⟨u52, hu52, hM⟩ := bd hM
  refine wl rfl (k_call hS ci19 rfl rfl (key_Parse_c _ _ hS.dlt (hS.get 0 rfl) (ByteArray.mk #[50, 58, 97, 37, 50, 48, 98]) _ hu52) fun _ w hR a hk hA => ?_)
  have he := Eq.symm hR
  subst he
  have hS := hA [] (fun r hr => by cases hr) List.Pairwise.nil
  refine wl rfl (ky (v := .tuple #[.agg #[.int .i64 u52.1.Kind, .string u52.1.Text], .int .i64 u52.2]) hS (y_move hS rfl) rfl rfl fun a hS => ?_)
  refine wl rfl (ky (v := .agg #[.int .i64 u52.1.Kind, .string u52.1.Text]) hS (y_ex hS rfl rfl) rfl rfl fun a hS => ?_)
  refine wl rfl (ky (v := .int .i64 u52.2) hS (y_ex hS rfl rfl) rfl rfl fun a hS => ?_)
  refine wl rfl (k_alloc hS ze28 rfl fun b54 hnb56 a w hk hS => ?_)
  refine wl rfl (k_store hS rfl rfl (us := [.int .i64 u52.1.Kind, .string u52.1.Text]) rfl ty28 0 rfl rfl rfl (oc rfl (oc rfl on)) fun w hk hS => ?_)
  refine wl rfl (ky (v := .int .i64 u52.2) hS (y_assign hS rfl) rfl rfl fun a hS => ?_)
  refine wpList_nil ?_
  try simp only [Exit.then, Exit.inBlock, ↓reduceIte, Nat.reduceEqDiff]
  refine hK4 _ _ ?_
  refine seq_j (J := fun a w => ∃ (g87 : Bool), St W0 No T 33 [(0, .bool g87)] [] [LvF] a w ∧ law23_awake_j1 g87 = some y) ?_ ?_
  · skip
    refine r_list ?_
    refine wl rfl (ky (v := .int .i64 u52.2) hS (y_move hS rfl) rfl rfl fun a hS => ?_)
    refine wl rfl (ky (v := .bool ((u52.2 : Int) == 0)) hS (y_int hS rfl rfl rfl) rfl rfl fun a hS => ?_)
    refine wl rfl (ky (v := .bool ((u52.2 : Int) == 0)) hS (y_move hS rfl) rfl rfl fun a hS => ?_)
    rcases bool2 ((u52.2 : Int) == 0) with hb88 | hb88
    · replace hM := ct hb88 hM
      refine wg hS rfl rfl rfl hb88 (ky (v := .agg #[.int .i64 u52.1.Kind, .string u52.1.Text]) hS (y_load hS rfl ty28 0 rfl id (us := [.int .i64 u52.1.Kind, .string u52.1.Text]) rfl rfl (fun h => by cases h)) rfl rfl fun a hS => ?_)
      refine wg hS rfl rfl rfl hb88 (ky (v := .agg #[.int .i64 2, .string (ByteArray.mk #[97, 32, 98])]) hS (y_build (ps := [(0, .const (.int .i64 2)), (1, .const (.string ⟨#[97, 32, 98]⟩))]) hS pl28 ze28 rfl (us := [[.int .i64 2], [.string (ByteArray.mk #[97, 32, 98])]]) ⟨rfl, ⟨rfl, trivial⟩⟩ (ws := [.int .i64 2, .string (ByteArray.mk #[97, 32, 98])]) rfl) rfl rfl fun a hS => ?_)
      refine wg hS rfl rfl rfl hb88 (ky (v := .bool ((u52.1.Kind : Int) == 2 && u52.1.Text.toList == (ByteArray.mk #[97, 32, 98]).toList)) hS (eq28 hS rfl rfl) rfl rfl fun a hS => ?_)
      refine wl rfl (ky (v := .bool ((u52.1.Kind : Int) == 2 && u52.1.Text.toList == (ByteArray.mk #[97, 32, 98]).toList)) hS (y_pickt hS rfl hb88 rfl) rfl rfl fun a hS => ?_)
      refine wl rfl (ky (v := .bool ((u52.1.Kind : Int) == 2 && u52.1.Text.toList == (ByteArray.mk #[97, 32, 98]).toList)) hS (y_move hS rfl) rfl rfl fun a hS => ?_)
      rcases bool2 ((u52.1.Kind : Int) == 2 && u52.1.Text.toList == (ByteArray.mk #[97, 32, 98]).toList) with hb89 | hb89
      · replace hM := ct hb89 hM
        refine wg hS rfl rfl rfl hb89 (ky (v := .agg #[.int .i64 u52.1.Kind, .string u52.1.Text]) hS (y_load hS rfl ty28 0 rfl id (us := [.int .i64 u52.1.Kind, .string u52.1.Text]) rfl rfl (fun h => by cases h)) rfl rfl fun a hS => ?_)
        obtain ⟨u90, hu90, hM⟩ := bd hM
        refine wg hS rfl rfl rfl hb89 (k_call hS ci16 rfl rfl (key_Print_c _ _ hS.dlt (hS.get 0 rfl) (KeyD.mk u52.1.Kind u52.1.Text) _ hu90) fun _ w hR a hk hA => ?_)
        have he := Eq.symm hR
        subst he
        have hS := hA [] (fun r hr => by cases hr) List.Pairwise.nil
        refine wg hS rfl rfl rfl hb89 (ky (v := .bool (u90.toList == (ByteArray.mk #[50, 58, 97, 37, 50, 48, 98]).toList)) hS (y_str hS rfl rfl rfl) rfl rfl fun a hS => ?_)
        refine wl rfl (ky (v := .bool (u90.toList == (ByteArray.mk #[50, 58, 97, 37, 50, 48, 98]).toList)) hS (y_pickt hS rfl hb89 rfl) rfl rfl fun a hS => ?_)
        refine wl rfl (ky (v := .bool (u90.toList == (ByteArray.mk #[50, 58, 97, 37, 50, 48, 98]).toList)) hS (y_move hS rfl) rfl rfl fun a hS => ?_)
        rcases bool2 (u90.toList == (ByteArray.mk #[50, 58, 97, 37, 50, 48, 98]).toList) with hb92 | hb92
        · replace hM := ct hb92 hM
          refine wg hS rfl rfl rfl hb92 (ky (v := .agg #[.int .i64 u52.1.Kind, .string u52.1.Text]) hS (y_load hS rfl ty28 0 rfl id (us := [.int .i64 u52.1.Kind, .string u52.1.Text]) rfl rfl (fun h => by cases h)) rfl rfl fun a hS => ?_)
          obtain ⟨u93, hu93, hM⟩ := bd hM
          refine wg hS rfl rfl rfl hb92 (k_call hS ci25 rfl rfl (key_Input_c _ _ hS.dlt (KeyD.mk u52.1.Kind u52.1.Text) _ hu93) fun _ w hR a hk hA => ?_)
          have he := Eq.symm hR
          subst he
          have hS := hA [] (fun r hr => by cases hr) List.Pairwise.nil
          refine wl rfl (ky (v := .bool u93) hS (y_pickt hS rfl hb92 rfl) rfl rfl fun a hS => ?_)
          refine wl rfl (ky (v := .bool u93) hS (y_move hS rfl) rfl rfl fun a hS => ?_)
          rcases bool2 (u93) with hb95 | hb95
          · replace hM := ct hb95 hM
            refine wg hS rfl rfl rfl hb95 (ky (v := .agg #[.int .i64 u52.1.Kind, .string u52.1.Text]) hS (y_load hS rfl ty28 0 rfl id (us := [.int .i64 u52.1.Kind, .string u52.1.Text]) rfl rfl (fun h => by cases h)) rfl rfl fun a hS => ?_)
            obtain ⟨u96, hu96, hM⟩ := bd hM
            refine wg hS rfl rfl rfl hb95 (k_call hS ci27 rfl rfl (key_Cyclic_c _ _ hS.dlt (KeyD.mk u52.1.Kind u52.1.Text) _ hu96) fun _ w hR a hk hA => ?_)
            have he := Eq.symm hR
            subst he
            have hS := hA [] (fun r hr => by cases hr) List.Pairwise.nil
            refine wg hS rfl rfl rfl hb95 (ky (v := .bool (!(u96))) hS (y_not hS rfl) rfl rfl fun a hS => ?_)
            refine wl rfl (ky (v := .bool (!(u96))) hS (y_pickt hS rfl hb95 rfl) rfl rfl fun a hS => ?_)
            refine wl rfl (ky (v := .bool (!(u96))) hS (y_move hS rfl) rfl rfl fun a hS => ?_)
            rcases bool2 (!(u96)) with hb98 | hb98
            · replace hM := ct hb98 hM
              obtain ⟨u99, hu99, hM⟩ := bd hM
              refine wg hS rfl rfl rfl hb98 (k_call hS ci29 rfl rfl (key_Cell_c _ _ hS.dlt (hS.get 0 rfl) 7 _ hu99) fun _ w hR a hk hA => ?_)
              have he := Eq.symm hR
              subst he
              have hS := hA [] (fun r hr => by cases hr) List.Pairwise.nil
              obtain ⟨u101, hu101, hM⟩ := bd hM
              refine wg hS rfl rfl rfl hb98 (k_call hS ci23 rfl rfl (key_Number_c _ _ hS.dlt (hS.get 0 rfl) u99 _ hu101) fun _ w hR a hk hA => ?_)
              have he := Eq.symm hR
              subst he
              have hS := hA [] (fun r hr => by cases hr) List.Pairwise.nil
              refine wg hS rfl rfl rfl hb98 (ky (v := .bool ((u101 : Int) == 7)) hS (y_int hS rfl rfl rfl) rfl rfl fun a hS => ?_)
              refine wl rfl (ky (v := .bool ((u101 : Int) == 7)) hS (y_pickt hS rfl hb98 rfl) rfl rfl fun a hS => ?_)
              refine wl rfl (ky (v := .bool ((u101 : Int) == 7)) hS (y_assign hS rfl) rfl rfl fun a hS => ?_)
              refine wpList_nil ?_
              try simp only [Exit.then, Exit.inBlock, ↓reduceIte, Nat.reduceEqDiff]
              exact ⟨((u101 : Int) == 7), (hS.meet [] (by decide) ⟨rfl, trivial⟩ trivial ⟨⟨0, rfl⟩, trivial⟩), hM⟩
            · replace hM := cf hb98 hM
              refine wn hS rfl rfl rfl hb98 rfl rfl fun a hS => ?_
              refine wn hS rfl rfl rfl hb98 rfl rfl fun a hS => ?_
              refine wn hS rfl rfl rfl hb98 rfl rfl fun a hS => ?_
              refine wl rfl (ky (v := .bool false) hS (y_pickf hS rfl hb98 rfl) rfl rfl fun a hS => ?_)
              refine wl rfl (ky (v := .bool false) hS (y_assign hS rfl) rfl rfl fun a hS => ?_)
              refine wpList_nil ?_
              try simp only [Exit.then, Exit.inBlock, ↓reduceIte, Nat.reduceEqDiff]
              exact ⟨false, (hS.meet [] (by decide) ⟨rfl, trivial⟩ trivial ⟨⟨0, rfl⟩, trivial⟩), hM⟩
          · replace hM := cf hb95 hM
            refine wn hS rfl rfl rfl hb95 rfl rfl fun a hS => ?_
            refine wn hS rfl rfl rfl hb95 rfl rfl fun a hS => ?_
            refine wn hS rfl rfl rfl hb95 rfl rfl fun a hS => ?_
            refine wl rfl (ky (v := .bool false) hS (y_pickf hS rfl hb95 rfl) rfl rfl fun a hS => ?_)
            refine wl rfl (ky (v := .bool false) hS (y_move hS rfl) rfl rfl fun a hS => ?_)
            refine wn hS rfl rfl rfl rfl rfl rfl fun a hS => ?_
            refine wn hS rfl rfl rfl rfl rfl rfl fun a hS => ?_
            refine wn hS rfl rfl rfl rfl rfl rfl fun a hS => ?_
            refine wl rfl (ky (v := .bool false) hS (y_pickf hS rfl rfl rfl) rfl rfl fun a hS => ?_)
            refine wl rfl (ky (v := .bool false) hS (y_assign hS rfl) rfl rfl fun a hS => ?_)
            refine wpList_nil ?_
            try simp only [Exit.then, Exit.inBlock, ↓reduceIte, Nat.reduceEqDiff]
            exact ⟨false, (hS.meet [] (by decide) ⟨rfl, trivial⟩ trivial ⟨⟨0, rfl⟩, trivial⟩), hM⟩
        · replace hM := cf hb92 hM
          refine wn hS rfl rfl rfl hb92 rfl rfl fun a hS => ?_
          refine wn hS rfl rfl rfl hb92 rfl rfl fun a hS => ?_
          refine wl rfl (ky (v := .bool false) hS (y_pickf hS rfl hb92 rfl) rfl rfl fun a hS => ?_)
          refine wl rfl (ky (v := .bool false) hS (y_move hS rfl) rfl rfl fun a hS => ?_)
          refine wn hS rfl rfl rfl rfl rfl rfl fun a hS => ?_
          refine wn hS rfl rfl rfl rfl rfl rfl fun a hS => ?_
          refine wn hS rfl rfl rfl rfl rfl rfl fun a hS => ?_
          refine wl rfl (ky (v := .bool false) hS (y_pickf hS rfl rfl rfl) rfl rfl fun a hS => ?_)
          refine wl rfl (ky (v := .bool false) hS (y_move hS rfl) rfl rfl fun a hS => ?_)
          refine wn hS rfl rfl rfl rfl rfl rfl fun a hS => ?_
          refine wn hS rfl rfl rfl rfl rfl rfl fun a hS => ?_
          refine wn hS rfl rfl rfl rfl rfl rfl fun a hS => ?_
          refine wl rfl (ky (v := .bool false) hS (y_pickf hS rfl rfl rfl) rfl rfl fun a hS => ?_)
          refine wl rfl (ky (v := .bool false) hS (y_assign hS rfl) rfl rfl fun a hS => ?_)
          refine wpList_nil ?_
          try simp only [Exit.then, Exit.inBlock, ↓reduceIte, Nat.reduceEqDiff]
          exact ⟨false, (hS.meet [] (by decide) ⟨rfl, trivial⟩ trivial ⟨⟨0, rfl⟩, trivial⟩), hM⟩
      · replace hM := cf hb89 hM
        refine wn hS rfl rfl rfl hb89 rfl rfl fun a hS => ?_
        refine wn hS rfl rfl rfl hb89 rfl rfl fun a hS => ?_
        refine wn hS rfl rfl rfl hb89 rfl rfl fun a hS => ?_
        refine wl rfl (ky (v := .bool false) hS (y_pickf hS rfl hb89 rfl) rfl rfl fun a hS => ?_)
        refine wl rfl (ky (v := .bool false) hS (y_move hS rfl) rfl rfl fun a hS => ?_)
        refine wn hS rfl rfl rfl rfl rfl rfl fun a hS => ?_
        refine wn hS rfl rfl rfl rfl rfl rfl fun a hS => ?_
        refine wl rfl (ky (v := .bool false) hS (y_pickf hS rfl rfl rfl) rfl rfl fun a hS => ?_)
        refine wl rfl (ky (v := .bool false) hS (y_move hS rfl) rfl rfl fun a hS => ?_)
        refine wn hS rfl rfl rfl rfl rfl rfl fun a hS => ?_
        refine wn hS rfl rfl rfl rfl rfl rfl fun a hS => ?_
        refine wn hS rfl rfl rfl rfl rfl rfl fun a hS => ?_
        refine wl rfl (ky (v := .bool false) hS (y_pickf hS rfl rfl rfl) rfl rfl fun a hS => ?_)
        refine wl rfl (ky (v := .bool false) hS (y_move hS rfl) rfl rfl fun a hS => ?_)
        refine wn hS rfl rfl rfl rfl rfl rfl fun a hS => ?_
        refine wn hS rfl rfl rfl rfl rfl rfl fun a hS => ?_
        refine wn hS rfl rfl rfl rfl rfl rfl fun a hS => ?_
        refine wl rfl (ky (v := .bool false) hS (y_pickf hS rfl rfl rfl) rfl rfl fun a hS => ?_)
        refine wl rfl (ky (v := .bool false) hS (y_assign hS rfl) rfl rfl fun a hS => ?_)
        refine wpList_nil ?_
        try simp only [Exit.then, Exit.inBlock, ↓reduceIte, Nat.reduceEqDiff]
        exact ⟨false, (hS.meet [] (by decide) ⟨rfl, trivial⟩ trivial ⟨⟨0, rfl⟩, trivial⟩), hM⟩
    · replace hM := cf hb88 hM
      refine wn hS rfl rfl rfl hb88 rfl rfl fun a hS => ?_
      refine wn hS rfl rfl rfl hb88 rfl rfl fun a hS => ?_
      refine wn hS rfl rfl rfl hb88 rfl rfl fun a hS => ?_
      refine wl rfl (ky (v := .bool false) hS (y_pickf hS rfl hb88 rfl) rfl rfl fun a hS => ?_)
      refine wl rfl (ky (v := .bool false) hS (y_move hS rfl) rfl rfl fun a hS => ?_)
      refine wn hS rfl rfl rfl rfl rfl rfl fun a hS => ?_
      refine wn hS rfl rfl rfl rfl rfl rfl fun a hS => ?_
      refine wn hS rfl rfl rfl rfl rfl rfl fun a hS => ?_
      refine wl rfl (ky (v := .bool false) hS (y_pickf hS rfl rfl rfl) rfl rfl fun a hS => ?_)
      refine wl rfl (ky (v := .bool false) hS (y_move hS rfl) rfl rfl fun a hS => ?_)
      refine wn hS rfl rfl rfl rfl rfl rfl fun a hS => ?_
      refine wn hS rfl rfl rfl rfl rfl rfl fun a hS => ?_
      refine wl rfl (ky (v := .bool false) hS (y_pickf hS rfl rfl rfl) rfl rfl fun a hS => ?_)
      refine wl rfl (ky (v := .bool false) hS (y_move hS rfl) rfl rfl fun a hS => ?_)
      refine wn hS rfl rfl rfl rfl rfl rfl fun a hS => ?_
      refine wn hS rfl rfl rfl rfl rfl rfl fun a hS => ?_
      refine wn hS rfl rfl rfl rfl rfl rfl fun a hS => ?_
      refine wl rfl (ky (v := .bool false) hS (y_pickf hS rfl rfl rfl) rfl rfl fun a hS => ?_)
      refine wl rfl (ky (v := .bool false) hS (y_move hS rfl) rfl rfl fun a hS => ?_)
      refine wn hS rfl rfl rfl rfl rfl rfl fun a hS => ?_
      refine wn hS rfl rfl rfl rfl rfl rfl fun a hS => ?_
      refine wn hS rfl rfl rfl rfl rfl rfl fun a hS => ?_
      refine wl rfl (ky (v := .bool false) hS (y_pickf hS rfl rfl rfl) rfl rfl fun a hS => ?_)
      refine wl rfl (ky (v := .bool false) hS (y_assign hS rfl) rfl rfl fun a hS => ?_)
      refine wpList_nil ?_
      try simp only [Exit.then, Exit.inBlock, ↓reduceIte, Nat.reduceEqDiff]
      exact ⟨false, (hS.meet [] (by decide) ⟨rfl, trivial⟩ trivial ⟨⟨0, rfl⟩, trivial⟩), hM⟩
  · rintro a w ⟨g87, hS, hM⟩
    unfold law23_awake_j1 at hM
    refine wp_ret ?_
    injection hM with hM
    subst hM
    try simp only [Exit.then, Exit.inBlock, ↓reduceIte, Nat.reduceEqDiff]
    refine ret_ok hS Tryd.results14 (res_tmp hS rfl res_nil) ?_
    exact rfl
end Go.Proofs.YtjoilbmkcknnfaaDoor
