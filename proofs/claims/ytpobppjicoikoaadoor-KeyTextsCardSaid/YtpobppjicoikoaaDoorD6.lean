/- What functions of the program compute; that they do. -/
import Derived.Test.YtpobppjicoikoaaDoorTD6
import Derived.Test.YtpobppjicoikoaaDoorD1
import Derived.Test.YtpobppjicoikoaaDoorD2
set_option linter.unusedVariables false
set_option linter.unusedSimpArgs false
namespace Go.Proofs.YtpobppjicoikoaaDoor
open Go.RowKit
noncomputable def law23_keys_j1 (l172 : (List KeyD)) : Option (List KeyD) := some (l172)
noncomputable def law23_keys_l2 (l200 : (List KeyD)) (k204 : Int) (g205 : (List Int)) (g207 : Int) : Option (Fl ((List KeyD) × Int × (List Int) × Int) ((List KeyD))) := cond (decide ((0 : Int) < k204)) ((dice_Next (DiceD.mk g205 g207) 4).bind fun u231 => (dice_Word (DiceD.mk u231.2.L u231.2.At) ([(ByteArray.mk #[]), (ByteArray.mk #[97]), (ByteArray.mk #[98]), (ByteArray.mk #[97, 98]), (ByteArray.mk #[97, 32, 98]), (ByteArray.mk #[37]), (ByteArray.mk #[255]), (ByteArray.mk #[195, 169])])).bind fun u235 => gd (roomB (l200.length + ([(KeyD.mk (IntKind.i64.wrap (1 + u231.1)) u235.1)]).length)) <| some (.go ((l200 ++ ([(KeyD.mk (IntKind.i64.wrap (1 + u231.1)) u235.1)])), IntKind.i64.wrap (k204 - 1), u235.2.L, u235.2.At))) (some (.out l200))
noncomputable def law23_keys (t_0 : (List Int)) : Option (List KeyD) := (mill_Roll t_0).bind fun u116 => (dice_Next u116 12).bind fun u176 => (loop (fun s : (List KeyD) × Int × (List Int) × Int => law23_keys_l2 s.1 s.2.1 s.2.2.1 s.2.2.2) (([] : List KeyD), u176.1, u176.2.L, u176.2.At)).bind fun r => law23_keys_j1 r
set_option maxRecDepth 100000 in
set_option maxHeartbeats 4000000 in
theorem law23_keys_c (T : Nat → Prop) (W0 : World) (hT : ∀ k, T k → k < W0.heap.size) (t_0 : (List Int)) (v1 : Value) (hv1 : SlR (Rep.int .i64) T W0 v1 t_0) (y : (List KeyD)) (hM : law23_keys t_0 = some y) : Rets Tryd.prog No 15 [v1] W0 (fun v w' => ∃ (v2 : Value) (cl3 : List Value), v = v2 ∧ OwnR R_KeyD T W0 w' [.own v2 28 R_KeyD.size cl3] 28 v2 cl3 y) := by
  refine enter (c := _) Tryd.func15 rfl T 25 Tryd.ntmps15 hT rfl fun a hS => ?_
  replace hS := hS.fact (SlF (Rep.int .i64) v1 t_0) (SlR.dn hv1)
  unfold law23_keys at hM
  refine wp_seq_k fun K19 hK19 => ?_
  refine r_list ?_
  refine wl rfl (ky (v := .slice none 0 0) hS (y_assign hS rfl) rfl rfl fun a hS => ?_)
  refine wpList_nil ?_
  try simp only [Exit.then, Exit.inBlock, ↓reduceIte, Nat.reduceEqDiff]
  refine hK19 _ _ ?_
  refine wp_seq_k fun K20 hK20 => ?_
  refine r_list ?_
  refine wl rfl (ky (v := v1) hS (y_move hS rfl) rfl rfl fun a hS => ?_)
  obtain ⟨u116, hu116, hM⟩ := bd hM
  refine wl rfl (k_call hS ci40 rfl rfl (mill_Roll_c _ _ hS.dlt t_0 _ (hS.get 0 rfl) _ hu116) fun _ w hR a hk hA => ?_)
  obtain ⟨bz117_2, vz117_3, he, hFbz117_2, hObz117_2, hRvz117_3⟩ := hR
  replace he := he.symm
  subst he
  have hS := hA [.box bz117_2 [vz117_3, .int .i64 u116.At] 101] (adds1 hObz117_2 (fun k hk => by simp only [Res.dom, Option.some.injEq] at hk; omega)) (pw1 _)
  replace hS := hS.fact (SlF (Rep.int .i64) vz117_3 u116.L) (hRvz117_3.sub (dT_dT _))
  refine wl rfl (ky (v := .pointer (some ⟨bz117_2, 0, none⟩)) hS (y_assign hS rfl) rfl rfl fun a hS => ?_)
  refine wpList_nil ?_
  try simp only [Exit.then, Exit.inBlock, ↓reduceIte, Nat.reduceEqDiff]
  refine hK20 _ _ ?_
  refine wp_seq_k fun K21 hK21 => ?_
  refine r_list ?_
  refine wl rfl (ky (v := .slice none 0 0) hS (y_assign hS rfl) rfl rfl fun a hS => ?_)
  refine wpList_nil ?_
  try simp only [Exit.then, Exit.inBlock, ↓reduceIte, Nat.reduceEqDiff]
  refine hK21 _ _ ?_
  refine seq_j (J := fun a w => ∃ (l172 : (List KeyD)) (v173 : Value) (cl174 : (List Value)), St W0 No T 25 [(4, v173)] [.own v173 28 R_KeyD.size cl174] [RowsF R_KeyD cl174 l172] a w ∧ law23_keys_j1 l172 = some y) ?_ ?_
  · skip
    refine wp_seq_k fun K30 hK30 => ?_
    refine r_list ?_
    refine wl rfl (ky (v := .pointer (some ⟨bz117_2, 0, none⟩)) hS (y_move hS rfl) rfl rfl fun a hS => ?_)
    obtain ⟨u176, hu176, hM⟩ := bd hM
    refine wl rfl (k_callm hS ci48 rfl rfl 0 rfl (dice_Next_c _ _ (hS.drop 0).dlt u116 12 _ _ (hS.boxRow 0 rfl) (hS.notin 0 rfl) (SlR.lent (i := 0) rfl (hS.get 0 rfl)) _ hu176) fun _ w hR hk => ?_)
    obtain ⟨vz177_3, he, hrow, hRvz177_3⟩ := hR
    replace he := he.symm
    subst he
    refine ⟨[vz177_3, .int .i64 u176.2.At], hrow, fun a hS => ?_⟩
    replace hS := hS.fact (SlF (Rep.int .i64) vz177_3 u176.2.L) (SlR.back (i := 0) rfl hRvz177_3)
    refine wl rfl (ky (v := .int .i64 u176.1) hS (y_assign hS rfl) rfl rfl fun a hS => ?_)
    refine wpList_nil ?_
    try simp only [Exit.then, Exit.inBlock, ↓reduceIte, Nat.reduceEqDiff]
    refine hK30 _ _ ?_
    refine wp_block ?_
    replace hS := hS.nilRow R_KeyD 28 (by decide)
    obtain ⟨r1, hl1, hMo1⟩ := bd hM
    refine wp_lp (fun s : (List KeyD) × Int × (List Int) × Int => law23_keys_l2 s.1 s.2.1 s.2.2.1 s.2.2.2) (fun s a w => ∃ (l200 : (List KeyD)) (k204 : Int) (g205 : (List Int)) (g207 : Int) (v201 : Value) (cl202 : (List Value)) (v206 : Value), (l200, k204, g205, g207) = s ∧ St W0 No T 25 [(3, .pointer (some ⟨bz117_2, 0, none⟩)), (4, v201), (5, .int .i64 k204)] [.own v201 28 R_KeyD.size cl202, .box bz117_2 [v206, .int .i64 g207] 101] [RowsF R_KeyD cl202 l200, SlF (Rep.int .i64) v206 g205] a w) hl1 ⟨([] : List KeyD), u176.1, u176.2.L, u176.2.At, (.slice none 0 0), ([]), vz177_3, rfl, (hS.meet [0, 1] (by decide) ⟨rfl, rfl, rfl, trivial⟩ ⟨rfl, rfl, trivial⟩ ⟨⟨0, rfl⟩, ⟨1, rfl⟩, trivial⟩)⟩ ?_
    rintro s a w f1 ⟨l200, k204, g205, g207, v201, cl202, v206, rfl, hS⟩ hM hf1
    have hM : law23_keys_l2 l200 k204 g205 g207 = some f1 := hM
    unfold law23_keys_l2 at hM
    refine wp_seq_k fun K37 hK37 => ?_
    refine wp_seq_k fun K38 hK38 => ?_
    refine r_list ?_
    refine wl rfl (ky (v := .int .i64 k204) hS (y_move hS rfl) rfl rfl fun a hS => ?_)
    refine wl rfl (ky (v := .bool (decide ((0 : Int) < k204))) hS (y_int hS rfl rfl rfl) rfl rfl fun a hS => ?_)
    refine wpList_nil ?_
    try simp only [Exit.then, Exit.inBlock, ↓reduceIte, Nat.reduceEqDiff]
    refine hK38 _ _ ?_
    rcases bool2 (decide ((0 : Int) < k204)) with hb230 | hb230
    · replace hM := ct hb230 hM
      refine c_t hS rfl hb230 ?_
      refine wp_skip ?_
      try simp only [Exit.then, Exit.inBlock, ↓reduceIte, Nat.reduceEqDiff]
      refine hK37 _ _ ?_
      refine wp_seq_k fun K39 hK39 => ?_
      refine wp_block ?_
      refine r_list ?_
      refine wl rfl (ky (v := v201) hS (y_move hS rfl) rfl rfl fun a hS => ?_)
      refine wl rfl (ky (v := .pointer (some ⟨bz117_2, 0, none⟩)) hS (y_move hS rfl) rfl rfl fun a hS => ?_)
      obtain ⟨u231, hu231, hM⟩ := bd hM
      refine wl rfl (k_callm hS ci48 rfl rfl 1 rfl (dice_Next_c _ _ (hS.drop 1).dlt (DiceD.mk g205 g207) 4 _ _ (hS.boxRow 1 rfl) (hS.notin 1 rfl) (SlR.lent (i := 1) rfl (hS.get 1 rfl)) _ hu231) fun _ w hR hk => ?_)
      obtain ⟨vz232_3, he, hrow, hRvz232_3⟩ := hR
      replace he := he.symm
      subst he
      refine ⟨[vz232_3, .int .i64 u231.2.At], hrow, fun a hS => ?_⟩
      replace hS := hS.fact (SlF (Rep.int .i64) vz232_3 u231.2.L) (SlR.back (i := 1) rfl hRvz232_3)
      refine wl rfl (ky (v := .int .i64 (IntKind.i64.wrap (1 + u231.1))) hS (y_int hS rfl rfl rfl) rfl rfl fun a hS => ?_)
      refine wl rfl (ky (v := .pointer (some ⟨bz117_2, 0, none⟩)) hS (y_move hS rfl) rfl rfl fun a hS => ?_)
      refine wl rfl (k_bslice (ps := [(0, .const (.string ⟨#[]⟩)), (1, .const (.string ⟨#[97]⟩)), (2, .const (.string ⟨#[98]⟩)), (3, .const (.string ⟨#[97, 98]⟩)), (4, .const (.string ⟨#[97, 32, 98]⟩)), (5, .const (.string ⟨#[37]⟩)), (6, .const (.string ⟨#[255]⟩)), (7, .const (.string ⟨#[195, 169]⟩))]) hS el32 ze9 (zl := [.string (ByteArray.mk #[]), .string (ByteArray.mk #[]), .string (ByteArray.mk #[]), .string (ByteArray.mk #[]), .string (ByteArray.mk #[]), .string (ByteArray.mk #[]), .string (ByteArray.mk #[]), .string (ByteArray.mk #[])]) (by kernel_rfl) rfl (us := [[.string (ByteArray.mk #[])], [.string (ByteArray.mk #[97])], [.string (ByteArray.mk #[98])], [.string (ByteArray.mk #[97, 98])], [.string (ByteArray.mk #[97, 32, 98])], [.string (ByteArray.mk #[37])], [.string (ByteArray.mk #[255])], [.string (ByteArray.mk #[195, 169])]]) ⟨rfl, ⟨rfl, ⟨rfl, ⟨rfl, ⟨rfl, ⟨rfl, ⟨rfl, ⟨rfl, trivial⟩⟩⟩⟩⟩⟩⟩⟩ (ws := [.string (ByteArray.mk #[]), .string (ByteArray.mk #[97]), .string (ByteArray.mk #[98]), .string (ByteArray.mk #[97, 98]), .string (ByteArray.mk #[97, 32, 98]), .string (ByteArray.mk #[37]), .string (ByteArray.mk #[255]), .string (ByteArray.mk #[195, 169])]) rfl rfl rfl rfl fun b233 a w hk hS => ?_)
      replace hS := hS.lit (R := Rep.str) (us := [.string (ByteArray.mk #[]), .string (ByteArray.mk #[97]), .string (ByteArray.mk #[98]), .string (ByteArray.mk #[97, 98]), .string (ByteArray.mk #[97, 32, 98]), .string (ByteArray.mk #[37]), .string (ByteArray.mk #[255]), .string (ByteArray.mk #[195, 169])]) (xs := [(ByteArray.mk #[]), (ByteArray.mk #[97]), (ByteArray.mk #[98]), (ByteArray.mk #[97, 98]), (ByteArray.mk #[97, 32, 98]), (ByteArray.mk #[37]), (ByteArray.mk #[255]), (ByteArray.mk #[195, 169])]) 0 rfl (by decide) ((RowsOk.one_ (R := Rep.str) (x := (ByteArray.mk #[])) rfl).append ((RowsOk.one_ (R := Rep.str) (x := (ByteArray.mk #[97])) rfl).append ((RowsOk.one_ (R := Rep.str) (x := (ByteArray.mk #[98])) rfl).append ((RowsOk.one_ (R := Rep.str) (x := (ByteArray.mk #[97, 98])) rfl).append ((RowsOk.one_ (R := Rep.str) (x := (ByteArray.mk #[97, 32, 98])) rfl).append ((RowsOk.one_ (R := Rep.str) (x := (ByteArray.mk #[37])) rfl).append ((RowsOk.one_ (R := Rep.str) (x := (ByteArray.mk #[255])) rfl).append (RowsOk.one_ (R := Rep.str) (x := (ByteArray.mk #[195, 169])) rfl)))))))) rfl rfl
      replace hS := hS.freeze (R := Rep.str) 0 rfl 0 rfl
      obtain ⟨u235, hu235, hM⟩ := bd hM
      refine wl rfl (k_callm hS ci60 rfl rfl 1 rfl (dice_Word_c _ _ (hS.drop 1).dlt (DiceD.mk u231.2.L u231.2.At) ([(ByteArray.mk #[]), (ByteArray.mk #[97]), (ByteArray.mk #[98]), (ByteArray.mk #[97, 98]), (ByteArray.mk #[97, 32, 98]), (ByteArray.mk #[37]), (ByteArray.mk #[255]), (ByteArray.mk #[195, 169])]) _ _ _ (hS.boxRow 1 rfl) (hS.notin 1 rfl) (SlR.lent (i := 1) rfl (hS.get 2 rfl)) (SlR.lent (i := 1) rfl (hS.get 0 rfl)) _ hu235) fun _ w hR hk => ?_)
      obtain ⟨vz236_4, he, hrow, hRvz236_4⟩ := hR
      replace he := he.symm
      subst he
      refine ⟨[vz236_4, .int .i64 u235.2.At], hrow, fun a hS => ?_⟩
      replace hS := hS.fact (SlF (Rep.int .i64) vz236_4 u235.2.L) (SlR.back (i := 1) rfl hRvz236_4)
      refine wl rfl (ky (v := .agg #[.int .i64 (IntKind.i64.wrap (1 + u231.1)), .string u235.1]) hS (y_build (ps := [(0, .tmp 17), (1, .tmp 20)]) hS pl28 ze28 rfl (us := [[.int .i64 (IntKind.i64.wrap (1 + u231.1))], [.string u235.1]]) ⟨rfl, ⟨rfl, trivial⟩⟩ (ws := [.int .i64 (IntKind.i64.wrap (1 + u231.1)), .string u235.1]) rfl) rfl rfl fun a hS => ?_)
      refine wl rfl (k_bslice (ps := [(0, .tmp 21)]) hS el22 ze28 (zl := [.int .i64 0, .string (ByteArray.mk #[])]) (by kernel_rfl) rfl (us := [[.int .i64 (IntKind.i64.wrap (1 + u231.1)), .string u235.1]]) ⟨rfl, trivial⟩ (ws := [.int .i64 (IntKind.i64.wrap (1 + u231.1)), .string u235.1]) rfl rfl rfl rfl fun b237 a w hk hS => ?_)
      replace hS := hS.lit (R := R_KeyD) (us := [.int .i64 (IntKind.i64.wrap (1 + u231.1)), .string u235.1]) (xs := [(KeyD.mk (IntKind.i64.wrap (1 + u231.1)) u235.1)]) 0 rfl (by decide) (RowsOk.one_ (R := R_KeyD) (x := (KeyD.mk (IntKind.i64.wrap (1 + u231.1)) u235.1)) rfl) rfl rfl
      replace hS := hS.freeze (R := R_KeyD) 0 rfl 0 rfl
      obtain ⟨hg239, hM⟩ := gd_some hM
      refine wl rfl (k_apps (R := R_KeyD) (xs := l200) (ys := [(KeyD.mk (IntKind.i64.wrap (1 + u231.1)) u235.1)]) hS el22 (by decide) (by decide) rfl rfl 0 rfl 6 rfl 0 rfl hg239 rfl fun v240 cl241 a w hk hS => ?_)
      refine wl rfl (ky (v := v240) hS (y_assign hS rfl) rfl rfl fun a hS => ?_)
      refine wpList_nil ?_
      try simp only [Exit.then, Exit.inBlock, ↓reduceIte, Nat.reduceEqDiff]
      refine hK39 _ _ ?_
      refine r_list ?_
      refine wl rfl (ky (v := .int .i64 k204) hS (y_move hS rfl) rfl rfl fun a hS => ?_)
      refine wl rfl (ky (v := .int .i64 (IntKind.i64.wrap (k204 - 1))) hS (y_int hS rfl rfl rfl) rfl rfl fun a hS => ?_)
      refine wl rfl (ky (v := .int .i64 (IntKind.i64.wrap (k204 - 1))) hS (y_assign hS rfl) rfl rfl fun a hS => ?_)
      refine wpList_nil ?_
      try simp only [Exit.then, Exit.inBlock, ↓reduceIte, Nat.reduceEqDiff]
      exact ⟨((l200 ++ ([(KeyD.mk (IntKind.i64.wrap (1 + u231.1)) u235.1)])), IntKind.i64.wrap (k204 - 1), u235.2.L, u235.2.At), (Option.some.inj hM).symm, (l200 ++ ([(KeyD.mk (IntKind.i64.wrap (1 + u231.1)) u235.1)])), (IntKind.i64.wrap (k204 - 1)), u235.2.L, u235.2.At, v240, cl241, vz236_4, rfl, (hS.meet [0, 1] (by decide) ⟨rfl, rfl, rfl, trivial⟩ ⟨rfl, rfl, trivial⟩ ⟨⟨0, rfl⟩, ⟨3, rfl⟩, trivial⟩)⟩
    · replace hM := cf hb230 hM
      refine c_f hS rfl hb230 ?_
      refine wp_exit ?_
      try simp only [Exit.then, Exit.inBlock, ↓reduceIte, Nat.reduceEqDiff]
      injection hM with hM
      subst hM
      have hr := hf1 _ rfl
      subst hr
      have hM : law23_keys_j1 l200 = some y := hMo1
      exact ⟨l200, v201, cl202, (hS.meet [0] (by decide) ⟨rfl, trivial⟩ ⟨rfl, trivial⟩ ⟨⟨0, rfl⟩, trivial⟩), hM⟩
  · rintro a w ⟨l172, v173, cl174, hS, hM⟩
    unfold law23_keys_j1 at hM
    refine wp_seq_k fun K29 hK29 => ?_
    refine r_list ?_
    refine wl rfl (ky (v := v173) hS (y_move hS rfl) rfl rfl fun a hS => ?_)
    refine wl rfl (ky (v := v173) hS (y_assign hS rfl) rfl rfl fun a hS => ?_)
    refine wpList_nil ?_
    try simp only [Exit.then, Exit.inBlock, ↓reduceIte, Nat.reduceEqDiff]
    refine hK29 _ _ ?_
    refine wp_ret ?_
    injection hM with hM
    subst hM
    try simp only [Exit.then, Exit.inBlock, ↓reduceIte, Nat.reduceEqDiff]
    refine ret_ok hS Tryd.results15 (res_tmp hS rfl res_nil) ?_
    exact ⟨v173, cl174, rfl, hS.retOwn ⟨.inr (List.mem_of_getElem? (i := 0) rfl), trivial⟩ 0 rfl 0 rfl⟩

noncomputable def ref23_Print_j1 (out489 : (List Int)) : Option ByteArray := some ((strI out489))
noncomputable def ref23_Print_j2 (i569 : Int) (out674 : (List Int)) : Option (Fl ((List Int) × Int) ((List Int))) := some (.go (out674, IntKind.i64.wrap (i569 + 1)))
noncomputable def ref23_Print_j3 (out565 : (List Int)) (i569 : Int) (c678 : UInt8) (g683 : Bool) : Option (Fl ((List Int) × Int) ((List Int))) := cond g683 ((getI (ByteArray.mk #[48, 49, 50, 51, 52, 53, 54, 55, 56, 57, 65, 66, 67, 68, 69, 70]).toList (shrI .u8 (c678.toNat : Int) 4)).bind fun c693 => (getI (ByteArray.mk #[48, 49, 50, 51, 52, 53, 54, 55, 56, 57, 65, 66, 67, 68, 69, 70]).toList (ibit .and .u8 (c678.toNat : Int) 15)).bind fun c694 => gd (roomB (out565.length + ([37, (c693.toNat : Int), (c694.toNat : Int)]).length)) <| ref23_Print_j2 i569 (out565 ++ ([37, (c693.toNat : Int), (c694.toNat : Int)]))) (gd (roomB (out565.length + ([(c678.toNat : Int)]).length)) <| ref23_Print_j2 i569 (out565 ++ ([(c678.toNat : Int)])))
noncomputable def ref23_Print_l4 (k_0 : KeyD) (out565 : (List Int)) (i569 : Int) : Option (Fl ((List Int) × Int) ((List Int))) := cond (decide ((i569 : Int) < (k_0.Text.size : Int))) ((getI k_0.Text.toList i569).bind fun c678 => cond (decide (((c678.toNat : Int) : Int) < 33)) (ref23_Print_j3 out565 i569 c678 true) (cond (decide ((126 : Int) < (c678.toNat : Int))) (ref23_Print_j3 out565 i569 c678 true) (ref23_Print_j3 out565 i569 c678 (((c678.toNat : Int) : Int) == 37)))) (some (.out out565))
noncomputable def ref23_Print (k_0 : KeyD) : Option ByteArray := (ref23_Valid k_0).bind fun u330 => cond (!(u330)) (some ((ByteArray.mk #[]))) ((itoaM k_0.Kind).bind fun u333 => gd (Nat.ble (u333.size + (ByteArray.mk #[58]).size) 140737488355328) <| gd (roomB (u333 ++ (ByteArray.mk #[58])).size) <| (loop (fun s : (List Int) × Int => ref23_Print_l4 k_0 s.1 s.2) ((bytesI (u333 ++ (ByteArray.mk #[58]))), 0)).bind fun r => ref23_Print_j1 r)
set_option maxRecDepth 100000 in
set_option maxHeartbeats 4000000 in
theorem ref23_Print_c (T : Nat → Prop) (W0 : World) (hT : ∀ k, T k → k < W0.heap.size) (hLv : LvP T W0) (k_0 : KeyD) (y : ByteArray) (hM : ref23_Print k_0 = some y) : Rets Tryd.prog No 17 [.agg #[.int .i64 k_0.Kind, .string k_0.Text]] W0 (fun v w' => v = .string y) := by
  refine enter (c := _) Tryd.func17 rfl T 50 Tryd.ntmps17 hT rfl fun a hS => ?_
  replace hS := hS.fact LvF (LvP.dn hLv)
  unfold ref23_Print at hM
  refine wp_seq_k fun K25 hK25 => ?_
  refine r_list ?_
  refine wl rfl (k_box hS rfl (cs := [.int .i64 k_0.Kind, .string k_0.Text]) rfl rfl fun b327 hnb329 a w hk hS => ?_)
  refine wl rfl (ky (v := .string (ByteArray.mk #[])) hS (y_assign hS rfl) rfl rfl fun a hS => ?_)
  refine wpList_nil ?_
  try simp only [Exit.then, Exit.inBlock, ↓reduceIte, Nat.reduceEqDiff]
  refine hK25 _ _ ?_
  refine wp_seq_k fun K26 hK26 => ?_
  refine wp_seq_k fun K27 hK27 => ?_
  refine r_list ?_
  refine wl rfl (ky (v := .agg #[.int .i64 k_0.Kind, .string k_0.Text]) hS (y_load hS rfl ty28 0 rfl id (us := [.int .i64 k_0.Kind, .string k_0.Text]) rfl rfl (fun h => by cases h)) rfl rfl fun a hS => ?_)
  obtain ⟨u330, hu330, hM⟩ := bd hM
  refine wl rfl (k_call hS ci22 rfl rfl (ref23_Valid_c _ _ hS.dlt k_0 _ hu330) fun _ w hR a hk hA => ?_)
  have he := Eq.symm hR
  subst he
  have hS := hA [] (fun r hr => by cases hr) List.Pairwise.nil
  refine wl rfl (ky (v := .bool (!(u330))) hS (y_not hS rfl) rfl rfl fun a hS => ?_)
  refine wpList_nil ?_
  try simp only [Exit.then, Exit.inBlock, ↓reduceIte, Nat.reduceEqDiff]
  refine hK27 _ _ ?_
  rcases bool2 (!(u330)) with hb332 | hb332
  · replace hM := ct hb332 hM
    refine c_t hS rfl hb332 ?_
    refine wp_seq_k fun K28 hK28 => ?_
    refine r_list ?_
    refine wl rfl (ky (v := .string (ByteArray.mk #[])) hS (y_assign hS rfl) rfl rfl fun a hS => ?_)
    refine wpList_nil ?_
    try simp only [Exit.then, Exit.inBlock, ↓reduceIte, Nat.reduceEqDiff]
    refine hK28 _ _ ?_
    refine wp_ret ?_
    injection hM with hM
    subst hM
    try simp only [Exit.then, Exit.inBlock, ↓reduceIte, Nat.reduceEqDiff]
    refine ret_ok hS Tryd.results17 (res_tmp hS rfl res_nil) ?_
    exact rfl
  · replace hM := cf hb332 hM
    refine c_f hS rfl hb332 ?_
    refine wp_skip ?_
    try simp only [Exit.then, Exit.inBlock, ↓reduceIte, Nat.reduceEqDiff]
    refine hK26 _ _ ?_
    refine wp_seq_k fun K29 hK29 => ?_
    refine r_list ?_
    refine wl rfl (ky (v := .pointer (some ⟨b327, 0 + 0, none⟩)) hS (y_fld hS rfl fl28_0) rfl rfl fun a hS => ?_)
    refine wl rfl (ky (v := .int .i64 k_0.Kind) hS (y_load hS rfl ty3 0 rfl id (us := [.int .i64 k_0.Kind]) rfl rfl (fun _ => rfl)) rfl rfl fun a hS => ?_)
    obtain ⟨u333, hu333, hM⟩ := bd hM
    refine wl rfl (k_call hS ci62 rfl rfl (itoaM_c _ _ hS.dlt (hS.get 0 rfl) k_0.Kind _ hu333) fun _ w hR a hk hA => ?_)
    have he := Eq.symm hR
    subst he
    have hS := hA [] (fun r hr => by cases hr) List.Pairwise.nil
    obtain ⟨hg335, hM⟩ := gd_some hM
    refine wl rfl (ky (v := .string (u333 ++ (ByteArray.mk #[58]))) hS (y_cat hS rfl rfl (Nat.le_of_ble_eq_true hg335)) rfl rfl fun a hS => ?_)
    obtain ⟨hg336, hM⟩ := gd_some hM
    refine wl rfl (k_s2b hS rfl Tryd.underlying9 Tryd.underlying31 Tryd.underlying5 hg336 rfl fun v337 cl338 a w hk hS => ?_)
    refine wl rfl (ky (v := v337) hS (y_assign hS rfl) rfl rfl fun a hS => ?_)
    refine wpList_nil ?_
    try simp only [Exit.then, Exit.inBlock, ↓reduceIte, Nat.reduceEqDiff]
    refine hK29 _ _ ?_
    refine seq_j (J := fun a w => ∃ (out489 : (List Int)) (v490 : Value) (cl491 : (List Value)), St W0 No T 50 [(3, v490)] [.own v490 5 (Rep.int .u8).size cl491] [RowsF (Rep.int .u8) cl491 out489, LvF] a w ∧ ref23_Print_j1 out489 = some y) ?_ ?_
    · skip
      refine wp_seq_k fun K40 hK40 => ?_
      refine r_list ?_
      refine wl rfl (ky (v := .int .i64 0) hS (y_assign hS rfl) rfl rfl fun a hS => ?_)
      refine wpList_nil ?_
      try simp only [Exit.then, Exit.inBlock, ↓reduceIte, Nat.reduceEqDiff]
      refine hK40 _ _ ?_
      refine wp_block ?_
      obtain ⟨r1, hl1, hMo1⟩ := bd hM
      refine wp_lp (fun s : (List Int) × Int => ref23_Print_l4 k_0 s.1 s.2) (fun s a w => ∃ (out565 : (List Int)) (i569 : Int) (v566 : Value) (cl567 : (List Value)), (out565, i569) = s ∧ St W0 No T 50 [(1, .pointer (some ⟨b327, 0, none⟩)), (3, v566), (4, .int .i64 i569)] [.own v566 5 (Rep.int .u8).size cl567, .box b327 [.int .i64 k_0.Kind, .string k_0.Text] 28] [RowsF (Rep.int .u8) cl567 out565, LvF] a w) hl1 ⟨(bytesI (u333 ++ (ByteArray.mk #[58]))), 0, v337, cl338, rfl, (hS.meet [0, 1] (by decide) ⟨rfl, rfl, rfl, trivial⟩ ⟨rfl, rfl, trivial⟩ ⟨⟨0, rfl⟩, ⟨1, rfl⟩, trivial⟩)⟩ ?_
      rintro s a w f1 ⟨out565, i569, v566, cl567, rfl, hS⟩ hM hf1
      have hM : ref23_Print_l4 k_0 out565 i569 = some f1 := hM
      unfold ref23_Print_l4 at hM
      refine wp_seq_k fun K49 hK49 => ?_
      refine wp_seq_k fun K50 hK50 => ?_
      refine r_list ?_
      refine wl rfl (ky (v := .int .i64 i569) hS (y_move hS rfl) rfl rfl fun a hS => ?_)
      refine wl rfl (ky (v := .pointer (some ⟨b327, 0 + 1, none⟩)) hS (y_fld hS rfl fl28_1) rfl rfl fun a hS => ?_)
      refine wl rfl (ky (v := .string k_0.Text) hS (y_load hS rfl ty9 1 rfl id (us := [.string k_0.Text]) rfl rfl (fun _ => rfl)) rfl rfl fun a hS => ?_)
      refine wl rfl (ky (v := .int .i64 (k_0.Text.size : Int)) hS (y_lens hS Tryd.underlying9 rfl) rfl rfl fun a hS => ?_)
      refine wl rfl (ky (v := .bool (decide ((i569 : Int) < (k_0.Text.size : Int)))) hS (y_int hS rfl rfl rfl) rfl rfl fun a hS => ?_)
      refine wpList_nil ?_
      try simp only [Exit.then, Exit.inBlock, ↓reduceIte, Nat.reduceEqDiff]
      refine hK50 _ _ ?_
      rcases bool2 (decide ((i569 : Int) < (k_0.Text.size : Int))) with hb642 | hb642
      · replace hM := ct hb642 hM
        refine c_t hS rfl hb642 ?_
        refine wp_skip ?_
        try simp only [Exit.then, Exit.inBlock, ↓reduceIte, Nat.reduceEqDiff]
        refine hK49 _ _ ?_
        refine seq_j (J := fun a w => ∃ (out674 : (List Int)) (v675 : Value) (cl676 : (List Value)), St W0 No T 50 [(1, .pointer (some ⟨b327, 0, none⟩)), (3, v675), (4, .int .i64 i569)] [.own v675 5 (Rep.int .u8).size cl676, .box b327 [.int .i64 k_0.Kind, .string k_0.Text] 28] [RowsF (Rep.int .u8) cl676 out674, LvF] a w ∧ ref23_Print_j2 i569 out674 = some f1) ?_ ?_
        · skip
          refine wp_block ?_
          refine wp_seq_k fun K52 hK52 => ?_
          refine r_list ?_
          refine wl rfl (ky (v := .pointer (some ⟨b327, 0 + 1, none⟩)) hS (y_fld hS rfl fl28_1) rfl rfl fun a hS => ?_)
          refine wl rfl (ky (v := .string k_0.Text) hS (y_load hS rfl ty9 1 rfl id (us := [.string k_0.Text]) rfl rfl (fun _ => rfl)) rfl rfl fun a hS => ?_)
          refine wl rfl (ky (v := .int .i64 i569) hS (y_move hS rfl) rfl rfl fun a hS => ?_)
          obtain ⟨c678, hc678, hM⟩ := bd hM
          refine wl rfl (ky (v := .int .u8 (c678.toNat : Int)) hS (y_byte hS Tryd.underlying9 rfl rfl hc678) rfl rfl fun a hS => ?_)
          refine wl rfl (ky (v := .int .u8 (c678.toNat : Int)) hS (y_assign hS rfl) rfl rfl fun a hS => ?_)
          refine wpList_nil ?_
          try simp only [Exit.then, Exit.inBlock, ↓reduceIte, Nat.reduceEqDiff]
          refine hK52 _ _ ?_
          refine seq_j (J := fun a w => ∃ (g683 : Bool), St W0 No T 50 [(1, .pointer (some ⟨b327, 0, none⟩)), (3, v566), (4, .int .i64 i569), (5, .int .u8 (c678.toNat : Int)), (34, .bool g683)] [.own v566 5 (Rep.int .u8).size cl567, .box b327 [.int .i64 k_0.Kind, .string k_0.Text] 28] [RowsF (Rep.int .u8) cl567 out565, LvF] a w ∧ ref23_Print_j3 out565 i569 c678 g683 = some f1) ?_ ?_
          · skip
            refine r_list ?_
            refine wl rfl (ky (v := .int .u8 (c678.toNat : Int)) hS (y_move hS rfl) rfl rfl fun a hS => ?_)
            refine wl rfl (ky (v := .bool (decide (((c678.toNat : Int) : Int) < 33))) hS (y_int hS rfl rfl rfl) rfl rfl fun a hS => ?_)
            refine wl rfl (ky (v := .bool (decide (((c678.toNat : Int) : Int) < 33))) hS (y_move hS rfl) rfl rfl fun a hS => ?_)
            rcases bool2 (decide (((c678.toNat : Int) : Int) < 33)) with hb707 | hb707
            · replace hM := ct hb707 hM
              refine wn hS rfl rfl rfl hb707 rfl rfl fun a hS => ?_
              refine wn hS rfl rfl rfl hb707 rfl rfl fun a hS => ?_
              refine wl rfl (ky (v := .bool true) hS (y_pickt hS rfl hb707 rfl) rfl rfl fun a hS => ?_)
              refine wl rfl (ky (v := .bool true) hS (y_move hS rfl) rfl rfl fun a hS => ?_)
              refine wn hS rfl rfl rfl rfl rfl rfl fun a hS => ?_
              refine wn hS rfl rfl rfl rfl rfl rfl fun a hS => ?_
              refine wl rfl (ky (v := .bool true) hS (y_pickt hS rfl rfl rfl) rfl rfl fun a hS => ?_)
              refine wpList_nil ?_
              try simp only [Exit.then, Exit.inBlock, ↓reduceIte, Nat.reduceEqDiff]
              exact ⟨true, (hS.meet [0, 1] (by decide) ⟨rfl, rfl, rfl, rfl, rfl, trivial⟩ ⟨rfl, rfl, trivial⟩ ⟨⟨0, rfl⟩, ⟨1, rfl⟩, trivial⟩), hM⟩
            · replace hM := cf hb707 hM
              refine wg hS rfl rfl rfl hb707 (ky (v := .int .u8 (c678.toNat : Int)) hS (y_move hS rfl) rfl rfl fun a hS => ?_)
              refine wg hS rfl rfl rfl hb707 (ky (v := .bool (decide ((126 : Int) < (c678.toNat : Int)))) hS (y_int hS rfl rfl rfl) rfl rfl fun a hS => ?_)
              refine wl rfl (ky (v := .bool (decide ((126 : Int) < (c678.toNat : Int)))) hS (y_pickf hS rfl hb707 rfl) rfl rfl fun a hS => ?_)
              refine wl rfl (ky (v := .bool (decide ((126 : Int) < (c678.toNat : Int)))) hS (y_move hS rfl) rfl rfl fun a hS => ?_)
              rcases bool2 (decide ((126 : Int) < (c678.toNat : Int))) with hb708 | hb708
              · replace hM := ct hb708 hM
                refine wn hS rfl rfl rfl hb708 rfl rfl fun a hS => ?_
                refine wn hS rfl rfl rfl hb708 rfl rfl fun a hS => ?_
                refine wl rfl (ky (v := .bool true) hS (y_pickt hS rfl hb708 rfl) rfl rfl fun a hS => ?_)
                refine wpList_nil ?_
                try simp only [Exit.then, Exit.inBlock, ↓reduceIte, Nat.reduceEqDiff]
                exact ⟨true, (hS.meet [0, 1] (by decide) ⟨rfl, rfl, rfl, rfl, rfl, trivial⟩ ⟨rfl, rfl, trivial⟩ ⟨⟨0, rfl⟩, ⟨1, rfl⟩, trivial⟩), hM⟩
              · replace hM := cf hb708 hM
                refine wg hS rfl rfl rfl hb708 (ky (v := .int .u8 (c678.toNat : Int)) hS (y_move hS rfl) rfl rfl fun a hS => ?_)
                refine wg hS rfl rfl rfl hb708 (ky (v := .bool (((c678.toNat : Int) : Int) == 37)) hS (y_int hS rfl rfl rfl) rfl rfl fun a hS => ?_)
                refine wl rfl (ky (v := .bool (((c678.toNat : Int) : Int) == 37)) hS (y_pickf hS rfl hb708 rfl) rfl rfl fun a hS => ?_)
                refine wpList_nil ?_
                try simp only [Exit.then, Exit.inBlock, ↓reduceIte, Nat.reduceEqDiff]
                exact ⟨(((c678.toNat : Int) : Int) == 37), (hS.meet [0, 1] (by decide) ⟨rfl, rfl, rfl, rfl, rfl, trivial⟩ ⟨rfl, rfl, trivial⟩ ⟨⟨0, rfl⟩, ⟨1, rfl⟩, trivial⟩), hM⟩
          · rintro a w ⟨g683, hS, hM⟩
            unfold ref23_Print_j3 at hM
            rcases bool2 (g683) with hb684 | hb684
            · replace hM := ct hb684 hM
              refine c_t hS rfl hb684 ?_
              refine draws [(8, .blk (Value.ownBlock v566))] hS mixed rfl (fun c a d v w h => by cases d <;> exact h) fun w hQ hS => ?_
              refine dy 0 (v := v566) rfl (by kernel_rfl) (by kernel_rfl) (by kernel_rfl) rfl hQ hS (y_move hS rfl) rfl rfl rfl fun a hS => ?_
              refine dy 1 (v := .int .u8 (c678.toNat : Int)) rfl (by kernel_rfl) (by kernel_rfl) (by kernel_rfl) rfl hQ hS (y_move hS rfl) rfl rfl rfl fun a hS => ?_
              refine dy 2 (v := .int .u8 (shrI .u8 (c678.toNat : Int) 4)) rfl (by kernel_rfl) (by kernel_rfl) (by kernel_rfl) rfl hQ hS (y_shr hS rfl rfl rfl) rfl rfl rfl fun a hS => ?_
              obtain ⟨c693, hc693, hM⟩ := bd hM
              refine dy 3 (v := .int .u8 (c693.toNat : Int)) rfl (by kernel_rfl) (by kernel_rfl) (by kernel_rfl) rfl hQ hS (y_byte hS Tryd.underlying9 rfl rfl hc693) rfl rfl rfl fun a hS => ?_
              refine dy 4 (v := .int .u8 (c678.toNat : Int)) rfl (by kernel_rfl) (by kernel_rfl) (by kernel_rfl) rfl hQ hS (y_move hS rfl) rfl rfl rfl fun a hS => ?_
              refine dy 5 (v := .int .u8 (ibit .and .u8 (c678.toNat : Int) 15)) rfl (by kernel_rfl) (by kernel_rfl) (by kernel_rfl) rfl hQ hS (y_bits hS rfl rfl rfl) rfl rfl rfl fun a hS => ?_
              obtain ⟨c694, hc694, hM⟩ := bd hM
              refine dy 6 (v := .int .u8 (c694.toNat : Int)) rfl (by kernel_rfl) (by kernel_rfl) (by kernel_rfl) rfl hQ hS (y_byte hS Tryd.underlying9 rfl rfl hc694) rfl rfl rfl fun a hS => ?_
              refine wpE_one (i := 7) rfl (by kernel_rfl) rfl (k_bslice (ps := [(0, .const (.int .u8 37)), (1, .tmp 38), (2, .tmp 41)]) hS el31 ze5 (zl := [.int .u8 0, .int .u8 0, .int .u8 0]) (by kernel_rfl) rfl (us := [[.int .u8 37], [.int .u8 (c693.toNat : Int)], [.int .u8 (c694.toNat : Int)]]) ⟨rfl, ⟨rfl, ⟨rfl, trivial⟩⟩⟩ (ws := [.int .u8 37, .int .u8 (c693.toNat : Int), .int .u8 (c694.toNat : Int)]) rfl rfl rfl rfl fun b695 a w hk hS => ⟨stN (hk), ?_⟩)
              replace hS := hS.lit (R := (Rep.int .u8)) (us := [.int .u8 37, .int .u8 (c693.toNat : Int), .int .u8 (c694.toNat : Int)]) (xs := [37, (c693.toNat : Int), (c694.toNat : Int)]) 0 rfl (by decide) ((RowsOk.one_ (R := (Rep.int .u8)) (x := 37) rfl).append ((RowsOk.one_ (R := (Rep.int .u8)) (x := (c693.toNat : Int)) rfl).append (RowsOk.one_ (R := (Rep.int .u8)) (x := (c694.toNat : Int)) rfl))) rfl rfl
              replace hS := hS.freeze (R := (Rep.int .u8)) 0 rfl 0 rfl
              obtain ⟨hg697, hM⟩ := gd_some hM
              refine wpE_one (i := 8) rfl (by kernel_rfl) rfl (k_apps (R := (Rep.int .u8)) (xs := out565) (ys := [37, (c693.toNat : Int), (c694.toNat : Int)]) hS el31 (by decide) (by decide) rfl rfl 0 rfl 2 rfl 0 rfl hg697 rfl fun v698 cl699 a w hk hS => ⟨stM rfl hk etOwn, ?_⟩)
              refine dy 9 (v := v698) rfl (by kernel_rfl) (by kernel_rfl) (by kernel_rfl) rfl hQ hS (y_assign hS rfl) rfl rfl rfl fun a hS => ?_
              refine wpE_done (by kernel_rfl) ?_ _
              try simp only [Exit.then, Exit.inBlock, ↓reduceIte, Nat.reduceEqDiff]
              exact ⟨(out565 ++ ([37, (c693.toNat : Int), (c694.toNat : Int)])), v698, cl699, (hS.meet [0, 1] (by decide) ⟨rfl, rfl, rfl, trivial⟩ ⟨rfl, rfl, trivial⟩ ⟨⟨0, rfl⟩, ⟨4, rfl⟩, trivial⟩), hM⟩
            · replace hM := cf hb684 hM
              refine c_f hS rfl hb684 ?_
              refine r_list ?_
              refine wl rfl (ky (v := v566) hS (y_move hS rfl) rfl rfl fun a hS => ?_)
              refine wl rfl (ky (v := .int .u8 (c678.toNat : Int)) hS (y_move hS rfl) rfl rfl fun a hS => ?_)
              refine wl rfl (k_bslice (ps := [(0, .tmp 45)]) hS el31 ze5 (zl := [.int .u8 0]) (by kernel_rfl) rfl (us := [[.int .u8 (c678.toNat : Int)]]) ⟨rfl, trivial⟩ (ws := [.int .u8 (c678.toNat : Int)]) rfl rfl rfl rfl fun b701 a w hk hS => ?_)
              replace hS := hS.lit (R := (Rep.int .u8)) (us := [.int .u8 (c678.toNat : Int)]) (xs := [(c678.toNat : Int)]) 0 rfl (by decide) (RowsOk.one_ (R := (Rep.int .u8)) (x := (c678.toNat : Int)) rfl) rfl rfl
              replace hS := hS.freeze (R := (Rep.int .u8)) 0 rfl 0 rfl
              obtain ⟨hg703, hM⟩ := gd_some hM
              refine wl rfl (k_apps (R := (Rep.int .u8)) (xs := out565) (ys := [(c678.toNat : Int)]) hS el31 (by decide) (by decide) rfl rfl 0 rfl 2 rfl 0 rfl hg703 rfl fun v704 cl705 a w hk hS => ?_)
              refine wl rfl (ky (v := v704) hS (y_assign hS rfl) rfl rfl fun a hS => ?_)
              refine wpList_nil ?_
              try simp only [Exit.then, Exit.inBlock, ↓reduceIte, Nat.reduceEqDiff]
              exact ⟨(out565 ++ ([(c678.toNat : Int)])), v704, cl705, (hS.meet [0, 1] (by decide) ⟨rfl, rfl, rfl, trivial⟩ ⟨rfl, rfl, trivial⟩ ⟨⟨0, rfl⟩, ⟨4, rfl⟩, trivial⟩), hM⟩
        · rintro a w ⟨out674, v675, cl676, hS, hM⟩
          unfold ref23_Print_j2 at hM
          refine r_list ?_
          refine wl rfl (ky (v := .int .i64 i569) hS (y_move hS rfl) rfl rfl fun a hS => ?_)
          refine wl rfl (ky (v := .int .i64 (IntKind.i64.wrap (i569 + 1))) hS (y_int hS rfl rfl rfl) rfl rfl fun a hS => ?_)
          refine wl rfl (ky (v := .int .i64 (IntKind.i64.wrap (i569 + 1))) hS (y_assign hS rfl) rfl rfl fun a hS => ?_)
          refine wpList_nil ?_
          try simp only [Exit.then, Exit.inBlock, ↓reduceIte, Nat.reduceEqDiff]
          exact ⟨(out674, IntKind.i64.wrap (i569 + 1)), (Option.some.inj hM).symm, out674, (IntKind.i64.wrap (i569 + 1)), v675, cl676, rfl, (hS.meet [0, 1] (by decide) ⟨rfl, rfl, rfl, trivial⟩ ⟨rfl, rfl, trivial⟩ ⟨⟨0, rfl⟩, ⟨1, rfl⟩, trivial⟩)⟩
      · replace hM := cf hb642 hM
        refine c_f hS rfl hb642 ?_
        refine wp_exit ?_
        try simp only [Exit.then, Exit.inBlock, ↓reduceIte, Nat.reduceEqDiff]
        injection hM with hM
        subst hM
        have hr := hf1 _ rfl
        subst hr
        have hM : ref23_Print_j1 out565 = some y := hMo1
        exact ⟨out565, v566, cl567, (hS.meet [0] (by decide) ⟨rfl, trivial⟩ ⟨rfl, trivial⟩ ⟨⟨0, rfl⟩, ⟨1, rfl⟩, trivial⟩), hM⟩
    · rintro a w ⟨out489, v490, cl491, hS, hM⟩
      unfold ref23_Print_j1 at hM
      refine wp_seq_k fun K39 hK39 => ?_
      refine r_list ?_
      refine wl rfl (ky (v := v490) hS (y_move hS rfl) rfl rfl fun a hS => ?_)
      refine wl rfl (ky (v := .string (strI out489)) hS (y_b2so hS rfl Tryd.underlying31 Tryd.underlying5 Tryd.underlying9 0 rfl 0 rfl (fun _ _ h => h)) rfl rfl fun a hS => ?_)
      refine wl rfl (ky (v := .string (strI out489)) hS (y_assign hS rfl) rfl rfl fun a hS => ?_)
      refine wpList_nil ?_
      try simp only [Exit.then, Exit.inBlock, ↓reduceIte, Nat.reduceEqDiff]
      refine hK39 _ _ ?_
      refine wp_ret ?_
      injection hM with hM
      subst hM
      try simp only [Exit.then, Exit.inBlock, ↓reduceIte, Nat.reduceEqDiff]
      refine ret_ok hS Tryd.results17 (res_tmp hS rfl res_nil) ?_
      exact rfl

noncomputable def ref23_digit (c_0 : Int) : Option Int := (indexByteM (ByteArray.mk #[48, 49, 50, 51, 52, 53, 54, 55, 56, 57, 65, 66, 67, 68, 69, 70]) c_0).bind fun u3 => some (u3)
set_option maxRecDepth 100000 in
set_option maxHeartbeats 4000000 in
theorem ref23_digit_c (T : Nat → Prop) (W0 : World) (hT : ∀ k, T k → k < W0.heap.size) (hLv : LvP T W0) (c_0 : Int) (y : Int) (hM : ref23_digit c_0 = some y) : Rets Tryd.prog No 71 [.int .u8 c_0] W0 (fun v w' => v = .int .i64 y) := by
  refine enter (c := _) Tryd.func71 rfl T 5 Tryd.ntmps71 hT rfl fun a hS => ?_
  replace hS := hS.fact LvF (LvP.dn hLv)
  unfold ref23_digit at hM
  refine wp_seq_k fun K3 hK3 => ?_
  refine r_list ?_
  refine wl rfl (ky (v := .int .i64 0) hS (y_assign hS rfl) rfl rfl fun a hS => ?_)
  refine wpList_nil ?_
  try simp only [Exit.then, Exit.inBlock, ↓reduceIte, Nat.reduceEqDiff]
  refine hK3 _ _ ?_
  refine wp_seq_k fun K4 hK4 => ?_
  refine r_list ?_
  refine wl rfl (ky (v := .int .u8 c_0) hS (y_move hS rfl) rfl rfl fun a hS => ?_)
  obtain ⟨u3, hu3, hM⟩ := bd hM
  refine wl rfl (k_call hS ci69 rfl rfl (indexByteM_c _ _ hS.dlt (hS.get 0 rfl) (ByteArray.mk #[48, 49, 50, 51, 52, 53, 54, 55, 56, 57, 65, 66, 67, 68, 69, 70]) c_0 _ hu3) fun _ w hR a hk hA => ?_)
  have he := Eq.symm hR
  subst he
  have hS := hA [] (fun r hr => by cases hr) List.Pairwise.nil
  refine wl rfl (ky (v := .int .i64 u3) hS (y_assign hS rfl) rfl rfl fun a hS => ?_)
  refine wpList_nil ?_
  try simp only [Exit.then, Exit.inBlock, ↓reduceIte, Nat.reduceEqDiff]
  refine hK4 _ _ ?_
  refine wp_ret ?_
  injection hM with hM
  subst hM
  try simp only [Exit.then, Exit.inBlock, ↓reduceIte, Nat.reduceEqDiff]
  refine ret_ok hS Tryd.results71 (res_tmp hS rfl res_nil) ?_
  exact rfl

noncomputable def ref23_Parse_j1 (s_0 : ByteArray) (u818 : Int) (text1206 : (List Int)) : Option (KeyD × Int) := (ref23_Print (KeyD.mk u818 (strI text1206))).bind fun u1216 => cond (!(u1216.toList == s_0.toList)) (some (((KeyD.mk 0 (ByteArray.mk #[])), 5))) (cond (s_0.toList == (ByteArray.mk #[]).toList) (some (((KeyD.mk 0 (ByteArray.mk #[])), 5))) (some (((KeyD.mk u818 (strI text1206)), 0))))
noncomputable def ref23_Parse_j2 (text1694 : (List Int)) (i1698 : Int) : Option (Fl ((List Int) × Int) ((List Int))) := some (.go (text1694, IntKind.i64.wrap (i1698 + 1)))
noncomputable def ref23_Parse_j3 (s_0 : ByteArray) (text1415 : (List Int)) (i1419 : Int) (g1719 : Bool) : Option (Fl ((List Int) × Int) ((List Int))) := cond g1719 ((getI s_0.toList (IntKind.i64.wrap (i1419 + 1))).bind fun c1757 => (getI s_0.toList (IntKind.i64.wrap (i1419 + 2))).bind fun c1758 => (ref23_digit (c1757.toNat : Int)).bind fun u1759 => (ref23_digit (c1758.toNat : Int)).bind fun u1761 => gd (roomB (text1415.length + ([IntKind.u8.wrap (IntKind.i64.wrap ((IntKind.i64.wrap (16 * u1759)) + u1761))]).length)) <| ref23_Parse_j2 (text1415 ++ ([IntKind.u8.wrap (IntKind.i64.wrap ((IntKind.i64.wrap (16 * u1759)) + u1761))])) (IntKind.i64.wrap (i1419 + 2))) ((getI s_0.toList i1419).bind fun c1769 => gd (roomB (text1415.length + ([(c1769.toNat : Int)]).length)) <| ref23_Parse_j2 (text1415 ++ ([(c1769.toNat : Int)])) i1419)
noncomputable def ref23_Parse_l4 (s_0 : ByteArray) (text1415 : (List Int)) (i1419 : Int) : Option (Fl ((List Int) × Int) ((List Int))) := cond (decide ((i1419 : Int) < (s_0.size : Int))) ((getI s_0.toList i1419).bind fun c1776 => cond (((c1776.toNat : Int) : Int) == 37) (cond (decide ((IntKind.i64.wrap (i1419 + 2) : Int) < (s_0.size : Int))) ((getI s_0.toList (IntKind.i64.wrap (i1419 + 1))).bind fun c1779 => (ref23_digit (c1779.toNat : Int)).bind fun u1780 => cond (decide ((0 : Int) ≤ u1780)) ((getI s_0.toList (IntKind.i64.wrap (i1419 + 2))).bind fun c1783 => (ref23_digit (c1783.toNat : Int)).bind fun u1784 => ref23_Parse_j3 s_0 text1415 i1419 (decide ((0 : Int) ≤ u1784))) (ref23_Parse_j3 s_0 text1415 i1419 false)) (ref23_Parse_j3 s_0 text1415 i1419 false)) (ref23_Parse_j3 s_0 text1415 i1419 false)) (some (.out text1415))
noncomputable def ref23_Parse (s_0 : ByteArray) : Option (KeyD × Int) := (indexByteM s_0 58).bind fun u814 => cond (decide ((u814 : Int) < 0)) (some (((KeyD.mk 0 (ByteArray.mk #[])), 5))) ((subS s_0 0 u814).bind fun s817 => (ref23_Decimal s817).bind fun u818 => cond (decide ((u818 : Int) < 0)) (some (((KeyD.mk 0 (ByteArray.mk #[])), 5))) ((loop (fun s : (List Int) × Int => ref23_Parse_l4 s_0 s.1 s.2) (([] : List Int), IntKind.i64.wrap (u814 + 1))).bind fun r => ref23_Parse_j1 s_0 u818 r))
set_option maxRecDepth 100000 in
set_option maxHeartbeats 4000000 in
theorem ref23_Parse_c (T : Nat → Prop) (W0 : World) (hT : ∀ k, T k → k < W0.heap.size) (hLv : LvP T W0) (s_0 : ByteArray) (y : KeyD × Int) (hM : ref23_Parse s_0 = some y) : Rets Tryd.prog No 20 [.string s_0] W0 (fun v w' => v = .tuple #[.agg #[.int .i64 y.1.Kind, .string y.1.Text], .int .i64 y.2]) := by
  refine enter (c := _) Tryd.func20 rfl T 94 Tryd.ntmps20 hT rfl fun a hS => ?_
  replace hS := hS.fact LvF (LvP.dn hLv)
  unfold ref23_Parse at hM
  refine wp_seq_k fun K35 hK35 => ?_
  refine r_list ?_
  refine wl rfl (k_alloc hS ze28 rfl fun b811 hnb813 a w hk hS => ?_)
  refine wl rfl (ky (v := .int .i64 0) hS (y_assign hS rfl) rfl rfl fun a hS => ?_)
  refine wpList_nil ?_
  try simp only [Exit.then, Exit.inBlock, ↓reduceIte, Nat.reduceEqDiff]
  refine hK35 _ _ ?_
  refine wp_seq_k fun K36 hK36 => ?_
  refine r_list ?_
  refine wl rfl (ky (v := .string s_0) hS (y_move hS rfl) rfl rfl fun a hS => ?_)
  obtain ⟨u814, hu814, hM⟩ := bd hM
  refine wl rfl (k_call hS ci69 rfl rfl (indexByteM_c _ _ hS.dlt (hS.get 0 rfl) s_0 58 _ hu814) fun _ w hR a hk hA => ?_)
  have he := Eq.symm hR
  subst he
  have hS := hA [] (fun r hr => by cases hr) List.Pairwise.nil
  refine wl rfl (ky (v := .int .i64 u814) hS (y_assign hS rfl) rfl rfl fun a hS => ?_)
  refine wpList_nil ?_
  try simp only [Exit.then, Exit.inBlock, ↓reduceIte, Nat.reduceEqDiff]
  refine hK36 _ _ ?_
  refine wp_seq_k fun K37 hK37 => ?_
  refine wp_seq_k fun K38 hK38 => ?_
  refine r_list ?_
  refine wl rfl (ky (v := .int .i64 u814) hS (y_move hS rfl) rfl rfl fun a hS => ?_)
  refine wl rfl (ky (v := .bool (decide ((u814 : Int) < 0))) hS (y_int hS rfl rfl rfl) rfl rfl fun a hS => ?_)
  refine wpList_nil ?_
  try simp only [Exit.then, Exit.inBlock, ↓reduceIte, Nat.reduceEqDiff]
  refine hK38 _ _ ?_
  rcases bool2 (decide ((u814 : Int) < 0)) with hb816 | hb816
  · replace hM := ct hb816 hM
    refine c_t hS rfl hb816 ?_
    refine wp_seq_k fun K39 hK39 => ?_
    refine r_list ?_
    refine wl rfl (ky (v := .agg #[.int .i64 0, .string (ByteArray.mk #[])]) hS (y_build (ps := []) hS pl28 ze28 rfl (us := []) trivial (ws := [.int .i64 0, .string (ByteArray.mk #[])]) rfl) rfl rfl fun a hS => ?_)
    refine wl rfl (k_store hS rfl rfl (us := [.int .i64 0, .string (ByteArray.mk #[])]) rfl ty28 0 rfl rfl rfl (oc rfl (oc rfl on)) fun w hk hS => ?_)
    refine wl rfl (ky (v := .int .i64 5) hS (y_assign hS rfl) rfl rfl fun a hS => ?_)
    refine wpList_nil ?_
    try simp only [Exit.then, Exit.inBlock, ↓reduceIte, Nat.reduceEqDiff]
    refine hK39 _ _ ?_
    refine wp_ret ?_
    injection hM with hM
    subst hM
    try simp only [Exit.then, Exit.inBlock, ↓reduceIte, Nat.reduceEqDiff]
    refine ret_ok hS Tryd.results20 (res_cell hS rfl 0 rfl ty28 rfl (fun h => by cases h) (res_tmp hS rfl res_nil)) ?_
    exact rfl
  · replace hM := cf hb816 hM
    refine c_f hS rfl hb816 ?_
    refine wp_skip ?_
    try simp only [Exit.then, Exit.inBlock, ↓reduceIte, Nat.reduceEqDiff]
    refine hK37 _ _ ?_
    refine wp_seq_k fun K40 hK40 => ?_
    refine r_list ?_
    refine wl rfl (ky (v := .string s_0) hS (y_move hS rfl) rfl rfl fun a hS => ?_)
    refine wl rfl (ky (v := .int .i64 u814) hS (y_move hS rfl) rfl rfl fun a hS => ?_)
    obtain ⟨s817, hs817, hM⟩ := bd hM
    refine wl rfl (ky (v := .string s817) hS (y_subs (k1 := .i64) hS Tryd.underlying9 rfl (.inr ⟨rfl, rfl⟩) (.inl ⟨_, rfl, rfl⟩) hs817) rfl rfl fun a hS => ?_)
    obtain ⟨u818, hu818, hM⟩ := bd hM
    refine wl rfl (k_call hS ci70 rfl rfl (ref23_Decimal_c _ _ hS.dlt s817 _ hu818) fun _ w hR a hk hA => ?_)
    have he := Eq.symm hR
    subst he
    have hS := hA [] (fun r hr => by cases hr) List.Pairwise.nil
    refine wl rfl (ky (v := .int .i64 u818) hS (y_assign hS rfl) rfl rfl fun a hS => ?_)
    refine wpList_nil ?_
    try simp only [Exit.then, Exit.inBlock, ↓reduceIte, Nat.reduceEqDiff]
    refine hK40 _ _ ?_
    refine wp_seq_k fun K41 hK41 => ?_
    refine wp_seq_k fun K42 hK42 => ?_
    refine r_list ?_
    refine wl rfl (ky (v := .int .i64 u818) hS (y_move hS rfl) rfl rfl fun a hS => ?_)
    refine wl rfl (ky (v := .bool (decide ((u818 : Int) < 0))) hS (y_int hS rfl rfl rfl) rfl rfl fun a hS => ?_)
    refine wpList_nil ?_
    try simp only [Exit.then, Exit.inBlock, ↓reduceIte, Nat.reduceEqDiff]
    refine hK42 _ _ ?_
    rcases bool2 (decide ((u818 : Int) < 0)) with hb820 | hb820
    · replace hM := ct hb820 hM
      refine c_t hS rfl hb820 ?_
      refine wp_seq_k fun K43 hK43 => ?_
      refine r_list ?_
      refine wl rfl (ky (v := .agg #[.int .i64 0, .string (ByteArray.mk #[])]) hS (y_build (ps := []) hS pl28 ze28 rfl (us := []) trivial (ws := [.int .i64 0, .string (ByteArray.mk #[])]) rfl) rfl rfl fun a hS => ?_)
      refine wl rfl (k_store hS rfl rfl (us := [.int .i64 0, .string (ByteArray.mk #[])]) rfl ty28 0 rfl rfl rfl (oc rfl (oc rfl on)) fun w hk hS => ?_)
      refine wl rfl (ky (v := .int .i64 5) hS (y_assign hS rfl) rfl rfl fun a hS => ?_)
      refine wpList_nil ?_
      try simp only [Exit.then, Exit.inBlock, ↓reduceIte, Nat.reduceEqDiff]
      refine hK43 _ _ ?_
      refine wp_ret ?_
      injection hM with hM
      subst hM
      try simp only [Exit.then, Exit.inBlock, ↓reduceIte, Nat.reduceEqDiff]
      refine ret_ok hS Tryd.results20 (res_cell hS rfl 0 rfl ty28 rfl (fun h => by cases h) (res_tmp hS rfl res_nil)) ?_
      exact rfl
    · replace hM := cf hb820 hM
      refine c_f hS rfl hb820 ?_
      refine wp_skip ?_
      try simp only [Exit.then, Exit.inBlock, ↓reduceIte, Nat.reduceEqDiff]
      refine hK41 _ _ ?_
      refine wp_seq_k fun K44 hK44 => ?_
      refine r_list ?_
      refine wl rfl (ky (v := .slice none 0 0) hS (y_assign hS rfl) rfl rfl fun a hS => ?_)
      refine wpList_nil ?_
      try simp only [Exit.then, Exit.inBlock, ↓reduceIte, Nat.reduceEqDiff]
      refine hK44 _ _ ?_
      refine seq_j (J := fun a w => ∃ (text1206 : (List Int)) (v1207 : Value) (cl1208 : (List Value)), St W0 No T 94 [(0, .string s_0), (2, .pointer (some ⟨b811, 0, none⟩)), (5, .int .i64 u818), (6, v1207)] [.own v1207 5 (Rep.int .u8).size cl1208, .box b811 [.int .i64 0, .string (ByteArray.mk #[])] 28] [RowsF (Rep.int .u8) cl1208 text1206, LvF] a w ∧ ref23_Parse_j1 s_0 u818 text1206 = some y) ?_ ?_
      · skip
        refine wp_seq_k fun K60 hK60 => ?_
        refine r_list ?_
        refine wl rfl (ky (v := .int .i64 u814) hS (y_move hS rfl) rfl rfl fun a hS => ?_)
        refine wl rfl (ky (v := .int .i64 (IntKind.i64.wrap (u814 + 1))) hS (y_int hS rfl rfl rfl) rfl rfl fun a hS => ?_)
        refine wl rfl (ky (v := .int .i64 (IntKind.i64.wrap (u814 + 1))) hS (y_assign hS rfl) rfl rfl fun a hS => ?_)
        refine wpList_nil ?_
        try simp only [Exit.then, Exit.inBlock, ↓reduceIte, Nat.reduceEqDiff]
        refine hK60 _ _ ?_
        refine wp_block ?_
        replace hS := hS.nilRow (Rep.int .u8) 5 (by decide)
        obtain ⟨r1, hl1, hMo1⟩ := bd hM
        refine wp_lp (fun s : (List Int) × Int => ref23_Parse_l4 s_0 s.1 s.2) (fun s a w => ∃ (text1415 : (List Int)) (i1419 : Int) (v1416 : Value) (cl1417 : (List Value)), (text1415, i1419) = s ∧ St W0 No T 94 [(0, .string s_0), (2, .pointer (some ⟨b811, 0, none⟩)), (5, .int .i64 u818), (6, v1416), (7, .int .i64 i1419)] [.own v1416 5 (Rep.int .u8).size cl1417, .box b811 [.int .i64 0, .string (ByteArray.mk #[])] 28] [RowsF (Rep.int .u8) cl1417 text1415, LvF] a w) hl1 ⟨([] : List Int), (IntKind.i64.wrap (u814 + 1)), (.slice none 0 0), ([]), rfl, (hS.meet [0, 1] (by decide) ⟨rfl, rfl, rfl, rfl, rfl, trivial⟩ ⟨rfl, rfl, trivial⟩ ⟨⟨0, rfl⟩, ⟨1, rfl⟩, trivial⟩)⟩ ?_
        rintro s a w f1 ⟨text1415, i1419, v1416, cl1417, rfl, hS⟩ hM hf1
        have hM : ref23_Parse_l4 s_0 text1415 i1419 = some f1 := hM
        unfold ref23_Parse_l4 at hM
        refine wp_seq_k fun K69 hK69 => ?_
        refine wp_seq_k fun K70 hK70 => ?_
        refine r_list ?_
        refine wl rfl (ky (v := .int .i64 i1419) hS (y_move hS rfl) rfl rfl fun a hS => ?_)
        refine wl rfl (ky (v := .string s_0) hS (y_move hS rfl) rfl rfl fun a hS => ?_)
        refine wl rfl (ky (v := .int .i64 (s_0.size : Int)) hS (y_lens hS Tryd.underlying9 rfl) rfl rfl fun a hS => ?_)
        refine wl rfl (ky (v := .bool (decide ((i1419 : Int) < (s_0.size : Int)))) hS (y_int hS rfl rfl rfl) rfl rfl fun a hS => ?_)
        refine wpList_nil ?_
        try simp only [Exit.then, Exit.inBlock, ↓reduceIte, Nat.reduceEqDiff]
        refine hK70 _ _ ?_
        rcases bool2 (decide ((i1419 : Int) < (s_0.size : Int))) with hb1606 | hb1606
        · replace hM := ct hb1606 hM
          refine c_t hS rfl hb1606 ?_
          refine wp_skip ?_
          try simp only [Exit.then, Exit.inBlock, ↓reduceIte, Nat.reduceEqDiff]
          refine hK69 _ _ ?_
          refine seq_j (J := fun a w => ∃ (text1694 : (List Int)) (i1698 : Int) (v1695 : Value) (cl1696 : (List Value)), St W0 No T 94 [(0, .string s_0), (2, .pointer (some ⟨b811, 0, none⟩)), (5, .int .i64 u818), (6, v1695), (7, .int .i64 i1698)] [.own v1695 5 (Rep.int .u8).size cl1696, .box b811 [.int .i64 0, .string (ByteArray.mk #[])] 28] [RowsF (Rep.int .u8) cl1696 text1694, LvF] a w ∧ ref23_Parse_j2 text1694 i1698 = some f1) ?_ ?_
          · skip
            refine wp_block ?_
            refine seq_j (J := fun a w => ∃ (g1719 : Bool), St W0 No T 94 [(0, .string s_0), (2, .pointer (some ⟨b811, 0, none⟩)), (5, .int .i64 u818), (6, v1416), (7, .int .i64 i1419), (55, .bool g1719)] [.own v1416 5 (Rep.int .u8).size cl1417, .box b811 [.int .i64 0, .string (ByteArray.mk #[])] 28] [RowsF (Rep.int .u8) cl1417 text1415, LvF] a w ∧ ref23_Parse_j3 s_0 text1415 i1419 g1719 = some f1) ?_ ?_
            · skip
              refine r_list ?_
              refine wl rfl (ky (v := .string s_0) hS (y_move hS rfl) rfl rfl fun a hS => ?_)
              refine wl rfl (ky (v := .int .i64 i1419) hS (y_move hS rfl) rfl rfl fun a hS => ?_)
              obtain ⟨c1776, hc1776, hM⟩ := bd hM
              refine wl rfl (ky (v := .int .u8 (c1776.toNat : Int)) hS (y_byte hS Tryd.underlying9 rfl rfl hc1776) rfl rfl fun a hS => ?_)
              refine wl rfl (ky (v := .bool (((c1776.toNat : Int) : Int) == 37)) hS (y_int hS rfl rfl rfl) rfl rfl fun a hS => ?_)
              refine wl rfl (ky (v := .bool (((c1776.toNat : Int) : Int) == 37)) hS (y_move hS rfl) rfl rfl fun a hS => ?_)
              rcases bool2 (((c1776.toNat : Int) : Int) == 37) with hb1777 | hb1777
              · replace hM := ct hb1777 hM
                refine wg hS rfl rfl rfl hb1777 (ky (v := .int .i64 i1419) hS (y_move hS rfl) rfl rfl fun a hS => ?_)
                refine wg hS rfl rfl rfl hb1777 (ky (v := .int .i64 (IntKind.i64.wrap (i1419 + 2))) hS (y_int hS rfl rfl rfl) rfl rfl fun a hS => ?_)
                refine wg hS rfl rfl rfl hb1777 (ky (v := .string s_0) hS (y_move hS rfl) rfl rfl fun a hS => ?_)
                refine wg hS rfl rfl rfl hb1777 (ky (v := .int .i64 (s_0.size : Int)) hS (y_lens hS Tryd.underlying9 rfl) rfl rfl fun a hS => ?_)
                refine wg hS rfl rfl rfl hb1777 (ky (v := .bool (decide ((IntKind.i64.wrap (i1419 + 2) : Int) < (s_0.size : Int)))) hS (y_int hS rfl rfl rfl) rfl rfl fun a hS => ?_)
                refine wl rfl (ky (v := .bool (decide ((IntKind.i64.wrap (i1419 + 2) : Int) < (s_0.size : Int)))) hS (y_pickt hS rfl hb1777 rfl) rfl rfl fun a hS => ?_)
                refine wl rfl (ky (v := .bool (decide ((IntKind.i64.wrap (i1419 + 2) : Int) < (s_0.size : Int)))) hS (y_move hS rfl) rfl rfl fun a hS => ?_)
                rcases bool2 (decide ((IntKind.i64.wrap (i1419 + 2) : Int) < (s_0.size : Int))) with hb1778 | hb1778
                · replace hM := ct hb1778 hM
                  refine wg hS rfl rfl rfl hb1778 (ky (v := .string s_0) hS (y_move hS rfl) rfl rfl fun a hS => ?_)
                  refine wg hS rfl rfl rfl hb1778 (ky (v := .int .i64 i1419) hS (y_move hS rfl) rfl rfl fun a hS => ?_)
                  refine wg hS rfl rfl rfl hb1778 (ky (v := .int .i64 (IntKind.i64.wrap (i1419 + 1))) hS (y_int hS rfl rfl rfl) rfl rfl fun a hS => ?_)
                  obtain ⟨c1779, hc1779, hM⟩ := bd hM
                  refine wg hS rfl rfl rfl hb1778 (ky (v := .int .u8 (c1779.toNat : Int)) hS (y_byte hS Tryd.underlying9 rfl rfl hc1779) rfl rfl fun a hS => ?_)
                  obtain ⟨u1780, hu1780, hM⟩ := bd hM
                  refine wg hS rfl rfl rfl hb1778 (k_call hS ci71 rfl rfl (ref23_digit_c _ _ hS.dlt (hS.get 1 rfl) (c1779.toNat : Int) _ hu1780) fun _ w hR a hk hA => ?_)
                  have he := Eq.symm hR
                  subst he
                  have hS := hA [] (fun r hr => by cases hr) List.Pairwise.nil
                  refine wg hS rfl rfl rfl hb1778 (ky (v := .bool (decide ((0 : Int) ≤ u1780))) hS (y_int hS rfl rfl rfl) rfl rfl fun a hS => ?_)
                  refine wl rfl (ky (v := .bool (decide ((0 : Int) ≤ u1780))) hS (y_pickt hS rfl hb1778 rfl) rfl rfl fun a hS => ?_)
                  refine wl rfl (ky (v := .bool (decide ((0 : Int) ≤ u1780))) hS (y_move hS rfl) rfl rfl fun a hS => ?_)
                  rcases bool2 (decide ((0 : Int) ≤ u1780)) with hb1782 | hb1782
                  · replace hM := ct hb1782 hM
                    refine wg hS rfl rfl rfl hb1782 (ky (v := .string s_0) hS (y_move hS rfl) rfl rfl fun a hS => ?_)
                    refine wg hS rfl rfl rfl hb1782 (ky (v := .int .i64 i1419) hS (y_move hS rfl) rfl rfl fun a hS => ?_)
                    refine wg hS rfl rfl rfl hb1782 (ky (v := .int .i64 (IntKind.i64.wrap (i1419 + 2))) hS (y_int hS rfl rfl rfl) rfl rfl fun a hS => ?_)
                    obtain ⟨c1783, hc1783, hM⟩ := bd hM
                    refine wg hS rfl rfl rfl hb1782 (ky (v := .int .u8 (c1783.toNat : Int)) hS (y_byte hS Tryd.underlying9 rfl rfl hc1783) rfl rfl fun a hS => ?_)
                    obtain ⟨u1784, hu1784, hM⟩ := bd hM
                    refine wg hS rfl rfl rfl hb1782 (k_call hS ci71 rfl rfl (ref23_digit_c _ _ hS.dlt (hS.get 1 rfl) (c1783.toNat : Int) _ hu1784) fun _ w hR a hk hA => ?_)
                    have he := Eq.symm hR
                    subst he
                    have hS := hA [] (fun r hr => by cases hr) List.Pairwise.nil
                    refine wg hS rfl rfl rfl hb1782 (ky (v := .bool (decide ((0 : Int) ≤ u1784))) hS (y_int hS rfl rfl rfl) rfl rfl fun a hS => ?_)
                    refine wl rfl (ky (v := .bool (decide ((0 : Int) ≤ u1784))) hS (y_pickt hS rfl hb1782 rfl) rfl rfl fun a hS => ?_)
                    refine wpList_nil ?_
                    try simp only [Exit.then, Exit.inBlock, ↓reduceIte, Nat.reduceEqDiff]
                    exact ⟨(decide ((0 : Int) ≤ u1784)), (hS.meet [0, 1] (by decide) ⟨rfl, rfl, rfl, rfl, rfl, rfl, trivial⟩ ⟨rfl, rfl, trivial⟩ ⟨⟨0, rfl⟩, ⟨1, rfl⟩, trivial⟩), hM⟩
                  · replace hM := cf hb1782 hM
                    refine wn hS rfl rfl rfl hb1782 rfl rfl fun a hS => ?_
                    refine wn hS rfl rfl rfl hb1782 rfl rfl fun a hS => ?_
                    refine wn hS rfl rfl rfl hb1782 rfl rfl fun a hS => ?_
                    refine wn hS rfl rfl rfl hb1782 rfl rfl fun a hS => ?_
                    refine wn hS rfl rfl rfl hb1782 rfl rfl fun a hS => ?_
                    refine wn hS rfl rfl rfl hb1782 rfl rfl fun a hS => ?_
                    refine wl rfl (ky (v := .bool false) hS (y_pickf hS rfl hb1782 rfl) rfl rfl fun a hS => ?_)
                    refine wpList_nil ?_
                    try simp only [Exit.then, Exit.inBlock, ↓reduceIte, Nat.reduceEqDiff]
                    exact ⟨false, (hS.meet [0, 1] (by decide) ⟨rfl, rfl, rfl, rfl, rfl, rfl, trivial⟩ ⟨rfl, rfl, trivial⟩ ⟨⟨0, rfl⟩, ⟨1, rfl⟩, trivial⟩), hM⟩
                · replace hM := cf hb1778 hM
                  refine wn hS rfl rfl rfl hb1778 rfl rfl fun a hS => ?_
                  refine wn hS rfl rfl rfl hb1778 rfl rfl fun a hS => ?_
                  refine wn hS rfl rfl rfl hb1778 rfl rfl fun a hS => ?_
                  refine wn hS rfl rfl rfl hb1778 rfl rfl fun a hS => ?_
                  refine wn hS rfl rfl rfl hb1778 rfl rfl fun a hS => ?_
                  refine wn hS rfl rfl rfl hb1778 rfl rfl fun a hS => ?_
                  refine wl rfl (ky (v := .bool false) hS (y_pickf hS rfl hb1778 rfl) rfl rfl fun a hS => ?_)
                  refine wl rfl (ky (v := .bool false) hS (y_move hS rfl) rfl rfl fun a hS => ?_)
                  refine wn hS rfl rfl rfl rfl rfl rfl fun a hS => ?_
                  refine wn hS rfl rfl rfl rfl rfl rfl fun a hS => ?_
                  refine wn hS rfl rfl rfl rfl rfl rfl fun a hS => ?_
                  refine wn hS rfl rfl rfl rfl rfl rfl fun a hS => ?_
                  refine wn hS rfl rfl rfl rfl rfl rfl fun a hS => ?_
                  refine wn hS rfl rfl rfl rfl rfl rfl fun a hS => ?_
                  refine wl rfl (ky (v := .bool false) hS (y_pickf hS rfl rfl rfl) rfl rfl fun a hS => ?_)
                  refine wpList_nil ?_
                  try simp only [Exit.then, Exit.inBlock, ↓reduceIte, Nat.reduceEqDiff]
                  exact ⟨false, (hS.meet [0, 1] (by decide) ⟨rfl, rfl, rfl, rfl, rfl, rfl, trivial⟩ ⟨rfl, rfl, trivial⟩ ⟨⟨0, rfl⟩, ⟨1, rfl⟩, trivial⟩), hM⟩
              · replace hM := cf hb1777 hM
                refine wn hS rfl rfl rfl hb1777 rfl rfl fun a hS => ?_
                refine wn hS rfl rfl rfl hb1777 rfl rfl fun a hS => ?_
                refine wn hS rfl rfl rfl hb1777 rfl rfl fun a hS => ?_
                refine wn hS rfl rfl rfl hb1777 rfl rfl fun a hS => ?_
                refine wn hS rfl rfl rfl hb1777 rfl rfl fun a hS => ?_
                refine wl rfl (ky (v := .bool false) hS (y_pickf hS rfl hb1777 rfl) rfl rfl fun a hS => ?_)
                refine wl rfl (ky (v := .bool false) hS (y_move hS rfl) rfl rfl fun a hS => ?_)
                refine wn hS rfl rfl rfl rfl rfl rfl fun a hS => ?_
                refine wn hS rfl rfl rfl rfl rfl rfl fun a hS => ?_
                refine wn hS rfl rfl rfl rfl rfl rfl fun a hS => ?_
                refine wn hS rfl rfl rfl rfl rfl rfl fun a hS => ?_
                refine wn hS rfl rfl rfl rfl rfl rfl fun a hS => ?_
                refine wn hS rfl rfl rfl rfl rfl rfl fun a hS => ?_
                refine wl rfl (ky (v := .bool false) hS (y_pickf hS rfl rfl rfl) rfl rfl fun a hS => ?_)
                refine wl rfl (ky (v := .bool false) hS (y_move hS rfl) rfl rfl fun a hS => ?_)
                refine wn hS rfl rfl rfl rfl rfl rfl fun a hS => ?_
                refine wn hS rfl rfl rfl rfl rfl rfl fun a hS => ?_
                refine wn hS rfl rfl rfl rfl rfl rfl fun a hS => ?_
                refine wn hS rfl rfl rfl rfl rfl rfl fun a hS => ?_
                refine wn hS rfl rfl rfl rfl rfl rfl fun a hS => ?_
                refine wn hS rfl rfl rfl rfl rfl rfl fun a hS => ?_
                refine wl rfl (ky (v := .bool false) hS (y_pickf hS rfl rfl rfl) rfl rfl fun a hS => ?_)
                refine wpList_nil ?_
                try simp only [Exit.then, Exit.inBlock, ↓reduceIte, Nat.reduceEqDiff]
                exact ⟨false, (hS.meet [0, 1] (by decide) ⟨rfl, rfl, rfl, rfl, rfl, rfl, trivial⟩ ⟨rfl, rfl, trivial⟩ ⟨⟨0, rfl⟩, ⟨1, rfl⟩, trivial⟩), hM⟩
            · rintro a w ⟨g1719, hS, hM⟩
              unfold ref23_Parse_j3 at hM
              rcases bool2 (g1719) with hb1720 | hb1720
              · replace hM := ct hb1720 hM
                refine c_t hS rfl hb1720 ?_
                refine wp_seq_k fun K72 hK72 => ?_
                refine draws [(15, .blk (Value.ownBlock v1416))] hS mixed rfl (fun c a d v w h => by cases d <;> exact h) fun w hQ hS => ?_
                refine dy 0 (v := v1416) rfl (by kernel_rfl) (by kernel_rfl) (by kernel_rfl) rfl hQ hS (y_move hS rfl) rfl rfl rfl fun a hS => ?_
                refine dy 1 (v := .string s_0) rfl (by kernel_rfl) (by kernel_rfl) (by kernel_rfl) rfl hQ hS (y_move hS rfl) rfl rfl rfl fun a hS => ?_
                refine dy 2 (v := .int .i64 i1419) rfl (by kernel_rfl) (by kernel_rfl) (by kernel_rfl) rfl hQ hS (y_move hS rfl) rfl rfl rfl fun a hS => ?_
                refine dy 3 (v := .int .i64 (IntKind.i64.wrap (i1419 + 1))) rfl (by kernel_rfl) (by kernel_rfl) (by kernel_rfl) rfl hQ hS (y_int hS rfl rfl rfl) rfl rfl rfl fun a hS => ?_
                obtain ⟨c1757, hc1757, hM⟩ := bd hM
                refine dy 4 (v := .int .u8 (c1757.toNat : Int)) rfl (by kernel_rfl) (by kernel_rfl) (by kernel_rfl) rfl hQ hS (y_byte hS Tryd.underlying9 rfl rfl hc1757) rfl rfl rfl fun a hS => ?_
                refine dy 7 (v := .string s_0) rfl (by kernel_rfl) (by kernel_rfl) (by kernel_rfl) rfl hQ hS (y_move hS rfl) rfl rfl rfl fun a hS => ?_
                refine dy 8 (v := .int .i64 i1419) rfl (by kernel_rfl) (by kernel_rfl) (by kernel_rfl) rfl hQ hS (y_move hS rfl) rfl rfl rfl fun a hS => ?_
                refine dy 9 (v := .int .i64 (IntKind.i64.wrap (i1419 + 2))) rfl (by kernel_rfl) (by kernel_rfl) (by kernel_rfl) rfl hQ hS (y_int hS rfl rfl rfl) rfl rfl rfl fun a hS => ?_
                obtain ⟨c1758, hc1758, hM⟩ := bd hM
                refine dy 10 (v := .int .u8 (c1758.toNat : Int)) rfl (by kernel_rfl) (by kernel_rfl) (by kernel_rfl) rfl hQ hS (y_byte hS Tryd.underlying9 rfl rfl hc1758) rfl rfl rfl fun a hS => ?_
                obtain ⟨u1759, hu1759, hM⟩ := bd hM
                refine wpE_one (i := 5) rfl (by kernel_rfl) rfl (k_call hS ci71 rfl rfl (ref23_digit_c _ _ hS.dlt (hS.get 1 rfl) (c1757.toNat : Int) _ hu1759) fun _ w hR a hk hA => ⟨stN (hk), ?_⟩)
                have he := Eq.symm hR
                subst he
                have hS := hA [] (fun r hr => by cases hr) List.Pairwise.nil
                refine dy 6 (v := .int .i64 (IntKind.i64.wrap (16 * u1759))) rfl (by kernel_rfl) (by kernel_rfl) (by kernel_rfl) rfl hQ hS (y_int hS rfl rfl rfl) rfl rfl rfl fun a hS => ?_
                obtain ⟨u1761, hu1761, hM⟩ := bd hM
                refine wpE_one (i := 11) rfl (by kernel_rfl) rfl (k_call hS ci71 rfl rfl (ref23_digit_c _ _ hS.dlt (hS.get 1 rfl) (c1758.toNat : Int) _ hu1761) fun _ w hR a hk hA => ⟨stN (hk), ?_⟩)
                have he := Eq.symm hR
                subst he
                have hS := hA [] (fun r hr => by cases hr) List.Pairwise.nil
                refine dy 12 (v := .int .i64 (IntKind.i64.wrap ((IntKind.i64.wrap (16 * u1759)) + u1761))) rfl (by kernel_rfl) (by kernel_rfl) (by kernel_rfl) rfl hQ hS (y_int hS rfl rfl rfl) rfl rfl rfl fun a hS => ?_
                refine dy 13 (v := .int .u8 (IntKind.u8.wrap (IntKind.i64.wrap ((IntKind.i64.wrap (16 * u1759)) + u1761)))) rfl (by kernel_rfl) (by kernel_rfl) (by kernel_rfl) rfl hQ hS (y_conv hS rfl Tryd.underlying3 Tryd.underlying5) rfl rfl rfl fun a hS => ?_
                refine wpE_one (i := 14) rfl (by kernel_rfl) rfl (k_bslice (ps := [(0, .tmp 69)]) hS el31 ze5 (zl := [.int .u8 0]) (by kernel_rfl) rfl (us := [[.int .u8 (IntKind.u8.wrap (IntKind.i64.wrap ((IntKind.i64.wrap (16 * u1759)) + u1761)))]]) ⟨rfl, trivial⟩ (ws := [.int .u8 (IntKind.u8.wrap (IntKind.i64.wrap ((IntKind.i64.wrap (16 * u1759)) + u1761)))]) rfl rfl rfl rfl fun b1763 a w hk hS => ⟨stN (hk), ?_⟩)
                replace hS := hS.lit (R := (Rep.int .u8)) (us := [.int .u8 (IntKind.u8.wrap (IntKind.i64.wrap ((IntKind.i64.wrap (16 * u1759)) + u1761)))]) (xs := [IntKind.u8.wrap (IntKind.i64.wrap ((IntKind.i64.wrap (16 * u1759)) + u1761))]) 0 rfl (by decide) (RowsOk.one_ (R := (Rep.int .u8)) (x := IntKind.u8.wrap (IntKind.i64.wrap ((IntKind.i64.wrap (16 * u1759)) + u1761))) rfl) rfl rfl
                replace hS := hS.freeze (R := (Rep.int .u8)) 0 rfl 0 rfl
                obtain ⟨hg1765, hM⟩ := gd_some hM
                refine wpE_one (i := 15) rfl (by kernel_rfl) rfl (k_apps (R := (Rep.int .u8)) (xs := text1415) (ys := [IntKind.u8.wrap (IntKind.i64.wrap ((IntKind.i64.wrap (16 * u1759)) + u1761))]) hS el31 (by decide) (by decide) rfl rfl 0 rfl 2 rfl 0 rfl hg1765 rfl fun v1766 cl1767 a w hk hS => ⟨stM rfl hk etOwn, ?_⟩)
                refine dy 16 (v := v1766) rfl (by kernel_rfl) (by kernel_rfl) (by kernel_rfl) rfl hQ hS (y_assign hS rfl) rfl rfl rfl fun a hS => ?_
                refine wpE_done (by kernel_rfl) ?_ _
                try simp only [Exit.then, Exit.inBlock, ↓reduceIte, Nat.reduceEqDiff]
                refine hK72 _ _ ?_
                refine r_list ?_
                refine wl rfl (ky (v := .int .i64 i1419) hS (y_move hS rfl) rfl rfl fun a hS => ?_)
                refine wl rfl (ky (v := .int .i64 (IntKind.i64.wrap (i1419 + 2))) hS (y_int hS rfl rfl rfl) rfl rfl fun a hS => ?_)
                refine wl rfl (ky (v := .int .i64 (IntKind.i64.wrap (i1419 + 2))) hS (y_assign hS rfl) rfl rfl fun a hS => ?_)
                refine wpList_nil ?_
                try simp only [Exit.then, Exit.inBlock, ↓reduceIte, Nat.reduceEqDiff]
                exact ⟨(text1415 ++ ([IntKind.u8.wrap (IntKind.i64.wrap ((IntKind.i64.wrap (16 * u1759)) + u1761))])), (IntKind.i64.wrap (i1419 + 2)), v1766, cl1767, (hS.meet [0, 1] (by decide) ⟨rfl, rfl, rfl, rfl, rfl, trivial⟩ ⟨rfl, rfl, trivial⟩ ⟨⟨0, rfl⟩, ⟨4, rfl⟩, trivial⟩), hM⟩
              · replace hM := cf hb1720 hM
                refine c_f hS rfl hb1720 ?_
                refine r_list ?_
                refine wl rfl (ky (v := v1416) hS (y_move hS rfl) rfl rfl fun a hS => ?_)
                refine wl rfl (ky (v := .string s_0) hS (y_move hS rfl) rfl rfl fun a hS => ?_)
                refine wl rfl (ky (v := .int .i64 i1419) hS (y_move hS rfl) rfl rfl fun a hS => ?_)
                obtain ⟨c1769, hc1769, hM⟩ := bd hM
                refine wl rfl (ky (v := .int .u8 (c1769.toNat : Int)) hS (y_byte hS Tryd.underlying9 rfl rfl hc1769) rfl rfl fun a hS => ?_)
                refine wl rfl (k_bslice (ps := [(0, .tmp 77)]) hS el31 ze5 (zl := [.int .u8 0]) (by kernel_rfl) rfl (us := [[.int .u8 (c1769.toNat : Int)]]) ⟨rfl, trivial⟩ (ws := [.int .u8 (c1769.toNat : Int)]) rfl rfl rfl rfl fun b1770 a w hk hS => ?_)
                replace hS := hS.lit (R := (Rep.int .u8)) (us := [.int .u8 (c1769.toNat : Int)]) (xs := [(c1769.toNat : Int)]) 0 rfl (by decide) (RowsOk.one_ (R := (Rep.int .u8)) (x := (c1769.toNat : Int)) rfl) rfl rfl
                replace hS := hS.freeze (R := (Rep.int .u8)) 0 rfl 0 rfl
                obtain ⟨hg1772, hM⟩ := gd_some hM
                refine wl rfl (k_apps (R := (Rep.int .u8)) (xs := text1415) (ys := [(c1769.toNat : Int)]) hS el31 (by decide) (by decide) rfl rfl 0 rfl 2 rfl 0 rfl hg1772 rfl fun v1773 cl1774 a w hk hS => ?_)
                refine wl rfl (ky (v := v1773) hS (y_assign hS rfl) rfl rfl fun a hS => ?_)
                refine wpList_nil ?_
                try simp only [Exit.then, Exit.inBlock, ↓reduceIte, Nat.reduceEqDiff]
                exact ⟨(text1415 ++ ([(c1769.toNat : Int)])), i1419, v1773, cl1774, (hS.meet [0, 1] (by decide) ⟨rfl, rfl, rfl, rfl, rfl, trivial⟩ ⟨rfl, rfl, trivial⟩ ⟨⟨0, rfl⟩, ⟨4, rfl⟩, trivial⟩), hM⟩
          · rintro a w ⟨text1694, i1698, v1695, cl1696, hS, hM⟩
            unfold ref23_Parse_j2 at hM
            refine r_list ?_
            refine wl rfl (ky (v := .int .i64 i1698) hS (y_move hS rfl) rfl rfl fun a hS => ?_)
            refine wl rfl (ky (v := .int .i64 (IntKind.i64.wrap (i1698 + 1))) hS (y_int hS rfl rfl rfl) rfl rfl fun a hS => ?_)
            refine wl rfl (ky (v := .int .i64 (IntKind.i64.wrap (i1698 + 1))) hS (y_assign hS rfl) rfl rfl fun a hS => ?_)
            refine wpList_nil ?_
            try simp only [Exit.then, Exit.inBlock, ↓reduceIte, Nat.reduceEqDiff]
            exact ⟨(text1694, IntKind.i64.wrap (i1698 + 1)), (Option.some.inj hM).symm, text1694, (IntKind.i64.wrap (i1698 + 1)), v1695, cl1696, rfl, (hS.meet [0, 1] (by decide) ⟨rfl, rfl, rfl, rfl, rfl, trivial⟩ ⟨rfl, rfl, trivial⟩ ⟨⟨0, rfl⟩, ⟨1, rfl⟩, trivial⟩)⟩
        · replace hM := cf hb1606 hM
          refine c_f hS rfl hb1606 ?_
          refine wp_exit ?_
          try simp only [Exit.then, Exit.inBlock, ↓reduceIte, Nat.reduceEqDiff]
          injection hM with hM
          subst hM
          have hr := hf1 _ rfl
          subst hr
          have hM : ref23_Parse_j1 s_0 u818 text1415 = some y := hMo1
          exact ⟨text1415, v1416, cl1417, (hS.meet [0, 1] (by decide) ⟨rfl, rfl, rfl, rfl, trivial⟩ ⟨rfl, rfl, trivial⟩ ⟨⟨0, rfl⟩, ⟨1, rfl⟩, trivial⟩), hM⟩
      · rintro a w ⟨text1206, v1207, cl1208, hS, hM⟩
        unfold ref23_Parse_j1 at hM
        refine wp_seq_k fun K54 hK54 => ?_
        refine r_list ?_
        refine wl rfl (ky (v := .int .i64 u818) hS (y_move hS rfl) rfl rfl fun a hS => ?_)
        refine wl rfl (ky (v := v1207) hS (y_move hS rfl) rfl rfl fun a hS => ?_)
        refine wl rfl (ky (v := .string (strI text1206)) hS (y_b2so hS rfl Tryd.underlying31 Tryd.underlying5 Tryd.underlying9 0 rfl 0 rfl (fun _ _ h => h)) rfl rfl fun a hS => ?_)
        refine wl rfl (ky (v := .agg #[.int .i64 u818, .string (strI text1206)]) hS (y_build (ps := [(0, .tmp 80), (1, .tmp 82)]) hS pl28 ze28 rfl (us := [[.int .i64 u818], [.string (strI text1206)]]) ⟨rfl, ⟨rfl, trivial⟩⟩ (ws := [.int .i64 u818, .string (strI text1206)]) rfl) rfl rfl fun a hS => ?_)
        refine wl rfl (k_alloc hS ze28 rfl fun b1210 hnb1212 a w hk hS => ?_)
        refine wl rfl (k_store hS rfl rfl (us := [.int .i64 u818, .string (strI text1206)]) rfl ty28 0 rfl rfl rfl (oc rfl (oc rfl on)) fun w hk hS => ?_)
        refine wpList_nil ?_
        try simp only [Exit.then, Exit.inBlock, ↓reduceIte, Nat.reduceEqDiff]
        refine hK54 _ _ ?_
        refine wp_seq_k fun K55 hK55 => ?_
        refine wp_seq_k fun K56 hK56 => ?_
        refine r_list ?_
        refine wl rfl (ky (v := .agg #[.int .i64 u818, .string (strI text1206)]) hS (y_load hS rfl ty28 0 rfl id (us := [.int .i64 u818, .string (strI text1206)]) rfl rfl (fun h => by cases h)) rfl rfl fun a hS => ?_)
        obtain ⟨u1216, hu1216, hM⟩ := bd hM
        refine wl rfl (k_call hS ci17 rfl rfl (ref23_Print_c _ _ hS.dlt (hS.get 1 rfl) (KeyD.mk u818 (strI text1206)) _ hu1216) fun _ w hR a hk hA => ?_)
        have he := Eq.symm hR
        subst he
        have hS := hA [] (fun r hr => by cases hr) List.Pairwise.nil
        refine wl rfl (ky (v := .string s_0) hS (y_move hS rfl) rfl rfl fun a hS => ?_)
        refine wl rfl (ky (v := .bool (!(u1216.toList == s_0.toList))) hS (y_str hS rfl rfl rfl) rfl rfl fun a hS => ?_)
        refine wl rfl (ky (v := .bool (!(u1216.toList == s_0.toList))) hS (y_move hS rfl) rfl rfl fun a hS => ?_)
        rcases bool2 (!(u1216.toList == s_0.toList)) with hb1218 | hb1218
        · replace hM := ct hb1218 hM
          refine wn hS rfl rfl rfl hb1218 rfl rfl fun a hS => ?_
          refine wn hS rfl rfl rfl hb1218 rfl rfl fun a hS => ?_
          refine wl rfl (ky (v := .bool true) hS (y_pickt hS rfl hb1218 rfl) rfl rfl fun a hS => ?_)
          refine wpList_nil ?_
          try simp only [Exit.then, Exit.inBlock, ↓reduceIte, Nat.reduceEqDiff]
          refine hK56 _ _ ?_
          refine c_t hS rfl rfl ?_
          refine wp_seq_k fun K57 hK57 => ?_
          refine r_list ?_
          refine wl rfl (ky (v := .agg #[.int .i64 0, .string (ByteArray.mk #[])]) hS (y_build (ps := []) hS pl28 ze28 rfl (us := []) trivial (ws := [.int .i64 0, .string (ByteArray.mk #[])]) rfl) rfl rfl fun a hS => ?_)
          refine wl rfl (k_store hS rfl rfl (us := [.int .i64 0, .string (ByteArray.mk #[])]) rfl ty28 2 rfl rfl rfl (oc rfl (oc rfl on)) fun w hk hS => ?_)
          refine wl rfl (ky (v := .int .i64 5) hS (y_assign hS rfl) rfl rfl fun a hS => ?_)
          refine wpList_nil ?_
          try simp only [Exit.then, Exit.inBlock, ↓reduceIte, Nat.reduceEqDiff]
          refine hK57 _ _ ?_
          refine wp_ret ?_
          injection hM with hM
          subst hM
          try simp only [Exit.then, Exit.inBlock, ↓reduceIte, Nat.reduceEqDiff]
          refine ret_ok hS Tryd.results20 (res_cell hS rfl 2 rfl ty28 rfl (fun h => by cases h) (res_tmp hS rfl res_nil)) ?_
          exact rfl
        · replace hM := cf hb1218 hM
          refine wg hS rfl rfl rfl hb1218 (ky (v := .string s_0) hS (y_move hS rfl) rfl rfl fun a hS => ?_)
          refine wg hS rfl rfl rfl hb1218 (ky (v := .bool (s_0.toList == (ByteArray.mk #[]).toList)) hS (y_str hS rfl rfl rfl) rfl rfl fun a hS => ?_)
          refine wl rfl (ky (v := .bool (s_0.toList == (ByteArray.mk #[]).toList)) hS (y_pickf hS rfl hb1218 rfl) rfl rfl fun a hS => ?_)
          refine wpList_nil ?_
          try simp only [Exit.then, Exit.inBlock, ↓reduceIte, Nat.reduceEqDiff]
          refine hK56 _ _ ?_
          rcases bool2 (s_0.toList == (ByteArray.mk #[]).toList) with hb1219 | hb1219
          · replace hM := ct hb1219 hM
            refine c_t hS rfl hb1219 ?_
            refine wp_seq_k fun K58 hK58 => ?_
            refine r_list ?_
            refine wl rfl (ky (v := .agg #[.int .i64 0, .string (ByteArray.mk #[])]) hS (y_build (ps := []) hS pl28 ze28 rfl (us := []) trivial (ws := [.int .i64 0, .string (ByteArray.mk #[])]) rfl) rfl rfl fun a hS => ?_)
            refine wl rfl (k_store hS rfl rfl (us := [.int .i64 0, .string (ByteArray.mk #[])]) rfl ty28 2 rfl rfl rfl (oc rfl (oc rfl on)) fun w hk hS => ?_)
            refine wl rfl (ky (v := .int .i64 5) hS (y_assign hS rfl) rfl rfl fun a hS => ?_)
            refine wpList_nil ?_
            try simp only [Exit.then, Exit.inBlock, ↓reduceIte, Nat.reduceEqDiff]
            refine hK58 _ _ ?_
            refine wp_ret ?_
            injection hM with hM
            subst hM
            try simp only [Exit.then, Exit.inBlock, ↓reduceIte, Nat.reduceEqDiff]
            refine ret_ok hS Tryd.results20 (res_cell hS rfl 2 rfl ty28 rfl (fun h => by cases h) (res_tmp hS rfl res_nil)) ?_
            exact rfl
          · replace hM := cf hb1219 hM
            refine c_f hS rfl hb1219 ?_
            refine wp_skip ?_
            try simp only [Exit.then, Exit.inBlock, ↓reduceIte, Nat.reduceEqDiff]
            refine hK55 _ _ ?_
            refine wp_seq_k fun K59 hK59 => ?_
            refine r_list ?_
            refine wl rfl (ky (v := .agg #[.int .i64 u818, .string (strI text1206)]) hS (y_load hS rfl ty28 0 rfl id (us := [.int .i64 u818, .string (strI text1206)]) rfl rfl (fun h => by cases h)) rfl rfl fun a hS => ?_)
            refine wl rfl (k_store hS rfl rfl (us := [.int .i64 u818, .string (strI text1206)]) rfl ty28 2 rfl rfl rfl (oc rfl (oc rfl on)) fun w hk hS => ?_)
            refine wl rfl (ky (v := .int .i64 0) hS (y_assign hS rfl) rfl rfl fun a hS => ?_)
            refine wpList_nil ?_
            try simp only [Exit.then, Exit.inBlock, ↓reduceIte, Nat.reduceEqDiff]
            refine hK59 _ _ ?_
            refine wp_ret ?_
            injection hM with hM
            subst hM
            try simp only [Exit.then, Exit.inBlock, ↓reduceIte, Nat.reduceEqDiff]
            refine ret_ok hS Tryd.results20 (res_cell hS rfl 2 rfl ty28 rfl (fun h => by cases h) (res_tmp hS rfl res_nil)) ?_
            exact rfl

noncomputable def law23_KeyTexts_j1 : Option Bool := (law23_awake).bind fun u1557 => some (u1557)
noncomputable def law23_KeyTexts_j2 (g1813 : Int) (s2182 : ByteArray) : Option (Fl (ByteArray × Int) (Fl (Unit) Bool)) := some (.go (s2182, IntKind.i64.wrap (g1813 + 1)))
noncomputable def law23_KeyTexts_l3 (u2195 : ByteArray) (s2219 : ByteArray) (g2253 : (List ByteArray)) (g2257 : Int) : Option (Fl ((List ByteArray) × Int) (Fl (ByteArray) Bool)) := cond (decide ((g2257 : Int) < (([u2195, s2219, (ByteArray.mk #[48, 50, 58, 97]), (ByteArray.mk #[50, 58, 37, 50, 48]), (ByteArray.mk #[50, 58, 37, 50, 102]), (ByteArray.mk #[50, 58, 37]), (ByteArray.mk #[51, 49, 58, 53]), (ByteArray.mk #[43, 50, 58, 97])]).length : Int))) ((getI g2253 g2257).bind fun e2286 => (key_Parse e2286).bind fun u2294 => (ref23_Parse e2286).bind fun u2299 => cond (!((u2294.1.Kind : Int) == u2299.1.Kind && u2294.1.Text.toList == u2299.1.Text.toList)) (some (.out (.out false))) (cond ((u2294.2 : Int) != u2299.2) (some (.out (.out false))) (some (.go (g2253, IntKind.i64.wrap (g2257 + 1)))))) (some (.out (.go s2219)))
noncomputable def law23_KeyTexts_j4 (g1813 : Int) (u2195 : ByteArray) (s2219 : ByteArray) : Option (Fl (ByteArray × Int) (Fl (Unit) Bool)) := (loop (fun s : (List ByteArray) × Int => law23_KeyTexts_l3 u2195 s2219 s.1 s.2) ([u2195, s2219, (ByteArray.mk #[48, 50, 58, 97]), (ByteArray.mk #[50, 58, 37, 50, 48]), (ByteArray.mk #[50, 58, 37, 50, 102]), (ByteArray.mk #[50, 58, 37]), (ByteArray.mk #[51, 49, 58, 53]), (ByteArray.mk #[43, 50, 58, 97])], 0)).bind fun r => Fl.el r (fun s => law23_KeyTexts_j2 g1813 s) (fun y => some (.out (.out y)))
noncomputable def law23_KeyTexts_l5 (raw_ : (List KeyD)) (at_3 : Int) (by_4 : Int) (u1559 : (List KeyD)) (s1812 : ByteArray) (g1813 : Int) : Option (Fl (ByteArray × Int) (Fl (Unit) Bool)) := cond (decide ((g1813 : Int) < ((u1559 ++ raw_).length : Int))) ((getI (u1559 ++ raw_) g1813).bind fun e2183 => cond (decide ((500 : Int) < (e2183.Text.size : Int))) (law23_KeyTexts_j2 g1813 s1812) ((key_Print e2183).bind fun u2195 => (ref23_Print e2183).bind fun u2197 => cond (!(u2195.toList == u2197.toList)) (some (.out (.out false))) (cond (decide ((0 : Int) < (u2195.size : Int))) ((mill_Mod at_3 (u2195.size : Int)).bind fun u2308 => (subS u2195 0 u2308).bind fun s2318 => (mill_Mod (IntKind.i64.wrap (Int.tdiv by_4 256)) 2).bind fun u2319 => gd (Nat.ble (s2318.size + (strI ([IntKind.u8.wrap by_4])).size) 140737488355328) <| (subS u2195 (IntKind.i64.wrap (u2308 + u2319)) u2195.size).bind fun s2324 => gd (Nat.ble ((s2318 ++ (strI ([IntKind.u8.wrap by_4]))).size + s2324.size) 140737488355328) <| law23_KeyTexts_j4 g1813 u2195 ((s2318 ++ (strI ([IntKind.u8.wrap by_4]))) ++ s2324)) (law23_KeyTexts_j4 g1813 u2195 s1812)))) (some (.out (.go ())))
noncomputable def law23_KeyTexts (raw_ : (List KeyD)) (t_1 : (List Int)) (s_2 : ByteArray) (at_3 : Int) (by_4 : Int) : Option Bool := cond (decide ((20 : Int) < (raw_.length : Int))) ((law23_awake).bind fun u1046 => some (u1046)) ((mill_Light t_1).bind fun u1048 => cond (!(u1048)) ((law23_awake).bind fun u1051 => some (u1051)) (cond (decide ((500 : Int) < (s_2.size : Int))) ((law23_awake).bind fun u1054 => some (u1054)) ((law23_keys t_1).bind fun u1559 => gd (roomB (u1559.length + raw_.length)) <| (loop (fun s : ByteArray × Int => law23_KeyTexts_l5 raw_ at_3 by_4 u1559 s.1 s.2) (s_2, 0)).bind fun r => Fl.el r (fun s => law23_KeyTexts_j1) (fun y => some (y)))))
set_option maxRecDepth 100000 in
set_option maxHeartbeats 4000000 in
theorem law23_KeyTexts_c (T : Nat → Prop) (W0 : World) (hT : ∀ k, T k → k < W0.heap.size) (hLv : LvP T W0) (raw_ : (List KeyD)) (t_1 : (List Int)) (s_2 : ByteArray) (at_3 : Int) (by_4 : Int) (v1 : Value) (v2 : Value) (hv1 : SlR R_KeyD T W0 v1 raw_) (hv2 : SlR (Rep.int .i64) T W0 v2 t_1) (y : Bool) (hM : law23_KeyTexts raw_ t_1 s_2 at_3 by_4 = some y) : Rets Tryd.prog No 3 [v1, v2, .string s_2, .int .i64 at_3, .int .i64 by_4] W0 (fun v w' => v = .bool y) := by
  refine enter (c := _) Tryd.func3 rfl T 106 Tryd.ntmps3 hT rfl fun a hS => ?_
  replace hS := hS.fact LvF (LvP.dn hLv)
  replace hS := hS.fact (SlF R_KeyD v1 raw_) (SlR.dn hv1)
  replace hS := hS.fact (SlF (Rep.int .i64) v2 t_1) (SlR.dn hv2)
  unfold law23_KeyTexts at hM
  refine wp_seq_k fun K258 hK258 => ?_
  refine r_list ?_
  refine wl rfl (ky (v := .bool false) hS (y_assign hS rfl) rfl rfl fun a hS => ?_)
  refine wpList_nil ?_
  try simp only [Exit.then, Exit.inBlock, ↓reduceIte, Nat.reduceEqDiff]
  refine hK258 _ _ ?_
  refine wp_seq_k fun K259 hK259 => ?_
  refine wp_seq_k fun K260 hK260 => ?_
  refine r_list ?_
  refine wl rfl (ky (v := v1) hS (y_move hS rfl) rfl rfl fun a hS => ?_)
  refine wl rfl (ky (v := .int .i64 (raw_.length : Int)) hS (y_len (R := R_KeyD) (xs := raw_) hS sl22 rfl 1 rfl) rfl rfl fun a hS => ?_)
  refine wl rfl (ky (v := .bool (decide ((20 : Int) < (raw_.length : Int)))) hS (y_int hS rfl rfl rfl) rfl rfl fun a hS => ?_)
  refine wl rfl (ky (v := .bool (decide ((20 : Int) < (raw_.length : Int)))) hS (y_move hS rfl) rfl rfl fun a hS => ?_)
  rcases bool2 (decide ((20 : Int) < (raw_.length : Int))) with hb1045 | hb1045
  · replace hM := ct hb1045 hM
    refine wn hS rfl rfl rfl hb1045 rfl rfl fun a hS => ?_
    refine wn hS rfl rfl rfl hb1045 rfl rfl fun a hS => ?_
    refine wn hS rfl rfl rfl hb1045 rfl rfl fun a hS => ?_
    refine wl rfl (ky (v := .bool true) hS (y_pickt hS rfl hb1045 rfl) rfl rfl fun a hS => ?_)
    refine wl rfl (ky (v := .bool true) hS (y_move hS rfl) rfl rfl fun a hS => ?_)
    refine wn hS rfl rfl rfl rfl rfl rfl fun a hS => ?_
    refine wn hS rfl rfl rfl rfl rfl rfl fun a hS => ?_
    refine wn hS rfl rfl rfl rfl rfl rfl fun a hS => ?_
    refine wl rfl (ky (v := .bool true) hS (y_pickt hS rfl rfl rfl) rfl rfl fun a hS => ?_)
    refine wpList_nil ?_
    try simp only [Exit.then, Exit.inBlock, ↓reduceIte, Nat.reduceEqDiff]
    refine hK260 _ _ ?_
    refine c_t hS rfl rfl ?_
    refine wp_seq_k fun K261 hK261 => ?_
    refine r_list ?_
    obtain ⟨u1046, hu1046, hM⟩ := bd hM
    refine wl rfl (k_call hS ci14 rfl rfl (law23_awake_c _ _ hS.dlt (hS.get 2 rfl) _ hu1046) fun _ w hR a hk hA => ?_)
    have he := Eq.symm hR
    subst he
    have hS := hA [] (fun r hr => by cases hr) List.Pairwise.nil
    refine wl rfl (ky (v := .bool u1046) hS (y_assign hS rfl) rfl rfl fun a hS => ?_)
    refine wpList_nil ?_
    try simp only [Exit.then, Exit.inBlock, ↓reduceIte, Nat.reduceEqDiff]
    refine hK261 _ _ ?_
    refine wp_ret ?_
    injection hM with hM
    subst hM
    try simp only [Exit.then, Exit.inBlock, ↓reduceIte, Nat.reduceEqDiff]
    refine ret_ok hS Tryd.results3 (res_tmp hS rfl res_nil) ?_
    exact rfl
  · replace hM := cf hb1045 hM
    refine wg hS rfl rfl rfl hb1045 (ky (v := v2) hS (y_move hS rfl) rfl rfl fun a hS => ?_)
    obtain ⟨u1048, hu1048, hM⟩ := bd hM
    refine wg hS rfl rfl rfl hb1045 (k_call hS ci13 rfl rfl (mill_Light_c _ _ hS.dlt t_1 _ (hS.get 0 rfl) _ hu1048) fun _ w hR a hk hA => ?_)
    have he := Eq.symm hR
    subst he
    have hS := hA [] (fun r hr => by cases hr) List.Pairwise.nil
    refine wg hS rfl rfl rfl hb1045 (ky (v := .bool (!(u1048))) hS (y_not hS rfl) rfl rfl fun a hS => ?_)
    refine wl rfl (ky (v := .bool (!(u1048))) hS (y_pickf hS rfl hb1045 rfl) rfl rfl fun a hS => ?_)
    refine wl rfl (ky (v := .bool (!(u1048))) hS (y_move hS rfl) rfl rfl fun a hS => ?_)
    rcases bool2 (!(u1048)) with hb1050 | hb1050
    · replace hM := ct hb1050 hM
      refine wn hS rfl rfl rfl hb1050 rfl rfl fun a hS => ?_
      refine wn hS rfl rfl rfl hb1050 rfl rfl fun a hS => ?_
      refine wn hS rfl rfl rfl hb1050 rfl rfl fun a hS => ?_
      refine wl rfl (ky (v := .bool true) hS (y_pickt hS rfl hb1050 rfl) rfl rfl fun a hS => ?_)
      refine wpList_nil ?_
      try simp only [Exit.then, Exit.inBlock, ↓reduceIte, Nat.reduceEqDiff]
      refine hK260 _ _ ?_
      refine c_t hS rfl rfl ?_
      refine wp_seq_k fun K262 hK262 => ?_
      refine r_list ?_
      obtain ⟨u1051, hu1051, hM⟩ := bd hM
      refine wl rfl (k_call hS ci14 rfl rfl (law23_awake_c _ _ hS.dlt (hS.get 2 rfl) _ hu1051) fun _ w hR a hk hA => ?_)
      have he := Eq.symm hR
      subst he
      have hS := hA [] (fun r hr => by cases hr) List.Pairwise.nil
      refine wl rfl (ky (v := .bool u1051) hS (y_assign hS rfl) rfl rfl fun a hS => ?_)
      refine wpList_nil ?_
      try simp only [Exit.then, Exit.inBlock, ↓reduceIte, Nat.reduceEqDiff]
      refine hK262 _ _ ?_
      refine wp_ret ?_
      injection hM with hM
      subst hM
      try simp only [Exit.then, Exit.inBlock, ↓reduceIte, Nat.reduceEqDiff]
      refine ret_ok hS Tryd.results3 (res_tmp hS rfl res_nil) ?_
      exact rfl
    · replace hM := cf hb1050 hM
      refine wg hS rfl rfl rfl hb1050 (ky (v := .string s_2) hS (y_move hS rfl) rfl rfl fun a hS => ?_)
      refine wg hS rfl rfl rfl hb1050 (ky (v := .int .i64 (s_2.size : Int)) hS (y_lens hS Tryd.underlying9 rfl) rfl rfl fun a hS => ?_)
      refine wg hS rfl rfl rfl hb1050 (ky (v := .bool (decide ((500 : Int) < (s_2.size : Int)))) hS (y_int hS rfl rfl rfl) rfl rfl fun a hS => ?_)
      refine wl rfl (ky (v := .bool (decide ((500 : Int) < (s_2.size : Int)))) hS (y_pickf hS rfl hb1050 rfl) rfl rfl fun a hS => ?_)
      refine wpList_nil ?_
      try simp only [Exit.then, Exit.inBlock, ↓reduceIte, Nat.reduceEqDiff]
      refine hK260 _ _ ?_
      rcases bool2 (decide ((500 : Int) < (s_2.size : Int))) with hb1053 | hb1053
      · replace hM := ct hb1053 hM
        refine c_t hS rfl hb1053 ?_
        refine wp_seq_k fun K263 hK263 => ?_
        refine r_list ?_
        obtain ⟨u1054, hu1054, hM⟩ := bd hM
        refine wl rfl (k_call hS ci14 rfl rfl (law23_awake_c _ _ hS.dlt (hS.get 2 rfl) _ hu1054) fun _ w hR a hk hA => ?_)
        have he := Eq.symm hR
        subst he
        have hS := hA [] (fun r hr => by cases hr) List.Pairwise.nil
        refine wl rfl (ky (v := .bool u1054) hS (y_assign hS rfl) rfl rfl fun a hS => ?_)
        refine wpList_nil ?_
        try simp only [Exit.then, Exit.inBlock, ↓reduceIte, Nat.reduceEqDiff]
        refine hK263 _ _ ?_
        refine wp_ret ?_
        injection hM with hM
        subst hM
        try simp only [Exit.then, Exit.inBlock, ↓reduceIte, Nat.reduceEqDiff]
        refine ret_ok hS Tryd.results3 (res_tmp hS rfl res_nil) ?_
        exact rfl
      · replace hM := cf hb1053 hM
        refine c_f hS rfl hb1053 ?_
        refine wp_skip ?_
        try simp only [Exit.then, Exit.inBlock, ↓reduceIte, Nat.reduceEqDiff]
        refine hK259 _ _ ?_
        refine seq_j (J := fun a w => St W0 No T 106 [] [] [LvF] a w ∧ law23_KeyTexts_j1 = some y) ?_ ?_
        · skip
          refine wp_seq_k fun K390 hK390 => ?_
          refine r_list ?_
          refine wl rfl (ky (v := v2) hS (y_move hS rfl) rfl rfl fun a hS => ?_)
          obtain ⟨u1559, hu1559, hM⟩ := bd hM
          refine wl rfl (k_call hS ci15 rfl rfl (law23_keys_c _ _ hS.dlt t_1 _ (hS.get 0 rfl) _ hu1559) fun _ w hR a hk hA => ?_)
          obtain ⟨vz1560_2, clz1560_3, he, ⟨hOvz1560_2, hFvz1560_2, hRvz1560_2⟩⟩ := hR
          replace he := he.symm
          subst he
          have hS := hA [.own vz1560_2 28 R_KeyD.size clz1560_3] (adds1 ⟨hOvz1560_2, by decide⟩ hFvz1560_2) (pw1 _)
          replace hS := hS.fact (RowsF R_KeyD clz1560_3 u1559) (hRvz1560_2.keep (Kt.refl _ _) (dT_dT _))
          refine wl rfl (ky (v := v1) hS (y_move hS rfl) rfl rfl fun a hS => ?_)
          obtain ⟨hg1562, hM⟩ := gd_some hM
          refine wl rfl (k_apps (R := R_KeyD) (xs := u1559) (ys := raw_) hS el22 (by decide) (by decide) rfl rfl 0 rfl 0 rfl 2 rfl hg1562 rfl fun v1563 cl1564 a w hk hS => ?_)
          refine wl rfl (ky (v := .int .i64 ((u1559 ++ raw_).length : Int)) hS (y_leno (R := R_KeyD) (xs := (u1559 ++ raw_)) hS sl22 rfl 0 rfl 0 rfl) rfl rfl fun a hS => ?_)
          refine wl rfl (ky (v := .int .i64 0) hS (y_move hS rfl) rfl rfl fun a hS => ?_)
          refine wpList_nil ?_
          try simp only [Exit.then, Exit.inBlock, ↓reduceIte, Nat.reduceEqDiff]
          refine hK390 _ _ ?_
          refine wp_block ?_
          obtain ⟨r1, hl1, hMo1⟩ := bd hM
          refine wp_lp (fun s : ByteArray × Int => law23_KeyTexts_l5 raw_ at_3 by_4 u1559 s.1 s.2) (fun s a w => ∃ (s1812 : ByteArray) (g1813 : Int), (s1812, g1813) = s ∧ St W0 No T 106 [(2, .string s1812), (3, .int .i64 at_3), (4, .int .i64 by_4), (38, v1563), (39, .int .i64 ((u1559 ++ raw_).length : Int)), (40, .int .i64 g1813)] [.own v1563 28 R_KeyD.size cl1564] [RowsF R_KeyD cl1564 (u1559 ++ raw_), LvF] a w) hl1 ⟨s_2, 0, rfl, (hS.meet [0] (by decide) ⟨rfl, rfl, rfl, rfl, rfl, rfl, trivial⟩ ⟨rfl, trivial⟩ ⟨⟨0, rfl⟩, ⟨4, rfl⟩, trivial⟩)⟩ ?_
          rintro s a w f1 ⟨s1812, g1813, rfl, hS⟩ hM hf1
          have hM : law23_KeyTexts_l5 raw_ at_3 by_4 u1559 s1812 g1813 = some f1 := hM
          unfold law23_KeyTexts_l5 at hM
          refine wp_seq_k fun K515 hK515 => ?_
          refine r_list ?_
          refine wl rfl (ky (v := .bool (decide ((g1813 : Int) < ((u1559 ++ raw_).length : Int)))) hS (y_int hS rfl rfl rfl) rfl rfl fun a hS => ?_)
          refine wpList_nil ?_
          try simp only [Exit.then, Exit.inBlock, ↓reduceIte, Nat.reduceEqDiff]
          refine hK515 _ _ ?_
          refine wp_seq_k fun K516 hK516 => ?_
          rcases bool2 (decide ((g1813 : Int) < ((u1559 ++ raw_).length : Int))) with hb2060 | hb2060
          · replace hM := ct hb2060 hM
            refine c_t hS rfl hb2060 ?_
            refine wp_skip ?_
            try simp only [Exit.then, Exit.inBlock, ↓reduceIte, Nat.reduceEqDiff]
            refine hK516 _ _ ?_
            refine seq_j (J := fun a w => ∃ (s2182 : ByteArray), St W0 No T 106 [(2, .string s2182), (3, .int .i64 at_3), (4, .int .i64 by_4), (38, v1563), (39, .int .i64 ((u1559 ++ raw_).length : Int)), (40, .int .i64 g1813)] [.own v1563 28 R_KeyD.size cl1564] [RowsF R_KeyD cl1564 (u1559 ++ raw_), LvF] a w ∧ law23_KeyTexts_j2 g1813 s2182 = some f1) ?_ ?_
            · skip
              refine wp_block ?_
              refine wp_seq_k fun K547 hK547 => ?_
              refine r_list ?_
              obtain ⟨e2183, he2183, hM⟩ := bd hM
              refine wl rfl (k_indexo (R := R_KeyD) hS sl22 ty28 rfl rfl 0 rfl 0 rfl he2183 rfl fun b2184 o2185 p2190 cs2187 hr2186 hO2188 hC2189 a hS => ?_)
              obtain rfl := hr2186
              refine wl rfl (ky (v := .agg #[.int .i64 e2183.Kind, .string e2183.Text]) hS (y_loado (k := 0) hS ty28 0 rfl hO2188 hC2189 rfl id (us := [.int .i64 e2183.Kind, .string e2183.Text]) rfl rfl (fun h => by cases h)) rfl rfl fun a hS => ?_)
              refine wl rfl (k_alloc hS ze28 rfl fun b2191 hnb2193 a w hk hS => ?_)
              refine wl rfl (k_store hS rfl rfl (us := [.int .i64 e2183.Kind, .string e2183.Text]) rfl ty28 0 rfl rfl rfl (oc rfl (oc rfl on)) fun w hk hS => ?_)
              refine wpList_nil ?_
              try simp only [Exit.then, Exit.inBlock, ↓reduceIte, Nat.reduceEqDiff]
              refine hK547 _ _ ?_
              refine wp_seq_k fun K548 hK548 => ?_
              refine wp_seq_k fun K549 hK549 => ?_
              refine r_list ?_
              refine wl rfl (ky (v := .pointer (some ⟨b2191, 0 + 1, none⟩)) hS (y_fld hS rfl fl28_1) rfl rfl fun a hS => ?_)
              refine wl rfl (ky (v := .string e2183.Text) hS (y_load hS rfl ty9 0 rfl id (us := [.string e2183.Text]) rfl rfl (fun _ => rfl)) rfl rfl fun a hS => ?_)
              refine wl rfl (ky (v := .int .i64 (e2183.Text.size : Int)) hS (y_lens hS Tryd.underlying9 rfl) rfl rfl fun a hS => ?_)
              refine wl rfl (ky (v := .bool (decide ((500 : Int) < (e2183.Text.size : Int)))) hS (y_int hS rfl rfl rfl) rfl rfl fun a hS => ?_)
              refine wpList_nil ?_
              try simp only [Exit.then, Exit.inBlock, ↓reduceIte, Nat.reduceEqDiff]
              refine hK549 _ _ ?_
              rcases bool2 (decide ((500 : Int) < (e2183.Text.size : Int))) with hb2194 | hb2194
              · replace hM := ct hb2194 hM
                refine c_t hS rfl hb2194 ?_
                refine wp_exit ?_
                try simp only [Exit.then, Exit.inBlock, ↓reduceIte, Nat.reduceEqDiff]
                exact ⟨s1812, (hS.meet [1] (by decide) ⟨rfl, rfl, rfl, rfl, rfl, rfl, trivial⟩ ⟨rfl, trivial⟩ ⟨⟨0, rfl⟩, ⟨1, rfl⟩, trivial⟩), hM⟩
              · replace hM := cf hb2194 hM
                refine c_f hS rfl hb2194 ?_
                refine wp_skip ?_
                try simp only [Exit.then, Exit.inBlock, ↓reduceIte, Nat.reduceEqDiff]
                refine hK548 _ _ ?_
                refine wp_seq_k fun K550 hK550 => ?_
                refine r_list ?_
                refine wl rfl (ky (v := .agg #[.int .i64 e2183.Kind, .string e2183.Text]) hS (y_load hS rfl ty28 0 rfl id (us := [.int .i64 e2183.Kind, .string e2183.Text]) rfl rfl (fun h => by cases h)) rfl rfl fun a hS => ?_)
                obtain ⟨u2195, hu2195, hM⟩ := bd hM
                refine wl rfl (k_call hS ci16 rfl rfl (key_Print_c _ _ hS.dlt (hS.get 1 rfl) e2183 _ hu2195) fun _ w hR a hk hA => ?_)
                have he := Eq.symm hR
                subst he
                have hS := hA [] (fun r hr => by cases hr) List.Pairwise.nil
                refine wl rfl (ky (v := .string u2195) hS (y_assign hS rfl) rfl rfl fun a hS => ?_)
                refine wpList_nil ?_
                try simp only [Exit.then, Exit.inBlock, ↓reduceIte, Nat.reduceEqDiff]
                refine hK550 _ _ ?_
                refine wp_seq_k fun K551 hK551 => ?_
                refine wp_seq_k fun K552 hK552 => ?_
                refine r_list ?_
                refine wl rfl (ky (v := .string u2195) hS (y_move hS rfl) rfl rfl fun a hS => ?_)
                refine wl rfl (ky (v := .agg #[.int .i64 e2183.Kind, .string e2183.Text]) hS (y_load hS rfl ty28 0 rfl id (us := [.int .i64 e2183.Kind, .string e2183.Text]) rfl rfl (fun h => by cases h)) rfl rfl fun a hS => ?_)
                obtain ⟨u2197, hu2197, hM⟩ := bd hM
                refine wl rfl (k_call hS ci17 rfl rfl (ref23_Print_c _ _ hS.dlt (hS.get 1 rfl) e2183 _ hu2197) fun _ w hR a hk hA => ?_)
                have he := Eq.symm hR
                subst he
                have hS := hA [] (fun r hr => by cases hr) List.Pairwise.nil
                refine wl rfl (ky (v := .bool (!(u2195.toList == u2197.toList))) hS (y_str hS rfl rfl rfl) rfl rfl fun a hS => ?_)
                refine wpList_nil ?_
                try simp only [Exit.then, Exit.inBlock, ↓reduceIte, Nat.reduceEqDiff]
                refine hK552 _ _ ?_
                rcases bool2 (!(u2195.toList == u2197.toList)) with hb2199 | hb2199
                · replace hM := ct hb2199 hM
                  refine c_t hS rfl hb2199 ?_
                  refine wp_seq_k fun K553 hK553 => ?_
                  refine r_list ?_
                  refine wl rfl (ky (v := .bool false) hS (y_assign hS rfl) rfl rfl fun a hS => ?_)
                  refine wpList_nil ?_
                  try simp only [Exit.then, Exit.inBlock, ↓reduceIte, Nat.reduceEqDiff]
                  refine hK553 _ _ ?_
                  refine wp_ret ?_
                  injection hM with hM
                  subst hM
                  have hr := hf1 _ rfl
                  subst hr
                  replace hMo1 := el_out hMo1
                  have hM := hMo1
                  injection hM with hM
                  subst hM
                  try simp only [Exit.then, Exit.inBlock, ↓reduceIte, Nat.reduceEqDiff]
                  refine ret_ok hS Tryd.results3 (res_tmp hS rfl res_nil) ?_
                  exact rfl
                · replace hM := cf hb2199 hM
                  refine c_f hS rfl hb2199 ?_
                  refine wp_skip ?_
                  try simp only [Exit.then, Exit.inBlock, ↓reduceIte, Nat.reduceEqDiff]
                  refine hK551 _ _ ?_
                  refine seq_j (J := fun a w => ∃ (s2219 : ByteArray), St W0 No T 106 [(2, .string s2219), (3, .int .i64 at_3), (4, .int .i64 by_4), (13, .string u2195), (38, v1563), (39, .int .i64 ((u1559 ++ raw_).length : Int)), (40, .int .i64 g1813)] [.own v1563 28 R_KeyD.size cl1564] [RowsF R_KeyD cl1564 (u1559 ++ raw_), LvF] a w ∧ law23_KeyTexts_j4 g1813 u2195 s2219 = some f1) ?_ ?_
                  · skip
                    refine wp_seq_k fun K584 hK584 => ?_
                    refine r_list ?_
                    refine wl rfl (ky (v := .string u2195) hS (y_move hS rfl) rfl rfl fun a hS => ?_)
                    refine wl rfl (ky (v := .int .i64 (u2195.size : Int)) hS (y_lens hS Tryd.underlying9 rfl) rfl rfl fun a hS => ?_)
                    refine wl rfl (ky (v := .bool (decide ((0 : Int) < (u2195.size : Int)))) hS (y_int hS rfl rfl rfl) rfl rfl fun a hS => ?_)
                    refine wpList_nil ?_
                    try simp only [Exit.then, Exit.inBlock, ↓reduceIte, Nat.reduceEqDiff]
                    refine hK584 _ _ ?_
                    rcases bool2 (decide ((0 : Int) < (u2195.size : Int))) with hb2307 | hb2307
                    · replace hM := ct hb2307 hM
                      refine c_t hS rfl hb2307 ?_
                      refine wp_seq_k fun K585 hK585 => ?_
                      refine r_list ?_
                      refine wl rfl (ky (v := .int .i64 at_3) hS (y_move hS rfl) rfl rfl fun a hS => ?_)
                      refine wl rfl (ky (v := .string u2195) hS (y_move hS rfl) rfl rfl fun a hS => ?_)
                      refine wl rfl (ky (v := .int .i64 (u2195.size : Int)) hS (y_lens hS Tryd.underlying9 rfl) rfl rfl fun a hS => ?_)
                      obtain ⟨u2308, hu2308, hM⟩ := bd hM
                      refine wl rfl (k_call hS ci18 rfl rfl (mill_Mod_c _ _ hS.dlt at_3 (u2195.size : Int) _ hu2308) fun _ w hR a hk hA => ?_)
                      have he := Eq.symm hR
                      subst he
                      have hS := hA [] (fun r hr => by cases hr) List.Pairwise.nil
                      refine wl rfl (ky (v := .int .i64 u2308) hS (y_assign hS rfl) rfl rfl fun a hS => ?_)
                      refine wpList_nil ?_
                      try simp only [Exit.then, Exit.inBlock, ↓reduceIte, Nat.reduceEqDiff]
                      refine hK585 _ _ ?_
                      refine draws [] hS mixed rfl (fun c a d v w h => by cases d <;> exact h) fun w hQ hS => ?_
                      refine dy 0 (v := .string u2195) rfl (by kernel_rfl) (by kernel_rfl) (by kernel_rfl) rfl hQ hS (y_move hS rfl) rfl rfl rfl fun a hS => ?_
                      refine dy 1 (v := .int .i64 u2308) rfl (by kernel_rfl) (by kernel_rfl) (by kernel_rfl) rfl hQ hS (y_move hS rfl) rfl rfl rfl fun a hS => ?_
                      obtain ⟨s2318, hs2318, hM⟩ := bd hM
                      refine dy 2 (v := .string s2318) rfl (by kernel_rfl) (by kernel_rfl) (by kernel_rfl) rfl hQ hS (y_subs (k1 := .i64) hS Tryd.underlying9 rfl (.inr ⟨rfl, rfl⟩) (.inl ⟨_, rfl, rfl⟩) hs2318) rfl rfl rfl fun a hS => ?_
                      refine dy 3 (v := .int .i64 by_4) rfl (by kernel_rfl) (by kernel_rfl) (by kernel_rfl) rfl hQ hS (y_move hS rfl) rfl rfl rfl fun a hS => ?_
                      refine dy 4 (v := .int .u8 (IntKind.u8.wrap by_4)) rfl (by kernel_rfl) (by kernel_rfl) (by kernel_rfl) rfl hQ hS (y_conv hS rfl Tryd.underlying3 Tryd.underlying5) rfl rfl rfl fun a hS => ?_
                      refine dy 8 (v := .string u2195) rfl (by kernel_rfl) (by kernel_rfl) (by kernel_rfl) rfl hQ hS (y_move hS rfl) rfl rfl rfl fun a hS => ?_
                      refine dy 9 (v := .int .i64 u2308) rfl (by kernel_rfl) (by kernel_rfl) (by kernel_rfl) rfl hQ hS (y_move hS rfl) rfl rfl rfl fun a hS => ?_
                      refine dy 10 (v := .int .i64 by_4) rfl (by kernel_rfl) (by kernel_rfl) (by kernel_rfl) rfl hQ hS (y_move hS rfl) rfl rfl rfl fun a hS => ?_
                      refine dy 11 (v := .int .i64 (IntKind.i64.wrap (Int.tdiv by_4 256))) rfl (by kernel_rfl) (by kernel_rfl) (by kernel_rfl) rfl hQ hS (y_quo hS rfl rfl (by decide)) rfl rfl rfl fun a hS => ?_
                      obtain ⟨u2319, hu2319, hM⟩ := bd hM
                      refine wpE_two (i := 5) (j := 12) rfl rfl (by kernel_rfl) rfl rfl ?_ ?_
                      · skip
                        skip
                        refine id (k_bslice (ps := [(0, .tmp 65)]) hS el31 ze5 (zl := [.int .u8 0]) (by kernel_rfl) rfl (us := [[.int .u8 (IntKind.u8.wrap by_4)]]) ⟨rfl, trivial⟩ (ws := [.int .u8 (IntKind.u8.wrap by_4)]) rfl rfl rfl rfl fun b2320 a w hk hS => ⟨stN (hk), ?_⟩)
                        replace hS := hS.lit (R := (Rep.int .u8)) (us := [.int .u8 (IntKind.u8.wrap by_4)]) (xs := [IntKind.u8.wrap by_4]) 0 rfl (by decide) (RowsOk.one_ (R := (Rep.int .u8)) (x := IntKind.u8.wrap by_4) rfl) rfl rfl
                        refine dy (l := []) 6 (v := .string (strI ([IntKind.u8.wrap by_4]))) rfl (by kernel_rfl) (by kernel_rfl) (by kernel_rfl) (by kernel_rfl) hQ hS (y_b2so hS rfl Tryd.underlying31 Tryd.underlying5 Tryd.underlying9 0 rfl 0 rfl (fun _ _ => eo_nil)) rfl rfl rfl fun a hS => ?_
                        obtain ⟨hg2322, hM⟩ := gd_some hM
                        refine dy 7 (v := .string (s2318 ++ (strI ([IntKind.u8.wrap by_4])))) rfl (by kernel_rfl) (by kernel_rfl) (by kernel_rfl) rfl hQ hS (y_cat hS rfl rfl (Nat.le_of_ble_eq_true hg2322)) rfl rfl rfl fun a hS => ?_
                        refine wpE_one (i := 12) rfl (by kernel_rfl) rfl (k_call hS ci18 rfl rfl (mill_Mod_c _ _ hS.dlt (IntKind.i64.wrap (Int.tdiv by_4 256)) 2 _ hu2319) fun _ w hR a hk hA => ⟨stN (hk), ?_⟩)
                        have he := Eq.symm hR
                        subst he
                        have hS := hA [] (fun r hr => by cases hr) List.Pairwise.nil
                        refine dy 13 (v := .int .i64 (IntKind.i64.wrap (u2308 + u2319))) rfl (by kernel_rfl) (by kernel_rfl) (by kernel_rfl) rfl hQ hS (y_int hS rfl rfl rfl) rfl rfl rfl fun a hS => ?_
                        obtain ⟨s2324, hs2324, hM⟩ := bd hM
                        refine dy 14 (v := .string s2324) rfl (by kernel_rfl) (by kernel_rfl) (by kernel_rfl) rfl hQ hS (y_subs (k2 := .i64) hS Tryd.underlying9 rfl (.inl ⟨_, rfl, rfl⟩) (.inr ⟨rfl, rfl⟩) hs2324) rfl rfl rfl fun a hS => ?_
                        obtain ⟨hg2325, hM⟩ := gd_some hM
                        refine dy 15 (v := .string ((s2318 ++ (strI ([IntKind.u8.wrap by_4]))) ++ s2324)) rfl (by kernel_rfl) (by kernel_rfl) (by kernel_rfl) rfl hQ hS (y_cat hS rfl rfl (Nat.le_of_ble_eq_true hg2325)) rfl rfl rfl fun a hS => ?_
                        refine dy 16 (v := .string ((s2318 ++ (strI ([IntKind.u8.wrap by_4]))) ++ s2324)) rfl (by kernel_rfl) (by kernel_rfl) (by kernel_rfl) rfl hQ hS (y_assign hS rfl) rfl rfl rfl fun a hS => ?_
                        refine wpE_done (by kernel_rfl) ?_ _
                        try simp only [Exit.then, Exit.inBlock, ↓reduceIte, Nat.reduceEqDiff]
                        exact ⟨((s2318 ++ (strI ([IntKind.u8.wrap by_4]))) ++ s2324), (hS.meet [2] (by decide) ⟨rfl, rfl, rfl, rfl, rfl, rfl, rfl, trivial⟩ ⟨rfl, trivial⟩ ⟨⟨1, rfl⟩, ⟨2, rfl⟩, trivial⟩), hM⟩
                      · skip
                        obtain ⟨_, hM⟩ := gd_some hM
                        obtain ⟨s2324, _, hM⟩ := bd hM
                        obtain ⟨_, hM⟩ := gd_some hM
                        have hM : ((subS u2195 (IntKind.i64.wrap (u2308 + u2319)) u2195.size).bind fun s2321 => gd (Nat.ble (s2318.size + (strI ([IntKind.u8.wrap by_4])).size) 140737488355328) <| gd (Nat.ble ((s2318 ++ (strI ([IntKind.u8.wrap by_4]))).size + s2321.size) 140737488355328) <| law23_KeyTexts_j4 g1813 u2195 ((s2318 ++ (strI ([IntKind.u8.wrap by_4]))) ++ s2321)) = some f1 := by
                          refine bd_of (by assumption) ?_
                          refine gd_of (by assumption) ?_
                          refine gd_of (by assumption) ?_
                          exact hM
                        refine id (k_call hS ci18 rfl rfl (mill_Mod_c _ _ hS.dlt (IntKind.i64.wrap (Int.tdiv by_4 256)) 2 _ hu2319) fun _ w hR a hk hA => ⟨stN (hk), ?_⟩)
                        have he := Eq.symm hR
                        subst he
                        have hS := hA [] (fun r hr => by cases hr) List.Pairwise.nil
                        refine dy 13 (v := .int .i64 (IntKind.i64.wrap (u2308 + u2319))) rfl (by kernel_rfl) (by kernel_rfl) (by kernel_rfl) rfl hQ hS (y_int hS rfl rfl rfl) rfl rfl rfl fun a hS => ?_
                        obtain ⟨s2321, hs2321, hM⟩ := bd hM
                        refine dy 14 (v := .string s2321) rfl (by kernel_rfl) (by kernel_rfl) (by kernel_rfl) rfl hQ hS (y_subs (k2 := .i64) hS Tryd.underlying9 rfl (.inl ⟨_, rfl, rfl⟩) (.inr ⟨rfl, rfl⟩) hs2321) rfl rfl rfl fun a hS => ?_
                        refine wpE_one (i := 5) rfl (by kernel_rfl) rfl (k_bslice (ps := [(0, .tmp 65)]) hS el31 ze5 (zl := [.int .u8 0]) (by kernel_rfl) rfl (us := [[.int .u8 (IntKind.u8.wrap by_4)]]) ⟨rfl, trivial⟩ (ws := [.int .u8 (IntKind.u8.wrap by_4)]) rfl rfl rfl rfl fun b2322 a w hk hS => ⟨stN (hk), ?_⟩)
                        replace hS := hS.lit (R := (Rep.int .u8)) (us := [.int .u8 (IntKind.u8.wrap by_4)]) (xs := [IntKind.u8.wrap by_4]) 0 rfl (by decide) (RowsOk.one_ (R := (Rep.int .u8)) (x := IntKind.u8.wrap by_4) rfl) rfl rfl
                        refine dy (l := []) 6 (v := .string (strI ([IntKind.u8.wrap by_4]))) rfl (by kernel_rfl) (by kernel_rfl) (by kernel_rfl) (by kernel_rfl) hQ hS (y_b2so hS rfl Tryd.underlying31 Tryd.underlying5 Tryd.underlying9 0 rfl 0 rfl (fun _ _ => eo_nil)) rfl rfl rfl fun a hS => ?_
                        obtain ⟨hg2324, hM⟩ := gd_some hM
                        refine dy 7 (v := .string (s2318 ++ (strI ([IntKind.u8.wrap by_4])))) rfl (by kernel_rfl) (by kernel_rfl) (by kernel_rfl) rfl hQ hS (y_cat hS rfl rfl (Nat.le_of_ble_eq_true hg2324)) rfl rfl rfl fun a hS => ?_
                        obtain ⟨hg2325, hM⟩ := gd_some hM
                        refine dy 15 (v := .string ((s2318 ++ (strI ([IntKind.u8.wrap by_4]))) ++ s2321)) rfl (by kernel_rfl) (by kernel_rfl) (by kernel_rfl) rfl hQ hS (y_cat hS rfl rfl (Nat.le_of_ble_eq_true hg2325)) rfl rfl rfl fun a hS => ?_
                        refine dy 16 (v := .string ((s2318 ++ (strI ([IntKind.u8.wrap by_4]))) ++ s2321)) rfl (by kernel_rfl) (by kernel_rfl) (by kernel_rfl) rfl hQ hS (y_assign hS rfl) rfl rfl rfl fun a hS => ?_
                        refine wpE_done (by kernel_rfl) ?_ _
                        try simp only [Exit.then, Exit.inBlock, ↓reduceIte, Nat.reduceEqDiff]
                        exact ⟨((s2318 ++ (strI ([IntKind.u8.wrap by_4]))) ++ s2321), (hS.meet [2] (by decide) ⟨rfl, rfl, rfl, rfl, rfl, rfl, rfl, trivial⟩ ⟨rfl, trivial⟩ ⟨⟨1, rfl⟩, ⟨2, rfl⟩, trivial⟩), hM⟩
                    · replace hM := cf hb2307 hM
                      refine c_f hS rfl hb2307 ?_
                      refine wp_skip ?_
                      try simp only [Exit.then, Exit.inBlock, ↓reduceIte, Nat.reduceEqDiff]
                      exact ⟨s1812, (hS.meet [1] (by decide) ⟨rfl, rfl, rfl, rfl, rfl, rfl, rfl, trivial⟩ ⟨rfl, trivial⟩ ⟨⟨0, rfl⟩, ⟨1, rfl⟩, trivial⟩), hM⟩
                  · rintro a w ⟨s2219, hS, hM⟩
                    unfold law23_KeyTexts_j4 at hM
                    refine wp_seq_k fun K556 hK556 => ?_
                    refine r_list ?_
                    refine wl rfl (ky (v := .string u2195) hS (y_move hS rfl) rfl rfl fun a hS => ?_)
                    refine wl rfl (ky (v := .string s2219) hS (y_move hS rfl) rfl rfl fun a hS => ?_)
                    refine wl rfl (k_bslice (ps := [(0, .tmp 77), (1, .tmp 78), (2, .const (.string ⟨#[48, 50, 58, 97]⟩)), (3, .const (.string ⟨#[50, 58, 37, 50, 48]⟩)), (4, .const (.string ⟨#[50, 58, 37, 50, 102]⟩)), (5, .const (.string ⟨#[50, 58, 37]⟩)), (6, .const (.string ⟨#[51, 49, 58, 53]⟩)), (7, .const (.string ⟨#[43, 50, 58, 97]⟩))]) hS el32 ze9 (zl := [.string (ByteArray.mk #[]), .string (ByteArray.mk #[]), .string (ByteArray.mk #[]), .string (ByteArray.mk #[]), .string (ByteArray.mk #[]), .string (ByteArray.mk #[]), .string (ByteArray.mk #[]), .string (ByteArray.mk #[])]) (by kernel_rfl) rfl (us := [[.string u2195], [.string s2219], [.string (ByteArray.mk #[48, 50, 58, 97])], [.string (ByteArray.mk #[50, 58, 37, 50, 48])], [.string (ByteArray.mk #[50, 58, 37, 50, 102])], [.string (ByteArray.mk #[50, 58, 37])], [.string (ByteArray.mk #[51, 49, 58, 53])], [.string (ByteArray.mk #[43, 50, 58, 97])]]) ⟨rfl, ⟨rfl, ⟨rfl, ⟨rfl, ⟨rfl, ⟨rfl, ⟨rfl, ⟨rfl, trivial⟩⟩⟩⟩⟩⟩⟩⟩ (ws := [.string u2195, .string s2219, .string (ByteArray.mk #[48, 50, 58, 97]), .string (ByteArray.mk #[50, 58, 37, 50, 48]), .string (ByteArray.mk #[50, 58, 37, 50, 102]), .string (ByteArray.mk #[50, 58, 37]), .string (ByteArray.mk #[51, 49, 58, 53]), .string (ByteArray.mk #[43, 50, 58, 97])]) rfl rfl rfl rfl fun b2220 a w hk hS => ?_)
                    replace hS := hS.lit (R := Rep.str) (us := [.string u2195, .string s2219, .string (ByteArray.mk #[48, 50, 58, 97]), .string (ByteArray.mk #[50, 58, 37, 50, 48]), .string (ByteArray.mk #[50, 58, 37, 50, 102]), .string (ByteArray.mk #[50, 58, 37]), .string (ByteArray.mk #[51, 49, 58, 53]), .string (ByteArray.mk #[43, 50, 58, 97])]) (xs := [u2195, s2219, (ByteArray.mk #[48, 50, 58, 97]), (ByteArray.mk #[50, 58, 37, 50, 48]), (ByteArray.mk #[50, 58, 37, 50, 102]), (ByteArray.mk #[50, 58, 37]), (ByteArray.mk #[51, 49, 58, 53]), (ByteArray.mk #[43, 50, 58, 97])]) 0 rfl (by decide) ((RowsOk.one_ (R := Rep.str) (x := u2195) rfl).append ((RowsOk.one_ (R := Rep.str) (x := s2219) rfl).append ((RowsOk.one_ (R := Rep.str) (x := (ByteArray.mk #[48, 50, 58, 97])) rfl).append ((RowsOk.one_ (R := Rep.str) (x := (ByteArray.mk #[50, 58, 37, 50, 48])) rfl).append ((RowsOk.one_ (R := Rep.str) (x := (ByteArray.mk #[50, 58, 37, 50, 102])) rfl).append ((RowsOk.one_ (R := Rep.str) (x := (ByteArray.mk #[50, 58, 37])) rfl).append ((RowsOk.one_ (R := Rep.str) (x := (ByteArray.mk #[51, 49, 58, 53])) rfl).append (RowsOk.one_ (R := Rep.str) (x := (ByteArray.mk #[43, 50, 58, 97])) rfl)))))))) rfl rfl
                    refine wl rfl (ky (v := .int .i64 (([u2195, s2219, (ByteArray.mk #[48, 50, 58, 97]), (ByteArray.mk #[50, 58, 37, 50, 48]), (ByteArray.mk #[50, 58, 37, 50, 102]), (ByteArray.mk #[50, 58, 37]), (ByteArray.mk #[51, 49, 58, 53]), (ByteArray.mk #[43, 50, 58, 97])]).length : Int)) hS (y_leno (R := Rep.str) (xs := [u2195, s2219, (ByteArray.mk #[48, 50, 58, 97]), (ByteArray.mk #[50, 58, 37, 50, 48]), (ByteArray.mk #[50, 58, 37, 50, 102]), (ByteArray.mk #[50, 58, 37]), (ByteArray.mk #[51, 49, 58, 53]), (ByteArray.mk #[43, 50, 58, 97])]) hS sl32 rfl 0 rfl 0 rfl) rfl rfl fun a hS => ?_)
                    refine wl rfl (ky (v := .int .i64 0) hS (y_move hS rfl) rfl rfl fun a hS => ?_)
                    refine wpList_nil ?_
                    try simp only [Exit.then, Exit.inBlock, ↓reduceIte, Nat.reduceEqDiff]
                    refine hK556 _ _ ?_
                    refine wp_block ?_
                    obtain ⟨r2, hl2, hMo2⟩ := bd hM
                    refine wp_lp (fun s : (List ByteArray) × Int => law23_KeyTexts_l3 u2195 s2219 s.1 s.2) (fun s a w => ∃ (g2253 : (List ByteArray)) (g2257 : Int) (v2254 : Value) (cl2255 : (List Value)), (g2253, g2257) = s ∧ St W0 No T 106 [(2, .string s2219), (3, .int .i64 at_3), (4, .int .i64 by_4), (38, v1563), (39, .int .i64 ((u1559 ++ raw_).length : Int)), (40, .int .i64 g1813), (79, v2254), (80, .int .i64 (([u2195, s2219, (ByteArray.mk #[48, 50, 58, 97]), (ByteArray.mk #[50, 58, 37, 50, 48]), (ByteArray.mk #[50, 58, 37, 50, 102]), (ByteArray.mk #[50, 58, 37]), (ByteArray.mk #[51, 49, 58, 53]), (ByteArray.mk #[43, 50, 58, 97])]).length : Int)), (81, .int .i64 g2257)] [.own v1563 28 R_KeyD.size cl1564, .own v2254 9 Rep.str.size cl2255] [RowsF R_KeyD cl1564 (u1559 ++ raw_), RowsF Rep.str cl2255 g2253, LvF] a w) hl2 ⟨([u2195, s2219, (ByteArray.mk #[48, 50, 58, 97]), (ByteArray.mk #[50, 58, 37, 50, 48]), (ByteArray.mk #[50, 58, 37, 50, 102]), (ByteArray.mk #[50, 58, 37]), (ByteArray.mk #[51, 49, 58, 53]), (ByteArray.mk #[43, 50, 58, 97])]), 0, (.slice (some ⟨b2220, 0, none⟩) 8 8), ([.string u2195, .string s2219, .string (ByteArray.mk #[48, 50, 58, 97]), .string (ByteArray.mk #[50, 58, 37, 50, 48]), .string (ByteArray.mk #[50, 58, 37, 50, 102]), .string (ByteArray.mk #[50, 58, 37]), .string (ByteArray.mk #[51, 49, 58, 53]), .string (ByteArray.mk #[43, 50, 58, 97])]), rfl, (hS.meet [1, 0] (by decide) ⟨rfl, rfl, rfl, rfl, rfl, rfl, rfl, rfl, rfl, trivial⟩ ⟨rfl, rfl, trivial⟩ ⟨⟨1, rfl⟩, ⟨0, rfl⟩, ⟨2, rfl⟩, trivial⟩)⟩ ?_
                    rintro s a w f2 ⟨g2253, g2257, v2254, cl2255, rfl, hS⟩ hM hf2
                    have hM : law23_KeyTexts_l3 u2195 s2219 g2253 g2257 = some f2 := hM
                    unfold law23_KeyTexts_l3 at hM
                    refine wp_seq_k fun K575 hK575 => ?_
                    refine r_list ?_
                    refine wl rfl (ky (v := .bool (decide ((g2257 : Int) < (([u2195, s2219, (ByteArray.mk #[48, 50, 58, 97]), (ByteArray.mk #[50, 58, 37, 50, 48]), (ByteArray.mk #[50, 58, 37, 50, 102]), (ByteArray.mk #[50, 58, 37]), (ByteArray.mk #[51, 49, 58, 53]), (ByteArray.mk #[43, 50, 58, 97])]).length : Int)))) hS (y_int hS rfl rfl rfl) rfl rfl fun a hS => ?_)
                    refine wpList_nil ?_
                    try simp only [Exit.then, Exit.inBlock, ↓reduceIte, Nat.reduceEqDiff]
                    refine hK575 _ _ ?_
                    refine wp_seq_k fun K576 hK576 => ?_
                    rcases bool2 (decide ((g2257 : Int) < (([u2195, s2219, (ByteArray.mk #[48, 50, 58, 97]), (ByteArray.mk #[50, 58, 37, 50, 48]), (ByteArray.mk #[50, 58, 37, 50, 102]), (ByteArray.mk #[50, 58, 37]), (ByteArray.mk #[51, 49, 58, 53]), (ByteArray.mk #[43, 50, 58, 97])]).length : Int))) with hb2285 | hb2285
                    · replace hM := ct hb2285 hM
                      refine c_t hS rfl hb2285 ?_
                      refine wp_skip ?_
                      try simp only [Exit.then, Exit.inBlock, ↓reduceIte, Nat.reduceEqDiff]
                      refine hK576 _ _ ?_
                      refine wp_seq_k fun K577 hK577 => ?_
                      refine wp_block ?_
                      refine wp_seq_k fun K578 hK578 => ?_
                      refine r_list ?_
                      obtain ⟨e2286, he2286, hM⟩ := bd hM
                      refine wl rfl (k_indexo (R := Rep.str) hS sl32 ty9 rfl rfl 1 rfl 1 rfl he2286 rfl fun b2287 o2288 p2293 cs2290 hr2289 hO2291 hC2292 a hS => ?_)
                      obtain rfl := hr2289
                      refine wl rfl (ky (v := .string e2286) hS (y_loado (k := 0) hS ty9 1 rfl hO2291 hC2292 rfl id (us := [.string e2286]) rfl rfl (fun _ => rfl)) rfl rfl fun a hS => ?_)
                      refine wl rfl (ky (v := .string e2286) hS (y_assign hS rfl) rfl rfl fun a hS => ?_)
                      refine wpList_nil ?_
                      try simp only [Exit.then, Exit.inBlock, ↓reduceIte, Nat.reduceEqDiff]
                      refine hK578 _ _ ?_
                      refine wp_seq_k fun K579 hK579 => ?_
                      refine r_list ?_
                      refine wl rfl (ky (v := .string e2286) hS (y_move hS rfl) rfl rfl fun a hS => ?_)
                      obtain ⟨u2294, hu2294, hM⟩ := bd hM
                      refine wl rfl (k_call hS ci19 rfl rfl (key_Parse_c _ _ hS.dlt (hS.get 2 rfl) e2286 _ hu2294) fun _ w hR a hk hA => ?_)
                      have he := Eq.symm hR
                      subst he
                      have hS := hA [] (fun r hr => by cases hr) List.Pairwise.nil
                      refine wl rfl (ky (v := .tuple #[.agg #[.int .i64 u2294.1.Kind, .string u2294.1.Text], .int .i64 u2294.2]) hS (y_move hS rfl) rfl rfl fun a hS => ?_)
                      refine wl rfl (ky (v := .agg #[.int .i64 u2294.1.Kind, .string u2294.1.Text]) hS (y_ex hS rfl rfl) rfl rfl fun a hS => ?_)
                      refine wl rfl (ky (v := .int .i64 u2294.2) hS (y_ex hS rfl rfl) rfl rfl fun a hS => ?_)
                      refine wl rfl (k_alloc hS ze28 rfl fun b2296 hnb2298 a w hk hS => ?_)
                      refine wl rfl (k_store hS rfl rfl (us := [.int .i64 u2294.1.Kind, .string u2294.1.Text]) rfl ty28 0 rfl rfl rfl (oc rfl (oc rfl on)) fun w hk hS => ?_)
                      refine wl rfl (ky (v := .int .i64 u2294.2) hS (y_assign hS rfl) rfl rfl fun a hS => ?_)
                      refine wpList_nil ?_
                      try simp only [Exit.then, Exit.inBlock, ↓reduceIte, Nat.reduceEqDiff]
                      refine hK579 _ _ ?_
                      refine wp_seq_k fun K580 hK580 => ?_
                      refine r_list ?_
                      refine wl rfl (ky (v := .string e2286) hS (y_move hS rfl) rfl rfl fun a hS => ?_)
                      obtain ⟨u2299, hu2299, hM⟩ := bd hM
                      refine wl rfl (k_call hS ci20 rfl rfl (ref23_Parse_c _ _ hS.dlt (hS.get 2 rfl) e2286 _ hu2299) fun _ w hR a hk hA => ?_)
                      have he := Eq.symm hR
                      subst he
                      have hS := hA [] (fun r hr => by cases hr) List.Pairwise.nil
                      refine wl rfl (ky (v := .tuple #[.agg #[.int .i64 u2299.1.Kind, .string u2299.1.Text], .int .i64 u2299.2]) hS (y_move hS rfl) rfl rfl fun a hS => ?_)
                      refine wl rfl (ky (v := .agg #[.int .i64 u2299.1.Kind, .string u2299.1.Text]) hS (y_ex hS rfl rfl) rfl rfl fun a hS => ?_)
                      refine wl rfl (ky (v := .int .i64 u2299.2) hS (y_ex hS rfl rfl) rfl rfl fun a hS => ?_)
                      refine wl rfl (k_alloc hS ze28 rfl fun b2301 hnb2303 a w hk hS => ?_)
                      refine wl rfl (k_store hS rfl rfl (us := [.int .i64 u2299.1.Kind, .string u2299.1.Text]) rfl ty28 0 rfl rfl rfl (oc rfl (oc rfl on)) fun w hk hS => ?_)
                      refine wl rfl (ky (v := .int .i64 u2299.2) hS (y_assign hS rfl) rfl rfl fun a hS => ?_)
                      refine wpList_nil ?_
                      try simp only [Exit.then, Exit.inBlock, ↓reduceIte, Nat.reduceEqDiff]
                      refine hK580 _ _ ?_
                      refine wp_seq_k fun K581 hK581 => ?_
                      refine r_list ?_
                      refine wl rfl (ky (v := .agg #[.int .i64 u2294.1.Kind, .string u2294.1.Text]) hS (y_load hS rfl ty28 1 rfl id (us := [.int .i64 u2294.1.Kind, .string u2294.1.Text]) rfl rfl (fun h => by cases h)) rfl rfl fun a hS => ?_)
                      refine wl rfl (ky (v := .agg #[.int .i64 u2299.1.Kind, .string u2299.1.Text]) hS (y_load hS rfl ty28 0 rfl id (us := [.int .i64 u2299.1.Kind, .string u2299.1.Text]) rfl rfl (fun h => by cases h)) rfl rfl fun a hS => ?_)
                      refine wl rfl (ky (v := .bool (!((u2294.1.Kind : Int) == u2299.1.Kind && u2294.1.Text.toList == u2299.1.Text.toList))) hS (eq28n hS rfl rfl) rfl rfl fun a hS => ?_)
                      refine wl rfl (ky (v := .bool (!((u2294.1.Kind : Int) == u2299.1.Kind && u2294.1.Text.toList == u2299.1.Text.toList))) hS (y_move hS rfl) rfl rfl fun a hS => ?_)
                      rcases bool2 (!((u2294.1.Kind : Int) == u2299.1.Kind && u2294.1.Text.toList == u2299.1.Text.toList)) with hb2305 | hb2305
                      · replace hM := ct hb2305 hM
                        refine wn hS rfl rfl rfl hb2305 rfl rfl fun a hS => ?_
                        refine wn hS rfl rfl rfl hb2305 rfl rfl fun a hS => ?_
                        refine wn hS rfl rfl rfl hb2305 rfl rfl fun a hS => ?_
                        refine wl rfl (ky (v := .bool true) hS (y_pickt hS rfl hb2305 rfl) rfl rfl fun a hS => ?_)
                        refine wpList_nil ?_
                        try simp only [Exit.then, Exit.inBlock, ↓reduceIte, Nat.reduceEqDiff]
                        refine hK581 _ _ ?_
                        refine c_t hS rfl rfl ?_
                        refine wp_seq_k fun K582 hK582 => ?_
                        refine r_list ?_
                        refine wl rfl (ky (v := .bool false) hS (y_assign hS rfl) rfl rfl fun a hS => ?_)
                        refine wpList_nil ?_
                        try simp only [Exit.then, Exit.inBlock, ↓reduceIte, Nat.reduceEqDiff]
                        refine hK582 _ _ ?_
                        refine wp_ret ?_
                        injection hM with hM
                        subst hM
                        have hr := hf2 _ rfl
                        subst hr
                        replace hMo2 := el_out hMo2
                        have hM := hMo2
                        injection hM with hM
                        subst hM
                        have hr := hf1 _ rfl
                        subst hr
                        replace hMo1 := el_out hMo1
                        have hM := hMo1
                        injection hM with hM
                        subst hM
                        try simp only [Exit.then, Exit.inBlock, ↓reduceIte, Nat.reduceEqDiff]
                        refine ret_ok hS Tryd.results3 (res_tmp hS rfl res_nil) ?_
                        exact rfl
                      · replace hM := cf hb2305 hM
                        refine wg hS rfl rfl rfl hb2305 (ky (v := .int .i64 u2294.2) hS (y_move hS rfl) rfl rfl fun a hS => ?_)
                        refine wg hS rfl rfl rfl hb2305 (ky (v := .int .i64 u2299.2) hS (y_move hS rfl) rfl rfl fun a hS => ?_)
                        refine wg hS rfl rfl rfl hb2305 (ky (v := .bool ((u2294.2 : Int) != u2299.2)) hS (y_int hS rfl rfl rfl) rfl rfl fun a hS => ?_)
                        refine wl rfl (ky (v := .bool ((u2294.2 : Int) != u2299.2)) hS (y_pickf hS rfl hb2305 rfl) rfl rfl fun a hS => ?_)
                        refine wpList_nil ?_
                        try simp only [Exit.then, Exit.inBlock, ↓reduceIte, Nat.reduceEqDiff]
                        refine hK581 _ _ ?_
                        rcases bool2 ((u2294.2 : Int) != u2299.2) with hb2306 | hb2306
                        · replace hM := ct hb2306 hM
                          refine c_t hS rfl hb2306 ?_
                          refine wp_seq_k fun K583 hK583 => ?_
                          refine r_list ?_
                          refine wl rfl (ky (v := .bool false) hS (y_assign hS rfl) rfl rfl fun a hS => ?_)
                          refine wpList_nil ?_
                          try simp only [Exit.then, Exit.inBlock, ↓reduceIte, Nat.reduceEqDiff]
                          refine hK583 _ _ ?_
                          refine wp_ret ?_
                          injection hM with hM
                          subst hM
                          have hr := hf2 _ rfl
                          subst hr
                          replace hMo2 := el_out hMo2
                          have hM := hMo2
                          injection hM with hM
                          subst hM
                          have hr := hf1 _ rfl
                          subst hr
                          replace hMo1 := el_out hMo1
                          have hM := hMo1
                          injection hM with hM
                          subst hM
                          try simp only [Exit.then, Exit.inBlock, ↓reduceIte, Nat.reduceEqDiff]
                          refine ret_ok hS Tryd.results3 (res_tmp hS rfl res_nil) ?_
                          exact rfl
                        · replace hM := cf hb2306 hM
                          refine c_f hS rfl hb2306 ?_
                          refine wp_skip ?_
                          try simp only [Exit.then, Exit.inBlock, ↓reduceIte, Nat.reduceEqDiff]
                          refine hK577 _ _ ?_
                          refine r_list ?_
                          refine wl rfl (ky (v := .int .i64 (IntKind.i64.wrap (g2257 + 1))) hS (y_int hS rfl rfl rfl) rfl rfl fun a hS => ?_)
                          refine wl rfl (ky (v := .int .i64 (IntKind.i64.wrap (g2257 + 1))) hS (y_move hS rfl) rfl rfl fun a hS => ?_)
                          refine wpList_nil ?_
                          try simp only [Exit.then, Exit.inBlock, ↓reduceIte, Nat.reduceEqDiff]
                          exact ⟨(g2253, IntKind.i64.wrap (g2257 + 1)), (Option.some.inj hM).symm, g2253, (IntKind.i64.wrap (g2257 + 1)), v2254, cl2255, rfl, (hS.meet [2, 3] (by decide) ⟨rfl, rfl, rfl, rfl, rfl, rfl, rfl, rfl, rfl, trivial⟩ ⟨rfl, rfl, trivial⟩ ⟨⟨0, rfl⟩, ⟨1, rfl⟩, ⟨2, rfl⟩, trivial⟩)⟩
                    · replace hM := cf hb2285 hM
                      refine c_f hS rfl hb2285 ?_
                      refine wp_exit ?_
                      try simp only [Exit.then, Exit.inBlock, ↓reduceIte, Nat.reduceEqDiff]
                      injection hM with hM
                      subst hM
                      have hr := hf2 _ rfl
                      subst hr
                      replace hMo2 := el_go hMo2
                      have hM : law23_KeyTexts_j2 g1813 s2219 = some f1 := hMo2
                      exact ⟨s2219, (hS.meet [0] (by decide) ⟨rfl, rfl, rfl, rfl, rfl, rfl, trivial⟩ ⟨rfl, trivial⟩ ⟨⟨0, rfl⟩, ⟨2, rfl⟩, trivial⟩), hM⟩
            · rintro a w ⟨s2182, hS, hM⟩
              unfold law23_KeyTexts_j2 at hM
              refine r_list ?_
              refine wl rfl (ky (v := .int .i64 (IntKind.i64.wrap (g1813 + 1))) hS (y_int hS rfl rfl rfl) rfl rfl fun a hS => ?_)
              refine wl rfl (ky (v := .int .i64 (IntKind.i64.wrap (g1813 + 1))) hS (y_move hS rfl) rfl rfl fun a hS => ?_)
              refine wpList_nil ?_
              try simp only [Exit.then, Exit.inBlock, ↓reduceIte, Nat.reduceEqDiff]
              exact ⟨(s2182, IntKind.i64.wrap (g1813 + 1)), (Option.some.inj hM).symm, s2182, (IntKind.i64.wrap (g1813 + 1)), rfl, (hS.meet [0] (by decide) ⟨rfl, rfl, rfl, rfl, rfl, rfl, trivial⟩ ⟨rfl, trivial⟩ ⟨⟨0, rfl⟩, ⟨1, rfl⟩, trivial⟩)⟩
          · replace hM := cf hb2060 hM
            refine c_f hS rfl hb2060 ?_
            refine wp_exit ?_
            try simp only [Exit.then, Exit.inBlock, ↓reduceIte, Nat.reduceEqDiff]
            injection hM with hM
            subst hM
            have hr := hf1 _ rfl
            subst hr
            replace hMo1 := el_go hMo1
            have hM : law23_KeyTexts_j1 = some y := hMo1
            exact ⟨(hS.meet [] (by decide) trivial trivial ⟨⟨1, rfl⟩, trivial⟩), hM⟩
        · rintro a w ⟨hS, hM⟩
          unfold law23_KeyTexts_j1 at hM
          refine wp_seq_k fun K389 hK389 => ?_
          refine r_list ?_
          obtain ⟨u1557, hu1557, hM⟩ := bd hM
          refine wl rfl (k_call hS ci14 rfl rfl (law23_awake_c _ _ hS.dlt (hS.get 0 rfl) _ hu1557) fun _ w hR a hk hA => ?_)
          have he := Eq.symm hR
          subst he
          have hS := hA [] (fun r hr => by cases hr) List.Pairwise.nil
          refine wl rfl (ky (v := .bool u1557) hS (y_assign hS rfl) rfl rfl fun a hS => ?_)
          refine wpList_nil ?_
          try simp only [Exit.then, Exit.inBlock, ↓reduceIte, Nat.reduceEqDiff]
          refine hK389 _ _ ?_
          refine wp_ret ?_
          injection hM with hM
          subst hM
          try simp only [Exit.then, Exit.inBlock, ↓reduceIte, Nat.reduceEqDiff]
          refine ret_ok hS Tryd.results3 (res_tmp hS rfl res_nil) ?_
          exact rfl
end Go.Proofs.YtpobppjicoikoaaDoor
