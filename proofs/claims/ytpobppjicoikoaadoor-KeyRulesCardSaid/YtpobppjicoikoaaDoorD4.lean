/- What functions of the program compute; that they do. -/
import Derived.Test.YtpobppjicoikoaaDoorTD4
import Derived.Test.YtpobppjicoikoaaDoorD1
import Derived.Test.YtpobppjicoikoaaDoorD2
set_option linter.unusedVariables false
set_option linter.unusedSimpArgs false
namespace Go.Proofs.YtpobppjicoikoaaDoor
open Go.RowKit
noncomputable def law23_KeyRules_j1 (g1704 : Bool) : Option Bool := some (g1704)
noncomputable def law23_KeyRules_j2 (n_1 : Int) (l1181 : (List RuleD)) : Option Bool := (mill_Mod n_1 9).bind fun u1705 => (key_Of l1181 (IntKind.i64.wrap ((l1181.length : Int) + u1705))).bind fun u1707 => cond ((u1707.Kind : Int) == 0 && u1707.Text.toList == (ByteArray.mk #[]).toList) ((mill_Mod n_1 9).bind fun u1710 => (key_Of l1181 (IntKind.i64.wrap ((-1) - u1710))).bind fun u1712 => cond ((u1712.Kind : Int) == 0 && u1712.Text.toList == (ByteArray.mk #[]).toList) ((law23_awake).bind fun u1715 => law23_KeyRules_j1 u1715) (law23_KeyRules_j1 false)) (law23_KeyRules_j1 false)
noncomputable def law23_KeyRules_j3 (g1964 : Int) (seen2328 : (List (KeyD × Bool))) : Option (Fl ((List (KeyD × Bool)) × Int) (Fl (Unit) Bool)) := some (.go (seen2328, IntKind.i64.wrap (g1964 + 1)))
noncomputable def law23_KeyRules_l4 (l1181 : (List RuleD)) (seen1961 : (List (KeyD × Bool))) (g1964 : Int) : Option (Fl ((List (KeyD × Bool)) × Int) (Fl (Unit) Bool)) := cond (decide ((g1964 : Int) < (l1181.length : Int))) ((getI l1181 g1964).bind fun e2331 => (key_Of l1181 g1964).bind fun u2343 => cond (decide ((99 : Int) < g1964)) (cond (!((u2343.Kind : Int) == 0 && u2343.Text.toList == (ByteArray.mk #[]).toList)) (some (.out (.out false))) (law23_KeyRules_j3 g1964 seen1961)) ((some ((mget keq_KeyD u2343 seen1961).getD false)).bind fun u2422 => cond u2422 (some (.out (.out false))) ((key_Valid u2343).bind fun u2427 => cond (!(u2427)) (some (.out (.out false))) ((key_Input u2343).bind fun u2430 => cond u2430 (some (.out (.out false))) ((key_Number u2343).bind fun u2433 => cond ((u2433 : Int) != g1964) (some (.out (.out false))) ((key_Cyclic u2343).bind fun u2436 => cond (u2436 != e2331.Ring) (some (.out (.out false))) ((key_Cell g1964).bind fun u2439 => cond ((u2439.Kind : Int) == u2343.Kind && u2439.Text.toList == u2343.Text.toList) (some (.out (.out false))) ((key_Cell g1964).bind fun u2442 => (key_Number u2442).bind fun u2444 => cond ((u2444 : Int) != g1964) (some (.out (.out false))) (law23_KeyRules_j3 g1964 (mput keq_KeyD u2343 true seen1961)))))))))) (some (.out (.go ())))
noncomputable def law23_KeyRules_j5 (n_1 : Int) (l1181 : (List RuleD)) : Option Bool := (loop (fun s : (List (KeyD × Bool)) × Int => law23_KeyRules_l4 l1181 s.1 s.2) (([] : (List (KeyD × Bool))), 0)).bind fun r => Fl.el r (fun s => law23_KeyRules_j2 n_1 l1181) (fun y => some (y))
noncomputable def law23_KeyRules_l6 (l2449 : (List Int)) (l2470 : (List RuleD)) (g2474 : Int) : Option (Fl ((List RuleD) × Int) ((List RuleD))) := cond (decide ((g2474 : Int) < (l2449.length : Int))) ((getI l2449 g2474).bind fun e2495 => gd (roomB (l2470.length + ([(RuleD.mk ((Int.tmod e2495 2 : Int) == 1) ([]) 0 0)]).length)) <| some (.go ((l2470 ++ ([(RuleD.mk ((Int.tmod e2495 2 : Int) == 1) ([]) 0 0)])), IntKind.i64.wrap (g2474 + 1)))) (some (.out l2470))
noncomputable def law23_KeyRules (rings_ : (List Int)) (n_1 : Int) : Option Bool := (subI rings_ 0 (min (rings_.length : Int) 120)).bind fun l2449 => (loop (fun s : (List RuleD) × Int => law23_KeyRules_l6 l2449 s.1 s.2) (([] : List RuleD), 0)).bind fun r => law23_KeyRules_j5 n_1 r
set_option maxRecDepth 100000 in
set_option maxHeartbeats 4000000 in
theorem law23_KeyRules_c (T : Nat → Prop) (W0 : World) (hT : ∀ k, T k → k < W0.heap.size) (hLv : LvP T W0) (rings_ : (List Int)) (n_1 : Int) (v1 : Value) (hv1 : SlR (Rep.int .u8) T W0 v1 rings_) (y : Bool) (hM : law23_KeyRules rings_ n_1 = some y) : Rets Tryd.prog No 6 [v1, .int .i64 n_1] W0 (fun v w' => v = .bool y) := by
  refine enter (c := _) Tryd.func6 rfl T 108 Tryd.ntmps6 hT rfl fun a hS => ?_
  replace hS := hS.fact LvF (LvP.dn hLv)
  replace hS := hS.fact (SlF (Rep.int .u8) v1 rings_) (SlR.dn hv1)
  unfold law23_KeyRules at hM
  refine wp_seq_k fun K160 hK160 => ?_
  refine r_list ?_
  refine wl rfl (ky (v := .bool false) hS (y_assign hS rfl) rfl rfl fun a hS => ?_)
  refine wpList_nil ?_
  try simp only [Exit.then, Exit.inBlock, ↓reduceIte, Nat.reduceEqDiff]
  refine hK160 _ _ ?_
  refine wp_seq_k fun K161 hK161 => ?_
  refine r_list ?_
  refine wl rfl (ky (v := .slice none 0 0) hS (y_assign hS rfl) rfl rfl fun a hS => ?_)
  refine wpList_nil ?_
  try simp only [Exit.then, Exit.inBlock, ↓reduceIte, Nat.reduceEqDiff]
  refine hK161 _ _ ?_
  refine seq_j (J := fun a w => ∃ (l1181 : (List RuleD)) (v1182 : Value) (cl1183 : (List Value)), St W0 No T 108 [(1, .int .i64 n_1), (5, v1182)] [.own v1182 46 R_RuleD.size cl1183] [RowsF R_RuleD cl1183 l1181, LvF] a w ∧ law23_KeyRules_j5 n_1 l1181 = some y) ?_ ?_
  · skip
    refine wp_seq_k fun K344 hK344 => ?_
    refine r_list ?_
    refine wl rfl (ky (v := v1) hS (y_move hS rfl) rfl rfl fun a hS => ?_)
    refine wl rfl (ky (v := v1) hS (y_move hS rfl) rfl rfl fun a hS => ?_)
    refine wl rfl (ky (v := .int .i64 (rings_.length : Int)) hS (y_len (R := (Rep.int .u8)) (xs := rings_) hS sl31 rfl 0 rfl) rfl rfl fun a hS => ?_)
    refine wl rfl (ky (v := .int .i64 (min (rings_.length : Int) 120)) hS (y_min hS rfl rfl) rfl rfl fun a hS => ?_)
    obtain ⟨l2449, hl2449, hM⟩ := bd hM
    refine wl rfl (k_sub (R := (Rep.int .u8)) (k1 := .i64) hS sl31 ty5 rfl (.inr ⟨rfl, rfl⟩) (.inl ⟨_, rfl, rfl⟩) 0 rfl hl2449 rfl fun v2450 a hS => ?_)
    refine wl rfl (ky (v := .int .i64 (l2449.length : Int)) hS (y_len (R := (Rep.int .u8)) (xs := l2449) hS sl31 rfl 0 rfl) rfl rfl fun a hS => ?_)
    refine wl rfl (ky (v := .int .i64 0) hS (y_move hS rfl) rfl rfl fun a hS => ?_)
    refine wpList_nil ?_
    try simp only [Exit.then, Exit.inBlock, ↓reduceIte, Nat.reduceEqDiff]
    refine hK344 _ _ ?_
    refine wp_block ?_
    replace hS := hS.nilRow R_RuleD 46 (by decide)
    obtain ⟨r1, hl1, hMo1⟩ := bd hM
    refine wp_lp (fun s : (List RuleD) × Int => law23_KeyRules_l6 l2449 s.1 s.2) (fun s a w => ∃ (l2470 : (List RuleD)) (g2474 : Int) (v2471 : Value) (cl2472 : (List Value)), (l2470, g2474) = s ∧ St W0 No T 108 [(1, .int .i64 n_1), (5, v2471), (16, v2450), (17, .int .i64 (l2449.length : Int)), (18, .int .i64 g2474)] [.own v2471 46 R_RuleD.size cl2472] [RowsF R_RuleD cl2472 l2470, SlF (Rep.int .u8) v2450 l2449, LvF] a w) hl1 ⟨([] : List RuleD), 0, (.slice none 0 0), ([]), rfl, (hS.meet [0] (by decide) ⟨rfl, rfl, rfl, rfl, rfl, trivial⟩ ⟨rfl, trivial⟩ ⟨⟨0, rfl⟩, ⟨1, rfl⟩, ⟨3, rfl⟩, trivial⟩)⟩ ?_
    rintro s a w f1 ⟨l2470, g2474, v2471, cl2472, rfl, hS⟩ hM hf1
    have hM : law23_KeyRules_l6 l2449 l2470 g2474 = some f1 := hM
    unfold law23_KeyRules_l6 at hM
    refine wp_seq_k fun K353 hK353 => ?_
    refine r_list ?_
    refine wl rfl (ky (v := .bool (decide ((g2474 : Int) < (l2449.length : Int)))) hS (y_int hS rfl rfl rfl) rfl rfl fun a hS => ?_)
    refine wpList_nil ?_
    try simp only [Exit.then, Exit.inBlock, ↓reduceIte, Nat.reduceEqDiff]
    refine hK353 _ _ ?_
    refine wp_seq_k fun K354 hK354 => ?_
    rcases bool2 (decide ((g2474 : Int) < (l2449.length : Int))) with hb2494 | hb2494
    · replace hM := ct hb2494 hM
      refine c_t hS rfl hb2494 ?_
      refine wp_skip ?_
      try simp only [Exit.then, Exit.inBlock, ↓reduceIte, Nat.reduceEqDiff]
      refine hK354 _ _ ?_
      refine wp_seq_k fun K355 hK355 => ?_
      refine wp_block ?_
      refine wp_seq_k fun K356 hK356 => ?_
      refine r_list ?_
      obtain ⟨e2495, he2495, hM⟩ := bd hM
      refine wl rfl (k_index (R := (Rep.int .u8)) hS sl31 ty5 rfl rfl 1 rfl he2495 rfl fun b2496 o2497 cs2499 hr2498 a hS => ?_)
      obtain rfl := hr2498
      refine wl rfl (ky (v := .int .u8 e2495) hS (y_loadc (k := 0) hS ty5 0 rfl rfl (fun _ h => h.elim) (us := [.int .u8 e2495]) rfl rfl (fun _ => rfl)) rfl rfl fun a hS => ?_)
      refine wl rfl (ky (v := .int .u8 e2495) hS (y_assign hS rfl) rfl rfl fun a hS => ?_)
      refine wpList_nil ?_
      try simp only [Exit.then, Exit.inBlock, ↓reduceIte, Nat.reduceEqDiff]
      refine hK356 _ _ ?_
      refine r_list ?_
      refine wl rfl (ky (v := v2471) hS (y_move hS rfl) rfl rfl fun a hS => ?_)
      refine wl rfl (ky (v := .int .u8 e2495) hS (y_move hS rfl) rfl rfl fun a hS => ?_)
      refine wl rfl (ky (v := .int .u8 (Int.tmod e2495 2)) hS (y_rem hS rfl rfl (by decide)) rfl rfl fun a hS => ?_)
      refine wl rfl (ky (v := .bool ((Int.tmod e2495 2 : Int) == 1)) hS (y_int hS rfl rfl rfl) rfl rfl fun a hS => ?_)
      refine wl rfl (ky (v := .agg #[.bool ((Int.tmod e2495 2 : Int) == 1), .slice none 0 0, .int .i64 0, .int .i64 0]) hS (y_build (ps := [(0, .tmp 25)]) hS pl46 ze46 rfl (us := [[.bool ((Int.tmod e2495 2 : Int) == 1)]]) ⟨rfl, trivial⟩ (ws := [.bool ((Int.tmod e2495 2 : Int) == 1), .slice none 0 0, .int .i64 0, .int .i64 0]) rfl) rfl rfl fun a hS => ?_)
      refine wl rfl (k_bslice (ps := [(0, .tmp 26)]) hS el38 ze46 (zl := [.bool false, .slice none 0 0, .int .i64 0, .int .i64 0]) (by kernel_rfl) rfl (us := [[.bool ((Int.tmod e2495 2 : Int) == 1), .slice none 0 0, .int .i64 0, .int .i64 0]]) ⟨rfl, trivial⟩ (ws := [.bool ((Int.tmod e2495 2 : Int) == 1), .slice none 0 0, .int .i64 0, .int .i64 0]) rfl rfl rfl rfl fun b2501 a w hk hS => ?_)
      replace hS := hS.lit (R := R_RuleD) (us := [.bool ((Int.tmod e2495 2 : Int) == 1), .slice none 0 0, .int .i64 0, .int .i64 0]) (xs := [(RuleD.mk ((Int.tmod e2495 2 : Int) == 1) ([]) 0 0)]) 0 rfl (by decide) (RowsOk.one_ (R := R_RuleD) (x := (RuleD.mk ((Int.tmod e2495 2 : Int) == 1) ([]) 0 0)) (⟨_, rfl, SlR.nil_ _ _ _⟩)) rfl rfl
      replace hS := hS.freeze (R := R_RuleD) 0 rfl 0 rfl
      obtain ⟨hg2503, hM⟩ := gd_some hM
      refine wl rfl (k_apps (R := R_RuleD) (xs := l2470) (ys := [(RuleD.mk ((Int.tmod e2495 2 : Int) == 1) ([]) 0 0)]) hS el38 (by decide) (by decide) rfl rfl 0 rfl 3 rfl 0 rfl hg2503 rfl fun v2504 cl2505 a w hk hS => ?_)
      refine wl rfl (ky (v := v2504) hS (y_assign hS rfl) rfl rfl fun a hS => ?_)
      refine wpList_nil ?_
      try simp only [Exit.then, Exit.inBlock, ↓reduceIte, Nat.reduceEqDiff]
      refine hK355 _ _ ?_
      refine r_list ?_
      refine wl rfl (ky (v := .int .i64 (IntKind.i64.wrap (g2474 + 1))) hS (y_int hS rfl rfl rfl) rfl rfl fun a hS => ?_)
      refine wl rfl (ky (v := .int .i64 (IntKind.i64.wrap (g2474 + 1))) hS (y_move hS rfl) rfl rfl fun a hS => ?_)
      refine wpList_nil ?_
      try simp only [Exit.then, Exit.inBlock, ↓reduceIte, Nat.reduceEqDiff]
      exact ⟨((l2470 ++ ([(RuleD.mk ((Int.tmod e2495 2 : Int) == 1) ([]) 0 0)])), IntKind.i64.wrap (g2474 + 1)), (Option.some.inj hM).symm, (l2470 ++ ([(RuleD.mk ((Int.tmod e2495 2 : Int) == 1) ([]) 0 0)])), (IntKind.i64.wrap (g2474 + 1)), v2504, cl2505, rfl, (hS.meet [0] (by decide) ⟨rfl, rfl, rfl, rfl, rfl, trivial⟩ ⟨rfl, trivial⟩ ⟨⟨0, rfl⟩, ⟨5, rfl⟩, ⟨6, rfl⟩, trivial⟩)⟩
    · replace hM := cf hb2494 hM
      refine c_f hS rfl hb2494 ?_
      refine wp_exit ?_
      try simp only [Exit.then, Exit.inBlock, ↓reduceIte, Nat.reduceEqDiff]
      injection hM with hM
      subst hM
      have hr := hf1 _ rfl
      subst hr
      have hM : law23_KeyRules_j5 n_1 l2470 = some y := hMo1
      exact ⟨l2470, v2471, cl2472, (hS.meet [0] (by decide) ⟨rfl, rfl, trivial⟩ ⟨rfl, trivial⟩ ⟨⟨0, rfl⟩, ⟨2, rfl⟩, trivial⟩), hM⟩
  · rintro a w ⟨l1181, v1182, cl1183, hS, hM⟩
    unfold law23_KeyRules_j5 at hM
    refine wp_seq_k fun K171 hK171 => ?_
    refine r_list ?_
    refine wl rfl (k_mkmap R_KeyD true Rep.bool false hS rfl fun b1185 hnb1186 a w hk hS => ?_)
    refine wl rfl (ky (v := .map (some b1185)) hS (y_assign hS rfl) rfl rfl fun a hS => ?_)
    refine wpList_nil ?_
    try simp only [Exit.then, Exit.inBlock, ↓reduceIte, Nat.reduceEqDiff]
    refine hK171 _ _ ?_
    refine seq_j (J := fun a w => St W0 No T 108 [(1, .int .i64 n_1), (5, v1182)] [.own v1182 46 R_RuleD.size cl1183] [RowsF R_RuleD cl1183 l1181, LvF] a w ∧ law23_KeyRules_j2 n_1 l1181 = some y) ?_ ?_
    · skip
      refine wp_seq_k fun K241 hK241 => ?_
      refine r_list ?_
      refine wl rfl (ky (v := v1182) hS (y_move hS rfl) rfl rfl fun a hS => ?_)
      refine wl rfl (ky (v := .int .i64 (l1181.length : Int)) hS (y_leno (R := R_RuleD) (xs := l1181) hS sl38 rfl 1 rfl 1 rfl) rfl rfl fun a hS => ?_)
      refine wl rfl (ky (v := .int .i64 0) hS (y_move hS rfl) rfl rfl fun a hS => ?_)
      refine wpList_nil ?_
      try simp only [Exit.then, Exit.inBlock, ↓reduceIte, Nat.reduceEqDiff]
      refine hK241 _ _ ?_
      refine wp_block ?_
      obtain ⟨r1, hl1, hMo1⟩ := bd hM
      refine wp_lp (fun s : (List (KeyD × Bool)) × Int => law23_KeyRules_l4 l1181 s.1 s.2) (fun s a w => ∃ (seen1961 : (List (KeyD × Bool))) (g1964 : Int) (es1962 : (Array MapEntry)) (ck1963 : Nat), (seen1961, g1964) = s ∧ St W0 No T 108 [(1, .int .i64 n_1), (5, v1182), (8, .map (some b1185)), (31, v1182), (32, .int .i64 (l1181.length : Int)), (33, .int .i64 g1964)] [.own v1182 46 R_RuleD.size cl1183, .obj b1185 (.map es1962 ck1963)] [RowsF R_RuleD cl1183 l1181, MapF R_KeyD true Rep.bool false es1962 seen1961, LvF] a w) hl1 ⟨([] : (List (KeyD × Bool))), 0, (#[]), 0, rfl, (hS.meet [1, 0] (by decide) ⟨rfl, rfl, rfl, rfl, rfl, rfl, trivial⟩ ⟨rfl, rfl, trivial⟩ ⟨⟨1, rfl⟩, ⟨0, rfl⟩, ⟨2, rfl⟩, trivial⟩)⟩ ?_
      rintro s a w f1 ⟨seen1961, g1964, es1962, ck1963, rfl, hS⟩ hM hf1
      have hM : law23_KeyRules_l4 l1181 seen1961 g1964 = some f1 := hM
      unfold law23_KeyRules_l4 at hM
      refine wp_seq_k fun K310 hK310 => ?_
      refine r_list ?_
      refine wl rfl (ky (v := .bool (decide ((g1964 : Int) < (l1181.length : Int)))) hS (y_int hS rfl rfl rfl) rfl rfl fun a hS => ?_)
      refine wpList_nil ?_
      try simp only [Exit.then, Exit.inBlock, ↓reduceIte, Nat.reduceEqDiff]
      refine hK310 _ _ ?_
      refine wp_seq_k fun K311 hK311 => ?_
      rcases bool2 (decide ((g1964 : Int) < (l1181.length : Int))) with hb2209 | hb2209
      · replace hM := ct hb2209 hM
        refine c_t hS rfl hb2209 ?_
        refine wp_skip ?_
        try simp only [Exit.then, Exit.inBlock, ↓reduceIte, Nat.reduceEqDiff]
        refine hK311 _ _ ?_
        refine seq_j (J := fun a w => ∃ (seen2328 : (List (KeyD × Bool))) (es2329 : (Array MapEntry)) (ck2330 : Nat), St W0 No T 108 [(1, .int .i64 n_1), (5, v1182), (8, .map (some b1185)), (31, v1182), (32, .int .i64 (l1181.length : Int)), (33, .int .i64 g1964)] [.own v1182 46 R_RuleD.size cl1183, .obj b1185 (.map es2329 ck2330)] [RowsF R_RuleD cl1183 l1181, MapF R_KeyD true Rep.bool false es2329 seen2328, LvF] a w ∧ law23_KeyRules_j3 g1964 seen2328 = some f1) ?_ ?_
        · skip
          refine wp_block ?_
          refine wp_seq_k fun K328 hK328 => ?_
          refine r_list ?_
          refine wl rfl (ky (v := .int .i64 g1964) hS (y_move hS rfl) rfl rfl fun a hS => ?_)
          obtain ⟨e2331, he2331, hM⟩ := bd hM
          refine wl rfl (k_indexo (R := R_RuleD) hS sl38 ty46 rfl rfl 0 rfl 0 rfl he2331 rfl fun b2333 o2334 p2339 cs2336 hr2335 hO2337 hC2338 a hS => ?_)
          obtain ⟨v2332, rfl, hv2332⟩ := hr2335
          replace hS := hS.fact (SlF R_AskD v2332 e2331.Asks) hv2332
          refine wl rfl (ky (v := .agg #[.bool e2331.Ring, v2332, .int .i64 e2331.Final, .int .i64 e2331.C]) hS (y_loado (k := 0) hS ty46 0 rfl hO2337 hC2338 rfl id (us := [.bool e2331.Ring, v2332, .int .i64 e2331.Final, .int .i64 e2331.C]) rfl rfl (fun h => by cases h)) rfl rfl fun a hS => ?_)
          refine wl rfl (k_alloc hS ze46 rfl fun b2340 hnb2342 a w hk hS => ?_)
          refine wl rfl (ky (v := .int .i64 g1964) hS (y_assign hS rfl) rfl rfl fun a hS => ?_)
          refine wl rfl (k_store hS rfl rfl (us := [.bool e2331.Ring, v2332, .int .i64 e2331.Final, .int .i64 e2331.C]) rfl ty46 0 rfl rfl rfl (oc rfl (oc (SlR.one ((hS.get 0 rfl) : SlR R_AskD _ _ _ _)) (oc rfl (oc rfl on)))) fun w hk hS => ?_)
          refine wpList_nil ?_
          try simp only [Exit.then, Exit.inBlock, ↓reduceIte, Nat.reduceEqDiff]
          refine hK328 _ _ ?_
          refine wp_seq_k fun K329 hK329 => ?_
          refine r_list ?_
          refine wl rfl (ky (v := v1182) hS (y_move hS rfl) rfl rfl fun a hS => ?_)
          refine wl rfl (ky (v := .int .i64 g1964) hS (y_move hS rfl) rfl rfl fun a hS => ?_)
          have hL := hS
          replace hL := hL.freeze (R := R_RuleD) 1 rfl 1 rfl
          obtain ⟨u2343, hu2343, hM⟩ := bd hM
          refine wl rfl (k_call hS ci31 rfl rfl (key_Of_c _ _ hL.dlt (hL.get 4 rfl) l1181 g1964 _ (hL.get 0 rfl) _ hu2343) fun _ w hR a hk hA => ?_)
          have he := Eq.symm hR
          subst he
          have hS := hA [] (fun r hr => by cases hr) List.Pairwise.nil
          refine wl rfl (k_alloc hS ze28 rfl fun b2345 hnb2347 a w hk hS => ?_)
          refine wl rfl (k_store hS rfl rfl (us := [.int .i64 u2343.Kind, .string u2343.Text]) rfl ty28 0 rfl rfl rfl (oc rfl (oc rfl on)) fun w hk hS => ?_)
          refine wpList_nil ?_
          try simp only [Exit.then, Exit.inBlock, ↓reduceIte, Nat.reduceEqDiff]
          refine hK329 _ _ ?_
          refine wp_seq_k fun K330 hK330 => ?_
          refine wp_seq_k fun K331 hK331 => ?_
          refine r_list ?_
          refine wl rfl (ky (v := .int .i64 g1964) hS (y_move hS rfl) rfl rfl fun a hS => ?_)
          refine wl rfl (ky (v := .bool (decide ((99 : Int) < g1964))) hS (y_int hS rfl rfl rfl) rfl rfl fun a hS => ?_)
          refine wpList_nil ?_
          try simp only [Exit.then, Exit.inBlock, ↓reduceIte, Nat.reduceEqDiff]
          refine hK331 _ _ ?_
          rcases bool2 (decide ((99 : Int) < g1964)) with hb2348 | hb2348
          · replace hM := ct hb2348 hM
            refine c_t hS rfl hb2348 ?_
            refine wp_seq_k fun K332 hK332 => ?_
            refine wp_seq_k fun K333 hK333 => ?_
            refine r_list ?_
            refine wl rfl (ky (v := .agg #[.int .i64 u2343.Kind, .string u2343.Text]) hS (y_load hS rfl ty28 0 rfl id (us := [.int .i64 u2343.Kind, .string u2343.Text]) rfl rfl (fun h => by cases h)) rfl rfl fun a hS => ?_)
            refine wl rfl (ky (v := .agg #[.int .i64 0, .string (ByteArray.mk #[])]) hS (y_build (ps := []) hS pl28 ze28 rfl (us := []) trivial (ws := [.int .i64 0, .string (ByteArray.mk #[])]) rfl) rfl rfl fun a hS => ?_)
            refine wl rfl (ky (v := .bool (!((u2343.Kind : Int) == 0 && u2343.Text.toList == (ByteArray.mk #[]).toList))) hS (eq28n hS rfl rfl) rfl rfl fun a hS => ?_)
            refine wpList_nil ?_
            try simp only [Exit.then, Exit.inBlock, ↓reduceIte, Nat.reduceEqDiff]
            refine hK333 _ _ ?_
            rcases bool2 (!((u2343.Kind : Int) == 0 && u2343.Text.toList == (ByteArray.mk #[]).toList)) with hb2349 | hb2349
            · replace hM := ct hb2349 hM
              refine c_t hS rfl hb2349 ?_
              refine wp_seq_k fun K334 hK334 => ?_
              refine r_list ?_
              refine wl rfl (ky (v := .bool false) hS (y_assign hS rfl) rfl rfl fun a hS => ?_)
              refine wpList_nil ?_
              try simp only [Exit.then, Exit.inBlock, ↓reduceIte, Nat.reduceEqDiff]
              refine hK334 _ _ ?_
              refine wp_ret ?_
              injection hM with hM
              subst hM
              have hr := hf1 _ rfl
              subst hr
              replace hMo1 := el_out hMo1
              have hM := hMo1
              injection hM with hM
              subst hM
              try simp only [Exit.then, Exit.inBlock, ↓reduceIte, Nat.reduceEqDiff]
              refine ret_ok hS Tryd.results6 (res_tmp hS rfl res_nil) ?_
              exact rfl
            · replace hM := cf hb2349 hM
              refine c_f hS rfl hb2349 ?_
              refine wp_skip ?_
              try simp only [Exit.then, Exit.inBlock, ↓reduceIte, Nat.reduceEqDiff]
              refine hK332 _ _ ?_
              refine wp_exit ?_
              try simp only [Exit.then, Exit.inBlock, ↓reduceIte, Nat.reduceEqDiff]
              exact ⟨seen1961, es1962, ck1963, (hS.meet [2, 3] (by decide) ⟨rfl, rfl, rfl, rfl, rfl, rfl, trivial⟩ ⟨rfl, rfl, trivial⟩ ⟨⟨1, rfl⟩, ⟨2, rfl⟩, ⟨3, rfl⟩, trivial⟩), hM⟩
          · replace hM := cf hb2348 hM
            refine c_f hS rfl hb2348 ?_
            refine wp_skip ?_
            try simp only [Exit.then, Exit.inBlock, ↓reduceIte, Nat.reduceEqDiff]
            refine hK330 _ _ ?_
            refine wp_seq_k fun K335 hK335 => ?_
            refine wp_seq_k fun K336 hK336 => ?_
            refine draws [] hS mixed rfl (fun c a d v w h => by cases d <;> exact h) fun w hQ hS => ?_
            refine dy 0 (v := .map (some b1185)) rfl (by kernel_rfl) (by kernel_rfl) (by kernel_rfl) rfl hQ hS (y_move hS rfl) rfl rfl rfl fun a hS => ?_
            refine dy (l := []) 1 (v := .agg #[.int .i64 u2343.Kind, .string u2343.Text]) rfl (by kernel_rfl) (by kernel_rfl) (by kernel_rfl) (by kernel_rfl) hQ hS (y_load hS rfl ty28 0 rfl eo_nil (us := [.int .i64 u2343.Kind, .string u2343.Text]) rfl rfl (fun h => by cases h)) rfl rfl rfl fun a hS => ?_
            obtain ⟨u2422, hu2422, hM⟩ := bd hM
            obtain ⟨cv2423, hr2424, hy2425⟩ := d_looku hS mp47 kt_KeyD 3 rfl 2 rfl (c := [.int .i64 u2343.Kind, .string u2343.Text]) (key := u2343) rfl zv4 (zc := [.bool false]) rfl rfl hu2422
            obtain rfl := hr2424
            refine dy (l := []) 2 (v := .bool u2422) rfl (by kernel_rfl) (by kernel_rfl) (by kernel_rfl) (by kernel_rfl) hQ hS (hy2425 rfl rfl eo_nil) rfl rfl rfl fun a hS => ?_
            refine dy 3 (v := .bool u2422) rfl (by kernel_rfl) (by kernel_rfl) (by kernel_rfl) rfl hQ hS (y_move hS rfl) rfl rfl rfl fun a hS => ?_
            rcases bool2 (u2422) with hb2426 | hb2426
            · replace hM := ct hb2426 hM
              refine dyn 4 rfl (by kernel_rfl) (by kernel_rfl) (by kernel_rfl) hQ hS rfl rfl rfl hb2426 rfl rfl fun a hS => ?_
              refine dyn 5 rfl (by kernel_rfl) (by kernel_rfl) (by kernel_rfl) hQ hS rfl rfl rfl hb2426 rfl rfl fun a hS => ?_
              refine dyn 6 rfl (by kernel_rfl) (by kernel_rfl) (by kernel_rfl) hQ hS rfl rfl rfl hb2426 rfl rfl fun a hS => ?_
              refine dy 7 (v := .bool true) rfl (by kernel_rfl) (by kernel_rfl) (by kernel_rfl) rfl hQ hS (y_pickt hS rfl hb2426 rfl) rfl rfl rfl fun a hS => ?_
              refine dy 8 (v := .bool true) rfl (by kernel_rfl) (by kernel_rfl) (by kernel_rfl) rfl hQ hS (y_move hS rfl) rfl rfl rfl fun a hS => ?_
              refine dyn 9 rfl (by kernel_rfl) (by kernel_rfl) (by kernel_rfl) hQ hS rfl rfl rfl rfl rfl rfl fun a hS => ?_
              refine dyn 10 rfl (by kernel_rfl) (by kernel_rfl) (by kernel_rfl) hQ hS rfl rfl rfl rfl rfl rfl fun a hS => ?_
              refine dy 11 (v := .bool true) rfl (by kernel_rfl) (by kernel_rfl) (by kernel_rfl) rfl hQ hS (y_pickt hS rfl rfl rfl) rfl rfl rfl fun a hS => ?_
              refine dy 12 (v := .bool true) rfl (by kernel_rfl) (by kernel_rfl) (by kernel_rfl) rfl hQ hS (y_move hS rfl) rfl rfl rfl fun a hS => ?_
              refine dyn 13 rfl (by kernel_rfl) (by kernel_rfl) (by kernel_rfl) hQ hS rfl rfl rfl rfl rfl rfl fun a hS => ?_
              refine dyn 14 rfl (by kernel_rfl) (by kernel_rfl) (by kernel_rfl) hQ hS rfl rfl rfl rfl rfl rfl fun a hS => ?_
              refine dyn 15 rfl (by kernel_rfl) (by kernel_rfl) (by kernel_rfl) hQ hS rfl rfl rfl rfl rfl rfl fun a hS => ?_
              refine dyn 16 rfl (by kernel_rfl) (by kernel_rfl) (by kernel_rfl) hQ hS rfl rfl rfl rfl rfl rfl fun a hS => ?_
              refine dy 17 (v := .bool true) rfl (by kernel_rfl) (by kernel_rfl) (by kernel_rfl) rfl hQ hS (y_pickt hS rfl rfl rfl) rfl rfl rfl fun a hS => ?_
              refine dy 18 (v := .bool true) rfl (by kernel_rfl) (by kernel_rfl) (by kernel_rfl) rfl hQ hS (y_move hS rfl) rfl rfl rfl fun a hS => ?_
              refine dyn 19 rfl (by kernel_rfl) (by kernel_rfl) (by kernel_rfl) hQ hS rfl rfl rfl rfl rfl rfl fun a hS => ?_
              refine dyn 20 rfl (by kernel_rfl) (by kernel_rfl) (by kernel_rfl) hQ hS rfl rfl rfl rfl rfl rfl fun a hS => ?_
              refine dyn 21 rfl (by kernel_rfl) (by kernel_rfl) (by kernel_rfl) hQ hS rfl rfl rfl rfl rfl rfl fun a hS => ?_
              refine dyn 22 rfl (by kernel_rfl) (by kernel_rfl) (by kernel_rfl) hQ hS rfl rfl rfl rfl rfl rfl fun a hS => ?_
              refine dyn 23 rfl (by kernel_rfl) (by kernel_rfl) (by kernel_rfl) hQ hS rfl rfl rfl rfl rfl rfl fun a hS => ?_
              refine dy 24 (v := .bool true) rfl (by kernel_rfl) (by kernel_rfl) (by kernel_rfl) rfl hQ hS (y_pickt hS rfl rfl rfl) rfl rfl rfl fun a hS => ?_
              refine dy 25 (v := .bool true) rfl (by kernel_rfl) (by kernel_rfl) (by kernel_rfl) rfl hQ hS (y_move hS rfl) rfl rfl rfl fun a hS => ?_
              refine dyn 26 rfl (by kernel_rfl) (by kernel_rfl) (by kernel_rfl) hQ hS rfl rfl rfl rfl rfl rfl fun a hS => ?_
              refine dyn 27 rfl (by kernel_rfl) (by kernel_rfl) (by kernel_rfl) hQ hS rfl rfl rfl rfl rfl rfl fun a hS => ?_
              refine dyn 28 rfl (by kernel_rfl) (by kernel_rfl) (by kernel_rfl) hQ hS rfl rfl rfl rfl rfl rfl fun a hS => ?_
              refine dyn 29 rfl (by kernel_rfl) (by kernel_rfl) (by kernel_rfl) hQ hS rfl rfl rfl rfl rfl rfl fun a hS => ?_
              refine dy 30 (v := .bool true) rfl (by kernel_rfl) (by kernel_rfl) (by kernel_rfl) rfl hQ hS (y_pickt hS rfl rfl rfl) rfl rfl rfl fun a hS => ?_
              refine dy 31 (v := .bool true) rfl (by kernel_rfl) (by kernel_rfl) (by kernel_rfl) rfl hQ hS (y_move hS rfl) rfl rfl rfl fun a hS => ?_
              refine dyn 32 rfl (by kernel_rfl) (by kernel_rfl) (by kernel_rfl) hQ hS rfl rfl rfl rfl rfl rfl fun a hS => ?_
              refine dyn 33 rfl (by kernel_rfl) (by kernel_rfl) (by kernel_rfl) hQ hS rfl rfl rfl rfl rfl rfl fun a hS => ?_
              refine dyn 34 rfl (by kernel_rfl) (by kernel_rfl) (by kernel_rfl) hQ hS rfl rfl rfl rfl rfl rfl fun a hS => ?_
              refine dyn 35 rfl (by kernel_rfl) (by kernel_rfl) (by kernel_rfl) hQ hS rfl rfl rfl rfl rfl rfl fun a hS => ?_
              refine dyn 36 rfl (by kernel_rfl) (by kernel_rfl) (by kernel_rfl) hQ hS rfl rfl rfl rfl rfl rfl fun a hS => ?_
              refine dy 37 (v := .bool true) rfl (by kernel_rfl) (by kernel_rfl) (by kernel_rfl) rfl hQ hS (y_pickt hS rfl rfl rfl) rfl rfl rfl fun a hS => ?_
              refine wpE_done (by kernel_rfl) ?_ _
              try simp only [Exit.then, Exit.inBlock, ↓reduceIte, Nat.reduceEqDiff]
              refine hK336 _ _ ?_
              refine c_t hS rfl rfl ?_
              refine wp_seq_k fun K337 hK337 => ?_
              refine r_list ?_
              refine wl rfl (ky (v := .bool false) hS (y_assign hS rfl) rfl rfl fun a hS => ?_)
              refine wpList_nil ?_
              try simp only [Exit.then, Exit.inBlock, ↓reduceIte, Nat.reduceEqDiff]
              refine hK337 _ _ ?_
              refine wp_ret ?_
              injection hM with hM
              subst hM
              have hr := hf1 _ rfl
              subst hr
              replace hMo1 := el_out hMo1
              have hM := hMo1
              injection hM with hM
              subst hM
              try simp only [Exit.then, Exit.inBlock, ↓reduceIte, Nat.reduceEqDiff]
              refine ret_ok hS Tryd.results6 (res_tmp hS rfl res_nil) ?_
              exact rfl
            · replace hM := cf hb2426 hM
              refine dyg (l := []) 4 (v := .agg #[.int .i64 u2343.Kind, .string u2343.Text]) rfl (by kernel_rfl) (by kernel_rfl) (by kernel_rfl) (by kernel_rfl) hQ hS (y_load hS rfl ty28 0 rfl eo_nil (us := [.int .i64 u2343.Kind, .string u2343.Text]) rfl rfl (fun h => by cases h)) rfl rfl rfl hb2426 rfl rfl fun a hS => ?_
              obtain ⟨u2427, hu2427, hM⟩ := bd hM
              refine wpE_oneg (i := 5) rfl (by kernel_rfl) hS rfl rfl rfl hb2426 (k_call hS ci21 rfl rfl (key_Valid_c _ _ hS.dlt (hS.get 3 rfl) u2343 _ hu2427) fun _ w hR a hk hA => ⟨stN (hk), ?_⟩)
              have he := Eq.symm hR
              subst he
              have hS := hA [] (fun r hr => by cases hr) List.Pairwise.nil
              refine dyg 6 (v := .bool (!(u2427))) rfl (by kernel_rfl) (by kernel_rfl) (by kernel_rfl) rfl hQ hS (y_not hS rfl) rfl rfl rfl hb2426 rfl rfl fun a hS => ?_
              refine dy 7 (v := .bool (!(u2427))) rfl (by kernel_rfl) (by kernel_rfl) (by kernel_rfl) rfl hQ hS (y_pickf hS rfl hb2426 rfl) rfl rfl rfl fun a hS => ?_
              refine dy 8 (v := .bool (!(u2427))) rfl (by kernel_rfl) (by kernel_rfl) (by kernel_rfl) rfl hQ hS (y_move hS rfl) rfl rfl rfl fun a hS => ?_
              rcases bool2 (!(u2427)) with hb2429 | hb2429
              · replace hM := ct hb2429 hM
                refine dyn 9 rfl (by kernel_rfl) (by kernel_rfl) (by kernel_rfl) hQ hS rfl rfl rfl hb2429 rfl rfl fun a hS => ?_
                refine dyn 10 rfl (by kernel_rfl) (by kernel_rfl) (by kernel_rfl) hQ hS rfl rfl rfl hb2429 rfl rfl fun a hS => ?_
                refine dy 11 (v := .bool true) rfl (by kernel_rfl) (by kernel_rfl) (by kernel_rfl) rfl hQ hS (y_pickt hS rfl hb2429 rfl) rfl rfl rfl fun a hS => ?_
                refine dy 12 (v := .bool true) rfl (by kernel_rfl) (by kernel_rfl) (by kernel_rfl) rfl hQ hS (y_move hS rfl) rfl rfl rfl fun a hS => ?_
                refine dyn 13 rfl (by kernel_rfl) (by kernel_rfl) (by kernel_rfl) hQ hS rfl rfl rfl rfl rfl rfl fun a hS => ?_
                refine dyn 14 rfl (by kernel_rfl) (by kernel_rfl) (by kernel_rfl) hQ hS rfl rfl rfl rfl rfl rfl fun a hS => ?_
                refine dyn 15 rfl (by kernel_rfl) (by kernel_rfl) (by kernel_rfl) hQ hS rfl rfl rfl rfl rfl rfl fun a hS => ?_
                refine dyn 16 rfl (by kernel_rfl) (by kernel_rfl) (by kernel_rfl) hQ hS rfl rfl rfl rfl rfl rfl fun a hS => ?_
                refine dy 17 (v := .bool true) rfl (by kernel_rfl) (by kernel_rfl) (by kernel_rfl) rfl hQ hS (y_pickt hS rfl rfl rfl) rfl rfl rfl fun a hS => ?_
                refine dy 18 (v := .bool true) rfl (by kernel_rfl) (by kernel_rfl) (by kernel_rfl) rfl hQ hS (y_move hS rfl) rfl rfl rfl fun a hS => ?_
                refine dyn 19 rfl (by kernel_rfl) (by kernel_rfl) (by kernel_rfl) hQ hS rfl rfl rfl rfl rfl rfl fun a hS => ?_
                refine dyn 20 rfl (by kernel_rfl) (by kernel_rfl) (by kernel_rfl) hQ hS rfl rfl rfl rfl rfl rfl fun a hS => ?_
                refine dyn 21 rfl (by kernel_rfl) (by kernel_rfl) (by kernel_rfl) hQ hS rfl rfl rfl rfl rfl rfl fun a hS => ?_
                refine dyn 22 rfl (by kernel_rfl) (by kernel_rfl) (by kernel_rfl) hQ hS rfl rfl rfl rfl rfl rfl fun a hS => ?_
                refine dyn 23 rfl (by kernel_rfl) (by kernel_rfl) (by kernel_rfl) hQ hS rfl rfl rfl rfl rfl rfl fun a hS => ?_
                refine dy 24 (v := .bool true) rfl (by kernel_rfl) (by kernel_rfl) (by kernel_rfl) rfl hQ hS (y_pickt hS rfl rfl rfl) rfl rfl rfl fun a hS => ?_
                refine dy 25 (v := .bool true) rfl (by kernel_rfl) (by kernel_rfl) (by kernel_rfl) rfl hQ hS (y_move hS rfl) rfl rfl rfl fun a hS => ?_
                refine dyn 26 rfl (by kernel_rfl) (by kernel_rfl) (by kernel_rfl) hQ hS rfl rfl rfl rfl rfl rfl fun a hS => ?_
                refine dyn 27 rfl (by kernel_rfl) (by kernel_rfl) (by kernel_rfl) hQ hS rfl rfl rfl rfl rfl rfl fun a hS => ?_
                refine dyn 28 rfl (by kernel_rfl) (by kernel_rfl) (by kernel_rfl) hQ hS rfl rfl rfl rfl rfl rfl fun a hS => ?_
                refine dyn 29 rfl (by kernel_rfl) (by kernel_rfl) (by kernel_rfl) hQ hS rfl rfl rfl rfl rfl rfl fun a hS => ?_
                refine dy 30 (v := .bool true) rfl (by kernel_rfl) (by kernel_rfl) (by kernel_rfl) rfl hQ hS (y_pickt hS rfl rfl rfl) rfl rfl rfl fun a hS => ?_
                refine dy 31 (v := .bool true) rfl (by kernel_rfl) (by kernel_rfl) (by kernel_rfl) rfl hQ hS (y_move hS rfl) rfl rfl rfl fun a hS => ?_
                refine dyn 32 rfl (by kernel_rfl) (by kernel_rfl) (by kernel_rfl) hQ hS rfl rfl rfl rfl rfl rfl fun a hS => ?_
                refine dyn 33 rfl (by kernel_rfl) (by kernel_rfl) (by kernel_rfl) hQ hS rfl rfl rfl rfl rfl rfl fun a hS => ?_
                refine dyn 34 rfl (by kernel_rfl) (by kernel_rfl) (by kernel_rfl) hQ hS rfl rfl rfl rfl rfl rfl fun a hS => ?_
                refine dyn 35 rfl (by kernel_rfl) (by kernel_rfl) (by kernel_rfl) hQ hS rfl rfl rfl rfl rfl rfl fun a hS => ?_
                refine dyn 36 rfl (by kernel_rfl) (by kernel_rfl) (by kernel_rfl) hQ hS rfl rfl rfl rfl rfl rfl fun a hS => ?_
                refine dy 37 (v := .bool true) rfl (by kernel_rfl) (by kernel_rfl) (by kernel_rfl) rfl hQ hS (y_pickt hS rfl rfl rfl) rfl rfl rfl fun a hS => ?_
                refine wpE_done (by kernel_rfl) ?_ _
                try simp only [Exit.then, Exit.inBlock, ↓reduceIte, Nat.reduceEqDiff]
                refine hK336 _ _ ?_
                refine c_t hS rfl rfl ?_
                refine wp_seq_k fun K338 hK338 => ?_
                refine r_list ?_
                refine wl rfl (ky (v := .bool false) hS (y_assign hS rfl) rfl rfl fun a hS => ?_)
                refine wpList_nil ?_
                try simp only [Exit.then, Exit.inBlock, ↓reduceIte, Nat.reduceEqDiff]
                refine hK338 _ _ ?_
                refine wp_ret ?_
                injection hM with hM
                subst hM
                have hr := hf1 _ rfl
                subst hr
                replace hMo1 := el_out hMo1
                have hM := hMo1
                injection hM with hM
                subst hM
                try simp only [Exit.then, Exit.inBlock, ↓reduceIte, Nat.reduceEqDiff]
                refine ret_ok hS Tryd.results6 (res_tmp hS rfl res_nil) ?_
                exact rfl
              · replace hM := cf hb2429 hM
                refine dyg (l := []) 9 (v := .agg #[.int .i64 u2343.Kind, .string u2343.Text]) rfl (by kernel_rfl) (by kernel_rfl) (by kernel_rfl) (by kernel_rfl) hQ hS (y_load hS rfl ty28 0 rfl eo_nil (us := [.int .i64 u2343.Kind, .string u2343.Text]) rfl rfl (fun h => by cases h)) rfl rfl rfl hb2429 rfl rfl fun a hS => ?_
                obtain ⟨u2430, hu2430, hM⟩ := bd hM
                refine wpE_oneg (i := 10) rfl (by kernel_rfl) hS rfl rfl rfl hb2429 (k_call hS ci25 rfl rfl (key_Input_c _ _ hS.dlt u2343 _ hu2430) fun _ w hR a hk hA => ⟨stN (hk), ?_⟩)
                have he := Eq.symm hR
                subst he
                have hS := hA [] (fun r hr => by cases hr) List.Pairwise.nil
                refine dy 11 (v := .bool u2430) rfl (by kernel_rfl) (by kernel_rfl) (by kernel_rfl) rfl hQ hS (y_pickf hS rfl hb2429 rfl) rfl rfl rfl fun a hS => ?_
                refine dy 12 (v := .bool u2430) rfl (by kernel_rfl) (by kernel_rfl) (by kernel_rfl) rfl hQ hS (y_move hS rfl) rfl rfl rfl fun a hS => ?_
                rcases bool2 (u2430) with hb2432 | hb2432
                · replace hM := ct hb2432 hM
                  refine dyn 13 rfl (by kernel_rfl) (by kernel_rfl) (by kernel_rfl) hQ hS rfl rfl rfl hb2432 rfl rfl fun a hS => ?_
                  refine dyn 14 rfl (by kernel_rfl) (by kernel_rfl) (by kernel_rfl) hQ hS rfl rfl rfl hb2432 rfl rfl fun a hS => ?_
                  refine dyn 15 rfl (by kernel_rfl) (by kernel_rfl) (by kernel_rfl) hQ hS rfl rfl rfl hb2432 rfl rfl fun a hS => ?_
                  refine dyn 16 rfl (by kernel_rfl) (by kernel_rfl) (by kernel_rfl) hQ hS rfl rfl rfl hb2432 rfl rfl fun a hS => ?_
                  refine dy 17 (v := .bool true) rfl (by kernel_rfl) (by kernel_rfl) (by kernel_rfl) rfl hQ hS (y_pickt hS rfl hb2432 rfl) rfl rfl rfl fun a hS => ?_
                  refine dy 18 (v := .bool true) rfl (by kernel_rfl) (by kernel_rfl) (by kernel_rfl) rfl hQ hS (y_move hS rfl) rfl rfl rfl fun a hS => ?_
                  refine dyn 19 rfl (by kernel_rfl) (by kernel_rfl) (by kernel_rfl) hQ hS rfl rfl rfl rfl rfl rfl fun a hS => ?_
                  refine dyn 20 rfl (by kernel_rfl) (by kernel_rfl) (by kernel_rfl) hQ hS rfl rfl rfl rfl rfl rfl fun a hS => ?_
                  refine dyn 21 rfl (by kernel_rfl) (by kernel_rfl) (by kernel_rfl) hQ hS rfl rfl rfl rfl rfl rfl fun a hS => ?_
                  refine dyn 22 rfl (by kernel_rfl) (by kernel_rfl) (by kernel_rfl) hQ hS rfl rfl rfl rfl rfl rfl fun a hS => ?_
                  refine dyn 23 rfl (by kernel_rfl) (by kernel_rfl) (by kernel_rfl) hQ hS rfl rfl rfl rfl rfl rfl fun a hS => ?_
                  refine dy 24 (v := .bool true) rfl (by kernel_rfl) (by kernel_rfl) (by kernel_rfl) rfl hQ hS (y_pickt hS rfl rfl rfl) rfl rfl rfl fun a hS => ?_
                  refine dy 25 (v := .bool true) rfl (by kernel_rfl) (by kernel_rfl) (by kernel_rfl) rfl hQ hS (y_move hS rfl) rfl rfl rfl fun a hS => ?_
                  refine dyn 26 rfl (by kernel_rfl) (by kernel_rfl) (by kernel_rfl) hQ hS rfl rfl rfl rfl rfl rfl fun a hS => ?_
                  refine dyn 27 rfl (by kernel_rfl) (by kernel_rfl) (by kernel_rfl) hQ hS rfl rfl rfl rfl rfl rfl fun a hS => ?_
                  refine dyn 28 rfl (by kernel_rfl) (by kernel_rfl) (by kernel_rfl) hQ hS rfl rfl rfl rfl rfl rfl fun a hS => ?_
                  refine dyn 29 rfl (by kernel_rfl) (by kernel_rfl) (by kernel_rfl) hQ hS rfl rfl rfl rfl rfl rfl fun a hS => ?_
                  refine dy 30 (v := .bool true) rfl (by kernel_rfl) (by kernel_rfl) (by kernel_rfl) rfl hQ hS (y_pickt hS rfl rfl rfl) rfl rfl rfl fun a hS => ?_
                  refine dy 31 (v := .bool true) rfl (by kernel_rfl) (by kernel_rfl) (by kernel_rfl) rfl hQ hS (y_move hS rfl) rfl rfl rfl fun a hS => ?_
                  refine dyn 32 rfl (by kernel_rfl) (by kernel_rfl) (by kernel_rfl) hQ hS rfl rfl rfl rfl rfl rfl fun a hS => ?_
                  refine dyn 33 rfl (by kernel_rfl) (by kernel_rfl) (by kernel_rfl) hQ hS rfl rfl rfl rfl rfl rfl fun a hS => ?_
                  refine dyn 34 rfl (by kernel_rfl) (by kernel_rfl) (by kernel_rfl) hQ hS rfl rfl rfl rfl rfl rfl fun a hS => ?_
                  refine dyn 35 rfl (by kernel_rfl) (by kernel_rfl) (by kernel_rfl) hQ hS rfl rfl rfl rfl rfl rfl fun a hS => ?_
                  refine dyn 36 rfl (by kernel_rfl) (by kernel_rfl) (by kernel_rfl) hQ hS rfl rfl rfl rfl rfl rfl fun a hS => ?_
                  refine dy 37 (v := .bool true) rfl (by kernel_rfl) (by kernel_rfl) (by kernel_rfl) rfl hQ hS (y_pickt hS rfl rfl rfl) rfl rfl rfl fun a hS => ?_
                  refine wpE_done (by kernel_rfl) ?_ _
                  try simp only [Exit.then, Exit.inBlock, ↓reduceIte, Nat.reduceEqDiff]
                  refine hK336 _ _ ?_
                  refine c_t hS rfl rfl ?_
                  refine wp_seq_k fun K339 hK339 => ?_
                  refine r_list ?_
                  refine wl rfl (ky (v := .bool false) hS (y_assign hS rfl) rfl rfl fun a hS => ?_)
                  refine wpList_nil ?_
                  try simp only [Exit.then, Exit.inBlock, ↓reduceIte, Nat.reduceEqDiff]
                  refine hK339 _ _ ?_
                  refine wp_ret ?_
                  injection hM with hM
                  subst hM
                  have hr := hf1 _ rfl
                  subst hr
                  replace hMo1 := el_out hMo1
                  have hM := hMo1
                  injection hM with hM
                  subst hM
                  try simp only [Exit.then, Exit.inBlock, ↓reduceIte, Nat.reduceEqDiff]
                  refine ret_ok hS Tryd.results6 (res_tmp hS rfl res_nil) ?_
                  exact rfl
                · replace hM := cf hb2432 hM
                  refine dyg (l := []) 13 (v := .agg #[.int .i64 u2343.Kind, .string u2343.Text]) rfl (by kernel_rfl) (by kernel_rfl) (by kernel_rfl) (by kernel_rfl) hQ hS (y_load hS rfl ty28 0 rfl eo_nil (us := [.int .i64 u2343.Kind, .string u2343.Text]) rfl rfl (fun h => by cases h)) rfl rfl rfl hb2432 rfl rfl fun a hS => ?_
                  refine dyg 15 (v := .int .i64 g1964) rfl (by kernel_rfl) (by kernel_rfl) (by kernel_rfl) rfl hQ hS (y_move hS rfl) rfl rfl rfl hb2432 rfl rfl fun a hS => ?_
                  obtain ⟨u2433, hu2433, hM⟩ := bd hM
                  refine wpE_oneg (i := 14) rfl (by kernel_rfl) hS rfl rfl rfl hb2432 (k_call hS ci23 rfl rfl (key_Number_c _ _ hS.dlt (hS.get 3 rfl) u2343 _ hu2433) fun _ w hR a hk hA => ⟨stN (hk), ?_⟩)
                  have he := Eq.symm hR
                  subst he
                  have hS := hA [] (fun r hr => by cases hr) List.Pairwise.nil
                  refine dyg 16 (v := .bool ((u2433 : Int) != g1964)) rfl (by kernel_rfl) (by kernel_rfl) (by kernel_rfl) rfl hQ hS (y_int hS rfl rfl rfl) rfl rfl rfl hb2432 rfl rfl fun a hS => ?_
                  refine dy 17 (v := .bool ((u2433 : Int) != g1964)) rfl (by kernel_rfl) (by kernel_rfl) (by kernel_rfl) rfl hQ hS (y_pickf hS rfl hb2432 rfl) rfl rfl rfl fun a hS => ?_
                  refine dy 18 (v := .bool ((u2433 : Int) != g1964)) rfl (by kernel_rfl) (by kernel_rfl) (by kernel_rfl) rfl hQ hS (y_move hS rfl) rfl rfl rfl fun a hS => ?_
                  rcases bool2 ((u2433 : Int) != g1964) with hb2435 | hb2435
                  · replace hM := ct hb2435 hM
                    refine dyn 19 rfl (by kernel_rfl) (by kernel_rfl) (by kernel_rfl) hQ hS rfl rfl rfl hb2435 rfl rfl fun a hS => ?_
                    refine dyn 20 rfl (by kernel_rfl) (by kernel_rfl) (by kernel_rfl) hQ hS rfl rfl rfl hb2435 rfl rfl fun a hS => ?_
                    refine dyn 21 rfl (by kernel_rfl) (by kernel_rfl) (by kernel_rfl) hQ hS rfl rfl rfl hb2435 rfl rfl fun a hS => ?_
                    refine dyn 22 rfl (by kernel_rfl) (by kernel_rfl) (by kernel_rfl) hQ hS rfl rfl rfl hb2435 rfl rfl fun a hS => ?_
                    refine dyn 23 rfl (by kernel_rfl) (by kernel_rfl) (by kernel_rfl) hQ hS rfl rfl rfl hb2435 rfl rfl fun a hS => ?_
                    refine dy 24 (v := .bool true) rfl (by kernel_rfl) (by kernel_rfl) (by kernel_rfl) rfl hQ hS (y_pickt hS rfl hb2435 rfl) rfl rfl rfl fun a hS => ?_
                    refine dy 25 (v := .bool true) rfl (by kernel_rfl) (by kernel_rfl) (by kernel_rfl) rfl hQ hS (y_move hS rfl) rfl rfl rfl fun a hS => ?_
                    refine dyn 26 rfl (by kernel_rfl) (by kernel_rfl) (by kernel_rfl) hQ hS rfl rfl rfl rfl rfl rfl fun a hS => ?_
                    refine dyn 27 rfl (by kernel_rfl) (by kernel_rfl) (by kernel_rfl) hQ hS rfl rfl rfl rfl rfl rfl fun a hS => ?_
                    refine dyn 28 rfl (by kernel_rfl) (by kernel_rfl) (by kernel_rfl) hQ hS rfl rfl rfl rfl rfl rfl fun a hS => ?_
                    refine dyn 29 rfl (by kernel_rfl) (by kernel_rfl) (by kernel_rfl) hQ hS rfl rfl rfl rfl rfl rfl fun a hS => ?_
                    refine dy 30 (v := .bool true) rfl (by kernel_rfl) (by kernel_rfl) (by kernel_rfl) rfl hQ hS (y_pickt hS rfl rfl rfl) rfl rfl rfl fun a hS => ?_
                    refine dy 31 (v := .bool true) rfl (by kernel_rfl) (by kernel_rfl) (by kernel_rfl) rfl hQ hS (y_move hS rfl) rfl rfl rfl fun a hS => ?_
                    refine dyn 32 rfl (by kernel_rfl) (by kernel_rfl) (by kernel_rfl) hQ hS rfl rfl rfl rfl rfl rfl fun a hS => ?_
                    refine dyn 33 rfl (by kernel_rfl) (by kernel_rfl) (by kernel_rfl) hQ hS rfl rfl rfl rfl rfl rfl fun a hS => ?_
                    refine dyn 34 rfl (by kernel_rfl) (by kernel_rfl) (by kernel_rfl) hQ hS rfl rfl rfl rfl rfl rfl fun a hS => ?_
                    refine dyn 35 rfl (by kernel_rfl) (by kernel_rfl) (by kernel_rfl) hQ hS rfl rfl rfl rfl rfl rfl fun a hS => ?_
                    refine dyn 36 rfl (by kernel_rfl) (by kernel_rfl) (by kernel_rfl) hQ hS rfl rfl rfl rfl rfl rfl fun a hS => ?_
                    refine dy 37 (v := .bool true) rfl (by kernel_rfl) (by kernel_rfl) (by kernel_rfl) rfl hQ hS (y_pickt hS rfl rfl rfl) rfl rfl rfl fun a hS => ?_
                    refine wpE_done (by kernel_rfl) ?_ _
                    try simp only [Exit.then, Exit.inBlock, ↓reduceIte, Nat.reduceEqDiff]
                    refine hK336 _ _ ?_
                    refine c_t hS rfl rfl ?_
                    refine wp_seq_k fun K340 hK340 => ?_
                    refine r_list ?_
                    refine wl rfl (ky (v := .bool false) hS (y_assign hS rfl) rfl rfl fun a hS => ?_)
                    refine wpList_nil ?_
                    try simp only [Exit.then, Exit.inBlock, ↓reduceIte, Nat.reduceEqDiff]
                    refine hK340 _ _ ?_
                    refine wp_ret ?_
                    injection hM with hM
                    subst hM
                    have hr := hf1 _ rfl
                    subst hr
                    replace hMo1 := el_out hMo1
                    have hM := hMo1
                    injection hM with hM
                    subst hM
                    try simp only [Exit.then, Exit.inBlock, ↓reduceIte, Nat.reduceEqDiff]
                    refine ret_ok hS Tryd.results6 (res_tmp hS rfl res_nil) ?_
                    exact rfl
                  · replace hM := cf hb2435 hM
                    refine dyg (l := []) 19 (v := .agg #[.int .i64 u2343.Kind, .string u2343.Text]) rfl (by kernel_rfl) (by kernel_rfl) (by kernel_rfl) (by kernel_rfl) hQ hS (y_load hS rfl ty28 0 rfl eo_nil (us := [.int .i64 u2343.Kind, .string u2343.Text]) rfl rfl (fun h => by cases h)) rfl rfl rfl hb2435 rfl rfl fun a hS => ?_
                    refine dyg 21 (v := .pointer (some ⟨b2340, 0 + 0, none⟩)) rfl (by kernel_rfl) (by kernel_rfl) (by kernel_rfl) rfl hQ hS (y_fld hS rfl fl46_0) rfl rfl rfl hb2435 rfl rfl fun a hS => ?_
                    refine dyg (l := []) 22 (v := .bool e2331.Ring) rfl (by kernel_rfl) (by kernel_rfl) (by kernel_rfl) (by kernel_rfl) hQ hS (y_load hS rfl ty4 1 rfl eo_nil (us := [.bool e2331.Ring]) rfl rfl (fun _ => rfl)) rfl rfl rfl hb2435 rfl rfl fun a hS => ?_
                    obtain ⟨u2436, hu2436, hM⟩ := bd hM
                    refine wpE_oneg (i := 20) rfl (by kernel_rfl) hS rfl rfl rfl hb2435 (k_call hS ci27 rfl rfl (key_Cyclic_c _ _ hS.dlt u2343 _ hu2436) fun _ w hR a hk hA => ⟨stN (hk), ?_⟩)
                    have he := Eq.symm hR
                    subst he
                    have hS := hA [] (fun r hr => by cases hr) List.Pairwise.nil
                    refine dyg 23 (v := .bool (u2436 != e2331.Ring)) rfl (by kernel_rfl) (by kernel_rfl) (by kernel_rfl) rfl hQ hS (y_bool hS rfl rfl Tryd.underlying4 (.inr ⟨rfl, rfl⟩)) rfl rfl rfl hb2435 rfl rfl fun a hS => ?_
                    refine dy 24 (v := .bool (u2436 != e2331.Ring)) rfl (by kernel_rfl) (by kernel_rfl) (by kernel_rfl) rfl hQ hS (y_pickf hS rfl hb2435 rfl) rfl rfl rfl fun a hS => ?_
                    refine dy 25 (v := .bool (u2436 != e2331.Ring)) rfl (by kernel_rfl) (by kernel_rfl) (by kernel_rfl) rfl hQ hS (y_move hS rfl) rfl rfl rfl fun a hS => ?_
                    rcases bool2 (u2436 != e2331.Ring) with hb2438 | hb2438
                    · replace hM := ct hb2438 hM
                      refine dyn 26 rfl (by kernel_rfl) (by kernel_rfl) (by kernel_rfl) hQ hS rfl rfl rfl hb2438 rfl rfl fun a hS => ?_
                      refine dyn 27 rfl (by kernel_rfl) (by kernel_rfl) (by kernel_rfl) hQ hS rfl rfl rfl hb2438 rfl rfl fun a hS => ?_
                      refine dyn 28 rfl (by kernel_rfl) (by kernel_rfl) (by kernel_rfl) hQ hS rfl rfl rfl hb2438 rfl rfl fun a hS => ?_
                      refine dyn 29 rfl (by kernel_rfl) (by kernel_rfl) (by kernel_rfl) hQ hS rfl rfl rfl hb2438 rfl rfl fun a hS => ?_
                      refine dy 30 (v := .bool true) rfl (by kernel_rfl) (by kernel_rfl) (by kernel_rfl) rfl hQ hS (y_pickt hS rfl hb2438 rfl) rfl rfl rfl fun a hS => ?_
                      refine dy 31 (v := .bool true) rfl (by kernel_rfl) (by kernel_rfl) (by kernel_rfl) rfl hQ hS (y_move hS rfl) rfl rfl rfl fun a hS => ?_
                      refine dyn 32 rfl (by kernel_rfl) (by kernel_rfl) (by kernel_rfl) hQ hS rfl rfl rfl rfl rfl rfl fun a hS => ?_
                      refine dyn 33 rfl (by kernel_rfl) (by kernel_rfl) (by kernel_rfl) hQ hS rfl rfl rfl rfl rfl rfl fun a hS => ?_
                      refine dyn 34 rfl (by kernel_rfl) (by kernel_rfl) (by kernel_rfl) hQ hS rfl rfl rfl rfl rfl rfl fun a hS => ?_
                      refine dyn 35 rfl (by kernel_rfl) (by kernel_rfl) (by kernel_rfl) hQ hS rfl rfl rfl rfl rfl rfl fun a hS => ?_
                      refine dyn 36 rfl (by kernel_rfl) (by kernel_rfl) (by kernel_rfl) hQ hS rfl rfl rfl rfl rfl rfl fun a hS => ?_
                      refine dy 37 (v := .bool true) rfl (by kernel_rfl) (by kernel_rfl) (by kernel_rfl) rfl hQ hS (y_pickt hS rfl rfl rfl) rfl rfl rfl fun a hS => ?_
                      refine wpE_done (by kernel_rfl) ?_ _
                      try simp only [Exit.then, Exit.inBlock, ↓reduceIte, Nat.reduceEqDiff]
                      refine hK336 _ _ ?_
                      refine c_t hS rfl rfl ?_
                      refine wp_seq_k fun K341 hK341 => ?_
                      refine r_list ?_
                      refine wl rfl (ky (v := .bool false) hS (y_assign hS rfl) rfl rfl fun a hS => ?_)
                      refine wpList_nil ?_
                      try simp only [Exit.then, Exit.inBlock, ↓reduceIte, Nat.reduceEqDiff]
                      refine hK341 _ _ ?_
                      refine wp_ret ?_
                      injection hM with hM
                      subst hM
                      have hr := hf1 _ rfl
                      subst hr
                      replace hMo1 := el_out hMo1
                      have hM := hMo1
                      injection hM with hM
                      subst hM
                      try simp only [Exit.then, Exit.inBlock, ↓reduceIte, Nat.reduceEqDiff]
                      refine ret_ok hS Tryd.results6 (res_tmp hS rfl res_nil) ?_
                      exact rfl
                    · replace hM := cf hb2438 hM
                      refine dyg 26 (v := .int .i64 g1964) rfl (by kernel_rfl) (by kernel_rfl) (by kernel_rfl) rfl hQ hS (y_move hS rfl) rfl rfl rfl hb2438 rfl rfl fun a hS => ?_
                      refine dyg (l := []) 28 (v := .agg #[.int .i64 u2343.Kind, .string u2343.Text]) rfl (by kernel_rfl) (by kernel_rfl) (by kernel_rfl) (by kernel_rfl) hQ hS (y_load hS rfl ty28 0 rfl eo_nil (us := [.int .i64 u2343.Kind, .string u2343.Text]) rfl rfl (fun h => by cases h)) rfl rfl rfl hb2438 rfl rfl fun a hS => ?_
                      obtain ⟨u2439, hu2439, hM⟩ := bd hM
                      refine wpE_oneg (i := 27) rfl (by kernel_rfl) hS rfl rfl rfl hb2438 (k_call hS ci29 rfl rfl (key_Cell_c _ _ hS.dlt (hS.get 3 rfl) g1964 _ hu2439) fun _ w hR a hk hA => ⟨stN (hk), ?_⟩)
                      have he := Eq.symm hR
                      subst he
                      have hS := hA [] (fun r hr => by cases hr) List.Pairwise.nil
                      refine dyg 29 (v := .bool ((u2439.Kind : Int) == u2343.Kind && u2439.Text.toList == u2343.Text.toList)) rfl (by kernel_rfl) (by kernel_rfl) (by kernel_rfl) rfl hQ hS (eq28 hS rfl rfl) rfl rfl rfl hb2438 rfl rfl fun a hS => ?_
                      refine dy 30 (v := .bool ((u2439.Kind : Int) == u2343.Kind && u2439.Text.toList == u2343.Text.toList)) rfl (by kernel_rfl) (by kernel_rfl) (by kernel_rfl) rfl hQ hS (y_pickf hS rfl hb2438 rfl) rfl rfl rfl fun a hS => ?_
                      refine dy 31 (v := .bool ((u2439.Kind : Int) == u2343.Kind && u2439.Text.toList == u2343.Text.toList)) rfl (by kernel_rfl) (by kernel_rfl) (by kernel_rfl) rfl hQ hS (y_move hS rfl) rfl rfl rfl fun a hS => ?_
                      rcases bool2 ((u2439.Kind : Int) == u2343.Kind && u2439.Text.toList == u2343.Text.toList) with hb2441 | hb2441
                      · replace hM := ct hb2441 hM
                        refine dyn 32 rfl (by kernel_rfl) (by kernel_rfl) (by kernel_rfl) hQ hS rfl rfl rfl hb2441 rfl rfl fun a hS => ?_
                        refine dyn 33 rfl (by kernel_rfl) (by kernel_rfl) (by kernel_rfl) hQ hS rfl rfl rfl hb2441 rfl rfl fun a hS => ?_
                        refine dyn 34 rfl (by kernel_rfl) (by kernel_rfl) (by kernel_rfl) hQ hS rfl rfl rfl hb2441 rfl rfl fun a hS => ?_
                        refine dyn 35 rfl (by kernel_rfl) (by kernel_rfl) (by kernel_rfl) hQ hS rfl rfl rfl hb2441 rfl rfl fun a hS => ?_
                        refine dyn 36 rfl (by kernel_rfl) (by kernel_rfl) (by kernel_rfl) hQ hS rfl rfl rfl hb2441 rfl rfl fun a hS => ?_
                        refine dy 37 (v := .bool true) rfl (by kernel_rfl) (by kernel_rfl) (by kernel_rfl) rfl hQ hS (y_pickt hS rfl hb2441 rfl) rfl rfl rfl fun a hS => ?_
                        refine wpE_done (by kernel_rfl) ?_ _
                        try simp only [Exit.then, Exit.inBlock, ↓reduceIte, Nat.reduceEqDiff]
                        refine hK336 _ _ ?_
                        refine c_t hS rfl rfl ?_
                        refine wp_seq_k fun K342 hK342 => ?_
                        refine r_list ?_
                        refine wl rfl (ky (v := .bool false) hS (y_assign hS rfl) rfl rfl fun a hS => ?_)
                        refine wpList_nil ?_
                        try simp only [Exit.then, Exit.inBlock, ↓reduceIte, Nat.reduceEqDiff]
                        refine hK342 _ _ ?_
                        refine wp_ret ?_
                        injection hM with hM
                        subst hM
                        have hr := hf1 _ rfl
                        subst hr
                        replace hMo1 := el_out hMo1
                        have hM := hMo1
                        injection hM with hM
                        subst hM
                        try simp only [Exit.then, Exit.inBlock, ↓reduceIte, Nat.reduceEqDiff]
                        refine ret_ok hS Tryd.results6 (res_tmp hS rfl res_nil) ?_
                        exact rfl
                      · replace hM := cf hb2441 hM
                        refine dyg 32 (v := .int .i64 g1964) rfl (by kernel_rfl) (by kernel_rfl) (by kernel_rfl) rfl hQ hS (y_move hS rfl) rfl rfl rfl hb2441 rfl rfl fun a hS => ?_
                        refine dyg 35 (v := .int .i64 g1964) rfl (by kernel_rfl) (by kernel_rfl) (by kernel_rfl) rfl hQ hS (y_move hS rfl) rfl rfl rfl hb2441 rfl rfl fun a hS => ?_
                        obtain ⟨u2442, hu2442, hM⟩ := bd hM
                        refine wpE_oneg (i := 33) rfl (by kernel_rfl) hS rfl rfl rfl hb2441 (k_call hS ci29 rfl rfl (key_Cell_c _ _ hS.dlt (hS.get 3 rfl) g1964 _ hu2442) fun _ w hR a hk hA => ⟨stN (hk), ?_⟩)
                        have he := Eq.symm hR
                        subst he
                        have hS := hA [] (fun r hr => by cases hr) List.Pairwise.nil
                        obtain ⟨u2444, hu2444, hM⟩ := bd hM
                        refine wpE_oneg (i := 34) rfl (by kernel_rfl) hS rfl rfl rfl hb2441 (k_call hS ci23 rfl rfl (key_Number_c _ _ hS.dlt (hS.get 3 rfl) u2442 _ hu2444) fun _ w hR a hk hA => ⟨stN (hk), ?_⟩)
                        have he := Eq.symm hR
                        subst he
                        have hS := hA [] (fun r hr => by cases hr) List.Pairwise.nil
                        refine dyg 36 (v := .bool ((u2444 : Int) != g1964)) rfl (by kernel_rfl) (by kernel_rfl) (by kernel_rfl) rfl hQ hS (y_int hS rfl rfl rfl) rfl rfl rfl hb2441 rfl rfl fun a hS => ?_
                        refine dy 37 (v := .bool ((u2444 : Int) != g1964)) rfl (by kernel_rfl) (by kernel_rfl) (by kernel_rfl) rfl hQ hS (y_pickf hS rfl hb2441 rfl) rfl rfl rfl fun a hS => ?_
                        refine wpE_done (by kernel_rfl) ?_ _
                        try simp only [Exit.then, Exit.inBlock, ↓reduceIte, Nat.reduceEqDiff]
                        refine hK336 _ _ ?_
                        rcases bool2 ((u2444 : Int) != g1964) with hb2446 | hb2446
                        · replace hM := ct hb2446 hM
                          refine c_t hS rfl hb2446 ?_
                          refine wp_seq_k fun K343 hK343 => ?_
                          refine r_list ?_
                          refine wl rfl (ky (v := .bool false) hS (y_assign hS rfl) rfl rfl fun a hS => ?_)
                          refine wpList_nil ?_
                          try simp only [Exit.then, Exit.inBlock, ↓reduceIte, Nat.reduceEqDiff]
                          refine hK343 _ _ ?_
                          refine wp_ret ?_
                          injection hM with hM
                          subst hM
                          have hr := hf1 _ rfl
                          subst hr
                          replace hMo1 := el_out hMo1
                          have hM := hMo1
                          injection hM with hM
                          subst hM
                          try simp only [Exit.then, Exit.inBlock, ↓reduceIte, Nat.reduceEqDiff]
                          refine ret_ok hS Tryd.results6 (res_tmp hS rfl res_nil) ?_
                          exact rfl
                        · replace hM := cf hb2446 hM
                          refine c_f hS rfl hb2446 ?_
                          refine wp_skip ?_
                          try simp only [Exit.then, Exit.inBlock, ↓reduceIte, Nat.reduceEqDiff]
                          refine hK335 _ _ ?_
                          refine r_list ?_
                          refine wl rfl (ky (v := .map (some b1185)) hS (y_move hS rfl) rfl rfl fun a hS => ?_)
                          refine wl rfl (ky (v := .agg #[.int .i64 u2343.Kind, .string u2343.Text]) hS (y_load hS rfl ty28 0 rfl id (us := [.int .i64 u2343.Kind, .string u2343.Text]) rfl rfl (fun h => by cases h)) rfl rfl fun a hS => ?_)
                          refine wl rfl (k_mput hS mp47 kt_KeyD 3 rfl 2 rfl (c := [.int .i64 u2343.Kind, .string u2343.Text]) (cv := [.bool true]) (key := u2343) (val := true) rfl rfl rfl rfl rfl fun es2447 ck2448 w hk hS => ?_)
                          refine wpList_nil ?_
                          try simp only [Exit.then, Exit.inBlock, ↓reduceIte, Nat.reduceEqDiff]
                          exact ⟨(mput keq_KeyD u2343 true seen1961), es2447, ck2448, (hS.meet [2, 3] (by decide) ⟨rfl, rfl, rfl, rfl, rfl, rfl, trivial⟩ ⟨rfl, rfl, trivial⟩ ⟨⟨2, rfl⟩, ⟨0, rfl⟩, ⟨4, rfl⟩, trivial⟩), hM⟩
        · rintro a w ⟨seen2328, es2329, ck2330, hS, hM⟩
          unfold law23_KeyRules_j3 at hM
          refine r_list ?_
          refine wl rfl (ky (v := .int .i64 (IntKind.i64.wrap (g1964 + 1))) hS (y_int hS rfl rfl rfl) rfl rfl fun a hS => ?_)
          refine wl rfl (ky (v := .int .i64 (IntKind.i64.wrap (g1964 + 1))) hS (y_move hS rfl) rfl rfl fun a hS => ?_)
          refine wpList_nil ?_
          try simp only [Exit.then, Exit.inBlock, ↓reduceIte, Nat.reduceEqDiff]
          exact ⟨(seen2328, IntKind.i64.wrap (g1964 + 1)), (Option.some.inj hM).symm, seen2328, (IntKind.i64.wrap (g1964 + 1)), es2329, ck2330, rfl, (hS.meet [0, 1] (by decide) ⟨rfl, rfl, rfl, rfl, rfl, rfl, trivial⟩ ⟨rfl, rfl, trivial⟩ ⟨⟨0, rfl⟩, ⟨1, rfl⟩, ⟨2, rfl⟩, trivial⟩)⟩
      · replace hM := cf hb2209 hM
        refine c_f hS rfl hb2209 ?_
        refine wp_exit ?_
        try simp only [Exit.then, Exit.inBlock, ↓reduceIte, Nat.reduceEqDiff]
        injection hM with hM
        subst hM
        have hr := hf1 _ rfl
        subst hr
        replace hMo1 := el_go hMo1
        have hM : law23_KeyRules_j2 n_1 l1181 = some y := hMo1
        exact ⟨(hS.meet [0] (by decide) ⟨rfl, rfl, trivial⟩ ⟨rfl, trivial⟩ ⟨⟨0, rfl⟩, ⟨2, rfl⟩, trivial⟩), hM⟩
    · rintro a w ⟨hS, hM⟩
      unfold law23_KeyRules_j2 at hM
      refine seq_j (J := fun a w => ∃ (g1704 : Bool), St W0 No T 108 [(4, .bool g1704)] [] [LvF] a w ∧ law23_KeyRules_j1 g1704 = some y) ?_ ?_
      · skip
        refine r_list ?_
        refine wl rfl (ky (v := v1182) hS (y_move hS rfl) rfl rfl fun a hS => ?_)
        refine wl rfl (ky (v := v1182) hS (y_move hS rfl) rfl rfl fun a hS => ?_)
        refine wl rfl (ky (v := .int .i64 (l1181.length : Int)) hS (y_leno (R := R_RuleD) (xs := l1181) hS sl38 rfl 0 rfl 0 rfl) rfl rfl fun a hS => ?_)
        refine wl rfl (ky (v := .int .i64 n_1) hS (y_move hS rfl) rfl rfl fun a hS => ?_)
        obtain ⟨u1705, hu1705, hM⟩ := bd hM
        refine wl rfl (k_call hS ci18 rfl rfl (mill_Mod_c _ _ hS.dlt n_1 9 _ hu1705) fun _ w hR a hk hA => ?_)
        have he := Eq.symm hR
        subst he
        have hS := hA [] (fun r hr => by cases hr) List.Pairwise.nil
        refine wl rfl (ky (v := .int .i64 (IntKind.i64.wrap ((l1181.length : Int) + u1705))) hS (y_int hS rfl rfl rfl) rfl rfl fun a hS => ?_)
        have hL := hS
        replace hL := hL.freeze (R := R_RuleD) 0 rfl 0 rfl
        obtain ⟨u1707, hu1707, hM⟩ := bd hM
        refine wl rfl (k_call hS ci31 rfl rfl (key_Of_c _ _ hL.dlt (hL.get 2 rfl) l1181 (IntKind.i64.wrap ((l1181.length : Int) + u1705)) _ (hL.get 0 rfl) _ hu1707) fun _ w hR a hk hA => ?_)
        have he := Eq.symm hR
        subst he
        have hS := hA [] (fun r hr => by cases hr) List.Pairwise.nil
        refine wl rfl (ky (v := .agg #[.int .i64 0, .string (ByteArray.mk #[])]) hS (y_build (ps := []) hS pl28 ze28 rfl (us := []) trivial (ws := [.int .i64 0, .string (ByteArray.mk #[])]) rfl) rfl rfl fun a hS => ?_)
        refine wl rfl (ky (v := .bool ((u1707.Kind : Int) == 0 && u1707.Text.toList == (ByteArray.mk #[]).toList)) hS (eq28 hS rfl rfl) rfl rfl fun a hS => ?_)
        refine wl rfl (ky (v := .bool ((u1707.Kind : Int) == 0 && u1707.Text.toList == (ByteArray.mk #[]).toList)) hS (y_move hS rfl) rfl rfl fun a hS => ?_)
        rcases bool2 ((u1707.Kind : Int) == 0 && u1707.Text.toList == (ByteArray.mk #[]).toList) with hb1709 | hb1709
        · replace hM := ct hb1709 hM
          refine wg hS rfl rfl rfl hb1709 (ky (v := v1182) hS (y_move hS rfl) rfl rfl fun a hS => ?_)
          refine wg hS rfl rfl rfl hb1709 (ky (v := .int .i64 n_1) hS (y_move hS rfl) rfl rfl fun a hS => ?_)
          obtain ⟨u1710, hu1710, hM⟩ := bd hM
          refine wg hS rfl rfl rfl hb1709 (k_call hS ci18 rfl rfl (mill_Mod_c _ _ hS.dlt n_1 9 _ hu1710) fun _ w hR a hk hA => ?_)
          have he := Eq.symm hR
          subst he
          have hS := hA [] (fun r hr => by cases hr) List.Pairwise.nil
          refine wg hS rfl rfl rfl hb1709 (ky (v := .int .i64 (IntKind.i64.wrap ((-1) - u1710))) hS (y_int hS rfl rfl rfl) rfl rfl fun a hS => ?_)
          have hL := hS
          replace hL := hL.freeze (R := R_RuleD) 0 rfl 0 rfl
          obtain ⟨u1712, hu1712, hM⟩ := bd hM
          refine wg hS rfl rfl rfl hb1709 (k_call hS ci31 rfl rfl (key_Of_c _ _ hL.dlt (hL.get 2 rfl) l1181 (IntKind.i64.wrap ((-1) - u1710)) _ (hL.get 0 rfl) _ hu1712) fun _ w hR a hk hA => ?_)
          have he := Eq.symm hR
          subst he
          have hS := hA [] (fun r hr => by cases hr) List.Pairwise.nil
          refine wg hS rfl rfl rfl hb1709 (ky (v := .agg #[.int .i64 0, .string (ByteArray.mk #[])]) hS (y_build (ps := []) hS pl28 ze28 rfl (us := []) trivial (ws := [.int .i64 0, .string (ByteArray.mk #[])]) rfl) rfl rfl fun a hS => ?_)
          refine wg hS rfl rfl rfl hb1709 (ky (v := .bool ((u1712.Kind : Int) == 0 && u1712.Text.toList == (ByteArray.mk #[]).toList)) hS (eq28 hS rfl rfl) rfl rfl fun a hS => ?_)
          refine wl rfl (ky (v := .bool ((u1712.Kind : Int) == 0 && u1712.Text.toList == (ByteArray.mk #[]).toList)) hS (y_pickt hS rfl hb1709 rfl) rfl rfl fun a hS => ?_)
          refine wl rfl (ky (v := .bool ((u1712.Kind : Int) == 0 && u1712.Text.toList == (ByteArray.mk #[]).toList)) hS (y_move hS rfl) rfl rfl fun a hS => ?_)
          rcases bool2 ((u1712.Kind : Int) == 0 && u1712.Text.toList == (ByteArray.mk #[]).toList) with hb1714 | hb1714
          · replace hM := ct hb1714 hM
            obtain ⟨u1715, hu1715, hM⟩ := bd hM
            refine wg hS rfl rfl rfl hb1714 (k_call hS ci14 rfl rfl (law23_awake_c _ _ hS.dlt (hS.get 1 rfl) _ hu1715) fun _ w hR a hk hA => ?_)
            have he := Eq.symm hR
            subst he
            have hS := hA [] (fun r hr => by cases hr) List.Pairwise.nil
            refine wl rfl (ky (v := .bool u1715) hS (y_pickt hS rfl hb1714 rfl) rfl rfl fun a hS => ?_)
            refine wl rfl (ky (v := .bool u1715) hS (y_assign hS rfl) rfl rfl fun a hS => ?_)
            refine wpList_nil ?_
            try simp only [Exit.then, Exit.inBlock, ↓reduceIte, Nat.reduceEqDiff]
            exact ⟨u1715, (hS.meet [] (by decide) ⟨rfl, trivial⟩ trivial ⟨⟨1, rfl⟩, trivial⟩), hM⟩
          · replace hM := cf hb1714 hM
            refine wn hS rfl rfl rfl hb1714 rfl rfl fun a hS => ?_
            refine wl rfl (ky (v := .bool false) hS (y_pickf hS rfl hb1714 rfl) rfl rfl fun a hS => ?_)
            refine wl rfl (ky (v := .bool false) hS (y_assign hS rfl) rfl rfl fun a hS => ?_)
            refine wpList_nil ?_
            try simp only [Exit.then, Exit.inBlock, ↓reduceIte, Nat.reduceEqDiff]
            exact ⟨false, (hS.meet [] (by decide) ⟨rfl, trivial⟩ trivial ⟨⟨1, rfl⟩, trivial⟩), hM⟩
        · replace hM := cf hb1709 hM
          refine wn hS rfl rfl rfl hb1709 rfl rfl fun a hS => ?_
          refine wn hS rfl rfl rfl hb1709 rfl rfl fun a hS => ?_
          refine wn hS rfl rfl rfl hb1709 rfl rfl fun a hS => ?_
          refine wn hS rfl rfl rfl hb1709 rfl rfl fun a hS => ?_
          refine wn hS rfl rfl rfl hb1709 rfl rfl fun a hS => ?_
          refine wn hS rfl rfl rfl hb1709 rfl rfl fun a hS => ?_
          refine wn hS rfl rfl rfl hb1709 rfl rfl fun a hS => ?_
          refine wl rfl (ky (v := .bool false) hS (y_pickf hS rfl hb1709 rfl) rfl rfl fun a hS => ?_)
          refine wl rfl (ky (v := .bool false) hS (y_move hS rfl) rfl rfl fun a hS => ?_)
          refine wn hS rfl rfl rfl rfl rfl rfl fun a hS => ?_
          refine wl rfl (ky (v := .bool false) hS (y_pickf hS rfl rfl rfl) rfl rfl fun a hS => ?_)
          refine wl rfl (ky (v := .bool false) hS (y_assign hS rfl) rfl rfl fun a hS => ?_)
          refine wpList_nil ?_
          try simp only [Exit.then, Exit.inBlock, ↓reduceIte, Nat.reduceEqDiff]
          exact ⟨false, (hS.meet [] (by decide) ⟨rfl, trivial⟩ trivial ⟨⟨1, rfl⟩, trivial⟩), hM⟩
      · rintro a w ⟨g1704, hS, hM⟩
        unfold law23_KeyRules_j1 at hM
        refine wp_ret ?_
        injection hM with hM
        subst hM
        try simp only [Exit.then, Exit.inBlock, ↓reduceIte, Nat.reduceEqDiff]
        refine ret_ok hS Tryd.results6 (res_tmp hS rfl res_nil) ?_
        exact rfl
end Go.Proofs.YtpobppjicoikoaaDoor
