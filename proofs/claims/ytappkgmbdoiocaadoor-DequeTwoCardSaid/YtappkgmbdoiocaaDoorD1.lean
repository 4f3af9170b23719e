/- What functions of the program compute; that they do. -/
import Derived.Test.YtappkgmbdoiocaaDoorTD1
set_option linter.unusedVariables false
set_option linter.unusedSimpArgs false
namespace Go.Proofs.YtappkgmbdoiocaaDoor
open Go.RowKit
noncomputable def key_toy_j1 (g7 : Bool) : Option Bool := some (g7)
noncomputable def key_toy (kind_ : Int) : Option Bool := cond (decide ((30 : Int) ≤ kind_)) (key_toy_j1 (decide ((kind_ : Int) ≤ 32))) (key_toy_j1 false)
set_option maxRecDepth 100000 in
set_option maxHeartbeats 4000000 in
theorem key_toy_c (T : Nat → Prop) (W0 : World) (hT : ∀ k, T k → k < W0.heap.size) (kind_ : Int) (y : Bool) (hM : key_toy kind_ = some y) : Rets Tryd.prog No 62 [.int .i64 kind_] W0 (fun v w' => v = .bool y) := by
  refine enter (c := _) Tryd.func62 rfl T 9 Tryd.ntmps62 hT rfl fun a hS => ?_
  unfold key_toy at hM
  refine wp_seq_k fun K2 hK2 => ?_
  refine r_list ?_
  refine wl rfl (ky (v := .bool false) hS (y_assign hS rfl) rfl rfl fun a hS => ?_)
  refine wpList_nil ?_
  try simp only [Exit.then, Exit.inBlock, ↓reduceIte, Nat.reduceEqDiff]
  refine hK2 _ _ ?_
  refine seq_j (J := fun a w => ∃ (g7 : Bool), St W0 No T 9 [(2, .bool g7)] [] [] a w ∧ key_toy_j1 g7 = some y) ?_ ?_
  · skip
    refine r_list ?_
    refine wl rfl (ky (v := .int .i64 kind_) hS (y_move hS rfl) rfl rfl fun a hS => ?_)
    refine wl rfl (ky (v := .bool (decide ((30 : Int) ≤ kind_))) hS (y_int hS rfl rfl rfl) rfl rfl fun a hS => ?_)
    refine wl rfl (ky (v := .bool (decide ((30 : Int) ≤ kind_))) hS (y_move hS rfl) rfl rfl fun a hS => ?_)
    rcases bool2 (decide ((30 : Int) ≤ kind_)) with hb8 | hb8
    · replace hM := ct hb8 hM
      refine wg hS rfl rfl rfl hb8 (ky (v := .int .i64 kind_) hS (y_move hS rfl) rfl rfl fun a hS => ?_)
      refine wg hS rfl rfl rfl hb8 (ky (v := .bool (decide ((kind_ : Int) ≤ 32))) hS (y_int hS rfl rfl rfl) rfl rfl fun a hS => ?_)
      refine wl rfl (ky (v := .bool (decide ((kind_ : Int) ≤ 32))) hS (y_pickt hS rfl hb8 rfl) rfl rfl fun a hS => ?_)
      refine wl rfl (ky (v := .bool (decide ((kind_ : Int) ≤ 32))) hS (y_assign hS rfl) rfl rfl fun a hS => ?_)
      refine wpList_nil ?_
      try simp only [Exit.then, Exit.inBlock, ↓reduceIte, Nat.reduceEqDiff]
      exact ⟨(decide ((kind_ : Int) ≤ 32)), (hS.meet [] (by decide) ⟨rfl, trivial⟩ trivial trivial), hM⟩
    · replace hM := cf hb8 hM
      refine wn hS rfl rfl rfl hb8 rfl rfl fun a hS => ?_
      refine wn hS rfl rfl rfl hb8 rfl rfl fun a hS => ?_
      refine wl rfl (ky (v := .bool false) hS (y_pickf hS rfl hb8 rfl) rfl rfl fun a hS => ?_)
      refine wl rfl (ky (v := .bool false) hS (y_assign hS rfl) rfl rfl fun a hS => ?_)
      refine wpList_nil ?_
      try simp only [Exit.then, Exit.inBlock, ↓reduceIte, Nat.reduceEqDiff]
      exact ⟨false, (hS.meet [] (by decide) ⟨rfl, trivial⟩ trivial trivial), hM⟩
  · rintro a w ⟨g7, hS, hM⟩
    unfold key_toy_j1 at hM
    refine wp_ret ?_
    injection hM with hM
    subst hM
    try simp only [Exit.then, Exit.inBlock, ↓reduceIte, Nat.reduceEqDiff]
    refine ret_ok hS Tryd.results62 (res_tmp hS rfl res_nil) ?_
    exact rfl

noncomputable def key_language_j1 (g7 : Bool) : Option Bool := some (g7)
noncomputable def key_language (kind_ : Int) : Option Bool := cond (decide ((1 : Int) ≤ kind_)) (key_language_j1 (decide ((kind_ : Int) ≤ 22))) (key_language_j1 false)
set_option maxRecDepth 100000 in
set_option maxHeartbeats 4000000 in
theorem key_language_c (T : Nat → Prop) (W0 : World) (hT : ∀ k, T k → k < W0.heap.size) (kind_ : Int) (y : Bool) (hM : key_language kind_ = some y) : Rets Tryd.prog No 63 [.int .i64 kind_] W0 (fun v w' => v = .bool y) := by
  refine enter (c := _) Tryd.func63 rfl T 9 Tryd.ntmps63 hT rfl fun a hS => ?_
  unfold key_language at hM
  refine wp_seq_k fun K2 hK2 => ?_
  refine r_list ?_
  refine wl rfl (ky (v := .bool false) hS (y_assign hS rfl) rfl rfl fun a hS => ?_)
  refine wpList_nil ?_
  try simp only [Exit.then, Exit.inBlock, ↓reduceIte, Nat.reduceEqDiff]
  refine hK2 _ _ ?_
  refine seq_j (J := fun a w => ∃ (g7 : Bool), St W0 No T 9 [(2, .bool g7)] [] [] a w ∧ key_language_j1 g7 = some y) ?_ ?_
  · skip
    refine r_list ?_
    refine wl rfl (ky (v := .int .i64 kind_) hS (y_move hS rfl) rfl rfl fun a hS => ?_)
    refine wl rfl (ky (v := .bool (decide ((1 : Int) ≤ kind_))) hS (y_int hS rfl rfl rfl) rfl rfl fun a hS => ?_)
    refine wl rfl (ky (v := .bool (decide ((1 : Int) ≤ kind_))) hS (y_move hS rfl) rfl rfl fun a hS => ?_)
    rcases bool2 (decide ((1 : Int) ≤ kind_)) with hb8 | hb8
    · replace hM := ct hb8 hM
      refine wg hS rfl rfl rfl hb8 (ky (v := .int .i64 kind_) hS (y_move hS rfl) rfl rfl fun a hS => ?_)
      refine wg hS rfl rfl rfl hb8 (ky (v := .bool (decide ((kind_ : Int) ≤ 22))) hS (y_int hS rfl rfl rfl) rfl rfl fun a hS => ?_)
      refine wl rfl (ky (v := .bool (decide ((kind_ : Int) ≤ 22))) hS (y_pickt hS rfl hb8 rfl) rfl rfl fun a hS => ?_)
      refine wl rfl (ky (v := .bool (decide ((kind_ : Int) ≤ 22))) hS (y_assign hS rfl) rfl rfl fun a hS => ?_)
      refine wpList_nil ?_
      try simp only [Exit.then, Exit.inBlock, ↓reduceIte, Nat.reduceEqDiff]
      exact ⟨(decide ((kind_ : Int) ≤ 22)), (hS.meet [] (by decide) ⟨rfl, trivial⟩ trivial trivial), hM⟩
    · replace hM := cf hb8 hM
      refine wn hS rfl rfl rfl hb8 rfl rfl fun a hS => ?_
      refine wn hS rfl rfl rfl hb8 rfl rfl fun a hS => ?_
      refine wl rfl (ky (v := .bool false) hS (y_pickf hS rfl hb8 rfl) rfl rfl fun a hS => ?_)
      refine wl rfl (ky (v := .bool false) hS (y_assign hS rfl) rfl rfl fun a hS => ?_)
      refine wpList_nil ?_
      try simp only [Exit.then, Exit.inBlock, ↓reduceIte, Nat.reduceEqDiff]
      exact ⟨false, (hS.meet [] (by decide) ⟨rfl, trivial⟩ trivial trivial), hM⟩
  · rintro a w ⟨g7, hS, hM⟩
    unfold key_language_j1 at hM
    refine wp_ret ?_
    injection hM with hM
    subst hM
    try simp only [Exit.then, Exit.inBlock, ↓reduceIte, Nat.reduceEqDiff]
    refine ret_ok hS Tryd.results63 (res_tmp hS rfl res_nil) ?_
    exact rfl

noncomputable def mill_Mod (n_0 : Int) (m_1 : Int) : Option Int := cond (decide ((m_1 : Int) < 1)) (some (0)) (gd ((m_1 : Int) != 0) <| gd ((m_1 : Int) != 0) <| some (Int.tmod (IntKind.i64.wrap ((Int.tmod n_0 m_1) + m_1)) m_1))
set_option maxRecDepth 100000 in
set_option maxHeartbeats 4000000 in
theorem mill_Mod_c (T : Nat → Prop) (W0 : World) (hT : ∀ k, T k → k < W0.heap.size) (n_0 : Int) (m_1 : Int) (y : Int) (hM : mill_Mod n_0 m_1 = some y) : Rets Tryd.prog No 18 [.int .i64 n_0, .int .i64 m_1] W0 (fun v w' => v = .int .i64 y) := by
  refine enter (c := _) Tryd.func18 rfl T 14 Tryd.ntmps18 hT rfl fun a hS => ?_
  unfold mill_Mod at hM
  refine wp_seq_k fun K6 hK6 => ?_
  refine r_list ?_
  refine wl rfl (ky (v := .int .i64 0) hS (y_assign hS rfl) rfl rfl fun a hS => ?_)
  refine wpList_nil ?_
  try simp only [Exit.then, Exit.inBlock, ↓reduceIte, Nat.reduceEqDiff]
  refine hK6 _ _ ?_
  refine wp_seq_k fun K7 hK7 => ?_
  refine wp_seq_k fun K8 hK8 => ?_
  refine r_list ?_
  refine wl rfl (ky (v := .int .i64 m_1) hS (y_move hS rfl) rfl rfl fun a hS => ?_)
  refine wl rfl (ky (v := .bool (decide ((m_1 : Int) < 1))) hS (y_int hS rfl rfl rfl) rfl rfl fun a hS => ?_)
  refine wpList_nil ?_
  try simp only [Exit.then, Exit.inBlock, ↓reduceIte, Nat.reduceEqDiff]
  refine hK8 _ _ ?_
  rcases bool2 (decide ((m_1 : Int) < 1)) with hb4 | hb4
  · replace hM := ct hb4 hM
    refine c_t hS rfl hb4 ?_
    refine wp_seq_k fun K9 hK9 => ?_
    refine r_list ?_
    refine wl rfl (ky (v := .int .i64 0) hS (y_assign hS rfl) rfl rfl fun a hS => ?_)
    refine wpList_nil ?_
    try simp only [Exit.then, Exit.inBlock, ↓reduceIte, Nat.reduceEqDiff]
    refine hK9 _ _ ?_
    refine wp_ret ?_
    injection hM with hM
    subst hM
    try simp only [Exit.then, Exit.inBlock, ↓reduceIte, Nat.reduceEqDiff]
    refine ret_ok hS Tryd.results18 (res_tmp hS rfl res_nil) ?_
    exact rfl
  · replace hM := cf hb4 hM
    refine c_f hS rfl hb4 ?_
    refine wp_skip ?_
    try simp only [Exit.then, Exit.inBlock, ↓reduceIte, Nat.reduceEqDiff]
    refine hK7 _ _ ?_
    refine wp_seq_k fun K10 hK10 => ?_
    refine r_list ?_
    refine wl rfl (ky (v := .int .i64 n_0) hS (y_move hS rfl) rfl rfl fun a hS => ?_)
    refine wl rfl (ky (v := .int .i64 m_1) hS (y_move hS rfl) rfl rfl fun a hS => ?_)
    obtain ⟨hg5, hM⟩ := gd_some hM
    refine wl rfl (ky (v := .int .i64 (Int.tmod n_0 m_1)) hS (y_rem hS rfl rfl (bne_iff_ne.1 hg5)) rfl rfl fun a hS => ?_)
    refine wl rfl (ky (v := .int .i64 m_1) hS (y_move hS rfl) rfl rfl fun a hS => ?_)
    refine wl rfl (ky (v := .int .i64 (IntKind.i64.wrap ((Int.tmod n_0 m_1) + m_1))) hS (y_int hS rfl rfl rfl) rfl rfl fun a hS => ?_)
    refine wl rfl (ky (v := .int .i64 m_1) hS (y_move hS rfl) rfl rfl fun a hS => ?_)
    obtain ⟨hg6, hM⟩ := gd_some hM
    refine wl rfl (ky (v := .int .i64 (Int.tmod (IntKind.i64.wrap ((Int.tmod n_0 m_1) + m_1)) m_1)) hS (y_rem hS rfl rfl (bne_iff_ne.1 hg6)) rfl rfl fun a hS => ?_)
    refine wl rfl (ky (v := .int .i64 (Int.tmod (IntKind.i64.wrap ((Int.tmod n_0 m_1) + m_1)) m_1)) hS (y_assign hS rfl) rfl rfl fun a hS => ?_)
    refine wpList_nil ?_
    try simp only [Exit.then, Exit.inBlock, ↓reduceIte, Nat.reduceEqDiff]
    refine hK10 _ _ ?_
    refine wp_ret ?_
    injection hM with hM
    subst hM
    try simp only [Exit.then, Exit.inBlock, ↓reduceIte, Nat.reduceEqDiff]
    refine ret_ok hS Tryd.results18 (res_tmp hS rfl res_nil) ?_
    exact rfl

noncomputable def ref23_Decimal_j1 (n78 : Int) : Option Int := some (n78)
noncomputable def ref23_Decimal_l2 (s_0 : ByteArray) (n90 : Int) (i91 : Int) : Option (Fl (Int × Int) (Fl (Int) Int)) := cond (decide ((i91 : Int) < (s_0.size : Int))) ((getI s_0.toList i91).bind fun c107 => cond (decide (((c107.toNat : Int) : Int) < 48)) (some (.out (.out (-1)))) ((getI s_0.toList i91).bind fun c109 => cond (decide ((57 : Int) < (c109.toNat : Int))) (some (.out (.out (-1)))) ((getI s_0.toList i91).bind fun c111 => some (.go (IntKind.i64.wrap ((IntKind.i64.wrap (10 * n90)) + (IntKind.i64.wrap (IntKind.u8.wrap ((c111.toNat : Int) - 48)))), IntKind.i64.wrap (i91 + 1)))))) (some (.out (.go n90)))
noncomputable def ref23_Decimal_j3 (s_0 : ByteArray) (g50 : Bool) : Option Int := cond g50 (some ((-1))) ((loop (fun s : Int × Int => ref23_Decimal_l2 s_0 s.1 s.2) (0, 0)).bind fun r => Fl.el r (fun s => ref23_Decimal_j1 s) (fun y => some (y)))
noncomputable def ref23_Decimal (s_0 : ByteArray) : Option Int := cond (s_0.toList == (ByteArray.mk #[]).toList) (ref23_Decimal_j3 s_0 true) (cond (decide ((9 : Int) < (s_0.size : Int))) (ref23_Decimal_j3 s_0 true) ((getI s_0.toList 0).bind fun c114 => cond (((c114.toNat : Int) : Int) == 48) (ref23_Decimal_j3 s_0 (!(s_0.toList == (ByteArray.mk #[48]).toList))) (ref23_Decimal_j3 s_0 false)))
set_option maxRecDepth 100000 in
set_option maxHeartbeats 4000000 in
theorem ref23_Decimal_c (T : Nat → Prop) (W0 : World) (hT : ∀ k, T k → k < W0.heap.size) (s_0 : ByteArray) (y : Int) (hM : ref23_Decimal s_0 = some y) : Rets Tryd.prog No 61 [.string s_0] W0 (fun v w' => v = .int .i64 y) := by
  refine enter (c := _) Tryd.func61 rfl T 46 Tryd.ntmps61 hT rfl fun a hS => ?_
  unfold ref23_Decimal at hM
  refine wp_seq_k fun K22 hK22 => ?_
  refine r_list ?_
  refine wl rfl (ky (v := .int .i64 0) hS (y_assign hS rfl) rfl rfl fun a hS => ?_)
  refine wpList_nil ?_
  try simp only [Exit.then, Exit.inBlock, ↓reduceIte, Nat.reduceEqDiff]
  refine hK22 _ _ ?_
  refine wp_seq_k fun K23 hK23 => ?_
  refine seq_j (J := fun a w => ∃ (g50 : Bool), St W0 No T 46 [(0, .string s_0), (20, .bool g50)] [] [] a w ∧ ref23_Decimal_j3 s_0 g50 = some y) ?_ ?_
  · skip
    refine r_list ?_
    refine wl rfl (ky (v := .string s_0) hS (y_move hS rfl) rfl rfl fun a hS => ?_)
    refine wl rfl (ky (v := .bool (s_0.toList == (ByteArray.mk #[]).toList)) hS (y_str hS rfl rfl rfl) rfl rfl fun a hS => ?_)
    refine wl rfl (ky (v := .bool (s_0.toList == (ByteArray.mk #[]).toList)) hS (y_move hS rfl) rfl rfl fun a hS => ?_)
    rcases bool2 (s_0.toList == (ByteArray.mk #[]).toList) with hb112 | hb112
    · replace hM := ct hb112 hM
      refine wn hS rfl rfl rfl hb112 rfl rfl fun a hS => ?_
      refine wn hS rfl rfl rfl hb112 rfl rfl fun a hS => ?_
      refine wn hS rfl rfl rfl hb112 rfl rfl fun a hS => ?_
      refine wl rfl (ky (v := .bool true) hS (y_pickt hS rfl hb112 rfl) rfl rfl fun a hS => ?_)
      refine wl rfl (ky (v := .bool true) hS (y_move hS rfl) rfl rfl fun a hS => ?_)
      refine wn hS rfl rfl rfl rfl rfl rfl fun a hS => ?_
      refine wn hS rfl rfl rfl rfl rfl rfl fun a hS => ?_
      refine wn hS rfl rfl rfl rfl rfl rfl fun a hS => ?_
      refine wn hS rfl rfl rfl rfl rfl rfl fun a hS => ?_
      refine wnu hS rfl rfl rfl rfl rfl fun a hS => ?_
      refine wnu hS rfl rfl rfl rfl rfl fun a hS => ?_
      refine wn hS rfl rfl rfl rfl rfl rfl fun a hS => ?_
      refine wl rfl (ky (v := .bool true) hS (y_pickt hS rfl rfl rfl) rfl rfl fun a hS => ?_)
      refine wpList_nil ?_
      try simp only [Exit.then, Exit.inBlock, ↓reduceIte, Nat.reduceEqDiff]
      exact ⟨true, (hS.meet [] (by decide) ⟨rfl, rfl, trivial⟩ trivial trivial), hM⟩
    · replace hM := cf hb112 hM
      refine wg hS rfl rfl rfl hb112 (ky (v := .string s_0) hS (y_move hS rfl) rfl rfl fun a hS => ?_)
      refine wg hS rfl rfl rfl hb112 (ky (v := .int .i64 (s_0.size : Int)) hS (y_lens hS Tryd.underlying9 rfl) rfl rfl fun a hS => ?_)
      refine wg hS rfl rfl rfl hb112 (ky (v := .bool (decide ((9 : Int) < (s_0.size : Int)))) hS (y_int hS rfl rfl rfl) rfl rfl fun a hS => ?_)
      refine wl rfl (ky (v := .bool (decide ((9 : Int) < (s_0.size : Int)))) hS (y_pickf hS rfl hb112 rfl) rfl rfl fun a hS => ?_)
      refine wl rfl (ky (v := .bool (decide ((9 : Int) < (s_0.size : Int)))) hS (y_move hS rfl) rfl rfl fun a hS => ?_)
      rcases bool2 (decide ((9 : Int) < (s_0.size : Int))) with hb113 | hb113
      · replace hM := ct hb113 hM
        refine wn hS rfl rfl rfl hb113 rfl rfl fun a hS => ?_
        refine wn hS rfl rfl rfl hb113 rfl rfl fun a hS => ?_
        refine wn hS rfl rfl rfl hb113 rfl rfl fun a hS => ?_
        refine wn hS rfl rfl rfl hb113 rfl rfl fun a hS => ?_
        refine wnu hS rfl rfl rfl rfl rfl fun a hS => ?_
        refine wnu hS rfl rfl rfl rfl rfl fun a hS => ?_
        refine wn hS rfl rfl rfl hb113 rfl rfl fun a hS => ?_
        refine wl rfl (ky (v := .bool true) hS (y_pickt hS rfl hb113 rfl) rfl rfl fun a hS => ?_)
        refine wpList_nil ?_
        try simp only [Exit.then, Exit.inBlock, ↓reduceIte, Nat.reduceEqDiff]
        exact ⟨true, (hS.meet [] (by decide) ⟨rfl, rfl, trivial⟩ trivial trivial), hM⟩
      · replace hM := cf hb113 hM
        refine wg hS rfl rfl rfl hb113 (ky (v := .string s_0) hS (y_move hS rfl) rfl rfl fun a hS => ?_)
        obtain ⟨c114, hc114, hM⟩ := bd hM
        refine wg hS rfl rfl rfl hb113 (ky (v := .int .u8 (c114.toNat : Int)) hS (y_byte hS Tryd.underlying9 rfl rfl hc114) rfl rfl fun a hS => ?_)
        refine wg hS rfl rfl rfl hb113 (ky (v := .bool (((c114.toNat : Int) : Int) == 48)) hS (y_int hS rfl rfl rfl) rfl rfl fun a hS => ?_)
        refine wg hS rfl rfl rfl hb113 (ky (v := .bool (((c114.toNat : Int) : Int) == 48)) hS (y_move hS rfl) rfl rfl fun a hS => ?_)
        rcases bool2 (((c114.toNat : Int) : Int) == 48) with hb115 | hb115
        · replace hM := ct hb115 hM
          refine wg hS rfl rfl rfl hb115 (ky (v := .string s_0) hS (y_move hS rfl) rfl rfl fun a hS => ?_)
          refine wg hS rfl rfl rfl hb115 (ky (v := .bool (!(s_0.toList == (ByteArray.mk #[48]).toList))) hS (y_str hS rfl rfl rfl) rfl rfl fun a hS => ?_)
          refine wg hS rfl rfl rfl hb113 (ky (v := .bool (!(s_0.toList == (ByteArray.mk #[48]).toList))) hS (y_pickt hS rfl hb115 rfl) rfl rfl fun a hS => ?_)
          refine wl rfl (ky (v := .bool (!(s_0.toList == (ByteArray.mk #[48]).toList))) hS (y_pickf hS rfl hb113 rfl) rfl rfl fun a hS => ?_)
          refine wpList_nil ?_
          try simp only [Exit.then, Exit.inBlock, ↓reduceIte, Nat.reduceEqDiff]
          exact ⟨(!(s_0.toList == (ByteArray.mk #[48]).toList)), (hS.meet [] (by decide) ⟨rfl, rfl, trivial⟩ trivial trivial), hM⟩
        · replace hM := cf hb115 hM
          refine wn hS rfl rfl rfl hb115 rfl rfl fun a hS => ?_
          refine wn hS rfl rfl rfl hb115 rfl rfl fun a hS => ?_
          refine wg hS rfl rfl rfl hb113 (ky (v := .bool false) hS (y_pickf hS rfl hb115 rfl) rfl rfl fun a hS => ?_)
          refine wl rfl (ky (v := .bool false) hS (y_pickf hS rfl hb113 rfl) rfl rfl fun a hS => ?_)
          refine wpList_nil ?_
          try simp only [Exit.then, Exit.inBlock, ↓reduceIte, Nat.reduceEqDiff]
          exact ⟨false, (hS.meet [] (by decide) ⟨rfl, rfl, trivial⟩ trivial trivial), hM⟩
  · rintro a w ⟨g50, hS, hM⟩
    unfold ref23_Decimal_j3 at hM
    rcases bool2 (g50) with hb51 | hb51
    · replace hM := ct hb51 hM
      refine c_t hS rfl hb51 ?_
      refine wp_seq_k fun K24 hK24 => ?_
      refine r_list ?_
      refine wl rfl (ky (v := .int .i64 (-1)) hS (y_assign hS rfl) rfl rfl fun a hS => ?_)
      refine wpList_nil ?_
      try simp only [Exit.then, Exit.inBlock, ↓reduceIte, Nat.reduceEqDiff]
      refine hK24 _ _ ?_
      refine wp_ret ?_
      injection hM with hM
      subst hM
      try simp only [Exit.then, Exit.inBlock, ↓reduceIte, Nat.reduceEqDiff]
      refine ret_ok hS Tryd.results61 (res_tmp hS rfl res_nil) ?_
      exact rfl
    · replace hM := cf hb51 hM
      refine c_f hS rfl hb51 ?_
      refine wp_skip ?_
      try simp only [Exit.then, Exit.inBlock, ↓reduceIte, Nat.reduceEqDiff]
      refine hK23 _ _ ?_
      refine wp_seq_k fun K25 hK25 => ?_
      refine r_list ?_
      refine wl rfl (ky (v := .int .i64 0) hS (y_assign hS rfl) rfl rfl fun a hS => ?_)
      refine wpList_nil ?_
      try simp only [Exit.then, Exit.inBlock, ↓reduceIte, Nat.reduceEqDiff]
      refine hK25 _ _ ?_
      refine seq_j (J := fun a w => ∃ (n78 : Int), St W0 No T 46 [(3, .int .i64 n78)] [] [] a w ∧ ref23_Decimal_j1 n78 = some y) ?_ ?_
      · skip
        refine wp_seq_k fun K42 hK42 => ?_
        refine r_list ?_
        refine wl rfl (ky (v := .int .i64 0) hS (y_assign hS rfl) rfl rfl fun a hS => ?_)
        refine wpList_nil ?_
        try simp only [Exit.then, Exit.inBlock, ↓reduceIte, Nat.reduceEqDiff]
        refine hK42 _ _ ?_
        refine wp_block ?_
        obtain ⟨r1, hl1, hMo1⟩ := bd hM
        refine wp_lp (fun s : Int × Int => ref23_Decimal_l2 s_0 s.1 s.2) (fun s a w => ∃ (n90 : Int) (i91 : Int), (n90, i91) = s ∧ St W0 No T 46 [(0, .string s_0), (3, .int .i64 n90), (4, .int .i64 i91)] [] [] a w) hl1 ⟨0, 0, rfl, (hS.meet [] (by decide) ⟨rfl, rfl, rfl, trivial⟩ trivial trivial)⟩ ?_
        rintro s a w f1 ⟨n90, i91, rfl, hS⟩ hM hf1
        have hM : ref23_Decimal_l2 s_0 n90 i91 = some f1 := hM
        unfold ref23_Decimal_l2 at hM
        refine wp_seq_k fun K57 hK57 => ?_
        refine wp_seq_k fun K58 hK58 => ?_
        refine r_list ?_
        refine wl rfl (ky (v := .int .i64 i91) hS (y_move hS rfl) rfl rfl fun a hS => ?_)
        refine wl rfl (ky (v := .string s_0) hS (y_move hS rfl) rfl rfl fun a hS => ?_)
        refine wl rfl (ky (v := .int .i64 (s_0.size : Int)) hS (y_lens hS Tryd.underlying9 rfl) rfl rfl fun a hS => ?_)
        refine wl rfl (ky (v := .bool (decide ((i91 : Int) < (s_0.size : Int)))) hS (y_int hS rfl rfl rfl) rfl rfl fun a hS => ?_)
        refine wpList_nil ?_
        try simp only [Exit.then, Exit.inBlock, ↓reduceIte, Nat.reduceEqDiff]
        refine hK58 _ _ ?_
        rcases bool2 (decide ((i91 : Int) < (s_0.size : Int))) with hb103 | hb103
        · replace hM := ct hb103 hM
          refine c_t hS rfl hb103 ?_
          refine wp_skip ?_
          try simp only [Exit.then, Exit.inBlock, ↓reduceIte, Nat.reduceEqDiff]
          refine hK57 _ _ ?_
          refine wp_seq_k fun K59 hK59 => ?_
          refine wp_block ?_
          refine wp_seq_k fun K60 hK60 => ?_
          refine wp_seq_k fun K61 hK61 => ?_
          refine r_list ?_
          refine wl rfl (ky (v := .string s_0) hS (y_move hS rfl) rfl rfl fun a hS => ?_)
          refine wl rfl (ky (v := .int .i64 i91) hS (y_move hS rfl) rfl rfl fun a hS => ?_)
          obtain ⟨c107, hc107, hM⟩ := bd hM
          refine wl rfl (ky (v := .int .u8 (c107.toNat : Int)) hS (y_byte hS Tryd.underlying9 rfl rfl hc107) rfl rfl fun a hS => ?_)
          refine wl rfl (ky (v := .bool (decide (((c107.toNat : Int) : Int) < 48))) hS (y_int hS rfl rfl rfl) rfl rfl fun a hS => ?_)
          refine wl rfl (ky (v := .bool (decide (((c107.toNat : Int) : Int) < 48))) hS (y_move hS rfl) rfl rfl fun a hS => ?_)
          rcases bool2 (decide (((c107.toNat : Int) : Int) < 48)) with hb108 | hb108
          · replace hM := ct hb108 hM
            refine wn hS rfl rfl rfl hb108 rfl rfl fun a hS => ?_
            refine wn hS rfl rfl rfl hb108 rfl rfl fun a hS => ?_
            refine wn hS rfl rfl rfl hb108 rfl rfl fun a hS => ?_
            refine wn hS rfl rfl rfl hb108 rfl rfl fun a hS => ?_
            refine wl rfl (ky (v := .bool true) hS (y_pickt hS rfl hb108 rfl) rfl rfl fun a hS => ?_)
            refine wpList_nil ?_
            try simp only [Exit.then, Exit.inBlock, ↓reduceIte, Nat.reduceEqDiff]
            refine hK61 _ _ ?_
            refine c_t hS rfl rfl ?_
            refine wp_seq_k fun K62 hK62 => ?_
            refine r_list ?_
            refine wl rfl (ky (v := .int .i64 (-1)) hS (y_assign hS rfl) rfl rfl fun a hS => ?_)
            refine wpList_nil ?_
            try simp only [Exit.then, Exit.inBlock, ↓reduceIte, Nat.reduceEqDiff]
            refine hK62 _ _ ?_
            refine wp_ret ?_
            injection hM with hM
            subst hM
            have hr := hf1 _ rfl
            subst hr
            replace hMo1 := el_out hMo1
            have hM := hMo1
            injection hM with hM
            subst hM
            try simp only [Exit.then, Exit.inBlock, ↓reduceIte, Nat.reduceEqDiff]
            refine ret_ok hS Tryd.results61 (res_tmp hS rfl res_nil) ?_
            exact rfl
          · replace hM := cf hb108 hM
            refine wg hS rfl rfl rfl hb108 (ky (v := .string s_0) hS (y_move hS rfl) rfl rfl fun a hS => ?_)
            refine wg hS rfl rfl rfl hb108 (ky (v := .int .i64 i91) hS (y_move hS rfl) rfl rfl fun a hS => ?_)
            obtain ⟨c109, hc109, hM⟩ := bd hM
            refine wg hS rfl rfl rfl hb108 (ky (v := .int .u8 (c109.toNat : Int)) hS (y_byte hS Tryd.underlying9 rfl rfl hc109) rfl rfl fun a hS => ?_)
            refine wg hS rfl rfl rfl hb108 (ky (v := .bool (decide ((57 : Int) < (c109.toNat : Int)))) hS (y_int hS rfl rfl rfl) rfl rfl fun a hS => ?_)
            refine wl rfl (ky (v := .bool (decide ((57 : Int) < (c109.toNat : Int)))) hS (y_pickf hS rfl hb108 rfl) rfl rfl fun a hS => ?_)
            refine wpList_nil ?_
            try simp only [Exit.then, Exit.inBlock, ↓reduceIte, Nat.reduceEqDiff]
            refine hK61 _ _ ?_
            rcases bool2 (decide ((57 : Int) < (c109.toNat : Int))) with hb110 | hb110
            · replace hM := ct hb110 hM
              refine c_t hS rfl hb110 ?_
              refine wp_seq_k fun K63 hK63 => ?_
              refine r_list ?_
              refine wl rfl (ky (v := .int .i64 (-1)) hS (y_assign hS rfl) rfl rfl fun a hS => ?_)
              refine wpList_nil ?_
              try simp only [Exit.then, Exit.inBlock, ↓reduceIte, Nat.reduceEqDiff]
              refine hK63 _ _ ?_
              refine wp_ret ?_
              injection hM with hM
              subst hM
              have hr := hf1 _ rfl
              subst hr
              replace hMo1 := el_out hMo1
              have hM := hMo1
              injection hM with hM
              subst hM
              try simp only [Exit.then, Exit.inBlock, ↓reduceIte, Nat.reduceEqDiff]
              refine ret_ok hS Tryd.results61 (res_tmp hS rfl res_nil) ?_
              exact rfl
            · replace hM := cf hb110 hM
              refine c_f hS rfl hb110 ?_
              refine wp_skip ?_
              try simp only [Exit.then, Exit.inBlock, ↓reduceIte, Nat.reduceEqDiff]
              refine hK60 _ _ ?_
              refine r_list ?_
              refine wl rfl (ky (v := .int .i64 n90) hS (y_move hS rfl) rfl rfl fun a hS => ?_)
              refine wl rfl (ky (v := .int .i64 (IntKind.i64.wrap (10 * n90))) hS (y_int hS rfl rfl rfl) rfl rfl fun a hS => ?_)
              refine wl rfl (ky (v := .string s_0) hS (y_move hS rfl) rfl rfl fun a hS => ?_)
              refine wl rfl (ky (v := .int .i64 i91) hS (y_move hS rfl) rfl rfl fun a hS => ?_)
              obtain ⟨c111, hc111, hM⟩ := bd hM
              refine wl rfl (ky (v := .int .u8 (c111.toNat : Int)) hS (y_byte hS Tryd.underlying9 rfl rfl hc111) rfl rfl fun a hS => ?_)
              refine wl rfl (ky (v := .int .u8 (IntKind.u8.wrap ((c111.toNat : Int) - 48))) hS (y_int hS rfl rfl rfl) rfl rfl fun a hS => ?_)
              refine wl rfl (ky (v := .int .i64 (IntKind.i64.wrap (IntKind.u8.wrap ((c111.toNat : Int) - 48)))) hS (y_conv hS rfl Tryd.underlying5 Tryd.underlying3) rfl rfl fun a hS => ?_)
              refine wl rfl (ky (v := .int .i64 (IntKind.i64.wrap ((IntKind.i64.wrap (10 * n90)) + (IntKind.i64.wrap (IntKind.u8.wrap ((c111.toNat : Int) - 48)))))) hS (y_int hS rfl rfl rfl) rfl rfl fun a hS => ?_)
              refine wl rfl (ky (v := .int .i64 (IntKind.i64.wrap ((IntKind.i64.wrap (10 * n90)) + (IntKind.i64.wrap (IntKind.u8.wrap ((c111.toNat : Int) - 48)))))) hS (y_assign hS rfl) rfl rfl fun a hS => ?_)
              refine wpList_nil ?_
              try simp only [Exit.then, Exit.inBlock, ↓reduceIte, Nat.reduceEqDiff]
              refine hK59 _ _ ?_
              refine r_list ?_
              refine wl rfl (ky (v := .int .i64 i91) hS (y_move hS rfl) rfl rfl fun a hS => ?_)
              refine wl rfl (ky (v := .int .i64 (IntKind.i64.wrap (i91 + 1))) hS (y_int hS rfl rfl rfl) rfl rfl fun a hS => ?_)
              refine wl rfl (ky (v := .int .i64 (IntKind.i64.wrap (i91 + 1))) hS (y_assign hS rfl) rfl rfl fun a hS => ?_)
              refine wpList_nil ?_
              try simp only [Exit.then, Exit.inBlock, ↓reduceIte, Nat.reduceEqDiff]
              exact ⟨(IntKind.i64.wrap ((IntKind.i64.wrap (10 * n90)) + (IntKind.i64.wrap (IntKind.u8.wrap ((c111.toNat : Int) - 48)))), IntKind.i64.wrap (i91 + 1)), (Option.some.inj hM).symm, (IntKind.i64.wrap ((IntKind.i64.wrap (10 * n90)) + (IntKind.i64.wrap (IntKind.u8.wrap ((c111.toNat : Int) - 48))))), (IntKind.i64.wrap (i91 + 1)), rfl, (hS.meet [] (by decide) ⟨rfl, rfl, rfl, trivial⟩ trivial trivial)⟩
        · replace hM := cf hb103 hM
          refine c_f hS rfl hb103 ?_
          refine wp_exit ?_
          try simp only [Exit.then, Exit.inBlock, ↓reduceIte, Nat.reduceEqDiff]
          injection hM with hM
          subst hM
          have hr := hf1 _ rfl
          subst hr
          replace hMo1 := el_go hMo1
          have hM : ref23_Decimal_j1 n90 = some y := hMo1
          exact ⟨n90, (hS.meet [] (by decide) ⟨rfl, trivial⟩ trivial trivial), hM⟩
      · rintro a w ⟨n78, hS, hM⟩
        unfold ref23_Decimal_j1 at hM
        refine wp_seq_k fun K41 hK41 => ?_
        refine r_list ?_
        refine wl rfl (ky (v := .int .i64 n78) hS (y_move hS rfl) rfl rfl fun a hS => ?_)
        refine wl rfl (ky (v := .int .i64 n78) hS (y_assign hS rfl) rfl rfl fun a hS => ?_)
        refine wpList_nil ?_
        try simp only [Exit.then, Exit.inBlock, ↓reduceIte, Nat.reduceEqDiff]
        refine hK41 _ _ ?_
        refine wp_ret ?_
        injection hM with hM
        subst hM
        try simp only [Exit.then, Exit.inBlock, ↓reduceIte, Nat.reduceEqDiff]
        refine ret_ok hS Tryd.results61 (res_tmp hS rfl res_nil) ?_
        exact rfl

noncomputable def ref23_Number_j1 (n24 : Int) (g25 : Bool) : Option Int := cond g25 (some (n24)) (some ((-1)))
noncomputable def ref23_Number (k_0 : KeyD) : Option Int := (ref23_Decimal k_0.Text).bind fun u18 => cond (decide ((30 : Int) ≤ k_0.Kind)) (cond (decide ((k_0.Kind : Int) ≤ 32)) (ref23_Number_j1 u18 (decide ((u18 : Int) ≤ 99))) (ref23_Number_j1 u18 false)) (ref23_Number_j1 u18 false)
set_option maxRecDepth 100000 in
set_option maxHeartbeats 4000000 in
theorem ref23_Number_c (T : Nat → Prop) (W0 : World) (hT : ∀ k, T k → k < W0.heap.size) (k_0 : KeyD) (y : Int) (hM : ref23_Number k_0 = some y) : Rets Tryd.prog No 43 [.agg #[.int .i64 k_0.Kind, .string k_0.Text]] W0 (fun v w' => v = .int .i64 y) := by
  refine enter (c := _) Tryd.func43 rfl T 20 Tryd.ntmps43 hT rfl fun a hS => ?_
  unfold ref23_Number at hM
  refine wp_seq_k fun K6 hK6 => ?_
  refine r_list ?_
  refine wl rfl (k_box hS rfl (cs := [.int .i64 k_0.Kind, .string k_0.Text]) rfl rfl fun b15 hnb17 a w hk hS => ?_)
  refine wl rfl (ky (v := .int .i64 0) hS (y_assign hS rfl) rfl rfl fun a hS => ?_)
  refine wpList_nil ?_
  try simp only [Exit.then, Exit.inBlock, ↓reduceIte, Nat.reduceEqDiff]
  refine hK6 _ _ ?_
  refine wp_seq_k fun K7 hK7 => ?_
  refine wp_seq_k fun K8 hK8 => ?_
  refine r_list ?_
  refine wl rfl (ky (v := .pointer (some ⟨b15, 0 + 1, none⟩)) hS (y_fld hS rfl fl28_1) rfl rfl fun a hS => ?_)
  refine wl rfl (ky (v := .string k_0.Text) hS (y_load hS rfl ty9 0 rfl id (us := [.string k_0.Text]) rfl rfl (fun _ => rfl)) rfl rfl fun a hS => ?_)
  obtain ⟨u18, hu18, hM⟩ := bd hM
  refine wl rfl (k_call hS ci61 rfl rfl (ref23_Decimal_c _ _ hS.dlt k_0.Text _ hu18) fun _ w hR a hk hA => ?_)
  have he := Eq.symm hR
  subst he
  have hS := hA [] (fun r hr => by cases hr) List.Pairwise.nil
  refine wl rfl (ky (v := .int .i64 u18) hS (y_assign hS rfl) rfl rfl fun a hS => ?_)
  refine wpList_nil ?_
  try simp only [Exit.then, Exit.inBlock, ↓reduceIte, Nat.reduceEqDiff]
  refine hK8 _ _ ?_
  refine seq_j (J := fun a w => ∃ (n24 : Int) (g25 : Bool), St W0 No T 20 [(3, .int .i64 n24), (18, .bool g25)] [] [] a w ∧ ref23_Number_j1 n24 g25 = some y) ?_ ?_
  · skip
    refine r_list ?_
    refine wl rfl (ky (v := .pointer (some ⟨b15, 0 + 0, none⟩)) hS (y_fld hS rfl fl28_0) rfl rfl fun a hS => ?_)
    refine wl rfl (ky (v := .int .i64 k_0.Kind) hS (y_load hS rfl ty3 0 rfl id (us := [.int .i64 k_0.Kind]) rfl rfl (fun _ => rfl)) rfl rfl fun a hS => ?_)
    refine wl rfl (ky (v := .bool (decide ((30 : Int) ≤ k_0.Kind))) hS (y_int hS rfl rfl rfl) rfl rfl fun a hS => ?_)
    refine wl rfl (ky (v := .bool (decide ((30 : Int) ≤ k_0.Kind))) hS (y_move hS rfl) rfl rfl fun a hS => ?_)
    rcases bool2 (decide ((30 : Int) ≤ k_0.Kind)) with hb27 | hb27
    · replace hM := ct hb27 hM
      refine wg hS rfl rfl rfl hb27 (ky (v := .pointer (some ⟨b15, 0 + 0, none⟩)) hS (y_fld hS rfl fl28_0) rfl rfl fun a hS => ?_)
      refine wg hS rfl rfl rfl hb27 (ky (v := .int .i64 k_0.Kind) hS (y_load hS rfl ty3 0 rfl id (us := [.int .i64 k_0.Kind]) rfl rfl (fun _ => rfl)) rfl rfl fun a hS => ?_)
      refine wg hS rfl rfl rfl hb27 (ky (v := .bool (decide ((k_0.Kind : Int) ≤ 32))) hS (y_int hS rfl rfl rfl) rfl rfl fun a hS => ?_)
      refine wl rfl (ky (v := .bool (decide ((k_0.Kind : Int) ≤ 32))) hS (y_pickt hS rfl hb27 rfl) rfl rfl fun a hS => ?_)
      refine wl rfl (ky (v := .bool (decide ((k_0.Kind : Int) ≤ 32))) hS (y_move hS rfl) rfl rfl fun a hS => ?_)
      rcases bool2 (decide ((k_0.Kind : Int) ≤ 32)) with hb28 | hb28
      · replace hM := ct hb28 hM
        refine wg hS rfl rfl rfl hb28 (ky (v := .int .i64 u18) hS (y_move hS rfl) rfl rfl fun a hS => ?_)
        refine wg hS rfl rfl rfl hb28 (ky (v := .bool (decide ((u18 : Int) ≤ 99))) hS (y_int hS rfl rfl rfl) rfl rfl fun a hS => ?_)
        refine wl rfl (ky (v := .bool (decide ((u18 : Int) ≤ 99))) hS (y_pickt hS rfl hb28 rfl) rfl rfl fun a hS => ?_)
        refine wpList_nil ?_
        try simp only [Exit.then, Exit.inBlock, ↓reduceIte, Nat.reduceEqDiff]
        exact ⟨u18, (decide ((u18 : Int) ≤ 99)), (hS.meet [] (by decide) ⟨rfl, rfl, trivial⟩ trivial trivial), hM⟩
      · replace hM := cf hb28 hM
        refine wn hS rfl rfl rfl hb28 rfl rfl fun a hS => ?_
        refine wn hS rfl rfl rfl hb28 rfl rfl fun a hS => ?_
        refine wl rfl (ky (v := .bool false) hS (y_pickf hS rfl hb28 rfl) rfl rfl fun a hS => ?_)
        refine wpList_nil ?_
        try simp only [Exit.then, Exit.inBlock, ↓reduceIte, Nat.reduceEqDiff]
        exact ⟨u18, false, (hS.meet [] (by decide) ⟨rfl, rfl, trivial⟩ trivial trivial), hM⟩
    · replace hM := cf hb27 hM
      refine wn hS rfl rfl rfl hb27 rfl rfl fun a hS => ?_
      refine wn hS rfl rfl rfl hb27 rfl rfl fun a hS => ?_
      refine wn hS rfl rfl rfl hb27 rfl rfl fun a hS => ?_
      refine wl rfl (ky (v := .bool false) hS (y_pickf hS rfl hb27 rfl) rfl rfl fun a hS => ?_)
      refine wl rfl (ky (v := .bool false) hS (y_move hS rfl) rfl rfl fun a hS => ?_)
      refine wn hS rfl rfl rfl rfl rfl rfl fun a hS => ?_
      refine wn hS rfl rfl rfl rfl rfl rfl fun a hS => ?_
      refine wl rfl (ky (v := .bool false) hS (y_pickf hS rfl rfl rfl) rfl rfl fun a hS => ?_)
      refine wpList_nil ?_
      try simp only [Exit.then, Exit.inBlock, ↓reduceIte, Nat.reduceEqDiff]
      exact ⟨u18, false, (hS.meet [] (by decide) ⟨rfl, rfl, trivial⟩ trivial trivial), hM⟩
  · rintro a w ⟨n24, g25, hS, hM⟩
    unfold ref23_Number_j1 at hM
    rcases bool2 (g25) with hb26 | hb26
    · replace hM := ct hb26 hM
      refine c_t hS rfl hb26 ?_
      refine wp_seq_k fun K9 hK9 => ?_
      refine r_list ?_
      refine wl rfl (ky (v := .int .i64 n24) hS (y_move hS rfl) rfl rfl fun a hS => ?_)
      refine wl rfl (ky (v := .int .i64 n24) hS (y_assign hS rfl) rfl rfl fun a hS => ?_)
      refine wpList_nil ?_
      try simp only [Exit.then, Exit.inBlock, ↓reduceIte, Nat.reduceEqDiff]
      refine hK9 _ _ ?_
      refine wp_ret ?_
      injection hM with hM
      subst hM
      try simp only [Exit.then, Exit.inBlock, ↓reduceIte, Nat.reduceEqDiff]
      refine ret_ok hS Tryd.results43 (res_tmp hS rfl res_nil) ?_
      exact rfl
    · replace hM := cf hb26 hM
      refine c_f hS rfl hb26 ?_
      refine wp_skip ?_
      try simp only [Exit.then, Exit.inBlock, ↓reduceIte, Nat.reduceEqDiff]
      refine hK7 _ _ ?_
      refine wp_seq_k fun K10 hK10 => ?_
      refine r_list ?_
      refine wl rfl (ky (v := .int .i64 (-1)) hS (y_assign hS rfl) rfl rfl fun a hS => ?_)
      refine wpList_nil ?_
      try simp only [Exit.then, Exit.inBlock, ↓reduceIte, Nat.reduceEqDiff]
      refine hK10 _ _ ?_
      refine wp_ret ?_
      injection hM with hM
      subst hM
      try simp only [Exit.then, Exit.inBlock, ↓reduceIte, Nat.reduceEqDiff]
      refine ret_ok hS Tryd.results43 (res_tmp hS rfl res_nil) ?_
      exact rfl

noncomputable def ref23_Valid_j1 (g48 : Bool) : Option Bool := some (g48)
noncomputable def ref23_Valid_j2 (k_0 : KeyD) (g33 : Bool) (k34 : Int) : Option Bool := cond g33 ((ref23_Number (KeyD.mk k34 k_0.Text)).bind fun u36 => some (decide ((0 : Int) ≤ u36))) (cond (decide ((1 : Int) ≤ k34)) (cond (decide ((k34 : Int) ≤ 22)) (cond (decide (((k_0.Text.size : Int) : Int) ≤ 1073741824)) (cond (k_0.Text.toList == (ByteArray.mk #[]).toList) (ref23_Valid_j1 true) (cond ((k34 : Int) != 1) (ref23_Valid_j1 ((k34 : Int) != 21)) (ref23_Valid_j1 false))) (ref23_Valid_j1 false)) (ref23_Valid_j1 false)) (ref23_Valid_j1 false))
noncomputable def ref23_Valid (k_0 : KeyD) : Option Bool := cond (decide ((30 : Int) ≤ k_0.Kind)) (ref23_Valid_j2 k_0 (decide ((k_0.Kind : Int) ≤ 32)) k_0.Kind) (ref23_Valid_j2 k_0 false k_0.Kind)
set_option maxRecDepth 100000 in
set_option maxHeartbeats 4000000 in
theorem ref23_Valid_c (T : Nat → Prop) (W0 : World) (hT : ∀ k, T k → k < W0.heap.size) (k_0 : KeyD) (y : Bool) (hM : ref23_Valid k_0 = some y) : Rets Tryd.prog No 42 [.agg #[.int .i64 k_0.Kind, .string k_0.Text]] W0 (fun v w' => v = .bool y) := by
  refine enter (c := _) Tryd.func42 rfl T 43 Tryd.ntmps42 hT rfl fun a hS => ?_
  unfold ref23_Valid at hM
  refine wp_seq_k fun K4 hK4 => ?_
  refine r_list ?_
  refine wl rfl (k_box hS rfl (cs := [.int .i64 k_0.Kind, .string k_0.Text]) rfl rfl fun b28 hnb30 a w hk hS => ?_)
  refine wl rfl (ky (v := .bool false) hS (y_assign hS rfl) rfl rfl fun a hS => ?_)
  refine wpList_nil ?_
  try simp only [Exit.then, Exit.inBlock, ↓reduceIte, Nat.reduceEqDiff]
  refine hK4 _ _ ?_
  refine wp_seq_k fun K5 hK5 => ?_
  refine seq_j (J := fun a w => ∃ (g33 : Bool) (k34 : Int), St W0 No T 43 [(1, .pointer (some ⟨b28, 0, none⟩)), (10, .bool g33)] [.box b28 [.int .i64 k34, .string k_0.Text] 28] [] a w ∧ ref23_Valid_j2 k_0 g33 k34 = some y) ?_ ?_
  · skip
    refine r_list ?_
    refine wl rfl (ky (v := .pointer (some ⟨b28, 0 + 0, none⟩)) hS (y_fld hS rfl fl28_0) rfl rfl fun a hS => ?_)
    refine wl rfl (ky (v := .int .i64 k_0.Kind) hS (y_load hS rfl ty3 0 rfl id (us := [.int .i64 k_0.Kind]) rfl rfl (fun _ => rfl)) rfl rfl fun a hS => ?_)
    refine wl rfl (ky (v := .bool (decide ((30 : Int) ≤ k_0.Kind))) hS (y_int hS rfl rfl rfl) rfl rfl fun a hS => ?_)
    refine wl rfl (ky (v := .bool (decide ((30 : Int) ≤ k_0.Kind))) hS (y_move hS rfl) rfl rfl fun a hS => ?_)
    rcases bool2 (decide ((30 : Int) ≤ k_0.Kind)) with hb54 | hb54
    · replace hM := ct hb54 hM
      refine wg hS rfl rfl rfl hb54 (ky (v := .pointer (some ⟨b28, 0 + 0, none⟩)) hS (y_fld hS rfl fl28_0) rfl rfl fun a hS => ?_)
      refine wg hS rfl rfl rfl hb54 (ky (v := .int .i64 k_0.Kind) hS (y_load hS rfl ty3 0 rfl id (us := [.int .i64 k_0.Kind]) rfl rfl (fun _ => rfl)) rfl rfl fun a hS => ?_)
      refine wg hS rfl rfl rfl hb54 (ky (v := .bool (decide ((k_0.Kind : Int) ≤ 32))) hS (y_int hS rfl rfl rfl) rfl rfl fun a hS => ?_)
      refine wl rfl (ky (v := .bool (decide ((k_0.Kind : Int) ≤ 32))) hS (y_pickt hS rfl hb54 rfl) rfl rfl fun a hS => ?_)
      refine wpList_nil ?_
      try simp only [Exit.then, Exit.inBlock, ↓reduceIte, Nat.reduceEqDiff]
      exact ⟨(decide ((k_0.Kind : Int) ≤ 32)), k_0.Kind, (hS.meet [0] (by decide) ⟨rfl, rfl, trivial⟩ ⟨rfl, trivial⟩ trivial), hM⟩
    · replace hM := cf hb54 hM
      refine wn hS rfl rfl rfl hb54 rfl rfl fun a hS => ?_
      refine wn hS rfl rfl rfl hb54 rfl rfl fun a hS => ?_
      refine wn hS rfl rfl rfl hb54 rfl rfl fun a hS => ?_
      refine wl rfl (ky (v := .bool false) hS (y_pickf hS rfl hb54 rfl) rfl rfl fun a hS => ?_)
      refine wpList_nil ?_
      try simp only [Exit.then, Exit.inBlock, ↓reduceIte, Nat.reduceEqDiff]
      exact ⟨false, k_0.Kind, (hS.meet [0] (by decide) ⟨rfl, rfl, trivial⟩ ⟨rfl, trivial⟩ trivial), hM⟩
  · rintro a w ⟨g33, k34, hS, hM⟩
    unfold ref23_Valid_j2 at hM
    rcases bool2 (g33) with hb35 | hb35
    · replace hM := ct hb35 hM
      refine c_t hS rfl hb35 ?_
      refine wp_seq_k fun K6 hK6 => ?_
      refine r_list ?_
      refine wl rfl (ky (v := .agg #[.int .i64 k34, .string k_0.Text]) hS (y_load hS rfl ty28 0 rfl id (us := [.int .i64 k34, .string k_0.Text]) rfl rfl (fun h => by cases h)) rfl rfl fun a hS => ?_)
      obtain ⟨u36, hu36, hM⟩ := bd hM
      refine wl rfl (k_call hS ci43 rfl rfl (ref23_Number_c _ _ hS.dlt (KeyD.mk k34 k_0.Text) _ hu36) fun _ w hR a hk hA => ?_)
      have he := Eq.symm hR
      subst he
      have hS := hA [] (fun r hr => by cases hr) List.Pairwise.nil
      refine wl rfl (ky (v := .bool (decide ((0 : Int) ≤ u36))) hS (y_int hS rfl rfl rfl) rfl rfl fun a hS => ?_)
      refine wl rfl (ky (v := .bool (decide ((0 : Int) ≤ u36))) hS (y_assign hS rfl) rfl rfl fun a hS => ?_)
      refine wpList_nil ?_
      try simp only [Exit.then, Exit.inBlock, ↓reduceIte, Nat.reduceEqDiff]
      refine hK6 _ _ ?_
      refine wp_ret ?_
      injection hM with hM
      subst hM
      try simp only [Exit.then, Exit.inBlock, ↓reduceIte, Nat.reduceEqDiff]
      refine ret_ok hS Tryd.results42 (res_tmp hS rfl res_nil) ?_
      exact rfl
    · replace hM := cf hb35 hM
      refine c_f hS rfl hb35 ?_
      refine wp_skip ?_
      try simp only [Exit.then, Exit.inBlock, ↓reduceIte, Nat.reduceEqDiff]
      refine hK5 _ _ ?_
      refine seq_j (J := fun a w => ∃ (g48 : Bool), St W0 No T 43 [(2, .bool g48)] [] [] a w ∧ ref23_Valid_j1 g48 = some y) ?_ ?_
      · skip
        refine r_list ?_
        refine wl rfl (ky (v := .pointer (some ⟨b28, 0 + 0, none⟩)) hS (y_fld hS rfl fl28_0) rfl rfl fun a hS => ?_)
        refine wl rfl (ky (v := .int .i64 k34) hS (y_load hS rfl ty3 0 rfl id (us := [.int .i64 k34]) rfl rfl (fun _ => rfl)) rfl rfl fun a hS => ?_)
        refine wl rfl (ky (v := .bool (decide ((1 : Int) ≤ k34))) hS (y_int hS rfl rfl rfl) rfl rfl fun a hS => ?_)
        refine wl rfl (ky (v := .bool (decide ((1 : Int) ≤ k34))) hS (y_move hS rfl) rfl rfl fun a hS => ?_)
        rcases bool2 (decide ((1 : Int) ≤ k34)) with hb49 | hb49
        · replace hM := ct hb49 hM
          refine wg hS rfl rfl rfl hb49 (ky (v := .pointer (some ⟨b28, 0 + 0, none⟩)) hS (y_fld hS rfl fl28_0) rfl rfl fun a hS => ?_)
          refine wg hS rfl rfl rfl hb49 (ky (v := .int .i64 k34) hS (y_load hS rfl ty3 0 rfl id (us := [.int .i64 k34]) rfl rfl (fun _ => rfl)) rfl rfl fun a hS => ?_)
          refine wg hS rfl rfl rfl hb49 (ky (v := .bool (decide ((k34 : Int) ≤ 22))) hS (y_int hS rfl rfl rfl) rfl rfl fun a hS => ?_)
          refine wl rfl (ky (v := .bool (decide ((k34 : Int) ≤ 22))) hS (y_pickt hS rfl hb49 rfl) rfl rfl fun a hS => ?_)
          refine wl rfl (ky (v := .bool (decide ((k34 : Int) ≤ 22))) hS (y_move hS rfl) rfl rfl fun a hS => ?_)
          rcases bool2 (decide ((k34 : Int) ≤ 22)) with hb50 | hb50
          · replace hM := ct hb50 hM
            refine wg hS rfl rfl rfl hb50 (ky (v := .pointer (some ⟨b28, 0 + 1, none⟩)) hS (y_fld hS rfl fl28_1) rfl rfl fun a hS => ?_)
            refine wg hS rfl rfl rfl hb50 (ky (v := .string k_0.Text) hS (y_load hS rfl ty9 0 rfl id (us := [.string k_0.Text]) rfl rfl (fun _ => rfl)) rfl rfl fun a hS => ?_)
            refine wg hS rfl rfl rfl hb50 (ky (v := .int .i64 (k_0.Text.size : Int)) hS (y_lens hS Tryd.underlying9 rfl) rfl rfl fun a hS => ?_)
            refine wg hS rfl rfl rfl hb50 (ky (v := .bool (decide (((k_0.Text.size : Int) : Int) ≤ 1073741824))) hS (y_int hS rfl rfl rfl) rfl rfl fun a hS => ?_)
            refine wl rfl (ky (v := .bool (decide (((k_0.Text.size : Int) : Int) ≤ 1073741824))) hS (y_pickt hS rfl hb50 rfl) rfl rfl fun a hS => ?_)
            refine wl rfl (ky (v := .bool (decide (((k_0.Text.size : Int) : Int) ≤ 1073741824))) hS (y_move hS rfl) rfl rfl fun a hS => ?_)
            rcases bool2 (decide (((k_0.Text.size : Int) : Int) ≤ 1073741824)) with hb51 | hb51
            · replace hM := ct hb51 hM
              refine wg hS rfl rfl rfl hb51 (ky (v := .pointer (some ⟨b28, 0 + 1, none⟩)) hS (y_fld hS rfl fl28_1) rfl rfl fun a hS => ?_)
              refine wg hS rfl rfl rfl hb51 (ky (v := .string k_0.Text) hS (y_load hS rfl ty9 0 rfl id (us := [.string k_0.Text]) rfl rfl (fun _ => rfl)) rfl rfl fun a hS => ?_)
              refine wg hS rfl rfl rfl hb51 (ky (v := .bool (k_0.Text.toList == (ByteArray.mk #[]).toList)) hS (y_str hS rfl rfl rfl) rfl rfl fun a hS => ?_)
              refine wg hS rfl rfl rfl hb51 (ky (v := .bool (k_0.Text.toList == (ByteArray.mk #[]).toList)) hS (y_move hS rfl) rfl rfl fun a hS => ?_)
              rcases bool2 (k_0.Text.toList == (ByteArray.mk #[]).toList) with hb52 | hb52
              · replace hM := ct hb52 hM
                refine wn hS rfl rfl rfl hb52 rfl rfl fun a hS => ?_
                refine wn hS rfl rfl rfl hb52 rfl rfl fun a hS => ?_
                refine wn hS rfl rfl rfl hb52 rfl rfl fun a hS => ?_
                refine wn hS rfl rfl rfl hb52 rfl rfl fun a hS => ?_
                refine wnu hS rfl rfl rfl rfl rfl fun a hS => ?_
                refine wnu hS rfl rfl rfl rfl rfl fun a hS => ?_
                refine wnu hS rfl rfl rfl rfl rfl fun a hS => ?_
                refine wn hS rfl rfl rfl hb52 rfl rfl fun a hS => ?_
                refine wg hS rfl rfl rfl hb51 (ky (v := .bool true) hS (y_pickt hS rfl hb52 rfl) rfl rfl fun a hS => ?_)
                refine wl rfl (ky (v := .bool true) hS (y_pickt hS rfl hb51 rfl) rfl rfl fun a hS => ?_)
                refine wl rfl (ky (v := .bool true) hS (y_assign hS rfl) rfl rfl fun a hS => ?_)
                refine wpList_nil ?_
                try simp only [Exit.then, Exit.inBlock, ↓reduceIte, Nat.reduceEqDiff]
                exact ⟨true, (hS.meet [] (by decide) ⟨rfl, trivial⟩ trivial trivial), hM⟩
              · replace hM := cf hb52 hM
                refine wg hS rfl rfl rfl hb52 (ky (v := .pointer (some ⟨b28, 0 + 0, none⟩)) hS (y_fld hS rfl fl28_0) rfl rfl fun a hS => ?_)
                refine wg hS rfl rfl rfl hb52 (ky (v := .int .i64 k34) hS (y_load hS rfl ty3 0 rfl id (us := [.int .i64 k34]) rfl rfl (fun _ => rfl)) rfl rfl fun a hS => ?_)
                refine wg hS rfl rfl rfl hb52 (ky (v := .bool ((k34 : Int) != 1)) hS (y_int hS rfl rfl rfl) rfl rfl fun a hS => ?_)
                refine wg hS rfl rfl rfl hb52 (ky (v := .bool ((k34 : Int) != 1)) hS (y_move hS rfl) rfl rfl fun a hS => ?_)
                rcases bool2 ((k34 : Int) != 1) with hb53 | hb53
                · replace hM := ct hb53 hM
                  refine wg hS rfl rfl rfl hb53 (ky (v := .pointer (some ⟨b28, 0 + 0, none⟩)) hS (y_fld hS rfl fl28_0) rfl rfl fun a hS => ?_)
                  refine wg hS rfl rfl rfl hb53 (ky (v := .int .i64 k34) hS (y_load hS rfl ty3 0 rfl id (us := [.int .i64 k34]) rfl rfl (fun _ => rfl)) rfl rfl fun a hS => ?_)
                  refine wg hS rfl rfl rfl hb53 (ky (v := .bool ((k34 : Int) != 21)) hS (y_int hS rfl rfl rfl) rfl rfl fun a hS => ?_)
                  refine wg hS rfl rfl rfl hb52 (ky (v := .bool ((k34 : Int) != 21)) hS (y_pickt hS rfl hb53 rfl) rfl rfl fun a hS => ?_)
                  refine wg hS rfl rfl rfl hb51 (ky (v := .bool ((k34 : Int) != 21)) hS (y_pickf hS rfl hb52 rfl) rfl rfl fun a hS => ?_)
                  refine wl rfl (ky (v := .bool ((k34 : Int) != 21)) hS (y_pickt hS rfl hb51 rfl) rfl rfl fun a hS => ?_)
                  refine wl rfl (ky (v := .bool ((k34 : Int) != 21)) hS (y_assign hS rfl) rfl rfl fun a hS => ?_)
                  refine wpList_nil ?_
                  try simp only [Exit.then, Exit.inBlock, ↓reduceIte, Nat.reduceEqDiff]
                  exact ⟨((k34 : Int) != 21), (hS.meet [] (by decide) ⟨rfl, trivial⟩ trivial trivial), hM⟩
                · replace hM := cf hb53 hM
                  refine wn hS rfl rfl rfl hb53 rfl rfl fun a hS => ?_
                  refine wn hS rfl rfl rfl hb53 rfl rfl fun a hS => ?_
                  refine wn hS rfl rfl rfl hb53 rfl rfl fun a hS => ?_
                  refine wg hS rfl rfl rfl hb52 (ky (v := .bool false) hS (y_pickf hS rfl hb53 rfl) rfl rfl fun a hS => ?_)
                  refine wg hS rfl rfl rfl hb51 (ky (v := .bool false) hS (y_pickf hS rfl hb52 rfl) rfl rfl fun a hS => ?_)
                  refine wl rfl (ky (v := .bool false) hS (y_pickt hS rfl hb51 rfl) rfl rfl fun a hS => ?_)
                  refine wl rfl (ky (v := .bool false) hS (y_assign hS rfl) rfl rfl fun a hS => ?_)
                  refine wpList_nil ?_
                  try simp only [Exit.then, Exit.inBlock, ↓reduceIte, Nat.reduceEqDiff]
                  exact ⟨false, (hS.meet [] (by decide) ⟨rfl, trivial⟩ trivial trivial), hM⟩
            · replace hM := cf hb51 hM
              refine wn hS rfl rfl rfl hb51 rfl rfl fun a hS => ?_
              refine wn hS rfl rfl rfl hb51 rfl rfl fun a hS => ?_
              refine wn hS rfl rfl rfl hb51 rfl rfl fun a hS => ?_
              refine wn hS rfl rfl rfl hb51 rfl rfl fun a hS => ?_
              refine wnu hS rfl rfl rfl rfl rfl fun a hS => ?_
              refine wnu hS rfl rfl rfl rfl rfl fun a hS => ?_
              refine wnu hS rfl rfl rfl rfl rfl fun a hS => ?_
              refine wnu hS rfl rfl rfl rfl rfl fun a hS => ?_
              refine wnu hS rfl rfl rfl rfl rfl fun a hS => ?_
              refine wnu hS rfl rfl rfl rfl rfl fun a hS => ?_
              refine wnu hS rfl rfl rfl rfl rfl fun a hS => ?_
              refine wnu hS rfl rfl rfl rfl rfl fun a hS => ?_
              refine wn hS rfl rfl rfl hb51 rfl rfl fun a hS => ?_
              refine wl rfl (ky (v := .bool false) hS (y_pickf hS rfl hb51 rfl) rfl rfl fun a hS => ?_)
              refine wl rfl (ky (v := .bool false) hS (y_assign hS rfl) rfl rfl fun a hS => ?_)
              refine wpList_nil ?_
              try simp only [Exit.then, Exit.inBlock, ↓reduceIte, Nat.reduceEqDiff]
              exact ⟨false, (hS.meet [] (by decide) ⟨rfl, trivial⟩ trivial trivial), hM⟩
          · replace hM := cf hb50 hM
            refine wn hS rfl rfl rfl hb50 rfl rfl fun a hS => ?_
            refine wn hS rfl rfl rfl hb50 rfl rfl fun a hS => ?_
            refine wn hS rfl rfl rfl hb50 rfl rfl fun a hS => ?_
            refine wn hS rfl rfl rfl hb50 rfl rfl fun a hS => ?_
            refine wl rfl (ky (v := .bool false) hS (y_pickf hS rfl hb50 rfl) rfl rfl fun a hS => ?_)
            refine wl rfl (ky (v := .bool false) hS (y_move hS rfl) rfl rfl fun a hS => ?_)
            refine wn hS rfl rfl rfl rfl rfl rfl fun a hS => ?_
            refine wn hS rfl rfl rfl rfl rfl rfl fun a hS => ?_
            refine wn hS rfl rfl rfl rfl rfl rfl fun a hS => ?_
            refine wn hS rfl rfl rfl rfl rfl rfl fun a hS => ?_
            refine wnu hS rfl rfl rfl rfl rfl fun a hS => ?_
            refine wnu hS rfl rfl rfl rfl rfl fun a hS => ?_
            refine wnu hS rfl rfl rfl rfl rfl fun a hS => ?_
            refine wnu hS rfl rfl rfl rfl rfl fun a hS => ?_
            refine wnu hS rfl rfl rfl rfl rfl fun a hS => ?_
            refine wnu hS rfl rfl rfl rfl rfl fun a hS => ?_
            refine wnu hS rfl rfl rfl rfl rfl fun a hS => ?_
            refine wnu hS rfl rfl rfl rfl rfl fun a hS => ?_
            refine wn hS rfl rfl rfl rfl rfl rfl fun a hS => ?_
            refine wl rfl (ky (v := .bool false) hS (y_pickf hS rfl rfl rfl) rfl rfl fun a hS => ?_)
            refine wl rfl (ky (v := .bool false) hS (y_assign hS rfl) rfl rfl fun a hS => ?_)
            refine wpList_nil ?_
            try simp only [Exit.then, Exit.inBlock, ↓reduceIte, Nat.reduceEqDiff]
            exact ⟨false, (hS.meet [] (by decide) ⟨rfl, trivial⟩ trivial trivial), hM⟩
        · replace hM := cf hb49 hM
          refine wn hS rfl rfl rfl hb49 rfl rfl fun a hS => ?_
          refine wn hS rfl rfl rfl hb49 rfl rfl fun a hS => ?_
          refine wn hS rfl rfl rfl hb49 rfl rfl fun a hS => ?_
          refine wl rfl (ky (v := .bool false) hS (y_pickf hS rfl hb49 rfl) rfl rfl fun a hS => ?_)
          refine wl rfl (ky (v := .bool false) hS (y_move hS rfl) rfl rfl fun a hS => ?_)
          refine wn hS rfl rfl rfl rfl rfl rfl fun a hS => ?_
          refine wn hS rfl rfl rfl rfl rfl rfl fun a hS => ?_
          refine wn hS rfl rfl rfl rfl rfl rfl fun a hS => ?_
          refine wn hS rfl rfl rfl rfl rfl rfl fun a hS => ?_
          refine wl rfl (ky (v := .bool false) hS (y_pickf hS rfl rfl rfl) rfl rfl fun a hS => ?_)
          refine wl rfl (ky (v := .bool false) hS (y_move hS rfl) rfl rfl fun a hS => ?_)
          refine wn hS rfl rfl rfl rfl rfl rfl fun a hS => ?_
          refine wn hS rfl rfl rfl rfl rfl rfl fun a hS => ?_
          refine wn hS rfl rfl rfl rfl rfl rfl fun a hS => ?_
          refine wn hS rfl rfl rfl rfl rfl rfl fun a hS => ?_
          refine wnu hS rfl rfl rfl rfl rfl fun a hS => ?_
          refine wnu hS rfl rfl rfl rfl rfl fun a hS => ?_
          refine wnu hS rfl rfl rfl rfl rfl fun a hS => ?_
          refine wnu hS rfl rfl rfl rfl rfl fun a hS => ?_
          refine wnu hS rfl rfl rfl rfl rfl fun a hS => ?_
          refine wnu hS rfl rfl rfl rfl rfl fun a hS => ?_
          refine wnu hS rfl rfl rfl rfl rfl fun a hS => ?_
          refine wnu hS rfl rfl rfl rfl rfl fun a hS => ?_
          refine wn hS rfl rfl rfl rfl rfl rfl fun a hS => ?_
          refine wl rfl (ky (v := .bool false) hS (y_pickf hS rfl rfl rfl) rfl rfl fun a hS => ?_)
          refine wl rfl (ky (v := .bool false) hS (y_assign hS rfl) rfl rfl fun a hS => ?_)
          refine wpList_nil ?_
          try simp only [Exit.then, Exit.inBlock, ↓reduceIte, Nat.reduceEqDiff]
          exact ⟨false, (hS.meet [] (by decide) ⟨rfl, trivial⟩ trivial trivial), hM⟩
      · rintro a w ⟨g48, hS, hM⟩
        unfold ref23_Valid_j1 at hM
        refine wp_ret ?_
        injection hM with hM
        subst hM
        try simp only [Exit.then, Exit.inBlock, ↓reduceIte, Nat.reduceEqDiff]
        refine ret_ok hS Tryd.results42 (res_tmp hS rfl res_nil) ?_
        exact rfl

noncomputable def ref23_SameList_j1 : Option Bool := some (true)
noncomputable def ref23_SameList_l2 (a_0 : (List KeyD)) (b_1 : (List KeyD)) (g214 : Int) : Option (Fl (Int) (Fl (Unit) Bool)) := cond (decide ((g214 : Int) < (a_0.length : Int))) ((getI a_0 g214).bind fun e256 => (getI b_1 g214).bind fun e286 => cond (!((e286.Kind : Int) == e256.Kind && e286.Text.toList == e256.Text.toList)) (some (.out (.out false))) (some (.go (IntKind.i64.wrap (g214 + 1))))) (some (.out (.go ())))
noncomputable def ref23_SameList (a_0 : (List KeyD)) (b_1 : (List KeyD)) : Option Bool := cond (((a_0.length : Int) : Int) != (b_1.length : Int)) (some (false)) ((loop (fun s : Int => ref23_SameList_l2 a_0 b_1 s) 0).bind fun r => Fl.el r (fun s => ref23_SameList_j1) (fun y => some (y)))
set_option maxRecDepth 100000 in
set_option maxHeartbeats 4000000 in
theorem ref23_SameList_c (T : Nat → Prop) (W0 : World) (hT : ∀ k, T k → k < W0.heap.size) (a_0 : (List KeyD)) (b_1 : (List KeyD)) (v1 : Value) (v2 : Value) (hv1 : SlR R_KeyD T W0 v1 a_0) (hv2 : SlR R_KeyD T W0 v2 b_1) (y : Bool) (hM : ref23_SameList a_0 b_1 = some y) : Rets Tryd.prog No 50 [v1, v2] W0 (fun v w' => v = .bool y) := by
  refine enter (c := _) Tryd.func50 rfl T 26 Tryd.ntmps50 hT rfl fun a hS => ?_
  replace hS := hS.fact (SlF R_KeyD v1 a_0) (SlR.dn hv1)
  replace hS := hS.fact (SlF R_KeyD v2 b_1) (SlR.dn hv2)
  unfold ref23_SameList at hM
  refine wp_seq_k fun K20 hK20 => ?_
  refine r_list ?_
  refine wl rfl (ky (v := .bool false) hS (y_assign hS rfl) rfl rfl fun a hS => ?_)
  refine wpList_nil ?_
  try simp only [Exit.then, Exit.inBlock, ↓reduceIte, Nat.reduceEqDiff]
  refine hK20 _ _ ?_
  refine wp_seq_k fun K21 hK21 => ?_
  refine wp_seq_k fun K22 hK22 => ?_
  refine r_list ?_
  refine wl rfl (ky (v := v1) hS (y_move hS rfl) rfl rfl fun a hS => ?_)
  refine wl rfl (ky (v := .int .i64 (a_0.length : Int)) hS (y_len (R := R_KeyD) (xs := a_0) hS sl24 rfl 1 rfl) rfl rfl fun a hS => ?_)
  refine wl rfl (ky (v := v2) hS (y_move hS rfl) rfl rfl fun a hS => ?_)
  refine wl rfl (ky (v := .int .i64 (b_1.length : Int)) hS (y_len (R := R_KeyD) (xs := b_1) hS sl24 rfl 0 rfl) rfl rfl fun a hS => ?_)
  refine wl rfl (ky (v := .bool (((a_0.length : Int) : Int) != (b_1.length : Int))) hS (y_int hS rfl rfl rfl) rfl rfl fun a hS => ?_)
  refine wpList_nil ?_
  try simp only [Exit.then, Exit.inBlock, ↓reduceIte, Nat.reduceEqDiff]
  refine hK22 _ _ ?_
  rcases bool2 (((a_0.length : Int) : Int) != (b_1.length : Int)) with hb92 | hb92
  · replace hM := ct hb92 hM
    refine c_t hS rfl hb92 ?_
    refine wp_seq_k fun K23 hK23 => ?_
    refine r_list ?_
    refine wl rfl (ky (v := .bool false) hS (y_assign hS rfl) rfl rfl fun a hS => ?_)
    refine wpList_nil ?_
    try simp only [Exit.then, Exit.inBlock, ↓reduceIte, Nat.reduceEqDiff]
    refine hK23 _ _ ?_
    refine wp_ret ?_
    injection hM with hM
    subst hM
    try simp only [Exit.then, Exit.inBlock, ↓reduceIte, Nat.reduceEqDiff]
    refine ret_ok hS Tryd.results50 (res_tmp hS rfl res_nil) ?_
    exact rfl
  · replace hM := cf hb92 hM
    refine c_f hS rfl hb92 ?_
    refine wp_skip ?_
    try simp only [Exit.then, Exit.inBlock, ↓reduceIte, Nat.reduceEqDiff]
    refine hK21 _ _ ?_
    refine seq_j (J := fun a w => St W0 No T 26 [] [] [] a w ∧ ref23_SameList_j1 = some y) ?_ ?_
    · skip
      refine wp_seq_k fun K38 hK38 => ?_
      refine r_list ?_
      refine wl rfl (ky (v := v1) hS (y_move hS rfl) rfl rfl fun a hS => ?_)
      refine wl rfl (ky (v := .int .i64 (a_0.length : Int)) hS (y_len (R := R_KeyD) (xs := a_0) hS sl24 rfl 1 rfl) rfl rfl fun a hS => ?_)
      refine wl rfl (ky (v := .int .i64 0) hS (y_move hS rfl) rfl rfl fun a hS => ?_)
      refine wpList_nil ?_
      try simp only [Exit.then, Exit.inBlock, ↓reduceIte, Nat.reduceEqDiff]
      refine hK38 _ _ ?_
      refine wp_block ?_
      obtain ⟨r1, hl1, hMo1⟩ := bd hM
      refine wp_lp (fun s : Int => ref23_SameList_l2 a_0 b_1 s) (fun s a w => ∃ (g214 : Int), g214 = s ∧ St W0 No T 26 [(1, v2), (12, v1), (13, .int .i64 (a_0.length : Int)), (14, .int .i64 g214)] [] [SlF R_KeyD v2 b_1, SlF R_KeyD v1 a_0] a w) hl1 ⟨0, rfl, (hS.meet [] (by decide) ⟨rfl, rfl, rfl, rfl, trivial⟩ trivial ⟨⟨0, rfl⟩, ⟨1, rfl⟩, trivial⟩)⟩ ?_
      rintro s a w f1 ⟨g214, rfl, hS⟩ hM hf1
      have hM : ref23_SameList_l2 a_0 b_1 g214 = some f1 := hM
      unfold ref23_SameList_l2 at hM
      refine wp_seq_k fun K51 hK51 => ?_
      refine r_list ?_
      refine wl rfl (ky (v := .bool (decide ((g214 : Int) < (a_0.length : Int)))) hS (y_int hS rfl rfl rfl) rfl rfl fun a hS => ?_)
      refine wpList_nil ?_
      try simp only [Exit.then, Exit.inBlock, ↓reduceIte, Nat.reduceEqDiff]
      refine hK51 _ _ ?_
      refine wp_seq_k fun K52 hK52 => ?_
      rcases bool2 (decide ((g214 : Int) < (a_0.length : Int))) with hb255 | hb255
      · replace hM := ct hb255 hM
        refine c_t hS rfl hb255 ?_
        refine wp_skip ?_
        try simp only [Exit.then, Exit.inBlock, ↓reduceIte, Nat.reduceEqDiff]
        refine hK52 _ _ ?_
        refine wp_seq_k fun K53 hK53 => ?_
        refine wp_block ?_
        refine wp_seq_k fun K54 hK54 => ?_
        refine r_list ?_
        refine wl rfl (ky (v := .int .i64 g214) hS (y_move hS rfl) rfl rfl fun a hS => ?_)
        obtain ⟨e256, he256, hM⟩ := bd hM
        refine wl rfl (k_index (R := R_KeyD) hS sl24 ty28 rfl rfl 1 rfl he256 rfl fun b257 o258 cs260 hr259 a hS => ?_)
        obtain rfl := hr259
        refine wl rfl (ky (v := .agg #[.int .i64 e256.Kind, .string e256.Text]) hS (y_loadc (k := 0) hS ty28 0 rfl rfl (fun _ h => h.elim) (us := [.int .i64 e256.Kind, .string e256.Text]) rfl rfl (fun h => by cases h)) rfl rfl fun a hS => ?_)
        refine wl rfl (k_alloc hS ze28 rfl fun b262 hnb264 a w hk hS => ?_)
        refine wl rfl (ky (v := .int .i64 g214) hS (y_assign hS rfl) rfl rfl fun a hS => ?_)
        refine wl rfl (k_store hS rfl rfl (us := [.int .i64 e256.Kind, .string e256.Text]) rfl ty28 0 rfl rfl rfl (oc rfl (oc rfl on)) fun w hk hS => ?_)
        refine wpList_nil ?_
        try simp only [Exit.then, Exit.inBlock, ↓reduceIte, Nat.reduceEqDiff]
        refine hK54 _ _ ?_
        refine wp_seq_k fun K55 hK55 => ?_
        refine draws [] hS mixed rfl (fun c a d v w h => by cases d <;> exact h) fun w hQ hS => ?_
        refine dy 0 (v := v2) rfl (by kernel_rfl) (by kernel_rfl) (by kernel_rfl) rfl hQ hS (y_move hS rfl) rfl rfl rfl fun a hS => ?_
        refine dy 1 (v := .int .i64 g214) rfl (by kernel_rfl) (by kernel_rfl) (by kernel_rfl) rfl hQ hS (y_move hS rfl) rfl rfl rfl fun a hS => ?_
        obtain ⟨e286, he286, hM⟩ := bd hM
        obtain ⟨b287, o288, cs290, hr289, hy292, hS⟩ := d_index (R := R_KeyD) hS sl24 ty28 1 rfl he286
        obtain rfl := hr289
        refine dy 2 (v := .pointer (some ⟨b287, o288, none⟩)) rfl (by kernel_rfl) (by kernel_rfl) (by kernel_rfl) rfl hQ hS (hy292 rfl rfl) rfl rfl rfl fun a hS => ?_
        refine dy (l := []) 3 (v := .agg #[.int .i64 e286.Kind, .string e286.Text]) rfl (by kernel_rfl) (by kernel_rfl) (by kernel_rfl) (by kernel_rfl) hQ hS (y_loadc (k := 0) hS ty28 0 rfl rfl es_nil (us := [.int .i64 e286.Kind, .string e286.Text]) rfl rfl (fun h => by cases h)) rfl rfl rfl fun a hS => ?_
        refine dy (l := []) 4 (v := .agg #[.int .i64 e256.Kind, .string e256.Text]) rfl (by kernel_rfl) (by kernel_rfl) (by kernel_rfl) (by kernel_rfl) hQ hS (y_load hS rfl ty28 0 rfl eo_nil (us := [.int .i64 e256.Kind, .string e256.Text]) rfl rfl (fun h => by cases h)) rfl rfl rfl fun a hS => ?_
        refine dy 5 (v := .bool (!((e286.Kind : Int) == e256.Kind && e286.Text.toList == e256.Text.toList))) rfl (by kernel_rfl) (by kernel_rfl) (by kernel_rfl) rfl hQ hS (eq28n hS rfl rfl) rfl rfl rfl fun a hS => ?_
        refine wpE_done (by kernel_rfl) ?_ _
        try simp only [Exit.then, Exit.inBlock, ↓reduceIte, Nat.reduceEqDiff]
        refine hK55 _ _ ?_
        rcases bool2 (!((e286.Kind : Int) == e256.Kind && e286.Text.toList == e256.Text.toList)) with hb293 | hb293
        · replace hM := ct hb293 hM
          refine c_t hS rfl hb293 ?_
          refine wp_seq_k fun K56 hK56 => ?_
          refine r_list ?_
          refine wl rfl (ky (v := .bool false) hS (y_assign hS rfl) rfl rfl fun a hS => ?_)
          refine wpList_nil ?_
          try simp only [Exit.then, Exit.inBlock, ↓reduceIte, Nat.reduceEqDiff]
          refine hK56 _ _ ?_
          refine wp_ret ?_
          injection hM with hM
          subst hM
          have hr := hf1 _ rfl
          subst hr
          replace hMo1 := el_out hMo1
          have hM := hMo1
          injection hM with hM
          subst hM
          try simp only [Exit.then, Exit.inBlock, ↓reduceIte, Nat.reduceEqDiff]
          refine ret_ok hS Tryd.results50 (res_tmp hS rfl res_nil) ?_
          exact rfl
        · replace hM := cf hb293 hM
          refine c_f hS rfl hb293 ?_
          refine wp_skip ?_
          try simp only [Exit.then, Exit.inBlock, ↓reduceIte, Nat.reduceEqDiff]
          refine hK53 _ _ ?_
          refine r_list ?_
          refine wl rfl (ky (v := .int .i64 (IntKind.i64.wrap (g214 + 1))) hS (y_int hS rfl rfl rfl) rfl rfl fun a hS => ?_)
          refine wl rfl (ky (v := .int .i64 (IntKind.i64.wrap (g214 + 1))) hS (y_move hS rfl) rfl rfl fun a hS => ?_)
          refine wpList_nil ?_
          try simp only [Exit.then, Exit.inBlock, ↓reduceIte, Nat.reduceEqDiff]
          exact ⟨IntKind.i64.wrap (g214 + 1), (Option.some.inj hM).symm, (IntKind.i64.wrap (g214 + 1)), rfl, (hS.meet [] (by decide) ⟨rfl, rfl, rfl, rfl, trivial⟩ trivial ⟨⟨2, rfl⟩, ⟨3, rfl⟩, trivial⟩)⟩
      · replace hM := cf hb255 hM
        refine c_f hS rfl hb255 ?_
        refine wp_exit ?_
        try simp only [Exit.then, Exit.inBlock, ↓reduceIte, Nat.reduceEqDiff]
        injection hM with hM
        subst hM
        have hr := hf1 _ rfl
        subst hr
        replace hMo1 := el_go hMo1
        have hM : ref23_SameList_j1 = some y := hMo1
        exact ⟨(hS.meet [] (by decide) trivial trivial trivial), hM⟩
    · rintro a w ⟨hS, hM⟩
      unfold ref23_SameList_j1 at hM
      refine wp_seq_k fun K37 hK37 => ?_
      refine r_list ?_
      refine wl rfl (ky (v := .bool true) hS (y_assign hS rfl) rfl rfl fun a hS => ?_)
      refine wpList_nil ?_
      try simp only [Exit.then, Exit.inBlock, ↓reduceIte, Nat.reduceEqDiff]
      refine hK37 _ _ ?_
      refine wp_ret ?_
      injection hM with hM
      subst hM
      try simp only [Exit.then, Exit.inBlock, ↓reduceIte, Nat.reduceEqDiff]
      refine ret_ok hS Tryd.results50 (res_tmp hS rfl res_nil) ?_
      exact rfl

noncomputable def ref32_Valid_j1 (d_0 : DequeD) : Option Bool := some (decide (((d_0.Keys.length : Int) : Int) ≤ 64))
noncomputable def ref32_Valid_l2 (d_0 : DequeD) (g58 : Int) (g59 : Int) : Option (Fl (Int × Int) (Fl (Unit) Bool)) := cond (decide ((g59 : Int) < g58)) ((getI d_0.Keys g59).bind fun e76 => (ref23_Valid e76).bind fun u85 => cond (!(u85)) (some (.out (.out false))) (some (.go (g58, IntKind.i64.wrap (g59 + 1))))) (some (.out (.go ())))
noncomputable def ref32_Valid (d_0 : DequeD) : Option Bool := (loop (fun s : Int × Int => ref32_Valid_l2 d_0 s.1 s.2) ((d_0.Keys.length : Int), 0)).bind fun r => Fl.el r (fun s => ref32_Valid_j1 d_0) (fun y => some (y))
set_option maxRecDepth 100000 in
set_option maxHeartbeats 4000000 in
theorem ref32_Valid_c (T : Nat → Prop) (W0 : World) (hT : ∀ k, T k → k < W0.heap.size) (d_0 : DequeD) (v1 : Value) (hv1 : SlR R_KeyD T W0 v1 d_0.Keys) (y : Bool) (hM : ref32_Valid d_0 = some y) : Rets Tryd.prog No 20 [.agg #[v1]] W0 (fun v w' => v = .bool y) := by
  refine enter (c := _) Tryd.func20 rfl T 20 Tryd.ntmps20 hT rfl fun a hS => ?_
  replace hS := hS.fact (SlF R_KeyD v1 d_0.Keys) (SlR.dn hv1)
  unfold ref32_Valid at hM
  refine wp_seq_k fun K17 hK17 => ?_
  refine r_list ?_
  refine wl rfl (k_box hS rfl (cs := [v1]) rfl rfl fun b38 hnb40 a w hk hS => ?_)
  refine wl rfl (ky (v := .bool false) hS (y_assign hS rfl) rfl rfl fun a hS => ?_)
  refine wpList_nil ?_
  try simp only [Exit.then, Exit.inBlock, ↓reduceIte, Nat.reduceEqDiff]
  refine hK17 _ _ ?_
  refine seq_j (J := fun a w => St W0 No T 20 [(1, .pointer (some ⟨b38, 0, none⟩))] [.box b38 [v1] 26] [SlF R_KeyD v1 d_0.Keys] a w ∧ ref32_Valid_j1 d_0 = some y) ?_ ?_
  · skip
    refine wp_seq_k fun K26 hK26 => ?_
    refine r_list ?_
    refine wl rfl (ky (v := .pointer (some ⟨b38, 0 + 0, none⟩)) hS (y_fld hS rfl fl26_0) rfl rfl fun a hS => ?_)
    refine wl rfl (ky (v := v1) hS (y_load hS rfl ty24 0 rfl id (us := [v1]) rfl rfl (fun _ => rfl)) rfl rfl fun a hS => ?_)
    refine wl rfl (ky (v := .int .i64 (d_0.Keys.length : Int)) hS (y_len (R := R_KeyD) (xs := d_0.Keys) hS sl24 rfl 0 rfl) rfl rfl fun a hS => ?_)
    refine wl rfl (ky (v := .int .i64 0) hS (y_move hS rfl) rfl rfl fun a hS => ?_)
    refine wpList_nil ?_
    try simp only [Exit.then, Exit.inBlock, ↓reduceIte, Nat.reduceEqDiff]
    refine hK26 _ _ ?_
    refine wp_block ?_
    obtain ⟨r1, hl1, hMo1⟩ := bd hM
    refine wp_lp (fun s : Int × Int => ref32_Valid_l2 d_0 s.1 s.2) (fun s a w => ∃ (g58 : Int) (g59 : Int), (g58, g59) = s ∧ St W0 No T 20 [(1, .pointer (some ⟨b38, 0, none⟩)), (6, v1), (7, .int .i64 g58), (8, .int .i64 g59)] [.box b38 [v1] 26] [SlF R_KeyD v1 d_0.Keys] a w) hl1 ⟨(d_0.Keys.length : Int), 0, rfl, (hS.meet [0] (by decide) ⟨rfl, rfl, rfl, rfl, trivial⟩ ⟨rfl, trivial⟩ ⟨⟨0, rfl⟩, trivial⟩)⟩ ?_
    rintro s a w f1 ⟨g58, g59, rfl, hS⟩ hM hf1
    have hM : ref32_Valid_l2 d_0 g58 g59 = some f1 := hM
    unfold ref32_Valid_l2 at hM
    refine wp_seq_k fun K33 hK33 => ?_
    refine r_list ?_
    refine wl rfl (ky (v := .bool (decide ((g59 : Int) < g58))) hS (y_int hS rfl rfl rfl) rfl rfl fun a hS => ?_)
    refine wpList_nil ?_
    try simp only [Exit.then, Exit.inBlock, ↓reduceIte, Nat.reduceEqDiff]
    refine hK33 _ _ ?_
    refine wp_seq_k fun K34 hK34 => ?_
    rcases bool2 (decide ((g59 : Int) < g58)) with hb75 | hb75
    · replace hM := ct hb75 hM
      refine c_t hS rfl hb75 ?_
      refine wp_skip ?_
      try simp only [Exit.then, Exit.inBlock, ↓reduceIte, Nat.reduceEqDiff]
      refine hK34 _ _ ?_
      refine wp_seq_k fun K35 hK35 => ?_
      refine wp_block ?_
      refine wp_seq_k fun K36 hK36 => ?_
      refine r_list ?_
      obtain ⟨e76, he76, hM⟩ := bd hM
      refine wl rfl (k_index (R := R_KeyD) hS sl24 ty28 rfl rfl 0 rfl he76 rfl fun b77 o78 cs80 hr79 a hS => ?_)
      obtain rfl := hr79
      refine wl rfl (ky (v := .agg #[.int .i64 e76.Kind, .string e76.Text]) hS (y_loadc (k := 0) hS ty28 0 rfl rfl (fun _ h => h.elim) (us := [.int .i64 e76.Kind, .string e76.Text]) rfl rfl (fun h => by cases h)) rfl rfl fun a hS => ?_)
      refine wl rfl (k_alloc hS ze28 rfl fun b82 hnb84 a w hk hS => ?_)
      refine wl rfl (k_store hS rfl rfl (us := [.int .i64 e76.Kind, .string e76.Text]) rfl ty28 0 rfl rfl rfl (oc rfl (oc rfl on)) fun w hk hS => ?_)
      refine wpList_nil ?_
      try simp only [Exit.then, Exit.inBlock, ↓reduceIte, Nat.reduceEqDiff]
      refine hK36 _ _ ?_
      refine wp_seq_k fun K37 hK37 => ?_
      refine r_list ?_
      refine wl rfl (ky (v := .agg #[.int .i64 e76.Kind, .string e76.Text]) hS (y_load hS rfl ty28 0 rfl id (us := [.int .i64 e76.Kind, .string e76.Text]) rfl rfl (fun h => by cases h)) rfl rfl fun a hS => ?_)
      obtain ⟨u85, hu85, hM⟩ := bd hM
      refine wl rfl (k_call hS ci42 rfl rfl (ref23_Valid_c _ _ hS.dlt e76 _ hu85) fun _ w hR a hk hA => ?_)
      have he := Eq.symm hR
      subst he
      have hS := hA [] (fun r hr => by cases hr) List.Pairwise.nil
      refine wl rfl (ky (v := .bool (!(u85))) hS (y_not hS rfl) rfl rfl fun a hS => ?_)
      refine wpList_nil ?_
      try simp only [Exit.then, Exit.inBlock, ↓reduceIte, Nat.reduceEqDiff]
      refine hK37 _ _ ?_
      rcases bool2 (!(u85)) with hb87 | hb87
      · replace hM := ct hb87 hM
        refine c_t hS rfl hb87 ?_
        refine wp_seq_k fun K38 hK38 => ?_
        refine r_list ?_
        refine wl rfl (ky (v := .bool false) hS (y_assign hS rfl) rfl rfl fun a hS => ?_)
        refine wpList_nil ?_
        try simp only [Exit.then, Exit.inBlock, ↓reduceIte, Nat.reduceEqDiff]
        refine hK38 _ _ ?_
        refine wp_ret ?_
        injection hM with hM
        subst hM
        have hr := hf1 _ rfl
        subst hr
        replace hMo1 := el_out hMo1
        have hM := hMo1
        injection hM with hM
        subst hM
        try simp only [Exit.then, Exit.inBlock, ↓reduceIte, Nat.reduceEqDiff]
        refine ret_ok hS Tryd.results20 (res_tmp hS rfl res_nil) ?_
        exact rfl
      · replace hM := cf hb87 hM
        refine c_f hS rfl hb87 ?_
        refine wp_skip ?_
        try simp only [Exit.then, Exit.inBlock, ↓reduceIte, Nat.reduceEqDiff]
        refine hK35 _ _ ?_
        refine r_list ?_
        refine wl rfl (ky (v := .int .i64 (IntKind.i64.wrap (g59 + 1))) hS (y_int hS rfl rfl rfl) rfl rfl fun a hS => ?_)
        refine wl rfl (ky (v := .int .i64 (IntKind.i64.wrap (g59 + 1))) hS (y_move hS rfl) rfl rfl fun a hS => ?_)
        refine wpList_nil ?_
        try simp only [Exit.then, Exit.inBlock, ↓reduceIte, Nat.reduceEqDiff]
        exact ⟨(g58, IntKind.i64.wrap (g59 + 1)), (Option.some.inj hM).symm, g58, (IntKind.i64.wrap (g59 + 1)), rfl, (hS.meet [1] (by decide) ⟨rfl, rfl, rfl, rfl, trivial⟩ ⟨rfl, trivial⟩ ⟨⟨1, rfl⟩, trivial⟩)⟩
    · replace hM := cf hb75 hM
      refine c_f hS rfl hb75 ?_
      refine wp_exit ?_
      try simp only [Exit.then, Exit.inBlock, ↓reduceIte, Nat.reduceEqDiff]
      injection hM with hM
      subst hM
      have hr := hf1 _ rfl
      subst hr
      replace hMo1 := el_go hMo1
      have hM : ref32_Valid_j1 d_0 = some y := hMo1
      exact ⟨(hS.meet [0] (by decide) ⟨rfl, trivial⟩ ⟨rfl, trivial⟩ ⟨⟨0, rfl⟩, trivial⟩), hM⟩
  · rintro a w ⟨hS, hM⟩
    unfold ref32_Valid_j1 at hM
    refine wp_seq_k fun K25 hK25 => ?_
    refine r_list ?_
    refine wl rfl (ky (v := .pointer (some ⟨b38, 0 + 0, none⟩)) hS (y_fld hS rfl fl26_0) rfl rfl fun a hS => ?_)
    refine wl rfl (ky (v := v1) hS (y_load hS rfl ty24 0 rfl id (us := [v1]) rfl rfl (fun _ => rfl)) rfl rfl fun a hS => ?_)
    refine wl rfl (ky (v := .int .i64 (d_0.Keys.length : Int)) hS (y_len (R := R_KeyD) (xs := d_0.Keys) hS sl24 rfl 0 rfl) rfl rfl fun a hS => ?_)
    refine wl rfl (ky (v := .bool (decide (((d_0.Keys.length : Int) : Int) ≤ 64))) hS (y_int hS rfl rfl rfl) rfl rfl fun a hS => ?_)
    refine wl rfl (ky (v := .bool (decide (((d_0.Keys.length : Int) : Int) ≤ 64))) hS (y_assign hS rfl) rfl rfl fun a hS => ?_)
    refine wpList_nil ?_
    try simp only [Exit.then, Exit.inBlock, ↓reduceIte, Nat.reduceEqDiff]
    refine hK25 _ _ ?_
    refine wp_ret ?_
    injection hM with hM
    subst hM
    try simp only [Exit.then, Exit.inBlock, ↓reduceIte, Nat.reduceEqDiff]
    refine ret_ok hS Tryd.results20 (res_tmp hS rfl res_nil) ?_
    exact rfl

noncomputable def ref32_Same (a_0 : DequeD) (b_1 : DequeD) : Option Bool := (ref23_SameList a_0.Keys b_1.Keys).bind fun u15 => some (u15)
set_option maxRecDepth 100000 in
set_option maxHeartbeats 4000000 in
theorem ref32_Same_c (T : Nat → Prop) (W0 : World) (hT : ∀ k, T k → k < W0.heap.size) (a_0 : DequeD) (b_1 : DequeD) (v1 : Value) (v2 : Value) (hv1 : SlR R_KeyD T W0 v1 a_0.Keys) (hv2 : SlR R_KeyD T W0 v2 b_1.Keys) (y : Bool) (hM : ref32_Same a_0 b_1 = some y) : Rets Tryd.prog No 21 [.agg #[v1], .agg #[v2]] W0 (fun v w' => v = .bool y) := by
  refine enter (c := _) Tryd.func21 rfl T 10 Tryd.ntmps21 hT rfl fun a hS => ?_
  replace hS := hS.fact (SlF R_KeyD v1 a_0.Keys) (SlR.dn hv1)
  replace hS := hS.fact (SlF R_KeyD v2 b_1.Keys) (SlR.dn hv2)
  unfold ref32_Same at hM
  refine wp_seq_k fun K3 hK3 => ?_
  refine r_list ?_
  refine wl rfl (k_box hS rfl (cs := [v1]) rfl rfl fun b9 hnb11 a w hk hS => ?_)
  refine wl rfl (k_box hS rfl (cs := [v2]) rfl rfl fun b12 hnb14 a w hk hS => ?_)
  refine wl rfl (ky (v := .bool false) hS (y_assign hS rfl) rfl rfl fun a hS => ?_)
  refine wpList_nil ?_
  try simp only [Exit.then, Exit.inBlock, ↓reduceIte, Nat.reduceEqDiff]
  refine hK3 _ _ ?_
  refine wp_seq_k fun K4 hK4 => ?_
  refine r_list ?_
  refine wl rfl (ky (v := .pointer (some ⟨b9, 0 + 0, none⟩)) hS (y_fld hS rfl fl26_0) rfl rfl fun a hS => ?_)
  refine wl rfl (ky (v := v1) hS (y_load hS rfl ty24 1 rfl id (us := [v1]) rfl rfl (fun _ => rfl)) rfl rfl fun a hS => ?_)
  refine wl rfl (ky (v := .pointer (some ⟨b12, 0 + 0, none⟩)) hS (y_fld hS rfl fl26_0) rfl rfl fun a hS => ?_)
  refine wl rfl (ky (v := v2) hS (y_load hS rfl ty24 0 rfl id (us := [v2]) rfl rfl (fun _ => rfl)) rfl rfl fun a hS => ?_)
  obtain ⟨u15, hu15, hM⟩ := bd hM
  refine wl rfl (k_call hS ci50 rfl rfl (ref23_SameList_c _ _ hS.dlt a_0.Keys b_1.Keys _ _ (hS.get 1 rfl) (hS.get 0 rfl) _ hu15) fun _ w hR a hk hA => ?_)
  have he := Eq.symm hR
  subst he
  have hS := hA [] (fun r hr => by cases hr) List.Pairwise.nil
  refine wl rfl (ky (v := .bool u15) hS (y_assign hS rfl) rfl rfl fun a hS => ?_)
  refine wpList_nil ?_
  try simp only [Exit.then, Exit.inBlock, ↓reduceIte, Nat.reduceEqDiff]
  refine hK4 _ _ ?_
  refine wp_ret ?_
  injection hM with hM
  subst hM
  try simp only [Exit.then, Exit.inBlock, ↓reduceIte, Nat.reduceEqDiff]
  refine ret_ok hS Tryd.results21 (res_tmp hS rfl res_nil) ?_
  exact rfl

noncomputable def ref32_Copy (d_0 : DequeD) : Option DequeD := gd (roomB (([] : List KeyD).length + d_0.Keys.length)) <| some ((DequeD.mk (([] : List KeyD) ++ d_0.Keys)))
set_option maxRecDepth 100000 in
set_option maxHeartbeats 4000000 in
theorem ref32_Copy_c (T : Nat → Prop) (W0 : World) (hT : ∀ k, T k → k < W0.heap.size) (d_0 : DequeD) (v1 : Value) (hv1 : SlR R_KeyD T W0 v1 d_0.Keys) (y : DequeD) (hM : ref32_Copy d_0 = some y) : Rets Tryd.prog No 49 [.agg #[v1]] W0 (fun v w' => ∃ (v2 : Value) (cl3 : List Value), v = .agg #[v2] ∧ OwnR R_KeyD T W0 w' [.own v2 28 R_KeyD.size cl3] 28 v2 cl3 y.Keys) := by
  refine enter (c := _) Tryd.func49 rfl T 7 Tryd.ntmps49 hT rfl fun a hS => ?_
  replace hS := hS.fact (SlF R_KeyD v1 d_0.Keys) (SlR.dn hv1)
  unfold ref32_Copy at hM
  refine wp_seq_k fun K3 hK3 => ?_
  refine r_list ?_
  refine wl rfl (k_box hS rfl (cs := [v1]) rfl rfl fun b12 hnb14 a w hk hS => ?_)
  refine wl rfl (k_alloc hS ze26 rfl fun b15 hnb17 a w hk hS => ?_)
  refine wpList_nil ?_
  try simp only [Exit.then, Exit.inBlock, ↓reduceIte, Nat.reduceEqDiff]
  refine hK3 _ _ ?_
  refine wp_seq_k fun K4 hK4 => ?_
  refine r_list ?_
  refine wl rfl (ky (v := .pointer (some ⟨b12, 0 + 0, none⟩)) hS (y_fld hS rfl fl26_0) rfl rfl fun a hS => ?_)
  refine wl rfl (ky (v := v1) hS (y_load hS rfl ty24 1 rfl id (us := [v1]) rfl rfl (fun _ => rfl)) rfl rfl fun a hS => ?_)
  replace hS := hS.nilRow R_KeyD 28 (by decide)
  obtain ⟨hg19, hM⟩ := gd_some hM
  refine wl rfl (k_apps (R := R_KeyD) (xs := ([] : List KeyD)) (ys := d_0.Keys) hS el24 (by decide) (by decide) rfl rfl 0 rfl 0 rfl 1 rfl hg19 rfl fun v20 cl21 a w hk hS => ?_)
  refine wl rfl (ky (v := .agg #[v20]) hS (y_build (ps := [(0, .tmp 5)]) hS pl26 ze26 rfl (us := [[v20]]) ⟨(cells1 (own_one (hS.own _ (List.mem_of_getElem? (i := 0) rfl)).1)), trivial⟩ (ws := [v20]) rfl) rfl rfl fun a hS => ?_)
  refine wl rfl (k_store hS rfl rfl (us := [v20]) rfl ty26 1 rfl rfl rfl (oc (own_one (hS.own _ (List.mem_of_getElem? (i := 0) rfl)).1) on) fun w hk hS => ?_)
  refine wpList_nil ?_
  try simp only [Exit.then, Exit.inBlock, ↓reduceIte, Nat.reduceEqDiff]
  refine hK4 _ _ ?_
  refine wp_ret ?_
  injection hM with hM
  subst hM
  try simp only [Exit.then, Exit.inBlock, ↓reduceIte, Nat.reduceEqDiff]
  refine ret_ok hS Tryd.results49 (res_cell hS rfl 1 rfl ty26 rfl (fun h => by cases h) res_nil) ?_
  exact ⟨v20, cl21, rfl, hS.retOwn ⟨.inr (List.mem_of_getElem? (i := 0) rfl), trivial⟩ 0 rfl 0 rfl⟩

noncomputable def ref32_Push (d_0 : DequeD) (k_1 : KeyD) : Option (DequeD × Int) := (ref32_Copy d_0).bind fun u32 => (ref23_Valid k_1).bind fun u35 => cond (!(u35)) (some ((u32, 40))) (cond (decide ((64 : Int) ≤ (u32.Keys.length : Int))) (some ((u32, 45))) (gd (roomB (u32.Keys.length + ([k_1]).length)) <| some (((DequeD.mk (u32.Keys ++ ([k_1]))), 0))))
set_option maxRecDepth 100000 in
set_option maxHeartbeats 4000000 in
theorem ref32_Push_c (T : Nat → Prop) (W0 : World) (hT : ∀ k, T k → k < W0.heap.size) (d_0 : DequeD) (k_1 : KeyD) (v1 : Value) (hv1 : SlR R_KeyD T W0 v1 d_0.Keys) (y : DequeD × Int) (hM : ref32_Push d_0 k_1 = some y) : Rets Tryd.prog No 19 [.agg #[v1], .agg #[.int .i64 k_1.Kind, .string k_1.Text]] W0 (fun v w' => ∃ (v2 : Value) (cl3 : List Value), v = .tuple #[.agg #[v2], .int .i64 y.2] ∧ OwnR R_KeyD T W0 w' [.own v2 28 R_KeyD.size cl3] 28 v2 cl3 y.1.Keys) := by
  refine enter (c := _) Tryd.func19 rfl T 26 Tryd.ntmps19 hT rfl fun a hS => ?_
  replace hS := hS.fact (SlF R_KeyD v1 d_0.Keys) (SlR.dn hv1)
  unfold ref32_Push at hM
  refine wp_seq_k fun K10 hK10 => ?_
  refine r_list ?_
  refine wl rfl (k_box hS rfl (cs := [v1]) rfl rfl fun b23 hnb25 a w hk hS => ?_)
  refine wl rfl (k_box hS rfl (cs := [.int .i64 k_1.Kind, .string k_1.Text]) rfl rfl fun b26 hnb28 a w hk hS => ?_)
  refine wl rfl (k_alloc hS ze26 rfl fun b29 hnb31 a w hk hS => ?_)
  refine wl rfl (ky (v := .int .i64 0) hS (y_assign hS rfl) rfl rfl fun a hS => ?_)
  refine wpList_nil ?_
  try simp only [Exit.then, Exit.inBlock, ↓reduceIte, Nat.reduceEqDiff]
  refine hK10 _ _ ?_
  refine wp_seq_k fun K11 hK11 => ?_
  refine r_list ?_
  refine wl rfl (ky (v := .agg #[v1]) hS (y_load hS rfl ty26 2 rfl id (us := [v1]) rfl rfl (fun h => by cases h)) rfl rfl fun a hS => ?_)
  obtain ⟨u32, hu32, hM⟩ := bd hM
  refine wl rfl (k_call hS ci49 rfl rfl (ref32_Copy_c _ _ hS.dlt d_0 _ (hS.get 0 rfl) _ hu32) fun _ w hR a hk hA => ?_)
  obtain ⟨vz33_2, clz33_3, he, ⟨hOvz33_2, hFvz33_2, hRvz33_2⟩⟩ := hR
  replace he := he.symm
  subst he
  have hS := hA [.own vz33_2 28 R_KeyD.size clz33_3] (adds1 ⟨hOvz33_2, by decide⟩ hFvz33_2) (pw1 _)
  replace hS := hS.fact (RowsF R_KeyD clz33_3 u32.Keys) (hRvz33_2.keep (Kt.refl _ _) (dT_dT _))
  refine wl rfl (k_store hS rfl rfl (us := [vz33_2]) rfl ty26 3 rfl rfl rfl (oc (own_one (hS.own _ (List.mem_of_getElem? (i := 0) rfl)).1) on) fun w hk hS => ?_)
  refine wpList_nil ?_
  try simp only [Exit.then, Exit.inBlock, ↓reduceIte, Nat.reduceEqDiff]
  refine hK11 _ _ ?_
  refine wp_seq_k fun K12 hK12 => ?_
  refine wp_block ?_
  refine wp_seq_k fun K13 hK13 => ?_
  refine r_list ?_
  refine wl rfl (ky (v := .agg #[.int .i64 k_1.Kind, .string k_1.Text]) hS (y_load hS rfl ty28 2 rfl id (us := [.int .i64 k_1.Kind, .string k_1.Text]) rfl rfl (fun h => by cases h)) rfl rfl fun a hS => ?_)
  obtain ⟨u35, hu35, hM⟩ := bd hM
  refine wl rfl (k_call hS ci42 rfl rfl (ref23_Valid_c _ _ hS.dlt k_1 _ hu35) fun _ w hR a hk hA => ?_)
  have he := Eq.symm hR
  subst he
  have hS := hA [] (fun r hr => by cases hr) List.Pairwise.nil
  refine wl rfl (ky (v := .bool (!(u35))) hS (y_not hS rfl) rfl rfl fun a hS => ?_)
  refine wl rfl (ky (v := .bool (!(u35))) hS (y_assign hS rfl) rfl rfl fun a hS => ?_)
  refine wpList_nil ?_
  try simp only [Exit.then, Exit.inBlock, ↓reduceIte, Nat.reduceEqDiff]
  refine hK13 _ _ ?_
  rcases bool2 (!(u35)) with hb37 | hb37
  · replace hM := ct hb37 hM
    refine c_t hS rfl hb37 ?_
    refine wp_seq_k fun K14 hK14 => ?_
    refine r_list ?_
    refine wl rfl (ky (v := .agg #[vz33_2]) hS (y_load hS rfl ty26 3 rfl id (us := [vz33_2]) rfl rfl (fun h => by cases h)) rfl rfl fun a hS => ?_)
    refine wl rfl (k_store hS rfl rfl (us := [vz33_2]) rfl ty26 1 rfl rfl rfl (oc (own_one (hS.own _ (List.mem_of_getElem? (i := 0) rfl)).1) on) fun w hk hS => ?_)
    refine wl rfl (ky (v := .int .i64 40) hS (y_assign hS rfl) rfl rfl fun a hS => ?_)
    refine wpList_nil ?_
    try simp only [Exit.then, Exit.inBlock, ↓reduceIte, Nat.reduceEqDiff]
    refine hK14 _ _ ?_
    refine wp_ret ?_
    injection hM with hM
    subst hM
    try simp only [Exit.then, Exit.inBlock, ↓reduceIte, Nat.reduceEqDiff]
    refine ret_ok hS Tryd.results19 (res_cell hS rfl 1 rfl ty26 rfl (fun h => by cases h) (res_tmp hS rfl res_nil)) ?_
    exact ⟨vz33_2, clz33_3, rfl, hS.retOwn ⟨.inr (List.mem_of_getElem? (i := 0) rfl), trivial⟩ 0 rfl 0 rfl⟩
  · replace hM := cf hb37 hM
    refine c_f hS rfl hb37 ?_
    refine wp_seq_k fun K15 hK15 => ?_
    refine r_list ?_
    refine wl rfl (ky (v := .pointer (some ⟨b23, 0 + 0, none⟩)) hS (y_fld hS rfl fl26_0) rfl rfl fun a hS => ?_)
    refine wl rfl (ky (v := vz33_2) hS (y_load hS rfl ty24 3 rfl id (us := [vz33_2]) rfl rfl (fun _ => rfl)) rfl rfl fun a hS => ?_)
    refine wl rfl (ky (v := .int .i64 (u32.Keys.length : Int)) hS (y_leno (R := R_KeyD) (xs := u32.Keys) hS sl24 rfl 0 rfl 0 rfl) rfl rfl fun a hS => ?_)
    refine wl rfl (ky (v := .bool (decide ((64 : Int) ≤ (u32.Keys.length : Int)))) hS (y_int hS rfl rfl rfl) rfl rfl fun a hS => ?_)
    refine wl rfl (ky (v := .bool (decide ((64 : Int) ≤ (u32.Keys.length : Int)))) hS (y_assign hS rfl) rfl rfl fun a hS => ?_)
    refine wpList_nil ?_
    try simp only [Exit.then, Exit.inBlock, ↓reduceIte, Nat.reduceEqDiff]
    refine hK15 _ _ ?_
    rcases bool2 (decide ((64 : Int) ≤ (u32.Keys.length : Int))) with hb38 | hb38
    · replace hM := ct hb38 hM
      refine c_t hS rfl hb38 ?_
      refine wp_seq_k fun K16 hK16 => ?_
      refine r_list ?_
      refine wl rfl (ky (v := .agg #[vz33_2]) hS (y_load hS rfl ty26 3 rfl id (us := [vz33_2]) rfl rfl (fun h => by cases h)) rfl rfl fun a hS => ?_)
      refine wl rfl (k_store hS rfl rfl (us := [vz33_2]) rfl ty26 1 rfl rfl rfl (oc (own_one (hS.own _ (List.mem_of_getElem? (i := 0) rfl)).1) on) fun w hk hS => ?_)
      refine wl rfl (ky (v := .int .i64 45) hS (y_assign hS rfl) rfl rfl fun a hS => ?_)
      refine wpList_nil ?_
      try simp only [Exit.then, Exit.inBlock, ↓reduceIte, Nat.reduceEqDiff]
      refine hK16 _ _ ?_
      refine wp_ret ?_
      injection hM with hM
      subst hM
      try simp only [Exit.then, Exit.inBlock, ↓reduceIte, Nat.reduceEqDiff]
      refine ret_ok hS Tryd.results19 (res_cell hS rfl 1 rfl ty26 rfl (fun h => by cases h) (res_tmp hS rfl res_nil)) ?_
      exact ⟨vz33_2, clz33_3, rfl, hS.retOwn ⟨.inr (List.mem_of_getElem? (i := 0) rfl), trivial⟩ 0 rfl 0 rfl⟩
    · replace hM := cf hb38 hM
      refine c_f hS rfl hb38 ?_
      refine wp_skip ?_
      try simp only [Exit.then, Exit.inBlock, ↓reduceIte, Nat.reduceEqDiff]
      refine hK12 _ _ ?_
      refine wp_seq_k fun K17 hK17 => ?_
      refine r_list ?_
      refine wl rfl (ky (v := .pointer (some ⟨b23, 0 + 0, none⟩)) hS (y_fld hS rfl fl26_0) rfl rfl fun a hS => ?_)
      refine wl rfl (ky (v := vz33_2) hS (y_load hS rfl ty24 3 rfl id (us := [vz33_2]) rfl rfl (fun _ => rfl)) rfl rfl fun a hS => ?_)
      refine wl rfl (ky (v := .agg #[.int .i64 k_1.Kind, .string k_1.Text]) hS (y_load hS rfl ty28 2 rfl id (us := [.int .i64 k_1.Kind, .string k_1.Text]) rfl rfl (fun h => by cases h)) rfl rfl fun a hS => ?_)
      refine wl rfl (k_bslice (ps := [(0, .tmp 21)]) hS el24 ze28 (zl := [.int .i64 0, .string (ByteArray.mk #[])]) (by kernel_rfl) rfl (us := [[.int .i64 k_1.Kind, .string k_1.Text]]) ⟨rfl, trivial⟩ (ws := [.int .i64 k_1.Kind, .string k_1.Text]) rfl rfl rfl rfl fun b39 a w hk hS => ?_)
      replace hS := hS.lit (R := R_KeyD) (us := [.int .i64 k_1.Kind, .string k_1.Text]) (xs := [k_1]) 0 rfl (by decide) (RowsOk.one_ (R := R_KeyD) (x := k_1) rfl) rfl rfl
      replace hS := hS.freeze (R := R_KeyD) 0 rfl 0 rfl
      obtain ⟨hg41, hM⟩ := gd_some hM
      refine wl rfl (k_apps (R := R_KeyD) (xs := u32.Keys) (ys := [k_1]) hS el24 (by decide) (by decide) rfl rfl 0 rfl 2 rfl 0 rfl hg41 rfl fun v42 cl43 a w hk hS => ?_)
      refine wl rfl (ky (v := .pointer (some ⟨b23, 0 + 0, none⟩)) hS (y_fld hS rfl fl26_0) rfl rfl fun a hS => ?_)
      refine wl rfl (k_store hS rfl rfl (us := [v42]) (cells1 (own_one (hS.own _ (List.mem_of_getElem? (i := 0) rfl)).1)) ty24 3 rfl rfl rfl (oc (own_one (hS.own _ (List.mem_of_getElem? (i := 0) rfl)).1) on) fun w hk hS => ?_)
      refine wpList_nil ?_
      try simp only [Exit.then, Exit.inBlock, ↓reduceIte, Nat.reduceEqDiff]
      refine hK17 _ _ ?_
      refine wp_seq_k fun K18 hK18 => ?_
      refine r_list ?_
      refine wl rfl (ky (v := .agg #[v42]) hS (y_load hS rfl ty26 3 rfl id (us := [v42]) rfl rfl (fun h => by cases h)) rfl rfl fun a hS => ?_)
      refine wl rfl (k_store hS rfl rfl (us := [v42]) rfl ty26 1 rfl rfl rfl (oc (own_one (hS.own _ (List.mem_of_getElem? (i := 0) rfl)).1) on) fun w hk hS => ?_)
      refine wl rfl (ky (v := .int .i64 0) hS (y_assign hS rfl) rfl rfl fun a hS => ?_)
      refine wpList_nil ?_
      try simp only [Exit.then, Exit.inBlock, ↓reduceIte, Nat.reduceEqDiff]
      refine hK18 _ _ ?_
      refine wp_ret ?_
      injection hM with hM
      subst hM
      try simp only [Exit.then, Exit.inBlock, ↓reduceIte, Nat.reduceEqDiff]
      refine ret_ok hS Tryd.results19 (res_cell hS rfl 1 rfl ty26 rfl (fun h => by cases h) (res_tmp hS rfl res_nil)) ?_
      exact ⟨v42, cl43, rfl, hS.retOwn ⟨.inr (List.mem_of_getElem? (i := 0) rfl), trivial⟩ 0 rfl 0 rfl⟩

noncomputable def ref32_Pop (d_0 : DequeD) : Option (DequeD × KeyD × Bool) := (ref32_Copy d_0).bind fun u71 => cond (((u71.Keys.length : Int) : Int) == 0) (some ((u71, (KeyD.mk 0 (ByteArray.mk #[])), false))) ((subI u71.Keys 0 (IntKind.i64.wrap ((u71.Keys.length : Int) - 1))).bind fun l111 => (getI u71.Keys (IntKind.i64.wrap ((u71.Keys.length : Int) - 1))).bind fun e116 => some (((DequeD.mk l111), e116, true)))
set_option maxRecDepth 100000 in
set_option maxHeartbeats 4000000 in
theorem ref32_Pop_c (T : Nat → Prop) (W0 : World) (hT : ∀ k, T k → k < W0.heap.size) (d_0 : DequeD) (v1 : Value) (hv1 : SlR R_KeyD T W0 v1 d_0.Keys) (y : DequeD × KeyD × Bool) (hM : ref32_Pop d_0 = some y) : Rets Tryd.prog No 22 [.agg #[v1]] W0 (fun v w' => ∃ (v2 : Value), v = .tuple #[.agg #[v2], .agg #[.int .i64 y.2.1.Kind, .string y.2.1.Text], .bool y.2.2] ∧ SlR R_KeyD (dT T []) w' v2 y.1.Keys) := by
  refine enter (c := _) Tryd.func22 rfl T 27 Tryd.ntmps22 hT rfl fun a hS => ?_
  replace hS := hS.fact (SlF R_KeyD v1 d_0.Keys) (SlR.dn hv1)
  unfold ref32_Pop at hM
  refine wp_seq_k fun K8 hK8 => ?_
  refine r_list ?_
  refine wl rfl (k_box hS rfl (cs := [v1]) rfl rfl fun b62 hnb64 a w hk hS => ?_)
  refine wl rfl (k_alloc hS ze26 rfl fun b65 hnb67 a w hk hS => ?_)
  refine wl rfl (k_alloc hS ze28 rfl fun b68 hnb70 a w hk hS => ?_)
  refine wl rfl (ky (v := .bool false) hS (y_assign hS rfl) rfl rfl fun a hS => ?_)
  refine wpList_nil ?_
  try simp only [Exit.then, Exit.inBlock, ↓reduceIte, Nat.reduceEqDiff]
  refine hK8 _ _ ?_
  refine wp_seq_k fun K9 hK9 => ?_
  refine r_list ?_
  refine wl rfl (ky (v := .agg #[v1]) hS (y_load hS rfl ty26 2 rfl id (us := [v1]) rfl rfl (fun h => by cases h)) rfl rfl fun a hS => ?_)
  obtain ⟨u71, hu71, hM⟩ := bd hM
  refine wl rfl (k_call hS ci49 rfl rfl (ref32_Copy_c _ _ hS.dlt d_0 _ (hS.get 0 rfl) _ hu71) fun _ w hR a hk hA => ?_)
  obtain ⟨vz72_2, clz72_3, he, ⟨hOvz72_2, hFvz72_2, hRvz72_2⟩⟩ := hR
  replace he := he.symm
  subst he
  have hS := hA [.own vz72_2 28 R_KeyD.size clz72_3] (adds1 ⟨hOvz72_2, by decide⟩ hFvz72_2) (pw1 _)
  replace hS := hS.fact (RowsF R_KeyD clz72_3 u71.Keys) (hRvz72_2.keep (Kt.refl _ _) (dT_dT _))
  refine wl rfl (k_store hS rfl rfl (us := [vz72_2]) rfl ty26 3 rfl rfl rfl (oc (own_one (hS.own _ (List.mem_of_getElem? (i := 0) rfl)).1) on) fun w hk hS => ?_)
  refine wpList_nil ?_
  try simp only [Exit.then, Exit.inBlock, ↓reduceIte, Nat.reduceEqDiff]
  refine hK9 _ _ ?_
  refine wp_seq_k fun K10 hK10 => ?_
  refine r_list ?_
  refine wl rfl (ky (v := .pointer (some ⟨b62, 0 + 0, none⟩)) hS (y_fld hS rfl fl26_0) rfl rfl fun a hS => ?_)
  refine wl rfl (ky (v := vz72_2) hS (y_load hS rfl ty24 3 rfl id (us := [vz72_2]) rfl rfl (fun _ => rfl)) rfl rfl fun a hS => ?_)
  refine wl rfl (ky (v := .int .i64 (u71.Keys.length : Int)) hS (y_leno (R := R_KeyD) (xs := u71.Keys) hS sl24 rfl 0 rfl 0 rfl) rfl rfl fun a hS => ?_)
  refine wl rfl (ky (v := .int .i64 (u71.Keys.length : Int)) hS (y_assign hS rfl) rfl rfl fun a hS => ?_)
  refine wpList_nil ?_
  try simp only [Exit.then, Exit.inBlock, ↓reduceIte, Nat.reduceEqDiff]
  refine hK10 _ _ ?_
  refine wp_seq_k fun K11 hK11 => ?_
  refine wp_seq_k fun K12 hK12 => ?_
  refine r_list ?_
  refine wl rfl (ky (v := .int .i64 (u71.Keys.length : Int)) hS (y_move hS rfl) rfl rfl fun a hS => ?_)
  refine wl rfl (ky (v := .bool (((u71.Keys.length : Int) : Int) == 0)) hS (y_int hS rfl rfl rfl) rfl rfl fun a hS => ?_)
  refine wpList_nil ?_
  try simp only [Exit.then, Exit.inBlock, ↓reduceIte, Nat.reduceEqDiff]
  refine hK12 _ _ ?_
  rcases bool2 (((u71.Keys.length : Int) : Int) == 0) with hb74 | hb74
  · replace hM := ct hb74 hM
    refine c_t hS rfl hb74 ?_
    refine wp_seq_k fun K13 hK13 => ?_
    refine r_list ?_
    refine wl rfl (ky (v := .agg #[vz72_2]) hS (y_load hS rfl ty26 3 rfl id (us := [vz72_2]) rfl rfl (fun h => by cases h)) rfl rfl fun a hS => ?_)
    refine wl rfl (ky (v := .agg #[.int .i64 0, .string (ByteArray.mk #[])]) hS (y_build (ps := []) hS pl28 ze28 rfl (us := []) trivial (ws := [.int .i64 0, .string (ByteArray.mk #[])]) rfl) rfl rfl fun a hS => ?_)
    refine wl rfl (k_store hS rfl rfl (us := [vz72_2]) rfl ty26 2 rfl rfl rfl (oc (own_one (hS.own _ (List.mem_of_getElem? (i := 0) rfl)).1) on) fun w hk hS => ?_)
    refine wl rfl (k_store hS rfl rfl (us := [.int .i64 0, .string (ByteArray.mk #[])]) rfl ty28 1 rfl rfl rfl (oc rfl (oc rfl on)) fun w hk hS => ?_)
    refine wl rfl (ky (v := .bool false) hS (y_assign hS rfl) rfl rfl fun a hS => ?_)
    refine wpList_nil ?_
    try simp only [Exit.then, Exit.inBlock, ↓reduceIte, Nat.reduceEqDiff]
    refine hK13 _ _ ?_
    refine wp_ret ?_
    replace hS := hS.freeze (R := R_KeyD) 0 rfl 0 rfl
    injection hM with hM
    subst hM
    try simp only [Exit.then, Exit.inBlock, ↓reduceIte, Nat.reduceEqDiff]
    refine ret_ok hS Tryd.results22 (res_cell hS rfl 1 rfl ty26 rfl (fun h => by cases h) (res_cell hS rfl 0 rfl ty28 rfl (fun h => by cases h) (res_tmp hS rfl res_nil))) ?_
    exact ⟨vz72_2, rfl, (SlR.up trivial (hS.get 0 rfl))⟩
  · replace hM := cf hb74 hM
    refine c_f hS rfl hb74 ?_
    refine wp_skip ?_
    try simp only [Exit.then, Exit.inBlock, ↓reduceIte, Nat.reduceEqDiff]
    refine hK11 _ _ ?_
    refine wp_seq_k fun K14 hK14 => ?_
    refine draws [(12, .blk (some b65)), (13, .blk (some b68))] hS mixed rfl (fun c a d v w h => by cases d <;> exact h) fun w hQ hS => ?_
    refine dy 0 (v := .pointer (some ⟨b62, 0 + 0, none⟩)) rfl (by kernel_rfl) (by kernel_rfl) (by kernel_rfl) rfl hQ hS (y_fld hS rfl fl26_0) rfl rfl rfl fun a hS => ?_
    refine dy (l := []) 1 (v := vz72_2) rfl (by kernel_rfl) (by kernel_rfl) (by kernel_rfl) (by kernel_rfl) hQ hS (y_load hS rfl ty24 3 rfl eo_nil (us := [vz72_2]) rfl rfl (fun _ => rfl)) rfl rfl rfl fun a hS => ?_
    refine dy 2 (v := .int .i64 (u71.Keys.length : Int)) rfl (by kernel_rfl) (by kernel_rfl) (by kernel_rfl) rfl hQ hS (y_move hS rfl) rfl rfl rfl fun a hS => ?_
    refine dy 3 (v := .int .i64 (IntKind.i64.wrap ((u71.Keys.length : Int) - 1))) rfl (by kernel_rfl) (by kernel_rfl) (by kernel_rfl) rfl hQ hS (y_int hS rfl rfl rfl) rfl rfl rfl fun a hS => ?_
    obtain ⟨l111, hl111, hM⟩ := bd hM
    obtain ⟨v112, hv113, hy114⟩ := d_view (R := R_KeyD) hS sl24 ty28 0 rfl 0 rfl hl111
    refine dy 4 (v := v112) rfl (by kernel_rfl) (by kernel_rfl) (by kernel_rfl) rfl hQ hS (hy114 (k1 := .i64) rfl (.inr ⟨rfl, rfl⟩) (.inl ⟨_, rfl, rfl⟩)) rfl rfl rfl fun a hS => ?_
    replace hS := hS.freeze (R := R_KeyD) 0 rfl 0 rfl
    replace hS := hS.fact (SlF R_KeyD v112 l111) (hv113 _ _ (hS.get 0 rfl))
    refine dy 5 (v := .agg #[v112]) rfl (by kernel_rfl) (by kernel_rfl) (by kernel_rfl) rfl hQ hS (y_build (ps := [(0, .tmp 19)]) hS pl26 ze26 rfl (us := [[v112]]) ⟨(cells1 (SlR.one ((hS.get 0 rfl) : SlR R_KeyD _ _ _ _))), trivial⟩ (ws := [v112]) rfl) rfl rfl rfl fun a hS => ?_
    refine dy 6 (v := .pointer (some ⟨b62, 0 + 0, none⟩)) rfl (by kernel_rfl) (by kernel_rfl) (by kernel_rfl) rfl hQ hS (y_fld hS rfl fl26_0) rfl rfl rfl fun a hS => ?_
    refine dy (l := [.blk (some b65)]) 7 (v := vz72_2) rfl (by kernel_rfl) (by kernel_rfl) (by kernel_rfl) (by kernel_rfl) hQ hS (y_load hS rfl ty24 2 rfl (eo_ne hS 2 rfl rfl 1 rfl rfl (by decide) eo_nil) (us := [vz72_2]) rfl rfl (fun _ => rfl)) rfl rfl rfl fun a hS => ?_
    refine dy 8 (v := .int .i64 (u71.Keys.length : Int)) rfl (by kernel_rfl) (by kernel_rfl) (by kernel_rfl) rfl hQ hS (y_move hS rfl) rfl rfl rfl fun a hS => ?_
    refine dy 9 (v := .int .i64 (IntKind.i64.wrap ((u71.Keys.length : Int) - 1))) rfl (by kernel_rfl) (by kernel_rfl) (by kernel_rfl) rfl hQ hS (y_int hS rfl rfl rfl) rfl rfl rfl fun a hS => ?_
    obtain ⟨e116, he116, hM⟩ := bd hM
    obtain ⟨b117, o118, cs120, hr119, hy122, hS⟩ := d_index (R := R_KeyD) hS sl24 ty28 1 rfl he116
    obtain rfl := hr119
    refine dy 10 (v := .pointer (some ⟨b117, o118, none⟩)) rfl (by kernel_rfl) (by kernel_rfl) (by kernel_rfl) rfl hQ hS (hy122 rfl rfl) rfl rfl rfl fun a hS => ?_
    refine dy (l := [.blk (some b65)]) 11 (v := .agg #[.int .i64 e116.Kind, .string e116.Text]) rfl (by kernel_rfl) (by kernel_rfl) (by kernel_rfl) (by kernel_rfl) hQ hS (y_loadc (k := 0) hS ty28 0 rfl rfl (es_in 1 rfl rfl es_nil) (us := [.int .i64 e116.Kind, .string e116.Text]) rfl rfl (fun h => by cases h)) rfl rfl rfl fun a hS => ?_
    refine wpE_one (i := 12) rfl (by kernel_rfl) rfl (k_store hS rfl rfl (us := [v112]) rfl ty26 1 rfl rfl rfl (oc (SlR.one ((hS.get 1 rfl) : SlR R_KeyD _ _ _ _)) on) fun w hk hS => ⟨stM rfl hk etBox, ?_⟩)
    refine wpE_one (i := 13) rfl (by kernel_rfl) rfl (k_store hS rfl rfl (us := [.int .i64 e116.Kind, .string e116.Text]) rfl ty28 0 rfl rfl rfl (oc rfl (oc rfl on)) fun w hk hS => ⟨stM rfl hk etBox, ?_⟩)
    refine dy 14 (v := .bool true) rfl (by kernel_rfl) (by kernel_rfl) (by kernel_rfl) rfl hQ hS (y_assign hS rfl) rfl rfl rfl fun a hS => ?_
    refine wpE_done (by kernel_rfl) ?_ _
    try simp only [Exit.then, Exit.inBlock, ↓reduceIte, Nat.reduceEqDiff]
    refine hK14 _ _ ?_
    refine wp_ret ?_
    injection hM with hM
    subst hM
    try simp only [Exit.then, Exit.inBlock, ↓reduceIte, Nat.reduceEqDiff]
    refine ret_ok hS Tryd.results22 (res_cell hS rfl 1 rfl ty26 rfl (fun h => by cases h) (res_cell hS rfl 0 rfl ty28 rfl (fun h => by cases h) (res_tmp hS rfl res_nil))) ?_
    exact ⟨v112, rfl, (SlR.up trivial (hS.get 1 rfl))⟩

noncomputable def ref32_Steal (d_0 : DequeD) : Option (DequeD × KeyD × Bool) := (ref32_Copy d_0).bind fun u71 => cond (((u71.Keys.length : Int) : Int) == 0) (some ((u71, (KeyD.mk 0 (ByteArray.mk #[])), false))) ((subI u71.Keys 1 u71.Keys.length).bind fun l111 => (getI u71.Keys 0).bind fun e116 => some (((DequeD.mk l111), e116, true)))
set_option maxRecDepth 100000 in
set_option maxHeartbeats 4000000 in
theorem ref32_Steal_c (T : Nat → Prop) (W0 : World) (hT : ∀ k, T k → k < W0.heap.size) (d_0 : DequeD) (v1 : Value) (hv1 : SlR R_KeyD T W0 v1 d_0.Keys) (y : DequeD × KeyD × Bool) (hM : ref32_Steal d_0 = some y) : Rets Tryd.prog No 23 [.agg #[v1]] W0 (fun v w' => ∃ (v2 : Value), v = .tuple #[.agg #[v2], .agg #[.int .i64 y.2.1.Kind, .string y.2.1.Text], .bool y.2.2] ∧ SlR R_KeyD (dT T []) w' v2 y.1.Keys) := by
  refine enter (c := _) Tryd.func23 rfl T 21 Tryd.ntmps23 hT rfl fun a hS => ?_
  replace hS := hS.fact (SlF R_KeyD v1 d_0.Keys) (SlR.dn hv1)
  unfold ref32_Steal at hM
  refine wp_seq_k fun K7 hK7 => ?_
  refine r_list ?_
  refine wl rfl (k_box hS rfl (cs := [v1]) rfl rfl fun b62 hnb64 a w hk hS => ?_)
  refine wl rfl (k_alloc hS ze26 rfl fun b65 hnb67 a w hk hS => ?_)
  refine wl rfl (k_alloc hS ze28 rfl fun b68 hnb70 a w hk hS => ?_)
  refine wl rfl (ky (v := .bool false) hS (y_assign hS rfl) rfl rfl fun a hS => ?_)
  refine wpList_nil ?_
  try simp only [Exit.then, Exit.inBlock, ↓reduceIte, Nat.reduceEqDiff]
  refine hK7 _ _ ?_
  refine wp_seq_k fun K8 hK8 => ?_
  refine r_list ?_
  refine wl rfl (ky (v := .agg #[v1]) hS (y_load hS rfl ty26 2 rfl id (us := [v1]) rfl rfl (fun h => by cases h)) rfl rfl fun a hS => ?_)
  obtain ⟨u71, hu71, hM⟩ := bd hM
  refine wl rfl (k_call hS ci49 rfl rfl (ref32_Copy_c _ _ hS.dlt d_0 _ (hS.get 0 rfl) _ hu71) fun _ w hR a hk hA => ?_)
  obtain ⟨vz72_2, clz72_3, he, ⟨hOvz72_2, hFvz72_2, hRvz72_2⟩⟩ := hR
  replace he := he.symm
  subst he
  have hS := hA [.own vz72_2 28 R_KeyD.size clz72_3] (adds1 ⟨hOvz72_2, by decide⟩ hFvz72_2) (pw1 _)
  replace hS := hS.fact (RowsF R_KeyD clz72_3 u71.Keys) (hRvz72_2.keep (Kt.refl _ _) (dT_dT _))
  refine wl rfl (k_store hS rfl rfl (us := [vz72_2]) rfl ty26 3 rfl rfl rfl (oc (own_one (hS.own _ (List.mem_of_getElem? (i := 0) rfl)).1) on) fun w hk hS => ?_)
  refine wpList_nil ?_
  try simp only [Exit.then, Exit.inBlock, ↓reduceIte, Nat.reduceEqDiff]
  refine hK8 _ _ ?_
  refine wp_seq_k fun K9 hK9 => ?_
  refine wp_seq_k fun K10 hK10 => ?_
  refine r_list ?_
  refine wl rfl (ky (v := .pointer (some ⟨b62, 0 + 0, none⟩)) hS (y_fld hS rfl fl26_0) rfl rfl fun a hS => ?_)
  refine wl rfl (ky (v := vz72_2) hS (y_load hS rfl ty24 3 rfl id (us := [vz72_2]) rfl rfl (fun _ => rfl)) rfl rfl fun a hS => ?_)
  refine wl rfl (ky (v := .int .i64 (u71.Keys.length : Int)) hS (y_leno (R := R_KeyD) (xs := u71.Keys) hS sl24 rfl 0 rfl 0 rfl) rfl rfl fun a hS => ?_)
  refine wl rfl (ky (v := .bool (((u71.Keys.length : Int) : Int) == 0)) hS (y_int hS rfl rfl rfl) rfl rfl fun a hS => ?_)
  refine wpList_nil ?_
  try simp only [Exit.then, Exit.inBlock, ↓reduceIte, Nat.reduceEqDiff]
  refine hK10 _ _ ?_
  rcases bool2 (((u71.Keys.length : Int) : Int) == 0) with hb74 | hb74
  · replace hM := ct hb74 hM
    refine c_t hS rfl hb74 ?_
    refine wp_seq_k fun K11 hK11 => ?_
    refine r_list ?_
    refine wl rfl (ky (v := .agg #[vz72_2]) hS (y_load hS rfl ty26 3 rfl id (us := [vz72_2]) rfl rfl (fun h => by cases h)) rfl rfl fun a hS => ?_)
    refine wl rfl (ky (v := .agg #[.int .i64 0, .string (ByteArray.mk #[])]) hS (y_build (ps := []) hS pl28 ze28 rfl (us := []) trivial (ws := [.int .i64 0, .string (ByteArray.mk #[])]) rfl) rfl rfl fun a hS => ?_)
    refine wl rfl (k_store hS rfl rfl (us := [vz72_2]) rfl ty26 2 rfl rfl rfl (oc (own_one (hS.own _ (List.mem_of_getElem? (i := 0) rfl)).1) on) fun w hk hS => ?_)
    refine wl rfl (k_store hS rfl rfl (us := [.int .i64 0, .string (ByteArray.mk #[])]) rfl ty28 1 rfl rfl rfl (oc rfl (oc rfl on)) fun w hk hS => ?_)
    refine wl rfl (ky (v := .bool false) hS (y_assign hS rfl) rfl rfl fun a hS => ?_)
    refine wpList_nil ?_
    try simp only [Exit.then, Exit.inBlock, ↓reduceIte, Nat.reduceEqDiff]
    refine hK11 _ _ ?_
    refine wp_ret ?_
    replace hS := hS.freeze (R := R_KeyD) 0 rfl 0 rfl
    injection hM with hM
    subst hM
    try simp only [Exit.then, Exit.inBlock, ↓reduceIte, Nat.reduceEqDiff]
    refine ret_ok hS Tryd.results23 (res_cell hS rfl 1 rfl ty26 rfl (fun h => by cases h) (res_cell hS rfl 0 rfl ty28 rfl (fun h => by cases h) (res_tmp hS rfl res_nil))) ?_
    exact ⟨vz72_2, rfl, (SlR.up trivial (hS.get 0 rfl))⟩
  · replace hM := cf hb74 hM
    refine c_f hS rfl hb74 ?_
    refine wp_skip ?_
    try simp only [Exit.then, Exit.inBlock, ↓reduceIte, Nat.reduceEqDiff]
    refine hK9 _ _ ?_
    refine wp_seq_k fun K12 hK12 => ?_
    refine draws [(8, .blk (some b65)), (9, .blk (some b68))] hS mixed rfl (fun c a d v w h => by cases d <;> exact h) fun w hQ hS => ?_
    refine dy 0 (v := .pointer (some ⟨b62, 0 + 0, none⟩)) rfl (by kernel_rfl) (by kernel_rfl) (by kernel_rfl) rfl hQ hS (y_fld hS rfl fl26_0) rfl rfl rfl fun a hS => ?_
    refine dy (l := []) 1 (v := vz72_2) rfl (by kernel_rfl) (by kernel_rfl) (by kernel_rfl) (by kernel_rfl) hQ hS (y_load hS rfl ty24 3 rfl eo_nil (us := [vz72_2]) rfl rfl (fun _ => rfl)) rfl rfl rfl fun a hS => ?_
    obtain ⟨l111, hl111, hM⟩ := bd hM
    obtain ⟨v112, hv113, hy114⟩ := d_view (R := R_KeyD) hS sl24 ty28 0 rfl 0 rfl hl111
    refine dy 2 (v := v112) rfl (by kernel_rfl) (by kernel_rfl) (by kernel_rfl) rfl hQ hS (hy114 (k2 := .i64) rfl (.inl ⟨_, rfl, rfl⟩) (.inr ⟨rfl, rfl⟩)) rfl rfl rfl fun a hS => ?_
    replace hS := hS.freeze (R := R_KeyD) 0 rfl 0 rfl
    replace hS := hS.fact (SlF R_KeyD v112 l111) (hv113 _ _ (hS.get 0 rfl))
    refine dy 3 (v := .agg #[v112]) rfl (by kernel_rfl) (by kernel_rfl) (by kernel_rfl) rfl hQ hS (y_build (ps := [(0, .tmp 15)]) hS pl26 ze26 rfl (us := [[v112]]) ⟨(cells1 (SlR.one ((hS.get 0 rfl) : SlR R_KeyD _ _ _ _))), trivial⟩ (ws := [v112]) rfl) rfl rfl rfl fun a hS => ?_
    refine dy 4 (v := .pointer (some ⟨b62, 0 + 0, none⟩)) rfl (by kernel_rfl) (by kernel_rfl) (by kernel_rfl) rfl hQ hS (y_fld hS rfl fl26_0) rfl rfl rfl fun a hS => ?_
    refine dy (l := [.blk (some b65)]) 5 (v := vz72_2) rfl (by kernel_rfl) (by kernel_rfl) (by kernel_rfl) (by kernel_rfl) hQ hS (y_load hS rfl ty24 2 rfl (eo_ne hS 2 rfl rfl 1 rfl rfl (by decide) eo_nil) (us := [vz72_2]) rfl rfl (fun _ => rfl)) rfl rfl rfl fun a hS => ?_
    obtain ⟨e116, he116, hM⟩ := bd hM
    obtain ⟨b117, o118, cs120, hr119, hy122, hS⟩ := d_index (R := R_KeyD) hS sl24 ty28 1 rfl he116
    obtain rfl := hr119
    refine dy 6 (v := .pointer (some ⟨b117, o118, none⟩)) rfl (by kernel_rfl) (by kernel_rfl) (by kernel_rfl) rfl hQ hS (hy122 rfl rfl) rfl rfl rfl fun a hS => ?_
    refine dy (l := [.blk (some b65)]) 7 (v := .agg #[.int .i64 e116.Kind, .string e116.Text]) rfl (by kernel_rfl) (by kernel_rfl) (by kernel_rfl) (by kernel_rfl) hQ hS (y_loadc (k := 0) hS ty28 0 rfl rfl (es_in 1 rfl rfl es_nil) (us := [.int .i64 e116.Kind, .string e116.Text]) rfl rfl (fun h => by cases h)) rfl rfl rfl fun a hS => ?_
    refine wpE_one (i := 8) rfl (by kernel_rfl) rfl (k_store hS rfl rfl (us := [v112]) rfl ty26 1 rfl rfl rfl (oc (SlR.one ((hS.get 1 rfl) : SlR R_KeyD _ _ _ _)) on) fun w hk hS => ⟨stM rfl hk etBox, ?_⟩)
    refine wpE_one (i := 9) rfl (by kernel_rfl) rfl (k_store hS rfl rfl (us := [.int .i64 e116.Kind, .string e116.Text]) rfl ty28 0 rfl rfl rfl (oc rfl (oc rfl on)) fun w hk hS => ⟨stM rfl hk etBox, ?_⟩)
    refine dy 10 (v := .bool true) rfl (by kernel_rfl) (by kernel_rfl) (by kernel_rfl) rfl hQ hS (y_assign hS rfl) rfl rfl rfl fun a hS => ?_
    refine wpE_done (by kernel_rfl) ?_ _
    try simp only [Exit.then, Exit.inBlock, ↓reduceIte, Nat.reduceEqDiff]
    refine hK12 _ _ ?_
    refine wp_ret ?_
    injection hM with hM
    subst hM
    try simp only [Exit.then, Exit.inBlock, ↓reduceIte, Nat.reduceEqDiff]
    refine ret_ok hS Tryd.results23 (res_cell hS rfl 1 rfl ty26 rfl (fun h => by cases h) (res_cell hS rfl 0 rfl ty28 rfl (fun h => by cases h) (res_tmp hS rfl res_nil))) ?_
    exact ⟨v112, rfl, (SlR.up trivial (hS.get 1 rfl))⟩
end Go.Proofs.YtappkgmbdoiocaaDoor
