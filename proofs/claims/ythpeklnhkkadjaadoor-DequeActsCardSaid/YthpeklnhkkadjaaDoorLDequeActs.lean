/-
  The statement DequeActs: for every input the law returns true. The contract is carried over to the given row; the tied card is closed.
-/
import Derived.Test.YthpeklnhkkadjaaDoorZ4
import Derived.Test.YthpeklnhkkadjaaDoorD3
import Derived.Test.YthpeklnhkkadjaaDoorR
import Derived.Test.YthpeklnhkkadjaaDoorT
import Derived.Test.YthpeklnhkkadjaaDoorRows
import Derived.Test.YthpeklnhkkadjaaDoorTie
import Derived.Test.YthpeklnhkkadjaaDoorCards
import Derived.ProofKit
import Derived.OpenShut
import Derived.ShutString
import Derived.ChangeOld
import Derived.SizedLaws
import Derived.Deep.Slices
import Derived.Lib.SmallJoins
import Derived.LaidMore
import Derived.SevenTiedAt
import Derived.Stop.Joined
set_option linter.unusedVariables false
namespace Go.Proofs.YthpeklnhkkadjaaDoor.dequeActs
open Go.ChangeShapes Go.WideShapes Go.ChangeAt Go.RowKit Go.Deep Go.Joins
open Go.ChangeMaps (open_string shut_string)

theorem opn_KeyD : Opn Tryd.prog 26 R_KeyD (fun x => ((Lit.int .i64 x.Kind).wf = true ∧ x.Text.size ≤ 140737488355328 ∧ True)) :=
  Opn.via (Opn.struct Tryd.underlying26 (by kernel_rfl) (OpnF.cons (Opn.int Tryd.underlying3) rfl (by kernel_rfl) (OpnF.cons (Opn.str Tryd.underlying9) rfl (by kernel_rfl) (OpnF.nil _)))) (fun x => KeyD.mk x.1 x.2.1) (by
    rintro T w cs x ⟨c0, d0, rfl, rfl, ⟨c1, d1, rfl, rfl, rfl⟩⟩
    exact rfl) (fun x h => h)
theorem opn_DequeD : Opn Tryd.prog 24 R_DequeD (fun x => (((∀ x6 ∈ x.Keys, ((Lit.int .i64 x6.Kind).wf = true ∧ x6.Text.size ≤ 140737488355328 ∧ True)) ∧ x.Keys.length * Tryd.prog.bytesOf 26 ≤ reachBytes ∧ x.Keys.length ≤ maxLen) ∧ True)) :=
  Opn.via (Opn.struct Tryd.underlying24 (by kernel_rfl) (OpnF.cons (Opn.slice Tryd.underlying22 (by kernel_rfl) (by decide) opn_KeyD) rfl (by kernel_rfl) (OpnF.nil _))) (fun x => DequeD.mk x.1) (by
    rintro T w cs x ⟨c0, d0, rfl, ⟨v0, rfl, hv0⟩, rfl⟩
    exact ⟨v0, rfl, hv0⟩) (fun x h => h)
abbrev laidL : List (String × DataW Unit) := Rows.dequeActsRow.laid
theorem laidOut : laidOutB Tryd.prog = true := by kernel_rfl
theorem met (os : Os) (args : Array Value) : laidMetH Tryd.prog laidL ((World.doorLaid Tryd.prog 400 os).forCall (fun _ _ => 0) ⟨#[], args, []⟩).memory :=
  laidMetH_of_parts3 (fuel := 8) (laidMet_of_run' 8 (by kernel_rfl) (by kernel_rfl)) (by kernel_rfl) (by kernel_rfl)
set_option maxRecDepth 100000 in
theorem lifted (os : Os) (started : os.Started) (H : Type) (enc : TypeId × Value → H) :
    ReturnsInHanded {} Tryd.checked os 3 .any (fun w args => (Rows.dequeActsSpec.pre enc Tryd.prog Tryd.f3 [] false w args ∧ laidMetH Tryd.prog laidL w) ∧ sizedMet enc Tryd.prog Tryd.f3 (OpenSpec.ofChange Rows.dequeActsSpec) false w args)
      (Rows.dequeActsSpec.post enc Tryd.prog Tryd.f3 false true false false) := by
  refine returnsInHanded_of_change_and (C := Tryd.checked) (X := fun w _ => laidMetH Tryd.prog laidL w) (fun _ _ _ hh h => h.of_heap hh) ownK started (by kernel_rfl) Tryd.func3
    (ChangeSpec.witness_shaped (enc := enc) (C := Tryd.checked) (os := os) (X := fun w _ => laidMetH Tryd.prog laidL w) false (World.doorLaid Tryd.prog 400 os) #[.agg #[.slice none 0 0], .slice none 0 0, .agg #[.int .i64 0, .string ByteArray.empty], .int .i64 0, .int .i64 0] 8 rfl (World.shaped_of_RefB (by kernel_rfl) (by kernel_rfl)) (by kernel_rfl) (by kernel_rfl) (by kernel_rfl) (met os _)) ?_
  intro W base args ds gs before hval0 hW hcnd hsz0 hL hholds
  have hval : ∀ (j : Nat) t v, Tryd.f3.params[j]? = some t → args[j]? = some v → Value.okWide Tryd.prog W .any base t v := hval0
  have hsz : (DataW.weightsEach Tryd.prog (Tryd.f3.params.toList ++ Rows.dequeActsSpec.plain.varTypes Tryd.prog) (ds ++ gs)).all (· ≤ reachBytes) = true := hsz0
  have hW' := hW
  obtain ⟨p, q, hA0, hV, rfl, hfz, hnd⟩ := hW
  have hA : DataW.TrodAll enc Tryd.prog W 0 (fun _ => true) true Tryd.f3.params.toList args.toList ds p := hA0
  rw [Tryd.params3] at hA hval hsz
  obtain ⟨v0, vs0, d0, ds0, p0, q0, hargs, rfl, rfl, h0, r0⟩ := trodAll_cons hA
  obtain ⟨v1, vs1, d1, ds1, p1, q1, rfl, rfl, rfl, h1, r1⟩ := trodAll_cons r0
  obtain ⟨v2, vs2, d2, ds2, p2, q2, rfl, rfl, rfl, h2, r2⟩ := trodAll_cons r1
  obtain ⟨v3, vs3, d3, ds3, p3, q3, rfl, rfl, rfl, h3, r3⟩ := trodAll_cons r2
  obtain ⟨v4, vs4, d4, ds4, p4, q4, rfl, rfl, rfl, h4, r4⟩ := trodAll_cons r3
  obtain ⟨rfl, rfl, rfl⟩ := trodAll_nil r4
  obtain rfl : args = #[v0, v1, v2, v3, v4] := by cases args; simp_all
  obtain ⟨rfl, rfl⟩ := trodVars_none hV
  have k0 := h0
  have lt0 : ∀ x ∈ p0, x.block < W.heap.size := by obtain ⟨m, hm⟩ := k0; exact DataW.trod_lt m _ _ _ hm
  have k1 := h1
  have lt1 : ∀ x ∈ p1, x.block < W.heap.size := by obtain ⟨m, hm⟩ := k1; exact DataW.trod_lt m _ _ _ hm
  have k2 := h2
  have lt2 : ∀ x ∈ p2, x.block < W.heap.size := by obtain ⟨m, hm⟩ := k2; exact DataW.trod_lt m _ _ _ hm
  have k3 := h3
  have lt3 : ∀ x ∈ p3, x.block < W.heap.size := by obtain ⟨m, hm⟩ := k3; exact DataW.trod_lt m _ _ _ hm
  have k4 := h4
  have lt4 : ∀ x ∈ p4, x.block < W.heap.size := by obtain ⟨m, hm⟩ := k4; exact DataW.trod_lt m _ _ _ hm
  obtain ⟨cs0, x0, rfl, y0, q0⟩ := Opn.argS opn_DequeD Tryd.underlying24 hsz (j0 := 0) rfl rfl (hval 0 24 v0 rfl rfl) h0
  obtain ⟨u0_0, rfl, s0_0⟩ := y0
  obtain ⟨x1, s1, q1⟩ := Opn.arg (Opn.slice Tryd.underlying22 (by kernel_rfl) (by decide) opn_KeyD) Tryd.underlying22 hsz (j0 := 1) rfl rfl (hval 1 22 v1 rfl rfl) h1
  obtain ⟨cs2, x2, rfl, y2, q2⟩ := Opn.argS opn_KeyD Tryd.underlying26 hsz (j0 := 2) rfl rfl (hval 2 26 v2 rfl rfl) h2
  obtain rfl := y2
  obtain ⟨x3, rfl, rfl, rfl, q3⟩ := open_int Tryd.underlying3 (hval 3 3 v3 rfl rfl) h3
  obtain ⟨x4, rfl, rfl, rfl, q4⟩ := open_int Tryd.underlying3 (hval 4 3 v4 rfl rfl) h4
  clear hA0 hval0
  have hLv : LvP No W := (lv_of hL (by kernel_rfl) (List.mem_iff_getElem?.2 ⟨2, rfl⟩) (List.mem_iff_getElem?.2 ⟨4, rfl⟩) (List.mem_iff_getElem?.2 ⟨3, rfl⟩)).here
  have hM : law32_DequeActs x0 x1 x2 x3 x4 = some true := dequeActs_pure x0 x1 x2 x3 x4 (fun s h => (q0.1.1 s h).2.1) (fun s h => (q1.1 s h).2.1) q2.2.1
  refine Calls.mono (law32_DequeActs_c No W (fun _ h => h.elim) hLv x0 x1 x2 x3 x4 _ _ s0_0 s1 true hM) fun e W' ⟨v, he, hk, hv⟩ => ?_
  subst he hv
  have bel : Below W.heap.size W W' := hk.below
  exact ⟨_, rfl, _, _, _, [], _, [], hW', trodAll_mk1 (shut_bool Tryd.underlying4 _), (trodAll_cons_mk (Below.trod laidOut (by kernel_rfl) (of_decide_eq_true (by kernel_rfl)) k0 bel lt0) (trodAll_cons_mk (Below.trod laidOut (by kernel_rfl) (of_decide_eq_true (by kernel_rfl)) k1 bel lt1) (trodAll_cons_mk (Below.trod laidOut (by kernel_rfl) (of_decide_eq_true (by kernel_rfl)) k2 bel lt2) (trodAll_cons_mk (Below.trod laidOut (by kernel_rfl) (of_decide_eq_true (by kernel_rfl)) k3 bel lt3) (trodAll_cons_mk (Below.trod laidOut (by kernel_rfl) (of_decide_eq_true (by kernel_rfl)) k4 bel lt4) trodAll_mk0))))), rfl, bel.frame _, fun h => by cases h⟩
theorem over : Rows.dequeActsRow.holds Tryd.pinned (OpenSpec.ofChange Rows.dequeActsSpec) :=
  OpenClaim.holds_of_wide 3 Tryd.f3 rfl rfl rfl rfl rfl rfl rfl ⟨rfl, rfl, rfl, rfl, rfl⟩ rfl rfl rfl rfl rfl (by kernel_rfl) Tryd.func3 (by kernel_rfl)
    (of_decide_eq_true (by kernel_rfl)) (by unfold Func.isWrapper; first | (rw [if_pos (by decide +kernel)]; kernel_rfl) | (rw [if_neg (by decide +kernel)]; exact ⟨rfl, rfl⟩))
    (fun os started H enc _ => lifted os started H enc)
theorem proved : Rows.DequeActsCardSaid :=
  Claim7.holds_tied_plain_at .later [] [.data, .data, .data, .sentinel, .sentinel] true (true, "8d34848ac95b1780baab09a111e8a362f869cdea9fe53e6530b385570a7a79c1") true
    over (fun _ h => by cases h) (by kernel_rfl) (fun _ h => by cases h) dequeActs_row_tie rfl ⟨rfl, rfl⟩ (by kernel_rfl) rfl
    (fun f fn hf hfn => by
      obtain rfl : f = 3 := Option.some.inj ((show Tryd.prog.funcNamed "recompile/recompilelaw32.DequeActs" = some 3 by kernel_rfl).symm.trans hf) |>.symm
      obtain rfl : fn = Tryd.f3 := (Option.some.inj (Tryd.func3.symm.trans hfn)).symm
      exact ⟨by kernel_rfl, fun j t ht => by
        rw [Tryd.params3] at ht
        have hm : t ∈ [24, 22, 26, 3, 3] := by simpa using Array.mem_of_getElem? ht
        have hall : ([24, 22, 26, 3, 3].all fun u => !Tryd.prog.wantsStandIn u) = true := by kernel_rfl
        exact (show Tryd.prog.wantsStandIn t = false by simpa using List.all_eq_true.1 hall t hm)⟩)
    (by kernel_rfl)
end Go.Proofs.YthpeklnhkkadjaaDoor.dequeActs
