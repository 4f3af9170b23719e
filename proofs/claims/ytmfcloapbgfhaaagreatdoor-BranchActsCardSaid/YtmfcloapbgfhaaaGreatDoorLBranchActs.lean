/- A part of the proof. -/
import Derived.Test.YtmfcloapbgfhaaaGreatDoorA7
import Derived.Test.YtmfcloapbgfhaaaGreatDoorA6
import Derived.Test.YtmfcloapbgfhaaaGreatDoorRows
import Derived.Test.YtmfcloapbgfhaaaGreatDoorTi
import Derived.Test.YtmfcloapbgfhaaaGreatDoorCards
import Derived.Test.YtmfcloapbgfhaaaGreatDoorJBranchActs
import Derived.ProofKit
import Derived.OpenShut
import Derived.ShutString
import Derived.ChangeOld
import Derived.SizedLaws
import Derived.Deep.Slices
import Derived.Lib.SmallJoins
import Derived.LaidMore
import Derived.SevenTiedAt
import Derived.Stop.Joined
set_option linter.unusedVariables false
namespace Go.Proofs.YtmfcloapbgfhaaaGreatDoor.branchActs
open Go.ChangeShapes Go.WideShapes Go.ChangeAt Go.RowKit Go.Deep Go.Joins
open Go.ChangeMaps (open_string shut_string)
theorem opn_KeyD:uA Tryz.prog 44 ac (fun x=>((Lit.int .i64 x.Kind).wf=true∧x.Text.size≤140737488355328∧True)) :=
  uA.via (uA.struct Tryz.underlying44 (by kernel_rfl) (wj.cons (uA.int Tryz.underlying3) rfl (by kernel_rfl) (wj.cons (uA.str Tryz.underlying9) rfl (by kernel_rfl) (wj.nil _)))) (fun x=>ah.mk x.1 x.2.1) (by
    rintro T w cs x ⟨c0,d0,rfl,rfl,⟨c1,d1,rfl,rfl,rfl⟩⟩
    exact rfl) (fun x h=>h)
theorem opn_ChangeD:uA Tryz.prog 46 ad (fun x=>(((Lit.int .i64 x.Key.Kind).wf=true∧x.Key.Text.size≤140737488355328∧True)∧x.Value.size≤140737488355328∧True)) :=
  uA.via (uA.struct Tryz.underlying46 (by kernel_rfl) (wj.cons opn_KeyD rfl (by kernel_rfl) (wj.cons (uA.str Tryz.underlying9) rfl (by kernel_rfl) (wj.nil _)))) (fun x=>am.mk x.1 x.2.1) (by
    rintro T w cs x ⟨c0,d0,rfl,rfl,⟨c1,d1,rfl,rfl,rfl⟩⟩
    exact rfl) (fun x h=>h)
theorem opn_BranchD:uA Tryz.prog 51 aU (fun x=>(x.Name.size≤140737488355328∧((∀ x8∈x.Inputs,(((Lit.int .i64 x8.Key.Kind).wf=true∧x8.Key.Text.size≤140737488355328∧True)∧x8.Value.size≤140737488355328∧True))∧x.Inputs.length*Tryz.prog.bytesOf 46≤reachBytes∧x.Inputs.length≤maxLen)∧True)) :=
  uA.via (uA.struct Tryz.underlying51 (by kernel_rfl) (wj.cons (uA.str Tryz.underlying9) rfl (by kernel_rfl) (wj.cons (uA.slice Tryz.underlying34 (by kernel_rfl) (by decide) opn_ChangeD) rfl (by kernel_rfl) (wj.nil _)))) (fun x=>aG.mk x.1 x.2.1) (by
    rintro T w cs x ⟨c0,d0,rfl,rfl,⟨c1,d1,rfl,⟨v1,rfl,hv1⟩,rfl⟩⟩
    exact⟨v1,rfl,hv1⟩) (fun x h=>h)
abbrev laidL:List (String×DataW Unit):=Rows.branchActsRow.laid
theorem laidOut:laidOutB Tryz.prog=true:=by kernel_rfl
theorem met (os:Os) (args:Array Value):laidMetH Tryz.prog laidL ((World.doorLaid Tryz.prog 400 os).forCall (fun _ _=>0) ⟨#[],args,[]⟩).memory :=
  laidMetH_of_parts3 (fuel:=8) (laidMet_of_run' 8 (by kernel_rfl) (by kernel_rfl)) (by kernel_rfl) (by kernel_rfl)
set_option maxRecDepth 100000 in
theorem lifted (os:Os) (started:os.Started) (H:Type) (enc:TypeId×Value→H) :
    ReturnsInHanded {} Tryz.checked os 4 .any (fun w args=>(Rows.branchActsSpec.pre enc Tryz.prog Tryz.f4 [] false w args∧laidMetH Tryz.prog laidL w)∧sizedMet enc Tryz.prog Tryz.f4 (OpenSpec.ofChange Rows.branchActsSpec) false w args)
      (Rows.branchActsSpec.post enc Tryz.prog Tryz.f4 false true false false):=by
  refine returnsInHanded_of_change_and (C:=Tryz.checked) (X:=fun w _=>laidMetH Tryz.prog laidL w) (fun _ _ _ hh h=>h.of_heap hh) PU started (by kernel_rfl) Tryz.func4
    (ChangeSpec.witness_shaped (enc:=enc) (C:=Tryz.checked) (os:=os) (X:=fun w _=>laidMetH Tryz.prog laidL w) false (World.doorLaid Tryz.prog 400 os) #[.slice none 0 0,.slice none 0 0,.slice none 0 0,.int .i64 0,.int .i64 0] 8 rfl (World.shaped_of_RefB (by kernel_rfl) (by kernel_rfl)) (by kernel_rfl) (by kernel_rfl) (by kernel_rfl) (met os _)) ?_
  intro W base args ds gs before hval0 hW hcnd hsz0 hL hholds
  have hval:∀ (j:Nat) t v,Tryz.f4.params[j]? = some t→args[j]? = some v→Value.okWide Tryz.prog W .any base t v:=hval0
  have hsz:(DataW.weightsEach Tryz.prog (Tryz.f4.params.toList++Rows.branchActsSpec.plain.varTypes Tryz.prog) (ds++gs)).all (·≤reachBytes)=true:=hsz0
  have hW':=hW
  obtain⟨p,q,hA0,hV,rfl,hfz,hnd⟩:=hW
  have hA:DataW.TrodAll enc Tryz.prog W 0 (fun _=>true) true Tryz.f4.params.toList args.toList ds p:=hA0
  rw [Tryz.params4] at hA hval hsz
  obtain⟨v0,vs0,d0,ds0,p0,q0,hargs,rfl,rfl,h0,r0⟩:=trodAll_cons hA
  obtain⟨v1,vs1,d1,ds1,p1,q1,rfl,rfl,rfl,h1,r1⟩:=trodAll_cons r0
  obtain⟨v2,vs2,d2,ds2,p2,q2,rfl,rfl,rfl,h2,r2⟩:=trodAll_cons r1
  obtain⟨v3,vs3,d3,ds3,p3,q3,rfl,rfl,rfl,h3,r3⟩:=trodAll_cons r2
  obtain⟨v4,vs4,d4,ds4,p4,q4,rfl,rfl,rfl,h4,r4⟩:=trodAll_cons r3
  obtain⟨rfl,rfl,rfl⟩:=trodAll_nil r4
  obtain rfl:args=#[v0,v1,v2,v3,v4]:=by cases args; simp_all
  obtain⟨rfl,rfl⟩:=trodVars_none hV
  have k0:=h0
  have lt0:∀ x∈p0,x.block<W.heap.size:=by obtain⟨m,hm⟩:=k0; exact DataW.trod_lt m _ _ _ hm
  have k1:=h1
  have lt1:∀ x∈p1,x.block<W.heap.size:=by obtain⟨m,hm⟩:=k1; exact DataW.trod_lt m _ _ _ hm
  have k2:=h2
  have lt2:∀ x∈p2,x.block<W.heap.size:=by obtain⟨m,hm⟩:=k2; exact DataW.trod_lt m _ _ _ hm
  have k3:=h3
  have lt3:∀ x∈p3,x.block<W.heap.size:=by obtain⟨m,hm⟩:=k3; exact DataW.trod_lt m _ _ _ hm
  have k4:=h4
  have lt4:∀ x∈p4,x.block<W.heap.size:=by obtain⟨m,hm⟩:=k4; exact DataW.trod_lt m _ _ _ hm
  obtain⟨x0,s0,q0⟩:=uA.arg (uA.slice Tryz.underlying48 (by kernel_rfl) (by decide) opn_BranchD) Tryz.underlying48 hsz (j0:=0) rfl rfl (hval 0 48 v0 rfl rfl) h0
  obtain⟨x1,s1,q1⟩:=uA.arg (uA.slice Tryz.underlying34 (by kernel_rfl) (by decide) opn_ChangeD) Tryz.underlying34 hsz (j0:=1) rfl rfl (hval 1 34 v1 rfl rfl) h1
  obtain⟨x2,s2,q2⟩:=uA.arg (uA.slice Tryz.underlying22 (by kernel_rfl) (by decide) (uA.int Tryz.underlying3)) Tryz.underlying22 hsz (j0:=2) rfl rfl (hval 2 22 v2 rfl rfl) h2
  obtain⟨x3,rfl,rfl,rfl,q3⟩:=open_int Tryz.underlying3 (hval 3 3 v3 rfl rfl) h3
  obtain⟨x4,rfl,rfl,rfl,q4⟩:=open_int Tryz.underlying3 (hval 4 3 v4 rfl rfl) h4
  clear hA0 hval0
  have hLv:di No W:=(Or hL (by kernel_rfl) (List.mem_iff_getElem?.2 ⟨0,rfl⟩) (List.mem_iff_getElem?.2 ⟨3,rfl⟩) (List.mem_iff_getElem?.2 ⟨4,rfl⟩)).here
  have hM:jw x0 x1 x2 x3 x4=some true:=Jl (fun z hz c hc=>(((q0.1 z hz).2.1.1 c hc).1).2.1) (fun c hc=>((q1.1 c hc).1).2.1) x3 x4
  refine Calls.mono (ww No W (fun _ h=>h.elim) hLv x0 x1 x2 x3 x4 _ _ _ s0 s1 s2 true hM) fun e W' ⟨v,he,hk,hv⟩=>?_
  subst he hv
  have bel:Below W.heap.size W W':=hk.below
  exact⟨_,rfl,_,_,_,[],_,[],hW',trodAll_mk1 (shut_bool Tryz.underlying4 _),(trodAll_cons_mk (Below.trod laidOut (by kernel_rfl) (of_decide_eq_true (by kernel_rfl)) k0 bel lt0) (trodAll_cons_mk (Below.trod laidOut (by kernel_rfl) (of_decide_eq_true (by kernel_rfl)) k1 bel lt1) (trodAll_cons_mk (Below.trod laidOut (by kernel_rfl) (of_decide_eq_true (by kernel_rfl)) k2 bel lt2) (trodAll_cons_mk (Below.trod laidOut (by kernel_rfl) (of_decide_eq_true (by kernel_rfl)) k3 bel lt3) (trodAll_cons_mk (Below.trod laidOut (by kernel_rfl) (of_decide_eq_true (by kernel_rfl)) k4 bel lt4) trodAll_mk0))))),rfl,bel.frame _,fun h=>by cases h⟩
theorem over:Rows.branchActsRow.holds Tryz.pinned (OpenSpec.ofChange Rows.branchActsSpec) :=
  OpenClaim.holds_of_wide 4 Tryz.f4 rfl rfl rfl rfl rfl rfl rfl ⟨rfl,rfl,rfl,rfl,rfl⟩ rfl rfl rfl rfl rfl (by kernel_rfl) Tryz.func4 closed
    (of_decide_eq_true (by kernel_rfl)) (by unfold Func.isWrapper; first | (rw [if_pos (by decide +kernel)]; kernel_rfl) | (rw [if_neg (by decide +kernel)]; exact⟨rfl,rfl⟩))
    (fun os started H enc _=>lifted os started H enc)
theorem proved:Rows.BranchActsCardSaid :=
  Claim7.holds_tied_plain_at .later [] [.data, .data, .data, .sentinel, .sentinel] true (true, "f89450d0494c5b352024d9c8d6398f9bb760b3587e97ba3a37360851ba92ac83") true
    over (fun _ h=>by cases h) (by kernel_rfl) (fun _ h=>by cases h) TieO.branchActs_row_tie rfl ⟨rfl,rfl⟩ (by kernel_rfl) rfl
    (fun f fn hf hfn=>by
      obtain rfl : f = 4 := Option.some.inj ((show Tryz.prog.funcNamed "recompile/recompilelaw39.BranchActs" = some 4 by kernel_rfl).symm.trans hf) |>.symm
      obtain rfl:fn=Tryz.f4:=(Option.some.inj (Tryz.func4.symm.trans hfn)).symm
      exact⟨by kernel_rfl,fun j t ht=>by
        rw [Tryz.params4] at ht
        have hm:t∈[48,34,22,3,3]:=by simpa using Array.mem_of_getElem? ht
        have hall:([48,34,22,3,3].all fun u=>!Tryz.prog.wantsStandIn u)=true:=by kernel_rfl
        exact (show Tryz.prog.wantsStandIn t=false by simpa using List.all_eq_true.1 hall t hm)⟩)
    (by unfold OpenClaim.goesBy; exact (Dp (by kernel_rfl) _ _).symm)
end Go.Proofs.YtmfcloapbgfhaaaGreatDoor.branchActs
