/- A part of the proof. -/
import Derived.Test.YtdcojaccpnabkaaGreatDoorA7
import Derived.Test.YtdcojaccpnabkaaGreatDoorA6
import Derived.Test.YtdcojaccpnabkaaGreatDoorRows
import Derived.Test.YtdcojaccpnabkaaGreatDoorTi
import Derived.Test.YtdcojaccpnabkaaGreatDoorCards
import Derived.Test.YtdcojaccpnabkaaGreatDoorJEvictDrops
import Derived.ProofKit
import Derived.OpenShut
import Derived.ShutString
import Derived.ChangeOld
import Derived.SizedLaws
import Derived.Deep.Slices
import Derived.Lib.SmallJoins
import Derived.LaidMore
import Derived.SevenTiedAt
import Derived.Stop.Joined
set_option linter.unusedVariables false
namespace Go.Proofs.YtdcojaccpnabkaaGreatDoor.evictDrops
open Go.ChangeShapes Go.WideShapes Go.ChangeAt Go.RowKit Go.Deep Go.Joins
open Go.ChangeMaps (open_string shut_string)
theorem opn_KeyD:nS Tryz.prog 31 ac (fun x=>((Lit.int .i64 x.Kind).wf=true∧x.Text.size≤140737488355328∧True)) :=
  nS.via (nS.struct Tryz.underlying31 (by kernel_rfl) (pV.cons (nS.int Tryz.underlying3) rfl (by kernel_rfl) (pV.cons (nS.str Tryz.underlying9) rfl (by kernel_rfl) (pV.nil _)))) (fun x=>ah.mk x.1 x.2.1) (by
    rintro T w cs x ⟨c0,d0,rfl,rfl,⟨c1,d1,rfl,rfl,rfl⟩⟩
    exact rfl) (fun x h=>h)
theorem opn_RecordD:nS Tryz.prog 33 aa (fun x=>(((Lit.int .i64 x.Key.Kind).wf=true∧x.Key.Text.size≤140737488355328∧True)∧x.Value.size≤140737488355328∧((∀ x7∈x.Reads,((Lit.int .i64 x7.Kind).wf=true∧x7.Text.size≤140737488355328∧True))∧x.Reads.length*Tryz.prog.bytesOf 31≤reachBytes∧x.Reads.length≤maxLen)∧(Lit.int .i64 x.Changed).wf=true∧(Lit.int .i64 x.Verified).wf=true∧(Lit.int .i64 x.Cost).wf=true∧True∧True)) :=
  nS.via (nS.struct Tryz.underlying33 (by kernel_rfl) (pV.cons opn_KeyD rfl (by kernel_rfl) (pV.cons (nS.str Tryz.underlying9) rfl (by kernel_rfl) (pV.cons (nS.slice Tryz.underlying27 (by kernel_rfl) (by decide) opn_KeyD) rfl (by kernel_rfl) (pV.cons (nS.int Tryz.underlying3) rfl (by kernel_rfl) (pV.cons (nS.int Tryz.underlying3) rfl (by kernel_rfl) (pV.cons (nS.int Tryz.underlying3) rfl (by kernel_rfl) (pV.cons (nS.bool Tryz.underlying4) rfl (by kernel_rfl) (pV.nil _))))))))) (fun x=>ab.mk x.1 x.2.1 x.2.2.1 x.2.2.2.1 x.2.2.2.2.1 x.2.2.2.2.2.1 x.2.2.2.2.2.2.1) (by
    rintro T w cs x ⟨c0,d0,rfl,rfl,⟨c1,d1,rfl,rfl,⟨c2,d2,rfl,⟨v2,rfl,hv2⟩,⟨c3,d3,rfl,rfl,⟨c4,d4,rfl,rfl,⟨c5,d5,rfl,rfl,⟨c6,d6,rfl,rfl,rfl⟩⟩⟩⟩⟩⟩⟩
    exact⟨v2,rfl,hv2⟩) (fun x h=>h)
theorem opn_InputD:nS Tryz.prog 75 ad (fun x=>(((Lit.int .i64 x.Key.Kind).wf=true∧x.Key.Text.size≤140737488355328∧True)∧x.Value.size≤140737488355328∧(Lit.int .i64 x.Changed).wf=true∧True)) :=
  nS.via (nS.struct Tryz.underlying75 (by kernel_rfl) (pV.cons opn_KeyD rfl (by kernel_rfl) (pV.cons (nS.str Tryz.underlying9) rfl (by kernel_rfl) (pV.cons (nS.int Tryz.underlying3) rfl (by kernel_rfl) (pV.nil _))))) (fun x=>aZ.mk x.1 x.2.1 x.2.2.1) (by
    rintro T w cs x ⟨c0,d0,rfl,rfl,⟨c1,d1,rfl,rfl,⟨c2,d2,rfl,rfl,rfl⟩⟩⟩
    exact rfl) (fun x h=>h)
theorem opn_BaseD:nS Tryz.prog 25 H2 (fun x=>((Lit.int .i64 x.Revision).wf=true∧((∀ x8∈x.Inputs,(((Lit.int .i64 x8.Key.Kind).wf=true∧x8.Key.Text.size≤140737488355328∧True)∧x8.Value.size≤140737488355328∧(Lit.int .i64 x8.Changed).wf=true∧True))∧x.Inputs.length*Tryz.prog.bytesOf 75≤reachBytes∧x.Inputs.length≤maxLen)∧((∀ x9∈x.Records,(((Lit.int .i64 x9.Key.Kind).wf=true∧x9.Key.Text.size≤140737488355328∧True)∧x9.Value.size≤140737488355328∧((∀ x8∈x9.Reads,((Lit.int .i64 x8.Kind).wf=true∧x8.Text.size≤140737488355328∧True))∧x9.Reads.length*Tryz.prog.bytesOf 31≤reachBytes∧x9.Reads.length≤maxLen)∧(Lit.int .i64 x9.Changed).wf=true∧(Lit.int .i64 x9.Verified).wf=true∧(Lit.int .i64 x9.Cost).wf=true∧True∧True))∧x.Records.length*Tryz.prog.bytesOf 33≤reachBytes∧x.Records.length≤maxLen)∧True)) :=
  nS.via (nS.struct Tryz.underlying25 (by kernel_rfl) (pV.cons (nS.int Tryz.underlying3) rfl (by kernel_rfl) (pV.cons (nS.slice Tryz.underlying22 (by kernel_rfl) (by decide) opn_InputD) rfl (by kernel_rfl) (pV.cons (nS.slice Tryz.underlying23 (by kernel_rfl) (by decide) opn_RecordD) rfl (by kernel_rfl) (pV.nil _))))) (fun x=>am.mk x.1 x.2.1 x.2.2.1) (by
    rintro T w cs x ⟨c0,d0,rfl,rfl,⟨c1,d1,rfl,⟨v1,rfl,hv1⟩,⟨c2,d2,rfl,⟨v2,rfl,hv2⟩,rfl⟩⟩⟩
    exact⟨v1,v2,rfl,hv1,hv2⟩) (fun x h=>h)
abbrev laidL:List (String×DataW Unit):=Rows.evictDropsRow.laid
theorem laidOut:laidOutB Tryz.prog=true:=by kernel_rfl
theorem met (os:Os) (args:Array Value):laidMetH Tryz.prog laidL ((World.doorLaid Tryz.prog 400 os).forCall (fun _ _=>0) ⟨#[],args,[]⟩).memory :=
  laidMetH_of_parts3 (fuel:=8) (laidMet_of_run' 8 (by kernel_rfl) (by kernel_rfl)) (by kernel_rfl) (by kernel_rfl)
set_option maxRecDepth 100000 in
theorem lifted (os:Os) (started:os.Started) (H:Type) (enc:TypeId×Value→H) :
    ReturnsInHanded {} Tryz.checked os 3 .any (fun w args=>(Rows.evictDropsSpec.pre enc Tryz.prog Tryz.f3 [] false w args∧laidMetH Tryz.prog laidL w)∧sizedMet enc Tryz.prog Tryz.f3 (OpenSpec.ofChange Rows.evictDropsSpec) false w args)
      (Rows.evictDropsSpec.post enc Tryz.prog Tryz.f3 false true false false):=by
  refine returnsInHanded_of_change_and (C:=Tryz.checked) (X:=fun w _=>laidMetH Tryz.prog laidL w) (fun _ _ _ hh h=>h.of_heap hh) I3 started (by kernel_rfl) Tryz.func3
    (ChangeSpec.witness_shaped (enc:=enc) (C:=Tryz.checked) (os:=os) (X:=fun w _=>laidMetH Tryz.prog laidL w) false (World.doorLaid Tryz.prog 400 os) #[.agg #[.int .i64 0,.slice none 0 0,.slice none 0 0],.slice none 0 0,.int .i64 0,.slice none 0 0,.int .i64 0] 8 rfl (World.shaped_of_RefB (by kernel_rfl) (by kernel_rfl)) (by kernel_rfl) (by kernel_rfl) (by kernel_rfl) (met os _)) ?_
  intro W base args ds gs before hval0 hW hcnd hsz0 hL hholds
  have hval:∀ (j:Nat) t v,Tryz.f3.params[j]? = some t→args[j]? = some v→Value.okWide Tryz.prog W .any base t v:=hval0
  have hsz:(DataW.weightsEach Tryz.prog (Tryz.f3.params.toList++Rows.evictDropsSpec.plain.varTypes Tryz.prog) (ds++gs)).all (·≤reachBytes)=true:=hsz0
  have hW':=hW
  obtain⟨p,q,hA0,hV,rfl,hfz,hnd⟩:=hW
  have hA:DataW.TrodAll enc Tryz.prog W 0 (fun _=>true) true Tryz.f3.params.toList args.toList ds p:=hA0
  rw [Tryz.params3] at hA hval hsz
  obtain⟨v0,vs0,d0,ds0,p0,q0,hargs,rfl,rfl,h0,r0⟩:=trodAll_cons hA
  obtain⟨v1,vs1,d1,ds1,p1,q1,rfl,rfl,rfl,h1,r1⟩:=trodAll_cons r0
  obtain⟨v2,vs2,d2,ds2,p2,q2,rfl,rfl,rfl,h2,r2⟩:=trodAll_cons r1
  obtain⟨v3,vs3,d3,ds3,p3,q3,rfl,rfl,rfl,h3,r3⟩:=trodAll_cons r2
  obtain⟨v4,vs4,d4,ds4,p4,q4,rfl,rfl,rfl,h4,r4⟩:=trodAll_cons r3
  obtain⟨rfl,rfl,rfl⟩:=trodAll_nil r4
  obtain rfl:args=#[v0,v1,v2,v3,v4]:=by cases args; simp_all
  obtain⟨rfl,rfl⟩:=trodVars_none hV
  have k0:=h0
  have lt0:∀ x∈p0,x.block<W.heap.size:=by obtain⟨m,hm⟩:=k0; exact DataW.trod_lt m _ _ _ hm
  have k1:=h1
  have lt1:∀ x∈p1,x.block<W.heap.size:=by obtain⟨m,hm⟩:=k1; exact DataW.trod_lt m _ _ _ hm
  have k2:=h2
  have lt2:∀ x∈p2,x.block<W.heap.size:=by obtain⟨m,hm⟩:=k2; exact DataW.trod_lt m _ _ _ hm
  have k3:=h3
  have lt3:∀ x∈p3,x.block<W.heap.size:=by obtain⟨m,hm⟩:=k3; exact DataW.trod_lt m _ _ _ hm
  have k4:=h4
  have lt4:∀ x∈p4,x.block<W.heap.size:=by obtain⟨m,hm⟩:=k4; exact DataW.trod_lt m _ _ _ hm
  obtain⟨cs0,x0,rfl,y0,q0⟩:=nS.argS opn_BaseD Tryz.underlying25 hsz (j0:=0) rfl rfl (hval 0 25 v0 rfl rfl) h0
  obtain⟨u0_1,u0_2,rfl,s0_1,s0_2⟩:=y0
  obtain⟨x1,s1,q1⟩:=nS.arg (nS.slice Tryz.underlying26 (by kernel_rfl) (by decide) (nS.int Tryz.underlying3)) Tryz.underlying26 hsz (j0:=1) rfl rfl (hval 1 26 v1 rfl rfl) h1
  obtain⟨x2,rfl,rfl,rfl,q2⟩:=open_int Tryz.underlying3 (hval 2 3 v2 rfl rfl) h2
  obtain⟨x3,s3,q3⟩:=nS.arg (nS.slice Tryz.underlying27 (by kernel_rfl) (by decide) opn_KeyD) Tryz.underlying27 hsz (j0:=3) rfl rfl (hval 3 27 v3 rfl rfl) h3
  obtain⟨x4,rfl,rfl,rfl,q4⟩:=open_int Tryz.underlying3 (hval 4 3 v4 rfl rfl) h4
  clear hA0 hval0
  have hLv:dx No W:=(EG hL (by kernel_rfl) (List.mem_iff_getElem?.2 ⟨2,rfl⟩) (List.mem_iff_getElem?.2 ⟨4,rfl⟩) (List.mem_iff_getElem?.2 ⟨3,rfl⟩)).here
  have hM:jq x0 x1 x2 x3 x4=some true:=Gt (fun r h=>⟨(q0.2.2.1.1 r h).1.2.1,fun k hk=>((q0.2.2.1.1 r h).2.2.1.1 k hk).2.1⟩) (fun x h=>(q0.2.1.1 x h).1.2.1) x2 x4
  refine Calls.mono (vm No W (fun _ h=>h.elim) hLv x0 x1 x2 x3 x4 _ _ _ _ s0_1 s0_2 s1 s3 true hM) fun e W' ⟨v,he,hk,hv⟩=>?_
  subst he hv
  have bel:Below W.heap.size W W':=hk.below
  exact⟨_,rfl,_,_,_,[],_,[],hW',trodAll_mk1 (shut_bool Tryz.underlying4 _),(trodAll_cons_mk (Below.trod laidOut (by kernel_rfl) (of_decide_eq_true (by kernel_rfl)) k0 bel lt0) (trodAll_cons_mk (Below.trod laidOut (by kernel_rfl) (of_decide_eq_true (by kernel_rfl)) k1 bel lt1) (trodAll_cons_mk (Below.trod laidOut (by kernel_rfl) (of_decide_eq_true (by kernel_rfl)) k2 bel lt2) (trodAll_cons_mk (Below.trod laidOut (by kernel_rfl) (of_decide_eq_true (by kernel_rfl)) k3 bel lt3) (trodAll_cons_mk (Below.trod laidOut (by kernel_rfl) (of_decide_eq_true (by kernel_rfl)) k4 bel lt4) trodAll_mk0))))),rfl,bel.frame _,fun h=>by cases h⟩
theorem over:Rows.evictDropsRow.holds Tryz.pinned (OpenSpec.ofChange Rows.evictDropsSpec) :=
  OpenClaim.holds_of_wide 3 Tryz.f3 rfl rfl rfl rfl rfl rfl rfl ⟨rfl,rfl,rfl,rfl,rfl⟩ rfl rfl rfl rfl rfl (by kernel_rfl) Tryz.func3 closed
    (of_decide_eq_true (by kernel_rfl)) (by unfold Func.isWrapper; first | (rw [if_pos (by decide +kernel)]; kernel_rfl) | (rw [if_neg (by decide +kernel)]; exact⟨rfl,rfl⟩))
    (fun os started H enc _=>lifted os started H enc)
theorem proved:Rows.EvictDropsCardSaid :=
  Claim7.holds_tied_plain_at .later [] [.data, .data, .data, .sentinel, .sentinel] true (true, "5a2f01f637c98dd71fa70c8ca58194720ead7ce6196c46136d4b21d559883b21") true
    over (fun _ h=>by cases h) (by kernel_rfl) (fun _ h=>by cases h) TieO.evictDrops_row_tie rfl ⟨rfl,rfl⟩ (by kernel_rfl) rfl
    (fun f fn hf hfn=>by
      obtain rfl : f = 3 := Option.some.inj ((show Tryz.prog.funcNamed "recompile/recompilelaw34.EvictDrops" = some 3 by kernel_rfl).symm.trans hf) |>.symm
      obtain rfl:fn=Tryz.f3:=(Option.some.inj (Tryz.func3.symm.trans hfn)).symm
      exact⟨by kernel_rfl,fun j t ht=>by
        rw [Tryz.params3] at ht
        have hm:t∈[25,26,3,27,3]:=by simpa using Array.mem_of_getElem? ht
        have hall:([25,26,3,27,3].all fun u=>!Tryz.prog.wantsStandIn u)=true:=by kernel_rfl
        exact (show Tryz.prog.wantsStandIn t=false by simpa using List.all_eq_true.1 hall t hm)⟩)
    (by unfold OpenClaim.goesBy; exact (rM (by kernel_rfl) _ _).symm)
end Go.Proofs.YtdcojaccpnabkaaGreatDoor.evictDrops
