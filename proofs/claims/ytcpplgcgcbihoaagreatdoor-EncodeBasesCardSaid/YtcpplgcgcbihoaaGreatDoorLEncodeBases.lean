import Derived.Test.YtcpplgcgcbihoaaGreatDoorB7
import Derived.Test.YtcpplgcgcbihoaaGreatDoorTi
import Derived.Test.YtcpplgcgcbihoaaGreatDoorCards
import Derived.Test.YtcpplgcgcbihoaaGreatDoorJEncodeBases
import Derived.Test.YtcpplgcgcbihoaaGreatDoorJEncodeBases7
import Derived.Test.YtcpplgcgcbihoaaGreatDoorJEncodeBases8
import Derived.OpenShut
import Derived.ShutString
import Derived.ChangeOld
import Derived.SizedLaws
import Derived.Deep.Slices
import Derived.Lib.SmallJoins
import Derived.LaidMore
import Derived.SevenTiedAt
import Derived.Stop.Joined
set_option linter.unusedVariables false
namespace Go.Proofs.YtcpplgcgcbihoaaGreatDoor.encodeBases
open Go.ChangeShapes Go.WideShapes Go.ChangeAt Go.RowKit Go.Deep Go.Joins
open Go.ChangeMaps (open_string shut_string)
theorem oK:qW Tryz.prog 30 ac (fun x=>((Lit.int .i64 x.k).wf=true∧x.t.size≤140737488355328∧True)) :=
  qW.via (qW.struct Tryz.underlying30 (by kernel_rfl) (sh.cons (qW.int Tryz.underlying3) rfl (by kernel_rfl) (sh.cons (qW.str Tryz.underlying9) rfl (by kernel_rfl) (sh.nil _)))) (fun x=>ah.mk x.1 x.2.1) (by
    rintro T w cs x ⟨c0,d0,rfl,rfl,⟨c1,d1,rfl,rfl,rfl⟩⟩
    exact rfl) (fun x h=>h)
theorem oR:qW Tryz.prog 33 aa (fun x=>(((Lit.int .i64 x.d.k).wf=true∧x.d.t.size≤140737488355328∧True)∧x.u.size≤140737488355328∧((∀ x7∈x.v,((Lit.int .i64 x7.k).wf=true∧x7.t.size≤140737488355328∧True))∧x.v.length*Tryz.prog.bytesOf 30≤reachBytes∧x.v.length≤maxLen)∧(Lit.int .i64 x.x).wf=true∧(Lit.int .i64 x.c).wf=true∧(Lit.int .i64 x.h).wf=true∧True∧True)) :=
  qW.via (qW.struct Tryz.underlying33 (by kernel_rfl) (sh.cons oK rfl (by kernel_rfl) (sh.cons (qW.str Tryz.underlying9) rfl (by kernel_rfl) (sh.cons (qW.slice Tryz.underlying31 (by kernel_rfl) (by decide) oK) rfl (by kernel_rfl) (sh.cons (qW.int Tryz.underlying3) rfl (by kernel_rfl) (sh.cons (qW.int Tryz.underlying3) rfl (by kernel_rfl) (sh.cons (qW.int Tryz.underlying3) rfl (by kernel_rfl) (sh.cons (qW.bool Tryz.underlying4) rfl (by kernel_rfl) (sh.nil _))))))))) (fun x=>ay.mk x.1 x.2.1 x.2.2.1 x.2.2.2.1 x.2.2.2.2.1 x.2.2.2.2.2.1 x.2.2.2.2.2.2.1) (by
    rintro T w cs x ⟨c0,d0,rfl,rfl,⟨c1,d1,rfl,rfl,⟨c2,d2,rfl,⟨v2,rfl,hv2⟩,⟨c3,d3,rfl,rfl,⟨c4,d4,rfl,rfl,⟨c5,d5,rfl,rfl,⟨c6,d6,rfl,rfl,rfl⟩⟩⟩⟩⟩⟩⟩
    exact⟨v2,rfl,hv2⟩) (fun x h=>h)
theorem oI:qW Tryz.prog 91 ab (fun x=>(((Lit.int .i64 x.d.k).wf=true∧x.d.t.size≤140737488355328∧True)∧x.u.size≤140737488355328∧(Lit.int .i64 x.x).wf=true∧True)) :=
  qW.via (qW.struct Tryz.underlying91 (by kernel_rfl) (sh.cons oK rfl (by kernel_rfl) (sh.cons (qW.str Tryz.underlying9) rfl (by kernel_rfl) (sh.cons (qW.int Tryz.underlying3) rfl (by kernel_rfl) (sh.nil _))))) (fun x=>bc.mk x.1 x.2.1 x.2.2.1) (by
    rintro T w cs x ⟨c0,d0,rfl,rfl,⟨c1,d1,rfl,rfl,⟨c2,d2,rfl,rfl,rfl⟩⟩⟩
    exact rfl) (fun x h=>h)
theorem oB:qW Tryz.prog 25 Ng (fun x=>((Lit.int .i64 x.r).wf=true∧((∀ x8∈x.i,(((Lit.int .i64 x8.d.k).wf=true∧x8.d.t.size≤140737488355328∧True)∧x8.u.size≤140737488355328∧(Lit.int .i64 x8.x).wf=true∧True))∧x.i.length*Tryz.prog.bytesOf 91≤reachBytes∧x.i.length≤maxLen)∧((∀ x9∈x.s,(((Lit.int .i64 x9.d.k).wf=true∧x9.d.t.size≤140737488355328∧True)∧x9.u.size≤140737488355328∧((∀ x8∈x9.v,((Lit.int .i64 x8.k).wf=true∧x8.t.size≤140737488355328∧True))∧x9.v.length*Tryz.prog.bytesOf 30≤reachBytes∧x9.v.length≤maxLen)∧(Lit.int .i64 x9.x).wf=true∧(Lit.int .i64 x9.c).wf=true∧(Lit.int .i64 x9.h).wf=true∧True∧True))∧x.s.length*Tryz.prog.bytesOf 33≤reachBytes∧x.s.length≤maxLen)∧True)) :=
  qW.via (qW.struct Tryz.underlying25 (by kernel_rfl) (sh.cons (qW.int Tryz.underlying3) rfl (by kernel_rfl) (sh.cons (qW.slice Tryz.underlying22 (by kernel_rfl) (by decide) oI) rfl (by kernel_rfl) (sh.cons (qW.slice Tryz.underlying23 (by kernel_rfl) (by decide) oR) rfl (by kernel_rfl) (sh.nil _))))) (fun x=>ao.mk x.1 x.2.1 x.2.2.1) (by
    rintro T w cs x ⟨c0,d0,rfl,rfl,⟨c1,d1,rfl,⟨v1,rfl,hv1⟩,⟨c2,d2,rfl,⟨v2,rfl,hv2⟩,rfl⟩⟩⟩
    exact⟨v1,v2,rfl,hv1,hv2⟩) (fun x h=>h)
abbrev lL:List (String×DataW Unit):=Rows.encodeBasesRow.laid
theorem lO:laidOutB Tryz.prog=true:=by kernel_rfl
theorem met (os:Os) (args:Array Value):laidMetH Tryz.prog lL ((World.doorLaid Tryz.prog 400 os).forCall (fun _ _=>0) ⟨#[],args,[]⟩).memory :=
  laidMetH_of_parts3 (fuel:=8) (laidMet_of_run' 8 (by kernel_rfl) (by kernel_rfl)) (by kernel_rfl) (by kernel_rfl)
set_option maxRecDepth 100000 in
theorem lf (os:Os) (sd:os.Started) (H:Type) (enc:TypeId×Value→H) :
    ReturnsInHanded {} Tryz.checked os 3 .any (fun w args=>(Rows.encodeBasesSpec.pre enc Tryz.prog Tryz.f3 [] false w args∧laidMetH Tryz.prog lL w)∧sizedMet enc Tryz.prog Tryz.f3 (OpenSpec.ofChange Rows.encodeBasesSpec) false w args)
      (Rows.encodeBasesSpec.post enc Tryz.prog Tryz.f3 false true false false):=by
  refine returnsInHanded_of_change_and (C:=Tryz.checked) (X:=fun w _=>laidMetH Tryz.prog lL w) (fun _ _ _ hh h=>h.of_heap hh) Qd sd (by kernel_rfl) Tryz.func3
    (ChangeSpec.witness_shaped (enc:=enc) (C:=Tryz.checked) (os:=os) (X:=fun w _=>laidMetH Tryz.prog lL w) false (World.doorLaid Tryz.prog 400 os) #[.agg #[.int .i64 0,.slice none 0 0,.slice none 0 0],.slice none 0 0,.string ByteArray.empty,.int .i64 0,.int .i64 0,.int .i64 0] 8 rfl (World.shaped_of_RefB (by kernel_rfl) (by kernel_rfl)) (by kernel_rfl) (by kernel_rfl) (by kernel_rfl) (met os _)) ?_
  intro W base args ds gs before hval0 hW hcnd hsz0 hL hholds
  have hval:∀ (j:Nat) t v,Tryz.f3.params[j]? = some t→args[j]? = some v→Value.okWide Tryz.prog W .any base t v:=hval0
  have hsz:(DataW.weightsEach Tryz.prog (Tryz.f3.params.toList++Rows.encodeBasesSpec.plain.varTypes Tryz.prog) (ds++gs)).all (·≤reachBytes)=true:=hsz0
  have hW':=hW
  obtain⟨p,q,hA0,hV,rfl,hfz,hnd⟩:=hW
  have hA:DataW.TrodAll enc Tryz.prog W 0 (fun _=>true) true Tryz.f3.params.toList args.toList ds p:=hA0
  rw [Tryz.params3] at hA hval hsz
  obtain⟨v0,vs0,d0,ds0,p0,q0,hargs,rfl,rfl,h0,r0⟩:=trodAll_cons hA
  obtain⟨v1,vs1,d1,ds1,p1,q1,rfl,rfl,rfl,h1,r1⟩:=trodAll_cons r0
  obtain⟨v2,vs2,d2,ds2,p2,q2,rfl,rfl,rfl,h2,r2⟩:=trodAll_cons r1
  obtain⟨v3,vs3,d3,ds3,p3,q3,rfl,rfl,rfl,h3,r3⟩:=trodAll_cons r2
  obtain⟨v4,vs4,d4,ds4,p4,q4,rfl,rfl,rfl,h4,r4⟩:=trodAll_cons r3
  obtain⟨v5,vs5,d5,ds5,p5,q5,rfl,rfl,rfl,h5,r5⟩:=trodAll_cons r4
  obtain⟨rfl,rfl,rfl⟩:=trodAll_nil r5
  obtain rfl:args=#[v0,v1,v2,v3,v4,v5]:=by cases args; simp_all
  obtain⟨rfl,rfl⟩:=trodVars_none hV
  have lt0:=DataW.trod_lt _ _ _ _ (Exists.choose_spec h0)
  have lt1:=DataW.trod_lt _ _ _ _ (Exists.choose_spec h1)
  have lt2:=DataW.trod_lt _ _ _ _ (Exists.choose_spec h2)
  have lt3:=DataW.trod_lt _ _ _ _ (Exists.choose_spec h3)
  have lt4:=DataW.trod_lt _ _ _ _ (Exists.choose_spec h4)
  have lt5:=DataW.trod_lt _ _ _ _ (Exists.choose_spec h5)
  obtain⟨cs0,x0,rfl,y0,q0⟩:=qW.argS oB Tryz.underlying25 hsz (j0:=0) rfl rfl (hval 0 25 v0 rfl rfl) h0
  obtain⟨u0_1,u0_2,rfl,s0_1,s0_2⟩:=y0
  obtain⟨x1,s1,q1⟩:=qW.arg (qW.slice Tryz.underlying26 (by kernel_rfl) (by decide) (qW.int Tryz.underlying3)) Tryz.underlying26 hsz (j0:=1) rfl rfl (hval 1 26 v1 rfl rfl) h1
  obtain⟨x2,rfl,rfl,rfl,w2⟩:=open_string Tryz.underlying9 (hval 2 9 v2 rfl rfl) h2
  obtain⟨x3,rfl,rfl,rfl,q3⟩:=open_int Tryz.underlying3 (hval 3 3 v3 rfl rfl) h3
  obtain⟨x4,rfl,rfl,rfl,q4⟩:=open_int Tryz.underlying3 (hval 4 3 v4 rfl rfl) h4
  obtain⟨x5,rfl,rfl,rfl,q5⟩:=open_int Tryz.underlying3 (hval 5 3 v5 rfl rfl) h5
  clear hA0 hval0
  have hLv:fi No W:=(LT hL (by kernel_rfl) (List.mem_iff_getElem?.2 ⟨2,rfl⟩) (List.mem_iff_getElem?.2 ⟨0,rfl⟩) (List.mem_iff_getElem?.2 ⟨1,rfl⟩)).here
  have hM:jZ x0 x1 x2 x3 x4 x5=some true:=CF (fun r h=>⟨((q0.2.2.1.1 r h).1).2.1,fun k hk=>((q0.2.2.1.1 r h).2.2.1.1 k hk).2.1⟩) (fun x h=>((q0.2.1.1 x h).1).2.1) x1 x2 x3 x4 x5
  refine Calls.mono (xK No W (fun _ h=>h.elim) hLv x0 x1 x2 x3 x4 x5 _ _ _ s0_1 s0_2 s1 true hM) fun e W' ⟨v,he,hk,hv⟩=>?_
  subst he hv
  have bel:Below W.heap.size W W':=hk.below
  exact⟨_,rfl,_,_,_,[],_,[],hW',trodAll_mk1 (shut_bool Tryz.underlying4 _),(trodAll_cons_mk (Below.trod lO (by kernel_rfl) (of_decide_eq_true (by kernel_rfl)) h0 bel lt0) (trodAll_cons_mk (Below.trod lO (by kernel_rfl) (of_decide_eq_true (by kernel_rfl)) h1 bel lt1) (trodAll_cons_mk (Below.trod lO (by kernel_rfl) (of_decide_eq_true (by kernel_rfl)) h2 bel lt2) (trodAll_cons_mk (Below.trod lO (by kernel_rfl) (of_decide_eq_true (by kernel_rfl)) h3 bel lt3) (trodAll_cons_mk (Below.trod lO (by kernel_rfl) (of_decide_eq_true (by kernel_rfl)) h4 bel lt4) (trodAll_cons_mk (Below.trod lO (by kernel_rfl) (of_decide_eq_true (by kernel_rfl)) h5 bel lt5) trodAll_mk0)))))),rfl,bel.frame _,fun h=>by cases h⟩
theorem over:Rows.encodeBasesRow.holds Tryz.pinned (OpenSpec.ofChange Rows.encodeBasesSpec) :=
  OpenClaim.holds_of_wide 3 Tryz.f3 rfl rfl rfl rfl rfl rfl rfl ⟨rfl,rfl,rfl,rfl,rfl⟩ rfl rfl rfl rfl rfl (by kernel_rfl) Tryz.func3 closed
    (of_decide_eq_true (by kernel_rfl)) (by unfold Func.isWrapper; first | (rw [if_pos (by decide +kernel)]; kernel_rfl) | (rw [if_neg (by decide +kernel)]; exact⟨rfl,rfl⟩))
    (fun os sd H enc _=>lf os sd H enc)
theorem proved:Rows.EncodeBasesCardSaid :=
  Claim7.holds_tied_plain_at .later [] [.sentinel, .sentinel, .data, .data, .data] true (true, "2008240e243505ca503005505f79c37f27477d5a698571b9b02cb9b1a9c48875") true
    over (fun _ h=>by cases h) c1 (fun _ h=>by cases h) TieO.encodeBases_row_tie rfl ⟨rfl,rfl⟩ c2 rfl
    (fun f fn hf hfn=>by
      obtain rfl : f = 3 := Option.some.inj (c3.symm.trans hf) |>.symm
      obtain rfl:fn=Tryz.f3:=(Option.some.inj (Tryz.func3.symm.trans hfn)).symm
      exact⟨c4,fun j t ht=>by
        rw [Tryz.params3] at ht
        have hm:t∈[25,26,9,3,3,3]:=by simpa using Array.mem_of_getElem? ht
        exact (show Tryz.prog.wantsStandIn t=false by simpa using List.all_eq_true.1 c5 t hm)⟩)
    (by unfold OpenClaim.goesBy; exact (wA c6 _ _).symm)
end Go.Proofs.YtcpplgcgcbihoaaGreatDoor.encodeBases
