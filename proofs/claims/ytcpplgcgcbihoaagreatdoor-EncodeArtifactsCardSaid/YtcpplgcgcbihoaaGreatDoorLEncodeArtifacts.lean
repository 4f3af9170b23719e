/- A part of the proof. -/
import Derived.Test.YtcpplgcgcbihoaaGreatDoorD6
import Derived.Test.YtcpplgcgcbihoaaGreatDoorD4
import Derived.Test.YtcpplgcgcbihoaaGreatDoorRows
import Derived.Test.YtcpplgcgcbihoaaGreatDoorTi
import Derived.Test.YtcpplgcgcbihoaaGreatDoorCards
import Derived.Test.YtcpplgcgcbihoaaGreatDoorJEncodeArtifacts
import Derived.Test.YtcpplgcgcbihoaaGreatDoorJEncodeArtifacts7
import Derived.Test.YtcpplgcgcbihoaaGreatDoorJEncodeArtifacts8
import Derived.ProofKit
import Derived.OpenShut
import Derived.ShutString
import Derived.ChangeOld
import Derived.SizedLaws
import Derived.Deep.Slices
import Derived.Lib.SmallJoins
import Derived.LaidMore
import Derived.SevenTiedAt
import Derived.Stop.Joined
set_option linter.unusedVariables false
namespace Go.Proofs.YtcpplgcgcbihoaaGreatDoor.encodeArtifacts
open Go.ChangeShapes Go.WideShapes Go.ChangeAt Go.RowKit Go.Deep Go.Joins
open Go.ChangeMaps (open_string shut_string)
theorem opn_DigestD:tA Tryz.prog 105 HZ (fun x=>((Lit.int .i64 x.y).wf=true∧(Lit.int .u64 x.z).wf=true∧True)) :=
  tA.via (tA.struct Tryz.underlying105 (by kernel_rfl) (tB.cons (tA.int Tryz.underlying3) rfl (by kernel_rfl) (tB.cons (tA.int Tryz.underlying103) rfl (by kernel_rfl) (tB.nil _)))) (fun x=>b7.mk x.1 x.2.1) (by
    rintro T w cs x ⟨c0,d0,rfl,rfl,⟨c1,d1,rfl,rfl,rfl⟩⟩
    exact rfl) (fun x h=>h)
theorem opn_KeyD:tA Tryz.prog 30 ac (fun x=>((Lit.int .i64 x.k).wf=true∧x.t.size≤140737488355328∧True)) :=
  tA.via (tA.struct Tryz.underlying30 (by kernel_rfl) (tB.cons (tA.int Tryz.underlying3) rfl (by kernel_rfl) (tB.cons (tA.str Tryz.underlying9) rfl (by kernel_rfl) (tB.nil _)))) (fun x=>ae.mk x.1 x.2.1) (by
    rintro T w cs x ⟨c0,d0,rfl,rfl,⟨c1,d1,rfl,rfl,rfl⟩⟩
    exact rfl) (fun x h=>h)
theorem opn_ReadD:tA Tryz.prog 128 bH (fun x=>(((Lit.int .i64 x.d.k).wf=true∧x.d.t.size≤140737488355328∧True)∧((Lit.int .i64 x.a.y).wf=true∧(Lit.int .u64 x.a.z).wf=true∧True)∧True)) :=
  tA.via (tA.struct Tryz.underlying128 (by kernel_rfl) (tB.cons opn_KeyD rfl (by kernel_rfl) (tB.cons opn_DigestD rfl (by kernel_rfl) (tB.nil _)))) (fun x=>ci.mk x.1 x.2.1) (by
    rintro T w cs x ⟨c0,d0,rfl,rfl,⟨c1,d1,rfl,rfl,rfl⟩⟩
    exact rfl) (fun x h=>h)
theorem opn_ArtifactD:tA Tryz.prog 51 an (fun x=>(((Lit.int .i64 x.d.k).wf=true∧x.d.t.size≤140737488355328∧True)∧((∀ x7∈x.v,(((Lit.int .i64 x7.d.k).wf=true∧x7.d.t.size≤140737488355328∧True)∧((Lit.int .i64 x7.a.y).wf=true∧(Lit.int .u64 x7.a.z).wf=true∧True)∧True))∧x.v.length*Tryz.prog.bytesOf 128≤reachBytes∧x.v.length≤maxLen)∧x.u.size≤140737488355328∧(Lit.int .i64 x.j).wf=true∧True)) :=
  tA.via (tA.struct Tryz.underlying51 (by kernel_rfl) (tB.cons opn_KeyD rfl (by kernel_rfl) (tB.cons (tA.slice Tryz.underlying49 (by kernel_rfl) (by decide) opn_ReadD) rfl (by kernel_rfl) (tB.cons (tA.str Tryz.underlying9) rfl (by kernel_rfl) (tB.cons (tA.int Tryz.underlying3) rfl (by kernel_rfl) (tB.nil _)))))) (fun x=>ai.mk x.1 x.2.1 x.2.2.1 x.2.2.2.1) (by
    rintro T w cs x ⟨c0,d0,rfl,rfl,⟨c1,d1,rfl,⟨v1,rfl,hv1⟩,⟨c2,d2,rfl,rfl,⟨c3,d3,rfl,rfl,rfl⟩⟩⟩⟩
    exact⟨v1,rfl,hv1⟩) (fun x h=>h)
abbrev laidL:List (String×DataW Unit):=Rows.encodeArtifactsRow.laid
theorem laidOut:laidOutB Tryz.prog=true:=by kernel_rfl
theorem met (os:Os) (args:Array Value):laidMetH Tryz.prog laidL ((World.doorLaid Tryz.prog 400 os).forCall (fun _ _=>0) ⟨#[],args,[]⟩).memory :=
  laidMetH_of_parts3 (fuel:=8) (laidMet_of_run' 8 (by kernel_rfl) (by kernel_rfl)) (by kernel_rfl) (by kernel_rfl)
set_option maxRecDepth 100000 in
theorem lifted (os:Os) (started:os.Started) (H:Type) (enc:TypeId×Value→H) :
    ReturnsInHanded {} Tryz.checked os 4 .any (fun w args=>(Rows.encodeArtifactsSpec.pre enc Tryz.prog Tryz.f4 [] false w args∧laidMetH Tryz.prog laidL w)∧sizedMet enc Tryz.prog Tryz.f4 (OpenSpec.ofChange Rows.encodeArtifactsSpec) false w args)
      (Rows.encodeArtifactsSpec.post enc Tryz.prog Tryz.f4 false true false false):=by
  refine returnsInHanded_of_change_and (C:=Tryz.checked) (X:=fun w _=>laidMetH Tryz.prog laidL w) (fun _ _ _ hh h=>h.of_heap hh) R6 started (by kernel_rfl) Tryz.func4
    (ChangeSpec.witness_shaped (enc:=enc) (C:=Tryz.checked) (os:=os) (X:=fun w _=>laidMetH Tryz.prog laidL w) false (World.doorLaid Tryz.prog 400 os) #[.slice none 0 0,.slice none 0 0,.string ByteArray.empty,.int .i64 0,.int .i64 0,.int .i64 0] 8 rfl (World.shaped_of_RefB (by kernel_rfl) (by kernel_rfl)) (by kernel_rfl) (by kernel_rfl) (by kernel_rfl) (met os _)) ?_
  intro W base args ds gs before hval0 hW hcnd hsz0 hL hholds
  have hval:∀ (j:Nat) t v,Tryz.f4.params[j]? = some t→args[j]? = some v→Value.okWide Tryz.prog W .any base t v:=hval0
  have hsz:(DataW.weightsEach Tryz.prog (Tryz.f4.params.toList++Rows.encodeArtifactsSpec.plain.varTypes Tryz.prog) (ds++gs)).all (·≤reachBytes)=true:=hsz0
  have hW':=hW
  obtain⟨p,q,hA0,hV,rfl,hfz,hnd⟩:=hW
  have hA:DataW.TrodAll enc Tryz.prog W 0 (fun _=>true) true Tryz.f4.params.toList args.toList ds p:=hA0
  rw [Tryz.params4] at hA hval hsz
  obtain⟨v0,vs0,d0,ds0,p0,q0,hargs,rfl,rfl,h0,r0⟩:=trodAll_cons hA
  obtain⟨v1,vs1,d1,ds1,p1,q1,rfl,rfl,rfl,h1,r1⟩:=trodAll_cons r0
  obtain⟨v2,vs2,d2,ds2,p2,q2,rfl,rfl,rfl,h2,r2⟩:=trodAll_cons r1
  obtain⟨v3,vs3,d3,ds3,p3,q3,rfl,rfl,rfl,h3,r3⟩:=trodAll_cons r2
  obtain⟨v4,vs4,d4,ds4,p4,q4,rfl,rfl,rfl,h4,r4⟩:=trodAll_cons r3
  obtain⟨v5,vs5,d5,ds5,p5,q5,rfl,rfl,rfl,h5,r5⟩:=trodAll_cons r4
  obtain⟨rfl,rfl,rfl⟩:=trodAll_nil r5
  obtain rfl:args=#[v0,v1,v2,v3,v4,v5]:=by cases args; simp_all
  obtain⟨rfl,rfl⟩:=trodVars_none hV
  have k0:=h0
  have lt0:∀ x∈p0,x.block<W.heap.size:=by obtain⟨m,hm⟩:=k0; exact DataW.trod_lt m _ _ _ hm
  have k1:=h1
  have lt1:∀ x∈p1,x.block<W.heap.size:=by obtain⟨m,hm⟩:=k1; exact DataW.trod_lt m _ _ _ hm
  have k2:=h2
  have lt2:∀ x∈p2,x.block<W.heap.size:=by obtain⟨m,hm⟩:=k2; exact DataW.trod_lt m _ _ _ hm
  have k3:=h3
  have lt3:∀ x∈p3,x.block<W.heap.size:=by obtain⟨m,hm⟩:=k3; exact DataW.trod_lt m _ _ _ hm
  have k4:=h4
  have lt4:∀ x∈p4,x.block<W.heap.size:=by obtain⟨m,hm⟩:=k4; exact DataW.trod_lt m _ _ _ hm
  have k5:=h5
  have lt5:∀ x∈p5,x.block<W.heap.size:=by obtain⟨m,hm⟩:=k5; exact DataW.trod_lt m _ _ _ hm
  obtain⟨x0,s0,q0⟩:=tA.arg (tA.slice Tryz.underlying48 (by kernel_rfl) (by decide) opn_ArtifactD) Tryz.underlying48 hsz (j0:=0) rfl rfl (hval 0 48 v0 rfl rfl) h0
  obtain⟨x1,s1,q1⟩:=tA.arg (tA.slice Tryz.underlying26 (by kernel_rfl) (by decide) (tA.int Tryz.underlying3)) Tryz.underlying26 hsz (j0:=1) rfl rfl (hval 1 26 v1 rfl rfl) h1
  obtain⟨x2,rfl,rfl,rfl,w2⟩:=open_string Tryz.underlying9 (hval 2 9 v2 rfl rfl) h2
  obtain⟨x3,rfl,rfl,rfl,q3⟩:=open_int Tryz.underlying3 (hval 3 3 v3 rfl rfl) h3
  obtain⟨x4,rfl,rfl,rfl,q4⟩:=open_int Tryz.underlying3 (hval 4 3 v4 rfl rfl) h4
  obtain⟨x5,rfl,rfl,rfl,q5⟩:=open_int Tryz.underlying3 (hval 5 3 v5 rfl rfl) h5
  clear hA0 hval0
  have hLv:fi No W:=(Qj hL (by kernel_rfl) (List.mem_iff_getElem?.2 ⟨2,rfl⟩) (List.mem_iff_getElem?.2 ⟨0,rfl⟩) (List.mem_iff_getElem?.2 ⟨1,rfl⟩)).here
  have hM:fu x0 x1 x2 x3 x4 x5=some true:=xe (fun x h=>⟨((q0.1 x h).1).2.1,fun r hr=>⟨(((q0.1 x h).2.1.1 r hr).1).2.1,(((q0.1 x h).2.1.1 r hr).2.1).1,(((q0.1 x h).2.1.1 r hr).2.1).2.1⟩⟩) x1 x2 x3 x4 x5
  refine Calls.mono (tN No W (fun _ h=>h.elim) hLv x0 x1 x2 x3 x4 x5 _ _ s0 s1 true hM) fun e W' ⟨v,he,hk,hv⟩=>?_
  subst he hv
  have bel:Below W.heap.size W W':=hk.below
  exact⟨_,rfl,_,_,_,[],_,[],hW',trodAll_mk1 (shut_bool Tryz.underlying4 _),(trodAll_cons_mk (Below.trod laidOut (by kernel_rfl) (of_decide_eq_true (by kernel_rfl)) k0 bel lt0) (trodAll_cons_mk (Below.trod laidOut (by kernel_rfl) (of_decide_eq_true (by kernel_rfl)) k1 bel lt1) (trodAll_cons_mk (Below.trod laidOut (by kernel_rfl) (of_decide_eq_true (by kernel_rfl)) k2 bel lt2) (trodAll_cons_mk (Below.trod laidOut (by kernel_rfl) (of_decide_eq_true (by kernel_rfl)) k3 bel lt3) (trodAll_cons_mk (Below.trod laidOut (by kernel_rfl) (of_decide_eq_true (by kernel_rfl)) k4 bel lt4) (trodAll_cons_mk (Below.trod laidOut (by kernel_rfl) (of_decide_eq_true (by kernel_rfl)) k5 bel lt5) trodAll_mk0)))))),rfl,bel.frame _,fun h=>by cases h⟩
theorem over:Rows.encodeArtifactsRow.holds Tryz.pinned (OpenSpec.ofChange Rows.encodeArtifactsSpec) :=
  OpenClaim.holds_of_wide 4 Tryz.f4 rfl rfl rfl rfl rfl rfl rfl ⟨rfl,rfl,rfl,rfl,rfl⟩ rfl rfl rfl rfl rfl (by kernel_rfl) Tryz.func4 closed
    (of_decide_eq_true (by kernel_rfl)) (by unfold Func.isWrapper; first | (rw [if_pos (by decide +kernel)]; kernel_rfl) | (rw [if_neg (by decide +kernel)]; exact⟨rfl,rfl⟩))
    (fun os started H enc _=>lifted os started H enc)
theorem proved:Rows.EncodeArtifactsCardSaid :=
  Claim7.holds_tied_plain_at .later [] [.sentinel, .sentinel, .data, .data, .data] true (true, "2008240e243505ca503005505f79c37f27477d5a698571b9b02cb9b1a9c48875") true
    over (fun _ h=>by cases h) c1 (fun _ h=>by cases h) TieO.encodeArtifacts_row_tie rfl ⟨rfl,rfl⟩ c2 rfl
    (fun f fn hf hfn=>by
      obtain rfl : f = 4 := Option.some.inj (c3.symm.trans hf) |>.symm
      obtain rfl:fn=Tryz.f4:=(Option.some.inj (Tryz.func4.symm.trans hfn)).symm
      exact⟨c4,fun j t ht=>by
        rw [Tryz.params4] at ht
        have hm:t∈[48,26,9,3,3,3]:=by simpa using Array.mem_of_getElem? ht
        exact (show Tryz.prog.wantsStandIn t=false by simpa using List.all_eq_true.1 c5 t hm)⟩)
    (by unfold OpenClaim.goesBy; exact (ES c6 _ _).symm)
end Go.Proofs.YtcpplgcgcbihoaaGreatDoor.encodeArtifacts
