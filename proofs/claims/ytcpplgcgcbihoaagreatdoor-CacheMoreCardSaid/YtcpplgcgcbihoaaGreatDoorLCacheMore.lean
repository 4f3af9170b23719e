/- A part of the proof. -/
import Derived.Test.YtcpplgcgcbihoaaGreatDoorA6
import Derived.Test.YtcpplgcgcbihoaaGreatDoorRows
import Derived.Test.YtcpplgcgcbihoaaGreatDoorTib
import Derived.Test.YtcpplgcgcbihoaaGreatDoorCards
import Derived.Test.YtcpplgcgcbihoaaGreatDoorJCacheMore
import Derived.Test.YtcpplgcgcbihoaaGreatDoorJCacheMore7
import Derived.Test.YtcpplgcgcbihoaaGreatDoorJCacheMore8
import Derived.ProofKit
import Derived.OpenShut
import Derived.ShutString
import Derived.ChangeOld
import Derived.SizedLaws
import Derived.Deep.Slices
import Derived.Lib.SmallJoins
import Derived.LaidMore
import Derived.SevenTiedAt
import Derived.Stop.Joined
set_option linter.unusedVariables false
namespace Go.Proofs.YtcpplgcgcbihoaaGreatDoor.cacheMore
open Go.ChangeShapes Go.WideShapes Go.ChangeAt Go.RowKit Go.Deep Go.Joins
open Go.ChangeMaps (open_string shut_string)
abbrev laidL:List (String×DataW Unit):=Rows.cacheMoreRow.laid
theorem laidOut:laidOutB Tryz.prog=true:=by kernel_rfl
theorem met (os:Os) (args:Array Value):laidMetH Tryz.prog laidL ((World.doorLaid Tryz.prog 400 os).forCall (fun _ _=>0) ⟨#[],args,[]⟩).memory :=
  laidMetH_of_parts3 (fuel:=8) (laidMet_of_run' 8 (by kernel_rfl) (by kernel_rfl)) (by kernel_rfl) (by kernel_rfl)
set_option maxRecDepth 100000 in
theorem lifted (os:Os) (started:os.Started) (H:Type) (enc:TypeId×Value→H) :
    ReturnsInHanded {} Tryz.checked os 8 .any (fun w args=>(Rows.cacheMoreSpec.pre enc Tryz.prog Tryz.f8 [] false w args∧laidMetH Tryz.prog laidL w)∧sizedMet enc Tryz.prog Tryz.f8 (OpenSpec.ofChange Rows.cacheMoreSpec) false w args)
      (Rows.cacheMoreSpec.post enc Tryz.prog Tryz.f8 false true false false):=by
  refine returnsInHanded_of_change_and (C:=Tryz.checked) (X:=fun w _=>laidMetH Tryz.prog laidL w) (fun _ _ _ hh h=>h.of_heap hh) Q1 started (by kernel_rfl) Tryz.func8
    (ChangeSpec.witness_shaped (enc:=enc) (C:=Tryz.checked) (os:=os) (X:=fun w _=>laidMetH Tryz.prog laidL w) false (World.doorLaid Tryz.prog 400 os) #[.slice none 0 0,.int .i64 0] 8 rfl (World.shaped_of_RefB (by kernel_rfl) (by kernel_rfl)) (by kernel_rfl) (by kernel_rfl) (by kernel_rfl) (met os _)) ?_
  intro W base args ds gs before hval0 hW hcnd hsz0 hL hholds
  have hval:∀ (j:Nat) t v,Tryz.f8.params[j]? = some t→args[j]? = some v→Value.okWide Tryz.prog W .any base t v:=hval0
  have hsz:(DataW.weightsEach Tryz.prog (Tryz.f8.params.toList++Rows.cacheMoreSpec.plain.varTypes Tryz.prog) (ds++gs)).all (·≤reachBytes)=true:=hsz0
  have hW':=hW
  obtain⟨p,q,hA0,hV,rfl,hfz,hnd⟩:=hW
  have hA:DataW.TrodAll enc Tryz.prog W 0 (fun _=>true) true Tryz.f8.params.toList args.toList ds p:=hA0
  rw [Tryz.params8] at hA hval hsz
  obtain⟨v0,vs0,d0,ds0,p0,q0,hargs,rfl,rfl,h0,r0⟩:=trodAll_cons hA
  obtain⟨v1,vs1,d1,ds1,p1,q1,rfl,rfl,rfl,h1,r1⟩:=trodAll_cons r0
  obtain⟨rfl,rfl,rfl⟩:=trodAll_nil r1
  obtain rfl:args=#[v0,v1]:=by cases args; simp_all
  obtain⟨rfl,rfl⟩:=trodVars_none hV
  have k0:=h0
  have lt0:∀ x∈p0,x.block<W.heap.size:=by obtain⟨m,hm⟩:=k0; exact DataW.trod_lt m _ _ _ hm
  have k1:=h1
  have lt1:∀ x∈p1,x.block<W.heap.size:=by obtain⟨m,hm⟩:=k1; exact DataW.trod_lt m _ _ _ hm
  obtain⟨x0,s0,q0⟩:=Dk.arg (Dk.slice Tryz.underlying26 (by kernel_rfl) (by decide) (Dk.int Tryz.underlying3)) Tryz.underlying26 hsz (j0:=0) rfl rfl (hval 0 26 v0 rfl rfl) h0
  obtain⟨x1,rfl,rfl,rfl,q1⟩:=open_int Tryz.underlying3 (hval 1 3 v1 rfl rfl) h1
  clear hA0 hval0
  have hLv:dh No W:=(NR hL (by kernel_rfl) (List.mem_iff_getElem?.2 ⟨0,rfl⟩) (List.mem_iff_getElem?.2 ⟨3,rfl⟩) (List.mem_iff_getElem?.2 ⟨4,rfl⟩)).here
  have hM:iF x0 x1=some true:=Ef x0 x1
  refine Calls.mono (yP No W (fun _ h=>h.elim) hLv x0 x1 _ s0 true hM) fun e W' ⟨v,he,hk,hv⟩=>?_
  subst he hv
  have bel:Below W.heap.size W W':=hk.below
  exact⟨_,rfl,_,_,_,[],_,[],hW',trodAll_mk1 (shut_bool Tryz.underlying4 _),(trodAll_cons_mk (Below.trod laidOut (by kernel_rfl) (of_decide_eq_true (by kernel_rfl)) k0 bel lt0) (trodAll_cons_mk (Below.trod laidOut (by kernel_rfl) (of_decide_eq_true (by kernel_rfl)) k1 bel lt1) trodAll_mk0)),rfl,bel.frame _,fun h=>by cases h⟩
theorem over:Rows.cacheMoreRow.holds Tryz.pinned (OpenSpec.ofChange Rows.cacheMoreSpec) :=
  OpenClaim.holds_of_wide 8 Tryz.f8 rfl rfl rfl rfl rfl rfl rfl ⟨rfl,rfl,rfl,rfl,rfl⟩ rfl rfl rfl rfl rfl (by kernel_rfl) Tryz.func8 closed
    (of_decide_eq_true (by kernel_rfl)) (by unfold Func.isWrapper; first | (rw [if_pos (by decide +kernel)]; kernel_rfl) | (rw [if_neg (by decide +kernel)]; exact⟨rfl,rfl⟩))
    (fun os started H enc _=>lifted os started H enc)
theorem proved:Rows.CacheMoreCardSaid :=
  Claim7.holds_tied_plain_at .later [] [.data, .data, .data, .sentinel, .sentinel] true (true, "2008240e243505ca503005505f79c37f27477d5a698571b9b02cb9b1a9c48875") true
    over (fun _ h=>by cases h) c1 (fun _ h=>by cases h) TieO.cacheMore_row_tie rfl ⟨rfl,rfl⟩ c2 rfl
    (fun f fn hf hfn=>by
      obtain rfl : f = 8 := Option.some.inj (c3.symm.trans hf) |>.symm
      obtain rfl:fn=Tryz.f8:=(Option.some.inj (Tryz.func8.symm.trans hfn)).symm
      exact⟨c4,fun j t ht=>by
        rw [Tryz.params8] at ht
        have hm:t∈[26,3]:=by simpa using Array.mem_of_getElem? ht
        exact (show Tryz.prog.wantsStandIn t=false by simpa using List.all_eq_true.1 c5 t hm)⟩)
    (by unfold OpenClaim.goesBy; exact (AB c6 _ _).symm)
end Go.Proofs.YtcpplgcgcbihoaaGreatDoor.cacheMore
