/- A part of the proof. -/
import Derived.Test.YtllbbcgnnoonoaaGreatDoorA6
import Derived.Test.YtllbbcgnnoonoaaGreatDoorA4
import Derived.Test.YtllbbcgnnoonoaaGreatDoorRows
import Derived.Test.YtllbbcgnnoonoaaGreatDoorTi
import Derived.Test.YtllbbcgnnoonoaaGreatDoorCards
import Derived.Test.YtllbbcgnnoonoaaGreatDoorJCacheWhole
import Derived.Test.YtllbbcgnnoonoaaGreatDoorJCacheWhole7
import Derived.Test.YtllbbcgnnoonoaaGreatDoorJCacheWhole8
import Derived.ProofKit
import Derived.OpenShut
import Derived.ShutString
import Derived.ChangeOld
import Derived.SizedLaws
import Derived.Deep.Slices
import Derived.Lib.SmallJoins
import Derived.LaidMore
import Derived.SevenTiedAt
import Derived.Stop.Joined
set_option linter.unusedVariables false
namespace Go.Proofs.YtllbbcgnnoonoaaGreatDoor.cacheWhole
open Go.ChangeShapes Go.WideShapes Go.ChangeAt Go.RowKit Go.Deep Go.Joins
open Go.ChangeMaps (open_string shut_string)
abbrev laidL:List (String×DataW Unit):=Rows.cacheWholeRow.laid
theorem laidOut:laidOutB Tryz.prog=true:=by kernel_rfl
theorem met (os:Os) (args:Array Value):laidMetH Tryz.prog laidL ((World.doorLaid Tryz.prog 400 os).forCall (fun _ _=>0) ⟨#[],args,[]⟩).memory :=
  laidMetH_of_parts3 (fuel:=8) (laidMet_of_run' 8 (by kernel_rfl) (by kernel_rfl)) (by kernel_rfl) (by kernel_rfl)
set_option maxRecDepth 100000 in
theorem lifted (os:Os) (started:os.Started) (H:Type) (enc:TypeId×Value→H) :
    ReturnsInHanded {} Tryz.checked os 4 .any (fun w args=>(Rows.cacheWholeSpec.pre enc Tryz.prog Tryz.f4 [] false w args∧laidMetH Tryz.prog laidL w)∧sizedMet enc Tryz.prog Tryz.f4 (OpenSpec.ofChange Rows.cacheWholeSpec) false w args)
      (Rows.cacheWholeSpec.post enc Tryz.prog Tryz.f4 false true false false):=by
  refine returnsInHanded_of_change_and (C:=Tryz.checked) (X:=fun w _=>laidMetH Tryz.prog laidL w) (fun _ _ _ hh h=>h.of_heap hh) Vc started (by kernel_rfl) Tryz.func4
    (ChangeSpec.witness_shaped (enc:=enc) (C:=Tryz.checked) (os:=os) (X:=fun w _=>laidMetH Tryz.prog laidL w) false (World.doorLaid Tryz.prog 400 os) #[.slice none 0 0] 8 rfl (World.shaped_of_RefB (by kernel_rfl) (by kernel_rfl)) (by kernel_rfl) (by kernel_rfl) (by kernel_rfl) (met os _)) ?_
  intro W base args ds gs before hval0 hW hcnd hsz0 hL hholds
  have hval:∀ (j:Nat) t v,Tryz.f4.params[j]? = some t→args[j]? = some v→Value.okWide Tryz.prog W .any base t v:=hval0
  have hsz:(DataW.weightsEach Tryz.prog (Tryz.f4.params.toList++Rows.cacheWholeSpec.plain.varTypes Tryz.prog) (ds++gs)).all (·≤reachBytes)=true:=hsz0
  have hW':=hW
  obtain⟨p,q,hA0,hV,rfl,hfz,hnd⟩:=hW
  have hA:DataW.TrodAll enc Tryz.prog W 0 (fun _=>true) true Tryz.f4.params.toList args.toList ds p:=hA0
  rw [Tryz.params4] at hA hval hsz
  obtain⟨v0,vs0,d0,ds0,p0,q0,hargs,rfl,rfl,h0,r0⟩:=trodAll_cons hA
  obtain⟨rfl,rfl,rfl⟩:=trodAll_nil r0
  obtain rfl:args=#[v0]:=by cases args; simp_all
  obtain⟨rfl,rfl⟩:=trodVars_none hV
  have k0:=h0
  have lt0:∀ x∈p0,x.block<W.heap.size:=by obtain⟨m,hm⟩:=k0; exact DataW.trod_lt m _ _ _ hm
  obtain⟨x0,s0,q0⟩:=GF.arg (GF.slice Tryz.underlying23 (by kernel_rfl) (by decide) (GF.int Tryz.underlying3)) Tryz.underlying23 hsz (j0:=0) rfl rfl (hval 0 23 v0 rfl rfl) h0
  clear hA0 hval0
  have hLv:dC No W:=(To hL (by kernel_rfl) (List.mem_iff_getElem?.2 ⟨0,rfl⟩) (List.mem_iff_getElem?.2 ⟨3,rfl⟩) (List.mem_iff_getElem?.2 ⟨4,rfl⟩)).here
  have hM:iJ x0=some true:=DW x0
  refine Calls.mono (yG No W (fun _ h=>h.elim) hLv x0 _ s0 true hM) fun e W' ⟨v,he,hk,hv⟩=>?_
  subst he hv
  have bel:Below W.heap.size W W':=hk.below
  exact⟨_,rfl,_,_,_,[],_,[],hW',trodAll_mk1 (shut_bool Tryz.underlying4 _),(trodAll_cons_mk (Below.trod laidOut (by kernel_rfl) (of_decide_eq_true (by kernel_rfl)) k0 bel lt0) trodAll_mk0),rfl,bel.frame _,fun h=>by cases h⟩
theorem over:Rows.cacheWholeRow.holds Tryz.pinned (OpenSpec.ofChange Rows.cacheWholeSpec) :=
  OpenClaim.holds_of_wide 4 Tryz.f4 rfl rfl rfl rfl rfl rfl rfl ⟨rfl,rfl,rfl,rfl,rfl⟩ rfl rfl rfl rfl rfl (by kernel_rfl) Tryz.func4 closed
    (of_decide_eq_true (by kernel_rfl)) (by unfold Func.isWrapper; first | (rw [if_pos (by decide +kernel)]; kernel_rfl) | (rw [if_neg (by decide +kernel)]; exact⟨rfl,rfl⟩))
    (fun os started H enc _=>lifted os started H enc)
theorem proved:Rows.CacheWholeCardSaid :=
  Claim7.holds_tied_plain_at .later [] [.data, .data, .data, .sentinel, .sentinel] true (true, "b6a588a893dd20c63dee1587cc351f7d042c980ac0b2f1ef4de1ecc73978d993") true
    over (fun _ h=>by cases h) c1 (fun _ h=>by cases h) TieO.cacheWhole_row_tie rfl ⟨rfl,rfl⟩ c2 rfl
    (fun f fn hf hfn=>by
      obtain rfl : f = 4 := Option.some.inj (c3.symm.trans hf) |>.symm
      obtain rfl:fn=Tryz.f4:=(Option.some.inj (Tryz.func4.symm.trans hfn)).symm
      exact⟨c4,fun j t ht=>by
        rw [Tryz.params4] at ht
        have hm:t∈[23]:=by simpa using Array.mem_of_getElem? ht
        exact (show Tryz.prog.wantsStandIn t=false by simpa using List.all_eq_true.1 c5 t hm)⟩)
    (by unfold OpenClaim.goesBy; exact (Hw c6 _ _).symm)
end Go.Proofs.YtllbbcgnnoonoaaGreatDoor.cacheWhole
