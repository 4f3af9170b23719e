/- Texts of the proof, joined (4). -/
import Derived.Test.YtmfcloapbgfhaaaGreatDoorA3
import Derived.Test.YtmfcloapbgfhaaaGreatDoorA2
import Derived.Test.YtmfcloapbgfhaaaGreatDoorA1
set_option linter.unusedVariables false
set_option linter.unusedSimpArgs false
set_option linter.unusedSectionVars false
namespace Go.Proofs.YtmfcloapbgfhaaaGreatDoor
section
open Go.RowKit
open Go.Lib hiding intOf
def qq (l:List ae):Prop:=l.Pairwise fun a b=>bE a b < 0
theorem vS:∀ {a b:List ae},qq a→qq b→(∀ x,x ∈ a↔x ∈ b)→a=b
  | [],[],_,_,_=>rfl
  | [],y :: b,_,_,h=>by have:=(h y).2 List.mem_cons_self; cases this
  | x :: a,[],_,_,h=>by have:=(h x).1 List.mem_cons_self; cases this
  | x :: a,y :: b,ha,hb,h=>by
    have ha':=List.pairwise_cons.1 ha
    have hb':=List.pairwise_cons.1 hb
    have e:x=y:=by
      rcases List.mem_cons.1 ((h x).1 List.mem_cons_self) with e | h1
      · exact e
      · rcases List.mem_cons.1 ((h y).2 List.mem_cons_self) with e | h2
        · exact e.symm
        · exact absurd (hb'.1 x h1) (rV (ha'.1 y h2))
    subst e
    rw [vS ha'.2 hb'.2 fun z=>?_]
    constructor
    · intro hz
      rcases List.mem_cons.1 ((h z).1 (List.mem_cons_of_mem _ hz)) with e | h1
      · subst e; exact absurd (ha'.1 z hz) oW
      · exact h1
    · intro hz
      rcases List.mem_cons.1 ((h z).2 (List.mem_cons_of_mem _ hz)) with e | h1
      · subst e; exact absurd (hb'.1 z hz) oW
      · exact h1
structure oH (l m:List ae):Prop where
  asc:qq m
  mem:∀ x,x ∈ m↔x ∈ l
  len:m.length≤l.length
theorem oH.uniq {l m m':List ae} (h:oH l m) (h':oH l m'):m=m':=vS h.asc h'.asc fun x=>(h.mem x).trans (h'.mem x).symm
def Ea (l:List an):Prop:=Rm l.length∧∀ r ∈ l,Rm r.Reads.length
def AP (l:List an):Prop:=l.Pairwise fun a b=>bE a.Key b.Key < 0
def oa (l:List an) (r:an):List an:=(l.filter fun x=>decide (bE x.Key r.Key < 0)) ++ r :: (l.filter fun x=>decide (0 < bE x.Key r.Key))
theorem ud (a:ae):cS a a=true:=dz.2 rfl
theorem xl (a b:ae):cS a b=cS b a:=by
  by_cases h:a=b
  · rw [h]
  · rw [qu.2 h,qu.2 fun e=>h e.symm]
def Kw:an:=⟨⟨0,⟨#[]⟩⟩,⟨#[]⟩,[],0,0,0,false⟩
def bW (l:List an) (k:ae):an×Bool:=match l.find? (fun r=>cS r.Key k) with | some r=>(r,true) | none=>(Kw,false)
theorem A6 {α:Type} {p:α→Bool} {l:List α} {k:Nat} {x:α} (h1:l[k]? = some x) (h2:p x=true) (h3:∀ j z,j < k→l[j]? = some z→p z=false):l.find? p=some x:=by
  obtain⟨h,e⟩:=List.getElem?_eq_some_iff.1 h1
  have:l=l.take k ++ x :: l.drop (k + 1):=by rw [← e]; simp
  rw [this,List.find?_append,List.find?_cons_of_pos h2]
  have:(l.take k).find? p=none:=by
    rw [List.find?_eq_none]
    intro z hz
    obtain⟨j,hj⟩:=List.mem_iff_getElem?.1 hz
    rw [List.getElem?_take] at hj
    split at hj
    · rename_i hjk
      rw [h3 j z hjk hj]; simp
    · cases hj
  rw [this]; rfl
theorem nh (a b:ae):iV a b=some (bE a b):=by
  unfold iV bE pW
  by_cases h1:a.Kind < b.Kind
  · simp [h1]
  · by_cases h2:b.Kind < a.Kind <;> simp [h1,h2]
theorem oN {r:an} (h:Rm r.Reads.length):fa r=some r:=by
  unfold fa Rm at *
  rw [show br (([]:List ae).length + r.Reads.length)=true from dv (by simp; omega)]; rfl
theorem xz {l:List an} {r:an} (h:AP l) (hl:Rm l.length) (hr:Rm r.Reads.length):kh l r=some (oa l r):=by
  unfold Rm at hl
  have hpl:∀ i,((l.take i).filter fun x=>decide (bE x.Key r.Key < 0)).length + ((l.take i).filter fun x=>decide (0 < bE x.Key r.Key)).length≤l.length:=fun i=>by
    have h1:∀ m:List an,(m.filter fun x=>decide (bE x.Key r.Key < 0)).length + (m.filter fun x=>decide (0 < bE x.Key r.Key)).length≤m.length:=by
      intro m
      induction m with
      | nil=>simp
      | cons y m ih =>
        by_cases a:bE y.Key r.Key < 0
        · rw [List.filter_cons_of_pos (by simpa using a),List.filter_cons_of_neg (by simp; omega)]; simp only [List.length_cons]; omega
        · by_cases b:0 < bE y.Key r.Key
          · rw [List.filter_cons_of_neg (by simpa using a),List.filter_cons_of_pos (by simpa using b)]; simp only [List.length_cons]; omega
          · rw [List.filter_cons_of_neg (by simpa using a),List.filter_cons_of_neg (by simpa using b)]; simp only [List.length_cons]; omega
    have:=h1 (l.take i)
    rw [List.length_take] at this; omega
  have key:Ok (kh l r) fun y=>y=oa l r:=by
    unfold kh
    refine Ok.loop (fun n t=>n≤l.length∧t.2.2=(n:Int)∧((t.1=l.take n∧t.2.1=false∧∀ x ∈ l.take n,bE x.Key r.Key < 0)∨(t.1=oa (l.take n) r∧t.2.1=true∧∃ x ∈ l.take n,¬ bE x.Key r.Key < 0)))
      (fun t=>(t.1=l∧t.2=false∧∀ x ∈ l,bE x.Key r.Key < 0)∨(t.1=oa l r∧t.2=true)) l.length ⟨Nat.zero_le _,rfl,.inl ⟨rfl,rfl,by simp⟩⟩ (fun n t hn hI=>?_) (fun t ht=>?_)
    · obtain⟨out,put,i⟩:=t
      obtain⟨_,h1,h2⟩:=hI
      dsimp only at h1 h2
      subst h1
      unfold ou
      dsimp only
      by_cases hi:n < l.length
      · have hx:l[n]? = some l[n]:=List.getElem?_eq_getElem hi
        obtain⟨x,hxe⟩:∃ x,x=l[n]:=⟨_,rfl⟩
        rw [← hxe] at hx
        rw [dlt hi,cond_true,aU,hx,Option.bind_some,nh,Option.bind_some]
        have tk:=bG hx
        have hle:=hpl n
        rcases h2 with⟨rfl,rfl,h3⟩|⟨rfl,rfl,y,hy,h3⟩
        · have e0:((l.take n).filter fun x=>decide (bE x.Key r.Key < 0))=l.take n:=List.filter_eq_self.2 fun x hx=>by simpa using h3 x hx
          have e1:((l.take n).filter fun x=>decide (0 < bE x.Key r.Key))=[]:=List.filter_eq_nil_iff.2 fun x hx=>by have:=h3 x hx; simp; omega
          rcases oV x.Key r.Key with hc | hc | hc
          · rw [hc]
            unfold gc ga f9
            rw [show br ((l.take n).length + [x].length)=true from dv (by simp; omega),cB (by omega)]
            refine Ok.ret ⟨hi,hi,rfl,.inl ⟨tk.symm,rfl,fun z hz=>?_⟩⟩
            rw [tk] at hz
            rcases List.mem_append.1 hz with hz | hz
            · exact h3 z hz
            · simp only [List.mem_cons,List.not_mem_nil,or_false] at hz; subst hz; omega
          · rw [hc]
            unfold gc ga f9
            rw [oN hr,cB (by omega)]
            simp only [Option.bind_some]
            rw [show br ((l.take n).length + [r].length)=true from dv (by simp; omega)]
            refine Ok.ret ⟨hi,hi,rfl,.inr ⟨?_,rfl,x,by rw [tk]; simp,by omega⟩⟩
            unfold oa
            rw [tk,List.filter_append,List.filter_append,e0,e1]
            simp [hc]
          · rw [hc]
            unfold gc ga f9
            rw [oN hr,cB (by omega)]
            simp only [Option.bind_some]
            rw [show br ((l.take n).length + [r].length)=true from dv (by simp; omega),show br ((l.take n ++ [r]).length + [x].length)=true from dv (by simp; omega)]
            refine Ok.ret ⟨hi,hi,rfl,.inr ⟨?_,rfl,x,by rw [tk]; simp,by omega⟩⟩
            unfold oa
            rw [tk,List.filter_append,List.filter_append,e0,e1]
            simp [hc]
        · have hyx:bE y.Key x.Key < 0:=by
            obtain⟨j,hj⟩:=List.mem_iff_getElem?.1 hy
            rw [List.getElem?_take] at hj
            split at hj
            · rename_i hjn
              obtain⟨q1,q2⟩:=List.getElem?_eq_some_iff.1 hj
              have:=List.pairwise_iff_getElem.1 h j n q1 hi hjn
              rw [q2,← hxe] at this; exact this
            · cases hj
          have hc:0 < bE x.Key r.Key:=by
            rw [mh]
            exact kK (b:=y.Key) h3 hyx
          have hc1:bE x.Key r.Key=1:=by rcases oV x.Key r.Key with h | h | h <;> omega
          rw [hc1]
          unfold gc ga f9
          rw [cB (by omega),show br ((oa (l.take n) r).length + [x].length)=true from dv (by unfold oa; simp only [List.length_append,List.length_cons,List.length_nil]; omega)]
          refine Ok.ret ⟨hi,hi,rfl,.inr ⟨?_,rfl,y,by rw [tk]; exact List.mem_append_left _ hy,h3⟩⟩
          unfold oa
          rw [tk,List.filter_append,List.filter_append]
          simp [hc1]
      · have hn2:n=l.length:=by omega
        rw [hn2,bA,cond_false]
        rw [hn2,List.take_length] at h2
        refine Ok.ret ?_
        rcases h2 with⟨a,b,c⟩|⟨a,b,c⟩
        · exact .inl ⟨a,b,c⟩
        · exact .inr ⟨a,b⟩
    · obtain⟨out,put⟩:=t
      dsimp only at ht
      unfold my mx
      rcases ht with⟨rfl,rfl,h3⟩|⟨rfl,rfl⟩
      · rw [oN hr]
        simp only [Bool.not_false,cond_true,Option.bind_some]
        rw [show br (out.length + [r].length)=true from dv (by simp; omega)]
        refine Ok.ret ?_
        unfold oa
        rw [List.filter_eq_self.2 fun x hx=>by simpa using h3 x hx,List.filter_eq_nil_iff.2 fun x hx=>by have:=h3 x hx; simp; omega]
      · exact Ok.ret rfl
  obtain⟨y,e,rfl⟩:=key
  exact e
theorem w7 {l:List ae} (h:Rm l.length):jy l l=some true:=by
  unfold Rm at h
  unfold jy
  rw [show ((l.length:Int) != (l.length:Int))=false by simp,cond_false]
  refine d7 (bT (xs:=l) (fun i=>(i:Int)) rfl (r:=.go ()) (fun i x hx=>?_) ?_) rfl
  · unfold f8
    rw [eJ hx,cond_true,aU,hx,Option.bind_some,Option.bind_some,cB (by have:=aY hx; omega)]
    show cond (!cS x x) _ _=_
    rw [ud]; rfl
  · unfold f8
    rw [bA]; rfl
theorem Dv {l:List an} {r x:an} (h:x ∈ oa l r):x ∈ l∨x=r:=by
  unfold oa at h
  rcases List.mem_append.1 h with h | h
  · exact .inl (List.mem_filter.1 h).1
  · rcases List.mem_cons.1 h with h | h
    · exact .inr h
    · exact .inl (List.mem_filter.1 h).1
theorem zu {l:List an} (h:AP l) (r:an):AP (oa l r):=by
  unfold AP oa
  rw [List.pairwise_append]
  refine⟨List.Pairwise.filter _ h,List.pairwise_cons.2 ⟨fun x hx=>?_,List.Pairwise.filter _ h⟩,fun x hx y hy=>?_⟩
  · have:=(List.mem_filter.1 hx).2
    simp only [decide_eq_true_eq] at this
    exact mh.1 this
  · have h1:=(List.mem_filter.1 hx).2
    simp only [decide_eq_true_eq] at h1
    rcases List.mem_cons.1 hy with rfl | hy
    · exact h1
    · have h2:=(List.mem_filter.1 hy).2
      simp only [decide_eq_true_eq] at h2
      exact jr h1 (mh.1 h2)
theorem qJ {l:List an} (hl:Ea l) (k:ae):cn l k=some (bW l k):=by
  have h1:=hl.1
  unfold Rm at h1
  unfold cn
  have key:=qx (B:=fun t:Int=>gt l k t) (xs:=l) (fun r=>cS r.Key k) (fun i=>(i:Int)) (s0:=0) rfl (y:=fun i x=>Fl.out (x,true)) (n:=Fl.go ()) (fun i x hx hp=>by
      unfold gt
      rw [eJ hx,cond_true,aU,hx,Option.bind_some,cB (by have:=aY hx; omega)]
      show cond (cS x.Key k) _ _=_
      rw [hp]; rfl) (fun i x hx hp=>by
      unfold gt
      rw [eJ hx,cond_true,aU,hx,Option.bind_some]
      show cond (cS x.Key k) _ _=_
      rw [hp,oN (hl.2 x (List.mem_of_getElem? hx))]; rfl) (by
      unfold gt
      rw [bA]; rfl)
  unfold bW
  rcases key with⟨i,x,h1,h2,h3,h4⟩|⟨h1,h2⟩
  · rw [h4,A6 (p:=fun r=>cS r.Key k) h1 h2 h3]; rfl
  · rw [h2,show l.find? (fun r=>cS r.Key k)=none from List.find?_eq_none.2 fun x hx=>by rw [h1 x hx]; simp]; rfl
theorem un {l:List ae} (hl:Rm l.length) (k:ae):m5 l k=some (l.any fun x=>cS k x):=by
  unfold Rm at hl
  unfold m5
  refine d7 (zj (xs:=l) (fun x=>cS k x) (fun i=>(i:Int)) rfl (y:=Fl.out true) (n:=Fl.go ()) (fun i x hx hp=>?_) (fun i x hx hp=>?_) ?_) ?_
  · unfold ke
    rw [eJ hx,cond_true,aU,hx,Option.bind_some,cB (by have:=aY hx; omega)]
    show cond (cS x k) _ _=_
    rw [xl,hp]; rfl
  · unfold ke
    rw [eJ hx,cond_true,aU,hx,Option.bind_some]
    show cond (cS x k) _ _=_
    rw [xl,hp]; rfl
  · unfold ke
    rw [bA]; rfl
  · cases l.any fun x=>cS k x <;> rfl
theorem E0 {out:List ae} (h:qq out) {i:Nat} {k:ae} (h1:∀ y ∈ out.take i,bE y k < 0) (h2:∀ y ∈ out.drop i,bE k y < 0):qq (out.take i ++ [k] ++ out.drop i):=by
  unfold qq at *
  rw [List.append_assoc,List.pairwise_append]
  refine⟨h.sublist (List.take_sublist _ _),List.pairwise_cons.2 ⟨fun y hy=>h2 y hy,h.sublist (List.drop_sublist _ _)⟩,fun a ha b hb=>?_⟩
  rcases List.mem_cons.1 hb with rfl | hb
  · exact h1 a ha
  · exact jr (h1 a ha) (h2 b hb)
theorem E1 {out:List ae} {i:Nat} {k x:ae}:x ∈ out.take i ++ [k] ++ out.drop i↔x ∈ out∨x=k:=by
  conv=>rhs; rw [← List.take_append_drop i out]
  simp only [List.mem_append,List.mem_cons,List.not_mem_nil,or_false]
  constructor
  · rintro ((h | h) | h)
    · exact .inl (.inl h)
    · exact .inr h
    · exact .inl (.inr h)
  · rintro ((h | h) | h)
    · exact .inl (.inl h)
    · exact .inr h
    · exact .inl (.inr h)
theorem sF {l:List ae} (hl:Rm l.length):∃ m,im l=some m∧oH l m:=by
  unfold Rm at hl
  have key:Ok (im l) fun m=>oH l m:=by
    unfold im
    refine Ok.loop (fun n s=>s.2=(n:Int)∧n≤l.length∧oH (l.take n) s.1) (fun r=>oH l r) l.length ⟨rfl,Nat.zero_le _,List.Pairwise.nil,fun x=>by simp,by simp⟩ (fun n s hn hI=>?_) (fun r hr=>Ok.ret hr)
    obtain⟨out,g⟩:=s
    obtain⟨h1,h2,h3⟩:=hI
    dsimp only at h1 h3
    subst h1
    have hol:=h3.len
    rw [List.length_take] at hol
    unfold lg
    dsimp only
    by_cases hi:n < l.length
    · have hx:l[n]? = some l[n]:=List.getElem?_eq_getElem hi
      obtain⟨k,hk⟩:∃ k,k=l[n]:=⟨_,rfl⟩
      rw [← hk] at hx
      rw [dlt hi,cond_true,aU,hx,Option.bind_some]
      have stay:k ∈ out→oH (l.take (n + 1)) out:=fun hm=>⟨h3.asc,fun x=>by
        rw [bG hx,List.mem_append,h3.mem]
        constructor
        · exact .inl
        · rintro (h | h)
          · exact h
          · simp only [List.mem_cons,List.not_mem_nil,or_false] at h
            subst h; exact (h3.mem _).1 hm,by rw [List.length_take]; omega⟩
      have put:∀ i:Nat,i≤out.length→(∀ y ∈ out.take i,bE y k < 0)→(∀ y ∈ out.drop i,bE k y < 0)→oH (l.take (n + 1)) (out.take i ++ [k] ++ out.drop i):=fun i hio q1 q2=>⟨E0 h3.asc q1 q2,fun x=>by
        rw [E1,bG hx,List.mem_append,h3.mem]
        simp,by simp only [List.length_append,List.length_take,List.length_drop,List.length_cons,List.length_nil]; omega⟩
      have j3:∀ i:Nat,i≤out.length→(∀ y ∈ out.take i,bE y k < 0)→(∀ y ∈ out.drop i,bE k y < 0)→Ok (dL out (n:Int) k (i:Int) true) fun r=>match r with
          | .go s'=>n < l.length∧s'.2=((n + 1:Nat):Int)∧n + 1≤l.length∧oH (l.take (n + 1)) s'.1
          | .out r=>oH l r:=fun i hio q1 q2=>by
        unfold dL fX
        rw [cond_true,ql hio,Option.bind_some,r9 hio,Option.bind_some,cB (by omega)]
        have r1:br (([]:List ae).length + (out.take i).length)=true:=dv (by simp; omega)
        have r2:br ((([]:List ae) ++ out.take i).length + [k].length)=true:=dv (by simp; omega)
        have r3:br (((([]:List ae) ++ out.take i) ++ [k]).length + (out.drop i).length)=true:=dv (by simp; omega)
        rw [r1,r2,r3]
        simp only [gd,cond_true,List.nil_append]
        exact Ok.ret ⟨hi,rfl,hi,put i hio q1 q2⟩
      have inner:=qx (B:=fun t:Int=>eM out k t) (xs:=out) (fun y=>!decide (bE y k < 0)) (fun i=>(i:Int)) (s0:=0) rfl (y:=fun i _=>(i:Int)) (n:=(out.length:Int)) (fun i y hy hp=>by
          unfold eM
          simp only [Bool.not_eq_false'] at hp
          rw [eJ hy,cond_true,aU,hy,Option.bind_some,nh,Option.bind_some,hp,cond_true,cB (by have:=aY hy; omega)]) (fun i y hy hp=>by
          unfold eM
          simp only [Bool.not_eq_true'] at hp
          rw [eJ hy,cond_true,aU,hy,Option.bind_some,nh,Option.bind_some,hp,cond_false]) (by
          unfold eM
          rw [bA]; rfl)
      rcases inner with⟨i,y,a1,a2,a3,a4⟩|⟨a1,a2⟩
      · rw [a4,Option.bind_some]
        have hio:=aY a1
        have hge:¬ bE y k < 0:=by simpa using a2
        have hb:∀ z ∈ out.take i,bE z k < 0:=fun z hz=>by
          obtain⟨j,hj⟩:=List.mem_iff_getElem?.1 hz
          rw [List.getElem?_take] at hj
          split at hj
          · rename_i hji
            simpa using a3 j z hji hj
          · cases hj
        unfold iE
        rw [show ((i:Int) == (out.length:Int))=false from by simp; omega,cond_false,aU,a1,Option.bind_some]
        show Ok (dL out (n:Int) k (i:Int) (!cS y k)) _
        cases hq:cS y k
        · rw [Bool.not_false]
          refine (j3 i (by omega) hb fun z hz=>?_).mono fun y hy=>by cases y <;> exact hy
          have hyk:bE k y < 0:=by
            rcases qb y k with h | h | h
            · exact absurd h hge
            · exact absurd h (qu.1 hq)
            · exact h
          obtain⟨j,hj⟩:=List.mem_iff_getElem?.1 hz
          rw [List.getElem?_drop] at hj
          obtain⟨q1,q2⟩:=List.getElem?_eq_some_iff.1 hj
          obtain⟨q3,q4⟩:=List.getElem?_eq_some_iff.1 a1
          by_cases hj0:j=0
          · subst hj0
            rw [Nat.add_zero,a1] at hj
            injection hj with hj
            rw [← hj]; exact hyk
          · have:=List.pairwise_iff_getElem.1 h3.asc i (i + j) q3 q1 (by omega)
            rw [q4,q2] at this
            exact jr hyk this
        · unfold dL fX
          rw [Bool.not_true,cond_false,cB (by omega)]
          exact Ok.ret ⟨hi,rfl,hi,stay (by rw [← dz.1 hq]; exact List.mem_of_getElem? a1)⟩
      · rw [a2,Option.bind_some]
        unfold iE
        rw [beq_self_eq_true,cond_true]
        refine (j3 out.length (Nat.le_refl _) (fun z hz=>?_) (fun z hz=>by rw [List.drop_length] at hz; cases hz)).mono fun y hy=>by cases y <;> exact hy
        rw [List.take_length] at hz
        simpa using a1 z hz
    · rw [Ah hi,cond_false]
      have:n=l.length:=by omega
      subst this
      rw [List.take_length] at h3
      exact Ok.ret h3
  obtain⟨m,e,h⟩:=key
  exact⟨m,e,h⟩
end
section
open Go.RowKit
open Go.Lib hiding intOf
instance Lp:DecidableEq ae:=fun a b=>decidable_of_iff (cS a b=true) dz
inductive kq {α:Type} (E:α→α→Prop) (x:α):α→Prop
  | refl:kq E x x
  | snoc {y z:α}:kq E x y→E y z→kq E x z
theorem kq.trans {α:Type} {E:α→α→Prop} {x y z:α} (h:kq E x y) (k:kq E y z):kq E x z:=by
  induction k with
  | refl=>exact h
  | snoc _ e ih=>exact .snoc ih e
theorem kq.head {α:Type} {E:α→α→Prop} {x y z:α} (h:E x y) (k:kq E y z):kq E x z:=(kq.snoc .refl h).trans k
def zW {α:Type} (E:α→α→Prop) (x z:α):Prop:=∃ y,kq E x y∧E y z
theorem zW.star {α:Type} {E:α→α→Prop} {x z:α} (h:zW E x z):kq E x z:=by obtain⟨y,h1,h2⟩:=h; exact .snoc h1 h2
theorem kq.plus {α:Type} {E:α→α→Prop} {x z:α} (h:kq E x z) (hne:x ≠ z):zW E x z:=by
  cases h with
  | refl=>exact absurd rfl hne
  | snoc h1 h2=>exact⟨_,h1,h2⟩
theorem m4 {α:Type}:∀ {l m:List α},l.Nodup→(∀ x ∈ l,x ∈ m)→l.length≤m.length
  | [],m,_,_=>Nat.zero_le _
  | x :: l,m,h,hs=>by
    have h':=List.nodup_cons.1 h
    obtain⟨a,b,rfl⟩:=List.append_of_mem (hs x List.mem_cons_self)
    have:=m4 (l:=l) (m:=a ++ b) h'.2 fun y hy=>by
      have h1:=hs y (List.mem_cons_of_mem _ hy)
      rw [List.mem_append,List.mem_cons] at h1
      rw [List.mem_append]
      rcases h1 with h1 | rfl | h1
      · exact .inl h1
      · exact absurd hy h'.1
      · exact .inr h1
    simp only [List.length_cons,List.length_append] at this ⊢
    omega
theorem eV:∀ a b:ae,aC a b=true↔a=b:=fun a b=>dz (a:=a) (b:=b)
theorem Dw {m:List (ae×Bool)} {M:List ae} (h:∀ x,(bQ aC x m).getD false=decide (x ∈ M)) (e:ae):∀ x,(bQ aC x (cT aC e true m)).getD false=decide (x ∈ M ++ [e]):=fun x=>by
  rw [qc eV]
  by_cases hx:x=e
  · subst hx; rw [if_pos ((eV _ _).2 rfl)]; simp
  · rw [if_neg (fun h=>hx ((eV _ _).1 h)),h]; simp [hx]
section
variable {succ:ae→List ae} {filt:ae→Bool}
def zU (succ:ae→List ae) (filt:ae→Bool) (T:List ae) (i g:Nat) (x r:ae):Prop :=
  ∃ j,T[j]? = some x∧filt r=true∧((j < i∧r ∈ succ x)∨(j=i∧r ∈ (succ x).take g))
theorem zU.grow {T T':List ae} {i g:Nat} {x r:ae} (hi:i < T.length):zU succ filt (T ++ T') i g x r↔zU succ filt T i g x r:=by
  constructor
  · rintro⟨j,h1,h2,h3⟩
    rw [List.getElem?_append_left (by omega)] at h1
    exact⟨j,h1,h2,h3⟩
  · rintro⟨j,h1,h2,h3⟩
    exact⟨j,by rw [List.getElem?_append_left (by omega)]; exact h1,h2,h3⟩
theorem zU.step {T:List ae} {i g:Nat} {c e:ae} (hc:T[i]? = some c) (he:(succ c)[g]? = some e) {x r:ae}:zU succ filt T i (g + 1) x r↔zU succ filt T i g x r∨(x=c∧r=e∧filt e=true):=by
  constructor
  · rintro⟨j,h1,h2,h3 | ⟨rfl,h3⟩⟩
    · exact .inl ⟨j,h1,h2,.inl h3⟩
    · rw [hc] at h1
      injection h1 with h1
      subst h1
      rw [bG he,List.mem_append,List.mem_singleton] at h3
      rcases h3 with h3 | rfl
      · exact .inl ⟨j,hc,h2,.inr ⟨rfl,h3⟩⟩
      · exact .inr ⟨rfl,rfl,h2⟩
  · rintro (⟨j,h1,h2,h3 | ⟨rfl,h3⟩⟩|⟨rfl,rfl,h⟩)
    · exact⟨j,h1,h2,.inl h3⟩
    · rw [hc] at h1
      injection h1 with h1
      subst h1
      exact⟨j,hc,h2,.inr ⟨rfl,by rw [bG he]; exact List.mem_append_left _ h3⟩⟩
    · exact⟨i,hc,h,.inr ⟨rfl,by rw [bG he]; simp⟩⟩
theorem zU.next {T:List ae} {i:Nat} {c:ae} (hc:T[i]? = some c) {x r:ae}:zU succ filt T i (succ c).length x r↔zU succ filt T (i + 1) 0 x r:=by
  constructor
  · rintro⟨j,h1,h2,h3 | ⟨rfl,h3⟩⟩
    · exact⟨j,h1,h2,.inl ⟨by omega,h3.2⟩⟩
    · rw [hc] at h1
      injection h1 with h1
      subst h1
      rw [List.take_length] at h3
      exact⟨j,hc,h2,.inl ⟨by omega,h3⟩⟩
  · rintro⟨j,h1,h2,h3 | ⟨rfl,h3⟩⟩
    · by_cases hj:j=i
      · subst hj
        rw [hc] at h1
        injection h1 with h1
        subst h1
        exact⟨j,hc,h2,.inr ⟨rfl,by rw [List.take_length]; exact h3.2⟩⟩
      · exact⟨j,h1,h2,.inl ⟨by omega,h3.2⟩⟩
    · simp at h3
structure WL (succ:ae→List ae) (filt:ae→Bool) (Rch:ae→Prop) (pre:List ae) (seen:List (ae×Bool)) (M:List ae) (i g:Nat):Prop where
  nd:M.Nodup
  see:∀ x,(bQ aC x seen).getD false=decide (x ∈ M)
  rch:∀ x ∈ M,Rch x
  con:∀ x r,zU succ filt (pre ++ M) i g x r→r ∈ M
variable {Rch:ae→Prop} {pre:List ae} {seen:List (ae×Bool)} {M:List ae} {i g:Nat} {c e:ae}
theorem WL.skip (h:WL succ filt Rch pre seen M i g) (hc:(pre ++ M)[i]? = some c) (he:(succ c)[g]? = some e) (hf:filt e=false):WL succ filt Rch pre seen M i (g + 1) :=
  ⟨h.nd,h.see,h.rch,fun x r hx=>by
    rcases (zU.step hc he).1 hx with h1 | ⟨_,_,h1⟩
    · exact h.con x r h1
    · rw [hf] at h1; cases h1⟩
theorem WL.old (h:WL succ filt Rch pre seen M i g) (hc:(pre ++ M)[i]? = some c) (he:(succ c)[g]? = some e) (hm:e ∈ M):WL succ filt Rch pre seen M i (g + 1) :=
  ⟨h.nd,h.see,h.rch,fun x r hx=>by
    rcases (zU.step hc he).1 hx with h1 | ⟨_,rfl,_⟩
    · exact h.con x r h1
    · exact hm⟩
theorem WL.new (h:WL succ filt Rch pre seen M i g) (hc:(pre ++ M)[i]? = some c) (he:(succ c)[g]? = some e) (hm:e ∉ M) (hr:Rch e):WL succ filt Rch pre (cT aC e true seen) (M ++ [e]) i (g + 1) :=
  ⟨List.nodup_append.2 ⟨h.nd,by simp,fun a ha b hb e2=>by rw [List.mem_singleton] at hb; subst hb e2; exact hm ha⟩,Dw h.see e,fun x hx=>by
    rcases List.mem_append.1 hx with hx | hx
    · exact h.rch x hx
    · rw [List.mem_singleton] at hx; subst hx; exact hr,fun x r hx=>by
    have hi:i < (pre ++ M).length:=(List.getElem?_eq_some_iff.1 hc).1
    rw [← List.append_assoc,zU.grow hi] at hx
    rcases (zU.step hc he).1 hx with h1 | ⟨_,rfl,_⟩
    · exact List.mem_append_left _ (h.con x r h1)
    · simp⟩
theorem WL.next (h:WL succ filt Rch pre seen M i g) (hc:(pre ++ M)[i]? = some c) (hg:g=(succ c).length):WL succ filt Rch pre seen M (i + 1) 0 :=
  ⟨h.nd,h.see,h.rch,fun x r hx=>h.con x r (by subst hg; exact (zU.next hc).2 hx)⟩
theorem WL.fin (h:WL succ filt Rch pre seen M i g) (hi:(pre ++ M).length≤i) {x r:ae} (hx:x ∈ pre ++ M) (hr:r ∈ succ x) (hf:filt r=true):r ∈ M:=by
  obtain⟨j,hj⟩:=List.mem_iff_getElem?.1 hx
  exact h.con x r ⟨j,hj,hf,.inl ⟨by have:=(List.getElem?_eq_some_iff.1 hj).1; omega,hr⟩⟩
end
section
variable {rd:ae→List ae} {op:ae→Bool} {k:ae}
def Eg (rd:ae→List ae) (op:ae→Bool) (x y:ae):Prop:=op x=true∧y ∈ rd x∧op y=true
theorem Fj (hk:op k=true) {x:ae} (h:kq (Eg rd op) k x):op x=true:=by
  cases h with
  | refl=>exact hk
  | snoc _ e=>exact e.2.2
end
def oO (k:ae):Bool:=decide (k.Kind=32) || (decide (k.Kind=7) || decide (k.Kind=14) || decide (k.Kind=17) || decide (k.Kind=18))
theorem fp (k:ae):bX k=some (oO k):=by
  unfold bX oq oO eL eK
  have hb:∀ n:Int,((k.Kind:Int) == n)=decide (k.Kind=n):=fun n=>by rw [Bool.eq_iff_iff]; simp
  rw [hb,hb,hb,hb,hb]
  by_cases h32:k.Kind=32
  · simp [h32]
  · by_cases h7:k.Kind=7
    · simp [h7]
    · by_cases h14:k.Kind=14
      · simp [h14]
      · by_cases h17:k.Kind=17
        · simp [h17]
        · by_cases h18:k.Kind=18
          · simp [h18]
          · simp only [h32,h7,h14,h17,h18,decide_false,Bool.or_false,cond_false]
            cases decide ((1:Int)≤k.Kind) <;> cases decide ((k.Kind:Int)≤22) <;> rfl
def Dn (r:an) (rev:Int):Bool:=oO r.Key && decide (r.Verified < rev) && !r.Dirty
theorem Do (r:an) (rev:Int):Dn r rev=(oO r.Key && decide (r.Verified < rev) && !r.Dirty):=rfl
noncomputable def yH (l:List an) (rev:Int) (k:ae):Bool:=(bW l k).2 && Dn (bW l k).1 rev
def xv (l:List an) (k:ae):List ae:=(bW l k).1.Reads
theorem iP {l:List an} {k:ae} (h:(bW l k).2=true):(bW l k).1 ∈ l∧(bW l k).1.Key=k:=by
  unfold bW at *
  cases hf:l.find? (fun r=>cS r.Key k) with
  | none=>rw [hf] at h; cases h
  | some r =>
    have h2:=List.find?_some hf
    exact⟨List.mem_of_find?_eq_some hf,dz.1 h2⟩
theorem rQ {l:List an} {k:ae} (h:(bW l k).2=false):bW l k=(Kw,false)∧∀ r ∈ l,r.Key ≠ k:=by
  unfold bW at *
  cases hf:l.find? (fun r=>cS r.Key k) with
  | none =>
    refine⟨rfl,fun r hr e=>?_⟩
    have:=List.find?_eq_none.1 hf r hr
    exact this (dz.2 e)
  | some r=>rw [hf] at h; cases h
theorem yf {l:List an} {rev:Int} {k:ae} (h:yH l rev k=true):k ∈ l.map an.Key:=by
  unfold yH at h
  simp only [Bool.and_eq_true] at h
  obtain⟨h1,h2⟩:=iP h.1
  exact List.mem_map.2 ⟨_,h1,h2⟩
theorem sW {l:List an} (hl:Ea l) (rev:Int) (k:ae):nb l rev k=some (yH l rev k):=by
  unfold nb gv
  rw [qJ hl,Option.bind_some]
  cases hf:(bW l k).2 with
  | false=>simp [yH,hf]
  | true =>
    have hk:=(iP hf).2
    unfold yH
    rw [hf,Do,hk,cond_true,fp,Option.bind_some]
    cases oO k <;> cases decide (((bW l k).1.Verified:Int) < rev) <;> rfl
structure Bz (l:List an):Prop where
  asc:AP l
  len:l.length≤1000
  rds:∀ r ∈ l,r.Reads.length≤1000
theorem Bz.rm {l:List an} (h:Bz l):Ea l:=⟨by have:=h.len; unfold Rm; omega,fun r hr=>by have:=h.rds r hr; unfold Rm; omega⟩
theorem Bz.rd {l:List an} (h:Bz l) (k:ae):(xv l k).length≤1000:=by
  unfold xv
  cases hf:(bW l k).2 with
  | true=>exact h.rds _ (iP hf).1
  | false=>rw [(rQ hf).1]; exact Nat.zero_le _
noncomputable abbrev Ek (l:List an) (rev:Int):=Eg (xv l) (yH l rev)
def HW (l:List an) (rev:Int) (k:ae) (m:List ae):Prop:=qq m∧∀ x,x ∈ m↔kq (Ek l rev) k x∧kq (Ek l rev) x k
section
variable {l:List an} (hl:Bz l) {rev:Int} {k:ae} (hk:yH l rev k=true)
theorem rI (hk:yH l rev k=true) {x:ae} (h:kq (Ek l rev) k x):yH l rev x=true:=Fj hk h
abbrev B1 (l:List an) (rev:Int) (k:ae) (seen:List (ae×Bool)) (M:List ae) (i g:Nat):Prop:=WL (xv l) (yH l rev) (zW (Ek l rev) k) [k] seen M i g
theorem B1.len {seen:List (ae×Bool)} {M:List ae} {i g:Nat} (h:B1 l rev k seen M i g):M.length≤l.length:=by
  have:=m4 (m:=l.map an.Key) h.nd fun x hx=>by
    obtain⟨y,_,e⟩:=h.rch x hx
    exact yf e.2.2
  rwa [List.length_map] at this
include hl hk in
theorem Dc {seen:List (ae×Bool)} {M:List ae} {i:Nat} {c:ae} (hc:([k] ++ M)[i]? = some c) (h:B1 l rev k seen M i 0) :
    Ok (loop (fun s:(List (ae×Bool))×(List ae)×Int=>ey l rev (bW l c) s.1 s.2.1 s.2.2) (seen,[k] ++ M,0)) fun r=>∃ M',r.2=[k] ++ M'∧B1 l rev k r.1 M' (i + 1) 0∧i < ([k] ++ M').length:=by
  have hcs:kq (Ek l rev) k c:=by
    cases i with
    | zero=>simp at hc; subst hc; exact .refl
    | succ i =>
      rw [List.getElem?_append_right (by simp)] at hc
      exact (h.rch c (List.mem_of_getElem? hc)).star
  have hcop:=rI hk hcs
  have hrl:=hl.rd c
  have hll:=hl.len
  refine oC (B:=fun s:(List (ae×Bool))×(List ae)×Int=>ey l rev (bW l c) s.1 s.2.1 s.2.2)
    (fun g s=>s.2.2=(g:Int)∧∃ M',s.2.1=[k] ++ M'∧B1 l rev k s.1 M' i g∧([k] ++ M')[i]? = some c) _ (xv l c).length ?_ ?_ ⟨rfl,M,rfl,h,hc⟩
  · rintro g ⟨sn,L,gi⟩ hg ⟨rfl,M',rfl,hA,hLc⟩
    dsimp only at hA hLc ⊢
    have hge:(xv l c)[g]? = some (xv l c)[g]:=List.getElem?_eq_getElem hg
    have hlen:=B1.len hA
    have hLi:i < ([k] ++ M').length:=(List.getElem?_eq_some_iff.1 hLc).1
    refine .inl ?_
    have hgu:(bW l c).1.Reads=xv l c:=rfl
    unfold ey
    rw [hgu,dlt hg,cond_true,aU,hge,Option.bind_some]
    generalize (xv l c)[g]=e at hge
    rw [sW hl.rm,Option.bind_some]
    unfold jN jM
    rw [cB (by omega)]
    cases hf:yH l rev e with
    | false=>exact⟨_,rfl,rfl,M',rfl,hA.skip hLc hge hf,hLc⟩
    | true =>
      have hEg:Ek l rev c e:=⟨hcop,List.mem_of_getElem? hge,hf⟩
      rw [cond_true,hA.see e,Option.bind_some]
      by_cases hm:e ∈ M'
      · rw [decide_eq_true hm]
        exact⟨_,rfl,rfl,M',rfl,hA.old hLc hge hm,hLc⟩
      · rw [decide_eq_false hm]
        simp only [Bool.not_false,cond_true]
        rw [gd,dv (by simp only [List.length_singleton,List.length_append]; omega),cond_true]
        refine⟨_,rfl,rfl,M' ++ [e],by simp,hA.new hLc hge hm ⟨c,hcs,hEg⟩,?_⟩
        rw [← List.append_assoc,List.getElem?_append_left hLi]; exact hLc
  · rintro⟨sn,L,gi⟩ ⟨rfl,M',rfl,hA,hLc⟩
    dsimp only at hA hLc ⊢
    have hend:ey l rev (bW l c) sn ([k] ++ M') ((xv l c).length:Int)=some (.out (sn,[k] ++ M')):=by
      unfold ey
      rw [show (bW l c).1.Reads=xv l c from rfl,bA]; rfl
    exact⟨_,hend,M',rfl,hA.next hLc rfl,(List.getElem?_eq_some_iff.1 hLc).1⟩
include hl hk in
theorem zg:Ok (lX l rev k) fun m=>∀ x,(bQ aC x m).getD false=true↔zW (Ek l rev) k x:=by
  have hll:=hl.len
  have h0:B1 l rev k [] [] 0 0:=⟨List.nodup_nil,fun x=>by simp [bQ],fun x hx=>by simp at hx,fun x r h=>by
    obtain⟨j,h1,h2,h3 | ⟨_,h3⟩⟩:=h
    · omega
    · simp at h3⟩
  have fin:∀ {sn M i},B1 l rev k sn M i 0→([k] ++ M).length≤i→∀ x,(bQ aC x sn).getD false=true↔zW (Ek l rev) k x:=by
    intro sn M i hA hL x
    rw [hA.see,decide_eq_true_iff]
    refine⟨hA.rch x,?_⟩
    rintro⟨y,hy,e⟩
    have hall:∀ z,kq (Ek l rev) k z→z ∈ [k] ++ M:=fun z hz=>by
      induction hz with
      | refl=>simp
      | snoc _ e ih=>exact List.mem_append_right _ (hA.fin hL ih e.2.1 e.2.2)
    exact hA.fin hL (hall y hy) e.2.1 e.2.2
  unfold lX mB
  refine Ok.bind (Q:=fun m=>∀ x,(bQ aC x m).getD false=true↔zW (Ek l rev) k x) ?_ fun m hm=>Ok.ret hm
  refine oC (B:=fun s:(List (ae×Bool))×(List ae)×Int=>fG l rev s.1 s.2.1 s.2.2)
    (fun i s=>s.2.2=(i:Int)∧∃ M,s.2.1=[k] ++ M∧B1 l rev k s.1 M i 0∧i≤([k] ++ M).length) _ (l.length + 1) ?_ ?_ ⟨rfl,[],rfl,h0,Nat.zero_le _⟩
  · rintro i ⟨sn,L,ii⟩ hi ⟨rfl,M,rfl,hA,hiL⟩
    dsimp only at hA hiL ⊢
    by_cases hlt:i < ([k] ++ M).length
    · refine .inl ?_
      have hc:([k] ++ M)[i]? = some ([k] ++ M)[i]:=List.getElem?_eq_getElem hlt
      obtain⟨⟨s2,L2⟩,e2,M',rfl,h2,h3⟩:=Dc hl hk hc hA
      refine⟨(s2,[k] ++ M',((i + 1:Nat):Int)),?_,rfl,M',rfl,h2,h3⟩
      unfold fG jL
      rw [dlt hlt,cond_true,aU,hc,Option.bind_some,qJ hl.rm,Option.bind_some,e2,Option.bind_some,cB (by omega)]
    · refine .inr ⟨sn,?_,fin hA (by omega)⟩
      unfold fG
      rw [Ah hlt]; rfl
  · rintro⟨sn,L,ii⟩ ⟨rfl,M,rfl,hA,hiL⟩
    dsimp only at hA hiL ⊢
    have hlen:=B1.len hA
    have hlen2:([k] ++ M).length≤l.length + 1:=by rw [List.length_append,List.length_singleton]; omega
    refine⟨sn,?_,fin hA hlen2⟩
    unfold fG
    rw [Ah (by omega)]; rfl
include hl hk in
theorem Dz:Ok (kV l rev k) (HW l rev k):=by
  have hll:=hl.len
  unfold kV
  rw [sW hl.rm,Option.bind_some,hk]
  simp only [Bool.not_true,cond_false]
  refine Ok.bind (zg hl hk) fun tm htm=>?_
  unfold py
  refine Ok.bind (Q:=fun out=>out.length≤1001∧∀ x,x ∈ out↔kq (Ek l rev) k x∧kq (Ek l rev) x k) ?_ fun out ⟨h1,h2⟩=>?_
  · refine oC (B:=fun s:(List ae)×Int=>lW l rev k tm s.1 s.2)
      (fun i s=>s.2=(i:Int)∧s.1.length≤i + 1∧∀ x,x ∈ s.1↔x=k∨(∃ r ∈ l.take i,r.Key=x)∧kq (Ek l rev) k x∧kq (Ek l rev) x k) _ l.length ?_ ?_ ⟨rfl,by simp,fun x=>by simp⟩
    · rintro i ⟨out,ii⟩ hi ⟨rfl,hlen,hm⟩
      dsimp only at hlen hm ⊢
      refine .inl ?_
      have hr:l[i]? = some l[i]:=List.getElem?_eq_getElem hi
      generalize l[i]=r at hr
      have hkeep:¬ (r.Key ≠ k∧kq (Ek l rev) k r.Key∧kq (Ek l rev) r.Key k)→∀ x,x ∈ out↔x=k∨(∃ r ∈ l.take (i + 1),r.Key=x)∧kq (Ek l rev) k x∧kq (Ek l rev) x k:=fun hn x=>by
        rw [hm,bG hr]
        constructor
        · rintro (h | ⟨⟨r',h1,h2⟩,h3⟩)
          · exact .inl h
          · exact .inr ⟨⟨r',List.mem_append_left _ h1,h2⟩,h3⟩
        · rintro (h | ⟨⟨r',h1,h2⟩,h3⟩)
          · exact .inl h
          · rcases List.mem_append.1 h1 with h1 | h1
            · exact .inr ⟨⟨r',h1,h2⟩,h3⟩
            · rw [List.mem_singleton] at h1
              subst h1 h2
              by_cases hx:r'.Key=k
              · exact .inl hx
              · exact absurd ⟨hx,h3⟩ hn
      have hadd:kq (Ek l rev) k r.Key→kq (Ek l rev) r.Key k→∀ x,x ∈ out ++ [r.Key]↔x=k∨(∃ r ∈ l.take (i + 1),r.Key=x)∧kq (Ek l rev) k x∧kq (Ek l rev) x k:=fun ha hb x=>by
        rw [List.mem_append,hm,bG hr,List.mem_singleton]
        constructor
        · rintro ((h | ⟨⟨r',h1,h2⟩,h3⟩) | rfl)
          · exact .inl h
          · exact .inr ⟨⟨r',List.mem_append_left _ h1,h2⟩,h3⟩
          · exact .inr ⟨⟨r,by simp,rfl⟩,ha,hb⟩
        · rintro (h | ⟨⟨r',h1,h2⟩,h3⟩)
          · exact .inl (.inl h)
          · rcases List.mem_append.1 h1 with h1 | h1
            · exact .inl (.inr ⟨⟨r',h1,h2⟩,h3⟩)
            · rw [List.mem_singleton] at h1
              subst h1 h2; exact .inr rfl
      unfold lW lV nR
      rw [dlt hi,cond_true,aU,hr,Option.bind_some,cB (by omega)]
      show ∃ s',cond (!(cS r.Key k)) _ _=_∧_
      by_cases hx:r.Key=k
      · rw [dz.2 hx]
        exact⟨_,rfl,rfl,by dsimp only; omega,hkeep fun h=>h.1 hx⟩
      · rw [qu.2 hx]
        simp only [Bool.not_false,cond_true,Option.bind_some]
        cases ht:(bQ aC r.Key tm).getD false with
        | false =>
          refine⟨_,rfl,rfl,by dsimp only; omega,hkeep fun h=>?_⟩
          have:=(htm r.Key).2 (h.2.1.plus (fun e=>hx e.symm))
          rw [ht] at this; cases this
        | true =>
          have hp:=(htm r.Key).1 ht
          obtain⟨m2,e2,h2⟩:=zg hl (rI hk hp.star)
          rw [cond_true,e2,Option.bind_some]
          cases ht2:(bQ aC k m2).getD false with
          | false =>
            refine⟨_,rfl,rfl,by dsimp only; omega,hkeep fun h=>?_⟩
            have:=(h2 k).2 (h.2.2.plus hx)
            rw [ht2] at this; cases this
          | true =>
            have hp2:=(h2 k).1 ht2
            rw [cond_true,gd,dv (by simp only [List.length_singleton]; omega),cond_true]
            exact⟨_,rfl,rfl,by simp only [List.length_append,List.length_singleton]; omega,hadd hp.star hp2.star⟩
    · rintro⟨out,ii⟩ ⟨rfl,hlen,hm⟩
      dsimp only at hlen hm ⊢
      refine⟨out,by unfold lW; rw [bA]; rfl,by omega,fun x=>(hm x).trans ?_⟩
      rw [List.take_length]
      constructor
      · rintro (rfl | ⟨_,h⟩)
        · exact⟨.refl,.refl⟩
        · exact h
      · intro h
        by_cases hx:x=k
        · exact .inl hx
        · obtain⟨r,hr,e⟩:=List.mem_map.1 (yf (rI hk h.1))
          exact .inr ⟨⟨r,hr,e⟩,h⟩
  · obtain⟨m,e,hm⟩:=sF (l:=out) (by unfold Rm; omega)
    rw [e]
    exact Ok.ret ⟨hm.asc,fun x=>(hm.mem x).trans (h2 x)⟩
end
theorem HW.uniq {l:List an} {rev:Int} {k:ae} {m m':List ae} (h:HW l rev k m) (h':HW l rev k m'):m=m':=vS h.1 h'.1 fun x=>(h.2 x).trans (h'.2 x).symm
theorem HW.len {l:List an} (hl:Bz l) {rev:Int} {k:ae} (hk:yH l rev k=true) {m:List ae} (h:HW l rev k m):m.length≤1000:=by
  have hn:m.Nodup:=List.Pairwise.imp (fun {a b} h=>nn h) h.1
  have:=m4 (m:=l.map an.Key) hn fun x hx=>yf (rI hk ((h.2 x).1 hx).1)
  rw [List.length_map] at this
  exact Nat.le_trans this hl.len
def CF (l:List an) (g:List ae) (m:ae):List cw:=((xv l m).filter fun x=>!(g.any fun y=>cS x y)).map fun x=>⟨m,x⟩
def eB (l:List an) (g h:List ae):List cw:=h.flatMap (CF l g)
theorem CG {l:List an} (hl:Bz l) (g:List ae) (m:ae):(CF l g m).length≤1000:=by
  unfold CF
  rw [List.length_map]
  exact Nat.le_trans (List.length_filter_le _ _) (hl.rd m)
theorem pp {l:List an} (hl:Bz l) (g:List ae):∀ h:List ae,(eB l g h).length≤h.length * 1000
  | []=>Nat.zero_le _
  | m :: h=>by
    have:=pp hl g h
    have:=CG hl g m
    unfold eB at *
    rw [List.flatMap_cons,List.length_append,List.length_cons]; omega
theorem xe {l:List an} (hl:Bz l) {g:List ae} (hg:g.length≤2000):ge l g=some (eB l g g):=by
  unfold ge lm
  refine d7 (bT (xs:=g) (fun k=>(eB l g (g.take k),(k:Int))) rfl (r:=eB l g g) (fun k m hm=>?_) ?_) rfl
  · have hk:=aY hm
    have hc:=pp hl g (g.take k)
    have hct:(g.take k).length≤2000:=by rw [List.length_take]; omega
    unfold iL ln
    dsimp only
    rw [eJ hm,cond_true,aU,hm,Option.bind_some,qJ hl.rm,Option.bind_some,cB (by omega)]
    have hin:loop (fun s:List cw×Int=>fY g m (bW l m) s.1 s.2) (eB l g (g.take k),0)=some (eB l g (g.take k) ++ CF l g m):=by
      have hrl:=hl.rd m
      refine bT (xs:=xv l m) (fun i=>(eB l g (g.take k) ++ (((xv l m).take i).filter fun x=>!(g.any fun y=>cS x y)).map (fun x=>(⟨m,x⟩:cw)),(i:Int))) (by simp) (fun i x hx=>?_) ?_
      · have hi:=aY hx
        unfold fY iK
        dsimp only
        rw [show (bW l m).1.Reads=xv l m from rfl,eJ hx,cond_true,aU,hx,Option.bind_some,un (by unfold Rm; omega),Option.bind_some,cB (by omega),bG hx,List.filter_append,List.map_append]
        have hpl:((((xv l m).take i).filter fun x=>!(g.any fun y=>cS x y)).map (fun x=>(⟨m,x⟩:cw))).length≤1000:=by
          rw [List.length_map]
          exact Nat.le_trans (qN _ _ _) hrl
        cases hh:g.any fun y=>cS x y with
        | true=>simp [hh]
        | false =>
          simp only [Bool.not_false,cond_true]
          rw [gd,dv (by simp only [List.length_append,List.length_singleton]; omega),cond_true]
          simp [hh]
      · unfold fY
        dsimp only
        rw [show (bW l m).1.Reads=xv l m from rfl,bA,List.take_length]; rfl
    rw [hin,Option.bind_some,bG hm]
    unfold eB
    rw [List.flatMap_append,List.flatMap_singleton]
  · unfold iL
    dsimp only
    rw [bA,List.take_length]; rfl
end
section
open Go.RowKit
open Go.Lib hiding intOf
noncomputable def rk (l:List aK) (n:Nat):ae:=⟨if (bk l)[n]? = some true then 32 else 31,cq n⟩
section
variable {l:List aK} {n a b:Nat}
theorem xk (ha:a < 65536) (hb:b < 65536) (h:cq (a:Int)=cq b):a=b:=by
  have h1:=tQ ha
  rw [h,tQ hb] at h1
  omega
theorem wj (ha:a < 100) (hb:b < 100) (h:rk l a=rk l b):a=b:=xk (by omega) (by omega) (congrArg ae.Text h)
theorem DE (h:n < l.length):rk l n=Bm l[n] n:=by
  unfold rk Bm
  rw [nX h]
  cases l[n].Ring <;> simp
theorem wo (h:n < l.length) (hl:l.length≤100):jx l n=some (rk l n):=by rw [DE h]; exact Cb h (by omega)
theorem ox:(rk l n).Kind=31∧(bk l)[n]? ≠ some true∨(rk l n).Kind=32∧(bk l)[n]? = some true:=by
  unfold rk
  by_cases h:(bk l)[n]? = some true
  · exact .inr ⟨by simp [h],h⟩
  · exact .inl ⟨by simp [h],h⟩
theorem zr (h:n < 100):Fc 99 (cq (n:Int)).toList=n:=by
  unfold Fc
  rw [oS,mg,yV (by omega),if_pos (by omega)]
theorem wm (h:n < 100):Aq (rk l n)=n:=by
  unfold Aq
  rw [if_pos (by rcases ox (l:=l) (n:=n) with⟨h,_⟩|⟨h,_⟩ <;> rw [h] <;> decide)]
  exact zr h
theorem CD (h:n < 100):Aq (bg n)=n:=by
  unfold Aq
  rw [if_pos ⟨by show (30:Int)≤30; omega,by show (30:Int)≤32; omega⟩]
  exact zr h
theorem mf (k:ae):ce k=some (decide (k.Kind=1) || (decide (k.Kind=2) || decide (k.Kind=30))):=by
  unfold ce gQ
  by_cases h1:k.Kind=1
  · simp [h1]
  · by_cases h2:k.Kind=2
    · simp [h2]
    · by_cases h3:k.Kind=30
      · simp [h3]
      · have hb:∀ n:Int,k.Kind ≠ n→(k.Kind == n)=false:=fun n h=>by simpa using h
        rw [hb 1 h1,hb 2 h2,hb 30 h3]
        simp [h1,h2,h3]
theorem tK:ce (rk l n)=some false:=by
  rw [mf]
  rcases ox (l:=l) (n:=n) with⟨h,_⟩|⟨h,_⟩ <;> rw [h] <;> rfl
theorem oK:ce (bg n)=some true:=by rw [mf]; rfl
theorem Bj:oO (rk l n)=decide ((bk l)[n]? = some true):=by
  unfold oO
  rcases ox (l:=l) (n:=n) with⟨h,k⟩|⟨h,k⟩
  · rw [h,decide_eq_false k]; rfl
  · rw [h,decide_eq_true k]; rfl
theorem BG:oO (bg n)=false:=rfl
theorem AX:bg a ≠ rk l b:=fun h=>by
  have h30:(30:Int)=(rk l b).Kind:=congrArg ae.Kind h
  rcases ox (l:=l) (n:=b) with⟨h,_⟩|⟨h,_⟩ <;> rw [h] at h30 <;> omega
theorem xF {k:ae} (h:30≤k.Kind∧k.Kind≤32):dM k=some (decide (0≤Aq k)):=by
  unfold dM jz
  rw [decide_eq_true h.1,decide_eq_true h.2,cond_true,cond_true,pi]
  rfl
theorem zz (h:n < 100):dM (rk l n)=some true:=by
  rw [xF (by rcases ox (l:=l) (n:=n) with⟨h,_⟩|⟨h,_⟩ <;> rw [h] <;> decide),wm h,decide_eq_true (by omega)]
theorem sI (h:n < 100):dM (bg n)=some true:=by
  rw [xF (k:=bg n) ⟨by show (30:Int)≤30; omega,by show (30:Int)≤32; omega⟩,CD h,decide_eq_true (by omega)]
def mR (l:List aK) (k:ae):Prop:=(∃ c,c < 10∧k=bg c)∨∃ n,n < l.length∧k=rk l n
theorem mR.valid (hl:l.length≤8) {k:ae} (h:mR l k):dM k=some true:=by
  rcases h with⟨c,hc,rfl⟩|⟨n,hn,rfl⟩
  · exact sI (by omega)
  · exact zz (by omega)
theorem vU (h:n < l.length):yG (bk l) n≤l.length:=by
  unfold yG
  split
  · have:=(Cz (rs:=bk l) (n:=n) (by unfold bk; rwa [List.length_map])).2.2
    unfold bk at this ⊢
    rwa [List.length_map] at this
  · omega
noncomputable def pT (x:cF) (ls:List ByteArray):Int:=if x.Pick=true∧(ls.length=0∨fq (ls.getD (ls.length - 1) ⟨#[]⟩) % 2=0) then x.Else else x.N
noncomputable def pS (l:List aK) (x:cF) (ls:List ByteArray):ae:=if x.Cell=true then bg (pT x ls).toNat else rk l (pT x ls).toNat
theorem nF (hR:bz l) {r:aK} (h:l[n]? = some r) {k:Nat} {x:cF} (hx:r.Asks[k]? = some x) (ls:List ByteArray) :
    0≤pT x ls∧((x.Cell=true∧∃ c,c < 10∧(pT x ls)=(c:Nat)∧pS l x ls=bg c)∨(x.Cell=false∧∃ j,j < yG (bk l) n∧(pT x ls)=(j:Nat)∧pS l x ls=rk l j)):=by
  have hA:=(hR.each n r h).each k x hx
  have h0:0≤pT x ls:=by unfold pT; split; exact hA.low2; exact hA.low
  refine⟨h0,?_⟩
  cases hc:x.Cell with
  | true =>
    have:pT x ls < 4:=by unfold pT; split; exact hA.cell2 hc; exact hA.cell hc
    exact .inl ⟨rfl,(pT x ls).toNat,by omega,by omega,by unfold pS; rw [if_pos hc]⟩
  | false =>
    have:pT x ls < yG (bk l) n:=by unfold pT; split; exact hA.rule2 hc; exact hA.rule hc
    exact .inr ⟨rfl,(pT x ls).toNat,by omega,by omega,by unfold pS; rw [if_neg (by rw [hc]; simp)]⟩
theorem zD (hR:bz l) {r:aK} (h:l[n]? = some r) {ls:List ByteArray} (hn:r.Asks.length≤ls.length) :
    fy l (rk l n) ls=some ⟨true,cq (qZ r (ls.take r.Asks.length)),⟨0,⟨#[]⟩⟩⟩:=by
  have hlt:=aY h
  have h8:=hR.high
  have h3:=(hR.each n r h).asks
  have hC:0≤r.C∧r.C≤65535:=by
    have hr:=hR.each n r h
    cases hg:r.Ring with
    | true=>have:=hr.ring hg; omega
    | false=>have:=hr.plain hg; omega
  obtain⟨m,hm,hm2⟩:=sM hR h (ls:=ls.take r.Asks.length) (by rw [List.length_take]; omega)
  unfold fy
  rw [pi,Option.bind_some,wm (by omega),decide_eq_false (by omega),cond_false,decide_eq_false (by omega),cond_false,wo hlt (by omega),Option.bind_some]
  rw [show (!((rk l n).Kind == (rk l n).Kind && (rk l n).Text.toList == (rk l n).Text.toList))=false by simp,cond_false,aU,h,Option.bind_some,decide_eq_true (by omega),cond_true]
  rw [ql (by omega),Option.bind_some,CW hC (by rw [List.length_take]; omega),Option.bind_some,hm,p9 (by omega),Option.bind_some]
theorem AF (hR:bz l) {r:aK} (h:l[n]? = some r) {ls:List ByteArray} {x:cF} (hx:r.Asks[ls.length]? = some x) :
    fy l (rk l n) ls=some ⟨false,⟨#[]⟩,pS l x ls⟩:=by
  have hlt:=aY h
  have hla:=aY hx
  have h8:=hR.high
  have h3:=(hR.each n r h).asks
  have hA:=(hR.each n r h).each _ x hx
  obtain⟨g0,hg⟩:=nF hR h hx ls
  have hll:=vU hlt
  have j1:∀ z:Int,z=pT x ls→iX l x z=some ⟨false,⟨#[]⟩,pS l x ls⟩:=by
    rintro _ rfl
    unfold iX
    rcases hg with⟨hc,c,h4,e1,e2⟩|⟨hc,j,h4,e1,e2⟩
    · rw [hc,cond_true,e1,m7 (by omega),Option.bind_some,e2]
    · rw [hc,cond_false,e1,wo (by omega) (by omega),Option.bind_some,e2]
  unfold fy
  rw [pi,Option.bind_some,wm (by omega),decide_eq_false (by omega),cond_false,decide_eq_false (by omega),cond_false,wo hlt (by omega),Option.bind_some]
  rw [show (!((rk l n).Kind == (rk l n).Kind && (rk l n).Text.toList == (rk l n).Text.toList))=false by simp,cond_false,aU,h,Option.bind_some,decide_eq_false (by omega),cond_false,aU,hx,Option.bind_some]
  unfold iY
  cases hp:x.Pick with
  | false=>exact j1 _ (by unfold pT; rw [if_neg (by rw [hp]; simp)])
  | true =>
    obtain⟨_,hk⟩:=hA.pick hp
    rw [cond_true,show (((ls.length:Nat):Int) == 0)=false from beq_eq_false_iff_ne.2 (by omega),cond_false]
    have hw:IntKind.i64.wrap ((ls.length:Int) - 1)=((ls.length - 1:Nat):Int):=by rw [pm (by omega) (by omega)]; omega
    have hg2:=List.getElem?_eq_getElem (l:=ls) (i:=ls.length - 1) (by omega)
    rw [hw,aU,hg2,Option.bind_some,zG,Option.bind_some]
    have hv:=gx ls[ls.length - 1]
    have hd:ls.getD (ls.length - 1) ⟨#[]⟩=ls[ls.length - 1]:=by rw [List.getD_eq_getElem?_getD,hg2]; rfl
    have ht:Int.tmod (fq ls[ls.length - 1]) 2=fq ls[ls.length - 1] % 2:=Int.tmod_eq_emod_of_nonneg (by omega)
    by_cases hz:fq ls[ls.length - 1] % 2=0
    · rw [ht,hz]
      exact j1 _ (by unfold pT; rw [if_pos ⟨hp,.inr (by rw [hd]; exact hz)⟩])
    · rw [ht,show (fq ls[ls.length - 1] % 2 == 0)=false by simpa using hz]
      exact j1 _ (by unfold pT; rw [if_neg (by rw [hd]; rintro⟨_,h | h⟩; exact absurd h (by omega); exact hz h)])
theorem DW (k:ae) (hk:k.Kind=31∨k.Kind=32) (ls:List ByteArray):di l k ls=fy l k ls:=by
  unfold di
  rcases hk with h | h
  · rw [h]; cases fy l k ls <;> rfl
  · rw [h]; cases fy l k ls <;> rfl
theorem zy:(rk l n).Kind=31∨(rk l n).Kind=32:=by rcases ox (l:=l) (n:=n) with⟨h,_⟩|⟨h,_⟩; exact .inl h; exact .inr h
theorem ut (hR:bz l) {r:aK} (h:l[n]? = some r) {ls:List ByteArray} (hn:r.Asks.length≤ls.length) :
    di l (rk l n) ls=some ⟨true,cq (qZ r (ls.take r.Asks.length)),⟨0,⟨#[]⟩⟩⟩:=(DW _ zy _).trans (zD hR h hn)
theorem wz (hR:bz l) {r:aK} (h:l[n]? = some r) {ls:List ByteArray} {x:cF} (hx:r.Asks[ls.length]? = some x) :
    di l (rk l n) ls=some ⟨false,⟨#[]⟩,pS l x ls⟩:=(DW _ zy _).trans (AF hR h hx)
end
end
section
open Go.RowKit
open Go.Lib hiding intOf
section
variable {rs:List Bool}
theorem Bc:∀ {a j:Nat},ZZ rs a≤j→j < a→rs[j]? = some true
  | 0,_,_,h=>absurd h (by omega)
  | a + 1,j,h1,h2=>by
    rw [ya] at h1
    split at h1
    · rename_i h
      rcases Nat.lt_or_ge j a with h3 | h3
      · exact Bc h1 h3
      · have:j=a:=by omega
        rw [this]; exact h
    · omega
theorem Dd {a:Nat}:∀ {j:Nat},a≤j→(∀ i,a≤i→i < j→rs[i]? = some true)→ZZ rs j≤a
  | 0,h,_=>by have:=xn rs 0; omega
  | j + 1,h,hr=>by
    rcases Nat.lt_or_ge j a with h3 | h3
    · have:=xn rs (j + 1); omega
    · rw [ya,if_pos (hr j h3 (by omega))]
      exact Dd h3 fun i h1 h2=>hr i h1 (by omega)
theorem y4:∀ {f b j:Nat},b≤j→j < BU rs f b→rs[j]? = some true
  | 0,b,j,h1,h2=>by have:BU rs 0 b=b:=rfl; omega
  | f + 1,b,j,h1,h2=>by
    rw [y5] at h2
    split at h2
    · rename_i h
      rcases Nat.eq_or_lt_of_le h1 with h3 | h3
      · rw [← h3]; exact h
      · exact y4 h3 h2
    · omega
def qU (rs:List Bool) (n:Nat):Nat:=(blk rs n).1
theorem r7 {n:Nat} (h:rs[n]? ≠ some true):qU rs n=n:=by unfold qU blk; rw [if_neg h]
theorem tL {n:Nat} (h:rs[n]? = some true):qU rs n=ZZ rs n:=by unfold qU blk; rw [if_pos h]
theorem DF (n:Nat):qU rs n≤n:=by
  by_cases h:rs[n]? = some true
  · rw [tL h]; exact xn rs n
  · rw [r7 h]; omega
theorem yO {n j:Nat} (h:rs[n]? = some true) (h1:ZZ rs n≤j) (h2:j < yG rs n):rs[j]? = some true:=by
  unfold yG at h2
  rw [if_pos h] at h2
  unfold blk at h2
  rw [if_pos h] at h2
  rcases Nat.lt_trichotomy j n with h3 | h3 | h3
  · exact Bc h1 h3
  · rw [h3]; exact h
  · exact y4 h3 h2
theorem wi {n j:Nat} (h:rs[n]? = some true) (hj:j < yG rs n) (hp:rs[j]? ≠ some true):j < qU rs n:=by
  rw [tL h]
  rcases Nat.lt_or_ge j (ZZ rs n) with h3 | h3
  · exact h3
  · exact absurd (yO h h3 hj) hp
theorem xA {n j:Nat} (h:rs[n]? = some true) (hj:j < yG rs n) (hp:rs[j]? = some true):qU rs j≤qU rs n:=by
  rw [tL h,tL hp]
  rcases Nat.lt_or_ge j (ZZ rs n) with h3 | h3
  · have:=xn rs j; omega
  · exact Dd h3 fun i h1 h2=>yO h h1 (by omega)
theorem xu {n j:Nat} (h:rs[n]? ≠ some true) (hj:j < yG rs n):qU rs j < qU rs n:=by
  unfold yG at hj
  rw [if_neg h] at hj
  rw [r7 h]
  have:=DF (rs:=rs) j
  omega
end
def s9 (p:Nat→Bool):Nat→Nat
  | 0=>0
  | k + 1=>if p k then 2 ^ k + s9 p k else s9 p k
theorem vl (p:Nat→Bool):∀ k,s9 p k < 2 ^ k
  | 0=>by simp [s9]
  | k + 1=>by
    have:=vl p k
    have h2:2 ^ (k + 1)=2 ^ k + 2 ^ k:=by rw [Nat.pow_succ]; omega
    unfold s9
    split <;> omega
theorem vm (p:Nat→Bool):∀ k b,(s9 p k).testBit b=(decide (b < k) && p b)
  | 0,b=>by simp [s9]
  | k + 1,b=>by
    have ih:=vm p k b
    have hlt:=vl p k
    unfold s9
    rcases Nat.lt_trichotomy b k with h | h | h
    · rw [decide_eq_true (by omega),Bool.true_and]
      rw [decide_eq_true h,Bool.true_and] at ih
      split
      · rw [Nat.testBit_two_pow_add_gt h]; exact ih
      · exact ih
    · subst h
      rw [decide_eq_true (by omega),Bool.true_and]
      split
      · rename_i hp
        rw [Nat.testBit_two_pow_add_eq,Nat.testBit_lt_two_pow hlt,hp]; rfl
      · rename_i hp
        rw [Nat.testBit_lt_two_pow hlt]
        simpa using hp
    · rw [decide_eq_false (by omega),Bool.false_and]
      have h2:2 ^ (k + 1)=2 ^ k + 2 ^ k:=by rw [Nat.pow_succ]; omega
      have h3:2 ^ (k + 1)≤2 ^ b:=Nat.pow_le_pow_right (by omega) (by omega)
      split <;> exact Nat.testBit_lt_two_pow (by omega)
section
variable (l:List aK) (inp:ae→ByteArray)
noncomputable def qr (V:Nat→ByteArray) (x:cF) (ls:List ByteArray):ByteArray:=if x.Cell=true then inp (pS l x ls) else V (pT x ls).toNat
noncomputable def og (V:Nat→ByteArray) (r:aK):Nat→List ByteArray
  | 0=>[]
  | k + 1=>match r.Asks[k]? with
    | none=>og V r k
    | some x=>og V r k ++ [qr l inp V x (og V r k)]
inductive RB (V:Nat→ByteArray):Nat→Nat→Prop
  | own {n b:Nat} {r:aK}:l[n]? = some r→r.C.toNat.testBit b=true→RB V n b
  | ask {n b:Nat} {r:aK} {x:cF}:l[n]? = some r→x ∈ r.Asks→(x.Cell=true∨(bk l)[x.N.toNat]? ≠ some true)→(fq (qr l inp V x [])).toNat.testBit b=true→RB V n b
  | ring {n b:Nat} {r:aK} {x:cF}:l[n]? = some r→x ∈ r.Asks→x.Cell=false→(bk l)[x.N.toNat]? = some true→RB V x.N.toNat b→RB V n b
open Classical in
noncomputable def Cp (V:Nat→ByteArray) (n:Nat):ByteArray:=match l[n]? with
  | none=>⟨#[]⟩
  | some r=>if r.Ring=true then cq (s9 (fun b=>decide (RB l inp V n b)) 16:Nat) else cq (qZ r (og l inp V r r.Asks.length))
noncomputable def Wd:Nat→Nat→ByteArray
  | 0=>fun _=>⟨#[]⟩
  | k + 1=>fun n=>if qU (bk l) n < k then Wd k n else Cp l inp (Wd k) n
noncomputable def Vd (n:Nat):ByteArray:=Wd l inp (qU (bk l) n + 1) n
theorem FD:∀ {k n:Nat},qU (bk l) n < k→Wd l inp k n=Vd l inp n
  | 0,n,h=>absurd h (by omega)
  | k + 1,n,h=>by
    rcases Nat.lt_or_ge (qU (bk l) n) k with h1 | h1
    · show (if qU (bk l) n < k then Wd l inp k n else _)=_
      rw [if_pos h1]
      exact FD h1
    · obtain rfl:k=qU (bk l) n:=by omega
      rfl
variable {l inp}
theorem Bi (hR:bz l) {n:Nat} {r:aK} (h:l[n]? = some r) (hr:r.Ring=true) {k:Nat} {x:cF} (hx:r.Asks[k]? = some x) (ls:List ByteArray):pT x ls=x.N:=by
  have:=(hR.each n r h).each k x hx
  unfold pT
  rw [if_neg]
  rintro⟨hp,_⟩
  have:=(this.pick hp).1
  rw [hr] at this; cases this
theorem lH {n:Nat} {r:aK} (h:l[n]? = some r):(bk l)[n]? = some r.Ring:=by
  have:=aY h
  rw [nX this]
  rw [List.getElem?_eq_getElem this] at h
  rw [Option.some.inj h]
theorem ve {V V':Nat→ByteArray} (hR:bz l) {n:Nat} {r:aK} (h:l[n]? = some r) (hr:r.Ring=false) (hV:∀ j,qU (bk l) j < qU (bk l) n→V j=V' j):∀ k,og l inp V r k=og l inp V' r k
  | 0=>rfl
  | k + 1=>by
    have ih:=ve hR h hr hV k
    unfold og
    cases hx:r.Asks[k]? with
    | none=>exact ih
    | some x =>
      dsimp only
      rw [ih]
      congr 2
      unfold qr
      obtain⟨_,⟨hc,_⟩|⟨hc,j,hj,e1,_⟩⟩:=nF hR h hx (og l inp V' r k)
      · rw [if_pos hc,if_pos hc]
      · rw [if_neg (by rw [hc]; simp),if_neg (by rw [hc]; simp),e1]
        exact hV _ (xu (by rw [lH h,hr]; simp) hj)
theorem yL {V V':Nat→ByteArray} (hR:bz l) {n0:Nat} (hV:∀ j,qU (bk l) j < qU (bk l) n0→V j=V' j) {n b:Nat} (h:RB l inp V n b):(bk l)[n]? = some true→qU (bk l) n≤qU (bk l) n0→RB l inp V' n b:=by
  induction h with
  | own h1 h2=>exact fun _ _=>.own h1 h2
  | @ask n b r x h1 h2 h3 h4 =>
    intro hr hn
    obtain⟨k,hk⟩:=List.mem_iff_getElem?.1 h2
    have hrr:r.Ring=true:=by rw [lH h1] at hr; exact Option.some.inj hr
    have e:=Bi hR h1 hrr hk []
    refine .ask h1 h2 h3 ?_
    rw [← h4]
    congr 3
    unfold qr
    obtain⟨_,⟨hc,_⟩|⟨hc,j,hj,e1,_⟩⟩:=nF hR h1 hk []
    · rw [if_pos hc,if_pos hc]
    · rw [if_neg (by rw [hc]; simp),if_neg (by rw [hc]; simp),e1]
      have e2:x.N.toNat=j:=by omega
      rw [hc,e2] at h3
      have hp:(bk l)[j]? ≠ some true:=by rcases h3 with h3 | h3; cases h3; exact h3
      have:=wi hr hj hp
      exact (hV _ (by rw [show ((j:Nat):Int).toNat=j by omega,r7 hp]; omega)).symm
  | @ring n b r x h1 h2 h3 h4 h5 ih =>
    intro hr hn
    obtain⟨k,hk⟩:=List.mem_iff_getElem?.1 h2
    have hrr:r.Ring=true:=by rw [lH h1] at hr; exact Option.some.inj hr
    have e:=Bi hR h1 hrr hk []
    refine .ring h1 h2 h3 h4 (ih h4 ?_)
    obtain⟨_,⟨hc,_⟩|⟨hc,j,hj,e1,_⟩⟩:=nF hR h1 hk []
    · rw [h3] at hc; cases hc
    · have e2:x.N.toNat=j:=by omega
      rw [e2] at h4 ⊢
      have:=xA hr hj h4
      omega
theorem AT (hR:bz l) {n:Nat} (hn:n < l.length):Vd l inp n=Cp l inp (Vd l inp) n:=by
  have hg:=List.getElem?_eq_getElem hn
  have e:Vd l inp n=Cp l inp (Wd l inp (qU (bk l) n)) n:=by
    show (if qU (bk l) n < qU (bk l) n then _ else _)=_
    rw [if_neg (by omega)]
  rw [e]
  have hV:∀ j,qU (bk l) j < qU (bk l) n→Wd l inp (qU (bk l) n) j=Vd l inp j:=fun j hj=>FD l inp hj
  unfold Cp
  rw [hg]
  dsimp only
  cases hr:l[n].Ring with
  | false=>rw [if_neg (by simp),if_neg (by simp),ve hR hg hr hV]
  | true =>
    rw [if_pos rfl,if_pos rfl]
    have hr2:(bk l)[n]? = some true:=by rw [lH hg,hr]
    have:∀ b,RB l inp (Wd l inp (qU (bk l) n)) n b↔RB l inp (Vd l inp) n b:=fun b =>
      ⟨fun h=>yL hR hV h hr2 (Nat.le_refl _),fun h=>yL hR (fun j hj=>(hV j hj).symm) h hr2 (Nat.le_refl _)⟩
    congr 3
    funext b
    rw [decide_eq_decide]
    exact this b
end
structure AQ (l:List aK) (inp:ae→ByteArray) (V:Nat→ByteArray):Prop where
  plain:∀ n r,l[n]? = some r→r.Ring=false→V n=cq (qZ r (og l inp V r r.Asks.length))
  ring:∀ n r,l[n]? = some r→r.Ring=true→∃ u:Nat,V n=cq u∧u < 65536∧∀ b,u.testBit b=true↔RB l inp V n b
theorem wx {u b:Nat} (h:u < 65536) (ht:u.testBit b=true):b < 16:=by
  rcases Nat.lt_or_ge b 16 with h1 | h1
  · exact h1
  · have:2 ^ 16≤2 ^ b:=Nat.pow_le_pow_right (by omega) h1
    rw [Nat.testBit_lt_two_pow (by have:2 ^ 16=65536:=rfl; omega)] at ht
    cases ht
theorem H6 {l:List aK} {inp:ae→ByteArray} {V:Nat→ByteArray} (hR:bz l) {n b:Nat} (h:RB l inp V n b):b < 16:=by
  induction h with
  | own h1 h2 =>
    rename_i n b r
    have hr:=hR.each _ _ h1
    refine wx ?_ h2
    cases hg:r.Ring with
    | true=>have:=hr.ring hg; omega
    | false=>have:=hr.plain hg; omega
  | ask h1 h2 h3 h4 =>
    refine wx ?_ h4
    rename_i x
    have:=gx (qr l inp V x [])
    omega
  | ring _ _ _ _ _ ih=>exact ih
theorem CR {l:List aK} (inp:ae→ByteArray) (hR:bz l):AQ l inp (Vd l inp):=by
  refine⟨fun n r h hr=>?_,fun n r h hr=>?_⟩
  · rw [AT hR (aY h)]
    unfold Cp
    rw [h]
    dsimp only
    rw [if_neg (by rw [hr]; simp)]
  · classical
    rw [AT hR (aY h)]
    unfold Cp
    rw [h]
    dsimp only
    rw [if_pos hr]
    refine⟨_,rfl,vl _ 16,fun b=>?_⟩
    rw [vm,Bool.and_eq_true,decide_eq_true_eq,decide_eq_true_eq]
    exact⟨fun h=>h.2,fun h=>⟨H6 hR h,h⟩⟩
end
section
open Go.RowKit
open Go.Lib hiding intOf
theorem C5 {a b:ae} (h:a ≠ b):aC a b=false:=by rw [← Bool.not_eq_true]; exact fun e=>h ((eV a b).1 e)
theorem za (a:ae):aC a a=true:=(eV a a).2 rfl
theorem e9 {ν:Type} (k:ae) (v:ν) (m:List (ae×ν)):bQ aC k (cT aC k v m)=some v:=by rw [qc eV,za]; rfl
theorem jt {ν:Type} {k k':ae} (h:k ≠ k') (v:ν) (m:List (ae×ν)):bQ aC k (cT aC k' v m)=bQ aC k m:=by rw [qc eV,C5 h]; rfl
def gn (b:ai) (k:ae):aI:=match b.Inputs.find? (fun x=>cS x.Key k) with | some x=>x | none=>⟨k,⟨#[]⟩,0⟩
theorem xy {b:ai} (hb:Rm b.Inputs.length) (k:ae):na b k=some (gn b k):=by
  unfold Rm at hb
  have key:loop (fun s:Int=>fb b k s) 0=some (match b.Inputs.find? (fun x=>cS x.Key k) with | some x=>Fl.out x | none=>Fl.go ()):=by
    rcases qx (xs:=b.Inputs) (B:=fun s:Int=>fb b k s) (fun x=>cS x.Key k) (fun i=>(i:Int)) (s0:=0) rfl (y:=fun _ x=>Fl.out x) (n:=Fl.go ()) (fun i x hx hp=>by
      unfold fb
      rw [eJ hx,cond_true,aU,hx,Option.bind_some,cB (by have:=aY hx; omega)]
      show cond (cS x.Key k) _ _=_
      rw [hp]; rfl) (fun i x hx hp=>by
      unfold fb
      rw [eJ hx,cond_true,aU,hx,Option.bind_some]
      show cond (cS x.Key k) _ _=_
      rw [hp]; rfl) (by unfold fb; rw [bA]; rfl) with⟨i,x,h1,h2,h3,h4⟩|⟨h1,h2⟩
    · rw [h4,A6 (p:=fun x=>cS x.Key k) h1 h2 h3]
    · rw [h2,List.find?_eq_none.2 fun x hx=>by rw [h1 x hx]; simp]
  unfold na
  rw [key]
  unfold gn
  cases b.Inputs.find? (fun x=>cS x.Key k) <;> rfl
theorem A7 {b:ai} (hb:Rm b.Inputs.length) (k:ae):ki b k=some (gn b k).Value:=by
  unfold ki
  rw [xy hb]; rfl
theorem x5:cq ((0:Nat):Int)=⟨#[48]⟩:=by
  unfold cq
  rw [mg]
  unfold decDigits
  simp
def iw (m m':List (ae×ByteArray)):Prop:=∀ k v,bQ aC k m=some v→bQ aC k m'=some v
theorem iw.refl (m:List (ae×ByteArray)):iw m m:=fun _ _ h=>h
theorem iw.trans {a b c:List (ae×ByteArray)} (h:iw a b) (k:iw b c):iw a c:=fun x v e=>k x v (h x v e)
theorem iw.has {a b:List (ae×ByteArray)} (h:iw a b) {k:ae} (e:bQ aC k a ≠ none):bQ aC k b ≠ none:=by
  cases hk:bQ aC k a with
  | none=>exact absurd hk e
  | some v=>rw [h k v hk]; simp
structure pR (l:List aK) (V:Nat→ByteArray) (b:ai) (s:al):Prop where
  rules:s.Rules=l
  base:s.Base=b
  memo:∀ n,n < l.length→∀ v,bQ aC (rk l n) s.Memo=some v→v=V n
  cell:∀ c,bQ aC (bg c) s.Memo=none
section
variable {l:List aK} {V:Nat→ByteArray} {b:ai} {inp:ae→ByteArray}
theorem pR.put {s:al} (h:pR l V b s) {n:Nat} (hn:n < l.length) (hl:l.length≤8):pR l V b ⟨s.Rules,s.Base,cT aC (rk l n) (V n) s.Memo,s.Seen⟩∧iw s.Memo (cT aC (rk l n) (V n) s.Memo):=by
  refine⟨⟨h.rules,h.base,fun m hm v e=>?_,fun c=>?_⟩,fun k v e=>?_⟩
  · by_cases hk:m=n
    · subst hk
      rw [e9] at e
      exact (Option.some.inj e).symm
    · rw [jt (fun e=>hk (wj (by omega) (by omega) e))] at e
      exact h.memo m hm v e
  · rw [jt AX]
    exact h.cell c
  · by_cases hk:k=rk l n
    · subst hk
      rw [e9,h.memo n hn v e]
    · rw [jt hk,e]
def Cv (l:List aK) (x:cF):Prop:=x.Cell=true∨(bk l)[x.N.toNat]? ≠ some true
def si (l:List aK) (V:Nat→ByteArray) (inp:ae→ByteArray) (memo0 memo:List (ae×ByteArray)) (idx:List Nat) (a:Nat→Nat) (x:cF) (v:ByteArray):Prop :=
  (Cv l x∧v=qr l inp V x [])∨(¬ Cv l x∧((bQ aC (rk l x.N.toNat) memo ≠ none∧v=V x.N.toNat)∨(x.N.toNat ∈ idx∧v=cq (a x.N.toNat:Nat)∧bQ aC (rk l x.N.toNat) memo0=none)))
theorem si.mono {memo0 memo memo':List (ae×ByteArray)} {idx idx':List Nat} {a:Nat→Nat} {x:cF} {v:ByteArray} (h:si l V inp memo0 memo idx a x v) (hg:iw memo memo') (hi:∀ i ∈ idx,i ∈ idx'):si l V inp memo0 memo' idx' a x v:=by
  rcases h with h | ⟨h0,⟨h1,h2⟩|⟨h1,h2,h3⟩⟩
  · exact .inl h
  · exact .inr ⟨h0,.inl ⟨hg.has h1,h2⟩⟩
  · exact .inr ⟨h0,.inr ⟨hi _ h1,h2,h3⟩⟩
def Vw (l:List aK) (V:Nat→ByteArray) (inp:ae→ByteArray) (memo:List (ae×ByteArray)) (a:Nat→Nat) (x:cF) (q:Nat):Prop :=
  (Cv l x∧(fq (qr l inp V x [])).toNat.testBit q=true)∨(¬ Cv l x∧((bQ aC (rk l x.N.toNat) memo ≠ none∧RB l inp V x.N.toNat q)∨(a x.N.toNat).testBit q=true))
def Fb (l:List aK) (V:Nat→ByteArray) (inp:ae→ByteArray) (memo:List (ae×ByteArray)) (a:Nat→Nat) (i q:Nat):Prop:=∃ r,l[i]? = some r∧(r.C.toNat.testBit q=true∨∃ x ∈ r.Asks,Vw l V inp memo a x q)
theorem Fb.mono {memo memo':List (ae×ByteArray)} {a a':Nat→Nat} {i q:Nat} (h:Fb l V inp memo a i q) (hg:iw memo memo') (ha:∀ j q,(a j).testBit q=true→(a' j).testBit q=true):Fb l V inp memo' a' i q:=by
  obtain⟨r,h1,h2 | ⟨x,h2,h3⟩⟩:=h
  · exact⟨r,h1,.inl h2⟩
  · refine⟨r,h1,.inr ⟨x,h2,?_⟩⟩
    rcases h3 with h3 | ⟨h0,⟨h3,h4⟩ | h3⟩
    · exact .inl h3
    · exact .inr ⟨h0,.inl ⟨hg.has h3,h4⟩⟩
    · exact .inr ⟨h0,.inr (ha _ _ h3)⟩
structure uM (l:List aK) (V:Nat→ByteArray) (inp:ae→ByteArray) (n0:Nat) (memo:List (ae×ByteArray)) (m:List (ae×ByteArray)) (list:List ae) (idx:List Nat) (a:Nat→Nat):Prop where
  eq:list=idx.map (rk l)
  nd:idx.Nodup
  ring:∀ i ∈ idx,i < l.length∧(bk l)[i]? = some true∧qU (bk l) i≤qU (bk l) n0
  head:n0 ∈ idx
  get:∀ i,i < l.length→bQ aC (rk l i) m=if i ∈ idx then some (cq (a i:Nat)) else none
  zero:∀ i,i ∉ idx→a i=0
  lt:∀ i,a i < 65536
  le:∀ i q,(a i).testBit q=true→RB l inp V i q
  up:∀ i ∈ idx,∀ q,(a i).testBit q=true→Fb l V inp memo a i q
theorem Dj {idx:List Nat} (hn:idx.Nodup) {N:Nat} (h:∀ i ∈ idx,i < N):idx.length≤N:=by
  have:=m4 hn (m:=List.range N) fun x hx=>List.mem_range.2 (h x hx)
  rwa [List.length_range] at this
theorem uM.len {n0:Nat} {memo m:List (ae×ByteArray)} {list:List ae} {idx:List Nat} {a:Nat→Nat} (h:uM l V inp n0 memo m list idx a):list.length=idx.length∧idx.length≤l.length :=
  ⟨by rw [h.eq,List.length_map],Dj h.nd fun i hi=>(h.ring i hi).1⟩
theorem uM.grow {n0:Nat} {memo memo' m:List (ae×ByteArray)} {list:List ae} {idx:List Nat} {a:Nat→Nat} (h:uM l V inp n0 memo m list idx a) (hg:iw memo memo'):uM l V inp n0 memo' m list idx a :=
  ⟨h.eq,h.nd,h.ring,h.head,h.get,h.zero,h.lt,h.le,fun i hi q hq=>(h.up i hi q hq).mono hg fun _ _ e=>e⟩
theorem uM.add {n0:Nat} {memo m:List (ae×ByteArray)} {list:List ae} {idx:List Nat} {a:Nat→Nat} (h:uM l V inp n0 memo m list idx a) (hl:l.length≤8) {j:Nat} (hj:j < l.length) (hr:(bk l)[j]? = some true) (hk:qU (bk l) j≤qU (bk l) n0) (hn:j ∉ idx) :
    uM l V inp n0 memo (cT aC (rk l j) ⟨#[48]⟩ m) (list ++ [rk l j]) (idx ++ [j]) a:=by
  refine⟨by rw [h.eq,List.map_append]; rfl,?_,?_,List.mem_append_left _ h.head,?_,fun i hi=>h.zero i fun e=>hi (List.mem_append_left _ e),h.lt,h.le,?_⟩
  · rw [List.nodup_append]
    exact⟨h.nd,by simp,fun x hx y hy=>by rw [List.mem_singleton.1 hy]; exact fun e=>hn (e ▸ hx)⟩
  · intro i hi
    rcases List.mem_append.1 hi with hi | hi
    · exact h.ring i hi
    · rw [List.mem_singleton.1 hi]; exact⟨hj,hr,hk⟩
  · intro i hi
    by_cases e:i=j
    · subst e
      rw [e9,if_pos (List.mem_append_right _ (List.mem_singleton.2 rfl)),h.zero i hn,x5]
    · rw [jt (fun e2=>e (wj (by omega) (by omega) e2)),h.get i hi]
      have:(i ∈ idx ++ [j])↔i ∈ idx:=by rw [List.mem_append,List.mem_singleton]; exact⟨fun h=>h.resolve_right e,.inl⟩
      simp only [this]
  · intro i hi q hq
    rcases List.mem_append.1 hi with hi | hi
    · exact h.up i hi q hq
    · rw [List.mem_singleton.1 hi,h.zero j hn] at hq
      simp at hq
end
end
section
open Go.RowKit
open Go.Lib hiding intOf
theorem yY:∀ (xs:List Nat) (c q:Nat),(xs.foldl (· ||| ·) c).testBit q=true↔c.testBit q=true∨∃ x ∈ xs,x.testBit q=true
  | [],c,q=>by simp
  | x :: xs,c,q=>by
    rw [List.foldl_cons,yY xs (c ||| x) q,Nat.testBit_or,Bool.or_eq_true]
    simp only [List.mem_cons]
    constructor
    · rintro ((h | h) | ⟨y,h1,h2⟩)
      · exact .inl h
      · exact .inr ⟨x,.inl rfl,h⟩
      · exact .inr ⟨y,.inr h1,h2⟩
    · rintro (h | ⟨y,rfl | h1,h2⟩)
      · exact .inl (.inl h)
      · exact .inl (.inr h2)
      · exact .inr ⟨y,h1,h2⟩
section
variable {l:List aK} {V:Nat→ByteArray} {b:ai} {inp:ae→ByteArray}
theorem CV (hR:bz l) {n:Nat} {r:aK} (h:l[n]? = some r) (hr:r.Ring=true) (ls:List ByteArray) :
    ∃ m:Nat,qZ r ls=m∧m < 65536∧∀ q,m.testBit q=true↔r.C.toNat.testBit q=true∨∃ v ∈ ls,(fq v).toNat.testBit q=true:=by
  obtain⟨h1,h2,h3⟩:=(hR.each n r h).ring hr
  obtain⟨c,hc⟩:∃ c:Nat,r.C=c:=⟨r.C.toNat,by omega⟩
  have e:ls.map fq=(ls.map fun s=>(fq s).toNat).map fun x:Nat=>(x:Int):=by
    rw [List.map_map]
    refine List.map_congr_left fun s _=>?_
    have:=gx s
    simp only [Function.comp]
    omega
  have:=xW (ls.map fun s=>(fq s).toNat) c (fun x hx=>by
    obtain⟨s,_,rfl⟩:=List.mem_map.1 hx
    have:=gx s
    omega) (by omega)
  refine⟨(ls.map fun s=>(fq s).toNat).foldl (· ||| ·) c,?_,this.2,fun q=>?_⟩
  · unfold qZ
    dsimp only
    rw [if_neg (by omega),if_neg (by omega),if_neg (by omega),if_neg (by omega),e,hc]
    exact this.1
  · rw [yY,hc]
    rw [show ((c:Nat):Int).toNat=c from Int.toNat_natCast c]
    refine or_congr Iff.rfl ⟨fun ⟨x,hx,hq⟩=>?_,fun ⟨v,hv,hq⟩=>⟨_,List.mem_map.2 ⟨v,hv,rfl⟩,hq⟩⟩
    obtain⟨v,hv,rfl⟩:=List.mem_map.1 hx
    exact⟨v,hv,hq⟩
def H4 (l:List aK) (V:Nat→ByteArray) (b:ai) (inp:ae→ByteArray) (n0:Nat) (a:Nat→Nat) (i:Nat) (r:aK) (memo0:List (ae×ByteArray)) (idx0:List Nat) (ch0:Bool) (k:Nat) :
    (List (ae×ByteArray))×(List ae)×Bool×(List ByteArray)×(List aK)×Int×(List aI)×(List an)×(List (ae×ByteArray))×(List (ae×(List ae)))×Bool×ByteArray×Int×ByteArray→Prop
  | (m,list,ch,ws,rules,rev,inps,recs,memo,seen,d,v,ak,at_) =>
    ∃ (idx:List Nat),uM l V inp n0 memo m list idx a∧pR l V b (al.mk rules (ai.mk rev inps recs) memo seen)∧iw memo0 memo∧idx0 <+: idx∧((ch=ch0∧idx=idx0)∨(ch=true∧idx0.length < idx.length)) ∧
      ws.length=k∧(∀ q x,q < k→r.Asks[q]? = some x→∃ v,ws[q]? = some v∧si l V inp memo0 memo idx a x v)∧di l (rk l i) ws=some ⟨d,v,⟨ak,at_⟩⟩
def Cw (l:List aK) (V:Nat→ByteArray) (b:ai) (inp:ae→ByteArray) (n0:Nat) (a:Nat→Nat) (i:Nat) (r:aK) (memo0:List (ae×ByteArray)) (idx0:List Nat) (ch0:Bool) :
    (List (ae×ByteArray))×(List ae)×Bool×(List aK)×Int×(List aI)×(List an)×(List (ae×ByteArray))×(List (ae×(List ae)))×Bool×ByteArray×Int×ByteArray→Prop
  | (m,list,ch,rules,rev,inps,recs,memo,seen,d,v,ak,at_) =>
    ∃ (idx:List Nat) (ws:List ByteArray),uM l V inp n0 memo m list idx a∧pR l V b (al.mk rules (ai.mk rev inps recs) memo seen)∧iw memo0 memo∧idx0 <+: idx∧((ch=ch0∧idx=idx0)∨(ch=true∧idx0.length < idx.length)) ∧
      ws.length=r.Asks.length∧(∀ (q:Nat) (x:cF),r.Asks[q]? = some x→∃ (w:ByteArray),ws[q]? = some w∧si l V inp memo0 memo idx a x w)∧v=cq (qZ r ws)
section
variable {n0:Nat} {a:Nat→Nat} {i p:Nat} {r:aK} {memo0:List (ae×ByteArray)} {idx0:List Nat} {ch0:Bool} (hR:bz l) (hi:l[i]? = some r) (hr:r.Ring=true) (hp:idx0[p]? = some i)
include hR hi
theorem sd {ws:List ByteArray} (h:ws.length≤r.Asks.length):∃ t,di l (rk l i) ws=some t∧((ws.length=r.Asks.length∧t=⟨true,cq (qZ r ws),⟨0,⟨#[]⟩⟩⟩)∨∃ x,r.Asks[ws.length]? = some x∧t=⟨false,⟨#[]⟩,pS l x ws⟩):=by
  rcases Nat.lt_or_ge ws.length r.Asks.length with h1 | h1
  · exact⟨_,wz hR hi (List.getElem?_eq_getElem h1),.inr ⟨_,List.getElem?_eq_getElem h1,rfl⟩⟩
  · exact⟨_,ut hR hi h1,.inl ⟨by omega,by rw [List.take_of_length_le (by omega)]⟩⟩
include hp
theorem I0 {k:Nat} {m:List (ae×ByteArray)} {list:List ae} {ch:Bool} {ws:List ByteArray} {rules:List aK} {rev:Int} {inps:List aI} {recs:List an} {memo:List (ae×ByteArray)} {seen:List (ae×(List ae))} {idx:List Nat} {x:cF} {v:ByteArray}
    (h1:uM l V inp n0 memo m list idx a) (h2:pR l V b (al.mk rules (ai.mk rev inps recs) memo seen)) (h3:iw memo0 memo) (h4:idx0 <+: idx) (h5:(ch=ch0∧idx=idx0)∨(ch=true∧idx0.length < idx.length))
    (h6:ws.length=k) (h7:∀ q x,q < k→r.Asks[q]? = some x→∃ v,ws[q]? = some v∧si l V inp memo0 memo idx a x v) (hx:r.Asks[k]? = some x) (hv:si l V inp memo0 memo idx a x v) :
    Ok (cg p ws m list ch v rules rev inps recs memo seen) fun y=>match y with
      | .go s'=>k < r.Asks.length∧H4 l V b inp n0 a i r memo0 idx0 ch0 (k + 1) s'
      | .out y=>Cw l V b inp n0 a i r memo0 idx0 ch0 y:=by
  have hk:=aY hx
  have h3l:=(hR.each i r hi).asks
  obtain⟨t,ht,_⟩:=sd hR hi (ws:=ws ++ [v]) (by rw [List.length_append,h6]; simp; omega)
  have hlist:be list (p:Int)=some (rk l i):=by
    obtain⟨u,rfl⟩:=h4
    rw [aU,h1.eq,List.getElem?_map,List.getElem?_append_left (aY hp),hp]; rfl
  have hru:rules=l:=h2.rules
  unfold cg
  refine Ok.gd (dv (by simp; omega)) (Ok.eq hlist (Ok.eq (by rw [hru]; exact ht) (Ok.ret ⟨hk,idx,h1,h2,h3,h4,h5,by rw [List.length_append,h6]; rfl,fun q y hq hy=>?_,ht⟩)))
  rcases Nat.lt_or_ge q k with h | h
  · obtain⟨w,hw1,hw2⟩:=h7 q y h hy
    exact⟨w,by rw [List.getElem?_append_left (aY hw1)]; exact hw1,hw2⟩
  · obtain rfl:q=k:=by omega
    rw [hx] at hy
    obtain rfl:=Option.some.inj hy
    exact⟨v,by rw [List.getElem?_append_right (by omega),h6]; simp,hv⟩
end
end
end
section
open Go.RowKit
open Go.Lib hiding intOf
structure Gm (l:List aK) (V:Nat→ByteArray) (b:ai) (inp:ae→ByteArray) (ρ:Nat) (vrec:al→ae→Option (ByteArray×al)):Prop where
  rule:∀ s n,pR l V b s→n < l.length→qU (bk l) n < ρ→Ok (vrec s (rk l n)) fun y=>y.1=V n∧pR l V b y.2∧iw s.Memo y.2.Memo
  cell:∀ s c,pR l V b s→c < 10→Ok (vrec s (bg c)) fun y=>y.1=inp (bg c)∧y.2=s
section
variable {l:List aK} {V:Nat→ByteArray} {b:ai} {inp:ae→ByteArray} {vrec:al→ae→Option (ByteArray×al)}
variable {n0:Nat} {a:Nat→Nat} {i p:Nat} {r:aK} {memo0:List (ae×ByteArray)} {idx0:List Nat} {ch0:Bool} (hR:bz l) (hv:Gm l V b inp (qU (bk l) n0) vrec) (hi:l[i]? = some r) (hr:r.Ring=true) (hp:idx0[p]? = some i)
include hR hv hi hr hp
theorem I2 {k:Nat} (hk:k≤r.Asks.length):∀ s,H4 l V b inp n0 a i r memo0 idx0 ch0 k s→Ok (c6 vrec p s.1 s.2.1 s.2.2.1 s.2.2.2.1 s.2.2.2.2.1 s.2.2.2.2.2.1 s.2.2.2.2.2.2.1 s.2.2.2.2.2.2.2.1 s.2.2.2.2.2.2.2.2.1 s.2.2.2.2.2.2.2.2.2.1 s.2.2.2.2.2.2.2.2.2.2.1 s.2.2.2.2.2.2.2.2.2.2.2.1 s.2.2.2.2.2.2.2.2.2.2.2.2.1 s.2.2.2.2.2.2.2.2.2.2.2.2.2) fun y=>match y with
      | .go s'=>k < r.Asks.length∧H4 l V b inp n0 a i r memo0 idx0 ch0 (k + 1) s'
      | .out y=>Cw l V b inp n0 a i r memo0 idx0 ch0 y:=by
  rintro⟨m,list,ch,ws,rules,rev,inps,recs,memo,seen,d,v,ak,at_⟩ ⟨idx,h1,h2,h3,h4,h5,h6,h7,h8⟩
  dsimp only
  have hl8:=hR.high
  obtain⟨t,ht,hcase⟩:=sd hR hi (ws:=ws) (by omega)
  rw [h8] at ht
  obtain rfl:=Option.some.inj ht
  have hiI:i ∈ idx:=h4.subset (List.mem_of_getElem? hp)
  unfold c6
  rcases hcase with⟨e1,e2⟩|⟨x,hx,e2⟩
  · injection e2 with ed ev ea
    subst ed
    simp only [Bool.not_true,cond_false]
    exact Ok.ret ⟨idx,ws,h1,h2,h3,h4,h5,e1,fun q x hx=>h7 q x (by have:=aY hx; omega) hx,ev⟩
  · injection e2 with ed ev ea
    subst ed
    rw [h6] at hx
    have n1:=Bi hR hi hr hx ws
    have n2:=Bi hR hi hr hx []
    obtain⟨g0,hg⟩:=nF hR hi hx ws
    simp only [Bool.not_false,cond_true,Option.bind_some]
    rw [ea]
    have done:∀ {m list ch rules rev inps recs memo seen} {idx:List Nat} {w:ByteArray},uM l V inp n0 memo m list idx a→pR l V b (al.mk rules (ai.mk rev inps recs) memo seen)→iw memo0 memo→idx0 <+: idx→((ch=ch0∧idx=idx0)∨(ch=true∧idx0.length < idx.length)) →
        (∀ q x,q < k→r.Asks[q]? = some x→∃ v,ws[q]? = some v∧si l V inp memo0 memo idx a x v)→si l V inp memo0 memo idx a x w→Ok (cg p ws m list ch w rules rev inps recs memo seen) fun y=>match y with
      | .go s'=>k < r.Asks.length∧H4 l V b inp n0 a i r memo0 idx0 ch0 (k + 1) s'
      | .out y=>Cw l V b inp n0 a i r memo0 idx0 ch0 y:=fun q1 q2 q3 q4 q5 q6 q7=>I0 hR hi hp q1 q2 q3 q4 q5 h6 q6 hx q7
    rcases hg with⟨hc,c,hc4,e3,e4⟩|⟨hc,j,hj,e3,e4⟩
    · have hB:Cv l x:=.inl hc
      have hA:qr l inp V x []=inp (bg c):=by
        unfold qr pS
        rw [if_pos hc,if_pos hc,n2,← n1,e3]; rfl
      rw [e4,h2.cell c]
      simp only [Option.isSome_none,cond_false]
      refine Ok.eq (fp _) ?_
      rw [BG]
      simp only [Bool.not_false,cond_true]
      refine Ok.bind (hv.cell _ c h2 hc4) fun y hy=>?_
      obtain⟨y1,y2⟩:=y
      obtain⟨f1,f2⟩:=hy
      simp only at f1 f2
      subst f1 f2
      exact done h1 h2 h3 h4 h5 h7 (.inl ⟨hB,hA.symm⟩)
    · have hll:=vU (aY hi)
      have hjl:j < l.length:=by omega
      have hxj:x.N.toNat=j:=by omega
      have hri:(bk l)[i]? = some true:=by rw [lH hi,hr]
      have hio:=h1.ring i hiI
      rw [e4]
      cases hm:bQ aC (rk l j) memo with
      | some w =>
        have hw:=h2.memo j hjl w hm
        simp only [Option.isSome_some,cond_true,Option.getD_some]
        refine done h1 h2 h3 h4 h5 h7 ?_
        by_cases hB:Cv l x
        · refine .inl ⟨hB,?_⟩
          unfold qr
          rw [if_neg (by rw [hc]; simp),n2,hxj,hw]
        · exact .inr ⟨hB,.inl ⟨by rw [hxj,hm]; simp,by rw [hxj,hw]⟩⟩
      | none =>
        simp only [Option.isSome_none,cond_false]
        refine Ok.eq (fp _) ?_
        rw [Bj]
        by_cases hrj:(bk l)[j]? = some true
        · have hB:¬ Cv l x:=by
            rintro (h | h)
            · rw [hc] at h; cases h
            · rw [hxj] at h; exact h hrj
          have hm0:bQ aC (rk l x.N.toNat) memo0=none:=by
            rw [hxj]
            cases h0:bQ aC (rk l j) memo0 with
            | none=>rfl
            | some w=>rw [h3 _ _ h0] at hm; cases hm
          rw [decide_eq_true hrj]
          simp only [Bool.not_true,cond_false]
          have hg:=h1.get j hjl
          by_cases hjI:j ∈ idx
          · rw [if_pos hjI] at hg
            rw [hg]
            simp only [Option.isSome_some,Bool.not_true,cond_false]
            unfold cZ
            rw [ea,e4,hg]
            exact done h1 h2 h3 h4 h5 h7 (.inr ⟨hB,.inr ⟨by rw [hxj]; exact hjI,by rw [hxj]; rfl,hm0⟩⟩)
          · rw [if_neg hjI] at hg
            rw [hg]
            simp only [Option.isSome_none,Bool.not_false,cond_true]
            have hL:ij (rk l j)=some ⟨#[48]⟩:=by
              unfold ij
              rcases ox (l:=l) (n:=j) with⟨_,h⟩|⟨h,_⟩
              · exact absurd hrj h
              · rw [h]; rfl
            have hadd:=h1.add hl8 hjl hrj (by have:=xA hri hj hrj; omega) hjI
            have hlen:=h1.len
            refine Ok.eq hL (Ok.gd (dv (by simp; omega)) ?_)
            unfold cZ
            rw [ea,e4,e9]
            refine done hadd h2 h3 (h4.trans (List.prefix_append _ _)) (.inr ⟨rfl,?_⟩) (fun q y hq hy=>?_) (.inr ⟨hB,.inr ⟨by rw [hxj]; exact List.mem_append_right _ (List.mem_singleton.2 rfl),?_,hm0⟩⟩)
            · have:=h4.length_le
              rw [List.length_append]; simp; omega
            · obtain⟨w,q1,q2⟩:=h7 q y hq hy
              exact⟨w,q1,q2.mono (iw.refl _) fun _ h=>List.mem_append_left _ h⟩
            · rw [hxj,h1.zero j hjI,x5]; rfl
        · have hB:Cv l x:=.inr (by rw [hxj]; exact hrj)
          have hA:qr l inp V x []=V j:=by
            unfold qr
            rw [if_neg (by rw [hc]; simp),n2,hxj]
          rw [decide_eq_false hrj]
          simp only [Bool.not_false,cond_true]
          have hlow:=wi hri hj hrj
          refine Ok.bind (hv.rule _ j h2 hjl (by rw [r7 hrj]; omega)) fun y hy=>?_
          obtain⟨f1,f2,f3⟩:=hy
          exact done (h1.grow f3) f2 (h3.trans f3) h4 h5 (fun q y hq hy=>by
            obtain⟨w,q1,q2⟩:=h7 q y hq hy
            exact⟨w,q1,q2.mono f3 fun _ h=>h⟩) (.inl ⟨hB,by rw [hA,f1]⟩)
theorem DX {m:List (ae×ByteArray)} {list:List ae} {rules:List aK} {rev:Int} {inps:List aI} {recs:List an} {seen:List (ae×(List ae))} (h1:uM l V inp n0 memo0 m list idx0 a) (h2:pR l V b (al.mk rules (ai.mk rev inps recs) memo0 seen)) {t:nE} (ht:di l (rk l i) []=some t) {β:Type} {R:β→Prop} {g:_→Option β} (hg:∀ y,Cw l V b inp n0 a i r memo0 idx0 ch0 y→Ok (g y) R) :
    Ok ((loop (fun s:(List (ae×ByteArray))×(List ae)×Bool×(List ByteArray)×(List aK)×Int×(List aI)×(List an)×(List (ae×ByteArray))×(List (ae×(List ae)))×Bool×ByteArray×Int×ByteArray=>c6 vrec p s.1 s.2.1 s.2.2.1 s.2.2.2.1 s.2.2.2.2.1 s.2.2.2.2.2.1 s.2.2.2.2.2.2.1 s.2.2.2.2.2.2.2.1 s.2.2.2.2.2.2.2.2.1 s.2.2.2.2.2.2.2.2.2.1 s.2.2.2.2.2.2.2.2.2.2.1 s.2.2.2.2.2.2.2.2.2.2.2.1 s.2.2.2.2.2.2.2.2.2.2.2.2.1 s.2.2.2.2.2.2.2.2.2.2.2.2.2) (m,list,ch0,[],rules,rev,inps,recs,memo0,seen,t.Done,t.Value,t.Ask.Kind,t.Ask.Text)).bind g) R:=by
  refine Ok.loop (H4 l V b inp n0 a i r memo0 idx0 ch0) (Cw l V b inp n0 a i r memo0 idx0 ch0) r.Asks.length ?_ (fun k s hk hI=>(I2 hR hv hi hr hp hk s hI).mono fun y hy=>by cases y <;> exact hy) hg
  exact⟨idx0,h1,h2,iw.refl _,List.prefix_refl _,.inl ⟨rfl,rfl⟩,rfl,fun q x hq=>absurd hq (by omega),ht⟩
end
end
section
open Go.RowKit
open Go.Lib hiding intOf
def ur (a:Nat→Nat):Nat→Nat
  | 0=>0
  | n + 1=>ur a n + a n
theorem Bo {a a':Nat→Nat} (h:∀ j,a j≤a' j):∀ n,ur a n≤ur a' n
  | 0=>Nat.le_refl _
  | n + 1=>Nat.add_le_add (Bo h n) (h n)
theorem Bp {a a':Nat→Nat} (h:∀ j,a j≤a' j) {i:Nat} (hi:a i < a' i):∀ n,i < n→ur a n < ur a' n
  | 0,h0=>absurd h0 (by omega)
  | n + 1,h0=>by
    have h1:=h n
    have h2:=Bo h n
    show ur a n + a n < ur a' n + a' n
    rcases Nat.lt_or_ge i n with h3 | h3
    · have:=Bp h hi n h3; omega
    · obtain rfl:i=n:=by omega
      omega
theorem ww {a:Nat→Nat} (h:∀ j,a j < 65536):∀ n,ur a n≤n * 65536
  | 0=>by simp [ur]
  | n + 1=>by
    have:=ww h n
    have:=h n
    show ur a n + a n≤_
    omega
theorem Em {a m:Nat} (h:∀ q,a.testBit q=true→m.testBit q=true):a≤m:=by
  have:a &&& m=a:=by
    apply Nat.eq_of_testBit_eq
    intro q
    rw [Nat.testBit_and]
    cases ha:a.testBit q with
    | false=>rfl
    | true=>rw [h q ha]; rfl
  rw [← this]
  exact Nat.and_le_right
section
variable {l:List aK} {V:Nat→ByteArray} {b:ai} {inp:ae→ByteArray} {vrec:al→ae→Option (ByteArray×al)}
def ZY (l:List aK) (V:Nat→ByteArray) (inp:ae→ByteArray) (idx:List Nat) (a:Nat→Nat) (i:Nat):Prop :=
  ∃ r,l[i]? = some r∧(∀ q,r.C.toNat.testBit q=true→(a i).testBit q=true)∧∀ x ∈ r.Asks,(Cv l x→∀ q,(fq (qr l inp V x [])).toNat.testBit q=true→(a i).testBit q=true) ∧
    (¬ Cv l x→(∀ q,RB l inp V x.N.toNat q→(a i).testBit q=true)∨(x.N.toNat ∈ idx∧∀ q,(a x.N.toNat).testBit q=true→(a i).testBit q=true))
theorem Af {idx:List Nat} {a:Nat→Nat} (hc:∀ i ∈ idx,ZY l V inp idx a i) {i q:Nat} (h:RB l inp V i q):i ∈ idx→(a i).testBit q=true:=by
  induction h with
  | own h1 h2 =>
    intro hi
    obtain⟨r,g1,g2,g3⟩:=hc _ hi
    rw [h1] at g1
    obtain rfl:=Option.some.inj g1
    exact g2 _ h2
  | ask h1 h2 h3 h4 =>
    intro hi
    obtain⟨r,g1,g2,g3⟩:=hc _ hi
    rw [h1] at g1
    obtain rfl:=Option.some.inj g1
    exact (g3 _ h2).1 h3 _ h4
  | ring h1 h2 h3 h4 h5 ih =>
    intro hi
    obtain⟨r,g1,g2,g3⟩:=hc _ hi
    rw [h1] at g1
    obtain rfl:=Option.some.inj g1
    rcases (g3 _ h2).2 (by rintro (h | h); rw [h3] at h; cases h; exact h h4) with h | ⟨h,k⟩
    · exact h _ h5
    · exact k _ (ih h)
theorem ti (hR:bz l) (hD:AQ l inp V) {j:Nat} (hj:(bk l)[j]? = some true):∃ u:Nat,V j=cq u∧u < 65536∧(fq (V j)).toNat=u∧∀ q,u.testBit q=true↔RB l inp V j q:=by
  have hl:j < l.length:=by have:=aY hj; unfold bk at this; rwa [List.length_map] at this
  have hg:=List.getElem?_eq_getElem hl
  obtain⟨u,h1,h2,h3⟩:=hD.ring j l[j] hg (by rw [nX hl] at hj; exact Option.some.inj hj)
  exact⟨u,h1,h2,by rw [h1,tQ h2]; omega,h3⟩
theorem wA {n:Nat} (h:n < 65536):(fq (cq (n:Int))).toNat=n:=by rw [tQ h]; omega
theorem Ap {x:cF} (h:¬ Cv l x):x.Cell=false∧(bk l)[x.N.toNat]? = some true:=by
  constructor
  · cases hc:x.Cell with
    | false=>rfl
    | true=>exact absurd (.inl hc) h
  · exact Classical.byContradiction fun e=>h (.inr e)
theorem uM.set {n0:Nat} {memo m:List (ae×ByteArray)} {list:List ae} {idx:List Nat} {a:Nat→Nat} (h:uM l V inp n0 memo m list idx a) (hl:l.length≤8) {i u:Nat} (hi:i ∈ idx) (hu:u < 65536) (hlow:∀ q,(a i).testBit q=true→u.testBit q=true) (hRB:∀ q,u.testBit q=true→RB l inp V i q) (hF:∀ q,u.testBit q=true→Fb l V inp memo a i q) :
    uM l V inp n0 memo (cT aC (rk l i) (cq (u:Int)) m) list idx (fun j=>if j=i then u else a j):=by
  have hmono:∀ j q,(a j).testBit q=true→(if j=i then u else a j).testBit q=true:=by
    intro j q hq
    by_cases e:j=i
    · rw [if_pos e]; rw [e] at hq; exact hlow q hq
    · rw [if_neg e]; exact hq
  refine⟨h.eq,h.nd,h.ring,h.head,fun j hj=>?_,fun j hj=>?_,fun j=>?_,fun j q hq=>?_,fun j hj q hq=>?_⟩
  · by_cases e:j=i
    · subst e
      rw [e9,if_pos hi,if_pos rfl]
    · rw [jt (fun e2=>e (wj (by omega) (by have:=(h.ring i hi).1; omega) e2)),h.get j hj]
      simp only [if_neg e]
  · have:j ≠ i:=fun e=>hj (e ▸ hi)
    show (if j=i then u else a j)=0
    rw [if_neg this]; exact h.zero j hj
  · show (if j=i then u else a j) < 65536
    split
    · exact hu
    · exact h.lt j
  · by_cases e:j=i
    · rw [if_pos e] at hq; rw [e]; exact hRB q hq
    · rw [if_neg e] at hq; exact h.le j q hq
  · by_cases e:j=i
    · rw [if_pos e] at hq; rw [e]; exact (hF q hq).mono (iw.refl _) hmono
    · rw [if_neg e] at hq; exact (h.up j hj q hq).mono (iw.refl _) hmono
section
variable {n0:Nat} {a:Nat→Nat} {i:Nat} {r:aK} {memo0 memo m m0:List (ae×ByteArray)} {idx0 idx:List Nat} {list list0:List ae} {ws:List ByteArray} {u:Nat} (hR:bz l) (hD:AQ l inp V) (hi:l[i]? = some r) (hr:r.Ring=true)
  (h0:uM l V inp n0 memo0 m0 list0 idx0 a) (h1:uM l V inp n0 memo m list idx a) (hiI:i ∈ idx0) (hlen:ws.length=r.Asks.length) (hans:∀ (q:Nat) (x:cF),r.Asks[q]? = some x→∃ (w:ByteArray),ws[q]? = some w∧si l V inp memo0 memo idx a x w)
  (hu:∀ q,u.testBit q=true↔r.C.toNat.testBit q=true∨∃ v ∈ ws,(fq v).toNat.testBit q=true)
include hR hD hi h0 h1 hiI hlen hans hu
omit hlen in
theorem E8 (q:Nat) (hq:(a i).testBit q=true):u.testBit q=true:=by
  obtain⟨r',g1,g2⟩:=h0.up i hiI q hq
  rw [hi] at g1
  obtain rfl:=Option.some.inj g1
  rcases g2 with g2 | ⟨x,g2,g3⟩
  · exact (hu q).2 (.inl g2)
  · obtain⟨k,hk⟩:=List.mem_iff_getElem?.1 g2
    obtain⟨w,w1,w2⟩:=hans k x hk
    refine (hu q).2 (.inr ⟨w,List.mem_of_getElem? w1,?_⟩)
    rcases w2 with⟨w2,rfl⟩|⟨w2,w3⟩
    · rcases g3 with⟨_,g3⟩|⟨g3,_⟩
      · exact g3
      · exact absurd w2 g3
    · obtain⟨u',d1,d2,d3,d4⟩:=ti hR hD (Ap w2).2
      rcases g3 with⟨g3,_⟩|⟨_,g3⟩
      · exact absurd g3 w2
      · rcases w3 with⟨_,rfl⟩|⟨_,rfl,w5⟩
        · rw [d3,d4]
          rcases g3 with⟨_,g3⟩ | g3
          · exact g3
          · exact h1.le _ _ g3
        · rw [wA (h1.lt _)]
          rcases g3 with⟨g3,_⟩ | g3
          · exact absurd w5 g3
          · exact g3
omit h0 hiI in
theorem HA (q:Nat) (hq:u.testBit q=true):RB l inp V i q∧Fb l V inp memo a i q:=by
  rcases (hu q).1 hq with g | ⟨w,g1,g2⟩
  · exact⟨.own hi g,r,hi,.inl g⟩
  · obtain⟨k,hk⟩:=List.mem_iff_getElem?.1 g1
    have hk2:=aY hk
    have hx:=List.getElem?_eq_getElem (l:=r.Asks) (i:=k) (by omega)
    obtain⟨w',w1,w2⟩:=hans k _ hx
    rw [hk] at w1
    obtain rfl:=Option.some.inj w1
    have hm:=List.mem_of_getElem? hx
    rcases w2 with⟨w2,rfl⟩|⟨w2,w3⟩
    · exact⟨.ask hi hm w2 g2,r,hi,.inr ⟨_,hm,.inl ⟨w2,g2⟩⟩⟩
    · obtain⟨u',d1,d2,d3,d4⟩:=ti hR hD (Ap w2).2
      rcases w3 with⟨w3,rfl⟩|⟨_,rfl,w5⟩
      · rw [d3,d4] at g2
        exact⟨.ring hi hm (Ap w2).1 (Ap w2).2 g2,r,hi,.inr ⟨_,hm,.inr ⟨w2,.inl ⟨w3,g2⟩⟩⟩⟩
      · rw [wA (h1.lt _)] at g2
        exact⟨.ring hi hm (Ap w2).1 (Ap w2).2 (h1.le _ _ g2),r,hi,.inr ⟨_,hm,.inr ⟨w2,.inr g2⟩⟩⟩
omit h0 hiI hlen in
theorem Hz (hau:a i=u):ZY l V inp idx a i:=by
  refine⟨r,hi,fun q hq=>?_,fun x hx=>?_⟩
  · rw [hau]; exact (hu q).2 (.inl hq)
  · obtain⟨k,hk⟩:=List.mem_iff_getElem?.1 hx
    obtain⟨w,w1,w2⟩:=hans k x hk
    have hw:∀ q,(fq w).toNat.testBit q=true→(a i).testBit q=true:=fun q hq=>by
      rw [hau]; exact (hu q).2 (.inr ⟨w,List.mem_of_getElem? w1,hq⟩)
    rcases w2 with⟨w2,rfl⟩|⟨w2,w3⟩
    · exact⟨fun _ q hq=>hw q hq,fun h=>absurd w2 h⟩
    · obtain⟨u',d1,d2,d3,d4⟩:=ti hR hD (Ap w2).2
      refine⟨fun h=>absurd h w2,fun _=>?_⟩
      rcases w3 with⟨_,rfl⟩|⟨w3,rfl,_⟩
      · exact .inl fun q hq=>hw q (by rw [d3,d4]; exact hq)
      · exact .inr ⟨w3,fun q hq=>hw q (by rw [wA (h1.lt _)]; exact hq)⟩
end
end
end
section
open Go.RowKit
open Go.Lib hiding intOf
section
variable {l:List aK} {V:Nat→ByteArray} {b:ai} {inp:ae→ByteArray} {vrec:al→ae→Option (ByteArray×al)}
def mu (l:List aK) (idx:List Nat) (a:Nat→Nat):Nat:=idx.length + ur a l.length
def Jm (l:List aK) (V:Nat→ByteArray) (b:ai) (inp:ae→ByteArray) (n0:Nat) (memo1:List (ae×ByteArray)) (idx1:List Nat) (a1:Nat→Nat) (k:Nat) :
    (List (ae×ByteArray))×(List ae)×Bool×Int×(List aK)×Int×(List aI)×(List an)×(List (ae×ByteArray))×(List (ae×(List ae)))→Prop
  | (m,list,ch,p,rules,rev,inps,recs,memo,seen) =>
    ∃ (idx:List Nat) (a:Nat→Nat),p=(k:Int)∧k≤idx.length∧uM l V inp n0 memo m list idx a∧pR l V b (al.mk rules (ai.mk rev inps recs) memo seen)∧iw memo1 memo ∧
      ((ch=false∧idx=idx1∧a=a1∧∀ (q i:Nat),q < k→idx[q]? = some i→ZY l V inp idx a i)∨(ch=true∧mu l idx1 a1 < mu l idx a))
def Jo (l:List aK) (V:Nat→ByteArray) (b:ai) (inp:ae→ByteArray) (n0:Nat) (memo1:List (ae×ByteArray)) (idx1:List Nat) (a1:Nat→Nat) :
    (List (ae×ByteArray))×(List ae)×Bool×(List aK)×Int×(List aI)×(List an)×(List (ae×ByteArray))×(List (ae×(List ae)))→Prop
  | (m,list,ch,rules,rev,inps,recs,memo,seen) =>
    ∃ (idx:List Nat) (a:Nat→Nat),uM l V inp n0 memo m list idx a∧pR l V b (al.mk rules (ai.mk rev inps recs) memo seen)∧iw memo1 memo ∧
      ((ch=false∧∀ i ∈ idx,ZY l V inp idx a i)∨(ch=true∧mu l idx1 a1 < mu l idx a))
section
variable {n0:Nat} {memo1:List (ae×ByteArray)} {idx1:List Nat} {a1:Nat→Nat} (hR:bz l) (hD:AQ l inp V) (hv:Gm l V b inp (qU (bk l) n0) vrec)
include hR hD hv
theorem Hs {k:Nat} (hk:k≤l.length):∀ s,Jm l V b inp n0 memo1 idx1 a1 k s→Ok (dE vrec s.1 s.2.1 s.2.2.1 s.2.2.2.1 s.2.2.2.2.1 s.2.2.2.2.2.1 s.2.2.2.2.2.2.1 s.2.2.2.2.2.2.2.1 s.2.2.2.2.2.2.2.2.1 s.2.2.2.2.2.2.2.2.2) fun y=>match y with
      | .go s'=>k < l.length∧Jm l V b inp n0 memo1 idx1 a1 (k + 1) s'
      | .out y=>Jo l V b inp n0 memo1 idx1 a1 y:=by
  rintro⟨m,list,ch,p,rules,rev,inps,recs,memo,seen⟩ ⟨idx,a,rfl,hkl,h1,h2,h3,h4⟩
  dsimp only
  have hl8:=hR.high
  obtain⟨len1,len2⟩:=h1.len
  unfold dE
  refine Ok.cond (fun hb=>?_) (fun hb=>?_)
  · have hlt:k < idx.length:=by have:=of_decide_eq_true hb; omega
    have hp:=List.getElem?_eq_getElem hlt
    have hiI:=List.mem_of_getElem? hp
    generalize idx[k]=i at hp hiI
    obtain⟨hil,hir,hio⟩:=h1.ring i hiI
    have hi:=List.getElem?_eq_getElem hil
    generalize l[i]=r at hi
    have hr:r.Ring=true:=by rw [lH hi] at hir; exact Option.some.inj hir
    obtain⟨t,ht,_⟩:=sd hR hi (ws:=[]) (by simp)
    have hget:be list ((k:Nat):Int)=some (rk l i):=by rw [aU,h1.eq,List.getElem?_map,hp]; rfl
    have hru:rules=l:=h2.rules
    refine Ok.eq hget (Ok.eq (by rw [hru]; exact ht) ?_)
    unfold eW
    refine DX hR hv hi hr hp h1 h2 ht ?_
    rintro⟨m',list',ch',rules',rev',inps',recs',memo',seen',d',v',ak',at'⟩ ⟨idx',ws,g1,g2,g3,g4,g5,g6,g7,g8⟩
    dsimp only
    obtain⟨u,hu1,hu2,hu3⟩:=CV hR hi hr ws
    rw [hu1] at g8
    subst g8
    have hp':idx'[k]? = some i:=by
      obtain⟨z,rfl⟩:=g4
      rw [List.getElem?_append_left hlt]; exact hp
    have hiI':i ∈ idx':=g4.subset hiI
    have hget':be list' ((k:Nat):Int)=some (rk l i):=by rw [aU,g1.eq,List.getElem?_map,hp']; rfl
    have hm:=g1.get i hil
    rw [if_pos hiI'] at hm
    have hlen':=g4.length_le
    have hk1:k + 1≤idx'.length:=aY hp'
    have hwr:IntKind.i64.wrap ((k:Int) + 1)=((k + 1:Nat):Int):=cB (by omega)
    unfold dS
    refine Ok.eq hget' ?_
    rw [hm]
    simp only [Option.getD_some,Option.bind_some]
    by_cases e:a i=u
    · rw [e,show ((cq (u:Int)).toList == (cq (u:Int)).toList)=true by simp]
      simp only [Bool.not_true,cond_false]
      unfold cY
      rw [hwr]
      refine Ok.ret ⟨by omega,idx',a,rfl,hk1,g1,g2,h3.trans g3,?_⟩
      rcases g5 with⟨e1,e2⟩|⟨e1,e2⟩
      · subst e1 e2
        rcases h4 with⟨q1,q2,q3,q4⟩|⟨q1,q2⟩
        · refine .inl ⟨q1,q2,q3,fun q j hq hj=>?_⟩
          rcases Nat.lt_or_ge q k with hq2 | hq2
          · exact q4 q j hq2 hj
          · obtain rfl:q=k:=by omega
            rw [hp'] at hj
            obtain rfl:=Option.some.inj hj
            exact Hz hR hD hi g1 g7 hu3 e
        · exact .inr ⟨q1,q2⟩
      · refine .inr ⟨e1,?_⟩
        unfold mu at h4 ⊢
        rcases h4 with⟨q1,q2,q3,q4⟩|⟨q1,q2⟩
        · rw [← q2,← q3]; omega
        · omega
    · have hne:((cq ((a i:Nat):Int)).toList == (cq (u:Int)).toList)=false:=by
        rw [beq_eq_false_iff_ne]
        exact fun h=>e (xk (g1.lt i) hu2 (toList_inj h))
      rw [hne]
      simp only [Bool.not_false,cond_true]
      refine Ok.eq hget' ?_
      unfold cY
      rw [hwr]
      have hlow:=E8 hR hD hi h1 g1 hiI g7 hu3
      have hup:=HA hR hD hi g1 g6 g7 hu3
      have nI:=g1.set hl8 hiI' hu2 hlow (fun q hq=>(hup q hq).1) (fun q hq=>(hup q hq).2)
      refine Ok.ret ⟨by omega,idx',_,rfl,hk1,nI,g2,h3.trans g3,.inr ⟨rfl,?_⟩⟩
      have hle:a i≤u:=Em hlow
      have hs:ur a l.length < ur (fun j=>if j=i then u else a j) l.length:=by
        refine Bp (i:=i) (fun j=>?_) ?_ _ hil
        · show a j≤if j=i then u else a j
          split
          · rename_i hj; rw [hj]; exact hle
          · exact Nat.le_refl _
        · show a i < if i=i then u else a i
          rw [if_pos rfl]; omega
      unfold mu at h4 ⊢
      rcases h4 with⟨q1,q2,q3,q4⟩|⟨q1,q2⟩
      · rw [← q2,← q3]; omega
      · omega
  · have hge:¬ k < idx.length:=by have:=of_decide_eq_false hb; omega
    refine Ok.ret ⟨idx,a,h1,h2,h3,?_⟩
    rcases h4 with⟨q1,q2,q3,q4⟩|⟨q1,q2⟩
    · refine .inl ⟨q1,fun i hi=>?_⟩
      obtain⟨q,hq⟩:=List.mem_iff_getElem?.1 hi
      exact q4 q i (by have:=aY hq; omega) hq
    · exact .inr ⟨q1,q2⟩
def Io (l:List aK) (V:Nat→ByteArray) (b:ai) (inp:ae→ByteArray) (n0:Nat) (memo1:List (ae×ByteArray)) (k:Nat) :
    (List (ae×ByteArray))×(List ae)×Bool×(List aK)×Int×(List aI)×(List an)×(List (ae×ByteArray))×(List (ae×(List ae)))→Prop
  | (m,list,ch,rules,rev,inps,recs,memo,seen) =>
    ∃ (idx:List Nat) (a:Nat→Nat),uM l V inp n0 memo m list idx a∧pR l V b (al.mk rules (ai.mk rev inps recs) memo seen)∧iw memo1 memo ∧
      ((ch=false∧∀ i ∈ idx,ZY l V inp idx a i)∨(ch=true∧k≤mu l idx a))
def Fo (l:List aK) (V:Nat→ByteArray) (b:ai) (inp:ae→ByteArray) (n0:Nat) (memo1:List (ae×ByteArray)) :
    (List (ae×ByteArray))×(List ae)×(List aK)×Int×(List aI)×(List an)×(List (ae×ByteArray))×(List (ae×(List ae)))→Prop
  | (m,list,rules,rev,inps,recs,memo,seen) =>
    ∃ (idx:List Nat) (a:Nat→Nat),uM l V inp n0 memo m list idx a∧pR l V b (al.mk rules (ai.mk rev inps recs) memo seen)∧iw memo1 memo∧∀ i ∈ idx,ZY l V inp idx a i
omit hD hv in
theorem Dh {memo m:List (ae×ByteArray)} {list:List ae} {idx:List Nat} {a:Nat→Nat} (h:uM l V inp n0 memo m list idx a):mu l idx a≤600000:=by
  have:=ww h.lt l.length
  have:=h.len.2
  have:=hR.high
  unfold mu
  omega
theorem Ht {k:Nat}:∀ s,Io l V b inp n0 memo1 k s→Ok (dF vrec s.1 s.2.1 s.2.2.1 s.2.2.2.1 s.2.2.2.2.1 s.2.2.2.2.2.1 s.2.2.2.2.2.2.1 s.2.2.2.2.2.2.2.1 s.2.2.2.2.2.2.2.2) fun y=>match y with
      | .go s'=>k < 600001∧Io l V b inp n0 memo1 (k + 1) s'
      | .out y=>Fo l V b inp n0 memo1 y:=by
  rintro⟨m,list,ch,rules,rev,inps,recs,memo,seen⟩ ⟨idx,a,h1,h2,h3,h4⟩
  dsimp only
  unfold dF
  refine Ok.cond (fun hb=>?_) (fun hb=>?_)
  · subst hb
    have h5:k≤mu l idx a:=by
      rcases h4 with⟨h,_⟩|⟨_,h⟩
      · cases h
      · exact h
    have hbd:=Dh hR h1
    refine Ok.loop (Jm l V b inp n0 memo idx a) (Jo l V b inp n0 memo idx a) l.length ⟨idx,a,rfl,Nat.zero_le _,h1,h2,iw.refl _,.inl ⟨rfl,rfl,rfl,fun q i hq=>absurd hq (by omega)⟩⟩
      (fun k s hk hI=>(Hs hR hD hv hk s hI).mono fun y hy=>by cases y <;> exact hy) ?_
    rintro⟨m',list',ch',rules',rev',inps',recs',memo',seen'⟩ ⟨idx',a',g1,g2,g3,g4⟩
    refine Ok.ret ⟨by omega,idx',a',g1,g2,h3.trans g3,?_⟩
    rcases g4 with⟨q1,q2⟩|⟨q1,q2⟩
    · exact .inl ⟨q1,q2⟩
    · exact .inr ⟨q1,by omega⟩
  · subst hb
    refine Ok.ret ⟨idx,a,h1,h2,h3,?_⟩
    rcases h4 with⟨_,h⟩|⟨h,_⟩
    · exact h
    · cases h
omit hv in
theorem CU {m list memo idx a} (h1:uM l V inp n0 memo m list idx a) (hc:∀ i ∈ idx,ZY l V inp idx a i) {i:Nat} (hi:i ∈ idx):cq ((a i:Nat):Int)=V i:=by
  obtain⟨u,d1,d2,d3,d4⟩:=ti hR hD (h1.ring i hi).2.1
  rw [d1]
  congr 2
  apply Nat.eq_of_testBit_eq
  intro q
  rw [Bool.eq_iff_iff,d4]
  exact⟨h1.le i q,fun h=>Af hc h hi⟩
theorem DQ {s:al} (hs:pR l V b s) (hn:n0 < l.length) (hr0:(bk l)[n0]? = some true) :
    Ok (fF vrec s (rk l n0)) fun s'=>pR l V b s'∧iw s.Memo s'.Memo∧bQ aC (rk l n0) s'.Memo=some (V n0):=by
  have hl8:=hR.high
  have hL:ij (rk l n0)=some ⟨#[48]⟩:=by
    unfold ij
    rcases ox (l:=l) (n:=n0) with⟨_,h⟩|⟨h,_⟩
    · exact absurd hr0 h
    · rw [h]; rfl
  unfold fF
  refine Ok.eq hL ?_
  unfold eY
  have hA:uM l V inp n0 s.Memo (cT aC (rk l n0) ⟨#[48]⟩ []) [rk l n0] [n0] (fun _=>0):=by
    refine⟨rfl,by simp,fun i hi=>?_,List.mem_singleton.2 rfl,fun i hi=>?_,fun _ _=>rfl,fun _=>by simp,fun i q hq=>by simp at hq,fun i _ q hq=>by simp at hq⟩
    · rw [List.mem_singleton.1 hi]; exact⟨hn,hr0,Nat.le_refl _⟩
    · by_cases e:i=n0
      · subst e
        rw [e9,if_pos (List.mem_singleton.2 rfl),x5]
      · rw [jt (fun e2=>e (wj (by omega) (by omega) e2)),if_neg (by simpa using e)]; rfl
  refine Ok.loop (Io l V b inp n0 s.Memo) (Fo l V b inp n0 s.Memo) 600001 ⟨[n0],fun _=>0,hA,hs,iw.refl _,.inr ⟨rfl,Nat.zero_le _⟩⟩
    (fun k s hk hI=>(Ht hR hD hv s hI).mono fun y hy=>by cases y <;> exact hy) ?_
  rintro⟨m,list,rules,rev,inps,recs,memo,seen⟩ ⟨idx,a,h1,h2,h3,h4⟩
  obtain⟨len1,len2⟩:=h1.len
  dsimp only
  unfold dR
  refine Ok.loop (fun (k:Nat) (st:Int×List (ae×ByteArray))=>st.1=k∧k≤idx.length∧pR l V b (al.mk rules (ai.mk rev inps recs) st.2 seen)∧iw s.Memo st.2∧∀ (q i:Nat),q < k→idx[q]? = some i→bQ aC (rk l i) st.2=some (V i))
    (fun memo'=>pR l V b (al.mk rules (ai.mk rev inps recs) memo' seen)∧iw s.Memo memo'∧bQ aC (rk l n0) memo'=some (V n0)) idx.length ⟨rfl,Nat.zero_le _,h2,h3,fun q i hq=>absurd hq (by omega)⟩ ?_ ?_
  · rintro k ⟨p,memo'⟩ hk ⟨rfl,_,g1,g2,g3⟩
    dsimp only
    unfold fN
    refine Ok.cond (fun hb=>?_) (fun hb=>?_)
    · have hlt:k < idx.length:=by have:=of_decide_eq_true hb; omega
      have hp:=List.getElem?_eq_getElem hlt
      have hiI:=List.mem_of_getElem? hp
      generalize idx[k]=i at hp hiI
      obtain⟨hil,_⟩:=h1.ring i hiI
      have hget:be list ((k:Nat):Int)=some (rk l i):=by rw [aU,h1.eq,List.getElem?_map,hp]; rfl
      refine Ok.eq hget ?_
      have hm:=h1.get i hil
      rw [if_pos hiI,CU hR hD h1 h4 hiI] at hm
      rw [hm]
      simp only [Option.getD_some,Option.bind_some]
      obtain⟨p1,p2⟩:=g1.put hil hl8
      refine Ok.ret ⟨hlt,cB (by omega),hlt,p1,g2.trans p2,fun q j hq hj=>?_⟩
      rcases Nat.lt_or_ge q k with hq2 | hq2
      · exact p2 _ _ (g3 q j hq2 hj)
      · obtain rfl:q=k:=by omega
        rw [hp] at hj
        obtain rfl:=Option.some.inj hj
        exact e9 _ _ _
    · have hge:¬ k < idx.length:=by have:=of_decide_eq_false hb; omega
      obtain⟨q,hq⟩:=List.mem_iff_getElem?.1 h1.head
      exact Ok.ret ⟨g1,g2,g3 q n0 (by have:=aY hq; omega) hq⟩
  · rintro memo' ⟨g1,g2,g3⟩
    exact Ok.ret ⟨g1,g2,g3⟩
end
end
end
section
open Go.RowKit
set_option maxRecDepth 100000 in
set_option maxHeartbeats 4000000 in
theorem wN (T:Nat→Prop) (W0:World) (hT:∀ k,T k→k < W0.heap.size) (hD:vd T W0 []) (g:(List bf)) (H:Value) (av:aA ar (dT T []) W0 H g) (y:(List bf)) (hM:dt g=some y) (e0:bf) (W:be y (IntKind.i64.wrap ((y.length:Int) - 1))=some e0):aW Tryz.prog (MD []) 121 [H] W0 (fun v w'=>∃ (cl:List Value) (O:Value) (M:List Value) (P:Value) (N:List Value),aB (HR ar) (dT T [.own v 131 ar.size cl,.own O 44 ac.size M,.own P 9 aN.str.size N]) w' cl (eb y (IntKind.i64.wrap ((y.length:Int) - 1)) [.int .i64 e0.Key.Kind,.string e0.Key.Text,.bool e0.Running,.int .i64 e0.At,O,P])∧aB ac (dT T [.own v 131 ar.size cl,.own O 44 ac.size M,.own P 9 aN.str.size N]) w' M e0.Reads∧aB aN.str (dT T [.own v 131 ar.size cl,.own O 44 ac.size M,.own P 9 aN.str.size N]) w' N e0.Answers∧n7 W0 w' [] [.own v 131 ar.size cl,.own O 44 ac.size M,.own P 9 aN.str.size N]):=by
 refine jp (c:=_) Tryz.func121 rfl T 26 Tryz.ntmps121 hT rfl hD fun a hS=>?_;replace hS:=hS.fact (aJ ar H g) av;unfold dt at hM;refine rq fun K26 a3=>?_;refine qa hS fun a hS=>?_;refine rz (a3 _ _ ?_);refine rq fun K27 a4=>?_;refine qa hS fun a hS=>?_;refine rz (a4 _ _ ?_);refine aG (J:=fun a w=>∃ (L:(List bf)) (I:Value) (t:(List Value)) (G:List bf) (j:bf) (C:Value) (z:List Value) (D:Value) (A:List Value),L=G ++ [j]∧St W0 (MD []) T 26 [(3,I)] [.own I 131 ar.size t,.own C 44 ac.size z,.own D 9 aN.str.size A] [am (HR ar) t (vT G [.int .i64 j.Key.Kind,.string j.Key.Text,.bool j.Running,.int .i64 j.At,C,D]),am ac z j.Reads,am aN.str A j.Answers] a w∧cj L=some y) ?_ ?_
 ·skip;refine rq fun K40 a9=>?_;refine qm hS fun a hS=>?_;refine qy hS (Gg (R:=ar) (xs:=g) hS wv rfl 0 rfl) fun a hS=>?_;refine qm hS fun a hS=>?_;refine rz (a9 _ _ ?_);refine wp_block ?_;replace hS:=hS.nilRow ar 131 (by decide);obtain⟨r1,ao,hMo1⟩:=bd hM;refine bu (fun s:(List bf)×Int=>bH g s.1 s.2) (fun s a w=>∃ (e:(List bf)) (f:Int) (q:Value) (o:(List Value)),(e,f)=s∧((e=[]∧St W0 (MD []) T 26 [(3,q),(6,H),(7,.int .i64 (g.length:Int)),(8,.int .i64 f)] [.own q 131 ar.size o] [am ar o e,aJ ar H g] a w)∨∃ (G:List bf) (j:bf) (C:Value) (z:List Value) (D:Value) (A:List Value),e=G ++ [j]∧St W0 (MD []) T 26 [(3,q),(6,H),(7,.int .i64 (g.length:Int)),(8,.int .i64 f)] [.own q 131 ar.size o,.own C 44 ac.size z,.own D 9 aN.str.size A] [am (HR ar) o (vT G [.int .i64 j.Key.Kind,.string j.Key.Text,.bool j.Running,.int .i64 j.At,C,D]),am ac z j.Reads,am aN.str A j.Answers,aJ ar H g] a w)) ao ⟨([]:List bf),0,(.slice none 0 0),([]),rfl,.inl ⟨rfl,(hS.meet [0] (by decide) ⟨rfl,rfl,rfl,rfl,trivial⟩ ⟨rfl,trivial⟩ ⟨⟨0,rfl⟩,⟨1,rfl⟩,trivial⟩)⟩⟩ ?_;rintro s a w Y ⟨e,f,q,o,rfl,V⟩ hM hf1;by_cases hlt:(f:Int) < (g.length:Int)
  ·skip;have hS:St W0 (MD []) T 26 [(3,q),(6,H),(7,.int .i64 (g.length:Int)),(8,.int .i64 f)] [.own q 131 ar.size o] [am ar o e,aJ ar H g] a w:=by
    rcases V with⟨_,hS⟩|⟨G,j,C,z,D,A,ho,hS⟩
    · exact hS
    replace hS:=(hS.freeze (R:=ac) 1 rfl 1 rfl).freeze (R:=aN.str) 1 rfl 3 rfl;replace hS:=hS.closeLast (R:=ar) (x:=j) 2 rfl ⟨_,_,rfl,hS.get 1 rfl,hS.get 0 rfl⟩;rw [← ho] at hS;exact hS.meet [0] (by decide) ⟨rfl,rfl,rfl,rfl,trivial⟩ ⟨rfl,trivial⟩ ⟨⟨0,rfl⟩,⟨6,rfl⟩,trivial⟩
   have hM:bH g e f=some Y:=hM;unfold bH at hM;refine rq fun K51 B=>?_;refine qy hS (zP hS rfl rfl rfl) fun a hS=>?_;refine rz (B _ _ ?_);refine wp_seq_k fun K52 K=>?_;have p:decide ((f:Int) < (g.length:Int))=true:=decide_eq_true hlt;replace hM:=ct p hM;refine K1 hS rfl p ?_;refine wp_skip ?_;refine K _ _ ?_;refine wp_seq_k fun K53 ab=>?_;refine wp_block ?_;refine rq fun K54 af=>?_;obtain⟨b,Q,hM⟩:=bd hM;refine wl rfl (bc (R:=ar) hS wv rJ rfl rfl 1 rfl Q rfl fun ax b5 b1 Z a hS=>?_);obtain⟨E,F,rfl,S,U⟩:=Z;replace hS:=(hS.fact (aJ ac E b.Reads) S).fact (aJ aN.str F b.Answers) U;refine qy hS (tS (k:=0) hS rJ 2 rfl rfl (fun _ h=>h.elim) (us:=[.int .i64 b.Key.Kind,.string b.Key.Text,.bool b.Running,.int .i64 b.At,E,F]) rfl rfl (fun h=>by cases h)) fun a hS=>?_;refine wl rfl (cr hS qo rfl fun r b4 a w hk hS=>?_);refine wl rfl (qt hS rfl rfl (us:=[.int .i64 b.Key.Kind,.string b.Key.Text,.bool b.Running,.int .i64 b.At,E,F]) rfl rJ 0 rfl rfl rfl (oc rfl (oc rfl (oc rfl (oc rfl (oc (aA.one ((hS.get 1 rfl):aA ac _ _ _ _)) (oc (aA.one ((hS.get 0 rfl):aA aN.str _ _ _ _)) on)))))) fun w hk hS=>?_);refine rz (af _ _ ?_);refine wp_seq_k fun K55 ag=>?_;replace hS:=(hS.nilRow ac 44 (by decide)).nilRow aN.str 9 (by decide);refine F3 [(2,.blk (Value.ownBlock (.slice none 0 0))),(5,.blk (Value.ownBlock (.slice none 0 0))),(7,.blk (some r)),(9,.blk (some r))] hS mixed rfl (fun c a d v w h=>by cases d <;> exact h) fun w hQ hS=>?_;refine dy 0 (v:=.pointer (some ⟨r,0 + 4,none⟩)) rfl (by kernel_rfl) (by kernel_rfl) (by kernel_rfl) rfl hQ hS (zO hS rfl xU) rfl rfl rfl fun a hS=>?_;refine dy (l:=[]) 1 (v:=E) rfl (by kernel_rfl) (by kernel_rfl) (by kernel_rfl) (by kernel_rfl) hQ hS (dH hS rfl AH 2 rfl bo (us:=[E]) rfl rfl (fun _=>rfl)) rfl rfl rfl fun a hS=>?_;refine dy 3 (v:=.pointer (some ⟨r,0 + 5,none⟩)) rfl (by kernel_rfl) (by kernel_rfl) (by kernel_rfl) rfl hQ hS (zO hS rfl xV) rfl rfl rfl fun a hS=>?_;refine dy (l:=[.blk (Value.ownBlock (.slice none 0 0))]) 4 (v:=F) rfl (by kernel_rfl) (by kernel_rfl) (by kernel_rfl) (by kernel_rfl) hQ hS (dH hS rfl AI 2 rfl (ic hS 2 rfl rfl 0 rfl rfl (by decide) bo) (us:=[F]) rfl rfl (fun _=>rfl)) rfl rfl rfl fun a hS=>?_;obtain⟨a0,hM⟩:=aS hM;refine qK (i:=2) rfl (by kernel_rfl) rfl (bw (R:=ac) (xs:=([]:List ae)) (ys:=b.Reads) hS gm (by decide) (by decide) rfl rfl 1 rfl 1 rfl 3 rfl a0 rfl fun m b2 a w hk hS=>⟨kB rfl hk kH,?_⟩);refine dy 6 (v:=.pointer (some ⟨r,0 + 4,none⟩)) rfl (by kernel_rfl) (by kernel_rfl) (by kernel_rfl) rfl hQ hS (zO hS rfl xU) rfl rfl rfl fun a hS=>?_;obtain⟨a1,hM⟩:=aS hM;refine qK (i:=5) rfl (by kernel_rfl) rfl (bw (R:=aN.str) (xs:=([]:List ByteArray)) (ys:=b.Answers) hS uQ (by decide) (by decide) rfl rfl 0 rfl 1 rfl 3 rfl a1 rfl fun n b3 a w hk hS=>⟨kB rfl hk kH,?_⟩);refine qK (i:=7) rfl (by kernel_rfl) rfl (qt hS rfl rfl (us:=[m]) (ik (gy (hS.own _ (List.mem_of_getElem? (i:=1) rfl)).1)) AH 2 rfl rfl rfl (oc (gy (hS.own _ (List.mem_of_getElem? (i:=1) rfl)).1) on) fun w hk hS=>⟨kB rfl hk iC,?_⟩);refine dy 8 (v:=.pointer (some ⟨r,0 + 5,none⟩)) rfl (by kernel_rfl) (by kernel_rfl) (by kernel_rfl) rfl hQ hS (zO hS rfl xV) rfl rfl rfl fun a hS=>?_;refine qK (i:=9) rfl (by kernel_rfl) rfl (qt hS rfl rfl (us:=[n]) (ik (gy (hS.own _ (List.mem_of_getElem? (i:=0) rfl)).1)) AI 2 rfl rfl rfl (oc (gy (hS.own _ (List.mem_of_getElem? (i:=0) rfl)).1) on) fun w hk hS=>⟨kB rfl hk iC,?_⟩);refine zK (by kernel_rfl) ?_ _;refine ag _ _ ?_;refine Au ?_;refine qm hS fun a hS=>?_;refine qy hS (dH hS rfl rJ 2 rfl id (us:=[.int .i64 b.Key.Kind,.string b.Key.Text,.bool b.Running,.int .i64 b.At,m,n]) rfl rfl (fun h=>by cases h)) fun a hS=>?_;refine wl rfl (aT (ps:=[(0,.tmp 21)]) hS xQ qo (zl:=[.int .i64 0,.string (ByteArray.mk #[]),.bool false,.int .i64 0,.slice none 0 0,.slice none 0 0]) (by kernel_rfl) rfl (us:=[[.int .i64 b.Key.Kind,.string b.Key.Text,.bool b.Running,.int .i64 b.At,m,n]]) ⟨rfl,trivial⟩ (ws:=[.int .i64 b.Key.Kind,.string b.Key.Text,.bool b.Running,.int .i64 b.At,m,n]) rfl rfl rfl rfl fun b0 a w hk hS=>?_);have hone:∀ u ∈ ([.int .i64 b.Key.Kind,.string b.Key.Text,.bool b.Running,.int .i64 b.At,m,n]:List Value),u.oneCell'=true:=oc rfl (oc rfl (oc rfl (oc rfl (oc (gy (hS.own _ (List.mem_of_getElem? (i:=2) rfl)).1) (oc (gy (hS.own _ (List.mem_of_getElem? (i:=1) rfl)).1) on)))));replace hS:=(hS.lit (R:=HR ar) (us:=[.int .i64 b.Key.Kind,.string b.Key.Text,.bool b.Running,.int .i64 b.At,m,n]) (xs:=[Sum.inl [.int .i64 b.Key.Kind,.string b.Key.Text,.bool b.Running,.int .i64 b.At,m,n]]) 0 rfl (by decide) (aB.one_ (R:=HR ar) (x:=Sum.inl [.int .i64 b.Key.Kind,.string b.Key.Text,.bool b.Running,.int .i64 b.At,m,n]) ⟨rfl,rfl,hone⟩) rfl rfl).freeze (R:=HR ar) 0 rfl 0 rfl;obtain⟨a2,hM⟩:=aS hM;replace hS:=hS.openH (R:=ar) (cl:=o) (xs:=e) 9 rfl;refine wl rfl (bw (R:=HR ar) (xs:=e.map Sum.inr) (ys:=[Sum.inl [.int .i64 b.Key.Kind,.string b.Key.Text,.bool b.Running,.int .i64 b.At,m,n]]) hS xQ (by decide) (by decide) rfl rfl 3 rfl 0 rfl 1 rfl (by rw [List.length_map]; exact a2) rfl fun ak X a w hk hS=>?_);refine qa hS fun a hS=>?_;refine rz (ab _ _ ?_);refine Au ?_;refine qy hS (zP hS rfl rfl rfl) fun a hS=>?_;refine qm hS fun a hS=>?_;refine wpList_nil ?_;exact⟨((e ++ ([(bf.mk b.Key b.Running b.At (([]:List ae) ++ b.Reads) (([]:List ByteArray) ++ b.Answers))])),IntKind.i64.wrap (f + 1)),(Option.some.inj hM).symm,(e ++ ([(bf.mk b.Key b.Running b.At (([]:List ae) ++ b.Reads) (([]:List ByteArray) ++ b.Answers))])),(IntKind.i64.wrap (f + 1)),ak,X,rfl,.inr ⟨e,(bf.mk b.Key b.Running b.At (([]:List ae) ++ b.Reads) (([]:List ByteArray) ++ b.Answers)),m,_,n,_,rfl,(hS.meet [3,1,0] (by decide) ⟨rfl,rfl,rfl,rfl,trivial⟩ ⟨rfl,rfl,rfl,trivial⟩ ⟨⟨0,rfl⟩,⟨5,rfl⟩,⟨4,rfl⟩,⟨12,rfl⟩,trivial⟩)⟩⟩
  rcases V with⟨ho,hS⟩|⟨G,j,C,z,D,A,ho,hS⟩
  ·have hM:bH g e f=some Y:=hM;unfold bH at hM;refine rq fun K51 B=>?_;refine qy hS (zP hS rfl rfl rfl) fun a hS=>?_;refine rz (B _ _ ?_);refine wp_seq_k fun K52 K=>?_;have p:decide ((f:Int) < (g.length:Int))=false:=decide_eq_false hlt;replace hM:=cf p hM;refine JO hS rfl p ?_;refine wp_exit ?_;injection hM with hM;subst hM;have hr:=hf1 _ rfl;subst hr;have hM:cj e=some y:=hMo1;subst ho;unfold cj at hM;obtain rfl:=Option.some.inj hM;exact absurd W (by simp [be])
  have hM:bH g e f=some Y:=hM;unfold bH at hM;refine rq fun K51 B=>?_;refine qy hS (zP hS rfl rfl rfl) fun a hS=>?_;refine rz (B _ _ ?_);refine wp_seq_k fun K52 K=>?_;have p:decide ((f:Int) < (g.length:Int))=false:=decide_eq_false hlt;replace hM:=cf p hM;refine JO hS rfl p ?_;refine wp_exit ?_;injection hM with hM;subst hM;have hr:=hf1 _ rfl;subst hr;have hM:cj e=some y:=hMo1;exact⟨e,q,o,G,j,C,z,D,A,ho,(hS.meet [0,1,2] (by decide) ⟨rfl,trivial⟩ ⟨rfl,rfl,rfl,trivial⟩ ⟨⟨0,rfl⟩,⟨1,rfl⟩,⟨2,rfl⟩,trivial⟩),hM⟩
 rintro a w ⟨L,I,t,G,j,C,z,D,A,ho,hS,hM⟩;unfold cj at hM;refine rq fun K39 a5=>?_;refine qm hS fun a hS=>?_;refine qa hS fun a hS=>?_;refine rz (a5 _ _ ?_);refine wp_ret ?_;injection hM with hM;subst hM;refine aE hS Tryz.results121 (ap hS rfl aD) ?_;subst ho;obtain⟨rfl,hix⟩:=C9 (Nat.le_of_succ_le (by have:=Dq (R:=HR ar) hS 0 rfl 0 rfl; simpa [vT] using this)) W;have hZ:=hS.meet (G':=[]) (D':=[.own I 131 ar.size t,.own C 44 ac.size z,.own D 9 aN.str.size A]) (F':=[am (HR ar) t (vT G [.int .i64 j.Key.Kind,.string j.Key.Text,.bool j.Running,.int .i64 j.At,C,D]),am ac z j.Reads,am aN.str A j.Answers]) [0,1,2] (by decide) trivial ⟨rfl,rfl,rfl,trivial⟩ ⟨⟨0,rfl⟩,⟨1,rfl⟩,⟨2,rfl⟩,trivial⟩;exact⟨_,_,_,_,_,by rw [xj hix]; exact hZ.get 0 rfl,hZ.get 1 rfl,hZ.get 2 rfl,hZ.dnew⟩
end
section
set_option maxRecDepth 100000
set_option maxHeartbeats 4000000
open Go.RowKit
noncomputable section
def kW (c:(an×Bool)) (b:Bool):Option (ByteArray×Bool):=cond b (some ((c.1.Value,true))) (some (((ByteArray.mk #[]),false)))
def pb (c:ai) (d:ae):Option (ByteArray×Bool):=(ce d).bind fun e=>cond e ((ki c d).bind fun f=>some ((f,true))) ((cn c.Records d).bind fun b=>cond b.2 (kW b ((b.1.Verified:Int) == c.Revision)) (kW b false))
theorem yl (T:Nat→Prop) (W0:World) (hT:TW T W0) (b:ai) (c:ae) (q:Value) (r:Value) (o:aA ad T W0 q b.Inputs) (p:aA aa T W0 r b.Records) (y:ByteArray×Bool) (hM:pb b c=some y):aW Tryz.prog No 185 [.agg (aQ b q r).toArray,.agg (aM c).toArray] W0 (fun v w'=>v = .tuple #[.string y.1,.bool y.2]):=by
 refine en Tryz.func185 Tryz.ntmps185 hT fun a hS=>?_;replace hS:=(hS.fS (aA.dn o)).fS (aA.dn p);unfold pb at hM;refine ah hS fun a hS=>?_;refine kb hS fun s u a w hk hS=>?_;refine kb hS fun t x a w hk hS=>?_;refine ah hS fun a hS=>?_;refine az ?_;refine ah hS fun a hS=>?_;obtain⟨A,k,hM⟩:=bd hM;refine kc hS vq (c8 _ _ hS.dlt c _ k) fun _ w hR a hk hA=>?_;obtain rfl:=hR;have hS:=bV hA;refine ah hS fun a hS=>?_;rcases cd hM with⟨m,hM⟩|⟨m,hM⟩
 ·refine ah hS fun a hS=>?_;obtain⟨B,l,hM⟩:=bd hM;refine kc hS Ep (px _ _ hS.dlt b c _ _ (hS.get 1 rfl) (hS.get 0 rfl) _ l) fun _ w hR a hk hA=>?_;obtain rfl:=hR;have hS:=bV hA;refine ah hS fun a hS=>?_;cases hM
  refine aE hS Tryz.results185 (ap hS rfl (ap hS rfl aD)) ?_;exact rfl
 refine ah hS fun a hS=>?_;refine az ?_;refine ah hS fun a hS=>?_;obtain⟨e,j,hM⟩:=bd hM;refine kc hS kD (bI _ _ hS.dlt b.Records c _ (hS.get 0 rfl) _ j) fun _ w hR a hk hA=>?_;obtain⟨i,g,he,h⟩:=hR;obtain rfl:=he.symm;have hS:=oI hA h;refine ah hS fun a hS=>?_;refine ka hS ft fun f z a w hk hS=>?_;refine go hS fun a w hS=>?_;refine aG (J:=fun a w=>∃ (d:Bool),St W0 No T 30 [(6,pt f 0),(27,.bool d)] [au i g,.box f (a6 e.1 i) 84] [am ac g e.1.Reads] a w∧kW e d=some y) ?_ ?_
 ·exact fz
 rintro a w ⟨d,hS,hM⟩;unfold kW at hM;rcases cd hM with⟨n,hM⟩|⟨n,hM⟩
 ·refine ah hS fun a hS=>?_;cases hM
  refine aE hS Tryz.results185 (ap hS rfl (ap hS rfl aD)) ?_;exact rfl
 refine ah hS fun a hS=>?_;cases hM
 refine aE hS Tryz.results185 (ap hS rfl (ap hS rfl aD)) ?_;exact rfl
def kj (vrec:al→ae→Option (ByteArray×al)) (d:al) (g:ai) (c:ae):Option (ByteArray×al):=(bX c).bind fun e=>cond e ((vrec d c).bind fun b=>some ((b.1,(al.mk b.2.Rules (ai.mk b.2.Base.Revision b.2.Base.Inputs b.2.Base.Records) b.2.Memo b.2.Seen)))) ((pb g c).bind fun f=>some ((f.1,d)))
theorem rD (T:Nat→Prop) (W0:World) (hT:TW T W0) (vrec:al→ae→Option (ByteArray×al)) (hvrec:lJ vrec) (f:al) (u:ai) (x:ae) (H:Value) (I:Value) (b:Nat) (o:Value) (p:Value) (q:Value) (d:Nat) (h:Array MapEntry) (j:Nat) (e:Nat) (i:Array MapEntry) (g:Nat) (hD:vd T W0 [xS b o f.Base.Revision p q d e,om d h j,om e i g]) (X:aA ay (dT T [xS b o f.Base.Revision p q d e,om d h j,om e i g]) W0 o f.Rules) (Y:aA ad (dT T [xS b o f.Base.Revision p q d e,om d h j,om e i g]) W0 p f.Base.Inputs) (Z:aA aa (dT T [xS b o f.Base.Revision p q d e,om d h j,om e i g]) W0 q f.Base.Records) (V:bx ac true aN.str false (dT T [xS b o f.Base.Revision p q d e,om d h j,om e i g]) W0 h f.Memo) (W:bx ac true (aN.slice ac) false (dT T [xS b o f.Base.Revision p q d e,om d h j,om e i g]) W0 i f.Seen) (P:aA ad (dT T [xS b o f.Base.Revision p q d e,om d h j,om e i g]) W0 H u.Inputs) (Q:aA aa (dT T [xS b o f.Base.Revision p q d e,om d h j,om e i g]) W0 I u.Records) (hLv:cU (dT T [xS b o f.Base.Revision p q d e,om d h j,om e i g]) W0) (y:ByteArray×al) (hM:kj vrec f u x=some y):aW Tryz.prog (MD [xS b o f.Base.Revision p q d e,om d h j,om e i g]) 156 [pt b 0,.agg (aQ u H I).toArray,.agg (aM x).toArray] W0 (fun v w'=>∃ (r:Value) (s:Value) (t:Value) (k:Array MapEntry) (m:Nat) (l:Array MapEntry) (n:Nat),v = .string y.1∧n7 W0 w' [xS b o f.Base.Revision p q d e,om d h j,om e i g] [xS b r y.2.Base.Revision s t d e,om d k m,om e l n]∧aA ay (dT T [xS b r y.2.Base.Revision s t d e,om d k m,om e l n]) w' r y.2.Rules∧aA ad (dT T [xS b r y.2.Base.Revision s t d e,om d k m,om e l n]) w' s y.2.Base.Inputs∧aA aa (dT T [xS b r y.2.Base.Revision s t d e,om d k m,om e l n]) w' t y.2.Base.Records∧bx ac true aN.str false (dT T [xS b r y.2.Base.Revision s t d e,om d k m,om e l n]) w' k y.2.Memo∧bx ac true (aN.slice ac) false (dT T [xS b r y.2.Base.Revision s t d e,om d k m,om e l n]) w' l y.2.Seen):=by
 refine jp (c:=_) Tryz.func156 rfl T 21 Tryz.ntmps156 hT rfl hD fun a hS=>?_;replace hS:=(((((((hS.fact bv hLv).fS P).fS Q).fS X).fS Y).fS Z).fM V).fM W;unfold kj at hM;refine ah hS fun a hS=>?_;refine kb hS fun a0 a2 a w hk hS=>?_;refine kb hS fun a1 a3 a w hk hS=>?_;refine ah hS fun a hS=>?_;refine az ?_;refine ah hS fun a hS=>?_;obtain⟨a4,E,hM⟩:=bd hM;refine kc hS tW (cm _ _ hS.dlt x _ E) fun _ w hR a hk hA=>?_;obtain rfl:=hR;have hS:=bV hA;refine ah hS fun a hS=>?_;rcases cd hM with⟨N,hM⟩|⟨N,hM⟩
 ·refine ah hS fun a hS=>?_;obtain⟨a5,F,hM⟩:=bd hM;replace hS:=hS.re [2,3,4] [0,1];refine wl rfl (cu hS A2 rfl rfl (hvrec _ _ hS.dltD f x _ _ _ _ _ _ _ _ _ _ hS.dok (hS.getD 4 rfl) (hS.getD 3 rfl) (hS.getD 2 rfl) (hS.getD 1 rfl) (hS.getD 0 rfl) (hS.getD 7 rfl) _ F) fun _ w hR a hk hA=>?_);obtain⟨R,S,U,L,J,M,K,he,O,B,C,D,z,A⟩:=hR;obtain rfl:=he.symm;have hS:=hA _ O;replace hS:=((((hS.fS (B.sub (aw _))).fS (C.sub (aw _))).fS (D.sub (aw _))).fM (z.keep (Kt.refl _ _) (aw _))).fM (A.keep (Kt.refl _ _) (aw _));refine ah hS fun a hS=>?_;cases hM
  refine aE hS rfl (ap hS rfl aD) ?_;have hZ:=hS.sl [0,1,2] [4,3,2,1,0];exact⟨R,S,U,L,J,M,K,rfl,hZ.dnew,(hZ.get 0 rfl),(hZ.get 1 rfl),(hZ.get 2 rfl),(hZ.get 3 rfl),(hZ.get 4 rfl)⟩
 refine ah hS fun a hS=>?_;obtain⟨a9,G,hM⟩:=bd hM;refine kc hS ID (yl _ _ hS.dlt u x _ _ (hS.get 6 rfl) (hS.get 5 rfl) _ G) fun _ w hR a hk hA=>?_;obtain rfl:=hR;have hS:=bV hA;refine ah hS fun a hS=>?_;cases hM
 refine aE hS rfl (ap hS rfl aD) ?_;have hZ:=hS.sl [2,3,4] [4,3,2,1,0];exact⟨o,p,q,h,j,i,g,rfl,hZ.dnew,(hZ.get 0 rfl),(hZ.get 1 rfl),(hZ.get 2 rfl),(hZ.get 3 rfl),(hZ.get 4 rfl)⟩
def nB (b:ai) (c:LR):Option ai:=some ((ai.mk b.Revision b.Inputs c))
def iZ (c:Int) (b:LR):Option (Fl (Int×LR) (LR)):=some (.go (IntKind.i64.wrap (c + 1),b))
def kZ (g:LK) (f:Bool) (h:ai) (b:Int) (c:LR):Option (Fl (Int×LR) (LR)):=cond (decide ((b:Int) < (h.Records.length:Int))) ((be c b).bind fun i=>(m5 g i.Key).bind fun j=>cond (!(j)) (iZ b c) (cond f ((be c b).bind fun d=>iZ b (c.set (Int.toNat b) (an.mk d.Key d.Value d.Reads d.Changed d.Verified d.Cost true))) ((be c b).bind fun e=>iZ b (c.set (Int.toNat b) (an.mk e.Key e.Value e.Reads e.Changed h.Revision e.Cost e.Dirty))))) (some (.out c))
def jQ (e:ai) (d:LK) (c:Bool):Option ai:=(dX e).bind fun b=>(loop (fun s:Int×LR=>kZ d c b s.1 s.2) (0,b.Records)).bind fun r=>nB b r
theorem ov (T:Nat→Prop) (W0:World) (hT:TW T W0) (r:ai) (c:LK) (d:Bool) (v1:Value) (v2:Value) (C:Value) (af:aA ad T W0 v1 r.Inputs) (ag:aA aa T W0 v2 r.Records) (ak:aA ac T W0 C c) (y:ai) (hM:jQ r c d=some y):aW Tryz.prog No 157 [.agg (aQ r v1 v2).toArray,C,.bool d] W0 (fun v w'=>∃ (G:Value) (tX:List Value) (H:Value) (vt:List Value),v = .agg (aQ y G H).toArray∧fu ad T W0 w' [aR G tX,aH H vt] 69 G tX y.Inputs∧fu aa T W0 w' [aR G tX,aH H vt] 84 H vt y.Records∧(∀ k,G.ownBlock=some k→H.ownBlock ≠ some k)):=by
 refine en Tryz.func157 Tryz.ntmps157 hT fun a hS=>?_;replace hS:=((hS.fS (aA.dn af)).fS (aA.dn ag)).fS (aA.dn ak);unfold jQ at hM;refine ah hS fun a hS=>?_;refine kb hS fun m b9 a w hk hS=>?_;refine ka hS l4 fun n bb a w hk hS=>?_;refine ah hS fun a hS=>?_;obtain⟨b,K,hM⟩:=bd hM;refine kc hS vr (dD _ _ hS.dlt r _ _ (hS.get 2 rfl) (hS.get 1 rfl) _ K) fun _ w hR a hk hA=>?_;obtain⟨j,e,l,b2,he,E,F,a9⟩:=hR;obtain rfl:=he.symm;have hS:=s7 hA E F a9;refine go hS fun a w hS=>?_;refine aG (J:=fun a w=>∃ (t:LR) (q:LV),St W0 No T 40 [(3,pt m 0),(6,pt n 0)] [aR j e,aH l q,.box m (aQ b j l) 31,.box n [.int .i64 0,.slice none 0 0,.slice none 0 0] 31] [am ad e b.Inputs,am aa q t] a w∧nB b t=some y) ?_ ?_
 ·skip;refine ah hS fun a hS=>?_;obtain⟨r1,ab,hMo1⟩:=bd hM;refine bu _ (fun s a w=>∃ (o:Int) (p:LR) (x:LV),(o,p)=s∧St W0 No T 40 [(1,C),(2,.bool d),(3,pt m 0),(6,pt n 0),(12,.int .i64 (b.Records.length:Int)),(13,.int .i64 o)] [aR j e,aH l x,.box m (aQ b j l) 31,.box n [.int .i64 0,.slice none 0 0,.slice none 0 0] 31] [aJ ac C c,am ad e b.Inputs,am aa x p] a w) ab ⟨_,_,_,rfl,hS.mt [0,1,3,2] [2,1,0]⟩ ?_;rintro s a w f1 ⟨o,p,x,rfl,hS⟩ hM hf1;have hM:kZ c d b o p=some f1:=hM;unfold kZ at hM;refine ah hS fun a hS=>?_;refine az ?_;rcases cd hM with⟨P,hM⟩|⟨P,hM⟩
  ·refine ah hS fun a hS=>?_;refine aG (J:=fun a w=>∃ (u:LR) (z:LV),St W0 No T 40 [(1,C),(2,.bool d),(3,pt m 0),(6,pt n 0),(12,.int .i64 (b.Records.length:Int)),(13,.int .i64 o)] [aR j e,aH l z,.box m (aQ b j l) 31,.box n [.int .i64 0,.slice none 0 0,.slice none 0 0] 31] [aJ ac C c,am ad e b.Inputs,am aa z u] a w∧iZ o u=some f1) ?_ ?_
   ·skip;refine ah hS fun a hS=>?_;refine az ?_;refine ah hS fun a hS=>?_;obtain⟨D,I,hM⟩:=bd hM;refine wl rfl (cR (R:=aa) hS n4 k8 rfl rfl 1 rfl 2 rfl I rfl fun ax bi bt b3 Q S U a hS=>?_);obtain⟨c3,rfl,M⟩:=Q;replace hS:=hS.fS M;refine ah hS fun a hS=>?_;refine qy hS (bL (k:=0) hS dd 1 rfl S U rfl id (us:=(aM D.Key)) rfl rfl (fun h=>by cases h)) fun a hS=>?_;obtain⟨c2,L,hM⟩:=bd hM;refine kc hS GC (ru _ _ hS.dlt c D.Key _ (hS.get 1 rfl) _ L) fun _ w hR a hk hA=>?_;obtain rfl:=hR;have hS:=bV hA;refine ah hS fun a hS=>?_;rcases cd hM with⟨V,hM⟩|⟨V,hM⟩
    ·exact fz
    refine ah hS fun a hS=>?_;rcases cd hM with⟨W,hM⟩|⟨W,hM⟩
    ·refine ah hS fun a hS=>?_;obtain⟨f,A,hM⟩:=bd hM;refine wl rfl (cR (R:=aa) hS n4 k8 rfl rfl 1 rfl 3 rfl A rfl fun b0 bl c0 b4 X Y Z a hS=>?_);obtain⟨a3,rfl,N⟩:=X;replace hS:=hS.fS N;refine ah hS fun a hS=>?_;refine wl rfl (oU (R:=aa) (k:=7) (cs:=(a6 f a3)) (us:=[.bool true]) (x':=(an.mk f.Key f.Value f.Reads f.Changed f.Verified f.Cost true)) hS rfl rfl rfl HM 1 rfl 4 rfl Y Z A (⟨_,rfl,(hS.get 0 rfl)⟩) rfl rfl (⟨_,rfl,(hS.get 0 rfl)⟩) fun b5 w hk hS=>?_);exact fz
    refine ah hS fun a hS=>?_;obtain⟨g,B,hM⟩:=bd hM;refine wl rfl (cR (R:=aa) hS n4 k8 rfl rfl 1 rfl 3 rfl B rfl fun b1 bs c1 b6 a0 a1 a2 a hS=>?_);obtain⟨a4,rfl,O⟩:=a0;replace hS:=hS.fS O;refine ah hS fun a hS=>?_;refine wl rfl (oU (R:=aa) (k:=5) (cs:=(a6 g a4)) (us:=[.int .i64 b.Revision]) (x':=(an.mk g.Key g.Value g.Reads g.Changed b.Revision g.Cost g.Dirty)) hS rfl rfl rfl yu 1 rfl 4 rfl a1 a2 B (⟨_,rfl,(hS.get 0 rfl)⟩) rfl rfl (⟨_,rfl,(hS.get 0 rfl)⟩) fun b8 w hk hS=>?_);exact fz
   rintro a w ⟨u,z,hS,hM⟩;unfold iZ at hM;exact fz
  exact fz
 rintro a w ⟨t,q,hS,hM⟩;unfold nB at hM;refine go hS fun a w hS=>?_;cases hM
 refine aE hS rfl (rC 3 hS) ?_;exact⟨j,e,l,q,rfl,hS.retOwn ⟨.inr (List.mem_of_getElem? (i:=0) rfl),⟨.inr (List.mem_of_getElem? (i:=1) rfl),trivial⟩⟩ 0 rfl 0 rfl,hS.retOwn ⟨.inr (List.mem_of_getElem? (i:=0) rfl),⟨.inr (List.mem_of_getElem? (i:=1) rfl),trivial⟩⟩ 1 rfl 1 rfl,(hS.apart2 0 rfl 1 rfl (by decide))⟩
def nQ (c:ai) (d:ae):Option Int:=(na c d).bind fun b=>some (b.Changed)
theorem wW (T:Nat→Prop) (W0:World) (hT:TW T W0) (b:ai) (c:ae) (g:Value) (h:Value) (e:aA ad T W0 g b.Inputs) (f:aA aa T W0 h b.Records) (y:Int) (hM:nQ b c=some y):aW Tryz.prog No 186 [.agg (aQ b g h).toArray,.agg (aM c).toArray] W0 (fun v w'=>v = .int .i64 y):=by
 refine en Tryz.func186 Tryz.ntmps186 hT fun a hS=>?_;replace hS:=(hS.fS (aA.dn e)).fS (aA.dn f);unfold nQ at hM;refine ah hS fun a hS=>?_;refine kb hS fun i k a w hk hS=>?_;refine kb hS fun j l a w hk hS=>?_;refine ah hS fun a hS=>?_;obtain⟨m,d,hM⟩:=bd hM;refine kc hS IM (tD _ _ hS.dlt b c _ _ (hS.get 1 rfl) (hS.get 0 rfl) _ d) fun _ w hR a hk hA=>?_;obtain rfl:=hR;have hS:=bV hA;refine qy hS (wG hS rfl Tryz.underlying69 rfl rfl yu rfl rfl (fun _=>rfl)) fun a hS=>?_;exact fz
def fm (j:ai) (i:(an×Bool)) (h:Bool) (b:LU) (c:Int) (d:LI) (e:LR) (f:LB) (g:LL):Option (Int×al):=cond h (some ((i.1.Changed,(al.mk b (ai.mk c d e) f g)))) (some ((j.Revision,(al.mk b (ai.mk c d e) f g))))
def i1 (vrec:al→ae→Option (ByteArray×al)) (b:al) (e:ai) (f:ae):Option (Int×al):=(ce f).bind fun g=>cond g ((nQ e f).bind fun h=>some ((h,b))) ((cn e.Records f).bind fun d=>cond d.2 (cond ((d.1.Verified:Int) == e.Revision) (fm e d true b.Rules b.Base.Revision b.Base.Inputs b.Base.Records b.Memo b.Seen) ((vrec b f).bind fun c=>fm e d (c.1.toList == d.1.Value.toList) c.2.Rules c.2.Base.Revision c.2.Base.Inputs c.2.Base.Records c.2.Memo c.2.Seen)) (fm e d false b.Rules b.Base.Revision b.Base.Inputs b.Base.Records b.Memo b.Seen))
theorem qP (T:Nat→Prop) (W0:World) (hT:TW T W0) (vrec:al→ae→Option (ByteArray×al)) (hvrec:lJ vrec) (f:al) (m:ai) (G:ae) (S:Value) (U:Value) (b:Nat) (p:Value) (q:Value) (r:Value) (d:Nat) (h:Array MapEntry) (k:Nat) (e:Nat) (j:Array MapEntry) (g:Nat) (hD:vd T W0 [xS b p f.Base.Revision q r d e,om d h k,om e j g]) (b3:aA ay (dT T [xS b p f.Base.Revision q r d e,om d h k,om e j g]) W0 p f.Rules) (b4:aA ad (dT T [xS b p f.Base.Revision q r d e,om d h k,om e j g]) W0 q f.Base.Inputs) (b6:aA aa (dT T [xS b p f.Base.Revision q r d e,om d h k,om e j g]) W0 r f.Base.Records) (b1:bx ac true aN.str false (dT T [xS b p f.Base.Revision q r d e,om d h k,om e j g]) W0 h f.Memo) (b2:bx ac true (aN.slice ac) false (dT T [xS b p f.Base.Revision q r d e,om d h k,om e j g]) W0 j f.Seen) (ax:aA ad (dT T [xS b p f.Base.Revision q r d e,om d h k,om e j g]) W0 S m.Inputs) (b0:aA aa (dT T [xS b p f.Base.Revision q r d e,om d h k,om e j g]) W0 U m.Records) (hLv:cU (dT T [xS b p f.Base.Revision q r d e,om d h k,om e j g]) W0) (y:Int×al) (hM:i1 vrec f m G=some y):aW Tryz.prog (MD [xS b p f.Base.Revision q r d e,om d h k,om e j g]) 160 [pt b 0,.agg (aQ m S U).toArray,.agg (aM G).toArray] W0 (fun v w'=>∃ (D:Value) (E:Value) (F:Value) (n:Array MapEntry) (s:Nat) (o:Array MapEntry) (t:Nat),v = .int .i64 y.1∧n7 W0 w' [xS b p f.Base.Revision q r d e,om d h k,om e j g] [xS b D y.2.Base.Revision E F d e,om d n s,om e o t]∧aA ay (dT T [xS b D y.2.Base.Revision E F d e,om d n s,om e o t]) w' D y.2.Rules∧aA ad (dT T [xS b D y.2.Base.Revision E F d e,om d n s,om e o t]) w' E y.2.Base.Inputs∧aA aa (dT T [xS b D y.2.Base.Revision E F d e,om d n s,om e o t]) w' F y.2.Base.Records∧bx ac true aN.str false (dT T [xS b D y.2.Base.Revision E F d e,om d n s,om e o t]) w' n y.2.Memo∧bx ac true (aN.slice ac) false (dT T [xS b D y.2.Base.Revision E F d e,om d n s,om e o t]) w' o y.2.Seen):=by
 refine jp (c:=_) Tryz.func160 rfl T 41 Tryz.ntmps160 hT rfl hD fun a hS=>?_;replace hS:=(((((((hS.fact bv hLv).fS ax).fS b0).fS b3).fS b4).fS b6).fM b1).fM b2;unfold i1 at hM;refine ah hS fun a hS=>?_;refine kb hS fun V bt a w hk hS=>?_;refine kb hS fun b9 c0 a w hk hS=>?_;refine ah hS fun a hS=>?_;refine az ?_;refine ah hS fun a hS=>?_;obtain⟨c2,a9,hM⟩:=bd hM;refine kc hS vq (c8 _ _ hS.dlt G _ a9) fun _ w hR a hk hA=>?_;obtain rfl:=hR;have hS:=bV hA;refine ah hS fun a hS=>?_;rcases cd hM with⟨ag,hM⟩|⟨ag,hM⟩
 ·refine ah hS fun a hS=>?_;obtain⟨c3,ab,hM⟩:=bd hM;refine kc hS IE (wW _ _ hS.dlt m G _ _ (hS.get 6 rfl) (hS.get 5 rfl) _ ab) fun _ w hR a hk hA=>?_;obtain rfl:=hR;have hS:=bV hA;refine ah hS fun a hS=>?_;cases hM
  refine aE hS rfl (ap hS rfl aD) ?_;have hZ:=hS.sl [2,3,4] [4,3,2,1,0];exact⟨p,q,r,h,k,j,g,rfl,hZ.dnew,(hZ.get 0 rfl),(hZ.get 1 rfl),(hZ.get 2 rfl),(hZ.get 3 rfl),(hZ.get 4 rfl)⟩
 refine ah hS fun a hS=>?_;obtain⟨z,a5,hM⟩:=bd hM;refine kc hS kD (bI _ _ hS.dlt m.Records G _ (hS.get 5 rfl) _ a5) fun _ w hR a hk hA=>?_;obtain⟨a4,X,he,a0⟩:=hR;obtain rfl:=he.symm;have hS:=oI hA a0;refine ah hS fun a hS=>?_;refine ka hS ft fun W c1 a w hk hS=>?_;refine go hS fun a w hS=>?_;refine az ?_;refine aG (J:=fun a w=>∃ (K:Bool) (M:LU) (N:Int) (O:LI) (P:LR) (Q:LB) (R:LL) (u:AM) (H:Nat) (x:AM) (I:Nat) (A:Value) (B:Value) (C:Value),St W0 (MD [xS b p f.Base.Revision q r d e,om d h k,om e j g]) T 41 [(4,pt V 0),(7,pt W 0),(36,.bool K)] [.box V (aQ m S U) 31,au a4 X,.box W (a6 z.1 a4) 84,om d u H,om e x I,xS b A N B C d e] [aJ ad S m.Inputs,aJ aa U m.Records,am ac X z.1.Reads,aJ ay A M,aJ ad B O,aJ aa C P,iv u Q,po x R,bv] a w∧fm m z K M N O P Q R=some y) ?_ ?_
 ·skip;refine dr [(10,.bks [some b,some d,some e])] hS fun w hQ hS=>?_;refine gE [0,1] hS fun a hS=>?_;rcases cd hM with⟨ak,hM⟩|⟨ak,hM⟩
  ·refine gE [2,3,4,5,6,7] hS fun a hS=>?_;rcases cd hM with⟨L,hM⟩|⟨L,hM⟩
   ·refine gE [8,9,10,11,12,13,14,15] hS fun a hS=>?_;refine eD ?_;exact⟨_,_,_,_,_,_,_,_,_,_,_,_,_,_,hS.mt [3,1,0,5,6,4] [7,6,0,5,4,3,2,1,8],hM⟩
   refine gE [8,9,11] hS fun a hS=>?_;refine vG (l:=[.bks [some b,some d,some e]]) 12 (v:=.string z.1.Value) rfl (by kernel_rfl) (by kernel_rfl) (by kernel_rfl) (by kernel_rfl) hQ hS (dH hS rfl Fq 0 rfl (vI hS 0 rfl rfl [4,5,6] rfl rfl bo) (us:=[.string z.1.Value]) rfl rfl (fun _=>rfl)) rfl rfl rfl L rfl rfl fun a hS=>?_;obtain⟨c4,af,hM⟩:=bd hM;replace hS:=hS.re [4,5,6] [0,1,2,3];refine cy (i:=10) rfl (by kernel_rfl) hS rfl rfl rfl L (cu hS A2 rfl rfl (hvrec _ _ hS.dltD f G _ _ _ _ _ _ _ _ _ _ hS.dok (hS.getD 5 rfl) (hS.getD 4 rfl) (hS.getD 3 rfl) (hS.getD 2 rfl) (hS.getD 1 rfl) (hS.getD 8 rfl) _ af) fun _ w hR a hk hA=>⟨kB rfl hk (yX rfl rfl),?_⟩);obtain⟨c5,c9,ca,bl,bb,bs,bi,he,ao,a1,a2,a3,Y,Z⟩:=hR;obtain rfl:=he.symm;have hS:=hA _ ao;replace hS:=((((hS.fS (a1.sub (aw _))).fS (a2.sub (aw _))).fS (a3.sub (aw _))).fM (Y.keep (Kt.refl _ _) (aw _))).fM (Z.keep (Kt.refl _ _) (aw _));refine gE [13,14,15] hS fun a hS=>?_;refine eD ?_;exact⟨_,_,_,_,_,_,_,_,_,_,_,_,_,_,hS.mt [6,4,3,1,2,0] [12,11,5,4,3,2,1,0,13],hM⟩
  refine gE [2,3,4,5,6,7,8,9,10,11,12,13,14,15] hS fun a hS=>?_;refine eD ?_;exact⟨_,_,_,_,_,_,_,_,_,_,_,_,_,_,hS.mt [3,1,0,5,6,4] [7,6,0,5,4,3,2,1,8],hM⟩
 rintro a w ⟨K,M,N,O,P,Q,R,u,H,x,I,A,B,C,hS,hM⟩;unfold fm at hM;rcases cd hM with⟨av,hM⟩|⟨av,hM⟩
 ·refine ah hS fun a hS=>?_;cases hM
  refine aE hS rfl (ap hS rfl aD) ?_;have hZ:=hS.sl [5,3,4] [3,4,5,6,7];exact⟨A,B,C,u,H,x,I,rfl,hZ.dnew,(hZ.get 0 rfl),(hZ.get 1 rfl),(hZ.get 2 rfl),(hZ.get 3 rfl),(hZ.get 4 rfl)⟩
 refine ah hS fun a hS=>?_;cases hM
 refine aE hS rfl (ap hS rfl aD) ?_;have hZ:=hS.sl [5,3,4] [3,4,5,6,7];exact⟨A,B,C,u,H,x,I,rfl,hZ.dnew,(hZ.get 0 rfl),(hZ.get 1 rfl),(hZ.get 2 rfl),(hZ.get 3 rfl),(hZ.get 4 rfl)⟩
def qF (vrec:al→ae→Option (ByteArray×al)) (e:al) (c:ai) (d:ae):Option (Int×al):=(i1 vrec e c d).bind fun b=>some ((b.1,(al.mk b.2.Rules (ai.mk b.2.Base.Revision b.2.Base.Inputs b.2.Base.Records) b.2.Memo b.2.Seen)))
theorem ym (T:Nat→Prop) (W0:World) (hT:TW T W0) (vrec:al→ae→Option (ByteArray×al)) (hvrec:lJ vrec) (f:al) (u:ai) (D:ae) (F:Value) (G:Value) (b:Nat) (o:Value) (p:Value) (q:Value) (d:Nat) (h:Array MapEntry) (j:Nat) (e:Nat) (i:Array MapEntry) (g:Nat) (hD:vd T W0 [xS b o f.Base.Revision p q d e,om d h j,om e i g]) (U:aA ay (dT T [xS b o f.Base.Revision p q d e,om d h j,om e i g]) W0 o f.Rules) (V:aA ad (dT T [xS b o f.Base.Revision p q d e,om d h j,om e i g]) W0 p f.Base.Inputs) (W:aA aa (dT T [xS b o f.Base.Revision p q d e,om d h j,om e i g]) W0 q f.Base.Records) (R:bx ac true aN.str false (dT T [xS b o f.Base.Revision p q d e,om d h j,om e i g]) W0 h f.Memo) (S:bx ac true (aN.slice ac) false (dT T [xS b o f.Base.Revision p q d e,om d h j,om e i g]) W0 i f.Seen) (M:aA ad (dT T [xS b o f.Base.Revision p q d e,om d h j,om e i g]) W0 F u.Inputs) (N:aA aa (dT T [xS b o f.Base.Revision p q d e,om d h j,om e i g]) W0 G u.Records) (hLv:cU (dT T [xS b o f.Base.Revision p q d e,om d h j,om e i g]) W0) (y:Int×al) (hM:qF vrec f u D=some y):aW Tryz.prog (MD [xS b o f.Base.Revision p q d e,om d h j,om e i g]) 158 [pt b 0,.agg (aQ u F G).toArray,.agg (aM D).toArray] W0 (fun v w'=>∃ (r:Value) (s:Value) (t:Value) (k:Array MapEntry) (m:Nat) (l:Array MapEntry) (n:Nat),v = .int .i64 y.1∧n7 W0 w' [xS b o f.Base.Revision p q d e,om d h j,om e i g] [xS b r y.2.Base.Revision s t d e,om d k m,om e l n]∧aA ay (dT T [xS b r y.2.Base.Revision s t d e,om d k m,om e l n]) w' r y.2.Rules∧aA ad (dT T [xS b r y.2.Base.Revision s t d e,om d k m,om e l n]) w' s y.2.Base.Inputs∧aA aa (dT T [xS b r y.2.Base.Revision s t d e,om d k m,om e l n]) w' t y.2.Base.Records∧bx ac true aN.str false (dT T [xS b r y.2.Base.Revision s t d e,om d k m,om e l n]) w' k y.2.Memo∧bx ac true (aN.slice ac) false (dT T [xS b r y.2.Base.Revision s t d e,om d k m,om e l n]) w' l y.2.Seen):=by
 refine jp (c:=_) Tryz.func158 rfl T 11 Tryz.ntmps158 hT rfl hD fun a hS=>?_;replace hS:=(((((((hS.fact bv hLv).fS M).fS N).fS U).fS V).fS W).fM R).fM S;unfold qF at hM;refine ah hS fun a hS=>?_;refine kb hS fun X Z a w hk hS=>?_;refine kb hS fun Y a0 a w hk hS=>?_;refine ah hS fun a hS=>?_;obtain⟨a1,E,hM⟩:=bd hM;replace hS:=hS.re [2,3,4] [0,1];refine wl rfl (cu hS FX rfl rfl (qP _ _ hS.dltD vrec hvrec f u D _ _ _ _ _ _ _ _ _ _ _ _ hS.dok (hS.getD 4 rfl) (hS.getD 3 rfl) (hS.getD 2 rfl) (hS.getD 1 rfl) (hS.getD 0 rfl) (hS.getD 6 rfl) (hS.getD 5 rfl) (hS.getD 7 rfl) _ E) fun _ w hR a hk hA=>?_);obtain⟨O,P,Q,J,H,K,I,he,L,A,B,C,x,z⟩:=hR;obtain rfl:=he.symm;have hS:=hA _ L;replace hS:=((((hS.fS (A.sub (aw _))).fS (B.sub (aw _))).fS (C.sub (aw _))).fM (x.keep (Kt.refl _ _) (aw _))).fM (z.keep (Kt.refl _ _) (aw _));refine ah hS fun a hS=>?_;cases hM
 refine aE hS rfl (ap hS rfl aD) ?_;have hZ:=hS.sl [0,1,2] [4,3,2,1,0];exact⟨O,P,Q,J,H,K,I,rfl,hZ.dnew,(hZ.get 0 rfl),(hZ.get 1 rfl),(hZ.get 2 rfl),(hZ.get 3 rfl),(hZ.get 4 rfl)⟩
def oe (f:al) (b:ai) (d:LF) (e:LR) (c:LK):Option (ai×LF×LK×Bool×Int×al):=some (((ai.mk b.Revision b.Inputs e),d,c,true,0,f))
def fZ (d:al) (b:ai) (j:LF) (c:bf) (f:LF) (g:ByteArray) (e:Bool):Option (ai×LF×LK×Bool×Int×al):=cond e (some ((b,j,([]:List ae),false,45,d))) ((nc b c.Key g c.Reads).bind fun i=>(kh b.Records i).bind fun h=>oe d b f h ([c.Key]))
def lr (vrec:al→ae→Option (ByteArray×al)) (h:al) (j:LF) (c:ai) (d:LF) (b:bf) (k:LF) (m:Bool) (n:Bool) (l:ByteArray) (f:Int) (g:ByteArray):Option (ai×LF×LK×Bool×Int×al):=cond n (cond (!(m)) (fZ h c d b k l (decide ((4000:Int)≤(c.Records.length:Int)))) (fZ h c d b k l false)) ((ne c d j (ae.mk f g)).bind fun i=>cond ((i:Int) == 1) (gd (br (d.length + ([(bf.mk (ae.mk f g) false 0 ([]) ([]))]).length)) <| some ((c,(d ++ ([(bf.mk (ae.mk f g) false 0 ([]) ([]))])),([]:List ae),true,0,h))) (cond ((i:Int) == 2) (some ((c,d,([]:List ae),false,0,h))) (cond ((i:Int) == 3) (some ((c,d,([]:List ae),false,43,h))) (gd (br (b.Reads.length + ([(ae.mk f g)]).length)) <| (kj vrec h c (ae.mk f g)).bind fun e=>gd (br (b.Answers.length + ([e.1]).length)) <| some ((c,(d.set (Int.toNat (IntKind.i64.wrap ((d.length:Int) - 1))) (bf.mk b.Key b.Running b.At (b.Reads ++ ([(ae.mk f g)])) (b.Answers ++ ([e.1])))),([]:List ae),true,0,(al.mk e.2.Rules (ai.mk e.2.Base.Revision e.2.Base.Inputs e.2.Base.Records) e.2.Memo e.2.Seen)))))))
def lu (d:LF) (c:bf) (b:(Int×al)) (e:Int) (f:LI) (g:LR):Option (ai×LF×LK×Bool×Int×al):=some (((ai.mk e f g),(d.set (Int.toNat (IntKind.i64.wrap ((d.length:Int) - 1))) (bf.mk c.Key true 0 c.Reads c.Answers)),([]:List ae),true,0,(al.mk b.2.Rules (ai.mk b.2.Base.Revision b.2.Base.Inputs b.2.Base.Records) b.2.Memo b.2.Seen)))
def f0 (vrec:al→ae→Option (ByteArray×al)) (g:al) (j:LF) (c:ai) (d:LF) (b:bf) (n:LF) (k:LK) (l:(List cw)) (m:Bool):Option (ai×LF×LK×Bool×Int×al):=cond m (some ((c,(d.set (Int.toNat (IntKind.i64.wrap ((d.length:Int) - 1))) (bf.mk b.Key true 0 b.Reads b.Answers)),([]:List ae),true,0,g))) (cond (decide ((l.length:Int)≤b.At)) ((jQ c k false).bind fun o=>some ((o,n,([]:List ae),true,0,g))) ((be l b.At).bind fun f=>(ne c d j f.Read).bind fun h=>cond ((h:Int) == 1) (gd (br (d.length + ([(bf.mk f.Read false 0 ([]) ([]))]).length)) <| some ((c,(d ++ ([(bf.mk f.Read false 0 ([]) ([]))])),([]:List ae),true,0,g))) (cond ((h:Int) == 2) (some ((c,d,([]:List ae),false,0,g))) (cond ((h:Int) == 3) (some ((c,d,([]:List ae),false,43,g))) ((cn c.Records f.Member).bind fun p=>(qF vrec g c f.Read).bind fun e=>cond (decide ((e.1:Int)≤p.1.Verified)) (some ((c,(d.set (Int.toNat (IntKind.i64.wrap ((d.length:Int) - 1))) (bf.mk b.Key b.Running (IntKind.i64.wrap (b.At + 1)) b.Reads b.Answers)),([]:List ae),true,0,(al.mk e.2.Rules (ai.mk e.2.Base.Revision e.2.Base.Inputs e.2.Base.Records) e.2.Memo e.2.Seen)))) ((bX b.Key).bind fun q=>cond q ((jQ c k true).bind fun i=>lu d b e i.Revision i.Inputs i.Records) (lu d b e c.Revision c.Inputs c.Records)))))))
def f5 (vrec:al→ae→Option (ByteArray×al)) (f:al) (b:LF) (d:ai) (i:LF) (e:bf) (c:LF) (k:Bool) (l:Bool) (g:LK) (h:(List cw)) (j:Bool):Option (ai×LF×LK×Bool×Int×al):=cond j (some ((d,c,([]:List ae),true,0,f))) (cond (!(k)) (f0 vrec f b d i e c g h true) (f0 vrec f b d i e c g h l))
def lw (vrec:al→ae→Option (ByteArray×al)) (j:al) (d:LF) (c:ai) (i:LF) (b:bf) (g:LF) (e:Bool) (n:Int) (o:ByteArray) (p:ByteArray) (q:LK) (r:Int) (m:Int) (s:Int) (k:Bool):Option (ai×LF×LK×Bool×Int×al):=cond b.Running ((di j.Rules b.Key b.Answers).bind fun f=>lr vrec j d c i b g e f.Done f.Value f.Ask.Kind f.Ask.Text) ((kV c.Records c.Revision b.Key).bind fun h=>(ge c.Records h).bind fun l=>cond e (f5 vrec j d c i b g e k h l ((m:Int) == c.Revision)) (f5 vrec j d c i b g e k h l false))
def mD (vrec:al→ae→Option (ByteArray×al)) (j:al) (h:ai) (i:LF) (d:LF):Option (ai×LF×LK×Bool×Int×al):=(dX h).bind fun f=>(dt i).bind fun c=>(be c (IntKind.i64.wrap ((c.length:Int) - 1))).bind fun e=>(oz c 0 (IntKind.i64.wrap ((c.length:Int) - 1))).bind fun g=>(cn f.Records e.Key).bind fun b=>lw vrec j d f c e g b.2 b.1.Key.Kind b.1.Key.Text b.1.Value b.1.Reads b.1.Changed b.1.Verified b.1.Cost b.1.Dirty
theorem wb (T:Nat→Prop) (W0:World) (hT:TW T W0) (vrec:al→ae→Option (ByteArray×al)) (hvrec:lJ vrec) (d:al) (d2:ai) (hy:LF) (G:LF) (hz:Value) (hB:Value) (h9:Value) (a5:Value) (e:Nat) (H:Value) (I:Value) (K:Value) (m:Nat) (q:Array MapEntry) (A:Nat) (n:Nat) (s:Array MapEntry) (p:Nat) (hD:vd T W0 [xS e H d.Base.Revision I K m n,om m q A,om n s p]) (p6:aA ay (dT T [xS e H d.Base.Revision I K m n,om m q A,om n s p]) W0 H d.Rules) (p7:aA ad (dT T [xS e H d.Base.Revision I K m n,om m q A,om n s p]) W0 I d.Base.Inputs) (pe:aA aa (dT T [xS e H d.Base.Revision I K m n,om m q A,om n s p]) W0 K d.Base.Records) (p4:bx ac true aN.str false (dT T [xS e H d.Base.Revision I K m n,om m q A,om n s p]) W0 q d.Memo) (p5:bx ac true (aN.slice ac) false (dT T [xS e H d.Base.Revision I K m n,om m q A,om n s p]) W0 s d.Seen) (no:aA ad (dT T [xS e H d.Base.Revision I K m n,om m q A,om n s p]) W0 hz d2.Inputs) (np:aA aa (dT T [xS e H d.Base.Revision I K m n,om m q A,om n s p]) W0 hB d2.Records) (hw:aA ar (dT T [xS e H d.Base.Revision I K m n,om m q A,om n s p]) W0 h9 hy) (o1:aA ar (dT T [xS e H d.Base.Revision I K m n,om m q A,om n s p]) W0 a5 G) (hLv:cU (dT T [xS e H d.Base.Revision I K m n,om m q A,om n s p]) W0) (y:ai×LF×LK×Bool×Int×al) (hM:mD vrec d d2 hy G=some y):aW Tryz.prog (MD [xS e H d.Base.Revision I K m n,om m q A,om n s p]) 125 [pt e 0,.agg (aQ d2 hz hB).toArray,h9,a5] W0 (fun v w'=>∃ (hC:Value) (hE:Value) (ha:Value) (a2:Value) (S:List Value) (W:Value) (a3:Value) (a4:Value) (U:Array MapEntry) (Z:Nat) (V:Array MapEntry) (a0:Nat),v = .tuple #[.agg (aQ y.1 hC hE).toArray,ha,a2,.bool y.2.2.2.1,.int .i64 y.2.2.2.2.1]∧aA ad (dT T [xS e W y.2.2.2.2.2.Base.Revision a3 a4 m n,om m U Z,om n V a0,au a2 S]) w' hC y.1.Inputs∧aA aa (dT T [xS e W y.2.2.2.2.2.Base.Revision a3 a4 m n,om m U Z,om n V a0,au a2 S]) w' hE y.1.Records∧aA ar (dT T [xS e W y.2.2.2.2.2.Base.Revision a3 a4 m n,om m U Z,om n V a0,au a2 S]) w' ha y.2.1∧aB ac (dT T [xS e W y.2.2.2.2.2.Base.Revision a3 a4 m n,om m U Z,om n V a0,au a2 S]) w' S y.2.2.1∧n7 W0 w' [xS e H d.Base.Revision I K m n,om m q A,om n s p] [xS e W y.2.2.2.2.2.Base.Revision a3 a4 m n,om m U Z,om n V a0,au a2 S]∧aA ay (dT T [xS e W y.2.2.2.2.2.Base.Revision a3 a4 m n,om m U Z,om n V a0,au a2 S]) w' W y.2.2.2.2.2.Rules∧aA ad (dT T [xS e W y.2.2.2.2.2.Base.Revision a3 a4 m n,om m U Z,om n V a0,au a2 S]) w' a3 y.2.2.2.2.2.Base.Inputs∧aA aa (dT T [xS e W y.2.2.2.2.2.Base.Revision a3 a4 m n,om m U Z,om n V a0,au a2 S]) w' a4 y.2.2.2.2.2.Base.Records∧bx ac true aN.str false (dT T [xS e W y.2.2.2.2.2.Base.Revision a3 a4 m n,om m U Z,om n V a0,au a2 S]) w' U y.2.2.2.2.2.Memo∧bx ac true (aN.slice ac) false (dT T [xS e W y.2.2.2.2.2.Base.Revision a3 a4 m n,om m U Z,om n V a0,au a2 S]) w' V y.2.2.2.2.2.Seen):=by
 refine jp (c:=_) Tryz.func125 rfl T 271 Tryz.ntmps125 hT rfl hD fun a hS=>?_;replace hS:=(((((((((hS.fact bv hLv).fS no).fS np).fS hw).fS o1).fS p6).fS p7).fS pe).fM p4).fM p5;unfold mD at hM;refine ah hS fun a hS=>?_;refine kb hS fun P rt a w hk hS=>?_;refine ka hS l4 fun L rv a w hk hS=>?_;refine ah hS fun a hS=>?_;obtain⟨g,hh,hM⟩:=bd hM;refine kc hS vr (dD _ _ hS.dlt d2 _ _ (hS.get 8 rfl) (hS.get 7 rfl) _ hh) fun _ w hR a hk hA=>?_;obtain⟨t,X,B,Y,he,g0,g1,d3⟩:=hR;obtain rfl:=he.symm;have hS:=s7 hA g0 g1 d3;refine ah hS fun a hS=>?_;obtain⟨D,hx,hM⟩:=bd hM;obtain⟨b,f,hM⟩:=bd hM;replace hS:=hS.re [] [0,1,2,3,4,5,6];refine wl rfl (cu hS FO rfl rfl (wN _ _ hS.dltD hS.dok _ _ (hS.getD 8 rfl) D hx b f) fun u w hR a hk hA=>?_);obtain⟨q3,z,Q,C,O,i0,g2,g3,i2⟩:=hR;have hS:=hA _ i2;replace hS:=((hS.fR (i0.keep (Kt.refl _ _) (aw _))).fR (g2.keep (Kt.refl _ _) (aw _))).fR (g3.keep (Kt.refl _ _) (aw _));refine go hS fun a w hS=>?_;refine qy hS (D5 (R:=ar) hS wv rfl 0 rfl 2 rfl) fun a hS=>?_;refine ah hS fun a hS=>?_;refine wl rfl (C3 (R:=ar) hS wv rJ rfl rfl 0 rfl 2 rfl f rfl fun ak av sb o s0 a hS=>?_);refine ah hS fun a hS=>?_;refine qy hS (D5 (R:=ar) hS wv rfl 0 rfl 2 rfl) fun a hS=>?_;refine ah hS fun a hS=>?_;obtain⟨ao,hg,hM⟩:=bd hM;obtain⟨a1,el,i3⟩:=EB (R:=ar) hS wv rJ 0 rfl 2 rfl hg;refine wl rfl (ky (v:=a1) hS (i3 (k1:=.i64) rfl (.inr ⟨rfl,rfl⟩) (.inl ⟨_,rfl,rfl⟩)) rfl rfl fun a hS=>?_);refine ah hS fun a hS=>?_;refine aG (J:=fun a w=>∃ (a9:Bool) (c0:Int) (c1:ByteArray) (c2:ByteArray) (c3:LK) (c4:Int) (c5:Int) (c9:Int) (b6:Bool) (b0:Nat) (dc:LV) (b9:Value) (b2:LV),St W0 (MD [xS e H d.Base.Revision I K m n,om m q A,om n s p]) T 271 [(0,pt e 0),(2,u),(3,a5),(5,pt P 0),(8,pt L 0),(13,pt ak av),(14,a1),(15,pt b0 0),(16,.bool a9)] [cX u dc,au z Q,.own C 9 aN.str.size O,om m q A,om n s p,xS e H d.Base.Revision I K m n,aR t X,aH B Y,.box P (aQ g t B) 31,.box L [.int .i64 0,.slice none 0 0,.slice none 0 0] 31,au b9 b2,.box b0 [.int .i64 c0,.string c1,.string c2,b9,.int .i64 c4,.int .i64 c5,.int .i64 c9,.bool b6] 84] [am ac Q b.Reads,am aN.str O b.Answers,am (HR ar) dc (eb D (IntKind.i64.wrap ((D.length:Int) - 1)) (kr b z C)),aJ ar a5 G,aJ ay H d.Rules,aJ ad I d.Base.Inputs,aJ aa K d.Base.Records,iv q d.Memo,po s d.Seen,am ad X g.Inputs,am aa Y g.Records,am ac b2 c3,bv] a w∧lw vrec d G g D b ao a9 c0 c1 c2 c3 c4 c5 c9 b6=some y) ?_ ?_
 ·skip;obtain⟨N171,hc⟩:∃ N,N=w.heap.size:=⟨_,rfl⟩;replace hS:=hS.fact (BA N171) (Nat.le_of_eq hc);refine dr [(11,.new N171)] hS fun w hQ hS=>?_;refine gE [0,1,2,3,4] hS fun a hS=>?_;have i4:=df (R:=ar) hS 3 rfl o f;refine dy (l:=[]) 5 (v:=.agg (aM b.Key).toArray) rfl (by kernel_rfl) (by kernel_rfl) (by kernel_rfl) (by kernel_rfl) hQ hS (bL (k:=0) hS dd 0 rfl o i4 rfl bo (us:=(aM b.Key)) rfl rfl (fun h=>by cases h)) rfl rfl rfl fun a hS=>?_;have hL:=hS;replace hL:=hL.freeze (R:=aa) 4 rfl 4 rfl;obtain⟨sz,eq,hM⟩:=bd hM;refine de (i:=6) (j:=10) rfl rfl (by kernel_rfl) rfl rfl ?_ ?_
  ·skip;skip;have hL:=hS;replace hL:=hL.freeze (R:=aa) 4 rfl 4 rfl;refine id (a8 hS kD rfl rfl (bI _ _ hL.dlt g.Records b.Key _ (hL.get 0 rfl) _ eq) fun _ w hR a hk hA=>⟨fc (hk),?_⟩);obtain⟨o3,hK,he,⟨f2,et,g4⟩⟩:=hR;obtain rfl:=he.symm;have hS:=hA [au o3 hK] (eA ⟨f2,by decide⟩ et) (ro _);replace hS:=hS.fR g4;refine gE [7,8,9] hS fun a hS=>?_;have i5:=(hS.get 1 rfl:N171≤w.heap.size);refine e1 10 (cr hS ft rfl fun hF i9 a w hk hS=>⟨fc (hk),?_⟩);refine cC 11 (.blk (some hF)) _ (by kernel_rfl) (lZ (Nat.le_trans i5 i9)) ?_;refine es 11 hS fun w hS=>?_;refine gE [12] hS fun a hS=>?_;refine eD ?_;exact⟨_,_,_,_,_,_,_,_,_,_,_,_,_,hS.mt [2,3,4,10,11,9,5,6,8,7,1,0] [3,2,4,12,11,10,9,8,7,6,5,0,16],hM⟩
  skip;have ib:=(hS.get 0 rfl:N171≤w.heap.size);refine id (cr hS ft rfl fun hG ih a w hk hS=>⟨fc (hk),?_⟩);refine cC 11 (.blk (some hG)) _ (by kernel_rfl) (lZ (Nat.le_trans ib ih)) ?_;have hL:=hS;replace hL:=hL.freeze (R:=aa) 5 rfl 4 rfl;refine ec 6 hS kD (bI _ _ hL.dlt g.Records b.Key _ (hL.get 0 rfl) _ eq) fun _ w hR a hk hA=>?_;obtain⟨of,hN,he,⟨f3,ex,g5⟩⟩:=hR;obtain rfl:=he.symm;have hS:=hA [au of hN] (eA ⟨f3,by decide⟩ ex) (ro _);replace hS:=hS.fR g5;refine gE [7,8,9] hS fun a hS=>?_;refine es 11 hS fun w hS=>?_;refine gE [12] hS fun a hS=>?_;refine eD ?_;exact⟨_,_,_,_,_,_,_,_,_,_,_,_,_,hS.mt [2,3,4,10,11,9,5,6,8,7,0,1] [3,2,4,12,11,10,9,8,7,6,5,0,16],hM⟩
 rintro a w ⟨a9,c0,c1,c2,c3,c4,c5,c9,b6,b0,dc,b9,b2,hS,hM⟩;unfold lw at hM;refine az ?_;refine ah hS fun a hS=>?_;have ii:=df (R:=ar) hS 2 rfl o f;refine qy hS (bL (k:=2) hS HM 0 rfl o ii rfl id (us:=[.bool b.Running]) rfl rfl (fun _=>rfl)) fun a hS=>?_;refine ah hS fun a hS=>?_;rcases cd hM with⟨it,hM⟩|⟨it,hM⟩
 ·refine ah hS fun a hS=>?_;refine aG (J:=fun a w=>∃ (ca:Bool) (ax:ByteArray) (E:Int) (F:ByteArray) (b1:Nat) (dk:LV),St W0 (MD [xS e H d.Base.Revision I K m n,om m q A,om n s p]) T 271 [(0,pt e 0),(2,u),(3,a5),(5,pt P 0),(8,pt L 0),(13,pt ak av),(14,a1),(16,.bool a9),(17,pt b1 0)] [cX u dk,au z Q,.own C 9 aN.str.size O,om m q A,om n s p,xS e H d.Base.Revision I K m n,aR t X,aH B Y,.box P (aQ g t B) 31,.box L [.int .i64 0,.slice none 0 0,.slice none 0 0] 31,.box b1 [.bool ca,.string ax,.int .i64 E,.string F] 190] [am ac Q b.Reads,am aN.str O b.Answers,am (HR ar) dk (eb D (IntKind.i64.wrap ((D.length:Int) - 1)) (kr b z C)),aJ ar a5 G,aJ ay H d.Rules,aJ ad I d.Base.Inputs,aJ aa K d.Base.Records,iv q d.Memo,po s d.Seen,am ad X g.Inputs,am aa Y g.Records,bv] a w∧lr vrec d G g D b ao a9 ca ax E F=some y) ?_ ?_
  ·skip;obtain⟨N187,hd⟩:∃ N,N=w.heap.size:=⟨_,rfl⟩;replace hS:=hS.fact (BA N187) (Nat.le_of_eq hd);refine dr [(14,.new N187)] hS fun w hQ hS=>?_;refine gE [0,1,2,3,4,5,6] hS fun a hS=>?_;have jb:=df (R:=ar) hS 3 rfl o f;refine dy (l:=[]) 7 (v:=.agg (aM b.Key).toArray) rfl (by kernel_rfl) (by kernel_rfl) (by kernel_rfl) (by kernel_rfl) hQ hS (bL (k:=0) hS dd 0 rfl o jb rfl bo (us:=(aM b.Key)) rfl rfl (fun h=>by cases h)) rfl rfl rfl fun a hS=>?_;refine gE [8,9,10] hS fun a hS=>?_;have jc:=df (R:=ar) hS 3 rfl o f;refine dy (l:=[]) 11 (v:=C) rfl (by kernel_rfl) (by kernel_rfl) (by kernel_rfl) (by kernel_rfl) hQ hS (bL (k:=5) hS AI 0 rfl o jc rfl bo (us:=[C]) rfl rfl (fun _=>rfl)) rfl rfl rfl fun a hS=>?_;have hL:=hS;replace hL:=hL.freeze (R:=aN.str) 2 rfl 2 rfl;obtain⟨sy,em,hM⟩:=bd hM;refine de (i:=12) (j:=13) rfl rfl (by kernel_rfl) rfl rfl ?_ ?_
   ·skip;skip;have hL:=hS;replace hL:=hL.freeze (R:=aN.str) 2 rfl 2 rfl;refine id (a8 hS tb rfl rfl (eZ _ _ hL.dlt (hL.get 14 rfl) d.Rules b.Key b.Answers _ _ (hL.get 6 rfl) (hL.get 0 rfl) _ em) fun _ w hR a hk hA=>⟨fc (hk),?_⟩);obtain rfl:=hR;have hS:=bV hA;have js:=(hS.get 0 rfl:N187≤w.heap.size);refine e1 13 (cr hS mP rfl fun hH k0 a w hk hS=>⟨fc (hk),?_⟩);refine cC 14 (.blk (some hH)) _ (by kernel_rfl) (lZ (Nat.le_trans js k0)) ?_;refine es 14 hS fun w hS=>?_;refine eD ?_;exact⟨_,_,_,_,_,_,hS.mt [1,2,3,4,5,6,7,8,9,10,0] [1,2,3,4,5,6,7,8,9,10,11,13],hM⟩
   skip;have k2:=(hS.get 0 rfl:N187≤w.heap.size);refine id (cr hS mP rfl fun hI k3 a w hk hS=>⟨fc (hk),?_⟩);refine cC 14 (.blk (some hI)) _ (by kernel_rfl) (lZ (Nat.le_trans k2 k3)) ?_;have hL:=hS;replace hL:=hL.freeze (R:=aN.str) 3 rfl 2 rfl;refine ec 12 hS tb (eZ _ _ hL.dlt (hL.get 14 rfl) d.Rules b.Key b.Answers _ _ (hL.get 6 rfl) (hL.get 0 rfl) _ em) fun _ w hR a hk hA=>?_;obtain rfl:=hR;have hS:=bV hA;refine es 14 hS fun w hS=>?_;refine eD ?_;exact⟨_,_,_,_,_,_,hS.mt [1,2,3,4,5,6,7,8,9,10,0] [1,2,3,4,5,6,7,8,9,10,11,13],hM⟩
  rintro a w ⟨ca,ax,E,F,b1,dk,hS,hM⟩;unfold lr at hM;refine az ?_;refine ah hS fun a hS=>?_;rcases cd hM with⟨k4,hM⟩|⟨k4,hM⟩
  ·refine ah hS fun a hS=>?_;refine az ?_;refine aG (J:=fun a w=>∃ (ea:Bool) (dl:LV),St W0 (MD [xS e H d.Base.Revision I K m n,om m q A,om n s p]) T 271 [(2,u),(5,pt P 0),(8,pt L 0),(13,pt ak av),(14,a1),(17,pt b1 0),(73,.bool ea)] [cX u dl,au z Q,.own C 9 aN.str.size O,aR t X,aH B Y,.box P (aQ g t B) 31,.box L [.int .i64 0,.slice none 0 0,.slice none 0 0] 31,.box b1 [.bool ca,.string ax,.int .i64 E,.string F] 190,om m q A,om n s p,xS e H d.Base.Revision I K m n] [am ac Q b.Reads,am aN.str O b.Answers,am (HR ar) dl (eb D (IntKind.i64.wrap ((D.length:Int) - 1)) (kr b z C)),am ad X g.Inputs,am aa Y g.Records,aJ ay H d.Rules,aJ ad I d.Base.Inputs,aJ aa K d.Base.Records,iv q d.Memo,po s d.Seen,bv] a w∧fZ d g D b ao ax ea=some y) ?_ ?_
   ·exact fz
   rintro a w ⟨ea,dl,hS,hM⟩;unfold fZ at hM;rcases cd hM with⟨kk,hM⟩|⟨kk,hM⟩
   ·refine go hS fun a w hS=>?_;replace hS:=(hS.freeze (R:=ac) 1 rfl 0 rfl).freeze (R:=aN.str) 1 rfl 2 rfl;replace hS:=((((hS.closeHs (R:=ar) 4 rfl f (⟨_,_,rfl,(hS.get 1 rfl),(hS.get 0 rfl)⟩)).freeze (R:=ad) 1 rfl 6 rfl).freeze (R:=aa) 1 rfl 8 rfl).freeze (R:=ar) 0 rfl 2 rfl).nilRow ac 44 (by decide);cases hM
    refine aE hS Tryz.results125 (a7 hS rfl 2 rfl ez rfl (fun h=>by cases h) (ap hS rfl (ap hS rfl (ap hS rfl (ap hS rfl aD))))) ?_;have hZ:=hS.sl [6,4,5,0] [3,2,1,0,12,13,14,15,16];exact⟨t,B,u,(.slice none 0 0),[],H,I,K,q,A,s,p,rfl,(hZ.get 0 rfl),(hZ.get 1 rfl),(hZ.get 2 rfl),(hZ.get 3 rfl),hZ.dnew,(hZ.get 4 rfl),(hZ.get 5 rfl),(hZ.get 6 rfl),(hZ.get 7 rfl),(hZ.get 8 rfl)⟩
   refine ah hS fun a hS=>?_;refine az ?_;refine dr [(16,.blk (some P))] hS fun w hQ hS=>?_;refine gE [0,1,2,3,4,5] hS fun a hS=>?_;have ks:=df (R:=ar) hS 2 rfl o f;refine dy (l:=[]) 6 (v:=.agg (aM b.Key).toArray) rfl (by kernel_rfl) (by kernel_rfl) (by kernel_rfl) (by kernel_rfl) hQ hS (bL (k:=0) hS dd 0 rfl o ks rfl bo (us:=(aM b.Key)) rfl rfl (fun h=>by cases h)) rfl rfl rfl fun a hS=>?_;refine gE [7,8,9,10,11] hS fun a hS=>?_;have kt:=df (R:=ar) hS 2 rfl o f;refine dy (l:=[]) 12 (v:=z) rfl (by kernel_rfl) (by kernel_rfl) (by kernel_rfl) (by kernel_rfl) hQ hS (bL (k:=4) hS AH 0 rfl o kt rfl bo (us:=[z]) rfl rfl (fun _=>rfl)) rfl rfl rfl fun a hS=>?_;replace hS:=((hS.freeze (R:=ad) 3 rfl 3 rfl).freeze (R:=aa) 3 rfl 5 rfl).freeze (R:=ac) 1 rfl 2 rfl;obtain⟨o2,hj,hM⟩:=bd hM;refine ec 13 hS FU (tF _ _ hS.dlt g b.Key ax b.Reads _ _ _ (hS.get 2 rfl) (hS.get 1 rfl) (hS.get 0 rfl) _ hj) fun _ w hR a hk hA=>?_;obtain⟨sT,he,g6⟩:=hR;obtain rfl:=he.symm;have hS:=hA [] (fun r hr=>by cases hr) List.Pairwise.nil;replace hS:=hS.fS (g6.sub (iB _));obtain⟨h7,hi,hM⟩:=bd hM;refine ec 14 hS FT (uK _ _ hS.dlt (hS.get 14 rfl) g.Records o2 _ _ (hS.get 2 rfl) (hS.get 0 rfl) _ hi) fun _ w hR a hk hA=>?_;obtain⟨ch,er,he,g7⟩:=hR;obtain rfl:=he.symm;have hS:=oI hA g7;refine gE [15] hS fun a hS=>?_;refine es 16 hS fun w hS=>?_;refine eD ?_;refine ah hS fun a hS=>?_;refine aG (J:=fun a w=>∃ (e8:LK) (dn:LV) (ck:Value) (bl:LV),St W0 (MD [xS e H d.Base.Revision I K m n,om m q A,om n s p]) T 271 [(8,pt L 0),(9,a1),(10,ck),(11,.bool true),(12,.int .i64 0)] [cX u dn,.own C 9 aN.str.size O,au ck bl,aH ch er,.box L (aQ g t ch) 31,om m q A,om n s p,xS e H d.Base.Revision I K m n] [aJ ac z b.Reads,am aN.str O b.Answers,am (HR ar) dn (eb D (IntKind.i64.wrap ((D.length:Int) - 1)) (kr b z C)),am ac bl e8,aJ ad t g.Inputs,am aa er h7,aJ ay H d.Rules,aJ ad I d.Base.Inputs,aJ aa K d.Base.Records,iv q d.Memo,po s d.Seen,bv] a w∧oe d g ao h7 e8=some y) ?_ ?_
   ·skip;refine dr [(7,.blk (some L))] hS fun w hQ hS=>?_;refine gE [0,1,2,3,4] hS fun a hS=>?_;have kv:=df (R:=ar) hS 7 rfl o f;refine dy (l:=[.blk (some L)]) 5 (v:=.agg (aM b.Key).toArray) rfl (by kernel_rfl) (by kernel_rfl) (by kernel_rfl) (by kernel_rfl) hQ hS (bL (k:=0) hS dd 1 rfl o kv rfl (ic hS 1 rfl (tx o) 4 rfl rfl (by decide) bo) (us:=(aM b.Key)) rfl rfl (fun h=>by cases h)) rfl rfl rfl fun a hS=>?_;refine de (i:=6) (j:=7) rfl rfl (by kernel_rfl) rfl rfl ?_ ?_
    ·skip;skip;refine id (aT (ps:=[(0,.tmp 97)]) hS gm gh (zl:=[.int .i64 0,.string (ByteArray.mk #[])]) (by kernel_rfl) rfl (us:=[(aM b.Key)]) ⟨rfl,trivial⟩ (ws:=(aM b.Key)) rfl rfl rfl rfl fun hJ a w hk hS=>⟨fc (hk),?_⟩);refine es 7 hS fun w hS=>?_;refine gE [8,9,10,11] hS fun a hS=>?_;refine eD ?_;replace hS:=hS.lit (R:=ac) (us:=(aM b.Key)) (xs:=[b.Key]) 0 rfl (by decide) (aB.one_ (R:=ac) (x:=b.Key) rfl) rfl rfl;exact⟨_,_,_,_,hS.mt [2,3,0,1,5,7,8,9] [3,7,8,0,5,1,11,12,13,14,15,16],hM⟩
    skip;refine id (qt hS rfl rfl (us:=(aQ g t ch)) rfl ez 4 rfl rfl rfl (oc rfl (oc (aA.one ((hS.get 4 rfl):aA ad _ _ _ _)) (oc (gy (hS.own _ (List.mem_of_getElem? (i:=0) rfl)).1) on))) fun w hk hS=>⟨kB rfl hk iC,?_⟩);refine gE [8] hS fun a hS=>?_;refine e1 6 (aT (ps:=[(0,.tmp 97)]) hS gm gh (zl:=[.int .i64 0,.string (ByteArray.mk #[])]) (by kernel_rfl) rfl (us:=[(aM b.Key)]) ⟨rfl,trivial⟩ (ws:=(aM b.Key)) rfl rfl rfl rfl fun hJ a w hk hS=>⟨fc (hk),?_⟩);refine gE [9,10,11] hS fun a hS=>?_;refine eD ?_;replace hS:=hS.lit (R:=ac) (us:=(aM b.Key)) (xs:=[b.Key]) 0 rfl (by decide) (aB.one_ (R:=ac) (x:=b.Key) rfl) rfl rfl;exact⟨_,_,_,_,hS.mt [2,3,0,1,5,7,8,9] [3,7,8,0,5,1,11,12,13,14,15,16],hM⟩
   rintro a w ⟨e8,dn,ck,bl,hS,hM⟩;unfold oe at hM;refine ah hS fun a hS=>?_;replace hS:=hS.freeze (R:=aN.str) 1 rfl 1 rfl;replace hS:=((hS.closeHs (R:=ar) 3 rfl f (⟨_,_,rfl,(hS.get 1 rfl),(hS.get 0 rfl)⟩)).freeze (R:=aa) 2 rfl 7 rfl).freeze (R:=ar) 0 rfl 1 rfl;replace hS:=hS.fS (el _ _ (hS.get 0 rfl));cases hM
   refine aE hS Tryz.results125 (a7 hS rfl 1 rfl ez rfl (fun h=>by cases h) (ap hS rfl (ap hS rfl (ap hS rfl (ap hS rfl aD))))) ?_;have hZ:=hS.sl [4,2,3,0] [9,2,0,8,11,12,13,14,15];exact⟨t,ch,a1,ck,bl,H,I,K,q,A,s,p,rfl,(hZ.get 0 rfl),(hZ.get 1 rfl),(hZ.get 2 rfl),(hZ.get 3 rfl),hZ.dnew,(hZ.get 4 rfl),(hZ.get 5 rfl),(hZ.get 6 rfl),(hZ.get 7 rfl),(hZ.get 8 rfl)⟩
  refine ah hS fun a hS=>?_;refine az ?_;refine ah hS fun a hS=>?_;have hL:=hS;replace hL:=hL.freeze (R:=ad) 6 rfl 9 rfl;replace hL:=hL.freeze (R:=aa) 6 rfl 11 rfl;replace hL:=hL.freeze (R:=ac) 1 rfl 2 rfl;replace hL:=hL.freeze (R:=aN.str) 1 rfl 4 rfl;replace hL:=hL.closeHs (R:=ar) 6 rfl f (⟨_,_,rfl,(hL.get 1 rfl),(hL.get 0 rfl)⟩);replace hL:=hL.freeze (R:=ar) 0 rfl 0 rfl;obtain⟨sk,hl,hM⟩:=bd hM;refine kc hS FV (tI _ _ hL.dlt g D G (ae.mk E F) _ _ _ _ (hL.get 5 rfl) (hL.get 4 rfl) (hL.get 0 rfl) (hL.get 9 rfl) _ hl) fun _ w hR a hk hA=>?_;obtain rfl:=hR;have hS:=bV hA;refine ah hS fun a hS=>?_;rcases cd hM with⟨kx,hM⟩|⟨kx,hM⟩
  ·refine ah hS fun a hS=>?_;refine az ?_;refine dr [(6,.blk (Value.ownBlock u)),(7,.blk (some L))] hS fun w hQ hS=>?_;refine dy (l:=[.blk (Value.ownBlock u)]) 0 (v:=.agg (aQ g t B).toArray) rfl (by kernel_rfl) (by kernel_rfl) (by kernel_rfl) (by kernel_rfl) hQ hS (dH hS rfl ez 8 rfl (ic hS 8 rfl rfl 0 rfl rfl (by decide) bo) (us:=(aQ g t B)) rfl rfl (fun h=>by cases h)) rfl rfl rfl fun a hS=>?_;refine gE [1,2,3] hS fun a hS=>?_;refine dy 4 (v:=.agg #[.int .i64 E,.string F,.bool false,.int .i64 0,.slice none 0 0,.slice none 0 0]) rfl (by kernel_rfl) (by kernel_rfl) (by kernel_rfl) rfl hQ hS (bj (ps:=[(0,.tmp 110)]) hS Ds qo rfl (us:=[[.int .i64 E,.string F]]) ⟨rfl,trivial⟩ (ws:=[.int .i64 E,.string F,.bool false,.int .i64 0,.slice none 0 0,.slice none 0 0]) rfl) rfl rfl rfl fun a hS=>?_;refine e1 5 (aT (ps:=[(0,.tmp 111)]) hS xQ qo (zl:=[.int .i64 0,.string (ByteArray.mk #[]),.bool false,.int .i64 0,.slice none 0 0,.slice none 0 0]) (by kernel_rfl) rfl (us:=[[.int .i64 E,.string F,.bool false,.int .i64 0,.slice none 0 0,.slice none 0 0]]) ⟨rfl,trivial⟩ (ws:=[.int .i64 E,.string F,.bool false,.int .i64 0,.slice none 0 0,.slice none 0 0]) rfl rfl rfl rfl fun pf a w hk hS=>⟨fc (hk),?_⟩);replace hS:=(hS.freeze (R:=ac) 2 rfl 0 rfl).freeze (R:=aN.str) 2 rfl 2 rfl;replace hS:=((hS.closeHs (R:=ar) 4 rfl f (⟨_,_,rfl,(hS.get 1 rfl),(hS.get 0 rfl)⟩)).lit (R:=ar) (us:=[.int .i64 E,.string F,.bool false,.int .i64 0,.slice none 0 0,.slice none 0 0]) (xs:=[(bf.mk (ae.mk E F) false 0 ([]) ([]))]) 0 rfl (by decide) (aB.one_ (R:=ar) (x:=(bf.mk (ae.mk E F) false 0 ([]) ([]))) (⟨_,_,rfl,aA.nil_ _ _ _,aA.nil_ _ _ _⟩)) rfl rfl).freeze (R:=ar) 0 rfl 0 rfl;obtain⟨l0,hM⟩:=aS hM;refine e1 6 (bw (R:=ar) (xs:=D) (ys:=[(bf.mk (ae.mk E F) false 0 ([]) ([]))]) hS xQ (by decide) (by decide) rfl rfl 0 rfl 2 rfl 0 rfl l0 rfl fun oi q4 a w hk hS=>⟨kB rfl hk kH,?_⟩);refine es 7 hS fun w hS=>?_;refine gE [8,9,10,11] hS fun a hS=>?_;refine eD ?_;refine ah hS fun a hS=>?_;replace hS:=(((hS.freeze (R:=ad) 4 rfl 15 rfl).freeze (R:=aa) 4 rfl 17 rfl).freeze (R:=ar) 0 rfl 2 rfl).nilRow ac 44 (by decide);cases hM
   refine aE hS Tryz.results125 (a7 hS rfl 5 rfl ez rfl (fun h=>by cases h) (ap hS rfl (ap hS rfl (ap hS rfl (ap hS rfl aD))))) ?_;have hZ:=hS.sl [3,1,2,0] [3,2,1,0,14,15,16,17,18];exact⟨t,B,oi,(.slice none 0 0),[],H,I,K,q,A,s,p,rfl,(hZ.get 0 rfl),(hZ.get 1 rfl),(hZ.get 2 rfl),(hZ.get 3 rfl),hZ.dnew,(hZ.get 4 rfl),(hZ.get 5 rfl),(hZ.get 6 rfl),(hZ.get 7 rfl),(hZ.get 8 rfl)⟩
  refine ah hS fun a hS=>?_;rcases cd hM with⟨l1,hM⟩|⟨l1,hM⟩
  ·refine go hS fun a w hS=>?_;replace hS:=(hS.freeze (R:=ac) 1 rfl 0 rfl).freeze (R:=aN.str) 1 rfl 2 rfl;replace hS:=((((hS.closeHs (R:=ar) 4 rfl f (⟨_,_,rfl,(hS.get 1 rfl),(hS.get 0 rfl)⟩)).freeze (R:=ad) 4 rfl 12 rfl).freeze (R:=aa) 4 rfl 14 rfl).freeze (R:=ar) 0 rfl 2 rfl).nilRow ac 44 (by decide);cases hM
   refine aE hS Tryz.results125 (a7 hS rfl 5 rfl ez rfl (fun h=>by cases h) (ap hS rfl (ap hS rfl (ap hS rfl (ap hS rfl aD))))) ?_;have hZ:=hS.sl [3,1,2,0] [3,2,1,0,11,12,13,14,15];exact⟨t,B,u,(.slice none 0 0),[],H,I,K,q,A,s,p,rfl,(hZ.get 0 rfl),(hZ.get 1 rfl),(hZ.get 2 rfl),(hZ.get 3 rfl),hZ.dnew,(hZ.get 4 rfl),(hZ.get 5 rfl),(hZ.get 6 rfl),(hZ.get 7 rfl),(hZ.get 8 rfl)⟩
  refine ah hS fun a hS=>?_;rcases cd hM with⟨l2,hM⟩|⟨l2,hM⟩
  ·refine go hS fun a w hS=>?_;replace hS:=(hS.freeze (R:=ac) 1 rfl 0 rfl).freeze (R:=aN.str) 1 rfl 2 rfl;replace hS:=((((hS.closeHs (R:=ar) 4 rfl f (⟨_,_,rfl,(hS.get 1 rfl),(hS.get 0 rfl)⟩)).freeze (R:=ad) 4 rfl 12 rfl).freeze (R:=aa) 4 rfl 14 rfl).freeze (R:=ar) 0 rfl 2 rfl).nilRow ac 44 (by decide);cases hM
   refine aE hS Tryz.results125 (a7 hS rfl 5 rfl ez rfl (fun h=>by cases h) (ap hS rfl (ap hS rfl (ap hS rfl (ap hS rfl aD))))) ?_;have hZ:=hS.sl [3,1,2,0] [3,2,1,0,11,12,13,14,15];exact⟨t,B,u,(.slice none 0 0),[],H,I,K,q,A,s,p,rfl,(hZ.get 0 rfl),(hZ.get 1 rfl),(hZ.get 2 rfl),(hZ.get 3 rfl),hZ.dnew,(hZ.get 4 rfl),(hZ.get 5 rfl),(hZ.get 6 rfl),(hZ.get 7 rfl),(hZ.get 8 rfl)⟩
  refine ah hS fun a hS=>?_;refine az ?_;refine dr [(9,.blk (Value.ownBlock z)),(18,.bks [some e,some m,some n]),(20,.blk (Value.ownBlock C)),(23,.blk (Value.ownBlock u)),(26,.blk (Value.ownBlock u))] hS fun w hQ hS=>?_;refine gE [0,1,2,3,4] hS fun a hS=>?_;have la:=df (R:=ar) hS 2 rfl o f;refine dy (l:=[]) 5 (v:=z) rfl (by kernel_rfl) (by kernel_rfl) (by kernel_rfl) (by kernel_rfl) hQ hS (bL (k:=4) hS AH 0 rfl o la rfl bo (us:=[z]) rfl rfl (fun _=>rfl)) rfl rfl rfl fun a hS=>?_;refine gE [6,7,10,11,12] hS fun a hS=>?_;have lb:=df (R:=ar) hS 2 rfl o f;refine dy (l:=[.blk (Value.ownBlock z),.bks [some e,some m,some n]]) 13 (v:=C) rfl (by kernel_rfl) (by kernel_rfl) (by kernel_rfl) (by kernel_rfl) hQ hS (bL (k:=5) hS AI 0 rfl o lb rfl (ic hS 0 rfl (tx o) 1 rfl rfl (by decide) (vI hS 0 rfl (tx o) [5,3,4] rfl rfl bo)) (us:=[C]) rfl rfl (fun _=>rfl)) rfl rfl rfl fun a hS=>?_;refine gE [14] hS fun a hS=>?_;refine dy (l:=[.blk (Value.ownBlock z)]) 15 (v:=.agg (aQ g t B).toArray) rfl (by kernel_rfl) (by kernel_rfl) (by kernel_rfl) (by kernel_rfl) hQ hS (dH hS rfl ez 8 rfl (ic hS 8 rfl rfl 1 rfl rfl (by decide) bo) (us:=(aQ g t B)) rfl rfl (fun h=>by cases h)) rfl rfl rfl fun a hS=>?_;refine gE [16] hS fun a hS=>?_;refine dy (l:=[.blk (Value.ownBlock z)]) 17 (v:=.agg #[.int .i64 E,.string F]) rfl (by kernel_rfl) (by kernel_rfl) (by kernel_rfl) (by kernel_rfl) hQ hS (dH hS rfl dd 10 rfl (ic hS 10 rfl rfl 1 rfl rfl (by decide) bo) (us:=[.int .i64 E,.string F]) rfl rfl (fun h=>by cases h)) rfl rfl rfl fun a hS=>?_;refine e1 8 (aT (ps:=[(0,.tmp 129)]) hS gm gh (zl:=[.int .i64 0,.string (ByteArray.mk #[])]) (by kernel_rfl) rfl (us:=[[.int .i64 E,.string F]]) ⟨rfl,trivial⟩ (ws:=[.int .i64 E,.string F]) rfl rfl rfl rfl fun pk a w hk hS=>⟨fc (hk),?_⟩);replace hS:=(hS.lit (R:=ac) (us:=[.int .i64 E,.string F]) (xs:=[(ae.mk E F)]) 0 rfl (by decide) (aB.one_ (R:=ac) (x:=(ae.mk E F)) rfl) rfl rfl).freeze (R:=ac) 0 rfl 0 rfl;obtain⟨le,hM⟩:=aS hM;refine e1 9 (bw (R:=ac) (xs:=b.Reads) (ys:=[(ae.mk E F)]) hS gm (by decide) (by decide) rfl rfl 1 rfl 2 rfl 0 rfl le rfl fun hb q5 a w hk hS=>⟨kB rfl hk kH,?_⟩);replace hS:=(hS.freeze (R:=ad) 6 rfl 12 rfl).freeze (R:=aa) 6 rfl 14 rfl;obtain⟨ab,hm,hM⟩:=bd hM;replace hS:=hS.re [5,3,4] [0,1,2,6,7,8];refine e1 18 (cu hS FW rfl rfl (rD _ _ hS.dltD vrec hvrec d g (ae.mk E F) _ _ _ _ _ _ _ _ _ _ _ _ hS.dok (hS.getD 9 rfl) (hS.getD 10 rfl) (hS.getD 11 rfl) (hS.getD 12 rfl) (hS.getD 13 rfl) (hS.getD 1 rfl) (hS.getD 0 rfl) (hS.getD 16 rfl) _ hm) fun _ w hR a hk hA=>⟨kB rfl hk (yX rfl rfl),?_⟩);obtain⟨oj,ok,op,hX,hP,hY,hV,he,ll,g8,gb,gi,fl,fn⟩:=hR;obtain rfl:=he.symm;have hS:=hA _ ll;replace hS:=((((hS.fS (g8.sub (aw _))).fS (gb.sub (aw _))).fS (gi.sub (aw _))).fM (fl.keep (Kt.refl _ _) (aw _))).fM (fn.keep (Kt.refl _ _) (aw _));refine e1 19 (aT (ps:=[(0,.tmp 140)]) hS uQ H0 (zl:=[.string (ByteArray.mk #[])]) (by kernel_rfl) rfl (us:=[[.string ab.1]]) ⟨rfl,trivial⟩ (ws:=[.string ab.1]) rfl rfl rfl rfl fun pl a w hk hS=>⟨fc (hk),?_⟩);replace hS:=(hS.lit (R:=aN.str) (us:=[.string ab.1]) (xs:=[ab.1]) 0 rfl (by decide) (aB.one_ (R:=aN.str) (x:=ab.1) rfl) rfl rfl).freeze (R:=aN.str) 0 rfl 0 rfl;obtain⟨ls,hM⟩:=aS hM;refine e1 20 (bw (R:=aN.str) (xs:=b.Answers) (ys:=[ab.1]) hS uQ (by decide) (by decide) rfl rfl 5 rfl 13 rfl 0 rfl ls rfl fun os q6 a w hk hS=>⟨kB rfl hk kH,?_⟩);refine gE [21,22] hS fun a hS=>?_;refine e1 23 (mY (R:=ar) (k:=4) (cs:=(kr b z C)) (us:=[hb]) hS rfl rfl (ik (gy (hS.own _ (List.mem_of_getElem? (i:=4) rfl)).1)) AH 3 rfl 15 rfl o f rfl rfl (oc (gy (hS.own _ (List.mem_of_getElem? (i:=4) rfl)).1) on) fun q7 w hk hS=>⟨kB rfl hk kH,?_⟩);refine gE [24,25] hS fun a hS=>?_;refine e1 26 (mY (R:=ar) (k:=5) (cs:=(kr b hb C)) (us:=[os]) hS rfl rfl (ik (gy (hS.own _ (List.mem_of_getElem? (i:=5) rfl)).1)) AI 3 rfl 0 rfl o f rfl rfl (oc (gy (hS.own _ (List.mem_of_getElem? (i:=5) rfl)).1) on) fun r0 w hk hS=>⟨kB rfl hk kH,?_⟩);refine eD ?_;refine go hS fun a w hS=>?_;replace hS:=(hS.freeze (R:=ac) 4 rfl 12 rfl).freeze (R:=aN.str) 4 rfl 3 rfl;replace hS:=((hS.closeH (R:=ar) (x':=(bf.mk b.Key b.Running b.At (b.Reads ++ ([(ae.mk E F)])) (b.Answers ++ ([ab.1])))) 2 rfl (⟨_,_,rfl,(hS.get 1 rfl),(hS.get 0 rfl)⟩)).freeze (R:=ar) 3 rfl 0 rfl).nilRow ac 44 (by decide);cases hM
  refine aE hS Tryz.results125 (a7 hS rfl 5 rfl ez rfl (fun h=>by cases h) (ap hS rfl (ap hS rfl (ap hS rfl (ap hS rfl aD))))) ?_;have hZ:=hS.sl [1,2,3,0] [16,15,1,0,14,13,12,11,10];exact⟨t,B,u,(.slice none 0 0),[],oj,ok,op,hX,hP,hY,hV,rfl,(hZ.get 0 rfl),(hZ.get 1 rfl),(hZ.get 2 rfl),(hZ.get 3 rfl),hZ.dnew,(hZ.get 4 rfl),(hZ.get 5 rfl),(hZ.get 6 rfl),(hZ.get 7 rfl),(hZ.get 8 rfl)⟩
 refine ah hS fun a hS=>?_;refine az ?_;refine dr [] hS fun w hQ hS=>?_;refine gE [0,1,2,3,4,5,6] hS fun a hS=>?_;have lt:=df (R:=ar) hS 2 rfl o f;refine dy (l:=[]) 7 (v:=.agg (aM b.Key).toArray) rfl (by kernel_rfl) (by kernel_rfl) (by kernel_rfl) (by kernel_rfl) hQ hS (bL (k:=0) hS dd 0 rfl o lt rfl bo (us:=(aM b.Key)) rfl rfl (fun h=>by cases h)) rfl rfl rfl fun a hS=>?_;have hL:=hS;replace hL:=hL.freeze (R:=aa) 7 rfl 10 rfl;obtain⟨ag,ho,hM⟩:=bd hM;refine ec 8 hS A0 (qE _ _ hL.dlt (hL.get 13 rfl) g.Records g.Revision b.Key _ (hL.get 0 rfl) _ ho) fun _ w hR a hk hA=>?_;obtain⟨bb,b3,he,⟨f4,eT,gp⟩⟩:=hR;obtain rfl:=he.symm;have hS:=hA [au bb b3] (eA ⟨f4,by decide⟩ eT) (ro _);replace hS:=hS.fR gp;refine gE [9] hS fun a hS=>?_;refine eD ?_;refine ah hS fun a hS=>?_;have hL:=hS;replace hL:=hL.freeze (R:=aa) 8 rfl 11 rfl;replace hL:=hL.freeze (R:=ac) 0 rfl 1 rfl;obtain⟨cb,hp,hM⟩:=bd hM;refine kc hS AZ (mA _ _ hL.dlt g.Records ag _ _ (hL.get 1 rfl) (hL.get 0 rfl) _ hp) fun _ w hR a hk hA=>?_;obtain⟨bi,b4,he,⟨f6,eX,gs⟩⟩:=hR;obtain rfl:=he.symm;have hS:=hA [lf bi b4] (eA ⟨f6,by decide⟩ eX) (ro _);replace hS:=hS.fR gs;refine ah hS fun a hS=>?_;refine az ?_;refine ah hS fun a hS=>?_;refine aG (J:=fun a w=>∃ (eg:Bool) (ds:LV),St W0 (MD [xS e H d.Base.Revision I K m n,om m q A,om n s p]) T 271 [(0,pt e 0),(2,u),(3,a5),(5,pt P 0),(8,pt L 0),(13,pt ak av),(14,a1),(15,pt b0 0),(16,.bool a9),(18,bb),(19,bi),(162,.bool eg)] [cX u ds,au z Q,.own C 9 aN.str.size O,au bb b3,lf bi b4,om m q A,om n s p,xS e H d.Base.Revision I K m n,aR t X,aH B Y,.box P (aQ g t B) 31,.box L [.int .i64 0,.slice none 0 0,.slice none 0 0] 31,au b9 b2,.box b0 [.int .i64 c0,.string c1,.string c2,b9,.int .i64 c4,.int .i64 c5,.int .i64 c9,.bool b6] 84] [am ac Q b.Reads,am aN.str O b.Answers,am (HR ar) ds (eb D (IntKind.i64.wrap ((D.length:Int) - 1)) (kr b z C)),aJ ar a5 G,am ac b3 ag,am eO b4 cb,aJ ay H d.Rules,aJ ad I d.Base.Inputs,aJ aa K d.Base.Records,iv q d.Memo,po s d.Seen,am ad X g.Inputs,am aa Y g.Records,am ac b2 c3,bv] a w∧f5 vrec d G g D b ao a9 b6 ag cb eg=some y) ?_ ?_
 ·exact fz
 rintro a w ⟨eg,ds,hS,hM⟩;unfold f5 at hM;rcases cd hM with⟨lv,hM⟩|⟨lv,hM⟩
 ·refine go hS fun a w hS=>?_;replace hS:=(hS.freeze (R:=ac) 1 rfl 0 rfl).freeze (R:=aN.str) 1 rfl 2 rfl;replace hS:=(((hS.closeHs (R:=ar) 4 rfl f (⟨_,_,rfl,(hS.get 1 rfl),(hS.get 0 rfl)⟩)).freeze (R:=ad) 6 rfl 14 rfl).freeze (R:=aa) 6 rfl 16 rfl).freeze (R:=ar) 0 rfl 2 rfl;replace hS:=(hS.fS (el _ _ (hS.get 0 rfl))).nilRow ac 44 (by decide);cases hM
  refine aE hS Tryz.results125 (a7 hS rfl 7 rfl ez rfl (fun h=>by cases h) (ap hS rfl (ap hS rfl (ap hS rfl (ap hS rfl aD))))) ?_;have hZ:=hS.sl [5,3,4,0] [4,3,1,0,14,15,16,17,18];exact⟨t,B,a1,(.slice none 0 0),[],H,I,K,q,A,s,p,rfl,(hZ.get 0 rfl),(hZ.get 1 rfl),(hZ.get 2 rfl),(hZ.get 3 rfl),hZ.dnew,(hZ.get 4 rfl),(hZ.get 5 rfl),(hZ.get 6 rfl),(hZ.get 7 rfl),(hZ.get 8 rfl)⟩
 refine ah hS fun a hS=>?_;refine aG (J:=fun a w=>∃ (ed:Bool) (e2:LV),St W0 (MD [xS e H d.Base.Revision I K m n,om m q A,om n s p]) T 271 [(0,pt e 0),(2,u),(3,a5),(5,pt P 0),(8,pt L 0),(13,pt ak av),(14,a1),(18,bb),(19,bi),(173,.bool ed)] [cX u e2,au z Q,.own C 9 aN.str.size O,au bb b3,lf bi b4,om m q A,om n s p,xS e H d.Base.Revision I K m n,aR t X,aH B Y,.box P (aQ g t B) 31,.box L [.int .i64 0,.slice none 0 0,.slice none 0 0] 31] [am ac Q b.Reads,am aN.str O b.Answers,am (HR ar) e2 (eb D (IntKind.i64.wrap ((D.length:Int) - 1)) (kr b z C)),aJ ar a5 G,am ac b3 ag,am eO b4 cb,aJ ay H d.Rules,aJ ad I d.Base.Inputs,aJ aa K d.Base.Records,iv q d.Memo,po s d.Seen,am ad X g.Inputs,am aa Y g.Records,bv] a w∧f0 vrec d G g D b ao ag cb ed=some y) ?_ ?_
 ·exact fz
 rintro a w ⟨ed,e2,hS,hM⟩;unfold f0 at hM;rcases cd hM with⟨ly,hM⟩|⟨ly,hM⟩
 ·refine ah hS fun a hS=>?_;refine wl rfl (mY (R:=ar) (k:=2) (cs:=(kr b z C)) (us:=[.bool true]) hS rfl rfl rfl HM 0 rfl 2 rfl o f rfl rfl (oc rfl on) fun r1 w hk hS=>?_);refine ah hS fun a hS=>?_;refine wl rfl (mY (R:=ar) (k:=3) (cs:=[.int .i64 b.Key.Kind,.string b.Key.Text,.bool true,.int .i64 b.At,z,C]) (us:=[.int .i64 0]) hS rfl rfl rfl yu 0 rfl 0 rfl o f rfl rfl (oc rfl on) fun r2 w hk hS=>?_);refine go hS fun a w hS=>?_;replace hS:=(hS.freeze (R:=ac) 1 rfl 2 rfl).freeze (R:=aN.str) 1 rfl 4 rfl;replace hS:=((((hS.closeH (R:=ar) (x':=(bf.mk b.Key true 0 b.Reads b.Answers)) 2 rfl (⟨_,_,rfl,(hS.get 1 rfl),(hS.get 0 rfl)⟩)).freeze (R:=ad) 6 rfl 16 rfl).freeze (R:=aa) 6 rfl 18 rfl).freeze (R:=ar) 0 rfl 2 rfl).nilRow ac 44 (by decide);cases hM
  refine aE hS Tryz.results125 (a7 hS rfl 7 rfl ez rfl (fun h=>by cases h) (ap hS rfl (ap hS rfl (ap hS rfl (ap hS rfl aD))))) ?_;have hZ:=hS.sl [5,3,4,0] [3,2,1,0,15,16,17,18,19];exact⟨t,B,u,(.slice none 0 0),[],H,I,K,q,A,s,p,rfl,(hZ.get 0 rfl),(hZ.get 1 rfl),(hZ.get 2 rfl),(hZ.get 3 rfl),hZ.dnew,(hZ.get 4 rfl),(hZ.get 5 rfl),(hZ.get 6 rfl),(hZ.get 7 rfl),(hZ.get 8 rfl)⟩
 refine ah hS fun a hS=>?_;have m0:=df (R:=ar) hS 2 rfl o f;refine qy hS (bL (k:=3) hS yu 0 rfl o m0 rfl id (us:=[.int .i64 b.At]) rfl rfl (fun _=>rfl)) fun a hS=>?_;refine ah hS fun a hS=>?_;rcases cd hM with⟨m1,hM⟩|⟨m1,hM⟩
 ·refine ah hS fun a hS=>?_;replace hS:=((hS.freeze (R:=ad) 8 rfl 11 rfl).freeze (R:=aa) 8 rfl 13 rfl).freeze (R:=ac) 3 rfl 6 rfl;obtain⟨sn,hq,hM⟩:=bd hM;refine kc hS A1 (ov _ _ hS.dlt g ag false _ _ _ (hS.get 2 rfl) (hS.get 1 rfl) (hS.get 0 rfl) _ hq) fun _ w hR a hk hA=>?_;obtain⟨p0,r3,p1,r4,he,gu,h0,d3⟩:=hR;obtain rfl:=he.symm;have hS:=s7 hA gu h0 d3;refine go hS fun a w hS=>?_;replace hS:=(hS.freeze (R:=ac) 3 rfl 5 rfl).freeze (R:=aN.str) 3 rfl 7 rfl;replace hS:=(((hS.closeHs (R:=ar) 9 rfl f (⟨_,_,rfl,(hS.get 1 rfl),(hS.get 0 rfl)⟩)).freeze (R:=ad) 0 rfl 4 rfl).freeze (R:=aa) 0 rfl 4 rfl).freeze (R:=ar) 0 rfl 2 rfl;replace hS:=(hS.fS (el _ _ (hS.get 0 rfl))).nilRow ac 44 (by decide);cases hM
  refine aE hS Tryz.results125 (a7 hS rfl 6 rfl ez rfl (fun h=>by cases h) (ap hS rfl (ap hS rfl (ap hS rfl (ap hS rfl aD))))) ?_;have hZ:=hS.sl [4,2,3,0] [4,3,1,0,19,20,21,22,23];exact⟨p0,p1,a1,(.slice none 0 0),[],H,I,K,q,A,s,p,rfl,(hZ.get 0 rfl),(hZ.get 1 rfl),(hZ.get 2 rfl),(hZ.get 3 rfl),hZ.dnew,(hZ.get 4 rfl),(hZ.get 5 rfl),(hZ.get 6 rfl),(hZ.get 7 rfl),(hZ.get 8 rfl)⟩
 refine ah hS fun a hS=>?_;have m2:=df (R:=ar) hS 2 rfl o f;refine qy hS (bL (k:=3) hS yu 0 rfl o m2 rfl id (us:=[.int .i64 b.At]) rfl rfl (fun _=>rfl)) fun a hS=>?_;obtain⟨M,hf,hM⟩:=bd hM;refine wl rfl (cR (R:=eO) hS DO zF rfl rfl 4 rfl 5 rfl hf rfl fun pw s3 sc ra md ms n0 a hS=>?_);obtain rfl:=md;refine qy hS (bL (k:=0) hS zF 4 rfl ms n0 rfl id (us:=(Ab M)) rfl rfl (fun h=>by cases h)) fun a hS=>?_;refine ka hS Bw fun q0 s1 a w hk hS=>?_;refine go hS fun a w hS=>?_;refine az ?_;refine ah hS fun a hS=>?_;have hL:=hS;replace hL:=hL.freeze (R:=ad) 9 rfl 11 rfl;replace hL:=hL.freeze (R:=aa) 9 rfl 13 rfl;replace hL:=hL.freeze (R:=ac) 2 rfl 2 rfl;replace hL:=hL.freeze (R:=aN.str) 2 rfl 4 rfl;replace hL:=hL.closeHs (R:=ar) 6 rfl f (⟨_,_,rfl,(hL.get 1 rfl),(hL.get 0 rfl)⟩);replace hL:=hL.freeze (R:=ar) 1 rfl 0 rfl;obtain⟨sp,hs,hM⟩:=bd hM;refine kc hS FV (tI _ _ hL.dlt g D G M.Read _ _ _ _ (hL.get 5 rfl) (hL.get 4 rfl) (hL.get 0 rfl) (hL.get 9 rfl) _ hs) fun _ w hR a hk hA=>?_;obtain rfl:=hR;have hS:=bV hA;refine ah hS fun a hS=>?_;rcases cd hM with⟨n1,hM⟩|⟨n1,hM⟩
 ·refine ah hS fun a hS=>?_;refine az ?_;refine dr [(6,.blk (Value.ownBlock u)),(7,.blk (some L))] hS fun w hQ hS=>?_;refine dy (l:=[.blk (Value.ownBlock u)]) 0 (v:=.agg (aQ g t B).toArray) rfl (by kernel_rfl) (by kernel_rfl) (by kernel_rfl) (by kernel_rfl) hQ hS (dH hS rfl ez 11 rfl (ic hS 11 rfl rfl 1 rfl rfl (by decide) bo) (us:=(aQ g t B)) rfl rfl (fun h=>by cases h)) rfl rfl rfl fun a hS=>?_;refine gE [1,2,3] hS fun a hS=>?_;refine dy 4 (v:=.agg #[.int .i64 M.Read.Kind,.string M.Read.Text,.bool false,.int .i64 0,.slice none 0 0,.slice none 0 0]) rfl (by kernel_rfl) (by kernel_rfl) (by kernel_rfl) rfl hQ hS (bj (ps:=[(0,.tmp 218)]) hS Ds qo rfl (us:=[(aM M.Read)]) ⟨rfl,trivial⟩ (ws:=[.int .i64 M.Read.Kind,.string M.Read.Text,.bool false,.int .i64 0,.slice none 0 0,.slice none 0 0]) rfl) rfl rfl rfl fun a hS=>?_;refine e1 5 (aT (ps:=[(0,.tmp 219)]) hS xQ qo (zl:=[.int .i64 0,.string (ByteArray.mk #[]),.bool false,.int .i64 0,.slice none 0 0,.slice none 0 0]) (by kernel_rfl) rfl (us:=[[.int .i64 M.Read.Kind,.string M.Read.Text,.bool false,.int .i64 0,.slice none 0 0,.slice none 0 0]]) ⟨rfl,trivial⟩ (ws:=[.int .i64 M.Read.Kind,.string M.Read.Text,.bool false,.int .i64 0,.slice none 0 0,.slice none 0 0]) rfl rfl rfl rfl fun q1 a w hk hS=>⟨fc (hk),?_⟩);replace hS:=(hS.freeze (R:=ac) 3 rfl 0 rfl).freeze (R:=aN.str) 3 rfl 2 rfl;replace hS:=((hS.closeHs (R:=ar) 4 rfl f (⟨_,_,rfl,(hS.get 1 rfl),(hS.get 0 rfl)⟩)).lit (R:=ar) (us:=[.int .i64 M.Read.Kind,.string M.Read.Text,.bool false,.int .i64 0,.slice none 0 0,.slice none 0 0]) (xs:=[(bf.mk M.Read false 0 ([]) ([]))]) 0 rfl (by decide) (aB.one_ (R:=ar) (x:=(bf.mk M.Read false 0 ([]) ([]))) (⟨_,_,rfl,aA.nil_ _ _ _,aA.nil_ _ _ _⟩)) rfl rfl).freeze (R:=ar) 0 rfl 0 rfl;obtain⟨n2,hM⟩:=aS hM;refine e1 6 (bw (R:=ar) (xs:=D) (ys:=[(bf.mk M.Read false 0 ([]) ([]))]) hS xQ (by decide) (by decide) rfl rfl 1 rfl 2 rfl 0 rfl n2 rfl fun p2 rd a w hk hS=>⟨kB rfl hk kH,?_⟩);refine es 7 hS fun w hS=>?_;refine gE [8,9,10,11] hS fun a hS=>?_;refine eD ?_;refine ah hS fun a hS=>?_;replace hS:=(((hS.freeze (R:=ad) 7 rfl 17 rfl).freeze (R:=aa) 7 rfl 19 rfl).freeze (R:=ar) 1 rfl 2 rfl).nilRow ac 44 (by decide);cases hM
  refine aE hS Tryz.results125 (a7 hS rfl 8 rfl ez rfl (fun h=>by cases h) (ap hS rfl (ap hS rfl (ap hS rfl (ap hS rfl aD))))) ?_;have hZ:=hS.sl [6,4,5,0] [3,2,1,0,16,17,18,19,20];exact⟨t,B,p2,(.slice none 0 0),[],H,I,K,q,A,s,p,rfl,(hZ.get 0 rfl),(hZ.get 1 rfl),(hZ.get 2 rfl),(hZ.get 3 rfl),hZ.dnew,(hZ.get 4 rfl),(hZ.get 5 rfl),(hZ.get 6 rfl),(hZ.get 7 rfl),(hZ.get 8 rfl)⟩
 refine ah hS fun a hS=>?_;rcases cd hM with⟨n3,hM⟩|⟨n3,hM⟩
 ·refine go hS fun a w hS=>?_;replace hS:=(hS.freeze (R:=ac) 2 rfl 0 rfl).freeze (R:=aN.str) 2 rfl 2 rfl;replace hS:=((((hS.closeHs (R:=ar) 4 rfl f (⟨_,_,rfl,(hS.get 1 rfl),(hS.get 0 rfl)⟩)).freeze (R:=ad) 7 rfl 14 rfl).freeze (R:=aa) 7 rfl 16 rfl).freeze (R:=ar) 1 rfl 2 rfl).nilRow ac 44 (by decide);cases hM
  refine aE hS Tryz.results125 (a7 hS rfl 8 rfl ez rfl (fun h=>by cases h) (ap hS rfl (ap hS rfl (ap hS rfl (ap hS rfl aD))))) ?_;have hZ:=hS.sl [6,4,5,0] [3,2,1,0,13,14,15,16,17];exact⟨t,B,u,(.slice none 0 0),[],H,I,K,q,A,s,p,rfl,(hZ.get 0 rfl),(hZ.get 1 rfl),(hZ.get 2 rfl),(hZ.get 3 rfl),hZ.dnew,(hZ.get 4 rfl),(hZ.get 5 rfl),(hZ.get 6 rfl),(hZ.get 7 rfl),(hZ.get 8 rfl)⟩
 refine ah hS fun a hS=>?_;rcases cd hM with⟨n5,hM⟩|⟨n5,hM⟩
 ·refine go hS fun a w hS=>?_;replace hS:=(hS.freeze (R:=ac) 2 rfl 0 rfl).freeze (R:=aN.str) 2 rfl 2 rfl;replace hS:=((((hS.closeHs (R:=ar) 4 rfl f (⟨_,_,rfl,(hS.get 1 rfl),(hS.get 0 rfl)⟩)).freeze (R:=ad) 7 rfl 14 rfl).freeze (R:=aa) 7 rfl 16 rfl).freeze (R:=ar) 1 rfl 2 rfl).nilRow ac 44 (by decide);cases hM
  refine aE hS Tryz.results125 (a7 hS rfl 8 rfl ez rfl (fun h=>by cases h) (ap hS rfl (ap hS rfl (ap hS rfl (ap hS rfl aD))))) ?_;have hZ:=hS.sl [6,4,5,0] [3,2,1,0,13,14,15,16,17];exact⟨t,B,u,(.slice none 0 0),[],H,I,K,q,A,s,p,rfl,(hZ.get 0 rfl),(hZ.get 1 rfl),(hZ.get 2 rfl),(hZ.get 3 rfl),hZ.dnew,(hZ.get 4 rfl),(hZ.get 5 rfl),(hZ.get 6 rfl),(hZ.get 7 rfl),(hZ.get 8 rfl)⟩
 refine ah hS fun a hS=>?_;have hL:=hS;replace hL:=hL.freeze (R:=aa) 10 rfl 12 rfl;obtain⟨h8,ht,hM⟩:=bd hM;refine kc hS kD (bI _ _ hL.dlt g.Records M.Member _ (hL.get 0 rfl) _ ht) fun _ w hR a hk hA=>?_;obtain⟨p3,hW,he,⟨fd,f1,h1⟩⟩:=hR;obtain rfl:=he.symm;have hS:=hA [au p3 hW] (eA ⟨fd,by decide⟩ f1) (ro _);replace hS:=hS.fR h1;refine ah hS fun a hS=>?_;refine ka hS ft fun q2 s2 a w hk hS=>?_;refine go hS fun a w hS=>?_;refine az ?_;refine az ?_;refine dr [(4,.bks [some e,some m,some n])] hS fun w hQ hS=>?_;refine gE [0,1,2,3,5] hS fun a hS=>?_;refine dy (l:=[.bks [some e,some m,some n]]) 6 (v:=.int .i64 h8.1.Verified) rfl (by kernel_rfl) (by kernel_rfl) (by kernel_rfl) (by kernel_rfl) hQ hS (dH hS rfl yu 0 rfl (vI hS 0 rfl rfl [10,8,9] rfl rfl bo) (us:=[.int .i64 h8.1.Verified]) rfl rfl (fun _=>rfl)) rfl rfl rfl fun a hS=>?_;replace hS:=(hS.freeze (R:=ad) 11 rfl 12 rfl).freeze (R:=aa) 11 rfl 14 rfl;obtain⟨af,hn,hM⟩:=bd hM;replace hS:=hS.re [10,8,9] [0,1,2,3,4,5,6,7,11,12];refine e1 4 (cu hS Iy rfl rfl (ym _ _ hS.dltD vrec hvrec d g M.Read _ _ _ _ _ _ _ _ _ _ _ _ hS.dok (hS.getD 9 rfl) (hS.getD 10 rfl) (hS.getD 11 rfl) (hS.getD 12 rfl) (hS.getD 13 rfl) (hS.getD 1 rfl) (hS.getD 0 rfl) (hS.getD 16 rfl) _ hn) fun _ w hR a hk hA=>⟨kB rfl hk (yX rfl rfl),?_⟩);obtain⟨cl,co,cv,bs,e3,bt,e4,he,n6,h2,h3,h4,fr,fs⟩:=hR;obtain rfl:=he.symm;have hS:=hA _ n6;replace hS:=((((hS.fS (h2.sub (aw _))).fS (h3.sub (aw _))).fS (h4.sub (aw _))).fM (fr.keep (Kt.refl _ _) (aw _))).fM (fs.keep (Kt.refl _ _) (aw _));refine gE [7] hS fun a hS=>?_;refine eD ?_;refine ah hS fun a hS=>?_;rcases cd hM with⟨nd,hM⟩|⟨nd,hM⟩
 ·refine ah hS fun a hS=>?_;have ng:=df (R:=ar) hS 10 rfl o f;refine qy hS (bL (k:=3) hS yu 6 rfl o ng rfl id (us:=[.int .i64 b.At]) rfl rfl (fun _=>rfl)) fun a hS=>?_;refine ah hS fun a hS=>?_;refine wl rfl (mY (R:=ar) (k:=3) (cs:=(kr b z C)) (us:=[.int .i64 (IntKind.i64.wrap (b.At + 1))]) hS rfl rfl rfl yu 6 rfl 10 rfl o f rfl rfl (oc rfl on) fun rg w hk hS=>?_);refine go hS fun a w hS=>?_;replace hS:=(hS.freeze (R:=ac) 7 rfl 9 rfl).freeze (R:=aN.str) 7 rfl 11 rfl;replace hS:=((hS.closeH (R:=ar) (x':=(bf.mk b.Key b.Running (IntKind.i64.wrap (b.At + 1)) b.Reads b.Answers)) 2 rfl (⟨_,_,rfl,(hS.get 1 rfl),(hS.get 0 rfl)⟩)).freeze (R:=ar) 6 rfl 0 rfl).nilRow ac 44 (by decide);cases hM
  refine aE hS Tryz.results125 (a7 hS rfl 10 rfl ez rfl (fun h=>by cases h) (ap hS rfl (ap hS rfl (ap hS rfl (ap hS rfl aD))))) ?_;have hZ:=hS.sl [1,2,3,0] [12,11,1,0,10,9,8,7,6];exact⟨t,B,u,(.slice none 0 0),[],cl,co,cv,bs,e3,bt,e4,rfl,(hZ.get 0 rfl),(hZ.get 1 rfl),(hZ.get 2 rfl),(hZ.get 3 rfl),hZ.dnew,(hZ.get 4 rfl),(hZ.get 5 rfl),(hZ.get 6 rfl),(hZ.get 7 rfl),(hZ.get 8 rfl)⟩
 refine ah hS fun a hS=>?_;refine aG (J:=fun a w=>∃ (d4:Int) (d6:LI) (da:LR) (e5:LV) (d0:Value) (d1:Value),St W0 (MD [xS e H d.Base.Revision I K m n,om m q A,om n s p]) T 271 [(2,u),(5,pt P 0),(8,pt L 0),(13,pt ak av)] [cX u e5,au z Q,.own C 9 aN.str.size O,.box P [.int .i64 d4,d0,d1] 31,.box L [.int .i64 0,.slice none 0 0,.slice none 0 0] 31,om m bs e3,om n bt e4,xS e cl af.2.Base.Revision co cv m n] [am ac Q b.Reads,am aN.str O b.Answers,am (HR ar) e5 (eb D (IntKind.i64.wrap ((D.length:Int) - 1)) (kr b z C)),aJ ad d0 d6,aJ aa d1 da,aJ ay cl af.2.Rules,aJ ad co af.2.Base.Inputs,aJ aa cv af.2.Base.Records,iv bs af.2.Memo,po bt af.2.Seen,bv] a w∧lu D b af d4 d6 da=some y) ?_ ?_
 ·skip;refine ah hS fun a hS=>?_;have nl:=df (R:=ar) hS 10 rfl o f;refine qy hS (bL (k:=0) hS dd 6 rfl o nl rfl id (us:=(aM b.Key)) rfl rfl (fun h=>by cases h)) fun a hS=>?_;obtain⟨sq,hu,hM⟩:=bd hM;refine kc hS tW (cm _ _ hS.dlt b.Key _ hu) fun _ w hR a hk hA=>?_;obtain rfl:=hR;have hS:=bV hA;refine ah hS fun a hS=>?_;rcases cd hM with⟨nm,hM⟩|⟨nm,hM⟩
  ·refine ah hS fun a hS=>?_;replace hS:=hS.freeze (R:=ac) 9 rfl 12 rfl;obtain⟨st,hv,hM⟩:=bd hM;refine kc hS A1 (ov _ _ hS.dlt g ag true _ _ _ (hS.get 7 rfl) (hS.get 6 rfl) (hS.get 0 rfl) _ hv) fun _ w hR a hk hA=>?_;obtain⟨t0,rl,t1,rm,he,h5,h6,d3⟩:=hR;obtain rfl:=he.symm;have hS:=s7 hA h5 h6 d3;refine go hS fun a w hS=>?_;replace hS:=(hS.freeze (R:=ad) 0 rfl 1 rfl).freeze (R:=aa) 0 rfl 1 rfl;exact⟨_,_,_,_,_,_,hS.mt [6,7,8,10,11,1,2,0] [13,14,15,1,0,9,8,7,6,5,26],hM⟩
  exact fz
 rintro a w ⟨d4,d6,da,e5,d0,d1,hS,hM⟩;unfold lu at hM;refine ah hS fun a hS=>?_;refine wl rfl (mY (R:=ar) (k:=2) (cs:=(kr b z C)) (us:=[.bool true]) hS rfl rfl rfl HM 0 rfl 2 rfl o f rfl rfl (oc rfl on) fun rr w hk hS=>?_);refine ah hS fun a hS=>?_;refine wl rfl (mY (R:=ar) (k:=3) (cs:=[.int .i64 b.Key.Kind,.string b.Key.Text,.bool true,.int .i64 b.At,z,C]) (us:=[.int .i64 0]) hS rfl rfl rfl yu 0 rfl 0 rfl o f rfl rfl (oc rfl on) fun rs w hk hS=>?_);refine go hS fun a w hS=>?_;replace hS:=(hS.freeze (R:=ac) 1 rfl 2 rfl).freeze (R:=aN.str) 1 rfl 4 rfl;replace hS:=((hS.closeH (R:=ar) (x':=(bf.mk b.Key true 0 b.Reads b.Answers)) 2 rfl (⟨_,_,rfl,(hS.get 1 rfl),(hS.get 0 rfl)⟩)).freeze (R:=ar) 0 rfl 0 rfl).nilRow ac 44 (by decide);cases hM
 refine aE hS Tryz.results125 (a7 hS rfl 2 rfl ez rfl (fun h=>by cases h) (ap hS rfl (ap hS rfl (ap hS rfl (ap hS rfl aD))))) ?_;have hZ:=hS.sl [5,3,4,0] [10,11,1,0,12,13,14,15,16];exact⟨d0,d1,u,(.slice none 0 0),[],cl,co,cv,bs,e3,bt,e4,rfl,(hZ.get 0 rfl),(hZ.get 1 rfl),(hZ.get 2 rfl),(hZ.get 3 rfl),hZ.dnew,(hZ.get 4 rfl),(hZ.get 5 rfl),(hZ.get 6 rfl),(hZ.get 7 rfl),(hZ.get 8 rfl)⟩
def nC (e:al) (b:cG) (c:LK) (d:LF):Option (cG×Bool×Int×al):=some (((cG.mk b.Rules b.Base c d b.Ran),true,0,e))
def pd (vrec:al→ae→Option (ByteArray×al)) (d:al) (h:cG):Option (cG×Bool×Int×al):=(lF h).bind fun c=>cond ((c.Stack.length:Int) == 0) (cond ((c.Goals.length:Int) == 0) (some ((c,false,0,d))) ((be c.Goals 0).bind fun e=>(oz c.Goals 1 c.Goals.length).bind fun f=>(ko c.Base ([]) e).bind fun g=>cond g (nC d c f ([(bf.mk e false 0 ([]) ([]))])) (nC d c f c.Stack))) ((mD vrec d c.Base c.Stack ([])).bind fun b=>cond ((b.2.2.2.2.1:Int) != 0) (some ((c,false,b.2.2.2.2.1,(al.mk b.2.2.2.2.2.Rules (ai.mk b.2.2.2.2.2.Base.Revision b.2.2.2.2.2.Base.Inputs b.2.2.2.2.2.Base.Records) b.2.2.2.2.2.Memo b.2.2.2.2.2.Seen)))) (gd (br (c.Ran.length + b.2.2.1.length)) <| some (((cG.mk c.Rules (ai.mk b.1.Revision b.1.Inputs b.1.Records) c.Goals b.2.1 (c.Ran ++ b.2.2.1)),b.2.2.2.1,0,(al.mk b.2.2.2.2.2.Rules (ai.mk b.2.2.2.2.2.Base.Revision b.2.2.2.2.2.Base.Inputs b.2.2.2.2.2.Base.Records) b.2.2.2.2.2.Memo b.2.2.2.2.2.Seen)))))
theorem yn (T:Nat→Prop) (W0:World) (hT:TW T W0) (vrec:al→ae→Option (ByteArray×al)) (hvrec:lJ vrec) (f:al) (I:cG) (c9:Value) (ca:Value) (cb:Value) (ch:Value) (ck:Value) (cl:Value) (b:Nat) (z:Value) (A:Value) (B:Value) (d:Nat) (i:Array MapEntry) (m:Nat) (e:Nat) (j:Array MapEntry) (g:Nat) (hD:vd T W0 [xS b z f.Base.Revision A B d e,om d i m,om e j g]) (et:aA ay (dT T [xS b z f.Base.Revision A B d e,om d i m,om e j g]) W0 z f.Rules) (ex:aA ad (dT T [xS b z f.Base.Revision A B d e,om d i m,om e j g]) W0 A f.Base.Inputs) (eT:aA aa (dT T [xS b z f.Base.Revision A B d e,om d i m,om e j g]) W0 B f.Base.Records) (eq:bx ac true aN.str false (dT T [xS b z f.Base.Revision A B d e,om d i m,om e j g]) W0 i f.Memo) (er:bx ac true (aN.slice ac) false (dT T [xS b z f.Base.Revision A B d e,om d i m,om e j g]) W0 j f.Seen) (e4:aA ay (dT T [xS b z f.Base.Revision A B d e,om d i m,om e j g]) W0 c9 I.Rules) (e5:aA ad (dT T [xS b z f.Base.Revision A B d e,om d i m,om e j g]) W0 ca I.Base.Inputs) (e8:aA aa (dT T [xS b z f.Base.Revision A B d e,om d i m,om e j g]) W0 cb I.Base.Records) (ea:aA ac (dT T [xS b z f.Base.Revision A B d e,om d i m,om e j g]) W0 ch I.Goals) (ed:aA ar (dT T [xS b z f.Base.Revision A B d e,om d i m,om e j g]) W0 ck I.Stack) (eg:aA ac (dT T [xS b z f.Base.Revision A B d e,om d i m,om e j g]) W0 cl I.Ran) (hLv:cU (dT T [xS b z f.Base.Revision A B d e,om d i m,om e j g]) W0) (y:cG×Bool×Int×al) (hM:pd vrec f I=some y):aW Tryz.prog (MD [xS b z f.Base.Revision A B d e,om d i m,om e j g]) 89 [pt b 0,.agg (sr I c9 ca cb ch ck cl).toArray] W0 (fun v w'=>∃ (C:Value) (n:List Value) (co:Value) (cs:Value) (cv:Value) (d0:Value) (D:Value) (o:List Value) (E:Value) (F:Value) (G:Value) (q:Array MapEntry) (s:Nat) (r:Array MapEntry) (t:Nat),v = .tuple #[.agg (sr y.1 C co cs cv d0 D).toArray,.bool y.2.1,.int .i64 y.2.2.1]∧aB ay (dT T [xS b E y.2.2.2.Base.Revision F G d e,om d q s,om e r t,bJ C n,au D o]) w' n y.1.Rules∧aA ad (dT T [xS b E y.2.2.2.Base.Revision F G d e,om d q s,om e r t,bJ C n,au D o]) w' co y.1.Base.Inputs∧aA aa (dT T [xS b E y.2.2.2.Base.Revision F G d e,om d q s,om e r t,bJ C n,au D o]) w' cs y.1.Base.Records∧aA ac (dT T [xS b E y.2.2.2.Base.Revision F G d e,om d q s,om e r t,bJ C n,au D o]) w' cv y.1.Goals∧aA ar (dT T [xS b E y.2.2.2.Base.Revision F G d e,om d q s,om e r t,bJ C n,au D o]) w' d0 y.1.Stack∧aB ac (dT T [xS b E y.2.2.2.Base.Revision F G d e,om d q s,om e r t,bJ C n,au D o]) w' o y.1.Ran∧n7 W0 w' [xS b z f.Base.Revision A B d e,om d i m,om e j g] [xS b E y.2.2.2.Base.Revision F G d e,om d q s,om e r t,bJ C n,au D o]∧aA ay (dT T [xS b E y.2.2.2.Base.Revision F G d e,om d q s,om e r t,bJ C n,au D o]) w' E y.2.2.2.Rules∧aA ad (dT T [xS b E y.2.2.2.Base.Revision F G d e,om d q s,om e r t,bJ C n,au D o]) w' F y.2.2.2.Base.Inputs∧aA aa (dT T [xS b E y.2.2.2.Base.Revision F G d e,om d q s,om e r t,bJ C n,au D o]) w' G y.2.2.2.Base.Records∧bx ac true aN.str false (dT T [xS b E y.2.2.2.Base.Revision F G d e,om d q s,om e r t,bJ C n,au D o]) w' q y.2.2.2.Memo∧bx ac true (aN.slice ac) false (dT T [xS b E y.2.2.2.Base.Revision F G d e,om d q s,om e r t,bJ C n,au D o]) w' r y.2.2.2.Seen):=by
 refine jp (c:=_) Tryz.func89 rfl T 68 Tryz.ntmps89 hT rfl hD fun a hS=>?_;replace hS:=(((((((((((hS.fact bv hLv).fS e4).fS e5).fS e8).fS ea).fS ed).fS eg).fS et).fS ex).fS eT).fM eq).fM er;unfold pd at hM;refine ah hS fun a hS=>?_;refine kb hS fun M fn a w hk hS=>?_;refine ka hS wH fun a0 fr a w hk hS=>?_;refine ah hS fun a hS=>?_;obtain⟨u,c3,hM⟩:=bd hM;replace hS:=hS.re [] [0,1,2,3,4];refine wl rfl (cu hS GA rfl rfl (qG _ _ hS.dltD I _ _ _ _ _ _ hS.dok (hS.getD 10 rfl) (hS.getD 9 rfl) (hS.getD 8 rfl) (hS.getD 7 rfl) (hS.getD 6 rfl) (hS.getD 5 rfl) _ c3) fun _ w hR a hk hA=>?_);obtain⟨L,K,O,a1,P,a2,X,f4,bl,f6,H,N,he,ag,ak,ao,av,ax,b0,d2⟩:=hR;obtain rfl:=he.symm;have hS:=hA _ d2;replace hS:=(((((hS.fR (ag.keep (Kt.refl _ _) (aw _))).fR (ak.keep (Kt.refl _ _) (aw _))).fR (ao.keep (Kt.refl _ _) (aw _))).fR (av.keep (Kt.refl _ _) (aw _))).fR (ax.keep (Kt.refl _ _) (aw _))).fR (b0.keep (Kt.refl _ _) (aw _));refine go hS fun a w hS=>?_;refine az ?_;refine ah hS fun a hS=>?_;rcases cd hM with⟨d3,hM⟩|⟨d3,hM⟩
 ·refine ah hS fun a hS=>?_;refine az ?_;refine ah hS fun a hS=>?_;rcases cd hM with⟨d4,hM⟩|⟨d4,hM⟩
  ·refine go hS fun a w hS=>?_;replace hS:=(((hS.freeze (R:=ad) 1 rfl 4 rfl).freeze (R:=aa) 1 rfl 4 rfl).freeze (R:=ac) 1 rfl 4 rfl).freeze (R:=ar) 1 rfl 4 rfl;cases hM
   refine aE hS Tryz.results89 (a7 hS rfl 2 rfl uw rfl (fun h=>by cases h) (ap hS rfl (ap hS rfl aD))) ?_;have hZ:=hS.sl [4,5,6,0,1] [9,3,2,1,0,4,14,13,12,11,10];exact⟨L,K,O,P,X,bl,H,N,z,A,B,i,m,j,g,rfl,(hZ.get 0 rfl),(hZ.get 1 rfl),(hZ.get 2 rfl),(hZ.get 3 rfl),(hZ.get 4 rfl),(hZ.get 5 rfl),hZ.dnew,(hZ.get 6 rfl),(hZ.get 7 rfl),(hZ.get 8 rfl),(hZ.get 9 rfl),(hZ.get 10 rfl)⟩
  refine ah hS fun a hS=>?_;obtain⟨p,c1,hM⟩:=bd hM;refine wl rfl (cR (R:=ac) hS jd dd rfl rfl 3 rfl 2 rfl c1 rfl fun eX g1 g2 fd d6 da dc a hS=>?_);obtain rfl:=d6;refine qy hS (bL (k:=0) hS dd 3 rfl da dc rfl id (us:=(aM p)) rfl rfl (fun h=>by cases h)) fun a hS=>?_;refine ka hS gh fun f1 fs a w hk hS=>?_;refine go hS fun a w hS=>?_;obtain⟨bi,c2,hM⟩:=bd hM;obtain⟨Q,dk,dl⟩:=vD (R:=ac) hS jd dd 4 rfl 2 rfl c2;refine wl rfl (ky (v:=Q) hS (dl (k2:=.i64) rfl (.inl ⟨_,rfl,rfl⟩) (.inr ⟨rfl,rfl⟩)) rfl rfl fun a hS=>?_);refine ah hS fun a hS=>?_;replace hS:=hS.freeze (R:=ac) 4 rfl 2 rfl;replace hS:=hS.fS (dk _ _ (hS.get 0 rfl));refine go hS fun a w hS=>?_;refine aG (J:=fun a w=>∃ (V:LF) (S:Value) (U:LV),St W0 (MD [xS b z f.Base.Revision A B d e,om d i m,om e j g]) T 68 [(3,pt M 0),(4,pt a0 0)] [bJ L K,aR O a1,aH P a2,cX S U,au H N,.box M (sr u L O P Q S H) 97,.box a0 [.slice none 0 0,.int .i64 0,.slice none 0 0,.slice none 0 0,.slice none 0 0,.slice none 0 0,.slice none 0 0] 97,om d i m,om e j g,xS b z f.Base.Revision A B d e] [am ay K u.Rules,am ad a1 u.Base.Inputs,am aa a2 u.Base.Records,aJ ac Q bi,am ar U V,am ac N u.Ran,aJ ay z f.Rules,aJ ad A f.Base.Inputs,aJ aa B f.Base.Records,iv i f.Memo,po j f.Seen,bv] a w∧nC f u bi V=some y) ?_ ?_
  ·skip;refine ah hS fun a hS=>?_;have hL:=hS;replace hL:=hL.freeze (R:=ad) 2 rfl 6 rfl;replace hL:=hL.freeze (R:=aa) 2 rfl 6 rfl;replace hL:=hL.fact (aJ ar (.slice none 0 0) []) (aA.nil_ _ _ _);obtain⟨g3,c4,hM⟩:=bd hM;refine kc hS FP (rG _ _ hL.dlt u.Base ([]) p _ _ _ (hL.get 2 rfl) (hL.get 1 rfl) (hL.get 0 rfl) _ c4) fun _ w hR a hk hA=>?_;obtain rfl:=hR;have hS:=bV hA;refine ah hS fun a hS=>?_;rcases cd hM with⟨dn,hM⟩|⟨dn,hM⟩
   ·refine ah hS fun a hS=>?_;refine qy hS (bj (ps:=[(0,.tmp 36)]) hS Ds qo rfl (us:=[(aM p)]) ⟨rfl,trivial⟩ (ws:=[.int .i64 p.Kind,.string p.Text,.bool false,.int .i64 0,.slice none 0 0,.slice none 0 0]) rfl) fun a hS=>?_;refine wl rfl (aT (ps:=[(0,.tmp 37)]) hS xQ qo (zl:=[.int .i64 0,.string (ByteArray.mk #[]),.bool false,.int .i64 0,.slice none 0 0,.slice none 0 0]) (by kernel_rfl) rfl (us:=[[.int .i64 p.Kind,.string p.Text,.bool false,.int .i64 0,.slice none 0 0,.slice none 0 0]]) ⟨rfl,trivial⟩ (ws:=[.int .i64 p.Kind,.string p.Text,.bool false,.int .i64 0,.slice none 0 0,.slice none 0 0]) rfl rfl rfl rfl fun f2 a w hk hS=>?_);refine ah hS fun a hS=>?_;replace hS:=hS.lit (R:=ar) (us:=[.int .i64 p.Kind,.string p.Text,.bool false,.int .i64 0,.slice none 0 0,.slice none 0 0]) (xs:=[(bf.mk p false 0 ([]) ([]))]) 0 rfl (by decide) (aB.one_ (R:=ar) (x:=(bf.mk p false 0 ([]) ([]))) (⟨_,_,rfl,aA.nil_ _ _ _,aA.nil_ _ _ _⟩)) rfl rfl;exact fz
   exact fz
  rintro a w ⟨V,S,U,hS,hM⟩;unfold nC at hM;refine go hS fun a w hS=>?_;replace hS:=((hS.freeze (R:=ad) 1 rfl 1 rfl).freeze (R:=aa) 1 rfl 3 rfl).freeze (R:=ar) 1 rfl 6 rfl;cases hM
  refine aE hS Tryz.results89 (a7 hS rfl 3 rfl uw rfl (fun h=>by cases h) (ap hS rfl (ap hS rfl aD))) ?_;have hZ:=hS.sl [6,4,5,0,1] [3,2,1,6,0,8,9,10,11,12,13];exact⟨L,K,O,P,Q,S,H,N,z,A,B,i,m,j,g,rfl,(hZ.get 0 rfl),(hZ.get 1 rfl),(hZ.get 2 rfl),(hZ.get 3 rfl),(hZ.get 4 rfl),(hZ.get 5 rfl),hZ.dnew,(hZ.get 6 rfl),(hZ.get 7 rfl),(hZ.get 8 rfl),(hZ.get 9 rfl),(hZ.get 10 rfl)⟩
 refine ah hS fun a hS=>?_;replace hS:=(((hS.freeze (R:=ad) 1 rfl 4 rfl).freeze (R:=aa) 1 rfl 4 rfl).freeze (R:=ar) 2 rfl 3 rfl).fact (aJ ar (.slice none 0 0) []) (aA.nil_ _ _ _);obtain⟨W,c5,hM⟩:=bd hM;replace hS:=hS.re [5,6,7] [0,1,2,3,4];refine wl rfl (cu hS Il rfl rfl (wb _ _ hS.dltD vrec hvrec f u.Base u.Stack ([]) _ _ _ _ _ _ _ _ _ _ _ _ _ _ hS.dok (hS.getD 14 rfl) (hS.getD 13 rfl) (hS.getD 12 rfl) (hS.getD 11 rfl) (hS.getD 10 rfl) (hS.getD 3 rfl) (hS.getD 2 rfl) (hS.getD 1 rfl) (hS.getD 0 rfl) (hS.getD 21 rfl) _ c5) fun _ w hR a hk hA=>?_);obtain⟨Y,Z,el,g4,fl,bs,bt,c0,a5,a3,a9,a4,he,b1,b2,b3,b4,ds,b6,b9,bb,ab,af⟩:=hR;obtain rfl:=he.symm;have hS:=hA _ ds;replace hS:=((((((((hS.fR (b4.keep (Kt.refl _ _) (aw _))).fS (b1.sub (aw _))).fS (b2.sub (aw _))).fS (b3.sub (aw _))).fS (b6.sub (aw _))).fS (b9.sub (aw _))).fS (bb.sub (aw _))).fM (ab.keep (Kt.refl _ _) (aw _))).fM (af.keep (Kt.refl _ _) (aw _));refine ah hS fun a hS=>?_;refine ka hS l4 fun f3 g0 a w hk hS=>?_;refine go hS fun a w hS=>?_;refine az ?_;refine ah hS fun a hS=>?_;rcases cd hM with⟨e2,hM⟩|⟨e2,hM⟩
 ·refine go hS fun a w hS=>?_;replace hS:=hS.freeze (R:=ac) 6 rfl 15 rfl;cases hM
  refine aE hS Tryz.results89 (a7 hS rfl 7 rfl uw rfl (fun h=>by cases h) (ap hS rfl (ap hS rfl aD))) ?_;have hZ:=hS.sl [1,2,3,5,6] [19,13,12,0,11,14,5,4,3,2,1];exact⟨L,K,O,P,X,bl,H,N,bs,bt,c0,a5,a3,a9,a4,rfl,(hZ.get 0 rfl),(hZ.get 1 rfl),(hZ.get 2 rfl),(hZ.get 3 rfl),(hZ.get 4 rfl),(hZ.get 5 rfl),hZ.dnew,(hZ.get 6 rfl),(hZ.get 7 rfl),(hZ.get 8 rfl),(hZ.get 9 rfl),(hZ.get 10 rfl)⟩
 refine ah hS fun a hS=>?_;refine az ?_;refine dr [(5,.blk (Value.ownBlock H)),(7,.blk (some M)),(9,.blk (some M)),(11,.blk (some M))] hS fun w hQ hS=>?_;refine dy (l:=[.blk (Value.ownBlock H)]) 0 (v:=.agg (aQ W.1 Y Z).toArray) rfl (by kernel_rfl) (by kernel_rfl) (by kernel_rfl) (by kernel_rfl) hQ hS (dH hS rfl ez 0 rfl (ic hS 0 rfl rfl 7 rfl rfl (by decide) bo) (us:=(aQ W.1 Y Z)) rfl rfl (fun h=>by cases h)) rfl rfl rfl fun a hS=>?_;refine gE [1,2,3,4,6] hS fun a hS=>?_;replace hS:=hS.freeze (R:=ac) 4 rfl 8 rfl;obtain⟨e3,hM⟩:=aS hM;refine e1 5 (bw (R:=ac) (xs:=u.Ran) (ys:=W.2.2.1) hS gm (by decide) (by decide) rfl rfl 6 rfl 14 rfl 0 rfl e3 rfl fun em d1 a w hk hS=>⟨kB rfl hk kH,?_⟩);refine es 7 hS fun w hS=>?_;refine gE [8] hS fun a hS=>?_;refine es 9 hS fun w hS=>?_;refine gE [10] hS fun a hS=>?_;refine es 11 hS fun w hS=>?_;refine eD ?_;refine go hS fun a w hS=>?_;replace hS:=hS.freeze (R:=ac) 5 rfl 17 rfl;cases hM
 refine aE hS Tryz.results89 (a7 hS rfl 6 rfl uw rfl (fun h=>by cases h) (ap hS rfl (ap hS rfl aD))) ?_;have hZ:=hS.sl [1,2,3,4,5] [21,10,9,0,8,1,7,6,5,4,3];exact⟨L,K,Y,Z,X,el,em,d1,bs,bt,c0,a5,a3,a9,a4,rfl,(hZ.get 0 rfl),(hZ.get 1 rfl),(hZ.get 2 rfl),(hZ.get 3 rfl),(hZ.get 4 rfl),(hZ.get 5 rfl),hZ.dnew,(hZ.get 6 rfl),(hZ.get 7 rfl),(hZ.get 8 rfl),(hZ.get 9 rfl),(hZ.get 10 rfl)⟩
def qH (b:Int) (c:LU) (d:Int) (e:LI) (f:LR) (g:LK) (h:LF) (i:LK):Option (cG×Int×Int):=some (((cG.mk c (ai.mk d e f) g h i),b,0))
def ow (vrec:al→ae→Option (ByteArray×al)) (k:Int) (c:Int) (d:LU) (e:Int) (f:LI) (g:LR) (h:LK) (i:LF) (j:LK) (l:LU) (m:Int) (n:LI) (o:LR) (p:LB) (q:LL):Option (Fl (Int×LU×Int×LI×LR×LK×LF×LK×LU×Int×LI×LR×LB×LL) (Fl (Int×LU×Int×LI×LR×LK×LF×LK) (cG×Int×Int))):=cond (decide ((c:Int) < k)) ((pd vrec (al.mk l (ai.mk m n o) p q) (cG.mk d (ai.mk e f g) h i j)).bind fun b=>cond ((b.2.2.1:Int) != 0) (some (.out (.out ((cG.mk d (ai.mk e f g) h i j),c,b.2.2.1)))) (cond (!(b.2.1)) (some (.out (.out ((cG.mk b.1.Rules (ai.mk b.1.Base.Revision b.1.Base.Inputs b.1.Base.Records) b.1.Goals b.1.Stack b.1.Ran),c,0)))) (some (.go (IntKind.i64.wrap (c + 1),b.1.Rules,b.1.Base.Revision,b.1.Base.Inputs,b.1.Base.Records,b.1.Goals,b.1.Stack,b.1.Ran,b.2.2.2.Rules,b.2.2.2.Base.Revision,b.2.2.2.Base.Inputs,b.2.2.2.Base.Records,b.2.2.2.Memo,b.2.2.2.Seen))))) (some (.out (.go (c,d,e,f,g,h,i,j))))
def qh (vrec:al→ae→Option (ByteArray×al)) (f:cG) (d:Int):Option (cG×Int×Int):=(lF f).bind fun b=>cond (decide ((d:Int)≤0)) (some ((b,0,0))) ((nT b).bind fun e=>cond (!(e)) (some ((b,0,44))) ((r6 b.Rules b.Base).bind fun c=>(loop (fun s:Int×LU×Int×LI×LR×LK×LF×LK×LU×Int×LI×LR×LB×LL=>ow vrec d s.1 s.2.1 s.2.2.1 s.2.2.2.1 s.2.2.2.2.1 s.2.2.2.2.2.1 s.2.2.2.2.2.2.1 s.2.2.2.2.2.2.2.1 s.2.2.2.2.2.2.2.2.1 s.2.2.2.2.2.2.2.2.2.1 s.2.2.2.2.2.2.2.2.2.2.1 s.2.2.2.2.2.2.2.2.2.2.2.1 s.2.2.2.2.2.2.2.2.2.2.2.2.1 s.2.2.2.2.2.2.2.2.2.2.2.2.2) (0,b.Rules,b.Base.Revision,b.Base.Inputs,b.Base.Records,b.Goals,b.Stack,b.Ran,c.Rules,c.Base.Revision,c.Base.Inputs,c.Base.Records,c.Memo,c.Seen)).bind fun r=>Fl.el r (fun s=>qH s.1 s.2.1 s.2.2.1 s.2.2.2.1 s.2.2.2.2.1 s.2.2.2.2.2.1 s.2.2.2.2.2.2.1 s.2.2.2.2.2.2.2) (fun y=>some (y))))
theorem zv (T:Nat→Prop) (W0:World) (hT:TW T W0) (hLv:cU T W0) (vrec:al→ae→Option (ByteArray×al)) (hvrec:lJ vrec) (b:cG) (c:Int) (v1:Value) (v2:Value) (v3:Value) (v4:Value) (v5:Value) (v6:Value) (e8:aA ay T W0 v1 b.Rules) (ea:aA ad T W0 v2 b.Base.Inputs) (ed:aA aa T W0 v3 b.Base.Records) (eg:aA ac T W0 v4 b.Goals) (el:aA ar T W0 v5 b.Stack) (em:aA ac T W0 v6 b.Ran) (y:cG×Int×Int) (hM:qh vrec b c=some y):aW Tryz.prog No 57 [.agg (sr b v1 v2 v3 v4 v5 v6).toArray,.int .i64 c] W0 (fun v w'=>∃ (v7:Value) (v8:Value) (v9:Value) (co:Value) (cs:Value) (cv:Value),v = .tuple #[.agg (sr y.1 v7 v8 v9 co cs cv).toArray,.int .i64 y.2.1,.int .i64 y.2.2]∧aA ay (dT T []) w' v7 y.1.Rules∧aA ad (dT T []) w' v8 y.1.Base.Inputs∧aA aa (dT T []) w' v9 y.1.Base.Records∧aA ac (dT T []) w' co y.1.Goals∧aA ar (dT T []) w' cs y.1.Stack∧aA ac (dT T []) w' cv y.1.Ran):=by
 refine en Tryz.func57 Tryz.ntmps57 hT fun a hS=>?_;replace hS:=((((((hS.fact bv (cU.dn hLv)).fS (aA.dn e8)).fS (aA.dn ea)).fS (aA.dn ed)).fS (aA.dn eg)).fS (aA.dn el)).fS (aA.dn em);unfold qh at hM;refine ah hS fun a hS=>?_;refine kb hS fun r gs a w hk hS=>?_;refine ka hS wH fun t gu a w hk hS=>?_;refine ah hS fun a hS=>?_;obtain⟨Z,ch,hM⟩:=bd hM;replace hS:=hS.re [] [0,1];refine wl rfl (cu hS GA rfl rfl (qG _ _ hS.dltD b _ _ _ _ _ _ hS.dok (hS.getD 5 rfl) (hS.getD 4 rfl) (hS.getD 3 rfl) (hS.getD 2 rfl) (hS.getD 1 rfl) (hS.getD 0 rfl) _ ch) fun _ w hR a hk hA=>?_);obtain⟨c2,fd,c3,fl,c4,fn,c5,fr,c9,fs,ca,g0,he,av,ax,b0,b1,b2,b3,d0⟩:=hR;obtain rfl:=he.symm;have hS:=hA _ d0;replace hS:=(((((hS.fR (av.keep (Kt.refl _ _) (aw _))).fR (ax.keep (Kt.refl _ _) (aw _))).fR (b0.keep (Kt.refl _ _) (aw _))).fR (b1.keep (Kt.refl _ _) (aw _))).fR (b2.keep (Kt.refl _ _) (aw _))).fR (b3.keep (Kt.refl _ _) (aw _));refine go hS fun a w hS=>?_;refine az ?_;refine ah hS fun a hS=>?_;rcases cd hM with⟨d1,hM⟩|⟨d1,hM⟩
 ·refine go hS fun a w hS=>?_;replace hS:=(((((hS.freeze (R:=ay) 0 rfl 5 rfl).freeze (R:=ad) 0 rfl 5 rfl).freeze (R:=aa) 0 rfl 5 rfl).freeze (R:=ac) 0 rfl 5 rfl).freeze (R:=ar) 0 rfl 5 rfl).freeze (R:=ac) 0 rfl 5 rfl;cases hM
  refine aE hS Tryz.results57 (a7 hS rfl 0 rfl uw rfl (fun h=>by cases h) (ap hS rfl (ap hS rfl aD))) ?_;exact⟨c2,c3,c4,c5,c9,ca,rfl,(aA.up trivial (hS.get 5 rfl)),(aA.up trivial (hS.get 4 rfl)),(aA.up trivial (hS.get 3 rfl)),(aA.up trivial (hS.get 2 rfl)),(aA.up trivial (hS.get 1 rfl)),(aA.up trivial (hS.get 0 rfl))⟩
 refine ah hS fun a hS=>?_;refine az ?_;refine ah hS fun a hS=>?_;have hL:=hS;replace hL:=hL.freeze (R:=ay) 0 rfl 5 rfl;replace hL:=hL.freeze (R:=ad) 0 rfl 5 rfl;replace hL:=hL.freeze (R:=aa) 0 rfl 5 rfl;replace hL:=hL.freeze (R:=ac) 0 rfl 5 rfl;replace hL:=hL.freeze (R:=ar) 0 rfl 5 rfl;replace hL:=hL.freeze (R:=ac) 0 rfl 5 rfl;obtain⟨h2,ck,hM⟩:=bd hM;refine kc hS Ki (wX _ _ hL.dlt (hL.get 18 rfl) Z _ _ _ _ _ _ (hL.get 5 rfl) (hL.get 4 rfl) (hL.get 3 rfl) (hL.get 2 rfl) (hL.get 1 rfl) (hL.get 0 rfl) _ ck) fun _ w hR a hk hA=>?_;obtain rfl:=hR;have hS:=bV hA;refine ah hS fun a hS=>?_;rcases cd hM with⟨d2,hM⟩|⟨d2,hM⟩
 ·refine go hS fun a w hS=>?_;replace hS:=(((((hS.freeze (R:=ay) 0 rfl 5 rfl).freeze (R:=ad) 0 rfl 5 rfl).freeze (R:=aa) 0 rfl 5 rfl).freeze (R:=ac) 0 rfl 5 rfl).freeze (R:=ar) 0 rfl 5 rfl).freeze (R:=ac) 0 rfl 5 rfl;cases hM
  refine aE hS Tryz.results57 (a7 hS rfl 0 rfl uw rfl (fun h=>by cases h) (ap hS rfl (ap hS rfl aD))) ?_;exact⟨c2,c3,c4,c5,c9,ca,rfl,(aA.up trivial (hS.get 5 rfl)),(aA.up trivial (hS.get 4 rfl)),(aA.up trivial (hS.get 3 rfl)),(aA.up trivial (hS.get 2 rfl)),(aA.up trivial (hS.get 1 rfl)),(aA.up trivial (hS.get 0 rfl))⟩
 refine ah hS fun a hS=>?_;replace hS:=((hS.freeze (R:=ay) 0 rfl 5 rfl).freeze (R:=ad) 0 rfl 5 rfl).freeze (R:=aa) 0 rfl 5 rfl;obtain⟨h3,cl,hM⟩:=bd hM;replace hS:=hS.re [] [0,1,2,3,4];refine wl rfl (cu hS GB rfl rfl (ry _ _ hS.dltD Z.Rules Z.Base _ _ _ hS.dok (hS.getD 2 rfl) (hS.getD 1 rfl) (hS.getD 0 rfl) _ cl) fun _ w hR a hk hA=>?_);obtain⟨a3,h4,h5,h6,a4,g7,g1,a5,g8,g2,he,b4,b5,b6,af,ag,d3⟩:=hR;obtain rfl:=he.symm;have hS:=hA _ d3;replace hS:=((((hS.fS (b4.sub (aw _))).fS (b5.sub (aw _))).fS (b6.sub (aw _))).fM (af.keep (Kt.refl _ _) (aw _))).fM (ag.keep (Kt.refl _ _) (aw _));refine ah hS fun a hS=>?_;refine aG (J:=fun a w=>∃ (P:Int) (Q:LU) (S:Int) (U:LI) (V:LR) (W:LK) (X:LF) (Y:LK) (x:Value) (L:LV) (z:Value) (A:Value) (B:Value) (C:Value) (D:Value),St W0 No T 50 [(2,pt r 0),(4,pt t 0),(8,.int .i64 P)] [au x L,.box r [z,.int .i64 S,A,B,C,D,x] 97,.box t [.slice none 0 0,.int .i64 0,.slice none 0 0,.slice none 0 0,.slice none 0 0,.slice none 0 0,.slice none 0 0] 97] [aJ ay z Q,aJ ad A U,aJ aa B V,aJ ac C W,aJ ar D X,am ac L Y,bv] a w∧qH P Q S U V W X Y=some y) ?_ ?_
 ·skip;refine ah hS fun a hS=>?_;replace hS:=(hS.freeze (R:=ac) 3 rfl 10 rfl).freeze (R:=ar) 3 rfl 10 rfl;obtain⟨r1,e5,hMo1⟩:=bd hM;refine bu _ (fun s a w=>∃ (u:Int) (k:LU) (l:Int) (m:LI) (n:LR) (o:LK) (p:LF) (q:LK) (d:LU) (e:Int) (f:LI) (g:LR) (i:LB) (j:LL) (E:Value) (M:LV) (N:AM) (a9:Nat) (O:AM) (ab:Nat) (F:Value) (G:Value) (H:Value) (I:Value) (K:Value) (a0:Value) (a1:Value) (a2:Value),(u,k,l,m,n,o,p,q,d,e,f,g,i,j)=s∧St W0 No T 50 [(1,.int .i64 c),(2,pt r 0),(4,pt t 0),(7,pt a3 0),(8,.int .i64 u)] [au E M,.box r [F,.int .i64 l,G,H,I,K,E] 97,.box t [.slice none 0 0,.int .i64 0,.slice none 0 0,.slice none 0 0,.slice none 0 0,.slice none 0 0,.slice none 0 0] 97,om a4 N a9,om a5 O ab,xS a3 a0 e a1 a2 a4 a5] [aJ ay F k,aJ ad G m,aJ aa H n,aJ ac I o,aJ ar K p,am ac M q,aJ ay a0 d,aJ ad a1 f,aJ aa a2 g,iv N i,po O j,bv] a w) e5 ⟨_,_,_,_,_,_,_,_,_,_,_,_,_,_,_,_,_,_,_,_,_,_,_,_,_,_,_,_,rfl,hS.mt [3,5,4,1,2,0] [9,8,7,1,0,10,6,5,4,3,2,22]⟩ ?_;rintro s a w f1 ⟨u,k,l,m,n,o,p,q,d,e,f,g,i,j,E,M,N,a9,O,ab,F,G,H,I,K,a0,a1,a2,rfl,hS⟩ hM hf1;have hM:ow vrec c u k l m n o p q d e f g i j=some f1:=hM;unfold ow at hM;refine az ?_;refine ah hS fun a hS=>?_;rcases cd hM with⟨d4,hM⟩|⟨d4,hM⟩
  ·refine ah hS fun a hS=>?_;replace hS:=hS.freeze (R:=ac) 0 rfl 5 rfl;obtain⟨h1,cb,hM⟩:=bd hM;replace hS:=hS.re [4,2,3] [0,1];refine wl rfl (cu hS Kj rfl rfl (yn _ _ hS.dltD vrec hvrec (al.mk d (ai.mk e f g) i j) (cG.mk k (ai.mk l m n) o p q) _ _ _ _ _ _ _ _ _ _ _ _ _ _ _ _ hS.dok (hS.getD 7 rfl) (hS.getD 8 rfl) (hS.getD 9 rfl) (hS.getD 10 rfl) (hS.getD 11 rfl) (hS.getD 1 rfl) (hS.getD 2 rfl) (hS.getD 3 rfl) (hS.getD 4 rfl) (hS.getD 5 rfl) (hS.getD 0 rfl) (hS.getD 12 rfl) _ cb) fun _ w hR a hk hA=>?_);obtain⟨dk,g3,dl,ds,e2,e3,e4,g4,h7,h8,h9,gb,g5,gi,g6,he,b8,b9,bb,bi,bl,bs,d6,bt,c0,c1,ak,ao⟩:=hR;obtain rfl:=he.symm;have hS:=hA _ d6;replace hS:=((((((((((hS.fR (b8.keep (Kt.refl _ _) (aw _))).fR (bs.keep (Kt.refl _ _) (aw _))).fS (b9.sub (aw _))).fS (bb.sub (aw _))).fS (bi.sub (aw _))).fS (bl.sub (aw _))).fS (bt.sub (aw _))).fS (c0.sub (aw _))).fS (c1.sub (aw _))).fM (ak.keep (Kt.refl _ _) (aw _))).fM (ao.keep (Kt.refl _ _) (aw _));refine ah hS fun a hS=>?_;refine ka hS wH fun f6 h0 a w hk hS=>?_;refine go hS fun a w hS=>?_;refine az ?_;refine ah hS fun a hS=>?_;rcases cd hM with⟨da,hM⟩|⟨da,hM⟩
   ·refine go hS fun a w hS=>?_;cases hM
    have hr:=hf1 _ rfl;subst hr;replace hMo1:=jo hMo1;have hM:=hMo1;cases hM
    refine aE hS Tryz.results57 (a7 hS rfl 7 rfl uw rfl (fun h=>by cases h) (ap hS rfl (ap hS rfl aD))) ?_;exact⟨F,G,H,I,K,E,rfl,(aA.up trivial (hS.get 12 rfl)),(aA.up trivial (hS.get 13 rfl)),(aA.up trivial (hS.get 14 rfl)),(aA.up trivial (hS.get 15 rfl)),(aA.up trivial (hS.get 16 rfl)),(aA.up trivial (hS.get 11 rfl))⟩
   refine ah hS fun a hS=>?_;refine az ?_;refine ah hS fun a hS=>?_;rcases cd hM with⟨dc,hM⟩|⟨dc,hM⟩
   ·refine go hS fun a w hS=>?_;replace hS:=(hS.freeze (R:=ay) 4 rfl 10 rfl).freeze (R:=ac) 4 rfl 10 rfl;cases hM
    have hr:=hf1 _ rfl;subst hr;replace hMo1:=jo hMo1;have hM:=hMo1;cases hM
    refine aE hS Tryz.results57 (a7 hS rfl 5 rfl uw rfl (fun h=>by cases h) (ap hS rfl (ap hS rfl aD))) ?_;exact⟨dk,dl,ds,e2,e3,e4,rfl,(aA.up trivial (hS.get 1 rfl)),(aA.up trivial (hS.get 10 rfl)),(aA.up trivial (hS.get 9 rfl)),(aA.up trivial (hS.get 8 rfl)),(aA.up trivial (hS.get 7 rfl)),(aA.up trivial (hS.get 0 rfl))⟩
   refine go hS fun a w hS=>?_;replace hS:=hS.freeze (R:=ay) 4 rfl 10 rfl;exact⟨_,(Option.some.inj hM).symm,_,_,_,_,_,_,_,_,_,_,_,_,_,_,_,_,_,_,_,_,_,_,_,_,_,_,_,_,rfl,hS.mt [4,5,6,2,3,1] [0,9,8,7,6,10,5,4,3,2,1,24]⟩
  exact fz
 rintro a w ⟨P,Q,S,U,V,W,X,Y,x,L,z,A,B,C,D,hS,hM⟩;unfold qH at hM;refine go hS fun a w hS=>?_;replace hS:=hS.freeze (R:=ac) 0 rfl 5 rfl;cases hM
 refine aE hS Tryz.results57 (a7 hS rfl 1 rfl uw rfl (fun h=>by cases h) (ap hS rfl (ap hS rfl aD))) ?_;exact⟨z,A,B,C,D,x,rfl,(aA.up trivial (hS.get 1 rfl)),(aA.up trivial (hS.get 2 rfl)),(aA.up trivial (hS.get 3 rfl)),(aA.up trivial (hS.get 4 rfl)),(aA.up trivial (hS.get 5 rfl)),(aA.up trivial (hS.get 0 rfl))⟩
end
end
end Go.Proofs.YtmfcloapbgfhaaaGreatDoor
