/- Texts of the proof, joined (6). -/
import Derived.Test.YthefmilamdchiaaGreatDoorA5
import Derived.Test.YthefmilamdchiaaGreatDoorA4
import Derived.Test.YthefmilamdchiaaGreatDoorA0
import Derived.Test.YthefmilamdchiaaGreatDoorRows
import Derived.ProofKit
import Derived.LaidMore
import Derived.LaidLaws
import Derived.MakeChecks
import Derived.Lib.LaidTab
import Derived.SizedLaws
import Derived.Deep.Slices
import Derived.Deep.Fields
import Derived.Lib.SmallJoins
import Derived.OpenShut
import GoSem.ClaimGoes
set_option linter.unusedVariables false
set_option linter.unusedSimpArgs false
set_option linter.unusedSectionVars false
namespace Go.Proofs.YthefmilamdchiaaGreatDoor
section
open Go.RowKit
open Go.Lib hiding intOf
section
variable {l:List aL} {V:Nat→ByteArray} {b:ah} {inp:ae→ByteArray} {vrec:aj→ae→Option (ByteArray×aj)}
def mu (l:List aL) (idx:List Nat) (a:Nat→Nat):Nat:=idx.length + tz a l.length
def Jm (l:List aL) (V:Nat→ByteArray) (b:ah) (inp:ae→ByteArray) (n0:Nat) (memo1:List (ae×ByteArray)) (idx1:List Nat) (a1:Nat→Nat) (k:Nat) :
    (List (ae×ByteArray))×(List ae)×Bool×Int×(List aL)×Int×(List aG)×(List al)×(List (ae×ByteArray))×(List (ae×(List ae)))→Prop
  | (m,list,ch,p,rules,rev,inps,recs,memo,seen) =>
    ∃ (idx:List Nat) (a:Nat→Nat),p=(k:Int)∧k≤idx.length∧tS l V inp n0 memo m list idx a∧pc l V b (aj.mk rules (ah.mk rev inps recs) memo seen)∧iD memo1 memo ∧
      ((ch=false∧idx=idx1∧a=a1∧∀ (q i:Nat),q < k→idx[q]? = some i→ZY l V inp idx a i)∨(ch=true∧mu l idx1 a1 < mu l idx a))
def Jo (l:List aL) (V:Nat→ByteArray) (b:ah) (inp:ae→ByteArray) (n0:Nat) (memo1:List (ae×ByteArray)) (idx1:List Nat) (a1:Nat→Nat) :
    (List (ae×ByteArray))×(List ae)×Bool×(List aL)×Int×(List aG)×(List al)×(List (ae×ByteArray))×(List (ae×(List ae)))→Prop
  | (m,list,ch,rules,rev,inps,recs,memo,seen) =>
    ∃ (idx:List Nat) (a:Nat→Nat),tS l V inp n0 memo m list idx a∧pc l V b (aj.mk rules (ah.mk rev inps recs) memo seen)∧iD memo1 memo ∧
      ((ch=false∧∀ i ∈ idx,ZY l V inp idx a i)∨(ch=true∧mu l idx1 a1 < mu l idx a))
section
variable {n0:Nat} {memo1:List (ae×ByteArray)} {idx1:List Nat} {a1:Nat→Nat} (hR:bx l) (hD:zx l inp V) (hv:EH l V b inp (qk (be l) n0) vrec)
include hR hD hv
theorem FY {k:Nat} (hk:k≤l.length):∀ s,Jm l V b inp n0 memo1 idx1 a1 k s→Ok (dR vrec s.1 s.2.1 s.2.2.1 s.2.2.2.1 s.2.2.2.2.1 s.2.2.2.2.2.1 s.2.2.2.2.2.2.1 s.2.2.2.2.2.2.2.1 s.2.2.2.2.2.2.2.2.1 s.2.2.2.2.2.2.2.2.2) fun y=>match y with
      | .go s'=>k < l.length∧Jm l V b inp n0 memo1 idx1 a1 (k + 1) s'
      | .out y=>Jo l V b inp n0 memo1 idx1 a1 y:=by
  rintro ⟨m,list,ch,p,rules,rev,inps,recs,memo,seen⟩ ⟨idx,a,rfl,hkl,h1,h2,h3,h4⟩
  dsimp only
  have hl8:=hR.high
  obtain ⟨len1,len2⟩:=h1.len
  unfold dR
  refine Ok.cond (fun hb=>?_) (fun hb=>?_)
  · have hlt:k < idx.length:=by have:=of_decide_eq_true hb; omega
    have hp:=List.getElem?_eq_getElem hlt
    have hiI:=List.mem_of_getElem? hp
    generalize idx[k]=i at hp hiI
    obtain ⟨hil,hir,hio⟩:=h1.ring i hiI
    have hi:=List.getElem?_eq_getElem hil
    generalize l[i]=r at hi
    have hr:r.Ring=true:=by rw [lp hi] at hir; exact Option.some.inj hir
    obtain ⟨t,ht,_⟩:=ri hR hi (ws:=[]) (by simp)
    have hget:bm list ((k:Nat):Int)=some (rk l i):=by rw [bk,h1.eq,List.getElem?_map,hp]; rfl
    have hru:rules=l:=h2.rules
    refine Ok.eq hget (Ok.eq (by rw [hru]; exact ht) ?_)
    unfold fo
    refine Cz hR hv hi hr hp h1 h2 ht ?_
    rintro ⟨m',list',ch',rules',rev',inps',recs',memo',seen',d',v',ak',at'⟩ ⟨idx',ws,g1,g2,g3,g4,g5,g6,g7,g8⟩
    dsimp only
    obtain ⟨u,hu1,hu2,hu3⟩:=Bw hR hi hr ws
    rw [hu1] at g8
    subst g8
    have hp':idx'[k]? = some i:=by
      obtain ⟨z,rfl⟩:=g4
      rw [List.getElem?_append_left hlt]; exact hp
    have hiI':i ∈ idx':=g4.subset hiI
    have hget':bm list' ((k:Nat):Int)=some (rk l i):=by rw [bk,g1.eq,List.getElem?_map,hp']; rfl
    have hm:=g1.get i hil
    rw [if_pos hiI'] at hm
    have hlen':=g4.length_le
    have hk1:k + 1≤idx'.length:=bh hp'
    have hwr:IntKind.i64.wrap ((k:Int) + 1)=((k + 1:Nat):Int):=cT (by omega)
    unfold ek
    refine Ok.eq hget' ?_
    rw [hm]
    simp only [Option.getD_some,Option.bind_some]
    by_cases e:a i=u
    · rw [e,show ((cz (u:Int)).toList == (cz (u:Int)).toList)=true by simp]
      simp only [Bool.not_true,cond_false]
      unfold de
      rw [hwr]
      refine Ok.ret ⟨by omega,idx',a,rfl,hk1,g1,g2,h3.trans g3,?_⟩
      rcases g5 with ⟨e1,e2⟩ | ⟨e1,e2⟩
      · subst e1 e2
        rcases h4 with ⟨q1,q2,q3,q4⟩ | ⟨q1,q2⟩
        · refine .inl ⟨q1,q2,q3,fun q j hq hj=>?_⟩
          rcases Nat.lt_or_ge q k with hq2 | hq2
          · exact q4 q j hq2 hj
          · obtain rfl:q=k:=by omega
            rw [hp'] at hj
            obtain rfl:=Option.some.inj hj
            exact F4 hR hD hi g1 g7 hu3 e
        · exact .inr ⟨q1,q2⟩
      · refine .inr ⟨e1,?_⟩
        unfold mu at h4 ⊢
        rcases h4 with ⟨q1,q2,q3,q4⟩ | ⟨q1,q2⟩
        · rw [← q2,← q3]; omega
        · omega
    · have hne:((cz ((a i:Nat):Int)).toList == (cz (u:Int)).toList)=false:=by
        rw [beq_eq_false_iff_ne]
        exact fun h=>e (wq (g1.lt i) hu2 (toList_inj h))
      rw [hne]
      simp only [Bool.not_false,cond_true]
      refine Ok.eq hget' ?_
      unfold de
      rw [hwr]
      have hlow:=Dx hR hD hi h1 g1 hiI g7 hu3
      have hup:=F5 hR hD hi g1 g6 g7 hu3
      have nk:=g1.set hl8 hiI' hu2 hlow (fun q hq=>(hup q hq).1) (fun q hq=>(hup q hq).2)
      refine Ok.ret ⟨by omega,idx',_,rfl,hk1,nk,g2,h3.trans g3,.inr ⟨rfl,?_⟩⟩
      have hle:a i≤u:=CR hlow
      have hs:tz a l.length < tz (fun j=>if j=i then u else a j) l.length:=by
        refine Ab (i:=i) (fun j=>?_) ?_ _ hil
        · show a j≤if j=i then u else a j
          split
          · rename_i hj; rw [hj]; exact hle
          · exact Nat.le_refl _
        · show a i < if i=i then u else a i
          rw [if_pos rfl]; omega
      unfold mu at h4 ⊢
      rcases h4 with ⟨q1,q2,q3,q4⟩ | ⟨q1,q2⟩
      · rw [← q2,← q3]; omega
      · omega
  · have hge:¬ k < idx.length:=by have:=of_decide_eq_false hb; omega
    refine Ok.ret ⟨idx,a,h1,h2,h3,?_⟩
    rcases h4 with ⟨q1,q2,q3,q4⟩ | ⟨q1,q2⟩
    · refine .inl ⟨q1,fun i hi=>?_⟩
      obtain ⟨q,hq⟩:=List.mem_iff_getElem?.1 hi
      exact q4 q i (by have:=bh hq; omega) hq
    · exact .inr ⟨q1,q2⟩
def Io (l:List aL) (V:Nat→ByteArray) (b:ah) (inp:ae→ByteArray) (n0:Nat) (memo1:List (ae×ByteArray)) (k:Nat) :
    (List (ae×ByteArray))×(List ae)×Bool×(List aL)×Int×(List aG)×(List al)×(List (ae×ByteArray))×(List (ae×(List ae)))→Prop
  | (m,list,ch,rules,rev,inps,recs,memo,seen) =>
    ∃ (idx:List Nat) (a:Nat→Nat),tS l V inp n0 memo m list idx a∧pc l V b (aj.mk rules (ah.mk rev inps recs) memo seen)∧iD memo1 memo ∧
      ((ch=false∧∀ i ∈ idx,ZY l V inp idx a i)∨(ch=true∧k≤mu l idx a))
def Fo (l:List aL) (V:Nat→ByteArray) (b:ah) (inp:ae→ByteArray) (n0:Nat) (memo1:List (ae×ByteArray)) :
    (List (ae×ByteArray))×(List ae)×(List aL)×Int×(List aG)×(List al)×(List (ae×ByteArray))×(List (ae×(List ae)))→Prop
  | (m,list,rules,rev,inps,recs,memo,seen) =>
    ∃ (idx:List Nat) (a:Nat→Nat),tS l V inp n0 memo m list idx a∧pc l V b (aj.mk rules (ah.mk rev inps recs) memo seen)∧iD memo1 memo∧∀ i ∈ idx,ZY l V inp idx a i
omit hD hv in
theorem BR {memo m:List (ae×ByteArray)} {list:List ae} {idx:List Nat} {a:Nat→Nat} (h:tS l V inp n0 memo m list idx a):mu l idx a≤600000:=by
  have:=vo h.lt l.length
  have:=h.len.2
  have:=hR.high
  unfold mu
  omega
theorem FZ {k:Nat}:∀ s,Io l V b inp n0 memo1 k s→Ok (dS vrec s.1 s.2.1 s.2.2.1 s.2.2.2.1 s.2.2.2.2.1 s.2.2.2.2.2.1 s.2.2.2.2.2.2.1 s.2.2.2.2.2.2.2.1 s.2.2.2.2.2.2.2.2) fun y=>match y with
      | .go s'=>k < 600001∧Io l V b inp n0 memo1 (k + 1) s'
      | .out y=>Fo l V b inp n0 memo1 y:=by
  rintro ⟨m,list,ch,rules,rev,inps,recs,memo,seen⟩ ⟨idx,a,h1,h2,h3,h4⟩
  dsimp only
  unfold dS
  refine Ok.cond (fun hb=>?_) (fun hb=>?_)
  · subst hb
    have h5:k≤mu l idx a:=by
      rcases h4 with ⟨h,_⟩ | ⟨_,h⟩
      · cases h
      · exact h
    have hbd:=BR hR h1
    refine Ok.loop (Jm l V b inp n0 memo idx a) (Jo l V b inp n0 memo idx a) l.length ⟨idx,a,rfl,Nat.zero_le _,h1,h2,iD.refl _,.inl ⟨rfl,rfl,rfl,fun q i hq=>absurd hq (by omega)⟩⟩
      (fun k s hk hI=>(FY hR hD hv hk s hI).mono fun y hy=>by cases y <;> exact hy) ?_
    rintro ⟨m',list',ch',rules',rev',inps',recs',memo',seen'⟩ ⟨idx',a',g1,g2,g3,g4⟩
    refine Ok.ret ⟨by omega,idx',a',g1,g2,h3.trans g3,?_⟩
    rcases g4 with ⟨q1,q2⟩ | ⟨q1,q2⟩
    · exact .inl ⟨q1,q2⟩
    · exact .inr ⟨q1,by omega⟩
  · subst hb
    refine Ok.ret ⟨idx,a,h1,h2,h3,?_⟩
    rcases h4 with ⟨_,h⟩ | ⟨h,_⟩
    · exact h
    · cases h
omit hv in
theorem Bv {m list memo idx a} (h1:tS l V inp n0 memo m list idx a) (hc:∀ i ∈ idx,ZY l V inp idx a i) {i:Nat} (hi:i ∈ idx):cz ((a i:Nat):Int)=V i:=by
  obtain ⟨u,d1,d2,d3,d4⟩:=si hR hD (h1.ring i hi).2.1
  rw [d1]
  congr 2
  apply Nat.eq_of_testBit_eq
  intro q
  rw [Bool.eq_iff_iff,d4]
  exact ⟨h1.le i q,fun h=>y0 hc h hi⟩
theorem Cr {s:aj} (hs:pc l V b s) (hn:n0 < l.length) (hr0:(be l)[n0]? = some true) :
    Ok (fT vrec s (rk l n0)) fun s'=>pc l V b s'∧iD s.Memo s'.Memo∧bH aA (rk l n0) s'.Memo=some (V n0):=by
  have hl8:=hR.high
  have hL:ix (rk l n0)=some ⟨#[48]⟩:=by
    unfold ix
    rcases nY (l:=l) (n:=n0) with ⟨_,h⟩ | ⟨h,_⟩
    · exact absurd hr0 h
    · rw [h]; rfl
  unfold fT
  refine Ok.eq hL ?_
  unfold fp
  have hA:tS l V inp n0 s.Memo (cX aA (rk l n0) ⟨#[48]⟩ []) [rk l n0] [n0] (fun _=>0):=by
    refine ⟨rfl,by simp,fun i hi=>?_,List.mem_singleton.2 rfl,fun i hi=>?_,fun _ _=>rfl,fun _=>by simp,fun i q hq=>by simp at hq,fun i _ q hq=>by simp at hq⟩
    · rw [List.mem_singleton.1 hi]; exact ⟨hn,hr0,Nat.le_refl _⟩
    · by_cases e:i=n0
      · subst e
        rw [cQ,if_pos (List.mem_singleton.2 rfl),xa]
      · rw [d5 (fun e2=>e (vj (by omega) (by omega) e2)),if_neg (by simpa using e)]; rfl
  refine Ok.loop (Io l V b inp n0 s.Memo) (Fo l V b inp n0 s.Memo) 600001 ⟨[n0],fun _=>0,hA,hs,iD.refl _,.inr ⟨rfl,Nat.zero_le _⟩⟩
    (fun k s hk hI=>(FZ hR hD hv s hI).mono fun y hy=>by cases y <;> exact hy) ?_
  rintro ⟨m,list,rules,rev,inps,recs,memo,seen⟩ ⟨idx,a,h1,h2,h3,h4⟩
  obtain ⟨len1,len2⟩:=h1.len
  dsimp only
  unfold ej
  refine Ok.loop (fun (k:Nat) (st:Int×List (ae×ByteArray))=>st.1=k∧k≤idx.length∧pc l V b (aj.mk rules (ah.mk rev inps recs) st.2 seen)∧iD s.Memo st.2∧∀ (q i:Nat),q < k→idx[q]? = some i→bH aA (rk l i) st.2=some (V i))
    (fun memo'=>pc l V b (aj.mk rules (ah.mk rev inps recs) memo' seen)∧iD s.Memo memo'∧bH aA (rk l n0) memo'=some (V n0)) idx.length ⟨rfl,Nat.zero_le _,h2,h3,fun q i hq=>absurd hq (by omega)⟩ ?_ ?_
  · rintro k ⟨p,memo'⟩ hk ⟨rfl,_,g1,g2,g3⟩
    dsimp only
    unfold ga
    refine Ok.cond (fun hb=>?_) (fun hb=>?_)
    · have hlt:k < idx.length:=by have:=of_decide_eq_true hb; omega
      have hp:=List.getElem?_eq_getElem hlt
      have hiI:=List.mem_of_getElem? hp
      generalize idx[k]=i at hp hiI
      obtain ⟨hil,_⟩:=h1.ring i hiI
      have hget:bm list ((k:Nat):Int)=some (rk l i):=by rw [bk,h1.eq,List.getElem?_map,hp]; rfl
      refine Ok.eq hget ?_
      have hm:=h1.get i hil
      rw [if_pos hiI,Bv hR hD h1 h4 hiI] at hm
      rw [hm]
      simp only [Option.getD_some,Option.bind_some]
      obtain ⟨p1,p2⟩:=g1.put hil hl8
      refine Ok.ret ⟨hlt,cT (by omega),hlt,p1,g2.trans p2,fun q j hq hj=>?_⟩
      rcases Nat.lt_or_ge q k with hq2 | hq2
      · exact p2 _ _ (g3 q j hq2 hj)
      · obtain rfl:q=k:=by omega
        rw [hp] at hj
        obtain rfl:=Option.some.inj hj
        exact cQ _ _ _
    · have hge:¬ k < idx.length:=by have:=of_decide_eq_false hb; omega
      obtain ⟨q,hq⟩:=List.mem_iff_getElem?.1 h1.head
      exact Ok.ret ⟨g1,g2,g3 q n0 (by have:=bh hq; omega) hq⟩
  · rintro memo' ⟨g1,g2,g3⟩
    exact Ok.ret ⟨g1,g2,g3⟩
end
end
end
section
open Go.RowKit
open Go.Lib hiding intOf
section
variable {l:List aL} {V:Nat→ByteArray} {b:ah}
noncomputable abbrev qo (b:ah) (k:ae):ByteArray:=(cB b k).Value
theorem EH.le {ρ ρ':Nat} {inp:ae→ByteArray} {vrec:aj→ae→Option (ByteArray×aj)} (h:EH l V b inp ρ vrec) (hl:ρ'≤ρ):EH l V b inp ρ' vrec :=
  ⟨fun s n hs hn hr=>h.rule s n hs hn (by omega),h.cell⟩
theorem vX {inp:ae→ByteArray} {r:aL} {k:Nat} {x:cI} (hx:r.Asks[k]? = some x):nQ l inp V r (k + 1)=nQ l inp V r k ++ [pG l inp V x (nQ l inp V r k)]:=by
  show (match r.Asks[k]? with | none=>_ | some x=>_)=_
  rw [hx]
theorem un {inp:ae→ByteArray} {r:aL}:∀ {k:Nat},k≤r.Asks.length→(nQ l inp V r k).length=k
  | 0,_=>rfl
  | k + 1,h=>by rw [vX (List.getElem?_eq_getElem (show k < r.Asks.length by omega)),List.length_append,un (by omega)]; rfl
theorem zr (hR:bx l) (hD:zx l (qo b) V) (hb:Rm b.Inputs.length) {f:Nat} {vrec:aj→ae→Option (ByteArray×aj)} (hv:EH l V b (qo b) f vrec) {s:aj} {n:Nat} (hs:pc l V b s) (hn:n < l.length) (hf:qk (be l) n≤f) :
    Ok (dx vrec s (rk l n)) fun y=>y.1=V n∧pc l V b y.2∧iD s.Memo y.2.Memo:=by
  have hl8:=hR.high
  unfold dx
  refine Ok.eq sO ?_
  simp only [cond_false,Option.bind_some]
  refine Ok.cond (fun hm=>?_) (fun hm=>?_)
  · obtain ⟨v,hv⟩:=Option.isSome_iff_exists.1 hm
    rw [hv]
    exact Ok.ret ⟨hs.memo n hn v hv,hs,iD.refl _⟩
  · refine Ok.eq (fF _) ?_
    rw [zY]
    by_cases hr:(be l)[n]? = some true
    · rw [decide_eq_true hr]
      simp only [cond_true]
      refine Ok.bind (Cr hR hD (hv.le hf) hs hn hr) fun s' ⟨h1,h2,h3⟩=>?_
      rw [h3]
      exact Ok.ret ⟨rfl,h1,h2⟩
    · rw [decide_eq_false hr]
      simp only [cond_false]
      have hi:=List.getElem?_eq_getElem hn
      generalize l[n]=r at hi
      have hrr:r.Ring=false:=by
        rw [lp hi] at hr
        cases h:r.Ring with
        | false=>rfl
        | true=>rw [h] at hr; exact absurd rfl hr
      have h3l:=(hR.each n r hi).asks
      refine Ok.loop (fun (k:Nat) (st:(List ByteArray)×(List aL)×Int×(List aG)×(List al)×(List (ae×ByteArray))×(List (ae×(List ae))))=>k≤r.Asks.length∧st.1=nQ l (qo b) V r k∧pc l V b (aj.mk st.2.1 (ah.mk st.2.2.1 st.2.2.2.1 st.2.2.2.2.1) st.2.2.2.2.2.1 st.2.2.2.2.2.2)∧iD s.Memo st.2.2.2.2.2.1)
        (fun y=>y.1=V n∧pc l V b y.2∧iD s.Memo y.2.Memo) r.Asks.length ⟨Nat.zero_le _,rfl,hs,iD.refl _⟩ ?_ (fun y hy=>Ok.ret hy)
      rintro k ⟨ws,rules,rev,inps,recs,memo,seen⟩ hk ⟨_,e,g1,g2⟩
      dsimp only at e g1 g2 ⊢
      subst e
      have hru:rules=l:=g1.rules
      unfold f8
      rw [hru]
      rcases Nat.lt_or_ge k r.Asks.length with hlt | hge
      · have hx:=List.getElem?_eq_getElem hlt
        generalize r.Asks[k]=x at hx
        have hlen:=un (l:=l) (V:=V) (inp:=qo b) (r:=r) hk
        refine Ok.eq (vr hR hi (x:=x) (by rw [hlen]; exact hx)) ?_
        unfold ei
        simp only [cond_false]
        obtain ⟨_,hg⟩:=nc hR hi hx (nQ l (qo b) V r k)
        have fin:∀ {w:ByteArray} {rules rev inps recs memo seen},w=pG l (qo b) V x (nQ l (qo b) V r k)→pc l V b (aj.mk rules (ah.mk rev inps recs) memo seen)→iD s.Memo memo→Ok (gd (bG ((nQ l (qo b) V r k).length + [w].length)) <| some (Fl.go (R:=ByteArray×aj) (nQ l (qo b) V r k ++ [w],rules,rev,inps,recs,memo,seen))) fun y=>match y with
            | .go st=>k < r.Asks.length∧(k + 1≤r.Asks.length∧st.1=nQ l (qo b) V r (k + 1)∧pc l V b (aj.mk st.2.1 (ah.mk st.2.2.1 st.2.2.2.1 st.2.2.2.2.1) st.2.2.2.2.2.1 st.2.2.2.2.2.2)∧iD s.Memo st.2.2.2.2.2.1)
            | .out y=>y.1=V n∧pc l V b y.2∧iD s.Memo y.2.Memo:=by
          intro w rules rev inps recs memo seen hw q1 q2
          exact Ok.gd (eH (by rw [hlen]; simp; omega)) (Ok.ret ⟨hlt,hlt,by rw [vX hx,hw],q1,q2⟩)
        have hK:ae.mk (pg l x (nQ l (qo b) V r k)).Kind (pg l x (nQ l (qo b) V r k)).Text=pg l x (nQ l (qo b) V r k):=rfl
        rw [hK]
        rw [hru] at g1
        rcases hg with ⟨hc,c,hc4,e3,e4⟩ | ⟨hc,j,hj,e3,e4⟩
        · have hA:pG l (qo b) V x (nQ l (qo b) V r k)=qo b (bn c):=by unfold pG; rw [if_pos hc,e4]
          rw [e4]
          refine Ok.bind (hv.cell _ c g1 hc4) fun y hy=>?_
          obtain ⟨y1,y2⟩:=y
          obtain ⟨f1,f2⟩:=hy
          simp only at f1 f2
          subst f1 f2
          exact (fin hA.symm g1 g2).mono fun y hy=>by cases y <;> exact hy
        · have hll:=u0 hn
          have hA:pG l (qo b) V x (nQ l (qo b) V r k)=V j:=by unfold pG; rw [if_neg (by rw [hc]; simp),e3]; rfl
          rw [e4]
          refine Ok.bind (hv.rule _ j g1 (by omega) (by have:=wz hr hj; omega)) fun y hy=>?_
          obtain ⟨f1,f2,f3⟩:=hy
          exact (fin (by rw [f1,hA]) f2 (g2.trans f3)).mono fun y hy=>by cases y <;> exact hy
      · obtain rfl:k=r.Asks.length:=by omega
        have hlen:=un (l:=l) (V:=V) (inp:=qo b) (r:=r) (Nat.le_refl r.Asks.length)
        refine Ok.eq (tA hR hi (by rw [hlen]; exact Nat.le_refl _)) ?_
        have hval:=hD.plain n r hi hrr
        unfold ei
        simp only [cond_true]
        rw [List.take_of_length_le (by rw [hlen]; exact Nat.le_refl _),← hval]
        rw [hru] at g1
        obtain ⟨p1,p2⟩:=g1.put hn hl8
        exact Ok.ret ⟨rfl,p1,g2.trans p2⟩
theorem vu (hb:Rm b.Inputs.length) {vrec:aj→ae→Option (ByteArray×aj)} {s:aj} {c:Nat} (hs:pc l V b s):Ok (dx vrec s (bn c)) fun y=>y.1=qo b (bn c)∧y.2=s:=by
  unfold dx
  refine Ok.eq n9 ?_
  simp only [cond_true]
  refine Ok.eq (by rw [hs.base]; exact BA hb _) (Ok.ret ⟨rfl,rfl⟩)
theorem yD (hR:bx l) (hD:zx l (qo b) V) (hb:Rm b.Inputs.length):∀ f,EH l V b (qo b) f (DO (f + 1))
  | 0=>⟨fun s n _ _ h=>absurd h (by omega),fun s c hs _=>vu hb hs⟩
  | f + 1=>⟨fun s n hs hn h=>zr hR hD hb (yD hR hD hb f) hs hn (by omega),fun s c hs _=>vu hb hs⟩
theorem Ez (hR:bx l) (hD:zx l (qo b) V) (hb:Rm b.Inputs.length) {s:aj} (hs:pc l V b s) {k:ae} (hk:mA l k):Ok (vv s k) fun y=>pc l V b y.2∧(∀ n,n < l.length→k=rk l n→y.1=V n):=by
  have h:=yD hR hD hb 39
  have hl8:=hR.high
  rcases hk with ⟨c,hc,rfl⟩ | ⟨n,hn,rfl⟩
  · exact (h.cell s c hs hc).mono fun y hy=>⟨by rw [hy.2]; exact hs,fun n _ e=>absurd e zD⟩
  · refine (h.rule s n hs hn ?_).mono fun y hy=>⟨hy.2.1,fun m hm e=>?_⟩
    · have:=Cf (rs:=be l) n; omega
    · rw [vj (by omega) (by omega) e] at hy
      exact hy.1
end
end
section
open Go.RowKit
open Go.Lib hiding intOf
theorem u4 {l:List al} {r x:al}:x ∈ nM l r↔x=r∨(x ∈ l∧x.Key ≠ r.Key):=by
  unfold nM
  rw [List.mem_append,List.mem_cons,List.mem_filter,List.mem_filter]
  simp only [decide_eq_true_eq]
  constructor
  · rintro (⟨h,h1⟩ | h | ⟨h,h1⟩)
    · exact .inr ⟨h,oO h1⟩
    · exact .inl h
    · exact .inr ⟨h,fun e=>by rw [e,td] at h1; omega⟩
  · rintro (h | ⟨h,h1⟩)
    · exact .inr (.inl h)
    · rcases sr x.Key r.Key with h2 | h2 | h2
      · exact .inl ⟨h,h2⟩
      · exact absurd h2 h1
      · exact .inr (.inr ⟨h,lS.2 h2⟩)
theorem CO {l:List al} (h:zw l) {x y:al} (hx:x ∈ l) (hy:y ∈ l) (e:x.Key=y.Key):x=y:=by
  induction l with
  | nil=>cases hx
  | cons z m ih =>
    have h':=List.pairwise_cons.1 h
    rcases List.mem_cons.1 hx with e1 | h1
    · rcases List.mem_cons.1 hy with e2 | h2
      · rw [e1,e2]
      · subst e1; exact absurd e (oO (h'.1 y h2))
    · rcases List.mem_cons.1 hy with e2 | h2
      · subst e2; exact absurd e.symm (oO (h'.1 x h1))
      · exact ih h'.2 h1 h2
theorem Bz {l:List al} (h:zw l) {x:al} (hx:x ∈ l):bX l x.Key=(x,true):=by
  unfold bX
  cases hf:l.find? (fun r=>dh r.Key x.Key) with
  | none =>
    have:=List.find?_eq_none.1 hf x hx
    simp [pv] at this
  | some y =>
    have h1:=List.find?_some hf
    have h2:=List.mem_of_find?_eq_some hf
    rw [CO h h2 hx (fK.1 h1)]
theorem uP {l:List al} (h:zw l) {x:al} (hx:x ∈ l) {k:ae} (e:x.Key=k):bX l k=(x,true):=by subst e; exact Bz h hx
theorem wj {l:List al} (h:zw l) (r:al) (k:ae):bX (nM l r) k=if k=r.Key then (r,true) else bX l k:=by
  have hp:=yk h r
  by_cases e:k=r.Key
  · rw [if_pos e]
    exact uP hp (u4.2 (.inl rfl)) e.symm
  · rw [if_neg e]
    cases hf:(bX l k).2 with
    | true =>
      obtain ⟨h1,h2⟩:=iQ hf
      rw [uP hp (u4.2 (.inr ⟨h1,by rw [h2]; exact e⟩)) h2]
      exact Prod.ext rfl hf.symm
    | false =>
      obtain ⟨h1,h2⟩:=qS hf
      cases hf2:(bX (nM l r) k).2 with
      | true =>
        obtain ⟨h3,h4⟩:=iQ hf2
        rcases u4.1 h3 with h5 | ⟨h5,_⟩
        · exact absurd (h4.symm.trans (congrArg al.Key h5)) e
        · exact absurd h4 (h2 _ h5)
      | false=>rw [(qS hf2).1,h1]
theorem zh {l:List al} (h:CH l):oz l=some l:=by
  have hl:=h.1
  unfold Rm at hl
  unfold oz m6
  refine ee (dZ (xs:=l) (fun k=>(l.take k,(k:Int))) rfl (r:=l) (fun k x hx=>?_) ?_) rfl
  · have hlt:=bh hx
    unfold kE
    dsimp only
    rw [dlt hlt,cond_true,bk,hx,Option.bind_some,ob (h.2 x (List.mem_of_getElem? hx)),Option.bind_some,eH (by rw [List.length_take]; simp; omega),cT (by omega),cw hx]
    rfl
  · unfold kE
    dsimp only
    rw [bQ,List.take_length]; rfl
theorem rP {b:ah} (h:CH b.Records) (hi:Rm b.Inputs.length):ew b=some b:=by
  unfold Rm at hi
  unfold ew
  rw [eH (by simp; omega),zh h]; rfl
def iw (g:List ae) (d:Bool) (rev:Int) (r:al):al:=if (g.any fun x=>dh r.Key x)=true then (if d=true then ⟨r.Key,r.Value,r.Reads,r.Changed,r.Verified,r.Cost,true⟩ else ⟨r.Key,r.Value,r.Reads,r.Changed,rev,r.Cost,r.Dirty⟩) else r
theorem qY (g:List ae) (d:Bool) (rev:Int) (r:al):(iw g d rev r).Key=r.Key:=by unfold iw; split <;> (try split) <;> rfl
theorem uh {b:ah} (h:CH b.Records) (hi:Rm b.Inputs.length) {g:List ae} (hg:Rm g.length) (d:Bool):jJ b g d=some ⟨b.Revision,b.Inputs,b.Records.map (iw g d b.Revision)⟩:=by
  have hl:=h.1
  unfold Rm at hl
  unfold jJ m8
  rw [rP h hi,Option.bind_some]
  refine ee (dZ (xs:=b.Records) (fun k=>((k:Int),(b.Records.take k).map (iw g d b.Revision) ++ b.Records.drop k)) rfl (r:=b.Records.map (iw g d b.Revision)) (fun k x hx=>?_) ?_) rfl
  · have hlt:=bh hx
    have hlen:((b.Records.take k).map (iw g d b.Revision)).length=k:=by rw [List.length_map,List.length_take]; omega
    have hdrop:b.Records.drop k=x :: b.Records.drop (k + 1):=by
      rw [List.drop_eq_getElem_cons hlt]
      rw [List.getElem?_eq_getElem hlt] at hx
      rw [Option.some.inj hx]
    have hget:bm ((b.Records.take k).map (iw g d b.Revision) ++ b.Records.drop k) (k:Int)=some x:=by
      rw [bk,List.getElem?_append_right (by omega),hlen,hdrop,Nat.sub_self]; rfl
    have nk:∀ y,((b.Records.take k).map (iw g d b.Revision) ++ b.Records.drop k).set (Int.toNat (k:Int)) y=(b.Records.take k).map (iw g d b.Revision) ++ y :: b.Records.drop (k + 1):=fun y=>by
      rw [hdrop,Int.toNat_natCast,List.set_append_right _ _ (by omega),hlen,Nat.sub_self]; rfl
    have htake:∀ y,iw g d b.Revision x=y→(b.Records.take (k + 1)).map (iw g d b.Revision) ++ b.Records.drop (k + 1)=(b.Records.take k).map (iw g d b.Revision) ++ y :: b.Records.drop (k + 1):=fun y hy=>by
      rw [cw hx,List.map_append,List.append_assoc]
      simp [hy]
    unfold kO
    dsimp only
    rw [dlt hlt,cond_true,hget,Option.bind_some,pB hg,Option.bind_some]
    unfold i6
    have hw:=cT (k:=k) (by omega)
    cases ha:g.any fun y=>dh x.Key y with
    | false =>
      rw [Bool.not_false,cond_true,hw,htake x (by unfold iw; rw [ha]; rfl),hdrop]
    | true =>
      rw [Bool.not_true,cond_false]
      cases d with
      | true=>rw [cond_true,Option.bind_some,nk,hw,htake ⟨x.Key,x.Value,x.Reads,x.Changed,x.Verified,x.Cost,true⟩ (by unfold iw; rw [ha]; rfl)]
      | false=>rw [cond_false,Option.bind_some,nk,hw,htake ⟨x.Key,x.Value,x.Reads,x.Changed,b.Revision,x.Cost,x.Dirty⟩ (by unfold iw; rw [ha]; rfl)]
  · unfold kO
    dsimp only
    rw [bQ,List.take_length,List.drop_length,List.append_nil]; rfl
theorem yg {l:List al} (h:zw l) (g:List ae) (d:Bool) (rev:Int):zw (l.map (iw g d rev)):=by
  unfold zw
  rw [List.pairwise_map]
  exact h.imp fun {a b} hab=>by rw [qY,qY]; exact hab
theorem uO {l:List al} (h:zw l) (g:List ae) (d:Bool) (rev:Int) (k:ae):bX (l.map (iw g d rev)) k=if (bX l k).2=true then (iw g d rev (bX l k).1,true) else (IP,false):=by
  have hp:=yg h g d rev
  cases hf:(bX l k).2 with
  | true =>
    obtain ⟨h1,h2⟩:=iQ hf
    rw [if_pos rfl]
    exact uP hp (List.mem_map_of_mem h1) ((qY _ _ _ _).trans h2)
  | false =>
    obtain ⟨h1,h2⟩:=qS hf
    rw [if_neg (by simp)]
    cases hf2:(bX (l.map (iw g d rev)) k).2 with
    | true =>
      obtain ⟨h3,h4⟩:=iQ hf2
      obtain ⟨x,hx,e⟩:=List.mem_map.1 h3
      exact absurd (by rw [← h4,← e,qY]) (h2 x hx)
    | false=>exact (qS hf2).1
structure p9 (l:List aL) (rev:Int) (r:al):Prop where
  key:∃ n,n < l.length∧r.Key=rk l n
  value:r.Value.size≤1000
  reads:r.Reads.length≤3
  good:∀ k ∈ r.Reads,mA l k
  low:0≤r.Changed
  mid:r.Changed≤r.Verified
  high:r.Verified≤rev
  cost:1≤r.Cost∧r.Cost≤4
  dirty:r.Dirty=true→od r.Key=true
structure qh (rev:Int) (x:aG):Prop where
  key:∃ c,c < 4∧x.Key=bn c
  value:x.Value.size≤1000
  low:0≤x.Changed
  high:x.Changed≤rev
structure iu (l:List aL) (b:ah):Prop where
  rev:0≤b.Revision∧b.Revision≤1000000
  ins:∀ x ∈ b.Inputs,qh b.Revision x
  insA:b.Inputs.Pairwise fun x y=>bS x.Key y.Key < 0
  recs:∀ r ∈ b.Records,p9 l b.Revision r
  recsA:zw b.Records
theorem tg {α:Type} {xs:List α} {f:α→ae} (h:xs.Pairwise fun a b=>bS (f a) (f b) < 0):(xs.map f).Nodup:=by
  unfold List.Nodup
  rw [List.pairwise_map]
  exact h.imp fun {a b} hab=>oO hab
theorem iu.nrec {l:List aL} {b:ah} (h:iu l b):b.Records.length≤l.length:=by
  have h1:=mH (tg (f:=al.Key) h.recsA) (m:=(List.range l.length).map (rk l)) fun k hk=>by
    obtain ⟨r,hr,rfl⟩:=List.mem_map.1 hk
    obtain ⟨n,hn,e⟩:=(h.recs r hr).key
    exact List.mem_map.2 ⟨n,List.mem_range.2 hn,e.symm⟩
  simpa using h1
theorem iu.nin {l:List aL} {b:ah} (h:iu l b):b.Inputs.length≤4:=by
  have h1:=mH (tg (f:=aG.Key) h.insA) (m:=(List.range 4).map bn) fun k hk=>by
    obtain ⟨r,hr,rfl⟩:=List.mem_map.1 hk
    obtain ⟨n,hn,e⟩:=(h.ins r hr).key
    exact List.mem_map.2 ⟨n,List.mem_range.2 hn,e.symm⟩
  simpa using h1
theorem iu.rm {l:List aL} {b:ah} (h:iu l b) (hl:l.length≤8):CH b.Records∧Rm b.Inputs.length∧Aj b.Records:=by
  have h1:=h.nrec
  have h2:=h.nin
  refine ⟨⟨by unfold Rm; omega,fun r hr=>by have:=(h.recs r hr).reads; unfold Rm; omega⟩,by unfold Rm; omega,h.recsA,by omega,fun r hr=>by have:=(h.recs r hr).reads; omega⟩
end
section
open Go.RowKit
open Go.Lib hiding intOf
def tI (p:Nat→Bool):Nat→Nat
  | 0=>0
  | n + 1=>tI p n + cond (p n) 1 0
theorem uG {p q:Nat→Bool} (h:∀ n,p n=true→q n=true):∀ N,tI p N≤tI q N
  | 0=>Nat.le_refl _
  | n + 1=>by
    have:=uG h n
    show tI p n + cond (p n) 1 0≤tI q n + cond (q n) 1 0
    cases hp:p n with
    | false=>cases q n <;> simp <;> omega
    | true=>rw [h n hp]; simp; omega
theorem wQ {p q:Nat→Bool} (h:∀ n,p n=true→q n=true) {i:Nat} (h1:p i=false) (h2:q i=true):∀ N,i < N→tI p N < tI q N
  | 0,h0=>absurd h0 (by omega)
  | n + 1,h0=>by
    have h3:=uG h n
    show tI p n + cond (p n) 1 0 < tI q n + cond (q n) 1 0
    rcases Nat.lt_or_ge i n with h4 | h4
    · have:=wQ h h1 h2 n h4
      cases hp:p n with
      | false=>cases q n <;> simp <;> omega
      | true=>rw [h n hp]; simp; omega
    · obtain rfl:i=n:=by omega
      rw [h1,h2]; simp; omega
theorem qR (p:Nat→Bool):∀ N,tI p N≤N
  | 0=>Nat.le_refl _
  | n + 1=>by
    have:=qR p n
    show tI p n + cond (p n) 1 0≤n + 1
    cases p n <;> simp <;> omega
noncomputable def gh (b:ah) (k:ae):Bool:=(bX b.Records k).2 && decide ((bX b.Records k).1.Verified=b.Revision)
def lu (b b':ah):Prop:=∀ k,gh b k=true→gh b' k=true
theorem lu.refl (b:ah):lu b b:=fun _ h=>h
theorem lu.trans {a b c:ah} (h:lu a b) (k:lu b c):lu a c:=fun x e=>k x (h x e)
def cW (m:List (ae×Bool)) (k:ae):Bool:=(bH aA k m).getD false
section
variable {l:List aL} {V:Nat→ByteArray} {b0 b:ah}
theorem iu.find (h:iu l b) (hl:l.length≤8) (k:ae):cr b.Records k=some (bX b.Records k):=pZ (h.rm hl).1 k
theorem iu.found (h:iu l b) {k:ae} (hk:(bX b.Records k).2=true):p9 l b.Revision (bX b.Records k).1∧(bX b.Records k).1.Key=k :=
  ⟨h.recs _ (iQ hk).1,(iQ hk).2⟩
theorem iu.rdGood (h:iu l b) {k x:ae} (hx:x ∈ wA b.Records k):mA l x:=by
  unfold wA at hx
  cases hk:(bX b.Records k).2 with
  | true=>exact (h.found hk).1.good x hx
  | false=>rw [(qS hk).1] at hx; cases hx
theorem zR (h:iu l b) (hl:l.length≤8) {n:Nat} (hn:n < l.length) {v:ByteArray} (hv:v.size≤1000) {reads:List ae} (hr:reads.length≤3) (hg:∀ k ∈ reads,mA l k) :
    ∃ r,mO b (rk l n) v reads=some r∧p9 l b.Revision r∧r.Key=rk l n∧r.Verified=b.Revision:=by
  have hw:IntKind.i64.wrap (1 + (reads.length:Int))=1 + (reads.length:Int):=nJ (by omega) (by omega)
  have mk:∀ c:Int,0≤c→c≤b.Revision→∃ r,kM b (rk l n) v reads c=some r∧p9 l b.Revision r∧r.Key=rk l n∧r.Verified=b.Revision:=fun c h1 h2 =>
    ⟨_,rfl,⟨⟨n,hn,rfl⟩,hv,hr,hg,h1,h2,Int.le_refl _,by dsimp only; rw [hw]; omega,fun e=>by cases e⟩,rfl,rfl⟩
  have hrev:=h.rev
  unfold mO
  rw [h.find hl,Option.bind_some]
  unfold kN
  cases hf:(bX b.Records (rk l n)).2 with
  | false=>exact mk _ hrev.1 (Int.le_refl _)
  | true =>
    obtain ⟨h1,_⟩:=h.found hf
    rw [cond_true]
    cases (bX b.Records (rk l n)).1.Value.toList == v.toList with
    | true=>exact mk _ h1.low (by have:=h1.mid; have:=h1.high; omega)
    | false=>exact mk _ hrev.1 (Int.le_refl _)
theorem iu.put (h:iu l b) {r:al} (hr:p9 l b.Revision r):iu l ⟨b.Revision,b.Inputs,nM b.Records r⟩ :=
  ⟨h.rev,h.ins,h.insA,fun x hx=>by rcases B7 hx with hx | rfl; exact h.recs x hx; exact hr,yk h.recsA r⟩
theorem DN (h:iu l b) {r:al} (hr:r.Verified=b.Revision):lu b ⟨b.Revision,b.Inputs,nM b.Records r⟩∧gh ⟨b.Revision,b.Inputs,nM b.Records r⟩ r.Key=true:=by
  refine ⟨fun k hk=>?_,?_⟩
  · unfold gh at hk ⊢
    rw [wj h.recsA]
    split
    · simp [hr]
    · exact hk
  · unfold gh
    rw [wj h.recsA,if_pos rfl]
    simp [hr]
theorem BO {rev:Int} {r:al} (h:p9 l rev r) (g:List ae) (d:Bool) (hd:d=true→∀ k ∈ g,od k=true):p9 l rev (iw g d rev r):=by
  unfold iw
  split
  · rename_i ha
    split
    · rename_i hdd
      refine ⟨h.key,h.value,h.reads,h.good,h.low,h.mid,h.high,h.cost,fun _=>?_⟩
      obtain ⟨x,hx,e⟩:=List.any_eq_true.1 ha
      rw [fK] at e
      show od r.Key=true
      rw [e]
      exact hd hdd x hx
    · exact ⟨h.key,h.value,h.reads,h.good,h.low,by have:=h.mid; have:=h.high; show r.Changed≤rev; omega,Int.le_refl _,h.cost,h.dirty⟩
  · exact h
theorem iu.mark (h:iu l b) (g:List ae) (d:Bool) (hd:d=true→∀ k ∈ g,od k=true):iu l ⟨b.Revision,b.Inputs,b.Records.map (iw g d b.Revision)⟩ :=
  ⟨h.rev,h.ins,h.insA,fun x hx=>by obtain ⟨y,hy,rfl⟩:=List.mem_map.1 hx; exact BO (h.recs y hy) g d hd,yg h.recsA g d _⟩
theorem yC (h:iu l b) (g:List ae) (d:Bool):lu b ⟨b.Revision,b.Inputs,b.Records.map (iw g d b.Revision)⟩:=fun k hk=>by
  unfold gh at hk ⊢
  rw [Bool.and_eq_true,decide_eq_true_eq] at hk
  rw [uO h.recsA,if_pos hk.1]
  unfold iw
  split
  · split
    · simp [hk.2]
    · simp
  · simp [hk.2]
theorem zt (h:iu l b) {g:List ae} {k:ae} (hk:(bX b.Records k).2=true) (hg:k ∈ g):gh ⟨b.Revision,b.Inputs,b.Records.map (iw g false b.Revision)⟩ k=true:=by
  unfold gh
  rw [uO h.recsA,if_pos hk]
  have e:=(h.found hk).2
  unfold iw
  rw [if_pos (by rw [e]; exact List.any_eq_true.2 ⟨k,hg,pv k⟩)]
  simp
theorem Eu {recs:List al} (hS:Aj recs) (rev:Int) (k:ae):Ok (kK recs rev k) fun m=>m.length≤1000∧k ∈ m∧((xG recs rev k=false∧m=[k])∨(xG recs rev k=true∧∀ x ∈ m,xG recs rev x=true)):=by
  cases ho:xG recs rev k with
  | true =>
    refine (Cb hS ho).mono fun m hm=>⟨hm.len hS ho,(hm.2 k).2 ⟨.refl,.refl⟩,.inr ⟨rfl,fun x hx=>qL ho ((hm.2 x).1 hx).1⟩⟩
  | false =>
    unfold kK
    rw [r4 hS.rm,Option.bind_some,ho]
    exact Ok.ret ⟨by simp,List.mem_singleton.2 rfl,.inl ⟨rfl,rfl⟩⟩
theorem BW {recs:List al} {rev:Int} {k:ae} (h:xG recs rev k=true):od k=true∧(bX recs k).2=true:=by
  unfold xG BX at h
  rw [Bool.and_eq_true,Bool.and_eq_true,Bool.and_eq_true] at h
  obtain ⟨h1,h2⟩:=iQ h.1
  rw [h2] at h
  exact ⟨h.2.1.1,h.1⟩
structure A4 (l:List aL) (V:Nat→ByteArray) (b0:ah) (x:aC):Prop where
  sol:pc l V b0 x.S
  base:iu l x.B
  rev:x.B.Revision=b0.Revision
  ins:x.B.Inputs=b0.Inputs
  nd:Nd x.Busy
theorem DI {b:ah} (hb:Rm b.Inputs.length) (k:ae):ny b k=some (cB b k).Changed:=by
  unfold ny
  rw [wC hb]; rfl
noncomputable def mS (x:aC) (k:ae):Bool:=decide (k.Kind=1) || (decide (k.Kind=2) || decide (k.Kind=30)) || (cW x.Busy k && od k) || gh x.B k
theorem Cv {x:aC} (h:iu l x.B) (hl:l.length≤8) (k:ae):fV x k=some (mS x k,x):=by
  unfold fV mS gh cW
  rw [lQ,Option.bind_some]
  generalize (decide (k.Kind=1) || (decide (k.Kind=2) || decide (k.Kind=30)))=i
  have j3f:cm x k false=some ((bX x.B.Records k).2 && decide ((bX x.B.Records k).1.Verified=x.B.Revision),x):=by
    unfold cm
    rw [cond_false,h.find hl,Option.bind_some]
    unfold gg eo
    cases (bX x.B.Records k).2
    · rfl
    · rw [cond_true,Bool.true_and]
      congr 2
  have j3t:cm x k true=some (true,x):=rfl
  cases i
  · rw [cond_false,Option.bind_some]
    cases (bH aA k x.Busy).getD false
    · rw [cond_false,j3f]; rfl
    · rw [cond_true,fF,Option.bind_some]
      cases od k
      · rw [j3f]; rfl
      · rw [j3t]; rfl
  · rw [cond_true,j3t]; rfl
variable (hR:bx l) (hD:zx l (qo b0) V) (hb0:Rm b0.Inputs.length)
include hR hD hb0
theorem uA {s:aj} (hs:pc l V b0 s) (hb:iu l b) {k:ae} (hk:mA l k):Ok (i7 vv s b k) fun y=>pc l V b0 y.2:=by
  have hl:=hR.high
  unfold i7
  refine Ok.eq (lQ _) (Ok.cond (fun _=>Ok.eq (DI (hb.rm hl).2.1 k) (Ok.ret hs)) (fun _=>Ok.eq (hb.find hl k) (Ok.cond (fun _=>Ok.cond (fun _=>?_) (fun _=>?_)) (fun _=>?_))))
  · exact Ok.ret hs
  · refine Ok.bind (Ez hR hD hb0 hs hk) fun y hy=>?_
    unfold fC
    cases y.1.toList == (bX b.Records k).1.Value.toList <;> exact Ok.ret hy.1
  · exact Ok.ret hs
theorem vY {s:aj} (hs:pc l V b0 s) (hb:iu l b) {k:ae} (hk:mA l k):Ok (kd vv s b k) fun y=>pc l V b0 y.2:=by
  have hl:=hR.high
  unfold kd
  refine Ok.eq (fF _) (Ok.cond (fun _=>?_) (fun _=>?_))
  · exact Ok.bind (Ez hR hD hb0 hs hk) fun y hy=>Ok.ret hy.1
  · have:Ok (oC b k) fun _=>True:=by
      unfold oC
      refine Ok.eq (lQ _) (Ok.cond (fun _=>Ok.eq (BA (hb.rm hl).2.1 k) (Ok.ret trivial)) (fun _=>Ok.eq (hb.find hl k) (Ok.cond (fun _=>?_) (fun _=>?_))))
      · unfold kL
        cases ((bX b.Records k).1.Verified == b.Revision) <;> exact Ok.ret trivial
      · exact Ok.ret trivial
    exact Ok.bind this fun y _=>Ok.ret hs
end
end
section
open Go.RowKit
open Go.Lib hiding intOf
noncomputable def psi (l:List aL) (x:aC):Nat:=x.Ran.length + tI (fun n=>!gh x.B (rk l n) || cW x.Busy (rk l n)) l.length
noncomputable def Ex (l:List aL) (b:ah):Nat:=tI (fun n=>!gh b (rk l n)) l.length
noncomputable def CI (l:List aL) (m:List (ae×Bool)):Nat:=tI (fun n=>!cW m (rk l n)) l.length
structure mx (l:List aL) (V:Nat→ByteArray) (b0:ah) (x x':aC):Prop where
  ok:A4 l V b0 x'
  ver:lu x.B x'.B
  busy:∀ k,cW x'.Busy k=cW x.Busy k
  psi:psi l x'≤psi l x
section
variable {l:List aL} {V:Nat→ByteArray} {b0:ah} {x y z:aC}
theorem mx.refl (h:A4 l V b0 x):mx l V b0 x x:=⟨h,lu.refl _,fun _=>rfl,Nat.le_refl _⟩
theorem mx.trans (h:mx l V b0 x y) (k:mx l V b0 y z):mx l V b0 x z:=⟨k.ok,h.ver.trans k.ver,fun q=>(k.busy q).trans (h.busy q),Nat.le_trans k.psi h.psi⟩
theorem xQ {b b':ah} {m m':List (ae×Bool)} (hv:lu b b') (hb:∀ k,cW m' k=true→cW m k=true) (N:Nat):tI (fun n=>!gh b' (rk l n) || cW m' (rk l n)) N≤tI (fun n=>!gh b (rk l n) || cW m (rk l n)) N:=by
  refine uG (fun n h=>?_) N
  rw [Bool.or_eq_true,Bool.not_eq_true'] at h ⊢
  rcases h with h | h
  · left
    cases e:gh b (rk l n) with
    | false=>rfl
    | true=>rw [hv _ e] at h; cases h
  · exact .inr (hb _ h)
theorem mx.base (h:A4 l V b0 x) {b:ah} (hb:iu l b) (hr:b.Revision=x.B.Revision) (hi:b.Inputs=x.B.Inputs) (hv:lu x.B b) {s:aj} (hs:pc l V b0 s):mx l V b0 x ⟨s,b,x.Busy,x.Ran,x.E⟩ :=
  ⟨⟨hs,hb,hr.trans h.rev,hi.trans h.ins,h.nd⟩,hv,fun _=>rfl,Nat.add_le_add_left (xQ hv (fun _ e=>e) _) _⟩
def HS (l:List aL) (V:Nat→ByteArray) (b0:ah) (urec:aC→ae→Option aC) (f:Nat):Prop :=
  ∀ x k,A4 l V b0 x→psi l x≤8→mA l k→CI l x.Busy < f→Ok (urec x k) fun x'=>mx l V b0 x x'∧(x'.E=0→mS x' k=true)
theorem tG {recs:List al} {g h:List ae} {c:cy} (hc:c ∈ eW recs g h):c.Read ∈ wA recs c.Member:=by
  unfold eW Bh at hc
  obtain ⟨m,_,hm⟩:=List.mem_flatMap.1 hc
  obtain ⟨y,hy,rfl⟩:=List.mem_map.1 hm
  exact (List.mem_filter.1 hy).1
theorem tj {m m':List (ae×Bool)} (h:∀ k,cW m' k=cW m k):CI l m'=CI l m:=by
  unfold CI
  congr 1
  funext n
  rw [h]
theorem BD {n:Nat}:(decide ((rk l n).Kind=1) || (decide ((rk l n).Kind=2) || decide ((rk l n).Kind=30)))=false:=Option.some.inj ((lQ _).symm.trans sO)
theorem rR {n:Nat}:(decide ((bn n).Kind=1) || (decide ((bn n).Kind=2) || decide ((bn n).Kind=30)))=true:=Option.some.inj ((lQ _).symm.trans n9)
abbrev Dw (rev:Int) (ins:List aG) (recs:List al) (busy:List (ae×Bool)) (ran:List ae) (e:Int) (rules:List aL) (srev:Int) (sins:List aG) (srecs:List al) (memo:List (ae×ByteArray)) (seen:List (ae×(List ae))):aC :=
  aC.mk (aj.mk rules (ah.mk srev sins srecs) memo seen) (ah.mk rev ins recs) busy ran e
def HZ (l:List aL) (V:Nat→ByteArray) (b0:ah) (x:aC) (k:Nat):Int×Int×(List aG)×(List al)×(List (ae×Bool))×(List ae)×Int×(List aL)×Int×(List aG)×(List al)×(List (ae×ByteArray))×(List (ae×(List ae)))→Prop
  | (at_,rev,ins,recs,busy,ran,e,rules,srev,sins,srecs,memo,seen)=>∃ a:Nat,at_=(a:Int)∧a≤1000000∧mx l V b0 x (Dw rev ins recs busy ran e rules srev sins srecs memo seen)∧(e=0→k + Ex l (ah.mk rev ins recs) * 1000001 + (1000000 - a)≤20000000)∧k≤20000001
def I7 (l:List aL) (V:Nat→ByteArray) (b0:ah) (x:aC) (k:ae):Fl (Int×(List aG)×(List al)×(List (ae×Bool))×(List ae)×Int×(List aL)×Int×(List aG)×(List al)×(List (ae×ByteArray))×(List (ae×(List ae)))) (Bool×aC)→Prop
  | .go (rev,ins,recs,busy,ran,e,rules,srev,sins,srecs,memo,seen)=>mx l V b0 x (Dw rev ins recs busy ran e rules srev sins srecs memo seen)∧e ≠ 0
  | .out (a,x')=>mx l V b0 x x'∧(a=false→x'.E=0→gh x'.B k=true)
section
variable {urec:aC→ae→Option aC} {f n:Nat} (hR:bx l) (hD:zx l (qo b0) V) (hb0:Rm b0.Inputs.length) (hu:HS l V b0 urec f) (hn:n < l.length) (hx:A4 l V b0 x) (hp:psi l x≤8) (hf:CI l x.Busy < f)
include hR hD hb0 hu hn hx hp hf
omit hn hx in
theorem yY {k:Nat} (hk:k≤20000001):∀ s,HZ l V b0 x k s→Ok (em urec vv (rk l n) s.1 s.2.1 s.2.2.1 s.2.2.2.1 s.2.2.2.2.1 s.2.2.2.2.2.1 s.2.2.2.2.2.2.1 s.2.2.2.2.2.2.2.1 s.2.2.2.2.2.2.2.2.1 s.2.2.2.2.2.2.2.2.2.1 s.2.2.2.2.2.2.2.2.2.2.1 s.2.2.2.2.2.2.2.2.2.2.2.1 s.2.2.2.2.2.2.2.2.2.2.2.2) fun y=>match y with
      | .go s'=>k < 20000001∧HZ l V b0 x (k + 1) s'
      | .out y=>I7 l V b0 x (rk l n) y:=by
  rintro ⟨at_,rev,ins,recs,busy,ran,e,rules,srev,sins,srecs,memo,seen⟩ ⟨a,rfl,ha,h1,h2,h3⟩
  dsimp only
  have hl:=hR.high
  have hE:=h1.ok
  have hB:iu l (ah.mk rev ins recs):=hE.base
  have hS:Aj recs:=(hB.rm hl).2.2
  unfold em
  refine Ok.cond (fun he=>?_) (fun he=>Ok.ret ⟨h1,by simpa using he⟩)
  obtain rfl:e=0:=by simpa using he
  have h2:=h2 rfl
  refine Ok.eq (hB.find hl _) ?_
  unfold gf
  refine Ok.cond (fun hn1=>Ok.ret ⟨h1,fun e=>by cases e⟩) (fun hfound=>?_)
  have hfound:(bX recs (rk l n)).2=true:=by simpa using hfound
  refine Ok.cond (fun _=>Ok.ret ⟨h1,fun e=>by cases e⟩) (fun hdirty=>?_)
  refine Ok.cond (fun hver=>Ok.ret ⟨h1,fun _ _=>?_⟩) (fun hver=>?_)
  · show gh (ah.mk rev ins recs) (rk l n)=true
    unfold gh
    have:(bX recs (rk l n)).1.Verified=rev:=by simpa using hver
    simp [hfound,this]
  refine Ok.bind (Eu hS rev (rk l n)) fun g ⟨hg1,hg2,hg3⟩=>?_
  refine Ok.eq (wc hS (by omega)) ?_
  have hlen:(eW recs g g).length≤1000000:=by have:=oL hS g g; omega
  have hgm:Rm g.length:=by unfold Rm; omega
  refine Ok.cond (fun hat=>?_) (fun hat=>?_)
  · refine Ok.eq (uh (b:=ah.mk rev ins recs) (hB.rm hl).1 (hB.rm hl).2.1 hgm false) (Ok.ret ⟨h1.trans (mx.base hE (hB.mark g false (fun e=>by cases e)) rfl rfl (yC hB g false) hE.sol),fun _ _=>zt hB hfound hg2⟩)
  · have hlt:a < (eW recs g g).length:=by have hat:¬ (((eW recs g g).length:Int)≤(a:Int)):=of_decide_eq_false hat; omega
    have hc:=List.getElem?_eq_getElem hlt
    generalize (eW recs g g)[a]=c at hc
    have hcr:=tG (List.mem_of_getElem? hc)
    have hgood:=hB.rdGood (b:=ah.mk rev ins recs) hcr
    refine Ok.eq (by rw [bk]; exact hc) (Ok.eq (Cv hE.base hl c.Read) ?_)
    refine Ok.cond (fun hth=>?_) (fun hth=>?_)
    · have hth:mS (Dw rev ins recs busy ran 0 rules srev sins srecs memo seen) c.Read=false:=by simpa using hth
      refine Ok.bind (hu _ c.Read h1.ok (Nat.le_trans h1.psi hp) hgood (by rw [tj h1.busy]; exact hf)) fun x' ⟨g1,g2⟩=>?_
      refine Ok.ret ⟨by omega,a,rfl,ha,h1.trans g1,fun e0=>?_,by omega⟩
      have ht:=g2 e0
      obtain ⟨j,hj,hcj⟩:∃ j,j < l.length∧c.Read=rk l j:=by
        rcases hgood with ⟨q,_,hq⟩ | h
        · unfold mS at hth
          rw [hq,rR] at hth
          simp at hth
        · exact h
      have hlt2:Ex l x'.B < Ex l (ah.mk rev ins recs):=by
        unfold Ex
        unfold mS at ht hth
        rw [hcj,BD,Bool.false_or] at ht hth
        rw [Bool.or_eq_false_iff] at hth
        rw [g1.busy] at ht
        have hth1:(cW busy (rk l j) && od (rk l j))=false:=hth.1
        have hth2:gh (ah.mk rev ins recs) (rk l j)=false:=hth.2
        have ht2:gh x'.B (rk l j)=true:=by
          have ht3:((cW busy (rk l j) && od (rk l j)) || gh x'.B (rk l j))=true:=ht
          rw [hth1,Bool.false_or] at ht3
          exact ht3
        refine wQ (i:=j) (fun m hm=>?_) (by rw [ht2]; rfl) (by rw [hth2]; rfl) _ hj
        rw [Bool.not_eq_true'] at hm ⊢
        cases e:gh (ah.mk rev ins recs) (rk l m) with
        | false=>rfl
        | true=>rw [g1.ver _ e] at hm; cases hm
      show k + 1 + Ex l x'.B * 1000001 + (1000000 - a)≤20000000
      omega
    · refine Ok.eq (hB.find hl _) ?_
      unfold ge
      refine Ok.bind (uA hR hD hb0 h1.ok.sol h1.ok.base hgood) fun y hy=>?_
      refine Ok.cond (fun _=>?_) (fun _=>?_)
      · refine Ok.eq (fF _) (Ok.cond (fun hcy=>?_) (fun _=>?_))
        · refine Ok.eq (uh (b:=ah.mk rev ins recs) (hB.rm hl).1 (hB.rm hl).2.1 hgm true) ?_
          have hd:true=true→∀ q ∈ g,od q=true:=fun _ q hq=>by
            rcases hg3 with ⟨_,rfl⟩ | ⟨_,h⟩
            · rw [List.mem_singleton.1 hq]; exact hcy
            · exact (BW (h q hq)).1
          exact Ok.ret ⟨h1.trans (mx.base hE (hB.mark g true hd) rfl rfl (yC hB g true) hy),fun e=>by cases e⟩
        · exact Ok.ret ⟨h1.trans (mx.base hE hB rfl rfl (lu.refl _) hy),fun e=>by cases e⟩
      · refine Ok.ret ⟨by omega,a + 1,cT (by omega),by omega,h1.trans (mx.base hE hB rfl rfl (lu.refl _) hy),fun _=>?_,by omega⟩
        show k + 1 + Ex l (ah.mk rev ins recs) * 1000001 + (1000000 - (a + 1))≤20000000
        omega
omit hn in
theorem Bg:Ok (eA urec vv x (rk l n)) fun y=>mx l V b0 x y.2∧(y.1=false→y.2.E=0→gh y.2.B (rk l n)=true):=by
  have hl:=hR.high
  unfold eA
  refine Ok.loop (HZ l V b0 x) (I7 l V b0 x (rk l n)) 20000001 ⟨0,rfl,Nat.zero_le _,mx.refl hx,fun _=>?_,Nat.zero_le _⟩ (fun k s hk hI=>(yY hR hD hb0 hu hp hf hk s hI).mono fun y hy=>by cases y <;> exact hy) ?_
  · have:=qR (fun n=>!gh x.B (rk l n)) l.length
    show 0 + Ex l x.B * 1000001 + (1000000 - 0)≤20000000
    unfold Ex
    omega
  · rintro (⟨rev,ins,recs,busy,ran,e,rules,srev,sins,srecs,memo,seen⟩ | ⟨a,x'⟩) hr
    · exact Ok.ret ⟨hr.1,fun _ e0=>absurd e0 hr.2⟩
    · exact Ok.ret hr
end
end
end
section
open Go.RowKit
open Go.Lib hiding intOf
theorem uT {n:Nat} (h:n < 65536):(cz (n:Int)).size≤1000:=by
  have h1:(cz n).size=(itoa n).length:=by simp [cz,ByteArray.size]
  have:=ub n 9 (by omega)
  rw [h1,nn]; omega
section
variable {l:List aL} {V:Nat→ByteArray} {b0:ah} {x y z:aC}
structure Ran (l:List aL) (V:Nat→ByteArray) (b0:ah) (x:aC) (k:ae) (x':aC):Prop where
  ok:A4 l V b0 x'
  ver:lu x.B x'.B
  busy:∀ k,cW x'.Busy k=cW x.Busy k
  psi:(x'.E=0∧psi l x'≤psi l x + 1∧gh x'.B k=true)∨(x'.E ≠ 0∧psi l x'≤psi l x)
def HQ (l:List aL) (V:Nat→ByteArray) (b0:ah) (x:aC) (N k:Nat):(List ae)×(List ByteArray)×Int×(List aG)×(List al)×(List (ae×Bool))×(List ae)×Int×(List aL)×Int×(List aG)×(List al)×(List (ae×ByteArray))×(List (ae×(List ae)))→Prop
  | (rd,ws,rev,ins,recs,busy,ran,e,rules,srev,sins,srecs,memo,seen)=>mx l V b0 x (Dw rev ins recs busy ran e rules srev sins srecs memo seen)∧ws.length=rd.length∧(∀ q ∈ rd,mA l q)∧rd.length≤N∧(e=0→rd.length=k)
def H1 (l:List aL) (V:Nat→ByteArray) (b0:ah) (x:aC) (k:ae):Fl (Int×(List aG)×(List al)×(List (ae×Bool))×(List ae)×Int×(List aL)×Int×(List aG)×(List al)×(List (ae×ByteArray))×(List (ae×(List ae)))) aC→Prop
  | .go (rev,ins,recs,busy,ran,e,rules,srev,sins,srecs,memo,seen)=>mx l V b0 x (Dw rev ins recs busy ran e rules srev sins srecs memo seen)∧e ≠ 0
  | .out x'=>Ran l V b0 x k x'
section
variable {urec:aC→ae→Option aC} {f n:Nat} {r:aL} (hR:bx l) (hD:zx l (qo b0) V) (hb0:Rm b0.Inputs.length) (hu:HS l V b0 urec f) (hn:l[n]? = some r) (hp:psi l x≤8) (hf:CI l x.Busy < f)
include hR hD hb0 hu hn hp hf
theorem Cj {k:Nat}:∀ s,HQ l V b0 x r.Asks.length k s→Ok (ff urec vv (rk l n) s.1 s.2.1 s.2.2.1 s.2.2.2.1 s.2.2.2.2.1 s.2.2.2.2.2.1 s.2.2.2.2.2.2.1 s.2.2.2.2.2.2.2.1 s.2.2.2.2.2.2.2.2.1 s.2.2.2.2.2.2.2.2.2.1 s.2.2.2.2.2.2.2.2.2.2.1 s.2.2.2.2.2.2.2.2.2.2.2.1 s.2.2.2.2.2.2.2.2.2.2.2.2.1 s.2.2.2.2.2.2.2.2.2.2.2.2.2) fun y=>match y with
      | .go s'=>k < r.Asks.length∧HQ l V b0 x r.Asks.length (k + 1) s'
      | .out y=>H1 l V b0 x (rk l n) y:=by
  rintro ⟨rd,ws,rev,ins,recs,busy,ran,e,rules,srev,sins,srecs,memo,seen⟩ ⟨h1,h2,h3,h4,h5⟩
  dsimp only
  have hl:=hR.high
  have h3l:=(hR.each n r hn).asks
  have hnl:=bh hn
  have hE:=h1.ok
  have hB:iu l (ah.mk rev ins recs):=hE.base
  have hru:rules=l:=hE.sol.rules
  unfold ff
  refine Ok.cond (fun he=>?_) (fun he=>Ok.ret ⟨h1,by simpa using he⟩)
  obtain rfl:e=0:=by simpa using he
  have h5:=h5 rfl
  obtain ⟨t,ht,hcase⟩:=ri hR hn (ws:=ws) (by omega)
  refine Ok.eq (by rw [hru]; exact ht) ?_
  unfold gQ
  rcases hcase with ⟨e1,rfl⟩ | ⟨w,hw,rfl⟩
  · simp only [cond_true]
    refine Ok.eq (hB.find hl _) ?_
    obtain ⟨m,hm1,hm2⟩:=rQ hR hn (ls:=ws) (by omega)
    obtain ⟨q,q1,q2,q3,q4⟩:=zR hB hl hnl (v:=cz (qr r ws)) (by rw [hm1]; exact uT hm2) (reads:=rd) (by omega) h3
    have hran:ran.length≤8:=by have h:=h1.psi; unfold psi at h hp; have h:ran.length + _≤x.Ran.length + _:=h; omega
    have hput:jZ recs q=some (nM recs q):=wD hB.recsA (hB.rm hl).1.1 (by have:=q2.reads; unfold Rm; omega)
    have hj2:Ok (dX (rk l n) rd rev ins recs busy ran 0 rules srev sins srecs memo seen (cz (qr r ws)) false) fun y=>match y with
      | .go s'=>k < r.Asks.length∧HQ l V b0 x r.Asks.length (k + 1) s'
      | .out y=>H1 l V b0 x (rk l n) y:=by
      unfold dX
      simp only [cond_false]
      refine Ok.eq q1 (Ok.eq hput (Ok.gd (eH (by simp; omega)) (Ok.ret ?_)))
      obtain ⟨v1,v2⟩:=DN hB q4
      rw [q3] at v2
      refine ⟨⟨hE.sol,hB.put q2,hE.rev,hE.ins,hE.nd⟩,h1.ver.trans v1,h1.busy,.inl ⟨rfl,?_,v2⟩⟩
      have hc:=xQ (l:=l) (m:=busy) v1 (fun _ e=>e) l.length
      have hpp:=h1.psi
      have hpp:ran.length + tI (fun n=>!gh (ah.mk rev ins recs) (rk l n) || cW busy (rk l n)) l.length≤Go.Proofs.YthefmilamdchiaaGreatDoor.psi l x:=hpp
      show (ran ++ [rk l n]).length + tI (fun n=>!gh (ah.mk rev ins (nM recs q)) (rk l n) || cW busy (rk l n)) l.length≤Go.Proofs.YthefmilamdchiaaGreatDoor.psi l x + 1
      have hc:tI (fun n=>!gh (ah.mk rev ins (nM recs q)) (rk l n) || cW busy (rk l n)) l.length≤tI (fun n=>!gh (ah.mk rev ins recs) (rk l n) || cW busy (rk l n)) l.length:=hc
      rw [List.length_append]
      simp only [List.length_cons,List.length_nil]
      omega
    unfold gP
    have hrl:=hB.nrec
    have hrl:recs.length≤l.length:=hrl
    refine Ok.cond (fun _=>?_) (fun _=>hj2)
    rw [decide_eq_false (by omega)]
    exact hj2
  · simp only [cond_false]
    have hlt:=bh hw
    obtain ⟨_,hg⟩:=nc hR hn hw ws
    have hgood:mA l (pg l w ws):=by
      rcases hg with ⟨_,c,hc,_,e4⟩ | ⟨_,j,hj,_,e4⟩
      · exact .inl ⟨c,hc,e4⟩
      · exact .inr ⟨j,by have:=u0 hnl; omega,e4⟩
    refine Ok.bind (hu _ (pg l w ws) h1.ok (Nat.le_trans h1.psi hp) hgood (by rw [tj h1.busy]; exact hf)) fun x' ⟨g1,g2⟩=>?_
    refine Ok.cond (fun he=>?_) (fun he=>?_)
    · have he:x'.E=0:=by simpa using he
      refine Ok.gd (eH (by simp; omega)) (Ok.bind (vY hR hD hb0 g1.ok.sol g1.ok.base hgood) fun y hy=>Ok.gd (eH (by simp; omega)) (Ok.ret ⟨by omega,(h1.trans g1).trans (mx.base g1.ok g1.ok.base rfl rfl (lu.refl _) hy),?_,?_,?_,fun _=>?_⟩))
      · rw [List.length_append,List.length_append,h2]; rfl
      · intro q hq
        rcases List.mem_append.1 hq with hq | hq
        · exact h3 q hq
        · rw [List.mem_singleton.1 hq]; exact hgood
      · rw [List.length_append]; simp; omega
      · rw [List.length_append,h5]; rfl
    · have he:x'.E ≠ 0:=by simpa using he
      exact Ok.ret ⟨by omega,h1.trans g1,h2,h3,h4,fun e0=>absurd e0 he⟩
theorem Ga (hx:A4 l V b0 x):Ok (fE urec vv x (rk l n)) (Ran l V b0 x (rk l n)):=by
  unfold fE
  refine Ok.loop (HQ l V b0 x r.Asks.length) (H1 l V b0 x (rk l n)) r.Asks.length ⟨mx.refl hx,rfl,fun q hq=>absurd hq List.not_mem_nil,Nat.zero_le _,fun _=>rfl⟩ (fun k s hk hI=>(Cj hR hD hb0 hu hn hp hf s hI).mono fun y hy=>by cases y <;> exact hy) ?_
  rintro (⟨rev,ins,recs,busy,ran,e,rules,srev,sins,srecs,memo,seen⟩ | x') hr
  · exact Ok.ret ⟨hr.1.ok,hr.1.ver,hr.1.busy,.inr ⟨hr.2,hr.1.psi⟩⟩
  · exact Ok.ret hr
end
theorem sf (m:List (ae×Bool)) (k j:ae):cW (cX aA k true m) j=(decide (j=k) || cW m j):=by
  unfold cW
  by_cases e:j=k
  · subst e
    rw [cQ]; simp
  · rw [d5 e]; simp [e]
theorem xM {m:List (ae×Bool)} (h:Nd m) (k j:ae):cW (oZ aA k m) j=(!decide (j=k) && cW m j):=by
  unfold cW
  rw [BP jg j k h]
  by_cases e:j=k
  · subst e
    rw [x9]; simp
  · rw [BG e]; simp [e]
section
variable {urec:aC→ae→Option aC} {f n:Nat} (hR:bx l) (hD:zx l (qo b0) V) (hb0:Rm b0.Inputs.length) (hu:HS l V b0 urec f) (hn:n < l.length) (hx:A4 l V b0 x) (hp:psi l x≤8) (hf:CI l x.Busy < f + 1)
include hR hD hb0 hu hn hx hp hf
theorem Gg (hv:gh x.B (rk l n)=false) (hbu:cW x.Busy (rk l n)=false):Ok ((eA urec vv (aC.mk x.S x.B (cX aA (rk l n) true x.Busy) x.Ran x.E) (rk l n)).bind fun u116=>cond u116.1 ((fE urec vv (aC.mk (aj.mk u116.2.S.Rules (ah.mk u116.2.S.Base.Revision u116.2.S.Base.Inputs u116.2.S.Base.Records) u116.2.S.Memo u116.2.S.Seen) (ah.mk u116.2.B.Revision u116.2.B.Inputs u116.2.B.Records) u116.2.Busy u116.2.Ran u116.2.E) (rk l n)).bind fun u117=>eB (rk l n) u117.B.Revision u117.B.Inputs u117.B.Records u117.Busy u117.Ran u117.E u117.S.Rules u117.S.Base.Revision u117.S.Base.Inputs u117.S.Base.Records u117.S.Memo u117.S.Seen) (eB (rk l n) u116.2.B.Revision u116.2.B.Inputs u116.2.B.Records u116.2.Busy u116.2.Ran u116.2.E u116.2.S.Rules u116.2.S.Base.Revision u116.2.S.Base.Inputs u116.2.S.Base.Records u116.2.S.Memo u116.2.S.Seen))
    fun x'=>mx l V b0 x x'∧(x'.E=0→mS x' (rk l n)=true):=by
  have hl:=hR.high
  have hi:=List.getElem?_eq_getElem hn
  have hx1:A4 l V b0 (aC.mk x.S x.B (cX aA (rk l n) true x.Busy) x.Ran x.E):=⟨hx.sol,hx.base,hx.rev,hx.ins,Nd.put jg hx.nd _ _⟩
  have hp1:psi l (aC.mk x.S x.B (cX aA (rk l n) true x.Busy) x.Ran x.E)≤psi l x:=by
    refine Nat.add_le_add_left (uG (fun m hm=>?_) _) _
    rw [Bool.or_eq_true] at hm ⊢
    rcases hm with hm | hm
    · exact .inl hm
    · rw [sf,Bool.or_eq_true,decide_eq_true_eq] at hm
      rcases hm with hm | hm
      · left; rw [hm,hv]; rfl
      · exact .inr hm
  have hf1:CI l (cX aA (rk l n) true x.Busy) < f:=by
    have:CI l (cX aA (rk l n) true x.Busy) < CI l x.Busy:=by
      refine wQ (i:=n) (fun m hm=>?_) (by rw [sf]; simp) (by rw [hbu]; rfl) _ hn
      rw [sf,Bool.not_eq_true',Bool.or_eq_false_iff] at hm
      rw [hm.2]; rfl
    omega
  have fin:∀ {x2:aC},A4 l V b0 x2→lu x.B x2.B→(∀ k,cW x2.Busy k=(decide (k=rk l n) || cW x.Busy k))→(psi l x2≤psi l x∨(psi l x2≤psi l x + 1∧gh x2.B (rk l n)=true))→(x2.E=0→gh x2.B (rk l n)=true) →
      mx l V b0 x ⟨x2.S,x2.B,oZ aA (rk l n) x2.Busy,x2.Ran,x2.E⟩∧(x2.E=0→mS ⟨x2.S,x2.B,oZ aA (rk l n) x2.Busy,x2.Ran,x2.E⟩ (rk l n)=true):=by
    intro x2 q1 q2 q3 q4 q5
    have hbz:∀ k,cW (oZ aA (rk l n) x2.Busy) k=cW x.Busy k:=fun k=>by
      rw [xM q1.nd,q3]
      by_cases e:k=rk l n
      · rw [e,hbu]; simp
      · simp [e]
    have hm:∀ m,(!gh x2.B (rk l m) || cW (oZ aA (rk l n) x2.Busy) (rk l m))=true→(!gh x2.B (rk l m) || cW x2.Busy (rk l m))=true:=fun m hm=>by
      rw [Bool.or_eq_true] at hm ⊢
      rcases hm with hm | hm
      · exact .inl hm
      · rw [xM q1.nd,Bool.and_eq_true] at hm
        exact .inr hm.2
    refine ⟨⟨⟨q1.sol,q1.base,q1.rev,q1.ins,Nd.del jg q1.nd _⟩,q2,hbz,?_⟩,fun e0=>?_⟩
    · rcases q4 with q4 | ⟨q4,q6⟩
      · exact Nat.le_trans (Nat.add_le_add_left (uG hm _) _) q4
      · have hlt:tI (fun m=>!gh x2.B (rk l m) || cW (oZ aA (rk l n) x2.Busy) (rk l m)) l.length < tI (fun m=>!gh x2.B (rk l m) || cW x2.Busy (rk l m)) l.length:=wQ (i:=n) hm (by rw [q6,hbz,hbu]; rfl) (by rw [q3]; simp) l.length hn
        have q4:x2.Ran.length + tI (fun m=>!gh x2.B (rk l m) || cW x2.Busy (rk l m)) l.length≤Go.Proofs.YthefmilamdchiaaGreatDoor.psi l x + 1:=q4
        show x2.Ran.length + tI (fun m=>!gh x2.B (rk l m) || cW (oZ aA (rk l n) x2.Busy) (rk l m)) l.length≤Go.Proofs.YthefmilamdchiaaGreatDoor.psi l x
        omega
    · unfold mS
      have:gh x2.B (rk l n)=true:=q5 e0
      show (_ || gh x2.B (rk l n))=true
      rw [this,Bool.or_true]
  refine Ok.bind (Bg hR hD hb0 hu hx1 (Nat.le_trans hp1 hp) hf1) fun u ⟨g1,g2⟩=>?_
  have hbu2:∀ k,cW u.2.Busy k=(decide (k=rk l n) || cW x.Busy k):=fun k=>by rw [g1.busy,sf]
  refine Ok.cond (fun hc=>?_) (fun hc=>?_)
  · refine Ok.bind (Ga hR hD hb0 hu hi (x:=u.2) (Nat.le_trans g1.psi (Nat.le_trans hp1 hp)) (by rw [tj g1.busy]; exact hf1) g1.ok) fun x3 h3=>?_
    refine Ok.ret (fin h3.ok (lu.trans g1.ver h3.ver) (fun k=>(h3.busy k).trans (hbu2 k)) ?_ fun e0=>?_)
    · have:=Nat.le_trans g1.psi hp1
      rcases h3.psi with ⟨_,h,h'⟩ | ⟨_,h⟩
      · exact .inr ⟨by omega,h'⟩
      · exact .inl (by omega)
    · rcases h3.psi with ⟨_,_,h'⟩ | ⟨h,_⟩
      · exact h'
      · exact absurd e0 h
  · exact Ok.ret (fin g1.ok g1.ver hbu2 (.inl (Nat.le_trans g1.psi hp1)) (g2 hc))
end
theorem Ey (hR:bx l) (hD:zx l (qo b0) V) (hb0:Rm b0.Inputs.length):∀ f,HS l V b0 (A0 f) f
  | 0=>fun x k _ _ _ h=>absurd h (by omega)
  | f + 1=>by
    intro x k hx hp hk hf
    have ih:=Ey hR hD hb0 f
    have hl:=hR.high
    show Ok (iO (A0 f) vv x k) _
    unfold iO
    refine Ok.cond (fun he=>Ok.ret ⟨mx.refl hx,fun e0=>by rw [e0] at he; cases he⟩) (fun he=>?_)
    refine Ok.eq (lQ k) (Ok.cond (fun hi=>Ok.ret ⟨mx.refl hx,fun _=>?_⟩) (fun hi=>?_))
    · unfold mS
      rw [hi]; rfl
    · obtain ⟨n,hn,rfl⟩:∃ n,n < l.length∧k=rk l n:=by
        rcases hk with ⟨c,_,rfl⟩ | h
        · rw [rR] at hi; cases hi
        · exact h
      refine Ok.eq (hx.base.find hl _) ?_
      have hj3:gh x.B (rk l n)=false→Ok (eC (A0 f) vv x (rk l n) false) fun x'=>mx l V b0 x x'∧(x'.E=0→mS x' (rk l n)=true):=fun hv=>by
        unfold eC
        simp only [cond_false,Option.bind_some]
        refine Ok.cond (fun hbu=>?_) (fun hbu=>Gg hR hD hb0 ih hn hx hp hf hv hbu)
        refine Ok.eq (fF _) (Ok.cond (fun hcy=>?_) (fun hcy=>?_))
        · exact Ok.ret ⟨⟨⟨hx.sol,hx.base,hx.rev,hx.ins,hx.nd⟩,lu.refl _,fun _=>rfl,Nat.le_refl _⟩,fun e0=>by cases e0⟩
        · refine Ok.ret ⟨⟨⟨hx.sol,hx.base,hx.rev,hx.ins,hx.nd⟩,lu.refl _,fun _=>rfl,Nat.le_refl _⟩,fun e0=>?_⟩
          have hc:od (rk l n)=true:=by simpa using hcy
          have hbu:cW x.Busy (rk l n)=true:=hbu
          unfold mS
          show (_ || (cW x.Busy (rk l n) && od (rk l n)) || _)=true
          rw [hc,hbu]; simp
      unfold iB
      refine Ok.cond (fun hf2=>?_) (fun hf2=>hj3 (by unfold gh; rw [hf2]; rfl))
      cases hver:((bX x.B.Records (rk l n)).1.Verified == x.B.Revision) with
      | true =>
        refine Ok.ret ⟨mx.refl hx,fun _=>?_⟩
        unfold mS gh
        rw [hf2,show (bX x.B.Records (rk l n)).1.Verified=x.B.Revision by simpa using hver]
        simp
      | false=>exact hj3 (by unfold gh; rw [show decide ((bX x.B.Records (rk l n)).1.Verified=x.B.Revision)=false by simpa using hver,Bool.and_false])
end
end
section
open Go.RowKit
open Go.Lib hiding intOf
theorem dA {ρ:Type} {B:Int→Option (Fl Int ρ)} {r:ρ} (n:Nat) (hgo:∀ k,k < n→B (k:Int)=some (.go ((k + 1:Nat):Int))) (hn:B (n:Int)=some (.out r)):loop B 0=some r :=
  qW (B:=B) (fun k=>(k:Int)) n rfl hgo hn
section
variable {l:List aL} {b:ah}
theorem AQ (hl:l.length≤8) {rev:Int} (hrev:rev≤1000000) {r:al} (h:p9 l rev r):nx r=some true:=by
  obtain ⟨n,hn,hk⟩:=h.key
  have h3:=h.reads
  have h4:=h.value
  have h5:=h.low
  have h6:=h.mid
  have h7:=h.high
  have h8:=h.cost
  unfold nx
  refine ee (dA (r:=Fl.go ()) r.Reads.length (fun k hk=>?_) ?_) ?_
  · unfold jw
    rw [dlt hk,cond_true,bv hk,Option.bind_some,(h.good _ (List.getElem_mem hk)).valid hl,Option.bind_some,cT (by omega)]
    rfl
  · unfold jw
    rw [bQ]; rfl
  · show jv r=some true
    unfold jv
    rw [hk,yp (by omega),Option.bind_some,cond_true,sO,Option.bind_some,decide_eq_true (by omega),decide_eq_true (by omega),decide_eq_true (by omega),decide_eq_true (by omega),decide_eq_true (by omega),decide_eq_true (by omega),decide_eq_true (by omega)]
    simp only [Bool.not_false,cond_true]
    rw [fF,Option.bind_some]
    unfold b7
    cases hd:r.Dirty with
    | false=>rfl
    | true =>
      have:=h.dirty hd
      rw [hk] at this
      rw [this]; rfl
theorem CB (h:iu l b) (hl:l.length≤8):iH b.Records=some true:=by
  have hn:=h.nrec
  unfold iH
  refine ee (dA (r:=Fl.go ()) b.Records.length (fun k hk=>?_) ?_) ?_
  · unfold fP
    rw [dlt hk,cond_true,bv hk,Option.bind_some,AQ hl h.rev.2 (h.recs _ (List.getElem_mem hk)),Option.bind_some]
    have hj:dw (k:Int) false=some (.go ((k + 1:Nat):Int)):=by unfold dw; rw [cT (by omega)]; rfl
    simp only [Bool.not_true,cond_false]
    rcases Nat.eq_zero_or_pos k with h0 | h0
    · subst h0
      exact hj
    · rw [decide_eq_true (by omega),cond_true,show IntKind.i64.wrap ((k:Int) - 1)=((k - 1:Nat):Int) by rw [nJ (by omega) (by omega)]; omega,bv (show k - 1 < b.Records.length by omega),Option.bind_some,mQ,Option.bind_some]
      have:=List.pairwise_iff_getElem.1 h.recsA (k - 1) k (by omega) hk (by omega)
      rw [decide_eq_false (by omega)]
      exact hj
  · unfold fP
    rw [bQ]; rfl
  · show some (decide ((b.Records.length:Int)≤4000))=some true
    rw [decide_eq_true (by omega)]
theorem xw (h:iu l b) (hl:l.length≤8):jz b=some true:=by
  have hn:=h.nrec
  have hi:=h.nin
  have hrev:=h.rev
  unfold jz
  refine ee (dA (r:=Fl.go ()) b.Inputs.length (fun k hk=>?_) ?_) ?_
  · have hx:=h.ins _ (List.getElem_mem hk)
    obtain ⟨c,hc,hkey⟩:=hx.key
    have h1:=hx.value
    have h2:=hx.low
    have h3:=hx.high
    unfold jD
    rw [dlt hk,cond_true,bv hk,Option.bind_some,hkey,rN (by omega),Option.bind_some]
    have hj:cu (k:Int) false=some (.go ((k + 1:Nat):Int)):=by unfold cu; rw [cT (by omega)]; rfl
    simp only [Bool.not_true,cond_false]
    rw [n9,Option.bind_some]
    simp only [Bool.not_true,cond_false]
    rw [decide_eq_false (show ¬ (1073741824:Int) < (b.Inputs[k].Value.size:Int) by omega),decide_eq_false (show ¬ (b.Inputs[k].Changed:Int) < 0 by omega),decide_eq_false (show ¬ (b.Revision:Int) < b.Inputs[k].Changed by omega)]
    rcases Nat.eq_zero_or_pos k with h0 | h0
    · subst h0
      exact hj
    · rw [decide_eq_true (by omega),cond_true,show IntKind.i64.wrap ((k:Int) - 1)=((k - 1:Nat):Int) by rw [nJ (by omega) (by omega)]; omega,bv (show k - 1 < b.Inputs.length by omega),Option.bind_some,mQ,Option.bind_some]
      have:=List.pairwise_iff_getElem.1 h.insA (k - 1) k (by omega) hk (by omega)
      rw [hkey] at this
      rw [decide_eq_false (by omega)]
      exact hj
  · unfold jD
    rw [bQ]; rfl
  · show jB b=some true
    unfold jB
    refine ee (dA (r:=Fl.go ()) b.Records.length (fun k hk=>?_) ?_) ?_
    · have:=(h.recs _ (List.getElem_mem hk)).high
      unfold jC
      rw [dlt hk,cond_true,bv hk,Option.bind_some,decide_eq_false (by omega),cT (by omega)]; rfl
    · unfold jC
      rw [bQ]; rfl
    · show jA b=some true
      unfold jA
      rw [decide_eq_true hrev.1,decide_eq_true (by omega),decide_eq_true (by omega),CB h hl]; rfl
theorem Cd (hl:l.length≤8) {k:ae} (hk:mA l k):lE l k=some true:=by
  unfold lE
  rw [hk.valid hl,Option.bind_some,cond_true]
  rcases hk with ⟨c,hc,rfl⟩ | ⟨n,hn,rfl⟩
  · rfl
  · have h1:∀ q,eS ((q:ae).Kind == q.Kind && q.Text.toList == q.Text.toList)=some true:=fun q=>by unfold eS; simp
    rcases nY (l:=l) (n:=n) with ⟨h,_⟩ | ⟨h,_⟩
    · rw [show ((rk l n).Kind != 31)=false by rw [h]; rfl,cond_false,oH,Option.bind_some,vk (by omega),vl hn (by omega),Option.bind_some]
      exact h1 _
    · rw [show ((rk l n).Kind != 31)=true by rw [h]; rfl,cond_true,show ((rk l n).Kind != 32)=false by rw [h]; rfl,cond_false,oH,Option.bind_some,vk (by omega),vl hn (by omega),Option.bind_some]
      exact h1 _
theorem wO (hR:bx l) (h:iu l b) {goals:List ae} (hg:∀ k ∈ goals,mA l k) (hn:goals.length≤32):jH l b goals=some 0:=by
  have hl:=hR.high
  unfold jH
  rw [AS hR.bnd,y7 hR,Option.bind_some]
  simp only [Bool.not_true,cond_false]
  rw [xw h hl,Option.bind_some,decide_eq_false (by omega)]
  simp only [Bool.not_true,cond_false]
  refine ee (dA (r:=Fl.go ()) goals.length (fun k hk=>?_) ?_) rfl
  · unfold jI
    rw [dlt hk,cond_true,bv hk,Option.bind_some,Cd hl (hg _ (List.getElem_mem hk)),Option.bind_some,cT (by omega)]; rfl
  · unfold jI
    rw [bQ]; rfl
def Jl (l:List aL) (V:Nat→ByteArray) (b0:ah) (k:Nat):Int×Int×(List aG)×(List al)×(List (ae×Bool))×(List ae)×Int×(List aL)×Int×(List aG)×(List al)×(List (ae×ByteArray))×(List (ae×(List ae)))→Prop
  | (i,rev,ins,recs,busy,ran,e,rules,srev,sins,srecs,memo,seen)=>i=(k:Int)∧A4 l V b0 (Dw rev ins recs busy ran e rules srev sins srecs memo seen)∧psi l (Dw rev ins recs busy ran e rules srev sins srecs memo seen)≤8
def Jq (l:List aL) (V:Nat→ByteArray) (b0:ah):Int×(List aG)×(List al)×(List (ae×Bool))×(List ae)×Int×(List aL)×Int×(List aG)×(List al)×(List (ae×ByteArray))×(List (ae×(List ae)))→Prop
  | (rev,ins,recs,busy,ran,e,rules,srev,sins,srecs,memo,seen)=>A4 l V b0 (Dw rev ins recs busy ran e rules srev sins srecs memo seen)∧psi l (Dw rev ins recs busy ran e rules srev sins srecs memo seen)≤8
structure rM (l:List aL) (b b':ah):Prop where
  ok:iu l b'
  rev:b'.Revision=b.Revision
  ins:b'.Inputs=b.Inputs
theorem zi (hR:bx l) (h:iu l b) {goals:List ae} (hg:∀ k ∈ goals,mA l k) (hn:goals.length≤32):Ok (kP uu l b goals) fun y=>rM l b y.1:=by
  have hl:=hR.high
  have hb0:=(h.rm hl).2.1
  have hD:=Bs (qo b) hR
  have hcp:=rP (h.rm hl).1 hb0
  unfold kP
  rw [hcp,Option.bind_some,wO hR h hg hn,Option.bind_some]
  simp only [show ((0:Int) != 0)=false from rfl,cond_false]
  refine Ok.eq (v:=aj.mk l b [] []) rfl ?_
  rw [hcp,Option.bind_some]
  unfold ke
  refine Ok.loop (Jl l (Vd l (qo b)) b) (Jq l (Vd l (qo b)) b) goals.length ?_ ?_ ?_
  · refine ⟨rfl,⟨⟨rfl,rfl,fun n _ v e=>(by cases e),fun c=>rfl⟩,h,rfl,rfl,List.Pairwise.nil⟩,?_⟩
    have:=qR (fun n=>!gh b (rk l n) || cW [] (rk l n)) l.length
    show 0 + tI (fun n=>!gh b (rk l n) || cW [] (rk l n)) l.length≤8
    omega
  · rintro k ⟨i,rev,ins,recs,busy,ran,e,rules,srev,sins,srecs,memo,seen⟩ hk ⟨rfl,h1,h2⟩
    dsimp only
    unfold kf
    refine Ok.cond (fun hlt=>?_) (fun _=>Ok.ret ⟨h1,h2⟩)
    have hlt:k < goals.length:=by have:=of_decide_eq_true hlt; omega
    have hnb:=qR (fun n=>!cW busy (rk l n)) l.length
    refine Ok.eq (bv hlt) (Ok.bind (Ey hR hD hb0 40 _ _ h1 h2 (hg _ (List.getElem_mem hlt)) (show tI (fun n=>!cW busy (rk l n)) l.length < 40 by omega)) fun x' ⟨g1,_⟩=>?_)
    exact Ok.ret ⟨hlt,cT (by omega),g1.ok,Nat.le_trans g1.psi h2⟩
  · rintro ⟨rev,ins,recs,busy,ran,e,rules,srev,sins,srecs,memo,seen⟩ ⟨h1,h2⟩
    dsimp only
    unfold ie
    refine Ok.cond (fun _=>Ok.ret ⟨h,rfl,rfl⟩) (fun _=>?_)
    have hr:ran.length≤8:=by
      have h2:ran.length + _≤8:=h2
      omega
    obtain ⟨m,hm,_⟩:=rK (l:=ran) (by unfold Rm; omega)
    exact Ok.eq hm (Ok.ret ⟨h1.base,h1.rev,h1.ins⟩)
theorem Do (hR:bx l) {d:List Int} {i:Int} (hd:bN d i):Ok (pz ⟨d,i⟩ l) fun y=>mA l y.1∧bN y.2.L y.2.At:=by
  have hl:=hR.high
  have h2l:=hR.low
  unfold pz
  refine Ok.bind (c7 hd (by omega) (by omega)) fun y ⟨_,_,d1⟩=>Ok.cond (fun _=>?_) (fun _=>?_)
  · refine Ok.bind (c7 d1 (by omega) (by omega)) fun z ⟨z1,z2,d2⟩=>?_
    obtain ⟨c,hc⟩:∃ c:Nat,z.1=c:=⟨z.1.toNat,by omega⟩
    rw [hc]
    exact Ok.eq (oy (by omega)) (Ok.ret ⟨.inl ⟨c,by omega,rfl⟩,d2⟩)
  · refine Ok.bind (c7 d1 (by omega) (by omega)) fun z ⟨z1,z2,d2⟩=>Ok.cond (fun _=>?_) (fun _=>?_)
    · refine Ok.bind (c7 d2 (by omega) (by omega)) fun w ⟨w1,w2,d3⟩=>?_
      have e1:IntKind.i64.wrap ((l.length:Int) - 1)=(l.length:Int) - 1:=nJ (by omega) (by omega)
      rw [e1,nJ (by omega) (by omega)]
      obtain ⟨c,hc⟩:∃ c:Nat,(l.length:Int) - 1 - w.1=c:=⟨((l.length:Int) - 1 - w.1).toNat,by omega⟩
      rw [hc]
      exact Ok.eq (vl (by omega) (by omega)) (Ok.ret ⟨.inr ⟨c,by omega,rfl⟩,d3⟩)
    · refine Ok.bind (c7 d2 (by omega) (by omega)) fun w ⟨w1,w2,d3⟩=>?_
      obtain ⟨c,hc⟩:∃ c:Nat,w.1=c:=⟨w.1.toNat,by omega⟩
      rw [hc]
      exact Ok.eq (vl (by omega) (by omega)) (Ok.ret ⟨.inr ⟨c,by omega,rfl⟩,d3⟩)
theorem xY (hR:bx l) {d:List Int} {i:Int} (hd:bN d i) {most:Int} (h1:1≤most) (h2:most≤30):Ok (mG ⟨d,i⟩ l most) fun y=>(∀ k ∈ y.1,mA l k)∧y.1.length≤32∧bN y.2.L y.2.At:=by
  unfold mG
  refine Ok.bind (c7 hd h1 (by omega)) fun y ⟨y1,y2,d1⟩=>?_
  rw [nJ (by omega) (by omega)]
  refine Ok.loop (fun (k:Nat) (s:(List ae)×Int×(List Int)×Int)=>(∀ q ∈ s.1,mA l q)∧s.1.length=k∧s.2.1=y.1 + 1 - k∧bN s.2.2.1 s.2.2.2) (fun r=>(∀ q ∈ r.1,mA l q)∧r.1.length≤32∧bN r.2.1 r.2.2) 31 ⟨fun q hq=>absurd hq List.not_mem_nil,rfl,by simp,d1⟩ ?_ (fun r hr=>Ok.ret hr)
  rintro k ⟨gs,c,d,i⟩ hk ⟨g1,g2,g3,g4⟩
  dsimp only at g1 g2 g3 g4 ⊢
  unfold mX
  refine Ok.cond (fun hc=>?_) (fun _=>Ok.ret ⟨g1,by show gs.length≤32; omega,g4⟩)
  have hc:=of_decide_eq_true hc
  refine Ok.bind (Do hR g4) fun z ⟨z1,z2⟩=>Ok.gd (eH (by simp; omega)) (Ok.ret ⟨by omega,?_,by rw [List.length_append,g2]; rfl,?_,z2⟩)
  · intro q hq
    rcases List.mem_append.1 hq with hq | hq
    · exact g1 q hq
    · rw [List.mem_singleton.1 hq]; exact z1
  · show IntKind.i64.wrap (c - 1)=_
    rw [nJ (by omega) (by omega)]; omega
end
end
section
open Go.RowKit
open Go.Lib hiding intOf
section
variable {l:List aL} {V:Nat→ByteArray} {b0 b:ah}
theorem wR (hR:bx l):iP l=some l:=by
  have h8:=hR.high
  unfold iP iC
  refine ee (dZ (xs:=l) (fun k=>(l.take k,(k:Int))) rfl (r:=l) (fun k x hx=>?_) ?_) rfl
  · have hlt:=bh hx
    have:=(hR.each k x hx).asks
    unfold fW
    dsimp only
    rw [dlt hlt,cond_true,bk,hx,Option.bind_some,eH (by simp; omega),eH (by rw [List.length_take]; simp; omega),cT (by omega),cw hx]
    rfl
  · unfold fW
    dsimp only
    rw [bQ,List.take_length]; rfl
structure xC (l:List aL) (f:bc):Prop where
  key:∃ n,n < l.length∧f.Key=rk l n
  at0:0≤f.At
  at1:f.At≤1000000
  reads:f.Reads.length≤3
  same:f.Answers.length=f.Reads.length
  good:∀ k ∈ f.Reads,mA l k
theorem ry {fs:List bc} (h:∀ f ∈ fs,xC l f) (hl:fs.length≤1000):dB fs=some fs:=by
  unfold dB cn
  refine ee (dZ (xs:=fs) (fun k=>(fs.take k,(k:Int))) rfl (r:=fs) (fun k x hx=>?_) ?_) rfl
  · have hlt:=bh hx
    have hf:=h x (List.mem_of_getElem? hx)
    have h1:=hf.reads
    have h2:=hf.same
    unfold bD
    dsimp only
    rw [dlt hlt,cond_true,bk,hx,Option.bind_some,eH (by simp; omega),eH (by simp; omega),eH (by rw [List.length_take]; simp; omega),cT (by omega),cw hx]
    rfl
  · unfold bD
    dsimp only
    rw [bQ,List.take_length]; rfl
theorem BV {fs:List bc} (hl:fs.length≤1000) (k:ae):Ok (oD fs k) fun _=>True:=by
  unfold oD
  refine Ok.loop (fun (i:Nat) (s:Int)=>s=i∧i≤fs.length) (fun _=>True) fs.length ⟨rfl,Nat.zero_le _⟩ ?_ ?_
  · rintro i _ hi ⟨rfl,_⟩
    unfold oU
    refine Ok.cond (fun hlt=>?_) (fun _=>Ok.ret trivial)
    have hlt:i < fs.length:=by have:=of_decide_eq_true hlt; omega
    refine Ok.eq (bv hlt) (Ok.cond (fun _=>Ok.ret trivial) (fun _=>Ok.ret ⟨hlt,cT (by omega),hlt⟩))
  · rintro (_ | _) _ <;> exact Ok.ret trivial
theorem ww (hl:l.length≤8) (hb:iu l b) {fs:List bc} (hf:fs.length≤1000) {k:ae} (hk:mA l k):Ok (kg b fs k) fun y=>y=true→∃ n,n < l.length∧k=rk l n:=by
  unfold kg
  refine Ok.eq (lQ k) (Ok.cond (fun _=>Ok.ret fun e=>by cases e) (fun hi=>?_))
  have hn:∃ n,n < l.length∧k=rk l n:=by
    rcases hk with ⟨c,_,rfl⟩ | h
    · rw [rR] at hi; cases hi
    · exact h
  refine Ok.bind (BV hf k) fun _ _=>Ok.cond (fun _=>Ok.ret fun _=>hn) (fun _=>Ok.eq (hb.find hl k) (Ok.cond (fun _=>Ok.ret fun _=>hn) (fun _=>Ok.ret fun _=>hn)))
theorem zP (hl:l.length≤8) (hb:iu l b) {fs:List bc} (hf:fs.length≤1000) {k:ae} (hk:mA l k):Ok (mP b fs [] k) fun y=>y=1→∃ n,n < l.length∧k=rk l n:=by
  have hj:∀ g,Ok (i8 b fs [] k g) fun y=>y=1→∃ n,n < l.length∧k=rk l n:=fun g=>by
    unfold i8
    refine Ok.cond (fun _=>Ok.ret fun e=>by cases e) (fun _=>Ok.bind (ww hl hb hf hk) fun y hy=>Ok.cond (fun _=>Ok.ret fun e=>by cases e) (fun hn=>?_))
    have hn:=hy (by simpa using hn)
    refine Ok.bind (BV (by simp) k) fun _ _=>Ok.cond (fun _=>Ok.ret fun _=>hn) (fun _=>Ok.eq (fF _) (Ok.cond (fun _=>Ok.ret fun _=>hn) (fun _=>Ok.ret fun _=>hn)))
  unfold mP
  exact Ok.eq (fF _) (Ok.cond (fun _=>Ok.bind (BV hf k) fun _ _=>hj _) (fun _=>hj _))
structure zy (l:List aL) (V:Nat→ByteArray) (b0 b:ah) (N:Nat) (y:ah×(List bc)×(List ae)×Bool×Int×aj):Prop where
  lv:rM l b y.1
  fr:∀ f ∈ y.2.1,xC l f
  len:y.2.1.length≤N + 1
  wk:y.2.2.1.length≤1
  sol:pc l V b0 y.2.2.2.2.2
theorem Cn {fs:List bc} (h:∀ f ∈ fs,xC l f) {f:bc} (hf:xC l f) (i:Nat):∀ g ∈ fs.set i f,xC l g:=fun g hg=>by
  rcases List.mem_or_eq_of_mem_set hg with hg | rfl
  · exact h g hg
  · exact hf
theorem yT {fs:List bc} (h:∀ f ∈ fs,xC l f) {n:Nat} (hn:n < l.length):∀ g ∈ fs ++ [bc.mk (rk l n) false 0 [] []],xC l g:=fun g hg=>by
  rcases List.mem_append.1 hg with hg | hg
  · exact h g hg
  · rw [List.mem_singleton.1 hg]
    exact ⟨⟨n,hn,rfl⟩,Int.le_refl _,by show (0:Int)≤1000000; omega,Nat.zero_le _,rfl,fun k hk=>absurd hk List.not_mem_nil⟩
theorem AB (hR:bx l) (hD:zx l (qo b0) V) (hb0:Rm b0.Inputs.length) {s:aj} (hs:pc l V b0 s) (hb:iu l b) {fs:List bc} (hf:∀ f ∈ fs,xC l f) (h0:0 < fs.length) (hlen:fs.length≤900) :
    Ok (mg vv s b fs []) (zy l V b0 b fs.length):=by
  have hl:=hR.high
  have hS:Aj b.Records:=(hb.rm hl).2.2
  have hw:IntKind.i64.wrap ((fs.length:Int) - 1)=((fs.length - 1:Nat):Int):=by rw [nJ (by omega) (by omega)]; omega
  have hlast:=List.getElem?_eq_getElem (l:=fs) (i:=fs.length - 1) (by omega)
  have hmem:=List.mem_of_getElem? hlast
  generalize fs[fs.length - 1]=f at hlast hmem
  have hF:=hf f hmem
  obtain ⟨n,hn,hkey⟩:=hF.key
  have hi:=List.getElem?_eq_getElem hn
  generalize l[n]=r at hi
  have lv0:rM l b b:=⟨hb,rfl,rfl⟩
  have htake:∀ g ∈ fs.take (fs.length - 1),xC l g:=fun g hg=>hf g (List.mem_of_mem_take hg)
  have hru:=hs.rules
  have hr3:=hF.reads
  have hsm:=hF.same
  unfold mg
  refine Ok.eq (rP (hb.rm hl).1 (hb.rm hl).2.1) (Ok.eq (ry hf (by omega)) ?_)
  rw [hw]
  refine Ok.eq (by rw [bk]; exact hlast) (Ok.eq (rc (by omega)) (Ok.eq (hb.find hl _) ?_))
  unfold k9
  refine Ok.cond (fun hrun=>?_) (fun hrun=>?_)
  · obtain ⟨t,ht,hcase⟩:∃ t,dz l (rk l n) f.Answers=some t∧((r.Asks.length≤f.Answers.length∧t=⟨true,cz (qr r (f.Answers.take r.Asks.length)),⟨0,⟨#[]⟩⟩⟩)∨∃ x,r.Asks[f.Answers.length]? = some x∧t=⟨false,⟨#[]⟩,pg l x f.Answers⟩):=by
      rcases Nat.lt_or_ge f.Answers.length r.Asks.length with h1 | h1
      · exact ⟨_,vr hR hi (List.getElem?_eq_getElem h1),.inr ⟨_,List.getElem?_eq_getElem h1,rfl⟩⟩
      · exact ⟨_,tA hR hi h1,.inl ⟨h1,rfl⟩⟩
    refine Ok.eq (by rw [hru,hkey]; exact ht) ?_
    unfold k7
    rcases hcase with ⟨_,rfl⟩ | ⟨x,hx,rfl⟩
    · simp only [cond_true]
      obtain ⟨m,hm1,hm2⟩:=rQ hR hi (ls:=f.Answers.take r.Asks.length) (by rw [List.length_take]; omega)
      obtain ⟨q,q1,q2,q3,q4⟩:=zR hb hl hn (v:=cz (qr r (f.Answers.take r.Asks.length))) (by rw [hm1]; exact uT hm2) hr3 hF.good
      have hput:jZ b.Records q=some (nM b.Records q):=wD hb.recsA (hb.rm hl).1.1 (by have:=q2.reads; unfold Rm; omega)
      have hj2:Ok (gn s b fs f (fs.take (fs.length - 1)) (cz (qr r (f.Answers.take r.Asks.length))) false) (zy l V b0 b fs.length):=by
        unfold gn
        simp only [cond_false]
        refine Ok.eq (by rw [hkey]; exact q1) (Ok.eq hput (Ok.ret ⟨⟨hb.put q2,rfl,rfl⟩,htake,?_,Nat.le_refl _,hs⟩))
        show (fs.take (fs.length - 1)).length≤fs.length + 1
        rw [List.length_take]; omega
      have hrl:=hb.nrec
      rw [decide_eq_false (by omega)]
      exact Ok.cond (fun _=>hj2) (fun _=>hj2)
    · simp only [cond_false]
      have hlt:=bh hx
      have h3:=(hR.each n r hi).asks
      obtain ⟨_,hg⟩:=nc hR hi hx f.Answers
      have hgood:mA l (pg l x f.Answers):=by
        rcases hg with ⟨_,c,hc,_,e4⟩ | ⟨_,j,hj,_,e4⟩
        · exact .inl ⟨c,hc,e4⟩
        · exact .inr ⟨j,by have:=u0 hn; omega,e4⟩
      refine Ok.bind (zP hl hb (by omega) hgood) fun y hy=>?_
      refine Ok.cond (fun h1=>?_) (fun _=>Ok.cond (fun _=>?_) (fun _=>Ok.cond (fun _=>?_) (fun _=>?_)))
      · obtain ⟨m,hm,e⟩:=hy (by simpa using h1)
        refine Ok.gd (eH (by simp; omega)) (Ok.ret ⟨lv0,?_,?_,Nat.zero_le _,hs⟩)
        · have e:pg l x f.Answers=rk l m:=e
          show ∀ g ∈ fs ++ [bc.mk (pg l x f.Answers) false 0 [] []],xC l g
          rw [e]; exact yT hf hm
        · show (fs ++ [_]).length≤_
          rw [List.length_append]; exact Nat.le_refl _
      · exact Ok.ret ⟨lv0,hf,Nat.le_succ _,Nat.zero_le _,hs⟩
      · exact Ok.ret ⟨lv0,hf,Nat.le_succ _,Nat.zero_le _,hs⟩
      · refine Ok.gd (eH (by simp; omega)) (Ok.bind (vY hR hD hb0 hs hb hgood) fun z hz=>Ok.gd (eH (by simp; omega)) ?_)
        have hnew:xC l (bc.mk f.Key f.Running f.At (f.Reads ++ [pg l x f.Answers]) (f.Answers ++ [z.1])):=by
          refine ⟨hF.key,hF.at0,hF.at1,?_,?_,?_⟩
          · show (f.Reads ++ [_]).length≤3
            rw [List.length_append]; simp; omega
          · show (f.Answers ++ [_]).length=(f.Reads ++ [_]).length
            rw [List.length_append,List.length_append,hsm]; rfl
          · intro k hk
            rcases List.mem_append.1 hk with hk | hk
            · exact hF.good k hk
            · rw [List.mem_singleton.1 hk]; exact hgood
        exact Ok.ret ⟨lv0,Cn hf hnew _,by show (fs.set _ _).length≤_; rw [List.length_set]; exact Nat.le_succ _,Nat.zero_le _,hz⟩
  · refine Ok.bind (Eu hS b.Revision f.Key) fun g ⟨hg1,hg2,hg3⟩=>Ok.eq (wc hS (by omega)) ?_
    have hclen:(eW b.Records g g).length≤1000000:=by have:=oL hS g g; omega
    have hgm:Rm g.length:=by unfold Rm; omega
    have nk:∀ i f',xC l f'→(∀ g ∈ fs.set i f',xC l g)∧(fs.set i f').length≤fs.length + 1:=fun i f' hf'=>⟨Cn hf hf' i,by rw [List.length_set]; exact Nat.le_succ _⟩
    have hrun1:xC l (bc.mk f.Key true 0 f.Reads f.Answers):=⟨hF.key,Int.le_refl _,by show (0:Int)≤1000000; omega,hF.reads,hF.same,hF.good⟩
    have hj5:∀ q:Bool,(q=false→(bX b.Records f.Key).2=true)→Ok (gq vv s [] b fs f (fs.take (fs.length - 1)) g (eW b.Records g g) q) (zy l V b0 b fs.length):=fun q hq=>by
      unfold gq
      refine Ok.cond (fun _=>Ok.ret ⟨lv0,(nk _ _ hrun1).1,(nk _ _ hrun1).2,Nat.zero_le _,hs⟩) (fun _=>?_)
      refine Ok.cond (fun _=>?_) (fun hat=>?_)
      · refine Ok.eq (uh (hb.rm hl).1 (hb.rm hl).2.1 hgm false) (Ok.ret ⟨⟨hb.mark g false (fun e=>by cases e),rfl,rfl⟩,htake,?_,Nat.zero_le _,hs⟩)
        show (fs.take (fs.length - 1)).length≤fs.length + 1
        rw [List.length_take]; omega
      · have hat:=of_decide_eq_false hat
        have hat0:=hF.at0
        obtain ⟨a,ha⟩:∃ a:Nat,f.At=a:=⟨f.At.toNat,by omega⟩
        have hlt:a < (eW b.Records g g).length:=by omega
        have hc:=List.getElem?_eq_getElem hlt
        generalize (eW b.Records g g)[a]=c at hc
        have hgood:=hb.rdGood (tG (List.mem_of_getElem? hc))
        refine Ok.eq (by rw [ha,bk]; exact hc) (Ok.bind (zP hl hb (by omega) hgood) fun y hy=>?_)
        refine Ok.cond (fun h1=>?_) (fun _=>Ok.cond (fun _=>?_) (fun _=>Ok.cond (fun _=>?_) (fun _=>?_)))
        · obtain ⟨m,hm,e⟩:=hy (by simpa using h1)
          refine Ok.gd (eH (by simp; omega)) (Ok.ret ⟨lv0,?_,?_,Nat.zero_le _,hs⟩)
          · show ∀ g ∈ fs ++ [bc.mk c.Read false 0 [] []],xC l g
            rw [e]; exact yT hf hm
          · show (fs ++ [_]).length≤_
            rw [List.length_append]; exact Nat.le_refl _
        · exact Ok.ret ⟨lv0,hf,Nat.le_succ _,Nat.zero_le _,hs⟩
        · exact Ok.ret ⟨lv0,hf,Nat.le_succ _,Nat.zero_le _,hs⟩
        · refine Ok.eq (hb.find hl _) (Ok.bind (Q:=fun z:Int×aj=>pc l V b0 z.2) (by unfold pW; exact Ok.bind (uA hR hD hb0 hs hb hgood) fun z hz=>Ok.ret hz) fun z hz=>?_)
          refine Ok.cond (fun _=>?_) (fun _=>?_)
          · have hw1:IntKind.i64.wrap (f.At + 1)=f.At + 1:=nJ (by omega) (by omega)
            have hf':xC l (bc.mk f.Key f.Running (IntKind.i64.wrap (f.At + 1)) f.Reads f.Answers):=⟨hF.key,by show 0≤IntKind.i64.wrap (f.At + 1); rw [hw1]; omega,by show IntKind.i64.wrap (f.At + 1)≤_; rw [hw1]; omega,hF.reads,hF.same,hF.good⟩
            exact Ok.ret ⟨lv0,(nk _ _ hf').1,(nk _ _ hf').2,Nat.zero_le _,hz⟩
          · refine Ok.eq (fF _) (Ok.cond (fun hcy=>?_) (fun _=>?_))
            · have hd:true=true→∀ q ∈ g,od q=true:=fun _ q hq=>by
                rcases hg3 with ⟨_,rfl⟩ | ⟨_,h⟩
                · rw [List.mem_singleton.1 hq]; exact hcy
                · exact (BW (h q hq)).1
              exact Ok.eq (uh (hb.rm hl).1 (hb.rm hl).2.1 hgm true) (Ok.ret ⟨⟨hb.mark g true hd,rfl,rfl⟩,(nk _ _ hrun1).1,(nk _ _ hrun1).2,Nat.zero_le _,hz⟩)
            · exact Ok.ret ⟨lv0,(nk _ _ hrun1).1,(nk _ _ hrun1).2,Nat.zero_le _,hz⟩
    have hj6:∀ q:Bool,Ok (gr vv s [] b fs f (fs.take (fs.length - 1)) (bX b.Records f.Key).2 (bX b.Records f.Key).1.Dirty g (eW b.Records g g) q) (zy l V b0 b fs.length):=fun q=>by
      unfold gr
      refine Ok.cond (fun _=>Ok.ret ⟨lv0,htake,?_,Nat.zero_le _,hs⟩) (fun _=>Ok.cond (fun _=>hj5 true (fun e=>by cases e)) (fun hh=>hj5 _ (fun _=>by simpa using hh)))
      show (fs.take (fs.length - 1)).length≤fs.length + 1
      rw [List.length_take]; omega
    exact Ok.cond (fun _=>hj6 _) (fun _=>hj6 _)
end
end
section
open Go.RowKit
open Go.Lib hiding intOf
section
variable {l:List aL} {b:ah} {V:Nat→ByteArray}
structure yS (l:List aL) (b:ah) (N:Nat) (t:cJ):Prop where
  rules:t.Rules=l
  lv:rM l b t.Base
  goals:∀ k ∈ t.Goals,mA l k
  ng:t.Goals.length≤32
  fr:∀ f ∈ t.Stack,xC l f
  len:t.Stack.length≤N
  ran:t.Ran.length≤N
theorem uH (hR:bx l) {N:Nat} (hN:N≤100) {t:cJ} (h:yS l b N t):ln t=some t:=by
  have hl:=hR.high
  have h1:=h.ng
  have h2:=h.len
  have h3:=h.ran
  unfold ln
  rw [h.rules,wR hR,Option.bind_some,rP (h.lv.ok.rm hl).1 (h.lv.ok.rm hl).2.1,Option.bind_some,eH (by simp; omega),ry h.fr (by omega),eH (by simp; omega)]
  rw [← h.rules]; rfl
theorem DK (hR:bx l) (hD:zx l (qo b) V) (hb:iu l b) {s:aj} (hs:pc l V b s) {N:Nat} (hN:N≤90) {t:cJ} (h:yS l b N t):Ok (oE vv s t) fun y=>yS l b (N + 1) y.1∧pc l V b y.2.2.2:=by
  have hl:=hR.high
  have hb0:=(hb.rm hl).2.1
  have h1:=h.ng
  have h2:=h.len
  have h3:=h.ran
  have up:yS l b (N + 1) t:=⟨h.rules,h.lv,h.goals,h.ng,h.fr,by omega,by omega⟩
  unfold oE
  refine Ok.eq (uH hR (by omega) h) (Ok.cond (fun h0=>Ok.cond (fun _=>Ok.ret ⟨up,hs⟩) (fun hg=>?_)) (fun h0=>?_))
  · have hg0:0 < t.Goals.length:=by
      rcases Nat.eq_zero_or_pos t.Goals.length with e | e
      · rw [e] at hg; cases hg
      · exact e
    have hk:=h.goals _ (List.getElem_mem hg0)
    refine Ok.eq (by have:=bv hg0; exact this) (Ok.eq (by have:=uj (xs:=t.Goals) (a:=1) (by omega); exact this) (Ok.bind (ww hl h.lv.ok (by simp) hk) fun y hy=>?_))
    have hg1:∀ k ∈ t.Goals.drop 1,mA l k:=fun k hk=>h.goals k (List.mem_of_mem_drop hk)
    have hg2:(t.Goals.drop 1).length≤32:=by rw [List.length_drop]; omega
    refine Ok.cond (fun hy1=>?_) (fun _=>Ok.ret ⟨⟨h.rules,h.lv,hg1,hg2,h.fr,up.len,up.ran⟩,hs⟩)
    obtain ⟨n,hn,e⟩:=hy hy1
    refine Ok.ret ⟨⟨h.rules,h.lv,hg1,hg2,?_,by show 1≤N + 1; omega,up.ran⟩,hs⟩
    show ∀ f ∈ [bc.mk t.Goals[0] false 0 [] []],xC l f
    rw [e]
    exact yT (fs:=[]) (fun f hf=>absurd hf List.not_mem_nil) hn
  · have hs0:0 < t.Stack.length:=by
      rcases Nat.eq_zero_or_pos t.Stack.length with e | e
      · rw [e] at h0; cases h0
      · exact e
    refine Ok.bind (AB hR hD hb0 hs h.lv.ok h.fr hs0 (by omega)) fun y hy=>Ok.cond (fun _=>Ok.ret ⟨up,hy.sol⟩) (fun _=>?_)
    have hw:=hy.wk
    have hln:=hy.len
    refine Ok.gd (eH (by omega)) (Ok.ret ⟨⟨h.rules,⟨hy.lv.ok,hy.lv.rev.trans h.lv.rev,hy.lv.ins.trans h.lv.ins⟩,h.goals,h.ng,hy.fr,by show y.2.1.length≤_; omega,?_⟩,hy.sol⟩)
    show (t.Ran ++ y.2.2.1).length≤_
    rw [List.length_append]; omega
def H0 (l:List aL) (V:Nat→ByteArray) (b:ah) (k:Nat):Int×(List aL)×Int×(List aG)×(List al)×(List ae)×(List bc)×(List ae)×(List aL)×Int×(List aG)×(List al)×(List (ae×ByteArray))×(List (ae×(List ae)))→Prop
  | (n,t1,t2,t3,t4,t5,t6,t7,g1,g2,g3,g4,g5,g6)=>n=(k:Int)∧yS l b k (cJ.mk t1 (ah.mk t2 t3 t4) t5 t6 t7)∧pc l V b (aj.mk g1 (ah.mk g2 g3 g4) g5 g6)
def H2 (l:List aL) (b:ah):Fl (Int×(List aL)×Int×(List aG)×(List al)×(List ae)×(List bc)×(List ae)) (cJ×Int×Int)→Prop
  | .go (n,t1,t2,t3,t4,t5,t6,t7)=>yS l b 90 (cJ.mk t1 (ah.mk t2 t3 t4) t5 t6 t7)
  | .out y=>yS l b 90 y.1
theorem yS.le {N M:Nat} {t:cJ} (h:yS l b N t) (hm:N≤M):yS l b M t:=⟨h.rules,h.lv,h.goals,h.ng,h.fr,Nat.le_trans h.len hm,Nat.le_trans h.ran hm⟩
theorem Ci (hR:bx l) (hb:iu l b) {t:cJ} (h:yS l b 0 t) (hbase:t.Base=b) {most:Int} (hm:most≤30):Ok (pA vv t most) fun y=>yS l b 90 y.1:=by
  have hl:=hR.high
  have hD:=Bs (qo b) hR
  have hst:t.Stack=[]:=List.eq_nil_of_length_eq_zero (Nat.le_zero.1 h.len)
  have hru:=h.rules
  unfold pA
  refine Ok.eq (uH hR (by omega) h) (Ok.cond (fun _=>Ok.ret (h.le (by omega))) (fun _=>?_))
  have hvalid:nB t=some true:=by
    unfold nB
    rw [hru,wO hR h.lv.ok h.goals h.ng,Option.bind_some,hst]
    rw [show ((0:Int) == 0)=true from rfl,cond_true]
    have:ig l t.Base []=some true:=by
      unfold ig
      rw [nr (r:=Fl.go ()) rfl]; rfl
    rw [this]; rfl
  refine Ok.eq hvalid ?_
  simp only [Bool.not_true,cond_false]
  refine Ok.eq (v:=aj.mk t.Rules t.Base [] []) rfl ?_
  have hs:pc l (Vd l (qo b)) b (aj.mk t.Rules t.Base [] []):=⟨hru,hbase,fun n _ v e=>(by cases e),fun c=>rfl⟩
  refine Ok.loop (H0 l (Vd l (qo b)) b) (H2 l b) 30 ⟨rfl,h,hs⟩ ?_ ?_
  · rintro k ⟨n,t1,t2,t3,t4,t5,t6,t7,g1,g2,g3,g4,g5,g6⟩ hk ⟨rfl,q1,q2⟩
    dsimp only
    unfold nX
    refine Ok.cond (fun hlt=>?_) (fun _=>Ok.ret (q1.le (by omega)))
    have hlt:=of_decide_eq_true hlt
    refine Ok.bind (DK hR hD hb q2 (by omega) q1) fun y ⟨y1,y2⟩=>Ok.cond (fun _=>Ok.ret (q1.le (by omega))) (fun _=>Ok.cond (fun _=>Ok.ret (y1.le (by omega))) (fun _=>?_))
    exact Ok.ret ⟨by omega,cT (by omega),y1,y2⟩
  · rintro (⟨n,t1,t2,t3,t4,t5,t6,t7⟩ | y) hr
    · exact Ok.ret hr
    · exact Ok.ret hr
theorem Ct (hR:bx l) (hb:iu l b) {goals:List ae} (hg:∀ k ∈ goals,mA l k) (hn:goals.length≤32):∃ t,nA l b goals=some (t,0)∧yS l b 0 t∧t.Base=b:=by
  have ht:yS l b 0 (cJ.mk l b goals [] []):=⟨rfl,⟨hb,rfl,rfl⟩,hg,hn,fun f hf=>absurd hf List.not_mem_nil,Nat.le_refl _,Nat.le_refl _⟩
  refine ⟨_,?_,ht,rfl⟩
  unfold nA
  rw [wO hR hb hg hn,Option.bind_some]
  simp only [show ((0:Int) != 0)=false from rfl,cond_false]
  rw [uH hR (by omega) ht]; rfl
theorem vg {recs:List al} (h:Rm recs.length) (k:ae):mJ recs k=some (recs.filter fun x=>!dh x.Key k):=by
  unfold Rm at h
  unfold mJ m7
  refine ee (dZ (xs:=recs) (fun i=>((recs.take i).filter fun x=>!dh x.Key k,(i:Int))) rfl (r:=recs.filter fun x=>!dh x.Key k) (fun i x hx=>?_) ?_) rfl
  · have hlt:=bh hx
    have hlen:=nL (fun x:al=>!dh x.Key k) recs i
    unfold kG kF
    dsimp only
    rw [dlt hlt,cond_true,bk,hx,Option.bind_some,cT (by omega),cw hx,List.filter_append]
    show cond (!dh x.Key k) _ _=_
    cases e:dh x.Key k with
    | true=>simp [e]
    | false =>
      rw [Bool.not_false,cond_true,eH (by simp only [List.length_cons,List.length_nil]; omega)]
      simp [e,gd]
  · unfold kG
    dsimp only
    rw [bQ,List.take_length]; rfl
theorem iu.filter (h:iu l b) (p:al→Bool):iu l (ah.mk b.Revision b.Inputs (b.Records.filter p)) :=
  ⟨h.rev,h.ins,h.insA,fun r hr=>h.recs r (List.mem_filter.1 hr).1,List.Pairwise.sublist List.filter_sublist h.recsA⟩
theorem Ap (hR:bx l) {N:Nat} {t:cJ} (h:yS l b N t) (hN:N≤1000):Ok (mf t) fun b'=>rM l b b':=by
  have hl:=hR.high
  have hb:=h.lv.ok
  have hlen:=h.len
  unfold mf
  refine Ok.eq (rP (hb.rm hl).1 (hb.rm hl).2.1) ?_
  refine Ok.loop (fun (k:Nat) (s:Int×List al)=>s.1=k∧iu l (ah.mk t.Base.Revision t.Base.Inputs s.2)) (fun r=>iu l (ah.mk t.Base.Revision t.Base.Inputs r)) t.Stack.length ⟨rfl,hb⟩ ?_ (fun r hr=>Ok.ret ⟨hr,h.lv.rev,h.lv.ins⟩)
  rintro k ⟨i,recs⟩ hk ⟨rfl,g⟩
  dsimp only at g ⊢
  unfold k6
  refine Ok.cond (fun hlt=>?_) (fun _=>Ok.ret g)
  have hlt:k < t.Stack.length:=by have:=of_decide_eq_true hlt; omega
  refine Ok.eq (bv hlt) (Ok.eq (fF _) (Ok.cond (fun _=>?_) (fun _=>Ok.ret ⟨hlt,cT (by omega),g⟩)))
  have hrl:recs.length≤l.length:=g.nrec
  exact Ok.eq (vg (by unfold Rm; omega) _) (Ok.ret ⟨hlt,cT (by omega),g.filter _⟩)
end
end
section
open Go.RowKit
open Go.Lib hiding intOf
def n7 (l:List aG):Prop:=l.Pairwise fun a b=>bS a.Key b.Key < 0
def o0 (l:List aG) (r:aG):List aG:=(l.filter fun x=>decide (bS x.Key r.Key < 0)) ++ r :: (l.filter fun x=>decide (0 < bS x.Key r.Key))
theorem sw {l:List aG} {r x:aG}:x ∈ o0 l r↔x=r∨(x ∈ l∧x.Key ≠ r.Key):=by
  unfold o0
  rw [List.mem_append,List.mem_cons,List.mem_filter,List.mem_filter]
  simp only [decide_eq_true_eq]
  constructor
  · rintro (⟨h,h1⟩ | h | ⟨h,h1⟩)
    · exact .inr ⟨h,oO h1⟩
    · exact .inl h
    · exact .inr ⟨h,fun e=>by rw [e,td] at h1; omega⟩
  · rintro (h | ⟨h,h1⟩)
    · exact .inr (.inl h)
    · rcases sr x.Key r.Key with h2 | h2 | h2
      · exact .inl ⟨h,h2⟩
      · exact absurd h2 h1
      · exact .inr (.inr ⟨h,lS.2 h2⟩)
theorem yj {l:List aG} (h:n7 l) (r:aG):n7 (o0 l r):=by
  unfold n7 o0
  rw [List.pairwise_append]
  refine ⟨List.Pairwise.filter _ h,List.pairwise_cons.2 ⟨fun x hx=>?_,List.Pairwise.filter _ h⟩,fun x hx y hy=>?_⟩
  · have:=(List.mem_filter.1 hx).2
    simp only [decide_eq_true_eq] at this
    exact lS.1 this
  · have h1:=(List.mem_filter.1 hx).2
    simp only [decide_eq_true_eq] at h1
    rcases List.mem_cons.1 hy with rfl | hy
    · exact h1
    · have h2:=(List.mem_filter.1 hy).2
      simp only [decide_eq_true_eq] at h2
      exact li h1 (lS.1 h2)
theorem A9 {l:List aG} (h:n7 l) {x y:aG} (hx:x ∈ l) (hy:y ∈ l) (e:x.Key=y.Key):x=y:=by
  induction l with
  | nil=>cases hx
  | cons z m ih =>
    have h':=List.pairwise_cons.1 h
    rcases List.mem_cons.1 hx with e1 | h1
    · rcases List.mem_cons.1 hy with e2 | h2
      · rw [e1,e2]
      · subst e1; exact absurd e (oO (h'.1 y h2))
    · rcases List.mem_cons.1 hy with e2 | h2
      · subst e2; exact absurd e.symm (oO (h'.1 x h1))
      · exact ih h'.2 h1 h2
def lf (l:List aG) (k:ae):Nat:=(l.filter fun r=>decide (bS r.Key k < 0)).length
theorem ur {l:List aG} (h:n7 l) (k:ae):l=(l.filter fun r=>decide (bS r.Key k < 0)) ++ (l.filter fun r=>decide (¬ bS r.Key k < 0)):=by
  induction l with
  | nil=>rfl
  | cons x r ih =>
    have h2:=List.pairwise_cons.1 h
    by_cases hx:bS x.Key k < 0
    · rw [List.filter_cons_of_pos (by simpa using hx),List.filter_cons_of_neg (by simpa using hx),List.cons_append,← ih h2.2]
    · have e:(r.filter fun r=>decide (bS r.Key k < 0))=[]:=by
        rw [List.filter_eq_nil_iff]
        intro y hy
        have:=h2.1 y hy
        simp only [decide_eq_true_eq]
        exact fun h=>hx (li this h)
      have e2:(r.filter fun r=>decide (¬ bS r.Key k < 0))=r:=by
        rw [List.filter_eq_self]
        intro y hy
        simp only [decide_eq_true_eq]
        exact fun h=>hx (li (h2.1 y hy) h)
      rw [List.filter_cons_of_neg (by simpa using hx),List.filter_cons_of_pos (by simpa using hx),e,e2]; rfl
theorem wa (l:List aG) (k:ae):lf l k≤l.length:=List.length_filter_le _ _
theorem yV {l:List aG} (h:n7 l) (k:ae) {i:Nat} {x:aG} (hx:l[i]? = some x):bS x.Key k < 0↔i < lf l k:=by
  have e:=ur h k
  constructor
  · intro hc
    refine Nat.lt_of_not_ge fun hi=>?_
    rw [e,List.getElem?_append_right hi] at hx
    have:=(List.mem_filter.1 (List.mem_of_getElem? hx)).2
    simp only [decide_eq_true_eq] at this
    exact this hc
  · intro hi
    rw [e,List.getElem?_append_left hi] at hx
    have:=(List.mem_filter.1 (List.mem_of_getElem? hx)).2
    simpa using this
theorem F1 {i j:Nat} (h:i≤j) (hj:j≤1000000000):IntKind.i64.wrap (yt .u64 (IntKind.u64.wrap (IntKind.i64.wrap ((i:Int) + j))) 1)=(((i + j) / 2:Nat):Int):=by
  have e:IntKind.i64.wrap ((i:Int) + j)=((i + j:Nat):Int):=by rw [nJ (by omega) (by omega)]; omega
  have e2:IntKind.u64.wrap ((i + j:Nat):Int)=((i + j:Nat):Int):=by simp [IntKind.wrap,IntKind.bits,IntKind.signed]; omega
  have e3:yt .u64 ((i + j:Nat):Int) 1=(((i + j) / 2:Nat):Int):=by
    have:yt .u64 ((i + j:Nat):Int) 1=Int.fdiv ((i + j:Nat):Int) 2:=rfl
    rw [this,Int.fdiv_eq_ediv_of_nonneg _ (by omega)]
    omega
  rw [e,e2,e3,nJ (by omega) (by omega)]
theorem zA (r:aG) (k:ae):dC r k=some (bS r.Key k):=by
  unfold dC
  rw [y3]; rfl
theorem AN {l:List aG} (h:n7 l) (hl:Rm l.length) (k:ae):aV dC l k=some ((lf l k:Int),match l[lf l k]? with | some x=>bS x.Key k == 0 | none=>false):=by
  have hl':=hl
  unfold Rm at hl
  have hb:=wa l k
  have key:Ok (aV dC l k) fun r=>r=((lf l k:Int),match l[lf l k]? with | some x=>bS x.Key k == 0 | none=>false):=by
    unfold aV
    refine Ok.loop (fun n s=>∃ i j:Nat,s=((i:Int),(j:Int))∧i≤lf l k∧lf l k≤j∧j≤l.length∧(j - i) + n≤l.length) (fun r=>r=(lf l k:Int)) l.length ⟨0,l.length,rfl,Nat.zero_le _,hb,Nat.le_refl _,by omega⟩ (fun n s hn hI=>?_) (fun r hr=>?_)
    · obtain ⟨i,j,rfl,h1,h2,h3,h4⟩:=hI
      unfold bp
      dsimp only
      by_cases hij:i < j
      · rw [dlt hij,cond_true,F1 (by omega) (by omega),bk]
        have hm:(i + j) / 2 < l.length:=by omega
        rw [List.getElem?_eq_getElem hm,Option.bind_some,zA,Option.bind_some]
        have hg:=yV h k (List.getElem?_eq_getElem hm)
        by_cases hc:bS l[(i + j) / 2].Key k < 0
        · rw [decide_eq_true hc,cond_true,cT (by omega)]
          have:=hg.1 hc
          exact Ok.ret ⟨by omega,(i + j) / 2 + 1,j,rfl,by omega,h2,h3,by omega⟩
        · rw [decide_eq_false hc,cond_false]
          have:¬ (i + j) / 2 < lf l k:=fun hh=>hc (hg.2 hh)
          exact Ok.ret ⟨by omega,i,(i + j) / 2,rfl,h1,by omega,by omega,by omega⟩
      · rw [Ax hij,cond_false]
        exact Ok.ret (by rw [show i=lf l k by omega])
    · subst hr
      unfold bo a6
      by_cases hlt:lf l k < l.length
      · rw [dlt hlt,cond_true,bk,List.getElem?_eq_getElem hlt,Option.bind_some,zA,Option.bind_some]
        exact Ok.ret rfl
      · rw [Ax hlt,cond_false,List.getElem?_eq_none (by omega)]
        exact Ok.ret rfl
  obtain ⟨r,e,rfl⟩:=key
  exact e
theorem AO {l:List aG} {r:aG} (h:n7 l) (hl:Rm l.length) {u:ah} (hrev:IntKind.i64.wrap (u.Revision + 1)=r.Changed) (g:Int) :
    ((loop (fun s:(List aG)×Bool×Int=>fQ u l (aT.mk r.Key r.Value) s.1 s.2.1 s.2.2) (([]:List aG),false,0)).bind fun q=>eO u g (aT.mk r.Key r.Value) q.1 q.2)=eN g (o0 l r):=by
  unfold Rm at hl
  have hpl:∀ i,((l.take i).filter fun x=>decide (bS x.Key r.Key < 0)).length + ((l.take i).filter fun x=>decide (0 < bS x.Key r.Key)).length≤l.length:=fun i=>by
    have h1:∀ m:List aG,(m.filter fun x=>decide (bS x.Key r.Key < 0)).length + (m.filter fun x=>decide (0 < bS x.Key r.Key)).length≤m.length:=by
      intro m
      induction m with
      | nil=>simp
      | cons y m ih =>
        by_cases a:bS y.Key r.Key < 0
        · rw [List.filter_cons_of_pos (by simpa using a),List.filter_cons_of_neg (by simp; omega)]; simp only [List.length_cons]; omega
        · by_cases b:0 < bS y.Key r.Key
          · rw [List.filter_cons_of_neg (by simpa using a),List.filter_cons_of_pos (by simpa using b)]; simp only [List.length_cons]; omega
          · rw [List.filter_cons_of_neg (by simpa using a),List.filter_cons_of_neg (by simpa using b)]; simp only [List.length_cons]; omega
    have:=h1 (l.take i)
    rw [List.length_take] at this; omega
  have key:Ok ((loop (fun s:(List aG)×Bool×Int=>fQ u l (aT.mk r.Key r.Value) s.1 s.2.1 s.2.2) (([]:List aG),false,0)).bind fun q=>eO u g (aT.mk r.Key r.Value) q.1 q.2) fun y=>eN g (o0 l r)=some y:=by
    refine Ok.loop (fun n t=>n≤l.length∧t.2.2=(n:Int)∧((t.1=l.take n∧t.2.1=false∧∀ x ∈ l.take n,bS x.Key r.Key < 0)∨(t.1=o0 (l.take n) r∧t.2.1=true∧∃ x ∈ l.take n,¬ bS x.Key r.Key < 0)))
      (fun t=>(t.1=l∧t.2=false∧∀ x ∈ l,bS x.Key r.Key < 0)∨(t.1=o0 l r∧t.2=true)) l.length ⟨Nat.zero_le _,rfl,.inl ⟨rfl,rfl,by simp⟩⟩ (fun n t hn hI=>?_) (fun t ht=>?_)
    · obtain ⟨out,put,i⟩:=t
      obtain ⟨_,h1,h2⟩:=hI
      dsimp only at h1 h2
      subst h1
      unfold fQ
      dsimp only
      by_cases hi:n < l.length
      · have hx:l[n]? = some l[n]:=List.getElem?_eq_getElem hi
        obtain ⟨x,hxe⟩:∃ x,x=l[n]:=⟨_,rfl⟩
        rw [← hxe] at hx
        rw [dlt hi,cond_true,bk,hx,Option.bind_some,mQ,Option.bind_some]
        have tk:=cw hx
        have hle:=hpl n
        rcases h2 with ⟨rfl,rfl,h3⟩ | ⟨rfl,rfl,y,hy,h3⟩
        · have e0:((l.take n).filter fun x=>decide (bS x.Key r.Key < 0))=l.take n:=List.filter_eq_self.2 fun x hx=>by simpa using h3 x hx
          have e1:((l.take n).filter fun x=>decide (0 < bS x.Key r.Key))=[]:=List.filter_eq_nil_iff.2 fun x hx=>by have:=h3 x hx; simp; omega
          rcases ol x.Key r.Key with hc | hc | hc
          · rw [hc]
            unfold eR eQ eP
            dsimp only
            simp only [hrev]
            rw [show bG ((l.take n).length + [x].length)=true from eH (by simp; omega),cT (by omega)]
            refine Ok.ret ⟨hi,hi,rfl,.inl ⟨tk.symm,rfl,fun z hz=>?_⟩⟩
            rw [tk] at hz
            rcases List.mem_append.1 hz with hz | hz
            · exact h3 z hz
            · simp only [List.mem_cons,List.not_mem_nil,or_false] at hz; subst hz; omega
          · rw [hc]
            unfold eR eQ eP
            dsimp only
            simp only [hrev]
            rw [cT (by omega)]
            rw [show bG ((l.take n).length + [r].length)=true from eH (by simp; omega)]
            refine Ok.ret ⟨hi,hi,rfl,.inr ⟨?_,rfl,x,by rw [tk]; simp,by omega⟩⟩
            unfold o0
            rw [tk,List.filter_append,List.filter_append,e0,e1]
            simp [hc]
          · rw [hc]
            unfold eR eQ eP
            dsimp only
            simp only [hrev]
            rw [cT (by omega)]
            rw [show bG ((l.take n).length + [r].length)=true from eH (by simp; omega),show bG ((l.take n ++ [r]).length + [x].length)=true from eH (by simp; omega)]
            refine Ok.ret ⟨hi,hi,rfl,.inr ⟨?_,rfl,x,by rw [tk]; simp,by omega⟩⟩
            unfold o0
            rw [tk,List.filter_append,List.filter_append,e0,e1]
            simp [hc]
        · have hyx:bS y.Key x.Key < 0:=by
            obtain ⟨j,hj⟩:=List.mem_iff_getElem?.1 hy
            rw [List.getElem?_take] at hj
            split at hj
            · rename_i hjn
              obtain ⟨q1,q2⟩:=List.getElem?_eq_some_iff.1 hj
              have:=List.pairwise_iff_getElem.1 h j n q1 hi hjn
              rw [q2,← hxe] at this; exact this
            · cases hj
          have hc:0 < bS x.Key r.Key:=by
            rw [lS]
            exact oY (b:=y.Key) h3 hyx
          have hc1:bS x.Key r.Key=1:=by rcases ol x.Key r.Key with h | h | h <;> omega
          rw [hc1]
          unfold eR eQ eP
          dsimp only
          simp only [hrev]
          rw [cT (by omega),show bG ((o0 (l.take n) r).length + [x].length)=true from eH (by unfold o0; simp only [List.length_append,List.length_cons,List.length_nil]; omega)]
          refine Ok.ret ⟨hi,hi,rfl,.inr ⟨?_,rfl,y,by rw [tk]; exact List.mem_append_left _ hy,h3⟩⟩
          unfold o0
          rw [tk,List.filter_append,List.filter_append]
          simp [hc1]
      · have hn2:n=l.length:=by omega
        rw [hn2,bQ,cond_false]
        rw [hn2,List.take_length] at h2
        refine Ok.ret ?_
        rcases h2 with ⟨a,b,c⟩ | ⟨a,b,c⟩
        · exact .inl ⟨a,b,c⟩
        · exact .inr ⟨a,b⟩
    · obtain ⟨out,put⟩:=t
      dsimp only at ht ⊢
      unfold eO
      dsimp only
      simp only [hrev]
      rcases ht with ⟨rfl,rfl,h3⟩ | ⟨rfl,rfl⟩
      · simp only [Bool.not_false,cond_true]
        rw [show bG (out.length + [r].length)=true from eH (by simp; omega)]
        refine ⟨_,rfl,?_⟩
        unfold o0
        rw [List.filter_eq_self.2 fun x hx=>by simpa using h3 x hx,List.filter_eq_nil_iff.2 fun x hx=>by have:=h3 x hx; simp; omega]
        rfl
      · exact ⟨_,rfl,rfl⟩
  obtain ⟨y,e,e2⟩:=key
  exact e.trans e2.symm
end
section
open Go.RowKit
open Go.Lib hiding intOf
structure wN (c:aT):Prop where
  key:∃ n,n < 4∧c.Key=bn n
  value:c.Value.size≤1000
theorem qh.le {rev rev':Int} {x:aG} (h:qh rev x) (hl:rev≤rev'):qh rev' x:=⟨h.key,h.value,h.low,by have:=h.high; omega⟩
section
variable {l:List aL} {b:ah}
theorem p9.le {rev rev':Int} {r:al} (h:p9 l rev r) (hl:rev≤rev'):p9 l rev' r:=⟨h.key,h.value,h.reads,h.good,h.low,h.mid,by have:=h.high; omega,h.cost,h.dirty⟩
theorem iu.rise (h:iu l b) (hr:b.Revision + 1≤1000000) {ins:List aG} (h1:n7 ins) (h2:∀ x ∈ ins,qh (b.Revision + 1) x):iu l (ah.mk (b.Revision + 1) ins b.Records) :=
  ⟨⟨by have:=h.rev; show 0≤b.Revision + 1; omega,hr⟩,h2,h1,fun r hm=>(h.recs r hm).le (by show b.Revision≤b.Revision + 1; omega),h.recsA⟩
theorem zW {ins:List aG} {rev:Int} (h:∀ x ∈ ins,qh rev x) {x:aG} (hx:qh rev x):∀ y ∈ o0 ins x,qh rev y:=fun y hy=>by
  rcases sw.1 hy with rfl | ⟨hy,_⟩
  · exact hx
  · exact h y hy
theorem ud {ins:List aG} (h1:n7 ins) {rev:Int} (h2:∀ x ∈ ins,qh rev x):ins.length≤4:=by
  have h3:=mH (tg (f:=aG.Key) h1) (m:=(List.range 4).map bn) fun k hk=>by
    obtain ⟨r,hr,rfl⟩:=List.mem_map.1 hk
    obtain ⟨n,hn,e⟩:=(h2 r hr).key
    exact List.mem_map.2 ⟨n,List.mem_range.2 hn,e.symm⟩
  simpa using h3
theorem uo (hR:bx l) (h:iu l b) (hr:b.Revision + 1≤1000000) {cs:List aT} (hc:∀ c ∈ cs,wN c) (hn:cs.length≤32):Ok (lD b cs) fun y=>iu l y.1∧y.1.Revision≤b.Revision + 1:=by
  have hl:=hR.high
  have hcp:=rP (h.rm hl).1 (h.rm hl).2.1
  have hrev:=h.rev
  have hw:IntKind.i64.wrap (b.Revision + 1)=b.Revision + 1:=nJ (by omega) (by omega)
  unfold lD
  refine Ok.eq hcp (Ok.eq (xw h hl) ?_)
  rw [decide_eq_false (by omega)]
  simp only [Bool.not_true,cond_false]
  refine Ok.eq (dA (r:=Fl.go ()) cs.length (fun k hk=>?_) ?_) ?_
  · obtain ⟨n,hn,e⟩:=(hc _ (List.getElem_mem hk)).key
    unfold iL
    rw [dlt hk,cond_true,bv hk,Option.bind_some,e,rN (by omega),Option.bind_some]
    simp only [Bool.not_true,cond_false]
    rw [n9,Option.bind_some,cT (by omega)]; rfl
  · unfold iL
    rw [bQ]; rfl
  show Ok (iJ cs b) _
  unfold iJ
  refine Ok.eq (dA (r:=Fl.go ()) cs.length (fun k hk=>?_) ?_) ?_
  · have:=(hc _ (List.getElem_mem hk)).value
    unfold iK
    rw [dlt hk,cond_true,bv hk,Option.bind_some,decide_eq_false (by omega),cT (by omega)]; rfl
  · unfold iK
    rw [bQ]; rfl
  show Ok (iI cs b) _
  unfold iI
  refine Ok.eq hcp ?_
  refine Ok.loop (fun (k:Nat) (s:Bool×Int×List aG)=>s.2.1=k∧n7 s.2.2∧(∀ x ∈ s.2.2,qh (b.Revision + 1) x)∧k≤cs.length) (fun r=>n7 r.2∧∀ x ∈ r.2,qh (b.Revision + 1) x) cs.length ⟨rfl,h.insA,fun x hx=>(h.ins x hx).le (by omega),Nat.zero_le _⟩ ?_ ?_
  · rintro k ⟨ch,g,ins⟩ hk ⟨rfl,h1,h2,_⟩
    dsimp only at h1 h2 ⊢
    unfold kX
    refine Ok.cond (fun hlt=>?_) (fun _=>Ok.ret ⟨h1,h2⟩)
    have hlt:k < cs.length:=by have:=of_decide_eq_true hlt; omega
    have hcO:=hc _ (List.getElem_mem hlt)
    refine Ok.eq (bv hlt) ?_
    generalize cs[k]=c at hcO
    rw [cT (by omega)]
    refine Ok.eq (uj (by omega)) ?_
    have hd:(cs.drop (k + 1)).length≤32:=by rw [List.length_drop]; omega
    have hj2:∀ ch' ins',n7 ins'→(∀ x ∈ ins',qh (b.Revision + 1) x)→Ok (ia (k:Int) ch' ins') fun y=>match y with
        | .go s=>k < cs.length∧(s.2.1=((k + 1:Nat):Int)∧n7 s.2.2∧(∀ x ∈ s.2.2,qh (b.Revision + 1) x)∧k + 1≤cs.length)
        | .out r=>n7 r.2∧∀ x ∈ r.2,qh (b.Revision + 1) x:=fun ch' ins' q1 q2=>Ok.ret ⟨hlt,cT (by omega),q1,q2,hlt⟩
    refine Ok.loop (fun (i:Nat) (s:Bool×Int)=>s.2=i∧i≤(cs.drop (k + 1)).length) (fun _=>True) (cs.drop (k + 1)).length ⟨rfl,Nat.zero_le _⟩ ?_ ?_
    · rintro i ⟨la,q⟩ hi ⟨rfl,_⟩
      dsimp only
      unfold kW
      refine Ok.cond (fun hlt2=>?_) (fun _=>Ok.ret trivial)
      have hlt2:i < (cs.drop (k + 1)).length:=by have:=of_decide_eq_true hlt2; omega
      refine Ok.eq (bv hlt2) (Ok.cond (fun _=>Ok.ret ⟨hlt2,cT (by omega),hlt2⟩) (fun _=>Ok.ret ⟨hlt2,cT (by omega),hlt2⟩))
    · intro la _
      unfold mb
      refine Ok.cond (fun _=>(hj2 _ _ h1 h2).mono fun y hy=>by cases y <;> exact hy) (fun _=>Ok.eq (BA (h.rm hl).2.1 _) (Ok.cond (fun _=>(hj2 _ _ h1 h2).mono fun y hy=>by cases y <;> exact hy) (fun _=>?_)))
      have hil:=ud h1 h2
      have hput:=AO (r:=aG.mk c.Key c.Value (b.Revision + 1)) h1 (by unfold Rm; omega) (u:=b) hw (k:Int)
      have hput2:((loop (fun s:(List aG)×Bool×Int=>fQ b ins c s.1 s.2.1 s.2.2) (([]:List aG),false,0)).bind fun q=>eO b (k:Int) c q.1 q.2)=eN (k:Int) (o0 ins (aG.mk c.Key c.Value (b.Revision + 1))):=hput
      rw [hput2]
      unfold eN
      exact (hj2 _ _ (yj h1 _) (zW h2 ⟨hcO.key,hcO.value,by show 0≤b.Revision + 1; omega,Int.le_refl _⟩)).mono fun y hy=>by cases y <;> exact hy
  · rintro ⟨ch,ins⟩ ⟨h1,h2⟩
    dsimp only at h1 h2 ⊢
    have hil:=ud h1 h2
    unfold jx
    rw [hw]
    refine Ok.cond (fun _=>Ok.ret ⟨h,by show b.Revision≤b.Revision + 1; omega⟩) (fun _=>?_)
    rw [decide_eq_false (by omega),decide_eq_false (by omega)]
    exact Ok.ret ⟨h.rise hr h1 h2,Int.le_refl _⟩
theorem wb {d:List Int} {i:Int} (hd:bN d i):Ok (ly ⟨d,i⟩) fun y=>wN y.1∧bN y.2.L y.2.At:=by
  unfold ly
  refine Ok.bind (c7 hd (by omega) (by omega)) fun y ⟨y1,y2,d1⟩=>?_
  obtain ⟨c,hc⟩:∃ c:Nat,y.1=c:=⟨y.1.toNat,by omega⟩
  rw [hc]
  refine Ok.eq (oy (by omega)) (Ok.bind (DQ d1 (by simp) (by simp)) fun w ⟨w1,d2⟩=>Ok.ret ⟨⟨⟨c,by omega,rfl⟩,?_⟩,d2⟩)
  have:∀ s ∈ [(ByteArray.mk #[48]),(ByteArray.mk #[49]),(ByteArray.mk #[50]),(ByteArray.mk #[51]),(ByteArray.mk #[55]),(ByteArray.mk #[49,48,48]),(ByteArray.mk #[]),(ByteArray.mk #[120]),(ByteArray.mk #[49,54]),(ByteArray.mk #[49])],s.size≤1000:=by decide
  exact this _ w1
theorem pH {d:List Int} {i:Int} (hd:bN d i) {most:Int} (h1:0≤most) (h2:most≤30):Ok (gt ⟨d,i⟩ most) fun y=>(∀ c ∈ y.1,wN c)∧(y.1.length:Int)≤most∧bN y.2.L y.2.At:=by
  unfold gt
  rw [nJ (by omega) (by omega)]
  refine Ok.bind (c7 hd (by omega) (by omega)) fun y ⟨y1,y2,d1⟩=>?_
  refine Ok.loop (fun (k:Nat) (s:(List aT)×Int×(List Int)×Int)=>(∀ q ∈ s.1,wN q)∧s.1.length=k∧s.2.1=y.1 - k∧0≤s.2.1∧bN s.2.2.1 s.2.2.2) (fun r=>(∀ q ∈ r.1,wN q)∧(r.1.length:Int)≤most∧bN r.2.1 r.2.2) 31 ⟨fun q hq=>absurd hq List.not_mem_nil,rfl,by simp,y1,d1⟩ ?_ (fun r hr=>Ok.ret hr)
  rintro k ⟨gs,c,d,i⟩ hk ⟨g1,g2,g3,g3',g4⟩
  dsimp only at g1 g2 g3 g3' g4 ⊢
  unfold kS
  refine Ok.cond (fun hc=>?_) (fun _=>Ok.ret ⟨g1,by show (gs.length:Int)≤most; omega,g4⟩)
  have hc:=of_decide_eq_true hc
  have hw:IntKind.i64.wrap (c - 1)=c - 1:=nJ (by omega) (by omega)
  refine Ok.bind (wb g4) fun z ⟨z1,z2⟩=>Ok.gd (eH (by simp; omega)) (Ok.ret ⟨by omega,?_,by rw [List.length_append,g2]; rfl,?_,?_,z2⟩)
  · intro q hq
    rcases List.mem_append.1 hq with hq | hq
    · exact g1 q hq
    · rw [List.mem_singleton.1 hq]; exact z1
  · show IntKind.i64.wrap (c - 1)=_
    rw [hw]; omega
  · show 0≤IntKind.i64.wrap (c - 1)
    rw [hw]; omega
theorem Ao (x y:al):Ok (mm x y) fun _=>True:=by
  unfold mm mK
  refine Ok.eq rfl (Ok.eq rfl (Ok.cond (fun _=>Ok.ret trivial) (fun _=>Ok.cond (fun _=>Ok.ret trivial) (fun _=>Ok.eq (mQ _ _) (Ok.ret trivial)))))
theorem BZ {recs:List al} (h:recs.length≤1000):Ok (nE recs) fun o=>o.length≤recs.length:=by
  unfold nE
  refine Ok.loop (fun (k:Nat) (s:List al×Int)=>s.2=k∧s.1.length=k∧k≤recs.length) (fun o=>o.length≤recs.length) recs.length ⟨rfl,rfl,Nat.zero_le _⟩ ?_ (fun o ho=>Ok.ret ho)
  rintro k ⟨out,g⟩ hk ⟨rfl,hlen,_⟩
  dsimp only at hlen ⊢
  unfold mq
  refine Ok.cond (fun hlt=>?_) (fun _=>Ok.ret (by show out.length≤_; omega))
  have hlt:k < recs.length:=by have:=of_decide_eq_true hlt; omega
  refine Ok.eq (bv hlt) ?_
  refine Ok.loop (fun (i:Nat) (s:Int)=>s=i∧i≤out.length) (fun r=>∃ i:Nat,r=i∧i≤out.length) out.length ⟨rfl,Nat.zero_le _⟩ ?_ ?_
  · rintro i _ hi ⟨rfl,_⟩
    unfold mp
    refine Ok.cond (fun hlt2=>?_) (fun _=>Ok.ret ⟨i,rfl,hi⟩)
    have hlt2:i < out.length:=by have:=of_decide_eq_true hlt2; omega
    refine Ok.eq (bv hlt2) (Ok.bind (Ao _ _) fun y _=>Ok.cond (fun _=>Ok.ret ⟨hlt2,cT (by omega),hlt2⟩) (fun _=>Ok.ret ⟨i,rfl,hi⟩))
  · rintro _ ⟨i,rfl,hi⟩
    unfold mo mn
    refine Ok.eq (rc hi) (Ok.eq (uj hi) ?_)
    have e1:(out.take i).length=i:=by rw [List.length_take]; omega
    have e2:(out.drop i).length=out.length - i:=List.length_drop
    refine Ok.gd (eH (by simp; omega)) (Ok.gd (eH (by simp; omega)) (Ok.gd (eH (by simp; omega)) (Ok.ret ⟨hlt,cT (by omega),?_,hlt⟩)))
    simp only [List.nil_append,List.length_append,List.length_cons,List.length_nil]
    omega
theorem Cx {recs:List al} (h:recs.length≤1000):Ok (nD recs) fun _=>True:=by
  unfold nD
  refine Ok.loop (fun (k:Nat) (s:Int×Int)=>s.2=k∧k≤recs.length) (fun _=>True) recs.length ⟨rfl,Nat.zero_le _⟩ ?_ (fun r _=>Ok.ret trivial)
  rintro k ⟨n,g⟩ hk ⟨rfl,_⟩
  dsimp only
  unfold ml
  refine Ok.cond (fun hlt=>?_) (fun _=>Ok.ret trivial)
  have hlt:k < recs.length:=by have:=of_decide_eq_true hlt; omega
  exact Ok.eq (bv hlt) (Ok.eq rfl (Ok.ret ⟨hlt,cT (by omega),hlt⟩))
theorem Bu (hR:bx l) (h:iu l b) {budget:Int} (h1:0≤budget) (h2:budget≤1000):Ok (nC b budget []) fun y=>rM l b y.1:=by
  have hl:=hR.high
  have hnr:=h.nrec
  unfold nC
  refine Ok.eq (xw h hl) ?_
  rw [decide_eq_false (by omega),decide_eq_false (by omega)]
  simp only [Bool.not_true,cond_false]
  refine Ok.eq (rP (h.rm hl).1 (h.rm hl).2.1) (Ok.bind (BZ (by omega)) fun o ho=>?_)
  refine Ok.loop (fun (k:Nat) (s:List ae×Int×List al)=>s.2.1=k∧k≤o.length∧s.1.length≤k∧iu l (ah.mk b.Revision b.Inputs s.2.2)) (fun r=>iu l (ah.mk b.Revision b.Inputs r.2)) o.length ⟨rfl,Nat.zero_le _,Nat.zero_le _,h⟩ ?_ (fun r hr=>Ok.ret ⟨hr,rfl,rfl⟩)
  rintro k ⟨gone,g,recs⟩ hk ⟨rfl,_,hg,hb⟩
  dsimp only at hg hb ⊢
  have hrl:recs.length≤l.length:=hb.nrec
  unfold mj
  refine Ok.cond (fun hlt=>?_) (fun _=>Ok.ret hb)
  have hlt:k < o.length:=by have:=of_decide_eq_true hlt; omega
  refine Ok.eq (bv hlt) (Ok.bind (Cx (by omega)) fun t _=>?_)
  have hj3:∀ q,Ok (ij gone (k:Int) recs o[k] q) fun y=>match y with
      | .go s=>k < o.length∧(s.2.1=((k + 1:Nat):Int)∧k + 1≤o.length∧s.1.length≤k + 1∧iu l (ah.mk b.Revision b.Inputs s.2.2))
      | .out r=>iu l (ah.mk b.Revision b.Inputs r.2):=fun q=>by
    unfold ij jK
    refine Ok.cond (fun _=>Ok.eq (vg (by unfold Rm; omega) _) (Ok.gd (eH (by simp; omega)) (Ok.ret ⟨hlt,cT (by omega),hlt,by rw [List.length_append]; simp; omega,hb.filter _⟩))) (fun _=>Ok.ret ⟨hlt,cT (by omega),hlt,by show gone.length≤k + 1; omega,hb⟩)
  exact Ok.cond (fun _=>Ok.eq (pB (by unfold Rm; simp) _) ((hj3 _).mono fun y hy=>by cases y <;> exact hy)) (fun _=>(hj3 _).mono fun y hy=>by cases y <;> exact hy)
theorem BL (hR:bx l) (h:iu l b) {d:List Int} {i:Int} (hd:bN d i) {most:Int} (h1:0≤most) (h2:most≤1000) (h3:b.Revision≤1000):Ok (oq ⟨d,i⟩ l b most) fun y=>iu l y.1∧y.1.Revision≤b.Revision + most∧bN y.2.L y.2.At:=by
  unfold oq
  rw [nJ (by omega) (by omega)]
  refine Ok.bind (c7 hd (by omega) (by omega)) fun y ⟨y1,y2,d1⟩=>?_
  refine Ok.loop (fun (k:Nat) (s:Int×(List Int)×Int×Int×(List aG)×(List al))=>s.1=y.1 - k∧0≤s.1∧bN s.2.1 s.2.2.1∧iu l (ah.mk s.2.2.2.1 s.2.2.2.2.1 s.2.2.2.2.2)∧s.2.2.2.1≤b.Revision + k) (fun r=>iu l (ah.mk r.1 r.2.1 r.2.2.1)∧r.1≤b.Revision + most∧bN r.2.2.2.1 r.2.2.2.2) 2000 ⟨by simp,y1,d1,h,by show b.Revision≤_; simp⟩ ?_ (fun r hr=>Ok.ret hr)
  rintro k ⟨c,d,i,rev,ins,recs⟩ hk ⟨g1,g2,g3,g4,g5⟩
  dsimp only at g1 g2 g3 g4 g5 ⊢
  unfold m3
  refine Ok.cond (fun hc=>?_) (fun _=>Ok.ret ⟨g4,by show rev≤_; omega,g3⟩)
  have hc:=of_decide_eq_true hc
  have hw:IntKind.i64.wrap (c - 1)=c - 1:=nJ (by omega) (by omega)
  have hj2:∀ {d i rev' ins' recs'},bN d i→iu l (ah.mk rev' ins' recs')→rev'≤rev + 1→Ok (dq c d i rev' ins' recs') fun y'=>match y' with
      | .go s=>k < 2000∧(s.1=y.1 - ((k + 1:Nat):Int)∧0≤s.1∧bN s.2.1 s.2.2.1∧iu l (ah.mk s.2.2.2.1 s.2.2.2.2.1 s.2.2.2.2.2)∧s.2.2.2.1≤b.Revision + ((k + 1:Nat):Int))
      | .out r=>iu l (ah.mk r.1 r.2.1 r.2.2.1)∧r.1≤b.Revision + most∧bN r.2.2.2.1 r.2.2.2.2:=by
    intro d i rev' ins' recs' q1 q2 q3
    unfold dq
    rw [hw]
    exact Ok.ret ⟨by omega,by show c - 1=_; omega,by show 0≤c - 1; omega,q1,q2,by show rev'≤_; omega⟩
  have hL:∀ {d i} {b':ah},bN d i→rM l (ah.mk rev ins recs) b'→Ok (dq c d i b'.Revision b'.Inputs b'.Records) fun y'=>match y' with
      | .go s=>k < 2000∧(s.1=y.1 - ((k + 1:Nat):Int)∧0≤s.1∧bN s.2.1 s.2.2.1∧iu l (ah.mk s.2.2.2.1 s.2.2.2.2.1 s.2.2.2.2.2)∧s.2.2.2.1≤b.Revision + ((k + 1:Nat):Int))
      | .out r=>iu l (ah.mk r.1 r.2.1 r.2.2.1)∧r.1≤b.Revision + most∧bN r.2.2.2.1 r.2.2.2.2:=fun q1 q2=>hj2 q1 q2.ok (by have:=q2.rev; rw [this]; show rev≤rev + 1; omega)
  refine Ok.bind (c7 g3 (by omega) (by omega)) fun w ⟨w1,w2,d2⟩=>?_
  have hj4:∀ q,Ok (gF l c rev ins recs w q) fun y'=>match y' with
      | .go s=>k < 2000∧(s.1=y.1 - ((k + 1:Nat):Int)∧0≤s.1∧bN s.2.1 s.2.2.1∧iu l (ah.mk s.2.2.2.1 s.2.2.2.2.1 s.2.2.2.2.2)∧s.2.2.2.1≤b.Revision + ((k + 1:Nat):Int))
      | .out r=>iu l (ah.mk r.1 r.2.1 r.2.2.1)∧r.1≤b.Revision + most∧bN r.2.2.2.1 r.2.2.2.2:=fun q=>by
    unfold gF
    refine Ok.cond (fun _=>?_) (fun _=>Ok.cond (fun _=>?_) (fun _=>Ok.cond (fun _=>?_) (fun _=>?_)))
    · refine Ok.bind (pH d2 (by omega) (by omega)) fun z ⟨z1,z2,d3⟩=>Ok.bind (uo hR g4 (by show rev + 1≤1000000; omega) z1 (by omega)) fun u ⟨u1,u2⟩=>hj2 d3 u1 u2
    · refine Ok.bind (xY hR d2 (by omega) (by omega)) fun z ⟨z1,z2,d3⟩=>?_
      obtain ⟨t,ht,ht2,ht3⟩:=Ct hR g4 z1 z2
      refine Ok.eq ht ?_
      unfold mZ
      simp only [show ((0:Int) == 0)=true from rfl,cond_true]
      refine Ok.bind (c7 d3 (by omega) (by omega)) fun u ⟨u1,u2,d4⟩=>Ok.bind (Ci hR g4 ht2 ht3 (by omega)) fun t2 ht4=>Ok.bind (Ap hR ht4 (by omega)) fun b2 hb2=>hL d4 hb2
    · refine Ok.bind (c7 d2 (by omega) (by omega)) fun z ⟨z1,z2,d3⟩=>Ok.cond (fun _=>?_) (fun _=>hL d3 ⟨g4,rfl,rfl⟩)
      exact Ok.bind (c7 d3 (by omega) (by omega)) fun u ⟨u1,u2,d4⟩=>Ok.bind (Bu hR g4 u1 (by omega)) fun v hv=>hL d4 hv
    · exact Ok.bind (xY hR d2 (by omega) (by omega)) fun z ⟨z1,z2,d3⟩=>Ok.bind (zi hR g4 z1 z2) fun u hu=>hL d3 hu
  exact Ok.cond (fun _=>(hj4 _).mono fun y hy=>by cases y <;> exact hy) (fun _=>Ok.cond (fun _=>(hj4 _).mono fun y hy=>by cases y <;> exact hy) (fun _=>(hj4 _).mono fun y hy=>by cases y <;> exact hy))
end
theorem ua {d:List Int} {i:Int} (hd:bN d i) {most:Int} (h1:0≤most) (h2:most≤900):Ok (lx ⟨d,i⟩ most) fun y=>bx y.1∧iu y.1 y.2.1∧y.2.1.Revision≤most + 1∧bN y.2.2.L y.2.2.At:=by
  unfold lx
  refine Ok.bind (Ch hd) fun y ⟨hR,d1⟩=>Ok.bind (pH d1 (by omega) (by omega)) fun z ⟨z1,z2,d2⟩=>?_
  have h0:iu y.1 (ah.mk 0 [] []):=⟨⟨by show (0:Int)≤0; omega,by show (0:Int)≤1000000; omega⟩,fun x hx=>absurd hx List.not_mem_nil,List.Pairwise.nil,fun x hx=>absurd hx List.not_mem_nil,List.Pairwise.nil⟩
  refine Ok.bind (uo hR h0 (by show (0:Int) + 1≤1000000; omega) z1 (by omega)) fun u ⟨u1,u2⟩=>?_
  have u2:u.1.Revision≤0 + 1:=u2
  exact Ok.bind (BL hR u1 d2 h1 (by omega) (by omega)) fun v ⟨v1,v2,d3⟩=>Ok.ret ⟨hR,v1,by show v.1.Revision≤most + 1; omega,d3⟩
end
section
open Go.RowKit
open Go.Lib hiding intOf
theorem Au {s:List ae} (h:Rm s.length):pj s=some s:=by
  unfold pj Rm at *
  rw [show bG (([]:List ae).length + s.length)=true from eH (by simp; omega)]; rfl
theorem Av {s:List al} (h:Rm s.length):lP s=some s:=by
  unfold lP Rm at *
  rw [show bG (([]:List al).length + s.length)=true from eH (by simp; omega)]; rfl
theorem F7 {r:al} (h:Rm r.Reads.length):ox r=some r:=by
  unfold ox
  rw [Au h]; rfl
theorem C0 {l:List al} (h:CH l):ns l=some l:=by
  unfold ns
  rw [Av h.1,Option.bind_some]
  refine ee (dZ (xs:=l) (fun k=>(l,(k:Int))) rfl (r:=l) (fun k x hx=>?_) ?_) rfl
  · unfold jm
    dsimp only
    rw [lg hx,cond_true,bk,hx,Option.bind_some,F7 (h.2 x (List.mem_of_getElem? hx)),cT (by have:=bh hx; have:=h.1; unfold Rm at this; omega)]
    simp only [Option.bind_some,Int.toNat_natCast]
    rw [Co hx]
  · unfold jm
    dsimp only
    rw [bQ]; rfl
theorem AH (k:ae):oo k=some (od k):=by
  unfold oo lU l3 od iR iF dO jh
  have hb:∀ n:Int,((k.Kind:Int) == n)=decide (k.Kind=n):=fun n=>by rw [Bool.eq_iff_iff]; simp
  rw [hb,hb,hb,hb,hb]
  by_cases h32:k.Kind=32
  · simp [h32]
  · by_cases h7:k.Kind=7
    · simp [h7]
    · by_cases h14:k.Kind=14
      · simp [h14]
      · by_cases h17:k.Kind=17
        · simp [h17]
        · by_cases h18:k.Kind=18
          · simp [h18]
          · simp only [h32,h7,h14,h17,h18,decide_false,Bool.or_false,cond_false]
            cases decide ((1:Int)≤k.Kind) <;> cases decide ((k.Kind:Int)≤22) <;> rfl
section
variable {l:List aL} {b:ah}
theorem By {ins:List aG} (hl:Rm ins.length) (k:ae):bP (fun x0=>cS x0 k) ins=some (if ins.findIdx (fun x=>dh x.Key k) < ins.length then (ins.findIdx (fun x=>dh x.Key k):Int) else -1):=by
  unfold Rm at hl
  unfold bP
  have hgo:∀ (i:Nat) (x:aG),ins[i]? = some x→dh x.Key k=false→aN ins (fun x0=>cS x0 k) (i:Int)=some (.go ((i + 1:Nat):Int)):=fun i x hx hp=>by
    unfold aN
    rw [lg hx,cond_true,bk,hx,Option.bind_some,cT (by have:=bh hx; omega)]
    show (some (dh x.Key k)).bind _=_
    rw [hp]; rfl
  have hy:∀ (i:Nat) (x:aG),ins[i]? = some x→dh x.Key k=true→aN ins (fun x0=>cS x0 k) (i:Int)=some (.out (.out (i:Int))):=fun i x hx hp=>by
    unfold aN
    rw [lg hx,cond_true,bk,hx,Option.bind_some]
    show (some (dh x.Key k)).bind _=_
    rw [hp]; rfl
  have hn:aN ins (fun x0=>cS x0 k) (ins.length:Int)=some (.out (.go ())):=by
    unfold aN
    rw [bQ]; rfl
  have hlow:∀ i,i < ins.findIdx (fun x=>dh x.Key k)→∀ x,ins[i]? = some x→dh x.Key k=false:=fun i hi x hx=>by
    have h1:=List.not_of_lt_findIdx hi
    obtain ⟨h2,h3⟩:=List.getElem?_eq_some_iff.1 hx
    rw [← h3]
    simpa using h1
  have hat:∀ x,ins[ins.findIdx (fun x=>dh x.Key k)]? = some x→dh x.Key k=true:=fun x hx=>by
    obtain ⟨h2,h3⟩:=List.getElem?_eq_some_iff.1 hx
    rw [← h3]
    exact List.findIdx_getElem (p:=fun x:aG=>dh x.Key k) (w:=h2)
  generalize ins.findIdx (fun x=>dh x.Key k)=j at hlow hat
  by_cases h:j < ins.length
  · rw [if_pos h]
    have e:=List.getElem?_eq_getElem h
    have hlp:=qW (B:=fun s:Int=>aN ins (fun x0=>cS x0 k) s) (fun i=>(i:Int)) j (s0:=0) rfl (r:=Fl.out (j:Int)) (fun i hi=>hgo i _ (List.getElem?_eq_getElem (show i < ins.length by omega)) (hlow i hi _ (List.getElem?_eq_getElem (show i < ins.length by omega)))) (hy j _ e (hat _ e))
    rw [hlp]; rfl
  · rw [if_neg h]
    have hlp:=qW (B:=fun s:Int=>aN ins (fun x0=>cS x0 k) s) (fun i=>(i:Int)) ins.length (s0:=0) rfl (r:=Fl.go ()) (fun i hi=>hgo i _ (List.getElem?_eq_getElem hi) (hlow i (by omega) _ (List.getElem?_eq_getElem hi))) hn
    rw [hlp]; rfl
theorem vh (hb:Rm b.Inputs.length) (k:ae):Ok (ja b k) fun x=>x.Value=(cB b k).Value∧x.Changed=(cB b k).Changed:=by
  unfold ja
  refine Ok.eq (By hb k) ?_
  unfold cB
  by_cases h:b.Inputs.findIdx (fun x=>dh x.Key k) < b.Inputs.length
  · have e:=List.getElem?_eq_getElem h
    rw [if_pos h,decide_eq_false (by omega),cond_false]
    refine Ok.eq (by rw [bk]; exact e) (Ok.ret ?_)
    rw [List.find?_eq_getElem?_findIdx,e]
    exact ⟨rfl,rfl⟩
  · rw [if_neg h,show decide ((-1:Int) < 0)=true from rfl,cond_true,List.find?_eq_getElem?_findIdx,List.getElem?_eq_none (by omega)]
    exact Ok.ret ⟨rfl,rfl⟩
theorem o9 (hb:Rm b.Inputs.length) (k:ae):bL b k=some (cB b k).Value:=by
  unfold bL
  obtain ⟨x,e,h,_⟩:=vh hb k
  rw [e,Option.bind_some,h]
theorem sN (hb:Rm b.Inputs.length) (k:ae):cC b k=some (cB b k).Changed:=by
  unfold cC
  obtain ⟨x,e,_,h⟩:=vh hb k
  rw [e,Option.bind_some,h]
theorem Dy {f:ae→Option Bool} {s:List ae} (hl:Rm s.length) (h:∀ x ∈ s,f x=some false):kw f s=some false:=by
  unfold Rm at hl
  have e:og f s=some (-1):=by
    unfold og
    refine ee (dA (r:=Fl.go ()) s.length (fun k hk=>?_) ?_) rfl
    · unfold kz
      rw [dlt hk,cond_true,bv hk,Option.bind_some,h _ (List.getElem_mem hk),cT (by omega)]; rfl
    · unfold kz
      rw [bQ]; rfl
  unfold kw
  rw [e]; rfl
theorem Dz {f:al→Option Bool} {s:List al} (hl:Rm s.length) (h:∀ x ∈ s,f x=some false):bz f s=some false:=by
  unfold Rm at hl
  have e:kA f s=some (-1):=by
    unfold kA
    refine ee (dA (r:=Fl.go ()) s.length (fun k hk=>?_) ?_) rfl
    · unfold gU
      rw [dlt hk,cond_true,bv hk,Option.bind_some,h _ (List.getElem_mem hk),cT (by omega)]; rfl
    · unfold gU
      rw [bQ]; rfl
  unfold bz
  rw [e]; rfl
theorem BU {f:aT→Option Bool} {s:List aT} (hl:Rm s.length) (h:∀ x ∈ s,f x=some false):bj f s=some false:=by
  unfold Rm at hl
  have e:bK f s=some (-1):=by
    unfold bK
    refine ee (dA (r:=Fl.go ()) s.length (fun k hk=>?_) ?_) rfl
    · unfold bA
      rw [dlt hk,cond_true,bv hk,Option.bind_some,h _ (List.getElem_mem hk),cT (by omega)]; rfl
    · unfold bA
      rw [bQ]; rfl
  unfold bj
  rw [e]; rfl
theorem wF {n:Nat} (h:n < 100):gj (rk l n)=some true:=by
  unfold rk
  exact CA (by split <;> simp) h
theorem tF {n:Nat} (h:n < 100):gj (bn n)=some true:=BH h
theorem BI (k:ae):px k=ci k:=rfl
theorem mA.kvalid (hl:l.length≤8) {k:ae} (h:mA l k):gj k=some true:=by
  rcases h with ⟨c,hc,rfl⟩ | ⟨n,hn,rfl⟩
  · exact tF (by omega)
  · exact wF (by omega)
theorem B9 (hl:l.length≤8) {rev:Int} (hrev:rev≤1000000) {r:al} (h:p9 l rev r):l4 r=some true:=by
  obtain ⟨n,hn,hk⟩:=h.key
  have h3:=h.reads
  have h4:=h.value
  have h5:=h.low
  have h6:=h.mid
  have h7:=h.high
  have h8:=h.cost
  have hj:cR r false=some true:=by
    unfold cR
    rw [cond_false,decide_eq_true (by omega),decide_eq_true (by omega),decide_eq_true (by omega),decide_eq_true (by omega),decide_eq_true (by omega)]
    simp only [cond_true]
    rw [Dy (by unfold Rm; omega) fun x hx=>by unfold jn; rw [(h.good x hx).kvalid hl]; rfl]; rfl
  unfold l4
  rw [hk,wF (by omega),Option.bind_some,BI,sO,Option.bind_some,decide_eq_false (by omega),decide_eq_false (by omega)]
  simp only [Bool.not_true,cond_false]
  cases hd:r.Dirty with
  | false=>exact hj
  | true =>
    have:=h.dirty hd
    rw [hk] at this
    rw [cond_true,AH,this]
    exact hj
theorem Gb (h:iu l b) (hl:l.length≤8):g9 b.Records=some true:=by
  have hn:=h.nrec
  unfold g9
  refine ee (dA (r:=Fl.go ()) b.Records.length (fun k hk=>?_) ?_) ?_
  · unfold fe
    rw [dlt hk,cond_true,bv hk,Option.bind_some,B9 hl h.rev.2 (h.recs _ (List.getElem_mem hk)),Option.bind_some]
    have hj:cY (k:Int) false=some (.go ((k + 1:Nat):Int)):=by unfold cY; rw [cT (by omega)]; rfl
    simp only [Bool.not_true,cond_false]
    rcases Nat.eq_zero_or_pos k with h0 | h0
    · subst h0
      exact hj
    · rw [decide_eq_true (by omega),cond_true,show IntKind.i64.wrap ((k:Int) - 1)=((k - 1:Nat):Int) by rw [nJ (by omega) (by omega)]; omega,bv (show k - 1 < b.Records.length by omega),Option.bind_some,y3,Option.bind_some]
      have:=List.pairwise_iff_getElem.1 h.recsA (k - 1) k (by omega) hk (by omega)
      rw [decide_eq_false (by omega)]
      exact hj
  · unfold fe
    rw [bQ]; rfl
  · show some (decide ((b.Records.length:Int)≤4000))=some true
    rw [decide_eq_true (by omega)]
theorem ym {c:Nat} (hc:c < 100):ip (bn c)=some true:=by
  unfold ip
  rw [tF hc,Option.bind_some,cond_true,BI,n9]; rfl
theorem yn (h:iu l b) (hl:l.length≤8):ik b=some true:=by
  have hn:=h.nrec
  have hi:=h.nin
  have hrev:=h.rev
  unfold ik
  rw [decide_eq_false (by omega),decide_eq_false (by omega),decide_eq_false (by omega),Gb h hl]
  simp only [cond_false,Option.bind_some,Bool.not_true]
  refine ee (dA (r:=Fl.go ()) b.Inputs.length (fun k hk=>?_) ?_) ?_
  · have hx:=h.ins _ (List.getElem_mem hk)
    obtain ⟨c,hc,hkey⟩:=hx.key
    have h1:=hx.value
    have h2:=hx.low
    have h3:=hx.high
    unfold gC
    rw [dlt hk,cond_true,bv hk,Option.bind_some,hkey,ym (by omega),Option.bind_some]
    have hj:bU (k:Int) false=some (.go ((k + 1:Nat):Int)):=by unfold bU; rw [cT (by omega)]; rfl
    simp only [Bool.not_true,cond_false]
    rw [decide_eq_false (show ¬ (1073741824:Int) < (b.Inputs[k].Value.size:Int) by omega),decide_eq_false (show ¬ (b.Inputs[k].Changed:Int) < 0 by omega),decide_eq_false (show ¬ (b.Revision:Int) < b.Inputs[k].Changed by omega)]
    rcases Nat.eq_zero_or_pos k with h0 | h0
    · subst h0
      exact hj
    · rw [decide_eq_true (by omega),cond_true,show IntKind.i64.wrap ((k:Int) - 1)=((k - 1:Nat):Int) by rw [nJ (by omega) (by omega)]; omega,bv (show k - 1 < b.Inputs.length by omega),Option.bind_some,y3,Option.bind_some]
      have:=List.pairwise_iff_getElem.1 h.insA (k - 1) k (by omega) hk (by omega)
      rw [hkey] at this
      rw [decide_eq_false (by omega)]
      exact hj
  · unfold gC
    rw [bQ]; rfl
  · show gB b=some true
    unfold gB
    rw [Dz (by unfold Rm; omega) fun x hx=>by unfold il; rw [decide_eq_false (by have:=(h.recs x hx).high; omega)]]; rfl
theorem Cc (h:iu l b) (hl:l.length≤8) {cs:List aT} (hc:∀ c ∈ cs,wN c) (hn:cs.length≤32):jL b cs=some 0:=by
  unfold jL
  rw [yn h hl,Option.bind_some,decide_eq_false (by omega)]
  simp only [Bool.not_true,cond_false]
  rw [BU (by unfold Rm; omega) fun x hx=>by obtain ⟨n,hn,e⟩:=(hc x hx).key; unfold im; rw [e,ym (by omega)]; rfl,Option.bind_some,cond_false,
    BU (by unfold Rm; omega) fun x hx=>by unfold io; rw [decide_eq_false (by have:=(hc x hx).value; omega)]]
  rfl
theorem DG (h:iu l b) (hl:l.length≤8):fw b=some b:=by
  have hi:=h.nin
  unfold fw cK
  rw [eH (by simp; omega),C0 (h.rm hl).1]
  simp [gd]
end
end
section
open Go.RowKit
open Go.Lib hiding intOf
theorem CM {l:List aG} {b:ah} (h:n7 l) (hl:Rm l.length) (hb:Rm b.Inputs.length) (ch:Bool) {r:aG} (hrev:IntKind.i64.wrap (b.Revision + 1)=r.Changed) (hne:(cB b r.Key).Value ≠ r.Value):ce b ch l r.Key r.Value=some (true,o0 l r):=by
  have hl1:=hl
  unfold Rm at hl1
  have hn:((cB b r.Key).Value.toList == r.Value.toList)=false:=beq_eq_false_iff_ne.2 fun e=>hne (toList_inj e)
  unfold ce
  rw [o9 hb,Option.bind_some,hn,cond_false,AN h hl,Option.bind_some,hrev]
  dsimp only
  have hs:=ur h r.Key
  have hb:=wa l r.Key
  obtain ⟨L,hL⟩:∃ L,L=l.filter fun x=>decide (bS x.Key r.Key < 0):=⟨_,rfl⟩
  obtain ⟨H,hH⟩:∃ H,H=l.filter fun x=>decide (¬ bS x.Key r.Key < 0):=⟨_,rfl⟩
  have hbl:lf l r.Key=L.length:=by rw [hL]; rfl
  rw [← hL,← hH] at hs
  have hasc:n7 H:=by rw [hH]; exact List.Pairwise.filter _ h
  have hge:∀ x ∈ H,¬ bS x.Key r.Key < 0:=fun x hx=>by rw [hH] at hx; simpa using (List.mem_filter.1 hx).2
  have hgt:l.filter (fun x=>decide (0 < bS x.Key r.Key))=H.filter fun x=>decide (0 < bS x.Key r.Key):=by
    rw [hH,List.filter_filter]
    refine List.filter_congr fun x _=>?_
    by_cases h0:0 < bS x.Key r.Key
    · simp [h0]; omega
    · simp [h0]
  have e0:o0 l r=L ++ r :: H.filter fun x=>decide (0 < bS x.Key r.Key):=by unfold o0; rw [hgt,hL]
  rw [e0]
  cases hHc:H with
  | nil =>
    have:l[lf l r.Key]? = none:=by rw [hbl,List.getElem?_eq_none]; rw [hs,hHc]; simp
    rw [this]
    dsimp only
    rw [cond_false,hbl]
    have hn:L.length=l.length:=by rw [hs,hHc]; simp
    rw [show decide (0≤(L.length:Int))=true from decide_eq_true (by omega),show decide ((L.length:Int)≤(l.length:Int))=true from decide_eq_true (by omega),show bG (l.length + 1)=true from eH (by omega)]
    simp only [gd,cond_true,Int.toNat_natCast]
    have hl2:l=L:=by rw [hs,hHc,List.append_nil]
    rw [hl2]; simp
  | cons x r2 =>
    have hx:l[lf l r.Key]? = some x:=by rw [hbl,hs,hHc]; simp
    have hle:L.length≤l.length:=by rw [hs]; simp
    rw [hx]
    dsimp only
    have hasc2:=hasc
    rw [hHc] at hasc2
    have hr2:=(List.pairwise_cons.1 hasc2).1
    have hge':=hge x (by rw [hHc]; simp)
    have tl:(r2.filter fun x=>decide (0 < bS x.Key r.Key))=r2:=by
      rw [List.filter_eq_self]
      intro y hy
      simp only [decide_eq_true_eq]
      have h1:=hr2 y hy
      rw [lS]
      refine oY (b:=x.Key) ?_ h1
      intro hh
      exact hge' hh
    by_cases h0:bS x.Key r.Key=0
    · rw [h0,show ((0:Int) == 0)=true from rfl,cond_true,bk,hx,Option.bind_some,Int.toNat_natCast,hbl,List.filter_cons_of_neg (by simp [h0]),tl]
      rw [hs,hHc]
      simp
    · have hpos:0 < bS x.Key r.Key:=by omega
      rw [show (bS x.Key r.Key == 0)=false from by simpa using h0,cond_false,hbl,show decide (0≤(L.length:Int))=true from decide_eq_true (by omega),show decide ((L.length:Int)≤(l.length:Int))=true from decide_eq_true (by omega),show bG (l.length + 1)=true from eH (by omega)]
      simp only [gd,cond_true,Int.toNat_natCast]
      rw [List.filter_cons_of_pos (by simpa using hpos),tl,hs,hHc]
      simp
end
section
open Go.RowKit
open Go.Lib hiding intOf
theorem uq:∀ {a b:List aG},n7 a→n7 b→(∀ x,x ∈ a↔x ∈ b)→a=b
  | [],[],_,_,_=>rfl
  | [],y :: b,_,_,h=>by have:=(h y).2 List.mem_cons_self; cases this
  | x :: a,[],_,_,h=>by have:=(h x).1 List.mem_cons_self; cases this
  | x :: a,y :: b,ha,hb,h=>by
    have ha':=List.pairwise_cons.1 ha
    have hb':=List.pairwise_cons.1 hb
    have e:x=y:=by
      rcases List.mem_cons.1 ((h x).1 List.mem_cons_self) with e | h1
      · exact e
      · rcases List.mem_cons.1 ((h y).2 List.mem_cons_self) with e | h2
        · exact e.symm
        · exact absurd (hb'.1 x h1) (AG (ha'.1 y h2))
    subst e
    rw [uq ha'.2 hb'.2 fun z=>?_]
    constructor
    · intro hz
      rcases List.mem_cons.1 ((h z).1 (List.mem_cons_of_mem _ hz)) with e | h1
      · subst e; exact absurd (ha'.1 z hz) uX
      · exact h1
    · intro hz
      rcases List.mem_cons.1 ((h z).2 (List.mem_cons_of_mem _ hz)) with e | h1
      · subst e; exact absurd (hb'.1 z hz) uX
      · exact h1
theorem uR {b:ah} (h:n7 b.Inputs) {x:aG} (hx:x ∈ b.Inputs) {k:ae} (hk:x.Key=k):cB b k=x:=by
  unfold cB
  cases hf:b.Inputs.find? fun y=>dh y.Key k with
  | none =>
    have:=List.find?_eq_none.1 hf x hx
    exact absurd (fK.2 hk) this
  | some y =>
    have h1:=List.mem_of_find?_eq_some hf
    have h2:=fK.1 (List.find?_some (p:=fun y:aG=>dh y.Key k) hf)
    exact A9 h h1 hx (h2.trans hk.symm)
theorem AC {b:ah} {k:ae} (h:∀ x ∈ b.Inputs,x.Key ≠ k):cB b k=⟨k,⟨#[]⟩,0⟩:=by
  unfold cB
  rw [List.find?_eq_none.2 fun x hx=>by rw [qV.2 (h x hx)]; simp]
theorem sj {b:ah} (k:ae):((cB b k) ∈ b.Inputs∧(cB b k).Key=k)∨((∀ x ∈ b.Inputs,x.Key ≠ k)∧cB b k=⟨k,⟨#[]⟩,0⟩):=by
  unfold cB
  cases hf:b.Inputs.find? fun y=>dh y.Key k with
  | none=>exact .inr ⟨fun x hx e=>List.find?_eq_none.1 hf x hx (fK.2 e),rfl⟩
  | some y=>exact .inl ⟨List.mem_of_find?_eq_some hf,fK.1 (List.find?_some (p:=fun y:aG=>dh y.Key k) hf)⟩
noncomputable def tT (b:ah) (q:ae×ByteArray):Bool:=!((cB b q.1).Value.toList == q.2.toList)
theorem pi {b:ah} {q:ae×ByteArray}:tT b q=true↔(cB b q.1).Value ≠ q.2:=by
  unfold tT
  rw [Bool.not_eq_true',beq_eq_false_iff_ne]
  exact ⟨fun h e=>h (by rw [e]),fun h e=>h (toList_inj e)⟩
structure Js (b:ah) (p:List (ae×ByteArray)) (ins ins':List aG):Prop where
  asc:n7 ins'
  ok:∀ x ∈ ins',qh (b.Revision + 1) x
  mem:∀ x,x ∈ ins'↔(∃ q ∈ p,tT b q=true∧x=⟨q.1,q.2,b.Revision + 1⟩)∨(x ∈ ins∧∀ q ∈ p,tT b q=true→x.Key ≠ q.1)
def uk (q:ae×ByteArray):Prop:=(∃ c,c < 4∧q.1=bn c)∧q.2.size≤1000
theorem uc {b:ah} (hb:Rm b.Inputs.length) (hr:0≤b.Revision∧b.Revision≤1000000):∀ (p:List (ae×ByteArray)),Nd p→(∀ q ∈ p,uk q)→∀ (ch:Bool) (ins:List aG),n7 ins→(∀ x ∈ ins,qh (b.Revision + 1) x) →
    ∃ ins',nj (fun (s:Bool×List aG) (k:ae) (v:ByteArray)=>ce b s.1 s.2 k v) (ch,ins) p=some (ch || p.any (tT b),ins')∧Js b p ins ins'
  | [],_,_,ch,ins,h1,h2=>⟨ins,by rw [List.any_nil,Bool.or_false]; rfl,h1,h2,fun x=>⟨fun h=>.inr ⟨h,fun q hq=>absurd hq List.not_mem_nil⟩,fun h=>by
      rcases h with ⟨q,hq,_⟩ | h
      · exact absurd hq List.not_mem_nil
      · exact h.1⟩⟩
  | q :: p,hnd,hk,ch,ins,h1,h2=>by
    have hnd2:q.1 ∉ p.map (·.1)∧Nd p:=List.nodup_cons.1 hnd
    have hq:=hk q List.mem_cons_self
    have hk2:∀ q' ∈ p,uk q':=fun q' h=>hk q' (List.mem_cons_of_mem _ h)
    have hw:IntKind.i64.wrap (b.Revision + 1)=b.Revision + 1:=nJ (by omega) (by omega)
    have hil:=ud h1 h2
    cases hc:tT b q with
    | false =>
      have hv:(cB b q.1).Value.toList == q.2.toList:=by unfold tT at hc; simpa using hc
      obtain ⟨ins',e,hu⟩:=uc hb hr p hnd2.2 hk2 ch ins h1 h2
      refine ⟨ins',?_,hu.asc,hu.ok,fun x=>(hu.mem x).trans ⟨fun h=>?_,fun h=>?_⟩⟩
      · rw [nj]
        have e1:ce b ch ins q.1 q.2=some (ch,ins):=by
          unfold ce
          rw [o9 hb,Option.bind_some,hv,cond_true]
        simp only [e1,Option.bind_some]
        rw [e,List.any_cons,hc,Bool.false_or]
      · rcases h with ⟨q',a1,a2,a3⟩ | ⟨a1,a2⟩
        · exact .inl ⟨q',List.mem_cons_of_mem _ a1,a2,a3⟩
        · refine .inr ⟨a1,fun q' hq' hcq=>?_⟩
          rcases List.mem_cons.1 hq' with rfl | hq'
          · rw [hc] at hcq; cases hcq
          · exact a2 q' hq' hcq
      · rcases h with ⟨q',a1,a2,a3⟩ | ⟨a1,a2⟩
        · rcases List.mem_cons.1 a1 with rfl | a1
          · rw [hc] at a2; cases a2
          · exact .inl ⟨q',a1,a2,a3⟩
        · exact .inr ⟨a1,fun q' hq'=>a2 q' (List.mem_cons_of_mem _ hq')⟩
    | true =>
      have hrO:qh (b.Revision + 1) (aG.mk q.1 q.2 (b.Revision + 1)):=⟨hq.1,hq.2,by show 0≤b.Revision + 1; omega,Int.le_refl _⟩
      obtain ⟨ins',e,hu⟩:=uc hb hr p hnd2.2 hk2 true (o0 ins (aG.mk q.1 q.2 (b.Revision + 1))) (yj h1 _) (zW h2 hrO)
      refine ⟨ins',?_,hu.asc,hu.ok,fun x=>(hu.mem x).trans ⟨fun h=>?_,fun h=>?_⟩⟩
      · rw [nj]
        have e1:ce b ch ins q.1 q.2=some (true,o0 ins (aG.mk q.1 q.2 (b.Revision + 1))):=CM (r:=aG.mk q.1 q.2 (b.Revision + 1)) h1 (by unfold Rm; omega) hb ch hw (pi.1 hc)
        simp only [e1,Option.bind_some]
        rw [e,List.any_cons,hc]
        simp
      · rcases h with ⟨q',a1,a2,a3⟩ | ⟨a1,a2⟩
        · exact .inl ⟨q',List.mem_cons_of_mem _ a1,a2,a3⟩
        · rcases sw.1 a1 with rfl | ⟨a3,a4⟩
          · exact .inl ⟨q,List.mem_cons_self,hc,rfl⟩
          · refine .inr ⟨a3,fun q' hq' hcq=>?_⟩
            rcases List.mem_cons.1 hq' with rfl | hq'
            · exact a4
            · exact a2 q' hq' hcq
      · rcases h with ⟨q',a1,a2,rfl⟩ | ⟨a1,a2⟩
        · rcases List.mem_cons.1 a1 with rfl | a1
          · exact .inr ⟨sw.2 (.inl rfl),fun q'' hq'' _ e=>hnd2.1 (by show q'.1 ∈ _; have e:q'.1=q''.1:=e; rw [e]; exact List.mem_map_of_mem hq'')⟩
          · exact .inl ⟨q',a1,a2,rfl⟩
        · exact .inr ⟨sw.2 (.inr ⟨a1,a2 q List.mem_cons_self hc⟩),fun q' hq'=>a2 q' (List.mem_cons_of_mem _ hq')⟩
def du (m:List (ae×ByteArray)) (cs:List aT):List (ae×ByteArray):=cs.foldl (fun m c=>cX aA c.Key c.Value m) m
theorem su {P:ae×ByteArray→Prop}:∀ (cs:List aT) (m:List (ae×ByteArray)),Nd m→(∀ q ∈ m,P q)→(∀ c ∈ cs,P (c.Key,c.Value))→Nd (du m cs)∧∀ q ∈ du m cs,P q
  | [],m,h1,h2,_=>⟨h1,h2⟩
  | c :: cs,m,h1,h2,h3=>by
    refine su cs (cX aA c.Key c.Value m) (Nd.put jg h1 _ _) (fun q hq=>?_) (fun c' hc=>h3 c' (List.mem_cons_of_mem _ hc))
    rcases List.mem_cons.1 ((ti jg c.Key c.Value h1).mem_iff.1 hq) with rfl | hq
    · exact h3 c List.mem_cons_self
    · exact h2 q (List.mem_filter.1 hq).1
structure vV (l:List aL) (b:ah) (cs:List aT) (b':ah):Prop where
  ok:iu l b'
  recs:b'.Records=b.Records
  get:∀ k v,bH aA k (du [] cs)=some v→(cB b k).Value ≠ v→cB b' k=⟨k,v,b.Revision + 1⟩
  keep:∀ k,(∀ v,bH aA k (du [] cs)=some v→(cB b k).Value=v)→cB b' k=cB b k
  rev:(∃ k v,bH aA k (du [] cs)=some v∧(cB b k).Value ≠ v)→b'.Revision=b.Revision + 1
  same:(∀ k v,bH aA k (du [] cs)=some v→(cB b k).Value=v)→b'=b
theorem qp {l:List aL} {b:ah} (hl:l.length≤8) (h:iu l b) (hrev:b.Revision + 1≤1000000) {cs:List aT} (hc:∀ c ∈ cs,wN c) (hn:cs.length≤32):∃ b',cc b cs=some (b',0)∧vV l b cs b':=by
  have hr0:=h.rev
  have hb:=(h.rm hl).2.1
  have hw:IntKind.i64.wrap (b.Revision + 1)=b.Revision + 1:=nJ (by omega) (by omega)
  obtain ⟨hnd,hpo⟩:=su (P:=uk) cs [] List.Pairwise.nil (fun q hq=>absurd hq List.not_mem_nil) (fun c hc'=>⟨(hc c hc').key,(hc c hc').value⟩)
  have hin1:∀ x ∈ b.Inputs,qh (b.Revision + 1) x:=fun x hx=>(h.ins x hx).le (by omega)
  obtain ⟨ins',e1,hu⟩:=uc hb hr0 (du [] cs) hnd hpo false b.Inputs h.insA hin1
  have hmg:∀ k v,bH aA k (du [] cs)=some v↔(k,v) ∈ du [] cs:=fun k v=>qz jg hnd
  have hrng:tq (fun (s:Bool×List aG) (k:ae) (v:ByteArray)=>ce b s.1 s.2 k v) (du [] cs) (false,b.Inputs)=some ((du [] cs).any (tT b),ins'):=by
    refine AP fun p hp=>?_
    obtain ⟨ins2,e2,hu2⟩:=uc hb hr0 p (hnd.perm hp.symm) (fun q hq=>hpo q (hp.mem_iff.1 hq)) false b.Inputs h.insA hin1
    rw [e2,Bool.false_or,hp.any_eq]
    congr 2
    refine uq hu2.asc hu.asc fun x=>(hu2.mem x).trans (Iff.trans ?_ (hu.mem x).symm)
    simp only [hp.mem_iff]
  have hil:=ud hu.asc hu.ok
  have happ:cc b cs=eZ b b ((du [] cs).any (tT b)) ins':=by
    unfold cc
    rw [Cc h hl hc hn,Option.bind_some]
    simp only [show ((0:Int) != 0)=false from rfl,cond_false]
    have hlp:loop (fun s:(List (ae×ByteArray))×Int=>e6 cs s.1 s.2) (([]:List (ae×ByteArray)),0)=some (du [] cs):=by
      refine dZ (xs:=cs) (fun k=>(du [] (cs.take k),(k:Int))) rfl (fun k x hx=>?_) ?_
      · unfold e6
        dsimp only
        rw [lg hx,cond_true,bk,hx,Option.bind_some,cT (by have:=bh hx; omega),cw hx]
        unfold du
        rw [List.foldl_append]; rfl
      · unfold e6
        dsimp only
        rw [bQ,List.take_length]; rfl
    rw [hlp,Option.bind_some]
    unfold ji
    rw [DG h hl,Option.bind_some,hrng,Option.bind_some]
  rw [happ]
  unfold eZ
  have getOk:∀ rv:Int,∀ k,cB (ah.mk rv ins' b.Records) k=cB (ah.mk b.Revision ins' b.Records) k:=fun _ _=>rfl
  cases ha:(du [] cs).any (tT b) with
  | false =>
    have hno:∀ q ∈ du [] cs,tT b q=false:=fun q hq=>by
      have:=List.any_eq_false.1 ha q hq
      simpa using this
    have hins:ins'=b.Inputs:=uq hu.asc h.insA fun x=>(hu.mem x).trans ⟨fun hx=>by
        rcases hx with ⟨q,a1,a2,_⟩ | ⟨a1,_⟩
        · rw [hno q a1] at a2; cases a2
        · exact a1,fun hx=>.inr ⟨hx,fun q hq hcq=>by rw [hno q hq] at hcq; cases hcq⟩⟩
    refine ⟨b,by rw [hins]; rfl,h,rfl,fun k v hk hv=>?_,fun _ _=>rfl,fun ⟨k,v,hk,hv⟩=>?_,fun _=>rfl⟩
    · have:=hno _ ((hmg k v).1 hk)
      rw [(pi (q:=(k,v))).2 hv] at this; cases this
    · have:=hno _ ((hmg k v).1 hk)
      rw [(pi (q:=(k,v))).2 hv] at this; cases this
  | true =>
    obtain ⟨q0,hq0,hc0⟩:=List.any_eq_true.1 ha
    refine ⟨ah.mk (b.Revision + 1) ins' b.Records,?_,h.rise hrev hu.asc hu.ok,rfl,fun k v hk hv=>?_,fun k hk=>?_,fun _=>rfl,fun hs=>?_⟩
    · simp only [Bool.not_true,cond_false]
      rw [decide_eq_false (by omega),show (b.Revision == 1073741824)=false from beq_eq_false_iff_ne.2 (by omega),hw]; rfl
    · exact uR (b:=ah.mk (b.Revision + 1) ins' b.Records) hu.asc ((hu.mem _).2 (.inl ⟨(k,v),(hmg k v).1 hk,(pi (b:=b) (q:=(k,v))).2 hv,rfl⟩)) rfl
    · have hkq:∀ q ∈ du [] cs,tT b q=true→k ≠ q.1:=fun q hq hcq e=>by
        subst e
        exact pi.1 hcq (hk q.2 ((hmg q.1 q.2).2 hq))
      rcases sj (b:=b) k with ⟨a1,a2⟩ | ⟨a1,a2⟩
      · exact uR (b:=ah.mk (b.Revision + 1) ins' b.Records) hu.asc ((hu.mem _).2 (.inr ⟨a1,fun q hq hcq=>by rw [a2]; exact hkq q hq hcq⟩)) a2
      · rw [a2]
        refine AC fun x hx e=>?_
        rcases (hu.mem x).1 hx with ⟨q,b1,b2,rfl⟩ | ⟨b1,b2⟩
        · exact hkq q b1 b2 e.symm
        · exact a1 x b1 e
    · exact absurd (hs q0.1 q0.2 ((hmg _ _).2 hq0)) (pi.1 hc0)
end
section
open Go.RowKit
open Go.Lib hiding intOf
theorem xj {m:Option Bool} (h:Ok m fun r=>r=true):m=some true:=by obtain ⟨v,e,rfl⟩:=h; exact e
section
variable {l:List aL} {b:ah}
theorem zm {r:al} (h:Rm r.Reads.length):kH r r=some true:=by
  unfold kH cH
  rw [vS h]
  simp
theorem AX {recs:List al} (h:CH recs):oA recs recs=some true:=by
  have hl:=h.1
  unfold Rm at hl
  unfold oA
  rw [show (((recs.length:Int):Int) != (recs.length:Int))=false by simp,cond_false]
  refine ee (dA (r:=Fl.go ()) recs.length (fun k hk=>?_) ?_) rfl
  · unfold kI
    rw [dlt hk,cond_true,bv hk,Option.bind_some,Option.bind_some,zm (h.2 _ (List.getElem_mem hk)),cT (by omega)]; rfl
  · unfold kI
    rw [bQ]; rfl
theorem tw (h:CH b.Records) (hi:Rm b.Inputs.length):jy b b=some true:=by
  unfold Rm at hi
  unfold jy
  rw [show ((b.Revision:Int) != b.Revision)=false by simp,cond_false,show (((b.Inputs.length:Int):Int) != (b.Inputs.length:Int))=false by simp,cond_false,AX h]
  simp only [Option.bind_some,Bool.not_true,cond_false]
  refine ee (dA (r:=Fl.go ()) b.Inputs.length (fun k hk=>?_) ?_) rfl
  · unfold kJ
    rw [dlt hk,cond_true,bv hk,Option.bind_some,Option.bind_some,cT (by omega)]
    simp
  · unfold kJ
    rw [bQ]; rfl
theorem vq (hi:b.Inputs.length≤1000) (r:Int):cV b r=some ((b.Inputs.filter fun x=>decide (r < x.Changed)).map aG.Key):=by
  unfold cV gR
  refine ee (dZ (xs:=b.Inputs) (fun k=>(((b.Inputs.take k).filter fun x=>decide (r < x.Changed)).map aG.Key,(k:Int))) rfl (r:=(b.Inputs.filter fun x=>decide (r < x.Changed)).map aG.Key) (fun k x hx=>?_) ?_) rfl
  · have hlt:=bh hx
    have hlen:=nL (fun x:aG=>decide (r < x.Changed)) b.Inputs k
    unfold fi fh
    dsimp only
    rw [dlt hlt,cond_true,bk,hx,Option.bind_some,cT (by omega),cw hx,List.filter_append,List.map_append]
    by_cases e:r < x.Changed
    · rw [decide_eq_true e,cond_true,eH (by rw [List.length_map]; simp only [List.length_cons,List.length_nil]; omega)]
      simp [e,gd]
    · rw [decide_eq_false e,cond_false]
      simp [e]
  · unfold fi
    dsimp only
    rw [bQ,List.take_length]; rfl
theorem vV.val {cs:List aT} {b':ah} (h:vV l b cs b') (k:ae):(cB b' k).Value=(bH aA k (du [] cs)).getD (cB b k).Value:=by
  cases hm:bH aA k (du [] cs) with
  | none=>rw [h.keep k fun v e=>by rw [hm] at e; cases e]; rfl
  | some v =>
    by_cases e:(cB b k).Value=v
    · rw [h.keep k fun v' e'=>by rw [hm] at e'; rw [← Option.some.inj e']; exact e]
      exact e
    · rw [h.get k v hm e]; rfl
theorem vV.revc {cs:List aT} {b':ah} (h:vV l b cs b'):((∃ k v,bH aA k (du [] cs)=some v∧(cB b k).Value ≠ v)∧b'.Revision=b.Revision + 1)∨((∀ k v,bH aA k (du [] cs)=some v→(cB b k).Value=v)∧b'=b):=by
  by_cases e:∃ k v,bH aA k (du [] cs)=some v∧(cB b k).Value ≠ v
  · exact .inl ⟨e,h.rev e⟩
  · have hs:∀ k v,bH aA k (du [] cs)=some v→(cB b k).Value=v:=fun k v hm=>Classical.byContradiction fun hn=>e ⟨k,v,hm,hn⟩
    exact .inr ⟨hs,h.same hs⟩
theorem lW (k:ae) (c:aT):bH aA k (du [] [c])=if k=c.Key then some c.Value else none:=by
  show bH aA k (cX aA c.Key c.Value [])=_
  by_cases e:k=c.Key
  · subst e; rw [cQ,if_pos rfl]
  · rw [d5 e,if_neg e]; rfl
theorem ne:dY=some true:=by
  have h0:iu [] (ah.mk 0 [] []):=⟨⟨by show (0:Int)≤0; omega,by show (0:Int)≤1000000; omega⟩,fun x hx=>absurd hx List.not_mem_nil,List.Pairwise.nil,fun x hx=>absurd hx List.not_mem_nil,List.Pairwise.nil⟩
  have hcell:cZ 3=some (bn 3):=oy (n:=3) (by omega)
  have hch:∀ c ∈ [aT.mk (bn 3) ⟨#[55]⟩],wN c:=fun c hc=>by
    rw [List.mem_singleton.1 hc]
    exact ⟨⟨3,by omega,rfl⟩,by show (1:Nat)≤1000; omega⟩
  obtain ⟨b1,e1,a1⟩:=qp (by simp) h0 (by show (0:Int) + 1≤1000000; omega) hch (by simp)
  have hm:bH aA (bn 3) (du [] [aT.mk (bn 3) ⟨#[55]⟩])=some ⟨#[55]⟩:=by rw [lW,if_pos rfl]
  have hne:(cB (ah.mk 0 [] []) (bn 3)).Value ≠ ⟨#[55]⟩:=by
    show (⟨#[]⟩:ByteArray) ≠ ⟨#[55]⟩
    intro e
    have:=congrArg ByteArray.size e
    cases this
  have g1:=a1.get _ _ hm hne
  have r1:=a1.rev ⟨_,_,hm,hne⟩
  have r1:b1.Revision=0 + 1:=r1
  obtain ⟨b2,e2,a2⟩:=qp (by simp) a1.ok (by omega) hch (by simp)
  have hs:b2=b1:=a2.same fun k v hk=>by
    rw [lW] at hk
    split at hk
    · rename_i e
      rw [e,g1]; exact Option.some.inj hk
    · cases hk
  have hrm:=a1.ok.rm (by simp)
  unfold dY
  rw [hcell]
  simp only [Option.bind_some]
  rw [e1]
  simp only [Option.bind_some]
  rw [show cc (ah.mk b1.Revision b1.Inputs b1.Records) [aT.mk (bn 3) ⟨#[55]⟩]=some (b2,0) from e2]
  simp only [Option.bind_some]
  rw [show ((0:Int) == 0)=true from rfl,cond_true,cond_true,show (b1.Revision == 1)=true by rw [r1]; rfl,cond_true]
  rw [show bL (ah.mk b1.Revision b1.Inputs b1.Records) (bn 3)=some (cB b1 (bn 3)).Value from o9 hrm.2.1 _,Option.bind_some,g1]
  rw [show cC (ah.mk b1.Revision b1.Inputs b1.Records) (bn 3)=some (cB b1 (bn 3)).Changed from sN hrm.2.1 _,Option.bind_some,g1]
  rw [hs,show jy (ah.mk b1.Revision b1.Inputs b1.Records) (ah.mk b1.Revision b1.Inputs b1.Records)=some true from tw hrm.1 hrm.2.1]
  simp [dN]
theorem oQ {t:List Int} (h:¬ t.length≤400):gG t=some false:=by
  unfold gG
  rw [decide_eq_false (by omega)]
theorem pO {t:List Int} (h:t.length≤400):gG t=some true:=by
  unfold gG
  rw [decide_eq_true (by omega)]
theorem CQ (t:List Int):ep t=some true:=by
  rcases Nat.lt_or_ge 400 t.length with ht | ht
  · unfold ep
    rw [oQ (by omega),Option.bind_some,ne]; rfl
  refine xj ?_
  unfold ep
  refine Ok.eq (pO ht) ?_
  simp only [Bool.not_true,cond_false]
  refine Ok.eq (v:=aQ.mk t 0) rfl (Ok.bind (ua (d:=t) (i:=0) ⟨by omega,by omega,ht⟩ (by omega) (by omega)) fun u ⟨hR,hB,hrev,hd⟩=>?_)
  have hl:=hR.high
  have hrm:=hB.rm hl
  refine Ok.bind (wb hd) fun c ⟨hc,hd2⟩=>Ok.eq (o9 hrm.2.1 _) ?_
  have hold:(cB u.2.1 c.1.Key).Value.size≤1000:=by
    rcases sj (b:=u.2.1) c.1.Key with ⟨h1,_⟩ | ⟨_,h1⟩
    · exact (hB.ins _ h1).value
    · rw [h1]; show (0:Nat)≤1000; omega
  have hB':ah.mk u.2.1.Revision u.2.1.Inputs u.2.1.Records=u.2.1:=rfl
  have hK:ae.mk c.1.Key.Kind c.1.Key.Text=c.1.Key:=rfl
  rw [hK]
  generalize hov:(cB u.2.1 c.1.Key).Value=old at hold
  have co:wN (aT.mk c.1.Key old):=⟨hc.key,hold⟩
  obtain ⟨x,ex,ax⟩:=qp hl hB (by omega) (cs:=[aT.mk c.1.Key c.1.Value,aT.mk c.1.Key old]) (fun q hq=>by
    rcases List.mem_cons.1 hq with rfl | hq
    · exact hc
    · rw [List.mem_singleton.1 hq]; exact co) (by simp)
  obtain ⟨y,ey,ay⟩:=qp hl hB (by omega) (cs:=[aT.mk c.1.Key c.1.Value]) (fun q hq=>by rw [List.mem_singleton.1 hq]; exact hc) (by simp)
  have hyr:y.Revision≤u.2.1.Revision + 1:=by
    rcases ay.revc with ⟨_,h⟩ | ⟨_,h⟩
    · omega
    · rw [h]; omega
  obtain ⟨z,ez,az⟩:=qp hl ay.ok (by omega) (cs:=[aT.mk c.1.Key old]) (fun q hq=>by rw [List.mem_singleton.1 hq]; exact co) (by simp)
  have hx:x=u.2.1:=ax.same fun k v hk=>by
    have hk:bH aA k (cX aA c.1.Key old (cX aA c.1.Key c.1.Value []))=some v:=hk
    by_cases e:k=c.1.Key
    · subst e
      rw [cQ] at hk
      rw [hov]; exact Option.some.inj hk
    · rw [d5 e,d5 e] at hk
      cases hk
  unfold f0
  refine Ok.eq ex (Ok.eq ey (Ok.eq ez ?_))
  simp only [show ((0:Int) != 0)=false from rfl,cond_false]
  rw [hx]
  refine Ok.eq (tw hrm.1 hrm.2.1) ?_
  simp only [Bool.not_true,cond_false]
  have hzv:(cB z c.1.Key).Value=old:=by rw [az.val,lW,if_pos rfl]; rfl
  refine Ok.eq (v:=old) (by rw [← hzv]; exact o9 (az.ok.rm hl).2.1 _) ?_
  simp only [beq_self_eq_true,Bool.not_true,cond_false]
  have hj:∀ w,z.Revision=w→Ok (da (z,0) w) fun r=>r=true:=fun w hw=>by
    unfold da
    rw [hw,show (w == w)=true by simp,cond_true,ne]
    exact Ok.ret rfl
  have hyv:(cB y c.1.Key).Value=c.1.Value:=by rw [ay.val,lW,if_pos rfl]; rfl
  by_cases e:c.1.Value=old
  · rw [e]
    simp only [beq_self_eq_true,Bool.not_true,cond_false]
    refine hj _ ?_
    have hy:y=u.2.1:=ay.same fun k v hk=>by
      rw [lW] at hk
      split at hk
      · rename_i e2
        have:=Option.some.inj hk
        rw [e2,← this]
        show (cB u.2.1 c.1.Key).Value=c.1.Value
        rw [hov,e]
      · cases hk
    have hz:z=y:=az.same fun k v hk=>by
      rw [lW] at hk
      split at hk
      · rename_i e2
        have:=Option.some.inj hk
        rw [e2,← this]
        show (cB y c.1.Key).Value=old
        rw [hyv,e]
      · cases hk
    rw [hz,hy]
  · rw [show (c.1.Value.toList == old.toList)=false from beq_eq_false_iff_ne.2 fun h=>e (toList_inj h)]
    simp only [Bool.not_false,cond_true]
    refine hj _ ?_
    have h1:=ay.rev ⟨c.1.Key,c.1.Value,by rw [lW,if_pos rfl],by rw [hov]; exact fun h=>e h.symm⟩
    have h2:=az.rev ⟨c.1.Key,old,by rw [lW,if_pos rfl],by rw [hyv]; exact e⟩
    have hw:IntKind.i64.wrap (u.2.1.Revision + 2)=u.2.1.Revision + 2:=nJ (by have:=hB.rev; omega) (by omega)
    rw [hw]
    omega
end
end
section
open Go.RowKit Go.ChangeShapes Go.WideShapes Go.ChangeAt
open Go.Lib hiding intOf
theorem DB:ownKnob Tryz.prog.godebug=none:=by kernel_rfl
theorem LaidVars.mem {P:Program} {w:World} {nm:String} {d:DataW Unit}:∀ {l:List (String×DataW Unit)} {ps:List MemPlace},DataW.LaidVars P w l ps→(nm,d) ∈ l →
    ∃ g t cs fuel p,P.globalNamed nm=some g∧(P.globals[g]?).map (·.type)=some t∧w.var? P nm=some cs∧DataW.trod (fun _=>()) P w 0 (fun _=>true) false fuel t cs.toList=some (d,p)
  | [],_,_,hm=>by cases hm
  | (n1,d1) :: l,ps,h,hm=>by
    obtain ⟨g,t,cs,f,p,q,hg,ht,hv,hd,hq,_⟩:=h
    rcases List.mem_cons.1 hm with he | hm
    · injection he with h1 h2
      subst h1 h2
      exact ⟨g,t,cs,f,p,hg,ht,hv,hd⟩
    · exact LaidVars.mem hq hm
theorem BJ {W : World} {l : List (String × DataW Unit)} (h : laidMet Tryz.prog l W) (hm : ("internal/strconv.uint64pow10", Lib.tabData .u64 pow10Tab) ∈ l) : TabIs Tryz.prog W "internal/strconv.uint64pow10" .u64 pow10Tab := by
  obtain ⟨ps,hl,_⟩:=h
  obtain ⟨g,t,cs,f,p,hg,ht,hv,hd⟩:=LaidVars.mem hl hm
  obtain rfl := Option.some.inj ((show Tryz.prog.globalNamed "internal/strconv.uint64pow10" = some 1 by kernel_rfl).symm.trans hg)
  obtain rfl:=Option.some.inj ((show (Tryz.prog.globals[1]?).map (·.type)=some 184 by kernel_rfl).symm.trans ht)
  unfold TabIs
  rw [hv,← cells_of_tab Tryz.underlying184 Tryz.underlying155 (by kernel_rfl) (by kernel_rfl) hd]
theorem yb {W:World} {l:List (String×DataW Unit)} (h:laidMet Tryz.prog l W) {nm:String} {d:DataW Unit} {s:String} {g0:Nat} (hm:(nm,DataW.iface s d) ∈ l) (hg0:Tryz.prog.globalNamed nm=some g0) (ht0:(Tryz.prog.globals[g0]?).map (·.type)=some 163) :
    ∃ ev,W.cell? ⟨g0,0,none⟩=some ev∧(ev = .nilIface∨∃ te pe,ev = .iface te pe):=by
  obtain ⟨ps,hl,_⟩:=h
  obtain ⟨g,t,cs,f,p,hg,ht,hv,hd⟩:=LaidVars.mem hl hm
  obtain rfl:=Option.some.inj (hg0.symm.trans hg)
  obtain rfl:=Option.some.inj (ht0.symm.trans ht)
  obtain ⟨_,u,v,hcs,_,_⟩:=iface_of_trod Tryz.underlying163 hd
  refine ⟨.iface u v,?_,.inr ⟨u,v,rfl⟩⟩
  have:=World.var?_cell hg0 hv 0
  rw [Array.eq_one_of_toList hcs] at this
  simpa using this
theorem zQ {W:World} {l:List (String×DataW Unit)} (h:laidMetH Tryz.prog l W) (hp:(l.all fun x=>x.2.handleName?.isNone)=true)
    (h1 : ("internal/strconv.uint64pow10", Lib.tabData .u64 pow10Tab) ∈ l) (h2 : ("strconv.ErrSyntax", Rows.laid_strconv_ErrSyntax) ∈ l) (h3 : ("strconv.ErrRange", Rows.laid_strconv_ErrRange) ∈ l) : Lv W := by
  rw [MakeChecks.laidMetH_plain _ _ _ hp] at h
  exact ⟨yb h h2 (by kernel_rfl) (by kernel_rfl),yb h h3 (by kernel_rfl) (by kernel_rfl),BJ h h1⟩
end
section
open Go.ChangeShapes Go.WideShapes Go.ChangeAt Go.RowKit Go.Deep Go.Joins
theorem zN {α:Type} {Q:Nat→α→Prop}:∀ (n:Nat),(∀ i,i < n→∃ x,Q i x)→∃ xs:List α,xs.length=n∧∀ i x,xs[i]? = some x→Q i x
  | 0,_=>⟨[],rfl,fun i x h=>by simp at h⟩
  | n + 1,h=>by
    obtain ⟨xs,h1,h2⟩:=zN n fun i hi=>h i (by omega)
    obtain ⟨y,hy⟩:=h n (by omega)
    refine ⟨xs ++ [y],by simp [h1],fun i x hx=>?_⟩
    by_cases hi:i < xs.length
    · rw [List.getElem?_append_left hi] at hx; exact h2 i x hx
    · have hl:=(List.getElem?_eq_some_iff.1 hx).1
      simp only [List.length_append,List.length_cons,List.length_nil] at hl
      have:i=xs.length:=by omega
      subst this
      rw [List.getElem?_append_right (Nat.le_refl _),Nat.sub_self] at hx
      simp only [List.getElem?_cons_zero,Option.some.injEq] at hx
      subst hx
      rw [h1]; exact hy
def tE {α:Type} (P:Program) (t:TypeId) (R:aR α) (Q:α→Prop):Prop :=
  ∀ {H:Type} {enc:TypeId×Value→H} {w:World} {base n:Nat} {sp:Nat→Bool} {held:Bool} {cs:List Value} {d:DataW H} {p:List MemPlace},DataW.trod enc P w base sp held n t cs=some (d,p)→(∀ m ∈ d.weights P t,m≤reachBytes)→∃ x,R.rel No w cs x∧Q x
section
variable {P:Program} {t e:TypeId}
theorem tE.int {k:IntKind} (ht:P.underlying t=some (.int k)):tE P t (aR.int k) (fun n=>(Lit.int k n).wf=true):=fun h _=>by
  obtain ⟨n,rfl,_,hw⟩:=DataW.trod_int ht h
  exact ⟨n,rfl,hw⟩
theorem tE.bool (ht:P.underlying t=some .bool):tE P t aR.bool (fun _=>True):=fun h _=>by
  obtain ⟨b,rfl,_⟩:=DataW.trod_bool ht h
  exact ⟨b,rfl,trivial⟩
theorem tE.str (ht:P.underlying t=some .string):tE P t aR.str (fun s=>s.size≤140737488355328):=fun h hw=>by
  obtain ⟨s,rfl,hx,_⟩:=DataW.trod_string ht h
  simp only [Prod.mk.injEq] at hx
  obtain ⟨rfl,rfl⟩:=hx
  refine ⟨s,rfl,?_⟩
  have:=hw s.data.toList.length (by simp [DataW.weights])
  have hr:reachBytes≤140737488355328:=by decide
  have hz:s.size=s.data.toList.length:=by rw [Array.length_toList]; rfl
  omega
theorem vw {H:Type}:∀ {ds:List (DataW H)} {i:Nat} {d:DataW H},ds[i]? = some d→∀ n ∈ d.weights P e,n ∈ DataW.weightsAll P e ds
  | [],_,_,h,_,_=>by simp at h
  | d0 :: r,0,d,h,n,hn=>by
    simp only [List.getElem?_cons_zero,Option.some.injEq] at h
    subst h
    simp only [DataW.weightsAll,List.mem_append]
    exact .inl hn
  | d0 :: r,i + 1,d,h,n,hn=>by
    simp only [List.getElem?_cons_succ] at h
    simp only [DataW.weightsAll,List.mem_append]
    exact .inr (vw h n hn)
theorem tE.slice {α:Type} {R:aR α} {Q:α→Prop} (ht:P.underlying t=some (.slice e)) (hc:P.cellsOf e=R.size) (hs:0 < R.size) (ho:tE P e R Q):tE P t (aR.slice R) (fun xs=>(∀ x ∈ xs,Q x)∧xs.length * P.bytesOf e≤reachBytes∧xs.length≤maxLen):=fun {H enc w base n sp held cs d p} h hw=>by
  rcases open_slice ht h with ⟨rfl,hx⟩ | ⟨a,len,cap,m,n,D,Pl,rfl,hb,hl,hm,hmm,hx,hi⟩
  · exact ⟨[],⟨_,rfl,aB.nil_ _ _ _⟩,fun x hx=>by simp at hx,by simp,by simp⟩
  · simp only [Prod.mk.injEq] at hx
    obtain ⟨rfl,rfl⟩:=hx
    have hlm:len≤m:=by rw [hmm]; split <;> omega
    obtain ⟨xs,h1,h2⟩:=zN (α:=α) (Q:=fun i x=>Q x∧∃ cs,R.rel No w cs x∧∀ j u,cs[j]? = some u→w.cell? (a.add (i * R.size + j))=some u) len (fun i hil=>by
      obtain ⟨cs',hcc,ht'⟩:=hi i (by omega)
      rw [hc] at hcc
      obtain ⟨x,hx,hq⟩:=ho ht' (fun k hk=>hw k (by
        simp only [DataW.weights,ht,List.mem_cons,List.mem_append]
        exact .inr (.inl (vw (i:=i) (d:=D i) (by rw [List.getElem?_map,List.getElem?_range hil]; rfl) k hk))))
      obtain ⟨_,hcl,hat⟩:=World.cells?_some hcc
      refine ⟨x,hq,cs',hx,fun j u hu=>?_⟩
      have hj:j < R.size:=by rw [← hcl]; exact (List.getElem?_eq_some_iff.1 hu).1
      rw [← Go.Deep.add_add,hat j hj,hu])
    subst h1
    refine ⟨xs,⟨_,rfl,some a,cap,rfl,hl,hm,?_⟩,fun x hx=>?_,?_,Nat.le_trans hl hm⟩
    · cases xs with
      | nil=>exact .inl rfl
      | cons x0 xs =>
        right
        obtain ⟨_,cs0,hr0,hc0⟩:=h2 0 x0 rfl
        have hl0:=R.len hr0
        have hu:=hc0 0 _ (List.getElem?_eq_getElem (show 0 < cs0.length by omega))
        obtain ⟨b,off,spot⟩:=a
        have hsp:spot=none:=by
          unfold World.cell? at hu
          split at hu
          · cases spot with
            | none=>rfl
            | some q=>simp [Addr.add] at hu
          · simp at hu
        subst hsp
        refine ⟨b,off,rfl,fun k x hx=>?_⟩
        obtain ⟨_,cs,hr,hcs⟩:=h2 k x hx
        refine ⟨cs,hr,fun h=>h,?_,fun j u hu=>?_⟩
        · rw [Addr.add_lit] at hu; exact World.block_lt_of_cell? _ _ hu
        · have:=hcs j u hu
          rwa [Addr.add_lit,← Nat.add_assoc] at this
    · obtain ⟨i,hi',e⟩:=List.getElem_of_mem hx
      exact (h2 i x (by rw [← e]; exact List.getElem?_eq_getElem hi')).1
    · have:=hw ((xs.length + (m - xs.length)) * P.bytesOf e) (by
        simp only [DataW.weights,ht,List.mem_cons,List.length_map,List.length_range]
        first | exact .inl trivial | exact .inl rfl | trivial)
      exact Nat.le_trans (Nat.mul_le_mul_right _ (by omega)) this
theorem tE.arg {α:Type} {R:aR α} {Q:List α→Prop} {H:Type} {enc:TypeId×Value→H} {w:World} {base:Nat} {sp:Nat→Bool} {held:Bool} {v:Value} {d:DataW H} {p:List MemPlace} {ts:List TypeId} {ds:List (DataW H)} {j0:Nat}
    (ho:tE P t (aR.slice R) Q) (ht:P.underlying t=some (.slice e)) (hsz:(DataW.weightsEach P ts ds).all (·≤reachBytes)=true) (htj:ts[j0]? = some t) (hdj:ds[j0]? = some d)
    {r:Reach} {b0:Nat} (hv:Value.okWide P w r b0 t v) (h:DataW.Trod enc P w base sp held t v d p):∃ xs,aB R No w v xs∧Q xs:=by
  obtain ⟨A,len,cap,rfl⟩:=okWide_slice ht hv
  obtain ⟨fuel,hf⟩:=h
  obtain ⟨xs,⟨v',he,hs⟩,hq⟩:=ho hf (fun m hm=>by
    have:=List.all_eq_true.1 hsz m (DataW.weights_mem_each htj hdj m hm)
    simpa using this)
  simp only [Value.cells,List.cons.injEq,and_true] at he
  subst he
  exact ⟨xs,hs,hq⟩
end
end
section
open Go.ChangeShapes Go.WideShapes Go.ChangeAt Go.RowKit Go.Deep Go.Joins
def aR.unit:aR Unit where
  size:=0
  rel:=fun _ _ cs _=>cs=[]
  len:=by rintro _ _ _ _ rfl; rfl
  one:=by rintro _ _ _ _ rfl u hu; cases hu
  keep:=fun h _ _=>h
def Ai {α:Type} (P:Program) (fs:List Field) (off:Nat) (R:aR α) (Q:α→Prop):Prop :=
  (∀ f ∈ fs,off≤f.offset) ∧
  ∀ {H:Type} {enc:TypeId×Value→H} {w:World} {base n:Nat} {sp:Nat→Bool} {held:Bool} {cs:List Value} {xs:List (DataW H×List MemPlace)},cs.length=R.size→xs.length=fs.length →
    (∀ (i:Nat) (f:Field),fs[i]? = some f→DataW.trod enc P w base sp held n f.type ((cs.drop (f.offset - off)).take (P.cellsOf f.type))=xs[i]?) →
    (∀ m ∈ DataW.weightsEach P (fs.map (·.type)) (xs.map (·.1)),m≤reachBytes)→∃ x,R.rel No w cs x∧Q x
section
variable {P:Program} {t:TypeId}
theorem Ai.nil (off:Nat):Ai P [] off aR.unit (fun _=>True) :=
  ⟨fun f hf=>(by cases hf),fun {H enc w base n sp held cs xs} hl _ _ _=>⟨(),List.eq_nil_of_length_eq_zero hl,trivial⟩⟩
theorem Ai.cons {α β:Type} {R:aR α} {S:aR β} {Q:α→Prop} {Q2:β→Prop} {f:Field} {fs:List Field} {off:Nat} (ho:tE P f.type R Q) (hf:f.offset=off) (hc:P.cellsOf f.type=R.size) (h:Ai P fs (off + R.size) S Q2):Ai P (f :: fs) off (R.prod S) (fun x=>Q x.1∧Q2 x.2):=by
  refine ⟨fun g hg=>?_,fun {H enc w base n sp held cs xs} hl hx ht hw=>?_⟩
  · rcases List.mem_cons.1 hg with rfl | hg
    · omega
    · have:=h.1 g hg; omega
  · cases xs with
    | nil=>simp at hx
    | cons y xs =>
      have hl:cs.length=R.size + S.size:=hl
      have h0:=ht 0 f rfl
      rw [hf,Nat.sub_self,List.drop_zero,hc] at h0
      obtain ⟨x1,k1,k2⟩:=ho h0 (fun m hm=>hw m (by simp only [List.map_cons,DataW.weightsEach,List.mem_append]; exact .inl hm))
      obtain ⟨x2,k3,k4⟩:=h.2 (H:=H) (enc:=enc) (w:=w) (base:=base) (n:=n) (sp:=sp) (held:=held) (cs:=cs.drop R.size) (xs:=xs) (by rw [List.length_drop]; omega) (by simpa using hx) (fun i g hg=>by
        have h1:=ht (i + 1) g (by simpa using hg)
        have h2:=h.1 g (List.mem_of_getElem? hg)
        rw [List.drop_drop,show R.size + (g.offset - (off + R.size))=g.offset - off by omega]
        simpa using h1) (fun m hm=>hw m (by simp only [List.map_cons,DataW.weightsEach,List.mem_append]; exact .inr hm))
      exact ⟨(x1,x2),⟨cs.take R.size,cs.drop R.size,(List.take_append_drop _ _).symm,k1,k3⟩,k2,k4⟩
theorem tE.struct {α:Type} {R:aR α} {Q:α→Prop} {fs:Array Field} (ht:P.underlying t=some (.struct fs)) (hc:P.cellsOf t=R.size) (h:Ai P fs.toList 0 R Q):tE P t R Q:=fun {H enc w base n sp held cs d p} h0 hw=>by
  obtain ⟨xs,m,_,hx,hl,hlen,hf⟩:=DataW.trod_struct ht h0
  simp only [Prod.mk.injEq] at hx
  obtain ⟨rfl,rfl⟩:=hx
  refine h.2 (H:=H) (enc:=enc) (w:=w) (base:=base) (n:=m) (sp:=sp) (held:=held) (xs:=xs) (hl.trans hc) (by simpa using hlen) (fun i f hi=>?_) (fun k hk=>hw k ?_)
  · have:=hf i f (by simpa using hi)
    simpa using this
  · simp only [DataW.weights,ht]
    exact hk
end
end
section
open Go
theorem wm {P:Program} (h:P.funcs.any Func.goes=false) (f:FuncId):P.goes f=false:=by
  unfold Program.goes
  rw [h,Bool.and_false,Bool.or_false]
  rw [Bool.eq_false_iff]
  intro hc
  rw [List.any_eq_true] at hc
  obtain ⟨g,_,hg⟩:=hc
  cases hf:P.funcs[g]? with
  | none=>rw [hf] at hg; cases hg
  | some fn =>
    rw [hf] at hg
    have:P.funcs.any Func.goes=true:=(Array.any_eq_true').2 ⟨fn,Array.mem_of_getElem? hf,by simpa using hg⟩
    rw [h] at this
    cases this
theorem oM {P:Program} (h:P.funcs.any Func.goes=false) (st:Start) (func:String):P.goesAt st func=false:=by
  have hf:P.goesFrom func=false:=by
    unfold Program.goesFrom
    cases P.funcNamed func with
    | none=>rfl
    | some f=>exact wm h f
  have hi:P.inits.toList.any P.goes=false:=by
    rw [Bool.eq_false_iff]
    intro hc
    obtain ⟨g,_,hg⟩:=List.any_eq_true.1 hc
    rw [wm h g] at hg
    cases hg
  unfold Program.goesAt
  rw [hf,Bool.false_or]
  cases st <;> first | rfl | exact hi
end
section
open Go.RowKit
open Go.Lib hiding intOf
theorem uY (cs:List aT) (c:aT):du [] (cs ++ [c])=cX aA c.Key c.Value (du [] cs):=by unfold du; rw [List.foldl_append]; rfl
section
variable {l:List aL} {b:ah}
theorem uz {k:Nat} (h:k < 100):cZ ((k:Nat):Int)=some (bn k):=oy h
theorem Dv (t:List Int):eu t=some true:=by
  rcases Nat.lt_or_ge 400 t.length with ht | ht
  · unfold eu
    rw [oQ (by omega),Option.bind_some,ne]; rfl
  refine xj ?_
  unfold eu
  refine Ok.eq (pO ht) ?_
  simp only [Bool.not_true,cond_false]
  refine Ok.eq (v:=aQ.mk t 0) rfl (Ok.bind (ua (d:=t) (i:=0) ⟨by omega,by omega,ht⟩ (by omega) (by omega)) fun u ⟨hR,hB,hrev,hd⟩=>?_)
  have hl:=hR.high
  have hr0:=hB.rev
  refine Ok.bind (pH hd (by omega) (by omega)) fun cs ⟨hcs,hlen,hd2⟩=>?_
  obtain ⟨x,ex,ax⟩:=qp hl hB (by omega) (cs:=cs.1) hcs (by omega)
  refine Ok.eq ex ?_
  refine Ok.loop (fun (k:Nat) (s:Int×Int×(List aG)×(List al))=>s.1=k∧k≤cs.1.length∧iu u.1 (ah.mk s.2.1 s.2.2.1 s.2.2.2)∧s.2.1≤u.2.1.Revision + k∧∀ q,(cB (ah.mk s.2.1 s.2.2.1 s.2.2.2) q).Value=(bH aA q (du [] (cs.1.take k))).getD (cB u.2.1 q).Value)
    (fun r=>∃ y:ah,r=Fl.go (y.Revision,y.Inputs,y.Records)∧iu u.1 y∧y.Revision≤u.2.1.Revision + cs.1.length∧∀ q,(cB y q).Value=(bH aA q (du [] cs.1)).getD (cB u.2.1 q).Value) cs.1.length ⟨rfl,Nat.zero_le _,hB,by show u.2.1.Revision≤u.2.1.Revision + ((0:Nat):Int); omega,fun q=>rfl⟩ ?_ ?_
  · rintro k ⟨i,rev,ins,recs⟩ hk ⟨rfl,_,hy,hyr,hyv⟩
    dsimp only at hy hyr hyv ⊢
    unfold f7
    refine Ok.cond (fun hlt=>?_) (fun hge=>?_)
    · have hlt:k < cs.1.length:=by have:=of_decide_eq_true hlt; omega
      have hx:=List.getElem?_eq_getElem hlt
      have hcO:=hcs _ (List.getElem_mem hlt)
      refine Ok.eq (bv hlt) ?_
      generalize cs.1[k]=c at hx hcO
      have hry:0≤rev∧rev≤1000000:=hy.rev
      obtain ⟨z,ez,az⟩:=qp hl hy (by show rev + 1≤1000000; omega) (cs:=[c]) (fun q hq=>by rw [List.mem_singleton.1 hq]; exact hcO) (by simp)
      refine Ok.eq ez ?_
      simp only [show ((0:Int) != 0)=false from rfl,cond_false]
      have hw:IntKind.i64.wrap (rev + 1)=rev + 1:=nJ (by omega) (by omega)
      have hz:rev≤z.Revision∧z.Revision≤rev + 1:=by
        rcases az.revc with ⟨_,h⟩ | ⟨_,h⟩
        · have h:z.Revision=rev + 1:=h
          omega
        · have h:z.Revision=rev:=by rw [h]
          omega
      rw [hw,decide_eq_false (by omega),decide_eq_false (by omega)]
      refine Ok.ret ⟨hlt,cT (by omega),hlt,az.ok,by show z.Revision≤u.2.1.Revision + ((k + 1:Nat):Int); omega,fun q=>?_⟩
      show (cB z q).Value=_
      rw [az.val,lW,cw hx,uY,hyv]
      by_cases e:q=c.Key
      · rw [if_pos e,e,cQ]; rfl
      · rw [if_neg e,d5 e]; rfl
    · have hge:k=cs.1.length:=by have:=of_decide_eq_false hge; omega
      refine Ok.ret ⟨ah.mk rev ins recs,rfl,hy,?_,fun q=>?_⟩
      · rw [← hge]; exact hyr
      · rw [hyv,hge,List.take_length]
  · rintro _ ⟨y,rfl,hy,hyr,hyv⟩
    show Ok (eg u cs (x,0) y.Revision y.Inputs y.Records) fun r=>r=true
    unfold eg
    refine Ok.eq (dA (r:=Fl.go ()) 5 (fun k hk=>?_) ?_) ?_
    · unfold eh
      rw [decide_eq_true (by omega),cond_true,uz (by omega)]
      simp only [Option.bind_some]
      rw [show bL (ah.mk x.Revision x.Inputs x.Records) (bn k)=some (cB x (bn k)).Value from o9 (ax.ok.rm hl).2.1 _,Option.bind_some]
      rw [show bL (ah.mk y.Revision y.Inputs y.Records) (bn k)=some (cB y (bn k)).Value from o9 (hy.rm hl).2.1 _,Option.bind_some]
      rw [ax.val,hyv,cT (by omega)]
      simp
    · unfold eh
      rfl
    · show Ok (ef u cs (x,0) y.Revision) fun r=>r=true
      unfold ef
      have hxr:x.Revision≤u.2.1.Revision + 1:=by
        rcases ax.revc with ⟨_,h⟩ | ⟨_,h⟩
        · omega
        · rw [h]; omega
      have hw1:IntKind.i64.wrap (u.2.1.Revision + 1)=u.2.1.Revision + 1:=nJ (by omega) (by omega)
      have hw2:IntKind.i64.wrap (u.2.1.Revision + (cs.1.length:Int))=u.2.1.Revision + (cs.1.length:Int):=nJ (by omega) (by omega)
      rw [show ((0:Int) == 0)=true from rfl,cond_true,hw1,hw2,decide_eq_true hxr,decide_eq_true hyr,ne]
      exact Ok.ret rfl
theorem sS (hA:n7 b.Inputs) (r:Int) (k:ae):((b.Inputs.filter fun x=>decide (r < x.Changed)).map aG.Key).any (fun x=>dh k x)=true↔∃ x ∈ b.Inputs,x.Key=k∧r < x.Changed:=by
  rw [List.any_eq_true]
  constructor
  · rintro ⟨y,hy,e⟩
    obtain ⟨x,hx,rfl⟩:=List.mem_map.1 hy
    obtain ⟨h1,h2⟩:=List.mem_filter.1 hx
    exact ⟨x,h1,(fK.1 e).symm,by simpa using h2⟩
  · rintro ⟨x,h1,rfl,h2⟩
    exact ⟨_,List.mem_map_of_mem (List.mem_filter.2 ⟨h1,by simpa using h2⟩),pv _⟩
theorem yu (t:List Int) (n:Int):dd t n=some true:=by
  rcases Nat.lt_or_ge 400 t.length with ht | ht
  · unfold dd
    rw [oQ (by omega),Option.bind_some,ne]; rfl
  refine xj ?_
  unfold dd
  refine Ok.eq (pO ht) ?_
  simp only [Bool.not_true,cond_false]
  refine Ok.eq (v:=aQ.mk t 0) rfl (Ok.bind (ua (d:=t) (i:=0) ⟨by omega,by omega,ht⟩ (by omega) (by omega)) fun u ⟨hR,hB,hrev,hd⟩=>?_)
  have hl:=hR.high
  have hr0:=hB.rev
  have hnin:=hB.nin
  have hrm:=(hB.rm hl).2.1
  have hw0:IntKind.i64.wrap (u.2.1.Revision + 2)=u.2.1.Revision + 2:=nJ (by omega) (by omega)
  rw [hw0]
  refine Ok.bind (F2 n (by omega) (by omega)) fun m ⟨m1,m2⟩=>?_
  have hw1:IntKind.i64.wrap (m - 1)=m - 1:=nJ (by omega) (by omega)
  have hw2:IntKind.i64.wrap (m - 1 + 1)=m - 1 + 1:=nJ (by omega) (by omega)
  have hT:=fun r=>vq (b:=u.2.1) (by omega) r
  rw [hw1,hw2]
  refine Ok.eq (hT (m - 1)) (Ok.eq (hT (m - 1 + 1)) ?_)
  have hfl:∀ r:Int,((u.2.1.Inputs.filter fun x=>decide (r < x.Changed)).map aG.Key).length≤4:=fun r=>by
    rw [List.length_map]
    exact Nat.le_trans (List.length_filter_le _ _) hnin
  refine Ok.eq (dA (r:=Fl.go ()) 5 (fun k hk=>?_) ?_) ?_
  · have hj:bT (k:Int) false=some (.go ((k + 1:Nat):Int)):=by unfold bT; rw [cT (by omega)]; rfl
    unfold dp
    rw [decide_eq_true (by omega),cond_true,uz (by omega),Option.bind_some]
    rw [show cC (ah.mk u.2.1.Revision u.2.1.Inputs u.2.1.Records) (bn k)=some (cB u.2.1 (bn k)).Changed from sN hrm _,Option.bind_some]
    rw [pB (by have:=hfl (m - 1); unfold Rm; omega),Option.bind_some,hw1]
    rw [show bL (ah.mk u.2.1.Revision u.2.1.Inputs u.2.1.Records) (bn k)=some (cB u.2.1 (bn k)).Value from o9 hrm _]
    have hhas:=sS hB.insA (m - 1) (bn k)
    rcases sj (b:=u.2.1) (bn k) with ⟨h1,h2⟩ | ⟨h1,h2⟩
    · have hch:=(hB.ins _ h1).low
      by_cases e:m - 1 < (cB u.2.1 (bn k)).Changed
      · rw [hhas.2 ⟨_,h1,h2,e⟩,cond_true,decide_eq_true e]
        exact hj
      · have hf:(((u.2.1.Inputs.filter fun x=>decide (m - 1 < x.Changed)).map aG.Key).any fun x=>dh (bn k) x)=false:=by
          rw [← Bool.not_eq_true]
          intro hh
          obtain ⟨x,hx,hxk,hxc⟩:=hhas.1 hh
          rw [uR hB.insA hx hxk] at e
          exact e hxc
        rw [hf,cond_false,decide_eq_false e,decide_eq_false (by omega),cond_false]
        exact hj
    · have hf:(((u.2.1.Inputs.filter fun x=>decide (m - 1 < x.Changed)).map aG.Key).any fun x=>dh (bn k) x)=false:=by
        rw [← Bool.not_eq_true]
        intro hh
        obtain ⟨x,hx,hxk,_⟩:=hhas.1 hh
        exact h1 x hx hxk
      rw [hf,cond_false,h2]
      by_cases e:m - 1 < 0
      · rw [decide_eq_true e,cond_true,Option.bind_some]
        simp only [beq_self_eq_true,cond_true,Option.bind_some,Bool.not_false]
        exact hj
      · rw [decide_eq_false e,cond_false]
        exact hj
  · unfold dp
    rfl
  · show Ok (dk u _ _) fun r=>r=true
    unfold dk
    refine Ok.eq (dA (r:=Fl.go ()) ((u.2.1.Inputs.filter fun x=>decide (m - 1 + 1 < x.Changed)).map aG.Key).length (fun k hk=>?_) ?_) ?_
    · have hlen:=hfl (m - 1 + 1)
      unfold dm
      rw [dlt hk,cond_true,bv hk,Option.bind_some,pB (by have:=hfl (m - 1); unfold Rm; omega),Option.bind_some]
      obtain ⟨x,hx,e⟩:=List.mem_map.1 (List.getElem_mem hk)
      obtain ⟨h1,h2⟩:=List.mem_filter.1 hx
      rw [← e,(sS hB.insA (m - 1) x.Key).2 ⟨x,h1,rfl,(by have:m - 1 + 1 < x.Changed:=(by simpa using h2); omega)⟩,cT (by omega)]
      rfl
    · unfold dm
      rw [bQ]; rfl
    · show Ok (dj u) fun r=>r=true
      unfold dj
      refine Ok.eq (hT u.2.1.Revision) ?_
      have:(u.2.1.Inputs.filter fun x=>decide (u.2.1.Revision < x.Changed))=[]:=List.filter_eq_nil_iff.2 fun x hx=>by
        have:=(hB.ins x hx).high
        simp; omega
      rw [this]
      rw [show ((([]:List aG).map aG.Key).length:Int)=0 from rfl,show ((0:Int) == 0)=true from rfl,cond_true,ne]
      exact Ok.ret rfl
end
end
section
open Go.RowKit
open Go.Lib hiding intOf
section
variable {l:List aL} {b x:ah} {u:(List aT)×aQ}
theorem DP (hn:u.1.length≤100) (k:ae) (w0:ByteArray):loop (fun s:ByteArray×Int=>cM u k s.1 s.2) (w0,0)=some ((bH aA k (du [] u.1)).getD w0):=by
  refine dZ (xs:=u.1) (fun i=>((bH aA k (du [] (u.1.take i))).getD w0,(i:Int))) rfl (fun i c hc=>?_) ?_
  · have hlt:=bh hc
    unfold cM dM
    dsimp only
    rw [dlt hlt,cond_true,bk,hc,Option.bind_some,cT (by omega),cw hc,uY]
    show cond (dh c.Key k) _ _=_
    by_cases e:k=c.Key
    · subst e
      rw [pv,cond_true,cQ]; rfl
    · rw [qV.2 fun h=>e h.symm,cond_false,d5 e]
  · unfold cM
    dsimp only
    rw [bQ,List.take_length]; rfl
def Gl (b:ah) (cs:List aT) (k:ae):Prop:=(bH aA k (du [] cs)).getD (cB b k).Value ≠ (cB b k).Value
theorem ui {cs:List aT} {k:ae}:Gl b cs k↔∃ v,bH aA k (du [] cs)=some v∧(cB b k).Value ≠ v:=by
  unfold Gl
  cases bH aA k (du [] cs) with
  | none=>simp
  | some v=>exact ⟨fun h=>⟨v,rfl,fun e=>h e.symm⟩,fun ⟨v',e,h⟩=>by rw [← Option.some.inj e] at h; exact fun e2=>h e2.symm⟩
theorem AI (hl:l.length≤8) (hB:iu l b) (hx:vV l b u.1 x) (hn:u.1.length≤100) (hr:b.Revision≤100000):Ok (loop (fun s:Bool×Int=>cp b.Revision b.Inputs b.Records u (x,0) s.1 s.2) (false,0)) fun y=>∃ a,y=Fl.go a∧(a=true↔∃ n,n < 5∧Gl b u.1 (bn n)):=by
  have hrm:=(hB.rm hl).2.1
  have hrx:=(hx.ok.rm hl).2.1
  have hr0:=hB.rev
  refine mF (B:=fun s:Bool×Int=>cp b.Revision b.Inputs b.Records u (x,0) s.1 s.2) (fun (k:Nat) (s:Bool×Int)=>s.2=k∧k≤5∧(s.1=true↔∃ n,n < k∧Gl b u.1 (bn n))) (fun y=>∃ a,y=Fl.go a∧(a=true↔∃ n,n < 5∧Gl b u.1 (bn n))) 5 ?_ ?_ (s:=(false,0)) ⟨rfl,Nat.zero_le _,by simp⟩
  · rintro k ⟨a,i⟩ hk ⟨rfl,_,ha⟩
    left
    dsimp only at ha ⊢
    have hgb:∀ q,bL (ah.mk b.Revision b.Inputs b.Records) q=some (cB b q).Value:=fun q=>o9 hrm q
    have hsb:∀ q,cC (ah.mk b.Revision b.Inputs b.Records) q=some (cB b q).Changed:=fun q=>sN hrm q
    have hgx:∀ q,bL (ah.mk x.Revision x.Inputs x.Records) q=some (cB x q).Value:=fun q=>o9 hrx q
    have hsx:∀ q,cC (ah.mk x.Revision x.Inputs x.Records) q=some (cB x q).Changed:=fun q=>sN hrx q
    have hcell:=uz (k:=k) (by omega)
    have hval:=hx.val (bn k)
    have hj6:∀ s a',(cB x (bn k)).Changed=s→cU (x,0) (k:Int) (bn k) ((bH aA (bn k) (du [] u.1)).getD (cB b (bn k)).Value) a' s=some (.go (a',((k + 1:Nat):Int))):=fun s a' hs=>by
      unfold cU fm
      rw [hgx,Option.bind_some,hval,hsx,cT (by omega)]
      simp [hs]
    have hw:=DP (u:=u) hn (bn k) (cB b (bn k)).Value
    have hstep:∀ a',(∀ g,cA b.Revision b.Inputs b.Records (x,0) (k:Int) (bn k) ((bH aA (bn k) (du [] u.1)).getD (cB b (bn k)).Value) (cB b (bn k)).Value g=some (.go (g,((k + 1:Nat):Int))))→(a=true→a'=true)→(a=false→a' = !(((bH aA (bn k) (du [] u.1)).getD (cB b (bn k)).Value).toList == (cB b (bn k)).Value.toList))→cp b.Revision b.Inputs b.Records u (x,0) a (k:Int)=some (.go (a',((k + 1:Nat):Int))):=fun a' h1 h2 h3=>by
      unfold cp
      rw [decide_eq_true (by omega),cond_true,hcell,Option.bind_some,hgb,Option.bind_some,hw,Option.bind_some]
      unfold dL
      rw [hgb,Option.bind_some]
      cases a with
      | true=>rw [cond_true,h1,h2 rfl]
      | false=>rw [cond_false,h1,h3 rfl]
    by_cases hO:Gl b u.1 (bn k)
    · obtain ⟨v,hv1,hv2⟩:=ui.1 hO
      have hxr:=hx.rev ⟨_,v,hv1,hv2⟩
      have hg:=hx.get _ v hv1 hv2
      have hne:(((bH aA (bn k) (du [] u.1)).getD (cB b (bn k)).Value).toList == (cB b (bn k)).Value.toList)=false:=beq_eq_false_iff_ne.2 fun e=>hO (toList_inj e)
      refine ⟨(true,((k + 1:Nat):Int)),hstep true (fun g=>?_) (fun _=>rfl) (fun _=>by rw [hne]; rfl),rfl,by omega,?_⟩
      · unfold cA
        rw [hsb,Option.bind_some,hne]
        simp only [Bool.not_false,cond_true]
        exact hj6 _ _ (by rw [hg]; exact hxr.symm)
      · exact ⟨fun _=>⟨k,by omega,hO⟩,fun _=>rfl⟩
    · have heq:(bH aA (bn k) (du [] u.1)).getD (cB b (bn k)).Value=(cB b (bn k)).Value:=Classical.byContradiction fun h=>hO h
      have hk2:=hx.keep (bn k) fun v hv=>Classical.byContradiction fun h=>hO (ui.2 ⟨v,hv,h⟩)
      refine ⟨(a,((k + 1:Nat):Int)),hstep a (fun g=>?_) (fun h=>h) (fun h=>by rw [heq,h]; simp),rfl,by omega,?_⟩
      · unfold cA
        rw [hsb,Option.bind_some]
        rw [show (!(((bH aA (bn k) (du [] u.1)).getD (cB b (bn k)).Value).toList == (cB b (bn k)).Value.toList))=false by rw [heq]; simp,cond_false]
        exact hj6 _ _ (by rw [hk2])
      · refine ha.trans ⟨fun ⟨n,h1,h2⟩=>⟨n,by omega,h2⟩,fun ⟨n,h1,h2⟩=>⟨n,?_,h2⟩⟩
        rcases Nat.lt_or_ge n k with h | h
        · exact h
        · obtain rfl:n=k:=by omega
          exact absurd h2 hO
  · rintro ⟨a,i⟩ ⟨rfl,_,ha⟩
    exact ⟨_,rfl,a,rfl,ha⟩
theorem Cu (t:List Int):dW t=some true:=by
  rcases Nat.lt_or_ge 400 t.length with ht | ht
  · unfold dW
    rw [oQ (by omega),Option.bind_some,ne]; rfl
  refine xj ?_
  unfold dW
  refine Ok.eq (pO ht) ?_
  simp only [Bool.not_true,cond_false]
  refine Ok.eq (v:=aQ.mk t 0) rfl (Ok.bind (ua (d:=t) (i:=0) ⟨by omega,by omega,ht⟩ (by omega) (by omega)) fun u ⟨hR,hB,hrev,hd⟩=>?_)
  have hl:=hR.high
  refine Ok.loop (fun (k:Nat) (s:Int×(List Int)×Int×Int×(List aG)×(List al))=>s.1=k∧k≤12∧bN s.2.1 s.2.2.1∧iu u.1 (ah.mk s.2.2.2.1 s.2.2.2.2.1 s.2.2.2.2.2)∧s.2.2.2.1≤10 + k) (fun r=>r=Fl.go ()) 12 ⟨rfl,Nat.zero_le _,hd,hB,by show u.2.1.Revision≤10 + ((0:Nat):Int); omega⟩ ?_ ?_
  · rintro k ⟨i,d,di,rev,ins,recs⟩ hk ⟨rfl,_,g1,g2,g3⟩
    dsimp only at g1 g2 g3 ⊢
    unfold eY
    refine Ok.cond (fun hlt=>?_) (fun _=>Ok.ret rfl)
    have hlt:=of_decide_eq_true hlt
    have hrr:0≤rev∧rev≤1000000:=g2.rev
    refine Ok.bind (pH g1 (by omega) (by omega)) fun cs ⟨hcs,hlen,hd2⟩=>?_
    obtain ⟨x,ex,ax⟩:=qp hl g2 (by show rev + 1≤1000000; omega) (cs:=cs.1) hcs (by omega)
    refine Ok.eq ex ?_
    simp only [show ((0:Int) != 0)=false from rfl,cond_false]
    refine Ok.eq (yn ax.ok hl) ?_
    simp only [Bool.not_true,cond_false]
    have hrl:x.Records=recs:=ax.recs
    rw [hrl,show (((recs.length:Int):Int) != (recs.length:Int))=false by simp,cond_false]
    have hrx:(ah.mk x.Revision x.Inputs x.Records)=x:=rfl
    have hl11:=AI (u:=cs) hl g2 ax (by omega) (by show rev≤100000; omega)
    refine Ok.bind hl11 fun y hy=>?_
    obtain ⟨a,rfl,ha⟩:=hy
    show Ok (dK (k:Int) rev ins recs cs (x,0) a) _
    have hw:IntKind.i64.wrap (rev + 1)=rev + 1:=nJ (by omega) (by omega)
    have hxr:x.Revision≤rev + 1:=by
      rcases ax.revc with ⟨_,h⟩ | ⟨_,h⟩
      · have h:x.Revision=rev + 1:=h
        omega
      · rw [h]; show rev≤rev + 1; omega
    have hj3:Ok (bY (k:Int) cs (x,0) false) fun r=>match r with
        | .go s=>k < 12∧(s.1=((k + 1:Nat):Int)∧k + 1≤12∧bN s.2.1 s.2.2.1∧iu u.1 (ah.mk s.2.2.2.1 s.2.2.2.2.1 s.2.2.2.2.2)∧s.2.2.2.1≤10 + ((k + 1:Nat):Int))
        | .out r=>r=Fl.go ():=by
      unfold bY fk
      exact Ok.ret ⟨by omega,cT (by omega),by omega,hd2,ax.ok,by show x.Revision≤_; omega⟩
    have hTx:=vq (b:=x) (by have:=ax.ok.nin; omega) rev
    unfold dK
    rw [hw]
    rcases ax.revc with ⟨⟨q,v,hq,hv⟩,h⟩ | ⟨hs,h⟩
    · have h:x.Revision=rev + 1:=h
      obtain ⟨n,hn,rfl⟩:∃ n,n < 4∧q=bn n:=by
        obtain ⟨_,hpo⟩:=su (P:=uk) cs.1 [] List.Pairwise.nil (fun q hq=>absurd hq List.not_mem_nil) (fun c hc'=>⟨(hcs c hc').key,(hcs c hc').value⟩)
        exact (hpo _ ((qz jg (su (P:=uk) cs.1 [] List.Pairwise.nil (fun q hq=>absurd hq List.not_mem_nil) (fun c hc'=>⟨(hcs c hc').key,(hcs c hc').value⟩)).1).1 hq)).1
      have hat:a=true:=ha.2 ⟨n,by omega,ui.2 ⟨v,hq,hv⟩⟩
      subst hat
      rw [show (x.Revision == rev + 1)=true by rw [h]; simp]
      simp only [bne_self_eq_false,cond_false,Bool.not_true]
      refine Ok.eq hTx ?_
      have hpos:0 < ((x.Inputs.filter fun y=>decide (rev < y.Changed)).map aG.Key).length:=by
        rw [List.length_map]
        have hg:=ax.get _ v hq hv
        rcases sj (b:=x) (bn n) with ⟨h1,_⟩ | ⟨_,h1⟩
        · exact List.length_pos_iff.2 (List.ne_nil_of_mem (List.mem_filter.2 ⟨h1,by rw [hg]; show decide (rev < rev + 1)=true; exact decide_eq_true (by omega)⟩))
        · rw [hg] at h1
          have:=congrArg aG.Changed h1
          have:rev + 1=0:=this
          omega
      rw [decide_eq_true (by omega)]
      simp only [bne_self_eq_false]
      exact hj3.mono fun y hy=>by cases y <;> exact hy
    · have haf:a=false:=by
        cases ha2:a with
        | false=>rfl
        | true =>
          obtain ⟨n,_,hO⟩:=ha.1 ha2
          obtain ⟨v,h1,h2⟩:=ui.1 hO
          exact absurd (hs _ _ h1) h2
      subst haf
      have hxrev:x.Revision=rev:=by rw [h]
      rw [show (x.Revision == rev + 1)=false from beq_eq_false_iff_ne.2 (by omega)]
      simp only [bne_self_eq_false,cond_false,Bool.not_false,cond_true]
      refine Ok.eq (v:=true) ?_ ?_
      · rw [h]
        exact tw (g2.rm hl).1 (g2.rm hl).2.1
      · simp only [Bool.not_true,cond_false]
        refine Ok.eq hTx ?_
        have:(x.Inputs.filter fun y=>decide (rev < y.Changed))=[]:=List.filter_eq_nil_iff.2 fun y hy=>by
          have:=(ax.ok.ins y hy).high
          simp; omega
        rw [this]
        exact hj3.mono fun y hy=>by cases y <;> exact hy
  · rintro _ rfl
    show Ok dJ _
    unfold dJ
    rw [ne]
    exact Ok.ret rfl
end
end
end Go.Proofs.YthefmilamdchiaaGreatDoor
