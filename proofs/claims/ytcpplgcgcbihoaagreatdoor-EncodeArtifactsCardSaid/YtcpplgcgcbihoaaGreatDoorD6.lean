/- Texts of the proof, joined (6). -/
import Derived.Test.YtcpplgcgcbihoaaGreatDoorD5
import Derived.Test.YtcpplgcgcbihoaaGreatDoorD0
import Derived.Test.YtcpplgcgcbihoaaGreatDoorRows
import Derived.ProofKit
import Derived.LaidMore
import Derived.LaidLaws
import Derived.MakeChecks
import Derived.Lib.LaidTab
import Derived.SizedLaws
import Derived.Deep.Slices
import Derived.Deep.Fields
import Derived.Lib.SmallJoins
import Derived.OpenShut
import GoSem.ClaimGoes
set_option linter.unusedVariables false
set_option linter.unusedSimpArgs false
set_option linter.unusedSectionVars false
namespace Go.Proofs.YtcpplgcgcbihoaaGreatDoor
open Go.RowKit
section
open Go.Lib hiding intOf
variable {N:Nat} {α:Type} {W:α->List Int} {n:Nat} {o:List Int} {xs:List α} {y:List Int}
theorem Av (hN:N<18446744073709551616):fO (N:Int)=some (aX (dO N)):=by
 have hl:(dO (N:Int)).length=8:=rfl;unfold fO;rw [show loop (fun s:(List Int)×Int=>fm (N:Int) s.1 s.2) (([]:List Int),56)=some (dO N) from
  jx (B:=fun s:(List Int)×Int=>fm (N:Int) s.1 s.2) (fun k=>((dO N).take k,56-8*(k:Int))) 8 (by simp) (fun k O=>by
   dsimp only;unfold fm;have hg:(dO (N:Int))[k]? = some ((hb N (7-k):Nat):Int):=by
    unfold dO;rw [ro,s3,xk N O]; rfl
   have e0:56-8*(k:Int)=((8*(7-k):Nat):Int):=by omega
   have e:IntKind.u8.wrap (ji .u64 (N:Int) (IntKind.u64.wrap (56-8*(k:Int))))=((hb N (7-k):Nat):Int):=by
    rw [e0,sK (by omega),QF (by omega),NC]; rfl
   rw [decide_eq_true (by omega),cond_true,e,e0,sK (by omega),decide_eq_true (by omega),dJ (by simp; omega)];simp only [gd,cond_true];rw [lx (by omega) (by omega),bM hg,show ((8*(7-k):Nat):Int)-8=56-8*((k+1:Nat):Int) by omega]) (by
   dsimp only;unfold fm;rw [decide_eq_false (by omega),cond_false,zk (by omega)]),ad]
 rfl
theorem Bv {n:Int} (hn:w7 n):iU n=some (aX (dO n)):=by
 obtain⟨h1,h2⟩:=hn;obtain⟨N,rfl⟩:∃ N:Nat,n=N:=⟨n.toNat,by omega⟩;unfold iU;rw [sK (by omega),Av (by omega)]; rfl
theorem Kv (hn:n<=1000000):iU (n:Int)=some (aX (dO n)):=Bv ⟨by omega,by omega⟩
theorem KI {a b:List Int} (h:a.length+b.length<=140737488355328):Nat.ble ((aX a).size+(aX b).size) 140737488355328=true:=tw (by rw [cy,cy]; exact h)
theorem Hp {s:ByteArray} (hs:s.size<=1073741824):oo s=some (aX (pb s)):=by
 unfold oo;rw [sK (by omega),Av (by omega),ad];rw [show Nat.ble ((aX (dO (s.size:Int))).size+s.size) 140737488355328=true from tw (by rw [cy,bY]; omega)];simp only [gd,cond_true];unfold pb;rw [<- j6,kx]
theorem Hn {k:ae} (O:w7 k.k) (hs:k.t.size<=1073741824):ol k=some (aX (sJ k)):=by
 unfold ol;rw [Bv O,ad,Hp hs,ad,KI (by rw [bY,mC]; omega)];simp only [gd,cond_true];rw [j6]; rfl
theorem tT {d:b7} (h1:w7 d.y) (h2:0<=d.z/\d.z<18446744073709551616):gT d=some (aX (n3 d)):=by
 obtain⟨a1,a2⟩:=h1;obtain⟨N,hN⟩:∃ N:Nat,d.y=N:=⟨d.y.toNat,by omega⟩;obtain⟨M,B⟩:∃ M:Nat,d.z=M:=⟨d.z.toNat,by omega⟩;unfold gT n3;rw [hN,B,sK (by omega),Av (by omega),ad,Av (by omega),ad,KI (by rw [bY,bY]; omega)];simp only [gd,cond_true];rw [j6]
theorem KA (h:o.length<=140000000000000):nX (aX o)=some (jf o):=by
 have hs:(aX o).size<=140000000000000:=by rw [cy]; omega
 obtain⟨d1,d2,d3⟩:=yP hs;unfold nX;rw [rT hs,ad,tT d1 ⟨d2,d3⟩,ad,KI (by rw [qS]; omega)];rfl
theorem Fq {ρ:Type} {g:ByteArray->ρ} {F:ByteArray->Int->Option (Fl (ByteArray×Int) ρ)} (ho:o.length+(xs.flatMap W).length<=140000000000000)
  (hF:∀ (k:Nat) (x:α) (w:List Int),xs[k]? = some x->w.length+(W x).length<=140000000000000->F (aX w) (k:Int)=some (.go (aX (w++W x),((k+1:Nat):Int)))) (hE:∀ w,F w (xs.length:Int)=some (.out (g w))):loop (fun s:ByteArray×Int=>F s.1 s.2) (aX o,0)=some (g (aX (o++xs.flatMap W))):=by
 refine dG (xs:=xs) (fun k=>(aX (o++(xs.take k).flatMap W),(k:Int))) (by simp) (fun k x hx=>?_) ?_
 ·dsimp only;have h1:((xs.take (k+1)).flatMap W).length<=(xs.flatMap W).length:=by
   conv=>rhs; rw [<- pc (k+1) xs,s5,bm]
   omega
  rw [bM hx,s5,bm,show ([x]:List α).flatMap W=W x by simp] at h1;rw [hF k x _ hx (by rw [bm]; omega),bM hx,s5,fc];simp
 ·dsimp only;rw [hE,fK]
theorem E8 {x:α} (h:x∈xs):(W x).length<=(xs.flatMap W).length:=by
 obtain⟨a,b,rfl⟩:=List.append_of_mem h;rw [s5,u0,bm,bm]; omega
section
variable {b:ar}
end
theorem yo (hN:N<18446744073709551616):jo (aX (dO N))=some (N:Int):=by
 unfold jo;rw [show loop (fun s:Int×Int=>gU (aX (dO (N:Int))) s.1 s.2) (0,0)=some (N:Int) from
  jx (B:=fun s:Int×Int=>gU (aX (dO (N:Int))) s.1 s.2) (fun k=>(((N / 256 ^ (8-k):Nat):Int),(k:Int))) 8 (by
   have:N / 256 ^ 8=0:=zq (by omega);show ((0:Int),(0:Int))=(((N / 256 ^ 8:Nat):Int),((0:Nat):Int));rw [this]; rfl) (fun k O=>by
   dsimp only;unfold gU;have hg:(aX (dO (N:Int))).toList[k]? = some (UInt8.ofNat (hb N (7-k))):=by
    rw [uH];unfold dO;rw [zU,ro,s3,xk N O]; rfl
   have hlt:N / 256 ^ (8-k)<72057594037927936:=by
    have h3:256 ^ 1<=256 ^ (8-k):=uQ (by omega) (by omega);have h4:N / 256 ^ (8-k)<=N / 256 ^ 1:=Ee h3 (by omega);have h5:N / 256 ^ 1<72057594037927936:=by rw [Nat.pow_one]; omega
    omega
   have hb8:=tL N (7-k);rw [show decide ((k:Int)<8)=true from decide_eq_true (by omega),cond_true,bj,hg,ad,UInt8.toNat_ofNat',Ef (by omega),Gn hlt (tL _ _),cL (by omega)];have:=uk N (7-k);rw [show 7-k+1=8-k by omega] at this;rw [<- this,show 8-(k+1)=7-k by omega]) (by
   dsimp only;unfold gU;rw [show decide (((8:Nat):Int)<8)=false from rfl,cond_false];rw [show 8-8=0 from rfl,zv,vT]),ad]
 rfl
theorem uI (x y:List Int):kz (aX (x++y)) 0 (x.length:Int)=some (aX x):=by
 have:=sH (l:=x++y) (a:=0) (b:=x.length) (bT _) (by rw [bm]; omega);rw [List.take_left' rfl,BP] at this;exact this
theorem uJ (x y:List Int):kz (aX (x++y)) (x.length:Int) ((aX (x++y)).size:Int)=some (aX y):=by
 have:=sH (l:=x++y) (a:=x.length) (b:=(x++y).length) (by rw [bm]; omega) (bZ _);rw [fK,List.drop_left' rfl] at this;rw [cy];exact this
theorem Ov (hN:N<18446744073709551616):bX ⟨aX (dO N++y),false⟩=some (IntKind.i64.wrap (N:Int),⟨aX y,false⟩):=by
 have h1:=uI (dO N) y;have h2:=uJ (dO N) y;rw [show (((dO (N:Int)).length:Nat):Int)=8 from rfl] at h1 h2;unfold bX;dsimp only;rw [cond_false,decide_eq_false (by rw [cy,bm,bY]; omega),cond_false,h1,ad,yo hN,ad,h2,ad]
theorem y8 {n:Int} (hn:w7 n):bX ⟨aX (dO n++y),false⟩=some (n,⟨aX y,false⟩):=by
 obtain⟨h1,h2⟩:=hn;obtain⟨N,rfl⟩:∃ N:Nat,n=N:=⟨n.toNat,by omega⟩;rw [Ov (by omega),lx (by omega) (by omega)]
theorem Ho {s:ByteArray}:cY ⟨aX (cr s++y),false⟩ (s.size:Int)=some (s,⟨aX y,false⟩):=by
 have h1:=uI (cr s) y;have h2:=uJ (cr s) y;rw [cM] at h1 h2;unfold cY;dsimp only;rw [cond_false,decide_eq_false (by omega),cond_false,decide_eq_false (by rw [cy,bm,cM]; omega),cond_false,h1,ad,h2,ad,kx]
theorem Ky {k:ae} (O:w7 k.k) (hs:k.t.size<=1073741824):eS ⟨aX (sJ k++y),false⟩=some (k,⟨aX y,false⟩):=by
 unfold eS sJ pb;simp only [fc];rw [y8 O,ad];dsimp only;rw [y8 ⟨by omega,by omega⟩,ad];dsimp only;rw [Ho,ad]
theorem Fn {c:Nat} {z:Int} (e:z=(c:Int)) (hn:n<=1000000) (hc:0<c) (h:n*c<=y.length) (hy:y.length<=140000000000000):dV ⟨aX (dO n++y),false⟩ z=some ((n:Int),⟨aX y,false⟩):=by
 subst e;have h1:n<=y.length / c:=(Nat.le_div_iff_mul_le hc).2 h;have h2:y.length / c<=y.length:=Nat.div_le_self _ _;unfold dV;rw [y8 ⟨by omega,by omega⟩,ad];dsimp only;rw [decide_eq_false (by omega),cond_false,show ((c:Int) != 0)=true from bne_iff_ne.2 (by omega),cy,show Int.tdiv (y.length:Int) (c:Int)=((y.length / c:Nat):Int) from rfl,lx (by omega) (by omega),decide_eq_false (by omega)];rfl
theorem Ow {F:Int->ByteArray->Bool->List α->Option (Fl (Int×ByteArray×Bool×(List α)) (ByteArray×Bool×(List α)))} {L:Nat} (hL:(xs.flatMap W++y).length<=L)
  (hF:∀ (k:Nat) (x:α) (z:List Int),xs[k]? = some x->(W x++z).length<=L->F ((xs.length-k:Nat):Int) (aX (W x++z)) false (xs.take k)=some (.go (((xs.length-(k+1):Nat):Int),aX z,false,xs.take (k+1)))) (hE:∀ r b o,F 0 r b o=some (.out (r,b,o))) :
  loop (fun s:Int×ByteArray×Bool×(List α)=>F s.1 s.2.1 s.2.2.1 s.2.2.2) ((xs.length:Int),aX (xs.flatMap W++y),false,([]:List α))=some (aX y,false,xs):=by
 refine dG (xs:=xs) (fun k=>(((xs.length-k:Nat):Int),aX ((xs.drop k).flatMap W++y),false,xs.take k)) (by simp) (fun k x hx=>?_) ?_
 ·dsimp only;obtain⟨O,e⟩:=cm.1 hx;have h1:(xs.flatMap W).length=((xs.take k).flatMap W).length+((xs.drop k).flatMap W).length:=by
   conv=>lhs; rw [<- pc k xs,s5,bm]
  rw [C9 O,e,u0] at h1;rw [C9 O,e,u0,fc,hF k x _ hx (by simp only [bm] at hL h1 ⊢; omega)]
 ·dsimp only;rw [uR,Da,List.flatMap_nil,s7,fK];exact hE _ _ _
theorem EJ {k:Nat} (O:k<n) (hn:n<=1000000):IntKind.i64.wrap (((n-k:Nat):Int)-1)=((n-(k+1):Nat):Int):=by rw [lx (by omega) (by omega)]; omega
theorem Fm (h:o.length<=140000000000000):kv (jf o)=some (aX o,0):=by
 have hs:(aX o).size<=140000000000000:=by rw [cy]; omega
 obtain⟨d1,d2,d3⟩:=yP hs;have hz:=pO o;have h1:=uI o (n3 (EK (aX o)));have h2:=uJ o (n3 (EK (aX o)));rw [<- yq] at h1 h2;unfold kv;rw [show IntKind.i64.wrap (((jf o).size:Int)-16)=(o.length:Int) by rw [hz,lx (by omega) (by omega)]; omega];rw [decide_eq_false (by omega),cond_false,h1,ad,h2,ad,rT hs,ad,tT d1 ⟨d2,d3⟩,ad,beq_self_eq_true,eT,cond_false]
end
section
open Go.Lib hiding intOf
variable {l:List Int} {r:aH}
theorem jv (m x i:Nat) (hx:x<256):hb (m*256+x) (i+1)=hb m i:=by
 unfold hb;rw [zu,Nat.mul_comm (256 ^ i) 256,<- Nat.div_div_eq_div_mul,show (m*256+x) / 256=m by omega]
theorem ET (m x:Nat) (hx:x<256):hb (m*256+x) 0=x:=by
 unfold hb;rw [zv,vT]; omega
theorem L7 (m x:Nat) (hx:x<256):Nk (m*256+x)=[hb m 6,hb m 5,hb m 4,hb m 3,hb m 2,hb m 1,hb m 0,x]:=by
 unfold Nk;rw [jv m x 6 hx,jv m x 5 hx,jv m x 4 hx,jv m x 3 hx,jv m x 2 hx,jv m x 1 hx,jv m x 0 hx,ET m x hx]
theorem DQ (hl:GE l) (h8:l.length=8):∃ N:Nat,N<18446744073709551616/\l=dO N:=by
 match l,h8 with
 | [a,b,c,d,e,f,g,h],_ =>
  have bd:∀ x∈[a,b,c,d,e,f,g,h],∃ n:Nat,x=n/\n<256:=fun x hx=>by
   obtain⟨h1,h2⟩:=hl x hx;exact⟨x.toNat,by omega,by omega⟩
  obtain⟨a,rfl,a2⟩:=bd a (by simp);obtain⟨b,rfl,b2⟩:=bd b (by simp);obtain⟨c,rfl,c2⟩:=bd c (by simp);obtain⟨d,rfl,d2⟩:=bd d (by simp);obtain⟨e,rfl,e2⟩:=bd e (by simp);obtain⟨f,rfl,f2⟩:=bd f (by simp);obtain⟨g,rfl,g2⟩:=bd g (by simp);obtain⟨h,rfl,h2⟩:=bd h (by simp);refine⟨((((((((0*256+a)*256+b)*256+c)*256+d)*256+e)*256+f)*256+g)*256+h),by omega,?_⟩;unfold dO;rw [s3,L7 _ _ h2,jv _ _ 5 g2,jv _ _ 4 g2,jv _ _ 3 g2,jv _ _ 2 g2,jv _ _ 1 g2,jv _ _ 0 g2,ET _ _ g2,
   jv _ _ 4 f2,jv _ _ 3 f2,jv _ _ 2 f2,jv _ _ 1 f2,jv _ _ 0 f2,ET _ _ f2,jv _ _ 3 e2,jv _ _ 2 e2,jv _ _ 1 e2,jv _ _ 0 e2,ET _ _ e2,
   jv _ _ 2 d2,jv _ _ 1 d2,jv _ _ 0 d2,ET _ _ d2,jv _ _ 1 c2,jv _ _ 0 c2,ET _ _ c2,jv _ _ 0 b2,ET _ _ b2,ET _ _ a2]
  rfl
theorem Oj {N:Nat} (h1:9223372036854775808<=N) (h2:N<18446744073709551616) {y:List Int} {bad:Bool}:a6 ⟨aX (dO N++y),bad⟩=some (0,⟨aX y,true⟩):=by
 unfold a6;rw [tU (x:=dO N) 8 rfl,ad];dsimp only;rw [show bW (aX (dO (N:Int))).size=true from dJ (by rw [cy,bY]; omega)];simp only [gd,cond_true];rw [show loop (fun s:Int×Int=>bQ (aX (dO (N:Int)),⟨aX y,bad⟩) s.1 s.2) (0,0)=some ((N:Int),aX y,bad) from
  jx (B:=fun s:Int×Int=>bQ (aX (dO (N:Int)),⟨aX y,bad⟩) s.1 s.2) (fun k=>(((N / 256 ^ (8-k):Nat):Int),(k:Int))) 8 (by
   have:N / 256 ^ 8=0:=zq (by omega);show ((0:Int),(0:Int))=(((N / 256 ^ 8:Nat):Int),((0:Nat):Int));rw [this]; rfl) (fun k O=>by
   dsimp only;unfold bQ;dsimp only;rw [jk (yM _)];have hg:(dO (N:Int))[k]? = some ((hb N (7-k):Nat):Int):=by
    unfold dO;rw [ro,s3,xk N O]; rfl
   have hlt:N / 256 ^ (8-k)<72057594037927936:=by
    have h3:256 ^ 1<=256 ^ (8-k):=uQ (by omega) (by omega);have h4:N / 256 ^ (8-k)<=N / 256 ^ 1:=Ee h3 (by omega);have h5:N / 256 ^ 1<72057594037927936:=by rw [Nat.pow_one]; omega
    omega
   rw [show ((dO (N:Int)).length:Int)=((8:Nat):Int) from rfl,dlt O,cond_true,bj,hg,ad,Gn hlt (tL _ _),cL (by omega)];have:=uk N (7-k);rw [show 7-k+1=8-k by omega] at this;rw [<- this,show 8-(k+1)=7-k by omega]) (by
   dsimp only;unfold bQ;dsimp only;rw [jk (yM _),show ((dO (N:Int)).length:Int)=((8:Nat):Int) from rfl,bS,cond_false];rw [show 8-8=0 from rfl,zv,vT]),ad]
 unfold dj;rw [Aw,show N / 9223372036854775808=1 by omega];rfl
abbrev yJ (r y:aH) (w:List Int):Prop:=y.h=false->r.h=false/\cr r.q=w++cr y.q
theorem yJ.trans {y z:aH} {v w:List Int} (h1:yJ r y v) (h2:yJ y z w):yJ r z (v++w):=fun h=>by
 obtain⟨a1,a2⟩:=h2 h;obtain⟨b1,b2⟩:=h1 a1;exact⟨b1,by rw [b2,a2,fc]⟩
theorem KN {n:Nat} (h:n<=r.q.size):r=⟨aX ((cr r.q).take n++(cr r.q).drop n),r.h⟩:=by rw [pc,kx]
theorem xO (h:GE l) (n:Nat):GE (l.take n):=fun x hx=>h x (HX hx)
theorem AI (h:GE l) (n:Nat):GE (l.drop n):=fun x hx=>h x (HW hx)
theorem JE (n:Int):Ok (ce r n) fun y=>zA r y.2 n.toNat/\yJ r y.2 (cr y.1)/\(y.2.h=false->(y.1.size:Int)=n):=by
 by_cases h1:n<0
 ·unfold ce;rw [decide_eq_true h1,cond_true];exact ah ⟨⟨bT _,fun _=>rfl,.inl rfl⟩,(fun h=>by cases h),fun h=>by cases h⟩
 ·by_cases h2:((r.q.size:Int))<n
  ·unfold ce;rw [decide_eq_false h1,cond_false,decide_eq_true h2,cond_true];exact ah ⟨⟨bT _,fun _=>rfl,.inl rfl⟩,(fun h=>by cases h),fun h=>by cases h⟩
  ·have hl:=cM r.q;have hs:=KN (r:=r) (n:=n.toNat) (by omega);have hb:=vZ r.q;have hlt:((cr r.q).take n.toNat).length=n.toNat:=by rw [fe]; omega
   refine⟨_,by rw [hs]; exact tU n (by omega),⟨?_,fun h=>h,.inr ?_⟩,fun h=>⟨h,?_⟩,fun _=>?_⟩
   ·show (aX _).size<=_;rw [cy,nr]; omega
   ·show (aX _).size+_<=_;rw [cy,nr]; omega
   ·show _=cr (aX _)++cr (aX _);rw [jk (xO hb _),jk (AI hb _),pc]
   ·show ((aX _).size:Int)=n;rw [cy,hlt]; omega
theorem wd:Ok (a6 r) fun y=>zA r y.2 8/\yJ r y.2 (dO y.1)/\(y.2.h=false->w7 y.1):=by
 by_cases h8:r.q.size<8
 ·refine Mp.mono fun y h=>⟨h,?_,?_⟩
  ·intro hb;rcases h.2.2 with h1 | h1
   ·rw [hb] at h1; cases h1
   ·omega
  ·intro hb;rcases h.2.2 with h1 | h1
   ·rw [hb] at h1; cases h1
   ·omega
 ·have hl:=cM r.q;have hs:=KN (r:=r) (n:=8) (by omega);have hb:=vZ r.q;obtain⟨N,hN,e⟩:=DQ (xO hb 8) (by rw [fe]; omega);have hd:(aX ((cr r.q).drop 8)).size+8=r.q.size:=by rw [cy,nr]; omega
  rw [e] at hs;by_cases hN2:N<9223372036854775808
  ·refine⟨_,by rw [hs]; exact lj ⟨by omega,by omega⟩,⟨by show (aX _).size<=_; omega,fun h=>h,.inr (by show (aX _).size+8<=_; omega)⟩,fun h=>⟨h,?_⟩,fun _=>⟨by show (0:Int)<=(N:Int); omega,by show (N:Int)<_; omega⟩⟩;show _=dO (N:Int)++cr (aX _);rw [jk (AI hb _),<- e,pc]
  ·refine⟨_,by rw [hs]; exact Oj (by omega) hN,⟨by show (aX _).size<=_; omega,fun _=>rfl,.inl rfl⟩,(fun h=>by cases h),fun h=>by cases h⟩
theorem Ni:Ok (c6 r) fun y=>zA r y.2 8/\yJ r y.2 (pb y.1):=by
 unfold c6;refine au wd fun u ⟨h1,h2,h3⟩=>au (JE (r:=⟨u.2.q,u.2.h⟩) _) fun v ⟨g1,g2,g3⟩=>ah ⟨zA.trans h1 g1,fun hb=>?_⟩;have e:=g3 hb;have:=yJ.trans h2 g2 hb;unfold pb;rw [e];exact this
theorem P9:Ok (cS r) fun y=>zA r y.2 8/\yJ r y.2 (sJ y.1)/\(y.2.h=false->w7 y.1.k):=by
 unfold cS;refine au wd fun u ⟨h1,h2,h3⟩=>au (Ni (r:=⟨u.2.q,u.2.h⟩)) fun v ⟨g1,g2⟩=>ah ⟨zA.trans h1 g1,yJ.trans h2 g2,fun hb=>h3 (g2 hb).1⟩
theorem KH {α:Type} {W:α->List Int} {Q:α->Prop} {F:List α->Int->ByteArray->Bool->Option (Fl (List α×Int×ByteArray×Bool) (List α×ByteArray×Bool))} (hr:r.q.size<=100000000) {n0:Int} (hn:r.h=false->w7 n0)
  (hF:∀ (o:List α) (n:Int) (rest:ByteArray) (bad:Bool),o.length<=1000000000->rest.size<=r.q.size->Ok (F o n rest bad) fun f=>match f with
   | .go s=>0<n/\s.2.1=IntKind.i64.wrap (n-1)/\bad=false/\zA ⟨rest,bad⟩ ⟨s.2.2.1,s.2.2.2⟩ 8/\∃ x,s.1=o++[x]/\yJ ⟨rest,bad⟩ ⟨s.2.2.1,s.2.2.2⟩ (W x)/\(s.2.2.2=false->Q x)
   | .out s=>s.1=o/\s.2=(rest,bad)/\(n<=0∨bad=true)) :
  ∃ y,loop (fun s:List α×Int×ByteArray×Bool=>F s.1 s.2.1 s.2.2.1 s.2.2.2) (([]:List α),n0,r.q,r.h)=some y/\zA r ⟨y.2.1,y.2.2⟩ 0/\yJ r ⟨y.2.1,y.2.2⟩ (y.1.flatMap W)/\(y.2.2=false->(y.1.length:Int)=n0/\∀ x∈y.1,Q x):=by
 have h:=bP (g:=fun y=>some y) (B:=fun s:List α×Int×ByteArray×Bool=>F s.1 s.2.1 s.2.2.1 s.2.2.2) (s:=(([]:List α),n0,r.q,r.h)) (R:=fun y=>zA r ⟨y.2.1,y.2.2⟩ 0/\yJ r ⟨y.2.1,y.2.2⟩ (y.1.flatMap W)/\(y.2.2=false->(y.1.length:Int)=n0/\∀ x∈y.1,Q x))
  (fun (k:Nat) s=>s.1.length=k/\s.2.2.1.size<=r.q.size/\(r.h=true->s.2.2.2=true)/\(s.2.2.2=true/\k<=r.q.size+1∨s.2.2.1.size+k<=r.q.size)/\yJ r ⟨s.2.2.1,s.2.2.2⟩ (s.1.flatMap W)/\(s.2.2.2=false->s.2.1=n0-k/\(k:Int)<=n0/\∀ x∈s.1,Q x)) (fun y=>zA r ⟨y.2.1,y.2.2⟩ 0/\yJ r ⟨y.2.1,y.2.2⟩ (y.1.flatMap W)/\(y.2.2=false->(y.1.length:Int)=n0/\∀ x∈y.1,Q x)) (r.q.size+2) ⟨rfl,bZ _,fun h=>h,.inr (by show r.q.size+0<=_; omega),fun h=>⟨h,by simp⟩,fun h=>⟨by show n0=n0-((0:Nat):Int); omega,by have:=(hn h).1; omega,fun x hx=>by cases hx⟩⟩ ?_ (fun y hy=>ah hy)
 ·obtain⟨y,e,hy⟩:=h;refine⟨y,?_,hy⟩;cases hl:loop (fun s:List α×Int×ByteArray×Bool=>F s.1 s.2.1 s.2.2.1 s.2.2.2) (([]:List α),n0,r.q,r.h) with
  | none=>rw [hl] at e; cases e
  | some z=>rw [hl] at e; exact e
 ·rintro k ⟨o,n,rest,bad⟩ O ⟨h1,h2,h3,h4,h5,h6⟩;dsimp only at h1 h2 h3 h4 h5 h6 ⊢;have ho:o.length<=1000000000:=by omega
  refine (hF o n rest bad ho h2).mono fun f hf=>?_;cases f with
  | go s =>
   obtain⟨p1,p2,p3,g,x,p4,p5,p6⟩:=hf;obtain⟨g3,g4,g5⟩:=g;dsimp only at g3 g4 g5;have h4:rest.size+k<=r.q.size:=by
    rcases h4 with⟨h4,_⟩ | h4
    ·rw [p3] at h4; cases h4
    ·exact h4
   obtain⟨q1,q2,q3⟩:=h6 p3;have hr0:=(h5 p3).1;have hn0:=hn hr0;obtain⟨m1,m2⟩:=hn0;refine⟨by omega,by rw [p4,bm]; simp; omega,by omega,fun hb=>g4 (h3 hb),?_,?_,fun hb=>⟨?_,?_,?_⟩⟩
   ·rcases g5 with g5 | g5
    ·exact .inl ⟨g5,by omega⟩
    ·exact .inr (by omega)
   ·have:=yJ.trans h5 p5;rw [p4,s5];simpa using this
   ·rw [p2,lx (by omega) (by omega)]; omega
   ·omega
   ·intro z hz;rw [p4] at hz;rcases de.1 hz with hz | hz
    ·exact q3 z hz
    ·rw [eU] at hz; subst hz; exact p6 hb
  | out s =>
   obtain⟨g1,g2,g3⟩:=hf;have e1:s.2.1=rest:=congrArg Prod.fst g2;have e2:s.2.2=bad:=congrArg Prod.snd g2;refine⟨⟨by show s.2.1.size<=_; rw [e1]; exact h2,fun hb=>by show s.2.2=true; rw [e2]; exact h3 hb,?_⟩,?_,fun hb=>?_⟩
   ·show s.2.2=true∨s.2.1.size+0<=_;rw [e1,e2];exact .inr (by omega)
   ·rw [g1,e1,e2]; exact h5
   ·rw [e2] at hb;obtain⟨q1,q2,q3⟩:=h6 hb;rw [g1];refine⟨?_,q3⟩;rcases g3 with g3 | g3
    ·omega
    ·rw [hb] at g3; cases g3
end
section
open Go.Lib hiding intOf
theorem Hw {s:ByteArray} {n:Nat} (h:n<=s.size):kz s 0 (n:Int)=some (aX ((cr s).take n))/\kz s (n:Int) (s.size:Int)=some (aX ((cr s).drop n)):=by
 have hl:=cM s;have e:s=aX ((cr s).take n++(cr s).drop n):=by rw [pc,kx]
 have h1:=uI ((cr s).take n) ((cr s).drop n);have h2:=uJ ((cr s).take n) ((cr s).drop n);rw [<- e,fe,xF (by omega)] at h1 h2;exact⟨h1,h2⟩
theorem OC {s:ByteArray} (h:8<=s.size):Ok (jo s) fun _=>True:=by
 have hl:=D8 s;unfold jo;refine bP (fun (k:Nat) (t:Int×Int)=>t.2=k) (fun _=>True) 8 rfl ?_ (fun r _=>by unfold qb; exact ah trivial);rintro k ⟨n,i⟩ O rfl;dsimp only;unfold gU;refine ax (fun h=>?_) (fun _=>ah trivial);have h:k<8:=by have:=of_decide_eq_true h; omega
 exact aI (bE (xs:=s.toList) (k:=k) (by omega)) (ah ⟨h,cL (by omega)⟩)
theorem C0 {r:aV}:Ok (bX r) fun y=>y.2.S.size<=r.S.size:=by
 unfold bX;refine ax (fun _=>ah (bZ _)) (fun _=>ax (fun _=>ah (bZ _)) (fun h=>?_));have h8:8<=r.S.size:=by have:=of_decide_eq_false h; omega
 have hl:=cM r.S;obtain⟨e1,e2⟩:=Hw (n:=8) h8;refine aI e1 (au (OC (by rw [cy,fe]; omega)) fun u _=>aI e2 (ah ?_));show (aX _).size<=_;rw [cy,nr]; omega
theorem Hq {r:aV} {z:Int} {c:Nat} (hz:z=c) (hc:0<c) (hr:r.S.size<=100000000):Ok (dV r z) fun y=>0<=y.1/\y.1<=r.S.size/\y.2.S.size<=r.S.size:=by
 subst hz;unfold dV;refine au C0 fun u hu=>ax (fun _=>ah ⟨rj _,by show (0:Int)<=_; omega,hu⟩) (fun h0=>bO (bne_iff_ne.2 (by omega)) ?_);have hd:u.2.S.size / c<=u.2.S.size:=Nat.div_le_self _ _;rw [show Int.tdiv (u.2.S.size:Int) (c:Int)=((u.2.S.size / c:Nat):Int) from rfl];generalize u.2.S.size / c=q at hd;rw [lx (by omega) (by omega)];refine ax (fun _=>ah ⟨rj _,by show (0:Int)<=_; omega,hu⟩) (fun h1=>ah ⟨?_,?_,hu⟩)
 ·have:=of_decide_eq_false h0; show (0:Int)<=u.1; omega
 ·have:=of_decide_eq_false h1; show u.1<=_; omega
theorem Gt {r:aV} {n:Int}:Ok (cY r n) fun y=>y.2.S.size<=r.S.size/\y.1.size<=r.S.size:=by
 unfold cY;refine ax (fun _=>ah ⟨bZ _,bT _⟩) (fun _=>ax (fun _=>ah ⟨bZ _,bT _⟩) (fun h0=>ax (fun _=>ah ⟨bZ _,bT _⟩) (fun h1=>?_)));have h0:=of_decide_eq_false h0;have h1:=of_decide_eq_false h1;obtain⟨N,rfl⟩:∃ N:Nat,n=N:=⟨n.toNat,by omega⟩;have hl:=cM r.S;obtain⟨e1,e2⟩:=Hw (s:=r.S) (n:=N) (by omega);refine aI e1 (aI e2 (ah ⟨?_,?_⟩))
 ·show (aX _).size<=_;rw [cy,nr]; omega
 ·show (aX _).size<=_;rw [cy,fe]; omega
theorem Ns {r:aV}:Ok (eS r) fun y=>y.2.S.size<=r.S.size/\y.1.t.size<=r.S.size:=by
 unfold eS;refine au C0 fun u hu=>au (C0 (r:=⟨u.2.S,u.2.h⟩)) fun v hv=>au (Gt (r:=⟨v.2.S,v.2.h⟩)) fun w ⟨h1,h2⟩=>ah ⟨?_,?_⟩
 ·dsimp only at hv h1 ⊢; omega
 ·dsimp only at hv h2 ⊢; omega
theorem Ox {α:Type} {Q:α->Prop} {F:Int->ByteArray->Bool->List α->Option (Fl (Int×ByteArray×Bool×List α) (ByteArray×Bool×List α))} {L:Nat} {n0:Int} (hn:0<=n0) (hN:n0<=100000000) {g0:ByteArray} {b0:Bool} (hg:g0.size<=L)
  (hF:∀ (n:Int) (g:ByteArray) (b:Bool) (o:List α),o.length<=1000000000->g.size<=L->Ok (F n g b o) fun f=>match f with
   | .go s=>0<n/\s.1=IntKind.i64.wrap (n-1)/\s.2.1.size<=L/\∃ x,s.2.2.2=o++[x]/\Q x
   | .out s=>s.1=g/\s.2.2=o) :
  Ok (loop (fun s:Int×ByteArray×Bool×List α=>F s.1 s.2.1 s.2.2.1 s.2.2.2) (n0,g0,b0,([]:List α))) fun y=>y.1.size<=L/\(y.2.2.length:Int)<=n0/\∀ x∈y.2.2,Q x:=by
 have h:=bP (g:=fun y=>some y) (B:=fun s:Int×ByteArray×Bool×List α=>F s.1 s.2.1 s.2.2.1 s.2.2.2) (s:=(n0,g0,b0,([]:List α))) (R:=fun y=>y.1.size<=L/\(y.2.2.length:Int)<=n0/\∀ x∈y.2.2,Q x)
  (fun (k:Nat) s=>s.1=n0-k/\(k:Int)<=n0/\s.2.1.size<=L/\s.2.2.2.length=k/\∀ x∈s.2.2.2,Q x) (fun y=>y.1.size<=L/\(y.2.2.length:Int)<=n0/\∀ x∈y.2.2,Q x) (n0.toNat+1) ⟨by show n0=n0-((0:Nat):Int); omega,by omega,hg,rfl,fun x hx=>by cases hx⟩ ?_ (fun y hy=>ah hy)
 ·obtain⟨y,e,hy⟩:=h;refine⟨y,?_,hy⟩;cases hl:loop (fun s:Int×ByteArray×Bool×List α=>F s.1 s.2.1 s.2.2.1 s.2.2.2) (n0,g0,b0,([]:List α)) with
  | none=>rw [hl] at e; cases e
  | some z=>rw [hl] at e; exact e
 ·rintro k ⟨n,g,b,o⟩ O ⟨h1,h2,h3,h4,h5⟩;dsimp only at h1 h2 h3 h4 h5 ⊢;refine (hF n g b o (by omega) h3).mono fun f hf=>?_;cases f with
  | go s =>
   obtain⟨p1,p2,p3,x,p4,p5⟩:=hf;refine⟨by omega,by rw [p2,lx (by omega) (by omega)]; omega,by omega,p3,by rw [p4,bm]; simp; omega,fun z hz=>?_⟩;rw [p4] at hz;rcases de.1 hz with hz | hz
   ·exact h5 z hz
   ·rw [eU] at hz; subst hz; exact p5
  | out s =>
   obtain⟨q1,q2⟩:=hf;exact⟨by rw [q1]; exact h3,by rw [q2]; omega,by rw [q2]; exact h5⟩
theorem Qm {z:ByteArray} (hz:z.size<=100000000):(gQ z=some (⟨⟨#[]⟩,false⟩,8)/\kv z=some (⟨#[]⟩,8))∨(gQ z=some (⟨⟨#[]⟩,false⟩,46)/\kv z=some (⟨#[]⟩,46))∨∃ o,GE o/\o.length+16=z.size/\z=jf o:=by
 by_cases h16:z.size<16
 ·refine .inl ⟨?_,?_⟩
  ·unfold gQ;rw [show IntKind.i64.wrap ((z.size:Int)-16)=(z.size:Int)-16 from lx (by omega) (by omega),decide_eq_true (by omega),cond_true]
  ·unfold kv;rw [decide_eq_true (by omega),cond_true]
 ·have hl:=cM z;have hb:=vZ z;obtain⟨o,ho⟩:∃ o,o=(cr z).take (z.size-16):=⟨_,rfl⟩;obtain⟨D,hD⟩:∃ D,D=(cr z).drop (z.size-16):=⟨_,rfl⟩;have e:z=aX (o++D):=by rw [ho,hD,pc,kx]
  have hlo:o.length=z.size-16:=by rw [ho,fe]; omega
  have hs:(aX o).size<=140000000000000:=by rw [cy]; omega
  obtain⟨d1,d2,d3⟩:=yP hs;have e1:kz z 0 (o.length:Int)=some (aX o):=by rw [e]; exact uI o D
  have e2:kz z (o.length:Int) (z.size:Int)=some (aX D):=by
   have:=uJ o D;rw [<- e] at this; exact this
  have ew:IntKind.i64.wrap ((z.size:Int)-16)=(o.length:Int):=by rw [lx (by omega) (by omega)]; omega
  by_cases hd:aX (n3 (EK (aX o)))=aX D
  ·refine .inr (.inr ⟨o,by rw [ho]; exact xO hb _,by omega,?_⟩);unfold jf;rw [hd,j6]; exact e
  ·have hne:((aX (n3 (EK (aX o)))).toList==(aX D).toList)=false:=by rw [O2,decide_eq_false hd]
   refine .inr (.inl ⟨?_,?_⟩)
   ·unfold gQ;rw [ew,decide_eq_false (by omega),cond_false,e1,ad,e2,ad,Gb hs,ad,wb d1 ⟨d2,d3⟩,ad,hne,jj,cond_true]
   ·unfold kv;rw [ew,decide_eq_false (by omega),cond_false,e1,ad,e2,ad,rT hs,ad,tT d1 ⟨d2,d3⟩,ad,hne,jj,cond_true]
end
section
open Go.Lib hiding intOf
noncomputable def IY (r:ci):Bool:=!vk r.d||decide (r.a.y<0)
noncomputable def El (x:ai):Bool:=!(x.v.any IY)&&vk x.d && !JF x.d&&decide ((x.u.size:Int)<=1073741824)&&decide (1<=x.j)&&decide (x.j<=1073741824)
structure FR (x:ai):Prop where
 few:x.v.length<=1000000
 text:x.d.t.size<=140737488355328
 texts:∀ r∈x.v,r.d.t.size<=140737488355328
def Eq (d:b7):Prop:=d.y<9223372036854775808/\0<=d.z/\d.z<18446744073709551616
theorem GI {x:ai} (h:FR x):kj x=some (El x)/\di x=some (El x):=by
 have hf:=h.few;obtain⟨k1,k2⟩:=C4 h.text;have hi:=L0 x.d;have hi2:cH x.d=some (JF x.d):=by rw [<- DK]; exact hi
 have e1:loop (fun s:Int=>eE x s) 0=some (if x.v.any IY then Fl.out false else Fl.go ()) :=
  tP (xs:=x.v) IY (fun n=>(n:Int)) rfl
   (fun k r hr hp=>by
    have O:=bg hr;unfold eE;rw [iK hr,cond_true,bj,hr,ad,(C4 (h.texts r (aK hr))).1,ad,cL (by omega)];unfold IY at hp;generalize vk r.d=v at hp ⊢;generalize decide (r.a.y<0)=d at hp ⊢;cases v <;> cases d <;> first | rfl | (exact absurd hp (by decide)))
   (fun k r hr hp=>by
    have O:=bg hr;unfold eE;rw [iK hr,cond_true,bj,hr,ad,(C4 (h.texts r (aK hr))).1,ad];unfold IY at hp;generalize vk r.d=v at hp ⊢;generalize decide (r.a.y<0)=d at hp ⊢;cases v <;> cases d <;> first | rfl | (exact absurd hp (by decide)))
   (by unfold eE; rw [bS]; rfl)
 have e2:loop (fun s:Int=>cG x s) 0=some (if x.v.any IY then Fl.out false else Fl.go ()) :=
  tP (xs:=x.v) IY (fun n=>(n:Int)) rfl
   (fun k r hr hp=>by
    have O:=bg hr;unfold cG;rw [iK hr,cond_true,bj,hr,ad,(C4 (h.texts r (aK hr))).2,ad,cL (by omega)];unfold IY at hp;generalize vk r.d=v at hp ⊢;generalize decide (r.a.y<0)=d at hp ⊢;cases v <;> cases d <;> first | rfl | (exact absurd hp (by decide)))
   (fun k r hr hp=>by
    have O:=bg hr;unfold cG;rw [iK hr,cond_true,bj,hr,ad,(C4 (h.texts r (aK hr))).2,ad];unfold IY at hp;generalize vk r.d=v at hp ⊢;generalize decide (r.a.y<0)=d at hp ⊢;cases v <;> cases d <;> first | rfl | (exact absurd hp (by decide)))
   (by unfold cG; rw [bS]; rfl)
 unfold kj di El;rw [e1,e2];generalize x.v.any IY=a;cases a
 ·simp only [HL,if_false,Fl.el,ad];unfold iN eg eC cF;rw [k1,k2,hi,hi2];generalize vk x.d=v;generalize JF x.d=i;generalize decide ((x.u.size:Int)<=1073741824)=x1;generalize decide (1<=x.j)=x2;generalize decide (x.j<=1073741824)=x3;cases v <;> cases i <;> cases x1 <;> cases x2 <;> cases x3 <;> exact⟨rfl,rfl⟩
 ·exact⟨rfl,rfl⟩
theorem I1 {x:ai} (h:FR x) (hd:∀ r∈x.v,Eq r.a) (hv:El x=true):qh x:=by
 unfold El at hv;simp only [ri,uZ,FF,decide_eq_true_eq] at hv;obtain⟨⟨⟨⟨⟨v1,v2⟩,v3⟩,v4⟩,v5⟩,v6⟩:=hv;refine⟨HC v2,HD h.text v2,h.few,fun r hr=>?_,by omega,⟨by omega,by omega⟩⟩;have hb:=v1 r hr;unfold IY at hb;simp only [yD,not_or,uZ,Bool.not_eq_false,decide_eq_true_eq] at hb;obtain⟨b1,b2⟩:=hb;obtain⟨d1,d2,d3⟩:=hd r hr;exact⟨HC b1,HD (h.texts r hr) b1,⟨by omega,d1⟩,d2,d3⟩
theorem zQ {α:Type} (p:α->Bool):∀ xs:List α,(∀ x∈xs,p x=true)∨∃ a x b,xs=a++x::b/\(∀ y∈a,p y=true)/\p x=false
 | []=>.inl fun x hx=>by cases hx
 | x::xs=>by
  cases hp:p x with
  | false=>exact .inr ⟨[],x,xs,rfl,(fun y hy=>by cases hy),hp⟩
  | true =>
   rcases zQ p xs with h | ⟨a,y,b,rfl,h1,h2⟩
   ·refine .inl fun y hy=>?_;rcases dC.1 hy with rfl | hy
    ·exact hp
    ·exact h y hy
   ·refine .inr ⟨x::a,y,b,rfl,fun z hz=>?_,h2⟩;rcases dC.1 hz with rfl | hz
    ·exact hp
    ·exact h1 z hz
noncomputable def Lc (l:List ai):Bool:=decide ((l.length:Int)<=4000) && !(l.any fun x=>!El x)
section
variable {l:List ai}
theorem NA (hB:∀ x∈l,FR x) (hn:l.length<=1000000):cB l=some (!(l.any fun x=>!El x)):=by
 have e1:loop (fun s:Int=>df l s) 0=some (if (l.any fun x=>!El x) then Fl.out false else Fl.go ()) :=
  tP (xs:=l) (fun x=>!El x) (fun n=>(n:Int)) rfl
   (fun k x hx hp=>by
    have O:=bg hx;have hp:El x=true:=by simpa using hp
    unfold df;rw [iK hx,cond_true,bj,hx,ad,(GI (hB x (aK hx))).1,ad,cL (by omega),hp]; rfl)
   (fun k x hx hp=>by
    have hp:El x=false:=by simpa using hp
    unfold df;rw [iK hx,cond_true,bj,hx,ad,(GI (hB x (aK hx))).1,ad,hp]; rfl)
   (by unfold df; rw [bS]; rfl)
 unfold cB;rw [e1];cases (l.any fun x=>!El x) <;> rfl
theorem Kj {x:ai} {w:List Int} (h:qh x) (hw:w.length+(x.v.flatMap yH).length<=140000000000000):loop (fun s:ByteArray×Int=>dU x s.1 s.2) (aX w,0)=some (aX (w++x.v.flatMap yH)) :=
 Fq (g:=id) (W:=yH) (xs:=x.v) (F:=dU x) hw (fun k r w hx hw=>by
  have O:=bg hx;have hf:=h.few;have hr:=h.reads r (aK hx);rw [uL] at hw;unfold dU;rw [iK hx,cond_true,bj,hx,ad,Hn hr.kind hr.text,ad,tT hr.dig.1 hr.dig.2,ad,KI (by rw [fb,qS]; omega)];simp only [gd,cond_true];rw [j6,KI (by rw [bm,fb,qS]; omega),cond_true,j6,cL (by omega)];rfl) (fun w=>by
  unfold dU;rw [bS]; rfl)
theorem Ki {k:Nat} {x:ai} {w:List Int} (hx:l[k]? = some x) (hB:FR x) (hv:El x=true) (h:qh x) (O:k<1000000) (hw:w.length+(gG x).length<=140000000000000):cN l (aX w) (k:Int)=some (.go (aX (w++gG x),((k+1:Nat):Int))):=by
 have h1:=h.text;have h2:=h.value;have hf:=h.few;rw [sI] at hw;unfold cN;rw [iK hx,cond_true,bj,hx,ad,(GI hB).2,ad,hv,eT,cond_false,Hn h.kind h1,ad,Kv hf,ad,KI (by rw [fb,bY]; omega)];simp only [gd,cond_true];rw [j6,KI (by rw [bm,fb,bY]; omega),cond_true,j6,Kj h (by simp only [bm,fb,bY]; omega),ad];unfold iw iv;rw [Hp h2,ad,Bv h.cost,ad,KI (by rw [mC,bY]; omega)];simp only [gd,cond_true];rw [j6,KI (by simp only [bm,fb,mC,bY]; omega),cond_true,j6,cL (by omega)];unfold gG;simp only [fc]
theorem xK (hB:∀ x∈l,FR x) (hD:∀ x∈l,∀ r∈x.v,Eq r.a) (hn:l.length<=1000000) {C:Nat} (hC:∀ x∈l,El x=true->(gG x).length<=C) (hC2:∀ n:Nat,n<=l.length->n<=4000->n*C<=130000000000000) :
  (Lc l=false/\cA l=some ⟨#[]⟩/\bN l=some ⟨#[]⟩)∨(Lc l=true/\(∀ x∈l,qh x)/\l.length<=4000/\(gH l).length<=140000000000000/\cB l=some true/\cA l=some (jf (gH l))/\bN l=some (jf (gH l))):=by
 have hvl:=NA hB hn;by_cases h4:(4000:Int)<(l.length:Int)
 ·refine .inl ⟨?_,?_,?_⟩
  ·unfold Lc; rw [decide_eq_false (by omega)]; rfl
  ·unfold cA; rw [decide_eq_true h4,cond_true]
  ·unfold bN; rw [decide_eq_true h4,cond_true]
 have hlen:l.length<=4000:=by omega
 have hsum:∀ a:List ai,a.length<=l.length->(∀ x∈a,x∈l/\El x=true)->(a.flatMap gG).length<=130000000000000:=fun a ha h=>by
  have h7:=oB (W:=gG) (c:=C) a fun x hx=>hC x (h x hx).1 (h x hx).2;have:=hC2 a.length ha (by omega);omega
 have hstart:(dO 12++dO (l.length:Int)).length=16:=rfl;rcases zQ El l with hall | ⟨a,x,b,e,ha,hx⟩
 ·have hrd:∀ x∈l,qh x:=fun x hx=>I1 (hB x hx) (hD x hx) (hall x hx);have hw:=hsum l (bZ _) fun x hx=>⟨hx,hall x hx⟩;have han:(l.any fun x=>!El x)=false:=by
   rw [FF];intro x hx;rw [hall x hx]; decide
  rw [han] at hvl;have hwl:(gH l).length<=140000000000000:=by rw [rU]; omega
  refine .inr ⟨?_,hrd,hlen,hwl,hvl,Dl hrd hlen hwl hvl,?_⟩
  ·unfold Lc; rw [decide_eq_true (by omega),han]; rfl
  ·unfold bN;rw [decide_eq_false h4,cond_false,Bv ⟨by omega,by omega⟩,ad,Kv hn,ad,KI (by rw [bY,bY]; omega)];simp only [gd,cond_true];rw [j6,Fq (g:=Fl.go) (W:=gG) (xs:=l) (F:=cN l) (by rw [hstart]; omega) (fun k x w hx hw=>Ki hx (hB x (aK hx)) (hall x (aK hx)) (hrd x (aK hx)) (by have:=bg hx; omega) hw) (fun w=>by
    unfold cN;rw [bS]; rfl),ad]
   show eO _=_;unfold eO;have e2:(dO 12++dO (l.length:Int))++l.flatMap gG=gH l:=by unfold gH; rw [fc]
   rw [e2,KA hwl]; rfl
 ·have han:(l.any fun x=>!El x)=true:=by
   rw [BO];exact⟨x,by rw [e]; simp,by rw [hx]; rfl⟩
  rw [han] at hvl;have hxl:x∈l:=by rw [e]; simp
  have hal:∀ y∈a,y∈l:=fun y hy=>by rw [e]; exact mD _ hy
  have hlen2:l.length=a.length+(b.length+1):=by rw [e]; simp
  have hw:=hsum a (by omega) fun y hy=>⟨hal y hy,ha y hy⟩;refine .inl ⟨?_,?_,?_⟩
  ·unfold Lc; rw [han]; simp
  ·unfold cA; rw [decide_eq_false h4,cond_false,hvl]; rfl
  ·have hget:∀ k,k<a.length->l[k]? = a[k]?:=fun k O=>by rw [e,pp O]
   have hgx:l[a.length]? = some x:=by rw [e,sL (bZ _)]; simp
   have hlp:loop (fun s:ByteArray×Int=>cN l s.1 s.2) (aX (dO 12++dO (l.length:Int)),0)=some (Fl.out ⟨#[]⟩) :=
    jx (B:=fun s:ByteArray×Int=>cN l s.1 s.2) (fun k=>(aX ((dO 12++dO (l.length:Int))++(a.take k).flatMap gG),(k:Int))) a.length (by simp) (fun k O=>by
     dsimp only;have hg:a[k]? = some a[k]:=cQ O;have hm:=gX O;have h1:((a.take (k+1)).flatMap gG).length<=(a.flatMap gG).length:=by
      conv=>rhs; rw [<- pc (k+1) a,s5,bm]
      omega
     rw [bM hg,s5,bm,show ([a[k]]:List ai).flatMap gG=gG a[k] by simp] at h1;rw [Ki (x:=a[k]) (by rw [hget k O,hg]) (hB _ (hal _ hm)) (ha _ hm) (I1 (hB _ (hal _ hm)) (hD _ (hal _ hm)) (ha _ hm)) (by omega) (by rw [bm,hstart]; omega),bM hg,s5,fc];simp) (by
     dsimp only;unfold cN;rw [iK hgx,cond_true,bj,hgx,ad,(GI (hB x hxl)).2,ad,hx,jj,cond_true])
   unfold bN;rw [decide_eq_false h4,cond_false,Bv ⟨by omega,by omega⟩,ad,Kv hn,ad,KI (by rw [bY,bY]; omega)];simp only [gd,cond_true];rw [j6,hlp];rfl
end
theorem Bx {N M:Nat} (hN:N<18446744073709551616) (B:M<18446744073709551616):kg (aX (dO N++dO M))=some (if N<9223372036854775808 then (⟨N,M⟩,0) else (⟨0,0⟩,5)):=by
 have h1:=uI (dO N) (dO M);have h2:=uJ (dO N) (dO M);rw [show (((dO (N:Int)).length:Nat):Int)=8 from rfl] at h1 h2;unfold kg;rw [show (((aX (dO (N:Int)++dO (M:Int))).size:Int) != 16)=false by rw [cy]; rfl,cond_false,h1,ad,yo hN,ad,h2,ad];by_cases hb:N<9223372036854775808
 ·rw [lx (by omega) (by omega),decide_eq_false (by omega),cond_false,ad,yo hN,ad,yo B,ad,lx (by omega) (by omega),if_pos hb]
 ·rw [show IntKind.i64.wrap (N:Int)=(N:Int)-18446744073709551616 by
   simp [IntKind.wrap,IntKind.bits,IntKind.signed]; omega,decide_eq_true (by omega),cond_true,if_neg hb]
theorem Ou {d:b7} (h:zW d):kg (aX (n3 d))=some (d,0):=by
 obtain⟨⟨a1,a2⟩,a3,a4⟩:=h;obtain⟨N,hN⟩:∃ N:Nat,d.y=N:=⟨d.y.toNat,by omega⟩;obtain⟨M,B⟩:∃ M:Nat,d.z=M:=⟨d.z.toNat,by omega⟩;unfold n3;rw [hN,B,Bx (by omega) (by omega),if_pos (by omega),<- hN,<- B]
theorem Kx {x y:List Int} (n:Int) (hn:n=x.length):cY ⟨aX (x++y),false⟩ n=some (aX x,⟨aX y,false⟩):=by
 subst hn;have h1:=uI x y;have h2:=uJ x y;unfold cY;dsimp only;rw [cond_false,decide_eq_false (by omega),cond_false,decide_eq_false (by rw [cy,bm]; omega),cond_false,h1,ad,h2,ad]
theorem Kz {xs:List ci} (h:∀ r∈xs,H0 r) (hn:xs.length<=1000000) {y:List Int}:loop (fun s:Int×ByteArray×Bool×(List ci)=>cX s.1 s.2.1 s.2.2.1 s.2.2.2) ((xs.length:Int),aX (xs.flatMap yH++y),false,([]:List ci))=some (aX y,false,xs) :=
 Ow (L:=_) (W:=yH) (xs:=xs) (F:=cX) (bZ _) (fun k x z hx _=>by
  have O:=bg hx;have hr:=h x (aK hx);unfold cX yH;rw [decide_eq_true (by omega),cond_true,jj,cond_true,fc,Ky hr.kind hr.text,ad];dsimp only;rw [Kx 16 rfl,ad];dsimp only;rw [Ou hr.dig,ad,dJ (by simp; omega)];simp only [gd,cond_true];rw [EJ O hn,bM hx]) (fun r b o=>rfl)
theorem HF (xs:List ci):xs.length*32<=(xs.flatMap yH).length:=by
 induction xs with
 | nil=>simp
 | cons x xs ih=>rw [u0,bm,j8,uL]; omega
theorem Fw (xs:List ai):xs.length*40<=(xs.flatMap gG).length:=by
 induction xs with
 | nil=>simp
 | cons x xs ih=>rw [u0,bm,j8,sI]; omega
theorem Mi {xs:List ai} (h:∀ x∈xs,qh x) (hn:xs.length<=1000000) {y:List Int} (hL:(xs.flatMap gG++y).length<=140000000000000):loop (fun s:(List ai)×Int×ByteArray×Bool=>ef s.1 s.2.1 s.2.2.1 s.2.2.2) (([]:List ai),(xs.length:Int),aX (xs.flatMap gG++y),false)=some (xs,aX y,false):=by
 refine dG (xs:=xs) (fun k=>(xs.take k,((xs.length-k:Nat):Int),aX ((xs.drop k).flatMap gG++y),false)) (by simp) (fun k x hx=>?_) ?_
 ·dsimp only;obtain⟨O,e⟩:=cm.1 hx;have h1:(xs.flatMap gG).length=((xs.take k).flatMap gG).length+((xs.drop k).flatMap gG).length:=by
   conv=>lhs; rw [<- pc k xs,s5,bm]
  rw [C9 O,e,u0] at h1 ⊢;rw [fc];generalize hz:List.flatMap gG (List.drop (k+1) xs)++y=z;have hzl:(gG x++z).length<=140000000000000:=by
   rw [<- hz];simp only [bm] at hL h1 ⊢; omega
  have hr:=h x (aK hx);have ht:=hr.text;have hv:=hr.value;have hf:=hr.few;have hm:=HF x.v;unfold gG pb at hzl;simp only [bm,bY,cM,fb] at hzl;unfold ef gG pb;simp only [fc];rw [decide_eq_true (by omega),cond_true,jj,cond_true,Ky hr.kind ht,ad];dsimp only;rw [Fn (z:=32) (c:=32) rfl hf (by omega) (by simp only [bm]; omega) (by simp only [bm,bY,cM]; omega),ad];dsimp only;rw [Kz hr.reads hf,ad];unfold dz e9;dsimp only;rw [y8 ⟨by omega,by omega⟩,ad];dsimp only;rw [Ho,ad];dsimp only;rw [y8 hr.cost,ad,dJ (by simp; omega)];simp only [gd,cond_true];rw [EJ O hn,bM hx]
 ·dsimp only;rw [uR,Da,List.flatMap_nil,s7,fK];rfl
theorem Bg {xs:List ai} (h:∀ x∈xs,qh x) (hn:xs.length<=4000) (hs:(gH xs).length<=140000000000000) (hw:bN xs=some (jf (gH xs))):cP (jf (gH xs))=some (xs,0):=by
 have e1:=rU xs;have hs2:=hs;rw [e1] at hs2;have m1:=Fw xs;unfold cP;rw [Fm hs,ad];dsimp only;rw [show ((0:Int) != 0)=false from rfl,cond_false];have e:aX (gH xs)=aX (dO 12++(dO xs.length++(xs.flatMap gG++[]))):=by unfold gH; rw [yF]
 rw [show bX ⟨aX (gH xs),false⟩=some (12,⟨aX (dO xs.length++(xs.flatMap gG++[])),false⟩) from by rw [e]; exact y8 ⟨by omega,by omega⟩,ad];dsimp only;rw [Fn (z:=40) (c:=40) rfl (by omega) (by omega) (by simp only [bm]; omega) (by simp only [bm,rp]; omega),ad];dsimp only;rw [Mi h (by omega) (by simp only [bm,rp]; omega),ad];unfold dx;dsimp only;rw [cond_false,hw,ad,beq_self_eq_true,eT,cond_false]
end
section
open Go.Lib hiding intOf
theorem Iv {N M:Nat} (h1:9223372036854775808<=N) (hNs:N<18446744073709551616) (hMs:M<18446744073709551616):gI (aX (dO N++dO M))=some (⟨0,0⟩,5):=by
 have hz:(aX (dO (N:Int)++dO (M:Int))).size=16:=by rw [cy]; rfl
 unfold gI;rw [show (((aX (dO (N:Int)++dO (M:Int))).size:Int) != 16)=false by rw [hz]; rfl,cond_false];rw [show loop (fun s:Int×Int×Int=>dB (aX (dO (N:Int)++dO (M:Int))) s.1 s.2.1 s.2.2) (0,0,0)=some ((N:Int),(M:Int)) from
  jx (B:=fun s:Int×Int×Int=>dB (aX (dO (N:Int)++dO (M:Int))) s.1 s.2.1 s.2.2) (fun k=>((k:Int),((N / 256 ^ (8-k):Nat):Int),((M / 256 ^ (16-k):Nat):Int))) 16 (by
   show ((0:Int),(0:Int),(0:Int))=(((0:Nat):Int),((N / 256 ^ 8:Nat):Int),((M / 256 ^ 16:Nat):Int));rw [qR hNs (by omega),qR hMs (by omega)]; rfl) (fun k O=>by
   dsimp only;unfold dB;have hg:=JB (N:=N) (M:=M) O;have hdiv:Int.tdiv ((k:Nat):Int) 8=((k / 8:Nat):Int):=rfl;rw [hz,decide_eq_true (by omega),cond_true,hdiv,lx (by omega) (by omega)];by_cases h8:k<8
   ·rw [show (((k / 8:Nat):Int)==0)=true by rw [show k / 8=0 by omega]; rfl,cond_true,bj,hg,ad,if_pos h8,Q1 (tL _ _),Gn (ww hNs (by omega)) (tL _ _),cL (by omega)];have:=uk N (7-k);rw [show 7-k+1=8-k by omega] at this;rw [<- this,show 8-(k+1)=7-k by omega,qR hMs (show 8<=16-k by omega),qR hMs (show 8<=16-(k+1) by omega)]
   ·rw [show (((k / 8:Nat):Int)==0)=false by rw [show k / 8=1 by omega]; rfl,cond_false,show (((k / 8:Nat):Int)==1)=true by rw [show k / 8=1 by omega]; rfl,cond_true,bj,hg,ad,if_neg h8,Q1 (tL _ _),Gn (ww hMs (by omega)) (tL _ _),cL (by omega)];have:=uk M (15-k);rw [show 15-k+1=16-k by omega] at this;rw [<- this,show 16-(k+1)=15-k by omega,show 8-(k+1)=8-k by omega]) (by
   dsimp only;unfold dB;rw [hz];show some (Fl.out (((N / 256 ^ 0:Nat):Int),((M / 256 ^ 0:Nat):Int)))=_;rw [zv,vT,vT]),ad]
 unfold iM;rw [Aw,show N / 9223372036854775808=1 by omega];rfl
theorem EM {s:ByteArray} (h:s.size=16):∃ N M:Nat,N<18446744073709551616/\M<18446744073709551616/\s=aX (dO N++dO M):=by
 have hl:=cM s;have hb:=vZ s;obtain⟨N,hN,e1⟩:=DQ (xO hb 8) (by rw [fe]; omega);obtain⟨M,B,e2⟩:=DQ (AI hb 8) (by rw [nr]; omega);exact⟨N,M,hN,B,by rw [<- e1,<- e2,pc,kx]⟩
theorem N4 (s:ByteArray):Ok (gI s) fun y=>y.2=0->zW y.1/\cr s=n3 y.1:=by
 by_cases h:s.size=16
 ·obtain⟨N,M,hN,B,rfl⟩:=EM h;by_cases hb:N<9223372036854775808
  ·have hd:zW ⟨(N:Int),(M:Int)⟩:=⟨⟨by show (0:Int)<=(N:Int); omega,by show (N:Int)<_; omega⟩,by show (0:Int)<=(M:Int); omega,by show (M:Int)<_; omega⟩;have e:=CT hd;have ew:n3 ⟨(N:Int),(M:Int)⟩=dO N++dO M:=rfl;have eb:=jk (GM ⟨(N:Int),(M:Int)⟩);rw [ew] at e eb;exact⟨(⟨(N:Int),(M:Int)⟩,0),e,fun _=>⟨hd,by rw [eb]; exact ew.symm⟩⟩
  ·have e:=Iv (N:=N) (M:=M) (by omega) hN B;exact⟨(⟨0,0⟩,5),e,fun h=>absurd (show (5:Int)=0 from h) (by decide)⟩
 ·unfold gI;rw [show ((s.size:Int) != 16)=true from bne_iff_ne.2 (by omega),cond_true];exact ah fun h=>absurd (show (5:Int)=0 from h) (by decide)
theorem Qc {r:aH}:Ok (eJ r) fun y=>zA r y.2 8/\yJ r y.2 (yH y.1)/\(y.2.h=false->zW y.1.a):=by
 unfold eJ ft;refine au P9 fun u ⟨h1,h2,h3⟩=>au (JE (r:=⟨u.2.q,u.2.h⟩) 16) fun v ⟨g1,g2,g3⟩=>au (N4 _) fun w hw=>?_;have h4:=zA.trans h1 g1;refine ax (fun h=>ah ⟨⟨h4.1,fun _=>rfl,.inl rfl⟩,(fun hb=>by cases hb),(fun hb=>by cases hb)⟩) (fun h=>?_);have hbad:∀ q:Bool,q=(w.2 != 0)->q=false->zW w.1/\cr v.1=n3 w.1:=fun q hq hf=>hw (by rw [hf] at hq; simpa using hq.symm);refine ah ⟨⟨h4.1,fun hb=>?_,?_⟩,fun hb=>?_,fun hb=>(hbad _ rfl hb).1⟩
 ·rw [h4.2.1 hb] at h; cases h
 ·rcases h4.2.2 with h5 | h5
  ·rw [h5] at h; cases h
  ·exact .inr h5
 ·obtain⟨e1,e2⟩:=hbad _ rfl hb;have:=yJ.trans h2 g2 h;rw [e2] at this;exact this
theorem N5 {r:aH} (hr:r.q.size<=100000000):Ok (kw r) fun y=>zA r y.2 8/\yJ r y.2 (dO y.1.length++y.1.flatMap yH)/\(y.2.h=false->∀ x∈y.1,zW x.a):=by
 unfold kw;refine au wd fun u ⟨h1,h2,h3⟩=>?_;obtain⟨y,e,hy,hi,hq⟩:=KH (F:=gr) (r:=u.2) (W:=yH) (Q:=fun x=>zW x.a) (n0:=u.1) (by have:=h1.1; omega) h3 (fun o n rest bad ho hs=>by
  unfold gr;refine ax (fun hn=>?_) (fun hn=>ah ⟨rfl,rfl,.inl (by have:=of_decide_eq_false hn; omega)⟩);refine ax (fun hb=>?_) (fun hb=>ah ⟨rfl,rfl,.inr (by simpa using hb)⟩);exact au Qc fun v ⟨g1,g2,g3⟩=>bO (dJ (by simp; omega)) (ah ⟨of_decide_eq_true hn,rfl,by simpa using hb,g1,v.1,rfl,g2,g3⟩))
 refine aI e (ah ⟨zA.trans h1 hy,fun hb=>?_,fun hb=>(hq hb).2⟩);have:=yJ.trans h2 hi hb;rw [(hq hb).1];exact this
theorem Ii {r:aH} (hr:r.q.size<=100000000):Ok (dw r) fun y=>zA r y.2 8/\yJ r y.2 (gG y.1)/\(y.2.h=false->∀ x∈y.1.v,zW x.a):=by
 unfold dw;refine au P9 fun u ⟨h1,h2,h3⟩=>au (N5 (r:=⟨u.2.q,u.2.h⟩) (by have:=h1.1; show u.2.q.size<=_; omega)) fun v ⟨g1,g2,g3⟩=>?_;refine au (Ni (r:=⟨v.2.q,v.2.h⟩)) fun w ⟨k1,k2⟩=>au (wd (r:=⟨w.2.q,w.2.h⟩)) fun a ⟨a1,a2,a3⟩=>ah ⟨zA.trans h1 (zA.trans g1 (zA.trans k1 a1)),?_,fun hb=>g3 (k2 (a2 hb).1).1⟩;have:=yJ.trans h2 (yJ.trans g2 (yJ.trans k2 a2));unfold gG;simpa only [fc] using this
theorem Gg {r:aH} (hr:r.q.size<=100000000):Ok (fH r) fun y=>zA r y.2 8/\yJ r y.2 (dO y.1.length++y.1.flatMap gG)/\(y.2.h=false->∀ x∈y.1,∀ q∈x.v,zW q.a):=by
 unfold fH;refine au wd fun u ⟨h1,h2,h3⟩=>?_;obtain⟨y,e,hy,hi,hq⟩:=KH (F:=ei) (r:=u.2) (W:=gG) (Q:=fun x=>∀ q∈x.v,zW q.a) (n0:=u.1) (by have:=h1.1; omega) h3 (fun o n rest bad ho hs=>by
  unfold ei;refine ax (fun hn=>?_) (fun hn=>ah ⟨rfl,rfl,.inl (by have:=of_decide_eq_false hn; omega)⟩);refine ax (fun hb=>?_) (fun hb=>ah ⟨rfl,rfl,.inr (by simpa using hb)⟩);exact au (Ii (r:=⟨rest,bad⟩) (by have:=h1.1; show rest.size<=_; omega)) fun v ⟨g1,g2,g3⟩=>bO (dJ (by simp; omega)) (ah ⟨of_decide_eq_true hn,rfl,by simpa using hb,g1,v.1,rfl,g2,g3⟩))
 refine aI e (ah ⟨zA.trans h1 hy,fun hb=>?_,fun hb=>(hq hb).2⟩);have:=yJ.trans h2 hi hb;rw [(hq hb).1];exact this
structure BX (L:Nat) (x:ai):Prop where
 text:x.d.t.size<=L
 value:x.u.size<=L
 few:x.v.length<=L
 texts:∀ r∈x.v,r.d.t.size<=L/\Eq r.a
theorem BX.b {L:Nat} {x:ai} (hL:L<=1000000) (h:BX L x):FR x:=⟨by have:=h.few; omega,by have:=h.text; omega,fun r hr=>by have:=(h.texts r hr).1; omega⟩
theorem BX.len {x:ai} (h:BX 150000 x):(gG x).length<=22506000000:=by
 have h1:=h.text;have h2:=h.value;have h3:=h.few;have h6:=oB (W:=yH) (c:=150032) x.v fun r hr=>by
  have:=(h.texts r hr).1;rw [uL]; omega
 rw [sI]; omega
theorem Iy {o:List Int} (hb:GE o) (ho:o.length<=150000):Ok (cw (jf o)) fun y=>(y.2=5/\y.1=[])∨(y.2=0/\gH y.1=o/\(∀ x∈y.1,BX 150000 x)/\y.1.length<=150000/\Lc y.1=true):=by
 have hso:(aX o).size=o.length:=cy o;unfold cw;refine aI (DU (by omega)) ?_;dsimp only;rw [show ((0:Int) != 0)=false from rfl,cond_false];refine au (wd (r:=⟨aX o,false⟩)) fun u1 ⟨a1,a2,a3⟩=>?_;have hs1:u1.2.q.size<=o.length:=by have:=a1.1; dsimp only at this; omega
 refine au (Gg (r:=⟨u1.2.q,u1.2.h⟩) (by show u1.2.q.size<=_; omega)) fun u2 ⟨b1,b2,b3⟩=>?_;have hall:=yJ.trans a2 b2;refine ax (fun _=>ah (.inl ⟨rfl,rfl⟩)) (fun h12=>?_);have h12:u1.1=12:=by simpa using h12
 refine au (Q:=fun u:Bool×aH=>u.1=true->u2.2.h=false/\u2.2.q.toList=[]) ?_ fun u5 hu=>ax (fun _=>ah (.inl ⟨rfl,rfl⟩)) (fun h5=>?_)
 ·unfold eI dH;dsimp only;refine ax (fun h=>ah fun he=>⟨by simpa using h,?_⟩) (fun h=>ah fun he=>by cases he);have he:(u2.2.q.toList==cg.toList)=true:=he;simpa using he
 ·obtain⟨g1,g2⟩:=hu (by simpa using h5);obtain⟨_,g3⟩:=hall g1;have g4:cr u2.2.q=[]:=by unfold cr; rw [g2]; rfl
  dsimp only at g3;rw [jk hb,g4,yF,h12] at g3;have ew:gH u2.1=o:=by rw [g3]; unfold gH; rfl
  have el:=rU u2.1;rw [ew] at el;have m1:=Fw u2.1;have hQ:∀ x∈u2.1,BX 150000 x:=fun x hx=>by
   have h1:=E8 (W:=gG) hx;rw [sI] at h1;have m2:=HF x.v;refine⟨by omega,by omega,by omega,fun r hr=>?_⟩;have h2:=E8 (W:=yH) hr;rw [uL] at h2;obtain⟨⟨d1,d2⟩,d3,d4⟩:=b3 g1 x hx r hr;exact⟨by omega,d2,d3,d4⟩
  have hvl:=NA (l:=u2.1) (fun x hx=>(hQ x hx).b (by omega)) (by omega);refine ax (fun _=>ah (.inl ⟨rfl,rfl⟩)) (fun h4=>aI hvl (ax (fun _=>ah (.inl ⟨rfl,rfl⟩)) (fun h6=>ah (.inr ⟨rfl,ew,hQ,by show u2.1.length<=_; omega,?_⟩))));have h4:=of_decide_eq_false h4;show Lc u2.1=true;unfold Lc;rw [decide_eq_true (by omega)];simpa using h6
theorem Mj (s:ByteArray):Ok (kg s) fun y=>Eq y.1:=by
 have h00:Eq ⟨0,0⟩:=⟨by show (0:Int)<_; omega,by show (0:Int)<=0; omega,by show (0:Int)<_; omega⟩;by_cases h:s.size=16
 ·obtain⟨N,M,hN,B,rfl⟩:=EM h;refine⟨_,Bx hN B,?_⟩;by_cases hb:N<9223372036854775808
  ·rw [if_pos hb];exact⟨by show (N:Int)<_; omega,by show (0:Int)<=(M:Int); omega,by show (M:Int)<_; omega⟩
  ·rw [if_neg hb]; exact h00
 ·unfold kg;rw [show ((s.size:Int) != 16)=true from bne_iff_ne.2 (by omega),cond_true];exact ah h00
theorem Gs {o:List Int} (ho:o.length<=150000):Ok (cP (jf o)) fun y=>(y.2=5/\y.1=[])∨(y.2=0/\(∀ x∈y.1,BX 150000 x)/\y.1.length<=150000/\bN y.1=some (jf o)):=by
 have hso:(aX o).size=o.length:=cy o;unfold cP;refine aI (Fm (by omega)) ?_;dsimp only;rw [show ((0:Int) != 0)=false from rfl,cond_false];refine au (C0 (r:=⟨aX o,false⟩)) fun u1 h1=>?_;dsimp only at h1;refine au (Hq (r:=⟨u1.2.S,u1.2.h⟩) (z:=40) (c:=40) rfl (by omega) (by show u1.2.S.size<=_; omega)) fun u3 ⟨c1,c2,c3⟩=>?_;dsimp only at c2 c3;refine bP (fun (k:Nat) (s:(List ai)×Int×ByteArray×Bool)=>s.2.1=u3.1-k/\(k:Int)<=u3.1/\s.2.2.1.size<=150000/\s.1.length=k/\∀ x∈s.1,BX 150000 x) (fun y=>y.1.length<=150000/\∀ x∈y.1,BX 150000 x) (u3.1.toNat+1) ⟨by show u3.1=u3.1-((0:Nat):Int); omega,by omega,by show u3.2.S.size<=_; omega,rfl,(fun x hx=>by cases hx)⟩ ?_ ?_
 ·rintro k ⟨l,n,g,b⟩ O ⟨i1,i2,i3,i4,i5⟩;dsimp only at i1 i2 i3 i4 i5 ⊢;unfold ef;refine ax (fun hn=>?_) (fun _=>ah ⟨by show l.length<=_; omega,i5⟩);refine ax (fun _=>?_) (fun _=>ah ⟨by show l.length<=_; omega,i5⟩);have hn:=of_decide_eq_true hn;refine au (Ns (r:=⟨g,b⟩)) fun q ⟨k1,k2⟩=>?_;dsimp only at k1 k2;refine au (Hq (r:=⟨q.2.S,q.2.h⟩) (z:=32) (c:=32) rfl (by omega) (by show q.2.S.size<=_; omega)) fun c ⟨m1,m2,m3⟩=>?_;dsimp only at m2 m3;refine au (Ox (Q:=fun r:ci=>r.d.t.size<=150000/\Eq r.a) (F:=cX) (L:=150000) (n0:=c.1) m1 (by omega) (by omega) fun n g b l hl hg=>?_) fun w ⟨w2,w3,w4⟩=>?_
  ·unfold cX;refine ax (fun hn=>?_) (fun _=>ah ⟨rfl,rfl⟩);refine ax (fun _=>?_) (fun _=>ah ⟨rfl,rfl⟩);refine au (Ns (r:=⟨g,b⟩)) fun k ⟨k1,k2⟩=>au (Gt (r:=⟨k.2.S,k.2.h⟩)) fun t ⟨t1,t2⟩=>au (Mj _) fun d hd=>bO (dJ (by simp; omega)) (ah ⟨of_decide_eq_true hn,rfl,?_,_,rfl,?_,hd⟩)
   ·dsimp only at k1 t1 ⊢; omega
   ·dsimp only at k2 ⊢; omega
  unfold dz e9;refine au (C0 (r:=⟨w.1,w.2.1⟩)) fun a1 e1=>au (Gt (r:=⟨a1.2.S,a1.2.h⟩)) fun t ⟨t1,t2⟩=>au (C0 (r:=⟨t.2.S,t.2.h⟩)) fun a2 e2=>bO (dJ (by simp; omega)) (ah ?_);dsimp only at e1 t1 t2 e2;refine⟨by omega,by show IntKind.i64.wrap (n-1)=_; rw [lx (by omega) (by omega)]; omega,by omega,by show a2.2.S.size<=_; omega,by simp; omega,fun x hx=>?_⟩;rcases de.1 hx with hx | hx
  ·exact i5 x hx
  ·rw [eU] at hx;subst hx;exact⟨by show q.1.t.size<=_; omega,by show t.1.size<=_; omega,by show w.2.2.length<=_; omega,w4⟩
 ·rintro⟨l,g,b⟩ ⟨hl,hQ⟩;dsimp only at hl hQ;unfold dx;refine ax (fun _=>ah (.inl ⟨rfl,rfl⟩)) (fun _=>?_);obtain⟨y,hy⟩:∃ y,bN l=some y:=by
   rcases xK (l:=l) (fun x hx=>(hQ x hx).b (by omega)) (fun x hx r hr=>((hQ x hx).texts r hr).2) (by omega) (fun x hx _=>(hQ x hx).len) (fun n _ h=>by omega) with⟨_,_,h⟩|⟨_,_,_,_,_,_,h⟩
   ·exact⟨_,h⟩
   ·exact⟨_,h⟩
  refine aI hy (ax (fun _=>ah (.inl ⟨rfl,rfl⟩)) (fun h=>ah (.inr ⟨rfl,hQ,hl,?_⟩)));rw [hy];have h:(y.toList==(jf o).toList)=true:=by simpa using h
  rw [O2] at h;rw [of_decide_eq_true h]
def FQ (z:ByteArray):Prop:=∃ l e,cw z=some (l,e)/\cP z=some (l,e)/\l.length<=1000000/\∀ x∈l,x.v.length<=1000000
theorem DR:([]:List ai).length<=1000000/\∀ x∈([]:List ai),x.v.length<=1000000:=⟨by simp,fun x hx=>by cases hx⟩
theorem pr {z:ByteArray} (hz:z.size<=150000):FQ z:=by
 rcases Qm (z:=z) (by omega) with⟨h1,h2⟩|⟨h1,h2⟩|⟨o,hb,hlo,rfl⟩
 ·refine⟨[],8,?_,?_,DR⟩
  ·unfold cw; rw [h1]; rfl
  ·unfold cP; rw [h2]; rfl
 ·refine⟨[],46,?_,?_,DR⟩
  ·unfold cw; rw [h1]; rfl
  ·unfold cP; rw [h2]; rfl
 ·have key:∀ l:List ai,(∀ x∈l,BX 150000 x)->l.length<=150000->(Lc l=false/\cA l=some ⟨#[]⟩/\bN l=some ⟨#[]⟩)∨(Lc l=true/\(∀ x∈l,qh x)/\l.length<=4000/\(gH l).length<=140000000000000/\cB l=some true/\cA l=some (jf (gH l))/\bN l=some (jf (gH l))):=fun l hQ hl =>
   xK (fun x hx=>(hQ x hx).b (by omega)) (fun x hx r hr=>((hQ x hx).texts r hr).2) (by omega) (fun x hx _=>(hQ x hx).len) (fun n _ h=>by omega)
  obtain⟨⟨b,e⟩,h1,h2⟩:=Iy hb (by omega);obtain⟨⟨v,f⟩,g1,g2⟩:=Gs (o:=o) (by omega);dsimp only at h2 g2;rcases h2 with⟨rfl,rfl⟩|⟨rfl,hw,hQ,hl,hv⟩
  ·rcases g2 with⟨rfl,rfl⟩|⟨rfl,hQ,hl,hw⟩
   ·exact⟨_,_,h1,g1,DR⟩
   ·exfalso;rcases key v hQ hl with⟨_,_,h⟩|⟨_,hrd,h4,hsz,hvl,_,h⟩
    ·rw [h] at hw;have:=congrArg ByteArray.size (cJ hw);rw [pO] at this;have h0:(ByteArray.mk #[]).size=0:=rfl;omega
    ·rw [h] at hw;have:=yK hrd h4 hsz hvl;rw [cJ hw,h1] at this;have h50:(5:Int)=0:=congrArg Prod.snd (cJ this);omega
  ·rcases key b hQ hl with⟨hv2,_⟩|⟨_,hrd,h4,hsz,hvl,_,h⟩
   ·rw [hv] at hv2; cases hv2
   ·have:=Bg hrd h4 hsz h;rw [hw] at this;exact⟨_,_,h1,this,by omega,fun x hx=>by have:=(hQ x hx).few; omega⟩
end
section
open Go.Lib hiding intOf
structure sM (l:List aS) (x:ai):Prop where
 cost:1<=x.j/\x.j<=30000
 key:∃ n,n<l.length/\x.d=rk l n
 value:x.u.size<=1000
 few:x.v.length<=3
 reads:∀ r∈x.v,jB l r.d/\0<=r.a.y/\r.a.y<=1000/\0<=r.a.z/\r.a.z<18446744073709551616
section
variable {l:List aS} {x y:ai}
theorem AC (C:bD l) (h:sM l x):di x=some true:=by
 have hl:=C.high;obtain⟨h1,h2⟩:=And.intro h.few h.reads;obtain⟨n,hn,e⟩:=h.key;have hv:=h.value;have hc:=h.cost;unfold di;rw [dM (r:=Fl.go ()) x.v.length (fun k O=>by
  obtain⟨g1,g2,_⟩:=h2 _ (gX O);unfold cG;rw [dlt O,cond_true,bE O,ad,g1.valid hl,ad,eT,cond_false,decide_eq_false (by omega),cond_false,cL (by omega)]) (by
  unfold cG; rw [bS]; rfl),ad]
 show eg x=_;unfold eg cF;rw [e,Bu (by omega),sG,ad,cond_true,ad,jj,cond_true,decide_eq_true (by omega),decide_eq_true (by omega),decide_eq_true (by omega)]; rfl
theorem Gd (C:bD l) (h:sM l x):kj x=some true:=by
 have hl:=C.high;obtain⟨h1,h2⟩:=And.intro h.few h.reads;obtain⟨n,hn,e⟩:=h.key;have hv:=h.value;have hc:=h.cost;unfold kj;rw [dM (r:=Fl.go ()) x.v.length (fun k O=>by
  obtain⟨g1,g2,_⟩:=h2 _ (gX O);unfold eE;rw [dlt O,cond_true,bE O,ad,g1.kvalid hl,ad,eT,cond_false,decide_eq_false (by omega),cond_false,cL (by omega)]) (by
  unfold eE; rw [bS]; rfl),ad]
 show iN x=_;unfold iN eC;rw [e,y7 (by omega),DK,sG,ad,cond_true,ad,jj,cond_true,decide_eq_true (by omega),decide_eq_true (by omega),decide_eq_true (by omega)]; rfl
theorem Id (C:bD l) {xs:List ai} (hn:xs.length<=1000) (h:∀ x∈xs,sM l x):cB xs=some true:=by
 unfold cB;rw [dM (r:=Fl.go ()) xs.length (fun k O=>by
  unfold df;rw [dlt O,cond_true,bE O,ad,Gd C (h _ (gX O)),ad,eT,cond_false,cL (by omega)]) (by
  unfold df; rw [bS]; rfl),ad]
 rfl
theorem Be (C:bD l) (h:sM l x):Ok (bN [x]) fun _=>True:=by
 have hl:=C.high;obtain⟨h1,h2⟩:=And.intro h.few h.reads;obtain⟨n,hn,e⟩:=h.key;have hv:=h.value;have hg:jB l x.d:=.inr ⟨n,hn,e⟩;unfold bN;rw [decide_eq_false (by simp),cond_false];refine au (J3 _) fun u hu=>au (J3 _) fun v hv2=>bO (mf (by omega)) ?_;refine bP (fun (k:Nat) (s:ByteArray×Int)=>s.2=k/\s.1.size<=2500*(k+1)) (fun r=>∃ s:ByteArray,r = .go s/\s.size<=5000) 1 ⟨rfl,by rw [j7]; omega⟩ ?_ ?_
 ·rintro k ⟨s,i⟩ O ⟨rfl,hs⟩;dsimp only at hs ⊢;unfold cN;refine ax (fun hlt=>?_) (fun _=>ah ⟨s,rfl,by omega⟩);have hlt:k<[x].length:=by have:=of_decide_eq_true hlt; omega
  obtain rfl:k=0:=by simp at hlt; omega
  refine aI (bE hlt) ?_;show Ok ((di x).bind _) _;refine aI (AC C h) ?_;simp only [eT,cond_false];refine au (CM hl hg) fun u2 hu2=>au (J3 _) fun u3 hu3=>bO (mf (by omega)) (bO (mf (by rw [j7]; omega)) ?_);refine bP (fun (j:Nat) (t:ByteArray×Int)=>t.2=j/\t.1.size<=2600+50*j) (fun t=>t.size<=2900) x.v.length ⟨rfl,by rw [j7,j7]; omega⟩ ?_ ?_
  ·rintro j ⟨t,i⟩ hj ⟨rfl,ht⟩;dsimp only at ht ⊢;unfold dU;refine ax (fun hlt2=>?_) (fun _=>ah (by show t.size<=2900; omega));have hlt2:j<x.v.length:=by have h9:(j:Int)<(x.v.length:Int):=of_decide_eq_true hlt2; omega
   obtain⟨g1,_⟩:=h2 _ (gX hlt2);refine aI (bE hlt2) (au (CM hl g1) fun a ha=>au (CC _) fun c hc=>bO (mf (by omega)) (bO (mf (by rw [j7]; omega)) (ah ⟨hlt2,cL (by omega),?_⟩)));show (t++(a++c)).size<=_;rw [j7,j7]; omega
  ·intro t ht;unfold iw iv;refine au (KP (s:=x.u) (by omega)) fun a ha=>au (J3 _) fun c hc=>bO (mf (by omega)) (bO (mf (by rw [j7]; omega)) (ah ⟨by omega,rfl,?_⟩));show (t++(a++c)).size<=_;rw [j7,j7]; omega
 ·rintro r ⟨s,rfl,hs⟩;show Ok (eO s) _;unfold eO;exact au (Mk (by omega)) fun _ _=>ah trivial
theorem AD (C:bD l) (hx:sM l x) (hy:sM l y):Ok (rS x y) fun _=>True:=by
 unfold rS;refine aI (oq _ _) (ax (fun _=>ah trivial) (fun _=>au (Be C hx) fun u _=>au (Be C hy) fun v _=>?_));exact aI (v:=Lib.compareBytes u.toList v.toList) rfl (ah trivial)
theorem In (C:bD l) {a b:List ai} (ha:∀ x∈a,sM l x) (hb:∀ x∈b,sM l x) (hn:a.length+b.length<=500):Ok (qM a b) fun y=>y.1.length<=a.length+b.length/\(∀ x∈y.1,sM l x):=by
 have hab:∀ x∈a++b,sM l x:=fun x hx=>by
  rcases de.1 hx with hx | hx
  ·exact ha x hx
  ·exact hb x hx
 have hlen:(a++b).length<=500:=by rw [bm]; exact hn
 unfold qM;refine bO (dJ (by simp; omega)) (bO (dJ (by simp; omega)) ?_);refine aI (v:=Fl.go ()) (dM (r:=Fl.go ()) (a++b).length (fun k O=>?_) ?_) ?_
 ·unfold l7;simp only [s7];rw [dlt O,cond_true,bE O,ad,AC C (hab _ (gX O)),ad,eT,cond_false,cL (by omega)]
 ·unfold l7;simp only [s7];rw [bS]; rfl
 show Ok (l6 a b) _;unfold l6;refine bO (dJ (by simp; omega)) (bO (dJ (by simp; omega)) ?_);refine bP (fun (k:Nat) (s:(List ai)×Int)=>s.2=k/\s.1.length<=k/\∀ x∈s.1,sM l x) (fun r=>r.length<=(a++b).length/\∀ x∈r,sM l x) (a++b).length ⟨rfl,bZ _,fun x hx=>absurd hx iJ⟩ ?_ ?_
 ·rintro k ⟨o,i⟩ O ⟨rfl,h2,h3⟩;dsimp only at h2 h3 ⊢;unfold o9;simp only [s7];refine ax (fun hlt=>?_) (fun _=>ah ⟨by show o.length<=_; omega,h3⟩);have hlt:k<(a++b).length:=by have:=of_decide_eq_true hlt; omega
  have hx:=hab _ (gX hlt);refine aI (bE hlt) ?_;refine bP (fun (j:Nat) (s:Int)=>s=j/\j<=o.length) (fun r=>∃ j:Nat,r=j/\j<=o.length) o.length ⟨rfl,bT _⟩ ?_ ?_
  ·rintro j s hj ⟨rfl,hj2⟩;unfold o8;refine ax (fun hlt2=>?_) (fun _=>ah ⟨j,rfl,hj2⟩);have hlt2:j<o.length:=by have:=of_decide_eq_true hlt2; omega
   refine aI (bE hlt2) (au (AD C (h3 _ (gX hlt2)) hx) fun u _=>ax (fun _=>ah ⟨hlt2,cL (by omega),hlt2⟩) (fun _=>ah ⟨j,rfl,hj2⟩))
  ·rintro r ⟨j,rfl,hj⟩;have hj3:∀ q,Ok (jZ o (k:Int) (a++b)[k] (j:Int) q) fun r=>match r with
     | .go s'=>k<(a++b).length/\(s'.2=((k+1:Nat):Int)/\s'.1.length<=k+1/\∀ x∈s'.1,sM l x)
     | .out r=>r.length<=(a++b).length/\∀ x∈r,sM l x:=fun q=>by
    unfold jZ l5;refine ax (fun _=>?_) (fun _=>ah ⟨hlt,cL (by omega),by show o.length<=k+1; omega,h3⟩);refine aI (tZ hj) (aI (yu hj) ?_);refine bO (dJ (by simp; omega)) (bO (dJ (by simp; omega)) (bO (dJ (by simp; omega)) (ah ⟨hlt,cL (by omega),by simp; omega,fun x hm=>?_⟩)));rcases de.1 hm with hm | hm
    ·rcases de.1 hm with hm | hm
     ·exact h3 x (HX (by simpa using hm))
     ·rw [eU.1 hm]; exact hx
    ·exact h3 x (HW hm)
   unfold o7;refine ax (fun _=>(hj3 _).mono fun y hy=>by cases y <;> exact hy) (fun hne=>?_);have hlt2:j<o.length:=by
    have:((j:Int)==(o.length:Int))=false:=hne;have h5:(j:Int)≠(o.length:Int):=by simpa using this
    omega
   exact aI (bE hlt2) (au (AD C (h3 _ (gX hlt2)) hx) fun u _=>(hj3 _).mono fun y hy=>by cases y <;> exact hy)
 ·rintro r ⟨hr,hr2⟩;unfold o6;rw [bm] at hr;rw [decide_eq_false (by omega),cond_false,EF (by omega) fun x hx=>by have:=(hr2 x hx).few; omega];exact ah ⟨hr,hr2⟩
end
section
variable {l:List aS} {b:ar}
theorem AP (C:bD l) (hB:ke l b) {m:aA} (hm:m∈b.s) {β:Type} {g:Bool×(List ci)->Option β} {R:β->Prop}
  (k:∀ r:Bool×(List ci),r.2.length<=3/\(∀ q∈r.2,jB l q.d/\0<=q.a.y/\q.a.y<=1000/\0<=q.a.z/\q.a.z<18446744073709551616)->Ok (g r) R) :
  Ok ((loop (fun s:Bool×Int×(List ci)=>jY b m s.1 s.2.1 s.2.2) ((m.l:Int)==b.r,0,([]:List ci))).bind g) R:=by
 have hl:=C.high;have hm':=hB.recs m hm;have hrl:=hm'.reads;refine bP (fun (j:Nat) (s:Bool×Int×(List ci))=>s.2.1=j/\s.2.2.length=j/\(∀ q∈s.2.2,jB l q.d/\0<=q.a.y/\q.a.y<=1000/\0<=q.a.z/\q.a.z<18446744073709551616)) (fun r=>r.2.length<=3/\(∀ q∈r.2,jB l q.d/\0<=q.a.y/\q.a.y<=1000/\0<=q.a.z/\q.a.z<18446744073709551616)) m.v.length ⟨rfl,rfl,fun q hq=>absurd hq iJ⟩ ?_ k;rintro j ⟨a,i,xs⟩ hj ⟨rfl,h2,h3⟩;dsimp only at h2 h3 ⊢;unfold jY;refine ax (fun hlt=>?_) (fun hlt=>ah ⟨by show xs.length<=3; omega,h3⟩);have hlt:j<m.v.length:=by have:=of_decide_eq_true hlt; omega
 have hg:=hm'.good _ (gX hlt);refine aI (bE hlt) (aI (JQ hl hB hg) ?_);have hj4:∀ q:Bool,Ok (hS (j:Int) xs m.v[j] (JO b m.v[j],OP b m.v[j]) q) fun r=>match r with
   | .go s'=>j<m.v.length/\(s'.2.1=((j+1:Nat):Int)/\s'.2.2.length=j+1/\(∀ q∈s'.2.2,jB l q.d/\0<=q.a.y/\q.a.y<=1000/\0<=q.a.z/\q.a.z<18446744073709551616))
   | .out r=>r.2.length<=3/\(∀ q∈r.2,jB l q.d/\0<=q.a.y/\q.a.y<=1000/\0<=q.a.z/\q.a.z<18446744073709551616):=fun q=>by
  unfold hS;have O:=JP hl hB m.v[j];have hlt2:=(lp c0 (JO b m.v[j]).toList).isLt;refine aI (rT (s:=JO b m.v[j]) (by omega)) (bO (dJ (by simp; omega)) (ah ⟨hlt,cL (by omega),by simp [h2],fun z hz=>?_⟩));rcases de.1 hz with hz | hz
  ·exact h3 z hz
  ·rw [eU.1 hz];refine⟨hg,?_,?_,?_,?_⟩
   ·show (0:Int)<=((JO b m.v[j]).size:Int); omega
   ·show ((JO b m.v[j]).size:Int)<=1000; omega
   ·show (0:Int)<=((lp c0 (JO b m.v[j]).toList).toNat:Int); omega
   ·show ((lp c0 (JO b m.v[j]).toList).toNat:Int)<18446744073709551616; omega
 exact ax (fun ha=>(hj4 _).mono fun y hy=>by cases y <;> exact hy) (fun _=>(hj4 _).mono fun y hy=>by cases y <;> exact hy)
theorem EE (C:bD l) (hB:ke l b):Ok (nn b) fun y=>y.length<=8/\∀ x∈y,sM l x:=by
 have hl:=C.high;have hnr:=hB.nrec;unfold nn;refine bP (fun (j:Nat) (s:(List ai)×Int)=>s.2=j/\s.1.length<=j/\∀ x∈s.1,sM l x) (fun r=>r.length<=8/\∀ x∈r,sM l x) b.s.length ⟨rfl,bZ _,fun x hx=>absurd hx iJ⟩ ?_ (fun r hr=>ah hr);rintro j ⟨o,i⟩ hj ⟨rfl,h2,h3⟩;dsimp only at h2 h3 ⊢;unfold mB;refine ax (fun hlt=>?_) (fun _=>ah ⟨by show o.length<=8; omega,h3⟩);have hlt:j<b.s.length:=by have:=of_decide_eq_true hlt; omega
 have hm:=gX hlt;refine aI (bE hlt) (AP C hB hm fun r hr=>?_);unfold jX jW;refine ax (fun ha=>bO (dJ (by simp; omega)) (ah ⟨hlt,cL (by omega),by simp; omega,fun x hx=>?_⟩)) (fun _=>ah ⟨hlt,cL (by omega),by show o.length<=j+1; omega,h3⟩);rcases de.1 hx with hx | hx
 ·exact h3 x hx
 ·rw [eU.1 hx];have hm':=hB.recs _ hm;exact⟨hm'.cost,hm'.key,hm'.value,hr.1,hr.2⟩
theorem B3 (C:bD l) (hB:ke l b) (hrev:b.r<=1000) {d:List Int} {i:Int} (hd:cz d i):Ok (lB ⟨d,i⟩ l b) fun y=>y.1.length<=24/\(∀ x∈y.1,sM l x)/\cz y.2.L y.2.i1:=by
 unfold lB;refine au (dZ hd (by omega) (by omega)) fun y ⟨y1,y2,d1⟩=>?_;rw [lx (by omega) (by omega)];refine bP (fun (k:Nat) (s:(List ai)×Int×(List Int)×Int×Int×(List be)×(List aA))=>s.2.1=1+y.1-k/\0<=s.2.1/\s.1.length<=8*k/\(∀ x∈s.1,sM l x)/\cz s.2.2.1 s.2.2.2.1/\ke l (ar.mk s.2.2.2.2.1 s.2.2.2.2.2.1 s.2.2.2.2.2.2)/\s.2.2.2.2.1<=1000+k) (fun r=>r.1.length<=24/\(∀ x∈r.1,sM l x)/\cz r.2.1 r.2.2) 3 ⟨by simp,by show 0<=1+y.1; omega,by show 0<=_; omega,fun x hx=>absurd hx iJ,d1,hB,by show b.r<=_; omega⟩ ?_ (fun r hr=>ah hr);rintro k ⟨o,c,d,i,rev,ins,recs⟩ O ⟨g1,g2,g3,g4,g5,g6,g8⟩;dsimp only at g1 g2 g3 g4 g5 g6 g8 ⊢;unfold lr;refine ax (fun hc=>?_) (fun _=>ah ⟨by show o.length<=24; omega,g4,g5⟩);have hc:=of_decide_eq_true hc;refine au (A1 C g5 (by omega) (by omega)) fun z ⟨z1,z2,d2⟩=>au (Bp C g6 z1 z2) fun u hu=>au (EE C hu.ok) fun a ⟨a1,a2⟩=>au (In C g4 a2 (by omega)) fun m ⟨m1,m2⟩=>au (xa d2 (by omega) (by omega)) fun w ⟨w1,w2,d3⟩=>?_;have hur:u.1.r=rev:=hu.rev;refine au (w8 C hu.ok (by rw [hur]; omega) w1 (by omega)) fun v ⟨v1,v2⟩=>?_;rw [hur] at v2;exact ah ⟨by omega,by show IntKind.i64.wrap (c-1)=_; rw [lx (by omega) (by omega)]; omega,by show 0<=IntKind.i64.wrap (c-1); rw [lx (by omega) (by omega)]; omega,by show m.1.length<=_; omega,m2,d3,v1,by show v.1.r<=_; omega⟩
theorem Dk (hl:l.length<=8) {x:ai} (h:sM l x):qh x/\(gG x).length<=1200:=by
 obtain⟨n,hn,e⟩:=h.key;have hg:jB l x.d:=.inr ⟨n,hn,e⟩;have ht:=py hl hg;have hv:=h.value;have hc:=h.cost;have h1:=h.few;have h7:=oB (W:=yH) (c:=40) x.v fun r hr=>by
  have:=py hl (h.reads r hr).1;rw [uL]; omega
 refine⟨⟨hg.kind,by omega,by omega,fun r hr=>?_,by omega,⟨by omega,by omega⟩⟩,by rw [sI]; omega⟩;obtain⟨g1,g2,g3,g4,g5⟩:=h.reads r hr;have:=py hl g1;exact⟨g1.kind,by omega,⟨g2,by omega⟩,g4,g5⟩
theorem IZ (hl:l.length<=8) {xs:List ai} (hn:xs.length<=24) (h:∀ x∈xs,sM l x):(∀ x∈xs,qh x)/\(gH xs).length<=100000:=by
 have h7:=oB (W:=gG) (c:=1200) xs fun x hx=>(Dk hl (h x hx)).2;exact⟨fun x hx=>(Dk hl (h x hx)).1,by rw [rU]; omega⟩
end
end
section
open Go.Lib hiding intOf
theorem Oe {m:Option Bool} (h:Ok m fun r=>r=true):m=some true:=by obtain⟨v,e,rfl⟩:=h; exact e
section
variable {l:List aS} {b:ar}
theorem Gu {r:aA} (h:Rm r.v.length):m9 r r=some true:=by
 unfold m9 dF;rw [Cr h];simp
theorem IE {recs:List aA} (h:IX recs):sv recs recs=some true:=by
 have hl:=h.1;unfold Rm at hl;unfold sv;rw [show (((recs.length:Int):Int) != (recs.length:Int))=false by simp,cond_false];refine fL (dM (r:=Fl.go ()) recs.length (fun k O=>?_) ?_) rfl
 ·unfold na;rw [dlt O,cond_true,bE O,ad,ad,Gu (h.2 _ (gX O)),cL (by omega)]; rfl
 ·unfold na;rw [bS]; rfl
theorem IF (h:IX b.s) (hi:Rm b.i.length):sw b b=some true:=by
 unfold Rm at hi;unfold sw;rw [show ((b.r:Int) != b.r)=false by simp,cond_false,show (((b.i.length:Int):Int) != (b.i.length:Int))=false by simp,cond_false,IE h];simp only [ad,eT,cond_false];refine fL (dM (r:=Fl.go ()) b.i.length (fun k O=>?_) ?_) rfl
 ·unfold nb;rw [dlt O,cond_true,bE O,ad,ad,cL (by omega)];simp
 ·unfold nb;rw [bS]; rfl
end
theorem E3 {t:List Int} (h:¬ t.length<=400):nT t=some false:=by
 unfold nT;rw [decide_eq_false (by omega)]
theorem Gh {t:List Int} (h:t.length<=400):nT t=some true:=by
 unfold nT;rw [decide_eq_true (by omega)]
end
section
open Go.Lib hiding intOf
theorem Ot:IX ([]:List aA):=⟨by unfold Rm; simp,fun r hr=>absurd hr iJ⟩
theorem GL:ke [] ⟨0,[],[]⟩:=⟨by decide,fun x hx=>absurd hx iJ,rn,fun x hx=>absurd hx iJ,rn⟩
theorem GJ:gR=some true:=by
 have hb:=Lp (l:=[]) (by simp) GL;have hv:=Kq GL (by simp);have hn:∀ x∈([]:List ai),qh x:=fun x hx=>absurd hx iJ;have hz:(gH []).length<=140000000000000:=by rw [rU]; simp
 have hvl:cB []=some true:=by
  unfold cB;rw [dM (r:=Fl.go ()) 0 (fun k O=>absurd O (by omega)) rfl]; rfl
 unfold gR;rw [Ln hb hv,ad,H5 hb hv,ad,Dl hn (by simp) hz hvl,ad,yK hn (by simp) hz hvl,ad,pO,show (wU ⟨0,[],[]⟩).length=32 by rw [zj]; rfl];dsimp only;rw [IF (b:=⟨0,[],[]⟩) Ot (by unfold Rm; simp)];rfl
theorem Dm {xs:List ai} (hn:xs.length<=1000000) (h:∀ x∈xs,x.v.length<=1000000):gC xs xs=some true:=by
 unfold gC;rw [show (((xs.length:Int):Int) != (xs.length:Int))=false by simp,cond_false];refine fL (dM (r:=Fl.go ()) xs.length (fun k O=>?_) ?_) rfl
 ·have hr:=h _ (gX O);have e:nk xs[k] xs[k]=some true:=by
   unfold nk;rw [show ((xs[k].d.k:Int)==xs[k].d.k&&xs[k].d.t.toList==xs[k].d.t.toList)=true by simp,beq_self_eq_true,show ((xs[k].j:Int) != xs[k].j)=false by simp,show (((xs[k].v.length:Int):Int) != (xs[k].v.length:Int))=false by simp];simp only [eT,cond_false];refine fL (dM (r:=Fl.go ()) xs[k].v.length (fun j hj=>?_) ?_) rfl
   ·unfold jV;rw [dlt hj,cond_true,bE hj,ad,ad,cL (by omega)];simp
   ·unfold jV;rw [bS]; rfl
  unfold fa;rw [dlt O,cond_true,bE O,ad,ad,e,cL (by omega)]; rfl
 ·unfold fa;rw [bS]; rfl
end
section
open Go.Lib hiding intOf
theorem D9 {s:ByteArray} {a b:Int} (h0:0<=a) (h1:a<=b) (h2:b<=s.size):Ok (kz s a b) fun y=>(y.size:Int)=b-a:=by
 obtain⟨A,rfl⟩:∃ A:Nat,a=A:=⟨a.toNat,by omega⟩;obtain⟨B,rfl⟩:∃ B:Nat,b=B:=⟨b.toNat,by omega⟩;have hl:=cM s;have:=sH (l:=cr s) (a:=A) (b:=B) (by omega) (by omega);rw [kx] at this;refine⟨_,this,?_⟩;show ((aX _).size:Int)=_;rw [cy,nr,fe]; omega
theorem Lr {n:Nat} (h:n<=140737488355328):Nat.ble n 140737488355328=true:=tw h
theorem yx {s:ByteArray} (h:s.size<=100000000):Ok (gK s) fun y=>y.size=s.size+16:=by
 have hs:s.size<=140000000000000:=by omega
 obtain⟨d1,d2,d3⟩:=yP hs;have h16:(aX (n3 (EK s))).size=16:=by rw [cy]; rfl
 unfold gK;refine aI (rT hs) (aI (tT d1 ⟨d2,d3⟩) (bO (Lr (by omega)) (ah ?_)));rw [j7,h16]
theorem J5 (x:Int):(aX [x]).size=1:=by rw [cy]; rfl
theorem HA {s:ByteArray} {what at_ by_:Int} (h:s.size<=1000000):Ok (mn s what at_ by_) fun y=>y.size<=s.size+40:=by
 have h1:=J5 (IntKind.u8.wrap by_);unfold mn;refine ax (fun _=>ah (by omega)) (fun h17=>?_);have h17:=of_decide_eq_false h17;have hw:IntKind.i64.wrap ((s.size:Int)-16)=(s.size:Int)-16:=lx (by omega) (by omega);rw [hw];refine au (D9 (s:=s) (rj 0) (by omega) (by omega)) fun body hb=>?_;have hb:(body.size:Int)=s.size-16:=by omega
 refine au (Gl at_ (m:=(body.size:Int)) (by omega) (by omega)) fun i ⟨i0,i1⟩=>au (Gl what (m:=7) (by omega) (by omega)) fun m _=>?_;have hi:IntKind.i64.wrap (i+1)=i+1:=lx (by omega) (by omega);rw [hi];refine ax (fun _=>?_) (fun _=>ax (fun _=>?_) (fun _=>ax (fun _=>?_) (fun _=>ax (fun _=>?_) (fun _=>ax (fun _=>?_) (fun _=>ax (fun _=>?_) (fun _=>ah (by omega)))))))
 ·refine au (D9 (s:=s) (rj 0) i0 (by omega)) fun a ha=>au (D9 (s:=s) (a:=i+1) (b:=s.size) (by omega) (by omega) (by omega)) fun c hc=>bO (Lr (by omega)) (bO (Lr (by rw [j7]; omega)) (ah ?_));rw [j7,j7]; omega
 ·refine au (D9 (s:=body) (rj 0) i0 (by omega)) fun a ha=>au (D9 (s:=body) (a:=i+1) (b:=body.size) (by omega) (by omega) (by omega)) fun c hc=>bO (Lr (by omega)) (bO (Lr (by rw [j7]; omega)) ?_);have hz:((a++aX [IntKind.u8.wrap by_])++c).size<=1000040:=by rw [j7,j7]; omega
  refine au (yx (by omega)) fun y hy=>ah ?_;rw [hy,j7,j7]; omega
 ·refine au (D9 (s:=body) (rj 0) i0 (by omega)) fun a ha=>au (yx (by omega)) fun y hy=>ah (by omega)
 ·have hz:(body++aX [IntKind.u8.wrap by_]).size=body.size+1:=by rw [j7]; omega
  exact bO (Lr (by omega)) (au (yx (by omega)) fun y hy=>ah (by omega))
 ·exact au (D9 (s:=s) (rj 0) i0 (by omega)) fun a ha=>ah (by omega)
 ·obtain⟨n,rfl⟩:∃ n:Nat,i=n:=⟨i.toNat,by omega⟩;have e1:Int.tdiv ((n:Nat):Int) 8=((n / 8:Nat):Int):=rfl;have e2:IntKind.i64.wrap ((n / 8:Nat):Int)=((n / 8:Nat):Int):=lx (by omega) (by omega);have e3:IntKind.i64.wrap (((n / 8:Nat):Int)*8)=((n / 8:Nat):Int)*8:=lx (by omega) (by omega);have e4:IntKind.i64.wrap (((n / 8:Nat):Int)*8+8)=((n / 8:Nat):Int)*8+8:=lx (by omega) (by omega);have h0:(ByteArray.mk #[0,0,0,0,0,0,0]).size=7:=rfl;rw [e1,e2,e3,e4];refine au (D9 (s:=body) (rj 0) (by omega) (by omega)) fun a ha=>bO (Lr (by omega)) (au (D9 (s:=body) (b:=body.size) (by omega) (by omega) (by omega)) fun c hc=>au (Gl by_ (m:=4) (by omega) (by omega)) fun q _=>?_);have h1:=J5 (IntKind.u8.wrap q);have z1:(a++ByteArray.mk #[0,0,0,0,0,0,0]).size=a.size+7:=by rw [j7]; omega
  have z2:((a++ByteArray.mk #[0,0,0,0,0,0,0])++aX [IntKind.u8.wrap q]).size=a.size+8:=by rw [j7]; omega
  have z3:(((a++ByteArray.mk #[0,0,0,0,0,0,0])++aX [IntKind.u8.wrap q])++c).size=a.size+8+c.size:=by rw [j7]; omega
  exact bO (Lr (by omega)) (bO (Lr (by omega)) (au (yx (by omega)) fun y hy=>ah (by omega)))
theorem IW.rm {b:ar} (h:IW b):IX b.s/\Rm b.i.length:=by
 have h1:=h.nrec;have h2:=h.nin;refine⟨⟨by unfold Rm; omega,fun r hr=>?_⟩,by unfold Rm; omega⟩;have:=(h.recs r hr).reads;unfold Rm; omega
end
section
open Go.Lib hiding intOf
theorem OF {d:b7} (h1:(Lit.int .i64 d.y).wf=true) (h2:(Lit.int .u64 d.z).wf=true):Eq d:=by
 unfold Lit.wf at h1 h2;simp only [ri,decide_eq_true_eq] at h1 h2;have e1:IntKind.i64.max=9223372036854775807:=rfl;have e2:IntKind.u64.min=0:=rfl;have e3:IntKind.u64.max=18446744073709551615:=rfl;rw [e1] at h1;rw [e2,e3] at h2;exact⟨by omega,by omega,by omega⟩
theorem Kk {l:List ai} (hn:l.length<=40) (h60:∀ x∈l,x.v.length<=60) (hB:∀ x∈l,FR x) (hD:∀ x∈l,∀ r∈x.v,Eq r.a):∃ y,cA l=some y/\bN l=some y/\FQ y:=by
 rcases xK (C:=70000000000) hB hD (by omega) (fun x hx hv=>by
  have hr:=I1 (hB x hx) (hD x hx) hv;have h1:=hr.text;have h2:=hr.value;have h3:=h60 x hx;have h6:=oB (W:=yH) (c:=1073741856) x.v fun r hq=>by
   have:=(hr.reads r hq).text;rw [uL]; omega
  rw [sI]; omega) (fun n h _=>by omega) with⟨_,h1,h2⟩|⟨_,hrd,h4,hsz,hvl,h1,h2⟩
 ·exact⟨_,h1,h2,pr (by show (0:Nat)<=_; omega)⟩
 ·exact⟨_,h1,h2,l,0,yK hrd h4 hsz hvl,Bg hrd h4 hsz h2,by omega,fun x hx=>by have:=h60 x hx; omega⟩
theorem xe {raw:List ai} (hT:∀ x∈raw,x.d.t.size<=140737488355328/\∀ r∈x.v,r.d.t.size<=140737488355328/\(Lit.int .i64 r.a.y).wf=true/\(Lit.int .u64 r.a.z).wf=true) (t:List Int) (s:ByteArray) (what at_ by_:Int):fu raw t s what at_ by_=some true:=by
 have key:gR.bind (fun u=>some u)=some true:=by rw [GJ]; rfl
 unfold fu;by_cases h1:(40:Int)<(raw.length:Int)
 ·rw [decide_eq_true h1,cond_true,key]
 rw [decide_eq_false h1,cond_false];by_cases h3:(3000:Int)<(s.size:Int)
 ·rw [decide_eq_true h3,cond_true,key]
 rw [decide_eq_false h3,cond_false];rcases iz 400 t.length with ht | ht
 ·rw [E3 (by omega),ad]; exact key
 rw [Gh ht,ad,eT,cond_false];have hlp:loop (fun s:Int=>c8 raw s) 0=some (if (raw.any fun r=>decide ((60:Int)<(r.v.length:Int))) then Fl.out true else Fl.go ()) :=
  tP (xs:=raw) (fun r=>decide ((60:Int)<(r.v.length:Int))) (fun n=>(n:Int)) rfl
   (fun k x hx hp=>by have:=bg hx; unfold c8; rw [iK hx,cond_true,bj,hx,ad,hp,cond_false,cL (by omega)])
   (fun k x hx hp=>by unfold c8; rw [iK hx,cond_true,bj,hx,ad,hp,cond_true,GJ]; rfl)
   (by unfold c8; rw [bS]; rfl)
 rw [hlp,ad];cases ha:(raw.any fun r=>decide ((60:Int)<(r.v.length:Int))) with
 | true=>rfl
 | false =>
  rw [FF] at ha;have h60:∀ r∈raw,r.v.length<=60:=fun r hr=>by
   have:=ha r hr;simp only [decide_eq_true_eq] at this;omega
  rw [if_neg (by decide)];show ez raw t s what at_ by_=some true;refine Oe ?_;unfold ez;refine aI (v:=br.mk t 0) rfl (au (Lo (d:=t) (i:=0) ⟨by omega,by omega,ht⟩ (by omega) (by omega)) fun u ⟨C,hB,hrev,hd⟩=>au (B3 C hB (by omega) hd) fun l ⟨a1,a2,hd2⟩=>?_);have hl:=C.high;obtain⟨hal,hsl⟩:=IZ hl a1 a2;have hvl:=Id C (by omega) a2;have hen:=Dl hal (by omega) (by omega) hvl;obtain⟨y,y1,y2,y3⟩:=Kk (by omega) h60 (fun x hx=>⟨by have:=h60 x hx; omega,(hT x hx).1,fun r hr=>((hT x hx).2 r hr).1⟩) (fun x hx r hr=>OF ((hT x hx).2 r hr).2.1 ((hT x hx).2 r hr).2.2);have hre:bN l.1=some (jf (gH l.1)):=by
   rcases xK (l:=l.1) (C:=1200) (fun x hx=>⟨(hal x hx).few,by have:=(hal x hx).text; omega,fun r hr=>by have:=((hal x hx).reads r hr).text; omega⟩) (fun x hx r hr=>⟨((hal x hx).reads r hr).dig.1.2,((hal x hx).reads r hr).dig.2⟩) (by omega) (fun x hx _=>(Dk hl (a2 x hx)).2) (fun n _ h=>by omega) with⟨_,h,_⟩|⟨_,_,_,_,_,_,h⟩
   ·rw [hen] at h;have:=congrArg ByteArray.size (cJ h);rw [pO] at this;have h0:(ByteArray.mk #[]).size=0:=rfl;omega
   ·exact h
  refine aI hen (aI y1 (aI hre ?_));rw [beq_self_eq_true,eT,cond_false];refine aI y2 ?_;rw [beq_self_eq_true,eT,cond_false];have hx:=pO (gH l.1);generalize jf (gH l.1)=x at hx;refine au (yx (s:=s) (by omega)) fun a ha=>au (HA (s:=x) (by omega)) fun c hc=>au (HA (s:=x) (by omega)) fun e he=>?_;have hall:∀ z∈[x,y,s,a,c,e],FQ z:=fun z hz=>by
   simp only [dC,iJ,or_false] at hz;rcases hz with rfl | rfl | rfl | rfl | rfl | rfl
   ·exact pr (by omega)
   ·exact y3
   ·exact pr (by omega)
   ·exact pr (by omega)
   ·exact pr (by omega)
   ·exact pr (by omega)
  have hloop:loop (fun q:(List ByteArray)×Int=>c7 s x y a c e q.1 q.2) ([x,y,s,a,c,e],0)=some (Fl.go ()) :=
   jx (B:=fun q:(List ByteArray)×Int=>c7 s x y a c e q.1 q.2) (fun k=>([x,y,s,a,c,e],(k:Int))) 6 rfl (fun k O=>by
    dsimp only;have hk6:k<([x,y,s,a,c,e]).length:=O;obtain⟨b,f,g1,g2,g3,g4⟩:=hall _ (gX hk6);unfold c7;rw [show ([x,y,s,a,c,e]:List ByteArray).length=6 from rfl,dlt (n:=6) O,cond_true,bE hk6,ad,g1,ad,g2,ad];dsimp only;rw [Dm g3 g4,ad,eT,cond_false,show ((f:Int) != f)=false by simp,cond_false,cL (by omega)]) (by
    dsimp only;unfold c7;rfl)
  refine aI hloop ?_;show Ok (ey) _;unfold ey;rw [key];exact ah rfl
end
section
open Go.RowKit Go.ChangeShapes Go.WideShapes Go.ChangeAt
open Go.Lib hiding intOf
variable {W:World} {l:List (String×DataW Unit)}
theorem R6:ownKnob Tryz.prog.godebug=none:=by kernel_rfl
theorem LaidVars.mem {P:Program} {w:World} {nm:String} {d:DataW Unit}:∀ {l:List (String×DataW Unit)} {ps:List MemPlace},DataW.LaidVars P w l ps->(nm,d)∈l ->
  ∃ g t cs fuel p,P.globalNamed nm=some g/\(P.globals[g]?).map (·.type)=some t/\w.var? P nm=some cs/\DataW.trod (fun _=>()) P w 0 (fun _=>true) false fuel t cs.toList=some (d,p)
 | [],_,_,hm=>by cases hm
 | (n1,d1)::l,ps,h,hm=>by
  obtain⟨g,t,cs,f,p,q,hg,ht,hv,hd,hq,_⟩:=h;rcases dC.1 hm with he | hm
  ·injection he with h1 h2;subst h1 h2;exact⟨g,t,cs,f,p,hg,ht,hv,hd⟩
  ·exact LaidVars.mem hq hm
theorem JR (h : laidMet aO l W) (hm : ("internal/strconv.uint64pow10", Lib.tabData .u64 pow10Tab) ∈ l) : TabIs aO W "internal/strconv.uint64pow10" .u64 pow10Tab := by
 obtain⟨ps, hl, _⟩ := h;obtain⟨g, t, cs, f, p, hg, ht, hv, hd⟩ := LaidVars.mem hl hm;obtain rfl := cJ ((show Tryz.prog.globalNamed "internal/strconv.uint64pow10" = some 1 by kernel_rfl).symm.trans hg)
 obtain rfl:=cJ ((show (Tryz.prog.globals[1]?).map (·.type)=some 343 by kernel_rfl).symm.trans ht);unfold TabIs;rw [hv,<- cells_of_tab Tryz.underlying343 Tryz.underlying103 (by kernel_rfl) (by kernel_rfl) hd]
theorem E1 (h:laidMet aO l W) {nm:String} {d:DataW Unit} {s:String} {g0:Nat} (hm:(nm,DataW.iface s d)∈l) (hg0:Tryz.prog.globalNamed nm=some g0) (ht0:(Tryz.prog.globals[g0]?).map (·.type)=some 241) :
  ∃ ev,W.cell? ⟨g0,0,none⟩=some ev/\(ev = .nilIface∨∃ te pe,ev = .iface te pe):=by
 obtain⟨ps,hl,_⟩:=h;obtain⟨g,t,cs,f,p,hg,ht,hv,hd⟩:=LaidVars.mem hl hm;obtain rfl:=cJ (hg0.symm.trans hg);obtain rfl:=cJ (ht0.symm.trans ht);obtain⟨_,u,v,hcs,_,_⟩:=iface_of_trod Tryz.underlying241 hd;refine⟨.iface u v,?_,.inr ⟨u,v,rfl⟩⟩;have:=World.var?_cell hg0 hv 0;rw [Array.eq_one_of_toList hcs] at this;simpa using this
theorem Qj (h:laidMetH aO l W) (hp:(l.all fun x=>x.2.handleName?.isNone)=true)
  (h1 : ("internal/strconv.uint64pow10", Lib.tabData .u64 pow10Tab) ∈ l) (h2 : ("strconv.ErrSyntax", Rows.laid_strconv_ErrSyntax) ∈ l) (h3 : ("strconv.ErrRange", Rows.laid_strconv_ErrRange) ∈ l) : Lv W := by
 rw [MakeChecks.laidMetH_plain _ _ _ hp] at h;exact⟨E1 h h2 (by kernel_rfl) (by kernel_rfl),E1 h h3 (by kernel_rfl) (by kernel_rfl),JR h h1⟩
end
section
open Go.ChangeShapes Go.WideShapes Go.ChangeAt Go.RowKit Go.Deep Go.Joins
theorem Hd {α:Type} {Q:Nat->α->Prop}:∀ (n:Nat),(∀ i,i<n->∃ x,Q i x)->∃ xs:List α,xs.length=n/\∀ i x,xs[i]? = some x->Q i x
 | 0,_=>⟨[],rfl,fun i x h=>by simp at h⟩
 | n+1,h=>by
  obtain⟨xs,h1,h2⟩:=Hd n fun i hi=>h i (by omega);obtain⟨y,hy⟩:=h n (by omega);refine⟨xs++[y],by simp [h1],fun i x hx=>?_⟩;by_cases hi:i<xs.length
  ·rw [pp hi] at hx; exact h2 i x hx
  ·have hl:=(cm.1 hx).1;simp only [bm,j8,rp] at hl;have:i=xs.length:=by omega
   subst this;rw [sL (bZ _),uR] at hx;simp only [De,cp] at hx;subst hx;rw [h1]; exact hy
def tA {α:Type} (P:Program) (t:TypeId) (R:aL α) (Q:α->Prop):Prop :=
 ∀ {H:Type} {enc:TypeId×Value->H} {w:World} {base n:Nat} {sp:Nat->Bool} {held:Bool} {cs:bC} {d:DataW H} {p:List MemPlace},DataW.trod enc P w base sp held n t cs=some (d,p)->(∀ m∈d.weights P t,m<=reachBytes)->∃ x,R.rel No w cs x/\Q x
section
variable {P:Program} {t e:TypeId}
theorem tA.int {k:IntKind} (ht:P.underlying t=some (.int k)):tA P t (aL.int k) (fun n=>(Lit.int k n).wf=true):=fun h _=>by
 obtain⟨n,rfl,_,hw⟩:=DataW.trod_int ht h;exact⟨n,rfl,hw⟩
theorem tA.bool (ht:P.underlying t=some .bool):tA P t aL.bool (fun _=>True):=fun h _=>by
 obtain⟨b,rfl,_⟩:=DataW.trod_bool ht h;exact⟨b,rfl,trivial⟩
theorem tA.str (ht:P.underlying t=some .string):tA P t aL.str (fun s=>s.size<=140737488355328):=fun h hw=>by
 obtain⟨s,rfl,hx,_⟩:=DataW.trod_string ht h;simp only [xH] at hx;obtain⟨rfl,rfl⟩:=hx;refine⟨s,rfl,?_⟩;have:=hw s.data.toList.length (by simp [DataW.weights]);have hr:reachBytes<=140737488355328:=by decide
 have hz:s.size=s.data.toList.length:=by rw [Array.length_toList]; rfl
 omega
theorem BM {H:Type}:∀ {ds:List (DataW H)} {i:Nat} {d:DataW H},ds[i]? = some d->∀ n∈d.weights P e,n∈DataW.weightsAll P e ds
 | [],_,_,h,_,_=>by simp at h
 | d0::r,0,d,h,n,hn=>by
  simp only [De,cp] at h;subst h;simp only [DataW.weightsAll,de];exact .inl hn
 | d0::r,i+1,d,h,n,hn=>by
  simp only [Dd] at h;simp only [DataW.weightsAll,de];exact .inr (BM h n hn)
theorem tA.slice {α:Type} {R:aL α} {Q:α->Prop} (ht:P.underlying t=some (.slice e)) (hc:P.cellsOf e=R.size) (hs:0<R.size) (ho:tA P e R Q):tA P t (aL.slice R) (fun xs=>(∀ x∈xs,Q x)/\xs.length*P.bytesOf e<=reachBytes/\xs.length<=maxLen):=fun {H enc w base n sp held cs d p} h hw=>by
 rcases open_slice ht h with⟨rfl,hx⟩|⟨a,len,cap,m,n,D,Pl,rfl,hb,hl,hm,hmm,hx,hi⟩
 ·exact⟨[],⟨_,rfl,aG.nil_ _ _ _⟩,fun x hx=>by simp at hx,by simp,by simp⟩
 ·simp only [xH] at hx;obtain⟨rfl,rfl⟩:=hx;have hlm:len<=m:=by rw [hmm]; split <;> omega
  obtain⟨xs,h1,h2⟩:=Hd (α:=α) (Q:=fun i x=>Q x/\∃ cs,R.rel No w cs x/\∀ j u,cs[j]? = some u->w.cell? (a.add (i*R.size+j))=some u) len (fun i hil=>by
   obtain⟨cs',hcc,ht'⟩:=hi i (by omega);rw [hc] at hcc;obtain⟨x,hx,hq⟩:=ho ht' (fun k O=>hw k (by
    simp only [DataW.weights,ht,dC,de];exact .inr (.inl (BM (i:=i) (d:=D i) (by rw [ro,List.getElem?_range hil]; rfl) k O))))
   obtain⟨_,hcl,hat⟩:=World.cells?_some hcc;refine⟨x,hq,cs',hx,fun j u hu=>?_⟩;have hj:j<R.size:=by rw [<- hcl]; exact (cm.1 hu).1
   rw [<- Go.Deep.add_add,hat j hj,hu])
  subst h1;refine⟨xs,⟨_,rfl,some a,cap,rfl,hl,hm,?_⟩,fun x hx=>?_,?_,cI hl hm⟩
  ·cases xs with
   | nil=>exact .inl rfl
   | cons x0 xs =>
    right;obtain⟨_,cs0,hr0,hc0⟩:=h2 0 x0 rfl;have hl0:=R.len hr0;have hu:=hc0 0 _ (cQ (show 0<cs0.length by omega));obtain⟨b,off,spot⟩:=a;have hsp:spot=none:=by
     unfold World.cell? at hu;split at hu
     ·cases spot with
      | none=>rfl
      | some q=>simp [Addr.add] at hu
     ·simp at hu
    subst hsp;refine⟨b,off,rfl,fun k x hx=>?_⟩;obtain⟨_,cs,hr,hcs⟩:=h2 k x hx;refine⟨cs,hr,fun h=>h,?_,fun j u hu=>?_⟩
    ·rw [Addr.add_lit] at hu; exact World.block_lt_of_cell? _ _ hu
    ·have:=hcs j u hu;rwa [Addr.add_lit,<- xA] at this
  ·obtain⟨i,hi',e⟩:=HS hx;exact (h2 i x (by rw [<- e]; exact cQ hi')).1
  ·have:=hw ((xs.length+(m-xs.length))*P.bytesOf e) (by
    simp only [DataW.weights,ht,dC,pq,List.length_range]
    first | exact .inl trivial | exact .inl rfl | trivial)
   exact cI (mM _ (by omega)) this
theorem tA.arg {α:Type} {R:aL α} {Q:List α->Prop} {H:Type} {enc:TypeId×Value->H} {w:World} {base:Nat} {sp:Nat->Bool} {held:Bool} {v:Value} {d:DataW H} {p:List MemPlace} {ts:List TypeId} {ds:List (DataW H)} {j0:Nat}
  (ho:tA P t (aL.slice R) Q) (ht:P.underlying t=some (.slice e)) (hsz:(DataW.weightsEach P ts ds).all (·<=reachBytes)=true) (htj:ts[j0]? = some t) (hdj:ds[j0]? = some d)
  {r:Reach} {b0:Nat} (hv:Value.okWide P w r b0 t v) (h:DataW.Trod enc P w base sp held t v d p):∃ xs,aG R No w v xs/\Q xs:=by
 obtain⟨A,len,cap,rfl⟩:=okWide_slice ht hv;obtain⟨fuel,hf⟩:=h;obtain⟨xs,⟨v',he,hs⟩,hq⟩:=ho hf (fun m hm=>by
  have:=List.all_eq_true.1 hsz m (DataW.weights_mem_each htj hdj m hm);simpa using this)
 simp only [Value.cells,List.cons.injEq,and_true] at he;subst he;exact⟨xs,hs,hq⟩
end
end
section
open Go.ChangeShapes Go.WideShapes Go.ChangeAt Go.RowKit Go.Deep Go.Joins
variable {α:Type} {Q:α->Prop} {R:aL α}
def aL.unit:aL Unit where
 size:=0
 rel:=fun _ _ cs _=>cs=[]
 len:=by rintro _ _ _ _ rfl; rfl
 one:=by rintro _ _ _ _ rfl u hu; cases hu
 keep:=fun h _ _=>h
def tB (P:Program) (fs:List Field) (off:Nat) (R:aL α) (Q:α->Prop):Prop :=
 (∀ f∈fs,off<=f.offset) /\
 ∀ {H:Type} {enc:TypeId×Value->H} {w:World} {base n:Nat} {sp:Nat->Bool} {held:Bool} {cs:bC} {xs:List (DataW H×List MemPlace)},cs.length=R.size->xs.length=fs.length ->
  (∀ (i:Nat) (f:Field),fs[i]? = some f->DataW.trod enc P w base sp held n f.type ((cs.drop (f.offset-off)).take (P.cellsOf f.type))=xs[i]?) ->
  (∀ m∈DataW.weightsEach P (fs.map (·.type)) (xs.map (·.1)),m<=reachBytes)->∃ x,R.rel No w cs x/\Q x
section
variable {P:Program} {t:TypeId}
theorem tB.nil (off:Nat):tB P [] off aL.unit (fun _=>True) :=
 ⟨fun f hf=>(by cases hf),fun {H enc w base n sp held cs xs} hl _ _ _=>⟨(),BQ hl,trivial⟩⟩
theorem tB.cons {β:Type} {S:aL β} {Q2:β->Prop} {f:Field} {fs:List Field} {off:Nat} (ho:tA P f.type R Q) (hf:f.offset=off) (hc:P.cellsOf f.type=R.size) (h:tB P fs (off+R.size) S Q2):tB P (f::fs) off (R.prod S) (fun x=>Q x.1/\Q2 x.2):=by
 refine⟨fun g hg=>?_,fun {H enc w base n sp held cs xs} hl hx ht hw=>?_⟩
 ·rcases dC.1 hg with rfl | hg
  ·omega
  ·have:=h.1 g hg; omega
 ·cases xs with
  | nil=>simp at hx
  | cons y xs =>
   have hl:cs.length=R.size+S.size:=hl;have h0:=ht 0 f rfl;rw [hf,uR,BP,hc] at h0;obtain⟨x1,k1,k2⟩:=ho h0 (fun m hm=>hw m (by simp only [wX,DataW.weightsEach,de]; exact .inl hm));obtain⟨x2,k3,k4⟩:=h.2 (H:=H) (enc:=enc) (w:=w) (base:=base) (n:=n) (sp:=sp) (held:=held) (cs:=cs.drop R.size) (xs:=xs) (by rw [nr]; omega) (by simpa using hx) (fun i g hg=>by
    have h1:=ht (i+1) g (by simpa using hg);have h2:=h.1 g (aK hg);rw [List.drop_drop,show R.size+(g.offset-(off+R.size))=g.offset-off by omega];simpa using h1) (fun m hm=>hw m (by simp only [wX,DataW.weightsEach,de]; exact .inr hm))
   exact⟨(x1,x2),⟨cs.take R.size,cs.drop R.size,(pc _ _).symm,k1,k3⟩,k2,k4⟩
theorem tA.struct {fs:Array Field} (ht:P.underlying t=some (.struct fs)) (hc:P.cellsOf t=R.size) (h:tB P fs.toList 0 R Q):tA P t R Q:=fun {H enc w base n sp held cs d p} h0 hw=>by
 obtain⟨xs,m,_,hx,hl,hlen,hf⟩:=DataW.trod_struct ht h0;simp only [xH] at hx;obtain⟨rfl,rfl⟩:=hx;refine h.2 (H:=H) (enc:=enc) (w:=w) (base:=base) (n:=m) (sp:=sp) (held:=held) (xs:=xs) (hl.trans hc) (by simpa using hlen) (fun i f hi=>?_) (fun k O=>hw k ?_)
 ·have:=hf i f (by simpa using hi);simpa using this
 ·simp only [DataW.weights,ht];exact O
theorem tA.via {β:Type} {S:aL β} {Q2:β->Prop} (ho:tA P t R Q) (g:α->β) (hr:∀ (T:Nat->Prop) (w:World) (cs:bC) (x:α),R.rel T w cs x->S.rel T w cs (g x)) (hq:∀ x,Q x->Q2 (g x)):tA P t S Q2:=fun h hw=>by
 obtain⟨x,h1,h2⟩:=ho h hw;exact⟨g x,hr _ _ _ _ h1,hq _ h2⟩
end
end
section
open Go
theorem CF {P:Program} (h:P.funcs.any Func.goes=false) (f:FuncId):P.goes f=false:=by
 unfold Program.goes;rw [h,Bool.and_false,Bool.or_false];rw [Bool.eq_false_iff];intro hc;rw [BO] at hc;obtain⟨g,_,hg⟩:=hc;cases hf:P.funcs[g]? with
 | none=>rw [hf] at hg; cases hg
 | some fn =>
  rw [hf] at hg;have:P.funcs.any Func.goes=true:=(MA).2 ⟨fn,Array.mem_of_getElem? hf,by simpa using hg⟩;rw [h] at this;cases this
theorem ES {P:Program} (h:P.funcs.any Func.goes=false) (st:Start) (func:String):P.goesAt st func=false:=by
 have hf:P.goesFrom func=false:=by
  unfold Program.goesFrom;cases P.funcNamed func with
  | none=>rfl
  | some f=>exact CF h f
 have hi:P.inits.toList.any P.goes=false:=by
  rw [Bool.eq_false_iff];intro hc;obtain⟨g,_,hg⟩:=BO.1 hc;rw [CF h g] at hg;cases hg
 unfold Program.goesAt;rw [hf,Bool.false_or];cases st <;> first | rfl | exact hi
end
end Go.Proofs.YtcpplgcgcbihoaaGreatDoor
