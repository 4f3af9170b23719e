/- Texts of the proof, joined (4). -/
import Derived.Test.YtllbbcgnnoonoaaGreatDoorA1
import Derived.Test.YtllbbcgnnoonoaaGreatDoorA2
import Derived.Test.YtllbbcgnnoonoaaGreatDoorA3
set_option linter.unusedVariables false
set_option linter.unusedSimpArgs false
set_option linter.unusedSectionVars false
namespace Go.Proofs.YtllbbcgnnoonoaaGreatDoor
open Go.RowKit
section
set_option maxRecDepth 100000
set_option maxHeartbeats 4000000
variable (T:Nat->Prop) (L:World) (hT:TW T L)
include hT
noncomputable section
def dh (b:(List bM)):Option (List bM):=gd (cm (([]:List bM).length+b.length)) <| some ((([]:List bM)++b))
theorem qP (d:(List bM)) (m:Value) (l:aQ a8 T L m d) (y:(List bM)) (B:dh d=some y):bm aO No 93 [m] L (fun v w'=>∃ (k:Value) (eK:bG),v=k/\jy a8 T L w' [vR k eK] 49 k eK y):=by
 refine en Tryz.func93 Tryz.ntmps93 hT fun a I=>?_;replace I:=I.fS (aQ.dn l);unfold dh at B;refine an I fun a I=>?_;refine ax ?_;refine an I fun a I=>?_;obtain⟨b,f,g,n⟩:=Cc (R:=a8) I Ej 0 rfl;refine wl rfl (ky (v:=.bool b) I (g rfl) rfl rfl fun a I=>?_);refine an I fun a I=>?_;rcases JG (b) with c | c
 ·rw [f c] at B;have B:some ([])=some y:=B;refine an I fun a I=>?_;cases B
  refine aG I rfl (aF I rfl aH) ?_;exact⟨.slice none 0 0,[],rfl,kv _ _ _ _ _ _⟩
 refine an I fun a I=>?_;refine wl rfl (xN a8 I I0 rfl fun o a w O I=>?_);refine an I fun a I=>?_;obtain⟨h,B⟩:=a6 B;refine wl rfl (cr (R:=a8) (xs:=([]:List bM)) (ys:=d) I I0 (by decide) (by decide) rfl rfl 0 rfl 0 rfl 1 rfl h rfl fun j e a w O I=>?_);refine an I fun a I=>?_;cases B
 refine aG I rfl (aF I rfl aH) ?_;exact⟨j,e,rfl,I.zo ⟨.inr (az (i:=0) rfl),trivial⟩ 0 rfl 0 rfl⟩
def ub (c:ac):Option ac:=(dh c.v).bind fun d=>some ((ac.mk c.b d c.t c.a))
theorem ye (b:ac) (j:Value) (h:aQ a8 T L j b.v) (y:ac) (B:ub b=some y):bm aO No 45 [.agg (aZ b j).toArray] L (fun v w'=>∃ (g:Value) (eK:bG),v = .agg (aZ y g).toArray/\jy a8 T L w' [vR g eK] 49 g eK y.v):=by
 refine en Tryz.func45 Tryz.ntmps45 hT fun a I=>?_;replace I:=I.fS (aQ.dn h);unfold ub at B;refine kB I fun k m a w O I=>?_;refine ka I rH fun l n a w O I=>?_;refine an I fun a I=>?_;obtain⟨o,d,B⟩:=bd B;refine kc I UR (qP _ _ I.dlt b.v _ I.g0 _ d) fun _ w C a O U=>?_;obtain⟨f,e,he,c⟩:=C;obtain rfl:=he.symm;have I:=sN U c;refine go I fun a w I=>?_;cases B
 refine aG I rfl (rC 1 I) ?_;exact⟨f,e,rfl,I.zo ⟨.inr (az (i:=0) rfl),trivial⟩ 0 rfl 0 rfl⟩
def pn (b:(List ac)):Option (List ac):=some (b)
def fW (b:(List (List ac))) (d:(List ac)) (c:Int):Option (Fl ((List ac)×Int) ((List ac))):=cond (decide (c<(b.length:Int))) ((bp b c).bind fun e=>gd (cm (d.length+e.length)) <| some (.go ((d++e),IntKind.i64.wrap (c+1)))) (some (.out d))
def ly (b:(List (List ac))) (c:Int):Option (List ac):=gd (decide (0<=c)) <| gd (decide (c<=1000000000)) <| (loop (fun s:(List ac)×Int=>fW b s.1 s.2) (([]:List ac),0)).bind fun r=>pn r
def fX (b:(List (List ac))) (d:Int) (c:Int):Option (Fl (Int×Int) (Int)):=cond (decide (c<(b.length:Int))) ((bp b c).bind fun e=>cond (decide ((IntKind.i64.wrap (d+(e.length:Int)):Int)<0)) (none) (some (.go (IntKind.i64.wrap (d+(e.length:Int)),IntKind.i64.wrap (c+1))))) (some (.out d))
def lX (b:(List (List ac))):Option (List ac):=(loop (fun s:Int×Int=>fX b s.1 s.2) (0,0)).bind fun r=>ly b r
theorem zw (b:(List (List ac))) (h:Value) (P:aQ (aY.slice ai) T L h b) (y:(List ac)) (B:lX b=some y):bm aO No 44 [h] L (fun v w'=>∃ (N:Value) (eK:bG),v=N/\jy ai T L w' [bu N eK] 30 N eK y):=by
 refine en Tryz.func44 Tryz.ntmps44 hT fun a I=>?_;replace I:=I.fS (aQ.dn P);unfold lX at B;refine an I fun a I=>?_;refine aK (J:=fun a w=>∃ (m:Int),St L No T 36 [(0,h),(3,am m)] [] [aT (aY.slice ai) h b] a w/\ly b m=some y) ?_ ?_
 ·refine an I fun a I=>?_;obtain⟨r1,p,hMo1⟩:=bd B;refine bz _ (fun s a w=>∃ (g f:Int),(g,f)=s/\St L No T 36 [(0,h),(3,am g),(9,h),(10,am (b.length:Int)),(11,am f)] [] [aT (aY.slice ai) h b] a w) p ⟨_,_,rfl,I.mt [] [0]⟩ ?_;rintro s a w z ⟨g,f,rfl,I⟩ B hf1;have B:fX b g f=some z:=B;unfold fX at B;refine an I fun a I=>?_;refine ax ?_;rcases cd B with⟨A,B⟩|⟨A,B⟩
  ·refine an I fun a I=>?_;refine ax ?_;refine an I fun a I=>?_;obtain⟨Z,r,B⟩:=bd B;refine wl rfl (bv (R:=(aY.slice ai)) I Rc Rf rfl rfl 0 rfl r rfl fun Q a0 V D a I=>?_);obtain⟨a3,rfl,t⟩:=D;replace I:=I.fS t;refine an I fun a I=>?_;rcases cd B with⟨E,B⟩|⟨E,B⟩
   ·refine an I fun a I=>?_;cases B
   exact fz
  exact fz
 rintro a w ⟨m,I,B⟩;unfold ly at B;refine an I fun a I=>?_;obtain⟨F,B⟩:=a6 B;obtain⟨G,B⟩:=a6 B;refine kc I UQ (KY (R:=ai) rfl _ _ I.dlt _ F G) fun _ w C a O U=>?_;obtain⟨a4,W,he,o⟩:=C;obtain rfl:=he.symm;have I:=sN U o;refine an I fun a I=>?_;refine aK (J:=fun a w=>∃ (l:(List ac)) (j:Value) (d:LV),St L No T 36 [(6,j)] [bu j d] [au ai d l] a w/\pn l=some y) ?_ ?_
 ·refine an I fun a I=>?_;obtain⟨r1,p,hMo1⟩:=bd B;refine bz _ (fun s a w=>∃ (c:(List ac)) (e:Int) (n:Value) (k:LV),(c,e)=s/\St L No T 36 [(6,n),(25,h),(26,am (b.length:Int)),(27,am e)] [bu n k] [au ai k c,aT (aY.slice ai) h b] a w) p ⟨_,_,_,_,rfl,I.mt [0] [0,1]⟩ ?_;rintro s a w z ⟨c,e,n,k,rfl,I⟩ B hf1;have B:fW b c e=some z:=B;unfold fW at B;refine an I fun a I=>?_;refine ax ?_;rcases cd B with⟨H,B⟩|⟨H,B⟩
  ·refine an I fun a I=>?_;refine ax ?_;refine an I fun a I=>?_;obtain⟨x,q,B⟩:=bd B;refine wl rfl (bv (R:=(aY.slice ai)) I Rc Rf rfl rfl 1 rfl q rfl fun S a1 X K a I=>?_);obtain⟨a5,rfl,u⟩:=K;replace I:=I.fS u;refine an I fun a I=>?_;obtain⟨M,B⟩:=a6 B;refine wl rfl (cr (R:=ai) (xs:=c) (ys:=x) I qW (by decide) (by decide) rfl rfl 0 rfl 2 rfl 0 rfl M rfl fun a9 Y a w O I=>?_);exact fz
  exact fz
 rintro a w ⟨l,j,d,I,B⟩;unfold pn at B;refine an I fun a I=>?_;cases B
 refine aG I rfl (aF I rfl aH) ?_;exact⟨j,d,rfl,I.zo ⟨.inr (az (i:=0) rfl),trivial⟩ 0 rfl 0 rfl⟩
def a7 (c d:aj):Option Int:=(ui c.X.b d.X.b).bind fun e=>(pE c.i1 d.i1).bind fun f=>(wT ([e,f])).bind fun g=>some (g)
theorem BH (hLv:dC T L) (e f:aj) (l m:Value) (j:aQ a8 T L l e.X.v) (k:aQ a8 T L m f.X.v) (y:Int) (B:a7 e f=some y):bm aO No 48 [.agg (bD e l).toArray,.agg (bD f m).toArray] L (fun v w'=>v=am y):=by
 refine en Tryz.func48 Tryz.ntmps48 hT fun a I=>?_;replace I:=((I.fact bK (dC.dn hLv)).fS (aQ.dn j)).fS (aQ.dn k);unfold a7 at B;refine kB I fun n q a w O I=>?_;refine kb I fun o r a w O I=>?_;refine an I fun a I=>?_;refine ax ?_;refine dr [] I fun w hQ I=>?_;refine gE [0,1,2,3,4,5,7,8,9,10] I fun a I=>?_;obtain⟨c,g,B⟩:=bd B;refine ec 6 I Oj (xR _ _ I.dlt I.g2 e.X.b f.X.b _ g) fun _ w C a O U=>?_;obtain rfl:=C;have I:=fA U;obtain⟨d,h,B⟩:=bd B;refine ec 11 I KN (pF _ _ I.dlt I.g2 e.i1 f.i1 _ h) fun _ w C a O U=>?_;obtain rfl:=C;have I:=fA U;refine e1 12 (bq (ps:=[(0,.tmp 11),(1,.tmp 16)]) I Mn Uc (zl:=[am 0,am 0]) (by kernel_rfl) rfl (us:=[[am c],[am d]]) ⟨rfl,⟨rfl,trivial⟩⟩ (ws:=[am c,am d]) rfl rfl rfl rfl fun p a w O I=>⟨jx (O),?_⟩);replace I:=I.lit (R:=(aY.int .i64)) (us:=[am c,am d]) (xs:=[c,d]) 0 rfl (by decide) ((aN (R:=(aY.int .i64)) (x:=c) rfl).append (aN (R:=(aY.int .i64)) (x:=d) rfl)) rfl rfl;have hL:=I;replace hL:=hL.zf (R:=(aY.int .i64)) 0 rfl 0 rfl;obtain⟨s,i,B⟩:=bd B;refine ec 13 I S3 (G4 _ _ hL.dlt ([c,d]) _ hL.g0 _ i) fun _ w C a O U=>?_;obtain rfl:=C;have I:=fA U;refine gE [14] I fun a I=>?_;refine eD ?_;exact fz
def mc (b c:aj):Option Bool:=some (b.i1.toList==c.i1.toList)
theorem BI (b c:aj) (f g:Value) (d:aQ a8 T L f b.X.v) (e:aQ a8 T L g c.X.v) (y:Bool) (B:mc b c=some y):bm aO No 53 [.agg (bD b f).toArray,.agg (bD c g).toArray] L (fun v w'=>v = .bool y):=by
 refine en Tryz.func53 Tryz.ntmps53 hT fun a I=>?_;replace I:=(I.fS (aQ.dn d)).fS (aQ.dn e);unfold mc at B;refine kB I fun h j a w O I=>?_;refine kb I fun i k a w O I=>?_;exact fz
def ql (b:(List aj)):Option (List aj):=some (b)
def mA (b:Int):Option (Fl (Int) (Fl (Unit) (List aj))):=some (.go (IntKind.i64.wrap (b+1)))
def jK (b:(List aj)) (c:Int):Option (Fl (Int) (Fl (Unit) (List aj))):=(sH b c b.length).bind fun e=>(sH (List.take (Int.toNat c) b++List.replicate ((Int.toNat (b.length:Int))-(Int.toNat c)) (aj.mk (ac.mk (ae.mk (0:Int) cu) [] cu (0:Int)) cu)++List.drop (Int.toNat (b.length:Int)) b) 0 c).bind fun d=>some (.out (.out d))
def jL (d:(List aj)) (b c:Int):Option (Fl ((List aj)×Int×Int) ((List aj)×Int)):=some (.go (d,b,IntKind.i64.wrap (c+1)))
def mB (f:(List aj)) (k:aj->aj->Option Bool) (c:Int) (d:(List aj)) (e b:Int):Option (Fl ((List aj)×Int×Int) ((List aj)×Int)):=cond (decide (b<(((Int.toNat (f.length:Int))-(Int.toNat c):Nat):Int))) (gd (decide (0<=b)) <| gd (decide (b<(((Int.toNat (f.length:Int))-(Int.toNat c):Nat):Int))) <| (bp d ((((Int.toNat c):Nat):Int)+b)).bind fun g=>gd (decide (0<=IntKind.i64.wrap (b-1))) <| gd (decide (IntKind.i64.wrap (b-1)<(((Int.toNat (f.length:Int))-(Int.toNat c):Nat):Int))) <| (bp d ((((Int.toNat c):Nat):Int)+(IntKind.i64.wrap (b-1)))).bind fun h=>(k g h).bind fun j=>cond (!(j)) (gd (decide (0<=b)) <| gd (decide (b<(((Int.toNat (f.length:Int))-(Int.toNat c):Nat):Int))) <| (bp d ((((Int.toNat c):Nat):Int)+b)).bind fun i=>(bp d e).bind fun l=>jL (d.set (Int.toNat e) i) (IntKind.i64.wrap (e+1)) b) (jL d e b)) (some (.out (d,e)))
def mC (c:(List aj)) (d:aj->aj->Option Bool) (b:Int):Option (Fl (Int) (Fl (Unit) (List aj))):=cond (decide (b<(c.length:Int))) ((bp c b).bind fun e=>(bp c (IntKind.i64.wrap (b-1))).bind fun f=>(d e f).bind fun g=>cond g ((sH c b c.length).bind fun h=>(loop (fun s:(List aj)×Int×Int=>mB c d b s.1 s.2.1 s.2.2) (c,b,1)).bind fun r=>jK r.1 r.2) (mA b)) (some (.out (.go ())))
def kJ (c:aj->aj->Option Bool) (b:(List aj)):Option (List aj):=cond (decide ((b.length:Int)<2)) (some (b)) ((loop (fun s:Int=>mC b c s) 1).bind fun r=>Fl.el r (fun s=>ql b) (fun y=>some (y)))
theorem Am (eq_g:Nat) (H:aR aO eq_g=true) (eq_k:bG) (eq_P:co) (G:aj->aj->Option Bool) (M:∀ (T:Nat->Prop) (L:World) (hT:TW T L) (hLv:dC T L) (hP:eq_P.p T L) (x0 x1:aj) (b2:Value) (g8:aQ a8 T L b2 x0.X.v) (b3:Value) (g9:aQ a8 T L b3 x1.X.v) (y:Bool) (B:G x0 x1=some y),bm aO No eq_g ([.agg (bD x0 b2).toArray,.agg (bD x1 b3).toArray]++eq_k) L (fun v w'=>v = .bool y)) (d:(List aj)) (b:Value) (dm:bG) (hD:vy T L [aI b dm]) (f4:bf aD (dT T [aI b dm]) L dm d) (hLv:dC (dT T [aI b dm]) L) (hPeq_:eq_P.p (dT T [aI b dm]) L) (y:(List aj)) (B:kJ G d=some y):bm aO (MD [aI b dm]) 52 [b,.func (.func eq_g) #[] eq_k.toArray] L (fun v w'=>∃ (v3:Value) (rJ:bG),v=v3/\bf aD (dT T [aI v3 rJ]) w' rJ y/\kl L w' [aI b dm] [aI v3 rJ]):=by
 refine eu (c:=_) Tryz.func52 rfl T 66 Tryz.ntmps52 hT rfl hD fun a I=>?_;replace I:=((I.fact eq_P hPeq_).fact bK hLv).fR f4;unfold kJ at B;refine an I fun a I=>?_;refine ax ?_;refine an I fun a I=>?_;rcases cd B with⟨bg,B⟩|⟨bg,B⟩
 ·refine an I fun a I=>?_;cases B
  refine aG I rfl (aF I rfl aH) ?_;have hZ:=I.sl [0] [0];exact⟨b,dm,rfl,hZ.g0,hZ.zd⟩
 refine an I fun a I=>?_;refine aK (J:=fun a w=>St L (MD [aI b dm]) T 66 [(0,b)] [aI b dm] [au aD dm d,bK,eq_P] a w/\ql d=some y) ?_ ?_
 ·refine an I fun a I=>?_;obtain⟨r1,eX,hMo1⟩:=bd B;refine bz _ (fun s a w=>∃ (e:Int),e=s/\St L (MD [aI b dm]) T 66 [(0,b),(1,.func (.func eq_g) #[] eq_k.toArray),(5,am e)] [aI b dm] [au aD dm d,bK,eq_P] a w) eX ⟨_,rfl,I.mt [0] [0,1,2]⟩ ?_;rintro s a w Y ⟨e,rfl,I⟩ B hf1;have B:mC d G e=some Y:=B;unfold mC at B;refine ax ?_;refine an I fun a I=>?_;rcases cd B with⟨bi,B⟩|⟨bi,B⟩
  ·refine an I fun a I=>?_;refine aK (J:=fun a w=>St L (MD [aI b dm]) T 66 [(0,b),(1,.func (.func eq_g) #[] eq_k.toArray),(5,am e)] [aI b dm] [au aD dm d,bK,eq_P] a w/\mA e=some Y) ?_ ?_
   ·refine an I fun a I=>?_;refine ax ?_;refine dr [] I fun w hQ I=>?_;refine gE [0,1,2] I fun a I=>?_;obtain⟨z,a2,B⟩:=bd B;obtain⟨b4,ed,gx,f6,bl,bs,bt,c1⟩:=cq (R:=aD) I gc cC 0 rfl 0 rfl a2;obtain⟨N,rfl,ag⟩:=bl;replace I:=I.fS ag;refine dq 3 I (v:=pt b4 ed) (c1 rfl rfl) fun a I=>?_;refine dq 4 I (l:=[]) (v:=.agg (bD z N).toArray) (bY (k:=0) I cC 0 rfl bs bt rfl cc (us:=(bD z N)) rfl rfl (fun h=>by cases h)) fun a I=>?_;refine gE [5,6,7] I fun a I=>?_;obtain⟨A,a3,B⟩:=bd B;obtain⟨b5,eg,gy,fd,c2,c3,c4,c5⟩:=cq (R:=aD) I gc cC 0 rfl 1 rfl a3;obtain⟨P,rfl,ak⟩:=c2;replace I:=I.fS ak;refine dq 8 I (v:=pt b5 eg) (c5 rfl rfl) fun a I=>?_;refine dq 9 I (l:=[]) (v:=.agg (bD A P).toArray) (bY (k:=0) I cC 0 rfl c3 c4 rfl cc (us:=(bD A P)) rfl rfl (fun h=>by cases h)) fun a I=>?_;obtain⟨h5,af,B⟩:=bd B;refine e1 10 (qn (cap:=eq_k) I rfl H rfl rfl (M _ _ I.dlt I.g3 I.g4 z A _ I.g1 _ I.g0 _ af) fun _ w C a O U=>⟨jx (O),?_⟩);obtain rfl:=C;have I:=fA U;refine eD ?_;refine an I fun a I=>?_;rcases cd B with⟨c9,B⟩|⟨c9,B⟩
    ·refine an I fun a I=>?_;obtain⟨gs,a9,B⟩:=bd B;obtain⟨g,g6,ca,cb⟩:=JS (R:=aD) I gc cC 0 rfl 2 rfl a9;replace I:=I.fact (GK 6 b g (Int.toNat e) (Int.toNat (d.length:Int)) d.length) ca;refine wl rfl (ky (v:=g) I (cb (k2:=.i64) rfl (.inl ⟨_,rfl,rfl⟩) (.inr ⟨rfl,rfl⟩)) rfl rfl fun a I=>?_);refine an I fun a I=>?_;refine aK (J:=fun a w=>∃ (f:(List aj)) (m:Int) (o:LV),St L (MD [aI b dm]) T 66 [(0,b),(5,am m)] [aI b o] [au aD o f,bK,eq_P] a w/\jK f m=some Y) ?_ ?_
     ·refine an I fun a I=>?_;obtain⟨r2,f3,hMo2⟩:=bd B;refine bz _ (fun s a w=>∃ (j:(List aj)) (i n:Int) (q:LV),(j,i,n)=s/\St L (MD [aI b dm]) T 66 [(0,b),(1,.func (.func eq_g) #[] eq_k.toArray),(5,am i),(6,g),(7,am n)] [aI b q] [au aD q j,GK 6 b g (Int.toNat e) (Int.toNat (d.length:Int)) d.length,bK,eq_P] a w) f3 ⟨_,_,_,_,rfl,I.mt [0] [3,0,4,5]⟩ ?_;rintro s a w f2 ⟨j,i,n,q,rfl,I⟩ B hf2;have B:mB d G e j i n=some f2:=B;unfold mB at B;refine ax ?_;refine an I fun a I=>?_;refine qy I (NP I gc rfl I.g1) fun a I=>?_;refine an I fun a I=>?_;rcases cd B with⟨cf,B⟩|⟨cf,B⟩
      ·refine an I fun a I=>?_;refine aK (J:=fun a w=>∃ (F:(List aj)) (D E:Int) (r:LV),St L (MD [aI b dm]) T 66 [(0,b),(1,.func (.func eq_g) #[] eq_k.toArray),(5,am D),(6,g),(7,am E)] [aI b r] [au aD r F,GK 6 b g (Int.toNat e) (Int.toNat (d.length:Int)) d.length,bK,eq_P] a w/\jL F D E=some f2) ?_ ?_
       ·refine an I fun a I=>?_;refine ax ?_;refine dr [] I fun w hQ I=>?_;refine gE [0,1,2] I fun a I=>?_;obtain⟨ch,B⟩:=a6 B;obtain⟨ck,B⟩:=a6 B;obtain⟨t,Z,B⟩:=bd B;obtain⟨b6,ei,h0,fl,cv,d0,d1,d2⟩:=uX (R:=aD) I gc cC 0 rfl 0 rfl I.g1 ch ck Z;obtain⟨Q,rfl,ao⟩:=cv;replace I:=I.fS ao;refine dq 3 I (v:=pt b6 ei) (d2 rfl rfl) fun a I=>?_;refine dq 4 I (l:=[]) (v:=.agg (bD t Q).toArray) (bY (k:=0) I cC 0 rfl d0 d1 rfl cc (us:=(bD t Q)) rfl rfl (fun h=>by cases h)) fun a I=>?_;refine gE [5,6,7] I fun a I=>?_;obtain⟨d3,B⟩:=a6 B;obtain⟨d4,B⟩:=a6 B;obtain⟨u,a0,B⟩:=bd B;obtain⟨b7,ek,h1,fn,d6,dc,dk,dl⟩:=uX (R:=aD) I gc cC 0 rfl 1 rfl I.g2 d3 d4 a0;obtain⟨S,rfl,av⟩:=d6;replace I:=I.fS av;refine dq 8 I (v:=pt b7 ek) (dl rfl rfl) fun a I=>?_;refine dq 9 I (l:=[]) (v:=.agg (bD u S).toArray) (bY (k:=0) I cC 0 rfl dc dk rfl cc (us:=(bD u S)) rfl rfl (fun h=>by cases h)) fun a I=>?_;obtain⟨h4,ab,B⟩:=bd B;refine e1 10 (qn (cap:=eq_k) I rfl H rfl rfl (M _ _ I.dlt I.g4 I.g5 t u _ I.g1 _ I.g0 _ ab) fun _ w C a O U=>⟨jx (O),?_⟩);obtain rfl:=C;have I:=fA U;refine gE [11] I fun a I=>?_;refine eD ?_;refine an I fun a I=>?_;rcases cd B with⟨dn,B⟩|⟨dn,B⟩
        ·refine an I fun a I=>?_;obtain⟨ds,B⟩:=a6 B;obtain⟨e0,B⟩:=a6 B;obtain⟨x,a1,B⟩:=bd B;obtain⟨b8,el,h2,fr,e2,e3,e4,e5⟩:=uX (R:=aD) I gc cC 0 rfl 2 rfl I.g3 ds e0 a1;obtain⟨V,rfl,b0⟩:=e2;replace I:=I.fS b0;refine wl rfl (ky (v:=pt b8 el) I (e5 rfl rfl) rfl rfl fun a I=>?_);refine qy I (bY (k:=0) I cC 0 rfl e3 e4 rfl id (us:=(bD x V)) rfl rfl (fun h=>by cases h)) fun a I=>?_;obtain⟨bb,K,B⟩:=bd B;refine wl rfl (dK (R:=aD) I gc cC rfl rfl 0 rfl 3 rfl K rfl fun f5 gu h3 fs e6 e7 e8 a I=>?_);obtain⟨eq,rfl,b1⟩:=e6;replace I:=I.fS b1;refine wl rfl (ig (R:=aD) (k:=0) (cs:=(bD bb eq)) (us:=(bD x V)) (x':=x) I rfl rfl rfl cC 0 rfl 4 rfl e7 e8 K (⟨_,rfl,I.g0⟩) rfl rfl (⟨_,rfl,I.g1⟩) fun fu w O I=>?_);exact fz
        exact fz
       rintro a w ⟨F,D,E,r,I,B⟩;unfold jL at B;exact fz
      refine an I fun a I=>?_;cases B
      have hr:=hf2 _ rfl;subst hr;have B:jK j i=some Y:=hMo2;exact fin
     rintro a w ⟨f,m,o,I,B⟩;unfold jK at B;refine an I fun a I=>?_;obtain⟨gb,a4,B⟩:=bd B;obtain⟨W,g7,ea,eb⟩:=JS (R:=aD) I gc cC 0 rfl 0 rfl a4;replace I:=I.fact (GK 6 b W (Int.toNat m) (Int.toNat (f.length:Int)) f.length) ea;refine wl rfl (ky (v:=W) I (eb (k2:=.i64) rfl (.inl ⟨_,rfl,rfl⟩) (.inr ⟨rfl,rfl⟩)) rfl rfl fun a I=>?_);refine wl rfl (J1 (R:=aD) (z0:=(aj.mk (ac.mk (ae.mk (0:Int) cu) [] cu (0:Int)) cu)) (xs:=f) I Hl Fn rfl 0 rfl 1 rfl I.g0 (⟨_,rfl,aQ.nil_ _ _ _⟩) fun fM w O I=>?_);refine an I fun a I=>?_;obtain⟨gi,a5,B⟩:=bd B;refine wl rfl (MA (R:=aD) (k1:=.i64) I gc cC rfl (.inr ⟨rfl,rfl⟩) (.inl ⟨_,rfl,rfl⟩) 0 rfl 0 rfl a5 rfl fun er b9 a I=>?_);refine an I fun a I=>?_;cases B
     have hr:=hf1 _ rfl;subst hr;replace hMo1:=jX hMo1;have B:=hMo1;cases B
     refine aG I rfl (aF I rfl aH) ?_;have hZ:=I.sl [0] [0];exact⟨er,b9,rfl,hZ.g0,hZ.zd⟩
    exact fz
   rintro a w ⟨I,B⟩;unfold mA at B;exact fz
  exact fz
 rintro a w ⟨I,B⟩;unfold ql at B;refine an I fun a I=>?_;cases B
 refine aG I rfl (aF I rfl aH) ?_;have hZ:=I.sl [0] [0];exact⟨b,dm,rfl,hZ.g0,hZ.zd⟩
def rc (b:(List aj)):Option (List aj):=some (b)
def nR (c:Int) (b:(List aj)):Option (Fl ((List aj)×Int) ((List aj))):=some (.go (b,IntKind.i64.wrap (c+1)))
def eU (j:Int) (e:aj->aj->Option Int) (c:(List aj)) (b:Int):Option (Fl ((List aj)×Int) ((List aj))):=cond (decide (j<b)) ((bp c b).bind fun f=>(bp c (IntKind.i64.wrap (b-1))).bind fun g=>(e f g).bind fun i=>cond (decide (i<0)) ((bp c (IntKind.i64.wrap (b-1))).bind fun d=>(bp c b).bind fun h=>(bp c b).bind fun k=>(bp (c.set (Int.toNat b) d) (IntKind.i64.wrap (b-1))).bind fun l=>some (.go (((c.set (Int.toNat b) d).set (Int.toNat (IntKind.i64.wrap (b-1))) h),IntKind.i64.wrap (b-1)))) (some (.out c))) (some (.out c))
def nS (e f:Int) (d:aj->aj->Option Int) (c:(List aj)) (b:Int):Option (Fl ((List aj)×Int) ((List aj))):=cond (decide (b<f)) ((loop (fun s:(List aj)×Int=>eU e d s.1 s.2) (c,b)).bind fun r=>nR b r) (some (.out c))
def jY (d:aj->aj->Option Int) (b:(List aj)) (c e:Int):Option (List aj):=(loop (fun s:(List aj)×Int=>nS c e d s.1 s.2) (b,IntKind.i64.wrap (c+1))).bind fun r=>rc r
theorem wt (cmp_g:Nat) (P:aR aO cmp_g=true) (cmp_k:bG) (cmp_P:co) (m:aj->aj->Option Int) (V:∀ (T:Nat->Prop) (L:World) (hT:TW T L) (hLv:dC T L) (hP:cmp_P.p T L) (x0 x1:aj) (af:Value) (eq:aQ a8 T L af x0.X.v) (ag:Value) (er:aQ a8 T L ag x1.X.v) (y:Int) (B:m x0 x1=some y),bm aO No cmp_g ([.agg (bD x0 af).toArray,.agg (bD x1 ag).toArray]++cmp_k) L (fun v w'=>v=am y)) (K:(List aj)) (f:Int) (g:Int) (b:Value) (dm:bG) (hD:vy T L [aI b dm]) (e6:bf aD (dT T [aI b dm]) L dm K) (hLv:dC (dT T [aI b dm]) L) (hPcmp_:cmp_P.p (dT T [aI b dm]) L) (y:(List aj)) (B:jY m K f g=some y):bm aO (MD [aI b dm]) 144 [b,am f,am g,.func (.func cmp_g) #[] cmp_k.toArray] L (fun v w'=>∃ (eK:bG),v = .tuple #[]/\kl L w' [aI b dm] [aI b eK]/\bf aD (dT T [aI b eK]) w' eK y):=by
 refine eu (c:=_) Tryz.func144 rfl T 53 Tryz.ntmps144 hT rfl hD fun a I=>?_;replace I:=((I.fact cmp_P hPcmp_).fact bK hLv).fR e6;unfold jY at B;refine ip ?_;refine JX I fun a I=>?_;refine xu (J:=fun a w=>∃ (A:(List aj)) (j:LV),St L (MD [aI b dm]) T 53 [] [aI b j] [au aD j A,bK,cmp_P] a w/\rc A=some y) ?_ ?_
 ·refine an I fun a I=>?_;obtain⟨r1,e4,hMo1⟩:=bd B;refine bz _ (fun s a w=>∃ (o:(List aj)) (d:Int) (u:LV),(o,d)=s/\St L (MD [aI b dm]) T 53 [(0,b),(1,am f),(2,am g),(3,.func (.func cmp_g) #[] cmp_k.toArray),(8,am d)] [aI b u] [au aD u o,bK,cmp_P] a w) e4 ⟨_,_,_,rfl,I.mt [0] [0,1,2]⟩ ?_;rintro s a w f1 ⟨o,d,u,rfl,I⟩ B hf1;have B:nS f g m o d=some f1:=B;unfold nS at B;refine ax ?_;refine an I fun a I=>?_;rcases cd B with⟨b5,B⟩|⟨b5,B⟩
  ·refine an I fun a I=>?_;refine aK (J:=fun a w=>∃ (D:(List aj)) (x:LV),St L (MD [aI b dm]) T 53 [(0,b),(1,am f),(2,am g),(3,.func (.func cmp_g) #[] cmp_k.toArray),(8,am d)] [aI b x] [au aD x D,bK,cmp_P] a w/\nR d D=some f1) ?_ ?_
   ·refine an I fun a I=>?_;obtain⟨r2,e5,hMo2⟩:=bd B;refine bz _ (fun s a w=>∃ (n:(List aj)) (t:Int) (z:LV),(n,t)=s/\St L (MD [aI b dm]) T 53 [(0,b),(1,am f),(2,am g),(3,.func (.func cmp_g) #[] cmp_k.toArray),(8,am d),(9,am t)] [aI b z] [au aD z n,bK,cmp_P] a w) e5 ⟨_,_,_,rfl,I.mt [0] [0,1,2]⟩ ?_;rintro s a w f2 ⟨n,t,z,rfl,I⟩ B hf2;have B:eU f m n t=some f2:=B;unfold eU at B;refine ax ?_;refine ax ?_;refine dr [] I fun w hQ I=>?_;refine gE [0,1,2,3] I fun a I=>?_;rcases cd B with⟨e,B⟩|⟨e,B⟩
    ·refine gE [4,5,6] I fun a I=>?_;obtain⟨E,W,B⟩:=bd B;obtain⟨ak,d3,et,e7,b6,b7,b8,b9⟩:=cq (R:=aD) I gc cC 0 rfl 0 rfl W;obtain⟨Q,rfl,a2⟩:=b6;replace I:=I.fS a2;refine dg 7 I e (v:=pt ak d3) (b9 rfl rfl) fun a I=>?_;refine dg 8 I e (l:=[]) (v:=.agg (bD E Q).toArray) (bY (k:=0) I cC 0 rfl b7 b8 rfl cc (us:=(bD E Q)) rfl rfl (fun h=>by cases h)) fun a I=>?_;refine gE [9,10,11] I fun a I=>?_;obtain⟨F,Y,B⟩:=bd B;obtain⟨ao,d4,ex,e8,bb,bg,bi,bl⟩:=cq (R:=aD) I gc cC 0 rfl 1 rfl Y;obtain⟨S,rfl,a3⟩:=bb;replace I:=I.fS a3;refine dg 12 I e (v:=pt ao d4) (bl rfl rfl) fun a I=>?_;refine dg 13 I e (l:=[]) (v:=.agg (bD F S).toArray) (bY (k:=0) I cC 0 rfl bg bi rfl cc (us:=(bD F S)) rfl rfl (fun h=>by cases h)) fun a I=>?_;obtain⟨f4,a1,B⟩:=bd B;refine dp (i:=14) rfl (by kernel_rfl) I rfl rfl rfl e (qn (cap:=cmp_k) I rfl P rfl rfl (V _ _ I.dlt I.g3 I.g4 E F _ I.g1 _ I.g0 _ a1) fun _ w C a O U=>⟨jx (O),?_⟩);obtain rfl:=C;have I:=fA U;refine gE [15,16] I fun a I=>?_;refine eD ?_;refine an I fun a I=>?_;rcases cd B with⟨bs,B⟩|⟨bs,B⟩
     ·refine an I fun a I=>?_;refine ax ?_;refine an I fun a I=>?_;refine dr [(15,.blk (Value.ownBlock b)),(17,.blk (Value.ownBlock b))] I fun w hQ I=>?_;refine gE [0,1,2,3,4,5,6,7] I fun a I=>?_;obtain⟨q,Z,B⟩:=bd B;obtain⟨av,d6,ey,ea,bt,c1,c2,c3⟩:=cq (R:=aD) I gc cC 0 rfl 2 rfl Z;obtain⟨G,rfl,a4⟩:=bt;replace I:=I.fS a4;refine dq 8 I (v:=pt av d6) (c3 rfl rfl) fun a I=>?_;refine dq 9 I (l:=[]) (v:=.agg (bD q G).toArray) (bY (k:=0) I cC 0 rfl c1 c2 rfl cc (us:=(bD q G)) rfl rfl (fun h=>by cases h)) fun a I=>?_;refine gE [10,11] I fun a I=>?_;obtain⟨r,a0,B⟩:=bd B;obtain⟨b0,dc,eT,eb,c4,c5,c9,ca⟩:=cq (R:=aD) I gc cC 0 rfl 3 rfl a0;obtain⟨H,rfl,a5⟩:=c4;replace I:=I.fS a5;refine dq 12 I (v:=pt b0 dc) (ca rfl rfl) fun a I=>?_;refine dq 13 I (l:=[]) (v:=.agg (bD r H).toArray) (bY (k:=0) I cC 0 rfl c5 c9 rfl cc (us:=(bD r H)) rfl rfl (fun h=>by cases h)) fun a I=>?_;obtain⟨b3,M,B⟩:=bd B;obtain⟨b1,dk,eX,ed,cb,cf,ch,ck⟩:=cq (R:=aD) I gc cC 0 rfl 4 rfl M;obtain⟨dn,rfl,a9⟩:=cb;replace I:=I.fS a9;refine dq 14 I (v:=pt b1 dk) (ck rfl rfl) fun a I=>?_;refine e1 15 (ig (R:=aD) (k:=0) (cs:=(bD b3 dn)) (us:=(bD q G)) (x':=q) I rfl rfl rfl cC 0 rfl 5 rfl cf ch M (⟨_,rfl,I.g0⟩) rfl rfl (⟨_,rfl,I.g2⟩) fun eg w O I=>⟨qU rfl O pH,?_⟩);obtain⟨b4,N,B⟩:=bd B;obtain⟨b2,dl,f3,ei,cv,d0,d1,d2⟩:=cq (R:=aD) I gc cC 0 rfl 0 rfl N;obtain⟨ds,rfl,ab⟩:=cv;replace I:=I.fS ab;refine dq 16 I (v:=pt b2 dl) (d2 rfl rfl) fun a I=>?_;refine e1 17 (ig (R:=aD) (k:=0) (cs:=(bD b4 ds)) (us:=(bD r H)) (x':=r) I rfl rfl rfl cC 0 rfl 1 rfl d0 d1 N (⟨_,rfl,I.g0⟩) rfl rfl (⟨_,rfl,I.g3⟩) fun ek w O I=>⟨qU rfl O pH,?_⟩);refine eD ?_;exact fz
     exact fz
    refine gE [4,5,6,7,8,9,10,11,12,13,14,15,16] I fun a I=>?_;refine eD ?_;exact fz
   rintro a w ⟨D,x,I,B⟩;unfold nR at B;exact fz
  exact fz
 rintro a w ⟨A,j,I,B⟩;unfold rc at B;refine w6 ?_;cases B
 refine aG I Tryz.results144 aH ?_;have hZ:=I.sl [0] [0];exact⟨j,rfl,hZ.zd,hZ.g0⟩
def pz (b:(List aj)):Option (List aj):=some (b)
def lM (d e h:Int) (c:(List aj)) (b:Int):Option (Fl ((List aj)×Int) ((List aj))):=cond (decide (b<h)) ((bp c (IntKind.i64.wrap (e+b))).bind fun f=>(bp c (IntKind.i64.wrap (d+b))).bind fun g=>(bp c (IntKind.i64.wrap (d+b))).bind fun i=>(bp (c.set (Int.toNat (IntKind.i64.wrap (d+b))) f) (IntKind.i64.wrap (e+b))).bind fun j=>some (.go (((c.set (Int.toNat (IntKind.i64.wrap (d+b))) f).set (Int.toNat (IntKind.i64.wrap (e+b))) g),IntKind.i64.wrap (b+1)))) (some (.out c))
def eJ (f:aj->aj->Option Int) (b:(List aj)) (c d e:Int):Option (List aj):=(loop (fun s:(List aj)×Int=>lM c d e s.1 s.2) (b,0)).bind fun r=>pz r
theorem qR (cmp_g:Nat) (bg:aR aO cmp_g=true) (cmp_k:bG) (cmp_P:co) (A:aj->aj->Option Int) (bs:∀ (T:Nat->Prop) (L:World) (hT:TW T L) (hLv:dC T L) (hP:cmp_P.p T L) (x0 x1:aj) (M:Value) (ca:aQ a8 T L M x0.X.v) (N:Value) (cb:aQ a8 T L N x1.X.v) (y:Int) (B:A x0 x1=some y),bm aO No cmp_g ([.agg (bD x0 M).toArray,.agg (bD x1 N).toArray]++cmp_k) L (fun v w'=>v=am y)) (t:(List aj)) (q:Int) (r:Int) (z:Int) (b:Value) (dm:bG) (hD:vy T L [aI b dm]) (bl:bf aD (dT T [aI b dm]) L dm t) (hLv:dC (dT T [aI b dm]) L) (hPcmp_:cmp_P.p (dT T [aI b dm]) L) (y:(List aj)) (B:eJ A t q r z=some y):bm aO (MD [aI b dm]) 221 [b,am q,am r,am z,.func (.func cmp_g) #[] cmp_k.toArray] L (fun v w'=>∃ (eK:bG),v = .tuple #[]/\kl L w' [aI b dm] [aI b eK]/\bf aD (dT T [aI b eK]) w' eK y):=by
 refine eu (c:=_) Tryz.func221 rfl T 38 Tryz.ntmps221 hT rfl hD fun a I=>?_;replace I:=((I.fact cmp_P hPcmp_).fact bK hLv).fR bl;unfold eJ at B;refine ip ?_;refine JX I fun a I=>?_;refine xu (J:=fun a w=>∃ (m:(List aj)) (d:LV),St L (MD [aI b dm]) T 38 [] [aI b d] [au aD d m,bK,cmp_P] a w/\pz m=some y) ?_ ?_
 ·refine an I fun a I=>?_;obtain⟨r1,bi,hMo1⟩:=bd B;refine bz _ (fun s a w=>∃ (e:(List aj)) (i:Int) (j:LV),(e,i)=s/\St L (MD [aI b dm]) T 38 [(0,b),(1,am q),(2,am r),(3,am z),(10,am i)] [aI b j] [au aD j e,bK,cmp_P] a w) bi ⟨_,_,_,rfl,I.mt [0] [0,1,2]⟩ ?_;rintro s a w f1 ⟨e,i,j,rfl,I⟩ B hf1;have B:lM q r z e i=some f1:=B;unfold lM at B;refine ax ?_;refine an I fun a I=>?_;rcases cd B with⟨Z,B⟩|⟨Z,B⟩
  ·refine an I fun a I=>?_;refine ax ?_;refine an I fun a I=>?_;refine dr [(21,.blk (Value.ownBlock b)),(23,.blk (Value.ownBlock b))] I fun w hQ I=>?_;refine gE [0,1,2,3,4,5,6,7,8,9,10,11] I fun a I=>?_;obtain⟨f,D,B⟩:=bd B;obtain⟨P,b3,cf,bt,a0,a1,a2,a3⟩:=cq (R:=aD) I gc cC 0 rfl 0 rfl D;obtain⟨n,rfl,F⟩:=a0;replace I:=I.fS F;refine dq 12 I (v:=pt P b3) (a3 rfl rfl) fun a I=>?_;refine dq 13 I (l:=[]) (v:=.agg (bD f n).toArray) (bY (k:=0) I cC 0 rfl a1 a2 rfl cc (us:=(bD f n)) rfl rfl (fun h=>by cases h)) fun a I=>?_;refine gE [14,15,16,17] I fun a I=>?_;obtain⟨g,E,B⟩:=bd B;obtain⟨Q,b4,ch,c1,a4,a5,a9,ab⟩:=cq (R:=aD) I gc cC 0 rfl 1 rfl E;obtain⟨o,rfl,G⟩:=a4;replace I:=I.fS G;refine dq 18 I (v:=pt Q b4) (ab rfl rfl) fun a I=>?_;refine dq 19 I (l:=[]) (v:=.agg (bD g o).toArray) (bY (k:=0) I cC 0 rfl a5 a9 rfl cc (us:=(bD g o)) rfl rfl (fun h=>by cases h)) fun a I=>?_;obtain⟨W,u,B⟩:=bd B;obtain⟨S,b5,ck,c2,af,ag,ak,ao⟩:=cq (R:=aD) I gc cC 0 rfl 2 rfl u;obtain⟨b7,rfl,H⟩:=af;replace I:=I.fS H;refine dq 20 I (v:=pt S b5) (ao rfl rfl) fun a I=>?_;refine e1 21 (ig (R:=aD) (k:=0) (cs:=(bD W b7)) (us:=(bD f n)) (x':=f) I rfl rfl rfl cC 0 rfl 3 rfl ag ak u (⟨_,rfl,I.g0⟩) rfl rfl (⟨_,rfl,I.g2⟩) fun c3 w O I=>⟨qU rfl O pH,?_⟩);obtain⟨Y,x,B⟩:=bd B;obtain⟨V,b6,cv,c4,av,b0,b1,b2⟩:=cq (R:=aD) I gc cC 0 rfl 0 rfl x;obtain⟨b8,rfl,K⟩:=av;replace I:=I.fS K;refine dq 22 I (v:=pt V b6) (b2 rfl rfl) fun a I=>?_;refine e1 23 (ig (R:=aD) (k:=0) (cs:=(bD Y b8)) (us:=(bD g o)) (x':=g) I rfl rfl rfl cC 0 rfl 1 rfl b0 b1 x (⟨_,rfl,I.g0⟩) rfl rfl (⟨_,rfl,I.g3⟩) fun c5 w O I=>⟨qU rfl O pH,?_⟩);refine eD ?_;exact fz
  exact fz
 rintro a w ⟨m,d,I,B⟩;unfold pz at B;refine w6 ?_;cases B
 refine aG I Tryz.results221 aH ?_;have hZ:=I.sl [0] [0];exact⟨d,rfl,hZ.zd,hZ.g0⟩
def jH (c:Int) (d:aj->aj->Option Int) (e:(List aj)) (b:Int):Option (List aj):=(eJ d e (IntKind.i64.wrap (c-b)) c b).bind fun f=>some (f)
def dR (e:Int) (f:aj->aj->Option Int) (d:(List aj)) (b c:Int):Option (Fl ((List aj)×Int×Int) ((List aj)×Int)):=cond (b != c) (cond (decide (c<b)) ((eJ f d (IntKind.i64.wrap (e-b)) e c).bind fun g=>some (.go (g,IntKind.i64.wrap (b-c),c))) ((eJ f d (IntKind.i64.wrap (e-b)) (IntKind.i64.wrap ((IntKind.i64.wrap (e+c))-b)) b).bind fun h=>some (.go (h,b,IntKind.i64.wrap (c-b))))) (some (.out (d,b)))
def qN (c:aj->aj->Option Int) (d:(List aj)) (e b f:Int):Option (List aj):=(loop (fun s:(List aj)×Int×Int=>dR b c s.1 s.2.1 s.2.2) (d,IntKind.i64.wrap (b-e),IntKind.i64.wrap (f-b))).bind fun r=>jH b c r.1 r.2
theorem Db (cmp_g:Nat) (i:aR aO cmp_g=true) (cmp_k:bG) (cmp_P:co) (e:aj->aj->Option Int) (l:∀ (T:Nat->Prop) (L:World) (hT:TW T L) (hLv:dC T L) (hP:cmp_P.p T L) (Q R:aj) (E:Value) (a0:aQ a8 T L E Q.X.v) (F:Value) (a1:aQ a8 T L F R.X.v) (y:Int) (B:e Q R=some y),bm aO No cmp_g ([.agg (bD Q E).toArray,.agg (bD R F).toArray]++cmp_k) L (fun v w'=>v=am y)) (o:(List aj)) (A:Int) (b:Int) (D:Int) (g:Value) (dm:bG) (hD:vy T L [aI g dm]) (V:bf aD (dT T [aI g dm]) L dm o) (hLv:dC (dT T [aI g dm]) L) (hPcmp_:cmp_P.p (dT T [aI g dm]) L) (y:(List aj)) (B:qN e o A b D=some y):bm aO (MD [aI g dm]) 188 [g,am A,am b,am D,.func (.func cmp_g) #[] cmp_k.toArray] L (fun v w'=>∃ (eK:bG),v = .tuple #[]/\kl L w' [aI g dm] [aI g eK]/\bf aD (dT T [aI g eK]) w' eK y):=by
 refine eu (c:=_) Tryz.func188 rfl T 58 Tryz.ntmps188 hT rfl hD fun a I=>?_;replace I:=((I.fact cmp_P hPcmp_).fact bK hLv).fR V;unfold qN at B;refine an I fun a I=>?_;refine aK (J:=fun a w=>∃ (k:(List aj)) (j:Int) (m:LV),St L (MD [aI g dm]) T 58 [(0,g),(2,am b),(4,.func (.func cmp_g) #[] cmp_k.toArray),(10,am j)] [aI g m] [au aD m k,bK,cmp_P] a w/\jH b e k j=some y) ?_ ?_
 ·refine an I fun a I=>?_;obtain⟨r1,S,hMo1⟩:=bd B;refine bz _ (fun s a w=>∃ (f:(List aj)) (d h:Int) (n:LV),(f,d,h)=s/\St L (MD [aI g dm]) T 58 [(0,g),(2,am b),(4,.func (.func cmp_g) #[] cmp_k.toArray),(10,am d),(11,am h)] [aI g n] [au aD n f,bK,cmp_P] a w) S ⟨_,_,_,_,rfl,I.mt [0] [0,1,2]⟩ ?_;rintro s a w Z ⟨f,d,h,n,rfl,I⟩ B hf1;have B:dR b e f d h=some Z:=B;unfold dR at B;refine ax ?_;refine an I fun a I=>?_;rcases cd B with⟨H,B⟩|⟨H,B⟩
  ·refine an I fun a I=>?_;rcases cd B with⟨K,B⟩|⟨K,B⟩
   ·refine an I fun a I=>?_;obtain⟨a3,x,B⟩:=bd B;replace I:=I.re [0] [];refine wl rfl (bU I Me rfl rfl (qR _ _ I.zt cmp_g i cmp_k cmp_P e l f (IntKind.i64.wrap (b-d)) b h _ _ I.dok (I.getD 0 rfl) (I.getD 1 rfl) (I.getD 2 rfl) _ x) fun _ w C a O U=>?_);obtain⟨W,he,M,q⟩:=C;obtain rfl:=he.symm;have I:=U _ M;replace I:=I.fR (q.keep (aw _ _) (aC _));exact fz
   refine an I fun a I=>?_;obtain⟨a4,z,B⟩:=bd B;replace I:=I.re [0] [];refine wl rfl (bU I Me rfl rfl (qR _ _ I.zt cmp_g i cmp_k cmp_P e l f (IntKind.i64.wrap (b-d)) (IntKind.i64.wrap ((IntKind.i64.wrap (b+h))-d)) d _ _ I.dok (I.getD 0 rfl) (I.getD 1 rfl) (I.getD 2 rfl) _ z) fun _ w C a O U=>?_);obtain⟨Y,he,N,r⟩:=C;obtain rfl:=he.symm;have I:=U _ N;replace I:=I.fR (r.keep (aw _ _) (aC _));exact fz
  refine an I fun a I=>?_;cases B
  have hr:=hf1 _ rfl;subst hr;have B:jH b e f d=some y:=hMo1;exact fin
 rintro a w ⟨k,j,m,I,B⟩;unfold jH at B;refine an I fun a I=>?_;obtain⟨a2,u,B⟩:=bd B;replace I:=I.re [0] [];refine wl rfl (bU I Me rfl rfl (qR _ _ I.zt cmp_g i cmp_k cmp_P e l k (IntKind.i64.wrap (b-j)) b j _ _ I.dok (I.getD 0 rfl) (I.getD 1 rfl) (I.getD 2 rfl) _ u) fun _ w C a O U=>?_);obtain⟨G,he,P,t⟩:=C;obtain rfl:=he.symm;have I:=U _ P;replace I:=I.fR (t.keep (aw _ _) (aC _));refine an I fun a I=>?_;refine w6 ?_;cases B
 refine aG I Tryz.results188 aH ?_;have hZ:=I.sl [0] [0];exact⟨G,rfl,hZ.zd,hZ.g0⟩
def CD (erec:(aj->aj->Option Int)->(List aj)->Int->Int->Int->Option (List aj)):Prop:=∀ (T:Nat->Prop) (L:World) (hT:∀ k,T k->k<L.heap.size) (x4_g:Nat) (q:aR aO x4_g=true) (x4_k:bG) (x4_P:co) (o:aj->aj->Option Int) (z:∀ (T:Nat->Prop) (L:World) (hT:∀ k,T k->k<L.heap.size) (hLv:dC T L) (hP:x4_P.p T L) (f g:aj) (h:Value) (r:aQ a8 T L h f.X.v) (i:Value) (s:aQ a8 T L i g.X.v) (y:Int) (B:o f g=some y),bm aO No x4_g ([.agg #[am f.X.b.k,bc f.X.b.x,h,bc f.X.t,am f.X.a,bc f.i1],.agg #[am g.X.b.k,bc g.X.b.x,i,bc g.X.t,am g.X.a,bc g.i1]]++x4_k) L (fun v w'=>v=am y)) (j:(List aj)) (l:Int) (m:Int) (n:Int) (d:Value) (c:bG) (hD:vy T L [.own d 108 aD.size c]) (u:bf aD (dT T [.own d 108 aD.size c]) L c j) (hLv:dC (dT T [.own d 108 aD.size c]) L) (hPx4_:x4_P.p (dT T [.own d 108 aD.size c]) L) (y:(List aj)) (B:erec o j l m n=some y),bm aO (MD [.own d 108 aD.size c]) 145 [d,am l,am m,am n,.func (.func x4_g) #[] x4_k.toArray] L (fun v w'=>∃ (e:bG),v = .tuple #[]/\kl L w' [.own d 108 aD.size c] [.own d 108 aD.size e]/\bf aD (dT T [.own d 108 aD.size e]) w' e y)
def gJ (erec:(aj->aj->Option Int)->(List aj)->Int->Int->Int->Option (List aj)) (d i b:Int) (e:aj->aj->Option Int) (g:Int) (c:(List aj)) (f:Bool):Option (List aj):=cond f ((erec e c (IntKind.i64.wrap (cS .u64 (IntKind.u64.wrap (IntKind.i64.wrap (d+b))) 1)) (IntKind.i64.wrap ((IntKind.i64.wrap ((IntKind.i64.wrap (cS .u64 (IntKind.u64.wrap (IntKind.i64.wrap (d+b))) 1))+i))-g)) b).bind fun h=>some (h)) (some (c))
def fq (erec:(aj->aj->Option Int)->(List aj)->Int->Int->Int->Option (List aj)) (d e b:Int) (f:aj->aj->Option Int) (c:Int) (g:(List aj)):Option (List aj):=cond (decide ((IntKind.i64.wrap (cS .u64 (IntKind.u64.wrap (IntKind.i64.wrap (d+b))) 1):Int)<(IntKind.i64.wrap ((IntKind.i64.wrap ((IntKind.i64.wrap (cS .u64 (IntKind.u64.wrap (IntKind.i64.wrap (d+b))) 1))+e))-c)))) (gJ erec d e b f c g (decide ((IntKind.i64.wrap ((IntKind.i64.wrap ((IntKind.i64.wrap (cS .u64 (IntKind.u64.wrap (IntKind.i64.wrap (d+b))) 1))+e))-c):Int)<b))) (gJ erec d e b f c g false)
def gK (erec:(aj->aj->Option Int)->(List aj)->Int->Int->Int->Option (List aj)) (d g e:Int) (b:aj->aj->Option Int) (c:Int) (f:(List aj)) (h:Bool):Option (List aj):=cond h ((erec b f d c (IntKind.i64.wrap (cS .u64 (IntKind.u64.wrap (IntKind.i64.wrap (d+e))) 1))).bind fun i=>fq erec d g e b c i) (fq erec d g e b c f)
def ft (erec:(aj->aj->Option Int)->(List aj)->Int->Int->Int->Option (List aj)) (c g d:Int) (e:aj->aj->Option Int) (b:Int) (f:(List aj)):Option (List aj):=cond (decide (c<b)) (gK erec c g d e b f (decide (b<(IntKind.i64.wrap (cS .u64 (IntKind.u64.wrap (IntKind.i64.wrap (c+d))) 1))))) (gK erec c g d e b f false)
def gL (erec:(aj->aj->Option Int)->(List aj)->Int->Int->Int->Option (List aj)) (d:(List aj)) (f e g:Int) (c:aj->aj->Option Int) (b:Int) (h:Bool):Option (List aj):=cond h ((qN c d b e (IntKind.i64.wrap ((IntKind.i64.wrap ((IntKind.i64.wrap (cS .u64 (IntKind.u64.wrap (IntKind.i64.wrap (f+g))) 1))+e))-b))).bind fun i=>ft erec f e g c b i) (ft erec f e g c b d)
def gM (erec:(aj->aj->Option Int)->(List aj)->Int->Int->Int->Option (List aj)) (d:(List aj)) (e c f:Int) (g:aj->aj->Option Int) (b:Int):Option (List aj):=cond (decide (b<c)) (gL erec d e c f g b (decide (c<(IntKind.i64.wrap ((IntKind.i64.wrap ((IntKind.i64.wrap (cS .u64 (IntKind.u64.wrap (IntKind.i64.wrap (e+f))) 1))+c))-b))))) (gL erec d e c f g b false)
def fv (d:(List aj)) (i k j:Int) (e:aj->aj->Option Int) (b c:Int):Option (Fl (Int×Int) (Int)):=cond (decide (b<c)) ((bp d (IntKind.i64.wrap ((IntKind.i64.wrap ((IntKind.i64.wrap ((IntKind.i64.wrap (cS .u64 (IntKind.u64.wrap (IntKind.i64.wrap (i+j))) 1))+k))-1))-(IntKind.i64.wrap (cS .u64 (IntKind.u64.wrap (IntKind.i64.wrap (b+c))) 1))))).bind fun f=>(bp d (IntKind.i64.wrap (cS .u64 (IntKind.u64.wrap (IntKind.i64.wrap (b+c))) 1))).bind fun g=>(e f g).bind fun h=>cond (!(decide (h<0))) (some (.go (IntKind.i64.wrap ((IntKind.i64.wrap (cS .u64 (IntKind.u64.wrap (IntKind.i64.wrap (b+c))) 1))+1),c))) (some (.go (b,IntKind.i64.wrap (cS .u64 (IntKind.u64.wrap (IntKind.i64.wrap (b+c))) 1))))) (some (.out b))
def gN (erec:(aj->aj->Option Int)->(List aj)->Int->Int->Int->Option (List aj)) (b:(List aj)) (d f e:Int) (c:aj->aj->Option Int) (h g:Int):Option (List aj):=(loop (fun s:Int×Int=>fv b d f e c s.1 s.2) (h,g)).bind fun r=>gM erec b d f e c r
def mK (erec:(aj->aj->Option Int)->(List aj)->Int->Int->Int->Option (List aj)) (e:(List aj)) (b d c:Int) (f:aj->aj->Option Int):Option (List aj):=cond (decide ((IntKind.i64.wrap (cS .u64 (IntKind.u64.wrap (IntKind.i64.wrap (b+c))) 1):Int)<d)) (gN erec e b d c f (IntKind.i64.wrap ((IntKind.i64.wrap ((IntKind.i64.wrap (cS .u64 (IntKind.u64.wrap (IntKind.i64.wrap (b+c))) 1))+d))-c)) (IntKind.i64.wrap (cS .u64 (IntKind.u64.wrap (IntKind.i64.wrap (b+c))) 1))) (gN erec e b d c f b d)
def lN (b:(List aj)):Option (List aj):=some (b)
def eO (f:Int) (c:(List aj)) (b:Int):Option (Fl ((List aj)×Int) ((List aj))):=cond (decide (f<b)) ((bp c (IntKind.i64.wrap (b-1))).bind fun d=>(bp c b).bind fun e=>(bp c b).bind fun g=>(bp (c.set (Int.toNat b) d) (IntKind.i64.wrap (b-1))).bind fun h=>some (.go (((c.set (Int.toNat b) d).set (Int.toNat (IntKind.i64.wrap (b-1))) e),IntKind.i64.wrap (b-1)))) (some (.out c))
def lO (b:(List aj)) (d c:Int):Option (List aj):=(loop (fun s:(List aj)×Int=>eO c s.1 s.2) (b,d)).bind fun r=>lN r
def eP (d:(List aj)) (i:Int) (e:aj->aj->Option Int) (b c:Int):Option (Fl (Int×Int) (Int)):=cond (decide (b<c)) ((bp d i).bind fun f=>(bp d (IntKind.i64.wrap (cS .u64 (IntKind.u64.wrap (IntKind.i64.wrap (b+c))) 1))).bind fun g=>(e f g).bind fun h=>cond (!(decide (h<0))) (some (.go (IntKind.i64.wrap ((IntKind.i64.wrap (cS .u64 (IntKind.u64.wrap (IntKind.i64.wrap (b+c))) 1))+1),c))) (some (.go (b,IntKind.i64.wrap (cS .u64 (IntKind.u64.wrap (IntKind.i64.wrap (b+c))) 1))))) (some (.out b))
def jj (erec:(aj->aj->Option Int)->(List aj)->Int->Int->Int->Option (List aj)) (b:(List aj)) (e c f:Int) (d:aj->aj->Option Int):Option (List aj):=cond ((IntKind.i64.wrap (f-c):Int)==1) ((loop (fun s:Int×Int=>eP b c d s.1 s.2) (e,c)).bind fun r=>lO b c r) (mK erec b e c f d)
def lP (b:(List aj)):Option (List aj):=some (b)
def eQ (f:Int) (c:(List aj)) (b:Int):Option (Fl ((List aj)×Int) ((List aj))):=cond (decide (b<(IntKind.i64.wrap (f-1)))) ((bp c (IntKind.i64.wrap (b+1))).bind fun d=>(bp c b).bind fun e=>(bp c b).bind fun g=>(bp (c.set (Int.toNat b) d) (IntKind.i64.wrap (b+1))).bind fun h=>some (.go (((c.set (Int.toNat b) d).set (Int.toNat (IntKind.i64.wrap (b+1))) e),IntKind.i64.wrap (b+1)))) (some (.out c))
def lQ (b:(List aj)) (d c:Int):Option (List aj):=(loop (fun s:(List aj)×Int=>eQ c s.1 s.2) (b,d)).bind fun r=>lP r
def eR (d:(List aj)) (i:Int) (e:aj->aj->Option Int) (b c:Int):Option (Fl (Int×Int) (Int)):=cond (decide (b<c)) ((bp d (IntKind.i64.wrap (cS .u64 (IntKind.u64.wrap (IntKind.i64.wrap (b+c))) 1))).bind fun f=>(bp d i).bind fun g=>(e f g).bind fun h=>cond (decide (h<0)) (some (.go (IntKind.i64.wrap ((IntKind.i64.wrap (cS .u64 (IntKind.u64.wrap (IntKind.i64.wrap (b+c))) 1))+1),c))) (some (.go (b,IntKind.i64.wrap (cS .u64 (IntKind.u64.wrap (IntKind.i64.wrap (b+c))) 1))))) (some (.out b))
def dO (d:aj->aj->Option Int) (erec:(aj->aj->Option Int)->(List aj)->Int->Int->Int->Option (List aj)) (b:(List aj)) (c e f:Int):Option (List aj):=cond ((IntKind.i64.wrap (e-c):Int)==1) ((loop (fun s:Int×Int=>eR b c d s.1 s.2) (e,f)).bind fun r=>lQ b c r) (jj erec b c e f d)
theorem AV (cmp_g:Nat) (m:aR aO cmp_g=true) (cmp_k:bG) (cmp_P:co) (j:aj->aj->Option Int) (n:∀ (T:Nat->Prop) (L:World) (hT:TW T L) (hLv:dC T L) (hP:cmp_P.p T L) (x0 x1:aj) (ei:Value) (nl:aQ a8 T L ei x0.X.v) (ek:Value) (nm:aQ a8 T L ek x1.X.v) (y:Int) (B:j x0 x1=some y),bm aO No cmp_g ([.agg (bD x0 ei).toArray,.agg (bD x1 ek).toArray]++cmp_k) L (fun v w'=>v=am y)) (erec:(aj->aj->Option Int)->(List aj)->Int->Int->Int->Option (List aj)) (herec:CD erec) (f:(List aj)) (b:Int) (g:Int) (d:Int) (e:Value) (dm:bG) (hD:vy T L [aI e dm]) (lb:bf aD (dT T [aI e dm]) L dm f) (hLv:dC (dT T [aI e dm]) L) (hPcmp_:cmp_P.p (dT T [aI e dm]) L) (y:(List aj)) (B:dO j erec f b g d=some y):bm aO (MD [aI e dm]) 145 [e,am b,am g,am d,.func (.func cmp_g) #[] cmp_k.toArray] L (fun v w'=>∃ (eK:bG),v = .tuple #[]/\kl L w' [aI e dm] [aI e eK]/\bf aD (dT T [aI e eK]) w' eK y):=by
 refine eu (c:=_) Tryz.func145 rfl T 220 Tryz.ntmps145 hT rfl hD fun a I=>?_;replace I:=((I.fact cmp_P hPcmp_).fact bK hLv).fR lb;unfold dO at B;refine aK (J:=fun a w=>St L (MD [aI e dm]) T 220 [(0,e),(1,am b),(2,am g),(3,am d),(4,.func (.func cmp_g) #[] cmp_k.toArray)] [aI e dm] [au aD dm f,bK,cmp_P] a w/\jj erec f b g d j=some y) ?_ ?_
 ·refine an I fun a I=>?_;rcases cd B with⟨fM,B⟩|⟨fM,B⟩
  ·refine an I fun a I=>?_;refine aK (J:=fun a w=>∃ (z:Int),St L (MD [aI e dm]) T 220 [(0,e),(1,am b),(10,am z)] [aI e dm] [au aD dm f,bK,cmp_P] a w/\lQ f b z=some y) ?_ ?_
   ·refine an I fun a I=>?_;obtain⟨r1,o,hMo1⟩:=bd B;refine bz _ (fun s a w=>∃ (Q V:Int),(Q,V)=s/\St L (MD [aI e dm]) T 220 [(0,e),(1,am b),(4,.func (.func cmp_g) #[] cmp_k.toArray),(10,am Q),(11,am V)] [aI e dm] [au aD dm f,bK,cmp_P] a w) o ⟨_,_,rfl,I.mt [0] [0,1,2]⟩ ?_;rintro s a w N ⟨Q,V,rfl,I⟩ B hf1;have B:eR f b j Q V=some N:=B;unfold eR at B;refine ax ?_;refine an I fun a I=>?_;rcases cd B with⟨g5,B⟩|⟨g5,B⟩
    ·refine an I fun a I=>?_;refine qy I (xz I rfl rfl rfl) fun a I=>?_;refine an I fun a I=>?_;refine ax ?_;refine dr [] I fun w hQ I=>?_;refine gE [0,1,2] I fun a I=>?_;obtain⟨ag,d0,B⟩:=bd B;obtain⟨el,ib,no,le,g6,g7,g8,g9⟩:=cq (R:=aD) I gc cC 0 rfl 0 rfl d0;obtain⟨bs,rfl,dl⟩:=g6;replace I:=I.fS dl;refine dq 3 I (v:=pt el ib) (g9 rfl rfl) fun a I=>?_;refine dq 4 I (l:=[]) (v:=.agg (bD ag bs).toArray) (bY (k:=0) I cC 0 rfl g7 g8 rfl cc (us:=(bD ag bs)) rfl rfl (fun h=>by cases h)) fun a I=>?_;refine gE [5,6] I fun a I=>?_;obtain⟨ak,d1,B⟩:=bd B;obtain⟨eq,ih,ns,ll,gb,gi,gs,gu⟩:=cq (R:=aD) I gc cC 0 rfl 1 rfl d1;obtain⟨bt,rfl,dn⟩:=gb;replace I:=I.fS dn;refine dq 7 I (v:=pt eq ih) (gu rfl rfl) fun a I=>?_;refine dq 8 I (l:=[]) (v:=.agg (bD ak bt).toArray) (bY (k:=0) I cC 0 rfl gi gs rfl cc (us:=(bD ak bt)) rfl rfl (fun h=>by cases h)) fun a I=>?_;obtain⟨p6,dk,B⟩:=bd B;refine e1 9 (qn (cap:=cmp_k) I rfl m rfl rfl (n _ _ I.dlt I.g3 I.g4 ag ak _ I.g1 _ I.g0 _ dk) fun _ w C a O U=>⟨jx (O),?_⟩);obtain rfl:=C;have I:=fA U;refine gE [10] I fun a I=>?_;refine eD ?_;exact fz
    exact fz
   rintro a w ⟨z,I,B⟩;unfold lQ at B;refine aK (J:=fun a w=>∃ (a4:(List aj)) (A:LV),St L (MD [aI e dm]) T 220 [] [aI e A] [au aD A a4,bK,cmp_P] a w/\lP a4=some y) ?_ ?_
   ·refine an I fun a I=>?_;obtain⟨r1,o,hMo1⟩:=bd B;refine bz _ (fun s a w=>∃ (F:(List aj)) (Y:Int) (a1:LV),(F,Y)=s/\St L (MD [aI e dm]) T 220 [(0,e),(10,am z),(13,am Y)] [aI e a1] [au aD a1 F,bK,cmp_P] a w) o ⟨_,_,_,rfl,I.mt [0] [0,1,2]⟩ ?_;rintro s a w N ⟨F,Y,a1,rfl,I⟩ B hf1;have B:eQ z F Y=some N:=B;unfold eQ at B;refine ax ?_;refine an I fun a I=>?_;rcases cd B with⟨gx,B⟩|⟨gx,B⟩
    ·refine an I fun a I=>?_;refine ax ?_;refine an I fun a I=>?_;refine dr [(15,.blk (Value.ownBlock e)),(17,.blk (Value.ownBlock e))] I fun w hQ I=>?_;refine gE [0,1,2,3,4,5,6,7] I fun a I=>?_;obtain⟨K,ck,B⟩:=bd B;obtain⟨er,ii,nv,ls,gy,h0,h1,h2⟩:=cq (R:=aD) I gc cC 0 rfl 0 rfl ck;obtain⟨b3,rfl,ds⟩:=gy;replace I:=I.fS ds;refine dq 8 I (v:=pt er ii) (h2 rfl rfl) fun a I=>?_;refine dq 9 I (l:=[]) (v:=.agg (bD K b3).toArray) (bY (k:=0) I cC 0 rfl h0 h1 rfl cc (us:=(bD K b3)) rfl rfl (fun h=>by cases h)) fun a I=>?_;refine gE [10,11] I fun a I=>?_;obtain⟨M,cv,B⟩:=bd B;obtain⟨et,ja,o1,lt,h3,h4,h5,h6⟩:=cq (R:=aD) I gc cC 0 rfl 1 rfl cv;obtain⟨b4,rfl,e0⟩:=h3;replace I:=I.fS e0;refine dq 12 I (v:=pt et ja) (h6 rfl rfl) fun a I=>?_;refine dq 13 I (l:=[]) (v:=.agg (bD M b4).toArray) (bY (k:=0) I cC 0 rfl h4 h5 rfl cc (us:=(bD M b4)) rfl rfl (fun h=>by cases h)) fun a I=>?_;obtain⟨fs,b9,B⟩:=bd B;obtain⟨ex,jb,o2,lv,h7,h8,h9,ha⟩:=cq (R:=aD) I gc cC 0 rfl 2 rfl b9;obtain⟨kt,rfl,e2⟩:=h7;replace I:=I.fS e2;refine dq 14 I (v:=pt ex jb) (ha rfl rfl) fun a I=>?_;refine e1 15 (ig (R:=aD) (k:=0) (cs:=(bD fs kt)) (us:=(bD K b3)) (x':=K) I rfl rfl rfl cC 0 rfl 3 rfl h8 h9 b9 (⟨_,rfl,I.g0⟩) rfl rfl (⟨_,rfl,I.g2⟩) fun lz w O I=>⟨qU rfl O pH,?_⟩);obtain⟨fu,bb,B⟩:=bd B;obtain⟨ey,js,o3,m0,hc,hd,hf,hg⟩:=cq (R:=aD) I gc cC 0 rfl 0 rfl bb;obtain⟨l0,rfl,e3⟩:=hc;replace I:=I.fS e3;refine dq 16 I (v:=pt ey js) (hg rfl rfl) fun a I=>?_;refine e1 17 (ig (R:=aD) (k:=0) (cs:=(bD fu l0)) (us:=(bD M b4)) (x':=M) I rfl rfl rfl cC 0 rfl 1 rfl hd hf bb (⟨_,rfl,I.g0⟩) rfl rfl (⟨_,rfl,I.g3⟩) fun m1 w O I=>⟨qU rfl O pH,?_⟩);refine eD ?_;exact fz
    exact fz
   rintro a w ⟨a4,A,I,B⟩;unfold lP at B;refine an I fun a I=>?_;cases B
   refine aG I Tryz.results145 aH ?_;have hZ:=I.sl [0] [0];exact⟨A,rfl,hZ.zd,hZ.g0⟩
  exact fz
 rintro a w ⟨I,B⟩;unfold jj at B;refine aK (J:=fun a w=>St L (MD [aI e dm]) T 220 [(0,e),(1,am b),(2,am g),(3,am d),(4,.func (.func cmp_g) #[] cmp_k.toArray)] [aI e dm] [au aD dm f,bK,cmp_P] a w/\mK erec f b g d j=some y) ?_ ?_
 ·refine an I fun a I=>?_;rcases cd B with⟨hh,B⟩|⟨hh,B⟩
  ·refine an I fun a I=>?_;refine aK (J:=fun a w=>∃ (x:Int),St L (MD [aI e dm]) T 220 [(0,e),(2,am g),(14,am x)] [aI e dm] [au aD dm f,bK,cmp_P] a w/\lO f g x=some y) ?_ ?_
   ·refine an I fun a I=>?_;obtain⟨r1,o,hMo1⟩:=bd B;refine bz _ (fun s a w=>∃ (P S:Int),(P,S)=s/\St L (MD [aI e dm]) T 220 [(0,e),(2,am g),(4,.func (.func cmp_g) #[] cmp_k.toArray),(14,am P),(15,am S)] [aI e dm] [au aD dm f,bK,cmp_P] a w) o ⟨_,_,rfl,I.mt [0] [0,1,2]⟩ ?_;rintro s a w N ⟨P,S,rfl,I⟩ B hf1;have B:eP f g j P S=some N:=B;unfold eP at B;refine ax ?_;refine an I fun a I=>?_;rcases cd B with⟨hi,B⟩|⟨hi,B⟩
    ·refine an I fun a I=>?_;refine qy I (xz I rfl rfl rfl) fun a I=>?_;refine an I fun a I=>?_;refine ax ?_;refine dr [] I fun w hQ I=>?_;refine gE [0,1,2] I fun a I=>?_;obtain⟨ab,cf,B⟩:=bd B;obtain⟨eT,k0,o4,m2,hj,hk,hl,hm⟩:=cq (R:=aD) I gc cC 0 rfl 0 rfl cf;obtain⟨c1,rfl,e4⟩:=hj;replace I:=I.fS e4;refine dq 3 I (v:=pt eT k0) (hm rfl rfl) fun a I=>?_;refine dq 4 I (l:=[]) (v:=.agg (bD ab c1).toArray) (bY (k:=0) I cC 0 rfl hk hl rfl cc (us:=(bD ab c1)) rfl rfl (fun h=>by cases h)) fun a I=>?_;refine gE [5,6] I fun a I=>?_;obtain⟨af,ch,B⟩:=bd B;obtain⟨eX,k1,of,m3,hn,ho,hp,hq⟩:=cq (R:=aD) I gc cC 0 rfl 1 rfl ch;obtain⟨c2,rfl,e5⟩:=hn;replace I:=I.fS e5;refine dq 7 I (v:=pt eX k1) (hq rfl rfl) fun a I=>?_;refine dq 8 I (l:=[]) (v:=.agg (bD af c2).toArray) (bY (k:=0) I cC 0 rfl ho hp rfl cc (us:=(bD af c2)) rfl rfl (fun h=>by cases h)) fun a I=>?_;obtain⟨p5,dc,B⟩:=bd B;refine e1 9 (qn (cap:=cmp_k) I rfl m rfl rfl (n _ _ I.dlt I.g3 I.g4 ab af _ I.g1 _ I.g0 _ dc) fun _ w C a O U=>⟨jx (O),?_⟩);obtain rfl:=C;have I:=fA U;refine gE [10,11] I fun a I=>?_;refine eD ?_;exact fz
    exact fz
   rintro a w ⟨x,I,B⟩;unfold lO at B;refine aK (J:=fun a w=>∃ (a3:(List aj)) (D:LV),St L (MD [aI e dm]) T 220 [] [aI e D] [au aD D a3,bK,cmp_P] a w/\lN a3=some y) ?_ ?_
   ·refine an I fun a I=>?_;obtain⟨r1,o,hMo1⟩:=bd B;refine bz _ (fun s a w=>∃ (E:(List aj)) (W:Int) (a2:LV),(E,W)=s/\St L (MD [aI e dm]) T 220 [(0,e),(14,am x),(17,am W)] [aI e a2] [au aD a2 E,bK,cmp_P] a w) o ⟨_,_,_,rfl,I.mt [0] [0,1,2]⟩ ?_;rintro s a w N ⟨E,W,a2,rfl,I⟩ B hf1;have B:eO x E W=some N:=B;unfold eO at B;refine ax ?_;refine an I fun a I=>?_;rcases cd B with⟨hr,B⟩|⟨hr,B⟩
    ·refine an I fun a I=>?_;refine ax ?_;refine an I fun a I=>?_;refine dr [(15,.blk (Value.ownBlock e)),(17,.blk (Value.ownBlock e))] I fun w hQ I=>?_;refine gE [0,1,2,3,4,5,6,7] I fun a I=>?_;obtain⟨G,ca,B⟩:=bd B;obtain⟨f2,k2,oi,md,hs,ht,hu,hv⟩:=cq (R:=aD) I gc cC 0 rfl 0 rfl ca;obtain⟨b5,rfl,e6⟩:=hs;replace I:=I.fS e6;refine dq 8 I (v:=pt f2 k2) (hv rfl rfl) fun a I=>?_;refine dq 9 I (l:=[]) (v:=.agg (bD G b5).toArray) (bY (k:=0) I cC 0 rfl ht hu rfl cc (us:=(bD G b5)) rfl rfl (fun h=>by cases h)) fun a I=>?_;refine gE [10,11] I fun a I=>?_;obtain⟨H,cb,B⟩:=bd B;obtain⟨f3,k3,oj,mk,hw,hx,hy,hz⟩:=cq (R:=aD) I gc cC 0 rfl 1 rfl cb;obtain⟨b6,rfl,e7⟩:=hw;replace I:=I.fS e7;refine dq 12 I (v:=pt f3 k3) (hz rfl rfl) fun a I=>?_;refine dq 13 I (l:=[]) (v:=.agg (bD H b6).toArray) (bY (k:=0) I cC 0 rfl hx hy rfl cc (us:=(bD H b6)) rfl rfl (fun h=>by cases h)) fun a I=>?_;obtain⟨fn,b7,B⟩:=bd B;obtain⟨f4,k4,ok,ms,hA,hB,hC,hE⟩:=cq (R:=aD) I gc cC 0 rfl 2 rfl b7;obtain⟨l1,rfl,e8⟩:=hA;replace I:=I.fS e8;refine dq 14 I (v:=pt f4 k4) (hE rfl rfl) fun a I=>?_;refine e1 15 (ig (R:=aD) (k:=0) (cs:=(bD fn l1)) (us:=(bD G b5)) (x':=G) I rfl rfl rfl cC 0 rfl 3 rfl hB hC b7 (⟨_,rfl,I.g0⟩) rfl rfl (⟨_,rfl,I.g2⟩) fun mv w O I=>⟨qU rfl O pH,?_⟩);obtain⟨fr,b8,B⟩:=bd B;obtain⟨f5,k5,op,n0,hF,hG,hH,hI⟩:=cq (R:=aD) I gc cC 0 rfl 0 rfl b8;obtain⟨l2,rfl,ea⟩:=hF;replace I:=I.fS ea;refine dq 16 I (v:=pt f5 k5) (hI rfl rfl) fun a I=>?_;refine e1 17 (ig (R:=aD) (k:=0) (cs:=(bD fr l2)) (us:=(bD H b6)) (x':=H) I rfl rfl rfl cC 0 rfl 1 rfl hG hH b8 (⟨_,rfl,I.g0⟩) rfl rfl (⟨_,rfl,I.g3⟩) fun n1 w O I=>⟨qU rfl O pH,?_⟩);refine eD ?_;exact fz
    exact fz
   rintro a w ⟨a3,D,I,B⟩;unfold lN at B;refine an I fun a I=>?_;cases B
   refine aG I Tryz.results145 aH ?_;have hZ:=I.sl [0] [0];exact⟨D,rfl,hZ.zd,hZ.g0⟩
  exact fz
 rintro a w ⟨I,B⟩;unfold mK at B;refine an I fun a I=>?_;refine qy I (xz I rfl rfl rfl) fun a I=>?_;refine an I fun a I=>?_;refine aK (J:=fun a w=>∃ (b2 b1:Int),St L (MD [aI e dm]) T 220 [(0,e),(1,am b),(2,am g),(3,am d),(4,.func (.func cmp_g) #[] cmp_k.toArray),(18,am (IntKind.i64.wrap (cS .u64 (IntKind.u64.wrap (IntKind.i64.wrap (b+d))) 1))),(19,am (IntKind.i64.wrap ((IntKind.i64.wrap (cS .u64 (IntKind.u64.wrap (IntKind.i64.wrap (b+d))) 1))+g))),(20,am b2),(21,am b1)] [aI e dm] [au aD dm f,bK,cmp_P] a w/\gN erec f b g d j b2 b1=some y) ?_ ?_
 ·exact fz
 rintro a w ⟨b2,b1,I,B⟩;unfold gN at B;refine an I fun a I=>?_;refine aK (J:=fun a w=>∃ (i:Int),St L (MD [aI e dm]) T 220 [(0,e),(1,am b),(2,am g),(3,am d),(4,.func (.func cmp_g) #[] cmp_k.toArray),(18,am (IntKind.i64.wrap (cS .u64 (IntKind.u64.wrap (IntKind.i64.wrap (b+d))) 1))),(19,am (IntKind.i64.wrap ((IntKind.i64.wrap (cS .u64 (IntKind.u64.wrap (IntKind.i64.wrap (b+d))) 1))+g))),(20,am i)] [aI e dm] [au aD dm f,bK,cmp_P] a w/\gM erec f b g d j i=some y) ?_ ?_
 ·refine an I fun a I=>?_;obtain⟨r1,o,hMo1⟩:=bd B;refine bz _ (fun s a w=>∃ (a0 Z:Int),(a0,Z)=s/\St L (MD [aI e dm]) T 220 [(0,e),(1,am b),(2,am g),(3,am d),(4,.func (.func cmp_g) #[] cmp_k.toArray),(18,am (IntKind.i64.wrap (cS .u64 (IntKind.u64.wrap (IntKind.i64.wrap (b+d))) 1))),(19,am (IntKind.i64.wrap ((IntKind.i64.wrap (cS .u64 (IntKind.u64.wrap (IntKind.i64.wrap (b+d))) 1))+g))),(20,am a0),(21,am Z),(22,am (IntKind.i64.wrap ((IntKind.i64.wrap ((IntKind.i64.wrap (cS .u64 (IntKind.u64.wrap (IntKind.i64.wrap (b+d))) 1))+g))-1)))] [aI e dm] [au aD dm f,bK,cmp_P] a w) o ⟨_,_,rfl,I.mt [0] [0,1,2]⟩ ?_;rintro s a w N ⟨a0,Z,rfl,I⟩ B hf1;have B:fv f b g d j a0 Z=some N:=B;unfold fv at B;refine ax ?_;refine an I fun a I=>?_;rcases cd B with⟨hJ,B⟩|⟨hJ,B⟩
  ·refine an I fun a I=>?_;refine qy I (xz I rfl rfl rfl) fun a I=>?_;refine an I fun a I=>?_;refine ax ?_;refine dr [] I fun w hQ I=>?_;refine gE [0,1,2,3,4] I fun a I=>?_;obtain⟨a5,c5,B⟩:=bd B;obtain⟨f6,kk,os,n2,hK,hM,hN,hV⟩:=cq (R:=aD) I gc cC 0 rfl 0 rfl c5;obtain⟨c3,rfl,eb⟩:=hK;replace I:=I.fS eb;refine dq 5 I (v:=pt f6 kk) (hV rfl rfl) fun a I=>?_;refine dq 6 I (l:=[]) (v:=.agg (bD a5 c3).toArray) (bY (k:=0) I cC 0 rfl hM hN rfl cc (us:=(bD a5 c3)) rfl rfl (fun h=>by cases h)) fun a I=>?_;refine gE [7,8] I fun a I=>?_;obtain⟨a9,c9,B⟩:=bd B;obtain⟨fd,ks,p0,n6,hW,hX,hY,i0⟩:=cq (R:=aD) I gc cC 0 rfl 1 rfl c9;obtain⟨c4,rfl,ed⟩:=hW;replace I:=I.fS ed;refine dq 9 I (v:=pt fd ks) (i0 rfl rfl) fun a I=>?_;refine dq 10 I (l:=[]) (v:=.agg (bD a9 c4).toArray) (bY (k:=0) I cC 0 rfl hX hY rfl cc (us:=(bD a9 c4)) rfl rfl (fun h=>by cases h)) fun a I=>?_;obtain⟨p4,d6,B⟩:=bd B;refine e1 11 (qn (cap:=cmp_k) I rfl m rfl rfl (n _ _ I.dlt I.g3 I.g4 a5 a9 _ I.g1 _ I.g0 _ d6) fun _ w C a O U=>⟨jx (O),?_⟩);obtain rfl:=C;have I:=fA U;refine gE [12,13] I fun a I=>?_;refine eD ?_;exact fz
  exact fz
 rintro a w ⟨i,I,B⟩;unfold gM at B;refine an I fun a I=>?_;refine aK (J:=fun a w=>∃ (t:(List aj)) (u:LV),St L (MD [aI e dm]) T 220 [(0,e),(1,am b),(3,am d),(4,.func (.func cmp_g) #[] cmp_k.toArray),(18,am (IntKind.i64.wrap (cS .u64 (IntKind.u64.wrap (IntKind.i64.wrap (b+d))) 1))),(20,am i),(24,am (IntKind.i64.wrap ((IntKind.i64.wrap ((IntKind.i64.wrap (cS .u64 (IntKind.u64.wrap (IntKind.i64.wrap (b+d))) 1))+g))-i)))] [aI e u] [au aD u t,bK,cmp_P] a w/\ft erec b g d j i t=some y) ?_ ?_
 ·refine aK (J:=fun a w=>∃ (b0:Bool),St L (MD [aI e dm]) T 220 [(0,e),(1,am b),(2,am g),(3,am d),(4,.func (.func cmp_g) #[] cmp_k.toArray),(18,am (IntKind.i64.wrap (cS .u64 (IntKind.u64.wrap (IntKind.i64.wrap (b+d))) 1))),(20,am i),(24,am (IntKind.i64.wrap ((IntKind.i64.wrap ((IntKind.i64.wrap (cS .u64 (IntKind.u64.wrap (IntKind.i64.wrap (b+d))) 1))+g))-i))),(185,.bool b0)] [aI e dm] [au aD dm f,bK,cmp_P] a w/\gL erec f b g d j i b0=some y) ?_ ?_
  ·exact fz
  rintro a w ⟨b0,I,B⟩;unfold gL at B;rcases cd B with⟨i1,B⟩|⟨i1,B⟩
  ·refine an I fun a I=>?_;obtain⟨p3,d4,B⟩:=bd B;replace I:=I.re [0] [];refine wl rfl (bU I SG rfl rfl (Db _ _ I.zt cmp_g m cmp_k cmp_P j n f i g (IntKind.i64.wrap ((IntKind.i64.wrap ((IntKind.i64.wrap (cS .u64 (IntKind.u64.wrap (IntKind.i64.wrap (b+d))) 1))+g))-i)) _ _ I.dok (I.getD 0 rfl) (I.getD 1 rfl) (I.getD 2 rfl) _ d4) fun _ w C a O U=>?_);obtain⟨nd,he,i2,bg⟩:=C;obtain rfl:=he.symm;have I:=U _ i2;replace I:=I.fR (bg.keep (aw _ _) (aC _));exact fz
  exact fz
 rintro a w ⟨t,u,I,B⟩;unfold ft at B;refine aK (J:=fun a w=>∃ (r:(List aj)) (q:LV),St L (MD [aI e dm]) T 220 [(0,e),(3,am d),(4,.func (.func cmp_g) #[] cmp_k.toArray),(18,am (IntKind.i64.wrap (cS .u64 (IntKind.u64.wrap (IntKind.i64.wrap (b+d))) 1))),(24,am (IntKind.i64.wrap ((IntKind.i64.wrap ((IntKind.i64.wrap (cS .u64 (IntKind.u64.wrap (IntKind.i64.wrap (b+d))) 1))+g))-i)))] [aI e q] [au aD q r,bK,cmp_P] a w/\fq erec b g d j i r=some y) ?_ ?_
 ·refine aK (J:=fun a w=>∃ (av:Bool),St L (MD [aI e dm]) T 220 [(0,e),(1,am b),(3,am d),(4,.func (.func cmp_g) #[] cmp_k.toArray),(18,am (IntKind.i64.wrap (cS .u64 (IntKind.u64.wrap (IntKind.i64.wrap (b+d))) 1))),(20,am i),(24,am (IntKind.i64.wrap ((IntKind.i64.wrap ((IntKind.i64.wrap (cS .u64 (IntKind.u64.wrap (IntKind.i64.wrap (b+d))) 1))+g))-i))),(199,.bool av)] [aI e u] [au aD u t,bK,cmp_P] a w/\gK erec b g d j i t av=some y) ?_ ?_
  ·exact fz
  rintro a w ⟨av,I,B⟩;unfold gK at B;rcases cd B with⟨i3,B⟩|⟨i3,B⟩
  ·refine an I fun a I=>?_;obtain⟨p2,d3,B⟩:=bd B;replace I:=I.re [0] [];refine wl rfl (bU I JL rfl rfl (herec _ _ I.zt cmp_g m cmp_k cmp_P j n t b i (IntKind.i64.wrap (cS .u64 (IntKind.u64.wrap (IntKind.i64.wrap (b+d))) 1)) _ _ I.dok (I.getD 0 rfl) (I.getD 1 rfl) (I.getD 2 rfl) _ d3) fun _ w C a O U=>?_);obtain⟨ng,he,i4,bi⟩:=C;obtain rfl:=he.symm;have I:=U _ i4;replace I:=I.fR (bi.keep (aw _ _) (aC _));exact fz
  exact fz
 rintro a w ⟨r,q,I,B⟩;unfold fq at B;refine aK (J:=fun a w=>∃ (ao:Bool),St L (MD [aI e dm]) T 220 [(0,e),(3,am d),(4,.func (.func cmp_g) #[] cmp_k.toArray),(18,am (IntKind.i64.wrap (cS .u64 (IntKind.u64.wrap (IntKind.i64.wrap (b+d))) 1))),(24,am (IntKind.i64.wrap ((IntKind.i64.wrap ((IntKind.i64.wrap (cS .u64 (IntKind.u64.wrap (IntKind.i64.wrap (b+d))) 1))+g))-i))),(213,.bool ao)] [aI e q] [au aD q r,bK,cmp_P] a w/\gJ erec b g d j i r ao=some y) ?_ ?_
 ·exact fz
 rintro a w ⟨ao,I,B⟩;unfold gJ at B;rcases cd B with⟨i5,B⟩|⟨i5,B⟩
 ·refine an I fun a I=>?_;obtain⟨p1,d2,B⟩:=bd B;replace I:=I.re [0] [];refine wl rfl (bU I JL rfl rfl (herec _ _ I.zt cmp_g m cmp_k cmp_P j n r (IntKind.i64.wrap (cS .u64 (IntKind.u64.wrap (IntKind.i64.wrap (b+d))) 1)) (IntKind.i64.wrap ((IntKind.i64.wrap ((IntKind.i64.wrap (cS .u64 (IntKind.u64.wrap (IntKind.i64.wrap (b+d))) 1))+g))-i)) d _ _ I.dok (I.getD 0 rfl) (I.getD 1 rfl) (I.getD 2 rfl) _ d2) fun _ w C a O U=>?_);obtain⟨fl,he,i9,bl⟩:=C;obtain rfl:=he.symm;have I:=U _ i9;replace I:=I.fR (bl.keep (aw _ _) (aC _));refine an I fun a I=>?_;refine w6 ?_;cases B
  refine aG I Tryz.results145 aH ?_;have hZ:=I.sl [0] [0];exact⟨fl,rfl,hZ.zd,hZ.g0⟩
 refine an I fun a I=>?_;refine w6 ?_;cases B
 refine aG I Tryz.results145 aH ?_;have hZ:=I.sl [0] [0];exact⟨q,rfl,hZ.zd,hZ.g0⟩
end
end
section
noncomputable def IG:Nat->(aj->aj->Option Int)->List aj->Int->Int->Int->Option (List aj)
 | 0=>fun _ _ _ _ _=>none
 | f+1=>fun c=>dO c (IG f)
theorem Mo:∀ f,CD (IG f)
 | 0=>by
  unfold CD
  intros
  rename_i B;cases B
 | f+1=>by
  have ih:=Mo f;unfold CD;intro T L hT g hg k P c hc d a m b v cl hD hv hLv hP y B;have B:dO c (IG f) d a m b=some y:=B;exact AV T L hT g hg k P c hc (IG f) ih d a m b v cl hD hv hLv hP y B
noncomputable def em:=IG 16
theorem VF:CD em:=Mo 16
end
section
set_option maxRecDepth 100000
set_option maxHeartbeats 4000000
noncomputable section
end
end
section
set_option maxRecDepth 100000
set_option maxHeartbeats 4000000
noncomputable section
end
end
section
variable {pos:String} {af:Array Edge} {g:Option (Nat×Bool)}
section
variable {P:Program} {W:World} {M T E:Nat->Prop} {n:Nat} {G G':List (Nat×Value)} {D D' D0 Dr rs:List cZ} {F F':List co} {a:Act} {w w':World} {K:Act->World->Prop}
def GQ (n:Nat):Bool:=Nat.ble n 140737488355328
theorem JF {n:Nat} (h:GQ n=true):n<=140737488355328:=fw h
theorem Uf {n:Nat} (h:n<=140737488355328):GQ n=true:=wd h
theorem J0 {α:Type} {R:aY α} {xs ys:List α} {d:Nat} {ty t e:TypeId} {s x:Operand} {bt:Nat} {v u:Value} {cl:bG} (I:St W M T n G D F a w) (he:Bh P t=some (e,R.size,bt)) (hb:Nat.beq (R.size*bt) 1=true) (hbs:Nat.ble R.size 32768=true) (hs:ev G s=some v) (hx:ev G x=some u) (i:Nat) (hi:D[i]? = some (.own v e R.size cl)) (p:Nat) (hp:F[p]? = some (au R cl xs)) (q:Nat) (hq:F[q]? = some (aT R u ys)) (hroom:GQ (xs.length+ys.length)=true) (hn:Nat.blt d n=true)
  (k:∀ v' cl' a w',Kt (fun j=>v.ownBlock=some j) w w'->St W M T n ((d,v')::G) (D.set i (.own v' e R.size cl')) (au R cl' (xs++ys)::F) a w'->K a w'):t8 P ⟨some d,.call { callee:=.builtin .append,args:=#[s,x],argTypes:=#[t,t] },ty,pos,af,g⟩ a w K:=fun K' Q hK=>by
 obtain⟨hown,hsz⟩:=I.own _ (az hi);have hrow:bf R (dT T D) w cl xs:=I.get p hp;have hsl:aQ R (dT T D) w u ys:=I.get q hq;obtain⟨A,c,rfl,_⟩:=id hsl;obtain⟨_,cs,hat,hr⟩:=hsl.rows hsz;have h1:=JF hroom;have q1:=xC hb;have q2:=fw hbs;have q4:R.size=1:=Nat.dvd_one.1 ⟨bt,q1.symm⟩;have q5:bt=1:=Nat.dvd_one.1 ⟨R.size,by rw [Nat.mul_comm]; exact q1.symm⟩;have q6:cl.length+cs.length<=140737488355328:=by rw [hrow.1,hr.1,q4]; omega
 exact uN w s x t rfl e R.size bt (wV he) 0 v cl (I.ev hs) hown A ys.length c cs (I.ev hx) hr.1 hat (hr.cell hsz) (by unfold maxLen; omega) (by rw [q5]; omega) (cT _) fun v' w' h3 h2 h4=>by
  have O:=Kt.grown h2;have hd:∀ j,v'.ownBlock=some j->v.ownBlock=some j∨w.heap.size<=j:=fun j hj=>by
   rcases h4 with h4 | h4
   ·exact .inl (h4▸hj)
   ·rw [h4] at hj; injection hj with hj; exact .inr (by omega)
  have h5:=I.fact (au R (cl++cs) (xs++ys)) (hrow.append hr);exact hK _ _ (k v' (cl++cs) _ w' O ((h5.turn hi (r':=.own v' e R.size (cl++cs)) O ⟨h3,hsz⟩ hd).put hn v'))
theorem EF {xs:List Int} {s:ByteArray} {d:Nat} {ty t u e:TypeId} {X Y:Operand} {v:Value} {cl:bG} (I:St W M T n G D F a w) (he:Bh P t=some (e,1,1)) (hu:P.underlying u=some .string) (hs:ev G X=some v) (hx:ev G Y=some (.string s)) (i:Nat) (hi:D[i]? = some (.own v e (aY.int .u8).size cl)) (p:Nat) (hp:F[p]? = some (au (aY.int .u8) cl xs)) (hroom:GQ (xs.length+s.size)=true) (hn:Nat.blt d n=true)
  (k:∀ v' cl' a w',Kt (fun j=>v.ownBlock=some j) w w'->St W M T n ((d,v')::G) (D.set i (.own v' e (aY.int .u8).size cl')) (au (aY.int .u8) cl' (xs++mP s)::F) a w'->K a w'):t8 P ⟨some d,.call { callee:=.builtin .append,args:=#[X,Y],argTypes:=#[t,u] },ty,pos,af,g⟩ a w K:=fun K' Q hK=>by
 obtain⟨hown,hsz⟩:=I.own _ (az hi);have hown:mN w 0 e 1 v cl:=hown;have hrow:bf (aY.int .u8) (dT T D) w cl xs:=I.get p hp;have h1:xs.length+s.size<=140737488355328:=JF hroom;have hl:cl.length=xs.length:=by have:=hrow.1; simpa [aY.int] using this
 obtain⟨v',w',hrun,h2,h3,h4⟩:=De (P:=P) w t u ty e (wV he) hu v cl hown s (by omega);have e1:=I.ev hs;have e2:=I.ev hx;unfold Oper.wp execOp;simp only [resolve,invoke,builtin,Sem.run_bind,Sem.run_pure,Result.andThen_ok,Fm,vw,BC,e1,e2,hrun];have O:=Kt.grown h3;have hd:∀ j,v'.ownBlock=some j->v.ownBlock=some j∨w.heap.size<=j:=fun j hj=>by
  rcases h4 with h4 | h4
  ·exact .inl (h4▸hj)
  ·rw [h4] at hj; injection hj with hj; exact .inr (by omega)
 have h5:=I.fact (au (aY.int .u8) (cl++Lib.strCells s) (xs++mP s)) (hrow.append (by rw [Jr]; exact Jk _ _ _));exact hK _ _ (k v' (cl++Lib.strCells s) _ w' O ((h5.turn hi (r':=.own v' e (aY.int .u8).size (cl++Lib.strCells s)) O ⟨h2,hsz⟩ hd).put hn v'))
end
end
section
set_option maxRecDepth 100000
set_option maxHeartbeats 4000000
variable (T:Nat->Prop) (L:World) (hT:TW T L)
include hT
noncomputable section
def o0 (b:LN):Option ByteArray:=some ((gg b))
def o5 (b:LN) (c:Int) (d:LN):Option (Fl (LN×LN×Int) (LN)):=some (.go (d,b,IntKind.i64.wrap (c+1)))
def gT (d:Int) (c:LN) (b:Int):Option (Fl (LN×Int) (LN)):=cond (decide ((0:Int)<=b)) (gd (decide (0<=IntKind.i64.wrap (8*b))) <| gd (GQ (c.length+([IntKind.u8.wrap (cS .u64 d (IntKind.i64.wrap (8*b)))]).length)) <| some (.go ((c++([IntKind.u8.wrap (cS .u64 d (IntKind.i64.wrap (8*b)))])),IntKind.i64.wrap (b-1)))) (some (.out c))
def gU (e:aE) (d c:LN) (b:Int):Option (Fl (LN×LN×Int) (LN)):=cond (decide (b<(([IntKind.u64.wrap e.o,e.p]).length:Int))) ((bp c b).bind fun f=>(loop (fun s:LN×Int=>gT f s.1 s.2) (d,7)).bind fun r=>o5 c b r) (some (.out d))
def nO (b:aE):Option ByteArray:=(loop (fun s:LN×LN×Int=>gU b s.1 s.2.1 s.2.2) (([]:List Int),[IntKind.u64.wrap b.o,b.p],0)).bind fun r=>o0 r
theorem wU (b:aE) (y:ByteArray) (B:nO b=some y):bm aO No 100 [.agg (oZ b).toArray] L (fun v w'=>v=bc y):=by
 refine en Tryz.func100 Tryz.ntmps100 hT fun a I=>?_;unfold nO at B;refine kB I fun X a4 a w O I=>?_;refine an I fun a I=>?_;refine aK (J:=fun a w=>∃ (t:LN) (z:Value) (m:LV),St L No T 33 [(3,z)] [.own z 5 (aY.int .u8).size m] [au (aY.int .u8) m t] a w/\o0 t=some y) ?_ ?_
 ·refine an I fun a I=>?_;refine wl rfl (bq (ps:=[(0,.tmp 9),(1,.tmp 11)]) I Tc Vs (zl:=[.int .u64 0,.int .u64 0]) (by kernel_rfl) rfl (us:=[[.int .u64 (IntKind.u64.wrap b.o)],[.int .u64 b.p]]) ⟨rfl,⟨rfl,trivial⟩⟩ (ws:=[.int .u64 (IntKind.u64.wrap b.o),.int .u64 b.p]) rfl rfl rfl rfl fun Y a w O I=>?_);replace I:=I.lit (R:=(aY.int .u64)) (us:=[.int .u64 (IntKind.u64.wrap b.o),.int .u64 b.p]) (xs:=[IntKind.u64.wrap b.o,b.p]) 0 rfl (by decide) ((aN (R:=(aY.int .u64)) (x:=IntKind.u64.wrap b.o) rfl).append (aN (R:=(aY.int .u64)) (x:=b.p) rfl)) rfl rfl;refine an I fun a I=>?_;replace I:=I.zn (aY.int .u8) 5 (by decide);obtain⟨r1,V,hMo1⟩:=bd B;refine bz _ (fun s a w=>∃ (l f:LN) (g:Int) (A:Value) (n:LV) (i:Value) (e:LV),(l,f,g)=s/\St L No T 33 [(3,A),(12,i),(13,am (([IntKind.u64.wrap b.o,b.p]).length:Int)),(14,am g)] [.own A 5 (aY.int .u8).size n,.own i 45 (aY.int .u64).size e] [au (aY.int .u8) n l,au (aY.int .u64) e f] a w) V ⟨_,_,_,_,_,_,_,rfl,I.mt [0,1] [0,1]⟩ ?_;rintro s a w S ⟨l,f,g,A,n,i,e,rfl,I⟩ B hf1;have B:gU b l f g=some S:=B;unfold gU at B;refine an I fun a I=>?_;refine ax ?_;rcases cd B with⟨G,B⟩|⟨G,B⟩
  ·refine an I fun a I=>?_;refine aK (J:=fun a w=>∃ (u:LN) (D:Value) (q:LV),St L No T 33 [(3,D),(12,i),(13,am (([IntKind.u64.wrap b.o,b.p]).length:Int)),(14,am g)] [.own D 5 (aY.int .u8).size q,.own i 45 (aY.int .u64).size e] [au (aY.int .u8) q u,au (aY.int .u64) e f] a w/\o5 f g u=some S) ?_ ?_
   ·refine an I fun a I=>?_;obtain⟨d,F,B⟩:=bd B;refine wl rfl (dK (R:=(aY.int .u64)) I Qa Rg rfl rfl 1 rfl 1 rfl F rfl fun Z a5 a9 a1 H K M a I=>?_);obtain rfl:=H;refine qy I (bY (k:=0) I Rg 1 rfl K M rfl id (us:=[.int .u64 d]) rfl rfl (fun _=>rfl)) fun a I=>?_;refine an I fun a I=>?_;obtain⟨r2,W,hMo2⟩:=bd B;refine bz _ (fun s a w=>∃ (j:LN) (c:Int) (E:Value) (r:LV),(j,c)=s/\St L No T 33 [(3,E),(5,.int .u64 d),(6,am c),(12,i),(13,am (([IntKind.u64.wrap b.o,b.p]).length:Int)),(14,am g)] [.own E 5 (aY.int .u8).size r,.own i 45 (aY.int .u64).size e] [au (aY.int .u8) r j,au (aY.int .u64) e f] a w) W ⟨_,_,_,_,rfl,I.mt [0,1] [0,1]⟩ ?_;rintro s a w f2 ⟨j,c,E,r,rfl,I⟩ B hf2;have B:gT d j c=some f2:=B;unfold gT at B;refine ax ?_;refine an I fun a I=>?_;rcases cd B with⟨N,B⟩|⟨N,B⟩
    ·refine an I fun a I=>?_;refine ax ?_;refine an I fun a I=>?_;obtain⟨P,B⟩:=a6 B;refine qy I (xz I rfl rfl P) fun a I=>?_;refine an I fun a I=>?_;refine wl rfl (bq (ps:=[(0,.tmp 27)]) I Bg Vt (zl:=[.int .u8 0]) (by kernel_rfl) rfl (us:=[[.int .u8 (IntKind.u8.wrap (cS .u64 d (IntKind.i64.wrap (8*c))))]]) ⟨rfl,trivial⟩ (ws:=[.int .u8 (IntKind.u8.wrap (cS .u64 d (IntKind.i64.wrap (8*c))))]) rfl rfl rfl rfl fun a0 a w O I=>?_);replace I:=(I.lit (R:=(aY.int .u8)) (us:=[.int .u8 (IntKind.u8.wrap (cS .u64 d (IntKind.i64.wrap (8*c))))]) (xs:=[IntKind.u8.wrap (cS .u64 d (IntKind.i64.wrap (8*c)))]) 0 rfl (by decide) (aN (R:=(aY.int .u8)) (x:=IntKind.u8.wrap (cS .u64 d (IntKind.i64.wrap (8*c)))) rfl) rfl rfl).zf (R:=(aY.int .u8)) 0 rfl 0 rfl;obtain⟨Q,B⟩:=a6 B;refine wl rfl (J0 (R:=(aY.int .u8)) (xs:=j) (ys:=[IntKind.u8.wrap (cS .u64 d (IntKind.i64.wrap (8*c)))]) I Bg (by decide) (by decide) rfl rfl 0 rfl 2 rfl 0 rfl Q rfl fun ab a2 a w O I=>?_);exact fz
    exact fz
   rintro a w ⟨u,D,q,I,B⟩;unfold o5 at B;exact fz
  exact fz
 rintro a w ⟨t,z,m,I,B⟩;unfold o0 at B;refine an I fun a I=>?_;refine qy I (Gj I rfl Tryz.underlying156 Tryz.underlying5 Tryz.underlying9 0 rfl 0 rfl (fun _ _ h=>h)) fun a I=>?_;exact fz
def kK (b:LN):Option cg:=some ((cg.mk b))
def de (d b:Int) (c:LN):Option (Fl (Int×LN) (LN)):=cond (decide ((0:Int)<=b)) (gd (decide (0<=IntKind.i64.wrap (8*b))) <| gd (GQ (c.length+([IntKind.u8.wrap (cS .u64 (IntKind.u64.wrap d) (IntKind.i64.wrap (8*b)))]).length)) <| some (.go (IntKind.i64.wrap (b-1),(c++([IntKind.u8.wrap (cS .u64 (IntKind.u64.wrap d) (IntKind.i64.wrap (8*b)))]))))) (some (.out c))
def cj (c:cg) (b:Int):Option cg:=(loop (fun s:Int×LN=>de b s.1 s.2) (7,c.b1)).bind fun r=>kK r
theorem dW (n:cg) (d:Int) (e:Nat) (f:Value) (eK:bG) (hD:vy T L [.box e [f] 158,.own f 5 (aY.int .u8).size eK]) (t:bf (aY.int .u8) (dT T [.box e [f] 158,.own f 5 (aY.int .u8).size eK]) L eK n.b1) (y:cg) (B:cj n d=some y):bm aO (MD [.box e [f] 158,.own f 5 (aY.int .u8).size eK]) 94 [pt e 0,am d] L (fun v w'=>∃ (m:Value) (zv:bG),v = .tuple #[]/\kl L w' [.box e [f] 158,.own f 5 (aY.int .u8).size eK] [.box e [m] 158,.own m 5 (aY.int .u8).size zv]/\bf (aY.int .u8) (dT T [.box e [m] 158,.own m 5 (aY.int .u8).size zv]) w' zv y.b1):=by
 refine eu (c:=_) Tryz.func94 rfl T 24 Tryz.ntmps94 hT rfl hD fun a I=>?_;replace I:=I.fR t;unfold cj at B;refine ip ?_;refine JX I fun a I=>?_;refine xu (J:=fun a w=>∃ (l:LN) (i:Value) (h:LV),St L (MD [.box e [f] 158,.own f 5 (aY.int .u8).size eK]) T 24 [] [.own i 5 (aY.int .u8).size h,.box e [i] 158] [au (aY.int .u8) h l] a w/\kK l=some y) ?_ ?_
 ·refine an I fun a I=>?_;obtain⟨E,r,hMo1⟩:=bd B;refine bz _ (fun s a w=>∃ (b:Int) (g:LN) (j:Value) (k:LV),(b,g)=s/\St L (MD [.box e [f] 158,.own f 5 (aY.int .u8).size eK]) T 24 [(0,pt e 0),(1,am d),(4,am b)] [.own j 5 (aY.int .u8).size k,.box e [j] 158] [au (aY.int .u8) k g] a w) r ⟨_,_,_,_,rfl,I.mt [1,0] [0]⟩ ?_;rintro s a w A ⟨b,g,j,k,rfl,I⟩ B hf1;have B:de d b g=some A:=B;unfold de at B;refine ax ?_;refine an I fun a I=>?_;rcases cd B with⟨o,B⟩|⟨o,B⟩
  ·refine an I fun a I=>?_;refine ax ?_;refine an I fun a I=>?_;refine dr [(12,.blk (Value.ownBlock j)),(15,.blk (some e))] I fun w hQ I=>?_;refine gE [0,1,2,3,4,5,6,7,8] I fun a I=>?_;obtain⟨p,B⟩:=a6 B;refine dq 9 I (v:=.int .u64 (cS .u64 (IntKind.u64.wrap d) (IntKind.i64.wrap (8*b)))) (xz I rfl rfl p) fun a I=>?_;refine gE [10] I fun a I=>?_;refine e1 11 (bq (ps:=[(0,.tmp 19)]) I Bg Vt (zl:=[.int .u8 0]) (by kernel_rfl) rfl (us:=[[.int .u8 (IntKind.u8.wrap (cS .u64 (IntKind.u64.wrap d) (IntKind.i64.wrap (8*b))))]]) ⟨rfl,trivial⟩ (ws:=[.int .u8 (IntKind.u8.wrap (cS .u64 (IntKind.u64.wrap d) (IntKind.i64.wrap (8*b))))]) rfl rfl rfl rfl fun u a w O I=>⟨jx (O),?_⟩);replace I:=(I.lit (R:=(aY.int .u8)) (us:=[.int .u8 (IntKind.u8.wrap (cS .u64 (IntKind.u64.wrap d) (IntKind.i64.wrap (8*b))))]) (xs:=[IntKind.u8.wrap (cS .u64 (IntKind.u64.wrap d) (IntKind.i64.wrap (8*b)))]) 0 rfl (by decide) (aN (R:=(aY.int .u8)) (x:=IntKind.u8.wrap (cS .u64 (IntKind.u64.wrap d) (IntKind.i64.wrap (8*b)))) rfl) rfl rfl).zf (R:=(aY.int .u8)) 0 rfl 0 rfl;obtain⟨q,B⟩:=a6 B;refine e1 12 (J0 (R:=(aY.int .u8)) (xs:=g) (ys:=[IntKind.u8.wrap (cS .u64 (IntKind.u64.wrap d) (IntKind.i64.wrap (8*b)))]) I Bg (by decide) (by decide) rfl rfl 0 rfl 2 rfl 0 rfl q rfl fun D z a w O I=>⟨qU rfl O pH,?_⟩);refine gE [13,14] I fun a I=>?_;refine es 15 I fun w I=>?_;refine eD ?_;exact fz
  exact fz
 rintro a w ⟨l,i,h,I,B⟩;unfold kK at B;refine w6 ?_;cases B
 refine aG I Tryz.results94 aH ?_;have hZ:=I.sl [1,0] [0];exact⟨i,h,rfl,hZ.zd,hZ.g0⟩
def fY (d:cg) (b:ByteArray):Option cg:=(cj d (b.size:Int)).bind fun c=>gd (GQ (c.b1.length+b.size)) <| some ((cg.mk (c.b1++mP b)))
theorem r6 (g:cg) (e:ByteArray) (d:Nat) (b:Value) (eK:bG) (hD:vy T L [.box d [b] 158,.own b 5 (aY.int .u8).size eK]) (o:bf (aY.int .u8) (dT T [.box d [b] 158,.own b 5 (aY.int .u8).size eK]) L eK g.b1) (y:cg) (B:fY g e=some y):bm aO (MD [.box d [b] 158,.own b 5 (aY.int .u8).size eK]) 101 [pt d 0,bc e] L (fun v w'=>∃ (i:Value) (zv:bG),v = .tuple #[]/\kl L w' [.box d [b] 158,.own b 5 (aY.int .u8).size eK] [.box d [i] 158,.own i 5 (aY.int .u8).size zv]/\bf (aY.int .u8) (dT T [.box d [i] 158,.own i 5 (aY.int .u8).size zv]) w' zv y.b1):=by
 refine eu (c:=_) Tryz.func101 rfl T 17 Tryz.ntmps101 hT rfl hD fun a I=>?_;replace I:=I.fR o;unfold fY at B;refine an I fun a I=>?_;obtain⟨m,h,B⟩:=bd B;replace I:=I.re [0,1] [];refine wl rfl (bU I KO rfl rfl (dW _ _ I.zt g (e.size:Int) _ _ _ I.dok (I.getD 0 rfl) _ h) fun _ w C a O U=>?_);obtain⟨q,p,he,k,f⟩:=C;obtain rfl:=he.symm;have I:=U _ k;replace I:=I.fR (f.keep (aw _ _) (aC _));refine an I fun a I=>?_;obtain⟨l,B⟩:=a6 B;refine wl rfl (EF (xs:=m.b1) (s:=e) I Bg Tryz.underlying9 rfl rfl 1 rfl 0 rfl l rfl fun n j a w O I=>?_);refine go I fun a w I=>?_;refine w6 ?_;cases B
 refine aG I Tryz.results101 aH ?_;have hZ:=I.sl [0,1] [0];exact⟨n,j,rfl,hZ.zd,hZ.g0⟩
def gG (e:cg) (b:ae):Option cg:=(cj e b.k).bind fun c=>(fY c b.x).bind fun d=>some (d)
theorem sK (h:cg) (e:ae) (d:Nat) (b:Value) (eK:bG) (hD:vy T L [.box d [b] 158,.own b 5 (aY.int .u8).size eK]) (r:bf (aY.int .u8) (dT T [.box d [b] 158,.own b 5 (aY.int .u8).size eK]) L eK h.b1) (y:cg) (B:gG h e=some y):bm aO (MD [.box d [b] 158,.own b 5 (aY.int .u8).size eK]) 97 [pt d 0,.agg (bn e).toArray] L (fun v w'=>∃ (l:Value) (zv:bG),v = .tuple #[]/\kl L w' [.box d [b] 158,.own b 5 (aY.int .u8).size eK] [.box d [l] 158,.own l 5 (aY.int .u8).size zv]/\bf (aY.int .u8) (dT T [.box d [l] 158,.own l 5 (aY.int .u8).size zv]) w' zv y.b1):=by
 refine eu (c:=_) Tryz.func97 rfl T 12 Tryz.ntmps97 hT rfl hD fun a I=>?_;replace I:=I.fR r;unfold gG at B;refine kB I fun s u a w O I=>?_;refine an I fun a I=>?_;obtain⟨p,i,B⟩:=bd B;replace I:=I.re [1,2] [0];refine wl rfl (bU I KO rfl rfl (dW _ _ I.zt h e.k _ _ _ I.dok (I.getD 0 rfl) _ i) fun _ w C a O U=>?_);obtain⟨A,t,he,n,f⟩:=C;obtain rfl:=he.symm;have I:=U _ n;replace I:=I.fR (f.keep (aw _ _) (aC _));refine an I fun a I=>?_;obtain⟨z,j,B⟩:=bd B;replace I:=I.re [0,1] [2];refine wl rfl (bU I PE rfl rfl (r6 _ _ I.zt p e.x _ _ _ I.dok (I.getD 0 rfl) _ j) fun _ w C a O U=>?_);obtain⟨q,m,he,o,g⟩:=C;obtain rfl:=he.symm;have I:=U _ o;replace I:=I.fR (g.keep (aw _ _) (aC _));refine an I fun a I=>?_;refine w6 ?_;cases B
 refine aG I Tryz.results97 aH ?_;have hZ:=I.sl [0,1] [0];exact⟨q,m,rfl,hZ.zd,hZ.g0⟩
def iW (b:cg):Option (ByteArray×cg):=(pG (gg b.b1)).bind fun d=>(nO d).bind fun c=>gd (Nat.ble ((gg b.b1).size+c.size) 140737488355328) <| some ((((gg b.b1)++c),b))
theorem wX (b:cg) (e:Nat) (d:Value) (eK:bG) (hD:vy T L [.box e [d] 158,.own d 5 (aY.int .u8).size eK]) (m:bf (aY.int .u8) (dT T [.box e [d] 158,.own d 5 (aY.int .u8).size eK]) L eK b.b1) (y:ByteArray×cg) (B:iW b=some y):bm aO (MD [.box e [d] 158,.own d 5 (aY.int .u8).size eK]) 102 [pt e 0] L (fun v w'=>∃ (h:Value) (zv:bG),v=bc y.1/\kl L w' [.box e [d] 158,.own d 5 (aY.int .u8).size eK] [.box e [h] 158,.own h 5 (aY.int .u8).size zv]/\bf (aY.int .u8) (dT T [.box e [h] 158,.own h 5 (aY.int .u8).size zv]) w' zv y.2.b1):=by
 refine eu (c:=_) Tryz.func102 rfl T 16 Tryz.ntmps102 hT rfl hD fun a I=>?_;replace I:=I.fR m;unfold iW at B;refine an I fun a I=>?_;refine ax ?_;refine dr [] I fun w hQ I=>?_;refine gE [0,1,2,3] I fun a I=>?_;refine dq 4 I (l:=[]) (v:=bc (gg b.b1)) (Gj I rfl Tryz.underlying156 Tryz.underlying5 Tryz.underlying9 1 rfl 0 rfl (fun _ _=>cc)) fun a I=>?_;refine gE [5,6,7,8] I fun a I=>?_;refine dq 9 I (l:=[]) (v:=bc (gg b.b1)) (Gj I rfl Tryz.underlying156 Tryz.underlying5 Tryz.underlying9 1 rfl 0 rfl (fun _ _=>cc)) fun a I=>?_;obtain⟨j,f,B⟩:=bd B;refine ec 10 I Ol (ue _ _ I.dlt (gg b.b1) _ f) fun _ w C a O U=>?_;obtain rfl:=C;have I:=fA U;obtain⟨k,g,B⟩:=bd B;refine ec 11 I PD (wU _ _ I.dlt j _ g) fun _ w C a O U=>?_;obtain rfl:=C;have I:=fA U;obtain⟨i,B⟩:=a6 B;refine dq 12 I (v:=bc ((gg b.b1)++k)) (wA I rfl rfl (fw i)) fun a I=>?_;refine gE [13] I fun a I=>?_;refine eD ?_;refine an I fun a I=>?_;cases B
 refine aG I rfl (aF I rfl aH) ?_;have hZ:=I.sl [0,1] [0];exact⟨d,eK,rfl,hZ.zd,hZ.g0⟩
def gh (e:bM) (f:cg):Option cg:=(gG f e.b).bind fun c=>(nO e.h).bind fun d=>gd (GQ (c.b1.length+d.size)) <| some ((cg.mk (c.b1++mP d)))
theorem vG (f:bM) (i:cg) (q d:Nat) (e:Value) (eK:bG) (hD:vy T L [.box d [e] 158,.own e 5 (aY.int .u8).size eK]) (E:bf (aY.int .u8) (dT T [.box d [e] 158,.own e 5 (aY.int .u8).size eK]) L eK i.b1) (x:(bS q 0 [pt d 0]).p (dT T [.box d [e] 158,.own e 5 (aY.int .u8).size eK]) L) (y:cg) (B:gh f i=some y):bm aO (MD [.box d [e] 158,.own e 5 (aY.int .u8).size eK]) 99 [.agg (L6 f).toArray,pt q 0] L (fun v w'=>∃ (o:Value) (KP:bG),v = .tuple #[]/\kl L w' [.box d [e] 158,.own e 5 (aY.int .u8).size eK] [.box d [o] 158,.own o 5 (aY.int .u8).size KP]/\bf (aY.int .u8) (dT T [.box d [o] 158,.own o 5 (aY.int .u8).size KP]) w' KP y.b1):=by
 refine eu (c:=_) Tryz.func99 rfl T 18 Tryz.ntmps99 hT rfl hD fun a I=>?_;replace I:=(I.fact (bS q 0 [pt d 0]) x).fR E;unfold gh at B;refine kB I fun F H a w O I=>?_;refine an I fun a I=>?_;obtain⟨z,m,B⟩:=bd B;replace I:=I.re [1,2] [0];refine wl rfl (bU I S9 rfl rfl (sK _ _ I.zt i f.b _ _ _ I.dok (I.getD 0 rfl) _ m) fun _ w C a O U=>?_);obtain⟨j,G,he,t,g⟩:=C;obtain rfl:=he.symm;have I:=U _ t;replace I:=I.fR (g.keep (aw _ _) (aC _));refine an I fun a I=>?_;refine dr [(8,.blk (Value.ownBlock j)),(11,.blk (some d))] I fun w hQ I=>?_;refine dq 0 I (l:=[.blk (Value.ownBlock j)]) (v:=pt d 0) (x5 (k:=0) I Qd 2 rfl rfl (JV 1 rfl rfl CE) (us:=[pt d 0]) rfl rfl (fun _=>rfl)) fun a I=>?_;refine gE [1,2,3,4,5,6] I fun a I=>?_;obtain⟨A,n,B⟩:=bd B;refine ec 7 I PD (wU _ _ I.dlt f.h _ n) fun _ w C a O U=>?_;obtain rfl:=C;have I:=fA U;obtain⟨u,B⟩:=a6 B;refine e1 8 (EF (xs:=z.b1) (s:=A) I Bg Tryz.underlying9 rfl rfl 1 rfl 0 rfl u rfl fun D r a w O I=>⟨qU rfl O pH,?_⟩);refine gE [9,10] I fun a I=>?_;refine es 11 I fun w I=>?_;refine eD ?_;refine w6 ?_;cases B
 refine aG I Tryz.results99 aH ?_;have hZ:=I.sl [0,1] [0];exact⟨D,r,rfl,hZ.zd,hZ.g0⟩
def vM (b:LN):Option cg:=some ((cg.mk b))
def nV (d:(List bM)) (b:Int) (c:LN):Option (Fl (Int×LN) (LN)):=cond (decide (b<(d.length:Int))) ((bp d b).bind fun e=>(gh e (cg.mk c)).bind fun f=>some (.go (IntKind.i64.wrap (b+1),f.b1))) (some (.out c))
def u9 (d:cg) (b:(List bM)):Option cg:=(cj d (b.length:Int)).bind fun c=>(loop (fun s:Int×LN=>nV b s.1 s.2) (0,c.b1)).bind fun r=>vM r
theorem HM (r:cg) (g:(List bM)) (z:Value) (l b:Nat) (d:Value) (eK:bG) (hD:vy T L [.box b [d] 158,.own d 5 (aY.int .u8).size eK]) (N:bf (aY.int .u8) (dT T [.box b [d] 158,.own d 5 (aY.int .u8).size eK]) L eK r.b1) (P:aQ a8 (dT T [.box b [d] 158,.own d 5 (aY.int .u8).size eK]) L z g) (K:(bS l 0 [pt b 0]).p (dT T [.box b [d] 158,.own d 5 (aY.int .u8).size eK]) L) (y:cg) (B:u9 r g=some y):bm aO (MD [.box b [d] 158,.own d 5 (aY.int .u8).size eK]) 98 [pt b 0,z,.func (.func 99) #[] #[pt l 0]] L (fun v w'=>∃ (A:Value) (y5:bG),v = .tuple #[]/\kl L w' [.box b [d] 158,.own d 5 (aY.int .u8).size eK] [.box b [A] 158,.own A 5 (aY.int .u8).size y5]/\bf (aY.int .u8) (dT T [.box b [A] 158,.own A 5 (aY.int .u8).size y5]) w' y5 y.b1):=by
 refine eu (c:=_) Tryz.func98 rfl T 22 Tryz.ntmps98 hT rfl hD fun a I=>?_;replace I:=((I.fact (bS l 0 [pt b 0]) K).fS P).fR N;unfold u9 at B;refine an I fun a I=>?_;obtain⟨a1,x,B⟩:=bd B;replace I:=I.re [0,1] [];refine wl rfl (bU I KO rfl rfl (dW _ _ I.zt r (g.length:Int) _ _ _ I.dok (I.getD 0 rfl) _ x) fun _ w C a O U=>?_);obtain⟨a2,S,he,E,o⟩:=C;obtain rfl:=he.symm;have I:=U _ E;replace I:=I.fR (o.keep (aw _ _) (aC _));refine JX I fun a I=>?_;refine ip ?_;refine JX I fun a I=>?_;refine xu (J:=fun a w=>∃ (m:LN) (k:Value) (h:LV),St L (MD [.box b [d] 158,.own d 5 (aY.int .u8).size eK]) T 22 [] [.own k 5 (aY.int .u8).size h,.box b [k] 158] [au (aY.int .u8) h m] a w/\vM m=some y) ?_ ?_
 ·refine an I fun a I=>?_;obtain⟨r1,M,hMo1⟩:=bd B;refine bz _ (fun s a w=>∃ (j:Int) (f:LN) (e:Value) (i:LV),(j,f)=s/\St L (MD [.box b [d] 158,.own d 5 (aY.int .u8).size eK]) T 22 [(2,.func (.func 99) #[] #[pt l 0]),(12,z),(13,am (g.length:Int)),(14,am j)] [.own e 5 (aY.int .u8).size i,.box b [e] 158] [bS l 0 [pt b 0],aT a8 z g,au (aY.int .u8) i f] a w) M ⟨_,_,_,_,rfl,I.mt [1,0] [3,2,0]⟩ ?_;rintro s a w X ⟨j,f,e,i,rfl,I⟩ B hf1;have B:nV g j f=some X:=B;unfold nV at B;refine an I fun a I=>?_;refine ax ?_;rcases cd B with⟨F,B⟩|⟨F,B⟩
  ·refine an I fun a I=>?_;refine ax ?_;refine an I fun a I=>?_;obtain⟨n,t,B⟩:=bd B;refine wl rfl (bv (R:=a8) I Ej Gf rfl rfl 1 rfl t rfl fun Q Z V G a I=>?_);obtain rfl:=G;refine kA I Ep fun D Y a w O I=>?_;refine go I fun a w I=>?_;obtain⟨a0,u,B⟩:=bd B;replace I:=I.re [2,1] [0];refine wl rfl (zI (D0:=[.box b [e] 158,.own e 5 (aY.int .u8).size i]) (Dr:=[.box D (L6 n) 49]) (cap:=[pt l 0]) I rfl UW rfl rfl (vG _ _ I.zt n (cg.mk f) l _ _ _ I.dok (I.getD 3 rfl) (I.getD 1 rfl) _ u) fun _ w C a O U=>?_);obtain⟨a3,W,he,H,q⟩:=C;obtain rfl:=he.symm;have I:=U _ H;replace I:=I.fR (q.keep (aw _ _) (aC _));exact fz
  exact fz
 rintro a w ⟨m,k,h,I,B⟩;unfold vM at B;refine w6 ?_;cases B
 refine aG I Tryz.results98 aH ?_;have hZ:=I.sl [1,0] [0];exact⟨k,h,rfl,hZ.zd,hZ.g0⟩
def iV (c:ac) (h:cg):Option cg:=(gG h c.b).bind fun d=>(u9 d c.v).bind fun e=>(fY e c.t).bind fun f=>(cj f c.a).bind fun g=>some (g)
theorem wW (e:ac) (l:cg) (M:Value) (g f:Nat) (d:Value) (rJ:bG) (hD:vy T L [.box f [d] 158,.own d 5 (aY.int .u8).size rJ]) (K:bf (aY.int .u8) (dT T [.box f [d] 158,.own d 5 (aY.int .u8).size rJ]) L rJ l.b1) (J:aQ a8 (dT T [.box f [d] 158,.own d 5 (aY.int .u8).size rJ]) L M e.v) (D:(bS g 0 [pt f 0]).p (dT T [.box f [d] 158,.own d 5 (aY.int .u8).size rJ]) L) (y:cg) (B:iV e l=some y):bm aO (MD [.box f [d] 158,.own d 5 (aY.int .u8).size rJ]) 96 [.agg (aZ e M).toArray,pt g 0] L (fun v w'=>∃ (r:Value) (y5:bG),v = .tuple #[]/\kl L w' [.box f [d] 158,.own d 5 (aY.int .u8).size rJ] [.box f [r] 158,.own r 5 (aY.int .u8).size y5]/\bf (aY.int .u8) (dT T [.box f [r] 158,.own r 5 (aY.int .u8).size y5]) w' y5 y.b1):=by
 refine eu (c:=_) Tryz.func96 rfl T 20 Tryz.ntmps96 hT rfl hD fun a I=>?_;replace I:=((I.fact (bS g 0 [pt f 0]) D).fS J).fR K;unfold iV at B;refine kB I fun N S a w O I=>?_;refine an I fun a I=>?_;obtain⟨E,m,B⟩:=bd B;replace I:=I.re [1,2] [0];refine wl rfl (bU I S9 rfl rfl (sK _ _ I.zt l e.b _ _ _ I.dok (I.getD 0 rfl) _ m) fun _ w C a O U=>?_);obtain⟨W,P,he,u,h⟩:=C;obtain rfl:=he.symm;have I:=U _ u;replace I:=I.fR (h.keep (aw _ _) (aC _));refine an I fun a I=>?_;refine qy I (vt (vs:=[pt g 0]) I rfl) fun a I=>?_;obtain⟨F,n,B⟩:=bd B;replace I:=I.re [0,1] [2];refine wl rfl (bU I UU rfl rfl (HM _ _ I.zt E e.v _ g _ _ _ I.dok (I.getD 0 rfl) (I.getD 2 rfl) (I.getD 3 rfl) _ n) fun _ w C a O U=>?_);obtain⟨X,Q,he,x,i⟩:=C;obtain rfl:=he.symm;have I:=U _ x;replace I:=I.fR (i.keep (aw _ _) (aC _));refine an I fun a I=>?_;obtain⟨G,o,B⟩:=bd B;replace I:=I.re [0,1] [2];refine wl rfl (bU I PE rfl rfl (r6 _ _ I.zt F e.t _ _ _ I.dok (I.getD 0 rfl) _ o) fun _ w C a O U=>?_);obtain⟨Y,R,he,z,j⟩:=C;obtain rfl:=he.symm;have I:=U _ z;replace I:=I.fR (j.keep (aw _ _) (aC _));refine an I fun a I=>?_;obtain⟨V,q,B⟩:=bd B;replace I:=I.re [0,1] [2];refine wl rfl (bU I KO rfl rfl (dW _ _ I.zt G e.a _ _ _ I.dok (I.getD 0 rfl) _ q) fun _ w C a O U=>?_);obtain⟨H,s,he,A,k⟩:=C;obtain rfl:=he.symm;have I:=U _ A;replace I:=I.fR (k.keep (aw _ _) (aC _));refine an I fun a I=>?_;refine w6 ?_;cases B
 refine aG I Tryz.results96 aH ?_;have hZ:=I.sl [0,1] [0];exact⟨H,s,rfl,hZ.zd,hZ.g0⟩
def ri (b:LN):Option cg:=some ((cg.mk b))
def iK (d:(List ac)) (b:Int) (c:LN):Option (Fl (Int×LN) (LN)):=cond (decide (b<(d.length:Int))) ((bp d b).bind fun e=>(iV e (cg.mk c)).bind fun f=>some (.go (IntKind.i64.wrap (b+1),f.b1))) (some (.out c))
def oL (d:cg) (b:(List ac)):Option cg:=(cj d (b.length:Int)).bind fun c=>(loop (fun s:Int×LN=>iK b s.1 s.2) (0,c.b1)).bind fun r=>ri r
theorem BN (r:cg) (g:(List ac)) (A:Value) (l b:Nat) (d:Value) (eK:bG) (hD:vy T L [.box b [d] 158,.own d 5 (aY.int .u8).size eK]) (Q:bf (aY.int .u8) (dT T [.box b [d] 158,.own d 5 (aY.int .u8).size eK]) L eK r.b1) (S:aQ ai (dT T [.box b [d] 158,.own d 5 (aY.int .u8).size eK]) L A g) (M:(bS l 0 [pt b 0]).p (dT T [.box b [d] 158,.own d 5 (aY.int .u8).size eK]) L) (y:cg) (B:oL r g=some y):bm aO (MD [.box b [d] 158,.own d 5 (aY.int .u8).size eK]) 95 [pt b 0,A,.func (.func 96) #[] #[pt l 0]] L (fun v w'=>∃ (D:Value) (y5:bG),v = .tuple #[]/\kl L w' [.box b [d] 158,.own d 5 (aY.int .u8).size eK] [.box b [D] 158,.own D 5 (aY.int .u8).size y5]/\bf (aY.int .u8) (dT T [.box b [D] 158,.own D 5 (aY.int .u8).size y5]) w' y5 y.b1):=by
 refine eu (c:=_) Tryz.func95 rfl T 22 Tryz.ntmps95 hT rfl hD fun a I=>?_;replace I:=((I.fact (bS l 0 [pt b 0]) M).fS S).fR Q;unfold oL at B;refine an I fun a I=>?_;obtain⟨a3,x,B⟩:=bd B;replace I:=I.re [0,1] [];refine wl rfl (bU I KO rfl rfl (dW _ _ I.zt r (g.length:Int) _ _ _ I.dok (I.getD 0 rfl) _ x) fun _ w C a O U=>?_);obtain⟨a4,W,he,F,o⟩:=C;obtain rfl:=he.symm;have I:=U _ F;replace I:=I.fR (o.keep (aw _ _) (aC _));refine JX I fun a I=>?_;refine ip ?_;refine JX I fun a I=>?_;refine xu (J:=fun a w=>∃ (m:LN) (k:Value) (h:LV),St L (MD [.box b [d] 158,.own d 5 (aY.int .u8).size eK]) T 22 [] [.own k 5 (aY.int .u8).size h,.box b [k] 158] [au (aY.int .u8) h m] a w/\ri m=some y) ?_ ?_
 ·refine an I fun a I=>?_;obtain⟨r1,P,hMo1⟩:=bd B;refine bz _ (fun s a w=>∃ (j:Int) (f:LN) (e:Value) (i:LV),(j,f)=s/\St L (MD [.box b [d] 158,.own d 5 (aY.int .u8).size eK]) T 22 [(2,.func (.func 96) #[] #[pt l 0]),(12,A),(13,am (g.length:Int)),(14,am j)] [.own e 5 (aY.int .u8).size i,.box b [e] 158] [bS l 0 [pt b 0],aT ai A g,au (aY.int .u8) i f] a w) P ⟨_,_,_,_,rfl,I.mt [1,0] [3,2,0]⟩ ?_;rintro s a w Z ⟨j,f,e,i,rfl,I⟩ B hf1;have B:iK g j f=some Z:=B;unfold iK at B;refine an I fun a I=>?_;refine ax ?_;rcases cd B with⟨G,B⟩|⟨G,B⟩
  ·refine an I fun a I=>?_;refine ax ?_;refine an I fun a I=>?_;obtain⟨n,t,B⟩:=bd B;refine wl rfl (bv (R:=ai) I wJ s7 rfl rfl 1 rfl t rfl fun V a1 X H a I=>?_);obtain⟨N,rfl,z⟩:=H;replace I:=I.fS z;refine kA I rH fun E a0 a w O I=>?_;refine go I fun a w I=>?_;obtain⟨a2,u,B⟩:=bd B;replace I:=I.re [2,1] [0];refine wl rfl (zI (D0:=[.box b [e] 158,.own e 5 (aY.int .u8).size i]) (Dr:=[.box E (aZ n N) 30]) (cap:=[pt l 0]) I rfl UT rfl rfl (wW _ _ I.zt n (cg.mk f) _ l _ _ _ I.dok (I.getD 4 rfl) (I.getD 0 rfl) (I.getD 2 rfl) _ u) fun _ w C a O U=>?_);obtain⟨a5,Y,he,K,q⟩:=C;obtain rfl:=he.symm;have I:=U _ K;replace I:=I.fR (q.keep (aw _ _) (aC _));exact fz
  exact fz
 rintro a w ⟨m,k,h,I,B⟩;unfold ri at B;refine w6 ?_;cases B
 refine aG I Tryz.results95 aH ?_;have hZ:=I.sl [1,0] [0];exact⟨k,h,rfl,hZ.zd,hZ.g0⟩
def dv (b:(List ac)):Option ByteArray:=cond (decide ((4000:Int)<(b.length:Int))) (some (cu)) ((dd b).bind fun c=>cond (!(c)) (some (cu)) ((cj (cg.mk ([]:List Int)) 12).bind fun d=>(oL d b).bind fun e=>(iW e).bind fun f=>some (f.1)))
theorem tB (hLv:dC T L) (b:(List ac)) (s:Value) (r:aQ ai T L s b) (y:ByteArray) (B:dv b=some y):bm aO No 46 [s] L (fun v w'=>v=bc y):=by
 refine en Tryz.func46 Tryz.ntmps46 hT fun a I=>?_;replace I:=(I.fact bK (dC.dn hLv)).fS (aQ.dn r);unfold dv at B;refine an I fun a I=>?_;refine ax ?_;refine ip ?_;refine an I fun a I=>?_;rcases cd B with⟨d,B⟩|⟨d,B⟩
 ·exact fz
 refine an I fun a I=>?_;obtain⟨E,h,B⟩:=bd B;refine wg I rfl rfl rfl d (bT I Oi rfl rfl (lB _ _ I.dlt I.g1 b _ I.g0 _ h) fun _ w C a O U=>?_);obtain rfl:=C;have I:=fA U;refine an I fun a I=>?_;rcases cd B with⟨l,B⟩|⟨l,B⟩
 ·exact fz
 refine an I fun a I=>?_;refine qy I (bE (ps:=[]) I Tv Ua rfl (us:=[]) trivial (ws:=[.slice none 0 0]) rfl) fun a I=>?_;refine kb I fun t A a w O I=>?_;refine ka I T9 fun c D a w O I=>?_;refine go I fun a w I=>?_;replace I:=I.zn (aY.int .u8) 5 (by decide);obtain⟨p,i,B⟩:=bd B;replace I:=I.re [2,0] [1];refine wl rfl (bU I KO rfl rfl (dW _ _ I.zt (cg.mk ([]:List Int)) 12 _ _ _ I.dok (I.getD 0 rfl) _ i) fun _ w C a O U=>?_);obtain⟨G,u,he,m,e⟩:=C;obtain rfl:=he.symm;have I:=U _ m;replace I:=I.fR (e.keep (aw _ _) (aC _));refine an I fun a I=>?_;replace I:=I.zx 2 rfl;refine qy I (vt (vs:=[pt c 0]) I rfl) fun a I=>?_;obtain⟨q,j,B⟩:=bd B;replace I:=I.re [0,1] [];refine wl rfl (bU I US rfl rfl (BN _ _ I.zt p b _ c _ _ _ I.dok (I.getD 1 rfl) (I.getD 3 rfl) (I.getD 0 rfl) _ j) fun _ w C a O U=>?_);obtain⟨H,x,he,n,f⟩:=C;obtain rfl:=he.symm;have I:=U _ n;replace I:=I.fR (f.keep (aw _ _) (aC _));refine an I fun a I=>?_;obtain⟨F,k,B⟩:=bd B;replace I:=I.re [0,1] [];refine wl rfl (bU I RY rfl rfl (wX _ _ I.zt q _ _ _ I.dok (I.getD 0 rfl) _ k) fun _ w C a O U=>?_);obtain⟨J,z,he,o,g⟩:=C;obtain rfl:=he.symm;have I:=U _ o;replace I:=I.fR (g.keep (aw _ _) (aC _));exact fz
end
end
section
set_option maxRecDepth 100000
set_option maxHeartbeats 4000000
variable (T:Nat->Prop) (L:World) (hT:TW T L)
include hT
noncomputable section
def tu (c:ap) (b:(List (ae×aE))):Option dU:=some ((dU.mk c b))
def qc (b:Int) (c:(List (ae×aE))):Option (Fl (Int×(List (ae×aE))) ((List (ae×aE)))):=some (.go (IntKind.i64.wrap (b+1),c))
def qd (f:ap) (c:Int) (e:(List (ae×aE))):Option (Fl (Int×(List (ae×aE))) ((List (ae×aE)))):=cond (decide (c<(f.s.length:Int))) ((bp f.s c).bind fun d=>cond (d.u==f.r) ((pG d.t).bind fun g=>qc c (ew aB d.b g e)) (qc c e)) (some (.out e))
def mR (b:ap):Option dU:=(loop (fun s:Int×(List (ae×aE))=>qd b s.1 s.2) (0,([]:(List (ae×aE))))).bind fun r=>tu b r
theorem uC (e:ap) (l g:Value) (Z:aQ ad T L l e.i) (a0:aQ aa T L g e.s) (y:dU) (B:mR e=some y):bm aO No 38 [.agg (bA e l g).toArray] L (fun v w'=>∃ (v3 v4:Value) (G:Nat) (F:Array MapEntry) (E:Nat),v = .agg #[am y.d.r,v3,v4,.map (some G)]/\aQ ad (dT T [om G F E]) w' v3 y.d.i/\aQ aa (dT T [om G F E]) w' v4 y.d.s/\Qo ah true bP true T L w' [om G F E] G F E y.n):=by
 refine en Tryz.func38 Tryz.ntmps38 hT fun a I=>?_;replace I:=(I.fS (aQ.dn Z)).fS (aQ.dn a0);unfold mR at B;refine kB I fun m af a w O I=>?_;refine ka I NX fun h ag a w O I=>?_;refine an I fun a I=>?_;refine wl rfl (sQ ah true bP true I rfl fun f ak a w O I=>?_);refine qy I (bE (ps:=[(0,.tmp 6),(1,.tmp 7)]) I Vf NX rfl (us:=[(bA e l g),[.map (some f)]]) ⟨rfl,⟨rfl,trivial⟩⟩ (ws:=[am e.r,l,g,.map (some f)]) rfl) fun a I=>?_;refine ka I NX fun j ao a w O I=>?_;refine go I fun a w I=>?_;refine aK (J:=fun a w=>∃ (A:(List (ae×aE))) (o:AM) (q:Nat),St L No T 30 [(2,pt h 0),(3,pt j 0)] [.box h [am 0,.slice none 0 0,.slice none 0 0,.map none] 94,om f o q,.box j [am e.r,l,g,.map (some f)] 94] [aT ad l e.i,aT aa g e.s,ir ah true bP true o A] a w/\tu e A=some y) ?_ ?_
 ·refine an I fun a I=>?_;obtain⟨r1,Y,hMo1⟩:=bd B;refine bz _ (fun s a w=>∃ (k:Int) (p:(List (ae×aE))) (x:AM) (H:Nat),(k,p)=s/\St L No T 30 [(1,pt m 0),(2,pt h 0),(3,pt j 0),(10,g),(11,am (e.s.length:Int)),(12,am k)] [.box m (bA e l g) 37,.box h [am 0,.slice none 0 0,.slice none 0 0,.map none] 94,om f x H,.box j [am e.r,l,g,.map (some f)] 94] [aT aa g e.s,aT ad l e.i,ir ah true bP true x p] a w) Y ⟨_,_,_,_,rfl,I.mt [3,2,1,0] [1,2,0]⟩ ?_;rintro s a w X ⟨k,p,x,H,rfl,I⟩ B hf1;have B:qd e k p=some X:=B;unfold qd at B;refine an I fun a I=>?_;refine ax ?_;rcases cd B with⟨S,B⟩|⟨S,B⟩
  ·refine an I fun a I=>?_;refine aK (J:=fun a w=>∃ (D:(List (ae×aE))) (z:AM) (K:Nat),St L No T 30 [(1,pt m 0),(2,pt h 0),(3,pt j 0),(10,g),(11,am (e.s.length:Int)),(12,am k)] [.box m (bA e l g) 37,.box h [am 0,.slice none 0 0,.slice none 0 0,.map none] 94,om f z K,.box j [am e.r,l,g,.map (some f)] 94] [aT aa g e.s,aT ad l e.i,ir ah true bP true z D] a w/\qc k D=some X) ?_ ?_
   ·refine an I fun a I=>?_;obtain⟨u,N,B⟩:=bd B;refine wl rfl (bv (R:=aa) I rG pA rfl rfl 0 rfl N rfl fun a3 b0 a5 V a I=>?_);obtain⟨b1,rfl,Q⟩:=V;replace I:=I.fS Q;refine kA I jB fun a4 av a w O I=>?_;refine go I fun a w I=>?_;rcases cd B with⟨W,B⟩|⟨W,B⟩
    ·refine an I fun a I=>?_;refine dr [(7,.blk (some f))] I fun w hQ I=>?_;refine gE [0,1,2,3,4,5] I fun a I=>?_;obtain⟨M,P,B⟩:=bd B;refine ec 6 I Ol (ue _ _ I.dlt u.t _ P) fun _ w C a O U=>?_;obtain rfl:=C;have I:=fA U;refine e1 7 (vL I OM dJ 3 rfl 4 rfl (c:=(bn u.b)) (cv:=(oZ M)) (key:=u.b) (val:=M) rfl rfl rfl rfl rfl fun ab a9 w O I=>⟨qU rfl O od,?_⟩);refine eD ?_;exact fin
    exact fz
   rintro a w ⟨D,z,K,I,B⟩;unfold qc at B;exact fz
  exact fz
 rintro a w ⟨A,o,q,I,B⟩;unfold tu at B;refine go I fun a w I=>?_;cases B
 refine aG I rfl (rC 0 I) ?_;exact⟨l,g,f,o,q,rfl,(aQ.up ⟨.inr (az (i:=1) rfl),trivial⟩ I.g0),(aQ.up ⟨.inr (az (i:=1) rfl),trivial⟩ I.g1),I.retMap ⟨.inr (az (i:=1) rfl),trivial⟩ 1 rfl 2 rfl⟩
def gD (d:(List (ae×aE))) (e:Bool) (b:Int) (c:Int):Option (aE×Bool×(List (ae×aE))):=some (((aE.mk b c),e,d))
def gF (c:dU) (f:ae) (e:aE) (g:Bool):Option (aE×Bool×(List (ae×aE))):=cond g ((qL c.d f).bind fun h=>(pG h).bind fun b=>gD (ew aB f b c.n) true b.o b.p) (gD c.n ((cJ aB f c.n).isSome) e.o e.p)
def kH (c:dU) (b:ae):Option (aE×Bool×(List (ae×aE))):=(some ((cJ aB b c.n).getD (aE.mk (0:Int) (0:Int)))).bind fun d=>cond (!((cJ aB b c.n).isSome)) ((nT b).bind fun e=>gF c b d e) (gF c b d false)
theorem uT (b:dU) (f:ae) (P Q:Value) (j:Nat) (e:Array MapEntry) (g:Nat) (hD:vy T L [om j e g]) (Y:bW ah true bP true (dT T [om j e g]) L e b.n) (Z:aQ ad (dT T [om j e g]) L P b.d.i) (a0:aQ aa (dT T [om j e g]) L Q b.d.s) (hLv:dC (dT T [om j e g]) L) (y:aE×Bool×(List (ae×aE))) (B:kH b f=some y):bm aO (MD [om j e g]) 39 [.agg #[am b.d.r,P,Q,.map (some j)],.agg (bn f).toArray] L (fun v w'=>∃ (E:Array MapEntry) (R:Nat),v = .tuple #[.agg (oZ y.1).toArray,.bool y.2.1]/\kl L w' [om j e g] [om j E R]/\bW ah true bP true (dT T [om j E R]) w' E y.2.2):=by
 refine eu (c:=_) Tryz.func39 rfl T 32 Tryz.ntmps39 hT rfl hD fun a I=>?_;replace I:=(((I.fact bK hLv).fS Z).fS a0).fM Y;unfold kH at B;refine kB I fun A a4 a w O I=>?_;refine kb I fun D a5 a w O I=>?_;refine ka I ID fun k a9 a w O I=>?_;refine an I fun a I=>?_;obtain⟨z,H,B⟩:=bd B;obtain⟨a1,S,V⟩:=mD I OM dJ 3 rfl 0 rfl (c:=(bn f)) (key:=f) rfl Vv (zc:=[am 0,.int .u64 0]) (z0:=(aE.mk (0:Int) (0:Int))) rfl rfl H;obtain rfl:=S;refine wl rfl (ky (v:=.tuple #[.agg (oZ z).toArray,.bool ((cJ aB f b.n).isSome)]) I (V rfl rfl id) rfl rfl fun a I=>?_);refine kA I ID fun l ab a w O I=>?_;refine go I fun a w I=>?_;refine aK (J:=fun a w=>∃ (u:(List (ae×aE))) (x:Bool) (p:Int) (q:Int) (m:AM) (o:Nat),St L (MD [om j e g]) T 32 [(4,pt k 0),(6,pt l 0),(7,.bool x)] [om j m o,.box k [am 0,.int .u64 0] 47,.box l [am p,.int .u64 q] 47] [ir ah true bP true m u,bK] a w/\gD u x p q=some y) ?_ ?_
 ·refine aK (J:=fun a w=>∃ (t:Bool),St L (MD [om j e g]) T 32 [(2,pt A 0),(3,pt D 0),(4,pt k 0),(6,pt l 0),(7,.bool ((cJ aB f b.n).isSome)),(20,.bool t)] [om j e g,.box A [am b.d.r,P,Q,.map (some j)] 94,.box D (bn f) 27,.box k [am 0,.int .u64 0] 47,.box l (oZ z) 47] [ir ah true bP true e b.n,aT ad P b.d.i,aT aa Q b.d.s,bK] a w/\gF b f z t=some y) ?_ ?_
  ·refine an I fun a I=>?_;rcases cd B with⟨F,B⟩|⟨F,B⟩
   ·refine an I fun a I=>?_;obtain⟨af,N,B⟩:=bd B;refine wg I rfl rfl rfl F (bT I Oo rfl rfl (uj _ _ I.dlt f _ N) fun _ w C a O U=>?_);obtain rfl:=C;have I:=fA U;exact fz
   exact fz
  rintro a w ⟨t,I,B⟩;unfold gF at B;rcases cd B with⟨W,B⟩|⟨W,B⟩
  ·refine an I fun a I=>?_;obtain⟨X,K,B⟩:=bd B;refine kE I UM (C6 _ _ I.dlt I.g3 b.d f _ _ I.g1 I.g2 _ K) fun w a I=>?_;obtain⟨G,M,B⟩:=bd B;refine kE I Ol (ue _ _ I.dlt X _ M) fun w a I=>?_;refine go I fun a w I=>?_;refine wl rfl (vL I OM dJ 0 rfl 0 rfl (c:=(bn f)) (cv:=(oZ G)) (key:=f) (val:=G) rfl rfl rfl rfl rfl fun a3 a2 w O I=>?_);exact fz
  exact fz
 rintro a w ⟨u,x,p,q,m,o,I,B⟩;unfold gD at B;refine go I fun a w I=>?_;cases B
 refine aG I Tryz.results39 (eA I rfl 1 rfl TS rfl (fun h=>by cases h) (aF I rfl aH)) ?_;have hZ:=I.sl [0] [0];exact⟨m,o,rfl,hZ.zd,hZ.g0⟩
def fK (c:(aE×Bool×(List (ae×aE)))) (b:Bool):Option (Bool×(List (ae×aE))):=some ((b,c.2.2))
def iS (d:bM) (e:dU):Option (Bool×(List (ae×aE))):=(kH e d.b).bind fun c=>cond (!(c.2.1)) (fK c true) (fK c (!(c.1.o==d.h.o&&c.1.p==d.h.p)))
theorem wQ (l:bM) (f:dU) (A D:Value) (E g:Nat) (e:Array MapEntry) (j:Nat) (hD:vy T L [om g e j]) (M:bW ah true bP true (dT T [om g e j]) L e f.n) (N:aQ ad (dT T [om g e j]) L A f.d.i) (P:aQ aa (dT T [om g e j]) L D f.d.s) (K:(bS E 0 [am f.d.r,A,D,.map (some g)]).p (dT T [om g e j]) L) (hLv:dC (dT T [om g e j]) L) (y:Bool×(List (ae×aE))) (B:iS l f=some y):bm aO (MD [om g e j]) 90 [.agg (L6 l).toArray,pt E 0] L (fun v w'=>∃ (u:Array MapEntry) (G:Nat),v = .bool y.1/\kl L w' [om g e j] [om g u G]/\bW ah true bP true (dT T [om g u G]) w' u y.2):=by
 refine eu (c:=_) Tryz.func90 rfl T 21 Tryz.ntmps90 hT rfl hD fun a I=>?_;replace I:=((((I.fact (bS E 0 [am f.d.r,A,D,.map (some g)]) K).fact bK hLv).fS N).fS P).fM M;unfold iS at B;refine kB I fun Q S a w O I=>?_;refine an I fun a I=>?_;obtain⟨k,F,B⟩:=bd B;replace I:=I.re [1] [0];refine wl rfl (bU I SX rfl rfl (uT _ _ I.zt f l.b _ _ _ _ _ I.dok (I.getD 0 rfl) (I.getD 2 rfl) (I.getD 1 rfl) (I.getD 3 rfl) _ F) fun _ w C a O U=>?_);obtain⟨m,t,he,H,z⟩:=C;obtain rfl:=he.symm;have I:=U _ H;replace I:=I.fM (z.keep (aw _ _) (aC _));refine kA I ID fun R V a w O I=>?_;refine go I fun a w I=>?_;refine aK (J:=fun a w=>∃ (q:Bool),St L (MD [om g e j]) T 21 [(3,.bool q)] [om g m t] [ir ah true bP true m k.2.2,aT ad A f.d.i,aT aa D f.d.s,bS E 0 [am f.d.r,A,D,.map (some g)],bK] a w/\fK k q=some y) ?_ ?_
 ·refine an I fun a I=>?_;rcases cd B with⟨x,B⟩|⟨x,B⟩
  ·exact fz
  refine an I fun a I=>?_;refine wg I rfl rfl rfl x (ky (v:=.bool (!(k.1.o==l.h.o&&k.1.p==l.h.p))) I (Te I rfl rfl) rfl rfl fun a I=>?_);exact fz
 rintro a w ⟨q,I,B⟩;unfold fK at B;refine an I fun a I=>?_;cases B
 refine aG I rfl (aF I rfl aH) ?_;have hZ:=I.sl [0] [0];exact⟨m,t,rfl,hZ.zd,hZ.g0⟩
def tE (b:(List (ae×aE))):Option (Int×(List (ae×aE))):=some (((-1),b))
def qm (f:(List bM)) (h:dU) (e:(List (ae×aE))) (b:Int):Option (Fl ((List (ae×aE))×Int) (Fl ((List (ae×aE))) (Int×(List (ae×aE))))):=cond (decide (b<(f.length:Int))) ((bp f b).bind fun g=>(iS g (dU.mk h.d e)).bind fun c=>cond c.1 (some (.out (.out (b,c.2)))) (some (.go (c.2,IntKind.i64.wrap (b+1))))) (some (.out (.go e)))
def r7 (c:(List bM)) (b:dU):Option (Int×(List (ae×aE))):=(loop (fun s:(List (ae×aE))×Int=>qm c b s.1 s.2) (b.n,0)).bind fun r=>Fl.el r (fun s=>tE s) (fun y=>some (y))
theorem D4 (o:(List bM)) (b:dU) (H x z:Value) (m e:Nat) (f:Array MapEntry) (g:Nat) (hD:vy T L [om e f g]) (X:bW ah true bP true (dT T [om e f g]) L f b.n) (Z:aQ a8 (dT T [om e f g]) L H o) (a0:aQ ad (dT T [om e f g]) L x b.d.i) (a1:aQ aa (dT T [om e f g]) L z b.d.s) (W:(bS m 0 [am b.d.r,x,z,.map (some e)]).p (dT T [om e f g]) L) (hLv:dC (dT T [om e f g]) L) (y:Int×(List (ae×aE))) (B:r7 o b=some y):bm aO (MD [om e f g]) 143 [H,.func (.func 90) #[] #[pt m 0]] L (fun v w'=>∃ (D:Array MapEntry) (A:Nat),v=am y.1/\kl L w' [om e f g] [om e D A]/\bW ah true bP true (dT T [om e D A]) w' D y.2):=by
 refine eu (c:=_) Tryz.func143 rfl T 19 Tryz.ntmps143 hT rfl hD fun a I=>?_;replace I:=(((((I.fact (bS m 0 [am b.d.r,x,z,.map (some e)]) W).fact bK hLv).fS Z).fS a0).fS a1).fM X;unfold r7 at B;refine an I fun a I=>?_;refine aK (J:=fun a w=>∃ (u:(List (ae×aE))) (j:AM) (q:Nat),St L (MD [om e f g]) T 19 [] [om e j q] [ir ah true bP true j u,aT ad x b.d.i,aT aa z b.d.s,bS m 0 [am b.d.r,x,z,.map (some e)],bK] a w/\tE u=some y) ?_ ?_
 ·refine an I fun a I=>?_;obtain⟨r1,Y,hMo1⟩:=bd B;refine bz _ (fun s a w=>∃ (h:(List (ae×aE))) (l:Int) (k:AM) (t:Nat),(h,l)=s/\St L (MD [om e f g]) T 19 [(0,H),(1,.func (.func 90) #[] #[pt m 0]),(7,am (o.length:Int)),(8,am l)] [om e k t] [ir ah true bP true k h,aT ad x b.d.i,aT aa z b.d.s,bS m 0 [am b.d.r,x,z,.map (some e)],aT a8 H o,bK] a w) Y ⟨_,_,_,_,rfl,I.mt [0] [0,2,1,5,3,4]⟩ ?_;rintro s a w f1 ⟨h,l,k,t,rfl,I⟩ B hf1;have B:qm o b h l=some f1:=B;unfold qm at B;refine an I fun a I=>?_;refine ax ?_;rcases cd B with⟨P,B⟩|⟨P,B⟩
  ·refine an I fun a I=>?_;refine ax ?_;refine an I fun a I=>?_;obtain⟨M,F,B⟩:=bd B;refine wl rfl (bv (R:=a8) I Ej Gf rfl rfl 4 rfl F rfl fun a2 a5 a3 Q a I=>?_);obtain rfl:=Q;refine an I fun a I=>?_;obtain⟨a9,G,B⟩:=bd B;replace I:=I.re [0] [];refine wl rfl (zI (D0:=[om e k t]) (Dr:=[]) (cap:=[pt m 0]) I rfl UO rfl rfl (wQ _ _ I.zt M (dU.mk b.d h) _ _ m _ _ _ I.dok (I.getD 1 rfl) (I.getD 2 rfl) (I.getD 3 rfl) (I.getD 4 rfl) (I.getD 6 rfl) _ G) fun _ w C a O U=>?_);obtain⟨N,K,he,S,E⟩:=C;obtain rfl:=he.symm;have I:=U _ S;replace I:=I.fM (E.keep (aw _ _) (aC _));refine an I fun a I=>?_;rcases cd B with⟨V,B⟩|⟨V,B⟩
   ·refine an I fun a I=>?_;cases B
    have hr:=hf1 _ rfl;subst hr;replace hMo1:=jX hMo1;have B:=hMo1;cases B
    refine aG I rfl (aF I rfl aH) ?_;have hZ:=I.sl [0] [0];exact⟨N,K,rfl,hZ.zd,hZ.g0⟩
   exact fz
  exact fz
 rintro a w ⟨u,j,q,I,B⟩;unfold tE at B;refine an I fun a I=>?_;cases B
 refine aG I rfl (aF I rfl aH) ?_;have hZ:=I.sl [0] [0];exact⟨j,q,rfl,hZ.zd,hZ.g0⟩
def rK (d:(List bM)) (c:dU):Option (Bool×(List (ae×aE))):=(r7 d c).bind fun b=>some ((decide ((0:Int)<=b.1),b.2))
theorem BJ (l:(List bM)) (g:dU) (H z A:Value) (m f:Nat) (b:Array MapEntry) (e:Nat) (hD:vy T L [om f b e]) (D:bW ah true bP true (dT T [om f b e]) L b g.n) (E:aQ a8 (dT T [om f b e]) L H l) (F:aQ ad (dT T [om f b e]) L z g.d.i) (G:aQ aa (dT T [om f b e]) L A g.d.s) (x:(bS m 0 [am g.d.r,z,A,.map (some f)]).p (dT T [om f b e]) L) (hLv:dC (dT T [om f b e]) L) (y:Bool×(List (ae×aE))) (B:rK l g=some y):bm aO (MD [om f b e]) 89 [H,.func (.func 90) #[] #[pt m 0]] L (fun v w'=>∃ (j:Array MapEntry) (h:Nat),v = .bool y.1/\kl L w' [om f b e] [om f j h]/\bW ah true bP true (dT T [om f j h]) w' j y.2):=by
 refine eu (c:=_) Tryz.func89 rfl T 9 Tryz.ntmps89 hT rfl hD fun a I=>?_;replace I:=(((((I.fact (bS m 0 [am g.d.r,z,A,.map (some f)]) x).fact bK hLv).fS E).fS F).fS G).fM D;unfold rK at B;refine an I fun a I=>?_;obtain⟨J,o,B⟩:=bd B;replace I:=I.re [0] [];refine wl rfl (bU I Sm rfl rfl (D4 _ _ I.zt l g _ _ _ m _ _ _ I.dok (I.getD 0 rfl) (I.getD 3 rfl) (I.getD 2 rfl) (I.getD 1 rfl) (I.getD 5 rfl) (I.getD 4 rfl) _ o) fun _ w C a O U=>?_);obtain⟨t,q,he,u,k⟩:=C;obtain rfl:=he.symm;have I:=U _ u;replace I:=I.fM (k.keep (aw _ _) (aC _));refine an I fun a I=>?_;cases B
 refine aG I rfl (aF I rfl aH) ?_;have hZ:=I.sl [0] [0];exact⟨t,q,rfl,hZ.zd,hZ.g0⟩
def iI (c:dU) (d:ac):Option (Bool×(List (ae×aE))):=(rK d.v c).bind fun b=>some ((!(b.1),b.2))
theorem tr (g:dU) (h:ac) (D E F:Value) (f:Nat) (b:Array MapEntry) (e:Nat) (hD:vy T L [om f b e]) (u:bW ah true bP true (dT T [om f b e]) L b g.n) (x:aQ ad (dT T [om f b e]) L D g.d.i) (z:aQ aa (dT T [om f b e]) L E g.d.s) (A:aQ a8 (dT T [om f b e]) L F h.v) (hLv:dC (dT T [om f b e]) L) (y:Bool×(List (ae×aE))) (B:iI g h=some y):bm aO (MD [om f b e]) 42 [.agg #[am g.d.r,D,E,.map (some f)],.agg (aZ h F).toArray] L (fun v w'=>∃ (k:Array MapEntry) (o:Nat),v = .bool y.1/\kl L w' [om f b e] [om f k o]/\bW ah true bP true (dT T [om f k o]) w' k y.2):=by
 refine eu (c:=_) Tryz.func42 rfl T 10 Tryz.ntmps42 hT rfl hD fun a I=>?_;replace I:=((((I.fact bK hLv).fS x).fS z).fS A).fM u;unfold iI at B;refine kB I fun j H a w O I=>?_;refine kb I fun G J a w O I=>?_;refine an I fun a I=>?_;replace I:=I.zx 1 rfl;refine qy I (vt (vs:=[pt j 0]) I rfl) fun a I=>?_;obtain⟨K,m,B⟩:=bd B;replace I:=I.re [1] [0];refine wl rfl (bU I UN rfl rfl (BJ _ _ I.zt h.v g _ _ _ j _ _ _ I.dok (I.getD 1 rfl) (I.getD 2 rfl) (I.getD 4 rfl) (I.getD 3 rfl) (I.getD 0 rfl) (I.getD 5 rfl) _ m) fun _ w C a O U=>?_);obtain⟨q,p,he,t,l⟩:=C;obtain rfl:=he.symm;have I:=U _ t;replace I:=I.fM (l.keep (aw _ _) (aC _));refine an I fun a I=>?_;cases B
 refine aG I rfl (aF I rfl aH) ?_;have hZ:=I.sl [0] [0];exact⟨q,p,rfl,hZ.zd,hZ.g0⟩
def q9 (b:(List ac)):Option (List ac):=some (b)
def kx (b:Int) (d:(List ac)) (c:(List (ae×aE))):Option (Fl ((List ac)×Int×(List (ae×aE))) ((List ac))):=some (.go (d,IntKind.i64.wrap (b+1),c))
def iF (d:(List ac)) (e:Int) (c:ar) (f:(List (ae×aE))) (g:(List bM)) (h:Bool):Option (Fl ((List ac)×Int×(List (ae×aE))) ((List ac))):=cond h (gd (cm (d.length+([(ac.mk c.b g c.t c.a)]).length)) <| kx e (d++([(ac.mk c.b g c.t c.a)])) f) (kx e d f)
def kz (g:ap) (f:(List ac)) (d:Int) (b:ar) (e:(List (ae×aE))) (c:(List bM)):Option (Fl ((List ac)×Int×(List (ae×aE))) ((List ac))):=cond (b.u==g.r) (iF f d b e c ((c.length:Int)==(b.v.length:Int))) (iF f d b e c false)
def nI (b:Int) (c:(List (ae×aE))) (d:(List bM)):Option (Fl (Int×(List (ae×aE))×(List bM)) ((List (ae×aE))×(List bM))):=some (.go (IntKind.i64.wrap (b+1),c,d))
def nJ (i:dU) (g:ar) (c:Int) (h:(List (ae×aE))) (e:(List bM)):Option (Fl (Int×(List (ae×aE))×(List bM)) ((List (ae×aE))×(List bM))):=cond (decide (c<(g.v.length:Int))) ((bp g.v c).bind fun f=>(kH (dU.mk i.d h) f).bind fun b=>cond b.2.1 (gd (cm (e.length+([(bM.mk f (aE.mk b.1.o b.1.p))]).length)) <| nI c b.2.2 (e++([(bM.mk f (aE.mk b.1.o b.1.p))]))) (nI c b.2.2 e)) (some (.out (h,e)))
def nK (c:ap) (g:dU) (e:(List ac)) (b:Int) (f:(List (ae×aE))):Option (Fl ((List ac)×Int×(List (ae×aE))) ((List ac))):=cond (decide (b<(c.s.length:Int))) ((bp c.s b).bind fun d=>(loop (fun s:Int×(List (ae×aE))×(List bM)=>nJ g d s.1 s.2.1 s.2.2) (0,f,([]:List bM))).bind fun r=>kz c e b d r.1 r.2) (some (.out e))
def ix (c:ap):Option (List ac):=(mR c).bind fun b=>(loop (fun s:(List ac)×Int×(List (ae×aE))=>nK c b s.1 s.2.1 s.2.2) (([]:List ac),0,b.n)).bind fun r=>q9 r
theorem wk (hLv:dC T L) (e:ap) (M E:Value) (dk:aQ ad T L M e.i) (dl:aQ aa T L E e.s) (y:(List ac)) (B:ix e=some y):bm aO No 15 [.agg (bA e M E).toArray] L (fun v w'=>∃ (v3:Value) (rJ:bG),v=v3/\jy ai T L w' [bu v3 rJ] 30 v3 rJ y):=by
 refine en Tryz.func15 Tryz.ntmps15 hT fun a I=>?_;replace I:=((I.fact bK (dC.dn hLv)).fS (aQ.dn dk)).fS (aQ.dn dl);unfold ix at B;refine kB I fun m eg a w O I=>?_;refine an I fun a I=>?_;obtain⟨f,c3,B⟩:=bd B;refine kc I QD (uC _ _ I.dlt e _ _ I.g1 I.g0 _ c3) fun _ w C a O U=>?_;obtain⟨u,z,h,ca,c9,he,bs,bt,⟨bg,bb,bi⟩⟩:=C;obtain rfl:=he.symm;have I:=U [om h ca c9] (rX bg (zO bb)) (Gz _);replace I:=((I.fM (bi.keep (aw _ _) (mV _))).fS (bs.sub (mV _))).fS (bt.sub (mV _));refine ka I NX fun n ei a w O I=>?_;refine go I fun a w I=>?_;refine aK (J:=fun a w=>∃ (av:(List ac)) (a0:Value) (Y:LV),St L No T 71 [(4,a0)] [bu a0 Y] [au ai Y av,bK] a w/\q9 av=some y) ?_ ?_
 ·refine an I fun a I=>?_;replace I:=I.zn ai 30 (by decide);obtain⟨r1,d6,hMo1⟩:=bd B;refine bz _ (fun s a w=>∃ (q:(List ac)) (l:Int) (Z:(List (ae×aE))) (D:Value) (A:LV) (a5:AM) (b5:Nat),(q,l,Z)=s/\St L No T 71 [(1,pt m 0),(3,pt n 0),(4,D),(15,E),(16,am (e.s.length:Int)),(17,am l)] [bu D A,.box m (bA e M E) 37,om h a5 b5,.box n [am f.d.r,u,z,.map (some h)] 94] [au ai A q,aT aa E e.s,aT ad M e.i,aT ad u f.d.i,aT aa z f.d.s,ir ah true bP true a5 Z,bK] a w) d6 ⟨_,_,_,_,_,_,_,rfl,I.mt [0,3,2,1] [0,4,5,2,1,3,6]⟩ ?_;rintro s a w f1 ⟨q,l,Z,D,A,a5,b5,rfl,I⟩ B hf1;have B:nK e f q l Z=some f1:=B;unfold nK at B;refine an I fun a I=>?_;refine ax ?_;rcases cd B with⟨cb,B⟩|⟨cb,B⟩
  ·refine an I fun a I=>?_;refine aK (J:=fun a w=>∃ (b0:(List ac)) (ak:(List (ae×aE))) (b1:Value) (a1:LV) (a9:AM) (b6:Nat),St L No T 71 [(1,pt m 0),(3,pt n 0),(4,b1),(15,E),(16,am (e.s.length:Int)),(17,am l)] [bu b1 a1,.box m (bA e M E) 37,om h a9 b6,.box n [am f.d.r,u,z,.map (some h)] 94] [au ai a1 b0,aT aa E e.s,aT ad M e.i,aT ad u f.d.i,aT aa z f.d.s,ir ah true bP true a9 ak,bK] a w/\kx l b0 ak=some f1) ?_ ?_
   ·refine an I fun a I=>?_;obtain⟨c,c1,B⟩:=bd B;refine wl rfl (bv (R:=aa) I rG pA rfl rfl 1 rfl c1 rfl fun ds et e6 cf a I=>?_);obtain⟨G,rfl,c5⟩:=cf;replace I:=I.fS c5;refine kA I jB fun N ek a w O I=>?_;refine go I fun a w I=>?_;refine qy I (bE (ps:=[(0,.tmp 22),(2,.tmp 24),(3,.tmp 26)]) I Ty rH rfl (us:=[(bn c.b),[bc c.t],[am c.a]]) ⟨rfl,⟨rfl,⟨rfl,trivial⟩⟩⟩ (ws:=[am c.b.k,bc c.b.x,(.slice none 0 0),bc c.t,am c.a]) rfl) fun a I=>?_;refine ka I rH fun F el a w O I=>?_;refine go I fun a w I=>?_;refine aK (J:=fun a w=>∃ (X:(List (ae×aE))) (K:(List bM)) (W:AM) (a2:Nat) (H:Value) (V:LV),St L No T 71 [(1,pt m 0),(3,pt n 0),(4,D),(6,pt N 0),(7,pt F 0),(15,E),(16,am (e.s.length:Int)),(17,am l)] [bu D A,.box m (bA e M E) 37,om h W a2,.box n [am f.d.r,u,z,.map (some h)] 94,.box N (bN c G) 78,vR H V,.box F [am c.b.k,bc c.b.x,H,bc c.t,am c.a] 30] [au ai A q,aT aa E e.s,aT ad M e.i,aT ad u f.d.i,aT aa z f.d.s,ir ah true bP true W X,aT ah G c.v,au a8 V K,bK] a w/\kz e q l c X K=some f1) ?_ ?_
    ·refine an I fun a I=>?_;replace I:=I.zn a8 49 (by decide);obtain⟨r2,dc,hMo2⟩:=bd B;refine bz _ (fun s a w=>∃ (P:Int) (Q:(List (ae×aE))) (S:(List bM)) (ab:AM) (b7:Nat) (b2:Value) (a3:LV),(P,Q,S)=s/\St L No T 71 [(1,pt m 0),(3,pt n 0),(4,D),(6,pt N 0),(7,pt F 0),(15,E),(16,am (e.s.length:Int)),(17,am l),(29,G),(30,am (c.v.length:Int)),(31,am P)] [bu D A,.box m (bA e M E) 37,om h ab b7,.box n [am f.d.r,u,z,.map (some h)] 94,.box N (bN c G) 78,vR b2 a3,.box F [am c.b.k,bc c.b.x,b2,bc c.t,am c.a] 30] [au ai A q,aT aa E e.s,aT ah G c.v,aT ad M e.i,aT ad u f.d.i,aT aa z f.d.s,ir ah true bP true ab Q,au a8 a3 S,bK] a w) dc ⟨_,_,_,_,_,_,_,rfl,I.mt [3,4,5,6,2,0,1] [3,4,1,5,6,7,8,0,9]⟩ ?_;rintro s a w f2 ⟨P,Q,S,ab,b7,b2,a3,rfl,I⟩ B hf2;have B:nJ f c P Q S=some f2:=B;unfold nJ at B;refine an I fun a I=>?_;refine ax ?_;rcases cd B with⟨ch,B⟩|⟨ch,B⟩
     ·refine an I fun a I=>?_;refine aK (J:=fun a w=>∃ (ao:(List (ae×aE))) (b4:(List bM)) (af:AM) (b8:Nat) (b3:Value) (a4:LV),St L No T 71 [(1,pt m 0),(3,pt n 0),(4,D),(6,pt N 0),(7,pt F 0),(15,E),(16,am (e.s.length:Int)),(17,am l),(29,G),(30,am (c.v.length:Int)),(31,am P)] [bu D A,.box m (bA e M E) 37,om h af b8,.box n [am f.d.r,u,z,.map (some h)] 94,.box N (bN c G) 78,vR b3 a4,.box F [am c.b.k,bc c.b.x,b3,bc c.t,am c.a] 30] [au ai A q,aT aa E e.s,aT ah G c.v,aT ad M e.i,aT ad u f.d.i,aT aa z f.d.s,ir ah true bP true af ao,au a8 a4 b4,bK] a w/\nI P ao b4=some f2) ?_ ?_
      ·refine an I fun a I=>?_;obtain⟨j,c2,B⟩:=bd B;refine wl rfl (bv (R:=ah) I nC gB rfl rfl 2 rfl c2 rfl fun e0 ex e7 ck a I=>?_);obtain rfl:=ck;refine kA I jV fun e2 eq a w O I=>?_;refine go I fun a w I=>?_;obtain⟨g,c4,B⟩:=bd B;replace I:=I.re [3] [0,1,2,4,5,6,7];refine wl rfl (bU I SX rfl rfl (uT _ _ I.zt (dU.mk f.d Q) j _ _ _ _ _ I.dok (I.getD 7 rfl) (I.getD 5 rfl) (I.getD 6 rfl) (I.getD 9 rfl) _ c4) fun _ w C a O U=>?_);obtain⟨ed,e8,he,cs,bl⟩:=C;obtain rfl:=he.symm;have I:=U _ cs;replace I:=I.fM (bl.keep (aw _ _) (aC _));refine kA I ID fun e3 er a w O I=>?_;refine go I fun a w I=>?_;rcases cd B with⟨cv,B⟩|⟨cv,B⟩
       ·refine an I fun a I=>?_;refine qy I (bE (ps:=[(0,.tmp 44),(1,.tmp 45)]) I TA Ep rfl (us:=[(bn j),(oZ g.1)]) ⟨rfl,⟨rfl,trivial⟩⟩ (ws:=[am j.k,bc j.x,am g.1.o,.int .u64 g.1.p]) rfl) fun a I=>?_;refine wl rfl (bq (ps:=[(0,.tmp 46)]) I I0 Ep (zl:=[am 0,bc cu,am 0,.int .u64 0]) (by kernel_rfl) rfl (us:=[[am j.k,bc j.x,am g.1.o,.int .u64 g.1.p]]) ⟨rfl,trivial⟩ (ws:=[am j.k,bc j.x,am g.1.o,.int .u64 g.1.p]) rfl rfl rfl rfl fun e4 a w O I=>?_);replace I:=(I.lit (R:=a8) (us:=[am j.k,bc j.x,am g.1.o,.int .u64 g.1.p]) (xs:=[(bM.mk j (aE.mk g.1.o g.1.p))]) 0 rfl (by decide) (aN (R:=a8) (x:=(bM.mk j (aE.mk g.1.o g.1.p))) rfl) rfl rfl).zf (R:=a8) 0 rfl 0 rfl;obtain⟨d0,B⟩:=a6 B;refine wl rfl (cr (R:=a8) (xs:=S) (ys:=[(bM.mk j (aE.mk g.1.o g.1.p))]) I I0 (by decide) (by decide) rfl rfl 7 rfl 11 rfl 0 rfl d0 rfl fun ey ea a w O I=>?_);exact fz
       exact fz
      rintro a w ⟨ao,b4,af,b8,b3,a4,I,B⟩;unfold nI at B;exact fz
     refine an I fun a I=>?_;cases B
     have hr:=hf2 _ rfl;subst hr;have B:kz e q l c Q S=some f1:=hMo2;exact fin
    rintro a w ⟨X,K,W,a2,H,V,I,B⟩;unfold kz at B;refine aK (J:=fun a w=>∃ (ag:Bool),St L No T 71 [(1,pt m 0),(3,pt n 0),(4,D),(7,pt F 0),(15,E),(16,am (e.s.length:Int)),(17,am l),(64,.bool ag)] [bu D A,.box m (bA e M E) 37,om h W a2,.box n [am f.d.r,u,z,.map (some h)] 94,vR H V,.box F [am c.b.k,bc c.b.x,H,bc c.t,am c.a] 30] [au ai A q,aT aa E e.s,aT ad M e.i,aT ad u f.d.i,aT aa z f.d.s,ir ah true bP true W X,au a8 V K,bK] a w/\iF q l c X K ag=some f1) ?_ ?_
    ·exact fz
    rintro a w ⟨ag,I,B⟩;unfold iF at B;rcases cd B with⟨d1,B⟩|⟨d1,B⟩
    ·refine an I fun a I=>?_;refine wl rfl (bq (ps:=[(0,.tmp 66)]) I qW rH (zl:=[am 0,bc cu,.slice none 0 0,bc cu,am 0]) (by kernel_rfl) rfl (us:=[[am c.b.k,bc c.b.x,H,bc c.t,am c.a]]) ⟨rfl,trivial⟩ (ws:=[am c.b.k,bc c.b.x,H,bc c.t,am c.a]) rfl rfl rfl rfl fun e5 a w O I=>?_);replace I:=I.zf (R:=a8) 5 rfl 6 rfl;replace I:=(I.lit (R:=ai) (us:=[am c.b.k,bc c.b.x,H,bc c.t,am c.a]) (xs:=[(ac.mk c.b K c.t c.a)]) 0 rfl (by decide) (aN (R:=ai) (x:=(ac.mk c.b K c.t c.a)) (⟨_,rfl,I.g0⟩)) rfl rfl).zf (R:=ai) 0 rfl 0 rfl;obtain⟨d2,B⟩:=a6 B;refine wl rfl (cr (R:=ai) (xs:=q) (ys:=[(ac.mk c.b K c.t c.a)]) I qW (by decide) (by decide) rfl rfl 0 rfl 3 rfl 0 rfl d2 rfl fun eT eb a w O I=>?_);exact fz
    exact fz
   rintro a w ⟨b0,ak,b1,a1,a9,b6,I,B⟩;unfold kx at B;exact fz
  exact fz
 rintro a w ⟨av,a0,Y,I,B⟩;unfold q9 at B;refine an I fun a I=>?_;cases B
 refine aG I rfl (aF I rfl aH) ?_;exact⟨a0,Y,rfl,I.zo ⟨.inr (az (i:=0) rfl),trivial⟩ 0 rfl 0 rfl⟩
def jW (d:ap) (e:ac):Option Bool:=(mR d).bind fun b=>(iI b e).bind fun c=>some (c.1)
theorem zq (hLv:dC T L) (b:ap) (c:ac) (x z A:Value) (r:aQ ad T L x b.i) (t:aQ aa T L z b.s) (u:aQ a8 T L A c.v) (y:Bool) (B:jW b c=some y):bm aO No 17 [.agg (bA b x z).toArray,.agg (aZ c A).toArray] L (fun v w'=>v = .bool y):=by
 refine en Tryz.func17 Tryz.ntmps17 hT fun a I=>?_;replace I:=(((I.fact bK (dC.dn hLv)).fS (aQ.dn r)).fS (aQ.dn t)).fS (aQ.dn u);unfold jW at B;refine kB I fun D H a w O I=>?_;refine kb I fun E J a w O I=>?_;refine an I fun a I=>?_;refine ax ?_;refine dr [(3,.any)] I fun w hQ I=>?_;refine gE [0,2] I fun a I=>?_;obtain⟨q,k,B⟩:=bd B;refine ec 1 I QD (uC _ _ I.dlt b _ _ I.g2 I.g1 _ k) fun _ w C a O U=>?_;obtain⟨M,N,m,o,n,he,h,j,⟨e,d,f⟩⟩:=C;obtain rfl:=he.symm;have I:=U [om m o n] (rX e (zO d)) (Gz _);replace I:=((I.fM (f.keep (aw _ _) (mV _))).fS (h.sub (mV _))).fS (j.sub (mV _));obtain⟨K,l,B⟩:=bd B;replace I:=I.re [0] [1,2];refine e1 3 (bU I SZ rfl rfl (tr _ _ I.zt q c _ _ _ _ _ _ I.dok (I.getD 2 rfl) (I.getD 1 rfl) (I.getD 0 rfl) (I.getD 3 rfl) (I.getD 6 rfl) _ l) fun _ w C a O U=>⟨qU rfl O wZ,?_⟩);obtain⟨G,F,he,p,g⟩:=C;obtain rfl:=he.symm;have I:=U _ p;replace I:=I.fM (g.keep (aw _ _) (aC _));refine gE [4] I fun a I=>?_;refine eD ?_;exact fz
def fU (d:LO) (c:(List (ae×aE))) (b:Bool):Option (Bool×LO×(List (ae×aE))):=some ((b,d,c))
def lW (f:ac) (i:LU) (c:LO) (d:dU):Option (Bool×LO×(List (ae×aE))):=(gj i f.b).bind fun g=>cond g ((some ((cJ aB f.b c).getD false)).bind fun h=>cond (!(h)) ((iI d f).bind fun e=>fU c e.2 e.1) (fU c d.n false)) (fU c d.n false)
theorem zr (m:ac) (N:LU) (G:LO) (l:dU) (v1 v2:Value) (P u:Value) (X Q:Nat) (F k:Nat) (h:Array MapEntry) (j e:Nat) (f:Array MapEntry) (g:Nat) (hD:vy T L [om k h j,om e f g]) (ab:bW ah true aY.bool false (dT T [om k h j,om e f g]) L h G) (a3:bW ah true bP true (dT T [om k h j,om e f g]) L f l.n) (af:aQ a8 (dT T [om k h j,om e f g]) L v1 m.v) (ag:aQ ay (dT T [om k h j,om e f g]) L v2 N) (ak:aQ ad (dT T [om k h j,om e f g]) L P l.d.i) (a4:aQ aa (dT T [om k h j,om e f g]) L u l.d.s) (a1:(bS X 0 [v2]).p (dT T [om k h j,om e f g]) L) (a2:(bS Q 0 [.map (some k)]).p (dT T [om k h j,om e f g]) L) (R:(bS F 0 [am l.d.r,P,u,.map (some e)]).p (dT T [om k h j,om e f g]) L) (hLv:dC (dT T [om k h j,om e f g]) L) (y:Bool×LO×(List (ae×aE))) (B:lW m N G l=some y):bm aO (MD [om k h j,om e f g]) 61 [.agg (aZ m v1).toArray,pt X 0,pt Q 0,pt F 0] L (fun v w'=>∃ (q:Array MapEntry) (z:Nat) (t:Array MapEntry) (A:Nat),v = .bool y.1/\kl L w' [om k h j,om e f g] [om k q z,om e t A]/\bW ah true aY.bool false (dT T [om k q z,om e t A]) w' q y.2.1/\bW ah true bP true (dT T [om k q z,om e t A]) w' t y.2.2):=by
 refine eu (c:=_) Tryz.func61 rfl T 22 Tryz.ntmps61 hT rfl hD fun a I=>?_;replace I:=(((((((((I.fact (bS X 0 [v2]) a1).fact (bS Q 0 [.map (some k)]) a2).fact (bS F 0 [am l.d.r,P,u,.map (some e)]) R).fact bK hLv).fS af).fS ag).fS ak).fS a4).fM ab).fM a3;unfold lW at B;refine kB I fun av b4 a w O I=>?_;refine an I fun a I=>?_;refine aK (J:=fun a w=>∃ (E:(List (ae×aE))) (D:Bool) (o:AM) (x:Nat),St L (MD [om k h j,om e f g]) T 22 [(5,.bool D)] [om k h j,om e o x] [wu h G,ir ah true bP true o E,aT ad P l.d.i,aT aa u l.d.s,bS F 0 [am l.d.r,P,u,.map (some e)],bS Q 0 [.map (some k)],bK] a w/\fU G E D=some y) ?_ ?_
 ·refine an I fun a I=>?_;obtain⟨b6,S,B⟩:=bd B;refine kF I UC (D3 _ _ I.dlt I.g6 N m.b _ I.g4 _ S) fun w a I=>?_;rcases cd B with⟨H,B⟩|⟨H,B⟩
  ·refine an I fun a I=>?_;obtain⟨a5,V,B⟩:=bd B;obtain⟨b0,Y,Z⟩:=mD I xj dJ 1 rfl 1 rfl (c:=(bn m.b)) (key:=m.b) rfl Ry (zc:=[.bool false]) rfl rfl V;obtain rfl:=Y;refine wg I rfl rfl rfl H (ky (v:=.bool a5) I (Z rfl rfl id) rfl rfl fun a I=>?_);refine an I fun a I=>?_;rcases cd B with⟨K,B⟩|⟨K,B⟩
   ·refine an I fun a I=>?_;obtain⟨b7,W,B⟩:=bd B;replace I:=I.re [2] [0,1];refine wg I rfl rfl rfl K (bU I SZ rfl rfl (tr _ _ I.zt l m _ _ _ _ _ _ I.dok (I.getD 0 rfl) (I.getD 3 rfl) (I.getD 2 rfl) (I.getD 5 rfl) (I.getD 6 rfl) _ W) fun _ w C a O U=>?_);obtain⟨b2,b1,he,a0,M⟩:=C;obtain rfl:=he.symm;have I:=U _ a0;replace I:=I.fM (M.keep (aw _ _) (aC _));exact fz
   exact fz
  exact fz
 rintro a w ⟨E,D,o,x,I,B⟩;unfold fU at B;refine an I fun a I=>?_;cases B
 refine aG I rfl (aF I rfl aH) ?_;have hZ:=I.sl [0,1] [0,1];exact⟨h,j,o,x,rfl,hZ.zd,hZ.g0,hZ.g1⟩
def mE (b:LO) (c:(List (ae×aE))):Option (Int×LO×(List (ae×aE))):=some (((-1),b,c))
def mF (g:(List ac)) (i:LU) (j:dU) (e:LO) (f:(List (ae×aE))) (c:Int):Option (Fl (LO×(List (ae×aE))×Int) (Fl (LO×(List (ae×aE))) (Int×LO×(List (ae×aE))))):=cond (decide (c<(g.length:Int))) ((bp g c).bind fun h=>(lW h i e (dU.mk j.d f)).bind fun b=>cond b.1 (some (.out (.out (c,b.2.1,b.2.2)))) (some (.go (b.2.1,b.2.2,IntKind.i64.wrap (c+1))))) (some (.out (.go (e,f))))
def mY (e:(List ac)) (c:LU) (d:LO) (b:dU):Option (Int×LO×(List (ae×aE))):=(loop (fun s:LO×(List (ae×aE))×Int=>mF e c b s.1 s.2.1 s.2.2) (d,b.n,0)).bind fun r=>Fl.el r (fun s=>mE s.1 s.2) (fun y=>some (y))
theorem Aq (H:(List ac)) (G:LU) (ab:LO) (k:dU) (v1 v2:Value) (Y q:Value) (K F:Nat) (l g:Nat) (h:Array MapEntry) (j b:Nat) (e:Array MapEntry) (f:Nat) (hD:vy T L [om g h j,om b e f]) (bg:bW ah true aY.bool false (dT T [om g h j,om b e f]) L h ab) (b9:bW ah true bP true (dT T [om g h j,om b e f]) L e k.n) (bl:aQ ai (dT T [om g h j,om b e f]) L v1 H) (bs:aQ ay (dT T [om g h j,om b e f]) L v2 G) (bt:aQ ad (dT T [om g h j,om b e f]) L Y k.d.i) (bb:aQ aa (dT T [om g h j,om b e f]) L q k.d.s) (b6:(bS K 0 [v2]).p (dT T [om g h j,om b e f]) L) (b7:(bS F 0 [.map (some g)]).p (dT T [om g h j,om b e f]) L) (a2:(bS l 0 [am k.d.r,Y,q,.map (some b)]).p (dT T [om g h j,om b e f]) L) (hLv:dC (dT T [om g h j,om b e f]) L) (y:Int×LO×(List (ae×aE))) (B:mY H G ab k=some y):bm aO (MD [om g h j,om b e f]) 60 [v1,.func (.func 61) #[] #[pt K 0,pt F 0,pt l 0]] L (fun v w'=>∃ (A:Array MapEntry) (S:Nat) (D:Array MapEntry) (V:Nat),v=am y.1/\kl L w' [om g h j,om b e f] [om g A S,om b D V]/\bW ah true aY.bool false (dT T [om g A S,om b D V]) w' A y.2.1/\bW ah true bP true (dT T [om g A S,om b D V]) w' D y.2.2):=by
 refine eu (c:=_) Tryz.func60 rfl T 19 Tryz.ntmps60 hT rfl hD fun a I=>?_;replace I:=(((((((((I.fact (bS K 0 [v2]) b6).fact (bS F 0 [.map (some g)]) b7).fact (bS l 0 [am k.d.r,Y,q,.map (some b)]) a2).fact bK hLv).fS bl).fS bs).fS bt).fS bb).fM bg).fM b9;unfold mY at B;refine an I fun a I=>?_;refine aK (J:=fun a w=>∃ (W:LO) (X:(List (ae×aE))) (t:AM) (M:Nat) (u:AM) (N:Nat),St L (MD [om g h j,om b e f]) T 19 [] [om g t M,om b u N] [wu t W,ir ah true bP true u X,aT ad Y k.d.i,aT aa q k.d.s,bS l 0 [am k.d.r,Y,q,.map (some b)],bS F 0 [.map (some g)],bK] a w/\mE W X=some y) ?_ ?_
 ·refine an I fun a I=>?_;obtain⟨r1,bi,hMo1⟩:=bd B;refine bz _ (fun s a w=>∃ (m:LO) (o:(List (ae×aE))) (E:Int) (x:AM) (P:Nat) (z:AM) (Q:Nat),(m,o,E)=s/\St L (MD [om g h j,om b e f]) T 19 [(0,v1),(1,.func (.func 61) #[] #[pt K 0,pt F 0,pt l 0]),(7,am (H.length:Int)),(8,am E)] [om g x P,om b z Q] [wu x m,ir ah true bP true z o,aT ad Y k.d.i,aT aa q k.d.s,bS l 0 [am k.d.r,Y,q,.map (some b)],bS F 0 [.map (some g)],aT ay v2 G,bS K 0 [v2],aT ai v1 H,bK] a w) bi ⟨_,_,_,_,_,_,_,rfl,I.mt [0,1] [1,0,3,2,7,8,4,9,5,6]⟩ ?_;rintro s a w f1 ⟨m,o,E,x,P,z,Q,rfl,I⟩ B hf1;have B:mF H G k m o E=some f1:=B;unfold mF at B;refine an I fun a I=>?_;refine ax ?_;rcases cd B with⟨b0,B⟩|⟨b0,B⟩
  ·refine an I fun a I=>?_;refine ax ?_;refine an I fun a I=>?_;obtain⟨ak,a3,B⟩:=bd B;refine wl rfl (bv (R:=ai) I wJ s7 rfl rfl 8 rfl a3 rfl fun c1 c4 c2 b1 a I=>?_);obtain⟨c9,rfl,a5⟩:=b1;replace I:=I.fS a5;refine an I fun a I=>?_;obtain⟨c5,a4,B⟩:=bd B;replace I:=I.re [0,1] [];refine wl rfl (zI (D0:=[om g x P,om b z Q]) (Dr:=[]) (cap:=[pt K 0,pt F 0,pt l 0]) I rfl UB rfl rfl (zr _ _ I.zt ak G m (dU.mk k.d o) _ _ _ _ K F l _ _ _ _ _ _ I.dok (I.getD 2 rfl) (I.getD 3 rfl) (I.getD 0 rfl) (I.getD 8 rfl) (I.getD 4 rfl) (I.getD 5 rfl) (I.getD 9 rfl) (I.getD 7 rfl) (I.getD 6 rfl) (I.getD 11 rfl) _ a4) fun _ w C a O U=>?_);obtain⟨ao,af,av,ag,he,b2,Z,a0⟩:=C;obtain rfl:=he.symm;have I:=U _ b2;replace I:=(I.fM (Z.keep (aw _ _) (aC _))).fM (a0.keep (aw _ _) (aC _));refine an I fun a I=>?_;rcases cd B with⟨b4,B⟩|⟨b4,B⟩
   ·refine an I fun a I=>?_;cases B
    have hr:=hf1 _ rfl;subst hr;replace hMo1:=jX hMo1;have B:=hMo1;cases B
    refine aG I rfl (aF I rfl aH) ?_;have hZ:=I.sl [0,1] [1,0];exact⟨ao,af,av,ag,rfl,hZ.zd,hZ.g0,hZ.g1⟩
   exact fz
  exact fz
 rintro a w ⟨W,X,t,M,u,N,I,B⟩;unfold mE at B;refine an I fun a I=>?_;cases B
 refine aG I rfl (aF I rfl aH) ?_;have hZ:=I.sl [0,1] [0,1];exact⟨t,M,u,N,rfl,hZ.zd,hZ.g0,hZ.g1⟩
def nL (c:(List (ae×aE))) (d:LO) (b:LK) (e:LR):Option (Fl ((List (ae×aE))×LO×LK×LR) (ap×LK×Int)):=some (.go (c,d,b,e))
def kG (f:ap) (d:LK) (g:LR) (e:(Int×LO×(List (ae×aE)))) (c:ac) (h:LK):Option (Fl ((List (ae×aE))×LO×LK×LR) (ap×LK×Int)):=(ru g (ar.mk c.b c.t h f.r f.r c.a false)).bind fun i=>(pG c.t).bind fun j=>gd (cm (d.length+([c.b]).length)) <| nL (ew aB c.b j e.2.2) (ew aB c.b true e.2.1) (d++([c.b])) i
def iG (e:ac) (c:Int) (d:LK):Option (Fl (Int×LK) (LK)):=cond (decide (c<(e.v.length:Int))) ((bp e.v c).bind fun f=>gd (cm (d.length+([f.b]).length)) <| some (.go (IntKind.i64.wrap (c+1),(d++([f.b]))))) (some (.out d))
def iH (g:LU) (o:ap) (j:(List ac)) (h:ap) (m:dU) (k:(List (ae×aE))) (l:LO) (f:LK) (b:LR):Option (Fl ((List (ae×aE))×LO×LK×LR) (ap×LK×Int)):=(mY j g l (dU.mk m.d k)).bind fun c=>cond (decide (c.1<0)) ((rh f).bind fun n=>some (.out ((ap.mk h.r h.i b),n,0))) (cond (decide ((4000:Int)<=(b.length:Int))) (some (.out ((ap.mk 0 ([]) ([])),[],45))) ((bp j c.1).bind fun e=>(loop (fun s:Int×LK=>iG e s.1 s.2) (0,([]:List ae))).bind fun r=>kG o f b c e r))
def nM (b:LU) (f:ap) (g:(List ac)) (c:ap) (d:dU) (e:LO):Option (ap×LK×Int):=(loop (fun s:(List (ae×aE))×LO×LK×LR=>iH b f g c d s.1 s.2.1 s.2.2.1 s.2.2.2) (d.n,e,([]:List ae),c.s)).bind fun y=>some (y)
def fV (e:ap) (c:Int) (d:LO):Option (Fl (Int×LO) (LO)):=cond (decide (c<(e.s.length:Int))) ((bp e.s c).bind fun f=>some (.go (IntKind.i64.wrap (c+1),(ew aB f.b true d)))) (some (.out d))
def iy (b:LU) (d:ap) (e:(List ac)):Option (ap×LK×Int):=(ti b).bind fun g=>cond (!(g)) (some (((ap.mk 0 ([]) ([])),[],41))) ((lh d).bind fun h=>cond (!(h)) (some (((ap.mk 0 ([]) ([])),[],42))) ((dd e).bind fun i=>cond (!(i)) (some (((ap.mk 0 ([]) ([])),[],5))) ((mp d).bind fun c=>(mR c).bind fun f=>(loop (fun s:Int×LO=>fV c s.1 s.2) (0,([]:LO))).bind fun r=>nM b d e c f r)))
theorem wm (hLv:dC T L) (m:LU) (f:ap) (N:(List ac)) (S W:Value) (X Y:Value) (gy:aQ ay T L S m) (h0:aQ ad T L W f.i) (h1:aQ aa T L X f.s) (h2:aQ ai T L Y N) (y:ap×LK×Int) (B:iy m f N=some y):bm aO No 21 [S,.agg (bA f W X).toArray,Y] L (fun v w'=>∃ (v5 v6 v7:Value) (Rw:bG),v = .tuple #[.agg (bA y.1 v5 v6).toArray,v7,am y.2.2]/\aQ ad (dT T [aJ v7 Rw]) w' v5 y.1.i/\aQ aa (dT T [aJ v7 Rw]) w' v6 y.1.s/\jy ah T L w' [aJ v7 Rw] 27 v7 Rw y.2.1):=by
 refine en Tryz.func21 Tryz.ntmps21 hT fun a I=>?_;replace I:=((((I.fact bK (dC.dn hLv)).fS (aQ.dn gy)).fS (aQ.dn h0)).fS (aQ.dn h1)).fS (aQ.dn h2);unfold iy at B;refine an I fun a I=>?_;refine wl rfl (HC I rfl (cs:=[S]) (vD (aQ.one (I.g3:aQ ay _ _ _ _))) rfl fun q hu a w O I=>?_);refine kb I fun E hv a w O I=>?_;refine ka I vx fun A hw a w O I=>?_;refine an I fun a I=>?_;refine ax ?_;refine an I fun a I=>?_;obtain⟨hM,f3,B⟩:=bd B;refine kF I Ux (Ic _ _ I.dlt m _ I.g3 _ f3) fun w a I=>?_;rcases cd B with⟨fl,B⟩|⟨fl,B⟩
 ·refine an I fun a I=>?_;refine qy I (bE (ps:=[]) I Jf vx rfl (us:=[]) trivial (ws:=[am 0,.slice none 0 0,.slice none 0 0]) rfl) fun a I=>?_;refine go I fun a w I=>?_;cases B
  refine aG I Tryz.results21 (eA I rfl 0 rfl tU rfl (fun h=>by cases h) (aF I rfl (aF I rfl aH))) ?_;exact⟨.slice none 0 0,.slice none 0 0,.slice none 0 0,[],rfl,aQ.nil_ _ _ _,aQ.nil_ _ _ _,kv _ _ _ _ _ _⟩
 refine an I fun a I=>?_;obtain⟨hN,f4,B⟩:=bd B;refine kF I Uy (AO _ _ I.dlt I.g4 f _ _ I.g2 I.g1 _ f4) fun w a I=>?_;rcases cd B with⟨fn,B⟩|⟨fn,B⟩
 ·refine an I fun a I=>?_;refine qy I (bE (ps:=[]) I Jf vx rfl (us:=[]) trivial (ws:=[am 0,.slice none 0 0,.slice none 0 0]) rfl) fun a I=>?_;refine go I fun a w I=>?_;cases B
  refine aG I Tryz.results21 (eA I rfl 0 rfl tU rfl (fun h=>by cases h) (aF I rfl (aF I rfl aH))) ?_;exact⟨.slice none 0 0,.slice none 0 0,.slice none 0 0,[],rfl,aQ.nil_ _ _ _,aQ.nil_ _ _ _,kv _ _ _ _ _ _⟩
 refine an I fun a I=>?_;obtain⟨hP,f5,B⟩:=bd B;refine kF I Oi (lB _ _ I.dlt I.g4 N _ I.g0 _ f5) fun w a I=>?_;rcases cd B with⟨fr,B⟩|⟨fr,B⟩
 ·refine an I fun a I=>?_;refine qy I (bE (ps:=[]) I Jf vx rfl (us:=[]) trivial (ws:=[am 0,.slice none 0 0,.slice none 0 0]) rfl) fun a I=>?_;refine go I fun a w I=>?_;cases B
  refine aG I Tryz.results21 (eA I rfl 0 rfl tU rfl (fun h=>by cases h) (aF I rfl (aF I rfl aH))) ?_;exact⟨.slice none 0 0,.slice none 0 0,.slice none 0 0,[],rfl,aQ.nil_ _ _ _,aQ.nil_ _ _ _,kv _ _ _ _ _ _⟩
 refine an I fun a I=>?_;obtain⟨j,ey,B⟩:=bd B;refine kc I Uz (BR _ _ I.dlt f _ _ I.g2 I.g1 _ ey) fun _ w C a O U=>?_;obtain⟨D,hd,a5,hf,he,e4,e5,gu⟩:=C;obtain rfl:=he.symm;have I:=IF U e4 e5 gu;refine ka I vx fun F hx a w O I=>?_;refine go I fun a w I=>?_;replace I:=(I.zf (R:=ad) 1 rfl 1 rfl).zf (R:=aa) 1 rfl 1 rfl;obtain⟨g,eT,B⟩:=bd B;refine kc I QD (uC _ _ I.dlt j _ _ I.g1 I.g0 _ eT) fun _ w C a O U=>?_;obtain⟨G,H,o,a2,b2,he,e6,e7,⟨dl,dc,e0⟩⟩:=C;obtain rfl:=he.symm;have I:=U [om o a2 b2] (rX dl (zO dc)) (Gz _);replace I:=((I.fM (e0.keep (aw _ _) (mV _))).fS (e6.sub (mV _))).fS (e7.sub (mV _));refine ka I NX fun u hy a w O I=>?_;refine go I fun a w I=>?_;refine wl rfl (sQ ah true aY.bool false I rfl fun p hz a w O I=>?_);refine ka I T8 fun z hA a w O I=>?_;refine go I fun a w I=>?_;refine aK (J:=fun a w=>∃ (bs:LO) (b7:AM) (cb:Nat),St L No T 114 [(2,Y),(3,pt q 0),(4,pt E 0),(6,pt A 0),(9,pt F 0),(10,pt u 0),(11,pt z 0)] [.box q [S] 33,.box E (bA f W X) 37,.box A [am 0,.slice none 0 0,.slice none 0 0] 37,.box F (bA j D a5) 37,om o a2 b2,.box u [am g.d.r,G,H,.map (some o)] 94,om p b7 cb,.box z [.map (some p)] 119] [aT ai Y N,aT ay S m,aT ad W f.i,aT aa X f.s,aT ad D j.i,aT aa a5 j.s,aT ad G g.d.i,aT aa H g.d.s,ir ah true bP true a2 g.n,wu b7 bs,bK] a w/\nM m f N j g bs=some y) ?_ ?_
 ·refine an I fun a I=>?_;obtain⟨r1,eb,hMo1⟩:=bd B;refine bz _ (fun s a w=>∃ (av:Int) (b0:LO) (b8:AM) (cf:Nat),(av,b0)=s/\St L No T 114 [(2,Y),(3,pt q 0),(4,pt E 0),(6,pt A 0),(9,pt F 0),(10,pt u 0),(11,pt z 0),(41,a5),(42,am (j.s.length:Int)),(43,am av)] [.box q [S] 33,.box E (bA f W X) 37,.box A [am 0,.slice none 0 0,.slice none 0 0] 37,.box F (bA j D a5) 37,om o a2 b2,.box u [am g.d.r,G,H,.map (some o)] 94,om p b8 cf,.box z [.map (some p)] 119] [aT ai Y N,aT aa a5 j.s,aT ay S m,aT ad W f.i,aT aa X f.s,aT ad D j.i,aT ad G g.d.i,aT aa H g.d.s,ir ah true bP true a2 g.n,wu b8 b0,bK] a w) eb ⟨_,_,_,_,rfl,I.mt [7,6,5,4,3,2,1,0] [8,4,11,10,9,5,2,1,3,0,12]⟩ ?_;rintro s a w f1 ⟨av,b0,b8,cf,rfl,I⟩ B hf1;have B:fV j av b0=some f1:=B;unfold fV at B;refine an I fun a I=>?_;refine ax ?_;rcases cd B with⟨fs,B⟩|⟨fs,B⟩
  ·refine an I fun a I=>?_;refine ax ?_;refine an I fun a I=>?_;obtain⟨d6,eq,B⟩:=bd B;refine wl rfl (bv (R:=aa) I rG pA rfl rfl 1 rfl eq rfl fun h5 hF hg fu a I=>?_);obtain⟨hV,rfl,f6⟩:=fu;replace I:=I.fS f6;refine kA I jB fun h6 hB a w O I=>?_;refine go I fun a w I=>?_;refine wl rfl (vL I xj dJ 7 rfl 11 rfl (c:=(bn d6.b)) (cv:=[.bool true]) (key:=d6.b) (val:=true) rfl rfl rfl rfl rfl fun hp hh w O I=>?_);exact fz
  exact fz
 rintro a w ⟨bs,b7,cb,I,B⟩;unfold nM at B;refine an I fun a I=>?_;replace I:=(((I.zx 0 rfl).zx 6 rfl).zx 4 rfl).zn ah 27 (by decide);obtain⟨r1,eb,hMo1⟩:=bd B;refine bz _ (fun s a w=>∃ (a3:(List (ae×aE))) (a4:LO) (K:LK) (M:LR) (b9:AM) (ch:Nat) (bb:AM) (ck:Nat) (V:Value) (Q:LV) (P:Value),(a3,a4,K,M)=s/\St L No T 114 [(2,Y),(3,pt q 0),(4,pt E 0),(6,pt A 0),(9,pt F 0),(10,pt u 0),(11,pt z 0),(14,V)] [om o b9 ch,om p bb ck,aJ V Q,.box E (bA f W X) 37,.box A [am 0,.slice none 0 0,.slice none 0 0] 37,.box F (bA j D P) 37] [aT ad G g.d.i,aT aa H g.d.s,ir ah true bP true b9 a3,bS u 0 [am g.d.r,G,H,.map (some o)],wu bb a4,bS z 0 [.map (some p)],aT ai Y N,bS q 0 [S],aT ay S m,au ah Q K,aT ad W f.i,aT aa X f.s,aT ad D j.i,aT aa P M,bK] a w) eb ⟨_,_,_,_,_,_,_,_,_,_,_,rfl,I.mt [4,5,0,1,2,3] [10,11,12,1,13,2,4,3,5,0,6,7,8,9,14]⟩ ?_;rintro s a w f1 ⟨a3,a4,K,M,b9,ch,bb,ck,V,Q,P,rfl,I⟩ B hf1;have B:iH m f N j g a3 a4 K M=some f1:=B;unfold iH at B;refine xu (J:=fun a w=>∃ (bt:(List (ae×aE))) (c1:LO) (bl:LK) (c2:LR) (bg:AM) (d0:Nat) (bi:AM) (d1:Nat) (c3:Value) (b3:LV) (c4:Value) (b4:LV),St L No T 114 [(2,Y),(3,pt q 0),(4,pt E 0),(6,pt A 0),(9,pt F 0),(10,pt u 0),(11,pt z 0),(14,c3)] [om o bg d0,om p bi d1,aJ c3 b3,.box E (bA f W X) 37,.box A [am 0,.slice none 0 0,.slice none 0 0] 37,bo c4 b4,.box F (bA j D c4) 37] [aT ad G g.d.i,aT aa H g.d.s,ir ah true bP true bg bt,bS u 0 [am g.d.r,G,H,.map (some o)],wu bi c1,bS z 0 [.map (some p)],aT ai Y N,bS q 0 [S],aT ay S m,au ah b3 bl,aT ad W f.i,aT aa X f.s,aT ad D j.i,au aa b4 c2,bK] a w/\nL bt c1 bl c2=some f1) ?_ ?_
 ·refine an I fun a I=>?_;refine qy I (vt (vs:=[pt q 0,pt z 0,pt u 0]) I rfl) fun a I=>?_;obtain⟨a1,er,B⟩:=bd B;replace I:=I.re [1,0] [2,3,4,5];refine wl rfl (bU I UA rfl rfl (Aq _ _ I.zt N m a4 (dU.mk g.d a3) _ _ _ _ q z u _ _ _ _ _ _ I.dok (I.getD 4 rfl) (I.getD 2 rfl) (I.getD 6 rfl) (I.getD 8 rfl) (I.getD 0 rfl) (I.getD 1 rfl) (I.getD 7 rfl) (I.getD 5 rfl) (I.getD 3 rfl) (I.getD 14 rfl) _ er) fun _ w C a O U=>?_);obtain⟨ag,d2,ak,d3,he,g5,e2,e3⟩:=C;obtain rfl:=he.symm;have I:=U _ g5;replace I:=(I.fM (e2.keep (aw _ _) (aC _))).fM (e3.keep (aw _ _) (aC _));refine an I fun a I=>?_;refine ax ?_;refine an I fun a I=>?_;rcases cd B with⟨g6,B⟩|⟨g6,B⟩
  ·refine an I fun a I=>?_;refine ax ?_;refine dr [(3,.blk (some A))] I fun w hQ I=>?_;refine gE [0,1] I fun a I=>?_;have hL:=I;replace hL:=hL.zf (R:=ah) 2 rfl 11 rfl;obtain⟨hK,eX,B⟩:=bd B;refine ec 2 I UD (FT _ _ hL.dlt hL.g17 K _ hL.g0 _ eX) fun _ w C a O U=>?_;obtain⟨eg,d4,he,⟨ds,dk,e8⟩⟩:=C;obtain rfl:=he.symm;have I:=U [aJ eg d4] (rX ⟨ds,by decide⟩ dk) (Gz _);replace I:=I.fR e8;refine es 3 I fun w I=>?_;refine gE [4,5] I fun a I=>?_;refine eD ?_;refine an I fun a I=>?_;cases B
   have hr:=hf1 _ rfl;subst hr;have B:=hMo1;cases B
   refine aG I Tryz.results21 (eA I rfl 5 rfl tU rfl (fun h=>by cases h) (aF I rfl (aF I rfl aH))) ?_;exact⟨D,P,eg,d4,rfl,(aQ.up ⟨.inr (az (i:=0) rfl),trivial⟩ I.g15),(aQ.up ⟨.inr (az (i:=0) rfl),trivial⟩ I.g16),I.zo ⟨.inr (az (i:=0) rfl),trivial⟩ 0 rfl 0 rfl⟩
  refine an I fun a I=>?_;refine ax ?_;refine an I fun a I=>?_;rcases cd B with⟨g7,B⟩|⟨g7,B⟩
  ·refine an I fun a I=>?_;refine qy I (bE (ps:=[]) I Jf vx rfl (us:=[]) trivial (ws:=[am 0,.slice none 0 0,.slice none 0 0]) rfl) fun a I=>?_;refine go I fun a w I=>?_;cases B
   have hr:=hf1 _ rfl;subst hr;have B:=hMo1;cases B
   refine aG I Tryz.results21 (eA I rfl 4 rfl tU rfl (fun h=>by cases h) (aF I rfl (aF I rfl aH))) ?_;exact⟨.slice none 0 0,.slice none 0 0,.slice none 0 0,[],rfl,aQ.nil_ _ _ _,aQ.nil_ _ _ _,kv _ _ _ _ _ _⟩
  refine an I fun a I=>?_;obtain⟨e,ek,B⟩:=bd B;refine wl rfl (bv (R:=ai) I wJ s7 rfl rfl 8 rfl ek rfl fun h7 hG hi g8 a I=>?_);obtain⟨a9,rfl,fd⟩:=g8;replace I:=I.fS fd;refine kA I rH fun ab hC a w O I=>?_;refine go I fun a w I=>?_;refine qy I (bE (ps:=[(0,.tmp 69),(1,.tmp 71),(3,.tmp 73),(4,.tmp 75),(5,.tmp 77)]) I Q1 jB rfl (us:=[(bn e.b),[bc e.t],[am f.r],[am f.r],[am e.a]]) ⟨rfl,⟨rfl,⟨rfl,⟨rfl,⟨rfl,trivial⟩⟩⟩⟩⟩ (ws:=[am e.b.k,bc e.b.x,bc e.t,.slice none 0 0,am f.r,am f.r,am e.a,.bool false]) rfl) fun a I=>?_;refine ka I jB fun af hD a w O I=>?_;refine go I fun a w I=>?_;refine aK (J:=fun a w=>∃ (b1:LK) (c5:Value) (b5:LV),St L No T 114 [(2,Y),(3,pt q 0),(4,pt E 0),(6,pt A 0),(9,pt F 0),(10,pt u 0),(11,pt z 0),(14,V),(16,pt ab 0),(17,pt af 0)] [om o ak d3,om p ag d2,aJ V Q,.box E (bA f W X) 37,.box A [am 0,.slice none 0 0,.slice none 0 0] 37,.box F (bA j D P) 37,.box ab (aZ e a9) 30,aJ c5 b5,.box af [am e.b.k,bc e.b.x,bc e.t,c5,am f.r,am f.r,am e.a,.bool false] 78] [aT ad G g.d.i,aT aa H g.d.s,ir ah true bP true ak a1.2.2,bS u 0 [am g.d.r,G,H,.map (some o)],wu ag a1.2.1,bS z 0 [.map (some p)],aT ai Y N,bS q 0 [S],aT ay S m,au ah Q K,aT ad W f.i,aT aa X f.s,aT ad D j.i,aT aa P M,aT a8 a9 e.v,au ah b5 b1,bK] a w/\kG f K M a1 e b1=some f1) ?_ ?_
  ·refine an I fun a I=>?_;replace I:=I.zn ah 27 (by decide);obtain⟨r2,gx,hMo2⟩:=bd B;refine bz _ (fun s a w=>∃ (ao:Int) (a0:LK) (c9:Value) (b6:LV),(ao,a0)=s/\St L No T 114 [(2,Y),(3,pt q 0),(4,pt E 0),(6,pt A 0),(9,pt F 0),(10,pt u 0),(11,pt z 0),(14,V),(16,pt ab 0),(17,pt af 0),(80,a9),(81,am (e.v.length:Int)),(82,am ao)] [om o ak d3,om p ag d2,aJ V Q,.box E (bA f W X) 37,.box A [am 0,.slice none 0 0,.slice none 0 0] 37,.box F (bA j D P) 37,.box ab (aZ e a9) 30,aJ c9 b6,.box af [am e.b.k,bc e.b.x,bc e.t,c9,am f.r,am f.r,am e.a,.bool false] 78] [aT ad G g.d.i,aT aa H g.d.s,ir ah true bP true ak a1.2.2,bS u 0 [am g.d.r,G,H,.map (some o)],wu ag a1.2.1,bS z 0 [.map (some p)],aT ai Y N,bS q 0 [S],aT ay S m,au ah Q K,aT a8 a9 e.v,aT ad W f.i,aT aa X f.s,aT ad D j.i,aT aa P M,au ah b6 a0,bK] a w) gx ⟨_,_,_,_,rfl,I.mt [4,3,5,6,7,8,2,0,1] [5,6,3,8,4,10,11,12,13,14,1,15,16,17,18,0,19]⟩ ?_;rintro s a w f2 ⟨ao,a0,c9,b6,rfl,I⟩ B hf2;have B:iG e ao a0=some f2:=B;unfold iG at B;refine an I fun a I=>?_;refine ax ?_;rcases cd B with⟨g9,B⟩|⟨g9,B⟩
   ·refine an I fun a I=>?_;refine ax ?_;refine an I fun a I=>?_;obtain⟨Z,el,B⟩:=bd B;refine wl rfl (bv (R:=a8) I Ej Gf rfl rfl 10 rfl el rfl fun h8 hH hj gb a I=>?_);obtain rfl:=gb;refine kA I Ep fun h9 hE a w O I=>?_;refine go I fun a w I=>?_;refine wl rfl (bq (ps:=[(0,.tmp 89)]) I ol jV (zl:=[am 0,bc cu]) (by kernel_rfl) rfl (us:=[(bn Z.b)]) ⟨rfl,trivial⟩ (ws:=(bn Z.b)) rfl rfl rfl rfl fun ha a w O I=>?_);replace I:=(I.lit (R:=ah) (us:=(bn Z.b)) (xs:=[Z.b]) 0 rfl (by decide) (aN (R:=ah) (x:=Z.b) rfl) rfl rfl).zf (R:=ah) 0 rfl 0 rfl;obtain⟨gi,B⟩:=a6 B;refine wl rfl (cr (R:=ah) (xs:=a0) (ys:=[Z.b]) I ol (by decide) (by decide) rfl rfl 8 rfl 18 rfl 0 rfl gi rfl fun hW hk a w O I=>?_);refine go I fun a w I=>?_;exact⟨_,(bJ B).symm,_,_,_,_,rfl,I.mt [1,2,3,4,5,6,7,8,9] [4,5,6,7,8,9,10,11,12,13,14,15,16,17,18,0,20]⟩
   refine an I fun a I=>?_;cases B
   have hr:=hf2 _ rfl;subst hr;have B:kG f K M a1 e a0=some f1:=hMo2;exact⟨_,_,_,I.mt [0,1,2,3,4,5,6,7,8] [0,1,2,3,4,5,6,7,8,9,11,12,13,14,10,15,16],B⟩
  rintro a w ⟨b1,c5,b5,I,B⟩;unfold kG at B;refine an I fun a I=>?_;replace I:=I.zf (R:=ah) 7 rfl 15 rfl;obtain⟨hJ,et,B⟩:=bd B;refine kc I UE (F5 _ _ I.dlt I.g17 M (ar.mk e.b e.t b1 f.r f.r e.a false) _ _ I.g14 I.g0 _ et) fun _ w C a O U=>?_;obtain⟨hX,hl,he,ea⟩:=C;obtain rfl:=he.symm;have I:=sN U ea;refine go I fun a w I=>?_;refine ax ?_;refine dr [(10,.blk (some p)),(11,.blk (some o))] I fun w hQ I=>?_;refine gE [0,1,2,3] I fun a I=>?_;refine dq 4 I (l:=[.blk (some p)]) (v:=.map (some o)) (x5 (k:=3) I TV 5 rfl rfl (JV 2 rfl rfl CE) (us:=[.map (some o)]) rfl rfl (fun _=>rfl)) fun a I=>?_;refine gE [5] I fun a I=>?_;refine dq 6 I (l:=[.blk (some p)]) (v:=.agg (bn e.b).toArray) (ou I rfl gB 7 rfl (uf I 7 rfl rfl 2 rfl rfl (by decide) cc) (us:=(bn e.b)) rfl rfl (fun h=>by cases h)) fun a I=>?_;refine gE [7,8] I fun a I=>?_;obtain⟨ed,ex,B⟩:=bd B;refine ec 9 I Ol (ue _ _ I.dlt e.t _ ex) fun _ w C a O U=>?_;obtain rfl:=C;have I:=fA U;refine e1 10 (vL I xj dJ 2 rfl 6 rfl (c:=(bn e.b)) (cv:=[.bool true]) (key:=e.b) (val:=true) rfl rfl rfl rfl rfl fun hq hm w O I=>⟨qU rfl O od,?_⟩);refine e1 11 (vL I OM dJ 1 rfl 5 rfl (c:=(bn e.b)) (cv:=(oZ ed)) (key:=e.b) (val:=ed) rfl rfl rfl rfl rfl fun hs hn w O I=>⟨qU rfl O od,?_⟩);refine eD ?_;refine an I fun a I=>?_;refine wl rfl (bq (ps:=[(0,.tmp 111)]) I ol jV (zl:=[am 0,bc cu]) (by kernel_rfl) rfl (us:=[(bn e.b)]) ⟨rfl,trivial⟩ (ws:=(bn e.b)) rfl rfl rfl rfl fun hc a w O I=>?_);replace I:=(I.lit (R:=ah) (us:=(bn e.b)) (xs:=[e.b]) 0 rfl (by decide) (aN (R:=ah) (x:=e.b) rfl) rfl rfl).zf (R:=ah) 0 rfl 0 rfl;obtain⟨gs,B⟩:=a6 B;refine wl rfl (cr (R:=ah) (xs:=K) (ys:=[e.b]) I ol (by decide) (by decide) rfl rfl 3 rfl 15 rfl 0 rfl gs rfl fun hY ho a w O I=>?_);exact fz
 rintro a w ⟨bt,c1,bl,c2,bg,d0,bi,d1,c3,b3,c4,b4,I,B⟩;unfold nL at B;replace I:=I.zf (R:=aa) 5 rfl 13 rfl;exact fin
end
end
section
set_option maxRecDepth 100000
set_option maxHeartbeats 4000000
variable (T:Nat->Prop) (L:World) (hT:TW T L)
include hT
noncomputable section
def pj (b:(List aj)):Option (List aj):=some (b)
def jI (b:Int) (c:(List aj)):Option (Fl ((List aj)×Int) ((List aj))):=some (.go (c,IntKind.i64.wrap (b*2)))
def ia (b:Int) (c:(List aj)):Option (Fl ((List aj)×Int) ((List aj))):=jI b c
def ic (e:Int) (f:aj->aj->Option Int) (b:Int) (d:(List aj)) (c:Int):Option (Fl ((List aj)×Int) ((List aj))):=cond (decide ((IntKind.i64.wrap (c+b):Int)<e)) ((em f d c (IntKind.i64.wrap (c+b)) e).bind fun g=>ia b g) (ia b d)
def ie (h:Int) (f:aj->aj->Option Int) (d:Int) (e:(List aj)) (c b:Int):Option (Fl ((List aj)×Int×Int) ((List aj)×Int)):=cond (decide (b<=h)) ((em f e c (IntKind.i64.wrap (c+d)) b).bind fun g=>some (.go (g,b,IntKind.i64.wrap (b+(IntKind.i64.wrap (2*d)))))) (some (.out (e,c)))
def dS (e:Int) (c:aj->aj->Option Int) (d:(List aj)) (b:Int):Option (Fl ((List aj)×Int) ((List aj))):=cond (decide (b<e)) ((loop (fun s:(List aj)×Int×Int=>ie e c b s.1 s.2.1 s.2.2) (d,0,IntKind.i64.wrap (2*b))).bind fun r=>ic e c b r.1 r.2) (some (.out d))
def fG (c:Int) (b:aj->aj->Option Int) (e:(List aj)) (d:Int):Option (List aj):=(jY b e d c).bind fun f=>(loop (fun s:(List aj)×Int=>dS c b s.1 s.2) (f,20)).bind fun r=>pj r
def fH (g:Int) (e:aj->aj->Option Int) (d:(List aj)) (c b:Int):Option (Fl ((List aj)×Int×Int) ((List aj)×Int)):=cond (decide (b<=g)) ((jY e d c b).bind fun f=>some (.go (f,b,IntKind.i64.wrap (b+20)))) (some (.out (d,c)))
def sX (b:aj->aj->Option Int) (c:(List aj)) (d:Int):Option (List aj):=(loop (fun s:(List aj)×Int×Int=>fH d b s.1 s.2.1 s.2.2) (c,0,20)).bind fun r=>fG d b r.1 r.2
theorem Di (cmp_g:Nat) (h:aR aO cmp_g=true) (cmp_k:bG) (cmp_P:co) (f:aj->aj->Option Int) (l:∀ (T:Nat->Prop) (L:World) (hT:TW T L) (hLv:dC T L) (hP:cmp_P.p T L) (x0 x1:aj) (a3:Value) (b9:aQ a8 T L a3 x0.X.v) (a4:Value) (bb:aQ a8 T L a4 x1.X.v) (y:Int) (B:f x0 x1=some y),bm aO No cmp_g ([.agg (bD x0 a3).toArray,.agg (bD x1 a4).toArray]++cmp_k) L (fun v w'=>v=am y)) (Q:(List aj)) (e:Int) (b:Value) (dm:bG) (hD:vy T L [aI b dm]) (b3:bf aD (dT T [aI b dm]) L dm Q) (hLv:dC (dT T [aI b dm]) L) (hPcmp_:cmp_P.p (dT T [aI b dm]) L) (y:(List aj)) (B:sX f Q e=some y):bm aO (MD [aI b dm]) 103 [b,am e,.func (.func cmp_g) #[] cmp_k.toArray] L (fun v w'=>∃ (eK:bG),v = .tuple #[]/\kl L w' [aI b dm] [aI b eK]/\bf aD (dT T [aI b eK]) w' eK y):=by
 refine eu (c:=_) Tryz.func103 rfl T 63 Tryz.ntmps103 hT rfl hD fun a I=>?_;replace I:=((I.fact cmp_P hPcmp_).fact bK hLv).fR b3;unfold sX at B;refine an I fun a I=>?_;refine aK (J:=fun a w=>∃ (x:(List aj)) (q:Int) (z:LV),St L (MD [aI b dm]) T 63 [(0,b),(1,am e),(2,.func (.func cmp_g) #[] cmp_k.toArray),(6,am 20),(7,am q)] [aI b z] [au aD z x,bK,cmp_P] a w/\fG e f x q=some y) ?_ ?_
 ·refine an I fun a I=>?_;obtain⟨r1,Y,hMo1⟩:=bd B;refine bz _ (fun s a w=>∃ (k:(List aj)) (i o:Int) (A:LV),(k,i,o)=s/\St L (MD [aI b dm]) T 63 [(0,b),(1,am e),(2,.func (.func cmp_g) #[] cmp_k.toArray),(6,am 20),(7,am i),(8,am o)] [aI b A] [au aD A k,bK,cmp_P] a w) Y ⟨_,_,_,_,rfl,I.mt [0] [0,1,2]⟩ ?_;rintro s a w P ⟨k,i,o,A,rfl,I⟩ B hf1;have B:fH e f k i o=some P:=B;unfold fH at B;refine ax ?_;refine an I fun a I=>?_;rcases cd B with⟨a5,B⟩|⟨a5,B⟩
  ·refine an I fun a I=>?_;obtain⟨bt,a2,B⟩:=bd B;replace I:=I.re [0] [];refine wl rfl (bU I PM rfl rfl (wt _ _ I.zt cmp_g h cmp_k cmp_P f l k i o _ _ I.dok (I.getD 0 rfl) (I.getD 1 rfl) (I.getD 2 rfl) _ a2) fun _ w C a O U=>?_);obtain⟨b4,he,a9,R⟩:=C;obtain rfl:=he.symm;have I:=U _ a9;replace I:=I.fR (R.keep (aw _ _) (aC _));exact fz
  refine an I fun a I=>?_;cases B
  have hr:=hf1 _ rfl;subst hr;have B:fG e f k i=some y:=hMo1;exact fin
 rintro a w ⟨x,q,z,I,B⟩;unfold fG at B;refine an I fun a I=>?_;obtain⟨bs,a1,B⟩:=bd B;replace I:=I.re [0] [];refine wl rfl (bU I PM rfl rfl (wt _ _ I.zt cmp_g h cmp_k cmp_P f l x q e _ _ I.dok (I.getD 0 rfl) (I.getD 1 rfl) (I.getD 2 rfl) _ a1) fun _ w C a O U=>?_);obtain⟨b5,he,ab,S⟩:=C;obtain rfl:=he.symm;have I:=U _ ab;replace I:=I.fR (S.keep (aw _ _) (aC _));refine JX I fun a I=>?_;refine xu (J:=fun a w=>∃ (K:(List aj)) (r:LV),St L (MD [aI b dm]) T 63 [] [aI b r] [au aD r K,bK,cmp_P] a w/\pj K=some y) ?_ ?_
 ·refine an I fun a I=>?_;obtain⟨r1,Y,hMo1⟩:=bd B;refine bz _ (fun s a w=>∃ (u:(List aj)) (d:Int) (D:LV),(u,d)=s/\St L (MD [aI b dm]) T 63 [(0,b),(1,am e),(2,.func (.func cmp_g) #[] cmp_k.toArray),(6,am d)] [aI b D] [au aD D u,bK,cmp_P] a w) Y ⟨_,_,_,rfl,I.mt [0] [0,2,3]⟩ ?_;rintro s a w P ⟨u,d,D,rfl,I⟩ B hf1;have B:dS e f u d=some P:=B;unfold dS at B;refine ax ?_;refine an I fun a I=>?_;rcases cd B with⟨af,B⟩|⟨af,B⟩
  ·refine JX I fun a I=>?_;refine xu (J:=fun a w=>∃ (M:(List aj)) (E:LV),St L (MD [aI b dm]) T 63 [(0,b),(1,am e),(2,.func (.func cmp_g) #[] cmp_k.toArray),(6,am (IntKind.i64.wrap (d*2)))] [aI b E] [au aD E M,bK,cmp_P] a w/\jI d M=some P) ?_ ?_
   ·refine an I fun a I=>?_;refine aK (J:=fun a w=>∃ (t:(List aj)) (m:Int) (F:LV),St L (MD [aI b dm]) T 63 [(0,b),(1,am e),(2,.func (.func cmp_g) #[] cmp_k.toArray),(6,am d),(7,am m)] [aI b F] [au aD F t,bK,cmp_P] a w/\ic e f d t m=some P) ?_ ?_
    ·refine an I fun a I=>?_;obtain⟨r2,b2,hMo2⟩:=bd B;refine bz _ (fun s a w=>∃ (j:(List aj)) (g n:Int) (G:LV),(j,g,n)=s/\St L (MD [aI b dm]) T 63 [(0,b),(1,am e),(2,.func (.func cmp_g) #[] cmp_k.toArray),(6,am d),(7,am g),(8,am n)] [aI b G] [au aD G j,bK,cmp_P] a w) b2 ⟨_,_,_,_,rfl,I.mt [0] [0,1,2]⟩ ?_;rintro s a w f2 ⟨j,g,n,G,rfl,I⟩ B hf2;have B:ie e f d j g n=some f2:=B;unfold ie at B;refine ax ?_;refine an I fun a I=>?_;rcases cd B with⟨ag,B⟩|⟨ag,B⟩
     ·refine an I fun a I=>?_;obtain⟨bl,a0,B⟩:=bd B;replace I:=I.re [0] [];refine wl rfl (bU I JL rfl rfl (VF _ _ I.zt cmp_g h cmp_k cmp_P f l j g (IntKind.i64.wrap (g+d)) n _ _ I.dok (I.getD 0 rfl) (I.getD 1 rfl) (I.getD 2 rfl) _ a0) fun _ w C a O U=>?_);obtain⟨b6,he,ak,V⟩:=C;obtain rfl:=he.symm;have I:=U _ ak;replace I:=I.fR (V.keep (aw _ _) (aC _));exact fz
     refine an I fun a I=>?_;cases B
     have hr:=hf2 _ rfl;subst hr;have B:ic e f d j g=some P:=hMo2;exact fin
    rintro a w ⟨t,m,F,I,B⟩;unfold ic at B;refine aK (J:=fun a w=>∃ (N:(List aj)) (H:LV),St L (MD [aI b dm]) T 63 [(0,b),(1,am e),(2,.func (.func cmp_g) #[] cmp_k.toArray),(6,am d)] [aI b H] [au aD H N,bK,cmp_P] a w/\ia d N=some P) ?_ ?_
    ·refine an I fun a I=>?_;rcases cd B with⟨ao,B⟩|⟨ao,B⟩
     ·refine an I fun a I=>?_;obtain⟨bi,Z,B⟩:=bd B;replace I:=I.re [0] [];refine wl rfl (bU I JL rfl rfl (VF _ _ I.zt cmp_g h cmp_k cmp_P f l t m (IntKind.i64.wrap (m+d)) e _ _ I.dok (I.getD 0 rfl) (I.getD 1 rfl) (I.getD 2 rfl) _ Z) fun _ w C a O U=>?_);obtain⟨b7,he,av,W⟩:=C;obtain rfl:=he.symm;have I:=U _ av;replace I:=I.fR (W.keep (aw _ _) (aC _));exact fz
     exact fz
    rintro a w ⟨N,H,I,B⟩;unfold ia at B;exact fz
   rintro a w ⟨M,E,I,B⟩;unfold jI at B;exact fin
  exact fz
 rintro a w ⟨K,r,I,B⟩;unfold pj at B;refine w6 ?_;cases B
 refine aG I Tryz.results103 aH ?_;have hZ:=I.sl [0] [0];exact⟨r,rfl,hZ.zd,hZ.g0⟩
def ln (c:aj->aj->Option Int) (b:(List aj)):Option (List aj):=(sX c b (b.length:Int)).bind fun d=>some (d)
theorem yR (cmp_g:Nat) (g:aR aO cmp_g=true) (cmp_k:bG) (cmp_P:co) (d:aj->aj->Option Int) (h:∀ (T:Nat->Prop) (L:World) (hT:TW T L) (hLv:dC T L) (hP:cmp_P.p T L) (n o:aj) (j:Value) (r:aQ a8 T L j n.X.v) (k:Value) (s:aQ a8 T L k o.X.v) (y:Int) (B:d n o=some y),bm aO No cmp_g ([.agg (bD n j).toArray,.agg (bD o k).toArray]++cmp_k) L (fun v w'=>v=am y)) (e:(List aj)) (b:Value) (dm:bG) (hD:vy T L [aI b dm]) (q:bf aD (dT T [aI b dm]) L dm e) (hLv:dC (dT T [aI b dm]) L) (hPcmp_:cmp_P.p (dT T [aI b dm]) L) (y:(List aj)) (B:ln d e=some y):bm aO (MD [aI b dm]) 47 [b,.func (.func cmp_g) #[] cmp_k.toArray] L (fun v w'=>∃ (eK:bG),v = .tuple #[]/\kl L w' [aI b dm] [aI b eK]/\bf aD (dT T [aI b eK]) w' eK y):=by
 refine eu (c:=_) Tryz.func47 rfl T 9 Tryz.ntmps47 hT rfl hD fun a I=>?_;replace I:=((I.fact cmp_P hPcmp_).fact bK hLv).fR q;unfold ln at B;refine an I fun a I=>?_;obtain⟨t,i,B⟩:=bd B;replace I:=I.re [0] [];refine wl rfl (bU I RZ rfl rfl (Di _ _ I.zt cmp_g g cmp_k cmp_P d h e (e.length:Int) _ _ I.dok (I.getD 0 rfl) (I.getD 1 rfl) (I.getD 2 rfl) _ i) fun _ w C a O U=>?_);obtain⟨l,he,m,f⟩:=C;obtain rfl:=he.symm;have I:=U _ m;replace I:=I.fR (f.keep (aw _ _) (aC _));refine an I fun a I=>?_;refine w6 ?_;cases B
 refine aG I Tryz.results47 aH ?_;have hZ:=I.sl [0] [0];exact⟨l,rfl,hZ.zd,hZ.g0⟩
def tq (b:(List ac)):Option ((List ac)×Int):=some ((b,0))
def kC (e:(List aj)) (c:(List ac)) (b:Int):Option (Fl ((List ac)×Int) ((List ac))):=cond (decide (b<(e.length:Int))) ((bp e b).bind fun d=>gd (cm (c.length+([d.X]).length)) <| some (.go ((c++([d.X])),IntKind.i64.wrap (b+1)))) (some (.out c))
def qb (c:(List aj)):Option ((List ac)×Int):=(ln a7 c).bind fun d=>(kJ mc d).bind fun b=>cond (decide ((4000:Int)<(b.length:Int))) (some (([],45))) ((loop (fun s:(List ac)×Int=>kC b s.1 s.2) (([]:List ac),0)).bind fun r=>tq r)
def kD (e:(List ac)) (b:(List aj)) (c:Int):Option (Fl ((List aj)×Int) ((List aj))):=cond (decide (c<(e.length:Int))) ((bp e c).bind fun d=>(ub d).bind fun f=>(dv ([d])).bind fun g=>gd (cm (b.length+([(aj.mk f g)]).length)) <| some (.go ((b++([(aj.mk f g)])),IntKind.i64.wrap (c+1)))) (some (.out b))
def mQ (b c:(List ac)):Option ((List ac)×Int):=(dd b).bind fun e=>cond (!(e)) (some (([],5))) ((dd c).bind fun f=>cond (!(f)) (some (([],5))) ((lX ([b,c])).bind fun d=>(loop (fun s:(List aj)×Int=>kD d s.1 s.2) (([]:List aj),0)).bind fun r=>qb r))
theorem uB (hLv:dC T L) (p q:(List ac)) (v1 v2:Value) (d4:aQ ai T L v1 p) (d6:aQ ai T L v2 q) (y:(List ac)×Int) (B:mQ p q=some y):bm aO No 19 [v1,v2] L (fun v w'=>∃ (v3:Value) (rJ:bG),v = .tuple #[v3,am y.2]/\jy ai T L w' [bu v3 rJ] 30 v3 rJ y.1):=by
 refine en Tryz.func19 Tryz.ntmps19 hT fun a I=>?_;replace I:=((I.fact bK (dC.dn hLv)).fS (aQ.dn d4)).fS (aQ.dn d6);unfold mQ at B;refine an I fun a I=>?_;refine ax ?_;refine ip ?_;refine an I fun a I=>?_;obtain⟨et,b8,B⟩:=bd B;refine kF I Oi (lB _ _ I.dlt I.g2 p _ I.g1 _ b8) fun w a I=>?_;rcases cd B with⟨a3,B⟩|⟨a3,B⟩
 ·refine an I fun a I=>?_;cases B
  refine aG I Tryz.results19 (aF I rfl (aF I rfl aH)) ?_;exact⟨.slice none 0 0,[],rfl,kv _ _ _ _ _ _⟩
 refine an I fun a I=>?_;obtain⟨ex,b9,B⟩:=bd B;refine wg I rfl rfl rfl a3 (bT I Oi rfl rfl (lB _ _ I.dlt I.g2 q _ I.g0 _ b9) fun _ w C a O U=>?_);obtain rfl:=C;have I:=fA U;refine an I fun a I=>?_;rcases cd B with⟨bt,B⟩|⟨bt,B⟩
 ·refine an I fun a I=>?_;cases B
  refine aG I Tryz.results19 (aF I rfl (aF I rfl aH)) ?_;exact⟨.slice none 0 0,[],rfl,kv _ _ _ _ _ _⟩
 refine an I fun a I=>?_;refine aK (J:=fun a w=>∃ (r:(List aj)) (Y:Value) (H:LV),St L No T 59 [(6,Y)] [aI Y H] [au aD H r,bK] a w/\qb r=some y) ?_ ?_
 ·refine an I fun a I=>?_;refine wl rfl (bq (ps:=[(0,.tmp 20),(1,.tmp 21)]) I U1 Vr (zl:=[.slice none 0 0,.slice none 0 0]) (by kernel_rfl) rfl (us:=[[v1],[v2]]) ⟨(vD (aQ.one (I.g1:aQ ai _ _ _ _))),⟨(vD (aQ.one (I.g0:aQ ai _ _ _ _))),trivial⟩⟩ (ws:=[v1,v2]) rfl rfl rfl rfl fun dc a w O I=>?_);replace I:=(I.lit (R:=(aY.slice ai)) (us:=[v1,v2]) (xs:=[p,q]) 0 rfl (by decide) ((aN (R:=(aY.slice ai)) (x:=p) (⟨_,rfl,I.g1⟩)).append (aN (R:=(aY.slice ai)) (x:=q) (⟨_,rfl,I.g0⟩))) rfl rfl).zf (R:=(aY.slice ai)) 0 rfl 0 rfl;obtain⟨W,b7,B⟩:=bd B;refine kc I Ur (zw _ _ I.dlt ([p,q]) _ I.g0 _ b7) fun _ w C a O U=>?_;obtain⟨ao,a1,he,a5⟩:=C;obtain rfl:=he.symm;have I:=sN U a5;refine an I fun a I=>?_;replace I:=I.zn aD 108 (by decide);obtain⟨r1,ag,hMo1⟩:=bd B;refine bz _ (fun s a w=>∃ (l:(List aj)) (A:Int) (E:Value) (K:LV),(l,A)=s/\St L No T 59 [(6,E),(23,ao),(24,am (W.length:Int)),(25,am A)] [aI E K,bu ao a1] [au aD K l,au ai a1 W,bK] a w) ag ⟨_,_,_,_,rfl,I.mt [0,1] [0,1,6]⟩ ?_;rintro s a w f1 ⟨l,A,E,K,rfl,I⟩ B hf1;have B:kD W l A=some f1:=B;unfold kD at B;refine an I fun a I=>?_;refine ax ?_;rcases cd B with⟨c1,B⟩|⟨c1,B⟩
  ·refine an I fun a I=>?_;refine ax ?_;refine an I fun a I=>?_;obtain⟨e,b4,B⟩:=bd B;refine wl rfl (dK (R:=ai) I wJ s7 rfl rfl 1 rfl 1 rfl b4 rfl fun dk ei el e5 c2 c3 c4 a I=>?_);obtain⟨g,rfl,bb⟩:=c2;replace I:=I.fS bb;refine qy I (bY (k:=0) I s7 1 rfl c3 c4 rfl id (us:=(aZ e g)) rfl rfl (fun h=>by cases h)) fun a I=>?_;refine ka I rH fun dl ed a w O I=>?_;refine go I fun a w I=>?_;refine dr [(8,.blk (Value.ownBlock E))] I fun w hQ I=>?_;refine gE [0,1,3] I fun a I=>?_;obtain⟨c,a0,B⟩:=bd B;refine gO (i:=2) (j:=4) rfl rfl (by kernel_rfl) rfl rfl ?_ ?_
   ·skip;refine id (bT I S0 rfl rfl (ye _ _ I.dlt e _ I.g0 _ a0) fun _ w C a O U=>⟨jx (O),?_⟩);obtain⟨m,e6,he,a9⟩:=C;obtain rfl:=he.symm;have I:=sN U a9;refine e1 4 (bq (ps:=[(0,.tmp 32)]) I qW rH (zl:=[am 0,bc cu,.slice none 0 0,bc cu,am 0]) (by kernel_rfl) rfl (us:=[(aZ e g)]) ⟨rfl,trivial⟩ (ws:=(aZ e g)) rfl rfl rfl rfl fun ds a w O I=>⟨jx (O),?_⟩);replace I:=I.lit (R:=ai) (us:=(aZ e g)) (xs:=[e]) 0 rfl (by decide) (aN (R:=ai) (x:=e) (⟨_,rfl,I.g1⟩)) rfl rfl;have hL:=I;replace hL:=hL.zf (R:=ai) 0 rfl 0 rfl;obtain⟨d,D,B⟩:=bd B;refine ec 5 I S1 (tB _ _ hL.dlt hL.g6 ([e]) _ hL.g0 _ D) fun _ w C a O U=>?_;obtain rfl:=C;have I:=fA U;refine dq 6 I (v:=.agg #[am c.b.k,bc c.b.x,m,bc c.t,am c.a,bc d]) (bE (ps:=[(0,.tmp 31),(1,.tmp 34)]) I P6 Fn rfl (us:=[(aZ c m),[bc d]]) ⟨rfl,⟨rfl,trivial⟩⟩ (ws:=[am c.b.k,bc c.b.x,m,bc c.t,am c.a,bc d]) rfl) fun a I=>?_;refine e1 7 (bq (ps:=[(0,.tmp 35)]) I Hl Fn (zl:=[am 0,bc cu,.slice none 0 0,bc cu,am 0,bc cu]) (by kernel_rfl) rfl (us:=[[am c.b.k,bc c.b.x,m,bc c.t,am c.a,bc d]]) ⟨rfl,trivial⟩ (ws:=[am c.b.k,bc c.b.x,m,bc c.t,am c.a,bc d]) rfl rfl rfl rfl fun bi a w O I=>⟨jx (O),?_⟩);replace I:=I.zf (R:=a8) 2 rfl 1 rfl;replace I:=(I.lit (R:=aD) (us:=[am c.b.k,bc c.b.x,m,bc c.t,am c.a,bc d]) (xs:=[(aj.mk c d)]) 0 rfl (by decide) (aN (R:=aD) (x:=(aj.mk c d)) (⟨_,rfl,I.g0⟩)) rfl rfl).zf (R:=aD) 0 rfl 0 rfl;obtain⟨N,B⟩:=a6 B;refine e1 8 (cr (R:=aD) (xs:=l) (ys:=[(aj.mk c d)]) I Hl (by decide) (by decide) rfl rfl 2 rfl 6 rfl 0 rfl N rfl fun d0 bl a w O I=>⟨qU rfl O pH,?_⟩);refine gE [9] I fun a I=>?_;refine eD ?_;exact fz
   skip;refine id (bq (ps:=[(0,.tmp 32)]) I qW rH (zl:=[am 0,bc cu,.slice none 0 0,bc cu,am 0]) (by kernel_rfl) rfl (us:=[(aZ e g)]) ⟨rfl,trivial⟩ (ws:=(aZ e g)) rfl rfl rfl rfl fun e0 a w O I=>⟨jx (O),?_⟩);refine ec 2 I S0 (ye _ _ I.dlt e _ I.g0 _ a0) fun _ w C a O U=>?_;obtain⟨n,e7,he,ab⟩:=C;obtain rfl:=he.symm;have I:=sN U ab;replace I:=I.lit (R:=ai) (us:=(aZ e g)) (xs:=[e]) 1 rfl (by decide) (aN (R:=ai) (x:=e) (⟨_,rfl,I.g1⟩)) rfl rfl;have hL:=I;replace hL:=hL.zf (R:=ai) 1 rfl 0 rfl;obtain⟨d,D,B⟩:=bd B;refine ec 5 I S1 (tB _ _ hL.dlt hL.g6 ([e]) _ hL.g0 _ D) fun _ w C a O U=>?_;obtain rfl:=C;have I:=fA U;refine dq 6 I (v:=.agg #[am c.b.k,bc c.b.x,n,bc c.t,am c.a,bc d]) (bE (ps:=[(0,.tmp 31),(1,.tmp 34)]) I P6 Fn rfl (us:=[(aZ c n),[bc d]]) ⟨rfl,⟨rfl,trivial⟩⟩ (ws:=[am c.b.k,bc c.b.x,n,bc c.t,am c.a,bc d]) rfl) fun a I=>?_;refine e1 7 (bq (ps:=[(0,.tmp 35)]) I Hl Fn (zl:=[am 0,bc cu,.slice none 0 0,bc cu,am 0,bc cu]) (by kernel_rfl) rfl (us:=[[am c.b.k,bc c.b.x,n,bc c.t,am c.a,bc d]]) ⟨rfl,trivial⟩ (ws:=[am c.b.k,bc c.b.x,n,bc c.t,am c.a,bc d]) rfl rfl rfl rfl fun bi a w O I=>⟨jx (O),?_⟩);replace I:=I.zf (R:=a8) 1 rfl 1 rfl;replace I:=(I.lit (R:=aD) (us:=[am c.b.k,bc c.b.x,n,bc c.t,am c.a,bc d]) (xs:=[(aj.mk c d)]) 0 rfl (by decide) (aN (R:=aD) (x:=(aj.mk c d)) (⟨_,rfl,I.g0⟩)) rfl rfl).zf (R:=aD) 0 rfl 0 rfl;obtain⟨N,B⟩:=a6 B;refine e1 8 (cr (R:=aD) (xs:=l) (ys:=[(aj.mk c d)]) I Hl (by decide) (by decide) rfl rfl 2 rfl 6 rfl 0 rfl N rfl fun d0 bl a w O I=>⟨qU rfl O pH,?_⟩);refine gE [9] I fun a I=>?_;refine eD ?_;exact fz
  exact fz
 rintro a w ⟨r,Y,H,I,B⟩;unfold qb at B;refine an I fun a I=>?_;obtain⟨cv,b6,B⟩:=bd B;replace I:=I.re [0] [];refine wl rfl (bU I Us rfl rfl (yR _ _ I.zt 48 Ut [] Eq a7 (fun T L hT hLv _ x0 x1 b1 P b2 Q y B=>BH T L hT hLv x0 x1 b1 b2 P Q y B) r _ _ I.dok (I.getD 0 rfl) (I.getD 1 rfl) trivial _ b6) fun _ w C a O U=>?_);obtain⟨e8,he,c5,a4⟩:=C;obtain rfl:=he.symm;have I:=U _ c5;replace I:=I.fR (a4.keep (aw _ _) (aC _));refine an I fun a I=>?_;obtain⟨V,b5,B⟩:=bd B;replace I:=I.re [0] [];refine wl rfl (bU I Uu rfl rfl (Am _ _ I.zt 53 Uv [] Eq mc (fun T L hT hLv _ x0 x1 b1 P b2 Q y B=>BI T L hT x0 x1 b1 b2 P Q y B) cv _ _ I.dok (I.getD 0 rfl) (I.getD 2 rfl) trivial _ b5) fun _ w C a O U=>?_);obtain⟨av,a2,he,af,c9⟩:=C;obtain rfl:=he.symm;have I:=U _ c9;replace I:=I.fR (af.keep (aw _ _) (aC _));refine an I fun a I=>?_;refine ax ?_;refine an I fun a I=>?_;rcases cd B with⟨ca,B⟩|⟨ca,B⟩
 ·refine an I fun a I=>?_;cases B
  refine aG I Tryz.results19 (aF I rfl (aF I rfl aH)) ?_;exact⟨.slice none 0 0,[],rfl,kv _ _ _ _ _ _⟩
 refine an I fun a I=>?_;refine aK (J:=fun a w=>∃ (S:(List ac)) (F:Value) (u:LV),St L No T 59 [(9,F)] [bu F u] [au ai u S,bK] a w/\tq S=some y) ?_ ?_
 ·refine an I fun a I=>?_;replace I:=I.zn ai 30 (by decide);obtain⟨r1,ag,hMo1⟩:=bd B;refine bz _ (fun s a w=>∃ (o:(List ac)) (z:Int) (Z:Value) (M:LV),(o,z)=s/\St L No T 59 [(9,Z),(46,av),(47,am (V.length:Int)),(48,am z)] [bu Z M,aI av a2] [au ai M o,au aD a2 V,bK] a w) ag ⟨_,_,_,_,rfl,I.mt [0,1] [0,1,4]⟩ ?_;rintro s a w f1 ⟨o,z,Z,M,rfl,I⟩ B hf1;have B:kC V o z=some f1:=B;unfold kC at B;refine an I fun a I=>?_;refine ax ?_;rcases cd B with⟨cb,B⟩|⟨cb,B⟩
  ·refine an I fun a I=>?_;refine ax ?_;refine an I fun a I=>?_;obtain⟨f,b3,B⟩:=bd B;refine wl rfl (dK (R:=aD) I gc cC rfl rfl 1 rfl 1 rfl b3 rfl fun e2 ek eq ea cf ch ck a I=>?_);obtain⟨G,rfl,bg⟩:=cf;replace I:=I.fS bg;refine qy I (bY (k:=0) I cC 1 rfl ch ck rfl id (us:=(bD f G)) rfl rfl (fun h=>by cases h)) fun a I=>?_;refine ka I Fn fun e3 eg a w O I=>?_;refine go I fun a w I=>?_;refine wl rfl (bq (ps:=[(0,.tmp 54)]) I qW rH (zl:=[am 0,bc cu,.slice none 0 0,bc cu,am 0]) (by kernel_rfl) rfl (us:=[(aZ f.X G)]) ⟨rfl,trivial⟩ (ws:=(aZ f.X G)) rfl rfl rfl rfl fun e4 a w O I=>?_);replace I:=(I.lit (R:=ai) (us:=(aZ f.X G)) (xs:=[f.X]) 0 rfl (by decide) (aN (R:=ai) (x:=f.X) (⟨_,rfl,I.g0⟩)) rfl rfl).zf (R:=ai) 0 rfl 0 rfl;obtain⟨cs,B⟩:=a6 B;refine wl rfl (cr (R:=ai) (xs:=o) (ys:=[f.X]) I qW (by decide) (by decide) rfl rfl 1 rfl 3 rfl 0 rfl cs rfl fun ey eb a w O I=>?_);exact fz
  exact fz
 rintro a w ⟨S,F,u,I,B⟩;unfold tq at B;refine an I fun a I=>?_;cases B
 refine aG I Tryz.results19 (aF I rfl (aF I rfl aH)) ?_;exact⟨F,u,rfl,I.zo ⟨.inr (az (i:=0) rfl),trivial⟩ 0 rfl 0 rfl⟩
def rB:Option Bool:=some (true)
def k9 (f g:ac) (e:Int):Option (Fl (Int) (Fl (Unit) Bool)):=cond (decide (e<(f.v.length:Int))) ((bp f.v e).bind fun c=>(bp g.v e).bind fun d=>cond (!(d.b.k==c.b.k&&d.b.x.toList==c.b.x.toList&&d.h.o==c.h.o&&d.h.p==c.h.p)) (some (.out (.out false))) (some (.go (IntKind.i64.wrap (e+1))))) (some (.out (.go ())))
def oT (c d:ac):Option Bool:=cond (!(c.b.k==d.b.k&&c.b.x.toList==d.b.x.toList)) (some (false)) (cond (!(c.t.toList==d.t.toList)) (some (false)) (cond (c.a != d.a) (some (false)) (cond ((c.v.length:Int) != (d.v.length:Int)) (some (false)) ((loop (fun s:Int=>k9 c d s) 0).bind fun r=>Fl.el r (fun s=>rB) (fun y=>some (y))))))
theorem BP (c d:ac) (m n:Value) (K:aQ a8 T L m c.v) (M:aQ a8 T L n d.v) (y:Bool) (B:oT c d=some y):bm aO No 37 [.agg (aZ c m).toArray,.agg (aZ d n).toArray] L (fun v w'=>v = .bool y):=by
 refine en Tryz.func37 Tryz.ntmps37 hT fun a I=>?_;replace I:=(I.fS (aQ.dn K)).fS (aQ.dn M);unfold oT at B;refine kB I fun N X a w O I=>?_;refine kb I fun i Y a w O I=>?_;refine an I fun a I=>?_;refine ax ?_;refine ip ?_;refine an I fun a I=>?_;refine wl rfl (ky (v:=.bool (!(c.b.k==d.b.k&&c.b.x.toList==d.b.x.toList))) I (Bi I rfl rfl) rfl rfl fun a I=>?_);refine an I fun a I=>?_;rcases cd B with⟨r,B⟩|⟨r,B⟩
 ·exact fz
 refine an I fun a I=>?_;rcases cd B with⟨t,B⟩|⟨t,B⟩
 ·exact fz
 refine an I fun a I=>?_;rcases cd B with⟨u,B⟩|⟨u,B⟩
 ·exact fz
 refine an I fun a I=>?_;rcases cd B with⟨z,B⟩|⟨z,B⟩
 ·exact fz
 refine an I fun a I=>?_;refine aK (J:=fun a w=>St L No T 51 [] [] [] a w/\rB=some y) ?_ ?_
 ·refine an I fun a I=>?_;obtain⟨r1,H,hMo1⟩:=bd B;refine bz _ (fun s a w=>∃ (g:Int),g=s/\St L No T 51 [(3,pt i 0),(36,m),(37,am (c.v.length:Int)),(38,am g)] [.box i (aZ d n) 30] [aT a8 m c.v,aT a8 n d.v] a w) H ⟨_,rfl,I.mt [0] [1,0]⟩ ?_;rintro s a w W ⟨g,rfl,I⟩ B hf1;have B:k9 c d g=some W:=B;unfold k9 at B;refine an I fun a I=>?_;refine ax ?_;rcases cd B with⟨A,B⟩|⟨A,B⟩
  ·refine an I fun a I=>?_;refine ax ?_;refine an I fun a I=>?_;obtain⟨e,j,B⟩:=bd B;refine wl rfl (bv (R:=a8) I Ej Gf rfl rfl 0 rfl j rfl fun P a0 S D a I=>?_);obtain rfl:=D;refine kA I Ep fun Q Z a w O I=>?_;refine go I fun a w I=>?_;refine ax ?_;refine dr [] I fun w hQ I=>?_;refine gE [0,1,2] I fun a I=>?_;obtain⟨f,l,B⟩:=bd B;obtain⟨q,G,V,E,F,I⟩:=km (R:=a8) I Ej Gf 2 rfl l;obtain rfl:=E;refine dq 3 I (v:=pt q G) (F rfl rfl) fun a I=>?_;refine gE [4,5] I fun a I=>?_;refine dq 6 I (v:=.bool (!(f.b.k==e.b.k&&f.b.x.toList==e.b.x.toList&&f.h.o==e.h.o&&f.h.p==e.h.p))) (Tf I rfl rfl) fun a I=>?_;refine eD ?_;exact fz
  exact fz
 rintro a w ⟨I,B⟩;unfold rB at B;exact fz
def lL:Option Bool:=some (true)
def fp (c g:(List ac)) (b:Int):Option (Fl (Int) (Fl (Unit) Bool)):=cond (decide (b<(c.length:Int))) ((bp c b).bind fun d=>(bp g b).bind fun e=>(oT d e).bind fun f=>cond (!(f)) (some (.out (.out false))) (some (.go (IntKind.i64.wrap (b+1))))) (some (.out (.go ())))
def ef (b c:(List ac)):Option Bool:=cond ((b.length:Int) != (c.length:Int)) (some (false)) ((loop (fun s:Int=>fp b c s) 0).bind fun r=>Fl.el r (fun s=>lL) (fun y=>some (y)))
theorem qX (c d:(List ac)) (j k:Value) (z:aQ ai T L j c) (A:aQ ai T L k d) (y:Bool) (B:ef c d=some y):bm aO No 14 [j,k] L (fun v w'=>v = .bool y):=by
 refine en Tryz.func14 Tryz.ntmps14 hT fun a I=>?_;replace I:=(I.fS (aQ.dn z)).fS (aQ.dn A);unfold ef at B;refine an I fun a I=>?_;refine ax ?_;refine an I fun a I=>?_;rcases cd B with⟨o,B⟩|⟨o,B⟩
 ·exact fz
 refine an I fun a I=>?_;refine aK (J:=fun a w=>St L No T 27 [] [] [] a w/\lL=some y) ?_ ?_
 ·refine an I fun a I=>?_;obtain⟨S,x,hMo1⟩:=bd B;refine bz _ (fun s a w=>∃ (b:Int),b=s/\St L No T 27 [(1,k),(12,j),(13,am (c.length:Int)),(14,am b)] [] [aT ai k d,aT ai j c] a w) x ⟨_,rfl,I.mt [] [0,1]⟩ ?_;rintro s a w H ⟨b,rfl,I⟩ B hf1;have B:fp c d b=some H:=B;unfold fp at B;refine an I fun a I=>?_;refine ax ?_;rcases cd B with⟨p,B⟩|⟨p,B⟩
  ·refine an I fun a I=>?_;refine ax ?_;refine an I fun a I=>?_;obtain⟨m,e,B⟩:=bd B;refine wl rfl (bv (R:=ai) I wJ s7 rfl rfl 1 rfl e rfl fun D M F q a I=>?_);obtain⟨P,rfl,h⟩:=q;replace I:=I.fS h;refine kA I rH fun E K a w O I=>?_;refine go I fun a w I=>?_;refine ax ?_;refine dr [] I fun w hQ I=>?_;refine gE [0,1,2] I fun a I=>?_;obtain⟨n,f,B⟩:=bd B;obtain⟨l,u,G,r,t,I⟩:=km (R:=ai) I wJ s7 2 rfl f;obtain⟨Q,rfl,i⟩:=r;replace I:=I.fS i;refine dq 3 I (v:=pt l u) (t rfl rfl) fun a I=>?_;refine gE [4] I fun a I=>?_;obtain⟨N,g,B⟩:=bd B;refine ec 5 I Up (BP _ _ I.dlt m n _ _ I.g2 I.g0 _ g) fun _ w C a O U=>?_;obtain rfl:=C;have I:=fA U;refine gE [6] I fun a I=>?_;refine eD ?_;exact fz
  exact fz
 rintro a w ⟨I,B⟩;unfold lL at B;exact fz
def fe (b:Bool):Option Bool:=some (b)
def pL:Option Bool:=(lD 0).bind fun j=>(iB (ap.mk 0 ([]) ([])) ([(ci.mk j (ByteArray.mk #[55]))])).bind fun e=>(kY ([(aL.mk false ([(dz.mk true false 0 0)]) 1 0)]) 0).bind fun k=>(iD uu ([(aL.mk false ([(dz.mk true false 0 0)]) 1 0)]) (ap.mk e.1.r e.1.i e.1.s) ([k])).bind fun b=>(ix (ap.mk b.1.r b.1.i b.1.s)).bind fun c=>(iy ([(aL.mk false ([(dz.mk true false 0 0)]) 1 0)]) (ap.mk b.1.r b.1.i ([])) c).bind fun d=>cond ((c.length:Int)==1) (cond (d.2.2==0) (cond ((d.2.1.length:Int)==1) (cond ((d.1.s.length:Int)==1) ((bp d.1.s 0).bind fun f=>cond (f.t.toList==(ByteArray.mk #[55]).toList) ((bp c 0).bind fun g=>(jW (ap.mk b.1.r b.1.i ([])) g).bind fun l=>cond l ((bp c 0).bind fun h=>(jW (ap.mk 0 ([]) ([])) h).bind fun m=>fe (!(m))) (fe false)) (fe false)) (fe false)) (fe false)) (fe false)) (fe false)
theorem yk (hLv:dC T L) (y:Bool) (B:pL=some y):bm aO No 6 [] L (fun v w'=>v = .bool y):=by
 refine en Tryz.func6 Tryz.ntmps6 hT fun a I=>?_;replace I:=I.fact bK (dC.dn hLv);unfold pL at B;refine an I fun a I=>?_;refine qy I (bE (ps:=[(0,.const (.bool true))]) I OV BV rfl (us:=[[.bool true]]) ⟨rfl,trivial⟩ (ws:=[.bool true,.bool false,am 0,am 0]) rfl) fun a I=>?_;refine wl rfl (bq (ps:=[(0,.tmp 8)]) I Ox BV (zl:=[.bool false,.bool false,am 0,am 0]) (by kernel_rfl) rfl (us:=[[.bool true,.bool false,am 0,am 0]]) ⟨rfl,trivial⟩ (ws:=[.bool true,.bool false,am 0,am 0]) rfl rfl rfl rfl fun e a w O I=>?_);replace I:=I.lit (R:=dV) (us:=[.bool true,.bool false,am 0,am 0]) (xs:=[(dz.mk true false 0 0)]) 0 rfl (by decide) (aN (R:=dV) (x:=(dz.mk true false 0 0)) rfl) rfl rfl;skip;refine qy I (bE (ps:=[(1,.tmp 9),(2,.const (am 1))]) I Lc Ah rfl (us:=[[(.slice (some ⟨e,0,none⟩) 1 1)],[am 1]]) ⟨(vD (F4 (I.own _ (az (i:=0) rfl)).1)),⟨rfl,trivial⟩⟩ (ws:=[.bool false,(.slice (some ⟨e,0,none⟩) 1 1),am 1,am 0]) rfl) fun a I=>?_;refine wl rfl (bq (ps:=[(0,.tmp 10)]) I QJ Ah (zl:=[.bool false,.slice none 0 0,am 0,am 0]) (by kernel_rfl) rfl (us:=[[.bool false,(.slice (some ⟨e,0,none⟩) 1 1),am 1,am 0]]) ⟨rfl,trivial⟩ (ws:=[.bool false,(.slice (some ⟨e,0,none⟩) 1 1),am 1,am 0]) rfl rfl rfl rfl fun b5 a w O I=>?_);refine an I fun a I=>?_;refine qy I (bE (ps:=[]) I Jf vx rfl (us:=[]) trivial (ws:=[am 0,.slice none 0 0,.slice none 0 0]) rfl) fun a I=>?_;obtain⟨b,H,B⟩:=bd B;refine kE I Oh (sS _ _ I.dlt I.g1 0 _ H) fun w a I=>?_;refine qy I (bE (ps:=[(0,.tmp 14),(1,.const (.string ⟨#[55]⟩))]) I TB Gv rfl (us:=[(bn b),[bc (ByteArray.mk #[55])]]) ⟨rfl,⟨rfl,trivial⟩⟩ (ws:=[am b.k,bc b.x,bc (ByteArray.mk #[55])]) rfl) fun a I=>?_;refine wl rfl (bq (ps:=[(0,.tmp 15)]) I QK Gv (zl:=[am 0,bc cu,bc cu]) (by kernel_rfl) rfl (us:=[[am b.k,bc b.x,bc (ByteArray.mk #[55])]]) ⟨rfl,trivial⟩ (ws:=[am b.k,bc b.x,bc (ByteArray.mk #[55])]) rfl rfl rfl rfl fun b6 a w O I=>?_);replace I:=(((I.fact (aT ad (.slice none 0 0) []) (aQ.nil_ _ _ _)).fact (aT aa (.slice none 0 0) []) (aQ.nil_ _ _ _)).lit (R:=bw) (us:=[am b.k,bc b.x,bc (ByteArray.mk #[55])]) (xs:=[(ci.mk b (ByteArray.mk #[55]))]) 0 rfl (by decide) (aN (R:=bw) (x:=(ci.mk b (ByteArray.mk #[55]))) rfl) rfl rfl).zf (R:=bw) 0 rfl 0 rfl;obtain⟨j,K,B⟩:=bd B;refine kc I QB (uH _ _ I.dlt I.g5 (ap.mk 0 ([]) ([])) ([(ci.mk b (ByteArray.mk #[55]))]) _ _ _ I.g3 I.g2 I.g0 _ K) fun _ w C a O U=>?_;obtain⟨cf,b9,ch,bb,he,n,o,m⟩:=C;obtain rfl:=he.symm;have I:=IF U n o m;refine kA I vx fun Z c4 a w O I=>?_;refine go I fun a w I=>?_;refine ax ?_;refine dr [(10,.blk (some Z))] I fun w hQ I=>?_;refine gE [0,1,2] I fun a I=>?_;replace I:=I.zf (R:=dV) 4 rfl 6 rfl;replace I:=I.lit (R:=ay) (us:=[.bool false,(.slice (some ⟨e,0,none⟩) 1 1),am 1,am 0]) (xs:=[(aL.mk false ([(dz.mk true false 0 0)]) 1 0)]) 3 rfl (by decide) (aN (R:=ay) (x:=(aL.mk false ([(dz.mk true false 0 0)]) 1 0)) (⟨_,rfl,I.g0⟩)) rfl rfl;have hL:=I;replace hL:=hL.zf (R:=ay) 3 rfl 0 rfl;obtain⟨d,M,B⟩:=bd B;refine ec 3 I IT (pq _ _ hL.dlt hL.g10 ([(aL.mk false ([(dz.mk true false 0 0)]) 1 0)]) 0 _ hL.g0 _ M) fun _ w C a O U=>?_;obtain rfl:=C;have I:=fA U;refine e1 4 (bq (ps:=[(0,.tmp 24)]) I ol jV (zl:=[am 0,bc cu]) (by kernel_rfl) rfl (us:=[(bn d)]) ⟨rfl,trivial⟩ (ws:=(bn d)) rfl rfl rfl rfl fun b7 a w O I=>⟨jx (O),?_⟩);replace I:=((((I.zf (R:=ay) 4 rfl 0 rfl).zf (R:=ad) 2 rfl 4 rfl).zf (R:=aa) 2 rfl 4 rfl).lit (R:=ah) (us:=(bn d)) (xs:=[d]) 0 rfl (by decide) (aN (R:=ah) (x:=d) rfl) rfl rfl).zf (R:=ah) 0 rfl 0 rfl;obtain⟨c,N,B⟩:=bd B;refine ec 5 I QC (sD _ _ I.dlt I.g14 uu U7 ([(aL.mk false ([(dz.mk true false 0 0)]) 1 0)]) (ap.mk j.1.r j.1.i j.1.s) ([d]) _ _ _ _ I.g4 I.g3 I.g2 I.g0 _ N) fun _ w C a O U=>?_;obtain⟨ck,cs,bg,cv,bi,he,p,q,t,m⟩:=C;obtain rfl:=he.symm;have I:=IF U q t m;replace I:=I.fS (p.sub (mV _));refine gE [6,7,8,9] I fun a I=>?_;refine es 10 I fun w I=>?_;refine eD ?_;refine an I fun a I=>?_;replace I:=I.zf (R:=aa) 0 rfl 2 rfl;obtain⟨b4,P,B⟩:=bd B;refine kc I Sn (wk _ _ I.dlt I.g18 (ap.mk c.1.r c.1.i c.1.s) _ _ I.g1 I.g0 _ P) fun _ w C a O U=>?_;obtain⟨d0,bl,he,u⟩:=C;obtain rfl:=he.symm;have I:=sN U u;refine go I fun a w I=>?_;replace I:=I.zf (R:=ai) 0 rfl 0 rfl;obtain⟨c9,Q,B⟩:=bd B;refine kc I SM (wm _ _ I.dlt I.g20 ([(aL.mk false ([(dz.mk true false 0 0)]) 1 0)]) (ap.mk c.1.r c.1.i ([])) b4 _ _ _ _ I.g10 I.g3 I.g17 I.g0 _ Q) fun _ w C a O U=>?_;obtain⟨d1,d2,d3,bs,he,z,A,D⟩:=C;obtain rfl:=he.symm;have I:=sN U D;replace I:=(I.fS (z.sub (mV _))).fS (A.sub (mV _));refine kA I vx fun b8 c5 a w O I=>?_;refine go I fun a w I=>?_;refine aK (J:=fun a w=>∃ (g:Bool),St L No T 82 [(0,.bool g)] [] [bK] a w/\fe g=some y) ?_ ?_
 ·refine dr [] I fun w hQ I=>?_;refine gE [0,1,2,3] I fun a I=>?_;rcases cd B with⟨a5,B⟩|⟨a5,B⟩
  ·refine gE [4,5,6,7] I fun a I=>?_;rcases cd B with⟨a9,B⟩|⟨a9,B⟩
   ·refine gE [8,9,10,11,12] I fun a I=>?_;rcases cd B with⟨ab,B⟩|⟨ab,B⟩
    ·refine gE [13,14,15,16,17,18] I fun a I=>?_;rcases cd B with⟨l,B⟩|⟨l,B⟩
     ·refine gE [19,20] I fun a I=>?_;obtain⟨c3,E,B⟩:=bd B;obtain⟨a0,b1,bt,af,ag,I⟩:=km (R:=aa) I rG pA 0 rfl E;obtain⟨d4,rfl,W⟩:=af;replace I:=I.fS W;refine dg 21 I l (v:=pt a0 b1) (ag rfl rfl) fun a I=>?_;refine gE [22,23,24,25,26] I fun a I=>?_;rcases cd B with⟨h,B⟩|⟨h,B⟩
      ·refine gE [27,28] I fun a I=>?_;obtain⟨a3,F,B⟩:=bd B;obtain⟨a1,b2,c1,ak,ao,I⟩:=km (R:=ai) I wJ s7 5 rfl F;obtain⟨d6,rfl,X⟩:=ak;replace I:=I.fS X;refine dg 29 I h (v:=pt a1 b2) (ao rfl rfl) fun a I=>?_;refine gE [30] I fun a I=>?_;obtain⟨ca,S,B⟩:=bd B;refine dp (i:=31) rfl (by kernel_rfl) I rfl rfl rfl h (bT I Sz rfl rfl (zq _ _ I.dlt (I.get 27 rfl) (ap.mk c.1.r c.1.i ([])) a3 _ _ _ I.g10 I.g24 I.g0 _ S) fun _ w C a O U=>⟨jx (O),?_⟩);obtain rfl:=C;have I:=fA U;refine gE [32,33] I fun a I=>?_;rcases cd B with⟨f,B⟩|⟨f,B⟩
       ·refine dg 34 I f (v:=.agg #[am 0,.slice none 0 0,.slice none 0 0]) (bE (ps:=[]) I Jf vx rfl (us:=[]) trivial (ws:=[am 0,.slice none 0 0,.slice none 0 0]) rfl) fun a I=>?_;refine gE [35] I fun a I=>?_;obtain⟨a4,G,B⟩:=bd B;obtain⟨a2,b3,c2,av,b0,I⟩:=km (R:=ai) I wJ s7 7 rfl G;obtain⟨dc,rfl,Y⟩:=av;replace I:=I.fS Y;refine dg 36 I f (v:=pt a2 b3) (b0 rfl rfl) fun a I=>?_;refine gE [37] I fun a I=>?_;obtain⟨cb,V,B⟩:=bd B;refine dp (i:=38) rfl (by kernel_rfl) I rfl rfl rfl f (bT I Sz rfl rfl (zq _ _ I.dlt (I.get 29 rfl) (ap.mk 0 ([]) ([])) a4 _ _ _ (I.get 27 rfl) (I.get 26 rfl) I.g0 _ V) fun _ w C a O U=>⟨jx (O),?_⟩);obtain rfl:=C;have I:=fA U;refine gE [39,40,41] I fun a I=>?_;refine eD ?_;exact fin
       refine gE [34,35,36,37,38,39,40,41] I fun a I=>?_;refine eD ?_;exact fin
      refine gE [27,28,29,30,31,32,33,34,35,36,37,38,39,40,41] I fun a I=>?_;refine eD ?_;exact fin
     refine gE [19,20,21,22,23,24,25,26,27,28,29,30,31,32,33,34,35,36,37,38,39,40,41] I fun a I=>?_;refine eD ?_;exact fin
    refine gE [13,14,15,16,17,18,19,20,21,22,23,24,25,26,27,28,29,30,31,32,33,34,35,36,37,38,39,40,41] I fun a I=>?_;refine eD ?_;exact fin
   refine gE [8,9,10,11,12,13,14,15,16,17,18,19,20,21,22,23,24,25,26,27,28,29,30,31,32,33,34,35,36,37,38,39,40,41] I fun a I=>?_;refine eD ?_;exact fin
  refine gE [4,5,6,7,8,9,10,11,12,13,14,15,16,17,18,19,20,21,22,23,24,25,26,27,28,29,30,31,32,33,34,35,36,37,38,39,40,41] I fun a I=>?_;refine eD ?_;exact fin
 rintro a w ⟨g,I,B⟩;unfold fe at B;exact fz
def cQ (b:Bool):Option Bool:=some (b)
def fx (j:LU) (e:(LK×bH)) (c:(ap×LK×Int)) (d:(List ac)) (k:(ap×LK×Int)):Option Bool:=(m4 (bH.mk e.2.L e.2.k1) j (ap.mk c.1.r c.1.i c.1.s)).bind fun f=>(mQ d f.1).bind fun b=>(mQ f.1 d).bind fun g=>(mQ b.1 b.1).bind fun h=>cond (b.2==0) (cond (g.2==0) (cond (h.2==0) ((ef b.1 g.1).bind fun l=>cond l ((ef b.1 h.1).bind fun m=>cond m (cond (decide ((d.length:Int)<=(b.1.length:Int))) ((gZ k.1.s).bind fun n=>cond n ((pL).bind fun o=>cQ o) (cQ false)) (cQ false)) (cQ false)) (cQ false)) (cQ false)) (cQ false)) (cQ false)
def ik (f:(ap×LK×Int)) (g:(ap×LK×Int)) (e:Int):Option (Fl (Int) (Fl (Unit) Bool)):=cond (decide (e<(f.1.s.length:Int))) ((bp f.1.s e).bind fun c=>(bp g.1.s e).bind fun d=>cond (!(d.b.k==c.b.k&&d.b.x.toList==c.b.x.toList)) (some (.out (.out false))) (cond (!(d.t.toList==c.t.toList)) (some (.out (.out false))) ((m8 d.v c.v).bind fun h=>cond (!(h)) (some (.out (.out false))) (cond (d.a != c.a) (some (.out (.out false))) (some (.go (IntKind.i64.wrap (e+1)))))))) (some (.out (.go ())))
def kp (j:(LU×bH)) (c:LU):Option Bool:=(nW (bH.mk j.2.L j.2.k1) 4).bind fun f=>(iB (ap.mk 0 ([]) ([])) f.1).bind fun g=>(ro (bH.mk f.2.L f.2.k1) c 4).bind fun h=>(iD uu c (ap.mk g.1.r g.1.i g.1.s) h.1).bind fun b=>(ix (ap.mk b.1.r b.1.i b.1.s)).bind fun d=>(iy c (ap.mk b.1.r b.1.i ([])) d).bind fun e=>cond (e.2.2 != 0) (some (false)) (cond ((d.length:Int) != (b.1.s.length:Int)) (some (false)) (cond ((e.2.1.length:Int) != (d.length:Int)) (some (false)) ((loop (fun s:Int=>ik b e s) 0).bind fun r=>Fl.el r (fun s=>fx c h b d e) (fun y=>some (y)))))
def ij (b:Int) (c:LU):Option (Fl (LU×Int) (LU)):=some (.go (c,IntKind.i64.wrap (b+1)))
def d9 (e:(LU×bH)) (c:LU) (b:Int):Option (Fl (LU×Int) (LU)):=cond (decide (b<(e.1.length:Int))) ((bp c b).bind fun d=>cond d.q ((bp c b).bind fun f=>ij b (c.set (Int.toNat b) (aL.mk false ([(dz.mk true false (Int.tmod b 4) 0)]) 3 b))) (ij b c)) (some (.out c))
def iJ (c:LN):Option Bool:=(po c).bind fun d=>cond (!(d)) ((pL).bind fun e=>some (e)) ((AA c).bind fun f=>(tL f).bind fun b=>(loop (fun s:LU×Int=>d9 b s.1 s.2) (b.1,0)).bind fun r=>kp b r)
theorem yG (hLv:dC T L) (b0:LN) (v1:Value) (hf:aQ (aY.int .i64) T L v1 b0) (y:Bool) (B:iJ b0=some y):bm aO No 4 [v1] L (fun v w'=>v = .bool y):=by
 refine en Tryz.func4 Tryz.ntmps4 hT fun a I=>?_;replace I:=(I.fact bK (dC.dn hLv)).fS (aQ.dn hf);unfold iJ at B;refine an I fun a I=>?_;refine ax ?_;refine an I fun a I=>?_;obtain⟨i1,f3,B⟩:=bd B;refine kF I VS (FV _ _ I.dlt b0 _ I.g0 _ f3) fun w a I=>?_;rcases cd B with⟨fu,B⟩|⟨fu,B⟩
 ·refine an I fun a I=>?_;obtain⟨i2,f4,B⟩:=bd B;refine kE I VA (yk _ _ I.dlt I.g1 _ f4) fun w a I=>?_;exact fz
 refine an I fun a I=>?_;obtain⟨e0,f5,B⟩:=bd B;refine kc I VT (HS _ _ I.dlt b0 _ I.g0 _ f5) fun _ w C a O U=>?_;obtain⟨f,e,he,hd,bg,c1⟩:=C;obtain rfl:=he.symm;have I:=U [.box f (bQ e0 e) 83] (rX bg (fun k O=>by simp only [cZ.dom,cw] at O; omega)) (Gz _);replace I:=I.fS (c1.sub (mV _));refine an I fun a I=>?_;obtain⟨g,eT,B⟩:=bd B;refine wl rfl (u4 I Uo rfl rfl 0 rfl (FW _ _ (I.drop 0).dlt e0 _ _ (I.zb 0 rfl) (I.zi 0 rfl) (aQ.lent (i:=0) rfl I.g0) _ eT) fun _ w C O=>?_);obtain⟨j,X,i3,he,⟨bi,b7,c2⟩,hrow,c3,P⟩:=C;obtain rfl:=he.symm;subst P;refine⟨(bQ g.2 e),[gV j X],hrow,rX ⟨bi,by decide⟩ b7,Gz _,fun a I=>?_⟩;replace I:=(I.fR (c2.keep (aw _ _) (pb (i:=0) rfl [gV j X] _))).fS (c3.sub (pb (i:=0) rfl [gV j X] _));refine an I fun a I=>?_;refine aK (J:=fun a w=>∃ (m:LU) (Y:LV),St L No T 195 [(3,pt f 0),(4,j)] [gV j Y,.box f (bQ g.2 e) 83] [au ay Y m,aT (aY.int .i64) e g.2.L,bK] a w/\kp g m=some y) ?_ ?_
 ·refine an I fun a I=>?_;obtain⟨r1,ds,hMo1⟩:=bd B;refine bz _ (fun s a w=>∃ (E:LU) (c:Int) (Z:LV),(E,c)=s/\St L No T 195 [(3,pt f 0),(4,j),(32,am (g.1.length:Int)),(33,am c)] [gV j Z,.box f (bQ g.2 e) 83] [au ay Z E,aT (aY.int .i64) e g.2.L,bK] a w) ds ⟨_,_,_,rfl,I.mt [0,1] [1,0,4]⟩ ?_;rintro s a w f1 ⟨E,c,Z,rfl,I⟩ B hf1;have B:d9 g E c=some f1:=B;unfold d9 at B;refine an I fun a I=>?_;refine ax ?_;rcases cd B with⟨fM,B⟩|⟨fM,B⟩
  ·refine an I fun a I=>?_;refine aK (J:=fun a w=>∃ (ab:LU) (a0:LV),St L No T 195 [(3,pt f 0),(4,j),(32,am (g.1.length:Int)),(33,am c)] [gV j a0,.box f (bQ g.2 e) 83] [au ay a0 ab,aT (aY.int .i64) e g.2.L,bK] a w/\ij c ab=some f1) ?_ ?_
   ·refine an I fun a I=>?_;obtain⟨fr,e7,B⟩:=bd B;refine wl rfl (dK (R:=ay) I uM tV rfl rfl 0 rfl 0 rfl e7 rfl fun hh hH hM ho g8 g9 gb a I=>?_);obtain⟨i4,rfl,f6⟩:=g8;replace I:=I.fS f6;refine an I fun a I=>?_;refine qy I (bY (k:=0) I TR 0 rfl g9 gb rfl id (us:=[.bool fr.q]) rfl rfl (fun _=>rfl)) fun a I=>?_;refine an I fun a I=>?_;rcases cd B with⟨gi,B⟩|⟨gi,B⟩
    ·refine an I fun a I=>?_;refine qy I (Dw I rfl rfl (by decide)) fun a I=>?_;refine qy I (bE (ps:=[(0,.const (.bool true)),(2,.tmp 45)]) I OV BV rfl (us:=[[.bool true],[am (Int.tmod c 4)]]) ⟨rfl,⟨rfl,trivial⟩⟩ (ws:=[.bool true,.bool false,am (Int.tmod c 4),am 0]) rfl) fun a I=>?_;refine wl rfl (bq (ps:=[(0,.tmp 46)]) I Ox BV (zl:=[.bool false,.bool false,am 0,am 0]) (by kernel_rfl) rfl (us:=[[.bool true,.bool false,am (Int.tmod c 4),am 0]]) ⟨rfl,trivial⟩ (ws:=[.bool true,.bool false,am (Int.tmod c 4),am 0]) rfl rfl rfl rfl fun W a w O I=>?_);replace I:=I.lit (R:=dV) (us:=[.bool true,.bool false,am (Int.tmod c 4),am 0]) (xs:=[(dz.mk true false (Int.tmod c 4) 0)]) 0 rfl (by decide) (aN (R:=dV) (x:=(dz.mk true false (Int.tmod c 4) 0)) rfl) rfl rfl;skip;refine qy I (bE (ps:=[(2,.const (am 3)),(3,.tmp 43),(1,.tmp 47)]) I Lc Ah rfl (us:=[[am 3],[am c],[(.slice (some ⟨W,0,none⟩) 1 1)]]) ⟨rfl,⟨rfl,⟨(vD (F4 (I.own _ (az (i:=0) rfl)).1)),trivial⟩⟩⟩ (ws:=[.bool false,(.slice (some ⟨W,0,none⟩) 1 1),am 3,am c]) rfl) fun a I=>?_;obtain⟨fs,av,B⟩:=bd B;refine wl rfl (dK (R:=ay) I uM tV rfl rfl 1 rfl 2 rfl av rfl fun hi hI hN hp gs gu gx a I=>?_);obtain⟨hc,rfl,fd⟩:=gs;replace I:=(I.fS fd).zf (R:=dV) 0 rfl 1 rfl;refine wl rfl (ig (R:=ay) (k:=0) (cs:=(zk fs hc)) (us:=[.bool false,(.slice (some ⟨W,0,none⟩) 1 1),am 3,am c]) (x':=(aL.mk false ([(dz.mk true false (Int.tmod c 4) 0)]) 3 c)) I rfl rfl rfl tV 0 rfl 4 rfl gu gx av (⟨_,rfl,I.g1⟩) rfl rfl (⟨_,rfl,I.g0⟩) fun hq w O I=>?_);exact fz
    exact fz
   rintro a w ⟨ab,a0,I,B⟩;unfold ij at B;exact fz
  exact fz
 rintro a w ⟨m,Y,I,B⟩;unfold kp at B;refine an I fun a I=>?_;refine qy I (bE (ps:=[]) I Jf vx rfl (us:=[]) trivial (ws:=[am 0,.slice none 0 0,.slice none 0 0]) rfl) fun a I=>?_;refine an I fun a I=>?_;obtain⟨G,eX,B⟩:=bd B;refine wl rfl (u4 I ST rfl rfl 1 rfl (xh _ _ (I.drop 1).dlt (bH.mk g.2.L g.2.k1) 4 _ _ (I.zb 1 rfl) (I.zi 1 rfl) (aQ.lent (i:=1) rfl I.g1) (bK.keep I.g2 (aw _ _) (fun k O=>.inl ((uW (i:=1) rfl k).1 O))) _ eX) fun _ w C O=>?_);obtain⟨ag,a1,i5,he,⟨bl,b8,c4⟩,hrow,c5,Q⟩:=C;obtain rfl:=he.symm;subst Q;refine⟨(bQ G.2 e),[oO ag a1],hrow,rX ⟨bl,by decide⟩ b8,Gz _,fun a I=>?_⟩;replace I:=((((I.fR (c4.keep (aw _ _) (pb (i:=1) rfl [oO ag a1] _))).fS (c5.sub (pb (i:=1) rfl [oO ag a1] _))).fact (aT ad (.slice none 0 0) []) (aQ.nil_ _ _ _)).fact (aT aa (.slice none 0 0) []) (aQ.nil_ _ _ _)).zf (R:=bw) 0 rfl 3 rfl;obtain⟨u,f2,B⟩:=bd B;refine kc I QB (uH _ _ I.dlt I.g7 (ap.mk 0 ([]) ([])) G.1 _ _ _ I.g2 I.g1 I.g0 _ f2) fun _ w C a O U=>?_;obtain⟨e2,hr,e3,hs,he,c9,ca,b6⟩:=C;obtain rfl:=he.symm;have I:=IF U c9 ca b6;refine kA I vx fun t hC a w O I=>?_;refine go I fun a w I=>?_;refine ax ?_;refine dr [(4,.blk (some f)),(10,.blk (some t))] I fun w hQ I=>?_;refine gE [0] I fun a I=>?_;refine dq 1 I (l:=[.blk (some f)]) (v:=.agg (bA u.1 e2 e3).toArray) (ou I rfl tU 0 rfl (uf I 0 rfl rfl 4 rfl rfl (by decide) cc) (us:=(bA u.1 e2 e3)) rfl rfl (fun h=>by cases h)) fun a I=>?_;refine gE [2,3] I fun a I=>?_;replace I:=I.zf (R:=ay) 3 rfl 7 rfl;obtain⟨n,e8,B⟩:=bd B;refine e1 4 (u4 I SV rfl rfl 3 rfl (zM _ _ (I.drop 3).dlt (bH.mk G.2.L G.2.k1) m 4 _ _ _ (I.zb 3 rfl) (I.zi 3 rfl) (aQ.lent (i:=3) rfl I.g6) (aQ.lent (i:=3) rfl I.g0) (bK.keep I.g10 (aw _ _) (fun k O=>.inl ((uW (i:=3) rfl k).1 O))) _ e8) fun _ w C O=>?_);obtain⟨ak,a2,i9,he,⟨bs,b9,cb⟩,hrow,cf,S⟩:=C;obtain rfl:=he.symm;subst S;refine⟨(bQ n.2 e),[aJ ak a2],hrow,rX ⟨bs,by decide⟩ b9,Gz _,fun a I=>⟨qU rfl O od,?_⟩⟩;replace I:=((((I.fR (cb.keep (aw _ _) (pb (i:=3) rfl [aJ ak a2] _))).fS (cf.sub (pb (i:=3) rfl [aJ ak a2] _))).zf (R:=ad) 2 rfl 4 rfl).zf (R:=aa) 2 rfl 4 rfl).zf (R:=ah) 0 rfl 3 rfl;obtain⟨d,ea,B⟩:=bd B;refine ec 5 I QC (sD _ _ I.dlt I.g15 uu U7 m (ap.mk u.1.r u.1.i u.1.s) n.1 _ _ _ _ I.g5 I.g2 I.g1 I.g0 _ ea) fun _ w C a O U=>?_;obtain⟨H,z,ht,ib,hu,he,ch,ck,cv,b6⟩:=C;obtain rfl:=he.symm;have I:=IF U ck cv b6;replace I:=I.fS (ch.sub (mV _));refine gE [6,7,8,9] I fun a I=>?_;refine es 10 I fun w I=>?_;refine eD ?_;refine an I fun a I=>?_;replace I:=I.zf (R:=aa) 0 rfl 2 rfl;obtain⟨p,eb,B⟩:=bd B;refine kc I Sn (wk _ _ I.dlt I.g19 (ap.mk d.1.r d.1.i d.1.s) _ _ I.g1 I.g0 _ eb) fun _ w C a O U=>?_;obtain⟨K,hv,he,d0⟩:=C;obtain rfl:=he.symm;have I:=sN U d0;refine kA I vx fun hj hD a w O I=>?_;refine go I fun a w I=>?_;replace I:=I.zf (R:=ai) 1 rfl 0 rfl;obtain⟨o,ed,B⟩:=bd B;refine kc I SM (wm _ _ I.dlt I.g21 m (ap.mk d.1.r d.1.i ([])) p _ _ _ _ I.g11 I.g3 I.g15 I.g0 _ ed) fun _ w C a O U=>?_;obtain⟨M,N,ih,hw,he,d1,d2,d3⟩:=C;obtain rfl:=he.symm;have I:=sN U d3;replace I:=(I.fS (d1.sub (mV _))).fS (d2.sub (mV _));refine kA I vx fun A hE a w O I=>?_;refine go I fun a w I=>?_;refine ax ?_;refine ip ?_;refine an I fun a I=>?_;rcases cd B with⟨gy,B⟩|⟨gy,B⟩
 ·exact fz
 refine an I fun a I=>?_;rcases cd B with⟨h0,B⟩|⟨h0,B⟩
 ·exact fz
 refine an I fun a I=>?_;rcases cd B with⟨h1,B⟩|⟨h1,B⟩
 ·exact fz
 refine an I fun a I=>?_;refine aK (J:=fun a w=>St L No T 195 [(3,pt f 0),(4,j),(6,pt t 0),(8,K),(10,pt A 0)] [.box f (bQ n.2 e) 83,.box t (bA d.1 H z) 37,.box A (bA o.1 M N) 37] [aT ay j m,aT ai K p,aT (aY.int .i64) e n.2.L,aT ad H d.1.i,aT aa z d.1.s,aT ad M o.1.i,aT aa N o.1.s,bK] a w/\fx m n d p o=some y) ?_ ?_
 ·refine an I fun a I=>?_;obtain⟨r1,ds,hMo1⟩:=bd B;refine bz _ (fun s a w=>∃ (D:Int),D=s/\St L No T 195 [(3,pt f 0),(4,j),(6,pt t 0),(8,K),(10,pt A 0),(98,z),(99,am (d.1.s.length:Int)),(100,am D)] [.box f (bQ n.2 e) 83,.box t (bA d.1 H z) 37,.box A (bA o.1 M N) 37] [aT ay j m,aT ai K p,aT aa z d.1.s,aT (aY.int .i64) e n.2.L,aT ad H d.1.i,aT ad M o.1.i,aT aa N o.1.s,bK] a w) ds ⟨_,rfl,I.mt [5,4,0] [14,3,5,12,6,1,0,24]⟩ ?_;rintro s a w f1 ⟨D,rfl,I⟩ B hf1;have B:ik d o D=some f1:=B;unfold ik at B;refine an I fun a I=>?_;refine ax ?_;rcases cd B with⟨h2,B⟩|⟨h2,B⟩
  ·refine an I fun a I=>?_;refine ax ?_;refine an I fun a I=>?_;obtain⟨a4,e5,B⟩:=bd B;refine wl rfl (bv (R:=aa) I rG pA rfl rfl 2 rfl e5 rfl fun hk hJ hx h3 a I=>?_);obtain⟨ii,rfl,fl⟩:=h3;replace I:=I.fS fl;refine kA I jB fun hl hF a w O I=>?_;refine go I fun a w I=>?_;obtain⟨a5,e6,B⟩:=bd B;refine wl rfl (bv (R:=aa) I rG pA rfl rfl 8 rfl e6 rfl fun hm hK hy h4 a I=>?_);obtain⟨ja,rfl,fn⟩:=h4;replace I:=I.fS fn;refine kA I jB fun hn hG a w O I=>?_;refine go I fun a w I=>?_;refine ip ?_;refine an I fun a I=>?_;refine wl rfl (ky (v:=.bool (!(a5.b.k==a4.b.k&&a5.b.x.toList==a4.b.x.toList))) I (Bi I rfl rfl) rfl rfl fun a I=>?_);refine an I fun a I=>?_;rcases cd B with⟨h5,B⟩|⟨h5,B⟩
   ·exact fz
   refine an I fun a I=>?_;rcases cd B with⟨b1,B⟩|⟨b1,B⟩
   ·exact fz
   refine an I fun a I=>?_;obtain⟨i0,ey,B⟩:=bd B;refine wg I rfl rfl rfl b1 (bT I Un rfl rfl (AK _ _ I.dlt a5.v a4.v _ _ I.g0 I.g2 _ ey) fun _ w C a O U=>?_);obtain rfl:=C;have I:=fA U;exact fz
  exact fz
 rintro a w ⟨I,B⟩;unfold fx at B;refine an I fun a I=>?_;obtain⟨af,eg,B⟩:=bd B;refine wl rfl (u4 I VU rfl rfl 0 rfl (Az _ _ (I.drop 0).dlt (bH.mk n.2.L n.2.k1) m (ap.mk d.1.r d.1.i d.1.s) _ _ _ _ _ (I.zb 0 rfl) (I.zi 0 rfl) (aQ.lent (i:=0) rfl I.g2) (aQ.lent (i:=0) rfl I.g0) (aQ.lent (i:=0) rfl I.g3) (aQ.lent (i:=0) rfl I.g4) (bK.keep I.g7 (aw _ _) (fun k O=>.inl ((uW (i:=0) rfl k).1 O))) _ eg) fun _ w C O=>?_);obtain⟨ao,a3,jb,he,⟨bt,bb,d4⟩,hrow,d6,V⟩:=C;obtain rfl:=he.symm;subst V;refine⟨(bQ af.2 e),[bu ao a3],hrow,rX ⟨bt,by decide⟩ bb,Gz _,fun a I=>?_⟩;replace I:=(I.fR (d4.keep (aw _ _) (pb (i:=0) rfl [bu ao a3] _))).fS (d6.sub (pb (i:=0) rfl [bu ao a3] _));refine an I fun a I=>?_;replace I:=I.zf (R:=ai) 0 rfl 1 rfl;obtain⟨F,ei,B⟩:=bd B;refine kc I QA (uB _ _ I.dlt I.g10 p af.1 _ _ I.g4 I.g0 _ ei) fun _ w C a O U=>?_;obtain⟨js,hz,he,dc⟩:=C;obtain rfl:=he.symm;have I:=sN U dc;refine an I fun a I=>?_;obtain⟨h9,ek,B⟩:=bd B;refine kc I QA (uB _ _ I.dlt I.g11 af.1 p _ _ I.g1 I.g5 _ ek) fun _ w C a O U=>?_;obtain⟨k0,hA,he,dk⟩:=C;obtain rfl:=he.symm;have I:=sN U dk;refine an I fun a I=>?_;replace I:=I.zf (R:=ai) 1 rfl 1 rfl;obtain⟨ha,el,B⟩:=bd B;refine kc I QA (uB _ _ I.dlt I.g13 F.1 F.1 _ _ I.g0 I.g0 _ el) fun _ w C a O U=>?_;obtain⟨k2,hB,he,dl⟩:=C;obtain rfl:=he.symm;have I:=sN U dl;refine an I fun a I=>?_;refine aK (J:=fun a w=>∃ (a9:Bool),St L No T 195 [(2,.bool a9)] [] [bK] a w/\cQ a9=some y) ?_ ?_
 ·refine an I fun a I=>?_;rcases cd B with⟨h6,B⟩|⟨h6,B⟩
  ·refine an I fun a I=>?_;rcases cd B with⟨h7,B⟩|⟨h7,B⟩
   ·refine an I fun a I=>?_;rcases cd B with⟨b2,B⟩|⟨b2,B⟩
    ·refine an I fun a I=>?_;have hL:=I;replace hL:=hL.zf (R:=ai) 1 rfl 2 rfl;obtain⟨hV,eq,B⟩:=bd B;refine wg I rfl rfl rfl b2 (bT I Sj rfl rfl (qX _ _ hL.dlt F.1 h9.1 _ _ hL.g2 hL.g0 _ eq) fun _ w C a O U=>?_);obtain rfl:=C;have I:=fA U;refine an I fun a I=>?_;rcases cd B with⟨b3,B⟩|⟨b3,B⟩
     ·refine an I fun a I=>?_;have hL:=I;replace hL:=hL.zf (R:=ai) 0 rfl 0 rfl;obtain⟨hW,er,B⟩:=bd B;refine wg I rfl rfl rfl b3 (bT I Sj rfl rfl (qX _ _ hL.dlt F.1 ha.1 _ _ hL.g2 hL.g0 _ er) fun _ w C a O U=>?_);obtain rfl:=C;have I:=fA U;refine an I fun a I=>?_;rcases cd B with⟨h8,B⟩|⟨h8,B⟩
      ·refine an I fun a I=>?_;rcases cd B with⟨b4,B⟩|⟨b4,B⟩
       ·refine an I fun a I=>?_;obtain⟨hX,et,B⟩:=bd B;refine wg I rfl rfl rfl b4 (bT I SW rfl rfl (ul _ _ I.dlt I.g14 o.1.s _ I.g13 _ et) fun _ w C a O U=>?_);obtain rfl:=C;have I:=fA U;refine an I fun a I=>?_;rcases cd B with⟨b5,B⟩|⟨b5,B⟩
        ·obtain⟨hY,ex,B⟩:=bd B;refine wg I rfl rfl rfl b5 (bT I VA rfl rfl (yk _ _ I.dlt I.g14 _ ex) fun _ w C a O U=>?_);obtain rfl:=C;have I:=fA U;exact fz
        exact fz
       exact fz
      exact fz
     exact fz
    exact fz
   exact fz
  exact fz
 rintro a w ⟨a9,I,B⟩;unfold cQ at B;exact fz
end
end
section
open Go.Lib hiding intOf
structure di (l:List Int) (at_:Int):Prop where
 low:0<=at_
 high:at_<=l.length
 len:l.length<=400
theorem fJ {l:List Int} {i:Int} (h:di l i) {n:Int} (h1:1<=n) (h2:n<=1000000000):Ok (cN ⟨l,i⟩ n) fun r=>0<=r.1/\r.1<n/\di r.2.L r.2.k1:=by
 unfold cN;refine aS (fun h3=>aq ⟨by omega,by omega,h⟩) (fun h3=>?_);have h3:i<l.length:=by simpa using h3
 have:=h.low; have:=h.high; have:=h.len;dsimp only;rw [show IntKind.i64.wrap (i+1)=i+1 from ki (by omega) (by omega),ki (by omega) (by omega)];refine y9 (by simpa using h.low) (by simpa using h3) fun v _ _=>?_;obtain⟨m,rfl⟩:∃ m:Nat,n=m:=⟨n.toNat,by omega⟩;obtain⟨r,hr,e⟩:=QS v (m:=m) (by omega) (by omega);exact aX e (aq ⟨by simp,by simp; omega,⟨by simp; omega,by simp; omega,h.len⟩⟩)
theorem Ph {l:List Int} {i:Int} (h:di l i) {ws:List ByteArray} (h1:1<=ws.length) (h2:ws.length<=1000):Ok (uY ⟨l,i⟩ ws) fun r=>r.1∈ws/\di r.2.L r.2.k1:=by
 unfold uY;refine aP (fJ h (by omega) (by omega)) fun r hr=>y9 hr.1 hr.2.1 fun v _ hv=>aq ⟨hv,hr.2.2⟩
end
section
open Go.Lib hiding intOf
def ZZ (rs:List Bool):Nat->Nat
 | 0=>0
 | a+1=>if rs[a]? = some true then ZZ rs a else a+1
def Hy (rs:List Bool):Nat->Nat->Nat
 | 0,b=>b
 | f+1,b=>if rs[b]? = some true then Hy rs f (b+1) else b
theorem B7 (rs:List Bool) (a:Nat):ZZ rs (a+1)=if rs[a]? = some true then ZZ rs a else a+1:=rfl
theorem CJ (rs:List Bool) (f b:Nat):Hy rs (f+1) b=if rs[b]? = some true then Hy rs f (b+1) else b:=rfl
theorem EJ (rs:List Bool):∀ a,ZZ rs a<=a
 | 0=>bx _
 | a+1=>by
  have:=EJ rs a;unfold ZZ;split <;> omega
theorem Mw (rs:List Bool):∀ f b,b<=Hy rs f b/\Hy rs f b<=b+f
 | 0,b=>⟨bx _,bx _⟩
 | f+1,b=>by
  have:=Mw rs f (b+1);unfold Hy;split <;> omega
def blk (rs:List Bool) (n:Nat):Nat×Nat:=if rs[n]? = some true then (ZZ rs n,Hy rs (rs.length-(n+1)) (n+1)) else (n,n+1)
theorem IR {rs:List Bool} {n:Nat} (h:n<rs.length):(blk rs n).1<=n/\n<(blk rs n).2/\(blk rs n).2<=rs.length:=by
 have h1:=EJ rs n;have h2:=Mw rs (rs.length-(n+1)) (n+1);unfold blk;split <;> simp only [] <;> omega
theorem uS {rs:List Bool} {n:Nat} (h:rs[n]? = some false):blk rs n=(n,n+1):=by simp [blk,h]
def aW (l:List aL):List Bool:=l.map (·.q)
theorem lj {l:List aL} {n:Nat} (h:n<l.length):(aW l)[n]? = some l[n].q:=by simp [aW,h]
theorem ET {l:List aL} {n:Nat} (h:n<l.length) (hl:l.length<=1000000):pO l n=some (((blk (aW l) n).1:Int),((blk (aW l) n).2:Int)):=by
 unfold pO;rw [show decide ((n:Int)<0)=false by simp,show decide (((l.length:Int):Int)<=(n:Int))=false by simp; omega];simp only [cond_false,al];have hr:=lj h;cases hb:l[n].q with
 | false =>
  rw [hb] at hr;have h1:loop (fun s:Int=>gp l n s) (n:Int)=some (n:Int):=cR (by
   unfold gp; rw [bB h]; simp only [al,hb,cond_false])
  have h2:loop (fun s:Int=>gn l n s) ((n:Int)+1)=some ((n:Int)+1):=cR (by
   unfold gn; rw [bB h]; simp only [al,hb,cond_false])
  rw [h1];unfold na m9;rw [al,ki (by omega) (by omega),h2,uS hr];rfl
 | true =>
  rw [hb] at hr;have h1:loop (fun s:Int=>gp l n s) (n:Int)=some ((ZZ (aW l) n:Nat):Int):=by
   refine xT (I:=fun k s=>∃ a:Nat,a+k=n/\s=(a:Int)/\ZZ (aW l) a=ZZ (aW l) n) _ n ?_ ?_ ⟨n,rfl,rfl,rfl⟩
   ·rintro k _ O ⟨a,ha,rfl,e⟩;unfold gp;obtain⟨c,rfl⟩:∃ c,a=c+1:=⟨a-1,by omega⟩;have hc:c<l.length:=by omega
    rw [bB h,show decide ((0:Int)<((c+1:Nat):Int))=true by simp <;> omega,ki (by omega) (by omega),show (((c+1:Nat):Int)-1)=(c:Int) by omega,bB hc];simp only [cond_true,al,hb];have hr2:=lj hc;rw [B7,hr2] at e;cases hb2:l[c].q with
    | true=>rw [hb2,if_pos rfl] at e; exact .inl ⟨_,rfl,c,by omega,rfl,e⟩
    | false=>rw [hb2,if_neg (by simp)] at e; right; rw [<- e]; rfl
   ·rintro _ ⟨a,ha,rfl,e⟩;obtain rfl:a=0:=by omega
    unfold gp;rw [bB h,<- e];simp only [al,hb,cond_true];rfl
  have h2:loop (fun s:Int=>gn l n s) ((n+1:Nat):Int)=some ((Hy (aW l) ((aW l).length-(n+1)) (n+1):Nat):Int):=by
   have hlen:(aW l).length=l.length:=by simp [aW]
   rw [hlen];refine xT (I:=fun k s=>∃ a:Nat,a=n+1+k/\a<=l.length/\s=(a:Int)/\Hy (aW l) (l.length-a) a=Hy (aW l) (l.length-(n+1)) (n+1)) _ (l.length-(n+1)) ?_ ?_ ⟨n+1,rfl,h,rfl,rfl⟩
   ·rintro k _ O ⟨a,ha,hal,rfl,e⟩;unfold gn;have hc:a<l.length:=by omega
    rw [bB h,show decide ((a:Int)<(l.length:Int))=true by simp; omega,bB hc,ki (by omega) (by omega)];simp only [cond_true,al,hb];have hr2:=lj hc;rw [show l.length-a=(l.length-(a+1))+1 by omega] at e;rw [CJ,hr2] at e;cases hb2:l[a].q with
    | true=>rw [hb2,if_pos rfl] at e; exact .inl ⟨_,rfl,a+1,by omega,by omega,by simp,e⟩
    | false=>rw [hb2,if_neg (by simp)] at e; right; rw [<- e]; rfl
   ·rintro _ ⟨a,ha,hal,rfl,e⟩;obtain rfl:a=l.length:=by omega
    unfold gn;rw [sJ] at e;rw [bB h,<- e];simp [Hy,hb]
  rw [h1];simp only [al];unfold na m9;rw [ki (by omega) (by omega),show ((n:Int)+1)=((n+1:Nat):Int) by omega,h2];simp [blk,hr]
structure GB (ring:Bool) (k:Nat) (b:Int) (a:dz):Prop where
 low:0<=a.N
 cell:a.w=true->a.N<4
 rule:a.w=false->a.N<b
 pick:a.v1=true->ring=false/\0<k
 low2:0<=a.d1
 cell2:a.w=true->a.d1<4
 rule2:a.w=false->a.d1<b
 none:a.v1=false->a.d1=0
structure IL (b:Int) (r:aL):Prop where
 asks:r.c.length<=3
 each:∀ k a,r.c[k]? = some a->GB r.q k b a
 ring:r.q=true->r.j=5/\0<=r.C/\r.C<=16
 plain:r.q=false->1<=r.j/\r.j<=4/\0<=r.C/\r.C<=16
def B5 (rs:List Bool) (i:Nat):Nat:=if rs[i]? = some true then (blk rs i).2 else i
structure bk (l:List aL):Prop where
 low:1<=l.length
 high:l.length<=8
 each:∀ i r,l[i]? = some r->IL (B5 (aW l) i) r
def IH (ring:Bool) (b k:Int) (ks:List dz):Fl (Int×List Int×Int×List dz) (List Int×Int×List dz)->Prop
 | .go s=>s.1=k-1/\di s.2.1 s.2.2.1/\∃ a,GB ring ks.length b a/\s.2.2.2=ks++[a]
 | .out _=>False
section
variable {ring:Bool} {b k:Int} {ks:List dz} {cell:Bool} {most n:Int} {l:List Int} {i:Int}
theorem TC {pick:Bool} {e:Int} (ha:GB ring ks.length b ⟨cell,pick,n,e⟩) (hd:di l i) (O:1<=k/\k<=3) (hl:ks.length<=3):Ok (mf k ks cell n l i pick e) (IH ring b k ks):=by
 unfold mf rP;exact cY (eZ (by simp; omega)) (aq ⟨ki (by omega) (by omega),hd,_,ha,rfl⟩)
theorem TD {g:Bool} (hg:g=true->ring=false/\0<ks.length) (hn:0<=n/\n<most) (hc:cell=true->most=4) (hr:cell=false->most=b) (hm:1<=most/\most<=8) (hd:di l i) (O:1<=k/\k<=3) (hl:ks.length<=3) :
  Ok (jZ k ks cell most n g l i) (IH ring b k ks):=by
 unfold jZ;refine aS (fun e=>aP (fJ hd (by omega) (by omega)) fun r hr2=>TC ⟨hn.1,fun h=>?_,fun h=>?_,fun _=>hg e,hr2.1,fun h=>?_,fun h=>?_,fun h=>by cases h⟩ hr2.2.2 O hl)
  (fun e=>TC ⟨hn.1,fun h=>?_,fun h=>?_,fun h=>(by cases h),by simp,fun h=>(by simp),fun h=>?_,fun h=>rfl⟩ hd O hl)
 all_goals first
  | (have:=hc h; simp only []; omega)
  | (have:=hr h; simp only []; omega)
theorem TE (hn:0<=n/\n<most) (hc:cell=true->most=4) (hr:cell=false->most=b) (hm:1<=most/\most<=8) (hd:di l i) (O:1<=k/\k<=3) (hl:ks.length<=3) :
  Ok (mg ring k ks cell most l i n) (IH ring b k ks):=by
 unfold mg;refine aS (fun e=>aS (fun e2=>aP (fJ hd (by omega) (by omega)) fun r hr2=>TD (fun _=>⟨by simpa using e,by simpa using e2⟩) hn hc hr hm hr2.2.2 O hl) (fun e2=>?_)) (fun e=>?_)
 all_goals exact TD (fun h=>by cases h) hn hc hr hm hd O hl
theorem TF (hc:cell=true->most=4) (hr:cell=false->most=b) (hm:1<=most/\most<=8) (hd:di l i) (O:1<=k/\k<=3) (hl:ks.length<=3) :
  Ok (mi ring k ks l i cell most) (IH ring b k ks):=by
 unfold mi;refine aP (fJ hd (by omega) (by omega)) fun r h1=>?_;have h8:∀ {g:Bool} {l2:List Int} {i2:Int},di l2 i2->Ok (mh ring k ks cell most r g l2 i2) (IH ring b k ks):=fun {g l2 i2} h2=>by
  unfold mh;refine aS (fun _=>aP (fJ h2 (by omega) (by omega)) fun q h3=>?_) (fun _=>TE ⟨h1.1,h1.2.1⟩ hc hr hm h2 O hl);have:=h3.1; have:=h3.2.1;rw [show IntKind.i64.wrap (most-1)=most-1 from ki (by omega) (by omega),ki (by omega) (by omega)];exact TE ⟨by omega,by omega⟩ hc hr hm h3.2.2 O hl
 refine aS (fun _=>aP (fJ h1.2.2 (by omega) (by omega)) fun q h3=>h8 h3.2.2) (fun _=>h8 h1.2.2)
theorem TG (hb:0<=b/\b<=8) (hd:di l i) (O:1<=k/\k<=3) (hl:ks.length<=3):Ok (kQ b ring k l i ks) (IH ring b k ks):=by
 unfold kQ;refine aS (fun _=>aP (fJ hd (by omega) (by omega)) fun r h1=>?_) (fun e=>by simp at e; omega);have h10:∀ {c:Bool},(c=false->1<=b)->Ok (kN b ring k ks r.2.L r.2.k1 c) (IH ring b k ks):=fun {c} h=>by
  unfold kN;exact aS (fun e=>by subst e; exact TF (fun _=>rfl) (fun h=>by cases h) ⟨by omega,by omega⟩ h1.2.2 O hl) (fun e=>by subst e; exact TF (fun h=>by cases h) (fun _=>rfl) ⟨h rfl,hb.2⟩ h1.2.2 O hl)
 exact aS (fun _=>h10 fun h=>by cases h) (fun _=>h10 fun h=>by simp at h; omega)
end
def Qq (l:List aL) (n:Nat) (ring:Bool) (b:Int):Fl (List aL×Int×List Int×Int) (List aL×List Int×Int)->Prop
 | .go s=>(∃ r,IL b r/\r.q=ring/\s.1=l.set n r)/\s.2.1=n+1/\di s.2.2.1 s.2.2.2
 | .out _=>False
theorem P7 {l:List aL} {n:Nat} (h:n<l.length) (hl:l.length<=8) {b:Int} (hb:0<=b/\b<=8) {ring:Bool} {d:List Int} {i:Int} (hd:di d i) {f c:Int}
  (h5:ring=true->f=5/\0<=c/\c<=16) (h6:ring=false->1<=f/\f<=4/\0<=c/\c<=16):Ok (kO l n b ring d i f c) (Qq l n ring b):=by
 unfold kO;refine aP (fJ hd (by omega) (by omega)) fun r h1=>?_;refine bL (fun k s=>s.1=r.1-k/\s.2.2.2.length=k/\di s.2.1 s.2.2.1/\∀ j a,s.2.2.2[j]? = some a->GB ring j b a) (fun q=>q.2.2.length<=3/\di q.1 q.2.1/\∀ j a,q.2.2[j]? = some a->GB ring j b a) r.1.toNat
  ⟨by simp,rfl,h1.2.2,fun j a e=>by simp at e⟩ (fun k s O hI=>?_) (fun q hq=>?_)
 ·obtain⟨e1,e2,e3,e4⟩:=hI;have:=h1.1; have:=h1.2.1;by_cases hz:(0:Int)<s.1
  ·refine (TG hb e3 ⟨by omega,by omega⟩ (by omega)).mono fun y hy=>?_;cases y with
   | out q=>exact hy.elim
   | go s2 =>
    obtain⟨g1,g2,a,g3,g4⟩:=hy;refine⟨by omega,by omega,by rw [g4]; simp; omega,g2,fun j x hx=>?_⟩;rw [g4] at hx;by_cases hj:j<s.2.2.2.length
    ·rw [jm hj] at hx; exact e4 j x hx
    ·rw [jn (by omega)] at hx;obtain rfl:j=s.2.2.2.length:=by
      rcases e9 s.2.2.2.length j with h | h
      ·rw [vu (by simp; omega)] at hx; cases hx
      ·omega
     simp at hx; subst hx; exact g3
  ·unfold kQ;rw [show decide ((0:Int)<s.1)=false by simpa using hz];exact aq ⟨by simp only []; omega,e3,e4⟩
 ·unfold oN rO;refine y9 (by omega) (by omega) fun v _ _=>aq ⟨⟨⟨ring,q.2.2,f,c⟩,⟨hq.1,hq.2.2,h5,h6⟩,rfl,by simp⟩,ki (by omega) (by omega),hq.2.1⟩
theorem TH {l:List aL} {n:Nat} (h:n<l.length) (hl:l.length<=8) {d:List Int} {i:Int} (hd:di d i) (l0:List aL) (h0:l0.length=l.length):Ok (kR l0 l n d i) (Qq l n l[n].q (B5 (aW l) n)):=by
 unfold kR;rw [show decide ((n:Int)<(l0.length:Int))=true by simp; omega,ET h (by omega)];simp only [cond_true,al];rw [bB h];simp only [al];have hb:=IR (rs:=aW l) (n:=n) (by simpa [aW] using h);have hlen:(aW l).length=l.length:=by simp [aW]
 have h14:∀ {b:Int},0<=b/\b<=8->Ok (kP l n d i b) (Qq l n l[n].q b):=fun {b} hb=>by
  unfold kP;rw [bB h,al];refine aP (fJ hd (by omega) (by omega)) fun r h1=>aP (fJ h1.2.2 (by omega) (by omega)) fun q h2=>?_;have:=h1.1; have:=h1.2.1; have:=h2.1; have:=h2.2.1;rw [ki (by omega) (by omega)];unfold qp;refine aS (fun e=>aP (fJ h2.2.2 (by omega) (by omega)) fun p h3=>y9 h3.1 (by simpa using h3.2.1) fun v _ hv=>?_) (fun e=>?_)
  ·refine P7 h hl hb h3.2.2 (fun _=>⟨rfl,?_⟩) (fun e2=>by rw [e] at e2; cases e2);simp only [bC,cF,or_false] at hv;omega
  ·exact P7 h hl hb h2.2.2 (fun e2=>by rw [e] at e2; cases e2) (fun _=>⟨by omega,by omega,by omega,by omega⟩)
 have hr:=lj h;unfold B5;rw [hr];cases e:l[n].q with
 | true=>rw [e] at h14; simp only [eE,cond_false,if_true]; exact h14 ⟨by omega,by omega⟩
 | false=>rw [e] at h14 hr; rw [uS hr]; simp only [mL,cond_true]; exact h14 ⟨by omega,by omega⟩
theorem Lj {l:List aL} {n:Nat} {r:aL} (h:n<l.length) (e:r.q=l[n].q):aW (l.set n r)=aW l:=by
 unfold aW;rw [List.map_set,e];apply List.ext_getElem (by simp);intro j h1 h2;by_cases hj:n=j
 ·subst hj; simp
 ·simp [hj]
theorem Nj {d:List Int} {i:Int} (hd:di d i):Ok (tL ⟨d,i⟩) fun y=>bk y.1/\di y.2.L y.2.k1:=by
 unfold tL;refine aP (fJ hd (by omega) (by omega)) fun r h1=>?_;have:=h1.1; have:=h1.2.1;rw [ki (by omega) (by omega)];refine bL (fun k s=>s.1.length=k/\s.2.1=2+r.1-k/\di s.2.2.1 s.2.2.2) (fun q=>2<=q.1.length/\q.1.length<=8/\di q.2.1 q.2.2) (2+r.1).toNat ⟨rfl,by simp,h1.2.2⟩ (fun k s O hI=>?_) (fun q hq=>?_)
 ·obtain⟨e1,e2,e3⟩:=hI;unfold qq;refine aS (fun e=>aP (fJ e3 (by omega) (by omega)) fun q h2=>cY (eZ (by simp; omega)) (aq ?_)) (fun e=>aq ?_)
  ·have e:(0:Int)<s.2.1:=by simpa using e
   exact⟨by omega,by simp [e1],by dsimp only; rw [ki (by omega) (by omega)]; omega,h2.2.2⟩
  ·have e:¬ (0:Int)<s.2.1:=by simpa using e
   exact⟨by dsimp only; omega,by dsimp only; omega,e3⟩
 ·obtain⟨q1,q2,q3⟩:=hq;unfold m5;refine bL (fun k s=>s.1.length=q.1.length/\s.2.1=k/\di s.2.2.1 s.2.2.2/\aW s.1=aW q.1/\∀ j r,j<k->s.1[j]? = some r->IL (B5 (aW q.1) j) r) (fun p=>bk p.1/\di p.2.1 p.2.2) q.1.length ⟨rfl,rfl,q3,rfl,fun j r h=>by omega⟩ (fun k s O hI=>?_) (fun p hp=>?_)
  ·obtain⟨e1,e2,e3,e4,e5⟩:=hI;by_cases hz:k<q.1.length
   ·have hz1:k<s.1.length:=by omega
    rw [e2];refine (TH hz1 (by omega) e3 q.1 e1.symm).mono fun y hy=>?_;cases y with
    | out q=>exact hy.elim
    | go s2 =>
     obtain⟨⟨x,g1,g2,g3⟩,g4,g5⟩:=hy;refine⟨hz,by rw [g3]; simpa using e1,by rw [g4]; simp,g5,by rw [g3,Lj hz1 g2]; exact e4,fun j r hj hr=>?_⟩;rw [g3] at hr;by_cases hjk:k=j
     ·subst hjk;rw [Ag hz1] at hr;injection hr with hr; subst hr;rw [e4] at g1; exact g1
     ·rw [Af hjk] at hr;exact e5 j r (by omega) hr
   ·unfold kR;rw [show decide ((s.2.1:Int)<(q.1.length:Int))=false by simp; omega];refine aq ⟨⟨by simp only []; omega,by simp only []; omega,fun j r hr=>?_⟩,e3⟩;rw [e4];exact e5 j r (by have:=(bR.1 hr).1; dsimp only at this; omega) hr
  ·unfold oM;exact aq hp
def CQ (rs:List Bool) (i:Nat) (cell:Bool) (n:Int):Bool:=decide (0<=n)&&cond cell (decide (n<=15)) (decide (n<(B5 rs i:Int)))
theorem C5 {l:List aL} {i:Nat} (h:i<l.length) (hl:l.length<=1000000) (x:dz) (n:Int):tf l (i:Int) x n=some (CQ (aW l) i x.w n):=by
 unfold tf CQ;cases x.w with
 | true =>
  rw [cond_true,cond_true];cases decide (0<=n) <;> rfl
 | false =>
  rw [cond_false,cond_false,ET h hl,al];dsimp only;have hr:=lj h;rw [bB h,al];unfold B5;rw [hr];cases hg:l[i].q with
  | true =>
   rw [if_pos rfl];unfold n3 nZ;cases decide (0<=n) <;> rfl
  | false =>
   rw [hg] at hr;rw [if_neg (by simp),uS hr];unfold n3 nZ;cases decide (0<=n) <;> rfl
def KD (rs:List Bool) (i:Nat) (ring first:Bool) (a:dz):Bool:=CQ rs i a.w a.N&&cond a.v1 (!ring && !first&&CQ rs i a.w a.d1) ((a.d1:Int)==0)
theorem vO {ρ:Type} {B:Int->Option (Fl Int ρ)} (n:Nat) (p:Nat->Bool) {y r:ρ} (hgo:∀ k,k<n->p k=false->B (k:Int)=some (.go ((k+1:Nat):Int))) (hy:∀ k,k<n->p k=true->B (k:Int)=some (.out y)) (hn:B (n:Int)=some (.out r)):loop B 0=some (if (List.range n).any p then y else r):=by
 have hx:∀ (k x:Nat),(List.range n)[k]? = some x->x=k/\k<n:=fun k x h=>by
  have O:=aU h;simp only [List.length_range] at O;rw [List.getElem?_range O] at h;exact⟨(bJ h).symm,O⟩
 refine xf (xs:=List.range n) p (fun k=>(k:Int)) rfl (fun k x h hp=>?_) (fun k x h hp=>?_) (by simpa using hn)
 ·obtain⟨rfl,O⟩:=hx k x h;exact hgo _ O hp
 ·obtain⟨rfl,O⟩:=hx k x h;exact hy _ O hp
def DU (rs:List Bool) (i:Nat) (r:aL) (k:Nat):Bool:=match r.c[k]? with
 | some a=>!KD rs i r.q (((k:Nat):Int)==0) a
 | none=>false
def za (rs:List Bool) (i:Nat) (r:aL):Bool:=!((List.range r.c.length).any (DU rs i r))
def Bt (rs:List Bool) (i:Nat) (r:aL) (low high most:Int):Bool:=!decide ((6:Int)<(r.c.length:Int)) && !decide (r.j<low) && !decide (high<r.j) && !decide (r.C<0) && !decide (most<r.C)&&za rs i r
def H4 (rs:List Bool) (i:Nat) (r:aL):Bool:=cond r.q (Bt rs i r 5 5 65535) (Bt rs i r 1 4 999)
def RC (l:List aL):Prop:=l.length<=1000/\∀ r∈l,r.c.length<=1000
theorem M8 {l:List aL} {i:Nat} (h:i<l.length) (hl:RC l):loop (fun s:Int=>gq l (i:Int) l[i] s) 0=some (cond (za (aW l) i l[i]) (Fl.go ()) (Fl.out false)):=by
 have U:=hl.2 _ (dG h);have hB:=hl.1;have hstep:∀ k,(O:k<l[i].c.length)->gq l (i:Int) l[i] (k:Int)=some (cond (DU (aW l) i l[i] k) (.out (.out false)) (.go ((k+1:Nat):Int))):=fun k O=>by
  unfold DU;rw [bh O];dsimp only;unfold gq KD fi;rw [dlt O,cond_true,bB O,al,C5 h (by omega),C5 h (by omega),cy (by omega)];simp only [al,bne];generalize (((k:Nat):Int)==0)=f;generalize ((l[i].c[k].d1:Int)==0)=z;generalize CQ (aW l) i l[i].c[k].w l[i].c[k].N=m1;generalize CQ (aW l) i l[i].c[k].w l[i].c[k].d1=m2;generalize l[i].c[k].v1=pk;generalize l[i].q=rg;cases pk <;> cases rg <;> cases f <;> cases m1 <;> cases m2 <;> cases z <;> rfl
 have e:=vO (B:=fun s:Int=>gq l (i:Int) l[i] s) l[i].c.length (DU (aW l) i l[i]) (y:=Fl.out false) (r:=Fl.go ()) (fun k O hp=>by rw [hstep k O,hp]; rfl) (fun k O hp=>by rw [hstep k O,hp]; rfl) (by unfold gq; rw [bZ]; rfl);rw [e];unfold za;cases (List.range l[i].c.length).any (DU (aW l) i l[i]) <;> rfl
def DV (l:List aL) (k:Nat):Bool:=match l[k]? with
 | some r=>!H4 (aW l) k r
 | none=>false
def AY (l:List aL):Bool:=decide ((l.length:Int)<=24) && !((List.range l.length).any (DV l))
theorem Lg {l:List aL} (hl:RC l):sd l=some (AY l):=by
 have hB:=hl.1;unfold sd AY;have hstep:∀ k,(O:k<l.length)->i7 l (k:Int)=some (cond (DV l k) (.out (.out false)) (.go ((k+1:Nat):Int))):=fun k O=>by
  have hj:i6 (k:Int) l[k]=some (cond ((cond l[k].q (!decide (l[k].j<5) && !decide (5<l[k].j) && !decide (l[k].C<0) && !decide (65535<l[k].C)) (!decide (l[k].j<1) && !decide (4<l[k].j) && !decide (l[k].C<0) && !decide (999<l[k].C)))) (.go ((k+1:Nat):Int)) (.out (.out false))):=by
   unfold i6 dL qA;rw [cy (by omega)];cases hrg:l[k].q
   ·cases decide (l[k].j<1) <;> cases decide (4<l[k].j) <;> cases decide (l[k].C<0) <;> cases decide (999<l[k].C) <;> rfl
   ·by_cases h5:l[k].j=5
    ·rw [show ((l[k].j:Int) != 5)=false by simp [h5],decide_eq_false (show ¬ l[k].j<5 by omega),decide_eq_false (show ¬ 5<l[k].j by omega)];cases decide (l[k].C<0) <;> cases decide (65535<l[k].C) <;> rfl
    ·rw [show ((l[k].j:Int) != 5)=true by simp [h5]];rcases (show l[k].j<5∨5<l[k].j by omega) with h | h
     ·rw [decide_eq_true h]; rfl
     ·rw [decide_eq_true h]; simp
  unfold DV;rw [bh O];dsimp only;unfold i7 H4 Bt;rw [dlt O,cond_true,bB O,al,M8 O hl,al];have hel:∀ z:Bool,(cond z (Fl.go ()) (Fl.out false):Fl Unit Bool).el (fun s=>i6 (k:Int) l[k]) (fun y=>some (.out (.out y)))=cond z (i6 (k:Int) l[k]) (some (.out (.out false))):=fun z=>by cases z <;> rfl
  rw [hel,hj];generalize za (aW l) k l[k]=z;generalize decide ((6:Int)<(l[k].c.length:Int))=d6;cases l[k].q
  ·simp only [cond_false];generalize decide (l[k].j<1)=d1;generalize decide (4<l[k].j)=d2;generalize decide (l[k].C<0)=d3;generalize decide (999<l[k].C)=d4;cases z <;> cases d6 <;> cases d1 <;> cases d2 <;> cases d3 <;> cases d4 <;> rfl
  ·simp only [cond_true];generalize decide (l[k].j<5)=d1;generalize decide (5<l[k].j)=d2;generalize decide (l[k].C<0)=d3;generalize decide (65535<l[k].C)=d4;cases z <;> cases d6 <;> cases d1 <;> cases d2 <;> cases d3 <;> cases d4 <;> rfl
 rw [vO (B:=fun s:Int=>i7 l s) l.length (DV l) (y:=Fl.out false) (r:=Fl.go ()) (fun k O hp=>by rw [hstep k O,hp]; rfl) (fun k O hp=>by rw [hstep k O,hp]; rfl) (by unfold i7; rw [bZ]; rfl)];unfold qz;cases (List.range l.length).any (DV l) <;> simp [Fl.el]
theorem CP {l:List aL} (h:bk l):AY l=true:=by
 unfold AY;have h8:=h.high;rw [decide_eq_true (by omega),t6,sw,Iv];intro i hi;have hi:=A1.1 hi;unfold DV;have hg:=bh hi;rw [hg];dsimp only;have C:=h.each i l[i] hg;have ha:za (aW l) i l[i]=true:=by
  unfold za;rw [sw,Iv];intro k O;have O:=A1.1 O;unfold DU;have hka:=bh O;rw [hka];dsimp only;have U:=C.each k _ hka;generalize l[i].c[k]=a at U;unfold KD CQ;have hn:=U.low;have he:=U.low2;rw [decide_eq_true hn,decide_eq_true he,t6,t6];have c1:cond a.w (decide (a.N<=15)) (decide (a.N<(B5 (aW l) i:Int)))=true:=by
   cases hc:a.w
   ·exact decide_eq_true (U.rule hc)
   ·have:=U.cell hc;exact decide_eq_true (by omega)
  have c2:cond a.w (decide (a.d1<=15)) (decide (a.d1<(B5 (aW l) i:Int)))=true:=by
   cases hc:a.w
   ·exact decide_eq_true (U.rule2 hc)
   ·have:=U.cell2 hc;exact decide_eq_true (by omega)
  rw [c1,c2,t6];cases hp:a.v1
  ·rw [U.none hp]; simp
  ·obtain⟨p1,p2⟩:=U.pick hp;rw [p1,show (((k:Nat):Int)==0)=false by simp; omega]; simp
 have hb:H4 (aW l) i l[i]=true:=by
  have hl:=C.asks;unfold H4 Bt;rw [ha,decide_eq_false (show ¬ (6:Int)<(l[i].c.length:Int) by omega)];cases hr:l[i].q
  ·obtain⟨q1,q2,q3,q4⟩:=C.plain hr;rw [cond_false,decide_eq_false (show ¬ l[i].j<1 by omega),decide_eq_false (show ¬ 4<l[i].j by omega),decide_eq_false (show ¬ l[i].C<0 by omega),decide_eq_false (show ¬ 999<l[i].C by omega)]; rfl
  ·obtain⟨q1,q2,q3⟩:=C.ring hr;rw [cond_true,decide_eq_false (show ¬ l[i].j<5 by omega),decide_eq_false (show ¬ 5<l[i].j by omega),decide_eq_false (show ¬ l[i].C<0 by omega),decide_eq_false (show ¬ 65535<l[i].C by omega)]; rfl
 rw [hb]; decide
theorem bk.bnd {l:List aL} (h:bk l):RC l:=⟨by have:=h.high; omega,fun r hr=>by
 obtain⟨i,hi⟩:=dt.1 hr;have:=(h.each i r hi).asks; omega⟩
end
section
open Go.Lib hiding intOf
def iQ (s:ByteArray):Int:=if tz s.toList<0 then 0 else if 65535<tz s.toList then 0 else tz s.toList
theorem Ih (s:ByteArray):pP s=some (iQ s):=by
 unfold pP iQ;rw [Mj,al];by_cases h1:tz s.toList<0
 ·simp [h1]
 ·by_cases h2:65535<tz s.toList
  ·simp [h1,h2]
  ·simp [h1,h2]
theorem kh (s:ByteArray):0<=iQ s/\iQ s<=65535:=by
 unfold iQ;split
 ·omega
 ·split <;> omega
theorem tW {n:Nat} (h:n<65536):iQ (cV n)=n:=by
 unfold iQ;rw [tG,oJ,Cw (by omega),if_neg (by omega),if_neg (by omega)]
theorem xZ:∀ {l:List Int},(∀ x∈l,0<=x/\x<=65535)->0<=l.sum/\l.sum<=65535*l.length
 | [],_=>by simp
 | a::l,h=>by
  have h1:=xZ (l:=l) fun x hx=>h x (lp _ hx);have h2:=h a dF;simp only [List.sum_cons,dx];omega
def w7 (r:aL) (ls:List ByteArray):Int :=
 let s:=r.C+(ls.map iQ).sum
 if r.j=1 then s.tmod 1000 else if r.j=2 then (s.tdiv 2).tmod 1000 else if r.j=3 then (ls.map iQ).foldl max r.C else if r.j=4 then s.tmod 2 else (ls.map iQ).foldl (fun a b=>w8 .or .i64 a b) r.C
theorem Pa {α:Type} {l:List α} {k:Nat} (h:k<l.length):l.take (k+1)=l.take k++[l[k]]:=by rw [List.take_add_one,bh h]; rfl
theorem Ms {r:aL} {ls:List ByteArray} (hc:0<=r.C/\r.C<=65535) (hl:ls.length<=1000):se r ls=some (w7 r ls):=by
 have hb:∀ x∈ls.map iQ,0<=x/\x<=65535:=fun x hx=>by
  obtain⟨s,_,rfl⟩:=cL.1 hx;exact kh s
 have h1:loop (fun s:Int×Int×Int×Int=>kZ ls s.1 s.2.1 s.2.2.1 s.2.2.2) (r.C,r.C,r.C,0)=some (r.C+(ls.map iQ).sum,(ls.map iQ).foldl max r.C,(ls.map iQ).foldl (fun a b=>w8 .or .i64 a b) r.C):=by
  refine xT (I:=fun k s=>s=(r.C+((ls.take k).map iQ).sum,((ls.take k).map iQ).foldl max r.C,((ls.take k).map iQ).foldl (fun a b=>w8 .or .i64 a b) r.C,(k:Int))) _ ls.length ?_ ?_ (by simp)
  ·rintro k _ O rfl;left;refine⟨_,?_,rfl⟩;unfold kZ;have hs:=xZ (l:=(ls.take k).map iQ) fun x hx=>by
    obtain⟨s,_,rfl⟩:=cL.1 hx;exact kh s
   have hlen:((ls.take k).map iQ).length<=1000:=by rw [iq,gQ]; omega
   have hx:=kh ls[k];dsimp only;rw [dlt O,cond_true,bB O,al,Ih,al,ki (by omega) (by omega),ki (by omega) (by omega),Pa O];simp only [wF,vw,BC,List.sum_append,List.foldl_append,IA,List.foldl_nil,List.sum_cons,List.sum_nil,Int.add_zero,Int.natCast_add,Int.natCast_one,Int.add_assoc]
  ·rintro _ rfl;unfold kZ;rw [bZ];simp
 have hs:=xZ hb;rw [iq] at hs;unfold se nb w7;rw [h1,al];simp only [];by_cases f1:r.j=1
 ·simp [f1]
 ·by_cases f2:r.j=2
  ·have ht:0<=(r.C+(ls.map iQ).sum).tdiv 2/\(r.C+(ls.map iQ).sum).tdiv 2<=r.C+(ls.map iQ).sum:=by
    rw [Int.tdiv_eq_ediv_of_nonneg (by omega)]; omega
   simp only [f2];rw [ki (by omega) (by omega)];simp
  ·by_cases f3:r.j=3
   ·simp [f3]
   ·by_cases f4:r.j=4
    ·simp [f4]
    ·have hb:∀ n:Int,r.j≠n->(r.j==n)=false:=fun n h=>by simpa using h
     rw [hb 1 f1,hb 2 f2,hb 3 f3,hb 4 f4];simp [f1,f2,f3,f4]
theorem Tu {a b:Nat} (ha:a<65536) (hb:b<65536):w8 .or .i64 (a:Int) (b:Int)=((a ||| b:Nat):Int)/\a ||| b<65536:=by
 have h:=Nat.or_lt_two_pow (n:=16) ha hb;refine⟨?_,h⟩;unfold w8;simp only [show IntKind.i64.bits=64 from rfl];rw [BitVec.toNat_or,BitVec.toNat_ofInt,BitVec.toNat_ofInt,show ((a:Int) % ((2 ^ IntKind.i64.bits:Nat):Int)).toNat=a by rw [show IntKind.i64.bits=64 from rfl]; omega,show ((b:Int) % ((2 ^ IntKind.i64.bits:Nat):Int)).toNat=b by rw [show IntKind.i64.bits=64 from rfl]; omega];exact ki (by omega) (by omega)
theorem FL:∀ (l:List Nat) (a:Nat),(∀ x∈l,x<=65535)->a<65536->(l.map fun x:Nat=>(x:Int)).foldl (fun a b=>w8 .or .i64 a b) (a:Int)=((l.foldl (· ||| ·) a:Nat):Int)/\l.foldl (· ||| ·) a<65536
 | [],a,_,ha=>⟨rfl,ha⟩
 | x::l,a,h,ha=>by
  have hx:=h x dF;obtain⟨h1,h2⟩:=Tu ha (show x<65536 by omega);simp only [vw,IA,h1];exact FL l _ (fun y hy=>h y (lp _ hy)) h2
theorem yD {l:List aL} {n:Nat} {r:aL} (C:bk l) (h:l[n]? = some r) {ls:List ByteArray} (hl:ls.length<=3):∃ m:Nat,w7 r ls=m/\m<65536:=by
 have hb:∀ x∈ls.map iQ,0<=x/\x<=65535:=fun x hx=>by
  obtain⟨s,_,rfl⟩:=cL.1 hx;exact kh s
 have hs:=xZ hb;rw [iq] at hs;have hr:=C.each n r h;unfold w7;dsimp only;cases hg:r.q with
 | false =>
  obtain⟨h1,h2,h3,h4⟩:=hr.plain hg;have key:∀ z:Int,0<=z->z<65536->∃ m:Nat,z=m/\m<65536:=fun z h1 h2=>⟨z.toNat,by omega,by omega⟩;by_cases f1:r.j=1
  ·rw [if_pos f1];refine key _ (Fe _ (by omega)) ?_;have:=Fd (r.C+(ls.map iQ).sum) (b:=1000) (by omega);omega
  ·rw [if_neg f1];by_cases f2:r.j=2
   ·rw [if_pos f2];have ht:0<=(r.C+(ls.map iQ).sum).tdiv 2:=by rw [Int.tdiv_eq_ediv_of_nonneg (by omega)]; omega
    refine key _ (Fe _ ht) ?_;have:=Fd ((r.C+(ls.map iQ).sum).tdiv 2) (b:=1000) (by omega);omega
   ·rw [if_neg f2];by_cases f3:r.j=3
    ·rw [if_pos f3];have hm:∀ (xs:List Int) (c:Int),(∀ x∈xs,0<=x/\x<=65535)->0<=c->c<=65535->0<=xs.foldl max c/\xs.foldl max c<=65535:=by
      intro xs
      induction xs with
      | nil=>intro c _ h1 h2; exact⟨h1,h2⟩
      | cons x xs ih =>
       intro c hx h1 h2;have:=hx x dF;exact ih _ (fun y hy=>hx y (lp _ hy)) (by omega) (by omega)
     have:=hm (ls.map iQ) r.C hb (by omega) (by omega);exact key _ this.1 (by omega)
    ·rw [if_neg f3,if_pos (by omega)];refine key _ (Fe _ (by omega)) ?_;have:=Fd (r.C+(ls.map iQ).sum) (b:=2) (by omega);omega
 | true =>
  obtain⟨h1,h2,h3⟩:=hr.ring hg;rw [if_neg (by omega),if_neg (by omega),if_neg (by omega),if_neg (by omega)];obtain⟨c,hc⟩:∃ c:Nat,r.C=c:=⟨r.C.toNat,by omega⟩;have e:ls.map iQ=(ls.map fun s=>(iQ s).toNat).map fun x:Nat=>(x:Int):=by
   rw [BB];refine Fk fun s _=>?_;have:=kh s;simp only [Function.comp];omega
  rw [e,hc];have:=FL (ls.map fun s=>(iQ s).toNat) c (fun x hx=>by
   obtain⟨s,_,rfl⟩:=cL.1 hx;have:=kh s;omega) (by omega)
  exact⟨_,this.1,this.2⟩
end
section
open Go.Lib hiding intOf
variable {l:List ar} {r:ar}
def Fq (l:List ae):Prop:=l.Pairwise fun a b=>bV a b<0
theorem HF:∀ {a b:List ae},Fq a->Fq b->(∀ x,x∈a↔x∈b)->a=b
 | [],[],_,_,_=>rfl
 | [],y::b,_,_,h=>by have:=(h y).2 dF; cases this
 | x::a,[],_,_,h=>by have:=(h x).1 dF; cases this
 | x::a,y::b,ha,hb,h=>by
  have ha':=jl.1 ha;have hb':=jl.1 hb;have e:x=y:=by
   rcases bC.1 ((h x).1 dF) with e | h1
   ·exact e
   ·rcases bC.1 ((h y).2 dF) with e | h2
    ·exact e.symm
    ·exact absurd (hb'.1 x h1) (As (ha'.1 y h2))
  subst e;rw [HF ha'.2 hb'.2 fun z=>?_];constructor
  ·intro hz;rcases bC.1 ((h z).1 (lp _ hz)) with e | h1
   ·subst e; exact absurd (ha'.1 z hz) w9
   ·exact h1
  ·intro hz;rcases bC.1 ((h z).2 (lp _ hz)) with e | h1
   ·subst e; exact absurd (hb'.1 z hz) w9
   ·exact h1
structure wi (l m:List ae):Prop where
 asc:Fq m
 mem:∀ x,x∈m↔x∈l
 len:m.length<=l.length
def NY (l:List ar):Prop:=Rm l.length/\∀ r∈l,Rm r.v.length
def Cd (l:List ar):Prop:=l.Pairwise fun a b=>bV a.b b.b<0
def eY (l:List ar) (r:ar):List ar:=(l.filter fun x=>decide (bV x.b r.b<0))++r::(l.filter fun x=>decide (0<bV x.b r.b))
theorem Au (a:ae):fa a a=true:=fc.2 rfl
theorem EG (a b:ae):fa a b=fa b a:=by
 by_cases h:a=b
 ·rw [h]
 ·rw [xQ.2 h,xQ.2 fun e=>h e.symm]
def U8:ar:=⟨⟨0,⟨#[]⟩⟩,⟨#[]⟩,[],0,0,0,false⟩
def bj (l:List ar) (k:ae):ar×Bool:=match l.find? (fun r=>fa r.b k) with | some r=>(r,true) | none=>(U8,false)
theorem JW {α:Type} {p:α->Bool} {l:List α} {k:Nat} {x:α} (h1:l[k]? = some x) (h2:p x=true) (h3:∀ j z,j<k->l[j]? = some z->p z=false):l.find? p=some x:=by
 obtain⟨h,e⟩:=bR.1 h1;have:l=l.take k++x::l.drop (k+1):=by rw [<- e]; simp
 rw [this,List.find?_append,List.find?_cons_of_pos h2];have:(l.take k).find? p=none:=by
  rw [DK];intro z hz;obtain⟨j,hj⟩:=dt.1 hz;rw [pY] at hj;split at hj
  ·rename_i hjk;rw [h3 j z hjk hj]; simp
  ·cases hj
 rw [this]; rfl
theorem rF (a b:ae):mj a b=some (bV a b):=by
 unfold mj bV pE;by_cases h1:a.k<b.k
 ·simp [h1]
 ·by_cases h2:b.k<a.k <;> simp [h1,h2]
theorem tw (h:Rm r.v.length):iA r=some r:=by
 unfold iA Rm at *;rw [show cm (([]:List ae).length+r.v.length)=true from eZ (by simp; omega)]; rfl
theorem Lh (h:Cd l) (hl:Rm l.length) (hr:Rm r.v.length):rv l r=some (eY l r):=by
 unfold Rm at hl;have hpl:∀ i,((l.take i).filter fun x=>decide (bV x.b r.b<0)).length+((l.take i).filter fun x=>decide (0<bV x.b r.b)).length<=l.length:=fun i=>by
  have h1:∀ m:List ar,(m.filter fun x=>decide (bV x.b r.b<0)).length+(m.filter fun x=>decide (0<bV x.b r.b)).length<=m.length:=by
   intro m
   induction m with
   | nil=>simp
   | cons y m ih =>
    by_cases a:bV y.b r.b<0
    ·rw [xF (by simpa using a),t7 (by simp; omega)]; simp only [dx]; omega
    ·by_cases b:0<bV y.b r.b
     ·rw [t7 (by simpa using a),xF (by simpa using b)]; simp only [dx]; omega
     ·rw [t7 (by simpa using a),t7 (by simpa using b)]; simp only [dx]; omega
  have:=h1 (l.take i);rw [gQ] at this; omega
 have key:Ok (rv l r) fun y=>y=eY l r:=by
  unfold rv;refine bL (fun n t=>n<=l.length/\t.2.2=(n:Int)/\((t.1=l.take n/\t.2.1=false/\∀ x∈l.take n,bV x.b r.b<0)∨(t.1=eY (l.take n) r/\t.2.1=true/\∃ x∈l.take n,¬ bV x.b r.b<0)))
   (fun t=>(t.1=l/\t.2=false/\∀ x∈l,bV x.b r.b<0)∨(t.1=eY l r/\t.2=true)) l.length ⟨cT _,rfl,.inl ⟨rfl,rfl,by simp⟩⟩ (fun n t hn hI=>?_) (fun t ht=>?_)
  ·obtain⟨out,put,i⟩:=t;obtain⟨_,h1,h2⟩:=hI;dsimp only at h1 h2;subst h1;unfold sV;dsimp only;by_cases hi:n<l.length
   ·have hx:l[n]? = some l[n]:=bh hi;obtain⟨x,hxe⟩:∃ x,x=l[n]:=⟨_,rfl⟩;rw [<- hxe] at hx;rw [dlt hi,cond_true,aV,hx,al,rF,al];have tk:=bI hx;have hle:=hpl n;rcases h2 with⟨rfl,rfl,h3⟩|⟨rfl,rfl,y,hy,h3⟩
    ·have e0:((l.take n).filter fun x=>decide (bV x.b r.b<0))=l.take n:=xG.2 fun x hx=>by simpa using h3 x hx
     have e1:((l.take n).filter fun x=>decide (0<bV x.b r.b))=[]:=Iy.2 fun x hx=>by have:=h3 x hx; simp; omega
     rcases tH x.b r.b with hc | hc | hc
     ·rw [hc];unfold jR jQ jP;rw [show cm ((l.take n).length+[x].length)=true from eZ (by simp; omega),cy (by omega)];refine aq ⟨hi,hi,rfl,.inl ⟨tk.symm,rfl,fun z hz=>?_⟩⟩;rw [tk] at hz;rcases cM.1 hz with hz | hz
      ·exact h3 z hz
      ·simp only [bC,cF,or_false] at hz; subst hz; omega
     ·rw [hc];unfold jR jQ jP;rw [tw hr,cy (by omega)];simp only [al];rw [show cm ((l.take n).length+[r].length)=true from eZ (by simp; omega)];refine aq ⟨hi,hi,rfl,.inr ⟨?_,rfl,x,by rw [tk]; simp,by omega⟩⟩;unfold eY;rw [tk,ux,ux,e0,e1];simp [hc]
     ·rw [hc];unfold jR jQ jP;rw [tw hr,cy (by omega)];simp only [al];rw [show cm ((l.take n).length+[r].length)=true from eZ (by simp; omega),show cm ((l.take n++[r]).length+[x].length)=true from eZ (by simp; omega)];refine aq ⟨hi,hi,rfl,.inr ⟨?_,rfl,x,by rw [tk]; simp,by omega⟩⟩;unfold eY;rw [tk,ux,ux,e0,e1];simp [hc]
    ·have hyx:bV y.b x.b<0:=by
      obtain⟨j,hj⟩:=dt.1 hy;rw [pY] at hj;split at hj
      ·rename_i hjn;obtain⟨q1,q2⟩:=bR.1 hj;have:=eC.1 h j n q1 hi hjn;rw [q2,<- hxe] at this; exact this
      ·cases hj
     have hc:0<bV x.b r.b:=by
      rw [qo];exact oK (b:=y.b) h3 hyx
     have hc1:bV x.b r.b=1:=by rcases tH x.b r.b with h | h | h <;> omega
     rw [hc1];unfold jR jQ jP;rw [cy (by omega),show cm ((eY (l.take n) r).length+[x].length)=true from eZ (by unfold eY; simp only [br,dx,ma]; omega)];refine aq ⟨hi,hi,rfl,.inr ⟨?_,rfl,y,by rw [tk]; exact mb _ hy,h3⟩⟩;unfold eY;rw [tk,ux,ux];simp [hc1]
   ·have hn2:n=l.length:=by omega
    rw [hn2,bZ,cond_false];rw [hn2,f9] at h2;refine aq ?_;rcases h2 with⟨a,b,c⟩|⟨a,b,c⟩
    ·exact .inl ⟨a,b,c⟩
    ·exact .inr ⟨a,b⟩
  ·obtain⟨out,put⟩:=t;dsimp only at ht;unfold qD qC;rcases ht with⟨rfl,rfl,h3⟩|⟨rfl,rfl⟩
   ·rw [tw hr];simp only [mL,cond_true,al];rw [show cm (out.length+[r].length)=true from eZ (by simp; omega)];refine aq ?_;unfold eY;rw [xG.2 fun x hx=>by simpa using h3 x hx,Iy.2 fun x hx=>by have:=h3 x hx; simp; omega]
   ·exact aq rfl
 obtain⟨y,e,rfl⟩:=key;exact e
theorem Ei {l:List ae} (h:Rm l.length):m8 l l=some true:=by
 unfold Rm at h;unfold m8;rw [show ((l.length:Int) != (l.length:Int))=false by simp,cond_false];refine jJ (eh (xs:=l) (fun i=>(i:Int)) rfl (r:=.go ()) (fun i x hx=>?_) ?_) rfl
 ·unfold jO;rw [iU hx,cond_true,aV,hx,al,al,cy (by have:=aU hx; omega)];show cond (!fa x x) _ _=_;rw [Au]; rfl
 ·unfold jO;rw [bZ]; rfl
theorem M2 {x:ar} (h:x∈eY l r):x∈l∨x=r:=by
 unfold eY at h;rcases cM.1 h with h | h
 ·exact .inl (gC.1 h).1
 ·rcases bC.1 h with h | h
  ·exact .inr h
  ·exact .inl (gC.1 h).1
theorem CX (h:Cd l) (r:ar):Cd (eY l r):=by
 unfold Cd eY;rw [lT];refine⟨It _ h,jl.2 ⟨fun x hx=>?_,It _ h⟩,fun x hx y hy=>?_⟩
 ·have:=(gC.1 hx).2;simp only [decide_eq_true_eq] at this;exact qo.1 this
 ·have h1:=(gC.1 hx).2;simp only [decide_eq_true_eq] at h1;rcases bC.1 hy with rfl | hy
  ·exact h1
  ·have h2:=(gC.1 hy).2;simp only [decide_eq_true_eq] at h2;exact lC h1 (qo.1 h2)
theorem vW (hl:NY l) (k:ae):dM l k=some (bj l k):=by
 have h1:=hl.1;unfold Rm at h1;unfold dM;have key:=vN (B:=fun t:Int=>ke l k t) (xs:=l) (fun r=>fa r.b k) (fun i=>(i:Int)) (s0:=0) rfl (y:=fun i x=>Fl.out (x,true)) (n:=Fl.go ()) (fun i x hx hp=>by
   unfold ke;rw [iU hx,cond_true,aV,hx,al,cy (by have:=aU hx; omega)];show cond (fa x.b k) _ _=_;rw [hp]; rfl) (fun i x hx hp=>by
   unfold ke;rw [iU hx,cond_true,aV,hx,al];show cond (fa x.b k) _ _=_;rw [hp,tw (hl.2 x (az hx))]; rfl) (by
   unfold ke;rw [bZ]; rfl)
 unfold bj;rcases key with⟨i,x,h1,h2,h3,h4⟩|⟨h1,h2⟩
 ·rw [h4,JW (p:=fun r=>fa r.b k) h1 h2 h3]; rfl
 ·rw [h2,show l.find? (fun r=>fa r.b k)=none from DK.2 fun x hx=>by rw [h1 x hx]; simp]; rfl
theorem EV {l:List ae} (hl:Rm l.length) (k:ae):td l k=some (l.any fun x=>fa k x):=by
 unfold Rm at hl;unfold td;refine jJ (xf (xs:=l) (fun x=>fa k x) (fun i=>(i:Int)) rfl (y:=Fl.out true) (n:=Fl.go ()) (fun i x hx hp=>?_) (fun i x hx hp=>?_) ?_) ?_
 ·unfold nY;rw [iU hx,cond_true,aV,hx,al,cy (by have:=aU hx; omega)];show cond (fa x k) _ _=_;rw [EG,hp]; rfl
 ·unfold nY;rw [iU hx,cond_true,aV,hx,al];show cond (fa x k) _ _=_;rw [EG,hp]; rfl
 ·unfold nY;rw [bZ]; rfl
 ·cases l.any fun x=>fa k x <;> rfl
theorem OH {out:List ae} (h:Fq out) {i:Nat} {k:ae} (h1:∀ y∈out.take i,bV y k<0) (h2:∀ y∈out.drop i,bV k y<0):Fq (out.take i++[k]++out.drop i):=by
 unfold Fq at *;rw [cA,lT];refine⟨h.sublist (List.take_sublist _ _),jl.2 ⟨fun y hy=>h2 y hy,h.sublist (List.drop_sublist _ _)⟩,fun a ha b hb=>?_⟩;rcases bC.1 hb with rfl | hb
 ·exact h1 a ha
 ·exact lC (h1 a ha) (h2 b hb)
theorem OI {out:List ae} {i:Nat} {k x:ae}:x∈out.take i++[k]++out.drop i↔x∈out∨x=k:=by
 conv=>rhs; rw [<- qS i out]
 simp only [cM,bC,cF,or_false];constructor
 ·rintro ((h | h) | h)
  ·exact .inl (.inl h)
  ·exact .inr h
  ·exact .inl (.inr h)
 ·rintro ((h | h) | h)
  ·exact .inl (.inl h)
  ·exact .inr h
  ·exact .inl (.inr h)
theorem yr {l:List ae} (hl:Rm l.length):∃ m,lE l=some m/\wi l m:=by
 unfold Rm at hl;have key:Ok (lE l) fun m=>wi l m:=by
  unfold lE;refine bL (fun n s=>s.2=(n:Int)/\n<=l.length/\wi (l.take n) s.1) (fun r=>wi l r) l.length ⟨rfl,cT _,sA,fun x=>by simp,by simp⟩ (fun n s hn hI=>?_) (fun r hr=>aq hr);obtain⟨out,g⟩:=s;obtain⟨h1,h2,h3⟩:=hI;dsimp only at h1 h3;subst h1;have hol:=h3.len;rw [gQ] at hol;unfold pc;dsimp only;by_cases hi:n<l.length
  ·have hx:l[n]? = some l[n]:=bh hi;obtain⟨k,O⟩:∃ k,k=l[n]:=⟨_,rfl⟩;rw [<- O] at hx;rw [dlt hi,cond_true,aV,hx,al];have stay:k∈out->wi (l.take (n+1)) out:=fun hm=>⟨h3.asc,fun x=>by
    rw [bI hx,cM,h3.mem];constructor
    ·exact .inl
    ·rintro (h | h)
     ·exact h
     ·simp only [bC,cF,or_false] at h;subst h; exact (h3.mem _).1 hm,by rw [gQ]; omega⟩
   have put:∀ i:Nat,i<=out.length->(∀ y∈out.take i,bV y k<0)->(∀ y∈out.drop i,bV k y<0)->wi (l.take (n+1)) (out.take i++[k]++out.drop i):=fun i hio q1 q2=>⟨OH h3.asc q1 q2,fun x=>by
    rw [OI,bI hx,cM,h3.mem];simp,by simp only [br,gQ,sL,dx,ma]; omega⟩
   have j3:∀ i:Nat,i<=out.length->(∀ y∈out.take i,bV y k<0)->(∀ y∈out.drop i,bV k y<0)->Ok (fC out (n:Int) k (i:Int) true) fun r=>match r with
     | .go s'=>n<l.length/\s'.2=((n+1:Nat):Int)/\n+1<=l.length/\wi (l.take (n+1)) s'.1
     | .out r=>wi l r:=fun i hio q1 q2=>by
    unfold fC jE;rw [cond_true,vm hio,al,vX hio,al,cy (by omega)];have r1:cm (([]:List ae).length+(out.take i).length)=true:=eZ (by simp; omega);have r2:cm ((([]:List ae)++out.take i).length+[k].length)=true:=eZ (by simp; omega);have r3:cm (((([]:List ae)++out.take i)++[k]).length+(out.drop i).length)=true:=eZ (by simp; omega);rw [r1,r2,r3];simp only [gd,cond_true,ow];exact aq ⟨hi,rfl,hi,put i hio q1 q2⟩
   have inner:=vN (B:=fun t:Int=>gY out k t) (xs:=out) (fun y=>!decide (bV y k<0)) (fun i=>(i:Int)) (s0:=0) rfl (y:=fun i _=>(i:Int)) (n:=(out.length:Int)) (fun i y hy hp=>by
     unfold gY;simp only [Bool.not_eq_false'] at hp;rw [iU hy,cond_true,aV,hy,al,rF,al,hp,cond_true,cy (by have:=aU hy; omega)]) (fun i y hy hp=>by
     unfold gY;simp only [sw] at hp;rw [iU hy,cond_true,aV,hy,al,rF,al,hp,cond_false]) (by
     unfold gY;rw [bZ]; rfl)
   rcases inner with⟨i,y,a1,a2,a3,a4⟩|⟨a1,a2⟩
   ·rw [a4,al];have hio:=aU a1;have hge:¬ bV y k<0:=by simpa using a2
    have hb:∀ z∈out.take i,bV z k<0:=fun z hz=>by
     obtain⟨j,hj⟩:=dt.1 hz;rw [pY] at hj;split at hj
     ·rename_i hji;simpa using a3 j z hji hj
     ·cases hj
    unfold l3;rw [show ((i:Int)==(out.length:Int))=false from by simp; omega,cond_false,aV,a1,al];show Ok (fC out (n:Int) k (i:Int) (!fa y k)) _;cases hq:fa y k
    ·rw [mL];refine (j3 i (by omega) hb fun z hz=>?_).mono fun y hy=>by cases y <;> exact hy
     have hyk:bV k y<0:=by
      rcases u6 y k with h | h | h
      ·exact absurd h hge
      ·exact absurd h (xQ.1 hq)
      ·exact h
     obtain⟨j,hj⟩:=dt.1 hz;rw [qT] at hj;obtain⟨q1,q2⟩:=bR.1 hj;obtain⟨q3,q4⟩:=bR.1 a1;by_cases hj0:j=0
     ·subst hj0;rw [mz,a1] at hj;injection hj with hj;rw [<- hj]; exact hyk
     ·have:=eC.1 h3.asc i (i+j) q3 q1 (by omega);rw [q4,q2] at this;exact lC hyk this
    ·unfold fC jE;rw [eE,cond_false,cy (by omega)];exact aq ⟨hi,rfl,hi,stay (by rw [<- fc.1 hq]; exact az a1)⟩
   ·rw [a2,al];unfold l3;rw [beq_self_eq_true,cond_true];refine (j3 out.length (bx _) (fun z hz=>?_) (fun z hz=>by rw [Ff] at hz; cases hz)).mono fun y hy=>by cases y <;> exact hy
    rw [f9] at hz;simpa using a1 z hz
  ·rw [Hj hi,cond_false];have:n=l.length:=by omega
   subst this;rw [f9] at h3;exact aq h3
 obtain⟨m,e,h⟩:=key;exact⟨m,e,h⟩
end
end Go.Proofs.YtllbbcgnnoonoaaGreatDoor
