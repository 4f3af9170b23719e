/- Texts of the proof, joined (6). -/
import Derived.Test.YtmfcloapbgfhaaaGreatDoorA1
import Derived.Test.YtmfcloapbgfhaaaGreatDoorA5
import Derived.Test.YtmfcloapbgfhaaaGreatDoorA2
import Derived.Test.YtmfcloapbgfhaaaGreatDoorA3
set_option linter.unusedVariables false
set_option linter.unusedSimpArgs false
set_option linter.unusedSectionVars false
namespace Go.Proofs.YtmfcloapbgfhaaaGreatDoor
section
set_option maxRecDepth 100000
set_option maxHeartbeats 4000000
open Go.RowKit
noncomputable section
def s3:Option Bool:=some (true)
def k9 (e:LC) (f:LC) (b:Int):Option (Fl (Int) (Fl (Unit) Bool)):=cond (decide (b<(e.length:Int))) ((bu e b).bind fun c=>(bu f b).bind fun d=>cond (!(d.Key.Kind==c.Key.Kind&&d.Key.Text.toList==c.Key.Text.toList&&d.Value.toList==c.Value.toList)) (some (.out (.out false))) (some (.go (IntKind.i64.wrap (b+1))))) (some (.out (.go ())))
def eR (b:LC) (c:LC):Option Bool:=cond ((b.length:Int) != (c.length:Int)) (some (false)) ((loop (fun s:Int=>k9 b c s) 0).bind fun r=>Fl.el r (fun s=>s3) (fun y=>some (y)))
theorem kz (T:Nat→Prop) (W0:World) (hT:TW T W0) (c:LC) (f:LC) (i:Value) (j:Value) (t:aE ad T W0 i c) (u:aE ad T W0 j f) (y:Bool) (hM:eR c f=some y):bj aP No 12 [i,j] W0 (fun v w'=>v = .bool y):=by
 refine en Tryz.func12 Tryz.ntmps12 hT fun a hS=>?_;replace hS:=(hS.fS (aE.dn t)).fS (aE.dn u);unfold eR at hM;refine ai hS fun a hS=>?_;refine aD ?_;refine ai hS fun a hS=>?_;rcases cd hM with⟨l,hM⟩|⟨l,hM⟩
 ·exact fz
 refine ai hS fun a hS=>?_;refine aK (J:=fun a w=>St W0 No T 26 [] [] [] a w∧s3=some y) ?_ ?_
 ·skip;refine ai hS fun a hS=>?_;obtain⟨F,r,hMo1⟩:=bd hM;refine bF _ (fun s a w=>∃ (b:Int),b=s∧St W0 No T 26 [(1,j),(12,i),(13,al (c.length:Int)),(14,al b)] [] [aR ad j f,aR ad i c] a w) r ⟨_,rfl,hS.mt [] [0,1]⟩ ?_;rintro s a w C ⟨b,rfl,hS⟩ hM hf1;have hM:k9 c f b=some C:=hM;unfold k9 at hM;refine ai hS fun a hS=>?_;refine aD ?_;rcases cd hM with⟨m,hM⟩|⟨m,hM⟩
  ·refine ai hS fun a hS=>?_;refine aD ?_;refine ai hS fun a hS=>?_;obtain⟨d,g,hM⟩:=bd hM;refine wl rfl (bm (R:=ad) hS tA s9 rfl rfl 1 rfl g rfl fun x E A n a hS=>?_);obtain rfl:=n;refine ai hS fun a hS=>?_;refine ka hS ir fun z D a w hk hS=>?_;refine go hS fun a w hS=>?_;refine aD ?_;refine dr [] hS fun w hQ hS=>?_;refine gE [0,1] hS fun a hS=>?_;obtain⟨e,h,hM⟩:=bd hM;obtain⟨k,q,B,o,p,hS⟩:=jj (R:=ad) hS tA s9 1 rfl h;obtain rfl:=o;refine dy 2 (v:=pt k q) rfl (by kernel_rfl) (by kernel_rfl) (by kernel_rfl) rfl hQ hS (p rfl rfl) rfl rfl rfl fun a hS=>?_;refine gE [3,4] hS fun a hS=>?_;refine dy 5 (v:=.bool (!(e.Key.Kind==d.Key.Kind&&e.Key.Text.toList==d.Key.Text.toList&&e.Value.toList==d.Value.toList))) rfl (by kernel_rfl) (by kernel_rfl) (by kernel_rfl) rfl hQ hS (Oi hS rfl rfl) rfl rfl rfl fun a hS=>?_;refine eD ?_;exact fz
  exact fz
 rintro a w ⟨hS,hM⟩;unfold s3 at hM;exact fz
def pd (b:LB):Option LB:=some (b)
def gJ (e:LC) (d:LB) (b:Int):Option (Fl (LB×Int) (LB)):=cond (decide (b<(e.length:Int))) ((bu e b).bind fun c=>some (.go ((eH aL c.Key c.Value d),IntKind.i64.wrap (b+1)))) (some (.out d))
def fA (b:LC):Option LB:=(loop (fun s:LB×Int=>gJ b s.1 s.2) (([]:LB),0)).bind fun r=>pd r
theorem kF (T:Nat→Prop) (W0:World) (hT:TW T W0) (h:LC) (o:Value) (z:aE ad T W0 o h) (y:LB) (hM:fA h=some y):bj aP No 40 [o] W0 (fun v w'=>∃ (r:Nat) (q:Array MapEntry) (p:Nat),v = .map (some r)∧Ls ac true aY.str false T W0 w' [om r q p] r q p y):=by
 refine en Tryz.func40 Tryz.ntmps40 hT fun a hS=>?_;replace hS:=hS.fS (aE.dn z);unfold fA at hM;refine ai hS fun a hS=>?_;refine wl rfl (qY ac true aY.str false hS rfl fun b G a w hk hS=>?_);refine ai hS fun a hS=>?_;refine aK (J:=fun a w=>∃ (l:LB) (e:AM) (j:Nat),St W0 No T 20 [(3,.map (some b))] [om b e j] [kC e l] a w∧pd l=some y) ?_ ?_
 ·skip;refine ai hS fun a hS=>?_;obtain⟨K,x,hMo1⟩:=bd hM;refine bF _ (fun s a w=>∃ (g:LB) (f:Int) (k:AM) (m:Nat),(g,f)=s∧St W0 No T 20 [(3,.map (some b)),(7,o),(8,al (h.length:Int)),(9,al f)] [om b k m] [kC k g,aR ad o h] a w) x ⟨_,_,_,_,rfl,hS.mt [0] [0,1]⟩ ?_;rintro s a w F ⟨g,f,k,m,rfl,hS⟩ hM hf1;have hM:gJ h g f=some F:=hM;unfold gJ at hM;refine ai hS fun a hS=>?_;refine aD ?_;rcases cd hM with⟨t,hM⟩|⟨t,hM⟩
  ·refine ai hS fun a hS=>?_;refine aD ?_;refine ai hS fun a hS=>?_;obtain⟨d,n,hM⟩:=bd hM;refine wl rfl (bm (R:=ad) hS tA s9 rfl rfl 1 rfl n rfl fun A I C u a hS=>?_);obtain rfl:=u;refine ai hS fun a hS=>?_;refine ka hS ir fun B H a w hk hS=>?_;refine go hS fun a w hS=>?_;refine wl rfl (x5 hS qJ cT 1 rfl 1 rfl (c:=(aV d.Key)) (cv:=[aO d.Value]) (key:=d.Key) (val:=d.Value) rfl rfl rfl rfl rfl fun E D w hk hS=>?_);exact fz
  exact fz
 rintro a w ⟨l,e,j,hS,hM⟩;unfold pd at hM;refine ai hS fun a hS=>?_;cases hM
 refine aI hS rfl (aq hS rfl aH) ?_;exact⟨b,e,j,rfl,hS.retMap ⟨.inr (a6 (i:=0) rfl),trivial⟩ 0 rfl 0 rfl⟩
def rH (b:LK):Option LK:=some (b)
def od (b:Int):Option (Fl (Int) (Fl (Unit) LK)):=some (.go (IntKind.i64.wrap (b+1)))
def lu (b:LK) (c:Int):Option (Fl (Int) (Fl (Unit) LK)):=(o0 b c b.length).bind fun e=>(o0 (List.take (Int.toNat c) b++List.replicate ((Int.toNat (b.length:Int))-(Int.toNat c)) (ah.mk (0:Int) bI)++List.drop (Int.toNat (b.length:Int)) b) 0 c).bind fun d=>some (.out (.out d))
def lw (d:LK) (b:Int) (c:Int):Option (Fl (LK×Int×Int) (LK×Int)):=some (.go (d,b,IntKind.i64.wrap (c+1)))
def oe (f:LK) (c:Int) (d:LK) (e:Int) (b:Int):Option (Fl (LK×Int×Int) (LK×Int)):=cond (decide (b<(((Int.toNat (f.length:Int))-(Int.toNat c):Nat):Int))) (gd (decide (0≤b)) <| gd (decide (b<(((Int.toNat (f.length:Int))-(Int.toNat c):Nat):Int))) <| (bu d ((((Int.toNat c):Nat):Int)+b)).bind fun g=>gd (decide (0≤IntKind.i64.wrap (b-1))) <| gd (decide (IntKind.i64.wrap (b-1)<(((Int.toNat (f.length:Int))-(Int.toNat c):Nat):Int))) <| (bu d ((((Int.toNat c):Nat):Int)+(IntKind.i64.wrap (b-1)))).bind fun h=>cond (!(g.Kind==h.Kind&&g.Text.toList==h.Text.toList)) (gd (decide (0≤b)) <| gd (decide (b<(((Int.toNat (f.length:Int))-(Int.toNat c):Nat):Int))) <| (bu d ((((Int.toNat c):Nat):Int)+b)).bind fun i=>(bu d e).bind fun j=>lw (d.set (Int.toNat e) i) (IntKind.i64.wrap (e+1)) b) (lw d e b)) (some (.out (d,e)))
def og (c:LK) (b:Int):Option (Fl (Int) (Fl (Unit) LK)):=cond (decide (b<(c.length:Int))) ((bu c b).bind fun d=>(bu c (IntKind.i64.wrap (b-1))).bind fun e=>cond (d.Kind==e.Kind&&d.Text.toList==e.Text.toList) ((o0 c b c.length).bind fun f=>(loop (fun s:LK×Int×Int=>oe c b s.1 s.2.1 s.2.2) (c,b,1)).bind fun r=>lu r.1 r.2) (od b)) (some (.out (.go ())))
def nQ (b:LK):Option LK:=cond (decide ((b.length:Int)<2)) (some (b)) ((loop (fun s:Int=>og b s) 1).bind fun r=>Fl.el r (fun s=>rH b) (fun y=>some (y)))
theorem A1 (T:Nat→Prop) (W0:World) (hT:TW T W0) (d:LK) (b:Value) (wo:bv) (hD:ze T W0 [ay b wo]) (d6:aA ac (dT T [ay b wo]) W0 wo d) (y:LK) (hM:nQ d=some y):bj aP (MD [ay b wo]) 113 [b] W0 (fun v w'=>∃ (v3:Value) (sI:bv),v=v3∧aA ac (dT T [ay v3 sI]) w' sI y∧qG W0 w' [ay b wo] [ay v3 sI]):=by
 refine lx (c:=_) Tryz.func113 rfl T 61 Tryz.ntmps113 hT rfl hD fun a hS=>?_;replace hS:=hS.fR d6;unfold nQ at hM;refine ai hS fun a hS=>?_;refine aD ?_;refine ai hS fun a hS=>?_;rcases cd hM with⟨Y,hM⟩|⟨Y,hM⟩
 ·refine ai hS fun a hS=>?_;cases hM
  refine aI hS rfl (aq hS rfl aH) ?_;have hZ:=hS.sl [0] [0];exact⟨b,wo,rfl,(hZ.get 0 rfl),hZ.dnew⟩
 refine ai hS fun a hS=>?_;refine aK (J:=fun a w=>St W0 (MD [ay b wo]) T 61 [(0,b)] [ay b wo] [an ac wo d] a w∧rH d=some y) ?_ ?_
 ·skip;refine ai hS fun a hS=>?_;obtain⟨r1,d3,hMo1⟩:=bd hM;refine bF _ (fun s a w=>∃ (e:Int),e=s∧St W0 (MD [ay b wo]) T 61 [(0,b),(3,al e)] [ay b wo] [an ac wo d] a w) d3 ⟨_,rfl,hS.mt [0] [0]⟩ ?_;rintro s a w F ⟨e,rfl,hS⟩ hM hf1;have hM:og d e=some F:=hM;unfold og at hM;refine aD ?_;refine ai hS fun a hS=>?_;rcases cd hM with⟨Z,hM⟩|⟨Z,hM⟩
  ·refine ai hS fun a hS=>?_;refine aK (J:=fun a w=>St W0 (MD [ay b wo]) T 61 [(0,b),(3,al e)] [ay b wo] [an ac wo d] a w∧od e=some F) ?_ ?_
   ·skip;refine ai hS fun a hS=>?_;refine aD ?_;refine dr [] hS fun w hQ hS=>?_;refine gE [0,1] hS fun a hS=>?_;obtain⟨o,K,hM⟩:=bd hM;obtain⟨P,ch,el,dc,a0,a1,a2,a3⟩:=mD (R:=ac) hS kB dR 0 rfl 0 rfl K;obtain rfl:=a0;refine dy 2 (v:=pt P ch) rfl (by kernel_rfl) (by kernel_rfl) (by kernel_rfl) rfl hQ hS (a3 rfl rfl) rfl rfl rfl fun a hS=>?_;refine dy (l:=[]) 3 (v:=.agg (aV o).toArray) rfl (by kernel_rfl) (by kernel_rfl) (by kernel_rfl) (by kernel_rfl) hQ hS (ce (k:=0) hS dR 0 rfl a1 a2 rfl bP (us:=(aV o)) rfl rfl (fun h=>by cases h)) rfl rfl rfl fun a hS=>?_;refine gE [4,5,6] hS fun a hS=>?_;obtain⟨p,L,hM⟩:=bd hM;obtain⟨Q,ck,em,dk,a4,a5,a9,ab⟩:=mD (R:=ac) hS kB dR 0 rfl 0 rfl L;obtain rfl:=a4;refine dy 7 (v:=pt Q ck) rfl (by kernel_rfl) (by kernel_rfl) (by kernel_rfl) rfl hQ hS (ab rfl rfl) rfl rfl rfl fun a hS=>?_;refine dy (l:=[]) 8 (v:=.agg (aV p).toArray) rfl (by kernel_rfl) (by kernel_rfl) (by kernel_rfl) (by kernel_rfl) hQ hS (ce (k:=0) hS dR 0 rfl a5 a9 rfl bP (us:=(aV p)) rfl rfl (fun h=>by cases h)) rfl rfl rfl fun a hS=>?_;refine dy 9 (v:=.bool (o.Kind==p.Kind&&o.Text.toList==p.Text.toList)) rfl (by kernel_rfl) (by kernel_rfl) (by kernel_rfl) rfl hQ hS (zL hS rfl rfl) rfl rfl rfl fun a hS=>?_;refine eD ?_;refine ai hS fun a hS=>?_;rcases cd hM with⟨af,hM⟩|⟨af,hM⟩
    ·refine ai hS fun a hS=>?_;obtain⟨eg,O,hM⟩:=bd hM;obtain⟨g,e5,ag,ak⟩:=Ld (R:=ac) hS kB dR 0 rfl 0 rfl O;replace hS:=hS.fact (Jk 2 b g (Int.toNat e) (Int.toNat (d.length:Int)) d.length) ag;refine wl rfl (ky (v:=g) hS (ak (k2:=.i64) rfl (.inl ⟨_,rfl,rfl⟩) (.inr ⟨rfl,rfl⟩)) rfl rfl fun a hS=>?_);refine ai hS fun a hS=>?_;refine aK (J:=fun a w=>∃ (f:LK) (q:Int) (t:LV),St W0 (MD [ay b wo]) T 61 [(0,b),(3,al q)] [ay b t] [an ac t f] a w∧lu f q=some F) ?_ ?_
     ·skip;refine ai hS fun a hS=>?_;obtain⟨r2,d4,hMo2⟩:=bd hM;refine bF _ (fun s a w=>∃ (j:LK) (i:Int) (r:Int) (u:LV),(j,i,r)=s∧St W0 (MD [ay b wo]) T 61 [(0,b),(3,al i),(4,g),(5,al r)] [ay b u] [an ac u j,Jk 2 b g (Int.toNat e) (Int.toNat (d.length:Int)) d.length] a w) d4 ⟨_,_,_,_,rfl,hS.mt [0] [1,0]⟩ ?_;rintro s a w f2 ⟨j,i,r,u,rfl,hS⟩ hM hf2;have hM:oe d e j i r=some f2:=hM;unfold oe at hM;refine aD ?_;refine ai hS fun a hS=>?_;refine qy hS (Nc hS kB rfl (hS.get 1 rfl)) fun a hS=>?_;refine ai hS fun a hS=>?_;rcases cd hM with⟨ao,hM⟩|⟨ao,hM⟩
      ·refine ai hS fun a hS=>?_;refine aK (J:=fun a w=>∃ (C:LK) (A:Int) (B:Int) (x:LV),St W0 (MD [ay b wo]) T 61 [(0,b),(3,al A),(4,g),(5,al B)] [ay b x] [an ac x C,Jk 2 b g (Int.toNat e) (Int.toNat (d.length:Int)) d.length] a w∧lw C A B=some f2) ?_ ?_
       ·skip;refine ai hS fun a hS=>?_;refine aD ?_;refine dr [] hS fun w hQ hS=>?_;refine gE [0,1] hS fun a hS=>?_;obtain⟨av,hM⟩:=be hM;obtain⟨b0,hM⟩:=be hM;obtain⟨m,G,hM⟩:=bd hM;obtain⟨S,cl,eq,dl,b1,b2,b3,b4⟩:=zE (R:=ac) hS kB dR 0 rfl 0 rfl (hS.get 1 rfl) av b0 G;obtain rfl:=b1;refine dy 2 (v:=pt S cl) rfl (by kernel_rfl) (by kernel_rfl) (by kernel_rfl) rfl hQ hS (b4 rfl rfl) rfl rfl rfl fun a hS=>?_;refine dy (l:=[]) 3 (v:=.agg (aV m).toArray) rfl (by kernel_rfl) (by kernel_rfl) (by kernel_rfl) (by kernel_rfl) hQ hS (ce (k:=0) hS dR 0 rfl b2 b3 rfl bP (us:=(aV m)) rfl rfl (fun h=>by cases h)) rfl rfl rfl fun a hS=>?_;refine gE [4,5,6] hS fun a hS=>?_;obtain⟨b5,hM⟩:=be hM;obtain⟨b6,hM⟩:=be hM;obtain⟨n,H,hM⟩:=bd hM;obtain⟨U,co,er,dn,b8,b9,bb,bi⟩:=zE (R:=ac) hS kB dR 0 rfl 0 rfl (hS.get 1 rfl) b5 b6 H;obtain rfl:=b8;refine dy 7 (v:=pt U co) rfl (by kernel_rfl) (by kernel_rfl) (by kernel_rfl) rfl hQ hS (bi rfl rfl) rfl rfl rfl fun a hS=>?_;refine dy (l:=[]) 8 (v:=.agg (aV n).toArray) rfl (by kernel_rfl) (by kernel_rfl) (by kernel_rfl) (by kernel_rfl) hQ hS (ce (k:=0) hS dR 0 rfl b9 bb rfl bP (us:=(aV n)) rfl rfl (fun h=>by cases h)) rfl rfl rfl fun a hS=>?_;refine dy 9 (v:=.bool (!(m.Kind==n.Kind&&m.Text.toList==n.Text.toList))) rfl (by kernel_rfl) (by kernel_rfl) (by kernel_rfl) rfl hQ hS (zM hS rfl rfl) rfl rfl rfl fun a hS=>?_;refine eD ?_;refine ai hS fun a hS=>?_;rcases cd hM with⟨bl,hM⟩|⟨bl,hM⟩
        ·refine ai hS fun a hS=>?_;obtain⟨bs,hM⟩:=be hM;obtain⟨bt,hM⟩:=be hM;obtain⟨z,I,hM⟩:=bd hM;obtain⟨V,cv,et,ds,c0,c1,c2,c3⟩:=zE (R:=ac) hS kB dR 0 rfl 0 rfl (hS.get 1 rfl) bs bt I;obtain rfl:=c0;refine wl rfl (ky (v:=pt V cv) hS (c3 rfl rfl) rfl rfl fun a hS=>?_);refine qy hS (ce (k:=0) hS dR 0 rfl c1 c2 rfl id (us:=(aV z)) rfl rfl (fun h=>by cases h)) fun a hS=>?_;obtain⟨X,D,hM⟩:=bd hM;refine wl rfl (dj (R:=ac) hS kB dR rfl rfl 0 rfl 0 rfl D rfl fun da ek ex e2 c4 c5 c9 a hS=>?_);obtain rfl:=c4;refine wl rfl (qe (R:=ac) (k:=0) (cs:=(aV X)) (us:=(aV z)) (x':=z) hS rfl rfl rfl dR 0 rfl 0 rfl c5 c9 D rfl rfl rfl rfl fun e3 w hk hS=>?_);exact fz
        exact fz
       rintro a w ⟨C,A,B,x,hS,hM⟩;unfold lw at hM;exact fz
      refine ai hS fun a hS=>?_;cases hM
      have hr:=hf2 _ rfl;subst hr;have hM:lu j i=some F:=hMo2;exact⟨_,_,_,hS.mt [0] [0],hM⟩
     rintro a w ⟨f,q,t,hS,hM⟩;unfold lu at hM;refine ai hS fun a hS=>?_;obtain⟨ea,M,hM⟩:=bd hM;obtain⟨E,e8,ca,cb⟩:=Ld (R:=ac) hS kB dR 0 rfl 0 rfl M;replace hS:=hS.fact (Jk 2 b E (Int.toNat q) (Int.toNat (f.length:Int)) f.length) ca;refine wl rfl (ky (v:=E) hS (cb (k2:=.i64) rfl (.inl ⟨_,rfl,rfl⟩) (.inr ⟨rfl,rfl⟩)) rfl rfl fun a hS=>?_);refine wl rfl (Kd (R:=ac) (z0:=(ah.mk (0:Int) bI)) (xs:=f) hS gY gU rfl 0 rfl 1 rfl (hS.get 0 rfl) rfl fun e4 w hk hS=>?_);refine ai hS fun a hS=>?_;obtain⟨ed,N,hM⟩:=bd hM;refine wl rfl (H3 (R:=ac) (k1:=.i64) hS kB dR rfl (.inr ⟨rfl,rfl⟩) (.inl ⟨_,rfl,rfl⟩) 0 rfl 0 rfl N rfl fun d0 W a hS=>?_);refine ai hS fun a hS=>?_;cases hM
     have hr:=hf1 _ rfl;subst hr;replace hMo1:=kl hMo1;have hM:=hMo1;cases hM
     refine aI hS rfl (aq hS rfl aH) ?_;have hZ:=hS.sl [0] [0];exact⟨d0,W,rfl,(hZ.get 0 rfl),hZ.dnew⟩
    exact fz
   rintro a w ⟨hS,hM⟩;unfold od at hM;exact fz
  exact fz
 rintro a w ⟨hS,hM⟩;unfold rH at hM;refine ai hS fun a hS=>?_;cases hM
 refine aI hS rfl (aq hS rfl aH) ?_;have hZ:=hS.sl [0] [0];exact⟨b,wo,rfl,(hZ.get 0 rfl),hZ.dnew⟩
def pn (d:LK):Option LK:=(nP d).bind fun b=>gd (bH b.length) <| (nQ (sG b)).bind fun c=>some (c)
theorem Cr (T:Nat→Prop) (W0:World) (hT:TW T W0) (hLv:di T W0) (d:LK) (q:Value) (p:aE ac T W0 q d) (y:LK) (hM:pn d=some y):bj aP No 76 [q] W0 (fun v w'=>∃ (o:Value) (qE:bv),v=o∧gg ac T W0 w' [ay o qE] 44 o qE y):=by
 refine en Tryz.func76 Tryz.ntmps76 hT fun a hS=>?_;replace hS:=(hS.fact bC (di.dn hLv)).fS (aE.dn p);unfold pn at hM;refine ai hS fun a hS=>?_;obtain⟨m,e,hM⟩:=bd hM;refine kc hS KV (yC _ _ hS.dlt d _ (hS.get 0 rfl) _ e) fun _ w hR a hk hA=>?_;obtain⟨u,r,he,b⟩:=hR;obtain rfl:=he.symm;have hS:=qD hA b;refine ai hS fun a hS=>?_;obtain⟨h,hM⟩:=be hM;replace hS:=hS.re [0] [];refine wl rfl (de hS NA rfl rfl (G6 _ _ _ _ _ hS.dok (hS.getD 0 rfl) h) fun _ w hR a hk hA=>?_);obtain⟨he,s,j,k⟩:=hR;subst he;have hS:=hA _ k;replace hS:=hS.fR (j.keep (au _ _) (aB _));refine ai hS fun a hS=>?_;obtain⟨t,f,hM⟩:=bd hM;replace hS:=hS.re [0] [];refine wl rfl (de hS NB rfl rfl (A1 _ _ hS.dltD (sG m) _ _ hS.dok (hS.getD 0 rfl) _ f) fun _ w hR a hk hA=>?_);obtain⟨n,g,he,c,l⟩:=hR;obtain rfl:=he.symm;have hS:=hA _ l;replace hS:=hS.fR (c.keep (au _ _) (aB _));refine ai hS fun a hS=>?_;cases hM
 refine aI hS rfl (aq hS rfl aH) ?_;exact⟨n,g,rfl,hS.retOwn ⟨.inr (a6 (i:=0) rfl),trivial⟩ 0 rfl 0 rfl⟩
def lr (b:LK):Option LK:=(pn b).bind fun c=>some (c)
def oa (b:Int) (c:LK):Option (Fl (LK×Int) (LK)):=some (.go (c,IntKind.i64.wrap (b+1)))
def ju (d:LC) (c:LK) (b:Int):Option (Fl (LK×Int) (LK)):=cond (decide (b<(d.length:Int))) ((bu d b).bind fun e=>gd (bH (c.length+([e.Key]).length)) <| some (.go ((c++([e.Key])),IntKind.i64.wrap (b+1)))) (some (.out c))
def jv (b:(List LC)) (d:LK) (c:Int):Option (Fl (LK×Int) (LK)):=cond (decide (c<(b.length:Int))) ((bu b c).bind fun e=>(loop (fun s:LK×Int=>ju e s.1 s.2) (d,0)).bind fun r=>oa c r) (some (.out d))
def jY (b:(List LC)):Option LK:=(loop (fun s:LK×Int=>jv b s.1 s.2) (([]:List ah),0)).bind fun r=>lr r
theorem vM (T:Nat→Prop) (W0:World) (hT:TW T W0) (hLv:di T W0) (b:(List LC)) (j:Value) (V:aE (aY.slice ad) T W0 j b) (y:LK) (hM:jY b=some y):bj aP No 41 [j] W0 (fun v w'=>∃ (q:Value) (qE:bv),v=q∧gg ac T W0 w' [ay q qE] 44 q qE y):=by
 refine en Tryz.func41 Tryz.ntmps41 hT fun a hS=>?_;replace hS:=(hS.fact bC (di.dn hLv)).fS (aE.dn V);unfold jY at hM;refine ai hS fun a hS=>?_;refine aK (J:=fun a w=>∃ (g:LK) (r:Value) (k:LV),St W0 No T 29 [(3,r)] [ay r k] [an ac k g,bC] a w∧lr g=some y) ?_ ?_
 ·skip;refine ai hS fun a hS=>?_;replace hS:=hS.nilRow ac 44 (by decide);obtain⟨r1,S,hMo1⟩:=bd hM;refine bF _ (fun s a w=>∃ (h:LK) (c:Int) (t:Value) (l:LV),(h,c)=s∧St W0 No T 29 [(3,t),(8,j),(9,al (b.length:Int)),(10,al c)] [ay t l] [an ac l h,aR (aY.slice ad) j b,bC] a w) S ⟨_,_,_,_,rfl,hS.mt [0] [0,1,2]⟩ ?_;rintro s a w Q ⟨h,c,t,l,rfl,hS⟩ hM hf1;have hM:jv b h c=some Q:=hM;unfold jv at hM;refine ai hS fun a hS=>?_;refine aD ?_;rcases cd hM with⟨L,hM⟩|⟨L,hM⟩
  ·refine ai hS fun a hS=>?_;refine aK (J:=fun a w=>∃ (p:LK) (u:Value) (m:LV),St W0 No T 29 [(3,u),(8,j),(9,al (b.length:Int)),(10,al c)] [ay u m] [an ac m p,aR (aY.slice ad) j b,bC] a w∧oa c p=some Q) ?_ ?_
   ·skip;refine ai hS fun a hS=>?_;obtain⟨o,G,hM⟩:=bd hM;refine wl rfl (bm (R:=(aY.slice ad)) hS IR M3 rfl rfl 1 rfl G rfl fun W a5 a0 M a hS=>?_);obtain⟨E,rfl,K⟩:=M;replace hS:=hS.fS K;refine ai hS fun a hS=>?_;obtain⟨r2,U,hMo2⟩:=bd hM;refine bF _ (fun s a w=>∃ (e:LK) (f:Int) (z:Value) (n:LV),(e,f)=s∧St W0 No T 29 [(3,z),(8,j),(9,al (b.length:Int)),(10,al c),(14,E),(15,al (o.length:Int)),(16,al f)] [ay z n] [an ac n e,aR (aY.slice ad) j b,aR ad E o,bC] a w) U ⟨_,_,_,_,rfl,hS.mt [0] [2,3,0,4]⟩ ?_;rintro s a w f2 ⟨e,f,z,n,rfl,hS⟩ hM hf2;have hM:ju o e f=some f2:=hM;unfold ju at hM;refine ai hS fun a hS=>?_;refine aD ?_;rcases cd hM with⟨N,hM⟩|⟨N,hM⟩
    ·refine ai hS fun a hS=>?_;refine aD ?_;refine ai hS fun a hS=>?_;obtain⟨d,H,hM⟩:=bd hM;refine wl rfl (bm (R:=ad) hS tA s9 rfl rfl 2 rfl H rfl fun X a9 a1 O a hS=>?_);obtain rfl:=O;refine ai hS fun a hS=>?_;refine ka hS ir fun Y a4 a w hk hS=>?_;refine go hS fun a w hS=>?_;refine wl rfl (a8 (ps:=[(0,.tmp 22)]) hS gY gU (zl:=[al 0,aO bI]) (by kernel_rfl) rfl (us:=[(aV d.Key)]) ⟨rfl,trivial⟩ (ws:=(aV d.Key)) rfl rfl rfl rfl fun Z a w hk hS=>?_);replace hS:=(hS.lit (R:=ac) (us:=(aV d.Key)) (xs:=[d.Key]) 0 rfl (by decide) (aA.one_ (R:=ac) (x:=d.Key) rfl) rfl rfl).freeze (R:=ac) 0 rfl 0 rfl;obtain⟨P,hM⟩:=be hM;refine wl rfl (bM (R:=ac) (xs:=e) (ys:=[d.Key]) hS gY (by decide) (by decide) rfl rfl 1 rfl 3 rfl 0 rfl P rfl fun af a2 a w hk hS=>?_);exact fz
    exact fz
   rintro a w ⟨p,u,m,hS,hM⟩;unfold oa at hM;exact fz
  exact fz
 rintro a w ⟨g,r,k,hS,hM⟩;unfold lr at hM;refine ai hS fun a hS=>?_;have hL:=hS;replace hL:=hL.freeze (R:=ac) 0 rfl 0 rfl;obtain⟨ab,I,hM⟩:=bd hM;refine kc hS Px (Cr _ _ hL.dlt (hL.get 2 rfl) g _ (hL.get 0 rfl) _ I) fun _ w hR a hk hA=>?_;obtain⟨F,A,he,⟨C,B,D⟩⟩:=hR;obtain rfl:=he.symm;have hS:=hA [ay F A] (ei ⟨C,by decide⟩ B) (sP _);replace hS:=hS.fR D;refine ai hS fun a hS=>?_;cases hM
 refine aI hS rfl (aq hS rfl aH) ?_;exact⟨F,A,rfl,hS.retOwn ⟨.inr (a6 (i:=0) rfl),trivial⟩ 0 rfl 0 rfl⟩
def rD (b:LC):Option LC:=some (b)
def gW (b:Int) (c:LC):Option (Fl (LC×Int) (LC)):=some (.go (c,IntKind.i64.wrap (b+1)))
def fC (h:LB) (e:LB) (f:LK) (d:LC) (c:Int):Option (Fl (LC×Int) (LC)):=cond (decide (c<(f.length:Int))) ((bu f c).bind fun b=>(some ((cK aL b h).getD bI)).bind fun i=>(some ((cK aL b e).getD bI)).bind fun j=>cond (!(i.toList==j.toList)) ((some ((cK aL b e).getD bI)).bind fun g=>gd (bH (d.length+([(am.mk b g)]).length)) <| gW c (d++([(am.mk b g)]))) (gW c d)) (some (.out d))
def ez (b:LC) (c:LC):Option LC:=(fA b).bind fun d=>(fA c).bind fun e=>(jY ([b,c])).bind fun f=>(loop (fun s:LC×Int=>fC d e f s.1 s.2) (([]:List am),0)).bind fun r=>rD r
theorem gA (T:Nat→Prop) (W0:World) (hT:TW T W0) (hLv:di T W0) (e:LC) (g:LC) (W:Value) (X:Value) (bb:aE ad T W0 W e) (bi:aE ad T W0 X g) (y:LC) (hM:ez e g=some y):bj aP No 14 [W,X] W0 (fun v w'=>∃ (v3:Value) (sI:bv),v=v3∧gg ad T W0 w' [ba v3 sI] 46 v3 sI y):=by
 refine en Tryz.func14 Tryz.ntmps14 hT fun a hS=>?_;replace hS:=((hS.fact bC (di.dn hLv)).fS (aE.dn bb)).fS (aE.dn bi);unfold ez at hM;refine ai hS fun a hS=>?_;obtain⟨H,Z,hM⟩:=bd hM;refine kc hS HE (kF _ _ hS.dlt e _ (hS.get 1 rfl) _ Z) fun _ w hR a hk hA=>?_;obtain⟨j,o,B,he,⟨O,L,S⟩⟩:=hR;obtain rfl:=he.symm;have hS:=hA [om j o B] (ei O (tU L)) (sP _);replace hS:=hS.fM (S.keep (au _ _) (iB _));refine ai hS fun a hS=>?_;obtain⟨I,a0,hM⟩:=bd hM;refine kc hS HE (kF _ _ hS.dlt g _ (hS.get 1 rfl) _ a0) fun _ w hR a hk hA=>?_;obtain⟨m,p,C,he,⟨P,M,U⟩⟩:=hR;obtain rfl:=he.symm;have hS:=hA [om m p C] (ei P (tU M)) (sP _);replace hS:=hS.fM (U.keep (au _ _) (iB _));refine ai hS fun a hS=>?_;refine aK (J:=fun a w=>∃ (F:LC) (z:Value) (u:LV),St W0 No T 40 [(7,z)] [ba z u] [an ad u F,bC] a w∧rD F=some y) ?_ ?_
 ·skip;refine ai hS fun a hS=>?_;refine wl rfl (a8 (ps:=[(0,.tmp 14),(1,.tmp 15)]) hS FA KH (zl:=[.slice none 0 0,.slice none 0 0]) (by kernel_rfl) rfl (us:=[[W],[X]]) ⟨(ft (aE.one ((hS.get 3 rfl):aE ad _ _ _ _))),⟨(ft (aE.one ((hS.get 2 rfl):aE ad _ _ _ _))),trivial⟩⟩ (ws:=[W,X]) rfl rfl rfl rfl fun bl a w hk hS=>?_);replace hS:=hS.lit (R:=(aY.slice ad)) (us:=[W,X]) (xs:=[e,g]) 0 rfl (by decide) ((aA.one_ (R:=(aY.slice ad)) (x:=e) (⟨_,rfl,(hS.get 3 rfl)⟩)).append (aA.one_ (R:=(aY.slice ad)) (x:=g) (⟨_,rfl,(hS.get 2 rfl)⟩))) rfl rfl;have hL:=hS;replace hL:=hL.freeze (R:=(aY.slice ad)) 0 rfl 0 rfl;obtain⟨r,a1,hM⟩:=bd hM;refine kc hS N9 (vM _ _ hL.dlt (hL.get 6 rfl) ([e,g]) _ (hL.get 0 rfl) _ a1) fun _ w hR a hk hA=>?_;obtain⟨t,n,he,⟨Q,N,V⟩⟩:=hR;obtain rfl:=he.symm;have hS:=hA [ay t n] (ei ⟨Q,by decide⟩ N) (sP _);replace hS:=hS.fR V;refine ai hS fun a hS=>?_;replace hS:=hS.nilRow ad 46 (by decide);obtain⟨r1,b9,hMo1⟩:=bd hM;refine bF _ (fun s a w=>∃ (q:LC) (f:Int) (A:Value) (D:LV),(q,f)=s∧St W0 No T 40 [(5,.map (some j)),(6,.map (some m)),(7,A),(17,t),(18,al (r.length:Int)),(19,al f)] [om j o B,om m p C,ba A D,ay t n] [kC o H,kC p I,an ad D q,an ac n r,bC] a w) b9 ⟨_,_,_,_,rfl,hS.mt [4,3,0,1] [4,3,0,1,7]⟩ ?_;rintro s a w f1 ⟨q,f,A,D,rfl,hS⟩ hM hf1;have hM:fC H I r q f=some f1:=hM;unfold fC at hM;refine ai hS fun a hS=>?_;refine aD ?_;rcases cd hM with⟨a5,hM⟩|⟨a5,hM⟩
  ·refine ai hS fun a hS=>?_;refine aK (J:=fun a w=>∃ (G:LC) (K:Value) (E:LV),St W0 No T 40 [(5,.map (some j)),(6,.map (some m)),(7,K),(17,t),(18,al (r.length:Int)),(19,al f)] [om j o B,om m p C,ba K E,ay t n] [kC o H,kC p I,an ad E G,an ac n r,bC] a w∧gW f G=some f1) ?_ ?_
   ·skip;refine ai hS fun a hS=>?_;obtain⟨b,Y,hM⟩:=bd hM;refine wl rfl (dj (R:=ac) hS kB dR rfl rfl 3 rfl 3 rfl Y rfl fun bs ca cb c1 a9 ab af a hS=>?_);obtain rfl:=a9;refine qy hS (ce (k:=0) hS dR 3 rfl ab af rfl id (us:=(aV b)) rfl rfl (fun h=>by cases h)) fun a hS=>?_;refine ka hS gU fun bt c9 a w hk hS=>?_;refine go hS fun a w hS=>?_;refine aD ?_;refine dr [] hS fun w hQ hS=>?_;refine gE [0,1] hS fun a hS=>?_;obtain⟨b4,a2,hM⟩:=bd hM;obtain⟨c2,ag,ak⟩:=fh hS qJ cT 1 rfl 0 rfl (c:=(aV b)) (key:=b) rfl Ej (zc:=[aO bI]) rfl rfl a2;obtain rfl:=ag;refine dy (l:=[]) 2 (v:=aO b4) rfl (by kernel_rfl) (by kernel_rfl) (by kernel_rfl) (by kernel_rfl) hQ hS (ak rfl rfl bP) rfl rfl rfl fun a hS=>?_;refine gE [3,4] hS fun a hS=>?_;obtain⟨b5,a3,hM⟩:=bd hM;obtain⟨c3,ao,av⟩:=fh hS qJ cT 2 rfl 1 rfl (c:=(aV b)) (key:=b) rfl Ej (zc:=[aO bI]) rfl rfl a3;obtain rfl:=ao;refine dy (l:=[]) 5 (v:=aO b5) rfl (by kernel_rfl) (by kernel_rfl) (by kernel_rfl) (by kernel_rfl) hQ hS (av rfl rfl bP) rfl rfl rfl fun a hS=>?_;refine gE [6] hS fun a hS=>?_;refine eD ?_;refine ai hS fun a hS=>?_;rcases cd hM with⟨b0,hM⟩|⟨b0,hM⟩
    ·refine ai hS fun a hS=>?_;refine dr [(7,.blk (Value.ownBlock A))] hS fun w hQ hS=>?_;refine gE [0,1,2,3] hS fun a hS=>?_;obtain⟨d,a4,hM⟩:=bd hM;obtain⟨c4,b1,b2⟩:=fh hS qJ cT 2 rfl 1 rfl (c:=(aV b)) (key:=b) rfl Ej (zc:=[aO bI]) rfl rfl a4;obtain rfl:=b1;refine dy (l:=[]) 4 (v:=aO d) rfl (by kernel_rfl) (by kernel_rfl) (by kernel_rfl) (by kernel_rfl) hQ hS (b2 rfl rfl bP) rfl rfl rfl fun a hS=>?_;refine dy 5 (v:=.agg #[al b.Kind,aO b.Text,aO d]) rfl (by kernel_rfl) (by kernel_rfl) (by kernel_rfl) rfl hQ hS (bq (ps:=[(0,.tmp 31),(1,.tmp 34)]) hS uQ ir rfl (us:=[(aV b),[aO d]]) ⟨rfl,⟨rfl,trivial⟩⟩ (ws:=[al b.Kind,aO b.Text,aO d]) rfl) rfl rfl rfl fun a hS=>?_;refine e1 6 (a8 (ps:=[(0,.tmp 35)]) hS qc ir (zl:=[al 0,aO bI,aO bI]) (by kernel_rfl) rfl (us:=[[al b.Kind,aO b.Text,aO d]]) ⟨rfl,trivial⟩ (ws:=[al b.Kind,aO b.Text,aO d]) rfl rfl rfl rfl fun c0 a w hk hS=>⟨gf (hk),?_⟩);replace hS:=(hS.lit (R:=ad) (us:=[al b.Kind,aO b.Text,aO d]) (xs:=[(am.mk b d)]) 0 rfl (by decide) (aA.one_ (R:=ad) (x:=(am.mk b d)) rfl) rfl rfl).freeze (R:=ad) 0 rfl 0 rfl;obtain⟨b3,hM⟩:=be hM;refine e1 7 (bM (R:=ad) (xs:=q) (ys:=[(am.mk b d)]) hS qc (by decide) (by decide) rfl rfl 3 rfl 4 rfl 0 rfl b3 rfl fun ch c5 a w hk hS=>⟨mx rfl hk mE,?_⟩);refine gE [8] hS fun a hS=>?_;refine eD ?_;exact⟨_,_,_,hS.mt [1,2,3,4] [3,4,0,6,7],hM⟩
    exact fz
   rintro a w ⟨G,K,E,hS,hM⟩;unfold gW at hM;exact fz
  exact fz
 rintro a w ⟨F,z,u,hS,hM⟩;unfold rD at hM;refine ai hS fun a hS=>?_;cases hM
 refine aI hS rfl (aq hS rfl aH) ?_;exact⟨z,u,rfl,hS.retOwn ⟨.inr (a6 (i:=0) rfl),trivial⟩ 0 rfl 0 rfl⟩
def gX (b:LC):Option Bool:=some (decide ((b.length:Int)≤64))
def cG (b:Int) (c:Bool):Option (Fl (Int) (Fl (Unit) Bool)):=cond c (some (.out (.out false))) (some (.go (IntKind.i64.wrap (b+1))))
def cq (d:LC) (b:Int):Option (Fl (Int) (Fl (Unit) Bool)):=cond (decide (b<(d.length:Int))) ((bu d b).bind fun c=>(dv c.Key).bind fun f=>cond (!(f)) (cG b true) ((l4 c.Key).bind fun g=>cond (!(g)) (cG b true) (cond (c.Value.toList==bI.toList) (cG b true) (cond (decide ((1073741824:Int)<(c.Value.size:Int))) (cG b true) (cond (decide ((0:Int)<b)) ((bu d (IntKind.i64.wrap (b-1))).bind fun e=>(sB e.Key c.Key).bind fun h=>cG b (decide ((0:Int)≤h))) (cG b false)))))) (some (.out (.go ())))
def bO (b:LC):Option Bool:=(loop (fun s:Int=>cq b s) 0).bind fun r=>Fl.el r (fun s=>gX b) (fun y=>some (y))
theorem iN (T:Nat→Prop) (W0:World) (hT:TW T W0) (hLv:di T W0) (b:LC) (d:Value) (E:aE ad T W0 d b) (y:Bool) (hM:bO b=some y):bj aP No 37 [d] W0 (fun v w'=>v = .bool y):=by
 refine en Tryz.func37 Tryz.ntmps37 hT fun a hS=>?_;replace hS:=(hS.fact bC (di.dn hLv)).fS (aE.dn E);unfold bO at hM;refine ai hS fun a hS=>?_;refine aK (J:=fun a w=>St W0 No T 53 [(0,d)] [] [aR ad d b,bC] a w∧gX b=some y) ?_ ?_
 ·skip;refine ai hS fun a hS=>?_;obtain⟨P,l,hMo1⟩:=bd hM;refine bF _ (fun s a w=>∃ (c:Int),c=s∧St W0 No T 53 [(0,d),(5,d),(6,al (b.length:Int)),(7,al c)] [] [aR ad d b,bC] a w) l ⟨_,rfl,hS.mt [] [0,1]⟩ ?_;rintro s a w D ⟨c,rfl,hS⟩ hM hf1;have hM:cq b c=some D:=hM;unfold cq at hM;refine ai hS fun a hS=>?_;refine aD ?_;rcases cd hM with⟨r,hM⟩|⟨r,hM⟩
  ·refine ai hS fun a hS=>?_;refine aD ?_;refine ai hS fun a hS=>?_;obtain⟨e,j,hM⟩:=bd hM;refine wl rfl (bm (R:=ad) hS tA s9 rfl rfl 0 rfl j rfl fun F L H t a hS=>?_);obtain rfl:=t;refine ai hS fun a hS=>?_;refine ka hS ir fun G K a w hk hS=>?_;refine go hS fun a w hS=>?_;refine aK (J:=fun a w=>∃ (f:Bool),St W0 No T 53 [(0,d),(5,d),(6,al (b.length:Int)),(7,al c),(48,.bool f)] [] [aR ad d b,bC] a w∧cG c f=some D) ?_ ?_
   ·skip;refine dr [] hS fun w hQ hS=>?_;refine gE [0,1] hS fun a hS=>?_;obtain⟨M,m,hM⟩:=bd hM;refine ec 2 hS JH (sC _ _ hS.dlt (hS.get 2 rfl) e.Key _ m) fun _ w hR a hk hA=>?_;obtain rfl:=hR;have hS:=bY hA;refine gE [3,4] hS fun a hS=>?_;rcases cd hM with⟨h,hM⟩|⟨h,hM⟩
    ·refine gE [5,6,7,8,9,10,11,12,13,14,15,16,17,18,19,20,21,22,23,24,25,26,27,28,29,30,31,32,33,34,35,36] hS fun a hS=>?_;refine eD ?_;exact⟨_,hS.mt [] [1,2],hM⟩
    refine gE [5,6] hS fun a hS=>?_;obtain⟨N,n,hM⟩:=bd hM;refine cI (i:=7) rfl (by kernel_rfl) hS rfl rfl rfl h (bg hS LP rfl rfl (uK _ _ hS.dlt e.Key _ n) fun _ w hR a hk hA=>⟨gf (hk),?_⟩);obtain rfl:=hR;have hS:=bY hA;refine gE [8,9,10] hS fun a hS=>?_;rcases cd hM with⟨u,hM⟩|⟨u,hM⟩
    ·refine gE [11,12,13,14,15,16,17,18,19,20,21,22,23,24,25,26,27,28,29,30,31,32,33,34,35,36] hS fun a hS=>?_;refine eD ?_;exact⟨_,hS.mt [] [1,2],hM⟩
    refine gE [11,12,13,14,15] hS fun a hS=>?_;rcases cd hM with⟨x,hM⟩|⟨x,hM⟩
    ·refine gE [16,17,18,19,20,21,22,23,24,25,26,27,28,29,30,31,32,33,34,35,36] hS fun a hS=>?_;refine eD ?_;exact⟨_,hS.mt [] [1,2],hM⟩
    refine gE [16,17,18,19,20,21] hS fun a hS=>?_;rcases cd hM with⟨z,hM⟩|⟨z,hM⟩
    ·refine gE [22,23,24,25,26,27,28,29,30,31,32,33,34,35,36] hS fun a hS=>?_;refine eD ?_;exact⟨_,hS.mt [] [1,2],hM⟩
    refine gE [22,23,24] hS fun a hS=>?_;rcases cd hM with⟨g,hM⟩|⟨g,hM⟩
    ·refine gE [25,26,27] hS fun a hS=>?_;obtain⟨q,k,hM⟩:=bd hM;obtain⟨p,C,I,A,B,hS⟩:=jj (R:=ad) hS tA s9 1 rfl k;obtain rfl:=A;refine y7 28 (v:=pt p C) rfl (by kernel_rfl) (by kernel_rfl) (by kernel_rfl) rfl hQ hS (B rfl rfl) rfl rfl rfl g rfl rfl fun a hS=>?_;refine gE [29,30,31,32] hS fun a hS=>?_;obtain⟨O,o,hM⟩:=bd hM;refine cI (i:=33) rfl (by kernel_rfl) hS rfl rfl rfl g (bg hS JG rfl rfl (vt _ _ hS.dlt (hS.get 3 rfl) q.Key e.Key _ o) fun _ w hR a hk hA=>⟨gf (hk),?_⟩);obtain rfl:=hR;have hS:=bY hA;refine gE [34,35,36] hS fun a hS=>?_;refine eD ?_;exact⟨_,hS.mt [] [2,3],hM⟩
    refine gE [25,26,27,28,29,30,31,32,33,34,35,36] hS fun a hS=>?_;refine eD ?_;exact⟨_,hS.mt [] [1,2],hM⟩
   rintro a w ⟨f,hS,hM⟩;unfold cG at hM;exact fz
  exact fz
 rintro a w ⟨hS,hM⟩;unfold gX at hM;exact fz
def iE (b:LC) (c:LK):Option (LC×LK×Int):=cond (decide ((64:Int)<(b.length:Int))) (some (([],[],45))) (cond (decide ((0:Int)<(c.length:Int))) (some ((b,c,49))) (some ((b,[],0))))
def kE (c:Int) (d:LC) (b:LK):Option (Fl (LC×LK×Int) (LC×LK)):=some (.go (d,b,IntKind.i64.wrap (c+1)))
def dH (b:LC) (f:Int) (e:ah) (d:LK) (c:ByteArray):Option (Fl (LC×LK×Int) (LC×LK)):=cond (!(c.toList==bI.toList)) (gd (bH (b.length+([(am.mk e c)]).length)) <| kE f (b++([(am.mk e c)])) d) (kE f b d)
def e6 (h:LB) (i:LB) (e:LC) (c:LK) (d:Int) (b:ah) (f:ByteArray) (g:Bool):Option (Fl (LC×LK×Int) (LC×LK)):=cond g (dH e d b c f) ((some ((cK aL b h).getD bI)).bind fun j=>cond (f.toList==j.toList) ((some ((cK aL b i).getD bI)).bind fun k=>dH e d b c k) (gd (bH (c.length+([b]).length)) <| dH e d b (c++([b])) f))
def ef (g:LB) (j:LB) (d:LB) (i:LK) (f:LC) (e:LK) (c:Int):Option (Fl (LC×LK×Int) (LC×LK)):=cond (decide (c<(i.length:Int))) ((bu i c).bind fun b=>(some ((cK aL b j).getD bI)).bind fun h=>(some ((cK aL b d).getD bI)).bind fun k=>(some ((cK aL b g).getD bI)).bind fun l=>cond (k.toList==l.toList) (e6 g d f e c b h true) ((some ((cK aL b d).getD bI)).bind fun m=>e6 g d f e c b h (m.toList==h.toList))) (some (.out (f,e)))
def ee (b:LC) (c:LC) (d:LC):Option (LC×LK×Int):=(bO b).bind fun i=>cond (!(i)) (some (([],[],5))) ((bO c).bind fun j=>cond (!(j)) (some (([],[],5))) ((bO d).bind fun k=>cond (!(k)) (some (([],[],5))) ((fA b).bind fun e=>(fA c).bind fun g=>(fA d).bind fun f=>(jY ([b,c,d])).bind fun h=>(loop (fun s:LC×LK×Int=>ef e g f h s.1 s.2.1 s.2.2) (([]:List am),([]:List ah),0)).bind fun r=>iE r.1 r.2)))
theorem rE (T:Nat→Prop) (W0:World) (hT:TW T W0) (hLv:di T W0) (n:LC) (E:LC) (F:LC) (v1:Value) (v2:Value) (v3:Value) (f4:aE ad T W0 v1 n) (f6:aE ad T W0 v2 E) (fd:aE ad T W0 v3 F) (y:LC×LK×Int) (hM:ee n E F=some y):bj aP No 27 [v1,v2,v3] W0 (fun v w'=>∃ (v4:Value) (wq:bv) (v6:Value) (xR:bv),v = .tuple #[v4,v6,al y.2.2]∧gg ad T W0 w' [ba v4 wq,ay v6 xR] 46 v4 wq y.1∧gg ac T W0 w' [ba v4 wq,ay v6 xR] 44 v6 xR y.2.1∧(∀ k,v4.ownBlock=some k→v6.ownBlock≠some k)):=by
 refine en Tryz.func27 Tryz.ntmps27 hT fun a hS=>?_;replace hS:=(((hS.fact bC (di.dn hLv)).fS (aE.dn f4)).fS (aE.dn f6)).fS (aE.dn fd);unfold ee at hM;refine ai hS fun a hS=>?_;refine aD ?_;refine iY ?_;refine ai hS fun a hS=>?_;obtain⟨gs,co,hM⟩:=bd hM;refine kc hS HC (iN _ _ hS.dlt (hS.get 3 rfl) n _ (hS.get 2 rfl) _ co) fun _ w hR a hk hA=>?_;obtain rfl:=hR;have hS:=bY hA;refine ai hS fun a hS=>?_;rcases cd hM with⟨ab,hM⟩|⟨ab,hM⟩
 ·refine ai hS fun a hS=>?_;cases hM
  refine aI hS Tryz.results27 (aq hS rfl (aq hS rfl (aq hS rfl aH))) ?_;exact⟨.slice none 0 0,[],.slice none 0 0,[],rfl,eE _ _ _ _ _ _,eE _ _ _ _ _ _,(fun k h=>by simp [Value.ownBlock] at *)⟩
 refine ai hS fun a hS=>?_;obtain⟨gu,cs,hM⟩:=bd hM;refine wg hS rfl rfl rfl ab (bg hS HC rfl rfl (iN _ _ hS.dlt (hS.get 3 rfl) E _ (hS.get 1 rfl) _ cs) fun _ w hR a hk hA=>?_);obtain rfl:=hR;have hS:=bY hA;refine ai hS fun a hS=>?_;rcases cd hM with⟨af,hM⟩|⟨af,hM⟩
 ·refine ai hS fun a hS=>?_;cases hM
  refine aI hS Tryz.results27 (aq hS rfl (aq hS rfl (aq hS rfl aH))) ?_;exact⟨.slice none 0 0,[],.slice none 0 0,[],rfl,eE _ _ _ _ _ _,eE _ _ _ _ _ _,(fun k h=>by simp [Value.ownBlock] at *)⟩
 refine ai hS fun a hS=>?_;obtain⟨h0,cv,hM⟩:=bd hM;refine wg hS rfl rfl rfl af (bg hS HC rfl rfl (iN _ _ hS.dlt (hS.get 3 rfl) F _ (hS.get 0 rfl) _ cv) fun _ w hR a hk hA=>?_);obtain rfl:=hR;have hS:=bY hA;refine ai hS fun a hS=>?_;rcases cd hM with⟨d0,hM⟩|⟨d0,hM⟩
 ·refine ai hS fun a hS=>?_;cases hM
  refine aI hS Tryz.results27 (aq hS rfl (aq hS rfl (aq hS rfl aH))) ?_;exact⟨.slice none 0 0,[],.slice none 0 0,[],rfl,eE _ _ _ _ _ _,eE _ _ _ _ _ _,(fun k h=>by simp [Value.ownBlock] at *)⟩
 refine ai hS fun a hS=>?_;obtain⟨C,c2,hM⟩:=bd hM;refine kc hS HE (kF _ _ hS.dlt n _ (hS.get 2 rfl) _ c2) fun _ w hR a hk hA=>?_;obtain⟨g,p,G,he,⟨b1,ak,b5⟩⟩:=hR;obtain rfl:=he.symm;have hS:=hA [om g p G] (ei b1 (tU ak)) (sP _);replace hS:=hS.fM (b5.keep (au _ _) (iB _));refine ai hS fun a hS=>?_;obtain⟨M,ca,hM⟩:=bd hM;refine kc hS HE (kF _ _ hS.dlt E _ (hS.get 2 rfl) _ ca) fun _ w hR a hk hA=>?_;obtain⟨j,q,H,he,⟨b2,ao,b6⟩⟩:=hR;obtain rfl:=he.symm;have hS:=hA [om j q H] (ei b2 (tU ao)) (sP _);replace hS:=hS.fM (b6.keep (au _ _) (iB _));refine ai hS fun a hS=>?_;obtain⟨D,c3,hM⟩:=bd hM;refine kc hS HE (kF _ _ hS.dlt F _ (hS.get 2 rfl) _ c3) fun _ w hR a hk hA=>?_;obtain⟨m,r,I,he,⟨b3,av,b8⟩⟩:=hR;obtain rfl:=he.symm;have hS:=hA [om m r I] (ei b3 (tU av)) (sP _);replace hS:=hS.fM (b8.keep (au _ _) (iB _));refine ai hS fun a hS=>?_;refine aK (J:=fun a w=>∃ (a1:LC) (U:LK) (N:Value) (K:LV) (S:Value) (Q:LV),St W0 No T 97 [(12,N),(13,S)] [ba N K,ay S Q] [an ad K a1,an ac Q U,bC] a w∧iE a1 U=some y) ?_ ?_
 ·skip;refine ai hS fun a hS=>?_;refine wl rfl (a8 (ps:=[(0,.tmp 36),(1,.tmp 37),(2,.tmp 38)]) hS FA KH (zl:=[.slice none 0 0,.slice none 0 0,.slice none 0 0]) (by kernel_rfl) rfl (us:=[[v1],[v2],[v3]]) ⟨(ft (aE.one ((hS.get 5 rfl):aE ad _ _ _ _))),⟨(ft (aE.one ((hS.get 4 rfl):aE ad _ _ _ _))),⟨(ft (aE.one ((hS.get 3 rfl):aE ad _ _ _ _))),trivial⟩⟩⟩ (ws:=[v1,v2,v3]) rfl rfl rfl rfl fun fl a w hk hS=>?_);replace hS:=hS.lit (R:=(aY.slice ad)) (us:=[v1,v2,v3]) (xs:=[n,E,F]) 0 rfl (by decide) ((aA.one_ (R:=(aY.slice ad)) (x:=n) (⟨_,rfl,(hS.get 5 rfl)⟩)).append ((aA.one_ (R:=(aY.slice ad)) (x:=E) (⟨_,rfl,(hS.get 4 rfl)⟩)).append (aA.one_ (R:=(aY.slice ad)) (x:=F) (⟨_,rfl,(hS.get 3 rfl)⟩)))) rfl rfl;have hL:=hS;replace hL:=hL.freeze (R:=(aY.slice ad)) 0 rfl 0 rfl;obtain⟨t,cb,hM⟩:=bd hM;refine kc hS N9 (vM _ _ hL.dlt (hL.get 8 rfl) ([n,E,F]) _ (hL.get 0 rfl) _ cb) fun _ w hR a hk hA=>?_;obtain⟨u,o,he,⟨b4,b0,b9⟩⟩:=hR;obtain rfl:=he.symm;have hS:=hA [ay u o] (ei ⟨b4,by decide⟩ b0) (sP _);replace hS:=hS.fR b9;refine ai hS fun a hS=>?_;replace hS:=(hS.nilRow ad 46 (by decide)).nilRow ac 44 (by decide);obtain⟨r1,f3,hMo1⟩:=bd hM;refine bF _ (fun s a w=>∃ (f:LC) (z:LK) (e:Int) (B:Value) (A:LV) (O:Value) (L:LV),(f,z,e)=s∧St W0 No T 97 [(9,.map (some g)),(10,.map (some j)),(11,.map (some m)),(12,B),(13,O),(40,u),(41,al (t.length:Int)),(42,al e)] [om g p G,om j q H,om m r I,ba B A,ay O L,ay u o] [kC p C,kC q M,kC r D,an ad A f,an ac L z,an ac o t,bC] a w) f3 ⟨_,_,_,_,_,_,_,rfl,hS.mt [6,5,4,1,0,2] [6,5,4,1,0,2,10]⟩ ?_;rintro s a w f1 ⟨f,z,e,B,A,O,L,rfl,hS⟩ hM hf1;have hM:ef C M D t f z e=some f1:=hM;unfold ef at hM;refine ai hS fun a hS=>?_;refine aD ?_;rcases cd hM with⟨d1,hM⟩|⟨d1,hM⟩
  ·refine ai hS fun a hS=>?_;refine aK (J:=fun a w=>∃ (a2:LC) (V:LK) (a4:Value) (X:LV) (a5:Value) (Y:LV),St W0 No T 97 [(9,.map (some g)),(10,.map (some j)),(11,.map (some m)),(12,a4),(13,a5),(40,u),(41,al (t.length:Int)),(42,al e)] [om g p G,om j q H,om m r I,ba a4 X,ay a5 Y,ay u o] [kC p C,kC q M,kC r D,an ad X a2,an ac Y V,an ac o t,bC] a w∧kE e a2 V=some f1) ?_ ?_
   ·skip;refine ai hS fun a hS=>?_;obtain⟨b,c1,hM⟩:=bd hM;refine wl rfl (dj (R:=ac) hS kB dR rfl rfl 5 rfl 5 rfl c1 rfl fun fn gi gp g0 d2 d3 d4 a hS=>?_);obtain rfl:=d2;refine qy hS (ce (k:=0) hS dR 5 rfl d3 d4 rfl id (us:=(aV b)) rfl rfl (fun h=>by cases h)) fun a hS=>?_;refine ka hS gU fun P gb a w hk hS=>?_;refine go hS fun a w hS=>?_;obtain⟨a3,c4,hM⟩:=bd hM;obtain⟨g1,d6,da⟩:=fh hS qJ cT 2 rfl 1 rfl (c:=(aV b)) (key:=b) rfl Ej (zc:=[aO bI]) rfl rfl c4;obtain rfl:=d6;refine wl rfl (ky (v:=aO a3) hS (da rfl rfl id) rfl rfl fun a hS=>?_);refine ai hS fun a hS=>?_;refine aK (J:=fun a w=>∃ (W:LK) (d:ByteArray) (a9:Value) (Z:LV),St W0 No T 97 [(9,.map (some g)),(10,.map (some j)),(11,.map (some m)),(12,B),(13,a9),(15,pt P 0),(16,aO d),(40,u),(41,al (t.length:Int)),(42,al e)] [om g p G,om j q H,om m r I,ba B A,ay a9 Z,ay u o,.box P (aV b) 44] [kC p C,kC q M,kC r D,an ad A f,an ac Z W,an ac o t,bC] a w∧dH f e b W d=some f1) ?_ ?_
    ·skip;refine ai hS fun a hS=>?_;refine aK (J:=fun a w=>∃ (a0:Bool),St W0 No T 97 [(9,.map (some g)),(10,.map (some j)),(11,.map (some m)),(12,B),(13,O),(15,pt P 0),(16,aO a3),(40,u),(41,al (t.length:Int)),(42,al e),(53,.bool a0)] [om g p G,om j q H,om m r I,ba B A,ay O L,ay u o,.box P (aV b) 44] [kC p C,kC q M,kC r D,an ad A f,an ac L z,an ac o t,bC] a w∧e6 C D f z e b a3 a0=some f1) ?_ ?_
     ·skip;refine dr [] hS fun w hQ hS=>?_;refine gE [0,1] hS fun a hS=>?_;obtain⟨eT,ch,hM⟩:=bd hM;obtain⟨g2,dc,dk⟩:=fh hS qJ cT 3 rfl 2 rfl (c:=(aV b)) (key:=b) rfl Ej (zc:=[aO bI]) rfl rfl ch;obtain rfl:=dc;refine dy (l:=[]) 2 (v:=aO eT) rfl (by kernel_rfl) (by kernel_rfl) (by kernel_rfl) (by kernel_rfl) hQ hS (dk rfl rfl bP) rfl rfl rfl fun a hS=>?_;refine gE [3,4] hS fun a hS=>?_;obtain⟨eX,ck,hM⟩:=bd hM;obtain⟨g3,dl,ds⟩:=fh hS qJ cT 1 rfl 0 rfl (c:=(aV b)) (key:=b) rfl Ej (zc:=[aO bI]) rfl rfl ck;obtain rfl:=dl;refine dy (l:=[]) 5 (v:=aO eX) rfl (by kernel_rfl) (by kernel_rfl) (by kernel_rfl) (by kernel_rfl) hQ hS (ds rfl rfl bP) rfl rfl rfl fun a hS=>?_;refine gE [6,7] hS fun a hS=>?_;rcases cd hM with⟨ag,hM⟩|⟨ag,hM⟩
      ·refine gE [8,9,10,11,12,13,14] hS fun a hS=>?_;refine eD ?_;exact⟨_,hS.mt [1,2,3,4,5,6,0] [0,1,2,3,4,5,6],hM⟩
      refine gE [8,9] hS fun a hS=>?_;obtain⟨f2,cl,hM⟩:=bd hM;obtain⟨g4,e2,e3⟩:=fh hS qJ cT 3 rfl 2 rfl (c:=(aV b)) (key:=b) rfl Ej (zc:=[aO bI]) rfl rfl cl;obtain rfl:=e2;refine y7 (l:=[]) 10 (v:=aO f2) rfl (by kernel_rfl) (by kernel_rfl) (by kernel_rfl) (by kernel_rfl) hQ hS (e3 rfl rfl bP) rfl rfl rfl ag rfl rfl fun a hS=>?_;refine gE [11,12,13,14] hS fun a hS=>?_;refine eD ?_;exact⟨_,hS.mt [1,2,3,4,5,6,0] [0,1,2,3,4,5,6],hM⟩
     rintro a w ⟨a0,hS,hM⟩;unfold e6 at hM;rcases cd hM with⟨e4,hM⟩|⟨e4,hM⟩
     ·exact fz
     refine ai hS fun a hS=>?_;obtain⟨et,c5,hM⟩:=bd hM;obtain⟨g5,e5,e8⟩:=fh hS qJ cT 0 rfl 0 rfl (c:=(aV b)) (key:=b) rfl Ej (zc:=[aO bI]) rfl rfl c5;obtain rfl:=e5;refine wl rfl (ky (v:=aO et) hS (e8 rfl rfl id) rfl rfl fun a hS=>?_);refine ai hS fun a hS=>?_;rcases cd hM with⟨ea,hM⟩|⟨ea,hM⟩
     ·refine ai hS fun a hS=>?_;obtain⟨ex,c9,hM⟩:=bd hM;obtain⟨g6,ed,eg⟩:=fh hS qJ cT 2 rfl 2 rfl (c:=(aV b)) (key:=b) rfl Ej (zc:=[aO bI]) rfl rfl c9;obtain rfl:=ed;refine wl rfl (ky (v:=aO ex) hS (eg rfl rfl id) rfl rfl fun a hS=>?_);exact fz
     refine ai hS fun a hS=>?_;refine wl rfl (a8 (ps:=[(0,.tmp 50)]) hS gY gU (zl:=[al 0,aO bI]) (by kernel_rfl) rfl (us:=[(aV b)]) ⟨rfl,trivial⟩ (ws:=(aV b)) rfl rfl rfl rfl fun fr a w hk hS=>?_);replace hS:=(hS.lit (R:=ac) (us:=(aV b)) (xs:=[b]) 0 rfl (by decide) (aA.one_ (R:=ac) (x:=b) rfl) rfl rfl).freeze (R:=ac) 0 rfl 0 rfl;obtain⟨ek,hM⟩:=be hM;refine wl rfl (bM (R:=ac) (xs:=z) (ys:=[b]) hS gY (by decide) (by decide) rfl rfl 4 rfl 6 rfl 0 rfl ek rfl fun h1 g7 a w hk hS=>?_);exact fz
    rintro a w ⟨W,d,a9,Z,hS,hM⟩;unfold dH at hM;refine ai hS fun a hS=>?_;rcases cd hM with⟨el,hM⟩|⟨el,hM⟩
    ·refine ai hS fun a hS=>?_;refine qy hS (bq (ps:=[(0,.tmp 80),(1,.tmp 81)]) hS uQ ir rfl (us:=[(aV b),[aO d]]) ⟨rfl,⟨rfl,trivial⟩⟩ (ws:=[al b.Kind,aO b.Text,aO d]) rfl) fun a hS=>?_;refine wl rfl (a8 (ps:=[(0,.tmp 82)]) hS qc ir (zl:=[al 0,aO bI,aO bI]) (by kernel_rfl) rfl (us:=[[al b.Kind,aO b.Text,aO d]]) ⟨rfl,trivial⟩ (ws:=[al b.Kind,aO b.Text,aO d]) rfl rfl rfl rfl fun fs a w hk hS=>?_);replace hS:=(hS.lit (R:=ad) (us:=[al b.Kind,aO b.Text,aO d]) (xs:=[(am.mk b d)]) 0 rfl (by decide) (aA.one_ (R:=ad) (x:=(am.mk b d)) rfl) rfl rfl).freeze (R:=ad) 0 rfl 0 rfl;obtain⟨em,hM⟩:=be hM;refine wl rfl (bM (R:=ad) (xs:=f) (ys:=[(am.mk b d)]) hS qc (by decide) (by decide) rfl rfl 3 rfl 5 rfl 0 rfl em rfl fun h2 g8 a w hk hS=>?_);exact fz
    exact fz
   rintro a w ⟨a2,V,a4,X,a5,Y,hS,hM⟩;unfold kE at hM;exact fz
  refine ai hS fun a hS=>?_;cases hM
  have hr:=hf1 _ rfl;subst hr;have hM:iE f z=some y:=hMo1;exact⟨_,_,_,_,_,_,hS.mt [3,4] [3,4,6],hM⟩
 rintro a w ⟨a1,U,N,K,S,Q,hS,hM⟩;unfold iE at hM;refine aD ?_;refine ai hS fun a hS=>?_;rcases cd hM with⟨eq,hM⟩|⟨eq,hM⟩
 ·refine ai hS fun a hS=>?_;cases hM
  refine aI hS Tryz.results27 (aq hS rfl (aq hS rfl (aq hS rfl aH))) ?_;exact⟨.slice none 0 0,[],.slice none 0 0,[],rfl,eE _ _ _ _ _ _,eE _ _ _ _ _ _,(fun k h=>by simp [Value.ownBlock] at *)⟩
 refine ai hS fun a hS=>?_;rcases cd hM with⟨er,hM⟩|⟨er,hM⟩
 ·refine ai hS fun a hS=>?_;cases hM
  refine aI hS Tryz.results27 (aq hS rfl (aq hS rfl (aq hS rfl aH))) ?_;exact⟨N,K,S,Q,rfl,hS.retOwn ⟨.inr (a6 (i:=0) rfl),⟨.inr (a6 (i:=1) rfl),trivial⟩⟩ 0 rfl 0 rfl,hS.retOwn ⟨.inr (a6 (i:=0) rfl),⟨.inr (a6 (i:=1) rfl),trivial⟩⟩ 1 rfl 1 rfl,(hS.apart2 0 rfl 1 rfl (by decide))⟩
 refine ai hS fun a hS=>?_;cases hM
 refine aI hS Tryz.results27 (aq hS rfl (aq hS rfl (aq hS rfl aH))) ?_;exact⟨N,K,.slice none 0 0,[],rfl,hS.retOwn ⟨.inr (a6 (i:=0) rfl),⟨.inl rfl,trivial⟩⟩ 0 rfl 0 rfl,eE _ _ _ _ _ _,(fun k h=>by simp [Value.ownBlock] at *)⟩
def jC (b:Bool):Option Bool:=some (b)
def fF:Option Bool:=(c6 0).bind fun c=>(c6 0).bind fun d=>(c6 0).bind fun e=>(c6 1).bind fun f=>(ee ([(am.mk c (ByteArray.mk #[49]))]) ([(am.mk d (ByteArray.mk #[50]))]) ([(am.mk e (ByteArray.mk #[49])),(am.mk f (ByteArray.mk #[53]))])).bind fun b=>cond (b.2.2==0) (cond ((b.2.1.length:Int)==0) ((c6 0).bind fun g=>(c6 1).bind fun h=>(eR b.1 ([(am.mk g (ByteArray.mk #[50])),(am.mk h (ByteArray.mk #[53]))])).bind fun i=>cond i ((ez ([(am.mk c (ByteArray.mk #[49]))]) ([(am.mk d (ByteArray.mk #[50]))])).bind fun j=>jC ((j.length:Int)==1)) (jC false)) (jC false)) (jC false)
theorem ja (T:Nat→Prop) (W0:World) (hT:TW T W0) (hLv:di T W0) (y:Bool) (hM:fF=some y):bj aP No 6 [] W0 (fun v w'=>v = .bool y):=by
 refine en Tryz.func6 Tryz.ntmps6 hT fun a hS=>?_;replace hS:=hS.fact bC (di.dn hLv);unfold fF at hM;refine ai hS fun a hS=>?_;obtain⟨b,t,hM⟩:=bd hM;refine kc hS xO (dO _ _ hS.dlt (hS.get 0 rfl) 0 _ t) fun _ w hR a hk hA=>?_;obtain rfl:=hR;have hS:=bY hA;refine qy hS (bq (ps:=[(0,.tmp 7),(1,.const (.string ⟨#[49]⟩))]) hS uQ ir rfl (us:=[(aV b),[aO (ByteArray.mk #[49])]]) ⟨rfl,⟨rfl,trivial⟩⟩ (ws:=[al b.Kind,aO b.Text,aO (ByteArray.mk #[49])]) rfl) fun a hS=>?_;refine wl rfl (a8 (ps:=[(0,.tmp 8)]) hS qc ir (zl:=[al 0,aO bI,aO bI]) (by kernel_rfl) rfl (us:=[[al b.Kind,aO b.Text,aO (ByteArray.mk #[49])]]) ⟨rfl,trivial⟩ (ws:=[al b.Kind,aO b.Text,aO (ByteArray.mk #[49])]) rfl rfl rfl rfl fun Q a w hk hS=>?_);refine ai hS fun a hS=>?_;obtain⟨c,u,hM⟩:=bd hM;refine kc hS xO (dO _ _ hS.dlt (hS.get 0 rfl) 0 _ u) fun _ w hR a hk hA=>?_;obtain rfl:=hR;have hS:=bY hA;refine qy hS (bq (ps:=[(0,.tmp 10),(1,.const (.string ⟨#[50]⟩))]) hS uQ ir rfl (us:=[(aV c),[aO (ByteArray.mk #[50])]]) ⟨rfl,⟨rfl,trivial⟩⟩ (ws:=[al c.Kind,aO c.Text,aO (ByteArray.mk #[50])]) rfl) fun a hS=>?_;refine wl rfl (a8 (ps:=[(0,.tmp 11)]) hS qc ir (zl:=[al 0,aO bI,aO bI]) (by kernel_rfl) rfl (us:=[[al c.Kind,aO c.Text,aO (ByteArray.mk #[50])]]) ⟨rfl,trivial⟩ (ws:=[al c.Kind,aO c.Text,aO (ByteArray.mk #[50])]) rfl rfl rfl rfl fun S a w hk hS=>?_);refine ai hS fun a hS=>?_;obtain⟨d,z,hM⟩:=bd hM;refine kc hS xO (dO _ _ hS.dlt (hS.get 0 rfl) 0 _ z) fun _ w hR a hk hA=>?_;obtain rfl:=hR;have hS:=bY hA;refine qy hS (bq (ps:=[(0,.tmp 13),(1,.const (.string ⟨#[49]⟩))]) hS uQ ir rfl (us:=[(aV d),[aO (ByteArray.mk #[49])]]) ⟨rfl,⟨rfl,trivial⟩⟩ (ws:=[al d.Kind,aO d.Text,aO (ByteArray.mk #[49])]) rfl) fun a hS=>?_;obtain⟨e,A,hM⟩:=bd hM;refine kc hS xO (dO _ _ hS.dlt (hS.get 0 rfl) 1 _ A) fun _ w hR a hk hA=>?_;obtain rfl:=hR;have hS:=bY hA;refine qy hS (bq (ps:=[(0,.tmp 15),(1,.const (.string ⟨#[53]⟩))]) hS uQ ir rfl (us:=[(aV e),[aO (ByteArray.mk #[53])]]) ⟨rfl,⟨rfl,trivial⟩⟩ (ws:=[al e.Kind,aO e.Text,aO (ByteArray.mk #[53])]) rfl) fun a hS=>?_;refine wl rfl (a8 (ps:=[(0,.tmp 14),(1,.tmp 16)]) hS qc ir (zl:=[al 0,aO bI,aO bI,al 0,aO bI,aO bI]) (by kernel_rfl) rfl (us:=[[al d.Kind,aO d.Text,aO (ByteArray.mk #[49])],[al e.Kind,aO e.Text,aO (ByteArray.mk #[53])]]) ⟨rfl,⟨rfl,trivial⟩⟩ (ws:=[al d.Kind,aO d.Text,aO (ByteArray.mk #[49]),al e.Kind,aO e.Text,aO (ByteArray.mk #[53])]) rfl rfl rfl rfl fun U a w hk hS=>?_);refine ai hS fun a hS=>?_;replace hS:=((hS.lit (R:=ad) (us:=[al b.Kind,aO b.Text,aO (ByteArray.mk #[49])]) (xs:=[(am.mk b (ByteArray.mk #[49]))]) 2 rfl (by decide) (aA.one_ (R:=ad) (x:=(am.mk b (ByteArray.mk #[49]))) rfl) rfl rfl).lit (R:=ad) (us:=[al c.Kind,aO c.Text,aO (ByteArray.mk #[50])]) (xs:=[(am.mk c (ByteArray.mk #[50]))]) 1 rfl (by decide) (aA.one_ (R:=ad) (x:=(am.mk c (ByteArray.mk #[50]))) rfl) rfl rfl).lit (R:=ad) (us:=[al d.Kind,aO d.Text,aO (ByteArray.mk #[49]),al e.Kind,aO e.Text,aO (ByteArray.mk #[53])]) (xs:=[(am.mk d (ByteArray.mk #[49])),(am.mk e (ByteArray.mk #[53]))]) 0 rfl (by decide) ((aA.one_ (R:=ad) (x:=(am.mk d (ByteArray.mk #[49]))) rfl).append (aA.one_ (R:=ad) (x:=(am.mk e (ByteArray.mk #[53]))) rfl)) rfl rfl;have hL:=hS;replace hL:=hL.freeze (R:=ad) 2 rfl 2 rfl;replace hL:=hL.freeze (R:=ad) 1 rfl 2 rfl;replace hL:=hL.freeze (R:=ad) 0 rfl 2 rfl;obtain⟨L,B,hM⟩:=bd hM;refine kc hS LD (rE _ _ hL.dlt (hL.get 6 rfl) ([(am.mk b (ByteArray.mk #[49]))]) ([(am.mk c (ByteArray.mk #[50]))]) ([(am.mk d (ByteArray.mk #[49])),(am.mk e (ByteArray.mk #[53]))]) _ _ _ (hL.get 2 rfl) (hL.get 1 rfl) (hL.get 0 rfl) _ B) fun _ w hR a hk hA=>?_;obtain⟨M,G,N,H,he,⟨n,k,q⟩,⟨o,l,r⟩,P⟩:=hR;obtain rfl:=he.symm;have hS:=hA [ba M G,ay N H] (KO ⟨n,by decide⟩ k ⟨o,by decide⟩ l) (Qs P);replace hS:=(hS.fR q).fR r;refine ai hS fun a hS=>?_;refine aK (J:=fun a w=>∃ (i:Bool),St W0 No T 49 [(0,.bool i)] [] [bC] a w∧jC i=some y) ?_ ?_
 ·skip;refine ai hS fun a hS=>?_;rcases cd hM with⟨K,hM⟩|⟨K,hM⟩
  ·refine ai hS fun a hS=>?_;rcases cd hM with⟨h,hM⟩|⟨h,hM⟩
   ·refine ai hS fun a hS=>?_;obtain⟨f,C,hM⟩:=bd hM;refine wg hS rfl rfl rfl h (bg hS xO rfl rfl (dO _ _ hS.dlt (hS.get 5 rfl) 0 _ C) fun _ w hR a hk hA=>?_);obtain rfl:=hR;have hS:=bY hA;refine qg hS h (bq (ps:=[(0,.tmp 35),(1,.const (.string ⟨#[50]⟩))]) hS uQ ir rfl (us:=[(aV f),[aO (ByteArray.mk #[50])]]) ⟨rfl,⟨rfl,trivial⟩⟩ (ws:=[al f.Kind,aO f.Text,aO (ByteArray.mk #[50])]) rfl) fun a hS=>?_;obtain⟨g,D,hM⟩:=bd hM;refine wg hS rfl rfl rfl h (bg hS xO rfl rfl (dO _ _ hS.dlt (hS.get 5 rfl) 1 _ D) fun _ w hR a hk hA=>?_);obtain rfl:=hR;have hS:=bY hA;refine qg hS h (bq (ps:=[(0,.tmp 37),(1,.const (.string ⟨#[53]⟩))]) hS uQ ir rfl (us:=[(aV g),[aO (ByteArray.mk #[53])]]) ⟨rfl,⟨rfl,trivial⟩⟩ (ws:=[al g.Kind,aO g.Text,aO (ByteArray.mk #[53])]) rfl) fun a hS=>?_;refine wg hS rfl rfl rfl h (a8 (ps:=[(0,.tmp 36),(1,.tmp 38)]) hS qc ir (zl:=[al 0,aO bI,aO bI,al 0,aO bI,aO bI]) (by kernel_rfl) rfl (us:=[[al f.Kind,aO f.Text,aO (ByteArray.mk #[50])],[al g.Kind,aO g.Text,aO (ByteArray.mk #[53])]]) ⟨rfl,⟨rfl,trivial⟩⟩ (ws:=[al f.Kind,aO f.Text,aO (ByteArray.mk #[50]),al g.Kind,aO g.Text,aO (ByteArray.mk #[53])]) rfl rfl rfl rfl fun V a w hk hS=>?_);replace hS:=hS.lit (R:=ad) (us:=[al f.Kind,aO f.Text,aO (ByteArray.mk #[50]),al g.Kind,aO g.Text,aO (ByteArray.mk #[53])]) (xs:=[(am.mk f (ByteArray.mk #[50])),(am.mk g (ByteArray.mk #[53]))]) 0 rfl (by decide) ((aA.one_ (R:=ad) (x:=(am.mk f (ByteArray.mk #[50]))) rfl).append (aA.one_ (R:=ad) (x:=(am.mk g (ByteArray.mk #[53]))) rfl)) rfl rfl;have hL:=hS;replace hL:=hL.freeze (R:=ad) 1 rfl 2 rfl;replace hL:=hL.freeze (R:=ad) 0 rfl 1 rfl;obtain⟨W,E,hM⟩:=bd hM;refine wg hS rfl rfl rfl h (bg hS EA rfl rfl (kz _ _ hL.dlt L.1 ([(am.mk f (ByteArray.mk #[50])),(am.mk g (ByteArray.mk #[53]))]) _ _ (hL.get 1 rfl) (hL.get 0 rfl) _ E) fun _ w hR a hk hA=>?_);obtain rfl:=hR;have hS:=bY hA;refine ai hS fun a hS=>?_;rcases cd hM with⟨j,hM⟩|⟨j,hM⟩
    ·refine ai hS fun a hS=>?_;have hL:=hS;replace hL:=hL.freeze (R:=ad) 5 rfl 5 rfl;replace hL:=hL.freeze (R:=ad) 4 rfl 5 rfl;obtain⟨X,F,hM⟩:=bd hM;refine wg hS rfl rfl rfl j (bg hS Df rfl rfl (gA _ _ hL.dlt (hL.get 8 rfl) ([(am.mk b (ByteArray.mk #[49]))]) ([(am.mk c (ByteArray.mk #[50]))]) _ _ (hL.get 1 rfl) (hL.get 0 rfl) _ F) fun _ w hR a hk hA=>?_);obtain⟨O,I,he,⟨p,m,s⟩⟩:=hR;obtain rfl:=he.symm;have hS:=hA [ba O I] (ei ⟨p,by decide⟩ m) (sP _);replace hS:=hS.fR s;exact fz
    exact fz
   exact fz
  exact fz
 rintro a w ⟨i,hS,hM⟩;unfold jC at hM;exact fz
def pc (b:LC):Option LC:=some (b)
def jr (b:Int) (c:LC):Option (Fl (LC×Int) (LC)):=some (.go (c,IntKind.i64.wrap (b+1)))
def gI (e:aj) (d:LC) (c:Int):Option (Fl (LC×Int) (LC)):=cond (decide (c<(e.Inputs.length:Int))) ((bu e.Inputs c).bind fun b=>cond (!(b.Value.toList==bI.toList)) (gd (bH (d.length+([(am.mk b.Key b.Value)]).length)) <| jr c (d++([(am.mk b.Key b.Value)]))) (jr c d)) (some (.out d))
def d7 (b:aj):Option LC:=(loop (fun s:LC×Int=>gI b s.1 s.2) (([]:List am),0)).bind fun r=>pc r
theorem iD (T:Nat→Prop) (W0:World) (hT:TW T W0) (c:aj) (o:Value) (E:Value) (C:aE ae T W0 o c.Inputs) (D:aE aa T W0 E c.Records) (y:LC) (hM:d7 c=some y):bj aP No 9 [.agg (bf c o E).toArray] W0 (fun v w'=>∃ (z:Value) (sI:bv),v=z∧gg ad T W0 w' [ba z sI] 46 z sI y):=by
 refine en Tryz.func9 Tryz.ntmps9 hT fun a hS=>?_;replace hS:=(hS.fS (aE.dn C)).fS (aE.dn D);unfold d7 at hM;refine ai hS fun a hS=>?_;refine kb hS fun F M a w hk hS=>?_;refine ai hS fun a hS=>?_;refine aK (J:=fun a w=>∃ (k:LC) (g:Value) (f:LV),St W0 No T 26 [(3,g)] [ba g f] [an ad f k] a w∧pc k=some y) ?_ ?_
 ·skip;refine ai hS fun a hS=>?_;replace hS:=hS.nilRow ad 46 (by decide);obtain⟨Q,B,hMo1⟩:=bd hM;refine bF _ (fun s a w=>∃ (e:LC) (d:Int) (m:Value) (h:LV),(e,d)=s∧St W0 No T 26 [(3,m),(7,o),(8,al (c.Inputs.length:Int)),(9,al d)] [ba m h] [an ad h e,aR ae o c.Inputs] a w) B ⟨_,_,_,_,rfl,hS.mt [0] [0,2]⟩ ?_;rintro s a w A ⟨e,d,m,h,rfl,hS⟩ hM hf1;have hM:gI c e d=some A:=hM;unfold gI at hM;refine ai hS fun a hS=>?_;refine aD ?_;rcases cd hM with⟨q,hM⟩|⟨q,hM⟩
  ·refine ai hS fun a hS=>?_;refine aK (J:=fun a w=>∃ (l:LC) (n:Value) (j:LV),St W0 No T 26 [(3,n),(7,o),(8,al (c.Inputs.length:Int)),(9,al d)] [ba n j] [an ad j l,aR ae o c.Inputs] a w∧jr d l=some A) ?_ ?_
   ·skip;refine ai hS fun a hS=>?_;obtain⟨b,p,hM⟩:=bd hM;refine wl rfl (bm (R:=ae) hS u5 uz rfl rfl 1 rfl p rfl fun G O K r a hS=>?_);obtain rfl:=r;refine ai hS fun a hS=>?_;refine ka hS ug fun H N a w hk hS=>?_;refine go hS fun a w hS=>?_;rcases cd hM with⟨t,hM⟩|⟨t,hM⟩
    ·refine ai hS fun a hS=>?_;refine qy hS (bq (ps:=[(0,.tmp 18),(1,.tmp 20)]) hS uQ ir rfl (us:=[(aV b.Key),[aO b.Value]]) ⟨rfl,⟨rfl,trivial⟩⟩ (ws:=[al b.Key.Kind,aO b.Key.Text,aO b.Value]) rfl) fun a hS=>?_;refine wl rfl (a8 (ps:=[(0,.tmp 21)]) hS qc ir (zl:=[al 0,aO bI,aO bI]) (by kernel_rfl) rfl (us:=[[al b.Key.Kind,aO b.Key.Text,aO b.Value]]) ⟨rfl,trivial⟩ (ws:=[al b.Key.Kind,aO b.Key.Text,aO b.Value]) rfl rfl rfl rfl fun I a w hk hS=>?_);replace hS:=(hS.lit (R:=ad) (us:=[al b.Key.Kind,aO b.Key.Text,aO b.Value]) (xs:=[(am.mk b.Key b.Value)]) 0 rfl (by decide) (aA.one_ (R:=ad) (x:=(am.mk b.Key b.Value)) rfl) rfl rfl).freeze (R:=ad) 0 rfl 0 rfl;obtain⟨u,hM⟩:=be hM;refine wl rfl (bM (R:=ad) (xs:=e) (ys:=[(am.mk b.Key b.Value)]) hS qc (by decide) (by decide) rfl rfl 1 rfl 3 rfl 0 rfl u rfl fun P L a w hk hS=>?_);exact fz
    exact fz
   rintro a w ⟨l,n,j,hS,hM⟩;unfold jr at hM;exact fz
  exact fz
 rintro a w ⟨k,g,f,hS,hM⟩;unfold pc at hM;refine ai hS fun a hS=>?_;cases hM
 refine aI hS rfl (aq hS rfl aH) ?_;exact⟨g,f,rfl,hS.retOwn ⟨.inr (a6 (i:=0) rfl),trivial⟩ 0 rfl 0 rfl⟩
def jD (d:LC) (b:LN) (c:Int):Option (LC×aX):=some ((d,(aX.mk b c)))
def gL (d:Int) (e:LC) (b:LN) (c:Int):Option (Fl (LC×Int×LN×Int) (LC×LN×Int)):=some (.go (e,IntKind.i64.wrap (d+1),b,c))
def l8 (d:LC) (c:Int) (f:LN) (g:Int):Option (Fl (LC×Int×LN×Int) (LC×LN×Int)):=cond (decide (c<5)) ((cg (aX.mk f g) 2).bind fun b=>cond (b.1==0) ((c6 c).bind fun h=>(ph (aX.mk b.2.L b.2.At) ([(ByteArray.mk #[49]),(ByteArray.mk #[50]),(ByteArray.mk #[51]),(ByteArray.mk #[120])])).bind fun e=>gd (bH (d.length+([(am.mk h e.1)]).length)) <| gL c (d++([(am.mk h e.1)])) e.2.L e.2.At) (gL c d b.2.L b.2.At)) (some (.out (d,f,g)))
def gC (b:aX):Option (LC×aX):=(loop (fun s:LC×Int×LN×Int=>l8 s.1 s.2.1 s.2.2.1 s.2.2.2) (([]:List am),0,b.L,b.At)).bind fun r=>jD r.1 r.2.1 r.2.2
theorem nc (T:Nat→Prop) (W0:World) (hT:TW T W0) (p:aX) (Q:Value) (b:Nat) (M:W0.heap[b]? = some (.cells (bk p Q).toArray 64 (0,0))) (X:¬ T b) (a2:aE (aY.int .i64) (dT T [.box b (bk p Q) 64]) W0 Q p.L) (hLv:di (dT T [.box b (bk p Q) 64]) W0) (y:LC×aX) (hM:gC p=some y):bj aP (fun k=>k=b) 10 [pt b 0] W0 (fun v w'=>∃ (m:Value) (sI:bv) (S:Value),v=m∧gg ad T W0 w' [ba m sI,.box b (bk y.2 S) 64] 46 m sI y.1∧w'.heap[b]? = some (.cells (bk y.2 S).toArray 64 (0,0))∧aE (aY.int .i64) (dT T [ba m sI,.box b (bk y.2 S) 64]) w' S y.2.L):=by
 refine sK (c:=_) Tryz.func10 rfl T 22 Tryz.ntmps10 hT rfl M X fun a hS=>?_;replace hS:=(hS.fact bC hLv).fS a2;unfold gC at hM;refine ai hS fun a hS=>?_;refine aK (J:=fun a w=>∃ (B:LC) (t:LN) (u:Int) (n:Value) (l:LV) (o:Value),St W0 (fun k=>k=b) T 22 [(3,n)] [ba n l,.box b [o,al u] 64] [an ad l B,aR (aY.int .i64) o t,bC] a w∧jD B t u=some y) ?_ ?_
 ·skip;refine ai hS fun a hS=>?_;replace hS:=hS.nilRow ad 46 (by decide);obtain⟨r1,a1,hMo1⟩:=bd hM;refine bF _ (fun s a w=>∃ (j:LC) (f:Int) (g:LN) (h:Int) (E:Value) (q:LV) (F:Value),(j,f,g,h)=s∧St W0 (fun k=>k=b) T 22 [(0,pt b 0),(3,E),(5,al f)] [ba E q,.box b [F,al h] 64] [an ad q j,aR (aY.int .i64) F g,bC] a w) a1 ⟨_,_,_,_,_,_,_,rfl,hS.mt [0,1] [0,1,2]⟩ ?_;rintro s a w f1 ⟨j,f,g,h,E,q,F,rfl,hS⟩ hM hf1;have hM:l8 j f g h=some f1:=hM;unfold l8 at hM;refine ai hS fun a hS=>?_;refine aD ?_;rcases cd hM with⟨U,hM⟩|⟨U,hM⟩
  ·refine ai hS fun a hS=>?_;refine aK (J:=fun a w=>∃ (C:LC) (z:LN) (A:Int) (G:Value) (r:LV) (H:Value),St W0 (fun k=>k=b) T 22 [(0,pt b 0),(3,G),(5,al f)] [ba G r,.box b [H,al A] 64] [an ad r C,aR (aY.int .i64) H z,bC] a w∧gL f C z A=some f1) ?_ ?_
   ·skip;refine ai hS fun a hS=>?_;obtain⟨D,N,hM⟩:=bd hM;refine wl rfl (cC hS nB rfl rfl 1 rfl (bE _ _ (hS.drop 1).dlt (aX.mk g h) 2 _ _ (hS.boxRow 1 rfl) (hS.notin 1 rfl) (aE.lent (i:=1) rfl (hS.get 1 rfl)) _ N) fun _ w hR hk=>?_);obtain⟨Y,he,hrow,I⟩:=hR;obtain rfl:=he.symm;refine⟨(bk D.2 Y),hrow,fun a hS=>?_⟩;replace hS:=hS.fS (aE.back (i:=1) rfl I);refine ai hS fun a hS=>?_;rcases cd hM with⟨V,hM⟩|⟨V,hM⟩
    ·refine ai hS fun a hS=>?_;obtain⟨d,O,hM⟩:=bd hM;refine kc hS xO (dO _ _ hS.dlt (hS.get 3 rfl) f _ O) fun _ w hR a hk hA=>?_;obtain rfl:=hR;have hS:=bY hA;refine ai hS fun a hS=>?_;refine wl rfl (a8 (ps:=[(0,.const (.string ⟨#[49]⟩)),(1,.const (.string ⟨#[50]⟩)),(2,.const (.string ⟨#[51]⟩)),(3,.const (.string ⟨#[120]⟩))]) hS xV Ng (zl:=[aO bI,aO bI,aO bI,aO bI]) (by kernel_rfl) rfl (us:=[[aO (ByteArray.mk #[49])],[aO (ByteArray.mk #[50])],[aO (ByteArray.mk #[51])],[aO (ByteArray.mk #[120])]]) ⟨rfl,⟨rfl,⟨rfl,⟨rfl,trivial⟩⟩⟩⟩ (ws:=[aO (ByteArray.mk #[49]),aO (ByteArray.mk #[50]),aO (ByteArray.mk #[51]),aO (ByteArray.mk #[120])]) rfl rfl rfl rfl fun a3 a w hk hS=>?_);replace hS:=(hS.lit (R:=aY.str) (us:=[aO (ByteArray.mk #[49]),aO (ByteArray.mk #[50]),aO (ByteArray.mk #[51]),aO (ByteArray.mk #[120])]) (xs:=[(ByteArray.mk #[49]),(ByteArray.mk #[50]),(ByteArray.mk #[51]),(ByteArray.mk #[120])]) 0 rfl (by decide) ((aA.one_ (R:=aY.str) (x:=(ByteArray.mk #[49])) rfl).append ((aA.one_ (R:=aY.str) (x:=(ByteArray.mk #[50])) rfl).append ((aA.one_ (R:=aY.str) (x:=(ByteArray.mk #[51])) rfl).append (aA.one_ (R:=aY.str) (x:=(ByteArray.mk #[120])) rfl)))) rfl rfl).freeze (R:=aY.str) 0 rfl 0 rfl;obtain⟨e,P,hM⟩:=bd hM;refine wl rfl (cC hS LA rfl rfl 1 rfl (uG _ _ (hS.drop 1).dlt (aX.mk D.2.L D.2.At) ([(ByteArray.mk #[49]),(ByteArray.mk #[50]),(ByteArray.mk #[51]),(ByteArray.mk #[120])]) _ _ _ (hS.boxRow 1 rfl) (hS.notin 1 rfl) (aE.lent (i:=1) rfl (hS.get 2 rfl)) (aE.lent (i:=1) rfl (hS.get 0 rfl)) _ P) fun _ w hR hk=>?_);obtain⟨Z,he,hrow,K⟩:=hR;obtain rfl:=he.symm;refine⟨(bk e.2 Z),hrow,fun a hS=>?_⟩;replace hS:=hS.fS (aE.back (i:=1) rfl K);refine qy hS (bq (ps:=[(0,.tmp 13),(1,.tmp 16)]) hS uQ ir rfl (us:=[(aV d),[aO e.1]]) ⟨rfl,⟨rfl,trivial⟩⟩ (ws:=[al d.Kind,aO d.Text,aO e.1]) rfl) fun a hS=>?_;refine wl rfl (a8 (ps:=[(0,.tmp 17)]) hS qc ir (zl:=[al 0,aO bI,aO bI]) (by kernel_rfl) rfl (us:=[[al d.Kind,aO d.Text,aO e.1]]) ⟨rfl,trivial⟩ (ws:=[al d.Kind,aO d.Text,aO e.1]) rfl rfl rfl rfl fun a4 a w hk hS=>?_);replace hS:=(hS.lit (R:=ad) (us:=[al d.Kind,aO d.Text,aO e.1]) (xs:=[(am.mk d e.1)]) 0 rfl (by decide) (aA.one_ (R:=ad) (x:=(am.mk d e.1)) rfl) rfl rfl).freeze (R:=ad) 0 rfl 0 rfl;obtain⟨W,hM⟩:=be hM;refine wl rfl (bM (R:=ad) (xs:=j) (ys:=[(am.mk d e.1)]) hS qc (by decide) (by decide) rfl rfl 0 rfl 6 rfl 0 rfl W rfl fun a9 a5 a w hk hS=>?_);exact fz
    exact fz
   rintro a w ⟨C,z,A,G,r,H,hS,hM⟩;unfold gL at hM;exact fz
  refine ai hS fun a hS=>?_;cases hM
  have hr:=hf1 _ rfl;subst hr;have hM:jD j g h=some y:=hMo1;exact⟨_,_,_,_,_,_,hS.mt [0,1] [0,1,2],hM⟩
 rintro a w ⟨B,t,u,n,l,o,hS,hM⟩;unfold jD at hM;refine ai hS fun a hS=>?_;cases hM
 refine aI hS rfl (aq hS rfl aH) ?_;exact⟨n,l,o,rfl,hS.retOwnm ⟨.inr (a6 (i:=0) rfl),⟨.inr (a6 (i:=1) rfl),trivial⟩⟩ 0 rfl 0 rfl 1 rfl (by decide),hS.boxRow 1 rfl,(aE.up ⟨.inr (a6 (i:=0) rfl),⟨.inr (a6 (i:=1) rfl),trivial⟩⟩ (hS.get 1 rfl))⟩
def jt (g:aj) (b:Int) (c:Int) (d:LI) (e:LR):Option (aj×Int):=cond (b != 0) ((dK g).bind fun f=>some ((f,b))) (some (((aj.mk c d e),0)))
def du (b:aj) (d:LC):Option (aj×Int):=(ip b).bind fun e=>cond (!(e)) ((dK b).bind fun f=>some ((f,42))) ((bO d).bind fun g=>cond (!(g)) ((dK b).bind fun h=>some ((h,5))) ((d7 b).bind fun i=>(ez i d).bind fun j=>(dm b j).bind fun c=>jt b c.2 c.1.Revision c.1.Inputs c.1.Records))
theorem m8 (T:Nat→Prop) (W0:World) (hT:TW T W0) (hLv:di T W0) (b:aj) (f:LC) (v1:Value) (v2:Value) (v3:Value) (d4:aE ae T W0 v1 b.Inputs) (d6:aE aa T W0 v2 b.Records) (da:aE ad T W0 v3 f) (y:aj×Int) (hM:du b f=some y):bj aP No 11 [.agg (bf b v1 v2).toArray,v3] W0 (fun v w'=>∃ (v4:Value) (wq:bv) (v6:Value) (xR:bv),v = .tuple #[.agg (bf y.1 v4 v6).toArray,al y.2]∧gg ae T W0 w' [bh v4 wq,aS v6 xR] 69 v4 wq y.1.Inputs∧gg aa T W0 w' [bh v4 wq,aS v6 xR] 84 v6 xR y.1.Records∧(∀ k,v4.ownBlock=some k→v6.ownBlock≠some k)):=by
 refine en Tryz.func11 Tryz.ntmps11 hT fun a hS=>?_;replace hS:=(((hS.fact bC (di.dn hLv)).fS (aE.dn d4)).fS (aE.dn d6)).fS (aE.dn da);unfold du at hM;refine ai hS fun a hS=>?_;refine kb hS fun H e3 a w hk hS=>?_;refine ka hS mo fun I e4 a w hk hS=>?_;refine ai hS fun a hS=>?_;refine aD ?_;refine ai hS fun a hS=>?_;obtain⟨e8,af,hM⟩:=bd hM;refine kc hS N8 (tx _ _ hS.dlt (hS.get 3 rfl) b _ _ (hS.get 2 rfl) (hS.get 1 rfl) _ af) fun _ w hR a hk hA=>?_;obtain rfl:=hR;have hS:=bY hA;refine ai hS fun a hS=>?_;rcases cd hM with⟨bt,hM⟩|⟨bt,hM⟩
 ·refine ai hS fun a hS=>?_;obtain⟨ea,ag,hM⟩:=bd hM;refine kc hS EC (ge _ _ hS.dlt b _ _ (hS.get 2 rfl) (hS.get 1 rfl) _ ag) fun _ w hR a hk hA=>?_;obtain⟨co,b6,cs,b8,he,P,Q,c⟩:=hR;obtain rfl:=he.symm;have hS:=uw hA P Q c;refine go hS fun a w hS=>?_;cases hM
  refine aI hS Tryz.results11 (bn hS rfl 2 rfl fy rfl (fun h=>by cases h) (aq hS rfl aH)) ?_;exact⟨co,b6,cs,b8,rfl,hS.retOwn ⟨.inr (a6 (i:=0) rfl),⟨.inr (a6 (i:=1) rfl),trivial⟩⟩ 0 rfl 1 rfl,hS.retOwn ⟨.inr (a6 (i:=0) rfl),⟨.inr (a6 (i:=1) rfl),trivial⟩⟩ 1 rfl 0 rfl,(hS.apart2 0 rfl 1 rfl (by decide))⟩
 refine ai hS fun a hS=>?_;obtain⟨ed,ak,hM⟩:=bd hM;refine kc hS HC (iN _ _ hS.dlt (hS.get 3 rfl) f _ (hS.get 0 rfl) _ ak) fun _ w hR a hk hA=>?_;obtain rfl:=hR;have hS:=bY hA;refine ai hS fun a hS=>?_;rcases cd hM with⟨c0,hM⟩|⟨c0,hM⟩
 ·refine ai hS fun a hS=>?_;obtain⟨eg,ao,hM⟩:=bd hM;refine kc hS EC (ge _ _ hS.dlt b _ _ (hS.get 2 rfl) (hS.get 1 rfl) _ ao) fun _ w hR a hk hA=>?_;obtain⟨cv,b9,d0,bb,he,S,U,c⟩:=hR;obtain rfl:=he.symm;have hS:=uw hA S U c;refine go hS fun a w hS=>?_;cases hM
  refine aI hS Tryz.results11 (bn hS rfl 2 rfl fy rfl (fun h=>by cases h) (aq hS rfl aH)) ?_;exact⟨cv,b9,d0,bb,rfl,hS.retOwn ⟨.inr (a6 (i:=0) rfl),⟨.inr (a6 (i:=1) rfl),trivial⟩⟩ 0 rfl 1 rfl,hS.retOwn ⟨.inr (a6 (i:=0) rfl),⟨.inr (a6 (i:=1) rfl),trivial⟩⟩ 1 rfl 0 rfl,(hS.apart2 0 rfl 1 rfl (by decide))⟩
 refine ai hS fun a hS=>?_;refine aK (J:=fun a w=>∃ (u:Int) (x:Int) (z:LI) (A:LR) (s:Nat) (q:Value) (n:LV) (r:Value) (o:LV),St W0 No T 35 [(2,pt H 0),(4,pt I 0),(6,pt s 0),(7,al u)] [.box H (bf b v1 v2) 31,.box I [al 0,.slice none 0 0,.slice none 0 0] 31,bh q n,aS r o,.box s [al x,q,r] 31] [aR ae v1 b.Inputs,aR aa v2 b.Records,an ae n z,an aa o A,bC] a w∧jt b u x z A=some y) ?_ ?_
 ·skip;obtain⟨N131,a9⟩:∃ N,N=w.heap.size:=⟨_,rfl⟩;replace hS:=hS.fact (Gi N131) (xF a9);refine dr [(10,.new N131)] hS fun w hQ hS=>?_;refine gE [0,1,3] hS fun a hS=>?_;obtain⟨B,E,hM⟩:=bd hM;refine eh (i:=2) (j:=9) rfl rfl (by kernel_rfl) rfl rfl ?_ ?_
  ·skip;skip;refine id (bg hS Nh rfl rfl (iD _ _ hS.dlt b _ _ (hS.get 3 rfl) (hS.get 2 rfl) _ E) fun _ w hR a hk hA=>⟨gf (hk),?_⟩);obtain⟨el,dk,he,V⟩:=hR;obtain rfl:=he.symm;have hS:=qD hA V;have hL:=hS;replace hL:=hL.freeze (R:=ad) 0 rfl 0 rfl;obtain⟨C,F,hM⟩:=bd hM;refine eh (i:=4) (j:=9) rfl rfl (by kernel_rfl) rfl rfl ?_ ?_
   ·skip;skip;have hL:=hS;replace hL:=hL.freeze (R:=ad) 0 rfl 0 rfl;refine id (bg hS Df rfl rfl (gA _ _ hL.dlt (hL.get 6 rfl) B f _ _ (hL.get 0 rfl) (hL.get 3 rfl) _ F) fun _ w hR a hk hA=>⟨gf (hk),?_⟩);obtain⟨d1,bi,he,⟨O,M,W⟩⟩:=hR;obtain rfl:=he.symm;have hS:=hA [ba d1 bi] (ei ⟨O,by decide⟩ M) (sP _);replace hS:=(hS.fR W).freeze (R:=ad) 0 rfl 0 rfl;obtain⟨ek,G,hM⟩:=bd hM;refine eh (i:=5) (j:=9) rfl rfl (by kernel_rfl) rfl rfl ?_ ?_
    ·skip;skip;refine id (bg hS JE rfl rfl (mn _ _ hS.dlt (hS.get 7 rfl) b C _ _ _ (hS.get 6 rfl) (hS.get 5 rfl) (hS.get 0 rfl) _ G) fun _ w hR a hk hA=>⟨gf (hk),?_⟩);obtain⟨em,dl,eq,ds,he,X,Y,c⟩:=hR;obtain rfl:=he.symm;have hS:=uw hA X Y c;refine gE [6,7,8] hS fun a hS=>?_;have c1:=(hS.get 5 rfl:N131≤w.heap.size);refine e1 9 (dd hS mo rfl fun b2 c2 a w hk hS=>⟨gf (hk),?_⟩);refine dt 10 (.blk (some b2)) _ (by kernel_rfl) (n4 (fB c1 c2)) ?_;refine es 10 hS fun w hS=>?_;refine gE [11] hS fun a hS=>?_;refine eD ?_;exact⟨_,_,_,_,_,_,_,_,_,hS.mt [5,4,1,2,0] [8,7,1,0,9],hM⟩
    skip;have c3:=(hS.get 3 rfl:N131≤w.heap.size);refine id (dd hS mo rfl fun b3 c4 a w hk hS=>⟨gf (hk),?_⟩);refine dt 10 (.blk (some b3)) _ (by kernel_rfl) (n4 (fB c3 c4)) ?_;refine ec 5 hS JE (mn _ _ hS.dlt (hS.get 7 rfl) b C _ _ _ (hS.get 6 rfl) (hS.get 5 rfl) (hS.get 0 rfl) _ G) fun _ w hR a hk hA=>?_;obtain⟨a2,K,a3,L,he,d,e,c⟩:=hR;obtain rfl:=he.symm;have hS:=uw hA d e c;refine gE [6,7,8] hS fun a hS=>?_;refine es 10 hS fun w hS=>?_;refine gE [11] hS fun a hS=>?_;refine eD ?_;exact⟨_,_,_,_,_,_,_,_,_,hS.mt [5,4,0,1,2] [8,7,1,0,9],hM⟩
   skip;have c5:=(hS.get 1 rfl:N131≤w.heap.size);refine id (dd hS mo rfl fun b4 c9 a w hk hS=>⟨gf (hk),?_⟩);refine dt 10 (.blk (some b4)) _ (by kernel_rfl) (n4 (fB c5 c9)) ?_;have hL:=hS;replace hL:=hL.freeze (R:=ad) 1 rfl 0 rfl;refine ec 4 hS Df (gA _ _ hL.dlt (hL.get 6 rfl) B f _ _ (hL.get 0 rfl) (hL.get 3 rfl) _ F) fun _ w hR a hk hA=>?_;obtain⟨D,t,he,⟨l,g,m⟩⟩:=hR;obtain rfl:=he.symm;have hS:=hA [ba D t] (ei ⟨l,by decide⟩ g) (sP _);replace hS:=(hS.fR m).freeze (R:=ad) 0 rfl 0 rfl;obtain⟨ck,p,hM⟩:=bd hM;refine ec 5 hS JE (mn _ _ hS.dlt (hS.get 7 rfl) b C _ _ _ (hS.get 6 rfl) (hS.get 5 rfl) (hS.get 0 rfl) _ p) fun _ w hR a hk hA=>?_;obtain⟨a2,K,a3,L,he,d,e,c⟩:=hR;obtain rfl:=he.symm;have hS:=uw hA d e c;refine gE [6,7,8] hS fun a hS=>?_;refine es 10 hS fun w hS=>?_;refine gE [11] hS fun a hS=>?_;refine eD ?_;exact⟨_,_,_,_,_,_,_,_,_,hS.mt [5,4,0,1,2] [8,7,1,0,9],hM⟩
  skip;have ca:=(hS.get 0 rfl:N131≤w.heap.size);refine id (dd hS mo rfl fun b5 cb a w hk hS=>⟨gf (hk),?_⟩);refine dt 10 (.blk (some b5)) _ (by kernel_rfl) (n4 (fB ca cb)) ?_;refine ec 2 hS Nh (iD _ _ hS.dlt b _ _ (hS.get 3 rfl) (hS.get 2 rfl) _ E) fun _ w hR a hk hA=>?_;obtain⟨er,e2,he,Z⟩:=hR;obtain rfl:=he.symm;have hS:=qD hA Z;have hL:=hS;replace hL:=hL.freeze (R:=ad) 0 rfl 0 rfl;obtain⟨cl,av,hM⟩:=bd hM;refine ec 4 hS Df (gA _ _ hL.dlt (hL.get 6 rfl) B f _ _ (hL.get 0 rfl) (hL.get 3 rfl) _ av) fun _ w hR a hk hA=>?_;obtain⟨D,t,he,⟨l,g,m⟩⟩:=hR;obtain rfl:=he.symm;have hS:=hA [ba D t] (ei ⟨l,by decide⟩ g) (sP _);replace hS:=(hS.fR m).freeze (R:=ad) 0 rfl 0 rfl;obtain⟨ck,p,hM⟩:=bd hM;refine ec 5 hS JE (mn _ _ hS.dlt (hS.get 7 rfl) b cl _ _ _ (hS.get 6 rfl) (hS.get 5 rfl) (hS.get 0 rfl) _ p) fun _ w hR a hk hA=>?_;obtain⟨a2,K,a3,L,he,d,e,c⟩:=hR;obtain rfl:=he.symm;have hS:=uw hA d e c;refine gE [6,7,8] hS fun a hS=>?_;refine es 10 hS fun w hS=>?_;refine gE [11] hS fun a hS=>?_;refine eD ?_;exact⟨_,_,_,_,_,_,_,_,_,hS.mt [5,4,0,1,3] [8,7,1,0,9],hM⟩
 rintro a w ⟨u,x,z,A,s,q,n,r,o,hS,hM⟩;unfold jt at hM;refine aD ?_;refine ai hS fun a hS=>?_;rcases cd hM with⟨ch,hM⟩|⟨ch,hM⟩
 ·refine ai hS fun a hS=>?_;obtain⟨e5,ab,hM⟩:=bd hM;refine kc hS EC (ge _ _ hS.dlt b _ _ (hS.get 0 rfl) (hS.get 1 rfl) _ ab) fun _ w hR a hk hA=>?_;obtain⟨d2,bl,d3,bs,he,a0,a1,c⟩:=hR;obtain rfl:=he.symm;have hS:=uw hA a0 a1 c;refine go hS fun a w hS=>?_;cases hM
  refine aI hS Tryz.results11 (bn hS rfl 3 rfl fy rfl (fun h=>by cases h) (aq hS rfl aH)) ?_;exact⟨d2,bl,d3,bs,rfl,hS.retOwn ⟨.inr (a6 (i:=0) rfl),⟨.inr (a6 (i:=1) rfl),trivial⟩⟩ 0 rfl 1 rfl,hS.retOwn ⟨.inr (a6 (i:=0) rfl),⟨.inr (a6 (i:=1) rfl),trivial⟩⟩ 1 rfl 0 rfl,(hS.apart2 0 rfl 1 rfl (by decide))⟩
 refine go hS fun a w hS=>?_;cases hM
 refine aI hS Tryz.results11 (bn hS rfl 1 rfl fy rfl (fun h=>by cases h) (aq hS rfl aH)) ?_;exact⟨q,n,r,o,rfl,hS.retOwn ⟨.inr (a6 (i:=2) rfl),⟨.inr (a6 (i:=3) rfl),trivial⟩⟩ 2 rfl 2 rfl,hS.retOwn ⟨.inr (a6 (i:=2) rfl),⟨.inr (a6 (i:=3) rfl),trivial⟩⟩ 3 rfl 3 rfl,(hS.apart2 2 rfl 3 rfl (by decide))⟩
def lz (b:LC):Option Bool:=some (decide ((b.length:Int)≤80))
theorem vS (T:Nat→Prop) (W0:World) (hT:TW T W0) (b:LC) (d:Value) (c:aE ad T W0 d b) (y:Bool) (hM:lz b=some y):bj aP No 16 [d] W0 (fun v w'=>v = .bool y):=by
 refine en Tryz.func16 Tryz.ntmps16 hT fun a hS=>?_;replace hS:=hS.fS (aE.dn c);unfold lz at hM;exact fz
def dp:Option Int:=some ((-1))
def bx (c:(List aG)) (f:aG→Option Bool) (b:Int):Option (Fl (Int) (Fl (Unit) Int)):=cond (decide (b<(c.length:Int))) ((bu c b).bind fun d=>(f d).bind fun e=>cond e (some (.out (.out b))) (some (.go (IntKind.i64.wrap (b+1))))) (some (.out (.go ())))
def cQ (b:aG→Option Bool) (c:(List aG)):Option Int:=(loop (fun s:Int=>bx c b s) 0).bind fun r=>Fl.el r (fun s=>dp) (fun y=>some (y))
theorem lf (T:Nat→Prop) (W0:World) (hT:TW T W0) (hLv:di T W0) (f_1g:Nat) (f:aT aP f_1g=true) (f_1k:bv) (f_1P:cA) (d:aG→Option Bool) (o:∀ (T:Nat→Prop) (W0:World) (hT:TW T W0) (hLv:di T W0) (hP:f_1P.p T W0) (q:aG) (k:Value) (A:aE ad T W0 k q.Inputs) (y:Bool) (hM:d q=some y),bj aP No f_1g ([.agg (su q k).toArray]++f_1k) W0 (fun v w'=>v = .bool y)) (e:f_1P.p T W0) (c:(List aG)) (j:Value) (t:aE aU T W0 j c) (y:Int) (hM:cQ d c=some y):bj aP No 78 [j,.func (.func f_1g) #[] f_1k.toArray] W0 (fun v w'=>v=al y):=by
 refine en Tryz.func78 Tryz.ntmps78 hT fun a hS=>?_;replace hS:=((hS.fact f_1P (cA.dn _ e)).fact bC (di.dn hLv)).fS (aE.dn t);unfold cQ at hM;refine ai hS fun a hS=>?_;refine aK (J:=fun a w=>St W0 No T 19 [] [] [bC,f_1P] a w∧dp=some y) ?_ ?_
 ·skip;refine ai hS fun a hS=>?_;obtain⟨E,r,hMo1⟩:=bd hM;refine bF _ (fun s a w=>∃ (b:Int),b=s∧St W0 No T 19 [(0,j),(1,.func (.func f_1g) #[] f_1k.toArray),(7,al (c.length:Int)),(8,al b)] [] [aR aU j c,bC,f_1P] a w) r ⟨_,rfl,hS.mt [] [0,1,2]⟩ ?_;rintro s a w z ⟨b,rfl,hS⟩ hM hf1;have hM:bx c d b=some z:=hM;unfold bx at hM;refine ai hS fun a hS=>?_;refine aD ?_;rcases cd hM with⟨m,hM⟩|⟨m,hM⟩
  ·refine ai hS fun a hS=>?_;refine aD ?_;refine ai hS fun a hS=>?_;obtain⟨l,g,hM⟩:=bd hM;refine wl rfl (bm (R:=aU) hS Bk Bl rfl rfl 0 rfl g rfl fun u B x n a hS=>?_);obtain⟨D,rfl,i⟩:=n;replace hS:=hS.fS i;refine ai hS fun a hS=>?_;obtain⟨C,h,hM⟩:=bd hM;refine wl rfl (tQ (cap:=f_1k) hS rfl f rfl rfl (o _ _ hS.dlt (hS.get 3 rfl) (hS.get 4 rfl) l _ (hS.get 0 rfl) _ h) fun _ w hR a hk hA=>?_);obtain rfl:=hR;have hS:=bY hA;exact fz
  exact fz
 rintro a w ⟨hS,hM⟩;unfold dp at hM;exact fz
def bJ (c:aG→Option Bool) (d:(List aG)):Option Bool:=(cQ c d).bind fun b=>some (decide ((0:Int)≤b))
theorem jW (T:Nat→Prop) (W0:World) (hT:TW T W0) (hLv:di T W0) (f_1g:Nat) (e:aT aP f_1g=true) (f_1k:bv) (f_1P:cA) (b:aG→Option Bool) (h:∀ (T:Nat→Prop) (W0:World) (hT:TW T W0) (hLv:di T W0) (hP:f_1P.p T W0) (i:aG) (g:Value) (l:aE ad T W0 g i.Inputs) (y:Bool) (hM:b i=some y),bj aP No f_1g ([.agg (su i g).toArray]++f_1k) W0 (fun v w'=>v = .bool y)) (d:f_1P.p T W0) (c:(List aG)) (k:Value) (j:aE aU T W0 k c) (y:Bool) (hM:bJ b c=some y):bj aP No 44 [k,.func (.func f_1g) #[] f_1k.toArray] W0 (fun v w'=>v = .bool y):=by
 refine en Tryz.func44 Tryz.ntmps44 hT fun a hS=>?_;replace hS:=((hS.fact f_1P (cA.dn _ d)).fact bC (di.dn hLv)).fS (aE.dn j);unfold bJ at hM;refine ai hS fun a hS=>?_;obtain⟨m,f,hM⟩:=bd hM;refine kc hS Py (lf _ _ hS.dlt (hS.get 1 rfl) f_1g e f_1k f_1P b h (hS.get 2 rfl) c _ (hS.get 0 rfl) _ f) fun _ w hR a hk hA=>?_;obtain rfl:=hR;have hS:=bY hA;exact fz
def lq (c:aG) (b:aG):Option Bool:=some (c.Name.toList==b.Name.toList)
theorem xN (T:Nat→Prop) (W0:World) (hT:TW T W0) (c:aG) (b:aG) (i:Value) (f:Value) (d:Nat) (g:aE ad T W0 i c.Inputs) (h:aE ad T W0 f b.Inputs) (e:(ln d 0 (su b f)).p T W0) (y:Bool) (hM:lq c b=some y):bj aP No 45 [.agg (su c i).toArray,pt d 0] W0 (fun v w'=>v = .bool y):=by
 refine en Tryz.func45 Tryz.ntmps45 hT fun a hS=>?_;replace hS:=((hS.fact (ln d 0 (su b f)) (cA.dn _ e)).fS (aE.dn g)).fS (aE.dn h);unfold lq at hM;refine ai hS fun a hS=>?_;refine kb hS fun j k a w hk hS=>?_;exact fz
def qI (b:(List aG)):Option Bool:=some (decide ((b.length:Int)≤8))
def fZ (d:(List aG)) (c:Int):Option (Fl (Int) (Fl (Unit) Bool)):=cond (decide (c<(d.length:Int))) ((bu d c).bind fun b=>cond (b.Name.toList==bI.toList) (some (.out (.out false))) (cond (decide ((40:Int)<(b.Name.size:Int))) (some (.out (.out false))) ((bO b.Inputs).bind fun f=>cond (!(f)) (some (.out (.out false))) ((o0 d 0 c).bind fun e=>(bJ (fun h=>lq h b) e).bind fun g=>cond g (some (.out (.out false))) (some (.go (IntKind.i64.wrap (c+1)))))))) (some (.out (.go ())))
def l3 (b:(List aG)):Option Bool:=(loop (fun s:Int=>fZ b s) 0).bind fun r=>Fl.el r (fun s=>qI b) (fun y=>some (y))
theorem uD (T:Nat→Prop) (W0:World) (hT:TW T W0) (hLv:di T W0) (c:(List aG)) (g:Value) (z:aE aU T W0 g c) (y:Bool) (hM:l3 c=some y):bj aP No 20 [g] W0 (fun v w'=>v = .bool y):=by
 refine en Tryz.func20 Tryz.ntmps20 hT fun a hS=>?_;replace hS:=(hS.fact bC (di.dn hLv)).fS (aE.dn z);unfold l3 at hM;refine ai hS fun a hS=>?_;refine aK (J:=fun a w=>St W0 No T 38 [(0,g)] [] [aR aU g c,bC] a w∧qI c=some y) ?_ ?_
 ·skip;refine ai hS fun a hS=>?_;obtain⟨K,l,hMo1⟩:=bd hM;refine bF _ (fun s a w=>∃ (e:Int),e=s∧St W0 No T 38 [(0,g),(5,g),(6,al (c.length:Int)),(7,al e)] [] [aR aU g c,bC] a w) l ⟨_,rfl,hS.mt [] [0,1]⟩ ?_;rintro s a w D ⟨e,rfl,hS⟩ hM hf1;have hM:fZ c e=some D:=hM;unfold fZ at hM;refine ai hS fun a hS=>?_;refine aD ?_;rcases cd hM with⟨p,hM⟩|⟨p,hM⟩
  ·refine ai hS fun a hS=>?_;refine aD ?_;refine ai hS fun a hS=>?_;obtain⟨b,j,hM⟩:=bd hM;refine wl rfl (bm (R:=aU) hS Bk Bl rfl rfl 0 rfl j rfl fun B F C q a hS=>?_);obtain⟨h,rfl,o⟩:=q;replace hS:=hS.fS o;refine ai hS fun a hS=>?_;refine ka hS Bm fun d E a w hk hS=>?_;refine go hS fun a w hS=>?_;refine iY ?_;refine ai hS fun a hS=>?_;rcases cd hM with⟨r,hM⟩|⟨r,hM⟩
   ·exact fz
   refine ai hS fun a hS=>?_;rcases cd hM with⟨i,hM⟩|⟨i,hM⟩
   ·exact fz
   refine ai hS fun a hS=>?_;obtain⟨G,m,hM⟩:=bd hM;refine wg hS rfl rfl rfl i (bg hS HC rfl rfl (iN _ _ hS.dlt (hS.get 3 rfl) b.Inputs _ (hS.get 0 rfl) _ m) fun _ w hR a hk hA=>?_);obtain rfl:=hR;have hS:=bY hA;refine ai hS fun a hS=>?_;rcases cd hM with⟨f,hM⟩|⟨f,hM⟩
   ·exact fz
   refine ai hS fun a hS=>?_;obtain⟨u,k,hM⟩:=bd hM;refine wg hS rfl rfl rfl f (H2 (R:=aU) (k1:=.i64) hS Bk Bl rfl (.inr ⟨rfl,rfl⟩) (.inl ⟨_,rfl,rfl⟩) 2 rfl k rfl fun I a hS=>?_);replace hS:=hS.freezeBox 0 rfl;refine qg hS f (AG (vs:=[pt d 0]) hS rfl) fun a hS=>?_;obtain⟨H,n,hM⟩:=bd hM;refine wg hS rfl rfl rfl f (bg hS Pd rfl rfl (jW _ _ hS.dlt (hS.get 5 rfl) 45 Pe [pt d 0] (Gf (ln d 0 (su b h)) (Gf (aR ad h b.Inputs) zg)) (fun x=>lq x b) (fun T W0 hT hLv hP x A t y hM=>xN T W0 hT x b A h d t hP.2.1 hP.1 y hM) ⟨(hS.get 0 rfl),(hS.get 2 rfl),trivial⟩ u _ (hS.get 1 rfl) _ n) fun _ w hR a hk hA=>?_);obtain rfl:=hR;have hS:=bY hA;exact fz
  exact fz
 rintro a w ⟨hS,hM⟩;unfold qI at hM;exact fz
def oQ (b:LC):Option Bool:=some (decide ((b.length:Int)≤64))
def df (b:Int) (c:Bool):Option (Fl (Int) (Fl (Unit) Bool)):=cond c (some (.out (.out false))) (some (.go (IntKind.i64.wrap (b+1))))
def eQ (d:LC) (b:Int):Option (Fl (Int) (Fl (Unit) Bool)):=cond (decide (b<(d.length:Int))) ((bu d b).bind fun c=>(cE c.Key).bind fun f=>cond (!(f)) (df b true) ((cr c.Key).bind fun g=>cond (!(g)) (df b true) (cond (decide ((0:Int)<b)) ((bu d (IntKind.i64.wrap (b-1))).bind fun e=>(jK e.Key c.Key).bind fun h=>cond (decide ((0:Int)≤h)) (df b true) (cond (c.Value.toList==bI.toList) (df b true) (df b (decide ((1073741824:Int)<(c.Value.size:Int)))))) (cond (c.Value.toList==bI.toList) (df b true) (df b (decide ((1073741824:Int)<(c.Value.size:Int)))))))) (some (.out (.go ())))
def cx (b:LC):Option Bool:=(loop (fun s:Int=>eQ b s) 0).bind fun r=>Fl.el r (fun s=>oQ b) (fun y=>some (y))
theorem gQ (T:Nat→Prop) (W0:World) (hT:TW T W0) (hLv:di T W0) (b:LC) (d:Value) (F:aE ad T W0 d b) (y:Bool) (hM:cx b=some y):bj aP No 24 [d] W0 (fun v w'=>v = .bool y):=by
 refine en Tryz.func24 Tryz.ntmps24 hT fun a hS=>?_;replace hS:=(hS.fact bC (di.dn hLv)).fS (aE.dn F);unfold cx at hM;refine ai hS fun a hS=>?_;refine aK (J:=fun a w=>St W0 No T 53 [(0,d)] [] [aR ad d b,bC] a w∧oQ b=some y) ?_ ?_
 ·skip;refine ai hS fun a hS=>?_;obtain⟨Q,l,hMo1⟩:=bd hM;refine bF _ (fun s a w=>∃ (c:Int),c=s∧St W0 No T 53 [(0,d),(5,d),(6,al (b.length:Int)),(7,al c)] [] [aR ad d b,bC] a w) l ⟨_,rfl,hS.mt [] [0,1]⟩ ?_;rintro s a w E ⟨c,rfl,hS⟩ hM hf1;have hM:eQ b c=some E:=hM;unfold eQ at hM;refine ai hS fun a hS=>?_;refine aD ?_;rcases cd hM with⟨r,hM⟩|⟨r,hM⟩
  ·refine ai hS fun a hS=>?_;refine aD ?_;refine ai hS fun a hS=>?_;obtain⟨e,j,hM⟩:=bd hM;refine wl rfl (bm (R:=ad) hS tA s9 rfl rfl 0 rfl j rfl fun G M I t a hS=>?_);obtain rfl:=t;refine ai hS fun a hS=>?_;refine ka hS ir fun H L a w hk hS=>?_;refine go hS fun a w hS=>?_;refine aK (J:=fun a w=>∃ (f:Bool),St W0 No T 53 [(0,d),(5,d),(6,al (b.length:Int)),(7,al c),(48,.bool f)] [] [aR ad d b,bC] a w∧df c f=some E) ?_ ?_
   ·skip;refine dr [] hS fun w hQ hS=>?_;refine gE [0,1] hS fun a hS=>?_;obtain⟨N,m,hM⟩:=bd hM;refine ec 2 hS Gw (kY _ _ hS.dlt e.Key _ m) fun _ w hR a hk hA=>?_;obtain rfl:=hR;have hS:=bY hA;refine gE [3,4] hS fun a hS=>?_;rcases cd hM with⟨h,hM⟩|⟨h,hM⟩
    ·refine gE [5,6,7,8,9,10,11,12,13,14,15,16,17,18,19,20,21,22,23,24,25,26,27,28,29,30,31,32,33,34,35,36] hS fun a hS=>?_;refine eD ?_;exact⟨_,hS.mt [] [1,2],hM⟩
    refine gE [5,6] hS fun a hS=>?_;obtain⟨O,n,hM⟩:=bd hM;refine cI (i:=7) rfl (by kernel_rfl) hS rfl rfl rfl h (bg hS yS rfl rfl (dJ _ _ hS.dlt e.Key _ n) fun _ w hR a hk hA=>⟨gf (hk),?_⟩);obtain rfl:=hR;have hS:=bY hA;refine gE [8,9,10] hS fun a hS=>?_;rcases cd hM with⟨u,hM⟩|⟨u,hM⟩
    ·refine gE [11,12,13,14,15,16,17,18,19,20,21,22,23,24,25,26,27,28,29,30,31,32,33,34,35,36] hS fun a hS=>?_;refine eD ?_;exact⟨_,hS.mt [] [1,2],hM⟩
    refine gE [11,12,13] hS fun a hS=>?_;rcases cd hM with⟨g,hM⟩|⟨g,hM⟩
    ·refine gE [14,15,16] hS fun a hS=>?_;obtain⟨q,k,hM⟩:=bd hM;obtain⟨p,D,K,x,z,hS⟩:=jj (R:=ad) hS tA s9 1 rfl k;obtain rfl:=x;refine y7 17 (v:=pt p D) rfl (by kernel_rfl) (by kernel_rfl) (by kernel_rfl) rfl hQ hS (z rfl rfl) rfl rfl rfl g rfl rfl fun a hS=>?_;refine gE [18,19,20,21] hS fun a hS=>?_;obtain⟨P,o,hM⟩:=bd hM;refine cI (i:=22) rfl (by kernel_rfl) hS rfl rfl rfl g (bg hS ED rfl rfl (lF _ _ hS.dlt (hS.get 3 rfl) q.Key e.Key _ o) fun _ w hR a hk hA=>⟨gf (hk),?_⟩);obtain rfl:=hR;have hS:=bY hA;refine gE [23,24,25,26] hS fun a hS=>?_;rcases cd hM with⟨A,hM⟩|⟨A,hM⟩
     ·refine gE [27,28,29,30,31,32,33,34,35,36] hS fun a hS=>?_;refine eD ?_;exact⟨_,hS.mt [] [2,3],hM⟩
     refine gE [27,28,29,30,31] hS fun a hS=>?_;rcases cd hM with⟨B,hM⟩|⟨B,hM⟩
     ·refine gE [32,33,34,35,36] hS fun a hS=>?_;refine eD ?_;exact⟨_,hS.mt [] [2,3],hM⟩
     refine gE [32,33,34,35,36] hS fun a hS=>?_;refine eD ?_;exact⟨_,hS.mt [] [2,3],hM⟩
    refine gE [14,15,16,17,18,19,20,21,22,23,24,25,26,27,28,29,30,31] hS fun a hS=>?_;rcases cd hM with⟨C,hM⟩|⟨C,hM⟩
    ·refine gE [32,33,34,35,36] hS fun a hS=>?_;refine eD ?_;exact⟨_,hS.mt [] [1,2],hM⟩
    refine gE [32,33,34,35,36] hS fun a hS=>?_;refine eD ?_;exact⟨_,hS.mt [] [1,2],hM⟩
   rintro a w ⟨f,hS,hM⟩;unfold df at hM;exact fz
  exact fz
 rintro a w ⟨hS,hM⟩;unfold oQ at hM;exact fz
def sd (b:(List aG)):Option Bool:=some (decide ((b.length:Int)≤8))
def oU (b:Int):Option (Fl (Int) (Fl (Unit) Bool)):=some (.go (IntKind.i64.wrap (b+1)))
def im (d:aG) (c:(List aG)) (b:Int):Option (Fl (Int) (Fl (Unit) Bool)):=cond (decide (b<(c.length:Int))) ((bu c b).bind fun e=>cond (e.Name.toList==d.Name.toList) (some (.out (.out false))) (some (.go (IntKind.i64.wrap (b+1))))) (some (.out (.go ())))
def io (d:(List aG)) (c:Int):Option (Fl (Int) (Fl (Unit) Bool)):=cond (decide (c<(d.length:Int))) ((bu d c).bind fun b=>cond (decide (((b.Name.size:Int):Int)<1)) (some (.out (.out false))) (cond (decide ((40:Int)<(b.Name.size:Int))) (some (.out (.out false))) ((cx b.Inputs).bind fun f=>cond (!(f)) (some (.out (.out false))) ((o0 d 0 c).bind fun e=>(loop (fun s:Int=>im b e s) 0).bind fun r=>Fl.el r (fun s=>oU c) (fun y=>some (.out (.out y))))))) (some (.out (.go ())))
def nZ (b:(List aG)):Option Bool:=(loop (fun s:Int=>io b s) 0).bind fun r=>Fl.el r (fun s=>sd b) (fun y=>some (y))
theorem wa (T:Nat→Prop) (W0:World) (hT:TW T W0) (hLv:di T W0) (b:(List aG)) (d:Value) (F:aE aU T W0 d b) (y:Bool) (hM:nZ b=some y):bj aP No 21 [d] W0 (fun v w'=>v = .bool y):=by
 refine en Tryz.func21 Tryz.ntmps21 hT fun a hS=>?_;replace hS:=(hS.fact bC (di.dn hLv)).fS (aE.dn F);unfold nZ at hM;refine ai hS fun a hS=>?_;refine aK (J:=fun a w=>St W0 No T 48 [(0,d)] [] [aR aU d b,bC] a w∧sd b=some y) ?_ ?_
 ·skip;refine ai hS fun a hS=>?_;obtain⟨W,o,hMo1⟩:=bd hM;refine bF _ (fun s a w=>∃ (c:Int),c=s∧St W0 No T 48 [(0,d),(7,d),(8,al (b.length:Int)),(9,al c)] [] [aR aU d b,bC] a w) o ⟨_,rfl,hS.mt [] [0,1]⟩ ?_;rintro s a w D ⟨c,rfl,hS⟩ hM hf1;have hM:io b c=some D:=hM;unfold io at hM;refine ai hS fun a hS=>?_;refine aD ?_;rcases cd hM with⟨t,hM⟩|⟨t,hM⟩
  ·refine ai hS fun a hS=>?_;refine aK (J:=fun a w=>St W0 No T 48 [(0,d),(7,d),(8,al (b.length:Int)),(9,al c)] [] [aR aU d b,bC] a w∧oU c=some D) ?_ ?_
   ·skip;refine ai hS fun a hS=>?_;obtain⟨e,l,hM⟩:=bd hM;refine wl rfl (bm (R:=aU) hS Bk Bl rfl rfl 0 rfl l rfl fun G Q K u a hS=>?_);obtain⟨j,rfl,q⟩:=u;replace hS:=hS.fS q;refine ai hS fun a hS=>?_;refine ka hS Bm fun h O a w hk hS=>?_;refine go hS fun a w hS=>?_;refine aD ?_;refine iY ?_;refine ai hS fun a hS=>?_;rcases cd hM with⟨x,hM⟩|⟨x,hM⟩
    ·exact fz
    refine ai hS fun a hS=>?_;rcases cd hM with⟨i,hM⟩|⟨i,hM⟩
    ·exact fz
    refine ai hS fun a hS=>?_;obtain⟨U,p,hM⟩:=bd hM;refine wg hS rfl rfl rfl i (bg hS Gv rfl rfl (gQ _ _ hS.dlt (hS.get 3 rfl) e.Inputs _ (hS.get 0 rfl) _ p) fun _ w hR a hk hA=>?_);obtain rfl:=hR;have hS:=bY hA;refine ai hS fun a hS=>?_;rcases cd hM with⟨z,hM⟩|⟨z,hM⟩
    ·exact fz
    refine ai hS fun a hS=>?_;obtain⟨g,n,hM⟩:=bd hM;refine wl rfl (H2 (R:=aU) (k1:=.i64) hS Bk Bl rfl (.inr ⟨rfl,rfl⟩) (.inl ⟨_,rfl,rfl⟩) 2 rfl n rfl fun k a hS=>?_);refine ai hS fun a hS=>?_;obtain⟨X,E,hMo2⟩:=bd hM;refine bF _ (fun s a w=>∃ (f:Int),f=s∧St W0 No T 48 [(0,d),(4,pt h 0),(7,d),(8,al (b.length:Int)),(9,al c),(32,k),(33,al (g.length:Int)),(34,al f)] [.box h (su e j) 51] [aR aU d b,aR aU k g,aR ad j e.Inputs,bC] a w) E ⟨_,rfl,hS.mt [0] [3,0,1,4]⟩ ?_;rintro s a w N ⟨f,rfl,hS⟩ hM hf2;have hM:im e g f=some N:=hM;unfold im at hM;refine ai hS fun a hS=>?_;refine aD ?_;rcases cd hM with⟨A,hM⟩|⟨A,hM⟩
    ·refine ai hS fun a hS=>?_;refine aD ?_;refine ai hS fun a hS=>?_;obtain⟨M,m,hM⟩:=bd hM;refine wl rfl (bm (R:=aU) hS Bk Bl rfl rfl 1 rfl m rfl fun H S L B a hS=>?_);obtain⟨V,rfl,r⟩:=B;replace hS:=hS.fS r;refine ai hS fun a hS=>?_;refine ka hS Bm fun I P a w hk hS=>?_;refine go hS fun a w hS=>?_;rcases cd hM with⟨C,hM⟩|⟨C,hM⟩
     ·refine ai hS fun a hS=>?_;cases hM
      have hr:=hf2 _ rfl;subst hr;replace hMo2:=kl hMo2;have hM:=hMo2;cases hM
      have hr:=hf1 _ rfl;subst hr;replace hMo1:=kl hMo1;have hM:=hMo1;cases hM
      refine aI hS rfl (aq hS rfl aH) ?_;exact rfl
     exact fz
    exact fz
   rintro a w ⟨hS,hM⟩;unfold oU at hM;exact fz
  exact fz
 rintro a w ⟨hS,hM⟩;unfold sd at hM;exact fz
def qO (b:LC):Option LC:=some (b)
def nx (b:Int) (c:LC):Option (Fl (LC×Int) (LC)):=some (.go (c,IntKind.i64.wrap (b+1)))
def qP (e:aj) (d:LC) (c:Int):Option (Fl (LC×Int) (LC)):=cond (decide (c<(e.Inputs.length:Int))) ((bu e.Inputs c).bind fun b=>cond (!(b.Value.toList==bI.toList)) (gd (bH (d.length+([(am.mk b.Key b.Value)]).length)) <| nx c (d++([(am.mk b.Key b.Value)]))) (nx c d)) (some (.out d))
def mj (b:aj):Option LC:=(loop (fun s:LC×Int=>qP b s.1 s.2) (([]:List am),0)).bind fun r=>qO r
theorem u3 (T:Nat→Prop) (W0:World) (hT:TW T W0) (c:aj) (o:Value) (E:Value) (C:aE ae T W0 o c.Inputs) (D:aE aa T W0 E c.Records) (y:LC) (hM:mj c=some y):bj aP No 23 [.agg (bf c o E).toArray] W0 (fun v w'=>∃ (z:Value) (sI:bv),v=z∧gg ad T W0 w' [ba z sI] 46 z sI y):=by
 refine en Tryz.func23 Tryz.ntmps23 hT fun a hS=>?_;replace hS:=(hS.fS (aE.dn C)).fS (aE.dn D);unfold mj at hM;refine ai hS fun a hS=>?_;refine kb hS fun F M a w hk hS=>?_;refine ai hS fun a hS=>?_;refine aK (J:=fun a w=>∃ (k:LC) (g:Value) (f:LV),St W0 No T 26 [(3,g)] [ba g f] [an ad f k] a w∧qO k=some y) ?_ ?_
 ·skip;refine ai hS fun a hS=>?_;replace hS:=hS.nilRow ad 46 (by decide);obtain⟨Q,B,hMo1⟩:=bd hM;refine bF _ (fun s a w=>∃ (e:LC) (d:Int) (m:Value) (h:LV),(e,d)=s∧St W0 No T 26 [(3,m),(7,o),(8,al (c.Inputs.length:Int)),(9,al d)] [ba m h] [an ad h e,aR ae o c.Inputs] a w) B ⟨_,_,_,_,rfl,hS.mt [0] [0,2]⟩ ?_;rintro s a w A ⟨e,d,m,h,rfl,hS⟩ hM hf1;have hM:qP c e d=some A:=hM;unfold qP at hM;refine ai hS fun a hS=>?_;refine aD ?_;rcases cd hM with⟨q,hM⟩|⟨q,hM⟩
  ·refine ai hS fun a hS=>?_;refine aK (J:=fun a w=>∃ (l:LC) (n:Value) (j:LV),St W0 No T 26 [(3,n),(7,o),(8,al (c.Inputs.length:Int)),(9,al d)] [ba n j] [an ad j l,aR ae o c.Inputs] a w∧nx d l=some A) ?_ ?_
   ·skip;refine ai hS fun a hS=>?_;obtain⟨b,p,hM⟩:=bd hM;refine wl rfl (bm (R:=ae) hS u5 uz rfl rfl 1 rfl p rfl fun G O K r a hS=>?_);obtain rfl:=r;refine ai hS fun a hS=>?_;refine ka hS ug fun H N a w hk hS=>?_;refine go hS fun a w hS=>?_;rcases cd hM with⟨t,hM⟩|⟨t,hM⟩
    ·refine ai hS fun a hS=>?_;refine qy hS (bq (ps:=[(0,.tmp 18),(1,.tmp 20)]) hS uQ ir rfl (us:=[(aV b.Key),[aO b.Value]]) ⟨rfl,⟨rfl,trivial⟩⟩ (ws:=[al b.Key.Kind,aO b.Key.Text,aO b.Value]) rfl) fun a hS=>?_;refine wl rfl (a8 (ps:=[(0,.tmp 21)]) hS qc ir (zl:=[al 0,aO bI,aO bI]) (by kernel_rfl) rfl (us:=[[al b.Key.Kind,aO b.Key.Text,aO b.Value]]) ⟨rfl,trivial⟩ (ws:=[al b.Key.Kind,aO b.Key.Text,aO b.Value]) rfl rfl rfl rfl fun I a w hk hS=>?_);replace hS:=(hS.lit (R:=ad) (us:=[al b.Key.Kind,aO b.Key.Text,aO b.Value]) (xs:=[(am.mk b.Key b.Value)]) 0 rfl (by decide) (aA.one_ (R:=ad) (x:=(am.mk b.Key b.Value)) rfl) rfl rfl).freeze (R:=ad) 0 rfl 0 rfl;obtain⟨u,hM⟩:=be hM;refine wl rfl (bM (R:=ad) (xs:=e) (ys:=[(am.mk b.Key b.Value)]) hS qc (by decide) (by decide) rfl rfl 1 rfl 3 rfl 0 rfl u rfl fun P L a w hk hS=>?_);exact fz
    exact fz
   rintro a w ⟨l,n,j,hS,hM⟩;unfold nx at hM;exact fz
  exact fz
 rintro a w ⟨k,g,f,hS,hM⟩;unfold qO at hM;refine ai hS fun a hS=>?_;cases hM
 refine aI hS rfl (aq hS rfl aH) ?_;exact⟨g,f,rfl,hS.retOwn ⟨.inr (a6 (i:=0) rfl),trivial⟩ 0 rfl 0 rfl⟩
def pV (b:LK):Option LK:=(gw b).bind fun c=>some (c)
def s4 (b:Int) (c:LK):Option (Fl (LK×Int) (LK)):=some (.go (c,IntKind.i64.wrap (b+1)))
def s5 (d:LC) (c:LK) (b:Int):Option (Fl (LK×Int) (LK)):=cond (decide (b<(d.length:Int))) ((bu d b).bind fun e=>gd (bH (c.length+([e.Key]).length)) <| some (.go ((c++([e.Key])),IntKind.i64.wrap (b+1)))) (some (.out c))
def pW (d:(List LC)) (c:LK) (b:Int):Option (Fl (LK×Int) (LK)):=cond (decide (b<(d.length:Int))) ((bu d b).bind fun e=>(loop (fun s:LK×Int=>s5 e s.1 s.2) (c,0)).bind fun r=>s4 b r) (some (.out c))
def pC (b:(List LC)):Option LK:=(loop (fun s:LK×Int=>pW b s.1 s.2) (([]:List ah),0)).bind fun r=>pV r
theorem xr (T:Nat→Prop) (W0:World) (hT:TW T W0) (hLv:di T W0) (c:(List LC)) (j:Value) (V:aE (aY.slice ad) T W0 j c) (y:LK) (hM:pC c=some y):bj aP No 50 [j] W0 (fun v w'=>∃ (q:Value) (qE:bv),v=q∧gg ac T W0 w' [ay q qE] 44 q qE y):=by
 refine en Tryz.func50 Tryz.ntmps50 hT fun a hS=>?_;replace hS:=(hS.fact bC (di.dn hLv)).fS (aE.dn V);unfold pC at hM;refine ai hS fun a hS=>?_;refine aK (J:=fun a w=>∃ (g:LK) (r:Value) (k:LV),St W0 No T 29 [(3,r)] [ay r k] [an ac k g,bC] a w∧pV g=some y) ?_ ?_
 ·skip;refine ai hS fun a hS=>?_;replace hS:=hS.nilRow ac 44 (by decide);obtain⟨r1,S,hMo1⟩:=bd hM;refine bF _ (fun s a w=>∃ (h:LK) (b:Int) (t:Value) (l:LV),(h,b)=s∧St W0 No T 29 [(3,t),(8,j),(9,al (c.length:Int)),(10,al b)] [ay t l] [an ac l h,aR (aY.slice ad) j c,bC] a w) S ⟨_,_,_,_,rfl,hS.mt [0] [0,1,2]⟩ ?_;rintro s a w Q ⟨h,b,t,l,rfl,hS⟩ hM hf1;have hM:pW c h b=some Q:=hM;unfold pW at hM;refine ai hS fun a hS=>?_;refine aD ?_;rcases cd hM with⟨L,hM⟩|⟨L,hM⟩
  ·refine ai hS fun a hS=>?_;refine aK (J:=fun a w=>∃ (p:LK) (u:Value) (m:LV),St W0 No T 29 [(3,u),(8,j),(9,al (c.length:Int)),(10,al b)] [ay u m] [an ac m p,aR (aY.slice ad) j c,bC] a w∧s4 b p=some Q) ?_ ?_
   ·skip;refine ai hS fun a hS=>?_;obtain⟨o,G,hM⟩:=bd hM;refine wl rfl (bm (R:=(aY.slice ad)) hS IR M3 rfl rfl 1 rfl G rfl fun W a5 a0 M a hS=>?_);obtain⟨E,rfl,K⟩:=M;replace hS:=hS.fS K;refine ai hS fun a hS=>?_;obtain⟨r2,U,hMo2⟩:=bd hM;refine bF _ (fun s a w=>∃ (e:LK) (f:Int) (z:Value) (n:LV),(e,f)=s∧St W0 No T 29 [(3,z),(8,j),(9,al (c.length:Int)),(10,al b),(14,E),(15,al (o.length:Int)),(16,al f)] [ay z n] [an ac n e,aR (aY.slice ad) j c,aR ad E o,bC] a w) U ⟨_,_,_,_,rfl,hS.mt [0] [2,3,0,4]⟩ ?_;rintro s a w f2 ⟨e,f,z,n,rfl,hS⟩ hM hf2;have hM:s5 o e f=some f2:=hM;unfold s5 at hM;refine ai hS fun a hS=>?_;refine aD ?_;rcases cd hM with⟨N,hM⟩|⟨N,hM⟩
    ·refine ai hS fun a hS=>?_;refine aD ?_;refine ai hS fun a hS=>?_;obtain⟨d,H,hM⟩:=bd hM;refine wl rfl (bm (R:=ad) hS tA s9 rfl rfl 2 rfl H rfl fun X a9 a1 O a hS=>?_);obtain rfl:=O;refine ai hS fun a hS=>?_;refine ka hS ir fun Y a4 a w hk hS=>?_;refine go hS fun a w hS=>?_;refine wl rfl (a8 (ps:=[(0,.tmp 22)]) hS gY gU (zl:=[al 0,aO bI]) (by kernel_rfl) rfl (us:=[(aV d.Key)]) ⟨rfl,trivial⟩ (ws:=(aV d.Key)) rfl rfl rfl rfl fun Z a w hk hS=>?_);replace hS:=(hS.lit (R:=ac) (us:=(aV d.Key)) (xs:=[d.Key]) 0 rfl (by decide) (aA.one_ (R:=ac) (x:=d.Key) rfl) rfl rfl).freeze (R:=ac) 0 rfl 0 rfl;obtain⟨P,hM⟩:=be hM;refine wl rfl (bM (R:=ac) (xs:=e) (ys:=[d.Key]) hS gY (by decide) (by decide) rfl rfl 1 rfl 3 rfl 0 rfl P rfl fun af a2 a w hk hS=>?_);exact fz
    exact fz
   rintro a w ⟨p,u,m,hS,hM⟩;unfold s4 at hM;exact fz
  exact fz
 rintro a w ⟨g,r,k,hS,hM⟩;unfold pV at hM;refine ai hS fun a hS=>?_;have hL:=hS;replace hL:=hL.freeze (R:=ac) 0 rfl 0 rfl;obtain⟨ab,I,hM⟩:=bd hM;refine kc hS LQ (rX _ _ hL.dlt (hL.get 2 rfl) g _ (hL.get 0 rfl) _ I) fun _ w hR a hk hA=>?_;obtain⟨F,A,he,⟨C,B,D⟩⟩:=hR;obtain rfl:=he.symm;have hS:=hA [ay F A] (ei ⟨C,by decide⟩ B) (sP _);replace hS:=hS.fR D;refine ai hS fun a hS=>?_;cases hM
 refine aI hS rfl (aq hS rfl aH) ?_;exact⟨F,A,rfl,hS.retOwn ⟨.inr (a6 (i:=0) rfl),trivial⟩ 0 rfl 0 rfl⟩
def ua:Option ByteArray:=some (bI)
def kA (e:LC) (d:ah) (c:Int):Option (Fl (Int) (Fl (Unit) ByteArray)):=cond (decide (c<(e.length:Int))) ((bu e c).bind fun b=>cond (b.Key.Kind==d.Kind&&b.Key.Text.toList==d.Text.toList) (some (.out (.out b.Value))) (some (.go (IntKind.i64.wrap (c+1))))) (some (.out (.go ())))
def ml (c:LC) (b:ah):Option ByteArray:=(loop (fun s:Int=>kA c b s) 0).bind fun r=>Fl.el r (fun s=>ua) (fun y=>some (y))
theorem qw (T:Nat→Prop) (W0:World) (hT:TW T W0) (d:LC) (b:ah) (h:Value) (l:aE ad T W0 h d) (y:ByteArray) (hM:ml d b=some y):bj aP No 51 [h,.agg (aV b).toArray] W0 (fun v w'=>v=aO y):=by
 refine en Tryz.func51 Tryz.ntmps51 hT fun a hS=>?_;replace hS:=hS.fS (aE.dn l);unfold ml at hM;refine ai hS fun a hS=>?_;refine kb hS fun e q a w hk hS=>?_;refine ai hS fun a hS=>?_;refine aK (J:=fun a w=>St W0 No T 20 [] [] [] a w∧ua=some y) ?_ ?_
 ·skip;refine ai hS fun a hS=>?_;obtain⟨u,k,hMo1⟩:=bd hM;refine bF _ (fun s a w=>∃ (c:Int),c=s∧St W0 No T 20 [(3,pt e 0),(7,h),(8,al (d.length:Int)),(9,al c)] [.box e (aV b) 44] [aR ad h d] a w) k ⟨_,rfl,hS.mt [0] [0]⟩ ?_;rintro s a w p ⟨c,rfl,hS⟩ hM hf1;have hM:kA d b c=some p:=hM;unfold kA at hM;refine ai hS fun a hS=>?_;refine aD ?_;rcases cd hM with⟨i,hM⟩|⟨i,hM⟩
  ·refine ai hS fun a hS=>?_;refine aD ?_;refine ai hS fun a hS=>?_;obtain⟨f,g,hM⟩:=bd hM;refine wl rfl (bm (R:=ad) hS tA s9 rfl rfl 0 rfl g rfl fun m t o j a hS=>?_);obtain rfl:=j;refine ai hS fun a hS=>?_;refine ka hS ir fun n r a w hk hS=>?_;refine go hS fun a w hS=>?_;refine wl rfl (ky (v:=.bool (f.Key.Kind==b.Kind&&f.Key.Text.toList==b.Text.toList)) hS (zL hS rfl rfl) rfl rfl fun a hS=>?_);exact fz
  exact fz
 rintro a w ⟨hS,hM⟩;unfold ua at hM;exact fz
def sZ (b:LC):Option LC:=some (b)
def pU (b:Int) (c:LC):Option (Fl (LC×Int) (LC)):=some (.go (c,IntKind.i64.wrap (b+1)))
def mX (f:LC) (h:LC) (g:LK) (d:LC) (c:Int):Option (Fl (LC×Int) (LC)):=cond (decide (c<(g.length:Int))) ((bu g c).bind fun b=>(ml h b).bind fun e=>(ml f b).bind fun i=>cond (!(e.toList==i.toList)) (gd (bH (d.length+([(am.mk b e)]).length)) <| pU c (d++([(am.mk b e)]))) (pU c d)) (some (.out d))
def nI (b:LC) (c:LC):Option LC:=(pC ([b,c])).bind fun d=>(loop (fun s:LC×Int=>mX b c d s.1 s.2) (([]:List am),0)).bind fun r=>sZ r
theorem xq (T:Nat→Prop) (W0:World) (hT:TW T W0) (hLv:di T W0) (c:LC) (d:LC) (o:Value) (q:Value) (V:aE ad T W0 o c) (W:aE ad T W0 q d) (y:LC) (hM:nI c d=some y):bj aP No 25 [o,q] W0 (fun v w'=>∃ (Q:Value) (sI:bv),v=Q∧gg ad T W0 w' [ba Q sI] 46 Q sI y):=by
 refine en Tryz.func25 Tryz.ntmps25 hT fun a hS=>?_;replace hS:=((hS.fact bC (di.dn hLv)).fS (aE.dn V)).fS (aE.dn W);unfold nI at hM;refine ai hS fun a hS=>?_;refine aK (J:=fun a w=>∃ (u:LC) (p:Value) (n:LV),St W0 No T 34 [(5,p)] [ba p n] [an ad n u,bC] a w∧sZ u=some y) ?_ ?_
 ·skip;refine ai hS fun a hS=>?_;refine wl rfl (a8 (ps:=[(0,.tmp 9),(1,.tmp 10)]) hS FA KH (zl:=[.slice none 0 0,.slice none 0 0]) (by kernel_rfl) rfl (us:=[[o],[q]]) ⟨(ft (aE.one ((hS.get 1 rfl):aE ad _ _ _ _))),⟨(ft (aE.one ((hS.get 0 rfl):aE ad _ _ _ _))),trivial⟩⟩ (ws:=[o,q]) rfl rfl rfl rfl fun X a w hk hS=>?_);replace hS:=hS.lit (R:=(aY.slice ad)) (us:=[o,q]) (xs:=[c,d]) 0 rfl (by decide) ((aA.one_ (R:=(aY.slice ad)) (x:=c) (⟨_,rfl,(hS.get 1 rfl)⟩)).append (aA.one_ (R:=(aY.slice ad)) (x:=d) (⟨_,rfl,(hS.get 0 rfl)⟩))) rfl rfl;have hL:=hS;replace hL:=hL.freeze (R:=(aY.slice ad)) 0 rfl 0 rfl;obtain⟨l,G,hM⟩:=bd hM;refine kc hS Ob (xr _ _ hL.dlt (hL.get 4 rfl) ([c,d]) _ (hL.get 0 rfl) _ G) fun _ w hR a hk hA=>?_;obtain⟨m,g,he,⟨D,C,E⟩⟩:=hR;obtain rfl:=he.symm;have hS:=hA [ay m g] (ei ⟨D,by decide⟩ C) (sP _);replace hS:=hS.fR E;refine ai hS fun a hS=>?_;replace hS:=hS.nilRow ad 46 (by decide);obtain⟨r1,U,hMo1⟩:=bd hM;refine bF _ (fun s a w=>∃ (j:LC) (f:Int) (A:Value) (r:LV),(j,f)=s∧St W0 No T 34 [(0,o),(1,q),(5,A),(12,m),(13,al (l.length:Int)),(14,al f)] [ba A r,ay m g] [aR ad o c,aR ad q d,an ad r j,an ac g l,bC] a w) U ⟨_,_,_,_,rfl,hS.mt [0,1] [4,3,0,1,5]⟩ ?_;rintro s a w S ⟨j,f,A,r,rfl,hS⟩ hM hf1;have hM:mX c d l j f=some S:=hM;unfold mX at hM;refine ai hS fun a hS=>?_;refine aD ?_;rcases cd hM with⟨K,hM⟩|⟨K,hM⟩
  ·refine ai hS fun a hS=>?_;refine aK (J:=fun a w=>∃ (z:LC) (B:Value) (t:LV),St W0 No T 34 [(0,o),(1,q),(5,B),(12,m),(13,al (l.length:Int)),(14,al f)] [ba B t,ay m g] [aR ad o c,aR ad q d,an ad t z,an ac g l,bC] a w∧pU f z=some S) ?_ ?_
   ·skip;refine ai hS fun a hS=>?_;obtain⟨b,F,hM⟩:=bd hM;refine wl rfl (dj (R:=ac) hS kB dR rfl rfl 1 rfl 3 rfl F rfl fun Y a4 a5 a1 L M N a hS=>?_);obtain rfl:=L;refine qy hS (ce (k:=0) hS dR 1 rfl M N rfl id (us:=(aV b)) rfl rfl (fun h=>by cases h)) fun a hS=>?_;refine ka hS gU fun Z a3 a w hk hS=>?_;refine go hS fun a w hS=>?_;obtain⟨e,H,hM⟩:=bd hM;refine kc hS HF (qw _ _ hS.dlt d b _ (hS.get 1 rfl) _ H) fun _ w hR a hk hA=>?_;obtain rfl:=hR;have hS:=bY hA;refine ai hS fun a hS=>?_;obtain⟨a9,I,hM⟩:=bd hM;refine kc hS HF (qw _ _ hS.dlt c b _ (hS.get 0 rfl) _ I) fun _ w hR a hk hA=>?_;obtain rfl:=hR;have hS:=bY hA;refine ai hS fun a hS=>?_;rcases cd hM with⟨O,hM⟩|⟨O,hM⟩
    ·refine ai hS fun a hS=>?_;refine qy hS (bq (ps:=[(0,.tmp 27),(1,.tmp 28)]) hS uQ ir rfl (us:=[(aV b),[aO e]]) ⟨rfl,⟨rfl,trivial⟩⟩ (ws:=[al b.Kind,aO b.Text,aO e]) rfl) fun a hS=>?_;refine wl rfl (a8 (ps:=[(0,.tmp 29)]) hS qc ir (zl:=[al 0,aO bI,aO bI]) (by kernel_rfl) rfl (us:=[[al b.Kind,aO b.Text,aO e]]) ⟨rfl,trivial⟩ (ws:=[al b.Kind,aO b.Text,aO e]) rfl rfl rfl rfl fun a0 a w hk hS=>?_);replace hS:=(hS.lit (R:=ad) (us:=[al b.Kind,aO b.Text,aO e]) (xs:=[(am.mk b e)]) 0 rfl (by decide) (aA.one_ (R:=ad) (x:=(am.mk b e)) rfl) rfl rfl).freeze (R:=ad) 0 rfl 0 rfl;obtain⟨P,hM⟩:=be hM;refine wl rfl (bM (R:=ad) (xs:=j) (ys:=[(am.mk b e)]) hS qc (by decide) (by decide) rfl rfl 1 rfl 4 rfl 0 rfl P rfl fun ab a2 a w hk hS=>?_);exact fz
    exact fz
   rintro a w ⟨z,B,t,hS,hM⟩;unfold pU at hM;exact fz
  exact fz
 rintro a w ⟨u,p,n,hS,hM⟩;unfold sZ at hM;refine ai hS fun a hS=>?_;cases hM
 refine aI hS rfl (aq hS rfl aH) ?_;exact⟨p,n,rfl,hS.retOwn ⟨.inr (a6 (i:=0) rfl),trivial⟩ 0 rfl 0 rfl⟩
def iW (c:aj) (d:LC):Option (aj×Int):=(fc c).bind fun e=>cond (!(e)) ((dG c).bind fun f=>some ((f,42))) ((cx d).bind fun g=>cond (!(g)) ((dG c).bind fun h=>some ((h,5))) ((mj c).bind fun i=>(nI i d).bind fun j=>(iU c j).bind fun b=>some (((aj.mk b.1.Revision b.1.Inputs b.1.Records),b.2))))
theorem Ak (T:Nat→Prop) (W0:World) (hT:TW T W0) (hLv:di T W0) (b:aj) (c:LC) (Q:Value) (S:Value) (U:Value) (N:aE ae T W0 Q b.Inputs) (O:aE aa T W0 S b.Records) (P:aE ad T W0 U c) (y:aj×Int) (hM:iW b c=some y):bj aP No 26 [.agg (bf b Q S).toArray,U] W0 (fun v w'=>∃ (V:Value) (W:Value),v = .tuple #[.agg (bf y.1 V W).toArray,al y.2]∧aE ae (dT T []) w' V y.1.Inputs∧aE aa (dT T []) w' W y.1.Records):=by
 refine en Tryz.func26 Tryz.ntmps26 hT fun a hS=>?_;replace hS:=(((hS.fact bC (di.dn hLv)).fS (aE.dn N)).fS (aE.dn O)).fS (aE.dn P);unfold iW at hM;refine ai hS fun a hS=>?_;refine kb hS fun X a3 a w hk hS=>?_;refine ka hS mo fun A a4 a w hk hS=>?_;refine ai hS fun a hS=>?_;refine aD ?_;refine ai hS fun a hS=>?_;obtain⟨a5,p,hM⟩:=bd hM;refine kc hS HA (mQ _ _ hS.dlt (hS.get 3 rfl) b _ _ (hS.get 2 rfl) (hS.get 1 rfl) _ p) fun _ w hR a hk hA=>?_;obtain rfl:=hR;have hS:=bY hA;refine ai hS fun a hS=>?_;rcases cd hM with⟨C,hM⟩|⟨C,hM⟩
 ·refine ai hS fun a hS=>?_;obtain⟨a9,q,hM⟩:=bd hM;refine kc hS xP (dP _ _ hS.dlt b _ _ (hS.get 2 rfl) (hS.get 1 rfl) _ q) fun _ w hR a hk hA=>?_;obtain⟨G,Y,H,Z,he,g,i,d⟩:=hR;obtain rfl:=he.symm;have hS:=uw hA g i d;refine go hS fun a w hS=>?_;replace hS:=(hS.freeze (R:=ae) 0 rfl 1 rfl).freeze (R:=aa) 0 rfl 1 rfl;cases hM
  refine aI hS Tryz.results26 (bn hS rfl 0 rfl fy rfl (fun h=>by cases h) (aq hS rfl aH)) ?_;exact⟨G,H,rfl,(aE.up trivial (hS.get 1 rfl)),(aE.up trivial (hS.get 0 rfl))⟩
 refine ai hS fun a hS=>?_;obtain⟨ab,s,hM⟩:=bd hM;refine kc hS Gv (gQ _ _ hS.dlt (hS.get 3 rfl) c _ (hS.get 0 rfl) _ s) fun _ w hR a hk hA=>?_;obtain rfl:=hR;have hS:=bY hA;refine ai hS fun a hS=>?_;rcases cd hM with⟨D,hM⟩|⟨D,hM⟩
 ·refine ai hS fun a hS=>?_;obtain⟨af,t,hM⟩:=bd hM;refine kc hS xP (dP _ _ hS.dlt b _ _ (hS.get 2 rfl) (hS.get 1 rfl) _ t) fun _ w hR a hk hA=>?_;obtain⟨I,a0,J,a1,he,j,k,d⟩:=hR;obtain rfl:=he.symm;have hS:=uw hA j k d;refine go hS fun a w hS=>?_;replace hS:=(hS.freeze (R:=ae) 0 rfl 1 rfl).freeze (R:=aa) 0 rfl 1 rfl;cases hM
  refine aI hS Tryz.results26 (bn hS rfl 0 rfl fy rfl (fun h=>by cases h) (aq hS rfl aH)) ?_;exact⟨I,J,rfl,(aE.up trivial (hS.get 1 rfl)),(aE.up trivial (hS.get 0 rfl))⟩
 refine ai hS fun a hS=>?_;refine aD ?_;refine dr [(8,.blk (some A))] hS fun w hQ hS=>?_;refine gE [0,1,3] hS fun a hS=>?_;obtain⟨E,u,hM⟩:=bd hM;refine ec 2 hS N3 (u3 _ _ hS.dlt b _ _ (hS.get 2 rfl) (hS.get 1 rfl) _ u) fun _ w hR a hk hA=>?_;obtain⟨ak,a2,he,l⟩:=hR;obtain rfl:=he.symm;have hS:=qD hA l;have hL:=hS;replace hL:=hL.freeze (R:=ad) 0 rfl 0 rfl;obtain⟨F,x,hM⟩:=bd hM;refine ec 4 hS N4 (xq _ _ hL.dlt (hL.get 5 rfl) E c _ _ (hL.get 0 rfl) (hL.get 2 rfl) _ x) fun _ w hR a hk hA=>?_;obtain⟨K,B,he,⟨f,e,m⟩⟩:=hR;obtain rfl:=he.symm;have hS:=hA [ba K B] (ei ⟨f,by decide⟩ e) (sP _);replace hS:=(hS.fR m).freeze (R:=ad) 0 rfl 0 rfl;obtain⟨ag,z,hM⟩:=bd hM;refine ec 5 hS LG (sS _ _ hS.dlt (hS.get 6 rfl) b F _ _ _ (hS.get 5 rfl) (hS.get 4 rfl) (hS.get 0 rfl) _ z) fun _ w hR a hk hA=>?_;obtain⟨L,M,he,n,o⟩:=hR;obtain rfl:=he.symm;have hS:=hA [] (fun r hr=>by cases hr) tD;replace hS:=(hS.fS (n.sub (iB _))).fS (o.sub (iB _));refine gE [6,7] hS fun a hS=>?_;refine es 8 hS fun w hS=>?_;refine gE [9] hS fun a hS=>?_;refine eD ?_;refine ai hS fun a hS=>?_;cases hM
 refine aI hS Tryz.results26 (bn hS rfl 1 rfl fy rfl (fun h=>by cases h) (aq hS rfl aH)) ?_;exact⟨L,M,rfl,(aE.up trivial (hS.get 1 rfl)),(aE.up trivial (hS.get 0 rfl))⟩
def oR (b:LC) (c:LK):Option (LC×LK×Int):=cond (decide ((64:Int)<(b.length:Int))) (some (([],[],45))) (cond (decide ((0:Int)<(c.length:Int))) (some ((b,c,49))) (some ((b,[],0))))
def oS (c:Int) (d:LC) (b:LK):Option (Fl (LC×LK×Int) (LC×LK)):=some (.go (d,b,IntKind.i64.wrap (c+1)))
def lV (b:LC) (f:Int) (e:ah) (d:LK) (c:ByteArray):Option (Fl (LC×LK×Int) (LC×LK)):=cond (!(c.toList==bI.toList)) (gd (bH (b.length+([(am.mk e c)]).length)) <| oS f (b++([(am.mk e c)])) d) (oS f b d)
def oT (e:LC) (c:LK) (d:Int) (b:ah) (h:ByteArray) (f:ByteArray) (i:ByteArray) (g:Bool):Option (Fl (LC×LK×Int) (LC×LK)):=cond g (lV e d b c f) (cond (f.toList==h.toList) (lV e d b c i) (gd (bH (c.length+([b]).length)) <| lV e d b (c++([b])) f))
def lW (j:LC) (k:LC) (l:LC) (i:LK) (f:LC) (e:LK) (c:Int):Option (Fl (LC×LK×Int) (LC×LK)):=cond (decide (c<(i.length:Int))) ((bu i c).bind fun b=>(ml j b).bind fun g=>(ml k b).bind fun h=>(ml l b).bind fun d=>cond (d.toList==g.toList) (oT f e c b g h d true) (oT f e c b g h d (h.toList==d.toList))) (some (.out (f,e)))
def lU (b:LC) (c:LC) (d:LC):Option (LC×LK×Int):=(cx b).bind fun f=>cond (!(f)) (some (([],[],5))) ((cx c).bind fun g=>cond (!(g)) (some (([],[],5))) ((cx d).bind fun h=>cond (!(h)) (some (([],[],5))) ((pC ([b,c,d])).bind fun e=>(loop (fun s:LC×LK×Int=>lW b c d e s.1 s.2.1 s.2.2) (([]:List am),([]:List ah),0)).bind fun r=>oR r.1 r.2)))
theorem vZ (T:Nat→Prop) (W0:World) (hT:TW T W0) (hLv:di T W0) (c:LC) (m:LC) (n:LC) (r:Value) (t:Value) (u:Value) (c0:aE ad T W0 r c) (c1:aE ad T W0 t m) (c2:aE ad T W0 u n) (y:LC×LK×Int) (hM:lU c m n=some y):bj aP No 28 [r,t,u] W0 (fun v w'=>∃ (v4:Value) (wq:bv) (v6:Value) (xR:bv),v = .tuple #[v4,v6,al y.2.2]∧gg ad T W0 w' [ba v4 wq,ay v6 xR] 46 v4 wq y.1∧gg ac T W0 w' [ba v4 wq,ay v6 xR] 44 v6 xR y.2.1∧(∀ k,v4.ownBlock=some k→v6.ownBlock≠some k)):=by
 refine en Tryz.func28 Tryz.ntmps28 hT fun a hS=>?_;replace hS:=(((hS.fact bC (di.dn hLv)).fS (aE.dn c0)).fS (aE.dn c1)).fS (aE.dn c2);unfold lU at hM;refine ai hS fun a hS=>?_;refine aD ?_;refine iY ?_;refine ai hS fun a hS=>?_;obtain⟨cs,ao,hM⟩:=bd hM;refine kc hS Gv (gQ _ _ hS.dlt (hS.get 3 rfl) c _ (hS.get 2 rfl) _ ao) fun _ w hR a hk hA=>?_;obtain rfl:=hR;have hS:=bY hA;refine ai hS fun a hS=>?_;rcases cd hM with⟨W,hM⟩|⟨W,hM⟩
 ·refine ai hS fun a hS=>?_;cases hM
  refine aI hS Tryz.results28 (aq hS rfl (aq hS rfl (aq hS rfl aH))) ?_;exact⟨.slice none 0 0,[],.slice none 0 0,[],rfl,eE _ _ _ _ _ _,eE _ _ _ _ _ _,(fun k h=>by simp [Value.ownBlock] at *)⟩
 refine ai hS fun a hS=>?_;obtain⟨cv,av,hM⟩:=bd hM;refine wg hS rfl rfl rfl W (bg hS Gv rfl rfl (gQ _ _ hS.dlt (hS.get 3 rfl) m _ (hS.get 1 rfl) _ av) fun _ w hR a hk hA=>?_);obtain rfl:=hR;have hS:=bY hA;refine ai hS fun a hS=>?_;rcases cd hM with⟨X,hM⟩|⟨X,hM⟩
 ·refine ai hS fun a hS=>?_;cases hM
  refine aI hS Tryz.results28 (aq hS rfl (aq hS rfl (aq hS rfl aH))) ?_;exact⟨.slice none 0 0,[],.slice none 0 0,[],rfl,eE _ _ _ _ _ _,eE _ _ _ _ _ _,(fun k h=>by simp [Value.ownBlock] at *)⟩
 refine ai hS fun a hS=>?_;obtain⟨d0,b0,hM⟩:=bd hM;refine wg hS rfl rfl rfl X (bg hS Gv rfl rfl (gQ _ _ hS.dlt (hS.get 3 rfl) n _ (hS.get 0 rfl) _ b0) fun _ w hR a hk hA=>?_);obtain rfl:=hR;have hS:=bY hA;refine ai hS fun a hS=>?_;rcases cd hM with⟨b1,hM⟩|⟨b1,hM⟩
 ·refine ai hS fun a hS=>?_;cases hM
  refine aI hS Tryz.results28 (aq hS rfl (aq hS rfl (aq hS rfl aH))) ?_;exact⟨.slice none 0 0,[],.slice none 0 0,[],rfl,eE _ _ _ _ _ _,eE _ _ _ _ _ _,(fun k h=>by simp [Value.ownBlock] at *)⟩
 refine ai hS fun a hS=>?_;refine aK (J:=fun a w=>∃ (O:LC) (G:LK) (B:Value) (z:LV) (F:Value) (E:LV),St W0 No T 88 [(9,B),(10,F)] [ba B z,ay F E] [an ad z O,an ac E G,bC] a w∧oR O G=some y) ?_ ?_
 ·skip;refine ai hS fun a hS=>?_;refine wl rfl (a8 (ps:=[(0,.tmp 30),(1,.tmp 31),(2,.tmp 32)]) hS FA KH (zl:=[.slice none 0 0,.slice none 0 0,.slice none 0 0]) (by kernel_rfl) rfl (us:=[[r],[t],[u]]) ⟨(ft (aE.one ((hS.get 2 rfl):aE ad _ _ _ _))),⟨(ft (aE.one ((hS.get 1 rfl):aE ad _ _ _ _))),⟨(ft (aE.one ((hS.get 0 rfl):aE ad _ _ _ _))),trivial⟩⟩⟩ (ws:=[r,t,u]) rfl rfl rfl rfl fun c3 a w hk hS=>?_);replace hS:=hS.lit (R:=(aY.slice ad)) (us:=[r,t,u]) (xs:=[c,m,n]) 0 rfl (by decide) ((aA.one_ (R:=(aY.slice ad)) (x:=c) (⟨_,rfl,(hS.get 2 rfl)⟩)).append ((aA.one_ (R:=(aY.slice ad)) (x:=m) (⟨_,rfl,(hS.get 1 rfl)⟩)).append (aA.one_ (R:=(aY.slice ad)) (x:=n) (⟨_,rfl,(hS.get 0 rfl)⟩)))) rfl rfl;have hL:=hS;replace hL:=hL.freeze (R:=(aY.slice ad)) 0 rfl 0 rfl;obtain⟨j,ak,hM⟩:=bd hM;refine kc hS Ob (xr _ _ hL.dlt (hL.get 5 rfl) ([c,m,n]) _ (hL.get 0 rfl) _ ak) fun _ w hR a hk hA=>?_;obtain⟨l,g,he,⟨Z,Y,a0⟩⟩:=hR;obtain rfl:=he.symm;have hS:=hA [ay l g] (ei ⟨Z,by decide⟩ Y) (sP _);replace hS:=hS.fR a0;refine ai hS fun a hS=>?_;replace hS:=(hS.nilRow ad 46 (by decide)).nilRow ac 44 (by decide);obtain⟨r1,bt,hMo1⟩:=bd hM;refine bF _ (fun s a w=>∃ (f:LC) (o:LK) (e:Int) (q:Value) (p:LV) (C:Value) (A:LV),(f,o,e)=s∧St W0 No T 88 [(0,r),(1,t),(2,u),(9,q),(10,C),(34,l),(35,al (j.length:Int)),(36,al e)] [ba q p,ay C A,ay l g] [aR ad r c,aR ad t m,aR ad u n,an ad p f,an ac A o,an ac g j,bC] a w) bt ⟨_,_,_,_,_,_,_,rfl,hS.mt [1,0,2] [6,5,4,1,0,2,7]⟩ ?_;rintro s a w f1 ⟨f,o,e,q,p,C,A,rfl,hS⟩ hM hf1;have hM:lW c m n j f o e=some f1:=hM;unfold lW at hM;refine ai hS fun a hS=>?_;refine aD ?_;rcases cd hM with⟨b2,hM⟩|⟨b2,hM⟩
  ·refine ai hS fun a hS=>?_;refine aK (J:=fun a w=>∃ (P:LC) (H:LK) (S:Value) (K:LV) (U:Value) (L:LV),St W0 No T 88 [(0,r),(1,t),(2,u),(9,S),(10,U),(34,l),(35,al (j.length:Int)),(36,al e)] [ba S K,ay U L,ay l g] [aR ad r c,aR ad t m,aR ad u n,an ad K P,an ac L H,an ac g j,bC] a w∧oS e P H=some f1) ?_ ?_
   ·skip;refine ai hS fun a hS=>?_;obtain⟨b,a9,hM⟩:=bd hM;refine wl rfl (dj (R:=ac) hS kB dR rfl rfl 2 rfl 5 rfl a9 rfl fun c4 cl co ca b3 b4 b5 a hS=>?_);obtain rfl:=b3;refine qy hS (ce (k:=0) hS dR 2 rfl b4 b5 rfl id (us:=(aV b)) rfl rfl (fun h=>by cases h)) fun a hS=>?_;refine ka hS gU fun D ck a w hk hS=>?_;refine go hS fun a w hS=>?_;refine aD ?_;refine dr [] hS fun w hQ hS=>?_;refine gE [0,1,3,4,6,7] hS fun a hS=>?_;obtain⟨a1,ab,hM⟩:=bd hM;refine ec 2 hS HF (qw _ _ hS.dlt c b _ (hS.get 0 rfl) _ ab) fun _ w hR a hk hA=>?_;obtain rfl:=hR;have hS:=bY hA;obtain⟨Q,af,hM⟩:=bd hM;refine ec 5 hS HF (qw _ _ hS.dlt m b _ (hS.get 1 rfl) _ af) fun _ w hR a hk hA=>?_;obtain rfl:=hR;have hS:=bY hA;obtain⟨a2,ag,hM⟩:=bd hM;refine ec 8 hS HF (qw _ _ hS.dlt n b _ (hS.get 2 rfl) _ ag) fun _ w hR a hk hA=>?_;obtain rfl:=hR;have hS:=bY hA;refine gE [9,10,11] hS fun a hS=>?_;refine eD ?_;refine ai hS fun a hS=>?_;refine aK (J:=fun a w=>∃ (I:LK) (d:ByteArray) (V:Value) (M:LV),St W0 No T 88 [(0,r),(1,t),(2,u),(9,q),(10,V),(12,pt D 0),(16,aO d),(34,l),(35,al (j.length:Int)),(36,al e)] [ba q p,ay V M,ay l g,.box D (aV b) 44] [aR ad r c,aR ad t m,aR ad u n,an ad p f,an ac M I,an ac g j,bC] a w∧lV f e b I d=some f1) ?_ ?_
    ·skip;refine ai hS fun a hS=>?_;refine aK (J:=fun a w=>∃ (N:Bool),St W0 No T 88 [(0,r),(1,t),(2,u),(9,q),(10,C),(12,pt D 0),(13,aO a1),(14,aO Q),(15,aO a2),(16,aO Q),(34,l),(35,al (j.length:Int)),(36,al e),(54,.bool N)] [ba q p,ay C A,ay l g,.box D (aV b) 44] [aR ad r c,aR ad t m,aR ad u n,an ad p f,an ac A o,an ac g j,bC] a w∧oT f o e b a1 Q a2 N=some f1) ?_ ?_
     ·exact fz
     rintro a w ⟨N,hS,hM⟩;unfold oT at hM;rcases cd hM with⟨b6,hM⟩|⟨b6,hM⟩
     ·exact fz
     refine ai hS fun a hS=>?_;rcases cd hM with⟨b8,hM⟩|⟨b8,hM⟩
     ·exact fz
     refine ai hS fun a hS=>?_;refine wl rfl (a8 (ps:=[(0,.tmp 51)]) hS gY gU (zl:=[al 0,aO bI]) (by kernel_rfl) rfl (us:=[(aV b)]) ⟨rfl,trivial⟩ (ws:=(aV b)) rfl rfl rfl rfl fun c5 a w hk hS=>?_);replace hS:=(hS.lit (R:=ac) (us:=(aV b)) (xs:=[b]) 0 rfl (by decide) (aA.one_ (R:=ac) (x:=b) rfl) rfl rfl).freeze (R:=ac) 0 rfl 0 rfl;obtain⟨b9,hM⟩:=be hM;refine wl rfl (bM (R:=ac) (xs:=o) (ys:=[b]) hS gY (by decide) (by decide) rfl rfl 1 rfl 6 rfl 0 rfl b9 rfl fun d1 cb a w hk hS=>?_);exact fz
    rintro a w ⟨I,d,V,M,hS,hM⟩;unfold lV at hM;refine ai hS fun a hS=>?_;rcases cd hM with⟨bb,hM⟩|⟨bb,hM⟩
    ·refine ai hS fun a hS=>?_;refine qy hS (bq (ps:=[(0,.tmp 71),(1,.tmp 72)]) hS uQ ir rfl (us:=[(aV b),[aO d]]) ⟨rfl,⟨rfl,trivial⟩⟩ (ws:=[al b.Kind,aO b.Text,aO d]) rfl) fun a hS=>?_;refine wl rfl (a8 (ps:=[(0,.tmp 73)]) hS qc ir (zl:=[al 0,aO bI,aO bI]) (by kernel_rfl) rfl (us:=[[al b.Kind,aO b.Text,aO d]]) ⟨rfl,trivial⟩ (ws:=[al b.Kind,aO b.Text,aO d]) rfl rfl rfl rfl fun c9 a w hk hS=>?_);replace hS:=(hS.lit (R:=ad) (us:=[al b.Kind,aO b.Text,aO d]) (xs:=[(am.mk b d)]) 0 rfl (by decide) (aA.one_ (R:=ad) (x:=(am.mk b d)) rfl) rfl rfl).freeze (R:=ad) 0 rfl 0 rfl;obtain⟨bi,hM⟩:=be hM;refine wl rfl (bM (R:=ad) (xs:=f) (ys:=[(am.mk b d)]) hS qc (by decide) (by decide) rfl rfl 0 rfl 5 rfl 0 rfl bi rfl fun d2 ch a w hk hS=>?_);exact fz
    exact fz
   rintro a w ⟨P,H,S,K,U,L,hS,hM⟩;unfold oS at hM;exact fz
  refine ai hS fun a hS=>?_;cases hM
  have hr:=hf1 _ rfl;subst hr;have hM:oR f o=some y:=hMo1;exact⟨_,_,_,_,_,_,hS.mt [0,1] [3,4,6],hM⟩
 rintro a w ⟨O,G,B,z,F,E,hS,hM⟩;unfold oR at hM;refine aD ?_;refine ai hS fun a hS=>?_;rcases cd hM with⟨bl,hM⟩|⟨bl,hM⟩
 ·refine ai hS fun a hS=>?_;cases hM
  refine aI hS Tryz.results28 (aq hS rfl (aq hS rfl (aq hS rfl aH))) ?_;exact⟨.slice none 0 0,[],.slice none 0 0,[],rfl,eE _ _ _ _ _ _,eE _ _ _ _ _ _,(fun k h=>by simp [Value.ownBlock] at *)⟩
 refine ai hS fun a hS=>?_;rcases cd hM with⟨bs,hM⟩|⟨bs,hM⟩
 ·refine ai hS fun a hS=>?_;cases hM
  refine aI hS Tryz.results28 (aq hS rfl (aq hS rfl (aq hS rfl aH))) ?_;exact⟨B,z,F,E,rfl,hS.retOwn ⟨.inr (a6 (i:=0) rfl),⟨.inr (a6 (i:=1) rfl),trivial⟩⟩ 0 rfl 0 rfl,hS.retOwn ⟨.inr (a6 (i:=0) rfl),⟨.inr (a6 (i:=1) rfl),trivial⟩⟩ 1 rfl 1 rfl,(hS.apart2 0 rfl 1 rfl (by decide))⟩
 refine ai hS fun a hS=>?_;cases hM
 refine aI hS Tryz.results28 (aq hS rfl (aq hS rfl (aq hS rfl aH))) ?_;exact⟨B,z,.slice none 0 0,[],rfl,hS.retOwn ⟨.inr (a6 (i:=0) rfl),⟨.inl rfl,trivial⟩⟩ 0 rfl 0 rfl,eE _ _ _ _ _ _,(fun k h=>by simp [Value.ownBlock] at *)⟩
end
end
section
open Go.RowKit
open Go.Lib hiding intOf
instance:DecidableEq ah:=fun a b=>decidable_of_iff (eo a b=true) iO
theorem E0 (xs:List ah):(sG xs).Perm xs:=List.mergeSort_perm _ _
theorem CL (xs:List ah):(sG xs).Pairwise fun a b=>¬ bT b a<0:=by
 have h:=List.pairwise_mergeSort (le:=fun x y=>!ltOf bT y x) (fun a b c h1 h2=>by
  simp only [tF] at *;exact OH.ntrans _ _ _ h2 h1) (fun a b=>by
  simp only [xI,tF];unfold ltOf;simp only [decide_eq_false_iff_not];by_cases h:bT b a<0
  ·exact .inr (x7 h)
  ·exact .inl h) xs
 refine AN (fun {a b} h=>?_) h;unfold ltOf at h;simpa using h
def tn (s:List ah):Nat→List ah
 | 0=>[]
 | n+1=>tn s n++(match s[n]? with
  | some x=>if n≠0∧s[n-1]? = some x then [] else [x]
  | none=>[])
theorem Fw (s:List ah):∀ n,(tn s n).length≤n
 | 0=>cX _
 | n+1=>by
  have:=Fw s n;unfold tn;rw [cS];cases s[n]? with
  | none=>simp; omega
  | some x=>dsimp only; split <;> simp <;> omega
theorem wX {s:List ah} {n:Nat} {x:ah} (hx:s[n]? = some x) (h:n=0∨s[n-1]? ≠ some x):tn s (n+1)=tn s n++[x]:=by
 rw [tn,hx];dsimp only;rw [if_neg (by rintro⟨h1,h2⟩; rcases h with h | h; exact h1 h; exact h h2)]
theorem wY {s:List ah} {n:Nat} {x:ah} (hx:s[n]? = some x) (h0:n≠0) (h:s[n-1]? = some x):tn s (n+1)=tn s n:=by
 rw [tn,hx];dsimp only;rw [if_pos ⟨h0,h⟩,uo]
theorem zC {s:List ah}:∀ {n:Nat} {x:ah},n≤s.length→(x∈tn s n↔∃ i,i<n∧s[i]? = some x)
 | 0,x,_=>by simp [tn]
 | n+1,x,h=>by
  have ih:=zC (s:=s) (n:=n) (x:=x) (by omega);have hn:s[n]? = some s[n]:=bS (by omega);by_cases hc:n≠0∧s[n-1]? = some s[n]
  ·rw [wY hn hc.1 hc.2,ih];constructor
   ·rintro⟨i,h1,h2⟩; exact⟨i,by omega,h2⟩
   ·rintro⟨i,h1,h2⟩;by_cases hi:i=n
    ·subst hi;rw [hn] at h2;exact⟨i-1,by omega,by rw [hc.2,← h2]⟩
    ·exact⟨i,by omega,h2⟩
  ·rw [wX hn (by by_cases h0:n=0; exact .inl h0; exact .inr fun h=>hc ⟨h0,h⟩),dz,ih];constructor
   ·rintro (⟨i,h1,h2⟩ | h)
    ·exact⟨i,by omega,h2⟩
    ·simp only [cz,gn,or_false] at h;exact⟨n,by omega,by rw [hn,h]⟩
   ·rintro⟨i,h1,h2⟩;by_cases hi:i=n
    ·subst hi;rw [hn] at h2;injection h2 with h2;exact .inr (by simp [h2])
    ·exact .inl ⟨i,by omega,h2⟩
theorem Di {s:List ah} (hs:s.Pairwise fun a b=>¬ bT b a<0):∀ n,n≤s.length→ut (tn s n)
 | 0,_=>tD
 | n+1,h=>by
  have ih:=Di hs n (by omega);have hn:s[n]? = some s[n]:=bS (by omega);by_cases hc:n≠0∧s[n-1]? = some s[n]
  ·rw [wY hn hc.1 hc.2]; exact ih
  ·rw [wX hn (by by_cases h0:n=0; exact .inl h0; exact .inr fun h=>hc ⟨h0,h⟩)];unfold ut;rw [xJ];refine⟨ih,BY _ _,fun a ha b hb=>?_⟩;simp only [cz,gn,or_false] at hb;subst hb;obtain⟨i,hi,hia⟩:=(zC (by omega)).1 ha;have h0:n≠0:=by omega
   have hm:s[n-1]? = some s[n-1]:=bS (by omega);have hlt:bT s[n-1] s[n]<0:=by
    have h1:=gG.1 hs (n-1) n (by omega) (by omega) (by omega);rcases tu s[n-1] s[n] with h | h | h
    ·exact h
    ·exact absurd ⟨h0,by rw [hm,h]⟩ hc
    ·exact absurd h h1
   by_cases hin:i=n-1
   ·subst hin;rw [hm] at hia;injection hia with hia;rw [← hia]; exact hlt
   ·have h1:=gG.1 hs i (n-1) (by omega) (by omega) (by omega);obtain⟨q1,q2⟩:=bN.1 hia;rw [q2] at h1;exact mH h1 hlt
theorem vl {s:List ah}:∀ n,n≤s.length→(∀ i,i≠0→i<n→s[i-1]? ≠ s[i]?)→tn s n=s.take n
 | 0,_,_=>by simp [tn]
 | n+1,h,hd=>by
  have hn:s[n]? = some s[n]:=bS (by omega);rw [wX hn (by by_cases h0:n=0; exact .inl h0; exact .inr (by rw [← hn]; exact hd n h0 (by omega))),vl n (by omega) fun i h0 hi=>hd i h0 (by omega),b7 hn]
theorem EF {s:List ah} (hl:Rm s.length):nQ s=some (tn s s.length):=by
 unfold Rm at hl;have key:Ok (nQ s) fun y=>y=tn s s.length:=by
  unfold nQ;refine aF (fun e=>ar ?_) (fun e=>?_)
  ·have e:s.length<2:=by have:=of_decide_eq_true e; omega
   rw [vl _ (cX _) fun i h0 hi=>by omega,i6]
  ·have e:2≤s.length:=by have:=of_decide_eq_false e; omega
   refine cc (fun n t=>t=((n+1:Nat):Int)∧n+1≤s.length∧∀ i,i≠0→i<n+1→s[i-1]? ≠ s[i]?) (fun r=>(r = .go ()∧tn s s.length=s)∨r = .out (tn s s.length)) (s.length-1) ⟨rfl,by omega,fun i h0 hi=>by omega⟩ (fun n t hn hI=>?_) (fun r hr=>?_)
   ·obtain⟨rfl,hI1,hI2⟩:=hI;unfold og;by_cases hk:n+1<s.length
    ·have hx:s[n+1]? = some s[n+1]:=bS hk;have hy:s[n]? = some s[n]:=bS (by omega);rw [dlt hk,cond_true,aZ,hx,ax,AE (by omega) (by omega),show (((n+1:Nat):Int)-1)=((n:Nat):Int) by omega,aZ,hy,ax];show Ok (cond (eo s[n+1] s[n]) _ _) _;cases hq:eo s[n+1] s[n]
     ·rw [cond_false];unfold od;rw [cJ (by omega)];refine ar ⟨by omega,rfl,by omega,fun i h0 hi=>?_⟩;by_cases hin:i=n+1
      ·subst hin;rw [Nat.add_sub_cancel,hx,hy];have:=sA.1 hq;exact fun h=>this (fq h).symm
      ·exact hI2 i h0 (by omega)
     ·rw [cond_true,ud (by omega),ax];have heq:=iO.1 hq;refine cc (fun m t=>∃ s' kk,t=(s',((kk:Nat):Int),((m+1:Nat):Int))∧s'.length=s.length∧s'.take kk=tn s (n+1+(m+1))∧s'.drop (n+1+m)=s.drop (n+1+m)∧kk≤n+1+m∧n+1+(m+1)≤s.length)
       (fun t=>∃ s' kk,t=(s',((kk:Nat):Int))∧s'.length=s.length∧kk≤s.length∧s'.take kk=tn s s.length) (s.length-(n+2))
       ⟨s,n+1,rfl,rfl,?_,rfl,by omega,by omega⟩ (fun m t hm hJ=>?_) (fun t ht=>?_)
      ·rw [tC,wY hx (by omega) (by rw [Nat.add_sub_cancel,hy,heq]),vl (n+1) (by omega) hI2]
      ·obtain⟨s',kk,rfl,e1,e2,e3,e4,e5⟩:=hJ;have hgt:∀ j,n+1+m≤j→s'[j]? = s[j]?:=fun j hj=>by
        have:=congrArg (fun l=>l[j-(n+1+m)]?) e3;simp only [sj] at this;rwa [show n+1+m+(j-(n+1+m))=j by omega] at this
       unfold oe;dsimp only;rw [tH,tH];by_cases hk2:n+1+(m+1)<s.length
       ·have hz:s[n+1+(m+1)]? = some s[n+1+(m+1)]:=bS hk2;have hz0:s[n+1+m]? = some s[n+1+m]:=bS (by omega);have w0:IntKind.i64.wrap (((m+1:Nat):Int)-1)=(m:Int):=by rw [AE (by omega) (by omega)]; omega
        rw [decide_eq_true (by omega),cond_true,w0];have g1:decide ((0:Int)≤((m+1:Nat):Int))=true:=decide_eq_true (by omega);have g2:decide ((0:Int)≤(m:Int))=true:=decide_eq_true (by omega);have g3:decide ((m:Int)<((s.length-(n+1):Nat):Int))=true:=decide_eq_true (by omega);have a1:((n+1:Nat):Int)+((m+1:Nat):Int)=((n+1+(m+1):Nat):Int):=by omega
        have a2:((n+1:Nat):Int)+(m:Int)=((n+1+m:Nat):Int):=by omega
        rw [g1,g2,g3,a1,a2];simp only [gd,cond_true];rw [aZ,aZ,aZ,hgt _ (by omega),hgt _ (by omega),hz,hz0];simp only [ax];show Ok (cond (!eo s[n+1+(m+1)] s[n+1+m]) _ _) _;unfold lw;rw [cJ (by omega),cJ (by omega),bS (by omega:kk<s'.length),ax,tH];cases hq2:eo s[n+1+(m+1)] s[n+1+m]
        ·simp only [my,cond_true];refine ar ⟨by omega,_,kk+1,rfl,by simp [e1],?_,?_,by omega,by omega⟩
         ·rw [b7 (x:=s[n+1+(m+1)]) (B0 (by omega)),List.take_set_of_le (cX _),e2,show n+1+(m+1+1)=n+1+(m+1)+1 from rfl,wX hz (.inr ?_)];rw [show n+1+(m+1)-1=n+1+m by omega,hz0];exact fun h=>(sA.1 hq2) (fq h).symm
         ·rw [List.drop_set_of_lt (by omega)];have:=congrArg (List.drop 1) e3;simpa [Nat.add_comm,Nat.add_left_comm,wc] using this
        ·simp only [dh,cond_false];refine ar ⟨by omega,_,kk,rfl,e1,?_,?_,by omega,by omega⟩
         ·rw [e2,show n+1+(m+1+1)=n+1+(m+1)+1 from rfl,wY hz (by omega) (by rw [show n+1+(m+1)-1=n+1+m by omega,hz0,iO.1 hq2])]
         ·have:=congrArg (List.drop 1) e3;simpa [Nat.add_comm,Nat.add_left_comm,wc] using this
       ·rw [decide_eq_false (by omega),cond_false];exact ar ⟨s',kk,rfl,e1,by omega,by rw [e2,show n+1+(m+1)=s.length by omega]⟩
      ·obtain⟨s',kk,rfl,e1,e2,e3⟩:=ht;unfold lu;dsimp only;rw [ud (by omega),ax];simp only [tH,AH,uo];rw [pF (by simp; omega),ax];refine ar (.inr ?_);rw [List.take_append_of_le_length (by simp; omega),List.take_take,Nat.min_self,e3]
    ·have hn2:n+1=s.length:=by omega
     rw [EG hk,cond_false];refine ar (.inl ⟨rfl,?_⟩);rw [vl _ (cX _) fun i h0 hi=>hI2 i h0 (by omega),i6]
   ·rcases hr with⟨rfl,h⟩ | rfl
    ·exact ar h.symm
    ·exact ar rfl
 obtain⟨y,e,rfl⟩:=key;exact e
theorem Dg {s:List ah} (h:Rm s.length):nP s=some s:=by
 unfold nP Rm at *;rw [show bH (([]:List ah).length+s.length)=true from dX (by simp; omega)]; rfl
theorem BR {l:List ah} (hl:Rm l.length):∃ m,pn l=some m∧qS l m:=by
 unfold pn;rw [Dg hl,ax,dX (by unfold Rm at hl; omega)];simp only [gd,cond_true];rw [EF (by rw [tB]; exact hl)];refine⟨_,rfl,Di (CL l) _ (cX _),fun x=>?_,by have:=Fw (sG l) (sG l).length; rw [tB] at this; rw [tB]; exact this⟩;rw [zC (cX _),← (E0 l).mem_iff];constructor
 ·rintro⟨i,_,h⟩; exact a6 h
 ·intro h;obtain⟨i,hi⟩:=kg.1 h;exact⟨i,bc hi,hi⟩
end
section
open Go.RowKit
open Go.Lib hiding intOf
theorem uI {α:Type} (x:Option α):gd true x=x:=rfl
theorem FV {α:Type} {P:List α→Prop} (h0:P []) (h1:∀ l c,P l→P (l++[c])) (l:List α):P l:=by
 have key:∀ m:List α,P m.reverse:=fun m=>by
  induction m with
  | nil=>exact h0
  | cons c m ih=>rw [List.reverse_cons]; exact h1 _ _ ih
 have:=key l.reverse;rwa [List.reverse_reverse] at this
def e0:ByteArray:=bI
def mv (m:List (ah×ByteArray)) (k:ah):ByteArray:=(cK aL k m).getD bI
theorem MR (m:List (ah×ByteArray)) (k k':ah) (v:ByteArray):mv (eH aL k' v m) k=if k=k' then v else mv m k:=by
 unfold mv;rw [uN jk];by_cases h:k=k'
 ·rw [if_pos ((jk _ _).2 h),if_pos h]; rfl
 ·rw [if_neg (by rw [jk]; exact h),if_neg h]
def vals (l:List am):List (ah×ByteArray):=l.foldl (fun m c=>eH aL c.Key c.Value m) []
theorem BU (l:List am) (c:am):vals (l++[c])=eH aL c.Key c.Value (vals l):=by unfold vals; rw [AJ]; rfl
def va (l:List am) (k:ah):ByteArray:=mv (vals l) k
theorem zd (l:List am) (c:am) (k:ah):va (l++[c]) k=if k=c.Key then c.Value else va l k:=by
 unfold va; rw [BU,MR]
theorem I3 {k:ah} (l:List am):(∀ c∈l,c.Key≠k)→va l k=e0:=by
 refine FV (P:=fun l=>(∀ c∈l,c.Key≠k)→va l k=e0) (fun _=>rfl) (fun l c ih h=>?_) l;rw [zd,if_neg fun e=>h c (by simp) e.symm];exact ih fun d hd=>h d (qC _ hd)
theorem Lo {c:am} (l:List am):(l.map (·.Key)).Nodup→c∈l→va l c.Key=c.Value:=by
 refine FV (P:=fun l=>(l.map (·.Key)).Nodup→c∈l→va l c.Key=c.Value) (fun _ h=>by cases h) (fun l d ih hn h=>?_) l;rw [ur,List.nodup_append] at hn;rw [zd];rcases dz.1 h with h | h
 ·rw [if_neg fun e=>hn.2.2 c.Key (vh h) d.Key (by simp) e];exact ih hn.1 h
 ·rw [eG.1 h,if_pos rfl]
theorem gT {l:List am} (h:l.length≤1000000):fA l=some (vals l):=by
 unfold fA;rw [show loop (fun s:(List (ah×ByteArray))×Int=>gJ l s.1 s.2) (([]:(List (ah×ByteArray))),0)=some (vals l) from by
  refine (cD (xs:=l) (fun k=>(vals (l.take k),(k:Int))) rfl (fun k c hx=>?_) ?_)
  ·dsimp only;have:=bc hx;unfold gJ;rw [cU hx,cond_true,aZ,hx,ax,cJ (by omega),b7 hx,BU]
  ·dsimp only;unfold gJ;rw [bA,i6]; rfl]
 rfl
def bU (l:List am):List ah:=l.map (·.Key)
theorem Kg {l:List am} {acc:List ah} (h:acc.length+l.length≤1000000):loop (fun s:(List ah)×Int=>ju l s.1 s.2) (acc,0)=some (acc++bU l):=by
 refine (cD (xs:=l) (fun k=>(acc++bU (l.take k),(k:Int))) (by simp [bU]) (fun k c hx=>?_) ?_)
 ·dsimp only;have:=bc hx;unfold ju;rw [cU hx,cond_true,aZ,hx,ax,dX (by simp [bU]; omega),uI,cJ (by omega),b7 hx];simp [bU]
 ·dsimp only;unfold ju;rw [bA,i6]; rfl
theorem ya {ls:List (List am)} (h:(ls.flatMap bU).length≤1000000) (h2:ls.length≤1000000):loop (fun s:(List ah)×Int=>jv ls s.1 s.2) (([]:List ah),0)=some (ls.flatMap bU):=by
 refine (cD (xs:=ls) (fun k=>((ls.take k).flatMap bU,(k:Int))) rfl (fun k c hx=>?_) ?_)
 ·dsimp only;have:=bc hx;unfold jv;have hl:((ls.take k).flatMap bU).length+c.length≤1000000:=by
   have e:ls=ls.take (k+1)++ls.drop (k+1):=(Gd _ _).symm;rw [e,b7 hx] at h;simp only [List.flatMap_append,cS,CV,List.flatMap_nil,uo] at h;have:(bU c).length=c.length:=by simp [bU]
   omega
  rw [cU hx,cond_true,aZ,hx,ax,Kg hl,ax];unfold oa;rw [cJ (by omega),b7 hx];simp
 ·dsimp only;unfold jv;rw [bA,i6]; rfl
theorem Ct {ls:List (List am)} (h:(ls.flatMap bU).length≤1000000) (h2:ls.length≤1000000):∃ ks,jY ls=some ks∧qS (ls.flatMap bU) ks:=by
 obtain⟨ks,k1,k2⟩:=BR (l:=ls.flatMap bU) (by unfold Rm; omega);refine⟨ks,?_,k2⟩;unfold jY;rw [ya h h2];rw [ax];unfold lr;rw [k1]; rfl
theorem nO (a b:ByteArray):(a.toList==b.toList)=decide (a=b):=by
 by_cases h:a=b
 ·rw [h]; simp
 ·rw [decide_eq_false h,beq_eq_false_iff_ne];exact fun e=>h (toList_inj e)
def kj (f t:List am) (ks:List ah):List am:=(ks.filter fun k=>!decide (va f k=va t k)).map fun k=>⟨k,va t k⟩
theorem tO (f t:List am) (ks:List ah):(kj f t ks).length≤ks.length:=by
 unfold kj; rw [qR]; exact uf _ _
theorem Gz {f t:List am} {ks:List ah} (h:ks.length≤1000000):loop (fun s:(List am)×Int=>fC (vals f) (vals t) ks s.1 s.2) (([]:List am),0)=some (kj f t ks):=by
 refine (cD (xs:=ks) (fun n=>(kj f t (ks.take n),(n:Int))) rfl (fun n k hx=>?_) ?_)
 ·dsimp only;have hn:=bc hx;have hl:=tO f t (ks.take n);rw [fe] at hl;unfold fC;rw [cU hx,cond_true,aZ,hx,ax,ax,ax,ax];show cond (!((va f k).toList==(va t k).toList)) (gd (bH ((kj f t (ks.take n)).length+[am.mk k (va t k)].length)) (gW (n:Int) (kj f t (ks.take n)++[am.mk k (va t k)]))) (gW (n:Int) (kj f t (ks.take n)))=_;rw [nO,dX (by simp; omega),uI];unfold gW;rw [cJ (by omega),b7 hx];unfold kj;rw [lh,ur];cases hd:decide (va f k=va t k) <;> simp [hd]
 ·dsimp only;unfold fC;rw [bA,i6]; rfl
theorem y6 {f t:List am} (hf:f.length≤1000) (ht:t.length≤1000):∃ ks,qS (bU f++bU t) ks∧ks.length≤2000∧ez f t=some (kj f t ks):=by
 have hl:([f,t].flatMap bU).length≤2000:=by simp [bU]; omega
 obtain⟨ks,k1,k2⟩:=Ct (ls:=[f,t]) (by omega) (by simp);have e:[f,t].flatMap bU=bU f++bU t:=by simp
 have hk:=k2.len;rw [e] at k2;refine⟨ks,k2,by omega,?_⟩;unfold ez;rw [gT (by omega),gT (by omega),ax,ax,k1,ax,Gz (by omega)];rfl
def uP (o a b:List am) (k:ah):ByteArray:=if va b k=va o k∨va b k=va a k then va a k else if va a k=va o k then va b k else va a k
def ep (o a b:List am) (k:ah):Bool:=!decide (va b k=va o k) && !decide (va b k=va a k) && !decide (va a k=va o k)
def sO (o a b:List am) (ks:List ah):List am:=(ks.filter fun k=>!decide (uP o a b k=e0)).map fun k=>⟨k,uP o a b k⟩
theorem Ae (o a b:List am) (ks:List ah):(sO o a b ks).length≤ks.length:=by
 unfold sO; rw [qR]; exact uf _ _
theorem Ac {o a b:List am} {ks:List ah} (h:ks.length≤1000000):loop (fun s:(List am)×(List ah)×Int=>ef (vals o) (vals a) (vals b) ks s.1 s.2.1 s.2.2) (([]:List am),([]:List ah),0)=some (sO o a b ks,ks.filter (ep o a b)):=by
 refine (cD (xs:=ks) (fun n=>(sO o a b (ks.take n),(ks.take n).filter (ep o a b),(n:Int))) rfl (fun n k hx=>?_) ?_)
 ·dsimp only;have hn:=bc hx;have hl:=Ae o a b (ks.take n);have hc:=uf (ep o a b) (ks.take n);rw [fe] at hl hc;have hj3:∀ (cl:List ah) (v:ByteArray),dH (sO o a b (ks.take n)) (n:Int) k cl v=some (.go ((sO o a b (ks.take n)++(if v=e0 then [] else [am.mk k v])),cl,((n+1:Nat):Int))):=fun cl v=>by
   unfold dH;rw [nO,dX (by simp; omega),uI];unfold kE;rw [cJ (by omega)];by_cases hv:v=e0
   ·rw [if_pos hv,decide_eq_true (show v=bI from hv)]; simp
   ·rw [if_neg hv,decide_eq_false (show ¬ v=bI from hv)]; rfl
  have hj4:∀ g:Bool,e6 (vals o) (vals b) (sO o a b (ks.take n)) ((ks.take n).filter (ep o a b)) (n:Int) k (va a k) g=cond g (dH (sO o a b (ks.take n)) (n:Int) k ((ks.take n).filter (ep o a b)) (va a k)) (cond (decide (va a k=va o k)) (dH (sO o a b (ks.take n)) (n:Int) k ((ks.take n).filter (ep o a b)) (va b k)) (dH (sO o a b (ks.take n)) (n:Int) k ((ks.take n).filter (ep o a b)++[k]) (va a k))):=fun g=>by
   unfold e6;rw [← nO,dX (by simp; omega),uI];rfl
  have e:∀ r,ef (vals o) (vals a) (vals b) ks (sO o a b (ks.take n)) ((ks.take n).filter (ep o a b)) (n:Int)=r↔cond (decide (va b k=va o k)) (e6 (vals o) (vals b) (sO o a b (ks.take n)) ((ks.take n).filter (ep o a b)) (n:Int) k (va a k) true) (e6 (vals o) (vals b) (sO o a b (ks.take n)) ((ks.take n).filter (ep o a b)) (n:Int) k (va a k) (decide (va b k=va a k)))=r:=fun r=>by
   unfold ef;rw [cU hx,cond_true,aZ,hx,ax,ax,ax,ax,ax,← nO,← nO];exact Iff.rfl
  rw [e,hj4,hj4,hj3,hj3,hj3,b7 hx];have em:sO o a b (ks.take n++[k])=sO o a b (ks.take n)++(if uP o a b k=e0 then [] else [am.mk k (uP o a b k)]):=by
   unfold sO;rw [lh,ur];by_cases hv:uP o a b k=e0 <;> simp [hv]
  have ec:(ks.take n++[k]).filter (ep o a b)=(ks.take n).filter (ep o a b)++(if ep o a b k then [k] else []):=by
   rw [lh];cases hv:ep o a b k <;> simp [hv]
  rw [em,ec];by_cases h1:va b k=va o k
  ·have q1:uP o a b k=va a k:=by unfold uP; rw [if_pos (.inl h1)]
   have q2:ep o a b k=false:=by unfold ep; rw [decide_eq_true h1]; rfl
   rw [q1,q2,decide_eq_true h1]; simp
  ·by_cases h2:va b k=va a k
   ·have q1:uP o a b k=va a k:=by unfold uP; rw [if_pos (.inr h2)]
    have q2:ep o a b k=false:=by unfold ep; rw [decide_eq_true h2]; simp
    rw [q1,q2,decide_eq_false h1,decide_eq_true h2]; simp
   ·have h3:¬ (va b k=va o k∨va b k=va a k):=fun h=>h.elim h1 h2;by_cases h4:va a k=va o k
    ·have q1:uP o a b k=va b k:=by unfold uP; rw [if_neg h3,if_pos h4]
     have q2:ep o a b k=false:=by unfold ep; rw [decide_eq_true h4]; simp
     rw [q1,q2,decide_eq_false h1,decide_eq_false h2,decide_eq_true h4]; simp
    ·have q1:uP o a b k=va a k:=by unfold uP; rw [if_neg h3,if_neg h4]
     have q2:ep o a b k=true:=by unfold ep; rw [decide_eq_false h4,decide_eq_false h1,decide_eq_false h2]; rfl
     rw [q1,q2,decide_eq_false h1,decide_eq_false h2,decide_eq_false h4]; simp
 ·dsimp only;unfold ef;rw [bA,i6]; rfl
theorem Id {o a b:List am} (ho:o.length≤20) (ha:a.length≤20) (hb:b.length≤20) (co:bO o=some true) (ca:bO a=some true) (cb:bO b=some true) :
  ∃ ks,qS (bU o++bU a++bU b) ks∧ks.length≤60∧ee o a b=some (sO o a b ks,if 0<(ks.filter (ep o a b)).length then (ks.filter (ep o a b),49) else ([],0)):=by
 have hl:([o,a,b].flatMap bU).length≤60:=by simp [bU]; omega
 obtain⟨ks,k1,k2⟩:=Ct (ls:=[o,a,b]) (by omega) (by simp);have e:[o,a,b].flatMap bU=bU o++bU a++bU b:=by simp
 have hk:=k2.len;rw [e] at k2;refine⟨ks,k2,by omega,?_⟩;unfold ee;rw [co,ca,cb];simp only [ax,dh,cond_false];rw [gT (by omega),gT (by omega),gT (by omega),ax,ax,ax,k1,ax,Ac (by omega),ax];dsimp only;unfold iE;have hm:=Ae o a b ks;rw [decide_eq_false (show ¬ ((64:Int)<((sO o a b ks).length:Int)) by omega),cond_false];by_cases h0:0<(ks.filter (ep o a b)).length
 ·rw [if_pos h0,decide_eq_true (by omega)]; rfl
 ·rw [if_neg h0,decide_eq_false (by omega)]; rfl
end
section
open Go.RowKit
open Go.Lib hiding intOf
theorem Dn {l:List am} (hn:(bU l).Nodup) (hl:l.length≤1000000) (k:ah):ml l k=some (va l k):=by
 have hf:=nD (B:=fun s:Int=>kA l k s) (xs:=l) (fun c=>eo c.Key k) (fun n=>(n:Int)) (s0:=0) rfl (y:=fun _ c=>Fl.out (S:=Unit) c.Value) (n:=Fl.go ())
  (fun n c hx hp=>by
   have:=bc hx;have hp:((c.Key.Kind:Int)==k.Kind&&c.Key.Text.toList==k.Text.toList)=false:=hp;unfold kA;rw [cU hx,cond_true,aZ,hx,ax,hp,cJ (by omega)]; rfl)
  (fun n c hx hp=>by
   have hp:((c.Key.Kind:Int)==k.Kind&&c.Key.Text.toList==k.Text.toList)=true:=hp;unfold kA;rw [cU hx,cond_true,aZ,hx,ax,hp]; rfl)
  (by
   unfold kA;rw [bA]; rfl)
 unfold ml;rcases hf with⟨n,c,h1,h2,_,h3⟩|⟨h1,h2⟩
 ·rw [h3,← iO.1 h2,Lo l hn (a6 h1)]; rfl
 ·rw [h2,I3 l fun c hc e=>sA.1 (h1 c hc) e]; rfl
theorem H6 {ls:List (List am)} (h:(ls.flatMap bU).length≤1000000) (h2:ls.length≤1000000):pC ls=jY ls:=by
 have hk:∀ l:List ah,l.length≤1000000→gw l=pn l:=fun l hl=>by
  obtain⟨m,e,hm⟩:=s6 (l:=l) (by unfold Rm; omega);obtain⟨m',e',hm'⟩:=BR (l:=l) (by unfold Rm; omega);rw [e,e',hm.uniq hm']
 have hlp:loop (fun s:(List ah)×Int=>pW ls s.1 s.2) (([]:List ah),0)=some (ls.flatMap bU):=ya h h2;unfold pC jY;rw [hlp,ya h h2,ax,ax];unfold pV lr;rw [hk _ h]
theorem HL {f t:List am} (hf:f.length≤1000) (ht:t.length≤1000) (nf:(bU f).Nodup) (nt:(bU t).Nodup):nI f t=ez f t:=by
 have hl:([f,t].flatMap bU).length≤1000000:=by simp [bU]; omega
 have hb:∀ (ks:List ah),(fun s:(List am)×Int=>mX f t ks s.1 s.2)=fun s:(List am)×Int=>fC (vals f) (vals t) ks s.1 s.2:=fun ks=>by
  funext s;unfold mX fC;refine congrArg (fun x=>cond _ x _) ?_;cases bu ks s.2 with
  | none=>rfl
  | some k =>
   simp only [ax,Dn nf (by omega),Dn nt (by omega)];rw [show ((va t k).toList==(va f k).toList)=((va f k).toList==(va t k).toList) from BEq.comm];rfl
 unfold nI ez;rw [H6 hl (by simp),gT (by omega),gT (by omega),ax,ax];refine congrArg _ ?_;funext ks;rw [hb];rfl
structure uh (l:List am) (v:Bool):Prop where
 p:bO l=some v
 r:cx l=some v
 nd:v=true→(bU l).Nodup
 len:v=true→l.length≤64
theorem Kh {o a b:List am} {vo va' vb:Bool} (ho:uh o vo) (ha:uh a va') (hb:uh b vb):lU o a b=ee o a b:=by
 unfold lU ee;rw [ho.p,ho.r,ha.p,ha.r,hb.p,hb.r];simp only [ax];cases vo with
 | false=>rfl
 | true =>
 cases va' with
 | false=>rfl
 | true =>
 cases vb with
 | false=>rfl
 | true =>
 have lo:=ho.len rfl;have la:=ha.len rfl;have lb:=hb.len rfl;have hl:([o,a,b].flatMap bU).length≤1000000:=by simp [bU]; omega
 simp only [dh,cond_false];rw [H6 hl (by simp),gT (by omega),gT (by omega),gT (by omega),ax,ax,ax];refine congrArg _ ?_;funext ks;have hbd:(fun s:(List am)×(List ah)×Int=>lW o a b ks s.1 s.2.1 s.2.2)=fun s:(List am)×(List ah)×Int=>ef (vals o) (vals a) (vals b) ks s.1 s.2.1 s.2.2:=by
  funext s;unfold lW ef;refine congrArg (fun x=>cond _ x _) ?_;cases bu ks s.2.2 with
  | none=>rfl
  | some k =>
   simp only [ax,Dn (ho.nd rfl) (by omega),Dn (ha.nd rfl) (by omega),Dn (hb.nd rfl) (by omega)];rw [show ((va a k).toList==(va b k).toList)=((va b k).toList==(va a k).toList) from BEq.comm];rfl
 rw [hbd];rfl
end
section
open Go.RowKit
open Go.Lib hiding intOf
theorem Jy (a b:Int):(a==b)=decide (a=b):=by by_cases h:a=b <;> simp [h]
theorem I4 {k:ah} (hs:k.Text.size≤140737488355328):∃ b,dv k=some b∧cE k=some b:=by
 by_cases h:30≤k.Kind∧k.Kind≤32
 ·refine⟨decide (0≤A7 k),?_,?_⟩
  ·unfold dv;rw [E4,decide_eq_true h,EJ hs];rfl
  ·unfold cE fG;rw [decide_eq_true h.1,decide_eq_true h.2];simp only [cond_true];rw [pD];rfl
 ·have e2:cE k=fG k false:=by
   unfold cE;by_cases h1:30≤k.Kind
   ·rw [decide_eq_true h1,cond_true,decide_eq_false (fun h2=>h ⟨h1,h2⟩)]
   ·rw [decide_eq_false h1,cond_false]
  rw [e2];unfold dv fG oq l6 iF kp eJ;rw [E4,decide_eq_false h];simp only [ax,cond_false];by_cases h1:1≤k.Kind <;> by_cases h2:k.Kind≤22 <;> by_cases h3:(k.Text.size:Int)≤1073741824 <;> by_cases h4:k.Kind=1 <;> by_cases h5:k.Kind=21 <;>
   cases h6:(k.Text.toList==bI.toList) <;> simp [h1,h2,h3,h4,h5,Jy,bne]
noncomputable def vk (k:ah):Bool:=(dv k).getD false
theorem F0 {k:ah} (h:k.Text.size≤140737488355328):dv k=some (vk k)∧cE k=some (vk k):=by
 obtain⟨b,h1,h2⟩:=I4 h;unfold vk;rw [h1,h2]; exact⟨rfl,rfl⟩
def Ka (k:ah):Bool:=(k.Kind:Int)==1||(k.Kind:Int)==2||(k.Kind:Int)==30
theorem FE (k:ah):l4 k=some (Ka k):=by
 unfold l4 l5 Ka;cases (k.Kind:Int)==1 <;> cases (k.Kind:Int)==2 <;> cases (k.Kind:Int)==30 <;> rfl
theorem Bp:∀ {l:List ah},(∀ k a b,l[k]? = some a→l[k+1]? = some b→bT a b<0)→ut l
 | [],_=>tD
 | [a],_=>BY _ _
 | a::b::r,h=>by
  have h1:bT a b<0:=h 0 a b rfl rfl;have h2:ut (b::r):=Bp fun k x y hx hy=>h (k+1) x y hx hy;refine o6.2 ⟨fun y hy=>?_,h2⟩;rcases cz.1 hy with rfl | hy
  ·exact h1
  ·exact km h1 ((o6.1 h2).1 y hy)
noncomputable def wm (l:List am) (k:Nat):Bool:=match l[k]? with
 | none=>false
 | some c=>!(vk c.Key)||(!(Ka c.Key)||((c.Value.toList==bI.toList)||(decide ((1073741824:Int)<(c.Value.size:Int))||(match k with
  | 0=>false
  | j+1=>match l[j]? with
   | none=>false
   | some p=>decide (0≤bT p.Key c.Key)))))
section
variable {l:List am} (hs:∀ c∈l,c.Key.Text.size≤140737488355328) (hl:l.length≤1000000)
include hs hl
theorem pb {k:Nat} (hk:k<l.length):cq l (k:Int)=some (bif wm l k then .out (.out false) else .go ((k+1:Nat):Int))∧eQ l (k:Int)=some (bif wm l k then .out (.out false) else .go ((k+1:Nat):Int)):=by
 obtain⟨c,hx⟩:∃ c,l[k]? = some c:=⟨_,bS hk⟩;have hc:=hs c (a6 hx);unfold cq eQ wm;rw [cU hx,cond_true,cond_true,aZ,hx,ax,ax,(F0 hc).1,(F0 hc).2,ax,ax,← zZ,FE,ax,ax];dsimp only;unfold cG df;rw [cJ (by omega)];generalize vk c.Key=v;generalize Ka c.Key=i;generalize (c.Value.toList==bI.toList)=z;generalize decide ((1073741824:Int)<(c.Value.size:Int))=s
 match k,hk with
 | 0,_ =>
  rw [show decide ((0:Int)<((0:Nat):Int))=false from rfl];dsimp only;cases v <;> cases i <;> cases z <;> cases s <;> exact⟨rfl,rfl⟩
 | j+1,hk =>
  obtain⟨p,hp⟩:∃ p,l[j]? = some p:=⟨_,bS (by omega)⟩;rw [decide_eq_true (show (0:Int)<((j+1:Nat):Int) by omega),show IntKind.i64.wrap (((j+1:Nat):Int)-1)=(j:Int) by rw [pX (by omega) (by omega)]; omega,aZ];dsimp only;rw [hp];dsimp only;rw [ax,ax,zx,mm,ax,ax];generalize decide (0≤bT p.Key c.Key)=q;cases v <;> cases i <;> cases z <;> cases s <;> cases q <;> exact⟨rfl,rfl⟩
theorem qX:∃ v,uh l v:=by
 have hr:∀ {k x:Nat},(List.range l.length)[k]? = some x→x=k∧k<l.length:=fun {k x} h=>by
  obtain⟨h1,h2⟩:=bN.1 h;rw [sg] at h1;rw [F9] at h2;exact⟨h2.symm,h1⟩
 have e1:loop (fun s:Int=>cq l s) 0=some (if (List.range l.length).any (wm l) then Fl.out false else Fl.go ()) :=
  kH (xs:=List.range l.length) (wm l) (fun n=>(n:Int)) rfl
   (fun k x h hp=>by obtain⟨rfl,h1⟩:=hr h; rw [(pb hs hl h1).1,hp]; rfl)
   (fun k x h hp=>by obtain⟨rfl,h1⟩:=hr h; rw [(pb hs hl h1).1,hp]; rfl)
   (by rw [sg]; unfold cq; rw [bA]; rfl)
 have e2:loop (fun s:Int=>eQ l s) 0=some (if (List.range l.length).any (wm l) then Fl.out false else Fl.go ()) :=
  kH (xs:=List.range l.length) (wm l) (fun n=>(n:Int)) rfl
   (fun k x h hp=>by obtain⟨rfl,h1⟩:=hr h; rw [(pb hs hl h1).2,hp]; rfl)
   (fun k x h hp=>by obtain⟨rfl,h1⟩:=hr h; rw [(pb hs hl h1).2,hp]; rfl)
   (by rw [sg]; unfold eQ; rw [bA]; rfl)
 cases ha:(List.range l.length).any (wm l) with
 | true =>
  rw [ha] at e1 e2;exact⟨false,by unfold bO; rw [e1]; rfl,by unfold cx; rw [e2]; rfl,fun h=>(by cases h),fun h=>(by cases h)⟩
 | false =>
  rw [ha] at e1 e2;refine⟨decide ((l.length:Int)≤64),by unfold bO; rw [e1]; rfl,by unfold cx; rw [e2]; rfl,fun _=>?_,fun h=>by have:=of_decide_eq_true h; omega⟩;refine AN (fun h=>pI h) (Bp fun k a b h1 h2=>?_:ut (bU l));unfold bU at h1 h2;rw [uq] at h1 h2;obtain⟨p,hp,rfl⟩:=Ga.1 h1;obtain⟨c,hc,rfl⟩:=Ga.1 h2;have hb:wm l (k+1)=false:=by
   have:=wO.1 ha (k+1) (vg.2 (bc hc));simpa using this
  unfold wm at hb;rw [hc] at hb;dsimp only at hb;rw [hp] at hb;dsimp only at hb;simp only [BX,decide_eq_false_iff_not] at hb;have:=hb.2.2.2.2;omega
end
end
section
open Go.RowKit
open Go.Lib hiding intOf
theorem GA:∀ m n:Fin 10,m<n→compareBytes (decDigits m.val) (decDigits n.val)<0:=by decide +kernel
theorem B6 {m n:Nat} (h:m<n) (hn:n<10):bT (bz m) (bz n)<0:=by
 have h1:=GA ⟨m,by omega⟩ ⟨n,hn⟩ h;unfold bT;rw [if_neg (show ¬ (bz m).Kind<(bz n).Kind by simp [bz]),if_neg (show ¬ (bz n).Kind<(bz m).Kind by simp [bz])];have e:∀ k:Nat,(bz k).Text.toList=decDigits k:=fun k=>by
  show (cZ (k:Int)).toList=_;rw [pj,ol]
 rw [e,e]; exact h1
theorem Lz {m n:Nat} (h:m<n) (hn:n<10):bz m≠bz n:=pI (B6 h hn)
structure jq (n:Nat) (l:List am):Prop where
 asc:ut (bU l)
 len:l.length≤n
 keys:∀ c∈l,∃ m,m<n∧c.Key=bz m
 vals:∀ c∈l,c.Value≠e0∧c.Value.size≤1000
theorem jq.nil:jq 0 []:=⟨tD,cX _,(fun c h=>by cases h),(fun c h=>by cases h)⟩
theorem jq.wait {n:Nat} {l:List am} (h:jq n l):jq (n+1) l :=
 ⟨h.asc,by have:=h.len; omega,fun c hc=>by obtain⟨m,h1,h2⟩:=h.keys c hc; exact⟨m,by omega,h2⟩,h.vals⟩
theorem jq.snoc {n:Nat} {l:List am} (h:jq n l) (hn:n<10) {v:ByteArray} (hv:v≠e0∧v.size≤1000):jq (n+1) (l++[am.mk (bz n) v]):=by
 refine⟨?_,by have:=h.len; simp; omega,fun c hc=>?_,fun c hc=>?_⟩
 ·unfold bU ut;rw [ur,xJ];refine⟨h.asc,by simp,fun a ha b hb=>?_⟩;obtain⟨c,hc,rfl⟩:=gq.1 ha;obtain⟨m,h1,h2⟩:=h.keys c hc;simp only [tE,yQ,eG] at hb;rw [hb,h2];exact B6 h1 hn
 ·rcases dz.1 hc with hc | hc
  ·obtain⟨m,h1,h2⟩:=h.keys c hc; exact⟨m,by omega,h2⟩
  ·rw [eG.1 hc]; exact⟨n,by omega,rfl⟩
 ·rcases dz.1 hc with hc | hc
  ·exact h.vals c hc
  ·rw [eG.1 hc]; exact hv
theorem ut.nodup {l:List ah} (h:ut l):l.Nodup:=AN (fun h=>pI h) h
theorem GI {n:Nat}:l4 (bz n)=some true:=rfl
theorem sw {n:Nat} {l:List am} (h:jq n l) (hn:n≤10):bO l=some true:=by
 have hl:=h.len;unfold bO;rw [show loop (fun s:Int=>cq l s) 0=some (Fl.go ()) from by
  refine (cD (xs:=l) (fun k=>(k:Int)) rfl (fun k c hx=>?_) ?_)
  ·have hk:=bc hx;have hc:=a6 hx;obtain⟨m,m1,m2⟩:=h.keys c hc;obtain⟨v1,v2⟩:=h.vals c hc;have hj:cG (k:Int) false=some (.go (((k+1:Nat):Int))):=by
    unfold cG;rw [cJ (by omega)]; rfl
   unfold cq;rw [cU hx,cond_true,aZ,hx,ax,m2,Dz (show m<100 by omega),ax,GI,ax,nO,decide_eq_false (show ¬ c.Value=bI from v1),decide_eq_false (show ¬ (1073741824:Int)<(c.Value.size:Int) by omega)];simp only [dh,cond_false];rcases (show k=0∨0<k by omega) with h0 | h0
   ·subst h0;exact hj
   ·have hp:=bS (show k-1<l.length by omega);rw [decide_eq_true (show (0:Int)<(k:Int) by omega),cond_true,pX (by omega) (by omega),show (k:Int)-1=((k-1:Nat):Int) by omega,aZ,hp,ax,zx,ax];have hlt:bT l[k-1].Key (bz m)<0:=by
     have h2:=gG.1 h.asc (k-1) k (by unfold bU; simp; omega) (by unfold bU; simpa using hk) (by omega);obtain⟨q1,q2⟩:=bN.1 hx;simp only [bU,List.getElem_map] at h2;rw [q2,m2] at h2; exact h2
    rw [decide_eq_false (by omega)];exact hj
  ·unfold cq;rw [bA]; rfl]
 show gX l=_;unfold gX;rw [decide_eq_true (by omega)]
theorem I6 {v:ByteArray} (h:v∈[(ByteArray.mk #[49]),(ByteArray.mk #[50]),(ByteArray.mk #[51]),(ByteArray.mk #[120])]):v≠e0∧v.size≤1000:=by
 simp only [cz,gn,or_false] at h;unfold e0;rcases h with rfl | rfl | rfl | rfl <;> exact⟨by decide,by decide⟩
theorem zz {d:aX} (h:cp d.L d.At):Ok (gC d) fun r=>jq 5 r.1∧cp r.2.L r.2.At:=by
 unfold gC;refine cc (fun n s=>s.2.1=(n:Int)∧n≤5∧jq n s.1∧cp s.2.2.1 s.2.2.2) (fun r=>jq 5 r.1∧cp r.2.1 r.2.2) 5 ⟨rfl,by omega,jq.nil,h⟩ (fun n s hn hI=>?_) (fun r hr=>?_)
 ·obtain⟨l,k,dl,da⟩:=s;obtain⟨a1,a2,a3,a4⟩:=hI;dsimp only at a1 a2 a3 a4;subst a1;unfold l8;dsimp only;refine aF (fun e=>?_) (fun e=>?_)
  ·have e:n<5:=by have:=of_decide_eq_true e; omega
   refine aQ (dN a4 (n:=2) (by omega) (by omega)) fun u hu=>?_;refine aF (fun e2=>?_) (fun e2=>?_)
   ·rw [kq (by omega),ax];refine aQ (CQ hu.2.2 (by simp) (by simp)) fun v hv=>?_;refine dM (dX (by have:=a3.len; simp; omega)) ?_;unfold gL;refine ar ⟨by omega,?_,by omega,a3.snoc (by omega) (I6 hv.1),hv.2⟩;exact cJ (by omega)
   ·unfold gL;refine ar ⟨by omega,cJ (by omega),by omega,a3.wait,hu.2.2⟩
  ·have e:n=5:=by have:=of_decide_eq_false e; omega
   subst e;exact ar ⟨a3,a4⟩
 ·unfold jD;exact ar hr
theorem CJ {l:List am} (h:l.length≤1000000):eR l l=some true:=by
 unfold eR;rw [show ((l.length:Int) != (l.length:Int))=false by simp,cond_false,show loop (fun s:Int=>k9 l l s) 0=some (Fl.go ()) from by
  refine (cD (xs:=l) (fun k=>(k:Int)) rfl (fun k c hx=>?_) ?_)
  ·have hk:=bc hx;unfold k9;rw [cU hx,cond_true,aZ,hx,ax,ax,cJ (by omega)];simp
  ·unfold k9;rw [bA]; rfl]
 rfl
theorem ta (k0 k:ah) (v:ByteArray):va [am.mk k0 v] k=if k=k0 then v else e0:=zd [] _ _
theorem CN (k0 k1 k:ah) (v u:ByteArray):va [am.mk k0 v,am.mk k1 u] k=if k=k1 then u else if k=k0 then v else e0:=by
 have:=zd [am.mk k0 v] (am.mk k1 u) k;rw [ta] at this;exact this
theorem rR:fF=some true:=by
 unfold fF;have c0:=kq (n:=0) (by omega);have c1:=kq (n:=1) (by omega);rw [show c6 0=some (bz 0) from c0,show c6 1=some (bz 1) from c1];simp only [ax];have hne:bz 1≠bz 0:=fun e=>Lz (m:=0) (n:=1) (by omega) (by omega) e.symm;have hlt:=B6 (m:=0) (n:=1) (by omega) (by omega);have n1:(ByteArray.mk #[49])≠e0∧(ByteArray.mk #[49]).size≤1000:=⟨by unfold e0; decide,by decide⟩;have n2:(ByteArray.mk #[50])≠e0∧(ByteArray.mk #[50]).size≤1000:=⟨by unfold e0; decide,by decide⟩;have n5:(ByteArray.mk #[53])≠e0∧(ByteArray.mk #[53]).size≤1000:=⟨by unfold e0; decide,by decide⟩;have n12:(ByteArray.mk #[49])≠(ByteArray.mk #[50]):=by decide
 have o1:jq 1 [am.mk (bz 0) (ByteArray.mk #[49])]:=jq.nil.snoc (by omega) n1;have o2:jq 1 [am.mk (bz 0) (ByteArray.mk #[50])]:=jq.nil.snoc (by omega) n2;have o3:jq 2 [am.mk (bz 0) (ByteArray.mk #[49]),am.mk (bz 1) (ByteArray.mk #[53])]:=o1.snoc (by omega) n5;obtain⟨ks,k1,k2,k3⟩:=Id (o:=[am.mk (bz 0) (ByteArray.mk #[49])]) (a:=[am.mk (bz 0) (ByteArray.mk #[50])]) (b:=[am.mk (bz 0) (ByteArray.mk #[49]),am.mk (bz 1) (ByteArray.mk #[53])]) (by simp) (by simp) (by simp) (sw o1 (by omega)) (sw o2 (by omega)) (sw o3 (by omega));have hks:ks=[bz 0,bz 1]:=k1.uniq ⟨by unfold ut; simp [hlt],fun x=>by simp [bU],by simp [bU]⟩;obtain⟨es,j1,j2,j3⟩:=y6 (f:=[am.mk (bz 0) (ByteArray.mk #[49])]) (t:=[am.mk (bz 0) (ByteArray.mk #[50])]) (by simp) (by simp);have hes:es=[bz 0]:=j1.uniq ⟨by unfold ut; simp,fun x=>by simp [bU],by simp [bU]⟩;have m0:uP [am.mk (bz 0) (ByteArray.mk #[49])] [am.mk (bz 0) (ByteArray.mk #[50])] [am.mk (bz 0) (ByteArray.mk #[49]),am.mk (bz 1) (ByteArray.mk #[53])] (bz 0)=ByteArray.mk #[50]:=by
  unfold uP;rw [ta,ta,CN,if_pos rfl,if_pos rfl,if_neg hne.symm,if_pos (.inl rfl)]
 have m1:uP [am.mk (bz 0) (ByteArray.mk #[49])] [am.mk (bz 0) (ByteArray.mk #[50])] [am.mk (bz 0) (ByteArray.mk #[49]),am.mk (bz 1) (ByteArray.mk #[53])] (bz 1)=ByteArray.mk #[53]:=by
  unfold uP;rw [ta,ta,CN,if_pos rfl,if_neg hne,if_neg hne,if_neg (by rintro (h | h) <;> exact n5.1 h),if_pos rfl]
 have q0:ep [am.mk (bz 0) (ByteArray.mk #[49])] [am.mk (bz 0) (ByteArray.mk #[50])] [am.mk (bz 0) (ByteArray.mk #[49]),am.mk (bz 1) (ByteArray.mk #[53])] (bz 0)=false:=by
  unfold ep;rw [ta,ta,CN,if_pos rfl,if_pos rfl,if_neg hne.symm]; simp
 have q1:ep [am.mk (bz 0) (ByteArray.mk #[49])] [am.mk (bz 0) (ByteArray.mk #[50])] [am.mk (bz 0) (ByteArray.mk #[49]),am.mk (bz 1) (ByteArray.mk #[53])] (bz 1)=false:=by
  unfold ep;rw [ta,ta,CN,if_pos rfl,if_neg hne,if_neg hne]; simp
 rw [k3,hks];have hm:sO [am.mk (bz 0) (ByteArray.mk #[49])] [am.mk (bz 0) (ByteArray.mk #[50])] [am.mk (bz 0) (ByteArray.mk #[49]),am.mk (bz 1) (ByteArray.mk #[53])] [bz 0,bz 1]=[am.mk (bz 0) (ByteArray.mk #[50]),am.mk (bz 1) (ByteArray.mk #[53])]:=by
  unfold sO;simp [List.filter_cons,m0,m1,n2.1,n5.1]
 rw [hm];simp only [List.filter_cons,q0,q1,List.filter_nil];simp only [F7,if_false,sH,Nat.lt_irrefl,ax];rw [CJ (by simp),j3,hes];have hd:kj [am.mk (bz 0) (ByteArray.mk #[49])] [am.mk (bz 0) (ByteArray.mk #[50])] [bz 0]=[am.mk (bz 0) (ByteArray.mk #[50])]:=by
  unfold kj;simp [List.filter_cons,ta,n12]
 rw [hd];rfl
end
section
open Go.RowKit
open Go.Lib hiding intOf
def vJ (b:aj):List am:=(b.Inputs.filter fun x=>!decide (x.Value=e0)).map fun x=>⟨x.Key,x.Value⟩
theorem zT (b:aj):(vJ b).length≤b.Inputs.length:=by unfold vJ; rw [qR]; exact uf _ _
theorem xY {b:aj} (h:b.Inputs.length≤1000000):d7 b=some (vJ b):=by
 unfold d7;rw [show loop (fun s:(List am)×Int=>gI b s.1 s.2) (([]:List am),0)=some (vJ b) from by
  refine (cD (xs:=b.Inputs) (fun n=>(((b.Inputs.take n).filter fun x=>!decide (x.Value=e0)).map fun x=>(⟨x.Key,x.Value⟩:am),(n:Int))) rfl (fun n x hx=>?_) ?_)
  ·dsimp only;have hn:=bc hx;have hl:=uf (fun x:aN=>!decide (x.Value=e0)) (b.Inputs.take n);rw [fe] at hl;unfold gI;rw [cU hx,cond_true,aZ,hx,ax,nO,dX (by simp; omega),uI];unfold jr;rw [cJ (by omega),b7 hx,lh,ur];show cond (!decide (x.Value=e0)) _ _=_;cases hd:decide (x.Value=e0) <;> simp [hd]
  ·dsimp only;unfold gI;rw [bA,i6]; rfl]
 rfl
section
variable {l:List aW} {b:aj}
theorem GH (b:aj):bU (vJ b)=(b.Inputs.filter fun x=>!decide (x.Value=e0)).map aN.Key:=by
 unfold bU vJ; rw [AT]; rfl
end
end
section
open Go.RowKit
open Go.Lib hiding intOf
structure td (c:am):Prop where
 v1:dv c.Key=some true
 v2:cE c.Key=some true
 i1:cr c.Key=some true
 size:c.Value.size≤1073741824
theorem Hp {l:List am} (hs:∀ c∈l,c.Key.Text.size≤140737488355328) (hl:l.length≤1000000) (h:bO l=some true):∀ c∈l,td c:=by
 have hr:∀ {k x:Nat},(List.range l.length)[k]? = some x→x=k∧k<l.length:=fun {k x} h=>by
  obtain⟨h1,h2⟩:=bN.1 h;rw [sg] at h1;rw [F9] at h2;exact⟨h2.symm,h1⟩
 have e1:loop (fun s:Int=>cq l s) 0=some (if (List.range l.length).any (wm l) then Fl.out false else Fl.go ()) :=
  kH (xs:=List.range l.length) (wm l) (fun n=>(n:Int)) rfl
   (fun k x h hp=>by obtain⟨rfl,h1⟩:=hr h; rw [(pb hs hl h1).1,hp]; rfl)
   (fun k x h hp=>by obtain⟨rfl,h1⟩:=hr h; rw [(pb hs hl h1).1,hp]; rfl)
   (by rw [sg]; unfold cq; rw [bA]; rfl)
 intro c hc;have hsz:=hs c hc;obtain⟨k,hk⟩:=kg.1 hc;unfold bO at h;rw [e1,ax] at h;cases ha:(List.range l.length).any (wm l) with
 | true=>rw [ha] at h; cases h
 | false =>
  have hb:wm l k=false:=by
   have:=wO.1 ha k (vg.2 (bc hk));simpa using this
  unfold wm at hb;rw [hk] at hb;dsimp only at hb;simp only [BX,decide_eq_false_iff_not,Bool.not_eq_false'] at hb;obtain⟨h1,h2,h3,h4,_⟩:=hb;exact⟨by rw [(F0 hsz).1,h1],by rw [(F0 hsz).2,h1],by rw [← zZ,FE,h2],by omega⟩
theorem Ky {t:List am} (nt:(bU t).Nodup) (ht:∀ c∈t,td c) (k:ah):(va t k).size≤1073741824:=by
 by_cases h:∃ c∈t,c.Key=k
 ·obtain⟨c,hc,rfl⟩:=h;rw [Lo t nt hc];exact (ht c hc).size
 ·rw [I3 t fun c hc e=>h ⟨c,hc,e⟩];decide
theorem Fz {f t:List am} {ks:List ah} (hk:qS (bU f++bU t) ks) (nt:(bU t).Nodup) (hf:∀ c∈f,td c) (ht:∀ c∈t,td c):Gg (kj f t ks):=by
 have hkey:∀ c∈kj f t ks,∃ c',td c'∧c'.Key=c.Key:=fun c hc=>by
  unfold kj at hc;obtain⟨k,h1,rfl⟩:=gq.1 hc;have h2:=(hk.mem k).1 (iZ.1 h1).1;rcases dz.1 h2 with h2 | h2
  ·obtain⟨c',h3,h4⟩:=gq.1 h2;exact⟨c',hf c' h3,h4⟩
  ·obtain⟨c',h3,h4⟩:=gq.1 h2;exact⟨c',ht c' h3,h4⟩
 refine⟨fun c hc=>?_,fun c hc=>?_,fun c hc=>?_,fun c hc=>?_,?_⟩
 ·obtain⟨c',h1,h2⟩:=hkey c hc;rw [← h2]; exact h1.v1
 ·obtain⟨c',h1,h2⟩:=hkey c hc;rw [← h2]; exact h1.v2
 ·obtain⟨c',h1,h2⟩:=hkey c hc;rw [← h2]; exact h1.i1
 ·unfold kj at hc;obtain⟨k,h1,rfl⟩:=gq.1 hc;exact Ky nt ht k
 ·have e:(ss (kj f t ks)).map (·.1)=ks.filter fun k=>!decide (va f k=va t k):=by
   unfold ss kj;rw [AT,AT];exact List.map_id _
  show ((ss (kj f t ks)).map (·.1)).Nodup;rw [e];exact (hk.asc.nodup).filter _
theorem Gk {b:aj} (h:Em b) {cs:List am} (hc:Gg cs) (hn:cs.length≤4000) {y:aj} {e:Int} (hy:dm b cs=some (y,e)):e=0∨y=b:=by
 unfold dm at hy;rw [wV h hc hn,ax] at hy;by_cases hl:32<cs.length
 ·rw [if_pos hl,h.c1] at hy;have hy:some (b,(3:Int))=some (y,e):=hy;injection hy with hy;injection hy with h1 h2;exact .inr h1.symm
 rw [if_neg hl] at hy;simp only [show ((0:Int) != 0)=false from rfl,cond_false] at hy;obtain⟨L,_,hy⟩:=F8.1 hy;unfold fY at hy;rw [h.c1,ax] at hy;obtain⟨R,_,hy⟩:=F8.1 hy;unfold dW at hy;rw [h.c1,ax,ax] at hy;cases h1:R.1 <;> rw [h1] at hy
 ·injection hy with hy;injection hy with _ h2;exact .inl h2.symm
 ·cases h2:decide ((64:Int)<(R.2.length:Int)) <;> rw [h2] at hy
  ·cases h3:((b.Revision:Int)==1073741824) <;> rw [h3] at hy
   ·injection hy with hy;injection hy with _ h2;exact .inl h2.symm
   ·injection hy with hy;injection hy with h1 _;exact .inr h1.symm
  ·injection hy with hy;injection hy with h1 _;exact .inr h1.symm
theorem IW {b:aj} (h:Em b) (hin:∀ x∈b.Inputs,td ⟨x.Key,x.Value⟩) {t:List am} {v:Bool} (hb:uh t v) (he:v=true→∀ c∈t,td c):du b t=iW b t:=by
 have hlen:=h.len;unfold du iW;rw [h.v1,h.v2,hb.p,hb.r];simp only [ax,dh,cond_false];cases v with
 | false=>rw [h.c1,h.c2]; rfl
 | true =>
  have ht:=hb.len rfl;have hil:=zT b;have nin:(bU (vJ b)).Nodup:=by
   rw [GH];exact AN (fun h=>pI h) (List.pairwise_map.2 (h.asc.filter _))
  have hfe:∀ c∈vJ b,td c:=fun c hc=>by
   obtain⟨x,hx,rfl⟩:=gq.1 hc;exact hin x (iZ.1 hx).1
  obtain⟨ks,k1,k2,k3⟩:=y6 (f:=vJ b) (t:=t) (by omega) (by omega);have hcs:=Fz k1 (hb.nd rfl) hfe (he rfl);have hdl:=tO (vJ b) t ks;simp only [dh,cond_false];rw [show mj b=d7 b from rfl,xY (by omega),ax,ax,HL (by omega) (by omega) nin (hb.nd rfl),k3,ax,ax,← Ev h hcs (by omega)];cases hy:dm b (kj (vJ b) t ks) with
  | none=>rfl
  | some y =>
   obtain⟨y,e⟩:=y;rw [ax,ax];unfold jt;dsimp only;rcases Gk h hcs (by omega) hy with rfl | rfl
   ·rfl
   ·rw [h.c1];by_cases h0:e=0
    ·subst h0; rfl
    ·rw [show (e != 0)=true by simp [h0],cond_true]; rfl
end
section
open Go.RowKit
open Go.Lib hiding intOf
theorem Lw {f:aw→Option Bool} {g:aw→Bool} {s:List aw} (hl:Rm s.length) (h:∀ x∈s,f x=some (g x)):bL f s=some (s.any g):=by
 unfold Rm at hl;have e:=nD (B:=fun k:Int=>fu s f k) (xs:=s) g (fun n=>(n:Int)) (s0:=0) rfl (y:=fun k _=>Fl.out (S:=Unit) (k:Int)) (n:=Fl.go ())
  (fun k x hx hp=>by
   have:=bc hx;unfold fu;rw [cU hx,cond_true,aZ,hx,ax,h _ (a6 hx),hp,cJ (by omega)]; rfl)
  (fun k x hx hp=>by
   unfold fu;rw [cU hx,cond_true,aZ,hx,ax,h _ (a6 hx),hp]; rfl)
  (by
   unfold fu;rw [bA]; rfl)
 unfold bL pH;rcases e with⟨k,x,h1,h2,_,h3⟩|⟨h1,h2⟩
 ·rw [h3,Eh.2 ⟨x,a6 h1,h2⟩];show some (decide ((0:Int)≤(k:Int)))=some true;rw [decide_eq_true (by omega)]
 ·rw [h2,wO.2 fun x hx=>by rw [h1 x hx]; decide]; rfl
section
variable {l:List aW} {b:aj}
theorem yo (h:ki l b) (hl:l.length≤8) {r:Int} (h1:r≤b.Revision):∃ v,ip ⟨r,b.Inputs,b.Records⟩=some v∧fc ⟨r,b.Inputs,b.Records⟩=some v∧(v=true→0≤r):=by
 have hn:=h.nrec;have hi:=h.nin;have hrev:=h.rev;have step1:∀ (k:Nat) (x:aN),b.Inputs[k]? = some x→eS ⟨r,b.Inputs,b.Records⟩ (k:Int)=cF (k:Int) (decide (r<x.Changed)):=fun k x hx=>by
  have hm:=a6 hx;obtain⟨c,hc,hkey⟩:=(h.ins x hm).key;have h1:=(h.ins x hm).value;have h2:=(h.ins x hm).low;unfold eS;dsimp only;rw [cU hx,cond_true,aZ,hx,ax,hkey,IE (by omega),ax];simp only [dh,cond_false];rw [decide_eq_false (show ¬ (1073741824:Int)<(x.Value.size:Int) by omega),decide_eq_false (show ¬ (x.Changed:Int)<0 by omega)];simp only [cond_false]
  match k,hx with
  | 0,hx=>rfl
  | j+1,hx =>
   have hk:=bc hx;rw [decide_eq_true (by omega),cond_true,show IntKind.i64.wrap (((j+1:Nat):Int)-1)=(j:Int) by rw [pX (by omega) (by omega)]; omega,bW (show j<b.Inputs.length by omega),ax,zx,ax];have:=gG.1 h.insA j (j+1) (by omega) hk (by omega);rw [(bN.1 hx).2,hkey] at this;rw [decide_eq_false (by omega)]; rfl
 have step2:∀ (k:Nat) (x:aN),b.Inputs[k]? = some x→eN ⟨r,b.Inputs,b.Records⟩ (k:Int)=cH (k:Int) (decide (r<x.Changed)):=fun k x hx=>by
  have hm:=a6 hx;obtain⟨c,hc,hkey⟩:=(h.ins x hm).key;have h1:=(h.ins x hm).value;have h2:=(h.ins x hm).low;unfold eN;dsimp only;rw [cU hx,cond_true,aZ,hx,ax,hkey,rF (by omega),ax];simp only [dh,cond_false];rw [nA,ax];simp only [dh,cond_false];rw [decide_eq_false (show ¬ (1073741824:Int)<(x.Value.size:Int) by omega),decide_eq_false (show ¬ (x.Changed:Int)<0 by omega)];simp only [cond_false]
  match k,hx with
  | 0,hx=>rfl
  | j+1,hx =>
   have hk:=bc hx;rw [decide_eq_true (by omega),cond_true,show IntKind.i64.wrap (((j+1:Nat):Int)-1)=(j:Int) by rw [pX (by omega) (by omega)]; omega,bW (show j<b.Inputs.length by omega),ax,mm,ax];have:=gG.1 h.insA j (j+1) (by omega) hk (by omega);rw [(bN.1 hx).2,hkey] at this;rw [decide_eq_false (by omega)]; rfl
 have e1:loop (fun s:Int=>eS ⟨r,b.Inputs,b.Records⟩ s) 0=some (if b.Inputs.any (fun x=>decide (r<x.Changed)) then Fl.out false else Fl.go ()) :=
  kH (xs:=b.Inputs) (fun x=>decide (r<x.Changed)) (fun n=>(n:Int)) rfl
   (fun k x hx hp=>by have:=bc hx; rw [step1 k x hx,hp]; unfold cF; rw [cJ (by omega)]; rfl)
   (fun k x hx hp=>by rw [step1 k x hx,hp]; rfl)
   (by unfold eS; dsimp only; rw [bA]; rfl)
 have e2:loop (fun s:Int=>eN ⟨r,b.Inputs,b.Records⟩ s) 0=some (if b.Inputs.any (fun x=>decide (r<x.Changed)) then Fl.out false else Fl.go ()) :=
  kH (xs:=b.Inputs) (fun x=>decide (r<x.Changed)) (fun n=>(n:Int)) rfl
   (fun k x hx hp=>by have:=bc hx; rw [step2 k x hx,hp]; unfold cH; rw [cJ (by omega)]; rfl)
   (fun k x hx hp=>by rw [step2 k x hx,hp]; rfl)
   (by unfold eN; dsimp only; rw [bA]; rfl)
 have e3:loop (fun s:Int=>eM ⟨r,b.Inputs,b.Records⟩ s) 0=some (if b.Records.any (fun x=>decide (r<x.Verified)) then Fl.out false else Fl.go ()) :=
  kH (xs:=b.Records) (fun x=>decide (r<x.Verified)) (fun n=>(n:Int)) rfl
   (fun k x hx hp=>by have:=bc hx; unfold eM; dsimp only; rw [cU hx,cond_true,aZ,hx,ax,hp,cJ (by omega)]; rfl)
   (fun k x hx hp=>by unfold eM; dsimp only; rw [cU hx,cond_true,aZ,hx,ax,hp]; rfl)
   (by unfold eM; dsimp only; rw [bA]; rfl)
 have e4:bL (fun x0=>jS x0 ⟨r,b.Inputs,b.Records⟩) b.Records=some (b.Records.any fun x=>decide (r<x.Verified)):=Lw (by unfold Rm; omega) fun x _=>rfl;refine⟨decide (0≤r) && !(b.Inputs.any fun x=>decide (r<x.Changed)) && !(b.Records.any fun x=>decide (r<x.Verified)),?_,?_,fun hv=>by
  simp only [so,decide_eq_true_eq] at hv;exact hv.1.1⟩
 ·unfold ip;dsimp only;by_cases h0:r<0
  ·rw [decide_eq_true h0,decide_eq_false (show ¬ 0≤r by omega)]; rfl
  ·rw [decide_eq_false h0,decide_eq_false (by omega),decide_eq_false (by omega),M0 h hl,decide_eq_true (show 0≤r by omega)];simp only [cond_false,ax,dh];rw [e1];cases b.Inputs.any fun x=>decide (r<x.Changed)
   ·show iX _=_;unfold iX;dsimp only;rw [e4]; rfl
   ·rfl
 ·unfold fc;rw [e2];cases b.Inputs.any fun x=>decide (r<x.Changed)
  ·show ie _=_;unfold ie;rw [e3];cases b.Records.any fun x=>decide (r<x.Verified)
   ·show ic _=_;unfold ic;dsimp only;rw [decide_eq_true (show r≤1073741824 by omega),decide_eq_true (show (b.Inputs.length:Int)≤64 by omega),DZ h hl];cases decide (0≤r) <;> rfl
   ·show some false=_;simp
  ·show some false=_;simp
theorem zA (h:ki l b) (hl:l.length≤8) (r:Int):dK ⟨r,b.Inputs,b.Records⟩=some ⟨r,b.Inputs,b.Records⟩∧dG ⟨r,b.Inputs,b.Records⟩=some ⟨r,b.Inputs,b.Records⟩:=by
 have hi:=h.nin;refine⟨?_,uF (b:=⟨r,b.Inputs,b.Records⟩) (h.rm hl).1 (h.rm hl).2.1⟩;unfold dK dD;dsimp only;rw [dX (by simp; omega),JL (h.rm hl).1];simp [gd]
theorem FF (h:ki l b):∀ x∈b.Inputs,td ⟨x.Key,x.Value⟩:=fun x hx=>by
 obtain⟨c,hc,hkey⟩:=(h.ins x hx).key;have h1:=(h.ins x hx).value;exact⟨by show dv x.Key=_; rw [hkey]; exact uE (by omega),by show cE x.Key=_; rw [hkey]; exact rF (by omega),by show cr x.Key=_; rw [hkey]; exact nA,by show x.Value.size≤_; omega⟩
theorem E3 (h:ki l b) (hl:l.length≤8) {r:Int} (h1:r≤b.Revision) {t:List am} {v:Bool} (hb:uh t v) (he:v=true→∀ c∈t,td c):du ⟨r,b.Inputs,b.Records⟩ t=iW ⟨r,b.Inputs,b.Records⟩ t:=by
 have hi:=h.nin;have hrev:=h.rev;obtain⟨w,w1,w2,w3⟩:=yo h hl h1;obtain⟨c1,c2⟩:=zA h hl r;cases w with
 | false =>
  unfold du iW;rw [w1,w2,c1,c2]; rfl
 | true=>exact IW ⟨w1,w2,c1,c2,w3 rfl,(by show r≤_; omega),h.insA,(by show b.Inputs.length≤64; omega)⟩ (fun x hx=>FF h x hx) hb he
end
end
section
open Go.RowKit
open Go.Lib hiding intOf
theorem Gl {b:aj} (h:Em b) {cs:List am} (hc:Gg cs) (hl:¬ 32<cs.length):dm b cs=dW b b ((ss cs).foldl (iC b) (false,b.Inputs)).1 ((ss cs).foldl (iC b) (false,b.Inputs)).2:=by
 have hlo:=h.low;have hhi:=h.high;have hlen:=h.len;have hb:Rm b.Inputs.length:=by unfold Rm; omega
 have hw:IntKind.i64.wrap (b.Revision+1)=b.Revision+1:=pX (by omega) (by omega);unfold dm;rw [wV h hc (by omega),ax,if_neg hl];simp only [show ((0:Int) != 0)=false from rfl,cond_false];have hlp:loop (fun s:(List (ah×ByteArray))×Int=>dC cs s.1 s.2) (([]:List (ah×ByteArray)),0)=some (vR [] cs):=by
  refine cD (xs:=cs) (fun k=>(vR [] (cs.take k),(k:Int))) rfl (fun k x hx=>?_) ?_
  ·unfold dC;dsimp only;rw [cU hx,cond_true,aZ,hx,ax,cJ (by have:=bc hx; omega),b7 hx];unfold vR;rw [AJ]; rfl
  ·unfold dC;dsimp only;rw [bA,i6]; rfl
 have hnl:=(BC hc.nd).symm;have hpl:(ss cs).length=cs.length:=by unfold ss; rw [qR]
 have hrng:wB (fun (s:Bool×List aN) (k:ah) (v:ByteArray)=>cP b s.1 s.2 k v) (vR [] cs) (false,b.Inputs)=some ((ss cs).foldl (iC b) (false,b.Inputs)):=by
  refine BJ fun p hp=>?_;have hp2:p.Perm (ss cs):=hp.trans hnl.symm;rw [zP hb hw p (false,b.Inputs) h.asc (by show b.Inputs.length+p.length≤5000; rw [hp2.length_eq,hpl]; omega),zR hp2 (hc.nd.perm hp2.symm) h.asc]
 rw [hlp,ax];unfold fY;rw [h.c1,ax,hrng,ax]
theorem Hk {b:aj} (h:Em b) {cs:List am} (hc:Gg cs) (hn:cs.length≤4000):∃ y e,dm b cs=some (y,e)∧y.Records=b.Records∧y.Inputs.length≤100:=by
 have hlen:=h.len;by_cases hl:32<cs.length
 ·refine⟨b,3,?_,rfl,by omega⟩;unfold dm;rw [wV h hc hn,ax,if_pos hl,h.c1]; rfl
 ·have hfl:=vp (b:=b) (ss cs) (false,b.Inputs);have hpl:(ss cs).length=cs.length:=by unfold ss; rw [qR]
  have hfl:((ss cs).foldl (iC b) (false,b.Inputs)).2.length≤b.Inputs.length+(ss cs).length:=hfl;rw [Gl h hc hl];generalize (ss cs).foldl (iC b) (false,b.Inputs)=s at hfl;obtain⟨ch,ins⟩:=s;have hfl:ins.length≤b.Inputs.length+(ss cs).length:=hfl;unfold dW;rw [h.c1];dsimp only;cases ch
  ·exact⟨_,_,rfl,rfl,by show ins.length≤100; omega⟩
  ·cases decide ((64:Int)<(ins.length:Int))
   ·cases (b.Revision:Int)==1073741824
    ·exact⟨_,_,rfl,rfl,by show ins.length≤100; omega⟩
    ·exact⟨_,_,rfl,rfl,by omega⟩
   ·exact⟨_,_,rfl,rfl,by omega⟩
section
variable {l:List aW} {b:aj}
theorem G7 (h:ki l b) (hl:l.length≤8) {r:Int} (h1:r≤b.Revision) {t:List am} {v:Bool} (hb:uh t v) (he:v=true→∀ c∈t,td c):∃ y e,du ⟨r,b.Inputs,b.Records⟩ t=some (y,e)∧y.Records=b.Records∧y.Inputs.length≤100:=by
 have hi:=h.nin;have hrev:=h.rev;obtain⟨w,w1,w2,w3⟩:=yo h hl h1;obtain⟨c1,c2⟩:=zA h hl r;unfold du;rw [w1,c1,hb.p];cases w with
 | false=>exact⟨_,_,rfl,rfl,by show b.Inputs.length≤100; omega⟩
 | true =>
  cases v with
  | false=>exact⟨_,_,rfl,rfl,by show b.Inputs.length≤100; omega⟩
  | true =>
   have ht:=hb.len rfl;have hbs:Em ⟨r,b.Inputs,b.Records⟩:=⟨w1,w2,c1,c2,w3 rfl,(by show r≤_; omega),h.insA,(by show b.Inputs.length≤64; omega)⟩;have hil:=zT ⟨r,b.Inputs,b.Records⟩;have hil:(vJ ⟨r,b.Inputs,b.Records⟩).length≤b.Inputs.length:=hil;have hfe:∀ c∈vJ ⟨r,b.Inputs,b.Records⟩,td c:=fun c hc=>by
    obtain⟨x,hx,rfl⟩:=gq.1 hc;exact FF h x (iZ.1 hx).1
   obtain⟨ks,k1,k2,k3⟩:=y6 (f:=vJ ⟨r,b.Inputs,b.Records⟩) (t:=t) (by omega) (by omega);have hcs:=Fz k1 (hb.nd rfl) hfe (he rfl);have hdl:=tO (vJ ⟨r,b.Inputs,b.Records⟩) t ks;obtain⟨y,e,y1,y2,y3⟩:=Hk hbs hcs (by omega);simp only [ax,dh,cond_false];rw [xY (by show b.Inputs.length≤1000000; omega),ax,k3,ax,y1,ax];unfold jt;dsimp only;rw [c1];cases e != 0
   ·exact⟨_,_,rfl,y2,y3⟩
   ·exact⟨_,_,rfl,rfl,by show b.Inputs.length≤100; omega⟩
end
theorem Ie {o a b:List am} {vo va' vb:Bool} (ho:uh o vo) (ha:uh a va') (hb:uh b vb):∃ m c e,ee o a b=some (m,c,e)∧m.length≤200∧c.length≤200:=by
 unfold ee;rw [ho.p,ha.p,hb.p];simp only [ax];cases vo with
 | false=>exact⟨[],[],5,rfl,by simp,by simp⟩
 | true =>
 cases va' with
 | false=>exact⟨[],[],5,rfl,by simp,by simp⟩
 | true =>
 cases vb with
 | false=>exact⟨[],[],5,rfl,by simp,by simp⟩
 | true =>
 have lo:=ho.len rfl;have la:=ha.len rfl;have lb:=hb.len rfl;have hl:([o,a,b].flatMap bU).length≤192:=by simp [bU]; omega
 obtain⟨ks,k1,k2⟩:=Ct (ls:=[o,a,b]) (by omega) (by simp);have hk:=k2.len;simp only [dh,cond_false];rw [gT (by omega),gT (by omega),gT (by omega),ax,ax,ax,k1,ax,Ac (by omega),ax];dsimp only;unfold iE;have hm:=Ae o a b ks;have hf:=uf (ep o a b) ks;cases decide ((64:Int)<((sO o a b ks).length:Int))
 ·cases decide ((0:Int)<((ks.filter (ep o a b)).length:Int))
  ·exact⟨_,_,_,rfl,by omega,by simp⟩
  ·exact⟨_,_,_,rfl,by omega,by omega⟩
 ·exact⟨[],[],45,rfl,by simp,by simp⟩
end
section
open Go.RowKit
open Go.Lib hiding intOf
theorem Ns {f:aG→Option Bool} {g:aG→Bool} {s:List aG} (hl:s.length≤1000000) (h:∀ x∈s,f x=some (g x)):bJ f s=some (s.any g):=by
 have e:=nD (B:=fun k:Int=>bx s f k) (xs:=s) g (fun n=>(n:Int)) (s0:=0) rfl (y:=fun k _=>Fl.out (S:=Unit) (k:Int)) (n:=Fl.go ())
  (fun k x hx hp=>by
   have:=bc hx;unfold bx;rw [cU hx,cond_true,aZ,hx,ax,h _ (a6 hx),hp,cJ (by omega)]; rfl)
  (fun k x hx hp=>by
   unfold bx;rw [cU hx,cond_true,aZ,hx,ax,h _ (a6 hx),hp]; rfl)
  (by
   unfold bx;rw [bA]; rfl)
 unfold bJ cQ;rcases e with⟨k,x,h1,h2,_,h3⟩|⟨h1,h2⟩
 ·rw [h3,Eh.2 ⟨x,a6 h1,h2⟩];show some (decide ((0:Int)≤(k:Int)))=some true;rw [decide_eq_true (by omega)]
 ·rw [h2,wO.2 fun x hx=>by rw [h1 x hx]; decide]; rfl
theorem G4 (x:ByteArray):decide (((x.size:Int):Int)<1)=(x.toList==bI.toList):=by
 rw [nO];rcases x with⟨⟨l⟩⟩;cases l with
 | nil=>rfl
 | cons a r =>
  have h1:¬ (((ByteArray.mk ⟨a::r⟩).size:Int)<1):=by
   show ¬ (((a::r).length:Nat):Int)<1;rw [gH]; omega
  have h2:¬ ByteArray.mk ⟨a::r⟩=bI:=fun e=>by
   injection e with e;injection e with e;cases e
  rw [decide_eq_false h1,decide_eq_false h2]
noncomputable def cB (l:List am):Bool:=(bO l).getD false
theorem uh.cB {l:List am} {v:Bool} (h:uh l v):cB l=v:=by
 show (bO l).getD false=v;rw [h.p]; rfl
noncomputable def Db (bs:List aG) (k:Nat):Bool:=match bs[k]? with
 | none=>false
 | some x=>(x.Name.toList==bI.toList)||(decide ((40:Int)<(x.Name.size:Int))||(!(cB x.Inputs)||(bs.take k).any fun y=>y.Name.toList==x.Name.toList))
section
variable {bs:List aG} (hs:∀ x∈bs,(∀ c∈x.Inputs,c.Key.Text.size≤140737488355328)∧x.Inputs.length≤1000000) (hl:bs.length≤1000000)
include hs hl
theorem tL {k:Nat} (hk:k<bs.length):fZ bs (k:Int)=some (bif Db bs k then .out (.out false) else .go ((k+1:Nat):Int))∧io bs (k:Int)=some (bif Db bs k then .out (.out false) else .go ((k+1:Nat):Int)):=by
 obtain⟨x,hx⟩:∃ x,bs[k]? = some x:=⟨_,bS hk⟩;have hxs:=hs x (a6 hx);obtain⟨v,hv⟩:=qX hxs.1 hxs.2;have e0:o0 bs 0 (k:Int)=some (bs.take k):=pF (by omega);have e1:bJ (fun x0=>lq x0 x) (bs.take k)=some ((bs.take k).any fun y=>y.Name.toList==x.Name.toList):=Ns (by rw [fe]; omega) fun y _=>rfl;have e2:loop (fun s:Int=>im x (bs.take k) s) 0=some (if (bs.take k).any (fun y=>y.Name.toList==x.Name.toList) then Fl.out false else Fl.go ()) :=
  kH (xs:=bs.take k) (fun y=>y.Name.toList==x.Name.toList) (fun n=>(n:Int)) rfl
   (fun j y hy hp=>by
    have:=bc hy;rw [fe] at this;unfold im; rw [cU hy,cond_true,aZ,hy,ax,hp,cJ (by omega)]; rfl)
   (fun j y hy hp=>by unfold im; rw [cU hy,cond_true,aZ,hy,ax,hp]; rfl)
   (by unfold im; rw [bA]; rfl)
 unfold fZ io Db;rw [cU hx,cond_true,cond_true,aZ,hx,ax,ax,G4,hv.p,hv.r,ax,ax,e0,ax,ax,e1,e2,ax,ax,cJ (by omega)];dsimp only;rw [hv.cB];unfold oU;rw [cJ (by omega)];generalize ((bs.take k).any fun y=>y.Name.toList==x.Name.toList)=q;generalize (x.Name.toList==bI.toList)=z;generalize decide ((40:Int)<(x.Name.size:Int))=s;cases z <;> cases s <;> cases v <;> cases q <;> exact⟨rfl,rfl⟩
theorem zr:∃ v,l3 bs=some v∧nZ bs=some v:=by
 have hr:∀ {k x:Nat},(List.range bs.length)[k]? = some x→x=k∧k<bs.length:=fun {k x} h=>by
  obtain⟨h1,h2⟩:=bN.1 h;rw [sg] at h1;rw [F9] at h2;exact⟨h2.symm,h1⟩
 have e1:loop (fun s:Int=>fZ bs s) 0=some (if (List.range bs.length).any (Db bs) then Fl.out false else Fl.go ()) :=
  kH (xs:=List.range bs.length) (Db bs) (fun n=>(n:Int)) rfl
   (fun k x h hp=>by obtain⟨rfl,h1⟩:=hr h; rw [(tL hs hl h1).1,hp]; rfl)
   (fun k x h hp=>by obtain⟨rfl,h1⟩:=hr h; rw [(tL hs hl h1).1,hp]; rfl)
   (by rw [sg]; unfold fZ; rw [bA]; rfl)
 have e2:loop (fun s:Int=>io bs s) 0=some (if (List.range bs.length).any (Db bs) then Fl.out false else Fl.go ()) :=
  kH (xs:=List.range bs.length) (Db bs) (fun n=>(n:Int)) rfl
   (fun k x h hp=>by obtain⟨rfl,h1⟩:=hr h; rw [(tL hs hl h1).2,hp]; rfl)
   (fun k x h hp=>by obtain⟨rfl,h1⟩:=hr h; rw [(tL hs hl h1).2,hp]; rfl)
   (by rw [sg]; unfold io; rw [bA]; rfl)
 unfold l3 nZ;rw [e1,e2,ax,ax];cases (List.range bs.length).any (Db bs)
 ·exact⟨decide ((bs.length:Int)≤8),rfl,rfl⟩
 ·exact⟨false,rfl,rfl⟩
end
end
section
open Go.RowKit
open Go.Lib hiding intOf
def vG (l:List am):Prop:=(∀ c∈l,c.Key.Text.size≤140737488355328)∧l.length≤1000000
theorem Bs:∀ n:Fin 100,(bz n.val).Text.size≤100:=by decide +kernel
theorem jq.sz {n:Nat} {l:List am} (h:jq n l) (hn:n≤10):vG l:=by
 refine⟨fun c hc=>?_,by have:=h.len; omega⟩;obtain⟨m,hm,e⟩:=h.keys c hc;rw [e];have:=Bs ⟨m,by omega⟩;have:(bz m).Text.size≤100:=this;omega
theorem vG.snoc {l:List am} (h:vG l) (hl:l.length≤999999) {n:Nat} (hn:n<100) (v:ByteArray):vG (l++[am.mk (bz n) v]):=by
 refine⟨fun c hc=>?_,by rw [cS,qQ]; omega⟩;rcases dz.1 hc with hc | hc
 ·exact h.1 c hc
 ·rw [eG.1 hc];have:(bz n).Text.size≤100:=Bs ⟨n,hn⟩;show (bz n).Text.size≤_;omega
theorem zh {o a b:List am} (ho:vG o) (ha:vG a) (hb:vG b):∃ m c e,ee o a b=some (m,c,e)∧lU o a b=some (m,c,e)∧eR m m=some true∧c.length≤200:=by
 obtain⟨_,h1⟩:=qX ho.1 ho.2;obtain⟨_,h2⟩:=qX ha.1 ha.2;obtain⟨_,h3⟩:=qX hb.1 hb.2;obtain⟨m,c,e,k1,k2,k3⟩:=Ie h1 h2 h3;exact⟨m,c,e,k1,by rw [Kh h1 h2 h3,k1],CJ (by omega),k3⟩
theorem Gj {x y:List am} (hx:vG x) (hy:vG y) (h1:cx x=some true) (h2:cx y=some true):∃ d,ez x y=some d∧nI x y=some d∧eR d d=some true:=by
 obtain⟨v,b1⟩:=qX hx.1 hx.2;obtain⟨w,b2⟩:=qX hy.1 hy.2;obtain rfl:v=true:=fq (b1.r.symm.trans h1);obtain rfl:w=true:=fq (b2.r.symm.trans h2);have l1:=b1.len rfl;have l2:=b2.len rfl;obtain⟨ks,_,k2,k3⟩:=y6 (f:=x) (t:=y) (by omega) (by omega);have:=tO x y ks;exact⟨_,k3,by rw [HL (by omega) (by omega) (b1.nd rfl) (b2.nd rfl),k3],CJ (by omega)⟩
section
variable {l:List aW} {b:aj}
theorem C8 (h:ki l b) (hl:l.length≤8) {r:Int} (h1:r≤b.Revision) {t:List am} (ht:vG t):∃ p e,du ⟨r,b.Inputs,b.Records⟩ t=some (p,e)∧iW ⟨r,b.Inputs,b.Records⟩ t=some (p,e)∧nG p p=some true:=by
 obtain⟨v,b1⟩:=qX ht.1 ht.2;have he:v=true→∀ c∈t,td c:=fun hv=>Hp ht.1 ht.2 (by rw [b1.p,hv]);obtain⟨y,e,k1,k2,k3⟩:=G7 h hl h1 b1 he;exact⟨y,e,k1,by rw [← E3 h hl h1 b1 he,k1],G2 (by rw [k2]; exact (h.rm hl).1) (by unfold Rm; omega)⟩
theorem C7 (h:ki l b) (r:Int):∃ i,d7 ⟨r,b.Inputs,b.Records⟩=some i∧mj ⟨r,b.Inputs,b.Records⟩=some i∧eR i i=some true:=by
 have hi:=h.nin;have:=zT ⟨r,b.Inputs,b.Records⟩;have:(vJ ⟨r,b.Inputs,b.Records⟩).length≤b.Inputs.length:=this;have e:=xY (b:=⟨r,b.Inputs,b.Records⟩) (by show b.Inputs.length≤1000000; omega);exact⟨_,e,e,CJ (by omega)⟩
end
end
section
set_option maxRecDepth 100000
set_option maxHeartbeats 4000000
open Go.RowKit
noncomputable section
def eA (b:Bool):Option Bool:=some (b)
def jx (c:(LU×aj×aX)) (d:LC) (b:(LC×aX)) (e:(aj×Int)):Option Bool:=(ez b.1 b.1).bind fun f=>cond ((f.length:Int)==0) ((ez d b.1).bind fun g=>cond (((g.length:Int)==0)==(e.1.Revision==c.2.1.Revision)) ((fF).bind fun h=>eA h) (eA false)) (eA false)
def jy (b:Int):Option (Fl (Int) (Fl (Unit) Bool)):=some (.go (IntKind.i64.wrap (b+1)))
def jz (b:(LU×aj×aX)) (e:Int) (c:am) (d:ByteArray):Option (Fl (Int) (Fl (Unit) Bool)):=cond (!(c.Value.toList==d.toList)) (some (.out (.out false))) ((nU (aj.mk b.2.1.Revision b.2.1.Inputs b.2.1.Records) c.Key).bind fun f=>cond (f.toList==d.toList) (some (.out (.out false))) (jy e))
def fW (b:Int) (c:ByteArray):Option (Fl (ByteArray×Int) (ByteArray)):=some (.go (c,IntKind.i64.wrap (b+1)))
def jA (e:(LC×aX)) (d:am) (f:ByteArray) (b:Int):Option (Fl (ByteArray×Int) (ByteArray)):=cond (decide (b<(e.1.length:Int))) ((bu e.1 b).bind fun c=>cond (c.Key.Kind==d.Key.Kind&&c.Key.Text.toList==d.Key.Text.toList) (fW b c.Value) (fW b f)) (some (.out f))
def jB (e:(LU×aj×aX)) (f:(LC×aX)) (d:LC) (b:Int):Option (Fl (Int) (Fl (Unit) Bool)):=cond (decide (b<(d.length:Int))) ((bu d b).bind fun c=>(loop (fun s:ByteArray×Int=>jA f c s.1 s.2) (bI,0)).bind fun r=>jz e b c r) (some (.out (.go ())))
def qf (h:LN):Option Bool:=(lB h).bind fun j=>cond (!(j)) ((fF).bind fun k=>some (k)) ((vz h).bind fun l=>(rp l 3).bind fun c=>(d7 (aj.mk c.2.1.Revision c.2.1.Inputs c.2.1.Records)).bind fun e=>(gC (aX.mk c.2.2.L c.2.2.At)).bind fun d=>(du (aj.mk c.2.1.Revision c.2.1.Inputs c.2.1.Records) d.1).bind fun b=>(du (aj.mk b.1.Revision b.1.Inputs b.1.Records) e).bind fun f=>(du (aj.mk b.1.Revision b.1.Inputs b.1.Records) d.1).bind fun g=>cond (b.2 != 0) (some (false)) (cond (f.2 != 0) (some (false)) (cond (g.2 != 0) (some (false)) ((d7 (aj.mk b.1.Revision b.1.Inputs b.1.Records)).bind fun m=>(eR m d.1).bind fun n=>cond (!(n)) (some (false)) ((d7 (aj.mk f.1.Revision f.1.Inputs f.1.Records)).bind fun o=>(eR o e).bind fun p=>cond (!(p)) (some (false)) ((nG (aj.mk g.1.Revision g.1.Inputs g.1.Records) (aj.mk b.1.Revision b.1.Inputs b.1.Records)).bind fun q=>cond (!(q)) (some (false)) ((ez e d.1).bind fun i=>(loop (fun s:Int=>jB c d i s) 0).bind fun r=>Fl.el r (fun s=>jx c e d b) (fun y=>some (y)))))))))
theorem Cu (T:Nat→Prop) (W0:World) (hT:TW T W0) (hLv:di T W0) (O:LN) (v1:Value) (er:aE (aY.int .i64) T W0 v1 O) (y:Bool) (hM:qf O=some y):bj aP No 3 [v1] W0 (fun v w'=>v = .bool y):=by
 refine en Tryz.func3 Tryz.ntmps3 hT fun a hS=>?_;replace hS:=(hS.fact bC (di.dn hLv)).fS (aE.dn er);unfold qf at hM;refine ai hS fun a hS=>?_;refine aD ?_;refine ai hS fun a hS=>?_;obtain⟨h3,c4,hM⟩:=bd hM;refine kc hS Qj (xb _ _ hS.dlt O _ (hS.get 0 rfl) _ c4) fun _ w hR a hk hA=>?_;obtain rfl:=hR;have hS:=bY hA;refine ai hS fun a hS=>?_;rcases cd hM with⟨d2,hM⟩|⟨d2,hM⟩
 ·refine ai hS fun a hS=>?_;obtain⟨h4,c5,hM⟩:=bd hM;refine kc hS LM (ja _ _ hS.dlt (hS.get 1 rfl) _ c5) fun _ w hR a hk hA=>?_;obtain rfl:=hR;have hS:=bY hA;exact fz
 refine ai hS fun a hS=>?_;obtain⟨b6,c9,hM⟩:=bd hM;refine kc hS Qk (yI _ _ hS.dlt O _ (hS.get 0 rfl) _ c9) fun _ w hR a hk hA=>?_;obtain⟨cv,e8,he,el,X,a0⟩:=hR;obtain rfl:=he.symm;have hS:=hA [.box cv (bk b6 e8) 64] (ei X (fun k hk=>by simp only [db.dom,fg] at hk; omega)) (sP _);replace hS:=hS.fS (a0.sub (iB _));refine ai hS fun a hS=>?_;obtain⟨b,bb,hM⟩:=bd hM;refine wl rfl (cC hS Ql rfl rfl 0 rfl (yH _ _ (hS.drop 0).dlt b6 3 _ _ (hS.boxRow 0 rfl) (hS.notin 0 rfl) (aE.lent (i:=0) rfl (hS.get 0 rfl)) (bC.keep (hS.get 2 rfl) (au _ _) (fun k hk=>.inl ((qb (i:=0) rfl k).1 hk))) _ bb) fun _ w hR hk=>?_);obtain⟨h8,j,l,ea,he,a1,a2,a3,hrow,a4⟩:=hR;obtain rfl:=he.symm;refine⟨(bk b.2.2 ea),hrow,fun a hS=>?_⟩;replace hS:=(((hS.fS (aE.back (i:=0) rfl a1)).fS (aE.back (i:=0) rfl a2)).fS (aE.back (i:=0) rfl a3)).fS (aE.back (i:=0) rfl a4);refine ai hS fun a hS=>?_;refine ka hS mo fun f g5 a w hk hS=>?_;refine go hS fun a w hS=>?_;obtain⟨p,bi,hM⟩:=bd hM;refine kc hS Nh (iD _ _ hS.dlt (aj.mk b.2.1.Revision b.2.1.Inputs b.2.1.Records) _ _ (hS.get 2 rfl) (hS.get 1 rfl) _ bi) fun _ w hR a hk hA=>?_;obtain⟨m,f6,he,a5⟩:=hR;obtain rfl:=he.symm;have hS:=qD hA a5;refine ai hS fun a hS=>?_;obtain⟨d,bl,hM⟩:=bd hM;refine wl rfl (mG hS JB rfl rfl 2 rfl (nc _ _ (hS.drop 2).dlt (aX.mk b.2.2.L b.2.2.At) _ _ (hS.boxRow 2 rfl) (hS.notin 2 rfl) (aE.lent (i:=2) rfl (hS.get 1 rfl)) (bC.keep (hS.get 7 rfl) (au _ _) (fun k hk=>.inl ((qb (i:=2) rfl k).1 hk))) _ bl) fun _ w hR hk=>?_);obtain⟨e,D,ed,he,⟨Y,V,a9⟩,hrow,ab⟩:=hR;obtain rfl:=he.symm;refine⟨(bk d.2 ed),[ba e D],hrow,ei ⟨Y,by decide⟩ V,sP _,fun a hS=>?_⟩;replace hS:=(hS.fR (a9.keep (au _ _) (Nw.back2 (i:=2) rfl [ba e D] _))).fS (ab.sub (Nw.back2 (i:=2) rfl [ba e D] _));refine ai hS fun a hS=>?_;replace hS:=hS.freeze (R:=ad) 0 rfl 1 rfl;obtain⟨c,bs,hM⟩:=bd hM;refine kc hS JC (m8 _ _ hS.dlt (hS.get 10 rfl) (aj.mk b.2.1.Revision b.2.1.Inputs b.2.1.Records) d.1 _ _ _ (hS.get 6 rfl) (hS.get 5 rfl) (hS.get 0 rfl) _ bs) fun _ w hR a hk hA=>?_;obtain⟨n,fd,o,fl,he,af,ag,C⟩:=hR;obtain rfl:=he.symm;have hS:=uw hA af ag C;refine ai hS fun a hS=>?_;refine ka hS mo fun g g6 a w hk hS=>?_;refine go hS fun a w hS=>?_;replace hS:=((hS.freeze (R:=ae) 1 rfl 1 rfl).freeze (R:=aa) 1 rfl 1 rfl).freeze (R:=ad) 1 rfl 7 rfl;obtain⟨I,ca,hM⟩:=bd hM;refine kc hS JC (m8 _ _ hS.dlt (hS.get 15 rfl) (aj.mk c.1.Revision c.1.Inputs c.1.Records) p _ _ _ (hS.get 2 rfl) (hS.get 1 rfl) (hS.get 0 rfl) _ ca) fun _ w hR a hk hA=>?_;obtain⟨h9,fn,ha,fr,he,ak,ao,C⟩:=hR;obtain rfl:=he.symm;have hS:=uw hA ak ao C;refine ai hS fun a hS=>?_;refine ka hS mo fun ex g7 a w hk hS=>?_;refine go hS fun a w hS=>?_;obtain⟨K,cb,hM⟩:=bd hM;refine kc hS JC (m8 _ _ hS.dlt (hS.get 17 rfl) (aj.mk c.1.Revision c.1.Inputs c.1.Records) d.1 _ _ _ (hS.get 4 rfl) (hS.get 3 rfl) (hS.get 7 rfl) _ cb) fun _ w hR a hk hA=>?_;obtain⟨hb,fs,hc,fM,he,av,b0,C⟩:=hR;obtain rfl:=he.symm;have hS:=uw hA av b0 C;refine ai hS fun a hS=>?_;refine ka hS mo fun eT g8 a w hk hS=>?_;refine go hS fun a w hS=>?_;refine aD ?_;refine iY ?_;refine ai hS fun a hS=>?_;rcases cd hM with⟨d3,hM⟩|⟨d3,hM⟩
 ·exact fz
 refine ai hS fun a hS=>?_;rcases cd hM with⟨d4,hM⟩|⟨d4,hM⟩
 ·exact fz
 refine ai hS fun a hS=>?_;rcases cd hM with⟨F,hM⟩|⟨F,hM⟩
 ·exact fz
 refine ai hS fun a hS=>?_;obtain⟨e4,ch,hM⟩:=bd hM;refine wg hS rfl rfl rfl F (bg hS Nh rfl rfl (iD _ _ hS.dlt (aj.mk c.1.Revision c.1.Inputs c.1.Records) _ _ (hS.get 6 rfl) (hS.get 5 rfl) _ ch) fun _ w hR a hk hA=>?_);obtain⟨hd,g0,he,b1⟩:=hR;obtain rfl:=he.symm;have hS:=qD hA b1;refine ai hS fun a hS=>?_;have hL:=hS;replace hL:=hL.freeze (R:=ad) 0 rfl 0 rfl;obtain⟨h5,ck,hM⟩:=bd hM;refine wg hS rfl rfl rfl F (bg hS EA rfl rfl (kz _ _ hL.dlt e4 d.1 _ _ (hL.get 0 rfl) (hL.get 11 rfl) _ ck) fun _ w hR a hk hA=>?_);obtain rfl:=hR;have hS:=bY hA;refine ai hS fun a hS=>?_;rcases cd hM with⟨G,hM⟩|⟨G,hM⟩
 ·exact fz
 refine ai hS fun a hS=>?_;have hL:=hS;replace hL:=hL.freeze (R:=ae) 5 rfl 4 rfl;replace hL:=hL.freeze (R:=aa) 5 rfl 4 rfl;obtain⟨e5,cl,hM⟩:=bd hM;refine wg hS rfl rfl rfl G (bg hS Nh rfl rfl (iD _ _ hL.dlt (aj.mk I.1.Revision I.1.Inputs I.1.Records) _ _ (hL.get 1 rfl) (hL.get 0 rfl) _ cl) fun _ w hR a hk hA=>?_);obtain⟨eg,d0,he,⟨Z,W,b2⟩⟩:=hR;obtain rfl:=he.symm;have hS:=hA [ba eg d0] (ei ⟨Z,by decide⟩ W) (sP _);replace hS:=hS.fR b2;refine ai hS fun a hS=>?_;have hL:=hS;replace hL:=hL.freeze (R:=ad) 0 rfl 0 rfl;obtain⟨h6,co,hM⟩:=bd hM;refine wg hS rfl rfl rfl G (bg hS EA rfl rfl (kz _ _ hL.dlt e5 p _ _ (hL.get 0 rfl) (hL.get 7 rfl) _ co) fun _ w hR a hk hA=>?_);obtain rfl:=hR;have hS:=bY hA;refine ai hS fun a hS=>?_;rcases cd hM with⟨Q,hM⟩|⟨Q,hM⟩
 ·exact fz
 refine ai hS fun a hS=>?_;have hL:=hS;replace hL:=hL.freeze (R:=ae) 3 rfl 3 rfl;replace hL:=hL.freeze (R:=aa) 3 rfl 3 rfl;obtain⟨h7,cs,hM⟩:=bd hM;refine wg hS rfl rfl rfl Q (bg hS NI rfl rfl (xj _ _ hL.dlt (aj.mk K.1.Revision K.1.Inputs K.1.Records) (aj.mk c.1.Revision c.1.Inputs c.1.Records) _ _ _ _ (hL.get 1 rfl) (hL.get 0 rfl) (hL.get 10 rfl) (hL.get 9 rfl) _ cs) fun _ w hR a hk hA=>?_);obtain rfl:=hR;have hS:=bY hA;refine ai hS fun a hS=>?_;rcases cd hM with⟨d6,hM⟩|⟨d6,hM⟩
 ·exact fz
 refine ai hS fun a hS=>?_;refine aK (J:=fun a w=>St W0 No T 138 [(5,pt f 0),(6,m),(7,e),(8,pt g 0)] [.box f (bf b.2.1 j l) 31,.box g (bf c.1 n o) 31] [aR ad m p,aR ad e d.1,aR ae j b.2.1.Inputs,aR aa l b.2.1.Records,aR ae n c.1.Inputs,aR aa o c.1.Records,bC] a w∧jx b p d c=some y) ?_ ?_
 ·skip;refine ai hS fun a hS=>?_;obtain⟨q,c3,hM⟩:=bd hM;refine kc hS Df (gA _ _ hS.dlt (hS.get 21 rfl) p d.1 _ _ (hS.get 6 rfl) (hS.get 11 rfl) _ c3) fun _ w hR a hk hA=>?_;obtain⟨u,r,he,b3⟩:=hR;obtain rfl:=he.symm;have hS:=qD hA b3;refine ai hS fun a hS=>?_;obtain⟨r1,em,hMo1⟩:=bd hM;refine bF _ (fun s a w=>∃ (t:Int),t=s∧St W0 No T 138 [(5,pt f 0),(6,m),(7,e),(8,pt g 0),(84,u),(85,al (q.length:Int)),(86,al t)] [ba u r,.box f (bf b.2.1 j l) 31,.box g (bf c.1 n o) 31] [aR ad m p,aR ad e d.1,an ad r q,aR ae j b.2.1.Inputs,aR aa l b.2.1.Records,aR ae n c.1.Inputs,aR aa o c.1.Records,bC] a w) em ⟨_,rfl,hS.mt [0,10,9] [7,12,0,18,17,9,8,22]⟩ ?_;rintro s a w f1 ⟨t,rfl,hS⟩ hM hf1;have hM:jB b d q t=some f1:=hM;unfold jB at hM;refine ai hS fun a hS=>?_;refine aD ?_;rcases cd hM with⟨da,hM⟩|⟨da,hM⟩
  ·refine ai hS fun a hS=>?_;refine aK (J:=fun a w=>St W0 No T 138 [(5,pt f 0),(6,m),(7,e),(8,pt g 0),(84,u),(85,al (q.length:Int)),(86,al t)] [ba u r,.box f (bf b.2.1 j l) 31,.box g (bf c.1 n o) 31] [aR ad m p,aR ad e d.1,an ad r q,aR ae j b.2.1.Inputs,aR aa l b.2.1.Records,aR ae n c.1.Inputs,aR aa o c.1.Records,bC] a w∧jy t=some f1) ?_ ?_
   ·skip;refine ai hS fun a hS=>?_;obtain⟨x,b8,hM⟩:=bd hM;refine wl rfl (dj (R:=ad) hS tA s9 rfl rfl 0 rfl 2 rfl b8 rfl fun eX gp gu g1 dc dk dl a hS=>?_);obtain rfl:=dc;refine qy hS (ce (k:=0) hS s9 0 rfl dk dl rfl id (us:=(gt x)) rfl rfl (fun h=>by cases h)) fun a hS=>?_;refine ka hS ir fun z gb a w hk hS=>?_;refine go hS fun a w hS=>?_;refine aK (J:=fun a w=>∃ (M:ByteArray),St W0 No T 138 [(5,pt f 0),(6,m),(7,e),(8,pt g 0),(15,pt z 0),(16,aO M),(84,u),(85,al (q.length:Int)),(86,al t)] [ba u r,.box f (bf b.2.1 j l) 31,.box g (bf c.1 n o) 31,.box z (gt x) 46] [aR ad m p,aR ad e d.1,an ad r q,aR ae j b.2.1.Inputs,aR aa l b.2.1.Records,aR ae n c.1.Inputs,aR aa o c.1.Records,bC] a w∧jz b t x M=some f1) ?_ ?_
    ·skip;refine ai hS fun a hS=>?_;obtain⟨r2,eq,hMo2⟩:=bd hM;refine bF _ (fun s a w=>∃ (B:ByteArray) (A:Int),(B,A)=s∧St W0 No T 138 [(5,pt f 0),(6,m),(7,e),(8,pt g 0),(15,pt z 0),(16,aO B),(84,u),(85,al (q.length:Int)),(86,al t),(90,e),(91,al (d.1.length:Int)),(92,al A)] [ba u r,.box f (bf b.2.1 j l) 31,.box g (bf c.1 n o) 31,.box z (gt x) 46] [aR ad m p,aR ad e d.1,an ad r q,aR ae j b.2.1.Inputs,aR aa l b.2.1.Records,aR ae n c.1.Inputs,aR aa o c.1.Records,bC] a w) eq ⟨_,_,rfl,hS.mt [1,2,3,0] [0,1,2,3,4,5,6,7]⟩ ?_;rintro s a w f2 ⟨B,A,rfl,hS⟩ hM hf2;have hM:jA d x B A=some f2:=hM;unfold jA at hM;refine ai hS fun a hS=>?_;refine aD ?_;rcases cd hM with⟨ds,hM⟩|⟨ds,hM⟩
     ·refine ai hS fun a hS=>?_;refine aK (J:=fun a w=>∃ (N:ByteArray),St W0 No T 138 [(5,pt f 0),(6,m),(7,e),(8,pt g 0),(15,pt z 0),(16,aO N),(84,u),(85,al (q.length:Int)),(86,al t),(90,e),(91,al (d.1.length:Int)),(92,al A)] [ba u r,.box f (bf b.2.1 j l) 31,.box g (bf c.1 n o) 31,.box z (gt x) 46] [aR ad m p,aR ad e d.1,an ad r q,aR ae j b.2.1.Inputs,aR aa l b.2.1.Records,aR ae n c.1.Inputs,aR aa o c.1.Records,bC] a w∧fW A N=some f2) ?_ ?_
      ·skip;refine ai hS fun a hS=>?_;obtain⟨P,b9,hM⟩:=bd hM;refine wl rfl (bm (R:=ad) hS tA s9 rfl rfl 1 rfl b9 rfl fun f3 gs g2 e2 a hS=>?_);obtain rfl:=e2;refine ai hS fun a hS=>?_;refine ka hS ir fun f4 gi a w hk hS=>?_;refine go hS fun a w hS=>?_;refine wl rfl (ky (v:=.bool (P.Key.Kind==x.Key.Kind&&P.Key.Text.toList==x.Key.Text.toList)) hS (zL hS rfl rfl) rfl rfl fun a hS=>?_);exact fz
      rintro a w ⟨N,hS,hM⟩;unfold fW at hM;exact fz
     exact fz
    rintro a w ⟨M,hS,hM⟩;unfold jz at hM;refine iY ?_;refine ai hS fun a hS=>?_;rcases cd hM with⟨S,hM⟩|⟨S,hM⟩
    ·exact fz
    refine ai hS fun a hS=>?_;obtain⟨h2,c2,hM⟩:=bd hM;refine wg hS rfl rfl rfl S (bg hS JD rfl rfl (sD _ _ hS.dlt (aj.mk b.2.1.Revision b.2.1.Inputs b.2.1.Records) x.Key _ _ (hS.get 3 rfl) (hS.get 4 rfl) _ c2) fun _ w hR a hk hA=>?_);obtain rfl:=hR;have hS:=bY hA;exact fz
   rintro a w ⟨hS,hM⟩;unfold jy at hM;exact fz
  exact fz
 rintro a w ⟨hS,hM⟩;unfold jx at hM;refine aK (J:=fun a w=>∃ (E:Bool),St W0 No T 138 [(2,.bool E)] [] [bC] a w∧eA E=some y) ?_ ?_
 ·skip;refine dr [] hS fun w hQ hS=>?_;refine gE [0,1] hS fun a hS=>?_;obtain⟨h0,bt,hM⟩:=bd hM;refine ec 2 hS Df (gA _ _ hS.dlt (hS.get 6 rfl) d.1 d.1 _ _ (hS.get 1 rfl) (hS.get 1 rfl) _ bt) fun _ w hR a hk hA=>?_;obtain⟨hf,g3,he,b4⟩:=hR;obtain rfl:=he.symm;have hS:=qD hA b4;refine gE [3,4,5] hS fun a hS=>?_;rcases cd hM with⟨H,hM⟩|⟨H,hM⟩
  ·refine gE [6,7,11,12,13,14,15] hS fun a hS=>?_;obtain⟨e3,c0,hM⟩:=bd hM;refine cI (i:=8) rfl (by kernel_rfl) hS rfl rfl rfl H (bg hS Df rfl rfl (gA _ _ hS.dlt (hS.get 7 rfl) p d.1 _ _ (hS.get 1 rfl) (hS.get 2 rfl) _ c0) fun _ w hR a hk hA=>⟨gf (hk),?_⟩);obtain⟨hg,g4,he,b5⟩:=hR;obtain rfl:=he.symm;have hS:=qD hA b5;refine gE [9,10] hS fun a hS=>?_;refine y7 16 (v:=.bool (((e3.length:Int)==0)==(c.1.Revision==b.2.1.Revision))) rfl (by kernel_rfl) (by kernel_rfl) (by kernel_rfl) rfl hQ hS (CR hS rfl rfl Tryz.underlying4 (.inl ⟨rfl,rfl⟩)) rfl rfl rfl H rfl rfl fun a hS=>?_;refine gE [17,18] hS fun a hS=>?_;rcases cd hM with⟨U,hM⟩|⟨U,hM⟩
   ·obtain⟨h1,c1,hM⟩:=bd hM;refine cI (i:=19) rfl (by kernel_rfl) hS rfl rfl rfl U (bg hS LM rfl rfl (ja _ _ hS.dlt (hS.get 8 rfl) _ c1) fun _ w hR a hk hA=>⟨gf (hk),?_⟩);obtain rfl:=hR;have hS:=bY hA;refine gE [20,21] hS fun a hS=>?_;refine eD ?_;exact⟨_,hS.mt [] [8],hM⟩
   refine gE [19,20,21] hS fun a hS=>?_;refine eD ?_;exact⟨_,hS.mt [] [8],hM⟩
  refine gE [6,7,8,9,10,11,12,13,14,15,16,17,18,19,20,21] hS fun a hS=>?_;refine eD ?_;exact⟨_,hS.mt [] [7],hM⟩
 rintro a w ⟨E,hS,hM⟩;unfold eA at hM;exact fz
def cu (b:Bool):Option Bool:=some (b)
def eV (c:(LU×aj×aX)) (d:(LC×aX)) (e:(LC×aX)) (b:LC) (l:Int) (m:Bool):Option Bool:=cond m (some (false)) ((du (aj.mk l c.2.1.Inputs c.2.1.Records) b).bind fun f=>(iW (aj.mk l c.2.1.Inputs c.2.1.Records) b).bind fun g=>(ee d.1 e.1 b).bind fun h=>(lU d.1 e.1 b).bind fun i=>(ee b e.1 d.1).bind fun j=>(lU b e.1 d.1).bind fun k=>(nG (aj.mk f.1.Revision f.1.Inputs f.1.Records) (aj.mk g.1.Revision g.1.Inputs g.1.Records)).bind fun n=>cond n (cond (f.2==g.2) ((eR h.1 i.1).bind fun o=>cond o ((gZ h.2.1 i.2.1).bind fun p=>cond p (cond (h.2.2==i.2.2) ((eR j.1 k.1).bind fun q=>cond q ((gZ j.2.1 k.2.1).bind fun r=>cond r (cond (j.2.2==k.2.2) ((fF).bind fun s=>cu s) (cu false)) (cu false)) (cu false)) (cu false)) (cu false)) (cu false)) (cu false)) (cu false))
def eW (e:(LU×aj×aX)) (f:(LC×aX)) (c:(LC×aX)) (b:LC) (d:Int) (g:Bool):Option Bool:=cond g (some (false)) ((cx b).bind fun h=>cond h ((ez c.1 b).bind fun i=>(nI c.1 b).bind fun j=>(eR i j).bind fun k=>eV e f c b d (!(k))) (eV e f c b d false))
def bD (e:(List aG)) (b:(LU×aj×aX)) (f:(LC×aX)) (g:(LC×aX)) (h:LC) (d:(List aG)) (c:Int):Option Bool:=(l3 d).bind fun i=>(nZ d).bind fun j=>cond (i != j) (some (false)) ((l3 e).bind fun k=>(nZ e).bind fun l=>cond (k != l) (some (false)) ((fc (aj.mk c b.2.1.Inputs b.2.1.Records)).bind fun m=>cond m ((d7 (aj.mk c b.2.1.Inputs b.2.1.Records)).bind fun n=>(mj (aj.mk c b.2.1.Inputs b.2.1.Records)).bind fun o=>(eR n o).bind fun p=>eW b f g h c (!(p))) (eW b f g h c false)))
def jl (j:Int) (d:(LU×aj×aX)) (e:(LC×aX)) (f:(LC×aX)) (g:(LC×aX)) (h:(ByteArray×aX)) (b:LC) (c:Int):Option (Fl (LC×Int) (LC×(List aG)×Int)):=(kI j 4).bind fun k=>cond (decide ((b.length:Int)<(IntKind.i64.wrap (64-k)))) (cond (decide (c<100)) ((c6 c).bind fun i=>gd (bH (b.length+([(am.mk i (ByteArray.mk #[52]))]).length)) <| some (.go ((b++([(am.mk i (ByteArray.mk #[52]))])),IntKind.i64.wrap (c+1)))) (some (.out (b,[(aG.mk (ByteArray.mk #[48]) e.1),(aG.mk (ByteArray.mk #[120]) f.1),(aG.mk h.1 g.1)],d.2.1.Revision)))) (some (.out (b,[(aG.mk (ByteArray.mk #[48]) e.1),(aG.mk (ByteArray.mk #[120]) f.1),(aG.mk h.1 g.1)],d.2.1.Revision)))
def jm (e:Int) (f:(LU×aj×aX)) (g:(LC×aX)) (c:(List aG)) (b:Int):Option (Fl ((List aG)×Int) (LC×(List aG)×Int)):=cond (decide (b<9)) ((kI e 2).bind fun h=>(o0 c 0 (min (c.length:Int) (IntKind.i64.wrap (7+h)))).bind fun d=>gd (Nat.ble ((ByteArray.mk #[98]).size+(Go.Utf8.encode (IntKind.i32.wrap (IntKind.i64.wrap (97+b)))).size) 140737488355328) <| gd (bH (d.length+([(aG.mk ((ByteArray.mk #[98])++(Go.Utf8.encode (IntKind.i32.wrap (IntKind.i64.wrap (97+b))))) ([]))]).length)) <| some (.go ((d++([(aG.mk ((ByteArray.mk #[98])++(Go.Utf8.encode (IntKind.i32.wrap (IntKind.i64.wrap (97+b))))) ([]))])),IntKind.i64.wrap (b+1)))) (some (.out (g.1,c,f.2.1.Revision)))
def eY (g:(List aG)) (t:LC) (u:LN) (m:Int) (i:Int):Option Bool:=(vz u).bind fun o=>(rp o 3).bind fun e=>(gC (aX.mk e.2.2.L e.2.2.At)).bind fun c=>(gC (aX.mk c.2.L c.2.At)).bind fun d=>(gC (aX.mk d.2.L d.2.At)).bind fun b=>(ph (aX.mk b.2.L b.2.At) ([(ByteArray.mk #[121]),(ByteArray.mk #[120]),bI])).bind fun f=>(kI m 8).bind fun h=>cond (h==0) (bD g e c d t ([(aG.mk (ByteArray.mk #[48]) c.1),(aG.mk (ByteArray.mk #[120]) d.1),(aG.mk f.1 b.1)]) e.2.1.Revision) (cond (h==1) ((kI i 9).bind fun p=>(c6 p).bind fun k=>gd (bH (b.1.length+([(am.mk k (ByteArray.mk #[52]))]).length)) <| bD g e c d (b.1++([(am.mk k (ByteArray.mk #[52]))])) ([(aG.mk (ByteArray.mk #[48]) c.1),(aG.mk (ByteArray.mk #[120]) d.1),(aG.mk f.1 b.1)]) e.2.1.Revision) (cond (h==2) ((c6 9).bind fun l=>gd (bH (b.1.length+([(am.mk l bI)]).length)) <| bD g e c d (b.1++([(am.mk l bI)])) ([(aG.mk (ByteArray.mk #[48]) c.1),(aG.mk (ByteArray.mk #[120]) d.1),(aG.mk f.1 b.1)]) e.2.1.Revision) (cond (h==3) ((loop (fun s:LC×Int=>jl i e c d b f s.1 s.2) (b.1,10)).bind fun r=>bD g e c d r.1 r.2.1 r.2.2) (cond (h==4) ((loop (fun s:(List aG)×Int=>jm i e b s.1 s.2) ([(aG.mk (ByteArray.mk #[48]) c.1),(aG.mk (ByteArray.mk #[120]) d.1),(aG.mk f.1 b.1)],0)).bind fun r=>bD g e c d r.1 r.2.1 r.2.2) (cond (h==5) ((kI i 3).bind fun j=>gd (decide (0≤IntKind.i64.wrap (39+j))) <| gd (bH (Int.toNat (IntKind.i64.wrap (39+j)))) <| (bu ([(aG.mk (ByteArray.mk #[48]) c.1),(aG.mk (ByteArray.mk #[120]) d.1),(aG.mk f.1 b.1)]) 0).bind fun n=>bD g e c d b.1 (([(aG.mk (ByteArray.mk #[48]) c.1),(aG.mk (ByteArray.mk #[120]) d.1),(aG.mk f.1 b.1)]).set (Int.toNat 0) (aG.mk (E2 (List.replicate (Int.toNat (IntKind.i64.wrap (39+j))) (0:Int))) n.Inputs)) e.2.1.Revision) (cond (h==6) ((kI i 2).bind fun q=>bD g e c d b.1 ([(aG.mk (ByteArray.mk #[48]) c.1),(aG.mk (ByteArray.mk #[120]) d.1),(aG.mk f.1 b.1)]) (IntKind.i64.wrap (e.2.1.Revision-q))) (bD g e c d b.1 ([(aG.mk (ByteArray.mk #[48]) c.1),(aG.mk (ByteArray.mk #[120]) d.1),(aG.mk f.1 b.1)]) e.2.1.Revision)))))))
def dS (c:(List aG)) (b:Int):Option (Fl (Int) (Fl (Unit) Bool)):=cond (decide (b<(c.length:Int))) ((bu c b).bind fun d=>(lz d.Inputs).bind fun e=>cond (!(e)) ((fF).bind fun f=>some (.out (.out f))) (some (.go (IntKind.i64.wrap (b+1))))) (some (.out (.go ())))
def jw (b:(List aG)) (d:LC) (e:LN) (c:Int) (f:Int):Option Bool:=cond (decide ((20:Int)<(b.length:Int))) ((fF).bind fun g=>some (g)) ((lz d).bind fun h=>cond (!(h)) ((fF).bind fun i=>some (i)) ((lB e).bind fun j=>cond (!(j)) ((fF).bind fun k=>some (k)) ((loop (fun s:Int=>dS b s) 0).bind fun r=>Fl.el r (fun s=>eY b d e c f) (fun y=>some (y)))))
theorem ww (T:Nat→Prop) (W0:World) (hT:TW T W0) (hLv:di T W0) (m:(List aG)) (Q:LC) (P:LN) (E:Int) (o:Int) (H:Value) (v2:Value) (v3:Value) (ks:aE aU T W0 H m) (kt:aE ad T W0 v2 Q) (kv:aE (aY.int .i64) T W0 v3 P) (y:Bool) (hM:jw m Q P E o=some y):bj aP No 4 [H,v2,v3,al E,al o] W0 (fun v w'=>v = .bool y):=by
 refine en Tryz.func4 Tryz.ntmps4 hT fun a hS=>?_;replace hS:=(((hS.fact bC (di.dn hLv)).fS (aE.dn ks)).fS (aE.dn kt)).fS (aE.dn kv);unfold jw at hM;refine ai hS fun a hS=>?_;refine aD ?_;refine iY ?_;refine ai hS fun a hS=>?_;rcases cd hM with⟨b3,hM⟩|⟨b3,hM⟩
 ·refine ai hS fun a hS=>?_;obtain⟨r0,hf,hM⟩:=bd hM;refine kc hS LM (ja _ _ hS.dlt (hS.get 3 rfl) _ hf) fun _ w hR a hk hA=>?_;obtain rfl:=hR;have hS:=bY hA;exact fz
 refine ai hS fun a hS=>?_;obtain⟨r2,hg,hM⟩:=bd hM;refine wg hS rfl rfl rfl b3 (bg hS NU rfl rfl (vS _ _ hS.dlt Q _ (hS.get 1 rfl) _ hg) fun _ w hR a hk hA=>?_);obtain rfl:=hR;have hS:=bY hA;refine ai hS fun a hS=>?_;rcases cd hM with⟨b4,hM⟩|⟨b4,hM⟩
 ·refine ai hS fun a hS=>?_;obtain⟨r3,hh,hM⟩:=bd hM;refine kc hS LM (ja _ _ hS.dlt (hS.get 3 rfl) _ hh) fun _ w hR a hk hA=>?_;obtain rfl:=hR;have hS:=bY hA;exact fz
 refine ai hS fun a hS=>?_;obtain⟨r4,hi,hM⟩:=bd hM;refine wg hS rfl rfl rfl b4 (bg hS Qj rfl rfl (xb _ _ hS.dlt P _ (hS.get 0 rfl) _ hi) fun _ w hR a hk hA=>?_);obtain rfl:=hR;have hS:=bY hA;refine ai hS fun a hS=>?_;rcases cd hM with⟨hp,hM⟩|⟨hp,hM⟩
 ·refine ai hS fun a hS=>?_;obtain⟨ra,hj,hM⟩:=bd hM;refine kc hS LM (ja _ _ hS.dlt (hS.get 3 rfl) _ hj) fun _ w hR a hk hA=>?_;obtain rfl:=hR;have hS:=bY hA;exact fz
 refine ai hS fun a hS=>?_;refine aK (J:=fun a w=>St W0 No T 287 [(0,H),(1,v2),(2,v3),(3,al E),(4,al o)] [] [aR aU H m,aR ad v2 Q,aR (aY.int .i64) v3 P,bC] a w∧eY m Q P E o=some y) ?_ ?_
 ·skip;refine ai hS fun a hS=>?_;obtain⟨r1,Y,hMo1⟩:=bd hM;refine bF _ (fun s a w=>∃ (S:Int),S=s∧St W0 No T 287 [(0,H),(1,v2),(2,v3),(3,al E),(4,al o),(52,H),(53,al (m.length:Int)),(54,al S)] [] [aR aU H m,aR ad v2 Q,aR (aY.int .i64) v3 P,bC] a w) Y ⟨_,rfl,hS.mt [] [2,1,0,3]⟩ ?_;rintro s a w f1 ⟨S,rfl,hS⟩ hM hf1;have hM:dS m S=some f1:=hM;unfold dS at hM;refine ai hS fun a hS=>?_;refine aD ?_;rcases cd hM with⟨hq,hM⟩|⟨hq,hM⟩
  ·refine ai hS fun a hS=>?_;refine aD ?_;refine ai hS fun a hS=>?_;obtain⟨ho,er,hM⟩:=bd hM;refine wl rfl (bm (R:=aU) hS Bk Bl rfl rfl 0 rfl er rfl fun l0 op m0 hs a hS=>?_);obtain⟨rd,rfl,hl⟩:=hs;replace hS:=hS.fS hl;refine ai hS fun a hS=>?_;refine ka hS Bm fun l1 of a w hk hS=>?_;refine go hS fun a w hS=>?_;obtain⟨q6,hc,hM⟩:=bd hM;refine kc hS NU (vS _ _ hS.dlt ho.Inputs _ (hS.get 0 rfl) _ hc) fun _ w hR a hk hA=>?_;obtain rfl:=hR;have hS:=bY hA;refine ai hS fun a hS=>?_;rcases cd hM with⟨ht,hM⟩|⟨ht,hM⟩
   ·refine ai hS fun a hS=>?_;obtain⟨q7,hd,hM⟩:=bd hM;refine kc hS LM (ja _ _ hS.dlt (hS.get 5 rfl) _ hd) fun _ w hR a hk hA=>?_;obtain rfl:=hR;have hS:=bY hA;exact fz
   exact fz
  exact fz
 rintro a w ⟨hS,hM⟩;unfold eY at hM;refine ai hS fun a hS=>?_;obtain⟨em,h5,hM⟩:=bd hM;refine kc hS Qk (yI _ _ hS.dlt P _ (hS.get 2 rfl) _ h5) fun _ w hR a hk hA=>?_;obtain⟨hn,jb,he,kk,bt,c3⟩:=hR;obtain rfl:=he.symm;have hS:=hA [.box hn (bk em jb) 64] (ei bt (fun k hk=>by simp only [db.dom,fg] at hk; omega)) (sP _);replace hS:=hS.fS (c3.sub (iB _));refine ai hS fun a hS=>?_;obtain⟨d,ex,hM⟩:=bd hM;refine wl rfl (cC hS Ql rfl rfl 0 rfl (yH _ _ (hS.drop 0).dlt em 3 _ _ (hS.boxRow 0 rfl) (hS.notin 0 rfl) (aE.lent (i:=0) rfl (hS.get 0 rfl)) (bC.keep (hS.get 4 rfl) (au _ _) (fun k hk=>.inl ((qb (i:=0) rfl k).1 hk))) _ ex) fun _ w hR hk=>?_);obtain⟨re,B,C,jc,he,c4,c5,c9,hrow,ca⟩:=hR;obtain rfl:=he.symm;refine⟨(bk d.2.2 jc),hrow,fun a hS=>?_⟩;replace hS:=(((hS.fS (aE.back (i:=0) rfl c4)).fS (aE.back (i:=0) rfl c5)).fS (aE.back (i:=0) rfl c9)).fS (aE.back (i:=0) rfl ca);refine ai hS fun a hS=>?_;refine ka hS mo fun A oi a w hk hS=>?_;refine go hS fun a w hS=>?_;obtain⟨c,eT,hM⟩:=bd hM;refine wl rfl (mG hS JB rfl rfl 1 rfl (nc _ _ (hS.drop 1).dlt (aX.mk d.2.2.L d.2.2.At) _ _ (hS.boxRow 1 rfl) (hS.notin 1 rfl) (aE.lent (i:=1) rfl (hS.get 0 rfl)) (bC.keep (hS.get 8 rfl) (au _ _) (fun k hk=>.inl ((qb (i:=1) rfl k).1 hk))) _ eT) fun _ w hR hk=>?_);obtain⟨g,M,js,he,⟨c0,bi,cb⟩,hrow,ch⟩:=hR;obtain rfl:=he.symm;refine⟨(bk c.2 js),[ba g M],hrow,ei ⟨c0,by decide⟩ bi,sP _,fun a hS=>?_⟩;replace hS:=(hS.fR (cb.keep (au _ _) (Nw.back2 (i:=1) rfl [ba g M] _))).fS (ch.sub (Nw.back2 (i:=1) rfl [ba g M] _));refine ai hS fun a hS=>?_;obtain⟨b,eX,hM⟩:=bd hM;refine wl rfl (mG hS JB rfl rfl 2 rfl (nc _ _ (hS.drop 2).dlt (aX.mk c.2.L c.2.At) _ _ (hS.boxRow 2 rfl) (hS.notin 2 rfl) (aE.lent (i:=2) rfl (hS.get 0 rfl)) (bC.keep (hS.get 10 rfl) (au _ _) (fun k hk=>.inl ((qb (i:=2) rfl k).1 hk))) _ eX) fun _ w hR hk=>?_);obtain⟨j,N,k0,he,⟨c1,bl,ck⟩,hrow,cl⟩:=hR;obtain rfl:=he.symm;refine⟨(bk b.2 k0),[ba j N],hrow,ei ⟨c1,by decide⟩ bl,sP _,fun a hS=>?_⟩;replace hS:=(hS.fR (ck.keep (au _ _) (Nw.back2 (i:=2) rfl [ba j N] _))).fS (cl.sub (Nw.back2 (i:=2) rfl [ba j N] _));refine ai hS fun a hS=>?_;obtain⟨f,h0,hM⟩:=bd hM;refine wl rfl (mG hS JB rfl rfl 3 rfl (nc _ _ (hS.drop 3).dlt (aX.mk b.2.L b.2.At) _ _ (hS.boxRow 3 rfl) (hS.notin 3 rfl) (aE.lent (i:=3) rfl (hS.get 0 rfl)) (bC.keep (hS.get 12 rfl) (au _ _) (fun k hk=>.inl ((qb (i:=3) rfl k).1 hk))) _ h0) fun _ w hR hk=>?_);obtain⟨l,Z,k2,he,⟨c2,bs,co⟩,hrow,cv⟩:=hR;obtain rfl:=he.symm;refine⟨(bk f.2 k2),[ba l Z],hrow,ei ⟨c2,by decide⟩ bs,sP _,fun a hS=>?_⟩;replace hS:=(hS.fR (co.keep (au _ _) (Nw.back2 (i:=3) rfl [ba l Z] _))).fS (cv.sub (Nw.back2 (i:=3) rfl [ba l Z] _));refine ai hS fun a hS=>?_;refine qy hS (bq (ps:=[(0,.const (.string ⟨#[48]⟩)),(1,.tmp 77)]) hS Kn Bm rfl (us:=[[aO (ByteArray.mk #[48])],[g]]) ⟨rfl,⟨(ft (gv (hS.own _ (a6 (i:=2) rfl)).1)),trivial⟩⟩ (ws:=[aO (ByteArray.mk #[48]),g]) rfl) fun a hS=>?_;refine ai hS fun a hS=>?_;refine qy hS (bq (ps:=[(0,.const (.string ⟨#[120]⟩)),(1,.tmp 79)]) hS Kn Bm rfl (us:=[[aO (ByteArray.mk #[120])],[j]]) ⟨rfl,⟨(ft (gv (hS.own _ (a6 (i:=1) rfl)).1)),trivial⟩⟩ (ws:=[aO (ByteArray.mk #[120]),j]) rfl) fun a hS=>?_;refine ai hS fun a hS=>?_;refine wl rfl (a8 (ps:=[(0,.const (.string ⟨#[121]⟩)),(1,.const (.string ⟨#[120]⟩)),(2,.const (.string ⟨#[]⟩))]) hS xV Ng (zl:=[aO bI,aO bI,aO bI]) (by kernel_rfl) rfl (us:=[[aO (ByteArray.mk #[121])],[aO (ByteArray.mk #[120])],[aO bI]]) ⟨rfl,⟨rfl,⟨rfl,trivial⟩⟩⟩ (ws:=[aO (ByteArray.mk #[121]),aO (ByteArray.mk #[120]),aO bI]) rfl rfl rfl rfl fun l2 a w hk hS=>?_);replace hS:=(hS.lit (R:=aY.str) (us:=[aO (ByteArray.mk #[121]),aO (ByteArray.mk #[120]),aO bI]) (xs:=[(ByteArray.mk #[121]),(ByteArray.mk #[120]),bI]) 0 rfl (by decide) ((aA.one_ (R:=aY.str) (x:=(ByteArray.mk #[121])) rfl).append ((aA.one_ (R:=aY.str) (x:=(ByteArray.mk #[120])) rfl).append (aA.one_ (R:=aY.str) (x:=bI) rfl))) rfl rfl).freeze (R:=aY.str) 0 rfl 0 rfl;obtain⟨e,h1,hM⟩:=bd hM;refine wl rfl (cC hS LA rfl rfl 4 rfl (uG _ _ (hS.drop 4).dlt (aX.mk f.2.L f.2.At) ([(ByteArray.mk #[121]),(ByteArray.mk #[120]),bI]) _ _ _ (hS.boxRow 4 rfl) (hS.notin 4 rfl) (aE.lent (i:=4) rfl (hS.get 2 rfl)) (aE.lent (i:=4) rfl (hS.get 0 rfl)) _ h1) fun _ w hR hk=>?_);obtain⟨k3,he,hrow,d0⟩:=hR;obtain rfl:=he.symm;refine⟨(bk e.2 k3),hrow,fun a hS=>?_⟩;replace hS:=hS.fS (aE.back (i:=4) rfl d0);refine ai hS fun a hS=>?_;refine qy hS (bq (ps:=[(0,.tmp 83),(1,.tmp 84)]) hS Kn Bm rfl (us:=[[aO e.1],[l]]) ⟨rfl,⟨(ft (gv (hS.own _ (a6 (i:=0) rfl)).1)),trivial⟩⟩ (ws:=[aO e.1,l]) rfl) fun a hS=>?_;refine wl rfl (a8 (ps:=[(0,.tmp 78),(1,.tmp 80),(2,.tmp 85)]) hS L6 Bm (zl:=[aO bI,.slice none 0 0,aO bI,.slice none 0 0,aO bI,.slice none 0 0]) (by kernel_rfl) rfl (us:=[[aO (ByteArray.mk #[48]),g],[aO (ByteArray.mk #[120]),j],[aO e.1,l]]) ⟨rfl,⟨rfl,⟨rfl,trivial⟩⟩⟩ (ws:=[aO (ByteArray.mk #[48]),g,aO (ByteArray.mk #[120]),j,aO e.1,l]) rfl rfl rfl rfl fun b0 a w hk hS=>?_);refine ai hS fun a hS=>?_;refine aK (J:=fun a w=>∃ (n:LC) (I:(List aG)) (p:Int) (af:Value) (a0:LV) (F:Value),St W0 No T 287 [(0,H),(15,pt A 0),(16,g),(17,j),(18,F),(19,af)] [DK af a0,.box A [al p,B,C] 31] [aR aU H m,aR ad g c.1,aR ad j b.1,aR ad F n,an aU a0 I,aR ae B d.2.1.Inputs,aR aa C d.2.1.Records,bC] a w∧bD m d c b n I p=some y) ?_ ?_
 ·skip;refine ai hS fun a hS=>?_;obtain⟨q4,h6,hM⟩:=bd hM;refine kc hS EB (nE _ _ hS.dlt E 8 _ h6) fun _ w hR a hk hA=>?_;obtain rfl:=hR;have hS:=bY hA;refine ai hS fun a hS=>?_;rcases cd hM with⟨hu,hM⟩|⟨hu,hM⟩
  ·refine ai hS fun a hS=>?_;replace hS:=((hS.freeze (R:=ad) 3 rfl 8 rfl).freeze (R:=ad) 2 rfl 7 rfl).freeze (R:=ad) 1 rfl 6 rfl;replace hS:=hS.lit (R:=aU) (us:=[aO (ByteArray.mk #[48]),g,aO (ByteArray.mk #[120]),j,aO e.1,l]) (xs:=[(aG.mk (ByteArray.mk #[48]) c.1),(aG.mk (ByteArray.mk #[120]) b.1),(aG.mk e.1 f.1)]) 0 rfl (by decide) ((aA.one_ (R:=aU) (x:=(aG.mk (ByteArray.mk #[48]) c.1)) (⟨_,rfl,(hS.get 2 rfl)⟩)).append ((aA.one_ (R:=aU) (x:=(aG.mk (ByteArray.mk #[120]) b.1)) (⟨_,rfl,(hS.get 1 rfl)⟩)).append (aA.one_ (R:=aU) (x:=(aG.mk e.1 f.1)) (⟨_,rfl,(hS.get 0 rfl)⟩)))) rfl rfl;exact⟨_,_,_,_,_,_,hS.mt [0,1] [18,3,2,19,0,15,14,21],hM⟩
  refine ai hS fun a hS=>?_;rcases cd hM with⟨hv,hM⟩|⟨hv,hM⟩
  ·refine ai hS fun a hS=>?_;obtain⟨ii,h7,hM⟩:=bd hM;refine kc hS EB (nE _ _ hS.dlt o 9 _ h7) fun _ w hR a hk hA=>?_;obtain rfl:=hR;have hS:=bY hA;obtain⟨u,h8,hM⟩:=bd hM;refine kc hS xO (dO _ _ hS.dlt (hS.get 17 rfl) ii _ h8) fun _ w hR a hk hA=>?_;obtain rfl:=hR;have hS:=bY hA;refine qy hS (bq (ps:=[(0,.tmp 97),(1,.const (.string ⟨#[52]⟩))]) hS uQ ir rfl (us:=[(aV u),[aO (ByteArray.mk #[52])]]) ⟨rfl,⟨rfl,trivial⟩⟩ (ws:=[al u.Kind,aO u.Text,aO (ByteArray.mk #[52])]) rfl) fun a hS=>?_;refine wl rfl (a8 (ps:=[(0,.tmp 98)]) hS qc ir (zl:=[al 0,aO bI,aO bI]) (by kernel_rfl) rfl (us:=[[al u.Kind,aO u.Text,aO (ByteArray.mk #[52])]]) ⟨rfl,trivial⟩ (ws:=[al u.Kind,aO u.Text,aO (ByteArray.mk #[52])]) rfl rfl rfl rfl fun la a w hk hS=>?_);replace hS:=(hS.lit (R:=ad) (us:=[al u.Kind,aO u.Text,aO (ByteArray.mk #[52])]) (xs:=[(am.mk u (ByteArray.mk #[52]))]) 0 rfl (by decide) (aA.one_ (R:=ad) (x:=(am.mk u (ByteArray.mk #[52]))) rfl) rfl rfl).freeze (R:=ad) 0 rfl 0 rfl;obtain⟨hw,hM⟩:=be hM;refine wl rfl (zW (R:=ad) (xs:=f.1) (ys:=[(am.mk u (ByteArray.mk #[52]))]) hS qc (by decide) (by decide) rfl rfl 1 rfl 6 rfl 0 rfl hw rfl fun rg m1 a w hk hS=>?_);refine ai hS fun a hS=>?_;replace hS:=(((hS.freeze (R:=ad) 3 rfl 12 rfl).freeze (R:=ad) 2 rfl 11 rfl).freeze (R:=ad) 1 rfl 3 rfl).pfxSl 3 rfl 0 rfl;replace hS:=hS.lit (R:=aU) (us:=[aO (ByteArray.mk #[48]),g,aO (ByteArray.mk #[120]),j,aO e.1,l]) (xs:=[(aG.mk (ByteArray.mk #[48]) c.1),(aG.mk (ByteArray.mk #[120]) b.1),(aG.mk e.1 f.1)]) 0 rfl (by decide) ((aA.one_ (R:=aU) (x:=(aG.mk (ByteArray.mk #[48]) c.1)) (⟨_,rfl,(hS.get 3 rfl)⟩)).append ((aA.one_ (R:=aU) (x:=(aG.mk (ByteArray.mk #[120]) b.1)) (⟨_,rfl,(hS.get 2 rfl)⟩)).append (aA.one_ (R:=aU) (x:=(aG.mk e.1 f.1)) (⟨_,rfl,(hS.get 0 rfl)⟩)))) rfl rfl;exact⟨_,_,_,_,_,_,hS.mt [0,1] [23,4,3,2,0,20,19,26],hM⟩
  refine ai hS fun a hS=>?_;rcases cd hM with⟨hx,hM⟩|⟨hx,hM⟩
  ·refine ai hS fun a hS=>?_;obtain⟨z,h9,hM⟩:=bd hM;refine kc hS xO (dO _ _ hS.dlt (hS.get 17 rfl) 9 _ h9) fun _ w hR a hk hA=>?_;obtain rfl:=hR;have hS:=bY hA;refine qy hS (bq (ps:=[(0,.tmp 104)]) hS uQ ir rfl (us:=[(aV z)]) ⟨rfl,trivial⟩ (ws:=[al z.Kind,aO z.Text,aO bI]) rfl) fun a hS=>?_;refine wl rfl (a8 (ps:=[(0,.tmp 105)]) hS qc ir (zl:=[al 0,aO bI,aO bI]) (by kernel_rfl) rfl (us:=[[al z.Kind,aO z.Text,aO bI]]) ⟨rfl,trivial⟩ (ws:=[al z.Kind,aO z.Text,aO bI]) rfl rfl rfl rfl fun lb a w hk hS=>?_);replace hS:=(hS.lit (R:=ad) (us:=[al z.Kind,aO z.Text,aO bI]) (xs:=[(am.mk z bI)]) 0 rfl (by decide) (aA.one_ (R:=ad) (x:=(am.mk z bI)) rfl) rfl rfl).freeze (R:=ad) 0 rfl 0 rfl;obtain⟨hy,hM⟩:=be hM;refine wl rfl (zW (R:=ad) (xs:=f.1) (ys:=[(am.mk z bI)]) hS qc (by decide) (by decide) rfl rfl 1 rfl 6 rfl 0 rfl hy rfl fun rl m2 a w hk hS=>?_);refine ai hS fun a hS=>?_;replace hS:=(((hS.freeze (R:=ad) 3 rfl 12 rfl).freeze (R:=ad) 2 rfl 11 rfl).freeze (R:=ad) 1 rfl 3 rfl).pfxSl 3 rfl 0 rfl;replace hS:=hS.lit (R:=aU) (us:=[aO (ByteArray.mk #[48]),g,aO (ByteArray.mk #[120]),j,aO e.1,l]) (xs:=[(aG.mk (ByteArray.mk #[48]) c.1),(aG.mk (ByteArray.mk #[120]) b.1),(aG.mk e.1 f.1)]) 0 rfl (by decide) ((aA.one_ (R:=aU) (x:=(aG.mk (ByteArray.mk #[48]) c.1)) (⟨_,rfl,(hS.get 3 rfl)⟩)).append ((aA.one_ (R:=aU) (x:=(aG.mk (ByteArray.mk #[120]) b.1)) (⟨_,rfl,(hS.get 2 rfl)⟩)).append (aA.one_ (R:=aU) (x:=(aG.mk e.1 f.1)) (⟨_,rfl,(hS.get 0 rfl)⟩)))) rfl rfl;exact⟨_,_,_,_,_,_,hS.mt [0,1] [23,4,3,2,0,20,19,26],hM⟩
  refine ai hS fun a hS=>?_;rcases cd hM with⟨hz,hM⟩|⟨hz,hM⟩
  ·refine ai hS fun a hS=>?_;replace hS:=hS.pfxId ad l f.1;obtain⟨r1,Y,hMo1⟩:=bd hM;refine bF _ (fun s a w=>∃ (D:LC) (O:Int) (X:Value) (a1:LV),(D,O)=s∧St W0 No T 287 [(0,H),(4,al o),(15,pt A 0),(16,g),(17,j),(18,X),(19,.slice (some ⟨b0,0,none⟩) 3 3),(20,al O)] [ba g M,ba j N,ba X a1,.box A (bf d.2.1 B C) 31,.box b0 [aO (ByteArray.mk #[48]),g,aO (ByteArray.mk #[120]),j,aO e.1,l] 51] [aR aU H m,an ad M c.1,an ad N b.1,an ad a1 D,aR ae B d.2.1.Inputs,aR aa C d.2.1.Records,zf ad l f.1 X D,bC] a w) Y ⟨_,_,_,_,rfl,hS.mt [3,2,1,4,0] [15,9,7,5,12,11,0,18]⟩ ?_;rintro s a w f1 ⟨D,O,X,a1,rfl,hS⟩ hM hf1;have hM:jl o d c b f e D O=some f1:=hM;unfold jl at hM;refine aD ?_;refine iY ?_;refine ai hS fun a hS=>?_;obtain⟨q2,h2,hM⟩:=bd hM;refine kc hS EB (nE _ _ hS.dlt o 4 _ h2) fun _ w hR a hk hA=>?_;obtain rfl:=hR;have hS:=bY hA;refine ai hS fun a hS=>?_;rcases cd hM with⟨hB,hM⟩|⟨hB,hM⟩
   ·refine ai hS fun a hS=>?_;rcases cd hM with⟨hC,hM⟩|⟨hC,hM⟩
    ·refine ai hS fun a hS=>?_;refine aD ?_;refine ai hS fun a hS=>?_;obtain⟨t,h3,hM⟩:=bd hM;refine kc hS xO (dO _ _ hS.dlt (hS.get 7 rfl) O _ h3) fun _ w hR a hk hA=>?_;obtain rfl:=hR;have hS:=bY hA;refine qy hS (bq (ps:=[(0,.tmp 124),(1,.const (.string ⟨#[52]⟩))]) hS uQ ir rfl (us:=[(aV t),[aO (ByteArray.mk #[52])]]) ⟨rfl,⟨rfl,trivial⟩⟩ (ws:=[al t.Kind,aO t.Text,aO (ByteArray.mk #[52])]) rfl) fun a hS=>?_;refine wl rfl (a8 (ps:=[(0,.tmp 125)]) hS qc ir (zl:=[al 0,aO bI,aO bI]) (by kernel_rfl) rfl (us:=[[al t.Kind,aO t.Text,aO (ByteArray.mk #[52])]]) ⟨rfl,trivial⟩ (ws:=[al t.Kind,aO t.Text,aO (ByteArray.mk #[52])]) rfl rfl rfl rfl fun le a w hk hS=>?_);replace hS:=(hS.lit (R:=ad) (us:=[al t.Kind,aO t.Text,aO (ByteArray.mk #[52])]) (xs:=[(am.mk t (ByteArray.mk #[52]))]) 0 rfl (by decide) (aA.one_ (R:=ad) (x:=(am.mk t (ByteArray.mk #[52]))) rfl) rfl rfl).freeze (R:=ad) 0 rfl 0 rfl;obtain⟨hD,hM⟩:=be hM;refine wl rfl (zW (R:=ad) (xs:=D) (ys:=[(am.mk t (ByteArray.mk #[52]))]) hS qc (by decide) (by decide) rfl rfl 2 rfl 5 rfl 0 rfl hD rfl fun rm m3 a w hk hS=>?_);replace hS:=hS.pfxTr 10 rfl 0 rfl;exact fz
    refine ai hS fun a hS=>?_;replace hS:=(((hS.freeze (R:=ad) 0 rfl 1 rfl).freeze (R:=ad) 0 rfl 3 rfl).freeze (R:=ad) 0 rfl 5 rfl).pfxSl 9 rfl 0 rfl;replace hS:=hS.lit (R:=aU) (us:=[aO (ByteArray.mk #[48]),g,aO (ByteArray.mk #[120]),j,aO e.1,l]) (xs:=[(aG.mk (ByteArray.mk #[48]) c.1),(aG.mk (ByteArray.mk #[120]) b.1),(aG.mk e.1 f.1)]) 1 rfl (by decide) ((aA.one_ (R:=aU) (x:=(aG.mk (ByteArray.mk #[48]) c.1)) (⟨_,rfl,(hS.get 3 rfl)⟩)).append ((aA.one_ (R:=aU) (x:=(aG.mk (ByteArray.mk #[120]) b.1)) (⟨_,rfl,(hS.get 2 rfl)⟩)).append (aA.one_ (R:=aU) (x:=(aG.mk e.1 f.1)) (⟨_,rfl,(hS.get 0 rfl)⟩)))) rfl rfl;cases hM
    have hr:=hf1 _ rfl;subst hr;have hM:bD m d c b D ([(aG.mk (ByteArray.mk #[48]) c.1),(aG.mk (ByteArray.mk #[120]) b.1),(aG.mk e.1 f.1)]) d.2.1.Revision=some y:=hMo1;exact⟨_,_,_,_,_,_,hS.mt [1,0] [5,4,3,2,0,9,10,12],hM⟩
   refine ai hS fun a hS=>?_;replace hS:=(((hS.freeze (R:=ad) 0 rfl 1 rfl).freeze (R:=ad) 0 rfl 3 rfl).freeze (R:=ad) 0 rfl 5 rfl).pfxSl 9 rfl 0 rfl;replace hS:=hS.lit (R:=aU) (us:=[aO (ByteArray.mk #[48]),g,aO (ByteArray.mk #[120]),j,aO e.1,l]) (xs:=[(aG.mk (ByteArray.mk #[48]) c.1),(aG.mk (ByteArray.mk #[120]) b.1),(aG.mk e.1 f.1)]) 1 rfl (by decide) ((aA.one_ (R:=aU) (x:=(aG.mk (ByteArray.mk #[48]) c.1)) (⟨_,rfl,(hS.get 3 rfl)⟩)).append ((aA.one_ (R:=aU) (x:=(aG.mk (ByteArray.mk #[120]) b.1)) (⟨_,rfl,(hS.get 2 rfl)⟩)).append (aA.one_ (R:=aU) (x:=(aG.mk e.1 f.1)) (⟨_,rfl,(hS.get 0 rfl)⟩)))) rfl rfl;cases hM
   have hr:=hf1 _ rfl;subst hr;have hM:bD m d c b D ([(aG.mk (ByteArray.mk #[48]) c.1),(aG.mk (ByteArray.mk #[120]) b.1),(aG.mk e.1 f.1)]) d.2.1.Revision=some y:=hMo1;exact⟨_,_,_,_,_,_,hS.mt [1,0] [5,4,3,2,0,9,10,12],hM⟩
  refine ai hS fun a hS=>?_;rcases cd hM with⟨hE,hM⟩|⟨hE,hM⟩
  ·refine ai hS fun a hS=>?_;replace hS:=((hS.freeze (R:=ad) 3 rfl 8 rfl).freeze (R:=ad) 2 rfl 7 rfl).freeze (R:=ad) 1 rfl 6 rfl;replace hS:=hS.lit (R:=aU) (us:=[aO (ByteArray.mk #[48]),g,aO (ByteArray.mk #[120]),j,aO e.1,l]) (xs:=[(aG.mk (ByteArray.mk #[48]) c.1),(aG.mk (ByteArray.mk #[120]) b.1),(aG.mk e.1 f.1)]) 0 rfl (by decide) ((aA.one_ (R:=aU) (x:=(aG.mk (ByteArray.mk #[48]) c.1)) (⟨_,rfl,(hS.get 2 rfl)⟩)).append ((aA.one_ (R:=aU) (x:=(aG.mk (ByteArray.mk #[120]) b.1)) (⟨_,rfl,(hS.get 1 rfl)⟩)).append (aA.one_ (R:=aU) (x:=(aG.mk e.1 f.1)) (⟨_,rfl,(hS.get 0 rfl)⟩)))) rfl rfl;obtain⟨r1,Y,hMo1⟩:=bd hM;refine bF _ (fun s a w=>∃ (K:(List aG)) (q:Int) (ag:Value) (a2:LV),(K,q)=s∧St W0 No T 287 [(0,H),(4,al o),(15,pt A 0),(16,g),(17,j),(18,l),(19,ag),(130,al q)] [DK ag a2,.box A (bf d.2.1 B C) 31] [aR aU H m,aR ad g c.1,aR ad j b.1,aR ad l f.1,an aU a2 K,aR ae B d.2.1.Inputs,aR aa C d.2.1.Records,bC] a w) Y ⟨_,_,_,_,rfl,hS.mt [0,1] [18,3,2,1,0,15,14,21]⟩ ?_;rintro s a w f1 ⟨K,q,ag,a2,rfl,hS⟩ hM hf1;have hM:jm o d f K q=some f1:=hM;unfold jm at hM;refine ai hS fun a hS=>?_;refine aD ?_;rcases cd hM with⟨hF,hM⟩|⟨hF,hM⟩
   ·refine ai hS fun a hS=>?_;refine aD ?_;refine ai hS fun a hS=>?_;obtain⟨q3,h4,hM⟩:=bd hM;refine kc hS EB (nE _ _ hS.dlt o 2 _ h4) fun _ w hR a hk hA=>?_;obtain rfl:=hR;have hS:=bY hA;refine ai hS fun a hS=>?_;refine qy hS (I9 hS rfl rfl) fun a hS=>?_;obtain⟨i4,et,hM⟩:=bd hM;refine wl rfl (H3 (R:=aU) (k1:=.i64) hS Bk Bl rfl (.inr ⟨rfl,rfl⟩) (.inl ⟨_,rfl,rfl⟩) 0 rfl 4 rfl et rfl fun rr m4 a hS=>?_);refine ai hS fun a hS=>?_;refine qy hS (Nf hS rfl Tryz.underlying21 Tryz.underlying9) fun a hS=>?_;obtain⟨hG,hM⟩:=be hM;refine qy hS (OP hS rfl rfl (o4 hG)) fun a hS=>?_;refine qy hS (bq (ps:=[(0,.tmp 145)]) hS Kn Bm rfl (us:=[[aO ((ByteArray.mk #[98])++(Go.Utf8.encode (IntKind.i32.wrap (IntKind.i64.wrap (97+q)))))]]) ⟨rfl,trivial⟩ (ws:=[aO ((ByteArray.mk #[98])++(Go.Utf8.encode (IntKind.i32.wrap (IntKind.i64.wrap (97+q))))),.slice none 0 0]) rfl) fun a hS=>?_;refine wl rfl (a8 (ps:=[(0,.tmp 146)]) hS L6 Bm (zl:=[aO bI,.slice none 0 0]) (by kernel_rfl) rfl (us:=[[aO ((ByteArray.mk #[98])++(Go.Utf8.encode (IntKind.i32.wrap (IntKind.i64.wrap (97+q))))),.slice none 0 0]]) ⟨rfl,trivial⟩ (ws:=[aO ((ByteArray.mk #[98])++(Go.Utf8.encode (IntKind.i32.wrap (IntKind.i64.wrap (97+q))))),.slice none 0 0]) rfl rfl rfl rfl fun ll a w hk hS=>?_);replace hS:=(hS.lit (R:=aU) (us:=[aO ((ByteArray.mk #[98])++(Go.Utf8.encode (IntKind.i32.wrap (IntKind.i64.wrap (97+q))))),.slice none 0 0]) (xs:=[(aG.mk ((ByteArray.mk #[98])++(Go.Utf8.encode (IntKind.i32.wrap (IntKind.i64.wrap (97+q))))) ([]))]) 0 rfl (by decide) (aA.one_ (R:=aU) (x:=(aG.mk ((ByteArray.mk #[98])++(Go.Utf8.encode (IntKind.i32.wrap (IntKind.i64.wrap (97+q))))) ([]))) (⟨_,rfl,aE.nil_ _ _ _⟩)) rfl rfl).freeze (R:=aU) 0 rfl 0 rfl;obtain⟨hH,hM⟩:=be hM;refine wl rfl (bM (R:=aU) (xs:=i4) (ys:=[(aG.mk ((ByteArray.mk #[98])++(Go.Utf8.encode (IntKind.i32.wrap (IntKind.i64.wrap (97+q))))) ([]))]) hS L6 (by decide) (by decide) rfl rfl 0 rfl 2 rfl 0 rfl hH rfl fun rs md a w hk hS=>?_);exact fz
   refine ai hS fun a hS=>?_;cases hM
   have hr:=hf1 _ rfl;subst hr;have hM:bD m d c b f.1 K d.2.1.Revision=some y:=hMo1;exact⟨_,_,_,_,_,_,hS.mt [0,1] [0,1,2,3,4,5,6,7],hM⟩
  refine ai hS fun a hS=>?_;rcases cd hM with⟨hI,hM⟩|⟨hI,hM⟩
  ·refine ai hS fun a hS=>?_;obtain⟨eq,ha,hM⟩:=bd hM;refine kc hS EB (nE _ _ hS.dlt o 3 _ ha) fun _ w hR a hk hA=>?_;obtain rfl:=hR;have hS:=bY hA;refine ai hS fun a hS=>?_;obtain⟨hJ,hM⟩:=be hM;obtain⟨hK,hM⟩:=be hM;refine wl rfl (MK (R:=(aY.int .u8)) (z0:=(0:Int)) hS PM Rk (by decide) rfl rfl hJ hK rfl rfl fun rt ms a w hk hS=>?_);refine qy hS (M8 hS rfl Tryz.underlying55 Tryz.underlying5 Tryz.underlying9 0 rfl 0 rfl (fun _ _ h=>h)) fun a hS=>?_;replace hS:=((hS.freeze (R:=ad) 4 rfl 9 rfl).freeze (R:=ad) 3 rfl 8 rfl).freeze (R:=ad) 2 rfl 7 rfl;replace hS:=hS.lit (R:=aU) (us:=[aO (ByteArray.mk #[48]),g,aO (ByteArray.mk #[120]),j,aO e.1,l]) (xs:=[(aG.mk (ByteArray.mk #[48]) c.1),(aG.mk (ByteArray.mk #[120]) b.1),(aG.mk e.1 f.1)]) 1 rfl (by decide) ((aA.one_ (R:=aU) (x:=(aG.mk (ByteArray.mk #[48]) c.1)) (⟨_,rfl,(hS.get 2 rfl)⟩)).append ((aA.one_ (R:=aU) (x:=(aG.mk (ByteArray.mk #[120]) b.1)) (⟨_,rfl,(hS.get 1 rfl)⟩)).append (aA.one_ (R:=aU) (x:=(aG.mk e.1 f.1)) (⟨_,rfl,(hS.get 0 rfl)⟩)))) rfl rfl;obtain⟨b1,ak,hM⟩:=bd hM;refine wl rfl (dj (R:=aU) hS Bk Bl rfl rfl 1 rfl 0 rfl ak rfl fun ls os p0 n0 hN hP hV a hS=>?_);obtain⟨k4,rfl,hm⟩:=hN;replace hS:=hS.fS hm;refine ai hS fun a hS=>?_;refine wl rfl (qe (R:=aU) (k:=0) (cs:=(su b1 k4)) (us:=[aO (E2 (List.replicate (Int.toNat (IntKind.i64.wrap (39+eq))) (0:Int)))]) (x':=(aG.mk (E2 (List.replicate (Int.toNat (IntKind.i64.wrap (39+eq))) (0:Int))) b1.Inputs)) hS rfl rfl rfl Ji 1 rfl 1 rfl hP hV ak (⟨_,rfl,(hS.get 0 rfl)⟩) rfl rfl (⟨_,rfl,(hS.get 0 rfl)⟩) fun n1 w hk hS=>?_);exact fz
  refine ai hS fun a hS=>?_;rcases cd hM with⟨hW,hM⟩|⟨hW,hM⟩
  ·refine ai hS fun a hS=>?_;refine dr [(6,.blk (some A))] hS fun w hQ hS=>?_;refine gE [0,1,2] hS fun a hS=>?_;obtain⟨q5,hb,hM⟩:=bd hM;refine ec 3 hS EB (nE _ _ hS.dlt o 2 _ hb) fun _ w hR a hk hA=>?_;obtain rfl:=hR;have hS:=bY hA;refine gE [4,5] hS fun a hS=>?_;refine es 6 hS fun w hS=>?_;refine eD ?_;replace hS:=((hS.freeze (R:=ad) 3 rfl 8 rfl).freeze (R:=ad) 2 rfl 7 rfl).freeze (R:=ad) 1 rfl 6 rfl;replace hS:=hS.lit (R:=aU) (us:=[aO (ByteArray.mk #[48]),g,aO (ByteArray.mk #[120]),j,aO e.1,l]) (xs:=[(aG.mk (ByteArray.mk #[48]) c.1),(aG.mk (ByteArray.mk #[120]) b.1),(aG.mk e.1 f.1)]) 0 rfl (by decide) ((aA.one_ (R:=aU) (x:=(aG.mk (ByteArray.mk #[48]) c.1)) (⟨_,rfl,(hS.get 2 rfl)⟩)).append ((aA.one_ (R:=aU) (x:=(aG.mk (ByteArray.mk #[120]) b.1)) (⟨_,rfl,(hS.get 1 rfl)⟩)).append (aA.one_ (R:=aU) (x:=(aG.mk e.1 f.1)) (⟨_,rfl,(hS.get 0 rfl)⟩)))) rfl rfl;exact⟨_,_,_,_,_,_,hS.mt [0,1] [18,3,2,1,0,15,14,21],hM⟩
  refine ai hS fun a hS=>?_;replace hS:=((hS.freeze (R:=ad) 3 rfl 8 rfl).freeze (R:=ad) 2 rfl 7 rfl).freeze (R:=ad) 1 rfl 6 rfl;replace hS:=hS.lit (R:=aU) (us:=[aO (ByteArray.mk #[48]),g,aO (ByteArray.mk #[120]),j,aO e.1,l]) (xs:=[(aG.mk (ByteArray.mk #[48]) c.1),(aG.mk (ByteArray.mk #[120]) b.1),(aG.mk e.1 f.1)]) 0 rfl (by decide) ((aA.one_ (R:=aU) (x:=(aG.mk (ByteArray.mk #[48]) c.1)) (⟨_,rfl,(hS.get 2 rfl)⟩)).append ((aA.one_ (R:=aU) (x:=(aG.mk (ByteArray.mk #[120]) b.1)) (⟨_,rfl,(hS.get 1 rfl)⟩)).append (aA.one_ (R:=aU) (x:=(aG.mk e.1 f.1)) (⟨_,rfl,(hS.get 0 rfl)⟩)))) rfl rfl;exact⟨_,_,_,_,_,_,hS.mt [0,1] [18,3,2,1,0,15,14,21],hM⟩
 rintro a w ⟨n,I,p,af,a0,F,hS,hM⟩;unfold bD at hM;refine aD ?_;refine iY ?_;refine ai hS fun a hS=>?_;have hL:=hS;replace hL:=hL.freeze (R:=aU) 0 rfl 4 rfl;obtain⟨pf,g6,hM⟩:=bd hM;refine kc hS N0 (uD _ _ hL.dlt (hL.get 8 rfl) I _ (hL.get 0 rfl) _ g6) fun _ w hR a hk hA=>?_;obtain rfl:=hR;have hS:=bY hA;refine ai hS fun a hS=>?_;have hL:=hS;replace hL:=hL.freeze (R:=aU) 0 rfl 4 rfl;obtain⟨pk,g7,hM⟩:=bd hM;refine kc hS N2 (wa _ _ hL.dlt (hL.get 8 rfl) I _ (hL.get 0 rfl) _ g7) fun _ w hR a hk hA=>?_;obtain rfl:=hR;have hS:=bY hA;refine qy hS (CR hS rfl rfl Tryz.underlying4 (.inr ⟨rfl,rfl⟩)) fun a hS=>?_;refine ai hS fun a hS=>?_;rcases cd hM with⟨U,hM⟩|⟨U,hM⟩
 ·exact fz
 refine ai hS fun a hS=>?_;obtain⟨pl,g8,hM⟩:=bd hM;refine wg hS rfl rfl rfl U (bg hS N0 rfl rfl (uD _ _ hS.dlt (hS.get 7 rfl) m _ (hS.get 0 rfl) _ g8) fun _ w hR a hk hA=>?_);obtain rfl:=hR;have hS:=bY hA;refine ai hS fun a hS=>?_;obtain⟨pw,gb,hM⟩:=bd hM;refine wg hS rfl rfl rfl U (bg hS N2 rfl rfl (wa _ _ hS.dlt (hS.get 7 rfl) m _ (hS.get 0 rfl) _ gb) fun _ w hR a hk hA=>?_);obtain rfl:=hR;have hS:=bY hA;refine qg hS U (CR hS rfl rfl Tryz.underlying4 (.inr ⟨rfl,rfl⟩)) fun a hS=>?_;refine ai hS fun a hS=>?_;rcases cd hM with⟨hX,hM⟩|⟨hX,hM⟩
 ·exact fz
 refine ai hS fun a hS=>?_;refine aD ?_;refine aK (J:=fun a w=>∃ (a5:Bool),St W0 No T 287 [(15,pt A 0),(16,g),(17,j),(18,F),(189,.bool a5)] [.box A [al p,B,C] 31] [aR ad g c.1,aR ad j b.1,aR ad F n,aR ae B d.2.1.Inputs,aR aa C d.2.1.Records,bC] a w∧eW d c b n p a5=some y) ?_ ?_
 ·skip;refine dr [] hS fun w hQ hS=>?_;refine gE [0] hS fun a hS=>?_;obtain⟨q0,gi,hM⟩:=bd hM;refine ec 1 hS HA (mQ _ _ hS.dlt (hS.get 7 rfl) (aj.mk p d.2.1.Inputs d.2.1.Records) _ _ (hS.get 5 rfl) (hS.get 6 rfl) _ gi) fun _ w hR a hk hA=>?_;obtain rfl:=hR;have hS:=bY hA;refine gE [2] hS fun a hS=>?_;rcases cd hM with⟨V,hM⟩|⟨V,hM⟩
  ·refine gE [3,5] hS fun a hS=>?_;obtain⟨ib,gp,hM⟩:=bd hM;refine cI (i:=4) rfl (by kernel_rfl) hS rfl rfl rfl V (bg hS Nh rfl rfl (iD _ _ hS.dlt (aj.mk p d.2.1.Inputs d.2.1.Records) _ _ (hS.get 5 rfl) (hS.get 6 rfl) _ gp) fun _ w hR a hk hA=>⟨gf (hk),?_⟩);obtain⟨rv,n2,he,d1⟩:=hR;obtain rfl:=he.symm;have hS:=qD hA d1;obtain⟨ih,gs,hM⟩:=bd hM;refine cI (i:=6) rfl (by kernel_rfl) hS rfl rfl rfl V (bg hS N3 rfl rfl (u3 _ _ hS.dlt (aj.mk p d.2.1.Inputs d.2.1.Records) _ _ (hS.get 6 rfl) (hS.get 7 rfl) _ gs) fun _ w hR a hk hA=>⟨gf (hk),?_⟩);obtain⟨s0,n5,he,d2⟩:=hR;obtain rfl:=he.symm;have hS:=qD hA d2;have hL:=hS;replace hL:=hL.freeze (R:=ad) 1 rfl 1 rfl;replace hL:=hL.freeze (R:=ad) 0 rfl 1 rfl;obtain⟨q1,gu,hM⟩:=bd hM;refine cI (i:=7) rfl (by kernel_rfl) hS rfl rfl rfl V (bg hS EA rfl rfl (kz _ _ hL.dlt ib ih _ _ (hL.get 1 rfl) (hL.get 0 rfl) _ gu) fun _ w hR a hk hA=>⟨gf (hk),?_⟩);obtain rfl:=hR;have hS:=bY hA;refine gE [8,9] hS fun a hS=>?_;refine eD ?_;exact⟨_,hS.mt [3] [3,4,5,7,8,9],hM⟩
  refine gE [3,4,5,6,7,8,9] hS fun a hS=>?_;refine eD ?_;exact⟨_,hS.mt [1] [1,2,3,5,6,7],hM⟩
 rintro a w ⟨a5,hS,hM⟩;unfold eW at hM;rcases cd hM with⟨hY,hM⟩|⟨hY,hM⟩
 ·exact fz
 refine ai hS fun a hS=>?_;refine aD ?_;refine aK (J:=fun a w=>∃ (a4:Bool),St W0 No T 287 [(15,pt A 0),(16,g),(17,j),(18,F),(201,.bool a4)] [.box A [al p,B,C] 31] [aR ad g c.1,aR ad j b.1,aR ad F n,aR ae B d.2.1.Inputs,aR aa C d.2.1.Records,bC] a w∧eV d c b n p a4=some y) ?_ ?_
 ·skip;refine ai hS fun a hS=>?_;obtain⟨p7,g2,hM⟩:=bd hM;refine kc hS Gv (gQ _ _ hS.dlt (hS.get 5 rfl) n _ (hS.get 2 rfl) _ g2) fun _ w hR a hk hA=>?_;obtain rfl:=hR;have hS:=bY hA;refine ai hS fun a hS=>?_;rcases cd hM with⟨W,hM⟩|⟨W,hM⟩
  ·refine ai hS fun a hS=>?_;obtain⟨i5,g3,hM⟩:=bd hM;refine wg hS rfl rfl rfl W (bg hS Df rfl rfl (gA _ _ hS.dlt (hS.get 5 rfl) b.1 n _ _ (hS.get 1 rfl) (hS.get 2 rfl) _ g3) fun _ w hR a hk hA=>?_);obtain⟨s1,n6,he,d3⟩:=hR;obtain rfl:=he.symm;have hS:=qD hA d3;refine ai hS fun a hS=>?_;obtain⟨i9,g4,hM⟩:=bd hM;refine wg hS rfl rfl rfl W (bg hS N4 rfl rfl (xq _ _ hS.dlt (hS.get 6 rfl) b.1 n _ _ (hS.get 2 rfl) (hS.get 3 rfl) _ g4) fun _ w hR a hk hA=>?_);obtain⟨s2,nd,he,d4⟩:=hR;obtain rfl:=he.symm;have hS:=qD hA d4;have hL:=hS;replace hL:=hL.freeze (R:=ad) 1 rfl 1 rfl;replace hL:=hL.freeze (R:=ad) 0 rfl 1 rfl;obtain⟨pe,g5,hM⟩:=bd hM;refine wg hS rfl rfl rfl W (bg hS EA rfl rfl (kz _ _ hL.dlt i5 i9 _ _ (hL.get 1 rfl) (hL.get 0 rfl) _ g5) fun _ w hR a hk hA=>?_);obtain rfl:=hR;have hS:=bY hA;exact fz
  exact fz
 rintro a w ⟨a4,hS,hM⟩;unfold eV at hM;rcases cd hM with⟨i0,hM⟩|⟨i0,hM⟩
 ·exact fz
 refine ai hS fun a hS=>?_;obtain⟨a9,f2,hM⟩:=bd hM;refine kc hS JC (m8 _ _ hS.dlt (hS.get 5 rfl) (aj.mk p d.2.1.Inputs d.2.1.Records) n _ _ _ (hS.get 3 rfl) (hS.get 4 rfl) (hS.get 2 rfl) _ f2) fun _ w hR a hk hA=>?_;obtain⟨sb,ng,sc,nl,he,d6,da,G⟩:=hR;obtain rfl:=he.symm;have hS:=uw hA d6 da G;refine ai hS fun a hS=>?_;refine ka hS mo fun lt oj a w hk hS=>?_;refine go hS fun a w hS=>?_;obtain⟨ab,f3,hM⟩:=bd hM;refine kc hS O9 (Ak _ _ hS.dlt (hS.get 7 rfl) (aj.mk p d.2.1.Inputs d.2.1.Records) n _ _ _ (hS.get 5 rfl) (hS.get 6 rfl) (hS.get 4 rfl) _ f3) fun _ w hR a hk hA=>?_;obtain⟨sk,sl,he,dc,dk⟩:=hR;obtain rfl:=he.symm;have hS:=hA [] (fun r hr=>by cases hr) tD;replace hS:=(hS.fS (dc.sub (iB _))).fS (dk.sub (iB _));refine ai hS fun a hS=>?_;refine ka hS mo fun lv ok a w hk hS=>?_;refine go hS fun a w hS=>?_;obtain⟨ed,f4,hM⟩:=bd hM;refine kc hS LD (rE _ _ hS.dlt (hS.get 9 rfl) c.1 b.1 n _ _ _ (hS.get 4 rfl) (hS.get 5 rfl) (hS.get 6 rfl) _ f4) fun _ w hR a hk hA=>?_;obtain⟨sn,nm,sp,no,he,dl,ds,G⟩:=hR;obtain rfl:=he.symm;have hS:=uw hA dl ds G;refine ai hS fun a hS=>?_;obtain⟨eg,f6,hM⟩:=bd hM;refine kc hS N5 (vZ _ _ hS.dlt (hS.get 11 rfl) c.1 b.1 n _ _ _ (hS.get 6 rfl) (hS.get 7 rfl) (hS.get 8 rfl) _ f6) fun _ w hR a hk hA=>?_;obtain⟨sq,np,st,ns,he,e2,e3,G⟩:=hR;obtain rfl:=he.symm;have hS:=uw hA e2 e3 G;refine ai hS fun a hS=>?_;obtain⟨ek,fd,hM⟩:=bd hM;refine kc hS LD (rE _ _ hS.dlt (hS.get 13 rfl) n b.1 c.1 _ _ _ (hS.get 10 rfl) (hS.get 9 rfl) (hS.get 8 rfl) _ fd) fun _ w hR a hk hA=>?_;obtain⟨sy,ny,sz,o1,he,e4,e5,G⟩:=hR;obtain rfl:=he.symm;have hS:=uw hA e4 e5 G;refine ai hS fun a hS=>?_;obtain⟨el,fl,hM⟩:=bd hM;refine kc hS N5 (vZ _ _ hS.dlt (hS.get 15 rfl) n b.1 c.1 _ _ _ (hS.get 12 rfl) (hS.get 11 rfl) (hS.get 10 rfl) _ fl) fun _ w hR a hk hA=>?_;obtain⟨sT,o2,t0,o3,he,e8,ea,G⟩:=hR;obtain rfl:=he.symm;have hS:=uw hA e8 ea G;refine ai hS fun a hS=>?_;refine aK (J:=fun a w=>∃ (a3:Bool),St W0 No T 287 [(10,.bool a3)] [] [bC] a w∧cu a3=some y) ?_ ?_
 ·skip;refine ai hS fun a hS=>?_;have hL:=hS;replace hL:=hL.freeze (R:=ae) 10 rfl 11 rfl;replace hL:=hL.freeze (R:=aa) 10 rfl 11 rfl;obtain⟨p1,fn,hM⟩:=bd hM;refine kc hS NI (xj _ _ hL.dlt (aj.mk a9.1.Revision a9.1.Inputs a9.1.Records) (aj.mk ab.1.Revision ab.1.Inputs ab.1.Records) _ _ _ _ (hL.get 1 rfl) (hL.get 0 rfl) (hL.get 11 rfl) (hL.get 10 rfl) _ fn) fun _ w hR a hk hA=>?_;obtain rfl:=hR;have hS:=bY hA;refine ai hS fun a hS=>?_;rcases cd hM with⟨i1,hM⟩|⟨i1,hM⟩
  ·refine ai hS fun a hS=>?_;rcases cd hM with⟨b5,hM⟩|⟨b5,hM⟩
   ·refine ai hS fun a hS=>?_;have hL:=hS;replace hL:=hL.freeze (R:=ad) 6 rfl 7 rfl;replace hL:=hL.freeze (R:=ad) 4 rfl 6 rfl;obtain⟨p2,fr,hM⟩:=bd hM;refine wg hS rfl rfl rfl b5 (bg hS EA rfl rfl (kz _ _ hL.dlt ed.1 eg.1 _ _ (hL.get 1 rfl) (hL.get 0 rfl) _ fr) fun _ w hR a hk hA=>?_);obtain rfl:=hR;have hS:=bY hA;refine ai hS fun a hS=>?_;rcases cd hM with⟨b6,hM⟩|⟨b6,hM⟩
    ·refine ai hS fun a hS=>?_;have hL:=hS;replace hL:=hL.freeze (R:=ac) 7 rfl 6 rfl;replace hL:=hL.freeze (R:=ac) 5 rfl 5 rfl;obtain⟨p3,fs,hM⟩:=bd hM;refine wg hS rfl rfl rfl b6 (bg hS LE rfl rfl (pu _ _ hL.dlt ed.2.1 eg.2.1 _ _ (hL.get 1 rfl) (hL.get 0 rfl) _ fs) fun _ w hR a hk hA=>?_);obtain rfl:=hR;have hS:=bY hA;refine ai hS fun a hS=>?_;rcases cd hM with⟨i2,hM⟩|⟨i2,hM⟩
     ·refine ai hS fun a hS=>?_;rcases cd hM with⟨b8,hM⟩|⟨b8,hM⟩
      ·refine ai hS fun a hS=>?_;have hL:=hS;replace hL:=hL.freeze (R:=ad) 2 rfl 3 rfl;replace hL:=hL.freeze (R:=ad) 0 rfl 2 rfl;obtain⟨p4,fM,hM⟩:=bd hM;refine wg hS rfl rfl rfl b8 (bg hS EA rfl rfl (kz _ _ hL.dlt ek.1 el.1 _ _ (hL.get 1 rfl) (hL.get 0 rfl) _ fM) fun _ w hR a hk hA=>?_);obtain rfl:=hR;have hS:=bY hA;refine ai hS fun a hS=>?_;rcases cd hM with⟨b9,hM⟩|⟨b9,hM⟩
       ·refine ai hS fun a hS=>?_;have hL:=hS;replace hL:=hL.freeze (R:=ac) 3 rfl 2 rfl;replace hL:=hL.freeze (R:=ac) 1 rfl 1 rfl;obtain⟨p5,g0,hM⟩:=bd hM;refine wg hS rfl rfl rfl b9 (bg hS LE rfl rfl (pu _ _ hL.dlt ek.2.1 el.2.1 _ _ (hL.get 1 rfl) (hL.get 0 rfl) _ g0) fun _ w hR a hk hA=>?_);obtain rfl:=hR;have hS:=bY hA;refine ai hS fun a hS=>?_;rcases cd hM with⟨i3,hM⟩|⟨i3,hM⟩
        ·refine ai hS fun a hS=>?_;rcases cd hM with⟨bb,hM⟩|⟨bb,hM⟩
         ·obtain⟨p6,g1,hM⟩:=bd hM;refine wg hS rfl rfl rfl bb (bg hS LM rfl rfl (ja _ _ hS.dlt (hS.get 17 rfl) _ g1) fun _ w hR a hk hA=>?_);obtain rfl:=hR;have hS:=bY hA;exact fz
         exact fz
        exact fz
       exact fz
      exact fz
     exact fz
    exact fz
   exact fz
  exact fz
 rintro a w ⟨a3,hS,hM⟩;unfold cu at hM;exact fz
end
end
end Go.Proofs.YtmfcloapbgfhaaaGreatDoor
