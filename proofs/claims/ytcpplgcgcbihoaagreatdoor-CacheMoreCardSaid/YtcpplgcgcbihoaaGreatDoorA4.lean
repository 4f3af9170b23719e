/- Texts of the proof, joined (4). -/
import Derived.Test.YtcpplgcgcbihoaaGreatDoorA1
import Derived.Test.YtcpplgcgcbihoaaGreatDoorA2
import Derived.Test.YtcpplgcgcbihoaaGreatDoorA3
set_option linter.unusedVariables false
set_option linter.unusedSimpArgs false
set_option linter.unusedSectionVars false
namespace Go.Proofs.YtcpplgcgcbihoaaGreatDoor
open Go.RowKit
section
set_option maxRecDepth 100000
set_option maxHeartbeats 4000000
variable (T:Nat->Prop) (L:World) (hT:TW T L)
include hT
noncomputable section
def fc (c:aQ) (b:Bool):=some ((b,c))
def iz (b:aQ) (c:Bool) (e:Int) (f g:ByteArray) (h:LK) (i d j:Int) (k:Bool):=cond c (fc b (d==b.B.r)) (fc b false)
def cW (c:aQ) (f:ae) (e:Bool):=cond e (some ((true,c))) ((cm c.B.s f).bind fun b=>iz c b.2 b.1.d.v b.1.d.x b.1.u b.1.k b.1.a b.1.t b.1.j b.1.w)
def ij (c:aQ) (b:ae):=(cu b).bind fun d=>cond d (cW c b true) ((some ((cF aK b c.g).getD false)).bind fun e=>cond e ((cO b).bind fun f=>cW c b f) (cW c b false))
theorem wz (d:aQ) (ab:ae) (H n:Nat) (P Q R:Value) (o:Nat) (G:Array MapEntry) (K q:Nat) (u:Array MapEntry) (D:Nat) (z A:Value) (f:Nat) (x:Array MapEntry) (F:Nat) (m:Value) (t:bI) (hD:xH T L [xE H n d.B.r z A f m d.E,xS n P d.S.b.r Q R o q,om o G K,om q u D,om f x F,aA m t]) (P0:Nat->Prop) (ei:∀ k,MD [xE H n d.B.r z A f m d.E,xS n P d.S.b.r Q R o q,om o G K,om q u D,om f x F,aA m t] k∨L.heap.size<=k->P0 k) (dn:aF an (dT T [xE H n d.B.r z A f m d.E,xS n P d.S.b.r Q R o q,om o G K,om q u D,om f x F,aA m t]) L P d.S.l) (ds:aF ac (dT T [xE H n d.B.r z A f m d.E,xS n P d.S.b.r Q R o q,om o G K,om q u D,om f x F,aA m t]) L Q d.S.b.i) (e0:aF aa (dT T [xE H n d.B.r z A f m d.E,xS n P d.S.b.r Q R o q,om o G K,om q u D,om f x F,aA m t]) L R d.S.b.s) (dk:bE ad true a6.str false (dT T [xE H n d.B.r z A f m d.E,xS n P d.S.b.r Q R o q,om o G K,om q u D,om f x F,aA m t]) L G d.S.e) (dl:bE ad true (a6.slice ad) false (dT T [xE H n d.B.r z A f m d.E,xS n P d.S.b.r Q R o q,om o G K,om q u D,om f x F,aA m t]) L u d.S.h) (d7:aF ac (dT T [xE H n d.B.r z A f m d.E,xS n P d.S.b.r Q R o q,om o G K,om q u D,om f x F,aA m t]) L z d.B.i) (d8:aF aa (dT T [xE H n d.B.r z A f m d.E,xS n P d.S.b.r Q R o q,om o G K,om q u D,om f x F,aA m t]) L A d.B.s) (c9:(pS P0 [aL ac z d.B.i] aa 33 A d.B.s).p (dT T [xE H n d.B.r z A f m d.E,xS n P d.S.b.r Q R o q,om o G K,om q u D,om f x F,aA m t]) L) (d6:bE ad true a6.bool false (dT T [xE H n d.B.r z A f m d.E,xS n P d.S.b.r Q R o q,om o G K,om q u D,om f x F,aA m t]) L x d.g) (d9:bk ad (dT T [xE H n d.B.r z A f m d.E,xS n P d.S.b.r Q R o q,om o G K,om q u D,om f x F,aA m t]) L t d.y) (y:Bool×aQ) (B:ij d ab=some y):bg aR (MD [xE H n d.B.r z A f m d.E,xS n P d.S.b.r Q R o q,om o G K,om q u D,om f x F,aA m t]) 213 [pt H 0,.agg (aX ab).toArray] L (fun v w'=>∃ (a4 a5 a9:Value) (W:Array MapEntry) (Z:Nat) (X:Array MapEntry) (a0:Nat) (a2 a3:Value) (Y:Array MapEntry) (a1:Nat) (M:Value) (V:bI),v = .bool y.1/\mx L w' [xE H n d.B.r z A f m d.E,xS n P d.S.b.r Q R o q,om o G K,om q u D,om f x F,aA m t] [xE H n y.2.B.r a2 a3 f M y.2.E,xS n a4 y.2.S.b.r a5 a9 o q,om o W Z,om q X a0,om f Y a1,aA M V]/\aF an (dT T [xE H n y.2.B.r a2 a3 f M y.2.E,xS n a4 y.2.S.b.r a5 a9 o q,om o W Z,om q X a0,om f Y a1,aA M V]) w' a4 y.2.S.l/\aF ac (dT T [xE H n y.2.B.r a2 a3 f M y.2.E,xS n a4 y.2.S.b.r a5 a9 o q,om o W Z,om q X a0,om f Y a1,aA M V]) w' a5 y.2.S.b.i/\aF aa (dT T [xE H n y.2.B.r a2 a3 f M y.2.E,xS n a4 y.2.S.b.r a5 a9 o q,om o W Z,om q X a0,om f Y a1,aA M V]) w' a9 y.2.S.b.s/\bE ad true a6.str false (dT T [xE H n y.2.B.r a2 a3 f M y.2.E,xS n a4 y.2.S.b.r a5 a9 o q,om o W Z,om q X a0,om f Y a1,aA M V]) w' W y.2.S.e/\bE ad true (a6.slice ad) false (dT T [xE H n y.2.B.r a2 a3 f M y.2.E,xS n a4 y.2.S.b.r a5 a9 o q,om o W Z,om q X a0,om f Y a1,aA M V]) w' X y.2.S.h/\aF ac (dT T [xE H n y.2.B.r a2 a3 f M y.2.E,xS n a4 y.2.S.b.r a5 a9 o q,om o W Z,om q X a0,om f Y a1,aA M V]) w' a2 y.2.B.i/\aF aa (dT T [xE H n y.2.B.r a2 a3 f M y.2.E,xS n a4 y.2.S.b.r a5 a9 o q,om o W Z,om q X a0,om f Y a1,aA M V]) w' a3 y.2.B.s/\(pS P0 [aL ac a2 y.2.B.i] aa 33 a3 y.2.B.s).p (dT T [xE H n y.2.B.r a2 a3 f M y.2.E,xS n a4 y.2.S.b.r a5 a9 o q,om o W Z,om q X a0,om f Y a1,aA M V]) w'/\bE ad true a6.bool false (dT T [xE H n y.2.B.r a2 a3 f M y.2.E,xS n a4 y.2.S.b.r a5 a9 o q,om o W Z,om q X a0,om f Y a1,aA M V]) w' Y y.2.g/\bk ad (dT T [xE H n y.2.B.r a2 a3 f M y.2.E,xS n a4 y.2.S.b.r a5 a9 o q,om o W Z,om q X a0,om f Y a1,aA M V]) w' V y.2.y):=by
 refine fT (c:=_) Tryz.func213 rfl T 42 Tryz.ntmps213 hT rfl hD fun a I=>?_;replace I:=(((((((((I.fS dn).fS ds).fS e0).fM dk).fM dl).fS d7).fS d8).fact (pS P0 [aL ac z d.B.i] aa 33 A d.B.s) c9).fM d6).fR d9;unfold ij at B;refine kB I fun bt e5 a w O I=>?_;refine am I fun a I=>?_;refine aC ?_;refine aM (J:=fun a w=>∃ (ao:Bool),St L (MD [xE H n d.B.r z A f m d.E,xS n P d.S.b.r Q R o q,om o G K,om q u D,om f x F,aA m t]) T 42 [(0,pt H 0),(3,pt bt 0),(20,.bool ao)] [om f x F,aA m t,xE H n d.B.r z A f m d.E,.box bt (aX ab) 30,om o G K,om q u D,xS n P d.S.b.r Q R o q] [aL ac z d.B.i,aL aa A d.B.s,uw x d.g,ap ad t d.y,aL an P d.S.l,aL ac Q d.S.b.i,aL aa R d.S.b.s,pg G d.S.e,sW u d.S.h,pS P0 [aL ac z d.B.i] aa 33 A d.B.s] a w/\cW d ab ao=some y) ?_ ?_
 ·refine dr [] I fun w hQ I=>?_;refine gE [0] I fun a I=>?_;obtain⟨e8,ca,B⟩:=bd B;refine ec 1 I yx (da _ _ I.dlt ab _ ca) fun _ w C a O U=>?_;obtain rfl:=C;have I:=eL U;refine gE [2] I fun a I=>?_;rcases cd B with⟨c1,B⟩|⟨c1,B⟩
  ·refine gE [3,4,5,6,7,8,9,10,11,12,13] I fun a I=>?_;refine eD ?_;exact fin
  refine gE [3,4,5,6,7] I fun a I=>?_;obtain⟨dc,cb,B⟩:=bd B;obtain⟨e2,cs,cv⟩:=jr I ur c6 5 rfl 1 rfl (c:=(aX ab)) (key:=ab) rfl O1 (zc:=[.bool false]) rfl rfl cb;obtain rfl:=cs;refine dg 8 I c1 (l:=[]) (v:=.bool dc) (cv rfl rfl bO) fun a I=>?_;refine gE [9] I fun a I=>?_;rcases cd B with⟨c2,B⟩|⟨c2,B⟩
  ·refine gE [10] I fun a I=>?_;obtain⟨ea,ch,B⟩:=bd B;refine cR (i:=11) rfl (by kernel_rfl) I rfl rfl rfl c2 (bB I uf rfl rfl (cY _ _ I.dlt ab _ ch) fun _ w C a O U=>⟨fq (O),?_⟩);obtain rfl:=C;have I:=eL U;refine gE [12,13] I fun a I=>?_;refine eD ?_;exact fin
  refine gE [10,11,12,13] I fun a I=>?_;refine eD ?_;exact fin
 rintro a w ⟨ao,I,B⟩;unfold cW at B;rcases cd B with⟨d0,B⟩|⟨d0,B⟩
 ·refine am I fun a I=>?_;cases B
  refine aG I rfl (aw I rfl aI) ?_;have hZ:=I.sl [2,6,4,5,0,1] [4,5,6,7,8,0,1,9,2,3];exact⟨P,Q,R,G,K,u,D,z,A,x,F,m,t,rfl,hZ.zd,hZ.g0,hZ.g1,hZ.g2,hZ.g3,hZ.g4,hZ.g5,hZ.g6,hZ.g7,hZ.g8,hZ.g9⟩
 refine am I fun a I=>?_;refine aM (J:=fun a w=>∃ (av:Bool) (b0:Int) (b3 b4:ByteArray) (b5:LK) (b7 b8 bb:Int) (bi:Bool) (af:Nat) (bl:Value) (ag:LV),St L (MD [xE H n d.B.r z A f m d.E,xS n P d.S.b.r Q R o q,om o G K,om q u D,om f x F,aA m t]) T 42 [(0,pt H 0),(5,pt af 0),(6,.bool av)] [om f x F,aA m t,xE H n d.B.r z A f m d.E,aA bl ag,.box af [aj b0,a8 b3,a8 b4,bl,aj b7,aj b8,aj bb,.bool bi] 33,om o G K,om q u D,xS n P d.S.b.r Q R o q] [aL ac z d.B.i,aL aa A d.B.s,uw x d.g,ap ad t d.y,ap ad ag b5,aL an P d.S.l,aL ac Q d.S.b.i,aL aa R d.S.b.s,pg G d.S.e,sW u d.S.h,pS P0 [aL ac z d.B.i] aa 33 A d.B.s] a w/\iz d av b0 b3 b4 b5 b7 b8 bb bi=some y) ?_ ?_
 ·obtain⟨N126,c5⟩:∃ N,N=w.heap.size:=⟨_,rfl⟩;replace I:=I.fact (IS N126) (pP c5);refine dr [(11,.new N126)] I fun w hQ I=>?_;refine gE [0,1,2,3,4,5] I fun a I=>?_;obtain⟨e6,bs,B⟩:=bd B;refine dQ (i:=6) (j:=10) rfl rfl (by kernel_rfl) rfl rfl ?_ ?_
  ·skip;refine id (bB I rM rfl rfl (bR _ _ I.dlt d.B.s ab _ I.g2 _ bs) fun _ w C a O U=>⟨fq (O),?_⟩);obtain⟨ed,e3,he,c3⟩:=C;obtain rfl:=he.symm;have I:=qs U c3;refine gE [7,8,9] I fun a I=>?_;have d1:=(I.g1:N126<=w.heap.size);refine e1 10 (df I eJ rfl fun ck d2 a w O I=>⟨fq (O),?_⟩);refine dw 11 (.blk (some ck)) _ (by kernel_rfl) (pT (cC d1 d2)) ?_;refine es 11 I fun w I=>?_;refine gE [12] I fun a I=>?_;refine eD ?_;exact fin
  skip;have d3:=(I.g0:N126<=w.heap.size);refine id (df I eJ rfl fun cl d4 a w O I=>⟨fq (O),?_⟩);refine dw 11 (.blk (some cl)) _ (by kernel_rfl) (pT (cC d3 d4)) ?_;refine ec 6 I rM (bR _ _ I.dlt d.B.s ab _ I.g2 _ bs) fun _ w C a O U=>?_;obtain⟨eg,e4,he,c4⟩:=C;obtain rfl:=he.symm;have I:=qs U c4;refine gE [7,8,9] I fun a I=>?_;refine es 11 I fun w I=>?_;refine gE [12] I fun a I=>?_;refine eD ?_;exact fin
 rintro a w ⟨av,b0,b3,b4,b5,b7,b8,bb,bi,af,bl,ag,I,B⟩;unfold iz at B;refine aM (J:=fun a w=>∃ (ak:Bool),St L (MD [xE H n d.B.r z A f m d.E,xS n P d.S.b.r Q R o q,om o G K,om q u D,om f x F,aA m t]) T 42 [(4,.bool ak)] [om f x F,aA m t,xE H n d.B.r z A f m d.E,om o G K,om q u D,xS n P d.S.b.r Q R o q] [aL ac z d.B.i,aL aa A d.B.s,uw x d.g,ap ad t d.y,aL an P d.S.l,aL ac Q d.S.b.i,aL aa R d.S.b.s,pg G d.S.e,sW u d.S.h,pS P0 [aL ac z d.B.i] aa 33 A d.B.s] a w/\fc d ak=some y) ?_ ?_
 ·refine dr [] I fun w hQ I=>?_;refine gE [0,1] I fun a I=>?_;rcases cd B with⟨d5,B⟩|⟨d5,B⟩
  ·refine gE [2,3,4,5,6,7,8,9,10,11] I fun a I=>?_;refine eD ?_;exact fin
  refine gE [2,3,4,5,6,7,8,9,10,11] I fun a I=>?_;refine eD ?_;exact fin
 rintro a w ⟨ak,I,B⟩;unfold fc at B;refine am I fun a I=>?_;cases B
 refine aG I rfl (aw I rfl aI) ?_;have hZ:=I.sl [2,5,3,4,0,1] [4,5,6,7,8,0,1,9,2,3];exact⟨P,Q,R,G,K,u,D,z,A,x,F,m,t,rfl,hZ.zd,hZ.g0,hZ.g1,hZ.g2,hZ.g3,hZ.g4,hZ.g5,hZ.g6,hZ.g7,hZ.g8,hZ.g9⟩
def wG (urec:aQ->ae->Option aQ):Prop:=∀ (T:Nat->Prop) (L:World) (hT:∀ k,T k->k<L.heap.size) (n:aQ) (x1:ae) (z:Nat) (d:Nat) (a1 a2 a3:Value) (f:Nat) (H:Array MapEntry) (P:Nat) (j:Nat) (t:Array MapEntry) (A:Nat) (F G:Value) (c:Nat) (u:Array MapEntry) (D:Nat) (m:Value) (q:bI) (hD:xH T L [.box z [.pointer (some ⟨d,0,none⟩),aj n.B.r,F,G,.map (some c),m,aj n.E] 180,.box d [a1,aj n.S.b.r,a2,a3,.map (some f),.map (some j)] 223,.obj f (.map H P),.obj j (.map t A),.obj c (.map u D),.own m 30 ad.size q]) (P0:Nat->Prop) (b2:∀ k,MD [.box z [.pointer (some ⟨d,0,none⟩),aj n.B.r,F,G,.map (some c),m,aj n.E] 180,.box d [a1,aj n.S.b.r,a2,a3,.map (some f),.map (some j)] 223,.obj f (.map H P),.obj j (.map t A),.obj c (.map u D),.own m 30 ad.size q] k∨L.heap.size<=k->P0 k) (av:aF an (dT T [.box z [.pointer (some ⟨d,0,none⟩),aj n.B.r,F,G,.map (some c),m,aj n.E] 180,.box d [a1,aj n.S.b.r,a2,a3,.map (some f),.map (some j)] 223,.obj f (.map H P),.obj j (.map t A),.obj c (.map u D),.own m 30 ad.size q]) L a1 n.S.l) (b0:aF ac (dT T [.box z [.pointer (some ⟨d,0,none⟩),aj n.B.r,F,G,.map (some c),m,aj n.E] 180,.box d [a1,aj n.S.b.r,a2,a3,.map (some f),.map (some j)] 223,.obj f (.map H P),.obj j (.map t A),.obj c (.map u D),.own m 30 ad.size q]) L a2 n.S.b.i) (b1:aF aa (dT T [.box z [.pointer (some ⟨d,0,none⟩),aj n.B.r,F,G,.map (some c),m,aj n.E] 180,.box d [a1,aj n.S.b.r,a2,a3,.map (some f),.map (some j)] 223,.obj f (.map H P),.obj j (.map t A),.obj c (.map u D),.own m 30 ad.size q]) L a3 n.S.b.s) (ak:bE ad true a6.str false (dT T [.box z [.pointer (some ⟨d,0,none⟩),aj n.B.r,F,G,.map (some c),m,aj n.E] 180,.box d [a1,aj n.S.b.r,a2,a3,.map (some f),.map (some j)] 223,.obj f (.map H P),.obj j (.map t A),.obj c (.map u D),.own m 30 ad.size q]) L H n.S.e) (ao:bE ad true (a6.slice ad) false (dT T [.box z [.pointer (some ⟨d,0,none⟩),aj n.B.r,F,G,.map (some c),m,aj n.E] 180,.box d [a1,aj n.S.b.r,a2,a3,.map (some f),.map (some j)] 223,.obj f (.map H P),.obj j (.map t A),.obj c (.map u D),.own m 30 ad.size q]) L t n.S.h) (ab:aF ac (dT T [.box z [.pointer (some ⟨d,0,none⟩),aj n.B.r,F,G,.map (some c),m,aj n.E] 180,.box d [a1,aj n.S.b.r,a2,a3,.map (some f),.map (some j)] 223,.obj f (.map H P),.obj j (.map t A),.obj c (.map u D),.own m 30 ad.size q]) L F n.B.i) (af:aF aa (dT T [.box z [.pointer (some ⟨d,0,none⟩),aj n.B.r,F,G,.map (some c),m,aj n.E] 180,.box d [a1,aj n.S.b.r,a2,a3,.map (some f),.map (some j)] 223,.obj f (.map H P),.obj j (.map t A),.obj c (.map u D),.own m 30 ad.size q]) L G n.B.s) (a5:(pS P0 [aL ac F n.B.i] aa 33 G n.B.s).p (dT T [.box z [.pointer (some ⟨d,0,none⟩),aj n.B.r,F,G,.map (some c),m,aj n.E] 180,.box d [a1,aj n.S.b.r,a2,a3,.map (some f),.map (some j)] 223,.obj f (.map H P),.obj j (.map t A),.obj c (.map u D),.own m 30 ad.size q]) L) (a9:bE ad true a6.bool false (dT T [.box z [.pointer (some ⟨d,0,none⟩),aj n.B.r,F,G,.map (some c),m,aj n.E] 180,.box d [a1,aj n.S.b.r,a2,a3,.map (some f),.map (some j)] 223,.obj f (.map H P),.obj j (.map t A),.obj c (.map u D),.own m 30 ad.size q]) L u n.g) (ag:bk ad (dT T [.box z [.pointer (some ⟨d,0,none⟩),aj n.B.r,F,G,.map (some c),m,aj n.E] 180,.box d [a1,aj n.S.b.r,a2,a3,.map (some f),.map (some j)] 223,.obj f (.map H P),.obj j (.map t A),.obj c (.map u D),.own m 30 ad.size q]) L q n.y) (hLv:dh (dT T [.box z [.pointer (some ⟨d,0,none⟩),aj n.B.r,F,G,.map (some c),m,aj n.E] 180,.box d [a1,aj n.S.b.r,a2,a3,.map (some f),.map (some j)] 223,.obj f (.map H P),.obj j (.map t A),.obj c (.map u D),.own m 30 ad.size q]) L) (y:aQ) (B:urec n x1=some y),bg aR (MD [.box z [.pointer (some ⟨d,0,none⟩),aj n.B.r,F,G,.map (some c),m,aj n.E] 180,.box d [a1,aj n.S.b.r,a2,a3,.map (some f),.map (some j)] 223,.obj f (.map H P),.obj j (.map t A),.obj c (.map u D),.own m 30 ad.size q]) 118 [.pointer (some ⟨z,0,none⟩),.agg #[aj x1.v,a8 x1.x]] L (fun v w'=>∃ (Y Z a0:Value) (K:Array MapEntry) (Q:Nat) (M:Array MapEntry) (R:Nat) (W X:Value) (N:Array MapEntry) (V:Nat) (o:Value) (J:bI),v = .tuple #[]/\mx L w' [.box z [.pointer (some ⟨d,0,none⟩),aj n.B.r,F,G,.map (some c),m,aj n.E] 180,.box d [a1,aj n.S.b.r,a2,a3,.map (some f),.map (some j)] 223,.obj f (.map H P),.obj j (.map t A),.obj c (.map u D),.own m 30 ad.size q] [.box z [.pointer (some ⟨d,0,none⟩),aj y.B.r,W,X,.map (some c),o,aj y.E] 180,.box d [Y,aj y.S.b.r,Z,a0,.map (some f),.map (some j)] 223,.obj f (.map K Q),.obj j (.map M R),.obj c (.map N V),.own o 30 ad.size J]/\aF an (dT T [.box z [.pointer (some ⟨d,0,none⟩),aj y.B.r,W,X,.map (some c),o,aj y.E] 180,.box d [Y,aj y.S.b.r,Z,a0,.map (some f),.map (some j)] 223,.obj f (.map K Q),.obj j (.map M R),.obj c (.map N V),.own o 30 ad.size J]) w' Y y.S.l/\aF ac (dT T [.box z [.pointer (some ⟨d,0,none⟩),aj y.B.r,W,X,.map (some c),o,aj y.E] 180,.box d [Y,aj y.S.b.r,Z,a0,.map (some f),.map (some j)] 223,.obj f (.map K Q),.obj j (.map M R),.obj c (.map N V),.own o 30 ad.size J]) w' Z y.S.b.i/\aF aa (dT T [.box z [.pointer (some ⟨d,0,none⟩),aj y.B.r,W,X,.map (some c),o,aj y.E] 180,.box d [Y,aj y.S.b.r,Z,a0,.map (some f),.map (some j)] 223,.obj f (.map K Q),.obj j (.map M R),.obj c (.map N V),.own o 30 ad.size J]) w' a0 y.S.b.s/\bE ad true a6.str false (dT T [.box z [.pointer (some ⟨d,0,none⟩),aj y.B.r,W,X,.map (some c),o,aj y.E] 180,.box d [Y,aj y.S.b.r,Z,a0,.map (some f),.map (some j)] 223,.obj f (.map K Q),.obj j (.map M R),.obj c (.map N V),.own o 30 ad.size J]) w' K y.S.e/\bE ad true (a6.slice ad) false (dT T [.box z [.pointer (some ⟨d,0,none⟩),aj y.B.r,W,X,.map (some c),o,aj y.E] 180,.box d [Y,aj y.S.b.r,Z,a0,.map (some f),.map (some j)] 223,.obj f (.map K Q),.obj j (.map M R),.obj c (.map N V),.own o 30 ad.size J]) w' M y.S.h/\aF ac (dT T [.box z [.pointer (some ⟨d,0,none⟩),aj y.B.r,W,X,.map (some c),o,aj y.E] 180,.box d [Y,aj y.S.b.r,Z,a0,.map (some f),.map (some j)] 223,.obj f (.map K Q),.obj j (.map M R),.obj c (.map N V),.own o 30 ad.size J]) w' W y.B.i/\aF aa (dT T [.box z [.pointer (some ⟨d,0,none⟩),aj y.B.r,W,X,.map (some c),o,aj y.E] 180,.box d [Y,aj y.S.b.r,Z,a0,.map (some f),.map (some j)] 223,.obj f (.map K Q),.obj j (.map M R),.obj c (.map N V),.own o 30 ad.size J]) w' X y.B.s/\(pS P0 [aL ac W y.B.i] aa 33 X y.B.s).p (dT T [.box z [.pointer (some ⟨d,0,none⟩),aj y.B.r,W,X,.map (some c),o,aj y.E] 180,.box d [Y,aj y.S.b.r,Z,a0,.map (some f),.map (some j)] 223,.obj f (.map K Q),.obj j (.map M R),.obj c (.map N V),.own o 30 ad.size J]) w'/\bE ad true a6.bool false (dT T [.box z [.pointer (some ⟨d,0,none⟩),aj y.B.r,W,X,.map (some c),o,aj y.E] 180,.box d [Y,aj y.S.b.r,Z,a0,.map (some f),.map (some j)] 223,.obj f (.map K Q),.obj j (.map M R),.obj c (.map N V),.own o 30 ad.size J]) w' N y.g/\bk ad (dT T [.box z [.pointer (some ⟨d,0,none⟩),aj y.B.r,W,X,.map (some c),o,aj y.E] 180,.box d [Y,aj y.S.b.r,Z,a0,.map (some f),.map (some j)] 223,.obj f (.map K Q),.obj j (.map M R),.obj c (.map N V),.own o 30 ad.size J]) w' J y.y)
def lp (h:Int) (i:LI) (j:LR) (k:LO) (l:LK) (m:Int) (b:LU) (c:Int) (d:LI) (e:LR) (f:LB) (g:LL):=some ((false,(aQ.mk (az.mk b (ah.mk c d e) f g) (ah.mk h i j) k l m)))
def iw (d:(Bool×aQ)) (c:(Int×az)) (f:Int) (j:LI) (k:LR):Option (Fl (Int×Int×LI×LR×LO×LK×Int×LU×Int×LI×LR×LB×LL) (Fl (Int×LI×LR×LO×LK×Int×LU×Int×LI×LR×LB×LL) (Bool×aQ))):=some (.out (.out (true,(aQ.mk (az.mk c.2.l (ah.mk c.2.b.r c.2.b.i c.2.b.s) c.2.e c.2.h) (ah.mk f j k) d.2.g d.2.y d.2.E))))
def ix (vrec:az->ae->Option (ByteArray×az)) (q:ae) (j:Int) (n:LK) (k:de) (c:(Bool×aQ)) (t:Int) (u v:ByteArray) (x:LK) (z m A:Int) (D:Bool):=(lj vrec (az.mk c.2.S.l (ah.mk c.2.S.b.r c.2.S.b.i c.2.S.b.s) c.2.S.e c.2.S.h) (ah.mk c.2.B.r c.2.B.i c.2.B.s) k.p).bind fun d=>cond (decide (m<d.1)) ((cO q).bind fun o=>cond o ((me (ah.mk c.2.B.r c.2.B.i c.2.B.s) n true).bind fun f=>iw c d f.r f.i f.s) (iw c d c.2.B.r c.2.B.i c.2.B.s)) (some (.go (IntKind.i64.wrap (j+1),c.2.B.r,c.2.B.i,c.2.B.s,c.2.g,c.2.y,c.2.E,d.2.l,d.2.b.r,d.2.b.i,d.2.b.s,d.2.e,d.2.h)))
def iy (urec:aQ->ae->Option aQ) (vrec:az->ae->Option (ByteArray×az)) (V:ae) (N n:Int) (H:LI) (o:LR) (J:LO) (K:LK) (M:Int) (q:LU) (z:Int) (A:LI) (D:LR) (F:LB) (G:LL) (W:Bool) (a0:Int) (a1 a2:ByteArray) (a3:LK) (a4 X a5:Int) (Y:Bool):=cond (!(W)) (some (.out (.out (true,(aQ.mk (az.mk q (ah.mk z A D) F G) (ah.mk n H o) J K M))))) (cond Y (some (.out (.out (true,(aQ.mk (az.mk q (ah.mk z A D) F G) (ah.mk n H o) J K M))))) (cond (X==n) (some (.out (.out (false,(aQ.mk (az.mk q (ah.mk z A D) F G) (ah.mk n H o) J K M))))) ((nG o n V).bind fun Q=>(i7 o Q).bind fun R=>cond (decide ((R.length:Int)<=N)) ((me (ah.mk n H o) Q false).bind fun Z=>some (.out (.out (false,(aQ.mk (az.mk q (ah.mk z A D) F G) Z J K M))))) ((bu R N).bind fun P=>(ij (aQ.mk (az.mk q (ah.mk z A D) F G) (ah.mk n H o) J K M) P.p).bind fun c=>cond (!(c.1)) ((urec (aQ.mk (az.mk c.2.S.l (ah.mk c.2.S.b.r c.2.S.b.i c.2.S.b.s) c.2.S.e c.2.S.h) (ah.mk c.2.B.r c.2.B.i c.2.B.s) c.2.g c.2.y c.2.E) P.p).bind fun f=>some (.go (N,f.B.r,f.B.i,f.B.s,f.g,f.y,f.E,f.S.l,f.S.b.r,f.S.b.i,f.S.b.s,f.S.e,f.S.h))) ((cm c.2.B.s P.i1).bind fun m=>ix vrec V N Q P c m.1.d.v m.1.d.x m.1.u m.1.k m.1.a m.1.t m.1.j m.1.w)))))
def fb (urec:aQ->ae->Option aQ) (vrec:az->ae->Option (ByteArray×az)) (r:ae) (s n:Int) (o:LI) (c:LR) (p:LO) (q:LK) (e:Int) (f:LU) (g:Int) (h:LI) (i:LR) (l:LB) (m:LL):=cond (e==0) ((cm c r).bind fun b=>iy urec vrec r s n o c p q e f g h i l m b.2 b.1.d.v b.1.d.x b.1.u b.1.k b.1.a b.1.t b.1.j b.1.w) (some (.out (.go (n,o,c,p,q,e,f,g,h,i,l,m))))
def fh (urec:aQ->ae->Option aQ) (vrec:az->ae->Option (ByteArray×az)) (c:aQ) (d:ae):=(loop (fun s:Int×Int×LI×LR×LO×LK×Int×LU×Int×LI×LR×LB×LL=>fb urec vrec d s.1 s.2.1 s.2.2.1 s.2.2.2.1 s.2.2.2.2.1 s.2.2.2.2.2.1 s.2.2.2.2.2.2.1 s.2.2.2.2.2.2.2.1 s.2.2.2.2.2.2.2.2.1 s.2.2.2.2.2.2.2.2.2.1 s.2.2.2.2.2.2.2.2.2.2.1 s.2.2.2.2.2.2.2.2.2.2.2.1 s.2.2.2.2.2.2.2.2.2.2.2.2) (0,c.B.r,c.B.i,c.B.s,c.g,c.y,c.E,c.S.l,c.S.b.r,c.S.b.i,c.S.b.s,c.S.e,c.S.h)).bind fun r=>Fl.el r (fun s=>lp s.1 s.2.1 s.2.2.1 s.2.2.2.1 s.2.2.2.2.1 s.2.2.2.2.2.1 s.2.2.2.2.2.2.1 s.2.2.2.2.2.2.2.1 s.2.2.2.2.2.2.2.2.1 s.2.2.2.2.2.2.2.2.2.1 s.2.2.2.2.2.2.2.2.2.2.1 s.2.2.2.2.2.2.2.2.2.2.2) (fun y=>some (y))
theorem wx (urec:aQ->ae->Option aQ) (hurec:wG urec) (vrec:az->ae->Option (ByteArray×az)) (hvrec:ov vrec) (d:aQ) (bi:ae) (F n:Nat) (v3 v4 v5:Value) (o:Nat) (M:Array MapEntry) (Q q:Nat) (x:Array MapEntry) (A:Nat) (G H:Value) (f:Nat) (z:Array MapEntry) (D:Nat) (t:Value) (u:bI) (hD:xH T L [xE F n d.B.r G H f t d.E,xS n v3 d.S.b.r v4 v5 o q,om o M Q,om q x A,om f z D,aA t u]) (P0:Nat->Prop) (hx:∀ k,MD [xE F n d.B.r G H f t d.E,xS n v3 d.S.b.r v4 v5 o q,om o M Q,om q x A,om f z D,aA t u] k∨L.heap.size<=k->P0 k) (r0:aF an (dT T [xE F n d.B.r G H f t d.E,xS n v3 d.S.b.r v4 v5 o q,om o M Q,om q x A,om f z D,aA t u]) L v3 d.S.l) (r2:aF ac (dT T [xE F n d.B.r G H f t d.E,xS n v3 d.S.b.r v4 v5 o q,om o M Q,om q x A,om f z D,aA t u]) L v4 d.S.b.i) (r3:aF aa (dT T [xE F n d.B.r G H f t d.E,xS n v3 d.S.b.r v4 v5 o q,om o M Q,om q x A,om f z D,aA t u]) L v5 d.S.b.s) (qe:bE ad true a6.str false (dT T [xE F n d.B.r G H f t d.E,xS n v3 d.S.b.r v4 v5 o q,om o M Q,om q x A,om f z D,aA t u]) L M d.S.e) (qr:bE ad true (a6.slice ad) false (dT T [xE F n d.B.r G H f t d.E,xS n v3 d.S.b.r v4 v5 o q,om o M Q,om q x A,om f z D,aA t u]) L x d.S.h) (q0:aF ac (dT T [xE F n d.B.r G H f t d.E,xS n v3 d.S.b.r v4 v5 o q,om o M Q,om q x A,om f z D,aA t u]) L G d.B.i) (q1:aF aa (dT T [xE F n d.B.r G H f t d.E,xS n v3 d.S.b.r v4 v5 o q,om o M Q,om q x A,om f z D,aA t u]) L H d.B.s) (md:(pS P0 [aL ac G d.B.i] aa 33 H d.B.s).p (dT T [xE F n d.B.r G H f t d.E,xS n v3 d.S.b.r v4 v5 o q,om o M Q,om q x A,om f z D,aA t u]) L) (pw:bE ad true a6.bool false (dT T [xE F n d.B.r G H f t d.E,xS n v3 d.S.b.r v4 v5 o q,om o M Q,om q x A,om f z D,aA t u]) L z d.g) (q2:bk ad (dT T [xE F n d.B.r G H f t d.E,xS n v3 d.S.b.r v4 v5 o q,om o M Q,om q x A,om f z D,aA t u]) L u d.y) (hLv:dh (dT T [xE F n d.B.r G H f t d.E,xS n v3 d.S.b.r v4 v5 o q,om o M Q,om q x A,om f z D,aA t u]) L) (y:Bool×aQ) (B:fh urec vrec d bi=some y):bg aR (MD [xE F n d.B.r G H f t d.E,xS n v3 d.S.b.r v4 v5 o q,om o M Q,om q x A,om f z D,aA t u]) 174 [pt F 0,.agg (aX bi).toArray] L (fun v w'=>∃ (bl bs bt:Value) (X:Array MapEntry) (a0:Nat) (Y:Array MapEntry) (a1:Nat) (ag ak:Value) (Z:Array MapEntry) (a2:Nat) (K:Value) (W:bI),v = .bool y.1/\mx L w' [xE F n d.B.r G H f t d.E,xS n v3 d.S.b.r v4 v5 o q,om o M Q,om q x A,om f z D,aA t u] [xE F n y.2.B.r ag ak f K y.2.E,xS n bl y.2.S.b.r bs bt o q,om o X a0,om q Y a1,om f Z a2,aA K W]/\aF an (dT T [xE F n y.2.B.r ag ak f K y.2.E,xS n bl y.2.S.b.r bs bt o q,om o X a0,om q Y a1,om f Z a2,aA K W]) w' bl y.2.S.l/\aF ac (dT T [xE F n y.2.B.r ag ak f K y.2.E,xS n bl y.2.S.b.r bs bt o q,om o X a0,om q Y a1,om f Z a2,aA K W]) w' bs y.2.S.b.i/\aF aa (dT T [xE F n y.2.B.r ag ak f K y.2.E,xS n bl y.2.S.b.r bs bt o q,om o X a0,om q Y a1,om f Z a2,aA K W]) w' bt y.2.S.b.s/\bE ad true a6.str false (dT T [xE F n y.2.B.r ag ak f K y.2.E,xS n bl y.2.S.b.r bs bt o q,om o X a0,om q Y a1,om f Z a2,aA K W]) w' X y.2.S.e/\bE ad true (a6.slice ad) false (dT T [xE F n y.2.B.r ag ak f K y.2.E,xS n bl y.2.S.b.r bs bt o q,om o X a0,om q Y a1,om f Z a2,aA K W]) w' Y y.2.S.h/\aF ac (dT T [xE F n y.2.B.r ag ak f K y.2.E,xS n bl y.2.S.b.r bs bt o q,om o X a0,om q Y a1,om f Z a2,aA K W]) w' ag y.2.B.i/\aF aa (dT T [xE F n y.2.B.r ag ak f K y.2.E,xS n bl y.2.S.b.r bs bt o q,om o X a0,om q Y a1,om f Z a2,aA K W]) w' ak y.2.B.s/\(pS P0 [aL ac ag y.2.B.i] aa 33 ak y.2.B.s).p (dT T [xE F n y.2.B.r ag ak f K y.2.E,xS n bl y.2.S.b.r bs bt o q,om o X a0,om q Y a1,om f Z a2,aA K W]) w'/\bE ad true a6.bool false (dT T [xE F n y.2.B.r ag ak f K y.2.E,xS n bl y.2.S.b.r bs bt o q,om o X a0,om q Y a1,om f Z a2,aA K W]) w' Z y.2.g/\bk ad (dT T [xE F n y.2.B.r ag ak f K y.2.E,xS n bl y.2.S.b.r bs bt o q,om o X a0,om q Y a1,om f Z a2,aA K W]) w' W y.2.y):=by
 refine fT (c:=_) Tryz.func174 rfl T 125 Tryz.ntmps174 hT rfl hD fun a I=>?_;replace I:=((((((((((I.fact bH hLv).fS r0).fS r2).fS r3).fM qe).fM qr).fS q0).fS q1).fact (pS P0 [aL ac G d.B.i] aa 33 H d.B.s) md).fM pw).fR q2;unfold fh at B;refine kB I fun dl sp a w O I=>?_;refine am I fun a I=>?_;refine aM (J:=fun a w=>∃ (hs:Int) (f4:LI) (f5:LR) (ht:LO) (hu:LK) (hv:Int) (gH:LU) (h0:Int) (h1:LI) (h2:LR) (h3:LB) (h4:LL) (eq:AM) (fl:Nat) (eT:Value) (el:LV) (er:AM) (fn:Nat) (et:AM) (fr:Nat) (e5 e6:Value) (eX f2 f3:Value),St L (MD [xE F n d.B.r G H f t d.E,xS n v3 d.S.b.r v4 v5 o q,om o M Q,om q x A,om f z D,aA t u]) T 125 [] [om f eq fl,aA eT el,xE F n hs e5 e6 f eT hv,om o er fn,om q et fr,xS n eX h0 f2 f3 o q] [aL ac e5 f4,aL aa e6 f5,uw eq ht,ap ad el hu,aL an eX gH,aL ac f2 h1,aL aa f3 h2,pg er h3,sW et h4,bH,pS P0 [aL ac e5 f4] aa 33 e6 f5] a w/\lp hs f4 f5 ht hu hv gH h0 h1 h2 h3 h4=some y) ?_ ?_
 ·refine am I fun a I=>?_;obtain⟨r1,qv,hMo1⟩:=bd B;refine bF _ (fun s a w=>∃ (c1 bb:Int) (af:LI) (V:LR) (cv:LO) (dc:LK) (dk:Int) (c9:LU) (ca:Int) (cb:LI) (ch:LR) (ck:LB) (cl:LL) (av:AM) (c3:Nat) (b4:Value) (ao:LV) (b0:AM) (c4:Nat) (b3:AM) (c5:Nat) (a3 a4:Value) (b5 b7 b8:Value),(c1,bb,af,V,cv,dc,dk,c9,ca,cb,ch,ck,cl)=s/\St L (MD [xE F n d.B.r G H f t d.E,xS n v3 d.S.b.r v4 v5 o q,om o M Q,om q x A,om f z D,aA t u]) T 125 [(0,pt F 0),(3,pt dl 0),(5,aj c1)] [om f av c3,aA b4 ao,xE F n bb a3 a4 f b4 dk,.box dl (aX bi) 30,om o b0 c4,om q b3 c5,xS n b5 ca b7 b8 o q] [aL ac a3 af,aL aa a4 V,uw av cv,ap ad ao dc,aL an b5 c9,aL ac b7 cb,aL aa b8 ch,pg b0 ck,sW b3 cl,bH,pS P0 [aL ac a3 af] aa 33 a4 V] a w) qv ⟨_,_,_,_,_,_,_,_,_,_,_,_,_,_,_,_,_,_,_,_,_,_,_,_,_,_,rfl,I.mt [5,6,1,0,3,4,2] [4,3,1,0,9,8,7,6,5,10,2]⟩ ?_;rintro s a w f1 ⟨c1,bb,af,V,cv,dc,dk,c9,ca,cb,ch,ck,cl,av,c3,b4,ao,b0,c4,b3,c5,a3,a4,b5,b7,b8,rfl,I⟩ B hf1;have B:fb urec vrec bi c1 bb af V cv dc dk c9 ca cb ch ck cl=some f1:=B;unfold fb at B;refine aC ?_;refine am I fun a I=>?_;rcases cd B with⟨o1,B⟩|⟨o1,B⟩
  ·refine am I fun a I=>?_;refine aM (J:=fun a w=>∃ (hc:Bool) (hd:Int) (hf hg:ByteArray) (hh:LK) (hi hj hk:Int) (hl:Bool) (f8:Nat) (hm:Value) (fs:LV),St L (MD [xE F n d.B.r G H f t d.E,xS n v3 d.S.b.r v4 v5 o q,om o M Q,om q x A,om f z D,aA t u]) T 125 [(0,pt F 0),(3,pt dl 0),(5,aj c1),(6,pt f8 0),(7,.bool hc)] [om f av c3,aA b4 ao,xE F n bb a3 a4 f b4 dk,.box dl (aX bi) 30,aA hm fs,.box f8 [aj hd,a8 hf,a8 hg,hm,aj hi,aj hj,aj hk,.bool hl] 33,om o b0 c4,om q b3 c5,xS n b5 ca b7 b8 o q] [aL ac a3 af,aL aa a4 V,uw av cv,ap ad ao dc,ap ad fs hh,aL an b5 c9,aL ac b7 cb,aL aa b8 ch,pg b0 ck,sW b3 cl,bH,pS P0 [aL ac a3 af] aa 33 a4 V] a w/\iy urec vrec bi c1 bb af V cv dc dk c9 ca cb ch ck cl hc hd hf hg hh hi hj hk hl=some f1) ?_ ?_
   ·obtain⟨N188,m1⟩:∃ N,N=w.heap.size:=⟨_,rfl⟩;replace I:=I.fact (IS N188) (pP m1);refine dr [(11,.new N188)] I fun w hQ I=>?_;refine gE [0,1,2,3,4,5] I fun a I=>?_;obtain⟨t1,hz,B⟩:=bd B;refine dQ (i:=6) (j:=10) rfl rfl (by kernel_rfl) rfl rfl ?_ ?_
    ·skip;refine id (bB I rM rfl rfl (bR _ _ I.dlt V bi _ I.g2 _ hz) fun _ w C a O U=>⟨fq (O),?_⟩);obtain⟨t2,ra,he,i3⟩:=C;obtain rfl:=he.symm;have I:=qs U i3;refine gE [7,8,9] I fun a I=>?_;have o2:=(I.g1:N188<=w.heap.size);refine e1 10 (df I eJ rfl fun nd o3 a w O I=>⟨fq (O),?_⟩);refine dw 11 (.blk (some nd)) _ (by kernel_rfl) (pT (cC o2 o3)) ?_;refine es 11 I fun w I=>?_;refine gE [12] I fun a I=>?_;refine eD ?_;exact fin
    skip;have of:=(I.g0:N188<=w.heap.size);refine id (df I eJ rfl fun ng oi a w O I=>⟨fq (O),?_⟩);refine dw 11 (.blk (some ng)) _ (by kernel_rfl) (pT (cC of oi)) ?_;refine ec 6 I rM (bR _ _ I.dlt V bi _ I.g2 _ hz) fun _ w C a O U=>?_;obtain⟨t3,rd,he,i4⟩:=C;obtain rfl:=he.symm;have I:=qs U i4;refine gE [7,8,9] I fun a I=>?_;refine es 11 I fun w I=>?_;refine gE [12] I fun a I=>?_;refine eD ?_;exact fin
   rintro a w ⟨hc,hd,hf,hg,hh,hi,hj,hk,hl,f8,hm,fs,I,B⟩;unfold iy at B;refine aC ?_;refine io ?_;refine am I fun a I=>?_;rcases cd B with⟨oj,B⟩|⟨oj,B⟩
   ·refine am I fun a I=>?_;cases B
    have hr:=hf1 _ rfl;subst hr;replace hMo1:=iE hMo1;have B:=hMo1;cases B
    refine aG I rfl (aw I rfl aI) ?_;have hZ:=I.sl [2,8,6,7,0,1] [5,6,7,8,9,0,1,11,2,3];exact⟨b5,b7,b8,b0,c4,b3,c5,a3,a4,av,c3,b4,ao,rfl,hZ.zd,hZ.g0,hZ.g1,hZ.g2,hZ.g3,hZ.g4,hZ.g5,hZ.g6,hZ.g7,hZ.g8,hZ.g9⟩
   refine am I fun a I=>?_;rcases cd B with⟨ok,B⟩|⟨ok,B⟩
   ·refine am I fun a I=>?_;cases B
    have hr:=hf1 _ rfl;subst hr;replace hMo1:=iE hMo1;have B:=hMo1;cases B
    refine aG I rfl (aw I rfl aI) ?_;have hZ:=I.sl [2,8,6,7,0,1] [5,6,7,8,9,0,1,11,2,3];exact⟨b5,b7,b8,b0,c4,b3,c5,a3,a4,av,c3,b4,ao,rfl,hZ.zd,hZ.g0,hZ.g1,hZ.g2,hZ.g3,hZ.g4,hZ.g5,hZ.g6,hZ.g7,hZ.g8,hZ.g9⟩
   refine am I fun a I=>?_;refine aC ?_;refine aC ?_;refine dr [] I fun w hQ I=>?_;refine gE [0,1,2,3,4,5,6,7] I fun a I=>?_;refine eD ?_;refine am I fun a I=>?_;rcases cd B with⟨op,B⟩|⟨op,B⟩
   ·refine am I fun a I=>?_;cases B
    have hr:=hf1 _ rfl;subst hr;replace hMo1:=iE hMo1;have B:=hMo1;cases B
    refine aG I rfl (aw I rfl aI) ?_;have hZ:=I.sl [2,8,6,7,0,1] [5,6,7,8,9,0,1,11,2,3];exact⟨b5,b7,b8,b0,c4,b3,c5,a3,a4,av,c3,b4,ao,rfl,hZ.zd,hZ.g0,hZ.g1,hZ.g2,hZ.g3,hZ.g4,hZ.g5,hZ.g6,hZ.g7,hZ.g8,hZ.g9⟩
   refine am I fun a I=>?_;refine aC ?_;refine dr [] I fun w hQ I=>?_;refine gE [0,1,2,3,4,5,6,7,8,9,10] I fun a I=>?_;obtain⟨e4,n0,B⟩:=bd B;refine ec 11 I H8 (vr _ _ I.dlt I.g10 V bb bi _ I.g1 _ n0) fun _ w C a O U=>?_;obtain⟨la,hB,he,i5⟩:=C;obtain rfl:=he.symm;have I:=qs U i5;refine gE [12] I fun a I=>?_;refine eD ?_;refine am I fun a I=>?_;have hL:=I;replace hL:=hL.zf (R:=ad) 0 rfl 0 rfl;obtain⟨sT,n3,B⟩:=bd B;refine kc I H9 (pu _ _ hL.dlt V e4 _ _ hL.g3 hL.g0 _ n3) fun _ w C a O U=>?_;obtain⟨q5,no,he,⟨hJ,hI,i9⟩⟩:=C;obtain rfl:=he.symm;have I:=U [nV q5 no] (gc ⟨hJ,by decide⟩ hI) (wX _);replace I:=I.fR i9;refine am I fun a I=>?_;refine aC ?_;refine am I fun a I=>?_;rcases cd B with⟨os,B⟩|⟨os,B⟩
   ·refine am I fun a I=>?_;replace I:=I.zf (R:=ad) 1 rfl 1 rfl;obtain⟨q4,n4,B⟩:=bd B;refine kc I Ia (rW _ _ I.dlt (ah.mk bb af V) e4 false _ _ _ I.g3 I.g4 I.g0 _ n4) fun _ w C a O U=>?_;obtain⟨lb,rg,q6,rl,he,ib,ih,hH⟩:=C;obtain rfl:=he.symm;have I:=Ar U ib ih hH;refine go I fun a w I=>?_;replace I:=(I.zf (R:=ac) 0 rfl 1 rfl).zg (P:=P0) (R:=aa) hx [aL ac lb q4.i] ⟨⟨0,rfl⟩,trivial⟩ 0 rfl 1 rfl;cases B
    have hr:=hf1 _ rfl;subst hr;replace hMo1:=iE hMo1;have B:=hMo1;cases B
    refine aG I rfl (aw I rfl aI) ?_;have hZ:=I.sl [3,9,7,8,1,2] [13,14,15,16,17,2,0,1,10,11];exact⟨b5,b7,b8,b0,c4,b3,c5,lb,q6,av,c3,b4,ao,rfl,hZ.zd,hZ.g0,hZ.g1,hZ.g2,hZ.g3,hZ.g4,hZ.g5,hZ.g6,hZ.g7,hZ.g8,hZ.g9⟩
   refine am I fun a I=>?_;obtain⟨c2,m3,B⟩:=bd B;refine wl rfl (dx (R:=ga) I Lp Gt rfl rfl 0 rfl 0 rfl m3 rfl fun r4 st sy rm p0 p1 p2 a I=>?_);obtain rfl:=p0;refine qy I (cg (k:=0) I Gt 0 rfl p1 p2 rfl id (us:=(G7 c2)) rfl rfl (fun h=>by cases h)) fun a I=>?_;refine ka I IN fun hA sq a w O I=>?_;refine go I fun a w I=>?_;refine aC ?_;refine am I fun a I=>?_;obtain⟨m,ms,B⟩:=bd B;replace I:=I.re [5,11,9,10,3,4] [0,1,2,6,7,8];refine wl rfl (ci I Qo rfl rfl (wz _ _ I.zt (aQ.mk (az.mk c9 (ah.mk ca cb ch) ck cl) (ah.mk bb af V) cv dc dk) c2.p _ _ _ _ _ _ _ _ _ _ _ _ _ _ _ _ _ _ I.dok P0 (I.toP (P:=P0) hx) I.d7 I.d8 I.d9 I.d10 I.d11 I.d2 I.d3 I.d13 I.d4 I.d5 _ ms) fun _ w C a O U=>?_);obtain⟨le,ll,ls,hF,ns,hG,nv,e8,ea,ds,gb,ed,dn,he,p3,ii,j0,j1,hN,hP,j3,jb,e0,hV,hK⟩:=C;obtain rfl:=he.symm;have I:=U _ p3;replace I:=(((((((((I.fS (ii.sub (ay _))).fS (j0.sub (ay _))).fS (j1.sub (ay _))).fM (hN.keep (al _ _) (ay _))).fM (hP.keep (al _ _) (ay _))).fS (j3.sub (ay _))).fS (jb.sub (ay _))).fact (pS P0 [aL ac e8 m.2.B.i] aa 33 ea m.2.B.s) ((pS P0 [aL ac e8 m.2.B.i] aa 33 ea m.2.B.s).keep e0 (al _ _) (ay _))).fM (hV.keep (al _ _) (ay _))).fR (hK.keep (al _ _) (ay _));refine am I fun a I=>?_;rcases cd B with⟨p4,B⟩|⟨p4,B⟩
   ·refine am I fun a I=>?_;obtain⟨ex,n6,B⟩:=bd B;replace I:=I.re [0,1,2,3,4,5] [6,7,8,9,10,11];refine wl rfl (ci I J4 rfl rfl (hurec _ _ I.zt (aQ.mk (az.mk m.2.S.l (ah.mk m.2.S.b.r m.2.S.b.i m.2.S.b.s) m.2.S.e m.2.S.h) (ah.mk m.2.B.r m.2.B.i m.2.B.s) m.2.g m.2.y m.2.E) c2.p _ _ _ _ _ _ _ _ _ _ _ _ _ _ _ _ _ _ I.dok P0 (I.toP (P:=P0) hx) I.d9 I.d8 I.d7 I.d6 I.d5 I.d4 I.d3 I.d2 I.d1 I.d0 I.d22 _ n6) fun _ w C a O U=>?_);obtain⟨t4,t5,t6,sc,rn,sk,rr,lt,lv,sn,rs,t7,rt,he,p5,js,k0,k1,hW,hX,k2,k3,e2,hY,hM⟩:=C;obtain rfl:=he.symm;have I:=U _ p5;replace I:=(((((((((I.fS (js.sub (ay _))).fS (k0.sub (ay _))).fS (k1.sub (ay _))).fM (hW.keep (al _ _) (ay _))).fM (hX.keep (al _ _) (ay _))).fS (k2.sub (ay _))).fS (k3.sub (ay _))).fact (pS P0 [aL ac lt ex.B.i] aa 33 lv ex.B.s) ((pS P0 [aL ac lt ex.B.i] aa 33 lv ex.B.s).keep e2 (al _ _) (ay _))).fM (hY.keep (al _ _) (ay _))).fR (hM.keep (al _ _) (ay _));refine am I fun a I=>?_;exact⟨_,(bM B).symm,_,_,_,_,_,_,_,_,_,_,_,_,_,_,_,_,_,_,_,_,_,_,_,_,_,_,rfl,I.mt [4,5,0,9,2,3,1] [4,3,1,0,9,8,7,6,5,32,2]⟩
   refine am I fun a I=>?_;refine aM (J:=fun a w=>∃ (h5:Int) (h6 h7:ByteArray) (h8:LK) (h9 e3 ha:Int) (hb:Bool) (fd:Nat) (hn:Value) (gi:LV),St L (MD [xE F n d.B.r G H f t d.E,xS n v3 d.S.b.r v4 v5 o q,om o M Q,om q x A,om f z D,aA t u]) T 125 [(0,pt F 0),(3,pt dl 0),(5,aj c1),(8,la),(10,pt hA 0),(11,pt fd 0)] [aA la hB,om f ds gb,aA ed dn,xE F n m.2.B.r e8 ea f ed m.2.E,.box dl (aX bi) 30,.box hA (G7 c2) 257,aA hn gi,.box fd [aj h5,a8 h6,a8 h7,hn,aj h9,aj e3,aj ha,.bool hb] 33,om o hF ns,om q hG nv,xS n le m.2.S.b.r ll ls o q] [ap ad hB e4,aL ac e8 m.2.B.i,aL aa ea m.2.B.s,uw ds m.2.g,ap ad dn m.2.y,ap ad gi h8,aL an le m.2.S.l,aL ac ll m.2.S.b.i,aL aa ls m.2.S.b.s,pg hF m.2.S.e,sW hG m.2.S.h,bH,pS P0 [aL ac e8 m.2.B.i] aa 33 ea m.2.B.s] a w/\ix vrec bi c1 e4 c2 m h5 h6 h7 h8 h9 e3 ha hb=some f1) ?_ ?_
   ·obtain⟨N252,m2⟩:∃ N,N=w.heap.size:=⟨_,rfl⟩;replace I:=I.fact (IS N252) (pP m2);refine dr [(12,.new N252)] I fun w hQ I=>?_;refine gE [0,1,2,3,4,5,6] I fun a I=>?_;obtain⟨t0,hy,B⟩:=bd B;refine dQ (i:=7) (j:=11) rfl rfl (by kernel_rfl) rfl rfl ?_ ?_
    ·skip;refine id (bB I rM rfl rfl (bR _ _ I.dlt m.2.B.s c2.i1 _ I.g4 _ hy) fun _ w C a O U=>⟨fq (O),?_⟩);obtain⟨t9,s0,he,k4⟩:=C;obtain rfl:=he.symm;have I:=qs U k4;refine gE [8,9,10] I fun a I=>?_;have p6:=(I.g1:N252<=w.heap.size);refine e1 11 (df I eJ rfl fun nl p7 a w O I=>⟨fq (O),?_⟩);refine dw 12 (.blk (some nl)) _ (by kernel_rfl) (pT (cC p6 p7)) ?_;refine es 12 I fun w I=>?_;refine gE [13] I fun a I=>?_;refine eD ?_;exact fin
    skip;have pe:=(I.g0:N252<=w.heap.size);refine id (df I eJ rfl fun nm pf a w O I=>⟨fq (O),?_⟩);refine dw 12 (.blk (some nm)) _ (by kernel_rfl) (pT (cC pe pf)) ?_;refine ec 7 I rM (bR _ _ I.dlt m.2.B.s c2.i1 _ I.g4 _ hy) fun _ w C a O U=>?_;obtain⟨te,s1,he,kk⟩:=C;obtain rfl:=he.symm;have I:=qs U kk;refine gE [8,9,10] I fun a I=>?_;refine es 12 I fun w I=>?_;refine gE [13] I fun a I=>?_;refine eD ?_;exact fin
   rintro a w ⟨h5,h6,h7,h8,h9,e3,ha,hb,fd,hn,gi,I,B⟩;unfold ix at B;refine aC ?_;refine aC ?_;refine dr [(10,.bks [some n,some o,some q])] I fun w hQ I=>?_;refine gE [0,1,2,3,4,5,6,7,8,9,11] I fun a I=>?_;refine dq 12 I (l:=[.bks [some n,some o,some q]]) (v:=aj e3) (dm I rfl EY 7 rfl (xN I 7 rfl rfl [10,8,9] rfl rfl bO) (us:=[aj e3]) rfl rfl (fun _=>rfl)) fun a I=>?_;obtain⟨cs,mv,B⟩:=bd B;replace I:=I.re [10,8,9] [0,1,2,3,4,5,6,7];refine e1 10 (ci I NE rfl rfl (vQ _ _ I.zt vrec hvrec (az.mk m.2.S.l (ah.mk m.2.S.b.r m.2.S.b.i m.2.S.b.s) m.2.S.e m.2.S.h) (ah.mk m.2.B.r m.2.B.i m.2.B.s) c2.p _ _ _ _ _ _ _ _ _ _ _ _ I.dok I.d6 I.d7 I.d8 I.d9 I.d10 I.d1 I.d2 I.d11 _ mv) fun _ w C a O U=>⟨jf rfl O (Dt rfl rfl),?_⟩);obtain⟨ho,hp,hq,gs,hC,gu,hE,he,pk,ks,kt,l0,i0,i2⟩:=C;obtain rfl:=he.symm;have I:=U _ pk;replace I:=((((I.fS (ks.sub (ay _))).fS (kt.sub (ay _))).fS (l0.sub (ay _))).fM (i0.keep (al _ _) (ay _))).fM (i2.keep (al _ _) (ay _));refine gE [13] I fun a I=>?_;refine eD ?_;refine am I fun a I=>?_;rcases cd B with⟨pl,B⟩|⟨pl,B⟩
   ·refine am I fun a I=>?_;refine aM (J:=fun a w=>∃ (hw:Int) (f6:LI) (f7:LR) (eg ei:Value),St L (MD [xE F n d.B.r G H f t d.E,xS n v3 d.S.b.r v4 v5 o q,om o M Q,om q x A,om f z D,aA t u]) T 125 [] [om f ds gb,aA ed dn,xE F n hw eg ei f ed m.2.E,om o gs hC,om q gu hE,xS n ho cs.2.b.r hp hq o q] [aL ac eg f6,aL aa ei f7,uw ds m.2.g,ap ad dn m.2.y,aL an ho cs.2.l,aL ac hp cs.2.b.i,aL aa hq cs.2.b.s,pg gs cs.2.e,sW gu cs.2.h,bH,pS P0 [aL ac eg f6] aa 33 ei f7] a w/\iw m cs hw f6 f7=some f1) ?_ ?_
    ·refine am I fun a I=>?_;obtain⟨sz,n1,B⟩:=bd B;refine kF I uf (cY _ _ I.dlt bi _ n1) fun w a I=>?_;rcases cd B with⟨ps,B⟩|⟨ps,B⟩
     ·refine am I fun a I=>?_;replace I:=I.zf (R:=ad) 3 rfl 5 rfl;obtain⟨q3,n2,B⟩:=bd B;refine kc I Ia (rW _ _ I.dlt (ah.mk m.2.B.r m.2.B.i m.2.B.s) e4 true _ _ _ I.g7 I.g8 I.g0 _ n2) fun _ w C a O U=>?_;obtain⟨q7,s2,th,sb,he,l1,l2,hH⟩:=C;obtain rfl:=he.symm;have I:=Ar U l1 l2 hH;refine go I fun a w I=>?_;replace I:=(I.zf (R:=ac) 0 rfl 1 rfl).zg (P:=P0) (R:=aa) hx [aL ac q7 q3.i] ⟨⟨0,rfl⟩,trivial⟩ 0 rfl 1 rfl;exact fin
     exact fz
    rintro a w ⟨hw,f6,f7,eg,ei,I,B⟩;unfold iw at B;refine am I fun a I=>?_;cases B
    have hr:=hf1 _ rfl;subst hr;replace hMo1:=iE hMo1;have B:=hMo1;cases B
    refine aG I rfl (aw I rfl aI) ?_;have hZ:=I.sl [2,5,3,4,0,1] [4,5,6,7,8,0,1,10,2,3];exact⟨ho,hp,hq,gs,hC,gu,hE,eg,ei,ds,gb,ed,dn,rfl,hZ.zd,hZ.g0,hZ.g1,hZ.g2,hZ.g3,hZ.g4,hZ.g5,hZ.g6,hZ.g7,hZ.g8,hZ.g9⟩
   refine am I fun a I=>?_;exact⟨_,(bM B).symm,_,_,_,_,_,_,_,_,_,_,_,_,_,_,_,_,_,_,_,_,_,_,_,_,_,_,rfl,I.mt [4,5,6,7,1,2,0] [6,7,8,9,4,3,2,1,0,16,17]⟩
  exact fz
 rintro a w ⟨hs,f4,f5,ht,hu,hv,gH,h0,h1,h2,h3,h4,eq,fl,eT,el,er,fn,et,fr,e5,e6,eX,f2,f3,I,B⟩;unfold lp at B;refine am I fun a I=>?_;cases B
 refine aG I rfl (aw I rfl aI) ?_;have hZ:=I.sl [2,5,3,4,0,1] [4,5,6,7,8,0,1,10,2,3];exact⟨eX,f2,f3,er,fn,et,fr,e5,e6,eq,fl,eT,el,rfl,hZ.zd,hZ.g0,hZ.g1,hZ.g2,hZ.g3,hZ.g4,hZ.g5,hZ.g6,hZ.g7,hZ.g8,hZ.g9⟩
def ju (h:Int) (i:LI) (j:LR) (k:LO) (l:LK) (m:Int) (b:LU) (c:Int) (d:LI) (e:LR) (f:LB) (g:LL):=some ((aQ.mk (az.mk b (ah.mk c d e) f g) (ah.mk h i j) k l m))
def eK (l:ae) (o:LK) (b:Int) (c:LI) (d:LR) (m:LO) (e:LK) (s:Int) (f:LU) (g:Int) (h:LI) (i:LR) (j:LB) (k:LL) (p:ByteArray) (n:Bool):Option (Fl (LK×LY×Int×LI×LR×LO×LK×Int×LU×Int×LI×LR×LB×LL) (Fl (Int×LI×LR×LO×LK×Int×LU×Int×LI×LR×LB×LL) aQ)):=cond n (some (.out (.out (aQ.mk (az.mk f (ah.mk g h i) j k) (ah.mk b c d) m e 45)))) ((qk (ah.mk b c d) l p o).bind fun q=>(mO d q).bind fun r=>gd (bP (e.length+([l]).length)) <| some (.out (.out (aQ.mk (az.mk f (ah.mk g h i) j k) (ah.mk b c r) m (e++([l])) s))))
def jv (p:ae) (i:LK) (k:Int) (l:LI) (b:LR) (m:LO) (n:LK) (o:Int) (c:LU) (d:Int) (e:LI) (f:LR) (g:LB) (h:LL) (j:ByteArray) (q:Bool):=cond (!(q)) (eK p i k l b m n o c d e f g h j (decide ((4000:Int)<=(b.length:Int)))) (eK p i k l b m n o c d e f g h j false)
def jw (urec:aQ->ae->Option aQ) (vrec:az->ae->Option (ByteArray×az)) (G:ae) (f:LK) (m:LY) (x:Int) (z:LI) (n:LR) (A:LO) (D:LK) (F:Int) (o:LU) (p:Int) (q:LI) (t:LR) (u:LB) (v:LL) (J:Bool) (H:ByteArray) (j:Int) (k:ByteArray):=cond J ((cm n G).bind fun K=>jv G f x z n A D F o p q t u v H K.2) ((urec (aQ.mk (az.mk o (ah.mk p q t) u v) (ah.mk x z n) A D F) (ae.mk j k)).bind fun c=>cond (c.E==0) (gd (bP (f.length+([(ae.mk j k)]).length)) <| (mP vrec c.S c.B (ae.mk j k)).bind fun d=>gd (bP (m.length+([d.1]).length)) <| some (.go ((f++([(ae.mk j k)])),(m++([d.1])),c.B.r,c.B.i,c.B.s,c.g,c.y,c.E,d.2.l,d.2.b.r,d.2.b.i,d.2.b.s,d.2.e,d.2.h))) (some (.go (f,m,c.B.r,c.B.i,c.B.s,c.g,c.y,c.E,c.S.l,c.S.b.r,c.S.b.i,c.S.b.s,c.S.e,c.S.h))))
def gr (urec:aQ->ae->Option aQ) (vrec:az->ae->Option (ByteArray×az)) (p:ae) (q:LK) (e:LY) (k:Int) (l:LI) (m:LR) (n:LO) (o:LK) (d:Int) (c:LU) (f:Int) (g:LI) (h:LR) (i:LB) (j:LL):=cond (d==0) ((ej c p e).bind fun b=>jw urec vrec p q e k l m n o d c f g h i j b.c1 b.u b.x1.v b.x1.x) (some (.out (.go (k,l,m,n,o,d,c,f,g,h,i,j))))
def gR (urec:aQ->ae->Option aQ) (vrec:az->ae->Option (ByteArray×az)) (c:aQ) (d:ae):=(loop (fun s:LK×LY×Int×LI×LR×LO×LK×Int×LU×Int×LI×LR×LB×LL=>gr urec vrec d s.1 s.2.1 s.2.2.1 s.2.2.2.1 s.2.2.2.2.1 s.2.2.2.2.2.1 s.2.2.2.2.2.2.1 s.2.2.2.2.2.2.2.1 s.2.2.2.2.2.2.2.2.1 s.2.2.2.2.2.2.2.2.2.1 s.2.2.2.2.2.2.2.2.2.2.1 s.2.2.2.2.2.2.2.2.2.2.2.1 s.2.2.2.2.2.2.2.2.2.2.2.2.1 s.2.2.2.2.2.2.2.2.2.2.2.2.2) (([]:List ae),([]:List ByteArray),c.B.r,c.B.i,c.B.s,c.g,c.y,c.E,c.S.l,c.S.b.r,c.S.b.i,c.S.b.s,c.S.e,c.S.h)).bind fun r=>Fl.el r (fun s=>ju s.1 s.2.1 s.2.2.1 s.2.2.2.1 s.2.2.2.2.1 s.2.2.2.2.2.1 s.2.2.2.2.2.2.1 s.2.2.2.2.2.2.2.1 s.2.2.2.2.2.2.2.2.1 s.2.2.2.2.2.2.2.2.2.1 s.2.2.2.2.2.2.2.2.2.2.1 s.2.2.2.2.2.2.2.2.2.2.2) (fun y=>some (y))
theorem xV (urec:aQ->ae->Option aQ) (hurec:wG urec) (vrec:az->ae->Option (ByteArray×az)) (hvrec:ov vrec) (d:aQ) (X:ae) (t m:Nat) (v3 v4 v5:Value) (n:Nat) (W:Array MapEntry) (a0 o:Nat) (z:Array MapEntry) (D:Nat) (K M:Value) (f:Nat) (A:Array MapEntry) (F:Nat) (q:Value) (u:bI) (hD:xH T L [xE t m d.B.r K M f q d.E,xS m v3 d.S.b.r v4 v5 n o,om n W a0,om o z D,om f A F,aA q u]) (P0:Nat->Prop) (hv:∀ k,MD [xE t m d.B.r K M f q d.E,xS m v3 d.S.b.r v4 v5 n o,om n W a0,om o z D,om f A F,aA q u] k∨L.heap.size<=k->P0 k) (j1:aF an (dT T [xE t m d.B.r K M f q d.E,xS m v3 d.S.b.r v4 v5 n o,om n W a0,om o z D,om f A F,aA q u]) L v3 d.S.l) (j3:aF ac (dT T [xE t m d.B.r K M f q d.E,xS m v3 d.S.b.r v4 v5 n o,om n W a0,om o z D,om f A F,aA q u]) L v4 d.S.b.i) (jb:aF aa (dT T [xE t m d.B.r K M f q d.E,xS m v3 d.S.b.r v4 v5 n o,om n W a0,om o z D,om f A F,aA q u]) L v5 d.S.b.s) (ih:bE ad true a6.str false (dT T [xE t m d.B.r K M f q d.E,xS m v3 d.S.b.r v4 v5 n o,om n W a0,om o z D,om f A F,aA q u]) L W d.S.e) (ii:bE ad true (a6.slice ad) false (dT T [xE t m d.B.r K M f q d.E,xS m v3 d.S.b.r v4 v5 n o,om n W a0,om o z D,om f A F,aA q u]) L z d.S.h) (i2:aF ac (dT T [xE t m d.B.r K M f q d.E,xS m v3 d.S.b.r v4 v5 n o,om n W a0,om o z D,om f A F,aA q u]) L K d.B.i) (i3:aF aa (dT T [xE t m d.B.r K M f q d.E,xS m v3 d.S.b.r v4 v5 n o,om n W a0,om o z D,om f A F,aA q u]) L M d.B.s) (hp:(pS P0 [aL ac K d.B.i] aa 33 M d.B.s).p (dT T [xE t m d.B.r K M f q d.E,xS m v3 d.S.b.r v4 v5 n o,om n W a0,om o z D,om f A F,aA q u]) L) (i1:bE ad true a6.bool false (dT T [xE t m d.B.r K M f q d.E,xS m v3 d.S.b.r v4 v5 n o,om n W a0,om o z D,om f A F,aA q u]) L A d.g) (i4:bk ad (dT T [xE t m d.B.r K M f q d.E,xS m v3 d.S.b.r v4 v5 n o,om n W a0,om o z D,om f A F,aA q u]) L u d.y) (hLv:dh (dT T [xE t m d.B.r K M f q d.E,xS m v3 d.S.b.r v4 v5 n o,om n W a0,om o z D,om f A F,aA q u]) L) (y:aQ) (B:gR urec vrec d X=some y):bg aR (MD [xE t m d.B.r K M f q d.E,xS m v3 d.S.b.r v4 v5 n o,om n W a0,om o z D,om f A F,aA q u]) 175 [pt t 0,.agg (aX X).toArray] L (fun v w'=>∃ (cv d0 d1:Value) (ab:Array MapEntry) (b8:Nat) (af:Array MapEntry) (bb:Nat) (ch ck:Value) (ag:Array MapEntry) (bi:Nat) (Q:Value) (a9:bI),v = .tuple #[]/\mx L w' [xE t m d.B.r K M f q d.E,xS m v3 d.S.b.r v4 v5 n o,om n W a0,om o z D,om f A F,aA q u] [xE t m y.B.r ch ck f Q y.E,xS m cv y.S.b.r d0 d1 n o,om n ab b8,om o af bb,om f ag bi,aA Q a9]/\aF an (dT T [xE t m y.B.r ch ck f Q y.E,xS m cv y.S.b.r d0 d1 n o,om n ab b8,om o af bb,om f ag bi,aA Q a9]) w' cv y.S.l/\aF ac (dT T [xE t m y.B.r ch ck f Q y.E,xS m cv y.S.b.r d0 d1 n o,om n ab b8,om o af bb,om f ag bi,aA Q a9]) w' d0 y.S.b.i/\aF aa (dT T [xE t m y.B.r ch ck f Q y.E,xS m cv y.S.b.r d0 d1 n o,om n ab b8,om o af bb,om f ag bi,aA Q a9]) w' d1 y.S.b.s/\bE ad true a6.str false (dT T [xE t m y.B.r ch ck f Q y.E,xS m cv y.S.b.r d0 d1 n o,om n ab b8,om o af bb,om f ag bi,aA Q a9]) w' ab y.S.e/\bE ad true (a6.slice ad) false (dT T [xE t m y.B.r ch ck f Q y.E,xS m cv y.S.b.r d0 d1 n o,om n ab b8,om o af bb,om f ag bi,aA Q a9]) w' af y.S.h/\aF ac (dT T [xE t m y.B.r ch ck f Q y.E,xS m cv y.S.b.r d0 d1 n o,om n ab b8,om o af bb,om f ag bi,aA Q a9]) w' ch y.B.i/\aF aa (dT T [xE t m y.B.r ch ck f Q y.E,xS m cv y.S.b.r d0 d1 n o,om n ab b8,om o af bb,om f ag bi,aA Q a9]) w' ck y.B.s/\(pS P0 [aL ac ch y.B.i] aa 33 ck y.B.s).p (dT T [xE t m y.B.r ch ck f Q y.E,xS m cv y.S.b.r d0 d1 n o,om n ab b8,om o af bb,om f ag bi,aA Q a9]) w'/\bE ad true a6.bool false (dT T [xE t m y.B.r ch ck f Q y.E,xS m cv y.S.b.r d0 d1 n o,om n ab b8,om o af bb,om f ag bi,aA Q a9]) w' ag y.g/\bk ad (dT T [xE t m y.B.r ch ck f Q y.E,xS m cv y.S.b.r d0 d1 n o,om n ab b8,om o af bb,om f ag bi,aA Q a9]) w' a9 y.y):=by
 refine fT (c:=_) Tryz.func175 rfl T 107 Tryz.ntmps175 hT rfl hD fun a I=>?_;replace I:=((((((((((I.fact bH hLv).fS j1).fS j3).fS jb).fM ih).fM ii).fS i2).fS i3).fact (pS P0 [aL ac K d.B.i] aa 33 M d.B.s) hp).fM i1).fR i4;unfold gR at B;refine kB I fun dc m0 a w O I=>?_;refine QR I fun a I=>?_;refine io ?_;refine QR I fun a I=>?_;refine io ?_;refine QR I fun a I=>?_;refine Ix (J:=fun a w=>∃ (gs:Int) (f3:LI) (f4:LR) (gu:LO) (gH:LK) (h0:Int) (f8:LU) (fd:Int) (fl:LI) (fn:LR) (fr:LB) (fs:LL) (ei:AM) (f5:Nat) (er:Value) (eg:LV) (el:AM) (f6:Nat) (eq:AM) (f7:Nat) (ea ed:Value) (et ex eT:Value),St L (MD [xE t m d.B.r K M f q d.E,xS m v3 d.S.b.r v4 v5 n o,om n W a0,om o z D,om f A F,aA q u]) T 107 [] [om f ei f5,aA er eg,xE t m gs ea ed f er h0,om n el f6,om o eq f7,xS m et fd ex eT n o] [aL ac ea f3,aL aa ed f4,uw ei gu,ap ad eg gH,aL an et f8,aL ac ex fl,aL aa eT fn,pg el fr,sW eq fs,bH,pS P0 [aL ac ea f3] aa 33 ed f4] a w/\ju gs f3 f4 gu gH h0 f8 fd fl fn fr fs=some y) ?_ ?_
 ·refine am I fun a I=>?_;replace I:=(I.zn ad 30 (by decide)).zn a6.str 9 (by decide);obtain⟨r1,j0,hMo1⟩:=bd B;refine bF _ (fun s a w=>∃ (b4:LK) (cl:LY) (a4:Int) (H:LI) (G:LR) (b5:LO) (a5:LK) (b7:Int) (a1:LU) (ak:Int) (ao:LI) (av:LR) (b0:LB) (b3:LL) (a3:Value) (cs:LV) (e4:Value) (e5:LV) (bl:AM) (ds:Nat) (c1:Value) (c5:LV) (bs:AM) (e0:Nat) (bt:AM) (e2:Nat) (V a2:Value) (c2 c3 c4:Value),(b4,cl,a4,H,G,b5,a5,b7,a1,ak,ao,av,b0,b3)=s/\St L (MD [xE t m d.B.r K M f q d.E,xS m v3 d.S.b.r v4 v5 n o,om n W a0,om o z D,om f A F,aA q u]) T 107 [(0,pt t 0),(3,pt dc 0),(4,a3),(5,e4)] [aA a3 cs,.own e4 9 a6.str.size e5,om f bl ds,aA c1 c5,xE t m a4 V a2 f c1 b7,.box dc (aX X) 30,om n bs e0,om o bt e2,xS m c2 ak c3 c4 n o] [ap ad cs b4,ap a6.str e5 cl,aL ac V H,aL aa a2 G,uw bl b5,ap ad c5 a5,aL an c2 a1,aL ac c3 ao,aL aa c4 av,pg bs b0,sW bt b3,bH,pS P0 [aL ac V H] aa 33 a2 G] a w) j0 ⟨_,_,_,_,_,_,_,_,_,_,_,_,_,_,_,_,_,_,_,_,_,_,_,_,_,_,_,_,_,_,_,rfl,I.mt [1,0,7,8,3,2,5,6,4] [1,0,6,5,3,2,11,10,9,8,7,12,4]⟩ ?_;rintro s a w f1 ⟨b4,cl,a4,H,G,b5,a5,b7,a1,ak,ao,av,b0,b3,a3,cs,e4,e5,bl,ds,c1,c5,bs,e0,bt,e2,V,a2,c2,c3,c4,rfl,I⟩ B hf1;have B:gr urec vrec X b4 cl a4 H G b5 a5 b7 a1 ak ao av b0 b3=some f1:=B;unfold gr at B;refine aC ?_;refine am I fun a I=>?_;rcases cd B with⟨hB,B⟩|⟨hB,B⟩
  ·refine am I fun a I=>?_;refine aM (J:=fun a w=>∃ (e8:Bool) (dk:ByteArray) (Y:Int) (Z:ByteArray) (dn:Nat),St L (MD [xE t m d.B.r K M f q d.E,xS m v3 d.S.b.r v4 v5 n o,om n W a0,om o z D,om f A F,aA q u]) T 107 [(0,pt t 0),(3,pt dc 0),(4,a3),(5,e4),(6,pt dn 0)] [aA a3 cs,.own e4 9 a6.str.size e5,om f bl ds,aA c1 c5,xE t m a4 V a2 f c1 b7,.box dc (aX X) 30,.box dn [.bool e8,a8 dk,aj Y,a8 Z] 225,om n bs e0,om o bt e2,xS m c2 ak c3 c4 n o] [ap ad cs b4,ap a6.str e5 cl,aL ac V H,aL aa a2 G,uw bl b5,ap ad c5 a5,aL an c2 a1,aL ac c3 ao,aL aa c4 av,pg bs b0,sW bt b3,bH,pS P0 [aL ac V H] aa 33 a2 G] a w/\jw urec vrec X b4 cl a4 H G b5 a5 b7 a1 ak ao av b0 b3 e8 dk Y Z=some f1) ?_ ?_
   ·obtain⟨N172,hn⟩:∃ N,N=w.heap.size:=⟨_,rfl⟩;replace I:=I.fact (IS N172) (pP hn);refine dr [(11,.new N172)] I fun w hQ I=>?_;refine gE [0,1,2,3,4,5,6,7,8] I fun a I=>?_;have hL:=I;replace hL:=hL.zf (R:=a6.str) 1 rfl 2 rfl;obtain⟨m3,h2,B⟩:=bd B;refine dQ (i:=9) (j:=10) rfl rfl (by kernel_rfl) rfl rfl ?_ ?_
    ·skip;have hL:=I;replace hL:=hL.zf (R:=a6.str) 1 rfl 2 rfl;refine id (bB I wa rfl rfl (eE _ _ hL.dlt hL.g13 a1 X cl _ _ hL.g8 hL.g0 _ h2) fun _ w C a O U=>⟨fq (O),?_⟩);obtain rfl:=C;have I:=eL U;have hC:=(I.g0:N172<=w.heap.size);refine e1 10 (df I nP rfl fun hw hE a w O I=>⟨fq (O),?_⟩);refine dw 11 (.blk (some hw)) _ (by kernel_rfl) (pT (cC hC hE)) ?_;refine es 11 I fun w I=>?_;refine eD ?_;exact fin
    skip;have hF:=(I.g0:N172<=w.heap.size);refine id (df I nP rfl fun hx hG a w O I=>⟨fq (O),?_⟩);refine dw 11 (.blk (some hx)) _ (by kernel_rfl) (pT (cC hF hG)) ?_;have hL:=I;replace hL:=hL.zf (R:=a6.str) 2 rfl 2 rfl;refine ec 9 I wa (eE _ _ hL.dlt hL.g13 a1 X cl _ _ hL.g8 hL.g0 _ h2) fun _ w C a O U=>?_;obtain rfl:=C;have I:=eL U;refine es 11 I fun w I=>?_;refine eD ?_;exact fin
   rintro a w ⟨e8,dk,Y,Z,dn,I,B⟩;unfold jw at B;refine aC ?_;refine am I fun a I=>?_;rcases cd B with⟨hH,B⟩|⟨hH,B⟩
   ·refine am I fun a I=>?_;refine aC ?_;refine aM (J:=fun a w=>∃ (gi:Bool),St L (MD [xE t m d.B.r K M f q d.E,xS m v3 d.S.b.r v4 v5 n o,om n W a0,om o z D,om f A F,aA q u]) T 107 [(0,pt t 0),(3,pt dc 0),(4,a3),(6,pt dn 0),(8,.bool gi)] [aA a3 cs,om f bl ds,aA c1 c5,xE t m a4 V a2 f c1 b7,.box dc (aX X) 30,.box dn [.bool e8,a8 dk,aj Y,a8 Z] 225,om n bs e0,om o bt e2,xS m c2 ak c3 c4 n o] [ap ad cs b4,aL ac V H,aL aa a2 G,uw bl b5,ap ad c5 a5,aL an c2 a1,aL ac c3 ao,aL aa c4 av,pg bs b0,sW bt b3,bH,pS P0 [aL ac V H] aa 33 a2 G] a w/\jv X b4 a4 H G b5 a5 b7 a1 ak ao av b0 b3 dk gi=some f1) ?_ ?_
    ·obtain⟨N180,ho⟩:∃ N,N=w.heap.size:=⟨_,rfl⟩;replace I:=I.fact (IS N180) (pP ho);refine dr [(11,.new N180)] I fun w hQ I=>?_;refine gE [0,1,2,3,4,5] I fun a I=>?_;obtain⟨m2,h1,B⟩:=bd B;refine dQ (i:=6) (j:=10) rfl rfl (by kernel_rfl) rfl rfl ?_ ?_
     ·skip;refine id (bB I rM rfl rfl (bR _ _ I.dlt G X _ I.g4 _ h1) fun _ w C a O U=>⟨fq (O),?_⟩);obtain⟨md,k2,he,h9⟩:=C;obtain rfl:=he.symm;have I:=qs U h9;refine gE [7,8,9] I fun a I=>?_;have hI:=(I.g1:N180<=w.heap.size);refine e1 10 (df I eJ rfl fun hy hJ a w O I=>⟨fq (O),?_⟩);refine dw 11 (.blk (some hy)) _ (by kernel_rfl) (pT (cC hI hJ)) ?_;refine es 11 I fun w I=>?_;refine gE [12] I fun a I=>?_;refine eD ?_;exact fin
     skip;have hK:=(I.g0:N180<=w.heap.size);refine id (df I eJ rfl fun hz hM a w O I=>⟨fq (O),?_⟩);refine dw 11 (.blk (some hz)) _ (by kernel_rfl) (pT (cC hK hM)) ?_;refine ec 6 I rM (bR _ _ I.dlt G X _ I.g4 _ h1) fun _ w C a O U=>?_;obtain⟨ms,k3,he,ha⟩:=C;obtain rfl:=he.symm;have I:=qs U ha;refine gE [7,8,9] I fun a I=>?_;refine es 11 I fun w I=>?_;refine gE [12] I fun a I=>?_;refine eD ?_;exact fin
    rintro a w ⟨gi,I,B⟩;unfold jv at B;refine aM (J:=fun a w=>∃ (gb:Bool),St L (MD [xE t m d.B.r K M f q d.E,xS m v3 d.S.b.r v4 v5 n o,om n W a0,om o z D,om f A F,aA q u]) T 107 [(0,pt t 0),(3,pt dc 0),(4,a3),(6,pt dn 0),(46,.bool gb)] [aA a3 cs,om f bl ds,aA c1 c5,xE t m a4 V a2 f c1 b7,.box dc (aX X) 30,.box dn [.bool e8,a8 dk,aj Y,a8 Z] 225,om n bs e0,om o bt e2,xS m c2 ak c3 c4 n o] [ap ad cs b4,aL ac V H,aL aa a2 G,uw bl b5,ap ad c5 a5,aL an c2 a1,aL ac c3 ao,aL aa c4 av,pg bs b0,sW bt b3,bH,pS P0 [aL ac V H] aa 33 a2 G] a w/\eK X b4 a4 H G b5 a5 b7 a1 ak ao av b0 b3 dk gb=some f1) ?_ ?_
    ·exact fz
    rintro a w ⟨gb,I,B⟩;unfold eK at B;rcases cd B with⟨hN,B⟩|⟨hN,B⟩
    ·refine go I fun a w I=>?_;cases B
     have hr:=hf1 _ rfl;subst hr;replace hMo1:=iE hMo1;have B:=hMo1;cases B
     refine aG I Tryz.results175 aI ?_;have hZ:=I.sl [3,8,6,7,1,2] [5,6,7,8,9,1,2,11,3,4];exact⟨c2,c3,c4,bs,e0,bt,e2,V,a2,bl,ds,c1,c5,rfl,hZ.zd,hZ.g0,hZ.g1,hZ.g2,hZ.g3,hZ.g4,hZ.g5,hZ.g6,hZ.g7,hZ.g8,hZ.g9⟩
    refine am I fun a I=>?_;refine aC ?_;refine dr [(19,.blk (some t))] I fun w hQ I=>?_;refine gE [0,1,2,3,4,5,6,7,8,9,10,11,12,13] I fun a I=>?_;replace I:=I.zf (R:=ad) 0 rfl 0 rfl;obtain⟨i5,hq,B⟩:=bd B;refine ec 14 I NG (ze _ _ I.dlt (ah.mk a4 H G) X dk b4 _ _ _ I.g2 I.g3 I.g0 _ hq) fun _ w C a O U=>?_;obtain⟨mv,he,hb⟩:=C;obtain rfl:=he.symm;have I:=U [] (fun r hr=>by cases hr) pY;replace I:=I.fS (hb.sub (eY _));obtain⟨m1,hs,B⟩:=bd B;refine ec 15 I NF (AG _ _ I.dlt I.g12 G i5 _ _ I.g4 I.g0 _ hs) fun _ w C a O U=>?_;obtain⟨i9,k4,he,hc⟩:=C;obtain rfl:=he.symm;have I:=qs U hc;refine gE [16,17,18] I fun a I=>?_;refine es 19 I fun w I=>?_;refine eD ?_;refine am I fun a I=>?_;refine aC ?_;refine dr [(7,.blk (Value.ownBlock c1)),(10,.blk (some t))] I fun w hQ I=>?_;refine gE [0,1,2,3,4,5] I fun a I=>?_;refine e1 6 (bf (ps:=[(0,.tmp 74)]) I iA fH (zl:=[aj 0,a8 cp]) (by kernel_rfl) rfl (us:=[(aX X)]) ⟨rfl,trivial⟩ (ws:=(aX X)) rfl rfl rfl rfl fun js a w O I=>⟨fq (O),?_⟩);replace I:=(I.lit (R:=ad) (us:=(aX X)) (xs:=[X]) 0 rfl (by decide) (aP (R:=ad) (x:=X) rfl) rfl rfl).zf (R:=ad) 0 rfl 0 rfl;obtain⟨hP,B⟩:=aW B;refine e1 7 (bG (R:=ad) (xs:=a5) (ys:=[X]) I iA (by decide) (by decide) rfl rfl 2 rfl 9 rfl 0 rfl hP rfl fun ib hA a w O I=>⟨jf rfl O kO,?_⟩);refine gE [8,9] I fun a I=>?_;refine es 10 I fun w I=>?_;refine eD ?_;refine am I fun a I=>?_;replace I:=I.zg (P:=P0) (R:=aa) hv [aL ac V H] ⟨⟨7,rfl⟩,trivial⟩ 0 rfl 3 rfl;cases B
    have hr:=hf1 _ rfl;subst hr;replace hMo1:=iE hMo1;have B:=hMo1;cases B
    refine aG I Tryz.results175 aI ?_;have hZ:=I.sl [2,7,5,6,0,1] [13,14,15,16,17,9,0,1,11,2];exact⟨c2,c3,c4,bs,e0,bt,e2,V,i9,bl,ds,ib,hA,rfl,hZ.zd,hZ.g0,hZ.g1,hZ.g2,hZ.g3,hZ.g4,hZ.g5,hZ.g6,hZ.g7,hZ.g8,hZ.g9⟩
   refine am I fun a I=>?_;obtain⟨dl,ht,B⟩:=bd B;replace I:=I.re [4,9,7,8,2,3] [0,1,5,6];refine wl rfl (ci I J4 rfl rfl (hurec _ _ I.zt (aQ.mk (az.mk a1 (ah.mk ak ao av) b0 b3) (ah.mk a4 H G) b5 a5 b7) (ae.mk Y Z) _ _ _ _ _ _ _ _ _ _ _ _ _ _ _ _ _ _ I.dok P0 (I.toP (P:=P0) hv) I.d6 I.d7 I.d8 I.d9 I.d10 I.d2 I.d3 I.d12 I.d4 I.d5 I.d11 _ ht) fun _ w C a O U=>?_);obtain⟨n0,n1,n2,le,kk,ll,ks,eX,f2,ls,kt,n3,l0,he,hV,hd,hf,hg,h4,h5,hh,hi,e6,h6,h3⟩:=C;obtain rfl:=he.symm;have I:=U _ hV;replace I:=(((((((((I.fS (hd.sub (ay _))).fS (hf.sub (ay _))).fS (hg.sub (ay _))).fM (h4.keep (al _ _) (ay _))).fM (h5.keep (al _ _) (ay _))).fS (hh.sub (ay _))).fS (hi.sub (ay _))).fact (pS P0 [aL ac eX dl.B.i] aa 33 f2 dl.B.s) ((pS P0 [aL ac eX dl.B.i] aa 33 f2 dl.B.s).keep e6 (al _ _) (ay _))).fM (h6.keep (al _ _) (ay _))).fR (h3.keep (al _ _) (ay _));refine am I fun a I=>?_;rcases cd B with⟨hW,B⟩|⟨hW,B⟩
   ·refine am I fun a I=>?_;refine dr [(4,.blk (Value.ownBlock a3)),(16,.bks [some m,some n,some o]),(18,.blk (Value.ownBlock e4))] I fun w hQ I=>?_;refine gE [0,1,2,5,6,7,8] I fun a I=>?_;refine dq 9 I (l:=[.blk (Value.ownBlock a3)]) (v:=pt m 0) (dm I rfl N3 0 rfl (gA I 0 rfl rfl 6 rfl rfl (by decide) bO) (us:=[pt m 0]) rfl rfl (fun _=>rfl)) fun a I=>?_;refine gE [10,11,12] I fun a I=>?_;refine dq 13 I (l:=[.blk (Value.ownBlock a3)]) (v:=.agg (aU dl.B eX f2).toArray) (dm I rfl f9 0 rfl (gA I 0 rfl rfl 6 rfl rfl (by decide) bO) (us:=(aU dl.B eX f2)) rfl rfl (fun h=>by cases h)) fun a I=>?_;refine gE [14] I fun a I=>?_;refine dq 15 I (l:=[.blk (Value.ownBlock a3)]) (v:=.agg #[aj Y,a8 Z]) (dm I rfl dB 9 rfl (gA I 9 rfl rfl 6 rfl rfl (by decide) bO) (us:=[aj Y,a8 Z]) rfl rfl (fun h=>by cases h)) fun a I=>?_;refine e1 3 (bf (ps:=[(0,.tmp 90)]) I iA fH (zl:=[aj 0,a8 cp]) (by kernel_rfl) rfl (us:=[[aj Y,a8 Z]]) ⟨rfl,trivial⟩ (ws:=[aj Y,a8 Z]) rfl rfl rfl rfl fun k0 a w O I=>⟨fq (O),?_⟩);replace I:=(I.lit (R:=ad) (us:=[aj Y,a8 Z]) (xs:=[(ae.mk Y Z)]) 0 rfl (by decide) (aP (R:=ad) (x:=(ae.mk Y Z)) rfl) rfl rfl).zf (R:=ad) 0 rfl 0 rfl;obtain⟨hX,B⟩:=aW B;refine e1 4 (bG (R:=ad) (xs:=b4) (ys:=[(ae.mk Y Z)]) I iA (by decide) (by decide) rfl rfl 6 rfl 12 rfl 0 rfl hX rfl fun n4 l1 a w O I=>⟨jf rfl O kO,?_⟩);obtain⟨e3,hu,B⟩:=bd B;replace I:=I.re [1,2,3] [0,4,5,6,7,8,9];refine e1 16 (ci I NH rfl rfl (ww _ _ I.zt vrec hvrec dl.S dl.B (ae.mk Y Z) _ _ _ _ _ _ _ _ _ _ _ _ I.dok I.d12 I.d11 I.d10 I.d9 I.d8 I.d7 I.d6 I.d24 _ hu) fun _ w C a O U=>⟨jf rfl O (Dt rfl rfl),?_⟩);obtain⟨n6,nd,ng,lt,l2,lv,la,he,hY,hj,hk,hl,h7,h8⟩:=C;obtain rfl:=he.symm;have I:=U _ hY;replace I:=((((I.fS (hj.sub (ay _))).fS (hk.sub (ay _))).fS (hl.sub (ay _))).fM (h7.keep (al _ _) (ay _))).fM (h8.keep (al _ _) (ay _));refine e1 17 (bf (ps:=[(0,.tmp 104)]) I zK O2 (zl:=[a8 cp]) (by kernel_rfl) rfl (us:=[[a8 e3.1]]) ⟨rfl,trivial⟩ (ws:=[a8 e3.1]) rfl rfl rfl rfl fun k1 a w O I=>⟨fq (O),?_⟩);replace I:=(I.lit (R:=a6.str) (us:=[a8 e3.1]) (xs:=[e3.1]) 0 rfl (by decide) (aP (R:=a6.str) (x:=e3.1) rfl) rfl rfl).zf (R:=a6.str) 0 rfl 0 rfl;obtain⟨i0,B⟩:=aW B;refine e1 18 (bG (R:=a6.str) (xs:=cl) (ys:=[e3.1]) I zK (by decide) (by decide) rfl rfl 7 rfl 21 rfl 0 rfl i0 rfl fun nl lb a w O I=>⟨jf rfl O kO,?_⟩);refine gE [19,20] I fun a I=>?_;refine eD ?_;exact⟨_,(bM B).symm,_,_,_,_,_,_,_,_,_,_,_,_,_,_,_,_,_,_,_,_,_,_,_,_,_,_,_,_,_,_,_,rfl,I.mt [6,7,4,5,3,8,1,2,0] [8,0,15,14,12,11,7,6,5,4,3,32,13]⟩
   refine am I fun a I=>?_;exact fin
  refine am I fun a I=>?_;cases B
  have hr:=hf1 _ rfl;subst hr;replace hMo1:=QQ hMo1;have B:ju a4 H G b5 a5 b7 a1 ak ao av b0 b3=some y:=hMo1;exact⟨_,_,_,_,_,_,_,_,_,_,_,_,_,_,_,_,_,_,_,_,_,_,_,_,_,I.mt [2,3,4,6,7,8] [2,3,4,5,6,7,8,9,10,11,12],B⟩
 rintro a w ⟨gs,f3,f4,gu,gH,h0,f8,fd,fl,fn,fr,fs,ei,f5,er,eg,el,f6,eq,f7,ea,ed,et,ex,eT,I,B⟩;unfold ju at B;refine Oo ?_;cases B
 refine aG I Tryz.results175 aI ?_;have hZ:=I.sl [2,5,3,4,0,1] [4,5,6,7,8,0,1,10,2,3];exact⟨et,ex,eT,el,f6,eq,f7,ea,ed,ei,f5,er,eg,rfl,hZ.zd,hZ.g0,hZ.g1,hZ.g2,hZ.g3,hZ.g4,hZ.g5,hZ.g6,hZ.g7,hZ.g8,hZ.g9⟩
def kr (b:aQ) (c:Int):=some ((aQ.mk b.S b.B b.g b.y c))
def fi (n:ae) (h:Int) (i:LI) (j:LR) (k:LO) (l:LK) (m:Int) (b:LU) (c:Int) (d:LI) (e:LR) (f:LB) (g:LL):=some ((aQ.mk (az.mk b (ah.mk c d e) f g) (ah.mk h i j) (tn aK n k) l m))
def fj (urec:aQ->ae->Option aQ) (vrec:az->ae->Option (ByteArray×az)) (f:aQ) (j:ae) (k:Bool):=cond k (some (f)) ((some ((cF aK j f.g).getD false)).bind fun m=>cond m ((cO j).bind fun n=>cond (!(n)) (kr f 43) (kr f f.E)) ((fh urec vrec (aQ.mk f.S f.B (dS aK j true f.g) f.y f.E) j).bind fun c=>cond c.1 ((gR urec vrec (aQ.mk (az.mk c.2.S.l (ah.mk c.2.S.b.r c.2.S.b.i c.2.S.b.s) c.2.S.e c.2.S.h) (ah.mk c.2.B.r c.2.B.i c.2.B.s) c.2.g c.2.y c.2.E) j).bind fun d=>fi j d.B.r d.B.i d.B.s d.g d.y d.E d.S.l d.S.b.r d.S.b.i d.S.b.s d.S.e d.S.h) (fi j c.2.B.r c.2.B.i c.2.B.s c.2.g c.2.y c.2.E c.2.S.l c.2.S.b.r c.2.S.b.i c.2.S.b.s c.2.S.e c.2.S.h)))
def ku (urec:aQ->ae->Option aQ) (vrec:az->ae->Option (ByteArray×az)) (b:aQ) (c:ae) (d:Bool) (f:Int) (g h:ByteArray) (i:LK) (j e k:Int) (l:Bool):=cond d (fj urec vrec b c (e==b.B.r)) (fj urec vrec b c false)
def kX (urec:aQ->ae->Option aQ) (vrec:az->ae->Option (ByteArray×az)) (c:aQ) (e:ae):=cond (c.E != 0) (some (c)) ((cu e).bind fun f=>cond f (some (c)) ((cm c.B.s e).bind fun b=>ku urec vrec c e b.2 b.1.d.v b.1.d.x b.1.u b.1.k b.1.a b.1.t b.1.j b.1.w))
theorem zh (urec:aQ->ae->Option aQ) (hurec:wG urec) (vrec:az->ae->Option (ByteArray×az)) (hvrec:ov vrec) (d:aQ) (R:ae) (K n:Nat) (V W X:Value) (o:Nat) (G:Array MapEntry) (H q:Nat) (u:Array MapEntry) (z:Nat) (D F:Value) (f:Nat) (x:Array MapEntry) (A:Nat) (m:Value) (t:bI) (hD:xH T L [xE K n d.B.r D F f m d.E,xS n V d.S.b.r W X o q,om o G H,om q u z,om f x A,aA m t]) (P0:Nat->Prop) (h9:∀ k,MD [xE K n d.B.r D F f m d.E,xS n V d.S.b.r W X o q,om o G H,om q u z,om f x A,aA m t] k∨L.heap.size<=k->P0 k) (hz:aF an (dT T [xE K n d.B.r D F f m d.E,xS n V d.S.b.r W X o q,om o G H,om q u z,om f x A,aA m t]) L V d.S.l) (hA:aF ac (dT T [xE K n d.B.r D F f m d.E,xS n V d.S.b.r W X o q,om o G H,om q u z,om f x A,aA m t]) L W d.S.b.i) (hB:aF aa (dT T [xE K n d.B.r D F f m d.E,xS n V d.S.b.r W X o q,om o G H,om q u z,om f x A,aA m t]) L X d.S.b.s) (hx:bE ad true a6.str false (dT T [xE K n d.B.r D F f m d.E,xS n V d.S.b.r W X o q,om o G H,om q u z,om f x A,aA m t]) L G d.S.e) (hy:bE ad true (a6.slice ad) false (dT T [xE K n d.B.r D F f m d.E,xS n V d.S.b.r W X o q,om o G H,om q u z,om f x A,aA m t]) L u d.S.h) (ht:aF ac (dT T [xE K n d.B.r D F f m d.E,xS n V d.S.b.r W X o q,om o G H,om q u z,om f x A,aA m t]) L D d.B.i) (hu:aF aa (dT T [xE K n d.B.r D F f m d.E,xS n V d.S.b.r W X o q,om o G H,om q u z,om f x A,aA m t]) L F d.B.s) (h3:(pS P0 [aL ac D d.B.i] aa 33 F d.B.s).p (dT T [xE K n d.B.r D F f m d.E,xS n V d.S.b.r W X o q,om o G H,om q u z,om f x A,aA m t]) L) (hs:bE ad true a6.bool false (dT T [xE K n d.B.r D F f m d.E,xS n V d.S.b.r W X o q,om o G H,om q u z,om f x A,aA m t]) L x d.g) (hv:bk ad (dT T [xE K n d.B.r D F f m d.E,xS n V d.S.b.r W X o q,om o G H,om q u z,om f x A,aA m t]) L t d.y) (hLv:dh (dT T [xE K n d.B.r D F f m d.E,xS n V d.S.b.r W X o q,om o G H,om q u z,om f x A,aA m t]) L) (y:aQ) (B:kX urec vrec d R=some y):bg aR (MD [xE K n d.B.r D F f m d.E,xS n V d.S.b.r W X o q,om o G H,om q u z,om f x A,aA m t]) 118 [pt K 0,.agg (aX R).toArray] L (fun v w'=>∃ (ab af ag:Value) (Z:Array MapEntry) (a2:Nat) (a0:Array MapEntry) (a3:Nat) (a5 a9:Value) (a1:Array MapEntry) (a4:Nat) (M:Value) (Y:bI),v = .tuple #[]/\mx L w' [xE K n d.B.r D F f m d.E,xS n V d.S.b.r W X o q,om o G H,om q u z,om f x A,aA m t] [xE K n y.B.r a5 a9 f M y.E,xS n ab y.S.b.r af ag o q,om o Z a2,om q a0 a3,om f a1 a4,aA M Y]/\aF an (dT T [xE K n y.B.r a5 a9 f M y.E,xS n ab y.S.b.r af ag o q,om o Z a2,om q a0 a3,om f a1 a4,aA M Y]) w' ab y.S.l/\aF ac (dT T [xE K n y.B.r a5 a9 f M y.E,xS n ab y.S.b.r af ag o q,om o Z a2,om q a0 a3,om f a1 a4,aA M Y]) w' af y.S.b.i/\aF aa (dT T [xE K n y.B.r a5 a9 f M y.E,xS n ab y.S.b.r af ag o q,om o Z a2,om q a0 a3,om f a1 a4,aA M Y]) w' ag y.S.b.s/\bE ad true a6.str false (dT T [xE K n y.B.r a5 a9 f M y.E,xS n ab y.S.b.r af ag o q,om o Z a2,om q a0 a3,om f a1 a4,aA M Y]) w' Z y.S.e/\bE ad true (a6.slice ad) false (dT T [xE K n y.B.r a5 a9 f M y.E,xS n ab y.S.b.r af ag o q,om o Z a2,om q a0 a3,om f a1 a4,aA M Y]) w' a0 y.S.h/\aF ac (dT T [xE K n y.B.r a5 a9 f M y.E,xS n ab y.S.b.r af ag o q,om o Z a2,om q a0 a3,om f a1 a4,aA M Y]) w' a5 y.B.i/\aF aa (dT T [xE K n y.B.r a5 a9 f M y.E,xS n ab y.S.b.r af ag o q,om o Z a2,om q a0 a3,om f a1 a4,aA M Y]) w' a9 y.B.s/\(pS P0 [aL ac a5 y.B.i] aa 33 a9 y.B.s).p (dT T [xE K n y.B.r a5 a9 f M y.E,xS n ab y.S.b.r af ag o q,om o Z a2,om q a0 a3,om f a1 a4,aA M Y]) w'/\bE ad true a6.bool false (dT T [xE K n y.B.r a5 a9 f M y.E,xS n ab y.S.b.r af ag o q,om o Z a2,om q a0 a3,om f a1 a4,aA M Y]) w' a1 y.g/\bk ad (dT T [xE K n y.B.r a5 a9 f M y.E,xS n ab y.S.b.r af ag o q,om o Z a2,om q a0 a3,om f a1 a4,aA M Y]) w' Y y.y):=by
 refine fT (c:=_) Tryz.func118 rfl T 64 Tryz.ntmps118 hT rfl hD fun a I=>?_;replace I:=((((((((((I.fact bH hLv).fS hz).fS hA).fS hB).fM hx).fM hy).fS ht).fS hu).fact (pS P0 [aL ac D d.B.i] aa 33 F d.B.s) h3).fM hs).fR hv;unfold kX at B;refine kB I fun ak i4 a w O I=>?_;refine am I fun a I=>?_;refine aC ?_;refine io ?_;refine am I fun a I=>?_;rcases cd B with⟨er,B⟩|⟨er,B⟩
 ·refine am I fun a I=>?_;cases B
  refine aG I Tryz.results118 aI ?_;have hZ:=I.sl [1,2,3,4,5,6] [9,8,7,6,5,4,3,2,1,0];exact⟨V,W,X,G,H,u,z,D,F,x,A,m,t,rfl,hZ.zd,hZ.g0,hZ.g1,hZ.g2,hZ.g3,hZ.g4,hZ.g5,hZ.g6,hZ.g7,hZ.g8,hZ.g9⟩
 refine am I fun a I=>?_;obtain⟨i9,h8,B⟩:=bd B;refine wg I rfl rfl rfl er (bB I yx rfl rfl (da _ _ I.dlt R _ h8) fun _ w C a O U=>?_);obtain rfl:=C;have I:=eL U;refine am I fun a I=>?_;rcases cd B with⟨hf,B⟩|⟨hf,B⟩
 ·refine am I fun a I=>?_;cases B
  refine aG I Tryz.results118 aI ?_;have hZ:=I.sl [1,2,3,4,5,6] [9,8,7,6,5,4,3,2,1,0];exact⟨V,W,X,G,H,u,z,D,F,x,A,m,t,rfl,hZ.zd,hZ.g0,hZ.g1,hZ.g2,hZ.g3,hZ.g4,hZ.g5,hZ.g6,hZ.g7,hZ.g8,hZ.g9⟩
 refine am I fun a I=>?_;refine aC ?_;refine aM (J:=fun a w=>∃ (dk:Bool) (dl:Int) (dn ds:ByteArray) (e0:LK) (e2 e3 e4:Int) (e5:Bool) (c2:Nat) (e6:Value) (c3:LV),St L (MD [xE K n d.B.r D F f m d.E,xS n V d.S.b.r W X o q,om o G H,om q u z,om f x A,aA m t]) T 64 [(0,pt K 0),(3,pt ak 0),(4,pt c2 0),(5,.bool dk)] [om f x A,aA m t,xE K n d.B.r D F f m d.E,.box ak (aX R) 30,aA e6 c3,.box c2 [aj dl,a8 dn,a8 ds,e6,aj e2,aj e3,aj e4,.bool e5] 33,om o G H,om q u z,xS n V d.S.b.r W X o q] [aL ac D d.B.i,aL aa F d.B.s,uw x d.g,ap ad t d.y,ap ad c3 e0,aL an V d.S.l,aL ac W d.S.b.i,aL aa X d.S.b.s,pg G d.S.e,sW u d.S.h,bH,pS P0 [aL ac D d.B.i] aa 33 F d.B.s] a w/\ku urec vrec d R dk dl dn ds e0 e2 e3 e4 e5=some y) ?_ ?_
 ·obtain⟨N136,h2⟩:∃ N,N=w.heap.size:=⟨_,rfl⟩;replace I:=I.fact (IS N136) (pP h2);refine dr [(11,.new N136)] I fun w hQ I=>?_;refine gE [0,1,2,3,4,5] I fun a I=>?_;obtain⟨ib,el,B⟩:=bd B;refine dQ (i:=6) (j:=10) rfl rfl (by kernel_rfl) rfl rfl ?_ ?_
  ·skip;refine id (bB I rM rfl rfl (bR _ _ I.dlt d.B.s R _ I.g4 _ el) fun _ w C a O U=>⟨fq (O),?_⟩);obtain⟨ih,hC,he,f5⟩:=C;obtain rfl:=he.symm;have I:=qs U f5;refine gE [7,8,9] I fun a I=>?_;have hg:=(I.g1:N136<=w.heap.size);refine e1 10 (df I eJ rfl fun ha hh a w O I=>⟨fq (O),?_⟩);refine dw 11 (.blk (some ha)) _ (by kernel_rfl) (pT (cC hg hh)) ?_;refine es 11 I fun w I=>?_;refine gE [12] I fun a I=>?_;refine eD ?_;exact fin
  skip;have hi:=(I.g0:N136<=w.heap.size);refine id (df I eJ rfl fun hb hj a w O I=>⟨fq (O),?_⟩);refine dw 11 (.blk (some hb)) _ (by kernel_rfl) (pT (cC hi hj)) ?_;refine ec 6 I rM (bR _ _ I.dlt d.B.s R _ I.g4 _ el) fun _ w C a O U=>?_;obtain⟨ii,hE,he,f6⟩:=C;obtain rfl:=he.symm;have I:=qs U f6;refine gE [7,8,9] I fun a I=>?_;refine es 11 I fun w I=>?_;refine gE [12] I fun a I=>?_;refine eD ?_;exact fin
 rintro a w ⟨dk,dl,dn,ds,e0,e2,e3,e4,e5,c2,e6,c3,I,B⟩;unfold ku at B;refine aM (J:=fun a w=>∃ (dc:Bool),St L (MD [xE K n d.B.r D F f m d.E,xS n V d.S.b.r W X o q,om o G H,om q u z,om f x A,aA m t]) T 64 [(0,pt K 0),(3,pt ak 0),(35,.bool dc)] [om f x A,aA m t,xE K n d.B.r D F f m d.E,.box ak (aX R) 30,om o G H,om q u z,xS n V d.S.b.r W X o q] [aL ac D d.B.i,aL aa F d.B.s,uw x d.g,ap ad t d.y,aL an V d.S.l,aL ac W d.S.b.i,aL aa X d.S.b.s,pg G d.S.e,sW u d.S.h,bH,pS P0 [aL ac D d.B.i] aa 33 F d.B.s] a w/\fj urec vrec d R dc=some y) ?_ ?_
 ·refine dr [] I fun w hQ I=>?_;refine gE [0,1] I fun a I=>?_;rcases cd B with⟨hk,B⟩|⟨hk,B⟩
  ·refine gE [2,3,4,5,6,7,8,9,10] I fun a I=>?_;refine eD ?_;exact fin
  refine gE [2,3,4,5,6,7,8,9,10] I fun a I=>?_;refine eD ?_;exact fin
 rintro a w ⟨dc,I,B⟩;unfold fj at B;rcases cd B with⟨hl,B⟩|⟨hl,B⟩
 ·refine am I fun a I=>?_;cases B
  refine aG I Tryz.results118 aI ?_;have hZ:=I.sl [2,6,4,5,0,1] [4,5,6,7,8,0,1,10,2,3];exact⟨V,W,X,G,H,u,z,D,F,x,A,m,t,rfl,hZ.zd,hZ.g0,hZ.g1,hZ.g2,hZ.g3,hZ.g4,hZ.g5,hZ.g6,hZ.g7,hZ.g8,hZ.g9⟩
 refine am I fun a I=>?_;refine aC ?_;refine aC ?_;refine dr [] I fun w hQ I=>?_;refine gE [0,1,2,3,4] I fun a I=>?_;obtain⟨hw,h4,B⟩:=bd B;obtain⟨hF,hm,hn⟩:=jr I ur c6 0 rfl 2 rfl (c:=(aX R)) (key:=R) rfl O1 (zc:=[.bool false]) rfl rfl h4;obtain rfl:=hm;refine dq 5 I (l:=[]) (v:=.bool hw) (hn rfl rfl bO) fun a I=>?_;refine eD ?_;refine am I fun a I=>?_;rcases cd B with⟨ho,B⟩|⟨ho,B⟩
 ·refine am I fun a I=>?_;refine aM (J:=fun a w=>∃ (e8:Int),St L (MD [xE K n d.B.r D F f m d.E,xS n V d.S.b.r W X o q,om o G H,om q u z,om f x A,aA m t]) T 64 [] [om f x A,aA m t,xE K n d.B.r D F f m e8,om o G H,om q u z,xS n V d.S.b.r W X o q] [aL ac D d.B.i,aL aa F d.B.s,uw x d.g,ap ad t d.y,aL an V d.S.l,aL ac W d.S.b.i,aL aa X d.S.b.s,pg G d.S.e,sW u d.S.h,bH,pS P0 [aL ac D d.B.i] aa 33 F d.B.s] a w/\kr d e8=some y) ?_ ?_
  ·refine am I fun a I=>?_;obtain⟨i5,h5,B⟩:=bd B;refine kE I uf (cY _ _ I.dlt R _ h5) fun w a I=>?_;exact fz
  rintro a w ⟨e8,I,B⟩;unfold kr at B;refine am I fun a I=>?_;cases B
  refine aG I Tryz.results118 aI ?_;have hZ:=I.sl [2,5,3,4,0,1] [4,5,6,7,8,0,1,10,2,3];exact⟨V,W,X,G,H,u,z,D,F,x,A,m,t,rfl,hZ.zd,hZ.g0,hZ.g1,hZ.g2,hZ.g3,hZ.g4,hZ.g5,hZ.g6,hZ.g7,hZ.g8,hZ.g9⟩
 refine am I fun a I=>?_;refine aC ?_;refine dr [(5,.blk (some f))] I fun w hQ I=>?_;refine gE [0,1,2,3,4] I fun a I=>?_;refine e1 5 (sN I ur c6 0 rfl 2 rfl (c:=(aX R)) (cv:=[.bool true]) (key:=R) (val:=true) rfl rfl rfl rfl rfl fun hW hG w O I=>⟨jf rfl O gB,?_⟩);refine eD ?_;refine am I fun a I=>?_;refine aM (J:=fun a w=>∃ (ea:Int) (bt:LI) (c1:LR) (ed:LO) (eg:LK) (ei:Int) (ca:LU) (cb:Int) (ch:LI) (ck:LR) (cl:LB) (cs:LL) (c9:AM) (eq:Nat) (bb:Value) (b4:LV) (b5:AM) (c4:Nat) (b7:AM) (c5:Nat) (ao av:Value) (bi bl bs:Value),St L (MD [xE K n d.B.r D F f m d.E,xS n V d.S.b.r W X o q,om o G H,om q u z,om f x A,aA m t]) T 64 [(0,pt K 0),(3,pt ak 0)] [om f c9 eq,aA bb b4,xE K n ea ao av f bb ei,.box ak (aX R) 30,om o b5 c4,om q b7 c5,xS n bi cb bl bs o q] [aL ac ao bt,aL aa av c1,uw c9 ed,ap ad b4 eg,aL an bi ca,aL ac bl ch,aL aa bs ck,pg b5 cl,sW b7 cs,bH,pS P0 [aL ac ao bt] aa 33 av c1] a w/\fi R ea bt c1 ed eg ei ca cb ch ck cl cs=some y) ?_ ?_
 ·refine am I fun a I=>?_;obtain⟨Q,h6,B⟩:=bd B;replace I:=I.re [2,6,4,5,0,1] [3];refine wl rfl (ci I P6 rfl rfl (wx _ _ I.zt urec hurec vrec hvrec (aQ.mk d.S d.B (dS aK R true d.g) d.y d.E) R _ _ _ _ _ _ _ _ _ _ _ _ _ _ _ _ _ _ I.dok P0 (I.toP (P:=P0) h9) I.d5 I.d6 I.d7 I.d8 I.d9 I.d1 I.d2 I.d11 I.d0 I.d4 I.d10 _ h6) fun _ w C a O U=>?_);obtain⟨j0,j1,j3,hX,hH,hY,hI,gu,gH,i0,hJ,jb,hK,he,hp,f7,f8,fd,eT,eX,fl,fn,b0,f1,et⟩:=C;obtain rfl:=he.symm;have I:=U _ hp;replace I:=(((((((((I.fS (f7.sub (ay _))).fS (f8.sub (ay _))).fS (fd.sub (ay _))).fM (eT.keep (al _ _) (ay _))).fM (eX.keep (al _ _) (ay _))).fS (fl.sub (ay _))).fS (fn.sub (ay _))).fact (pS P0 [aL ac gu Q.2.B.i] aa 33 gH Q.2.B.s) ((pS P0 [aL ac gu Q.2.B.i] aa 33 gH Q.2.B.s).keep b0 (al _ _) (ay _))).fM (f1.keep (al _ _) (ay _))).fR (et.keep (al _ _) (ay _));refine am I fun a I=>?_;rcases cd B with⟨hq,B⟩|⟨hq,B⟩
  ·refine am I fun a I=>?_;obtain⟨b8,h7,B⟩:=bd B;replace I:=I.re [0,1,2,3,4,5] [6];refine wl rfl (ci I P7 rfl rfl (xV _ _ I.zt urec hurec vrec hvrec (aQ.mk (az.mk Q.2.S.l (ah.mk Q.2.S.b.r Q.2.S.b.i Q.2.S.b.s) Q.2.S.e Q.2.S.h) (ah.mk Q.2.B.r Q.2.B.i Q.2.B.s) Q.2.g Q.2.y Q.2.E) R _ _ _ _ _ _ _ _ _ _ _ _ _ _ _ _ _ _ I.dok P0 (I.toP (P:=P0) h9) I.d9 I.d8 I.d7 I.d6 I.d5 I.d4 I.d3 I.d2 I.d1 I.d0 I.d20 _ h7) fun _ w C a O U=>?_);obtain⟨js,k0,k1,i1,hM,i2,hN,h0,h1,i3,hP,k2,hV,he,hr,fr,fs,gb,f2,f3,gi,gs,b3,f4,ex⟩:=C;obtain rfl:=he.symm;have I:=U _ hr;replace I:=(((((((((I.fS (fr.sub (ay _))).fS (fs.sub (ay _))).fS (gb.sub (ay _))).fM (f2.keep (al _ _) (ay _))).fM (f3.keep (al _ _) (ay _))).fS (gi.sub (ay _))).fS (gs.sub (ay _))).fact (pS P0 [aL ac h0 b8.B.i] aa 33 h1 b8.B.s) ((pS P0 [aL ac h0 b8.B.i] aa 33 h1 b8.B.s).keep b3 (al _ _) (ay _))).fM (f4.keep (al _ _) (ay _))).fR (ex.keep (al _ _) (ay _));refine am I fun a I=>?_;exact⟨_,_,_,_,_,_,_,_,_,_,_,_,_,_,_,_,_,_,_,_,_,_,_,_,_,I.mt [4,5,0,6,2,3,1] [4,3,1,0,9,8,7,6,5,30,2],B⟩
  exact fz
 rintro a w ⟨ea,bt,c1,ed,eg,ei,ca,cb,ch,ck,cl,cs,c9,eq,bb,b4,b5,c4,b7,c5,ao,av,bi,bl,bs,I,B⟩;unfold fi at B;refine dr [(5,.blk (some f))] I fun w hQ I=>?_;refine gE [0,1,2,3,4] I fun a I=>?_;refine e1 5 (Ow I ur c6 0 rfl 2 rfl (c:=(aX R)) (key:=R) rfl rfl rfl fun hd hc w O I=>⟨jf rfl O gB,?_⟩);refine eD ?_;refine Oo ?_;cases B
 refine aG I Tryz.results118 aI ?_;have hZ:=I.sl [2,6,4,5,0,1] [5,6,7,8,9,1,2,11,0,4];exact⟨bi,bl,bs,b5,c4,b7,c5,ao,av,hd,hc,bb,b4,rfl,hZ.zd,hZ.g0,hZ.g1,hZ.g2,hZ.g3,hZ.g4,hZ.g5,hZ.g6,hZ.g7,hZ.g8,hZ.g9⟩
def jV (g:ah) (c:Int) (d:LI) (e:LR) (i:LO) (f:LK) (b:Int) (j:LU) (k:Int) (l:LI) (m:LR) (n:LB) (o:LL):=cond (b != 0) (some ((g,[],b))) ((ko f).bind fun h=>some (((ah.mk c d e),h,0)))
def mR (urec:aQ->ae->Option aQ) (d:LK) (f j:Int) (k:LI) (m:LR) (n:LO) (o:LK) (p:Int) (q:LU) (t:Int) (u:LI) (v:LR) (x:LB) (z:LL):Option (Fl (Int×Int×LI×LR×LO×LK×Int×LU×Int×LI×LR×LB×LL) (Int×LI×LR×LO×LK×Int×LU×Int×LI×LR×LB×LL)):=cond (decide (f<(d.length:Int))) ((bu d f).bind fun A=>(urec (aQ.mk (az.mk q (ah.mk t u v) x z) (ah.mk j k m) n o p) A).bind fun c=>some (.go (IntKind.i64.wrap (f+1),c.B.r,c.B.i,c.B.s,c.g,c.y,c.E,c.S.l,c.S.b.r,c.S.b.i,c.S.b.s,c.S.e,c.S.h))) (some (.out (j,k,m,n,o,p,q,t,u,v,x,z)))
def mQ (urec:aQ->ae->Option aQ) (b:LK) (m:ah) (c:Int) (d:LI) (e:LR) (f:LO) (g:LU) (h:Int) (i:LI) (j:LR) (k:LB) (l:LL):=(loop (fun s:Int×Int×LI×LR×LO×LK×Int×LU×Int×LI×LR×LB×LL=>mR urec b s.1 s.2.1 s.2.2.1 s.2.2.2.1 s.2.2.2.2.1 s.2.2.2.2.2.1 s.2.2.2.2.2.2.1 s.2.2.2.2.2.2.2.1 s.2.2.2.2.2.2.2.2.1 s.2.2.2.2.2.2.2.2.2.1 s.2.2.2.2.2.2.2.2.2.2.1 s.2.2.2.2.2.2.2.2.2.2.2.1 s.2.2.2.2.2.2.2.2.2.2.2.2) (0,c,d,e,f,([]:List ae),0,g,h,i,j,k,l)).bind fun r=>jV m r.1 r.2.1 r.2.2.1 r.2.2.2.1 r.2.2.2.2.1 r.2.2.2.2.2.1 r.2.2.2.2.2.2.1 r.2.2.2.2.2.2.2.1 r.2.2.2.2.2.2.2.2.1 r.2.2.2.2.2.2.2.2.2.1 r.2.2.2.2.2.2.2.2.2.2.1 r.2.2.2.2.2.2.2.2.2.2.2
def fp (urec:aQ->ae->Option aQ) (g:LU) (m:ah) (f:LK):=(fg m).bind fun d=>(mb g d f).bind fun k=>cond (k != 0) (some ((d,[],k))) ((si g d).bind fun c=>(fg d).bind fun j=>mQ urec f d j.r j.i j.s ([]:LO) c.l c.b.r c.b.i c.b.s c.e c.h)
theorem n8 (hLv:dh T L) (urec:aQ->ae->Option aQ) (hurec:wG urec) (g:LU) (bl:ah) (c:LK) (v1 v2:Value) (v3 v4:Value) (i0:aF an T L v1 g) (i1:aF ac T L v2 bl.i) (i2:aF aa T L v3 bl.s) (i3:aF ad T L v4 c) (y:ah×LK×Int) (B:fp urec g bl c=some y):bg aR No 37 [v1,.agg (aU bl v2 v3).toArray,v4] L (fun v w'=>∃ (v5 v6:Value) (Bb:bI) (v8:Value) (JM:bI),v = .tuple #[.agg (aU y.1 v5 v6).toArray,v8,aj y.2.2]/\aF ac (dT T [aJ v6 Bb,aA v8 JM]) w' v5 y.1.i/\gG aa T L w' [aJ v6 Bb,aA v8 JM] 33 v6 Bb y.1.s/\gG ad T L w' [aJ v6 Bb,aA v8 JM] 30 v8 JM y.2.1/\(∀ k,v6.ownBlock=some k->v8.ownBlock≠some k)):=by
 refine en Tryz.func37 Tryz.ntmps37 hT fun a I=>?_;replace I:=((((I.fact bH (dh.dn hLv)).fS (aF.dn i0)).fS (aF.dn i1)).fS (aF.dn i2)).fS (aF.dn i3);unfold fp at B;refine kB I fun x lv a w O I=>?_;refine ka I mw fun m m0 a w O I=>?_;refine am I fun a I=>?_;obtain⟨b,hz,B⟩:=bd B;refine kc I Bq (eA _ _ I.dlt bl _ _ I.g2 I.g1 _ hz) fun _ w C a O U=>?_;obtain⟨d,t,e,n,he,hc,hd,a2⟩:=C;obtain rfl:=he.symm;have I:=Ar U hc hd a2;refine go I fun a w I=>?_;refine aC ?_;refine am I fun a I=>?_;have hL:=I;replace hL:=hL.zf (R:=ac) 0 rfl 1 rfl;replace hL:=hL.zf (R:=aa) 0 rfl 1 rfl;obtain⟨mv,hC,B⟩:=bd B;refine kF I J3 (tV _ _ hL.dlt hL.g8 g b c _ _ _ _ hL.g7 hL.g1 hL.g0 hL.g4 _ hC) fun w a I=>?_;rcases cd B with⟨hI,B⟩|⟨hI,B⟩
 ·refine go I fun a w I=>?_;replace I:=I.zf (R:=ac) 0 rfl 1 rfl;cases B
  refine aG I Tryz.results37 (bC I rfl 1 rfl f9 rfl (fun h=>by cases h) (aw I rfl (aw I rfl aI))) ?_;exact⟨d,e,n,.slice none 0 0,[],rfl,(aF.up ⟨.inr (aO (i:=0) rfl),⟨.inl rfl,trivial⟩⟩ I.g0),I.zo ⟨.inr (aO (i:=0) rfl),⟨.inl rfl,trivial⟩⟩ 0 rfl 1 rfl,og _ _ _ _ _ _,(fun k h=>by simp [Value.ownBlock] at *)⟩
 refine am I fun a I=>?_;refine aM (J:=fun a w=>∃ (e3:Int) (b4:LI) (e4:LR) (e5:LO) (e6:LU) (e8:Int) (ea:LI) (ed:LR) (eg:LB) (ei:LL) (z A:Nat) (b7:Value) (bs:LV) (el:Value) (bt:LV) (D:Nat) (c3:AM) (fs E:Nat) (c4:AM) (g5 F:Nat) (c5:AM) (g9:Nat) (eq er et:Value),St L No T 60 [(2,v4),(4,pt x 0),(6,pt m 0),(10,pt z 0)] [.box x (aU b d e) 25,.box m [aj 0,.slice none 0 0,.slice none 0 0] 25,be b7 bs,aJ el bt,om D c3 fs,.box z [pt A 0,aj e3,b7,el,.map (some D),.slice none 0 0,aj 0] 180,om E c4 g5,om F c5 g9,xS A eq e8 er et E F] [aL ad v4 c,aL ac d b.i,aL aa e b.s,ap ac bs b4,ap aa bt e4,uw c3 e5,aL an eq e6,aL ac er ea,aL aa et ed,pg c4 eg,sW c5 ei,bH,qN L No [be d t,aJ e n] [ap aa n b.s,ap ac t b.i,aL ad v4 c,aL an v1 g,bH]] a w/\mQ urec c b e3 b4 e4 e5 e6 e8 ea ed eg ei=some y) ?_ ?_
 ·refine dr [(2,.bks [])] I fun w hQ I=>?_;refine gE [0,1] I fun a I=>?_;refine dq 3 I (l:=[.bks []]) (v:=.agg (aU b d e).toArray) (dm I rfl f9 3 rfl (xN I 3 rfl rfl [] rfl rfl bO) (us:=(aU b d e)) rfl rfl (fun h=>by cases h)) fun a I=>?_;have hZ:=I;replace I:=(I.zf (R:=ac) 0 rfl 1 rfl).zf (R:=aa) 0 rfl 1 rfl;have hY:St L No T 60 [] ([be d t,aJ e n]++[.box m [aj 0,.slice none 0 0,.slice none 0 0] 25,.box x (aU b d e) 25]) [ap aa n b.s,ap ac t b.i,aL ad v4 c,aL an v1 g,bH] _ _:=hZ.meet [0,1,2,3] (by decide) trivial ⟨rfl,rfl,rfl,rfl,trivial⟩ ⟨⟨0,rfl⟩,⟨1,rfl⟩,⟨2,rfl⟩,⟨5,rfl⟩,⟨6,rfl⟩,trivial⟩;replace I:=I.snap hY;obtain⟨n0,f7,B⟩:=bd B;refine dQ (i:=2) (j:=5) rfl rfl (by kernel_rfl) rfl rfl ?_ ?_
  ·skip;replace I:=I.re [] [0,1];refine id (ci I Fp rfl rfl (rc _ _ I.zt g b _ _ _ I.dok I.d8 I.d2 I.d1 _ f7) fun _ w C a O U=>⟨jf rfl O we,?_⟩);obtain⟨q,n1,n2,n3,ib,l1,jb,ih,l2,js,he,hg,hh,hi,h5,h6,hJ⟩:=C;obtain rfl:=he.symm;have I:=U _ hJ;replace I:=((((I.fS (hg.sub (ay _))).fS (hh.sub (ay _))).fS (hi.sub (ay _))).fM (h5.keep (al _ _) (ay _))).fM (h6.keep (al _ _) (ay _));obtain⟨u,f8,B⟩:=bd B;refine dQ (i:=4) (j:=5) rfl rfl (by kernel_rfl) rfl rfl ?_ ?_
   ·skip;refine id (bB I Bq rfl rfl (eA _ _ I.dlt b _ _ I.g7 I.g6 _ f8) fun _ w C a O U=>⟨fq (O),?_⟩);obtain⟨b8,k0,b9,k1,he,hj,hk,a2⟩:=C;obtain rfl:=he.symm;have I:=Ar U hj hk a2;refine e1 5 (qu ad true a6.bool false I rfl fun ag m1 a w O I=>⟨fq (O),?_⟩);refine dq 6 I (v:=.agg #[pt q 0,aj u.r,b8,b9,.map (some ag),.slice none 0 0,aj 0]) (bw (ps:=[(0,.tmp 25),(1,.tmp 27),(2,.tmp 28)]) I K1 L0 rfl (us:=[[pt q 0],(aU u b8 b9),[.map (some ag)]]) ⟨rfl,⟨rfl,⟨rfl,trivial⟩⟩⟩ (ws:=[pt q 0,aj u.r,b8,b9,.map (some ag),.slice none 0 0,aj 0]) rfl) fun a I=>?_;refine e1 7 (FM I rfl (cs:=[pt q 0,aj u.r,b8,b9,.map (some ag),.slice none 0 0,aj 0]) rfl rfl fun fr h1 a w O I=>⟨fq (O),?_⟩);refine gE [8] I fun a I=>?_;refine eD ?_;exact⟨_,_,_,_,_,_,_,_,_,_,_,_,_,_,_,_,_,_,_,_,_,_,_,_,_,_,_,_,I.mt [8,7,2,3,1,0,5,6,4] [13,10,9,2,1,0,7,6,5,4,3,17,8],B⟩
   skip;refine id (qu ad true a6.bool false I rfl fun ak m2 a w O I=>⟨fq (O),?_⟩);refine ec 4 I Bq (eA _ _ I.dlt b _ _ I.g8 I.g7 _ f8) fun _ w C a O U=>?_;obtain⟨o,hE,p,hF,he,a3,a4,a2⟩:=C;obtain rfl:=he.symm;have I:=Ar U a3 a4 a2;refine dq 6 I (v:=.agg #[pt q 0,aj u.r,o,p,.map (some ak),.slice none 0 0,aj 0]) (bw (ps:=[(0,.tmp 25),(1,.tmp 27),(2,.tmp 28)]) I K1 L0 rfl (us:=[[pt q 0],(aU u o p),[.map (some ak)]]) ⟨rfl,⟨rfl,⟨rfl,trivial⟩⟩⟩ (ws:=[pt q 0,aj u.r,o,p,.map (some ak),.slice none 0 0,aj 0]) rfl) fun a I=>?_;refine e1 7 (FM I rfl (cs:=[pt q 0,aj u.r,o,p,.map (some ak),.slice none 0 0,aj 0]) rfl rfl fun fr h1 a w O I=>⟨fq (O),?_⟩);refine gE [8] I fun a I=>?_;refine eD ?_;exact⟨_,_,_,_,_,_,_,_,_,_,_,_,_,_,_,_,_,_,_,_,_,_,_,_,_,_,_,_,I.mt [8,7,1,2,3,0,5,6,4] [13,10,9,1,0,2,7,6,5,4,3,17,8],B⟩
  skip;refine id (qu ad true a6.bool false I rfl fun ao m3 a w O I=>⟨fq (O),?_⟩);replace I:=I.re [] [0,1,2];refine e1 2 (ci I Fp rfl rfl (rc _ _ I.zt g b _ _ _ I.dok I.d9 I.d3 I.d2 _ f7) fun _ w C a O U=>⟨jf rfl O we,?_⟩);obtain⟨av,n4,n6,nd,ii,la,k2,j0,lb,k3,he,hl,hm,hn,h7,h8,hK⟩:=C;obtain rfl:=he.symm;have I:=U _ hK;replace I:=((((I.fS (hl.sub (ay _))).fS (hm.sub (ay _))).fS (hn.sub (ay _))).fM (h7.keep (al _ _) (ay _))).fM (h8.keep (al _ _) (ay _));obtain⟨b6,hD,B⟩:=bd B;refine ec 4 I Bq (eA _ _ I.dlt b _ _ I.g8 I.g7 _ hD) fun _ w C a O U=>?_;obtain⟨o,hE,p,hF,he,a3,a4,a2⟩:=C;obtain rfl:=he.symm;have I:=Ar U a3 a4 a2;refine dq 6 I (v:=.agg #[pt av 0,aj b6.r,o,p,.map (some ao),.slice none 0 0,aj 0]) (bw (ps:=[(0,.tmp 25),(1,.tmp 27),(2,.tmp 28)]) I K1 L0 rfl (us:=[[pt av 0],(aU b6 o p),[.map (some ao)]]) ⟨rfl,⟨rfl,⟨rfl,trivial⟩⟩⟩ (ws:=[pt av 0,aj b6.r,o,p,.map (some ao),.slice none 0 0,aj 0]) rfl) fun a I=>?_;refine e1 7 (FM I rfl (cs:=[pt av 0,aj b6.r,o,p,.map (some ao),.slice none 0 0,aj 0]) rfl rfl fun fr h1 a w O I=>⟨fq (O),?_⟩);refine gE [8] I fun a I=>?_;refine eD ?_;exact⟨_,_,_,_,_,_,_,_,_,_,_,_,_,_,_,_,_,_,_,_,_,_,_,_,_,_,_,_,I.mt [8,7,1,2,6,0,4,5,3] [13,10,9,1,0,7,6,5,4,3,2,17,8],B⟩
 rintro a w ⟨e3,b4,e4,e5,e6,e8,ea,ed,eg,ei,z,A,b7,bs,el,bt,D,c3,fs,E,c4,g5,F,c5,g9,eq,er,et,I,B⟩;unfold mQ at B;refine aM (J:=fun a w=>∃ (cv:Int) (b1:LI) (b2:LR) (d0:LO) (a0:LK) (a1:Int) (dc:LU) (dk:Int) (dl:LI) (ds:LR) (e0:LB) (e2:LL) (c9:AM) (gb:Nat) (ex:Value) (b0:LV) (ca:AM) (gi:Nat) (cb:AM) (gs:Nat) (a5 a9:Value) (eT eX f2:Value),St L No T 60 [(4,pt x 0),(6,pt m 0),(10,pt z 0)] [.box x (aU b d e) 25,.box m [aj 0,.slice none 0 0,.slice none 0 0] 25,om D c9 gb,aA ex b0,xE z A cv a5 a9 D ex a1,om E ca gi,om F cb gs,xS A eT dk eX f2 E F] [aL ac d b.i,aL aa e b.s,aL ac a5 b1,aL aa a9 b2,uw c9 d0,ap ad b0 a0,aL an eT dc,aL ac eX dl,aL aa f2 ds,pg ca e0,sW cb e2,bH,pS (fun k=>No k∨L.heap.size<=k) [aL ac a5 b1] aa 33 a9 b2,qN L No [be d t,aJ e n] [ap aa n b.s,ap ac t b.i,aL ad v4 c,aL an v1 g,bH]] a w/\jV b cv b1 b2 d0 a0 a1 dc dk dl ds e0 e2=some y) ?_ ?_
 ·refine am I fun a I=>?_;replace I:=((I.zf (R:=ac) 2 rfl 3 rfl).zg (P:=(fun k=>No k∨L.heap.size<=k)) (R:=aa) (fun _ h=>h) [aL ac b7 b4] ⟨⟨0,rfl⟩,trivial⟩ 2 rfl 5 rfl).zn ad 30 (by decide);obtain⟨r1,hX,hMo1⟩:=bd B;refine bF _ (fun s a w=>∃ (b3 K:Int) (G:LI) (H:LR) (M:LO) (N:LK) (Q:Int) (S:LU) (V:Int) (W:LI) (X:LR) (Y:LB) (Z:LL) (ch:AM) (gu:Nat) (f3:Value) (c1:LV) (ck:AM) (gH:Nat) (cl:AM) (h0:Nat) (bb bi:Value) (f4 f5 f6:Value),(b3,K,G,H,M,N,Q,S,V,W,X,Y,Z)=s/\St L No T 60 [(4,pt x 0),(6,pt m 0),(10,pt z 0),(31,v4),(32,aj (c.length:Int)),(33,aj b3)] [.box x (aU b d e) 25,.box m [aj 0,.slice none 0 0,.slice none 0 0] 25,om D ch gu,aA f3 c1,xE z A K bb bi D f3 Q,om E ck gH,om F cl h0,xS A f4 V f5 f6 E F] [aL ad v4 c,aL ac d b.i,aL aa e b.s,aL ac bb G,aL aa bi H,uw ch M,ap ad c1 N,aL an f4 S,aL ac f5 W,aL aa f6 X,pg ck Y,sW cl Z,bH,pS (fun k=>No k∨L.heap.size<=k) [aL ac bb G] aa 33 bi H,qN L No [be d t,aJ e n] [ap aa n b.s,ap ac t b.i,aL ad v4 c,aL an v1 g,bH]] a w) hX ⟨_,_,_,_,_,_,_,_,_,_,_,_,_,_,_,_,_,_,_,_,_,_,_,_,_,_,rfl,I.mt [1,2,3,0,4,5,6,7] [4,5,6,3,1,9,0,10,11,12,13,14,15,2,16]⟩ ?_;rintro s a w f1 ⟨b3,K,G,H,M,N,Q,S,V,W,X,Y,Z,ch,gu,f3,c1,ck,gH,cl,h0,bb,bi,f4,f5,f6,rfl,I⟩ B hf1;have B:mR urec c b3 K G H M N Q S V W X Y Z=some f1:=B;unfold mR at B;refine am I fun a I=>?_;refine aC ?_;rcases cd B with⟨hM,B⟩|⟨hM,B⟩
  ·refine am I fun a I=>?_;refine aC ?_;refine am I fun a I=>?_;obtain⟨hH,hy,B⟩:=bd B;refine wl rfl (bn (R:=ad) I j7 dB rfl rfl 0 rfl hy rfl fun j1 ms k4 hN a I=>?_);obtain rfl:=hN;refine kA I fH fun j3 md a w O I=>?_;refine go I fun a w I=>?_;obtain⟨b5,hB,B⟩:=bd B;replace I:=I.re [5,8,6,7,3,4] [0,1,2];refine wl rfl (ci I J4 rfl rfl (hurec _ _ I.zt (aQ.mk (az.mk S (ah.mk V W X) Y Z) (ah.mk K G H) M N Q) hH _ _ _ _ _ _ _ _ _ _ _ _ _ _ _ _ _ _ I.dok (fun k=>No k∨L.heap.size<=k) (I.toP (P:=(fun k=>No k∨L.heap.size<=k)) (fun _ h=>h)) I.d8 I.d9 I.d10 I.d11 I.d12 I.d4 I.d5 I.d14 I.d6 I.d7 I.d13 _ hB) fun _ w C a O U=>?_);obtain⟨ng,nl,nm,le,kk,ll,ks,hv,hw,ls,kt,no,l0,he,hP,ho,hp,hq,h9,ha,hs,ht,ab,hb,h4⟩:=C;obtain rfl:=he.symm;have I:=U _ hP;replace I:=(((((((((I.fS (ho.sub (ay _))).fS (hp.sub (ay _))).fS (hq.sub (ay _))).fM (h9.keep (al _ _) (ay _))).fM (ha.keep (al _ _) (ay _))).fS (hs.sub (ay _))).fS (ht.sub (ay _))).fact (pS (fun k=>No k∨L.heap.size<=k) [aL ac hv b5.B.i] aa 33 hw b5.B.s) ((pS (fun k=>No k∨L.heap.size<=k) [aL ac hv b5.B.i] aa 33 hw b5.B.s).keep ab (al _ _) (ay _))).fM (hb.keep (al _ _) (ay _))).fR (h4.keep (al _ _) (ay _));refine am I fun a I=>?_;exact fin
  refine am I fun a I=>?_;cases B
  have hr:=hf1 _ rfl;subst hr;have B:jV b K G H M N Q S V W X Y Z=some y:=hMo1;exact fin
 rintro a w ⟨cv,b1,b2,d0,a0,a1,dc,dk,dl,ds,e0,e2,c9,gb,ex,b0,ca,gi,cb,gs,a5,a9,eT,eX,f2,I,B⟩;unfold jV at B;refine aC ?_;refine am I fun a I=>?_;rcases cd B with⟨hV,B⟩|⟨hV,B⟩
 ·refine am I fun a I=>?_;refine aC ?_;refine dr [(5,.blk (some m))] I fun w hQ I=>?_;refine gE [0,1,2,3] I fun a I=>?_;refine dq 4 I (l:=[.blk (some m)]) (v:=aj a1) (dm I rfl Rg 4 rfl (gA I 4 rfl rfl 1 rfl rfl (by decide) bO) (us:=[aj a1]) rfl rfl (fun _=>rfl)) fun a I=>?_;refine es 5 I fun w I=>?_;refine gE [6,7] I fun a I=>?_;refine eD ?_;refine am I fun a I=>?_;replace I:=(I.thaw 13 rfl).zf (R:=ac) 0 rfl 1 rfl;cases B
  refine aG I Tryz.results37 (bC I rfl 2 rfl f9 rfl (fun h=>by cases h) (aw I rfl (aw I rfl aI))) ?_;exact⟨d,e,n,.slice none 0 0,[],rfl,(aF.up ⟨.inr (aO (i:=0) rfl),⟨.inl rfl,trivial⟩⟩ I.g0),I.zo ⟨.inr (aO (i:=0) rfl),⟨.inl rfl,trivial⟩⟩ 0 rfl 1 rfl,og _ _ _ _ _ _,(fun k h=>by simp [Value.ownBlock] at *)⟩
 refine am I fun a I=>?_;refine aC ?_;refine dr [(9,.blk (some m))] I fun w hQ I=>?_;refine gE [0,1,2,3,4,5,6,7] I fun a I=>?_;have hL:=I;replace hL:=hL.zf (R:=ad) 3 rfl 5 rfl;obtain⟨hW,hA,B⟩:=bd B;refine ec 8 I Nk (wo _ _ hL.dlt hL.g12 a0 _ hL.g0 _ hA) fun _ w C a O U=>?_;obtain⟨hx,c2,he,⟨h3,h2,hu⟩⟩:=C;obtain rfl:=he.symm;have I:=U [aA hx c2] (gc ⟨h3,by decide⟩ h2) (wX _);replace I:=I.fR hu;refine es 9 I fun w I=>?_;refine gE [10,11] I fun a I=>?_;refine eD ?_;refine am I fun a I=>?_;obtain⟨hG,I⟩:=I.thawFr (F1:=[ap ad c2 hW,ap ad b0 a0]) 13 rfl (fun _ h=>h) (List.forall_mem_cons.2 ⟨⟨aO (i:=0) rfl,FD (fun _ _ _ _ _ h=>h)⟩,(List.forall_mem_cons.2 ⟨⟨aO (i:=6) rfl,FD (fun _ _ _ _ _ h=>h)⟩,(fun f hf=>nomatch hf)⟩)⟩);cases B
 refine aG I Tryz.results37 (bC I rfl 3 rfl f9 rfl (fun h=>by cases h) (aw I rfl (aw I rfl aI))) ?_;exact⟨a5,a9,hG,hx,c2,rfl,(aF.up ⟨.inr (aO (i:=0) rfl),⟨.inr (aO (i:=1) rfl),trivial⟩⟩ I.g3),I.zo ⟨.inr (aO (i:=0) rfl),⟨.inr (aO (i:=1) rfl),trivial⟩⟩ 0 rfl 0 rfl,I.zo ⟨.inr (aO (i:=0) rfl),⟨.inr (aO (i:=1) rfl),trivial⟩⟩ 1 rfl 1 rfl,(I.zp 0 rfl 1 rfl (by decide))⟩
end
end
section
noncomputable def JJ:Nat->az->ae->Option (ByteArray×az)
  | 0=>fun _ _=>none
  | f+1=>eh (JJ f)
theorem IC:∀ f,ov (JJ f)
  | 0=>by
    unfold ov
    intros
    rename_i B
    cases B
  | f+1=>by
    have ih:=IC f
    unfold ov
    intros
    apply wu <;> first | assumption | exact ih
noncomputable def vv:az->ae->Option (ByteArray×az):=JJ 40
theorem Rx:ov vv:=IC 40
noncomputable def JH:Nat->aQ->ae->Option aQ
  | 0=>fun _ _=>none
  | f+1=>kX (JH f) vv
theorem Iz:∀ f,wG (JH f)
  | 0=>by
    unfold wG
    intros
    rename_i B
    cases B
  | f+1=>by
    have ih:=Iz f
    unfold wG
    intros
    apply zh <;> first | assumption | exact ih | exact Rx
noncomputable def uu:aQ->ae->Option aQ:=JH 40
theorem Rw:wG uu:=Iz 40
end
section
open Go.Lib hiding intOf
variable {s:az} {vrec:az->ae->Option (ByteArray×az)}
section
variable {l:List aN} {V:Nat->ByteArray} {b:ah}
noncomputable abbrev inB (b:ah) (k:ae):ByteArray:=(nr b k).u
theorem Oc.le {ρ ρ':Nat} {inp:ae->ByteArray} (h:Oc l V b inp ρ vrec) (hl:ρ'<=ρ):Oc l V b inp ρ' vrec :=
 ⟨fun s n hs hn hr=>h.rule s n hs hn (by omega),h.cell⟩
theorem my {inp:ae->ByteArray} {r:aN} {k:Nat} {x:dd} (hx:r.c[k]? = some x):dH l inp V r (k+1)=dH l inp V r k++[mz l inp V x (dH l inp V r k)]:=by
 show (match r.c[k]? with | none=>_ | some x=>_)=_;rw [hx]
theorem ub {inp:ae->ByteArray} {r:aN}:∀ {k:Nat},k<=r.c.length->(dH l inp V r k).length=k
 | 0,_=>rfl
 | k+1,h=>by rw [my (bA (show k<r.c.length by omega)),cS,ub (by omega)]; rfl
theorem HP (C:aV l) (hD:Ed l (inB b) V) (hb:Rm b.i.length) {f:Nat} (hv:Oc l V b (inB b) f vrec) {n:Nat} (hs:sv l V b s) (hn:n<l.length) (hf:pN (aZ l) n<=f) :
  Ok (eh vrec s (rk l n)) fun y=>y.1=V n/\sv l V b y.2/\kJ s.e y.2.e:=by
 have hl8:=C.high;unfold eh;refine aH k5 ?_;simp only [cond_false,ax];refine aE (fun hm=>?_) (fun hm=>?_)
 ·obtain⟨v,hv⟩:=Option.isSome_iff_exists.1 hm;rw [hv];exact ai ⟨hs.memo n hn v hv,hs,kJ.refl _⟩
 ·refine aH (iN _) ?_;rw [Ir];by_cases hr:(aZ l)[n]? = some true
  ·rw [decide_eq_true hr];simp only [cond_true];refine aD (Lr C hD (hv.le hf) hs hn hr) fun s' ⟨h1,h2,h3⟩=>?_;rw [h3];exact ai ⟨rfl,h1,h2⟩
  ·rw [decide_eq_false hr];simp only [cond_false];have hi:=bA hn;generalize l[n]=r at hi;have hrr:r.f=false:=by
    rw [im hi] at hr;cases h:r.f with
    | false=>rfl
    | true=>rw [h] at hr; exact absurd rfl hr
   have h3l:=(C.each n r hi).asks;refine bz (fun (k:Nat) (st:(List ByteArray)×(List aN)×Int×(List a7)×(List au)×(List (ae×ByteArray))×(List (ae×(List ae))))=>k<=r.c.length/\st.1=dH l (inB b) V r k/\sv l V b (az.mk st.2.1 (ah.mk st.2.2.1 st.2.2.2.1 st.2.2.2.2.1) st.2.2.2.2.2.1 st.2.2.2.2.2.2)/\kJ s.e st.2.2.2.2.2.1)
    (fun y=>y.1=V n/\sv l V b y.2/\kJ s.e y.2.e) r.c.length ⟨bT _,rfl,hs,kJ.refl _⟩ ?_ (fun y hy=>ai hy)
   rintro k ⟨ws,rules,rev,inps,recs,memo,seen⟩ O ⟨_,e,g1,g2⟩;dsimp only at e g1 g2 ⊢;subst e;have hru:rules=l:=g1.rules;unfold it;rw [hru];rcases dZ k r.c.length with hlt | hge
   ·have hx:=bA hlt;generalize r.c[k]=x at hx;have hlen:=ub (l:=l) (V:=V) (inp:=inB b) (r:=r) O;refine aH (Cj C hi (x:=x) (by rw [hlen]; exact hx)) ?_;unfold e7;simp only [cond_false];obtain⟨_,hg⟩:=lC C hi hx (dH l (inB b) V r k);have fin:∀ {w:ByteArray} {rules rev inps recs memo seen},w=mz l (inB b) V x (dH l (inB b) V r k)->sv l V b (az.mk rules (ah.mk rev inps recs) memo seen)->kJ s.e memo->Ok (gd (bP ((dH l (inB b) V r k).length+[w].length)) <| some (Fl.go (R:=ByteArray×az) (dH l (inB b) V r k++[w],rules,rev,inps,recs,memo,seen))) fun y=>match y with
      | .go st=>k<r.c.length/\(k+1<=r.c.length/\st.1=dH l (inB b) V r (k+1)/\sv l V b (az.mk st.2.1 (ah.mk st.2.2.1 st.2.2.2.1 st.2.2.2.2.1) st.2.2.2.2.2.1 st.2.2.2.2.2.2)/\kJ s.e st.2.2.2.2.2.1)
      | .out y=>y.1=V n/\sv l V b y.2/\kJ s.e y.2.e:=by
     intro w rules rev inps recs memo seen hw q1 q2;exact bY (du (by rw [hlen]; simp; omega)) (ai ⟨hlt,hlt,by rw [my hx,hw],q1,q2⟩)
    have hK:ae.mk (iO l x (dH l (inB b) V r k)).v (iO l x (dH l (inB b) V r k)).x=iO l x (dH l (inB b) V r k):=rfl;rw [hK];rw [hru] at g1;rcases hg with⟨hc,c,hc4,e3,e4⟩|⟨hc,j,hj,e3,e4⟩
    ·have U:mz l (inB b) V x (dH l (inB b) V r k)=inB b (bJ c):=by unfold mz; rw [if_pos hc,e4]
     rw [e4];refine aD (hv.cell _ c g1 hc4) fun y hy=>?_;obtain⟨y1,y2⟩:=y;obtain⟨f1,f2⟩:=hy;simp only at f1 f2;subst f1 f2;exact (fin U.symm g1 g2).mono fun y hy=>by cases y <;> exact hy
    ·have hll:=vh hn;have U:mz l (inB b) V x (dH l (inB b) V r k)=V j:=by unfold mz; rw [if_neg (by rw [hc]; simp),e3]; rfl
     rw [e4];refine aD (hv.rule _ j g1 (by omega) (by have:=zV hr hj; omega)) fun y hy=>?_;obtain⟨f1,f2,f3⟩:=hy;exact (fin (by rw [f1,U]) f2 (g2.trans f3)).mono fun y hy=>by cases y <;> exact hy
   ·obtain rfl:k=r.c.length:=by omega
    have hlen:=ub (l:=l) (V:=V) (inp:=inB b) (r:=r) (bX r.c.length);refine aH (Aj C hi (by rw [hlen]; exact bX _)) ?_;have hval:=hD.plain n r hi hrr;unfold e7;simp only [cond_true];rw [vI (by rw [hlen]; exact bX _),<- hval];rw [hru] at g1;obtain⟨p1,p2⟩:=g1.put hn hl8;exact ai ⟨rfl,p1,g2.trans p2⟩
theorem vF (hb:Rm b.i.length) {c:Nat} (hs:sv l V b s):Ok (eh vrec s (bJ c)) fun y=>y.1=inB b (bJ c)/\y.2=s:=by
 unfold eh;refine aH ki ?_;simp only [cond_true];refine aH (by rw [hs.base]; exact Dv hb _) (ai ⟨rfl,rfl⟩)
theorem Gv (C:aV l) (hD:Ed l (inB b) V) (hb:Rm b.i.length):∀ f,Oc l V b (inB b) f (JJ (f+1))
 | 0=>⟨fun s n _ _ h=>absurd h (by omega),fun s c hs _=>vF hb hs⟩
 | f+1=>⟨fun s n hs hn h=>HP C hD hb (Gv C hD hb f) hs hn (by omega),fun s c hs _=>vF hb hs⟩
theorem IB (C:aV l) (hD:Ed l (inB b) V) (hb:Rm b.i.length) (hs:sv l V b s) {k:ae} (O:fP l k):Ok (vv s k) fun y=>sv l V b y.2/\(∀ n,n<l.length->k=rk l n->y.1=V n):=by
 have h:=Gv C hD hb 39;have hl8:=C.high;rcases O with⟨c,hc,rfl⟩|⟨n,hn,rfl⟩
 ·exact (h.cell s c hs hc).mono fun y hy=>⟨by rw [hy.2]; exact hs,fun n _ e=>absurd e oX⟩
 ·refine (h.rule s n hs hn ?_).mono fun y hy=>⟨hy.2.1,fun m hm e=>?_⟩
  ·have:=Lf (rs:=aZ l) n; omega
  ·rw [rG (by omega) (by omega) e] at hy;exact hy.1
end
end
section
open Go.Lib hiding intOf
variable {b:ah} {l:List au} {x:au}
theorem hO {r:au}:x∈gp l r↔x=r∨(x∈l/\x.d≠r.d):=by
 unfold gp;rw [cD,cI,iC,iC];simp only [decide_eq_true_eq];constructor
 ·rintro (⟨h,h1⟩ | h | ⟨h,h1⟩)
  ·exact .inr ⟨h,tv h1⟩
  ·exact .inl h
  ·exact .inr ⟨h,fun e=>by rw [e,ul] at h1; omega⟩
 ·rintro (h | ⟨h,h1⟩)
  ·exact .inr (.inl h)
  ·rcases um x.d r.d with h2 | h2 | h2
   ·exact .inl ⟨h,h2⟩
   ·exact absurd h2 h1
   ·exact .inr (.inr ⟨h,o7.2 h2⟩)
theorem Ma (h:Ec l) {y:au} (hx:x∈l) (hy:y∈l) (e:x.d=y.d):x=y:=by
 induction l with
 | nil=>cases hx
 | cons z m ih =>
  have h':=ow.1 h;rcases cI.1 hx with e1 | h1
  ·rcases cI.1 hy with e2 | h2
   ·rw [e1,e2]
   ·subst e1; exact absurd e (tv (h'.1 y h2))
  ·rcases cI.1 hy with e2 | h2
   ·subst e2; exact absurd e.symm (tv (h'.1 x h1))
   ·exact ih h'.2 h1 h2
theorem Kw (h:Ec l) (hx:x∈l):bc l x.d=(x,true):=by
 unfold bc;cases hf:l.find? (fun r=>dt r.d x.d) with
 | none =>
  have:=CD.1 hf x hx;simp [zQ] at this
 | some y =>
  have h1:=List.find?_some hf;have h2:=IM hf;rw [Ma h h2 hx (dM.1 h1)]
theorem iP (h:Ec l) (hx:x∈l) {k:ae} (e:x.d=k):bc l k=(x,true):=by subst e; exact Kw h hx
theorem wP (h:Ec l) (r:au) (k:ae):bc (gp l r) k=if k=r.d then (r,true) else bc l k:=by
 have hp:=Gc h r;by_cases e:k=r.d
 ·rw [if_pos e];exact iP hp (hO.2 (.inl rfl)) e.symm
 ·rw [if_neg e];cases hf:(bc l k).2 with
  | true =>
   obtain⟨h1,h2⟩:=bW hf;rw [iP hp (hO.2 (.inr ⟨h1,by rw [h2]; exact e⟩)) h2];exact Prod.ext rfl hf.symm
  | false =>
   obtain⟨h1,h2⟩:=rQ hf;cases hf2:(bc (gp l r) k).2 with
   | true =>
    obtain⟨h3,h4⟩:=bW hf2;rcases hO.1 h3 with h5 | ⟨h5,_⟩
    ·exact absurd (h4.symm.trans (congrArg au.d h5)) e
    ·exact absurd h4 (h2 _ h5)
   | false=>rw [(rQ hf2).1,h1]
theorem HA (h:L7 l):s4 l=some l:=by
 have hl:=h.1;unfold Rm at hl;unfold s4 qG;refine iq (em (xs:=l) (fun k=>(l.take k,(k:Int))) rfl (r:=l) (fun k x hx=>?_) ?_) rfl
 ·have hlt:=aY hx;unfold nB;dsimp only;rw [dlt hlt,cond_true,bx,hx,ax,sD (h.2 x (aO hx)),ax,du (by rw [je]; simp; omega),cH (by omega),bV hx];rfl
 ·unfold nB;dsimp only;rw [bZ,gz]; rfl
theorem wb (h:L7 b.s) (hi:Rm b.i.length):fg b=some b:=by
 unfold Rm at hi;unfold fg;rw [du (by simp; omega),HA h]; rfl
def c7 (g:List ae) (d:Bool) (rev:Int) (r:au):au:=if (g.any fun x=>dt r.d x)=true then (if d=true then ⟨r.d,r.u,r.k,r.a,r.t,r.j,true⟩ else ⟨r.d,r.u,r.k,r.a,rev,r.j,r.w⟩) else r
theorem wV (g:List ae) (d:Bool) (rev:Int) (r:au):(c7 g d rev r).d=r.d:=by unfold c7; split <;> (try split) <;> rfl
theorem Bg (h:L7 b.s) (hi:Rm b.i.length) {g:List ae} (hg:Rm g.length) (d:Bool):me b g d=some ⟨b.r,b.i,b.s.map (c7 g d b.r)⟩:=by
 have hl:=h.1;unfold Rm at hl;unfold me qK;rw [wb h hi,ax];refine iq (em (xs:=b.s) (fun k=>((k:Int),(b.s.take k).map (c7 g d b.r)++b.s.drop k)) rfl (r:=b.s.map (c7 g d b.r)) (fun k x hx=>?_) ?_) rfl
 ·have hlt:=aY hx;have hlen:((b.s.take k).map (c7 g d b.r)).length=k:=by rw [m5,je]; omega
  have hdrop:b.s.drop k=x::b.s.drop (k+1):=by
   rw [LW hlt];rw [bA hlt] at hx;rw [bM hx]
  have hget:bu ((b.s.take k).map (c7 g d b.r)++b.s.drop k) (k:Int)=some x:=by
   rw [bx,pQ (by omega),hlen,hdrop,yh]; rfl
  have tj:∀ y,((b.s.take k).map (c7 g d b.r)++b.s.drop k).set (Int.toNat (k:Int)) y=(b.s.take k).map (c7 g d b.r)++y::b.s.drop (k+1):=fun y=>by
   rw [hdrop,oQ,List.set_append_right _ _ (by omega),hlen,yh]; rfl
  have htake:∀ y,c7 g d b.r x=y->(b.s.take (k+1)).map (c7 g d b.r)++b.s.drop (k+1)=(b.s.take k).map (c7 g d b.r)++y::b.s.drop (k+1):=fun y hy=>by
   rw [bV hx,vT,CC];simp [hy]
  unfold nI;dsimp only;rw [dlt hlt,cond_true,hget,ax,uB hg,ax];unfold li;have hw:=cH (k:=k) (by omega);cases ha:g.any fun y=>dt x.d y with
  | false =>
   rw [nO,cond_true,hw,htake x (by unfold c7; rw [ha]; rfl),hdrop]
  | true =>
   rw [dC,cond_false];cases d with
   | true=>rw [cond_true,ax,tj,hw,htake ⟨x.d,x.u,x.k,x.a,x.t,x.j,true⟩ (by unfold c7; rw [ha]; rfl)]
   | false=>rw [cond_false,ax,tj,hw,htake ⟨x.d,x.u,x.k,x.a,b.r,x.j,x.w⟩ (by unfold c7; rw [ha]; rfl)]
 ·unfold nI;dsimp only;rw [bZ,gz,GM,xD]; rfl
theorem F4 (h:Ec l) (g:List ae) (d:Bool) (rev:Int):Ec (l.map (c7 g d rev)):=by
 unfold Ec;rw [List.pairwise_map];exact h.imp fun {a b} hab=>by rw [wV,wV]; exact hab
theorem sH (h:Ec l) (g:List ae) (d:Bool) (rev:Int) (k:ae):bc (l.map (c7 g d rev)) k=if (bc l k).2=true then (c7 g d rev (bc l k).1,true) else (RY,false):=by
 have hp:=F4 h g d rev;cases hf:(bc l k).2 with
 | true =>
  obtain⟨h1,h2⟩:=bW hf;rw [if_pos rfl];exact iP hp (IL h1) ((wV _ _ _ _).trans h2)
 | false =>
  obtain⟨h1,h2⟩:=rQ hf;rw [if_neg (by simp)];cases hf2:(bc (l.map (c7 g d rev)) k).2 with
  | true =>
   obtain⟨h3,h4⟩:=bW hf2;obtain⟨x,hx,e⟩:=fG.1 h3;exact absurd (by rw [<- h4,<- e,wV]) (h2 x hx)
  | false=>exact (rQ hf2).1
structure tZ (l:List aN) (rev:Int) (r:au):Prop where
 key:∃ n,n<l.length/\r.d=rk l n
 value:r.u.size<=1000
 reads:r.k.length<=3
 good:∀ k∈r.k,fP l k
 low:0<=r.a
 mid:r.a<=r.t
 high:r.t<=rev
 cost:1<=r.j/\r.j<=30000
 dirty:r.w=true->ji r.d=true
structure yn (rev:Int) (x:a7):Prop where
 key:∃ c,c<10/\x.d=bJ c
 value:x.u.size<=8
 low:0<=x.a
 high:x.a<=rev
structure dF (l:List aN) (b:ah):Prop where
 rev:0<=b.r/\b.r<=1000000
 ins:∀ x∈b.i,yn b.r x
 insA:b.i.Pairwise fun x y=>cc x.d y.d<0
 recs:∀ r∈b.s,tZ l b.r r
 recsA:Ec b.s
theorem zT {α:Type} {xs:List α} {f:α->ae} (h:xs.Pairwise fun a b=>cc (f a) (f b)<0):(xs.map f).Nodup:=by
 unfold List.Nodup;rw [List.pairwise_map];exact h.imp fun {a b} hab=>tv hab
theorem dF.nrec {l:List aN} (h:dF l b):b.s.length<=l.length:=by
 have h1:=oE (zT (f:=au.d) h.recsA) (m:=(List.range l.length).map (rk l)) fun k O=>by
  obtain⟨r,hr,rfl⟩:=fG.1 O;obtain⟨n,hn,e⟩:=(h.recs r hr).key;exact fG.2 ⟨n,Eb.2 hn,e.symm⟩
 simpa using h1
theorem dF.nin {l:List aN} (h:dF l b):b.i.length<=10:=by
 have h1:=oE (zT (f:=a7.d) h.insA) (m:=(List.range 10).map bJ) fun k O=>by
  obtain⟨r,hr,rfl⟩:=fG.1 O;obtain⟨n,hn,e⟩:=(h.ins r hr).key;exact fG.2 ⟨n,Eb.2 hn,e.symm⟩
 simpa using h1
theorem dF.rm {l:List aN} (h:dF l b) (hl:l.length<=8):L7 b.s/\Rm b.i.length/\IR b.s:=by
 have h1:=h.nrec;have h2:=h.nin;refine⟨⟨by unfold Rm; omega,fun r hr=>by have:=(h.recs r hr).reads; unfold Rm; omega⟩,by unfold Rm; omega,h.recsA,by omega,fun r hr=>by have:=(h.recs r hr).reads; omega⟩
end
section
open Go.Lib hiding intOf
def Ax (p:Nat->Bool):Nat->Nat
 | 0=>0
 | n+1=>Ax p n+cond (p n) 1 0
theorem Ej {p q:Nat->Bool} (h:∀ n,p n=true->q n=true):∀ N,Ax p N<=Ax q N
 | 0=>bX _
 | n+1=>by
  have:=Ej h n;show Ax p n+cond (p n) 1 0<=Ax q n+cond (q n) 1 0;cases hp:p n with
  | false=>cases q n <;> simp <;> omega
  | true=>rw [h n hp]; simp; omega
theorem El {p q:Nat->Bool} (h:∀ n,p n=true->q n=true) {i:Nat} (h1:p i=false) (h2:q i=true):∀ N,i<N->Ax p N<Ax q N
 | 0,h0=>absurd h0 (by omega)
 | n+1,h0=>by
  have h3:=Ej h n;show Ax p n+cond (p n) 1 0<Ax q n+cond (q n) 1 0;rcases dZ i n with h4 | h4
  ·have:=El h h1 h2 n h4;cases hp:p n with
   | false=>cases q n <;> simp <;> omega
   | true=>rw [h n hp]; simp; omega
  ·obtain rfl:i=n:=by omega
   rw [h1,h2]; simp; omega
theorem wN (p:Nat->Bool):∀ N,Ax p N<=N
 | 0=>bX _
 | n+1=>by
  have:=wN p n;show Ax p n+cond (p n) 1 0<=n+1;cases p n <;> simp <;> omega
noncomputable def cE (b:ah) (k:ae):Bool:=(bc b.s k).2&&decide ((bc b.s k).1.t=b.r)
def pV (b b':ah):Prop:=∀ k,cE b k=true->cE b' k=true
theorem pV.refl (b:ah):pV b b:=fun _ h=>h
theorem pV.trans {a b c:ah} (h:pV a b) (k:pV b c):pV a c:=fun x e=>k x (h x e)
def cK (m:List (ae×Bool)) (k:ae):Bool:=(cF aK k m).getD false
section
variable {l:List aN} {V:Nat->ByteArray} {b0 b:ah}
theorem dF.find (h:dF l b) (hl:l.length<=8) (k:ae):cm b.s k=some (bc b.s k):=vy (h.rm hl).1 k
theorem dF.found (h:dF l b) {k:ae} (O:(bc b.s k).2=true):tZ l b.r (bc b.s k).1/\(bc b.s k).1.d=k :=
 ⟨h.recs _ (bW O).1,(bW O).2⟩
theorem dF.rdGood (h:dF l b) {k x:ae} (hx:x∈zE b.s k):fP l x:=by
 unfold zE at hx;cases O:(bc b.s k).2 with
 | true=>exact (h.found O).1.good x hx
 | false=>rw [(rQ O).1] at hx; cases hx
theorem dF.put (h:dF l b) {r:au} (hr:tZ l b.r r):dF l ⟨b.r,b.i,gp b.s r⟩ :=
 ⟨h.rev,h.ins,h.insA,fun x hx=>by rcases K5 hx with hx | rfl; exact h.recs x hx; exact hr,Gc h.recsA r⟩
theorem zy (h:dF l b) {r:au} (hr:r.t=b.r):pV b ⟨b.r,b.i,gp b.s r⟩/\cE ⟨b.r,b.i,gp b.s r⟩ r.d=true:=by
 refine⟨fun k O=>?_,?_⟩
 ·unfold cE at O ⊢;rw [wP h.recsA];split
  ·simp [hr]
  ·exact O
 ·unfold cE;rw [wP h.recsA,if_pos rfl];simp [hr]
theorem KO {rev:Int} {r:au} (h:tZ l rev r) (g:List ae) (d:Bool) (hd:d=true->∀ k∈g,ji k=true):tZ l rev (c7 g d rev r):=by
 unfold c7;split
 ·rename_i ha;split
  ·rename_i hdd;refine⟨h.key,h.value,h.reads,h.good,h.low,h.mid,h.high,h.cost,fun _=>?_⟩;obtain⟨x,hx,e⟩:=AR.1 ha;rw [dM] at e;show ji r.d=true;rw [e];exact hd hdd x hx
  ·exact⟨h.key,h.value,h.reads,h.good,h.low,by have:=h.mid; have:=h.high; show r.a<=rev; omega,tg _,h.cost,h.dirty⟩
 ·exact h
theorem dF.mark (h:dF l b) (g:List ae) (d:Bool) (hd:d=true->∀ k∈g,ji k=true):dF l ⟨b.r,b.i,b.s.map (c7 g d b.r)⟩ :=
 ⟨h.rev,h.ins,h.insA,fun x hx=>by obtain⟨y,hy,rfl⟩:=fG.1 hx; exact KO (h.recs y hy) g d hd,F4 h.recsA g d _⟩
theorem LG (h:dF l b) (g:List ae) (d:Bool):pV b ⟨b.r,b.i,b.s.map (c7 g d b.r)⟩:=fun k O=>by
 unfold cE at O ⊢;rw [kg,decide_eq_true_eq] at O;rw [sH h.recsA,if_pos O.1];unfold c7;split
 ·split
  ·simp [O.2]
  ·simp
 ·simp [O.2]
theorem Cn (h:dF l b) {g:List ae} {k:ae} (O:(bc b.s k).2=true) (hg:k∈g):cE ⟨b.r,b.i,b.s.map (c7 g false b.r)⟩ k=true:=by
 unfold cE;rw [sH h.recsA,if_pos O];have e:=(h.found O).2;unfold c7;rw [if_pos (by rw [e]; exact AR.2 ⟨k,hg,zQ k⟩)];simp
theorem EM {recs:List au} {rev:Int} {k:ae} (h:sX recs rev k=true):ji k=true/\(bc recs k).2=true:=by
 unfold sX F8 at h;rw [kg,kg,kg] at h;obtain⟨h1,h2⟩:=bW h.1;rw [h2] at h;exact⟨h.2.1.1,h.1⟩
structure E8 (l:List aN) (V:Nat->ByteArray) (b0:ah) (x:aQ):Prop where
 sol:sv l V b0 x.S
 base:dF l x.B
 rev:x.B.r=b0.r
 ins:x.B.i=b0.i
 nd:Nd x.g
theorem MR {b:ah} (hb:Rm b.i.length) (k:ae):rb b k=some (nr b k).a:=by
 unfold rb;rw [DP hb]; rfl
noncomputable def nh (x:aQ) (k:ae):Bool:=decide (k.v=1)||(decide (k.v=2)||decide (k.v=30))||(cK x.g k&&ji k)||cE x.B k
theorem Lw {x:aQ} (h:dF l x.B) (hl:l.length<=8) (k:ae):ij x k=some (nh x k,x):=by
 unfold ij nh cE cK;rw [kP,ax];generalize (decide (k.v=1)||(decide (k.v=2)||decide (k.v=30)))=i;have j3f:cW x k false=some ((bc x.B.s k).2&&decide ((bc x.B.s k).1.t=x.B.r),x):=by
  unfold cW;rw [cond_false,h.find hl,ax];unfold iz fc;cases (bc x.B.s k).2
  ·rfl
  ·rw [cond_true,tF];congr 2
 have j3t:cW x k true=some (true,x):=rfl;cases i
 ·rw [cond_false,ax];cases (cF aK k x.g).getD false
  ·rw [cond_false,j3f]; rfl
  ·rw [cond_true,iN,ax];cases ji k
   ·rw [j3f]; rfl
   ·rw [j3t]; rfl
 ·rw [cond_true,j3t]; rfl
variable (C:aV l) (hD:Ed l (inB b0) V) (hb0:Rm b0.i.length)
include C hD hb0
end
end
section
open Go.Lib hiding intOf
variable {k:Nat} {x:dd}
noncomputable def vK (l:List aN) (inp:ae->ByteArray) (k:ae):ByteArray:=if k.v=30 then inp k else Vd l inp (F7 k).toNat
section
variable (l:List aN) (inp:ae->ByteArray) (V:Nat->ByteArray) (r:aN)
noncomputable def fJ:Nat->List ae
 | 0=>[]
 | k+1=>match r.c[k]? with
  | none=>fJ k
  | some x=>fJ k++[iO l x (dH l inp V r k)]
end
section
variable {l:List aN} {inp inp':ae->ByteArray}
theorem jx {c:Nat}:vK l inp (bJ c)=inp (bJ c):=if_pos rfl
theorem wD {n:Nat}:(rk l n).v≠30:=by rcases wC (l:=l) (n:=n) with h | h <;> rw [h] <;> decide
theorem tb {n:Nat} (h:n<100):vK l inp (rk l n)=Vd l inp n:=by
 unfold vK;rw [if_neg wD,Af h,oQ]
theorem Eq {n:Nat}:ji (rk l n)=decide ((aZ l)[n]? = some true):=by
 unfold ji;rcases qM (l:=l) (n:=n) with⟨h,h2⟩|⟨h,h2⟩
 ·rw [h,decide_eq_false h2]; rfl
 ·rw [h,decide_eq_true h2]; rfl
theorem Fx {c:Nat}:ji (bJ c)=false:=rfl
section
variable {V:Nat->ByteArray} {r:aN}
theorem ld (hx:r.c[k]? = some x):fJ l inp V r (k+1)=fJ l inp V r k++[iO l x (dH l inp V r k)]:=by
 show (match r.c[k]? with | none=>_ | some x=>_)=_;rw [hx]
theorem yX:∀ {k:Nat},k<=r.c.length->(fJ l inp V r k).length=k
 | 0,_=>rfl
 | k+1,h=>by
  rw [ld (bA (show k<r.c.length by omega)),cS,yX (by omega)]; rfl
theorem yY:∀ {j k:Nat},j<=k->∀ x∈fJ l inp V r j,x∈fJ l inp V r k
 | j,0,h,x,hx=>by rwa [show j=0 by omega] at hx
 | j,k+1,h,x,hx=>by
  rcases dZ j (k+1) with h1 | h1
  ·have h2:=yY (show j<=k by omega) x hx;show x∈(match r.c[k]? with | none=>_ | some y=>_);cases r.c[k]? with
   | none=>exact h2
   | some y=>exact iB _ h2
  ·rwa [show j=k+1 by omega] at hx
theorem K7 {x:ae} (h:x∈fJ l inp V r k):∃ j y,j<k/\r.c[j]? = some y/\x=iO l y (dH l inp V r j):=by
 induction k with
 | zero=>cases h
 | succ k ih =>
  have h:x∈(match r.c[k]? with | none=>fJ l inp V r k | some y=>fJ l inp V r k++[iO l y (dH l inp V r k)]):=h;cases hy:r.c[k]? with
  | none =>
   rw [hy] at h;obtain⟨j,y,h1,h2⟩:=ih h;exact⟨j,y,by omega,h2⟩
  | some y =>
   rw [hy] at h;rcases cD.1 h with h | h
   ·obtain⟨j,y,h1,h2⟩:=ih h;exact⟨j,y,by omega,h2⟩
   ·exact⟨k,y,by omega,hy,bK.1 h⟩
end
section
variable (C:aV l) {n:Nat} {r:aN} (h:l[n]? = some r)
include C h
theorem tp (hx:r.c[k]? = some x) (ls:List ByteArray):mz l inp (Vd l inp) x ls=vK l inp (iO l x ls):=by
 have hl:=C.high;have hn:=aY h;unfold mz;obtain⟨_,⟨hc,c,_,_,e⟩|⟨hc,j,hj,e1,e⟩⟩:=lC C h hx ls
 ·rw [if_pos hc,e,jx]
 ·have:=vh hn;rw [if_neg (by rw [hc]; simp),e,e1,tb (by omega),oQ]
theorem ux {V:Nat->ByteArray} {x:ae} (hx:x∈fJ l inp V r k):(∃ c,c<10/\x=bJ c)∨∃ j,j<CJ (aZ l) n/\j<l.length/\x=rk l j:=by
 obtain⟨j,y,_,h2,rfl⟩:=K7 hx;have:=vh (aY h);obtain⟨_,⟨_,c,hc,_,e⟩|⟨_,i,hi,_,e⟩⟩:=lC C h h2 (dH l inp V r j)
 ·exact .inl ⟨c,hc,e⟩
 ·exact .inr ⟨i,hi,by omega,e⟩
theorem uD (hr:r.f=true) (hx:r.c[k]? = some x) (ls:List ByteArray):iO l x ls=iO l x []:=by
 unfold iO;rw [uC C h hr hx ls,uC C h hr hx []]
theorem x7 (hr:r.f=true) (V V':Nat->ByteArray):∀ k,fJ l inp V r k=fJ l inp' V' r k
 | 0=>rfl
 | k+1=>by
  show (match r.c[k]? with | none=>_ | some x=>_)=(match r.c[k]? with | none=>_ | some x=>_);rw [x7 hr V V' k];cases hx:r.c[k]? with
  | none=>rfl
  | some x =>
   dsimp only;rw [uD C h hr hx,uD C h hr hx (dH l inp' V' r k)]
theorem B8 (hr:r.f=true) (V:Nat->ByteArray) {v:ByteArray}:∀ {k:Nat},v∈dH l inp V r k->∃ x∈r.c,v=mz l inp V x []
 | 0,hv=>by cases hv
 | k+1,hv=>by
  have hv:v∈(match r.c[k]? with | none=>dH l inp V r k | some x=>dH l inp V r k++[mz l inp V x (dH l inp V r k)]):=hv;cases hx:r.c[k]? with
  | none=>rw [hx] at hv; exact B8 hr V hv
  | some x =>
   rw [hx] at hv;rcases cD.1 hv with hv | hv
   ·exact B8 hr V hv
   ·refine⟨x,aO hx,?_⟩;rw [bK.1 hv];unfold mz;rw [uD C h hr hx,uC C h hr hx,uC C h hr hx]
theorem DR (hr:r.f=true) (V:Nat->ByteArray) (hx:x∈r.c):mz l inp V x []∈dH l inp V r r.c.length:=by
 obtain⟨k,O⟩:=iD.1 hx;have key:∀ j,k<j->j<=r.c.length->mz l inp V x []∈dH l inp V r j:=by
  intro j
  induction j with
  | zero=>intro h0; omega
  | succ j ih =>
   intro h1 h2;rw [my (bA (show j<r.c.length by omega))];rcases dZ k j with h3 | h3
   ·exact iB _ (ih h3 (by omega))
   ·obtain rfl:k=j:=by omega
    refine pR _ (bK.2 ?_);have e:r.c[k]=x:=by rw [bA (by omega)] at O; exact bM O
    rw [e];unfold mz;rw [uD C h hr O (dH l inp V r k),uC C h hr O (dH l inp V r k),uC C h hr O []]
 exact key _ (aY O) (bX _)
theorem zL:Vd l inp n=cL (u6 r (dH l inp (Vd l inp) r r.c.length)):=by
 have hD:=u4 inp C;cases hr:r.f with
 | false=>exact hD.plain n r h hr
 | true =>
  obtain⟨u,e,hu,hb⟩:=hD.ring n r h hr;obtain⟨m,m1,m2,m3⟩:=FC C h hr (dH l inp (Vd l inp) r r.c.length);have hring:∀ x∈r.c,x.b1=false->(aZ l)[x.N.toNat]? = some true->∃ w:Nat,mz l inp (Vd l inp) x []=cL w/\w<65536/\∀ q,w.testBit q=true↔RB l inp (Vd l inp) x.N.toNat q:=fun x hx hc hg=>by
   obtain⟨k,O⟩:=iD.1 hx;obtain⟨r2,hr2⟩:∃ r2,l[x.N.toNat]? = some r2:=by
    unfold aZ at hg;rw [wK] at hg;obtain⟨r2,h2,_⟩:=E5.1 hg;exact⟨r2,h2⟩
   have hring2:r2.f=true:=by rw [im hr2] at hg; exact bM hg
   obtain⟨w,w1,w2,w3⟩:=hD.ring _ r2 hr2 hring2;refine⟨w,?_,w2,w3⟩;unfold mz;rw [if_neg (by rw [hc]; simp),uC C h hr O []];exact w1
  rw [e,m1];congr 2;refine E2 fun q=>?_;have key:u.testBit q=true↔m.testBit q=true:=by
   rw [hb,m3];constructor
   ·intro hq;cases hq with
    | own h1 h2 =>
     obtain rfl:=bM (h.symm.trans h1);exact .inl h2
    | ask h1 h2 h3 h4 =>
     obtain rfl:=bM (h.symm.trans h1);exact .inr ⟨_,DR C h hr _ h2,h4⟩
    | ring h1 h2 h3 h4 h5 =>
     obtain rfl:=bM (h.symm.trans h1);obtain⟨w,w1,w2,w3⟩:=hring _ h2 h3 h4;refine .inr ⟨_,DR C h hr _ h2,?_⟩;rw [w1,tc w2,oQ];exact (w3 q).2 h5
   ·rintro (hq | ⟨v,hv,hq⟩)
    ·exact .own h hq
    ·obtain⟨x,hx,rfl⟩:=B8 C h hr _ hv;by_cases hi:x.b1=true∨(aZ l)[x.N.toNat]? ≠ some true
     ·exact .ask h hx hi hq
     ·have hc:x.b1=false:=by cases hx:x.b1 with | false=>rfl | true=>exact absurd (.inl hx) hi
      have hg:(aZ l)[x.N.toNat]? = some true:=II fun hne=>hi (.inr hne);obtain⟨w,w1,w2,w3⟩:=hring x hx hc hg;rw [w1,tc w2,oQ] at hq;exact .ring h hx hc hg ((w3 q).1 hq)
  cases h1:u.testBit q <;> cases h2:m.testBit q <;> simp_all
theorem Lj (hs:∀ k∈fJ l inp (Vd l inp) r r.c.length,vK l inp k=vK l inp' k) (k:Nat) (O:k<=r.c.length):dH l inp (Vd l inp) r k=dH l inp' (Vd l inp') r k/\fJ l inp (Vd l inp) r k=fJ l inp' (Vd l inp') r k:=by
 induction k with
 | zero =>
  show ([]:List ByteArray)=[]/\([]:List ae)=[];exact⟨rfl,rfl⟩
 | succ k ih =>
  obtain⟨i1,i2⟩:=ih (Nat.le_of_succ_le O);obtain⟨x,hx⟩:∃ x,r.c[k]? = some x:=⟨_,bA O⟩;have e1:mz l inp (Vd l inp) x (dH l inp (Vd l inp) r k)=vK l inp (iO l x (dH l inp (Vd l inp) r k)):=tp C h hx _;have e2:mz l inp' (Vd l inp') x (dH l inp (Vd l inp) r k)=vK l inp' (iO l x (dH l inp (Vd l inp) r k)):=tp C h hx _;have e3:fJ l inp (Vd l inp) r (k+1)=fJ l inp (Vd l inp) r k++[iO l x (dH l inp (Vd l inp) r k)]:=ld hx;have e4:fJ l inp' (Vd l inp') r (k+1)=fJ l inp' (Vd l inp') r k++[iO l x (dH l inp' (Vd l inp') r k)]:=ld hx;have e5:dH l inp (Vd l inp) r (k+1)=dH l inp (Vd l inp) r k++[mz l inp (Vd l inp) x (dH l inp (Vd l inp) r k)]:=my hx;have e6:dH l inp' (Vd l inp') r (k+1)=dH l inp' (Vd l inp') r k++[mz l inp' (Vd l inp') x (dH l inp' (Vd l inp') r k)]:=my hx;have hm:iO l x (dH l inp (Vd l inp) r k)∈fJ l inp (Vd l inp) r (k+1):=by
   rw [e3];exact pR _ (bK.2 rfl)
  have hv:=hs _ (yY O _ hm);rw [<- i1] at e4 e6;rw [<- i2] at e4;refine⟨?_,?_⟩
  ·rw [e5,e6,e1,e2,hv]
  ·rw [e3,e4]
theorem Gj (hs:∀ k∈fJ l inp (Vd l inp) r r.c.length,vK l inp k=vK l inp' k):Vd l inp n=Vd l inp' n/\fJ l inp (Vd l inp) r r.c.length=fJ l inp' (Vd l inp') r r.c.length:=by
 obtain⟨h1,h2⟩:=Lj C h hs _ (bX _);exact⟨by rw [zL C h,zL C h,h1],h2⟩
end
theorem FG (C:aV l) {G:ae->Prop} (hG:∀ n r,l[n]? = some r->G (rk l n)->r.f=true) (hG2:∀ c,¬ G (bJ c))
  (hs:∀ n r,l[n]? = some r->G (rk l n)->∀ k∈fJ l inp (Vd l inp) r r.c.length,¬ G k->vK l inp k=vK l inp' k) {n q:Nat} (hq:RB l inp (Vd l inp) n q):G (rk l n)->RB l inp' (Vd l inp') n q:=by
 have hl:=C.high
 induction hq with
 | own h1 h2=>exact fun _=>.own h1 h2
 | @ask n q r x h1 h2 h3 h4 =>
  intro hg;have hr:=hG n r h1 hg;obtain⟨k,O⟩:=iD.1 h2;have hm:iO l x []∈fJ l inp (Vd l inp) r r.c.length:=by
   rw [<- uD C h1 hr O (dH l inp (Vd l inp) r k)];exact yY (show k+1<=r.c.length from aY O) _ (by rw [ld O]; exact pR _ (bK.2 rfl))
  have hng:¬ G (iO l x []):=by
   intro hgx;obtain⟨_,⟨hc,c,_,_,e⟩|⟨hc,j,hj,e1,e⟩⟩:=lC C h1 O []
   ·rcases ux C h1 hm with _ | ⟨j,_,_,e2⟩
    ·exact hG2 c (e▸hgx)
    ·rw [e] at e2; exact oX e2
   ·rw [e] at hgx;have e3:(tJ x [])=x.N:=uC C h1 hr O [];have:x.N.toNat=j:=by omega
    rw [this] at h3;obtain⟨r2,hr2⟩:∃ r2,l[j]? = some r2:=⟨_,bA (by have:=vh (aY h1); omega)⟩;have:=hG j r2 hr2 hgx;rcases h3 with h3 | h3
    ·rw [hc] at h3; cases h3
    ·exact h3 (by rw [im hr2,this])
  refine .ask h1 h2 h3 ?_;rw [<- h4,tp C h1 O,tp C h1 O,hs n r h1 hg _ hm hng]
 | @ring n q r x h1 h2 h3 h4 h5 ih =>
  intro hg;have hr:=hG n r h1 hg;obtain⟨k,O⟩:=iD.1 h2;have hm:iO l x []∈fJ l inp (Vd l inp) r r.c.length:=by
   rw [<- uD C h1 hr O (dH l inp (Vd l inp) r k)];exact yY (show k+1<=r.c.length from aY O) _ (by rw [ld O]; exact pR _ (bK.2 rfl))
  have e:iO l x []=rk l x.N.toNat:=by
   unfold iO;rw [if_neg (by rw [h3]; simp),uC C h1 hr O []]
  by_cases hgx:G (rk l x.N.toNat)
  ·exact .ring h1 h2 h3 h4 (ih hgx)
  ·refine .ring h1 h2 h3 h4 ?_;obtain⟨r2,hr2⟩:∃ r2,l[x.N.toNat]? = some r2:=by
    have h4:=h4;unfold aZ at h4;rw [wK] at h4;obtain⟨r2,h2,_⟩:=E5.1 h4;exact⟨r2,h2⟩
   have hring2:r2.f=true:=by rw [im hr2] at h4; exact bM h4
   have hlt:=aY hr2;have hv:=hs n r h1 hg _ hm (by rw [e]; exact hgx);rw [e,tb (by omega),tb (by omega)] at hv;obtain⟨u,u1,u2,u3⟩:=(u4 inp C).ring _ r2 hr2 hring2;obtain⟨w,w1,w2,w3⟩:=(u4 inp' C).ring _ r2 hr2 hring2;rw [u1,w1] at hv;rw [zN u2 w2 hv] at u3;exact (w3 _).1 ((u3 _).2 h5)
theorem HF (C:aV l) {G:ae->Prop} (hG:∀ n r,l[n]? = some r->G (rk l n)->r.f=true) (hG2:∀ c,¬ G (bJ c))
  (hs:∀ n r,l[n]? = some r->G (rk l n)->∀ k∈fJ l inp (Vd l inp) r r.c.length,¬ G k->vK l inp k=vK l inp' k) {n:Nat} {r:aN} (h:l[n]? = some r) (hg:G (rk l n)):Vd l inp n=Vd l inp' n:=by
 have hr:=hG n r h hg;obtain⟨u,u1,u2,u3⟩:=(u4 inp C).ring _ r h hr;obtain⟨w,w1,w2,w3⟩:=(u4 inp' C).ring _ r h hr;have hs':∀ n r,l[n]? = some r->G (rk l n)->∀ k∈fJ l inp' (Vd l inp') r r.c.length,¬ G k->vK l inp' k=vK l inp k:=fun n r h hg k O hn=>(hs n r h hg k (by rw [x7 C h (hG n r h hg) (inp':=inp') (Vd l inp) (Vd l inp')]; exact O) hn).symm;rw [u1,w1];congr 2;refine E2 fun q=>?_;have key:u.testBit q=true↔w.testBit q=true:=by
  rw [u3,w3];exact⟨fun e=>FG C hG hG2 hs e hg,fun e=>FG C hG hG2 hs' e hg⟩
 cases h1:u.testBit q <;> cases h2:w.testBit q <;> simp_all
end
end
section
open Go.Lib hiding intOf
variable {g:List ae} {k:ae}
structure VI (l:List aN) (H:Int->ae->ByteArray) (b:ah) (P:ae->Prop):Prop where
 now:∀ k,(nr b k).u=H b.r k
 past:∀ k r,(nr b k).a<=r->r<=b.r->H r k=H b.r k
 recv:∀ m∈b.s,∀ n r,l[n]? = some r->m.d=rk l n->m.u=Vd l (H m.t) n/\m.k=fJ l (H m.t) (Vd l (H m.t)) r r.c.length
 link:∀ m∈b.s,∀ x∈b.s,x.d∈m.k->(m.t<=x.t/\(x.a<=m.t->x.u=vK l (H m.t) x.d))∨(m.t=b.r/\P x.d/\x.t<b.r)
def zw (b:ah) (P:ae->Prop) (k:ae):Prop:=(∃ c,k=bJ c)∨cE b k=true∨P k
section
variable {l:List aN} {H:Int->ae->ByteArray} {b:ah} {P P':ae->Prop}
theorem rB (hB:dF l b) {x:au} (hx:x∈b.s):cE b x.d=decide (x.t=b.r):=by
 unfold cE;rw [iP hB.recsA hx rfl]; rfl
theorem VI.of (h:VI l H b P) {recs:List au} (hr:∀ m∈recs,∃ o∈b.s,m.d=o.d/\m.u=o.u/\m.k=o.k/\m.a=o.a/\m.t=o.t):VI l H ⟨b.r,b.i,recs⟩ P:=by
 refine⟨h.now,h.past,fun m hm n r hn O=>?_,fun m hm x hx hmx=>?_⟩
 ·obtain⟨o,ho,e1,e2,e3,e4,e5⟩:=hr m hm;rw [e2,e3,e5];exact h.recv o ho n r hn (e1▸O)
 ·obtain⟨o,ho,e1,e2,e3,e4,e5⟩:=hr m hm;obtain⟨p,hp,f1,f2,f3,f4,f5⟩:=hr x hx;rw [e5,f1,f2,f4,f5];exact h.link o ho p hp (by rw [<- f1,<- e3]; exact hmx)
theorem VI.weak (h:VI l H b P) (hp:∀ x∈b.s,P x.d->x.t<b.r->P' x.d):VI l H b P' :=
 ⟨h.now,h.past,h.recv,fun m hm x hx hmx=>by
  rcases h.link m hm x hx hmx with h1 | ⟨h1,h2,h3⟩
  ·exact .inl h1
  ·exact .inr ⟨h1,hp x hx h2 h3,h3⟩⟩
theorem VI.ver (C:aV l) (hB:dF l b) (h:VI l H b P) {x:au} (hx:x∈b.s) (hv:x.t=b.r):x.u=vK l (H b.r) x.d:=by
 have hl:=C.high;obtain⟨n,hn,e⟩:=(hB.recs x hx).key;have:=(h.recv x hx n _ (bA hn) e).1;rw [this,hv,e,tb (by omega)]
theorem VI.put (C:aV l) (hB:dF l b) (h:VI l H b P) {n:Nat} {r:aN} (hn:l[n]? = some r) {q:au} (q1:q.d=rk l n) (q2:q.u=Vd l (H b.r) n) (q3:q.k=fJ l (H b.r) (Vd l (H b.r)) r r.c.length)
  (q4:q.t=b.r) (q5:q.a=b.r∨∃ o∈b.s,o.d=q.d/\o.u=q.u/\q.a=o.a) (ht:∀ k∈q.k,zw b P k):VI l H ⟨b.r,b.i,gp b.s q⟩ P:=by
 have hl:=C.high;have hnl:=aY hn;have hv:q.u=vK l (H b.r) q.d:=by rw [q1,tb (by omega),q2]
 refine⟨h.now,h.past,fun m hm j r' hj O=>?_,fun m hm x hx hr=>?_⟩
 ·rcases hO.1 hm with rfl | ⟨hm,_⟩
  ·have:=aY hj;obtain rfl:n=j:=rG (by omega) (by omega) (q1.symm.trans O);obtain rfl:=bM (hn.symm.trans hj);rw [q4]; exact⟨q2,q3⟩
  ·exact h.recv m hm j r' hj O
 ·show (_/\_)∨(m.t=b.r/\P x.d/\x.t<b.r);rcases hO.1 hm with rfl | ⟨hmo,hmk⟩
  ·rcases hO.1 hx with rfl | ⟨hxo,hxk⟩
   ·exact .inl ⟨tg _,fun _=>by rw [q4]; exact hv⟩
   ·by_cases hxv:x.t=b.r
    ·exact .inl ⟨by rw [q4,hxv]; exact tg _,fun _=>by rw [q4]; exact h.ver C hB hxo hxv⟩
    ·rcases ht _ hr with⟨c,e⟩ | hv' | hp
     ·obtain⟨j,_,e2⟩:=(hB.recs x hxo).key;exact absurd (e.symm.trans e2) oX
     ·rw [rB hB hxo] at hv';exact absurd (of_decide_eq_true hv') hxv
     ·have:=(hB.recs x hxo).high;exact .inr ⟨q4,hp,by omega⟩
  ·rcases hO.1 hx with rfl | ⟨hxo,hxk⟩
   ·by_cases hmv:m.t=b.r
    ·exact .inl ⟨by rw [q4,hmv]; exact tg _,fun _=>by rw [hmv]; exact hv⟩
    ·have hmh:=(hB.recs m hmo).high;refine .inl ⟨by rw [q4]; exact hmh,fun hc=>?_⟩;rcases q5 with e | ⟨o,ho,o1,o2,o3⟩
     ·omega
     ·rcases h.link m hmo o ho (by rw [o1]; exact hr) with⟨_,g⟩|⟨g,_⟩
      ·rw [<- o2,<- o1]; exact g (by omega)
      ·exact absurd g hmv
   ·exact h.link m hmo x hxo hr
theorem wM:(g.any fun x=>dt k x)=true↔k∈g:=by
 rw [AR];constructor
 ·rintro⟨x,hx,e⟩;rw [dM.1 e]; exact hx
 ·exact fun h=>⟨k,h,dM.2 rfl⟩
theorem qV {d:Bool} {rev:Int} {r:au} (h:r.d∈g):c7 g d rev r=if d=true then ⟨r.d,r.u,r.k,r.a,r.t,r.j,true⟩ else ⟨r.d,r.u,r.k,r.a,rev,r.j,r.w⟩:=by
 unfold c7;rw [if_pos (wM.2 h)]
theorem sd {d:Bool} {rev:Int} {r:au} (h:r.d ∉ g):c7 g d rev r=r:=by
 unfold c7;rw [if_neg (fun e=>h (wM.1 e))]
theorem VI.dirty (h:VI l H b P) (g:List ae):VI l H ⟨b.r,b.i,b.s.map (c7 g true b.r)⟩ P:=by
 refine h.of fun m hm=>?_;obtain⟨o,ho,rfl⟩:=fG.1 hm;refine⟨o,ho,?_⟩;by_cases hg:o.d∈g
 ·rw [qV hg]; exact⟨rfl,rfl,rfl,rfl,rfl⟩
 ·rw [sd hg]; exact⟨rfl,rfl,rfl,rfl,rfl⟩
theorem VI.mark (C:aV l) (hB:dF l b) (h:VI l H b P) (hg:∀ m∈b.s,m.d∈g->(∀ n r,l[n]? = some r->m.d=rk l n->m.u=Vd l (H b.r) n/\m.k=fJ l (H b.r) (Vd l (H b.r)) r r.c.length)/\∀ k∈m.k,k∈g∨zw b P k) :
  VI l H ⟨b.r,b.i,b.s.map (c7 g false b.r)⟩ P:=by
 have hl:=C.high;have hval:∀ m∈b.s,m.d∈g->m.u=vK l (H b.r) m.d:=fun m hm hmg=>by
  obtain⟨n,hn,e⟩:=(hB.recs m hm).key;rw [((hg m hm hmg).1 n _ (bA hn) e).1,e,tb (by omega)]
 refine⟨h.now,h.past,fun m' hm' n r hn O=>?_,fun m' hm' x' hx' hr=>?_⟩
 ·obtain⟨m,hm,rfl⟩:=fG.1 hm';by_cases hmg:m.d∈g
  ·rw [qV hmg] at O ⊢;exact (hg m hm hmg).1 n r hn O
  ·rw [sd hmg] at O ⊢;exact h.recv m hm n r hn O
 ·show (_/\_)∨(_=b.r/\P _/\_<b.r);obtain⟨m,hm,rfl⟩:=fG.1 hm';obtain⟨x,hx,rfl⟩:=fG.1 hx';have hmh:=(hB.recs m hm).high;have hxh:=(hB.recs x hx).high;by_cases hmg:m.d∈g
  ·rw [qV hmg] at hr ⊢;by_cases hxg:x.d∈g
   ·rw [qV hxg];exact .inl ⟨tg _,fun _=>hval x hx hxg⟩
   ·rw [sd hxg] at hr ⊢;by_cases hxv:x.t=b.r
    ·exact .inl ⟨by show b.r<=_; omega,fun _=>h.ver C hB hx hxv⟩
    ·rcases (hg m hm hmg).2 x.d hr with h1 | ⟨c,e⟩ | hv' | hp
     ·exact absurd h1 hxg
     ·obtain⟨j,_,e2⟩:=(hB.recs x hx).key;exact absurd (e.symm.trans e2) oX
     ·rw [rB hB hx] at hv';exact absurd (of_decide_eq_true hv') hxv
     ·exact .inr ⟨rfl,hp,by omega⟩
  ·rw [sd hmg] at hr ⊢;by_cases hxg:x.d∈g
   ·rw [qV hxg] at hr ⊢;refine .inl ⟨hmh,fun hc=>?_⟩;by_cases hmv:m.t=b.r
    ·rw [hmv]; exact hval x hx hxg
    ·rcases h.link m hm x hx hr with⟨_,q⟩|⟨q,_⟩
     ·exact q hc
     ·exact absurd q hmv
   ·rw [sd hxg] at hr ⊢;exact h.link m hm x hx hr
def Rt (l:List aN) (H:Int->ae->ByteArray) (b:ah) (k:ae) (c:Int):Prop :=
 ((∃ i,k=bJ i)/\c=(nr b k).a)∨(∃ x∈b.s,x.d=k/\x.u=vK l (H b.r) k/\c=x.a)∨c=b.r
theorem VI.chk (hB:dF l b) (h:VI l H b P) {m:au} (hm:m∈b.s) (hmv:m.t<b.r) (O:k∈m.k) {c:Int} (hc:Rt l H b k c) (hle:c<=m.t):vK l (H b.r) k=vK l (H m.t) k:=by
 rcases hc with⟨⟨i,rfl⟩,rfl⟩|⟨x,hx,rfl,e,rfl⟩ | rfl
 ·rw [jx,jx,h.past _ _ hle (by omega)]
 ·rcases h.link m hm x hx O with⟨_,g⟩|⟨g,_⟩
  ·rw [<- e]; exact g hle
  ·omega
 ·omega
end
section
variable {l:List aN} {H:Int->ae->ByteArray} {b b0:ah} {V:Nat->ByteArray} {P:ae->Prop} (C:aV l) (hD:Ed l (inB b0) V) (hb0:Rm b0.i.length) (hV:V=Vd l (H b.r))
include C hD hb0 hV
theorem Au {s:az} (hs:sv l V b0 s) (hb:dF l b) (hh:VI l H b P) (O:fP l k):Ok (lj vv s b k) fun y=>sv l V b0 y.2/\Rt l H b k y.1:=by
 have hl:=C.high;have fnd:(bc b.s k).2=true->∀ y:ByteArray,(∀ n,n<l.length->k=rk l n->y=V n)->y=(bc b.s k).1.u->Rt l H b k (bc b.s k).1.a:=fun hf y hy e=>by
  obtain⟨h1,h2⟩:=hb.found hf;obtain⟨n,hn,e2⟩:=h1.key;refine .inr (.inl ⟨_,(bW hf).1,h2,?_,rfl⟩);rw [<- e,hy n hn (h2.symm.trans e2),hV,<- h2,e2,tb (by omega)]
 unfold lj;refine aH (kP _) (aE (fun hi=>aH (MR (hb.rm hl).2.1 k) (ai ⟨hs,.inl ⟨?_,rfl⟩⟩)) (fun hi=>aH (hb.find hl k) (aE (fun hf=>aE (fun hv=>?_) (fun _=>?_)) (fun _=>?_))))
 ·rcases O with⟨c,_,e⟩|⟨n,_,rfl⟩
  ·exact⟨c,e⟩
  ·have:=(kP (rk l n)).symm.trans k5;rw [hi] at this; cases this
 ·refine ai ⟨hs,?_⟩;have h1:=bW hf;exact .inr (.inl ⟨_,h1.1,h1.2,by rw [hh.ver C hb h1.1 (by simpa using hv),h1.2],rfl⟩)
 ·refine aD (IB C hD hb0 hs O) fun y hy=>?_;unfold gQ;cases he:(y.1.toList==(bc b.s k).1.u.toList) with
  | true=>exact ai ⟨hy.1,fnd hf y.1 hy.2 (GJ (by simpa [ByteArray.toList_eq] using he))⟩
  | false=>exact ai ⟨hy.1,.inr (.inr rfl)⟩
 ·exact ai ⟨hs,.inr (.inr rfl)⟩
end
end
section
open Go.Lib hiding intOf
def Nv (b:ah) (k:ae):Prop:=(bc b.s k).2=true/\(bc b.s k).1.w=false/\cE b k=false
def gm (b:ah) (k m:ae):Prop:=if ji k=true then gI (Ek b.s b.r) k m/\gI (Ek b.s b.r) m k else m=k
def CM (b:ah) (k:ae) (g:List ae):Prop:=(sX b.s b.r k=false/\g=[k])∨(sX b.s b.r k=true/\Ru b.s b.r k g)
theorem Hw {b:ah} (I:IR b.s) (k:ae):Ok (nG b.s b.r k) fun m=>m.length<=1000/\k∈m/\CM b k m:=by
 cases ho:sX b.s b.r k with
 | true=>exact (Lb I ho).mono fun m hm=>⟨hm.len I ho,(hm.2 k).2 ⟨.refl,.refl⟩,.inr ⟨ho,hm⟩⟩
 | false =>
  unfold nG;rw [xZ I.rm,ax,ho];exact ai ⟨by simp,bK.2 rfl,.inl ⟨ho,rfl⟩⟩
structure gU (b b':ah):Prop where
 rev:b'.r=b.r
 ins:b'.i=b.i
 ver:pV b b'
 nv:∀ k,Nv b' k->Nv b k/\bc b'.s k=bc b.s k
 grp:∀ k,Nv b' k->∀ m,gm b k m->bc b'.s m=bc b.s m
section
variable {l:List aN} {b b' b'':ah}
theorem dK (hB:dF l b) {k:ae}:sX b.s b.r k=true↔Nv b k/\ji k=true:=by
 unfold sX Nv cE;rw [F9];cases hf:(bc b.s k).2 with
 | false=>simp
 | true =>
  obtain⟨h1,h2⟩:=hB.found hf;have h3:=h1.high;rw [h2];cases hc:ji k <;> cases hd:(bc b.s k).1.w <;> simp
  omega
theorem gU.refl (b:ah):gU b b:=⟨rfl,rfl,pV.refl _,fun _ h=>⟨h,rfl⟩,fun _ _ _ _=>rfl⟩
theorem DU {α:Type} {E E':α->α->Prop} {S:α->Prop} (hE:∀ y z,S y->S z->E y z->E' y z) {m k:α} (I:∀ y,gI E m y->gI E y k->S y) {y:α} (h:gI E m y):gI E y k->gI E' m y:=by
 induction h with
 | refl=>exact fun _=>.refl
 | @snoc y z h1 h2 ih =>
  intro h3;have h4:gI E y k:=(gI.snoc .refl h2).trans h3;exact .snoc (ih h4) (hE y z (I y h1 h4) (I z (.snoc h1 h2) h3) h2)
theorem DT {α:Type} {E E':α->α->Prop} {S:α->Prop} (hE:∀ y z,S y->E y z->E' y z/\S z) {m y:α} (hm:S m) (h:gI E m y):gI E' m y/\S y:=by
 induction h with
 | refl=>exact⟨.refl,hm⟩
 | snoc h1 h2 ih =>
  obtain⟨h3,h4⟩:=hE _ _ ih.2 h2;exact⟨.snoc ih.1 h3,h4⟩
theorem gU.up (hB:dF l b) (hB':dF l b') (s:gU b b') {k m:ae} (O:Nv b' k) (h:gm b k m):gm b' k m:=by
 unfold gm at *;by_cases hc:ji k=true
 ·rw [if_pos hc] at h ⊢;have hsame:∀ y,gm b k y->bc b'.s y=bc b.s y:=s.grp k O;have hg:∀ y,gI (Ek b.s b.r) k y->gI (Ek b.s b.r) y k->bc b'.s y=bc b.s y:=fun y h1 h2=>hsame y (by unfold gm; rw [if_pos hc]; exact⟨h1,h2⟩);have hE:∀ y z,bc b'.s y=bc b.s y->bc b'.s z=bc b.s z->Ek b.s b.r y z->Ek b'.s b'.r y z:=fun y z h1 h2 ⟨e1,e2,e3⟩=>by
   refine⟨?_,?_,?_⟩
   ·unfold sX at e1 ⊢; rw [h1,s.rev]; exact e1
   ·unfold zE at e2 ⊢; rw [h1]; exact e2
   ·unfold sX at e3 ⊢; rw [h2,s.rev]; exact e3
  exact⟨DU (S:=fun y=>bc b'.s y=bc b.s y) hE (k:=k) (fun y h1 h2=>hg y h1 h2) h.1 h.2,
   DU (S:=fun y=>bc b'.s y=bc b.s y) hE (k:=k) (fun y h1 h2=>hg y (h.1.trans h1) h2) h.2 .refl⟩
 ·rw [if_neg hc] at h ⊢; exact h
theorem gU.down (hB:dF l b) (hB':dF l b') (s:gU b b') {k m:ae} (O:Nv b' k) (h:gm b' k m):gm b k m:=by
 unfold gm at *;by_cases hc:ji k=true
 ·rw [if_pos hc] at h ⊢;have hE:∀ y z,Nv b' y->Ek b'.s b'.r y z->Ek b.s b.r y z/\Nv b' z:=fun y z hy ⟨e1,e2,e3⟩=>by
   have hz:=((dK hB').1 e3);obtain⟨y1,y2⟩:=s.nv y hy;obtain⟨z1,z2⟩:=s.nv z hz.1;refine⟨⟨?_,?_,?_⟩,hz.1⟩
   ·exact (dK hB).2 ⟨y1,((dK hB').1 e1).2⟩
   ·unfold zE at e2 ⊢; rw [<- y2]; exact e2
   ·exact (dK hB).2 ⟨z1,hz.2⟩
  obtain⟨h1,h2⟩:=DT hE O h.1;exact⟨h1,(DT hE h2 h.2).1⟩
 ·rw [if_neg hc] at h ⊢; exact h
theorem gU.trans (hB:dF l b) (hB':dF l b') (s:gU b b') (t:gU b' b''):gU b b'' :=
 ⟨t.rev.trans s.rev,t.ins.trans s.ins,s.ver.trans t.ver,fun k O=>by
  obtain⟨h1,h2⟩:=t.nv k O;obtain⟨h3,h4⟩:=s.nv k h1;exact⟨h3,h2.trans h4⟩,fun k O m hm=>by
  have h1:=(t.nv k O).1;exact (t.grp k O m (s.up hB hB' h1 hm)).trans (s.grp k h1 m hm)⟩
theorem CM.mem (hB:dF l b) {k:ae} (O:Nv b k) {g:List ae} (h:CM b k g) (m:ae):m∈g↔gm b k m:=by
 unfold gm;rcases h with⟨h1,rfl⟩|⟨h1,h2⟩
 ·have:¬ ji k=true:=fun hc=>by rw [(dK hB).2 ⟨O,hc⟩] at h1; cases h1
  rw [if_neg this,bK]
 ·rw [if_pos ((dK hB).1 h1).2];exact h2.2 m
theorem xj {recs recs':List au} {g:List ae}:∀ {h:List ae},(∀ m∈h,bc recs' m=bc recs m)->cU recs' g h=cU recs g h
 | [],_=>rfl
 | m::h,hm=>by
  have ih:=xj (g:=g) (h:=h) fun x hx=>hm x (uR _ hx);have e:=hm m kh;unfold cU at *;rw [AT,AT,ih];congr 1;unfold G9 zE;rw [e]
theorem gU.group (hB:dF l b) (hB':dF l b') (s:gU b b') {k:ae} (O:Nv b' k) {g g':List ae} (hg:CM b k g) (hg':CM b' k g'):g'=g/\cU b'.s g' g'=cU b.s g g:=by
 have hk0:=(s.nv k O).1;have hmem:∀ m,m∈g'↔m∈g:=fun m=>by
  rw [hg'.mem hB' O,hg.mem hB hk0];exact⟨s.down hB hB' O,s.up hB hB' O⟩
 have e:g'=g:=by
  rcases hg with⟨h1,rfl⟩|⟨h1,h2⟩ <;> rcases hg' with⟨h3,rfl⟩|⟨h3,h4⟩
  ·rfl
  ·have:=((dK hB').1 h3).2;rw [(dK hB).2 ⟨hk0,this⟩] at h1; cases h1
  ·have:=((dK hB).1 h1).2;rw [(dK hB').2 ⟨O,this⟩] at h3; cases h3
  ·exact FP h4.1 h2.1 hmem
 subst e;exact⟨rfl,xj fun m hm=>s.grp k O m ((hg.mem hB hk0 m).1 hm)⟩
theorem gU.mark (hB:dF l b) {k0:ae} {g:List ae} (hg:CM b k0 g) (d:Bool):gU b ⟨b.r,b.i,b.s.map (c7 g d b.r)⟩:=by
 have hf:=sH hB.recsA g d b.r;have hout:∀ k,k ∉ g->bc (b.s.map (c7 g d b.r)) k=bc b.s k:=fun k O=>by
  rw [hf];cases h1:(bc b.s k).2 with
  | true =>
   rw [if_pos rfl,sd (by rw [(bW h1).2]; exact O),<- h1]
  | false=>rw [if_neg (by simp),(rQ h1).1]
 have hin:∀ k,k∈g->¬ Nv ⟨b.r,b.i,b.s.map (c7 g d b.r)⟩ k:=fun k O ⟨h1,h2,h3⟩=>by
  have h1:(bc (b.s.map (c7 g d b.r)) k).2=true:=h1;have h2:(bc (b.s.map (c7 g d b.r)) k).1.w=false:=h2;have h3:((bc (b.s.map (c7 g d b.r)) k).2&&decide ((bc (b.s.map (c7 g d b.r)) k).1.t=b.r))=false:=h3;cases h4:(bc b.s k).2 with
  | false=>rw [hf,h4] at h1; cases h1
  | true =>
   rw [hf,h4,if_pos rfl,qV (by rw [(bW h4).2]; exact O)] at h2 h3;cases d with
   | true=>cases h2
   | false=>simp at h3
 refine⟨rfl,rfl,LG hB g d,fun k O=>?_,fun k O m hm=>?_⟩
 ·have h1:k ∉ g:=fun h=>hin k h O;have e:=hout k h1;refine⟨?_,e⟩;obtain⟨a1,a2,a3⟩:=O;unfold cE at a3;have a1:(bc (b.s.map (c7 g d b.r)) k).2=true:=a1;have a2:(bc (b.s.map (c7 g d b.r)) k).1.w=false:=a2;have a3:((bc (b.s.map (c7 g d b.r)) k).2&&decide ((bc (b.s.map (c7 g d b.r)) k).1.t=b.r))=false:=a3;rw [e] at a1 a2 a3;exact⟨a1,a2,a3⟩
 ·have h1:k ∉ g:=fun h=>hin k h O;have hk0:Nv b k:=by
   have e:=hout k h1;obtain⟨a1,a2,a3⟩:=O;have a1:(bc (b.s.map (c7 g d b.r)) k).2=true:=a1;have a2:(bc (b.s.map (c7 g d b.r)) k).1.w=false:=a2;have a3:((bc (b.s.map (c7 g d b.r)) k).2&&decide ((bc (b.s.map (c7 g d b.r)) k).1.t=b.r))=false:=a3;rw [e] at a1 a2 a3;exact⟨a1,a2,a3⟩
  refine hout m fun hmg=>h1 ?_;unfold gm at hm;by_cases hc:ji k=true
  ·rw [if_pos hc] at hm;have hok:=(dK hB).2 ⟨hk0,hc⟩;have hom:=mq hok hm.1;rcases hg with⟨q1,rfl⟩|⟨q1,q2⟩
   ·rw [bK.1 hmg,q1] at hom; cases hom
   ·obtain⟨q3,q4⟩:=(q2.2 m).1 hmg;exact (q2.2 k).2 ⟨q3.trans hm.2,hm.1.trans q4⟩
  ·rw [if_neg hc] at hm;rw [<- hm]; exact hmg
theorem gU.put (hB:dF l b) {q:au} (hv:q.t=b.r) (ho:sX b.s b.r q.d=false):gU b ⟨b.r,b.i,gp b.s q⟩:=by
 have hf:=wP hB.recsA q;have hin:¬ Nv ⟨b.r,b.i,gp b.s q⟩ q.d:=fun ⟨_,_,h3⟩=>by rw [(zy hB hv).2] at h3; cases h3
 have hout:∀ k,k≠q.d->bc (gp b.s q) k=bc b.s k:=fun k O=>by rw [hf,if_neg O]
 have hnv:∀ k,Nv ⟨b.r,b.i,gp b.s q⟩ k->Nv b k/\bc (gp b.s q) k=bc b.s k:=fun k O=>by
  have h1:k≠q.d:=fun h=>hin (h▸O);have e:=hout k h1;obtain⟨a1,a2,a3⟩:=O;have a1:(bc (gp b.s q) k).2=true:=a1;have a2:(bc (gp b.s q) k).1.w=false:=a2;have a3:((bc (gp b.s q) k).2&&decide ((bc (gp b.s q) k).1.t=b.r))=false:=a3;rw [e] at a1 a2 a3;exact⟨⟨a1,a2,a3⟩,e⟩
 refine⟨rfl,rfl,(zy hB hv).1,hnv,fun k O m hm=>hout m fun e=>?_⟩;have hk0:=(hnv k O).1;unfold gm at hm;by_cases hc:ji k=true
 ·rw [if_pos hc] at hm;have:=mq ((dK hB).2 ⟨hk0,hc⟩) hm.1;rw [e,ho] at this; cases this
 ·rw [if_neg hc] at hm;exact hin (e▸hm▸O)
end
section
variable {l:List aN} {H:Int->ae->ByteArray} {b b':ah} {P P':ae->Prop}
theorem zw.mono (s:gU b b') (hP:∀ k,P k->P' k∨cE b' k=true) {k:ae} (h:zw b P k):zw b' P' k:=by
 rcases h with h | h | h
 ·exact .inl h
 ·exact .inr (.inl (s.ver _ h))
 ·rcases hP k h with h | h
  ·exact .inr (.inr h)
  ·exact .inr (.inl h)
def rJ (l:List aN) (H:Int->ae->ByteArray) (b:ah) (P:ae->Prop) (k:ae) (a:Nat):Prop:=∀ g,CM b k g->∀ j,j<a->∀ c,(cU b.s g g)[j]? = some c->zw b P c.p/\∀ m∈b.s,m.d=c.i1->vK l (H b.r) c.p=vK l (H m.t) c.p
theorem rJ.zero (k:ae):rJ l H b P k 0:=fun _ _ j hj=>absurd hj (by omega)
theorem qP {recs:List au} {g h:List ae} {c:de}:c∈cU recs g h↔c.i1∈h/\c.p∈zE recs c.i1/\c.p ∉ g:=by
 unfold cU G9;rw [List.mem_flatMap];constructor
 ·rintro⟨m,hm,hc⟩;obtain⟨y,hy,rfl⟩:=fG.1 hc;rw [iC] at hy;refine⟨hm,hy.1,fun hg=>?_⟩;have:=wM.2 hg;rw [this] at hy;exact absurd hy.2 (by simp)
 ·rintro⟨h1,h2,h3⟩;refine⟨c.i1,h1,fG.2 ⟨c.p,iC.2 ⟨h2,?_⟩,rfl⟩⟩;cases e:(g.any fun x=>dt c.p x) with
  | false=>rfl
  | true=>exact absurd (wM.1 e) h3
theorem rJ.step (hl:l.length<=8) (hB:dF l b) (hB':dF l b') (s:gU b b') (hP:∀ k,P k->P' k∨cE b' k=true) {k:ae} {a:Nat} (h:Nv b k->rJ l H b P k a) (O:Nv b' k):rJ l H b' P' k a:=by
 intro g' hg' j hj c hc;have hk0:=(s.nv k O).1;obtain⟨g,_,_,_,hg⟩:=Hw (hB.rm hl).2.2 k;obtain⟨e1,e2⟩:=s.group hB hB' O hg hg';rw [e2] at hc;obtain⟨h1,h2⟩:=h hk0 g hg j hj c hc;refine⟨h1.mono s hP,fun m hm hmk=>?_⟩;obtain⟨c1,c2,c3⟩:=qP.1 (aO hc);have hf:=s.grp k O c.i1 ((hg.mem hB hk0 _).1 c1);have hm':(bc b'.s c.i1)=(m,true):=iP hB'.recsA hm hmk;rw [hf] at hm';have hmb:m∈b.s:=by have:=(bW (l:=b.s) (k:=c.i1) (by rw [hm'])).1; rw [hm'] at this; exact this
 rw [s.rev];exact h2 m hmb hmk
end
end
section
open Go.Lib hiding intOf
noncomputable def psi (l:List aN) (x:aQ):Nat:=x.y.length+Ax (fun n=>!cE x.B (rk l n)||cK x.g (rk l n)) l.length
noncomputable def N4 (l:List aN) (b:ah):Nat:=Ax (fun n=>!cE b (rk l n)) l.length
noncomputable def Jk (l:List aN) (m:List (ae×Bool)):Nat:=Ax (fun n=>!cK m (rk l n)) l.length
structure Bi (l:List aN) (V:Nat->ByteArray) (b0:ah) (x x':aQ):Prop where
 ok:E8 l V b0 x'
 ver:pV x.B x'.B
 busy:∀ k,cK x'.g k=cK x.g k
 psi:psi l x'<=psi l x
section
variable {l:List aN} {V:Nat->ByteArray} {b0:ah} {x y z:aQ}
theorem Bi.refl (h:E8 l V b0 x):Bi l V b0 x x:=⟨h,pV.refl _,fun _=>rfl,bX _⟩
theorem Bi.trans (h:Bi l V b0 x y) (k:Bi l V b0 y z):Bi l V b0 x z:=⟨k.ok,h.ver.trans k.ver,fun q=>(k.busy q).trans (h.busy q),cC k.psi h.psi⟩
theorem Ft {b b':ah} {m m':List (ae×Bool)} (hv:pV b b') (hb:∀ k,cK m' k=true->cK m k=true) (N:Nat):Ax (fun n=>!cE b' (rk l n)||cK m' (rk l n)) N<=Ax (fun n=>!cE b (rk l n)||cK m (rk l n)) N:=by
 refine Ej (fun n h=>?_) N;rw [uO,uN] at h ⊢;rcases h with h | h
 ·left;cases e:cE b (rk l n) with
  | false=>rfl
  | true=>rw [hv _ e] at h; cases h
 ·exact .inr (hb _ h)
theorem Bi.base (h:E8 l V b0 x) {b:ah} (hb:dF l b) (hr:b.r=x.B.r) (hi:b.i=x.B.i) (hv:pV x.B b) {s:az} (hs:sv l V b0 s):Bi l V b0 x ⟨s,b,x.g,x.y,x.E⟩ :=
 ⟨⟨hs,hb,hr.trans h.rev,hi.trans h.ins,h.nd⟩,hv,fun _=>rfl,Nat.add_le_add_left (Ft hv (fun _ e=>e) _) _⟩
theorem Av {recs:List au} {g h:List ae} {c:de} (hc:c∈cU recs g h):c.p∈zE recs c.i1:=by
 unfold cU G9 at hc;obtain⟨m,_,hm⟩:=List.mem_flatMap.1 hc;obtain⟨y,hy,rfl⟩:=fG.1 hm;exact (iC.1 hy).1
theorem zU {m m':List (ae×Bool)} (h:∀ k,cK m' k=cK m k):Jk l m'=Jk l m:=by
 unfold Jk;congr 1;funext n;rw [h]
theorem BI {n:Nat}:(decide ((rk l n).v=1)||(decide ((rk l n).v=2)||decide ((rk l n).v=30)))=false:=bM ((kP _).symm.trans k5)
theorem sL {n:Nat}:(decide ((bJ n).v=1)||(decide ((bJ n).v=2)||decide ((bJ n).v=30)))=true:=bM ((kP _).symm.trans ki)
abbrev JN (rev:Int) (ins:List a7) (recs:List au) (busy:List (ae×Bool)) (ran:List ae) (e:Int) (rules:List aN) (srev:Int) (sins:List a7) (srecs:List au) (memo:List (ae×ByteArray)) (seen:List (ae×(List ae))):aQ :=
 aQ.mk (az.mk rules (ah.mk srev sins srecs) memo seen) (ah.mk rev ins recs) busy ran e
section
variable {urec:aQ->ae->Option aQ} {f n:Nat} (C:aV l) (hD:Ed l (inB b0) V) (hb0:Rm b0.i.length) (hn:n<l.length) (hx:E8 l V b0 x) (hp:psi l x<=8) (hf:Jk l x.g<f)
include C hD hb0 hn hx hp hf
end
end
end
section
open Go.Lib hiding intOf
section
variable {l:List aN} {H:Int->ae->ByteArray} {b:ah} {P:ae->Prop}
theorem rJ.snoc (hB:dF l b) {k:ae} (O:Nv b k) {a:Nat} (h:rJ l H b P k a) {g:List ae} (hg:CM b k g) {c:de} (hc:(cU b.s g g)[a]? = some c) (ht:zw b P c.p) (hv:∀ m∈b.s,m.d=c.i1->vK l (H b.r) c.p=vK l (H m.t) c.p):rJ l H b P k (a+1):=by
 intro g' hg' j hj d hd;obtain⟨e1,_⟩:=(gU.refl b).group hB hB O hg hg';subst e1;rcases dZ j a with h1 | h1
 ·exact h g' hg' j h1 d hd
 ·obtain rfl:j=a:=by omega
  rw [hc] at hd;obtain rfl:=bM hd;exact⟨ht,hv⟩
theorem Gl (C:aV l) (hB:dF l b) (h:VI l H b P) {y z:ae} (hy:sX b.s b.r y=true) (hs:gI (Ek b.s b.r) y z):(bc b.s y).1.t<=(bc b.s z).1.t:=by
 induction hs with
 | refl=>exact tg _
 | @snoc u w h1 h2 ih =>
  refine Int.le_trans ih ?_;obtain⟨e1,e2,e3⟩:=h2;obtain⟨⟨a1,a2,a3⟩,_⟩:=(dK hB).1 e1;obtain⟨⟨b1,b2,b3⟩,_⟩:=(dK hB).1 e3;obtain⟨c1,c2⟩:=bW a1;obtain⟨d1,d2⟩:=bW b1;rcases h.link _ c1 _ d1 (by rw [d2]; exact e2) with⟨q,_⟩|⟨q,_⟩
  ·exact q
  ·unfold cE at a3;rw [a1,q] at a3;simp at a3
theorem NU (hB:dF l b) {k:ae} (O:Nv b k):(bc b.s k).1∈b.s/\(bc b.s k).1.d=k/\(bc b.s k).1.t<b.r:=by
 obtain⟨h1,h2,h3⟩:=O;obtain⟨h4,h5⟩:=bW h1;refine⟨h4,h5,?_⟩;have:=(hB.recs _ h4).high;unfold cE at h3;rw [h1,tF] at h3;have:=of_decide_eq_false h3;omega
theorem VI.markG (C:aV l) (hB:dF l b) (h:VI l H b P) {k:ae} (O:Nv b k) {g:List ae} (hg:CM b k g) {a:Nat} (hc:rJ l H b P k a) (ha:(cU b.s g g).length<=a):VI l H ⟨b.r,b.i,b.s.map (c7 g false b.r)⟩ P:=by
 have hl:=C.high;have key:∀ m∈b.s,m.d∈g->∀ x∈m.k,x ∉ g->zw b P x/\vK l (H b.r) x=vK l (H m.t) x:=fun m hm hmg x hx hxg=>by
  have hf:=iP hB.recsA hm rfl;have hmem:(⟨m.d,x⟩:de)∈cU b.s g g:=qP.2 ⟨hmg,by unfold zE; rw [hf]; exact hx,hxg⟩;obtain⟨j,hj⟩:=iD.1 hmem;obtain⟨q1,q2⟩:=hc g hg j (by have:=aY hj; omega) _ hj;exact⟨q1,q2 m hm rfl⟩
 refine h.mark C hB fun m hm hmg=>⟨?_,fun x hx=>?_⟩
 ·rcases hg with⟨h1,rfl⟩|⟨h1,h2⟩
  ·-- a key by itself
   intro n r hn hkey;have hm1:=bK.1 hmg;have hnc:ji (rk l n)=false:=by
    cases e:ji (rk l n) with
    | false=>rfl
    | true =>
     rw [(dK hB).2 ⟨O,by rw [<- hm1,hkey]; exact e⟩] at h1;cases h1
   obtain⟨v1,v2⟩:=h.recv m hm n r hn hkey;have hs:∀ x∈fJ l (H m.t) (Vd l (H m.t)) r r.c.length,vK l (H m.t) x=vK l (H b.r) x:=fun x hx=>by
    have hxg:x ∉ [k]:=fun hxk=>by
     rw [bK,<- hm1,hkey] at hxk;rcases ux C hn hx with⟨c,_,e⟩|⟨j,hj,hjl,e⟩
     ·exact oX (e.symm.trans hxk)
     ·have:j=n:=rG (by omega) (by have:=aY hn; omega) (e.symm.trans hxk);rw [Eq] at hnc;unfold CJ at hj;rw [if_neg (of_decide_eq_false hnc)] at hj;omega
    exact ((key m hm hmg x (by rw [v2]; exact hx) hxg).2).symm
   obtain⟨e1,e2⟩:=Gj C hn hs;exact⟨v1.trans e1,v2.trans e2⟩
  ·-- a group of aZ
   have hmo:∀ x,x∈g->sX b.s b.r x=true:=fun x hx=>mq h1 ((h2.2 x).1 hx).1;have hver:∀ x,x∈g->(bc b.s x).1.t=(bc b.s k).1.t:=fun x hx=>by
    obtain⟨s1,s2⟩:=(h2.2 x).1 hx;have:=Gl C hB h h1 s1;have:=Gl C hB h (hmo x hx) s2;omega
   have hrec:∀ o∈b.s,o.d∈g->o.t=m.t:=fun o ho hog=>by
    have e1:=hver _ hog;have e2:=hver _ hmg;rw [iP hB.recsA ho rfl] at e1;rw [iP hB.recsA hm rfl] at e2;exact e1.trans e2.symm
   have hring:∀ n r,l[n]? = some r->rk l n∈g->r.f=true:=fun n r hn hg=>by
    have:=((dK hB).1 (hmo _ hg)).2;rw [Eq] at this;have:=of_decide_eq_true this;rw [im hn] at this;exact bM this
   have hcell:∀ c,bJ c ∉ g:=fun c hc=>by
    have:=((dK hB).1 (hmo _ hc)).2;rw [Fx] at this; cases this
   have hs:∀ n r,l[n]? = some r->rk l n∈g->∀ x∈fJ l (H m.t) (Vd l (H m.t)) r r.c.length,¬ x∈g->vK l (H m.t) x=vK l (H b.r) x:=fun n r hn hng x hx hxg=>by
    obtain⟨a1,_,_⟩:=((dK hB).1 (hmo _ hng)).1;obtain⟨o1,o2⟩:=bW a1;have hv:=hrec _ o1 (by rw [o2]; exact hng);obtain⟨_,v2⟩:=h.recv _ o1 n r hn o2;rw [hv] at v2;have:=(key _ o1 (by rw [o2]; exact hng) x (by rw [v2]; exact hx) hxg).2;rw [hv] at this;exact this.symm
   intro n r hn hkey;obtain⟨v1,v2⟩:=h.recv m hm n r hn hkey;have hng:rk l n∈g:=hkey▸hmg;have hr:=hring n r hn hng;refine⟨v1.trans (HF C (G:=fun x=>x∈g) hring hcell hs hn hng),v2.trans (x7 C hn hr _ _ _)⟩
 ·by_cases hxg:x∈g
  ·exact .inl hxg
  ·exact .inr (key m hm hmg x hx hxg).1
end
section
variable {l:List aN} {H:Int->ae->ByteArray} {b b0:ah} {V:Nat->ByteArray} {P:ae->Prop} (C:aV l) (hD:Ed l (inB b0) V) (hb0:Rm b0.i.length) (hV:V=Vd l (H b.r))
include C hD hb0 hV
theorem Bk {s:az} (hs:sv l V b0 s) (hb:dF l b) (hh:VI l H b P) {k:ae} (O:fP l k) (ht:(∃ c,k=bJ c)∨cE b k=true∨ji k=true):Ok (mP vv s b k) fun y=>sv l V b0 y.2/\y.1=vK l (H b.r) k:=by
 have hl:=C.high;unfold mP;refine aH (iN _) (aE (fun hc=>?_) (fun hc=>?_))
 ·refine aD (IB C hD hb0 hs O) fun y hy=>ai ⟨hy.1,?_⟩;rcases O with⟨c,_,rfl⟩|⟨n,hn,rfl⟩
  ·rw [Fx] at hc; cases hc
  ·show y.1=_;rw [hy.2 n hn rfl,hV,tb (by omega)]
 ·have:Ok (kq b k) fun z=>z.1=vK l (H b.r) k:=by
   unfold kq;refine aH (kP _) (aE (fun hi=>aH (Dv (hb.rm hl).2.1 k) (ai ?_)) (fun hi=>aH (hb.find hl k) ?_))
   ·rcases O with⟨c,_,rfl⟩|⟨n,_,rfl⟩
    ·show (nr b (bJ c)).u=_;rw [hh.now,jx]
    ·have:=(kP (rk l n)).symm.trans k5;rw [hi] at this; cases this
   ·have hv:cE b k=true:=by
     rcases ht with⟨c,rfl⟩ | h | h
     ·rw [sL] at hi; cases hi
     ·exact h
     ·rw [h] at hc; cases hc
    unfold cE at hv;rw [kg,decide_eq_true_eq] at hv;rw [hv.1,cond_true,show ((bc b.s k).1.t==b.r)=true by simpa using hv.2];obtain⟨h1,h2⟩:=bW hv.1;refine ai ?_;show (bc b.s k).1.u=_;rw [hh.ver C hb h1 hv.2,h2]
  exact aD this fun y hy=>ai ⟨hs,hy⟩
omit hD hb0 hV in
theorem FZ (h:dF l b) {n:Nat} (hn:n<l.length) {v:ByteArray} (hv:v.size<=1000) {reads:List ae} (hr:reads.length<=3) (hg:∀ k∈reads,fP l k) :
  ∃ r,qk b (rk l n) v reads=some r/\tZ l b.r r/\r.d=rk l n/\r.t=b.r/\r.u=v/\r.k=reads/\(r.a=b.r∨∃ o∈b.s,o.d=r.d/\o.u=r.u/\r.a=o.a):=by
 have hl:=C.high;have hw:IntKind.i64.wrap (1+(reads.length:Int))=1+(reads.length:Int):=qq (by omega) (by omega);have mk:∀ c:Int,0<=c->c<=b.r->(c=b.r∨∃ o∈b.s,o.d=rk l n/\o.u=v/\c=o.a)->∃ r,nH b (rk l n) v reads c=some r/\tZ l b.r r/\r.d=rk l n/\r.t=b.r/\r.u=v/\r.k=reads/\(r.a=b.r∨∃ o∈b.s,o.d=r.d/\o.u=r.u/\r.a=o.a):=fun c h1 h2 h3 =>
  ⟨_,rfl,⟨⟨n,hn,rfl⟩,hv,hr,hg,h1,h2,tg _,by dsimp only; rw [hw]; omega,fun e=>by cases e⟩,rfl,rfl,rfl,rfl,h3⟩
 have hrev:=h.rev;unfold qk;rw [h.find hl,ax];have h0:=mk b.r hrev.1 (tg _) (.inl rfl);cases hf:(bc b.s (rk l n)).2 with
 | false =>
  rw [cond_false];exact h0
 | true =>
  rw [cond_true];cases he:((bc b.s (rk l n)).1.u.toList==v.toList) with
  | false=>exact h0
  | true =>
   obtain⟨h1,h2⟩:=h.found hf;have h3:=h1.low;have h4:=h1.mid;have h5:=h1.high;exact mk _ h3 (by omega) (.inr ⟨_,(bW hf).1,h2,GJ (by simpa [ByteArray.toList_eq] using he),rfl⟩)
end
end
section
open Go.Lib hiding intOf
section
variable {l:List aN} {H:Int->ae->ByteArray} {b:ah} {P:ae->Prop}
theorem Fe (C:aV l) {n i:Nat} (hn:n<l.length) (hi:i<CJ (aZ l) n):pN (aZ l) i<=pN (aZ l) n/\((aZ l)[n]? ≠ some true->pN (aZ l) i<pN (aZ l) n):=by
 by_cases hr:(aZ l)[n]? = some true
 ·refine⟨?_,fun h=>absurd hr h⟩;by_cases hp:(aZ l)[i]? = some true
  ·exact Ae hr hi hp
  ·have:=x6 hr hi hp;rw [uE hp]; omega
 ·have:=zV hr hi;exact⟨by omega,fun _=>this⟩
theorem zY (C:aV l) (hB:dF l b) (h:VI l H b P) {m:au} (hm:m∈b.s) {n i:Nat} (hn:n<l.length) (hi:i<l.length) (O:m.d=rk l n) (hx:rk l i∈m.k):pN (aZ l) i<=pN (aZ l) n/\((aZ l)[n]? ≠ some true->pN (aZ l) i<pN (aZ l) n):=by
 have hl:=C.high;have hg:=bA hn;rw [(h.recv m hm n _ hg O).2] at hx;rcases ux C hg hx with⟨c,_,e⟩|⟨j,hj,hjl,e⟩
 ·exact absurd e.symm oX
 ·obtain rfl:i=j:=rG (by omega) (by omega) e;exact Fe C hn hj
theorem JC (C:aV l) (hB:dF l b) (h:VI l H b P) {y z:ae} (hs:gI (Ek b.s b.r) y z):∀ n,n<l.length->y=rk l n->∃ j,j<l.length/\z=rk l j/\pN (aZ l) j<=pN (aZ l) n:=by
 induction hs with
 | refl=>exact fun n hn e=>⟨n,hn,e,bX _⟩
 | @snoc u w h1 h2 ih =>
  intro n hn e;obtain⟨j,hj,e1,r1⟩:=ih n hn e;obtain⟨o1,o2,o3⟩:=h2;obtain⟨⟨a1,_,_⟩,_⟩:=(dK hB).1 o1;obtain⟨⟨b1,_,_⟩,_⟩:=(dK hB).1 o3;obtain⟨c1,c2⟩:=bW a1;obtain⟨d1,d2⟩:=bW b1;obtain⟨i,hi,e2⟩:=(hB.recs _ d1).key;rw [d2] at e2;have:=(zY C hB h c1 hj hi (c2.trans e1) (by rw [<- e2]; exact o2)).1;exact⟨i,hi,e2,by omega⟩
theorem J0 (C:aV l) (hB:dF l b) (h:VI l H b P) {n i:Nat} (hn:n<l.length) (hi:i<l.length) (O:Nv b (rk l n)) {g:List ae} (hg:CM b (rk l n) g) {c:de} (hc:c∈cU b.s g g) (e:c.p=rk l i):pN (aZ l) i<=pN (aZ l) n/\((aZ l)[n]? ≠ some true->pN (aZ l) i<pN (aZ l) n):=by
 obtain⟨c1,c2,c3⟩:=qP.1 hc;have hmem:(bc b.s c.i1).2=true:=by
  cases hf:(bc b.s c.i1).2 with
  | true=>rfl
  | false=>unfold zE at c2; rw [(rQ hf).1] at c2; cases c2
 obtain⟨f1,f2⟩:=bW hmem;rcases hg with⟨h1,rfl⟩|⟨h1,h2⟩
 ·have:=bK.1 c1;exact zY C hB h f1 hn hi (f2.trans this) (by rw [<- e]; exact c2)
 ·obtain⟨j,hj,e2,r⟩:=JC C hB h ((h2.2 _).1 c1).1 n hn rfl;have:=(zY C hB h f1 hj hi (f2.trans e2) (by rw [<- e]; exact c2)).1;refine⟨by omega,fun hr=>?_⟩;have:=((dK hB).1 h1).2;rw [Eq] at this;exact absurd (of_decide_eq_true this) hr
end
def Pb (x:aQ) (k:ae):Prop:=cK x.g k=true/\ji k=true
def O4 (l:List aN) (x:aQ) (k:ae):Prop:=∀ n,n<l.length->k=rk l n->∀ m,m<l.length->cK x.g (rk l m)=true->(aZ l)[m]? ≠ some true->pN (aZ l) n<pN (aZ l) m
structure PV (l:List aN) (V:Nat->ByteArray) (H:Int->ae->ByteArray) (b0:ah) (x x':aQ):Prop where
 post:Bi l V b0 x x'
 vi:VI l H x'.B (Pb x')
 st:gU x.B x'.B
 e0:x'.E=0
 rn:∀ k∈x'.y,k∈x.y∨cE x.B k=false
section
variable {l:List aN} {V:Nat->ByteArray} {H:Int->ae->ByteArray} {b0:ah} {x y z:aQ}
theorem Fa (h:∀ k,cK y.g k=cK x.g k) {k:ae} (O:Pb x k):Pb y k:=⟨by rw [h]; exact O.1,O.2⟩
theorem PV.refl (h:E8 l V b0 x) (hv:VI l H x.B (Pb x)) (he:x.E=0):PV l V H b0 x x:=⟨Bi.refl h,hv,gU.refl _,he,fun _ h=>.inl h⟩
theorem Cm {b b':ah} (h:pV b b') {k:ae} (e:cE b' k=false):cE b k=false:=by
 cases h1:cE b k with
 | false=>rfl
 | true=>rw [h k h1] at e; cases e
theorem PV.trans (hx:E8 l V b0 x) (h:PV l V H b0 x y) (k:PV l V H b0 y z):PV l V H b0 x z:=⟨h.post.trans k.post,k.vi,h.st.trans hx.base h.post.ok.base k.st,k.e0,fun q hq=>(k.rn q hq).elim (h.rn q) fun e=>.inr (Cm h.st.ver e)⟩
theorem PV.base (h:E8 l V b0 x) (he:x.E=0) {b:ah} (hb:dF l b) (st:gU x.B b) (hv:VI l H b (Pb x)) {s:az} (hs:sv l V b0 s):PV l V H b0 x ⟨s,b,x.g,x.y,x.E⟩ :=
 ⟨Bi.base h hb st.rev st.ins st.ver hs,hv,st,he,fun _ h=>.inl h⟩
theorem HK (hB:dF l x.B) {k:ae} (O:fP l k) (h:nh x k=true):zw x.B (Pb x) k:=by
 rcases O with⟨c,_,rfl⟩|⟨n,_,rfl⟩
 ·exact .inl ⟨c,rfl⟩
 ·unfold nh at h;rw [BI,GH,uO,kg] at h;rcases h with h | h
  ·exact .inr (.inr h)
  ·exact .inr (.inl h)
def UV (l:List aN) (V:Nat->ByteArray) (H:Int->ae->ByteArray) (b0:ah) (urec:aQ->ae->Option aQ) (f:Nat):Prop :=
 ∀ x k,E8 l V b0 x->psi l x<=8->fP l k->Jk l x.g<f->VI l H x.B (Pb x)->x.E=0->O4 l x k->Ok (urec x k) fun x'=>PV l V H b0 x x'/\nh x' k=true
def Rz (l:List aN) (V:Nat->ByteArray) (H:Int->ae->ByteArray) (b0:ah) (x:aQ) (n k:Nat):Int×Int×(List a7)×(List au)×(List (ae×Bool))×(List ae)×Int×(List aN)×Int×(List a7)×(List au)×(List (ae×ByteArray))×(List (ae×(List ae)))->Prop
 | (at_,rev,ins,recs,busy,ran,e,rules,srev,sins,srecs,memo,seen)=>∃ a:Nat,at_=(a:Int)/\a<=1000000/\PV l V H b0 x (JN rev ins recs busy ran e rules srev sins srecs memo seen)/\k+N4 l (ah.mk rev ins recs)*1000001+(1000000-a)<=20000000/\k<=20000001 /\
   (Nv (ah.mk rev ins recs) (rk l n)->rJ l H (ah.mk rev ins recs) (Pb (JN rev ins recs busy ran e rules srev sins srecs memo seen)) (rk l n) a)
def Sb (l:List aN) (V:Nat->ByteArray) (H:Int->ae->ByteArray) (b0:ah) (x:aQ) (k:ae):Fl (Int×(List a7)×(List au)×(List (ae×Bool))×(List ae)×Int×(List aN)×Int×(List a7)×(List au)×(List (ae×ByteArray))×(List (ae×(List ae)))) (Bool×aQ)->Prop
 | .go _=>False
 | .out (a,x')=>PV l V H b0 x x'/\(a=false->cE x'.B k=true)/\(a=true->sX x'.B.s x'.B.r k=false)
section
variable {urec:aQ->ae->Option aQ} {f n:Nat} (C:aV l) (hD:Ed l (inB b0) V) (hb0:Rm b0.i.length) (hV:V=Vd l (H b0.r)) (hu:UV l V H b0 urec f) (hn:n<l.length) (hx:E8 l V b0 x) (hp:psi l x<=8) (hf:Jk l x.g<f)
 (hbl:∀ m,m<l.length->cK x.g (rk l m)=true->(aZ l)[m]? ≠ some true->m≠n->pN (aZ l) n<pN (aZ l) m)
include C hD hb0 hV hu hn hx hp hf hbl
theorem Fn {k:Nat} (O:k<=20000001):∀ s,Rz l V H b0 x n k s->Ok (fb urec vv (rk l n) s.1 s.2.1 s.2.2.1 s.2.2.2.1 s.2.2.2.2.1 s.2.2.2.2.2.1 s.2.2.2.2.2.2.1 s.2.2.2.2.2.2.2.1 s.2.2.2.2.2.2.2.2.1 s.2.2.2.2.2.2.2.2.2.1 s.2.2.2.2.2.2.2.2.2.2.1 s.2.2.2.2.2.2.2.2.2.2.2.1 s.2.2.2.2.2.2.2.2.2.2.2.2) fun y=>match y with
   | .go s'=>k<20000001/\Rz l V H b0 x n (k+1) s'
   | .out y=>Sb l V H b0 x (rk l n) y:=by
 rintro⟨at_,rev,ins,recs,busy,ran,e,rules,srev,sins,srecs,memo,seen⟩ ⟨a,rfl,ha,h1,h2,h3,h4⟩;dsimp only;have hl:=C.high;have hE:=h1.post.ok;have hB:dF l (ah.mk rev ins recs):=hE.base;have I:IR recs:=(hB.rm hl).2.2;obtain rfl:e=0:=h1.e0;have hVb:V=Vd l (H (ah.mk rev ins recs).r):=by rw [hV]; congr 1; exact congrArg H hE.rev.symm
 unfold fb;refine aE (fun _=>?_) (fun he=>absurd he (by simp));refine aH (hB.find hl _) ?_;unfold iy;refine aE (fun hn1=>ai ⟨h1,(fun e=>by cases e),fun _=>?_⟩) (fun hfound=>?_)
 ·have:(bc recs (rk l n)).2=false:=by simpa using hn1
  show sX recs rev (rk l n)=false;unfold sX;rw [this]; rfl
 have hfound:(bc recs (rk l n)).2=true:=by simpa using hfound
 refine aE (fun hd=>ai ⟨h1,(fun e=>by cases e),fun _=>?_⟩) (fun hdirty=>?_)
 ·have hd:(bc recs (rk l n)).1.w=true:=hd;show sX recs rev (rk l n)=false;unfold sX F8;rw [hd]; simp
 have hdirty:(bc recs (rk l n)).1.w=false:=hdirty;refine aE (fun hver=>ai ⟨h1,(fun _=>?_),fun e=>by cases e⟩) (fun hver=>?_)
 ·show cE (ah.mk rev ins recs) (rk l n)=true;unfold cE;have:(bc recs (rk l n)).1.t=rev:=by simpa using hver
  simp [hfound,this]
 have hnv:Nv (ah.mk rev ins recs) (rk l n):=⟨hfound,hdirty,by
  unfold cE;have:(bc recs (rk l n)).1.t≠rev:=by simpa using hver
  simp [this]⟩
 have h4:=h4 hnv;refine aD (Hw (b:=ah.mk rev ins recs) I (rk l n)) fun g ⟨hg1,hg2,hg3⟩=>?_;refine aH (Do I (by omega)) ?_;have hlen:(cU recs g g).length<=1000000:=by have:=tq I g g; omega
 have hgm:Rm g.length:=by unfold Rm; omega
 refine aE (fun hat=>?_) (fun hat=>?_)
 ·have hat:=of_decide_eq_true hat;refine aH (Bg (b:=ah.mk rev ins recs) (hB.rm hl).1 (hB.rm hl).2.1 hgm false) (ai ⟨h1.trans hx (PV.base hE rfl (hB.mark g false (fun e=>by cases e)) (gU.mark hB hg3 false) (h1.vi.markG C hB hnv hg3 h4 (by show (cU recs g g).length<=a; omega)) hE.sol),(fun _=>Cn hB hfound hg2),fun e=>by cases e⟩)
 ·have hlt:a<(cU recs g g).length:=by have hat:¬ (((cU recs g g).length:Int)<=(a:Int)):=of_decide_eq_false hat; omega
  have hc:=bA hlt;generalize (cU recs g g)[a]=c at hc;have hcm:=aO hc;have hcr:=Av hcm;have hgood:=hB.rdGood (b:=ah.mk rev ins recs) hcr;refine aH (by rw [bx]; exact hc) (aH (Lw hE.base hl c.p) ?_);refine aE (fun hth=>?_) (fun hth=>?_)
  ·have hth:nh (JN rev ins recs busy ran 0 rules srev sins srecs memo seen) c.p=false:=by simpa using hth
   refine aD (hu _ c.p hE (cC h1.post.psi hp) hgood (by rw [zU h1.post.busy]; exact hf) h1.vi rfl ?_) fun x' ⟨g1,ht⟩=>?_
   ·intro i hi ei m hm hbm hrm;have hbm:cK x.g (rk l m)=true:=by rw [<- h1.post.busy]; exact hbm
    obtain⟨r1,r2⟩:=J0 C hB h1.vi hn hi hnv hg3 hcm ei;by_cases hmn:m=n
    ·subst hmn; exact r2 hrm
    ·have:=hbl m hm hbm hrm hmn;omega
   refine ai ⟨by omega,a,rfl,ha,h1.trans hx g1,?_,by omega,fun hk'=>?_⟩
   ·obtain⟨j,hj,hcj⟩:∃ j,j<l.length/\c.p=rk l j:=by
     rcases hgood with⟨q,_,hq⟩ | h
     ·unfold nh at hth;rw [hq,sL] at hth;simp at hth
     ·exact h
    have hlt2:N4 l x'.B<N4 l (ah.mk rev ins recs):=by
     unfold N4;unfold nh at ht hth;rw [hcj,BI,GH] at ht hth;rw [Bool.or_eq_false_iff] at hth;rw [g1.post.busy] at ht;have hth1:(cK busy (rk l j)&&ji (rk l j))=false:=hth.1;have hth2:cE (ah.mk rev ins recs) (rk l j)=false:=hth.2;have ht2:cE x'.B (rk l j)=true:=by
      have ht3:((cK busy (rk l j)&&ji (rk l j))||cE x'.B (rk l j))=true:=ht;rw [hth1,GH] at ht3;exact ht3
     refine El (i:=j) (fun m hm=>?_) (by rw [ht2]; rfl) (by rw [hth2]; rfl) _ hj;rw [uN] at hm ⊢;cases e:cE (ah.mk rev ins recs) (rk l m) with
     | false=>rfl
     | true=>rw [g1.post.ver _ e] at hm; cases hm
    show k+1+N4 l x'.B*1000001+(1000000-a)<=20000000;omega
   ·exact rJ.step hl hB g1.post.ok.base g1.st (fun q hq=>.inl (Fa g1.post.busy hq)) (fun _=>h4) hk'
  ·have hth:nh (JN rev ins recs busy ran 0 rules srev sins srecs memo seen) c.p=true:=by simpa using hth
   refine aH (hB.find hl _) ?_;unfold ix;refine aD (Au (b:=ah.mk rev ins recs) C hD hb0 hVb hE.sol hB h1.vi hgood) fun y ⟨hy,hch⟩=>?_;refine aE (fun _=>?_) (fun hle=>?_)
   ·refine aH (iN _) (aE (fun hcy=>?_) (fun hcy=>?_))
    ·refine aH (Bg (b:=ah.mk rev ins recs) (hB.rm hl).1 (hB.rm hl).2.1 hgm true) ?_;have hd:true=true->∀ q∈g,ji q=true:=fun _ q hq=>by
      rcases hg3 with⟨_,rfl⟩|⟨q1,h⟩
      ·rw [bK.1 hq]; exact hcy
      ·exact (EM (mq q1 ((h.2 q).1 hq).1)).1
     refine ai ⟨h1.trans hx (PV.base hE rfl (hB.mark g true hd) (gU.mark hB hg3 true) (h1.vi.dirty g) hy),(fun e=>by cases e),fun _=>?_⟩;have hst:=gU.mark hB hg3 true;cases ho:sX (recs.map (c7 g true rev)) rev (rk l n) with
     | false=>rfl
     | true =>
      have hnv2:=((dK (hB.mark g true hd)).1 ho).1;have hfe:(bc (recs.map (c7 g true rev)) (rk l n)).1.w=false:=hnv2.2.1;rw [sH hB.recsA g true rev,hfound,if_pos rfl,qV (by rw [(bW hfound).2]; exact hg2)] at hfe;cases hfe
    ·refine ai ⟨h1.trans hx (PV.base hE rfl hB (gU.refl _) h1.vi hy),(fun e=>by cases e),fun _=>?_⟩;cases ho:sX recs rev (rk l n) with
     | false=>rfl
     | true =>
      have:=(EM ho).1;rw [this] at hcy; cases hcy
   ·have hle:=of_decide_eq_false hle;refine ai ⟨by omega,a+1,cH (by omega),by omega,h1.trans hx (PV.base hE rfl hB (gU.refl _) h1.vi hy),?_,by omega,fun hk'=>?_⟩
    ·show k+1+N4 l (ah.mk rev ins recs)*1000001+(1000000-(a+1))<=20000000;omega
    ·refine h4.snoc hB hk' hg3 hc (HK (x:=JN rev ins recs busy ran 0 rules srev sins srecs memo seen) hB hgood hth) fun m hm hmk=>?_;obtain⟨c1,c2,c3⟩:=qP.1 hcm;have hfm:=iP hB.recsA hm hmk;have hmv:m.t<rev:=by
      have hmn:Nv (ah.mk rev ins recs) c.i1:=by
       rcases hg3 with⟨_,rfl⟩|⟨q1,h⟩
       ·rw [bK.1 c1]; exact hnv
       ·exact ((dK hB).1 (mq q1 ((h.2 _).1 c1).1)).1
      have:=(NU hB hmn).2.2;rw [hfm] at this;exact this
     have hmr:c.p∈m.k:=by unfold zE at c2; have c2:c.p∈(bc recs c.i1).1.k:=c2; rw [hfm] at c2; exact c2
     refine h1.vi.chk hB hm hmv hmr hch ?_;have hle:¬ (bc recs c.i1).1.t<y.1:=hle;rw [hfm] at hle;have hle:¬ m.t<y.1:=hle;omega
theorem I0 (hv:VI l H x.B (Pb x)) (he:x.E=0):Ok (fh urec vv x (rk l n)) fun y=>PV l V H b0 x y.2/\(y.1=false->cE y.2.B (rk l n)=true)/\(y.1=true->sX y.2.B.s y.2.B.r (rk l n)=false):=by
 have hl:=C.high;unfold fh;refine bz (Rz l V H b0 x n) (Sb l V H b0 x (rk l n)) 20000001 ⟨0,rfl,bT _,PV.refl hx hv he,?_,bT _,fun _=>rJ.zero _⟩ (fun k s O hI=>(Fn C hD hb0 hV hu hn hx hp hf hbl O s hI).mono fun y hy=>by cases y <;> exact hy) ?_
 ·have:=wN (fun n=>!cE x.B (rk l n)) l.length;show 0+N4 l x.B*1000001+(1000000-0)<=20000000;unfold N4;omega
 ·rintro (s | ⟨a,x'⟩) hr
  ·exact absurd hr (fun h=>h)
  ·exact ai hr
end
end
end
section
open Go.Lib hiding intOf
theorem BK {n:Nat} (h:n<65536):(cL (n:Int)).size<=1000:=by
 have h1:(cL n).size=(itoa n).length:=by simp [cL,ByteArray.size]
 have:=yE n 9 (by omega);rw [h1,nx]; omega
section
variable {l:List aN} {V:Nat->ByteArray} {b0:ah} {x y z:aQ}
structure SO (l:List aN) (V:Nat->ByteArray) (b0:ah) (x:aQ) (k:ae) (x':aQ):Prop where
 ok:E8 l V b0 x'
 ver:pV x.B x'.B
 busy:∀ k,cK x'.g k=cK x.g k
 psi:(x'.E=0/\psi l x'<=psi l x+1/\cE x'.B k=true)∨(x'.E≠0/\psi l x'<=psi l x)
section
variable {urec:aQ->ae->Option aQ} {f n:Nat} {r:aN} (C:aV l) (hD:Ed l (inB b0) V) (hb0:Rm b0.i.length) (hn:l[n]? = some r) (hp:psi l x<=8) (hf:Jk l x.g<f)
include C hD hb0 hn hp hf
end
theorem ud (m:List (ae×Bool)) (k j:ae):cK (dS aK k true m) j=(decide (j=k)||cK m j):=by
 unfold cK;by_cases e:j=k
 ·subst e;rw [gC]; simp
 ·rw [lK e]; simp [e]
theorem Bp {m:List (ae×Bool)} (h:Nd m) (k j:ae):cK (tn aK k m) j=(!decide (j=k)&&cK m j):=by
 unfold cK;rw [KQ dI j k h];by_cases e:j=k
 ·subst e;rw [FQ]; simp
 ·rw [KE e]; simp [e]
section
variable {urec:aQ->ae->Option aQ} {f n:Nat} (C:aV l) (hD:Ed l (inB b0) V) (hb0:Rm b0.i.length) (hn:n<l.length) (hx:E8 l V b0 x) (hp:psi l x<=8) (hf:Jk l x.g<f+1)
include C hD hb0 hn hx hp hf
end
end
end
section
open Go.Lib hiding intOf
section
variable {l:List aN} {V:Nat->ByteArray} {H:Int->ae->ByteArray} {b0:ah} {x y z:aQ}
theorem gU.op {b b':ah} (hB:dF l b) (hB':dF l b') (s:gU b b') {k:ae} (h:sX b.s b.r k=false):sX b'.s b'.r k=false:=by
 cases ho:sX b'.s b'.r k with
 | false=>rfl
 | true =>
  obtain⟨h1,h2⟩:=(dK hB').1 ho;rw [(dK hB).2 ⟨(s.nv k h1).1,h2⟩] at h; cases h
structure Pd (l:List aN) (V:Nat->ByteArray) (H:Int->ae->ByteArray) (b0:ah) (x:aQ) (k:ae) (x':aQ):Prop where
 ok:E8 l V b0 x'
 busy:∀ k,cK x'.g k=cK x.g k
 psi:psi l x'<=psi l x+1
 done:cE x'.B k=true
 vi:VI l H x'.B (Pb x')
 st:gU x.B x'.B
 e0:x'.E=0
 rn:∀ q∈x'.y,q∈x.y∨q=k∨cE x.B q=false
def Rv (l:List aN) (V:Nat->ByteArray) (H:Int->ae->ByteArray) (b0:ah) (x:aQ) (r:aN) (k:Nat):(List ae)×(List ByteArray)×Int×(List a7)×(List au)×(List (ae×Bool))×(List ae)×Int×(List aN)×Int×(List a7)×(List au)×(List (ae×ByteArray))×(List (ae×(List ae)))->Prop
 | (rd,ws,rev,ins,recs,busy,ran,e,rules,srev,sins,srecs,memo,seen)=>PV l V H b0 x (JN rev ins recs busy ran e rules srev sins srecs memo seen)/\k<=r.c.length/\ws=dH l (H b0.r) V r k/\rd=fJ l (H b0.r) V r k/\∀ q∈rd,zw (ah.mk rev ins recs) (Pb (JN rev ins recs busy ran e rules srev sins srecs memo seen)) q
def RA (l:List aN) (V:Nat->ByteArray) (H:Int->ae->ByteArray) (b0:ah) (x:aQ) (k:ae):Fl (Int×(List a7)×(List au)×(List (ae×Bool))×(List ae)×Int×(List aN)×Int×(List a7)×(List au)×(List (ae×ByteArray))×(List (ae×(List ae)))) aQ->Prop
 | .go _=>False
 | .out x'=>Pd l V H b0 x k x'
section
variable {urec:aQ->ae->Option aQ} {f n:Nat} {r:aN} (C:aV l) (hD:Ed l (inB b0) V) (hb0:Rm b0.i.length) (hV:V=Vd l (H b0.r)) (hu:UV l V H b0 urec f) (hn:l[n]? = some r) (hx:E8 l V b0 x) (hp:psi l x<=8) (hf:Jk l x.g<f)
 (hbl:∀ m,m<l.length->cK x.g (rk l m)=true->(aZ l)[m]? ≠ some true->m≠n->pN (aZ l) n<pN (aZ l) m) (ho:sX x.B.s x.B.r (rk l n)=false)
include C hD hb0 hV hu hn hx hp hf hbl ho
theorem Jv {k:Nat}:∀ s,Rv l V H b0 x r k s->Ok (gr urec vv (rk l n) s.1 s.2.1 s.2.2.1 s.2.2.2.1 s.2.2.2.2.1 s.2.2.2.2.2.1 s.2.2.2.2.2.2.1 s.2.2.2.2.2.2.2.1 s.2.2.2.2.2.2.2.2.1 s.2.2.2.2.2.2.2.2.2.1 s.2.2.2.2.2.2.2.2.2.2.1 s.2.2.2.2.2.2.2.2.2.2.2.1 s.2.2.2.2.2.2.2.2.2.2.2.2.1 s.2.2.2.2.2.2.2.2.2.2.2.2.2) fun y=>match y with
   | .go s'=>k<r.c.length/\Rv l V H b0 x r (k+1) s'
   | .out y=>RA l V H b0 x (rk l n) y:=by
 rintro⟨rd,ws,rev,ins,recs,busy,ran,e,rules,srev,sins,srecs,memo,seen⟩ ⟨h1,O,h2,h3,h4⟩;dsimp only;have hl:=C.high;have h3l:=(C.each n r hn).asks;have hnl:=aY hn;have hE:=h1.post.ok;have hB:dF l (ah.mk rev ins recs):=hE.base;have hru:rules=l:=hE.sol.rules;obtain rfl:e=0:=h1.e0;obtain rfl:rev=b0.r:=hE.rev;have hwl:ws.length=k:=by rw [h2]; exact ub O
 have hrl0:rd.length=k:=by rw [h3]; exact yX O
 have hgd:∀ q∈rd,fP l q:=fun q hq=>by
  rw [h3] at hq;rcases ux C hn hq with⟨c,hc,e⟩|⟨j,_,hj,e⟩
  ·exact .inl ⟨c,hc,e⟩
  ·exact .inr ⟨j,hj,e⟩
 unfold gr;refine aE (fun _=>?_) (fun he=>absurd he (by simp));obtain⟨t,ht,hcase⟩:=uK C hn (ws:=ws) (by omega);refine aH (by rw [hru]; exact ht) ?_;unfold jw;rcases hcase with⟨e1,rfl⟩|⟨w,hw,rfl⟩
 ·simp only [cond_true];refine aH (hB.find hl _) ?_;obtain⟨m,hm1,hm2⟩:=u7 C hn (ls:=ws) (by omega);obtain⟨q,q1,q2,q3,q4,q5,q6,q7⟩:=FZ (b:=ah.mk b0.r ins recs) C hB hnl (v:=cL (u6 r ws)) (by rw [hm1]; exact BK hm2) (reads:=rd) (by omega) hgd;have hran:ran.length<=8:=by have h:=h1.post.psi; unfold psi at h hp; have h:ran.length+_<=x.y.length+_:=h; omega
  have hput:mO recs q=some (gp recs q):=DQ hB.recsA (hB.rm hl).1.1 (by have:=q2.reads; unfold Rm; omega);have hkk:k=r.c.length:=by omega
  have hval:q.u=Vd l (H b0.r) n:=by rw [q5,h2,hkk,hV]; exact (zL C hn).symm
  have hrds:q.k=fJ l (H b0.r) (Vd l (H b0.r)) r r.c.length:=by rw [q6,h3,hkk,hV]
  have hop:sX recs b0.r q.d=false:=by rw [q3]; exact h1.st.op hx.base hB ho
  have hvi:VI l H ⟨b0.r,ins,gp recs q⟩ (Pb (JN b0.r ins (gp recs q) busy (ran++[rk l n]) 0 rules srev sins srecs memo seen)):=h1.vi.put C hB hn q3 hval hrds q4 q7 (fun z hz=>h4 z (by rw [<- q6]; exact hz));have hj2:Ok (eK (rk l n) rd b0.r ins recs busy ran 0 rules srev sins srecs memo seen (cL (u6 r ws)) false) fun y=>match y with
   | .go s'=>k<r.c.length/\Rv l V H b0 x r (k+1) s'
   | .out y=>RA l V H b0 x (rk l n) y:=by
   unfold eK;simp only [cond_false];refine aH q1 (aH hput (bY (du (by simp; omega)) (ai ?_)));obtain⟨v1,v2⟩:=zy hB q4;rw [q3] at v2;refine⟨⟨hE.sol,hB.put q2,rfl,hE.ins,hE.nd⟩,h1.post.busy,?_,v2,hvi,h1.st.trans hx.base hB (gU.put hB q4 hop),rfl,fun z hz=>(cD.1 hz).elim (fun hz=>(h1.rn z hz).imp id .inr) fun hz=>.inr (.inl (bK.1 hz))⟩;have hc:=Ft (l:=l) (m:=busy) v1 (fun _ e=>e) l.length;have hpp:=h1.post.psi;have hpp:ran.length+Ax (fun n=>!cE (ah.mk b0.r ins recs) (rk l n)||cK busy (rk l n)) l.length<=Go.Proofs.YtcpplgcgcbihoaaGreatDoor.psi l x:=hpp;show (ran++[rk l n]).length+Ax (fun n=>!cE (ah.mk b0.r ins (gp recs q)) (rk l n)||cK busy (rk l n)) l.length<=Go.Proofs.YtcpplgcgcbihoaaGreatDoor.psi l x+1;have hc:Ax (fun n=>!cE (ah.mk b0.r ins (gp recs q)) (rk l n)||cK busy (rk l n)) l.length<=Ax (fun n=>!cE (ah.mk b0.r ins recs) (rk l n)||cK busy (rk l n)) l.length:=hc;rw [cS];simp only [eS,vS];omega
  unfold jv;have hrl:=hB.nrec;have hrl:recs.length<=l.length:=hrl;refine aE (fun _=>?_) (fun _=>hj2);rw [decide_eq_false (by omega)];exact hj2
 ·simp only [cond_false];have hlt:=aY hw;rw [hwl] at hw;obtain⟨_,hg⟩:=lC C hn hw ws;have hgood:fP l (iO l w ws):=by
   rcases hg with⟨_,c,hc,_,e4⟩|⟨_,j,hj,_,e4⟩
   ·exact .inl ⟨c,hc,e4⟩
   ·exact .inr ⟨j,by have:=vh hnl; omega,e4⟩
  refine aD (hu _ (iO l w ws) hE (cC h1.post.psi hp) hgood (by rw [zU h1.post.busy]; exact hf) h1.vi rfl ?_) fun x' ⟨g1,g2⟩=>?_
  ·intro i hi ei m hm hbm hrm;have hbm:cK x.g (rk l m)=true:=by rw [<- h1.post.busy]; exact hbm
   rcases hg with⟨_,c,_,_,e4⟩|⟨_,j,hj,_,e4⟩
   ·exact absurd (e4.symm.trans ei) oX
   ·obtain rfl:j=i:=rG (by have:=vh hnl; omega) (by omega) (e4.symm.trans ei);obtain⟨r1,r2⟩:=Fe C hnl hj;by_cases hmn:m=n
    ·subst hmn; exact r2 hrm
    ·have:=hbl m hm hbm hrm hmn;omega
  have hE':=g1.post.ok;have hrev':x'.B.r=b0.r:=hE'.rev;refine aE (fun he=>?_) (fun he=>absurd he (by rw [g1.e0]; simp));have hV':V=Vd l (H x'.B.r):=by rw [hV,hrev']
  have hth:=HK hE'.base hgood g2;refine bY (du (by simp; omega)) (aD (Bk C hD hb0 hV' hE'.sol hE'.base g1.vi hgood (by rcases hth with h | h | h; exact .inl h; exact .inr (.inl h); exact .inr (.inr h.2))) fun y ⟨hy,hya⟩=>bY (du (by simp; omega)) (ai ⟨by omega,(h1.trans hx g1).trans hx (PV.base hE' g1.e0 hE'.base (gU.refl _) g1.vi hy),by omega,?_,?_,?_⟩))
  ·rw [my hw,<- h2,hya,hrev'];congr 2;rw [hV,tp C hn hw]
  ·rw [ld hw,<- h2,<- h3]
  ·intro q hq;show zw x'.B (Pb x') q;rcases cD.1 hq with hq | hq
   ·exact (h4 q hq).mono g1.st fun k O=>.inl (Fa g1.post.busy O)
   ·rw [bK.1 hq]; exact hth
theorem MP (hv:VI l H x.B (Pb x)) (he:x.E=0):Ok (gR urec vv x (rk l n)) (Pd l V H b0 x (rk l n)):=by
 unfold gR;refine bz (Rv l V H b0 x r) (RA l V H b0 x (rk l n)) r.c.length ⟨PV.refl hx hv he,bT _,rfl,rfl,fun q hq=>absurd hq cJ⟩ (fun k s O hI=>(Jv C hD hb0 hV hu hn hx hp hf hbl ho s hI).mono fun y hy=>by cases y <;> exact hy) ?_;rintro (s | x') hr
 ·exact absurd hr (fun h=>h)
 ·exact ai hr
end
section
variable {urec:aQ->ae->Option aQ} {f n:Nat} (C:aV l) (hD:Ed l (inB b0) V) (hb0:Rm b0.i.length) (hV:V=Vd l (H b0.r)) (hu:UV l V H b0 urec f) (hn:n<l.length) (hx:E8 l V b0 x) (hp:psi l x<=8) (hf:Jk l x.g<f+1) (hvi:VI l H x.B (Pb x)) (he:x.E=0) (hbk:O4 l x (rk l n))
include C hD hb0 hV hu hn hx hp hf hvi he hbk
theorem MW (hv:cE x.B (rk l n)=false) (hbu:cK x.g (rk l n)=false):Ok ((fh urec vv (aQ.mk x.S x.B (dS aK (rk l n) true x.g) x.y x.E) (rk l n)).bind fun u116=>cond u116.1 ((gR urec vv (aQ.mk (az.mk u116.2.S.l (ah.mk u116.2.S.b.r u116.2.S.b.i u116.2.S.b.s) u116.2.S.e u116.2.S.h) (ah.mk u116.2.B.r u116.2.B.i u116.2.B.s) u116.2.g u116.2.y u116.2.E) (rk l n)).bind fun u117=>fi (rk l n) u117.B.r u117.B.i u117.B.s u117.g u117.y u117.E u117.S.l u117.S.b.r u117.S.b.i u117.S.b.s u117.S.e u117.S.h) (fi (rk l n) u116.2.B.r u116.2.B.i u116.2.B.s u116.2.g u116.2.y u116.2.E u116.2.S.l u116.2.S.b.r u116.2.S.b.i u116.2.S.b.s u116.2.S.e u116.2.S.h))
  fun x'=>PV l V H b0 x x'/\nh x' (rk l n)=true:=by
 have hl:=C.high;have hi:=bA hn;have hx1:E8 l V b0 (aQ.mk x.S x.B (dS aK (rk l n) true x.g) x.y x.E):=⟨hx.sol,hx.base,hx.rev,hx.ins,Nd.put dI hx.nd _ _⟩;have hp1:psi l (aQ.mk x.S x.B (dS aK (rk l n) true x.g) x.y x.E)<=psi l x:=by
  refine Nat.add_le_add_left (Ej (fun m hm=>?_) _) _;rw [uO] at hm ⊢;rcases hm with hm | hm
  ·exact .inl hm
  ·rw [ud,uO,decide_eq_true_eq] at hm;rcases hm with hm | hm
   ·left; rw [hm,hv]; rfl
   ·exact .inr hm
 have hf1:Jk l (dS aK (rk l n) true x.g)<f:=by
  have:Jk l (dS aK (rk l n) true x.g)<Jk l x.g:=by
   refine El (i:=n) (fun m hm=>?_) (by rw [ud]; simp) (by rw [hbu]; rfl) _ hn;rw [ud,uN,Bool.or_eq_false_iff] at hm;rw [hm.2]; rfl
  omega
 have hvi1:VI l H x.B (Pb (aQ.mk x.S x.B (dS aK (rk l n) true x.g) x.y x.E)):=hvi.weak fun q _ hq _=>⟨by show cK (dS aK (rk l n) true x.g) q.d=true; rw [ud,hq.1,GI],hq.2⟩;have hbl:∀ m,m<l.length->cK (dS aK (rk l n) true x.g) (rk l m)=true->(aZ l)[m]? ≠ some true->m≠n->pN (aZ l) n<pN (aZ l) m:=fun m hm hb hr hmn=>by
  rw [ud,uO,decide_eq_true_eq] at hb;rcases hb with hb | hb
  ·exact absurd (rG (by omega) (by omega) hb) hmn
  ·exact hbk n hn rfl m hm hb hr
 have fin:∀ {x2:aQ},E8 l V b0 x2->gU x.B x2.B->VI l H x2.B (Pb x2)->x2.E=0->(∀ k,cK x2.g k=(decide (k=rk l n)||cK x.g k))->psi l x2<=psi l x+1->cE x2.B (rk l n)=true->(∀ q∈x2.y,q∈x.y∨q=rk l n∨cE x.B q=false) ->
   PV l V H b0 x ⟨x2.S,x2.B,tn aK (rk l n) x2.g,x2.y,x2.E⟩/\nh ⟨x2.S,x2.B,tn aK (rk l n) x2.g,x2.y,x2.E⟩ (rk l n)=true:=by
  intro x2 q1 q2 qv qe q3 q4 q6 qr;have hbz:∀ k,cK (tn aK (rk l n) x2.g) k=cK x.g k:=fun k=>by
   rw [Bp q1.nd,q3];by_cases e:k=rk l n
   ·rw [e,hbu]; simp
   ·simp [e]
  have hm:∀ m,(!cE x2.B (rk l m)||cK (tn aK (rk l n) x2.g) (rk l m))=true->(!cE x2.B (rk l m)||cK x2.g (rk l m))=true:=fun m hm=>by
   rw [uO] at hm ⊢;rcases hm with hm | hm
   ·exact .inl hm
   ·rw [Bp q1.nd,kg] at hm;exact .inr hm.2
  refine⟨⟨⟨⟨q1.sol,q1.base,q1.rev,q1.ins,Nd.del dI q1.nd _⟩,q2.ver,hbz,?_⟩,?_,q2,qe,fun q hq=>(qr q hq).imp id fun h=>h.elim (fun e=>e▸hv) id⟩,?_⟩
  ·have hlt:Ax (fun m=>!cE x2.B (rk l m)||cK (tn aK (rk l n) x2.g) (rk l m)) l.length<Ax (fun m=>!cE x2.B (rk l m)||cK x2.g (rk l m)) l.length:=El (i:=n) hm (by rw [q6,hbz,hbu]; rfl) (by rw [q3]; simp) l.length hn;have q4:x2.y.length+Ax (fun m=>!cE x2.B (rk l m)||cK x2.g (rk l m)) l.length<=Go.Proofs.YtcpplgcgcbihoaaGreatDoor.psi l x+1:=q4;show x2.y.length+Ax (fun m=>!cE x2.B (rk l m)||cK (tn aK (rk l n) x2.g) (rk l m)) l.length<=Go.Proofs.YtcpplgcgcbihoaaGreatDoor.psi l x;omega
  ·refine qv.weak fun q hq hqp hqv=>⟨?_,hqp.2⟩;show cK (tn aK (rk l n) x2.g) q.d=true;rw [Bp q1.nd,hqp.1,Bool.and_true,uN,decide_eq_false_iff_not];intro e;have h1:=rB q1.base hq;rw [e,q6] at h1;have:=of_decide_eq_true h1.symm;omega
  ·unfold nh;show (_||cE x2.B (rk l n))=true;rw [q6,GI]
 refine aD (I0 C hD hb0 hV hu hn hx1 (cC hp1 hp) hf1 hbl hvi1 he) fun u ⟨g1,g2,g3⟩=>?_;have hbu2:∀ k,cK u.2.g k=(decide (k=rk l n)||cK x.g k):=fun k=>by rw [g1.post.busy,ud]
 have hps:=g1.post.psi;refine aE (fun hc=>?_) (fun hc=>?_)
 ·refine aD (MP C hD hb0 hV hu hi (x:=u.2) g1.post.ok (cC g1.post.psi (cC hp1 hp)) (by rw [zU g1.post.busy]; exact hf1) (fun m hm hb=>hbl m hm (by rw [<- g1.post.busy]; exact hb)) (g3 hc) g1.vi g1.e0) fun x3 h3=>?_;exact ai (fin h3.ok (g1.st.trans hx.base g1.post.ok.base h3.st) h3.vi h3.e0 (fun k=>(h3.busy k).trans (hbu2 k)) (by have:=h3.psi; omega) h3.done fun q hq=>by
   rcases h3.rn q hq with h | h | h
   ·exact (g1.rn q h).imp id .inr
   ·exact .inr (.inl h)
   ·exact .inr (.inr (Cm g1.st.ver h)))
 ·exact ai (fin g1.post.ok g1.st g1.vi g1.e0 hbu2 (by omega) (g2 hc) fun q hq=>(g1.rn q hq).imp id .inr)
end
theorem LD (C:aV l) (hD:Ed l (inB b0) V) (hb0:Rm b0.i.length) (hV:V=Vd l (H b0.r)):∀ f,UV l V H b0 (JH f) f
 | 0=>fun x k _ _ _ h _ _ _=>absurd h (by omega)
 | f+1=>by
  intro x k hx hp O hf hvi he hbk;have ih:=LD C hD hb0 hV f;have hl:=C.high;show Ok (kX (JH f) vv x k) _;unfold kX;refine aE (fun h0=>absurd h0 (by rw [he]; simp)) (fun _=>?_);refine aH (kP k) (aE (fun hi=>ai ⟨PV.refl hx hvi he,?_⟩) (fun hi=>?_))
  ·unfold nh;rw [hi]; rfl
  ·obtain⟨n,hn,rfl⟩:∃ n,n<l.length/\k=rk l n:=by
    rcases O with⟨c,_,rfl⟩ | h
    ·rw [sL] at hi; cases hi
    ·exact h
   refine aH (hx.base.find hl _) ?_;have hj3:cE x.B (rk l n)=false->Ok (fj (JH f) vv x (rk l n) false) fun x'=>PV l V H b0 x x'/\nh x' (rk l n)=true:=fun hv=>by
    unfold fj;simp only [cond_false,ax];refine aE (fun hbu=>?_) (fun hbu=>MW C hD hb0 hV ih hn hx hp hf hvi he hbk hv hbu);have hbu:cK x.g (rk l n)=true:=hbu;refine aH (iN _) (aE (fun hcy=>?_) (fun hcy=>?_))
    ·have hc:ji (rk l n)=false:=by simpa using hcy
     rw [Eq] at hc;have:=hbk n hn rfl n hn hbu (of_decide_eq_false hc);omega
    ·have hc:ji (rk l n)=true:=by simpa using hcy
     refine ai ⟨?_,?_⟩
     ·exact⟨⟨⟨hx.sol,hx.base,hx.rev,hx.ins,hx.nd⟩,pV.refl _,fun _=>rfl,bX _⟩,hvi,gU.refl _,he,fun _ h=>.inl h⟩
     ·unfold nh;show (_||(cK x.g (rk l n)&&ji (rk l n))||_)=true;rw [hc,hbu]; simp
   unfold ku;refine aE (fun hf2=>?_) (fun hf2=>hj3 (by unfold cE; rw [hf2]; rfl));cases hver:((bc x.B.s (rk l n)).1.t==x.B.r) with
   | true =>
    refine ai ⟨PV.refl hx hvi he,?_⟩;unfold nh cE;rw [hf2,show (bc x.B.s (rk l n)).1.t=x.B.r by simpa using hver];simp
   | false=>exact hj3 (by unfold cE; rw [show decide ((bc x.B.s (rk l n)).1.t=x.B.r)=false by simpa using hver,Bool.and_false])
end
end
section
open Go.Lib hiding intOf
theorem db {ρ:Type} {B:Int->Option (Fl Int ρ)} {r:ρ} (n:Nat) (hgo:∀ k,k<n->B (k:Int)=some (.go ((k+1:Nat):Int))) (hn:B (n:Int)=some (.out r)):loop B 0=some r :=
 tx (B:=B) (fun k=>(k:Int)) n rfl hgo hn
section
variable {l:List aN} {b:ah}
theorem Jq (hl:l.length<=8) {rev:Int} (hrev:rev<=1000000) {r:au} (h:tZ l rev r):q9 r=some true:=by
 obtain⟨n,hn,O⟩:=h.key;have h3:=h.reads;have h4:=h.value;have h5:=h.low;have h6:=h.mid;have h7:=h.high;have h8:=h.cost;unfold q9;refine iq (db (r:=Fl.go ()) r.k.length (fun k O=>?_) ?_) ?_
 ·unfold lX;rw [dlt O,cond_true,bm O,ax,(h.good _ (dR O)).valid hl,ax,cH (by omega)];rfl
 ·unfold lX;rw [bZ]; rfl
 ·show lW r=some true;unfold lW;rw [O,B9 (by omega),ax,cond_true,k5,ax,decide_eq_true (by omega),decide_eq_true (by omega),decide_eq_true (by omega),decide_eq_true (by omega),decide_eq_true (by omega),decide_eq_true (by omega),decide_eq_true (by omega)];simp only [nO,cond_true];rw [iN,ax];unfold cP;cases hd:r.w with
  | false=>rfl
  | true =>
   have:=h.dirty hd;rw [O] at this;rw [this]; rfl
theorem LH (h:dF l b) (hl:l.length<=8):kT b.s=some true:=by
 have hn:=h.nrec;unfold kT;refine iq (db (r:=Fl.go ()) b.s.length (fun k O=>?_) ?_) ?_
 ·unfold ia;rw [dlt O,cond_true,bm O,ax,Jq hl h.rev.2 (h.recs _ (dR O)),ax];have hj:ef (k:Int) false=some (.go ((k+1:Nat):Int)):=by unfold ef; rw [cH (by omega)]; rfl
  simp only [dC,cond_false];rcases yd k with h0 | h0
  ·subst h0;exact hj
  ·rw [decide_eq_true (by omega),cond_true,show IntKind.i64.wrap ((k:Int)-1)=((k-1:Nat):Int) by rw [qq (by omega) (by omega)]; omega,bm (show k-1<b.s.length by omega),ax,oP,ax];have:=eI.1 h.recsA (k-1) k (by omega) O (by omega);rw [decide_eq_false (by omega)];exact hj
 ·unfold ia;rw [bZ]; rfl
 ·show some (decide ((b.s.length:Int)<=4000))=some true;rw [decide_eq_true (by omega)]
theorem vE (h:dF l b) (hl:l.length<=8):iZ b=some true:=by
 have hn:=h.nrec;have hi:=h.nin;have hrev:=h.rev;unfold iZ;refine iq (db (r:=Fl.go ()) b.i.length (fun k O=>?_) ?_) ?_
 ·have hx:=h.ins _ (dR O);obtain⟨c,hc,hkey⟩:=hx.key;have h1:=hx.value;have h2:=hx.low;have h3:=hx.high;unfold l5;rw [dlt O,cond_true,bm O,ax,hkey,uW (by omega),ax];have hj:cZ (k:Int) false=some (.go ((k+1:Nat):Int)):=by unfold cZ; rw [cH (by omega)]; rfl
  simp only [dC,cond_false];rw [ki,ax];simp only [dC,cond_false];rw [decide_eq_false (show ¬ (1073741824:Int)<(b.i[k].u.size:Int) by omega),decide_eq_false (show ¬ (b.i[k].a:Int)<0 by omega),decide_eq_false (show ¬ (b.r:Int)<b.i[k].a by omega)];rcases yd k with h0 | h0
  ·subst h0;exact hj
  ·rw [decide_eq_true (by omega),cond_true,show IntKind.i64.wrap ((k:Int)-1)=((k-1:Nat):Int) by rw [qq (by omega) (by omega)]; omega,bm (show k-1<b.i.length by omega),ax,oP,ax];have:=eI.1 h.insA (k-1) k (by omega) O (by omega);rw [hkey] at this;rw [decide_eq_false (by omega)];exact hj
 ·unfold l5;rw [bZ]; rfl
 ·show l3 b=some true;unfold l3;refine iq (db (r:=Fl.go ()) b.s.length (fun k O=>?_) ?_) ?_
  ·have:=(h.recs _ (dR O)).high;unfold l4;rw [dlt O,cond_true,bm O,ax,decide_eq_false (by omega),cH (by omega)]; rfl
  ·unfold l4;rw [bZ]; rfl
  ·show lZ b=some true;unfold lZ;rw [decide_eq_true hrev.1,decide_eq_true (by omega),decide_eq_true (by omega),LH h hl]; rfl
theorem B7 (hl:l.length<=8) {k:ae} (O:fP l k):l7 l k=some true:=by
 unfold l7;rw [O.valid hl,ax,cond_true];rcases O with⟨c,hc,rfl⟩|⟨n,hn,rfl⟩
 ·rfl
 ·have h1:∀ q,fE ((q:ae).v==q.v&&q.x.toList==q.x.toList)=some true:=fun q=>by unfold fE; simp
  rcases qM (l:=l) (n:=n) with⟨h,_⟩|⟨h,_⟩
  ·rw [show ((rk l n).v != 31)=false by rw [h]; rfl,cond_false,ta,ax,Af (by omega),AK hn (by omega),ax];exact h1 _
  ·rw [show ((rk l n).v != 31)=true by rw [h]; rfl,cond_true,show ((rk l n).v != 32)=false by rw [h]; rfl,cond_false,ta,ax,Af (by omega),AK hn (by omega),ax];exact h1 _
theorem Eh (C:aV l) (h:dF l b) {goals:List ae} (hg:∀ k∈goals,fP l k) (hn:goals.length<=32):mb l b goals=some 0:=by
 have hl:=C.high;unfold mb;rw [Ab C.bnd,vl C,ax];simp only [dC,cond_false];rw [vE h hl,ax,decide_eq_false (by omega)];simp only [dC,cond_false];refine iq (db (r:=Fl.go ()) goals.length (fun k O=>?_) ?_) rfl
 ·unfold mc;rw [dlt O,cond_true,bm O,ax,B7 hl (hg _ (dR O)),ax,cH (by omega)]; rfl
 ·unfold mc;rw [bZ]; rfl
structure xI (l:List aN) (b b':ah):Prop where
 ok:dF l b'
 rev:b'.r=b.r
 ins:b'.i=b.i
theorem Mw (C:aV l) {d:List Int} {i:Int} (hd:cx d i):Ok (uq ⟨d,i⟩ l) fun y=>fP l y.1/\cx y.2.L y.2.r1:=by
 have hl:=C.high;have h2l:=C.low;unfold uq;refine aD (dJ hd (by omega) (by omega)) fun y ⟨_,_,d1⟩=>aE (fun _=>?_) (fun _=>?_)
 ·refine aD (dJ d1 (by omega) (by omega)) fun z ⟨z1,z2,d2⟩=>?_;obtain⟨c,hc⟩:∃ c:Nat,z.1=c:=⟨z.1.toNat,by omega⟩;rw [hc];exact aH (vp (by omega)) (ai ⟨.inl ⟨c,by omega,rfl⟩,d2⟩)
 ·refine aD (dJ d1 (by omega) (by omega)) fun z ⟨z1,z2,d2⟩=>aE (fun _=>?_) (fun _=>?_)
  ·refine aD (dJ d2 (by omega) (by omega)) fun w ⟨w1,w2,d3⟩=>?_;have e1:IntKind.i64.wrap ((l.length:Int)-1)=(l.length:Int)-1:=qq (by omega) (by omega);rw [e1,qq (by omega) (by omega)];obtain⟨c,hc⟩:∃ c:Nat,(l.length:Int)-1-w.1=c:=⟨((l.length:Int)-1-w.1).toNat,by omega⟩;rw [hc];exact aH (AK (by omega) (by omega)) (ai ⟨.inr ⟨c,by omega,rfl⟩,d3⟩)
  ·refine aD (dJ d2 (by omega) (by omega)) fun w ⟨w1,w2,d3⟩=>?_;obtain⟨c,hc⟩:∃ c:Nat,w.1=c:=⟨w.1.toNat,by omega⟩;rw [hc];exact aH (AK (by omega) (by omega)) (ai ⟨.inr ⟨c,by omega,rfl⟩,d3⟩)
theorem yH (C:aV l) {d:List Int} {i:Int} (hd:cx d i) {most:Int} (h1:1<=most) (h2:most<=30):Ok (lL ⟨d,i⟩ l most) fun y=>(∀ k∈y.1,fP l k)/\y.1.length<=32/\cx y.2.L y.2.r1:=by
 unfold lL;refine aD (dJ hd h1 (by omega)) fun y ⟨y1,y2,d1⟩=>?_;rw [qq (by omega) (by omega)];refine bz (fun (k:Nat) (s:(List ae)×Int×(List Int)×Int)=>(∀ q∈s.1,fP l q)/\s.1.length=k/\s.2.1=y.1+1-k/\cx s.2.2.1 s.2.2.2) (fun r=>(∀ q∈r.1,fP l q)/\r.1.length<=32/\cx r.2.1 r.2.2) 31 ⟨fun q hq=>absurd hq cJ,rfl,by simp,d1⟩ ?_ (fun r hr=>ai hr);rintro k ⟨gs,c,d,i⟩ O ⟨g1,g2,g3,g4⟩;dsimp only at g1 g2 g3 g4 ⊢;unfold qA;refine aE (fun hc=>?_) (fun _=>ai ⟨g1,by show gs.length<=32; omega,g4⟩);have hc:=of_decide_eq_true hc;refine aD (Mw C g4) fun z ⟨z1,z2⟩=>bY (du (by simp; omega)) (ai ⟨by omega,?_,by rw [cS,g2]; rfl,?_,z2⟩)
 ·intro q hq;rcases cD.1 hq with hq | hq
  ·exact g1 q hq
  ·rw [bK.1 hq]; exact z1
 ·show IntKind.i64.wrap (c-1)=_;rw [qq (by omega) (by omega)]; omega
end
end
section
open Go.Lib hiding intOf
abbrev Ob (_:ae):Prop:=False
section
variable {l:List aN} {V:Nat->ByteArray} {H:Int->ae->ByteArray} {b:ah}
theorem VI.inB {P:ae->Prop} (h:VI l H b P):inB b=H b.r:=funext h.now
structure L6 (l:List aN) (H:Int->ae->ByteArray) (b:ah) (goals:List ae) (y:ah×(List ae)×Int):Prop where
 lv:xI l b y.1
 e0:y.2.2=0
 vi:VI l H y.1 Ob
 there:∀ k∈goals,(∃ c,k=bJ c)∨cE y.1 k=true
 ran:∀ k∈y.2.1,cE b k=false
 few:y.2.1.length<=8
 ver:pV b y.1
def Sr (l:List aN) (H:Int->ae->ByteArray) (b0:ah) (goals:List ae) (k:Nat):Int×Int×(List a7)×(List au)×(List (ae×Bool))×(List ae)×Int×(List aN)×Int×(List a7)×(List au)×(List (ae×ByteArray))×(List (ae×(List ae)))->Prop
 | (i,rev,ins,recs,busy,ran,e,rules,srev,sins,srecs,memo,seen)=>i=(k:Int)/\PV l (Vd l (inB b0)) H b0 ⟨⟨l,b0,[],[]⟩,b0,[],[],0⟩ (JN rev ins recs busy ran e rules srev sins srecs memo seen)/\psi l (JN rev ins recs busy ran e rules srev sins srecs memo seen)<=8/\∀ j q,j<k->goals[j]? = some q->(∃ c,q=bJ c)∨cE (ah.mk rev ins recs) q=true
def Ss (l:List aN) (H:Int->ae->ByteArray) (b0:ah) (goals:List ae):Int×(List a7)×(List au)×(List (ae×Bool))×(List ae)×Int×(List aN)×Int×(List a7)×(List au)×(List (ae×ByteArray))×(List (ae×(List ae)))->Prop
 | (rev,ins,recs,busy,ran,e,rules,srev,sins,srecs,memo,seen)=>PV l (Vd l (inB b0)) H b0 ⟨⟨l,b0,[],[]⟩,b0,[],[],0⟩ (JN rev ins recs busy ran e rules srev sins srecs memo seen)/\psi l (JN rev ins recs busy ran e rules srev sins srecs memo seen)<=8/\∀ q∈goals,(∃ c,q=bJ c)∨cE (ah.mk rev ins recs) q=true
theorem tC (C:aV l) (h:dF l b) (hv:VI l H b Ob) {goals:List ae} (hg:∀ k∈goals,fP l k) (hn:goals.length<=32):Ok (fp uu l b goals) (L6 l H b goals):=by
 have hl:=C.high;have hb0:=(h.rm hl).2.1;have hD:=u4 (inB b) C;have hcp:=wb (h.rm hl).1 hb0;have hV:Vd l (inB b)=Vd l (H b.r):=by rw [hv.inB]
 have hE0:E8 l (Vd l (inB b)) b ⟨⟨l,b,[],[]⟩,b,[],[],0⟩:=⟨⟨rfl,rfl,fun n _ v e=>(by cases e),fun c=>rfl⟩,h,rfl,rfl,pY⟩;unfold fp;rw [hcp,ax,Eh C h hg hn,ax];simp only [show ((0:Int) != 0)=false from rfl,cond_false];refine aH (v:=az.mk l b [] []) rfl ?_;rw [hcp,ax];unfold mQ;refine bz (Sr l H b goals) (Ss l H b goals) goals.length ?_ ?_ ?_
 ·refine⟨rfl,PV.refl hE0 (hv.weak fun _ _ hp _=>hp.elim) rfl,?_,fun j q hj=>absurd hj (by omega)⟩;have:=wN (fun n=>!cE b (rk l n)||cK [] (rk l n)) l.length;show 0+Ax (fun n=>!cE b (rk l n)||cK [] (rk l n)) l.length<=8;omega
 ·rintro k ⟨i,rev,ins,recs,busy,ran,e,rules,srev,sins,srecs,memo,seen⟩ O ⟨rfl,h1,h2,h3⟩;dsimp only;unfold mR;have hbz:∀ q,cK busy q=false:=fun q=>h1.post.busy q;refine aE (fun hlt=>?_) (fun hlt=>ai ⟨h1,h2,fun q hq=>?_⟩)
  ·have hlt:k<goals.length:=by have:=of_decide_eq_true hlt; omega
   have hnb:=wN (fun n=>!cK busy (rk l n)) l.length;refine aH (bm hlt) (aD (LD C hD hb0 hV 40 _ _ h1.post.ok h2 (hg _ (dR hlt)) (show Ax (fun n=>!cK busy (rk l n)) l.length<40 by omega) h1.vi h1.e0 (fun n _ _ m _ hb=>by
    have hb:cK busy (rk l m)=true:=hb;rw [hbz] at hb; cases hb)) fun x' ⟨g1,g2⟩=>?_)
   refine ai ⟨hlt,cH (by omega),h1.trans hE0 g1,cC g1.post.psi h2,fun j q hj hq=>?_⟩;show _∨cE x'.B q=true;rcases dZ j k with hj1 | hj1
   ·exact (h3 j q hj1 hq).imp id fun e=>g1.st.ver _ e
   ·obtain rfl:j=k:=by omega
    have e:goals[j]=q:=by rw [bA hlt] at hq; exact bM hq
    rcases HK g1.post.ok.base (hg _ (dR hlt)) g2 with h | h | h
    ·exact .inl (e▸h)
    ·exact .inr (e▸h)
    ·have:=h.1;rw [g1.post.busy] at this;have this:cK busy goals[j]=true:=this;rw [hbz] at this; cases this
  ·obtain⟨j,hj⟩:=iD.1 hq;have hlt:¬ (k:Int)<(goals.length:Int):=of_decide_eq_false hlt;exact h3 j q (by have:=aY hj; omega) hj
 ·rintro⟨rev,ins,recs,busy,ran,e,rules,srev,sins,srecs,memo,seen⟩ ⟨h1,h2,h3⟩;dsimp only;unfold jV;have he:e=0:=h1.e0;refine aE (fun h0=>absurd h0 (by rw [he]; simp)) (fun _=>?_);have hr:ran.length<=8:=by
   have h2:ran.length+_<=8:=h2;omega
  obtain⟨m,hm,hm2⟩:=xA (l:=ran) (by unfold Rm; omega);refine aH hm (ai ⟨⟨h1.post.ok.base,h1.post.ok.rev,h1.post.ok.ins⟩,rfl,?_,h3,fun q hq=>?_,by have:=hm2.len; show m.length<=8; omega,h1.st.ver⟩)
  ·refine h1.vi.weak fun q _ hq _=>?_;have:=hq.1;rw [h1.post.busy] at this;cases this
  ·rcases h1.rn q ((hm2.mem q).1 hq) with hh | hh
   ·cases hh
   ·exact hh
end
end
section
open Go.Lib hiding intOf
section
variable {l:List aN} {V:Nat->ByteArray} {b0 b:ah}
theorem Em (C:aV l):kY l=some l:=by
 have h8:=C.high;unfold kY kv;refine iq (em (xs:=l) (fun k=>(l.take k,(k:Int))) rfl (r:=l) (fun k x hx=>?_) ?_) rfl
 ·have hlt:=aY hx;have:=(C.each k x hx).asks;unfold ik;dsimp only;rw [dlt hlt,cond_true,bx,hx,ax,du (by simp; omega),du (by rw [je]; simp; omega),cH (by omega),bV hx];rfl
 ·unfold ik;dsimp only;rw [bZ,gz]; rfl
structure GX (l:List aN) (f:bp):Prop where
 key:∃ n,n<l.length/\f.d=rk l n
 at0:0<=f.r1
 at1:f.r1<=1000000
 reads:f.k.length<=3
 same:f.q.length=f.k.length
 good:∀ k∈f.k,fP l k
theorem xk {fs:List bp} (h:∀ f∈fs,GX l f) (hl:fs.length<=1000):eo fs=some fs:=by
 unfold eo cX;refine iq (em (xs:=fs) (fun k=>(fs.take k,(k:Int))) rfl (r:=fs) (fun k x hx=>?_) ?_) rfl
 ·have hlt:=aY hx;have hf:=h x (aO hx);have h1:=hf.reads;have h2:=hf.same;unfold cn;dsimp only;rw [dlt hlt,cond_true,bx,hx,ax,du (by simp; omega),du (by simp; omega),du (by rw [je]; simp; omega),cH (by omega),bV hx];rfl
 ·unfold cn;dsimp only;rw [bZ,gz]; rfl
theorem QY {fs:List bp} (hl:fs.length<=1000) (k:ae):Ok (py fs k) fun _=>True:=by
 unfold py;refine bz (fun (i:Nat) (s:Int)=>s=i/\i<=fs.length) (fun _=>True) fs.length ⟨rfl,bT _⟩ ?_ ?_
 ·rintro i _ hi ⟨rfl,_⟩;unfold kf;refine aE (fun hlt=>?_) (fun _=>ai trivial);have hlt:i<fs.length:=by have:=of_decide_eq_true hlt; omega
  refine aH (bm hlt) (aE (fun _=>ai trivial) (fun _=>ai ⟨hlt,cH (by omega),hlt⟩))
 ·rintro (_ | _) _ <;> exact ai trivial
theorem Jl (hl:l.length<=8) (hb:dF l b) {fs:List bp} (hf:fs.length<=1000) {k:ae} (O:fP l k):Ok (i8 b fs k) fun y=>y=true->∃ n,n<l.length/\k=rk l n:=by
 unfold i8;refine aH (kP k) (aE (fun _=>ai fun e=>by cases e) (fun hi=>?_));have hn:∃ n,n<l.length/\k=rk l n:=by
  rcases O with⟨c,_,rfl⟩ | h
  ·rw [sL] at hi; cases hi
  ·exact h
 refine aD (QY hf k) fun _ _=>aE (fun _=>ai fun _=>hn) (fun _=>aH (hb.find hl k) (aE (fun _=>ai fun _=>hn) (fun _=>ai fun _=>hn)))
structure Dj (l:List aN) (V:Nat->ByteArray) (b0 b:ah) (N:Nat) (y:ah×(List bp)×(List ae)×Bool×Int×az):Prop where
 lv:xI l b y.1
 fr:∀ f∈y.2.1,GX l f
 len:y.2.1.length<=N+1
 wk:y.2.2.1.length<=1
 sol:sv l V b0 y.2.2.2.2.2
theorem G3 {fs:List bp} (h:∀ f∈fs,GX l f) {n:Nat} (hn:n<l.length):∀ g∈fs++[bp.mk (rk l n) false 0 [] []],GX l g:=fun g hg=>by
 rcases cD.1 hg with hg | hg
 ·exact h g hg
 ·rw [bK.1 hg];exact⟨⟨n,hn,rfl⟩,tg _,by show (0:Int)<=1000000; omega,bT _,rfl,fun k O=>absurd O cJ⟩
end
end
section
open Go.Lib hiding intOf
variable {f:bp} {fs rest:List bp}
def Ps (fs:List bp) (k:ae):Prop:=ji k=true/\∃ f∈fs,f.d=k
section
variable {l:List aN} {V:Nat->ByteArray} {H:Int->ae->ByteArray} {b b' b0:ah} {P P':ae->Prop}
theorem Hx (hl:fs.length<=1000) (k:ae):Ok (py fs k) fun y=>y=true↔∃ f∈fs,f.d=k:=by
 have e:loop (fun s:Int=>kf fs k s) 0=some (if fs.any (fun f=>dt f.d k) then Fl.out true else Fl.go ()) :=
  BQ (xs:=fs) (fun f=>dt f.d k) (fun n=>(n:Int)) rfl
   (fun i f hf hp=>by
    have:=aY hf;unfold kf;rw [m9 hf,cond_true,bx,hf,ax];unfold dt at hp;rw [hp,cond_false,cH (by omega)])
   (fun i f hf hp=>by
    unfold kf;rw [m9 hf,cond_true,bx,hf,ax];unfold dt at hp;rw [hp,cond_true])
   (by unfold kf; rw [bZ]; rfl)
 unfold py;rw [e,ax];cases ha:fs.any (fun f=>dt f.d k) with
 | true =>
  refine ai ⟨fun _=>?_,fun _=>rfl⟩;obtain⟨f,hf,e⟩:=AR.1 ha;exact⟨f,hf,dM.1 e⟩
 | false =>
  refine ai (show (false=true)↔_ from ⟨fun h=>(by cases h),fun ⟨f,hf,e⟩=>?_⟩);have:=List.any_eq_false.1 ha f hf;exact absurd (dM.2 e) this
theorem Hs (hl:l.length<=8) (hb:dF l b) (hf:fs.length<=1000) {k:ae} (O:fP l k):Ok (i8 b fs k) fun y=>(y=true->∃ n,n<l.length/\k=rk l n)/\(y=false->(∃ c,k=bJ c)∨(∃ f∈fs,f.d=k)∨cE b k=true):=by
 unfold i8;refine aH (kP k) (aE (fun hi=>ai ⟨(fun e=>by cases e),fun _=>?_⟩) (fun hi=>?_))
 ·rcases O with⟨c,_,rfl⟩|⟨n,_,rfl⟩
  ·exact .inl ⟨c,rfl⟩
  ·rw [BI] at hi; cases hi
 have hn:∃ n,n<l.length/\k=rk l n:=by
  rcases O with⟨c,_,rfl⟩ | h
  ·rw [sL] at hi; cases hi
  ·exact h
 refine aD (Hx hf k) fun u hu=>aE (fun h1=>ai ⟨(fun e=>by cases e),fun _=>.inr (.inl (hu.1 h1))⟩) (fun _=>aH (hb.find hl k) (aE (fun _=>ai ⟨fun _=>hn,fun e=>by cases e⟩) (fun hf=>ai ⟨fun _=>hn,fun e=>.inr (.inr ?_)⟩)));have hf:(bc b.s k).2=true:=by simpa using hf
 have e:((bc b.s k).1.t != b.r)=false:=e;unfold cE;rw [hf,tF,decide_eq_true_eq];simpa using e
theorem FY (hl:l.length<=8) (hb:dF l b) (hf:fs.length<=1000) {k:ae} (O:fP l k):Ok (ql b fs [] k) fun y=>(y=1->∃ n,n<l.length/\k=rk l n)/\(y≠1->y≠2->y≠3->zw b (Ps fs) k):=by
 have hj:∀ g,(g=false->(∃ f∈fs,f.d=k)->ji k=true)->Ok (lm b fs [] k g) fun y=>(y=1->∃ n,n<l.length/\k=rk l n)/\(y≠1->y≠2->y≠3->zw b (Ps fs) k):=fun g hg=>by
  unfold lm;refine aE (fun _=>ai ⟨(fun e=>by cases e),fun _ _ h=>absurd rfl h⟩) (fun hgf=>aD (Hs hl hb hf O) fun y ⟨y1,y2⟩=>aE (fun hn=>ai ⟨(fun e=>by cases e),fun _ _ _=>?_⟩) (fun hn=>?_))
  ·rcases y2 (by simpa using hn) with h | h | h
   ·exact .inl h
   ·exact .inr (.inr ⟨hg hgf h,h⟩)
   ·exact .inr (.inl h)
  have hn:=y1 (by simpa using hn);refine aD (Hx (fs:=[]) (by simp) k) fun u hu=>aE (fun _=>ai ⟨fun _=>hn,fun h=>absurd rfl h⟩) (fun hu2=>?_);have hu2:u=true:=by simpa using hu2
  obtain⟨f,hf,_⟩:=hu.1 hu2;cases hf
 unfold ql;refine aH (iN _) (aE (fun hc=>aD (Hx hf k) fun u hu=>hj u fun e h=>?_) (fun hc=>hj false fun _ _=>by simpa using hc));rw [hu.2 h] at e; cases e
structure FV (l:List aN) (H:Int->ae->ByteArray) (b:ah) (P:ae->Prop) (f:bp):Prop where
 run:f.m=true->sX b.s b.r f.d=false/\∃ n r,l[n]? = some r/\f.d=rk l n/\f.k.length<=r.c.length/\f.q=dH l (H b.r) (Vd l (H b.r)) r f.k.length/\f.k=fJ l (H b.r) (Vd l (H b.r)) r f.k.length/\∀ q∈f.k,zw b P q
 idle:f.m=false->f.k=[]/\f.q=[]/\(Nv b f.d->rJ l H b P f.d f.r1.toNat)
theorem FV.step (hl:l.length<=8) (hB:dF l b) (hB':dF l b') (s:gU b b') (hP:∀ k,P k->P' k∨cE b' k=true) (h:FV l H b P f):FV l H b' P' f:=by
 refine⟨fun hr=>?_,fun hr=>?_⟩
 ·obtain⟨h1,n,r,h2,h3,h4,h5,h6,h7⟩:=h.run hr;exact⟨s.op hB hB' h1,n,r,h2,h3,h4,by rw [s.rev]; exact h5,by rw [s.rev]; exact h6,fun q hq=>(h7 q hq).mono s hP⟩
 ·obtain⟨h1,h2,h3⟩:=h.idle hr;exact⟨h1,h2,fun O=>rJ.step hl hB hB' s hP h3 O⟩
theorem FV.new {n:Nat}:FV l H b P (bp.mk (rk l n) false 0 [] []):=⟨(fun h=>by cases h),fun _=>⟨rfl,rfl,fun _=>rJ.zero _⟩⟩
structure SV (l:List aN) (H:Int->ae->ByteArray) (b:ah) (fs:List bp):Prop where
 vi:VI l H b (Ps fs)
 fr:∀ f∈fs,FV l H b (Ps fs) f
theorem JE {i:Nat} (hi:i+1=fs.length) (hf:fs[i]? = some f):fs=fs.take i++[f]:=by
 have h1:fs.drop i=[f]:=by
  rw [LW (by omega),List.drop_of_length_le (by omega)];rw [bA (by omega)] at hf;rw [bM hf]
 conv=>lhs; rw [<- E0 i fs,h1]
theorem SV.pop (hl:l.length<=8) (hB:dF l b) (hB':dF l b') (s:gU b b') (h:SV l H b (rest++[f])) (hvi:VI l H b' (Ps (rest++[f]))) (hv:cE b' f.d=true):SV l H b' rest:=by
 have hP:∀ k,Ps (rest++[f]) k->Ps rest k∨cE b' k=true:=fun k ⟨h1,g,hg,e⟩=>by
  rcases cD.1 hg with hg | hg
  ·exact .inl ⟨h1,g,hg,e⟩
  ·rw [bK.1 hg] at e;exact .inr (e▸hv)
 refine⟨hvi.weak fun x hx hp hlt=>?_,fun g hg=>(h.fr g (iB _ hg)).step hl hB hB' s hP⟩;rcases hP _ hp with h1 | h1
 ·exact h1
 ·rw [rB hB' hx] at h1;have:=of_decide_eq_true h1;omega
theorem SV.push (hl:l.length<=8) (hB:dF l b) (h:SV l H b fs) (n:Nat):SV l H b (fs++[bp.mk (rk l n) false 0 [] []]):=by
 have hP:∀ k,Ps fs k->Ps (fs++[bp.mk (rk l n) false 0 [] []]) k:=fun k ⟨h1,g,hg,e⟩=>⟨h1,g,iB _ hg,e⟩;refine⟨h.vi.weak fun x _ hp _=>hP _ hp,fun g hg=>?_⟩;rcases cD.1 hg with hg | hg
 ·exact (h.fr g hg).step hl hB hB (gU.refl _) fun k O=>.inl (hP k O)
 ·rw [bK.1 hg]; exact FV.new
theorem SV.last (hl:l.length<=8) (hB:dF l b) (hB':dF l b') (s:gU b b') {f':bp} (h:SV l H b (rest++[f])) (O:f'.d=f.d) (hvi:VI l H b' (Ps (rest++[f]))) (hf:FV l H b' (Ps (rest++[f])) f'):SV l H b' (rest++[f']):=by
 have hP:∀ k,Ps (rest++[f]) k->Ps (rest++[f']) k:=fun k ⟨h1,g,hg,e⟩=>by
  rcases cD.1 hg with hg | hg
  ·exact⟨h1,g,iB _ hg,e⟩
  ·rw [bK.1 hg] at e;exact⟨h1,f',pR _ (bK.2 rfl),O.trans e⟩
 refine⟨hvi.weak fun x _ hp _=>hP _ hp,fun g hg=>?_⟩;rcases cD.1 hg with hg | hg
 ·exact (h.fr g (iB _ hg)).step hl hB hB' s fun k O=>.inl (hP k O)
 ·rw [bK.1 hg];exact hf.step hl hB' hB' (gU.refl _) fun k O=>.inl (hP k O)
theorem Ll {f':bp} {i:Nat} (hi:i=rest.length):(rest++[f]).set i f'=rest++[f']:=by
 subst hi;simp
end
end
section
open Go.Lib hiding intOf
section
variable {l:List aN} {V:Nat->ByteArray} {H:Int->ae->ByteArray} {b0 b:ah}
theorem Hn (C:aV l) (hD:Ed l (inB b0) V) (hb0:Rm b0.i.length) (hV:V=Vd l (H b.r)) {s:az} (hs:sv l V b0 s) (hb:dF l b) {rest:List bp} {f:bp} (hf:∀ g∈rest++[f],GX l g) (hlen:(rest++[f]).length<=900) (hsv:SV l H b (rest++[f])) :
  Ok (mS vv s b (rest++[f]) []) fun y=>Dj l V b0 b (rest++[f]).length y/\SV l H y.1 y.2.1:=by
 have hl:=C.high;have I:IR b.s:=(hb.rm hl).2.2;obtain⟨fs,hfs⟩:∃ fs,fs=rest++[f]:=⟨_,rfl⟩;have hfl:fs.length=rest.length+1:=by rw [hfs,cS]; rfl
 have hw:IntKind.i64.wrap ((fs.length:Int)-1)=(rest.length:Int):=by rw [qq (by omega) (by rw [<- hfs] at hlen; omega)]; omega
 have hlast:fs[rest.length]? = some f:=by rw [hfs]; simp
 have htk:fs.take rest.length=rest:=by rw [hfs]; simp
 have tj:∀ f',fs.set rest.length f'=rest++[f']:=fun f'=>by rw [hfs]; exact Ll rfl
 have hmem:f∈fs:=aO hlast;rw [<- hfs] at hf hlen hsv ⊢;have hsv':SV l H b (rest++[f]):=hfs▸hsv;have hF:=hf f hmem;have hFV:=hsv.fr f hmem;obtain⟨n,hn,hkey⟩:=hF.key;have hi:=bA hn;generalize l[n]=r at hi;have lv0:xI l b b:=⟨hb,rfl,rfl⟩;have htake:∀ g∈rest,GX l g:=fun g hg=>hf g (by rw [hfs]; exact iB _ hg);have hrl:rest.length<=fs.length+1:=by omega
 have hru:=hs.rules;have hr3:=hF.reads;have hsm:=hF.same;have setOk:∀ f',GX l f'->(∀ g∈rest++[f'],GX l g)/\(rest++[f']).length<=fs.length+1:=fun f' hf'=>⟨fun g hg=>by
  rcases cD.1 hg with hg | hg
  ·exact htake g hg
  ·rw [bK.1 hg]; exact hf',by rw [cS]; simp; omega⟩
 unfold mS;refine aH (wb (hb.rm hl).1 (hb.rm hl).2.1) (aH (xk hf (by omega)) ?_);rw [hw];refine aH (by rw [bx]; exact hlast) (aH (qo (by omega)) (aH (hb.find hl _) ?_));rw [htk];unfold od;refine aE (fun hrun=>?_) (fun hrun=>?_)
 ·obtain⟨hop,n',r',q1,q2,q3,q4,q5,q6⟩:=hFV.run hrun;obtain rfl:n=n':=rG (by omega) (by have:=aY q1; omega) (hkey.symm.trans q2);obtain rfl:=bM (hi.symm.trans q1);have h3:=(C.each n r hi).asks;obtain⟨t,ht,hcase⟩:=uK C hi (ws:=f.q) (by omega);refine aH (by rw [hru,hkey]; exact ht) ?_;unfold ob;rcases hcase with⟨e1,rfl⟩|⟨x,hx,rfl⟩
  ·simp only [cond_true];obtain⟨m,hm1,hm2⟩:=u7 C hi (ls:=f.q) (by omega);obtain⟨q,p1,p2,p3,p4,p5,p6,p7⟩:=FZ C hb hn (v:=cL (u6 r f.q)) (by rw [hm1]; exact BK hm2) hr3 hF.good;have hput:mO b.s q=some (gp b.s q):=DQ hb.recsA (hb.rm hl).1.1 (by have:=p2.reads; unfold Rm; omega);have hfull:f.k.length=r.c.length:=by omega
   have hval:q.u=Vd l (H b.r) n:=by rw [p5,q4,hfull]; exact (zL C hi).symm
   have hrds:q.k=fJ l (H b.r) (Vd l (H b.r)) r r.c.length:=by rw [p6,q5,hfull]
   have hop':sX b.s b.r q.d=false:=by rw [p3,<- hkey]; exact hop
   have hvi:=hsv'.vi.put C hb hi p3 hval hrds p4 p7 (fun z hz=>by rw [<- hfs]; exact q6 z (by rw [<- p6]; exact hz));have hj2:Ok (iJ s b fs f rest (cL (u6 r f.q)) false) fun y=>Dj l V b0 b fs.length y/\SV l H y.1 y.2.1:=by
    unfold iJ;simp only [cond_false];refine aH (by rw [hkey]; exact p1) (aH hput (ai ⟨⟨⟨hb.put p2,rfl,rfl⟩,htake,hrl,bX _,hs⟩,?_⟩));exact hsv'.pop hl hb (hb.put p2) (gU.put hb p4 hop') hvi (by rw [hkey,<- p3]; exact (zy hb p4).2)
   have hrl:=hb.nrec;rw [decide_eq_false (by omega)];exact aE (fun _=>hj2) (fun _=>hj2)
  ·simp only [cond_false];have hlt:=aY hx;rw [hsm] at hx;obtain⟨_,hg⟩:=lC C hi hx f.q;have hgood:fP l (iO l x f.q):=by
    rcases hg with⟨_,c,hc,_,e4⟩|⟨_,j,hj,_,e4⟩
    ·exact .inl ⟨c,hc,e4⟩
    ·exact .inr ⟨j,by have:=vh hn; omega,e4⟩
   refine aD (FY hl hb (by omega) hgood) fun y ⟨hy,hy0⟩=>?_;refine aE (fun h1=>?_) (fun g1=>aE (fun _=>?_) (fun g2=>aE (fun _=>?_) (fun g3=>?_)))
   ·obtain⟨m,hm,e⟩:=hy (by simpa using h1);have e:iO l x f.q=rk l m:=e;refine bY (du (by simp; omega)) (ai ⟨⟨lv0,?_,?_,bT _,hs⟩,?_⟩)
    ·show ∀ g∈fs++[bp.mk (iO l x f.q) false 0 [] []],GX l g;rw [e]; exact G3 hf hm
    ·show (fs++[_]).length<=_;rw [cS]; exact bX _
    ·show SV l H b (fs++[bp.mk (iO l x f.q) false 0 [] []]);rw [e]; exact hsv.push hl hb m
   ·exact ai ⟨⟨lv0,hf,Nat.le_succ _,bT _,hs⟩,hsv⟩
   ·exact ai ⟨⟨lv0,hf,Nat.le_succ _,bT _,hs⟩,hsv⟩
   ·have hth:=hy0 (by simpa using g1) (by simpa using g2) (by simpa using g3);refine bY (du (by simp; omega)) (aD (Bk C hD hb0 hV hs hb hsv.vi hgood (by rcases hth with h | h | h; exact .inl h; exact .inr (.inl h); exact .inr (.inr h.1))) fun z ⟨hz,hza⟩=>bY (du (by simp; omega)) ?_);have hnew:GX l (bp.mk f.d f.m f.r1 (f.k++[iO l x f.q]) (f.q++[z.1])):=by
     refine⟨hF.key,hF.at0,hF.at1,?_,?_,?_⟩
     ·show (f.k++[_]).length<=3;rw [cS]; simp; omega
     ·show (f.q++[_]).length=(f.k++[_]).length;rw [cS,cS,hsm]; rfl
     ·intro k O;rcases cD.1 O with O | O
      ·exact hF.good k O
      ·rw [bK.1 O]; exact hgood
    have hfv:FV l H b (Ps fs) (bp.mk f.d f.m f.r1 (f.k++[iO l x f.q]) (f.q++[z.1])):=by
     refine⟨fun _=>⟨hop,n,r,hi,hkey,?_,?_,?_,?_⟩,fun h=>absurd (hrun.symm.trans h) (by simp)⟩
     ·show (f.k++[_]).length<=_;rw [cS]; simp; omega
     ·show f.q++[z.1]=dH l (H b.r) (Vd l (H b.r)) r (f.k++[iO l x f.q]).length;rw [cS,CG,my hx,<- q4,hza,tp C hi hx]
     ·show f.k++[iO l x f.q]=fJ l (H b.r) (Vd l (H b.r)) r (f.k++[iO l x f.q]).length;rw [cS,CG,ld hx,<- q4,<- q5]
     ·intro q hq;rcases cD.1 hq with hq | hq
      ·exact q6 q hq
      ·rw [bK.1 hq]; exact hth
    rw [hw,oQ,tj];refine ai ⟨⟨lv0,(setOk _ hnew).1,(setOk _ hnew).2,bT _,hz⟩,?_⟩;exact hsv'.last (f':=bp.mk f.d f.m f.r1 (f.k++[iO l x f.q]) (f.q++[z.1])) hl hb hb (gU.refl _) rfl hsv'.vi (hfs▸hfv)
 ·obtain⟨i1,i2,i3⟩:=hFV.idle hrun;refine aD (Hw I f.d) fun g ⟨hg1,hg2,hg3⟩=>aH (Do I (by omega)) ?_;have hclen:(cU b.s g g).length<=1000000:=by have:=tq I g g; omega
  have hgm:Rm g.length:=by unfold Rm; omega
  have hrun1:GX l (bp.mk f.d true 0 f.k f.q):=⟨hF.key,tg _,by show (0:Int)<=1000000; omega,hF.reads,hF.same,hF.good⟩;have hrunv:∀ b' P,sX b'.s b'.r f.d=false->FV l H b' P (bp.mk f.d true 0 f.k f.q):=fun b' P ho=>by
   refine⟨fun _=>⟨ho,n,r,hi,hkey,?_,?_,?_,?_⟩,fun h=>by cases h⟩
   ·show f.k.length<=_; rw [i1]; exact bT _
   ·show f.q=dH l _ _ r f.k.length; rw [i1,i2]; rfl
   ·show f.k=fJ l _ _ r f.k.length; rw [i1]; rfl
   ·show ∀ q∈f.k,_; rw [i1]; exact fun q hq=>absurd hq cJ
  have hj5t:(sX b.s b.r f.d=false)->Ok (eR vv s [] b fs f rest g (cU b.s g g) true) fun y=>Dj l V b0 b fs.length y/\SV l H y.1 y.2.1:=fun ho=>by
   unfold eR;rw [cond_true,hw,oQ,tj];exact ai ⟨⟨lv0,(setOk _ hrun1).1,(setOk _ hrun1).2,bT _,hs⟩,hsv'.last hl hb hb (gU.refl _) rfl hsv'.vi (hrunv _ _ ho)⟩
  have hj5f:Nv b f.d->Ok (eR vv s [] b fs f rest g (cU b.s g g) false) fun y=>Dj l V b0 b fs.length y/\SV l H y.1 y.2.1:=fun hnv=>by
   have hck:=i3 hnv;have hat0:=hF.at0;obtain⟨a,ha⟩:∃ a:Nat,f.r1=a:=⟨f.r1.toNat,by omega⟩;have hta:f.r1.toNat=a:=by omega
   rw [hta] at hck;unfold eR;rw [cond_false];refine aE (fun hat=>?_) (fun hat=>?_)
   ·have hat:=of_decide_eq_true hat;have hvi:=hsv'.vi.markG C hb hnv hg3 (hfs▸hck) (by omega);exact aH (Bg (hb.rm hl).1 (hb.rm hl).2.1 hgm false) (ai ⟨⟨⟨hb.mark g false (fun e=>by cases e),rfl,rfl⟩,htake,hrl,bT _,hs⟩,hsv'.pop hl hb (hb.mark g false (fun e=>by cases e)) (gU.mark hb hg3 false) hvi (Cn hb hnv.1 hg2)⟩)
   ·have hat:=of_decide_eq_false hat;have hlt:a<(cU b.s g g).length:=by omega
    have hc:=bA hlt;generalize (cU b.s g g)[a]=c at hc;have hcm:=aO hc;have hgood:=hb.rdGood (Av hcm);refine aH (by rw [ha,bx]; exact hc) (aD (FY hl hb (by omega) hgood) fun y ⟨hy,hy0⟩=>?_);refine aE (fun h1=>?_) (fun g1=>aE (fun _=>?_) (fun g2=>aE (fun _=>?_) (fun g3=>?_)))
    ·obtain⟨m,hm,e⟩:=hy (by simpa using h1);refine bY (du (by simp; omega)) (ai ⟨⟨lv0,?_,?_,bT _,hs⟩,?_⟩)
     ·show ∀ g∈fs++[bp.mk c.p false 0 [] []],GX l g;rw [e]; exact G3 hf hm
     ·show (fs++[_]).length<=_;rw [cS]; exact bX _
     ·show SV l H b (fs++[bp.mk c.p false 0 [] []]);rw [e]; exact hsv.push hl hb m
    ·exact ai ⟨⟨lv0,hf,Nat.le_succ _,bT _,hs⟩,hsv⟩
    ·exact ai ⟨⟨lv0,hf,Nat.le_succ _,bT _,hs⟩,hsv⟩
    ·have hth:=hy0 (by simpa using g1) (by simpa using g2) (by simpa using g3);refine aH (hb.find hl _) (aD (Q:=fun z:Int×az=>sv l V b0 z.2/\Rt l H b c.p z.1) (by unfold vt; exact aD (Au C hD hb0 hV hs hb hsv.vi hgood) fun z hz=>ai hz) fun z ⟨hz,hch⟩=>?_);refine aE (fun hle=>?_) (fun hgt=>?_)
     ·have hle:=of_decide_eq_true hle;have hat1:=hF.at1;have hw1:IntKind.i64.wrap (f.r1+1)=f.r1+1:=qq (by omega) (by omega);have hf':GX l (bp.mk f.d f.m (IntKind.i64.wrap (f.r1+1)) f.k f.q):=⟨hF.key,by show 0<=IntKind.i64.wrap (f.r1+1); rw [hw1]; omega,by show IntKind.i64.wrap (f.r1+1)<=_; rw [hw1]; omega,hF.reads,hF.same,hF.good⟩;have hval:∀ m∈b.s,m.d=c.i1->vK l (H b.r) c.p=vK l (H m.t) c.p:=fun m hm hmk=>by
       obtain⟨c1,c2,c3⟩:=qP.1 hcm;have hfm:=iP hb.recsA hm hmk;have hmv:m.t<b.r:=by
        have hmn:Nv b c.i1:=by
         rcases hg3 with⟨_,rfl⟩|⟨q1,h⟩
         ·rw [bK.1 c1]; exact hnv
         ·exact ((dK hb).1 (mq q1 ((h.2 _).1 c1).1)).1
        have:=(NU hb hmn).2.2;rw [hfm] at this;exact this
       have hmr:c.p∈m.k:=by unfold zE at c2; rw [hfm] at c2; exact c2
       refine hsv.vi.chk hb hm hmv hmr hch ?_;rw [hfm] at hle;exact hle
      have hfv:FV l H b (Ps fs) (bp.mk f.d f.m (IntKind.i64.wrap (f.r1+1)) f.k f.q):=by
       refine⟨fun h=>absurd (hrun.symm.trans h) (by simp),fun _=>⟨i1,i2,fun _=>?_⟩⟩;show rJ l H b (Ps fs) f.d (IntKind.i64.wrap (f.r1+1)).toNat;rw [hw1,show (f.r1+1).toNat=a+1 by omega];exact hck.snoc hb hnv hg3 hc hth hval
      rw [hw,oQ,tj];exact ai ⟨⟨lv0,(setOk _ hf').1,(setOk _ hf').2,bT _,hz⟩,hsv'.last (f':=bp.mk f.d f.m (IntKind.i64.wrap (f.r1+1)) f.k f.q) hl hb hb (gU.refl _) rfl hsv'.vi (hfs▸hfv)⟩
     ·refine aH (iN _) (aE (fun hcy=>?_) (fun hcy=>?_))
      ·have hd:true=true->∀ q∈g,ji q=true:=fun _ q hq=>by
        rcases hg3 with⟨_,rfl⟩|⟨q1,h⟩
        ·rw [bK.1 hq]; exact hcy
        ·exact (EM (mq q1 ((h.2 q).1 hq).1)).1
       have hop:sX (b.s.map (c7 g true b.r)) b.r f.d=false:=by
        cases ho:sX (b.s.map (c7 g true b.r)) b.r f.d with
        | false=>rfl
        | true =>
         have hnv2:=((dK (hb.mark g true hd)).1 ho).1;have hfe:(bc (b.s.map (c7 g true b.r)) f.d).1.w=false:=hnv2.2.1;rw [sH hb.recsA g true b.r,hnv.1,if_pos rfl,qV (by rw [(bW hnv.1).2]; exact hg2)] at hfe;cases hfe
       refine aH (Bg (hb.rm hl).1 (hb.rm hl).2.1 hgm true) ?_;unfold iK;rw [hw,oQ,tj];exact ai ⟨⟨⟨hb.mark g true hd,rfl,rfl⟩,(setOk _ hrun1).1,(setOk _ hrun1).2,bT _,hz⟩,hsv'.last hl hb (hb.mark g true hd) (gU.mark hb hg3 true) rfl (hsv'.vi.dirty g) (hrunv ⟨b.r,b.i,b.s.map (c7 g true b.r)⟩ _ hop)⟩
      ·have hop:sX b.s b.r f.d=false:=by
        cases ho:sX b.s b.r f.d with
        | false=>rfl
        | true =>
         have:=(EM ho).1;rw [this] at hcy; cases hcy
       unfold iK;rw [hw,oQ,tj];exact ai ⟨⟨lv0,(setOk _ hrun1).1,(setOk _ hrun1).2,bT _,hz⟩,hsv'.last hl hb hb (gU.refl _) rfl hsv'.vi (hrunv _ _ hop)⟩
  have nov:∀ q:Bool,((bc b.s f.d).2=true->(bc b.s f.d).1.t=b.r->q=true)->(q=true->cE b f.d=true)->Ok (iL vv s [] b fs f rest (bc b.s f.d).2 (bc b.s f.d).1.w g (cU b.s g g) q) fun y=>Dj l V b0 b fs.length y/\SV l H y.1 y.2.1:=fun q hq1 hq2=>by
   unfold iL;refine aE (fun hq=>ai ⟨⟨lv0,htake,hrl,bT _,hs⟩,hsv'.pop hl hb hb (gU.refl _) hsv'.vi (hq2 hq)⟩) (fun hq=>aE (fun hh=>hj5t ?_) (fun hh=>?_))
   ·unfold sX;rw [show (bc b.s f.d).2=false by simpa using hh]; rfl
   ·have hh:(bc b.s f.d).2=true:=by simpa using hh
    cases hdd:(bc b.s f.d).1.w with
    | true =>
     refine hj5t ?_;unfold sX F8;rw [hdd]; simp
    | false =>
     refine hj5f ⟨hh,hdd,?_⟩;unfold cE;rw [hh,tF,decide_eq_false_iff_not];intro e;rw [hq1 hh e] at hq; cases hq
  refine aE (fun hh=>nov _ (fun _ e=>by simpa using e) fun e=>?_) (fun hh=>nov false (fun h=>by rw [hh] at h; cases h) fun e=>by cases e);unfold cE;rw [hh,tF,decide_eq_true_eq];simpa using e
end
end
section
set_option maxRecDepth 100000
set_option maxHeartbeats 4000000
variable (T:Nat->Prop) (L:World) (hT:TW T L)
include hT
noncomputable section
def qH (b:LR):=some (b)
def nC (b:Int) (c:LR):Option (Fl (LR×Int) (LR)):=some (.go (c,IntKind.i64.wrap (b+1)))
def nD (g:LR) (f:ae) (e:LR) (c:Int):=cond (decide (c<(g.length:Int))) ((bu g c).bind fun b=>cond (!(b.d.v==f.v&&b.d.x.toList==f.x.toList)) (gd (bP (e.length+([b]).length)) <| nC c (e++([b]))) (nC c e)) (some (.out e))
def qf (c:LR) (b:ae):=(loop (fun s:LR×Int=>nD c b s.1 s.2) (([]:List au),0)).bind fun r=>qH r
theorem y6 (f:LR) (e:ae) (t:Value) (M:aF aa T L t f) (y:LR) (B:qf f e=some y):bg aR No 144 [t,.agg (aX e).toArray] L (fun v w'=>∃ (G:Value) (rN:bI),v=G/\gG aa T L w' [aJ G rN] 33 G rN y):=by
 refine en Tryz.func144 Tryz.ntmps144 hT fun a I=>?_;replace I:=I.fS (aF.dn M);unfold qf at B;refine kB I fun h W a w O I=>?_;refine am I fun a I=>?_;refine aM (J:=fun a w=>∃ (n:LR) (k:Value) (j:LV),St L No T 24 [(5,k)] [aJ k j] [ap aa j n] a w/\qH n=some y) ?_ ?_
 ·refine am I fun a I=>?_;replace I:=I.zn aa 33 (by decide);obtain⟨r1,K,hMo1⟩:=bd B;refine bF _ (fun s a w=>∃ (g:LR) (c:Int) (p:Value) (l:LV),(g,c)=s/\St L No T 24 [(3,pt h 0),(5,p),(8,t),(9,aj (f.length:Int)),(10,aj c)] [aJ p l,.box h (aX e) 30] [ap aa l g,aL aa t f] a w) K ⟨_,_,_,_,rfl,I.mt [0,1] [0,1]⟩ ?_;rintro s a w H ⟨g,c,p,l,rfl,I⟩ B hf1;have B:nD f e g c=some H:=B;unfold nD at B;refine am I fun a I=>?_;refine aC ?_;rcases cd B with⟨A,B⟩|⟨A,B⟩
  ·refine am I fun a I=>?_;refine aM (J:=fun a w=>∃ (o:LR) (q:Value) (m:LV),St L No T 24 [(3,pt h 0),(5,q),(8,t),(9,aj (f.length:Int)),(10,aj c)] [aJ q m,.box h (aX e) 30] [ap aa m o,aL aa t f] a w/\nC c o=some H) ?_ ?_
   ·refine am I fun a I=>?_;obtain⟨b,u,B⟩:=bd B;refine wl rfl (bn (R:=aa) I mV j6 rfl rfl 1 rfl u rfl fun N Y S D a I=>?_);obtain⟨r,rfl,z⟩:=D;replace I:=I.fS z;refine kA I eJ fun P X a w O I=>?_;refine go I fun a w I=>?_;refine wl rfl (ky (v:=.bool (!(b.d.v==e.v&&b.d.x.toList==e.x.toList))) I (BD I rfl rfl) rfl rfl fun a I=>?_);refine am I fun a I=>?_;rcases cd B with⟨E,B⟩|⟨E,B⟩
    ·refine am I fun a I=>?_;refine wl rfl (bf (ps:=[(0,.tmp 19)]) I tN eJ (zl:=[aj 0,a8 cp,a8 cp,.slice none 0 0,aj 0,aj 0,aj 0,.bool false]) (by kernel_rfl) rfl (us:=[(bh b r)]) ⟨rfl,trivial⟩ (ws:=(bh b r)) rfl rfl rfl rfl fun Q a w O I=>?_);replace I:=(I.lit (R:=aa) (us:=(bh b r)) (xs:=[b]) 0 rfl (by decide) (aP (R:=aa) (x:=b) (⟨_,rfl,I.g0⟩)) rfl rfl).zf (R:=aa) 0 rfl 0 rfl;obtain⟨F,B⟩:=aW B;refine wl rfl (bG (R:=aa) (xs:=g) (ys:=[b]) I tN (by decide) (by decide) rfl rfl 1 rfl 4 rfl 0 rfl F rfl fun Z V a w O I=>?_);exact fz
    exact fz
   rintro a w ⟨o,q,m,I,B⟩;unfold nC at B;exact fz
  exact fz
 rintro a w ⟨n,k,j,I,B⟩;unfold qH at B;refine am I fun a I=>?_;cases B
 refine aG I rfl (aw I rfl aI) ?_;exact⟨k,j,rfl,I.zo ⟨.inr (aO (i:=0) rfl),trivial⟩ 0 rfl 0 rfl⟩
def rE (b:ah) (c:LR):=some ((ah.mk b.r b.i c))
def n9 (c:Int) (b:LR):Option (Fl (Int×LR) (LR)):=some (.go (IntKind.i64.wrap (c+1),b))
def oa (f:dX) (b:Int) (c:LR):=cond (decide (b<(f.o.length:Int))) ((bu f.o b).bind fun e=>(cO e.d).bind fun g=>cond g ((qf c e.d).bind fun h=>n9 b h) (n9 b c)) (some (.out c))
def px (d:dX):=(fg d.b).bind fun c=>(loop (fun s:Int×LR=>oa d s.1 s.2) (0,c.s)).bind fun r=>rE c r
theorem BZ (c:dX) (v1 v2:Value) (v3 v4:Value) (D v6:Value) (a3:aF an T L v1 c.l) (a4:aF ac T L v2 c.b.i) (a5:aF aa T L v3 c.b.s) (a9:aF ad T L v4 c.s1) (ab:aF aB T L D c.o) (af:aF ad T L v6 c.y) (y:ah) (B:px c=some y):bg aR No 89 [.agg (xi c v1 v2 v3 v4 D v6).toArray] L (fun v w'=>∃ (K:Value) (zD:bI) (M:Value) (sB:bI),v = .agg (aU y K M).toArray/\gG ac T L w' [be K zD,aJ M sB] 91 K zD y.i/\gG aa T L w' [be K zD,aJ M sB] 33 M sB y.s/\(∀ k,K.ownBlock=some k->M.ownBlock≠some k)):=by
 refine en Tryz.func89 Tryz.ntmps89 hT fun a I=>?_;replace I:=(((((I.fS (aF.dn a3)).fS (aF.dn a4)).fS (aF.dn a5)).fS (aF.dn a9)).fS (aF.dn ab)).fS (aF.dn af);unfold px at B;refine kB I fun b1 b7 a w O I=>?_;refine ka I mw fun h b8 a w O I=>?_;refine am I fun a I=>?_;obtain⟨f,P,B⟩:=bd B;refine kc I Bq (eA _ _ I.dlt c.b _ _ I.g4 I.g3 _ P) fun _ w C a O U=>?_;obtain⟨g,e,bt,b4,he,F,G,a1⟩:=C;obtain rfl:=he.symm;have I:=Ar U F G a1;refine ka I mw fun j b9 a w O I=>?_;refine go I fun a w I=>?_;refine aM (J:=fun a w=>∃ (r:LR) (q:Value) (p:LV),St L No T 27 [(2,pt h 0),(3,pt j 0)] [.box h [aj 0,.slice none 0 0,.slice none 0 0] 25,be g e,aJ q p,.box j (aU f g q) 25] [ap ac e f.i,ap aa p r] a w/\rE f r=some y) ?_ ?_
 ·refine am I fun a I=>?_;obtain⟨r1,a2,hMo1⟩:=bd B;refine bF _ (fun s a w=>∃ (m:Int) (n:LR) (z:Value) (u:LV),(m,n)=s/\St L No T 27 [(2,pt h 0),(3,pt j 0),(10,D),(11,aj (c.o.length:Int)),(12,aj m)] [.box h [aj 0,.slice none 0 0,.slice none 0 0] 25,be g e,aJ z u,.box j (aU f g z) 25] [aL aB D c.o,ap ac e f.i,ap aa u n] a w) a2 ⟨_,_,_,_,rfl,I.mt [3,1,2,0] [3,1,0]⟩ ?_;rintro s a w f1 ⟨m,n,z,u,rfl,I⟩ B hf1;have B:oa c m n=some f1:=B;unfold oa at B;refine am I fun a I=>?_;refine aC ?_;rcases cd B with⟨X,B⟩|⟨X,B⟩
  ·refine am I fun a I=>?_;refine aM (J:=fun a w=>∃ (t:LR) (A:Value) (x:LV),St L No T 27 [(2,pt h 0),(3,pt j 0),(10,D),(11,aj (c.o.length:Int)),(12,aj m)] [.box h [aj 0,.slice none 0 0,.slice none 0 0] 25,be g e,aJ A x,.box j (aU f g A) 25] [aL aB D c.o,ap ac e f.i,ap aa x t] a w/\n9 m t=some f1) ?_ ?_
   ·refine am I fun a I=>?_;obtain⟨E,N,B⟩:=bd B;refine wl rfl (bn (R:=aB) I wE wF rfl rfl 0 rfl N rfl fun b2 bi b5 Y a I=>?_);obtain⟨c1,c2,rfl,V,W⟩:=Y;replace I:=(I.fS V).fS W;refine kA I uS fun b3 bb a w O I=>?_;refine go I fun a w I=>?_;obtain⟨bl,Q,B⟩:=bd B;refine kF I uf (cY _ _ I.dlt E.d _ Q) fun w a I=>?_;rcases cd B with⟨Z,B⟩|⟨Z,B⟩
    ·refine am I fun a I=>?_;replace I:=I.zf (R:=aa) 3 rfl 5 rfl;obtain⟨bs,S,B⟩:=bd B;refine kc I Nn (y6 _ _ I.dlt n E.d _ I.g0 _ S) fun _ w C a O U=>?_;obtain⟨c3,b6,he,H⟩:=C;obtain rfl:=he.symm;have I:=qs U H;exact fz
    exact fz
   rintro a w ⟨t,A,x,I,B⟩;unfold n9 at B;exact fz
  exact fz
 rintro a w ⟨r,q,p,I,B⟩;unfold rE at B;refine go I fun a w I=>?_;cases B
 refine aG I rfl (rC 0 I) ?_;exact⟨g,e,q,p,rfl,I.zo ⟨.inr (aO (i:=1) rfl),⟨.inr (aO (i:=2) rfl),trivial⟩⟩ 1 rfl 0 rfl,I.zo ⟨.inr (aO (i:=1) rfl),⟨.inr (aO (i:=2) rfl),trivial⟩⟩ 2 rfl 1 rfl,(I.zp 1 rfl 2 rfl (by decide))⟩
def qh (b:au):=some (IntKind.i64.wrap ((IntKind.i64.wrap ((IntKind.i64.wrap (16+(b.d.x.size:Int)))+(b.u.size:Int)))+(IntKind.i64.wrap (8*(b.k.length:Int)))))
theorem vq (b:au) (d:Value) (c:aF ad T L d b.k) (y:Int) (B:qh b=some y):bg aR No 189 [.agg (bh b d).toArray] L (fun v w'=>v=aj y):=by
 refine en Tryz.func189 Tryz.ntmps189 hT fun a I=>?_;replace I:=I.fS (aF.dn c);unfold qh at B;refine kB I fun e f a w O I=>?_;exact fz
def pD (e f:au):=(qh e).bind fun b=>(qh f).bind fun c=>cond ((IntKind.i64.wrap (e.j*c):Int) != (IntKind.i64.wrap (f.j*b))) (some (decide ((IntKind.i64.wrap (e.j*c):Int)<(IntKind.i64.wrap (f.j*b))))) (cond (b != c) (some (decide (c<b))) ((jN e.d f.d).bind fun g=>some (decide (g<0))))
theorem B3 (hLv:dh T L) (b c:au) (m n:Value) (j:aF ad T L m b.k) (l:aF ad T L n c.k) (y:Bool) (B:pD b c=some y):bg aR No 188 [.agg (bh b m).toArray,.agg (bh c n).toArray] L (fun v w'=>v = .bool y):=by
 refine en Tryz.func188 Tryz.ntmps188 hT fun a I=>?_;replace I:=((I.fact bH (dh.dn hLv)).fS (aF.dn j)).fS (aF.dn l);unfold pD at B;refine kB I fun o q a w O I=>?_;refine kb I fun p r a w O I=>?_;refine am I fun a I=>?_;refine aC ?_;refine dr [] I fun w hQ I=>?_;refine gE [0,2] I fun a I=>?_;obtain⟨s,e,B⟩:=bd B;refine ec 1 I J9 (vq _ _ I.dlt b _ I.g1 _ e) fun _ w C a O U=>?_;obtain rfl:=C;have I:=eL U;obtain⟨t,f,B⟩:=bd B;refine ec 3 I J9 (vq _ _ I.dlt c _ I.g0 _ f) fun _ w C a O U=>?_;obtain rfl:=C;have I:=eL U;refine gE [4,5] I fun a I=>?_;refine eD ?_;refine am I fun a I=>?_;refine aC ?_;refine am I fun a I=>?_;rcases cd B with⟨h,B⟩|⟨h,B⟩
 ·exact fz
 refine am I fun a I=>?_;rcases cd B with⟨i,B⟩|⟨i,B⟩
 ·exact fz
 refine am I fun a I=>?_;obtain⟨u,g,B⟩:=bd B;refine kE I Hf (lQ _ _ I.dlt I.g2 b.d c.d _ g) fun w a I=>?_;exact fz
def s8 (b:LR):=some (b)
def pE (b:Int) (c:LR):Option (Fl (LR×Int) (LR)):=some (.go (c,IntKind.i64.wrap (b+1)))
def pF (d:LR) (g:Int) (c:au) (e:Int):=(pU d 0 e).bind fun b=>(pU d e d.length).bind fun f=>gd (bP (([]:List au).length+b.length)) <| gd (bP ((([]:List au)++b).length+([c]).length)) <| gd (bP (((([]:List au)++b)++([c])).length+f.length)) <| pE g (((([]:List au)++b)++([c]))++f)
def pG (c:LR) (d:au) (b:Int):Option (Fl (Int) (Int)):=cond (decide (b<(c.length:Int))) ((bu c b).bind fun e=>(pD e d).bind fun f=>cond f (some (.go (IntKind.i64.wrap (b+1)))) (some (.out b))) (some (.out b))
def pH (e c:LR) (b:Int):=cond (decide (b<(e.length:Int))) ((bu e b).bind fun d=>(loop (fun s:Int=>pG c d s) 0).bind fun r=>pF c b d r) (some (.out c))
def rp (b:LR):=(loop (fun s:LR×Int=>pH b s.1 s.2) (([]:List au),0)).bind fun r=>s8 r
theorem Dc (hLv:dh T L) (e:LR) (o:Value) (b9:aF aa T L o e) (y:LR) (B:rp e=some y):bg aR No 145 [o] L (fun v w'=>∃ (v2:Value) (rN:bI),v=v2/\gG aa T L w' [aJ v2 rN] 33 v2 rN y):=by
 refine en Tryz.func145 Tryz.ntmps145 hT fun a I=>?_;replace I:=(I.fact bH (dh.dn hLv)).fS (aF.dn b9);unfold rp at B;refine am I fun a I=>?_;refine aM (J:=fun a w=>∃ (G:LR) (u:Value) (q:LV),St L No T 40 [(3,u)] [aJ u q] [ap aa q G,bH] a w/\s8 G=some y) ?_ ?_
 ·refine am I fun a I=>?_;replace I:=I.zn aa 33 (by decide);obtain⟨r1,b7,hMo1⟩:=bd B;refine bF _ (fun s a w=>∃ (f:LR) (d:Int) (m:Value) (g:LV),(f,d)=s/\St L No T 40 [(3,m),(7,o),(8,aj (e.length:Int)),(9,aj d)] [aJ m g] [ap aa g f,aL aa o e,bH] a w) b7 ⟨_,_,_,_,rfl,I.mt [0] [0,1,2]⟩ ?_;rintro s a w f1 ⟨f,d,m,g,rfl,I⟩ B hf1;have B:pH e f d=some f1:=B;unfold pH at B;refine am I fun a I=>?_;refine aC ?_;rcases cd B with⟨a9,B⟩|⟨a9,B⟩
  ·refine am I fun a I=>?_;refine aM (J:=fun a w=>∃ (H:LR) (K:Value) (z:LV),St L No T 40 [(3,K),(7,o),(8,aj (e.length:Int)),(9,aj d)] [aJ K z] [ap aa z H,aL aa o e,bH] a w/\pE d H=some f1) ?_ ?_
   ·refine am I fun a I=>?_;obtain⟨b,V,B⟩:=bd B;refine wl rfl (bn (R:=aa) I mV j6 rfl rfl 1 rfl V rfl fun bb c5 bs ab a I=>?_);obtain⟨c,rfl,a0⟩:=ab;replace I:=I.fS a0;refine kA I eJ fun p c4 a w O I=>?_;refine go I fun a w I=>?_;refine aM (J:=fun a w=>∃ (F:Int),St L No T 40 [(3,m),(5,pt p 0),(6,aj F),(7,o),(8,aj (e.length:Int)),(9,aj d)] [aJ m g,.box p (bh b c) 33] [ap aa g f,aL aa o e,aL ad c b.k,bH] a w/\pF f d b F=some f1) ?_ ?_
    ·refine am I fun a I=>?_;obtain⟨r2,b8,hMo2⟩:=bd B;refine bF _ (fun s a w=>∃ (t:Int),t=s/\St L No T 40 [(3,m),(5,pt p 0),(6,aj t),(7,o),(8,aj (e.length:Int)),(9,aj d)] [aJ m g,.box p (bh b c) 33] [ap aa g f,aL aa o e,aL ad c b.k,bH] a w) b8 ⟨_,rfl,I.mt [1,0] [2,3,0,4]⟩ ?_;rintro s a w f2 ⟨t,rfl,I⟩ B hf2;have B:pG f b t=some f2:=B;unfold pG at B;refine aC ?_;refine aC ?_;refine dr [] I fun w hQ I=>?_;refine gE [0,1,2,3,4] I fun a I=>?_;rcases cd B with⟨r,B⟩|⟨r,B⟩
     ·refine gE [5,6] I fun a I=>?_;obtain⟨A,W,B⟩:=bd B;obtain⟨a2,b1,c9,bt,af,ag,ak,ao⟩:=kL (R:=aa) I mV j6 0 rfl 0 rfl W;obtain⟨S,rfl,a1⟩:=af;replace I:=I.fS a1;refine dg 7 I r (v:=pt a2 b1) (ao rfl rfl) fun a I=>?_;refine dg 8 I r (l:=[]) (v:=.agg (bh A S).toArray) (cg (k:=0) I j6 0 rfl ag ak rfl bO (us:=(bh A S)) rfl rfl (fun h=>by cases h)) fun a I=>?_;refine gE [9] I fun a I=>?_;obtain⟨ca,Z,B⟩:=bd B;refine cR (i:=10) rfl (by kernel_rfl) I rfl rfl rfl r (bB I Qg rfl rfl (B3 _ _ I.dlt I.g4 A b _ _ I.g0 I.g3 _ Z) fun _ w C a O U=>⟨fq (O),?_⟩);obtain rfl:=C;have I:=eL U;refine gE [11] I fun a I=>?_;refine eD ?_;exact fz
     refine gE [5,6,7,8,9,10,11] I fun a I=>?_;refine eD ?_;exact fz
    rintro a w ⟨F,I,B⟩;unfold pF at B;replace I:=I.zn aa 33 (by decide);refine dr [(3,.blk (Value.ownBlock (.slice none 0 0))),(6,.any),(10,.any)] I fun w hQ I=>?_;refine gE [0,1] I fun a I=>?_;obtain⟨n,X,B⟩:=bd B;obtain⟨b2,M,av⟩:=wc (R:=aa) I mV j6 1 rfl 1 rfl X;refine dq 2 I (v:=b2) (av (k1:=.i64) rfl (.inr ⟨rfl,rfl⟩) (.inl ⟨_,rfl,rfl⟩)) fun a I=>?_;refine dq 4 I (l:=[.blk (Value.ownBlock (.slice none 0 0))]) (v:=.agg (bh b c).toArray) (dm I rfl j6 2 rfl (gA I 2 rfl rfl 0 rfl rfl (by decide) bO) (us:=(bh b c)) rfl rfl (fun h=>by cases h)) fun a I=>?_;refine gE [7,8] I fun a I=>?_;obtain⟨Q,Y,B⟩:=bd B;obtain⟨b3,N,b0⟩:=wc (R:=aa) I mV j6 1 rfl 1 rfl Y;refine dq 9 I (v:=b3) (b0 (k2:=.i64) rfl (.inl ⟨_,rfl,rfl⟩) (.inr ⟨rfl,rfl⟩)) fun a I=>?_;obtain⟨P,B⟩:=aW B;refine dQ (i:=3) (j:=5) rfl rfl (by kernel_rfl) rfl rfl ?_ ?_
    ·skip;replace I:=I.zf (R:=aa) 1 rfl 1 rfl;replace I:=I.fS (M _ _ I.g0);refine id (bG (R:=aa) (xs:=([]:List au)) (ys:=n) I tN (by decide) (by decide) rfl rfl 0 rfl 2 rfl 0 rfl P rfl fun cb c1 a w O I=>⟨jf rfl O kO,?_⟩);refine e1 5 (bf (ps:=[(0,.tmp 31)]) I tN eJ (zl:=[aj 0,a8 cp,a8 cp,.slice none 0 0,aj 0,aj 0,aj 0,.bool false]) (by kernel_rfl) rfl (us:=[(bh b c)]) ⟨rfl,trivial⟩ (ws:=(bh b c)) rfl rfl rfl rfl fun bi a w O I=>⟨fq (O),?_⟩);replace I:=(I.lit (R:=aa) (us:=(bh b c)) (xs:=[b]) 0 rfl (by decide) (aP (R:=aa) (x:=b) (⟨_,rfl,I.g6⟩)) rfl rfl).zf (R:=aa) 0 rfl 0 rfl;obtain⟨D,B⟩:=aW B;refine e1 6 (bG (R:=aa) (xs:=(([]:List au)++n)) (ys:=[b]) I tN (by decide) (by decide) rfl rfl 0 rfl 2 rfl 0 rfl D rfl fun b4 a3 a w O I=>⟨jf rfl O qS,?_⟩);replace I:=I.fS (N _ _ I.g5);obtain⟨E,B⟩:=aW B;refine e1 10 (bG (R:=aa) (xs:=((([]:List au)++n)++([b]))) (ys:=Q) I tN (by decide) (by decide) rfl rfl 0 rfl 1 rfl 0 rfl E rfl fun b5 a4 a w O I=>⟨jf rfl O qS,?_⟩);refine gE [11] I fun a I=>?_;refine eD ?_;exact fin
    skip;refine id (bf (ps:=[(0,.tmp 31)]) I tN eJ (zl:=[aj 0,a8 cp,a8 cp,.slice none 0 0,aj 0,aj 0,aj 0,.bool false]) (by kernel_rfl) rfl (us:=[(bh b c)]) ⟨rfl,trivial⟩ (ws:=(bh b c)) rfl rfl rfl rfl fun bl a w O I=>⟨fq (O),?_⟩);replace I:=I.zf (R:=aa) 2 rfl 1 rfl;replace I:=I.fS (M _ _ I.g0);refine e1 3 (bG (R:=aa) (xs:=([]:List au)) (ys:=n) I tN (by decide) (by decide) rfl rfl 1 rfl 2 rfl 0 rfl P rfl fun ch c2 a w O I=>⟨jf rfl O kO,?_⟩);replace I:=(I.lit (R:=aa) (us:=(bh b c)) (xs:=[b]) 0 rfl (by decide) (aP (R:=aa) (x:=b) (⟨_,rfl,I.g6⟩)) rfl rfl).zf (R:=aa) 0 rfl 0 rfl;obtain⟨D,B⟩:=aW B;refine e1 6 (bG (R:=aa) (xs:=(([]:List au)++n)) (ys:=[b]) I tN (by decide) (by decide) rfl rfl 0 rfl 2 rfl 0 rfl D rfl fun b4 a3 a w O I=>⟨jf rfl O qS,?_⟩);replace I:=I.fS (N _ _ I.g5);obtain⟨E,B⟩:=aW B;refine e1 10 (bG (R:=aa) (xs:=((([]:List au)++n)++([b]))) (ys:=Q) I tN (by decide) (by decide) rfl rfl 0 rfl 1 rfl 0 rfl E rfl fun b5 a4 a w O I=>⟨jf rfl O qS,?_⟩);refine gE [11] I fun a I=>?_;refine eD ?_;exact fin
   rintro a w ⟨H,K,z,I,B⟩;unfold pE at B;exact fz
  exact fz
 rintro a w ⟨G,u,q,I,B⟩;unfold s8 at B;refine am I fun a I=>?_;cases B
 refine aG I rfl (aw I rfl aI) ?_;exact⟨u,q,rfl,I.zo ⟨.inr (aO (i:=0) rfl),trivial⟩ 0 rfl 0 rfl⟩
def s7 (b:Int):=some (b)
def pC (d:LR) (c b:Int):Option (Fl (Int×Int) (Int)):=cond (decide (b<(d.length:Int))) ((bu d b).bind fun e=>(qh e).bind fun f=>some (.go (IntKind.i64.wrap (c+f),IntKind.i64.wrap (b+1)))) (some (.out c))
def ro (b:LR):=(loop (fun s:Int×Int=>pC b s.1 s.2) (0,0)).bind fun r=>s7 r
theorem Db (d:LR) (i:Value) (n:aF aa T L i d) (y:Int) (B:ro d=some y):bg aR No 146 [i] L (fun v w'=>v=aj y):=by
 refine en Tryz.func146 Tryz.ntmps146 hT fun a I=>?_;replace I:=I.fS (aF.dn n);unfold ro at B;refine am I fun a I=>?_;refine aM (J:=fun a w=>∃ (e:Int),St L No T 18 [(3,aj e)] [] [] a w/\s7 e=some y) ?_ ?_
 ·refine am I fun a I=>?_;obtain⟨A,m,hMo1⟩:=bd B;refine bF _ (fun s a w=>∃ (c b:Int),(c,b)=s/\St L No T 18 [(3,aj c),(6,i),(7,aj (d.length:Int)),(8,aj b)] [] [aL aa i d] a w) m ⟨_,_,rfl,I.mt [] [0]⟩ ?_;rintro s a w r ⟨c,b,rfl,I⟩ B hf1;have B:pC d c b=some r:=B;unfold pC at B;refine am I fun a I=>?_;refine aC ?_;rcases cd B with⟨k,B⟩|⟨k,B⟩
  ·refine am I fun a I=>?_;refine aC ?_;refine am I fun a I=>?_;obtain⟨j,f,B⟩:=bd B;refine wl rfl (bn (R:=aa) I mV j6 rfl rfl 0 rfl f rfl fun o u q l a I=>?_);obtain⟨z,rfl,h⟩:=l;replace I:=I.fS h;refine kA I eJ fun p t a w O I=>?_;refine go I fun a w I=>?_;obtain⟨x,g,B⟩:=bd B;refine kE I J9 (vq _ _ I.dlt j _ I.g0 _ g) fun w a I=>?_;exact fz
  exact fz
 rintro a w ⟨e,I,B⟩;unfold s7 at B;exact fz
def pA (b:ah) (c:LK) (d:LR):Option (ah×LK×Int):=some (((ah.mk b.r b.i d),c,0))
def mf (b:Int) (c:LK) (d:LR):Option (Fl (LK×Int×LR) (LK×LR)):=some (.go (c,IntKind.i64.wrap (b+1),d))
def jX (c:LK) (e:Int) (f:LR) (b:au) (g:Bool):=cond g ((qf f b.d).bind fun h=>gd (bP (c.length+([b.d]).length)) <| mf e (c++([b.d])) h) (mf e c f)
def pB (g:Int) (i:LK) (h:LR) (f:LK) (b:Int) (c:LR):=cond (decide (b<(h.length:Int))) ((bu h b).bind fun e=>(ro c).bind fun j=>cond (decide (g<j)) ((jO i e.d).bind fun k=>jX f b c e (!(k))) (jX f b c e false)) (some (.out (f,c)))
def rj (c:ah) (b:Int) (e:LK):=(iZ c).bind fun g=>cond (!(g)) (some (((ah.mk 0 ([]:List a7) ([]:List au)),([]:List ae),42))) (cond (decide (b<0)) (some (((ah.mk 0 ([]:List a7) ([]:List au)),([]:List ae),2))) (cond (decide ((1073741824:Int)<b)) (some (((ah.mk 0 ([]:List a7) ([]:List au)),([]:List ae),2))) ((fg c).bind fun d=>(rp c.s).bind fun f=>(loop (fun s:LK×Int×LR=>pB b e f s.1 s.2.1 s.2.2) (([]:List ae),0,d.s)).bind fun r=>pA d r.1 r.2)))
theorem Da (z:ah) (e:Int) (j:LK) (v1 v2 N:Value) (hD:xH T L []) (c4:aF ac (dT T []) L v1 z.i) (c5:aF aa (dT T []) L v2 z.s) (c9:aF ad (dT T []) L N j) (hLv:dh (dT T []) L) (y:ah×LK×Int) (B:rj z e j=some y):bg aR (MD []) 90 [.agg (aU z v1 v2).toArray,aj e,N] L (fun v w'=>∃ (v4:Value) (Ei:bI) (v6:Value) (Bb:bI) (v8:Value) (JM:bI),v = .tuple #[.agg (aU y.1 v4 v6).toArray,v8,aj y.2.2]/\bk ac (dT T [be v4 Ei,aJ v6 Bb,aA v8 JM]) w' Ei y.1.i/\bk aa (dT T [be v4 Ei,aJ v6 Bb,aA v8 JM]) w' Bb y.1.s/\bk ad (dT T [be v4 Ei,aJ v6 Bb,aA v8 JM]) w' JM y.2.1/\mx L w' [] [be v4 Ei,aJ v6 Bb,aA v8 JM]):=by
 refine fT (c:=_) Tryz.func90 rfl T 62 Tryz.ntmps90 hT rfl hD fun a I=>?_;replace I:=(((I.fact bH hLv).fS c4).fS c5).fS c9;unfold rj at B;refine kB I fun ch d2 a w O I=>?_;refine ka I mw fun n d3 a w O I=>?_;refine am I fun a I=>?_;refine aC ?_;refine am I fun a I=>?_;obtain⟨dk,b4,B⟩:=bd B;refine kF I Ke (nF _ _ I.dlt I.g3 z _ _ I.g2 I.g1 _ b4) fun w a I=>?_;rcases cd B with⟨b7,B⟩|⟨b7,B⟩
 ·refine am I fun a I=>?_;refine qy I (bw (ps:=[]) I C3 mw rfl (us:=[]) trivial (ws:=[aj 0,.slice none 0 0,.slice none 0 0]) rfl) fun a I=>?_;refine go I fun a w I=>?_;replace I:=((I.zn ac 91 (by decide)).zn aa 33 (by decide)).zn ad 30 (by decide);cases B
  refine aG I Tryz.results90 (bC I rfl 3 rfl f9 rfl (fun h=>by cases h) (aw I rfl (aw I rfl aI))) ?_;have hZ:=I.sl [2,1,0] [2,1,0];exact⟨(.slice none 0 0),[],(.slice none 0 0),[],(.slice none 0 0),[],rfl,hZ.g0,hZ.g1,hZ.g2,hZ.zd⟩
 refine am I fun a I=>?_;refine io ?_;refine am I fun a I=>?_;rcases cd B with⟨b8,B⟩|⟨b8,B⟩
 ·refine am I fun a I=>?_;refine qy I (bw (ps:=[]) I C3 mw rfl (us:=[]) trivial (ws:=[aj 0,.slice none 0 0,.slice none 0 0]) rfl) fun a I=>?_;refine go I fun a w I=>?_;replace I:=((I.zn ac 91 (by decide)).zn aa 33 (by decide)).zn ad 30 (by decide);cases B
  refine aG I Tryz.results90 (bC I rfl 3 rfl f9 rfl (fun h=>by cases h) (aw I rfl (aw I rfl aI))) ?_;have hZ:=I.sl [2,1,0] [2,1,0];exact⟨(.slice none 0 0),[],(.slice none 0 0),[],(.slice none 0 0),[],rfl,hZ.g0,hZ.g1,hZ.g2,hZ.zd⟩
 refine am I fun a I=>?_;rcases cd B with⟨b9,B⟩|⟨b9,B⟩
 ·refine am I fun a I=>?_;refine qy I (bw (ps:=[]) I C3 mw rfl (us:=[]) trivial (ws:=[aj 0,.slice none 0 0,.slice none 0 0]) rfl) fun a I=>?_;refine go I fun a w I=>?_;replace I:=((I.zn ac 91 (by decide)).zn aa 33 (by decide)).zn ad 30 (by decide);cases B
  refine aG I Tryz.results90 (bC I rfl 3 rfl f9 rfl (fun h=>by cases h) (aw I rfl (aw I rfl aI))) ?_;have hZ:=I.sl [2,1,0] [2,1,0];exact⟨(.slice none 0 0),[],(.slice none 0 0),[],(.slice none 0 0),[],rfl,hZ.g0,hZ.g1,hZ.g2,hZ.zd⟩
 refine am I fun a I=>?_;obtain⟨f,av,B⟩:=bd B;refine kc I Bq (eA _ _ I.dlt z _ _ I.g2 I.g1 _ av) fun _ w C a O U=>?_;obtain⟨m,g,dl,cs,he,a4,a5,c2⟩:=C;obtain rfl:=he.symm;have I:=Ar U a4 a5 c2;refine ka I mw fun o d4 a w O I=>?_;refine go I fun a w I=>?_;refine aM (J:=fun a w=>∃ (S:LK) (X:LR) (K:Value) (G:LV) (M:Value) (H:LV),St L (MD []) T 62 [(6,pt n 0),(9,pt o 0),(10,K)] [aA K G,.box n [aj 0,.slice none 0 0,.slice none 0 0] 25,be m g,aJ M H,.box o (aU f m M) 25] [ap ad G S,ap ac g f.i,ap aa H X,bH] a w/\pA f S X=some y) ?_ ?_
 ·refine am I fun a I=>?_;obtain⟨r,b1,B⟩:=bd B;refine kc I PO (Dc _ _ I.dlt I.g5 z.s _ I.g3 _ b1) fun _ w C a O U=>?_;obtain⟨u,t,he,a9⟩:=C;obtain rfl:=he.symm;have I:=qs U a9;refine am I fun a I=>?_;replace I:=I.zn ad 30 (by decide);obtain⟨r1,c3,hMo1⟩:=bd B;refine bF _ (fun s a w=>∃ (q:LK) (p:Int) (l:LR) (E:Value) (A:LV) (F:Value) (D:LV),(q,p,l)=s/\St L (MD []) T 62 [(1,aj e),(2,N),(6,pt n 0),(9,pt o 0),(10,E),(30,u),(31,aj (r.length:Int)),(32,aj p)] [aA E A,aJ u t,.box n [aj 0,.slice none 0 0,.slice none 0 0] 25,be m g,aJ F D,.box o (aU f m F) 25] [aL ad N j,ap ad A q,ap aa t r,ap ac g f.i,ap aa D l,bH] a w) c3 ⟨_,_,_,_,_,_,_,rfl,I.mt [0,1,5,3,4,2] [4,0,1,3,2,7]⟩ ?_;rintro s a w f1 ⟨q,p,l,E,A,F,D,rfl,I⟩ B hf1;have B:pB e j r q p l=some f1:=B;unfold pB at B;refine am I fun a I=>?_;refine aC ?_;rcases cd B with⟨bb,B⟩|⟨bb,B⟩
  ·refine am I fun a I=>?_;refine aM (J:=fun a w=>∃ (V:LK) (Y:LR) (Z:Value) (P:LV) (a0:Value) (Q:LV),St L (MD []) T 62 [(1,aj e),(2,N),(6,pt n 0),(9,pt o 0),(10,Z),(30,u),(31,aj (r.length:Int)),(32,aj p)] [aA Z P,aJ u t,.box n [aj 0,.slice none 0 0,.slice none 0 0] 25,be m g,aJ a0 Q,.box o (aU f m a0) 25] [aL ad N j,ap ad P V,ap aa t r,ap ac g f.i,ap aa Q Y,bH] a w/\mf p V Y=some f1) ?_ ?_
   ·refine am I fun a I=>?_;obtain⟨b,ao,B⟩:=bd B;refine wl rfl (dx (R:=aa) I mV j6 rfl rfl 1 rfl 2 rfl ao rfl fun ck d6 d7 cv bi bl bs a I=>?_);obtain⟨a1,rfl,b5⟩:=bi;replace I:=I.fS b5;refine qy I (cg (k:=0) I j6 1 rfl bl bs rfl id (us:=(bh b a1)) rfl rfl (fun h=>by cases h)) fun a I=>?_;refine ka I eJ fun a2 d5 a w O I=>?_;refine go I fun a w I=>?_;refine aM (J:=fun a w=>∃ (W:Bool),St L (MD []) T 62 [(1,aj e),(2,N),(6,pt n 0),(9,pt o 0),(10,E),(12,pt a2 0),(30,u),(31,aj (r.length:Int)),(32,aj p),(47,.bool W)] [aA E A,aJ u t,.box n [aj 0,.slice none 0 0,.slice none 0 0] 25,be m g,aJ F D,.box o (aU f m F) 25,.box a2 (bh b a1) 33] [aL ad N j,ap ad A q,ap aa t r,ap ac g f.i,ap aa D l,aL ad a1 b.k,bH] a w/\jX q p l b W=some f1) ?_ ?_
    ·refine am I fun a I=>?_;have hL:=I;replace hL:=hL.zf (R:=aa) 5 rfl 5 rfl;obtain⟨d9,b2,B⟩:=bd B;refine kF I PP (Db _ _ hL.dlt l _ hL.g0 _ b2) fun w a I=>?_;rcases cd B with⟨a3,B⟩|⟨a3,B⟩
     ·refine am I fun a I=>?_;obtain⟨dc,b3,B⟩:=bd B;refine wg I rfl rfl rfl a3 (bB I Kg rfl rfl (qX _ _ I.dlt j b.d _ I.g1 _ b3) fun _ w C a O U=>?_);obtain rfl:=C;have I:=eL U;exact fz
     exact fz
    rintro a w ⟨W,I,B⟩;unfold jX at B;rcases cd B with⟨bt,B⟩|⟨bt,B⟩
    ·refine am I fun a I=>?_;replace I:=I.zf (R:=aa) 4 rfl 4 rfl;obtain⟨d8,b0,B⟩:=bd B;refine kc I Nn (y6 _ _ I.dlt l b.d _ I.g0 _ b0) fun _ w C a O U=>?_;obtain⟨dn,d0,he,ab⟩:=C;obtain rfl:=he.symm;have I:=qs U ab;refine go I fun a w I=>?_;refine wl rfl (bf (ps:=[(0,.tmp 56)]) I iA fH (zl:=[aj 0,a8 cp]) (by kernel_rfl) rfl (us:=[(aX b.d)]) ⟨rfl,trivial⟩ (ws:=(aX b.d)) rfl rfl rfl rfl fun cl a w O I=>?_);replace I:=(I.lit (R:=ad) (us:=(aX b.d)) (xs:=[b.d]) 0 rfl (by decide) (aP (R:=ad) (x:=b.d) rfl) rfl rfl).zf (R:=ad) 0 rfl 0 rfl;obtain⟨c1,B⟩:=aW B;refine wl rfl (bG (R:=ad) (xs:=q) (ys:=[b.d]) I iA (by decide) (by decide) rfl rfl 1 rfl 5 rfl 0 rfl c1 rfl fun ds d1 a w O I=>?_);exact fz
    refine am I fun a I=>?_;exact⟨_,_,_,_,_,_,I.mt [0,1,2,3,4,5] [0,1,2,3,4,6],B⟩
   rintro a w ⟨V,Y,Z,P,a0,Q,I,B⟩;unfold mf at B;refine am I fun a I=>?_;exact⟨_,(bM B).symm,_,_,_,_,_,_,_,rfl,I.mt [0,1,2,3,4,5] [0,1,2,3,4,5]⟩
  refine am I fun a I=>?_;cases B
  have hr:=hf1 _ rfl;subst hr;have B:pA f q l=some y:=hMo1;exact⟨_,_,_,_,_,_,I.mt [0,2,3,4,5] [1,3,4,5],B⟩
 rintro a w ⟨S,X,K,G,M,H,I,B⟩;unfold pA at B;refine go I fun a w I=>?_;cases B
 refine aG I Tryz.results90 (bC I rfl 1 rfl f9 rfl (fun h=>by cases h) (aw I rfl (aw I rfl aI))) ?_;have hZ:=I.sl [2,3,0] [1,2,0];exact⟨m,g,M,H,K,G,rfl,hZ.g0,hZ.g1,hZ.g2,hZ.zd⟩
end
end
end Go.Proofs.YtcpplgcgcbihoaaGreatDoor
