/- Texts of the proof, joined (5). -/
import Derived.Test.YtmfcloapbgfhaaaGreatDoorA1
import Derived.Test.YtmfcloapbgfhaaaGreatDoorA2
import Derived.Test.YtmfcloapbgfhaaaGreatDoorA3
import Derived.Test.YtmfcloapbgfhaaaGreatDoorA4
set_option linter.unusedVariables false
set_option linter.unusedSimpArgs false
set_option linter.unusedSectionVars false
namespace Go.Proofs.YtmfcloapbgfhaaaGreatDoor
section
set_option maxRecDepth 100000
set_option maxHeartbeats 4000000
open Go.RowKit
noncomputable section
def dV (c:aF) (b:Bool):Option (Bool×aF):=some ((b,c))
def fT (b:aF) (c:Bool) (e:Int) (f:ByteArray) (g:ByteArray) (h:LK) (i:Int) (d:Int) (j:Int) (k:Bool):Option (Bool×aF):=cond c (dV b ((d:Int) == b.B.Revision)) (dV b false)
def ci (c:aF) (e:ae) (d:Bool):Option (Bool×aF):=cond d (some ((true,c))) ((cn c.B.Records e).bind fun b=>fT c b.2 b.1.Key.Kind b.1.Key.Text b.1.Value b.1.Reads b.1.Changed b.1.Verified b.1.Cost b.1.Dirty)
def fH (c:aF) (b:ae):Option (Bool×aF):=(ce b).bind fun d=>cond d (ci c b true) ((some ((bQ aC b c.Busy).getD false)).bind fun e=>cond e ((bX b).bind fun f=>ci c b f) (ci c b false))
theorem rF (T:Nat→Prop) (W0:World) (hT:TW T W0) (b:aF) (U:ae) (e:Nat) (g:Nat) (z:Value) (A:Value) (C:Value) (h:Nat) (r:Array MapEntry) (u:Nat) (k:Nat) (n:Array MapEntry) (p:Nat) (s:Value) (t:Value) (d:Nat) (o:Array MapEntry) (q:Nat) (f:Value) (m:List Value) (hD:vd T W0 [xE e g b.B.Revision s t d f b.E,xS g z b.S.Base.Revision A C h k,om h r u,om k n p,om d o q,au f m]) (cl:aA ay (dT T [xE e g b.B.Revision s t d f b.E,xS g z b.S.Base.Revision A C h k,om h r u,om k n p,om d o q,au f m]) W0 z b.S.Rules) (co:aA ad (dT T [xE e g b.B.Revision s t d f b.E,xS g z b.S.Base.Revision A C h k,om h r u,om k n p,om d o q,au f m]) W0 A b.S.Base.Inputs) (cs:aA aa (dT T [xE e g b.B.Revision s t d f b.E,xS g z b.S.Base.Revision A C h k,om h r u,om k n p,om d o q,au f m]) W0 C b.S.Base.Records) (bi:bx ac true aN.str false (dT T [xE e g b.B.Revision s t d f b.E,xS g z b.S.Base.Revision A C h k,om h r u,om k n p,om d o q,au f m]) W0 r b.S.Memo) (ck:bx ac true (aN.slice ac) false (dT T [xE e g b.B.Revision s t d f b.E,xS g z b.S.Base.Revision A C h k,om h r u,om k n p,om d o q,au f m]) W0 n b.S.Seen) (c9:aA ad (dT T [xE e g b.B.Revision s t d f b.E,xS g z b.S.Base.Revision A C h k,om h r u,om k n p,om d o q,au f m]) W0 s b.B.Inputs) (ca:aA aa (dT T [xE e g b.B.Revision s t d f b.E,xS g z b.S.Base.Revision A C h k,om h r u,om k n p,om d o q,au f m]) W0 t b.B.Records) (c5:bx ac true aN.bool false (dT T [xE e g b.B.Revision s t d f b.E,xS g z b.S.Base.Revision A C h k,om h r u,om k n p,om d o q,au f m]) W0 o b.Busy) (cb:aB ac (dT T [xE e g b.B.Revision s t d f b.E,xS g z b.S.Base.Revision A C h k,om h r u,om k n p,om d o q,au f m]) W0 m b.Ran) (y:Bool×aF) (hM:fH b U=some y):aW Tryz.prog (MD [xE e g b.B.Revision s t d f b.E,xS g z b.S.Base.Revision A C h k,om h r u,om k n p,om d o q,au f m]) 159 [pt e 0,.agg (aM U).toArray] W0 (fun v w'=>∃ (M:Value) (O:Value) (P:Value) (F:Array MapEntry) (I:Nat) (G:Array MapEntry) (K:Nat) (Q:Value) (R:Value) (H:Array MapEntry) (L:Nat) (x:Value) (D:List Value),v = .bool y.1∧n7 W0 w' [xE e g b.B.Revision s t d f b.E,xS g z b.S.Base.Revision A C h k,om h r u,om k n p,om d o q,au f m] [xE e g y.2.B.Revision Q R d x y.2.E,xS g M y.2.S.Base.Revision O P h k,om h F I,om k G K,om d H L,au x D]∧aA ay (dT T [xE e g y.2.B.Revision Q R d x y.2.E,xS g M y.2.S.Base.Revision O P h k,om h F I,om k G K,om d H L,au x D]) w' M y.2.S.Rules∧aA ad (dT T [xE e g y.2.B.Revision Q R d x y.2.E,xS g M y.2.S.Base.Revision O P h k,om h F I,om k G K,om d H L,au x D]) w' O y.2.S.Base.Inputs∧aA aa (dT T [xE e g y.2.B.Revision Q R d x y.2.E,xS g M y.2.S.Base.Revision O P h k,om h F I,om k G K,om d H L,au x D]) w' P y.2.S.Base.Records∧bx ac true aN.str false (dT T [xE e g y.2.B.Revision Q R d x y.2.E,xS g M y.2.S.Base.Revision O P h k,om h F I,om k G K,om d H L,au x D]) w' F y.2.S.Memo∧bx ac true (aN.slice ac) false (dT T [xE e g y.2.B.Revision Q R d x y.2.E,xS g M y.2.S.Base.Revision O P h k,om h F I,om k G K,om d H L,au x D]) w' G y.2.S.Seen∧aA ad (dT T [xE e g y.2.B.Revision Q R d x y.2.E,xS g M y.2.S.Base.Revision O P h k,om h F I,om k G K,om d H L,au x D]) w' Q y.2.B.Inputs∧aA aa (dT T [xE e g y.2.B.Revision Q R d x y.2.E,xS g M y.2.S.Base.Revision O P h k,om h F I,om k G K,om d H L,au x D]) w' R y.2.B.Records∧bx ac true aN.bool false (dT T [xE e g y.2.B.Revision Q R d x y.2.E,xS g M y.2.S.Base.Revision O P h k,om h F I,om k G K,om d H L,au x D]) w' H y.2.Busy∧aB ac (dT T [xE e g y.2.B.Revision Q R d x y.2.E,xS g M y.2.S.Base.Revision O P h k,om h F I,om k G K,om d H L,au x D]) w' D y.2.Ran):=by
 refine jp (c:=_) Tryz.func159 rfl T 42 Tryz.ntmps159 hT rfl hD fun a hS=>?_;replace hS:=((((((((hS.fS cl).fS co).fS cs).fM bi).fM ck).fS c9).fS ca).fM c5).fR cb;unfold fH at hM;refine ah hS fun a hS=>?_;refine kb hS fun ak d2 a w hk hS=>?_;refine ah hS fun a hS=>?_;refine az ?_;refine aG (J:=fun a w=>∃ (Y:Bool),St W0 (MD [xE e g b.B.Revision s t d f b.E,xS g z b.S.Base.Revision A C h k,om h r u,om k n p,om d o q,au f m]) T 42 [(0,pt e 0),(3,pt ak 0),(20,.bool Y)] [om d o q,au f m,xE e g b.B.Revision s t d f b.E,.box ak (aM U) 44,om h r u,om k n p,xS g z b.S.Base.Revision A C h k] [aJ ad s b.B.Inputs,aJ aa t b.B.Records,sx o b.Busy,am ac m b.Ran,aJ ay z b.S.Rules,aJ ad A b.S.Base.Inputs,aJ aa C b.S.Base.Records,iv r b.S.Memo,po n b.S.Seen] a w∧ci b U Y=some y) ?_ ?_
 ·skip;refine dr [] hS fun w hQ hS=>?_;refine gE [0] hS fun a hS=>?_;obtain⟨d4,b3,hM⟩:=bd hM;refine ec 1 hS vq (c8 _ _ hS.dlt U _ b3) fun _ w hR a hk hA=>?_;obtain rfl:=hR;have hS:=bV hA;refine gE [2] hS fun a hS=>?_;rcases cd hM with⟨ao,hM⟩|⟨ao,hM⟩
  ·refine gE [3,4,5,6,7,8,9,10,11,12,13] hS fun a hS=>?_;refine eD ?_;exact⟨_,hS.mt [5,6,1,0,3,4,2] [3,2,1,0,8,7,6,5,4],hM⟩
  refine gE [3,4,5,6,7] hS fun a hS=>?_;obtain⟨ch,b4,hM⟩:=bd hM;obtain⟨cv,bl,bs⟩:=dO hS sw cc 5 rfl 1 rfl (c:=(aM U)) (key:=U) rfl H1 (zc:=[.bool false]) rfl rfl b4;obtain rfl:=bl;refine vG (l:=[]) 8 (v:=.bool ch) rfl (by kernel_rfl) (by kernel_rfl) (by kernel_rfl) (by kernel_rfl) hQ hS (bs rfl rfl bo) rfl rfl rfl ao rfl rfl fun a hS=>?_;refine gE [9] hS fun a hS=>?_;rcases cd hM with⟨av,hM⟩|⟨av,hM⟩
  ·refine gE [10] hS fun a hS=>?_;obtain⟨d6,b5,hM⟩:=bd hM;refine cy (i:=11) rfl (by kernel_rfl) hS rfl rfl rfl av (a8 hS tW rfl rfl (cm _ _ hS.dlt U _ b5) fun _ w hR a hk hA=>⟨fc (hk),?_⟩);obtain rfl:=hR;have hS:=bV hA;refine gE [12,13] hS fun a hS=>?_;refine eD ?_;exact⟨_,hS.mt [5,6,1,0,3,4,2] [3,2,1,0,8,7,6,5,4],hM⟩
  refine gE [10,11,12,13] hS fun a hS=>?_;refine eD ?_;exact⟨_,hS.mt [5,6,1,0,3,4,2] [3,2,1,0,8,7,6,5,4],hM⟩
 rintro a w ⟨Y,hS,hM⟩;unfold ci at hM;rcases cd hM with⟨bt,hM⟩|⟨bt,hM⟩
 ·refine ah hS fun a hS=>?_;cases hM
  refine aE hS rfl (ap hS rfl aD) ?_;have hZ:=hS.sl [2,6,4,5,0,1] [4,5,6,7,8,0,1,2,3];exact⟨z,A,C,r,u,n,p,s,t,o,q,f,m,rfl,hZ.dnew,(hZ.get 0 rfl),(hZ.get 1 rfl),(hZ.get 2 rfl),(hZ.get 3 rfl),(hZ.get 4 rfl),(hZ.get 5 rfl),(hZ.get 6 rfl),(hZ.get 7 rfl),(hZ.get 8 rfl)⟩
 refine ah hS fun a hS=>?_;refine aG (J:=fun a w=>∃ (Z:Bool) (a0:Int) (a1:ByteArray) (a2:ByteArray) (a3:LK) (a4:Int) (a5:Int) (a9:Int) (ab:Bool) (V:Nat) (af:Value) (W:LV),St W0 (MD [xE e g b.B.Revision s t d f b.E,xS g z b.S.Base.Revision A C h k,om h r u,om k n p,om d o q,au f m]) T 42 [(0,pt e 0),(5,pt V 0),(6,.bool Z)] [om d o q,au f m,xE e g b.B.Revision s t d f b.E,au af W,.box V [.int .i64 a0,.string a1,.string a2,af,.int .i64 a4,.int .i64 a5,.int .i64 a9,.bool ab] 84,om h r u,om k n p,xS g z b.S.Base.Revision A C h k] [aJ ad s b.B.Inputs,aJ aa t b.B.Records,sx o b.Busy,am ac m b.Ran,am ac W a3,aJ ay z b.S.Rules,aJ ad A b.S.Base.Inputs,aJ aa C b.S.Base.Records,iv r b.S.Memo,po n b.S.Seen] a w∧fT b Z a0 a1 a2 a3 a4 a5 a9 ab=some y) ?_ ?_
 ·skip;obtain⟨N128,b1⟩:∃ N,N=w.heap.size:=⟨_,rfl⟩;replace hS:=hS.fact (BA N128) (Nat.le_of_eq b1);refine dr [(11,.new N128)] hS fun w hQ hS=>?_;refine gE [0,1,2,3,4,5] hS fun a hS=>?_;obtain⟨d3,ag,hM⟩:=bd hM;refine de (i:=6) (j:=10) rfl rfl (by kernel_rfl) rfl rfl ?_ ?_
  ·skip;skip;refine id (a8 hS kD rfl rfl (bI _ _ hS.dlt b.B.Records U _ (hS.get 2 rfl) _ ag) fun _ w hR a hk hA=>⟨fc (hk),?_⟩);obtain⟨da,d0,he,ax⟩:=hR;obtain rfl:=he.symm;have hS:=oI hA ax;refine gE [7,8,9] hS fun a hS=>?_;have c0:=(hS.get 1 rfl:N128≤w.heap.size);refine e1 10 (cr hS ft rfl fun b8 c1 a w hk hS=>⟨fc (hk),?_⟩);refine cC 11 (.blk (some b8)) _ (by kernel_rfl) (lZ (Nat.le_trans c0 c1)) ?_;refine es 11 hS fun w hS=>?_;refine gE [12] hS fun a hS=>?_;refine eD ?_;exact⟨_,_,_,_,_,_,_,_,_,_,_,_,hS.mt [2,3,4,1,0,6,7,8] [2,3,4,5,0,6,7,8,9,10],hM⟩
  skip;have c2:=(hS.get 0 rfl:N128≤w.heap.size);refine id (cr hS ft rfl fun bb c3 a w hk hS=>⟨fc (hk),?_⟩);refine cC 11 (.blk (some bb)) _ (by kernel_rfl) (lZ (Nat.le_trans c2 c3)) ?_;refine ec 6 hS kD (bI _ _ hS.dlt b.B.Records U _ (hS.get 2 rfl) _ ag) fun _ w hR a hk hA=>?_;obtain⟨dc,d1,he,b0⟩:=hR;obtain rfl:=he.symm;have hS:=oI hA b0;refine gE [7,8,9] hS fun a hS=>?_;refine es 11 hS fun w hS=>?_;refine gE [12] hS fun a hS=>?_;refine eD ?_;exact⟨_,_,_,_,_,_,_,_,_,_,_,_,hS.mt [2,3,4,0,1,6,7,8] [2,3,4,5,0,6,7,8,9,10],hM⟩
 rintro a w ⟨Z,a0,a1,a2,a3,a4,a5,a9,ab,V,af,W,hS,hM⟩;unfold fT at hM;refine aG (J:=fun a w=>∃ (X:Bool),St W0 (MD [xE e g b.B.Revision s t d f b.E,xS g z b.S.Base.Revision A C h k,om h r u,om k n p,om d o q,au f m]) T 42 [(4,.bool X)] [om d o q,au f m,xE e g b.B.Revision s t d f b.E,om h r u,om k n p,xS g z b.S.Base.Revision A C h k] [aJ ad s b.B.Inputs,aJ aa t b.B.Records,sx o b.Busy,am ac m b.Ran,aJ ay z b.S.Rules,aJ ad A b.S.Base.Inputs,aJ aa C b.S.Base.Records,iv r b.S.Memo,po n b.S.Seen] a w∧dV b X=some y) ?_ ?_
 ·skip;refine dr [] hS fun w hQ hS=>?_;refine gE [0,1] hS fun a hS=>?_;rcases cd hM with⟨c4,hM⟩|⟨c4,hM⟩
  ·refine gE [2,3,4,5,6,7,8,9,10,11] hS fun a hS=>?_;refine eD ?_;exact⟨_,hS.mt [0,1,2,5,6,7] [0,1,2,3,5,6,7,8,9],hM⟩
  refine gE [2,3,4,5,6,7,8,9,10,11] hS fun a hS=>?_;refine eD ?_;exact⟨_,hS.mt [0,1,2,5,6,7] [0,1,2,3,5,6,7,8,9],hM⟩
 rintro a w ⟨X,hS,hM⟩;unfold dV at hM;refine ah hS fun a hS=>?_;cases hM
 refine aE hS rfl (ap hS rfl aD) ?_;have hZ:=hS.sl [2,5,3,4,0,1] [4,5,6,7,8,0,1,2,3];exact⟨z,A,C,r,u,n,p,s,t,o,q,f,m,rfl,hZ.dnew,(hZ.get 0 rfl),(hZ.get 1 rfl),(hZ.get 2 rfl),(hZ.get 3 rfl),(hZ.get 4 rfl),(hZ.get 5 rfl),(hZ.get 6 rfl),(hZ.get 7 rfl),(hZ.get 8 rfl)⟩
def rM (urec:aF→ae→Option aF):Prop:=∀ (T:Nat→Prop) (W0:World) (hT:∀ k,T k→k < W0.heap.size) (g:aF) (N:ae) (i:Nat) (c:Nat) (K:Value) (L:Value) (M:Value) (d:Nat) (t:Array MapEntry) (z:Nat) (e:Nat) (l:Array MapEntry) (n:Nat) (u:Value) (x:Value) (b:Nat) (m:Array MapEntry) (o:Nat) (f:Value) (j:List Value) (hD:vd T W0 [.box i [.pointer (some ⟨c,0,none⟩),.int .i64 g.B.Revision,u,x,.map (some b),f,.int .i64 g.E] 138,.box c [K,.int .i64 g.S.Base.Revision,L,M,.map (some d),.map (some e)] 160,.obj d (.map t z),.obj e (.map l n),.obj b (.map m o),.own f 44 ac.size j]) (W:aA ay (dT T [.box i [.pointer (some ⟨c,0,none⟩),.int .i64 g.B.Revision,u,x,.map (some b),f,.int .i64 g.E] 138,.box c [K,.int .i64 g.S.Base.Revision,L,M,.map (some d),.map (some e)] 160,.obj d (.map t z),.obj e (.map l n),.obj b (.map m o),.own f 44 ac.size j]) W0 K g.S.Rules) (X:aA ad (dT T [.box i [.pointer (some ⟨c,0,none⟩),.int .i64 g.B.Revision,u,x,.map (some b),f,.int .i64 g.E] 138,.box c [K,.int .i64 g.S.Base.Revision,L,M,.map (some d),.map (some e)] 160,.obj d (.map t z),.obj e (.map l n),.obj b (.map m o),.own f 44 ac.size j]) W0 L g.S.Base.Inputs) (Y:aA aa (dT T [.box i [.pointer (some ⟨c,0,none⟩),.int .i64 g.B.Revision,u,x,.map (some b),f,.int .i64 g.E] 138,.box c [K,.int .i64 g.S.Base.Revision,L,M,.map (some d),.map (some e)] 160,.obj d (.map t z),.obj e (.map l n),.obj b (.map m o),.own f 44 ac.size j]) W0 M g.S.Base.Records) (U:bx ac true aN.str false (dT T [.box i [.pointer (some ⟨c,0,none⟩),.int .i64 g.B.Revision,u,x,.map (some b),f,.int .i64 g.E] 138,.box c [K,.int .i64 g.S.Base.Revision,L,M,.map (some d),.map (some e)] 160,.obj d (.map t z),.obj e (.map l n),.obj b (.map m o),.own f 44 ac.size j]) W0 t g.S.Memo) (V:bx ac true (aN.slice ac) false (dT T [.box i [.pointer (some ⟨c,0,none⟩),.int .i64 g.B.Revision,u,x,.map (some b),f,.int .i64 g.E] 138,.box c [K,.int .i64 g.S.Base.Revision,L,M,.map (some d),.map (some e)] 160,.obj d (.map t z),.obj e (.map l n),.obj b (.map m o),.own f 44 ac.size j]) W0 l g.S.Seen) (P:aA ad (dT T [.box i [.pointer (some ⟨c,0,none⟩),.int .i64 g.B.Revision,u,x,.map (some b),f,.int .i64 g.E] 138,.box c [K,.int .i64 g.S.Base.Revision,L,M,.map (some d),.map (some e)] 160,.obj d (.map t z),.obj e (.map l n),.obj b (.map m o),.own f 44 ac.size j]) W0 u g.B.Inputs) (Q:aA aa (dT T [.box i [.pointer (some ⟨c,0,none⟩),.int .i64 g.B.Revision,u,x,.map (some b),f,.int .i64 g.E] 138,.box c [K,.int .i64 g.S.Base.Revision,L,M,.map (some d),.map (some e)] 160,.obj d (.map t z),.obj e (.map l n),.obj b (.map m o),.own f 44 ac.size j]) W0 x g.B.Records) (O:bx ac true aN.bool false (dT T [.box i [.pointer (some ⟨c,0,none⟩),.int .i64 g.B.Revision,u,x,.map (some b),f,.int .i64 g.E] 138,.box c [K,.int .i64 g.S.Base.Revision,L,M,.map (some d),.map (some e)] 160,.obj d (.map t z),.obj e (.map l n),.obj b (.map m o),.own f 44 ac.size j]) W0 m g.Busy) (R:aB ac (dT T [.box i [.pointer (some ⟨c,0,none⟩),.int .i64 g.B.Revision,u,x,.map (some b),f,.int .i64 g.E] 138,.box c [K,.int .i64 g.S.Base.Revision,L,M,.map (some d),.map (some e)] 160,.obj d (.map t z),.obj e (.map l n),.obj b (.map m o),.own f 44 ac.size j]) W0 j g.Ran) (hLv:cU (dT T [.box i [.pointer (some ⟨c,0,none⟩),.int .i64 g.B.Revision,u,x,.map (some b),f,.int .i64 g.E] 138,.box c [K,.int .i64 g.S.Base.Revision,L,M,.map (some d),.map (some e)] 160,.obj d (.map t z),.obj e (.map l n),.obj b (.map m o),.own f 44 ac.size j]) W0) (y:aF) (hM:urec g N=some y),aW Tryz.prog (MD [.box i [.pointer (some ⟨c,0,none⟩),.int .i64 g.B.Revision,u,x,.map (some b),f,.int .i64 g.E] 138,.box c [K,.int .i64 g.S.Base.Revision,L,M,.map (some d),.map (some e)] 160,.obj d (.map t z),.obj e (.map l n),.obj b (.map m o),.own f 44 ac.size j]) 95 [.pointer (some ⟨i,0,none⟩),.agg #[.int .i64 N.Kind,.string N.Text]] W0 (fun v w'=>∃ (F:Value) (G:Value) (H:Value) (q:Array MapEntry) (A:Nat) (r:Array MapEntry) (C:Nat) (I:Value) (J:Value) (s:Array MapEntry) (D:Nat) (h:Value) (p:List Value),v = .tuple #[]∧n7 W0 w' [.box i [.pointer (some ⟨c,0,none⟩),.int .i64 g.B.Revision,u,x,.map (some b),f,.int .i64 g.E] 138,.box c [K,.int .i64 g.S.Base.Revision,L,M,.map (some d),.map (some e)] 160,.obj d (.map t z),.obj e (.map l n),.obj b (.map m o),.own f 44 ac.size j] [.box i [.pointer (some ⟨c,0,none⟩),.int .i64 y.B.Revision,I,J,.map (some b),h,.int .i64 y.E] 138,.box c [F,.int .i64 y.S.Base.Revision,G,H,.map (some d),.map (some e)] 160,.obj d (.map q A),.obj e (.map r C),.obj b (.map s D),.own h 44 ac.size p]∧aA ay (dT T [.box i [.pointer (some ⟨c,0,none⟩),.int .i64 y.B.Revision,I,J,.map (some b),h,.int .i64 y.E] 138,.box c [F,.int .i64 y.S.Base.Revision,G,H,.map (some d),.map (some e)] 160,.obj d (.map q A),.obj e (.map r C),.obj b (.map s D),.own h 44 ac.size p]) w' F y.S.Rules∧aA ad (dT T [.box i [.pointer (some ⟨c,0,none⟩),.int .i64 y.B.Revision,I,J,.map (some b),h,.int .i64 y.E] 138,.box c [F,.int .i64 y.S.Base.Revision,G,H,.map (some d),.map (some e)] 160,.obj d (.map q A),.obj e (.map r C),.obj b (.map s D),.own h 44 ac.size p]) w' G y.S.Base.Inputs∧aA aa (dT T [.box i [.pointer (some ⟨c,0,none⟩),.int .i64 y.B.Revision,I,J,.map (some b),h,.int .i64 y.E] 138,.box c [F,.int .i64 y.S.Base.Revision,G,H,.map (some d),.map (some e)] 160,.obj d (.map q A),.obj e (.map r C),.obj b (.map s D),.own h 44 ac.size p]) w' H y.S.Base.Records∧bx ac true aN.str false (dT T [.box i [.pointer (some ⟨c,0,none⟩),.int .i64 y.B.Revision,I,J,.map (some b),h,.int .i64 y.E] 138,.box c [F,.int .i64 y.S.Base.Revision,G,H,.map (some d),.map (some e)] 160,.obj d (.map q A),.obj e (.map r C),.obj b (.map s D),.own h 44 ac.size p]) w' q y.S.Memo∧bx ac true (aN.slice ac) false (dT T [.box i [.pointer (some ⟨c,0,none⟩),.int .i64 y.B.Revision,I,J,.map (some b),h,.int .i64 y.E] 138,.box c [F,.int .i64 y.S.Base.Revision,G,H,.map (some d),.map (some e)] 160,.obj d (.map q A),.obj e (.map r C),.obj b (.map s D),.own h 44 ac.size p]) w' r y.S.Seen∧aA ad (dT T [.box i [.pointer (some ⟨c,0,none⟩),.int .i64 y.B.Revision,I,J,.map (some b),h,.int .i64 y.E] 138,.box c [F,.int .i64 y.S.Base.Revision,G,H,.map (some d),.map (some e)] 160,.obj d (.map q A),.obj e (.map r C),.obj b (.map s D),.own h 44 ac.size p]) w' I y.B.Inputs∧aA aa (dT T [.box i [.pointer (some ⟨c,0,none⟩),.int .i64 y.B.Revision,I,J,.map (some b),h,.int .i64 y.E] 138,.box c [F,.int .i64 y.S.Base.Revision,G,H,.map (some d),.map (some e)] 160,.obj d (.map q A),.obj e (.map r C),.obj b (.map s D),.own h 44 ac.size p]) w' J y.B.Records∧bx ac true aN.bool false (dT T [.box i [.pointer (some ⟨c,0,none⟩),.int .i64 y.B.Revision,I,J,.map (some b),h,.int .i64 y.E] 138,.box c [F,.int .i64 y.S.Base.Revision,G,H,.map (some d),.map (some e)] 160,.obj d (.map q A),.obj e (.map r C),.obj b (.map s D),.own h 44 ac.size p]) w' s y.Busy∧aB ac (dT T [.box i [.pointer (some ⟨c,0,none⟩),.int .i64 y.B.Revision,I,J,.map (some b),h,.int .i64 y.E] 138,.box c [F,.int .i64 y.S.Base.Revision,G,H,.map (some d),.map (some e)] 160,.obj d (.map q A),.obj e (.map r C),.obj b (.map s D),.own h 44 ac.size p]) w' p y.Ran)
def ja (h:Int) (i:LI) (j:LR) (k:LO) (l:LK) (m:Int) (b:LU) (c:Int) (d:LI) (e:LR) (f:LB) (g:LL):Option (Bool×aF):=some ((false,(aF.mk (al.mk b (ai.mk c d e) f g) (ai.mk h i j) k l m)))
def fO (c:(Bool×aF)) (b:(Int×al)) (d:Int) (e:LI) (f:LR):Option (Fl (Int×Int×LI×LR×LO×LK×Int×LU×Int×LI×LR×LB×LL) (Fl (Int×LI×LR×LO×LK×Int×LU×Int×LI×LR×LB×LL) (Bool×aF))):=some (.out (.out (true,(aF.mk (al.mk b.2.Rules (ai.mk b.2.Base.Revision b.2.Base.Inputs b.2.Base.Records) b.2.Memo b.2.Seen) (ai.mk d e f) c.2.Busy c.2.Ran c.2.E))))
def fP (vrec:al→ae→Option (ByteArray×al)) (j:ae) (e:Int) (h:LK) (f:cw) (b:(Bool×aF)) (k:Int) (l:ByteArray) (m:ByteArray) (n:LK) (o:Int) (g:Int) (p:Int) (q:Bool):Option (Fl (Int×Int×LI×LR×LO×LK×Int×LU×Int×LI×LR×LB×LL) (Fl (Int×LI×LR×LO×LK×Int×LU×Int×LI×LR×LB×LL) (Bool×aF))):=(i1 vrec (al.mk b.2.S.Rules (ai.mk b.2.S.Base.Revision b.2.S.Base.Inputs b.2.S.Base.Records) b.2.S.Memo b.2.S.Seen) (ai.mk b.2.B.Revision b.2.B.Inputs b.2.B.Records) f.Read).bind fun c=>cond (decide ((g:Int) < c.1)) ((bX j).bind fun i=>cond i ((jQ (ai.mk b.2.B.Revision b.2.B.Inputs b.2.B.Records) h true).bind fun d=>fO b c d.Revision d.Inputs d.Records) (fO b c b.2.B.Revision b.2.B.Inputs b.2.B.Records)) (some (.go (IntKind.i64.wrap (e + 1),b.2.B.Revision,b.2.B.Inputs,b.2.B.Records,b.2.Busy,b.2.Ran,b.2.E,c.2.Rules,c.2.Base.Revision,c.2.Base.Inputs,c.2.Base.Records,c.2.Memo,c.2.Seen)))
def fQ (urec:aF→ae→Option aF) (vrec:al→ae→Option (ByteArray×al)) (u:ae) (q:Int) (e:Int) (m:LI) (f:LR) (n:LO) (o:LK) (p:Int) (g:LU) (h:Int) (i:LI) (j:LR) (k:LB) (l:LL) (v:Bool) (A:Int) (C:ByteArray) (D:ByteArray) (F:LK) (G:Int) (x:Int) (H:Int) (y:Bool):Option (Fl (Int×Int×LI×LR×LO×LK×Int×LU×Int×LI×LR×LB×LL) (Fl (Int×LI×LR×LO×LK×Int×LU×Int×LI×LR×LB×LL) (Bool×aF))):=cond (!(v)) (some (.out (.out (true,(aF.mk (al.mk g (ai.mk h i j) k l) (ai.mk e m f) n o p))))) (cond y (some (.out (.out (true,(aF.mk (al.mk g (ai.mk h i j) k l) (ai.mk e m f) n o p))))) (cond ((x:Int) == e) (some (.out (.out (false,(aF.mk (al.mk g (ai.mk h i j) k l) (ai.mk e m f) n o p))))) ((kV f e u).bind fun s=>(ge f s).bind fun t=>cond (decide ((t.length:Int)≤q)) ((jQ (ai.mk e m f) s false).bind fun z=>some (.out (.out (false,(aF.mk (al.mk g (ai.mk h i j) k l) z n o p))))) ((be t q).bind fun r=>(fH (aF.mk (al.mk g (ai.mk h i j) k l) (ai.mk e m f) n o p) r.Read).bind fun b=>cond (!(b.1)) ((urec (aF.mk (al.mk b.2.S.Rules (ai.mk b.2.S.Base.Revision b.2.S.Base.Inputs b.2.S.Base.Records) b.2.S.Memo b.2.S.Seen) (ai.mk b.2.B.Revision b.2.B.Inputs b.2.B.Records) b.2.Busy b.2.Ran b.2.E) r.Read).bind fun c=>some (.go (q,c.B.Revision,c.B.Inputs,c.B.Records,c.Busy,c.Ran,c.E,c.S.Rules,c.S.Base.Revision,c.S.Base.Inputs,c.S.Base.Records,c.S.Memo,c.S.Seen))) ((cn b.2.B.Records r.Member).bind fun d=>fP vrec u q s r b d.1.Key.Kind d.1.Key.Text d.1.Value d.1.Reads d.1.Changed d.1.Verified d.1.Cost d.1.Dirty)))))
def dU (urec:aF→ae→Option aF) (vrec:al→ae→Option (ByteArray×al)) (o:ae) (p:Int) (k:Int) (l:LI) (c:LR) (m:LO) (n:LK) (d:Int) (e:LU) (f:Int) (g:LI) (h:LR) (i:LB) (j:LL):Option (Fl (Int×Int×LI×LR×LO×LK×Int×LU×Int×LI×LR×LB×LL) (Fl (Int×LI×LR×LO×LK×Int×LU×Int×LI×LR×LB×LL) (Bool×aF))):=cond ((d:Int) == 0) ((cn c o).bind fun b=>fQ urec vrec o p k l c m n d e f g h i j b.2 b.1.Key.Kind b.1.Key.Text b.1.Value b.1.Reads b.1.Changed b.1.Verified b.1.Cost b.1.Dirty) (some (.out (.go (k,l,c,m,n,d,e,f,g,h,i,j))))
def dY (urec:aF→ae→Option aF) (vrec:al→ae→Option (ByteArray×al)) (b:aF) (c:ae):Option (Bool×aF):=(loop (fun s:Int×Int×LI×LR×LO×LK×Int×LU×Int×LI×LR×LB×LL=>dU urec vrec c s.1 s.2.1 s.2.2.1 s.2.2.2.1 s.2.2.2.2.1 s.2.2.2.2.2.1 s.2.2.2.2.2.2.1 s.2.2.2.2.2.2.2.1 s.2.2.2.2.2.2.2.2.1 s.2.2.2.2.2.2.2.2.2.1 s.2.2.2.2.2.2.2.2.2.2.1 s.2.2.2.2.2.2.2.2.2.2.2.1 s.2.2.2.2.2.2.2.2.2.2.2.2) (0,b.B.Revision,b.B.Inputs,b.B.Records,b.Busy,b.Ran,b.E,b.S.Rules,b.S.Base.Revision,b.S.Base.Inputs,b.S.Base.Records,b.S.Memo,b.S.Seen)).bind fun r=>Fl.el r (fun s=>ja s.1 s.2.1 s.2.2.1 s.2.2.2.1 s.2.2.2.2.1 s.2.2.2.2.2.1 s.2.2.2.2.2.2.1 s.2.2.2.2.2.2.2.1 s.2.2.2.2.2.2.2.2.1 s.2.2.2.2.2.2.2.2.2.1 s.2.2.2.2.2.2.2.2.2.2.1 s.2.2.2.2.2.2.2.2.2.2.2) (fun y=>some (y))
theorem rE (T:Nat→Prop) (W0:World) (hT:TW T W0) (urec:aF→ae→Option aF) (hurec:rM urec) (vrec:al→ae→Option (ByteArray×al)) (hvrec:lJ vrec) (d:aF) (a5:ae) (f:Nat) (m:Nat) (v3:Value) (v4:Value) (t:Value) (n:Nat) (C:Array MapEntry) (F:Nat) (o:Nat) (q:Array MapEntry) (x:Nat) (D:Value) (u:Value) (b:Nat) (r:Array MapEntry) (z:Nat) (g:Value) (p:List Value) (hD:vd T W0 [xE f m d.B.Revision D u b g d.E,xS m v3 d.S.Base.Revision v4 t n o,om n C F,om o q x,om b r z,au g p]) (oi:aA ay (dT T [xE f m d.B.Revision D u b g d.E,xS m v3 d.S.Base.Revision v4 t n o,om n C F,om o q x,om b r z,au g p]) W0 v3 d.S.Rules) (oj:aA ad (dT T [xE f m d.B.Revision D u b g d.E,xS m v3 d.S.Base.Revision v4 t n o,om n C F,om o q x,om b r z,au g p]) W0 v4 d.S.Base.Inputs) (k2:aA aa (dT T [xE f m d.B.Revision D u b g d.E,xS m v3 d.S.Base.Revision v4 t n o,om n C F,om o q x,om b r z,au g p]) W0 t d.S.Base.Records) (o2:bx ac true aN.str false (dT T [xE f m d.B.Revision D u b g d.E,xS m v3 d.S.Base.Revision v4 t n o,om n C F,om o q x,om b r z,au g p]) W0 C d.S.Memo) (o3:bx ac true (aN.slice ac) false (dT T [xE f m d.B.Revision D u b g d.E,xS m v3 d.S.Base.Revision v4 t n o,om n C F,om o q x,om b r z,au g p]) W0 q d.S.Seen) (nm:aA ad (dT T [xE f m d.B.Revision D u b g d.E,xS m v3 d.S.Base.Revision v4 t n o,om n C F,om o q x,om b r z,au g p]) W0 D d.B.Inputs) (k3:aA aa (dT T [xE f m d.B.Revision D u b g d.E,xS m v3 d.S.Base.Revision v4 t n o,om n C F,om o q x,om b r z,au g p]) W0 u d.B.Records) (nl:bx ac true aN.bool false (dT T [xE f m d.B.Revision D u b g d.E,xS m v3 d.S.Base.Revision v4 t n o,om n C F,om o q x,om b r z,au g p]) W0 r d.Busy) (k4:aB ac (dT T [xE f m d.B.Revision D u b g d.E,xS m v3 d.S.Base.Revision v4 t n o,om n C F,om o q x,om b r z,au g p]) W0 p d.Ran) (hLv:cU (dT T [xE f m d.B.Revision D u b g d.E,xS m v3 d.S.Base.Revision v4 t n o,om n C F,om o q x,om b r z,au g p]) W0) (y:Bool×aF) (hM:dY urec vrec d a5=some y):aW Tryz.prog (MD [xE f m d.B.Revision D u b g d.E,xS m v3 d.S.Base.Revision v4 t n o,om n C F,om o q x,om b r z,au g p]) 130 [pt f 0,.agg (aM a5).toArray] W0 (fun v w'=>∃ (M:Value) (ak:Value) (ao:Value) (I:Array MapEntry) (O:Nat) (K:Array MapEntry) (P:Nat) (av:Value) (ax:Value) (L:Array MapEntry) (Q:Nat) (A:Value) (H:List Value),v = .bool y.1∧n7 W0 w' [xE f m d.B.Revision D u b g d.E,xS m v3 d.S.Base.Revision v4 t n o,om n C F,om o q x,om b r z,au g p] [xE f m y.2.B.Revision av ax b A y.2.E,xS m M y.2.S.Base.Revision ak ao n o,om n I O,om o K P,om b L Q,au A H]∧aA ay (dT T [xE f m y.2.B.Revision av ax b A y.2.E,xS m M y.2.S.Base.Revision ak ao n o,om n I O,om o K P,om b L Q,au A H]) w' M y.2.S.Rules∧aA ad (dT T [xE f m y.2.B.Revision av ax b A y.2.E,xS m M y.2.S.Base.Revision ak ao n o,om n I O,om o K P,om b L Q,au A H]) w' ak y.2.S.Base.Inputs∧aA aa (dT T [xE f m y.2.B.Revision av ax b A y.2.E,xS m M y.2.S.Base.Revision ak ao n o,om n I O,om o K P,om b L Q,au A H]) w' ao y.2.S.Base.Records∧bx ac true aN.str false (dT T [xE f m y.2.B.Revision av ax b A y.2.E,xS m M y.2.S.Base.Revision ak ao n o,om n I O,om o K P,om b L Q,au A H]) w' I y.2.S.Memo∧bx ac true (aN.slice ac) false (dT T [xE f m y.2.B.Revision av ax b A y.2.E,xS m M y.2.S.Base.Revision ak ao n o,om n I O,om o K P,om b L Q,au A H]) w' K y.2.S.Seen∧aA ad (dT T [xE f m y.2.B.Revision av ax b A y.2.E,xS m M y.2.S.Base.Revision ak ao n o,om n I O,om o K P,om b L Q,au A H]) w' av y.2.B.Inputs∧aA aa (dT T [xE f m y.2.B.Revision av ax b A y.2.E,xS m M y.2.S.Base.Revision ak ao n o,om n I O,om o K P,om b L Q,au A H]) w' ax y.2.B.Records∧bx ac true aN.bool false (dT T [xE f m y.2.B.Revision av ax b A y.2.E,xS m M y.2.S.Base.Revision ak ao n o,om n I O,om o K P,om b L Q,au A H]) w' L y.2.Busy∧aB ac (dT T [xE f m y.2.B.Revision av ax b A y.2.E,xS m M y.2.S.Base.Revision ak ao n o,om n I O,om o K P,om b L Q,au A H]) w' H y.2.Ran):=by
 refine jp (c:=_) Tryz.func130 rfl T 125 Tryz.ntmps130 hT rfl hD fun a hS=>?_;replace hS:=(((((((((hS.fact bv hLv).fS oi).fS oj).fS k2).fM o2).fM o3).fS nm).fS k3).fM nl).fR k4;unfold dY at hM;refine ah hS fun a hS=>?_;refine kb hS fun c3 q0 a w hk hS=>?_;refine ah hS fun a hS=>?_;refine aG (J:=fun a w=>∃ (g6:Int) (g7:LI) (g8:LR) (gb:LO) (gi:LK) (gp:Int) (e8:LU) (ea:Int) (ed:LI) (eg:LR) (el:LB) (em:LL) (ck:AM) (dk:Nat) (cs:Value) (ch:LV) (cl:AM) (dl:Nat) (co:AM) (dn:Nat) (cv:Value) (d0:Value) (d1:Value) (d2:Value) (d3:Value),St W0 (MD [xE f m d.B.Revision D u b g d.E,xS m v3 d.S.Base.Revision v4 t n o,om n C F,om o q x,om b r z,au g p]) T 125 [] [om b ck dk,au cs ch,xE f m g6 cv d0 b cs gp,om n cl dl,om o co dn,xS m d1 ea d2 d3 n o] [aJ ad cv g7,aJ aa d0 g8,sx ck gb,am ac ch gi,aJ ay d1 e8,aJ ad d2 ed,aJ aa d3 eg,iv cl el,po co em,bv] a w∧ja g6 g7 g8 gb gi gp e8 ea ed eg el em=some y) ?_ ?_
 ·skip;refine ah hS fun a hS=>?_;obtain⟨r1,of,hMo1⟩:=bd hM;refine bu _ (fun s a w=>∃ (a9:Int) (a4:Int) (b0:LI) (G:LR) (c0:LO) (c1:LK) (c2:Int) (b5:LU) (b8:Int) (bb:LI) (bi:LR) (bl:LB) (bs:LL) (V:AM) (b1:Nat) (Y:Value) (U:LV) (W:AM) (b3:Nat) (X:AM) (b4:Nat) (af:Value) (ag:Value) (Z:Value) (a0:Value) (a1:Value),(a9,a4,b0,G,c0,c1,c2,b5,b8,bb,bi,bl,bs)=s∧St W0 (MD [xE f m d.B.Revision D u b g d.E,xS m v3 d.S.Base.Revision v4 t n o,om n C F,om o q x,om b r z,au g p]) T 125 [(0,pt f 0),(3,pt c3 0),(5,.int .i64 a9)] [om b V b1,au Y U,xE f m a4 af ag b Y c2,.box c3 (aM a5) 44,om n W b3,om o X b4,xS m Z b8 a0 a1 n o] [aJ ad af b0,aJ aa ag G,sx V c0,am ac U c1,aJ ay Z b5,aJ ad a0 bb,aJ aa a1 bi,iv W bl,po X bs,bv] a w) of ⟨_,_,_,_,_,_,_,_,_,_,_,_,_,_,_,_,_,_,_,_,_,_,_,_,_,_,rfl,hS.mt [5,6,1,0,3,4,2] [3,2,1,0,8,7,6,5,4,9]⟩ ?_;rintro s a w f1 ⟨a9,a4,b0,G,c0,c1,c2,b5,b8,bb,bi,bl,bs,V,b1,Y,U,W,b3,X,b4,af,ag,Z,a0,a1,rfl,hS⟩ hM hf1;have hM:dU urec vrec a5 a9 a4 b0 G c0 c1 c2 b5 b8 bb bi bl bs=some f1:=hM;unfold dU at hM;refine az ?_;refine ah hS fun a hS=>?_;rcases cd hM with⟨l2,hM⟩|⟨l2,hM⟩
  ·refine ah hS fun a hS=>?_;refine aG (J:=fun a w=>∃ (f3:Bool) (f4:Int) (f6:ByteArray) (fd:ByteArray) (fl:LK) (fn:Int) (fr:Int) (fs:Int) (g0:Bool) (da:Nat) (g1:Value) (ds:LV),St W0 (MD [xE f m d.B.Revision D u b g d.E,xS m v3 d.S.Base.Revision v4 t n o,om n C F,om o q x,om b r z,au g p]) T 125 [(0,pt f 0),(3,pt c3 0),(5,.int .i64 a9),(6,pt da 0),(7,.bool f3)] [om b V b1,au Y U,xE f m a4 af ag b Y c2,.box c3 (aM a5) 44,au g1 ds,.box da [.int .i64 f4,.string f6,.string fd,g1,.int .i64 fn,.int .i64 fr,.int .i64 fs,.bool g0] 84,om n W b3,om o X b4,xS m Z b8 a0 a1 n o] [aJ ad af b0,aJ aa ag G,sx V c0,am ac U c1,am ac ds fl,aJ ay Z b5,aJ ad a0 bb,aJ aa a1 bi,iv W bl,po X bs,bv] a w∧fQ urec vrec a5 a9 a4 b0 G c0 c1 c2 b5 b8 bb bi bl bs f3 f4 f6 fd fl fn fr fs g0=some f1) ?_ ?_
   ·skip;obtain⟨N197,i5⟩:∃ N,N=w.heap.size:=⟨_,rfl⟩;replace hS:=hS.fact (BA N197) (Nat.le_of_eq i5);refine dr [(11,.new N197)] hS fun w hQ hS=>?_;refine gE [0,1,2,3,4,5] hS fun a hS=>?_;obtain⟨r3,h2,hM⟩:=bd hM;refine de (i:=6) (j:=10) rfl rfl (by kernel_rfl) rfl rfl ?_ ?_
    ·skip;skip;refine id (a8 hS kD rfl rfl (bI _ _ hS.dlt G a5 _ (hS.get 2 rfl) _ h2) fun _ w hR a hk hA=>⟨fc (hk),?_⟩);obtain⟨r4,op,he,ho⟩:=hR;obtain rfl:=he.symm;have hS:=oI hA ho;refine gE [7,8,9] hS fun a hS=>?_;have la:=(hS.get 1 rfl:N197≤w.heap.size);refine e1 10 (cr hS ft rfl fun kk lb a w hk hS=>⟨fc (hk),?_⟩);refine cC 11 (.blk (some kk)) _ (by kernel_rfl) (lZ (Nat.le_trans la lb)) ?_;refine es 11 hS fun w hS=>?_;refine gE [12] hS fun a hS=>?_;refine eD ?_;exact⟨_,_,_,_,_,_,_,_,_,_,_,_,hS.mt [2,3,4,5,1,0,6,7,8] [2,3,4,5,0,6,7,8,9,10,11],hM⟩
    skip;have le:=(hS.get 0 rfl:N197≤w.heap.size);refine id (cr hS ft rfl fun ks ll a w hk hS=>⟨fc (hk),?_⟩);refine cC 11 (.blk (some ks)) _ (by kernel_rfl) (lZ (Nat.le_trans le ll)) ?_;refine ec 6 hS kD (bI _ _ hS.dlt G a5 _ (hS.get 2 rfl) _ h2) fun _ w hR a hk hA=>?_;obtain⟨ra,os,he,hp⟩:=hR;obtain rfl:=he.symm;have hS:=oI hA hp;refine gE [7,8,9] hS fun a hS=>?_;refine es 11 hS fun w hS=>?_;refine gE [12] hS fun a hS=>?_;refine eD ?_;exact⟨_,_,_,_,_,_,_,_,_,_,_,_,hS.mt [2,3,4,5,0,1,6,7,8] [2,3,4,5,0,6,7,8,9,10,11],hM⟩
   rintro a w ⟨f3,f4,f6,fd,fl,fn,fr,fs,g0,da,g1,ds,hS,hM⟩;unfold fQ at hM;refine az ?_;refine jV ?_;refine ah hS fun a hS=>?_;rcases cd hM with⟨ls,hM⟩|⟨ls,hM⟩
   ·refine ah hS fun a hS=>?_;cases hM
    have hr:=hf1 _ rfl;subst hr;replace hMo1:=jo hMo1;have hM:=hMo1;cases hM
    refine aE hS rfl (ap hS rfl aD) ?_;have hZ:=hS.sl [2,8,6,7,0,1] [5,6,7,8,9,0,1,2,3];exact⟨Z,a0,a1,W,b3,X,b4,af,ag,V,b1,Y,U,rfl,hZ.dnew,(hZ.get 0 rfl),(hZ.get 1 rfl),(hZ.get 2 rfl),(hZ.get 3 rfl),(hZ.get 4 rfl),(hZ.get 5 rfl),(hZ.get 6 rfl),(hZ.get 7 rfl),(hZ.get 8 rfl)⟩
   refine ah hS fun a hS=>?_;rcases cd hM with⟨lt,hM⟩|⟨lt,hM⟩
   ·refine ah hS fun a hS=>?_;cases hM
    have hr:=hf1 _ rfl;subst hr;replace hMo1:=jo hMo1;have hM:=hMo1;cases hM
    refine aE hS rfl (ap hS rfl aD) ?_;have hZ:=hS.sl [2,8,6,7,0,1] [5,6,7,8,9,0,1,2,3];exact⟨Z,a0,a1,W,b3,X,b4,af,ag,V,b1,Y,U,rfl,hZ.dnew,(hZ.get 0 rfl),(hZ.get 1 rfl),(hZ.get 2 rfl),(hZ.get 3 rfl),(hZ.get 4 rfl),(hZ.get 5 rfl),(hZ.get 6 rfl),(hZ.get 7 rfl),(hZ.get 8 rfl)⟩
   refine ah hS fun a hS=>?_;refine az ?_;refine az ?_;refine dr [] hS fun w hQ hS=>?_;refine gE [0,1,2,3,4,5,6,7] hS fun a hS=>?_;refine eD ?_;refine ah hS fun a hS=>?_;rcases cd hM with⟨lv,hM⟩|⟨lv,hM⟩
   ·refine ah hS fun a hS=>?_;cases hM
    have hr:=hf1 _ rfl;subst hr;replace hMo1:=jo hMo1;have hM:=hMo1;cases hM
    refine aE hS rfl (ap hS rfl aD) ?_;have hZ:=hS.sl [2,8,6,7,0,1] [5,6,7,8,9,0,1,2,3];exact⟨Z,a0,a1,W,b3,X,b4,af,ag,V,b1,Y,U,rfl,hZ.dnew,(hZ.get 0 rfl),(hZ.get 1 rfl),(hZ.get 2 rfl),(hZ.get 3 rfl),(hZ.get 4 rfl),(hZ.get 5 rfl),(hZ.get 6 rfl),(hZ.get 7 rfl),(hZ.get 8 rfl)⟩
   refine ah hS fun a hS=>?_;refine az ?_;refine dr [] hS fun w hQ hS=>?_;refine gE [0,1,2,3,4,5,6,7,8,9,10] hS fun a hS=>?_;obtain⟨ca,it,hM⟩:=bd hM;refine ec 11 hS A0 (qE _ _ hS.dlt (hS.get 10 rfl) G a4 a5 _ (hS.get 1 rfl) _ it) fun _ w hR a hk hA=>?_;obtain⟨hW,h4,he,hq⟩:=hR;obtain rfl:=he.symm;have hS:=oI hA hq;refine gE [12] hS fun a hS=>?_;refine eD ?_;refine ah hS fun a hS=>?_;have hL:=hS;replace hL:=hL.freeze (R:=ac) 0 rfl 0 rfl;obtain⟨q6,js,hM⟩:=bd hM;refine kc hS AZ (mA _ _ hL.dlt G ca _ _ (hL.get 3 rfl) (hL.get 0 rfl) _ js) fun _ w hR a hk hA=>?_;obtain⟨no,kx,he,⟨hb,ha,hs⟩⟩:=hR;obtain rfl:=he.symm;have hS:=hA [lf no kx] (eA ⟨hb,by decide⟩ ha) (ro _);replace hS:=hS.fR hs;refine ah hS fun a hS=>?_;refine az ?_;refine ah hS fun a hS=>?_;rcases cd hM with⟨ly,hM⟩|⟨ly,hM⟩
   ·refine ah hS fun a hS=>?_;replace hS:=hS.freeze (R:=ac) 1 rfl 1 rfl;obtain⟨q7,k0,hM⟩:=bd hM;refine kc hS A1 (ov _ _ hS.dlt (ai.mk a4 b0 G) ca false _ _ _ (hS.get 3 rfl) (hS.get 4 rfl) (hS.get 0 rfl) _ k0) fun _ w hR a hk hA=>?_;obtain⟨np,p0,o1,p1,he,ht,hu,h9⟩:=hR;obtain rfl:=he.symm;have hS:=s7 hA ht hu h9;refine go hS fun a w hS=>?_;replace hS:=(hS.freeze (R:=ad) 0 rfl 1 rfl).freeze (R:=aa) 0 rfl 1 rfl;cases hM
    have hr:=hf1 _ rfl;subst hr;replace hMo1:=jo hMo1;have hM:=hMo1;cases hM
    refine aE hS rfl (ap hS rfl aD) ?_;have hZ:=hS.sl [3,9,7,8,1,2] [12,13,14,15,16,1,0,9,10];exact⟨Z,a0,a1,W,b3,X,b4,np,o1,V,b1,Y,U,rfl,hZ.dnew,(hZ.get 0 rfl),(hZ.get 1 rfl),(hZ.get 2 rfl),(hZ.get 3 rfl),(hZ.get 4 rfl),(hZ.get 5 rfl),(hZ.get 6 rfl),(hZ.get 7 rfl),(hZ.get 8 rfl)⟩
   refine ah hS fun a hS=>?_;obtain⟨ab,ib,hM⟩:=bd hM;refine wl rfl (cR (R:=eO) hS DO zF rfl rfl 0 rfl 0 rfl ib rfl fun ok q2 q3 p2 m0 m1 m2 a hS=>?_);obtain rfl:=m0;refine qy hS (bL (k:=0) hS zF 0 rfl m1 m2 rfl id (us:=(Ab ab)) rfl rfl (fun h=>by cases h)) fun a hS=>?_;refine ka hS Bw fun h3 q1 a w hk hS=>?_;refine go hS fun a w hS=>?_;refine az ?_;refine ah hS fun a hS=>?_;obtain⟨e,ih,hM⟩:=bd hM;replace hS:=hS.re [5,11,9,10,3,4] [0,1,2,6,7,8];refine wl rfl (cu hS Iz rfl rfl (rF _ _ hS.dltD (aF.mk (al.mk b5 (ai.mk b8 bb bi) bl bs) (ai.mk a4 b0 G) c0 c1 c2) ab.Read _ _ _ _ _ _ _ _ _ _ _ _ _ _ _ _ _ _ hS.dok (hS.getD 7 rfl) (hS.getD 8 rfl) (hS.getD 9 rfl) (hS.getD 10 rfl) (hS.getD 11 rfl) (hS.getD 2 rfl) (hS.getD 3 rfl) (hS.getD 4 rfl) (hS.getD 5 rfl) _ ih) fun _ w hR a hk hA=>?_);obtain⟨hX,hY,i0,h7,l0,h8,l1,i2,i3,c5,e2,cb,c4,he,md,hv,hw,hx,hf,hg,hy,hz,hh,hc⟩:=hR;obtain rfl:=he.symm;have hS:=hA _ md;replace hS:=((((((((hS.fS (hv.sub (aw _))).fS (hw.sub (aw _))).fS (hx.sub (aw _))).fM (hf.keep (Kt.refl _ _) (aw _))).fM (hg.keep (Kt.refl _ _) (aw _))).fS (hy.sub (aw _))).fS (hz.sub (aw _))).fM (hh.keep (Kt.refl _ _) (aw _))).fR (hc.keep (Kt.refl _ _) (aw _));refine ah hS fun a hS=>?_;rcases cd hM with⟨ms,hM⟩|⟨ms,hM⟩
   ·refine ah hS fun a hS=>?_;obtain⟨r0,k1,hM⟩:=bd hM;replace hS:=hS.re [0,1,2,3,4,5] [6,7,8,9,10,11];refine wl rfl (cu hS GD rfl rfl (hurec _ _ hS.dltD (aF.mk (al.mk e.2.S.Rules (ai.mk e.2.S.Base.Revision e.2.S.Base.Inputs e.2.S.Base.Records) e.2.S.Memo e.2.S.Seen) (ai.mk e.2.B.Revision e.2.B.Inputs e.2.B.Records) e.2.Busy e.2.Ran e.2.E) ab.Read _ _ _ _ _ _ _ _ _ _ _ _ _ _ _ _ _ _ hS.dok (hS.getD 8 rfl) (hS.getD 7 rfl) (hS.getD 6 rfl) (hS.getD 5 rfl) (hS.getD 4 rfl) (hS.getD 3 rfl) (hS.getD 2 rfl) (hS.getD 1 rfl) (hS.getD 0 rfl) (hS.getD 21 rfl) _ k1) fun _ w hR a hk hA=>?_);obtain⟨rd,rg,rl,pl,p3,ps,p4,rm,rr,pw,p5,rs,p6,he,n0,hB,hC,hE,hi,hj,hF,hG,hl,hd⟩:=hR;obtain rfl:=he.symm;have hS:=hA _ n0;replace hS:=((((((((hS.fS (hB.sub (aw _))).fS (hC.sub (aw _))).fS (hE.sub (aw _))).fM (hi.keep (Kt.refl _ _) (aw _))).fM (hj.keep (Kt.refl _ _) (aw _))).fS (hF.sub (aw _))).fS (hG.sub (aw _))).fM (hl.keep (Kt.refl _ _) (aw _))).fR (hd.keep (Kt.refl _ _) (aw _));refine ah hS fun a hS=>?_;exact⟨_,(Option.some.inj hM).symm,_,_,_,_,_,_,_,_,_,_,_,_,_,_,_,_,_,_,_,_,_,_,_,_,_,_,rfl,hS.mt [4,5,0,9,2,3,1] [3,2,1,0,8,7,6,5,4,30]⟩
   refine ah hS fun a hS=>?_;refine aG (J:=fun a w=>∃ (eq:Int) (er:ByteArray) (et:ByteArray) (ex:LK) (eT:Int) (c9:Int) (eX:Int) (f2:Bool) (dc:Nat) (g2:Value) (e3:LV),St W0 (MD [xE f m d.B.Revision D u b g d.E,xS m v3 d.S.Base.Revision v4 t n o,om n C F,om o q x,om b r z,au g p]) T 125 [(0,pt f 0),(3,pt c3 0),(5,.int .i64 a9),(8,hW),(10,pt h3 0),(11,pt dc 0)] [au hW h4,om b c5 e2,au cb c4,xE f m e.2.B.Revision i2 i3 b cb e.2.E,.box c3 (aM a5) 44,.box h3 (Ab ab) 198,au g2 e3,.box dc [.int .i64 eq,.string er,.string et,g2,.int .i64 eT,.int .i64 c9,.int .i64 eX,.bool f2] 84,om n h7 l0,om o h8 l1,xS m hX e.2.S.Base.Revision hY i0 n o] [am ac h4 ca,aJ ad i2 e.2.B.Inputs,aJ aa i3 e.2.B.Records,sx c5 e.2.Busy,am ac c4 e.2.Ran,am ac e3 ex,aJ ay hX e.2.S.Rules,aJ ad hY e.2.S.Base.Inputs,aJ aa i0 e.2.S.Base.Records,iv h7 e.2.S.Memo,po h8 e.2.S.Seen,bv] a w∧fP vrec a5 a9 ca ab e eq er et ex eT c9 eX f2=some f1) ?_ ?_
   ·skip;obtain⟨N261,i9⟩:∃ N,N=w.heap.size:=⟨_,rfl⟩;replace hS:=hS.fact (BA N261) (Nat.le_of_eq i9);refine dr [(12,.new N261)] hS fun w hQ hS=>?_;refine gE [0,1,2,3,4,5,6] hS fun a hS=>?_;obtain⟨r2,h1,hM⟩:=bd hM;refine de (i:=7) (j:=11) rfl rfl (by kernel_rfl) rfl rfl ?_ ?_
    ·skip;skip;refine id (a8 hS kD rfl rfl (bI _ _ hS.dlt e.2.B.Records ab.Member _ (hS.get 3 rfl) _ h1) fun _ w hR a hk hA=>⟨fc (hk),?_⟩);obtain⟨rt,p7,he,hH⟩:=hR;obtain rfl:=he.symm;have hS:=oI hA hH;refine gE [8,9,10] hS fun a hS=>?_;have n1:=(hS.get 1 rfl:N261≤w.heap.size);refine e1 11 (cr hS ft rfl fun kt n2 a w hk hS=>⟨fc (hk),?_⟩);refine cC 12 (.blk (some kt)) _ (by kernel_rfl) (lZ (Nat.le_trans n1 n2)) ?_;refine es 12 hS fun w hS=>?_;refine gE [13] hS fun a hS=>?_;refine eD ?_;exact⟨_,_,_,_,_,_,_,_,_,_,_,hS.mt [10,6,7,2,11,8,1,0,4,5,3] [12,5,4,3,2,0,10,9,8,7,6,23],hM⟩
    skip;have n3:=(hS.get 0 rfl:N261≤w.heap.size);refine id (cr hS ft rfl fun kv n5 a w hk hS=>⟨fc (hk),?_⟩);refine cC 12 (.blk (some kv)) _ (by kernel_rfl) (lZ (Nat.le_trans n3 n5)) ?_;refine ec 7 hS kD (bI _ _ hS.dlt e.2.B.Records ab.Member _ (hS.get 3 rfl) _ h1) fun _ w hR a hk hA=>?_;obtain⟨rv,pe,he,hI⟩:=hR;obtain rfl:=he.symm;have hS:=oI hA hI;refine gE [8,9,10] hS fun a hS=>?_;refine es 12 hS fun w hS=>?_;refine gE [13] hS fun a hS=>?_;refine eD ?_;exact⟨_,_,_,_,_,_,_,_,_,_,_,hS.mt [10,6,7,2,11,8,0,1,4,5,3] [12,5,4,3,2,0,10,9,8,7,6,23],hM⟩
   rintro a w ⟨eq,er,et,ex,eT,c9,eX,f2,dc,g2,e3,hS,hM⟩;unfold fP at hM;refine az ?_;refine az ?_;refine dr [(10,.bks [some m,some n,some o])] hS fun w hQ hS=>?_;refine gE [0,1,2,3,4,5,6,7,8,9,11] hS fun a hS=>?_;refine dy (l:=[.bks [some m,some n,some o]]) 12 (v:=.int .i64 c9) rfl (by kernel_rfl) (by kernel_rfl) (by kernel_rfl) (by kernel_rfl) hQ hS (dH hS rfl yu 7 rfl (vI hS 7 rfl rfl [10,8,9] rfl rfl bo) (us:=[.int .i64 c9]) rfl rfl (fun _=>rfl)) rfl rfl rfl fun a hS=>?_;obtain⟨bt,ii,hM⟩:=bd hM;replace hS:=hS.re [10,8,9] [0,1,2,3,4,5,6,7];refine e1 10 (cu hS FX rfl rfl (qP _ _ hS.dltD vrec hvrec (al.mk e.2.S.Rules (ai.mk e.2.S.Base.Revision e.2.S.Base.Inputs e.2.S.Base.Records) e.2.S.Memo e.2.S.Seen) (ai.mk e.2.B.Revision e.2.B.Inputs e.2.B.Records) ab.Read _ _ _ _ _ _ _ _ _ _ _ _ hS.dok (hS.getD 6 rfl) (hS.getD 7 rfl) (hS.getD 8 rfl) (hS.getD 9 rfl) (hS.getD 10 rfl) (hS.getD 1 rfl) (hS.getD 2 rfl) (hS.getD 11 rfl) _ ii) fun _ w hR a hk hA=>⟨kB rfl hk (yX rfl rfl),?_⟩);obtain⟨g3,g4,g5,e4,h5,e5,h6,he,n6,hJ,hK,hN,hm,hn⟩:=hR;obtain rfl:=he.symm;have hS:=hA _ n6;replace hS:=((((hS.fS (hJ.sub (aw _))).fS (hK.sub (aw _))).fS (hN.sub (aw _))).fM (hm.keep (Kt.refl _ _) (aw _))).fM (hn.keep (Kt.refl _ _) (aw _));refine gE [13] hS fun a hS=>?_;refine eD ?_;refine ah hS fun a hS=>?_;rcases cd hM with⟨nd,hM⟩|⟨nd,hM⟩
   ·refine ah hS fun a hS=>?_;refine aG (J:=fun a w=>∃ (gs:Int) (gu:LI) (h0:LR) (d4:Value) (d6:Value),St W0 (MD [xE f m d.B.Revision D u b g d.E,xS m v3 d.S.Base.Revision v4 t n o,om n C F,om o q x,om b r z,au g p]) T 125 [] [om b c5 e2,au cb c4,xE f m gs d4 d6 b cb e.2.E,om n e4 h5,om o e5 h6,xS m g3 bt.2.Base.Revision g4 g5 n o] [aJ ad d4 gu,aJ aa d6 h0,sx c5 e.2.Busy,am ac c4 e.2.Ran,aJ ay g3 bt.2.Rules,aJ ad g4 bt.2.Base.Inputs,aJ aa g5 bt.2.Base.Records,iv e4 bt.2.Memo,po e5 bt.2.Seen,bv] a w∧fO e bt gs gu h0=some f1) ?_ ?_
    ·skip;refine ah hS fun a hS=>?_;obtain⟨q4,jb,hM⟩:=bd hM;refine kc hS tW (cm _ _ hS.dlt a5 _ jb) fun _ w hR a hk hA=>?_;obtain rfl:=hR;have hS:=bV hA;refine ah hS fun a hS=>?_;rcases cd hM with⟨ng,hM⟩|⟨ng,hM⟩
     ·refine ah hS fun a hS=>?_;replace hS:=hS.freeze (R:=ac) 3 rfl 5 rfl;obtain⟨q5,jc,hM⟩:=bd hM;refine kc hS A1 (ov _ _ hS.dlt (ai.mk e.2.B.Revision e.2.B.Inputs e.2.B.Records) ca true _ _ _ (hS.get 7 rfl) (hS.get 8 rfl) (hS.get 0 rfl) _ jc) fun _ w hR a hk hA=>?_;obtain⟨s0,pf,s1,pk,he,hP,hV,h9⟩:=hR;obtain rfl:=he.symm;have hS:=s7 hA hP hV h9;refine go hS fun a w hS=>?_;replace hS:=(hS.freeze (R:=ad) 0 rfl 1 rfl).freeze (R:=aa) 0 rfl 1 rfl;exact⟨_,_,_,_,_,hS.mt [3,4,5,1,2,0] [1,0,13,14,9,8,7,6,5,21],hM⟩
     exact fz
    rintro a w ⟨gs,gu,h0,d4,d6,hS,hM⟩;unfold fO at hM;refine ah hS fun a hS=>?_;cases hM
    have hr:=hf1 _ rfl;subst hr;replace hMo1:=jo hMo1;have hM:=hMo1;cases hM
    refine aE hS rfl (ap hS rfl aD) ?_;have hZ:=hS.sl [2,5,3,4,0,1] [4,5,6,7,8,0,1,2,3];exact⟨g3,g4,g5,e4,h5,e5,h6,d4,d6,c5,e2,cb,c4,rfl,hZ.dnew,(hZ.get 0 rfl),(hZ.get 1 rfl),(hZ.get 2 rfl),(hZ.get 3 rfl),(hZ.get 4 rfl),(hZ.get 5 rfl),(hZ.get 6 rfl),(hZ.get 7 rfl),(hZ.get 8 rfl)⟩
   refine ah hS fun a hS=>?_;exact⟨_,(Option.some.inj hM).symm,_,_,_,_,_,_,_,_,_,_,_,_,_,_,_,_,_,_,_,_,_,_,_,_,_,_,rfl,hS.mt [4,5,6,7,1,2,0] [6,7,8,9,4,3,2,1,0,16]⟩
  exact fz
 rintro a w ⟨g6,g7,g8,gb,gi,gp,e8,ea,ed,eg,el,em,ck,dk,cs,ch,cl,dl,co,dn,cv,d0,d1,d2,d3,hS,hM⟩;unfold ja at hM;refine ah hS fun a hS=>?_;cases hM
 refine aE hS rfl (ap hS rfl aD) ?_;have hZ:=hS.sl [2,5,3,4,0,1] [4,5,6,7,8,0,1,2,3];exact⟨d1,d2,d3,cl,dl,co,dn,cv,d0,ck,dk,cs,ch,rfl,hZ.dnew,(hZ.get 0 rfl),(hZ.get 1 rfl),(hZ.get 2 rfl),(hZ.get 3 rfl),(hZ.get 4 rfl),(hZ.get 5 rfl),(hZ.get 6 rfl),(hZ.get 7 rfl),(hZ.get 8 rfl)⟩
def gz (h:Int) (i:LI) (j:LR) (k:LO) (l:LK) (m:Int) (b:LU) (c:Int) (d:LI) (e:LR) (f:LB) (g:LL):Option aF:=some ((aF.mk (al.mk b (ai.mk c d e) f g) (ai.mk h i j) k l m))
def dI (l:ae) (o:LK) (b:Int) (c:LI) (d:LR) (m:LO) (e:LK) (s:Int) (f:LU) (g:Int) (h:LI) (i:LR) (j:LB) (k:LL) (p:ByteArray) (n:Bool):Option (Fl (LK×LY×Int×LI×LR×LO×LK×Int×LU×Int×LI×LR×LB×LL) (Fl (Int×LI×LR×LO×LK×Int×LU×Int×LI×LR×LB×LL) aF)):=cond n (some (.out (.out (aF.mk (al.mk f (ai.mk g h i) j k) (ai.mk b c d) m e 45)))) ((nc (ai.mk b c d) l p o).bind fun q=>(kh d q).bind fun r=>gd (br (e.length + ([l]).length)) <| some (.out (.out (aF.mk (al.mk f (ai.mk g h i) j k) (ai.mk b c r) m (e ++ ([l])) s))))
def gA (p:ae) (i:LK) (k:Int) (l:LI) (b:LR) (m:LO) (n:LK) (o:Int) (c:LU) (d:Int) (e:LI) (f:LR) (g:LB) (h:LL) (j:ByteArray) (q:Bool):Option (Fl (LK×LY×Int×LI×LR×LO×LK×Int×LU×Int×LI×LR×LB×LL) (Fl (Int×LI×LR×LO×LK×Int×LU×Int×LI×LR×LB×LL) aF)):=cond (!(q)) (dI p i k l b m n o c d e f g h j (decide ((4000:Int)≤(b.length:Int)))) (dI p i k l b m n o c d e f g h j false)
def gB (urec:aF→ae→Option aF) (vrec:al→ae→Option (ByteArray×al)) (t:ae) (d:LK) (g:LY) (o:Int) (p:LI) (h:LR) (q:LO) (r:LK) (s:Int) (i:LU) (j:Int) (k:LI) (l:LR) (m:LB) (n:LL) (v:Bool) (u:ByteArray) (e:Int) (f:ByteArray):Option (Fl (LK×LY×Int×LI×LR×LO×LK×Int×LU×Int×LI×LR×LB×LL) (Fl (Int×LI×LR×LO×LK×Int×LU×Int×LI×LR×LB×LL) aF)):=cond v ((cn h t).bind fun x=>gA t d o p h q r s i j k l m n u x.2) ((urec (aF.mk (al.mk i (ai.mk j k l) m n) (ai.mk o p h) q r s) (ae.mk e f)).bind fun b=>cond ((b.E:Int) == 0) (gd (br (d.length + ([(ae.mk e f)]).length)) <| (kj vrec b.S b.B (ae.mk e f)).bind fun c=>gd (br (g.length + ([c.1]).length)) <| some (.go ((d ++ ([(ae.mk e f)])),(g ++ ([c.1])),b.B.Revision,b.B.Inputs,b.B.Records,b.Busy,b.Ran,b.E,c.2.Rules,c.2.Base.Revision,c.2.Base.Inputs,c.2.Base.Records,c.2.Memo,c.2.Seen))) (some (.go (d,g,b.B.Revision,b.B.Inputs,b.B.Records,b.Busy,b.Ran,b.E,b.S.Rules,b.S.Base.Revision,b.S.Base.Inputs,b.S.Base.Records,b.S.Memo,b.S.Seen))))
def eQ (urec:aF→ae→Option aF) (vrec:al→ae→Option (ByteArray×al)) (p:ae) (q:LK) (e:LY) (k:Int) (l:LI) (m:LR) (n:LO) (o:LK) (d:Int) (c:LU) (f:Int) (g:LI) (h:LR) (i:LB) (j:LL):Option (Fl (LK×LY×Int×LI×LR×LO×LK×Int×LU×Int×LI×LR×LB×LL) (Fl (Int×LI×LR×LO×LK×Int×LU×Int×LI×LR×LB×LL) aF)):=cond ((d:Int) == 0) ((di c p e).bind fun b=>gB urec vrec p q e k l m n o d c f g h i j b.Done b.Value b.Ask.Kind b.Ask.Text) (some (.out (.go (k,l,m,n,o,d,c,f,g,h,i,j))))
def fo (urec:aF→ae→Option aF) (vrec:al→ae→Option (ByteArray×al)) (b:aF) (c:ae):Option aF:=(loop (fun s:LK×LY×Int×LI×LR×LO×LK×Int×LU×Int×LI×LR×LB×LL=>eQ urec vrec c s.1 s.2.1 s.2.2.1 s.2.2.2.1 s.2.2.2.2.1 s.2.2.2.2.2.1 s.2.2.2.2.2.2.1 s.2.2.2.2.2.2.2.1 s.2.2.2.2.2.2.2.2.1 s.2.2.2.2.2.2.2.2.2.1 s.2.2.2.2.2.2.2.2.2.2.1 s.2.2.2.2.2.2.2.2.2.2.2.1 s.2.2.2.2.2.2.2.2.2.2.2.2.1 s.2.2.2.2.2.2.2.2.2.2.2.2.2) (([]:List ae),([]:List ByteArray),b.B.Revision,b.B.Inputs,b.B.Records,b.Busy,b.Ran,b.E,b.S.Rules,b.S.Base.Revision,b.S.Base.Inputs,b.S.Base.Records,b.S.Memo,b.S.Seen)).bind fun r=>Fl.el r (fun s=>gz s.1 s.2.1 s.2.2.1 s.2.2.2.1 s.2.2.2.2.1 s.2.2.2.2.2.1 s.2.2.2.2.2.2.1 s.2.2.2.2.2.2.2.1 s.2.2.2.2.2.2.2.2.1 s.2.2.2.2.2.2.2.2.2.1 s.2.2.2.2.2.2.2.2.2.2.1 s.2.2.2.2.2.2.2.2.2.2.2) (fun y=>some (y))
theorem sR (T:Nat→Prop) (W0:World) (hT:TW T W0) (urec:aF→ae→Option aF) (hurec:rM urec) (vrec:al→ae→Option (ByteArray×al)) (hvrec:lJ vrec) (d:aF) (C:ae) (e:Nat) (g:Nat) (v3:Value) (v4:Value) (q:Value) (k:Nat) (H:Array MapEntry) (L:Nat) (m:Nat) (o:Array MapEntry) (u:Nat) (K:Value) (t:Value) (b:Nat) (p:Array MapEntry) (z:Nat) (f:Value) (n:List Value) (hD:vd T W0 [xE e g d.B.Revision K t b f d.E,xS g v3 d.S.Base.Revision v4 q k m,om k H L,om m o u,om b p z,au f n]) (hG:aA ay (dT T [xE e g d.B.Revision K t b f d.E,xS g v3 d.S.Base.Revision v4 q k m,om k H L,om m o u,om b p z,au f n]) W0 v3 d.S.Rules) (hH:aA ad (dT T [xE e g d.B.Revision K t b f d.E,xS g v3 d.S.Base.Revision v4 q k m,om k H L,om m o u,om b p z,au f n]) W0 v4 d.S.Base.Inputs) (h4:aA aa (dT T [xE e g d.B.Revision K t b f d.E,xS g v3 d.S.Base.Revision v4 q k m,om k H L,om m o u,om b p z,au f n]) W0 q d.S.Base.Records) (hC:bx ac true aN.str false (dT T [xE e g d.B.Revision K t b f d.E,xS g v3 d.S.Base.Revision v4 q k m,om k H L,om m o u,om b p z,au f n]) W0 H d.S.Memo) (hE:bx ac true (aN.slice ac) false (dT T [xE e g d.B.Revision K t b f d.E,xS g v3 d.S.Base.Revision v4 q k m,om k H L,om m o u,om b p z,au f n]) W0 o d.S.Seen) (hx:aA ad (dT T [xE e g d.B.Revision K t b f d.E,xS g v3 d.S.Base.Revision v4 q k m,om k H L,om m o u,om b p z,au f n]) W0 K d.B.Inputs) (h5:aA aa (dT T [xE e g d.B.Revision K t b f d.E,xS g v3 d.S.Base.Revision v4 q k m,om k H L,om m o u,om b p z,au f n]) W0 t d.B.Records) (hw:bx ac true aN.bool false (dT T [xE e g d.B.Revision K t b f d.E,xS g v3 d.S.Base.Revision v4 q k m,om k H L,om m o u,om b p z,au f n]) W0 p d.Busy) (h6:aB ac (dT T [xE e g d.B.Revision K t b f d.E,xS g v3 d.S.Base.Revision v4 q k m,om k H L,om m o u,om b p z,au f n]) W0 n d.Ran) (hLv:cU (dT T [xE e g d.B.Revision K t b f d.E,xS g v3 d.S.Base.Revision v4 q k m,om k H L,om m o u,om b p z,au f n]) W0) (y:aF) (hM:fo urec vrec d C=some y):aW Tryz.prog (MD [xE e g d.B.Revision K t b f d.E,xS g v3 d.S.Base.Revision v4 q k m,om k H L,om m o u,om b p z,au f n]) 131 [pt e 0,.agg (aM C).toArray] W0 (fun v w'=>∃ (ag:Value) (c1:Value) (c2:Value) (a3:Array MapEntry) (b1:Nat) (ab:Array MapEntry) (b4:Nat) (c3:Value) (c4:Value) (af:Array MapEntry) (b5:Nat) (G:Value) (a2:List Value),v = .tuple #[]∧n7 W0 w' [xE e g d.B.Revision K t b f d.E,xS g v3 d.S.Base.Revision v4 q k m,om k H L,om m o u,om b p z,au f n] [xE e g y.B.Revision c3 c4 b G y.E,xS g ag y.S.Base.Revision c1 c2 k m,om k a3 b1,om m ab b4,om b af b5,au G a2]∧aA ay (dT T [xE e g y.B.Revision c3 c4 b G y.E,xS g ag y.S.Base.Revision c1 c2 k m,om k a3 b1,om m ab b4,om b af b5,au G a2]) w' ag y.S.Rules∧aA ad (dT T [xE e g y.B.Revision c3 c4 b G y.E,xS g ag y.S.Base.Revision c1 c2 k m,om k a3 b1,om m ab b4,om b af b5,au G a2]) w' c1 y.S.Base.Inputs∧aA aa (dT T [xE e g y.B.Revision c3 c4 b G y.E,xS g ag y.S.Base.Revision c1 c2 k m,om k a3 b1,om m ab b4,om b af b5,au G a2]) w' c2 y.S.Base.Records∧bx ac true aN.str false (dT T [xE e g y.B.Revision c3 c4 b G y.E,xS g ag y.S.Base.Revision c1 c2 k m,om k a3 b1,om m ab b4,om b af b5,au G a2]) w' a3 y.S.Memo∧bx ac true (aN.slice ac) false (dT T [xE e g y.B.Revision c3 c4 b G y.E,xS g ag y.S.Base.Revision c1 c2 k m,om k a3 b1,om m ab b4,om b af b5,au G a2]) w' ab y.S.Seen∧aA ad (dT T [xE e g y.B.Revision c3 c4 b G y.E,xS g ag y.S.Base.Revision c1 c2 k m,om k a3 b1,om m ab b4,om b af b5,au G a2]) w' c3 y.B.Inputs∧aA aa (dT T [xE e g y.B.Revision c3 c4 b G y.E,xS g ag y.S.Base.Revision c1 c2 k m,om k a3 b1,om m ab b4,om b af b5,au G a2]) w' c4 y.B.Records∧bx ac true aN.bool false (dT T [xE e g y.B.Revision c3 c4 b G y.E,xS g ag y.S.Base.Revision c1 c2 k m,om k a3 b1,om m ab b4,om b af b5,au G a2]) w' af y.Busy∧aB ac (dT T [xE e g y.B.Revision c3 c4 b G y.E,xS g ag y.S.Base.Revision c1 c2 k m,om k a3 b1,om m ab b4,om b af b5,au G a2]) w' a2 y.Ran):=by
 refine jp (c:=_) Tryz.func131 rfl T 107 Tryz.ntmps131 hT rfl hD fun a hS=>?_;replace hS:=(((((((((hS.fact bv hLv).fS hG).fS hH).fS h4).fM hC).fM hE).fS hx).fS h5).fM hw).fR h6;unfold fo at hM;refine ah hS fun a hS=>?_;refine kb hS fun bt jb a w hk hS=>?_;refine IY hS fun a hS=>?_;refine jV ?_;refine IY hS fun a hS=>?_;refine jV ?_;refine IY hS fun a hS=>?_;refine DU (J:=fun a w=>∃ (el:Int) (em:LI) (eq:LR) (er:LO) (et:LK) (ex:Int) (e2:LU) (e3:Int) (e4:LI) (e5:LR) (e8:LB) (ea:LL) (cv:AM) (dl:Nat) (d3:Value) (cs:LV) (d0:AM) (dn:Nat) (d1:AM) (ds:Nat) (d4:Value) (d6:Value) (da:Value) (dc:Value) (dk:Value),St W0 (MD [xE e g d.B.Revision K t b f d.E,xS g v3 d.S.Base.Revision v4 q k m,om k H L,om m o u,om b p z,au f n]) T 107 [] [om b cv dl,au d3 cs,xE e g el d4 d6 b d3 ex,om k d0 dn,om m d1 ds,xS g da e3 dc dk k m] [aJ ad d4 em,aJ aa d6 eq,sx cv er,am ac cs et,aJ ay da e2,aJ ad dc e4,aJ aa dk e5,iv d0 e8,po d1 ea,bv] a w∧gz el em eq er et ex e2 e3 e4 e5 e8 ea=some y) ?_ ?_
 ·skip;refine ah hS fun a hS=>?_;replace hS:=(hS.nilRow ac 44 (by decide)).nilRow aN.str 9 (by decide);obtain⟨r1,hF,hMo1⟩:=bd hM;refine bu _ (fun s a w=>∃ (Z:LK) (bb:LY) (O:Int) (P:LI) (A:LR) (a0:LO) (Q:LK) (a1:Int) (I:LU) (U:Int) (V:LI) (W:LR) (X:LB) (Y:LL) (M:Value) (bi:LV) (ck:Value) (cl:LV) (a4:AM) (c9:Nat) (ak:Value) (b3:LV) (a5:AM) (ca:Nat) (a9:AM) (cb:Nat) (ao:Value) (b8:Value) (av:Value) (ax:Value) (b0:Value),(Z,bb,O,P,A,a0,Q,a1,I,U,V,W,X,Y)=s∧St W0 (MD [xE e g d.B.Revision K t b f d.E,xS g v3 d.S.Base.Revision v4 q k m,om k H L,om m o u,om b p z,au f n]) T 107 [(0,pt e 0),(3,pt bt 0),(4,M),(5,ck)] [au M bi,.own ck 9 aN.str.size cl,om b a4 c9,au ak b3,xE e g O ao b8 b ak a1,.box bt (aM C) 44,om k a5 ca,om m a9 cb,xS g av U ax b0 k m] [am ac bi Z,am aN.str cl bb,aJ ad ao P,aJ aa b8 A,sx a4 a0,am ac b3 Q,aJ ay av I,aJ ad ax V,aJ aa b0 W,iv a5 X,po a9 Y,bv] a w) hF ⟨_,_,_,_,_,_,_,_,_,_,_,_,_,_,_,_,_,_,_,_,_,_,_,_,_,_,_,_,_,_,_,rfl,hS.mt [1,0,7,8,3,2,5,6,4] [1,0,5,4,3,2,10,9,8,7,6,11]⟩ ?_;rintro s a w f1 ⟨Z,bb,O,P,A,a0,Q,a1,I,U,V,W,X,Y,M,bi,ck,cl,a4,c9,ak,b3,a5,ca,a9,cb,ao,b8,av,ax,b0,rfl,hS⟩ hM hf1;have hM:eQ urec vrec C Z bb O P A a0 Q a1 I U V W X Y=some f1:=hM;unfold eQ at hM;refine az ?_;refine ah hS fun a hS=>?_;rcases cd hM with⟨hc,hM⟩|⟨hc,hM⟩
  ·refine ah hS fun a hS=>?_;refine aG (J:=fun a w=>∃ (co:Bool) (c0:ByteArray) (D:Int) (F:ByteArray) (c5:Nat),St W0 (MD [xE e g d.B.Revision K t b f d.E,xS g v3 d.S.Base.Revision v4 q k m,om k H L,om m o u,om b p z,au f n]) T 107 [(0,pt e 0),(3,pt bt 0),(4,M),(5,ck),(6,pt c5 0)] [au M bi,.own ck 9 aN.str.size cl,om b a4 c9,au ak b3,xE e g O ao b8 b ak a1,.box bt (aM C) 44,.box c5 [.bool co,.string c0,.int .i64 D,.string F] 190,om k a5 ca,om m a9 cb,xS g av U ax b0 k m] [am ac bi Z,am aN.str cl bb,aJ ad ao P,aJ aa b8 A,sx a4 a0,am ac b3 Q,aJ ay av I,aJ ad ax V,aJ aa b0 W,iv a5 X,po a9 Y,bv] a w∧gB urec vrec C Z bb O P A a0 Q a1 I U V W X Y co c0 D F=some f1) ?_ ?_
   ·skip;obtain⟨N181,gs⟩:∃ N,N=w.heap.size:=⟨_,rfl⟩;replace hS:=hS.fact (BA N181) (Nat.le_of_eq gs);refine dr [(11,.new N181)] hS fun w hQ hS=>?_;refine gE [0,1,2,3,4,5,6,7,8] hS fun a hS=>?_;have hL:=hS;replace hL:=hL.freeze (R:=aN.str) 1 rfl 2 rfl;obtain⟨k0,eX,hM⟩:=bd hM;refine de (i:=9) (j:=10) rfl rfl (by kernel_rfl) rfl rfl ?_ ?_
    ·skip;skip;have hL:=hS;replace hL:=hL.freeze (R:=aN.str) 1 rfl 2 rfl;refine id (a8 hS tb rfl rfl (eZ _ _ hL.dlt (hL.get 13 rfl) I C bb _ _ (hL.get 8 rfl) (hL.get 0 rfl) _ eX) fun _ w hR a hk hA=>⟨fc (hk),?_⟩);obtain rfl:=hR;have hS:=bV hA;have hd:=(hS.get 0 rfl:N181≤w.heap.size);refine e1 10 (cr hS mP rfl fun h7 hf a w hk hS=>⟨fc (hk),?_⟩);refine cC 11 (.blk (some h7)) _ (by kernel_rfl) (lZ (Nat.le_trans hd hf)) ?_;refine es 11 hS fun w hS=>?_;refine eD ?_;exact⟨_,_,_,_,_,hS.mt [1,2,3,4,5,6,0,7,8,9] [1,2,3,4,5,6,7,8,9,10,11,12],hM⟩
    skip;have hg:=(hS.get 0 rfl:N181≤w.heap.size);refine id (cr hS mP rfl fun h8 hh a w hk hS=>⟨fc (hk),?_⟩);refine cC 11 (.blk (some h8)) _ (by kernel_rfl) (lZ (Nat.le_trans hg hh)) ?_;have hL:=hS;replace hL:=hL.freeze (R:=aN.str) 2 rfl 2 rfl;refine ec 9 hS tb (eZ _ _ hL.dlt (hL.get 13 rfl) I C bb _ _ (hL.get 8 rfl) (hL.get 0 rfl) _ eX) fun _ w hR a hk hA=>?_;obtain rfl:=hR;have hS:=bV hA;refine es 11 hS fun w hS=>?_;refine eD ?_;exact⟨_,_,_,_,_,hS.mt [1,2,3,4,5,6,0,7,8,9] [1,2,3,4,5,6,7,8,9,10,11,12],hM⟩
   rintro a w ⟨co,c0,D,F,c5,hS,hM⟩;unfold gB at hM;refine az ?_;refine ah hS fun a hS=>?_;rcases cd hM with⟨hi,hM⟩|⟨hi,hM⟩
   ·refine ah hS fun a hS=>?_;refine az ?_;refine aG (J:=fun a w=>∃ (eg:Bool),St W0 (MD [xE e g d.B.Revision K t b f d.E,xS g v3 d.S.Base.Revision v4 q k m,om k H L,om m o u,om b p z,au f n]) T 107 [(0,pt e 0),(3,pt bt 0),(4,M),(6,pt c5 0),(8,.bool eg)] [au M bi,om b a4 c9,au ak b3,xE e g O ao b8 b ak a1,.box bt (aM C) 44,.box c5 [.bool co,.string c0,.int .i64 D,.string F] 190,om k a5 ca,om m a9 cb,xS g av U ax b0 k m] [am ac bi Z,aJ ad ao P,aJ aa b8 A,sx a4 a0,am ac b3 Q,aJ ay av I,aJ ad ax V,aJ aa b0 W,iv a5 X,po a9 Y,bv] a w∧gA C Z O P A a0 Q a1 I U V W X Y c0 eg=some f1) ?_ ?_
    ·skip;obtain⟨N189,gu⟩:∃ N,N=w.heap.size:=⟨_,rfl⟩;replace hS:=hS.fact (BA N189) (Nat.le_of_eq gu);refine dr [(11,.new N189)] hS fun w hQ hS=>?_;refine gE [0,1,2,3,4,5] hS fun a hS=>?_;obtain⟨js,eT,hM⟩:=bd hM;refine de (i:=6) (j:=10) rfl rfl (by kernel_rfl) rfl rfl ?_ ?_
     ·skip;skip;refine id (a8 hS kD rfl rfl (bI _ _ hS.dlt A C _ (hS.get 4 rfl) _ eT) fun _ w hR a hk hA=>⟨fc (hk),?_⟩);obtain⟨k1,hN,he,fn⟩:=hR;obtain rfl:=he.symm;have hS:=oI hA fn;refine gE [7,8,9] hS fun a hS=>?_;have hj:=(hS.get 1 rfl:N189≤w.heap.size);refine e1 10 (cr hS ft rfl fun h9 hl a w hk hS=>⟨fc (hk),?_⟩);refine cC 11 (.blk (some h9)) _ (by kernel_rfl) (lZ (Nat.le_trans hj hl)) ?_;refine es 11 hS fun w hS=>?_;refine gE [12] hS fun a hS=>?_;refine eD ?_;exact⟨_,hS.mt [2,4,5,6,7,8,9,10,11] [2,4,5,6,7,8,9,10,11,12,13],hM⟩
     skip;have hm:=(hS.get 0 rfl:N189≤w.heap.size);refine id (cr hS ft rfl fun ha hn a w hk hS=>⟨fc (hk),?_⟩);refine cC 11 (.blk (some ha)) _ (by kernel_rfl) (lZ (Nat.le_trans hm hn)) ?_;refine ec 6 hS kD (bI _ _ hS.dlt A C _ (hS.get 4 rfl) _ eT) fun _ w hR a hk hA=>?_;obtain⟨k2,hP,he,fr⟩:=hR;obtain rfl:=he.symm;have hS:=oI hA fr;refine gE [7,8,9] hS fun a hS=>?_;refine es 11 hS fun w hS=>?_;refine gE [12] hS fun a hS=>?_;refine eD ?_;exact⟨_,hS.mt [2,4,5,6,7,8,9,10,11] [2,4,5,6,7,8,9,10,11,12,13],hM⟩
    rintro a w ⟨eg,hS,hM⟩;unfold gA at hM;refine aG (J:=fun a w=>∃ (ed:Bool),St W0 (MD [xE e g d.B.Revision K t b f d.E,xS g v3 d.S.Base.Revision v4 q k m,om k H L,om m o u,om b p z,au f n]) T 107 [(0,pt e 0),(3,pt bt 0),(4,M),(6,pt c5 0),(46,.bool ed)] [au M bi,om b a4 c9,au ak b3,xE e g O ao b8 b ak a1,.box bt (aM C) 44,.box c5 [.bool co,.string c0,.int .i64 D,.string F] 190,om k a5 ca,om m a9 cb,xS g av U ax b0 k m] [am ac bi Z,aJ ad ao P,aJ aa b8 A,sx a4 a0,am ac b3 Q,aJ ay av I,aJ ad ax V,aJ aa b0 W,iv a5 X,po a9 Y,bv] a w∧dI C Z O P A a0 Q a1 I U V W X Y c0 ed=some f1) ?_ ?_
    ·exact fz
    rintro a w ⟨ed,hS,hM⟩;unfold dI at hM;rcases cd hM with⟨ho,hM⟩|⟨ho,hM⟩
    ·refine go hS fun a w hS=>?_;cases hM
     have hr:=hf1 _ rfl;subst hr;replace hMo1:=jo hMo1;have hM:=hMo1;cases hM
     refine aE hS Tryz.results131 aD ?_;have hZ:=hS.sl [3,8,6,7,1,2] [5,6,7,8,9,1,2,3,4];exact⟨av,ax,b0,a5,ca,a9,cb,ao,b8,a4,c9,ak,b3,rfl,hZ.dnew,(hZ.get 0 rfl),(hZ.get 1 rfl),(hZ.get 2 rfl),(hZ.get 3 rfl),(hZ.get 4 rfl),(hZ.get 5 rfl),(hZ.get 6 rfl),(hZ.get 7 rfl),(hZ.get 8 rfl)⟩
    refine ah hS fun a hS=>?_;refine az ?_;refine dr [(19,.blk (some e))] hS fun w hQ hS=>?_;refine gE [0,1,2,3,4,5,6,7,8,9,10,11,12,13] hS fun a hS=>?_;replace hS:=hS.freeze (R:=ac) 0 rfl 0 rfl;obtain⟨hy,h0,hM⟩:=bd hM;refine ec 14 hS FU (tF _ _ hS.dlt (ai.mk O P A) C c0 Z _ _ _ (hS.get 2 rfl) (hS.get 3 rfl) (hS.get 0 rfl) _ h0) fun _ w hR a hk hA=>?_;obtain⟨k3,he,fs⟩:=hR;obtain rfl:=he.symm;have hS:=hA [] (fun r hr=>by cases hr) List.Pairwise.nil;replace hS:=hS.fS (fs.sub (iB _));obtain⟨jc,h1,hM⟩:=bd hM;refine ec 15 hS FT (uK _ _ hS.dlt (hS.get 12 rfl) A hy _ _ (hS.get 4 rfl) (hS.get 0 rfl) _ h1) fun _ w hR a hk hA=>?_;obtain⟨hz,hV,he,g0⟩:=hR;obtain rfl:=he.symm;have hS:=oI hA g0;refine gE [16,17,18] hS fun a hS=>?_;refine es 19 hS fun w hS=>?_;refine eD ?_;refine ah hS fun a hS=>?_;refine az ?_;refine dr [(7,.blk (Value.ownBlock ak)),(10,.blk (some e))] hS fun w hQ hS=>?_;refine gE [0,1,2,3,4,5] hS fun a hS=>?_;refine e1 6 (aT (ps:=[(0,.tmp 74)]) hS gm gh (zl:=[.int .i64 0,.string (ByteArray.mk #[])]) (by kernel_rfl) rfl (us:=[(aM C)]) ⟨rfl,trivial⟩ (ws:=(aM C)) rfl rfl rfl rfl fun hI a w hk hS=>⟨fc (hk),?_⟩);replace hS:=(hS.lit (R:=ac) (us:=(aM C)) (xs:=[C]) 0 rfl (by decide) (aB.one_ (R:=ac) (x:=C) rfl) rfl rfl).freeze (R:=ac) 0 rfl 0 rfl;obtain⟨hp,hM⟩:=aS hM;refine e1 7 (bw (R:=ac) (xs:=Q) (ys:=[C]) hS gm (by decide) (by decide) rfl rfl 2 rfl 9 rfl 0 rfl hp rfl fun hB hb a w hk hS=>⟨kB rfl hk kH,?_⟩);refine gE [8,9] hS fun a hS=>?_;refine es 10 hS fun w hS=>?_;refine eD ?_;refine ah hS fun a hS=>?_;replace hS:=hS.freeze (R:=aa) 0 rfl 3 rfl;cases hM
    have hr:=hf1 _ rfl;subst hr;replace hMo1:=jo hMo1;have hM:=hMo1;cases hM
    refine aE hS Tryz.results131 aD ?_;have hZ:=hS.sl [2,7,5,6,0,1] [12,13,14,15,16,8,0,10,1];exact⟨av,ax,b0,a5,ca,a9,cb,ao,hz,a4,c9,hB,hb,rfl,hZ.dnew,(hZ.get 0 rfl),(hZ.get 1 rfl),(hZ.get 2 rfl),(hZ.get 3 rfl),(hZ.get 4 rfl),(hZ.get 5 rfl),(hZ.get 6 rfl),(hZ.get 7 rfl),(hZ.get 8 rfl)⟩
   refine ah hS fun a hS=>?_;obtain⟨d2,h2,hM⟩:=bd hM;replace hS:=hS.re [4,9,7,8,2,3] [0,1,5,6];refine wl rfl (cu hS GD rfl rfl (hurec _ _ hS.dltD (aF.mk (al.mk I (ai.mk U V W) X Y) (ai.mk O P A) a0 Q a1) (ae.mk D F) _ _ _ _ _ _ _ _ _ _ _ _ _ _ _ _ _ _ hS.dok (hS.getD 6 rfl) (hS.getD 7 rfl) (hS.getD 8 rfl) (hS.getD 9 rfl) (hS.getD 10 rfl) (hS.getD 2 rfl) (hS.getD 3 rfl) (hS.getD 4 rfl) (hS.getD 5 rfl) (hS.getD 11 rfl) _ h2) fun _ w hR a hk hA=>?_);obtain⟨k4,kk,ks,i9,hW,ib,hX,gb,gi,ih,hY,kt,i0,he,hq,g1,g2,g3,f3,f4,g4,g5,f6,f2⟩:=hR;obtain rfl:=he.symm;have hS:=hA _ hq;replace hS:=((((((((hS.fS (g1.sub (aw _))).fS (g2.sub (aw _))).fS (g3.sub (aw _))).fM (f3.keep (Kt.refl _ _) (aw _))).fM (f4.keep (Kt.refl _ _) (aw _))).fS (g4.sub (aw _))).fS (g5.sub (aw _))).fM (f6.keep (Kt.refl _ _) (aw _))).fR (f2.keep (Kt.refl _ _) (aw _));refine ah hS fun a hS=>?_;rcases cd hM with⟨hs,hM⟩|⟨hs,hM⟩
   ·refine ah hS fun a hS=>?_;refine dr [(4,.blk (Value.ownBlock M)),(16,.bks [some g,some k,some m]),(18,.blk (Value.ownBlock ck))] hS fun w hQ hS=>?_;refine gE [0,1,2,5,6,7,8] hS fun a hS=>?_;refine dy (l:=[.blk (Value.ownBlock M)]) 9 (v:=pt g 0) rfl (by kernel_rfl) (by kernel_rfl) (by kernel_rfl) (by kernel_rfl) hQ hS (dH hS rfl Gc 0 rfl (ic hS 0 rfl rfl 6 rfl rfl (by decide) bo) (us:=[pt g 0]) rfl rfl (fun _=>rfl)) rfl rfl rfl fun a hS=>?_;refine gE [10,11,12] hS fun a hS=>?_;refine dy (l:=[.blk (Value.ownBlock M)]) 13 (v:=.agg (aQ d2.B gb gi).toArray) rfl (by kernel_rfl) (by kernel_rfl) (by kernel_rfl) (by kernel_rfl) hQ hS (dH hS rfl ez 0 rfl (ic hS 0 rfl rfl 6 rfl rfl (by decide) bo) (us:=(aQ d2.B gb gi)) rfl rfl (fun h=>by cases h)) rfl rfl rfl fun a hS=>?_;refine gE [14] hS fun a hS=>?_;refine dy (l:=[.blk (Value.ownBlock M)]) 15 (v:=.agg #[.int .i64 D,.string F]) rfl (by kernel_rfl) (by kernel_rfl) (by kernel_rfl) (by kernel_rfl) hQ hS (dH hS rfl dd 9 rfl (ic hS 9 rfl rfl 6 rfl rfl (by decide) bo) (us:=[.int .i64 D,.string F]) rfl rfl (fun h=>by cases h)) rfl rfl rfl fun a hS=>?_;refine e1 3 (aT (ps:=[(0,.tmp 90)]) hS gm gh (zl:=[.int .i64 0,.string (ByteArray.mk #[])]) (by kernel_rfl) rfl (us:=[[.int .i64 D,.string F]]) ⟨rfl,trivial⟩ (ws:=[.int .i64 D,.string F]) rfl rfl rfl rfl fun hJ a w hk hS=>⟨fc (hk),?_⟩);replace hS:=(hS.lit (R:=ac) (us:=[.int .i64 D,.string F]) (xs:=[(ae.mk D F)]) 0 rfl (by decide) (aB.one_ (R:=ac) (x:=(ae.mk D F)) rfl) rfl rfl).freeze (R:=ac) 0 rfl 0 rfl;obtain⟨ht,hM⟩:=aS hM;refine e1 4 (bw (R:=ac) (xs:=Z) (ys:=[(ae.mk D F)]) hS gm (by decide) (by decide) rfl rfl 6 rfl 11 rfl 0 rfl ht rfl fun kv i2 a w hk hS=>⟨kB rfl hk kH,?_⟩);obtain⟨ch,h3,hM⟩:=bd hM;replace hS:=hS.re [1,2,3] [0,4,5,6,7,8,9];refine e1 16 (cu hS FW rfl rfl (rD _ _ hS.dltD vrec hvrec d2.S d2.B (ae.mk D F) _ _ _ _ _ _ _ _ _ _ _ _ hS.dok (hS.getD 11 rfl) (hS.getD 10 rfl) (hS.getD 9 rfl) (hS.getD 8 rfl) (hS.getD 7 rfl) (hS.getD 6 rfl) (hS.getD 5 rfl) (hS.getD 23 rfl) _ h3) fun _ w hR a hk hA=>⟨kB rfl hk (yX rfl rfl),?_⟩);obtain⟨kx,l0,l1,ii,i3,it,i4,he,hu,g6,g7,g8,fd,fl⟩:=hR;obtain rfl:=he.symm;have hS:=hA _ hu;replace hS:=((((hS.fS (g6.sub (aw _))).fS (g7.sub (aw _))).fS (g8.sub (aw _))).fM (fd.keep (Kt.refl _ _) (aw _))).fM (fl.keep (Kt.refl _ _) (aw _));refine e1 17 (aT (ps:=[(0,.tmp 104)]) hS uQ H0 (zl:=[.string (ByteArray.mk #[])]) (by kernel_rfl) rfl (us:=[[.string ch.1]]) ⟨rfl,trivial⟩ (ws:=[.string ch.1]) rfl rfl rfl rfl fun hK a w hk hS=>⟨fc (hk),?_⟩);replace hS:=(hS.lit (R:=aN.str) (us:=[.string ch.1]) (xs:=[ch.1]) 0 rfl (by decide) (aB.one_ (R:=aN.str) (x:=ch.1) rfl) rfl rfl).freeze (R:=aN.str) 0 rfl 0 rfl;obtain⟨hv,hM⟩:=aS hM;refine e1 18 (bw (R:=aN.str) (xs:=bb) (ys:=[ch.1]) hS uQ (by decide) (by decide) rfl rfl 7 rfl 20 rfl 0 rfl hv rfl fun l2 i5 a w hk hS=>⟨kB rfl hk kH,?_⟩);refine gE [19,20] hS fun a hS=>?_;refine eD ?_;exact⟨_,(Option.some.inj hM).symm,_,_,_,_,_,_,_,_,_,_,_,_,_,_,_,_,_,_,_,_,_,_,_,_,_,_,_,_,_,_,_,rfl,hS.mt [6,7,4,5,3,8,1,2,0] [8,0,14,13,12,11,7,6,5,4,3,31]⟩
   exact fz
  refine ah hS fun a hS=>?_;cases hM
  have hr:=hf1 _ rfl;subst hr;replace hMo1:=IV hMo1;have hM:gz O P A a0 Q a1 I U V W X Y=some y:=hMo1;exact⟨_,_,_,_,_,_,_,_,_,_,_,_,_,_,_,_,_,_,_,_,_,_,_,_,_,hS.mt [2,3,4,6,7,8] [2,3,4,5,6,7,8,9,10,11],hM⟩
 rintro a w ⟨el,em,eq,er,et,ex,e2,e3,e4,e5,e8,ea,cv,dl,d3,cs,d0,dn,d1,ds,d4,d6,da,dc,dk,hS,hM⟩;unfold gz at hM;refine GJ ?_;cases hM
 refine aE hS Tryz.results131 aD ?_;have hZ:=hS.sl [2,5,3,4,0,1] [4,5,6,7,8,0,1,2,3];exact⟨da,dc,dk,d0,dn,d1,ds,d4,d6,cv,dl,d3,cs,rfl,hZ.dnew,(hZ.get 0 rfl),(hZ.get 1 rfl),(hZ.get 2 rfl),(hZ.get 3 rfl),(hZ.get 4 rfl),(hZ.get 5 rfl),(hZ.get 6 rfl),(hZ.get 7 rfl),(hZ.get 8 rfl)⟩
def io (b:aF) (c:Int):Option aF:=some ((aF.mk b.S b.B b.Busy b.Ran c))
def dZ (n:ae) (h:Int) (i:LI) (j:LR) (k:LO) (l:LK) (m:Int) (b:LU) (c:Int) (d:LI) (e:LR) (f:LB) (g:LL):Option aF:=some ((aF.mk (al.mk b (ai.mk c d e) f g) (ai.mk h i j) (pE aC n k) l m))
def d5 (urec:aF→ae→Option aF) (vrec:al→ae→Option (ByteArray×al)) (d:aF) (e:ae) (f:Bool):Option aF:=cond f (some (d)) ((some ((bQ aC e d.Busy).getD false)).bind fun g=>cond g ((bX e).bind fun h=>cond (!(h)) (io d 43) (io d d.E)) ((dY urec vrec (aF.mk d.S d.B (cT aC e true d.Busy) d.Ran d.E) e).bind fun b=>cond b.1 ((fo urec vrec (aF.mk (al.mk b.2.S.Rules (ai.mk b.2.S.Base.Revision b.2.S.Base.Inputs b.2.S.Base.Records) b.2.S.Memo b.2.S.Seen) (ai.mk b.2.B.Revision b.2.B.Inputs b.2.B.Records) b.2.Busy b.2.Ran b.2.E) e).bind fun c=>dZ e c.B.Revision c.B.Inputs c.B.Records c.Busy c.Ran c.E c.S.Rules c.S.Base.Revision c.S.Base.Inputs c.S.Base.Records c.S.Memo c.S.Seen) (dZ e b.2.B.Revision b.2.B.Inputs b.2.B.Records b.2.Busy b.2.Ran b.2.E b.2.S.Rules b.2.S.Base.Revision b.2.S.Base.Inputs b.2.S.Base.Records b.2.S.Memo b.2.S.Seen)))
def ip (urec:aF→ae→Option aF) (vrec:al→ae→Option (ByteArray×al)) (b:aF) (c:ae) (d:Bool) (f:Int) (g:ByteArray) (h:ByteArray) (i:LK) (j:Int) (e:Int) (k:Int) (l:Bool):Option aF:=cond d (d5 urec vrec b c ((e:Int) == b.B.Revision)) (d5 urec vrec b c false)
def iM (urec:aF→ae→Option aF) (vrec:al→ae→Option (ByteArray×al)) (c:aF) (d:ae):Option aF:=cond ((c.E:Int) != 0) (some (c)) ((ce d).bind fun e=>cond e (some (c)) ((cn c.B.Records d).bind fun b=>ip urec vrec c d b.2 b.1.Key.Kind b.1.Key.Text b.1.Value b.1.Reads b.1.Changed b.1.Verified b.1.Cost b.1.Dirty))
theorem tG (T:Nat→Prop) (W0:World) (hT:TW T W0) (urec:aF→ae→Option aF) (hurec:rM urec) (vrec:al→ae→Option (ByteArray×al)) (hvrec:lJ vrec) (b:aF) (x:ae) (e:Nat) (g:Nat) (A:Value) (C:Value) (D:Value) (h:Nat) (r:Array MapEntry) (u:Nat) (k:Nat) (n:Array MapEntry) (p:Nat) (s:Value) (t:Value) (d:Nat) (o:Array MapEntry) (q:Nat) (f:Value) (m:List Value) (hD:vd T W0 [xE e g b.B.Revision s t d f b.E,xS g A b.S.Base.Revision C D h k,om h r u,om k n p,om d o q,au f m]) (gp:aA ay (dT T [xE e g b.B.Revision s t d f b.E,xS g A b.S.Base.Revision C D h k,om h r u,om k n p,om d o q,au f m]) W0 A b.S.Rules) (gs:aA ad (dT T [xE e g b.B.Revision s t d f b.E,xS g A b.S.Base.Revision C D h k,om h r u,om k n p,om d o q,au f m]) W0 C b.S.Base.Inputs) (gu:aA aa (dT T [xE e g b.B.Revision s t d f b.E,xS g A b.S.Base.Revision C D h k,om h r u,om k n p,om d o q,au f m]) W0 D b.S.Base.Records) (gb:bx ac true aN.str false (dT T [xE e g b.B.Revision s t d f b.E,xS g A b.S.Base.Revision C D h k,om h r u,om k n p,om d o q,au f m]) W0 r b.S.Memo) (gi:bx ac true (aN.slice ac) false (dT T [xE e g b.B.Revision s t d f b.E,xS g A b.S.Base.Revision C D h k,om h r u,om k n p,om d o q,au f m]) W0 n b.S.Seen) (g5:aA ad (dT T [xE e g b.B.Revision s t d f b.E,xS g A b.S.Base.Revision C D h k,om h r u,om k n p,om d o q,au f m]) W0 s b.B.Inputs) (g6:aA aa (dT T [xE e g b.B.Revision s t d f b.E,xS g A b.S.Base.Revision C D h k,om h r u,om k n p,om d o q,au f m]) W0 t b.B.Records) (el:bx ac true aN.bool false (dT T [xE e g b.B.Revision s t d f b.E,xS g A b.S.Base.Revision C D h k,om h r u,om k n p,om d o q,au f m]) W0 o b.Busy) (g7:aB ac (dT T [xE e g b.B.Revision s t d f b.E,xS g A b.S.Base.Revision C D h k,om h r u,om k n p,om d o q,au f m]) W0 m b.Ran) (hLv:cU (dT T [xE e g b.B.Revision s t d f b.E,xS g A b.S.Base.Revision C D h k,om h r u,om k n p,om d o q,au f m]) W0) (y:aF) (hM:iM urec vrec b x=some y):aW Tryz.prog (MD [xE e g b.B.Revision s t d f b.E,xS g A b.S.Base.Revision C D h k,om h r u,om k n p,om d o q,au f m]) 95 [pt e 0,.agg (aM x).toArray] W0 (fun v w'=>∃ (P:Value) (Q:Value) (R:Value) (H:Array MapEntry) (L:Nat) (I:Array MapEntry) (M:Nat) (U:Value) (V:Value) (K:Array MapEntry) (O:Nat) (z:Value) (G:List Value),v = .tuple #[]∧n7 W0 w' [xE e g b.B.Revision s t d f b.E,xS g A b.S.Base.Revision C D h k,om h r u,om k n p,om d o q,au f m] [xE e g y.B.Revision U V d z y.E,xS g P y.S.Base.Revision Q R h k,om h H L,om k I M,om d K O,au z G]∧aA ay (dT T [xE e g y.B.Revision U V d z y.E,xS g P y.S.Base.Revision Q R h k,om h H L,om k I M,om d K O,au z G]) w' P y.S.Rules∧aA ad (dT T [xE e g y.B.Revision U V d z y.E,xS g P y.S.Base.Revision Q R h k,om h H L,om k I M,om d K O,au z G]) w' Q y.S.Base.Inputs∧aA aa (dT T [xE e g y.B.Revision U V d z y.E,xS g P y.S.Base.Revision Q R h k,om h H L,om k I M,om d K O,au z G]) w' R y.S.Base.Records∧bx ac true aN.str false (dT T [xE e g y.B.Revision U V d z y.E,xS g P y.S.Base.Revision Q R h k,om h H L,om k I M,om d K O,au z G]) w' H y.S.Memo∧bx ac true (aN.slice ac) false (dT T [xE e g y.B.Revision U V d z y.E,xS g P y.S.Base.Revision Q R h k,om h H L,om k I M,om d K O,au z G]) w' I y.S.Seen∧aA ad (dT T [xE e g y.B.Revision U V d z y.E,xS g P y.S.Base.Revision Q R h k,om h H L,om k I M,om d K O,au z G]) w' U y.B.Inputs∧aA aa (dT T [xE e g y.B.Revision U V d z y.E,xS g P y.S.Base.Revision Q R h k,om h H L,om k I M,om d K O,au z G]) w' V y.B.Records∧bx ac true aN.bool false (dT T [xE e g y.B.Revision U V d z y.E,xS g P y.S.Base.Revision Q R h k,om h H L,om k I M,om d K O,au z G]) w' K y.Busy∧aB ac (dT T [xE e g y.B.Revision U V d z y.E,xS g P y.S.Base.Revision Q R h k,om h H L,om k I M,om d K O,au z G]) w' G y.Ran):=by
 refine jp (c:=_) Tryz.func95 rfl T 64 Tryz.ntmps95 hT rfl hD fun a hS=>?_;replace hS:=(((((((((hS.fact bv hLv).fS gp).fS gs).fS gu).fM gb).fM gi).fS g5).fS g6).fM el).fR g7;unfold iM at hM;refine ah hS fun a hS=>?_;refine kb hS fun W hl a w hk hS=>?_;refine ah hS fun a hS=>?_;refine az ?_;refine jV ?_;refine ah hS fun a hS=>?_;rcases cd hM with⟨co,hM⟩|⟨co,hM⟩
 ·refine ah hS fun a hS=>?_;cases hM
  refine aE hS Tryz.results95 aD ?_;have hZ:=hS.sl [1,2,3,4,5,6] [8,7,6,5,4,3,2,1,0];exact⟨A,C,D,r,u,n,p,s,t,o,q,f,m,rfl,hZ.dnew,(hZ.get 0 rfl),(hZ.get 1 rfl),(hZ.get 2 rfl),(hZ.get 3 rfl),(hZ.get 4 rfl),(hZ.get 5 rfl),(hZ.get 6 rfl),(hZ.get 7 rfl),(hZ.get 8 rfl)⟩
 refine ah hS fun a hS=>?_;obtain⟨ho,ex,hM⟩:=bd hM;refine wg hS rfl rfl rfl co (a8 hS vq rfl rfl (c8 _ _ hS.dlt x _ ex) fun _ w hR a hk hA=>?_);obtain rfl:=hR;have hS:=bV hA;refine ah hS fun a hS=>?_;rcases cd hM with⟨f3,hM⟩|⟨f3,hM⟩
 ·refine ah hS fun a hS=>?_;cases hM
  refine aE hS Tryz.results95 aD ?_;have hZ:=hS.sl [1,2,3,4,5,6] [8,7,6,5,4,3,2,1,0];exact⟨A,C,D,r,u,n,p,s,t,o,q,f,m,rfl,hZ.dnew,(hZ.get 0 rfl),(hZ.get 1 rfl),(hZ.get 2 rfl),(hZ.get 3 rfl),(hZ.get 4 rfl),(hZ.get 5 rfl),(hZ.get 6 rfl),(hZ.get 7 rfl),(hZ.get 8 rfl)⟩
 refine ah hS fun a hS=>?_;refine az ?_;refine aG (J:=fun a w=>∃ (b5:Bool) (b8:Int) (bb:ByteArray) (bi:ByteArray) (bl:LK) (bs:Int) (bt:Int) (c0:Int) (c1:Bool) (a9:Nat) (c2:Value) (ab:LV),St W0 (MD [xE e g b.B.Revision s t d f b.E,xS g A b.S.Base.Revision C D h k,om h r u,om k n p,om d o q,au f m]) T 64 [(0,pt e 0),(3,pt W 0),(4,pt a9 0),(5,.bool b5)] [om d o q,au f m,xE e g b.B.Revision s t d f b.E,.box W (aM x) 44,au c2 ab,.box a9 [.int .i64 b8,.string bb,.string bi,c2,.int .i64 bs,.int .i64 bt,.int .i64 c0,.bool c1] 84,om h r u,om k n p,xS g A b.S.Base.Revision C D h k] [aJ ad s b.B.Inputs,aJ aa t b.B.Records,sx o b.Busy,am ac m b.Ran,am ac ab bl,aJ ay A b.S.Rules,aJ ad C b.S.Base.Inputs,aJ aa D b.S.Base.Records,iv r b.S.Memo,po n b.S.Seen,bv] a w∧ip urec vrec b x b5 b8 bb bi bl bs bt c0 c1=some y) ?_ ?_
 ·skip;obtain⟨N138,eg⟩:∃ N,N=w.heap.size:=⟨_,rfl⟩;replace hS:=hS.fact (BA N138) (Nat.le_of_eq eg);refine dr [(11,.new N138)] hS fun w hQ hS=>?_;refine gE [0,1,2,3,4,5] hS fun a hS=>?_;obtain⟨hp,ck,hM⟩:=bd hM;refine de (i:=6) (j:=10) rfl rfl (by kernel_rfl) rfl rfl ?_ ?_
  ·skip;skip;refine id (a8 hS kD rfl rfl (bI _ _ hS.dlt b.B.Records x _ (hS.get 3 rfl) _ ck) fun _ w hR a hk hA=>⟨fc (hk),?_⟩);obtain⟨hq,h0,he,dc⟩:=hR;obtain rfl:=he.symm;have hS:=oI hA dc;refine gE [7,8,9] hS fun a hS=>?_;have f4:=(hS.get 1 rfl:N138≤w.heap.size);refine e1 10 (cr hS ft rfl fun eT f6 a w hk hS=>⟨fc (hk),?_⟩);refine cC 11 (.blk (some eT)) _ (by kernel_rfl) (lZ (Nat.le_trans f4 f6)) ?_;refine es 11 hS fun w hS=>?_;refine gE [12] hS fun a hS=>?_;refine eD ?_;exact⟨_,_,_,_,_,_,_,_,_,_,_,_,hS.mt [7,8,3,2,1,0,5,6,4] [5,4,3,2,0,10,9,8,7,6,11],hM⟩
  skip;have fd:=(hS.get 0 rfl:N138≤w.heap.size);refine id (cr hS ft rfl fun eX fl a w hk hS=>⟨fc (hk),?_⟩);refine cC 11 (.blk (some eX)) _ (by kernel_rfl) (lZ (Nat.le_trans fd fl)) ?_;refine ec 6 hS kD (bI _ _ hS.dlt b.B.Records x _ (hS.get 3 rfl) _ ck) fun _ w hR a hk hA=>?_;obtain⟨hr,h1,he,dk⟩:=hR;obtain rfl:=he.symm;have hS:=oI hA dk;refine gE [7,8,9] hS fun a hS=>?_;refine es 11 hS fun w hS=>?_;refine gE [12] hS fun a hS=>?_;refine eD ?_;exact⟨_,_,_,_,_,_,_,_,_,_,_,_,hS.mt [7,8,3,2,0,1,5,6,4] [5,4,3,2,0,10,9,8,7,6,11],hM⟩
 rintro a w ⟨b5,b8,bb,bi,bl,bs,bt,c0,c1,a9,c2,ab,hS,hM⟩;unfold ip at hM;refine aG (J:=fun a w=>∃ (b4:Bool),St W0 (MD [xE e g b.B.Revision s t d f b.E,xS g A b.S.Base.Revision C D h k,om h r u,om k n p,om d o q,au f m]) T 64 [(0,pt e 0),(3,pt W 0),(35,.bool b4)] [om d o q,au f m,xE e g b.B.Revision s t d f b.E,.box W (aM x) 44,om h r u,om k n p,xS g A b.S.Base.Revision C D h k] [aJ ad s b.B.Inputs,aJ aa t b.B.Records,sx o b.Busy,am ac m b.Ran,aJ ay A b.S.Rules,aJ ad C b.S.Base.Inputs,aJ aa D b.S.Base.Records,iv r b.S.Memo,po n b.S.Seen,bv] a w∧d5 urec vrec b x b4=some y) ?_ ?_
 ·skip;refine dr [] hS fun w hQ hS=>?_;refine gE [0,1] hS fun a hS=>?_;rcases cd hM with⟨fn,hM⟩|⟨fn,hM⟩
  ·refine gE [2,3,4,5,6,7,8,9,10] hS fun a hS=>?_;refine eD ?_;exact⟨_,hS.mt [0,1,2,3,6,7,8] [0,1,2,3,5,6,7,8,9,10],hM⟩
  refine gE [2,3,4,5,6,7,8,9,10] hS fun a hS=>?_;refine eD ?_;exact⟨_,hS.mt [0,1,2,3,6,7,8] [0,1,2,3,5,6,7,8,9,10],hM⟩
 rintro a w ⟨b4,hS,hM⟩;unfold d5 at hM;rcases cd hM with⟨fr,hM⟩|⟨fr,hM⟩
 ·refine ah hS fun a hS=>?_;cases hM
  refine aE hS Tryz.results95 aD ?_;have hZ:=hS.sl [2,6,4,5,0,1] [4,5,6,7,8,0,1,2,3];exact⟨A,C,D,r,u,n,p,s,t,o,q,f,m,rfl,hZ.dnew,(hZ.get 0 rfl),(hZ.get 1 rfl),(hZ.get 2 rfl),(hZ.get 3 rfl),(hZ.get 4 rfl),(hZ.get 5 rfl),(hZ.get 6 rfl),(hZ.get 7 rfl),(hZ.get 8 rfl)⟩
 refine ah hS fun a hS=>?_;refine az ?_;refine az ?_;refine dr [] hS fun w hQ hS=>?_;refine gE [0,1,2,3,4] hS fun a hS=>?_;obtain⟨g8,em,hM⟩:=bd hM;obtain⟨h2,fs,g0⟩:=dO hS sw cc 0 rfl 2 rfl (c:=(aM x)) (key:=x) rfl H1 (zc:=[.bool false]) rfl rfl em;obtain rfl:=fs;refine dy (l:=[]) 5 (v:=.bool g8) rfl (by kernel_rfl) (by kernel_rfl) (by kernel_rfl) (by kernel_rfl) hQ hS (g0 rfl rfl bo) rfl rfl rfl fun a hS=>?_;refine eD ?_;refine ah hS fun a hS=>?_;rcases cd hM with⟨g1,hM⟩|⟨g1,hM⟩
 ·refine ah hS fun a hS=>?_;refine aG (J:=fun a w=>∃ (c3:Int),St W0 (MD [xE e g b.B.Revision s t d f b.E,xS g A b.S.Base.Revision C D h k,om h r u,om k n p,om d o q,au f m]) T 64 [] [om d o q,au f m,xE e g b.B.Revision s t d f c3,om h r u,om k n p,xS g A b.S.Base.Revision C D h k] [aJ ad s b.B.Inputs,aJ aa t b.B.Records,sx o b.Busy,am ac m b.Ran,aJ ay A b.S.Rules,aJ ad C b.S.Base.Inputs,aJ aa D b.S.Base.Records,iv r b.S.Memo,po n b.S.Seen,bv] a w∧io b c3=some y) ?_ ?_
  ·skip;refine ah hS fun a hS=>?_;obtain⟨hm,eq,hM⟩:=bd hM;refine kc hS tW (cm _ _ hS.dlt x _ eq) fun _ w hR a hk hA=>?_;obtain rfl:=hR;have hS:=bV hA;exact fz
  rintro a w ⟨c3,hS,hM⟩;unfold io at hM;refine ah hS fun a hS=>?_;cases hM
  refine aE hS Tryz.results95 aD ?_;have hZ:=hS.sl [2,5,3,4,0,1] [4,5,6,7,8,0,1,2,3];exact⟨A,C,D,r,u,n,p,s,t,o,q,f,m,rfl,hZ.dnew,(hZ.get 0 rfl),(hZ.get 1 rfl),(hZ.get 2 rfl),(hZ.get 3 rfl),(hZ.get 4 rfl),(hZ.get 5 rfl),(hZ.get 6 rfl),(hZ.get 7 rfl),(hZ.get 8 rfl)⟩
 refine ah hS fun a hS=>?_;refine az ?_;refine dr [(5,.blk (some d))] hS fun w hQ hS=>?_;refine gE [0,1,2,3,4] hS fun a hS=>?_;refine e1 5 (ub hS sw cc 0 rfl 2 rfl (c:=(aM x)) (cv:=[.bool true]) (key:=x) (val:=true) rfl rfl rfl rfl rfl fun hc h3 w hk hS=>⟨kB rfl hk iC,?_⟩);refine eD ?_;refine ah hS fun a hS=>?_;refine aG (J:=fun a w=>∃ (c4:Int) (c5:LI) (c9:LR) (ca:LO) (cb:LK) (ch:Int) (ao:LU) (av:Int) (ax:LI) (b0:LR) (b1:LB) (b3:LL) (ak:AM) (cl:Nat) (a0:Value) (X:LV) (Y:AM) (af:Nat) (Z:AM) (ag:Nat) (a1:Value) (a2:Value) (a3:Value) (a4:Value) (a5:Value),St W0 (MD [xE e g b.B.Revision s t d f b.E,xS g A b.S.Base.Revision C D h k,om h r u,om k n p,om d o q,au f m]) T 64 [(0,pt e 0),(3,pt W 0)] [om d ak cl,au a0 X,xE e g c4 a1 a2 d a0 ch,.box W (aM x) 44,om h Y af,om k Z ag,xS g a3 av a4 a5 h k] [aJ ad a1 c5,aJ aa a2 c9,sx ak ca,am ac X cb,aJ ay a3 ao,aJ ad a4 ax,aJ aa a5 b0,iv Y b1,po Z b3,bv] a w∧dZ x c4 c5 c9 ca cb ch ao av ax b0 b1 b3=some y) ?_ ?_
 ·skip;refine ah hS fun a hS=>?_;obtain⟨F,er,hM⟩:=bd hM;replace hS:=hS.re [2,6,4,5,0,1] [3];refine wl rfl (cu hS Ip rfl rfl (rE _ _ hS.dltD urec hurec vrec hvrec (aF.mk b.S b.B (cT aC x true b.Busy) b.Ran b.E) x _ _ _ _ _ _ _ _ _ _ _ _ _ _ _ _ _ _ hS.dok (hS.getD 5 rfl) (hS.getD 6 rfl) (hS.getD 7 rfl) (hS.getD 8 rfl) (hS.getD 9 rfl) (hS.getD 1 rfl) (hS.getD 2 rfl) (hS.getD 0 rfl) (hS.getD 4 rfl) (hS.getD 10 rfl) _ er) fun _ w hR a hk hA=>?_);obtain⟨hs,ht,hu,hd,h4,hf,h5,hv,hw,hg,h6,hx,h7,he,g2,dl,dn,ds,d1,d2,e2,e3,d3,cs⟩:=hR;obtain rfl:=he.symm;have hS:=hA _ g2;replace hS:=((((((((hS.fS (dl.sub (aw _))).fS (dn.sub (aw _))).fS (ds.sub (aw _))).fM (d1.keep (Kt.refl _ _) (aw _))).fM (d2.keep (Kt.refl _ _) (aw _))).fS (e2.sub (aw _))).fS (e3.sub (aw _))).fM (d3.keep (Kt.refl _ _) (aw _))).fR (cs.keep (Kt.refl _ _) (aw _));refine ah hS fun a hS=>?_;rcases cd hM with⟨g3,hM⟩|⟨g3,hM⟩
  ·refine ah hS fun a hS=>?_;obtain⟨hn,et,hM⟩:=bd hM;replace hS:=hS.re [0,1,2,3,4,5] [6];refine wl rfl (cu hS Iq rfl rfl (sR _ _ hS.dltD urec hurec vrec hvrec (aF.mk (al.mk F.2.S.Rules (ai.mk F.2.S.Base.Revision F.2.S.Base.Inputs F.2.S.Base.Records) F.2.S.Memo F.2.S.Seen) (ai.mk F.2.B.Revision F.2.B.Inputs F.2.B.Records) F.2.Busy F.2.Ran F.2.E) x _ _ _ _ _ _ _ _ _ _ _ _ _ _ _ _ _ _ hS.dok (hS.getD 8 rfl) (hS.getD 7 rfl) (hS.getD 6 rfl) (hS.getD 5 rfl) (hS.getD 4 rfl) (hS.getD 3 rfl) (hS.getD 2 rfl) (hS.getD 1 rfl) (hS.getD 0 rfl) (hS.getD 19 rfl) _ et) fun _ w hR a hk hA=>?_);obtain⟨hy,hz,hB,hh,h8,hi,h9,hC,hE,hj,ha,hF,hb,he,g4,e4,e5,e8,d4,d6,ea,ed,da,d0⟩:=hR;obtain rfl:=he.symm;have hS:=hA _ g4;replace hS:=((((((((hS.fS (e4.sub (aw _))).fS (e5.sub (aw _))).fS (e8.sub (aw _))).fM (d4.keep (Kt.refl _ _) (aw _))).fM (d6.keep (Kt.refl _ _) (aw _))).fS (ea.sub (aw _))).fS (ed.sub (aw _))).fM (da.keep (Kt.refl _ _) (aw _))).fR (d0.keep (Kt.refl _ _) (aw _));exact fz
  exact fz
 rintro a w ⟨c4,c5,c9,ca,cb,ch,ao,av,ax,b0,b1,b3,ak,cl,a0,X,Y,af,Z,ag,a1,a2,a3,a4,a5,hS,hM⟩;unfold dZ at hM;refine dr [(5,.blk (some d))] hS fun w hQ hS=>?_;refine gE [0,1,2,3,4] hS fun a hS=>?_;refine e1 5 (Hp hS sw cc 0 rfl 2 rfl (c:=(aM x)) (key:=x) rfl rfl rfl fun f2 f1 w hk hS=>⟨kB rfl hk iC,?_⟩);refine eD ?_;refine GJ ?_;cases hM
 refine aE hS Tryz.results95 aD ?_;have hZ:=hS.sl [2,6,4,5,0,1] [5,6,7,8,9,1,2,0,4];exact⟨a3,a4,a5,Y,af,Z,ag,a1,a2,f2,f1,a0,X,rfl,hZ.dnew,(hZ.get 0 rfl),(hZ.get 1 rfl),(hZ.get 2 rfl),(hZ.get 3 rfl),(hZ.get 4 rfl),(hZ.get 5 rfl),(hZ.get 6 rfl),(hZ.get 7 rfl),(hZ.get 8 rfl)⟩
def gU (g:ai) (c:Int) (d:LI) (e:LR) (i:LO) (f:LK) (b:Int) (j:LU) (k:Int) (l:LI) (m:LR) (n:LB) (o:LL):Option (ai×LK×Int):=cond ((b:Int) != 0) (some ((g,[],b))) ((im f).bind fun h=>some (((ai.mk c d e),h,0)))
def km (urec:aF→ae→Option aF) (c:LK) (d:Int) (e:Int) (f:LI) (g:LR) (h:LO) (i:LK) (j:Int) (k:LU) (l:Int) (m:LI) (n:LR) (o:LB) (p:LL):Option (Fl (Int×Int×LI×LR×LO×LK×Int×LU×Int×LI×LR×LB×LL) (Int×LI×LR×LO×LK×Int×LU×Int×LI×LR×LB×LL)):=cond (decide ((d:Int) < (c.length:Int))) ((be c d).bind fun q=>(urec (aF.mk (al.mk k (ai.mk l m n) o p) (ai.mk e f g) h i j) q).bind fun b=>some (.go (IntKind.i64.wrap (d + 1),b.B.Revision,b.B.Inputs,b.B.Records,b.Busy,b.Ran,b.E,b.S.Rules,b.S.Base.Revision,b.S.Base.Inputs,b.S.Base.Records,b.S.Memo,b.S.Seen))) (some (.out (e,f,g,h,i,j,k,l,m,n,o,p)))
def kl (urec:aF→ae→Option aF) (b:LK) (m:ai) (c:Int) (d:LI) (e:LR) (f:LO) (g:LU) (h:Int) (i:LI) (j:LR) (k:LB) (l:LL):Option (ai×LK×Int):=(loop (fun s:Int×Int×LI×LR×LO×LK×Int×LU×Int×LI×LR×LB×LL=>km urec b s.1 s.2.1 s.2.2.1 s.2.2.2.1 s.2.2.2.2.1 s.2.2.2.2.2.1 s.2.2.2.2.2.2.1 s.2.2.2.2.2.2.2.1 s.2.2.2.2.2.2.2.2.1 s.2.2.2.2.2.2.2.2.2.1 s.2.2.2.2.2.2.2.2.2.2.1 s.2.2.2.2.2.2.2.2.2.2.2.1 s.2.2.2.2.2.2.2.2.2.2.2.2) (0,c,d,e,f,([]:List ae),0,g,h,i,j,k,l)).bind fun r=>gU m r.1 r.2.1 r.2.2.1 r.2.2.2.1 r.2.2.2.2.1 r.2.2.2.2.2.1 r.2.2.2.2.2.2.1 r.2.2.2.2.2.2.2.1 r.2.2.2.2.2.2.2.2.1 r.2.2.2.2.2.2.2.2.2.1 r.2.2.2.2.2.2.2.2.2.2.1 r.2.2.2.2.2.2.2.2.2.2.2
def k5 (urec:aF→ae→Option aF) (e:LU) (h:ai) (d:LK):Option (ai×LK×Int):=(dX h).bind fun c=>(jO e c d).bind fun g=>cond ((g:Int) != 0) (some ((c,[],g))) ((r6 e c).bind fun b=>(dX c).bind fun f=>kl urec d c f.Revision f.Inputs f.Records ([]:LO) b.Rules b.Base.Revision b.Base.Inputs b.Base.Records b.Memo b.Seen)
theorem uU (T:Nat→Prop) (W0:World) (hT:TW T W0) (hLv:cU T W0) (urec:aF→ae→Option aF) (hurec:rM urec) (n:LU) (a3:ai) (c:LK) (v1:Value) (v2:Value) (v3:Value) (v4:Value) (hm:aA ay T W0 v1 n) (hn:aA ad T W0 v2 a3.Inputs) (ho:aA aa T W0 v3 a3.Records) (hp:aA ac T W0 v4 c) (y:ai×LK×Int) (hM:k5 urec n a3 c=some y):aW Tryz.prog No 60 [v1,.agg (aQ a3 v2 v3).toArray,v4] W0 (fun v w'=>∃ (v5:Value) (v6:Value) (v7:Value) (tT:List Value),v = .tuple #[.agg (aQ y.1 v5 v6).toArray,v7,.int .i64 y.2.2]∧aA ad (dT T [au v7 tT]) w' v5 y.1.Inputs∧aA aa (dT T [au v7 tT]) w' v6 y.1.Records∧fu ac T W0 w' [au v7 tT] 44 v7 tT y.2.1):=by
 refine en Tryz.func60 Tryz.ntmps60 hT fun a hS=>?_;replace hS:=((((hS.fact bv (cU.dn hLv)).fS (aA.dn hm)).fS (aA.dn hn)).fS (aA.dn ho)).fS (aA.dn hp);unfold k5 at hM;refine ah hS fun a hS=>?_;refine kb hS fun x ih a w hk hS=>?_;refine ka hS l4 fun f ii a w hk hS=>?_;refine ah hS fun a hS=>?_;obtain⟨b,h4,hM⟩:=bd hM;refine kc hS vr (dD _ _ hS.dlt a3 _ _ (hS.get 2 rfl) (hS.get 1 rfl) _ h4) fun _ w hR a hk hA=>?_;obtain⟨d,hD,e,hE,he,fs,g0,N⟩:=hR;obtain rfl:=he.symm;have hS:=s7 hA fs g0 N;refine go hS fun a w hS=>?_;refine az ?_;refine ah hS fun a hS=>?_;have hL:=hS;replace hL:=hL.freeze (R:=ad) 0 rfl 1 rfl;replace hL:=hL.freeze (R:=aa) 0 rfl 1 rfl;obtain⟨k3,h7,hM⟩:=bd hM;refine kc hS Gz (pM _ _ hL.dlt (hL.get 8 rfl) n b c _ _ _ _ (hL.get 7 rfl) (hL.get 1 rfl) (hL.get 0 rfl) (hL.get 4 rfl) _ h7) fun _ w hR a hk hA=>?_;obtain rfl:=hR;have hS:=bV hA;refine ah hS fun a hS=>?_;rcases cd hM with⟨hc,hM⟩|⟨hc,hM⟩
 ·refine go hS fun a w hS=>?_;replace hS:=(hS.freeze (R:=ad) 0 rfl 1 rfl).freeze (R:=aa) 0 rfl 1 rfl;cases hM
  refine aE hS Tryz.results60 (a7 hS rfl 0 rfl ez rfl (fun h=>by cases h) (ap hS rfl (ap hS rfl aD))) ?_;exact⟨d,e,.slice none 0 0,[],rfl,(aA.up ⟨.inl rfl,trivial⟩ (hS.get 1 rfl)),(aA.up ⟨.inl rfl,trivial⟩ (hS.get 0 rfl)),ir _ _ _ _ _ _⟩
 refine ah hS fun a hS=>?_;refine aG (J:=fun a w=>∃ (bt:Int) (c0:LI) (c1:LR) (c2:LO) (c3:LU) (c4:Int) (c5:LI) (c9:LR) (ca:LB) (cb:LL) (p:Nat) (q:Nat) (ch:Value) (a4:LV) (ck:Value) (a5:LV) (r:Nat) (af:AM) (e5:Nat) (t:Nat) (ag:AM) (e8:Nat) (u:Nat) (ak:AM) (ea:Nat) (cl:Value) (co:Value) (cv:Value),St W0 No T 60 [(2,v4),(4,pt x 0),(6,pt f 0),(10,pt p 0)] [.box x (aQ b d e) 31,.box f [.int .i64 0,.slice none 0 0,.slice none 0 0] 31,aR ch a4,aH ck a5,om r af e5,.box p [pt q 0,.int .i64 bt,ch,ck,.map (some r),.slice none 0 0,.int .i64 0] 138,om t ag e8,om u ak ea,xS q cl c4 co cv t u] [aJ ac v4 c,aJ ad d b.Inputs,aJ aa e b.Records,am ad a4 c0,am aa a5 c1,sx af c2,aJ ay cl c3,aJ ad co c5,aJ aa cv c9,iv ag ca,po ak cb,bv] a w∧kl urec c b bt c0 c1 c2 c3 c4 c5 c9 ca cb=some y) ?_ ?_
 ·skip;refine dr [(2,.bks [])] hS fun w hQ hS=>?_;refine gE [0,1] hS fun a hS=>?_;refine dy (l:=[.bks []]) 3 (v:=.agg (aQ b d e).toArray) rfl (by kernel_rfl) (by kernel_rfl) (by kernel_rfl) (by kernel_rfl) hQ hS (dH hS rfl ez 3 rfl (vI hS 3 rfl rfl [] rfl rfl bo) (us:=(aQ b d e)) rfl rfl (fun h=>by cases h)) rfl rfl rfl fun a hS=>?_;replace hS:=(hS.freeze (R:=ad) 0 rfl 1 rfl).freeze (R:=aa) 0 rfl 1 rfl;obtain⟨k4,ds,hM⟩:=bd hM;refine de (i:=2) (j:=5) rfl rfl (by kernel_rfl) rfl rfl ?_ ?_
  ·skip;skip;replace hS:=hS.re [] [0,1];refine id (cu hS GB rfl rfl (ry _ _ hS.dltD n b _ _ _ hS.dok (hS.getD 7 rfl) (hS.getD 1 rfl) (hS.getD 0 rfl) _ ds) fun _ w hR a hk hA=>⟨kB rfl hk t8,?_⟩);obtain⟨m,kk,ks,kt,hw,hY,hF,hx,i0,hG,he,g1,g2,g3,f3,f4,hd⟩:=hR;obtain rfl:=he.symm;have hS:=hA _ hd;replace hS:=((((hS.fS (g1.sub (aw _))).fS (g2.sub (aw _))).fS (g3.sub (aw _))).fM (f3.keep (Kt.refl _ _) (aw _))).fM (f4.keep (Kt.refl _ _) (aw _));obtain⟨o,e2,hM⟩:=bd hM;refine de (i:=4) (j:=5) rfl rfl (by kernel_rfl) rfl rfl ?_ ?_
   ·skip;skip;refine id (a8 hS vr rfl rfl (dD _ _ hS.dlt b _ _ (hS.get 6 rfl) (hS.get 5 rfl) _ e2) fun _ w hR a hk hA=>⟨fc (hk),?_⟩);obtain⟨Z,hH,a0,hI,he,g4,g5,N⟩:=hR;obtain rfl:=he.symm;have hS:=s7 hA g4 g5 N;refine e1 5 (ol ac true aN.bool false hS rfl fun Q it a w hk hS=>⟨fc (hk),?_⟩);refine dy 6 (v:=.agg #[pt m 0,.int .i64 o.Revision,Z,a0,.map (some Q),.slice none 0 0,.int .i64 0]) rfl (by kernel_rfl) (by kernel_rfl) (by kernel_rfl) rfl hQ hS (bj (ps:=[(0,.tmp 25),(1,.tmp 27),(2,.tmp 28)]) hS Dt D8 rfl (us:=[[pt m 0],(aQ o Z a0),[.map (some Q)]]) ⟨rfl,⟨rfl,⟨rfl,trivial⟩⟩⟩ (ws:=[pt m 0,.int .i64 o.Revision,Z,a0,.map (some Q),.slice none 0 0,.int .i64 0]) rfl) rfl rfl rfl fun a hS=>?_;refine e1 7 (A8 hS rfl (cs:=[pt m 0,.int .i64 o.Revision,Z,a0,.map (some Q),.slice none 0 0,.int .i64 0]) rfl rfl fun e4 ex a w hk hS=>⟨fc (hk),?_⟩);refine gE [8] hS fun a hS=>?_;refine eD ?_;exact⟨_,_,_,_,_,_,_,_,_,_,_,_,_,_,_,_,_,_,_,_,_,_,_,_,_,_,_,_,hS.mt [8,7,2,3,1,0,5,6,4] [12,9,8,2,1,0,7,6,5,4,3,16],hM⟩
   skip;refine id (ol ac true aN.bool false hS rfl fun S jb a w hk hS=>⟨fc (hk),?_⟩);refine ec 4 hS vr (dD _ _ hS.dlt b _ _ (hS.get 7 rfl) (hS.get 6 rfl) _ e2) fun _ w hR a hk hA=>?_;obtain⟨g,h9,k,ha,he,O,P,N⟩:=hR;obtain rfl:=he.symm;have hS:=s7 hA O P N;refine dy 6 (v:=.agg #[pt m 0,.int .i64 o.Revision,g,k,.map (some S),.slice none 0 0,.int .i64 0]) rfl (by kernel_rfl) (by kernel_rfl) (by kernel_rfl) rfl hQ hS (bj (ps:=[(0,.tmp 25),(1,.tmp 27),(2,.tmp 28)]) hS Dt D8 rfl (us:=[[pt m 0],(aQ o g k),[.map (some S)]]) ⟨rfl,⟨rfl,⟨rfl,trivial⟩⟩⟩ (ws:=[pt m 0,.int .i64 o.Revision,g,k,.map (some S),.slice none 0 0,.int .i64 0]) rfl) rfl rfl rfl fun a hS=>?_;refine e1 7 (A8 hS rfl (cs:=[pt m 0,.int .i64 o.Revision,g,k,.map (some S),.slice none 0 0,.int .i64 0]) rfl rfl fun e4 ex a w hk hS=>⟨fc (hk),?_⟩);refine gE [8] hS fun a hS=>?_;refine eD ?_;exact⟨_,_,_,_,_,_,_,_,_,_,_,_,_,_,_,_,_,_,_,_,_,_,_,_,_,_,_,_,hS.mt [8,7,1,2,3,0,5,6,4] [12,9,8,1,0,2,7,6,5,4,3,16],hM⟩
  skip;refine id (ol ac true aN.bool false hS rfl fun U jc a w hk hS=>⟨fc (hk),?_⟩);replace hS:=hS.re [] [0,1,2];refine e1 2 (cu hS GB rfl rfl (ry _ _ hS.dltD n b _ _ _ hS.dok (hS.getD 8 rfl) (hS.getD 2 rfl) (hS.getD 1 rfl) _ ds) fun _ w hR a hk hA=>⟨kB rfl hk t8,?_⟩);obtain⟨V,kv,kx,l0,hy,i2,hJ,hz,i3,hK,he,g6,g7,g8,f6,fd,hf⟩:=hR;obtain rfl:=he.symm;have hS:=hA _ hf;replace hS:=((((hS.fS (g6.sub (aw _))).fS (g7.sub (aw _))).fS (g8.sub (aw _))).fM (f6.keep (Kt.refl _ _) (aw _))).fM (fd.keep (Kt.refl _ _) (aw _));obtain⟨Y,h8,hM⟩:=bd hM;refine ec 4 hS vr (dD _ _ hS.dlt b _ _ (hS.get 7 rfl) (hS.get 6 rfl) _ h8) fun _ w hR a hk hA=>?_;obtain⟨g,h9,k,ha,he,O,P,N⟩:=hR;obtain rfl:=he.symm;have hS:=s7 hA O P N;refine dy 6 (v:=.agg #[pt V 0,.int .i64 Y.Revision,g,k,.map (some U),.slice none 0 0,.int .i64 0]) rfl (by kernel_rfl) (by kernel_rfl) (by kernel_rfl) rfl hQ hS (bj (ps:=[(0,.tmp 25),(1,.tmp 27),(2,.tmp 28)]) hS Dt D8 rfl (us:=[[pt V 0],(aQ Y g k),[.map (some U)]]) ⟨rfl,⟨rfl,⟨rfl,trivial⟩⟩⟩ (ws:=[pt V 0,.int .i64 Y.Revision,g,k,.map (some U),.slice none 0 0,.int .i64 0]) rfl) rfl rfl rfl fun a hS=>?_;refine e1 7 (A8 hS rfl (cs:=[pt V 0,.int .i64 Y.Revision,g,k,.map (some U),.slice none 0 0,.int .i64 0]) rfl rfl fun e4 ex a w hk hS=>⟨fc (hk),?_⟩);refine gE [8] hS fun a hS=>?_;refine eD ?_;exact⟨_,_,_,_,_,_,_,_,_,_,_,_,_,_,_,_,_,_,_,_,_,_,_,_,_,_,_,_,hS.mt [8,7,1,2,6,0,4,5,3] [12,9,8,1,0,7,6,5,4,3,2,16],hM⟩
 rintro a w ⟨bt,c0,c1,c2,c3,c4,c5,c9,ca,cb,p,q,ch,a4,ck,a5,r,af,e5,t,ag,e8,u,ak,ea,cl,co,cv,hS,hM⟩;unfold kl at hM;refine aG (J:=fun a w=>∃ (b3:Int) (b4:LI) (b5:LR) (b6:LO) (W:LK) (M:Int) (b8:LU) (b9:Int) (bb:LI) (bi:LR) (bl:LB) (bs:LL) (ao:AM) (ed:Nat) (d0:Value) (a9:LV) (av:AM) (eg:Nat) (ax:AM) (el:Nat) (a1:Value) (a2:Value) (d1:Value) (d2:Value) (d3:Value),St W0 No T 60 [(4,pt x 0),(6,pt f 0),(10,pt p 0)] [.box x (aQ b d e) 31,.box f [.int .i64 0,.slice none 0 0,.slice none 0 0] 31,om r ao ed,au d0 a9,xE p q b3 a1 a2 r d0 M,om t av eg,om u ax el,xS q d1 b9 d2 d3 t u] [aJ ad d b.Inputs,aJ aa e b.Records,aJ ad a1 b4,aJ aa a2 b5,sx ao b6,am ac a9 W,aJ ay d1 b8,aJ ad d2 bb,aJ aa d3 bi,iv av bl,po ax bs,bv] a w∧gU b b3 b4 b5 b6 W M b8 b9 bb bi bl bs=some y) ?_ ?_
 ·skip;refine ah hS fun a hS=>?_;replace hS:=((hS.freeze (R:=ad) 2 rfl 3 rfl).freeze (R:=aa) 2 rfl 5 rfl).nilRow ac 44 (by decide);obtain⟨r1,hl,hMo1⟩:=bd hM;refine bu _ (fun s a w=>∃ (X:Int) (z:Int) (A:LI) (B:LR) (C:LO) (D:LK) (E:Int) (F:LU) (G:Int) (H:LI) (I:LR) (K:LB) (L:LL) (b0:AM) (em:Nat) (d4:Value) (ab:LV) (b1:AM) (eq:Nat) (b2:AM) (er:Nat) (d6:Value) (da:Value) (dc:Value) (dk:Value) (dl:Value),(X,z,A,B,C,D,E,F,G,H,I,K,L)=s∧St W0 No T 60 [(4,pt x 0),(6,pt f 0),(10,pt p 0),(31,v4),(32,.int .i64 (c.length:Int)),(33,.int .i64 X)] [.box x (aQ b d e) 31,.box f [.int .i64 0,.slice none 0 0,.slice none 0 0] 31,om r b0 em,au d4 ab,xE p q z d6 da r d4 E,om t b1 eq,om u b2 er,xS q dc G dk dl t u] [aJ ac v4 c,aJ ad d b.Inputs,aJ aa e b.Records,aJ ad d6 A,aJ aa da B,sx b0 C,am ac ab D,aJ ay dc F,aJ ad dk H,aJ aa dl I,iv b1 K,po b2 L,bv] a w) hl ⟨_,_,_,_,_,_,_,_,_,_,_,_,_,_,_,_,_,_,_,_,_,_,_,_,_,_,rfl,hS.mt [1,2,3,0,4,5,6,7] [3,4,5,2,1,8,0,9,10,11,12,13,14]⟩ ?_;rintro s a w f1 ⟨X,z,A,B,C,D,E,F,G,H,I,K,L,b0,em,d4,ab,b1,eq,b2,er,d6,da,dc,dk,dl,rfl,hS⟩ hM hf1;have hM:km urec c X z A B C D E F G H I K L=some f1:=hM;unfold km at hM;refine ah hS fun a hS=>?_;refine az ?_;rcases cd hM with⟨hg,hM⟩|⟨hg,hM⟩
  ·refine ah hS fun a hS=>?_;refine az ?_;refine ah hS fun a hS=>?_;obtain⟨hb,h3,hM⟩:=bd hM;refine wl rfl (bc (R:=ac) hS jd dd rfl rfl 0 rfl h3 rfl fun hB k0 hN hh a hS=>?_);obtain rfl:=hh;refine ah hS fun a hS=>?_;refine ka hS gh fun hC js a w hk hS=>?_;refine go hS fun a w hS=>?_;obtain⟨k2,h6,hM⟩:=bd hM;replace hS:=hS.re [5,8,6,7,3,4] [0,1,2];refine wl rfl (cu hS GD rfl rfl (hurec _ _ hS.dltD (aF.mk (al.mk F (ai.mk G H I) K L) (ai.mk z A B) C D E) hb _ _ _ _ _ _ _ _ _ _ _ _ _ _ _ _ _ _ hS.dok (hS.getD 8 rfl) (hS.getD 9 rfl) (hS.getD 10 rfl) (hS.getD 11 rfl) (hS.getD 12 rfl) (hS.getD 4 rfl) (hS.getD 5 rfl) (hS.getD 6 rfl) (hS.getD 7 rfl) (hS.getD 13 rfl) _ h6) fun _ w hR a hk hA=>?_);obtain⟨l1,l2,la,i4,hP,i5,hV,lb,le,i9,hW,ll,hX,he,hi,gb,gi,gp,fl,fn,gs,gu,fr,f2⟩:=hR;obtain rfl:=he.symm;have hS:=hA _ hi;replace hS:=((((((((hS.fS (gb.sub (aw _))).fS (gi.sub (aw _))).fS (gp.sub (aw _))).fM (fl.keep (Kt.refl _ _) (aw _))).fM (fn.keep (Kt.refl _ _) (aw _))).fS (gs.sub (aw _))).fS (gu.sub (aw _))).fM (fr.keep (Kt.refl _ _) (aw _))).fR (f2.keep (Kt.refl _ _) (aw _));exact fz
  refine ah hS fun a hS=>?_;cases hM
  have hr:=hf1 _ rfl;subst hr;have hM:gU b z A B C D E F G H I K L=some y:=hMo1;exact⟨_,_,_,_,_,_,_,_,_,_,_,_,_,_,_,_,_,_,_,_,_,_,_,_,_,hS.mt [0,1,2,3,4,5,6,7] [1,2,3,4,5,6,7,8,9,10,11,12],hM⟩
 rintro a w ⟨b3,b4,b5,b6,W,M,b8,b9,bb,bi,bl,bs,ao,ed,d0,a9,av,eg,ax,el,a1,a2,d1,d2,d3,hS,hM⟩;unfold gU at hM;refine az ?_;refine ah hS fun a hS=>?_;rcases cd hM with⟨hj,hM⟩|⟨hj,hM⟩
 ·refine ah hS fun a hS=>?_;refine az ?_;refine dr [(5,.blk (some f))] hS fun w hQ hS=>?_;refine gE [0,1,2,3] hS fun a hS=>?_;refine dy (l:=[.blk (some f)]) 4 (v:=.int .i64 M) rfl (by kernel_rfl) (by kernel_rfl) (by kernel_rfl) (by kernel_rfl) hQ hS (dH hS rfl Jt 4 rfl (ic hS 4 rfl rfl 1 rfl rfl (by decide) bo) (us:=[.int .i64 M]) rfl rfl (fun _=>rfl)) rfl rfl rfl fun a hS=>?_;refine es 5 hS fun w hS=>?_;refine gE [6,7] hS fun a hS=>?_;refine eD ?_;refine ah hS fun a hS=>?_;cases hM
  refine aE hS Tryz.results60 (a7 hS rfl 1 rfl ez rfl (fun h=>by cases h) (ap hS rfl (ap hS rfl aD))) ?_;exact⟨d,e,.slice none 0 0,[],rfl,(aA.up ⟨.inl rfl,trivial⟩ (hS.get 0 rfl)),(aA.up ⟨.inl rfl,trivial⟩ (hS.get 1 rfl)),ir _ _ _ _ _ _⟩
 refine ah hS fun a hS=>?_;refine az ?_;refine dr [(9,.blk (some f))] hS fun w hQ hS=>?_;refine gE [0,1,2,3,4,5,6,7] hS fun a hS=>?_;have hL:=hS;replace hL:=hL.freeze (R:=ac) 3 rfl 5 rfl;obtain⟨k1,h5,hM⟩:=bd hM;refine ec 8 hS IR (rx _ _ hL.dlt (hL.get 12 rfl) W _ (hL.get 0 rfl) _ h5) fun _ w hR a hk hA=>?_;obtain⟨h1,et,he,⟨eX,eT,h0⟩⟩:=hR;obtain rfl:=he.symm;have hS:=hA [au h1 et] (eA ⟨eX,by decide⟩ eT) (ro _);replace hS:=hS.fR h0;refine es 9 hS fun w hS=>?_;refine gE [10,11] hS fun a hS=>?_;refine eD ?_;refine ah hS fun a hS=>?_;cases hM
 refine aE hS Tryz.results60 (a7 hS rfl 2 rfl ez rfl (fun h=>by cases h) (ap hS rfl (ap hS rfl aD))) ?_;exact⟨a1,a2,h1,et,rfl,(aA.up ⟨.inr (List.mem_of_getElem? (i:=0) rfl),trivial⟩ (hS.get 3 rfl)),(aA.up ⟨.inr (List.mem_of_getElem? (i:=0) rfl),trivial⟩ (hS.get 4 rfl)),hS.retOwn ⟨.inr (List.mem_of_getElem? (i:=0) rfl),trivial⟩ 0 rfl 0 rfl⟩
end
end
section
open Go.RowKit
noncomputable def Fs:Nat→al→ae→Option (ByteArray×al)
  | 0=>fun _ _=>none
  | f + 1=>dh (Fs f)
theorem Bs:∀ f,lJ (Fs f)
  | 0=>by
    unfold lJ
    intros
    rename_i hM
    cases hM
  | f + 1=>by
    have ih:=Bs f
    unfold lJ
    intros
    apply rA <;> first | assumption | exact ih
noncomputable def vv:al→ae→Option (ByteArray×al):=Fs 40
theorem K7:lJ vv:=Bs 40
noncomputable def Co:Nat→aF→ae→Option aF
  | 0=>fun _ _=>none
  | f + 1=>iM (Co f) vv
theorem Bq:∀ f,rM (Co f)
  | 0=>by
    unfold rM
    intros
    rename_i hM
    cases hM
  | f + 1=>by
    have ih:=Bq f
    unfold rM
    intros
    apply tG <;> first | assumption | exact ih | exact K7
noncomputable def uu:aF→ae→Option aF:=Co 40
theorem Lr:rM uu:=Bq 40
end
section
open Go.RowKit
open Go.Lib hiding intOf
section
variable {l:List aK} {V:Nat→ByteArray} {b:ai}
noncomputable abbrev qW (b:ai) (k:ae):ByteArray:=(gn b k).Value
theorem Gm.le {ρ ρ':Nat} {inp:ae→ByteArray} {vrec:al→ae→Option (ByteArray×al)} (h:Gm l V b inp ρ vrec) (hl:ρ'≤ρ):Gm l V b inp ρ' vrec :=
  ⟨fun s n hs hn hr=>h.rule s n hs hn (by omega),h.cell⟩
theorem w9 {inp:ae→ByteArray} {r:aK} {k:Nat} {x:cF} (hx:r.Asks[k]? = some x):og l inp V r (k + 1)=og l inp V r k ++ [qr l inp V x (og l inp V r k)]:=by
  show (match r.Asks[k]? with | none=>_ | some x=>_)=_
  rw [hx]
theorem vf {inp:ae→ByteArray} {r:aK}:∀ {k:Nat},k≤r.Asks.length→(og l inp V r k).length=k
  | 0,_=>rfl
  | k + 1,h=>by rw [w9 (List.getElem?_eq_getElem (show k < r.Asks.length by omega)),List.length_append,vf (by omega)]; rfl
theorem AJ (hR:bz l) (hD:AQ l (qW b) V) (hb:Rm b.Inputs.length) {f:Nat} {vrec:al→ae→Option (ByteArray×al)} (hv:Gm l V b (qW b) f vrec) {s:al} {n:Nat} (hs:pR l V b s) (hn:n < l.length) (hf:qU (bk l) n≤f) :
    Ok (dh vrec s (rk l n)) fun y=>y.1=V n∧pR l V b y.2∧iw s.Memo y.2.Memo:=by
  have hl8:=hR.high
  unfold dh
  refine Ok.eq tK ?_
  simp only [cond_false,Option.bind_some]
  refine Ok.cond (fun hm=>?_) (fun hm=>?_)
  · obtain⟨v,hv⟩:=Option.isSome_iff_exists.1 hm
    rw [hv]
    exact Ok.ret ⟨hs.memo n hn v hv,hs,iw.refl _⟩
  · refine Ok.eq (fp _) ?_
    rw [Bj]
    by_cases hr:(bk l)[n]? = some true
    · rw [decide_eq_true hr]
      simp only [cond_true]
      refine Ok.bind (DQ hR hD (hv.le hf) hs hn hr) fun s' ⟨h1,h2,h3⟩=>?_
      rw [h3]
      exact Ok.ret ⟨rfl,h1,h2⟩
    · rw [decide_eq_false hr]
      simp only [cond_false]
      have hi:=List.getElem?_eq_getElem hn
      generalize l[n]=r at hi
      have hrr:r.Ring=false:=by
        rw [lH hi] at hr
        cases h:r.Ring with
        | false=>rfl
        | true=>rw [h] at hr; exact absurd rfl hr
      have h3l:=(hR.each n r hi).asks
      refine Ok.loop (fun (k:Nat) (st:(List ByteArray)×(List aK)×Int×(List aI)×(List an)×(List (ae×ByteArray))×(List (ae×(List ae))))=>k≤r.Asks.length∧st.1=og l (qW b) V r k∧pR l V b (al.mk st.2.1 (ai.mk st.2.2.1 st.2.2.2.1 st.2.2.2.2.1) st.2.2.2.2.2.1 st.2.2.2.2.2.2)∧iw s.Memo st.2.2.2.2.2.1)
        (fun y=>y.1=V n∧pR l V b y.2∧iw s.Memo y.2.Memo) r.Asks.length ⟨Nat.zero_le _,rfl,hs,iw.refl _⟩ ?_ (fun y hy=>Ok.ret hy)
      rintro k ⟨ws,rules,rev,inps,recs,memo,seen⟩ hk ⟨_,e,g1,g2⟩
      dsimp only at e g1 g2 ⊢
      subst e
      have hru:rules=l:=g1.rules
      unfold fK
      rw [hru]
      rcases Nat.lt_or_ge k r.Asks.length with hlt | hge
      · have hx:=List.getElem?_eq_getElem hlt
        generalize r.Asks[k]=x at hx
        have hlen:=vf (l:=l) (V:=V) (inp:=qW b) (r:=r) hk
        refine Ok.eq (wz hR hi (x:=x) (by rw [hlen]; exact hx)) ?_
        unfold dQ
        simp only [cond_false]
        obtain⟨_,hg⟩:=nF hR hi hx (og l (qW b) V r k)
        have fin:∀ {w:ByteArray} {rules rev inps recs memo seen},w=qr l (qW b) V x (og l (qW b) V r k)→pR l V b (al.mk rules (ai.mk rev inps recs) memo seen)→iw s.Memo memo→Ok (gd (br ((og l (qW b) V r k).length + [w].length)) <| some (Fl.go (R:=ByteArray×al) (og l (qW b) V r k ++ [w],rules,rev,inps,recs,memo,seen))) fun y=>match y with
            | .go st=>k < r.Asks.length∧(k + 1≤r.Asks.length∧st.1=og l (qW b) V r (k + 1)∧pR l V b (al.mk st.2.1 (ai.mk st.2.2.1 st.2.2.2.1 st.2.2.2.2.1) st.2.2.2.2.2.1 st.2.2.2.2.2.2)∧iw s.Memo st.2.2.2.2.2.1)
            | .out y=>y.1=V n∧pR l V b y.2∧iw s.Memo y.2.Memo:=by
          intro w rules rev inps recs memo seen hw q1 q2
          exact Ok.gd (dv (by rw [hlen]; simp; omega)) (Ok.ret ⟨hlt,hlt,by rw [w9 hx,hw],q1,q2⟩)
        have hK:ae.mk (pS l x (og l (qW b) V r k)).Kind (pS l x (og l (qW b) V r k)).Text=pS l x (og l (qW b) V r k):=rfl
        rw [hK]
        rw [hru] at g1
        rcases hg with⟨hc,c,hc4,e3,e4⟩|⟨hc,j,hj,e3,e4⟩
        · have hA:qr l (qW b) V x (og l (qW b) V r k)=qW b (bg c):=by unfold qr; rw [if_pos hc,e4]
          rw [e4]
          refine Ok.bind (hv.cell _ c g1 hc4) fun y hy=>?_
          obtain⟨y1,y2⟩:=y
          obtain⟨f1,f2⟩:=hy
          simp only at f1 f2
          subst f1 f2
          exact (fin hA.symm g1 g2).mono fun y hy=>by cases y <;> exact hy
        · have hll:=vU hn
          have hA:qr l (qW b) V x (og l (qW b) V r k)=V j:=by unfold qr; rw [if_neg (by rw [hc]; simp),e3]; rfl
          rw [e4]
          refine Ok.bind (hv.rule _ j g1 (by omega) (by have:=xu hr hj; omega)) fun y hy=>?_
          obtain⟨f1,f2,f3⟩:=hy
          exact (fin (by rw [f1,hA]) f2 (g2.trans f3)).mono fun y hy=>by cases y <;> exact hy
      · obtain rfl:k=r.Asks.length:=by omega
        have hlen:=vf (l:=l) (V:=V) (inp:=qW b) (r:=r) (Nat.le_refl r.Asks.length)
        refine Ok.eq (ut hR hi (by rw [hlen]; exact Nat.le_refl _)) ?_
        have hval:=hD.plain n r hi hrr
        unfold dQ
        simp only [cond_true]
        rw [List.take_of_length_le (by rw [hlen]; exact Nat.le_refl _),← hval]
        rw [hru] at g1
        obtain⟨p1,p2⟩:=g1.put hn hl8
        exact Ok.ret ⟨rfl,p1,g2.trans p2⟩
theorem wB (hb:Rm b.Inputs.length) {vrec:al→ae→Option (ByteArray×al)} {s:al} {c:Nat} (hs:pR l V b s):Ok (dh vrec s (bg c)) fun y=>y.1=qW b (bg c)∧y.2=s:=by
  unfold dh
  refine Ok.eq oK ?_
  simp only [cond_true]
  refine Ok.eq (by rw [hs.base]; exact A7 hb _) (Ok.ret ⟨rfl,rfl⟩)
theorem zI (hR:bz l) (hD:AQ l (qW b) V) (hb:Rm b.Inputs.length):∀ f,Gm l V b (qW b) f (Fs (f + 1))
  | 0=>⟨fun s n _ _ h=>absurd h (by omega),fun s c hs _=>wB hb hs⟩
  | f + 1=>⟨fun s n hs hn h=>AJ hR hD hb (zI hR hD hb f) hs hn (by omega),fun s c hs _=>wB hb hs⟩
theorem Gf (hR:bz l) (hD:AQ l (qW b) V) (hb:Rm b.Inputs.length) {s:al} (hs:pR l V b s) {k:ae} (hk:mR l k):Ok (vv s k) fun y=>pR l V b y.2∧(∀ n,n < l.length→k=rk l n→y.1=V n):=by
  have h:=zI hR hD hb 39
  have hl8:=hR.high
  rcases hk with⟨c,hc,rfl⟩|⟨n,hn,rfl⟩
  · exact (h.cell s c hs hc).mono fun y hy=>⟨by rw [hy.2]; exact hs,fun n _ e=>absurd e AX⟩
  · refine (h.rule s n hs hn ?_).mono fun y hy=>⟨hy.2.1,fun m hm e=>?_⟩
    · have:=DF (rs:=bk l) n; omega
    · rw [wj (by omega) (by omega) e] at hy
      exact hy.1
end
end
section
open Go.RowKit
open Go.Lib hiding intOf
theorem vW {l:List an} {r x:an}:x ∈ oa l r↔x=r∨(x ∈ l∧x.Key ≠ r.Key):=by
  unfold oa
  rw [List.mem_append,List.mem_cons,List.mem_filter,List.mem_filter]
  simp only [decide_eq_true_eq]
  constructor
  · rintro (⟨h,h1⟩ | h | ⟨h,h1⟩)
    · exact .inr ⟨h,nn h1⟩
    · exact .inl h
    · exact .inr ⟨h,fun e=>by rw [e,rW] at h1; omega⟩
  · rintro (h | ⟨h,h1⟩)
    · exact .inr (.inl h)
    · rcases qb x.Key r.Key with h2 | h2 | h2
      · exact .inl ⟨h,h2⟩
      · exact absurd h2 h1
      · exact .inr (.inr ⟨h,mh.2 h2⟩)
theorem Ei {l:List an} (h:AP l) {x y:an} (hx:x ∈ l) (hy:y ∈ l) (e:x.Key=y.Key):x=y:=by
  induction l with
  | nil=>cases hx
  | cons z m ih =>
    have h':=List.pairwise_cons.1 h
    rcases List.mem_cons.1 hx with e1 | h1
    · rcases List.mem_cons.1 hy with e2 | h2
      · rw [e1,e2]
      · subst e1; exact absurd e (nn (h'.1 y h2))
    · rcases List.mem_cons.1 hy with e2 | h2
      · subst e2; exact absurd e.symm (nn (h'.1 x h1))
      · exact ih h'.2 h1 h2
theorem CY {l:List an} (h:AP l) {x:an} (hx:x ∈ l):bW l x.Key=(x,true):=by
  unfold bW
  cases hf:l.find? (fun r=>cS r.Key x.Key) with
  | none =>
    have:=List.find?_eq_none.1 hf x hx
    simp [ud] at this
  | some y =>
    have h1:=List.find?_some hf
    have h2:=List.mem_of_find?_eq_some hf
    rw [Ei h h2 hx (dz.1 h1)]
theorem vL {l:List an} (h:AP l) {x:an} (hx:x ∈ l) {k:ae} (e:x.Key=k):bW l k=(x,true):=by subst e; exact CY h hx
theorem xh {l:List an} (h:AP l) (r:an) (k:ae):bW (oa l r) k=if k=r.Key then (r,true) else bW l k:=by
  have hp:=zu h r
  by_cases e:k=r.Key
  · rw [if_pos e]
    exact vL hp (vW.2 (.inl rfl)) e.symm
  · rw [if_neg e]
    cases hf:(bW l k).2 with
    | true =>
      obtain⟨h1,h2⟩:=iP hf
      rw [vL hp (vW.2 (.inr ⟨h1,by rw [h2]; exact e⟩)) h2]
      exact Prod.ext rfl hf.symm
    | false =>
      obtain⟨h1,h2⟩:=rQ hf
      cases hf2:(bW (oa l r) k).2 with
      | true =>
        obtain⟨h3,h4⟩:=iP hf2
        rcases vW.1 h3 with h5 | ⟨h5,_⟩
        · exact absurd (h4.symm.trans (congrArg an.Key h5)) e
        · exact absurd h4 (h2 _ h5)
      | false=>rw [(rQ hf2).1,h1]
theorem Aw {l:List an} (h:Ea l):o7 l=some l:=by
  have hl:=h.1
  unfold Rm at hl
  unfold o7 nz
  refine d7 (bT (xs:=l) (fun k=>(l.take k,(k:Int))) rfl (r:=l) (fun k x hx=>?_) ?_) rfl
  · have hlt:=aY hx
    unfold kP
    dsimp only
    rw [dlt hlt,cond_true,aU,hx,Option.bind_some,oN (h.2 x (List.mem_of_getElem? hx)),Option.bind_some,dv (by rw [List.length_take]; simp; omega),cB (by omega),bG hx]
    rfl
  · unfold kP
    dsimp only
    rw [bA,List.take_length]; rfl
theorem sK {b:ai} (h:Ea b.Records) (hi:Rm b.Inputs.length):dX b=some b:=by
  unfold Rm at hi
  unfold dX
  rw [dv (by simp; omega),Aw h]; rfl
def ig (g:List ae) (d:Bool) (rev:Int) (r:an):an:=if (g.any fun x=>cS r.Key x)=true then (if d=true then ⟨r.Key,r.Value,r.Reads,r.Changed,r.Verified,r.Cost,true⟩ else ⟨r.Key,r.Value,r.Reads,r.Changed,rev,r.Cost,r.Dirty⟩) else r
theorem r5 (g:List ae) (d:Bool) (rev:Int) (r:an):(ig g d rev r).Key=r.Key:=by unfold ig; split <;> (try split) <;> rfl
theorem u9 {b:ai} (h:Ea b.Records) (hi:Rm b.Inputs.length) {g:List ae} (hg:Rm g.length) (d:Bool):jQ b g d=some ⟨b.Revision,b.Inputs,b.Records.map (ig g d b.Revision)⟩:=by
  have hl:=h.1
  unfold Rm at hl
  unfold jQ nB
  rw [sK h hi,Option.bind_some]
  refine d7 (bT (xs:=b.Records) (fun k=>((k:Int),(b.Records.take k).map (ig g d b.Revision) ++ b.Records.drop k)) rfl (r:=b.Records.map (ig g d b.Revision)) (fun k x hx=>?_) ?_) rfl
  · have hlt:=aY hx
    have hlen:((b.Records.take k).map (ig g d b.Revision)).length=k:=by rw [List.length_map,List.length_take]; omega
    have hdrop:b.Records.drop k=x :: b.Records.drop (k + 1):=by
      rw [List.drop_eq_getElem_cons hlt]
      rw [List.getElem?_eq_getElem hlt] at hx
      rw [Option.some.inj hx]
    have hget:be ((b.Records.take k).map (ig g d b.Revision) ++ b.Records.drop k) (k:Int)=some x:=by
      rw [aU,List.getElem?_append_right (by omega),hlen,hdrop,Nat.sub_self]; rfl
    have nI:∀ y,((b.Records.take k).map (ig g d b.Revision) ++ b.Records.drop k).set (Int.toNat (k:Int)) y=(b.Records.take k).map (ig g d b.Revision) ++ y :: b.Records.drop (k + 1):=fun y=>by
      rw [hdrop,Int.toNat_natCast,List.set_append_right _ _ (by omega),hlen,Nat.sub_self]; rfl
    have htake:∀ y,ig g d b.Revision x=y→(b.Records.take (k + 1)).map (ig g d b.Revision) ++ b.Records.drop (k + 1)=(b.Records.take k).map (ig g d b.Revision) ++ y :: b.Records.drop (k + 1):=fun y hy=>by
      rw [bG hx,List.map_append,List.append_assoc]
      simp [hy]
    unfold kZ
    dsimp only
    rw [dlt hlt,cond_true,hget,Option.bind_some,un hg,Option.bind_some]
    unfold iZ
    have hw:=cB (k:=k) (by omega)
    cases ha:g.any fun y=>cS x.Key y with
    | false =>
      rw [Bool.not_false,cond_true,hw,htake x (by unfold ig; rw [ha]; rfl),hdrop]
    | true =>
      rw [Bool.not_true,cond_false]
      cases d with
      | true=>rw [cond_true,Option.bind_some,nI,hw,htake ⟨x.Key,x.Value,x.Reads,x.Changed,x.Verified,x.Cost,true⟩ (by unfold ig; rw [ha]; rfl)]
      | false=>rw [cond_false,Option.bind_some,nI,hw,htake ⟨x.Key,x.Value,x.Reads,x.Changed,b.Revision,x.Cost,x.Dirty⟩ (by unfold ig; rw [ha]; rfl)]
  · unfold kZ
    dsimp only
    rw [bA,List.take_length,List.drop_length,List.append_nil]; rfl
theorem zm {l:List an} (h:AP l) (g:List ae) (d:Bool) (rev:Int):AP (l.map (ig g d rev)):=by
  unfold AP
  rw [List.pairwise_map]
  exact h.imp fun {a b} hab=>by rw [r5,r5]; exact hab
theorem vK {l:List an} (h:AP l) (g:List ae) (d:Bool) (rev:Int) (k:ae):bW (l.map (ig g d rev)) k=if (bW l k).2=true then (ig g d rev (bW l k).1,true) else (Kw,false):=by
  have hp:=zm h g d rev
  cases hf:(bW l k).2 with
  | true =>
    obtain⟨h1,h2⟩:=iP hf
    rw [if_pos rfl]
    exact vL hp (List.mem_map_of_mem h1) ((r5 _ _ _ _).trans h2)
  | false =>
    obtain⟨h1,h2⟩:=rQ hf
    rw [if_neg (by simp)]
    cases hf2:(bW (l.map (ig g d rev)) k).2 with
    | true =>
      obtain⟨h3,h4⟩:=iP hf2
      obtain⟨x,hx,e⟩:=List.mem_map.1 h3
      exact absurd (by rw [← h4,← e,r5]) (h2 x hx)
    | false=>exact (rQ hf2).1
structure qL (l:List aK) (rev:Int) (r:an):Prop where
  key:∃ n,n < l.length∧r.Key=rk l n
  value:r.Value.size≤1000
  reads:r.Reads.length≤3
  good:∀ k ∈ r.Reads,mR l k
  low:0≤r.Changed
  mid:r.Changed≤r.Verified
  high:r.Verified≤rev
  cost:1≤r.Cost∧r.Cost≤4
  dirty:r.Dirty=true→oO r.Key=true
structure qR (rev:Int) (x:aI):Prop where
  key:∃ c,c < 10∧x.Key=bg c
  value:x.Value.size≤1000
  low:0≤x.Changed
  high:x.Changed≤rev
structure iu (l:List aK) (b:ai):Prop where
  rev:0≤b.Revision∧b.Revision≤1000000
  ins:∀ x ∈ b.Inputs,qR b.Revision x
  insA:b.Inputs.Pairwise fun x y=>bE x.Key y.Key < 0
  recs:∀ r ∈ b.Records,qL l b.Revision r
  recsA:AP b.Records
theorem ue {α:Type} {xs:List α} {f:α→ae} (h:xs.Pairwise fun a b=>bE (f a) (f b) < 0):(xs.map f).Nodup:=by
  unfold List.Nodup
  rw [List.pairwise_map]
  exact h.imp fun {a b} hab=>nn hab
theorem iu.nrec {l:List aK} {b:ai} (h:iu l b):b.Records.length≤l.length:=by
  have h1:=m4 (ue (f:=an.Key) h.recsA) (m:=(List.range l.length).map (rk l)) fun k hk=>by
    obtain⟨r,hr,rfl⟩:=List.mem_map.1 hk
    obtain⟨n,hn,e⟩:=(h.recs r hr).key
    exact List.mem_map.2 ⟨n,List.mem_range.2 hn,e.symm⟩
  simpa using h1
theorem iu.nin {l:List aK} {b:ai} (h:iu l b):b.Inputs.length≤10:=by
  have h1:=m4 (ue (f:=aI.Key) h.insA) (m:=(List.range 10).map bg) fun k hk=>by
    obtain⟨r,hr,rfl⟩:=List.mem_map.1 hk
    obtain⟨n,hn,e⟩:=(h.ins r hr).key
    exact List.mem_map.2 ⟨n,List.mem_range.2 hn,e.symm⟩
  simpa using h1
theorem iu.rm {l:List aK} {b:ai} (h:iu l b) (hl:l.length≤8):Ea b.Records∧Rm b.Inputs.length∧Bz b.Records:=by
  have h1:=h.nrec
  have h2:=h.nin
  refine⟨⟨by unfold Rm; omega,fun r hr=>by have:=(h.recs r hr).reads; unfold Rm; omega⟩,by unfold Rm; omega,h.recsA,by omega,fun r hr=>by have:=(h.recs r hr).reads; omega⟩
end
section
open Go.RowKit
open Go.Lib hiding intOf
def uD (p:Nat→Bool):Nat→Nat
  | 0=>0
  | n + 1=>uD p n + cond (p n) 1 0
theorem vy {p q:Nat→Bool} (h:∀ n,p n=true→q n=true):∀ N,uD p N≤uD q N
  | 0=>Nat.le_refl _
  | n + 1=>by
    have:=vy h n
    show uD p n + cond (p n) 1 0≤uD q n + cond (q n) 1 0
    cases hp:p n with
    | false=>cases q n <;> simp <;> omega
    | true=>rw [h n hp]; simp; omega
theorem xM {p q:Nat→Bool} (h:∀ n,p n=true→q n=true) {i:Nat} (h1:p i=false) (h2:q i=true):∀ N,i < N→uD p N < uD q N
  | 0,h0=>absurd h0 (by omega)
  | n + 1,h0=>by
    have h3:=vy h n
    show uD p n + cond (p n) 1 0 < uD q n + cond (q n) 1 0
    rcases Nat.lt_or_ge i n with h4 | h4
    · have:=xM h h1 h2 n h4
      cases hp:p n with
      | false=>cases q n <;> simp <;> omega
      | true=>rw [h n hp]; simp; omega
    · obtain rfl:i=n:=by omega
      rw [h1,h2]; simp; omega
theorem rO (p:Nat→Bool):∀ N,uD p N≤N
  | 0=>Nat.le_refl _
  | n + 1=>by
    have:=rO p n
    show uD p n + cond (p n) 1 0≤n + 1
    cases p n <;> simp <;> omega
noncomputable def fU (b:ai) (k:ae):Bool:=(bW b.Records k).2 && decide ((bW b.Records k).1.Verified=b.Revision)
def lK (b b':ai):Prop:=∀ k,fU b k=true→fU b' k=true
theorem lK.refl (b:ai):lK b b:=fun _ h=>h
theorem lK.trans {a b c:ai} (h:lK a b) (k:lK b c):lK a c:=fun x e=>k x (h x e)
def cQ (m:List (ae×Bool)) (k:ae):Bool:=(bQ aC k m).getD false
section
variable {l:List aK} {V:Nat→ByteArray} {b0 b:ai}
theorem iu.find (h:iu l b) (hl:l.length≤8) (k:ae):cn b.Records k=some (bW b.Records k):=qJ (h.rm hl).1 k
theorem iu.found (h:iu l b) {k:ae} (hk:(bW b.Records k).2=true):qL l b.Revision (bW b.Records k).1∧(bW b.Records k).1.Key=k :=
  ⟨h.recs _ (iP hk).1,(iP hk).2⟩
theorem iu.rdGood (h:iu l b) {k x:ae} (hx:x ∈ xv b.Records k):mR l x:=by
  unfold xv at hx
  cases hk:(bW b.Records k).2 with
  | true=>exact (h.found hk).1.good x hx
  | false=>rw [(rQ hk).1] at hx; cases hx
theorem Be (h:iu l b) (hl:l.length≤8) {n:Nat} (hn:n < l.length) {v:ByteArray} (hv:v.size≤1000) {reads:List ae} (hr:reads.length≤3) (hg:∀ k ∈ reads,mR l k) :
    ∃ r,nc b (rk l n) v reads=some r∧qL l b.Revision r∧r.Key=rk l n∧r.Verified=b.Revision:=by
  have hw:IntKind.i64.wrap (1 + (reads.length:Int))=1 + (reads.length:Int):=pm (by omega) (by omega)
  have mk:∀ c:Int,0≤c→c≤b.Revision→∃ r,kX b (rk l n) v reads c=some r∧qL l b.Revision r∧r.Key=rk l n∧r.Verified=b.Revision:=fun c h1 h2 =>
    ⟨_,rfl,⟨⟨n,hn,rfl⟩,hv,hr,hg,h1,h2,Int.le_refl _,by dsimp only; rw [hw]; omega,fun e=>by cases e⟩,rfl,rfl⟩
  have hrev:=h.rev
  unfold nc
  rw [h.find hl,Option.bind_some]
  unfold kY
  cases hf:(bW b.Records (rk l n)).2 with
  | false=>exact mk _ hrev.1 (Int.le_refl _)
  | true =>
    obtain⟨h1,_⟩:=h.found hf
    rw [cond_true]
    cases (bW b.Records (rk l n)).1.Value.toList == v.toList with
    | true=>exact mk _ h1.low (by have:=h1.mid; have:=h1.high; omega)
    | false=>exact mk _ hrev.1 (Int.le_refl _)
theorem iu.put (h:iu l b) {r:an} (hr:qL l b.Revision r):iu l ⟨b.Revision,b.Inputs,oa b.Records r⟩ :=
  ⟨h.rev,h.ins,h.insA,fun x hx=>by rcases Dv hx with hx | rfl; exact h.recs x hx; exact hr,zu h.recsA r⟩
theorem Fr (h:iu l b) {r:an} (hr:r.Verified=b.Revision):lK b ⟨b.Revision,b.Inputs,oa b.Records r⟩∧fU ⟨b.Revision,b.Inputs,oa b.Records r⟩ r.Key=true:=by
  refine⟨fun k hk=>?_,?_⟩
  · unfold fU at hk ⊢
    rw [xh h.recsA]
    split
    · simp [hr]
    · exact hk
  · unfold fU
    rw [xh h.recsA,if_pos rfl]
    simp [hr]
theorem De {rev:Int} {r:an} (h:qL l rev r) (g:List ae) (d:Bool) (hd:d=true→∀ k ∈ g,oO k=true):qL l rev (ig g d rev r):=by
  unfold ig
  split
  · rename_i ha
    split
    · rename_i hdd
      refine⟨h.key,h.value,h.reads,h.good,h.low,h.mid,h.high,h.cost,fun _=>?_⟩
      obtain⟨x,hx,e⟩:=List.any_eq_true.1 ha
      rw [dz] at e
      show oO r.Key=true
      rw [e]
      exact hd hdd x hx
    · exact⟨h.key,h.value,h.reads,h.good,h.low,by have:=h.mid; have:=h.high; show r.Changed≤rev; omega,Int.le_refl _,h.cost,h.dirty⟩
  · exact h
theorem iu.mark (h:iu l b) (g:List ae) (d:Bool) (hd:d=true→∀ k ∈ g,oO k=true):iu l ⟨b.Revision,b.Inputs,b.Records.map (ig g d b.Revision)⟩ :=
  ⟨h.rev,h.ins,h.insA,fun x hx=>by obtain⟨y,hy,rfl⟩:=List.mem_map.1 hx; exact De (h.recs y hy) g d hd,zm h.recsA g d _⟩
theorem zH (h:iu l b) (g:List ae) (d:Bool):lK b ⟨b.Revision,b.Inputs,b.Records.map (ig g d b.Revision)⟩:=fun k hk=>by
  unfold fU at hk ⊢
  rw [Bool.and_eq_true,decide_eq_true_eq] at hk
  rw [vK h.recsA,if_pos hk.1]
  unfold ig
  split
  · split
    · simp [hk.2]
    · simp
  · simp [hk.2]
theorem AK (h:iu l b) {g:List ae} {k:ae} (hk:(bW b.Records k).2=true) (hg:k ∈ g):fU ⟨b.Revision,b.Inputs,b.Records.map (ig g false b.Revision)⟩ k=true:=by
  unfold fU
  rw [vK h.recsA,if_pos hk]
  have e:=(h.found hk).2
  unfold ig
  rw [if_pos (by rw [e]; exact List.any_eq_true.2 ⟨k,hg,ud k⟩)]
  simp
theorem F9 {recs:List an} (hS:Bz recs) (rev:Int) (k:ae):Ok (kV recs rev k) fun m=>m.length≤1000∧k ∈ m∧((yH recs rev k=false∧m=[k])∨(yH recs rev k=true∧∀ x ∈ m,yH recs rev x=true)):=by
  cases ho:yH recs rev k with
  | true =>
    refine (Dz hS ho).mono fun m hm=>⟨hm.len hS ho,(hm.2 k).2 ⟨.refl,.refl⟩,.inr ⟨rfl,fun x hx=>rI ho ((hm.2 x).1 hx).1⟩⟩
  | false =>
    unfold kV
    rw [sW hS.rm,Option.bind_some,ho]
    exact Ok.ret ⟨by simp,List.mem_singleton.2 rfl,.inl ⟨rfl,rfl⟩⟩
theorem Dm {recs:List an} {rev:Int} {k:ae} (h:yH recs rev k=true):oO k=true∧(bW recs k).2=true:=by
  unfold yH Dn at h
  rw [Bool.and_eq_true,Bool.and_eq_true,Bool.and_eq_true] at h
  obtain⟨h1,h2⟩:=iP h.1
  rw [h2] at h
  exact⟨h.2.1.1,h.1⟩
structure Ct (l:List aK) (V:Nat→ByteArray) (b0:ai) (x:aF):Prop where
  sol:pR l V b0 x.S
  base:iu l x.B
  rev:x.B.Revision=b0.Revision
  ins:x.B.Inputs=b0.Inputs
  nd:Nd x.Busy
theorem Fi {b:ai} (hb:Rm b.Inputs.length) (k:ae):nQ b k=some (gn b k).Changed:=by
  unfold nQ
  rw [xy hb]; rfl
noncomputable def nj (x:aF) (k:ae):Bool:=decide (k.Kind=1) || (decide (k.Kind=2) || decide (k.Kind=30)) || (cQ x.Busy k && oO k) || fU x.B k
theorem DT {x:aF} (h:iu l x.B) (hl:l.length≤8) (k:ae):fH x k=some (nj x k,x):=by
  unfold fH nj fU cQ
  rw [mf,Option.bind_some]
  generalize (decide (k.Kind=1) || (decide (k.Kind=2) || decide (k.Kind=30)))=i
  have j3f:ci x k false=some ((bW x.B.Records k).2 && decide ((bW x.B.Records k).1.Verified=x.B.Revision),x):=by
    unfold ci
    rw [cond_false,h.find hl,Option.bind_some]
    unfold fT dV
    cases (bW x.B.Records k).2
    · rfl
    · rw [cond_true,Bool.true_and]
      congr 2
  have j3t:ci x k true=some (true,x):=rfl
  cases i
  · rw [cond_false,Option.bind_some]
    cases (bQ aC k x.Busy).getD false
    · rw [cond_false,j3f]; rfl
    · rw [cond_true,fp,Option.bind_some]
      cases oO k
      · rw [j3f]; rfl
      · rw [j3t]; rfl
  · rw [cond_true,j3t]; rfl
variable (hR:bz l) (hD:AQ l (qW b0) V) (hb0:Rm b0.Inputs.length)
include hR hD hb0
theorem vo {s:al} (hs:pR l V b0 s) (hb:iu l b) {k:ae} (hk:mR l k):Ok (i1 vv s b k) fun y=>pR l V b0 y.2:=by
  have hl:=hR.high
  unfold i1
  refine Ok.eq (mf _) (Ok.cond (fun _=>Ok.eq (Fi (hb.rm hl).2.1 k) (Ok.ret hs)) (fun _=>Ok.eq (hb.find hl k) (Ok.cond (fun _=>Ok.cond (fun _=>?_) (fun _=>?_)) (fun _=>?_))))
  · exact Ok.ret hs
  · refine Ok.bind (Gf hR hD hb0 hs hk) fun y hy=>?_
    unfold fm
    cases y.1.toList == (bW b.Records k).1.Value.toList <;> exact Ok.ret hy.1
  · exact Ok.ret hs
theorem xa {s:al} (hs:pR l V b0 s) (hb:iu l b) {k:ae} (hk:mR l k):Ok (kj vv s b k) fun y=>pR l V b0 y.2:=by
  have hl:=hR.high
  unfold kj
  refine Ok.eq (fp _) (Ok.cond (fun _=>?_) (fun _=>?_))
  · exact Ok.bind (Gf hR hD hb0 hs hk) fun y hy=>Ok.ret hy.1
  · have:Ok (pb b k) fun _=>True:=by
      unfold pb
      refine Ok.eq (mf _) (Ok.cond (fun _=>Ok.eq (A7 (hb.rm hl).2.1 k) (Ok.ret trivial)) (fun _=>Ok.eq (hb.find hl k) (Ok.cond (fun _=>?_) (fun _=>?_))))
      · unfold kW
        cases ((bW b.Records k).1.Verified == b.Revision) <;> exact Ok.ret trivial
      · exact Ok.ret trivial
    exact Ok.bind this fun y _=>Ok.ret hs
end
end
section
open Go.RowKit
open Go.Lib hiding intOf
noncomputable def psi (l:List aK) (x:aF):Nat:=x.Ran.length + uD (fun n=>!fU x.B (rk l n) || cQ x.Busy (rk l n)) l.length
noncomputable def Gd (l:List aK) (b:ai):Nat:=uD (fun n=>!fU b (rk l n)) l.length
noncomputable def Eb (l:List aK) (m:List (ae×Bool)):Nat:=uD (fun n=>!cQ m (rk l n)) l.length
structure mQ (l:List aK) (V:Nat→ByteArray) (b0:ai) (x x':aF):Prop where
  ok:Ct l V b0 x'
  ver:lK x.B x'.B
  busy:∀ k,cQ x'.Busy k=cQ x.Busy k
  psi:psi l x'≤psi l x
section
variable {l:List aK} {V:Nat→ByteArray} {b0:ai} {x y z:aF}
theorem mQ.refl (h:Ct l V b0 x):mQ l V b0 x x:=⟨h,lK.refl _,fun _=>rfl,Nat.le_refl _⟩
theorem mQ.trans (h:mQ l V b0 x y) (k:mQ l V b0 y z):mQ l V b0 x z:=⟨k.ok,h.ver.trans k.ver,fun q=>(k.busy q).trans (h.busy q),Nat.le_trans k.psi h.psi⟩
theorem yS {b b':ai} {m m':List (ae×Bool)} (hv:lK b b') (hb:∀ k,cQ m' k=true→cQ m k=true) (N:Nat):uD (fun n=>!fU b' (rk l n) || cQ m' (rk l n)) N≤uD (fun n=>!fU b (rk l n) || cQ m (rk l n)) N:=by
  refine vy (fun n h=>?_) N
  rw [Bool.or_eq_true,Bool.not_eq_true'] at h ⊢
  rcases h with h | h
  · left
    cases e:fU b (rk l n) with
    | false=>rfl
    | true=>rw [hv _ e] at h; cases h
  · exact .inr (hb _ h)
theorem mQ.base (h:Ct l V b0 x) {b:ai} (hb:iu l b) (hr:b.Revision=x.B.Revision) (hi:b.Inputs=x.B.Inputs) (hv:lK x.B b) {s:al} (hs:pR l V b0 s):mQ l V b0 x ⟨s,b,x.Busy,x.Ran,x.E⟩ :=
  ⟨⟨hs,hb,hr.trans h.rev,hi.trans h.ins,h.nd⟩,hv,fun _=>rfl,Nat.add_le_add_left (yS hv (fun _ e=>e) _) _⟩
def JG (l:List aK) (V:Nat→ByteArray) (b0:ai) (urec:aF→ae→Option aF) (f:Nat):Prop :=
  ∀ x k,Ct l V b0 x→psi l x≤8→mR l k→Eb l x.Busy < f→Ok (urec x k) fun x'=>mQ l V b0 x x'∧(x'.E=0→nj x' k=true)
theorem uB {recs:List an} {g h:List ae} {c:cw} (hc:c ∈ eB recs g h):c.Read ∈ xv recs c.Member:=by
  unfold eB CF at hc
  obtain⟨m,_,hm⟩:=List.mem_flatMap.1 hc
  obtain⟨y,hy,rfl⟩:=List.mem_map.1 hm
  exact (List.mem_filter.1 hy).1
theorem uh {m m':List (ae×Bool)} (h:∀ k,cQ m' k=cQ m k):Eb l m'=Eb l m:=by
  unfold Eb
  congr 1
  funext n
  rw [h]
theorem C2 {n:Nat}:(decide ((rk l n).Kind=1) || (decide ((rk l n).Kind=2) || decide ((rk l n).Kind=30)))=false:=Option.some.inj ((mf _).symm.trans tK)
theorem sN {n:Nat}:(decide ((bg n).Kind=1) || (decide ((bg n).Kind=2) || decide ((bg n).Kind=30)))=true:=Option.some.inj ((mf _).symm.trans oK)
abbrev E7 (rev:Int) (ins:List aI) (recs:List an) (busy:List (ae×Bool)) (ran:List ae) (e:Int) (rules:List aK) (srev:Int) (sins:List aI) (srecs:List an) (memo:List (ae×ByteArray)) (seen:List (ae×(List ae))):aF :=
  aF.mk (al.mk rules (ai.mk srev sins srecs) memo seen) (ai.mk rev ins recs) busy ran e
def JJ (l:List aK) (V:Nat→ByteArray) (b0:ai) (x:aF) (k:Nat):Int×Int×(List aI)×(List an)×(List (ae×Bool))×(List ae)×Int×(List aK)×Int×(List aI)×(List an)×(List (ae×ByteArray))×(List (ae×(List ae)))→Prop
  | (at_,rev,ins,recs,busy,ran,e,rules,srev,sins,srecs,memo,seen)=>∃ a:Nat,at_=(a:Int)∧a≤1000000∧mQ l V b0 x (E7 rev ins recs busy ran e rules srev sins srecs memo seen)∧(e=0→k + Gd l (ai.mk rev ins recs) * 1000001 + (1000000 - a)≤20000000)∧k≤20000001
def KY (l:List aK) (V:Nat→ByteArray) (b0:ai) (x:aF) (k:ae):Fl (Int×(List aI)×(List an)×(List (ae×Bool))×(List ae)×Int×(List aK)×Int×(List aI)×(List an)×(List (ae×ByteArray))×(List (ae×(List ae)))) (Bool×aF)→Prop
  | .go (rev,ins,recs,busy,ran,e,rules,srev,sins,srecs,memo,seen)=>mQ l V b0 x (E7 rev ins recs busy ran e rules srev sins srecs memo seen)∧e ≠ 0
  | .out (a,x')=>mQ l V b0 x x'∧(a=false→x'.E=0→fU x'.B k=true)
section
variable {urec:aF→ae→Option aF} {f n:Nat} (hR:bz l) (hD:AQ l (qW b0) V) (hb0:Rm b0.Inputs.length) (hu:JG l V b0 urec f) (hn:n < l.length) (hx:Ct l V b0 x) (hp:psi l x≤8) (hf:Eb l x.Busy < f)
include hR hD hb0 hu hn hx hp hf
omit hn hx in
theorem Ac {k:Nat} (hk:k≤20000001):∀ s,JJ l V b0 x k s→Ok (dU urec vv (rk l n) s.1 s.2.1 s.2.2.1 s.2.2.2.1 s.2.2.2.2.1 s.2.2.2.2.2.1 s.2.2.2.2.2.2.1 s.2.2.2.2.2.2.2.1 s.2.2.2.2.2.2.2.2.1 s.2.2.2.2.2.2.2.2.2.1 s.2.2.2.2.2.2.2.2.2.2.1 s.2.2.2.2.2.2.2.2.2.2.2.1 s.2.2.2.2.2.2.2.2.2.2.2.2) fun y=>match y with
      | .go s'=>k < 20000001∧JJ l V b0 x (k + 1) s'
      | .out y=>KY l V b0 x (rk l n) y:=by
  rintro⟨at_,rev,ins,recs,busy,ran,e,rules,srev,sins,srecs,memo,seen⟩ ⟨a,rfl,ha,h1,h2,h3⟩
  dsimp only
  have hl:=hR.high
  have hE:=h1.ok
  have hB:iu l (ai.mk rev ins recs):=hE.base
  have hS:Bz recs:=(hB.rm hl).2.2
  unfold dU
  refine Ok.cond (fun he=>?_) (fun he=>Ok.ret ⟨h1,by simpa using he⟩)
  obtain rfl:e=0:=by simpa using he
  have h2:=h2 rfl
  refine Ok.eq (hB.find hl _) ?_
  unfold fQ
  refine Ok.cond (fun hn1=>Ok.ret ⟨h1,fun e=>by cases e⟩) (fun hfound=>?_)
  have hfound:(bW recs (rk l n)).2=true:=by simpa using hfound
  refine Ok.cond (fun _=>Ok.ret ⟨h1,fun e=>by cases e⟩) (fun hdirty=>?_)
  refine Ok.cond (fun hver=>Ok.ret ⟨h1,fun _ _=>?_⟩) (fun hver=>?_)
  · show fU (ai.mk rev ins recs) (rk l n)=true
    unfold fU
    have:(bW recs (rk l n)).1.Verified=rev:=by simpa using hver
    simp [hfound,this]
  refine Ok.bind (F9 hS rev (rk l n)) fun g ⟨hg1,hg2,hg3⟩=>?_
  refine Ok.eq (xe hS (by omega)) ?_
  have hlen:(eB recs g g).length≤1000000:=by have:=pp hS g g; omega
  have hgm:Rm g.length:=by unfold Rm; omega
  refine Ok.cond (fun hat=>?_) (fun hat=>?_)
  · refine Ok.eq (u9 (b:=ai.mk rev ins recs) (hB.rm hl).1 (hB.rm hl).2.1 hgm false) (Ok.ret ⟨h1.trans (mQ.base hE (hB.mark g false (fun e=>by cases e)) rfl rfl (zH hB g false) hE.sol),fun _ _=>AK hB hfound hg2⟩)
  · have hlt:a < (eB recs g g).length:=by have hat:¬ (((eB recs g g).length:Int)≤(a:Int)):=of_decide_eq_false hat; omega
    have hc:=List.getElem?_eq_getElem hlt
    generalize (eB recs g g)[a]=c at hc
    have hcr:=uB (List.mem_of_getElem? hc)
    have hgood:=hB.rdGood (b:=ai.mk rev ins recs) hcr
    refine Ok.eq (by rw [aU]; exact hc) (Ok.eq (DT hE.base hl c.Read) ?_)
    refine Ok.cond (fun hth=>?_) (fun hth=>?_)
    · have hth:nj (E7 rev ins recs busy ran 0 rules srev sins srecs memo seen) c.Read=false:=by simpa using hth
      refine Ok.bind (hu _ c.Read h1.ok (Nat.le_trans h1.psi hp) hgood (by rw [uh h1.busy]; exact hf)) fun x' ⟨g1,g2⟩=>?_
      refine Ok.ret ⟨by omega,a,rfl,ha,h1.trans g1,fun e0=>?_,by omega⟩
      have ht:=g2 e0
      obtain⟨j,hj,hcj⟩:∃ j,j < l.length∧c.Read=rk l j:=by
        rcases hgood with⟨q,_,hq⟩ | h
        · unfold nj at hth
          rw [hq,sN] at hth
          simp at hth
        · exact h
      have hlt2:Gd l x'.B < Gd l (ai.mk rev ins recs):=by
        unfold Gd
        unfold nj at ht hth
        rw [hcj,C2,Bool.false_or] at ht hth
        rw [Bool.or_eq_false_iff] at hth
        rw [g1.busy] at ht
        have hth1:(cQ busy (rk l j) && oO (rk l j))=false:=hth.1
        have hth2:fU (ai.mk rev ins recs) (rk l j)=false:=hth.2
        have ht2:fU x'.B (rk l j)=true:=by
          have ht3:((cQ busy (rk l j) && oO (rk l j)) || fU x'.B (rk l j))=true:=ht
          rw [hth1,Bool.false_or] at ht3
          exact ht3
        refine xM (i:=j) (fun m hm=>?_) (by rw [ht2]; rfl) (by rw [hth2]; rfl) _ hj
        rw [Bool.not_eq_true'] at hm ⊢
        cases e:fU (ai.mk rev ins recs) (rk l m) with
        | false=>rfl
        | true=>rw [g1.ver _ e] at hm; cases hm
      show k + 1 + Gd l x'.B * 1000001 + (1000000 - a)≤20000000
      omega
    · refine Ok.eq (hB.find hl _) ?_
      unfold fP
      refine Ok.bind (vo hR hD hb0 h1.ok.sol h1.ok.base hgood) fun y hy=>?_
      refine Ok.cond (fun _=>?_) (fun _=>?_)
      · refine Ok.eq (fp _) (Ok.cond (fun hcy=>?_) (fun _=>?_))
        · refine Ok.eq (u9 (b:=ai.mk rev ins recs) (hB.rm hl).1 (hB.rm hl).2.1 hgm true) ?_
          have hd:true=true→∀ q ∈ g,oO q=true:=fun _ q hq=>by
            rcases hg3 with⟨_,rfl⟩|⟨_,h⟩
            · rw [List.mem_singleton.1 hq]; exact hcy
            · exact (Dm (h q hq)).1
          exact Ok.ret ⟨h1.trans (mQ.base hE (hB.mark g true hd) rfl rfl (zH hB g true) hy),fun e=>by cases e⟩
        · exact Ok.ret ⟨h1.trans (mQ.base hE hB rfl rfl (lK.refl _) hy),fun e=>by cases e⟩
      · refine Ok.ret ⟨by omega,a + 1,cB (by omega),by omega,h1.trans (mQ.base hE hB rfl rfl (lK.refl _) hy),fun _=>?_,by omega⟩
        show k + 1 + Gd l (ai.mk rev ins recs) * 1000001 + (1000000 - (a + 1))≤20000000
        omega
omit hn in
theorem CE:Ok (dY urec vv x (rk l n)) fun y=>mQ l V b0 x y.2∧(y.1=false→y.2.E=0→fU y.2.B (rk l n)=true):=by
  have hl:=hR.high
  unfold dY
  refine Ok.loop (JJ l V b0 x) (KY l V b0 x (rk l n)) 20000001 ⟨0,rfl,Nat.zero_le _,mQ.refl hx,fun _=>?_,Nat.zero_le _⟩ (fun k s hk hI=>(Ac hR hD hb0 hu hp hf hk s hI).mono fun y hy=>by cases y <;> exact hy) ?_
  · have:=rO (fun n=>!fU x.B (rk l n)) l.length
    show 0 + Gd l x.B * 1000001 + (1000000 - 0)≤20000000
    unfold Gd
    omega
  · rintro (⟨rev,ins,recs,busy,ran,e,rules,srev,sins,srecs,memo,seen⟩|⟨a,x'⟩) hr
    · exact Ok.ret ⟨hr.1,fun _ e0=>absurd e0 hr.2⟩
    · exact Ok.ret hr
end
end
end
section
open Go.RowKit
open Go.Lib hiding intOf
theorem vP {n:Nat} (h:n < 65536):(cq (n:Int)).size≤1000:=by
  have h1:(cq n).size=(itoa n).length:=by simp [cq,ByteArray.size]
  have:=uZ n 9 (by omega)
  rw [h1,mg]; omega
section
variable {l:List aK} {V:Nat→ByteArray} {b0:ai} {x y z:aF}
structure Ran (l:List aK) (V:Nat→ByteArray) (b0:ai) (x:aF) (k:ae) (x':aF):Prop where
  ok:Ct l V b0 x'
  ver:lK x.B x'.B
  busy:∀ k,cQ x'.Busy k=cQ x.Busy k
  psi:(x'.E=0∧psi l x'≤psi l x + 1∧fU x'.B k=true)∨(x'.E ≠ 0∧psi l x'≤psi l x)
def JF (l:List aK) (V:Nat→ByteArray) (b0:ai) (x:aF) (N k:Nat):(List ae)×(List ByteArray)×Int×(List aI)×(List an)×(List (ae×Bool))×(List ae)×Int×(List aK)×Int×(List aI)×(List an)×(List (ae×ByteArray))×(List (ae×(List ae)))→Prop
  | (rd,ws,rev,ins,recs,busy,ran,e,rules,srev,sins,srecs,memo,seen)=>mQ l V b0 x (E7 rev ins recs busy ran e rules srev sins srecs memo seen)∧ws.length=rd.length∧(∀ q ∈ rd,mR l q)∧rd.length≤N∧(e=0→rd.length=k)
def JL (l:List aK) (V:Nat→ByteArray) (b0:ai) (x:aF) (k:ae):Fl (Int×(List aI)×(List an)×(List (ae×Bool))×(List ae)×Int×(List aK)×Int×(List aI)×(List an)×(List (ae×ByteArray))×(List (ae×(List ae)))) aF→Prop
  | .go (rev,ins,recs,busy,ran,e,rules,srev,sins,srecs,memo,seen)=>mQ l V b0 x (E7 rev ins recs busy ran e rules srev sins srecs memo seen)∧e ≠ 0
  | .out x'=>Ran l V b0 x k x'
section
variable {urec:aF→ae→Option aF} {f n:Nat} {r:aK} (hR:bz l) (hD:AQ l (qW b0) V) (hb0:Rm b0.Inputs.length) (hu:JG l V b0 urec f) (hn:l[n]? = some r) (hp:psi l x≤8) (hf:Eb l x.Busy < f)
include hR hD hb0 hu hn hp hf
theorem DJ {k:Nat}:∀ s,JF l V b0 x r.Asks.length k s→Ok (eQ urec vv (rk l n) s.1 s.2.1 s.2.2.1 s.2.2.2.1 s.2.2.2.2.1 s.2.2.2.2.2.1 s.2.2.2.2.2.2.1 s.2.2.2.2.2.2.2.1 s.2.2.2.2.2.2.2.2.1 s.2.2.2.2.2.2.2.2.2.1 s.2.2.2.2.2.2.2.2.2.2.1 s.2.2.2.2.2.2.2.2.2.2.2.1 s.2.2.2.2.2.2.2.2.2.2.2.2.1 s.2.2.2.2.2.2.2.2.2.2.2.2.2) fun y=>match y with
      | .go s'=>k < r.Asks.length∧JF l V b0 x r.Asks.length (k + 1) s'
      | .out y=>JL l V b0 x (rk l n) y:=by
  rintro⟨rd,ws,rev,ins,recs,busy,ran,e,rules,srev,sins,srecs,memo,seen⟩ ⟨h1,h2,h3,h4,h5⟩
  dsimp only
  have hl:=hR.high
  have h3l:=(hR.each n r hn).asks
  have hnl:=aY hn
  have hE:=h1.ok
  have hB:iu l (ai.mk rev ins recs):=hE.base
  have hru:rules=l:=hE.sol.rules
  unfold eQ
  refine Ok.cond (fun he=>?_) (fun he=>Ok.ret ⟨h1,by simpa using he⟩)
  obtain rfl:e=0:=by simpa using he
  have h5:=h5 rfl
  obtain⟨t,ht,hcase⟩:=sd hR hn (ws:=ws) (by omega)
  refine Ok.eq (by rw [hru]; exact ht) ?_
  unfold gB
  rcases hcase with⟨e1,rfl⟩|⟨w,hw,rfl⟩
  · simp only [cond_true]
    refine Ok.eq (hB.find hl _) ?_
    obtain⟨m,hm1,hm2⟩:=sM hR hn (ls:=ws) (by omega)
    obtain⟨q,q1,q2,q3,q4⟩:=Be hB hl hnl (v:=cq (qZ r ws)) (by rw [hm1]; exact vP hm2) (reads:=rd) (by omega) h3
    have hran:ran.length≤8:=by have h:=h1.psi; unfold psi at h hp; have h:ran.length + _≤x.Ran.length + _:=h; omega
    have hput:kh recs q=some (oa recs q):=xz hB.recsA (hB.rm hl).1.1 (by have:=q2.reads; unfold Rm; omega)
    have hj2:Ok (dI (rk l n) rd rev ins recs busy ran 0 rules srev sins srecs memo seen (cq (qZ r ws)) false) fun y=>match y with
      | .go s'=>k < r.Asks.length∧JF l V b0 x r.Asks.length (k + 1) s'
      | .out y=>JL l V b0 x (rk l n) y:=by
      unfold dI
      simp only [cond_false]
      refine Ok.eq q1 (Ok.eq hput (Ok.gd (dv (by simp; omega)) (Ok.ret ?_)))
      obtain⟨v1,v2⟩:=Fr hB q4
      rw [q3] at v2
      refine⟨⟨hE.sol,hB.put q2,hE.rev,hE.ins,hE.nd⟩,h1.ver.trans v1,h1.busy,.inl ⟨rfl,?_,v2⟩⟩
      have hc:=yS (l:=l) (m:=busy) v1 (fun _ e=>e) l.length
      have hpp:=h1.psi
      have hpp:ran.length + uD (fun n=>!fU (ai.mk rev ins recs) (rk l n) || cQ busy (rk l n)) l.length≤Go.Proofs.YtmfcloapbgfhaaaGreatDoor.psi l x:=hpp
      show (ran ++ [rk l n]).length + uD (fun n=>!fU (ai.mk rev ins (oa recs q)) (rk l n) || cQ busy (rk l n)) l.length≤Go.Proofs.YtmfcloapbgfhaaaGreatDoor.psi l x + 1
      have hc:uD (fun n=>!fU (ai.mk rev ins (oa recs q)) (rk l n) || cQ busy (rk l n)) l.length≤uD (fun n=>!fU (ai.mk rev ins recs) (rk l n) || cQ busy (rk l n)) l.length:=hc
      rw [List.length_append]
      simp only [List.length_cons,List.length_nil]
      omega
    unfold gA
    have hrl:=hB.nrec
    have hrl:recs.length≤l.length:=hrl
    refine Ok.cond (fun _=>?_) (fun _=>hj2)
    rw [decide_eq_false (by omega)]
    exact hj2
  · simp only [cond_false]
    have hlt:=aY hw
    obtain⟨_,hg⟩:=nF hR hn hw ws
    have hgood:mR l (pS l w ws):=by
      rcases hg with⟨_,c,hc,_,e4⟩|⟨_,j,hj,_,e4⟩
      · exact .inl ⟨c,hc,e4⟩
      · exact .inr ⟨j,by have:=vU hnl; omega,e4⟩
    refine Ok.bind (hu _ (pS l w ws) h1.ok (Nat.le_trans h1.psi hp) hgood (by rw [uh h1.busy]; exact hf)) fun x' ⟨g1,g2⟩=>?_
    refine Ok.cond (fun he=>?_) (fun he=>?_)
    · have he:x'.E=0:=by simpa using he
      refine Ok.gd (dv (by simp; omega)) (Ok.bind (xa hR hD hb0 g1.ok.sol g1.ok.base hgood) fun y hy=>Ok.gd (dv (by simp; omega)) (Ok.ret ⟨by omega,(h1.trans g1).trans (mQ.base g1.ok g1.ok.base rfl rfl (lK.refl _) hy),?_,?_,?_,fun _=>?_⟩))
      · rw [List.length_append,List.length_append,h2]; rfl
      · intro q hq
        rcases List.mem_append.1 hq with hq | hq
        · exact h3 q hq
        · rw [List.mem_singleton.1 hq]; exact hgood
      · rw [List.length_append]; simp; omega
      · rw [List.length_append,h5]; rfl
    · have he:x'.E ≠ 0:=by simpa using he
      exact Ok.ret ⟨by omega,h1.trans g1,h2,h3,h4,fun e0=>absurd e0 he⟩
theorem HH (hx:Ct l V b0 x):Ok (fo urec vv x (rk l n)) (Ran l V b0 x (rk l n)):=by
  unfold fo
  refine Ok.loop (JF l V b0 x r.Asks.length) (JL l V b0 x (rk l n)) r.Asks.length ⟨mQ.refl hx,rfl,fun q hq=>absurd hq List.not_mem_nil,Nat.zero_le _,fun _=>rfl⟩ (fun k s hk hI=>(DJ hR hD hb0 hu hn hp hf s hI).mono fun y hy=>by cases y <;> exact hy) ?_
  rintro (⟨rev,ins,recs,busy,ran,e,rules,srev,sins,srecs,memo,seen⟩ | x') hr
  · exact Ok.ret ⟨hr.1.ok,hr.1.ver,hr.1.busy,.inr ⟨hr.2,hr.1.psi⟩⟩
  · exact Ok.ret hr
end
theorem ta (m:List (ae×Bool)) (k j:ae):cQ (cT aC k true m) j=(decide (j=k) || cQ m j):=by
  unfold cQ
  by_cases e:j=k
  · subst e
    rw [e9]; simp
  · rw [jt e]; simp [e]
theorem yP {m:List (ae×Bool)} (h:Nd m) (k j:ae):cQ (pE aC k m) j=(!decide (j=k) && cQ m j):=by
  unfold cQ
  rw [Dg eV j k h]
  by_cases e:j=k
  · subst e
    rw [za]; simp
  · rw [C5 e]; simp [e]
section
variable {urec:aF→ae→Option aF} {f n:Nat} (hR:bz l) (hD:AQ l (qW b0) V) (hb0:Rm b0.Inputs.length) (hu:JG l V b0 urec f) (hn:n < l.length) (hx:Ct l V b0 x) (hp:psi l x≤8) (hf:Eb l x.Busy < f + 1)
include hR hD hb0 hu hn hx hp hf
theorem HO (hv:fU x.B (rk l n)=false) (hbu:cQ x.Busy (rk l n)=false):Ok ((dY urec vv (aF.mk x.S x.B (cT aC (rk l n) true x.Busy) x.Ran x.E) (rk l n)).bind fun u116=>cond u116.1 ((fo urec vv (aF.mk (al.mk u116.2.S.Rules (ai.mk u116.2.S.Base.Revision u116.2.S.Base.Inputs u116.2.S.Base.Records) u116.2.S.Memo u116.2.S.Seen) (ai.mk u116.2.B.Revision u116.2.B.Inputs u116.2.B.Records) u116.2.Busy u116.2.Ran u116.2.E) (rk l n)).bind fun u117=>dZ (rk l n) u117.B.Revision u117.B.Inputs u117.B.Records u117.Busy u117.Ran u117.E u117.S.Rules u117.S.Base.Revision u117.S.Base.Inputs u117.S.Base.Records u117.S.Memo u117.S.Seen) (dZ (rk l n) u116.2.B.Revision u116.2.B.Inputs u116.2.B.Records u116.2.Busy u116.2.Ran u116.2.E u116.2.S.Rules u116.2.S.Base.Revision u116.2.S.Base.Inputs u116.2.S.Base.Records u116.2.S.Memo u116.2.S.Seen))
    fun x'=>mQ l V b0 x x'∧(x'.E=0→nj x' (rk l n)=true):=by
  have hl:=hR.high
  have hi:=List.getElem?_eq_getElem hn
  have hx1:Ct l V b0 (aF.mk x.S x.B (cT aC (rk l n) true x.Busy) x.Ran x.E):=⟨hx.sol,hx.base,hx.rev,hx.ins,Nd.put eV hx.nd _ _⟩
  have hp1:psi l (aF.mk x.S x.B (cT aC (rk l n) true x.Busy) x.Ran x.E)≤psi l x:=by
    refine Nat.add_le_add_left (vy (fun m hm=>?_) _) _
    rw [Bool.or_eq_true] at hm ⊢
    rcases hm with hm | hm
    · exact .inl hm
    · rw [ta,Bool.or_eq_true,decide_eq_true_eq] at hm
      rcases hm with hm | hm
      · left; rw [hm,hv]; rfl
      · exact .inr hm
  have hf1:Eb l (cT aC (rk l n) true x.Busy) < f:=by
    have:Eb l (cT aC (rk l n) true x.Busy) < Eb l x.Busy:=by
      refine xM (i:=n) (fun m hm=>?_) (by rw [ta]; simp) (by rw [hbu]; rfl) _ hn
      rw [ta,Bool.not_eq_true',Bool.or_eq_false_iff] at hm
      rw [hm.2]; rfl
    omega
  have fin:∀ {x2:aF},Ct l V b0 x2→lK x.B x2.B→(∀ k,cQ x2.Busy k=(decide (k=rk l n) || cQ x.Busy k))→(psi l x2≤psi l x∨(psi l x2≤psi l x + 1∧fU x2.B (rk l n)=true))→(x2.E=0→fU x2.B (rk l n)=true) →
      mQ l V b0 x ⟨x2.S,x2.B,pE aC (rk l n) x2.Busy,x2.Ran,x2.E⟩∧(x2.E=0→nj ⟨x2.S,x2.B,pE aC (rk l n) x2.Busy,x2.Ran,x2.E⟩ (rk l n)=true):=by
    intro x2 q1 q2 q3 q4 q5
    have hbz:∀ k,cQ (pE aC (rk l n) x2.Busy) k=cQ x.Busy k:=fun k=>by
      rw [yP q1.nd,q3]
      by_cases e:k=rk l n
      · rw [e,hbu]; simp
      · simp [e]
    have hm:∀ m,(!fU x2.B (rk l m) || cQ (pE aC (rk l n) x2.Busy) (rk l m))=true→(!fU x2.B (rk l m) || cQ x2.Busy (rk l m))=true:=fun m hm=>by
      rw [Bool.or_eq_true] at hm ⊢
      rcases hm with hm | hm
      · exact .inl hm
      · rw [yP q1.nd,Bool.and_eq_true] at hm
        exact .inr hm.2
    refine⟨⟨⟨q1.sol,q1.base,q1.rev,q1.ins,Nd.del eV q1.nd _⟩,q2,hbz,?_⟩,fun e0=>?_⟩
    · rcases q4 with q4 | ⟨q4,q6⟩
      · exact Nat.le_trans (Nat.add_le_add_left (vy hm _) _) q4
      · have hlt:uD (fun m=>!fU x2.B (rk l m) || cQ (pE aC (rk l n) x2.Busy) (rk l m)) l.length < uD (fun m=>!fU x2.B (rk l m) || cQ x2.Busy (rk l m)) l.length:=xM (i:=n) hm (by rw [q6,hbz,hbu]; rfl) (by rw [q3]; simp) l.length hn
        have q4:x2.Ran.length + uD (fun m=>!fU x2.B (rk l m) || cQ x2.Busy (rk l m)) l.length≤Go.Proofs.YtmfcloapbgfhaaaGreatDoor.psi l x + 1:=q4
        show x2.Ran.length + uD (fun m=>!fU x2.B (rk l m) || cQ (pE aC (rk l n) x2.Busy) (rk l m)) l.length≤Go.Proofs.YtmfcloapbgfhaaaGreatDoor.psi l x
        omega
    · unfold nj
      have:fU x2.B (rk l n)=true:=q5 e0
      show (_ || fU x2.B (rk l n))=true
      rw [this,Bool.or_true]
  refine Ok.bind (CE hR hD hb0 hu hx1 (Nat.le_trans hp1 hp) hf1) fun u ⟨g1,g2⟩=>?_
  have hbu2:∀ k,cQ u.2.Busy k=(decide (k=rk l n) || cQ x.Busy k):=fun k=>by rw [g1.busy,ta]
  refine Ok.cond (fun hc=>?_) (fun hc=>?_)
  · refine Ok.bind (HH hR hD hb0 hu hi (x:=u.2) (Nat.le_trans g1.psi (Nat.le_trans hp1 hp)) (by rw [uh g1.busy]; exact hf1) g1.ok) fun x3 h3=>?_
    refine Ok.ret (fin h3.ok (lK.trans g1.ver h3.ver) (fun k=>(h3.busy k).trans (hbu2 k)) ?_ fun e0=>?_)
    · have:=Nat.le_trans g1.psi hp1
      rcases h3.psi with⟨_,h,h'⟩|⟨_,h⟩
      · exact .inr ⟨by omega,h'⟩
      · exact .inl (by omega)
    · rcases h3.psi with⟨_,_,h'⟩|⟨h,_⟩
      · exact h'
      · exact absurd e0 h
  · exact Ok.ret (fin g1.ok g1.ver hbu2 (.inl (Nat.le_trans g1.psi hp1)) (g2 hc))
end
theorem Ge (hR:bz l) (hD:AQ l (qW b0) V) (hb0:Rm b0.Inputs.length):∀ f,JG l V b0 (Co f) f
  | 0=>fun x k _ _ _ h=>absurd h (by omega)
  | f + 1=>by
    intro x k hx hp hk hf
    have ih:=Ge hR hD hb0 f
    have hl:=hR.high
    show Ok (iM (Co f) vv x k) _
    unfold iM
    refine Ok.cond (fun he=>Ok.ret ⟨mQ.refl hx,fun e0=>by rw [e0] at he; cases he⟩) (fun he=>?_)
    refine Ok.eq (mf k) (Ok.cond (fun hi=>Ok.ret ⟨mQ.refl hx,fun _=>?_⟩) (fun hi=>?_))
    · unfold nj
      rw [hi]; rfl
    · obtain⟨n,hn,rfl⟩:∃ n,n < l.length∧k=rk l n:=by
        rcases hk with⟨c,_,rfl⟩ | h
        · rw [sN] at hi; cases hi
        · exact h
      refine Ok.eq (hx.base.find hl _) ?_
      have hj3:fU x.B (rk l n)=false→Ok (d5 (Co f) vv x (rk l n) false) fun x'=>mQ l V b0 x x'∧(x'.E=0→nj x' (rk l n)=true):=fun hv=>by
        unfold d5
        simp only [cond_false,Option.bind_some]
        refine Ok.cond (fun hbu=>?_) (fun hbu=>HO hR hD hb0 ih hn hx hp hf hv hbu)
        refine Ok.eq (fp _) (Ok.cond (fun hcy=>?_) (fun hcy=>?_))
        · exact Ok.ret ⟨⟨⟨hx.sol,hx.base,hx.rev,hx.ins,hx.nd⟩,lK.refl _,fun _=>rfl,Nat.le_refl _⟩,fun e0=>by cases e0⟩
        · refine Ok.ret ⟨⟨⟨hx.sol,hx.base,hx.rev,hx.ins,hx.nd⟩,lK.refl _,fun _=>rfl,Nat.le_refl _⟩,fun e0=>?_⟩
          have hc:oO (rk l n)=true:=by simpa using hcy
          have hbu:cQ x.Busy (rk l n)=true:=hbu
          unfold nj
          show (_ || (cQ x.Busy (rk l n) && oO (rk l n)) || _)=true
          rw [hc,hbu]; simp
      unfold ip
      refine Ok.cond (fun hf2=>?_) (fun hf2=>hj3 (by unfold fU; rw [hf2]; rfl))
      cases hver:((bW x.B.Records (rk l n)).1.Verified == x.B.Revision) with
      | true =>
        refine Ok.ret ⟨mQ.refl hx,fun _=>?_⟩
        unfold nj fU
        rw [hf2,show (bW x.B.Records (rk l n)).1.Verified=x.B.Revision by simpa using hver]
        simp
      | false=>exact hj3 (by unfold fU; rw [show decide ((bW x.B.Records (rk l n)).1.Verified=x.B.Revision)=false by simpa using hver,Bool.and_false])
end
end
section
open Go.RowKit
open Go.Lib hiding intOf
theorem eF {ρ:Type} {B:Int→Option (Fl Int ρ)} {r:ρ} (n:Nat) (hgo:∀ k,k < n→B (k:Int)=some (.go ((k + 1:Nat):Int))) (hn:B (n:Int)=some (.out r)):loop B 0=some r :=
  rY (B:=B) (fun k=>(k:Int)) n rfl hgo hn
section
variable {l:List aK} {b:ai}
theorem Ca (hl:l.length≤8) {rev:Int} (hrev:rev≤1000000) {r:an} (h:qL l rev r):nP r=some true:=by
  obtain⟨n,hn,hk⟩:=h.key
  have h3:=h.reads
  have h4:=h.value
  have h5:=h.low
  have h6:=h.mid
  have h7:=h.high
  have h8:=h.cost
  unfold nP
  refine d7 (eF (r:=Fl.go ()) r.Reads.length (fun k hk=>?_) ?_) ?_
  · unfold jE
    rw [dlt hk,cond_true,bB hk,Option.bind_some,(h.good _ (List.getElem_mem hk)).valid hl,Option.bind_some,cB (by omega)]
    rfl
  · unfold jE
    rw [bA]; rfl
  · show jD r=some true
    unfold jD
    rw [hk,zz (by omega),Option.bind_some,cond_true,tK,Option.bind_some,decide_eq_true (by omega),decide_eq_true (by omega),decide_eq_true (by omega),decide_eq_true (by omega),decide_eq_true (by omega),decide_eq_true (by omega),decide_eq_true (by omega)]
    simp only [Bool.not_false,cond_true]
    rw [fp,Option.bind_some]
    unfold bY
    cases hd:r.Dirty with
    | false=>rfl
    | true =>
      have:=h.dirty hd
      rw [hk] at this
      rw [this]; rfl
theorem D2 (h:iu l b) (hl:l.length≤8):iF b.Records=some true:=by
  have hn:=h.nrec
  unfold iF
  refine d7 (eF (r:=Fl.go ()) b.Records.length (fun k hk=>?_) ?_) ?_
  · unfold fC
    rw [dlt hk,cond_true,bB hk,Option.bind_some,Ca hl h.rev.2 (h.recs _ (List.getElem_mem hk)),Option.bind_some]
    have hj:dg (k:Int) false=some (.go ((k + 1:Nat):Int)):=by unfold dg; rw [cB (by omega)]; rfl
    simp only [Bool.not_true,cond_false]
    rcases Nat.eq_zero_or_pos k with h0 | h0
    · subst h0
      exact hj
    · rw [decide_eq_true (by omega),cond_true,show IntKind.i64.wrap ((k:Int) - 1)=((k - 1:Nat):Int) by rw [pm (by omega) (by omega)]; omega,bB (show k - 1 < b.Records.length by omega),Option.bind_some,nh,Option.bind_some]
      have:=List.pairwise_iff_getElem.1 h.recsA (k - 1) k (by omega) hk (by omega)
      rw [decide_eq_false (by omega)]
      exact hj
  · unfold fC
    rw [bA]; rfl
  · show some (decide ((b.Records.length:Int)≤4000))=some true
    rw [decide_eq_true (by omega)]
theorem yx (h:iu l b) (hl:l.length≤8):jG b=some true:=by
  have hn:=h.nrec
  have hi:=h.nin
  have hrev:=h.rev
  unfold jG
  refine d7 (eF (r:=Fl.go ()) b.Inputs.length (fun k hk=>?_) ?_) ?_
  · have hx:=h.ins _ (List.getElem_mem hk)
    obtain⟨c,hc,hkey⟩:=hx.key
    have h1:=hx.value
    have h2:=hx.low
    have h3:=hx.high
    unfold jK
    rw [dlt hk,cond_true,bB hk,Option.bind_some,hkey,sI (by omega),Option.bind_some]
    have hj:cp (k:Int) false=some (.go ((k + 1:Nat):Int)):=by unfold cp; rw [cB (by omega)]; rfl
    simp only [Bool.not_true,cond_false]
    rw [oK,Option.bind_some]
    simp only [Bool.not_true,cond_false]
    rw [decide_eq_false (show ¬ (1073741824:Int) < (b.Inputs[k].Value.size:Int) by omega),decide_eq_false (show ¬ (b.Inputs[k].Changed:Int) < 0 by omega),decide_eq_false (show ¬ (b.Revision:Int) < b.Inputs[k].Changed by omega)]
    rcases Nat.eq_zero_or_pos k with h0 | h0
    · subst h0
      exact hj
    · rw [decide_eq_true (by omega),cond_true,show IntKind.i64.wrap ((k:Int) - 1)=((k - 1:Nat):Int) by rw [pm (by omega) (by omega)]; omega,bB (show k - 1 < b.Inputs.length by omega),Option.bind_some,nh,Option.bind_some]
      have:=List.pairwise_iff_getElem.1 h.insA (k - 1) k (by omega) hk (by omega)
      rw [hkey] at this
      rw [decide_eq_false (by omega)]
      exact hj
  · unfold jK
    rw [bA]; rfl
  · show jI b=some true
    unfold jI
    refine d7 (eF (r:=Fl.go ()) b.Records.length (fun k hk=>?_) ?_) ?_
    · have:=(h.recs _ (List.getElem_mem hk)).high
      unfold jJ
      rw [dlt hk,cond_true,bB hk,Option.bind_some,decide_eq_false (by omega),cB (by omega)]; rfl
    · unfold jJ
      rw [bA]; rfl
    · show jH b=some true
      unfold jH
      rw [decide_eq_true hrev.1,decide_eq_true (by omega),decide_eq_true (by omega),D2 h hl]; rfl
theorem DC (hl:l.length≤8) {k:ae} (hk:mR l k):lU l k=some true:=by
  unfold lU
  rw [hk.valid hl,Option.bind_some,cond_true]
  rcases hk with⟨c,hc,rfl⟩|⟨n,hn,rfl⟩
  · rfl
  · have h1:∀ q,ew ((q:ae).Kind == q.Kind && q.Text.toList == q.Text.toList)=some true:=fun q=>by unfold ew; simp
    rcases ox (l:=l) (n:=n) with⟨h,_⟩|⟨h,_⟩
    · rw [show ((rk l n).Kind != 31)=false by rw [h]; rfl,cond_false,pi,Option.bind_some,wm (by omega),wo hn (by omega),Option.bind_some]
      exact h1 _
    · rw [show ((rk l n).Kind != 31)=true by rw [h]; rfl,cond_true,show ((rk l n).Kind != 32)=false by rw [h]; rfl,cond_false,pi,Option.bind_some,wm (by omega),wo hn (by omega),Option.bind_some]
      exact h1 _
theorem xK (hR:bz l) (h:iu l b) {goals:List ae} (hg:∀ k ∈ goals,mR l k) (hn:goals.length≤32):jO l b goals=some 0:=by
  have hl:=hR.high
  unfold jO
  rw [Cc hR.bnd,Al hR,Option.bind_some]
  simp only [Bool.not_true,cond_false]
  rw [yx h hl,Option.bind_some,decide_eq_false (by omega)]
  simp only [Bool.not_true,cond_false]
  refine d7 (eF (r:=Fl.go ()) goals.length (fun k hk=>?_) ?_) rfl
  · unfold jP
    rw [dlt hk,cond_true,bB hk,Option.bind_some,DC hl (hg _ (List.getElem_mem hk)),Option.bind_some,cB (by omega)]; rfl
  · unfold jP
    rw [bA]; rfl
def Lg (l:List aK) (V:Nat→ByteArray) (b0:ai) (k:Nat):Int×Int×(List aI)×(List an)×(List (ae×Bool))×(List ae)×Int×(List aK)×Int×(List aI)×(List an)×(List (ae×ByteArray))×(List (ae×(List ae)))→Prop
  | (i,rev,ins,recs,busy,ran,e,rules,srev,sins,srecs,memo,seen)=>i=(k:Int)∧Ct l V b0 (E7 rev ins recs busy ran e rules srev sins srecs memo seen)∧psi l (E7 rev ins recs busy ran e rules srev sins srecs memo seen)≤8
def Lj (l:List aK) (V:Nat→ByteArray) (b0:ai):Int×(List aI)×(List an)×(List (ae×Bool))×(List ae)×Int×(List aK)×Int×(List aI)×(List an)×(List (ae×ByteArray))×(List (ae×(List ae)))→Prop
  | (rev,ins,recs,busy,ran,e,rules,srev,sins,srecs,memo,seen)=>Ct l V b0 (E7 rev ins recs busy ran e rules srev sins srecs memo seen)∧psi l (E7 rev ins recs busy ran e rules srev sins srecs memo seen)≤8
structure sH (l:List aK) (b b':ai):Prop where
  ok:iu l b'
  rev:b'.Revision=b.Revision
  ins:b'.Inputs=b.Inputs
theorem Ax (hR:bz l) (h:iu l b) {goals:List ae} (hg:∀ k ∈ goals,mR l k) (hn:goals.length≤32):Ok (k5 uu l b goals) fun y=>sH l b y.1:=by
  have hl:=hR.high
  have hb0:=(h.rm hl).2.1
  have hD:=CR (qW b) hR
  have hcp:=sK (h.rm hl).1 hb0
  unfold k5
  rw [hcp,Option.bind_some,xK hR h hg hn,Option.bind_some]
  simp only [show ((0:Int) != 0)=false from rfl,cond_false]
  refine Ok.eq (v:=al.mk l b [] []) rfl ?_
  rw [hcp,Option.bind_some]
  unfold kl
  refine Ok.loop (Lg l (Vd l (qW b)) b) (Lj l (Vd l (qW b)) b) goals.length ?_ ?_ ?_
  · refine⟨rfl,⟨⟨rfl,rfl,fun n _ v e=>(by cases e),fun c=>rfl⟩,h,rfl,rfl,List.Pairwise.nil⟩,?_⟩
    have:=rO (fun n=>!fU b (rk l n) || cQ [] (rk l n)) l.length
    show 0 + uD (fun n=>!fU b (rk l n) || cQ [] (rk l n)) l.length≤8
    omega
  · rintro k ⟨i,rev,ins,recs,busy,ran,e,rules,srev,sins,srecs,memo,seen⟩ hk ⟨rfl,h1,h2⟩
    dsimp only
    unfold km
    refine Ok.cond (fun hlt=>?_) (fun _=>Ok.ret ⟨h1,h2⟩)
    have hlt:k < goals.length:=by have:=of_decide_eq_true hlt; omega
    have hnb:=rO (fun n=>!cQ busy (rk l n)) l.length
    refine Ok.eq (bB hlt) (Ok.bind (Ge hR hD hb0 40 _ _ h1 h2 (hg _ (List.getElem_mem hlt)) (show uD (fun n=>!cQ busy (rk l n)) l.length < 40 by omega)) fun x' ⟨g1,_⟩=>?_)
    exact Ok.ret ⟨hlt,cB (by omega),g1.ok,Nat.le_trans g1.psi h2⟩
  · rintro⟨rev,ins,recs,busy,ran,e,rules,srev,sins,srecs,memo,seen⟩ ⟨h1,h2⟩
    dsimp only
    unfold gU
    refine Ok.cond (fun _=>Ok.ret ⟨h,rfl,rfl⟩) (fun _=>?_)
    have hr:ran.length≤8:=by
      have h2:ran.length + _≤8:=h2
      omega
    obtain⟨m,hm,_⟩:=sF (l:=ran) (by unfold Rm; omega)
    exact Ok.eq hm (Ok.ret ⟨h1.base,h1.rev,h1.ins⟩)
theorem EY (hR:bz l) {d:List Int} {i:Int} (hd:bM d i):Ok (qe ⟨d,i⟩ l) fun y=>mR l y.1∧bM y.2.L y.2.At:=by
  have hl:=hR.high
  have h2l:=hR.low
  unfold qe
  refine Ok.bind (cP hd (by omega) (by omega)) fun y ⟨_,_,d1⟩=>Ok.cond (fun _=>?_) (fun _=>?_)
  · refine Ok.bind (cP d1 (by omega) (by omega)) fun z ⟨z1,z2,d2⟩=>?_
    obtain⟨c,hc⟩:∃ c:Nat,z.1=c:=⟨z.1.toNat,by omega⟩
    rw [hc]
    exact Ok.eq (m7 (by omega)) (Ok.ret ⟨.inl ⟨c,by omega,rfl⟩,d2⟩)
  · refine Ok.bind (cP d1 (by omega) (by omega)) fun z ⟨z1,z2,d2⟩=>Ok.cond (fun _=>?_) (fun _=>?_)
    · refine Ok.bind (cP d2 (by omega) (by omega)) fun w ⟨w1,w2,d3⟩=>?_
      have e1:IntKind.i64.wrap ((l.length:Int) - 1)=(l.length:Int) - 1:=pm (by omega) (by omega)
      rw [e1,pm (by omega) (by omega)]
      obtain⟨c,hc⟩:∃ c:Nat,(l.length:Int) - 1 - w.1=c:=⟨((l.length:Int) - 1 - w.1).toNat,by omega⟩
      rw [hc]
      exact Ok.eq (wo (by omega) (by omega)) (Ok.ret ⟨.inr ⟨c,by omega,rfl⟩,d3⟩)
    · refine Ok.bind (cP d2 (by omega) (by omega)) fun w ⟨w1,w2,d3⟩=>?_
      obtain⟨c,hc⟩:∃ c:Nat,w.1=c:=⟨w.1.toNat,by omega⟩
      rw [hc]
      exact Ok.eq (wo (by omega) (by omega)) (Ok.ret ⟨.inr ⟨c,by omega,rfl⟩,d3⟩)
theorem y0 (hR:bz l) {d:List Int} {i:Int} (hd:bM d i) {most:Int} (h1:1≤most) (h2:most≤30):Ok (m3 ⟨d,i⟩ l most) fun y=>(∀ k ∈ y.1,mR l k)∧y.1.length≤32∧bM y.2.L y.2.At:=by
  unfold m3
  refine Ok.bind (cP hd h1 (by omega)) fun y ⟨y1,y2,d1⟩=>?_
  rw [pm (by omega) (by omega)]
  refine Ok.loop (fun (k:Nat) (s:(List ae)×Int×(List Int)×Int)=>(∀ q ∈ s.1,mR l q)∧s.1.length=k∧s.2.1=y.1 + 1 - k∧bM s.2.2.1 s.2.2.2) (fun r=>(∀ q ∈ r.1,mR l q)∧r.1.length≤32∧bM r.2.1 r.2.2) 31 ⟨fun q hq=>absurd hq List.not_mem_nil,rfl,by simp,d1⟩ ?_ (fun r hr=>Ok.ret hr)
  rintro k ⟨gs,c,d,i⟩ hk ⟨g1,g2,g3,g4⟩
  dsimp only at g1 g2 g3 g4 ⊢
  unfold ns
  refine Ok.cond (fun hc=>?_) (fun _=>Ok.ret ⟨g1,by show gs.length≤32; omega,g4⟩)
  have hc:=of_decide_eq_true hc
  refine Ok.bind (EY hR g4) fun z ⟨z1,z2⟩=>Ok.gd (dv (by simp; omega)) (Ok.ret ⟨by omega,?_,by rw [List.length_append,g2]; rfl,?_,z2⟩)
  · intro q hq
    rcases List.mem_append.1 hq with hq | hq
    · exact g1 q hq
    · rw [List.mem_singleton.1 hq]; exact z1
  · show IntKind.i64.wrap (c - 1)=_
    rw [pm (by omega) (by omega)]; omega
end
end
section
open Go.RowKit
open Go.Lib hiding intOf
section
variable {l:List aK} {V:Nat→ByteArray} {b0 b:ai}
theorem xN (hR:bz l):iN l=some l:=by
  have h8:=hR.high
  unfold iN iq
  refine d7 (bT (xs:=l) (fun k=>(l.take k,(k:Int))) rfl (r:=l) (fun k x hx=>?_) ?_) rfl
  · have hlt:=aY hx
    have:=(hR.each k x hx).asks
    unfold fJ
    dsimp only
    rw [dlt hlt,cond_true,aU,hx,Option.bind_some,dv (by simp; omega),dv (by rw [List.length_take]; simp; omega),cB (by omega),bG hx]
    rfl
  · unfold fJ
    dsimp only
    rw [bA,List.take_length]; rfl
structure yE (l:List aK) (f:bf):Prop where
  key:∃ n,n < l.length∧f.Key=rk l n
  at0:0≤f.At
  at1:f.At≤1000000
  reads:f.Reads.length≤3
  same:f.Answers.length=f.Reads.length
  good:∀ k ∈ f.Reads,mR l k
theorem ss {fs:List bf} (h:∀ f ∈ fs,yE l f) (hl:fs.length≤1000):dt fs=some fs:=by
  unfold dt cj
  refine d7 (bT (xs:=fs) (fun k=>(fs.take k,(k:Int))) rfl (r:=fs) (fun k x hx=>?_) ?_) rfl
  · have hlt:=aY hx
    have hf:=h x (List.mem_of_getElem? hx)
    have h1:=hf.reads
    have h2:=hf.same
    unfold bH
    dsimp only
    rw [dlt hlt,cond_true,aU,hx,Option.bind_some,dv (by simp; omega),dv (by simp; omega),dv (by rw [List.length_take]; simp; omega),cB (by omega),bG hx]
    rfl
  · unfold bH
    dsimp only
    rw [bA,List.take_length]; rfl
theorem Dl {fs:List bf} (hl:fs.length≤1000) (k:ae):Ok (pc fs k) fun _=>True:=by
  unfold pc
  refine Ok.loop (fun (i:Nat) (s:Int)=>s=i∧i≤fs.length) (fun _=>True) fs.length ⟨rfl,Nat.zero_le _⟩ ?_ ?_
  · rintro i _ hi ⟨rfl,_⟩
    unfold pz
    refine Ok.cond (fun hlt=>?_) (fun _=>Ok.ret trivial)
    have hlt:i < fs.length:=by have:=of_decide_eq_true hlt; omega
    refine Ok.eq (bB hlt) (Ok.cond (fun _=>Ok.ret trivial) (fun _=>Ok.ret ⟨hlt,cB (by omega),hlt⟩))
  · rintro (_ | _) _ <;> exact Ok.ret trivial
theorem xq (hl:l.length≤8) (hb:iu l b) {fs:List bf} (hf:fs.length≤1000) {k:ae} (hk:mR l k):Ok (ko b fs k) fun y=>y=true→∃ n,n < l.length∧k=rk l n:=by
  unfold ko
  refine Ok.eq (mf k) (Ok.cond (fun _=>Ok.ret fun e=>by cases e) (fun hi=>?_))
  have hn:∃ n,n < l.length∧k=rk l n:=by
    rcases hk with⟨c,_,rfl⟩ | h
    · rw [sN] at hi; cases hi
    · exact h
  refine Ok.bind (Dl hf k) fun _ _=>Ok.cond (fun _=>Ok.ret fun _=>hn) (fun _=>Ok.eq (hb.find hl k) (Ok.cond (fun _=>Ok.ret fun _=>hn) (fun _=>Ok.ret fun _=>hn)))
theorem Bd (hl:l.length≤8) (hb:iu l b) {fs:List bf} (hf:fs.length≤1000) {k:ae} (hk:mR l k):Ok (ne b fs [] k) fun y=>y=1→∃ n,n < l.length∧k=rk l n:=by
  have hj:∀ g,Ok (i6 b fs [] k g) fun y=>y=1→∃ n,n < l.length∧k=rk l n:=fun g=>by
    unfold i6
    refine Ok.cond (fun _=>Ok.ret fun e=>by cases e) (fun _=>Ok.bind (xq hl hb hf hk) fun y hy=>Ok.cond (fun _=>Ok.ret fun e=>by cases e) (fun hn=>?_))
    have hn:=hy (by simpa using hn)
    refine Ok.bind (Dl (by simp) k) fun _ _=>Ok.cond (fun _=>Ok.ret fun _=>hn) (fun _=>Ok.eq (fp _) (Ok.cond (fun _=>Ok.ret fun _=>hn) (fun _=>Ok.ret fun _=>hn)))
  unfold ne
  exact Ok.eq (fp _) (Ok.cond (fun _=>Ok.bind (Dl hf k) fun _ _=>hj _) (fun _=>hj _))
structure AR (l:List aK) (V:Nat→ByteArray) (b0 b:ai) (N:Nat) (y:ai×(List bf)×(List ae)×Bool×Int×al):Prop where
  lv:sH l b y.1
  fr:∀ f ∈ y.2.1,yE l f
  len:y.2.1.length≤N + 1
  wk:y.2.2.1.length≤1
  sol:pR l V b0 y.2.2.2.2.2
theorem DM {fs:List bf} (h:∀ f ∈ fs,yE l f) {f:bf} (hf:yE l f) (i:Nat):∀ g ∈ fs.set i f,yE l g:=fun g hg=>by
  rcases List.mem_or_eq_of_mem_set hg with hg | rfl
  · exact h g hg
  · exact hf
theorem z6 {fs:List bf} (h:∀ f ∈ fs,yE l f) {n:Nat} (hn:n < l.length):∀ g ∈ fs ++ [bf.mk (rk l n) false 0 [] []],yE l g:=fun g hg=>by
  rcases List.mem_append.1 hg with hg | hg
  · exact h g hg
  · rw [List.mem_singleton.1 hg]
    exact⟨⟨n,hn,rfl⟩,Int.le_refl _,by show (0:Int)≤1000000; omega,Nat.zero_le _,rfl,fun k hk=>absurd hk List.not_mem_nil⟩
theorem BS (hR:bz l) (hD:AQ l (qW b0) V) (hb0:Rm b0.Inputs.length) {s:al} (hs:pR l V b0 s) (hb:iu l b) {fs:List bf} (hf:∀ f ∈ fs,yE l f) (h0:0 < fs.length) (hlen:fs.length≤900) :
    Ok (mD vv s b fs []) (AR l V b0 b fs.length):=by
  have hl:=hR.high
  have hS:Bz b.Records:=(hb.rm hl).2.2
  have hw:IntKind.i64.wrap ((fs.length:Int) - 1)=((fs.length - 1:Nat):Int):=by rw [pm (by omega) (by omega)]; omega
  have hlast:=List.getElem?_eq_getElem (l:=fs) (i:=fs.length - 1) (by omega)
  have hmem:=List.mem_of_getElem? hlast
  generalize fs[fs.length - 1]=f at hlast hmem
  have hF:=hf f hmem
  obtain⟨n,hn,hkey⟩:=hF.key
  have hi:=List.getElem?_eq_getElem hn
  generalize l[n]=r at hi
  have lv0:sH l b b:=⟨hb,rfl,rfl⟩
  have htake:∀ g ∈ fs.take (fs.length - 1),yE l g:=fun g hg=>hf g (List.mem_of_mem_take hg)
  have hru:=hs.rules
  have hr3:=hF.reads
  have hsm:=hF.same
  unfold mD
  refine Ok.eq (sK (hb.rm hl).1 (hb.rm hl).2.1) (Ok.eq (ss hf (by omega)) ?_)
  rw [hw]
  refine Ok.eq (by rw [aU]; exact hlast) (Ok.eq (ql (by omega)) (Ok.eq (hb.find hl _) ?_))
  unfold lw
  refine Ok.cond (fun hrun=>?_) (fun hrun=>?_)
  · obtain⟨t,ht,hcase⟩:∃ t,di l (rk l n) f.Answers=some t∧((r.Asks.length≤f.Answers.length∧t=⟨true,cq (qZ r (f.Answers.take r.Asks.length)),⟨0,⟨#[]⟩⟩⟩)∨∃ x,r.Asks[f.Answers.length]? = some x∧t=⟨false,⟨#[]⟩,pS l x f.Answers⟩):=by
      rcases Nat.lt_or_ge f.Answers.length r.Asks.length with h1 | h1
      · exact⟨_,wz hR hi (List.getElem?_eq_getElem h1),.inr ⟨_,List.getElem?_eq_getElem h1,rfl⟩⟩
      · exact⟨_,ut hR hi h1,.inl ⟨h1,rfl⟩⟩
    refine Ok.eq (by rw [hru,hkey]; exact ht) ?_
    unfold lr
    rcases hcase with⟨_,rfl⟩|⟨x,hx,rfl⟩
    · simp only [cond_true]
      obtain⟨m,hm1,hm2⟩:=sM hR hi (ls:=f.Answers.take r.Asks.length) (by rw [List.length_take]; omega)
      obtain⟨q,q1,q2,q3,q4⟩:=Be hb hl hn (v:=cq (qZ r (f.Answers.take r.Asks.length))) (by rw [hm1]; exact vP hm2) hr3 hF.good
      have hput:kh b.Records q=some (oa b.Records q):=xz hb.recsA (hb.rm hl).1.1 (by have:=q2.reads; unfold Rm; omega)
      have hj2:Ok (fZ s b fs f (fs.take (fs.length - 1)) (cq (qZ r (f.Answers.take r.Asks.length))) false) (AR l V b0 b fs.length):=by
        unfold fZ
        simp only [cond_false]
        refine Ok.eq (by rw [hkey]; exact q1) (Ok.eq hput (Ok.ret ⟨⟨hb.put q2,rfl,rfl⟩,htake,?_,Nat.le_refl _,hs⟩))
        show (fs.take (fs.length - 1)).length≤fs.length + 1
        rw [List.length_take]; omega
      have hrl:=hb.nrec
      rw [decide_eq_false (by omega)]
      exact Ok.cond (fun _=>hj2) (fun _=>hj2)
    · simp only [cond_false]
      have hlt:=aY hx
      have h3:=(hR.each n r hi).asks
      obtain⟨_,hg⟩:=nF hR hi hx f.Answers
      have hgood:mR l (pS l x f.Answers):=by
        rcases hg with⟨_,c,hc,_,e4⟩|⟨_,j,hj,_,e4⟩
        · exact .inl ⟨c,hc,e4⟩
        · exact .inr ⟨j,by have:=vU hn; omega,e4⟩
      refine Ok.bind (Bd hl hb (by omega) hgood) fun y hy=>?_
      refine Ok.cond (fun h1=>?_) (fun _=>Ok.cond (fun _=>?_) (fun _=>Ok.cond (fun _=>?_) (fun _=>?_)))
      · obtain⟨m,hm,e⟩:=hy (by simpa using h1)
        refine Ok.gd (dv (by simp; omega)) (Ok.ret ⟨lv0,?_,?_,Nat.zero_le _,hs⟩)
        · have e:pS l x f.Answers=rk l m:=e
          show ∀ g ∈ fs ++ [bf.mk (pS l x f.Answers) false 0 [] []],yE l g
          rw [e]; exact z6 hf hm
        · show (fs ++ [_]).length≤_
          rw [List.length_append]; exact Nat.le_refl _
      · exact Ok.ret ⟨lv0,hf,Nat.le_succ _,Nat.zero_le _,hs⟩
      · exact Ok.ret ⟨lv0,hf,Nat.le_succ _,Nat.zero_le _,hs⟩
      · refine Ok.gd (dv (by simp; omega)) (Ok.bind (xa hR hD hb0 hs hb hgood) fun z hz=>Ok.gd (dv (by simp; omega)) ?_)
        have hnew:yE l (bf.mk f.Key f.Running f.At (f.Reads ++ [pS l x f.Answers]) (f.Answers ++ [z.1])):=by
          refine⟨hF.key,hF.at0,hF.at1,?_,?_,?_⟩
          · show (f.Reads ++ [_]).length≤3
            rw [List.length_append]; simp; omega
          · show (f.Answers ++ [_]).length=(f.Reads ++ [_]).length
            rw [List.length_append,List.length_append,hsm]; rfl
          · intro k hk
            rcases List.mem_append.1 hk with hk | hk
            · exact hF.good k hk
            · rw [List.mem_singleton.1 hk]; exact hgood
        exact Ok.ret ⟨lv0,DM hf hnew _,by show (fs.set _ _).length≤_; rw [List.length_set]; exact Nat.le_succ _,Nat.zero_le _,hz⟩
  · refine Ok.bind (F9 hS b.Revision f.Key) fun g ⟨hg1,hg2,hg3⟩=>Ok.eq (xe hS (by omega)) ?_
    have hclen:(eB b.Records g g).length≤1000000:=by have:=pp hS g g; omega
    have hgm:Rm g.length:=by unfold Rm; omega
    have nI:∀ i f',yE l f'→(∀ g ∈ fs.set i f',yE l g)∧(fs.set i f').length≤fs.length + 1:=fun i f' hf'=>⟨DM hf hf' i,by rw [List.length_set]; exact Nat.le_succ _⟩
    have hrun1:yE l (bf.mk f.Key true 0 f.Reads f.Answers):=⟨hF.key,Int.le_refl _,by show (0:Int)≤1000000; omega,hF.reads,hF.same,hF.good⟩
    have hj5:∀ q:Bool,(q=false→(bW b.Records f.Key).2=true)→Ok (f0 vv s [] b fs f (fs.take (fs.length - 1)) g (eB b.Records g g) q) (AR l V b0 b fs.length):=fun q hq=>by
      unfold f0
      refine Ok.cond (fun _=>Ok.ret ⟨lv0,(nI _ _ hrun1).1,(nI _ _ hrun1).2,Nat.zero_le _,hs⟩) (fun _=>?_)
      refine Ok.cond (fun _=>?_) (fun hat=>?_)
      · refine Ok.eq (u9 (hb.rm hl).1 (hb.rm hl).2.1 hgm false) (Ok.ret ⟨⟨hb.mark g false (fun e=>by cases e),rfl,rfl⟩,htake,?_,Nat.zero_le _,hs⟩)
        show (fs.take (fs.length - 1)).length≤fs.length + 1
        rw [List.length_take]; omega
      · have hat:=of_decide_eq_false hat
        have hat0:=hF.at0
        obtain⟨a,ha⟩:∃ a:Nat,f.At=a:=⟨f.At.toNat,by omega⟩
        have hlt:a < (eB b.Records g g).length:=by omega
        have hc:=List.getElem?_eq_getElem hlt
        generalize (eB b.Records g g)[a]=c at hc
        have hgood:=hb.rdGood (uB (List.mem_of_getElem? hc))
        refine Ok.eq (by rw [ha,aU]; exact hc) (Ok.bind (Bd hl hb (by omega) hgood) fun y hy=>?_)
        refine Ok.cond (fun h1=>?_) (fun _=>Ok.cond (fun _=>?_) (fun _=>Ok.cond (fun _=>?_) (fun _=>?_)))
        · obtain⟨m,hm,e⟩:=hy (by simpa using h1)
          refine Ok.gd (dv (by simp; omega)) (Ok.ret ⟨lv0,?_,?_,Nat.zero_le _,hs⟩)
          · show ∀ g ∈ fs ++ [bf.mk c.Read false 0 [] []],yE l g
            rw [e]; exact z6 hf hm
          · show (fs ++ [_]).length≤_
            rw [List.length_append]; exact Nat.le_refl _
        · exact Ok.ret ⟨lv0,hf,Nat.le_succ _,Nat.zero_le _,hs⟩
        · exact Ok.ret ⟨lv0,hf,Nat.le_succ _,Nat.zero_le _,hs⟩
        · refine Ok.eq (hb.find hl _) (Ok.bind (Q:=fun z:Int×al=>pR l V b0 z.2) (by unfold qF; exact Ok.bind (vo hR hD hb0 hs hb hgood) fun z hz=>Ok.ret hz) fun z hz=>?_)
          refine Ok.cond (fun _=>?_) (fun _=>?_)
          · have hw1:IntKind.i64.wrap (f.At + 1)=f.At + 1:=pm (by omega) (by omega)
            have hf':yE l (bf.mk f.Key f.Running (IntKind.i64.wrap (f.At + 1)) f.Reads f.Answers):=⟨hF.key,by show 0≤IntKind.i64.wrap (f.At + 1); rw [hw1]; omega,by show IntKind.i64.wrap (f.At + 1)≤_; rw [hw1]; omega,hF.reads,hF.same,hF.good⟩
            exact Ok.ret ⟨lv0,(nI _ _ hf').1,(nI _ _ hf').2,Nat.zero_le _,hz⟩
          · refine Ok.eq (fp _) (Ok.cond (fun hcy=>?_) (fun _=>?_))
            · have hd:true=true→∀ q ∈ g,oO q=true:=fun _ q hq=>by
                rcases hg3 with⟨_,rfl⟩|⟨_,h⟩
                · rw [List.mem_singleton.1 hq]; exact hcy
                · exact (Dm (h q hq)).1
              exact Ok.eq (u9 (hb.rm hl).1 (hb.rm hl).2.1 hgm true) (Ok.ret ⟨⟨hb.mark g true hd,rfl,rfl⟩,(nI _ _ hrun1).1,(nI _ _ hrun1).2,Nat.zero_le _,hz⟩)
            · exact Ok.ret ⟨lv0,(nI _ _ hrun1).1,(nI _ _ hrun1).2,Nat.zero_le _,hz⟩
    have hj6:∀ q:Bool,Ok (f5 vv s [] b fs f (fs.take (fs.length - 1)) (bW b.Records f.Key).2 (bW b.Records f.Key).1.Dirty g (eB b.Records g g) q) (AR l V b0 b fs.length):=fun q=>by
      unfold f5
      refine Ok.cond (fun _=>Ok.ret ⟨lv0,htake,?_,Nat.zero_le _,hs⟩) (fun _=>Ok.cond (fun _=>hj5 true (fun e=>by cases e)) (fun hh=>hj5 _ (fun _=>by simpa using hh)))
      show (fs.take (fs.length - 1)).length≤fs.length + 1
      rw [List.length_take]; omega
    exact Ok.cond (fun _=>hj6 _) (fun _=>hj6 _)
end
end
section
set_option maxRecDepth 100000
set_option maxHeartbeats 4000000
open Go.RowKit
noncomputable section
def nA (b:LR):Option LR:=some (b)
def kQ (b:Int) (c:LR):Option (Fl (LR×Int) (LR)):=some (.go (c,IntKind.i64.wrap (b + 1)))
def kR (f:LR) (e:ae) (d:LR) (c:Int):Option (Fl (LR×Int) (LR)):=cond (decide ((c:Int) < (f.length:Int))) ((be f c).bind fun b=>cond (!((b.Key.Kind:Int) == e.Kind && b.Key.Text.toList == e.Text.toList)) (gd (br (d.length + ([b]).length)) <| kQ c (d ++ ([b]))) (kQ c d)) (some (.out d))
def m8 (c:LR) (b:ae):Option LR:=(loop (fun s:LR×Int=>kR c b s.1 s.2) (([]:List an),0)).bind fun r=>nA r
theorem tB (T:Nat→Prop) (W0:World) (hT:TW T W0) (e:LR) (d:ae) (r:Value) (G:aA aa T W0 r e) (y:LR) (hM:m8 e d=some y):aW Tryz.prog No 91 [r,.agg (aM d).toArray] W0 (fun v w'=>∃ (D:Value) (oh:List Value),v=D∧fu aa T W0 w' [aH D oh] 84 D oh y):=by
 refine en Tryz.func91 Tryz.ntmps91 hT fun a hS=>?_;replace hS:=hS.fS (aA.dn G);unfold m8 at hM;refine ah hS fun a hS=>?_;refine kb hS fun g N a w hk hS=>?_;refine ah hS fun a hS=>?_;refine aG (J:=fun a w=>∃ (m:LR) (j:Value) (h:LV),St W0 No T 24 [(5,j)] [aH j h] [am aa h m] a w∧nA m=some y) ?_ ?_
 ·skip;refine ah hS fun a hS=>?_;replace hS:=hS.nilRow aa 84 (by decide);obtain⟨S,F,hMo1⟩:=bd hM;refine bu _ (fun s a w=>∃ (f:LR) (c:Int) (o:Value) (k:LV),(f,c)=s∧St W0 No T 24 [(3,pt g 0),(5,o),(8,r),(9,.int .i64 (e.length:Int)),(10,.int .i64 c)] [aH o k,.box g (aM d) 44] [am aa k f,aJ aa r e] a w) F ⟨_,_,_,_,rfl,hS.mt [0,1] [0,1]⟩ ?_;rintro s a w E ⟨f,c,o,k,rfl,hS⟩ hM hf1;have hM:kR e d f c=some E:=hM;unfold kR at hM;refine ah hS fun a hS=>?_;refine az ?_;rcases cd hM with⟨z,hM⟩|⟨z,hM⟩
  ·refine ah hS fun a hS=>?_;refine aG (J:=fun a w=>∃ (n:LR) (p:Value) (l:LV),St W0 No T 24 [(3,pt g 0),(5,p),(8,r),(9,.int .i64 (e.length:Int)),(10,.int .i64 c)] [aH p l,.box g (aM d) 44] [am aa l n,aJ aa r e] a w∧kQ c n=some E) ?_ ?_
   ·skip;refine ah hS fun a hS=>?_;obtain⟨b,t,hM⟩:=bd hM;refine wl rfl (bc (R:=aa) hS n4 k8 rfl rfl 1 rfl t rfl fun H P L A a hS=>?_);obtain⟨q,rfl,u⟩:=A;replace hS:=hS.fS u;refine ah hS fun a hS=>?_;refine ka hS ft fun I O a w hk hS=>?_;refine go hS fun a w hS=>?_;refine wl rfl (ky (v:=.bool (!((b.Key.Kind:Int) == d.Kind && b.Key.Text.toList == d.Text.toList))) hS (vJ hS rfl rfl) rfl rfl fun a hS=>?_);refine ah hS fun a hS=>?_;rcases cd hM with⟨B,hM⟩|⟨B,hM⟩
    ·refine ah hS fun a hS=>?_;refine wl rfl (aT (ps:=[(0,.tmp 19)]) hS pZ ft (zl:=[.int .i64 0,.string (ByteArray.mk #[]),.string (ByteArray.mk #[]),.slice none 0 0,.int .i64 0,.int .i64 0,.int .i64 0,.bool false]) (by kernel_rfl) rfl (us:=[(a6 b q)]) ⟨rfl,trivial⟩ (ws:=(a6 b q)) rfl rfl rfl rfl fun K a w hk hS=>?_);replace hS:=(hS.lit (R:=aa) (us:=(a6 b q)) (xs:=[b]) 0 rfl (by decide) (aB.one_ (R:=aa) (x:=b) (⟨_,rfl,(hS.get 0 rfl)⟩)) rfl rfl).freeze (R:=aa) 0 rfl 0 rfl;obtain⟨C,hM⟩:=aS hM;refine wl rfl (bw (R:=aa) (xs:=f) (ys:=[b]) hS pZ (by decide) (by decide) rfl rfl 1 rfl 4 rfl 0 rfl C rfl fun Q M a w hk hS=>?_);exact fz
    exact fz
   rintro a w ⟨n,p,l,hS,hM⟩;unfold kQ at hM;exact fz
  exact fz
 rintro a w ⟨m,j,h,hS,hM⟩;unfold nA at hM;refine ah hS fun a hS=>?_;cases hM
 refine aE hS rfl (ap hS rfl aD) ?_;exact⟨j,h,rfl,hS.retOwn ⟨.inr (List.mem_of_getElem? (i:=0) rfl),trivial⟩ 0 rfl 0 rfl⟩
def od (b:ai) (c:LR):Option ai:=some ((ai.mk b.Revision b.Inputs c))
def lp (c:Int) (b:LR):Option (Fl (Int×LR) (LR)):=some (.go (IntKind.i64.wrap (c + 1),b))
def lq (e:cG) (b:Int) (c:LR):Option (Fl (Int×LR) (LR)):=cond (decide ((b:Int) < (e.Stack.length:Int))) ((be e.Stack b).bind fun d=>(bX d.Key).bind fun f=>cond f ((m8 c d.Key).bind fun g=>lp b g) (lp b c)) (some (.out c))
def mC (c:cG):Option ai:=(dX c.Base).bind fun b=>(loop (fun s:Int×LR=>lq c s.1 s.2) (0,b.Records)).bind fun r=>od b r
theorem wa (T:Nat→Prop) (W0:World) (hT:TW T W0) (b:cG) (Z:Value) (v2:Value) (v3:Value) (v4:Value) (u:Value) (v6:Value) (S:aA ay T W0 Z b.Rules) (U:aA ad T W0 v2 b.Base.Inputs) (V:aA aa T W0 v3 b.Base.Records) (W:aA ac T W0 v4 b.Goals) (X:aA ar T W0 u b.Stack) (Y:aA ac T W0 v6 b.Ran) (y:ai) (hM:mC b=some y):aW Tryz.prog No 58 [.agg (sr b Z v2 v3 v4 u v6).toArray] W0 (fun v w'=>∃ (C:Value) (tT:List Value) (D:Value) (oL:List Value),v = .agg (aQ y C D).toArray∧fu ad T W0 w' [aR C tT,aH D oL] 69 C tT y.Inputs∧fu aa T W0 w' [aR C tT,aH D oL] 84 D oL y.Records∧(∀ k,C.ownBlock=some k→D.ownBlock ≠ some k)):=by
 refine en Tryz.func58 Tryz.ntmps58 hT fun a hS=>?_;replace hS:=(((((hS.fS (aA.dn S)).fS (aA.dn U)).fS (aA.dn V)).fS (aA.dn W)).fS (aA.dn X)).fS (aA.dn Y);unfold mC at hM;refine ah hS fun a hS=>?_;refine kb hS fun a4 ak a w hk hS=>?_;refine ka hS l4 fun f ao a w hk hS=>?_;refine ah hS fun a hS=>?_;obtain⟨d,F,hM⟩:=bd hM;refine kc hS vr (dD _ _ hS.dlt b.Base _ _ (hS.get 4 rfl) (hS.get 3 rfl) _ F) fun _ w hR a hk hA=>?_;obtain⟨e,c,b3,ab,he,z,A,P⟩:=hR;obtain rfl:=he.symm;have hS:=s7 hA z A P;refine ka hS l4 fun g av a w hk hS=>?_;refine go hS fun a w hS=>?_;refine aG (J:=fun a w=>∃ (n:LR) (m:Value) (l:LV),St W0 No T 27 [(2,pt f 0),(3,pt g 0)] [.box f [.int .i64 0,.slice none 0 0,.slice none 0 0] 31,aR e c,aH m l,.box g (aQ d e m) 31] [am ad c d.Inputs,am aa l n] a w∧od d n=some y) ?_ ?_
 ·skip;refine ah hS fun a hS=>?_;obtain⟨r1,Q,hMo1⟩:=bd hM;refine bu _ (fun s a w=>∃ (h:Int) (j:LR) (r:Value) (p:LV),(h,j)=s∧St W0 No T 27 [(2,pt f 0),(3,pt g 0),(10,u),(11,.int .i64 (b.Stack.length:Int)),(12,.int .i64 h)] [.box f [.int .i64 0,.slice none 0 0,.slice none 0 0] 31,aR e c,aH r p,.box g (aQ d e r) 31] [aJ ar u b.Stack,am ad c d.Inputs,am aa p j] a w) Q ⟨_,_,_,_,rfl,hS.mt [3,1,2,0] [3,1,0]⟩ ?_;rintro s a w O ⟨h,j,r,p,rfl,hS⟩ hM hf1;have hM:lq b h j=some O:=hM;unfold lq at hM;refine ah hS fun a hS=>?_;refine az ?_;rcases cd hM with⟨L,hM⟩|⟨L,hM⟩
  ·refine ah hS fun a hS=>?_;refine aG (J:=fun a w=>∃ (o:LR) (t:Value) (q:LV),St W0 No T 27 [(2,pt f 0),(3,pt g 0),(10,u),(11,.int .i64 (b.Stack.length:Int)),(12,.int .i64 h)] [.box f [.int .i64 0,.slice none 0 0,.slice none 0 0] 31,aR e c,aH t q,.box g (aQ d e t) 31] [aJ ar u b.Stack,am ad c d.Inputs,am aa q o] a w∧lp h o=some O) ?_ ?_
   ·skip;refine ah hS fun a hS=>?_;obtain⟨x,E,hM⟩:=bd hM;refine wl rfl (bc (R:=ar) hS wv rJ rfl rfl 0 rfl E rfl fun a5 b0 af M a hS=>?_);obtain⟨b4,b5,rfl,I,K⟩:=M;replace hS:=(hS.fS I).fS K;refine ah hS fun a hS=>?_;refine ka hS qo fun a9 ax a w hk hS=>?_;refine go hS fun a w hS=>?_;obtain⟨b1,G,hM⟩:=bd hM;refine kc hS tW (cm _ _ hS.dlt x.Key _ G) fun _ w hR a hk hA=>?_;obtain rfl:=hR;have hS:=bV hA;refine ah hS fun a hS=>?_;rcases cd hM with⟨N,hM⟩|⟨N,hM⟩
    ·refine ah hS fun a hS=>?_;replace hS:=hS.freeze (R:=aa) 3 rfl 5 rfl;obtain⟨b2,H,hM⟩:=bd hM;refine kc hS IT (tB _ _ hS.dlt j x.Key _ (hS.get 0 rfl) _ H) fun _ w hR a hk hA=>?_;obtain⟨b6,ag,he,B⟩:=hR;obtain rfl:=he.symm;have hS:=oI hA B;exact fz
    exact fz
   rintro a w ⟨o,t,q,hS,hM⟩;unfold lp at hM;exact fz
  exact fz
 rintro a w ⟨n,m,l,hS,hM⟩;unfold od at hM;refine go hS fun a w hS=>?_;cases hM
 refine aE hS rfl (rC 0 hS) ?_;exact⟨e,c,m,l,rfl,hS.retOwn ⟨.inr (List.mem_of_getElem? (i:=1) rfl),⟨.inr (List.mem_of_getElem? (i:=2) rfl),trivial⟩⟩ 1 rfl 0 rfl,hS.retOwn ⟨.inr (List.mem_of_getElem? (i:=1) rfl),⟨.inr (List.mem_of_getElem? (i:=2) rfl),trivial⟩⟩ 2 rfl 1 rfl,(hS.apart2 1 rfl 2 rfl (by decide))⟩
def m9 (b:an):Option Int:=some (IntKind.i64.wrap ((IntKind.i64.wrap ((IntKind.i64.wrap (16 + (b.Key.Text.size:Int))) + (b.Value.size:Int))) + (IntKind.i64.wrap (8 * (b.Reads.length:Int)))))
theorem qD (T:Nat→Prop) (W0:World) (hT:TW T W0) (b:an) (d:Value) (c:aA ac T W0 d b.Reads) (y:Int) (hM:m9 b=some y):aW Tryz.prog No 128 [.agg (a6 b d).toArray] W0 (fun v w'=>v = .int .i64 y):=by
 refine en Tryz.func128 Tryz.ntmps128 hT fun a hS=>?_;replace hS:=hS.fS (aA.dn c);unfold m9 at hM;refine ah hS fun a hS=>?_;refine kb hS fun e f a w hk hS=>?_;exact fz
def mI (d:an) (e:an):Option Bool:=(m9 d).bind fun b=>(m9 e).bind fun c=>cond ((IntKind.i64.wrap (d.Cost * c):Int) != (IntKind.i64.wrap (e.Cost * b))) (some (decide ((IntKind.i64.wrap (d.Cost * c):Int) < (IntKind.i64.wrap (e.Cost * b))))) (cond ((b:Int) != c) (some (decide ((c:Int) < b))) ((iV d.Key e.Key).bind fun f=>some (decide ((f:Int) < 0))))
theorem wc (T:Nat→Prop) (W0:World) (hT:TW T W0) (hLv:cU T W0) (b:an) (c:an) (k:Value) (l:Value) (i:aA ac T W0 k b.Reads) (j:aA ac T W0 l c.Reads) (y:Bool) (hM:mI b c=some y):aW Tryz.prog No 127 [.agg (a6 b k).toArray,.agg (a6 c l).toArray] W0 (fun v w'=>v = .bool y):=by
 refine en Tryz.func127 Tryz.ntmps127 hT fun a hS=>?_;replace hS:=((hS.fact bv (cU.dn hLv)).fS (aA.dn i)).fS (aA.dn j);unfold mI at hM;refine ah hS fun a hS=>?_;refine kb hS fun m o a w hk hS=>?_;refine kb hS fun n p a w hk hS=>?_;refine ah hS fun a hS=>?_;refine az ?_;refine dr [] hS fun w hQ hS=>?_;refine gE [0,2] hS fun a hS=>?_;obtain⟨q,d,hM⟩:=bd hM;refine ec 1 hS CH (qD _ _ hS.dlt b _ (hS.get 1 rfl) _ d) fun _ w hR a hk hA=>?_;obtain rfl:=hR;have hS:=bV hA;obtain⟨r,e,hM⟩:=bd hM;refine ec 3 hS CH (qD _ _ hS.dlt c _ (hS.get 0 rfl) _ e) fun _ w hR a hk hA=>?_;obtain rfl:=hR;have hS:=bV hA;refine gE [4,5] hS fun a hS=>?_;refine eD ?_;refine ah hS fun a hS=>?_;refine az ?_;refine ah hS fun a hS=>?_;rcases cd hM with⟨g,hM⟩|⟨g,hM⟩
 ·exact fz
 refine ah hS fun a hS=>?_;rcases cd hM with⟨h,hM⟩|⟨h,hM⟩
 ·exact fz
 refine ah hS fun a hS=>?_;obtain⟨s,f,hM⟩:=bd hM;refine kc hS BI (lQ _ _ hS.dlt (hS.get 2 rfl) b.Key c.Key _ f) fun _ w hR a hk hA=>?_;obtain rfl:=hR;have hS:=bV hA;exact fz
def ph (b:LR):Option LR:=some (b)
def mJ (b:Int) (c:LR):Option (Fl (LR×Int) (LR)):=some (.go (c,IntKind.i64.wrap (b + 1)))
def mK (d:LR) (g:Int) (c:an) (e:Int):Option (Fl (LR×Int) (LR)):=(oz d 0 e).bind fun b=>(oz d e d.length).bind fun f=>gd (br (([]:List an).length + b.length)) <| gd (br ((([]:List an) ++ b).length + ([c]).length)) <| gd (br (((([]:List an) ++ b) ++ ([c])).length + f.length)) <| mJ g (((([]:List an) ++ b) ++ ([c])) ++ f)
def mL (c:LR) (d:an) (b:Int):Option (Fl (Int) (Int)):=cond (decide ((b:Int) < (c.length:Int))) ((be c b).bind fun e=>(mI e d).bind fun f=>cond f (some (.go (IntKind.i64.wrap (b + 1)))) (some (.out b))) (some (.out b))
def mM (e:LR) (c:LR) (b:Int):Option (Fl (LR×Int) (LR)):=cond (decide ((b:Int) < (e.length:Int))) ((be e b).bind fun d=>(loop (fun s:Int=>mL c d s) 0).bind fun r=>mK c b d r) (some (.out c))
def nW (b:LR):Option LR:=(loop (fun s:LR×Int=>mM b s.1 s.2) (([]:List an),0)).bind fun r=>ph r
theorem w4 (T:Nat→Prop) (W0:World) (hT:TW T W0) (hLv:cU T W0) (e:LR) (o:Value) (b2:aA aa T W0 o e) (y:LR) (hM:nW e=some y):aW Tryz.prog No 92 [o] W0 (fun v w'=>∃ (G:Value) (oh:List Value),v=G∧fu aa T W0 w' [aH G oh] 84 G oh y):=by
 refine en Tryz.func92 Tryz.ntmps92 hT fun a hS=>?_;replace hS:=(hS.fact bv (cU.dn hLv)).fS (aA.dn b2);unfold nW at hM;refine ah hS fun a hS=>?_;refine aG (J:=fun a w=>∃ (E:LR) (u:Value) (q:LV),St W0 No T 40 [(3,u)] [aH u q] [am aa q E,bv] a w∧ph E=some y) ?_ ?_
 ·skip;refine ah hS fun a hS=>?_;replace hS:=hS.nilRow aa 84 (by decide);obtain⟨r1,b0,hMo1⟩:=bd hM;refine bu _ (fun s a w=>∃ (f:LR) (d:Int) (m:Value) (g:LV),(f,d)=s∧St W0 No T 40 [(3,m),(7,o),(8,.int .i64 (e.length:Int)),(9,.int .i64 d)] [aH m g] [am aa g f,aJ aa o e,bv] a w) b0 ⟨_,_,_,_,rfl,hS.mt [0] [0,1,2]⟩ ?_;rintro s a w f1 ⟨f,d,m,g,rfl,hS⟩ hM hf1;have hM:mM e f d=some f1:=hM;unfold mM at hM;refine ah hS fun a hS=>?_;refine az ?_;rcases cd hM with⟨a1,hM⟩|⟨a1,hM⟩
  ·refine ah hS fun a hS=>?_;refine aG (J:=fun a w=>∃ (F:LR) (H:Value) (z:LV),St W0 No T 40 [(3,H),(7,o),(8,.int .i64 (e.length:Int)),(9,.int .i64 d)] [aH H z] [am aa z F,aJ aa o e,bv] a w∧mJ d F=some f1) ?_ ?_
   ·skip;refine ah hS fun a hS=>?_;obtain⟨b,O,hM⟩:=bd hM;refine wl rfl (bc (R:=aa) hS n4 k8 rfl rfl 1 rfl O rfl fun b3 bs b6 a2 a hS=>?_);obtain⟨c,rfl,V⟩:=a2;replace hS:=hS.fS V;refine ah hS fun a hS=>?_;refine ka hS ft fun p bl a w hk hS=>?_;refine go hS fun a w hS=>?_;refine aG (J:=fun a w=>∃ (D:Int),St W0 No T 40 [(3,m),(5,pt p 0),(6,.int .i64 D),(7,o),(8,.int .i64 (e.length:Int)),(9,.int .i64 d)] [aH m g,.box p (a6 b c) 84] [am aa g f,aJ aa o e,aJ ac c b.Reads,bv] a w∧mK f d b D=some f1) ?_ ?_
    ·skip;refine ah hS fun a hS=>?_;obtain⟨r2,b1,hMo2⟩:=bd hM;refine bu _ (fun s a w=>∃ (t:Int),t=s∧St W0 No T 40 [(3,m),(5,pt p 0),(6,.int .i64 t),(7,o),(8,.int .i64 (e.length:Int)),(9,.int .i64 d)] [aH m g,.box p (a6 b c) 84] [am aa g f,aJ aa o e,aJ ac c b.Reads,bv] a w) b1 ⟨_,rfl,hS.mt [1,0] [2,3,0,4]⟩ ?_;rintro s a w f2 ⟨t,rfl,hS⟩ hM hf2;have hM:mL f b t=some f2:=hM;unfold mL at hM;refine az ?_;refine az ?_;refine dr [] hS fun w hQ hS=>?_;refine gE [0,1,2,3,4] hS fun a hS=>?_;rcases cd hM with⟨r,hM⟩|⟨r,hM⟩
     ·refine gE [5,6] hS fun a hS=>?_;obtain⟨A,P,hM⟩:=bd hM;obtain⟨X,ag,bt,b8,a3,a4,a5,a9⟩:=kG (R:=aa) hS n4 k8 0 rfl 0 rfl P;obtain⟨N,rfl,W⟩:=a3;replace hS:=hS.fS W;refine vG 7 (v:=pt X ag) rfl (by kernel_rfl) (by kernel_rfl) (by kernel_rfl) rfl hQ hS (a9 rfl rfl) rfl rfl rfl r rfl rfl fun a hS=>?_;refine vG (l:=[]) 8 (v:=.agg (a6 A N).toArray) rfl (by kernel_rfl) (by kernel_rfl) (by kernel_rfl) (by kernel_rfl) hQ hS (bL (k:=0) hS k8 0 rfl a4 a5 rfl bo (us:=(a6 A N)) rfl rfl (fun h=>by cases h)) rfl rfl rfl r rfl rfl fun a hS=>?_;refine gE [9] hS fun a hS=>?_;obtain⟨c0,U,hM⟩:=bd hM;refine cy (i:=10) rfl (by kernel_rfl) hS rfl rfl rfl r (a8 hS In rfl rfl (wc _ _ hS.dlt (hS.get 4 rfl) A b _ _ (hS.get 0 rfl) (hS.get 3 rfl) _ U) fun _ w hR a hk hA=>⟨fc (hk),?_⟩);obtain rfl:=hR;have hS:=bV hA;refine gE [11] hS fun a hS=>?_;refine eD ?_;exact fz
     refine gE [5,6,7,8,9,10,11] hS fun a hS=>?_;refine eD ?_;exact fz
    rintro a w ⟨D,hS,hM⟩;unfold mK at hM;replace hS:=hS.nilRow aa 84 (by decide);refine dr [(3,.blk (Value.ownBlock (.slice none 0 0))),(6,.any),(10,.any)] hS fun w hQ hS=>?_;refine gE [0,1] hS fun a hS=>?_;obtain⟨n,Q,hM⟩:=bd hM;obtain⟨ak,I,ab⟩:=vD (R:=aa) hS n4 k8 1 rfl 1 rfl Q;refine dy 2 (v:=ak) rfl (by kernel_rfl) (by kernel_rfl) (by kernel_rfl) rfl hQ hS (ab (k1:=.i64) rfl (.inr ⟨rfl,rfl⟩) (.inl ⟨_,rfl,rfl⟩)) rfl rfl rfl fun a hS=>?_;refine dy (l:=[.blk (Value.ownBlock (.slice none 0 0))]) 4 (v:=.agg (a6 b c).toArray) rfl (by kernel_rfl) (by kernel_rfl) (by kernel_rfl) (by kernel_rfl) hQ hS (dH hS rfl k8 2 rfl (ic hS 2 rfl rfl 0 rfl rfl (by decide) bo) (us:=(a6 b c)) rfl rfl (fun h=>by cases h)) rfl rfl rfl fun a hS=>?_;refine gE [7,8] hS fun a hS=>?_;obtain⟨M,S,hM⟩:=bd hM;obtain⟨ao,K,af⟩:=vD (R:=aa) hS n4 k8 1 rfl 1 rfl S;refine dy 9 (v:=ao) rfl (by kernel_rfl) (by kernel_rfl) (by kernel_rfl) rfl hQ hS (af (k2:=.i64) rfl (.inl ⟨_,rfl,rfl⟩) (.inr ⟨rfl,rfl⟩)) rfl rfl rfl fun a hS=>?_;obtain⟨L,hM⟩:=aS hM;refine de (i:=3) (j:=5) rfl rfl (by kernel_rfl) rfl rfl ?_ ?_
    ·skip;skip;replace hS:=hS.freeze (R:=aa) 1 rfl 1 rfl;replace hS:=hS.fS (I _ _ (hS.get 0 rfl));refine id (bw (R:=aa) (xs:=([]:List an)) (ys:=n) hS pZ (by decide) (by decide) rfl rfl 0 rfl 2 rfl 0 rfl L rfl fun c1 b9 a w hk hS=>⟨kB rfl hk kH,?_⟩);refine e1 5 (aT (ps:=[(0,.tmp 31)]) hS pZ ft (zl:=[.int .i64 0,.string (ByteArray.mk #[]),.string (ByteArray.mk #[]),.slice none 0 0,.int .i64 0,.int .i64 0,.int .i64 0,.bool false]) (by kernel_rfl) rfl (us:=[(a6 b c)]) ⟨rfl,trivial⟩ (ws:=(a6 b c)) rfl rfl rfl rfl fun b4 a w hk hS=>⟨fc (hk),?_⟩);replace hS:=(hS.lit (R:=aa) (us:=(a6 b c)) (xs:=[b]) 0 rfl (by decide) (aB.one_ (R:=aa) (x:=b) (⟨_,rfl,(hS.get 6 rfl)⟩)) rfl rfl).freeze (R:=aa) 0 rfl 0 rfl;obtain⟨B,hM⟩:=aS hM;refine e1 6 (bw (R:=aa) (xs:=(([]:List an) ++ n)) (ys:=[b]) hS pZ (by decide) (by decide) rfl rfl 0 rfl 2 rfl 0 rfl B rfl fun av Y a w hk hS=>⟨kB rfl hk su,?_⟩);replace hS:=hS.fS (K _ _ (hS.get 5 rfl));obtain⟨C,hM⟩:=aS hM;refine e1 10 (bw (R:=aa) (xs:=((([]:List an) ++ n) ++ ([b]))) (ys:=M) hS pZ (by decide) (by decide) rfl rfl 0 rfl 1 rfl 0 rfl C rfl fun ax Z a w hk hS=>⟨kB rfl hk su,?_⟩);refine gE [11] hS fun a hS=>?_;refine eD ?_;exact⟨_,_,_,hS.mt [0] [0,10,12],hM⟩
    skip;refine id (aT (ps:=[(0,.tmp 31)]) hS pZ ft (zl:=[.int .i64 0,.string (ByteArray.mk #[]),.string (ByteArray.mk #[]),.slice none 0 0,.int .i64 0,.int .i64 0,.int .i64 0,.bool false]) (by kernel_rfl) rfl (us:=[(a6 b c)]) ⟨rfl,trivial⟩ (ws:=(a6 b c)) rfl rfl rfl rfl fun b5 a w hk hS=>⟨fc (hk),?_⟩);replace hS:=hS.freeze (R:=aa) 2 rfl 1 rfl;replace hS:=hS.fS (I _ _ (hS.get 0 rfl));refine e1 3 (bw (R:=aa) (xs:=([]:List an)) (ys:=n) hS pZ (by decide) (by decide) rfl rfl 1 rfl 2 rfl 0 rfl L rfl fun c2 bb a w hk hS=>⟨kB rfl hk kH,?_⟩);replace hS:=(hS.lit (R:=aa) (us:=(a6 b c)) (xs:=[b]) 0 rfl (by decide) (aB.one_ (R:=aa) (x:=b) (⟨_,rfl,(hS.get 6 rfl)⟩)) rfl rfl).freeze (R:=aa) 0 rfl 0 rfl;obtain⟨B,hM⟩:=aS hM;refine e1 6 (bw (R:=aa) (xs:=(([]:List an) ++ n)) (ys:=[b]) hS pZ (by decide) (by decide) rfl rfl 0 rfl 2 rfl 0 rfl B rfl fun av Y a w hk hS=>⟨kB rfl hk su,?_⟩);replace hS:=hS.fS (K _ _ (hS.get 5 rfl));obtain⟨C,hM⟩:=aS hM;refine e1 10 (bw (R:=aa) (xs:=((([]:List an) ++ n) ++ ([b]))) (ys:=M) hS pZ (by decide) (by decide) rfl rfl 0 rfl 1 rfl 0 rfl C rfl fun ax Z a w hk hS=>⟨kB rfl hk su,?_⟩);refine gE [11] hS fun a hS=>?_;refine eD ?_;exact⟨_,_,_,hS.mt [0] [0,10,12],hM⟩
   rintro a w ⟨F,H,z,hS,hM⟩;unfold mJ at hM;exact fz
  exact fz
 rintro a w ⟨E,u,q,hS,hM⟩;unfold ph at hM;refine ah hS fun a hS=>?_;cases hM
 refine aE hS rfl (ap hS rfl aD) ?_;exact⟨u,q,rfl,hS.retOwn ⟨.inr (List.mem_of_getElem? (i:=0) rfl),trivial⟩ 0 rfl 0 rfl⟩
def pg (b:Int):Option Int:=some (b)
def mH (d:LR) (c:Int) (b:Int):Option (Fl (Int×Int) (Int)):=cond (decide ((b:Int) < (d.length:Int))) ((be d b).bind fun e=>(m9 e).bind fun f=>some (.go (IntKind.i64.wrap (c + f),IntKind.i64.wrap (b + 1)))) (some (.out c))
def nV (b:LR):Option Int:=(loop (fun s:Int×Int=>mH b s.1 s.2) (0,0)).bind fun r=>pg r
theorem wZ (T:Nat→Prop) (W0:World) (hT:TW T W0) (d:LR) (i:Value) (n:aA aa T W0 i d) (y:Int) (hM:nV d=some y):aW Tryz.prog No 93 [i] W0 (fun v w'=>v = .int .i64 y):=by
 refine en Tryz.func93 Tryz.ntmps93 hT fun a hS=>?_;replace hS:=hS.fS (aA.dn n);unfold nV at hM;refine ah hS fun a hS=>?_;refine aG (J:=fun a w=>∃ (e:Int),St W0 No T 18 [(3,.int .i64 e)] [] [] a w∧pg e=some y) ?_ ?_
 ·skip;refine ah hS fun a hS=>?_;obtain⟨A,m,hMo1⟩:=bd hM;refine bu _ (fun s a w=>∃ (c:Int) (b:Int),(c,b)=s∧St W0 No T 18 [(3,.int .i64 c),(6,i),(7,.int .i64 (d.length:Int)),(8,.int .i64 b)] [] [aJ aa i d] a w) m ⟨_,_,rfl,hS.mt [] [0]⟩ ?_;rintro s a w r ⟨c,b,rfl,hS⟩ hM hf1;have hM:mH d c b=some r:=hM;unfold mH at hM;refine ah hS fun a hS=>?_;refine az ?_;rcases cd hM with⟨k,hM⟩|⟨k,hM⟩
  ·refine ah hS fun a hS=>?_;refine az ?_;refine ah hS fun a hS=>?_;obtain⟨j,f,hM⟩:=bd hM;refine wl rfl (bc (R:=aa) hS n4 k8 rfl rfl 0 rfl f rfl fun o u q l a hS=>?_);obtain⟨z,rfl,h⟩:=l;replace hS:=hS.fS h;refine ah hS fun a hS=>?_;refine ka hS ft fun p t a w hk hS=>?_;refine go hS fun a w hS=>?_;obtain⟨x,g,hM⟩:=bd hM;refine kc hS CH (qD _ _ hS.dlt j _ (hS.get 0 rfl) _ g) fun _ w hR a hk hA=>?_;obtain rfl:=hR;have hS:=bV hA;exact fz
  exact fz
 rintro a w ⟨e,hS,hM⟩;unfold pg at hM;exact fz
def mF (b:ai) (c:LK) (d:LR):Option (ai×LK×Int):=some (((ai.mk b.Revision b.Inputs d),c,0))
def jR (b:Int) (c:LK) (d:LR):Option (Fl (LK×Int×LR) (LK×LR)):=some (.go (c,IntKind.i64.wrap (b + 1),d))
def gW (c:LK) (d:Int) (e:LR) (b:an) (f:Bool):Option (Fl (LK×Int×LR) (LK×LR)):=cond f ((m8 e b.Key).bind fun g=>gd (br (c.length + ([b.Key]).length)) <| jR d (c ++ ([b.Key])) g) (jR d c e)
def mG (f:Int) (h:LK) (g:LR) (e:LK) (b:Int) (c:LR):Option (Fl (LK×Int×LR) (LK×LR)):=cond (decide ((b:Int) < (g.length:Int))) ((be g b).bind fun d=>(nV c).bind fun i=>cond (decide ((f:Int) < i)) ((m5 h d.Key).bind fun j=>gW e b c d (!(j))) (gW e b c d false)) (some (.out (e,c)))
def nU (c:ai) (b:Int) (e:LK):Option (ai×LK×Int):=(jG c).bind fun g=>cond (!(g)) (some (((ai.mk 0 ([]:List aI) ([]:List an)),([]:List ae),42))) (cond (decide ((b:Int) < 0)) (some (((ai.mk 0 ([]:List aI) ([]:List an)),([]:List ae),2))) (cond (decide ((1073741824:Int) < b)) (some (((ai.mk 0 ([]:List aI) ([]:List an)),([]:List ae),2))) ((dX c).bind fun d=>(nW c.Records).bind fun f=>(loop (fun s:LK×Int×LR=>mG b e f s.1 s.2.1 s.2.2) (([]:List ae),0,d.Records)).bind fun r=>mF d r.1 r.2)))
theorem wY (T:Nat→Prop) (W0:World) (hT:TW T W0) (t:ai) (d:Int) (g:LK) (v1:Value) (v2:Value) (G:Value) (hD:vd T W0 []) (bb:aA ad (dT T []) W0 v1 t.Inputs) (bi:aA aa (dT T []) W0 v2 t.Records) (bl:aA ac (dT T []) W0 G g) (hLv:cU (dT T []) W0) (y:ai×LK×Int) (hM:nU t d g=some y):aW Tryz.prog (MD []) 59 [.agg (aQ t v1 v2).toArray,.int .i64 d,G] W0 (fun v w'=>∃ (v4:Value) (tX:List Value) (v6:Value) (vt:List Value) (v8:Value) (GE:List Value),v = .tuple #[.agg (aQ y.1 v4 v6).toArray,v8,.int .i64 y.2.2]∧aB ad (dT T [aR v4 tX,aH v6 vt,au v8 GE]) w' tX y.1.Inputs∧aB aa (dT T [aR v4 tX,aH v6 vt,au v8 GE]) w' vt y.1.Records∧aB ac (dT T [aR v4 tX,aH v6 vt,au v8 GE]) w' GE y.2.1∧n7 W0 w' [] [aR v4 tX,aH v6 vt,au v8 GE]):=by
 refine jp (c:=_) Tryz.func59 rfl T 62 Tryz.ntmps59 hT rfl hD fun a hS=>?_;replace hS:=(((hS.fact bv hLv).fS bb).fS bi).fS bl;unfold nU at hM;refine ah hS fun a hS=>?_;refine kb hS fun c0 ca a w hk hS=>?_;refine ka hS l4 fun l cb a w hk hS=>?_;refine ah hS fun a hS=>?_;refine az ?_;refine ah hS fun a hS=>?_;obtain⟨d1,ag,hM⟩:=bd hM;refine kc hS Gv (pJ _ _ hS.dlt (hS.get 3 rfl) t _ _ (hS.get 2 rfl) (hS.get 1 rfl) _ ag) fun _ w hR a hk hA=>?_;obtain rfl:=hR;have hS:=bV hA;refine ah hS fun a hS=>?_;rcases cd hM with⟨av,hM⟩|⟨av,hM⟩
 ·refine ah hS fun a hS=>?_;refine qy hS (bj (ps:=[]) hS Fe l4 rfl (us:=[]) trivial (ws:=[.int .i64 0,.slice none 0 0,.slice none 0 0]) rfl) fun a hS=>?_;refine go hS fun a w hS=>?_;replace hS:=((hS.nilRow ad 69 (by decide)).nilRow aa 84 (by decide)).nilRow ac 44 (by decide);cases hM
  refine aE hS Tryz.results59 (a7 hS rfl 3 rfl ez rfl (fun h=>by cases h) (ap hS rfl (ap hS rfl aD))) ?_;have hZ:=hS.sl [2,1,0] [2,1,0];exact⟨(.slice none 0 0),[],(.slice none 0 0),[],(.slice none 0 0),[],rfl,(hZ.get 0 rfl),(hZ.get 1 rfl),(hZ.get 2 rfl),hZ.dnew⟩
 refine ah hS fun a hS=>?_;refine jV ?_;refine ah hS fun a hS=>?_;rcases cd hM with⟨ax,hM⟩|⟨ax,hM⟩
 ·refine ah hS fun a hS=>?_;refine qy hS (bj (ps:=[]) hS Fe l4 rfl (us:=[]) trivial (ws:=[.int .i64 0,.slice none 0 0,.slice none 0 0]) rfl) fun a hS=>?_;refine go hS fun a w hS=>?_;replace hS:=((hS.nilRow ad 69 (by decide)).nilRow aa 84 (by decide)).nilRow ac 44 (by decide);cases hM
  refine aE hS Tryz.results59 (a7 hS rfl 3 rfl ez rfl (fun h=>by cases h) (ap hS rfl (ap hS rfl aD))) ?_;have hZ:=hS.sl [2,1,0] [2,1,0];exact⟨(.slice none 0 0),[],(.slice none 0 0),[],(.slice none 0 0),[],rfl,(hZ.get 0 rfl),(hZ.get 1 rfl),(hZ.get 2 rfl),hZ.dnew⟩
 refine ah hS fun a hS=>?_;rcases cd hM with⟨b0,hM⟩|⟨b0,hM⟩
 ·refine ah hS fun a hS=>?_;refine qy hS (bj (ps:=[]) hS Fe l4 rfl (us:=[]) trivial (ws:=[.int .i64 0,.slice none 0 0,.slice none 0 0]) rfl) fun a hS=>?_;refine go hS fun a w hS=>?_;replace hS:=((hS.nilRow ad 69 (by decide)).nilRow aa 84 (by decide)).nilRow ac 44 (by decide);cases hM
  refine aE hS Tryz.results59 (a7 hS rfl 3 rfl ez rfl (fun h=>by cases h) (ap hS rfl (ap hS rfl aD))) ?_;have hZ:=hS.sl [2,1,0] [2,1,0];exact⟨(.slice none 0 0),[],(.slice none 0 0),[],(.slice none 0 0),[],rfl,(hZ.get 0 rfl),(hZ.get 1 rfl),(hZ.get 2 rfl),hZ.dnew⟩
 refine ah hS fun a hS=>?_;obtain⟨e,a4,hM⟩:=bd hM;refine kc hS vr (dD _ _ hS.dlt t _ _ (hS.get 2 rfl) (hS.get 1 rfl) _ a4) fun _ w hR a hk hA=>?_;obtain⟨j,f,d2,c3,he,W,X,b8⟩:=hR;obtain rfl:=he.symm;have hS:=s7 hA W X b8;refine ka hS l4 fun m ch a w hk hS=>?_;refine go hS fun a w hS=>?_;refine aG (J:=fun a w=>∃ (K:LK) (N:LR) (E:Value) (C:LV) (F:Value) (D:LV),St W0 (MD []) T 62 [(6,pt l 0),(9,pt m 0),(10,E)] [au E C,.box l [.int .i64 0,.slice none 0 0,.slice none 0 0] 31,aR j f,aH F D,.box m (aQ e j F) 31] [am ac C K,am ad f e.Inputs,am aa D N,bv] a w∧mF e K N=some y) ?_ ?_
 ·skip;refine ah hS fun a hS=>?_;obtain⟨p,a9,hM⟩:=bd hM;refine kc hS Kk (w4 _ _ hS.dlt (hS.get 5 rfl) t.Records _ (hS.get 3 rfl) _ a9) fun _ w hR a hk hA=>?_;obtain⟨r,q,he,Y⟩:=hR;obtain rfl:=he.symm;have hS:=oI hA Y;refine ah hS fun a hS=>?_;replace hS:=hS.nilRow ac 44 (by decide);obtain⟨r1,b9,hMo1⟩:=bd hM;refine bu _ (fun s a w=>∃ (o:LK) (n:Int) (i:LR) (A:Value) (u:LV) (B:Value) (z:LV),(o,n,i)=s∧St W0 (MD []) T 62 [(1,.int .i64 d),(2,G),(6,pt l 0),(9,pt m 0),(10,A),(30,r),(31,.int .i64 (p.length:Int)),(32,.int .i64 n)] [au A u,aH r q,.box l [.int .i64 0,.slice none 0 0,.slice none 0 0] 31,aR j f,aH B z,.box m (aQ e j B) 31] [aJ ac G g,am ac u o,am aa q p,am ad f e.Inputs,am aa z i,bv] a w) b9 ⟨_,_,_,_,_,_,_,rfl,hS.mt [0,1,5,3,4,2] [4,0,1,3,2,7]⟩ ?_;rintro s a w f1 ⟨o,n,i,A,u,B,z,rfl,hS⟩ hM hf1;have hM:mG d g p o n i=some f1:=hM;unfold mG at hM;refine ah hS fun a hS=>?_;refine az ?_;rcases cd hM with⟨b1,hM⟩|⟨b1,hM⟩
  ·refine ah hS fun a hS=>?_;refine aG (J:=fun a w=>∃ (L:LK) (O:LR) (P:Value) (H:LV) (Q:Value) (I:LV),St W0 (MD []) T 62 [(1,.int .i64 d),(2,G),(6,pt l 0),(9,pt m 0),(10,P),(30,r),(31,.int .i64 (p.length:Int)),(32,.int .i64 n)] [au P H,aH r q,.box l [.int .i64 0,.slice none 0 0,.slice none 0 0] 31,aR j f,aH Q I,.box m (aQ e j Q) 31] [aJ ac G g,am ac H L,am aa q p,am ad f e.Inputs,am aa I O,bv] a w∧jR n L O=some f1) ?_ ?_
   ·skip;refine ah hS fun a hS=>?_;obtain⟨b,a3,hM⟩:=bd hM;refine wl rfl (cR (R:=aa) hS n4 k8 rfl rfl 1 rfl 2 rfl a3 rfl fun c1 cl co c4 b2 b3 b4 a hS=>?_);obtain⟨S,rfl,ak⟩:=b2;replace hS:=hS.fS ak;refine qy hS (bL (k:=0) hS k8 1 rfl b3 b4 rfl id (us:=(a6 b S)) rfl rfl (fun h=>by cases h)) fun a hS=>?_;refine ka hS ft fun U ck a w hk hS=>?_;refine go hS fun a w hS=>?_;refine aG (J:=fun a w=>∃ (M:Bool),St W0 (MD []) T 62 [(1,.int .i64 d),(2,G),(6,pt l 0),(9,pt m 0),(10,A),(12,pt U 0),(30,r),(31,.int .i64 (p.length:Int)),(32,.int .i64 n),(47,.bool M)] [au A u,aH r q,.box l [.int .i64 0,.slice none 0 0,.slice none 0 0] 31,aR j f,aH B z,.box m (aQ e j B) 31,.box U (a6 b S) 84] [aJ ac G g,am ac u o,am aa q p,am ad f e.Inputs,am aa z i,aJ ac S b.Reads,bv] a w∧gW o n i b M=some f1) ?_ ?_
    ·skip;refine ah hS fun a hS=>?_;have hL:=hS;replace hL:=hL.freeze (R:=aa) 5 rfl 5 rfl;obtain⟨cv,ab,hM⟩:=bd hM;refine kc hS Kl (wZ _ _ hL.dlt i _ (hL.get 0 rfl) _ ab) fun _ w hR a hk hA=>?_;obtain rfl:=hR;have hS:=bV hA;refine ah hS fun a hS=>?_;rcases cd hM with⟨V,hM⟩|⟨V,hM⟩
     ·refine ah hS fun a hS=>?_;obtain⟨d0,af,hM⟩:=bd hM;refine wg hS rfl rfl rfl V (a8 hS GC rfl rfl (ru _ _ hS.dlt g b.Key _ (hS.get 1 rfl) _ af) fun _ w hR a hk hA=>?_);obtain rfl:=hR;have hS:=bV hA;exact fz
     exact fz
    rintro a w ⟨M,hS,hM⟩;unfold gW at hM;rcases cd hM with⟨b5,hM⟩|⟨b5,hM⟩
    ·refine ah hS fun a hS=>?_;replace hS:=hS.freeze (R:=aa) 4 rfl 4 rfl;obtain⟨cs,a5,hM⟩:=bd hM;refine kc hS IT (tB _ _ hS.dlt i b.Key _ (hS.get 0 rfl) _ a5) fun _ w hR a hk hA=>?_;obtain⟨d3,c5,he,Z⟩:=hR;obtain rfl:=he.symm;have hS:=oI hA Z;refine go hS fun a w hS=>?_;refine wl rfl (aT (ps:=[(0,.tmp 56)]) hS gm gh (zl:=[.int .i64 0,.string (ByteArray.mk #[])]) (by kernel_rfl) rfl (us:=[(aM b.Key)]) ⟨rfl,trivial⟩ (ws:=(aM b.Key)) rfl rfl rfl rfl fun c2 a w hk hS=>?_);replace hS:=(hS.lit (R:=ac) (us:=(aM b.Key)) (xs:=[b.Key]) 0 rfl (by decide) (aB.one_ (R:=ac) (x:=b.Key) rfl) rfl rfl).freeze (R:=ac) 0 rfl 0 rfl;obtain⟨b6,hM⟩:=aS hM;refine wl rfl (bw (R:=ac) (xs:=o) (ys:=[b.Key]) hS gm (by decide) (by decide) rfl rfl 1 rfl 5 rfl 0 rfl b6 rfl fun d4 c9 a w hk hS=>?_);exact fz
    refine ah hS fun a hS=>?_;exact⟨_,_,_,_,_,_,hS.mt [0,1,2,3,4,5] [0,1,2,3,4,6],hM⟩
   rintro a w ⟨L,O,P,H,Q,I,hS,hM⟩;unfold jR at hM;refine ah hS fun a hS=>?_;exact⟨_,(Option.some.inj hM).symm,_,_,_,_,_,_,_,rfl,hS.mt [0,1,2,3,4,5] [0,1,2,3,4,5]⟩
  refine ah hS fun a hS=>?_;cases hM
  have hr:=hf1 _ rfl;subst hr;have hM:mF e o i=some y:=hMo1;exact⟨_,_,_,_,_,_,hS.mt [0,2,3,4,5] [1,3,4,5],hM⟩
 rintro a w ⟨K,N,E,C,F,D,hS,hM⟩;unfold mF at hM;refine go hS fun a w hS=>?_;cases hM
 refine aE hS Tryz.results59 (a7 hS rfl 1 rfl ez rfl (fun h=>by cases h) (ap hS rfl (ap hS rfl aD))) ?_;have hZ:=hS.sl [2,3,0] [1,2,0];exact⟨j,f,F,D,E,C,rfl,(hZ.get 0 rfl),(hZ.get 1 rfl),(hZ.get 2 rfl),hZ.dnew⟩
end
end
section
open Go.RowKit
open Go.Lib hiding intOf
section
variable {l:List aK} {b:ai} {V:Nat→ByteArray}
structure zZ (l:List aK) (b:ai) (N:Nat) (t:cG):Prop where
  rules:t.Rules=l
  lv:sH l b t.Base
  goals:∀ k ∈ t.Goals,mR l k
  ng:t.Goals.length≤32
  fr:∀ f ∈ t.Stack,yE l f
  len:t.Stack.length≤N
  ran:t.Ran.length≤N
theorem vz (hR:bz l) {N:Nat} (hN:N≤100) {t:cG} (h:zZ l b N t):lF t=some t:=by
  have hl:=hR.high
  have h1:=h.ng
  have h2:=h.len
  have h3:=h.ran
  unfold lF
  rw [h.rules,xN hR,Option.bind_some,sK (h.lv.ok.rm hl).1 (h.lv.ok.rm hl).2.1,Option.bind_some,dv (by simp; omega),ss h.fr (by omega),dv (by simp; omega)]
  rw [← h.rules]; rfl
theorem Fk (hR:bz l) (hD:AQ l (qW b) V) (hb:iu l b) {s:al} (hs:pR l V b s) {N:Nat} (hN:N≤90) {t:cG} (h:zZ l b N t):Ok (pd vv s t) fun y=>zZ l b (N + 1) y.1∧pR l V b y.2.2.2:=by
  have hl:=hR.high
  have hb0:=(hb.rm hl).2.1
  have h1:=h.ng
  have h2:=h.len
  have h3:=h.ran
  have up:zZ l b (N + 1) t:=⟨h.rules,h.lv,h.goals,h.ng,h.fr,by omega,by omega⟩
  unfold pd
  refine Ok.eq (vz hR (by omega) h) (Ok.cond (fun h0=>Ok.cond (fun _=>Ok.ret ⟨up,hs⟩) (fun hg=>?_)) (fun h0=>?_))
  · have hg0:0 < t.Goals.length:=by
      rcases Nat.eq_zero_or_pos t.Goals.length with e | e
      · rw [e] at hg; cases hg
      · exact e
    have hk:=h.goals _ (List.getElem_mem hg0)
    refine Ok.eq (by have:=bB hg0; exact this) (Ok.eq (by have:=r9 (xs:=t.Goals) (a:=1) (by omega); exact this) (Ok.bind (xq hl h.lv.ok (by simp) hk) fun y hy=>?_))
    have hg1:∀ k ∈ t.Goals.drop 1,mR l k:=fun k hk=>h.goals k (List.mem_of_mem_drop hk)
    have hg2:(t.Goals.drop 1).length≤32:=by rw [List.length_drop]; omega
    refine Ok.cond (fun hy1=>?_) (fun _=>Ok.ret ⟨⟨h.rules,h.lv,hg1,hg2,h.fr,up.len,up.ran⟩,hs⟩)
    obtain⟨n,hn,e⟩:=hy hy1
    refine Ok.ret ⟨⟨h.rules,h.lv,hg1,hg2,?_,by show 1≤N + 1; omega,up.ran⟩,hs⟩
    show ∀ f ∈ [bf.mk t.Goals[0] false 0 [] []],yE l f
    rw [e]
    exact z6 (fs:=[]) (fun f hf=>absurd hf List.not_mem_nil) hn
  · have hs0:0 < t.Stack.length:=by
      rcases Nat.eq_zero_or_pos t.Stack.length with e | e
      · rw [e] at h0; cases h0
      · exact e
    refine Ok.bind (BS hR hD hb0 hs h.lv.ok h.fr hs0 (by omega)) fun y hy=>Ok.cond (fun _=>Ok.ret ⟨up,hy.sol⟩) (fun _=>?_)
    have hw:=hy.wk
    have hln:=hy.len
    refine Ok.gd (dv (by omega)) (Ok.ret ⟨⟨h.rules,⟨hy.lv.ok,hy.lv.rev.trans h.lv.rev,hy.lv.ins.trans h.lv.ins⟩,h.goals,h.ng,hy.fr,by show y.2.1.length≤_; omega,?_⟩,hy.sol⟩)
    show (t.Ran ++ y.2.2.1).length≤_
    rw [List.length_append]; omega
def JK (l:List aK) (V:Nat→ByteArray) (b:ai) (k:Nat):Int×(List aK)×Int×(List aI)×(List an)×(List ae)×(List bf)×(List ae)×(List aK)×Int×(List aI)×(List an)×(List (ae×ByteArray))×(List (ae×(List ae)))→Prop
  | (n,t1,t2,t3,t4,t5,t6,t7,g1,g2,g3,g4,g5,g6)=>n=(k:Int)∧zZ l b k (cG.mk t1 (ai.mk t2 t3 t4) t5 t6 t7)∧pR l V b (al.mk g1 (ai.mk g2 g3 g4) g5 g6)
def JM (l:List aK) (b:ai):Fl (Int×(List aK)×Int×(List aI)×(List an)×(List ae)×(List bf)×(List ae)) (cG×Int×Int)→Prop
  | .go (n,t1,t2,t3,t4,t5,t6,t7)=>zZ l b 90 (cG.mk t1 (ai.mk t2 t3 t4) t5 t6 t7)
  | .out y=>zZ l b 90 y.1
theorem zZ.le {N M:Nat} {t:cG} (h:zZ l b N t) (hm:N≤M):zZ l b M t:=⟨h.rules,h.lv,h.goals,h.ng,h.fr,Nat.le_trans h.len hm,Nat.le_trans h.ran hm⟩
theorem DI (hR:bz l) (hb:iu l b) {t:cG} (h:zZ l b 0 t) (hbase:t.Base=b) {most:Int} (hm:most≤30):Ok (qh vv t most) fun y=>zZ l b 90 y.1:=by
  have hl:=hR.high
  have hD:=CR (qW b) hR
  have hst:t.Stack=[]:=List.eq_nil_of_length_eq_zero (Nat.le_zero.1 h.len)
  have hru:=h.rules
  unfold qh
  refine Ok.eq (vz hR (by omega) h) (Ok.cond (fun _=>Ok.ret (h.le (by omega))) (fun _=>?_))
  have hvalid:nT t=some true:=by
    unfold nT
    rw [hru,xK hR h.lv.ok h.goals h.ng,Option.bind_some,hst]
    rw [show ((0:Int) == 0)=true from rfl,cond_true]
    have:gV l t.Base []=some true:=by
      unfold gV
      rw [nJ (r:=Fl.go ()) rfl]; rfl
    rw [this]; rfl
  refine Ok.eq hvalid ?_
  simp only [Bool.not_true,cond_false]
  refine Ok.eq (v:=al.mk t.Rules t.Base [] []) rfl ?_
  have hs:pR l (Vd l (qW b)) b (al.mk t.Rules t.Base [] []):=⟨hru,hbase,fun n _ v e=>(by cases e),fun c=>rfl⟩
  refine Ok.loop (JK l (Vd l (qW b)) b) (JM l b) 30 ⟨rfl,h,hs⟩ ?_ ?_
  · rintro k ⟨n,t1,t2,t3,t4,t5,t6,t7,g1,g2,g3,g4,g5,g6⟩ hk ⟨rfl,q1,q2⟩
    dsimp only
    unfold ow
    refine Ok.cond (fun hlt=>?_) (fun _=>Ok.ret (q1.le (by omega)))
    have hlt:=of_decide_eq_true hlt
    refine Ok.bind (Fk hR hD hb q2 (by omega) q1) fun y ⟨y1,y2⟩=>Ok.cond (fun _=>Ok.ret (q1.le (by omega))) (fun _=>Ok.cond (fun _=>Ok.ret (y1.le (by omega))) (fun _=>?_))
    exact Ok.ret ⟨by omega,cB (by omega),y1,y2⟩
  · rintro (⟨n,t1,t2,t3,t4,t5,t6,t7⟩ | y) hr
    · exact Ok.ret hr
    · exact Ok.ret hr
theorem DR (hR:bz l) (hb:iu l b) {goals:List ae} (hg:∀ k ∈ goals,mR l k) (hn:goals.length≤32):∃ t,nS l b goals=some (t,0)∧zZ l b 0 t∧t.Base=b:=by
  have ht:zZ l b 0 (cG.mk l b goals [] []):=⟨rfl,⟨hb,rfl,rfl⟩,hg,hn,fun f hf=>absurd hf List.not_mem_nil,Nat.le_refl _,Nat.le_refl _⟩
  refine⟨_,?_,ht,rfl⟩
  unfold nS
  rw [xK hR hb hg hn,Option.bind_some]
  simp only [show ((0:Int) != 0)=false from rfl,cond_false]
  rw [vz hR (by omega) ht]; rfl
theorem we {recs:List an} (h:Rm recs.length) (k:ae):m8 recs k=some (recs.filter fun x=>!cS x.Key k):=by
  unfold Rm at h
  unfold m8 nA
  refine d7 (bT (xs:=recs) (fun i=>((recs.take i).filter fun x=>!cS x.Key k,(i:Int))) rfl (r:=recs.filter fun x=>!cS x.Key k) (fun i x hx=>?_) ?_) rfl
  · have hlt:=aY hx
    have hlen:=qN (fun x:an=>!cS x.Key k) recs i
    unfold kR kQ
    dsimp only
    rw [dlt hlt,cond_true,aU,hx,Option.bind_some,cB (by omega),bG hx,List.filter_append]
    show cond (!cS x.Key k) _ _=_
    cases e:cS x.Key k with
    | true=>simp [e]
    | false =>
      rw [Bool.not_false,cond_true,dv (by simp only [List.length_cons,List.length_nil]; omega)]
      simp [e,gd]
  · unfold kR
    dsimp only
    rw [bA,List.take_length]; rfl
theorem iu.filter (h:iu l b) (p:an→Bool):iu l (ai.mk b.Revision b.Inputs (b.Records.filter p)) :=
  ⟨h.rev,h.ins,h.insA,fun r hr=>h.recs r (List.mem_filter.1 hr).1,List.Pairwise.sublist List.filter_sublist h.recsA⟩
theorem BF (hR:bz l) {N:Nat} {t:cG} (h:zZ l b N t) (hN:N≤1000):Ok (mC t) fun b'=>sH l b b':=by
  have hl:=hR.high
  have hb:=h.lv.ok
  have hlen:=h.len
  unfold mC
  refine Ok.eq (sK (hb.rm hl).1 (hb.rm hl).2.1) ?_
  refine Ok.loop (fun (k:Nat) (s:Int×List an)=>s.1=k∧iu l (ai.mk t.Base.Revision t.Base.Inputs s.2)) (fun r=>iu l (ai.mk t.Base.Revision t.Base.Inputs r)) t.Stack.length ⟨rfl,hb⟩ ?_ (fun r hr=>Ok.ret ⟨hr,h.lv.rev,h.lv.ins⟩)
  rintro k ⟨i,recs⟩ hk ⟨rfl,g⟩
  dsimp only at g ⊢
  unfold lq
  refine Ok.cond (fun hlt=>?_) (fun _=>Ok.ret g)
  have hlt:k < t.Stack.length:=by have:=of_decide_eq_true hlt; omega
  refine Ok.eq (bB hlt) (Ok.eq (fp _) (Ok.cond (fun _=>?_) (fun _=>Ok.ret ⟨hlt,cB (by omega),g⟩)))
  have hrl:recs.length≤l.length:=g.nrec
  exact Ok.eq (we (by unfold Rm; omega) _) (Ok.ret ⟨hlt,cB (by omega),g.filter _⟩)
end
end
section
open Go.RowKit
open Go.Lib hiding intOf
def pn (l:List aI):Prop:=l.Pairwise fun a b=>bE a.Key b.Key < 0
def pF (l:List aI) (r:aI):List aI:=(l.filter fun x=>decide (bE x.Key r.Key < 0)) ++ r :: (l.filter fun x=>decide (0 < bE x.Key r.Key))
theorem tu {l:List aI} {r x:aI}:x ∈ pF l r↔x=r∨(x ∈ l∧x.Key ≠ r.Key):=by
  unfold pF
  rw [List.mem_append,List.mem_cons,List.mem_filter,List.mem_filter]
  simp only [decide_eq_true_eq]
  constructor
  · rintro (⟨h,h1⟩ | h | ⟨h,h1⟩)
    · exact .inr ⟨h,nn h1⟩
    · exact .inl h
    · exact .inr ⟨h,fun e=>by rw [e,rW] at h1; omega⟩
  · rintro (h | ⟨h,h1⟩)
    · exact .inr (.inl h)
    · rcases qb x.Key r.Key with h2 | h2 | h2
      · exact .inl ⟨h,h2⟩
      · exact absurd h2 h1
      · exact .inr (.inr ⟨h,mh.2 h2⟩)
theorem zt {l:List aI} (h:pn l) (r:aI):pn (pF l r):=by
  unfold pn pF
  rw [List.pairwise_append]
  refine⟨List.Pairwise.filter _ h,List.pairwise_cons.2 ⟨fun x hx=>?_,List.Pairwise.filter _ h⟩,fun x hx y hy=>?_⟩
  · have:=(List.mem_filter.1 hx).2
    simp only [decide_eq_true_eq] at this
    exact mh.1 this
  · have h1:=(List.mem_filter.1 hx).2
    simp only [decide_eq_true_eq] at h1
    rcases List.mem_cons.1 hy with rfl | hy
    · exact h1
    · have h2:=(List.mem_filter.1 hy).2
      simp only [decide_eq_true_eq] at h2
      exact jr h1 (mh.1 h2)
theorem Cx {l:List aI} (h:pn l) {x y:aI} (hx:x ∈ l) (hy:y ∈ l) (e:x.Key=y.Key):x=y:=by
  induction l with
  | nil=>cases hx
  | cons z m ih =>
    have h':=List.pairwise_cons.1 h
    rcases List.mem_cons.1 hx with e1 | h1
    · rcases List.mem_cons.1 hy with e2 | h2
      · rw [e1,e2]
      · subst e1; exact absurd e (nn (h'.1 y h2))
    · rcases List.mem_cons.1 hy with e2 | h2
      · subst e2; exact absurd e.symm (nn (h'.1 x h1))
      · exact ih h'.2 h1 h2
def lz (l:List aI) (k:ae):Nat:=(l.filter fun r=>decide (bE r.Key k < 0)).length
theorem vi {l:List aI} (h:pn l) (k:ae):l=(l.filter fun r=>decide (bE r.Key k < 0)) ++ (l.filter fun r=>decide (¬ bE r.Key k < 0)):=by
  induction l with
  | nil=>rfl
  | cons x r ih =>
    have h2:=List.pairwise_cons.1 h
    by_cases hx:bE x.Key k < 0
    · rw [List.filter_cons_of_pos (by simpa using hx),List.filter_cons_of_neg (by simpa using hx),List.cons_append,← ih h2.2]
    · have e:(r.filter fun r=>decide (bE r.Key k < 0))=[]:=by
        rw [List.filter_eq_nil_iff]
        intro y hy
        have:=h2.1 y hy
        simp only [decide_eq_true_eq]
        exact fun h=>hx (jr this h)
      have e2:(r.filter fun r=>decide (¬ bE r.Key k < 0))=r:=by
        rw [List.filter_eq_self]
        intro y hy
        simp only [decide_eq_true_eq]
        exact fun h=>hx (jr (h2.1 y hy) h)
      rw [List.filter_cons_of_neg (by simpa using hx),List.filter_cons_of_pos (by simpa using hx),e,e2]; rfl
theorem xd (l:List aI) (k:ae):lz l k≤l.length:=List.length_filter_le _ _
theorem z8 {l:List aI} (h:pn l) (k:ae) {i:Nat} {x:aI} (hx:l[i]? = some x):bE x.Key k < 0↔i < lz l k:=by
  have e:=vi h k
  constructor
  · intro hc
    refine Nat.lt_of_not_ge fun hi=>?_
    rw [e,List.getElem?_append_right hi] at hx
    have:=(List.mem_filter.1 (List.mem_of_getElem? hx)).2
    simp only [decide_eq_true_eq] at this
    exact this hc
  · intro hi
    rw [e,List.getElem?_append_left hi] at hx
    have:=(List.mem_filter.1 (List.mem_of_getElem? hx)).2
    simpa using this
theorem Hu {i j:Nat} (h:i≤j) (hj:j≤1000000000):IntKind.i64.wrap (zB .u64 (IntKind.u64.wrap (IntKind.i64.wrap ((i:Int) + j))) 1)=(((i + j) / 2:Nat):Int):=by
  have e:IntKind.i64.wrap ((i:Int) + j)=((i + j:Nat):Int):=by rw [pm (by omega) (by omega)]; omega
  have e2:IntKind.u64.wrap ((i + j:Nat):Int)=((i + j:Nat):Int):=by simp [IntKind.wrap,IntKind.bits,IntKind.signed]; omega
  have e3:zB .u64 ((i + j:Nat):Int) 1=(((i + j) / 2:Nat):Int):=by
    have:zB .u64 ((i + j:Nat):Int) 1=Int.fdiv ((i + j:Nat):Int) 2:=rfl
    rw [this,Int.fdiv_eq_ediv_of_nonneg _ (by omega)]
    omega
  rw [e,e2,e3,pm (by omega) (by omega)]
theorem AU (r:aI) (k:ae):du r k=some (bE r.Key k):=by
  unfold du
  rw [xL]; rfl
theorem B7 {l:List aI} (h:pn l) (hl:Rm l.length) (k:ae):aV du l k=some ((lz l k:Int),match l[lz l k]? with | some x=>bE x.Key k == 0 | none=>false):=by
  have hl':=hl
  unfold Rm at hl
  have hb:=xd l k
  have key:Ok (aV du l k) fun r=>r=((lz l k:Int),match l[lz l k]? with | some x=>bE x.Key k == 0 | none=>false):=by
    unfold aV
    refine Ok.loop (fun n s=>∃ i j:Nat,s=((i:Int),(j:Int))∧i≤lz l k∧lz l k≤j∧j≤l.length∧(j - i) + n≤l.length) (fun r=>r=(lz l k:Int)) l.length ⟨0,l.length,rfl,Nat.zero_le _,hb,Nat.le_refl _,by omega⟩ (fun n s hn hI=>?_) (fun r hr=>?_)
    · obtain⟨i,j,rfl,h1,h2,h3,h4⟩:=hI
      unfold bq
      dsimp only
      by_cases hij:i < j
      · rw [dlt hij,cond_true,Hu (by omega) (by omega),aU]
        have hm:(i + j) / 2 < l.length:=by omega
        rw [List.getElem?_eq_getElem hm,Option.bind_some,AU,Option.bind_some]
        have hg:=z8 h k (List.getElem?_eq_getElem hm)
        by_cases hc:bE l[(i + j) / 2].Key k < 0
        · rw [decide_eq_true hc,cond_true,cB (by omega)]
          have:=hg.1 hc
          exact Ok.ret ⟨by omega,(i + j) / 2 + 1,j,rfl,by omega,h2,h3,by omega⟩
        · rw [decide_eq_false hc,cond_false]
          have:¬ (i + j) / 2 < lz l k:=fun hh=>hc (hg.2 hh)
          exact Ok.ret ⟨by omega,i,(i + j) / 2,rfl,h1,by omega,by omega,by omega⟩
      · rw [Ah hij,cond_false]
        exact Ok.ret (by rw [show i=lz l k by omega])
    · subst hr
      unfold bp ba
      by_cases hlt:lz l k < l.length
      · rw [dlt hlt,cond_true,aU,List.getElem?_eq_getElem hlt,Option.bind_some,AU,Option.bind_some]
        exact Ok.ret rfl
      · rw [Ah hlt,cond_false,List.getElem?_eq_none (by omega)]
        exact Ok.ret rfl
  obtain⟨r,e,rfl⟩:=key
  exact e
theorem B8 {l:List aI} {r:aI} (h:pn l) (hl:Rm l.length) {u:ai} (hrev:IntKind.i64.wrap (u.Revision + 1)=r.Changed) (g:Int) :
    ((loop (fun s:(List aI)×Bool×Int=>fE u l (aq.mk r.Key r.Value) s.1 s.2.1 s.2.2) (([]:List aI),false,0)).bind fun q=>ek u g (aq.mk r.Key r.Value) q.1 q.2)=ej g (pF l r):=by
  unfold Rm at hl
  have hpl:∀ i,((l.take i).filter fun x=>decide (bE x.Key r.Key < 0)).length + ((l.take i).filter fun x=>decide (0 < bE x.Key r.Key)).length≤l.length:=fun i=>by
    have h1:∀ m:List aI,(m.filter fun x=>decide (bE x.Key r.Key < 0)).length + (m.filter fun x=>decide (0 < bE x.Key r.Key)).length≤m.length:=by
      intro m
      induction m with
      | nil=>simp
      | cons y m ih =>
        by_cases a:bE y.Key r.Key < 0
        · rw [List.filter_cons_of_pos (by simpa using a),List.filter_cons_of_neg (by simp; omega)]; simp only [List.length_cons]; omega
        · by_cases b:0 < bE y.Key r.Key
          · rw [List.filter_cons_of_neg (by simpa using a),List.filter_cons_of_pos (by simpa using b)]; simp only [List.length_cons]; omega
          · rw [List.filter_cons_of_neg (by simpa using a),List.filter_cons_of_neg (by simpa using b)]; simp only [List.length_cons]; omega
    have:=h1 (l.take i)
    rw [List.length_take] at this; omega
  have key:Ok ((loop (fun s:(List aI)×Bool×Int=>fE u l (aq.mk r.Key r.Value) s.1 s.2.1 s.2.2) (([]:List aI),false,0)).bind fun q=>ek u g (aq.mk r.Key r.Value) q.1 q.2) fun y=>ej g (pF l r)=some y:=by
    refine Ok.loop (fun n t=>n≤l.length∧t.2.2=(n:Int)∧((t.1=l.take n∧t.2.1=false∧∀ x ∈ l.take n,bE x.Key r.Key < 0)∨(t.1=pF (l.take n) r∧t.2.1=true∧∃ x ∈ l.take n,¬ bE x.Key r.Key < 0)))
      (fun t=>(t.1=l∧t.2=false∧∀ x ∈ l,bE x.Key r.Key < 0)∨(t.1=pF l r∧t.2=true)) l.length ⟨Nat.zero_le _,rfl,.inl ⟨rfl,rfl,by simp⟩⟩ (fun n t hn hI=>?_) (fun t ht=>?_)
    · obtain⟨out,put,i⟩:=t
      obtain⟨_,h1,h2⟩:=hI
      dsimp only at h1 h2
      subst h1
      unfold fE
      dsimp only
      by_cases hi:n < l.length
      · have hx:l[n]? = some l[n]:=List.getElem?_eq_getElem hi
        obtain⟨x,hxe⟩:∃ x,x=l[n]:=⟨_,rfl⟩
        rw [← hxe] at hx
        rw [dlt hi,cond_true,aU,hx,Option.bind_some,nh,Option.bind_some]
        have tk:=bG hx
        have hle:=hpl n
        rcases h2 with⟨rfl,rfl,h3⟩|⟨rfl,rfl,y,hy,h3⟩
        · have e0:((l.take n).filter fun x=>decide (bE x.Key r.Key < 0))=l.take n:=List.filter_eq_self.2 fun x hx=>by simpa using h3 x hx
          have e1:((l.take n).filter fun x=>decide (0 < bE x.Key r.Key))=[]:=List.filter_eq_nil_iff.2 fun x hx=>by have:=h3 x hx; simp; omega
          rcases oV x.Key r.Key with hc | hc | hc
          · rw [hc]
            unfold eu ep eo
            dsimp only
            simp only [hrev]
            rw [show br ((l.take n).length + [x].length)=true from dv (by simp; omega),cB (by omega)]
            refine Ok.ret ⟨hi,hi,rfl,.inl ⟨tk.symm,rfl,fun z hz=>?_⟩⟩
            rw [tk] at hz
            rcases List.mem_append.1 hz with hz | hz
            · exact h3 z hz
            · simp only [List.mem_cons,List.not_mem_nil,or_false] at hz; subst hz; omega
          · rw [hc]
            unfold eu ep eo
            dsimp only
            simp only [hrev]
            rw [cB (by omega)]
            rw [show br ((l.take n).length + [r].length)=true from dv (by simp; omega)]
            refine Ok.ret ⟨hi,hi,rfl,.inr ⟨?_,rfl,x,by rw [tk]; simp,by omega⟩⟩
            unfold pF
            rw [tk,List.filter_append,List.filter_append,e0,e1]
            simp [hc]
          · rw [hc]
            unfold eu ep eo
            dsimp only
            simp only [hrev]
            rw [cB (by omega)]
            rw [show br ((l.take n).length + [r].length)=true from dv (by simp; omega),show br ((l.take n ++ [r]).length + [x].length)=true from dv (by simp; omega)]
            refine Ok.ret ⟨hi,hi,rfl,.inr ⟨?_,rfl,x,by rw [tk]; simp,by omega⟩⟩
            unfold pF
            rw [tk,List.filter_append,List.filter_append,e0,e1]
            simp [hc]
        · have hyx:bE y.Key x.Key < 0:=by
            obtain⟨j,hj⟩:=List.mem_iff_getElem?.1 hy
            rw [List.getElem?_take] at hj
            split at hj
            · rename_i hjn
              obtain⟨q1,q2⟩:=List.getElem?_eq_some_iff.1 hj
              have:=List.pairwise_iff_getElem.1 h j n q1 hi hjn
              rw [q2,← hxe] at this; exact this
            · cases hj
          have hc:0 < bE x.Key r.Key:=by
            rw [mh]
            exact kK (b:=y.Key) h3 hyx
          have hc1:bE x.Key r.Key=1:=by rcases oV x.Key r.Key with h | h | h <;> omega
          rw [hc1]
          unfold eu ep eo
          dsimp only
          simp only [hrev]
          rw [cB (by omega),show br ((pF (l.take n) r).length + [x].length)=true from dv (by unfold pF; simp only [List.length_append,List.length_cons,List.length_nil]; omega)]
          refine Ok.ret ⟨hi,hi,rfl,.inr ⟨?_,rfl,y,by rw [tk]; exact List.mem_append_left _ hy,h3⟩⟩
          unfold pF
          rw [tk,List.filter_append,List.filter_append]
          simp [hc1]
      · have hn2:n=l.length:=by omega
        rw [hn2,bA,cond_false]
        rw [hn2,List.take_length] at h2
        refine Ok.ret ?_
        rcases h2 with⟨a,b,c⟩|⟨a,b,c⟩
        · exact .inl ⟨a,b,c⟩
        · exact .inr ⟨a,b⟩
    · obtain⟨out,put⟩:=t
      dsimp only at ht ⊢
      unfold ek
      dsimp only
      simp only [hrev]
      rcases ht with⟨rfl,rfl,h3⟩|⟨rfl,rfl⟩
      · simp only [Bool.not_false,cond_true]
        rw [show br (out.length + [r].length)=true from dv (by simp; omega)]
        refine⟨_,rfl,?_⟩
        unfold pF
        rw [List.filter_eq_self.2 fun x hx=>by simpa using h3 x hx,List.filter_eq_nil_iff.2 fun x hx=>by have:=h3 x hx; simp; omega]
        rfl
      · exact⟨_,rfl,rfl⟩
  obtain⟨y,e,e2⟩:=key
  exact e.trans e2.symm
end
end Go.Proofs.YtmfcloapbgfhaaaGreatDoor
