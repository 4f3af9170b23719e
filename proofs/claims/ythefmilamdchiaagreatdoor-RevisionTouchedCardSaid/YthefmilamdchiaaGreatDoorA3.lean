/- Texts of the proof, joined (3). -/
import Derived.Test.YthefmilamdchiaaGreatDoorA1
import Derived.Test.YthefmilamdchiaaGreatDoorA2
set_option linter.unusedVariables false
set_option linter.unusedSimpArgs false
set_option linter.unusedSectionVars false
namespace Go.Proofs.YthefmilamdchiaaGreatDoor
section
set_option maxRecDepth 100000
set_option maxHeartbeats 4000000
open Go.RowKit
noncomputable section
def nU (b:Bool):Option Bool:=some (b)
def jX (b:Bool):Option Bool:=some (b)
def jY (b:Int) (c:Int):Option Bool:=cond (decide ((0:Int)≤b)) (jX (decide ((b:Int) < c))) (jX false)
def n6 (b:LU) (e:Int) (g:cI) (c:Int):Option Bool:=cond g.Cell (cond (decide ((0:Int)≤c)) (nU (decide ((c:Int)≤15))) (nU false)) ((lB b e).bind fun d=>(bm b e).bind fun f=>cond (!(f.Ring)) (jY c d.1) (jY c d.2))
theorem tP (T:Nat→Prop) (W0:World) (hT:TW T W0) (b:LU) (g:Int) (k:cI) (f:Int) (o:Value) (n:aB aq T W0 o b) (y:Bool) (hM:n6 b g k f=some y):aY Tryz.prog No 128 [o,.int .i64 g,.agg (EJ k).toArray,.int .i64 f] W0 (fun v w'=>v = .bool y):=by
 refine en Tryz.func128 Tryz.ntmps128 hT fun a hS=>?_
 replace hS:=hS.fS (aB.dn n)
 unfold n6 at hM
 refine ai hS fun a hS=>?_
 refine kb hS fun p t a w hk hS=>?_
 refine ai hS fun a hS=>?_
 refine aw ?_
 refine ai hS fun a hS=>?_
 rcases cd hM with ⟨l,hM⟩ | ⟨l,hM⟩
 ·refine ai hS fun a hS=>?_
  refine aI (J:=fun a w=>∃ (d:Bool),St W0 No T 39 [(8,.bool d)] [] [] a w∧nU d=some y) ?_ ?_
  ·exact fz
  rintro a w ⟨d,hS,hM⟩
  unfold nU at hM
  exact fz
 refine ai hS fun a hS=>?_
 obtain ⟨x,i,hM⟩:=bd hM
 refine kc hS GX (rF _ _ hS.dlt b g _ (hS.get 0 rfl) _ i) fun _ w hR a hk hA=>?_
 obtain rfl:=hR
 have hS:=bM hA
 refine ai hS fun a hS=>?_
 refine aI (J:=fun a w=>∃ (c:Int),St W0 No T 39 [(3,.int .i64 f),(10,.int .i64 c)] [] [] a w∧jY f c=some y) ?_ ?_
 ·skip
  refine ai hS fun a hS=>?_
  obtain ⟨s,h,hM⟩:=bd hM
  refine wl rfl (bf (R:=aq) hS tx sU rfl rfl 0 rfl h rfl fun q u r m a hS=>?_)
  obtain ⟨z,rfl,j⟩:=m
  replace hS:=hS.fS j
  exact fz
 rintro a w ⟨c,hS,hM⟩
 unfold jY at hM
 refine aI (J:=fun a w=>∃ (e:Bool),St W0 No T 39 [(8,.bool e)] [] [] a w∧jX e=some y) ?_ ?_
 ·exact fz
 rintro a w ⟨e,hS,hM⟩
 unfold jX at hM
 exact fz
def l7 (b:LU):Option Bool:=some (decide (((b.length:Int):Int)≤24))
def l8 (b:Int):Option (Fl (Int) (Fl (Unit) Bool)):=some (.go (IntKind.i64.wrap (b + 1)))
def cO (b:Int) (c:Bool):Option (Fl (Int) (Fl (Unit) Bool)):=cond c (some (.out (.out false))) (l8 b)
def fN (c:Int) (b:aL):Option (Fl (Int) (Fl (Unit) Bool)):=cond b.Ring (cond ((b.Final:Int) != 5) (cO c true) (cond (decide ((b.C:Int) < 0)) (cO c true) (cond (decide ((65535:Int) < b.C)) (cO c true) (cO c false)))) (cond (decide ((b.Final:Int) < 1)) (cO c true) (cond (decide ((4:Int) < b.Final)) (cO c true) (cond (decide ((b.C:Int) < 0)) (cO c true) (cO c (decide ((999:Int) < b.C))))))
def dP (b:Int) (c:Bool):Option (Fl (Int) (Fl (Unit) Bool)):=cond c (some (.out (.out false))) (some (.go (IntKind.i64.wrap (b + 1))))
def eM (d:LU) (f:Int) (e:aL) (b:Int):Option (Fl (Int) (Fl (Unit) Bool)):=cond (decide ((b:Int) < (e.Asks.length:Int))) ((bm e.Asks b).bind fun c=>(n6 d f c c.N).bind fun g=>cond (!(g)) (dP b true) (cond c.Pick (cond e.Ring (dP b true) (cond ((b:Int) == 0) (dP b true) ((n6 d f c c.Else).bind fun h=>cond (!(h)) (dP b true) (dP b false)))) (dP b ((c.Else:Int) != 0)))) (some (.out (.go ())))
def fO (b:LU) (c:Int):Option (Fl (Int) (Fl (Unit) Bool)):=cond (decide ((c:Int) < (b.length:Int))) ((bm b c).bind fun d=>cond (decide ((6:Int) < (d.Asks.length:Int))) (some (.out (.out false))) ((loop (fun s:Int=>eM b c d s) 0).bind fun r=>Fl.el r (fun s=>fN c d) (fun y=>some (.out (.out y))))) (some (.out (.go ())))
def nv (b:LU):Option Bool:=(loop (fun s:Int=>fO b s) 0).bind fun r=>Fl.el r (fun s=>l7 b) (fun y=>some (y))
theorem vJ (T:Nat→Prop) (W0:World) (hT:TW T W0) (b:LU) (d:Value) (I:aB aq T W0 d b) (y:Bool) (hM:nv b=some y):aY Tryz.prog No 104 [d] W0 (fun v w'=>v = .bool y):=by
 refine en Tryz.func104 Tryz.ntmps104 hT fun a hS=>?_
 replace hS:=hS.fS (aB.dn I)
 unfold nv at hM
 refine ai hS fun a hS=>?_
 refine aI (J:=fun a w=>St W0 No T 111 [(0,d)] [] [aJ aq d b] a w∧l7 b=some y) ?_ ?_
 ·skip
  refine ai hS fun a hS=>?_
  obtain ⟨Y,G,hMo1⟩:=bd hM
  refine bB _ (fun s a w=>∃ (c:Int),c=s∧St W0 No T 111 [(0,d),(7,d),(8,.int .i64 (b.length:Int)),(9,.int .i64 c)] [] [aJ aq d b] a w) G ⟨_,rfl,hS.mt [] [0]⟩ ?_
  rintro s a w m ⟨c,rfl,hS⟩ hM hf1
  have hM:fO b c=some m:=hM
  unfold fO at hM
  refine ai hS fun a hS=>?_
  refine aw ?_
  rcases cd hM with ⟨t,hM⟩ | ⟨t,hM⟩
  ·refine ai hS fun a hS=>?_
   refine aI (J:=fun a w=>St W0 No T 111 [(0,d),(7,d),(8,.int .i64 (b.length:Int)),(9,.int .i64 c)] [] [aJ aq d b] a w∧l8 c=some m) ?_ ?_
   ·skip
    refine ai hS fun a hS=>?_
    obtain ⟨e,n,hM⟩:=bd hM
    refine wl rfl (bf (R:=aq) hS tx sU rfl rfl 0 rfl n rfl fun K U O u a hS=>?_)
    obtain ⟨f,rfl,r⟩:=u
    replace hS:=hS.fS r
    refine ai hS fun a hS=>?_
    refine ka hS tZ fun g Q a w hk hS=>?_
    refine go hS fun a w hS=>?_
    refine aw ?_
    refine ai hS fun a hS=>?_
    rcases cd hM with ⟨x,hM⟩ | ⟨x,hM⟩
    ·exact fz
    refine ai hS fun a hS=>?_
    refine aI (J:=fun a w=>St W0 No T 111 [(0,d),(4,pt g 0),(7,d),(8,.int .i64 (b.length:Int)),(9,.int .i64 c)] [.box g (ru e f) 81] [aJ aq d b,aJ eb f e.Asks] a w∧fN c e=some m) ?_ ?_
    ·skip
     refine ai hS fun a hS=>?_
     obtain ⟨Z,H,hMo2⟩:=bd hM
     refine bB _ (fun s a w=>∃ (h:Int),h=s∧St W0 No T 111 [(0,d),(3,.int .i64 c),(4,pt g 0),(7,d),(8,.int .i64 (b.length:Int)),(9,.int .i64 c),(19,f),(20,.int .i64 (e.Asks.length:Int)),(21,.int .i64 h)] [.box g (ru e f) 81] [aJ aq d b,aJ eb f e.Asks] a w) H ⟨_,rfl,hS.mt [0] [2,0]⟩ ?_
     rintro s a w F ⟨h,rfl,hS⟩ hM hf2
     have hM:eM b c e h=some F:=hM
     unfold eM at hM
     refine ai hS fun a hS=>?_
     refine aw ?_
     rcases cd hM with ⟨z,hM⟩ | ⟨z,hM⟩
     ·refine ai hS fun a hS=>?_
      refine aw ?_
      refine ai hS fun a hS=>?_
      obtain ⟨i,o,hM⟩:=bd hM
      refine wl rfl (bf (R:=eb) hS Gd Gf rfl rfl 1 rfl o rfl fun L V P A a hS=>?_)
      obtain rfl:=A
      refine ai hS fun a hS=>?_
      refine ka hS zv fun M S a w hk hS=>?_
      refine go hS fun a w hS=>?_
      refine aI (J:=fun a w=>∃ (k:Bool),St W0 No T 111 [(0,d),(3,.int .i64 c),(4,pt g 0),(7,d),(8,.int .i64 (b.length:Int)),(9,.int .i64 c),(19,f),(20,.int .i64 (e.Asks.length:Int)),(21,.int .i64 h),(63,.bool k)] [.box g (ru e f) 81] [aJ aq d b,aJ eb f e.Asks] a w∧dP h k=some F) ?_ ?_
      ·skip
       refine ai hS fun a hS=>?_
       obtain ⟨W,p,hM⟩:=bd hM
       refine kc hS Ea (tP _ _ hS.dlt b c i i.N _ (hS.get 1 rfl) _ p) fun _ w hR a hk hA=>?_
       obtain rfl:=hR
       have hS:=bM hA
       refine ai hS fun a hS=>?_
       rcases cd hM with ⟨B,hM⟩ | ⟨B,hM⟩
       ·exact fz
       refine ai hS fun a hS=>?_
       rcases cd hM with ⟨C,hM⟩ | ⟨C,hM⟩
       ·refine ai hS fun a hS=>?_
        rcases cd hM with ⟨D,hM⟩ | ⟨D,hM⟩
        ·exact fz
        refine ai hS fun a hS=>?_
        rcases cd hM with ⟨l,hM⟩ | ⟨l,hM⟩
        ·exact fz
        refine ai hS fun a hS=>?_
        obtain ⟨X,q,hM⟩:=bd hM
        refine wg hS rfl rfl rfl l (a7 hS Ea rfl rfl (tP _ _ hS.dlt b c i i.Else _ (hS.get 1 rfl) _ q) fun _ w hR a hk hA=>?_)
        obtain rfl:=hR
        have hS:=bM hA
        exact fz
       exact fz
      rintro a w ⟨k,hS,hM⟩
      unfold dP at hM
      rcases cd hM with ⟨E,hM⟩ | ⟨E,hM⟩
      ·refine ai hS fun a hS=>?_
       cases hM
       have hr:=hf2 _ rfl
       subst hr
       replace hMo2:=gT hMo2
       have hM:=hMo2
       cases hM
       have hr:=hf1 _ rfl
       subst hr
       replace hMo1:=gT hMo1
       have hM:=hMo1
       cases hM
       refine aF hS rfl (ar hS rfl aH) ?_
       exact rfl
      exact fz
     exact fz
    rintro a w ⟨hS,hM⟩
    unfold fN at hM
    refine aI (J:=fun a w=>∃ (j:Bool),St W0 No T 111 [(0,d),(7,d),(8,.int .i64 (b.length:Int)),(9,.int .i64 c),(106,.bool j)] [] [aJ aq d b] a w∧cO c j=some m) ?_ ?_
    ·exact fz
    rintro a w ⟨j,hS,hM⟩
    unfold cO at hM
    exact fz
   rintro a w ⟨hS,hM⟩
   unfold l8 at hM
   exact fz
  exact fz
 rintro a w ⟨hS,hM⟩
 unfold l7 at hM
 exact fz
def nu (c:ByteArray) (b:Int):Option ae:=some ((ae.mk b c))
def jo (c:LU) (b:Int):Option ae:=cond (decide ((b:Int) < 0)) (some ((ae.mk 0 (ByteArray.mk #[])))) (cond (decide (((c.length:Int):Int)≤b)) (some ((ae.mk 0 (ByteArray.mk #[])))) (cond (decide ((99:Int) < b)) (some ((ae.mk 0 (ByteArray.mk #[])))) ((tN b).bind fun d=>(bm c b).bind fun e=>cond e.Ring (nu d 32) (nu d 31))))
theorem mI (T:Nat→Prop) (W0:World) (hT:TW T W0) (hLv:c6 T W0) (c:LU) (g:Int) (p:Value) (o:aB aq T W0 p c) (y:ae) (hM:jo c g=some y):aY Tryz.prog No 108 [p,.int .i64 g] W0 (fun v w'=>v = .agg (aS y).toArray):=by
 refine en Tryz.func108 Tryz.ntmps108 hT fun a hS=>?_
 replace hS:=hS.fact bu (c6.dn hLv)
 replace hS:=hS.fS (aB.dn o)
 unfold jo at hM
 refine ai hS fun a hS=>?_
 refine ka hS gM fun e t a w hk hS=>?_
 refine ai hS fun a hS=>?_
 refine aw ?_
 refine jO ?_
 refine ai hS fun a hS=>?_
 rcases cd hM with ⟨k,hM⟩ | ⟨k,hM⟩
 ·refine ai hS fun a hS=>?_
  refine qy hS (br (ps:=[]) hS zd gM rfl (us:=[]) trivial (ws:=[.int .i64 0,.string (ByteArray.mk #[])]) rfl) fun a hS=>?_
  refine go hS fun a w hS=>?_
  cases hM
  refine aF hS rfl (rC 0 hS) ?_
  exact rfl
 refine ai hS fun a hS=>?_
 rcases cd hM with ⟨l,hM⟩ | ⟨l,hM⟩
 ·refine ai hS fun a hS=>?_
  refine qy hS (br (ps:=[]) hS zd gM rfl (us:=[]) trivial (ws:=[.int .i64 0,.string (ByteArray.mk #[])]) rfl) fun a hS=>?_
  refine go hS fun a w hS=>?_
  cases hM
  refine aF hS rfl (rC 0 hS) ?_
  exact rfl
 refine ai hS fun a hS=>?_
 rcases cd hM with ⟨m,hM⟩ | ⟨m,hM⟩
 ·refine ai hS fun a hS=>?_
  refine qy hS (br (ps:=[]) hS zd gM rfl (us:=[]) trivial (ws:=[.int .i64 0,.string (ByteArray.mk #[])]) rfl) fun a hS=>?_
  refine go hS fun a w hS=>?_
  cases hM
  refine aF hS rfl (rC 0 hS) ?_
  exact rfl
 refine ai hS fun a hS=>?_
 obtain ⟨b,i,hM⟩:=bd hM
 refine kc hS CX (ue _ _ hS.dlt (hS.get 1 rfl) g _ i) fun _ w hR a hk hA=>?_
 obtain rfl:=hR
 have hS:=bM hA
 refine qy hS (br (ps:=[(0,.const (.int .i64 31)),(1,.tmp 20)]) hS zd gM rfl (us:=[[.int .i64 31],[.string b]]) ⟨rfl,⟨rfl,trivial⟩⟩ (ws:=[.int .i64 31,.string b]) rfl) fun a hS=>?_
 refine ka hS gM fun f u a w hk hS=>?_
 refine go hS fun a w hS=>?_
 refine aI (J:=fun a w=>∃ (d:Int),St W0 No T 29 [(4,pt e 0),(5,pt f 0)] [.box e [.int .i64 0,.string (ByteArray.mk #[])] 35,.box f [.int .i64 d,.string b] 35] [bu] a w∧nu b d=some y) ?_ ?_
 ·skip
  refine ai hS fun a hS=>?_
  obtain ⟨s,h,hM⟩:=bd hM
  refine wl rfl (bf (R:=aq) hS tx sU rfl rfl 0 rfl h rfl fun q x r n a hS=>?_)
  obtain ⟨z,rfl,j⟩:=n
  replace hS:=hS.fS j
  exact fz
 rintro a w ⟨d,hS,hM⟩
 unfold nu at hM
 refine go hS fun a w hS=>?_
 cases hM
 refine aF hS rfl (rC 0 hS) ?_
 exact rfl
def eS (b:Bool):Option Bool:=some (b)
def lE (c:LU) (b:ae):Option Bool:=(d9 b).bind fun f=>cond f (cond ((b.Kind:Int) != 31) (cond ((b.Kind:Int) != 32) (eS true) ((gv b).bind fun g=>(jo c g).bind fun d=>eS ((d.Kind:Int) == b.Kind && d.Text.toList == b.Text.toList))) ((gv b).bind fun h=>(jo c h).bind fun e=>eS ((e.Kind:Int) == b.Kind && e.Text.toList == b.Text.toList))) (eS false)
theorem rI (T:Nat→Prop) (W0:World) (hT:TW T W0) (hLv:c6 T W0) (c:LU) (b:ae) (s:Value) (r:aB aq T W0 s c) (y:Bool) (hM:lE c b=some y):aY Tryz.prog No 105 [s,.agg (aS b).toArray] W0 (fun v w'=>v = .bool y):=by
 refine en Tryz.func105 Tryz.ntmps105 hT fun a hS=>?_
 replace hS:=hS.fact bu (c6.dn hLv)
 replace hS:=hS.fS (aB.dn r)
 unfold lE at hM
 refine ai hS fun a hS=>?_
 refine kb hS fun t u a w hk hS=>?_
 refine ai hS fun a hS=>?_
 refine aI (J:=fun a w=>∃ (e:Bool),St W0 No T 25 [(4,.bool e)] [] [bu] a w∧eS e=some y) ?_ ?_
 ·skip
  refine dr [] hS fun w hQ hS=>?_
  refine gE [0] hS fun a hS=>?_
  obtain ⟨x,h,hM⟩:=bd hM
  refine ec 1 hS Bn (kD _ _ hS.dlt b _ h) fun _ w hR a hk hA=>?_
  obtain rfl:=hR
  have hS:=bM hA
  refine gE [2] hS fun a hS=>?_
  rcases cd hM with ⟨n,hM⟩ | ⟨n,hM⟩
  ·refine gE [3,4,5,6] hS fun a hS=>?_
   rcases cd hM with ⟨o,hM⟩ | ⟨o,hM⟩
   ·refine gE [7,8,9,10,11] hS fun a hS=>?_
    rcases cd hM with ⟨d,hM⟩ | ⟨d,hM⟩
    ·refine gE [12,13,14,15,16,17,18,19,20] hS fun a hS=>?_
     refine eD ?_
     exact ⟨_,hS.mt [] [1],hM⟩
    refine gE [12,13,16] hS fun a hS=>?_
    obtain ⟨p,j,hM⟩:=bd hM
    refine bV (i:=14) rfl (by kernel_rfl) hS rfl rfl rfl d (a7 hS CY rfl rfl (l5 _ _ hS.dlt b _ j) fun _ w hR a hk hA=>⟨fx (hk),?_⟩)
    obtain rfl:=hR
    have hS:=bM hA
    obtain ⟨f,k,hM⟩:=bd hM
    refine bV (i:=15) rfl (by kernel_rfl) hS rfl rfl rfl d (a7 hS wd rfl rfl (mI _ _ hS.dlt (hS.get 1 rfl) c p _ (hS.get 0 rfl) _ k) fun _ w hR a hk hA=>⟨fx (hk),?_⟩)
    obtain rfl:=hR
    have hS:=bM hA
    refine we 17 (v:=.bool ((f.Kind:Int) == b.Kind && f.Text.toList == b.Text.toList)) rfl (by kernel_rfl) (by kernel_rfl) (by kernel_rfl) rfl hQ hS (wW hS rfl rfl) rfl rfl rfl d rfl rfl fun a hS=>?_
    refine gE [18,19,20] hS fun a hS=>?_
    refine eD ?_
    exact ⟨_,hS.mt [] [1],hM⟩
   refine gE [7,8,9,10,11,12,13,16] hS fun a hS=>?_
   obtain ⟨q,l,hM⟩:=bd hM
   refine bV (i:=14) rfl (by kernel_rfl) hS rfl rfl rfl rfl (a7 hS CY rfl rfl (l5 _ _ hS.dlt b _ l) fun _ w hR a hk hA=>⟨fx (hk),?_⟩)
   obtain rfl:=hR
   have hS:=bM hA
   obtain ⟨g,m,hM⟩:=bd hM
   refine bV (i:=15) rfl (by kernel_rfl) hS rfl rfl rfl rfl (a7 hS wd rfl rfl (mI _ _ hS.dlt (hS.get 1 rfl) c q _ (hS.get 0 rfl) _ m) fun _ w hR a hk hA=>⟨fx (hk),?_⟩)
   obtain rfl:=hR
   have hS:=bM hA
   refine we 17 (v:=.bool ((g.Kind:Int) == b.Kind && g.Text.toList == b.Text.toList)) rfl (by kernel_rfl) (by kernel_rfl) (by kernel_rfl) rfl hQ hS (wW hS rfl rfl) rfl rfl rfl rfl rfl rfl fun a hS=>?_
   refine gE [18,19,20] hS fun a hS=>?_
   refine eD ?_
   exact ⟨_,hS.mt [] [1],hM⟩
  refine gE [3,4,5,6,7,8,9,10,11,12,13,14,15,16,17,18,19,20] hS fun a hS=>?_
  refine eD ?_
  exact ⟨_,hS.mt [] [1],hM⟩
 rintro a w ⟨e,hS,hM⟩
 unfold eS at hM
 exact fz
def oB:Option Int:=some (0)
def jI (d:LU) (b:LK) (c:Int):Option (Fl (Int) (Fl (Unit) Int)):=cond (decide ((c:Int) < (b.length:Int))) ((bm b c).bind fun e=>(lE d e).bind fun f=>cond (!(f)) (some (.out (.out 40))) (some (.go (IntKind.i64.wrap (c + 1))))) (some (.out (.go ())))
def jH (c:LU) (f:ah) (b:LK):Option Int:=(nv c).bind fun d=>cond (!(d)) (some (41)) ((jz f).bind fun e=>cond (!(e)) (some (42)) (cond (decide ((32:Int) < (b.length:Int))) (some (3)) ((loop (fun s:Int=>jI c b s) 0).bind fun r=>Fl.el r (fun s=>oB) (fun y=>some (y)))))
theorem o7 (T:Nat→Prop) (W0:World) (hT:TW T W0) (hLv:c6 T W0) (b:LU) (e:ah) (c:LK) (j:Value) (A:Value) (B:Value) (k:Value) (t:aB aq T W0 j b) (u:aB ac T W0 A e.Inputs) (x:aB aa T W0 B e.Records) (z:aB ad T W0 k c) (y:Int) (hM:jH b e c=some y):aY Tryz.prog No 75 [j,.agg (aO e A B).toArray,k] W0 (fun v w'=>v = .int .i64 y):=by
 refine en Tryz.func75 Tryz.ntmps75 hT fun a hS=>?_
 replace hS:=hS.fact bu (c6.dn hLv)
 replace hS:=hS.fS (aB.dn t)
 replace hS:=hS.fS (aB.dn u)
 replace hS:=hS.fS (aB.dn x)
 replace hS:=hS.fS (aB.dn z)
 unfold jH at hM
 refine ai hS fun a hS=>?_
 refine kb hS fun C H a w hk hS=>?_
 refine ai hS fun a hS=>?_
 refine aw ?_
 refine ai hS fun a hS=>?_
 obtain ⟨M,h,hM⟩:=bd hM
 refine kc hS Gy (vJ _ _ hS.dlt b _ (hS.get 3 rfl) _ h) fun _ w hR a hk hA=>?_
 obtain rfl:=hR
 have hS:=bM hA
 refine ai hS fun a hS=>?_
 rcases cd hM with ⟨m,hM⟩ | ⟨m,hM⟩
 ·exact fz
 refine ai hS fun a hS=>?_
 obtain ⟨N,i,hM⟩:=bd hM
 refine kc hS EM (o4 _ _ hS.dlt (hS.get 4 rfl) e _ _ (hS.get 2 rfl) (hS.get 1 rfl) _ i) fun _ w hR a hk hA=>?_
 obtain rfl:=hR
 have hS:=bM hA
 refine ai hS fun a hS=>?_
 rcases cd hM with ⟨n,hM⟩ | ⟨n,hM⟩
 ·exact fz
 refine ai hS fun a hS=>?_
 rcases cd hM with ⟨o,hM⟩ | ⟨o,hM⟩
 ·exact fz
 refine ai hS fun a hS=>?_
 refine aI (J:=fun a w=>St W0 No T 32 [] [] [bu] a w∧oB=some y) ?_ ?_
 ·skip
  refine ai hS fun a hS=>?_
  obtain ⟨O,r,hMo1⟩:=bd hM
  refine bB _ (fun s a w=>∃ (d:Int),d=s∧St W0 No T 32 [(0,j),(21,k),(22,.int .i64 (c.length:Int)),(23,.int .i64 d)] [] [aJ aq j b,aJ ad k c,bu] a w) r ⟨_,rfl,hS.mt [] [3,0,4]⟩ ?_
  rintro s a w G ⟨d,rfl,hS⟩ hM hf1
  have hM:jI b c d=some G:=hM
  unfold jI at hM
  refine ai hS fun a hS=>?_
  refine aw ?_
  rcases cd hM with ⟨p,hM⟩ | ⟨p,hM⟩
  ·refine ai hS fun a hS=>?_
   refine aw ?_
   refine ai hS fun a hS=>?_
   obtain ⟨l,f,hM⟩:=bd hM
   refine wl rfl (bf (R:=ad) hS nI fY rfl rfl 1 rfl f rfl fun D K F q a hS=>?_)
   obtain rfl:=q
   refine ai hS fun a hS=>?_
   refine ka hS gM fun E I a w hk hS=>?_
   refine go hS fun a w hS=>?_
   obtain ⟨L,g,hM⟩:=bd hM
   refine kc hS D7 (rI _ _ hS.dlt (hS.get 3 rfl) b l _ (hS.get 1 rfl) _ g) fun _ w hR a hk hA=>?_
   obtain rfl:=hR
   have hS:=bM hA
   exact fz
  exact fz
 rintro a w ⟨hS,hM⟩
 unfold oB at hM
 exact fz
def iC (b:LU):Option LU:=some (b)
def fW (e:LU) (d:LU) (c:Int):Option (Fl (LU×Int) (LU)):=cond (decide ((c:Int) < (e.length:Int))) ((bm e c).bind fun b=>gd (bG (([]:List cI).length + b.Asks.length)) <| gd (bG (d.length + ([(aL.mk b.Ring (([]:List cI) ++ b.Asks) b.Final b.C)]).length)) <| some (.go ((d ++ ([(aL.mk b.Ring (([]:List cI) ++ b.Asks) b.Final b.C)])),IntKind.i64.wrap (c + 1)))) (some (.out d))
def iP (b:LU):Option LU:=(loop (fun s:LU×Int=>fW b s.1 s.2) (([]:List aL),0)).bind fun r=>iC r
theorem sK (T:Nat→Prop) (W0:World) (hT:TW T W0) (g:LU) (p:Value) (A:aB aq T W0 p g) (y:LU) (hM:iP g=some y):aY Tryz.prog No 106 [p] W0 (fun v w'=>∃ (k:Value) (oW:List Value),v=k∧iy aq T W0 w' [bJ k oW] 81 k oW y):=by
 refine en Tryz.func106 Tryz.ntmps106 hT fun a hS=>?_
 replace hS:=hS.fS (aB.dn A)
 unfold iP at hM
 refine ai hS fun a hS=>?_
 refine aI (J:=fun a w=>∃ (j:LU) (f:Value) (d:LV),St W0 No T 22 [(3,f)] [bJ f d] [am aq d j] a w∧iC j=some y) ?_ ?_
 ·skip
  refine ai hS fun a hS=>?_
  replace hS:=hS.nilRow aq 81 (by decide)
  obtain ⟨O,z,hMo1⟩:=bd hM
  refine bB _ (fun s a w=>∃ (c:LU) (e:Int) (l:Value) (h:LV),(c,e)=s∧St W0 No T 22 [(3,l),(6,p),(7,.int .i64 (g.length:Int)),(8,.int .i64 e)] [bJ l h] [am aq h c,aJ aq p g] a w) z ⟨_,_,_,_,rfl,hS.mt [0] [0,1]⟩ ?_
  rintro s a w I ⟨c,e,l,h,rfl,hS⟩ hM hf1
  have hM:fW g c e=some I:=hM
  unfold fW at hM
  refine ai hS fun a hS=>?_
  refine aw ?_
  rcases cd hM with ⟨q,hM⟩ | ⟨q,hM⟩
  ·refine ai hS fun a hS=>?_
   refine aw ?_
   refine ai hS fun a hS=>?_
   obtain ⟨b,n,hM⟩:=bd hM
   refine wl rfl (bf (R:=aq) hS tx sU rfl rfl 1 rfl n rfl fun B L F r a hS=>?_)
   obtain ⟨M,rfl,o⟩:=r
   replace hS:=hS.fS o
   refine ai hS fun a hS=>?_
   refine ka hS tZ fun D K a w hk hS=>?_
   refine go hS fun a w hS=>?_
   replace hS:=hS.nilRow eb 85 (by decide)
   obtain ⟨t,hM⟩:=ba hM
   refine wl rfl (bC (R:=eb) (xs:=([]:List cI)) (ys:=b.Asks) hS EX (by decide) (by decide) rfl rfl 0 rfl 0 rfl 1 rfl t rfl fun m G a w hk hS=>?_)
   refine go hS fun a w hS=>?_
   refine wl rfl (aZ (ps:=[(0,.tmp 17)]) hS C5 tZ (zl:=[.bool false,.slice none 0 0,.int .i64 0,.int .i64 0]) (by kernel_rfl) rfl (us:=[(ru b m)]) ⟨rfl,trivial⟩ (ws:=(ru b m)) rfl rfl rfl rfl fun E a w hk hS=>?_)
   replace hS:=hS.freeze (R:=eb) 1 rfl 0 rfl
   replace hS:=hS.lit (R:=aq) (us:=(ru b m)) (xs:=[(aL.mk b.Ring (([]:List cI) ++ b.Asks) b.Final b.C)]) 0 rfl (by decide) (aD.one_ (R:=aq) (x:=(aL.mk b.Ring (([]:List cI) ++ b.Asks) b.Final b.C)) (⟨_,rfl,(hS.get 0 rfl)⟩)) rfl rfl
   replace hS:=hS.freeze (R:=aq) 0 rfl 0 rfl
   obtain ⟨u,hM⟩:=ba hM
   refine wl rfl (bC (R:=aq) (xs:=c) (ys:=[(aL.mk b.Ring (([]:List cI) ++ b.Asks) b.Final b.C)]) hS C5 (by decide) (by decide) rfl rfl 1 rfl 7 rfl 0 rfl u rfl fun N H a w hk hS=>?_)
   exact fz
  exact fz
 rintro a w ⟨j,f,d,hS,hM⟩
 unfold iC at hM
 refine ai hS fun a hS=>?_
 cases hM
 refine aF hS rfl (ar hS rfl aH) ?_
 exact ⟨f,d,rfl,hS.retOwn ⟨.inr (List.mem_of_getElem? (i:=0) rfl),trivial⟩ 0 rfl 0 rfl⟩
def cn (b:LF):Option LF:=some (b)
def bD (e:LF) (d:LF) (c:Int):Option (Fl (LF×Int) (LF)):=cond (decide ((c:Int) < (e.length:Int))) ((bm e c).bind fun b=>gd (bG (([]:List ae).length + b.Reads.length)) <| gd (bG (([]:List ByteArray).length + b.Answers.length)) <| gd (bG (d.length + ([(bc.mk b.Key b.Running b.At (([]:List ae) ++ b.Reads) (([]:List ByteArray) ++ b.Answers))]).length)) <| some (.go ((d ++ ([(bc.mk b.Key b.Running b.At (([]:List ae) ++ b.Reads) (([]:List ByteArray) ++ b.Answers))])),IntKind.i64.wrap (c + 1)))) (some (.out d))
def dB (b:LF):Option LF:=(loop (fun s:LF×Int=>bD b s.1 s.2) (([]:List bc),0)).bind fun r=>cn r
theorem rX (T:Nat→Prop) (W0:World) (hT:TW T W0) (g:LF) (z:Value) (G:aB an T W0 z g) (y:LF) (hM:dB g=some y):aY Tryz.prog No 107 [z] W0 (fun v w'=>∃ (k:Value) (oW:List Value),v=k∧iy an T W0 w' [c8 k oW] 122 k oW y):=by
 refine en Tryz.func107 Tryz.ntmps107 hT fun a hS=>?_
 replace hS:=hS.fS (aB.dn G)
 unfold dB at hM
 refine ai hS fun a hS=>?_
 refine aI (J:=fun a w=>∃ (j:LF) (f:Value) (d:LV),St W0 No T 26 [(3,f)] [c8 f d] [am an d j] a w∧cn j=some y) ?_ ?_
 ·skip
  refine ai hS fun a hS=>?_
  replace hS:=hS.nilRow an 122 (by decide)
  obtain ⟨V,F,hMo1⟩:=bd hM
  refine bB _ (fun s a w=>∃ (c:LF) (e:Int) (m:Value) (h:LV),(c,e)=s∧St W0 No T 26 [(3,m),(6,z),(7,.int .i64 (g.length:Int)),(8,.int .i64 e)] [c8 m h] [am an h c,aJ an z g] a w) F ⟨_,_,_,_,rfl,hS.mt [0] [0,1]⟩ ?_
  rintro s a w O ⟨c,e,m,h,rfl,hS⟩ hM hf1
  have hM:bD g c e=some O:=hM
  unfold bD at hM
  refine ai hS fun a hS=>?_
  refine aw ?_
  rcases cd hM with ⟨A,hM⟩ | ⟨A,hM⟩
  ·refine ai hS fun a hS=>?_
   refine aw ?_
   refine ai hS fun a hS=>?_
   obtain ⟨b,r,hM⟩:=bd hM
   refine wl rfl (bf (R:=an) hS vn qM rfl rfl 1 rfl r rfl fun H Q K B a hS=>?_)
   obtain ⟨S,q,rfl,t,u⟩:=B
   replace hS:=hS.fS t
   replace hS:=hS.fS u
   refine ai hS fun a hS=>?_
   refine ka hS pE fun p P a w hk hS=>?_
   refine go hS fun a w hS=>?_
   refine aw ?_
   replace hS:=hS.nilRow ad 35 (by decide)
   replace hS:=hS.nilRow aR.str 9 (by decide)
   refine dr [(2,.blk (Value.ownBlock (.slice none 0 0))),(5,.blk (Value.ownBlock (.slice none 0 0))),(7,.blk (some p)),(9,.blk (some p))] hS fun w hQ hS=>?_
   refine gE [0,1,3] hS fun a hS=>?_
   refine dy (l:=[.blk (Value.ownBlock (.slice none 0 0))]) 4 (v:=q) rfl (by kernel_rfl) (by kernel_rfl) (by kernel_rfl) (by kernel_rfl) hQ hS (dV hS rfl zq 2 rfl (iv hS 2 rfl rfl 0 rfl rfl (by decide) bE) (us:=[q]) rfl rfl (fun _=>rfl)) rfl rfl rfl fun a hS=>?_
   obtain ⟨C,hM⟩:=ba hM
   refine e1 2 (bC (R:=ad) (xs:=([]:List ae)) (ys:=b.Reads) hS iq (by decide) (by decide) rfl rfl 1 rfl 1 rfl 3 rfl C rfl fun n L a w hk hS=>⟨kp rfl hk lw,?_⟩)
   refine gE [6] hS fun a hS=>?_
   obtain ⟨D,hM⟩:=ba hM
   refine e1 5 (bC (R:=aR.str) (xs:=([]:List ByteArray)) (ys:=b.Answers) hS uM (by decide) (by decide) rfl rfl 0 rfl 1 rfl 3 rfl D rfl fun o M a w hk hS=>⟨kp rfl hk lw,?_⟩)
   refine es 7 hS fun w hS=>?_
   refine gE [8] hS fun a hS=>?_
   refine es 9 hS fun w hS=>?_
   refine eD ?_
   refine ai hS fun a hS=>?_
   refine wl rfl (aZ (ps:=[(0,.tmp 21)]) hS wU pE (zl:=[.int .i64 0,.string (ByteArray.mk #[]),.bool false,.int .i64 0,.slice none 0 0,.slice none 0 0]) (by kernel_rfl) rfl (us:=[(kj b n o)]) ⟨rfl,trivial⟩ (ws:=(kj b n o)) rfl rfl rfl rfl fun I a w hk hS=>?_)
   replace hS:=hS.freeze (R:=ad) 2 rfl 1 rfl
   replace hS:=hS.freeze (R:=aR.str) 1 rfl 1 rfl
   replace hS:=hS.lit (R:=an) (us:=(kj b n o)) (xs:=[(bc.mk b.Key b.Running b.At (([]:List ae) ++ b.Reads) (([]:List ByteArray) ++ b.Answers))]) 0 rfl (by decide) (aD.one_ (R:=an) (x:=(bc.mk b.Key b.Running b.At (([]:List ae) ++ b.Reads) (([]:List ByteArray) ++ b.Answers))) (⟨_,_,rfl,(hS.get 1 rfl),(hS.get 0 rfl)⟩)) rfl rfl
   replace hS:=hS.freeze (R:=an) 0 rfl 0 rfl
   obtain ⟨E,hM⟩:=ba hM
   refine wl rfl (bC (R:=an) (xs:=c) (ys:=[(bc.mk b.Key b.Running b.At (([]:List ae) ++ b.Reads) (([]:List ByteArray) ++ b.Answers))]) hS wU (by decide) (by decide) rfl rfl 1 rfl 11 rfl 0 rfl E rfl fun U N a w hk hS=>?_)
   exact fz
  exact fz
 rintro a w ⟨j,f,d,hS,hM⟩
 unfold cn at hM
 refine ai hS fun a hS=>?_
 cases hM
 refine aF hS rfl (ar hS rfl aH) ?_
 exact ⟨f,d,rfl,hS.retOwn ⟨.inr (List.mem_of_getElem? (i:=0) rfl),trivial⟩ 0 rfl 0 rfl⟩
def ln (b:cJ):Option cJ:=(iP b.Rules).bind fun c=>(ew b.Base).bind fun d=>gd (bG (([]:List ae).length + b.Goals.length)) <| (dB b.Stack).bind fun e=>gd (bG (([]:List ae).length + b.Ran.length)) <| some ((cJ.mk c d (([]:List ae) ++ b.Goals) e (([]:List ae) ++ b.Ran)))
theorem pX (T:Nat→Prop) (W0:World) (hT:TW T W0) (b:cJ) (Z:Value) (v2:Value) (v3:Value) (v4:Value) (F:Value) (G:Value) (hD:vB T W0 []) (S:aB aq (dT T []) W0 Z b.Rules) (U:aB ac (dT T []) W0 v2 b.Base.Inputs) (V:aB aa (dT T []) W0 v3 b.Base.Records) (W:aB ad (dT T []) W0 v4 b.Goals) (X:aB an (dT T []) W0 F b.Stack) (Y:aB ad (dT T []) W0 G b.Ran) (y:cJ) (hM:ln b=some y):aY Tryz.prog (MD []) 76 [.agg (rx b Z v2 v3 v4 F G).toArray] W0 (fun v w'=>∃ (s:Value) (s3:List Value) (t:Value) (oa:List Value) (h:Value) (pI:List Value) (j:Value) (e:List Value) (k:Value) (f:List Value) (g:Value) (d:List Value),v = .agg (rx y s t h j k g).toArray∧aD aq (dT T [bJ s s3,aP t oa,aE h pI,au j e,c8 k f,au g d]) w' s3 y.Rules∧aD ac (dT T [bJ s s3,aP t oa,aE h pI,au j e,c8 k f,au g d]) w' oa y.Base.Inputs∧aD aa (dT T [bJ s s3,aP t oa,aE h pI,au j e,c8 k f,au g d]) w' pI y.Base.Records∧aD ad (dT T [bJ s s3,aP t oa,aE h pI,au j e,c8 k f,au g d]) w' e y.Goals∧aD an (dT T [bJ s s3,aP t oa,aE h pI,au j e,c8 k f,au g d]) w' f y.Stack∧aD ad (dT T [bJ s s3,aP t oa,aE h pI,au j e,c8 k f,au g d]) w' d y.Ran∧n8 W0 w' [] [bJ s s3,aP t oa,aE h pI,au j e,c8 k f,au g d]):=by
 refine kk (c:=_) Tryz.func76 rfl T 19 Tryz.ntmps76 hT rfl hD fun a hS=>?_
 replace hS:=hS.fS S
 replace hS:=hS.fS U
 replace hS:=hS.fS V
 replace hS:=hS.fS W
 replace hS:=hS.fS X
 replace hS:=hS.fS Y
 unfold ln at hM
 refine ai hS fun a hS=>?_
 refine kb hS fun a3 a4 a w hk hS=>?_
 refine ka hS vA fun H a5 a w hk hS=>?_
 refine ai hS fun a hS=>?_
 refine aw ?_
 replace hS:=hS.nilRow ad 35 (by decide)
 replace hS:=hS.nilRow ad 35 (by decide)
 refine dr [(8,.blk (Value.ownBlock (.slice none 0 0))),(14,.blk (Value.ownBlock (.slice none 0 0))),(16,.blk (some H))] hS fun w hQ hS=>?_
 refine gE [0,1,3,4,6,7,9] hS fun a hS=>?_
 refine dy (l:=[.blk (Value.ownBlock (.slice none 0 0))]) 10 (v:=F) rfl (by kernel_rfl) (by kernel_rfl) (by kernel_rfl) (by kernel_rfl) hQ hS (dV hS rfl HF 3 rfl (iv hS 3 rfl rfl 0 rfl rfl (by decide) bE) (us:=[F]) rfl rfl (fun _=>rfl)) rfl rfl rfl fun a hS=>?_
 refine gE [12] hS fun a hS=>?_
 refine dy (l:=[.blk (Value.ownBlock (.slice none 0 0))]) 13 (v:=G) rfl (by kernel_rfl) (by kernel_rfl) (by kernel_rfl) (by kernel_rfl) hQ hS (dV hS rfl zp 3 rfl (iv hS 3 rfl rfl 0 rfl rfl (by decide) bE) (us:=[G]) rfl rfl (fun _=>rfl)) rfl rfl rfl fun a hS=>?_
 obtain ⟨a9,C,hM⟩:=bd hM
 refine ec 2 hS Gz (sK _ _ hS.dlt b.Rules _ (hS.get 7 rfl) _ C) fun _ w hR a hk hA=>?_
 obtain ⟨m,I,he,x⟩:=hR
 obtain rfl:=he.symm
 have hS:=pd hA x
 obtain ⟨u,D,hM⟩:=bd hM
 refine ec 5 hS uC (dQ _ _ hS.dlt b.Base _ _ (hS.get 7 rfl) (hS.get 6 rfl) _ D) fun _ w hR a hk hA=>?_
 obtain ⟨n,J,o,K,he,z,A,Q⟩:=hR
 obtain rfl:=he.symm
 have hS:=sZ hA z A Q
 obtain ⟨O,hM⟩:=ba hM
 refine e1 8 (bC (R:=ad) (xs:=([]:List ae)) (ys:=b.Goals) hS iq (by decide) (by decide) rfl rfl 4 rfl 3 rfl 7 rfl O rfl fun p L a w hk hS=>⟨kp rfl hk lw,?_⟩)
 obtain ⟨ab,E,hM⟩:=bd hM
 refine ec 11 hS D8 (rX _ _ hS.dlt b.Stack _ (hS.get 7 rfl) _ E) fun _ w hR a hk hA=>?_
 obtain ⟨q,M,he,B⟩:=hR
 obtain rfl:=he.symm
 have hS:=pd hA B
 obtain ⟨P,hM⟩:=ba hM
 refine e1 14 (bC (R:=ad) (xs:=([]:List ae)) (ys:=b.Ran) hS iq (by decide) (by decide) rfl rfl 4 rfl 5 rfl 7 rfl P rfl fun r N a w hk hS=>⟨kp rfl hk lw,?_⟩)
 refine dy 15 (v:=.agg #[m,.int .i64 u.Revision,n,o,p,q,r]) rfl (by kernel_rfl) (by kernel_rfl) (by kernel_rfl) rfl hQ hS (br (ps:=[(0,.tmp 5),(1,.tmp 8),(2,.tmp 11),(3,.tmp 14),(4,.tmp 17)]) hS F8 vA rfl (us:=[[m],(aO u n o),[p],[q],[r]]) ⟨(lO (gN (hS.own _ (List.mem_of_getElem? (i:=3) rfl)).1)),⟨rfl,⟨(lO (gN (hS.own _ (List.mem_of_getElem? (i:=5) rfl)).1)),⟨(lO (gN (hS.own _ (List.mem_of_getElem? (i:=0) rfl)).1)),⟨(lO (gN (hS.own _ (List.mem_of_getElem? (i:=4) rfl)).1)),trivial⟩⟩⟩⟩⟩ (ws:=[m,.int .i64 u.Revision,n,o,p,q,r]) rfl) rfl rfl rfl fun a hS=>?_
 refine es 16 hS fun w hS=>?_
 refine eD ?_
 refine ai hS fun a hS=>?_
 cases hM
 refine aF hS rfl (rC 6 hS) ?_
 have hZ:=hS.sl [3,1,2,5,0,4] [5,4,3,2,1,0]
 exact ⟨m,I,n,J,o,K,p,L,q,M,r,N,rfl,(hZ.get 0 rfl),(hZ.get 1 rfl),(hZ.get 2 rfl),(hZ.get 3 rfl),(hZ.get 4 rfl),(hZ.get 5 rfl),hZ.dnew⟩
def nA (c:LU) (e:ah) (b:LK):Option (cJ×Int):=(jH c e b).bind fun d=>cond ((d:Int) != 0) (some (((cJ.mk ([]:List aL) (ah.mk 0 ([]:List aG) ([]:List al)) ([]:List ae) ([]:List bc) ([]:List ae)),d))) ((ln (cJ.mk c e b ([]) ([]))).bind fun f=>some ((f,0)))
theorem o8 (T:Nat→Prop) (W0:World) (hT:TW T W0) (f:LU) (g:ah) (e:LK) (z:Value) (A:Value) (B:Value) (C:Value) (hD:vB T W0 []) (R:aB aq (dT T []) W0 z f) (S:aB ac (dT T []) W0 A g.Inputs) (U:aB aa (dT T []) W0 B g.Records) (V:aB ad (dT T []) W0 C e) (hLv:c6 (dT T []) W0) (y:cJ×Int) (hM:nA f g e=some y):aY Tryz.prog (MD []) 47 [z,.agg (aO g A B).toArray,C] W0 (fun v w'=>∃ (l:Value) (xD:List Value) (m:Value) (s3:List Value) (n:Value) (oa:List Value) (i:Value) (pI:List Value) (j:Value) (b:List Value) (k:Value) (d:List Value),v = .tuple #[.agg (rx y.1 l m n i j k).toArray,.int .i64 y.2]∧aD aq (dT T [bJ l xD,aP m s3,aE n oa,au i pI,c8 j b,au k d]) w' xD y.1.Rules∧aD ac (dT T [bJ l xD,aP m s3,aE n oa,au i pI,c8 j b,au k d]) w' s3 y.1.Base.Inputs∧aD aa (dT T [bJ l xD,aP m s3,aE n oa,au i pI,c8 j b,au k d]) w' oa y.1.Base.Records∧aD ad (dT T [bJ l xD,aP m s3,aE n oa,au i pI,c8 j b,au k d]) w' pI y.1.Goals∧aD an (dT T [bJ l xD,aP m s3,aE n oa,au i pI,c8 j b,au k d]) w' b y.1.Stack∧aD ad (dT T [bJ l xD,aP m s3,aE n oa,au i pI,c8 j b,au k d]) w' d y.1.Ran∧n8 W0 w' [] [bJ l xD,aP m s3,aE n oa,au i pI,c8 j b,au k d]):=by
 refine kk (c:=_) Tryz.func47 rfl T 22 Tryz.ntmps47 hT rfl hD fun a hS=>?_
 replace hS:=hS.fact bu hLv
 replace hS:=hS.fS R
 replace hS:=hS.fS S
 replace hS:=hS.fS U
 replace hS:=hS.fS V
 unfold nA at hM
 refine ai hS fun a hS=>?_
 refine kb hS fun W Y a w hk hS=>?_
 refine ka hS vA fun X Z a w hk hS=>?_
 refine ai hS fun a hS=>?_
 refine aw ?_
 refine ai hS fun a hS=>?_
 obtain ⟨a0,u,hM⟩:=bd hM
 refine kc hS ER (o7 _ _ hS.dlt (hS.get 4 rfl) f g e _ _ _ _ (hS.get 3 rfl) (hS.get 2 rfl) (hS.get 1 rfl) (hS.get 0 rfl) _ u) fun _ w hR a hk hA=>?_
 obtain rfl:=hR
 have hS:=bM hA
 refine ai hS fun a hS=>?_
 rcases cd hM with ⟨J,hM⟩ | ⟨J,hM⟩
 ·refine ai hS fun a hS=>?_
  refine qy hS (br (ps:=[]) hS F8 vA rfl (us:=[]) trivial (ws:=[.slice none 0 0,.int .i64 0,.slice none 0 0,.slice none 0 0,.slice none 0 0,.slice none 0 0,.slice none 0 0]) rfl) fun a hS=>?_
  refine go hS fun a w hS=>?_
  replace hS:=hS.nilRow aq 81 (by decide)
  replace hS:=hS.nilRow ac 61 (by decide)
  replace hS:=hS.nilRow aa 77 (by decide)
  replace hS:=hS.nilRow ad 35 (by decide)
  replace hS:=hS.nilRow an 122 (by decide)
  replace hS:=hS.nilRow ad 35 (by decide)
  cases hM
  refine aF hS Tryz.results47 (a8 hS rfl 6 rfl tB rfl (fun h=>by cases h) (ar hS rfl aH)) ?_
  have hZ:=hS.sl [5,4,3,2,1,0] [5,4,3,0,1]
  exact ⟨(.slice none 0 0),[],(.slice none 0 0),[],(.slice none 0 0),[],(.slice none 0 0),[],(.slice none 0 0),[],(.slice none 0 0),[],rfl,(hZ.get 0 rfl),(hZ.get 1 rfl),(hZ.get 2 rfl),(hZ.get 3 rfl),(hZ.get 4 rfl),(hZ.get 3 rfl),hZ.dnew⟩
 refine ai hS fun a hS=>?_
 refine qy hS (br (ps:=[(0,.tmp 17),(1,.tmp 18),(2,.tmp 19)]) hS F8 vA rfl (us:=[[z],(aO g A B),[C]]) ⟨(lO (aB.one ((hS.get 3 rfl):aB aq _ _ _ _))),⟨rfl,⟨(lO (aB.one ((hS.get 0 rfl):aB ad _ _ _ _))),trivial⟩⟩⟩ (ws:=[z,.int .i64 g.Revision,A,B,C,.slice none 0 0,.slice none 0 0]) rfl) fun a hS=>?_
 replace hS:=hS.fact (aJ an (.slice none 0 0) []) (aB.nil_ _ _ _)
 replace hS:=hS.fact (aJ ad (.slice none 0 0) []) (aB.nil_ _ _ _)
 obtain ⟨a1,x,hM⟩:=bd hM
 replace hS:=hS.re [] [0,1]
 refine wl rfl (cF hS ES rfl rfl (pX _ _ hS.dltD (cJ.mk f g e ([]) ([])) _ _ _ _ _ _ hS.dok (hS.getD 5 rfl) (hS.getD 4 rfl) (hS.getD 3 rfl) (hS.getD 2 rfl) (hS.getD 1 rfl) (hS.getD 0 rfl) _ x) fun _ w hR a hk hA=>?_)
 obtain ⟨L,D,M,E,N,F,O,G,P,H,Q,I,he,o,p,q,r,s,t,K⟩:=hR
 obtain rfl:=he.symm
 have hS:=hA _ K
 replace hS:=hS.fR (o.keep (Kt.refl _ _) (ap _))
 replace hS:=hS.fR (p.keep (Kt.refl _ _) (ap _))
 replace hS:=hS.fR (q.keep (Kt.refl _ _) (ap _))
 replace hS:=hS.fR (r.keep (Kt.refl _ _) (ap _))
 replace hS:=hS.fR (s.keep (Kt.refl _ _) (ap _))
 replace hS:=hS.fR (t.keep (Kt.refl _ _) (ap _))
 refine go hS fun a w hS=>?_
 cases hM
 refine aF hS Tryz.results47 (a8 hS rfl 6 rfl tB rfl (fun h=>by cases h) (ar hS rfl aH)) ?_
 have hZ:=hS.sl [0,1,2,3,4,5] [5,4,3,2,1,0]
 exact ⟨L,D,M,E,N,F,O,G,P,H,Q,I,rfl,(hZ.get 0 rfl),(hZ.get 1 rfl),(hZ.get 2 rfl),(hZ.get 3 rfl),(hZ.get 4 rfl),(hZ.get 5 rfl),hZ.dnew⟩
def pz (k:aQ) (b:LU):Option (ae×aQ):=(bI k 8).bind fun c=>cond ((c.1:Int) == 1) ((bI (aQ.mk c.2.L c.2.At) 4).bind fun e=>(cZ e.1).bind fun h=>some ((h,(aQ.mk e.2.L e.2.At)))) ((bI (aQ.mk c.2.L c.2.At) 2).bind fun d=>cond ((d.1:Int) == 0) ((bI (aQ.mk d.2.L d.2.At) (min 3 (b.length:Int))).bind fun f=>(jo b (IntKind.i64.wrap ((IntKind.i64.wrap ((b.length:Int) - 1)) - f.1))).bind fun i=>some ((i,(aQ.mk f.2.L f.2.At)))) ((bI (aQ.mk d.2.L d.2.At) (b.length:Int)).bind fun g=>(jo b g.1).bind fun j=>some ((j,(aQ.mk g.2.L g.2.At)))))
theorem yh (T:Nat→Prop) (W0:World) (hT:TW T W0) (e:aQ) (b:LU) (u:Value) (Q:Value) (d:Nat) (x:W0.heap[d]? = some (.cells (aU e u).toArray 55 (0,0))) (J:¬ T d) (O:aB (aR.int .i64) (dT T [.box d (aU e u) 55]) W0 u e.L) (P:aB aq (dT T [.box d (aU e u) 55]) W0 Q b) (hLv:c6 (dT T [.box d (aU e u) 55]) W0) (y:ae×aQ) (hM:pz e b=some y):aY Tryz.prog (fun k=>k=d) 77 [pt d 0,Q] W0 (fun v w'=>∃ (N:Value),v = .agg (aS y.1).toArray∧w'.heap[d]? = some (.cells (aU y.2 N).toArray 55 (0,0))∧aB (aR.int .i64) (dT T [.box d (aU y.2 N) 55]) w' N y.2.L):=by
 refine pJ (c:=_) Tryz.func77 rfl T 31 Tryz.ntmps77 hT rfl x J fun a hS=>?_
 replace hS:=hS.fact bu hLv
 replace hS:=hS.fS O
 replace hS:=hS.fS P
 unfold pz at hM
 refine ai hS fun a hS=>?_
 refine ka hS gM fun R S a w hk hS=>?_
 refine ai hS fun a hS=>?_
 refine aw ?_
 refine ai hS fun a hS=>?_
 obtain ⟨f,z,hM⟩:=bd hM
 refine wl rfl (bR hS lJ rfl rfl 1 rfl (bg _ _ (hS.drop 1).dlt e 8 _ _ (hS.boxRow 1 rfl) (hS.notin 1 rfl) (aB.lent (i:=1) rfl (hS.get 1 rfl)) _ z) fun _ w hR hk=>?_)
 obtain ⟨K,he,hrow,h⟩:=hR
 obtain rfl:=he.symm
 refine ⟨(aU f.2 K),hrow,fun a hS=>?_⟩
 replace hS:=hS.fS (aB.back (i:=1) rfl h)
 refine ai hS fun a hS=>?_
 rcases cd hM with ⟨H,hM⟩ | ⟨H,hM⟩
 ·refine ai hS fun a hS=>?_
  obtain ⟨o,A,hM⟩:=bd hM
  refine wl rfl (bR hS lJ rfl rfl 1 rfl (bg _ _ (hS.drop 1).dlt (aQ.mk f.2.L f.2.At) 4 _ _ (hS.boxRow 1 rfl) (hS.notin 1 rfl) (aB.lent (i:=1) rfl (hS.get 0 rfl)) _ A) fun _ w hR hk=>?_)
  obtain ⟨r,he,hrow,j⟩:=hR
  obtain rfl:=he.symm
  refine ⟨(aU o.2 r),hrow,fun a hS=>?_⟩
  replace hS:=hS.fS (aB.back (i:=1) rfl j)
  obtain ⟨U,B,hM⟩:=bd hM
  refine kc hS vD (eG _ _ hS.dlt (hS.get 4 rfl) o.1 _ B) fun _ w hR a hk hA=>?_
  obtain rfl:=hR
  have hS:=bM hA
  refine go hS fun a w hS=>?_
  cases hM
  refine aF hS rfl (rC 0 hS) ?_
  exact ⟨r,rfl,hS.boxRow 1 rfl,(aB.up ⟨.inr (List.mem_of_getElem? (i:=1) rfl),trivial⟩ (hS.get 0 rfl))⟩
 refine ai hS fun a hS=>?_
 refine aw ?_
 refine ai hS fun a hS=>?_
 obtain ⟨g,C,hM⟩:=bd hM
 refine wl rfl (bR hS lJ rfl rfl 1 rfl (bg _ _ (hS.drop 1).dlt (aQ.mk f.2.L f.2.At) 2 _ _ (hS.boxRow 1 rfl) (hS.notin 1 rfl) (aB.lent (i:=1) rfl (hS.get 0 rfl)) _ C) fun _ w hR hk=>?_)
 obtain ⟨M,he,hrow,l⟩:=hR
 obtain rfl:=he.symm
 refine ⟨(aU g.2 M),hrow,fun a hS=>?_⟩
 replace hS:=hS.fS (aB.back (i:=1) rfl l)
 refine ai hS fun a hS=>?_
 rcases cd hM with ⟨I,hM⟩ | ⟨I,hM⟩
 ·refine ai hS fun a hS=>?_
  refine qy hS (EB hS rfl rfl) fun a hS=>?_
  obtain ⟨p,D,hM⟩:=bd hM
  refine wl rfl (bR hS lJ rfl rfl 1 rfl (bg _ _ (hS.drop 1).dlt (aQ.mk g.2.L g.2.At) (min 3 (b.length:Int)) _ _ (hS.boxRow 1 rfl) (hS.notin 1 rfl) (aB.lent (i:=1) rfl (hS.get 0 rfl)) _ D) fun _ w hR hk=>?_)
  obtain ⟨s,he,hrow,m⟩:=hR
  obtain rfl:=he.symm
  refine ⟨(aU p.2 s),hrow,fun a hS=>?_⟩
  replace hS:=hS.fS (aB.back (i:=1) rfl m)
  refine ai hS fun a hS=>?_
  obtain ⟨V,E,hM⟩:=bd hM
  refine kc hS wd (mI _ _ hS.dlt (hS.get 5 rfl) b (IntKind.i64.wrap ((IntKind.i64.wrap ((b.length:Int) - 1)) - p.1)) _ (hS.get 3 rfl) _ E) fun _ w hR a hk hA=>?_
  obtain rfl:=hR
  have hS:=bM hA
  refine go hS fun a w hS=>?_
  cases hM
  refine aF hS rfl (rC 0 hS) ?_
  exact ⟨s,rfl,hS.boxRow 1 rfl,(aB.up ⟨.inr (List.mem_of_getElem? (i:=1) rfl),trivial⟩ (hS.get 0 rfl))⟩
 refine ai hS fun a hS=>?_
 obtain ⟨q,F,hM⟩:=bd hM
 refine wl rfl (bR hS lJ rfl rfl 1 rfl (bg _ _ (hS.drop 1).dlt (aQ.mk g.2.L g.2.At) (b.length:Int) _ _ (hS.boxRow 1 rfl) (hS.notin 1 rfl) (aB.lent (i:=1) rfl (hS.get 0 rfl)) _ F) fun _ w hR hk=>?_)
 obtain ⟨t,he,hrow,n⟩:=hR
 obtain rfl:=he.symm
 refine ⟨(aU q.2 t),hrow,fun a hS=>?_⟩
 replace hS:=hS.fS (aB.back (i:=1) rfl n)
 obtain ⟨W,G,hM⟩:=bd hM
 refine kc hS wd (mI _ _ hS.dlt (hS.get 5 rfl) b q.1 _ (hS.get 3 rfl) _ G) fun _ w hR a hk hA=>?_
 obtain rfl:=hR
 have hS:=bM hA
 refine go hS fun a w hS=>?_
 cases hM
 refine aF hS rfl (rC 0 hS) ?_
 exact ⟨t,rfl,hS.boxRow 1 rfl,(aB.up ⟨.inr (List.mem_of_getElem? (i:=1) rfl),trivial⟩ (hS.get 0 rfl))⟩
def mW (d:LK) (b:LN) (c:Int):Option (LK×aQ):=some ((d,(aQ.mk b c)))
def mX (g:LU) (c:LK) (f:Int) (d:LN) (e:Int):Option (Fl (LK×Int×LN×Int) (LK×LN×Int)):=cond (decide ((0:Int) < f)) ((pz (aQ.mk d e) g).bind fun b=>gd (bG (c.length + ([(ae.mk b.1.Kind b.1.Text)]).length)) <| some (.go ((c ++ ([(ae.mk b.1.Kind b.1.Text)])),IntKind.i64.wrap (f - 1),b.2.L,b.2.At))) (some (.out (c,d,e)))
def mG (e:aQ) (c:LU) (d:Int):Option (LK×aQ):=(bI e d).bind fun b=>(loop (fun s:LK×Int×LN×Int=>mX c s.1 s.2.1 s.2.2.1 s.2.2.2) (([]:List ae),IntKind.i64.wrap (b.1 + 1),b.2.L,b.2.At)).bind fun r=>mW r.1 r.2.1 r.2.2
theorem pQ (T:Nat→Prop) (W0:World) (hT:TW T W0) (j:aQ) (d:LU) (n:Int) (E:Value) (H:Value) (e:Nat) (S:W0.heap[e]? = some (.cells (aU j E).toArray 55 (0,0))) (N:¬ T e) (V:aB (aR.int .i64) (dT T [.box e (aU j E) 55]) W0 E j.L) (W:aB aq (dT T [.box e (aU j E) 55]) W0 H d) (hLv:c6 (dT T [.box e (aU j E) 55]) W0) (y:LK×aQ) (hM:mG j d n=some y):aY Tryz.prog (fun k=>k=e) 48 [pt e 0,H,.int .i64 n] W0 (fun v w'=>∃ (o:Value) (wP:List Value) (I:Value),v=o∧iy ad T W0 w' [au o wP,.box e (aU y.2 I) 55] 35 o wP y.1∧w'.heap[e]? = some (.cells (aU y.2 I).toArray 55 (0,0))∧aB (aR.int .i64) (dT T [au o wP,.box e (aU y.2 I) 55]) w' I y.2.L):=by
 refine pJ (c:=_) Tryz.func48 rfl T 24 Tryz.ntmps48 hT rfl S N fun a hS=>?_
 replace hS:=hS.fact bu hLv
 replace hS:=hS.fS V
 replace hS:=hS.fS W
 unfold mG at hM
 refine ai hS fun a hS=>?_
 refine aI (J:=fun a w=>∃ (z:LK) (t:LN) (u:Int) (p:Value) (l:LV) (q:Value),St W0 (fun k=>k=e) T 24 [(7,p)] [au p l,.box e [q,.int .i64 u] 55] [am ad l z,aJ (aR.int .i64) q t,bu] a w∧mW z t u=some y) ?_ ?_
 ·skip
  refine ai hS fun a hS=>?_
  obtain ⟨O,G,hM⟩:=bd hM
  refine wl rfl (bR hS lJ rfl rfl 0 rfl (bg _ _ (hS.drop 0).dlt j n _ _ (hS.boxRow 0 rfl) (hS.notin 0 rfl) (aB.lent (i:=0) rfl (hS.get 1 rfl)) _ G) fun _ w hR hk=>?_)
  obtain ⟨P,he,hrow,C⟩:=hR
  obtain rfl:=he.symm
  refine ⟨(aU O.2 P),hrow,fun a hS=>?_⟩
  replace hS:=hS.fS (aB.back (i:=0) rfl C)
  refine ai hS fun a hS=>?_
  replace hS:=hS.nilRow ad 35 (by decide)
  obtain ⟨r1,U,hMo1⟩:=bd hM
  refine bB _ (fun s a w=>∃ (h:LK) (m:Int) (f:LN) (g:Int) (A:Value) (r:LV) (B:Value),(h,m,f,g)=s∧St W0 (fun k=>k=e) T 24 [(0,pt e 0),(1,H),(7,A),(8,.int .i64 m)] [au A r,.box e [B,.int .i64 g] 55] [aJ aq H d,am ad r h,aJ (aR.int .i64) B f,bu] a w) U ⟨_,_,_,_,_,_,_,rfl,hS.mt [0,1] [2,0,1,4]⟩ ?_
  rintro s a w Z ⟨h,m,f,g,A,r,B,rfl,hS⟩ hM hf1
  have hM:mX d h m f g=some Z:=hM
  unfold mX at hM
  refine aw ?_
  refine ai hS fun a hS=>?_
  rcases cd hM with ⟨K,hM⟩ | ⟨K,hM⟩
  ·refine ai hS fun a hS=>?_
   refine aw ?_
   refine ai hS fun a hS=>?_
   obtain ⟨b,F,hM⟩:=bd hM
   refine wl rfl (bR hS Ix rfl rfl 1 rfl (yh _ _ (hS.drop 1).dlt (aQ.mk f g) d _ _ _ (hS.boxRow 1 rfl) (hS.notin 1 rfl) (aB.lent (i:=1) rfl (hS.get 2 rfl)) (aB.lent (i:=1) rfl (hS.get 0 rfl)) (bu.keep (hS.get 3 rfl) (Kt.refl _ _) (fun k hk=>.inl ((mz (i:=1) rfl k).1 hk))) _ F) fun _ w hR hk=>?_)
   obtain ⟨Q,he,hrow,D⟩:=hR
   obtain rfl:=he.symm
   refine ⟨(aU b.2 Q),hrow,fun a hS=>?_⟩
   replace hS:=hS.fS (aB.back (i:=1) rfl D)
   refine wl rfl (aZ (ps:=[(0,.tmp 20)]) hS iq gM (zl:=[.int .i64 0,.string (ByteArray.mk #[])]) (by kernel_rfl) rfl (us:=[(aS b.1)]) ⟨rfl,trivial⟩ (ws:=(aS b.1)) rfl rfl rfl rfl fun X a w hk hS=>?_)
   replace hS:=hS.lit (R:=ad) (us:=(aS b.1)) (xs:=[(ae.mk b.1.Kind b.1.Text)]) 0 rfl (by decide) (aD.one_ (R:=ad) (x:=(ae.mk b.1.Kind b.1.Text)) rfl) rfl rfl
   replace hS:=hS.freeze (R:=ad) 0 rfl 0 rfl
   obtain ⟨M,hM⟩:=ba hM
   refine wl rfl (bC (R:=ad) (xs:=h) (ys:=[(ae.mk b.1.Kind b.1.Text)]) hS iq (by decide) (by decide) rfl rfl 0 rfl 4 rfl 0 rfl M rfl fun a0 Y a w hk hS=>?_)
   exact fz
  refine ai hS fun a hS=>?_
  cases hM
  have hr:=hf1 _ rfl
  subst hr
  have hM:mW h f g=some y:=hMo1
  exact ⟨_,_,_,_,_,_,hS.mt [0,1] [1,2,3],hM⟩
 rintro a w ⟨z,t,u,p,l,q,hS,hM⟩
 unfold mW at hM
 refine ai hS fun a hS=>?_
 cases hM
 refine aF hS rfl (ar hS rfl aH) ?_
 exact ⟨p,l,q,rfl,hS.retOwnm ⟨.inr (List.mem_of_getElem? (i:=0) rfl),⟨.inr (List.mem_of_getElem? (i:=1) rfl),trivial⟩⟩ 0 rfl 0 rfl 1 rfl (by decide),hS.boxRow 1 rfl,(aB.up ⟨.inr (List.mem_of_getElem? (i:=0) rfl),⟨.inr (List.mem_of_getElem? (i:=1) rfl),trivial⟩⟩ (hS.get 1 rfl))⟩
def o1:Option (al×Bool):=some (((al.mk (ae.mk 0 (ByteArray.mk #[])) (ByteArray.mk #[]) ([]) 0 0 0 false),false))
def gI (e:LR) (d:ae) (c:Int):Option (Fl (Int) (Fl (Unit) (al×Bool))):=cond (decide ((c:Int) < (e.length:Int))) ((bm e c).bind fun b=>cond ((b.Key.Kind:Int) == d.Kind && b.Key.Text.toList == d.Text.toList) ((fu b).bind fun f=>some (.out (.out (f,true)))) (some (.go (IntKind.i64.wrap (c + 1))))) (some (.out (.go ())))
def cr (c:LR) (b:ae):Option (al×Bool):=(loop (fun s:Int=>gI c b s) 0).bind fun r=>Fl.el r (fun s=>o1) (fun y=>some (y))
theorem bF (T:Nat→Prop) (W0:World) (hT:TW T W0) (e:LR) (b:ae) (n:Value) (z:aB aa T W0 n e) (y:al×Bool) (hM:cr e b=some y):aY Tryz.prog No 115 [n,.agg (aS b).toArray] W0 (fun v w'=>∃ (u:Value) (oW:List Value),v = .tuple #[.agg (aX y.1 u).toArray,.bool y.2]∧iy ad T W0 w' [au u oW] 35 u oW y.1.Reads):=by
 refine en Tryz.func115 Tryz.ntmps115 hT fun a hS=>?_
 replace hS:=hS.fS (aB.dn z)
 unfold cr at hM
 refine ai hS fun a hS=>?_
 refine kb hS fun g E a w hk hS=>?_
 refine ka hS fJ fun c F a w hk hS=>?_
 refine ai hS fun a hS=>?_
 refine aI (J:=fun a w=>St W0 No T 22 [(4,pt c 0)] [.box c [.int .i64 0,.string (ByteArray.mk #[]),.string (ByteArray.mk #[]),.slice none 0 0,.int .i64 0,.int .i64 0,.int .i64 0,.bool false] 77] [] a w∧o1=some y) ?_ ?_
 ·skip
  refine ai hS fun a hS=>?_
  obtain ⟨L,x,hMo1⟩:=bd hM
  refine bB _ (fun s a w=>∃ (d:Int),d=s∧St W0 No T 22 [(3,pt g 0),(4,pt c 0),(8,n),(9,.int .i64 (e.length:Int)),(10,.int .i64 d)] [.box g (aS b) 35,.box c [.int .i64 0,.string (ByteArray.mk #[]),.string (ByteArray.mk #[]),.slice none 0 0,.int .i64 0,.int .i64 0,.int .i64 0,.bool false] 77] [aJ aa n e] a w) x ⟨_,rfl,hS.mt [1,0] [0]⟩ ?_
  rintro s a w D ⟨d,rfl,hS⟩ hM hf1
  have hM:gI e b d=some D:=hM
  unfold gI at hM
  refine ai hS fun a hS=>?_
  refine aw ?_
  rcases cd hM with ⟨p,hM⟩ | ⟨p,hM⟩
  ·refine ai hS fun a hS=>?_
   refine aw ?_
   refine ai hS fun a hS=>?_
   obtain ⟨f,k,hM⟩:=bd hM
   refine wl rfl (bf (R:=aa) hS nH kQ rfl rfl 0 rfl k rfl fun A H C q a hS=>?_)
   obtain ⟨K,rfl,m⟩:=q
   replace hS:=hS.fS m
   refine ai hS fun a hS=>?_
   refine ka hS fJ fun B G a w hk hS=>?_
   refine go hS fun a w hS=>?_
   refine wl rfl (ky (v:=.bool ((f.Key.Kind:Int) == b.Kind && f.Key.Text.toList == b.Text.toList)) hS (wW hS rfl rfl) rfl rfl fun a hS=>?_)
   refine ai hS fun a hS=>?_
   rcases cd hM with ⟨r,hM⟩ | ⟨r,hM⟩
   ·refine ai hS fun a hS=>?_
    obtain ⟨I,l,hM⟩:=bd hM
    refine kc hS zE (kV _ _ hS.dlt f _ (hS.get 0 rfl) _ l) fun _ w hR a hk hA=>?_
    obtain ⟨t,o,he,j⟩:=hR
    obtain rfl:=he.symm
    have hS:=pd hA j
    refine go hS fun a w hS=>?_
    cases hM
    have hr:=hf1 _ rfl
    subst hr
    replace hMo1:=gT hMo1
    have hM:=hMo1
    cases hM
    refine aF hS Tryz.results115 (a8 hS rfl 3 rfl kQ rfl (fun h=>by cases h) (ar hS rfl aH)) ?_
    exact ⟨t,o,rfl,hS.retOwn ⟨.inr (List.mem_of_getElem? (i:=0) rfl),trivial⟩ 0 rfl 0 rfl⟩
   exact fz
  exact fz
 rintro a w ⟨hS,hM⟩
 unfold o1 at hM
 refine ai hS fun a hS=>?_
 refine qy hS (br (ps:=[]) hS Hq fJ rfl (us:=[]) trivial (ws:=[.int .i64 0,.string (ByteArray.mk #[]),.string (ByteArray.mk #[]),.slice none 0 0,.int .i64 0,.int .i64 0,.int .i64 0,.bool false]) rfl) fun a hS=>?_
 refine go hS fun a w hS=>?_
 cases hM
 refine aF hS Tryz.results115 (a8 hS rfl 0 rfl kQ rfl (fun h=>by cases h) (ar hS rfl aH)) ?_
 exact ⟨.slice none 0 0,[],rfl,q8 _ _ _ _ _ _⟩
def pS:Option Bool:=some (false)
def jW (e:LK) (d:ae) (b:Int):Option (Fl (Int) (Fl (Unit) Bool)):=cond (decide ((b:Int) < (e.length:Int))) ((bm e b).bind fun c=>cond ((c.Kind:Int) == d.Kind && c.Text.toList == d.Text.toList) (some (.out (.out true))) (some (.go (IntKind.i64.wrap (b + 1))))) (some (.out (.go ())))
def iY (c:LK) (b:ae):Option Bool:=(loop (fun s:Int=>jW c b s) 0).bind fun r=>Fl.el r (fun s=>pS) (fun y=>some (y))
theorem lA (T:Nat→Prop) (W0:World) (hT:TW T W0) (d:LK) (b:ae) (h:Value) (l:aB ad T W0 h d) (y:Bool) (hM:iY d b=some y):aY Tryz.prog No 21 [h,.agg (aS b).toArray] W0 (fun v w'=>v = .bool y):=by
 refine en Tryz.func21 Tryz.ntmps21 hT fun a hS=>?_
 replace hS:=hS.fS (aB.dn l)
 unfold iY at hM
 refine ai hS fun a hS=>?_
 refine kb hS fun e q a w hk hS=>?_
 refine ai hS fun a hS=>?_
 refine aI (J:=fun a w=>St W0 No T 17 [] [] [] a w∧pS=some y) ?_ ?_
 ·skip
  refine ai hS fun a hS=>?_
  obtain ⟨u,k,hMo1⟩:=bd hM
  refine bB _ (fun s a w=>∃ (c:Int),c=s∧St W0 No T 17 [(3,pt e 0),(7,h),(8,.int .i64 (d.length:Int)),(9,.int .i64 c)] [.box e (aS b) 35] [aJ ad h d] a w) k ⟨_,rfl,hS.mt [0] [0]⟩ ?_
  rintro s a w p ⟨c,rfl,hS⟩ hM hf1
  have hM:jW d b c=some p:=hM
  unfold jW at hM
  refine ai hS fun a hS=>?_
  refine aw ?_
  rcases cd hM with ⟨i,hM⟩ | ⟨i,hM⟩
  ·refine ai hS fun a hS=>?_
   refine aw ?_
   refine ai hS fun a hS=>?_
   obtain ⟨f,g,hM⟩:=bd hM
   refine wl rfl (bf (R:=ad) hS nI fY rfl rfl 0 rfl g rfl fun m t o j a hS=>?_)
   obtain rfl:=j
   refine ai hS fun a hS=>?_
   refine ka hS gM fun n r a w hk hS=>?_
   refine go hS fun a w hS=>?_
   refine wl rfl (ky (v:=.bool ((f.Kind:Int) == b.Kind && f.Text.toList == b.Text.toList)) hS (wW hS rfl rfl) rfl rfl fun a hS=>?_)
   exact fz
  exact fz
 rintro a w ⟨hS,hM⟩
 unfold pS at hM
 exact fz
def kY (b:(List cy)):Option (List cy):=some (b)
def kZ (b:Int) (c:(List cy)):Option (Fl ((List cy)×Int) ((List cy))):=some (.go (c,IntKind.i64.wrap (b + 1)))
def iM (b:Int) (c:(List cy)):Option (Fl ((List cy)×Int) ((List cy))):=some (.go (c,IntKind.i64.wrap (b + 1)))
def gm (f:LK) (e:ae) (g:(al×Bool)) (c:(List cy)) (b:Int):Option (Fl ((List cy)×Int) ((List cy))):=cond (decide ((b:Int) < (g.1.Reads.length:Int))) ((bm g.1.Reads b).bind fun d=>(iY f d).bind fun h=>cond (!(h)) (gd (bG (c.length + ([(cy.mk e d)]).length)) <| iM b (c ++ ([(cy.mk e d)]))) (iM b c)) (some (.out c))
def iN (g:LR) (b:LK) (e:(List cy)) (c:Int):Option (Fl ((List cy)×Int) ((List cy))):=cond (decide ((c:Int) < (b.length:Int))) ((bm b c).bind fun d=>(cr g d).bind fun f=>(loop (fun s:(List cy)×Int=>gm b d f s.1 s.2) (e,0)).bind fun r=>kZ c r) (some (.out e))
def gA (c:LR) (b:LK):Option (List cy):=(loop (fun s:(List cy)×Int=>iN c b s.1 s.2) (([]:List cy),0)).bind fun r=>kY r
theorem mc (T:Nat→Prop) (W0:World) (hT:TW T W0) (j:LR) (b:LK) (n:Value) (e:Value) (a9:aB aa T W0 n j) (S:aB ad T W0 e b) (y:(List cy)) (hM:gA j b=some y):aY Tryz.prog No 129 [n,e] W0 (fun v w'=>∃ (v3:Value) (tH:List Value),v=v3∧iy fb T W0 w' [kT v3 tH] 181 v3 tH y):=by
 refine en Tryz.func129 Tryz.ntmps129 hT fun a hS=>?_
 replace hS:=hS.fS (aB.dn a9)
 replace hS:=hS.fS (aB.dn S)
 unfold gA at hM
 refine ai hS fun a hS=>?_
 refine aI (J:=fun a w=>∃ (D:(List cy)) (t:Value) (p:LV),St W0 No T 44 [(5,t)] [kT t p] [am fb p D] a w∧kY D=some y) ?_ ?_
 ·skip
  refine ai hS fun a hS=>?_
  replace hS:=hS.nilRow fb 181 (by decide)
  obtain ⟨r1,O,hMo1⟩:=bd hM
  refine bB _ (fun s a w=>∃ (r:(List cy)) (f:Int) (G:Value) (z:LV),(r,f)=s∧St W0 No T 44 [(0,n),(1,e),(5,G),(12,e),(13,.int .i64 (b.length:Int)),(14,.int .i64 f)] [kT G z] [aJ aa n j,aJ ad e b,am fb z r] a w) O ⟨_,_,_,_,rfl,hS.mt [0] [2,1,0]⟩ ?_
  rintro s a w f1 ⟨r,f,G,z,rfl,hS⟩ hM hf1
  have hM:iN j b r f=some f1:=hM
  unfold iN at hM
  refine ai hS fun a hS=>?_
  refine aw ?_
  rcases cd hM with ⟨U,hM⟩ | ⟨U,hM⟩
  ·refine ai hS fun a hS=>?_
   refine aI (J:=fun a w=>∃ (E:(List cy)) (H:Value) (A:LV),St W0 No T 44 [(0,n),(1,e),(5,H),(12,e),(13,.int .i64 (b.length:Int)),(14,.int .i64 f)] [kT H A] [aJ aa n j,aJ ad e b,am fb A E] a w∧kZ f E=some f1) ?_ ?_
   ·skip
    refine ai hS fun a hS=>?_
    obtain ⟨c,M,hM⟩:=bd hM
    refine wl rfl (bf (R:=ad) hS nI fY rfl rfl 1 rfl M rfl fun ab b2 av V a hS=>?_)
    obtain rfl:=V
    refine ai hS fun a hS=>?_
    refine ka hS gM fun o az a w hk hS=>?_
    refine go hS fun a w hS=>?_
    obtain ⟨m,P,hM⟩:=bd hM
    refine kc hS kr (bF _ _ hS.dlt j c _ (hS.get 1 rfl) _ P) fun _ w hR a hk hA=>?_
    obtain ⟨u,q,he,L⟩:=hR
    obtain rfl:=he.symm
    have hS:=pd hA L
    refine ai hS fun a hS=>?_
    refine ka hS fJ fun af b0 a w hk hS=>?_
    refine go hS fun a w hS=>?_
    obtain ⟨r2,a5,hMo2⟩:=bd hM
    refine bB _ (fun s a w=>∃ (l:(List cy)) (g:Int) (I:Value) (B:LV),(l,g)=s∧St W0 No T 44 [(0,n),(1,e),(5,I),(7,pt o 0),(12,e),(13,.int .i64 (b.length:Int)),(14,.int .i64 f),(25,u),(26,.int .i64 (m.1.Reads.length:Int)),(27,.int .i64 g)] [kT I B,au u q,.box o (aS c) 35] [aJ aa n j,aJ ad e b,am fb B l,am ad q m.1.Reads] a w) a5 ⟨_,_,_,_,rfl,hS.mt [3,1,2] [2,3,4,0]⟩ ?_
    rintro s a w f2 ⟨l,g,I,B,rfl,hS⟩ hM hf2
    have hM:gm b c m l g=some f2:=hM
    unfold gm at hM
    refine ai hS fun a hS=>?_
    refine aw ?_
    rcases cd hM with ⟨W,hM⟩ | ⟨W,hM⟩
    ·refine ai hS fun a hS=>?_
     refine aI (J:=fun a w=>∃ (F:(List cy)) (K:Value) (C:LV),St W0 No T 44 [(0,n),(1,e),(5,K),(7,pt o 0),(12,e),(13,.int .i64 (b.length:Int)),(14,.int .i64 f),(25,u),(26,.int .i64 (m.1.Reads.length:Int)),(27,.int .i64 g)] [kT K C,au u q,.box o (aS c) 35] [aJ aa n j,aJ ad e b,am fb C F,am ad q m.1.Reads] a w∧iM g F=some f2) ?_ ?_
     ·skip
      refine ai hS fun a hS=>?_
      obtain ⟨d,N,hM⟩:=bd hM
      refine wl rfl (dI (R:=ad) hS nI fY rfl rfl 1 rfl 3 rfl N rfl fun ag b3 b4 ax X Y Z a hS=>?_)
      obtain rfl:=X
      refine qy hS (cg (k:=0) hS fY 1 rfl Y Z rfl id (us:=(aS d)) rfl rfl (fun h=>by cases h)) fun a hS=>?_
      refine ka hS gM fun ak b1 a w hk hS=>?_
      refine go hS fun a w hS=>?_
      obtain ⟨b5,Q,hM⟩:=bd hM
      refine kc hS Ar (lA _ _ hS.dlt b d _ (hS.get 1 rfl) _ Q) fun _ w hR a hk hA=>?_
      obtain rfl:=hR
      have hS:=bM hA
      refine ai hS fun a hS=>?_
      rcases cd hM with ⟨a0,hM⟩ | ⟨a0,hM⟩
      ·refine ai hS fun a hS=>?_
       refine qy hS (br (ps:=[(0,.tmp 36),(1,.tmp 37)]) hS Hp Ag rfl (us:=[(aS c),(aS d)]) ⟨rfl,⟨rfl,trivial⟩⟩ (ws:=[.int .i64 c.Kind,.string c.Text,.int .i64 d.Kind,.string d.Text]) rfl) fun a hS=>?_
       refine wl rfl (aZ (ps:=[(0,.tmp 38)]) hS Ep Ag (zl:=[.int .i64 0,.string (ByteArray.mk #[]),.int .i64 0,.string (ByteArray.mk #[])]) (by kernel_rfl) rfl (us:=[[.int .i64 c.Kind,.string c.Text,.int .i64 d.Kind,.string d.Text]]) ⟨rfl,trivial⟩ (ws:=[.int .i64 c.Kind,.string c.Text,.int .i64 d.Kind,.string d.Text]) rfl rfl rfl rfl fun ao a w hk hS=>?_)
       replace hS:=hS.lit (R:=fb) (us:=[.int .i64 c.Kind,.string c.Text,.int .i64 d.Kind,.string d.Text]) (xs:=[(cy.mk c d)]) 0 rfl (by decide) (aD.one_ (R:=fb) (x:=(cy.mk c d)) rfl) rfl rfl
       replace hS:=hS.freeze (R:=fb) 0 rfl 0 rfl
       obtain ⟨a1,hM⟩:=ba hM
       refine wl rfl (bC (R:=fb) (xs:=l) (ys:=[(cy.mk c d)]) hS Ep (by decide) (by decide) rfl rfl 1 rfl 4 rfl 0 rfl a1 rfl fun b6 ay a w hk hS=>?_)
       exact fz
      exact fz
     rintro a w ⟨F,K,C,hS,hM⟩
     unfold iM at hM
     exact fz
    exact fz
   rintro a w ⟨E,H,A,hS,hM⟩
   unfold kZ at hM
   exact fz
  exact fz
 rintro a w ⟨D,t,p,hS,hM⟩
 unfold kY at hM
 refine ai hS fun a hS=>?_
 cases hM
 refine aF hS rfl (ar hS rfl aH) ?_
 exact ⟨t,p,rfl,hS.retOwn ⟨.inr (List.mem_of_getElem? (i:=0) rfl),trivial⟩ 0 rfl 0 rfl⟩
def nN (b:LK):Option LK:=some (b)
def gl (b:Int) (c:LK):Option (Fl (LK×Int) (LK)):=some (.go (c,IntKind.i64.wrap (b + 1)))
def d8 (c:LK) (e:Int) (d:ae) (f:Int) (h:Bool):Option (Fl (LK×Int) (LK)):=cond h ((ql c 0 f).bind fun b=>(ql c f c.length).bind fun g=>gd (bG (([]:List ae).length + b.length)) <| gd (bG ((([]:List ae) ++ b).length + ([d]).length)) <| gd (bG (((([]:List ae) ++ b) ++ ([d])).length + g.length)) <| gl e (((([]:List ae) ++ b) ++ ([d])) ++ g)) (gl e c)
def iG (d:LK) (f:Int) (b:ae) (c:Int):Option (Fl (LK×Int) (LK)):=cond ((c:Int) == (d.length:Int)) (d8 d f b c true) ((bm d c).bind fun e=>d8 d f b c (!((e.Kind:Int) == b.Kind && e.Text.toList == b.Text.toList)))
def fa (c:LK) (d:ae) (b:Int):Option (Fl (Int) (Int)):=cond (decide ((b:Int) < (c.length:Int))) ((bm c b).bind fun e=>(iW e d).bind fun f=>cond (decide ((f:Int) < 0)) (some (.go (IntKind.i64.wrap (b + 1)))) (some (.out b))) (some (.out b))
def kU (e:LK) (c:LK) (b:Int):Option (Fl (LK×Int) (LK)):=cond (decide ((b:Int) < (e.length:Int))) ((bm e b).bind fun d=>(loop (fun s:Int=>fa c d s) 0).bind fun r=>iG c b d r) (some (.out c))
def iz (b:LK):Option LK:=(loop (fun s:LK×Int=>kU b s.1 s.2) (([]:List ae),0)).bind fun r=>nN r
theorem qB (T:Nat→Prop) (W0:World) (hT:TW T W0) (hLv:c6 T W0) (e:LK) (o:Value) (b8:aB ad T W0 o e) (y:LK) (hM:iz e=some y):aY Tryz.prog No 86 [o] W0 (fun v w'=>∃ (I:Value) (oW:List Value),v=I∧iy ad T W0 w' [au I oW] 35 I oW y):=by
 refine en Tryz.func86 Tryz.ntmps86 hT fun a hS=>?_
 replace hS:=hS.fact bu (c6.dn hLv)
 replace hS:=hS.fS (aB.dn b8)
 unfold iz at hM
 refine ai hS fun a hS=>?_
 refine aI (J:=fun a w=>∃ (G:LK) (A:Value) (q:LV),St W0 No T 53 [(3,A)] [au A q] [am ad q G,bu] a w∧nN G=some y) ?_ ?_
 ·skip
  refine ai hS fun a hS=>?_
  replace hS:=hS.nilRow ad 35 (by decide)
  obtain ⟨r1,b5,hMo1⟩:=bd hM
  refine bB _ (fun s a w=>∃ (d:LK) (c:Int) (g:Value) (f:LV),(d,c)=s∧St W0 No T 53 [(3,g),(7,o),(8,.int .i64 (e.length:Int)),(9,.int .i64 c)] [au g f] [am ad f d,aJ ad o e,bu] a w) b5 ⟨_,_,_,_,rfl,hS.mt [0] [0,1,2]⟩ ?_
  rintro s a w P ⟨d,c,g,f,rfl,hS⟩ hM hf1
  have hM:kU e d c=some P:=hM
  unfold kU at hM
  refine ai hS fun a hS=>?_
  refine aw ?_
  rcases cd hM with ⟨a2,hM⟩ | ⟨a2,hM⟩
  ·refine ai hS fun a hS=>?_
   refine aI (J:=fun a w=>∃ (H:LK) (K:Value) (B:LV),St W0 No T 53 [(3,K),(7,o),(8,.int .i64 (e.length:Int)),(9,.int .i64 c)] [au K B] [am ad B H,aJ ad o e,bu] a w∧gl c H=some P) ?_ ?_
   ·skip
    refine ai hS fun a hS=>?_
    obtain ⟨b,Q,hM⟩:=bd hM
    refine wl rfl (bf (R:=ad) hS nI fY rfl rfl 1 rfl Q rfl fun b9 c3 bl a3 a hS=>?_)
    obtain rfl:=a3
    refine ai hS fun a hS=>?_
    refine ka hS gM fun m c2 a w hk hS=>?_
    refine go hS fun a w hS=>?_
    refine aI (J:=fun a w=>∃ (p:Int),St W0 No T 53 [(3,g),(5,pt m 0),(6,.int .i64 p),(7,o),(8,.int .i64 (e.length:Int)),(9,.int .i64 c)] [au g f,.box m (aS b) 35] [am ad f d,aJ ad o e,bu] a w∧iG d c b p=some P) ?_ ?_
    ·skip
     refine ai hS fun a hS=>?_
     obtain ⟨r2,b6,hMo2⟩:=bd hM
     refine bB _ (fun s a w=>∃ (z:Int),z=s∧St W0 No T 53 [(3,g),(5,pt m 0),(6,.int .i64 z),(7,o),(8,.int .i64 (e.length:Int)),(9,.int .i64 c)] [au g f,.box m (aS b) 35] [am ad f d,aJ ad o e,bu] a w) b6 ⟨_,rfl,hS.mt [1,0] [1,2,3]⟩ ?_
     rintro s a w f2 ⟨z,rfl,hS⟩ hM hf2
     have hM:fa d b z=some f2:=hM
     unfold fa at hM
     refine aw ?_
     refine aw ?_
     refine dr [] hS fun w hQ hS=>?_
     refine gE [0,1,2,3,4] hS fun a hS=>?_
     rcases cd hM with ⟨t,hM⟩ | ⟨t,hM⟩
     ·refine gE [5,6] hS fun a hS=>?_
      obtain ⟨C,U,hM⟩:=bd hM
      obtain ⟨Y,az,c4,bq,a4,a5,a9,ab⟩:=ni (R:=ad) hS nI fY 0 rfl 0 rfl U
      obtain rfl:=a4
      refine we 7 (v:=pt Y az) rfl (by kernel_rfl) (by kernel_rfl) (by kernel_rfl) rfl hQ hS (ab rfl rfl) rfl rfl rfl t rfl rfl fun a hS=>?_
      refine we (l:=[]) 8 (v:=.agg (aS C).toArray) rfl (by kernel_rfl) (by kernel_rfl) (by kernel_rfl) (by kernel_rfl) hQ hS (cg (k:=0) hS fY 0 rfl a5 a9 rfl bE (us:=(aS C)) rfl rfl (fun h=>by cases h)) rfl rfl rfl t rfl rfl fun a hS=>?_
      refine gE [9] hS fun a hS=>?_
      obtain ⟨c9,X,hM⟩:=bd hM
      refine bV (i:=10) rfl (by kernel_rfl) hS rfl rfl rfl t (a7 hS As rfl rfl (lz _ _ hS.dlt (hS.get 2 rfl) C b _ X) fun _ w hR a hk hA=>⟨fx (hk),?_⟩)
      obtain rfl:=hR
      have hS:=bM hA
      refine gE [11,12] hS fun a hS=>?_
      refine eD ?_
      exact fz
     refine gE [5,6,7,8,9,10,11,12] hS fun a hS=>?_
     refine eD ?_
     exact fz
    rintro a w ⟨p,hS,hM⟩
    unfold iG at hM
    refine aI (J:=fun a w=>∃ (D:Bool),St W0 No T 53 [(3,g),(5,pt m 0),(6,.int .i64 p),(7,o),(8,.int .i64 (e.length:Int)),(9,.int .i64 c),(39,.bool D)] [au g f,.box m (aS b) 35] [am ad f d,aJ ad o e,bu] a w∧d8 d c b p D=some P) ?_ ?_
    ·skip
     refine dr [] hS fun w hQ hS=>?_
     refine gE [0,1,2,3,4] hS fun a hS=>?_
     rcases cd hM with ⟨u,hM⟩ | ⟨u,hM⟩
     ·refine gE [5,6,7,8,9,10,11] hS fun a hS=>?_
      refine eD ?_
      exact ⟨_,hS.mt [0,1] [0,1,2],hM⟩
     refine gE [5,6] hS fun a hS=>?_
     obtain ⟨r,S,hM⟩:=bd hM
     obtain ⟨Z,b0,c5,bs,af,ag,ak,ao⟩:=ni (R:=ad) hS nI fY 0 rfl 0 rfl S
     obtain rfl:=af
     refine we 7 (v:=pt Z b0) rfl (by kernel_rfl) (by kernel_rfl) (by kernel_rfl) rfl hQ hS (ao rfl rfl) rfl rfl rfl u rfl rfl fun a hS=>?_
     refine we (l:=[]) 8 (v:=.agg (aS r).toArray) rfl (by kernel_rfl) (by kernel_rfl) (by kernel_rfl) (by kernel_rfl) hQ hS (cg (k:=0) hS fY 0 rfl ag ak rfl bE (us:=(aS r)) rfl rfl (fun h=>by cases h)) rfl rfl rfl u rfl rfl fun a hS=>?_
     refine gE [9] hS fun a hS=>?_
     refine we 10 (v:=.bool (!((r.Kind:Int) == b.Kind && r.Text.toList == b.Text.toList))) rfl (by kernel_rfl) (by kernel_rfl) (by kernel_rfl) rfl hQ hS (wh hS rfl rfl) rfl rfl rfl u rfl rfl fun a hS=>?_
     refine gE [11] hS fun a hS=>?_
     refine eD ?_
     exact ⟨_,hS.mt [0,1] [0,1,2],hM⟩
    rintro a w ⟨D,hS,hM⟩
    unfold d8 at hM
    rcases cd hM with ⟨av,hM⟩ | ⟨av,hM⟩
    ·refine ai hS fun a hS=>?_
     replace hS:=hS.nilRow ad 35 (by decide)
     refine dr [(3,.blk (Value.ownBlock (.slice none 0 0))),(6,.any),(10,.any)] hS fun w hQ hS=>?_
     refine gE [0,1] hS fun a hS=>?_
     obtain ⟨n,V,hM⟩:=bd hM
     obtain ⟨b1,L,ax⟩:=uJ (R:=ad) hS nI fY 1 rfl 1 rfl V
     refine dy 2 (v:=b1) rfl (by kernel_rfl) (by kernel_rfl) (by kernel_rfl) rfl hQ hS (ax (k1:=.i64) rfl (.inr ⟨rfl,rfl⟩) (.inl ⟨_,rfl,rfl⟩)) rfl rfl rfl fun a hS=>?_
     refine dy (l:=[.blk (Value.ownBlock (.slice none 0 0))]) 4 (v:=.agg (aS b).toArray) rfl (by kernel_rfl) (by kernel_rfl) (by kernel_rfl) (by kernel_rfl) hQ hS (dV hS rfl fY 2 rfl (iv hS 2 rfl rfl 0 rfl rfl (by decide) bE) (us:=(aS b)) rfl rfl (fun h=>by cases h)) rfl rfl rfl fun a hS=>?_
     refine gE [7,8] hS fun a hS=>?_
     obtain ⟨O,W,hM⟩:=bd hM
     obtain ⟨b2,M,ay⟩:=uJ (R:=ad) hS nI fY 1 rfl 1 rfl W
     refine dy 9 (v:=b2) rfl (by kernel_rfl) (by kernel_rfl) (by kernel_rfl) rfl hQ hS (ay (k2:=.i64) rfl (.inl ⟨_,rfl,rfl⟩) (.inr ⟨rfl,rfl⟩)) rfl rfl rfl fun a hS=>?_
     obtain ⟨N,hM⟩:=ba hM
     refine dU (i:=3) (j:=5) rfl rfl (by kernel_rfl) rfl rfl ?_ ?_
     ·skip
      skip
      replace hS:=hS.freeze (R:=ad) 1 rfl 1 rfl
      replace hS:=hS.fS (L _ _ (hS.get 0 rfl))
      refine id (bC (R:=ad) (xs:=([]:List ae)) (ys:=n) hS iq (by decide) (by decide) rfl rfl 0 rfl 2 rfl 0 rfl N rfl fun ca bt a w hk hS=>⟨kp rfl hk lw,?_⟩)
      refine e1 5 (aZ (ps:=[(0,.tmp 44)]) hS iq gM (zl:=[.int .i64 0,.string (ByteArray.mk #[])]) (by kernel_rfl) rfl (us:=[(aS b)]) ⟨rfl,trivial⟩ (ws:=(aS b)) rfl rfl rfl rfl fun bb a w hk hS=>⟨fx (hk),?_⟩)
      replace hS:=hS.lit (R:=ad) (us:=(aS b)) (xs:=[b]) 0 rfl (by decide) (aD.one_ (R:=ad) (x:=b) rfl) rfl rfl
      replace hS:=hS.freeze (R:=ad) 0 rfl 0 rfl
      obtain ⟨E,hM⟩:=ba hM
      refine e1 6 (bC (R:=ad) (xs:=(([]:List ae) ++ n)) (ys:=[b]) hS iq (by decide) (by decide) rfl rfl 0 rfl 2 rfl 0 rfl E rfl fun b3 a0 a w hk hS=>⟨kp rfl hk rA,?_⟩)
      replace hS:=hS.fS (M _ _ (hS.get 5 rfl))
      obtain ⟨F,hM⟩:=ba hM
      refine e1 10 (bC (R:=ad) (xs:=((([]:List ae) ++ n) ++ ([b]))) (ys:=O) hS iq (by decide) (by decide) rfl rfl 0 rfl 1 rfl 0 rfl F rfl fun b4 a1 a w hk hS=>⟨kp rfl hk rA,?_⟩)
      refine gE [11] hS fun a hS=>?_
      refine eD ?_
      exact ⟨_,_,_,hS.mt [0] [0,10,11],hM⟩
     skip
     refine id (aZ (ps:=[(0,.tmp 44)]) hS iq gM (zl:=[.int .i64 0,.string (ByteArray.mk #[])]) (by kernel_rfl) rfl (us:=[(aS b)]) ⟨rfl,trivial⟩ (ws:=(aS b)) rfl rfl rfl rfl fun bi a w hk hS=>⟨fx (hk),?_⟩)
     replace hS:=hS.freeze (R:=ad) 2 rfl 1 rfl
     replace hS:=hS.fS (L _ _ (hS.get 0 rfl))
     refine e1 3 (bC (R:=ad) (xs:=([]:List ae)) (ys:=n) hS iq (by decide) (by decide) rfl rfl 1 rfl 2 rfl 0 rfl N rfl fun cb c0 a w hk hS=>⟨kp rfl hk lw,?_⟩)
     replace hS:=hS.lit (R:=ad) (us:=(aS b)) (xs:=[b]) 0 rfl (by decide) (aD.one_ (R:=ad) (x:=b) rfl) rfl rfl
     replace hS:=hS.freeze (R:=ad) 0 rfl 0 rfl
     obtain ⟨E,hM⟩:=ba hM
     refine e1 6 (bC (R:=ad) (xs:=(([]:List ae) ++ n)) (ys:=[b]) hS iq (by decide) (by decide) rfl rfl 0 rfl 2 rfl 0 rfl E rfl fun b3 a0 a w hk hS=>⟨kp rfl hk rA,?_⟩)
     replace hS:=hS.fS (M _ _ (hS.get 5 rfl))
     obtain ⟨F,hM⟩:=ba hM
     refine e1 10 (bC (R:=ad) (xs:=((([]:List ae) ++ n) ++ ([b]))) (ys:=O) hS iq (by decide) (by decide) rfl rfl 0 rfl 1 rfl 0 rfl F rfl fun b4 a1 a w hk hS=>⟨kp rfl hk rA,?_⟩)
     refine gE [11] hS fun a hS=>?_
     refine eD ?_
     exact ⟨_,_,_,hS.mt [0] [0,10,11],hM⟩
    exact fz
   rintro a w ⟨H,K,B,hS,hM⟩
   unfold gl at hM
   exact fz
  exact fz
 rintro a w ⟨G,A,q,hS,hM⟩
 unfold nN at hM
 refine ai hS fun a hS=>?_
 cases hM
 refine aF hS rfl (ar hS rfl aH) ?_
 exact ⟨A,q,rfl,hS.retOwn ⟨.inr (List.mem_of_getElem? (i:=0) rfl),trivial⟩ 0 rfl 0 rfl⟩
def gJ (b:Bool):Option Bool:=some (b)
def mN (f:LR) (b:Int) (d:ae):Option Bool:=(cr f d).bind fun c=>cond c.2 ((bZ d).bind fun e=>cond e (cond (decide ((c.1.Verified:Int) < b)) (gJ (!(c.1.Dirty))) (gJ false)) (gJ false)) (gJ false)
theorem sH (T:Nat→Prop) (W0:World) (hT:TW T W0) (g:LR) (b:Int) (d:ae) (k:Value) (j:aB aa T W0 k g) (y:Bool) (hM:mN g b d=some y):aY Tryz.prog No 148 [k,.int .i64 b,.agg (aS d).toArray] W0 (fun v w'=>v = .bool y):=by
 refine en Tryz.func148 Tryz.ntmps148 hT fun a hS=>?_
 replace hS:=hS.fS (aB.dn j)
 unfold mN at hM
 refine ai hS fun a hS=>?_
 refine kb hS fun l o a w hk hS=>?_
 refine ai hS fun a hS=>?_
 obtain ⟨q,h,hM⟩:=bd hM
 refine kc hS kr (bF _ _ hS.dlt g d _ (hS.get 0 rfl) _ h) fun _ w hR a hk hA=>?_
 obtain ⟨s,n,he,f⟩:=hR
 obtain rfl:=he.symm
 have hS:=pd hA f
 refine ai hS fun a hS=>?_
 refine ka hS fJ fun m p a w hk hS=>?_
 refine go hS fun a w hS=>?_
 refine aI (J:=fun a w=>∃ (c:Bool),St W0 No T 31 [(6,.bool c)] [] [] a w∧gJ c=some y) ?_ ?_
 ·skip
  refine ai hS fun a hS=>?_
  rcases cd hM with ⟨e,hM⟩ | ⟨e,hM⟩
  ·refine ai hS fun a hS=>?_
   obtain ⟨r,i,hM⟩:=bd hM
   refine wg hS rfl rfl rfl e (a7 hS s7 rfl rfl (cq _ _ hS.dlt d _ i) fun _ w hR a hk hA=>?_)
   obtain rfl:=hR
   have hS:=bM hA
   exact fz
  exact fz
 rintro a w ⟨c,hS,hM⟩
 unfold gJ at hM
 exact fz
def me (b:LO):Option LO:=some (b)
def jE (b:Int) (d:LO) (c:LK):Option (Fl (LO×LK×Int) (LO)):=some (.go (d,c,IntKind.i64.wrap (b + 1)))
def jF (b:Int) (d:LO) (c:LK):Option (Fl (LO×LK×Int) (LO×LK)):=some (.go (d,c,IntKind.i64.wrap (b + 1)))
def jG (e:LO) (c:LK) (d:Int) (b:ae) (f:Bool):Option (Fl (LO×LK×Int) (LO×LK)):=cond f (gd (bG (c.length + ([b]).length)) <| jF d (cX aA b true e) (c ++ ([b]))) (jF d e c)
def eU (j:LR) (e:Int) (g:(al×Bool)) (d:LO) (f:LK) (c:Int):Option (Fl (LO×LK×Int) (LO×LK)):=cond (decide ((c:Int) < (g.1.Reads.length:Int))) ((bm g.1.Reads c).bind fun b=>(mN j e b).bind fun h=>cond h ((some ((bH aA b d).getD false)).bind fun i=>jG d f c b (!(i))) (jG d f c b false)) (some (.out (d,f)))
def fU (f:LR) (b:Int) (e:LO) (d:LK) (c:Int):Option (Fl (LO×LK×Int) (LO)):=cond (decide ((c:Int) < (d.length:Int))) ((bm d c).bind fun g=>(cr f g).bind fun h=>(loop (fun s:LO×LK×Int=>eU f b h s.1 s.2.1 s.2.2) (e,d,0)).bind fun r=>jE c r.1 r.2) (some (.out e))
def lH (d:LR) (b:Int) (c:ae):Option LO:=(loop (fun s:LO×LK×Int=>fU d b s.1 s.2.1 s.2.2) (([]:LO),[c],0)).bind fun r=>me r
theorem rJ (T:Nat→Prop) (W0:World) (hT:TW T W0) (l:LR) (b:Int) (u:ae) (q:Value) (bt:aB aa T W0 q l) (y:LO) (hM:lH l b u=some y):aY Tryz.prog No 149 [q,.int .i64 b,.agg (aS u).toArray] W0 (fun v w'=>∃ (b2:Nat) (ak:Array MapEntry) (ag:Nat),v = .map (some b2)∧Gs ad true aR.bool false T W0 w' [om b2 ak ag] b2 ak ag y):=by
 refine en Tryz.func149 Tryz.ntmps149 hT fun a hS=>?_
 replace hS:=hS.fS (aB.dn bt)
 unfold lH at hM
 refine ai hS fun a hS=>?_
 refine kb hS fun c0 co a w hk hS=>?_
 refine ai hS fun a hS=>?_
 refine wl rfl (oN ad true aR.bool false hS rfl fun e cs a w hk hS=>?_)
 refine ai hS fun a hS=>?_
 refine wl rfl (aZ (ps:=[(0,.tmp 15)]) hS iq gM (zl:=[.int .i64 0,.string (ByteArray.mk #[])]) (by kernel_rfl) rfl (us:=[(aS u)]) ⟨rfl,trivial⟩ (ws:=(aS u)) rfl rfl rfl rfl fun c1 a w hk hS=>?_)
 refine ai hS fun a hS=>?_
 refine aI (J:=fun a w=>∃ (P:LO) (A:AM) (D:Nat),St W0 No T 57 [(7,.map (some e))] [om e A D] [rE A P] a w∧me P=some y) ?_ ?_
 ·skip
  refine ai hS fun a hS=>?_
  replace hS:=hS.lit (R:=ad) (us:=(aS u)) (xs:=[u]) 0 rfl (by decide) (aD.one_ (R:=ad) (x:=u) rfl) rfl rfl
  obtain ⟨r1,bq,hMo1⟩:=bd hM
  refine bB _ (fun s a w=>∃ (C:LO) (B:LK) (f:Int) (I:AM) (Y:Nat) (U:Value) (E:LV),(C,B,f)=s∧St W0 No T 57 [(0,q),(1,.int .i64 b),(7,.map (some e)),(8,U),(9,.int .i64 f)] [om e I Y,au U E] [aJ aa q l,rE I C,am ad E B] a w) bq ⟨_,_,_,_,_,_,_,rfl,hS.mt [1,0] [2,1,0]⟩ ?_
  rintro s a w f1 ⟨C,B,f,I,Y,U,E,rfl,hS⟩ hM hf1
  have hM:fU l b C B f=some f1:=hM
  unfold fU at hM
  refine aw ?_
  refine ai hS fun a hS=>?_
  rcases cd hM with ⟨ay,hM⟩ | ⟨ay,hM⟩
  ·refine ai hS fun a hS=>?_
   refine aI (J:=fun a w=>∃ (Q:LO) (N:LK) (K:AM) (Z:Nat) (V:Value) (F:LV),St W0 No T 57 [(0,q),(1,.int .i64 b),(7,.map (some e)),(8,V),(9,.int .i64 f)] [om e K Z,au V F] [aJ aa q l,rE K Q,am ad F N] a w∧jE f Q N=some f1) ?_ ?_
   ·skip
    refine ai hS fun a hS=>?_
    obtain ⟨a1,a5,hM⟩:=bd hM
    refine wl rfl (dI (R:=ad) hS nI fY rfl rfl 1 rfl 2 rfl a5 rfl fun c2 d2 d4 c9 az b0 b1 a hS=>?_)
    obtain rfl:=az
    refine qy hS (cg (k:=0) hS fY 1 rfl b0 b1 rfl id (us:=(aS a1)) rfl rfl (fun h=>by cases h)) fun a hS=>?_
    obtain ⟨n,a9,hM⟩:=bd hM
    refine kc hS kr (bF _ _ hS.dlt l a1 _ (hS.get 0 rfl) _ a9) fun _ w hR a hk hA=>?_
    obtain ⟨p,o,he,a3⟩:=hR
    obtain rfl:=he.symm
    have hS:=pd hA a3
    refine ai hS fun a hS=>?_
    refine ka hS fJ fun c3 d0 a w hk hS=>?_
    refine go hS fun a w hS=>?_
    obtain ⟨r2,bs,hMo2⟩:=bd hM
    refine bB _ (fun s a w=>∃ (m:LO) (j:LK) (g:Int) (t:AM) (G:Nat) (z:Value) (r:LV),(m,j,g)=s∧St W0 No T 57 [(0,q),(1,.int .i64 b),(7,.map (some e)),(8,z),(9,.int .i64 f),(33,p),(34,.int .i64 (n.1.Reads.length:Int)),(35,.int .i64 g)] [om e t G,au z r,au p o] [aJ aa q l,rE t m,am ad r j,am ad o n.1.Reads] a w) bs ⟨_,_,_,_,_,_,_,rfl,hS.mt [2,3,1] [1,2,3,0]⟩ ?_
    rintro s a w f2 ⟨m,j,g,t,G,z,r,rfl,hS⟩ hM hf2
    have hM:eU l b n m j g=some f2:=hM
    unfold eU at hM
    refine ai hS fun a hS=>?_
    refine aw ?_
    rcases cd hM with ⟨b3,hM⟩ | ⟨b3,hM⟩
    ·refine ai hS fun a hS=>?_
     refine aI (J:=fun a w=>∃ (S:LO) (O:LK) (L:AM) (a0:Nat) (W:Value) (H:LV),St W0 No T 57 [(0,q),(1,.int .i64 b),(7,.map (some e)),(8,W),(9,.int .i64 f),(33,p),(34,.int .i64 (n.1.Reads.length:Int)),(35,.int .i64 g)] [om e L a0,au W H,au p o] [aJ aa q l,rE L S,am ad H O,am ad o n.1.Reads] a w∧jF g S O=some f2) ?_ ?_
     ·skip
      refine ai hS fun a hS=>?_
      obtain ⟨d,a4,hM⟩:=bd hM
      refine wl rfl (dI (R:=ad) hS nI fY rfl rfl 2 rfl 3 rfl a4 rfl fun c4 d3 d6 ca b4 b5 b6 a hS=>?_)
      obtain rfl:=b4
      refine qy hS (cg (k:=0) hS fY 2 rfl b5 b6 rfl id (us:=(aS d)) rfl rfl (fun h=>by cases h)) fun a hS=>?_
      refine ka hS gM fun X d1 a w hk hS=>?_
      refine go hS fun a w hS=>?_
      refine aI (J:=fun a w=>∃ (M:Bool),St W0 No T 57 [(0,q),(1,.int .i64 b),(7,.map (some e)),(8,z),(9,.int .i64 f),(13,pt X 0),(33,p),(34,.int .i64 (n.1.Reads.length:Int)),(35,.int .i64 g),(48,.bool M)] [om e t G,au z r,au p o,.box X (aS d) 35] [aJ aa q l,rE t m,am ad r j,am ad o n.1.Reads] a w∧jG m j g d M=some f2) ?_ ?_
      ·skip
       refine ai hS fun a hS=>?_
       obtain ⟨dc,ab,hM⟩:=bd hM
       refine kc hS Eh (sH _ _ hS.dlt l b d _ (hS.get 0 rfl) _ ab) fun _ w hR a hk hA=>?_
       obtain rfl:=hR
       have hS:=bM hA
       refine ai hS fun a hS=>?_
       rcases cd hM with ⟨a2,hM⟩ | ⟨a2,hM⟩
       ·refine ai hS fun a hS=>?_
        obtain ⟨bl,af,hM⟩:=bd hM
        obtain ⟨cb,b8,b9⟩:=jT hS rD dE 1 rfl 1 rfl (c:=(aS d)) (key:=d) rfl Gn (zc:=[.bool false]) rfl rfl af
        obtain rfl:=b8
        refine wg hS rfl rfl rfl a2 (ky (v:=.bool bl) hS (b9 rfl rfl id) rfl rfl fun a hS=>?_)
        exact fz
       exact fz
      rintro a w ⟨M,hS,hM⟩
      unfold jG at hM
      rcases cd hM with ⟨bb,hM⟩ | ⟨bb,hM⟩
      ·refine ai hS fun a hS=>?_
       refine wl rfl (uW hS rD dE 0 rfl 1 rfl (c:=(aS d)) (cv:=[.bool true]) (key:=d) (val:=true) rfl rfl rfl rfl rfl fun cl ch w hk hS=>?_)
       refine ai hS fun a hS=>?_
       refine wl rfl (aZ (ps:=[(0,.tmp 52)]) hS iq gM (zl:=[.int .i64 0,.string (ByteArray.mk #[])]) (by kernel_rfl) rfl (us:=[(aS d)]) ⟨rfl,trivial⟩ (ws:=(aS d)) rfl rfl rfl rfl fun c5 a w hk hS=>?_)
       replace hS:=hS.lit (R:=ad) (us:=(aS d)) (xs:=[d]) 0 rfl (by decide) (aD.one_ (R:=ad) (x:=d) rfl) rfl rfl
       replace hS:=hS.freeze (R:=ad) 0 rfl 0 rfl
       obtain ⟨bi,hM⟩:=ba hM
       refine wl rfl (bC (R:=ad) (xs:=j) (ys:=[d]) hS iq (by decide) (by decide) rfl rfl 1 rfl 5 rfl 0 rfl bi rfl fun di ck a w hk hS=>?_)
       exact fz
      exact fz
     rintro a w ⟨S,O,L,a0,W,H,hS,hM⟩
     unfold jF at hM
     exact fz
    refine ai hS fun a hS=>?_
    cases hM
    have hr:=hf2 _ rfl
    subst hr
    have hM:jE f m j=some f1:=hMo2
    exact ⟨_,_,_,_,_,_,hS.mt [0,1] [0,1,2],hM⟩
   rintro a w ⟨Q,N,K,Z,V,F,hS,hM⟩
   unfold jE at hM
   exact fz
  exact fz
 rintro a w ⟨P,A,D,hS,hM⟩
 unfold me at hM
 refine ai hS fun a hS=>?_
 cases hM
 refine aF hS rfl (ar hS rfl aH) ?_
 exact ⟨e,A,D,rfl,hS.retMap ⟨.inr (List.mem_of_getElem? (i:=0) rfl),trivial⟩ 0 rfl 0 rfl⟩
def oT (b:LK):Option LK:=(iz b).bind fun c=>some (c)
def nz (b:Int) (c:LK):Option (Fl (LK×Int) (LK)):=some (.go (c,IntKind.i64.wrap (b + 1)))
def lF (b:LK) (d:Int) (c:al) (e:Bool):Option (Fl (LK×Int) (LK)):=cond e (gd (bG (b.length + ([c.Key]).length)) <| nz d (b ++ ([c.Key]))) (nz d b)
def lG (g:LR) (e:Int) (f:ae) (h:LO) (d:LK) (c:Int):Option (Fl (LK×Int) (LK)):=cond (decide ((c:Int) < (g.length:Int))) ((bm g c).bind fun b=>cond (!((b.Key.Kind:Int) == f.Kind && b.Key.Text.toList == f.Text.toList)) ((some ((bH aA b.Key h).getD false)).bind fun i=>cond i ((lH g e b.Key).bind fun j=>(some ((bH aA f j).getD false)).bind fun k=>lF d c b k) (lF d c b false)) (lF d c b false)) (some (.out d))
def kK (d:LR) (b:Int) (c:ae):Option LK:=(mN d b c).bind fun f=>cond (!(f)) (some ([c])) ((lH d b c).bind fun e=>(loop (fun s:LK×Int=>lG d b c e s.1 s.2) ([c],0)).bind fun r=>oT r)
theorem pV (T:Nat→Prop) (W0:World) (hT:TW T W0) (hLv:c6 T W0) (f:LR) (b:Int) (d:ae) (o:Value) (b6:aB aa T W0 o f) (y:LK) (hM:kK f b d=some y):aY Tryz.prog No 130 [o,.int .i64 b,.agg (aS d).toArray] W0 (fun v w'=>∃ (v2:Value) (oW:List Value),v=v2∧iy ad T W0 w' [au v2 oW] 35 v2 oW y):=by
 refine en Tryz.func130 Tryz.ntmps130 hT fun a hS=>?_
 replace hS:=hS.fact bu (c6.dn hLv)
 replace hS:=hS.fS (aB.dn b6)
 unfold kK at hM
 refine ai hS fun a hS=>?_
 refine kb hS fun m bt a w hk hS=>?_
 refine ai hS fun a hS=>?_
 refine aw ?_
 refine ai hS fun a hS=>?_
 obtain ⟨c4,a2,hM⟩:=bd hM
 refine kc hS Eh (sH _ _ hS.dlt f b d _ (hS.get 0 rfl) _ a2) fun _ w hR a hk hA=>?_
 obtain rfl:=hR
 have hS:=bM hA
 refine ai hS fun a hS=>?_
 rcases cd hM with ⟨ag,hM⟩ | ⟨ag,hM⟩
 ·refine ai hS fun a hS=>?_
  refine wl rfl (aZ (ps:=[(0,.tmp 16)]) hS iq gM (zl:=[.int .i64 0,.string (ByteArray.mk #[])]) (by kernel_rfl) rfl (us:=[(aS d)]) ⟨rfl,trivial⟩ (ws:=(aS d)) rfl rfl rfl rfl fun a4 a w hk hS=>?_)
  refine ai hS fun a hS=>?_
  replace hS:=hS.lit (R:=ad) (us:=(aS d)) (xs:=[d]) 0 rfl (by decide) (aD.one_ (R:=ad) (x:=d) rfl) rfl rfl
  cases hM
  refine aF hS rfl (ar hS rfl aH) ?_
  exact ⟨(.slice (some ⟨a4,0,none⟩) 1 1),(aS d),rfl,hS.retOwn ⟨.inr (List.mem_of_getElem? (i:=0) rfl),trivial⟩ 0 rfl 0 rfl⟩
 refine ai hS fun a hS=>?_
 refine wl rfl (aZ (ps:=[(0,.tmp 18)]) hS iq gM (zl:=[.int .i64 0,.string (ByteArray.mk #[])]) (by kernel_rfl) rfl (us:=[(aS d)]) ⟨rfl,trivial⟩ (ws:=(aS d)) rfl rfl rfl rfl fun b8 a w hk hS=>?_)
 refine ai hS fun a hS=>?_
 obtain ⟨t,Y,hM⟩:=bd hM
 refine kc hS Ei (rJ _ _ hS.dlt f b d _ (hS.get 0 rfl) _ Y) fun _ w hR a hk hA=>?_
 obtain ⟨h,j,q,he,⟨M,I,P⟩⟩:=hR
 obtain rfl:=he.symm
 have hS:=hA [om h j q] (gS M (zU I)) (s4 _)
 replace hS:=hS.fM (P.keep (Kt.refl _ _) (jk _))
 refine ai hS fun a hS=>?_
 refine aI (J:=fun a w=>∃ (r:LK) (D:Value) (u:LV),St W0 No T 57 [(7,D)] [au D u] [am ad u r,bu] a w∧oT r=some y) ?_ ?_
 ·skip
  refine ai hS fun a hS=>?_
  replace hS:=hS.lit (R:=ad) (us:=(aS d)) (xs:=[d]) 1 rfl (by decide) (aD.one_ (R:=ad) (x:=d) rfl) rfl rfl
  obtain ⟨r1,b5,hMo1⟩:=bd hM
  refine bB _ (fun s a w=>∃ (k:LK) (g:Int) (p:Value) (n:LV),(k,g)=s∧St W0 No T 57 [(0,o),(1,.int .i64 b),(5,pt m 0),(7,p),(8,.map (some h)),(24,o),(25,.int .i64 (f.length:Int)),(26,.int .i64 g)] [au p n,om h j q,.box m (aS d) 35] [aJ aa o f,am ad n k,rE j t,bu] a w) b5 ⟨_,_,_,_,rfl,hS.mt [1,0,2] [2,0,1,3]⟩ ?_
  rintro s a w f1 ⟨k,g,p,n,rfl,hS⟩ hM hf1
  have hM:lG f b d t k g=some f1:=hM
  unfold lG at hM
  refine ai hS fun a hS=>?_
  refine aw ?_
  rcases cd hM with ⟨ak,hM⟩ | ⟨ak,hM⟩
  ·refine ai hS fun a hS=>?_
   refine aI (J:=fun a w=>∃ (C:LK) (E:Value) (z:LV),St W0 No T 57 [(0,o),(1,.int .i64 b),(5,pt m 0),(7,E),(8,.map (some h)),(24,o),(25,.int .i64 (f.length:Int)),(26,.int .i64 g)] [au E z,om h j q,.box m (aS d) 35] [aJ aa o f,am ad z C,rE j t,bu] a w∧nz g C=some f1) ?_ ?_
   ·skip
    refine ai hS fun a hS=>?_
    obtain ⟨e,W,hM⟩:=bd hM
    refine wl rfl (bf (R:=aa) hS nH kQ rfl rfl 0 rfl W rfl fun b9 c1 bi ao a hS=>?_)
    obtain ⟨U,rfl,a3⟩:=ao
    replace hS:=hS.fS a3
    refine ai hS fun a hS=>?_
    refine ka hS fJ fun F c0 a w hk hS=>?_
    refine go hS fun a w hS=>?_
    refine aI (J:=fun a w=>∃ (A:Bool),St W0 No T 57 [(0,o),(1,.int .i64 b),(5,pt m 0),(7,p),(8,.map (some h)),(10,pt F 0),(24,o),(25,.int .i64 (f.length:Int)),(26,.int .i64 g),(48,.bool A)] [au p n,om h j q,.box m (aS d) 35,.box F (aX e U) 77] [aJ aa o f,am ad n k,rE j t,aJ ad U e.Reads,bu] a w∧lF k g e A=some f1) ?_ ?_
    ·skip
     refine dr [] hS fun w hQ hS=>?_
     refine gE [0,1,2] hS fun a hS=>?_
     refine dy 3 (v:=.bool (!((e.Key.Kind:Int) == d.Kind && e.Key.Text.toList == d.Text.toList))) rfl (by kernel_rfl) (by kernel_rfl) (by kernel_rfl) rfl hQ hS (wh hS rfl rfl) rfl rfl rfl fun a hS=>?_
     refine gE [4] hS fun a hS=>?_
     rcases cd hM with ⟨H,hM⟩ | ⟨H,hM⟩
     ·refine gE [5,6,7] hS fun a hS=>?_
      obtain ⟨b2,Z,hM⟩:=bd hM
      obtain ⟨bl,av,ax⟩:=jT hS rD dE 2 rfl 4 rfl (c:=(aS e.Key)) (key:=e.Key) rfl Gn (zc:=[.bool false]) rfl rfl Z
      obtain rfl:=av
      refine we (l:=[]) 8 (v:=.bool b2) rfl (by kernel_rfl) (by kernel_rfl) (by kernel_rfl) (by kernel_rfl) hQ hS (ax rfl rfl bE) rfl rfl rfl H rfl rfl fun a hS=>?_
      refine gE [9,10] hS fun a hS=>?_
      rcases cd hM with ⟨B,hM⟩ | ⟨B,hM⟩
      ·refine gE [11,12,13,14,16] hS fun a hS=>?_
       obtain ⟨c3,a0,hM⟩:=bd hM
       refine bV (i:=15) rfl (by kernel_rfl) hS rfl rfl rfl B (a7 hS Ei rfl rfl (rJ _ _ hS.dlt f b e.Key _ (hS.get 2 rfl) _ a0) fun _ w hR a hk hA=>⟨fx (hk),?_⟩)
       obtain ⟨a5,ab,a9,he,⟨N,K,Q⟩⟩:=hR
       obtain rfl:=he.symm
       have hS:=hA [om a5 ab a9] (gS N (zU K)) (s4 _)
       replace hS:=hS.fM (Q.keep (Kt.refl _ _) (jk _))
       obtain ⟨b3,a1,hM⟩:=bd hM
       obtain ⟨bq,ay,az⟩:=jT hS rD dE 0 rfl 0 rfl (c:=(aS d)) (key:=d) rfl Gn (zc:=[.bool false]) rfl rfl a1
       obtain rfl:=ay
       refine we (l:=[]) 17 (v:=.bool b3) rfl (by kernel_rfl) (by kernel_rfl) (by kernel_rfl) (by kernel_rfl) hQ hS (az rfl rfl bE) rfl rfl rfl B rfl rfl fun a hS=>?_
       refine gE [18] hS fun a hS=>?_
       refine eD ?_
       exact ⟨_,hS.mt [2,3,4,1] [3,4,5,1,6],hM⟩
      refine gE [11,12,13,14,15,16,17,18] hS fun a hS=>?_
      refine eD ?_
      exact ⟨_,hS.mt [1,2,3,0] [2,3,4,0,5],hM⟩
     refine gE [5,6,7,8,9,10,11,12,13,14,15,16,17,18] hS fun a hS=>?_
     refine eD ?_
     exact ⟨_,hS.mt [1,2,3,0] [2,3,4,0,5],hM⟩
    rintro a w ⟨A,hS,hM⟩
    unfold lF at hM
    rcases cd hM with ⟨b0,hM⟩ | ⟨b0,hM⟩
    ·refine ai hS fun a hS=>?_
     refine wl rfl (aZ (ps:=[(0,.tmp 51)]) hS iq gM (zl:=[.int .i64 0,.string (ByteArray.mk #[])]) (by kernel_rfl) rfl (us:=[(aS e.Key)]) ⟨rfl,trivial⟩ (ws:=(aS e.Key)) rfl rfl rfl rfl fun bb a w hk hS=>?_)
     replace hS:=hS.lit (R:=ad) (us:=(aS e.Key)) (xs:=[e.Key]) 0 rfl (by decide) (aD.one_ (R:=ad) (x:=e.Key) rfl) rfl rfl
     replace hS:=hS.freeze (R:=ad) 0 rfl 0 rfl
     obtain ⟨b1,hM⟩:=ba hM
     refine wl rfl (bC (R:=ad) (xs:=k) (ys:=[e.Key]) hS iq (by decide) (by decide) rfl rfl 0 rfl 3 rfl 0 rfl b1 rfl fun c5 bs a w hk hS=>?_)
     exact fz
    exact fz
   rintro a w ⟨C,E,z,hS,hM⟩
   unfold nz at hM
   exact fz
  exact fz
 rintro a w ⟨r,D,u,hS,hM⟩
 unfold oT at hM
 refine ai hS fun a hS=>?_
 have hL:=hS
 replace hL:=hL.freeze (R:=ad) 0 rfl 0 rfl
 obtain ⟨c2,X,hM⟩:=bd hM
 refine kc hS G4 (qB _ _ hL.dlt (hL.get 2 rfl) r _ (hL.get 0 rfl) _ X) fun _ w hR a hk hA=>?_
 obtain ⟨V,G,he,⟨O,L,S⟩⟩:=hR
 obtain rfl:=he.symm
 have hS:=hA [au V G] (gS ⟨O,by decide⟩ L) (s4 _)
 replace hS:=hS.fR S
 refine ai hS fun a hS=>?_
 cases hM
 refine aF hS rfl (ar hS rfl aH) ?_
 exact ⟨V,G,rfl,hS.retOwn ⟨.inr (List.mem_of_getElem? (i:=0) rfl),trivial⟩ 0 rfl 0 rfl⟩
end
end
section
set_option maxRecDepth 100000
set_option maxHeartbeats 4000000
open Go.RowKit
noncomputable section
def km:Option Bool:=some (true)
def bO (e:LO) (c:Int) (b:bc) (d:Bool):Option (Fl (LO×Int) (Fl (Unit) Bool)):=cond d (some (.out (.out false))) (some (.go ((cX aA b.Key true e),IntKind.i64.wrap (c + 1))))
def fg (e:ah) (d:LO) (c:Int) (b:bc) (g:(al×Bool)) (f:Bool):Option (Fl (LO×Int) (Fl (Unit) Bool)):=cond b.Running (cond ((b.At:Int) != 0) (bO d c b true) (bO d c b false)) (cond (!(g.2)) (cond ((b.At:Int) != 0) (bO d c b true) (cond (decide ((0:Int) < (b.Reads.length:Int))) (bO d c b true) (cond f ((kK e.Records e.Revision b.Key).bind fun h=>(gA e.Records h).bind fun i=>bO d c b (decide (((i.length:Int):Int) < b.At))) (bO d c b false)))) (cond (decide ((0:Int) < (b.Reads.length:Int))) (bO d c b true) (cond f ((kK e.Records e.Revision b.Key).bind fun j=>(gA e.Records j).bind fun k=>bO d c b (decide (((k.length:Int):Int) < b.At))) (bO d c b false))))
def ko (g:LU) (f:ah) (h:LF) (e:LO) (d:Int):Option (Fl (LO×Int) (Fl (Unit) Bool)):=cond (decide ((d:Int) < (h.length:Int))) ((bm h d).bind fun b=>(some ((bH aA b.Key e).getD false)).bind fun i=>cond i (some (.out (.out false))) ((ci b.Key).bind fun j=>cond j (some (.out (.out false))) ((lE g b.Key).bind fun k=>cond (!(k)) (some (.out (.out false))) (cond (((b.Reads.length:Int):Int) != (b.Answers.length:Int)) (some (.out (.out false))) (cond (decide ((b.At:Int) < 0)) (some (.out (.out false))) ((cr f.Records b.Key).bind fun c=>cond c.2 (cond (!(c.1.Dirty)) (fg f e d b c (decide ((c.1.Verified:Int) < f.Revision))) (fg f e d b c false)) (fg f e d b c false))))))) (some (.out (.go ())))
def ig (b:LU) (c:ah) (d:LF):Option Bool:=(loop (fun s:LO×Int=>ko b c d s.1 s.2) (([]:LO),0)).bind fun r=>Fl.el r (fun s=>km) (fun y=>some (y))
theorem rZ (T:Nat→Prop) (W0:World) (hT:TW T W0) (hLv:c6 T W0) (e:LU) (b:ah) (h:LF) (m:Value) (n:Value) (o:Value) (p:Value) (bi:aB aq T W0 m e) (bl:aB ac T W0 n b.Inputs) (bq:aB aa T W0 o b.Records) (bs:aB an T W0 p h) (y:Bool) (hM:ig e b h=some y):aY Tryz.prog No 109 [m,.agg (aO b n o).toArray,p] W0 (fun v w'=>v = .bool y):=by
 refine en Tryz.func109 Tryz.ntmps109 hT fun a hS=>?_
 replace hS:=hS.fact bu (c6.dn hLv)
 replace hS:=hS.fS (aB.dn bi)
 replace hS:=hS.fS (aB.dn bl)
 replace hS:=hS.fS (aB.dn bq)
 replace hS:=hS.fS (aB.dn bs)
 unfold ig at hM
 refine ai hS fun a hS=>?_
 refine kb hS fun j c9 a w hk hS=>?_
 refine ai hS fun a hS=>?_
 refine wl rfl (oN ad true aR.bool false hS rfl fun k ca a w hk hS=>?_)
 refine ai hS fun a hS=>?_
 refine aI (J:=fun a w=>St W0 No T 121 [] [] [bu] a w∧km=some y) ?_ ?_
 ·skip
  refine ai hS fun a hS=>?_
  obtain ⟨r1,bb,hMo1⟩:=bd hM
  refine bB _ (fun s a w=>∃ (g:LO) (f:Int) (q:AM) (A:Nat),(g,f)=s∧St W0 No T 121 [(0,m),(4,pt j 0),(7,.map (some k)),(14,p),(15,.int .i64 (h.length:Int)),(16,.int .i64 f)] [om k q A,.box j (aO b n o) 31] [aJ aq m e,rE q g,aJ an p h,aJ ac n b.Inputs,aJ aa o b.Records,bu] a w) bb ⟨_,_,_,_,rfl,hS.mt [0,1] [4,0,1,3,2,5]⟩ ?_
  rintro s a w f1 ⟨g,f,q,A,rfl,hS⟩ hM hf1
  have hM:ko e b h g f=some f1:=hM
  unfold ko at hM
  refine ai hS fun a hS=>?_
  refine aw ?_
  rcases cd hM with ⟨ab,hM⟩ | ⟨ab,hM⟩
  ·refine ai hS fun a hS=>?_
   refine aw ?_
   refine ai hS fun a hS=>?_
   obtain ⟨d,S,hM⟩:=bd hM
   refine wl rfl (bf (R:=an) hS vn qM rfl rfl 2 rfl S rfl fun bt ck c1 af a hS=>?_)
   obtain ⟨P,Q,rfl,a2,a3⟩:=af
   replace hS:=hS.fS a2
   replace hS:=hS.fS a3
   refine ai hS fun a hS=>?_
   refine ka hS pE fun z cb a w hk hS=>?_
   refine go hS fun a w hS=>?_
   refine aw ?_
   refine jO ?_
   refine ai hS fun a hS=>?_
   obtain ⟨b6,Z,hM⟩:=bd hM
   obtain ⟨c2,ag,ak⟩:=jT hS rD dE 1 rfl 4 rfl (c:=(aS d.Key)) (key:=d.Key) rfl Gn (zc:=[.bool false]) rfl rfl Z
   obtain rfl:=ag
   refine wl rfl (ky (v:=.bool b6) hS (ak rfl rfl id) rfl rfl fun a hS=>?_)
   refine ai hS fun a hS=>?_
   rcases cd hM with ⟨C,hM⟩ | ⟨C,hM⟩
   ·exact fz
   refine ai hS fun a hS=>?_
   obtain ⟨cs,a0,hM⟩:=bd hM
   refine wg hS rfl rfl rfl C (a7 hS uD rfl rfl (dt _ _ hS.dlt d.Key _ a0) fun _ w hR a hk hA=>?_)
   obtain rfl:=hR
   have hS:=bM hA
   refine ai hS fun a hS=>?_
   rcases cd hM with ⟨D,hM⟩ | ⟨D,hM⟩
   ·exact fz
   refine ai hS fun a hS=>?_
   obtain ⟨d0,a1,hM⟩:=bd hM
   refine wg hS rfl rfl rfl D (a7 hS D7 rfl rfl (rI _ _ hS.dlt (hS.get 8 rfl) e d.Key _ (hS.get 3 rfl) _ a1) fun _ w hR a hk hA=>?_)
   obtain rfl:=hR
   have hS:=bM hA
   refine ai hS fun a hS=>?_
   rcases cd hM with ⟨ao,hM⟩ | ⟨ao,hM⟩
   ·exact fz
   refine ai hS fun a hS=>?_
   rcases cd hM with ⟨av,hM⟩ | ⟨av,hM⟩
   ·exact fz
   refine ai hS fun a hS=>?_
   rcases cd hM with ⟨ax,hM⟩ | ⟨ax,hM⟩
   ·exact fz
   refine ai hS fun a hS=>?_
   refine wl rfl (uW hS rD dE 1 rfl 4 rfl (c:=(aS d.Key)) (cv:=[.bool true]) (key:=d.Key) (val:=true) rfl rfl rfl rfl rfl fun l B w hk hS=>?_)
   refine ai hS fun a hS=>?_
   obtain ⟨O,U,hM⟩:=bd hM
   refine kc hS kr (bF _ _ hS.dlt b.Records d.Key _ (hS.get 8 rfl) _ U) fun _ w hR a hk hA=>?_
   obtain ⟨d1,c3,he,I⟩:=hR
   obtain rfl:=he.symm
   have hS:=pd hA I
   refine ai hS fun a hS=>?_
   refine ka hS fJ fun c0 ch a w hk hS=>?_
   refine go hS fun a w hS=>?_
   refine aI (J:=fun a w=>∃ (x:Bool),St W0 No T 121 [(0,m),(4,pt j 0),(7,.map (some k)),(9,pt z 0),(11,.bool O.2),(12,.bool x),(14,p),(15,.int .i64 (h.length:Int)),(16,.int .i64 f)] [om k l B,.box j (aO b n o) 31,.box z (kj d P Q) 122] [aJ aq m e,rE l (cX aA d.Key true g),aJ an p h,aJ ac n b.Inputs,aJ aa o b.Records,aJ ad P d.Reads,aJ aR.str Q d.Answers,bu] a w∧fg b g f d O x=some f1) ?_ ?_
   ·exact fz
   rintro a w ⟨x,hS,hM⟩
   unfold fg at hM
   refine aI (J:=fun a w=>∃ (r:Bool),St W0 No T 121 [(0,m),(4,pt j 0),(7,.map (some k)),(14,p),(15,.int .i64 (h.length:Int)),(16,.int .i64 f),(119,.bool r)] [om k l B,.box j (aO b n o) 31] [aJ aq m e,rE l (cX aA d.Key true g),aJ an p h,aJ ac n b.Inputs,aJ aa o b.Records,bu] a w∧bO g f d r=some f1) ?_ ?_
   ·skip
    refine dr [] hS fun w hQ hS=>?_
    refine gE [0,1,2] hS fun a hS=>?_
    rcases cd hM with ⟨ay,hM⟩ | ⟨ay,hM⟩
    ·refine gE [3,4,5,6,7,8,9,10,11] hS fun a hS=>?_
     rcases cd hM with ⟨az,hM⟩ | ⟨az,hM⟩
     ·refine gE [12,13,14,15,16,17,18,19,20,21,22,23,24,25,26,27,28,29,30,31,32,33,34,35,36,37,38,39,40,41,42,43,44,45] hS fun a hS=>?_
      refine eD ?_
      exact ⟨_,hS.mt [0,1] [0,1,2,3,4,7],hM⟩
     refine gE [12,13,14,15,16,17,18,19,20,21,22,23,24,25,26,27,28,29,30,31,32,33,34,35,36,37,38,39,40,41,42,43,44,45] hS fun a hS=>?_
     refine eD ?_
     exact ⟨_,hS.mt [0,1] [0,1,2,3,4,7],hM⟩
    refine gE [3,4,5,6] hS fun a hS=>?_
    rcases cd hM with ⟨b0,hM⟩ | ⟨b0,hM⟩
    ·refine gE [7,8,9,10,11] hS fun a hS=>?_
     rcases cd hM with ⟨b1,hM⟩ | ⟨b1,hM⟩
     ·refine gE [12,13,14,15,16,17,18,19,20,21,22,23,24,25,26,27,28,29,30,31,32,33,34,35,36,37,38,39,40,41,42,43,44,45] hS fun a hS=>?_
      refine eD ?_
      exact ⟨_,hS.mt [0,1] [0,1,2,3,4,7],hM⟩
     refine gE [12,13,14,15,16,17,18,19,20,21,22] hS fun a hS=>?_
     rcases cd hM with ⟨b2,hM⟩ | ⟨b2,hM⟩
     ·refine gE [23,24,25,26,27,28,29,30,31,32,33,34,35,36,37,38,39,40,41,42,43,44,45] hS fun a hS=>?_
      refine eD ?_
      exact ⟨_,hS.mt [0,1] [0,1,2,3,4,7],hM⟩
     refine gE [23,24,25,26,27,28,29] hS fun a hS=>?_
     rcases cd hM with ⟨t,hM⟩ | ⟨t,hM⟩
     ·refine gE [30,31,32,33,34,35,36,37,38,39] hS fun a hS=>?_
      obtain ⟨b4,V,hM⟩:=bd hM
      refine bV (i:=40) rfl (by kernel_rfl) hS rfl rfl rfl t (a7 hS zG rfl rfl (pV _ _ hS.dlt (hS.get 7 rfl) b.Records b.Revision d.Key _ (hS.get 4 rfl) _ V) fun _ w hR a hk hA=>⟨fx (hk),?_⟩)
      obtain ⟨d2,c4,he,K⟩:=hR
      obtain rfl:=he.symm
      have hS:=pd hA K
      have hL:=hS
      replace hL:=hL.freeze (R:=ad) 0 rfl 0 rfl
      obtain ⟨cl,W,hM⟩:=bd hM
      refine bV (i:=41) rfl (by kernel_rfl) hS rfl rfl rfl t (a7 hS zF rfl rfl (mc _ _ hL.dlt b.Records b4 _ _ (hL.get 6 rfl) (hL.get 0 rfl) _ W) fun _ w hR a hk hA=>⟨fx (hk),?_⟩)
      obtain ⟨b8,a4,he,⟨G,E,L⟩⟩:=hR
      obtain rfl:=he.symm
      have hS:=hA [kT b8 a4] (gS ⟨G,by decide⟩ E) (s4 _)
      replace hS:=hS.fR L
      refine gE [42,43,44,45] hS fun a hS=>?_
      refine eD ?_
      exact ⟨_,hS.mt [2,3] [2,3,4,5,6,9],hM⟩
     refine gE [30,31,32,33,34,35,36,37,38,39,40,41,42,43,44,45] hS fun a hS=>?_
     refine eD ?_
     exact ⟨_,hS.mt [0,1] [0,1,2,3,4,7],hM⟩
    refine gE [7,8,9,10,11,12,13,14,15,16,17,18,19,20,21,22] hS fun a hS=>?_
    rcases cd hM with ⟨b3,hM⟩ | ⟨b3,hM⟩
    ·refine gE [23,24,25,26,27,28,29,30,31,32,33,34,35,36,37,38,39,40,41,42,43,44,45] hS fun a hS=>?_
     refine eD ?_
     exact ⟨_,hS.mt [0,1] [0,1,2,3,4,7],hM⟩
    refine gE [23,24,25,26,27,28,29] hS fun a hS=>?_
    rcases cd hM with ⟨u,hM⟩ | ⟨u,hM⟩
    ·refine gE [30,31,32,33,34,35,36,37,38,39] hS fun a hS=>?_
     obtain ⟨b5,X,hM⟩:=bd hM
     refine bV (i:=40) rfl (by kernel_rfl) hS rfl rfl rfl u (a7 hS zG rfl rfl (pV _ _ hS.dlt (hS.get 7 rfl) b.Records b.Revision d.Key _ (hS.get 4 rfl) _ X) fun _ w hR a hk hA=>⟨fx (hk),?_⟩)
     obtain ⟨d3,c5,he,M⟩:=hR
     obtain rfl:=he.symm
     have hS:=pd hA M
     have hL:=hS
     replace hL:=hL.freeze (R:=ad) 0 rfl 0 rfl
     obtain ⟨co,Y,hM⟩:=bd hM
     refine bV (i:=41) rfl (by kernel_rfl) hS rfl rfl rfl u (a7 hS zF rfl rfl (mc _ _ hL.dlt b.Records b5 _ _ (hL.get 6 rfl) (hL.get 0 rfl) _ Y) fun _ w hR a hk hA=>⟨fx (hk),?_⟩)
     obtain ⟨b9,a5,he,⟨H,F,N⟩⟩:=hR
     obtain rfl:=he.symm
     have hS:=hA [kT b9 a5] (gS ⟨H,by decide⟩ F) (s4 _)
     replace hS:=hS.fR N
     refine gE [42,43,44,45] hS fun a hS=>?_
     refine eD ?_
     exact ⟨_,hS.mt [2,3] [2,3,4,5,6,9],hM⟩
    refine gE [30,31,32,33,34,35,36,37,38,39,40,41,42,43,44,45] hS fun a hS=>?_
    refine eD ?_
    exact ⟨_,hS.mt [0,1] [0,1,2,3,4,7],hM⟩
   rintro a w ⟨r,hS,hM⟩
   unfold bO at hM
   exact fz
  exact fz
 rintro a w ⟨hS,hM⟩
 unfold km at hM
 exact fz
def mh (b:Bool):Option Bool:=some (b)
def nB (b:cJ):Option Bool:=(jH b.Rules b.Base b.Goals).bind fun c=>cond ((c:Int) == 0) ((ig b.Rules b.Base b.Stack).bind fun d=>mh d) (mh false)
theorem vN (T:Nat→Prop) (W0:World) (hT:TW T W0) (hLv:c6 T W0) (b:cJ) (m:Value) (n:Value) (o:Value) (p:Value) (q:Value) (r:Value) (g:aB aq T W0 m b.Rules) (h:aB ac T W0 n b.Base.Inputs) (i:aB aa T W0 o b.Base.Records) (j:aB ad T W0 p b.Goals) (k:aB an T W0 q b.Stack) (l:aB ad T W0 r b.Ran) (y:Bool) (hM:nB b=some y):aY Tryz.prog No 78 [.agg (rx b m n o p q r).toArray] W0 (fun v w'=>v = .bool y):=by
 refine en Tryz.func78 Tryz.ntmps78 hT fun a hS=>?_
 replace hS:=hS.fact bu (c6.dn hLv)
 replace hS:=hS.fS (aB.dn g)
 replace hS:=hS.fS (aB.dn h)
 replace hS:=hS.fS (aB.dn i)
 replace hS:=hS.fS (aB.dn j)
 replace hS:=hS.fS (aB.dn k)
 replace hS:=hS.fS (aB.dn l)
 unfold nB at hM
 refine ai hS fun a hS=>?_
 refine kb hS fun s t a w hk hS=>?_
 refine ai hS fun a hS=>?_
 refine aI (J:=fun a w=>∃ (c:Bool),St W0 No T 20 [(2,.bool c)] [] [bu] a w∧mh c=some y) ?_ ?_
 ·skip
  refine ai hS fun a hS=>?_
  obtain ⟨u,e,hM⟩:=bd hM
  refine kc hS ER (o7 _ _ hS.dlt (hS.get 6 rfl) b.Rules b.Base b.Goals _ _ _ _ (hS.get 5 rfl) (hS.get 4 rfl) (hS.get 3 rfl) (hS.get 2 rfl) _ e) fun _ w hR a hk hA=>?_
  obtain rfl:=hR
  have hS:=bM hA
  refine ai hS fun a hS=>?_
  rcases cd hM with ⟨d,hM⟩ | ⟨d,hM⟩
  ·refine ai hS fun a hS=>?_
   obtain ⟨x,f,hM⟩:=bd hM
   refine wg hS rfl rfl rfl d (a7 hS GA rfl rfl (rZ _ _ hS.dlt (hS.get 6 rfl) b.Rules b.Base b.Stack _ _ _ _ (hS.get 5 rfl) (hS.get 4 rfl) (hS.get 3 rfl) (hS.get 1 rfl) _ f) fun _ w hR a hk hA=>?_)
   obtain rfl:=hR
   have hS:=bM hA
   exact fz
  exact fz
 rintro a w ⟨c,hS,hM⟩
 unfold mh at hM
 exact fz
def qZ (b:LU) (c:ah):Option aj:=some ((aj.mk b c ([]:LB) ([]:LL)))
theorem qD (T:Nat→Prop) (W0:World) (hT:TW T W0) (k:LU) (j:ah) (q:Value) (r:Value) (s:Value) (hD:vB T W0 []) (u:aB aq (dT T []) W0 q k) (x:aB ac (dT T []) W0 r j.Inputs) (z:aB aa (dT T []) W0 s j.Records) (y:aj) (hM:qZ k j=some y):aY Tryz.prog (MD []) 79 [q,.agg (aO j r s).toArray] W0 (fun v w'=>∃ (d:Nat) (n:Value) (o:Value) (p:Value) (h:Nat) (i:Array MapEntry) (f:Nat) (b:Nat) (e:Array MapEntry) (g:Nat),v=pt d 0∧aB aq (dT T [xS d n y.Base.Revision o p h b,om h i f,om b e g]) w' n y.Rules∧aB ac (dT T [xS d n y.Base.Revision o p h b,om h i f,om b e g]) w' o y.Base.Inputs∧aB aa (dT T [xS d n y.Base.Revision o p h b,om h i f,om b e g]) w' p y.Base.Records∧bw ad true aR.str false (dT T [xS d n y.Base.Revision o p h b,om h i f,om b e g]) w' i y.Memo∧bw ad true (aR.slice ad) false (dT T [xS d n y.Base.Revision o p h b,om h i f,om b e g]) w' e y.Seen∧n8 W0 w' [] [xS d n y.Base.Revision o p h b,om h i f,om b e g]):=by
 refine kk (c:=_) Tryz.func79 rfl T 11 Tryz.ntmps79 hT rfl hD fun a hS=>?_
 replace hS:=hS.fS u
 replace hS:=hS.fS x
 replace hS:=hS.fS z
 unfold qZ at hM
 refine ai hS fun a hS=>?_
 refine kb hS fun A B a w hk hS=>?_
 refine ai hS fun a hS=>?_
 refine wl rfl (oN ad true aR.str false hS rfl fun l C a w hk hS=>?_)
 refine wl rfl (oN ad true (aR.slice ad) false hS rfl fun m D a w hk hS=>?_)
 refine qy hS (br (ps:=[(0,.tmp 5),(1,.tmp 6),(2,.tmp 7),(3,.tmp 8)]) hS Ho HO rfl (us:=[[q],(aO j r s),[.map (some l)],[.map (some m)]]) ⟨(lO (aB.one ((hS.get 4 rfl):aB aq _ _ _ _))),⟨rfl,⟨rfl,⟨rfl,trivial⟩⟩⟩⟩ (ws:=[q,.int .i64 j.Revision,r,s,.map (some l),.map (some m)]) rfl) fun a hS=>?_
 refine kb hS fun t E a w hk hS=>?_
 refine ai hS fun a hS=>?_
 cases hM
 refine aF hS rfl (ar hS rfl aH) ?_
 have hZ:=hS.sl [0,2,1] [4,3,2,1,0]
 exact ⟨t,q,r,s,l,#[],0,m,#[],0,rfl,(hZ.get 0 rfl),(hZ.get 1 rfl),(hZ.get 2 rfl),(hZ.get 3 rfl),(hZ.get 4 rfl),hZ.dnew⟩
def qK:Option Bool:=some (false)
def oU (e:LF) (d:ae) (b:Int):Option (Fl (Int) (Fl (Unit) Bool)):=cond (decide ((b:Int) < (e.length:Int))) ((bm e b).bind fun c=>cond ((c.Key.Kind:Int) == d.Kind && c.Key.Text.toList == d.Text.toList) (some (.out (.out true))) (some (.go (IntKind.i64.wrap (b + 1))))) (some (.out (.go ())))
def oD (c:LF) (b:ae):Option Bool:=(loop (fun s:Int=>oU c b s) 0).bind fun r=>Fl.el r (fun s=>qK) (fun y=>some (y))
theorem rY (T:Nat→Prop) (W0:World) (hT:TW T W0) (d:LF) (b:ae) (j:Value) (n:aB an T W0 j d) (y:Bool) (hM:oD d b=some y):aY Tryz.prog No 131 [j,.agg (aS b).toArray] W0 (fun v w'=>v = .bool y):=by
 refine en Tryz.func131 Tryz.ntmps131 hT fun a hS=>?_
 replace hS:=hS.fS (aB.dn n)
 unfold oD at hM
 refine ai hS fun a hS=>?_
 refine kb hS fun e t a w hk hS=>?_
 refine ai hS fun a hS=>?_
 refine aI (J:=fun a w=>St W0 No T 18 [] [] [] a w∧qK=some y) ?_ ?_
 ·skip
  refine ai hS fun a hS=>?_
  obtain ⟨B,m,hMo1⟩:=bd hM
  refine bB _ (fun s a w=>∃ (c:Int),c=s∧St W0 No T 18 [(3,pt e 0),(7,j),(8,.int .i64 (d.length:Int)),(9,.int .i64 c)] [.box e (aS b) 35] [aJ an j d] a w) m ⟨_,rfl,hS.mt [0] [0]⟩ ?_
  rintro s a w r ⟨c,rfl,hS⟩ hM hf1
  have hM:oU d b c=some r:=hM
  unfold oU at hM
  refine ai hS fun a hS=>?_
  refine aw ?_
  rcases cd hM with ⟨k,hM⟩ | ⟨k,hM⟩
  ·refine ai hS fun a hS=>?_
   refine aw ?_
   refine ai hS fun a hS=>?_
   obtain ⟨f,g,hM⟩:=bd hM
   refine wl rfl (bf (R:=an) hS vn qM rfl rfl 0 rfl g rfl fun o x q l a hS=>?_)
   obtain ⟨z,A,rfl,h,i⟩:=l
   replace hS:=hS.fS h
   replace hS:=hS.fS i
   refine ai hS fun a hS=>?_
   refine ka hS pE fun p u a w hk hS=>?_
   refine go hS fun a w hS=>?_
   refine wl rfl (ky (v:=.bool ((f.Key.Kind:Int) == b.Kind && f.Key.Text.toList == b.Text.toList)) hS (wW hS rfl rfl) rfl rfl fun a hS=>?_)
   exact fz
  exact fz
 rintro a w ⟨hS,hM⟩
 unfold qK at hM
 exact fz
def lc (b:Bool):Option Bool:=some (b)
def kg (d:ah) (g:LF) (b:ae):Option Bool:=(ci b).bind fun e=>cond e (some (false)) ((oD g b).bind fun f=>cond f (some (false)) ((cr d.Records b).bind fun c=>cond (!(c.2)) (lc true) (lc ((c.1.Verified:Int) != d.Revision))))
theorem qJ (T:Nat→Prop) (W0:World) (hT:TW T W0) (b:ah) (g:LF) (c:ae) (o:Value) (p:Value) (q:Value) (l:aB ac T W0 o b.Inputs) (m:aB aa T W0 p b.Records) (n:aB an T W0 q g) (y:Bool) (hM:kg b g c=some y):aY Tryz.prog No 110 [.agg (aO b o p).toArray,q,.agg (aS c).toArray] W0 (fun v w'=>v = .bool y):=by
 refine en Tryz.func110 Tryz.ntmps110 hT fun a hS=>?_
 replace hS:=hS.fS (aB.dn l)
 replace hS:=hS.fS (aB.dn m)
 replace hS:=hS.fS (aB.dn n)
 unfold kg at hM
 refine ai hS fun a hS=>?_
 refine kb hS fun r x a w hk hS=>?_
 refine kb hS fun s z a w hk hS=>?_
 refine ai hS fun a hS=>?_
 refine aw ?_
 refine jO ?_
 refine ai hS fun a hS=>?_
 obtain ⟨B,h,hM⟩:=bd hM
 refine kc hS uD (dt _ _ hS.dlt c _ h) fun _ w hR a hk hA=>?_
 obtain rfl:=hR
 have hS:=bM hA
 refine ai hS fun a hS=>?_
 rcases cd hM with ⟨e,hM⟩ | ⟨e,hM⟩
 ·exact fz
 refine ai hS fun a hS=>?_
 obtain ⟨C,i,hM⟩:=bd hM
 refine wg hS rfl rfl rfl e (a7 hS Bk rfl rfl (rY _ _ hS.dlt g c _ (hS.get 0 rfl) _ i) fun _ w hR a hk hA=>?_)
 obtain rfl:=hR
 have hS:=bM hA
 refine ai hS fun a hS=>?_
 rcases cd hM with ⟨k,hM⟩ | ⟨k,hM⟩
 ·exact fz
 refine ai hS fun a hS=>?_
 obtain ⟨D,j,hM⟩:=bd hM
 refine kc hS kr (bF _ _ hS.dlt b.Records c _ (hS.get 1 rfl) _ j) fun _ w hR a hk hA=>?_
 obtain ⟨E,u,he,f⟩:=hR
 obtain rfl:=he.symm
 have hS:=pd hA f
 refine ai hS fun a hS=>?_
 refine ka hS fJ fun t A a w hk hS=>?_
 refine go hS fun a w hS=>?_
 refine aI (J:=fun a w=>∃ (d:Bool),St W0 No T 32 [(6,.bool d)] [] [] a w∧lc d=some y) ?_ ?_
 ·exact fz
 rintro a w ⟨d,hS,hM⟩
 unfold lc at hM
 exact fz
def lC (c:ByteArray):Option Int:=(iX c).bind fun b=>cond (decide ((b:Int) < 0)) (some (0)) (cond (decide ((65535:Int) < b)) (some (0)) (some (b)))
theorem rG (T:Nat→Prop) (W0:World) (hT:TW T W0) (b:ByteArray) (y:Int) (hM:lC b=some y):aY Tryz.prog No 163 [.string b] W0 (fun v w'=>v = .int .i64 y):=by
 refine en Tryz.func163 Tryz.ntmps163 hT fun a hS=>?_
 unfold lC at hM
 refine ai hS fun a hS=>?_
 obtain ⟨d,c,hM⟩:=bd hM
 refine kc hS D6 (qc _ _ hS.dlt b _ c) fun _ w hR a hk hA=>?_
 obtain rfl:=hR
 have hS:=bM hA
 refine ai hS fun a hS=>?_
 refine aw ?_
 refine jO ?_
 exact fz
def ju (c:aL) (b:Int) (e:Int) (d:Int):Option Int:=cond ((c.Final:Int) == 1) (some (Int.tmod b 1000)) (cond ((c.Final:Int) == 2) (some (Int.tmod (IntKind.i64.wrap (Int.tdiv b 2)) 1000)) (cond ((c.Final:Int) == 3) (some (e)) (cond ((c.Final:Int) == 4) (some (Int.tmod b 2)) (some (d)))))
def hU (b:LY) (g:Int) (f:Int) (e:Int) (c:Int):Option (Fl (Int×Int×Int×Int) (Int×Int×Int)):=cond (decide ((c:Int) < (b.length:Int))) ((bm b c).bind fun h=>(lC h).bind fun d=>some (.go (IntKind.i64.wrap (g + d),max f d,w6 .or .i64 e d,IntKind.i64.wrap (c + 1)))) (some (.out (g,f,e)))
def nw (c:aL) (b:LY):Option Int:=(loop (fun s:Int×Int×Int×Int=>hU b s.1 s.2.1 s.2.2.1 s.2.2.2) (c.C,c.C,c.C,0)).bind fun r=>ju c r.1 r.2.1 r.2.2
theorem vK (T:Nat→Prop) (W0:World) (hT:TW T W0) (c:aL) (b:LY) (l:Value) (o:Value) (B:aB eb T W0 l c.Asks) (C:aB aR.str T W0 o b) (y:Int) (hM:nw c b=some y):aY Tryz.prog No 162 [.agg (ru c l).toArray,o] W0 (fun v w'=>v = .int .i64 y):=by
 refine en Tryz.func162 Tryz.ntmps162 hT fun a hS=>?_
 replace hS:=hS.fS (aB.dn B)
 replace hS:=hS.fS (aB.dn C)
 unfold nw at hM
 refine ai hS fun a hS=>?_
 refine kb hS fun g G a w hk hS=>?_
 refine ai hS fun a hS=>?_
 refine aw ?_
 refine dr [] hS fun w hQ hS=>?_
 refine gE [0,1,2,3,4,5,6,7,8] hS fun a hS=>?_
 refine eD ?_
 refine ai hS fun a hS=>?_
 refine aI (J:=fun a w=>∃ (k:Int) (j:Int) (i:Int),St W0 No T 54 [(2,pt g 0),(5,.int .i64 k),(6,.int .i64 j),(7,.int .i64 i)] [.box g (ru c l) 81] [aJ eb l c.Asks] a w∧ju c k j i=some y) ?_ ?_
 ·skip
  refine ai hS fun a hS=>?_
  obtain ⟨K,A,hMo1⟩:=bd hM
  refine bB _ (fun s a w=>∃ (f:Int) (e:Int) (d:Int) (h:Int),(f,e,d,h)=s∧St W0 No T 54 [(2,pt g 0),(5,.int .i64 f),(6,.int .i64 e),(7,.int .i64 d),(17,o),(18,.int .i64 (b.length:Int)),(19,.int .i64 h)] [.box g (ru c l) 81] [aJ aR.str o b,aJ eb l c.Asks] a w) A ⟨_,_,_,_,rfl,hS.mt [0] [0,1]⟩ ?_
  rintro s a w F ⟨f,e,d,h,rfl,hS⟩ hM hf1
  have hM:hU b f e d h=some F:=hM
  unfold hU at hM
  refine ai hS fun a hS=>?_
  refine aw ?_
  rcases cd hM with ⟨q,hM⟩ | ⟨q,hM⟩
  ·refine ai hS fun a hS=>?_
   refine aw ?_
   refine ai hS fun a hS=>?_
   obtain ⟨p,m,hM⟩:=bd hM
   refine wl rfl (bf (R:=aR.str) hS Cq DM rfl rfl 0 rfl m rfl fun D H E r a hS=>?_)
   obtain rfl:=r
   refine ai hS fun a hS=>?_
   obtain ⟨I,n,hM⟩:=bd hM
   refine kc hS El (rG _ _ hS.dlt p _ n) fun _ w hR a hk hA=>?_
   obtain rfl:=hR
   have hS:=bM hA
   refine ai hS fun a hS=>?_
   refine qy hS (HG hS rfl rfl) fun a hS=>?_
   refine ai hS fun a hS=>?_
   refine qy hS (Gi hS rfl rfl rfl) fun a hS=>?_
   exact fz
  refine ai hS fun a hS=>?_
  cases hM
  have hr:=hf1 _ rfl
  subst hr
  have hM:ju c f e d=some y:=hMo1
  exact ⟨_,_,_,hS.mt [0] [1],hM⟩
 rintro a w ⟨k,j,i,hS,hM⟩
 unfold ju at hM
 refine aw ?_
 refine ai hS fun a hS=>?_
 rcases cd hM with ⟨t,hM⟩ | ⟨t,hM⟩
 ·refine ai hS fun a hS=>?_
  refine qy hS (wL hS rfl rfl (by decide)) fun a hS=>?_
  exact fz
 refine ai hS fun a hS=>?_
 rcases cd hM with ⟨u,hM⟩ | ⟨u,hM⟩
 ·refine ai hS fun a hS=>?_
  refine qy hS (HK hS rfl rfl (by decide)) fun a hS=>?_
  refine qy hS (wL hS rfl rfl (by decide)) fun a hS=>?_
  exact fz
 refine ai hS fun a hS=>?_
 rcases cd hM with ⟨x,hM⟩ | ⟨x,hM⟩
 ·exact fz
 refine ai hS fun a hS=>?_
 rcases cd hM with ⟨z,hM⟩ | ⟨z,hM⟩
 ·refine ai hS fun a hS=>?_
  refine qy hS (wL hS rfl rfl (by decide)) fun a hS=>?_
  exact fz
 exact fz
def iZ (c:LU) (d:cI) (b:Int):Option na:=cond d.Cell ((cZ b).bind fun e=>some ((na.mk false (ByteArray.mk #[]) e))) ((jo c b).bind fun f=>some ((na.mk false (ByteArray.mk #[]) f)))
def i1 (c:LU) (b:cI) (d:Bool):Option na:=cond d (iZ c b b.Else) (iZ c b b.N)
def fL (c:LU) (g:ae) (b:LY):Option na:=(gv g).bind fun f=>cond (decide ((f:Int) < 0)) (some ((na.mk true (ByteArray.mk #[]) (ae.mk 0 (ByteArray.mk #[]))))) (cond (decide (((c.length:Int):Int)≤f)) (some ((na.mk true (ByteArray.mk #[]) (ae.mk 0 (ByteArray.mk #[]))))) ((jo c f).bind fun h=>cond (!((h.Kind:Int) == g.Kind && h.Text.toList == g.Text.toList)) (some ((na.mk true (ByteArray.mk #[]) (ae.mk 0 (ByteArray.mk #[]))))) ((bm c f).bind fun e=>cond (decide (((e.Asks.length:Int):Int)≤(b.length:Int))) ((ql b 0 (e.Asks.length:Int)).bind fun j=>(nw e j).bind fun k=>(tN k).bind fun l=>some ((na.mk true l (ae.mk 0 (ByteArray.mk #[]))))) ((bm e.Asks (b.length:Int)).bind fun d=>cond d.Pick (cond (((b.length:Int):Int) == 0) (i1 c d true) ((bm b (IntKind.i64.wrap ((b.length:Int) - 1))).bind fun i=>(lC i).bind fun m=>i1 c d ((Int.tmod m 2:Int) == 0))) (i1 c d false)))))
theorem sD (T:Nat→Prop) (W0:World) (hT:TW T W0) (hLv:c6 T W0) (b:LU) (j:ae) (d:LY) (p:Value) (v2:Value) (Z:aB aq T W0 p b) (a0:aB aR.str T W0 v2 d) (y:na) (hM:fL b j d=some y):aY Tryz.prog No 150 [p,.agg (aS j).toArray,v2] W0 (fun v w'=>v = .agg (D3 y).toArray):=by
 refine en Tryz.func150 Tryz.ntmps150 hT fun a hS=>?_
 replace hS:=hS.fact bu (c6.dn hLv)
 replace hS:=hS.fS (aB.dn Z)
 replace hS:=hS.fS (aB.dn a0)
 unfold fL at hM
 refine ai hS fun a hS=>?_
 refine kb hS fun a2 ak a w hk hS=>?_
 refine ka hS mw fun e ao a w hk hS=>?_
 refine ai hS fun a hS=>?_
 obtain ⟨W,A,hM⟩:=bd hM
 refine kc hS CY (l5 _ _ hS.dlt j _ A) fun _ w hR a hk hA=>?_
 obtain rfl:=hR
 have hS:=bM hA
 refine ai hS fun a hS=>?_
 refine aw ?_
 refine aw ?_
 refine dr [] hS fun w hQ hS=>?_
 refine gE [0,1,2] hS fun a hS=>?_
 rcases cd hM with ⟨I,hM⟩ | ⟨I,hM⟩
 ·refine gE [3,4,5,6,7,8,9,10,11,12,13,14] hS fun a hS=>?_
  refine eD ?_
  refine ai hS fun a hS=>?_
  refine qy hS (br (ps:=[(0,.const (.bool true))]) hS sC mw rfl (us:=[[.bool true]]) ⟨rfl,trivial⟩ (ws:=[.bool true,.string (ByteArray.mk #[]),.int .i64 0,.string (ByteArray.mk #[])]) rfl) fun a hS=>?_
  refine go hS fun a w hS=>?_
  cases hM
  refine aF hS rfl (rC 0 hS) ?_
  exact rfl
 refine gE [3,4,5,6,7,8] hS fun a hS=>?_
 rcases cd hM with ⟨l,hM⟩ | ⟨l,hM⟩
 ·refine gE [9,10,11,12,13,14] hS fun a hS=>?_
  refine eD ?_
  refine ai hS fun a hS=>?_
  refine qy hS (br (ps:=[(0,.const (.bool true))]) hS sC mw rfl (us:=[[.bool true]]) ⟨rfl,trivial⟩ (ws:=[.bool true,.string (ByteArray.mk #[]),.int .i64 0,.string (ByteArray.mk #[])]) rfl) fun a hS=>?_
  refine go hS fun a w hS=>?_
  cases hM
  refine aF hS rfl (rC 0 hS) ?_
  exact rfl
 refine gE [9,10,12] hS fun a hS=>?_
 obtain ⟨q,B,hM⟩:=bd hM
 refine bV (i:=11) rfl (by kernel_rfl) hS rfl rfl rfl l (a7 hS wd rfl rfl (mI _ _ hS.dlt (hS.get 2 rfl) b W _ (hS.get 1 rfl) _ B) fun _ w hR a hk hA=>⟨fx (hk),?_⟩)
 obtain rfl:=hR
 have hS:=bM hA
 refine we 13 (v:=.bool (!((q.Kind:Int) == j.Kind && q.Text.toList == j.Text.toList))) rfl (by kernel_rfl) (by kernel_rfl) (by kernel_rfl) rfl hQ hS (wh hS rfl rfl) rfl rfl rfl l rfl rfl fun a hS=>?_
 refine gE [14] hS fun a hS=>?_
 refine eD ?_
 refine ai hS fun a hS=>?_
 rcases cd hM with ⟨K,hM⟩ | ⟨K,hM⟩
 ·refine ai hS fun a hS=>?_
  refine qy hS (br (ps:=[(0,.const (.bool true))]) hS sC mw rfl (us:=[[.bool true]]) ⟨rfl,trivial⟩ (ws:=[.bool true,.string (ByteArray.mk #[]),.int .i64 0,.string (ByteArray.mk #[])]) rfl) fun a hS=>?_
  refine go hS fun a w hS=>?_
  cases hM
  refine aF hS rfl (rC 0 hS) ?_
  exact rfl
 refine ai hS fun a hS=>?_
 obtain ⟨G,s,hM⟩:=bd hM
 refine wl rfl (bf (R:=aq) hS tx sU rfl rfl 1 rfl s rfl fun a3 ay ab L a hS=>?_)
 obtain ⟨b2,rfl,F⟩:=L
 replace hS:=hS.fS F
 refine ai hS fun a hS=>?_
 refine ka hS tZ fun a4 av a w hk hS=>?_
 refine go hS fun a w hS=>?_
 refine aw ?_
 refine ai hS fun a hS=>?_
 rcases cd hM with ⟨M,hM⟩ | ⟨M,hM⟩
 ·refine ai hS fun a hS=>?_
  refine aw ?_
  refine dr [(9,.blk (some e))] hS fun w hQ hS=>?_
  refine gE [0,1,2,3,4] hS fun a hS=>?_
  obtain ⟨V,u,hM⟩:=bd hM
  obtain ⟨Y,O,hS⟩:=G7 (R:=aR.str) hS Cq DM 2 rfl u
  refine dy 5 (v:=Y) rfl (by kernel_rfl) (by kernel_rfl) (by kernel_rfl) rfl hQ hS (O (k1:=.i64) rfl (.inr ⟨rfl,rfl⟩) (.inl ⟨_,rfl,rfl⟩)) rfl rfl rfl fun a hS=>?_
  obtain ⟨X,C,hM⟩:=bd hM
  refine ec 6 hS GP (vK _ _ hS.dlt G V _ _ (hS.get 1 rfl) (hS.get 0 rfl) _ C) fun _ w hR a hk hA=>?_
  obtain rfl:=hR
  have hS:=bM hA
  obtain ⟨o,D,hM⟩:=bd hM
  refine ec 7 hS CX (ue _ _ hS.dlt (hS.get 5 rfl) X _ D) fun _ w hR a hk hA=>?_
  obtain rfl:=hR
  have hS:=bM hA
  refine dy 8 (v:=.agg #[.bool true,.string o,.int .i64 0,.string (ByteArray.mk #[])]) rfl (by kernel_rfl) (by kernel_rfl) (by kernel_rfl) rfl hQ hS (br (ps:=[(0,.const (.bool true)),(1,.tmp 48)]) hS sC mw rfl (us:=[[.bool true],[.string o]]) ⟨rfl,⟨rfl,trivial⟩⟩ (ws:=[.bool true,.string o,.int .i64 0,.string (ByteArray.mk #[])]) rfl) rfl rfl rfl fun a hS=>?_
  refine es 9 hS fun w hS=>?_
  refine eD ?_
  refine ai hS fun a hS=>?_
  cases hM
  refine aF hS rfl (rC 1 hS) ?_
  exact rfl
 refine ai hS fun a hS=>?_
 obtain ⟨f,r,hM⟩:=bd hM
 refine wl rfl (bf (R:=eb) hS Gd Gf rfl rfl 0 rfl r rfl fun a5 az af P a hS=>?_)
 obtain rfl:=P
 refine ai hS fun a hS=>?_
 refine ka hS zv fun g ax a w hk hS=>?_
 refine go hS fun a w hS=>?_
 refine aI (J:=fun a w=>∃ (c:Int),St W0 No T 84 [(0,p),(6,pt e 0),(10,pt g 0),(11,.int .i64 c)] [.box e [.bool false,.string (ByteArray.mk #[]),.int .i64 0,.string (ByteArray.mk #[])] 173,.box g (EJ f) 85] [aJ aq p b,bu] a w∧iZ b f c=some y) ?_ ?_
 ·skip
  refine aI (J:=fun a w=>∃ (k:Bool),St W0 No T 84 [(0,p),(6,pt e 0),(10,pt g 0),(11,.int .i64 f.N),(72,.bool k)] [.box e [.bool false,.string (ByteArray.mk #[]),.int .i64 0,.string (ByteArray.mk #[])] 173,.box g (EJ f) 85] [aJ aq p b,bu] a w∧i1 b f k=some y) ?_ ?_
  ·skip
   refine ai hS fun a hS=>?_
   rcases cd hM with ⟨Q,hM⟩ | ⟨Q,hM⟩
   ·refine ai hS fun a hS=>?_
    rcases cd hM with ⟨h,hM⟩ | ⟨h,hM⟩
    ·exact fz
    refine ai hS fun a hS=>?_
    obtain ⟨H,t,hM⟩:=bd hM
    refine wg hS rfl rfl rfl h (bf (R:=aR.str) hS Cq DM rfl rfl 3 rfl t rfl fun a9 b0 ag S a hS=>?_)
    obtain rfl:=S
    refine ai hS fun a hS=>?_
    obtain ⟨b1,E,hM⟩:=bd hM
    refine wg hS rfl rfl rfl h (a7 hS El rfl rfl (rG _ _ hS.dlt H _ E) fun _ w hR a hk hA=>?_)
    obtain rfl:=hR
    have hS:=bM hA
    refine qg hS h (wL hS rfl rfl (by decide)) fun a hS=>?_
    exact fz
   exact fz
  rintro a w ⟨k,hS,hM⟩
  unfold i1 at hM
  exact fz
 rintro a w ⟨c,hS,hM⟩
 unfold iZ at hM
 refine aw ?_
 refine ai hS fun a hS=>?_
 rcases cd hM with ⟨U,hM⟩ | ⟨U,hM⟩
 ·refine ai hS fun a hS=>?_
  obtain ⟨m,x,hM⟩:=bd hM
  refine kc hS vD (eG _ _ hS.dlt (hS.get 1 rfl) c _ x) fun _ w hR a hk hA=>?_
  obtain rfl:=hR
  have hS:=bM hA
  refine qy hS (br (ps:=[(2,.tmp 78)]) hS sC mw rfl (us:=[(aS m)]) ⟨rfl,trivial⟩ (ws:=[.bool false,.string (ByteArray.mk #[]),.int .i64 m.Kind,.string m.Text]) rfl) fun a hS=>?_
  refine go hS fun a w hS=>?_
  cases hM
  refine aF hS rfl (rC 0 hS) ?_
  exact rfl
 refine ai hS fun a hS=>?_
 obtain ⟨n,z,hM⟩:=bd hM
 refine kc hS wd (mI _ _ hS.dlt (hS.get 1 rfl) b c _ (hS.get 0 rfl) _ z) fun _ w hR a hk hA=>?_
 obtain rfl:=hR
 have hS:=bM hA
 refine qy hS (br (ps:=[(2,.tmp 82)]) hS sC mw rfl (us:=[(aS n)]) ⟨rfl,trivial⟩ (ws:=[.bool false,.string (ByteArray.mk #[]),.int .i64 n.Kind,.string n.Text]) rfl) fun a hS=>?_
 refine go hS fun a w hS=>?_
 cases hM
 refine aF hS rfl (rC 0 hS) ?_
 exact rfl
def dz (d:LU) (c:ae) (b:LY):Option na:=cond ((c.Kind:Int) == 31) ((fL d c b).bind fun e=>some (e)) (cond ((c.Kind:Int) == 32) ((fL d c b).bind fun f=>some (f)) ((ci c).bind fun g=>cond g (some ((na.mk true (ByteArray.mk #[]) (ae.mk 0 (ByteArray.mk #[]))))) (cond (decide ((c.Kind:Int) < 1)) (some ((na.mk true (ByteArray.mk #[]) (ae.mk 0 (ByteArray.mk #[]))))) (cond (decide ((22:Int) < c.Kind)) (some ((na.mk true (ByteArray.mk #[]) (ae.mk 0 (ByteArray.mk #[]))))) (none)))))
theorem fq (T:Nat→Prop) (W0:World) (hT:TW T W0) (hLv:c6 T W0) (c:LU) (d:ae) (b:LY) (o:Value) (p:Value) (m:aB aq T W0 o c) (n:aB aR.str T W0 p b) (y:na) (hM:dz c d b=some y):aY Tryz.prog No 132 [o,.agg (aS d).toArray,p] W0 (fun v w'=>v = .agg (D3 y).toArray):=by
 refine en Tryz.func132 Tryz.ntmps132 hT fun a hS=>?_
 replace hS:=hS.fact bu (c6.dn hLv)
 replace hS:=hS.fS (aB.dn m)
 replace hS:=hS.fS (aB.dn n)
 unfold dz at hM
 refine ai hS fun a hS=>?_
 refine kb hS fun q s a w hk hS=>?_
 refine ka hS mw fun r t a w hk hS=>?_
 refine ai hS fun a hS=>?_
 refine aw ?_
 refine ai hS fun a hS=>?_
 refine jO ?_
 refine ai hS fun a hS=>?_
 rcases cd hM with ⟨h,hM⟩ | ⟨h,hM⟩
 ·refine ai hS fun a hS=>?_
  obtain ⟨u,e,hM⟩:=bd hM
  refine kc hS Ej (sD _ _ hS.dlt (hS.get 2 rfl) c d b _ _ (hS.get 1 rfl) (hS.get 0 rfl) _ e) fun _ w hR a hk hA=>?_
  obtain rfl:=hR
  have hS:=bM hA
  refine go hS fun a w hS=>?_
  cases hM
  refine aF hS rfl (rC 0 hS) ?_
  exact rfl
 refine ai hS fun a hS=>?_
 rcases cd hM with ⟨i,hM⟩ | ⟨i,hM⟩
 ·refine ai hS fun a hS=>?_
  obtain ⟨x,f,hM⟩:=bd hM
  refine kc hS Ej (sD _ _ hS.dlt (hS.get 2 rfl) c d b _ _ (hS.get 1 rfl) (hS.get 0 rfl) _ f) fun _ w hR a hk hA=>?_
  obtain rfl:=hR
  have hS:=bM hA
  refine go hS fun a w hS=>?_
  cases hM
  refine aF hS rfl (rC 0 hS) ?_
  exact rfl
 refine ai hS fun a hS=>?_
 refine jO ?_
 refine ai hS fun a hS=>?_
 obtain ⟨z,g,hM⟩:=bd hM
 refine kc hS uD (dt _ _ hS.dlt d _ g) fun _ w hR a hk hA=>?_
 obtain rfl:=hR
 have hS:=bM hA
 refine ai hS fun a hS=>?_
 rcases cd hM with ⟨j,hM⟩ | ⟨j,hM⟩
 ·refine ai hS fun a hS=>?_
  refine qy hS (br (ps:=[(0,.const (.bool true))]) hS sC mw rfl (us:=[[.bool true]]) ⟨rfl,trivial⟩ (ws:=[.bool true,.string (ByteArray.mk #[]),.int .i64 0,.string (ByteArray.mk #[])]) rfl) fun a hS=>?_
  refine go hS fun a w hS=>?_
  cases hM
  refine aF hS rfl (rC 0 hS) ?_
  exact rfl
 refine ai hS fun a hS=>?_
 rcases cd hM with ⟨k,hM⟩ | ⟨k,hM⟩
 ·refine ai hS fun a hS=>?_
  refine qy hS (br (ps:=[(0,.const (.bool true))]) hS sC mw rfl (us:=[[.bool true]]) ⟨rfl,trivial⟩ (ws:=[.bool true,.string (ByteArray.mk #[]),.int .i64 0,.string (ByteArray.mk #[])]) rfl) fun a hS=>?_
  refine go hS fun a w hS=>?_
  cases hM
  refine aF hS rfl (rC 0 hS) ?_
  exact rfl
 refine ai hS fun a hS=>?_
 rcases cd hM with ⟨l,hM⟩ | ⟨l,hM⟩
 ·refine ai hS fun a hS=>?_
  refine qy hS (br (ps:=[(0,.const (.bool true))]) hS sC mw rfl (us:=[[.bool true]]) ⟨rfl,trivial⟩ (ws:=[.bool true,.string (ByteArray.mk #[]),.int .i64 0,.string (ByteArray.mk #[])]) rfl) fun a hS=>?_
  refine go hS fun a w hS=>?_
  cases hM
  refine aF hS rfl (rC 0 hS) ?_
  exact rfl
 refine ai hS fun a hS=>?_
 cases hM
def l9 (b:LR):Option LR:=some (b)
def ma (e:al) (b:LR) (d:Bool):Option LR:=cond (!(d)) ((fu e).bind fun c=>gd (bG (b.length + ([c]).length)) <| l9 (b ++ ([c]))) (l9 b)
def gx (b:Int) (c:LR) (d:Bool):Option (Fl (LR×Bool×Int) (LR×Bool)):=some (.go (c,d,IntKind.i64.wrap (b + 1)))
def gy (d:Int) (c:al) (f:Int) (b:LR) (e:Bool):Option (Fl (LR×Bool×Int) (LR×Bool)):=cond ((f:Int) != 0) (gd (bG (b.length + ([c]).length)) <| gx d (b ++ ([c])) e) (gx d b e)
def gz (i:al) (b:LR) (h:Bool) (d:Int) (c:al) (e:Int) (g:Bool):Option (Fl (LR×Bool×Int) (LR×Bool)):=cond g ((fu i).bind fun f=>gd (bG (b.length + ([f]).length)) <| gy d c e (b ++ ([f])) true) (gy d c e b h)
def nV (h:LR) (g:al) (e:LR) (c:Bool) (b:Int):Option (Fl (LR×Bool×Int) (LR×Bool)):=cond (decide ((b:Int) < (h.length:Int))) ((bm h b).bind fun d=>(iW d.Key g.Key).bind fun f=>cond (decide ((0:Int)≤f)) (gz g e c b d f (!(c))) (gz g e c b d f false)) (some (.out (e,c)))
def jZ (c:LR) (b:al):Option LR:=(loop (fun s:LR×Bool×Int=>nV c b s.1 s.2.1 s.2.2) (([]:List al),false,0)).bind fun r=>ma b r.1 r.2
theorem tQ (T:Nat→Prop) (W0:World) (hT:TW T W0) (hLv:c6 T W0) (f:LR) (b:al) (p:Value) (m:Value) (ak:aB aa T W0 p f) (ao:aB ad T W0 m b.Reads) (y:LR) (hM:jZ f b=some y):aY Tryz.prog No 133 [p,.agg (aX b m).toArray] W0 (fun v w'=>∃ (v3:Value) (tH:List Value),v=v3∧iy aa T W0 w' [aE v3 tH] 77 v3 tH y):=by
 refine en Tryz.func133 Tryz.ntmps133 hT fun a hS=>?_
 replace hS:=hS.fact bu (c6.dn hLv)
 replace hS:=hS.fS (aB.dn ak)
 replace hS:=hS.fS (aB.dn ao)
 unfold jZ at hM
 refine ai hS fun a hS=>?_
 refine kb hS fun d b6 a w hk hS=>?_
 refine ai hS fun a hS=>?_
 refine aI (J:=fun a w=>∃ (t:LR) (H:Bool) (L:Value) (B:LV),St W0 No T 47 [(3,pt d 0),(5,L),(6,.bool H)] [aE L B,.box d (aX b m) 77] [am aa B t,aJ ad m b.Reads,bu] a w∧ma b t H=some y) ?_ ?_
 ·skip
  refine ai hS fun a hS=>?_
  replace hS:=hS.nilRow aa 77 (by decide)
  obtain ⟨r1,ag,hMo1⟩:=bd hM
  refine bB _ (fun s a w=>∃ (g:LR) (h:Bool) (e:Int) (o:Value) (n:LV),(g,h,e)=s∧St W0 No T 47 [(3,pt d 0),(5,o),(6,.bool h),(10,p),(11,.int .i64 (f.length:Int)),(12,.int .i64 e)] [aE o n,.box d (aX b m) 77] [am aa n g,aJ aa p f,aJ ad m b.Reads,bu] a w) ag ⟨_,_,_,_,_,rfl,hS.mt [0,1] [0,2,1,3]⟩ ?_
  rintro s a w U ⟨g,h,e,o,n,rfl,hS⟩ hM hf1
  have hM:nV f b g h e=some U:=hM
  unfold nV at hM
  refine ai hS fun a hS=>?_
  refine aw ?_
  rcases cd hM with ⟨a0,hM⟩ | ⟨a0,hM⟩
  ·refine ai hS fun a hS=>?_
   refine aI (J:=fun a w=>∃ (G:LR) (I:Bool) (M:Value) (C:LV),St W0 No T 47 [(3,pt d 0),(5,M),(6,.bool I),(10,p),(11,.int .i64 (f.length:Int)),(12,.int .i64 e)] [aE M C,.box d (aX b m) 77] [am aa C G,aJ aa p f,aJ ad m b.Reads,bu] a w∧gx e G I=some U) ?_ ?_
   ·skip
    refine ai hS fun a hS=>?_
    obtain ⟨c,V,hM⟩:=bd hM
    refine wl rfl (bf (R:=aa) hS nH kQ rfl rfl 1 rfl V rfl fun av b9 b0 a1 a hS=>?_)
    obtain ⟨j,rfl,Z⟩:=a1
    replace hS:=hS.fS Z
    refine ai hS fun a hS=>?_
    refine ka hS fJ fun q b8 a w hk hS=>?_
    refine go hS fun a w hS=>?_
    obtain ⟨z,X,hM⟩:=bd hM
    refine kc hS As (lz _ _ hS.dlt (hS.get 5 rfl) c.Key b.Key _ X) fun _ w hR a hk hA=>?_
    obtain rfl:=hR
    have hS:=bM hA
    refine ai hS fun a hS=>?_
    refine aI (J:=fun a w=>∃ (u:LR) (K:Bool) (N:Value) (D:LV),St W0 No T 47 [(3,pt d 0),(5,N),(6,.bool K),(8,pt q 0),(9,.int .i64 z),(10,p),(11,.int .i64 (f.length:Int)),(12,.int .i64 e)] [aE N D,.box d (aX b m) 77,.box q (aX c j) 77] [am aa D u,aJ aa p f,aJ ad m b.Reads,aJ ad j c.Reads,bu] a w∧gy e c z u K=some U) ?_ ?_
    ·skip
     refine aI (J:=fun a w=>∃ (E:Bool),St W0 No T 47 [(3,pt d 0),(5,o),(6,.bool h),(8,pt q 0),(9,.int .i64 z),(10,p),(11,.int .i64 (f.length:Int)),(12,.int .i64 e),(26,.bool E)] [aE o n,.box d (aX b m) 77,.box q (aX c j) 77] [am aa n g,aJ aa p f,aJ ad m b.Reads,aJ ad j c.Reads,bu] a w∧gz b g h e c z E=some U) ?_ ?_
     ·exact fz
     rintro a w ⟨E,hS,hM⟩
     unfold gz at hM
     rcases cd hM with ⟨a2,hM⟩ | ⟨a2,hM⟩
     ·refine ai hS fun a hS=>?_
      obtain ⟨l,Y,hM⟩:=bd hM
      refine kc hS zE (kV _ _ hS.dlt b _ (hS.get 2 rfl) _ Y) fun _ w hR a hk hA=>?_
      obtain ⟨O,b1,he,Q⟩:=hR
      obtain rfl:=he.symm
      have hS:=pd hA Q
      refine wl rfl (aZ (ps:=[(0,.tmp 29)]) hS pp fJ (zl:=[.int .i64 0,.string (ByteArray.mk #[]),.string (ByteArray.mk #[]),.slice none 0 0,.int .i64 0,.int .i64 0,.int .i64 0,.bool false]) (by kernel_rfl) rfl (us:=[(aX l O)]) ⟨rfl,trivial⟩ (ws:=(aX l O)) rfl rfl rfl rfl fun ax a w hk hS=>?_)
      replace hS:=hS.freeze (R:=ad) 1 rfl 0 rfl
      replace hS:=hS.lit (R:=aa) (us:=(aX l O)) (xs:=[l]) 0 rfl (by decide) (aD.one_ (R:=aa) (x:=l) (⟨_,rfl,(hS.get 0 rfl)⟩)) rfl rfl
      replace hS:=hS.freeze (R:=aa) 0 rfl 0 rfl
      obtain ⟨a3,hM⟩:=ba hM
      refine wl rfl (bC (R:=aa) (xs:=g) (ys:=[l]) hS pp (by decide) (by decide) rfl rfl 0 rfl 4 rfl 0 rfl a3 rfl fun bb b2 a w hk hS=>?_)
      exact fz
     exact fz
    rintro a w ⟨u,K,N,D,hS,hM⟩
    unfold gy at hM
    refine ai hS fun a hS=>?_
    rcases cd hM with ⟨a4,hM⟩ | ⟨a4,hM⟩
    ·refine ai hS fun a hS=>?_
     refine wl rfl (aZ (ps:=[(0,.tmp 35)]) hS pp fJ (zl:=[.int .i64 0,.string (ByteArray.mk #[]),.string (ByteArray.mk #[]),.slice none 0 0,.int .i64 0,.int .i64 0,.int .i64 0,.bool false]) (by kernel_rfl) rfl (us:=[(aX c j)]) ⟨rfl,trivial⟩ (ws:=(aX c j)) rfl rfl rfl rfl fun ay a w hk hS=>?_)
     replace hS:=hS.lit (R:=aa) (us:=(aX c j)) (xs:=[c]) 0 rfl (by decide) (aD.one_ (R:=aa) (x:=c) (⟨_,rfl,(hS.get 3 rfl)⟩)) rfl rfl
     replace hS:=hS.freeze (R:=aa) 0 rfl 0 rfl
     obtain ⟨a5,hM⟩:=ba hM
     refine wl rfl (bC (R:=aa) (xs:=u) (ys:=[c]) hS pp (by decide) (by decide) rfl rfl 0 rfl 2 rfl 0 rfl a5 rfl fun bi b3 a w hk hS=>?_)
     exact fz
    exact fz
   rintro a w ⟨G,I,M,C,hS,hM⟩
   unfold gx at hM
   exact fz
  refine ai hS fun a hS=>?_
  cases hM
  have hr:=hf1 _ rfl
  subst hr
  have hM:ma b g h=some y:=hMo1
  exact ⟨_,_,_,_,hS.mt [0,1] [0,2,3],hM⟩
 rintro a w ⟨t,H,L,B,hS,hM⟩
 unfold ma at hM
 refine aI (J:=fun a w=>∃ (F:LR) (A:Value) (r:LV),St W0 No T 47 [(5,A)] [aE A r] [am aa r F,bu] a w∧l9 F=some y) ?_ ?_
 ·skip
  refine ai hS fun a hS=>?_
  rcases cd hM with ⟨a9,hM⟩ | ⟨a9,hM⟩
  ·refine ai hS fun a hS=>?_
   obtain ⟨k,W,hM⟩:=bd hM
   refine kc hS zE (kV _ _ hS.dlt b _ (hS.get 1 rfl) _ W) fun _ w hR a hk hA=>?_
   obtain ⟨P,b4,he,S⟩:=hR
   obtain rfl:=he.symm
   have hS:=pd hA S
   refine wl rfl (aZ (ps:=[(0,.tmp 43)]) hS pp fJ (zl:=[.int .i64 0,.string (ByteArray.mk #[]),.string (ByteArray.mk #[]),.slice none 0 0,.int .i64 0,.int .i64 0,.int .i64 0,.bool false]) (by kernel_rfl) rfl (us:=[(aX k P)]) ⟨rfl,trivial⟩ (ws:=(aX k P)) rfl rfl rfl rfl fun az a w hk hS=>?_)
   replace hS:=hS.freeze (R:=ad) 1 rfl 0 rfl
   replace hS:=hS.lit (R:=aa) (us:=(aX k P)) (xs:=[k]) 0 rfl (by decide) (aD.one_ (R:=aa) (x:=k) (⟨_,rfl,(hS.get 0 rfl)⟩)) rfl rfl
   replace hS:=hS.freeze (R:=aa) 0 rfl 0 rfl
   obtain ⟨ab,hM⟩:=ba hM
   refine wl rfl (bC (R:=aa) (xs:=t) (ys:=[k]) hS pp (by decide) (by decide) rfl rfl 0 rfl 4 rfl 0 rfl ab rfl fun bl b5 a w hk hS=>?_)
   exact fz
  exact fz
 rintro a w ⟨F,A,r,hS,hM⟩
 unfold l9 at hM
 refine ai hS fun a hS=>?_
 cases hM
 refine aF hS rfl (ar hS rfl aH) ?_
 exact ⟨A,r,rfl,hS.retOwn ⟨.inr (List.mem_of_getElem? (i:=0) rfl),trivial⟩ 0 rfl 0 rfl⟩
def kM (e:ah) (f:ae) (c:ByteArray) (b:LK) (d:Int):Option al:=some ((al.mk f c b d e.Revision (IntKind.i64.wrap (1 + (b.length:Int))) false))
def kN (d:ah) (e:ae) (c:ByteArray) (b:LK) (g:(al×Bool)) (f:Bool):Option al:=cond f (kM d e c b g.1.Changed) (kM d e c b d.Revision)
def mO (e:ah) (f:ae) (b:ByteArray) (d:LK):Option al:=(cr e.Records f).bind fun c=>cond c.2 (kN e f b d c (c.1.Value.toList == b.toList)) (kN e f b d c false)
theorem sI (T:Nat→Prop) (W0:World) (hT:TW T W0) (d:ah) (e:ae) (c:ByteArray) (b:LK) (t:Value) (u:Value) (h:Value) (q:aB ac T W0 t d.Inputs) (r:aB aa T W0 u d.Records) (s:aB ad T W0 h b) (y:al) (hM:mO d e c b=some y):aY Tryz.prog No 134 [.agg (aO d t u).toArray,.agg (aS e).toArray,.string c,h] W0 (fun v w'=>∃ (x:Value),v = .agg (aX y x).toArray∧aB ad (dT T []) w' x y.Reads):=by
 refine en Tryz.func134 Tryz.ntmps134 hT fun a hS=>?_
 replace hS:=hS.fS (aB.dn q)
 replace hS:=hS.fS (aB.dn r)
 replace hS:=hS.fS (aB.dn s)
 unfold mO at hM
 refine ai hS fun a hS=>?_
 refine kb hS fun z B a w hk hS=>?_
 refine kb hS fun A C a w hk hS=>?_
 refine ka hS fJ fun f D a w hk hS=>?_
 refine ai hS fun a hS=>?_
 refine qy hS (br (ps:=[(0,.tmp 12),(1,.tmp 13),(2,.tmp 14),(3,.tmp 16),(4,.tmp 18),(5,.tmp 21)]) hS Hq fJ rfl (us:=[(aS e),[.string c],[h],[.int .i64 d.Revision],[.int .i64 d.Revision],[.int .i64 (IntKind.i64.wrap (1 + (b.length:Int)))]]) ⟨rfl,⟨rfl,⟨(lO (aB.one ((hS.get 0 rfl):aB ad _ _ _ _))),⟨rfl,⟨rfl,⟨rfl,trivial⟩⟩⟩⟩⟩⟩ (ws:=[.int .i64 e.Kind,.string e.Text,.string c,h,.int .i64 d.Revision,.int .i64 d.Revision,.int .i64 (IntKind.i64.wrap (1 + (b.length:Int))),.bool false]) rfl) fun a hS=>?_
 refine ka hS fJ fun g E a w hk hS=>?_
 refine go hS fun a w hS=>?_
 refine aI (J:=fun a w=>∃ (j:Int),St W0 No T 41 [(8,pt f 0),(9,pt g 0)] [.box f [.int .i64 0,.string (ByteArray.mk #[]),.string (ByteArray.mk #[]),.slice none 0 0,.int .i64 0,.int .i64 0,.int .i64 0,.bool false] 77,.box g [.int .i64 e.Kind,.string e.Text,.string c,h,.int .i64 j,.int .i64 d.Revision,.int .i64 (IntKind.i64.wrap (1 + (b.length:Int))),.bool false] 77] [aJ ad h b] a w∧kM d e c b j=some y) ?_ ?_
 ·skip
  refine ai hS fun a hS=>?_
  obtain ⟨k,p,hM⟩:=bd hM
  refine kc hS kr (bF _ _ hS.dlt d.Records e _ (hS.get 1 rfl) _ p) fun _ w hR a hk hA=>?_
  obtain ⟨o,m,he,n⟩:=hR
  obtain rfl:=he.symm
  have hS:=pd hA n
  refine ai hS fun a hS=>?_
  refine ka hS fJ fun l F a w hk hS=>?_
  refine go hS fun a w hS=>?_
  refine aI (J:=fun a w=>∃ (i:Bool),St W0 No T 41 [(8,pt f 0),(9,pt g 0),(10,pt l 0),(36,.bool i)] [.box f [.int .i64 0,.string (ByteArray.mk #[]),.string (ByteArray.mk #[]),.slice none 0 0,.int .i64 0,.int .i64 0,.int .i64 0,.bool false] 77,.box g [.int .i64 e.Kind,.string e.Text,.string c,h,.int .i64 d.Revision,.int .i64 d.Revision,.int .i64 (IntKind.i64.wrap (1 + (b.length:Int))),.bool false] 77,au o m,.box l (aX k.1 o) 77] [aJ ad h b,am ad m k.1.Reads] a w∧kN d e c b k i=some y) ?_ ?_
  ·exact fz
  rintro a w ⟨i,hS,hM⟩
  unfold kN at hM
  exact fz
 rintro a w ⟨j,hS,hM⟩
 unfold kM at hM
 refine go hS fun a w hS=>?_
 cases hM
 refine aF hS rfl (rC 0 hS) ?_
 exact ⟨h,rfl,(aB.up trivial (hS.get 0 rfl))⟩
def i8 (h:ah) (i:LF) (b:LF) (c:ae) (d:Bool):Option Int:=cond d (some (3)) ((kg h i c).bind fun e=>cond (!(e)) (some (0)) ((oD b c).bind fun f=>cond (!(f)) (some (1)) ((bZ c).bind fun g=>cond g (some (0)) (some (2)))))
def mP (e:ah) (d:LF) (b:LF) (c:ae):Option Int:=(bZ c).bind fun f=>cond (!(f)) ((oD d c).bind fun g=>i8 e d b c g) (i8 e d b c false)
theorem sL (T:Nat→Prop) (W0:World) (hT:TW T W0) (c:ah) (e:LF) (b:LF) (d:ae) (o:Value) (p:Value) (q:Value) (r:Value) (x:aB ac T W0 o c.Inputs) (z:aB aa T W0 p c.Records) (A:aB an T W0 q e) (B:aB an T W0 r b) (y:Int) (hM:mP c e b d=some y):aY Tryz.prog No 135 [.agg (aO c o p).toArray,q,r,.agg (aS d).toArray] W0 (fun v w'=>v = .int .i64 y):=by
 refine en Tryz.func135 Tryz.ntmps135 hT fun a hS=>?_
 replace hS:=hS.fS (aB.dn x)
 replace hS:=hS.fS (aB.dn z)
 replace hS:=hS.fS (aB.dn A)
 replace hS:=hS.fS (aB.dn B)
 unfold mP at hM
 refine ai hS fun a hS=>?_
 refine kb hS fun g C a w hk hS=>?_
 refine kb hS fun h D a w hk hS=>?_
 refine ai hS fun a hS=>?_
 refine aw ?_
 refine ai hS fun a hS=>?_
 refine aI (J:=fun a w=>∃ (f:Bool),St W0 No T 32 [(1,q),(2,r),(4,pt g 0),(7,pt h 0),(9,.bool f)] [.box g (aO c o p) 31,.box h (aS d) 35] [aJ an q e,aJ an r b,aJ ac o c.Inputs,aJ aa p c.Records] a w∧i8 c e b d f=some y) ?_ ?_
 ·skip
  refine ai hS fun a hS=>?_
  obtain ⟨H,m,hM⟩:=bd hM
  refine kc hS s7 (cq _ _ hS.dlt d _ m) fun _ w hR a hk hA=>?_
  obtain rfl:=hR
  have hS:=bM hA
  refine ai hS fun a hS=>?_
  rcases cd hM with ⟨i,hM⟩ | ⟨i,hM⟩
  ·refine ai hS fun a hS=>?_
   obtain ⟨I,n,hM⟩:=bd hM
   refine wg hS rfl rfl rfl i (a7 hS Bk rfl rfl (rY _ _ hS.dlt e d _ (hS.get 1 rfl) _ n) fun _ w hR a hk hA=>?_)
   obtain rfl:=hR
   have hS:=bM hA
   exact fz
  exact fz
 rintro a w ⟨f,hS,hM⟩
 unfold i8 at hM
 rcases cd hM with ⟨s,hM⟩ | ⟨s,hM⟩
 ·exact fz
 refine ai hS fun a hS=>?_
 obtain ⟨E,j,hM⟩:=bd hM
 refine kc hS D9 (qJ _ _ hS.dlt c e d _ _ _ (hS.get 2 rfl) (hS.get 3 rfl) (hS.get 0 rfl) _ j) fun _ w hR a hk hA=>?_
 obtain rfl:=hR
 have hS:=bM hA
 refine ai hS fun a hS=>?_
 rcases cd hM with ⟨t,hM⟩ | ⟨t,hM⟩
 ·exact fz
 refine ai hS fun a hS=>?_
 obtain ⟨F,k,hM⟩:=bd hM
 refine kc hS Bk (rY _ _ hS.dlt b d _ (hS.get 1 rfl) _ k) fun _ w hR a hk hA=>?_
 obtain rfl:=hR
 have hS:=bM hA
 refine ai hS fun a hS=>?_
 rcases cd hM with ⟨u,hM⟩ | ⟨u,hM⟩
 ·exact fz
 refine ai hS fun a hS=>?_
 obtain ⟨G,l,hM⟩:=bd hM
 refine kc hS s7 (cq _ _ hS.dlt d _ l) fun _ w hR a hk hA=>?_
 obtain rfl:=hR
 have hS:=bM hA
 exact fz
def qA (b:Int):Option ByteArray:=cond ((b:Int) == 14) (some ((ByteArray.mk #[48]))) (some ((ByteArray.mk #[])))
theorem vI (T:Nat→Prop) (W0:World) (hT:TW T W0) (b:Int) (y:ByteArray) (hM:qA b=some y):aY Tryz.prog No 273 [.int .i64 b] W0 (fun v w'=>v = .string y):=by
 refine en Tryz.func273 Tryz.ntmps273 hT fun a hS=>?_
 unfold qA at hM
 refine ai hS fun a hS=>?_
 refine aw ?_
 exact fz
def ix (b:ae):Option ByteArray:=cond ((b.Kind:Int) == 32) (some ((ByteArray.mk #[48]))) ((bZ b).bind fun c=>cond c ((qA b.Kind).bind fun d=>some (d)) (some ((ByteArray.mk #[]))))
theorem o6 (T:Nat→Prop) (W0:World) (hT:TW T W0) (b:ae) (y:ByteArray) (hM:ix b=some y):aY Tryz.prog No 198 [.agg (aS b).toArray] W0 (fun v w'=>v = .string y):=by
 refine en Tryz.func198 Tryz.ntmps198 hT fun a hS=>?_
 unfold ix at hM
 refine ai hS fun a hS=>?_
 refine kb hS fun g h a w hk hS=>?_
 refine ai hS fun a hS=>?_
 refine aw ?_
 refine ai hS fun a hS=>?_
 rcases cd hM with ⟨e,hM⟩ | ⟨e,hM⟩
 ·exact fz
 refine ai hS fun a hS=>?_
 obtain ⟨i,c,hM⟩:=bd hM
 refine kc hS s7 (cq _ _ hS.dlt b _ c) fun _ w hR a hk hA=>?_
 obtain rfl:=hR
 have hS:=bM hA
 refine ai hS fun a hS=>?_
 rcases cd hM with ⟨f,hM⟩ | ⟨f,hM⟩
 ·refine ai hS fun a hS=>?_
  obtain ⟨j,d,hM⟩:=bd hM
  refine kc hS GV (vI _ _ hS.dlt b.Kind _ d) fun _ w hR a hk hA=>?_
  obtain rfl:=hR
  have hS:=bM hA
  exact fz
 exact fz
def lr (vrec:aj→ae→Option (ByteArray×aj)):Prop:=∀ (T:Nat→Prop) (W0:World) (hT:∀ k,T k→k < W0.heap.size) (t:aj) (u:ae) (d:Nat) (n:Value) (o:Value) (p:Value) (b:Nat) (f:Array MapEntry) (h:Nat) (c:Nat) (g:Array MapEntry) (e:Nat) (hD:vB T W0 [.box d [n,.int .i64 t.Base.Revision,o,p,.map (some b),.map (some c)] 146,.obj b (.map f h),.obj c (.map g e)]) (A:aB aq (dT T [.box d [n,.int .i64 t.Base.Revision,o,p,.map (some b),.map (some c)] 146,.obj b (.map f h),.obj c (.map g e)]) W0 n t.Rules) (B:aB ac (dT T [.box d [n,.int .i64 t.Base.Revision,o,p,.map (some b),.map (some c)] 146,.obj b (.map f h),.obj c (.map g e)]) W0 o t.Base.Inputs) (C:aB aa (dT T [.box d [n,.int .i64 t.Base.Revision,o,p,.map (some b),.map (some c)] 146,.obj b (.map f h),.obj c (.map g e)]) W0 p t.Base.Records) (x:bw ad true aR.str false (dT T [.box d [n,.int .i64 t.Base.Revision,o,p,.map (some b),.map (some c)] 146,.obj b (.map f h),.obj c (.map g e)]) W0 f t.Memo) (z:bw ad true (aR.slice ad) false (dT T [.box d [n,.int .i64 t.Base.Revision,o,p,.map (some b),.map (some c)] 146,.obj b (.map f h),.obj c (.map g e)]) W0 g t.Seen) (hLv:c6 (dT T [.box d [n,.int .i64 t.Base.Revision,o,p,.map (some b),.map (some c)] 146,.obj b (.map f h),.obj c (.map g e)]) W0) (y:ByteArray×aj) (hM:vrec t u=some y),aY Tryz.prog (MD [.box d [n,.int .i64 t.Base.Revision,o,p,.map (some b),.map (some c)] 146,.obj b (.map f h),.obj c (.map g e)]) 152 [.pointer (some ⟨d,0,none⟩),.agg #[.int .i64 u.Kind,.string u.Text]] W0 (fun v w'=>∃ (q:Value) (r:Value) (s:Value) (i:Array MapEntry) (l:Nat) (j:Array MapEntry) (m:Nat),v = .string y.1∧n8 W0 w' [.box d [n,.int .i64 t.Base.Revision,o,p,.map (some b),.map (some c)] 146,.obj b (.map f h),.obj c (.map g e)] [.box d [q,.int .i64 y.2.Base.Revision,r,s,.map (some b),.map (some c)] 146,.obj b (.map i l),.obj c (.map j m)]∧aB aq (dT T [.box d [q,.int .i64 y.2.Base.Revision,r,s,.map (some b),.map (some c)] 146,.obj b (.map i l),.obj c (.map j m)]) w' q y.2.Rules∧aB ac (dT T [.box d [q,.int .i64 y.2.Base.Revision,r,s,.map (some b),.map (some c)] 146,.obj b (.map i l),.obj c (.map j m)]) w' r y.2.Base.Inputs∧aB aa (dT T [.box d [q,.int .i64 y.2.Base.Revision,r,s,.map (some b),.map (some c)] 146,.obj b (.map i l),.obj c (.map j m)]) w' s y.2.Base.Records∧bw ad true aR.str false (dT T [.box d [q,.int .i64 y.2.Base.Revision,r,s,.map (some b),.map (some c)] 146,.obj b (.map i l),.obj c (.map j m)]) w' i y.2.Memo∧bw ad true (aR.slice ad) false (dT T [.box d [q,.int .i64 y.2.Base.Revision,r,s,.map (some b),.map (some c)] 146,.obj b (.map i l),.obj c (.map j m)]) w' j y.2.Seen)
def jd (b:LU) (c:Int) (d:LI) (e:LR) (f:LL) (g:LB):Option aj:=some ((aj.mk b (ah.mk c d e) g f))
def ga (f:LB) (d:LK) (b:Int) (e:LB):Option (Fl (Int×LB) (LB)):=cond (decide ((b:Int) < (d.length:Int))) ((bm d b).bind fun c=>(some ((bH aA c f).getD (ByteArray.mk #[]))).bind fun g=>some (.go (IntKind.i64.wrap (b + 1),(cX aA c g e)))) (some (.out e))
def ej (b:LB) (c:LK) (d:LU) (e:Int) (f:LI) (g:LR) (i:LB) (h:LL):Option aj:=(loop (fun s:Int×LB=>ga b c s.1 s.2) (0,i)).bind fun r=>jd d e f g h r
def f9 (b:LB) (d:LK) (c:Bool) (e:LU) (f:Int) (g:LI) (h:LR) (i:LB) (j:LL):Option (Fl (LB×LK×Bool×LU×Int×LI×LR×LB×LL) (LB×LK×LU×Int×LI×LR×LB×LL)):=some (.go (b,d,c,e,f,g,h,i,j))
def de (d:Int) (b:LB) (e:LK) (c:Bool) (f:LU) (g:Int) (h:LI) (i:LR) (j:LB) (k:LL):Option (Fl (LB×LK×Bool×Int×LU×Int×LI×LR×LB×LL) (LB×LK×Bool×LU×Int×LI×LR×LB×LL)):=some (.go (b,e,c,IntKind.i64.wrap (d + 1),f,g,h,i,j,k))
def ek (b:Int) (d:LB) (c:LK) (l:Bool) (e:LU) (f:Int) (g:LI) (h:LR) (i:LB) (j:LL) (p:Bool) (k:ByteArray) (q:Int) (r:ByteArray):Option (Fl (LB×LK×Bool×Int×LU×Int×LI×LR×LB×LL) (LB×LK×Bool×LU×Int×LI×LR×LB×LL)):=(bm c b).bind fun m=>(some ((bH aA m d).getD (ByteArray.mk #[]))).bind fun o=>cond (!(o.toList == k.toList)) ((bm c b).bind fun n=>de b (cX aA n k d) c true e f g h i j) (de b d c l e f g h i j)
def cj (j:Int) (c:LY) (g:LB) (e:LK) (h:Bool) (d:ByteArray) (f:LU) (k:Int) (l:LI) (m:LR) (n:LB) (o:LL):Option (Fl (LB×LK×Bool×LY×LU×Int×LI×LR×LB×LL×Bool×ByteArray×Int×ByteArray) (LB×LK×Bool×LU×Int×LI×LR×LB×LL×Bool×ByteArray×Int×ByteArray)):=gd (bG (c.length + ([d]).length)) <| (bm e j).bind fun i=>(dz f i (c ++ ([d]))).bind fun b=>some (.go (g,e,h,(c ++ ([d])),f,k,l,m,n,o,b.Done,b.Value,b.Ask.Kind,b.Ask.Text))
def df (e:Int) (c:LY) (g:LU) (h:Int) (i:LI) (j:LR) (k:LB) (l:LL) (m:Int) (n:ByteArray) (b:LB) (f:LK) (d:Bool):Option (Fl (LB×LK×Bool×LY×LU×Int×LI×LR×LB×LL×Bool×ByteArray×Int×ByteArray) (LB×LK×Bool×LU×Int×LI×LR×LB×LL×Bool×ByteArray×Int×ByteArray)):=(some ((bH aA (ae.mk m n) b).getD (ByteArray.mk #[]))).bind fun o=>cj e c b f d o g h i j k l
def dg (vrec:aj→ae→Option (ByteArray×aj)) (o:Int) (d:LB) (g:LK) (n:Bool) (m:LY) (h:LU) (i:Int) (j:LI) (k:LR) (e:LB) (l:LL) (p:Bool) (q:ByteArray) (b:Int) (c:ByteArray):Option (Fl (LB×LK×Bool×LY×LU×Int×LI×LR×LB×LL×Bool×ByteArray×Int×ByteArray) (LB×LK×Bool×LU×Int×LI×LR×LB×LL×Bool×ByteArray×Int×ByteArray)):=cond (!(p)) ((some ((bH aA (ae.mk b c) e).getD (ByteArray.mk #[]))).bind fun r=>cond ((bH aA (ae.mk b c) e).isSome) (cj o m d g n r h i j k e l) ((bZ (ae.mk b c)).bind fun s=>cond (!(s)) ((vrec (aj.mk h (ah.mk i j k) e l) (ae.mk b c)).bind fun f=>cj o m d g n f.1 f.2.Rules f.2.Base.Revision f.2.Base.Inputs f.2.Base.Records f.2.Memo f.2.Seen) ((some ((bH aA (ae.mk b c) d).getD (ByteArray.mk #[]))).bind fun u=>cond (!((bH aA (ae.mk b c) d).isSome)) ((ix (ae.mk b c)).bind fun t=>gd (bG (g.length + ([(ae.mk b c)]).length)) <| df o m h i j k e l b c (cX aA (ae.mk b c) t d) (g ++ ([(ae.mk b c)])) true) (df o m h i j k e l b c d g n)))) (some (.out (d,g,n,h,i,j,k,e,l,p,q,b,c)))
def fo (vrec:aj→ae→Option (ByteArray×aj)) (c:LB) (e:LK) (d:Bool) (b:Int) (f:LU) (g:Int) (h:LI) (i:LR) (j:LB) (k:LL) (l:Bool) (m:ByteArray) (n:Int) (o:ByteArray):Option (Fl (LB×LK×Bool×Int×LU×Int×LI×LR×LB×LL) (LB×LK×Bool×LU×Int×LI×LR×LB×LL)):=(loop (fun s:LB×LK×Bool×LY×LU×Int×LI×LR×LB×LL×Bool×ByteArray×Int×ByteArray=>dg vrec b s.1 s.2.1 s.2.2.1 s.2.2.2.1 s.2.2.2.2.1 s.2.2.2.2.2.1 s.2.2.2.2.2.2.1 s.2.2.2.2.2.2.2.1 s.2.2.2.2.2.2.2.2.1 s.2.2.2.2.2.2.2.2.2.1 s.2.2.2.2.2.2.2.2.2.2.1 s.2.2.2.2.2.2.2.2.2.2.2.1 s.2.2.2.2.2.2.2.2.2.2.2.2.1 s.2.2.2.2.2.2.2.2.2.2.2.2.2) (c,e,d,([]:List ByteArray),f,g,h,i,j,k,l,m,n,o)).bind fun r=>ek b r.1 r.2.1 r.2.2.1 r.2.2.2.1 r.2.2.2.2.1 r.2.2.2.2.2.1 r.2.2.2.2.2.2.1 r.2.2.2.2.2.2.2.1 r.2.2.2.2.2.2.2.2.1 r.2.2.2.2.2.2.2.2.2.1 r.2.2.2.2.2.2.2.2.2.2.1 r.2.2.2.2.2.2.2.2.2.2.2.1 r.2.2.2.2.2.2.2.2.2.2.2.2
def dR (vrec:aj→ae→Option (ByteArray×aj)) (f:LB) (b:LK) (g:Bool) (d:Int) (e:LU) (h:Int) (i:LI) (j:LR) (k:LB) (l:LL):Option (Fl (LB×LK×Bool×Int×LU×Int×LI×LR×LB×LL) (LB×LK×Bool×LU×Int×LI×LR×LB×LL)):=cond (decide ((d:Int) < (b.length:Int))) ((bm b d).bind fun m=>(dz e m ([])).bind fun c=>fo vrec f b g d e h i j k l c.Done c.Value c.Ask.Kind c.Ask.Text) (some (.out (f,b,g,e,h,i,j,k,l)))
def dS (vrec:aj→ae→Option (ByteArray×aj)) (b:LB) (c:LK) (j:Bool) (d:LU) (e:Int) (f:LI) (g:LR) (h:LB) (i:LL):Option (Fl (LB×LK×Bool×LU×Int×LI×LR×LB×LL) (LB×LK×LU×Int×LI×LR×LB×LL)):=cond j ((loop (fun s:LB×LK×Bool×Int×LU×Int×LI×LR×LB×LL=>dR vrec s.1 s.2.1 s.2.2.1 s.2.2.2.1 s.2.2.2.2.1 s.2.2.2.2.2.1 s.2.2.2.2.2.2.1 s.2.2.2.2.2.2.2.1 s.2.2.2.2.2.2.2.2.1 s.2.2.2.2.2.2.2.2.2) (b,c,false,0,d,e,f,g,h,i)).bind fun r=>f9 r.1 r.2.1 r.2.2.1 r.2.2.2.1 r.2.2.2.2.1 r.2.2.2.2.2.1 r.2.2.2.2.2.2.1 r.2.2.2.2.2.2.2.1 r.2.2.2.2.2.2.2.2) (some (.out (b,c,d,e,f,g,h,i)))
def fp (vrec:aj→ae→Option (ByteArray×aj)) (b:aj) (d:ae) (c:LB):Option aj:=(loop (fun s:LB×LK×Bool×LU×Int×LI×LR×LB×LL=>dS vrec s.1 s.2.1 s.2.2.1 s.2.2.2.1 s.2.2.2.2.1 s.2.2.2.2.2.1 s.2.2.2.2.2.2.1 s.2.2.2.2.2.2.2.1 s.2.2.2.2.2.2.2.2) (c,[d],true,b.Rules,b.Base.Revision,b.Base.Inputs,b.Base.Records,b.Memo,b.Seen)).bind fun r=>ej r.1 r.2.1 r.2.2.1 r.2.2.2.1 r.2.2.2.2.1 r.2.2.2.2.2.1 r.2.2.2.2.2.2.1 r.2.2.2.2.2.2.2
def fT (vrec:aj→ae→Option (ByteArray×aj)) (d:aj) (b:ae):Option aj:=(ix b).bind fun c=>fp vrec d b (cX aA b c ([]:LB))
theorem qF (T:Nat→Prop) (W0:World) (hT:TW T W0) (vrec:aj→ae→Option (ByteArray×aj)) (hvrec:lr vrec) (n:aj) (C:ae) (d:Nat) (z:Value) (A:Value) (B:Value) (b:Nat) (q:Array MapEntry) (r:Nat) (e:Nat) (o:Array MapEntry) (p:Nat) (hD:vB T W0 [xS d z n.Base.Revision A B b e,om b q r,om e o p]) (w5:aB aq (dT T [xS d z n.Base.Revision A B b e,om b q r,om e o p]) W0 z n.Rules) (wf:aB ac (dT T [xS d z n.Base.Revision A B b e,om b q r,om e o p]) W0 A n.Base.Inputs) (wk:aB aa (dT T [xS d z n.Base.Revision A B b e,om b q r,om e o p]) W0 B n.Base.Records) (p1:bw ad true aR.str false (dT T [xS d z n.Base.Revision A B b e,om b q r,om e o p]) W0 q n.Memo) (w0:bw ad true (aR.slice ad) false (dT T [xS d z n.Base.Revision A B b e,om b q r,om e o p]) W0 o n.Seen) (hLv:c6 (dT T [xS d z n.Base.Revision A B b e,om b q r,om e o p]) W0) (y:aj) (hM:fT vrec n C=some y):aY Tryz.prog (MD [xS d z n.Base.Revision A B b e,om b q r,om e o p]) 165 [pt d 0,.agg (aS C).toArray] W0 (fun v w'=>∃ (cl:Value) (co:Value) (cs:Value) (a0:Array MapEntry) (av:Nat) (X:Array MapEntry) (ao:Nat),v = .tuple #[]∧n8 W0 w' [xS d z n.Base.Revision A B b e,om b q r,om e o p] [xS d cl y.Base.Revision co cs b e,om b a0 av,om e X ao]∧aB aq (dT T [xS d cl y.Base.Revision co cs b e,om b a0 av,om e X ao]) w' cl y.Rules∧aB ac (dT T [xS d cl y.Base.Revision co cs b e,om b a0 av,om e X ao]) w' co y.Base.Inputs∧aB aa (dT T [xS d cl y.Base.Revision co cs b e,om b a0 av,om e X ao]) w' cs y.Base.Records∧bw ad true aR.str false (dT T [xS d cl y.Base.Revision co cs b e,om b a0 av,om e X ao]) w' a0 y.Memo∧bw ad true (aR.slice ad) false (dT T [xS d cl y.Base.Revision co cs b e,om b a0 av,om e X ao]) w' X y.Seen):=by
 refine kk (c:=_) Tryz.func165 rfl T 135 Tryz.ntmps165 hT rfl hD fun a hS=>?_
 replace hS:=hS.fact bu hLv
 replace hS:=hS.fS w5
 replace hS:=hS.fS wf
 replace hS:=hS.fS wk
 replace hS:=hS.fM p1
 replace hS:=hS.fM w0
 unfold fT at hM
 refine ai hS fun a hS=>?_
 refine kb hS fun m0 FD a w hk hS=>?_
 refine ai hS fun a hS=>?_
 refine aI (J:=fun a w=>∃ (f6:LB) (f:Nat) (e2:AM) (g0:Nat),St W0 (MD [xS d z n.Base.Revision A B b e,om b q r,om e o p]) T 135 [(0,pt d 0),(3,pt m0 0),(4,.map (some f))] [om f e2 g0,om b q r,om e o p,xS d z n.Base.Revision A B b e,.box m0 (aS C) 35] [lL e2 f6,tC e2 g0,aJ aq z n.Rules,aJ ac A n.Base.Inputs,aJ aa B n.Base.Records,lL q n.Memo,oK o n.Seen,bu] a w∧fp vrec n C f6=some y) ?_ ?_
 ·skip
  refine dr [(4,.any)] hS fun w hQ hS=>?_
  refine gE [1,2] hS fun a hS=>?_
  obtain ⟨ey,lV,hM⟩:=bd hM
  refine dU (i:=0) (j:=3) rfl rfl (by kernel_rfl) rfl rfl ?_ ?_
  ·skip
   skip
   refine id (uV ad true aR.str false hS rfl fun wp FE a w hk hS=>⟨fx (hk),?_⟩)
   refine ec 3 hS Bm (o6 _ _ hS.dlt C _ lV) fun _ w hR a hk hA=>?_
   obtain rfl:=hR
   have hS:=bM hA
   refine e1 4 (uU hS rU dE 0 rfl 1 rfl 0 rfl (c:=(aS C)) (cv:=[.string ey]) (key:=C) (val:=ey) rfl rfl rfl rfl rfl fun rd ra w hk hS=>⟨kp rfl hk rA,?_⟩)
   refine gE [5,6] hS fun a hS=>?_
   refine eD ?_
   exact ⟨_,_,_,_,hS.mt [0,3,4,2,1] [1,0,8,7,6,5,4,9],hM⟩
  skip
  refine id (a7 hS Bm rfl rfl (o6 _ _ hS.dlt C _ lV) fun _ w hR a hk hA=>⟨fx (hk),?_⟩)
  obtain rfl:=hR
  have hS:=bM hA
  refine e1 0 (uV ad true aR.str false hS rfl fun x0 FF a w hk hS=>⟨fx (hk),?_⟩)
  refine e1 4 (uU hS rU dE 0 rfl 1 rfl 0 rfl (c:=(aS C)) (cv:=[.string ey]) (key:=C) (val:=ey) rfl rfl rfl rfl rfl fun rd ra w hk hS=>⟨kp rfl hk rA,?_⟩)
  refine gE [5,6] hS fun a hS=>?_
  refine eD ?_
  exact ⟨_,_,_,_,hS.mt [0,3,4,2,1] [1,0,8,7,6,5,4,9],hM⟩
 rintro a w ⟨f6,f,e2,g0,hS,hM⟩
 unfold fp at hM
 refine ai hS fun a hS=>?_
 refine wl rfl (aZ (ps:=[(0,.tmp 21)]) hS iq gM (zl:=[.int .i64 0,.string (ByteArray.mk #[])]) (by kernel_rfl) rfl (us:=[(aS C)]) ⟨rfl,trivial⟩ (ws:=(aS C)) rfl rfl rfl rfl fun x1 a w hk hS=>?_)
 refine ai hS fun a hS=>?_
 refine aI (J:=fun a w=>∃ (b5:LB) (ax:LK) (az:LU) (b0:Int) (b1:LI) (b2:LR) (hs:LB) (b3:LL) (Y:AM) (bb:Nat) (d0:Value) (bi:LV) (h7:AM) (m1:Nat) (H:AM) (bl:Nat) (P:Value) (Q:Value) (S:Value),St W0 (MD [xS d z n.Base.Revision A B b e,om b q r,om e o p]) T 135 [(0,pt d 0),(4,.map (some f)),(5,d0)] [om f Y bb,au d0 bi,om b h7 m1,om e H bl,xS d P b0 Q S b e] [lL Y b5,tC Y bb,am ad bi ax,aJ aq P az,aJ ac Q b1,aJ aa S b2,lL h7 hs,oK H b3,bu] a w∧ej b5 ax az b0 b1 b2 hs b3=some y) ?_ ?_
 ·skip
  refine ai hS fun a hS=>?_
  replace hS:=hS.lit (R:=ad) (us:=(aS C)) (xs:=[C]) 0 rfl (by decide) (aD.one_ (R:=ad) (x:=C) rfl) rfl rfl
  obtain ⟨r1,os,hMo1⟩:=bd hM
  refine bB _ (fun s a w=>∃ (b6:LB) (c4:LK) (dl:Bool) (c5:LU) (c9:Int) (ca:LI) (cb:LR) (ch:LB) (ck:LL) (e3:AM) (g1:Nat) (it:Value) (g2:LV) (h8:AM) (m2:Nat) (h9:AM) (md:Nat) (jb:Value) (jc:Value) (js:Value),(b6,c4,dl,c5,c9,ca,cb,ch,ck)=s∧St W0 (MD [xS d z n.Base.Revision A B b e,om b q r,om e o p]) T 135 [(0,pt d 0),(4,.map (some f)),(5,it),(6,.bool dl)] [om f e3 g1,au it g2,om b h8 m2,om e h9 md,xS d jb c9 jc js b e] [lL e3 b6,tC e3 g1,am ad g2 c4,aJ aq jb c5,aJ ac jc ca,aJ aa js cb,lL h8 ch,oK h9 ck,bu] a w) os ⟨_,_,_,_,_,_,_,_,_,_,_,_,_,_,_,_,_,_,_,_,rfl,hS.mt [1,0,2,3,4] [1,2,0,3,4,5,6,7,8]⟩ ?_
  rintro s a w f1 ⟨b6,c4,dl,c5,c9,ca,cb,ch,ck,e3,g1,it,g2,h8,m2,h9,md,jb,jc,js,rfl,hS⟩ hM hf1
  have hM:dS vrec b6 c4 dl c5 c9 ca cb ch ck=some f1:=hM
  unfold dS at hM
  refine aw ?_
  refine ai hS fun a hS=>?_
  rcases cd hM with ⟨rl,hM⟩ | ⟨rl,hM⟩
  ·refine Hd hS fun a hS=>?_
   refine Cw (J:=fun a w=>∃ (ez:LB) (hl:LK) (fd:Bool) (ht:LU) (hu:Int) (hv:LI) (hw:LR) (hx:LB) (hy:LL) (e4:AM) (g3:Nat) (k0:Value) (g4:LV) (ha:AM) (ms:Nat) (hb:AM) (mv:Nat) (k1:Value) (k2:Value) (k3:Value),St W0 (MD [xS d z n.Base.Revision A B b e,om b q r,om e o p]) T 135 [(0,pt d 0),(4,.map (some f)),(5,k0),(6,.bool fd)] [om f e4 g3,au k0 g4,om b ha ms,om e hb mv,xS d k1 hu k2 k3 b e] [lL e4 ez,tC e4 g3,am ad g4 hl,aJ aq k1 ht,aJ ac k2 hv,aJ aa k3 hw,lL ha hx,oK hb hy,bu] a w∧f9 ez hl fd ht hu hv hw hx hy=some f1) ?_ ?_
   ·skip
    refine ai hS fun a hS=>?_
    obtain ⟨r2,w2,hMo2⟩:=bd hM
    refine bB _ (fun s a w=>∃ (U:LB) (a1:LK) (V:Bool) (t:Int) (G:LU) (a2:Int) (a3:LI) (a4:LR) (a5:LB) (a9:LL) (Z:AM) (bq:Nat) (d1:Value) (bs:LV) (c0:AM) (g5:Nat) (c1:AM) (g6:Nat) (d2:Value) (d3:Value) (d4:Value),(U,a1,V,t,G,a2,a3,a4,a5,a9)=s∧St W0 (MD [xS d z n.Base.Revision A B b e,om b q r,om e o p]) T 135 [(0,pt d 0),(4,.map (some f)),(5,d1),(6,.bool V),(7,.int .i64 t)] [om f Z bq,au d1 bs,om b c0 g5,om e c1 g6,xS d d2 a2 d3 d4 b e] [lL Z U,tC Z bq,am ad bs a1,aJ aq d2 G,aJ ac d3 a3,aJ aa d4 a4,lL c0 a5,oK c1 a9,bu] a w) w2 ⟨_,_,_,_,_,_,_,_,_,_,_,_,_,_,_,_,_,_,_,_,_,rfl,hS.mt [0,1,2,3,4] [0,1,2,3,4,5,6,7,8]⟩ ?_
    rintro s a w f2 ⟨U,a1,V,t,G,a2,a3,a4,a5,a9,Z,bq,d1,bs,c0,g5,c1,g6,d2,d3,d4,rfl,hS⟩ hM hf2
    have hM:dR vrec U a1 V t G a2 a3 a4 a5 a9=some f2:=hM
    unfold dR at hM
    refine aw ?_
    refine ai hS fun a hS=>?_
    rcases cd hM with ⟨rm,hM⟩ | ⟨rm,hM⟩
    ·refine ai hS fun a hS=>?_
     refine aI (J:=fun a w=>∃ (eT:LB) (hm:LK) (fl:Bool) (hz:LU) (hB:Int) (hC:LI) (hE:LR) (hF:LB) (hG:LL) (e5:AM) (g7:Nat) (k4:Value) (g8:LV) (hc:AM) (n0:Nat) (hd:AM) (n1:Nat) (ks:Value) (kt:Value) (kv:Value),St W0 (MD [xS d z n.Base.Revision A B b e,om b q r,om e o p]) T 135 [(0,pt d 0),(4,.map (some f)),(5,k4),(6,.bool fl),(7,.int .i64 t)] [om f e5 g7,au k4 g8,om b hc n0,om e hd n1,xS d ks hB kt kv b e] [lL e5 eT,tC e5 g7,am ad g8 hm,aJ aq ks hz,aJ ac kt hC,aJ aa kv hE,lL hc hF,oK hd hG,bu] a w∧de t eT hm fl hz hB hC hE hF hG=some f2) ?_ ?_
     ·skip
      refine ai hS fun a hS=>?_
      refine aI (J:=fun a w=>∃ (i5:Bool) (i9:ByteArray) (ib:Int) (ih:ByteArray) (u:Nat),St W0 (MD [xS d z n.Base.Revision A B b e,om b q r,om e o p]) T 135 [(0,pt d 0),(4,.map (some f)),(5,d1),(6,.bool V),(7,.int .i64 t),(8,.slice none 0 0),(9,pt u 0)] [om f Z bq,au d1 bs,om b c0 g5,om e c1 g6,xS d d2 a2 d3 d4 b e,.box u [.bool i5,.string i9,.int .i64 ib,.string ih] 173] [lL Z U,tC Z bq,am ad bs a1,aJ aq d2 G,aJ ac d3 a3,aJ aa d4 a4,lL c0 a5,oK c1 a9,bu] a w∧fo vrec U a1 V t G a2 a3 a4 a5 a9 i5 i9 ib ih=some f2) ?_ ?_
      ·skip
       obtain ⟨N285,p0⟩:∃ N,N=w.heap.size:=⟨_,rfl⟩
       replace hS:=hS.fact (Ak N285) (Nat.le_of_eq p0)
       refine dr [(11,.new N285)] hS fun w hQ hS=>?_
       refine gE [0,1,2,3,4,5] hS fun a hS=>?_
       obtain ⟨e0,p6,hM⟩:=bd hM
       obtain ⟨q3,v7,FI,xx,rs,rt,rv,rO⟩:=ni (R:=ad) hS nI fY 1 rfl 3 rfl p6
       obtain rfl:=rs
       refine dy 6 (v:=pt q3 v7) rfl (by kernel_rfl) (by kernel_rfl) (by kernel_rfl) rfl hQ hS (rO rfl rfl) rfl rfl rfl fun a hS=>?_
       refine dy (l:=[]) 7 (v:=.agg (aS e0).toArray) rfl (by kernel_rfl) (by kernel_rfl) (by kernel_rfl) (by kernel_rfl) hQ hS (cg (k:=0) hS fY 1 rfl rt rv rfl bE (us:=(aS e0)) rfl rfl (fun h=>by cases h)) rfl rfl rfl fun a hS=>?_
       refine gE [8] hS fun a hS=>?_
       replace hS:=hS.fact (aJ aR.str (.slice none 0 0) []) (aB.nil_ _ _ _)
       obtain ⟨ZF,lv,hM⟩:=bd hM
       refine dU (i:=9) (j:=10) rfl rfl (by kernel_rfl) rfl rfl ?_ ?_
       ·skip
        skip
        refine id (a7 hS sg rfl rfl (fq _ _ hS.dlt (hS.get 10 rfl) G e0 ([]) _ _ (hS.get 5 rfl) (hS.get 0 rfl) _ lv) fun _ w hR a hk hA=>⟨fx (hk),?_⟩)
        obtain rfl:=hR
        have hS:=bM hA
        have s0:=(hS.get 1 rfl:N285≤w.heap.size)
        refine e1 10 (cE hS mw rfl fun q4 s1 a w hk hS=>⟨fx (hk),?_⟩)
        refine cN 11 (.blk (some q4)) _ (by kernel_rfl) (my (Nat.le_trans s0 s1)) ?_
        refine es 11 hS fun w hS=>?_
        refine eD ?_
        exact ⟨_,_,_,_,_,hS.mt [1,2,3,4,5,0] [2,3,4,5,6,7,8,9,10],hM⟩
       skip
       have s2:=(hS.get 1 rfl:N285≤w.heap.size)
       refine id (cE hS mw rfl fun q5 sb a w hk hS=>⟨fx (hk),?_⟩)
       refine cN 11 (.blk (some q5)) _ (by kernel_rfl) (my (Nat.le_trans s2 sb)) ?_
       refine ec 9 hS sg (fq _ _ hS.dlt (hS.get 10 rfl) G e0 ([]) _ _ (hS.get 5 rfl) (hS.get 0 rfl) _ lv) fun _ w hR a hk hA=>?_
       obtain rfl:=hR
       have hS:=bM hA
       refine es 11 hS fun w hS=>?_
       refine eD ?_
       exact ⟨_,_,_,_,_,hS.mt [1,2,3,4,5,0] [2,3,4,5,6,7,8,9,10],hM⟩
      rintro a w ⟨i5,i9,ib,ih,u,hS,hM⟩
      unfold fo at hM
      refine aI (J:=fun a w=>∃ (eX:LB) (hn:LK) (fn:Bool) (hH:LU) (hI:Int) (hK:LI) (hN:LR) (hO:LB) (hP:LL) (i2:Bool) (b4:ByteArray) (i3:Int) (i4:ByteArray) (e8:AM) (gb:Nat) (kx:Value) (gi:LV) (hf:AM) (n2:Nat) (hg:AM) (nd:Nat) (l0:Value) (l1:Value) (l2:Value),St W0 (MD [xS d z n.Base.Revision A B b e,om b q r,om e o p]) T 135 [(0,pt d 0),(4,.map (some f)),(5,kx),(6,.bool fn),(7,.int .i64 t),(9,pt u 0)] [om f e8 gb,au kx gi,om b hf n2,om e hg nd,xS d l0 hI l1 l2 b e,.box u [.bool i2,.string b4,.int .i64 i3,.string i4] 173] [lL e8 eX,tC e8 gb,am ad gi hn,aJ aq l0 hH,aJ ac l1 hK,aJ aa l2 hN,lL hf hO,oK hg hP,bu] a w∧ek t eX hn fn hH hI hK hN hO hP i2 b4 i3 i4=some f2) ?_ ?_
      ·skip
       refine ai hS fun a hS=>?_
       replace hS:=hS.nilRow aR.str 9 (by decide)
       obtain ⟨r3,w3,v6⟩:=bd hM
       refine bB _ (fun s a w=>∃ (ak:LB) (ay:LK) (b9:Bool) (D:LY) (I:LU) (K:Int) (L:LI) (M:LR) (F:LB) (O:LL) (ab:Bool) (af:ByteArray) (g:Int) (m:ByteArray) (ea:AM) (gp:Nat) (la:Value) (gs:LV) (ag:Value) (W:LV) (c2:AM) (gu:Nat) (c3:AM) (h0:Nat) (d6:Value) (dc:Value) (di:Value),(ak,ay,b9,D,I,K,L,M,F,O,ab,af,g,m)=s∧St W0 (MD [xS d z n.Base.Revision A B b e,om b q r,om e o p]) T 135 [(0,pt d 0),(4,.map (some f)),(5,la),(6,.bool b9),(7,.int .i64 t),(8,ag),(9,pt u 0)] [om f ea gp,au la gs,.own ag 9 aR.str.size W,om b c2 gu,om e c3 h0,xS d d6 K dc di b e,.box u [.bool ab,.string af,.int .i64 g,.string m] 173] [lL ea ak,tC ea gp,am ad gs ay,am aR.str W D,aJ aq d6 I,aJ ac dc L,aJ aa di M,lL c2 F,oK c3 O,bu] a w) w3 ⟨_,_,_,_,_,_,_,_,_,_,_,_,_,_,_,_,_,_,_,_,_,_,_,_,_,_,_,rfl,hS.mt [1,2,0,3,4,5,6] [1,2,3,0,4,5,6,7,8,9]⟩ ?_
       rintro s a w f3 ⟨ak,ay,b9,D,I,K,L,M,F,O,ab,af,g,m,ea,gp,la,gs,ag,W,c2,gu,c3,h0,d6,dc,di,rfl,hS⟩ hM w1
       have hM:dg vrec t ak ay b9 D I K L M F O ab af g m=some f3:=hM
       unfold dg at hM
       refine aw ?_
       refine ai hS fun a hS=>?_
       rcases cd hM with ⟨sc,hM⟩ | ⟨sc,hM⟩
       ·refine ai hS fun a hS=>?_
        refine aw ?_
        refine dr [] hS fun w hQ hS=>?_
        refine gE [0,1,2,3,4,5] hS fun a hS=>?_
        obtain ⟨vs,pl,hM⟩:=bd hM
        obtain ⟨y1,sk,sn⟩:=jT hS rU dE 3 rfl 7 rfl (c:=[.int .i64 g,.string m]) (key:=(ae.mk g m)) rfl EC (zc:=[.string (ByteArray.mk #[])]) rfl rfl pl
        obtain rfl:=sk
        refine dy (l:=[]) 6 (v:=.tuple #[.string vs,.bool ((bH aA (ae.mk g m) F).isSome)]) rfl (by kernel_rfl) (by kernel_rfl) (by kernel_rfl) (by kernel_rfl) hQ hS (sn rfl rfl bE) rfl rfl rfl fun a hS=>?_
        refine gE [7,8,9,10,11] hS fun a hS=>?_
        refine eD ?_
        refine ai hS fun a hS=>?_
        refine aI (J:=fun a w=>∃ (f4:LB) (ho:LK) (fr:Bool) (E:ByteArray) (ex:LU) (hV:Int) (hW:LI) (hX:LR) (hY:LB) (i0:LL) (ed:AM) (h1:Nat) (lb:Value) (h2:LV) (hh:AM) (ng:Nat) (hi:AM) (nl:Nat) (le:Value) (ll:Value) (ls:Value),St W0 (MD [xS d z n.Base.Revision A B b e,om b q r,om e o p]) T 135 [(0,pt d 0),(4,.map (some f)),(5,lb),(6,.bool fr),(7,.int .i64 t),(8,ag),(9,pt u 0),(10,.string E)] [om f ed h1,au lb h2,.own ag 9 aR.str.size W,om b hh ng,om e hi nl,xS d le hV ll ls b e,.box u [.bool ab,.string af,.int .i64 g,.string m] 173] [lL ed f4,tC ed h1,am ad h2 ho,am aR.str W D,aJ aq le ex,aJ ac ll hW,aJ aa ls hX,lL hh hY,oK hi i0,bu] a w∧cj t D f4 ho fr E ex hV hW hX hY i0=some f3) ?_ ?_
        ·skip
         refine ai hS fun a hS=>?_
         rcases cd hM with ⟨sp,hM⟩ | ⟨sp,hM⟩
         ·exact fz
         refine ai hS fun a hS=>?_
         obtain ⟨FQ,pw,hM⟩:=bd hM
         refine kc hS s7 (cq _ _ hS.dlt (ae.mk g m) _ pw) fun _ w hR a hk hA=>?_
         obtain rfl:=hR
         have hS:=bM hA
         refine ai hS fun a hS=>?_
         rcases cd hM with ⟨sq,hM⟩ | ⟨sq,hM⟩
         ·refine ai hS fun a hS=>?_
          obtain ⟨FR,q0,hM⟩:=bd hM
          replace hS:=hS.re [5,3,4] [0,1,2,6]
          refine wl rfl (cF hS zI rfl rfl (hvrec _ _ hS.dltD (aj.mk I (ah.mk K L M) F O) (ae.mk g m) _ _ _ _ _ _ _ _ _ _ hS.dok (hS.getD 4 rfl) (hS.getD 5 rfl) (hS.getD 6 rfl) (hS.getD 7 rfl) (hS.getD 8 rfl) (hS.getD 9 rfl) _ q0) fun _ w hR a hk hA=>?_)
          obtain ⟨FT,FU,FV,D1,y2,DD,yv,he,st,oj,ok,op,of,oi⟩:=hR
          obtain rfl:=he.symm
          have hS:=hA _ st
          replace hS:=hS.fS (oj.sub (ap _))
          replace hS:=hS.fS (ok.sub (ap _))
          replace hS:=hS.fS (op.sub (ap _))
          replace hS:=hS.fM (of.keep (Kt.refl _ _) (ap _))
          replace hS:=hS.fM (oi.keep (Kt.refl _ _) (ap _))
          exact fz
         refine ai hS fun a hS=>?_
         refine aI (J:=fun a w=>∃ (f5:LB) (hp:LK) (fs:Bool) (el:AM) (h3:Nat) (lt:Value) (h4:LV),St W0 (MD [xS d z n.Base.Revision A B b e,om b q r,om e o p]) T 135 [(0,pt d 0),(4,.map (some f)),(5,lt),(6,.bool fs),(7,.int .i64 t),(8,ag),(9,pt u 0)] [om f el h3,au lt h4,.own ag 9 aR.str.size W,om b c2 gu,om e c3 h0,xS d d6 K dc di b e,.box u [.bool ab,.string af,.int .i64 g,.string m] 173] [lL el f5,tC el h3,am ad h4 hp,am aR.str W D,aJ aq d6 I,aJ ac dc L,aJ aa di M,lL c2 F,oK c3 O,bu] a w∧df t D I K L M F O g m f5 hp fs=some f3) ?_ ?_
         ·skip
          refine ai hS fun a hS=>?_
          obtain ⟨vx,q1,hM⟩:=bd hM
          obtain ⟨yy,sy,sz⟩:=jT hS rU dE 0 rfl 0 rfl (c:=[.int .i64 g,.string m]) (key:=(ae.mk g m)) rfl EC (zc:=[.string (ByteArray.mk #[])]) rfl rfl q1
          obtain rfl:=sy
          refine wl rfl (ky (v:=.tuple #[.string vx,.bool ((bH aA (ae.mk g m) ak).isSome)]) hS (sz rfl rfl id) rfl rfl fun a hS=>?_)
          refine ai hS fun a hS=>?_
          rcases cd hM with ⟨sT,hM⟩ | ⟨sT,hM⟩
          ·refine ai hS fun a hS=>?_
           refine aw ?_
           refine dr [(6,.blk (some f))] hS fun w hQ hS=>?_
           refine gE [0,1,2,3,4] hS fun a hS=>?_
           obtain ⟨oP,q2,hM⟩:=bd hM
           refine ec 5 hS Bm (o6 _ _ hS.dlt (ae.mk g m) _ q2) fun _ w hR a hk hA=>?_
           obtain rfl:=hR
           have hS:=bM hA
           refine e1 6 (xb hS rU dE 0 rfl 0 rfl 1 rfl (c:=[.int .i64 g,.string m]) (cv:=[.string oP]) (key:=(ae.mk g m)) (val:=oP) rfl rfl rfl rfl rfl fun F0 z0 w hk hS=>⟨kp rfl hk iE,?_⟩)
           refine eD ?_
           refine ai hS fun a hS=>?_
           refine wl rfl (aZ (ps:=[(0,.tmp 70)]) hS iq gM (zl:=[.int .i64 0,.string (ByteArray.mk #[])]) (by kernel_rfl) rfl (us:=[[.int .i64 g,.string m]]) ⟨rfl,trivial⟩ (ws:=[.int .i64 g,.string m]) rfl rfl rfl rfl fun x2 a w hk hS=>?_)
           replace hS:=hS.lit (R:=ad) (us:=[.int .i64 g,.string m]) (xs:=[(ae.mk g m)]) 0 rfl (by decide) (aD.one_ (R:=ad) (x:=(ae.mk g m)) rfl) rfl rfl
           replace hS:=hS.freeze (R:=ad) 0 rfl 0 rfl
           obtain ⟨t0,hM⟩:=ba hM
           refine wl rfl (bC (R:=ad) (xs:=ay) (ys:=[(ae.mk g m)]) hS iq (by decide) (by decide) rfl rfl 1 rfl 6 rfl 0 rfl t0 rfl fun G1 z1 a w hk hS=>?_)
           exact fz
          exact fz
         rintro a w ⟨f5,hp,fs,el,h3,lt,h4,hS,hM⟩
         unfold df at hM
         refine ai hS fun a hS=>?_
         obtain ⟨vc,pk,hM⟩:=bd hM
         obtain ⟨z2,t1,t2⟩:=jT hS rU dE 0 rfl 0 rfl (c:=[.int .i64 g,.string m]) (key:=(ae.mk g m)) rfl EC (zc:=[.string (ByteArray.mk #[])]) rfl rfl pk
         obtain rfl:=t1
         refine wl rfl (ky (v:=.string vc) hS (t2 rfl rfl id) rfl rfl fun a hS=>?_)
         exact fz
        rintro a w ⟨f4,ho,fr,E,ex,hV,hW,hX,hY,i0,ed,h1,lb,h2,hh,ng,hi,nl,le,ll,ls,hS,hM⟩
        unfold cj at hM
        refine ai hS fun a hS=>?_
        refine wl rfl (aZ (ps:=[(0,.tmp 89)]) hS uM HP (zl:=[.string (ByteArray.mk #[])]) (by kernel_rfl) rfl (us:=[[.string E]]) ⟨rfl,trivial⟩ (ws:=[.string E]) rfl rfl rfl rfl fun x3 a w hk hS=>?_)
        replace hS:=hS.lit (R:=aR.str) (us:=[.string E]) (xs:=[E]) 0 rfl (by decide) (aD.one_ (R:=aR.str) (x:=E) rfl) rfl rfl
        replace hS:=hS.freeze (R:=aR.str) 0 rfl 0 rfl
        obtain ⟨t3,hM⟩:=ba hM
        refine wl rfl (bC (R:=aR.str) (xs:=D) (ys:=[E]) hS uM (by decide) (by decide) rfl rfl 2 rfl 5 rfl 0 rfl t3 rfl fun Go z3 a w hk hS=>?_)
        refine ai hS fun a hS=>?_
        refine dr [(10,.blk (some u))] hS fun w hQ hS=>?_
        refine gE [0,1,2,3,4,5] hS fun a hS=>?_
        obtain ⟨h6,p5,hM⟩:=bd hM
        obtain ⟨q6,v8,FJ,z4,t4,t5,t6,t7⟩:=ni (R:=ad) hS nI fY 1 rfl 5 rfl p5
        obtain rfl:=t4
        refine dy 6 (v:=pt q6 v8) rfl (by kernel_rfl) (by kernel_rfl) (by kernel_rfl) rfl hQ hS (t7 rfl rfl) rfl rfl rfl fun a hS=>?_
        refine dy (l:=[]) 7 (v:=.agg (aS h6).toArray) rfl (by kernel_rfl) (by kernel_rfl) (by kernel_rfl) (by kernel_rfl) hQ hS (cg (k:=0) hS fY 1 rfl t5 t6 rfl bE (us:=(aS h6)) rfl rfl (fun h=>by cases h)) rfl rfl rfl fun a hS=>?_
        refine gE [8] hS fun a hS=>?_
        have hL:=hS
        replace hL:=hL.freeze (R:=aR.str) 2 rfl 0 rfl
        obtain ⟨FP,pf,hM⟩:=bd hM
        refine ec 9 hS sg (fq _ _ hL.dlt (hL.get 13 rfl) ex h6 (D ++ ([E])) _ _ (hL.get 8 rfl) (hL.get 0 rfl) _ pf) fun _ w hR a hk hA=>?_
        obtain rfl:=hR
        have hS:=bM hA
        refine es 10 hS fun w hS=>?_
        refine eD ?_
        exact ⟨_,(Option.some.inj hM).symm,_,_,_,_,_,_,_,_,_,_,_,_,_,_,_,_,_,_,_,_,_,_,_,_,_,_,_,rfl,hS.mt [0,1,2,3,4,5,6] [3,4,5,0,7,8,9,10,11,12]⟩
       refine ai hS fun a hS=>?_
       cases hM
       have hr:=w1 _ rfl
       subst hr
       have hM:ek t ak ay b9 I K L M F O ab af g m=some f2:=v6
       exact ⟨_,_,_,_,_,_,_,_,_,_,_,_,_,_,_,_,_,_,_,_,_,_,_,_,hS.mt [0,1,3,4,5,6] [0,1,2,4,5,6,7,8,9],hM⟩
      rintro a w ⟨eX,hn,fn,hH,hI,hK,hN,hO,hP,i2,b4,i3,i4,e8,gb,kx,gi,hf,n2,hg,nd,l0,l1,l2,hS,hM⟩
      unfold ek at hM
      refine aw ?_
      refine dr [] hS fun w hQ hS=>?_
      refine gE [0,1,2] hS fun a hS=>?_
      obtain ⟨dn,p3,hM⟩:=bd hM
      obtain ⟨q7,v9,FK,z5,t9,te,th,tk⟩:=ni (R:=ad) hS nI fY 1 rfl 2 rfl p3
      obtain rfl:=t9
      refine dy 3 (v:=pt q7 v9) rfl (by kernel_rfl) (by kernel_rfl) (by kernel_rfl) rfl hQ hS (tk rfl rfl) rfl rfl rfl fun a hS=>?_
      refine dy (l:=[]) 4 (v:=.agg (aS dn).toArray) rfl (by kernel_rfl) (by kernel_rfl) (by kernel_rfl) (by kernel_rfl) hQ hS (cg (k:=0) hS fY 1 rfl te th rfl bE (us:=(aS dn)) rfl rfl (fun h=>by cases h)) rfl rfl rfl fun a hS=>?_
      obtain ⟨vb,pe,hM⟩:=bd hM
      obtain ⟨z9,tl,tm⟩:=jT hS rU dE 0 rfl 0 rfl (c:=(aS dn)) (key:=dn) rfl EC (zc:=[.string (ByteArray.mk #[])]) rfl rfl pe
      obtain rfl:=tl
      refine dy (l:=[]) 5 (v:=.string vb) rfl (by kernel_rfl) (by kernel_rfl) (by kernel_rfl) (by kernel_rfl) hQ hS (tm rfl rfl bE) rfl rfl rfl fun a hS=>?_
      refine gE [6,7,8] hS fun a hS=>?_
      refine eD ?_
      refine ai hS fun a hS=>?_
      rcases cd hM with ⟨ts,hM⟩ | ⟨ts,hM⟩
      ·refine ai hS fun a hS=>?_
       refine dr [(7,.blk (some f)),(9,.blk (some f))] hS fun w hQ hS=>?_
       refine gE [0,1,2] hS fun a hS=>?_
       obtain ⟨ds,p4,hM⟩:=bd hM
       obtain ⟨r0,va,FL,zb,tt,ty,u1,u2⟩:=ni (R:=ad) hS nI fY 1 rfl 2 rfl p4
       obtain rfl:=tt
       refine dy 3 (v:=pt r0 va) rfl (by kernel_rfl) (by kernel_rfl) (by kernel_rfl) rfl hQ hS (u2 rfl rfl) rfl rfl rfl fun a hS=>?_
       refine dy (l:=[]) 4 (v:=.agg (aS ds).toArray) rfl (by kernel_rfl) (by kernel_rfl) (by kernel_rfl) (by kernel_rfl) hQ hS (cg (k:=0) hS fY 1 rfl ty u1 rfl bE (us:=(aS ds)) rfl rfl (fun h=>by cases h)) rfl rfl rfl fun a hS=>?_
       refine gE [5] hS fun a hS=>?_
       refine dy (l:=[.blk (some f)]) 6 (v:=.string b4) rfl (by kernel_rfl) (by kernel_rfl) (by kernel_rfl) (by kernel_rfl) hQ hS (dV hS rfl DM 5 rfl (iv hS 5 rfl rfl 0 rfl rfl (by decide) bE) (us:=[.string b4]) rfl rfl (fun _=>rfl)) rfl rfl rfl fun a hS=>?_
       refine e1 7 (AE hS rfl rU dE 0 rfl 0 rfl 1 rfl (c:=(aS ds)) (key:=ds) rfl EC (zc:=[.string (ByteArray.mk #[])]) rfl rfl rfl rfl fun Ha FA ze FO a w hk hS=>⟨kp rfl hk iE,?_⟩)
       refine gE [8] hS fun a hS=>?_
       refine e1 9 (AF (val:=b4) hS 0 rfl 0 rfl rfl rfl rfl rfl fun FB w hk hS=>⟨kp rfl hk iE,?_⟩)
       refine gE [10] hS fun a hS=>?_
       refine eD ?_
       exact ⟨_,_,_,_,_,_,_,_,_,_,_,_,_,_,_,_,_,_,_,_,hS.mt [0,1,2,3,4] [1,0,5,6,7,8,9,10,11],hM⟩
      exact fz
     rintro a w ⟨eT,hm,fl,hz,hB,hC,hE,hF,hG,e5,g7,k4,g8,hc,n0,hd,n1,ks,kt,kv,hS,hM⟩
     unfold de at hM
     exact fz
    refine ai hS fun a hS=>?_
    cases hM
    have hr:=hf2 _ rfl
    subst hr
    have hM:f9 U a1 V G a2 a3 a4 a5 a9=some f1:=hMo2
    exact ⟨_,_,_,_,_,_,_,_,_,_,_,_,_,_,_,_,_,_,_,_,hS.mt [0,1,2,3,4] [0,1,2,3,4,5,6,7,8],hM⟩
   rintro a w ⟨ez,hl,fd,ht,hu,hv,hw,hx,hy,e4,g3,k0,g4,ha,ms,hb,mv,k1,k2,k3,hS,hM⟩
   unfold f9 at hM
   exact ⟨_,(Option.some.inj hM).symm,_,_,_,_,_,_,_,_,_,_,_,_,_,_,_,_,_,_,_,_,rfl,hS.mt [0,1,2,3,4] [0,1,2,3,4,5,6,7,8]⟩
  refine ai hS fun a hS=>?_
  cases hM
  have hr:=hf1 _ rfl
  subst hr
  have hM:ej b6 c4 c5 c9 ca cb ch ck=some y:=hMo1
  exact ⟨_,_,_,_,_,_,_,_,_,_,_,_,_,_,_,_,_,_,_,hS.mt [0,1,2,3,4] [0,1,2,3,4,5,6,7,8],hM⟩
 rintro a w ⟨b5,ax,az,b0,b1,b2,hs,b3,Y,bb,d0,bi,h7,m1,H,bl,P,Q,S,hS,hM⟩
 unfold ej at hM
 refine jO ?_
 refine Hd hS fun a hS=>?_
 refine Cw (J:=fun a w=>∃ (hq:LB) (eq:AM) (h5:Nat),St W0 (MD [xS d z n.Base.Revision A B b e,om b q r,om e o p]) T 135 [] [om b eq h5,om e H bl,xS d P b0 Q S b e] [aJ aq P az,aJ ac Q b1,aJ aa S b2,lL eq hq,oK H b3,bu] a w∧jd az b0 b1 b2 b3 hq=some y) ?_ ?_
 ·skip
  refine ai hS fun a hS=>?_
  obtain ⟨r1,os,hMo1⟩:=bd hM
  refine bB _ (fun s a w=>∃ (er:Int) (et:LB) (hj:AM) (nm:Nat),(er,et)=s∧St W0 (MD [xS d z n.Base.Revision A B b e,om b q r,om e o p]) T 135 [(0,pt d 0),(4,.map (some f)),(120,d0),(121,.int .i64 (ax.length:Int)),(122,.int .i64 er)] [om f Y bb,au d0 bi,om b hj nm,om e H bl,xS d P b0 Q S b e] [lL Y b5,tC Y bb,am ad bi ax,aJ aq P az,aJ ac Q b1,aJ aa S b2,lL hj et,oK H b3,bu] a w) os ⟨_,_,_,_,rfl,hS.mt [0,1,2,3,4] [0,1,2,3,4,5,6,7,8]⟩ ?_
  rintro s a w f1 ⟨er,et,hj,nm,rfl,hS⟩ hM hf1
  have hM:ga b5 ax er et=some f1:=hM
  unfold ga at hM
  refine ai hS fun a hS=>?_
  refine aw ?_
  rcases cd hM with ⟨u8,hM⟩ | ⟨u8,hM⟩
  ·refine ai hS fun a hS=>?_
   refine aw ?_
   refine ai hS fun a hS=>?_
   obtain ⟨bt,p2,hM⟩:=bd hM
   refine wl rfl (dI (R:=ad) hS nI fY rfl rfl 1 rfl 2 rfl p2 rfl fun xc FH FM zs up uv v0 a hS=>?_)
   obtain rfl:=up
   refine qy hS (cg (k:=0) hS fY 1 rfl uv v0 rfl id (us:=(aS bt)) rfl rfl (fun h=>by cases h)) fun a hS=>?_
   refine ka hS gM fun xt FG a w hk hS=>?_
   refine go hS fun a w hS=>?_
   refine dr [(8,.blk (some b))] hS fun w hQ hS=>?_
   refine gE [0,1,2,3,4,5,6] hS fun a hS=>?_
   obtain ⟨ii,p7,hM⟩:=bd hM
   obtain ⟨B2,v1,v5⟩:=jT hS rU dE 1 rfl 0 rfl (c:=(aS bt)) (key:=bt) rfl EC (zc:=[.string (ByteArray.mk #[])]) rfl rfl p7
   obtain rfl:=v1
   refine dy (l:=[]) 7 (v:=.string ii) rfl (by kernel_rfl) (by kernel_rfl) (by kernel_rfl) (by kernel_rfl) hQ hS (v5 rfl rfl bE) rfl rfl rfl fun a hS=>?_
   refine e1 8 (uW hS rU dE 3 rfl 6 rfl (c:=(aS bt)) (cv:=[.string ii]) (key:=bt) (val:=ii) rfl rfl rfl rfl rfl fun FC D0 w hk hS=>⟨kp rfl hk iE,?_⟩)
   refine eD ?_
   exact fz
  exact fz
 rintro a w ⟨hq,eq,h5,hS,hM⟩
 unfold jd at hM
 refine EY ?_
 cases hM
 refine aF hS Tryz.results165 aH ?_
 have hZ:=hS.sl [2,0,1] [0,1,2,3,4]
 exact ⟨P,Q,S,eq,h5,H,bl,rfl,hZ.dnew,(hZ.get 0 rfl),(hZ.get 1 rfl),(hZ.get 2 rfl),(hZ.get 3 rfl),(hZ.get 4 rfl)⟩
def ei (vrec:aj→ae→Option (ByteArray×aj)) (n:ae) (c:LY) (d:LU) (e:Int) (f:LI) (g:LR) (h:LB) (i:LL) (k:Bool) (j:ByteArray) (l:Int) (m:ByteArray):Option (Fl (LY×LU×Int×LI×LR×LB×LL) (ByteArray×aj)):=cond k (some (.out (j,(aj.mk d (ah.mk e f g) (cX aA n j h) i)))) ((vrec (aj.mk d (ah.mk e f g) h i) (ae.mk l m)).bind fun b=>gd (bG (c.length + ([b.1]).length)) <| some (.go ((c ++ ([b.1])),b.2.Rules,b.2.Base.Revision,b.2.Base.Inputs,b.2.Base.Records,b.2.Memo,b.2.Seen)))
def f8 (vrec:aj→ae→Option (ByteArray×aj)) (e:ae) (c:LY) (d:LU) (f:Int) (g:LI) (h:LR) (i:LB) (j:LL):Option (Fl (LY×LU×Int×LI×LR×LB×LL) (ByteArray×aj)):=(dz d e c).bind fun b=>ei vrec e c d f g h i j b.Done b.Value b.Ask.Kind b.Ask.Text
def dx (vrec:aj→ae→Option (ByteArray×aj)) (b:aj) (c:ae):Option (ByteArray×aj):=(ci c).bind fun e=>cond e ((mL b.Base c).bind fun f=>some ((f,b))) ((some ((bH aA c b.Memo).getD (ByteArray.mk #[]))).bind fun g=>cond ((bH aA c b.Memo).isSome) (some ((g,b))) ((bZ c).bind fun h=>cond h ((fT vrec b c).bind fun d=>(some ((bH aA c d.Memo).getD (ByteArray.mk #[]))).bind fun i=>some ((i,d))) ((loop (fun s:LY×LU×Int×LI×LR×LB×LL=>f8 vrec c s.1 s.2.1 s.2.2.1 s.2.2.2.1 s.2.2.2.2.1 s.2.2.2.2.2.1 s.2.2.2.2.2.2) (([]:List ByteArray),b.Rules,b.Base.Revision,b.Base.Inputs,b.Base.Records,b.Memo,b.Seen)).bind fun y=>some (y))))
theorem qE (T:Nat→Prop) (W0:World) (hT:TW T W0) (vrec:aj→ae→Option (ByteArray×aj)) (hvrec:lr vrec) (f:aj) (g:ae) (b:Nat) (C:Value) (D:Value) (E:Value) (d:Nat) (k:Array MapEntry) (n:Nat) (e:Nat) (m:Array MapEntry) (h:Nat) (hD:vB T W0 [xS b C f.Base.Revision D E d e,om d k n,om e m h]) (e2:aB aq (dT T [xS b C f.Base.Revision D E d e,om d k n,om e m h]) W0 C f.Rules) (e3:aB ac (dT T [xS b C f.Base.Revision D E d e,om d k n,om e m h]) W0 D f.Base.Inputs) (e4:aB aa (dT T [xS b C f.Base.Revision D E d e,om d k n,om e m h]) W0 E f.Base.Records) (dn:bw ad true aR.str false (dT T [xS b C f.Base.Revision D E d e,om d k n,om e m h]) W0 k f.Memo) (ds:bw ad true (aR.slice ad) false (dT T [xS b C f.Base.Revision D E d e,om d k n,om e m h]) W0 m f.Seen) (hLv:c6 (dT T [xS b C f.Base.Revision D E d e,om d k n,om e m h]) W0) (y:ByteArray×aj) (hM:dx vrec f g=some y):aY Tryz.prog (MD [xS b C f.Base.Revision D E d e,om d k n,om e m h]) 152 [pt b 0,.agg (aS g).toArray] W0 (fun v w'=>∃ (S:Value) (U:Value) (V:Value) (q:Array MapEntry) (F:Nat) (r:Array MapEntry) (G:Nat),v = .string y.1∧n8 W0 w' [xS b C f.Base.Revision D E d e,om d k n,om e m h] [xS b S y.2.Base.Revision U V d e,om d q F,om e r G]∧aB aq (dT T [xS b S y.2.Base.Revision U V d e,om d q F,om e r G]) w' S y.2.Rules∧aB ac (dT T [xS b S y.2.Base.Revision U V d e,om d q F,om e r G]) w' U y.2.Base.Inputs∧aB aa (dT T [xS b S y.2.Base.Revision U V d e,om d q F,om e r G]) w' V y.2.Base.Records∧bw ad true aR.str false (dT T [xS b S y.2.Base.Revision U V d e,om d q F,om e r G]) w' q y.2.Memo∧bw ad true (aR.slice ad) false (dT T [xS b S y.2.Base.Revision U V d e,om d q F,om e r G]) w' r y.2.Seen):=by
 refine kk (c:=_) Tryz.func152 rfl T 64 Tryz.ntmps152 hT rfl hD fun a hS=>?_
 replace hS:=hS.fact bu hLv
 replace hS:=hS.fS e2
 replace hS:=hS.fS e3
 replace hS:=hS.fS e4
 replace hS:=hS.fM dn
 replace hS:=hS.fM ds
 unfold dx at hM
 refine ai hS fun a hS=>?_
 refine kb hS fun X ex a w hk hS=>?_
 refine ai hS fun a hS=>?_
 refine aw ?_
 refine ai hS fun a hS=>?_
 obtain ⟨ez,b1,hM⟩:=bd hM
 refine kc hS uD (dt _ _ hS.dlt g _ b1) fun _ w hR a hk hA=>?_
 obtain rfl:=hR
 have hS:=bM hA
 refine ai hS fun a hS=>?_
 rcases cd hM with ⟨c2,hM⟩ | ⟨c2,hM⟩
 ·refine ai hS fun a hS=>?_
  refine aw ?_
  refine dr [] hS fun w hQ hS=>?_
  refine gE [0,1,2,3,4] hS fun a hS=>?_
  obtain ⟨eT,b2,hM⟩:=bd hM
  refine ec 5 hS EN (qC _ _ hS.dlt f.Base g _ _ (hS.get 3 rfl) (hS.get 2 rfl) _ b2) fun _ w hR a hk hA=>?_
  obtain rfl:=hR
  have hS:=bM hA
  refine gE [6] hS fun a hS=>?_
  refine eD ?_
  refine ai hS fun a hS=>?_
  cases hM
  refine aF hS rfl (ar hS rfl aH) ?_
  have hZ:=hS.sl [1,2,3] [4,3,2,1,0]
  exact ⟨C,D,E,k,n,m,h,rfl,hZ.dnew,(hZ.get 0 rfl),(hZ.get 1 rfl),(hZ.get 2 rfl),(hZ.get 3 rfl),(hZ.get 4 rfl)⟩
 refine ai hS fun a hS=>?_
 refine aw ?_
 refine aw ?_
 refine dr [] hS fun w hQ hS=>?_
 refine gE [0,1,2,3,4] hS fun a hS=>?_
 obtain ⟨d3,b3,hM⟩:=bd hM
 obtain ⟨e8,c3,c4⟩:=jT hS rU dE 2 rfl 1 rfl (c:=(aS g)) (key:=g) rfl EC (zc:=[.string (ByteArray.mk #[])]) rfl rfl b3
 obtain rfl:=c3
 refine dy (l:=[]) 5 (v:=.tuple #[.string d3,.bool ((bH aA g f.Memo).isSome)]) rfl (by kernel_rfl) (by kernel_rfl) (by kernel_rfl) (by kernel_rfl) hQ hS (c4 rfl rfl bE) rfl rfl rfl fun a hS=>?_
 refine gE [6,7,8,9,10] hS fun a hS=>?_
 refine eD ?_
 refine ai hS fun a hS=>?_
 rcases cd hM with ⟨c5,hM⟩ | ⟨c5,hM⟩
 ·refine ai hS fun a hS=>?_
  cases hM
  refine aF hS rfl (ar hS rfl aH) ?_
  have hZ:=hS.sl [1,2,3] [4,3,2,1,0]
  exact ⟨C,D,E,k,n,m,h,rfl,hZ.dnew,(hZ.get 0 rfl),(hZ.get 1 rfl),(hZ.get 2 rfl),(hZ.get 3 rfl),(hZ.get 4 rfl)⟩
 refine ai hS fun a hS=>?_
 refine aw ?_
 refine ai hS fun a hS=>?_
 obtain ⟨eX,b4,hM⟩:=bd hM
 refine kc hS s7 (cq _ _ hS.dlt g _ b4) fun _ w hR a hk hA=>?_
 obtain rfl:=hR
 have hS:=bM hA
 refine ai hS fun a hS=>?_
 rcases cd hM with ⟨c9,hM⟩ | ⟨c9,hM⟩
 ·refine ai hS fun a hS=>?_
  obtain ⟨f2,b6,hM⟩:=bd hM
  replace hS:=hS.re [1,2,3] [0]
  refine wl rfl (cF hS GQ rfl rfl (qF _ _ hS.dltD vrec hvrec f g _ _ _ _ _ _ _ _ _ _ hS.dok (hS.getD 4 rfl) (hS.getD 3 rfl) (hS.getD 2 rfl) (hS.getD 1 rfl) (hS.getD 0 rfl) (hS.getD 5 rfl) _ b6) fun _ w hR a hk hA=>?_)
  obtain ⟨d6,dc,di,bt,bl,c0,bq,he,ca,ag,ak,ao,a5,a9⟩:=hR
  obtain rfl:=he.symm
  have hS:=hA _ ca
  replace hS:=hS.fS (ag.sub (ap _))
  replace hS:=hS.fS (ak.sub (ap _))
  replace hS:=hS.fS (ao.sub (ap _))
  replace hS:=hS.fM (a5.keep (Kt.refl _ _) (ap _))
  replace hS:=hS.fM (a9.keep (Kt.refl _ _) (ap _))
  refine ai hS fun a hS=>?_
  refine aw ?_
  refine dr [] hS fun w hQ hS=>?_
  refine gE [0,1,2,3,4] hS fun a hS=>?_
  obtain ⟨d4,b9,hM⟩:=bd hM
  obtain ⟨ea,cb,ch⟩:=jT hS rU dE 1 rfl 1 rfl (c:=(aS g)) (key:=g) rfl EC (zc:=[.string (ByteArray.mk #[])]) rfl rfl b9
  obtain rfl:=cb
  refine dy (l:=[]) 5 (v:=.string d4) rfl (by kernel_rfl) (by kernel_rfl) (by kernel_rfl) (by kernel_rfl) hQ hS (ch rfl rfl bE) rfl rfl rfl fun a hS=>?_
  refine gE [6] hS fun a hS=>?_
  refine eD ?_
  refine ai hS fun a hS=>?_
  cases hM
  refine aF hS rfl (ar hS rfl aH) ?_
  have hZ:=hS.sl [0,1,2] [4,3,2,1,0]
  exact ⟨d6,dc,di,bt,bl,c0,bq,rfl,hZ.dnew,(hZ.get 0 rfl),(hZ.get 1 rfl),(hZ.get 2 rfl),(hZ.get 3 rfl),(hZ.get 4 rfl)⟩
 refine ai hS fun a hS=>?_
 replace hS:=hS.nilRow aR.str 9 (by decide)
 obtain ⟨r1,e0,hMo1⟩:=bd hM
 refine bB _ (fun s a w=>∃ (o:LY) (p:LU) (t:Int) (u:LI) (z:LR) (A:LB) (B:LL) (W:Value) (O:LV) (P:AM) (a2:Nat) (H:AM) (Y:Nat) (K:Value) (L:Value) (M:Value),(o,p,t,u,z,A,B)=s∧St W0 (MD [xS b C f.Base.Revision D E d e,om d k n,om e m h]) T 64 [(0,pt b 0),(3,pt X 0),(7,W)] [.own W 9 aR.str.size O,om d P a2,om e H Y,xS b K t L M d e,.box X (aS g) 35] [am aR.str O o,aJ aq K p,aJ ac L u,aJ aa M z,lL P A,oK H B,bu] a w) e0 ⟨_,_,_,_,_,_,_,_,_,_,_,_,_,_,_,_,rfl,hS.mt [0,3,4,2,1] [0,5,4,3,2,1,6]⟩ ?_
 rintro s a w f1 ⟨o,p,t,u,z,A,B,W,O,P,a2,H,Y,K,L,M,rfl,hS⟩ hM hf1
 have hM:f8 vrec g o p t u z A B=some f1:=hM
 unfold f8 at hM
 refine ai hS fun a hS=>?_
 refine aI (J:=fun a w=>∃ (a3:Bool) (Q:ByteArray) (Z:Int) (a0:ByteArray) (a1:Nat),St W0 (MD [xS b C f.Base.Revision D E d e,om d k n,om e m h]) T 64 [(0,pt b 0),(3,pt X 0),(7,W),(8,pt a1 0)] [.own W 9 aR.str.size O,om d P a2,om e H Y,xS b K t L M d e,.box X (aS g) 35,.box a1 [.bool a3,.string Q,.int .i64 Z,.string a0] 173] [am aR.str O o,aJ aq K p,aJ ac L u,aJ aa M z,lL P A,oK H B,bu] a w∧ei vrec g o p t u z A B a3 Q Z a0=some f1) ?_ ?_
 ·skip
  obtain ⟨N149,az⟩:∃ N,N=w.heap.size:=⟨_,rfl⟩
  replace hS:=hS.fact (Ak N149) (Nat.le_of_eq az)
  refine dr [(8,.new N149)] hS fun w hQ hS=>?_
  refine gE [0,1,2,3,4,5] hS fun a hS=>?_
  have hL:=hS
  replace hL:=hL.freeze (R:=aR.str) 0 rfl 1 rfl
  obtain ⟨ey,a4,hM⟩:=bd hM
  refine dU (i:=6) (j:=7) rfl rfl (by kernel_rfl) rfl rfl ?_ ?_
  ·skip
   skip
   have hL:=hS
   replace hL:=hL.freeze (R:=aR.str) 0 rfl 1 rfl
   refine id (a7 hS sg rfl rfl (fq _ _ hL.dlt (hL.get 8 rfl) p g o _ _ (hL.get 3 rfl) (hL.get 0 rfl) _ a4) fun _ w hR a hk hA=>⟨fx (hk),?_⟩)
   obtain rfl:=hR
   have hS:=bM hA
   have ck:=(hS.get 0 rfl:N149≤w.heap.size)
   refine e1 7 (cE hS mw rfl fun bb cl a w hk hS=>⟨fx (hk),?_⟩)
   refine cN 8 (.blk (some bb)) _ (by kernel_rfl) (my (Nat.le_trans ck cl)) ?_
   refine es 8 hS fun w hS=>?_
   refine eD ?_
   exact ⟨_,_,_,_,_,hS.mt [1,2,3,4,5,0] [1,2,3,4,5,6,7],hM⟩
  skip
  have co:=(hS.get 0 rfl:N149≤w.heap.size)
  refine id (cE hS mw rfl fun bi cs a w hk hS=>⟨fx (hk),?_⟩)
  refine cN 8 (.blk (some bi)) _ (by kernel_rfl) (my (Nat.le_trans co cs)) ?_
  have hL:=hS
  replace hL:=hL.freeze (R:=aR.str) 1 rfl 1 rfl
  refine ec 6 hS sg (fq _ _ hL.dlt (hL.get 8 rfl) p g o _ _ (hL.get 3 rfl) (hL.get 0 rfl) _ a4) fun _ w hR a hk hA=>?_
  obtain rfl:=hR
  have hS:=bM hA
  refine es 8 hS fun w hS=>?_
  refine eD ?_
  exact ⟨_,_,_,_,_,hS.mt [1,2,3,4,5,0] [1,2,3,4,5,6,7],hM⟩
 rintro a w ⟨a3,Q,Z,a0,a1,hS,hM⟩
 unfold ei at hM
 refine aw ?_
 refine ai hS fun a hS=>?_
 rcases cd hM with ⟨d0,hM⟩ | ⟨d0,hM⟩
 ·refine ai hS fun a hS=>?_
  refine aw ?_
  refine dr [(7,.blk (some d))] hS fun w hQ hS=>?_
  refine gE [0,1,2,3,4,5,6] hS fun a hS=>?_
  refine e1 7 (uW hS rU dE 1 rfl 4 rfl (c:=(aS g)) (cv:=[.string Q]) (key:=g) (val:=Q) rfl rfl rfl rfl rfl fun c1 bs w hk hS=>⟨kp rfl hk iE,?_⟩)
  refine eD ?_
  refine ai hS fun a hS=>?_
  cases hM
  have hr:=hf1 _ rfl
  subst hr
  have hM:=hMo1
  cases hM
  refine aF hS rfl (ar hS rfl aH) ?_
  have hZ:=hS.sl [3,1,2] [2,3,4,0,6]
  exact ⟨K,L,M,c1,bs,H,Y,rfl,hZ.dnew,(hZ.get 0 rfl),(hZ.get 1 rfl),(hZ.get 2 rfl),(hZ.get 3 rfl),(hZ.get 4 rfl)⟩
 refine ai hS fun a hS=>?_
 obtain ⟨I,b0,hM⟩:=bd hM
 replace hS:=hS.re [3,1,2] [0,4,5]
 refine wl rfl (cF hS zI rfl rfl (hvrec _ _ hS.dltD (aj.mk p (ah.mk t u z) A B) (ae.mk Z a0) _ _ _ _ _ _ _ _ _ _ hS.dok (hS.getD 1 rfl) (hS.getD 2 rfl) (hS.getD 3 rfl) (hS.getD 4 rfl) (hS.getD 5 rfl) (hS.getD 6 rfl) _ b0) fun _ w hR a hk hA=>?_)
 obtain ⟨f3,f4,f5,er,ed,et,el,he,d1,av,ax,ay,ab,af⟩:=hR
 obtain rfl:=he.symm
 have hS:=hA _ d1
 replace hS:=hS.fS (av.sub (ap _))
 replace hS:=hS.fS (ax.sub (ap _))
 replace hS:=hS.fS (ay.sub (ap _))
 replace hS:=hS.fM (ab.keep (Kt.refl _ _) (ap _))
 replace hS:=hS.fM (af.keep (Kt.refl _ _) (ap _))
 refine wl rfl (aZ (ps:=[(0,.tmp 61)]) hS uM HP (zl:=[.string (ByteArray.mk #[])]) (by kernel_rfl) rfl (us:=[[.string I.1]]) ⟨rfl,trivial⟩ (ws:=[.string I.1]) rfl rfl rfl rfl fun e5 a w hk hS=>?_)
 replace hS:=hS.lit (R:=aR.str) (us:=[.string I.1]) (xs:=[I.1]) 0 rfl (by decide) (aD.one_ (R:=aR.str) (x:=I.1) rfl) rfl rfl
 replace hS:=hS.freeze (R:=aR.str) 0 rfl 0 rfl
 obtain ⟨d2,hM⟩:=ba hM
 refine wl rfl (bC (R:=aR.str) (xs:=o) (ys:=[I.1]) hS uM (by decide) (by decide) rfl rfl 3 rfl 7 rfl 0 rfl d2 rfl fun f6 eq a w hk hS=>?_)
 exact fz
end
end
section
open Go.RowKit
set_option maxRecDepth 100000 in
set_option maxHeartbeats 4000000 in
theorem vF (T:Nat→Prop) (W0:World) (hT:∀ k,T k→k < W0.heap.size) (hD:vB T W0 []) (g:(List bc)) (H:Value) (ax:aB an (dT T []) W0 H g) (y:(List bc)) (hM:dB g=some y) (K:bc) (X:bm y (IntKind.i64.wrap ((y.length:Int) - 1))=some K):aY Tryz.prog (MD []) 107 [H] W0 (fun v w'=>∃ (cl:List Value) (P:Value) (N:List Value) (Q:Value) (O:List Value),aD (HR an) (dT T [.own v 122 an.size cl,.own P 35 ad.size N,.own Q 9 aR.str.size O]) w' cl (eI y (IntKind.i64.wrap ((y.length:Int) - 1)) [.int .i64 K.Key.Kind,.string K.Key.Text,.bool K.Running,.int .i64 K.At,P,Q])∧aD ad (dT T [.own v 122 an.size cl,.own P 35 ad.size N,.own Q 9 aR.str.size O]) w' N K.Reads∧aD aR.str (dT T [.own v 122 an.size cl,.own P 35 ad.size N,.own Q 9 aR.str.size O]) w' O K.Answers∧n8 W0 w' [] [.own v 122 an.size cl,.own P 35 ad.size N,.own Q 9 aR.str.size O]):=by
 refine kk (c:=_) Tryz.func107 rfl T 26 Tryz.ntmps107 hT rfl hD fun a hS=>?_
 replace hS:=hS.fact (aJ an H g) ax
 unfold dB at hM
 refine rq fun K26 a4=>?_
 refine qa hS fun a hS=>?_
 refine rz (a4 _ _ ?_)
 refine rq fun K27 a5=>?_
 refine qa hS fun a hS=>?_
 refine rz (a5 _ _ ?_)
 refine aI (J:=fun a w=>∃ (M:(List bc)) (I:Value) (t:(List Value)) (G:List bc) (j:bc) (C:Value) (z:List Value) (D:Value) (A:List Value),M=G ++ [j]∧St W0 (MD []) T 26 [(3,I)] [.own I 122 an.size t,.own C 35 ad.size z,.own D 9 aR.str.size A] [am (HR an) t (uZ G [.int .i64 j.Key.Kind,.string j.Key.Text,.bool j.Running,.int .i64 j.At,C,D]),am ad z j.Reads,am aR.str A j.Answers] a w∧cn M=some y) ?_ ?_
 ·skip
  refine rq fun K40 ab=>?_
  refine qm hS fun a hS=>?_
  refine qy hS (EA (R:=an) (xs:=g) hS vn rfl 0 rfl) fun a hS=>?_
  refine qm hS fun a hS=>?_
  refine rz (ab _ _ ?_)
  refine wp_block ?_
  replace hS:=hS.nilRow an 122 (by decide)
  obtain ⟨r1,av,hMo1⟩:=bd hM
  refine bB (fun s:(List bc)×Int=>bD g s.1 s.2) (fun s a w=>∃ (e:(List bc)) (f:Int) (q:Value) (o:(List Value)),(e,f)=s∧((e=[]∧St W0 (MD []) T 26 [(3,q),(6,H),(7,.int .i64 (g.length:Int)),(8,.int .i64 f)] [.own q 122 an.size o] [am an o e,aJ an H g] a w)∨∃ (G:List bc) (j:bc) (C:Value) (z:List Value) (D:Value) (A:List Value),e=G ++ [j]∧St W0 (MD []) T 26 [(3,q),(6,H),(7,.int .i64 (g.length:Int)),(8,.int .i64 f)] [.own q 122 an.size o,.own C 35 ad.size z,.own D 9 aR.str.size A] [am (HR an) o (uZ G [.int .i64 j.Key.Kind,.string j.Key.Text,.bool j.Running,.int .i64 j.At,C,D]),am ad z j.Reads,am aR.str A j.Answers,aJ an H g] a w)) av ⟨([]:List bc),0,(.slice none 0 0),([]),rfl,.inl ⟨rfl,(hS.meet [0] (by decide) ⟨rfl,rfl,rfl,rfl,trivial⟩ ⟨rfl,trivial⟩ ⟨⟨0,rfl⟩,⟨1,rfl⟩,trivial⟩)⟩⟩ ?_
  rintro s a w Z ⟨e,f,q,o,rfl,W⟩ hM hf1
  by_cases hlt:(f:Int) < (g.length:Int)
  ·skip
   have hS:St W0 (MD []) T 26 [(3,q),(6,H),(7,.int .i64 (g.length:Int)),(8,.int .i64 f)] [.own q 122 an.size o] [am an o e,aJ an H g] a w:=by
    rcases W with ⟨_,hS⟩ | ⟨G,j,C,z,D,A,ho,hS⟩
    · exact hS
    replace hS:=hS.freeze (R:=ad) 1 rfl 1 rfl
    replace hS:=hS.freeze (R:=aR.str) 1 rfl 3 rfl
    replace hS:=hS.closeLast (R:=an) (x:=j) 2 rfl ⟨_,_,rfl,hS.get 1 rfl,hS.get 0 rfl⟩
    rw [← ho] at hS
    exact hS.meet [0] (by decide) ⟨rfl,rfl,rfl,rfl,trivial⟩ ⟨rfl,trivial⟩ ⟨⟨0,rfl⟩,⟨6,rfl⟩,trivial⟩
   have hM:bD g e f=some Z:=hM
   unfold bD at hM
   refine rq fun K51 B=>?_
   refine qy hS (yK hS rfl rfl rfl) fun a hS=>?_
   refine rz (B _ _ ?_)
   refine wp_seq_k fun K52 L=>?_
   have p:decide ((f:Int) < (g.length:Int))=true:=decide_eq_true hlt
   replace hM:=ct p hM
   refine Ja hS rfl p ?_
   refine wp_skip ?_
   refine L _ _ ?_
   refine wp_seq_k fun K53 af=>?_
   refine wp_block ?_
   refine rq fun K54 ag=>?_
   obtain ⟨b,S,hM⟩:=bd hM
   refine wl rfl (bf (R:=an) hS vn qM rfl rfl 1 rfl S rfl fun ay b4 b0 a0 a hS=>?_)
   obtain ⟨E,F,rfl,U,V⟩:=a0
   replace hS:=hS.fact (aJ ad E b.Reads) U
   replace hS:=hS.fact (aJ aR.str F b.Answers) V
   refine qy hS (sY (k:=0) hS qM 2 rfl rfl (fun _ h=>h.elim) (us:=[.int .i64 b.Key.Kind,.string b.Key.Text,.bool b.Running,.int .i64 b.At,E,F]) rfl rfl (fun h=>by cases h)) fun a hS=>?_
   refine wl rfl (cE hS pE rfl fun r b3 a w hk hS=>?_)
   refine wl rfl (pL hS rfl rfl (us:=[.int .i64 b.Key.Kind,.string b.Key.Text,.bool b.Running,.int .i64 b.At,E,F]) rfl qM 0 rfl rfl rfl (oc rfl (oc rfl (oc rfl (oc rfl (oc (aB.one ((hS.get 1 rfl):aB ad _ _ _ _)) (oc (aB.one ((hS.get 0 rfl):aB aR.str _ _ _ _)) on)))))) fun w hk hS=>?_)
   refine rz (ag _ _ ?_)
   refine wp_seq_k fun K55 ak=>?_
   replace hS:=hS.nilRow ad 35 (by decide)
   replace hS:=hS.nilRow aR.str 9 (by decide)
   refine En [(2,.blk (Value.ownBlock (.slice none 0 0))),(5,.blk (Value.ownBlock (.slice none 0 0))),(7,.blk (some r)),(9,.blk (some r))] hS mixed rfl (fun c a d v w h=>by cases d <;> exact h) fun w hQ hS=>?_
   refine dy 0 (v:=.pointer (some ⟨r,0 + 4,none⟩)) rfl (by kernel_rfl) (by kernel_rfl) (by kernel_rfl) rfl hQ hS (yJ hS rfl wY) rfl rfl rfl fun a hS=>?_
   refine dy (l:=[]) 1 (v:=E) rfl (by kernel_rfl) (by kernel_rfl) (by kernel_rfl) (by kernel_rfl) hQ hS (dV hS rfl zp 2 rfl bE (us:=[E]) rfl rfl (fun _=>rfl)) rfl rfl rfl fun a hS=>?_
   refine dy 3 (v:=.pointer (some ⟨r,0 + 5,none⟩)) rfl (by kernel_rfl) (by kernel_rfl) (by kernel_rfl) rfl hQ hS (yJ hS rfl wZ) rfl rfl rfl fun a hS=>?_
   refine dy (l:=[.blk (Value.ownBlock (.slice none 0 0))]) 4 (v:=F) rfl (by kernel_rfl) (by kernel_rfl) (by kernel_rfl) (by kernel_rfl) hQ hS (dV hS rfl zq 2 rfl (iv hS 2 rfl rfl 0 rfl rfl (by decide) bE) (us:=[F]) rfl rfl (fun _=>rfl)) rfl rfl rfl fun a hS=>?_
   obtain ⟨a1,hM⟩:=ba hM
   refine p8 (i:=2) rfl (by kernel_rfl) rfl (bC (R:=ad) (xs:=([]:List ae)) (ys:=b.Reads) hS iq (by decide) (by decide) rfl rfl 1 rfl 1 rfl 3 rfl a1 rfl fun m b1 a w hk hS=>⟨kp rfl hk lw,?_⟩)
   refine dy 6 (v:=.pointer (some ⟨r,0 + 4,none⟩)) rfl (by kernel_rfl) (by kernel_rfl) (by kernel_rfl) rfl hQ hS (yJ hS rfl wY) rfl rfl rfl fun a hS=>?_
   obtain ⟨a2,hM⟩:=ba hM
   refine p8 (i:=5) rfl (by kernel_rfl) rfl (bC (R:=aR.str) (xs:=([]:List ByteArray)) (ys:=b.Answers) hS uM (by decide) (by decide) rfl rfl 0 rfl 1 rfl 3 rfl a2 rfl fun n b2 a w hk hS=>⟨kp rfl hk lw,?_⟩)
   refine p8 (i:=7) rfl (by kernel_rfl) rfl (pL hS rfl rfl (us:=[m]) (lO (gN (hS.own _ (List.mem_of_getElem? (i:=1) rfl)).1)) zp 2 rfl rfl rfl (oc (gN (hS.own _ (List.mem_of_getElem? (i:=1) rfl)).1) on) fun w hk hS=>⟨kp rfl hk iE,?_⟩)
   refine dy 8 (v:=.pointer (some ⟨r,0 + 5,none⟩)) rfl (by kernel_rfl) (by kernel_rfl) (by kernel_rfl) rfl hQ hS (yJ hS rfl wZ) rfl rfl rfl fun a hS=>?_
   refine p8 (i:=9) rfl (by kernel_rfl) rfl (pL hS rfl rfl (us:=[n]) (lO (gN (hS.own _ (List.mem_of_getElem? (i:=0) rfl)).1)) zq 2 rfl rfl rfl (oc (gN (hS.own _ (List.mem_of_getElem? (i:=0) rfl)).1) on) fun w hk hS=>⟨kp rfl hk iE,?_⟩)
   refine yF (by kernel_rfl) ?_ _
   refine ak _ _ ?_
   refine zf ?_
   refine qm hS fun a hS=>?_
   refine qy hS (dV hS rfl qM 2 rfl id (us:=[.int .i64 b.Key.Kind,.string b.Key.Text,.bool b.Running,.int .i64 b.At,m,n]) rfl rfl (fun h=>by cases h)) fun a hS=>?_
   refine wl rfl (aZ (ps:=[(0,.tmp 21)]) hS wU pE (zl:=[.int .i64 0,.string (ByteArray.mk #[]),.bool false,.int .i64 0,.slice none 0 0,.slice none 0 0]) (by kernel_rfl) rfl (us:=[[.int .i64 b.Key.Kind,.string b.Key.Text,.bool b.Running,.int .i64 b.At,m,n]]) ⟨rfl,trivial⟩ (ws:=[.int .i64 b.Key.Kind,.string b.Key.Text,.bool b.Running,.int .i64 b.At,m,n]) rfl rfl rfl rfl fun az a w hk hS=>?_)
   have hone:∀ u ∈ ([.int .i64 b.Key.Kind,.string b.Key.Text,.bool b.Running,.int .i64 b.At,m,n]:List Value),u.oneCell'=true:=oc rfl (oc rfl (oc rfl (oc rfl (oc (gN (hS.own _ (List.mem_of_getElem? (i:=2) rfl)).1) (oc (gN (hS.own _ (List.mem_of_getElem? (i:=1) rfl)).1) on)))))
   replace hS:=hS.lit (R:=HR an) (us:=[.int .i64 b.Key.Kind,.string b.Key.Text,.bool b.Running,.int .i64 b.At,m,n]) (xs:=[Sum.inl [.int .i64 b.Key.Kind,.string b.Key.Text,.bool b.Running,.int .i64 b.At,m,n]]) 0 rfl (by decide) (aD.one_ (R:=HR an) (x:=Sum.inl [.int .i64 b.Key.Kind,.string b.Key.Text,.bool b.Running,.int .i64 b.At,m,n]) ⟨rfl,rfl,hone⟩) rfl rfl
   replace hS:=hS.freeze (R:=HR an) 0 rfl 0 rfl
   obtain ⟨a3,hM⟩:=ba hM
   replace hS:=hS.openH (R:=an) (cl:=o) (xs:=e) 9 rfl
   refine wl rfl (bC (R:=HR an) (xs:=e.map Sum.inr) (ys:=[Sum.inl [.int .i64 b.Key.Kind,.string b.Key.Text,.bool b.Running,.int .i64 b.At,m,n]]) hS wU (by decide) (by decide) rfl rfl 3 rfl 0 rfl 1 rfl (by rw [List.length_map]; exact a3) rfl fun ao Y a w hk hS=>?_)
   refine qa hS fun a hS=>?_
   refine rz (af _ _ ?_)
   refine zf ?_
   refine qy hS (yK hS rfl rfl rfl) fun a hS=>?_
   refine qm hS fun a hS=>?_
   refine wpList_nil ?_
   exact ⟨((e ++ ([(bc.mk b.Key b.Running b.At (([]:List ae) ++ b.Reads) (([]:List ByteArray) ++ b.Answers))])),IntKind.i64.wrap (f + 1)),(Option.some.inj hM).symm,(e ++ ([(bc.mk b.Key b.Running b.At (([]:List ae) ++ b.Reads) (([]:List ByteArray) ++ b.Answers))])),(IntKind.i64.wrap (f + 1)),ao,Y,rfl,.inr ⟨e,(bc.mk b.Key b.Running b.At (([]:List ae) ++ b.Reads) (([]:List ByteArray) ++ b.Answers)),m,_,n,_,rfl,(hS.meet [3,1,0] (by decide) ⟨rfl,rfl,rfl,rfl,trivial⟩ ⟨rfl,rfl,rfl,trivial⟩ ⟨⟨0,rfl⟩,⟨5,rfl⟩,⟨4,rfl⟩,⟨12,rfl⟩,trivial⟩)⟩⟩
  rcases W with ⟨ho,hS⟩ | ⟨G,j,C,z,D,A,ho,hS⟩
  ·have hM:bD g e f=some Z:=hM
   unfold bD at hM
   refine rq fun K51 B=>?_
   refine qy hS (yK hS rfl rfl rfl) fun a hS=>?_
   refine rz (B _ _ ?_)
   refine wp_seq_k fun K52 L=>?_
   have p:decide ((f:Int) < (g.length:Int))=false:=decide_eq_false hlt
   replace hM:=cf p hM
   refine H3 hS rfl p ?_
   refine wp_exit ?_
   injection hM with hM
   subst hM
   have hr:=hf1 _ rfl
   subst hr
   have hM:cn e=some y:=hMo1
   subst ho
   unfold cn at hM
   obtain rfl:=Option.some.inj hM
   exact absurd X (by simp [bm])
  have hM:bD g e f=some Z:=hM
  unfold bD at hM
  refine rq fun K51 B=>?_
  refine qy hS (yK hS rfl rfl rfl) fun a hS=>?_
  refine rz (B _ _ ?_)
  refine wp_seq_k fun K52 L=>?_
  have p:decide ((f:Int) < (g.length:Int))=false:=decide_eq_false hlt
  replace hM:=cf p hM
  refine H3 hS rfl p ?_
  refine wp_exit ?_
  injection hM with hM
  subst hM
  have hr:=hf1 _ rfl
  subst hr
  have hM:cn e=some y:=hMo1
  exact ⟨e,q,o,G,j,C,z,D,A,ho,(hS.meet [0,1,2] (by decide) ⟨rfl,trivial⟩ ⟨rfl,rfl,rfl,trivial⟩ ⟨⟨0,rfl⟩,⟨1,rfl⟩,⟨2,rfl⟩,trivial⟩),hM⟩
 rintro a w ⟨M,I,t,G,j,C,z,D,A,ho,hS,hM⟩
 unfold cn at hM
 refine rq fun K39 a9=>?_
 refine qm hS fun a hS=>?_
 refine qa hS fun a hS=>?_
 refine rz (a9 _ _ ?_)
 refine wp_ret ?_
 injection hM with hM
 subst hM
 refine aF hS Tryz.results107 (ar hS rfl aH) ?_
 subst ho
 obtain ⟨rfl,hix⟩:=BK (Nat.le_of_succ_le (by have:=B0 (R:=HR an) hS 0 rfl 0 rfl; simpa [uZ] using this)) X
 have hZ:=hS.meet (G':=[]) (D':=[.own I 122 an.size t,.own C 35 ad.size z,.own D 9 aR.str.size A]) (F':=[am (HR an) t (uZ G [.int .i64 j.Key.Kind,.string j.Key.Text,.bool j.Running,.int .i64 j.At,C,D]),am ad z j.Reads,am aR.str A j.Answers]) [0,1,2] (by decide) trivial ⟨rfl,rfl,rfl,trivial⟩ ⟨⟨0,rfl⟩,⟨1,rfl⟩,⟨2,rfl⟩,trivial⟩
 exact ⟨_,_,_,_,_,by rw [wo hix]; exact hZ.get 0 rfl,hZ.get 1 rfl,hZ.get 2 rfl,hZ.dnew⟩
end
end Go.Proofs.YthefmilamdchiaaGreatDoor
