import Derived.Test.YtlgnfcaolejgeaaGreatMH
import Derived.Test.YtlgnfcaolejgeaaGreatMF
import Derived.Test.YtlgnfcaolejgeaaGreatMD
import Derived.Test.YtlgnfcaolejgeaaGreatME
import Derived.Test.YtlgnfcaolejgeaaGreatMG
import Derived.Test.YtlgnfcaolejgeaaGreatMC
import Derived.ProofKit
import Derived.OpenShut
import Derived.WideKeyArgs
import Derived.Test.YtlgnfcaolejgeaaGreatRows
import Derived.JoinedOf
set_option linter.all false
set_option maxRecDepth 100000
namespace Go.Proofs.YtlgnfcaolejgeaaGreat
open Go Go.bz
def ik (a:az) (b c d:Own) (k:a.sum.length=32):(ab a b c d).length=37/\aX true 2 ((ab a b c d).drop 32)=er a.aT a.aU b c/\aX false 1 ((ab a b c d).drop 34)= .v (.int .i64 a.live)/\aX false 1 ((ab a b c d).drop 35)= .v (.int .i64 a.size)/\aX false 1 ((ab a b c d).drop 36)= .J (ad a.key) d/\aX true 37 (ab a b c d)= .agg (ab a b c d):=by have h:=aV (M:=b) (e6:=c) (h4:=d) k;refine⟨h.len,by rw[h.d32];rfl,by rw[h.d34];rfl,by rw[h.d35];rfl,by rw[h.d36];rfl,?_⟩;show R.agg ((ab a b c d).take 37)= _;rw[h.t37]
theorem Gw (a:c3) (S V:List R) (l m:Own) (y:U) (Z:aA de a.rows S) (j9:aA bu a.kids V) (a65:a.rows.length<=4) (a68:a.kids.length<=4)
  (k4: ∀o∈a.rows,1<=o.1.length/\o.1.length<=8) (l6: ∀c∈a.kids,c.hr/\c.sum.length=32/\c.cB) (a01:(eD a).size<=1048576) (a02:a.kind=2->a.rows≠ []) (a03:a.kind=3->a.kids≠ []):
  AC Tryz.prog 113 [gH a (.J S l) (.J V m)] y λo F=>y.sub F/\ ∃h k H,o= .aI [.agg (ab (eQ a) h k H),.v (.bool true)]:=by
 have a69:=Z.len;have a71:=j9.len;have a73:(cW a).length<=3000:=by have l7:=qE λo r=>xr (k4 o r).2;grind[yC,cW,List.length_append,List.length_cons]
 have eY:=ik ay .nil .nil .nil bj;have x:(eP (cW a)).length=32:=oc _;have z:(⟨eP (cW a),(eD a).aO.1,(eD a).aO.2,(eD a).live,(eD a).size,keyOf a⟩)=eQ a:=rfl;have k0:=λa04 y r=>a1G (cW a) a04 y r a9p;have l8:=λy=>a0v a S V l m y Z j9 a9p a9p (λo r=>(k4 o r).2) l6;generalize eP (cW a)=p at*;generalize eQ a=G at*;have a74:(cw p).cells=p.map ak:=rfl;have a81:(p.map ak).length=32:=by simp[x]
 have a83:putAt (ab ay .nil .nil .nil) 0 (p.map ak)=ab (fH p ⟨0,0,([],[])⟩) .nil .nil .nil:=ue bj x;have n: ∀c:az,c.sum.length=32-> ∀h k H,putAt (ab ay .nil .nil .nil) 0 (ab c h k H)=ab c h k H:=λc r h k H=>cD bj r;have a84:=n (fH p ⟨0,0,([],[])⟩) x .nil .nil .nil;have P:=λd h k=>ik (fH p d) h k .nil x;have a86:=P ⟨0,0,([],[])⟩ .nil .nil;refine aM hm MA ?_;refine bp λv a05=> ?_;refine cV λI a06 a88 a07=> ?_;rw[cp];have l9:((y.set v (.cells [.v (.int .u8 a.kind.toNat),.J S l,.J V m])).set I (.cells (ab ay .nil .nil .nil))) v=some (.cells [.v (.int .u8 a.kind.toNat),.J S l,.J V m]):=by rw[U.ao _ _ a07,U.ai]
 have n0:=U.ai (y.set v (.cells [.v (.int .u8 a.kind.toNat),.J S l,.J V m])) I (.cells (ab ay .nil .nil .nil));have n1:y.sub ((y.set v (.cells [.v (.int .u8 a.kind.toNat),.J S l,.J V m])).set I (.cells (ab ay .nil .nil .nil))):=U.af (U.af U.a1 a05) a06;generalize (y.set v _).set I _=a08 at*;refine hL (l8 a08) λa09 w k5=> ?_;have k0:=k0 a09 w (nB.an k5);have k1:=k5.sub;refine bc k0 ?_;clear k0 l8;refine aN λf g=> ?_;have k6:=k1 _ _ l9;have c2:=k1 _ _ n0;have a89:v≠f:=by rintro rfl;rw[k6]at g;cases g
 have a90:I≠f:=by rintro rfl;rw[c2]at g;cases g
 have a10:=U.aq n1 k1;clear k1 l9 n0 n1 k5;refine aa ?_;refine cn [1,2,4] (λb:Nat=> [(5,.v (.int .i64 (b)))]) (λb F=>b<=a.rows.length/\w.sub F/\(0<=((a.rows.take b).foldl dK ⟨0,a.rows.length,([],[])⟩).live/\((a.rows.take b).foldl dK ⟨0,a.rows.length,([],[])⟩).live<=b/\((a.rows.take b).foldl dK ⟨0,a.rows.length,([],[])⟩).aO.1.length<=8/\((a.rows.take b).foldl dK ⟨0,a.rows.length,([],[])⟩).aO.2.length<=8)/\
   ∃h k,F f=some (.cells (ab (fH p ⟨((a.rows.take b).foldl dK ⟨0,a.rows.length,([],[])⟩).live,b,((a.rows.take b).foldl dK ⟨0,a.rows.length,([],[])⟩).aO⟩) h k .nil))) (λb=>a.rows.length - b) 0 ⟨⟨a5v _,U.af (U.af U.a1 g) g,a9q,.nil,.nil,U.ai _ _ _⟩,aS⟩ ?_
 rintro b k7 ⟨a11,i,⟨a92,a94,a13,a14⟩,h,k,aK⟩ a15;have K:=λr=>fb (a:=a.rows) (b:=([],false)) (e:=b) r;have C:=λr=>congrArg (List.foldl dK ⟨0,a.rows.length,([],[])⟩) (K r);generalize k2:(a.rows.take b).foldl dK ⟨0,a.rows.length,([],[])⟩=d at*;have n2:=U.ae (i _ _ k6);have M:=U.ae aK;have N:=P ⟨d.live,b,d.aO⟩ h k;have n3:putAt (ab (fH p ⟨d.live,b,d.aO⟩) h k .nil) 35 [.v (.int .i64 ((b)+1))]=ab (fH p ⟨d.live,(b)+1,d.aO⟩) h k .nil:=ss x;have q:=U.aJ aK
 dsimp only at N
 refine aa ?_;refine aG (λO=> ?_) λO=> ?_
 .have A:b<a.rows.length:=a9p;have Q:a.rows[b]? =some (a.rows.getD b ([],false)):=by simp_all
  obtain⟨_,j,W,rfl⟩:=Z.get Q;have k3:=k4 _ (a4V Q);have C:=C A;rw[a6L,k2]at C;generalize a.rows.getD b ([],false)=o at*;have n4:eA 2 S[b]? =some (.bV [.J (ad o.1) W,.v (.bool o.2)]):=by rw[j];rfl
  obtain⟨o,a16⟩:=o
  dsimp only at k3 n4
  have k8:=P ⟨d.live,(b)+1,d.aO⟩ h k
  dsimp only at k8
  cases a16 with
  |false=>
   refine aa ?_;have s:(a.rows.take (b+1)).foldl dK ⟨0,a.rows.length,([],[])⟩=d:=by rw[C];rfl
   refine⟨b+1,⟨A,?_,h,k,?_⟩,rfl,a9p⟩;grind
   .rw[s];push_cast;rfl
  |true=>
   have a18:putAt (ab (fH p ⟨d.live,(b)+1,d.aO⟩) h k .nil) 34 [.v (.int .i64 (d.live+1))]=ab (fH p ⟨d.live+1,(b)+1,d.aO⟩) h k .nil:=sr x;have e:=P ⟨d.live+1,(b)+1,d.aO⟩ h k
   dsimp only at e
   refine aa ?_;generalize t:k7.set f _=u;have k9:u f=some (.cells (ab (fH p ⟨d.live+1,(b)+1,d.aO⟩) h k .nil)):=by subst t;exact U.ai _ _ _
   have l0:w.sub u:=by subst t;exact U.af i g
   clear t q M;refine ag (Gv d.aO (o,o) h k W W u a9p (by dsimp only;omega)) ?_;rintro _ a19 ⟨X,D,E,rfl⟩;have l1:=X _ _ k9;have q:=U.aJ l1;have a27:cQ d.aO (gj o)=cQ d.aO (o,o):=by unfold gj;rw[if_pos k3]
   have a29:putAt (ab (fH p ⟨d.live+1,(b)+1,d.aO⟩) h k .nil) 32 [.J (ad (cQ d.aO (o,o)).1) D,.J (ad (cQ d.aO (o,o)).2) E]=ab (fH p ⟨d.live+1,(b)+1,cQ d.aO (o,o)⟩) D E .nil:=xu x;have a30:=og d.aO (o,o) 8 a13 a14 k3.2 k3.2;refine aa ?_;have s:(a.rows.take (b+1)).foldl dK ⟨0,a.rows.length,([],[])⟩=⟨d.live+1,d.size,cQ d.aO (o,o)⟩:=by rw[C];show dK d (o,true)= _;rw[dK,if_pos rfl,a27]
   refine⟨b+1,⟨A,U.aq l0 X,?_,D,E,?_⟩,rfl,a9p⟩;grind
   .rw[s];push_cast;rfl
 obtain rfl:b=a.rows.length:=a9p;rw[a5i]at k2;have a34:d.size=a.rows.length:=by rw[<-k2,xL]
 have a36:(⟨d.live,a.rows.length,d.aO⟩)=d:=by rw[<-a34]
 rw[a36]at aK;clear C K O M N n3 q n2;refine cn [1,2,4] (λb:Nat=> [(6,.v (.int .i64 (b)))]) (λb F=>b<=a.kids.length/\w.sub F/\(0<=((a.kids.take b).foldl ep d).live/\((a.kids.take b).foldl ep d).live<=4+b*1048576/\0<=((a.kids.take b).foldl ep d).size/\((a.kids.take b).foldl ep d).size<=4+b*1048576/\((a.kids.take b).foldl ep d).aO.1.length<=8/\((a.kids.take b).foldl ep d).aO.2.length<=8)/\
   ∃h k,F f=some (.cells (ab (fH p ((a.kids.take b).foldl ep d)) h k .nil))) (λb=>a.kids.length - b) 0 ⟨⟨a5v _,i,a9r,h,k,aK⟩,aS⟩ ?_
 clear aK i;rintro b k7 ⟨a11,i,⟨a95,a96,a97,a98,a38,a42⟩,h,k,aK⟩ a15;have K:=λr=>fb (a:=a.kids) (b:=ay) (e:=b) r;have C:=λr=>congrArg (List.foldl ep d) (K r);generalize l2:(a.kids.take b).foldl ep d=T at*;have n2:=U.ae (i _ _ k6);have M:=U.ae aK;have N:=P T h k;have q:=U.aJ aK
 dsimp only at N
 refine aa ?_;refine aG (λO=> ?_) λO=> ?_
 .have A:b<a.kids.length:=a9p;have Q:a.kids[b]? =some (a.kids.getD b ay):=by simp_all
  obtain⟨_,j,l3,a43,D,E,L,rfl⟩:=j9.get Q;obtain⟨a47,_,_⟩:=l6 _ (a4V Q);obtain⟨l7,a48,a99,b00,b01,b02,b03⟩:=a47;have C:=C A;rw[a6L,l2]at C;generalize a.kids.getD b ay=c at*;have l4:=ik c D E L l3;have n4:eA 37 V[b]? =some (.bV (ab c D E L)):=by rw[j];exact jy l4.1
  have n3:putAt (ab (fH p T) h k .nil) 35 [.v (.int .i64 (T.size+c.size))]=ab (fH p ⟨T.live,T.size+c.size,T.aO⟩) h k .nil:=ss x;have a18:putAt (ab (fH p ⟨T.live,T.size+c.size,T.aO⟩) h k .nil) 34 [.v (.int .i64 (T.live+c.live))]=ab (fH p ⟨T.live+c.live,T.size+c.size,T.aO⟩) h k .nil:=sr x;have k8:=P ⟨T.live,T.size+c.size,T.aO⟩ h k;have e:=P ⟨T.live+c.live,T.size+c.size,T.aO⟩ h k
  dsimp only at k8 e
  generalize ab c D E L=a52 at*;clear j;refine aa ?_;generalize t:k7.set f _=u;have k9:u f=some (.cells (ab (fH p ⟨T.live+c.live,T.size+c.size,T.aO⟩) h k .nil)):=by subst t;exact U.ai _ _ _
  have l0:w.sub u:=by subst t;exact U.af i g
  clear t q M;refine ag (Gv T.aO (c.aT,c.aU) h k D E u a9p (by dsimp only;omega)) ?_;rintro _ a19 ⟨X,cd,ca,rfl⟩;have l1:=X _ _ k9;have q:=U.aJ l1;have a29:putAt (ab (fH p ⟨T.live+c.live,T.size+c.size,T.aO⟩) h k .nil) 32 [.J (ad (cQ T.aO (c.aT,c.aU)).1) cd,.J (ad (cQ T.aO (c.aT,c.aU)).2) ca]=ab (fH p ⟨T.live+c.live,T.size+c.size,cQ T.aO (c.aT,c.aU)⟩) cd ca .nil:=xu x;have a30:=og T.aO (c.aT,c.aU) 8 a38 a42 l7 a48;refine aa ?_;have s:(a.kids.take (b+1)).foldl ep d=⟨T.live+c.live,T.size+c.size,cQ T.aO (c.aT,c.aU)⟩:=by rw[C];rfl
  refine⟨b+1,⟨A,U.aq l0 X,?_,cd,ca,?_⟩,rfl,a9p⟩;grind
  .rw[s]
 obtain rfl:b=a.kids.length:=a9p;rw[a5i]at l2;have a56:eD a=T:=by unfold eD;rw[k2,l2]
 rw[a56]at a01 z;have b04:=U.aJ (i _ _ c2);have b05: ∀F:U,w.sub F->y.sub F:=λF r=>U.aq a10 r;clear C K O;have B:G.sum.length=32:=by rw[<-z];exact x
 have l5:G.size=T.size:=by rw[<-z]
 by_cases g2:a.kind=2
 .have bp:(a.kind.toNat:Int)=2:=by rw[g2];rfl
  obtain⟨o,b06,n5⟩:=a6R (a02 g2);obtain⟨_,j,W,rfl⟩:=Z.get (i:=0) (by rw[n5];rfl);have Y:keyOf a=o.1:=by unfold keyOf;rw[if_pos g2,n5];rfl
  rw[Y]at z;have a57:cL 2 (.J S l) (.v (.int .i64 0))=some (.bV [.J (ad o.1) W,.v (.bool o.2)]):=by show cL 2 _ (.v (.int .i64 ((0:Nat))))= _;rw[o1,j];rfl
  have a61:putAt (ab (fH p T) h k .nil) 36 [.J (ad o.1) W]=ab G h k W:=by rw[<-z];exact su x
  have e:=ik G h k W B;have n9:=n G B h k W;rw[l5]at e;generalize o.1=a62 at*;clear P n z;refine iv ?_;refine iv ?_;grind
 have bp: ¬(a.kind.toNat:Int)=2:=λs=>g2 (a5I.1 (by grind));refine iv ?_;by_cases g3:a.kind=3
 .have hl:(a.kind.toNat:Int)=3:=by rw[g3];rfl
  obtain⟨c,b07,a00⟩:=a6R (a03 g3);obtain⟨_,j,l3,a43,D,E,L,rfl⟩:=j9.get (i:=0) (by rw[a00];rfl);have Y:keyOf a=c.key:=by unfold keyOf;rw[if_neg g2,if_pos g3,a00];rfl
  rw[Y]at z;have l4:=ik c D E L l3;have a57:cL 37 (.J V m) (.v (.int .i64 0))=some (.bV (ab c D E L)):=by show cL 37 _ (.v (.int .i64 ((0:Nat))))= _;rw[o1,j];exact jy l4.1
  have a61:putAt (ab (fH p T) h k .nil) 36 [.J (ad c.key) L]=ab G h k L:=by rw[<-z];exact su x
  have e:=ik G h k L B;have n9:=n G B h k L;rw[l5]at e;generalize ab c D E L=a52 at*;generalize c.key=a62 at*;clear P n z;refine iv ?_;refine iv ?_;grind
 .have hl: ¬(a.kind.toNat:Int)=3:=λs=>g3 (a5I.1 (by grind));have Y:keyOf a= []:=by unfold keyOf;simp_all
  rw[Y]at z;have a63:fH p T=G:=z;rw[a63]at M N q;have e:=ik G h k .nil B;have n9:=n G B h k .nil;rw[l5]at e;clear P n z;refine iv ?_;refine iv ?_;grind
variable{e i v O b8 j0:Nat}
def a2G: ∀(a:List (a6.T e)),eF (pt a)=a.flatMap (a6.bg e)
 | []=>rfl
 | [b]=>by simp[pt,eF]
 |c::d::h=>rfl
theorem a2H: ∀(a:Nat) (b:a6.T a),eF (vo a b)=a6.bg a b
 |0,b=>by
  obtain⟨d,rfl⟩:=a6.hT b;show eF (if a6.len (a6.leaf d)=0 then none else some ⟨0,a6.leaf d⟩)= _;by_cases c:a6.len (a6.leaf d)=0
  .rw[if_pos c];rw[a6.hU]at c;rw[a6.ky,a4R c];rfl
  .rw[if_neg c];rfl
 |a+1,b=>by
  obtain⟨h,rfl⟩:=a6.gl b;show eF (match a6.kids (a6.node h)with
   | [k]=>some ⟨a,k⟩
   | _=>some ⟨a+1,a6.node h⟩)= _
  grind[a6.fl,a6.fX,eF]
variable{q b6:List Int}{b7:eE}
def a2I (d:1<=e) (h:e<=8) (k:bL e q) (o:iI e b7) (p:q∉eF b7):(eF (kE b7 q)).Perm (q::eF b7):=by
 match b7 with
 |none=>show(a6.bg 0 (a6.leaf [q])).Perm _;rw[a6.ky];rfl
 |some ⟨a,b7⟩=>have b:GT e a b7:=o;have c:q∉a6.bg a b7:=p;simp only[kE];rw[if_neg c,a2G];rw[(a6.qM (gp d h) k a b7 b.wf b.dM b.ok c).1];unfold a6.dL;exact a7m.trans (.cons _ (List.Perm.of_eq a5E))
def a2J (d:1<=e) (h:e<=8) (k:bL e q) (o:iI e b7) (c:q∈eF b7):eF (jr b7 q)=(eF b7).filter λp=>decide (p≠q):=by
 match b7 with
 |none=>cases c
 |some ⟨a,b7⟩=>have b:GT e a b7:=o;have r:q∈a6.bg a b7:=c;simp only[jr];rw[if_pos r,a2H];exact(a6.ps (gp d h) k a b7 b.wf b.dM b.ok).1
theorem Gx (a:List Int) (b:List (List Int)):(hc a b).Perm (a::b):=by grind[List.takeWhile_append_dropWhile,decide,bP,hc,List.perm_middle]
theorem Gy {b:List Int}: ∀ {a:List (List Int)},a.Pairwise (λk o=>bP k<bP o)->(∀c∈a,bP b≠bP c)->(hc b a).Pairwise (λk o=>bP k<bP o)
 | [],_,_=>by simp[hc]
 |c::a,r,x=>by
  obtain⟨z,C⟩:=a5w.1 r;have D:=x c a9q;by_cases y:bP b<bP c
  .have p:hc b (c::a)=b::c::a:=by simp[hc,y]
   rw[p];refine a5w.2 ⟨λh d=> ?_,r⟩;grind
  .have p:hc b (c::a)=c::hc b a:=by simp[hc,y]
   rw[p];refine a5w.2 ⟨λh d=> ?_,Gy C λh d=>x h (by simp[d])⟩;rcases a5j.1 ((Gx b a).mem_iff.1 d)with rfl|d
   .omega
   .exact z h d
theorem Gz: ∀(b a:List (List Int)),(a++b).Pairwise (λh k=>bP h≠bP k)->a.Pairwise (λh k=>bP h<bP k)->(b.foldl (λo c=>hc c o) a).Perm (a++b)/\(b.foldl (λo c=>hc c o) a).Pairwise (λh k=>bP h<bP k)
 | [],a,_,d=>by simpa using d
 |c::b,a,d,p=>by
  have r:=((Gx c a).append_right b).trans a7m.symm;obtain⟨D,E,x⟩:=a5Q.1 d;obtain⟨F,G⟩:=Gz b (hc c a) (r.symm.pairwise d λd=>d.symm) (Gy p λy z C=>x y z c a9q C.symm);grind
variable{Q:List (List Int)}
theorem a2K (c:Q.Pairwise (λa b=>bP a<bP b)) (p: ∀d∈Q,bP q≠bP d):(re (Q++ [q])).Perm (q::Q)/\(re (Q++ [q])).Pairwise (λa b=>bP a<bP b):=by
 have h:([]++(Q++ [q])).Pairwise (λa b=>bP a≠bP b):=by rw[a5f];refine a5Q.2 ⟨c.imp λc=>by omega,a9q,λa r b x=> ?_⟩;grind
 obtain⟨k,o⟩:=Gz (Q++ [q]) [] h .nil;exact⟨k.trans (List.perm_append_singleton _ _),o⟩
def eM.put {d:Nat}{a:aW} (b:eM d a) (G:d<900) {c:List Int} (h:bL (a.aD.length+1) c) (o: ∀y∈a.rows,bP y≠bP c):eM (d+1) (a.put c)/\(cY (a.aD.length+1) c a.bM 0).2=true/\c∉eF a.cr:=by
 have L:=b.c;have p:c∉a.rows:=λhm=>o c hm rfl;have r:(cY (a.aD.length+1) c a.bM 0).2=true:=by
  cases z:(cY (a.aD.length+1) c a.bM 0).2 with
  |true=>rfl
  |false=>exact absurd (b.fU.mem_iff.1 (zj z)) p
 have x:c∉eF a.cr:=λhm=>p (b.nI.mem_iff.1 hm);obtain⟨k,C⟩:=a2K b.dM λD E F=>o D E F.symm;have P:=b.nI.length_eq;have S:=b.dB;refine⟨⟨b.right,b.dz.ins h,?_,(a2v a9p a9p h b.go a9p).1,?_,C,?_⟩,r,x⟩
 .exact(zi h b.dz.ff r).trans ((b.fU.cons c).trans k.symm)
 .exact(a2I a9p a9p h b.go x).trans ((b.nI.cons c).trans k.symm)
 .show(re (a.rows++ [c])).length<=d+1;rw[k.length_eq,a4S];omega
theorem a2L {b:List (List Int)} (d:Q.Pairwise (·≠ ·)) (a:Q.Perm (q::b)):b.Perm (Q.filter λc=>decide (c≠q)):=by have h:=(a.filter λc=>decide (c≠q)).symm;have k:(q::b).Pairwise (·≠ ·):=a.pairwise d λa=>a.symm;obtain⟨o,_⟩:=a5w.1 k;rw[a8a,if_neg a9q]at h;grind[decide,List.filter_eq_self,decide_eq_true]
variable{j7:aW}
def eM.r8 (a:eM e j7):j7.rows.Pairwise (·≠ ·):=a.dM.imp λa b=>by subst b;omega
theorem eM.del {k:Nat}{b:aW} (a:eM k b) {c:List Int} (d:c∈b.rows):eM k (b.del c)/\(ch (b.aD.length+1) c b.bM 0).2=true/\c∈eF b.cr:=by
 have z:=a.c;have h:=a.row d;have o:(ch (b.aD.length+1) c b.bM 0).2=true:=by
  cases r:(ch (b.aD.length+1) c b.bM 0).2 with
  |true=>rfl
  |false=>exact absurd (a.fU.mem_iff.2 d) (zk h.len a.dz.ff a.dz.va r)
 have p:=a.nI.mem_iff.2 d;have x:=a1E a.dz o;refine⟨⟨a.right,a.dz.del,?_,(a2A a9p a9p h a.go).1,?_,a.dM.filter _,a5K (a8c _ _) a.dB⟩,o,p⟩
 .exact a2L a.r8 (a.fU.symm.trans x)
 .show(eF (jr b.cr c)).Perm (b.rows.filter λy=>decide (y≠c));rw[a2J a9p a9p h a.go p];exact a.nI.filter _
def eM.none (a:eM e j7) (d:q.length=j7.aD.length+1) (b:q∉j7.rows):(ch (j7.aD.length+1) q j7.bM 0).2=false:=by
 cases c:(ch (j7.aD.length+1) q j7.bM 0).2 with
 |false=>rfl
 |true=>exact absurd (a.fU.mem_iff.1 ((v7 c).mem_iff.2 a9q)) b
variable{c0:cy}
theorem zQ (a:eo c0=true) (b:c0.kind=1):eo ⟨1,c0.table,c0.aD,[]⟩=true:=by unfold eo at a|-;simp_all
variable{w:List UInt8}
def GA {a:List (List UInt8)} (b:eo ⟨1,w,a,[]⟩=true):eM e ⟨w,a,[],.nil,none⟩:=⟨b,ly.nil,.refl _,trivial,.refl _,.nil,a5v _⟩
variable{X:List aW}
theorem add_eq (b:dj e X) (d:e<=1000) {a:List (List UInt8)} (h:eo ⟨1,w,a,[]⟩=true):
  jZ (X.map aW.bx) ⟨w,a,ay,ay⟩=if bX X w<X.length then .error 4 else if 7<X.length then .error 10 else .ok ((X.take (js X w)++⟨w,a,[],.nil,none⟩::X.drop (js X w)).map aW.bx):=by
 have k:fx ⟨w,a,ay,ay⟩=true:=(GA h).bx a9p;unfold jZ;rw[b.cat d,k,Bool.and_self,if_pos rfl]
 dsimp only
 rw[zM b,a4Y];by_cases c:bX X w<X.length;simp_all
 .rw[if_neg (by simpa using c),if_neg c,a2D a9p];by_cases c2:7<X.length
  .grind
  .rw[if_neg a9p,if_neg c2,a5P,a5k,a8p,a7F];rfl
theorem zR (a:dj e X) (c:e<=1000):cI (X.map aW.bx) w=if bX X w<X.length then .ok ((X.eraseIdx (bX X w)).map aW.bx)else .error 3:=by
 unfold cI;rw[a.cat c,if_pos rfl,zM a];by_cases b:bX X w<X.length
 .rw[if_pos (decide_eq_true b),if_pos b,Gp a b,a6W,a5P,a8p,a7F]
 grind
theorem pb (a:dj e X) (b:e<=1000) (c:eM i j7) (d:i<=1000) (h:bX X j7.name<X.length):ka (X.map aW.bx) j7.bx= .ok ((X.set (bX X j7.name) j7).map aW.bx):=by unfold ka;rw[a.cat b,c.bx d,Bool.and_self,if_pos rfl];show(if gA (X.map aW.bx) j7.name=true then _ else _)= _;rw[zM a,if_pos (decide_eq_true h)];grind[aW.bx,set,cZ,Gp,List.map_set]
def dj.zS (c: ∀d∈X,eM e d) (h:cj (X.map aW.bx)=true):dj e X:=by obtain⟨_,a,b⟩:=nH.1 h;rw[a7j]at a;rw[a4Y]at b;exact⟨c,a,b⟩
def dj.le {b c:Nat}{d:List aW} (a:dj b d) (h:b<=c):dj c d:=⟨λk o=>(a.ok k o).le h,a.dM,a.dB⟩
theorem dj.set {b:Nat}{a:List aW} (d:dj b a) (x:b<1000) {c:aW} (h:eM (b+1) c) (k:bX a c.name<a.length):dj (b+1) (a.set (bX a c.name) c):=
 dj.zS (λo p=>by
  rcases a6V p with r|rfl
  .exact(d.ok o r).le a9p
  .exact h) (Ga (pb d a9p h a9p k))
def vr (a:eo c0=true) (h:c0.kind≠1) (k:c0.kind≠2):(c0.kind=3\/c0.kind=4):=by
 have a:=a;simp only[eo,a4Q]at a;have a:=a.2;have c: ∀d:UInt8,c0.kind.toNat=d.toNat->c0.kind=d:=λd b=>a5I.1 b;split at a
 .rename_i b;exact absurd (c 1 b) h
 split at a
 .rename_i b;exact absurd (c 2 b) k
 split at a
 .rename_i b;exact b.imp (c 3) (c 4)
 .cases a
theorem zT (d:dj e X) (y:e<900) (o:cX c0.row):dj (e+1) (eL X c0).2:=by
 have b:=d.le (show e<=e+1 by omega);unfold eL;by_cases p:eo c0=false
 .rw[if_pos p];exact b
 rw[if_neg p];have z:eo c0=true:=by simp_all
 by_cases c1:c0.kind=1
 .rw[if_pos c1];have r:=zQ z c1;have h:=add_eq d a9p r;by_cases c2:bX X c0.table<X.length
  .rw[if_pos c2];exact b
  rw[if_neg c2]at h|-;by_cases aH:7<X.length
  .rw[if_pos aH];exact b
  rw[if_neg aH]at h|-;refine dj.zS (λc a=> ?_) (Gd h);simp only[a5a,a5j]at a;rcases a with a|rfl|a
  .exact b.ok c (a4Z a)
  .exact GA r
  .exact b.ok c (a5r a)
 rw[if_neg c1];by_cases c2:X.length<=bX X c0.table
 .rw[if_pos c2];exact b
 rw[if_neg c2];have k:bX X c0.table<X.length:=a9p;by_cases aH:c0.kind=2
 .rw[if_pos aH];have h:=zR (w:=c0.table) d a9p;rw[if_pos k]at h;exact dj.zS (λc a=>b.ok c (a7R a)) (G9 (d.cat a9p) h)
 rw[if_neg aH];have a:=d.ok _ (vq k);have C:=ta k;generalize X.getD (bX X c0.table) default=c at*;by_cases aK:c0.row.length≠c.aD.length+1
 .rw[if_pos aK];exact b
 rw[if_neg aK];have D:bL (c.aD.length+1) c0.row:=⟨a9p,o⟩;rw[<-C]at k|-;by_cases bm:c0.kind=4
 .rw[if_pos bm];by_cases bs:c0.row∈c.rows
  .rw[if_pos bs];exact d.set a9p ((a.del bs).1.le a9p) k
  .rw[if_neg bs];exact b
 .rw[if_neg bm];by_cases bs:c.rows.any (λx=>decide (bP x=bP c0.row))=true
  .rw[if_pos bs];exact b
  .rw[if_neg bs];refine d.set a9p (a.put y D λx o E=>bs ?_).1 k;simp_all
def kM (a:List Int):Nat:=(bP a+9223372036854775808).toNat
theorem zU (a:cX q): -9223372036854775808<=bP q/\bP q<9223372036854775808:=by
 unfold bP;rw[a5F];cases b:q[0]? with
 |none=>simp
 |some c=>exact a c (a4V b)
theorem zV (a:cX q):IntKind.u64.wrap (IntKind.u64.wrap (bP q)+9223372036854775808)=(kM q:Int)/\(kM q:Int)=bP q+9223372036854775808:=by grind[zU,kM,bP,Int.toNat_of_nonneg,kr]
theorem GB (c d:Own) (a:List Int) (b:U) (k:oA a) (o:cX a):AC Tryz.prog 144 [fO.V c,.J (ad a) d] b λp r=>r=b/\p= .aI [ic 0 (kM a),.v (.bool true)]:=by
 obtain⟨x,y⟩:=zV o;obtain⟨C,D⟩:=k;have E:=bH (q:=a);have F:=mm (q:=a) a9p d;have z:fO.ok a.length=true:=by rw[qY];simp_all
 have h:=λb=>F2 fO c a.length b a9p a9q;rw[z]at h;unfold bP at x;clear y;refine aM hm Nt ?_;refine bp λG L=> ?_;refine cV λP S T V=> ?_;refine bc (h _) ?_;rfl
theorem a2M (r x y:Own) (a b:List Int) (c:U) (F:oA a) (l:b.length=a.length) (z:cX a) (C:cX b):AC Tryz.prog 76 [fO.V r,.J (ad a) x,.J (ad b) y] c λk o=>o=c/\k= .v (.bool (decide (bP a<bP b))):=by
 have T:oA b:=by unfold oA at*;omega
 have fU:=(zV z).2;have V:=(zV C).2;have G:=λc=>GB r x a c F z;have L:=λc=>GB r y b c T C;obtain⟨m,n⟩:=F;have q:=bH (q:=a);have s:=bH (q:=b);have W:=mm (q:=a) a9p x;have e:=mm (q:=b) a9p y;have P:a.getD 0 0=bP a:=rfl;have S:b.getD 0 0=bP b:=rfl;rw[P]at W;rw[S]at e;have t:kM a<kM b↔bP a<bP b:=a9p;have u:kM a=kM b↔bP a=bP b:=a9p;have cc:kM a<18446744073709551616/\kM b<18446744073709551616:=by have G:=zU z;have L:=zU C;omega
 clear P S fU V;generalize kM a=d at*;generalize kM b=h at*;generalize bP a=D at*;generalize bP b=f at*;have E: ∀p:Nat,p<18446744073709551616->dm [(2,c8.int IntKind.u64)] [R.v (Value.int IntKind.u64 0),R.v (Value.int IntKind.u64 (p))]:=λp v=>by
  simp[dm,c8.tm]
 have w:=E d cc.1;have A:=E h cc.2;clear E;have g:peq (R.agg [R.v (Value.int IntKind.u64 0),R.v (Value.int IntKind.u64 (d))]) (R.agg [R.v (Value.int IntKind.u64 0),R.v (Value.int IntKind.u64 (h))])=decide (d=h):=by grind[peq]
 refine aM hm Ls ?_;refine bp λB H=> ?_;refine bc (G _) ?_;refine cV λI K p M=> ?_;refine bc (L _) ?_;refine hl λN O ca Q X Y=> ?_;have i: ∀c,AC Tryz.prog 145 [ic 0 d,ic 0 h] c λk o=>o=c/\k= .v (.bool (decide (D<f))):=λc=>(a0w 0 d 0 h c).mono λk o j=>⟨j.1,by simp_all⟩;rw[g];refine aG (λD=> ?_) λD=> ?_
 .refine bc (i _) ?_;trivial
 .trivial
theorem a2N (c: ∀a<e,¬bP q<bP (Q.getD a [])) (b:e<=Q.length) (d:e<Q.length->bP q<bP (Q.getD e [])):hc q Q=Q.take e++q::Q.drop e:=by
 induction Q generalizing e with
 |nil=>simp at b;subst b;rfl
 |cons h Q ih=>
  cases e with
  |zero=>grind[bP,hc,List.takeWhile_cons,List.dropWhile_cons]
  |succ e=>have o: ¬bP q<bP h:=c 0 a9p;have:=ih (λa p=>c (a+1) a9p) (by simpa using b) (λk=>d (by simpa using k));simp_all [hc]
theorem a2O (d:List (List Int)) (m:List R) (w z:Own) (F:Nat) (C:U) (g:aA isRow d m) (n: ∀G∈d,bL F G) (k1:1<=F) (k2:F<=8) (n1:d.length<=100000):
  AC Tryz.prog 44 [fO.V z,.J m w] C λG L=>C.sub L/\ ∃A k3,aA isRow (re d) A/\G= .J A k3:=by
 have n2:=g.len;have k4: ∀C,AC Tryz.prog 42 [fO.V z,.v (.int .i64 (F:Int))] C λG L=>L=C/\G= .v (.bool true):=λC=>by
  have:=F2 fO z F C a9p a9q;rw[qY,decide_eq_true ⟨k1,k2⟩]at this;exact this
 have n3:(fO.V z).cells= [.v (.int .u8 0),.v (.int .i64 0),.J (ad []) z]:=rfl;refine aM hm KC ?_;refine bp λq k5=> ?_;have B: ∀S,(C.set q (.cells (fO.V z).cells)).sub S->S.read q=some [.v (.int .u8 0),.v (.int .i64 0),.J (ad []) z]:=λS k=>U.ae (k _ _ (U.ai _ _ _));have k6:=U.af (Y:= .cells (fO.V z).cells) (U.a1) k5;generalize C.set q _=H at*;refine gE [1,2,5] (λh:Nat=> [(6,.v (.int .i64 h))]) (λh=>h<=d.length) (λh=>d.length - h) 0 a9p aS ?_
 .rintro h I K;have k7:=B H U.a1;refine aa ?_;refine aG (λs=> ?_) λs=> ?_
  .have T:d[h]? =some (d.getD h []):=by simp_all
   have M:d[0]? =some (d.getD 0 []):=by grind
   obtain⟨_,k8,i,rfl⟩:=g.get T;obtain⟨_,k9,D,rfl⟩:=g.get M;have l0:=(n _ (a4V T)).len;have n4:=(n _ (a4V M)).len;have n5:=bH (q:=d.getD h []);have n9:=bH (q:=d.getD 0 []);generalize d.getD h []=r at*;generalize d.getD 0 []=b at*;refine aa ?_;have a00:cL 1 (.J m w) (.v (.int .i64 0))=some (.bV [.J (ad b) D]):=by show cL 1 _ (.v (.int .i64 ((0:Nat))))= _;rw[o1,k9];rfl
   refine bc (k4 _) ?_;exact⟨h+1,a9p,rfl,a9p⟩
  .refine cn [1,2] (λb:Nat×List R×Own=> [(7,.v (.int .i64 b.1)),(5,.J b.2.1 b.2.2)]) (λb L=>H.sub L/\b.1<=d.length/\ ∃c,(d.take b.1).foldl (λc r=>hc r c) []=c/\c.length=b.1/\(∀G∈c,bL F G)/\aA isRow c b.2.1) (λb=>d.length - b.1) (0,[],.nil) ⟨⟨U.a1,a9p,[],rfl,rfl,a9q,trivial⟩,aS⟩ ?_;rintro⟨h,E,bD⟩ S ⟨j,I,c,V,l1,N,x⟩ K
   dsimp only at I V l1 x|-
   have a01:=x.len;refine aa ?_;refine aG (λs=> ?_) λs=> ?_
   .have T:d[h]? =some (d.getD h []):=by simp_all
    obtain⟨_,k8,i,rfl⟩:=g.get T;have O:=n _ (a4V T);have l0:=O.len;have l2:=O.jR;have Q:=fb (a:=d) (b:= []) (e:=h) a9p;generalize d.getD h []=r at*;have el: ∀a,a<c.length-> ∃D,E[a]? =some (.J (ad (c.getD a [])) D):=λa W=>by
     obtain⟨_,o,D,rfl⟩:=x.get (i:=a) (x:=c.getD a []) (by simp_all);exact⟨D,o⟩
    have l3: ∀a,a<c.length->(c.getD a []).length=F:=λa W=>(N _ (by simp_all)).len;have l4: ∀a,a<c.length->cX (c.getD a []):=λa W=>(N _ (by simp_all)).jR;refine cn [1,2,5,7] (λb:Nat×List R×Own=> [(9,.v (.int .i64 b.1)),(8,.J b.2.1 b.2.2)]) (λb L=>b.1<=c.length/\(∀X<b.1,¬bP r<bP (c.getD X []))/\aA isRow (c.take b.1) b.2.1/\bh S L 1 b.2.1 b.2.2) (λb=>c.length - b.1) (0,[],.nil) ⟨⟨a9p,λX k=>by simp at k,trivial,bh.nil U.a1⟩,aS⟩ ?_;rintro⟨a,l,on⟩ l5 ⟨W,Y,y,e⟩ K
    dsimp only at W Y y e|-
    have k7:=B l5 (U.aq j e.sub);have a02:l.length=a:=by rw[y.len,a4P];omega
    have Z: ¬(a<c.length/\ ¬bP r<bP (c.getD a []))->hc r c=c.take a++r::c.drop a:=λk=>a2N Y W λl6=>Classical.not_not.1 λP=>k ⟨l6,P⟩;by_cases jP:(a)<(h:Int)
    .obtain⟨D,a03⟩:=el a a9p;have a04:=l3 a a9p;have l7:=l4 a a9p;have l8:=fb (a:=c) (b:= []) (e:=a) a9p;generalize a05:c.getD a []=b at*;refine aa ?_;refine bc (a2M z i D r b _ (by unfold oA;omega) a9p l2 l7) ?_;refine aG (λc2=> ?_) λc2=> ?_
     .refine jI (λj9 f=> ?_);refine dY (e.mono (U.af U.a1 f)) (y.cells λ_ _=>isRow.cells) (λo p=>by rw[a5g]at p;subst p;rfl) a9r a9r λt k0 P=> ?_;refine aa ?_;refine⟨(a+1,l++ [.J (ad b) D],t),⟨by simp only;omega,?_,?_,P⟩,⟨rfl,rfl⟩,by simp only;omega⟩;grind
      .simp only[l8];exact y.snoc ⟨_,rfl⟩
     .have o:=Z a9p;refine jI (λj9 f=> ?_);refine dY (e.mono (U.af U.a1 f)) (y.cells λ_ _=>isRow.cells) (λo p=>by rw[a5g]at p;subst p;rfl) a9r a9r λt k0 P=> ?_;have l9:dI 1 (.J E bD) (some (.v (.int .i64 (a)))) none=some (.J (E.drop a) .any):=p5 a9p (x.cells λ_ _=>isRow.cells);refine aa ?_;refine dY P (λo p=>by rcases a5a.1 p with k|k;exact y.cells (λ_ _=>isRow.cells) o k;rw[a5g]at k;subst k;rfl) ((x.drop a).cells λ_ _=>isRow.cells) a9r a9r λu n0 v=> ?_;refine aa ?_;refine⟨(h+1,l++ [.J (ad r) i]++E.drop a,u),⟨U.aq j v.sub,by simp only;omega,_,rfl,?_,?_,?_⟩,⟨rfl,rfl⟩,by simp only;omega⟩;grind;grind
      .simp only[Q,a6L,V,a5S,a7S,o];rw[a7Z];exact(y.snoc ⟨_,rfl⟩).append (x.drop a)
    .have o:=Z a9p;refine aa ?_;refine jI (λj9 f=> ?_);refine dY (e.mono (U.af U.a1 f)) (y.cells λ_ _=>isRow.cells) (λo p=>by rw[a5g]at p;subst p;rfl) a9r a9r λt k0 P=> ?_;have l9:dI 1 (.J E bD) (some (.v (.int .i64 (a)))) none=some (.J (E.drop a) .any):=p5 a9p (x.cells λ_ _=>isRow.cells);refine aa ?_;refine dY P (λo p=>by rcases a5a.1 p with k|k;exact y.cells (λ_ _=>isRow.cells) o k;rw[a5g]at k;subst k;rfl) ((x.drop a).cells λ_ _=>isRow.cells) a9r a9r λu n0 v=> ?_;refine aa ?_;refine⟨(h+1,l++ [.J (ad r) i]++E.drop a,u),⟨U.aq j v.sub,by simp only;omega,_,rfl,?_,?_,?_⟩,⟨rfl,rfl⟩,by simp only;omega⟩;grind;grind
     .simp only[Q,a6L,V,a5S,a7S,o];rw[a7Z];exact(y.snoc ⟨_,rfl⟩).append (x.drop a)
   .obtain rfl:h=d.length:=a9p;rw[a5i]at V;refine⟨U.aq k6 j,E,bD,by rw[re,V];exact x,rfl⟩
def a2P {a:Nat->Bool}:(List.range (e+1)).all a=(a 0&&(List.range e).all λb=>a (b+1)):=by rw[a8O,List.all_cons,a9m];rfl
theorem GC (b:List UInt8): ∀(c a:Nat),b.length<c+a->lp ⟨b.toArray⟩ c a=(List.range (b.length - a)).all λk=>nr (a+k) (b.getD (a+k) 0)
 |0,a,o=>by
  rw[show b.length - a=0 by omega];rfl
 |c+1,a,o=>by
  have p:(⟨b.toArray⟩:ByteArray).size=b.length:=rfl;rw[lp,p];by_cases d:a<b.length
  .rw[if_pos d];obtain⟨h,hm⟩: ∃h,b.length - a=h+1:=⟨b.length - a - 1,a9p⟩;rw[hm,a2P,a6M];have r:b.getD a 0=b[a]:=by simp[d]
   rw[r];by_cases cu:b[a].toNat<128
   .rw[EN b a d cu]
    dsimp only
    rw[GC b c (a+1) a9p,show b.length -(a+1)=h by omega];have x:fM a (b[a].toNat)=nr a b[a]:=by unfold fM nr;grind
    grind
   grind[decode_high,fM,Utf8.decode,decide_eq_false,nr]
  simp_all
theorem GD (a:List UInt8):ns a=jU a:=by unfold ns jU;rw[GC a (a.length+1) 0 a9p];grind
theorem a2Q {a:List (List UInt8)} (b:e<a.length):lq a e=mh a e:=by unfold lq mh;rw[GD];congr 2;rw[a7p];simp only[a5e,a6e,a6t,decide_eq_false_iff_not];grind[hm,List.getElem_of_mem,List.length_take,List.getD,List.mem_iff_getElem]
theorem a2R (a:List (List UInt8)):(List.range a.length).all (lq a)=(List.range a.length).all (mh a):=by rw[a7p];grind[List.all_eq_true,a2Q]
theorem a2S (a:cy):oy a=eo a:=by
 unfold oy eo yg mi;rw[GD,a2R];congr 1;by_cases b:a.kind.toNat=1
 .rw[if_pos b,if_pos b,Bool.and_assoc];grind
 rw[if_neg b,if_neg b];by_cases c:a.kind.toNat=2;simp_all;grind
def ey (c:Nat) (d h:U):Prop:= ∀a b,a≠c->d a=some b->h a=some b
variable{f t e4:U}
theorem ey.of {s:U} (a:s.sub f):ey e s f:=λb c _ d=>a b c d
theorem ey.trans (d:ey e f t) (h:ey e t e4):ey e f e4:=λa b c k=>h a b c (d a b c k)
theorem ey.set {a:Nat}{b c:U}{h:br} (k:ey a b c):ey a b (c.set a h):=λo p d r=>by rw[U.ao _ _ d];exact k o p d r
def fp (a:List R) (b:Nat) (d:R) (c:Nat):List R:=if c<=b then a.take c else(a.take b++d::a.drop b).take (c+1)
variable{n b3:R}{g B e0:List R}
def a2T (b:e<i) (a:g[e]? =some b3):fp g i n (e+1)=fp g i n e++ [b3]:=by unfold fp;rw[if_pos a9p,if_pos a9p];obtain⟨c,rfl⟩:=a4T.1 a;simp
theorem a2U (a:g[e]? =some b3):fp g e n (e+1)=fp g e n e++ [n]++ [b3]:=by unfold fp;obtain⟨b,rfl⟩:=a4T.1 a;rw[if_neg a9p,if_pos a9p,a5l b];grind
theorem a2V (b:e<i) (a:g[i]? =some b3):fp g e n (i+1)=fp g e n i++ [b3]:=by unfold fp;obtain⟨c,rfl⟩:=a4T.1 a;rw[if_neg a9p,if_neg a9p];have d:(g.take e++n::g.drop e).length=g.length+1:=a9r;rw[a5X (show i+1<(g.take e++n::g.drop e).length by omega)];congr 2;grind
def a2W (a:e<=g.length):(if e<g.length then fp g e n g.length else fp g e n g.length++ [n])=g.take e++n::g.drop e:=by
 split
 .unfold fp;rw[if_neg a9p,a4N a9r]
 .obtain rfl:e=g.length:=a9p;unfold fp;rw[if_pos a9p];simp
def a2X (a:aA (hd f) X g) (h:n.cells.length=1):aR 1 (fp g e n i):=λc b=>by
 have d:=Gr a;unfold fp at b;split at b
 .exact d c (a4Z b)
 .have:=a4Z b;rcases a5a.1 this with a|a
  .exact d c (a4Z a)
  .rcases a5j.1 a with rfl|a
   .exact h
   .exact d c (a5r a)
theorem a2Y:(fp g i n e).length<=e+1:=by unfold fp;grind
theorem a2Z: ∀a<js X w,c5 w (X.getD a default).name=false:=by
 unfold js
 induction X with
 |nil=>intro a b;simp at b
 |cons d X ih=>
  intro a b;rw[a6g]at b;cases c:c5 w d.name with
  |true=>simp[c]at b
  |false=>
   simp only[c,a5H,if_true,a4S]at b;cases a with
   |zero=>trivial
   |succ a=>simp_all
def a3a:js X w<=X.length:=(List.takeWhile_sublist _).length_le
theorem a3b (a:js X w<X.length):c5 w (X.getD (js X w) default).name=true:=by
 induction X with
 |nil=>simp at a
 |cons b X ih=>
  unfold js at a|-;rw[a6g]at a|-;cases c:c5 w b.name with
  |true=>simp[c]
  |false=>simp_all [if_true,js]
theorem a3c (a:List aW) (b:List UInt8):(bX a b<a.length->pN a b=(bX a b:Int))/\(a.length<=bX a b->pN a b= -1):=by simp_all [pN,if_pos,if_neg]
def a3d (a:UInt8) (b:Int):iY BinOp.eql (ak a) (R.v (Value.int IntKind.u8 b))=some (.v (.bool (decide ((a.toNat:Int)=b)))):=by simp only[ak,rQ];rfl
theorem a3e (a:g[e]? =some n) (b:e≠i):(g.take (e+1)).eraseIdx i=(g.take e).eraseIdx i++ [n]:=by obtain⟨c,rfl⟩:=a4T.1 a;grind[List.take_succ_eq_append_getElem,Nat.lt_or_ge,List.eraseIdx_append_of_lt_length,List.length_take,List.eraseIdx_of_length_le]
theorem a3f:(g.take (e+1)).eraseIdx e=(g.take e).eraseIdx e:=by grind[List.eraseIdx_eq_take_drop_succ,List.drop_eq_nil_of_le,List.length_take,Nat.min_eq_left,Nat.min_self]
variable{b0:Type}
def aA.erase {b:b0->R->Prop}{c:List b0} (a:Nat) (d:aA b c g):aA b (c.eraseIdx a) (g.eraseIdx a):=by rw[a6W,a6W];exact(d.take a).append (d.drop (a+1))
variable{M e6 h4:Own}
def zX (a:f e=some (.cells [n])) (b:aA (hd f) X g):hf (f.set e (.cells [.J g M])) e X:=
 ⟨g,M,U.ai _ _ _,b.mono λ_ _ c=>c.ij (ig.set a rfl)⟩
def GF {a:List (List UInt8)} (b:f e=some (.cells [bb w,.J (bE a) M,.J [] .nil,.v (.pointer none),.v (.pointer none)])):hd f ⟨w,a,[],.nil,none⟩ (.ptr e 0):=⟨e,M,[],.nil,_,_,rfl,b,trivial,rfl,rfl⟩
theorem a3g (a:aA (hd f) X g):bN t 1 (.J g M)=some (g.length,g):=by
 have p: ∀b∈g,b.cells= [b]:=λb d=>by
  obtain⟨h,k,rfl⟩:=a5y d;have r:=a.len;obtain⟨o,c,x,_,_,_,_,_,rfl,_⟩:=a.get (a4M (show h<X.length by omega));rw[a4M k]at c;rw[a4L c];rfl
 have y:flat g=g:=by
  unfold flat;clear a
  induction g with
  |nil=>rfl
  |cons o g ih=>simp_all
 simp_all [bN,if_pos,a5e,decide_eq_true]
def kc (a:Nat) (p c:U) (r:List aW):Prop:= ∃b d,aA (hd b) r d/\(∃x,b a=some (.cells [x]))/\ey a p b/\ey a b c/\
 ((∃y,c a=some (.cells [.J d y]))\/ ∃h k z o,b h=none/\c a=some (.cells [.an h k z 1])/\c h=some (.cells o)/\k<=o.length/\ee 1 k o=d)
theorem kc.of {s:U}{ds:List aW} (a:hf f e ds) (c:ey e s f):kc e s f ds:=by obtain⟨d,h,b,k⟩:=a;exact⟨f,d,k,⟨_,b⟩,c,λ_ _ _ a=>a,.inl ⟨h,b⟩⟩
theorem a3h (M:U) (w a68:Nat) (k:List aW) (c:hf M w k) (a69:dj a68 k) (b49:a68<900) (x:cN) (a71:x.d.Fit) (X:cX x.d.row):
  AC Tryz.prog 21 [.ptr w 0,x.V] M λy n=>kc w M n (eL k x.d).2/\y= .v (.int .i64 (eL k x.d).1):=by
 have h:=(eL.eq_1 k x.d).symm;generalize eL k x.d=b12 at*;have Y:=λM=>ZD x a71 M;rw[a2S]at Y;have a73:=a69.dB;obtain⟨E,a14,a74,a81⟩:=c;have n4:=a81.len;have a83:x.V= .agg [ak x.d.kind,bb x.d.table,.J (bE x.d.aD) x.gn,.J (ad x.d.row) x.dn]:=rfl;rw[a83]at Y|-;clear a83;obtain⟨b50,b51,b52,b53⟩:=a71;generalize a15:x.d.kind=V at*;generalize b54:x.d.table=G at*;generalize b55:x.d.aD=l1 at*;generalize b56:x.d.row=z at*;refine aM hm K3 ?_;refine bp λn5 a16=> ?_;have W:=U.af (Y:= .cells [ak V,bb G,.J (bE l1) x.gn,.J (ad z) x.dn]) (U.a1 (f:=M)) a16;have aH:=U.ai M n5 (.cells [ak V,bb G,.J (bE l1) x.gn,.J (ad z) x.dn]);have b57:w≠n5:=by rintro rfl;rw[a74]at a16;cases a16
 generalize M.set n5 _=e at*;have F:=W _ _ a74;have S:aA (hd e) k E:=a81.mono λ_ _ c=>c.sub W;have a84:=a2F e w k ⟨E,a14,F,S⟩ G a9p;have j:=U.ae aH;have eI:=U.ae F;obtain⟨a86,b13⟩:=a3c k G;have Z:hf e w k:=⟨E,a14,F,S⟩;cases cu:eo x.d with
 |false=>rw[cu]at Y;rw[if_pos cu]at h;refine bc (Y e) ?_;exact⟨_,U.a1,kc.of (by rw[<-h];exact Z) (ey.of W),by rw[<-h]⟩
 |true=>
  rw[cu]at Y;rw[if_neg (by rw[cu];simp)]at h;refine bc (Y e) ?_;generalize pN k G=b14 at*;refine bc a84 ?_;clear Y a84;refine aG (λa88=> ?_) λa88=> ?_
  .have n9:V=1:=a5I.1 (by grind);rw[if_pos n9]at h;refine aG (λq=> ?_) λq=> ?_
   .rw[if_pos a9p]at h;exact⟨_,U.a1,kc.of (by rw[<-h];exact Z) (ey.of W),by rw[<-h]⟩
   rw[if_neg a9p]at h;refine aG (λc2=> ?_) λc2=> ?_
   .rw[if_pos a9p]at h;exact⟨_,U.a1,kc.of (by rw[<-h];exact Z) (ey.of W),by rw[<-h]⟩
   rw[if_neg a9p]at h;have b58:=a3a (X:=k) (w:=G);have b15:=a2Z (X:=k) (w:=G);have b16:=a3b (X:=k) (w:=G);generalize js k G=d at*;refine dc U.a1 (by simp[aR]) λb59 b60 a89=> ?_;refine aa ?_;refine dY (g:= []) a89 (λ_ c=>by cases c) sZ (by rw[a4W,hx];omega) (by rw[a4W,hx];omega) λa18 a19 l2=> ?_;rw[a5f]at l2|-;have j:=U.ae (l2.sub _ _ aH);refine aa ?_;refine aN λo N=> ?_;have j9:(a19.set o (.cells (R.agg [bb G,.J (bE l1) a18,.J [] .nil,.v (.pointer none),.v (.pointer none)]).cells)) o=some (.cells [bb G,.J (bE l1) a18,.J [] .nil,.v (.pointer none),.v (.pointer none)]):=U.ai _ _ _;have k0:=U.aq l2.sub (U.af (Y:= .cells (R.agg [bb G,.J (bE l1) a18,.J [] .nil,.v (.pointer none),.v (.pointer none)]).cells) (U.a1 (f:=a19)) N);have b61:w≠o:=by rintro rfl;rw[l2.sub _ _ F]at N;cases N
   refine aa ?_;have a90:fp E d (.ptr o 0) 0= []:=by unfold fp;rw[if_pos (a5v _)];rfl
   have b17:decide (d<0)=false:=a9q;generalize a19.set o _=b18 at*;clear a89 l2 N j;refine cn [0,3,8] (λp:Nat×Own=> [(6,.J (fp E d (.ptr o 0) p.1) p.2),(7,.v (.bool (decide (d<p.1)))),(9,.v (.int .i64 (p.1:Int)))]) (λp n=>p.1<=k.length/\bh b18 n 1 (fp E d (.ptr o 0) p.1) p.2) (λp=>k.length - p.1) (0,.nil) ⟨⟨a5v _,by rw[a90];exact bh.nil U.a1⟩,aS⟩ ?_;rintro⟨a,bD⟩ l3 ⟨l4,r⟩ a92
   dsimp only at l4 r|-
   have a94:=a2Y (g:=E) (i:=d) (e:=a) (n:= .ptr o 0);have k1:=a2X (e:=d) (i:=a) (n:= .ptr o 0) S rfl;have eI:=U.ae (r.sub _ _ (k0 _ _ F));have b62:=U.ae (r.sub _ _ j9);clear a90 b17;refine aa ?_;refine aG (λaH=> ?_) λaH=> ?_
   .have k6:a<k.length:=a9p;have k2:k[a]? =some (k.getD a default):=by simp[List.getD,k6]
    obtain⟨_,k7,a27,l,a95,a96,a00,a01,rfl,s,_,_,_⟩:=S.get k2;have A:=U.ae (r.sub _ _ (k0 _ _ s));have a97:=(ve G (k.getD a default).name).1;rcases a8t a d with B|B|B
    .have a29:=b15 a B;have P:=a2T (n:= .ptr o 0) B k7;have b19: ¬d<a:=a9p;have l5: ¬d<a+1:=a9p;generalize fp E d (.ptr o 0) a=a02 at*;rw[a29]at a97;refine aa ?_;refine hn r k1 λ_ T L C _=> ?_;exact⟨(a+1,T),⟨by simp only;omega,by simp only[P];exact C⟩,⟨by simp only[P],by simp[l5],rfl⟩,by simp only;omega⟩
    .subst B;have a29:=b16 k6;have P:=a2U (n:= .ptr o 0) k7;have b19: ¬a<a:=a9p;generalize fp E a (.ptr o 0) a=a02 at*;rw[a29]at a97;have l5:a<a+1:=a9p;refine aa ?_;refine hn r k1 λ_ T L C _=> ?_;have eI:=U.ae (C.sub _ _ (k0 _ _ F));refine aa ?_;refine hn C (λD a30=>by rcases a5a.1 a30 with c|c;exact k1 D c;rw[a5g]at c;subst c;rfl) λ_ T g C _=> ?_;exact⟨(a+1,T),⟨by simp only;omega,by simp only[P];exact C⟩,⟨by simp only[P],by simp[l5],rfl⟩,by simp only;omega⟩
    .have P:=a2V (n:= .ptr o 0) B k7;have l5:d<a+1:=a9p;generalize fp E d (.ptr o 0) a=a02 at*;refine aa ?_;refine hn r k1 λ_ T L C _=> ?_;exact⟨(a+1,T),⟨by simp only;omega,by simp only[P];exact C⟩,⟨by simp only[P],by simp[l5],rfl⟩,by simp only;omega⟩
   .obtain rfl:a=k.length:=a9p;have a34:=a2W (g:=E) (e:=d) (n:= .ptr o 0) a9p;rw[n4]at a34;have a98:=U.aJ (r.sub _ _ (k0 _ _ F));by_cases B:d<k.length
    .rw[if_pos B]at a34;refine aa ?_;have f:=U.aq k0 r.sub;refine⟨_,U.a1,kc.of ?_ (ey.of (U.aq W f)).set,by rw[<-h]⟩;rw[<-h];exact zX (f _ _ F) (((S.mono λ_ _ c=>c.sub f).take d).append ⟨GF (r.sub _ _ j9),(S.mono λ_ _ c=>c.sub f).drop d⟩)
    .rw[if_neg B]at a34;refine aa ?_;refine hn r k1 λ_ T L C _=> ?_;have a98:=U.aJ (C.sub _ _ (k0 _ _ F));refine aa ?_;have f:=U.aq k0 C.sub;refine⟨_,U.a1,kc.of ?_ (ey.of (U.aq W f)).set,by rw[<-h]⟩;rw[<-h];exact zX (f _ _ F) (((S.mono λ_ _ c=>c.sub f).take d).append ⟨GF (C.sub _ _ j9),(S.mono λ_ _ c=>c.sub f).drop d⟩)
  .have n9: ¬V=1:=λD=>a88 (by rw[D];rfl);rw[if_neg n9]at h;refine aG (λq=> ?_) λq=> ?_
   .have b20:k.length<=bX k G:=by omega
    rw[if_pos b20]at h;exact⟨_,U.a1,kc.of (by rw[<-h];exact Z) (ey.of W),by rw[<-h]⟩
   have k6:bX k G<k.length:=by omega
   obtain rfl:=a86 k6;rw[if_neg a9p]at h;clear a86 b13 q;have b21:=vq k6;generalize bX k G=d at*;refine aG (λa99=> ?_) λa99=> ?_
   .have a03:V=2:=a5I.1 (by grind);rw[if_pos a03]at h;have b22:([]:List R).eraseIdx d= []:=List.eraseIdx_nil;refine cn [0,3,5] (λp:Nat×Own=> [(10,.J ((E.take p.1).eraseIdx d) p.2),(11,.v (.int .i64 (p.1:Int)))]) (λp n=>p.1<=k.length/\bh e n 1 ((E.take p.1).eraseIdx d) p.2) (λp=>k.length - p.1) (0,.nil) ⟨⟨a5v _,by grind[bh.nil,U.a1]⟩,aS⟩ ?_;clear b22;rintro⟨a,bD⟩ l3 ⟨l4,r⟩ a92
    dsimp only at l4 r|-
    have a94:((E.take a).eraseIdx d).length<=a:=a5K (List.length_eraseIdx_le _ _) (by rw[a4P];omega);have k1:aR 1 ((E.take a).eraseIdx d):=λD a30=>Gr S D (a4Z (a7R a30));have eI:=U.ae (r.sub _ _ F);refine aa ?_;refine aG (λaH=> ?_) λaH=> ?_
    .have b23:a<k.length:=a9p;have k2:k[a]? =some (k.getD a default):=by simp[List.getD,b23]
     obtain⟨_,k7,a27,l,a95,a96,a00,a01,rfl,s,_,_,_⟩:=S.get k2;by_cases jP:a=d
     .subst jP;have P:=a3f (g:=E) (e:=a);generalize (E.take a).eraseIdx a=a02 at*;refine aa ?_;exact⟨(a+1,bD),⟨by simp only;omega,by simp only[P];exact r⟩,⟨by simp only[P],rfl⟩,by simp only;omega⟩
     .have P:=a3e (i:=d) k7 jP;generalize (E.take a).eraseIdx d=a02 at*;have b63: ¬(a:Int)=(d:Int):=a9p;refine aa ?_;refine hn r k1 λ_ T L C _=> ?_;exact⟨(a+1,T),⟨by simp only;omega,by simp only[P];exact C⟩,⟨by simp only[P],rfl⟩,by simp only;omega⟩
    .obtain rfl:a=k.length:=a9p;rw[<-n4,a5i]at r|-;have a98:=U.aJ (r.sub _ _ F);refine aa ?_;have f:=r.sub;refine⟨_,U.a1,kc.of ?_ (ey.of (U.aq W f)).set,by rw[<-h]⟩;rw[<-h];exact zX (f _ _ F) ((S.mono λ_ _ c=>c.sub f).erase d)
   .have a03: ¬V=2:=λD=>a99 (by rw[D];rfl);rw[if_neg a03]at h;have b24:k[d]? =some (k.getD d default):=by simp[List.getD,k6]
    have t:=a69.ok _ b21;obtain⟨_,k7,a27,l,a95,a96,a00,a01,rfl,s,b00,a36,a38⟩:=S.get b24;have A:=U.ae s;have b64:=a36.cells;have eY:=a38.cells;have b65:=t.c;have b25:=λy c=>t.row (q:=y) c;have b66:=t.dB;have b67:=b00.len;generalize b68:k.getD d default=b at*;have b69:=hx (a:=b.aD);have b70:=bH (q:=z);refine aa ?_;refine aG (λq=> ?_) λq=> ?_
    .rw[if_pos a9p]at h;exact⟨_,U.a1,kc.of (by rw[<-h];exact Z) (ey.of W),by rw[<-h]⟩
    rw[if_neg a9p]at h;have l6:z.length=b.aD.length+1:=a9p;have fC:=mm (q:=z) a9p x.dn;rw[show z.getD 0 0=bP z from rfl]at fC;have b26:decide (z∈([]:List (List Int)))=false:=a9q;refine cn [0,3,5,12] (λp:Nat×List R×Own=> [(13,.J p.2.1 p.2.2),(14,.v (.bool (decide (z∈b.rows.take p.1)))),(15,.v (.int .i64 (p.1:Int)))]) (λp n=>p.1<=b.rows.length/\bh e n 1 p.2.1 p.2.2/\aA isRow ((b.rows.take p.1).filter λy=>decide (y≠z)) p.2.1/\(V=3-> ∀y∈b.rows.take p.1,bP y≠bP z)) (λp=>b.rows.length - p.1) (0,[],.nil) ⟨⟨a5v _,bh.nil U.a1,trivial,λ_ y c=>by cases c⟩,aS⟩ ?_;clear b26;rintro⟨a,O,bD⟩ l3 ⟨l4,r,i,a04⟩ a92
    dsimp only at l4 r i a04|-
    have A:=U.ae (r.sub _ _ s);have j:=U.ae (r.sub _ _ aH);have a94:O.length<=a:=by rw[i.len];grind
    refine aa ?_;refine aG (λbm=> ?_) λbm=> ?_
    .have b01:a<b.rows.length:=a9p;have k2:b.rows[a]? =some (b.rows.getD a []):=by simp[List.getD,b01]
     obtain⟨_,P,a05,rfl⟩:=b00.get k2;have b71:=(b25 _ (a4V k2)).len;have l7:=fb (a:=b.rows) (b:= []) (e:=a) b01;have b27:b.rows.getD a []∈b.rows:=a4V k2;generalize b.rows.getD a []=y at*;have b28:=mm (q:=y) a9p a05;rw[show y.getD 0 0=bP y from rfl]at b28;refine aa ?_;refine aG (λbs=> ?_) λbs=> ?_
     .refine aG (λb02=> ?_) λb02=> ?_
      .have l8:V=3:=a5I.1 (by grind);rw[if_neg (by rw[l8];decide),if_pos (a7C.2 ⟨y,b27,decide_eq_true bs⟩)]at h;exact⟨_,U.a1,kc.of (by rw[<-h];exact Z.sub r.sub) (ey.of (U.aq W r.sub)),by rw[<-h]⟩
      have b72: ¬V=3:=λD=>b02 (by rw[D];rfl);refine bc (nn y z a05 x.dn _ a9p) ?_;refine aG (λc6=> ?_) λa06=> ?_
      .subst c6;exact⟨(a+1,O,bD),⟨by simp only;omega,r,by simp_all,λc=>absurd c id⟩,⟨rfl,by simp[l7],rfl⟩,by simp only;omega⟩
      refine hn r (i.cells λ_ _=>isRow.cells) λ_ T L C _=> ?_;refine⟨(a+1,O++ [.J (ad y) a05],T),⟨by simp only;omega,C,by simp only[l7,a7Q];rw[a8a,if_pos (by simpa using a06),a8L];exact i.snoc ⟨_,rfl⟩,λl8 b03 a42=> ?_⟩,⟨rfl,by grind,rfl⟩,by simp only;omega⟩;exact False.elim l8
     .have a06:y≠z:=λD=>bs (by rw[D]);refine hn r (i.cells λ_ _=>isRow.cells) λ_ T L C _=> ?_;refine⟨(a+1,O++ [.J (ad y) a05],T),⟨by simp only;omega,C,by simp only[l7,a7Q];rw[a8a,if_pos (by simpa using a06),a8L];exact i.snoc ⟨_,rfl⟩,λl8 b03 a42=> ?_⟩,⟨rfl,by simp only[l7,a5a,a5g];congr 2;exact decide_eq_decide.2 ⟨.inl,λc=>c.resolve_right λD=>a06 D.symm⟩,rfl⟩,by simp only;omega⟩;rw[l7]at a42;rcases a5a.1 a42 with c|c
      .exact a04 l8 b03 c
      .obtain rfl:=a5g.1 c;exact bs
    .obtain rfl:a=b.rows.length:=a9p;rw[a5i]at i a04|-;refine aN λo N=> ?_;have u:=U.bF r.sub N;have j9:(l3.set o (.cells (R.agg [bb b.name,.J (bE b.aD) l,.J [] .nil,.v (.pointer none),.v (.pointer none)]).cells)) o=some (.cells [bb b.name,.J (bE b.aD) l,.J [] .nil,.v (.pointer none),.v (.pointer none)]):=U.ai _ _ _;have a43:=U.af (Y:= .cells (R.agg [bb b.name,.J (bE b.aD) l,.J [] .nil,.v (.pointer none),.v (.pointer none)]).cells) (U.a1 (f:=l3)) N;have b73:n5≠o:=by rintro rfl;rw[aH]at u;cases u
     have b74:a27≠o:=by rintro rfl;rw[s]at u;cases u
     have b75:w≠o:=by rintro rfl;rw[F]at u;cases u
     refine aa ?_;have k8:=U.aq r.sub a43;have b29:=a43;generalize l3.set o _=b04 at*;clear N a43;have A:=U.ae (k8 _ _ s);have j:=U.ae (k8 _ _ aH);have b76:=a3d V 4;refine aa ?_;refine o3 [0,3,5,12,16] (λ_:Unit=> []) (λ_ n=> ∃a07,b12=(0,k.set d a07)/\a07.name=b.name/\hd n a07 (.ptr o 0)/\e.sub n) (λq=> ?_) (λq=> ?_) ?_
     .have a08:V=4:=a5I.1 (by have c:=of_decide_eq_true q;have:(4:UInt8).toNat=4:=rfl;omega);rw[if_pos a08]at h;have aE:=U.aJ j9;refine aa ?_;refine aG (λc6=> ?_) λc6=> ?_
      .rw[if_neg c6]at h;exact⟨_,U.a1,kc.of (by rw[<-h];exact Z.sub k8) (ey.of (U.aq W k8)),by rw[<-h]⟩
      .have b30:=c6;rw[if_pos b30]at h;clear c6;generalize k3:b04.set o _=L;have a47:L o=some (.cells [bb b.name,.J (bE b.aD) l,.J O bD,.v (.pointer none),.v (.pointer none)]):=by subst k3;exact U.ai _ _ _
       have H:e.sub L:=by subst k3;exact U.af k8 u
       clear k3 aE j9;refine ag (ZW (b.aD.length+1) a9p a9p z x.dn l6 b.bM a00 L (a36.mono H) t.dz.ff.ok (by have:=t.dz.cm;omega)) ?_;rintro _ a09 ⟨m,k4,rfl,k5⟩;have l9:=m _ _ a47;have aE:=U.aJ l9;have b31:=k5.cells;have A:=U.ae (m _ _ (H _ _ s));have j:=U.ae (m _ _ (H _ _ aH));refine aa ?_;generalize I:a09.set o _=g;have a48:g o=some (.cells [bb b.name,.J (bE b.aD) l,.J O bD,k4,.v (.pointer none)]):=by subst I;exact U.ai _ _ _
       have n0:e.sub g:=by subst I;exact U.af (U.aq H m) u
       have a52:dN g (lu (b.aD.length+1) z b.bM).1 k4:=by subst I;exact k5.ij (n:=5) a9t (ig.set l9 rfl)
       clear I aE A j;refine ag (a2B (e:=b.aD.length+1) a9p a9p z x.dn ⟨l6,X⟩ b.cr a01 g (a38.fT (U.qt n0)) t.go) ?_;rintro _ k9 ⟨K,a56,b32,rfl,n1⟩;have v:=K _ _ a48;have aE:=U.aJ v;have b33:=n1.cells;refine aa ?_;exact⟨(),b.del z,h.symm,rfl,⟨o,l,O,bD,k4,a56,rfl,U.ai _ _ _,i,(a52.mono K).ij (n:=5) a9t (ig.set v rfl),n1.ij (n:=5) a9t (ig.set v rfl)⟩,U.aq n0 K⟩
     .have a08: ¬V=4:=λD=>(of_decide_eq_false q) (by rw[D];rfl);rw[if_neg a08]at h;have b34:V=3:=by have:=vr cu (by rw[a15];exact n9) (by rw[a15];exact a03);rw[a15]at this;exact this.resolve_right a08
      have b05:=a04 b34;rw[if_neg (λc=>by
       obtain⟨y,X,D⟩:=a7C.1 c;exact b05 y X (of_decide_eq_true D))]at h
      have b35:b.rows.filter (λy=>decide (y≠z))=b.rows:=a8j.2 λy X=>decide_eq_true λD=>b05 y X (by rw[D]);rw[b35]at i;have b77:=i.len;refine aa ?_;refine dc U.a1 (by simp[aR]) λT L C=> ?_;have j:=U.ae (C.sub _ _ (k8 _ _ aH));refine aa ?_;refine dY (g:= []) C (λ_ c=>by cases c) (by simp[aR,ad,R.cells]) (by simp[bH];omega) (by simp[bH];omega) λb06 a09 m=> ?_;rw[a5f];refine aa ?_;refine dc U.a1 (by simp[aR,R.cells]) λb78 g a73=> ?_;refine aa ?_;have b07:b04.sub g:=U.aq m.sub a73.sub;refine s9 (r.mono (U.aq b29 b07)) (i.cells λ_ _=>isRow.cells) (by simp[aR,R.cells]) a9r a9r λb36 k9 K b37=> ?_;have v:=b37 _ _ (b07 _ _ j9);have b38:aA isRow (b.rows++ [z]) (O++ [.J (ad z) b06]):=i.snoc ⟨b06,rfl⟩;have b39: ∀y∈b.rows++ [z],bL (b.aD.length+1) y:=λy c=>by
       rcases a5a.1 c with c|c
       .exact t.row c
       .obtain rfl:=a5g.1 c;exact⟨l6,X⟩
      refine aa ?_;refine ag (a2O (b.rows++ [z]) _ b36 .nil (b.aD.length+1) k9 b38 b39 a9p a9p a9r) ?_;rintro _ a57 ⟨b08,a61,a62,b40,rfl⟩;have b09:=b08 _ _ v;have aE:=U.aJ b09;have a63:e.sub a57:=U.aq K.sub b08;have A:=U.ae (a63 _ _ s);have j:=U.ae (a63 _ _ aH);refine aa ?_;generalize k3:a57.set o _=L;have a47:L o=some (.cells [bb b.name,.J (bE b.aD) l,.J a61 a62,.v (.pointer none),.v (.pointer none)]):=by subst k3;exact U.ai _ _ _
      have H:e.sub L:=by subst k3;exact U.af a63 u
      clear k3 aE A j v b09;refine ag (yt (b.aD.length+1) a9p a9p z x.dn l6 b.bM a00 0 L L (a36.mono H) U.a1 t.dz.ff.ok (by have:=t.dz.cm;omega)) ?_;rintro _ a09 ⟨m,k4,rfl,k5⟩;have k5:=k5.mono qR;have l9:=m _ _ a47;have aE:=U.aJ l9;have b31:=k5.cells;have A:=U.ae (m _ _ (H _ _ s));have j:=U.ae (m _ _ (H _ _ aH));refine aa ?_;generalize I:a09.set o _=g;have a48:g o=some (.cells [bb b.name,.J (bE b.aD) l,.J a61 a62,k4,.v (.pointer none)]):=by subst I;exact U.ai _ _ _
      have n0:e.sub g:=by subst I;exact U.af (U.aq H m) u
      have a52:dN g (cY (b.aD.length+1) z b.bM 0).1 k4:=by subst I;exact k5.ij (n:=5) a9t (ig.set l9 rfl)
      clear I aE A j;refine ag (Zl (e:=b.aD.length+1) a9p a9p z x.dn ⟨l6,X⟩ b.cr a01 g (a38.fT (U.qt n0)) t.go) ?_;rintro _ k9 ⟨K,a56,b32,rfl,n1⟩;have v:=K _ _ a48;have aE:=U.aJ v;have b33:=n1.cells;refine aa ?_;exact⟨(),b.put z,h.symm,rfl,⟨o,l,a61,a62,k4,a56,rfl,U.ai _ _ _,b40,(a52.mono K).ij (n:=5) a9t (ig.set v rfl),n1.ij (n:=5) a9t (ig.set v rfl)⟩,U.aq n0 K⟩
     .rintro _ k9 ⟨a07,b79,b80,b41,l0⟩ b81;have eI:=U.ae (l0 _ _ F);refine aa ?_;rw[nY];refine aa ?_;have b42:=a3g (t:=k9) (M:=a14) S;refine fh (au.zero U.a1) a9p b42 a9p a9r a9r λb14 a57 a10=> ?_;rw[a5f]at a10;obtain⟨Q,n2,n3,a11,rfl,a13,b43,b44,b10,hm,b82,_⟩:=a10.an (λD=>by rw[D]at n4;simp at n4;omega);rw[a5D]at b44 b10 hm;have b83:cL 1 (.an Q n2 n3 1) (.v (.int .i64 (d:Int)))=some (.ptr Q d):=by have:=jz (e:=1) (i:=Q) (v:=n2) (O:=n3) (e2:= .i64) (b1:=(d:Int)) a9p a9p;simpa using this
      have b84:=U.aJ b43;have b45:=a10.1 _ _ (l0 _ _ F);have b46:w≠Q:=by rintro rfl;rw[l0 _ _ F]at a13;cases a13
      have b85:=U.aJ b45;have b86:(R.an Q n2 n3 1).cells= [.an Q n2 n3 1]:=rfl;have b87:d+1<=a11.length:=a9p;refine aa ?_;have b11:putAt a11 d [R.ptr o 0]=a11.set d (.ptr o 0):=by rw[a6d,if_pos a9p];unfold putAt;rw[a5b];rfl
      refine⟨_,U.a1,k9,E.set d (.ptr o 0),aA.set d (S.mono λ_ _ c=>c.sub l0) b41,⟨_,l0 _ _ F⟩,ey.of (U.aq W l0),λb47 b88 b48 a65=> ?_,.inr ⟨Q,n2,n3,putAt a11 d [.ptr o 0],a13,U.ai _ _ _,?_,?_,?_⟩⟩
      .have:b47≠Q:=by rintro rfl;rw[a13]at a65;cases a65
       rw[U.ao _ _ b48,U.ao _ _ this];exact a10.1 _ _ a65
      .rw[U.ao _ _ b46.symm,U.ai]
      .rw[b11,a7L];omega
      .rw[b11,ks,List.take_set,b10]
def a3i (p:U) (a r:Nat) (d:List aW) (b:hf p a d) (j:dj r d) (l:r<900) (c:cN) (m:c.d.Fit) (n:cX c.d.row):
  AC Tryz.prog 21 [.ptr a 0,c.V] p λP h=>hf h a (eL d c.d).2/\ey a p h/\P= .v (.int .i64 (eL d c.d).1):=
 (a3h p a r d b j l c m n).view λP h b=>by
  obtain⟨⟨x,S,T,⟨v,V⟩,W,y,z⟩,rfl⟩:=b;have e: ∀C,ey a x C->ig 1 x C:=λC D k E o q=>D k _ (by rintro rfl;rw[V]at o;obtain rfl:=br.cells.inj (a4L o);exact q rfl) o;rcases z with ⟨F,z⟩|⟨k,s,w,E,G,t,o,hm,D⟩
  .exact⟨_,h,View.refl,⟨S,F,z,T.mono λ_ _ b=>b.ij (e _ y)⟩,W.trans y,rfl⟩
  .have u:a≠k:=by rintro rfl;rw[V]at G;cases G
   have f:ey a x ((h.set k (.ro E)).set a (.cells ([]++ .J (ee 1 s E) .any:: []))):=λg F i L=>by
    have:g≠k:=by rintro rfl;rw[G]at L;cases L
    rw[U.ao _ _ i,U.ao _ _ this];exact y g F i L
   exact⟨_,_,View.obj (B:= []) t o a9p u,⟨S,.any,by rw[U.ai,D];rfl,T.mono λ_ _ b=>b.ij (e _ f)⟩,W.trans f,rfl⟩
variable{a8:aC}{A j2:az}
def jm.le (d:e<=8) (b:jm e a8 A) (c:a8.size<=1048576):A.hr/\A.sum.length=32/\A.cB:=by have a:=b.kF c;have h:=a.o9;have k:=a.oa;have o:=a.ob;exact⟨⟨a9p,a9p,a9p,a.nd,a.live,a.nf,a.size⟩,b.sum,⟨a9p,a9p,a9p⟩⟩
theorem zY {s:Nat} (e:1<=s) (r:s<=8): ∀(i:aC) (x:R) (c:U),dN c i x->i.c9 s->i.size<=1048576->AC Tryz.prog 60 [x] c λd t=>c.sub t/\ ∃y h z,d= .agg (ab (bo i) y h z)
 | .nil,x,c,u,_,_=>by
  obtain rfl:x= .v (.pointer none):=u;have eY:=ik ay .nil .nil .nil bj;have v:putAt (ab ay .nil .nil .nil) 0 (ab ay .nil .nil .nil)=ab ay .nil .nil .nil:=cD bj bj;refine aM hm Bg ?_;refine bp λk C=> ?_;rw[cp];exact⟨.nil,.nil,.nil,by rw[(aV bj).t37];rfl⟩
 | .node d o a b,x,c,u,D,K=>by
  obtain⟨M,k6,k7,k8,rfl,p,j,l⟩:=u;have k9:=K;simp only[aC.size]at k9;have l0:=zY e r a k7;have l1:=zY e r b k8;have w:=(fe e r D.a a9p).le r a9p;have cc:=(fe e r D.b a9p).le r a9p;have N:=fe e r D K;have n4:=N.size;have n5:=j.cells;have eY:=l.cells;have m:=U.ae p;have l2: ∀E:U,c.sub E->AC Tryz.prog 114 [.ptr M 0] E λl3 t=>E.sub t/\ ∃F G f g,l3=gH (cq (d,o) (bo a) (bo b)) (.J F f) (.J G g)/\aA de [(d,o)] F/\aA bu [bo a,bo b] G:=by
   intro E A;have p:=A _ _ p;have j:=j.mono A;have l:=l.mono A;have m:=U.ae p;refine aM hm MC ?_;refine bp λk C=> ?_;have n9:M≠k:=by rintro rfl;rw[p]at C;cases C
   have L:=U.af (Y:= .cells [.v (.int .u8 0),.J [] .nil,.J [] .nil]) (U.a1) C;have l4:=U.ai E k (.cells [.v (.int .u8 0),.J [] .nil,.J [] .nil]);generalize E.set k _=l5 at*;have m:=U.ae (L _ _ p);refine aa ?_;refine(rK (dc U.a1 (by simp[aR,R.cells]) λ_ _ _=>trivial)).mpr ?_;refine aa ?_;refine ag (l0 l5 (j.mono L) D.a a9p) ?_;rintro _ O ⟨P,S,T,V,rfl⟩;have n:=U.aq L P;have m:=U.ae (n _ _ p);have l6:=(ik (bo a) S T V w.2.1).1;refine aa ?_;refine(rK (dc U.a1 (by simp[aR,R.cells]) λ_ _ _=>trivial)).mpr ?_;refine aa ?_;refine ag (l1 O (l.mono n) D.b a9p) ?_;rintro _ a00 ⟨Q,cd,ca,df,rfl⟩;have X:=U.aq n Q;have l7:=(ik (bo b) cd ca df cc.2.1).1;have m:=U.ae (X _ _ p);refine aa ?_;have Y:aR 37 [R.agg (ab (bo a) S T V),.agg (ab (bo b) cd ca df)]:=λq Z=>by
    simp only[a5j,a6m,or_false]at Z;rcases Z with rfl|rfl
    .exact l6
    .exact l7
   refine(rK (dc U.a1 Y λ_ _ _=>trivial)).mpr ?_;refine aa ?_;refine dc U.a1 (by simp[aR,R.cells]) λh j9 W=> ?_;refine aa ?_;refine dc U.a1 Y λl8 a01 k0=> ?_;have a02:=U.aJ (k0.sub _ _ (W.sub _ _ (Q _ _ (P _ _ l4))));refine aa ?_;exact⟨U.aq X (U.aq W.sub k0.sub),_,_,h,l8,rfl,⟨⟨k6,rfl⟩,trivial⟩,⟨w.2.1,w.2.2,S,T,V,rfl⟩,⟨cc.2.1,cc.2.2,cd,ca,df,rfl⟩,trivial⟩
  have k1:=λF G f g c B H=>Gw (cq (d,o) (bo a) (bo b)) F G f g c B H (by simp[cq]) (by simp[cq]) (λx l9=>by
   obtain rfl:x=(d,o):=by simpa[cq] using l9
   have:=D.r.len;dsimp only;omega) (λk2 n0=>by
   have:k2=bo a\/k2=bo b:=by simpa[cq] using n0
   grind) (by show(bo (.node d o a b)).size<= _;omega) (λq=>by cases q) (λq=>by cases q)
  have n1:eQ (cq (d,o) (bo a) (bo b))=bo (.node d o a b):=rfl;rw[n1]at k1;have k3:=N.sum;generalize bo (.node d o a b)=I at*;have k4:=λy h z=>ik I y h z k3;have v: ∀y h z,putAt (ab ay .nil .nil .nil) 0 (ab I y h z)=ab I y h z:=λy h z=>cD bj k3;have a03:=ik ay .nil .nil .nil bj;refine aM hm Bg ?_;refine bp λk C=> ?_;rw[cp];have L:=U.af (Y:= .cells (ab ay .nil .nil .nil)) (U.a1) C;refine ag (l2 _ L) ?_;rintro _ j9 ⟨W,F,G,f,g,rfl,B,H⟩;refine aa ?_;refine ag (k1 F G f g j9 B H) ?_;rintro _ O ⟨P,S,T,V,rfl⟩;have a04:=U.aJ (P _ _ (W _ _ (U.ai c k (.cells (ab ay .nil .nil .nil)))));refine aa ?_;have n:=U.aq L (U.aq W P);have aH:=P _ _ (W _ _ (U.ai c k (.cells (ab ay .nil .nil .nil))));refine aN λn2 k5=> ?_;have n3:k≠n2:=by rintro rfl;rw[aH]at k5;cases k5
  have a05:=n3.symm;have v:=v S T V;have k4:=k4 S T V;refine aa ?_;grind
theorem a3j (Q:e<=8) (c:a6.T 0) (D:R) (d:U) (l:bw d 0 c D) (m:eV e 0 c):
  AC Tryz.prog 115 [D] d λx h=>d.sub h/\ ∃E F y n,x=gH (dy 0 c) (.J E y) (.J F n)/\aA de (dy 0 c).rows E/\aA bu (dy 0 c).kids F:=by
 obtain⟨b,rfl⟩:=a6.hT c;obtain⟨X,q,Y,Z,rfl,G,p⟩:=l;have p:aA isRow b q:=p;obtain⟨s,t,_⟩:=m.wf;rw[a6.hU]at s t;have j9:=p.len;have k0:=U.ae G;refine aM hm Bn ?_;refine bp λz u=> ?_;refine cV λL v w k1=> ?_;have P:=U.ai d z (.cells [.v (.int .u8 0),.J [] .nil,.J [] .nil]);have S:=U.af (Y:= .cells [.v (.int .u8 0),.J [] .nil,.J [] .nil]) (U.a1) u;have C:(d.set z (.cells [.v (.int .u8 0),.J [] .nil,.J [] .nil])) L=none:=by rw[U.ao _ _ w];exact v
 generalize d.set z _=A at*;have B:=S _ _ G;refine cn [0,2,3] (λa:Nat=> [(4,.v (.int .i64 (a)))]) (λa h=>a<=b.length/\ ∃al r,h L=some (.cells [.v (.int .u8 2),.J al r,.J [] .nil])/\bh A h 2 al r/\aA de ((b.take a).map λx=>(x,true)) al) (λa=>b.length - a) 0 ⟨⟨a5v _,[],.nil,U.ai _ _ _,bh.nil (U.af (U.af U.a1 C) C),trivial⟩,aS⟩ ?_;rintro a H ⟨k2,al,r,T,k,o⟩ I;have k3:=U.ae (k.sub _ _ B);have k4:=U.ae T;have V:=o.len;rw[a4Y,a4P]at V;refine aa ?_;refine aG (λW=> ?_) λW=> ?_
 .have f:a<b.length:=a9p;have K:b[a]? =some (b.getD a []):=by simp_all
  obtain⟨_,k5,y,rfl⟩:=p.get K;have M:=fb (a:=b) (b:= []) f;generalize b.getD a []=k6 at*;refine aa ?_;refine dc U.a1 (by simp[aR,R.cells]) λk7 k8 g=> ?_;refine aa ?_;refine s9 (k.mono g.sub) (o.cells λ_ _=>de.cells) (by simp[aR,R.cells]) a9r a9r λk9 l0 N O=> ?_;have i:=O _ _ (g.sub _ _ T);have aE:=U.aJ i;refine aa ?_;refine⟨a+1,⟨f,_,_,rfl,pM N C i,?_⟩,rfl,a9p⟩;rw[M,a5P];exact o.snoc ⟨y,rfl⟩
 .obtain rfl:a=b.length:=a9p;rw[a5i]at o;have l1:=U.aq S k.sub;have j:=U.aJ (k.sub _ _ P);clear W V j;refine cn [0,2,3] (λ_:Unit=> [(5,.v (.int .i64 0))]) (λ_ h=>h=H) (λ_=>0) () ⟨rfl,aS⟩ ?_;rintro _ _ rfl I;have j:=U.aJ (k.sub _ _ P);refine aa ?_;exact⟨al,[],r,.nil,rfl,o,trivial⟩
def jf.le (d:e<=8) (b:jf e i A) (c:i<=1048576):A.hr/\A.sum.length=32/\A.cB:=by have a:=b.kF c;have h:=a.o9;have k:=a.oa;have o:=a.ob;exact⟨⟨a9p,a9p,a9p,a.nd,a.live,a.nf,a.size⟩,b.sum,⟨a9p,a9p,a9p⟩⟩
def a3k (I:1<=i) (j:i<=8) (c:a6.T (e+1)) (r:R) (b:U) (K:bw b (e+1) c r) (F:eV i (e+1) c)
  (ih: ∀(c:a6.T e) (r:R) (b:U),bw b e c r->eV i e c->AC Tryz.prog 61 [r] b λG d=>b.sub d/\ ∃M l N,G= .agg (ab (c4 e c) M l N)):
  AC Tryz.prog 115 [r] b λG d=>b.sub d/\ ∃m z O Q,G=gH (dy (e+1) c) (.J m O) (.J z Q)/\aA de (dy (e+1) c).rows m/\aA bu (dy (e+1) c).kids z:=by
 obtain⟨h,rfl⟩:=a6.gl c;obtain⟨X,z,l6,l,rfl,n,C,l7,_⟩:=K;have C:aA (bw b e) h z:=C;have Y:=F.gY;obtain⟨Z,j9,_⟩:=F.wf;rw[a6.dE]at Z j9;have l8:=F.dB;have l9:=C.len;have n0:=U.ae n;refine aM hm Bn ?_;refine bp λL k0=> ?_;refine cV λk k1 k2 n1=> ?_;have k3:=U.ai b L (.cells [.v (.int .u8 0),.J [] .nil,.J [] .nil]);have P:=U.af (Y:= .cells [.v (.int .u8 0),.J [] .nil,.J [] .nil]) (U.a1) k0;have o:(b.set L (.cells [.v (.int .u8 0),.J [] .nil,.J [] .nil])) k=none:=by rw[U.ao _ _ k2];exact k1
 generalize b.set L _=q at*;have D:=P _ _ n;have n2:X≠k:=by rintro rfl;rw[D]at o;cases o
 refine cn [0,2,3] (λ_:Unit=> [(4,.v (.int .i64 0))]) (λ_ d=>d=(q.set k (.cells [.v (.int .u8 0),.J [] .nil,.J [] .nil])).set k (.cells [.v (.int .u8 2),.J [] .nil,.J [] .nil])) (λ_=>0) () ⟨rfl,aS⟩ ?_;rintro _ _ rfl k4;have n3:=U.ae D;refine aa ?_;refine cn [0,2,3] (λa:Nat=> [(5,.v (.int .i64 (a)))]) (λa d=>a<=h.length/\ ∃al p,d k=some (.cells [.v (.int .u8 (if a=0 then 2 else 3)),.J [] .nil,.J al p])/\bh q d 37 al p/\aA bu ((h.take a).map (c4 e)) al) (λa=>h.length - a) 0 ⟨⟨a5v _,[],.nil,U.ai _ _ _,bh.nil (U.af (U.af U.a1 o) o),trivial⟩,aS⟩ ?_;rintro a s ⟨n4,al,p,E,x,y⟩ k4;have n5:=U.ae (x.sub _ _ D);have k5:=U.ae E;have k6:=U.aJ E;have k7:=y.len;rw[a4Y,a4P]at k7;refine aa ?_;refine aG (λk8=> ?_) λk8=> ?_
 .have S:a<h.length:=a9p;have t:=a4M S;obtain⟨n9,a00,u⟩:=C.get t;obtain⟨T,_⟩:=Y _ (a4V t);have k9:=T.dB;have l0:=a5X S;have V:=(uz I j T).le j k9;generalize h[a]=W at*;obtain⟨aO,a01,a02,rfl,_⟩:=bw.ptr u;refine aa ?_;have f:=pM (Y:= .cells [.v (.int .u8 3),.J [] .nil,.J al p]) x o E;have l1:=U.ai s k (.cells [.v (.int .u8 3),.J [] .nil,.J al p]);clear x E k5 k6;generalize s.set k _=l2 at*;refine ag (ih W _ l2 (u.mono (U.aq P f.sub)) T) ?_;rintro _ a03 ⟨g,cd,ca,df,rfl⟩;have v:=g _ _ l1;have a04:=U.ae v;have a05:=U.ae (g _ _ (f.sub _ _ D));have l3:=(ik (c4 e W) cd ca df V.2.1).1;have w:aR 37 [R.agg (ab (c4 e W) cd ca df)]:=λa06 A=>by rw[a5g]at A;subst A;exact l3
  refine aa ?_;refine dc U.a1 w λa07 a08 B=> ?_;refine aa ?_;refine s9 ((f.mono g).mono B.sub) (y.cells λ_ _=>bu.cells) w a9r a9r λa09 a10 l4 l5=> ?_;have H:=l5 _ _ (B.sub _ _ v);have aE:=U.aJ H;refine aa ?_;refine⟨a+1,⟨S,_,_,rfl,pM l4 o H,?_⟩,rfl,a9p⟩;rw[l0,a5P];exact y.snoc ⟨V.2.1,V.2.2,cd,ca,df,rfl⟩
 .obtain rfl:a=h.length:=a9p;rw[a5i]at y;have a11: ¬h.length=0:=a9p;have a13:=U.aJ (x.sub _ _ k3);refine aa ?_;exact⟨U.aq P x.sub,[],al,.nil,p,rfl,trivial,y⟩
theorem GG (B:1<=i) (H:i<=8) (a:a6.T e) (D:R) (b:U) (I:bw b e a D) (E:eV i e a)
  (K: ∀x,b.sub x->AC Tryz.prog 115 [D] x λy G=>x.sub G/\ ∃p r z C,y=gH (dy e a) (.J p z) (.J r C)/\aA de (dy e a).rows p/\aA bu (dy e a).kids r):
  AC Tryz.prog 61 [D] b λy x=>b.sub x/\ ∃h k o,y= .agg (ab (c4 e a) h k o):=by
 have L:=(nq B H e a E).1;obtain⟨P,M,F⟩:=lf L.y5.ok;have l:=L.kF;have k2:=E.dB;have k3:=l.size;have m:=λp r z C b S T=>Gw (dy e a) p r z C b S T M F (λN O=>by have:=P N O;omega) (λQ X=>by
  have c:=L.y5.kids Q X;have D:=c.o9;have Y:=c.oa;have k4:=c.ob;exact⟨⟨a9p,a9p,a9p,c.nd,c.live,c.nf,c.size⟩,c.sum,⟨a9p,a9p,a9p⟩⟩) (by show(eQ (dy e a)).size<= _;omega) (λd=>by
  match e,a,d with
  |0,a,_=>obtain⟨n,rfl⟩:=a6.hT a;have:=E.wf.1;rw[a6.hU]at this;intro Z;have j9:(dy 0 (a6.leaf n)).rows=n.map λy=>(y,true):=rfl;simp_all
  |e+1,a,d=>exact absurd d zI) (λd=>by
  match e,a,d with
  |0,a,d=>rw[Eu]at d;cases d
  |e+1,a,_=>obtain⟨q,rfl⟩:=a6.gl a;have:=E.wf.1;rw[a6.dE]at this;intro Z;have j9:(dy (e+1) (a6.node q)).kids=q.map (c4 e):=rfl;simp_all)
 have V:=l.sum;rw[<-sG]at V m;obtain⟨Y,k5,k6,rfl,k7⟩:=bw.ptr I;generalize c4 e a=W at*;have s:=λh k o=>ik W h k o V;have t: ∀h k o,putAt (ab ay .nil .nil .nil) 0 (ab W h k o)=ab W h k o:=λh k o=>cD bj V;have k8:=ik ay .nil .nil .nil bj;refine aM hm Bh ?_;refine bp λf P=> ?_;rw[cp];have u:=U.af (Y:= .cells (ab ay .nil .nil .nil)) (U.a1) P;refine ag (K _ u) ?_;rintro _ G ⟨g,p,r,z,C,rfl,S,T⟩;refine aa ?_;refine ag (m p r z C G S T) ?_;rintro _ k9 ⟨j,v,w,A,rfl⟩;have l0:=U.aJ (j _ _ (g _ _ (U.ai b f (.cells (ab ay .nil .nil .nil)))));refine aa ?_;have l1:=U.aq u (U.aq g j);have aH:=j _ _ (g _ _ (U.ai b f (.cells (ab ay .nil .nil .nil))));refine aN λk0 F=> ?_;have k1:f≠k0:=by rintro rfl;rw[aH]at F;cases F
 have l2:=k1.symm;have t:=t v w A;have s:=s v w A;refine aa ?_;grind
def GH {x:Nat} (r:1<=x) (h:x<=8): ∀(d:Nat) (a:a6.T d) (b:R) (c:U),bw c d a b->eV x d a->AC Tryz.prog 61 [b] c λz k=>c.sub k/\ ∃C D E,z= .agg (ab (c4 d a) C D E)
 |0,a,b,c,o,p=>GG r h a b c o p λk y=>a3j h a b k (o.mono y) p
 |d+1,a,b,c,o,p=>GG r h a b c o p λk y=>a3k r h a b k (o.mono y) p λa b c=>GH r h d a b c
def a3l (h:1<=e) (k:e<=8) (a:eE) (b:R) (c:U) (d:fK c a b) (o:iI e a):AC Tryz.prog 61 [b] c λp r=>c.sub r/\ ∃x y z,p= .agg (ab (iO a) x y z):=by
 match a with
 |none=>obtain rfl:b= .v (.pointer none):=d;have eY:=ik ay .nil .nil .nil bj;have D:putAt (ab ay .nil .nil .nil) 0 (ab ay .nil .nil .nil)=ab ay .nil .nil .nil:=cD bj bj;refine aM hm Bh ?_;refine bp λE F=> ?_;rw[cp];exact⟨.nil,.nil,.nil,by rw[(aV bj).t37];rfl⟩
 |some ⟨C,a⟩=>exact GH h k C a b c d (GT.jS o)
def lA (a:List cN):List R:=a.map cN.V
def zZ {a:List cN}:(lA a).length=a.length:=by simp[lA]
def GI {a:List cN}{b:cN} (c:a[e]? =some b):eA 4 (lA a)[e]? =some (.bV b.C):=by obtain⟨d,rfl⟩:=a4T.1 c;rw[show(lA a)[e]? =some (a[e]).V by simp[lA,d]];rfl
structure il (a:ah) (l:List aL) (cJ:List aW):Prop where
 eq:l=cJ.map aW.bx
 ins: ∀t∈cJ,dW a t.bM/\mu a t.cr
theorem GJ {b c:ah->Except Int az×ah} (r: ∀a:ah,a.le (b a).2) (x: ∀a:ah,a.le (c a).2) (a:ah) (y:List aL) (z:aL):a.le (fy b c a y z).2.2:=by
 unfold fy;have d:=r a;generalize b a=h at*;obtain⟨k,o⟩:=h;cases k with
 |error C=>exact d
 |ok D=>
  have p:=x o
  dsimp only
  generalize c o=h at*;obtain⟨k,E⟩:=h;cases k with
  |error C=>exact d.trans p
  |ok F=>exact d.trans p
variable{H:ah}
def GK (F:dj e X) (G:e<=1000) {a:aW} (L:eM i j7) (P:i<=1000) (y:j7.name=a.name) (S:j7.aD=a.aD) (T:bX X a.name<X.length) {c b:ah->Except Int az×ah}
  (r:fY H j7.bM (c H)) (h: ∀d:ah,H.le d->d.one=false->pK d j7.cr (b d)) (V: ∀d:ah,d.le (b d).2) (k:(fy c b H (X.map aW.bx) a.bx).2.2.one=false):
  (fy c b H (X.map aW.bx) a.bx).1=0/\(fy c b H (X.map aW.bx) a.bx).2.1=(X.set (bX X a.name) j7).map aW.bx/\H.le (fy c b H (X.map aW.bx) a.bx).2.2/\dW (fy c b H (X.map aW.bx) a.bx).2.2 j7.bM/\mu (fy c b H (X.map aW.bx) a.bx).2.2 j7.cr:=by
 unfold fy at k|-;generalize c H=o at*;obtain⟨x,p⟩:=o;cases x with
 |error W=>cases (r.ins k).1
 |ok f=>
  dsimp only at k|-
  have C:=V p;have D:p.one=false:=by
   revert k;generalize b p=o at*;obtain⟨x,g⟩:=o;cases x with
   |error W=>exact λz=>C.zero z
   |ok f=>exact λz=>C.zero z
  obtain⟨j,l⟩:=r.ins D;obtain rfl:=Except.ok.inj j;have h:=h p r.le D;generalize b p=o at*;obtain⟨x,g⟩:=o;obtain rfl:=h.ok
  dsimp only at k|-
  have E:=pb F G L P (by rw[y];exact T);have m:j7.bx=⟨a.bx.name,a.bx.aD,bo j7.bM,iO j7.cr⟩:=by show(⟨j7.name,j7.aD,bo j7.bM,iO j7.cr⟩:aL)=⟨a.name,a.aD,bo j7.bM,iO j7.cr⟩;rw[y,S]
  rw[m,y]at E;rw[E];exact⟨rfl,rfl,r.le.trans h.le,l.mono h.le,h.ins k⟩
def a3m (a:ah) (b:az):a.le (nA e q a b).2:=zc _ _ _ _
variable{j3:Int × List aL × ah}{e1:List aL}
theorem a3n (a:lz H e1 c0 j3):H.le j3.2.2:=by
 unfold lz at a;split at a
 .rw[a];exact ah.le_refl
 split at a
 .rcases a with ⟨_,rfl⟩|⟨rows,_,_,⟨_,rfl⟩|⟨_,rfl⟩⟩
  .exact ah.le_refl
  .exact GJ (λH=>a3m _ _) (λH=>EC) _ _ _
  .exact ah.le_refl
 .rw[a];exact ah.le_refl
theorem a3o:H.le (jo H e1 c0).2.2:=by grind[jo,ah.le_refl,GJ,a1B,EF]
theorem a3p (a:ew H e1 c0 j3):H.le j3.2.2:=by grind[ew,ah.le_refl,a3n,a3o]
theorem A0 {b:Except Int (List aL)} (c:cj e1=true) (d: ∀a,b= .ok a->cj a=true):cj (iN b e1).2=true:=by
 cases b with
 |error h=>exact c
 |ok a=>exact d a rfl
variable{e7:aL}
theorem GL {a b:ah->Except Int az×ah} (c:cj e1=true):cj (fy a b H e1 e7).2.1=true:=by grind[fy,A0,Ga]
theorem a3q (b:cj e1=true) (a:ew H e1 c0 j3):cj j3.2.1=true:=by
 unfold ew at a;split at a
 .rw[a];exact b
 split at a
 .rw[a];exact A0 b λc a=>Gd a
 split at a
 .rw[a];exact A0 b λc a=>G9 b a
 split at a
 .unfold lz at a;split at a
  .rw[a];exact b
  split at a
  .rcases a with ⟨_,rfl⟩|⟨rows,_,_,⟨_,rfl⟩|⟨_,rfl⟩⟩
   .exact b
   .exact GL b
   .exact b
  .rw[a];exact b
 grind[jo,GL]
def mv (c:cj e1=true): ∀a∈e1,a.Fit:=λa d=>by
 have b:=(kb c).1 a d;exact⟨by have:=b.n;omega,by have:=b.c;omega,λh k=>by have:=b.cs h k;omega⟩
theorem tb (a:ew H e1 c0 j3) (r:dj e X) (I:e<900) (o:cX c0.row) (t:il H e1 X) (P:j3.2.2.one=false):
  j3.1=(eL X c0).1/\il j3.2.2 j3.2.1 (eL X c0).2:=by
 obtain⟨rfl,x⟩:=t;have t:il H (X.map aW.bx) X:=⟨rfl,x⟩;unfold ew at a;unfold eL;by_cases K:eo c0=false;simp_all;rw[if_neg K]at a|-;have W:eo c0=true:=by simp_all
 by_cases y:c0.kind=1
 .rw[if_pos y]at a|-;have M:=zQ W y;rw[add_eq r a9p M]at a;by_cases c2:bX X c0.table<X.length
  .rw[if_pos c2]at a|-;rw[a];trivial
  rw[if_neg c2]at a|-;by_cases aH:7<X.length
  .rw[if_pos aH]at a|-;rw[a];trivial
  rw[if_neg aH]at a|-;rw[a];refine⟨rfl,rfl,λb c=> ?_⟩;simp only[a5a,a5j]at c;rcases c with c|rfl|c;grind
  .trivial
  grind
 rw[if_neg y]at a|-;by_cases aH:c0.kind=2
 .rw[if_pos aH]at a;rw[zR r a9p]at a;by_cases c2:bX X c0.table<X.length
  .rw[if_pos c2]at a;rw[if_neg a9p,if_pos aH,a];exact⟨rfl,rfl,λb c=>x b (a7R c)⟩
  .rw[if_neg c2]at a;rw[if_pos a9p,a];trivial
 rw[if_neg aH]at a;by_cases c2:X.length<=bX X c0.table
 .rw[if_pos c2];have f:(X.map aW.bx).find? (λb=>decide (b.name=c0.table))=none:=by rw[pL,a7x c2];rfl
  rcases vr W y aH with h|h
  .rw[if_pos h]at a;unfold lz at a;simp_all
  .rw[if_neg (by rw[h];decide)]at a;unfold jo mr at a;simp_all
 rw[if_neg c2,if_neg aH];have z:bX X c0.table<X.length:=a9p;have u:=vq z;have c:=r.ok _ u;have S:=ta z;have f:(X.map aW.bx).find? (λb=>decide (b.name=c0.table))=some (X.getD (bX X c0.table) default).bx:=by rw[pL,a5F,a4M z];rfl
 generalize X.getD (bX X c0.table) default=b at*;have k4:=c.c;obtain⟨C,w⟩:=x b u;have k5:=c.dz.cm;have T: ∀V:aW,dW j3.2.2 V.bM/\mu j3.2.2 V.cr->H.le j3.2.2-> ∀v∈X.set (bX X c0.table) V,dW j3.2.2 v.bM/\mu j3.2.2 v.cr:=λV D p v N=>by
  rcases a6V N with d|rfl
  .exact⟨(x v d).1.mono p,(x v d).2.mono p⟩
  .exact D
 rcases vr W y aH with h|h
 .rw[if_pos h]at a;rw[if_neg (show¬c0.kind=4 by rw[h];decide)];unfold lz at a;rw[f]at a
  dsimp only at a
  by_cases aK:c0.row.length=b.aD.length+1
  .rw[if_neg (show¬c0.row.length≠b.aD.length+1 from λd=>d aK)];rw[if_pos (show c0.row.length=b.bx.aD.length+1 from aK)]at a;have g:bL (b.aD.length+1) c0.row:=⟨aK,o⟩;rcases a with ⟨E,_⟩|⟨rows,O,_,a⟩
   .exact absurd E (zC (e:=b.aD.length+1) a9p a9p c.dz.ff a9p C)
   have Q:=zE a9p a9p c.dz.ff a9p C O;have Y:rows= []↔ ¬b.rows.any (λF=>decide (bP F=bP c0.row))=true:=by
    rw[Q,a7C];constructor
    .rintro d ⟨F,o,k⟩;exact d F (c.fU.mem_iff.2 o) ((zF a9p (c.row o)).2 (of_decide_eq_true k))
    .intro d Z j9 G;have A:=c.fU.mem_iff.1 j9;exact d ⟨Z,A,decide_eq_true ((zF a9p (c.row A)).1 G)⟩
   rcases a with ⟨k,a⟩|⟨k,a⟩
   .have B:=Y.1 k;rw[if_neg B];obtain⟨D,i,j⟩:=c.put I g λF o k=>B (a7C.2 ⟨F,o,decide_eq_true k⟩);have E:=a1C a9p a9p g c.dz.ff a9p C i;rw[a]at P T|-;have G:=GK (a:=b) r a9p D a9p rfl rfl (by rw[S];exact z) (c:=λH=>nA (b.aD.length+1) c0.row H (bo b.bM)) E (λl p k0=>a2u a9p a9p g c.go (w.mono p) j) (λl=>EC) P;obtain⟨m,L,n,q,s⟩:=G;rw[S]at L;exact⟨m,L,T _ ⟨q,s⟩ n⟩
   grind
  .rw[if_neg (show¬c0.row.length=b.bx.aD.length+1 from aK)]at a;grind
 .rw[if_neg (by rw[h];decide)]at a;rw[if_pos h];unfold jo mr at a;rw[f]at a
  dsimp only at a
  by_cases aK:c0.row.length=b.aD.length+1
  .rw[if_neg (show¬c0.row.length≠b.aD.length+1 from λd=>d aK)];rw[if_pos (show c0.row.length=b.bx.aD.length+1 from aK)]at a
   dsimp only at a
   rw[if_pos rfl]at a;by_cases bs:c0.row∈b.rows
   .rw[if_pos bs];obtain⟨D,i,j⟩:=c.del bs;have E:=a1D a9p a9p c.dz.ff a9p C i;rw[a]at P T|-;have G:=GK (a:=b) r a9p D a9p rfl rfl (by rw[S];exact z) (c:=λH=>iL (b.aD.length+1) c0.row H (bo b.bM)) E (λl p k0=>a2z a9p a9p (c.row bs) c.go (w.mono p) j) (λl=>EF) P;obtain⟨m,L,n,q,s⟩:=G;rw[S]at L;exact⟨m,L,T _ ⟨q,s⟩ n⟩
   .rw[if_neg bs];have k1:=FF a9p a9p c.dz.ff a9p C (c.none aK bs);have k2:j3=(9,X.map aW.bx,H):=by
     rw[a];unfold fy;show(match iL (b.aD.length+1) c0.row H (bo b.bM)with
      |(.error k,k3)=> _
      |(.ok k6,k3)=> _)= _
     rw[k1]
    rw[k2];trivial
  .rw[if_neg (show¬c0.row.length=b.bx.aD.length+1 from aK)]at a;simp_all
inductive vs:ah->List aL->List cy->Int×List aL×ah->Prop
 |nil (a:ah) (l:List aL):vs a l [] (0,l,a)
 |stop {a:ah}{l:List aL}{d:cy}{cJ:List cy}{res:Int×List aL×ah}:ew a l d res->res.1≠0->vs a l (d::cJ) res
 |step {a:ah}{l:List aL}{d:cy}{cJ:List cy}{res b:Int×List aL×ah}:ew a l d res->res.1=0->vs res.2.2 res.2.1 cJ b->vs a l (d::cJ) b
theorem a3r (z:U) (i j:Nat) (c:List aW) (r:hf z i c) (l:dj j c) (l2:j<=1000):
  AC Tryz.prog 25 [.ptr i 0] z λI D=>z.sub D/\ ∃x m,I= .J x m/\aA dp (c.map aW.bx) x:=by
 obtain⟨l3,m,E,n⟩:=r;have l4:=n.len;have l5:=l.dB;refine aM hm Kb ?_;refine cn [0] (λb:Nat×List R×Own=> [(3,.J b.2.1 b.2.2),(4,.v (.int .i64 (b.1)))]) (λb D=>b.1<=c.length/\bh z D 76 b.2.1 b.2.2/\aA dp ((c.take b.1).map aW.bx) b.2.1) (λb=>c.length - b.1) (0,[],.nil) ⟨⟨a5v _,bh.nil U.a1,trivial⟩,aS⟩ ?_;rintro⟨k,x,K⟩ M ⟨N,d,o⟩ l6
 dsimp only at N d o|-
 have q:=U.ae (d.sub _ _ E);have O:=o.len;rw[a4Y,a4P]at O;refine aa ?_;refine aG (λQ=> ?_) λQ=> ?_
 .have X:k<c.length:=a9p;have s:c[k]? =some (c.getD k default):=by simp_all
  obtain⟨_,l7,l8,y,l9,n0,Y,Z,rfl,F,n1,t,u⟩:=n.get s;have h:=l.ok _ (a4V s);have j9:=fb (b:=default) X;generalize c.getD k default=a at*;have n2:=h.c;have n3:=h.dz.cm;have G:=(fe a9p a9p h.dz.ff a9p).le a9p a9p;have L:(iO a.cr).sum.length=32/\(iO a.cr).cB:=by
   rcases zK a9p a9p h.go with ⟨_,C⟩|⟨_,C⟩
   .rw[C];exact⟨bj,kv⟩
   .have n4:=h.nI.length_eq;have n5:=h.dB;have:=C.le a9p a9p;simp_all
  have v:=U.ae (d.sub _ _ F);have n9:=t.cells;have eY:=u.cells;refine aa ?_;refine ag (zY a9p a9p a.bM Y M (t.mono d.sub) h.dz.ff a9p) ?_;rintro _ k0 ⟨p,P,S,V,rfl⟩;have q:=U.ae (p _ _ (d.sub _ _ E));have v:=U.ae (p _ _ (d.sub _ _ F));refine aa ?_;refine ag (a3l a9p a9p a.cr Z k0 (u.fT (U.qt (U.aq d.sub p))) h.go) ?_;rintro _ a00 ⟨W,cd,ca,df,rfl⟩;have q:=U.ae (W _ _ (p _ _ (d.sub _ _ E)));have v:=U.ae (W _ _ (p _ _ (d.sub _ _ F)));have k1:a.aD.length<=1000000:=a9p;have e:ea ⟨a.name,a.aD,ay,ay⟩ (bb a.name:: .J (bE a.aD) y::(ab ay .nil .nil .nil++ab ay .nil .nil .nil)):=⟨⟨y,_,_,_,_,_,_,rfl⟩,⟨bj,kv⟩,⟨bj,kv⟩,k1⟩;have f:=e.FY (M:=P) (e6:=S) (h4:=V) G.2.1 G.2.2;have w:=f.FZ (M:=cd) (e6:=ca) (h4:=df) L.1 L.2;have a01:putAt ev 0 [bb a.name]=bb a.name:: .J [] .nil::(ab ay .nil .nil .nil++ab ay .nil .nil .nil):=rfl;have a02:putAt (bb a.name:: .J [] .nil::(ab ay .nil .nil .nil++ab ay .nil .nil .nil)) 1 [.J (bE a.aD) y]=bb a.name:: .J (bE a.aD) y::(ab ay .nil .nil .nil++ab ay .nil .nil .nil):=rfl;have a03:=fP.all.1;have a04:(bb a.name:: .J [] .nil::(ab ay .nil .nil .nil++ab ay .nil .nil .nil)).length=76:=by omega
  have a05:=e.all.1;have a06:=f.all.1;have k2:=w.all.1;have a07:=(aV (M:=P) (e6:=S) (h4:=V) G.2.1).len;have a08:=(aV (M:=cd) (e6:=ca) (h4:=df) L.1).len;have A:=iM;generalize ev=a09 at*;generalize bb a.name:: .J [] .nil::(ab ay .nil .nil .nil++ab ay .nil .nil .nil)=a10 at*;generalize bb a.name:: .J (bE a.aD) y::(ab ay .nil .nil .nil++ab ay .nil .nil .nil)=k3 at*;generalize k4:ab (bo a.bM) P S V=k5 at*;generalize k6:ab (iO a.cr) cd ca df=k7 at*;generalize a11:putAt k3 2 k5=k8 at*;generalize a13:putAt k8 39 k7=g at*;clear k4 k6 e f;rw[A];clear A;refine aa ?_;have B:aR 76 [R.agg g]:=λC H=>by rw[a5g]at H;subst H;exact k2
  refine dc U.a1 B λa14 a15 k9=> ?_;refine aa ?_;refine dY (((d.mono p).mono W).mono k9.sub) (o.cells λb a16 r=>by obtain⟨T,rfl,r⟩:=r;exact r.all.1) B a9r a9r λl0 a18 l1=> ?_;refine aa ?_;refine⟨(k+1,x++ [.agg g],l0),⟨by simp only;omega,l1,?_⟩,⟨rfl,rfl⟩,by simp only;omega⟩;simp only[j9,a5P];exact o.snoc ⟨g,rfl,w⟩
 .obtain rfl:k=c.length:=a9p;rw[a5i]at o;exact⟨d.sub,x,K,rfl,o⟩
def a3s (p:dj e X) (r:e<=1000): ∀o∈X.map aW.bx,o.In:=λo x=>by
 obtain⟨h,y,rfl⟩:=a5h.1 x;have c:=p.ok h y;have C:=c.c;have D:=c.dz.cm;have a:=(fe a9p a9p c.dz.ff a9p).kF a9p;refine⟨FP (c.bx r),?_,?_⟩
 .show(bo h.bM).In 8;have:=a.o9;have:=a.oa;have:=a.ob;exact⟨a.sum,a.aT,a.aU,a.key,a9p,a9p,a9p,a.nd,a.live,a.nf,a.size⟩
 .show(iO h.cr).In 8;rcases zK a9p a9p c.go with ⟨_,k⟩|⟨_,k⟩
  .rw[k];have d:cX []:=λE z=>(by cases z);exact⟨bj,d,d,d,a5v _,a5v _,a5v _,a9t,a9t,a9t,a9t⟩
  .have d:=c.nI.length_eq;have F:=c.dB;have b:=k.kF a9p;have:=b.o9;have:=b.oa;have:=b.ob;exact⟨b.sum,b.aT,b.aU,b.key,a9p,a9p,a9p,b.nd,b.live,b.nf,b.size⟩
def a3t (a:U) (h o p:Nat) (r:ah) (b:List aL) (x:cO a h o p r b) (c:cj b=true):
  AC Tryz.prog 32 [.ptr h 0] a λy z=>a.sub z/\ ∃d,y= .J ((ib b).map ak) d:=by
 obtain⟨C,d,D,E⟩:=x.x;have F:=U.ae D;have G:=(kb c).2;have k:=ra b C d E (mv c) a9p a;simp only[c,if_true]at k;refine aM hm Kn ?_;refine ag k ?_;rintro _ L ⟨P,S,rfl⟩;refine aa ?_;simp
def GM (b:U) (c d h:Nat) (k:ah) (a:List aL) (x:cO b c d h k a) (y:cj a=true) (z:(ib a).length<=1000000000):
  AC Tryz.prog 30 [.ptr c 0] b λC D=>b.sub D/\C=cw (vb (ib a)):=by
 refine aM hm Kl ?_;refine bp λo E=> ?_;have p:=U.af (Y:= .cells (List.replicate 32 (.v (.int .u8 0)))) (U.a1) E;have F:=U.ai b o (.cells (List.replicate 32 (.v (.int .u8 0))));generalize b.set o _=G at*;refine ag (a3t G c d h k a (x.sub p) y) ?_;rintro _ L ⟨r,P,rfl⟩;refine aa ?_;have S:=zo (w:=vb (ib a)) (o5 _) (.v (.int .u8 0));have T:=U.aJ (r _ _ F);have V:=U.aq p r;refine bc (a1I (ib a) P L z) ?_;trivial
def a3u (b:U) (o y:Nat) (z:ah) (G:bB b o y z) (a:List aL) (p:List R) (C:Own) (L:aA dp a p) (d:cj a=true) (P: ∀S∈a,S.In):
  AC Tryz.prog 36 [.ptr o 0,.J p C] b λT D=>b.sub D/\ ∃c,T= .aI [.ptr c 0,.v (.int .i64 0)]/\b c=none/\cO D c o y z a:=by
 have i:=(kb d).2;have E:=ra a p C L (mv d) a9p b;simp only[d,if_true]at E;refine aM hm wx ?_;refine ag E ?_;rintro _ V ⟨h,W,rfl⟩;refine aa ?_;refine ag (a2a a W V d P) ?_;rintro _ j ⟨k,e,f,g,rfl⟩;refine aa ?_;refine aN λc r=> ?_;have F:=G.mono (U.aq h k);have x:=F.cE r;refine aa ?_;exact⟨_,U.a1,U.af (U.aq h k) (U.bF (U.aq h k) r),c,rfl,U.bF (U.aq h k) r,F.set x,⟨e,f,U.ai _ _ _,g⟩,x.1,x.2⟩
def a3v (a:U) (b:List aL) (c:List R) (h:Own) (o:aA dp b c) (d:cj b=true):
  AC Tryz.prog 36 [.v (.pointer none),.J c h] a λp r=>a.sub r/\p= .aI [.v (.pointer none),.v (.int .i64 1)]:=by
 have x:=(kb d).2;have k:=ra b c h o (mv d) a9p a;simp only[d,if_true]at k;refine aM hm wx ?_;refine ag k ?_;rintro _ y ⟨z,C,rfl⟩;refine aa ?_;trivial
def a3w (b:U) (c:R) (C:c.cells= [c]) (a:List aL) (d:List R) (h:Own) (o:aA dp a d) (p: ∀r∈a,r.Fit) (D:a.length<=1000) (x:cj a=false):
  AC Tryz.prog 36 [c,.J d h] b λy z=>b.sub z/\y= .aI [.v (.pointer none),.v (.int .i64 1)]:=by
 have k:=ra a d h o p a9p b;simp only[x,a5M,if_false]at k;refine aM hm wx ?_;refine ag k ?_;rintro _ E ⟨F,rfl⟩;refine aa ?_;trivial
def vt (d h:U):Prop:= ∀b a c,d b=some (.cells (a::c))->((∃k o,a= .J k o)\/ ∃p,a=bb p)->h b=some (.cells (a::c))
def dN.oJ {b c:U} (a:vt b c): ∀ {d:aC}{h:R},dN b d h->dN c d h
 | .nil,_,k=>k
 | .node _ _ _ _,_,⟨o,p,r,x,h1,y,z,C⟩=>⟨o,p,r,x,h1,a _ _ _ y (.inl ⟨_,_,rfl⟩),z.oJ a,C.oJ a⟩
def hd.oJ {b c:U} (a:vt b c) {d:aW}{h:R} (o:hd b d h):hd c d h:=by obtain⟨p,r,x,y,k,z,C,D,E,F,G⟩:=o;exact⟨p,r,x,y,k,z,C,a _ _ _ D (.inr ⟨_,rfl⟩),E,F.oJ a,G.Gq λP S T k V L=>a _ _ _ L (.inl ⟨_,_,rfl⟩)⟩
def hf.oJ {b c:U} (d:vt b c) {h:Nat}{k:List aW} (a:hf b h k):hf c h k:=by obtain⟨o,p,r,x⟩:=a;exact⟨o,p,d _ _ _ r (.inl ⟨_,_,rfl⟩),x.mono λy z a=>a.oJ d⟩
theorem cC.rs (c:cO f e i v H e1) (h:cC e i v f t):vt f t:=λk r x a d=>by
 obtain⟨y,z,o,_⟩:=c.x;obtain⟨C,D,p⟩:=c.gJ.at_;obtain⟨E,⟨F,G,L,_⟩,_⟩:=c.gJ.mp;refine h k _ ?_ ?_ ?_ a
 .rintro rfl;rw[o]at a;obtain⟨rfl,_⟩:=a8s (br.cells.inj (a4L a));rcases d with ⟨_,_,b⟩|⟨_,b⟩<;>cases b
 .rintro rfl;rw[p]at a;obtain⟨rfl,_⟩:=a8s (br.cells.inj (a4L a));rcases d with ⟨_,_,b⟩|⟨_,b⟩<;>cases b
 grind
def cO.a3x (a:cO f i v O H e1) (o:hf f e X) (d:ey e f t):cO t i v O H e1:=by
 obtain⟨p,r,h,x⟩:=a.x;obtain⟨D,E,b⟩:=a.gJ.at_;obtain⟨F,⟨G,L,c,P⟩,S⟩:=a.gJ.mp;obtain⟨T,V,k,_⟩:=o;have y:i≠e:=by rintro rfl;rw[k]at h;cases h
 have z:v≠e:=by rintro rfl;rw[k]at b;cases b
 have C:O≠e:=by rintro rfl;rw[k]at c;cases c
 exact⟨a.gJ.other (by rw[b];exact d _ _ z b) (by rw[c];exact d _ _ C c),⟨p,r,d _ _ y h,x⟩,a.nF,a.nG⟩
structure vu (b:U) (c gv d W:Nat) (a:ah) (l:List aL) (cJ:List aW) (n:Nat):Prop where
 st:cO b c gv d a l
 cat:cj l=true
 rs:hf b W cJ
 inv:dj n cJ
 rep:a.one=false->il a l cJ
def vu.step {L y z:U}{h k o p C:Nat}{D:ah}{P:List aL}{r:List aW} (a:vu L h k o p D P r C) (E:C<900) {c:cy} (F:cX c.row) {b:Int×List aL×ah} (x:ew D P c b)
  (S:cO y h k o b.2.2 b.2.1) (T:cC h k o L y) (V:hf z p (eL r c).2) (W:ey p y z):vu z h k o p b.2.2 b.2.1 (eL r c).2 (C+1)/\D.le b.2.2/\(b.2.2.one=false->b.1=(eL r c).1):=by
 have G:=a3p x;have e:=a.rs.oJ (T.rs a.st);refine⟨⟨S.a3x e W,a3q a.cat x,V,zT a.inv E F,λd=>(tb x a.inv E F (a.rep (G.zero d)) d).2⟩,G,λd=>(tb x a.inv E F (a.rep (G.zero d)) d).1⟩
def cy.hA (a:cy):Prop:=a.table.length<=100/\a.aD.length<=20/\(∀b∈a.aD,b.length<=100)/\a.row.length<=50
def cy.hA.fit (a:c0.hA):c0.Fit:=⟨by have:=a.1;omega,by have:=a.2.1;omega,λb c=>by have:=a.2.2.1 b c;omega,by have:=a.2.2.2;omega⟩
theorem a3y (c:List cN) (D:Own) (p:U) (W:c.length<=9223372036854775807):
  AC Tryz.prog 9 [.J (lA c) D] p λE F=>F=p/\ ∃r,E= .v (.bool r)/\(r=false->c.length<=300/\ ∀h∈c,h.d.hA):=by
 have e:=zZ (a:=c);refine aM hm JR ?_;refine aG (λx=> ?_) λf=> ?_;simp;refine gE [0] (λd:Nat=> [(3,.v (.int .i64 d))]) (λd=>d<=c.length/\ ∀h∈c.take d,h.d.hA) (λd=>c.length - d) 0 ⟨a5v _,λh k=>by cases k⟩ aS ?_;rintro d ⟨g,G⟩ L;refine aa ?_;refine aG (λx=> ?_) λx=> ?_
 .have o:d<c.length:=a9p;have P:=a4M o;have i:=GI P;have S:=a5X o;generalize c[d]=a at*;have j:=cN.m1 (a:=a);have l:=cN.m2 (a:=a);have m:=cN.m3 (a:=a);have n:=cN.ZB (a:=a);have q:=hx (a:=a.d.aD);have s:=bH (q:=a.d.row);have t:=sI (w:=a.d.table);generalize a.C=u at*;refine aa ?_;refine aG (λT=> ?_) λT=> ?_;rotate_left;simp;refine aG (λc2=> ?_) λc2=> ?_;rotate_left;simp;refine aG (λaH=> ?_) λaH=> ?_;simp;refine gE [0,3] (λb:Nat=> [(4,.v (.int .i64 b))]) (λb=>b<=a.d.aD.length/\ ∀V∈a.d.aD.take b,V.length<=100) (λb=>a.d.aD.length - b) 0 ⟨a5v _,λh k=>by cases k⟩ aS ?_;rintro b ⟨v,y⟩ L;refine aa ?_;refine aG (λaK=> ?_) λaK=> ?_
  .have z:b<a.d.aD.length:=a9p;have w:=pw z;have A:a.d.aD.take (b+1)=a.d.aD.take b++ [a.d.aD.getD b []]:=fb z;have B:=sI (w:=a.d.aD.getD b []);generalize a.d.aD.getD b []=H at*;refine aa ?_;refine aG (λbm=> ?_) λbm=> ?_;simp;grind
  .obtain rfl:b=a.d.aD.length:=a9p;rw[a5i]at y;refine⟨d+1,⟨o,λh C=> ?_⟩,rfl,a9p⟩;rw[S]at C;rcases a5a.1 C with k|k
   .exact G h k
   .obtain rfl:=a5g.1 k;exact⟨a9p,a9p,y,a9p⟩
 grind
def vv (a:U) (c d h:Nat) (b:ah) (k:List aL) (o:cO a c d h b k):
  AC Tryz.prog 22 [.ptr c 0] a λp r=>a.sub r/\p= .v (.bool b.one):=by
 refine aM hm K5 ?_;refine bc (zu a c d h b k o) ?_;refine ag (Y2 a d h b o.gJ) ?_;rintro _ x ⟨y,z,C,rfl⟩;refine aa ?_;trivial
theorem A1 (a:ew H e1 c0 j3) (r:dj e X) (f:e<900) (o:cX c0.row) (F:il H e1 X) (c:(eL X c0).1≠0):j3=((eL X c0).1,e1,H):=by
 obtain⟨rfl,G⟩:=F;unfold ew at a;unfold eL at c|-;by_cases L:eo c0=false;grind;rw[if_neg L]at a c|-;have D:eo c0=true:=by grind
 by_cases p:c0.kind=1
 .rw[if_pos p]at a c|-;have P:=zQ D p;rw[add_eq r a9p P]at a;by_cases c2:bX X c0.table<X.length
  .rw[if_pos c2]at a c|-;exact a
  rw[if_neg c2]at a c|-;by_cases aH:7<X.length
  .rw[if_pos aH]at a c|-;exact a
  simp_all
 rw[if_neg p]at a c|-;by_cases aH:c0.kind=2
 .rw[if_pos aH]at a;rw[zR r a9p]at a;by_cases c2:bX X c0.table<X.length;grind
  .rw[if_neg c2]at a;rw[if_pos a9p];exact a
 rw[if_neg aH]at a;by_cases c2:X.length<=bX X c0.table
 .rw[if_pos c2];have x:(X.map aW.bx).find? (λb=>decide (b.name=c0.table))=none:=by rw[pL,a7x c2];rfl
  simp_all [if_pos,lz,jo,mr]
 rw[if_neg c2,if_neg aH]at c|-;have y:bX X c0.table<X.length:=a9p;have E:=vq y;have d:=r.ok _ E;have g:=ta y;have x:(X.map aW.bx).find? (λb=>decide (b.name=c0.table))=some (X.getD (bX X c0.table) default).bx:=by rw[pL,a5F,a4M y];rfl
 generalize X.getD (bX X c0.table) default=b at*;have i:=d.c;obtain⟨z,j⟩:=G b E;have l:=d.dz.cm;rcases vr D p aH with h|h
 .rw[if_pos h]at a;rw[if_neg (show¬c0.kind=4 by rw[h];decide)]at c|-;unfold lz at a;rw[x]at a
  dsimp only at a
  by_cases aK:c0.row.length=b.aD.length+1
  .rw[if_neg (show¬c0.row.length≠b.aD.length+1 from λk=>k aK)];rw[if_pos (show c0.row.length=b.bx.aD.length+1 from aK)]at a;have m:bL (b.aD.length+1) c0.row:=⟨aK,o⟩;rcases a with ⟨S,_⟩|⟨rows,T,_,a⟩
   .exact absurd S (zC (e:=b.aD.length+1) a9p a9p d.dz.ff a9p z)
   have V:=zE a9p a9p d.dz.ff a9p z T;have n:rows= []↔ ¬b.rows.any (λC=>decide (bP C=bP c0.row))=true:=by
    rw[V,a7C];constructor
    .rintro k ⟨C,o,W⟩;exact k C (d.fU.mem_iff.2 o) ((zF a9p (d.row o)).2 (of_decide_eq_true W))
    grind
   grind
  .rw[if_neg (show¬c0.row.length=b.bx.aD.length+1 from aK)]at a;rw[if_pos aK];exact a
 .rw[if_neg (by rw[h];decide)]at a;rw[if_pos h]at c|-;unfold jo mr at a;rw[x]at a
  dsimp only at a
  by_cases aK:c0.row.length=b.aD.length+1
  .rw[if_neg (show¬c0.row.length≠b.aD.length+1 from λk=>k aK)];rw[if_pos (show c0.row.length=b.bx.aD.length+1 from aK)]at a
   dsimp only at a
   rw[if_pos rfl]at a;by_cases bs:c0.row∈b.rows;simp_all
   .rw[if_neg bs];have q:=FF a9p a9p d.dz.ff a9p z (d.none aK bs);grind[aW.bx,fy,iL,bo]
  .rw[if_neg (show¬c0.row.length=b.bx.aD.length+1 from aK)]at a;simp_all
def pO:List UInt8:=cW (cq ([1,5],true) ay ay)
def tc:List UInt8:=cW (dT [[1,5]])
def a3z:eP pO≠eP tc:=by unfold eP;decide+kernel
def fQ:ah:=eK (eK ah.new pO) tc
def GN:fQ.one=false:=by unfold fQ eK;have a:ah.new.m (eP pO)=none:=rfl;rw[a];have b:(if eP tc=eP pO then some pO else none)=none:=if_neg (a4U a3z);simp only[ah.new,b]
theorem GO (a:ew H e1 c0 j3) (b:c0.kind=1\/c0.kind=2):j3.2.2=H:=by grind[ew,absurd]
theorem A2:bL 2 [1,5]:=⟨rfl,λa b=>by
 grind⟩
theorem a3A (b:e7.bM=ay) (c:e7.cr=ay):(fy (λH=>nA 2 [1,5] H e7.bM) (λH=>je 2 [1,5] H e7.cr) H e1 e7).2.2=eK (eK H pO) tc:=by
 have d:=(uV (I:=true) a9p a9p A2 (yZ) (yZ) a9t).2.2;have h:=(uy (e:=2) a9p a9p (Q:= [[1,5]]) a9q a9q (λk a=>by obtain rfl:=a5g.1 a;exact A2)).ow;have o: ∀H:ah,nA 2 [1,5] H ay=(.ok (eQ (cq ([1,5],true) ay ay)),eK H pO):=λH=>by
  unfold nA;rw[jk,if_pos rfl];rfl
 have p: ∀H:ah,je 2 [1,5] H ay=(.ok (eQ (dT [[1,5]])),eK H tc):=λH=>by
  unfold je;rw[if_pos rfl];rfl
 unfold fy;simp_all
def hB:aW:=⟨[116],[[97]],[],.nil,none⟩
def ez:aW:=hB.put [1,5]
def rf:cy:=⟨1,[116],[[97]],[]⟩
def kd:cy:=⟨3,[116],[],[1,5]⟩
def pP:cy:=⟨3,[116],[],[1,6]⟩
def pQ:cy:=⟨3,[116],[],[2,3,4]⟩
def td:cy:=⟨4,[116],[],[1,6]⟩
def te:cy:=⟨2,[116],[],[]⟩
theorem cd:eL [] rf=(0,[hB]):=by rfl
theorem ca:eL [hB] kd=(0,[ez]):=by rfl
def df:(eL [ez] pP).1=8:=by rfl
def en:(eL [ez] pQ).1=6:=by rfl
def gW:(eL [ez] td).1=9:=by rfl
def ej:eL [ez] te=(0,[]):=by rfl
def a3B:ez.rows= [[1,5]]:=by rfl
def a3C (a:ew ah.new ([hB].map aW.bx) kd j3) (d:dj 1 [hB]):j3.2.2=fQ:=by
 unfold ew at a;rw[if_neg (show¬eo kd=false by trivial),if_neg (show¬kd.kind=1 by decide),if_neg (show¬kd.kind=2 by decide),if_pos (show kd.kind=3 from rfl)]at a;unfold lz at a;have h:([hB].map aW.bx).find? (λk=>decide (k.name=kd.table))=some hB.bx:=by rfl
 rw[h]at a
 dsimp only at a
 rw[if_pos (show kd.row.length=hB.bx.aD.length+1 from rfl)]at a;have b:=d.ok hB a9q;rcases a with ⟨o,_⟩|⟨rows,p,_,a⟩
 .exact absurd o (zC (e:=2) a9p a9p b.dz.ff a9t trivial)
 have r:=zE (e:=2) (a8:= .nil) a9p a9p b.dz.ff a9t trivial p;rcases a with ⟨c,a⟩|⟨c,a⟩
 .rw[a];exact a3A rfl rfl
 .exact absurd (r.2 λy x=>by cases x) c
def a3D: ∀ {a b:List Int},kK a b->bP a<=bP b
 |d::a,h::b,c=>by
  show d<=h;rcases c with c|c<;>omega
def eM.cmp (a:eM e j7):j7.rows.Pairwise λb c=> ¬fL c b<0:=by refine a7P ?_ a.dM;intro b c h k o d;rw[r1 (by rw[(a.row h).len,(a.row k).len])]at d;have:=a3D d;omega
theorem A3 (k:U) (x F G:Nat) (o:ah) (L:List aL) (W:cO k x F G o L) (P:Nat) (a:List aW) (y:dj P a) (e:P<=1000) (f:il o L a) (b:List UInt8):
  AC Tryz.prog 27 [.ptr x 0,bb b] k λz S=>k.sub S/\(bX a b<a.length-> ∃T,z= .aI [.J T .any,.v (.int .i64 0)]/\aA isRow (a.getD (bX a b) default).rows T)/\(a.length<=bX a b->z= .aI [.J [] .nil,.v (.int .i64 3)]):=by
 obtain⟨rfl,g⟩:=f;have i:=y.cat e;have j: ∀c,a[bX a b]? =some c-> ∃d,ec o (c.bx.aD.length+1) (c.bx.bM.size.toNat+1) c.bx.bM=some d/\c.rows.Perm d:=λc l=>by
  have hm:=a4V l;have p:=y.ok c hm;have s:=p.c;have t:=p.dz.cm;obtain⟨d,C,D⟩:=FD a9p a9p p.dz.ff a9p (g c hm).1;exact⟨d,C,(D.trans p.fU).symm⟩
 refine(a2j k x F G o (a.map aW.bx) W i b (a.getD (bX a b) default).rows ?_).mono λz S m=>⟨m.1,λn=> ?_,λn=> ?_⟩
 .intro c d h V;rw[pL]at h;cases r:a[bX a b]? with
  |none=>rw[r]at h;cases h
  |some E=>
   rw[r]at h;obtain rfl:=a4L h;obtain⟨u,C,D⟩:=j E r;rw[C]at V;obtain rfl:=a4L V;have q:a.getD (bX a b) default=E:=by grind
   rw[q];exact⟨D,(y.ok E (a4V r)).cmp⟩
 grind[vh,bX,default,List.getD,pL];grind[vh,pL,List.getElem?_eq_none]
def a3E:rf.Fit:=cy.hA.fit (by unfold cy.hA;decide)
def a3F:kd.Fit:=cy.hA.fit (by unfold cy.hA;decide)
def a3G:pP.Fit:=cy.hA.fit (by unfold cy.hA;decide)
def a3H:pQ.Fit:=cy.hA.fit (by unfold cy.hA;decide)
def a3I:td.Fit:=cy.hA.fit (by unfold cy.hA;decide)
def a3J:te.Fit:=cy.hA.fit (by unfold cy.hA;decide)
theorem A4:cX []:=λb a=>by cases a
theorem vw:dj 1 [hB]:=by grind[zT,dj.nil,rf,A4,cd]
theorem GP:cX pP.row:=λa b=>by
 grind[pP]
theorem a3K:cX pQ.row:=λa b=>by
 grind[pQ]
theorem rh:dj 2 [ez]:=by grind[zT,vw,kd,ca]
def zO (c:ew ah.new [] rf j3):j3=(0,[hB].map aW.bx,ah.new)/\il ah.new ([hB].map aW.bx) [hB]:=by
 have a:=GO c (.inl rfl);have b:=tb c (dj.nil (n:=0)) a9p A4 ⟨rfl,λk d=>by cases d⟩ (by rw[a];rfl);rw[cd]at b;obtain⟨v,o,p⟩:=j3
 dsimp only at a b
 obtain⟨rfl,h⟩:=b;subst a;obtain rfl:=h.eq;trivial
def zP (d:ew ah.new ([hB].map aW.bx) kd j3) (a:il ah.new ([hB].map aW.bx) [hB]):j3=(0,[ez].map aW.bx,fQ)/\il fQ ([ez].map aW.bx) [ez]:=by
 have b:=a3C d vw;have c:=tb d vw a9p A2.jR a (by rw[b];exact GN);rw[ca]at c;obtain⟨v,h,k⟩:=j3
 dsimp only at b c
 obtain⟨rfl,a⟩:=c;subst b;obtain rfl:=a.eq;trivial
def a3L (a:ew fQ ([ez].map aW.bx) pP j3) (b:il fQ ([ez].map aW.bx) [ez]):j3=(8,[ez].map aW.bx,fQ):=by have c:=A1 a rh a9p GP b (by rw[df];decide);trivial
def a3M (a:ew fQ ([ez].map aW.bx) pQ j3) (b:il fQ ([ez].map aW.bx) [ez]):j3=(6,[ez].map aW.bx,fQ):=by have c:=A1 a rh a9p a3K b (by rw[en];decide);trivial
def a3N (a:ew fQ ([ez].map aW.bx) td j3) (b:il fQ ([ez].map aW.bx) [ez]):j3=(9,[ez].map aW.bx,fQ):=by have c:=A1 a rh a9p GP b (by rw[gW];decide);trivial
def a3O (d:ew fQ ([ez].map aW.bx) te j3) (a:il fQ ([ez].map aW.bx) [ez]):j3=(0,[],fQ)/\il fQ [] []:=by
 have b:=GO d (.inr rfl);have c:=tb d rh a9p A4 a (by rw[b];exact GN);rw[ej]at c;obtain⟨v,h,k⟩:=j3
 dsimp only at b c
 obtain⟨rfl,a⟩:=c;subst b;obtain rfl:h= []:=a.eq;trivial
def GQ:cj []=true:=(dj.nil (n:=0)).cat a9p
def a3P:cj ([hB].map aW.bx)=true:=vw.cat a9p
def vx:cj ([ez].map aW.bx)=true:=rh.cat a9p
def a3Q (a:Own):(⟨rf,a,.nil⟩:cN).V= .agg [.v (.int .u8 1),.v (.string ⟨#[116]⟩),.J [.v (.string ⟨#[97]⟩)] a,.J [] .nil]:=rfl
def a3R (a:Own):(⟨kd,.nil,a⟩:cN).V= .agg [.v (.int .u8 3),.v (.string ⟨#[116]⟩),.J [] .nil,.J [.v (.int .i64 1),.v (.int .i64 5)] a]:=rfl
def a3S (a:Own):(⟨pP,.nil,a⟩:cN).V= .agg [.v (.int .u8 3),.v (.string ⟨#[116]⟩),.J [] .nil,.J [.v (.int .i64 1),.v (.int .i64 6)] a]:=rfl
def a3T (a:Own):(⟨pQ,.nil,a⟩:cN).V= .agg [.v (.int .u8 3),.v (.string ⟨#[116]⟩),.J [] .nil,.J [.v (.int .i64 2),.v (.int .i64 3),.v (.int .i64 4)] a]:=rfl
def a3U (a:Own):(⟨td,.nil,a⟩:cN).V= .agg [.v (.int .u8 4),.v (.string ⟨#[116]⟩),.J [] .nil,.J [.v (.int .i64 1),.v (.int .i64 6)] a]:=rfl
def a3V:(⟨te,.nil,.nil⟩:cN).V= .agg [.v (.int .u8 2),.v (.string ⟨#[116]⟩),.J [] .nil,.J [] .nil]:=rfl
def GR:bb [116]= .v (.string ⟨#[116]⟩):=rfl
variable{N b4 h2 h8 j1:Prop}
theorem ri (h:cO f e i v H e1) (b:cj e1=true) (a:cN) (k:a.d.Fit) (o:a.V=n) (p: ∀res,ew H e1 a.d res->res=j3/\N):
  AC Tryz.prog 20 [.ptr e 0,n] f λc d=>c= .v (.int .i64 j3.1)/\cO d e i v j3.2.2 j3.2.1/\N:=by
 subst o;exact(G8 f e i v H e1 h (mv b) b a k).mono λc d ⟨res,r,x,y,z⟩=>by
  grind
def A5:Nat->dH->dH
 |0,a=>a
 |b+1,.seq _ c=>A5 b c
 | _+1,a=>a
variable{j:Fr}
def a3W (P:j 1= .ptr e 0) (S:j 2= .v (.int .i64 0)) (T:j 3= .v (.int .i64 0)) (V:j 4= .v (.int .i64 8)) (W:j 5= .v (.int .i64 6)) (g:j 6= .v (.int .i64 9)) (c:cO f e i v fQ ([ez].map aW.bx)) (d:il fQ ([ez].map aW.bx) [ez]):
  bS (Ctx.of Tryz.prog) (A5 8 wv.code) (p1 [(0,none)] λz _=>z= .v (.bool true)) j f:=by
 simp only[wv,A5];refine aa ?_;have a:=A3 f e i v fQ _ c 2 _ rh a9p d [116];rw[GR]at a;refine ag a ?_;clear a;rintro _ fg ⟨k,b,_⟩;obtain⟨o,rfl,h⟩:=b a9t;have h:aA isRow [[1,5]] o:=by rw[<-a3B];exact h
 have p:=c.sub k;clear c k b;refine aa ?_;refine ag (ri p vx ⟨te,.nil,.nil⟩ a3J a3V λres C=>a3O C d) ?_;rintro _ D ⟨rfl,r,x⟩;clear p d;refine aa ?_;have a:=A3 D e i v fQ _ r 0 [] dj.nil a9p x [116];rw[GR]at a;refine ag a ?_;clear a;rintro _ l ⟨E,_,b⟩;obtain rfl:=b a9t;clear r x b E;refine aa ?_;refine dc U.a1 (by simp[aR,R.cells]) λy m n=> ?_;refine aa ?_;refine dc U.a1 (by simp[aR,R.cells]) λF q s=> ?_;refine aa ?_;have G:=λL=>E2 [[1,5]] [[1,5]] o [.J [.v (.int .i64 1),.v (.int .i64 5)] y] .any F L h ⟨⟨y,rfl⟩,trivial⟩ a9q a9q;refine bc (G _) ?_;exact⟨_,U.a1⟩
def a3X (c:U):AC Tryz.prog 8 [] c λS W=>S= .v (.bool true):=by refine aM hm JP ?_;generalize T:dH.seq (dH.plain (aB 36 1:: _)) _=e;refine ag (FW c) ?_;rintro _ f ⟨g,i,j,rfl,-,-,-,-,d⟩;refine aa ?_;refine dc U.a1 (by simp[aR,R.cells]) λh l k=> ?_;refine aa ?_;refine ag (ri (d.sub k.sub) GQ ⟨rf,h,.nil⟩ a3E (a3Q h) λres a=>zO a) ?_;rintro _ m ⟨rfl,o,p⟩;clear k d;refine aa ?_;refine dc U.a1 (by simp[aR,R.cells]) λr n x=> ?_;refine aa ?_;refine ag (ri (o.sub x.sub) a3P ⟨kd,.nil,r⟩ a3F (a3R r) λres a=>zP a p) ?_;rintro _ q ⟨rfl,y,b⟩;clear x o p;refine aa ?_;refine dc U.a1 (by simp[aR,R.cells]) λz s C=> ?_;refine aa ?_;refine ag (ri (y.sub C.sub) vx ⟨pP,.nil,z⟩ a3G (a3S z) (N:=True) λres a=>⟨a3L a b,trivial⟩) ?_;rintro _ t ⟨rfl,D,-⟩;clear C y;refine aa ?_;refine dc U.a1 (by simp[aR,R.cells]) λE u F=> ?_;refine aa ?_;refine ag (ri (D.sub F.sub) vx ⟨pQ,.nil,E⟩ a3H (a3T E) (N:=True) λres a=>⟨a3M a b,trivial⟩) ?_;rintro _ v ⟨rfl,G,-⟩;clear F D;refine aa ?_;refine dc U.a1 (by simp[aR,R.cells]) λL w P=> ?_;refine aa ?_;refine ag (ri (G.sub P.sub) vx ⟨td,.nil,L⟩ a3I (a3U L) (N:=True) λres a=>⟨a3N a b,trivial⟩) ?_;rintro _ A ⟨rfl,V,-⟩;clear P G;refine aa ?_;subst T;exact a3W rfl rfl rfl rfl rfl rfl V b
structure rj (a b:U) (c gv d W:Nat) (h:ah) (l:List aL) (cJ:List aW) (n:Nat):Prop where
 kN:vu b c gv d W h l cJ n
 sub:a.sub b
 GS:a c=none
 GU:a gv=none
 GV:a d=none
 xQ:a W=none
def rj.step {D E x y:U}{h k o p z:Nat}{C:ah}{F:List aL}{r:List aW} (a:rj D E h k o p C F r z) (T:z<900) {d:cy} (V:cX d.row) {c:Int×List aL×ah} (W:ew C F d c)
  (e:cO x h k o c.2.2 c.2.1) (G:cC h k o E x) (f:hf y p (eL r d).2) (L:ey p x y):rj D y h k o p c.2.2 c.2.1 (eL r d).2 (z+1)/\C.le c.2.2/\(c.2.2.one=false->c.1=(eL r d).1):=by
 obtain⟨g,i,j⟩:=a.kN.step T V W e G f L;refine⟨⟨g,λP S b=>L P S ?_ (G P S ?_ ?_ ?_ (a.sub _ _ b)),a.GS,a.GU,a.GV,a.xQ⟩,i,j⟩
 .rintro rfl;rw[a.xQ]at b;cases b
 .rintro rfl;rw[a.GS]at b;cases b
 .rintro rfl;rw[a.GU]at b;cases b
 .rintro rfl;rw[a.GV]at b;cases b
theorem a3Y (r:List cN) (n:Own) (z:U) (q: ∀V∈r,V.d.hA/\cX V.d.row) (Z:r.length<=9223372036854775807):
  AC Tryz.prog 10 [.J (lA r) n] z λe G=>e= .aI [.v (.pointer none),.v (.pointer none)]\/ ∃c o p W d x E f,e= .aI [.ptr c 0,.ptr W 0]/\f<=40/\d.one=false/\rj z G c o p W d x E f:=by
 have j9:=zZ (a:=r);refine aM hm JT ?_;refine ag (FW z) ?_;rintro _ s ⟨c,o,p,rfl,L,t,u,v,w⟩;refine aa ?_;refine aN λW P=> ?_;have A:=w.sub (U.af (Y:= .cells [.J [] .nil]) U.a1 P);have a:rj z (s.set W (.cells [.J [] .nil])) c o p W ah.new [] [] 0:=⟨⟨A,GQ,⟨[],.nil,U.ai _ _ _,trivial⟩,dj.nil,λ_=>⟨rfl,λk0 S=>by cases S⟩⟩,U.af L (U.bF L P),t,u,v,U.bF L P⟩;refine aa ?_;refine cn [0,4,5] (λh:Nat×ah×List aL×List aW=> [(6,.v (.int .i64 (h.1)))]) (λh G=>h.1<=40/\h.1<=r.length/\rj z G c o p W h.2.1 h.2.2.1 h.2.2.2 h.1) (λh=>40 - h.1) (0,ah.new,[],[]) ⟨⟨a9q,a5v _,a⟩,aS⟩ ?_;rintro⟨F,d,x,E⟩ C ⟨B,H,a⟩ k1
 dsimp only at B H a|-
 refine aa ?_;refine aG (λI=> ?_) λI=> ?_
 .refine aG (λaK=> ?_) λaK=> ?_
  .have g:F<r.length:=a9p;have i:=a4M g;have k2:=GI i;obtain⟨j,l⟩:=q _ (a4V i);generalize r[F]=k at*;have K:=G8 C c o p d x a.kN.st (mv a.kN.cat) a.kN.cat k j.fit;have M:=λy S=>a3i y W F E S a.kN.inv a9p k j.fit l;have k3:k.C.length=4:=rfl;have k4:(.agg (k.C.take 4))=k.V:=rfl;have k5:aX true 4 k.C=k.V:=rfl;generalize k.C=k6 at*;generalize k.V=k7 at*;refine aa ?_;refine ag K ?_;rintro _ y ⟨res,N,rfl,O,m⟩;refine aa ?_;refine ag (M y (a.kN.rs.oJ (m.rs a.kN.st))) ?_;rintro _ k8 ⟨Q,X,rfl⟩;obtain⟨Y,k9,l0⟩:=a.step a9p l N O m Q X;refine aa ?_;exact⟨(F+1,res.2.2,res.2.1,(eL E k.d).2),⟨by simp only;omega,g,Y⟩,rfl,by simp only;omega⟩
  .cases D:d.one with
   |true=>have b:=vv C c o p d x a.kN.st;rw[D]at b;refine ag b ?_;rintro _ y ⟨T,rfl⟩;refine aa ?_;grind
   |false=>have b:=vv C c o p d x a.kN.st;rw[D]at b;refine ag b ?_;rintro _ y ⟨T,rfl⟩;refine aa ?_;grind
 .cases D:d.one with
  |true=>have b:=vv C c o p d x a.kN.st;rw[D]at b;refine ag b ?_;rintro _ y ⟨T,rfl⟩;refine aa ?_;grind
  |false=>have b:=vv C c o p d x a.kN.st;rw[D]at b;refine ag b ?_;rintro _ y ⟨T,rfl⟩;refine aa ?_;grind
def a3Z (h:dj i X) (b:e<X.length):bX X (X.getD e default).name=e:=by
 refine Gs b (λa k c=> ?_) rfl;have d:=h.dM;rw[a6n]at d;have:=d a e a9p b k;have o:X.getD a default=X[a]'a9p:=by simp[List.getD,show a<X.length by omega]
 have p:X.getD e default=X[e]:=by simp[List.getD,b]
 rw[o,p]at c;rw[c,vc]at this;cases this
def a4a (b:List aL) (a:List UInt8):cj (b++ [⟨a,[],ay,ay⟩])=false:=by
 cases c:cj (b++ [⟨a,[],ay,ay⟩])with
 |false=>rfl
 |true=>have:=(nH.1 c).1 ⟨a,[],ay,ay⟩ a9q;simp[fx,eo,mi]at this
def a4b (z:List cN) (n:Own) (x:List UInt8) (Z:z.length<=9223372036854775807) (a03: ∀V∈z,cX V.d.row) (a61:x.length<=9223372036854775807) (C:U):
  AC Tryz.prog 7 [.J (lA z) n,bb x] C λe _=>e= .v (.bool true):=by
 have a62:=zZ (a:=z);refine aM hm JO ?_;refine ag (a3X C) ?_;rintro _ q rfl;refine aa ?_;refine ag (a3y z n q Z) ?_;rintro _ q ⟨rfl,a04,rfl,c⟩;cases a04 with
 |true=>refine aa ?_;exact⟨_,U.a1⟩
 |false=>
  obtain⟨a63,j9⟩:=c rfl;clear c;refine aa ?_;refine aG (λf=> ?_) λf=> ?_
  .exact⟨_,U.a1⟩
  refine ag (a3Y z n q (λV k0=>⟨j9 V k0,a03 V k0⟩) Z) ?_;rintro _ k1 (rfl|⟨D,d,h,W,G,a65,a,a05,rfl,a68,a06,k2⟩)
  .refine aa ?_;exact⟨_,U.a1⟩
  refine aa ?_;have L:=k2.kN;have s:=L.rep a06;have p:=L.inv;have b:=p.cat a9p;have E:=a3s p a9p;have k3:=kb b;have a69:=FT E;have a71:(ib (a.map aW.bx)).length<=9000:=by have:=k3.2;rw[ib,a4S];omega
  have k4:=k3.2;rw[a4Y]at k4;have o:=L.st;rw[s.eq]at o;have k5:=L.rs;have a07:il G (a.map aW.bx) a:=⟨rfl,s.ins⟩;clear s k2 L j9;refine bc (zu k1 D d h _ _ o) ?_;refine ag (zv k1 D d h _ _ o (mv b) b E) ?_;rintro _ a08 ⟨t,u,v,rfl,k6⟩;refine aa ?_;refine ag (a3u a08 d h G (o.sub t).gJ _ u v k6 b E) ?_;rintro _ a09 ⟨k7,w,rfl,a73,k8⟩;have P:=U.aq t k7;refine aa ?_;refine ag (zv a09 D d h _ _ (o.sub P) (mv b) b E) ?_;rintro _ a10 ⟨k9,A,B,rfl,l0⟩;refine aa ?_;refine ag (a3v a10 _ A B l0 b) ?_;rintro _ l1 ⟨l2,rfl⟩;have H:=U.aq k9 l2;have I:=U.aq P H;refine aa ?_;refine bc (zu l1 D d h _ _ (o.sub I)) ?_;refine ag (FX l1 D d h _ _ (o.sub I) (mv b) b E) ?_;rintro _ a74 ⟨a81,a83,l3,rfl,y⟩;have a84:=y.len;have K:ea ⟨x,[],ay,ay⟩ (bb x:: .J [] .nil::(ab ay .nil .nil .nil++ab ay .nil .nil .nil)):=⟨⟨_,_,_,_,_,_,_,rfl⟩,⟨bj,kv⟩,⟨bj,kv⟩,a9q⟩;have a86:putAt ev 0 [bb x]=bb x:: .J [] .nil::(ab ay .nil .nil .nil++ab ay .nil .nil .nil):=rfl;have a88:=fP.all.1;have a89:=K.all.1;have a90:=iM;generalize ev=a92 at*;generalize bb x:: .J [] .nil::(ab ay .nil .nil .nil++ab ay .nil .nil .nil)=l4 at*;refine aa ?_;refine hn l3 (y.cells λa94 a95 k=>by obtain⟨T,rfl,k⟩:=k;exact k.all.1) λ_ a11 a13 l5 _=> ?_;have l6:=y.snoc (a:= .agg l4) ⟨l4,rfl,K⟩;have l7:=l5.sub;refine ag (a3w a13 (.ptr d 0) rfl _ _ a11 l6 (λg a14=> ?_) a9r (a4a _ _)) ?_
  .rcases a5a.1 a14 with k|k
   .exact mv b g k
   .rw[a5g]at k;subst k;exact⟨by simp only;omega,a9q,λf k=>by cases k⟩
  rintro _ a15 ⟨l8,rfl⟩;have i:=U.aq H (U.aq l7 l8);have j:=k8.sub i;have l9:=o.sub (U.aq P i);have M:=k5.sub (U.aq P i);clear o k5 k8 l7 l8 H I P t k7 k9 l2 i k6 l0 y l6 l3 l5 K;refine aa ?_;refine ag (GM a15 w d h G _ j b a9p) ?_;rintro _ N ⟨c,rfl⟩;refine aa ?_;refine ag (GM N D d h G _ (l9.sub c) b a9p) ?_;rintro _ fg ⟨F,rfl⟩;have O:=U.aq c F;have n0:(vb (ib (a.map aW.bx))).length=32:=o5 _;have a96:=λa16=>Xy (I:=true) (b:=a16) n0 n0;refine aa ?_;refine ag (zv fg w d h _ _ (j.sub O) (mv b) b E) ?_;rintro _ a18 ⟨n1,u,v,rfl,y⟩;have Q:=U.aq O n1;refine aa ?_;refine ag (a3r a18 W _ a (M.sub Q) p a9p) ?_;rintro _ a19 ⟨n2,A,B,rfl,n3⟩;have n4:=λC=>ZK (a.map aW.bx) (a.map aW.bx) u A v B C y n3 (by have:=p.dB;rw[a4Y];omega);have X:=U.aq Q n2;refine aa ?_;refine bc (n4 _) ?_;have a27:=j.sub X;have a29:=M.sub X;clear n4 y n3 j l9 M c F O n1 Q n2 X;obtain⟨a97,a98,n5,n9⟩:=a29;have a99:=n9.len;have b00:=p.dB;refine cn [6,7] (λS:Nat=> [(13,.v (.int .i64 (S:Int)))]) (λS a30=>S<=a.length/\a19.sub a30) (λS=>a.length - S) 0 ⟨⟨a5v _,U.a1⟩,aS⟩ ?_;rintro r N ⟨b01,c⟩ b02;have a34:=U.ae (c _ _ n5);refine aa ?_;refine aG (λf=> ?_) λf=> ?_
  .have l:r<a.length:=a9p;have a00:a[r]? =some (a.getD r default):=by simp[List.getD,l]
   obtain⟨_,b03,b04,b05,a36,a38,b06,b07,rfl,a01,a42,_,_⟩:=n9.get a00;have Y:=A3 N w d h G _ (a27.sub c) a05 a p a9p a07 (a.getD r default).name;rw[a3Z p l]at Y;have m:=p.ok (a.getD r default) (a4V a00);have a43: ∀e∈(a.getD r default).rows,e.length<=1000000000000:=λe a47=>by have:=(m.row a47).len;have:=m.c;omega
   have k4:=m.dB;clear m;generalize a.getD r default=g at*;have a48:=U.ae (c _ _ a01);refine aa ?_;refine ag Y ?_;rintro _ fg ⟨F,a02,_⟩;obtain⟨a52,rfl,a56⟩:=a02 l;have a34:=U.ae (F _ _ (c _ _ n5));have a48:=U.ae (F _ _ (c _ _ a01));have a57:=λC=>E2 g.rows g.rows a52 a36 .any a38 C a56 a42 a9p a43;clear Y a02;refine aa ?_;refine bc (a57 _) ?_;exact⟨r+1,⟨l,U.aq c F⟩,rfl,a9p⟩
  .exact⟨_,U.a1⟩
end Go.Proofs.YtlgnfcaolejgeaaGreat
namespace Go.bz
open Go Go.ChangeShapes Go.WideShapes Go.RowKit
def lB (a:World):bl:=λb c=>a.cell? ⟨b,c,none⟩
def a4c (b:World):Holds (lB b) U.emp b:=⟨λ_ _ _ a=>a,λ_ _ a=>by cases a⟩
def fA (k:bl) (a:List Value) (b:List R):Prop:=a.length=b.length/\ ∀(c:Nat) (d:Value) (h:R),a[c]? =some d->b[c]? =some h->aY k d h
variable{u:bl}
theorem fA.nil:fA u [] []:=⟨rfl,λb c d a=>by simp at a⟩
variable{g B e0:List R}
def fA.append {h k:List Value} (c:fA u h g) (o:fA u k B):fA u (h++k) (g++B):=by
 refine⟨by simp[c.1,o.1],λx p r b a=> ?_⟩;rw[a8h]at b a;rw[<-c.1]at a;split at b
 .rename_i d;rw[if_pos d]at a;exact c.2 x p r b a
 .rename_i d;rw[if_neg d]at a;exact o.2 _ p r b a
variable{n b3:R}{e5:Value}
theorem fA.one (a:aY u e5 n):fA u [e5] [n]:=⟨rfl,λb c d h k=>by
 grind⟩
variable{j8:Array Value}
def fA.a4d (a:fA u j8.toList g):bq u j8 g:=bq.dP.2 a
def dd (h:Program) (k:TypeId) (o:List R->Prop):Prop:=
 ∀ {b:Type} (p:TypeId×Value->b) (c:World) (r:Nat) (x:Nat->Bool) (y:Bool) (z:Nat) (d:List Value) (C:DataW b×List MemPlace),DataW.trod p h c r x y z k d=some C->
  ∃a,o a/\(∀D∈a,D.one=true)/\fA (lB c) d a
def a4I (a:List R):Prop:= ∃b:Bool,a= [.v (.bool b)]
def SInt (a:IntKind) (c:List R):Prop:= ∃b:Int,(Lit.int a b).wf=true/\c= [.v (.int a b)]
def vy (a:List R):Prop:= ∃b:UInt8,a= [ak b]
def oK (a:List R):Prop:= ∃aP:List UInt8,aP.length<=maxLen/\a= [bb aP]
def vz:List (List R->Prop)->List R->Prop
 | [],us=>us= []
 |c::d,us=> ∃a b,c a/\vz d b/\us=a++b
def a4e (a:List R->Prop):Nat->List R->Prop
 |0,us=>us= []
 |d+1,us=> ∃b c,a b/\a4e a d c/\us=b++c
def vA (b:List R->R) (c:List R->Prop) (d:List R):Prop:= ∃a:List (List R),(∀h∈a,c h)/\a.length<=maxLen/\d= [.J (a.map b) .any]
variable{e2:IntKind}{m:Program}{b2:TypeId}
def dd.int (a:m.underlying b2=some (.int e2)):dd m b2 (SInt e2):=λh k o p r x y z b=>by
 obtain⟨c,rfl,_,d⟩:=DataW.trod_int a b;exact⟨_,⟨c,d,rfl⟩,by simp[R.one],fA.one (.v _ rfl)⟩
def dd.byte (b:m.underlying b2=some (.int .u8)):dd m b2 vy:=λk o p r x y z C c=>by
 obtain⟨a,rfl,_,d⟩:=DataW.trod_int b c;obtain⟨D,E⟩:=bounds_u8 d;have h:(Value.int .u8 a)= .int .u8 ((UInt8.ofNat a.toNat).toNat):=by congr 1;rw[a5T];omega
 refine⟨_,⟨UInt8.ofNat a.toNat,rfl⟩,by simp[ak,R.one],fA.one ?_⟩;rw[ak,<-h];exact .v _ rfl
def dd.str (b:m.underlying b2=some .string):dd m b2 oK:=λh k o p r x y z c=>by
 obtain⟨a,rfl,_,C⟩:=DataW.trod_string b c;refine⟨_,⟨a.data.toList,by trivial,rfl⟩,by simp[bb,R.one],fA.one ?_⟩;have d:(⟨a.data.toList.toArray⟩)=a:=by cases a;simp
 rw[bb,d];exact .v _ rfl
def A6 (a:Program):List Field->List (List R->Prop)->Nat->Nat->Prop
 | [],[],off,b=>off=b
 |c::d,h::rs,off,b=>c.offset=off/\dd a c.type h/\A6 a d rs (off+a.cellsOf c.type) b
 | _,_,_,_=>False
theorem dd.struct {b:Array Field}{r:List (List R->Prop)} (F:m.underlying b2=some (.struct b)) (G:A6 m b.toList r 0 (m.cellsOf b2)):dd m b2 (vz r):=λL y P S T B p H V=>by
 obtain⟨W,e,_,_,f,g,i⟩:=DataW.trod_struct F V;have j: ∀(k:List Field) (c:List (List R->Prop)) (a d:Nat),b.toList.drop a=k->A6 m k c d (m.cellsOf b2)-> ∃h,vz c h/\(∀l∈h,l.one=true)/\fA (lB y) (p.drop d) h:=by
  intro k
  induction k with
  |nil=>
   intro c a d n x;cases c with
   |cons _ _=>trivial
   |nil=>exact⟨[],rfl,a9q,by rw[a6i (by rw[f];exact a9i x.symm)];exact fA.nil⟩
  |cons o k ih=>
   intro c a d n x;cases c with
   |nil=>trivial
   |cons I c=>
    obtain⟨z,C,D⟩:=x;have K:a<b.toList.length:=by grind[List.drop_of_length_le]
    have q:b.toList[a]=o/\b.toList.drop (a+1)=k:=by grind[List.drop_eq_getElem_cons,List.cons.inj]
    obtain⟨h,s,M,t⟩:=ih c (a+1) _ q.2 D;have u:b[a]? =some o:=by grind
    have:=i a o u;have v:a<W.length:=by rw[g];trivial
    rw[a4M v,z]at this;obtain⟨E,w,N,a3⟩:=C L y P S T e _ _ this;refine⟨E++h,⟨E,h,w,s,rfl⟩,?_,?_⟩;grind
    .have A:p.drop d=(p.drop d).take (m.cellsOf o.type)++p.drop (d+m.cellsOf o.type):=by rw[<-a5B,a5t]
     rw[A];exact a3.append t
 obtain⟨h,z,C,D⟩:=j b.toList r 0 0 rfl G;grind
theorem GW {h o:Type} (c:h->Option o): ∀(a:List h) (d:List o),a.mapM c=some d->d.length=a.length/\ ∀(p:Nat) (r:h),a[p]? =some r-> ∃x,d[p]? =some x/\c r=some x
 | [],d,b=>by simp_all
 |z::a,d,b=>by
  rw[List.mapM_cons]at b;cases y:c z with
  |none=>simp[y]at b
  |some D=>
   cases k:a.mapM c with
   |none=>simp[k]at b
   |some C=>simp[y,k]at b;subst b;obtain⟨E,F⟩:=GW c a C k;grind
variable{e i v O b8 j0:Nat}{l h7:World}
def GX {d:Addr}{c:List Value} (b:l.cells? i d e=some c):c.length=e/\ ∀a,a<e->c[a]? =l.cell? (d.add a):=by
 unfold World.cells? at b;split at b
 .obtain⟨h,k⟩:=GW _ _ _ b;refine⟨by simpa using h,λa o=> ?_⟩;obtain⟨x,p,r⟩:=k a a (by simp[o]);rw[p,r]
 .cases b
theorem a4f {b:Addr} (a:l.cell? b=some e5):b.spot=none:=by
 unfold World.cell? at a;split at a;simp_all
 .cases a
theorem add_add {a:Addr} (d:a.spot=none) (b:Nat):a.add b=⟨a.block,a.off+b,none⟩:=by
 unfold Addr.add;split
 .rename_i c;subst c;cases a;simp_all
 .rfl
structure tf (b:List R->R) (a:List R->Prop) (k:Nat):Prop where
 len: ∀us,a us->us.length=k
 cells: ∀us,a us->(b us).cells=us
def GY {c:List R->R}{d:List R->Prop}{o:Nat} (h:tf c d o): ∀b:List (List R),(∀a∈b,d a)->flat (b.map c)=b.flatten
 | [],_=>rfl
 |a::b,k=>by
  simp only[a5k,flat,a5o,a6B];rw[h.cells a (k a a9q)];have:=GY h b λa p=>k a (by simp[p]);simp only[flat]at this;rw[this]
theorem dd.slice {u:TypeId}{r:List R->Prop}{l:List R->R} (Z:m.underlying u=some (.slice b2)) (j9:m.cellsOf b2=e) (n:0<e) (F:tf l r e) (k0:dd m b2 r):dd m u (vA l r):=λk1 k v k2 k3 n1 n2 o k4=>by
 rcases DataW.trod_slice Z k4 with ⟨rfl,_⟩|⟨W,len,w,k5,n3,k6,_,rfl,_,n4,k7,n5,n9,A,_,_⟩
 .exact⟨_,⟨[],a9q,a9q,rfl⟩,by simp[R.one],fA.one (.dg none 0 .any (λ_=>rfl) trivial)⟩
 .rw[j9]at A;have B: ∀c,c<len-> ∃b x,r b/\(∀y∈b,y.one=true)/\k.cells? v (W.add (c*e)) e=some x/\fA (lB k) x b:=λc p=>by
   have H:=A c p;have k8:c<k5.length:=a9p;rw[a4M k8,Option.bind_eq_some_iff]at H;obtain⟨x,f,q⟩:=H;obtain⟨b,s,I,K⟩:=k0 k1 k v k2 k3 k6 x _ q;grind
  by_cases k9:len=0
  .subst k9;exact⟨_,⟨[],a9q,a9q,rfl⟩,by simp[R.one],fA.one (.dg (some W) w .any (λl0=>by cases l0) trivial)⟩
  .have M:W.spot=none:=by obtain⟨b,x,_,_,f,_⟩:=B 0 a9p;obtain⟨q,t⟩:=GX f;have S:=t 0 n;simp only[a8e]at S;grind[List.getElem?_eq_getElem,Addr.add,a4f]
   obtain⟨z,C,a00⟩:=W;simp only at M;subst M;have l1: ∃d:List (List R),d.length=len/\ ∀c b,d[c]? =some b->r b/\(∀y∈b,y.one=true)/\ ∀a h,b[a]? =some h-> ∃o,k.cell? ⟨z,C+(c*e+a),none⟩=some o/\aY (lB k) o h:=by
    have: ∀D,D<=len-> ∃d:List (List R),d.length=D/\ ∀c b,d[c]? =some b->r b/\(∀y∈b,y.one=true)/\ ∀a h,b[a]? =some h-> ∃o,k.cell? ⟨z,C+(c*e+a),none⟩=some o/\aY (lB k) o h:=by
     intro D
     induction D with
     |zero=>simp
     |succ D ih=>
      intro a01;obtain⟨d,T,V⟩:=ih a9p;obtain⟨b,x,s,I,f,K⟩:=B D a9p;refine⟨d++ [b],by simp[T],λc N p=> ?_⟩;rw[a8h]at p;split at p
      .exact V c N p
      .rename_i a02;have l2:c=D:=by grind
       subst l2;have:N=b:=by simp_all
       subst this;refine⟨s,I,λa h g=> ?_⟩;have l3:a<e:=by have:=(a4T.1 g).1;rw[F.len _ s]at this;exact this
       obtain⟨q,t⟩:=GX f;have S:=t a l3;have O:a<x.length:=a9p;rw[a4M O]at S;have l4:((⟨z,C,none⟩:Addr).add (c*e)).add a=⟨z,C+(c*e+a),none⟩:=by rw[add_add (by rw[add_add rfl]),add_add rfl];simp[a8o]
       rw[l4]at S;exact⟨x[a],S.symm,K.2 a _ _ (a4M O) g⟩
    simp_all
   obtain⟨d,T,V⟩:=l1;have G: ∀b2∈d,r b2:=λb2 E=>by
    obtain⟨c,p,rfl⟩:=a5y E;exact(V c _ (a4M p)).1
   have Q:=GY F d G;have l5: ∀(L:List (List R)),(∀b2∈L,r b2)-> ∀a h,L.flatten[a]? =some h-> ∃b,L[a/e]? =some b/\b[a%e]? =some h:=by
    intro L
    induction L with
    |nil=>intro _ a h P;simp at P
    |cons b2 L ih=>
     intro X a h P;have a03:=F.len b2 (X b2 a9q);rw[a6B,a8h]at P;split at P;grind[Nat.div_eq_of_lt,Nat.mod_eq_of_lt]
     .rename_i g;obtain⟨b,l6,l7⟩:=ih (λb2 E=>X b2 (by simp[E])) (a - b2.length) h P;have Y:a=(a - b2.length)+e:=a9p;refine⟨b,?_,?_⟩
      .rw[Y,Nat.add_div_right _ n];exact l6
      .rw[Y,Nat.add_mod_right];exact l7
   have a04:d.flatten.length=len*e:=by
    rw[<-T];clear l5 Q T V
    induction d with
    |nil=>simp
    |cons b2 d ih=>rw[a6B,a4O,ih (λb2 E=>G b2 (by simp[E])),F.len b2 (G b2 a9q),a4S,a5V,a7G,a8y]
   refine⟨_,⟨d,G,a9p,rfl⟩,by simp[R.one],fA.one ?_⟩;have l8: ∀a h,d.flatten[a]? =some h-> ∃o,k.cell? ⟨z,C+a,none⟩=some o/\aY (lB k) o h:=λa h P=>by
    grind[Nat.div_add_mod']
   refine aY.J z C len w e (λa=>(k.cell? ⟨z,C+a,none⟩).getD undef) (d.map l) .any n (by simp[T]) k7 ?_ ?_ ?_ ?_ trivial
   .intro b2 E;obtain⟨b,i,rfl⟩:=a5h.1 E;rw[F.cells b (G b i),F.len b (G b i)]
   .intro y j;rw[Q,a8v]at j;obtain⟨b,i,j⟩:=j;obtain⟨c,p,rfl⟩:=a5y i;exact(V c _ (a4M p)).2.1 y j
   .intro a g;have l9:a<d.flatten.length:=a9p;obtain⟨o,n0,a05⟩:=l8 a _ (a4M l9);show k.cell? _= _;rw[n0];rfl
   grind
def tg (b:Program) (c:TypeId) (k:R->Prop):Prop:=
 ∀ {d:Type} (o:TypeId×Value->d) (a:World) (p:Nat) (r:Nat->Bool) (v:Value) (x:DataW d) (y:List MemPlace),Value.okWide b a .any p c v->DataW.Trod o b a 0 r true c v x y-> ∃h,k h/\aY (lB a) v h
theorem a4g {a:Reach}{v:Value} (b:Cell.okWide m l a e b2 v):v.cells= #[v]:=by
 cases v with
 |agg cs=>simp_all [Cell.okWide,Cell.ok]
 |tuple cs=>rfl
 | _=>rfl
def isRow (a:Option TypeDesc):Bool:=
 match a with
 |some (.struct _)=>true
 |some (.array _ _)=>true
 | _=>false
def th (a:List R->Prop) (b:R):Prop:=a [b]
def a4J (b:List R->Prop) (c:R):Prop:= ∃a,b a/\c= .agg a
def tg.cell {k:List R->Prop} (b:isRow (m.underlying b2)=false) (p:dd m b2 k):tg m b2 (th k):=λr x L y v P S c z=>by
 obtain⟨C,D⟩:=z;obtain⟨E,d,T,a⟩:=p r x 0 y true C _ _ D;have F:v.cells= #[v]:=by
  unfold Value.okWide at c;split at c
  .rename_i h;rw[h]at b;cases b
  .rename_i h;rw[h]at b;cases b
  .exact a4g c
 rw[F]at a;have G:=a.1
 match E,G,d,a with
 | [o],_,d,a=>exact⟨o,d,a.2 0 v o rfl rfl⟩
def ti (a:Program):List TypeId->List (R->Prop)->Prop
 | [],[]=>True
 |b::sd,c::lC=>tg a b c/\ti a sd lC
 | _,_=>False
def tj:List (R->Prop)->List R->Prop
 | [],a=>a= []
 |d::lC,a=> ∃b c,a=b::c/\d b/\tj lC c
def GZ {r:Program}{z:Type}{C:TypeId×Value->z}{h:World}{D:Nat}{E:Nat->Bool}: ∀(a:List TypeId) (lC:List (R->Prop)) (c:List Value) (k:List (DataW z)) (x:List MemPlace),
  ti r a lC->(∀(o:Nat) b v,a[o]? =some b->c[o]? =some v->Value.okWide r h .any D b v)->DataW.TrodAll C r h 0 E true a c k x-> ∃d,tj lC d/\fA (lB h) c d/\k.length=a.length
 | [],[],c,k,x,_,_,y=>by
  obtain⟨rfl,rfl,rfl⟩:=trodAll_nil y;exact⟨[],rfl,fA.nil,rfl⟩
 |b::a,n::lC,c,k,x,F,G,y=>by
  obtain⟨v,P,S,T,V,W,rfl,rfl,rfl,e,f⟩:=trodAll_cons y;obtain⟨L,g,i⟩:=F.1 C h D E v S V (G 0 b v rfl rfl) e;obtain⟨d,j,l,m⟩:=GZ a lC P T W F.2 (λo b v p q=>G (o+1) b v (by trivial) (by trivial)) f;exact⟨L::d,⟨L,d,rfl,g,j⟩,(fA.one i).append l,by simp[m]⟩
 | [],_:: _,_,_,_,p,_,_=>p.elim
 | _:: _,[],_,_,_,p,_,_=>p.elim
def a4h {a:MemPlace} (b:h7.heap[a.block]? =l.heap[a.block]?):l.sameAt h7 a:=by
 cases a with
 |cell c off=>show h7.cell? _=l.cell? _;have b:h7.heap[c]? =l.heap[c]? :=b;simp only[World.cell?,b]
 |map c=>exact b
theorem H0 {b:Program}{z:Type}{C:TypeId×Value->z}{D E:World}{y:Nat} (F:laidOutB b=true) (G: ∀c,c<y->E.heap[c]? =D.heap[c]?): ∀(d:List TypeId) (o:List Value) (p:List (DataW z)) (h:List MemPlace),
  (∀a∈d,b.readableRec a=true/\a<b.types.size)->(∀L∈h,L.block<y)->DataW.TrodAll C b D 0 (λ_=>true) true d o p h->DataW.TrodAll C b E 0 (λc=>decide (c<y)) true d o p h
 | [],o,p,h,_,_,k=>by
  obtain⟨rfl,rfl,rfl⟩:=trodAll_nil k;rfl
 |a::d,o,p,h,P,S,k=>by
  obtain⟨v,T,j,V,L,W,rfl,rfl,rfl,e,f⟩:=trodAll_cons k;obtain⟨g,i⟩:=P a a9q;refine trodAll_cons_mk (WideElems.Trod_stays F g i e (λr x=>a4h (G _ (S r (a6Y _ x)))) (λr x=>by simp_all)) ?_;exact H0 F G d T V W (λa k=>P a (by simp[k])) (λr x=>S r (a6T _ x)) f
theorem a4i {b:MemPlace->Prop} (c:h7.os=l.os) (d:h7.output=l.output) (h: ∀a,a<l.heap.size->h7.heap[a]? =l.heap[a]?):l.keptBut h7 b:=by refine⟨c,d,λk o=> ?_⟩;grind
variable{I:Bool}{b5:FuncId}{b0:Type}
theorem a4j {L:TypeId×Value->b0}{c:Func}{k:ChangeSpec}{n q:Bool}{C:List (R->Prop)} (s:laidOutB m=true) (t: ∀d∈c.params.toList,m.readableRec d=true/\d<m.types.size)
  (P:k.vars= []) (u:c.resultTypes= #[b2]) (o:m.underlying b2=some .bool) (w:ti m c.params.toList C) (D: ∀a:List (DataW b0),a.length=c.params.toList.length->k.fn b0 a= {results:= [.lit (.bool true)],args:=a,vars:= []})
  (p:U) (b:World) (A:Holds (lB b) p b) (B: ∀h r,p h=some r-> ∃E,r= .ro E)
  (H: ∀x,tj C x->AC m b5 x p λS _=>S= .v (.bool true))
  (K:Nat) (args:Array Value) (a M:List (DataW b0)) (N:List MemPlace) (O: ∀(y:Nat) d v,c.params[y]? =some d->args[y]? =some v->Value.okWide m b .any K d v)
  (T:DataW.Whole L m c.params.toList k.vars I b args.toList a M N):
  Calls m b5 args b λV W=> ∃v,V= .returned v/\k.post L m c I n q false b args v W:=by
 have e:=T;obtain⟨f,k2,g,i,rfl,_,_⟩:=T;rw[P]at i;obtain⟨rfl,rfl⟩:=trodVars_none i;obtain⟨x,Q,X,F⟩:=GZ _ C _ _ _ w (λy d v j k3=>O y d v (by simp_all) (by simp_all)) g;have Y:=λZ j9=>e.lt Z (a6Y _ j9);refine(H x Q args b (lB b) X.a4d A).mono ?_;rintro V W ⟨v,S,k4,k5,rfl,z,k0,rfl⟩;have k1:v= .bool true:=by cases k0;rfl
 subst k1;have l:=λh o=>by
  cases G:p h with
  |none=>exact z.block h o G
  |some r=>obtain⟨E,rfl⟩:=B h r G;exact(z.jt h E o G).1
 refine⟨_,rfl,a,[],f++ [],[],f,[],e,?_,?_,?_,a4i z.os z.output.1 l,λj=>by cases j⟩
 .rw[a5R,D a F,u];exact trodAll_cons_mk (shut_bool o true) trodAll_mk0
 .rw[a5R,D a F];exact H0 s l _ _ _ _ t Y g
 .rw[a5R,D a F,P];rfl
def a4k {k:TypeId×Value->b0}{a:Func}{h:ChangeSpec}{C D:Bool}{o:List (R->Prop)} (E:laidOutB m=true) (F: ∀d∈a.params.toList,m.readableRec d=true/\d<m.types.size)
  (G:h.vars= []) (L:a.resultTypes= #[b2]) (P:m.underlying b2=some .bool) (S:ti m a.params.toList o) (T: ∀b:List (DataW b0),b.length=a.params.toList.length->h.fn b0 b= {results:= [.lit (.bool true)],args:=b,vars:= []})
  (V: ∀p,tj o p->AC m b5 p U.emp λW _=>W= .v (.bool true))
  (c:World) (r:Nat) (args:Array Value) (b x:List (DataW b0)) (y:List MemPlace) (e: ∀(z:Nat) d v,a.params[z]? =some d->args[z]? =some v->Value.okWide m c .any r d v)
  (f:DataW.Whole k m a.params.toList h.vars I c args.toList b x y):
  Calls m b5 args c λg i=> ∃v,g= .returned v/\h.post k m a I C D false c args v i:=
 a4j E F G L P S T U.emp c (a4c c) (λ_ _ j=>by cases j) V r args b x y e f
open Go
def rk (a:List R):R:=a.headD (.aI [])
end Go.bz
namespace Go.Proofs.YtlgnfcaolejgeaaGreat
open Go Go.bz
variable{b1:Int}
def wf_i64 (b:(Lit.int .i64 b1).wf=true): -9223372036854775808<=b1/\b1<=9223372036854775807:=by
 have a:IntKind.i64.min<=b1/\b1<=9223372036854775807:=by simpa[Lit.wf] using b
 have c:IntKind.i64.min= -9223372036854775808:=a9t;rw[c]at a;exact a
def a4l:tf rk (SInt .i64) 1:=⟨by rintro a ⟨b,_,rfl⟩;rfl,by rintro a ⟨b,_,rfl⟩;rfl⟩
abbrev vB:List R->Prop:=vA rk (SInt .i64)
variable{g B e0:List R}
theorem a4m (o:vB g): ∃h:List Int,cX h/\g= [.J (ad h) .any]:=by
 obtain⟨b,k,p,r⟩:=o;have: ∃a:List Int,cX a/\b.map rk=ad a:=by
  clear p r
  induction b with
  |nil=>exact⟨[],(λF x=>by cases x),rfl⟩
  |cons c b ih=>
   obtain⟨a,y,z⟩:=ih λc C=>k c (by simp[C]);obtain⟨D,E,rfl⟩:=k c a9q;refine⟨D::a,?_,by simp only[a5k,z];rfl⟩;intro v d;rcases a5j.1 d with rfl|d
   .have:=wf_i64 E;omega
   .exact y v d
 simp_all
def a4n:tf rk oK 1:=⟨by rintro a ⟨b,_,rfl⟩;rfl,by rintro a ⟨b,_,rfl⟩;rfl⟩
abbrev vC:List R->Prop:=vA rk oK
theorem a4o (h:vC g): ∃k:List (List UInt8),g= [.J (bE k) .any]:=by
 obtain⟨a,d,o,p⟩:=h;have: ∃b:List (List UInt8),a.map rk=bE b:=by
  clear o p
  induction a with
  |nil=>exact⟨[],rfl⟩
  |cons c a ih=>obtain⟨b,r⟩:=ih λc x=>d c (by simp[x]);obtain⟨y,z,rfl⟩:=d c a9q;exact⟨y::b,by simp only[a5k,r];rfl⟩
 simp_all
abbrev vD:List R->Prop:=vz [vy,oK,vC,vB]
def H2 (b:vD g): ∃a:cN,cX a.d.row/\g=a.C:=by obtain⟨_,_,⟨c,rfl⟩,⟨_,_,⟨d,_,rfl⟩,⟨_,_,h,⟨_,_,k,o,rfl⟩,rfl⟩,rfl⟩,rfl⟩:=b;obtain⟨p,rfl⟩:=a4o h;obtain⟨r,x,rfl⟩:=a4m k;cases o;exact⟨⟨⟨c,d,p,r⟩,.any,.any⟩,x,rfl⟩
def a4p:tf R.agg vD 4:=⟨λb a=>by obtain⟨c,_,rfl⟩:=H2 a;rfl,λb a=>rfl⟩
abbrev vE:List R->Prop:=vA R.agg vD
theorem a4q (p:vE g): ∃d:List cN,(∀h∈d,cX h.d.row)/\d.length<=maxLen/\g= [.J (lA d) .any]:=by
 obtain⟨b,o,r,x⟩:=p;have: ∃a:List cN,a.length=b.length/\b.map R.agg=lA a/\ ∀h∈a,cX h.d.row:=by
  clear r x
  induction b with
  |nil=>exact⟨[],rfl,rfl,λc k=>by cases k⟩
  |cons c b ih=>obtain⟨a,y,z,D⟩:=ih λc k=>o c (by simp[k]);obtain⟨C,E,rfl⟩:=H2 (o c a9q);refine⟨C::a,by simp[y],by rw[a5k,z];rfl,?_⟩;grind
 grind
variable{n b3:R}
theorem a4r (b:th vE n): ∃a:List cN,(∀c∈a,cX c.d.row)/\a.length<=9223372036854775807/\n= .J (lA a) .any:=by obtain⟨a,d,h,k⟩:=a4q b;grind[hm,maxLen,List.cons.inj]
theorem a4s (b:th oK n): ∃a:List UInt8,a.length<=maxLen/\n=bb a:=by obtain⟨a,c,b⟩:=b;grind
def a4t:dd Tryz.prog 5 vy:=dd.byte a9u
def A7:dd Tryz.prog 9 oK:=dd.str a9u
def a4u:dd Tryz.prog 2 (SInt .i64):=dd.int a9u
def a4v:dd Tryz.prog 24 vB:=dd.slice (e:=1) (by kernel_rfl:Tryz.prog.underlying 24=some (.slice 2)) a9u a9p a4l a4u
def a4w:dd Tryz.prog 46 vC:=dd.slice (e:=1) (by kernel_rfl:Tryz.prog.underlying 46=some (.slice 9)) a9u a9p a4n A7
def a4x:dd Tryz.prog 64 vD:=dd.struct (r:= [vy,oK,vC,vB]) Tryz.underlying64 (by
 refine⟨by rfl,a4t,by rfl,A7,by rfl,a4w,by rfl,a4v,(by show _= _;rfl)⟩)
def a4y:dd Tryz.prog 22 vE:=dd.slice (e:=4) (by kernel_rfl:Tryz.prog.underlying 22=some (.slice 64)) a9u a9p a4p a4x
end Go.Proofs.YtlgnfcaolejgeaaGreat
namespace Go.Proofs.YtlgnfcaolejgeaaGreat.stateOf
open Go
def jA:(Rows.stateOfRow.inPlace==Tryz.prog.inPlace 7)=true:=a9u
def jB:(Rows.stateOfRow.unfollowed==Tryz.prog.unfollowed 7)=true:=a9u
def jC:(Rows.stateOfRow.named==Tryz.prog.varsNamed 7)=true:=a9u
def jD:(laidOutB Tryz.prog&&mapsRowed Tryz.prog&&Tryz.f7.params.all (Tryz.prog.readableRec ·)&&namedTie Tryz.prog Rows.stateOfRow.named Rows.stateOfSpec.vars&&(Tryz.prog.stops== [])&&(Tryz.prog.stopKnobs== []))=true:=a9u
def sD:(Rows.stateOfRow.lifted==Tryz.prog.liftsFinal)=true:=a9u
def jF:(Tryz.prog.stopsHeard&&Tryz.prog.mayEnter&&(Tryz.prog.make==some Rows.stateOfRow.make)&&(Rows.stateOfRow.pinned==Rows.stateOfRow.pinnedBy))=true:=a9u
def a4z:joinedFacts Tryz.prog 7 Tryz.f7 Rows.stateOfSpec Rows.stateOfRow=true:=by
 unfold joinedFacts;have d:=jA;have a:=jB;have h:=jC;have b:=jD;have k:=sD;have c:=jF;simp only[a4Q]at b c;obtain⟨⟨⟨⟨⟨o,p⟩,r⟩,x⟩,y⟩,z⟩:=b;obtain⟨⟨⟨C,D⟩,E⟩,F⟩:=c;have G:(Rows.stateOfRow.recurses==Tryz.prog.recurses 7)=true:=by have L:Rows.stateOfRow.unfollowed=Tryz.prog.unfollowed 7:=eq_of_beq a;unfold Program.recurses;rw[<-L];rfl
 rw[d,a,h,o,p,r,x,y,z,k,C,D,E,F,G];decide+kernel
end Go.Proofs.YtlgnfcaolejgeaaGreat.stateOf
