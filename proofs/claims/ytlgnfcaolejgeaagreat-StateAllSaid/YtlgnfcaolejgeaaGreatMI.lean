import Derived.Test.YtlgnfcaolejgeaaGreatMH
import Derived.Test.YtlgnfcaolejgeaaGreatMF
import Derived.Test.YtlgnfcaolejgeaaGreatMD
import Derived.Test.YtlgnfcaolejgeaaGreatME
import Derived.Test.YtlgnfcaolejgeaaGreatMG
import Derived.Test.YtlgnfcaolejgeaaGreatMC
import Derived.ProofKit
import Derived.OpenShut
import Derived.WideKeyArgs
import Derived.Test.YtlgnfcaolejgeaaGreatRows
import Derived.JoinedOf
set_option linter.all false
set_option maxRecDepth 100000
namespace Go.Proofs.YtlgnfcaolejgeaaGreat
open Go Go.bz
def ik (a:ay) (b c d:Own) (k:a.sum.length=32):(ab a b c d).length=37/\aX true 2 ((ab a b c d).drop 32)=et a.aU a.aV b c/\aX false 1 ((ab a b c d).drop 34)= .v (.int .i64 a.live)/\aX false 1 ((ab a b c d).drop 35)= .v (.int .i64 a.size)/\aX false 1 ((ab a b c d).drop 36)= .J (ad a.key) d/\aX true 37 (ab a b c d)= .agg (ab a b c d):=by have h:=aW (M:=b) (e6:=c) (h5:=d) k;refine⟨h.len,by rw[h.d32];rfl,by rw[h.d34];rfl,by rw[h.d35];rfl,by rw[h.d36];rfl,?_⟩;show R.agg ((ab a b c d).take 37)= _;rw[h.t37]
theorem Gn (a:c3) (S V:List R) (l m:Own) (y:U) (Z:az df a.rows S) (j9:az bu a.kids V) (a65:a.rows.length<=4) (a68:a.kids.length<=4)
  (k4: ∀o∈a.rows,1<=o.1.length/\o.1.length<=8) (l6: ∀c∈a.kids,c.ht/\c.sum.length=32/\c.cC) (a01:(eD a).size<=1048576) (a02:a.kind=2->a.rows≠ []) (a03:a.kind=3->a.kids≠ []):
  AC Tryz.prog 113 [gN a (.J S l) (.J V m)] y λo F=>y.sub F/\ ∃h k H,o= .aL [.agg (ab (eS a) h k H),.v (.bool true)]:=by
 have a69:=Z.len;have a71:=j9.len;have a73:(cY a).length<=3000:=by have l7:=qG λo r=>xu (k4 o r).2;grind[yF,cY,List.length_append,List.length_cons]
 have eN:=ik aA .nil .nil .nil bj;have x:(eR (cY a)).length=32:=oe _;have z:(⟨eR (cY a),(eD a).aO.1,(eD a).aO.2,(eD a).live,(eD a).size,keyOf a⟩)=eS a:=rfl;have k0:=λa04 y r=>a1F (cY a) a04 y r a9k;have l8:=λy=>a0t a S V l m y Z j9 a9k a9k (λo r=>(k4 o r).2) l6;generalize eR (cY a)=p at*;generalize eS a=G at*;have a74:(cJ p).cells=p.map al:=rfl;have a81:(p.map al).length=32:=by simp[x]
 have a83:putAt (ab aA .nil .nil .nil) 0 (p.map al)=ab (fI p ⟨0,0,([],[])⟩) .nil .nil .nil:=uh bj x;have n: ∀c:ay,c.sum.length=32-> ∀h k H,putAt (ab aA .nil .nil .nil) 0 (ab c h k H)=ab c h k H:=λc r h k H=>cD bj r;have a84:=n (fI p ⟨0,0,([],[])⟩) x .nil .nil .nil;have P:=λd h k=>ik (fI p d) h k .nil x;have a86:=P ⟨0,0,([],[])⟩ .nil .nil;refine aM hm Mz ?_;refine bp λv a05=> ?_;refine cX λI a06 a88 a07=> ?_;rw[cq];have l9:((y.set v (.cells [.v (.int .u8 a.kind.toNat),.J S l,.J V m])).set I (.cells (ab aA .nil .nil .nil))) v=some (.cells [.v (.int .u8 a.kind.toNat),.J S l,.J V m]):=by rw[U.ao _ _ a07,U.ah]
 have n0:=U.ah (y.set v (.cells [.v (.int .u8 a.kind.toNat),.J S l,.J V m])) I (.cells (ab aA .nil .nil .nil));have n1:y.sub ((y.set v (.cells [.v (.int .u8 a.kind.toNat),.J S l,.J V m])).set I (.cells (ab aA .nil .nil .nil))):=U.ae (U.ae U.a1 a05) a06;generalize (y.set v _).set I _=a08 at*;refine hN (l8 a08) λa09 w k5=> ?_;have k0:=k0 a09 w (nG.an k5);have k1:=k5.sub;refine bh k0 ?_;clear k0 l8;refine aN λf g=> ?_;have k6:=k1 _ _ l9;have c2:=k1 _ _ n0;have a89:v≠f:=by rintro rfl;rw[k6]at g;cases g
 have a90:I≠f:=by rintro rfl;rw[c2]at g;cases g
 have a10:=U.au n1 k1;clear k1 l9 n0 n1 k5;refine aa ?_;refine ch [1,2,4] (λb:Nat=> [(5,.v (.int .i64 (b)))]) (λb F=>b<=a.rows.length/\w.sub F/\(0<=((a.rows.take b).foldl dK ⟨0,a.rows.length,([],[])⟩).live/\((a.rows.take b).foldl dK ⟨0,a.rows.length,([],[])⟩).live<=b/\((a.rows.take b).foldl dK ⟨0,a.rows.length,([],[])⟩).aO.1.length<=8/\((a.rows.take b).foldl dK ⟨0,a.rows.length,([],[])⟩).aO.2.length<=8)/\
   ∃h k,F f=some (.cells (ab (fI p ⟨((a.rows.take b).foldl dK ⟨0,a.rows.length,([],[])⟩).live,b,((a.rows.take b).foldl dK ⟨0,a.rows.length,([],[])⟩).aO⟩) h k .nil))) (λb=>a.rows.length - b) 0 ⟨⟨a5o _,U.ae (U.ae U.a1 g) g,a9l,.nil,.nil,U.ah _ _ _⟩,aS⟩ ?_
 rintro b k7 ⟨a11,i,⟨a92,a94,a13,a14⟩,h,k,aJ⟩ a15;have K:=λr=>eQ (a:=a.rows) (b:=([],false)) (e:=b) r;have C:=λr=>congrArg (List.foldl dK ⟨0,a.rows.length,([],[])⟩) (K r);generalize k2:(a.rows.take b).foldl dK ⟨0,a.rows.length,([],[])⟩=d at*;have n2:=U.af (i _ _ k6);have M:=U.af aJ;have N:=P ⟨d.live,b,d.aO⟩ h k;have n3:putAt (ab (fI p ⟨d.live,b,d.aO⟩) h k .nil) 35 [.v (.int .i64 ((b)+1))]=ab (fI p ⟨d.live,(b)+1,d.aO⟩) h k .nil:=sx x;have q:=U.aI aJ
 dsimp only at N
 refine aa ?_;refine aG (λO=> ?_) λO=> ?_
 .have A:b<a.rows.length:=a9k;have Q:a.rows[b]? =some (a.rows.getD b ([],false)):=by simp_all
  obtain⟨_,j,W,rfl⟩:=Z.get Q;have k3:=k4 _ (a4O Q);have C:=C A;rw[a6G,k2]at C;generalize a.rows.getD b ([],false)=o at*;have n4:eA 2 S[b]? =some (.bV [.J (ad o.1) W,.v (.bool o.2)]):=by rw[j];rfl
  obtain⟨o,a16⟩:=o
  dsimp only at k3 n4
  have k8:=P ⟨d.live,(b)+1,d.aO⟩ h k
  dsimp only at k8
  cases a16 with
  |false=>
   refine aa ?_;have s:(a.rows.take (b+1)).foldl dK ⟨0,a.rows.length,([],[])⟩=d:=by rw[C];rfl
   refine⟨b+1,⟨A,?_,h,k,?_⟩,rfl,a9k⟩;grind
   .rw[s];push_cast;rfl
  |true=>
   have a18:putAt (ab (fI p ⟨d.live,(b)+1,d.aO⟩) h k .nil) 34 [.v (.int .i64 (d.live+1))]=ab (fI p ⟨d.live+1,(b)+1,d.aO⟩) h k .nil:=sw x;have e:=P ⟨d.live+1,(b)+1,d.aO⟩ h k
   dsimp only at e
   refine aa ?_;generalize t:k7.set f _=u;have k9:u f=some (.cells (ab (fI p ⟨d.live+1,(b)+1,d.aO⟩) h k .nil)):=by subst t;exact U.ah _ _ _
   have l0:w.sub u:=by subst t;exact U.ae i g
   clear t q M;refine ai (Gm d.aO (o,o) h k W W u a9k (by dsimp only;omega)) ?_;rintro _ a19 ⟨X,D,E,rfl⟩;have l1:=X _ _ k9;have q:=U.aI l1;have a27:cS d.aO (gm o)=cS d.aO (o,o):=by unfold gm;rw[if_pos k3]
   have a29:putAt (ab (fI p ⟨d.live+1,(b)+1,d.aO⟩) h k .nil) 32 [.J (ad (cS d.aO (o,o)).1) D,.J (ad (cS d.aO (o,o)).2) E]=ab (fI p ⟨d.live+1,(b)+1,cS d.aO (o,o)⟩) D E .nil:=xw x;have a30:=om d.aO (o,o) 8 a13 a14 k3.2 k3.2;refine aa ?_;have s:(a.rows.take (b+1)).foldl dK ⟨0,a.rows.length,([],[])⟩=⟨d.live+1,d.size,cS d.aO (o,o)⟩:=by rw[C];show dK d (o,true)= _;rw[dK,if_pos rfl,a27]
   refine⟨b+1,⟨A,U.au l0 X,?_,D,E,?_⟩,rfl,a9k⟩;grind
   .rw[s];push_cast;rfl
 obtain rfl:b=a.rows.length:=a9k;rw[a5d]at k2;have a34:d.size=a.rows.length:=by rw[<-k2,xN]
 have a36:(⟨d.live,a.rows.length,d.aO⟩)=d:=by rw[<-a34]
 rw[a36]at aJ;clear C K O M N n3 q n2;refine ch [1,2,4] (λb:Nat=> [(6,.v (.int .i64 (b)))]) (λb F=>b<=a.kids.length/\w.sub F/\(0<=((a.kids.take b).foldl er d).live/\((a.kids.take b).foldl er d).live<=4+b*1048576/\0<=((a.kids.take b).foldl er d).size/\((a.kids.take b).foldl er d).size<=4+b*1048576/\((a.kids.take b).foldl er d).aO.1.length<=8/\((a.kids.take b).foldl er d).aO.2.length<=8)/\
   ∃h k,F f=some (.cells (ab (fI p ((a.kids.take b).foldl er d)) h k .nil))) (λb=>a.kids.length - b) 0 ⟨⟨a5o _,i,a9m,h,k,aJ⟩,aS⟩ ?_
 clear aJ i;rintro b k7 ⟨a11,i,⟨a95,a96,a97,a98,a38,a42⟩,h,k,aJ⟩ a15;have K:=λr=>eQ (a:=a.kids) (b:=aA) (e:=b) r;have C:=λr=>congrArg (List.foldl er d) (K r);generalize l2:(a.kids.take b).foldl er d=T at*;have n2:=U.af (i _ _ k6);have M:=U.af aJ;have N:=P T h k;have q:=U.aI aJ
 dsimp only at N
 refine aa ?_;refine aG (λO=> ?_) λO=> ?_
 .have A:b<a.kids.length:=a9k;have Q:a.kids[b]? =some (a.kids.getD b aA):=by simp_all
  obtain⟨_,j,l3,a43,D,E,L,rfl⟩:=j9.get Q;obtain⟨a47,_,_⟩:=l6 _ (a4O Q);obtain⟨l7,a48,a99,b00,b01,b02,b03⟩:=a47;have C:=C A;rw[a6G,l2]at C;generalize a.kids.getD b aA=c at*;have l4:=ik c D E L l3;have n4:eA 37 V[b]? =some (.bV (ab c D E L)):=by rw[j];exact jG l4.1
  have n3:putAt (ab (fI p T) h k .nil) 35 [.v (.int .i64 (T.size+c.size))]=ab (fI p ⟨T.live,T.size+c.size,T.aO⟩) h k .nil:=sx x;have a18:putAt (ab (fI p ⟨T.live,T.size+c.size,T.aO⟩) h k .nil) 34 [.v (.int .i64 (T.live+c.live))]=ab (fI p ⟨T.live+c.live,T.size+c.size,T.aO⟩) h k .nil:=sw x;have k8:=P ⟨T.live,T.size+c.size,T.aO⟩ h k;have e:=P ⟨T.live+c.live,T.size+c.size,T.aO⟩ h k
  dsimp only at k8 e
  generalize ab c D E L=a52 at*;clear j;refine aa ?_;generalize t:k7.set f _=u;have k9:u f=some (.cells (ab (fI p ⟨T.live+c.live,T.size+c.size,T.aO⟩) h k .nil)):=by subst t;exact U.ah _ _ _
  have l0:w.sub u:=by subst t;exact U.ae i g
  clear t q M;refine ai (Gm T.aO (c.aU,c.aV) h k D E u a9k (by dsimp only;omega)) ?_;rintro _ a19 ⟨X,cd,ca,rfl⟩;have l1:=X _ _ k9;have q:=U.aI l1;have a29:putAt (ab (fI p ⟨T.live+c.live,T.size+c.size,T.aO⟩) h k .nil) 32 [.J (ad (cS T.aO (c.aU,c.aV)).1) cd,.J (ad (cS T.aO (c.aU,c.aV)).2) ca]=ab (fI p ⟨T.live+c.live,T.size+c.size,cS T.aO (c.aU,c.aV)⟩) cd ca .nil:=xw x;have a30:=om T.aO (c.aU,c.aV) 8 a38 a42 l7 a48;refine aa ?_;have s:(a.kids.take (b+1)).foldl er d=⟨T.live+c.live,T.size+c.size,cS T.aO (c.aU,c.aV)⟩:=by rw[C];rfl
  refine⟨b+1,⟨A,U.au l0 X,?_,cd,ca,?_⟩,rfl,a9k⟩;grind
  .rw[s]
 obtain rfl:b=a.kids.length:=a9k;rw[a5d]at l2;have a56:eD a=T:=by unfold eD;rw[k2,l2]
 rw[a56]at a01 z;have b04:=U.aI (i _ _ c2);have b05: ∀F:U,w.sub F->y.sub F:=λF r=>U.au a10 r;clear C K O;have B:G.sum.length=32:=by rw[<-z];exact x
 have l5:G.size=T.size:=by rw[<-z]
 by_cases g2:a.kind=2
 .have bp:(a.kind.toNat:Int)=2:=by rw[g2];rfl
  obtain⟨o,b06,n5⟩:=a6M (a02 g2);obtain⟨_,j,W,rfl⟩:=Z.get (i:=0) (by rw[n5];rfl);have Y:keyOf a=o.1:=by unfold keyOf;rw[if_pos g2,n5];rfl
  rw[Y]at z;have a57:cP 2 (.J S l) (.v (.int .i64 0))=some (.bV [.J (ad o.1) W,.v (.bool o.2)]):=by show cP 2 _ (.v (.int .i64 ((0:Nat))))= _;rw[o3,j];rfl
  have a61:putAt (ab (fI p T) h k .nil) 36 [.J (ad o.1) W]=ab G h k W:=by rw[<-z];exact sy x
  have e:=ik G h k W B;have n9:=n G B h k W;rw[l5]at e;generalize o.1=a62 at*;clear P n z;refine iu ?_;refine iu ?_;grind
 have bp: ¬(a.kind.toNat:Int)=2:=λs=>g2 (a5D.1 (by grind));refine iu ?_;by_cases g3:a.kind=3
 .have hp:(a.kind.toNat:Int)=3:=by rw[g3];rfl
  obtain⟨c,b07,a00⟩:=a6M (a03 g3);obtain⟨_,j,l3,a43,D,E,L,rfl⟩:=j9.get (i:=0) (by rw[a00];rfl);have Y:keyOf a=c.key:=by unfold keyOf;rw[if_neg g2,if_pos g3,a00];rfl
  rw[Y]at z;have l4:=ik c D E L l3;have a57:cP 37 (.J V m) (.v (.int .i64 0))=some (.bV (ab c D E L)):=by show cP 37 _ (.v (.int .i64 ((0:Nat))))= _;rw[o3,j];exact jG l4.1
  have a61:putAt (ab (fI p T) h k .nil) 36 [.J (ad c.key) L]=ab G h k L:=by rw[<-z];exact sy x
  have e:=ik G h k L B;have n9:=n G B h k L;rw[l5]at e;generalize ab c D E L=a52 at*;generalize c.key=a62 at*;clear P n z;refine iu ?_;refine iu ?_;grind
 .have hp: ¬(a.kind.toNat:Int)=3:=λs=>g3 (a5D.1 (by grind));have Y:keyOf a= []:=by unfold keyOf;simp_all
  rw[Y]at z;have a63:fI p T=G:=z;rw[a63]at M N q;have e:=ik G h k .nil B;have n9:=n G B h k .nil;rw[l5]at e;clear P n z;refine iu ?_;refine iu ?_;grind
variable{e i v O b9 j1:Nat}
def a2K: ∀(a:List (a6.T e)),eF (pv a)=a.flatMap (a6.bg e)
 | []=>rfl
 | [b]=>by simp[pv,eF]
 |c::d::h=>rfl
theorem a2L: ∀(a:Nat) (b:a6.T a),eF (vq a b)=a6.bg a b
 |0,b=>by
  obtain⟨d,rfl⟩:=a6.hX b;show eF (if a6.len (a6.leaf d)=0 then none else some ⟨0,a6.leaf d⟩)= _;by_cases c:a6.len (a6.leaf d)=0
  .rw[if_pos c];rw[a6.hY]at c;rw[a6.kz,a4N c];rfl
  .rw[if_neg c];rfl
 |a+1,b=>by
  obtain⟨h,rfl⟩:=a6.gp b;show eF (match a6.kids (a6.node h)with
   | [k]=>some ⟨a,k⟩
   | _=>some ⟨a+1,a6.node h⟩)= _
  grind[a6.fk,a6.fZ,eF]
variable{q b6:List Int}{b7:eE}
def a2M (d:1<=e) (h:e<=8) (k:bL e q) (o:iH e b7) (p:q∉eF b7):(eF (kF b7 q)).Perm (q::eF b7):=by
 match b7 with
 |none=>show(a6.bg 0 (a6.leaf [q])).Perm _;rw[a6.kz];rfl
 |some ⟨a,b7⟩=>have b:GT e a b7:=o;have c:q∉a6.bg a b7:=p;simp only[kF];rw[if_neg c,a2K];rw[(a6.qO (gu d h) k a b7 b.wf b.dU b.ok c).1];unfold a6.dL;exact a7i.trans (.cons _ (List.Perm.of_eq a5z))
def a2N (d:1<=e) (h:e<=8) (k:bL e q) (o:iH e b7) (c:q∈eF b7):eF (js b7 q)=(eF b7).filter λp=>decide (p≠q):=by
 match b7 with
 |none=>cases c
 |some ⟨a,b7⟩=>have b:GT e a b7:=o;have r:q∈a6.bg a b7:=c;simp only[js];rw[if_pos r,a2L];exact(a6.pt (gu d h) k a b7 b.wf b.dU b.ok).1
theorem Gp (a:List Int) (b:List (List Int)):(hi a b).Perm (a::b):=by grind[List.takeWhile_append_dropWhile,decide,bP,hi,List.perm_middle]
theorem Gq {b:List Int}: ∀ {a:List (List Int)},a.Pairwise (λk o=>bP k<bP o)->(∀c∈a,bP b≠bP c)->(hi b a).Pairwise (λk o=>bP k<bP o)
 | [],_,_=>by simp[hi]
 |c::a,r,x=>by
  obtain⟨z,C⟩:=a5r.1 r;have D:=x c a9l;by_cases y:bP b<bP c
  .have p:hi b (c::a)=b::c::a:=by simp[hi,y]
   rw[p];refine a5r.2 ⟨λh d=> ?_,r⟩;grind
  .have p:hi b (c::a)=c::hi b a:=by simp[hi,y]
   rw[p];refine a5r.2 ⟨λh d=> ?_,Gq C λh d=>x h (by simp[d])⟩;rcases a5g.1 ((Gp b a).mem_iff.1 d)with rfl|d
   .omega
   .exact z h d
theorem Gr: ∀(b a:List (List Int)),(a++b).Pairwise (λh k=>bP h≠bP k)->a.Pairwise (λh k=>bP h<bP k)->(b.foldl (λo c=>hi c o) a).Perm (a++b)/\(b.foldl (λo c=>hi c o) a).Pairwise (λh k=>bP h<bP k)
 | [],a,_,d=>by simpa using d
 |c::b,a,d,p=>by
  have r:=((Gp c a).append_right b).trans a7i.symm;obtain⟨D,E,x⟩:=a5K.1 d;obtain⟨F,G⟩:=Gr b (hi c a) (r.symm.pairwise d λd=>d.symm) (Gq p λy z C=>x y z c a9l C.symm);grind
variable{Q:List (List Int)}
theorem a2O (c:Q.Pairwise (λa b=>bP a<bP b)) (p: ∀d∈Q,bP q≠bP d):(rf (Q++ [q])).Perm (q::Q)/\(rf (Q++ [q])).Pairwise (λa b=>bP a<bP b):=by
 have h:([]++(Q++ [q])).Pairwise (λa b=>bP a≠bP b):=by rw[a5a];refine a5K.2 ⟨c.imp λc=>by omega,a9l,λa r b x=> ?_⟩;grind
 obtain⟨k,o⟩:=Gr (Q++ [q]) [] h .nil;exact⟨k.trans (List.perm_append_singleton _ _),o⟩
def eM.put {d:Nat}{a:aQ} (b:eM d a) (G:d<900) {c:List Int} (h:bL (a.aD.length+1) c) (o: ∀y∈a.rows,bP y≠bP c):eM (d+1) (a.put c)/\(cZ (a.aD.length+1) c a.bM 0).2=true/\c∉eF a.ct:=by
 have L:=b.c;have p:c∉a.rows:=λhm=>o c hm rfl;have r:(cZ (a.aD.length+1) c a.bM 0).2=true:=by
  cases z:(cZ (a.aD.length+1) c a.bM 0).2 with
  |true=>rfl
  |false=>exact absurd (b.fW.mem_iff.1 (zm z)) p
 have x:c∉eF a.ct:=λhm=>p (b.nK.mem_iff.1 hm);obtain⟨k,C⟩:=a2O b.dU λD E F=>o D E F.symm;have P:=b.nK.length_eq;have S:=b.dE;refine⟨⟨b.right,b.dy.ins h,?_,(a2x a9k a9k h b.go a9k).1,?_,C,?_⟩,r,x⟩
 .exact(zl h b.dy.fe r).trans ((b.fW.cons c).trans k.symm)
 .exact(a2M a9k a9k h b.go x).trans ((b.nK.cons c).trans k.symm)
 .show(rf (a.rows++ [c])).length<=d+1;rw[k.length_eq,a4M];omega
theorem a2P {b:List (List Int)} (d:Q.Pairwise (·≠ ·)) (a:Q.Perm (q::b)):b.Perm (Q.filter λc=>decide (c≠q)):=by have h:=(a.filter λc=>decide (c≠q)).symm;have k:(q::b).Pairwise (·≠ ·):=a.pairwise d λa=>a.symm;obtain⟨o,_⟩:=a5r.1 k;rw[a7V,if_neg a9l]at h;grind[decide,List.filter_eq_self,decide_eq_true]
variable{j7:aQ}
def eM.ra (a:eM e j7):j7.rows.Pairwise (·≠ ·):=a.dU.imp λa b=>by subst b;omega
theorem eM.del {k:Nat}{b:aQ} (a:eM k b) {c:List Int} (d:c∈b.rows):eM k (b.del c)/\(cj (b.aD.length+1) c b.bM 0).2=true/\c∈eF b.ct:=by
 have z:=a.c;have h:=a.row d;have o:(cj (b.aD.length+1) c b.bM 0).2=true:=by
  cases r:(cj (b.aD.length+1) c b.bM 0).2 with
  |true=>rfl
  |false=>exact absurd (a.fW.mem_iff.2 d) (zn h.len a.dy.fe a.dy.vd r)
 have p:=a.nK.mem_iff.2 d;have x:=a1C a.dy o;refine⟨⟨a.right,a.dy.del,?_,(a2C a9k a9k h a.go).1,?_,a.dU.filter _,a5F (a7X _ _) a.dE⟩,o,p⟩
 .exact a2P a.ra (a.fW.symm.trans x)
 .show(eF (js b.ct c)).Perm (b.rows.filter λy=>decide (y≠c));rw[a2N a9k a9k h a.go p];exact a.nK.filter _
def eM.none (a:eM e j7) (d:q.length=j7.aD.length+1) (b:q∉j7.rows):(cj (j7.aD.length+1) q j7.bM 0).2=false:=by
 cases c:(cj (j7.aD.length+1) q j7.bM 0).2 with
 |false=>rfl
 |true=>exact absurd (a.fW.mem_iff.1 ((vb c).mem_iff.2 a9l)) b
variable{e0:cm}
theorem zS (a:ev e0=true) (b:e0.kind=1):ev ⟨1,e0.table,e0.aD,[]⟩=true:=by unfold ev at a|-;simp_all
variable{B:List UInt8}
def Gs {a:List (List UInt8)} (b:ev ⟨1,B,a,[]⟩=true):eM e ⟨B,a,[],.nil,none⟩:=⟨b,lA.nil,.refl _,trivial,.refl _,.nil,a5o _⟩
variable{X:List aQ}
theorem add_eq (b:cN e X) (d:e<=1000) {a:List (List UInt8)} (h:ev ⟨1,B,a,[]⟩=true):
  kc (X.map aQ.bA) ⟨B,a,aA,aA⟩=if bX X B<X.length then .error 4 else if 7<X.length then .error 10 else .ok ((X.take (jt X B)++⟨B,a,[],.nil,none⟩::X.drop (jt X B)).map aQ.bA):=by
 have k:fQ ⟨B,a,aA,aA⟩=true:=(Gs h).bA a9k;unfold kc;rw[b.cat d,k,Bool.and_self,if_pos rfl]
 dsimp only
 rw[zN b,a4T];by_cases c:bX X B<X.length;simp_all
 .rw[if_neg (by simpa using c),if_neg c,a2F a9k];by_cases c2:7<X.length
  .grind
  .rw[if_neg a9k,if_neg c2,a5J,a5f,a8k,a7B];rfl
theorem zT (a:cN e X) (c:e<=1000):cL (X.map aQ.bA) B=if bX X B<X.length then .ok ((X.eraseIdx (bX X B)).map aQ.bA)else .error 3:=by
 unfold cL;rw[a.cat c,if_pos rfl,zN a];by_cases b:bX X B<X.length
 .rw[if_pos (decide_eq_true b),if_pos b,Gi a b,a6R,a5J,a8k,a7B]
 grind
theorem pc (a:cN e X) (b:e<=1000) (c:eM i j7) (d:i<=1000) (h:bX X j7.name<X.length):kd (X.map aQ.bA) j7.bA= .ok ((X.set (bX X j7.name) j7).map aQ.bA):=by unfold kd;rw[a.cat b,c.bA d,Bool.and_self,if_pos rfl];show(if gD (X.map aQ.bA) j7.name=true then _ else _)= _;rw[zN a,if_pos (decide_eq_true h)];grind[aQ.bA,set,da,Gi,List.map_set]
def cN.zU (c: ∀d∈X,eM e d) (h:cy (X.map aQ.bA)=true):cN e X:=by obtain⟨_,a,b⟩:=oJ.1 h;rw[a7e]at a;rw[a4T]at b;exact⟨c,a,b⟩
def cN.le {b c:Nat}{d:List aQ} (a:cN b d) (h:b<=c):cN c d:=⟨λk o=>(a.ok k o).le h,a.dU,a.dE⟩
theorem cN.set {b:Nat}{a:List aQ} (d:cN b a) (x:b<1000) {c:aQ} (h:eM (b+1) c) (k:bX a c.name<a.length):cN (b+1) (a.set (bX a c.name) c):=
 cN.zU (λo p=>by
  rcases a6Q p with r|rfl
  .exact(d.ok o r).le a9k
  .exact h) (G4 (pc d a9k h a9k k))
def vt (a:ev e0=true) (h:e0.kind≠1) (k:e0.kind≠2):(e0.kind=3\/e0.kind=4):=by
 have a:=a;simp only[ev,a4L]at a;have a:=a.2;have c: ∀d:UInt8,e0.kind.toNat=d.toNat->e0.kind=d:=λd b=>a5D.1 b;split at a
 .rename_i b;exact absurd (c 1 b) h
 split at a
 .rename_i b;exact absurd (c 2 b) k
 split at a
 .rename_i b;exact b.imp (c 3) (c 4)
 .cases a
theorem rh (d:cN e X) (y:e<900) (o:cI e0.row):cN (e+1) (dX X e0).2:=by
 have b:=d.le (show e<=e+1 by omega);unfold dX;by_cases p:ev e0=false
 .rw[if_pos p];exact b
 rw[if_neg p];have z:ev e0=true:=by simp_all
 by_cases c1:e0.kind=1
 .rw[if_pos c1];have r:=zS z c1;have h:=add_eq d a9k r;by_cases c2:bX X e0.table<X.length
  .rw[if_pos c2];exact b
  rw[if_neg c2]at h|-;by_cases aH:7<X.length
  .rw[if_pos aH];exact b
  rw[if_neg aH]at h|-;refine cN.zU (λc a=> ?_) (G7 h);simp only[a4X,a5g]at a;rcases a with a|rfl|a
  .exact b.ok c (a4V a)
  .exact Gs r
  .exact b.ok c (a5m a)
 rw[if_neg c1];by_cases c2:X.length<=bX X e0.table
 .rw[if_pos c2];exact b
 rw[if_neg c2];have k:bX X e0.table<X.length:=a9k;by_cases aH:e0.kind=2
 .rw[if_pos aH];have h:=zT (B:=e0.table) d a9k;rw[if_pos k]at h;exact cN.zU (λc a=>b.ok c (a7N a)) (G3 (d.cat a9k) h)
 rw[if_neg aH];have a:=d.ok _ (vs k);have C:=te k;generalize X.getD (bX X e0.table) default=c at*;by_cases aJ:e0.row.length≠c.aD.length+1
 .rw[if_pos aJ];exact b
 rw[if_neg aJ];have D:bL (c.aD.length+1) e0.row:=⟨a9k,o⟩;rw[<-C]at k|-;by_cases bm:e0.kind=4
 .rw[if_pos bm];by_cases bs:e0.row∈c.rows
  .rw[if_pos bs];exact d.set a9k ((a.del bs).1.le a9k) k
  .rw[if_neg bs];exact b
 .rw[if_neg bm];by_cases bs:c.rows.any (λx=>decide (bP x=bP e0.row))=true
  .rw[if_pos bs];exact b
  .rw[if_neg bs];refine d.set a9k (a.put y D λx o E=>bs ?_).1 k;simp_all
def kN (a:List Int):Nat:=(bP a+9223372036854775808).toNat
theorem zV (a:cI q): -9223372036854775808<=bP q/\bP q<9223372036854775808:=by
 unfold bP;rw[a5A];cases b:q[0]? with
 |none=>simp
 |some c=>exact a c (a4O b)
theorem zX (a:cI q):IntKind.u64.wrap (IntKind.u64.wrap (bP q)+9223372036854775808)=(kN q:Int)/\(kN q:Int)=bP q+9223372036854775808:=by grind[zV,kN,bP,Int.toNat_of_nonneg,kt]
theorem Gt (c d:Own) (a:List Int) (b:U) (k:oC a) (o:cI a):AC Tryz.prog 144 [fP.V c,.J (ad a) d] b λp r=>r=b/\p= .aL [ig 0 (kN a),.v (.bool true)]:=by
 obtain⟨x,y⟩:=zX o;obtain⟨C,D⟩:=k;have E:=bH (q:=a);have F:=mn (q:=a) a9k d;have z:fP.ok a.length=true:=by rw[r0];simp_all
 have h:=λb=>EY fP c a.length b a9k a9l;rw[z]at h;unfold bP at x;clear y;refine aM hm Nq ?_;refine bp λG L=> ?_;refine cX λP S T V=> ?_;refine bh (h _) ?_;rfl
theorem a2Q (r x y:Own) (a b:List Int) (c:U) (F:oC a) (l:b.length=a.length) (z:cI a) (C:cI b):AC Tryz.prog 76 [fP.V r,.J (ad a) x,.J (ad b) y] c λk o=>o=c/\k= .v (.bool (decide (bP a<bP b))):=by
 have T:oC b:=by unfold oC at*;omega
 have fW:=(zX z).2;have V:=(zX C).2;have G:=λc=>Gt r x a c F z;have L:=λc=>Gt r y b c T C;obtain⟨m,n⟩:=F;have q:=bH (q:=a);have s:=bH (q:=b);have W:=mn (q:=a) a9k x;have e:=mn (q:=b) a9k y;have P:a.getD 0 0=bP a:=rfl;have S:b.getD 0 0=bP b:=rfl;rw[P]at W;rw[S]at e;have t:kN a<kN b↔bP a<bP b:=a9k;have u:kN a=kN b↔bP a=bP b:=a9k;have cc:kN a<18446744073709551616/\kN b<18446744073709551616:=by have G:=zV z;have L:=zV C;omega
 clear P S fW V;generalize kN a=d at*;generalize kN b=h at*;generalize bP a=D at*;generalize bP b=f at*;have E: ∀p:Nat,p<18446744073709551616->dz [(2,c8.int IntKind.u64)] [R.v (Value.int IntKind.u64 0),R.v (Value.int IntKind.u64 (p))]:=λp v=>by
  simp[dz,c8.tr]
 have w:=E d cc.1;have A:=E h cc.2;clear E;have g:peq (R.agg [R.v (Value.int IntKind.u64 0),R.v (Value.int IntKind.u64 (d))]) (R.agg [R.v (Value.int IntKind.u64 0),R.v (Value.int IntKind.u64 (h))])=decide (d=h):=by grind[peq]
 refine aM hm Lr ?_;refine bp λB H=> ?_;refine bh (G _) ?_;refine cX λI K p M=> ?_;refine bh (L _) ?_;refine hp λN O ca Q X Y=> ?_;have i: ∀c,AC Tryz.prog 145 [ig 0 d,ig 0 h] c λk o=>o=c/\k= .v (.bool (decide (D<f))):=λc=>(a0u 0 d 0 h c).mono λk o j=>⟨j.1,by simp_all⟩;rw[g];refine aG (λD=> ?_) λD=> ?_
 .refine bh (i _) ?_;trivial
 .trivial
theorem a2R (c: ∀a<e,¬bP q<bP (Q.getD a [])) (b:e<=Q.length) (d:e<Q.length->bP q<bP (Q.getD e [])):hi q Q=Q.take e++q::Q.drop e:=by
 induction Q generalizing e with
 |nil=>simp at b;subst b;rfl
 |cons h Q ih=>
  cases e with
  |zero=>grind[bP,hi,List.takeWhile_cons,List.dropWhile_cons]
  |succ e=>have o: ¬bP q<bP h:=c 0 a9k;have:=ih (λa p=>c (a+1) a9k) (by simpa using b) (λk=>d (by simpa using k));simp_all [hi]
theorem a2S (d:List (List Int)) (m:List R) (w z:Own) (F:Nat) (C:U) (g:az isRow d m) (n: ∀G∈d,bL F G) (k1:1<=F) (k2:F<=8) (n1:d.length<=100000):
  AC Tryz.prog 44 [fP.V z,.J m w] C λG L=>C.sub L/\ ∃A k3,az isRow (rf d) A/\G= .J A k3:=by
 have n2:=g.len;have k4: ∀C,AC Tryz.prog 42 [fP.V z,.v (.int .i64 (F:Int))] C λG L=>L=C/\G= .v (.bool true):=λC=>by
  have:=EY fP z F C a9k a9l;rw[r0,decide_eq_true ⟨k1,k2⟩]at this;exact this
 have n3:(fP.V z).cells= [.v (.int .u8 0),.v (.int .i64 0),.J (ad []) z]:=rfl;refine aM hm KD ?_;refine bp λq k5=> ?_;have B: ∀S,(C.set q (.cells (fP.V z).cells)).sub S->S.read q=some [.v (.int .u8 0),.v (.int .i64 0),.J (ad []) z]:=λS k=>U.af (k _ _ (U.ah _ _ _));have k6:=U.ae (Y:= .cells (fP.V z).cells) (U.a1) k5;generalize C.set q _=H at*;refine gK [1,2,5] (λh:Nat=> [(6,.v (.int .i64 h))]) (λh=>h<=d.length) (λh=>d.length - h) 0 a9k aS ?_
 .rintro h I K;have k7:=B H U.a1;refine aa ?_;refine aG (λs=> ?_) λs=> ?_
  .have T:d[h]? =some (d.getD h []):=by simp_all
   have M:d[0]? =some (d.getD 0 []):=by grind
   obtain⟨_,k8,i,rfl⟩:=g.get T;obtain⟨_,k9,D,rfl⟩:=g.get M;have l0:=(n _ (a4O T)).len;have n4:=(n _ (a4O M)).len;have n5:=bH (q:=d.getD h []);have n9:=bH (q:=d.getD 0 []);generalize d.getD h []=r at*;generalize d.getD 0 []=b at*;refine aa ?_;have a00:cP 1 (.J m w) (.v (.int .i64 0))=some (.bV [.J (ad b) D]):=by show cP 1 _ (.v (.int .i64 ((0:Nat))))= _;rw[o3,k9];rfl
   refine bh (k4 _) ?_;exact⟨h+1,a9k,rfl,a9k⟩
  .refine ch [1,2] (λb:Nat×List R×Own=> [(7,.v (.int .i64 b.1)),(5,.J b.2.1 b.2.2)]) (λb L=>H.sub L/\b.1<=d.length/\ ∃c,(d.take b.1).foldl (λc r=>hi r c) []=c/\c.length=b.1/\(∀G∈c,bL F G)/\az isRow c b.2.1) (λb=>d.length - b.1) (0,[],.nil) ⟨⟨U.a1,a9k,[],rfl,rfl,a9l,trivial⟩,aS⟩ ?_;rintro⟨h,E,bD⟩ S ⟨j,I,c,V,l1,N,x⟩ K
   dsimp only at I V l1 x|-
   have a01:=x.len;refine aa ?_;refine aG (λs=> ?_) λs=> ?_
   .have T:d[h]? =some (d.getD h []):=by simp_all
    obtain⟨_,k8,i,rfl⟩:=g.get T;have O:=n _ (a4O T);have l0:=O.len;have l2:=O.jU;have Q:=eQ (a:=d) (b:= []) (e:=h) a9k;generalize d.getD h []=r at*;have el: ∀a,a<c.length-> ∃D,E[a]? =some (.J (ad (c.getD a [])) D):=λa W=>by
     obtain⟨_,o,D,rfl⟩:=x.get (i:=a) (x:=c.getD a []) (by simp_all);exact⟨D,o⟩
    have l3: ∀a,a<c.length->(c.getD a []).length=F:=λa W=>(N _ (by simp_all)).len;have l4: ∀a,a<c.length->cI (c.getD a []):=λa W=>(N _ (by simp_all)).jU;refine ch [1,2,5,7] (λb:Nat×List R×Own=> [(9,.v (.int .i64 b.1)),(8,.J b.2.1 b.2.2)]) (λb L=>b.1<=c.length/\(∀X<b.1,¬bP r<bP (c.getD X []))/\az isRow (c.take b.1) b.2.1/\bf S L 1 b.2.1 b.2.2) (λb=>c.length - b.1) (0,[],.nil) ⟨⟨a9k,λX k=>by simp at k,trivial,bf.nil U.a1⟩,aS⟩ ?_;rintro⟨a,l,on⟩ l5 ⟨W,Y,y,e⟩ K
    dsimp only at W Y y e|-
    have k7:=B l5 (U.au j e.sub);have a02:l.length=a:=by rw[y.len,a4K];omega
    have Z: ¬(a<c.length/\ ¬bP r<bP (c.getD a []))->hi r c=c.take a++r::c.drop a:=λk=>a2R Y W λl6=>Classical.not_not.1 λP=>k ⟨l6,P⟩;by_cases jS:(a)<(h:Int)
    .obtain⟨D,a03⟩:=el a a9k;have a04:=l3 a a9k;have l7:=l4 a a9k;have l8:=eQ (a:=c) (b:= []) (e:=a) a9k;generalize a05:c.getD a []=b at*;refine aa ?_;refine bh (a2Q z i D r b _ (by unfold oC;omega) a9k l2 l7) ?_;refine aG (λc2=> ?_) λc2=> ?_
     .refine jL (λj9 f=> ?_);refine ea (e.mono (U.ae U.a1 f)) (y.cells λ_ _=>isRow.cells) (λo p=>by rw[a5b]at p;subst p;rfl) a9m a9m λt k0 P=> ?_;refine aa ?_;refine⟨(a+1,l++ [.J (ad b) D],t),⟨by simp only;omega,?_,?_,P⟩,⟨rfl,rfl⟩,by simp only;omega⟩;grind
      .simp only[l8];exact y.snoc ⟨_,rfl⟩
     .have o:=Z a9k;refine jL (λj9 f=> ?_);refine ea (e.mono (U.ae U.a1 f)) (y.cells λ_ _=>isRow.cells) (λo p=>by rw[a5b]at p;subst p;rfl) a9m a9m λt k0 P=> ?_;have l9:dI 1 (.J E bD) (some (.v (.int .i64 (a)))) none=some (.J (E.drop a) .any):=p6 a9k (x.cells λ_ _=>isRow.cells);refine aa ?_;refine ea P (λo p=>by rcases a4X.1 p with k|k;exact y.cells (λ_ _=>isRow.cells) o k;rw[a5b]at k;subst k;rfl) ((x.drop a).cells λ_ _=>isRow.cells) a9m a9m λu n0 v=> ?_;refine aa ?_;refine⟨(h+1,l++ [.J (ad r) i]++E.drop a,u),⟨U.au j v.sub,by simp only;omega,_,rfl,?_,?_,?_⟩,⟨rfl,rfl⟩,by simp only;omega⟩;grind;grind
      .simp only[Q,a6G,V,a5N,a7O,o];rw[a7U];exact(y.snoc ⟨_,rfl⟩).append (x.drop a)
    .have o:=Z a9k;refine aa ?_;refine jL (λj9 f=> ?_);refine ea (e.mono (U.ae U.a1 f)) (y.cells λ_ _=>isRow.cells) (λo p=>by rw[a5b]at p;subst p;rfl) a9m a9m λt k0 P=> ?_;have l9:dI 1 (.J E bD) (some (.v (.int .i64 (a)))) none=some (.J (E.drop a) .any):=p6 a9k (x.cells λ_ _=>isRow.cells);refine aa ?_;refine ea P (λo p=>by rcases a4X.1 p with k|k;exact y.cells (λ_ _=>isRow.cells) o k;rw[a5b]at k;subst k;rfl) ((x.drop a).cells λ_ _=>isRow.cells) a9m a9m λu n0 v=> ?_;refine aa ?_;refine⟨(h+1,l++ [.J (ad r) i]++E.drop a,u),⟨U.au j v.sub,by simp only;omega,_,rfl,?_,?_,?_⟩,⟨rfl,rfl⟩,by simp only;omega⟩;grind;grind
     .simp only[Q,a6G,V,a5N,a7O,o];rw[a7U];exact(y.snoc ⟨_,rfl⟩).append (x.drop a)
   .obtain rfl:h=d.length:=a9k;rw[a5d]at V;refine⟨U.au k6 j,E,bD,by rw[rf,V];exact x,rfl⟩
def a2T {a:Nat->Bool}:(List.range (e+1)).all a=(a 0&&(List.range e).all λb=>a (b+1)):=by rw[a8J,List.all_cons,a9h];rfl
theorem Gu (b:List UInt8): ∀(c a:Nat),b.length<c+a->lr ⟨b.toArray⟩ c a=(List.range (b.length - a)).all λk=>nv (a+k) (b.getD (a+k) 0)
 |0,a,o=>by
  rw[show b.length - a=0 by omega];rfl
 |c+1,a,o=>by
  have p:(⟨b.toArray⟩:ByteArray).size=b.length:=rfl;rw[lr,p];by_cases d:a<b.length
  .rw[if_pos d];obtain⟨h,hm⟩: ∃h,b.length - a=h+1:=⟨b.length - a - 1,a9k⟩;rw[hm,a2T,a6H];have r:b.getD a 0=b[a]:=by simp[d]
   rw[r];by_cases cv:b[a].toNat<128
   .rw[EJ b a d cv]
    dsimp only
    rw[Gu b c (a+1) a9k,show b.length -(a+1)=h by omega];have x:fN a (b[a].toNat)=nv a b[a]:=by unfold fN nv;grind
    grind
   grind[decode_high,fN,Utf8.decode,decide_eq_false,nv]
  simp_all
theorem Gv (a:List UInt8):nw a=jX a:=by unfold nw jX;rw[Gu a (a.length+1) 0 a9k];grind
theorem a2U {a:List (List UInt8)} (b:e<a.length):lu a e=mj a e:=by unfold lu mj;rw[Gv];congr 2;rw[a7l];simp only[a4Z,a5Z,a6n,decide_eq_false_iff_not];grind[hm,List.getElem_of_mem,List.length_take,List.getD,List.mem_iff_getElem]
theorem a2V (a:List (List UInt8)):(List.range a.length).all (lu a)=(List.range a.length).all (mj a):=by rw[a7l];grind[List.all_eq_true,a2U]
theorem a2W (a:cm):oA a=ev a:=by
 unfold oA ev yj nu;rw[Gv,a2V];congr 1;by_cases b:a.kind.toNat=1
 .rw[if_pos b,if_pos b,Bool.and_assoc];grind
 rw[if_neg b,if_neg b];by_cases c:a.kind.toNat=2;simp_all;grind
def dY (c:Nat) (d h:U):Prop:= ∀a b,a≠c->d a=some b->h a=some b
variable{f t e4:U}
theorem dY.of {s:U} (a:s.sub f):dY e s f:=λb c _ d=>a b c d
theorem dY.trans (d:dY e f t) (h:dY e t e4):dY e f e4:=λa b c k=>h a b c (d a b c k)
theorem dY.set {a:Nat}{b c:U}{h:br} (k:dY a b c):dY a b (c.set a h):=λo p d r=>by rw[U.ao _ _ d];exact k o p d r
def fo (a:List R) (b:Nat) (d:R) (c:Nat):List R:=if c<=b then a.take c else(a.take b++d::a.drop b).take (c+1)
variable{n b3:R}{g A e1:List R}
def a2X (b:e<i) (a:g[e]? =some b3):fo g i n (e+1)=fo g i n e++ [b3]:=by unfold fo;rw[if_pos a9k,if_pos a9k];obtain⟨c,rfl⟩:=a4P.1 a;simp
theorem a2Y (a:g[e]? =some b3):fo g e n (e+1)=fo g e n e++ [n]++ [b3]:=by unfold fo;obtain⟨b,rfl⟩:=a4P.1 a;rw[if_neg a9k,if_pos a9k,a5e b];grind
theorem a2Z (b:e<i) (a:g[i]? =some b3):fo g e n (i+1)=fo g e n i++ [b3]:=by unfold fo;obtain⟨c,rfl⟩:=a4P.1 a;rw[if_neg a9k,if_neg a9k];have d:(g.take e++n::g.drop e).length=g.length+1:=a9m;rw[a5S (show i+1<(g.take e++n::g.drop e).length by omega)];congr 2;grind
def a3a (a:e<=g.length):(if e<g.length then fo g e n g.length else fo g e n g.length++ [n])=g.take e++n::g.drop e:=by
 split
 .unfold fo;rw[if_neg a9k,a4I a9m]
 .obtain rfl:e=g.length:=a9k;unfold fo;rw[if_pos a9k];simp
def a3b (a:az (gG f) X g) (h:n.cells.length=1):aT 1 (fo g e n i):=λc b=>by
 have d:=zO a;unfold fo at b;split at b
 .exact d c (a4V b)
 .have:=a4V b;rcases a4X.1 this with a|a
  .exact d c (a4V a)
  .rcases a5g.1 a with rfl|a
   .exact h
   .exact d c (a5m a)
theorem a3c:(fo g i n e).length<=e+1:=by unfold fo;grind
theorem a3d: ∀a<jt X B,c5 B (X.getD a default).name=false:=by
 unfold jt
 induction X with
 |nil=>intro a b;simp at b
 |cons d X ih=>
  intro a b;rw[a6b]at b;cases c:c5 B d.name with
  |true=>simp[c]at b
  |false=>
   simp only[c,a5C,if_true,a4M]at b;cases a with
   |zero=>trivial
   |succ a=>simp_all
def a3e:jt X B<=X.length:=(List.takeWhile_sublist _).length_le
theorem a3f (a:jt X B<X.length):c5 B (X.getD (jt X B) default).name=true:=by
 induction X with
 |nil=>simp at a
 |cons b X ih=>
  unfold jt at a|-;rw[a6b]at a|-;cases c:c5 B b.name with
  |true=>simp[c]
  |false=>simp_all [if_true,jt]
theorem a3g (a:List aQ) (b:List UInt8):(bX a b<a.length->pO a b=(bX a b:Int))/\(a.length<=bX a b->pO a b= -1):=by simp_all [pO,if_pos,if_neg]
def a3h (a:UInt8) (b:Int):iW BinOp.eql (al a) (R.v (Value.int IntKind.u8 b))=some (.v (.bool (decide ((a.toNat:Int)=b)))):=by simp only[al,rV];rfl
theorem a3i (a:g[e]? =some n) (b:e≠i):(g.take (e+1)).eraseIdx i=(g.take e).eraseIdx i++ [n]:=by obtain⟨c,rfl⟩:=a4P.1 a;grind[List.take_succ_eq_append_getElem,Nat.lt_or_ge,List.eraseIdx_append_of_lt_length,List.length_take,List.eraseIdx_of_length_le]
theorem a3j:(g.take (e+1)).eraseIdx e=(g.take e).eraseIdx e:=by grind[List.eraseIdx_eq_take_drop_succ,List.drop_eq_nil_of_le,List.length_take,Nat.min_eq_left,Nat.min_self]
variable{b0:Type}
def az.erase {b:b0->R->Prop}{c:List b0} (a:Nat) (d:az b c g):az b (c.eraseIdx a) (g.eraseIdx a):=by rw[a6R,a6R];exact(d.take a).append (d.drop (a+1))
variable{M e6 h5:Own}
def vu (a:f e=some (.cells [n])) (b:az (gG f) X g):fy (f.set e (.cells [.J g M])) e X:=
 ⟨g,M,U.ah _ _ _,b.mono λ_ _ c=>c.gF (gE.set a rfl)⟩
def Gw {a:List (List UInt8)} (b:f e=some (.cells [bb B,.J (bE a) M,.J [] .nil,.v (.pointer none),.v (.pointer none)])):gG f ⟨B,a,[],.nil,none⟩ (.ptr e 0):=⟨e,M,[],.nil,_,_,rfl,b,trivial,rfl,rfl⟩
theorem a3k (a:az (gG f) X g):bN t 1 (.J g M)=some (g.length,g):=by
 have p: ∀b∈g,b.cells= [b]:=λb d=>by
  obtain⟨h,k,rfl⟩:=a5t d;have r:=a.len;obtain⟨o,c,x,_,_,_,_,_,rfl,_⟩:=a.get (a4H (show h<X.length by omega));rw[a4H k]at c;rw[a4G c];rfl
 have y:flat g=g:=by
  unfold flat;clear a
  induction g with
  |nil=>rfl
  |cons o g ih=>simp_all
 simp_all [bN,if_pos,a4Z,decide_eq_true]
def ke (a:Nat) (p c:U) (r:List aQ):Prop:= ∃b d,az (gG b) r d/\(∃x,b a=some (.cells [x]))/\dY a p b/\dY a b c/\
 ((∃y,c a=some (.cells [.J d y]))\/ ∃h k z o,b h=none/\c a=some (.cells [.an h k z 1])/\c h=some (.cells o)/\k<=o.length/\ef 1 k o=d)
theorem ke.of {s:U}{ds:List aQ} (a:fy f e ds) (c:dY e s f):ke e s f ds:=by obtain⟨d,h,b,k⟩:=a;exact⟨f,d,k,⟨_,b⟩,c,λ_ _ _ a=>a,.inl ⟨h,b⟩⟩
theorem a3l (M:U) (w a68:Nat) (k:List aQ) (c:fy M w k) (a69:cN a68 k) (b49:a68<900) (x:cn) (a71:x.d.Fit) (X:cI x.d.row):
  AC Tryz.prog 21 [.ptr w 0,x.V] M λy n=>ke w M n (dX k x.d).2/\y= .v (.int .i64 (dX k x.d).1):=by
 have h:=(dX.eq_1 k x.d).symm;generalize dX k x.d=b12 at*;have Y:=λM=>ZB x a71 M;rw[a2W]at Y;have a73:=a69.dE;obtain⟨E,a14,a74,a81⟩:=c;have n4:=a81.len;have a83:x.V= .agg [al x.d.kind,bb x.d.table,.J (bE x.d.aD) x.gr,.J (ad x.d.row) x.dm]:=rfl;rw[a83]at Y|-;clear a83;obtain⟨b50,b51,b52,b53⟩:=a71;generalize a15:x.d.kind=V at*;generalize b54:x.d.table=G at*;generalize b55:x.d.aD=l1 at*;generalize b56:x.d.row=z at*;refine aM hm K5 ?_;refine bp λn5 a16=> ?_;have W:=U.ae (Y:= .cells [al V,bb G,.J (bE l1) x.gr,.J (ad z) x.dm]) (U.a1 (f:=M)) a16;have aH:=U.ah M n5 (.cells [al V,bb G,.J (bE l1) x.gr,.J (ad z) x.dm]);have b57:w≠n5:=by rintro rfl;rw[a74]at a16;cases a16
 generalize M.set n5 _=e at*;have F:=W _ _ a74;have S:az (gG e) k E:=a81.mono λ_ _ c=>c.sub W;have a84:=a2I e w k ⟨E,a14,F,S⟩ G a9k;have j:=U.af aH;have eI:=U.af F;obtain⟨a86,b13⟩:=a3g k G;have Z:fy e w k:=⟨E,a14,F,S⟩;cases cv:ev x.d with
 |false=>rw[cv]at Y;rw[if_pos cv]at h;refine bh (Y e) ?_;exact⟨_,U.a1,ke.of (by rw[<-h];exact Z) (dY.of W),by rw[<-h]⟩
 |true=>
  rw[cv]at Y;rw[if_neg (by rw[cv];simp)]at h;refine bh (Y e) ?_;generalize pO k G=b14 at*;refine bh a84 ?_;clear Y a84;refine aG (λa88=> ?_) λa88=> ?_
  .have n9:V=1:=a5D.1 (by grind);rw[if_pos n9]at h;refine aG (λq=> ?_) λq=> ?_
   .rw[if_pos a9k]at h;exact⟨_,U.a1,ke.of (by rw[<-h];exact Z) (dY.of W),by rw[<-h]⟩
   rw[if_neg a9k]at h;refine aG (λc2=> ?_) λc2=> ?_
   .rw[if_pos a9k]at h;exact⟨_,U.a1,ke.of (by rw[<-h];exact Z) (dY.of W),by rw[<-h]⟩
   rw[if_neg a9k]at h;have b58:=a3e (X:=k) (B:=G);have b15:=a3d (X:=k) (B:=G);have b16:=a3f (X:=k) (B:=G);generalize jt k G=d at*;refine dd U.a1 (by simp[aT]) λb59 b60 a89=> ?_;refine aa ?_;refine ea (g:= []) a89 (λ_ c=>by cases c) td (by rw[a4R,hz];omega) (by rw[a4R,hz];omega) λa18 a19 l2=> ?_;rw[a5a]at l2|-;have j:=U.af (l2.sub _ _ aH);refine aa ?_;refine aN λo N=> ?_;have j9:(a19.set o (.cells (R.agg [bb G,.J (bE l1) a18,.J [] .nil,.v (.pointer none),.v (.pointer none)]).cells)) o=some (.cells [bb G,.J (bE l1) a18,.J [] .nil,.v (.pointer none),.v (.pointer none)]):=U.ah _ _ _;have k0:=U.au l2.sub (U.ae (Y:= .cells (R.agg [bb G,.J (bE l1) a18,.J [] .nil,.v (.pointer none),.v (.pointer none)]).cells) (U.a1 (f:=a19)) N);have b61:w≠o:=by rintro rfl;rw[l2.sub _ _ F]at N;cases N
   refine aa ?_;have a90:fo E d (.ptr o 0) 0= []:=by unfold fo;rw[if_pos (a5o _)];rfl
   have b17:decide (d<0)=false:=a9l;generalize a19.set o _=b18 at*;clear a89 l2 N j;refine ch [0,3,8] (λp:Nat×Own=> [(6,.J (fo E d (.ptr o 0) p.1) p.2),(7,.v (.bool (decide (d<p.1)))),(9,.v (.int .i64 (p.1:Int)))]) (λp n=>p.1<=k.length/\bf b18 n 1 (fo E d (.ptr o 0) p.1) p.2) (λp=>k.length - p.1) (0,.nil) ⟨⟨a5o _,by rw[a90];exact bf.nil U.a1⟩,aS⟩ ?_;rintro⟨a,bD⟩ l3 ⟨l4,r⟩ a92
   dsimp only at l4 r|-
   have a94:=a3c (g:=E) (i:=d) (e:=a) (n:= .ptr o 0);have k1:=a3b (e:=d) (i:=a) (n:= .ptr o 0) S rfl;have eI:=U.af (r.sub _ _ (k0 _ _ F));have b62:=U.af (r.sub _ _ j9);clear a90 b17;refine aa ?_;refine aG (λaH=> ?_) λaH=> ?_
   .have k6:a<k.length:=a9k;have k2:k[a]? =some (k.getD a default):=by simp[List.getD,k6]
    obtain⟨_,k7,a27,l,a95,a96,a00,a01,rfl,s,_,_,_⟩:=S.get k2;have A:=U.af (r.sub _ _ (k0 _ _ s));have a97:=(vf G (k.getD a default).name).1;rcases a8o a d with B|B|B
    .have a29:=b15 a B;have P:=a2X (n:= .ptr o 0) B k7;have b19: ¬d<a:=a9k;have l5: ¬d<a+1:=a9k;generalize fo E d (.ptr o 0) a=a02 at*;rw[a29]at a97;refine aa ?_;refine hP r k1 λ_ T L C _=> ?_;exact⟨(a+1,T),⟨by simp only;omega,by simp only[P];exact C⟩,⟨by simp only[P],by simp[l5],rfl⟩,by simp only;omega⟩
    .subst B;have a29:=b16 k6;have P:=a2Y (n:= .ptr o 0) k7;have b19: ¬a<a:=a9k;generalize fo E a (.ptr o 0) a=a02 at*;rw[a29]at a97;have l5:a<a+1:=a9k;refine aa ?_;refine hP r k1 λ_ T L C _=> ?_;have eI:=U.af (C.sub _ _ (k0 _ _ F));refine aa ?_;refine hP C (λD a30=>by rcases a4X.1 a30 with c|c;exact k1 D c;rw[a5b]at c;subst c;rfl) λ_ T g C _=> ?_;exact⟨(a+1,T),⟨by simp only;omega,by simp only[P];exact C⟩,⟨by simp only[P],by simp[l5],rfl⟩,by simp only;omega⟩
    .have P:=a2Z (n:= .ptr o 0) B k7;have l5:d<a+1:=a9k;generalize fo E d (.ptr o 0) a=a02 at*;refine aa ?_;refine hP r k1 λ_ T L C _=> ?_;exact⟨(a+1,T),⟨by simp only;omega,by simp only[P];exact C⟩,⟨by simp only[P],by simp[l5],rfl⟩,by simp only;omega⟩
   .obtain rfl:a=k.length:=a9k;have a34:=a3a (g:=E) (e:=d) (n:= .ptr o 0) a9k;rw[n4]at a34;have a98:=U.aI (r.sub _ _ (k0 _ _ F));by_cases B:d<k.length
    .rw[if_pos B]at a34;refine aa ?_;have f:=U.au k0 r.sub;refine⟨_,U.a1,ke.of ?_ (dY.of (U.au W f)).set,by rw[<-h]⟩;rw[<-h];exact vu (f _ _ F) (((S.mono λ_ _ c=>c.sub f).take d).append ⟨Gw (r.sub _ _ j9),(S.mono λ_ _ c=>c.sub f).drop d⟩)
    .rw[if_neg B]at a34;refine aa ?_;refine hP r k1 λ_ T L C _=> ?_;have a98:=U.aI (C.sub _ _ (k0 _ _ F));refine aa ?_;have f:=U.au k0 C.sub;refine⟨_,U.a1,ke.of ?_ (dY.of (U.au W f)).set,by rw[<-h]⟩;rw[<-h];exact vu (f _ _ F) (((S.mono λ_ _ c=>c.sub f).take d).append ⟨Gw (C.sub _ _ j9),(S.mono λ_ _ c=>c.sub f).drop d⟩)
  .have n9: ¬V=1:=λD=>a88 (by rw[D];rfl);rw[if_neg n9]at h;refine aG (λq=> ?_) λq=> ?_
   .have b20:k.length<=bX k G:=by omega
    rw[if_pos b20]at h;exact⟨_,U.a1,ke.of (by rw[<-h];exact Z) (dY.of W),by rw[<-h]⟩
   have k6:bX k G<k.length:=by omega
   obtain rfl:=a86 k6;rw[if_neg a9k]at h;clear a86 b13 q;have b21:=vs k6;generalize bX k G=d at*;refine aG (λa99=> ?_) λa99=> ?_
   .have a03:V=2:=a5D.1 (by grind);rw[if_pos a03]at h;have b22:([]:List R).eraseIdx d= []:=List.eraseIdx_nil;refine ch [0,3,5] (λp:Nat×Own=> [(10,.J ((E.take p.1).eraseIdx d) p.2),(11,.v (.int .i64 (p.1:Int)))]) (λp n=>p.1<=k.length/\bf e n 1 ((E.take p.1).eraseIdx d) p.2) (λp=>k.length - p.1) (0,.nil) ⟨⟨a5o _,by grind[bf.nil,U.a1]⟩,aS⟩ ?_;clear b22;rintro⟨a,bD⟩ l3 ⟨l4,r⟩ a92
    dsimp only at l4 r|-
    have a94:((E.take a).eraseIdx d).length<=a:=a5F (List.length_eraseIdx_le _ _) (by rw[a4K];omega);have k1:aT 1 ((E.take a).eraseIdx d):=λD a30=>zO S D (a4V (a7N a30));have eI:=U.af (r.sub _ _ F);refine aa ?_;refine aG (λaH=> ?_) λaH=> ?_
    .have b23:a<k.length:=a9k;have k2:k[a]? =some (k.getD a default):=by simp[List.getD,b23]
     obtain⟨_,k7,a27,l,a95,a96,a00,a01,rfl,s,_,_,_⟩:=S.get k2;by_cases jS:a=d
     .subst jS;have P:=a3j (g:=E) (e:=a);generalize (E.take a).eraseIdx a=a02 at*;refine aa ?_;exact⟨(a+1,bD),⟨by simp only;omega,by simp only[P];exact r⟩,⟨by simp only[P],rfl⟩,by simp only;omega⟩
     .have P:=a3i (i:=d) k7 jS;generalize (E.take a).eraseIdx d=a02 at*;have b63: ¬(a:Int)=(d:Int):=a9k;refine aa ?_;refine hP r k1 λ_ T L C _=> ?_;exact⟨(a+1,T),⟨by simp only;omega,by simp only[P];exact C⟩,⟨by simp only[P],rfl⟩,by simp only;omega⟩
    .obtain rfl:a=k.length:=a9k;rw[<-n4,a5d]at r|-;have a98:=U.aI (r.sub _ _ F);refine aa ?_;have f:=r.sub;refine⟨_,U.a1,ke.of ?_ (dY.of (U.au W f)).set,by rw[<-h]⟩;rw[<-h];exact vu (f _ _ F) ((S.mono λ_ _ c=>c.sub f).erase d)
   .have a03: ¬V=2:=λD=>a99 (by rw[D];rfl);rw[if_neg a03]at h;have b24:k[d]? =some (k.getD d default):=by simp[List.getD,k6]
    have t:=a69.ok _ b21;obtain⟨_,k7,a27,l,a95,a96,a00,a01,rfl,s,b00,a36,a38⟩:=S.get b24;have A:=U.af s;have b64:=a36.cells;have eN:=a38.cells;have b65:=t.c;have b25:=λy c=>t.row (q:=y) c;have b66:=t.dE;have b67:=b00.len;generalize b68:k.getD d default=b at*;have b69:=hz (a:=b.aD);have b70:=bH (q:=z);refine aa ?_;refine aG (λq=> ?_) λq=> ?_
    .rw[if_pos a9k]at h;exact⟨_,U.a1,ke.of (by rw[<-h];exact Z) (dY.of W),by rw[<-h]⟩
    rw[if_neg a9k]at h;have l6:z.length=b.aD.length+1:=a9k;have fD:=mn (q:=z) a9k x.dm;rw[show z.getD 0 0=bP z from rfl]at fD;have b26:decide (z∈([]:List (List Int)))=false:=a9l;refine ch [0,3,5,12] (λp:Nat×List R×Own=> [(13,.J p.2.1 p.2.2),(14,.v (.bool (decide (z∈b.rows.take p.1)))),(15,.v (.int .i64 (p.1:Int)))]) (λp n=>p.1<=b.rows.length/\bf e n 1 p.2.1 p.2.2/\az isRow ((b.rows.take p.1).filter λy=>decide (y≠z)) p.2.1/\(V=3-> ∀y∈b.rows.take p.1,bP y≠bP z)) (λp=>b.rows.length - p.1) (0,[],.nil) ⟨⟨a5o _,bf.nil U.a1,trivial,λ_ y c=>by cases c⟩,aS⟩ ?_;clear b26;rintro⟨a,O,bD⟩ l3 ⟨l4,r,i,a04⟩ a92
    dsimp only at l4 r i a04|-
    have A:=U.af (r.sub _ _ s);have j:=U.af (r.sub _ _ aH);have a94:O.length<=a:=by rw[i.len];grind
    refine aa ?_;refine aG (λbm=> ?_) λbm=> ?_
    .have b01:a<b.rows.length:=a9k;have k2:b.rows[a]? =some (b.rows.getD a []):=by simp[List.getD,b01]
     obtain⟨_,P,a05,rfl⟩:=b00.get k2;have b71:=(b25 _ (a4O k2)).len;have l7:=eQ (a:=b.rows) (b:= []) (e:=a) b01;have b27:b.rows.getD a []∈b.rows:=a4O k2;generalize b.rows.getD a []=y at*;have b28:=mn (q:=y) a9k a05;rw[show y.getD 0 0=bP y from rfl]at b28;refine aa ?_;refine aG (λbs=> ?_) λbs=> ?_
     .refine aG (λb02=> ?_) λb02=> ?_
      .have l8:V=3:=a5D.1 (by grind);rw[if_neg (by rw[l8];decide),if_pos (a7y.2 ⟨y,b27,decide_eq_true bs⟩)]at h;exact⟨_,U.a1,ke.of (by rw[<-h];exact Z.sub r.sub) (dY.of (U.au W r.sub)),by rw[<-h]⟩
      have b72: ¬V=3:=λD=>b02 (by rw[D];rfl);refine bh (nr y z a05 x.dm _ a9k) ?_;refine aG (λc6=> ?_) λa06=> ?_
      .subst c6;exact⟨(a+1,O,bD),⟨by simp only;omega,r,by simp_all,λc=>absurd c id⟩,⟨rfl,by simp[l7],rfl⟩,by simp only;omega⟩
      refine hP r (i.cells λ_ _=>isRow.cells) λ_ T L C _=> ?_;refine⟨(a+1,O++ [.J (ad y) a05],T),⟨by simp only;omega,C,by simp only[l7,a7M];rw[a7V,if_pos (by simpa using a06),a8G];exact i.snoc ⟨_,rfl⟩,λl8 b03 a42=> ?_⟩,⟨rfl,by grind,rfl⟩,by simp only;omega⟩;exact False.elim l8
     .have a06:y≠z:=λD=>bs (by rw[D]);refine hP r (i.cells λ_ _=>isRow.cells) λ_ T L C _=> ?_;refine⟨(a+1,O++ [.J (ad y) a05],T),⟨by simp only;omega,C,by simp only[l7,a7M];rw[a7V,if_pos (by simpa using a06),a8G];exact i.snoc ⟨_,rfl⟩,λl8 b03 a42=> ?_⟩,⟨rfl,by simp only[l7,a4X,a5b];congr 2;exact decide_eq_decide.2 ⟨.inl,λc=>c.resolve_right λD=>a06 D.symm⟩,rfl⟩,by simp only;omega⟩;rw[l7]at a42;rcases a4X.1 a42 with c|c
      .exact a04 l8 b03 c
      .obtain rfl:=a5b.1 c;exact bs
    .obtain rfl:a=b.rows.length:=a9k;rw[a5d]at i a04|-;refine aN λo N=> ?_;have u:=U.bF r.sub N;have j9:(l3.set o (.cells (R.agg [bb b.name,.J (bE b.aD) l,.J [] .nil,.v (.pointer none),.v (.pointer none)]).cells)) o=some (.cells [bb b.name,.J (bE b.aD) l,.J [] .nil,.v (.pointer none),.v (.pointer none)]):=U.ah _ _ _;have a43:=U.ae (Y:= .cells (R.agg [bb b.name,.J (bE b.aD) l,.J [] .nil,.v (.pointer none),.v (.pointer none)]).cells) (U.a1 (f:=l3)) N;have b73:n5≠o:=by rintro rfl;rw[aH]at u;cases u
     have b74:a27≠o:=by rintro rfl;rw[s]at u;cases u
     have b75:w≠o:=by rintro rfl;rw[F]at u;cases u
     refine aa ?_;have k8:=U.au r.sub a43;have b29:=a43;generalize l3.set o _=b04 at*;clear N a43;have A:=U.af (k8 _ _ s);have j:=U.af (k8 _ _ aH);have b76:=a3h V 4;refine aa ?_;refine o6 [0,3,5,12,16] (λ_:Unit=> []) (λ_ n=> ∃a07,b12=(0,k.set d a07)/\a07.name=b.name/\gG n a07 (.ptr o 0)/\e.sub n) (λq=> ?_) (λq=> ?_) ?_
     .have a08:V=4:=a5D.1 (by have c:=of_decide_eq_true q;have:(4:UInt8).toNat=4:=rfl;omega);rw[if_pos a08]at h;have aE:=U.aI j9;refine aa ?_;refine aG (λc6=> ?_) λc6=> ?_
      .rw[if_neg c6]at h;exact⟨_,U.a1,ke.of (by rw[<-h];exact Z.sub k8) (dY.of (U.au W k8)),by rw[<-h]⟩
      .have b30:=c6;rw[if_pos b30]at h;clear c6;generalize k3:b04.set o _=L;have a47:L o=some (.cells [bb b.name,.J (bE b.aD) l,.J O bD,.v (.pointer none),.v (.pointer none)]):=by subst k3;exact U.ah _ _ _
       have H:e.sub L:=by subst k3;exact U.ae k8 u
       clear k3 aE j9;refine ai (ZU (b.aD.length+1) a9k a9k z x.dm l6 b.bM a00 L (a36.mono H) t.dy.fe.ok (by have:=t.dy.cp;omega)) ?_;rintro _ a09 ⟨m,k4,rfl,k5⟩;have l9:=m _ _ a47;have aE:=U.aI l9;have b31:=k5.cells;have A:=U.af (m _ _ (H _ _ s));have j:=U.af (m _ _ (H _ _ aH));refine aa ?_;generalize I:a09.set o _=g;have a48:g o=some (.cells [bb b.name,.J (bE b.aD) l,.J O bD,k4,.v (.pointer none)]):=by subst I;exact U.ah _ _ _
       have n0:e.sub g:=by subst I;exact U.ae (U.au H m) u
       have a52:dM g (lx (b.aD.length+1) z b.bM).1 k4:=by subst I;exact k5.gF (n:=5) a9o (gE.set l9 rfl)
       clear I aE A j;refine ai (a2D (e:=b.aD.length+1) a9k a9k z x.dm ⟨l6,X⟩ b.ct a01 g (a38.fC (U.o4 n0)) t.go) ?_;rintro _ k9 ⟨K,a56,b32,rfl,n1⟩;have v:=K _ _ a48;have aE:=U.aI v;have b33:=n1.cells;refine aa ?_;exact⟨(),b.del z,h.symm,rfl,⟨o,l,O,bD,k4,a56,rfl,U.ah _ _ _,i,(a52.mono K).gF (n:=5) a9o (gE.set v rfl),n1.gF (n:=5) a9o (gE.set v rfl)⟩,U.au n0 K⟩
     .have a08: ¬V=4:=λD=>(of_decide_eq_false q) (by rw[D];rfl);rw[if_neg a08]at h;have b34:V=3:=by have:=vt cv (by rw[a15];exact n9) (by rw[a15];exact a03);rw[a15]at this;exact this.resolve_right a08
      have b05:=a04 b34;rw[if_neg (λc=>by
       obtain⟨y,X,D⟩:=a7y.1 c;exact b05 y X (of_decide_eq_true D))]at h
      have b35:b.rows.filter (λy=>decide (y≠z))=b.rows:=a8e.2 λy X=>decide_eq_true λD=>b05 y X (by rw[D]);rw[b35]at i;have b77:=i.len;refine aa ?_;refine dd U.a1 (by simp[aT]) λT L C=> ?_;have j:=U.af (C.sub _ _ (k8 _ _ aH));refine aa ?_;refine ea (g:= []) C (λ_ c=>by cases c) (by simp[aT,ad,R.cells]) (by simp[bH];omega) (by simp[bH];omega) λb06 a09 m=> ?_;rw[a5a];refine aa ?_;refine dd U.a1 (by simp[aT,R.cells]) λb78 g a73=> ?_;refine aa ?_;have b07:b04.sub g:=U.au m.sub a73.sub;refine qw (r.mono (U.au b29 b07)) (i.cells λ_ _=>isRow.cells) (by simp[aT,R.cells]) a9m a9m λb36 k9 K b37=> ?_;have v:=b37 _ _ (b07 _ _ j9);have b38:az isRow (b.rows++ [z]) (O++ [.J (ad z) b06]):=i.snoc ⟨b06,rfl⟩;have b39: ∀y∈b.rows++ [z],bL (b.aD.length+1) y:=λy c=>by
       rcases a4X.1 c with c|c
       .exact t.row c
       .obtain rfl:=a5b.1 c;exact⟨l6,X⟩
      refine aa ?_;refine ai (a2S (b.rows++ [z]) _ b36 .nil (b.aD.length+1) k9 b38 b39 a9k a9k a9m) ?_;rintro _ a57 ⟨b08,a61,a62,b40,rfl⟩;have b09:=b08 _ _ v;have aE:=U.aI b09;have a63:e.sub a57:=U.au K.sub b08;have A:=U.af (a63 _ _ s);have j:=U.af (a63 _ _ aH);refine aa ?_;generalize k3:a57.set o _=L;have a47:L o=some (.cells [bb b.name,.J (bE b.aD) l,.J a61 a62,.v (.pointer none),.v (.pointer none)]):=by subst k3;exact U.ah _ _ _
      have H:e.sub L:=by subst k3;exact U.ae a63 u
      clear k3 aE A j v b09;refine ai (yw (b.aD.length+1) a9k a9k z x.dm l6 b.bM a00 0 L L (a36.mono H) U.a1 t.dy.fe.ok (by have:=t.dy.cp;omega)) ?_;rintro _ a09 ⟨m,k4,rfl,k5⟩;have k5:=k5.mono qT;have l9:=m _ _ a47;have aE:=U.aI l9;have b31:=k5.cells;have A:=U.af (m _ _ (H _ _ s));have j:=U.af (m _ _ (H _ _ aH));refine aa ?_;generalize I:a09.set o _=g;have a48:g o=some (.cells [bb b.name,.J (bE b.aD) l,.J a61 a62,k4,.v (.pointer none)]):=by subst I;exact U.ah _ _ _
      have n0:e.sub g:=by subst I;exact U.ae (U.au H m) u
      have a52:dM g (cZ (b.aD.length+1) z b.bM 0).1 k4:=by subst I;exact k5.gF (n:=5) a9o (gE.set l9 rfl)
      clear I aE A j;refine ai (Zj (e:=b.aD.length+1) a9k a9k z x.dm ⟨l6,X⟩ b.ct a01 g (a38.fC (U.o4 n0)) t.go) ?_;rintro _ k9 ⟨K,a56,b32,rfl,n1⟩;have v:=K _ _ a48;have aE:=U.aI v;have b33:=n1.cells;refine aa ?_;exact⟨(),b.put z,h.symm,rfl,⟨o,l,a61,a62,k4,a56,rfl,U.ah _ _ _,b40,(a52.mono K).gF (n:=5) a9o (gE.set v rfl),n1.gF (n:=5) a9o (gE.set v rfl)⟩,U.au n0 K⟩
     .rintro _ k9 ⟨a07,b79,b80,b41,l0⟩ b81;have eI:=U.af (l0 _ _ F);refine aa ?_;rw[o0];refine aa ?_;have b42:=a3k (t:=k9) (M:=a14) S;refine ff (ar.zero U.a1) a9k b42 a9k a9m a9m λb14 a57 a10=> ?_;rw[a5a]at a10;obtain⟨Q,n2,n3,a11,rfl,a13,b43,b44,b10,hm,b82,_⟩:=a10.an (λD=>by rw[D]at n4;simp at n4;omega);rw[a5y]at b44 b10 hm;have b83:cP 1 (.an Q n2 n3 1) (.v (.int .i64 (d:Int)))=some (.ptr Q d):=by have:=jH (e:=1) (i:=Q) (v:=n2) (O:=n3) (e2:= .i64) (b1:=(d:Int)) a9k a9k;simpa using this
      have b84:=U.aI b43;have b45:=a10.1 _ _ (l0 _ _ F);have b46:w≠Q:=by rintro rfl;rw[l0 _ _ F]at a13;cases a13
      have b85:=U.aI b45;have b86:(R.an Q n2 n3 1).cells= [.an Q n2 n3 1]:=rfl;have b87:d+1<=a11.length:=a9k;refine aa ?_;have b11:putAt a11 d [R.ptr o 0]=a11.set d (.ptr o 0):=by rw[a5Y,if_pos a9k];unfold putAt;rw[a4U];rfl
      refine⟨_,U.a1,k9,E.set d (.ptr o 0),az.set d (S.mono λ_ _ c=>c.sub l0) b41,⟨_,l0 _ _ F⟩,dY.of (U.au W l0),λb47 b88 b48 a65=> ?_,.inr ⟨Q,n2,n3,putAt a11 d [.ptr o 0],a13,U.ah _ _ _,?_,?_,?_⟩⟩
      .have:b47≠Q:=by rintro rfl;rw[a13]at a65;cases a65
       rw[U.ao _ _ b48,U.ao _ _ this];exact a10.1 _ _ a65
      .rw[U.ao _ _ b46.symm,U.ah]
      .rw[b11,a7H];omega
      .rw[b11,ku,List.take_set,b10]
def Gx (p:U) (a r:Nat) (d:List aQ) (b:fy p a d) (j:cN r d) (l:r<900) (c:cn) (m:c.d.Fit) (n:cI c.d.row):
  AC Tryz.prog 21 [.ptr a 0,c.V] p λP h=>fy h a (dX d c.d).2/\dY a p h/\P= .v (.int .i64 (dX d c.d).1):=
 (a3l p a r d b j l c m n).view λP h b=>by
  obtain⟨⟨x,S,T,⟨v,V⟩,W,y,z⟩,rfl⟩:=b;have e: ∀C,dY a x C->gE 1 x C:=λC D k E o q=>D k _ (by rintro rfl;rw[V]at o;obtain rfl:=br.cells.inj (a4G o);exact q rfl) o;rcases z with ⟨F,z⟩|⟨k,s,w,E,G,t,o,hm,D⟩
  .exact⟨_,h,View.refl,⟨S,F,z,T.mono λ_ _ b=>b.gF (e _ y)⟩,W.trans y,rfl⟩
  .have u:a≠k:=by rintro rfl;rw[V]at G;cases G
   have f:dY a x ((h.set k (.ro E)).set a (.cells ([]++ .J (ef 1 s E) .any:: []))):=λg F i L=>by
    have:g≠k:=by rintro rfl;rw[G]at L;cases L
    rw[U.ao _ _ i,U.ao _ _ this];exact y g F i L
   exact⟨_,_,View.obj (A:= []) t o a9k u,⟨S,.any,by rw[U.ah,D];rfl,T.mono λ_ _ b=>b.gF (e _ f)⟩,W.trans f,rfl⟩
variable{a8:aC}{w j3:ay}
def jk.le (d:e<=8) (b:jk e a8 w) (c:a8.size<=1048576):w.ht/\w.sum.length=32/\w.cC:=by have a:=b.kG c;have h:=a.ob;have k:=a.oc;have o:=a.od;exact⟨⟨a9k,a9k,a9k,a.nh,a.live,a.ni,a.size⟩,b.sum,⟨a9k,a9k,a9k⟩⟩
theorem zY {s:Nat} (e:1<=s) (r:s<=8): ∀(i:aC) (x:R) (c:U),dM c i x->i.c9 s->i.size<=1048576->AC Tryz.prog 60 [x] c λd t=>c.sub t/\ ∃y h z,d= .agg (ab (bo i) y h z)
 | .nil,x,c,u,_,_=>by
  obtain rfl:x= .v (.pointer none):=u;have eN:=ik aA .nil .nil .nil bj;have v:putAt (ab aA .nil .nil .nil) 0 (ab aA .nil .nil .nil)=ab aA .nil .nil .nil:=cD bj bj;refine aM hm Bf ?_;refine bp λk C=> ?_;rw[cq];exact⟨.nil,.nil,.nil,by rw[(aW bj).t37];rfl⟩
 | .node d o a b,x,c,u,D,K=>by
  obtain⟨M,k6,k7,k8,rfl,p,j,l⟩:=u;have k9:=K;simp only[aC.size]at k9;have l0:=zY e r a k7;have l1:=zY e r b k8;have w:=(fc e r D.a a9k).le r a9k;have cc:=(fc e r D.b a9k).le r a9k;have N:=fc e r D K;have n4:=N.size;have n5:=j.cells;have eN:=l.cells;have m:=U.af p;have l2: ∀E:U,c.sub E->AC Tryz.prog 114 [.ptr M 0] E λl3 t=>E.sub t/\ ∃F G f g,l3=gN (cr (d,o) (bo a) (bo b)) (.J F f) (.J G g)/\az df [(d,o)] F/\az bu [bo a,bo b] G:=by
   intro E A;have p:=A _ _ p;have j:=j.mono A;have l:=l.mono A;have m:=U.af p;refine aM hm MB ?_;refine bp λk C=> ?_;have n9:M≠k:=by rintro rfl;rw[p]at C;cases C
   have L:=U.ae (Y:= .cells [.v (.int .u8 0),.J [] .nil,.J [] .nil]) (U.a1) C;have l4:=U.ah E k (.cells [.v (.int .u8 0),.J [] .nil,.J [] .nil]);generalize E.set k _=l5 at*;have m:=U.af (L _ _ p);refine aa ?_;refine(rP (dd U.a1 (by simp[aT,R.cells]) λ_ _ _=>trivial)).mpr ?_;refine aa ?_;refine ai (l0 l5 (j.mono L) D.a a9k) ?_;rintro _ O ⟨P,S,T,V,rfl⟩;have n:=U.au L P;have m:=U.af (n _ _ p);have l6:=(ik (bo a) S T V w.2.1).1;refine aa ?_;refine(rP (dd U.a1 (by simp[aT,R.cells]) λ_ _ _=>trivial)).mpr ?_;refine aa ?_;refine ai (l1 O (l.mono n) D.b a9k) ?_;rintro _ a00 ⟨Q,cd,ca,dg,rfl⟩;have X:=U.au n Q;have l7:=(ik (bo b) cd ca dg cc.2.1).1;have m:=U.af (X _ _ p);refine aa ?_;have Y:aT 37 [R.agg (ab (bo a) S T V),.agg (ab (bo b) cd ca dg)]:=λq Z=>by
    simp only[a5g,a6h,or_false]at Z;rcases Z with rfl|rfl
    .exact l6
    .exact l7
   refine(rP (dd U.a1 Y λ_ _ _=>trivial)).mpr ?_;refine aa ?_;refine dd U.a1 (by simp[aT,R.cells]) λh j9 W=> ?_;refine aa ?_;refine dd U.a1 Y λl8 a01 k0=> ?_;have a02:=U.aI (k0.sub _ _ (W.sub _ _ (Q _ _ (P _ _ l4))));refine aa ?_;exact⟨U.au X (U.au W.sub k0.sub),_,_,h,l8,rfl,⟨⟨k6,rfl⟩,trivial⟩,⟨w.2.1,w.2.2,S,T,V,rfl⟩,⟨cc.2.1,cc.2.2,cd,ca,dg,rfl⟩,trivial⟩
  have k1:=λF G f g c B H=>Gn (cr (d,o) (bo a) (bo b)) F G f g c B H (by simp[cr]) (by simp[cr]) (λx l9=>by
   obtain rfl:x=(d,o):=by simpa[cr] using l9
   have:=D.r.len;dsimp only;omega) (λk2 n0=>by
   have:k2=bo a\/k2=bo b:=by simpa[cr] using n0
   grind) (by show(bo (.node d o a b)).size<= _;omega) (λq=>by cases q) (λq=>by cases q)
  have n1:eS (cr (d,o) (bo a) (bo b))=bo (.node d o a b):=rfl;rw[n1]at k1;have k3:=N.sum;generalize bo (.node d o a b)=I at*;have k4:=λy h z=>ik I y h z k3;have v: ∀y h z,putAt (ab aA .nil .nil .nil) 0 (ab I y h z)=ab I y h z:=λy h z=>cD bj k3;have a03:=ik aA .nil .nil .nil bj;refine aM hm Bf ?_;refine bp λk C=> ?_;rw[cq];have L:=U.ae (Y:= .cells (ab aA .nil .nil .nil)) (U.a1) C;refine ai (l2 _ L) ?_;rintro _ j9 ⟨W,F,G,f,g,rfl,B,H⟩;refine aa ?_;refine ai (k1 F G f g j9 B H) ?_;rintro _ O ⟨P,S,T,V,rfl⟩;have a04:=U.aI (P _ _ (W _ _ (U.ah c k (.cells (ab aA .nil .nil .nil)))));refine aa ?_;have n:=U.au L (U.au W P);have aH:=P _ _ (W _ _ (U.ah c k (.cells (ab aA .nil .nil .nil))));refine aN λn2 k5=> ?_;have n3:k≠n2:=by rintro rfl;rw[aH]at k5;cases k5
  have a05:=n3.symm;have v:=v S T V;have k4:=k4 S T V;refine aa ?_;grind
theorem a3m (Q:e<=8) (c:a6.T 0) (D:R) (d:U) (l:bw d 0 c D) (m:eX e 0 c):
  AC Tryz.prog 115 [D] d λx h=>d.sub h/\ ∃E F y n,x=gN (dw 0 c) (.J E y) (.J F n)/\az df (dw 0 c).rows E/\az bu (dw 0 c).kids F:=by
 obtain⟨b,rfl⟩:=a6.hX c;obtain⟨X,q,Y,Z,rfl,G,p⟩:=l;have p:az isRow b q:=p;obtain⟨s,t,_⟩:=m.wf;rw[a6.hY]at s t;have j9:=p.len;have k0:=U.af G;refine aM hm Bm ?_;refine bp λz u=> ?_;refine cX λL v w k1=> ?_;have P:=U.ah d z (.cells [.v (.int .u8 0),.J [] .nil,.J [] .nil]);have S:=U.ae (Y:= .cells [.v (.int .u8 0),.J [] .nil,.J [] .nil]) (U.a1) u;have C:(d.set z (.cells [.v (.int .u8 0),.J [] .nil,.J [] .nil])) L=none:=by rw[U.ao _ _ w];exact v
 generalize d.set z _=A at*;have B:=S _ _ G;refine ch [0,2,3] (λa:Nat=> [(4,.v (.int .i64 (a)))]) (λa h=>a<=b.length/\ ∃ak r,h L=some (.cells [.v (.int .u8 2),.J ak r,.J [] .nil])/\bf A h 2 ak r/\az df ((b.take a).map λx=>(x,true)) ak) (λa=>b.length - a) 0 ⟨⟨a5o _,[],.nil,U.ah _ _ _,bf.nil (U.ae (U.ae U.a1 C) C),trivial⟩,aS⟩ ?_;rintro a H ⟨k2,ak,r,T,k,o⟩ I;have k3:=U.af (k.sub _ _ B);have k4:=U.af T;have V:=o.len;rw[a4T,a4K]at V;refine aa ?_;refine aG (λW=> ?_) λW=> ?_
 .have f:a<b.length:=a9k;have K:b[a]? =some (b.getD a []):=by simp_all
  obtain⟨_,k5,y,rfl⟩:=p.get K;have M:=eQ (a:=b) (b:= []) f;generalize b.getD a []=k6 at*;refine aa ?_;refine dd U.a1 (by simp[aT,R.cells]) λk7 k8 g=> ?_;refine aa ?_;refine qw (k.mono g.sub) (o.cells λ_ _=>df.cells) (by simp[aT,R.cells]) a9m a9m λk9 l0 N O=> ?_;have i:=O _ _ (g.sub _ _ T);have aE:=U.aI i;refine aa ?_;refine⟨a+1,⟨f,_,_,rfl,oL N C i,?_⟩,rfl,a9k⟩;rw[M,a5J];exact o.snoc ⟨y,rfl⟩
 .obtain rfl:a=b.length:=a9k;rw[a5d]at o;have l1:=U.au S k.sub;have j:=U.aI (k.sub _ _ P);clear W V j;refine ch [0,2,3] (λ_:Unit=> [(5,.v (.int .i64 0))]) (λ_ h=>h=H) (λ_=>0) () ⟨rfl,aS⟩ ?_;rintro _ _ rfl I;have j:=U.aI (k.sub _ _ P);refine aa ?_;exact⟨ak,[],r,.nil,rfl,o,trivial⟩
def jd.le (d:e<=8) (b:jd e i w) (c:i<=1048576):w.ht/\w.sum.length=32/\w.cC:=by have a:=b.kG c;have h:=a.ob;have k:=a.oc;have o:=a.od;exact⟨⟨a9k,a9k,a9k,a.nh,a.live,a.ni,a.size⟩,b.sum,⟨a9k,a9k,a9k⟩⟩
def a3n (I:1<=i) (j:i<=8) (c:a6.T (e+1)) (r:R) (b:U) (K:bw b (e+1) c r) (F:eX i (e+1) c)
  (ih: ∀(c:a6.T e) (r:R) (b:U),bw b e c r->eX i e c->AC Tryz.prog 61 [r] b λG d=>b.sub d/\ ∃M l N,G= .agg (ab (c4 e c) M l N)):
  AC Tryz.prog 115 [r] b λG d=>b.sub d/\ ∃m z O Q,G=gN (dw (e+1) c) (.J m O) (.J z Q)/\az df (dw (e+1) c).rows m/\az bu (dw (e+1) c).kids z:=by
 obtain⟨h,rfl⟩:=a6.gp c;obtain⟨X,z,l6,l,rfl,n,C,l7,_⟩:=K;have C:az (bw b e) h z:=C;have Y:=F.hd;obtain⟨Z,j9,_⟩:=F.wf;rw[a6.dD]at Z j9;have l8:=F.dE;have l9:=C.len;have n0:=U.af n;refine aM hm Bm ?_;refine bp λL k0=> ?_;refine cX λk k1 k2 n1=> ?_;have k3:=U.ah b L (.cells [.v (.int .u8 0),.J [] .nil,.J [] .nil]);have P:=U.ae (Y:= .cells [.v (.int .u8 0),.J [] .nil,.J [] .nil]) (U.a1) k0;have o:(b.set L (.cells [.v (.int .u8 0),.J [] .nil,.J [] .nil])) k=none:=by rw[U.ao _ _ k2];exact k1
 generalize b.set L _=q at*;have D:=P _ _ n;have n2:X≠k:=by rintro rfl;rw[D]at o;cases o
 refine ch [0,2,3] (λ_:Unit=> [(4,.v (.int .i64 0))]) (λ_ d=>d=(q.set k (.cells [.v (.int .u8 0),.J [] .nil,.J [] .nil])).set k (.cells [.v (.int .u8 2),.J [] .nil,.J [] .nil])) (λ_=>0) () ⟨rfl,aS⟩ ?_;rintro _ _ rfl k4;have n3:=U.af D;refine aa ?_;refine ch [0,2,3] (λa:Nat=> [(5,.v (.int .i64 (a)))]) (λa d=>a<=h.length/\ ∃ak p,d k=some (.cells [.v (.int .u8 (if a=0 then 2 else 3)),.J [] .nil,.J ak p])/\bf q d 37 ak p/\az bu ((h.take a).map (c4 e)) ak) (λa=>h.length - a) 0 ⟨⟨a5o _,[],.nil,U.ah _ _ _,bf.nil (U.ae (U.ae U.a1 o) o),trivial⟩,aS⟩ ?_;rintro a s ⟨n4,ak,p,E,x,y⟩ k4;have n5:=U.af (x.sub _ _ D);have k5:=U.af E;have k6:=U.aI E;have k7:=y.len;rw[a4T,a4K]at k7;refine aa ?_;refine aG (λk8=> ?_) λk8=> ?_
 .have S:a<h.length:=a9k;have t:=a4H S;obtain⟨n9,a00,u⟩:=C.get t;obtain⟨T,_⟩:=Y _ (a4O t);have k9:=T.dE;have l0:=a5S S;have V:=(uC I j T).le j k9;generalize h[a]=W at*;obtain⟨aO,a01,a02,rfl,_⟩:=bw.ptr u;refine aa ?_;have f:=oL (Y:= .cells [.v (.int .u8 3),.J [] .nil,.J ak p]) x o E;have l1:=U.ah s k (.cells [.v (.int .u8 3),.J [] .nil,.J ak p]);clear x E k5 k6;generalize s.set k _=l2 at*;refine ai (ih W _ l2 (u.mono (U.au P f.sub)) T) ?_;rintro _ a03 ⟨g,cd,ca,dg,rfl⟩;have v:=g _ _ l1;have a04:=U.af v;have a05:=U.af (g _ _ (f.sub _ _ D));have l3:=(ik (c4 e W) cd ca dg V.2.1).1;have w:aT 37 [R.agg (ab (c4 e W) cd ca dg)]:=λa06 A=>by rw[a5b]at A;subst A;exact l3
  refine aa ?_;refine dd U.a1 w λa07 a08 B=> ?_;refine aa ?_;refine qw ((f.mono g).mono B.sub) (y.cells λ_ _=>bu.cells) w a9m a9m λa09 a10 l4 l5=> ?_;have H:=l5 _ _ (B.sub _ _ v);have aE:=U.aI H;refine aa ?_;refine⟨a+1,⟨S,_,_,rfl,oL l4 o H,?_⟩,rfl,a9k⟩;rw[l0,a5J];exact y.snoc ⟨V.2.1,V.2.2,cd,ca,dg,rfl⟩
 .obtain rfl:a=h.length:=a9k;rw[a5d]at y;have a11: ¬h.length=0:=a9k;have a13:=U.aI (x.sub _ _ k3);refine aa ?_;exact⟨U.au P x.sub,[],ak,.nil,p,rfl,trivial,y⟩
theorem Gy (B:1<=i) (H:i<=8) (a:a6.T e) (D:R) (b:U) (I:bw b e a D) (E:eX i e a)
  (K: ∀x,b.sub x->AC Tryz.prog 115 [D] x λy G=>x.sub G/\ ∃p r z C,y=gN (dw e a) (.J p z) (.J r C)/\az df (dw e a).rows p/\az bu (dw e a).kids r):
  AC Tryz.prog 61 [D] b λy x=>b.sub x/\ ∃h k o,y= .agg (ab (c4 e a) h k o):=by
 have L:=(nt B H e a E).1;obtain⟨P,M,F⟩:=lh L.y8.ok;have l:=L.kG;have k2:=E.dE;have k3:=l.size;have m:=λp r z C b S T=>Gn (dw e a) p r z C b S T M F (λN O=>by have:=P N O;omega) (λQ X=>by
  have c:=L.y8.kids Q X;have D:=c.ob;have Y:=c.oc;have k4:=c.od;exact⟨⟨a9k,a9k,a9k,c.nh,c.live,c.ni,c.size⟩,c.sum,⟨a9k,a9k,a9k⟩⟩) (by show(eS (dw e a)).size<= _;omega) (λd=>by
  match e,a,d with
  |0,a,_=>obtain⟨n,rfl⟩:=a6.hX a;have:=E.wf.1;rw[a6.hY]at this;intro Z;have j9:(dw 0 (a6.leaf n)).rows=n.map λy=>(y,true):=rfl;simp_all
  |e+1,a,d=>exact absurd d zJ) (λd=>by
  match e,a,d with
  |0,a,d=>rw[Ep]at d;cases d
  |e+1,a,_=>obtain⟨q,rfl⟩:=a6.gp a;have:=E.wf.1;rw[a6.dD]at this;intro Z;have j9:(dw (e+1) (a6.node q)).kids=q.map (c4 e):=rfl;simp_all)
 have V:=l.sum;rw[<-sK]at V m;obtain⟨Y,k5,k6,rfl,k7⟩:=bw.ptr I;generalize c4 e a=W at*;have s:=λh k o=>ik W h k o V;have t: ∀h k o,putAt (ab aA .nil .nil .nil) 0 (ab W h k o)=ab W h k o:=λh k o=>cD bj V;have k8:=ik aA .nil .nil .nil bj;refine aM hm Bg ?_;refine bp λf P=> ?_;rw[cq];have u:=U.ae (Y:= .cells (ab aA .nil .nil .nil)) (U.a1) P;refine ai (K _ u) ?_;rintro _ G ⟨g,p,r,z,C,rfl,S,T⟩;refine aa ?_;refine ai (m p r z C G S T) ?_;rintro _ k9 ⟨j,v,w,A,rfl⟩;have l0:=U.aI (j _ _ (g _ _ (U.ah b f (.cells (ab aA .nil .nil .nil)))));refine aa ?_;have l1:=U.au u (U.au g j);have aH:=j _ _ (g _ _ (U.ah b f (.cells (ab aA .nil .nil .nil))));refine aN λk0 F=> ?_;have k1:f≠k0:=by rintro rfl;rw[aH]at F;cases F
 have l2:=k1.symm;have t:=t v w A;have s:=s v w A;refine aa ?_;grind
def Gz {x:Nat} (r:1<=x) (h:x<=8): ∀(d:Nat) (a:a6.T d) (b:R) (c:U),bw c d a b->eX x d a->AC Tryz.prog 61 [b] c λz k=>c.sub k/\ ∃C D E,z= .agg (ab (c4 d a) C D E)
 |0,a,b,c,o,p=>Gy r h a b c o p λk y=>a3m h a b k (o.mono y) p
 |d+1,a,b,c,o,p=>Gy r h a b c o p λk y=>a3n r h a b k (o.mono y) p λa b c=>Gz r h d a b c
def a3o (h:1<=e) (k:e<=8) (a:eE) (b:R) (c:U) (d:fL c a b) (o:iH e a):AC Tryz.prog 61 [b] c λp r=>c.sub r/\ ∃x y z,p= .agg (ab (iM a) x y z):=by
 match a with
 |none=>obtain rfl:b= .v (.pointer none):=d;have eN:=ik aA .nil .nil .nil bj;have D:putAt (ab aA .nil .nil .nil) 0 (ab aA .nil .nil .nil)=ab aA .nil .nil .nil:=cD bj bj;refine aM hm Bg ?_;refine bp λE F=> ?_;rw[cq];exact⟨.nil,.nil,.nil,by rw[(aW bj).t37];rfl⟩
 |some ⟨C,a⟩=>exact Gz h k C a b c d (GT.jV o)
def ju (a:List cn):List R:=a.map cn.V
def ri {a:List cn}:(ju a).length=a.length:=by simp[ju]
def jv:List aQ->List cm->Int×List aQ
 |cz,[]=>(0,cz)
 |cz,a::b=>if(dX cz a).1=0 then jv (dX cz a).2 b else((dX cz a).1,[])
def kO (a:List aQ) (b:List cm):Int×List aQ:=if(jv a b).1=0 then jv a b else((jv a b).1,a)
def vv {a:List cn}{b:cn} (c:a[e]? =some b):eA 4 (ju a)[e]? =some (.bV b.C):=by obtain⟨d,rfl⟩:=a4P.1 c;rw[show(ju a)[e]? =some (a[e]).V by simp[ju,d]];rfl
theorem a3p (k:U) (o x:Nat) (b:List aQ) (P:fy k o b) (S:cN x b) (a:List cn) (j:Own) (Y:x+a.length<900) (l: ∀T∈a,T.d.Fit/\cI T.d.row):
  AC Tryz.prog 35 [.ptr o 0,.J (ju a) j] k λm p=>fy p o (kO b (a.map cn.d)).2/\dY o k p/\m= .v (.int .i64 (kO b (a.map cn.d)).1):=by
 have Z:=ri (a:=a);have j9:=S.dE;have n:=a2J k o b P a9k;refine aM hm Kp ?_;refine ai n ?_;rintro _ k0 ⟨q,y,rfl,z,s⟩;refine aa ?_;refine ch [0,1,5] (λc:Nat×List aQ=> [(6,.v (.int .i64 (c.1)))]) (λc p=>c.1<=a.length/\fy p y c.2/\cN (x+c.1) c.2/\k.sub p/\jv c.2 ((a.drop c.1).map cn.d)=jv b (a.map cn.d)) (λc=>a.length - c.1) (0,b) ⟨⟨a5o _,s,S,q,rfl⟩,aS⟩ ?_;rintro⟨r,C⟩ t ⟨u,D,E,F,d⟩ k1
 dsimp only at u D E d|-
 refine aa ?_;refine aG (λv=> ?_) λv=> ?_
 .have G:r<a.length:=a9k;have V:=a4H G;have k2:=vv V;obtain⟨w,W⟩:=l _ (a4O V);have A:=a5e G;rw[A]at d;generalize a[r]=h at*;have B:=Gx t y (x+r) C D E a9k h w W;have H:=rh E a9k W;rw[a5f,jv]at d;have k3:h.C.length=4:=rfl;have k4:(.agg (h.C.take 4))=h.V:=rfl;have k5:aX true 4 h.C=h.V:=rfl;generalize h.C=k6 at*;generalize h.V=k7 at*;generalize dX C h.d=e at*;refine aa ?_;refine ai B ?_;rintro _ I ⟨K,M,rfl⟩;have k8:k.sub I:=λN f L=>M N f (by rintro rfl;rw[z]at L;cases L) (F _ _ L);refine aG (λc2=> ?_) λc2=> ?_
  .rw[if_neg c2]at d;have O:kO b (a.map cn.d)=(e.1,b):=by unfold kO;rw[<-d,if_neg c2]
   grind[U.a1,dY.of]
  .have aH:=c2;rw[if_pos aH]at d;refine⟨(r+1,e.2),⟨G,K,H,d⟩,rfl,by simp only;omega⟩
 .obtain rfl:r=a.length:=a9k;rw[a7h]at d;have O:kO b (a.map cn.d)=(0,C):=by unfold kO;rw[<-d];rfl
  obtain⟨k9,f,Q,X⟩:=D;obtain⟨l0,l1,g,l2⟩:=P;have l3:=U.af Q;have i:=F _ _ g;have l4:=U.aI i;have l5:o≠y:=by rintro rfl;rw[g]at z;cases z
  refine aa ?_;exact⟨_,U.a1,vu i X,(dY.of F).set⟩
structure fR (a:ag) (l:List aK) (cz:List aQ):Prop where
 eq:l=cz.map aQ.bA
 ins: ∀t∈cz,dW a t.bM/\mw a t.ct
def fR.mono {b c:ag}{d:List aK}{h:List aQ} (a:fR b d h) (k:b.le c):fR c d h:=⟨a.eq,λo p=>⟨(a.ins o p).1.mono k,(a.ins o p).2.mono k⟩⟩
theorem GA {b c:ag->Except Int ay×ag} (r: ∀a:ag,a.le (b a).2) (x: ∀a:ag,a.le (c a).2) (a:ag) (y:List aK) (z:aK):a.le (fx b c a y z).2.2:=by
 unfold fx;have d:=r a;generalize b a=h at*;obtain⟨k,o⟩:=h;cases k with
 |error C=>exact d
 |ok D=>
  have p:=x o
  dsimp only
  generalize c o=h at*;obtain⟨k,E⟩:=h;cases k with
  |error C=>exact d.trans p
  |ok F=>exact d.trans p
variable{H:ag}
def GB (F:cN e X) (G:e<=1000) {a:aQ} (L:eM i j7) (P:i<=1000) (y:j7.name=a.name) (S:j7.aD=a.aD) (T:bX X a.name<X.length) {c b:ag->Except Int ay×ag}
  (r:gb H j7.bM (c H)) (h: ∀d:ag,H.le d->d.one=false->pM d j7.ct (b d)) (V: ∀d:ag,d.le (b d).2) (k:(fx c b H (X.map aQ.bA) a.bA).2.2.one=false):
  (fx c b H (X.map aQ.bA) a.bA).1=0/\(fx c b H (X.map aQ.bA) a.bA).2.1=(X.set (bX X a.name) j7).map aQ.bA/\H.le (fx c b H (X.map aQ.bA) a.bA).2.2/\dW (fx c b H (X.map aQ.bA) a.bA).2.2 j7.bM/\mw (fx c b H (X.map aQ.bA) a.bA).2.2 j7.ct:=by
 unfold fx at k|-;generalize c H=o at*;obtain⟨x,p⟩:=o;cases x with
 |error W=>cases (r.ins k).1
 |ok f=>
  dsimp only at k|-
  have C:=V p;have D:p.one=false:=by
   revert k;generalize b p=o at*;obtain⟨x,g⟩:=o;cases x with
   |error W=>exact λz=>C.zero z
   |ok f=>exact λz=>C.zero z
  obtain⟨j,l⟩:=r.ins D;obtain rfl:=Except.ok.inj j;have h:=h p r.le D;generalize b p=o at*;obtain⟨x,g⟩:=o;obtain rfl:=h.ok
  dsimp only at k|-
  have E:=pc F G L P (by rw[y];exact T);have m:j7.bA=⟨a.bA.name,a.bA.aD,bo j7.bM,iM j7.ct⟩:=by show(⟨j7.name,j7.aD,bo j7.bM,iM j7.ct⟩:aK)=⟨a.name,a.aD,bo j7.bM,iM j7.ct⟩;rw[y,S]
  rw[m,y]at E;rw[E];exact⟨rfl,rfl,r.le.trans h.le,l.mono h.le,h.ins k⟩
def a3q (a:ag) (b:ay):a.le (nF e q a b).2:=zf _ _ _ _
variable{h3:Int × List aK × ag}{b8:List aK}
theorem a3r (a:lB H b8 e0 h3):H.le h3.2.2:=by
 unfold lB at a;split at a
 .rw[a];exact ag.le_refl
 split at a
 .rcases a with ⟨_,rfl⟩|⟨rows,_,_,⟨_,rfl⟩|⟨_,rfl⟩⟩
  .exact ag.le_refl
  .exact GA (λH=>a3q _ _) (λH=>Ey) _ _ _
  .exact ag.le_refl
 .rw[a];exact ag.le_refl
theorem a3s:H.le (jq H b8 e0).2.2:=by grind[jq,ag.le_refl,GA,a1z,EB]
theorem zZ (a:ey H b8 e0 h3):H.le h3.2.2:=by grind[ey,ag.le_refl,a3r,a3s]
theorem A0 {b:Except Int (List aK)} (c:cy b8=true) (d: ∀a,b= .ok a->cy a=true):cy (iL b b8).2=true:=by
 cases b with
 |error h=>exact c
 |ok a=>exact d a rfl
variable{e7:aK}
theorem GC {a b:ag->Except Int ay×ag} (c:cy b8=true):cy (fx a b H b8 e7).2.1=true:=by grind[fx,A0,G4]
theorem GD (b:cy b8=true) (a:ey H b8 e0 h3):cy h3.2.1=true:=by
 unfold ey at a;split at a
 .rw[a];exact b
 split at a
 .rw[a];exact A0 b λc a=>G7 a
 split at a
 .rw[a];exact A0 b λc a=>G3 b a
 split at a
 .unfold lB at a;split at a
  .rw[a];exact b
  split at a
  .rcases a with ⟨_,rfl⟩|⟨rows,_,_,⟨_,rfl⟩|⟨_,rfl⟩⟩
   .exact b
   .exact GC b
   .exact b
  .rw[a];exact b
 grind[jq,GC]
def vw (c:cy b8=true): ∀a∈b8,a.Fit:=λa d=>by
 have b:=(mu c).1 a d;exact⟨by have:=b.n;omega,by have:=b.c;omega,λh k=>by have:=b.cs h k;omega⟩
theorem pP (a:ey H b8 e0 h3) (r:cN e X) (I:e<900) (o:cI e0.row) (t:fR H b8 X) (P:h3.2.2.one=false):
  h3.1=(dX X e0).1/\fR h3.2.2 h3.2.1 (dX X e0).2:=by
 obtain⟨rfl,x⟩:=t;have t:fR H (X.map aQ.bA) X:=⟨rfl,x⟩;unfold ey at a;unfold dX;by_cases K:ev e0=false;simp_all;rw[if_neg K]at a|-;have W:ev e0=true:=by simp_all
 by_cases y:e0.kind=1
 .rw[if_pos y]at a|-;have M:=zS W y;rw[add_eq r a9k M]at a;by_cases c2:bX X e0.table<X.length
  .rw[if_pos c2]at a|-;rw[a];trivial
  rw[if_neg c2]at a|-;by_cases aH:7<X.length
  .rw[if_pos aH]at a|-;rw[a];trivial
  rw[if_neg aH]at a|-;rw[a];refine⟨rfl,rfl,λb c=> ?_⟩;simp only[a4X,a5g]at c;rcases c with c|rfl|c;grind
  .trivial
  grind
 rw[if_neg y]at a|-;by_cases aH:e0.kind=2
 .rw[if_pos aH]at a;rw[zT r a9k]at a;by_cases c2:bX X e0.table<X.length
  .rw[if_pos c2]at a;rw[if_neg a9k,if_pos aH,a];exact⟨rfl,rfl,λb c=>x b (a7N c)⟩
  .rw[if_neg c2]at a;rw[if_pos a9k,a];trivial
 rw[if_neg aH]at a;by_cases c2:X.length<=bX X e0.table
 .rw[if_pos c2];have f:(X.map aQ.bA).find? (λb=>decide (b.name=e0.table))=none:=by rw[pN,a7t c2];rfl
  rcases vt W y aH with h|h
  .rw[if_pos h]at a;unfold lB at a;simp_all
  .rw[if_neg (by rw[h];decide)]at a;unfold jq mv at a;simp_all
 rw[if_neg c2,if_neg aH];have z:bX X e0.table<X.length:=a9k;have u:=vs z;have c:=r.ok _ u;have S:=te z;have f:(X.map aQ.bA).find? (λb=>decide (b.name=e0.table))=some (X.getD (bX X e0.table) default).bA:=by rw[pN,a5A,a4H z];rfl
 generalize X.getD (bX X e0.table) default=b at*;have k4:=c.c;obtain⟨C,w⟩:=x b u;have k5:=c.dy.cp;have T: ∀V:aQ,dW h3.2.2 V.bM/\mw h3.2.2 V.ct->H.le h3.2.2-> ∀v∈X.set (bX X e0.table) V,dW h3.2.2 v.bM/\mw h3.2.2 v.ct:=λV D p v N=>by
  rcases a6Q N with d|rfl
  .exact⟨(x v d).1.mono p,(x v d).2.mono p⟩
  .exact D
 rcases vt W y aH with h|h
 .rw[if_pos h]at a;rw[if_neg (show¬e0.kind=4 by rw[h];decide)];unfold lB at a;rw[f]at a
  dsimp only at a
  by_cases aJ:e0.row.length=b.aD.length+1
  .rw[if_neg (show¬e0.row.length≠b.aD.length+1 from λd=>d aJ)];rw[if_pos (show e0.row.length=b.bA.aD.length+1 from aJ)]at a;have g:bL (b.aD.length+1) e0.row:=⟨aJ,o⟩;rcases a with ⟨E,_⟩|⟨rows,O,_,a⟩
   .exact absurd E (zC (e:=b.aD.length+1) a9k a9k c.dy.fe a9k C)
   have Q:=zE a9k a9k c.dy.fe a9k C O;have Y:rows= []↔ ¬b.rows.any (λF=>decide (bP F=bP e0.row))=true:=by
    rw[Q,a7y];constructor
    .rintro d ⟨F,o,k⟩;exact d F (c.fW.mem_iff.2 o) ((zF a9k (c.row o)).2 (of_decide_eq_true k))
    .intro d Z j9 G;have A:=c.fW.mem_iff.1 j9;exact d ⟨Z,A,decide_eq_true ((zF a9k (c.row A)).1 G)⟩
   rcases a with ⟨k,a⟩|⟨k,a⟩
   .have B:=Y.1 k;rw[if_neg B];obtain⟨D,i,j⟩:=c.put I g λF o k=>B (a7y.2 ⟨F,o,decide_eq_true k⟩);have E:=a1A a9k a9k g c.dy.fe a9k C i;rw[a]at P T|-;have G:=GB (a:=b) r a9k D a9k rfl rfl (by rw[S];exact z) (c:=λH=>nF (b.aD.length+1) e0.row H (bo b.bM)) E (λl p k0=>a2w a9k a9k g c.go (w.mono p) j) (λl=>Ey) P;obtain⟨m,L,n,q,s⟩:=G;rw[S]at L;exact⟨m,L,T _ ⟨q,s⟩ n⟩
   grind
  .rw[if_neg (show¬e0.row.length=b.bA.aD.length+1 from aJ)]at a;grind
 .rw[if_neg (by rw[h];decide)]at a;rw[if_pos h];unfold jq mv at a;rw[f]at a
  dsimp only at a
  by_cases aJ:e0.row.length=b.aD.length+1
  .rw[if_neg (show¬e0.row.length≠b.aD.length+1 from λd=>d aJ)];rw[if_pos (show e0.row.length=b.bA.aD.length+1 from aJ)]at a
   dsimp only at a
   rw[if_pos rfl]at a;by_cases bs:e0.row∈b.rows
   .rw[if_pos bs];obtain⟨D,i,j⟩:=c.del bs;have E:=a1B a9k a9k c.dy.fe a9k C i;rw[a]at P T|-;have G:=GB (a:=b) r a9k D a9k rfl rfl (by rw[S];exact z) (c:=λH=>iK (b.aD.length+1) e0.row H (bo b.bM)) E (λl p k0=>a2B a9k a9k (c.row bs) c.go (w.mono p) j) (λl=>EB) P;obtain⟨m,L,n,q,s⟩:=G;rw[S]at L;exact⟨m,L,T _ ⟨q,s⟩ n⟩
   .rw[if_neg bs];have k1:=FB a9k a9k c.dy.fe a9k C (c.none aJ bs);have k2:h3=(9,X.map aQ.bA,H):=by
     rw[a];unfold fx;show(match iK (b.aD.length+1) e0.row H (bo b.bM)with
      |(.error k,k3)=> _
      |(.ok k6,k3)=> _)= _
     rw[k1]
    rw[k2];trivial
  .rw[if_neg (show¬e0.row.length=b.bA.aD.length+1 from aJ)]at a;simp_all
inductive mx:ag->List aK->List cm->Int×List aK×ag->Prop
 |nil (a:ag) (l:List aK):mx a l [] (0,l,a)
 |stop {a:ag}{l:List aK}{d:cm}{cz:List cm}{res:Int×List aK×ag}:ey a l d res->res.1≠0->mx a l (d::cz) res
 |step {a:ag}{l:List aK}{d:cm}{cz:List cm}{res b:Int×List aK×ag}:ey a l d res->res.1=0->mx res.2.2 res.2.1 cz b->mx a l (d::cz) b
def a3t (k:U) (h o p:Nat) (z:ag) (r:List aK) (a:cM k h o p z r) (s:cy r=true) (b:List cn) (H:Own) (I: ∀K∈b,K.d.Fit) (l3:b.length<=1000000):
  AC Tryz.prog 34 [.ptr h 0,.J (ju b) H] k λM C=> ∃res,mx z r (b.map cn.d) res/\M= .v (.int .i64 res.1)/\cM C h o p res.2.2 (if res.1=0 then res.2.1 else r)/\cx h o p k C:=by
 have l4:=ri (a:=b);have l5:=(mu s).2;have N:=a2d k h o p z r a a9k;refine aM hm Kn ?_;refine ai N ?_;rintro _ l6 ⟨O,F,rfl,G,Q⟩;refine aa ?_;refine ch [0,5,11,12] (λc:Nat×ag×List aK=> [(13,.v (.int .i64 (c.1)))]) (λc C=>c.1<=b.length/\cM C F o p c.2.1 c.2.2/\cy c.2.2=true/\cx F o p k C/\ ∀L,mx c.2.1 c.2.2 ((b.drop c.1).map cn.d) L->mx z r (b.map cn.d) L) (λc=>b.length - c.1) (0,z,r) ⟨⟨a5o _,Q,s,cx.of O,λL D=>D⟩,aS⟩ ?_;rintro⟨P,V,W⟩ X ⟨Y,S,T,e,x⟩ l7
 dsimp only at Y S T x|-
 obtain⟨Z,j9,f,k0⟩:=a.x;have t:h≠F:=by rintro rfl;rw[f]at G;cases G
 have k1:=e h _ t a.jm a.jn f;refine aa ?_;refine aG (λE=> ?_) λE=> ?_
 .have g:P<b.length:=a9k;have u:=a4H g;have l8:=vv u;have k2:=I _ (a4O u);have k3:=a5e g;rw[k3]at x;generalize b[P]=d at*;have i:=λk D=>zG k F o p V W D (vw T) T d k2;rw[a5f]at x;have k4:d.C.length=4:=rfl;have l9:(.agg (d.C.take 4))=d.V:=rfl;have n0:aX true 4 d.C=d.V:=rfl;have n1:d.V.cells=d.C:=rfl;generalize d.C=j at*;generalize d.V=n2 at*;have n3:putAt [R.v (.int .u8 0),.v (.string ⟨#[]⟩),.J [] .nil,.J [] .nil] 0 j=j:=qi k4;refine aa ?_;refine aN λk5 k6=> ?_;refine aa ?_;have v:=U.ae (Y:= .cells j) (U.a1) k6;generalize X.set k5 _=k7 at*;have i:=i k7 (S.sub v);refine ai i ?_;rintro _ n4 ⟨res,l,rfl,w,k8⟩;have A:=(e.trans (cx.of v)).trans k8;refine aa ?_;refine aG (λc2=> ?_) λc2=> ?_
  .refine⟨_,U.a1,res,x _ (.stop l c2),rfl,?_,?_⟩
   .rw[if_neg c2];exact⟨w.ga,⟨Z,j9,A h _ t a.jm a.jn f,k0⟩,a.jm,a.jn⟩
   .exact λm n B q E y=>A m n (by rintro rfl;rw[G]at y;cases y) q E y
  .have aH:=c2;exact⟨(P+1,res.2.2,res.2.1),⟨g,w,GD T l,λL D=>x _ (.step l aH D)⟩,rfl,by simp only;omega⟩
 .obtain rfl:P=b.length:=a9k;rw[a7h]at x;obtain⟨k9,l0,l1,l2⟩:=S.x;have n5:=U.af l1;have n9:=U.aI k1;refine aa ?_;refine⟨_,U.a1,(0,W,V),x _ (.nil V W),rfl,?_,?_⟩
  .exact⟨S.ga.set ⟨a.jm,a.jn⟩,⟨k9,l0,U.ah _ _ _,l2⟩,a.jm,a.jn⟩
  .exact λm n B q E y=>by rw[U.ao _ _ B];exact e m n (by rintro rfl;rw[G]at y;cases y) q E y
theorem a3u (z:U) (i j:Nat) (c:List aQ) (r:fy z i c) (l:cN j c) (l2:j<=1000):
  AC Tryz.prog 25 [.ptr i 0] z λI D=>z.sub D/\ ∃x m,I= .J x m/\az dx (c.map aQ.bA) x:=by
 obtain⟨l3,m,E,n⟩:=r;have l4:=n.len;have l5:=l.dE;refine aM hm Kd ?_;refine ch [0] (λb:Nat×List R×Own=> [(3,.J b.2.1 b.2.2),(4,.v (.int .i64 (b.1)))]) (λb D=>b.1<=c.length/\bf z D 76 b.2.1 b.2.2/\az dx ((c.take b.1).map aQ.bA) b.2.1) (λb=>c.length - b.1) (0,[],.nil) ⟨⟨a5o _,bf.nil U.a1,trivial⟩,aS⟩ ?_;rintro⟨k,x,K⟩ M ⟨N,d,o⟩ l6
 dsimp only at N d o|-
 have q:=U.af (d.sub _ _ E);have O:=o.len;rw[a4T,a4K]at O;refine aa ?_;refine aG (λQ=> ?_) λQ=> ?_
 .have X:k<c.length:=a9k;have s:c[k]? =some (c.getD k default):=by simp_all
  obtain⟨_,l7,l8,y,l9,n0,Y,Z,rfl,F,n1,t,u⟩:=n.get s;have h:=l.ok _ (a4O s);have j9:=eQ (b:=default) X;generalize c.getD k default=a at*;have n2:=h.c;have n3:=h.dy.cp;have G:=(fc a9k a9k h.dy.fe a9k).le a9k a9k;have L:(iM a.ct).sum.length=32/\(iM a.ct).cC:=by
   rcases zL a9k a9k h.go with ⟨_,C⟩|⟨_,C⟩
   .rw[C];exact⟨bj,me⟩
   .have n4:=h.nK.length_eq;have n5:=h.dE;have:=C.le a9k a9k;simp_all
  have v:=U.af (d.sub _ _ F);have n9:=t.cells;have eN:=u.cells;refine aa ?_;refine ai (zY a9k a9k a.bM Y M (t.mono d.sub) h.dy.fe a9k) ?_;rintro _ k0 ⟨p,P,S,V,rfl⟩;have q:=U.af (p _ _ (d.sub _ _ E));have v:=U.af (p _ _ (d.sub _ _ F));refine aa ?_;refine ai (a3o a9k a9k a.ct Z k0 (u.fC (U.o4 (U.au d.sub p))) h.go) ?_;rintro _ a00 ⟨W,cd,ca,dg,rfl⟩;have q:=U.af (W _ _ (p _ _ (d.sub _ _ E)));have v:=U.af (W _ _ (p _ _ (d.sub _ _ F)));have k1:a.aD.length<=1000000:=a9k;have e:ep ⟨a.name,a.aD,aA,aA⟩ (bb a.name:: .J (bE a.aD) y::(ab aA .nil .nil .nil++ab aA .nil .nil .nil)):=⟨⟨y,_,_,_,_,_,_,rfl⟩,⟨bj,me⟩,⟨bj,me⟩,k1⟩;have f:=e.FT (M:=P) (e6:=S) (h5:=V) G.2.1 G.2.2;have w:=f.FU (M:=cd) (e6:=ca) (h5:=dg) L.1 L.2;have a01:putAt eL 0 [bb a.name]=bb a.name:: .J [] .nil::(ab aA .nil .nil .nil++ab aA .nil .nil .nil):=rfl;have a02:putAt (bb a.name:: .J [] .nil::(ab aA .nil .nil .nil++ab aA .nil .nil .nil)) 1 [.J (bE a.aD) y]=bb a.name:: .J (bE a.aD) y::(ab aA .nil .nil .nil++ab aA .nil .nil .nil):=rfl;have a03:=gd.all.1;have a04:(bb a.name:: .J [] .nil::(ab aA .nil .nil .nil++ab aA .nil .nil .nil)).length=76:=by omega
  have a05:=e.all.1;have a06:=f.all.1;have k2:=w.all.1;have a07:=(aW (M:=P) (e6:=S) (h5:=V) G.2.1).len;have a08:=(aW (M:=cd) (e6:=ca) (h5:=dg) L.1).len;have A:=jl;generalize eL=a09 at*;generalize bb a.name:: .J [] .nil::(ab aA .nil .nil .nil++ab aA .nil .nil .nil)=a10 at*;generalize bb a.name:: .J (bE a.aD) y::(ab aA .nil .nil .nil++ab aA .nil .nil .nil)=k3 at*;generalize k4:ab (bo a.bM) P S V=k5 at*;generalize k6:ab (iM a.ct) cd ca dg=k7 at*;generalize a11:putAt k3 2 k5=k8 at*;generalize a13:putAt k8 39 k7=g at*;clear k4 k6 e f;rw[A];clear A;refine aa ?_;have B:aT 76 [R.agg g]:=λC H=>by rw[a5b]at H;subst H;exact k2
  refine dd U.a1 B λa14 a15 k9=> ?_;refine aa ?_;refine ea (((d.mono p).mono W).mono k9.sub) (o.cells λb a16 r=>by obtain⟨T,rfl,r⟩:=r;exact r.all.1) B a9m a9m λl0 a18 l1=> ?_;refine aa ?_;refine⟨(k+1,x++ [.agg g],l0),⟨by simp only;omega,l1,?_⟩,⟨rfl,rfl⟩,by simp only;omega⟩;simp only[j9,a5J];exact o.snoc ⟨g,rfl,w⟩
 .obtain rfl:k=c.length:=a9k;rw[a5d]at o;exact⟨d.sub,x,K,rfl,o⟩
def a3v (p:cN e X) (r:e<=1000): ∀o∈X.map aQ.bA,o.In:=λo x=>by
 obtain⟨h,y,rfl⟩:=a5c.1 x;have c:=p.ok h y;have C:=c.c;have D:=c.dy.cp;have a:=(fc a9k a9k c.dy.fe a9k).kG a9k;refine⟨FM (c.bA r),?_,?_⟩
 .show(bo h.bM).In 8;have:=a.ob;have:=a.oc;have:=a.od;exact⟨a.sum,a.aU,a.aV,a.key,a9k,a9k,a9k,a.nh,a.live,a.ni,a.size⟩
 .show(iM h.ct).In 8;rcases zL a9k a9k c.go with ⟨_,k⟩|⟨_,k⟩
  .rw[k];have d:cI []:=λE z=>(by cases z);exact⟨bj,d,d,d,a5o _,a5o _,a5o _,a9o,a9o,a9o,a9o⟩
  .have d:=c.nK.length_eq;have F:=c.dE;have b:=k.kG a9k;have:=b.ob;have:=b.oc;have:=b.od;exact⟨b.sum,b.aU,b.aV,b.key,a9k,a9k,a9k,b.nh,b.live,b.ni,b.size⟩
def vx (d h:U):Prop:= ∀b a c,d b=some (.cells (a::c))->((∃k o,a= .J k o)\/ ∃p,a=bb p)->h b=some (.cells (a::c))
def dM.my {b c:U} (a:vx b c): ∀ {d:aC}{h:R},dM b d h->dM c d h
 | .nil,_,k=>k
 | .node _ _ _ _,_,⟨o,p,r,x,h1,y,z,C⟩=>⟨o,p,r,x,h1,a _ _ _ y (.inl ⟨_,_,rfl⟩),z.my a,C.my a⟩
def gG.my {b c:U} (a:vx b c) {d:aQ}{h:R} (o:gG b d h):gG c d h:=by obtain⟨p,r,x,y,k,z,C,D,E,F,G⟩:=o;exact⟨p,r,x,y,k,z,C,a _ _ _ D (.inr ⟨_,rfl⟩),E,F.my a,G.Gj λP S T k V L=>a _ _ _ L (.inl ⟨_,_,rfl⟩)⟩
def fy.my {b c:U} (d:vx b c) {h:Nat}{k:List aQ} (a:fy b h k):fy c h k:=by obtain⟨o,p,r,x⟩:=a;exact⟨o,p,d _ _ _ r (.inl ⟨_,_,rfl⟩),x.mono λy z a=>a.my d⟩
theorem cx.rs (c:cM f e i v H b8) (h:cx e i v f t):vx f t:=λk r x a d=>by
 obtain⟨y,z,o,_⟩:=c.x;obtain⟨C,D,p⟩:=c.ga.at_;obtain⟨E,⟨F,G,L,_⟩,_⟩:=c.ga.mp;refine h k _ ?_ ?_ ?_ a
 .rintro rfl;rw[o]at a;obtain⟨rfl,_⟩:=a8n (br.cells.inj (a4G a));rcases d with ⟨_,_,b⟩|⟨_,b⟩<;>cases b
 .rintro rfl;rw[p]at a;obtain⟨rfl,_⟩:=a8n (br.cells.inj (a4G a));rcases d with ⟨_,_,b⟩|⟨_,b⟩<;>cases b
 grind
def cM.GF (a:cM f i v O H b8) (o:fy f e X) (d:dY e f t):cM t i v O H b8:=by
 obtain⟨p,r,h,x⟩:=a.x;obtain⟨D,E,b⟩:=a.ga.at_;obtain⟨F,⟨G,L,c,P⟩,S⟩:=a.ga.mp;obtain⟨T,V,k,_⟩:=o;have y:i≠e:=by rintro rfl;rw[k]at h;cases h
 have z:v≠e:=by rintro rfl;rw[k]at b;cases b
 have C:O≠e:=by rintro rfl;rw[k]at c;cases c
 exact⟨a.ga.other (by rw[b];exact d _ _ z b) (by rw[c];exact d _ _ C c),⟨p,r,d _ _ y h,x⟩,a.jm,a.jn⟩
structure vy (b:U) (c gy d W:Nat) (a:ag) (l:List aK) (cz:List aQ) (n:Nat):Prop where
 st:cM b c gy d a l
 cat:cy l=true
 rs:fy b W cz
 inv:cN n cz
 rep:a.one=false->fR a l cz
def vy.step {L y z:U}{h k o p C:Nat}{D:ag}{P:List aK}{r:List aQ} (a:vy L h k o p D P r C) (E:C<900) {c:cm} (F:cI c.row) {b:Int×List aK×ag} (x:ey D P c b)
  (S:cM y h k o b.2.2 b.2.1) (T:cx h k o L y) (V:fy z p (dX r c).2) (W:dY p y z):vy z h k o p b.2.2 b.2.1 (dX r c).2 (C+1)/\D.le b.2.2/\(b.2.2.one=false->b.1=(dX r c).1):=by
 have G:=zZ x;have e:=a.rs.my (T.rs a.st);refine⟨⟨S.GF e W,GD a.cat x,V,rh a.inv E F,λd=>(pP x a.inv E F (a.rep (G.zero d)) d).2⟩,G,λd=>(pP x a.inv E F (a.rep (G.zero d)) d).1⟩
def cm.hC (a:cm):Prop:=a.table.length<=100/\a.aD.length<=20/\(∀b∈a.aD,b.length<=100)/\a.row.length<=50
def cm.hC.fit (a:e0.hC):e0.Fit:=⟨by have:=a.1;omega,by have:=a.2.1;omega,λb c=>by have:=a.2.2.1 b c;omega,by have:=a.2.2.2;omega⟩
theorem GG (c:List cn) (D:Own) (p:U) (W:c.length<=9223372036854775807):
  AC Tryz.prog 9 [.J (ju c) D] p λE F=>F=p/\ ∃r,E= .v (.bool r)/\(r=false->c.length<=300/\ ∀h∈c,h.d.hC):=by
 have e:=ri (a:=c);refine aM hm JP ?_;refine aG (λx=> ?_) λf=> ?_;simp;refine gK [0] (λd:Nat=> [(3,.v (.int .i64 d))]) (λd=>d<=c.length/\ ∀h∈c.take d,h.d.hC) (λd=>c.length - d) 0 ⟨a5o _,λh k=>by cases k⟩ aS ?_;rintro d ⟨g,G⟩ L;refine aa ?_;refine aG (λx=> ?_) λx=> ?_
 .have o:d<c.length:=a9k;have P:=a4H o;have i:=vv P;have S:=a5S o;generalize c[d]=a at*;have j:=cn.m1 (a:=a);have l:=cn.m2 (a:=a);have m:=cn.m3 (a:=a);have n:=cn.Zz (a:=a);have q:=hz (a:=a.d.aD);have s:=bH (q:=a.d.row);have t:=sM (B:=a.d.table);generalize a.C=u at*;refine aa ?_;refine aG (λT=> ?_) λT=> ?_;rotate_left;simp;refine aG (λc2=> ?_) λc2=> ?_;rotate_left;simp;refine aG (λaH=> ?_) λaH=> ?_;simp;refine gK [0,3] (λb:Nat=> [(4,.v (.int .i64 b))]) (λb=>b<=a.d.aD.length/\ ∀V∈a.d.aD.take b,V.length<=100) (λb=>a.d.aD.length - b) 0 ⟨a5o _,λh k=>by cases k⟩ aS ?_;rintro b ⟨v,y⟩ L;refine aa ?_;refine aG (λaJ=> ?_) λaJ=> ?_
  .have z:b<a.d.aD.length:=a9k;have w:=px z;have A:a.d.aD.take (b+1)=a.d.aD.take b++ [a.d.aD.getD b []]:=eQ z;have B:=sM (B:=a.d.aD.getD b []);generalize a.d.aD.getD b []=H at*;refine aa ?_;refine aG (λbm=> ?_) λbm=> ?_;simp;grind
  .obtain rfl:b=a.d.aD.length:=a9k;rw[a5d]at y;refine⟨d+1,⟨o,λh C=> ?_⟩,rfl,a9k⟩;rw[S]at C;rcases a4X.1 C with k|k
   .exact G h k
   .obtain rfl:=a5b.1 k;exact⟨a9k,a9k,y,a9k⟩
 grind
def tf (a:U) (c d h:Nat) (b:ag) (k:List aK) (o:cM a c d h b k):
  AC Tryz.prog 22 [.ptr c 0] a λp r=>a.sub r/\p= .v (.bool b.one):=by
 refine aM hm K7 ?_;refine bh (a2b a c d h b k o) ?_;refine ai (XZ a d h b o.ga) ?_;rintro _ x ⟨y,z,C,rfl⟩;refine aa ?_;trivial
theorem A1 (a:ey H b8 e0 h3) (r:cN e X) (f:e<900) (o:cI e0.row) (F:fR H b8 X) (c:(dX X e0).1≠0):h3=((dX X e0).1,b8,H):=by
 obtain⟨rfl,G⟩:=F;unfold ey at a;unfold dX at c|-;by_cases L:ev e0=false;grind;rw[if_neg L]at a c|-;have D:ev e0=true:=by grind
 by_cases p:e0.kind=1
 .rw[if_pos p]at a c|-;have P:=zS D p;rw[add_eq r a9k P]at a;by_cases c2:bX X e0.table<X.length
  .rw[if_pos c2]at a c|-;exact a
  rw[if_neg c2]at a c|-;by_cases aH:7<X.length
  .rw[if_pos aH]at a c|-;exact a
  simp_all
 rw[if_neg p]at a c|-;by_cases aH:e0.kind=2
 .rw[if_pos aH]at a;rw[zT r a9k]at a;by_cases c2:bX X e0.table<X.length;grind
  .rw[if_neg c2]at a;rw[if_pos a9k];exact a
 rw[if_neg aH]at a;by_cases c2:X.length<=bX X e0.table
 .rw[if_pos c2];have x:(X.map aQ.bA).find? (λb=>decide (b.name=e0.table))=none:=by rw[pN,a7t c2];rfl
  simp_all [if_pos,lB,jq,mv]
 rw[if_neg c2,if_neg aH]at c|-;have y:bX X e0.table<X.length:=a9k;have E:=vs y;have d:=r.ok _ E;have g:=te y;have x:(X.map aQ.bA).find? (λb=>decide (b.name=e0.table))=some (X.getD (bX X e0.table) default).bA:=by rw[pN,a5A,a4H y];rfl
 generalize X.getD (bX X e0.table) default=b at*;have i:=d.c;obtain⟨z,j⟩:=G b E;have l:=d.dy.cp;rcases vt D p aH with h|h
 .rw[if_pos h]at a;rw[if_neg (show¬e0.kind=4 by rw[h];decide)]at c|-;unfold lB at a;rw[x]at a
  dsimp only at a
  by_cases aJ:e0.row.length=b.aD.length+1
  .rw[if_neg (show¬e0.row.length≠b.aD.length+1 from λk=>k aJ)];rw[if_pos (show e0.row.length=b.bA.aD.length+1 from aJ)]at a;have m:bL (b.aD.length+1) e0.row:=⟨aJ,o⟩;rcases a with ⟨S,_⟩|⟨rows,T,_,a⟩
   .exact absurd S (zC (e:=b.aD.length+1) a9k a9k d.dy.fe a9k z)
   have V:=zE a9k a9k d.dy.fe a9k z T;have n:rows= []↔ ¬b.rows.any (λC=>decide (bP C=bP e0.row))=true:=by
    rw[V,a7y];constructor
    .rintro k ⟨C,o,W⟩;exact k C (d.fW.mem_iff.2 o) ((zF a9k (d.row o)).2 (of_decide_eq_true W))
    grind
   grind
  .rw[if_neg (show¬e0.row.length=b.bA.aD.length+1 from aJ)]at a;rw[if_pos aJ];exact a
 .rw[if_neg (by rw[h];decide)]at a;rw[if_pos h]at c|-;unfold jq mv at a;rw[x]at a
  dsimp only at a
  by_cases aJ:e0.row.length=b.aD.length+1
  .rw[if_neg (show¬e0.row.length≠b.aD.length+1 from λk=>k aJ)];rw[if_pos (show e0.row.length=b.bA.aD.length+1 from aJ)]at a
   dsimp only at a
   rw[if_pos rfl]at a;by_cases bs:e0.row∈b.rows;simp_all
   .rw[if_neg bs];have q:=FB a9k a9k d.dy.fe a9k z (d.none aJ bs);grind[aQ.bA,fx,iK,bo]
  .rw[if_neg (show¬e0.row.length=b.bA.aD.length+1 from aJ)]at a;simp_all
def pQ:List UInt8:=cY (cr ([1,5],true) aA aA)
def tg:List UInt8:=cY (dS [[1,5]])
def a3w:eR pQ≠eR tg:=by unfold eR;decide+kernel
def fS:ag:=eK (eK ag.new pQ) tg
def GH:fS.one=false:=by unfold fS eK;have a:ag.new.m (eR pQ)=none:=rfl;rw[a];have b:(if eR tg=eR pQ then some pQ else none)=none:=if_neg (a4Q a3w);simp only[ag.new,b]
theorem GI (a:ey H b8 e0 h3) (b:e0.kind=1\/e0.kind=2):h3.2.2=H:=by grind[ey,absurd]
theorem A2:bL 2 [1,5]:=⟨rfl,λa b=>by
 grind⟩
theorem a3x (b:e7.bM=aA) (c:e7.ct=aA):(fx (λH=>nF 2 [1,5] H e7.bM) (λH=>jc 2 [1,5] H e7.ct) H b8 e7).2.2=eK (eK H pQ) tg:=by
 have d:=(uY (I:=true) a9k a9k A2 (z7) (z7) a9o).2.2;have h:=(uB (e:=2) a9k a9k (Q:= [[1,5]]) a9l a9l (λk a=>by obtain rfl:=a5b.1 a;exact A2)).oy;have o: ∀H:ag,nF 2 [1,5] H aA=(.ok (eS (cr ([1,5],true) aA aA)),eK H pQ):=λH=>by
  unfold nF;rw[ji,if_pos rfl];rfl
 have p: ∀H:ag,jc 2 [1,5] H aA=(.ok (eS (dS [[1,5]])),eK H tg):=λH=>by
  unfold jc;rw[if_pos rfl];rfl
 unfold fx;simp_all
def hD:aQ:=⟨[116],[[97]],[],.nil,none⟩
def ez:aQ:=hD.put [1,5]
def rj:cm:=⟨1,[116],[[97]],[]⟩
def kf:cm:=⟨3,[116],[],[1,5]⟩
def pR:cm:=⟨3,[116],[],[1,6]⟩
def pS:cm:=⟨3,[116],[],[2,3,4]⟩
def th:cm:=⟨4,[116],[],[1,6]⟩
def ti:cm:=⟨2,[116],[],[]⟩
theorem cd:dX [] rj=(0,[hD]):=by rfl
theorem ca:dX [hD] kf=(0,[ez]):=by rfl
def dg:(dX [ez] pR).1=8:=by rfl
def eo:(dX [ez] pS).1=6:=by rfl
def hb:(dX [ez] th).1=9:=by rfl
def ek:dX [ez] ti=(0,[]):=by rfl
def a3y:ez.rows= [[1,5]]:=by rfl
def a3z (a:ey ag.new ([hD].map aQ.bA) kf h3) (d:cN 1 [hD]):h3.2.2=fS:=by
 unfold ey at a;rw[if_neg (show¬ev kf=false by trivial),if_neg (show¬kf.kind=1 by decide),if_neg (show¬kf.kind=2 by decide),if_pos (show kf.kind=3 from rfl)]at a;unfold lB at a;have h:([hD].map aQ.bA).find? (λk=>decide (k.name=kf.table))=some hD.bA:=by rfl
 rw[h]at a
 dsimp only at a
 rw[if_pos (show kf.row.length=hD.bA.aD.length+1 from rfl)]at a;have b:=d.ok hD a9l;rcases a with ⟨o,_⟩|⟨rows,p,_,a⟩
 .exact absurd o (zC (e:=2) a9k a9k b.dy.fe a9o trivial)
 have r:=zE (e:=2) (a8:= .nil) a9k a9k b.dy.fe a9o trivial p;rcases a with ⟨c,a⟩|⟨c,a⟩
 .rw[a];exact a3x rfl rfl
 .exact absurd (r.2 λy x=>by cases x) c
def a3A: ∀ {a b:List Int},kL a b->bP a<=bP b
 |d::a,h::b,c=>by
  show d<=h;rcases c with c|c<;>omega
def eM.cmp (a:eM e j7):j7.rows.Pairwise λb c=> ¬fM c b<0:=by refine a7L ?_ a.dU;intro b c h k o d;rw[r3 (by rw[(a.row h).len,(a.row k).len])]at d;have:=a3A d;omega
theorem GJ (k:U) (x F G:Nat) (o:ag) (L:List aK) (W:cM k x F G o L) (P:Nat) (a:List aQ) (y:cN P a) (e:P<=1000) (f:fR o L a) (b:List UInt8):
  AC Tryz.prog 27 [.ptr x 0,bb b] k λz S=>k.sub S/\(bX a b<a.length-> ∃T,z= .aL [.J T .any,.v (.int .i64 0)]/\az isRow (a.getD (bX a b) default).rows T)/\(a.length<=bX a b->z= .aL [.J [] .nil,.v (.int .i64 3)]):=by
 obtain⟨rfl,g⟩:=f;have i:=y.cat e;have j: ∀c,a[bX a b]? =some c-> ∃d,ed o (c.bA.aD.length+1) (c.bA.bM.size.toNat+1) c.bA.bM=some d/\c.rows.Perm d:=λc l=>by
  have hm:=a4O l;have p:=y.ok c hm;have s:=p.c;have t:=p.dy.cp;obtain⟨d,C,D⟩:=Fz a9k a9k p.dy.fe a9k (g c hm).1;exact⟨d,C,(D.trans p.fW).symm⟩
 refine(a2l k x F G o (a.map aQ.bA) W i b (a.getD (bX a b) default).rows ?_).mono λz S m=>⟨m.1,λn=> ?_,λn=> ?_⟩
 .intro c d h V;rw[pN]at h;cases r:a[bX a b]? with
  |none=>rw[r]at h;cases h
  |some E=>
   rw[r]at h;obtain rfl:=a4G h;obtain⟨u,C,D⟩:=j E r;rw[C]at V;obtain rfl:=a4G V;have q:a.getD (bX a b) default=E:=by grind
   rw[q];exact⟨D,(y.ok E (a4O r)).cmp⟩
 grind[vj,bX,default,List.getD,pN];grind[vj,pN,List.getElem?_eq_none]
def a3B:rj.Fit:=cm.hC.fit (by unfold cm.hC;decide)
def a3C:kf.Fit:=cm.hC.fit (by unfold cm.hC;decide)
def a3D:pR.Fit:=cm.hC.fit (by unfold cm.hC;decide)
def a3E:pS.Fit:=cm.hC.fit (by unfold cm.hC;decide)
def a3F:th.Fit:=cm.hC.fit (by unfold cm.hC;decide)
def a3G:ti.Fit:=cm.hC.fit (by unfold cm.hC;decide)
theorem A3:cI []:=λb a=>by cases a
theorem vz:cN 1 [hD]:=by grind[rh,cN.nil,rj,A3,cd]
theorem GK:cI pR.row:=λa b=>by
 grind[pR]
theorem a3H:cI pS.row:=λa b=>by
 grind[pS]
theorem rk:cN 2 [ez]:=by grind[rh,vz,kf,ca]
def zQ (c:ey ag.new [] rj h3):h3=(0,[hD].map aQ.bA,ag.new)/\fR ag.new ([hD].map aQ.bA) [hD]:=by
 have a:=GI c (.inl rfl);have b:=pP c (cN.nil (n:=0)) a9k A3 ⟨rfl,λk d=>by cases d⟩ (by rw[a];rfl);rw[cd]at b;obtain⟨v,o,p⟩:=h3
 dsimp only at a b
 obtain⟨rfl,h⟩:=b;subst a;obtain rfl:=h.eq;trivial
def zR (d:ey ag.new ([hD].map aQ.bA) kf h3) (a:fR ag.new ([hD].map aQ.bA) [hD]):h3=(0,[ez].map aQ.bA,fS)/\fR fS ([ez].map aQ.bA) [ez]:=by
 have b:=a3z d vz;have c:=pP d vz a9k A2.jU a (by rw[b];exact GH);rw[ca]at c;obtain⟨v,h,k⟩:=h3
 dsimp only at b c
 obtain⟨rfl,a⟩:=c;subst b;obtain rfl:=a.eq;trivial
def a3I (a:ey fS ([ez].map aQ.bA) pR h3) (b:fR fS ([ez].map aQ.bA) [ez]):h3=(8,[ez].map aQ.bA,fS):=by have c:=A1 a rk a9k GK b (by rw[dg];decide);trivial
def a3J (a:ey fS ([ez].map aQ.bA) pS h3) (b:fR fS ([ez].map aQ.bA) [ez]):h3=(6,[ez].map aQ.bA,fS):=by have c:=A1 a rk a9k a3H b (by rw[eo];decide);trivial
def a3K (a:ey fS ([ez].map aQ.bA) th h3) (b:fR fS ([ez].map aQ.bA) [ez]):h3=(9,[ez].map aQ.bA,fS):=by have c:=A1 a rk a9k GK b (by rw[hb];decide);trivial
def a3L (d:ey fS ([ez].map aQ.bA) ti h3) (a:fR fS ([ez].map aQ.bA) [ez]):h3=(0,[],fS)/\fR fS [] []:=by
 have b:=GI d (.inr rfl);have c:=pP d rk a9k A3 a (by rw[b];exact GH);rw[ek]at c;obtain⟨v,h,k⟩:=h3
 dsimp only at b c
 obtain⟨rfl,a⟩:=c;subst b;obtain rfl:h= []:=a.eq;trivial
def GL:cy []=true:=(cN.nil (n:=0)).cat a9k
def a3M:cy ([hD].map aQ.bA)=true:=vz.cat a9k
def vA:cy ([ez].map aQ.bA)=true:=rk.cat a9k
def a3N (a:Own):(⟨rj,a,.nil⟩:cn).V= .agg [.v (.int .u8 1),.v (.string ⟨#[116]⟩),.J [.v (.string ⟨#[97]⟩)] a,.J [] .nil]:=rfl
def a3O (a:Own):(⟨kf,.nil,a⟩:cn).V= .agg [.v (.int .u8 3),.v (.string ⟨#[116]⟩),.J [] .nil,.J [.v (.int .i64 1),.v (.int .i64 5)] a]:=rfl
def a3P (a:Own):(⟨pR,.nil,a⟩:cn).V= .agg [.v (.int .u8 3),.v (.string ⟨#[116]⟩),.J [] .nil,.J [.v (.int .i64 1),.v (.int .i64 6)] a]:=rfl
def a3Q (a:Own):(⟨pS,.nil,a⟩:cn).V= .agg [.v (.int .u8 3),.v (.string ⟨#[116]⟩),.J [] .nil,.J [.v (.int .i64 2),.v (.int .i64 3),.v (.int .i64 4)] a]:=rfl
def a3R (a:Own):(⟨th,.nil,a⟩:cn).V= .agg [.v (.int .u8 4),.v (.string ⟨#[116]⟩),.J [] .nil,.J [.v (.int .i64 1),.v (.int .i64 6)] a]:=rfl
def a3S:(⟨ti,.nil,.nil⟩:cn).V= .agg [.v (.int .u8 2),.v (.string ⟨#[116]⟩),.J [] .nil,.J [] .nil]:=rfl
def GM:bb [116]= .v (.string ⟨#[116]⟩):=rfl
variable{N b4 h2 h9 j2:Prop}
theorem rl (h:cM f e i v H b8) (b:cy b8=true) (a:cn) (k:a.d.Fit) (o:a.V=n) (p: ∀res,ey H b8 a.d res->res=h3/\N):
  AC Tryz.prog 20 [.ptr e 0,n] f λc d=>c= .v (.int .i64 h3.1)/\cM d e i v h3.2.2 h3.2.1/\N:=by
 subst o;exact(zG f e i v H b8 h (vw b) b a k).mono λc d ⟨res,r,x,y,z⟩=>by
  grind
def A4:Nat->dH->dH
 |0,a=>a
 |b+1,.seq _ c=>A4 b c
 | _+1,a=>a
variable{j:Fr}
def a3T (P:j 1= .ptr e 0) (S:j 2= .v (.int .i64 0)) (T:j 3= .v (.int .i64 0)) (V:j 4= .v (.int .i64 8)) (W:j 5= .v (.int .i64 6)) (g:j 6= .v (.int .i64 9)) (c:cM f e i v fS ([ez].map aQ.bA)) (d:fR fS ([ez].map aQ.bA) [ez]):
  bS (Ctx.of Tryz.prog) (A4 8 wz.code) (p2 [(0,none)] λz _=>z= .v (.bool true)) j f:=by
 simp only[wz,A4];refine aa ?_;have a:=GJ f e i v fS _ c 2 _ rk a9k d [116];rw[GM]at a;refine ai a ?_;clear a;rintro _ fT ⟨k,b,_⟩;obtain⟨o,rfl,h⟩:=b a9o;have h:az isRow [[1,5]] o:=by rw[<-a3y];exact h
 have p:=c.sub k;clear c k b;refine aa ?_;refine ai (rl p vA ⟨ti,.nil,.nil⟩ a3G a3S λres C=>a3L C d) ?_;rintro _ D ⟨rfl,r,x⟩;clear p d;refine aa ?_;have a:=GJ D e i v fS _ r 0 [] cN.nil a9k x [116];rw[GM]at a;refine ai a ?_;clear a;rintro _ l ⟨E,_,b⟩;obtain rfl:=b a9o;clear r x b E;refine aa ?_;refine dd U.a1 (by simp[aT,R.cells]) λy m n=> ?_;refine aa ?_;refine dd U.a1 (by simp[aT,R.cells]) λF q s=> ?_;refine aa ?_;have G:=λL=>Z1 [[1,5]] [[1,5]] o [.J [.v (.int .i64 1),.v (.int .i64 5)] y] .any F L h ⟨⟨y,rfl⟩,trivial⟩ a9l a9l;refine bh (G _) ?_;exact⟨_,U.a1⟩
def a3U (c:U):AC Tryz.prog 8 [] c λS W=>S= .v (.bool true):=by refine aM hm JN ?_;generalize T:dH.seq (dH.plain (aB 36 1:: _)) _=e;refine ai (FR c) ?_;rintro _ f ⟨g,i,j,rfl,-,-,-,-,d⟩;refine aa ?_;refine dd U.a1 (by simp[aT,R.cells]) λh l k=> ?_;refine aa ?_;refine ai (rl (d.sub k.sub) GL ⟨rj,h,.nil⟩ a3B (a3N h) λres a=>zQ a) ?_;rintro _ m ⟨rfl,o,p⟩;clear k d;refine aa ?_;refine dd U.a1 (by simp[aT,R.cells]) λr n x=> ?_;refine aa ?_;refine ai (rl (o.sub x.sub) a3M ⟨kf,.nil,r⟩ a3C (a3O r) λres a=>zR a p) ?_;rintro _ q ⟨rfl,y,b⟩;clear x o p;refine aa ?_;refine dd U.a1 (by simp[aT,R.cells]) λz s C=> ?_;refine aa ?_;refine ai (rl (y.sub C.sub) vA ⟨pR,.nil,z⟩ a3D (a3P z) (N:=True) λres a=>⟨a3I a b,trivial⟩) ?_;rintro _ t ⟨rfl,D,-⟩;clear C y;refine aa ?_;refine dd U.a1 (by simp[aT,R.cells]) λE u F=> ?_;refine aa ?_;refine ai (rl (D.sub F.sub) vA ⟨pS,.nil,E⟩ a3E (a3Q E) (N:=True) λres a=>⟨a3J a b,trivial⟩) ?_;rintro _ v ⟨rfl,G,-⟩;clear F D;refine aa ?_;refine dd U.a1 (by simp[aT,R.cells]) λL w P=> ?_;refine aa ?_;refine ai (rl (G.sub P.sub) vA ⟨th,.nil,L⟩ a3F (a3R L) (N:=True) λres a=>⟨a3K a b,trivial⟩) ?_;rintro _ A ⟨rfl,V,-⟩;clear P G;refine aa ?_;subst T;exact a3T rfl rfl rfl rfl rfl rfl V b
structure rm (a b:U) (c gy d W:Nat) (h:ag) (l:List aK) (cz:List aQ) (n:Nat):Prop where
 kP:vy b c gy d W h l cz n
 sub:a.sub b
 GN:a c=none
 GO:a gy=none
 GP:a d=none
 xS:a W=none
def rm.step {D E x y:U}{h k o p z:Nat}{C:ag}{F:List aK}{r:List aQ} (a:rm D E h k o p C F r z) (T:z<900) {d:cm} (V:cI d.row) {c:Int×List aK×ag} (W:ey C F d c)
  (e:cM x h k o c.2.2 c.2.1) (G:cx h k o E x) (f:fy y p (dX r d).2) (L:dY p x y):rm D y h k o p c.2.2 c.2.1 (dX r d).2 (z+1)/\C.le c.2.2/\(c.2.2.one=false->c.1=(dX r d).1):=by
 obtain⟨g,i,j⟩:=a.kP.step T V W e G f L;refine⟨⟨g,λP S b=>L P S ?_ (G P S ?_ ?_ ?_ (a.sub _ _ b)),a.GN,a.GO,a.GP,a.xS⟩,i,j⟩
 .rintro rfl;rw[a.xS]at b;cases b
 .rintro rfl;rw[a.GN]at b;cases b
 .rintro rfl;rw[a.GO]at b;cases b
 .rintro rfl;rw[a.GP]at b;cases b
theorem a3V (r:List cn) (n:Own) (z:U) (q: ∀V∈r,V.d.hC/\cI V.d.row) (Z:r.length<=9223372036854775807):
  AC Tryz.prog 10 [.J (ju r) n] z λe G=>e= .aL [.v (.pointer none),.v (.pointer none)]\/ ∃c o p W d x E f,e= .aL [.ptr c 0,.ptr W 0]/\f<=40/\d.one=false/\rm z G c o p W d x E f:=by
 have j9:=ri (a:=r);refine aM hm JR ?_;refine ai (FR z) ?_;rintro _ s ⟨c,o,p,rfl,L,t,u,v,w⟩;refine aa ?_;refine aN λW P=> ?_;have A:=w.sub (U.ae (Y:= .cells [.J [] .nil]) U.a1 P);have a:rm z (s.set W (.cells [.J [] .nil])) c o p W ag.new [] [] 0:=⟨⟨A,GL,⟨[],.nil,U.ah _ _ _,trivial⟩,cN.nil,λ_=>⟨rfl,λk0 S=>by cases S⟩⟩,U.ae L (U.bF L P),t,u,v,U.bF L P⟩;refine aa ?_;refine ch [0,4,5] (λh:Nat×ag×List aK×List aQ=> [(6,.v (.int .i64 (h.1)))]) (λh G=>h.1<=40/\h.1<=r.length/\rm z G c o p W h.2.1 h.2.2.1 h.2.2.2 h.1) (λh=>40 - h.1) (0,ag.new,[],[]) ⟨⟨a9l,a5o _,a⟩,aS⟩ ?_;rintro⟨F,d,x,E⟩ C ⟨B,H,a⟩ k1
 dsimp only at B H a|-
 refine aa ?_;refine aG (λI=> ?_) λI=> ?_
 .refine aG (λaJ=> ?_) λaJ=> ?_
  .have g:F<r.length:=a9k;have i:=a4H g;have k2:=vv i;obtain⟨j,l⟩:=q _ (a4O i);generalize r[F]=k at*;have K:=zG C c o p d x a.kP.st (vw a.kP.cat) a.kP.cat k j.fit;have M:=λy S=>Gx y W F E S a.kP.inv a9k k j.fit l;have k3:k.C.length=4:=rfl;have k4:(.agg (k.C.take 4))=k.V:=rfl;have k5:aX true 4 k.C=k.V:=rfl;generalize k.C=k6 at*;generalize k.V=k7 at*;refine aa ?_;refine ai K ?_;rintro _ y ⟨res,N,rfl,O,m⟩;refine aa ?_;refine ai (M y (a.kP.rs.my (m.rs a.kP.st))) ?_;rintro _ k8 ⟨Q,X,rfl⟩;obtain⟨Y,k9,l0⟩:=a.step a9k l N O m Q X;refine aa ?_;exact⟨(F+1,res.2.2,res.2.1,(dX E k.d).2),⟨by simp only;omega,g,Y⟩,rfl,by simp only;omega⟩
  .cases D:d.one with
   |true=>have b:=tf C c o p d x a.kP.st;rw[D]at b;refine ai b ?_;rintro _ y ⟨T,rfl⟩;refine aa ?_;grind
   |false=>have b:=tf C c o p d x a.kP.st;rw[D]at b;refine ai b ?_;rintro _ y ⟨T,rfl⟩;refine aa ?_;grind
 .cases D:d.one with
  |true=>have b:=tf C c o p d x a.kP.st;rw[D]at b;refine ai b ?_;rintro _ y ⟨T,rfl⟩;refine aa ?_;grind
  |false=>have b:=tf C c o p d x a.kP.st;rw[D]at b;refine ai b ?_;rintro _ y ⟨T,rfl⟩;refine aa ?_;grind
def A5 {b:List cm} (a:mx H b8 b h3):H.le h3.2.2:=by
 induction a with
 |nil H b8=>exact ag.le_refl
 |stop a _=>exact zZ a
 |step a _ _ ih=>exact(zZ a).trans ih
theorem GQ: ∀ {a:List cm}{d:Nat}{b:List aQ},cN d b->d+a.length<900->(∀c∈a,cI c.row)->(jv b a).1=0->cN (d+a.length) (jv b a).2
 | [],d,b,h,_,_,_=>h
 |c::a,d,b,h,p,o,k=>by
  rw[a4M]at p|-;rw[jv]at k|-;by_cases r:(dX b c).1=0
  .rw[if_pos r]at k|-;have:=GQ (rh h a9k (o c a9l)) a9k (λc x=>o c (by simp[x])) k;grind
  grind
def a3W {a:List cm} (b:cN e X) (c:e+a.length<900) (d: ∀h∈a,cI h.row):cN (e+a.length) (kO X a).2:=by
 unfold kO;split
 .rename_i k;exact GQ b c d k
 .exact b.le a9k
theorem a3X {d:List cm} (h:mx H b8 d h3): ∀ {r:Nat}{b:List aQ},cN r b->r+d.length<900->(∀a∈d,cI a.row)->fR H b8 b->h3.2.2.one=false->h3.1=(jv b d).1/\(h3.1=0->fR h3.2.2 h3.2.1 (jv b d).2):=by
 induction h with
 |nil H b8=>exact λk x c o p=>⟨rfl,λ_=>o⟩
 | @stop H b8 a z h3 h F=>intro r b k x c o p;rw[a4M]at x;obtain⟨y,_⟩:=pP h k a9k (c a a9l) o p;simp_all [jv]
 | @step H b8 a z h3 G h he C ih=>intro r b k x c o p;rw[a4M]at x;obtain⟨y,D⟩:=pP h k a9k (c a a9l) o ((A5 C).zero p);rw[jv,if_pos (by rw[<-y];exact he)];exact ih (rh k a9k (c a a9l)) a9k (λa E=>c a (by simp[E])) D p
theorem a3Y {a:List cm} (b:mx H b8 a h3) (k:cN e X) (o:e+a.length<900) (p: ∀r∈a,cI r.row) (c:fR H b8 X) (x:h3.2.2.one=false):
  h3.1=(kO X a).1/\fR h3.2.2 (if h3.1=0 then h3.2.1 else b8) (kO X a).2:=by
 obtain⟨d,y⟩:=a3X b k o p c x;unfold kO;by_cases h:h3.1=0;simp_all
 .rw[if_neg h,if_neg (by rw[<-d];exact h)];exact⟨d,c.mono (A5 b)⟩
theorem a3Z (h a:List cn) (y p:Own) (S:h.length<=9223372036854775807) (q:a.length<=9223372036854775807) (s: ∀b∈h,cI b.d.row) (t: ∀b∈a,cI b.d.row) (r:U):
  AC Tryz.prog 6 [.J (ju h) y,.J (ju a) p] r λu _=>u= .v (.bool true):=by
 have l2:=ri (a:=h);have l3:=ri (a:=a);refine aM hm JM ?_;refine ai (a3U r) ?_;rintro _ k rfl;refine aa ?_;refine ai (GG h y k S) ?_;rintro _ k ⟨rfl,z,rfl,T⟩;cases z with
 |true=>refine aa ?_;exact⟨_,U.a1⟩
 |false=>
  obtain⟨l4,v⟩:=T rfl;refine aa ?_;refine ai (GG a p k q) ?_;rintro _ k ⟨rfl,z,rfl,V⟩;cases z with
  |true=>refine aa ?_;exact⟨_,U.a1⟩
  |false=>
   obtain⟨l5,e⟩:=V rfl;refine aa ?_;refine aG (λw=> ?_) λw=> ?_
   .exact⟨_,U.a1⟩
   clear T V;refine ai (a3V h y k (λb d=>⟨v b d,s b d⟩) S) ?_;rintro _ A (rfl|⟨C,D,E,W,B,H,f,I,rfl,l6,K,M⟩)
   .refine aa ?_;exact⟨_,U.a1⟩
   refine aa ?_;have c:=M.kP;have N:=c.rep K;refine ai (a3t A C D E B H c.st c.cat a p (λb d=>(e b d).fit) a9k) ?_;rintro _ O ⟨res,g,rfl,Q,i⟩;have j: ∀l∈a.map cn.d,cI l.row:=λl l7=>by
    grind
   have X:(a.map cn.d).length=a.length:=a4T _;have l8:=A5 g;refine aa ?_;refine ai (a3p O W I f (c.rs.my (i.rs c.st)) c.inv a p a9k λb d=>⟨(e b d).fit,t b d⟩) ?_;rintro _ Y ⟨Z,j9,rfl⟩;have F:=Q.GF (c.rs.my (i.rs c.st)) j9;have o:=a3W c.inv a9k j;rw[X]at o;have x:=tf Y C D E _ _ F;cases G:res.2.2.one with
   |true=>rw[G]at x;refine aa ?_;refine ai x ?_;rintro _ m ⟨L,rfl⟩;refine aa ?_;grind
   |false=>rw[G]at x;obtain⟨l9,k0⟩:=a3Y g c.inv a9k j N G;refine aa ?_;refine ai x ?_;rintro _ m ⟨L,rfl⟩;generalize kO f (a.map cn.d)=P at*;have k1:=k0.eq;rw[k1]at F;have k2:=F.sub L;have n:=o.cat a9k;refine aa ?_;refine ai (a2f m C D E _ _ k2 (vw n) n (a3v o a9k)) ?_;rintro _ k3 ⟨k4,k5,k6,rfl,k7⟩;refine aa ?_;refine ai (a3u k3 W _ P.2 (Z.sub (U.au L k4)) o a9k) ?_;rintro _ n0 ⟨n1,k8,k9,rfl,l0⟩;have l1:=λr=>ZI (P.2.map aQ.bA) (P.2.map aQ.bA) k5 k8 k6 k9 r k7 l0 (by have:=o.dE;rw[a4T];omega);refine aa ?_;refine bh (l1 _) ?_;grind
end Go.Proofs.YtlgnfcaolejgeaaGreat
namespace Go.bz
open Go Go.ChangeShapes Go.WideShapes Go.RowKit
def lC (a:World):bl:=λb c=>a.cell? ⟨b,c,none⟩
def a4a (b:World):Holds (lC b) U.emp b:=⟨λ_ _ _ a=>a,λ_ _ a=>by cases a⟩
def fA (k:bl) (a:List Value) (b:List R):Prop:=a.length=b.length/\ ∀(c:Nat) (d:Value) (h:R),a[c]? =some d->b[c]? =some h->aY k d h
variable{u:bl}
theorem fA.nil:fA u [] []:=⟨rfl,λb c d a=>by simp at a⟩
variable{g A e1:List R}
def fA.append {h k:List Value} (c:fA u h g) (o:fA u k A):fA u (h++k) (g++A):=by
 refine⟨by simp[c.1,o.1],λx p r b a=> ?_⟩;rw[a8c]at b a;rw[<-c.1]at a;split at b
 .rename_i d;rw[if_pos d]at a;exact c.2 x p r b a
 .rename_i d;rw[if_neg d]at a;exact o.2 _ p r b a
variable{n b3:R}{e5:Value}
theorem fA.one (a:aY u e5 n):fA u [e5] [n]:=⟨rfl,λb c d h k=>by
 grind⟩
variable{j8:Array Value}
def fA.a4b (a:fA u j8.toList g):bq u j8 g:=bq.dO.2 a
def de (h:Program) (k:TypeId) (o:List R->Prop):Prop:=
 ∀ {b:Type} (p:TypeId×Value->b) (c:World) (r:Nat) (x:Nat->Bool) (y:Bool) (z:Nat) (d:List Value) (C:DataW b×List MemPlace),DataW.trod p h c r x y z k d=some C->
  ∃a,o a/\(∀D∈a,D.one=true)/\fA (lC c) d a
def a4D (a:List R):Prop:= ∃b:Bool,a= [.v (.bool b)]
def SInt (a:IntKind) (c:List R):Prop:= ∃b:Int,(Lit.int a b).wf=true/\c= [.v (.int a b)]
def vB (a:List R):Prop:= ∃b:UInt8,a= [al b]
def rn (a:List R):Prop:= ∃aP:List UInt8,aP.length<=maxLen/\a= [bb aP]
def vC:List (List R->Prop)->List R->Prop
 | [],us=>us= []
 |c::d,us=> ∃a b,c a/\vC d b/\us=a++b
def a4c (a:List R->Prop):Nat->List R->Prop
 |0,us=>us= []
 |d+1,us=> ∃b c,a b/\a4c a d c/\us=b++c
def vD (b:List R->R) (c:List R->Prop) (d:List R):Prop:= ∃a:List (List R),(∀h∈a,c h)/\a.length<=maxLen/\d= [.J (a.map b) .any]
variable{e2:IntKind}{m:Program}{b2:TypeId}
def de.int (a:m.underlying b2=some (.int e2)):de m b2 (SInt e2):=λh k o p r x y z b=>by
 obtain⟨c,rfl,_,d⟩:=DataW.trod_int a b;exact⟨_,⟨c,d,rfl⟩,by simp[R.one],fA.one (.v _ rfl)⟩
def de.byte (b:m.underlying b2=some (.int .u8)):de m b2 vB:=λk o p r x y z C c=>by
 obtain⟨a,rfl,_,d⟩:=DataW.trod_int b c;obtain⟨D,E⟩:=bounds_u8 d;have h:(Value.int .u8 a)= .int .u8 ((UInt8.ofNat a.toNat).toNat):=by congr 1;rw[a5O];omega
 refine⟨_,⟨UInt8.ofNat a.toNat,rfl⟩,by simp[al,R.one],fA.one ?_⟩;rw[al,<-h];exact .v _ rfl
def de.str (b:m.underlying b2=some .string):de m b2 rn:=λh k o p r x y z c=>by
 obtain⟨a,rfl,_,C⟩:=DataW.trod_string b c;refine⟨_,⟨a.data.toList,by trivial,rfl⟩,by simp[bb,R.one],fA.one ?_⟩;have d:(⟨a.data.toList.toArray⟩)=a:=by cases a;simp
 rw[bb,d];exact .v _ rfl
def A6 (a:Program):List Field->List (List R->Prop)->Nat->Nat->Prop
 | [],[],off,b=>off=b
 |c::d,h::rs,off,b=>c.offset=off/\de a c.type h/\A6 a d rs (off+a.cellsOf c.type) b
 | _,_,_,_=>False
theorem de.struct {b:Array Field}{r:List (List R->Prop)} (F:m.underlying b2=some (.struct b)) (G:A6 m b.toList r 0 (m.cellsOf b2)):de m b2 (vC r):=λL y P S T B p H V=>by
 obtain⟨W,e,_,_,f,g,i⟩:=DataW.trod_struct F V;have j: ∀(k:List Field) (c:List (List R->Prop)) (a d:Nat),b.toList.drop a=k->A6 m k c d (m.cellsOf b2)-> ∃h,vC c h/\(∀l∈h,l.one=true)/\fA (lC y) (p.drop d) h:=by
  intro k
  induction k with
  |nil=>
   intro c a d n x;cases c with
   |cons _ _=>trivial
   |nil=>exact⟨[],rfl,a9l,by rw[a6d (by rw[f];exact a9d x.symm)];exact fA.nil⟩
  |cons o k ih=>
   intro c a d n x;cases c with
   |nil=>trivial
   |cons I c=>
    obtain⟨z,C,D⟩:=x;have K:a<b.toList.length:=by grind[List.drop_of_length_le]
    have q:b.toList[a]=o/\b.toList.drop (a+1)=k:=by grind[List.drop_eq_getElem_cons,List.cons.inj]
    obtain⟨h,s,M,t⟩:=ih c (a+1) _ q.2 D;have u:b[a]? =some o:=by grind
    have:=i a o u;have v:a<W.length:=by rw[g];trivial
    rw[a4H v,z]at this;obtain⟨E,w,N,a3⟩:=C L y P S T e _ _ this;refine⟨E++h,⟨E,h,w,s,rfl⟩,?_,?_⟩;grind
    .have A:p.drop d=(p.drop d).take (m.cellsOf o.type)++p.drop (d+m.cellsOf o.type):=by rw[<-a5w,a5p]
     rw[A];exact a3.append t
 obtain⟨h,z,C,D⟩:=j b.toList r 0 0 rfl G;grind
theorem GR {h o:Type} (c:h->Option o): ∀(a:List h) (d:List o),a.mapM c=some d->d.length=a.length/\ ∀(p:Nat) (r:h),a[p]? =some r-> ∃x,d[p]? =some x/\c r=some x
 | [],d,b=>by simp_all
 |z::a,d,b=>by
  rw[List.mapM_cons]at b;cases y:c z with
  |none=>simp[y]at b
  |some D=>
   cases k:a.mapM c with
   |none=>simp[k]at b
   |some C=>simp[y,k]at b;subst b;obtain⟨E,F⟩:=GR c a C k;grind
variable{e i v O b9 j1:Nat}{l h8:World}
def GS {d:Addr}{c:List Value} (b:l.cells? i d e=some c):c.length=e/\ ∀a,a<e->c[a]? =l.cell? (d.add a):=by
 unfold World.cells? at b;split at b
 .obtain⟨h,k⟩:=GR _ _ _ b;refine⟨by simpa using h,λa o=> ?_⟩;obtain⟨x,p,r⟩:=k a a (by simp[o]);rw[p,r]
 .cases b
theorem a4d {b:Addr} (a:l.cell? b=some e5):b.spot=none:=by
 unfold World.cell? at a;split at a;simp_all
 .cases a
theorem add_add {a:Addr} (d:a.spot=none) (b:Nat):a.add b=⟨a.block,a.off+b,none⟩:=by
 unfold Addr.add;split
 .rename_i c;subst c;cases a;simp_all
 .rfl
structure tj (b:List R->R) (a:List R->Prop) (k:Nat):Prop where
 len: ∀us,a us->us.length=k
 cells: ∀us,a us->(b us).cells=us
def GU {c:List R->R}{d:List R->Prop}{o:Nat} (h:tj c d o): ∀b:List (List R),(∀a∈b,d a)->flat (b.map c)=b.flatten
 | [],_=>rfl
 |a::b,k=>by
  simp only[a5f,flat,a5j,a6v];rw[h.cells a (k a a9l)];have:=GU h b λa p=>k a (by simp[p]);simp only[flat]at this;rw[this]
theorem de.slice {u:TypeId}{r:List R->Prop}{l:List R->R} (Z:m.underlying u=some (.slice b2)) (j9:m.cellsOf b2=e) (n:0<e) (F:tj l r e) (k0:de m b2 r):de m u (vD l r):=λk1 k v k2 k3 n1 n2 o k4=>by
 rcases DataW.trod_slice Z k4 with ⟨rfl,_⟩|⟨W,len,w,k5,n3,k6,_,rfl,_,n4,k7,n5,n9,A,_,_⟩
 .exact⟨_,⟨[],a9l,a9l,rfl⟩,by simp[R.one],fA.one (.dh none 0 .any (λ_=>rfl) trivial)⟩
 .rw[j9]at A;have B: ∀c,c<len-> ∃b x,r b/\(∀y∈b,y.one=true)/\k.cells? v (W.add (c*e)) e=some x/\fA (lC k) x b:=λc p=>by
   have H:=A c p;have k8:c<k5.length:=a9k;rw[a4H k8,Option.bind_eq_some_iff]at H;obtain⟨x,f,q⟩:=H;obtain⟨b,s,I,K⟩:=k0 k1 k v k2 k3 k6 x _ q;grind
  by_cases k9:len=0
  .subst k9;exact⟨_,⟨[],a9l,a9l,rfl⟩,by simp[R.one],fA.one (.dh (some W) w .any (λl0=>by cases l0) trivial)⟩
  .have M:W.spot=none:=by obtain⟨b,x,_,_,f,_⟩:=B 0 a9k;obtain⟨q,t⟩:=GS f;have S:=t 0 n;simp only[a7Z]at S;grind[List.getElem?_eq_getElem,Addr.add,a4d]
   obtain⟨z,C,a00⟩:=W;simp only at M;subst M;have l1: ∃d:List (List R),d.length=len/\ ∀c b,d[c]? =some b->r b/\(∀y∈b,y.one=true)/\ ∀a h,b[a]? =some h-> ∃o,k.cell? ⟨z,C+(c*e+a),none⟩=some o/\aY (lC k) o h:=by
    have: ∀D,D<=len-> ∃d:List (List R),d.length=D/\ ∀c b,d[c]? =some b->r b/\(∀y∈b,y.one=true)/\ ∀a h,b[a]? =some h-> ∃o,k.cell? ⟨z,C+(c*e+a),none⟩=some o/\aY (lC k) o h:=by
     intro D
     induction D with
     |zero=>simp
     |succ D ih=>
      intro a01;obtain⟨d,T,V⟩:=ih a9k;obtain⟨b,x,s,I,f,K⟩:=B D a9k;refine⟨d++ [b],by simp[T],λc N p=> ?_⟩;rw[a8c]at p;split at p
      .exact V c N p
      .rename_i a02;have l2:c=D:=by grind
       subst l2;have:N=b:=by simp_all
       subst this;refine⟨s,I,λa h g=> ?_⟩;have l3:a<e:=by have:=(a4P.1 g).1;rw[F.len _ s]at this;exact this
       obtain⟨q,t⟩:=GS f;have S:=t a l3;have O:a<x.length:=a9k;rw[a4H O]at S;have l4:((⟨z,C,none⟩:Addr).add (c*e)).add a=⟨z,C+(c*e+a),none⟩:=by rw[add_add (by rw[add_add rfl]),add_add rfl];simp[a8j]
       rw[l4]at S;exact⟨x[a],S.symm,K.2 a _ _ (a4H O) g⟩
    simp_all
   obtain⟨d,T,V⟩:=l1;have G: ∀b2∈d,r b2:=λb2 E=>by
    obtain⟨c,p,rfl⟩:=a5t E;exact(V c _ (a4H p)).1
   have Q:=GU F d G;have l5: ∀(L:List (List R)),(∀b2∈L,r b2)-> ∀a h,L.flatten[a]? =some h-> ∃b,L[a/e]? =some b/\b[a%e]? =some h:=by
    intro L
    induction L with
    |nil=>intro _ a h P;simp at P
    |cons b2 L ih=>
     intro X a h P;have a03:=F.len b2 (X b2 a9l);rw[a6v,a8c]at P;split at P;grind[Nat.div_eq_of_lt,Nat.mod_eq_of_lt]
     .rename_i g;obtain⟨b,l6,l7⟩:=ih (λb2 E=>X b2 (by simp[E])) (a - b2.length) h P;have Y:a=(a - b2.length)+e:=a9k;refine⟨b,?_,?_⟩
      .rw[Y,Nat.add_div_right _ n];exact l6
      .rw[Y,Nat.add_mod_right];exact l7
   have a04:d.flatten.length=len*e:=by
    rw[<-T];clear l5 Q T V
    induction d with
    |nil=>simp
    |cons b2 d ih=>rw[a6v,a4J,ih (λb2 E=>G b2 (by simp[E])),F.len b2 (G b2 a9l),a4M,a5Q,a7C,a8t]
   refine⟨_,⟨d,G,a9k,rfl⟩,by simp[R.one],fA.one ?_⟩;have l8: ∀a h,d.flatten[a]? =some h-> ∃o,k.cell? ⟨z,C+a,none⟩=some o/\aY (lC k) o h:=λa h P=>by
    grind[Nat.div_add_mod']
   refine aY.J z C len w e (λa=>(k.cell? ⟨z,C+a,none⟩).getD undef) (d.map l) .any n (by simp[T]) k7 ?_ ?_ ?_ ?_ trivial
   .intro b2 E;obtain⟨b,i,rfl⟩:=a5c.1 E;rw[F.cells b (G b i),F.len b (G b i)]
   .intro y j;rw[Q,a8q]at j;obtain⟨b,i,j⟩:=j;obtain⟨c,p,rfl⟩:=a5t i;exact(V c _ (a4H p)).2.1 y j
   .intro a g;have l9:a<d.flatten.length:=a9k;obtain⟨o,n0,a05⟩:=l8 a _ (a4H l9);show k.cell? _= _;rw[n0];rfl
   grind
def tk (b:Program) (c:TypeId) (k:R->Prop):Prop:=
 ∀ {d:Type} (o:TypeId×Value->d) (a:World) (p:Nat) (r:Nat->Bool) (v:Value) (x:DataW d) (y:List MemPlace),Value.okWide b a .any p c v->DataW.Trod o b a 0 r true c v x y-> ∃h,k h/\aY (lC a) v h
theorem a4e {a:Reach}{v:Value} (b:Cell.okWide m l a e b2 v):v.cells= #[v]:=by
 cases v with
 |agg cs=>simp_all [Cell.okWide,Cell.ok]
 |tuple cs=>rfl
 | _=>rfl
def isRow (a:Option TypeDesc):Bool:=
 match a with
 |some (.struct _)=>true
 |some (.array _ _)=>true
 | _=>false
def vE (a:List R->Prop) (b:R):Prop:=a [b]
def a4E (b:List R->Prop) (c:R):Prop:= ∃a,b a/\c= .agg a
def tk.cell {k:List R->Prop} (b:isRow (m.underlying b2)=false) (p:de m b2 k):tk m b2 (vE k):=λr x L y v P S c z=>by
 obtain⟨C,D⟩:=z;obtain⟨E,d,T,a⟩:=p r x 0 y true C _ _ D;have F:v.cells= #[v]:=by
  unfold Value.okWide at c;split at c
  .rename_i h;rw[h]at b;cases b
  .rename_i h;rw[h]at b;cases b
  .exact a4e c
 rw[F]at a;have G:=a.1
 match E,G,d,a with
 | [o],_,d,a=>exact⟨o,d,a.2 0 v o rfl rfl⟩
def tl (a:Program):List TypeId->List (R->Prop)->Prop
 | [],[]=>True
 |b::sh,c::lD=>tk a b c/\tl a sh lD
 | _,_=>False
def tm:List (R->Prop)->List R->Prop
 | [],a=>a= []
 |d::lD,a=> ∃b c,a=b::c/\d b/\tm lD c
def GV {r:Program}{z:Type}{C:TypeId×Value->z}{h:World}{D:Nat}{E:Nat->Bool}: ∀(a:List TypeId) (lD:List (R->Prop)) (c:List Value) (k:List (DataW z)) (x:List MemPlace),
  tl r a lD->(∀(o:Nat) b v,a[o]? =some b->c[o]? =some v->Value.okWide r h .any D b v)->DataW.TrodAll C r h 0 E true a c k x-> ∃d,tm lD d/\fA (lC h) c d/\k.length=a.length
 | [],[],c,k,x,_,_,y=>by
  obtain⟨rfl,rfl,rfl⟩:=trodAll_nil y;exact⟨[],rfl,fA.nil,rfl⟩
 |b::a,n::lD,c,k,x,F,G,y=>by
  obtain⟨v,P,S,T,V,W,rfl,rfl,rfl,e,f⟩:=trodAll_cons y;obtain⟨L,g,i⟩:=F.1 C h D E v S V (G 0 b v rfl rfl) e;obtain⟨d,j,l,m⟩:=GV a lD P T W F.2 (λo b v p q=>G (o+1) b v (by trivial) (by trivial)) f;exact⟨L::d,⟨L,d,rfl,g,j⟩,(fA.one i).append l,by simp[m]⟩
 | [],_:: _,_,_,_,p,_,_=>p.elim
 | _:: _,[],_,_,_,p,_,_=>p.elim
def a4f {a:MemPlace} (b:h8.heap[a.block]? =l.heap[a.block]?):l.sameAt h8 a:=by
 cases a with
 |cell c off=>show h8.cell? _=l.cell? _;have b:h8.heap[c]? =l.heap[c]? :=b;simp only[World.cell?,b]
 |map c=>exact b
theorem GW {b:Program}{z:Type}{C:TypeId×Value->z}{D E:World}{y:Nat} (F:laidOutB b=true) (G: ∀c,c<y->E.heap[c]? =D.heap[c]?): ∀(d:List TypeId) (o:List Value) (p:List (DataW z)) (h:List MemPlace),
  (∀a∈d,b.readableRec a=true/\a<b.types.size)->(∀L∈h,L.block<y)->DataW.TrodAll C b D 0 (λ_=>true) true d o p h->DataW.TrodAll C b E 0 (λc=>decide (c<y)) true d o p h
 | [],o,p,h,_,_,k=>by
  obtain⟨rfl,rfl,rfl⟩:=trodAll_nil k;rfl
 |a::d,o,p,h,P,S,k=>by
  obtain⟨v,T,j,V,L,W,rfl,rfl,rfl,e,f⟩:=trodAll_cons k;obtain⟨g,i⟩:=P a a9l;refine trodAll_cons_mk (WideElems.Trod_stays F g i e (λr x=>a4f (G _ (S r (a6T _ x)))) (λr x=>by simp_all)) ?_;exact GW F G d T V W (λa k=>P a (by simp[k])) (λr x=>S r (a6O _ x)) f
theorem a4g {b:MemPlace->Prop} (c:h8.os=l.os) (d:h8.output=l.output) (h: ∀a,a<l.heap.size->h8.heap[a]? =l.heap[a]?):l.keptBut h8 b:=by refine⟨c,d,λk o=> ?_⟩;grind
variable{I:Bool}{b5:FuncId}{b0:Type}
theorem a4h {L:TypeId×Value->b0}{c:Func}{k:ChangeSpec}{n q:Bool}{C:List (R->Prop)} (s:laidOutB m=true) (t: ∀d∈c.params.toList,m.readableRec d=true/\d<m.types.size)
  (P:k.vars= []) (u:c.resultTypes= #[b2]) (o:m.underlying b2=some .bool) (w:tl m c.params.toList C) (D: ∀a:List (DataW b0),a.length=c.params.toList.length->k.fn b0 a= {results:= [.lit (.bool true)],args:=a,vars:= []})
  (p:U) (b:World) (A:Holds (lC b) p b) (B: ∀h r,p h=some r-> ∃E,r= .ro E)
  (H: ∀x,tm C x->AC m b5 x p λS _=>S= .v (.bool true))
  (K:Nat) (args:Array Value) (a M:List (DataW b0)) (N:List MemPlace) (O: ∀(y:Nat) d v,c.params[y]? =some d->args[y]? =some v->Value.okWide m b .any K d v)
  (T:DataW.Whole L m c.params.toList k.vars I b args.toList a M N):
  Calls m b5 args b λV W=> ∃v,V= .returned v/\k.post L m c I n q false b args v W:=by
 have e:=T;obtain⟨f,k2,g,i,rfl,_,_⟩:=T;rw[P]at i;obtain⟨rfl,rfl⟩:=trodVars_none i;obtain⟨x,Q,X,F⟩:=GV _ C _ _ _ w (λy d v j k3=>O y d v (by simp_all) (by simp_all)) g;have Y:=λZ j9=>e.lt Z (a6T _ j9);refine(H x Q args b (lC b) X.a4b A).mono ?_;rintro V W ⟨v,S,k4,k5,rfl,z,k0,rfl⟩;have k1:v= .bool true:=by cases k0;rfl
 subst k1;have l:=λh o=>by
  cases G:p h with
  |none=>exact z.block h o G
  |some r=>obtain⟨E,rfl⟩:=B h r G;exact(z.jw h E o G).1
 refine⟨_,rfl,a,[],f++ [],[],f,[],e,?_,?_,?_,a4g z.os z.output.1 l,λj=>by cases j⟩
 .rw[a5M,D a F,u];exact trodAll_cons_mk (shut_bool o true) trodAll_mk0
 .rw[a5M,D a F];exact GW s l _ _ _ _ t Y g
 .rw[a5M,D a F,P];rfl
def a4i {k:TypeId×Value->b0}{a:Func}{h:ChangeSpec}{C D:Bool}{o:List (R->Prop)} (E:laidOutB m=true) (F: ∀d∈a.params.toList,m.readableRec d=true/\d<m.types.size)
  (G:h.vars= []) (L:a.resultTypes= #[b2]) (P:m.underlying b2=some .bool) (S:tl m a.params.toList o) (T: ∀b:List (DataW b0),b.length=a.params.toList.length->h.fn b0 b= {results:= [.lit (.bool true)],args:=b,vars:= []})
  (V: ∀p,tm o p->AC m b5 p U.emp λW _=>W= .v (.bool true))
  (c:World) (r:Nat) (args:Array Value) (b x:List (DataW b0)) (y:List MemPlace) (e: ∀(z:Nat) d v,a.params[z]? =some d->args[z]? =some v->Value.okWide m c .any r d v)
  (f:DataW.Whole k m a.params.toList h.vars I c args.toList b x y):
  Calls m b5 args c λg i=> ∃v,g= .returned v/\h.post k m a I C D false c args v i:=
 a4h E F G L P S T U.emp c (a4a c) (λ_ _ j=>by cases j) V r args b x y e f
open Go
def rp (a:List R):R:=a.headD (.aL [])
end Go.bz
namespace Go.Proofs.YtlgnfcaolejgeaaGreat
open Go Go.bz
variable{b1:Int}
def wf_i64 (b:(Lit.int .i64 b1).wf=true): -9223372036854775808<=b1/\b1<=9223372036854775807:=by
 have a:IntKind.i64.min<=b1/\b1<=9223372036854775807:=by simpa[Lit.wf] using b
 have c:IntKind.i64.min= -9223372036854775808:=a9o;rw[c]at a;exact a
def a4j:tj rp (SInt .i64) 1:=⟨by rintro a ⟨b,_,rfl⟩;rfl,by rintro a ⟨b,_,rfl⟩;rfl⟩
abbrev vF:List R->Prop:=vD rp (SInt .i64)
variable{g A e1:List R}
theorem a4k (o:vF g): ∃h:List Int,cI h/\g= [.J (ad h) .any]:=by
 obtain⟨b,k,p,r⟩:=o;have: ∃a:List Int,cI a/\b.map rp=ad a:=by
  clear p r
  induction b with
  |nil=>exact⟨[],(λF x=>by cases x),rfl⟩
  |cons c b ih=>
   obtain⟨a,y,z⟩:=ih λc C=>k c (by simp[C]);obtain⟨D,E,rfl⟩:=k c a9l;refine⟨D::a,?_,by simp only[a5f,z];rfl⟩;intro v d;rcases a5g.1 d with rfl|d
   .have:=wf_i64 E;omega
   .exact y v d
 simp_all
def a4l:tj rp rn 1:=⟨by rintro a ⟨b,_,rfl⟩;rfl,by rintro a ⟨b,_,rfl⟩;rfl⟩
abbrev vG:List R->Prop:=vD rp rn
theorem a4m (h:vG g): ∃k:List (List UInt8),g= [.J (bE k) .any]:=by
 obtain⟨a,d,o,p⟩:=h;have: ∃b:List (List UInt8),a.map rp=bE b:=by
  clear o p
  induction a with
  |nil=>exact⟨[],rfl⟩
  |cons c a ih=>obtain⟨b,r⟩:=ih λc x=>d c (by simp[x]);obtain⟨y,z,rfl⟩:=d c a9l;exact⟨y::b,by simp only[a5f,r];rfl⟩
 simp_all
abbrev vH:List R->Prop:=vC [vB,rn,vG,vF]
def GX (b:vH g): ∃a:cn,cI a.d.row/\g=a.C:=by obtain⟨_,_,⟨c,rfl⟩,⟨_,_,⟨d,_,rfl⟩,⟨_,_,h,⟨_,_,k,o,rfl⟩,rfl⟩,rfl⟩,rfl⟩:=b;obtain⟨p,rfl⟩:=a4m h;obtain⟨r,x,rfl⟩:=a4k k;cases o;exact⟨⟨⟨c,d,p,r⟩,.any,.any⟩,x,rfl⟩
def a4n:tj R.agg vH 4:=⟨λb a=>by obtain⟨c,_,rfl⟩:=GX a;rfl,λb a=>rfl⟩
abbrev tn:List R->Prop:=vD R.agg vH
theorem a4o (p:tn g): ∃d:List cn,(∀h∈d,cI h.d.row)/\d.length<=maxLen/\g= [.J (ju d) .any]:=by
 obtain⟨b,o,r,x⟩:=p;have: ∃a:List cn,a.length=b.length/\b.map R.agg=ju a/\ ∀h∈a,cI h.d.row:=by
  clear r x
  induction b with
  |nil=>exact⟨[],rfl,rfl,λc k=>by cases k⟩
  |cons c b ih=>obtain⟨a,y,z,D⟩:=ih λc k=>o c (by simp[k]);obtain⟨C,E,rfl⟩:=GX (o c a9l);refine⟨C::a,by simp[y],by rw[a5f,z];rfl,?_⟩;grind
 grind
variable{n b3:R}
theorem GY (b:vE tn n): ∃a:List cn,(∀c∈a,cI c.d.row)/\a.length<=9223372036854775807/\n= .J (ju a) .any:=by obtain⟨a,d,h,k⟩:=a4o b;grind[hm,maxLen,List.cons.inj]
def a4p:de Tryz.prog 5 vB:=de.byte a9p
def GZ:de Tryz.prog 9 rn:=de.str a9p
def a4q:de Tryz.prog 2 (SInt .i64):=de.int a9p
def a4r:de Tryz.prog 24 vF:=de.slice (e:=1) (by kernel_rfl:Tryz.prog.underlying 24=some (.slice 2)) a9p a9k a4j a4q
def a4s:de Tryz.prog 46 vG:=de.slice (e:=1) (by kernel_rfl:Tryz.prog.underlying 46=some (.slice 9)) a9p a9k a4l GZ
def a4t:de Tryz.prog 64 vH:=de.struct (r:= [vB,rn,vG,vF]) Tryz.underlying64 (by
 refine⟨by rfl,a4p,by rfl,GZ,by rfl,a4s,by rfl,a4r,(by show _= _;rfl)⟩)
def H0:de Tryz.prog 22 tn:=de.slice (e:=4) (by kernel_rfl:Tryz.prog.underlying 22=some (.slice 64)) a9p a9k a4n a4t
end Go.Proofs.YtlgnfcaolejgeaaGreat
namespace Go.Proofs.YtlgnfcaolejgeaaGreat.stateAll
open Go
def jA:(Rows.stateAllRow.inPlace==Tryz.prog.inPlace 6)=true:=a9p
def jB:(Rows.stateAllRow.unfollowed==Tryz.prog.unfollowed 6)=true:=a9p
def jC:(Rows.stateAllRow.named==Tryz.prog.varsNamed 6)=true:=a9p
def jD:(laidOutB Tryz.prog&&mapsRowed Tryz.prog&&Tryz.f6.params.all (Tryz.prog.readableRec ·)&&namedTie Tryz.prog Rows.stateAllRow.named Rows.stateAllSpec.vars&&(Tryz.prog.stops== [])&&(Tryz.prog.stopKnobs== []))=true:=a9p
def sH:(Rows.stateAllRow.lifted==Tryz.prog.liftsFinal)=true:=a9p
def jF:(Tryz.prog.stopsHeard&&Tryz.prog.mayEnter&&(Tryz.prog.make==some Rows.stateAllRow.make)&&(Rows.stateAllRow.pinned==Rows.stateAllRow.pinnedBy))=true:=a9p
def a4u:joinedFacts Tryz.prog 6 Tryz.f6 Rows.stateAllSpec Rows.stateAllRow=true:=by
 unfold joinedFacts;have d:=jA;have a:=jB;have h:=jC;have b:=jD;have k:=sH;have c:=jF;simp only[a4L]at b c;obtain⟨⟨⟨⟨⟨o,p⟩,r⟩,x⟩,y⟩,z⟩:=b;obtain⟨⟨⟨C,D⟩,E⟩,F⟩:=c;have G:(Rows.stateAllRow.recurses==Tryz.prog.recurses 6)=true:=by have L:Rows.stateAllRow.unfollowed=Tryz.prog.unfollowed 6:=eq_of_beq a;unfold Program.recurses;rw[<-L];rfl
 rw[d,a,h,o,p,r,x,y,z,k,C,D,E,F,G];decide+kernel
end Go.Proofs.YtlgnfcaolejgeaaGreat.stateAll
