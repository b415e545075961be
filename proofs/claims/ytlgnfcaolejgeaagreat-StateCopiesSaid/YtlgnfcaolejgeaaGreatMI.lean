import Derived.Test.YtlgnfcaolejgeaaGreatMH
import Derived.Test.YtlgnfcaolejgeaaGreatMF
import Derived.Test.YtlgnfcaolejgeaaGreatMD
import Derived.Test.YtlgnfcaolejgeaaGreatME
import Derived.Test.YtlgnfcaolejgeaaGreatMG
import Derived.Test.YtlgnfcaolejgeaaGreatMC
import Derived.ProofKit
import Derived.OpenShut
import Derived.WideKeyArgs
import Derived.Test.YtlgnfcaolejgeaaGreatRows
import Derived.JoinedOf
set_option linter.all false
set_option maxRecDepth 100000
namespace Go.Proofs.YtlgnfcaolejgeaaGreat
open Go Go.bx
def ik (a:ay) (b c d:Own) (k:a.sum.length=32):(ab a b c d).length=37/\aX true 2 ((ab a b c d).drop 32)=er a.aU a.aV b c/\aX false 1 ((ab a b c d).drop 34)= .v (.int .i64 a.live)/\aX false 1 ((ab a b c d).drop 35)= .v (.int .i64 a.size)/\aX false 1 ((ab a b c d).drop 36)= .J (ad a.key) d/\aX true 37 (ab a b c d)= .agg (ab a b c d):=by have h:=aW (M:=b) (e6:=c) (h4:=d) k;refine⟨h.len,by rw[h.d32];rfl,by rw[h.d34];rfl,by rw[h.d35];rfl,by rw[h.d36];rfl,?_⟩;show R.agg ((ab a b c d).take 37)= _;rw[h.t37]
theorem Gr (a:c3) (S V:List R) (l m:Own) (y:U) (Z:az de a.rows S) (j9:az bu a.kids V) (a65:a.rows.length<=4) (a68:a.kids.length<=4)
  (k4: ∀o∈a.rows,1<=o.1.length/\o.1.length<=8) (l6: ∀c∈a.kids,c.ht/\c.sum.length=32/\c.cz) (a01:(eC a).size<=1048576) (a02:a.kind=2->a.rows≠ []) (a03:a.kind=3->a.kids≠ []):
  AC Tryz.prog 113 [gM a (.J S l) (.J V m)] y λo F=>y.sub F/\ ∃h k H,o= .aK [.agg (ab (eS a) h k H),.v (.bool true)]:=by
 have a69:=Z.len;have a71:=j9.len;have a73:(cX a).length<=3000:=by have l7:=qC λo r=>xp (k4 o r).2;grind[yB,cX,List.length_append,List.length_cons]
 have eN:=ik aA .nil .nil .nil bj;have x:(eR (cX a)).length=32:=ob _;have z:(⟨eR (cX a),(eC a).aO.1,(eC a).aO.2,(eC a).live,(eC a).size,keyOf a⟩)=eS a:=rfl;have k0:=λa04 y r=>a1B (cX a) a04 y r a8Z;have l8:=λy=>a0p a S V l m y Z j9 a8Z a8Z (λo r=>(k4 o r).2) l6;generalize eR (cX a)=p at*;generalize eS a=G at*;have a74:(cG p).cells=p.map al:=rfl;have a81:(p.map al).length=32:=by simp[x]
 have a83:putAt (ab aA .nil .nil .nil) 0 (p.map al)=ab (fJ p ⟨0,0,([],[])⟩) .nil .nil .nil:=ue bj x;have n: ∀c:ay,c.sum.length=32-> ∀h k H,putAt (ab aA .nil .nil .nil) 0 (ab c h k H)=ab c h k H:=λc r h k H=>cB bj r;have a84:=n (fJ p ⟨0,0,([],[])⟩) x .nil .nil .nil;have P:=λd h k=>ik (fJ p d) h k .nil x;have a86:=P ⟨0,0,([],[])⟩ .nil .nil;refine aN hm Mw ?_;refine bp λv a05=> ?_;refine cW λI a06 a88 a07=> ?_;rw[cn];have l9:((y.set v (.cells [.v (.int .u8 a.kind.toNat),.J S l,.J V m])).set I (.cells (ab aA .nil .nil .nil))) v=some (.cells [.v (.int .u8 a.kind.toNat),.J S l,.J V m]):=by rw[U.ao _ _ a07,U.ah]
 have n0:=U.ah (y.set v (.cells [.v (.int .u8 a.kind.toNat),.J S l,.J V m])) I (.cells (ab aA .nil .nil .nil));have n1:y.sub ((y.set v (.cells [.v (.int .u8 a.kind.toNat),.J S l,.J V m])).set I (.cells (ab aA .nil .nil .nil))):=U.af (U.af U.a1 a05) a06;generalize (y.set v _).set I _=a08 at*;refine hN (l8 a08) λa09 w k5=> ?_;have k0:=k0 a09 w (nD.an k5);have k1:=k5.sub;refine bc k0 ?_;clear k0 l8;refine aM λf g=> ?_;have k6:=k1 _ _ l9;have c2:=k1 _ _ n0;have a89:v≠f:=by rintro rfl;rw[k6]at g;cases g
 have a90:I≠f:=by rintro rfl;rw[c2]at g;cases g
 have a10:=U.ar n1 k1;clear k1 l9 n0 n1 k5;refine aa ?_;refine ch [1,2,4] (λb:Nat=> [(5,.v (.int .i64 (b)))]) (λb F=>b<=a.rows.length/\w.sub F/\(0<=((a.rows.take b).foldl dK ⟨0,a.rows.length,([],[])⟩).live/\((a.rows.take b).foldl dK ⟨0,a.rows.length,([],[])⟩).live<=b/\((a.rows.take b).foldl dK ⟨0,a.rows.length,([],[])⟩).aO.1.length<=8/\((a.rows.take b).foldl dK ⟨0,a.rows.length,([],[])⟩).aO.2.length<=8)/\
   ∃h k,F f=some (.cells (ab (fJ p ⟨((a.rows.take b).foldl dK ⟨0,a.rows.length,([],[])⟩).live,b,((a.rows.take b).foldl dK ⟨0,a.rows.length,([],[])⟩).aO⟩) h k .nil))) (λb=>a.rows.length - b) 0 ⟨⟨a5d _,U.af (U.af U.a1 g) g,a9a,.nil,.nil,U.ah _ _ _⟩,aR⟩ ?_
 rintro b k7 ⟨a11,i,⟨a92,a94,a13,a14⟩,h,k,aI⟩ a15;have K:=λr=>eQ (a:=a.rows) (b:=([],false)) (e:=b) r;have C:=λr=>congrArg (List.foldl dK ⟨0,a.rows.length,([],[])⟩) (K r);generalize k2:(a.rows.take b).foldl dK ⟨0,a.rows.length,([],[])⟩=d at*;have n2:=U.ae (i _ _ k6);have M:=U.ae aI;have N:=P ⟨d.live,b,d.aO⟩ h k;have n3:putAt (ab (fJ p ⟨d.live,b,d.aO⟩) h k .nil) 35 [.v (.int .i64 ((b)+1))]=ab (fJ p ⟨d.live,(b)+1,d.aO⟩) h k .nil:=sr x;have q:=U.aJ aI
 dsimp only at N
 refine aa ?_;refine aG (λO=> ?_) λO=> ?_
 .have A:b<a.rows.length:=a8Z;have Q:a.rows[b]? =some (a.rows.getD b ([],false)):=by simp_all
  obtain⟨_,j,W,rfl⟩:=Z.get Q;have k3:=k4 _ (a4D Q);have C:=C A;rw[a6v,k2]at C;generalize a.rows.getD b ([],false)=o at*;have n4:ez 2 S[b]? =some (.bV [.J (ad o.1) W,.v (.bool o.2)]):=by rw[j];rfl
  obtain⟨o,a16⟩:=o
  dsimp only at k3 n4
  have k8:=P ⟨d.live,(b)+1,d.aO⟩ h k
  dsimp only at k8
  cases a16 with
  |false=>
   refine aa ?_;have s:(a.rows.take (b+1)).foldl dK ⟨0,a.rows.length,([],[])⟩=d:=by rw[C];rfl
   refine⟨b+1,⟨A,?_,h,k,?_⟩,rfl,a8Z⟩;grind
   .rw[s];push_cast;rfl
  |true=>
   have a18:putAt (ab (fJ p ⟨d.live,(b)+1,d.aO⟩) h k .nil) 34 [.v (.int .i64 (d.live+1))]=ab (fJ p ⟨d.live+1,(b)+1,d.aO⟩) h k .nil:=sq x;have e:=P ⟨d.live+1,(b)+1,d.aO⟩ h k
   dsimp only at e
   refine aa ?_;generalize t:k7.set f _=u;have k9:u f=some (.cells (ab (fJ p ⟨d.live+1,(b)+1,d.aO⟩) h k .nil)):=by subst t;exact U.ah _ _ _
   have l0:w.sub u:=by subst t;exact U.af i g
   clear t q M;refine ai (Gq d.aO (o,o) h k W W u a8Z (by dsimp only;omega)) ?_;rintro _ a19 ⟨X,D,E,rfl⟩;have l1:=X _ _ k9;have q:=U.aJ l1;have a27:cQ d.aO (gm o)=cQ d.aO (o,o):=by unfold gm;rw[if_pos k3]
   have a29:putAt (ab (fJ p ⟨d.live+1,(b)+1,d.aO⟩) h k .nil) 32 [.J (ad (cQ d.aO (o,o)).1) D,.J (ad (cQ d.aO (o,o)).2) E]=ab (fJ p ⟨d.live+1,(b)+1,cQ d.aO (o,o)⟩) D E .nil:=xr x;have a30:=oe d.aO (o,o) 8 a13 a14 k3.2 k3.2;refine aa ?_;have s:(a.rows.take (b+1)).foldl dK ⟨0,a.rows.length,([],[])⟩=⟨d.live+1,d.size,cQ d.aO (o,o)⟩:=by rw[C];show dK d (o,true)= _;rw[dK,if_pos rfl,a27]
   refine⟨b+1,⟨A,U.ar l0 X,?_,D,E,?_⟩,rfl,a8Z⟩;grind
   .rw[s];push_cast;rfl
 obtain rfl:b=a.rows.length:=a8Z;rw[a4S]at k2;have a34:d.size=a.rows.length:=by rw[<-k2,xJ]
 have a36:(⟨d.live,a.rows.length,d.aO⟩)=d:=by rw[<-a34]
 rw[a36]at aI;clear C K O M N n3 q n2;refine ch [1,2,4] (λb:Nat=> [(6,.v (.int .i64 (b)))]) (λb F=>b<=a.kids.length/\w.sub F/\(0<=((a.kids.take b).foldl ep d).live/\((a.kids.take b).foldl ep d).live<=4+b*1048576/\0<=((a.kids.take b).foldl ep d).size/\((a.kids.take b).foldl ep d).size<=4+b*1048576/\((a.kids.take b).foldl ep d).aO.1.length<=8/\((a.kids.take b).foldl ep d).aO.2.length<=8)/\
   ∃h k,F f=some (.cells (ab (fJ p ((a.kids.take b).foldl ep d)) h k .nil))) (λb=>a.kids.length - b) 0 ⟨⟨a5d _,i,a9b,h,k,aI⟩,aR⟩ ?_
 clear aI i;rintro b k7 ⟨a11,i,⟨a95,a96,a97,a98,a38,a42⟩,h,k,aI⟩ a15;have K:=λr=>eQ (a:=a.kids) (b:=aA) (e:=b) r;have C:=λr=>congrArg (List.foldl ep d) (K r);generalize l2:(a.kids.take b).foldl ep d=T at*;have n2:=U.ae (i _ _ k6);have M:=U.ae aI;have N:=P T h k;have q:=U.aJ aI
 dsimp only at N
 refine aa ?_;refine aG (λO=> ?_) λO=> ?_
 .have A:b<a.kids.length:=a8Z;have Q:a.kids[b]? =some (a.kids.getD b aA):=by simp_all
  obtain⟨_,j,l3,a43,D,E,L,rfl⟩:=j9.get Q;obtain⟨a47,_,_⟩:=l6 _ (a4D Q);obtain⟨l7,a48,a99,b00,b01,b02,b03⟩:=a47;have C:=C A;rw[a6v,l2]at C;generalize a.kids.getD b aA=c at*;have l4:=ik c D E L l3;have n4:ez 37 V[b]? =some (.bV (ab c D E L)):=by rw[j];exact jy l4.1
  have n3:putAt (ab (fJ p T) h k .nil) 35 [.v (.int .i64 (T.size+c.size))]=ab (fJ p ⟨T.live,T.size+c.size,T.aO⟩) h k .nil:=sr x;have a18:putAt (ab (fJ p ⟨T.live,T.size+c.size,T.aO⟩) h k .nil) 34 [.v (.int .i64 (T.live+c.live))]=ab (fJ p ⟨T.live+c.live,T.size+c.size,T.aO⟩) h k .nil:=sq x;have k8:=P ⟨T.live,T.size+c.size,T.aO⟩ h k;have e:=P ⟨T.live+c.live,T.size+c.size,T.aO⟩ h k
  dsimp only at k8 e
  generalize ab c D E L=a52 at*;clear j;refine aa ?_;generalize t:k7.set f _=u;have k9:u f=some (.cells (ab (fJ p ⟨T.live+c.live,T.size+c.size,T.aO⟩) h k .nil)):=by subst t;exact U.ah _ _ _
  have l0:w.sub u:=by subst t;exact U.af i g
  clear t q M;refine ai (Gq T.aO (c.aU,c.aV) h k D E u a8Z (by dsimp only;omega)) ?_;rintro _ a19 ⟨X,cd,ca,rfl⟩;have l1:=X _ _ k9;have q:=U.aJ l1;have a29:putAt (ab (fJ p ⟨T.live+c.live,T.size+c.size,T.aO⟩) h k .nil) 32 [.J (ad (cQ T.aO (c.aU,c.aV)).1) cd,.J (ad (cQ T.aO (c.aU,c.aV)).2) ca]=ab (fJ p ⟨T.live+c.live,T.size+c.size,cQ T.aO (c.aU,c.aV)⟩) cd ca .nil:=xr x;have a30:=oe T.aO (c.aU,c.aV) 8 a38 a42 l7 a48;refine aa ?_;have s:(a.kids.take (b+1)).foldl ep d=⟨T.live+c.live,T.size+c.size,cQ T.aO (c.aU,c.aV)⟩:=by rw[C];rfl
  refine⟨b+1,⟨A,U.ar l0 X,?_,cd,ca,?_⟩,rfl,a8Z⟩;grind
  .rw[s]
 obtain rfl:b=a.kids.length:=a8Z;rw[a4S]at l2;have a56:eC a=T:=by unfold eC;rw[k2,l2]
 rw[a56]at a01 z;have b04:=U.aJ (i _ _ c2);have b05: ∀F:U,w.sub F->y.sub F:=λF r=>U.ar a10 r;clear C K O;have B:G.sum.length=32:=by rw[<-z];exact x
 have l5:G.size=T.size:=by rw[<-z]
 by_cases g2:a.kind=2
 .have bp:(a.kind.toNat:Int)=2:=by rw[g2];rfl
  obtain⟨o,b06,n5⟩:=a6B (a02 g2);obtain⟨_,j,W,rfl⟩:=Z.get (i:=0) (by rw[n5];rfl);have Y:keyOf a=o.1:=by unfold keyOf;rw[if_pos g2,n5];rfl
  rw[Y]at z;have a57:cL 2 (.J S l) (.v (.int .i64 0))=some (.bV [.J (ad o.1) W,.v (.bool o.2)]):=by show cL 2 _ (.v (.int .i64 ((0:Nat))))= _;rw[o0,j];rfl
  have a61:putAt (ab (fJ p T) h k .nil) 36 [.J (ad o.1) W]=ab G h k W:=by rw[<-z];exact ss x
  have e:=ik G h k W B;have n9:=n G B h k W;rw[l5]at e;generalize o.1=a62 at*;clear P n z;refine iu ?_;refine iu ?_;grind
 have bp: ¬(a.kind.toNat:Int)=2:=λs=>g2 (a5s.1 (by grind));refine iu ?_;by_cases g3:a.kind=3
 .have hp:(a.kind.toNat:Int)=3:=by rw[g3];rfl
  obtain⟨c,b07,a00⟩:=a6B (a03 g3);obtain⟨_,j,l3,a43,D,E,L,rfl⟩:=j9.get (i:=0) (by rw[a00];rfl);have Y:keyOf a=c.key:=by unfold keyOf;rw[if_neg g2,if_pos g3,a00];rfl
  rw[Y]at z;have l4:=ik c D E L l3;have a57:cL 37 (.J V m) (.v (.int .i64 0))=some (.bV (ab c D E L)):=by show cL 37 _ (.v (.int .i64 ((0:Nat))))= _;rw[o0,j];exact jy l4.1
  have a61:putAt (ab (fJ p T) h k .nil) 36 [.J (ad c.key) L]=ab G h k L:=by rw[<-z];exact ss x
  have e:=ik G h k L B;have n9:=n G B h k L;rw[l5]at e;generalize ab c D E L=a52 at*;generalize c.key=a62 at*;clear P n z;refine iu ?_;refine iu ?_;grind
 .have hp: ¬(a.kind.toNat:Int)=3:=λs=>g3 (a5s.1 (by grind));have Y:keyOf a= []:=by unfold keyOf;simp_all
  rw[Y]at z;have a63:fJ p T=G:=z;rw[a63]at M N q;have e:=ik G h k .nil B;have n9:=n G B h k .nil;rw[l5]at e;clear P n z;refine iu ?_;refine iu ?_;grind
variable{e i v O b8 j0:Nat}
def a2D: ∀(a:List (a6.T e)),eE (pr a)=a.flatMap (a6.bh e)
 | []=>rfl
 | [b]=>by simp[pr,eE]
 |c::d::h=>rfl
theorem a2E: ∀(a:Nat) (b:a6.T a),eE (vo a b)=a6.bh a b
 |0,b=>by
  obtain⟨d,rfl⟩:=a6.hX b;show eE (if a6.len (a6.leaf d)=0 then none else some ⟨0,a6.leaf d⟩)= _;by_cases c:a6.len (a6.leaf d)=0
  .rw[if_pos c];rw[a6.hY]at c;rw[a6.ku,a4B c];rfl
  .rw[if_neg c];rfl
 |a+1,b=>by
  obtain⟨h,rfl⟩:=a6.gp b;show eE (match a6.kids (a6.node h)with
   | [k]=>some ⟨a,k⟩
   | _=>some ⟨a+1,a6.node h⟩)= _
  grind[a6.fl,a6.fY,eE]
variable{q b6:List Int}{b7:eD}
def a2F (d:1<=e) (h:e<=8) (k:bL e q) (o:iH e b7) (p:q∉eE b7):(eE (kB b7 q)).Perm (q::eE b7):=by
 match b7 with
 |none=>show(a6.bh 0 (a6.leaf [q])).Perm _;rw[a6.ku];rfl
 |some ⟨a,b7⟩=>have b:GT e a b7:=o;have c:q∉a6.bh a b7:=p;simp only[kB];rw[if_neg c,a2D];rw[(a6.qK (gv d h) k a b7 b.wf b.dM b.ok c).1];unfold a6.dL;exact a6W.trans (.cons _ (List.Perm.of_eq a5o))
def a2G (d:1<=e) (h:e<=8) (k:bL e q) (o:iH e b7) (c:q∈eE b7):eE (jr b7 q)=(eE b7).filter λp=>decide (p≠q):=by
 match b7 with
 |none=>cases c
 |some ⟨a,b7⟩=>have b:GT e a b7:=o;have r:q∈a6.bh a b7:=c;simp only[jr];rw[if_pos r,a2E];exact(a6.pq (gv d h) k a b7 b.wf b.dM b.ok).1
theorem Gs (a:List Int) (b:List (List Int)):(hi a b).Perm (a::b):=by grind[List.takeWhile_append_dropWhile,decide,bP,hi,List.perm_middle]
theorem Gt {b:List Int}: ∀ {a:List (List Int)},a.Pairwise (λk o=>bP k<bP o)->(∀c∈a,bP b≠bP c)->(hi b a).Pairwise (λk o=>bP k<bP o)
 | [],_,_=>by simp[hi]
 |c::a,r,x=>by
  obtain⟨z,C⟩:=a5g.1 r;have D:=x c a9a;by_cases y:bP b<bP c
  .have p:hi b (c::a)=b::c::a:=by simp[hi,y]
   rw[p];refine a5g.2 ⟨λh d=> ?_,r⟩;grind
  .have p:hi b (c::a)=c::hi b a:=by simp[hi,y]
   rw[p];refine a5g.2 ⟨λh d=> ?_,Gt C λh d=>x h (by simp[d])⟩;rcases a4T.1 ((Gs b a).mem_iff.1 d)with rfl|d
   .omega
   .exact z h d
theorem Gu: ∀(b a:List (List Int)),(a++b).Pairwise (λh k=>bP h≠bP k)->a.Pairwise (λh k=>bP h<bP k)->(b.foldl (λo c=>hi c o) a).Perm (a++b)/\(b.foldl (λo c=>hi c o) a).Pairwise (λh k=>bP h<bP k)
 | [],a,_,d=>by simpa using d
 |c::b,a,d,p=>by
  have r:=((Gs c a).append_right b).trans a6W.symm;obtain⟨D,E,x⟩:=a5z.1 d;obtain⟨F,G⟩:=Gu b (hi c a) (r.symm.pairwise d λd=>d.symm) (Gt p λy z C=>x y z c a9a C.symm);grind
variable{Q:List (List Int)}
theorem a2H (c:Q.Pairwise (λa b=>bP a<bP b)) (p: ∀d∈Q,bP q≠bP d):(r9 (Q++ [q])).Perm (q::Q)/\(r9 (Q++ [q])).Pairwise (λa b=>bP a<bP b):=by
 have h:([]++(Q++ [q])).Pairwise (λa b=>bP a≠bP b):=by rw[a4P];refine a5z.2 ⟨c.imp λc=>by omega,a9a,λa r b x=> ?_⟩;grind
 obtain⟨k,o⟩:=Gu (Q++ [q]) [] h .nil;exact⟨k.trans (List.perm_append_singleton _ _),o⟩
def eM.put {d:Nat}{a:aT} (b:eM d a) (G:d<900) {c:List Int} (h:bL (a.aD.length+1) c) (o: ∀y∈a.rows,bP y≠bP c):eM (d+1) (a.put c)/\(cY (a.aD.length+1) c a.bM 0).2=true/\c∉eE a.cq:=by
 have L:=b.c;have p:c∉a.rows:=λhm=>o c hm rfl;have r:(cY (a.aD.length+1) c a.bM 0).2=true:=by
  cases z:(cY (a.aD.length+1) c a.bM 0).2 with
  |true=>rfl
  |false=>exact absurd (b.fV.mem_iff.1 (zi z)) p
 have x:c∉eE a.cq:=λhm=>p (b.nH.mem_iff.1 hm);obtain⟨k,C⟩:=a2H b.dM λD E F=>o D E F.symm;have P:=b.nH.length_eq;have S:=b.dw;refine⟨⟨b.right,b.dz.ins h,?_,(a2r a8Z a8Z h b.go a8Z).1,?_,C,?_⟩,r,x⟩
 .exact(zh h b.dz.fe r).trans ((b.fV.cons c).trans k.symm)
 .exact(a2F a8Z a8Z h b.go x).trans ((b.nH.cons c).trans k.symm)
 .show(r9 (a.rows++ [c])).length<=d+1;rw[k.length_eq,a4C];omega
theorem a2I {b:List (List Int)} (d:Q.Pairwise (·≠ ·)) (a:Q.Perm (q::b)):b.Perm (Q.filter λc=>decide (c≠q)):=by have h:=(a.filter λc=>decide (c≠q)).symm;have k:(q::b).Pairwise (·≠ ·):=a.pairwise d λa=>a.symm;obtain⟨o,_⟩:=a5g.1 k;rw[a7K,if_neg a9a]at h;grind[decide,List.filter_eq_self,decide_eq_true]
variable{j7:aT}
def eM.r6 (a:eM e j7):j7.rows.Pairwise (·≠ ·):=a.dM.imp λa b=>by subst b;omega
theorem eM.del {k:Nat}{b:aT} (a:eM k b) {c:List Int} (d:c∈b.rows):eM k (b.del c)/\(cj (b.aD.length+1) c b.bM 0).2=true/\c∈eE b.cq:=by
 have z:=a.c;have h:=a.row d;have o:(cj (b.aD.length+1) c b.bM 0).2=true:=by
  cases r:(cj (b.aD.length+1) c b.bM 0).2 with
  |true=>rfl
  |false=>exact absurd (a.fV.mem_iff.2 d) (zj h.len a.dz.fe a.dz.va r)
 have p:=a.nH.mem_iff.2 d;have x:=a1y a.dz o;refine⟨⟨a.right,a.dz.del,?_,(a2w a8Z a8Z h a.go).1,?_,a.dM.filter _,a5u (a7M _ _) a.dw⟩,o,p⟩
 .exact a2I a.r6 (a.fV.symm.trans x)
 .show(eE (jr b.cq c)).Perm (b.rows.filter λy=>decide (y≠c));rw[a2G a8Z a8Z h a.go p];exact a.nH.filter _
def eM.none (a:eM e j7) (d:q.length=j7.aD.length+1) (b:q∉j7.rows):(cj (j7.aD.length+1) q j7.bM 0).2=false:=by
 cases c:(cj (j7.aD.length+1) q j7.bM 0).2 with
 |false=>rfl
 |true=>exact absurd (a.fV.mem_iff.1 ((v7 c).mem_iff.2 a9a)) b
variable{c0:cw}
theorem zO (a:eu c0=true) (b:c0.kind=1):eu ⟨1,c0.table,c0.aD,[]⟩=true:=by unfold eu at a|-;simp_all
variable{B:List UInt8}
def Gv {a:List (List UInt8)} (b:eu ⟨1,B,a,[]⟩=true):eM e ⟨B,a,[],.nil,none⟩:=⟨b,lx.nil,.refl _,trivial,.refl _,.nil,a5d _⟩
variable{X:List aT}
theorem add_eq (b:dj e X) (d:e<=1000) {a:List (List UInt8)} (h:eu ⟨1,B,a,[]⟩=true):
  jZ (X.map aT.bz) ⟨B,a,aA,aA⟩=if bX X B<X.length then .error 4 else if 7<X.length then .error 10 else .ok ((X.take (js X B)++⟨B,a,[],.nil,none⟩::X.drop (js X B)).map aT.bz):=by
 have k:fR ⟨B,a,aA,aA⟩=true:=(Gv h).bz a8Z;unfold jZ;rw[b.cat d,k,Bool.and_self,if_pos rfl]
 dsimp only
 rw[zJ b,a4I];by_cases c:bX X B<X.length;simp_all
 .rw[if_neg (by simpa using c),if_neg c,a2z a8Z];by_cases c2:7<X.length
  .grind
  .rw[if_neg a8Z,if_neg c2,a5y,a4U,a7Z,a7p];rfl
theorem zP (a:dj e X) (c:e<=1000):cI (X.map aT.bz) B=if bX X B<X.length then .ok ((X.eraseIdx (bX X B)).map aT.bz)else .error 3:=by
 unfold cI;rw[a.cat c,if_pos rfl,zJ a];by_cases b:bX X B<X.length
 .rw[if_pos (decide_eq_true b),if_pos b,Gk a b,a6G,a5y,a7Z,a7p]
 grind
theorem p9 (a:dj e X) (b:e<=1000) (c:eM i j7) (d:i<=1000) (h:bX X j7.name<X.length):ka (X.map aT.bz) j7.bz= .ok ((X.set (bX X j7.name) j7).map aT.bz):=by unfold ka;rw[a.cat b,c.bz d,Bool.and_self,if_pos rfl];show(if gE (X.map aT.bz) j7.name=true then _ else _)= _;rw[zJ a,if_pos (decide_eq_true h)];grind[aT.bz,set,cZ,Gk,List.map_set]
def dj.zQ (c: ∀d∈X,eM e d) (h:cx (X.map aT.bz)=true):dj e X:=by obtain⟨_,a,b⟩:=oG.1 h;rw[a6T]at a;rw[a4I]at b;exact⟨c,a,b⟩
def dj.le {b c:Nat}{d:List aT} (a:dj b d) (h:b<=c):dj c d:=⟨λk o=>(a.ok k o).le h,a.dM,a.dw⟩
theorem dj.set {b:Nat}{a:List aT} (d:dj b a) (x:b<1000) {c:aT} (h:eM (b+1) c) (k:bX a c.name<a.length):dj (b+1) (a.set (bX a c.name) c):=
 dj.zQ (λo p=>by
  rcases a6F p with r|rfl
  .exact(d.ok o r).le a8Z
  .exact h) (G6 (p9 d a8Z h a8Z k))
def vr (a:eu c0=true) (h:c0.kind≠1) (k:c0.kind≠2):(c0.kind=3\/c0.kind=4):=by
 have a:=a;simp only[eu,a4A]at a;have a:=a.2;have c: ∀d:UInt8,c0.kind.toNat=d.toNat->c0.kind=d:=λd b=>a5s.1 b;split at a
 .rename_i b;exact absurd (c 1 b) h
 split at a
 .rename_i b;exact absurd (c 2 b) k
 split at a
 .rename_i b;exact b.imp (c 3) (c 4)
 .cases a
theorem zR (d:dj e X) (y:e<900) (o:cR c0.row):dj (e+1) (eF X c0).2:=by
 have b:=d.le (show e<=e+1 by omega);unfold eF;by_cases p:eu c0=false
 .rw[if_pos p];exact b
 rw[if_neg p];have z:eu c0=true:=by simp_all
 by_cases c1:c0.kind=1
 .rw[if_pos c1];have r:=zO z c1;have h:=add_eq d a8Z r;by_cases c2:bX X c0.table<X.length
  .rw[if_pos c2];exact b
  rw[if_neg c2]at h|-;by_cases aH:7<X.length
  .rw[if_pos aH];exact b
  rw[if_neg aH]at h|-;refine dj.zQ (λc a=> ?_) (G9 h);simp only[a4M,a4T]at a;rcases a with a|rfl|a
  .exact b.ok c (a4K a)
  .exact Gv r
  .exact b.ok c (a5b a)
 rw[if_neg c1];by_cases c2:X.length<=bX X c0.table
 .rw[if_pos c2];exact b
 rw[if_neg c2];have k:bX X c0.table<X.length:=a8Z;by_cases aH:c0.kind=2
 .rw[if_pos aH];have h:=zP (B:=c0.table) d a8Z;rw[if_pos k]at h;exact dj.zQ (λc a=>b.ok c (a7B a)) (G5 (d.cat a8Z) h)
 rw[if_neg aH];have a:=d.ok _ (vq k);have C:=sZ k;generalize X.getD (bX X c0.table) default=c at*;by_cases aI:c0.row.length≠c.aD.length+1
 .rw[if_pos aI];exact b
 rw[if_neg aI];have D:bL (c.aD.length+1) c0.row:=⟨a8Z,o⟩;rw[<-C]at k|-;by_cases bm:c0.kind=4
 .rw[if_pos bm];by_cases bs:c0.row∈c.rows
  .rw[if_pos bs];exact d.set a8Z ((a.del bs).1.le a8Z) k
  .rw[if_neg bs];exact b
 .rw[if_neg bm];by_cases bs:c.rows.any (λx=>decide (bP x=bP c0.row))=true
  .rw[if_pos bs];exact b
  .rw[if_neg bs];refine d.set a8Z (a.put y D λx o E=>bs ?_).1 k;simp_all
def kJ (a:List Int):Nat:=(bP a+9223372036854775808).toNat
theorem zS (a:cR q): -9223372036854775808<=bP q/\bP q<9223372036854775808:=by
 unfold bP;rw[a5p];cases b:q[0]? with
 |none=>simp
 |some c=>exact a c (a4D b)
theorem zT (a:cR q):IntKind.u64.wrap (IntKind.u64.wrap (bP q)+9223372036854775808)=(kJ q:Int)/\(kJ q:Int)=bP q+9223372036854775808:=by grind[zS,kJ,bP,Int.toNat_of_nonneg,kp]
theorem Gw (c d:Own) (a:List Int) (b:U) (k:oz a) (o:cR a):AC Tryz.prog 144 [fQ.V c,.J (ad a) d] b λp r=>r=b/\p= .aK [ig 0 (kJ a),.v (.bool true)]:=by
 obtain⟨x,y⟩:=zT o;obtain⟨C,D⟩:=k;have E:=bH (q:=a);have F:=mn (q:=a) a8Z d;have z:fQ.ok a.length=true:=by rw[qW];simp_all
 have h:=λb=>EZ fQ c a.length b a8Z a9a;rw[z]at h;unfold bP at x;clear y;refine aN hm Nn ?_;refine bp λG L=> ?_;refine cW λP S T V=> ?_;refine bc (h _) ?_;rfl
theorem a2J (r x y:Own) (a b:List Int) (c:U) (F:oz a) (l:b.length=a.length) (z:cR a) (C:cR b):AC Tryz.prog 76 [fQ.V r,.J (ad a) x,.J (ad b) y] c λk o=>o=c/\k= .v (.bool (decide (bP a<bP b))):=by
 have T:oz b:=by unfold oz at*;omega
 have fV:=(zT z).2;have V:=(zT C).2;have G:=λc=>Gw r x a c F z;have L:=λc=>Gw r y b c T C;obtain⟨m,n⟩:=F;have q:=bH (q:=a);have s:=bH (q:=b);have W:=mn (q:=a) a8Z x;have e:=mn (q:=b) a8Z y;have P:a.getD 0 0=bP a:=rfl;have S:b.getD 0 0=bP b:=rfl;rw[P]at W;rw[S]at e;have t:kJ a<kJ b↔bP a<bP b:=a8Z;have u:kJ a=kJ b↔bP a=bP b:=a8Z;have cc:kJ a<18446744073709551616/\kJ b<18446744073709551616:=by have G:=zS z;have L:=zS C;omega
 clear P S fV V;generalize kJ a=d at*;generalize kJ b=h at*;generalize bP a=D at*;generalize bP b=f at*;have E: ∀p:Nat,p<18446744073709551616->dA [(2,c8.int IntKind.u64)] [R.v (Value.int IntKind.u64 0),R.v (Value.int IntKind.u64 (p))]:=λp v=>by
  simp[dA,c8.tn]
 have w:=E d cc.1;have A:=E h cc.2;clear E;have g:peq (R.agg [R.v (Value.int IntKind.u64 0),R.v (Value.int IntKind.u64 (d))]) (R.agg [R.v (Value.int IntKind.u64 0),R.v (Value.int IntKind.u64 (h))])=decide (d=h):=by grind[peq]
 refine aN hm Lo ?_;refine bp λB H=> ?_;refine bc (G _) ?_;refine cW λI K p M=> ?_;refine bc (L _) ?_;refine hp λN O ca Q X Y=> ?_;have i: ∀c,AC Tryz.prog 145 [ig 0 d,ig 0 h] c λk o=>o=c/\k= .v (.bool (decide (D<f))):=λc=>(a0q 0 d 0 h c).mono λk o j=>⟨j.1,by simp_all⟩;rw[g];refine aG (λD=> ?_) λD=> ?_
 .refine bc (i _) ?_;trivial
 .trivial
theorem a2K (c: ∀a<e,¬bP q<bP (Q.getD a [])) (b:e<=Q.length) (d:e<Q.length->bP q<bP (Q.getD e [])):hi q Q=Q.take e++q::Q.drop e:=by
 induction Q generalizing e with
 |nil=>simp at b;subst b;rfl
 |cons h Q ih=>
  cases e with
  |zero=>grind[bP,hi,List.takeWhile_cons,List.dropWhile_cons]
  |succ e=>have o: ¬bP q<bP h:=c 0 a8Z;have:=ih (λa p=>c (a+1) a8Z) (by simpa using b) (λk=>d (by simpa using k));simp_all [hi]
theorem a2L (d:List (List Int)) (m:List R) (w z:Own) (F:Nat) (C:U) (g:az isRow d m) (n: ∀G∈d,bL F G) (k1:1<=F) (k2:F<=8) (n1:d.length<=100000):
  AC Tryz.prog 44 [fQ.V z,.J m w] C λG L=>C.sub L/\ ∃A k3,az isRow (r9 d) A/\G= .J A k3:=by
 have n2:=g.len;have k4: ∀C,AC Tryz.prog 42 [fQ.V z,.v (.int .i64 (F:Int))] C λG L=>L=C/\G= .v (.bool true):=λC=>by
  have:=EZ fQ z F C a8Z a9a;rw[qW,decide_eq_true ⟨k1,k2⟩]at this;exact this
 have n3:(fQ.V z).cells= [.v (.int .u8 0),.v (.int .i64 0),.J (ad []) z]:=rfl;refine aN hm KA ?_;refine bp λq k5=> ?_;have B: ∀S,(C.set q (.cells (fQ.V z).cells)).sub S->S.read q=some [.v (.int .u8 0),.v (.int .i64 0),.J (ad []) z]:=λS k=>U.ae (k _ _ (U.ah _ _ _));have k6:=U.af (Y:= .cells (fQ.V z).cells) (U.a1) k5;generalize C.set q _=H at*;refine gJ [1,2,5] (λh:Nat=> [(6,.v (.int .i64 h))]) (λh=>h<=d.length) (λh=>d.length - h) 0 a8Z aR ?_
 .rintro h I K;have k7:=B H U.a1;refine aa ?_;refine aG (λs=> ?_) λs=> ?_
  .have T:d[h]? =some (d.getD h []):=by simp_all
   have M:d[0]? =some (d.getD 0 []):=by grind
   obtain⟨_,k8,i,rfl⟩:=g.get T;obtain⟨_,k9,D,rfl⟩:=g.get M;have l0:=(n _ (a4D T)).len;have n4:=(n _ (a4D M)).len;have n5:=bH (q:=d.getD h []);have n9:=bH (q:=d.getD 0 []);generalize d.getD h []=r at*;generalize d.getD 0 []=b at*;refine aa ?_;have a00:cL 1 (.J m w) (.v (.int .i64 0))=some (.bV [.J (ad b) D]):=by show cL 1 _ (.v (.int .i64 ((0:Nat))))= _;rw[o0,k9];rfl
   refine bc (k4 _) ?_;exact⟨h+1,a8Z,rfl,a8Z⟩
  .refine ch [1,2] (λb:Nat×List R×Own=> [(7,.v (.int .i64 b.1)),(5,.J b.2.1 b.2.2)]) (λb L=>H.sub L/\b.1<=d.length/\ ∃c,(d.take b.1).foldl (λc r=>hi r c) []=c/\c.length=b.1/\(∀G∈c,bL F G)/\az isRow c b.2.1) (λb=>d.length - b.1) (0,[],.nil) ⟨⟨U.a1,a8Z,[],rfl,rfl,a9a,trivial⟩,aR⟩ ?_;rintro⟨h,E,bD⟩ S ⟨j,I,c,V,l1,N,x⟩ K
   dsimp only at I V l1 x|-
   have a01:=x.len;refine aa ?_;refine aG (λs=> ?_) λs=> ?_
   .have T:d[h]? =some (d.getD h []):=by simp_all
    obtain⟨_,k8,i,rfl⟩:=g.get T;have O:=n _ (a4D T);have l0:=O.len;have l2:=O.jR;have Q:=eQ (a:=d) (b:= []) (e:=h) a8Z;generalize d.getD h []=r at*;have el: ∀a,a<c.length-> ∃D,E[a]? =some (.J (ad (c.getD a [])) D):=λa W=>by
     obtain⟨_,o,D,rfl⟩:=x.get (i:=a) (x:=c.getD a []) (by simp_all);exact⟨D,o⟩
    have l3: ∀a,a<c.length->(c.getD a []).length=F:=λa W=>(N _ (by simp_all)).len;have l4: ∀a,a<c.length->cR (c.getD a []):=λa W=>(N _ (by simp_all)).jR;refine ch [1,2,5,7] (λb:Nat×List R×Own=> [(9,.v (.int .i64 b.1)),(8,.J b.2.1 b.2.2)]) (λb L=>b.1<=c.length/\(∀X<b.1,¬bP r<bP (c.getD X []))/\az isRow (c.take b.1) b.2.1/\bg S L 1 b.2.1 b.2.2) (λb=>c.length - b.1) (0,[],.nil) ⟨⟨a8Z,λX k=>by simp at k,trivial,bg.nil U.a1⟩,aR⟩ ?_;rintro⟨a,l,on⟩ l5 ⟨W,Y,y,e⟩ K
    dsimp only at W Y y e|-
    have k7:=B l5 (U.ar j e.sub);have a02:l.length=a:=by rw[y.len,a4z];omega
    have Z: ¬(a<c.length/\ ¬bP r<bP (c.getD a []))->hi r c=c.take a++r::c.drop a:=λk=>a2K Y W λl6=>Classical.not_not.1 λP=>k ⟨l6,P⟩;by_cases jP:(a)<(h:Int)
    .obtain⟨D,a03⟩:=el a a8Z;have a04:=l3 a a8Z;have l7:=l4 a a8Z;have l8:=eQ (a:=c) (b:= []) (e:=a) a8Z;generalize a05:c.getD a []=b at*;refine aa ?_;refine bc (a2J z i D r b _ (by unfold oz;omega) a8Z l2 l7) ?_;refine aG (λc2=> ?_) λc2=> ?_
     .refine jI (λj9 f=> ?_);refine dY (e.mono (U.af U.a1 f)) (y.cells λ_ _=>isRow.cells) (λo p=>by rw[a4Q]at p;subst p;rfl) a9b a9b λt k0 P=> ?_;refine aa ?_;refine⟨(a+1,l++ [.J (ad b) D],t),⟨by simp only;omega,?_,?_,P⟩,⟨rfl,rfl⟩,by simp only;omega⟩;grind
      .simp only[l8];exact y.snoc ⟨_,rfl⟩
     .have o:=Z a8Z;refine jI (λj9 f=> ?_);refine dY (e.mono (U.af U.a1 f)) (y.cells λ_ _=>isRow.cells) (λo p=>by rw[a4Q]at p;subst p;rfl) a9b a9b λt k0 P=> ?_;have l9:dI 1 (.J E bD) (some (.v (.int .i64 (a)))) none=some (.J (E.drop a) .any):=p3 a8Z (x.cells λ_ _=>isRow.cells);refine aa ?_;refine dY P (λo p=>by rcases a4M.1 p with k|k;exact y.cells (λ_ _=>isRow.cells) o k;rw[a4Q]at k;subst k;rfl) ((x.drop a).cells λ_ _=>isRow.cells) a9b a9b λu n0 v=> ?_;refine aa ?_;refine⟨(h+1,l++ [.J (ad r) i]++E.drop a,u),⟨U.ar j v.sub,by simp only;omega,_,rfl,?_,?_,?_⟩,⟨rfl,rfl⟩,by simp only;omega⟩;grind;grind
      .simp only[Q,a6v,V,a5C,a7C,o];rw[a7J];exact(y.snoc ⟨_,rfl⟩).append (x.drop a)
    .have o:=Z a8Z;refine aa ?_;refine jI (λj9 f=> ?_);refine dY (e.mono (U.af U.a1 f)) (y.cells λ_ _=>isRow.cells) (λo p=>by rw[a4Q]at p;subst p;rfl) a9b a9b λt k0 P=> ?_;have l9:dI 1 (.J E bD) (some (.v (.int .i64 (a)))) none=some (.J (E.drop a) .any):=p3 a8Z (x.cells λ_ _=>isRow.cells);refine aa ?_;refine dY P (λo p=>by rcases a4M.1 p with k|k;exact y.cells (λ_ _=>isRow.cells) o k;rw[a4Q]at k;subst k;rfl) ((x.drop a).cells λ_ _=>isRow.cells) a9b a9b λu n0 v=> ?_;refine aa ?_;refine⟨(h+1,l++ [.J (ad r) i]++E.drop a,u),⟨U.ar j v.sub,by simp only;omega,_,rfl,?_,?_,?_⟩,⟨rfl,rfl⟩,by simp only;omega⟩;grind;grind
     .simp only[Q,a6v,V,a5C,a7C,o];rw[a7J];exact(y.snoc ⟨_,rfl⟩).append (x.drop a)
   .obtain rfl:h=d.length:=a8Z;rw[a4S]at V;refine⟨U.ar k6 j,E,bD,by rw[r9,V];exact x,rfl⟩
def a2M {a:Nat->Bool}:(List.range (e+1)).all a=(a 0&&(List.range e).all λb=>a (b+1)):=by rw[a8y,List.all_cons,a8W];rfl
theorem Gx (b:List UInt8): ∀(c a:Nat),b.length<c+a->lo ⟨b.toArray⟩ c a=(List.range (b.length - a)).all λk=>ns (a+k) (b.getD (a+k) 0)
 |0,a,o=>by
  rw[show b.length - a=0 by omega];rfl
 |c+1,a,o=>by
  have p:(⟨b.toArray⟩:ByteArray).size=b.length:=rfl;rw[lo,p];by_cases d:a<b.length
  .rw[if_pos d];obtain⟨h,hm⟩: ∃h,b.length - a=h+1:=⟨b.length - a - 1,a8Z⟩;rw[hm,a2M,a6w];have r:b.getD a 0=b[a]:=by simp[d]
   rw[r];by_cases ct:b[a].toNat<128
   .rw[EJ b a d ct]
    dsimp only
    rw[Gx b c (a+1) a8Z,show b.length -(a+1)=h by omega];have x:fO a (b[a].toNat)=ns a b[a]:=by unfold fO ns;grind
    grind
   grind[decode_high,fO,Utf8.decode,decide_eq_false,ns]
  simp_all
theorem Gy (a:List UInt8):nt a=jU a:=by unfold nt jU;rw[Gx a (a.length+1) 0 a8Z];grind
theorem a2N {a:List (List UInt8)} (b:e<a.length):lp a e=mj a e:=by unfold lp mj;rw[Gy];congr 2;rw[a6Z];simp only[a4O,a5O,a6d,decide_eq_false_iff_not];grind[hm,List.getElem_of_mem,List.length_take,List.getD,List.mem_iff_getElem]
theorem a2O (a:List (List UInt8)):(List.range a.length).all (lp a)=(List.range a.length).all (mj a):=by rw[a6Z];grind[List.all_eq_true,a2N]
theorem a2P (a:cw):ox a=eu a:=by
 unfold ox eu yf nr;rw[Gy,a2O];congr 1;by_cases b:a.kind.toNat=1
 .rw[if_pos b,if_pos b,Bool.and_assoc];grind
 rw[if_neg b,if_neg b];by_cases c:a.kind.toNat=2;simp_all;grind
def eo (c:Nat) (d h:U):Prop:= ∀a b,a≠c->d a=some b->h a=some b
variable{f t e4:U}
theorem eo.of {s:U} (a:s.sub f):eo e s f:=λb c _ d=>a b c d
theorem eo.trans (d:eo e f t) (h:eo e t e4):eo e f e4:=λa b c k=>h a b c (d a b c k)
theorem eo.set {a:Nat}{b c:U}{h:bq} (k:eo a b c):eo a b (c.set a h):=λo p d r=>by rw[U.ao _ _ d];exact k o p d r
def fp (a:List R) (b:Nat) (d:R) (c:Nat):List R:=if c<=b then a.take c else(a.take b++d::a.drop b).take (c+1)
variable{n b3:R}{g A e0:List R}
def a2Q (b:e<i) (a:g[e]? =some b3):fp g i n (e+1)=fp g i n e++ [b3]:=by unfold fp;rw[if_pos a8Z,if_pos a8Z];obtain⟨c,rfl⟩:=a4E.1 a;simp
theorem a2R (a:g[e]? =some b3):fp g e n (e+1)=fp g e n e++ [n]++ [b3]:=by unfold fp;obtain⟨b,rfl⟩:=a4E.1 a;rw[if_neg a8Z,if_pos a8Z,a4V b];grind
theorem a2S (b:e<i) (a:g[i]? =some b3):fp g e n (i+1)=fp g e n i++ [b3]:=by unfold fp;obtain⟨c,rfl⟩:=a4E.1 a;rw[if_neg a8Z,if_neg a8Z];have d:(g.take e++n::g.drop e).length=g.length+1:=a9b;rw[a5H (show i+1<(g.take e++n::g.drop e).length by omega)];congr 2;grind
def a2T (a:e<=g.length):(if e<g.length then fp g e n g.length else fp g e n g.length++ [n])=g.take e++n::g.drop e:=by
 split
 .unfold fp;rw[if_neg a8Z,a4x a9b]
 .obtain rfl:e=g.length:=a8Z;unfold fp;rw[if_pos a8Z];simp
def a2U (a:az (gF f) X g) (h:n.cells.length=1):aS 1 (fp g e n i):=λc b=>by
 have d:=zK a;unfold fp at b;split at b
 .exact d c (a4K b)
 .have:=a4K b;rcases a4M.1 this with a|a
  .exact d c (a4K a)
  .rcases a4T.1 a with rfl|a
   .exact h
   .exact d c (a5b a)
theorem a2V:(fp g i n e).length<=e+1:=by unfold fp;grind
theorem a2W: ∀a<js X B,c5 B (X.getD a default).name=false:=by
 unfold js
 induction X with
 |nil=>intro a b;simp at b
 |cons d X ih=>
  intro a b;rw[a5Q]at b;cases c:c5 B d.name with
  |true=>simp[c]at b
  |false=>
   simp only[c,a5r,if_true,a4C]at b;cases a with
   |zero=>trivial
   |succ a=>simp_all
def a2X:js X B<=X.length:=(List.takeWhile_sublist _).length_le
theorem a2Y (a:js X B<X.length):c5 B (X.getD (js X B) default).name=true:=by
 induction X with
 |nil=>simp at a
 |cons b X ih=>
  unfold js at a|-;rw[a5Q]at a|-;cases c:c5 B b.name with
  |true=>simp[c]
  |false=>simp_all [if_true,js]
theorem a2Z (a:List aT) (b:List UInt8):(bX a b<a.length->pL a b=(bX a b:Int))/\(a.length<=bX a b->pL a b= -1):=by simp_all [pL,if_pos,if_neg]
def a3a (a:UInt8) (b:Int):iX BinOp.eql (al a) (R.v (Value.int IntKind.u8 b))=some (.v (.bool (decide ((a.toNat:Int)=b)))):=by simp only[al,rQ];rfl
theorem a3b (a:g[e]? =some n) (b:e≠i):(g.take (e+1)).eraseIdx i=(g.take e).eraseIdx i++ [n]:=by obtain⟨c,rfl⟩:=a4E.1 a;grind[List.take_succ_eq_append_getElem,Nat.lt_or_ge,List.eraseIdx_append_of_lt_length,List.length_take,List.eraseIdx_of_length_le]
theorem a3c:(g.take (e+1)).eraseIdx e=(g.take e).eraseIdx e:=by grind[List.eraseIdx_eq_take_drop_succ,List.drop_eq_nil_of_le,List.length_take,Nat.min_eq_left,Nat.min_self]
variable{b0:Type}
def az.erase {b:b0->R->Prop}{c:List b0} (a:Nat) (d:az b c g):az b (c.eraseIdx a) (g.eraseIdx a):=by rw[a6G,a6G];exact(d.take a).append (d.drop (a+1))
variable{M e6 h4:Own}
def zU (a:f e=some (.cells [n])) (b:az (gF f) X g):ff (f.set e (.cells [.J g M])) e X:=
 ⟨g,M,U.ah _ _ _,b.mono λ_ _ c=>c.gd (gb.set a rfl)⟩
def Gz {a:List (List UInt8)} (b:f e=some (.cells [bb B,.J (bE a) M,.J [] .nil,.v (.pointer none),.v (.pointer none)])):gF f ⟨B,a,[],.nil,none⟩ (.ptr e 0):=⟨e,M,[],.nil,_,_,rfl,b,trivial,rfl,rfl⟩
theorem a3d (a:az (gF f) X g):bN t 1 (.J g M)=some (g.length,g):=by
 have p: ∀b∈g,b.cells= [b]:=λb d=>by
  obtain⟨h,k,rfl⟩:=a5i d;have r:=a.len;obtain⟨o,c,x,_,_,_,_,_,rfl,_⟩:=a.get (a4w (show h<X.length by omega));rw[a4w k]at c;rw[a4v c];rfl
 have y:flat g=g:=by
  unfold flat;clear a
  induction g with
  |nil=>rfl
  |cons o g ih=>simp_all
 simp_all [bN,if_pos,a4O,decide_eq_true]
def kb (a:Nat) (p c:U) (r:List aT):Prop:= ∃b d,az (gF b) r d/\(∃x,b a=some (.cells [x]))/\eo a p b/\eo a b c/\
 ((∃y,c a=some (.cells [.J d y]))\/ ∃h k z o,b h=none/\c a=some (.cells [.an h k z 1])/\c h=some (.cells o)/\k<=o.length/\ed 1 k o=d)
theorem kb.of {s:U}{ds:List aT} (a:ff f e ds) (c:eo e s f):kb e s f ds:=by obtain⟨d,h,b,k⟩:=a;exact⟨f,d,k,⟨_,b⟩,c,λ_ _ _ a=>a,.inl ⟨h,b⟩⟩
theorem a3e (M:U) (w a68:Nat) (k:List aT) (c:ff M w k) (a69:dj a68 k) (b49:a68<900) (x:cN) (a71:x.d.Fit) (X:cR x.d.row):
  AC Tryz.prog 21 [.ptr w 0,x.V] M λy n=>kb w M n (eF k x.d).2/\y= .v (.int .i64 (eF k x.d).1):=by
 have h:=(eF.eq_1 k x.d).symm;generalize eF k x.d=b12 at*;have Y:=λM=>Zy x a71 M;rw[a2P]at Y;have a73:=a69.dw;obtain⟨E,a14,a74,a81⟩:=c;have n4:=a81.len;have a83:x.V= .agg [al x.d.kind,bb x.d.table,.J (bE x.d.aD) x.gu,.J (ad x.d.row) x.dm]:=rfl;rw[a83]at Y|-;clear a83;obtain⟨b50,b51,b52,b53⟩:=a71;generalize a15:x.d.kind=V at*;generalize b54:x.d.table=G at*;generalize b55:x.d.aD=l1 at*;generalize b56:x.d.row=z at*;refine aN hm K6 ?_;refine bp λn5 a16=> ?_;have W:=U.af (Y:= .cells [al V,bb G,.J (bE l1) x.gu,.J (ad z) x.dm]) (U.a1 (f:=M)) a16;have aH:=U.ah M n5 (.cells [al V,bb G,.J (bE l1) x.gu,.J (ad z) x.dm]);have b57:w≠n5:=by rintro rfl;rw[a74]at a16;cases a16
 generalize M.set n5 _=e at*;have F:=W _ _ a74;have S:az (gF e) k E:=a81.mono λ_ _ c=>c.sub W;have a84:=a2B e w k ⟨E,a14,F,S⟩ G a8Z;have j:=U.ae aH;have eI:=U.ae F;obtain⟨a86,b13⟩:=a2Z k G;have Z:ff e w k:=⟨E,a14,F,S⟩;cases ct:eu x.d with
 |false=>rw[ct]at Y;rw[if_pos ct]at h;refine bc (Y e) ?_;exact⟨_,U.a1,kb.of (by rw[<-h];exact Z) (eo.of W),by rw[<-h]⟩
 |true=>
  rw[ct]at Y;rw[if_neg (by rw[ct];simp)]at h;refine bc (Y e) ?_;generalize pL k G=b14 at*;refine bc a84 ?_;clear Y a84;refine aG (λa88=> ?_) λa88=> ?_
  .have n9:V=1:=a5s.1 (by grind);rw[if_pos n9]at h;refine aG (λq=> ?_) λq=> ?_
   .rw[if_pos a8Z]at h;exact⟨_,U.a1,kb.of (by rw[<-h];exact Z) (eo.of W),by rw[<-h]⟩
   rw[if_neg a8Z]at h;refine aG (λc2=> ?_) λc2=> ?_
   .rw[if_pos a8Z]at h;exact⟨_,U.a1,kb.of (by rw[<-h];exact Z) (eo.of W),by rw[<-h]⟩
   rw[if_neg a8Z]at h;have b58:=a2X (X:=k) (B:=G);have b15:=a2W (X:=k) (B:=G);have b16:=a2Y (X:=k) (B:=G);generalize js k G=d at*;refine dc U.a1 (by simp[aS]) λb59 b60 a89=> ?_;refine aa ?_;refine dY (g:= []) a89 (λ_ c=>by cases c) sY (by rw[a4G,hz];omega) (by rw[a4G,hz];omega) λa18 a19 l2=> ?_;rw[a4P]at l2|-;have j:=U.ae (l2.sub _ _ aH);refine aa ?_;refine aM λo N=> ?_;have j9:(a19.set o (.cells (R.agg [bb G,.J (bE l1) a18,.J [] .nil,.v (.pointer none),.v (.pointer none)]).cells)) o=some (.cells [bb G,.J (bE l1) a18,.J [] .nil,.v (.pointer none),.v (.pointer none)]):=U.ah _ _ _;have k0:=U.ar l2.sub (U.af (Y:= .cells (R.agg [bb G,.J (bE l1) a18,.J [] .nil,.v (.pointer none),.v (.pointer none)]).cells) (U.a1 (f:=a19)) N);have b61:w≠o:=by rintro rfl;rw[l2.sub _ _ F]at N;cases N
   refine aa ?_;have a90:fp E d (.ptr o 0) 0= []:=by unfold fp;rw[if_pos (a5d _)];rfl
   have b17:decide (d<0)=false:=a9a;generalize a19.set o _=b18 at*;clear a89 l2 N j;refine ch [0,3,8] (λp:Nat×Own=> [(6,.J (fp E d (.ptr o 0) p.1) p.2),(7,.v (.bool (decide (d<p.1)))),(9,.v (.int .i64 (p.1:Int)))]) (λp n=>p.1<=k.length/\bg b18 n 1 (fp E d (.ptr o 0) p.1) p.2) (λp=>k.length - p.1) (0,.nil) ⟨⟨a5d _,by rw[a90];exact bg.nil U.a1⟩,aR⟩ ?_;rintro⟨a,bD⟩ l3 ⟨l4,r⟩ a92
   dsimp only at l4 r|-
   have a94:=a2V (g:=E) (i:=d) (e:=a) (n:= .ptr o 0);have k1:=a2U (e:=d) (i:=a) (n:= .ptr o 0) S rfl;have eI:=U.ae (r.sub _ _ (k0 _ _ F));have b62:=U.ae (r.sub _ _ j9);clear a90 b17;refine aa ?_;refine aG (λaH=> ?_) λaH=> ?_
   .have k6:a<k.length:=a8Z;have k2:k[a]? =some (k.getD a default):=by simp[List.getD,k6]
    obtain⟨_,k7,a27,l,a95,a96,a00,a01,rfl,s,_,_,_⟩:=S.get k2;have A:=U.ae (r.sub _ _ (k0 _ _ s));have a97:=(vd G (k.getD a default).name).1;rcases a8d a d with B|B|B
    .have a29:=b15 a B;have P:=a2Q (n:= .ptr o 0) B k7;have b19: ¬d<a:=a8Z;have l5: ¬d<a+1:=a8Z;generalize fp E d (.ptr o 0) a=a02 at*;rw[a29]at a97;refine aa ?_;refine hP r k1 λ_ T L C _=> ?_;exact⟨(a+1,T),⟨by simp only;omega,by simp only[P];exact C⟩,⟨by simp only[P],by simp[l5],rfl⟩,by simp only;omega⟩
    .subst B;have a29:=b16 k6;have P:=a2R (n:= .ptr o 0) k7;have b19: ¬a<a:=a8Z;generalize fp E a (.ptr o 0) a=a02 at*;rw[a29]at a97;have l5:a<a+1:=a8Z;refine aa ?_;refine hP r k1 λ_ T L C _=> ?_;have eI:=U.ae (C.sub _ _ (k0 _ _ F));refine aa ?_;refine hP C (λD a30=>by rcases a4M.1 a30 with c|c;exact k1 D c;rw[a4Q]at c;subst c;rfl) λ_ T g C _=> ?_;exact⟨(a+1,T),⟨by simp only;omega,by simp only[P];exact C⟩,⟨by simp only[P],by simp[l5],rfl⟩,by simp only;omega⟩
    .have P:=a2S (n:= .ptr o 0) B k7;have l5:d<a+1:=a8Z;generalize fp E d (.ptr o 0) a=a02 at*;refine aa ?_;refine hP r k1 λ_ T L C _=> ?_;exact⟨(a+1,T),⟨by simp only;omega,by simp only[P];exact C⟩,⟨by simp only[P],by simp[l5],rfl⟩,by simp only;omega⟩
   .obtain rfl:a=k.length:=a8Z;have a34:=a2T (g:=E) (e:=d) (n:= .ptr o 0) a8Z;rw[n4]at a34;have a98:=U.aJ (r.sub _ _ (k0 _ _ F));by_cases B:d<k.length
    .rw[if_pos B]at a34;refine aa ?_;have f:=U.ar k0 r.sub;refine⟨_,U.a1,kb.of ?_ (eo.of (U.ar W f)).set,by rw[<-h]⟩;rw[<-h];exact zU (f _ _ F) (((S.mono λ_ _ c=>c.sub f).take d).append ⟨Gz (r.sub _ _ j9),(S.mono λ_ _ c=>c.sub f).drop d⟩)
    .rw[if_neg B]at a34;refine aa ?_;refine hP r k1 λ_ T L C _=> ?_;have a98:=U.aJ (C.sub _ _ (k0 _ _ F));refine aa ?_;have f:=U.ar k0 C.sub;refine⟨_,U.a1,kb.of ?_ (eo.of (U.ar W f)).set,by rw[<-h]⟩;rw[<-h];exact zU (f _ _ F) (((S.mono λ_ _ c=>c.sub f).take d).append ⟨Gz (C.sub _ _ j9),(S.mono λ_ _ c=>c.sub f).drop d⟩)
  .have n9: ¬V=1:=λD=>a88 (by rw[D];rfl);rw[if_neg n9]at h;refine aG (λq=> ?_) λq=> ?_
   .have b20:k.length<=bX k G:=by omega
    rw[if_pos b20]at h;exact⟨_,U.a1,kb.of (by rw[<-h];exact Z) (eo.of W),by rw[<-h]⟩
   have k6:bX k G<k.length:=by omega
   obtain rfl:=a86 k6;rw[if_neg a8Z]at h;clear a86 b13 q;have b21:=vq k6;generalize bX k G=d at*;refine aG (λa99=> ?_) λa99=> ?_
   .have a03:V=2:=a5s.1 (by grind);rw[if_pos a03]at h;have b22:([]:List R).eraseIdx d= []:=List.eraseIdx_nil;refine ch [0,3,5] (λp:Nat×Own=> [(10,.J ((E.take p.1).eraseIdx d) p.2),(11,.v (.int .i64 (p.1:Int)))]) (λp n=>p.1<=k.length/\bg e n 1 ((E.take p.1).eraseIdx d) p.2) (λp=>k.length - p.1) (0,.nil) ⟨⟨a5d _,by grind[bg.nil,U.a1]⟩,aR⟩ ?_;clear b22;rintro⟨a,bD⟩ l3 ⟨l4,r⟩ a92
    dsimp only at l4 r|-
    have a94:((E.take a).eraseIdx d).length<=a:=a5u (List.length_eraseIdx_le _ _) (by rw[a4z];omega);have k1:aS 1 ((E.take a).eraseIdx d):=λD a30=>zK S D (a4K (a7B a30));have eI:=U.ae (r.sub _ _ F);refine aa ?_;refine aG (λaH=> ?_) λaH=> ?_
    .have b23:a<k.length:=a8Z;have k2:k[a]? =some (k.getD a default):=by simp[List.getD,b23]
     obtain⟨_,k7,a27,l,a95,a96,a00,a01,rfl,s,_,_,_⟩:=S.get k2;by_cases jP:a=d
     .subst jP;have P:=a3c (g:=E) (e:=a);generalize (E.take a).eraseIdx a=a02 at*;refine aa ?_;exact⟨(a+1,bD),⟨by simp only;omega,by simp only[P];exact r⟩,⟨by simp only[P],rfl⟩,by simp only;omega⟩
     .have P:=a3b (i:=d) k7 jP;generalize (E.take a).eraseIdx d=a02 at*;have b63: ¬(a:Int)=(d:Int):=a8Z;refine aa ?_;refine hP r k1 λ_ T L C _=> ?_;exact⟨(a+1,T),⟨by simp only;omega,by simp only[P];exact C⟩,⟨by simp only[P],rfl⟩,by simp only;omega⟩
    .obtain rfl:a=k.length:=a8Z;rw[<-n4,a4S]at r|-;have a98:=U.aJ (r.sub _ _ F);refine aa ?_;have f:=r.sub;refine⟨_,U.a1,kb.of ?_ (eo.of (U.ar W f)).set,by rw[<-h]⟩;rw[<-h];exact zU (f _ _ F) ((S.mono λ_ _ c=>c.sub f).erase d)
   .have a03: ¬V=2:=λD=>a99 (by rw[D];rfl);rw[if_neg a03]at h;have b24:k[d]? =some (k.getD d default):=by simp[List.getD,k6]
    have t:=a69.ok _ b21;obtain⟨_,k7,a27,l,a95,a96,a00,a01,rfl,s,b00,a36,a38⟩:=S.get b24;have A:=U.ae s;have b64:=a36.cells;have eN:=a38.cells;have b65:=t.c;have b25:=λy c=>t.row (q:=y) c;have b66:=t.dw;have b67:=b00.len;generalize b68:k.getD d default=b at*;have b69:=hz (a:=b.aD);have b70:=bH (q:=z);refine aa ?_;refine aG (λq=> ?_) λq=> ?_
    .rw[if_pos a8Z]at h;exact⟨_,U.a1,kb.of (by rw[<-h];exact Z) (eo.of W),by rw[<-h]⟩
    rw[if_neg a8Z]at h;have l6:z.length=b.aD.length+1:=a8Z;have fE:=mn (q:=z) a8Z x.dm;rw[show z.getD 0 0=bP z from rfl]at fE;have b26:decide (z∈([]:List (List Int)))=false:=a9a;refine ch [0,3,5,12] (λp:Nat×List R×Own=> [(13,.J p.2.1 p.2.2),(14,.v (.bool (decide (z∈b.rows.take p.1)))),(15,.v (.int .i64 (p.1:Int)))]) (λp n=>p.1<=b.rows.length/\bg e n 1 p.2.1 p.2.2/\az isRow ((b.rows.take p.1).filter λy=>decide (y≠z)) p.2.1/\(V=3-> ∀y∈b.rows.take p.1,bP y≠bP z)) (λp=>b.rows.length - p.1) (0,[],.nil) ⟨⟨a5d _,bg.nil U.a1,trivial,λ_ y c=>by cases c⟩,aR⟩ ?_;clear b26;rintro⟨a,O,bD⟩ l3 ⟨l4,r,i,a04⟩ a92
    dsimp only at l4 r i a04|-
    have A:=U.ae (r.sub _ _ s);have j:=U.ae (r.sub _ _ aH);have a94:O.length<=a:=by rw[i.len];grind
    refine aa ?_;refine aG (λbm=> ?_) λbm=> ?_
    .have b01:a<b.rows.length:=a8Z;have k2:b.rows[a]? =some (b.rows.getD a []):=by simp[List.getD,b01]
     obtain⟨_,P,a05,rfl⟩:=b00.get k2;have b71:=(b25 _ (a4D k2)).len;have l7:=eQ (a:=b.rows) (b:= []) (e:=a) b01;have b27:b.rows.getD a []∈b.rows:=a4D k2;generalize b.rows.getD a []=y at*;have b28:=mn (q:=y) a8Z a05;rw[show y.getD 0 0=bP y from rfl]at b28;refine aa ?_;refine aG (λbs=> ?_) λbs=> ?_
     .refine aG (λb02=> ?_) λb02=> ?_
      .have l8:V=3:=a5s.1 (by grind);rw[if_neg (by rw[l8];decide),if_pos (a7m.2 ⟨y,b27,decide_eq_true bs⟩)]at h;exact⟨_,U.a1,kb.of (by rw[<-h];exact Z.sub r.sub) (eo.of (U.ar W r.sub)),by rw[<-h]⟩
      have b72: ¬V=3:=λD=>b02 (by rw[D];rfl);refine bc (nn y z a05 x.dm _ a8Z) ?_;refine aG (λc6=> ?_) λa06=> ?_
      .subst c6;exact⟨(a+1,O,bD),⟨by simp only;omega,r,by simp_all,λc=>absurd c id⟩,⟨rfl,by simp[l7],rfl⟩,by simp only;omega⟩
      refine hP r (i.cells λ_ _=>isRow.cells) λ_ T L C _=> ?_;refine⟨(a+1,O++ [.J (ad y) a05],T),⟨by simp only;omega,C,by simp only[l7,a7A];rw[a7K,if_pos (by simpa using a06),a8v];exact i.snoc ⟨_,rfl⟩,λl8 b03 a42=> ?_⟩,⟨rfl,by grind,rfl⟩,by simp only;omega⟩;exact False.elim l8
     .have a06:y≠z:=λD=>bs (by rw[D]);refine hP r (i.cells λ_ _=>isRow.cells) λ_ T L C _=> ?_;refine⟨(a+1,O++ [.J (ad y) a05],T),⟨by simp only;omega,C,by simp only[l7,a7A];rw[a7K,if_pos (by simpa using a06),a8v];exact i.snoc ⟨_,rfl⟩,λl8 b03 a42=> ?_⟩,⟨rfl,by simp only[l7,a4M,a4Q];congr 2;exact decide_eq_decide.2 ⟨.inl,λc=>c.resolve_right λD=>a06 D.symm⟩,rfl⟩,by simp only;omega⟩;rw[l7]at a42;rcases a4M.1 a42 with c|c
      .exact a04 l8 b03 c
      .obtain rfl:=a4Q.1 c;exact bs
    .obtain rfl:a=b.rows.length:=a8Z;rw[a4S]at i a04|-;refine aM λo N=> ?_;have u:=U.bF r.sub N;have j9:(l3.set o (.cells (R.agg [bb b.name,.J (bE b.aD) l,.J [] .nil,.v (.pointer none),.v (.pointer none)]).cells)) o=some (.cells [bb b.name,.J (bE b.aD) l,.J [] .nil,.v (.pointer none),.v (.pointer none)]):=U.ah _ _ _;have a43:=U.af (Y:= .cells (R.agg [bb b.name,.J (bE b.aD) l,.J [] .nil,.v (.pointer none),.v (.pointer none)]).cells) (U.a1 (f:=l3)) N;have b73:n5≠o:=by rintro rfl;rw[aH]at u;cases u
     have b74:a27≠o:=by rintro rfl;rw[s]at u;cases u
     have b75:w≠o:=by rintro rfl;rw[F]at u;cases u
     refine aa ?_;have k8:=U.ar r.sub a43;have b29:=a43;generalize l3.set o _=b04 at*;clear N a43;have A:=U.ae (k8 _ _ s);have j:=U.ae (k8 _ _ aH);have b76:=a3a V 4;refine aa ?_;refine o3 [0,3,5,12,16] (λ_:Unit=> []) (λ_ n=> ∃a07,b12=(0,k.set d a07)/\a07.name=b.name/\gF n a07 (.ptr o 0)/\e.sub n) (λq=> ?_) (λq=> ?_) ?_
     .have a08:V=4:=a5s.1 (by have c:=of_decide_eq_true q;have:(4:UInt8).toNat=4:=rfl;omega);rw[if_pos a08]at h;have aE:=U.aJ j9;refine aa ?_;refine aG (λc6=> ?_) λc6=> ?_
      .rw[if_neg c6]at h;exact⟨_,U.a1,kb.of (by rw[<-h];exact Z.sub k8) (eo.of (U.ar W k8)),by rw[<-h]⟩
      .have b30:=c6;rw[if_pos b30]at h;clear c6;generalize k3:b04.set o _=L;have a47:L o=some (.cells [bb b.name,.J (bE b.aD) l,.J O bD,.v (.pointer none),.v (.pointer none)]):=by subst k3;exact U.ah _ _ _
       have H:e.sub L:=by subst k3;exact U.af k8 u
       clear k3 aE j9;refine ai (ZQ (b.aD.length+1) a8Z a8Z z x.dm l6 b.bM a00 L (a36.mono H) t.dz.fe.ok (by have:=t.dz.cm;omega)) ?_;rintro _ a09 ⟨m,k4,rfl,k5⟩;have l9:=m _ _ a47;have aE:=U.aJ l9;have b31:=k5.cells;have A:=U.ae (m _ _ (H _ _ s));have j:=U.ae (m _ _ (H _ _ aH));refine aa ?_;generalize I:a09.set o _=g;have a48:g o=some (.cells [bb b.name,.J (bE b.aD) l,.J O bD,k4,.v (.pointer none)]):=by subst I;exact U.ah _ _ _
       have n0:e.sub g:=by subst I;exact U.af (U.ar H m) u
       have a52:dN g (lr (b.aD.length+1) z b.bM).1 k4:=by subst I;exact k5.gd (n:=5) a9d (gb.set l9 rfl)
       clear I aE A j;refine ai (a2x (e:=b.aD.length+1) a8Z a8Z z x.dm ⟨l6,X⟩ b.cq a01 g (a38.fD (U.o1 n0)) t.go) ?_;rintro _ k9 ⟨K,a56,b32,rfl,n1⟩;have v:=K _ _ a48;have aE:=U.aJ v;have b33:=n1.cells;refine aa ?_;exact⟨(),b.del z,h.symm,rfl,⟨o,l,O,bD,k4,a56,rfl,U.ah _ _ _,i,(a52.mono K).gd (n:=5) a9d (gb.set v rfl),n1.gd (n:=5) a9d (gb.set v rfl)⟩,U.ar n0 K⟩
     .have a08: ¬V=4:=λD=>(of_decide_eq_false q) (by rw[D];rfl);rw[if_neg a08]at h;have b34:V=3:=by have:=vr ct (by rw[a15];exact n9) (by rw[a15];exact a03);rw[a15]at this;exact this.resolve_right a08
      have b05:=a04 b34;rw[if_neg (λc=>by
       obtain⟨y,X,D⟩:=a7m.1 c;exact b05 y X (of_decide_eq_true D))]at h
      have b35:b.rows.filter (λy=>decide (y≠z))=b.rows:=a7T.2 λy X=>decide_eq_true λD=>b05 y X (by rw[D]);rw[b35]at i;have b77:=i.len;refine aa ?_;refine dc U.a1 (by simp[aS]) λT L C=> ?_;have j:=U.ae (C.sub _ _ (k8 _ _ aH));refine aa ?_;refine dY (g:= []) C (λ_ c=>by cases c) (by simp[aS,ad,R.cells]) (by simp[bH];omega) (by simp[bH];omega) λb06 a09 m=> ?_;rw[a4P];refine aa ?_;refine dc U.a1 (by simp[aS,R.cells]) λb78 g a73=> ?_;refine aa ?_;have b07:b04.sub g:=U.ar m.sub a73.sub;refine qs (r.mono (U.ar b29 b07)) (i.cells λ_ _=>isRow.cells) (by simp[aS,R.cells]) a9b a9b λb36 k9 K b37=> ?_;have v:=b37 _ _ (b07 _ _ j9);have b38:az isRow (b.rows++ [z]) (O++ [.J (ad z) b06]):=i.snoc ⟨b06,rfl⟩;have b39: ∀y∈b.rows++ [z],bL (b.aD.length+1) y:=λy c=>by
       rcases a4M.1 c with c|c
       .exact t.row c
       .obtain rfl:=a4Q.1 c;exact⟨l6,X⟩
      refine aa ?_;refine ai (a2L (b.rows++ [z]) _ b36 .nil (b.aD.length+1) k9 b38 b39 a8Z a8Z a9b) ?_;rintro _ a57 ⟨b08,a61,a62,b40,rfl⟩;have b09:=b08 _ _ v;have aE:=U.aJ b09;have a63:e.sub a57:=U.ar K.sub b08;have A:=U.ae (a63 _ _ s);have j:=U.ae (a63 _ _ aH);refine aa ?_;generalize k3:a57.set o _=L;have a47:L o=some (.cells [bb b.name,.J (bE b.aD) l,.J a61 a62,.v (.pointer none),.v (.pointer none)]):=by subst k3;exact U.ah _ _ _
      have H:e.sub L:=by subst k3;exact U.af a63 u
      clear k3 aE A j v b09;refine ai (ys (b.aD.length+1) a8Z a8Z z x.dm l6 b.bM a00 0 L L (a36.mono H) U.a1 t.dz.fe.ok (by have:=t.dz.cm;omega)) ?_;rintro _ a09 ⟨m,k4,rfl,k5⟩;have k5:=k5.mono qP;have l9:=m _ _ a47;have aE:=U.aJ l9;have b31:=k5.cells;have A:=U.ae (m _ _ (H _ _ s));have j:=U.ae (m _ _ (H _ _ aH));refine aa ?_;generalize I:a09.set o _=g;have a48:g o=some (.cells [bb b.name,.J (bE b.aD) l,.J a61 a62,k4,.v (.pointer none)]):=by subst I;exact U.ah _ _ _
      have n0:e.sub g:=by subst I;exact U.af (U.ar H m) u
      have a52:dN g (cY (b.aD.length+1) z b.bM 0).1 k4:=by subst I;exact k5.gd (n:=5) a9d (gb.set l9 rfl)
      clear I aE A j;refine ai (Zg (e:=b.aD.length+1) a8Z a8Z z x.dm ⟨l6,X⟩ b.cq a01 g (a38.fD (U.o1 n0)) t.go) ?_;rintro _ k9 ⟨K,a56,b32,rfl,n1⟩;have v:=K _ _ a48;have aE:=U.aJ v;have b33:=n1.cells;refine aa ?_;exact⟨(),b.put z,h.symm,rfl,⟨o,l,a61,a62,k4,a56,rfl,U.ah _ _ _,b40,(a52.mono K).gd (n:=5) a9d (gb.set v rfl),n1.gd (n:=5) a9d (gb.set v rfl)⟩,U.ar n0 K⟩
     .rintro _ k9 ⟨a07,b79,b80,b41,l0⟩ b81;have eI:=U.ae (l0 _ _ F);refine aa ?_;rw[nX];refine aa ?_;have b42:=a3d (t:=k9) (M:=a14) S;refine fg (au.zero U.a1) a8Z b42 a8Z a9b a9b λb14 a57 a10=> ?_;rw[a4P]at a10;obtain⟨Q,n2,n3,a11,rfl,a13,b43,b44,b10,hm,b82,_⟩:=a10.an (λD=>by rw[D]at n4;simp at n4;omega);rw[a5n]at b44 b10 hm;have b83:cL 1 (.an Q n2 n3 1) (.v (.int .i64 (d:Int)))=some (.ptr Q d):=by have:=jz (e:=1) (i:=Q) (v:=n2) (O:=n3) (e2:= .i64) (b1:=(d:Int)) a8Z a8Z;simpa using this
      have b84:=U.aJ b43;have b45:=a10.1 _ _ (l0 _ _ F);have b46:w≠Q:=by rintro rfl;rw[l0 _ _ F]at a13;cases a13
      have b85:=U.aJ b45;have b86:(R.an Q n2 n3 1).cells= [.an Q n2 n3 1]:=rfl;have b87:d+1<=a11.length:=a8Z;refine aa ?_;have b11:putAt a11 d [R.ptr o 0]=a11.set d (.ptr o 0):=by rw[a5N,if_pos a8Z];unfold putAt;rw[a4J];rfl
      refine⟨_,U.a1,k9,E.set d (.ptr o 0),az.set d (S.mono λ_ _ c=>c.sub l0) b41,⟨_,l0 _ _ F⟩,eo.of (U.ar W l0),λb47 b88 b48 a65=> ?_,.inr ⟨Q,n2,n3,putAt a11 d [.ptr o 0],a13,U.ah _ _ _,?_,?_,?_⟩⟩
      .have:b47≠Q:=by rintro rfl;rw[a13]at a65;cases a65
       rw[U.ao _ _ b48,U.ao _ _ this];exact a10.1 _ _ a65
      .rw[U.ao _ _ b46.symm,U.ah]
      .rw[b11,a7v];omega
      .rw[b11,kq,List.take_set,b10]
def GA (p:U) (a r:Nat) (d:List aT) (b:ff p a d) (j:dj r d) (l:r<900) (c:cN) (m:c.d.Fit) (n:cR c.d.row):
  AC Tryz.prog 21 [.ptr a 0,c.V] p λP h=>ff h a (eF d c.d).2/\eo a p h/\P= .v (.int .i64 (eF d c.d).1):=
 (a3e p a r d b j l c m n).view λP h b=>by
  obtain⟨⟨x,S,T,⟨v,V⟩,W,y,z⟩,rfl⟩:=b;have e: ∀C,eo a x C->gb 1 x C:=λC D k E o q=>D k _ (by rintro rfl;rw[V]at o;obtain rfl:=bq.cells.inj (a4v o);exact q rfl) o;rcases z with ⟨F,z⟩|⟨k,s,w,E,G,t,o,hm,D⟩
  .exact⟨_,h,View.refl,⟨S,F,z,T.mono λ_ _ b=>b.gd (e _ y)⟩,W.trans y,rfl⟩
  .have u:a≠k:=by rintro rfl;rw[V]at G;cases G
   have f:eo a x ((h.set k (.ro E)).set a (.cells ([]++ .J (ed 1 s E) .any:: []))):=λg F i L=>by
    have:g≠k:=by rintro rfl;rw[G]at L;cases L
    rw[U.ao _ _ i,U.ao _ _ this];exact y g F i L
   exact⟨_,_,View.obj (A:= []) t o a8Z u,⟨S,.any,by rw[U.ah,D];rfl,T.mono λ_ _ b=>b.gd (e _ f)⟩,W.trans f,rfl⟩
variable{a8:aC}{w j2:ay}
def jl.le (d:e<=8) (b:jl e a8 w) (c:a8.size<=1048576):w.ht/\w.sum.length=32/\w.cz:=by have a:=b.kC c;have h:=a.o8;have k:=a.o9;have o:=a.oa;exact⟨⟨a8Z,a8Z,a8Z,a.nd,a.live,a.nf,a.size⟩,b.sum,⟨a8Z,a8Z,a8Z⟩⟩
theorem zV {s:Nat} (e:1<=s) (r:s<=8): ∀(i:aC) (x:R) (c:U),dN c i x->i.c9 s->i.size<=1048576->AC Tryz.prog 60 [x] c λd t=>c.sub t/\ ∃y h z,d= .agg (ab (bo i) y h z)
 | .nil,x,c,u,_,_=>by
  obtain rfl:x= .v (.pointer none):=u;have eN:=ik aA .nil .nil .nil bj;have v:putAt (ab aA .nil .nil .nil) 0 (ab aA .nil .nil .nil)=ab aA .nil .nil .nil:=cB bj bj;refine aN hm Be ?_;refine bp λk C=> ?_;rw[cn];exact⟨.nil,.nil,.nil,by rw[(aW bj).t37];rfl⟩
 | .node d o a b,x,c,u,D,K=>by
  obtain⟨M,k6,k7,k8,rfl,p,j,l⟩:=u;have k9:=K;simp only[aC.size]at k9;have l0:=zV e r a k7;have l1:=zV e r b k8;have w:=(fc e r D.a a8Z).le r a8Z;have cc:=(fc e r D.b a8Z).le r a8Z;have N:=fc e r D K;have n4:=N.size;have n5:=j.cells;have eN:=l.cells;have m:=U.ae p;have l2: ∀E:U,c.sub E->AC Tryz.prog 114 [.ptr M 0] E λl3 t=>E.sub t/\ ∃F G f g,l3=gM (cp (d,o) (bo a) (bo b)) (.J F f) (.J G g)/\az de [(d,o)] F/\az bu [bo a,bo b] G:=by
   intro E A;have p:=A _ _ p;have j:=j.mono A;have l:=l.mono A;have m:=U.ae p;refine aN hm My ?_;refine bp λk C=> ?_;have n9:M≠k:=by rintro rfl;rw[p]at C;cases C
   have L:=U.af (Y:= .cells [.v (.int .u8 0),.J [] .nil,.J [] .nil]) (U.a1) C;have l4:=U.ah E k (.cells [.v (.int .u8 0),.J [] .nil,.J [] .nil]);generalize E.set k _=l5 at*;have m:=U.ae (L _ _ p);refine aa ?_;refine(rK (dc U.a1 (by simp[aS,R.cells]) λ_ _ _=>trivial)).mpr ?_;refine aa ?_;refine ai (l0 l5 (j.mono L) D.a a8Z) ?_;rintro _ O ⟨P,S,T,V,rfl⟩;have n:=U.ar L P;have m:=U.ae (n _ _ p);have l6:=(ik (bo a) S T V w.2.1).1;refine aa ?_;refine(rK (dc U.a1 (by simp[aS,R.cells]) λ_ _ _=>trivial)).mpr ?_;refine aa ?_;refine ai (l1 O (l.mono n) D.b a8Z) ?_;rintro _ a00 ⟨Q,cd,ca,df,rfl⟩;have X:=U.ar n Q;have l7:=(ik (bo b) cd ca df cc.2.1).1;have m:=U.ae (X _ _ p);refine aa ?_;have Y:aS 37 [R.agg (ab (bo a) S T V),.agg (ab (bo b) cd ca df)]:=λq Z=>by
    simp only[a4T,a5W,or_false]at Z;rcases Z with rfl|rfl
    .exact l6
    .exact l7
   refine(rK (dc U.a1 Y λ_ _ _=>trivial)).mpr ?_;refine aa ?_;refine dc U.a1 (by simp[aS,R.cells]) λh j9 W=> ?_;refine aa ?_;refine dc U.a1 Y λl8 a01 k0=> ?_;have a02:=U.aJ (k0.sub _ _ (W.sub _ _ (Q _ _ (P _ _ l4))));refine aa ?_;exact⟨U.ar X (U.ar W.sub k0.sub),_,_,h,l8,rfl,⟨⟨k6,rfl⟩,trivial⟩,⟨w.2.1,w.2.2,S,T,V,rfl⟩,⟨cc.2.1,cc.2.2,cd,ca,df,rfl⟩,trivial⟩
  have k1:=λF G f g c B H=>Gr (cp (d,o) (bo a) (bo b)) F G f g c B H (by simp[cp]) (by simp[cp]) (λx l9=>by
   obtain rfl:x=(d,o):=by simpa[cp] using l9
   have:=D.r.len;dsimp only;omega) (λk2 n0=>by
   have:k2=bo a\/k2=bo b:=by simpa[cp] using n0
   grind) (by show(bo (.node d o a b)).size<= _;omega) (λq=>by cases q) (λq=>by cases q)
  have n1:eS (cp (d,o) (bo a) (bo b))=bo (.node d o a b):=rfl;rw[n1]at k1;have k3:=N.sum;generalize bo (.node d o a b)=I at*;have k4:=λy h z=>ik I y h z k3;have v: ∀y h z,putAt (ab aA .nil .nil .nil) 0 (ab I y h z)=ab I y h z:=λy h z=>cB bj k3;have a03:=ik aA .nil .nil .nil bj;refine aN hm Be ?_;refine bp λk C=> ?_;rw[cn];have L:=U.af (Y:= .cells (ab aA .nil .nil .nil)) (U.a1) C;refine ai (l2 _ L) ?_;rintro _ j9 ⟨W,F,G,f,g,rfl,B,H⟩;refine aa ?_;refine ai (k1 F G f g j9 B H) ?_;rintro _ O ⟨P,S,T,V,rfl⟩;have a04:=U.aJ (P _ _ (W _ _ (U.ah c k (.cells (ab aA .nil .nil .nil)))));refine aa ?_;have n:=U.ar L (U.ar W P);have aH:=P _ _ (W _ _ (U.ah c k (.cells (ab aA .nil .nil .nil))));refine aM λn2 k5=> ?_;have n3:k≠n2:=by rintro rfl;rw[aH]at k5;cases k5
  have a05:=n3.symm;have v:=v S T V;have k4:=k4 S T V;refine aa ?_;grind
theorem a3f (Q:e<=8) (c:a6.T 0) (D:R) (d:U) (l:bw d 0 c D) (m:eX e 0 c):
  AC Tryz.prog 115 [D] d λx h=>d.sub h/\ ∃E F y n,x=gM (dx 0 c) (.J E y) (.J F n)/\az de (dx 0 c).rows E/\az bu (dx 0 c).kids F:=by
 obtain⟨b,rfl⟩:=a6.hX c;obtain⟨X,q,Y,Z,rfl,G,p⟩:=l;have p:az isRow b q:=p;obtain⟨s,t,_⟩:=m.wf;rw[a6.hY]at s t;have j9:=p.len;have k0:=U.ae G;refine aN hm Bl ?_;refine bp λz u=> ?_;refine cW λL v w k1=> ?_;have P:=U.ah d z (.cells [.v (.int .u8 0),.J [] .nil,.J [] .nil]);have S:=U.af (Y:= .cells [.v (.int .u8 0),.J [] .nil,.J [] .nil]) (U.a1) u;have C:(d.set z (.cells [.v (.int .u8 0),.J [] .nil,.J [] .nil])) L=none:=by rw[U.ao _ _ w];exact v
 generalize d.set z _=A at*;have B:=S _ _ G;refine ch [0,2,3] (λa:Nat=> [(4,.v (.int .i64 (a)))]) (λa h=>a<=b.length/\ ∃ak r,h L=some (.cells [.v (.int .u8 2),.J ak r,.J [] .nil])/\bg A h 2 ak r/\az de ((b.take a).map λx=>(x,true)) ak) (λa=>b.length - a) 0 ⟨⟨a5d _,[],.nil,U.ah _ _ _,bg.nil (U.af (U.af U.a1 C) C),trivial⟩,aR⟩ ?_;rintro a H ⟨k2,ak,r,T,k,o⟩ I;have k3:=U.ae (k.sub _ _ B);have k4:=U.ae T;have V:=o.len;rw[a4I,a4z]at V;refine aa ?_;refine aG (λW=> ?_) λW=> ?_
 .have f:a<b.length:=a8Z;have K:b[a]? =some (b.getD a []):=by simp_all
  obtain⟨_,k5,y,rfl⟩:=p.get K;have M:=eQ (a:=b) (b:= []) f;generalize b.getD a []=k6 at*;refine aa ?_;refine dc U.a1 (by simp[aS,R.cells]) λk7 k8 g=> ?_;refine aa ?_;refine qs (k.mono g.sub) (o.cells λ_ _=>de.cells) (by simp[aS,R.cells]) a9b a9b λk9 l0 N O=> ?_;have i:=O _ _ (g.sub _ _ T);have aE:=U.aJ i;refine aa ?_;refine⟨a+1,⟨f,_,_,rfl,oI N C i,?_⟩,rfl,a8Z⟩;rw[M,a5y];exact o.snoc ⟨y,rfl⟩
 .obtain rfl:a=b.length:=a8Z;rw[a4S]at o;have l1:=U.ar S k.sub;have j:=U.aJ (k.sub _ _ P);clear W V j;refine ch [0,2,3] (λ_:Unit=> [(5,.v (.int .i64 0))]) (λ_ h=>h=H) (λ_=>0) () ⟨rfl,aR⟩ ?_;rintro _ _ rfl I;have j:=U.aJ (k.sub _ _ P);refine aa ?_;exact⟨ak,[],r,.nil,rfl,o,trivial⟩
def je.le (d:e<=8) (b:je e i w) (c:i<=1048576):w.ht/\w.sum.length=32/\w.cz:=by have a:=b.kC c;have h:=a.o8;have k:=a.o9;have o:=a.oa;exact⟨⟨a8Z,a8Z,a8Z,a.nd,a.live,a.nf,a.size⟩,b.sum,⟨a8Z,a8Z,a8Z⟩⟩
def a3g (I:1<=i) (j:i<=8) (c:a6.T (e+1)) (r:R) (b:U) (K:bw b (e+1) c r) (F:eX i (e+1) c)
  (ih: ∀(c:a6.T e) (r:R) (b:U),bw b e c r->eX i e c->AC Tryz.prog 61 [r] b λG d=>b.sub d/\ ∃M l N,G= .agg (ab (c4 e c) M l N)):
  AC Tryz.prog 115 [r] b λG d=>b.sub d/\ ∃m z O Q,G=gM (dx (e+1) c) (.J m O) (.J z Q)/\az de (dx (e+1) c).rows m/\az bu (dx (e+1) c).kids z:=by
 obtain⟨h,rfl⟩:=a6.gp c;obtain⟨X,z,l6,l,rfl,n,C,l7,_⟩:=K;have C:az (bw b e) h z:=C;have Y:=F.hd;obtain⟨Z,j9,_⟩:=F.wf;rw[a6.dE]at Z j9;have l8:=F.dw;have l9:=C.len;have n0:=U.ae n;refine aN hm Bl ?_;refine bp λL k0=> ?_;refine cW λk k1 k2 n1=> ?_;have k3:=U.ah b L (.cells [.v (.int .u8 0),.J [] .nil,.J [] .nil]);have P:=U.af (Y:= .cells [.v (.int .u8 0),.J [] .nil,.J [] .nil]) (U.a1) k0;have o:(b.set L (.cells [.v (.int .u8 0),.J [] .nil,.J [] .nil])) k=none:=by rw[U.ao _ _ k2];exact k1
 generalize b.set L _=q at*;have D:=P _ _ n;have n2:X≠k:=by rintro rfl;rw[D]at o;cases o
 refine ch [0,2,3] (λ_:Unit=> [(4,.v (.int .i64 0))]) (λ_ d=>d=(q.set k (.cells [.v (.int .u8 0),.J [] .nil,.J [] .nil])).set k (.cells [.v (.int .u8 2),.J [] .nil,.J [] .nil])) (λ_=>0) () ⟨rfl,aR⟩ ?_;rintro _ _ rfl k4;have n3:=U.ae D;refine aa ?_;refine ch [0,2,3] (λa:Nat=> [(5,.v (.int .i64 (a)))]) (λa d=>a<=h.length/\ ∃ak p,d k=some (.cells [.v (.int .u8 (if a=0 then 2 else 3)),.J [] .nil,.J ak p])/\bg q d 37 ak p/\az bu ((h.take a).map (c4 e)) ak) (λa=>h.length - a) 0 ⟨⟨a5d _,[],.nil,U.ah _ _ _,bg.nil (U.af (U.af U.a1 o) o),trivial⟩,aR⟩ ?_;rintro a s ⟨n4,ak,p,E,x,y⟩ k4;have n5:=U.ae (x.sub _ _ D);have k5:=U.ae E;have k6:=U.aJ E;have k7:=y.len;rw[a4I,a4z]at k7;refine aa ?_;refine aG (λk8=> ?_) λk8=> ?_
 .have S:a<h.length:=a8Z;have t:=a4w S;obtain⟨n9,a00,u⟩:=C.get t;obtain⟨T,_⟩:=Y _ (a4D t);have k9:=T.dw;have l0:=a5H S;have V:=(uz I j T).le j k9;generalize h[a]=W at*;obtain⟨aO,a01,a02,rfl,_⟩:=bw.ptr u;refine aa ?_;have f:=oI (Y:= .cells [.v (.int .u8 3),.J [] .nil,.J ak p]) x o E;have l1:=U.ah s k (.cells [.v (.int .u8 3),.J [] .nil,.J ak p]);clear x E k5 k6;generalize s.set k _=l2 at*;refine ai (ih W _ l2 (u.mono (U.ar P f.sub)) T) ?_;rintro _ a03 ⟨g,cd,ca,df,rfl⟩;have v:=g _ _ l1;have a04:=U.ae v;have a05:=U.ae (g _ _ (f.sub _ _ D));have l3:=(ik (c4 e W) cd ca df V.2.1).1;have w:aS 37 [R.agg (ab (c4 e W) cd ca df)]:=λa06 A=>by rw[a4Q]at A;subst A;exact l3
  refine aa ?_;refine dc U.a1 w λa07 a08 B=> ?_;refine aa ?_;refine qs ((f.mono g).mono B.sub) (y.cells λ_ _=>bu.cells) w a9b a9b λa09 a10 l4 l5=> ?_;have H:=l5 _ _ (B.sub _ _ v);have aE:=U.aJ H;refine aa ?_;refine⟨a+1,⟨S,_,_,rfl,oI l4 o H,?_⟩,rfl,a8Z⟩;rw[l0,a5y];exact y.snoc ⟨V.2.1,V.2.2,cd,ca,df,rfl⟩
 .obtain rfl:a=h.length:=a8Z;rw[a4S]at y;have a11: ¬h.length=0:=a8Z;have a13:=U.aJ (x.sub _ _ k3);refine aa ?_;exact⟨U.ar P x.sub,[],ak,.nil,p,rfl,trivial,y⟩
theorem GB (B:1<=i) (H:i<=8) (a:a6.T e) (D:R) (b:U) (I:bw b e a D) (E:eX i e a)
  (K: ∀x,b.sub x->AC Tryz.prog 115 [D] x λy G=>x.sub G/\ ∃p r z C,y=gM (dx e a) (.J p z) (.J r C)/\az de (dx e a).rows p/\az bu (dx e a).kids r):
  AC Tryz.prog 61 [D] b λy x=>b.sub x/\ ∃h k o,y= .agg (ab (c4 e a) h k o):=by
 have L:=(nq B H e a E).1;obtain⟨P,M,F⟩:=lb L.y4.ok;have l:=L.kC;have k2:=E.dw;have k3:=l.size;have m:=λp r z C b S T=>Gr (dx e a) p r z C b S T M F (λN O=>by have:=P N O;omega) (λQ X=>by
  have c:=L.y4.kids Q X;have D:=c.o8;have Y:=c.o9;have k4:=c.oa;exact⟨⟨a8Z,a8Z,a8Z,c.nd,c.live,c.nf,c.size⟩,c.sum,⟨a8Z,a8Z,a8Z⟩⟩) (by show(eS (dx e a)).size<= _;omega) (λd=>by
  match e,a,d with
  |0,a,_=>obtain⟨n,rfl⟩:=a6.hX a;have:=E.wf.1;rw[a6.hY]at this;intro Z;have j9:(dx 0 (a6.leaf n)).rows=n.map λy=>(y,true):=rfl;simp_all
  |e+1,a,d=>exact absurd d zF) (λd=>by
  match e,a,d with
  |0,a,d=>rw[Ep]at d;cases d
  |e+1,a,_=>obtain⟨q,rfl⟩:=a6.gp a;have:=E.wf.1;rw[a6.dE]at this;intro Z;have j9:(dx (e+1) (a6.node q)).kids=q.map (c4 e):=rfl;simp_all)
 have V:=l.sum;rw[<-sF]at V m;obtain⟨Y,k5,k6,rfl,k7⟩:=bw.ptr I;generalize c4 e a=W at*;have s:=λh k o=>ik W h k o V;have t: ∀h k o,putAt (ab aA .nil .nil .nil) 0 (ab W h k o)=ab W h k o:=λh k o=>cB bj V;have k8:=ik aA .nil .nil .nil bj;refine aN hm Bf ?_;refine bp λf P=> ?_;rw[cn];have u:=U.af (Y:= .cells (ab aA .nil .nil .nil)) (U.a1) P;refine ai (K _ u) ?_;rintro _ G ⟨g,p,r,z,C,rfl,S,T⟩;refine aa ?_;refine ai (m p r z C G S T) ?_;rintro _ k9 ⟨j,v,w,A,rfl⟩;have l0:=U.aJ (j _ _ (g _ _ (U.ah b f (.cells (ab aA .nil .nil .nil)))));refine aa ?_;have l1:=U.ar u (U.ar g j);have aH:=j _ _ (g _ _ (U.ah b f (.cells (ab aA .nil .nil .nil))));refine aM λk0 F=> ?_;have k1:f≠k0:=by rintro rfl;rw[aH]at F;cases F
 have l2:=k1.symm;have t:=t v w A;have s:=s v w A;refine aa ?_;grind
def GC {x:Nat} (r:1<=x) (h:x<=8): ∀(d:Nat) (a:a6.T d) (b:R) (c:U),bw c d a b->eX x d a->AC Tryz.prog 61 [b] c λz k=>c.sub k/\ ∃C D E,z= .agg (ab (c4 d a) C D E)
 |0,a,b,c,o,p=>GB r h a b c o p λk y=>a3f h a b k (o.mono y) p
 |d+1,a,b,c,o,p=>GB r h a b c o p λk y=>a3g r h a b k (o.mono y) p λa b c=>GC r h d a b c
def a3h (h:1<=e) (k:e<=8) (a:eD) (b:R) (c:U) (d:fM c a b) (o:iH e a):AC Tryz.prog 61 [b] c λp r=>c.sub r/\ ∃x y z,p= .agg (ab (iM a) x y z):=by
 match a with
 |none=>obtain rfl:b= .v (.pointer none):=d;have eN:=ik aA .nil .nil .nil bj;have D:putAt (ab aA .nil .nil .nil) 0 (ab aA .nil .nil .nil)=ab aA .nil .nil .nil:=cB bj bj;refine aN hm Bf ?_;refine bp λE F=> ?_;rw[cn];exact⟨.nil,.nil,.nil,by rw[(aW bj).t37];rfl⟩
 |some ⟨C,a⟩=>exact GC h k C a b c d (GT.jS o)
def kK (a:List cN):List R:=a.map cN.V
def vs {a:List cN}:(kK a).length=a.length:=by simp[kK]
def zX {a:List cN}{b:cN} (c:a[e]? =some b):ez 4 (kK a)[e]? =some (.bV b.C):=by obtain⟨d,rfl⟩:=a4E.1 c;rw[show(kK a)[e]? =some (a[e]).V by simp[kK,d]];rfl
structure gP (a:ag) (l:List aL) (cJ:List aT):Prop where
 eq:l=cJ.map aT.bz
 ins: ∀t∈cJ,dW a t.bM/\mw a t.cq
def gP.mono {b c:ag}{d:List aL}{h:List aT} (a:gP b d h) (k:b.le c):gP c d h:=⟨a.eq,λo p=>⟨(a.ins o p).1.mono k,(a.ins o p).2.mono k⟩⟩
theorem GD {b c:ag->Except Int ay×ag} (r: ∀a:ag,a.le (b a).2) (x: ∀a:ag,a.le (c a).2) (a:ag) (y:List aL) (z:aL):a.le (fy b c a y z).2.2:=by
 unfold fy;have d:=r a;generalize b a=h at*;obtain⟨k,o⟩:=h;cases k with
 |error C=>exact d
 |ok D=>
  have p:=x o
  dsimp only
  generalize c o=h at*;obtain⟨k,E⟩:=h;cases k with
  |error C=>exact d.trans p
  |ok F=>exact d.trans p
variable{H:ag}
def GF (F:dj e X) (G:e<=1000) {a:aT} (L:eM i j7) (P:i<=1000) (y:j7.name=a.name) (S:j7.aD=a.aD) (T:bX X a.name<X.length) {c b:ag->Except Int ay×ag}
  (r:fZ H j7.bM (c H)) (h: ∀d:ag,H.le d->d.one=false->pJ d j7.cq (b d)) (V: ∀d:ag,d.le (b d).2) (k:(fy c b H (X.map aT.bz) a.bz).2.2.one=false):
  (fy c b H (X.map aT.bz) a.bz).1=0/\(fy c b H (X.map aT.bz) a.bz).2.1=(X.set (bX X a.name) j7).map aT.bz/\H.le (fy c b H (X.map aT.bz) a.bz).2.2/\dW (fy c b H (X.map aT.bz) a.bz).2.2 j7.bM/\mw (fy c b H (X.map aT.bz) a.bz).2.2 j7.cq:=by
 unfold fy at k|-;generalize c H=o at*;obtain⟨x,p⟩:=o;cases x with
 |error W=>cases (r.ins k).1
 |ok f=>
  dsimp only at k|-
  have C:=V p;have D:p.one=false:=by
   revert k;generalize b p=o at*;obtain⟨x,g⟩:=o;cases x with
   |error W=>exact λz=>C.zero z
   |ok f=>exact λz=>C.zero z
  obtain⟨j,l⟩:=r.ins D;obtain rfl:=Except.ok.inj j;have h:=h p r.le D;generalize b p=o at*;obtain⟨x,g⟩:=o;obtain rfl:=h.ok
  dsimp only at k|-
  have E:=p9 F G L P (by rw[y];exact T);have m:j7.bz=⟨a.bz.name,a.bz.aD,bo j7.bM,iM j7.cq⟩:=by show(⟨j7.name,j7.aD,bo j7.bM,iM j7.cq⟩:aL)=⟨a.name,a.aD,bo j7.bM,iM j7.cq⟩;rw[y,S]
  rw[m,y]at E;rw[E];exact⟨rfl,rfl,r.le.trans h.le,l.mono h.le,h.ins k⟩
def a3i (a:ag) (b:ay):a.le (nC e q a b).2:=zb _ _ _ _
variable{j3:Int × List aL × ag}{e1:List aL}
theorem a3j (a:lA H e1 c0 j3):H.le j3.2.2:=by
 unfold lA at a;split at a
 .rw[a];exact ag.le_refl
 split at a
 .rcases a with ⟨_,rfl⟩|⟨rows,_,_,⟨_,rfl⟩|⟨_,rfl⟩⟩
  .exact ag.le_refl
  .exact GD (λH=>a3i _ _) (λH=>Ey) _ _ _
  .exact ag.le_refl
 .rw[a];exact ag.le_refl
theorem a3k:H.le (jo H e1 c0).2.2:=by grind[jo,ag.le_refl,GD,a1v,EB]
theorem a3l (a:ew H e1 c0 j3):H.le j3.2.2:=by grind[ew,ag.le_refl,a3j,a3k]
theorem zY {b:Except Int (List aL)} (c:cx e1=true) (d: ∀a,b= .ok a->cx a=true):cx (iL b e1).2=true:=by
 cases b with
 |error h=>exact c
 |ok a=>exact d a rfl
variable{e7:aL}
theorem GG {a b:ag->Except Int ay×ag} (c:cx e1=true):cx (fy a b H e1 e7).2.1=true:=by grind[fy,zY,G6]
theorem a3m (b:cx e1=true) (a:ew H e1 c0 j3):cx j3.2.1=true:=by
 unfold ew at a;split at a
 .rw[a];exact b
 split at a
 .rw[a];exact zY b λc a=>G9 a
 split at a
 .rw[a];exact zY b λc a=>G5 b a
 split at a
 .unfold lA at a;split at a
  .rw[a];exact b
  split at a
  .rcases a with ⟨_,rfl⟩|⟨rows,_,_,⟨_,rfl⟩|⟨_,rfl⟩⟩
   .exact b
   .exact GG b
   .exact b
  .rw[a];exact b
 grind[jo,GG]
def ta (c:cx e1=true): ∀a∈e1,a.Fit:=λa d=>by
 have b:=(mu c).1 a d;exact⟨by have:=b.n;omega,by have:=b.c;omega,λh k=>by have:=b.cs h k;omega⟩
theorem tb (a:ew H e1 c0 j3) (r:dj e X) (I:e<900) (o:cR c0.row) (t:gP H e1 X) (P:j3.2.2.one=false):
  j3.1=(eF X c0).1/\gP j3.2.2 j3.2.1 (eF X c0).2:=by
 obtain⟨rfl,x⟩:=t;have t:gP H (X.map aT.bz) X:=⟨rfl,x⟩;unfold ew at a;unfold eF;by_cases K:eu c0=false;simp_all;rw[if_neg K]at a|-;have W:eu c0=true:=by simp_all
 by_cases y:c0.kind=1
 .rw[if_pos y]at a|-;have M:=zO W y;rw[add_eq r a8Z M]at a;by_cases c2:bX X c0.table<X.length
  .rw[if_pos c2]at a|-;rw[a];trivial
  rw[if_neg c2]at a|-;by_cases aH:7<X.length
  .rw[if_pos aH]at a|-;rw[a];trivial
  rw[if_neg aH]at a|-;rw[a];refine⟨rfl,rfl,λb c=> ?_⟩;simp only[a4M,a4T]at c;rcases c with c|rfl|c;grind
  .trivial
  grind
 rw[if_neg y]at a|-;by_cases aH:c0.kind=2
 .rw[if_pos aH]at a;rw[zP r a8Z]at a;by_cases c2:bX X c0.table<X.length
  .rw[if_pos c2]at a;rw[if_neg a8Z,if_pos aH,a];exact⟨rfl,rfl,λb c=>x b (a7B c)⟩
  .rw[if_neg c2]at a;rw[if_pos a8Z,a];trivial
 rw[if_neg aH]at a;by_cases c2:X.length<=bX X c0.table
 .rw[if_pos c2];have f:(X.map aT.bz).find? (λb=>decide (b.name=c0.table))=none:=by rw[pK,a7h c2];rfl
  rcases vr W y aH with h|h
  .rw[if_pos h]at a;unfold lA at a;simp_all
  .rw[if_neg (by rw[h];decide)]at a;unfold jo mv at a;simp_all
 rw[if_neg c2,if_neg aH];have z:bX X c0.table<X.length:=a8Z;have u:=vq z;have c:=r.ok _ u;have S:=sZ z;have f:(X.map aT.bz).find? (λb=>decide (b.name=c0.table))=some (X.getD (bX X c0.table) default).bz:=by rw[pK,a5p,a4w z];rfl
 generalize X.getD (bX X c0.table) default=b at*;have k4:=c.c;obtain⟨C,w⟩:=x b u;have k5:=c.dz.cm;have T: ∀V:aT,dW j3.2.2 V.bM/\mw j3.2.2 V.cq->H.le j3.2.2-> ∀v∈X.set (bX X c0.table) V,dW j3.2.2 v.bM/\mw j3.2.2 v.cq:=λV D p v N=>by
  rcases a6F N with d|rfl
  .exact⟨(x v d).1.mono p,(x v d).2.mono p⟩
  .exact D
 rcases vr W y aH with h|h
 .rw[if_pos h]at a;rw[if_neg (show¬c0.kind=4 by rw[h];decide)];unfold lA at a;rw[f]at a
  dsimp only at a
  by_cases aI:c0.row.length=b.aD.length+1
  .rw[if_neg (show¬c0.row.length≠b.aD.length+1 from λd=>d aI)];rw[if_pos (show c0.row.length=b.bz.aD.length+1 from aI)]at a;have g:bL (b.aD.length+1) c0.row:=⟨aI,o⟩;rcases a with ⟨E,_⟩|⟨rows,O,_,a⟩
   .exact absurd E (zy (e:=b.aD.length+1) a8Z a8Z c.dz.fe a8Z C)
   have Q:=zA a8Z a8Z c.dz.fe a8Z C O;have Y:rows= []↔ ¬b.rows.any (λF=>decide (bP F=bP c0.row))=true:=by
    rw[Q,a7m];constructor
    .rintro d ⟨F,o,k⟩;exact d F (c.fV.mem_iff.2 o) ((zB a8Z (c.row o)).2 (of_decide_eq_true k))
    .intro d Z j9 G;have A:=c.fV.mem_iff.1 j9;exact d ⟨Z,A,decide_eq_true ((zB a8Z (c.row A)).1 G)⟩
   rcases a with ⟨k,a⟩|⟨k,a⟩
   .have B:=Y.1 k;rw[if_neg B];obtain⟨D,i,j⟩:=c.put I g λF o k=>B (a7m.2 ⟨F,o,decide_eq_true k⟩);have E:=a1w a8Z a8Z g c.dz.fe a8Z C i;rw[a]at P T|-;have G:=GF (a:=b) r a8Z D a8Z rfl rfl (by rw[S];exact z) (c:=λH=>nC (b.aD.length+1) c0.row H (bo b.bM)) E (λl p k0=>a2q a8Z a8Z g c.go (w.mono p) j) (λl=>Ey) P;obtain⟨m,L,n,q,s⟩:=G;rw[S]at L;exact⟨m,L,T _ ⟨q,s⟩ n⟩
   grind
  .rw[if_neg (show¬c0.row.length=b.bz.aD.length+1 from aI)]at a;grind
 .rw[if_neg (by rw[h];decide)]at a;rw[if_pos h];unfold jo mv at a;rw[f]at a
  dsimp only at a
  by_cases aI:c0.row.length=b.aD.length+1
  .rw[if_neg (show¬c0.row.length≠b.aD.length+1 from λd=>d aI)];rw[if_pos (show c0.row.length=b.bz.aD.length+1 from aI)]at a
   dsimp only at a
   rw[if_pos rfl]at a;by_cases bs:c0.row∈b.rows
   .rw[if_pos bs];obtain⟨D,i,j⟩:=c.del bs;have E:=a1x a8Z a8Z c.dz.fe a8Z C i;rw[a]at P T|-;have G:=GF (a:=b) r a8Z D a8Z rfl rfl (by rw[S];exact z) (c:=λH=>iK (b.aD.length+1) c0.row H (bo b.bM)) E (λl p k0=>a2v a8Z a8Z (c.row bs) c.go (w.mono p) j) (λl=>EB) P;obtain⟨m,L,n,q,s⟩:=G;rw[S]at L;exact⟨m,L,T _ ⟨q,s⟩ n⟩
   .rw[if_neg bs];have k1:=FC a8Z a8Z c.dz.fe a8Z C (c.none aI bs);have k2:j3=(9,X.map aT.bz,H):=by
     rw[a];unfold fy;show(match iK (b.aD.length+1) c0.row H (bo b.bM)with
      |(.error k,k3)=> _
      |(.ok k6,k3)=> _)= _
     rw[k1]
    rw[k2];trivial
  .rw[if_neg (show¬c0.row.length=b.bz.aD.length+1 from aI)]at a;simp_all
inductive vt:ag->List aL->List cw->Int×List aL×ag->Prop
 |nil (a:ag) (l:List aL):vt a l [] (0,l,a)
 |stop {a:ag}{l:List aL}{d:cw}{cJ:List cw}{res:Int×List aL×ag}:ew a l d res->res.1≠0->vt a l (d::cJ) res
 |step {a:ag}{l:List aL}{d:cw}{cJ:List cw}{res b:Int×List aL×ag}:ew a l d res->res.1=0->vt res.2.2 res.2.1 cJ b->vt a l (d::cJ) b
theorem GH (z:U) (i j:Nat) (c:List aT) (r:ff z i c) (l:dj j c) (l2:j<=1000):
  AC Tryz.prog 25 [.ptr i 0] z λI D=>z.sub D/\ ∃x m,I= .J x m/\az dy (c.map aT.bz) x:=by
 obtain⟨l3,m,E,n⟩:=r;have l4:=n.len;have l5:=l.dw;refine aN hm Ke ?_;refine ch [0] (λb:Nat×List R×Own=> [(3,.J b.2.1 b.2.2),(4,.v (.int .i64 (b.1)))]) (λb D=>b.1<=c.length/\bg z D 76 b.2.1 b.2.2/\az dy ((c.take b.1).map aT.bz) b.2.1) (λb=>c.length - b.1) (0,[],.nil) ⟨⟨a5d _,bg.nil U.a1,trivial⟩,aR⟩ ?_;rintro⟨k,x,K⟩ M ⟨N,d,o⟩ l6
 dsimp only at N d o|-
 have q:=U.ae (d.sub _ _ E);have O:=o.len;rw[a4I,a4z]at O;refine aa ?_;refine aG (λQ=> ?_) λQ=> ?_
 .have X:k<c.length:=a8Z;have s:c[k]? =some (c.getD k default):=by simp_all
  obtain⟨_,l7,l8,y,l9,n0,Y,Z,rfl,F,n1,t,u⟩:=n.get s;have h:=l.ok _ (a4D s);have j9:=eQ (b:=default) X;generalize c.getD k default=a at*;have n2:=h.c;have n3:=h.dz.cm;have G:=(fc a8Z a8Z h.dz.fe a8Z).le a8Z a8Z;have L:(iM a.cq).sum.length=32/\(iM a.cq).cz:=by
   rcases zH a8Z a8Z h.go with ⟨_,C⟩|⟨_,C⟩
   .rw[C];exact⟨bj,me⟩
   .have n4:=h.nH.length_eq;have n5:=h.dw;have:=C.le a8Z a8Z;simp_all
  have v:=U.ae (d.sub _ _ F);have n9:=t.cells;have eN:=u.cells;refine aa ?_;refine ai (zV a8Z a8Z a.bM Y M (t.mono d.sub) h.dz.fe a8Z) ?_;rintro _ k0 ⟨p,P,S,V,rfl⟩;have q:=U.ae (p _ _ (d.sub _ _ E));have v:=U.ae (p _ _ (d.sub _ _ F));refine aa ?_;refine ai (a3h a8Z a8Z a.cq Z k0 (u.fD (U.o1 (U.ar d.sub p))) h.go) ?_;rintro _ a00 ⟨W,cd,ca,df,rfl⟩;have q:=U.ae (W _ _ (p _ _ (d.sub _ _ E)));have v:=U.ae (W _ _ (p _ _ (d.sub _ _ F)));have k1:a.aD.length<=1000000:=a8Z;have e:en ⟨a.name,a.aD,aA,aA⟩ (bb a.name:: .J (bE a.aD) y::(ab aA .nil .nil .nil++ab aA .nil .nil .nil)):=⟨⟨y,_,_,_,_,_,_,rfl⟩,⟨bj,me⟩,⟨bj,me⟩,k1⟩;have f:=e.FV (M:=P) (e6:=S) (h4:=V) G.2.1 G.2.2;have w:=f.FW (M:=cd) (e6:=ca) (h4:=df) L.1 L.2;have a01:putAt eL 0 [bb a.name]=bb a.name:: .J [] .nil::(ab aA .nil .nil .nil++ab aA .nil .nil .nil):=rfl;have a02:putAt (bb a.name:: .J [] .nil::(ab aA .nil .nil .nil++ab aA .nil .nil .nil)) 1 [.J (bE a.aD) y]=bb a.name:: .J (bE a.aD) y::(ab aA .nil .nil .nil++ab aA .nil .nil .nil):=rfl;have a03:=ga.all.1;have a04:(bb a.name:: .J [] .nil::(ab aA .nil .nil .nil++ab aA .nil .nil .nil)).length=76:=by omega
  have a05:=e.all.1;have a06:=f.all.1;have k2:=w.all.1;have a07:=(aW (M:=P) (e6:=S) (h4:=V) G.2.1).len;have a08:=(aW (M:=cd) (e6:=ca) (h4:=df) L.1).len;have A:=jm;generalize eL=a09 at*;generalize bb a.name:: .J [] .nil::(ab aA .nil .nil .nil++ab aA .nil .nil .nil)=a10 at*;generalize bb a.name:: .J (bE a.aD) y::(ab aA .nil .nil .nil++ab aA .nil .nil .nil)=k3 at*;generalize k4:ab (bo a.bM) P S V=k5 at*;generalize k6:ab (iM a.cq) cd ca df=k7 at*;generalize a11:putAt k3 2 k5=k8 at*;generalize a13:putAt k8 39 k7=g at*;clear k4 k6 e f;rw[A];clear A;refine aa ?_;have B:aS 76 [R.agg g]:=λC H=>by rw[a4Q]at H;subst H;exact k2
  refine dc U.a1 B λa14 a15 k9=> ?_;refine aa ?_;refine dY (((d.mono p).mono W).mono k9.sub) (o.cells λb a16 r=>by obtain⟨T,rfl,r⟩:=r;exact r.all.1) B a9b a9b λl0 a18 l1=> ?_;refine aa ?_;refine⟨(k+1,x++ [.agg g],l0),⟨by simp only;omega,l1,?_⟩,⟨rfl,rfl⟩,by simp only;omega⟩;simp only[j9,a5y];exact o.snoc ⟨g,rfl,w⟩
 .obtain rfl:k=c.length:=a8Z;rw[a4S]at o;exact⟨d.sub,x,K,rfl,o⟩
def GI (p:dj e X) (r:e<=1000): ∀o∈X.map aT.bz,o.In:=λo x=>by
 obtain⟨h,y,rfl⟩:=a4R.1 x;have c:=p.ok h y;have C:=c.c;have D:=c.dz.cm;have a:=(fc a8Z a8Z c.dz.fe a8Z).kC a8Z;refine⟨FN (c.bz r),?_,?_⟩
 .show(bo h.bM).In 8;have:=a.o8;have:=a.o9;have:=a.oa;exact⟨a.sum,a.aU,a.aV,a.key,a8Z,a8Z,a8Z,a.nd,a.live,a.nf,a.size⟩
 .show(iM h.cq).In 8;rcases zH a8Z a8Z c.go with ⟨_,k⟩|⟨_,k⟩
  .rw[k];have d:cR []:=λE z=>(by cases z);exact⟨bj,d,d,d,a5d _,a5d _,a5d _,a9d,a9d,a9d,a9d⟩
  .have d:=c.nH.length_eq;have F:=c.dw;have b:=k.kC a8Z;have:=b.o8;have:=b.o9;have:=b.oa;exact⟨b.sum,b.aU,b.aV,b.key,a8Z,a8Z,a8Z,b.nd,b.live,b.nf,b.size⟩
def vu (d h:U):Prop:= ∀b a c,d b=some (.cells (a::c))->((∃k o,a= .J k o)\/ ∃p,a=bb p)->h b=some (.cells (a::c))
def dN.lB {b c:U} (a:vu b c): ∀ {d:aC}{h:R},dN b d h->dN c d h
 | .nil,_,k=>k
 | .node _ _ _ _,_,⟨o,p,r,x,h1,y,z,C⟩=>⟨o,p,r,x,h1,a _ _ _ y (.inl ⟨_,_,rfl⟩),z.lB a,C.lB a⟩
def gF.lB {b c:U} (a:vu b c) {d:aT}{h:R} (o:gF b d h):gF c d h:=by obtain⟨p,r,x,y,k,z,C,D,E,F,G⟩:=o;exact⟨p,r,x,y,k,z,C,a _ _ _ D (.inr ⟨_,rfl⟩),E,F.lB a,G.Gl λP S T k V L=>a _ _ _ L (.inl ⟨_,_,rfl⟩)⟩
def ff.lB {b c:U} (d:vu b c) {h:Nat}{k:List aT} (a:ff b h k):ff c h k:=by obtain⟨o,p,r,x⟩:=a;exact⟨o,p,d _ _ _ r (.inl ⟨_,_,rfl⟩),x.mono λy z a=>a.lB d⟩
theorem cA.rs (c:cO f e i v H e1) (h:cA e i v f t):vu f t:=λk r x a d=>by
 obtain⟨y,z,o,_⟩:=c.x;obtain⟨C,D,p⟩:=c.gq.at_;obtain⟨E,⟨F,G,L,_⟩,_⟩:=c.gq.mp;refine h k _ ?_ ?_ ?_ a
 .rintro rfl;rw[o]at a;obtain⟨rfl,_⟩:=a8c (bq.cells.inj (a4v a));rcases d with ⟨_,_,b⟩|⟨_,b⟩<;>cases b
 .rintro rfl;rw[p]at a;obtain⟨rfl,_⟩:=a8c (bq.cells.inj (a4v a));rcases d with ⟨_,_,b⟩|⟨_,b⟩<;>cases b
 grind
def cO.zZ (a:cO f i v O H e1) (o:ff f e X) (d:eo e f t):cO t i v O H e1:=by
 obtain⟨p,r,h,x⟩:=a.x;obtain⟨D,E,b⟩:=a.gq.at_;obtain⟨F,⟨G,L,c,P⟩,S⟩:=a.gq.mp;obtain⟨T,V,k,_⟩:=o;have y:i≠e:=by rintro rfl;rw[k]at h;cases h
 have z:v≠e:=by rintro rfl;rw[k]at b;cases b
 have C:O≠e:=by rintro rfl;rw[k]at c;cases c
 exact⟨a.gq.other (by rw[b];exact d _ _ z b) (by rw[c];exact d _ _ C c),⟨p,r,d _ _ y h,x⟩,a.ly,a.lz⟩
structure ra (b:U) (c gz d W:Nat) (a:ag) (l:List aL) (cJ:List aT) (n:Nat):Prop where
 st:cO b c gz d a l
 cat:cx l=true
 rs:ff b W cJ
 inv:dj n cJ
 rep:a.one=false->gP a l cJ
def ra.step {L y z:U}{h k o p C:Nat}{D:ag}{P:List aL}{r:List aT} (a:ra L h k o p D P r C) (E:C<900) {c:cw} (F:cR c.row) {b:Int×List aL×ag} (x:ew D P c b)
  (S:cO y h k o b.2.2 b.2.1) (T:cA h k o L y) (V:ff z p (eF r c).2) (W:eo p y z):ra z h k o p b.2.2 b.2.1 (eF r c).2 (C+1)/\D.le b.2.2/\(b.2.2.one=false->b.1=(eF r c).1):=by
 have G:=a3l x;have e:=a.rs.lB (T.rs a.st);refine⟨⟨S.zZ e W,a3m a.cat x,V,zR a.inv E F,λd=>(tb x a.inv E F (a.rep (G.zero d)) d).2⟩,G,λd=>(tb x a.inv E F (a.rep (G.zero d)) d).1⟩
def cw.hC (a:cw):Prop:=a.table.length<=100/\a.aD.length<=20/\(∀b∈a.aD,b.length<=100)/\a.row.length<=50
def cw.hC.fit (a:c0.hC):c0.Fit:=⟨by have:=a.1;omega,by have:=a.2.1;omega,λb c=>by have:=a.2.2.1 b c;omega,by have:=a.2.2.2;omega⟩
theorem GJ (c:List cN) (D:Own) (p:U) (W:c.length<=9223372036854775807):
  AC Tryz.prog 9 [.J (kK c) D] p λE F=>F=p/\ ∃r,E= .v (.bool r)/\(r=false->c.length<=300/\ ∀h∈c,h.d.hC):=by
 have e:=vs (a:=c);refine aN hm JQ ?_;refine aG (λx=> ?_) λf=> ?_;simp;refine gJ [0] (λd:Nat=> [(3,.v (.int .i64 d))]) (λd=>d<=c.length/\ ∀h∈c.take d,h.d.hC) (λd=>c.length - d) 0 ⟨a5d _,λh k=>by cases k⟩ aR ?_;rintro d ⟨g,G⟩ L;refine aa ?_;refine aG (λx=> ?_) λx=> ?_
 .have o:d<c.length:=a8Z;have P:=a4w o;have i:=zX P;have S:=a5H o;generalize c[d]=a at*;have j:=cN.m1 (a:=a);have l:=cN.m2 (a:=a);have m:=cN.m3 (a:=a);have n:=cN.Zw (a:=a);have q:=hz (a:=a.d.aD);have s:=bH (q:=a.d.row);have t:=sH (B:=a.d.table);generalize a.C=u at*;refine aa ?_;refine aG (λT=> ?_) λT=> ?_;rotate_left;simp;refine aG (λc2=> ?_) λc2=> ?_;rotate_left;simp;refine aG (λaH=> ?_) λaH=> ?_;simp;refine gJ [0,3] (λb:Nat=> [(4,.v (.int .i64 b))]) (λb=>b<=a.d.aD.length/\ ∀V∈a.d.aD.take b,V.length<=100) (λb=>a.d.aD.length - b) 0 ⟨a5d _,λh k=>by cases k⟩ aR ?_;rintro b ⟨v,y⟩ L;refine aa ?_;refine aG (λaI=> ?_) λaI=> ?_
  .have z:b<a.d.aD.length:=a8Z;have w:=pt z;have A:a.d.aD.take (b+1)=a.d.aD.take b++ [a.d.aD.getD b []]:=eQ z;have B:=sH (B:=a.d.aD.getD b []);generalize a.d.aD.getD b []=H at*;refine aa ?_;refine aG (λbm=> ?_) λbm=> ?_;simp;grind
  .obtain rfl:b=a.d.aD.length:=a8Z;rw[a4S]at y;refine⟨d+1,⟨o,λh C=> ?_⟩,rfl,a8Z⟩;rw[S]at C;rcases a4M.1 C with k|k
   .exact G h k
   .obtain rfl:=a4Q.1 k;exact⟨a8Z,a8Z,y,a8Z⟩
 grind
def tc (a:U) (c d h:Nat) (b:ag) (k:List aL) (o:cO a c d h b k):
  AC Tryz.prog 22 [.ptr c 0] a λp r=>a.sub r/\p= .v (.bool b.one):=by
 refine aN hm K8 ?_;refine bc (zr a c d h b k o) ?_;refine ai (XX a d h b o.gq) ?_;rintro _ x ⟨y,z,C,rfl⟩;refine aa ?_;trivial
theorem A0 (a:ew H e1 c0 j3) (r:dj e X) (f:e<900) (o:cR c0.row) (F:gP H e1 X) (c:(eF X c0).1≠0):j3=((eF X c0).1,e1,H):=by
 obtain⟨rfl,G⟩:=F;unfold ew at a;unfold eF at c|-;by_cases L:eu c0=false;grind;rw[if_neg L]at a c|-;have D:eu c0=true:=by grind
 by_cases p:c0.kind=1
 .rw[if_pos p]at a c|-;have P:=zO D p;rw[add_eq r a8Z P]at a;by_cases c2:bX X c0.table<X.length
  .rw[if_pos c2]at a c|-;exact a
  rw[if_neg c2]at a c|-;by_cases aH:7<X.length
  .rw[if_pos aH]at a c|-;exact a
  simp_all
 rw[if_neg p]at a c|-;by_cases aH:c0.kind=2
 .rw[if_pos aH]at a;rw[zP r a8Z]at a;by_cases c2:bX X c0.table<X.length;grind
  .rw[if_neg c2]at a;rw[if_pos a8Z];exact a
 rw[if_neg aH]at a;by_cases c2:X.length<=bX X c0.table
 .rw[if_pos c2];have x:(X.map aT.bz).find? (λb=>decide (b.name=c0.table))=none:=by rw[pK,a7h c2];rfl
  simp_all [if_pos,lA,jo,mv]
 rw[if_neg c2,if_neg aH]at c|-;have y:bX X c0.table<X.length:=a8Z;have E:=vq y;have d:=r.ok _ E;have g:=sZ y;have x:(X.map aT.bz).find? (λb=>decide (b.name=c0.table))=some (X.getD (bX X c0.table) default).bz:=by rw[pK,a5p,a4w y];rfl
 generalize X.getD (bX X c0.table) default=b at*;have i:=d.c;obtain⟨z,j⟩:=G b E;have l:=d.dz.cm;rcases vr D p aH with h|h
 .rw[if_pos h]at a;rw[if_neg (show¬c0.kind=4 by rw[h];decide)]at c|-;unfold lA at a;rw[x]at a
  dsimp only at a
  by_cases aI:c0.row.length=b.aD.length+1
  .rw[if_neg (show¬c0.row.length≠b.aD.length+1 from λk=>k aI)];rw[if_pos (show c0.row.length=b.bz.aD.length+1 from aI)]at a;have m:bL (b.aD.length+1) c0.row:=⟨aI,o⟩;rcases a with ⟨S,_⟩|⟨rows,T,_,a⟩
   .exact absurd S (zy (e:=b.aD.length+1) a8Z a8Z d.dz.fe a8Z z)
   have V:=zA a8Z a8Z d.dz.fe a8Z z T;have n:rows= []↔ ¬b.rows.any (λC=>decide (bP C=bP c0.row))=true:=by
    rw[V,a7m];constructor
    .rintro k ⟨C,o,W⟩;exact k C (d.fV.mem_iff.2 o) ((zB a8Z (d.row o)).2 (of_decide_eq_true W))
    grind
   grind
  .rw[if_neg (show¬c0.row.length=b.bz.aD.length+1 from aI)]at a;rw[if_pos aI];exact a
 .rw[if_neg (by rw[h];decide)]at a;rw[if_pos h]at c|-;unfold jo mv at a;rw[x]at a
  dsimp only at a
  by_cases aI:c0.row.length=b.aD.length+1
  .rw[if_neg (show¬c0.row.length≠b.aD.length+1 from λk=>k aI)];rw[if_pos (show c0.row.length=b.bz.aD.length+1 from aI)]at a
   dsimp only at a
   rw[if_pos rfl]at a;by_cases bs:c0.row∈b.rows;simp_all
   .rw[if_neg bs];have q:=FC a8Z a8Z d.dz.fe a8Z z (d.none aI bs);grind[aT.bz,fy,iK,bo]
  .rw[if_neg (show¬c0.row.length=b.bz.aD.length+1 from aI)]at a;simp_all
def pM:List UInt8:=cX (cp ([1,5],true) aA aA)
def td:List UInt8:=cX (dT [[1,5]])
def a3n:eR pM≠eR td:=by unfold eR;decide+kernel
def fS:ag:=eK (eK ag.new pM) td
def GK:fS.one=false:=by unfold fS eK;have a:ag.new.m (eR pM)=none:=rfl;rw[a];have b:(if eR td=eR pM then some pM else none)=none:=if_neg (a4F a3n);simp only[ag.new,b]
theorem GL (a:ew H e1 c0 j3) (b:c0.kind=1\/c0.kind=2):j3.2.2=H:=by grind[ew,absurd]
theorem A1:bL 2 [1,5]:=⟨rfl,λa b=>by
 grind⟩
theorem a3o (b:e7.bM=aA) (c:e7.cq=aA):(fy (λH=>nC 2 [1,5] H e7.bM) (λH=>jd 2 [1,5] H e7.cq) H e1 e7).2.2=eK (eK H pM) td:=by
 have d:=(uV (I:=true) a8Z a8Z A1 (yY) (yY) a9d).2.2;have h:=(uy (e:=2) a8Z a8Z (Q:= [[1,5]]) a9a a9a (λk a=>by obtain rfl:=a4Q.1 a;exact A1)).ov;have o: ∀H:ag,nC 2 [1,5] H aA=(.ok (eS (cp ([1,5],true) aA aA)),eK H pM):=λH=>by
  unfold nC;rw[jj,if_pos rfl];rfl
 have p: ∀H:ag,jd 2 [1,5] H aA=(.ok (eS (dT [[1,5]])),eK H td):=λH=>by
  unfold jd;rw[if_pos rfl];rfl
 unfold fy;simp_all
def hD:aT:=⟨[116],[[97]],[],.nil,none⟩
def ey:aT:=hD.put [1,5]
def rb:cw:=⟨1,[116],[[97]],[]⟩
def kc:cw:=⟨3,[116],[],[1,5]⟩
def pN:cw:=⟨3,[116],[],[1,6]⟩
def pO:cw:=⟨3,[116],[],[2,3,4]⟩
def te:cw:=⟨4,[116],[],[1,6]⟩
def tf:cw:=⟨2,[116],[],[]⟩
theorem cd:eF [] rb=(0,[hD]):=by rfl
theorem ca:eF [hD] kc=(0,[ey]):=by rfl
def df:(eF [ey] pN).1=8:=by rfl
def ek:(eF [ey] pO).1=6:=by rfl
def hb:(eF [ey] te).1=9:=by rfl
def ei:eF [ey] tf=(0,[]):=by rfl
def a3p:ey.rows= [[1,5]]:=by rfl
def a3q (a:ew ag.new ([hD].map aT.bz) kc j3) (d:dj 1 [hD]):j3.2.2=fS:=by
 unfold ew at a;rw[if_neg (show¬eu kc=false by trivial),if_neg (show¬kc.kind=1 by decide),if_neg (show¬kc.kind=2 by decide),if_pos (show kc.kind=3 from rfl)]at a;unfold lA at a;have h:([hD].map aT.bz).find? (λk=>decide (k.name=kc.table))=some hD.bz:=by rfl
 rw[h]at a
 dsimp only at a
 rw[if_pos (show kc.row.length=hD.bz.aD.length+1 from rfl)]at a;have b:=d.ok hD a9a;rcases a with ⟨o,_⟩|⟨rows,p,_,a⟩
 .exact absurd o (zy (e:=2) a8Z a8Z b.dz.fe a9d trivial)
 have r:=zA (e:=2) (a8:= .nil) a8Z a8Z b.dz.fe a9d trivial p;rcases a with ⟨c,a⟩|⟨c,a⟩
 .rw[a];exact a3o rfl rfl
 .exact absurd (r.2 λy x=>by cases x) c
def a3r: ∀ {a b:List Int},kH a b->bP a<=bP b
 |d::a,h::b,c=>by
  show d<=h;rcases c with c|c<;>omega
def eM.cmp (a:eM e j7):j7.rows.Pairwise λb c=> ¬fN c b<0:=by refine a7z ?_ a.dM;intro b c h k o d;rw[qZ (by rw[(a.row h).len,(a.row k).len])]at d;have:=a3r d;omega
theorem A2 (k:U) (x F G:Nat) (o:ag) (L:List aL) (W:cO k x F G o L) (P:Nat) (a:List aT) (y:dj P a) (e:P<=1000) (f:gP o L a) (b:List UInt8):
  AC Tryz.prog 27 [.ptr x 0,bb b] k λz S=>k.sub S/\(bX a b<a.length-> ∃T,z= .aK [.J T .any,.v (.int .i64 0)]/\az isRow (a.getD (bX a b) default).rows T)/\(a.length<=bX a b->z= .aK [.J [] .nil,.v (.int .i64 3)]):=by
 obtain⟨rfl,g⟩:=f;have i:=y.cat e;have j: ∀c,a[bX a b]? =some c-> ∃d,eb o (c.bz.aD.length+1) (c.bz.bM.size.toNat+1) c.bz.bM=some d/\c.rows.Perm d:=λc l=>by
  have hm:=a4D l;have p:=y.ok c hm;have s:=p.c;have t:=p.dz.cm;obtain⟨d,C,D⟩:=FA a8Z a8Z p.dz.fe a8Z (g c hm).1;exact⟨d,C,(D.trans p.fV).symm⟩
 refine(a2f k x F G o (a.map aT.bz) W i b (a.getD (bX a b) default).rows ?_).mono λz S m=>⟨m.1,λn=> ?_,λn=> ?_⟩
 .intro c d h V;rw[pK]at h;cases r:a[bX a b]? with
  |none=>rw[r]at h;cases h
  |some E=>
   rw[r]at h;obtain rfl:=a4v h;obtain⟨u,C,D⟩:=j E r;rw[C]at V;obtain rfl:=a4v V;have q:a.getD (bX a b) default=E:=by grind
   rw[q];exact⟨D,(y.ok E (a4D r)).cmp⟩
 grind[vh,bX,default,List.getD,pK];grind[vh,pK,List.getElem?_eq_none]
def a3s:rb.Fit:=cw.hC.fit (by unfold cw.hC;decide)
def a3t:kc.Fit:=cw.hC.fit (by unfold cw.hC;decide)
def a3u:pN.Fit:=cw.hC.fit (by unfold cw.hC;decide)
def a3v:pO.Fit:=cw.hC.fit (by unfold cw.hC;decide)
def a3w:te.Fit:=cw.hC.fit (by unfold cw.hC;decide)
def a3x:tf.Fit:=cw.hC.fit (by unfold cw.hC;decide)
theorem A3:cR []:=λb a=>by cases a
theorem vv:dj 1 [hD]:=by grind[zR,dj.nil,rb,A3,cd]
theorem GM:cR pN.row:=λa b=>by
 grind[pN]
theorem a3y:cR pO.row:=λa b=>by
 grind[pO]
theorem re:dj 2 [ey]:=by grind[zR,vv,kc,ca]
def zM (c:ew ag.new [] rb j3):j3=(0,[hD].map aT.bz,ag.new)/\gP ag.new ([hD].map aT.bz) [hD]:=by
 have a:=GL c (.inl rfl);have b:=tb c (dj.nil (n:=0)) a8Z A3 ⟨rfl,λk d=>by cases d⟩ (by rw[a];rfl);rw[cd]at b;obtain⟨v,o,p⟩:=j3
 dsimp only at a b
 obtain⟨rfl,h⟩:=b;subst a;obtain rfl:=h.eq;trivial
def zN (d:ew ag.new ([hD].map aT.bz) kc j3) (a:gP ag.new ([hD].map aT.bz) [hD]):j3=(0,[ey].map aT.bz,fS)/\gP fS ([ey].map aT.bz) [ey]:=by
 have b:=a3q d vv;have c:=tb d vv a8Z A1.jR a (by rw[b];exact GK);rw[ca]at c;obtain⟨v,h,k⟩:=j3
 dsimp only at b c
 obtain⟨rfl,a⟩:=c;subst b;obtain rfl:=a.eq;trivial
def a3z (a:ew fS ([ey].map aT.bz) pN j3) (b:gP fS ([ey].map aT.bz) [ey]):j3=(8,[ey].map aT.bz,fS):=by have c:=A0 a re a8Z GM b (by rw[df];decide);trivial
def a3A (a:ew fS ([ey].map aT.bz) pO j3) (b:gP fS ([ey].map aT.bz) [ey]):j3=(6,[ey].map aT.bz,fS):=by have c:=A0 a re a8Z a3y b (by rw[ek];decide);trivial
def a3B (a:ew fS ([ey].map aT.bz) te j3) (b:gP fS ([ey].map aT.bz) [ey]):j3=(9,[ey].map aT.bz,fS):=by have c:=A0 a re a8Z GM b (by rw[hb];decide);trivial
def a3C (d:ew fS ([ey].map aT.bz) tf j3) (a:gP fS ([ey].map aT.bz) [ey]):j3=(0,[],fS)/\gP fS [] []:=by
 have b:=GL d (.inr rfl);have c:=tb d re a8Z A3 a (by rw[b];exact GK);rw[ei]at c;obtain⟨v,h,k⟩:=j3
 dsimp only at b c
 obtain⟨rfl,a⟩:=c;subst b;obtain rfl:h= []:=a.eq;trivial
def GN:cx []=true:=(dj.nil (n:=0)).cat a8Z
def a3D:cx ([hD].map aT.bz)=true:=vv.cat a8Z
def vw:cx ([ey].map aT.bz)=true:=re.cat a8Z
def a3E (a:Own):(⟨rb,a,.nil⟩:cN).V= .agg [.v (.int .u8 1),.v (.string ⟨#[116]⟩),.J [.v (.string ⟨#[97]⟩)] a,.J [] .nil]:=rfl
def a3F (a:Own):(⟨kc,.nil,a⟩:cN).V= .agg [.v (.int .u8 3),.v (.string ⟨#[116]⟩),.J [] .nil,.J [.v (.int .i64 1),.v (.int .i64 5)] a]:=rfl
def a3G (a:Own):(⟨pN,.nil,a⟩:cN).V= .agg [.v (.int .u8 3),.v (.string ⟨#[116]⟩),.J [] .nil,.J [.v (.int .i64 1),.v (.int .i64 6)] a]:=rfl
def a3H (a:Own):(⟨pO,.nil,a⟩:cN).V= .agg [.v (.int .u8 3),.v (.string ⟨#[116]⟩),.J [] .nil,.J [.v (.int .i64 2),.v (.int .i64 3),.v (.int .i64 4)] a]:=rfl
def a3I (a:Own):(⟨te,.nil,a⟩:cN).V= .agg [.v (.int .u8 4),.v (.string ⟨#[116]⟩),.J [] .nil,.J [.v (.int .i64 1),.v (.int .i64 6)] a]:=rfl
def a3J:(⟨tf,.nil,.nil⟩:cN).V= .agg [.v (.int .u8 2),.v (.string ⟨#[116]⟩),.J [] .nil,.J [] .nil]:=rfl
def GO:bb [116]= .v (.string ⟨#[116]⟩):=rfl
variable{N b4 h2 h8 j1:Prop}
theorem rf (h:cO f e i v H e1) (b:cx e1=true) (a:cN) (k:a.d.Fit) (o:a.V=n) (p: ∀res,ew H e1 a.d res->res=j3/\N):
  AC Tryz.prog 20 [.ptr e 0,n] f λc d=>c= .v (.int .i64 j3.1)/\cO d e i v j3.2.2 j3.2.1/\N:=by
 subst o;exact(zC f e i v H e1 h (ta b) b a k).mono λc d ⟨res,r,x,y,z⟩=>by
  grind
def A4:Nat->dH->dH
 |0,a=>a
 |b+1,.seq _ c=>A4 b c
 | _+1,a=>a
variable{j:Fr}
def a3K (P:j 1= .ptr e 0) (S:j 2= .v (.int .i64 0)) (T:j 3= .v (.int .i64 0)) (V:j 4= .v (.int .i64 8)) (W:j 5= .v (.int .i64 6)) (g:j 6= .v (.int .i64 9)) (c:cO f e i v fS ([ey].map aT.bz)) (d:gP fS ([ey].map aT.bz) [ey]):
  bS (Ctx.of Tryz.prog) (A4 8 wu.code) (oZ [(0,none)] λz _=>z= .v (.bool true)) j f:=by
 simp only[wu,A4];refine aa ?_;have a:=A2 f e i v fS _ c 2 _ re a8Z d [116];rw[GO]at a;refine ai a ?_;clear a;rintro _ fB ⟨k,b,_⟩;obtain⟨o,rfl,h⟩:=b a9d;have h:az isRow [[1,5]] o:=by rw[<-a3p];exact h
 have p:=c.sub k;clear c k b;refine aa ?_;refine ai (rf p vw ⟨tf,.nil,.nil⟩ a3x a3J λres C=>a3C C d) ?_;rintro _ D ⟨rfl,r,x⟩;clear p d;refine aa ?_;have a:=A2 D e i v fS _ r 0 [] dj.nil a8Z x [116];rw[GO]at a;refine ai a ?_;clear a;rintro _ l ⟨E,_,b⟩;obtain rfl:=b a9d;clear r x b E;refine aa ?_;refine dc U.a1 (by simp[aS,R.cells]) λy m n=> ?_;refine aa ?_;refine dc U.a1 (by simp[aS,R.cells]) λF q s=> ?_;refine aa ?_;have G:=λL=>DY [[1,5]] [[1,5]] o [.J [.v (.int .i64 1),.v (.int .i64 5)] y] .any F L h ⟨⟨y,rfl⟩,trivial⟩ a9a a9a;refine bc (G _) ?_;exact⟨_,U.a1⟩
def a3L (c:U):AC Tryz.prog 8 [] c λS W=>S= .v (.bool true):=by refine aN hm JO ?_;generalize T:dH.seq (dH.plain (aB 36 1:: _)) _=e;refine ai (FT c) ?_;rintro _ f ⟨g,i,j,rfl,-,-,-,-,d⟩;refine aa ?_;refine dc U.a1 (by simp[aS,R.cells]) λh l k=> ?_;refine aa ?_;refine ai (rf (d.sub k.sub) GN ⟨rb,h,.nil⟩ a3s (a3E h) λres a=>zM a) ?_;rintro _ m ⟨rfl,o,p⟩;clear k d;refine aa ?_;refine dc U.a1 (by simp[aS,R.cells]) λr n x=> ?_;refine aa ?_;refine ai (rf (o.sub x.sub) a3D ⟨kc,.nil,r⟩ a3t (a3F r) λres a=>zN a p) ?_;rintro _ q ⟨rfl,y,b⟩;clear x o p;refine aa ?_;refine dc U.a1 (by simp[aS,R.cells]) λz s C=> ?_;refine aa ?_;refine ai (rf (y.sub C.sub) vw ⟨pN,.nil,z⟩ a3u (a3G z) (N:=True) λres a=>⟨a3z a b,trivial⟩) ?_;rintro _ t ⟨rfl,D,-⟩;clear C y;refine aa ?_;refine dc U.a1 (by simp[aS,R.cells]) λE u F=> ?_;refine aa ?_;refine ai (rf (D.sub F.sub) vw ⟨pO,.nil,E⟩ a3v (a3H E) (N:=True) λres a=>⟨a3A a b,trivial⟩) ?_;rintro _ v ⟨rfl,G,-⟩;clear F D;refine aa ?_;refine dc U.a1 (by simp[aS,R.cells]) λL w P=> ?_;refine aa ?_;refine ai (rf (G.sub P.sub) vw ⟨te,.nil,L⟩ a3w (a3I L) (N:=True) λres a=>⟨a3B a b,trivial⟩) ?_;rintro _ A ⟨rfl,V,-⟩;clear P G;refine aa ?_;subst T;exact a3K rfl rfl rfl rfl rfl rfl V b
structure rh (a b:U) (c gz d W:Nat) (h:ag) (l:List aL) (cJ:List aT) (n:Nat):Prop where
 kL:ra b c gz d W h l cJ n
 sub:a.sub b
 GP:a c=none
 GQ:a gz=none
 GR:a d=none
 xO:a W=none
def rh.step {D E x y:U}{h k o p z:Nat}{C:ag}{F:List aL}{r:List aT} (a:rh D E h k o p C F r z) (T:z<900) {d:cw} (V:cR d.row) {c:Int×List aL×ag} (W:ew C F d c)
  (e:cO x h k o c.2.2 c.2.1) (G:cA h k o E x) (f:ff y p (eF r d).2) (L:eo p x y):rh D y h k o p c.2.2 c.2.1 (eF r d).2 (z+1)/\C.le c.2.2/\(c.2.2.one=false->c.1=(eF r d).1):=by
 obtain⟨g,i,j⟩:=a.kL.step T V W e G f L;refine⟨⟨g,λP S b=>L P S ?_ (G P S ?_ ?_ ?_ (a.sub _ _ b)),a.GP,a.GQ,a.GR,a.xO⟩,i,j⟩
 .rintro rfl;rw[a.xO]at b;cases b
 .rintro rfl;rw[a.GP]at b;cases b
 .rintro rfl;rw[a.GQ]at b;cases b
 .rintro rfl;rw[a.GR]at b;cases b
theorem a3M (r:List cN) (n:Own) (z:U) (q: ∀V∈r,V.d.hC/\cR V.d.row) (Z:r.length<=9223372036854775807):
  AC Tryz.prog 10 [.J (kK r) n] z λe G=>e= .aK [.v (.pointer none),.v (.pointer none)]\/ ∃c o p W d x E f,e= .aK [.ptr c 0,.ptr W 0]/\f<=40/\d.one=false/\rh z G c o p W d x E f:=by
 have j9:=vs (a:=r);refine aN hm JS ?_;refine ai (FT z) ?_;rintro _ s ⟨c,o,p,rfl,L,t,u,v,w⟩;refine aa ?_;refine aM λW P=> ?_;have A:=w.sub (U.af (Y:= .cells [.J [] .nil]) U.a1 P);have a:rh z (s.set W (.cells [.J [] .nil])) c o p W ag.new [] [] 0:=⟨⟨A,GN,⟨[],.nil,U.ah _ _ _,trivial⟩,dj.nil,λ_=>⟨rfl,λk0 S=>by cases S⟩⟩,U.af L (U.bF L P),t,u,v,U.bF L P⟩;refine aa ?_;refine ch [0,4,5] (λh:Nat×ag×List aL×List aT=> [(6,.v (.int .i64 (h.1)))]) (λh G=>h.1<=40/\h.1<=r.length/\rh z G c o p W h.2.1 h.2.2.1 h.2.2.2 h.1) (λh=>40 - h.1) (0,ag.new,[],[]) ⟨⟨a9a,a5d _,a⟩,aR⟩ ?_;rintro⟨F,d,x,E⟩ C ⟨B,H,a⟩ k1
 dsimp only at B H a|-
 refine aa ?_;refine aG (λI=> ?_) λI=> ?_
 .refine aG (λaI=> ?_) λaI=> ?_
  .have g:F<r.length:=a8Z;have i:=a4w g;have k2:=zX i;obtain⟨j,l⟩:=q _ (a4D i);generalize r[F]=k at*;have K:=zC C c o p d x a.kL.st (ta a.kL.cat) a.kL.cat k j.fit;have M:=λy S=>GA y W F E S a.kL.inv a8Z k j.fit l;have k3:k.C.length=4:=rfl;have k4:(.agg (k.C.take 4))=k.V:=rfl;have k5:aX true 4 k.C=k.V:=rfl;generalize k.C=k6 at*;generalize k.V=k7 at*;refine aa ?_;refine ai K ?_;rintro _ y ⟨res,N,rfl,O,m⟩;refine aa ?_;refine ai (M y (a.kL.rs.lB (m.rs a.kL.st))) ?_;rintro _ k8 ⟨Q,X,rfl⟩;obtain⟨Y,k9,l0⟩:=a.step a8Z l N O m Q X;refine aa ?_;exact⟨(F+1,res.2.2,res.2.1,(eF E k.d).2),⟨by simp only;omega,g,Y⟩,rfl,by simp only;omega⟩
  .cases D:d.one with
   |true=>have b:=tc C c o p d x a.kL.st;rw[D]at b;refine ai b ?_;rintro _ y ⟨T,rfl⟩;refine aa ?_;grind
   |false=>have b:=tc C c o p d x a.kL.st;rw[D]at b;refine ai b ?_;rintro _ y ⟨T,rfl⟩;refine aa ?_;grind
 .cases D:d.one with
  |true=>have b:=tc C c o p d x a.kL.st;rw[D]at b;refine ai b ?_;rintro _ y ⟨T,rfl⟩;refine aa ?_;grind
  |false=>have b:=tc C c o p d x a.kL.st;rw[D]at b;refine ai b ?_;rintro _ y ⟨T,rfl⟩;refine aa ?_;grind
def ff.zZ {d:List aT} (a:ff f i X) (h:ff f e d) (c:eo e f t) (k:i≠e):ff t i X:=by obtain⟨o,p,r,x⟩:=a;obtain⟨E,F,y,_⟩:=h;have z:gb 1 f t:=λC G b D=>c C _ (by rintro rfl;rw[y]at b;obtain rfl:=bq.cells.inj (a4v b);exact D rfl) b;exact⟨o,p,c _ _ k r,x.mono λL P a=>a.gd z⟩
def a3N (h:dj i X) (b:e<X.length):bX X (X.getD e default).name=e:=by
 refine Gm b (λa k c=> ?_) rfl;have d:=h.dM;rw[a5X]at d;have:=d a e a8Z b k;have o:X.getD a default=X[a]'a8Z:=by simp[List.getD,show a<X.length by omega]
 have p:X.getD e default=X[e]:=by simp[List.getD,b]
 rw[o,p]at c;rw[c,vb]at this;cases this
def a3O (G p:List cN) (Y n0:Own) (n1:G.length<=9223372036854775807) (a34:p.length<=9223372036854775807) (a36: ∀L∈G,cR L.d.row) (a38: ∀L∈p,cR L.d.row) (z:U):
  AC Tryz.prog 4 [.J (kK G) Y,.J (kK p) n0] z λv _=>v= .v (.bool true):=by
 have b05:=vs (a:=G);have b06:=vs (a:=p);refine aN hm JN ?_;refine ai (a3L z) ?_;rintro _ e rfl;refine aa ?_;refine ai (GJ G Y e n1) ?_;rintro _ e ⟨rfl,Z,rfl,y⟩;cases Z with
 |true=>refine aa ?_;exact⟨_,U.a1⟩
 |false=>
  obtain⟨b07,a42⟩:=y rfl;refine aa ?_;refine ai (GJ p n0 e a34) ?_;rintro _ e ⟨rfl,Z,rfl,P⟩;cases Z with
  |true=>refine aa ?_;exact⟨_,U.a1⟩
  |false=>
   obtain⟨b08,a43⟩:=P rfl;refine aa ?_;clear y P;refine ai (a3M G Y e (λL n2=>⟨a42 L n2,a36 L n2⟩) n1) ?_;rintro _ a47 (rfl|⟨r,d,k,W,w,f,a,A,rfl,b09,a48,a52⟩)
   .refine aa ?_;exact⟨_,U.a1⟩
   refine aa ?_;have b:=a52.kL;have n3:=b.rep a48;have j9:=b.inv.dw;refine ai (a1Y a47 r d k w f b.st (by have:=(mu b.cat).2;omega)) ?_;rintro _ a56 ⟨B,S,rfl,n4,n5⟩;refine aa ?_;refine ai (a2C a56 W a (b.rs.sub B) a8Z) ?_;rintro _ k0 ⟨k1,T,rfl,n9,a00⟩;obtain⟨a01,a02,a03,a04⟩:=(b.st.sub (U.ar B k1)).x;have k2:=b.st.x;have a57:r≠S:=by obtain⟨_,_,k2,_⟩:=k2;rintro rfl;rw[k2]at n4;cases n4
   have a61:W≠T:=by obtain⟨_,_,H,_⟩:=b.rs;rintro rfl;rw[B _ _ H]at n9;cases n9
   have a05:ra k0 S d k T w f a A:=⟨n5.sub k1,b.cat,a00,b.inv,b.rep⟩;have a06:=b.rs.sub (U.ar B k1);refine aa ?_;refine ch [1,5,6,7,8] (λo:Nat×ag×List aL×List aT=> [(9,.v (.int .i64 (o.1:Int)))]) (λo g=>o.1<=30/\o.1<=p.length/\ra g S d k T o.2.1 o.2.2.1 o.2.2.2 (A+o.1)/\g r=some (.cells [.ptr d 0,.J a01 a02])/\ff g W a/\w.le o.2.1) (λo=>30 - o.1) (0,w,f,a) ⟨⟨a9a,a5d _,a05,a03,a06,ag.le_refl⟩,aR⟩ ?_;clear a05 a06 a03 a00 n5;rintro⟨h,V,a62,i⟩ k3 ⟨a63,a65,c,k4,k5,I⟩ a68
   dsimp only at a63 a65 c I|-
   refine aa ?_;refine aG (λk6=> ?_) λk6=> ?_;refine aG (λaI=> ?_) λaI=> ?_
   .have D:h<p.length:=a8Z;have k7:p[h]? =some p[h]:=a4w D;have b10:=zX k7;have a07:=a43 _ (a4D k7);have a08:=a38 _ (a4D k7);generalize p[h]=x at*;have a69:=zC k3 S d k V a62 c.st (ta c.cat) c.cat x a07.fit;have a71:=λk0 a73=>GA k0 T (A+h) i a73 c.inv a8Z x a07.fit a08;have b11:x.C.length=4:=rfl;have b12:(.agg (x.C.take 4):R)=x.V:=rfl;have b13:aX true 4 x.C=x.V:=rfl;generalize x.C=b14 at*;generalize x.V=b15 at*;refine aa ?_;refine ai a69 ?_;rintro _ K ⟨res,a74,rfl,E,j⟩;refine aa ?_;refine ai (a71 K (c.rs.lB (j.rs c.st))) ?_;rintro _ a09 ⟨a81,k8,rfl⟩;obtain⟨a83,a84,b16⟩:=c.step a8Z a08 a74 E j a81 k8;have l:=c.rs.lB (j.rs c.st);have a10:=j r _ a57 b.st.ly b.st.lz k4;have a86:r≠T:=by obtain⟨_,_,H,_⟩:=l;rintro rfl;rw[a10]at H;cases H
    have b17:=(k5.lB (j.rs c.st)).zZ l k8 a61;refine aa ?_;exact⟨(h+1,res.2.2,res.2.1,(eF i x.d).2),⟨by simp only;omega,D,a83,k8 _ _ a86 a10,I.trans a84⟩,rfl,by simp only;omega⟩
   all_goals
    have k9:cO k3 r d k V f:=⟨c.st.gq,⟨a01,a02,k4,a04⟩,b.st.ly,b.st.lz⟩;have m:=tc k3 r d k V f k9;cases l0:V.one with
    |true=>rw[l0]at m;refine ai m ?_;rintro _ K ⟨n,rfl⟩;refine aa ?_;exact⟨_,U.a1⟩
    |false=>
     rw[l0]at m;refine ai m ?_;rintro _ K ⟨n,rfl⟩;have M:=n3.mono I;have a11:=c.rep l0;have F:=b.inv;have N:=c.inv;have a13:=F.cat a8Z;have a14:=N.cat a8Z;have E:=k9.sub n;have O:=c.st.sub n;have l1:=k5.sub n;have l:=c.rs.sub n;rw[M.eq]at E;rw[a11.eq]at O;have M:gP V (a.map aT.bz) a:=⟨rfl,M.ins⟩;clear m k9 k4 a04 n3 a11 c k5 I;refine aa ?_;refine ai (FU K r d k _ _ E (ta a13) a13 (GI F a8Z)) ?_;rintro _ a09 ⟨l2,l3,l4,rfl,q⟩;refine aa ?_;refine ai (GH a09 W _ a (l1.sub l2) F a8Z) ?_;rintro _ a88 ⟨j9,l5,l6,rfl,s⟩;have t:=λz=>EP (a.map aT.bz) (a.map aT.bz) l3 l5 l4 l6 z q s (by have:=F.dw;rw[a4I];omega);refine aa ?_;refine bc (t _) ?_;have Q:=U.ar l2 j9;clear t q s;refine ai (FU a88 S d k _ _ (O.sub Q) (ta a14) a14 (GI N a8Z)) ?_;rintro _ a89 ⟨l7,l3,l4,rfl,q⟩;refine aa ?_;refine ai (GH a89 T _ i (l.sub (U.ar Q l7)) N a8Z) ?_;rintro _ l8 ⟨a15,l5,l6,rfl,s⟩;have t:=λz=>EP (i.map aT.bz) (i.map aT.bz) l3 l5 l4 l6 z q s (by have:=N.dw;rw[a4I];omega);have u:=U.ar Q (U.ar l7 a15);refine aa ?_;refine bc (t _) ?_;clear t q s;refine bc (zr l8 S d k _ _ (O.sub u)) ?_;refine bc (zr l8 r d k _ _ (E.sub u)) ?_;have a90:=E.sub u;have a92:=l1.sub u;clear E l1 l O u Q l7 a15 l2 j9;obtain⟨b18,b19,a16,a18⟩:=a92;have b20:=a18.len;refine ch [5,6] (λh:Nat=> [(10,.v (.int .i64 (h:Int)))]) (λh g=>h<=a.length/\l8.sub g) (λh=>a.length - h) 0 ⟨⟨a5d _,U.a1⟩,aR⟩ ?_;rintro C a94 ⟨b21,y⟩ a68;have a95:=U.ae (y _ _ a16);refine aa ?_;refine aG (λk6=> ?_) λk6=> ?_
     .have D:C<a.length:=a8Z;have a19:a[C]? =some (a.getD C default):=by simp[List.getD,D]
      obtain⟨_,b22,b23,b24,a96,a97,b25,b26,rfl,a27,a98,_,_⟩:=a18.get a19;have l9:=A2 a94 r d k V _ (a90.sub y) A a F a8Z M (a.getD C default).name;rw[a3N F D]at l9;have X:=F.ok (a.getD C default) (a4D a19);have a99: ∀v∈(a.getD C default).rows,v.length<=1000000000000:=λv b00=>by have:=(X.row b00).len;have:=X.c;omega
      have b27:=X.dw;clear X;generalize a.getD C default=a29 at*;have b01:=U.ae (y _ _ a27);refine aa ?_;refine ai l9 ?_;rintro _ fB ⟨P,a30,_⟩;obtain⟨b02,rfl,b03⟩:=a30 D;have a95:=U.ae (P _ _ (y _ _ a16));have b01:=U.ae (P _ _ (y _ _ a27));have b04:=λz=>DY a29.rows a29.rows b02 a96 .any a97 z b03 a98 a8Z a99;clear l9 a30;refine aa ?_;refine bc (b04 _) ?_;exact⟨C+1,⟨D,U.ar y P⟩,rfl,a8Z⟩
     .exact⟨_,U.a1⟩
end Go.Proofs.YtlgnfcaolejgeaaGreat
namespace Go.bx
open Go Go.ChangeShapes Go.WideShapes Go.RowKit
def lC (a:World):bl:=λb c=>a.cell? ⟨b,c,none⟩
def a3P (b:World):Holds (lC b) U.emp b:=⟨λ_ _ _ a=>a,λ_ _ a=>by cases a⟩
def fA (k:bl) (a:List Value) (b:List R):Prop:=a.length=b.length/\ ∀(c:Nat) (d:Value) (h:R),a[c]? =some d->b[c]? =some h->aY k d h
variable{u:bl}
theorem fA.nil:fA u [] []:=⟨rfl,λb c d a=>by simp at a⟩
variable{g A e0:List R}
def fA.append {h k:List Value} (c:fA u h g) (o:fA u k A):fA u (h++k) (g++A):=by
 refine⟨by simp[c.1,o.1],λx p r b a=> ?_⟩;rw[a7R]at b a;rw[<-c.1]at a;split at b
 .rename_i d;rw[if_pos d]at a;exact c.2 x p r b a
 .rename_i d;rw[if_neg d]at a;exact o.2 _ p r b a
variable{n b3:R}{e5:Value}
theorem fA.one (a:aY u e5 n):fA u [e5] [n]:=⟨rfl,λb c d h k=>by
 grind⟩
variable{j8:Array Value}
def fA.a3Q (a:fA u j8.toList g):br u j8 g:=br.dP.2 a
def dd (h:Program) (k:TypeId) (o:List R->Prop):Prop:=
 ∀ {b:Type} (p:TypeId×Value->b) (c:World) (r:Nat) (x:Nat->Bool) (y:Bool) (z:Nat) (d:List Value) (C:DataW b×List MemPlace),DataW.trod p h c r x y z k d=some C->
  ∃a,o a/\(∀D∈a,D.one=true)/\fA (lC c) d a
def a4s (a:List R):Prop:= ∃b:Bool,a= [.v (.bool b)]
def SInt (a:IntKind) (c:List R):Prop:= ∃b:Int,(Lit.int a b).wf=true/\c= [.v (.int a b)]
def vx (a:List R):Prop:= ∃b:UInt8,a= [al b]
def ri (a:List R):Prop:= ∃aP:List UInt8,aP.length<=maxLen/\a= [bb aP]
def vy:List (List R->Prop)->List R->Prop
 | [],us=>us= []
 |c::d,us=> ∃a b,c a/\vy d b/\us=a++b
def a3R (a:List R->Prop):Nat->List R->Prop
 |0,us=>us= []
 |d+1,us=> ∃b c,a b/\a3R a d c/\us=b++c
def vz (b:List R->R) (c:List R->Prop) (d:List R):Prop:= ∃a:List (List R),(∀h∈a,c h)/\a.length<=maxLen/\d= [.J (a.map b) .any]
variable{e2:IntKind}{m:Program}{b2:TypeId}
def dd.int (a:m.underlying b2=some (.int e2)):dd m b2 (SInt e2):=λh k o p r x y z b=>by
 obtain⟨c,rfl,_,d⟩:=DataW.trod_int a b;exact⟨_,⟨c,d,rfl⟩,by simp[R.one],fA.one (.v _ rfl)⟩
def dd.byte (b:m.underlying b2=some (.int .u8)):dd m b2 vx:=λk o p r x y z C c=>by
 obtain⟨a,rfl,_,d⟩:=DataW.trod_int b c;obtain⟨D,E⟩:=bounds_u8 d;have h:(Value.int .u8 a)= .int .u8 ((UInt8.ofNat a.toNat).toNat):=by congr 1;rw[a5D];omega
 refine⟨_,⟨UInt8.ofNat a.toNat,rfl⟩,by simp[al,R.one],fA.one ?_⟩;rw[al,<-h];exact .v _ rfl
def dd.str (b:m.underlying b2=some .string):dd m b2 ri:=λh k o p r x y z c=>by
 obtain⟨a,rfl,_,C⟩:=DataW.trod_string b c;refine⟨_,⟨a.data.toList,by trivial,rfl⟩,by simp[bb,R.one],fA.one ?_⟩;have d:(⟨a.data.toList.toArray⟩)=a:=by cases a;simp
 rw[bb,d];exact .v _ rfl
def A5 (a:Program):List Field->List (List R->Prop)->Nat->Nat->Prop
 | [],[],off,b=>off=b
 |c::d,h::rs,off,b=>c.offset=off/\dd a c.type h/\A5 a d rs (off+a.cellsOf c.type) b
 | _,_,_,_=>False
theorem dd.struct {b:Array Field}{r:List (List R->Prop)} (F:m.underlying b2=some (.struct b)) (G:A5 m b.toList r 0 (m.cellsOf b2)):dd m b2 (vy r):=λL y P S T B p H V=>by
 obtain⟨W,e,_,_,f,g,i⟩:=DataW.trod_struct F V;have j: ∀(k:List Field) (c:List (List R->Prop)) (a d:Nat),b.toList.drop a=k->A5 m k c d (m.cellsOf b2)-> ∃h,vy c h/\(∀l∈h,l.one=true)/\fA (lC y) (p.drop d) h:=by
  intro k
  induction k with
  |nil=>
   intro c a d n x;cases c with
   |cons _ _=>trivial
   |nil=>exact⟨[],rfl,a9a,by rw[a5S (by rw[f];exact a8S x.symm)];exact fA.nil⟩
  |cons o k ih=>
   intro c a d n x;cases c with
   |nil=>trivial
   |cons I c=>
    obtain⟨z,C,D⟩:=x;have K:a<b.toList.length:=by grind[List.drop_of_length_le]
    have q:b.toList[a]=o/\b.toList.drop (a+1)=k:=by grind[List.drop_eq_getElem_cons,List.cons.inj]
    obtain⟨h,s,M,t⟩:=ih c (a+1) _ q.2 D;have u:b[a]? =some o:=by grind
    have:=i a o u;have v:a<W.length:=by rw[g];trivial
    rw[a4w v,z]at this;obtain⟨E,w,N,a3⟩:=C L y P S T e _ _ this;refine⟨E++h,⟨E,h,w,s,rfl⟩,?_,?_⟩;grind
    .have A:p.drop d=(p.drop d).take (m.cellsOf o.type)++p.drop (d+m.cellsOf o.type):=by rw[<-a5l,a5e]
     rw[A];exact a3.append t
 obtain⟨h,z,C,D⟩:=j b.toList r 0 0 rfl G;grind
theorem GS {h o:Type} (c:h->Option o): ∀(a:List h) (d:List o),a.mapM c=some d->d.length=a.length/\ ∀(p:Nat) (r:h),a[p]? =some r-> ∃x,d[p]? =some x/\c r=some x
 | [],d,b=>by simp_all
 |z::a,d,b=>by
  rw[List.mapM_cons]at b;cases y:c z with
  |none=>simp[y]at b
  |some D=>
   cases k:a.mapM c with
   |none=>simp[k]at b
   |some C=>simp[y,k]at b;subst b;obtain⟨E,F⟩:=GS c a C k;grind
variable{e i v O b8 j0:Nat}{l h7:World}
def GU {d:Addr}{c:List Value} (b:l.cells? i d e=some c):c.length=e/\ ∀a,a<e->c[a]? =l.cell? (d.add a):=by
 unfold World.cells? at b;split at b
 .obtain⟨h,k⟩:=GS _ _ _ b;refine⟨by simpa using h,λa o=> ?_⟩;obtain⟨x,p,r⟩:=k a a (by simp[o]);rw[p,r]
 .cases b
theorem a3S {b:Addr} (a:l.cell? b=some e5):b.spot=none:=by
 unfold World.cell? at a;split at a;simp_all
 .cases a
theorem add_add {a:Addr} (d:a.spot=none) (b:Nat):a.add b=⟨a.block,a.off+b,none⟩:=by
 unfold Addr.add;split
 .rename_i c;subst c;cases a;simp_all
 .rfl
structure tg (b:List R->R) (a:List R->Prop) (k:Nat):Prop where
 len: ∀us,a us->us.length=k
 cells: ∀us,a us->(b us).cells=us
def GV {c:List R->R}{d:List R->Prop}{o:Nat} (h:tg c d o): ∀b:List (List R),(∀a∈b,d a)->flat (b.map c)=b.flatten
 | [],_=>rfl
 |a::b,k=>by
  simp only[a4U,flat,a4Y,a6l];rw[h.cells a (k a a9a)];have:=GV h b λa p=>k a (by simp[p]);simp only[flat]at this;rw[this]
theorem dd.slice {u:TypeId}{r:List R->Prop}{l:List R->R} (Z:m.underlying u=some (.slice b2)) (j9:m.cellsOf b2=e) (n:0<e) (F:tg l r e) (k0:dd m b2 r):dd m u (vz l r):=λk1 k v k2 k3 n1 n2 o k4=>by
 rcases DataW.trod_slice Z k4 with ⟨rfl,_⟩|⟨W,len,w,k5,n3,k6,_,rfl,_,n4,k7,n5,n9,A,_,_⟩
 .exact⟨_,⟨[],a9a,a9a,rfl⟩,by simp[R.one],fA.one (.dg none 0 .any (λ_=>rfl) trivial)⟩
 .rw[j9]at A;have B: ∀c,c<len-> ∃b x,r b/\(∀y∈b,y.one=true)/\k.cells? v (W.add (c*e)) e=some x/\fA (lC k) x b:=λc p=>by
   have H:=A c p;have k8:c<k5.length:=a8Z;rw[a4w k8,Option.bind_eq_some_iff]at H;obtain⟨x,f,q⟩:=H;obtain⟨b,s,I,K⟩:=k0 k1 k v k2 k3 k6 x _ q;grind
  by_cases k9:len=0
  .subst k9;exact⟨_,⟨[],a9a,a9a,rfl⟩,by simp[R.one],fA.one (.dg (some W) w .any (λl0=>by cases l0) trivial)⟩
  .have M:W.spot=none:=by obtain⟨b,x,_,_,f,_⟩:=B 0 a8Z;obtain⟨q,t⟩:=GU f;have S:=t 0 n;simp only[a7O]at S;grind[List.getElem?_eq_getElem,Addr.add,a3S]
   obtain⟨z,C,a00⟩:=W;simp only at M;subst M;have l1: ∃d:List (List R),d.length=len/\ ∀c b,d[c]? =some b->r b/\(∀y∈b,y.one=true)/\ ∀a h,b[a]? =some h-> ∃o,k.cell? ⟨z,C+(c*e+a),none⟩=some o/\aY (lC k) o h:=by
    have: ∀D,D<=len-> ∃d:List (List R),d.length=D/\ ∀c b,d[c]? =some b->r b/\(∀y∈b,y.one=true)/\ ∀a h,b[a]? =some h-> ∃o,k.cell? ⟨z,C+(c*e+a),none⟩=some o/\aY (lC k) o h:=by
     intro D
     induction D with
     |zero=>simp
     |succ D ih=>
      intro a01;obtain⟨d,T,V⟩:=ih a8Z;obtain⟨b,x,s,I,f,K⟩:=B D a8Z;refine⟨d++ [b],by simp[T],λc N p=> ?_⟩;rw[a7R]at p;split at p
      .exact V c N p
      .rename_i a02;have l2:c=D:=by grind
       subst l2;have:N=b:=by simp_all
       subst this;refine⟨s,I,λa h g=> ?_⟩;have l3:a<e:=by have:=(a4E.1 g).1;rw[F.len _ s]at this;exact this
       obtain⟨q,t⟩:=GU f;have S:=t a l3;have O:a<x.length:=a8Z;rw[a4w O]at S;have l4:((⟨z,C,none⟩:Addr).add (c*e)).add a=⟨z,C+(c*e+a),none⟩:=by rw[add_add (by rw[add_add rfl]),add_add rfl];simp[a7Y]
       rw[l4]at S;exact⟨x[a],S.symm,K.2 a _ _ (a4w O) g⟩
    simp_all
   obtain⟨d,T,V⟩:=l1;have G: ∀b2∈d,r b2:=λb2 E=>by
    obtain⟨c,p,rfl⟩:=a5i E;exact(V c _ (a4w p)).1
   have Q:=GV F d G;have l5: ∀(L:List (List R)),(∀b2∈L,r b2)-> ∀a h,L.flatten[a]? =some h-> ∃b,L[a/e]? =some b/\b[a%e]? =some h:=by
    intro L
    induction L with
    |nil=>intro _ a h P;simp at P
    |cons b2 L ih=>
     intro X a h P;have a03:=F.len b2 (X b2 a9a);rw[a6l,a7R]at P;split at P;grind[Nat.div_eq_of_lt,Nat.mod_eq_of_lt]
     .rename_i g;obtain⟨b,l6,l7⟩:=ih (λb2 E=>X b2 (by simp[E])) (a - b2.length) h P;have Y:a=(a - b2.length)+e:=a8Z;refine⟨b,?_,?_⟩
      .rw[Y,Nat.add_div_right _ n];exact l6
      .rw[Y,Nat.add_mod_right];exact l7
   have a04:d.flatten.length=len*e:=by
    rw[<-T];clear l5 Q T V
    induction d with
    |nil=>simp
    |cons b2 d ih=>rw[a6l,a4y,ih (λb2 E=>G b2 (by simp[E])),F.len b2 (G b2 a9a),a4C,a5F,a7q,a8i]
   refine⟨_,⟨d,G,a8Z,rfl⟩,by simp[R.one],fA.one ?_⟩;have l8: ∀a h,d.flatten[a]? =some h-> ∃o,k.cell? ⟨z,C+a,none⟩=some o/\aY (lC k) o h:=λa h P=>by
    grind[Nat.div_add_mod']
   refine aY.J z C len w e (λa=>(k.cell? ⟨z,C+a,none⟩).getD undef) (d.map l) .any n (by simp[T]) k7 ?_ ?_ ?_ ?_ trivial
   .intro b2 E;obtain⟨b,i,rfl⟩:=a4R.1 E;rw[F.cells b (G b i),F.len b (G b i)]
   .intro y j;rw[Q,a8f]at j;obtain⟨b,i,j⟩:=j;obtain⟨c,p,rfl⟩:=a5i i;exact(V c _ (a4w p)).2.1 y j
   .intro a g;have l9:a<d.flatten.length:=a8Z;obtain⟨o,n0,a05⟩:=l8 a _ (a4w l9);show k.cell? _= _;rw[n0];rfl
   grind
def th (b:Program) (c:TypeId) (k:R->Prop):Prop:=
 ∀ {d:Type} (o:TypeId×Value->d) (a:World) (p:Nat) (r:Nat->Bool) (v:Value) (x:DataW d) (y:List MemPlace),Value.okWide b a .any p c v->DataW.Trod o b a 0 r true c v x y-> ∃h,k h/\aY (lC a) v h
theorem a3T {a:Reach}{v:Value} (b:Cell.okWide m l a e b2 v):v.cells= #[v]:=by
 cases v with
 |agg cs=>simp_all [Cell.okWide,Cell.ok]
 |tuple cs=>rfl
 | _=>rfl
def isRow (a:Option TypeDesc):Bool:=
 match a with
 |some (.struct _)=>true
 |some (.array _ _)=>true
 | _=>false
def vA (a:List R->Prop) (b:R):Prop:=a [b]
def a4t (b:List R->Prop) (c:R):Prop:= ∃a,b a/\c= .agg a
def th.cell {k:List R->Prop} (b:isRow (m.underlying b2)=false) (p:dd m b2 k):th m b2 (vA k):=λr x L y v P S c z=>by
 obtain⟨C,D⟩:=z;obtain⟨E,d,T,a⟩:=p r x 0 y true C _ _ D;have F:v.cells= #[v]:=by
  unfold Value.okWide at c;split at c
  .rename_i h;rw[h]at b;cases b
  .rename_i h;rw[h]at b;cases b
  .exact a3T c
 rw[F]at a;have G:=a.1
 match E,G,d,a with
 | [o],_,d,a=>exact⟨o,d,a.2 0 v o rfl rfl⟩
def ti (a:Program):List TypeId->List (R->Prop)->Prop
 | [],[]=>True
 |b::sc,c::lD=>th a b c/\ti a sc lD
 | _,_=>False
def tj:List (R->Prop)->List R->Prop
 | [],a=>a= []
 |d::lD,a=> ∃b c,a=b::c/\d b/\tj lD c
def GW {r:Program}{z:Type}{C:TypeId×Value->z}{h:World}{D:Nat}{E:Nat->Bool}: ∀(a:List TypeId) (lD:List (R->Prop)) (c:List Value) (k:List (DataW z)) (x:List MemPlace),
  ti r a lD->(∀(o:Nat) b v,a[o]? =some b->c[o]? =some v->Value.okWide r h .any D b v)->DataW.TrodAll C r h 0 E true a c k x-> ∃d,tj lD d/\fA (lC h) c d/\k.length=a.length
 | [],[],c,k,x,_,_,y=>by
  obtain⟨rfl,rfl,rfl⟩:=trodAll_nil y;exact⟨[],rfl,fA.nil,rfl⟩
 |b::a,n::lD,c,k,x,F,G,y=>by
  obtain⟨v,P,S,T,V,W,rfl,rfl,rfl,e,f⟩:=trodAll_cons y;obtain⟨L,g,i⟩:=F.1 C h D E v S V (G 0 b v rfl rfl) e;obtain⟨d,j,l,m⟩:=GW a lD P T W F.2 (λo b v p q=>G (o+1) b v (by trivial) (by trivial)) f;exact⟨L::d,⟨L,d,rfl,g,j⟩,(fA.one i).append l,by simp[m]⟩
 | [],_:: _,_,_,_,p,_,_=>p.elim
 | _:: _,[],_,_,_,p,_,_=>p.elim
def a3U {a:MemPlace} (b:h7.heap[a.block]? =l.heap[a.block]?):l.sameAt h7 a:=by
 cases a with
 |cell c off=>show h7.cell? _=l.cell? _;have b:h7.heap[c]? =l.heap[c]? :=b;simp only[World.cell?,b]
 |map c=>exact b
theorem GX {b:Program}{z:Type}{C:TypeId×Value->z}{D E:World}{y:Nat} (F:laidOutB b=true) (G: ∀c,c<y->E.heap[c]? =D.heap[c]?): ∀(d:List TypeId) (o:List Value) (p:List (DataW z)) (h:List MemPlace),
  (∀a∈d,b.readableRec a=true/\a<b.types.size)->(∀L∈h,L.block<y)->DataW.TrodAll C b D 0 (λ_=>true) true d o p h->DataW.TrodAll C b E 0 (λc=>decide (c<y)) true d o p h
 | [],o,p,h,_,_,k=>by
  obtain⟨rfl,rfl,rfl⟩:=trodAll_nil k;rfl
 |a::d,o,p,h,P,S,k=>by
  obtain⟨v,T,j,V,L,W,rfl,rfl,rfl,e,f⟩:=trodAll_cons k;obtain⟨g,i⟩:=P a a9a;refine trodAll_cons_mk (WideElems.Trod_stays F g i e (λr x=>a3U (G _ (S r (a6I _ x)))) (λr x=>by simp_all)) ?_;exact GX F G d T V W (λa k=>P a (by simp[k])) (λr x=>S r (a6D _ x)) f
theorem a3V {b:MemPlace->Prop} (c:h7.os=l.os) (d:h7.output=l.output) (h: ∀a,a<l.heap.size->h7.heap[a]? =l.heap[a]?):l.keptBut h7 b:=by refine⟨c,d,λk o=> ?_⟩;grind
variable{I:Bool}{b5:FuncId}{b0:Type}
theorem a3W {L:TypeId×Value->b0}{c:Func}{k:ChangeSpec}{n q:Bool}{C:List (R->Prop)} (s:laidOutB m=true) (t: ∀d∈c.params.toList,m.readableRec d=true/\d<m.types.size)
  (P:k.vars= []) (u:c.resultTypes= #[b2]) (o:m.underlying b2=some .bool) (w:ti m c.params.toList C) (D: ∀a:List (DataW b0),a.length=c.params.toList.length->k.fn b0 a= {results:= [.lit (.bool true)],args:=a,vars:= []})
  (p:U) (b:World) (A:Holds (lC b) p b) (B: ∀h r,p h=some r-> ∃E,r= .ro E)
  (H: ∀x,tj C x->AC m b5 x p λS _=>S= .v (.bool true))
  (K:Nat) (args:Array Value) (a M:List (DataW b0)) (N:List MemPlace) (O: ∀(y:Nat) d v,c.params[y]? =some d->args[y]? =some v->Value.okWide m b .any K d v)
  (T:DataW.Whole L m c.params.toList k.vars I b args.toList a M N):
  Calls m b5 args b λV W=> ∃v,V= .returned v/\k.post L m c I n q false b args v W:=by
 have e:=T;obtain⟨f,k2,g,i,rfl,_,_⟩:=T;rw[P]at i;obtain⟨rfl,rfl⟩:=trodVars_none i;obtain⟨x,Q,X,F⟩:=GW _ C _ _ _ w (λy d v j k3=>O y d v (by simp_all) (by simp_all)) g;have Y:=λZ j9=>e.lt Z (a6I _ j9);refine(H x Q args b (lC b) X.a3Q A).mono ?_;rintro V W ⟨v,S,k4,k5,rfl,z,k0,rfl⟩;have k1:v= .bool true:=by cases k0;rfl
 subst k1;have l:=λh o=>by
  cases G:p h with
  |none=>exact z.block h o G
  |some r=>obtain⟨E,rfl⟩:=B h r G;exact(z.jt h E o G).1
 refine⟨_,rfl,a,[],f++ [],[],f,[],e,?_,?_,?_,a3V z.os z.output.1 l,λj=>by cases j⟩
 .rw[a5B,D a F,u];exact trodAll_cons_mk (shut_bool o true) trodAll_mk0
 .rw[a5B,D a F];exact GX s l _ _ _ _ t Y g
 .rw[a5B,D a F,P];rfl
def a3X {k:TypeId×Value->b0}{a:Func}{h:ChangeSpec}{C D:Bool}{o:List (R->Prop)} (E:laidOutB m=true) (F: ∀d∈a.params.toList,m.readableRec d=true/\d<m.types.size)
  (G:h.vars= []) (L:a.resultTypes= #[b2]) (P:m.underlying b2=some .bool) (S:ti m a.params.toList o) (T: ∀b:List (DataW b0),b.length=a.params.toList.length->h.fn b0 b= {results:= [.lit (.bool true)],args:=b,vars:= []})
  (V: ∀p,tj o p->AC m b5 p U.emp λW _=>W= .v (.bool true))
  (c:World) (r:Nat) (args:Array Value) (b x:List (DataW b0)) (y:List MemPlace) (e: ∀(z:Nat) d v,a.params[z]? =some d->args[z]? =some v->Value.okWide m c .any r d v)
  (f:DataW.Whole k m a.params.toList h.vars I c args.toList b x y):
  Calls m b5 args c λg i=> ∃v,g= .returned v/\h.post k m a I C D false c args v i:=
 a3W E F G L P S T U.emp c (a3P c) (λ_ _ j=>by cases j) V r args b x y e f
open Go
def rj (a:List R):R:=a.headD (.aK [])
end Go.bx
namespace Go.Proofs.YtlgnfcaolejgeaaGreat
open Go Go.bx
variable{b1:Int}
def wf_i64 (b:(Lit.int .i64 b1).wf=true): -9223372036854775808<=b1/\b1<=9223372036854775807:=by
 have a:IntKind.i64.min<=b1/\b1<=9223372036854775807:=by simpa[Lit.wf] using b
 have c:IntKind.i64.min= -9223372036854775808:=a9d;rw[c]at a;exact a
def a3Y:tg rj (SInt .i64) 1:=⟨by rintro a ⟨b,_,rfl⟩;rfl,by rintro a ⟨b,_,rfl⟩;rfl⟩
abbrev vB:List R->Prop:=vz rj (SInt .i64)
variable{g A e0:List R}
theorem a3Z (o:vB g): ∃h:List Int,cR h/\g= [.J (ad h) .any]:=by
 obtain⟨b,k,p,r⟩:=o;have: ∃a:List Int,cR a/\b.map rj=ad a:=by
  clear p r
  induction b with
  |nil=>exact⟨[],(λF x=>by cases x),rfl⟩
  |cons c b ih=>
   obtain⟨a,y,z⟩:=ih λc C=>k c (by simp[C]);obtain⟨D,E,rfl⟩:=k c a9a;refine⟨D::a,?_,by simp only[a4U,z];rfl⟩;intro v d;rcases a4T.1 d with rfl|d
   .have:=wf_i64 E;omega
   .exact y v d
 simp_all
def a4a:tg rj ri 1:=⟨by rintro a ⟨b,_,rfl⟩;rfl,by rintro a ⟨b,_,rfl⟩;rfl⟩
abbrev vC:List R->Prop:=vz rj ri
theorem a4b (h:vC g): ∃k:List (List UInt8),g= [.J (bE k) .any]:=by
 obtain⟨a,d,o,p⟩:=h;have: ∃b:List (List UInt8),a.map rj=bE b:=by
  clear o p
  induction a with
  |nil=>exact⟨[],rfl⟩
  |cons c a ih=>obtain⟨b,r⟩:=ih λc x=>d c (by simp[x]);obtain⟨y,z,rfl⟩:=d c a9a;exact⟨y::b,by simp only[a4U,r];rfl⟩
 simp_all
abbrev vD:List R->Prop:=vy [vx,ri,vC,vB]
def GY (b:vD g): ∃a:cN,cR a.d.row/\g=a.C:=by obtain⟨_,_,⟨c,rfl⟩,⟨_,_,⟨d,_,rfl⟩,⟨_,_,h,⟨_,_,k,o,rfl⟩,rfl⟩,rfl⟩,rfl⟩:=b;obtain⟨p,rfl⟩:=a4b h;obtain⟨r,x,rfl⟩:=a3Z k;cases o;exact⟨⟨⟨c,d,p,r⟩,.any,.any⟩,x,rfl⟩
def a4c:tg R.agg vD 4:=⟨λb a=>by obtain⟨c,_,rfl⟩:=GY a;rfl,λb a=>rfl⟩
abbrev tk:List R->Prop:=vz R.agg vD
theorem a4d (p:tk g): ∃d:List cN,(∀h∈d,cR h.d.row)/\d.length<=maxLen/\g= [.J (kK d) .any]:=by
 obtain⟨b,o,r,x⟩:=p;have: ∃a:List cN,a.length=b.length/\b.map R.agg=kK a/\ ∀h∈a,cR h.d.row:=by
  clear r x
  induction b with
  |nil=>exact⟨[],rfl,rfl,λc k=>by cases k⟩
  |cons c b ih=>obtain⟨a,y,z,D⟩:=ih λc k=>o c (by simp[k]);obtain⟨C,E,rfl⟩:=GY (o c a9a);refine⟨C::a,by simp[y],by rw[a4U,z];rfl,?_⟩;grind
 grind
variable{n b3:R}
theorem GZ (b:vA tk n): ∃a:List cN,(∀c∈a,cR c.d.row)/\a.length<=9223372036854775807/\n= .J (kK a) .any:=by obtain⟨a,d,h,k⟩:=a4d b;grind[hm,maxLen,List.cons.inj]
def a4e:dd Tryz.prog 5 vx:=dd.byte a9e
def H0:dd Tryz.prog 9 ri:=dd.str a9e
def a4f:dd Tryz.prog 2 (SInt .i64):=dd.int a9e
def a4g:dd Tryz.prog 24 vB:=dd.slice (e:=1) (by kernel_rfl:Tryz.prog.underlying 24=some (.slice 2)) a9e a8Z a3Y a4f
def a4h:dd Tryz.prog 46 vC:=dd.slice (e:=1) (by kernel_rfl:Tryz.prog.underlying 46=some (.slice 9)) a9e a8Z a4a H0
def a4i:dd Tryz.prog 64 vD:=dd.struct (r:= [vx,ri,vC,vB]) Tryz.underlying64 (by
 refine⟨by rfl,a4e,by rfl,H0,by rfl,a4h,by rfl,a4g,(by show _= _;rfl)⟩)
def H2:dd Tryz.prog 22 tk:=dd.slice (e:=4) (by kernel_rfl:Tryz.prog.underlying 22=some (.slice 64)) a9e a8Z a4c a4i
end Go.Proofs.YtlgnfcaolejgeaaGreat
namespace Go.Proofs.YtlgnfcaolejgeaaGreat.stateCopies
open Go
def jA:(Rows.stateCopiesRow.inPlace==Tryz.prog.inPlace 4)=true:=a9e
def jB:(Rows.stateCopiesRow.unfollowed==Tryz.prog.unfollowed 4)=true:=a9e
def jC:(Rows.stateCopiesRow.named==Tryz.prog.varsNamed 4)=true:=a9e
def jD:(laidOutB Tryz.prog&&mapsRowed Tryz.prog&&Tryz.f4.params.all (Tryz.prog.readableRec ·)&&namedTie Tryz.prog Rows.stateCopiesRow.named Rows.stateCopiesSpec.vars&&(Tryz.prog.stops== [])&&(Tryz.prog.stopKnobs== []))=true:=a9e
def sC:(Rows.stateCopiesRow.lifted==Tryz.prog.liftsFinal)=true:=a9e
def jF:(Tryz.prog.stopsHeard&&Tryz.prog.mayEnter&&(Tryz.prog.make==some Rows.stateCopiesRow.make)&&(Rows.stateCopiesRow.pinned==Rows.stateCopiesRow.pinnedBy))=true:=a9e
def a4j:joinedFacts Tryz.prog 4 Tryz.f4 Rows.stateCopiesSpec Rows.stateCopiesRow=true:=by
 unfold joinedFacts;have d:=jA;have a:=jB;have h:=jC;have b:=jD;have k:=sC;have c:=jF;simp only[a4A]at b c;obtain⟨⟨⟨⟨⟨o,p⟩,r⟩,x⟩,y⟩,z⟩:=b;obtain⟨⟨⟨C,D⟩,E⟩,F⟩:=c;have G:(Rows.stateCopiesRow.recurses==Tryz.prog.recurses 4)=true:=by have L:Rows.stateCopiesRow.unfollowed=Tryz.prog.unfollowed 4:=eq_of_beq a;unfold Program.recurses;rw[<-L];rfl
 rw[d,a,h,o,p,r,x,y,z,k,C,D,E,F,G];decide+kernel
end Go.Proofs.YtlgnfcaolejgeaaGreat.stateCopies
