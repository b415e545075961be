import Derived.Test.YtlgnfcaolejgeaaGreatMH
import Derived.Test.YtlgnfcaolejgeaaGreatMF
import Derived.Test.YtlgnfcaolejgeaaGreatMD
import Derived.Test.YtlgnfcaolejgeaaGreatME
import Derived.Test.YtlgnfcaolejgeaaGreatMG
import Derived.Test.YtlgnfcaolejgeaaGreatMC
import Derived.ProofKit
import Derived.OpenShut
import Derived.WideKeyArgs
import Derived.Test.YtlgnfcaolejgeaaGreatRows
import Derived.JoinedOf
set_option linter.all false
set_option maxRecDepth 100000
namespace Go.Proofs.YtlgnfcaolejgeaaGreat
open Go Go.bz
def ij (c:Nat) (d h:U):Prop:= ∀b a,d b=some (.cells a)->a.length≠c->h b=some (.cells a)
variable{f t e4:U}{e i v O b8 j0:Nat}
theorem ij.of {s:U} (a:iv s f):ij e s f:=λb c d _=>a b c d
theorem ij.set {c a:Nat}{b:U}{d:List R}{h:br} (p:b a=some (.cells d)) (r:d.length=c):ij c b (b.set a h):=λk x o y=>by
 have:k≠a:=by grind
 rw[U.ao _ _ this];exact o
def dP.ik {n:Nat}{c d:U} (a:n≠4) (b:ij n c d): ∀ {h:aC}{k:R},dP c h k->dP d h k
 | .nil,_,o=>o
 | .node _ _ _ _,_,⟨p,r,x,y,h1,z,C,D⟩=>⟨p,r,x,y,h1,b _ _ z (by simpa using a.symm),C.ik a b,D.ik a b⟩
variable{n b3:R}{b7:eE}
def fN.Gr (b:zF f t) (a:fN f b7 n):fN t b7 n:=by
 match b7 with
 |none=>exact a
 |some ⟨_,_⟩=>exact bw.vq b a
def fN.ik {n:Nat} (a:n≠2) (b:ij n f t) (c:fN f b7 b3):fN t b7 b3:=c.Gr λh k o p r d=>b _ _ d (by simpa using a.symm)
variable{g B e0:List R}{Y:br}{M e6 h4:Own}
theorem pT (a:bh f t i g M) (d:f e=none) (b:t e=some (.cells B)):bh f (t.set e Y) i g M:=by
 refine⟨U.ae a.1 d,?_⟩;have c:=a.2;cases M with
 |buf h k=>
  have o:h≠e:=by rintro rfl;rw[c.2]at b;cases b
  grind[U.ao]
 | _=>exact c
theorem fN.cells {d:U}{b:eE}{a:R} (c:fN d b a):a.cells= [a]:=by
 match b with
 |none=>obtain rfl:a= .v (.pointer none):=c;rfl
 |some ⟨_,_⟩=>obtain⟨h,k,o,rfl,_⟩:=bw.ptr c;rfl
def hl (b:U) (a:aT) (o:R):Prop:= ∃c p d r h k,o= .ptr c 0/\b c=some (.cells [bb a.name,.J (bE a.aD) p,.J d r,h,k])/\aA isRow a.rows d/\dP b a.bM h/\fN b a.cq k
def hl.ik {b c:U} (a:ij 1 b c) {d:aT}{h:R} (k:hl b d h):hl c d h:=by obtain⟨o,p,r,x,y,z,C,D,E,F,G⟩:=k;exact⟨o,p,r,x,y,z,C,a _ _ D a9x,E,F.ik a9A a,G.ik a9A a⟩
variable{j7:aT}
def hl.sub (a:f.sub t) (b:hl f j7 n):hl t j7 n:=b.ik (ij.of (U.qA a))
def hn (a:U) (c:Nat) (d:List aT):Prop:= ∃b h,a c=some (.cells [.J b h])/\aA (hl a) d b
def hn.sub {b c:U} (d:b.sub c) {h:Nat}{k:List aT} (a:hn b h k):hn c h k:=by obtain⟨o,p,r,x⟩:=a;exact⟨o,p,d _ _ r,x.mono λy z a=>a.sub d⟩
variable{X:List aT}
def Gs (a:aA (hl f) X g):aS 1 g:=λk c=>by
 obtain⟨d,h,rfl⟩:=a5G c;have o:=a.len;obtain⟨p,b,r,_,_,_,_,_,rfl,_⟩:=a.get (a4T (show d<X.length by omega));rw[a4T h]at b;rw[a4S b];rfl
variable{w:List UInt8}
theorem Gt (b:e<X.length) (c: ∀a<e,(X.getD a default).name≠w) (d:(X.getD e default).name=w):bX X w=e:=by grind[bX,List.findIdx_eq,List.getElem?_eq_getElem,decide_eq_true,decide_eq_false]
theorem a2Q (b: ∀a<X.length,(X.getD a default).name≠w):X.length<=bX X w:=by grind[Nat.lt_or_ge,bX,absurd,th]
def pU (a:List aT) (b:List UInt8):Int:=if bX a b<a.length then(bX a b:Int)else -1
theorem a2R (h:U) (k:Nat) (b:List aT) (o:hn h k b) (d:List UInt8) (P:b.length<=1000):
  AC Tryz.prog 13 [.ptr k 0,bb d] h λz C=>C=h/\z= .v (.int .i64 (pU b d)):=by
 obtain⟨S,T,D,p⟩:=o;have V:=p.len;have W:=U.af D;refine aM hm JW ?_;refine gJ [0,1] (λa:Nat=> [(5,.v (.int .i64 a))]) (λa=>a<=b.length/\ ∀c<a,(b.getD c default).name≠d) (λa=>b.length - a) 0 ⟨a5C _,λc o=>by omega⟩ aR ?_;rintro a ⟨e,r⟩ f;refine aa ?_;refine aG (λE=> ?_) λE=> ?_
 .have x:a<b.length:=a9w;have F:b[a]? =some (b.getD a default):=by simp_all
  obtain⟨_,g,i,j,l,m,n,q,rfl,G,_,_,_⟩:=p.get F;have s:=U.af G;have t:=(vi (b.getD a default).name d).1;refine aa ?_;refine aG (λc2=> ?_) λc2=> ?_
  .have y:=Gt x r c2;unfold pU;rw[y,if_pos x]
  .exact⟨a+1,⟨a9w,λc L=>by grind⟩,rfl,a9w⟩
 .have y:=a2Q λc L=>r c a9w;unfold pU;simp_all
def zM (c d:Own):Prop:= ∀a h b k,c= .buf a h->d= .buf b k->a≠b
variable{s a7:R -> U -> Prop}
def Gu {F:cA s} (r:bh t f e g e6) (x:bh t f e e0 M) (y:zM e6 M) (G:aS e g) (L:aS e B) (P:(g.length+B.length)*i<=140737488355328) (S:g.length+B.length<=9223372036854775807)
  (T: ∀c b,bh t b e (g++B) c->bh t b e e0 M->zM c M->iv f b->s (.J (g++B) c) b):lV e i f (.J g e6) (.J B h4) (bO s F):=by
 obtain⟨j,V,l,z,k⟩:=r.o8;refine ea V G L P S λc b d=>T c b (d.base z) ⟨U.ar z d.sub,?_⟩ ?_ λW m o=>d.sub _ _ ?_
 .have a:=x.2;cases M with
  |buf h C=>refine⟨a.1,d.sub _ _ ?_⟩;rw[k h λD E p=>y _ _ _ _ p rfl];exact a.2
  | _=>exact a
 .rintro h C D E rfl rfl rfl;have a:=d.2.1;rw[k h λD E p=>y _ _ _ _ p rfl,x.2.2]at a;cases a
 .rw[k W (λh C a=>by subst a;rintro rfl;rw[r.2.2]at o;cases o)];exact o
variable{q b6:List Int}
theorem Gv {a:Int->Int->Int} (b:e<q.length) (c:e<b6.length):(List.zipWith a q b6).take (e+1)=(List.zipWith a q b6).take e++ [a (q.getD e 0) (b6.getD e 0)]:=by rw[a6f (by rw[a6K];omega),List.getElem_zipWith];simp_all
theorem Gw (C D:List Int×List Int) (j l m n:Own) (T:U) (k9:C.1.length<=1000000) (l0:D.1.length<=1000000):
  AC Tryz.prog 179 [er C.1 C.2 j l,er D.1 D.2 m n] T λl1 G=>T.sub G/\ ∃l2 r,l1=er (cP C D).1 (cP C D).2 l2 r:=by
 obtain⟨b,h⟩:=C;obtain⟨c,d⟩:=D
 dsimp only at*
 have n9:=bG (q:=b);have a00:=bG (q:=c);have X:= @dK b;have Y:= @dK h;have Z:= @dK c;have j9:= @dK d;have p:(if cO b h b.length=true then
  (if cO c d c.length=true then(if b.length=c.length then(List.zipWith min b c,List.zipWith max h d)else([],[]))else(b,h))
  else if cO c d c.length=true then(c,d)else([],[]))=cP (b,h) (c,d):=rfl
 generalize cP (b,h) (c,d)=a01 at*;refine aM hm OP ?_;refine bo λq a02=> ?_;refine cV λs a03 a04 k0=> ?_;refine hs λt a05 a06 V a07 W=> ?_;refine bc (FL b h _ _ _ _ k9) ?_;refine bc (FL c d _ _ _ _ l0) ?_;cases pK:cO b h b.length with
 |false=>
  cases ic:cO c d c.length with
  |false=>rw[pK,ic,if_neg a9x,if_neg a9x]at p;refine aa ?_;exact⟨.nil,.nil,by rw[<-p];rfl⟩
  |true=>rw[pK,ic,if_neg a9x,if_pos rfl]at p;refine aa ?_;exact⟨m,n,by rw[<-p]⟩
 |true=>
  cases ic:cO c d c.length with
  |false=>rw[pK,ic,if_pos rfl,if_neg a9x]at p;refine aa ?_;exact⟨j,l,by rw[<-p]⟩
  |true=>
   rw[pK,ic,if_pos rfl,if_pos rfl]at p;by_cases cl:b.length=c.length
   .rw[if_pos cl]at p;have a08:=lk pK;have a09:=lk ic;refine aa ?_;refine aN λr k=> ?_;generalize L:((T.set q _).set s _).set t _=E at*;have l3:T.sub E:=by subst L;exact aR
    have u:E q=some (.cells [.J (ad b) j,.J (ad h) l]):=by subst L;exact aR
    have v:E s=some (.cells [.J (ad c) m,.J (ad d) n]):=by subst L;exact aR
    have aJ:E t=some (.cells [.J [] .nil,.J [] .nil]):=by subst L;exact aR
    have a10:t≠r:=by rintro rfl;rw[aJ]at k;cases k
    have a11:q≠r:=by rintro rfl;rw[u]at k;cases k
    have a13:s≠r:=by rintro rfl;rw[v]at k;cases k
    clear L pK ic;have k1:=λa P w=>Gv (a:=min) (q:=b) (b6:=c) (e:=a) P w;have k2:=λa P w=>Gv (a:=max) (q:=h) (b6:=d) (e:=a) P w;have a14:(List.zipWith min b c).length=b.length:=by rw[a6K];omega
    have a15:(List.zipWith max h d).length=b.length:=by rw[a6K];omega
    generalize List.zipWith min b c=y at*;generalize List.zipWith max h d=z at*;refine aa ?_;refine ch [2,3,4,7] (λa:Nat=> [(8,.v (.int .i64 (a)))]) (λa G=>a<=b.length/\ ∃S x,G r=some (.cells [.J (ad (y.take a)) S,.J (ad (z.take a)) x])/\bh E G 1 (ad (y.take a)) S/\bh E G 1 (ad (z.take a)) x/\zM S x) (λa=>b.length - a) 0
     ⟨⟨a5C _,.nil,.nil,U.ag _ _ _,bh.nil (U.ae U.a1 k),bh.nil (U.ae U.a1 k),λ_ _ _ _ P=>by cases P⟩,aR⟩ ?_
    rintro a a16 ⟨a18,S,x,A,o,F,B⟩ a19;have qw:=U.af (o.sub _ _ u);have mX:=U.af (o.sub _ _ v);have l4:=U.af A;have a27:(ad (y.take a)).length=a:=by rw[bG,a4W];omega
    have a29:(ad (z.take a)).length=a:=by rw[bG,a4W];omega
    by_cases a30:a<b.length
    .have a34:=X a9w;have a36:=Y (b:=a) a9w;have a38:=Z (b:=a) a9w;have a42:=j9 (b:=a) a9w;have k3:=k1 a a9w a9w;have k4:=k2 a a9w a9w;clear X Y Z j9 k1 k2;generalize b.getD a 0=e at*;generalize c.getD a 0=f at*;generalize h.getD a 0=a3 at*;generalize d.getD a 0=a4 at*;have k5:(a)<(c.length:Int):=a9w;have zN:aS 1 (ad (y.take a)):=λk0 H=>by obtain⟨l5,_,rfl⟩:=a5o.1 H;rfl
     have zO:aS 1 (ad (z.take a)):=λk0 H=>by obtain⟨l5,_,rfl⟩:=a5o.1 H;rfl
     have k6:ad (y.take (a+1))=ad (y.take a)++ [.v (.int .i64 (min e f))]:=by rw[k3];simp[ad]
     have k7:ad (z.take (a+1))=ad (z.take a)++ [.v (.int .i64 (max a3 a4))]:=by rw[k4];simp[ad]
     clear k3 k4;generalize ad (y.take a)=I at*;generalize ad (z.take a)=K at*;refine aa ?_;refine db U.a1 (by simp[aS,R.cells]) λa43 a47 M=> ?_;refine aa ?_;refine Gu (o.mono M.sub) (F.mono M.sub) B zN (by simp[aS,R.cells]) a9y a9y λg k8 o F B l6=> ?_;have i:=l6 _ _ (M.sub _ _ A);have aE:=U.aI i;have qw:=U.af (o.sub _ _ u);have mX:=U.af (o.sub _ _ v);refine aa ?_;have l7:=pT (Y:= .cells [.J (I++ [.v (.int .i64 (min e f))]) g,.J K x]) o k i;have l8:=pT (Y:= .cells [.J (I++ [.v (.int .i64 (min e f))]) g,.J K x]) F k i;have l9:=U.ag k8 r (.cells [.J (I++ [.v (.int .i64 (min e f))]) g,.J K x]);clear i aE qw mX o F A l4;generalize k8.set r _=a48 at*;refine db U.a1 (by simp[aS,R.cells]) λa52 a56 N=> ?_;refine aa ?_;refine Gu (l8.mono N.sub) (l7.mono N.sub) (λn0 k5 n1 n2 V W O=>B _ _ _ _ W V O.symm) zO (by simp[aS,R.cells]) a9y a9y λn3 a57 F o n4 n5=> ?_;have Q:=n5 _ _ (N.sub _ _ l9);have aE:=U.aI Q;refine aa ?_;refine⟨a+1,⟨a9w,g,n3,?_,?_,?_,λn0 k5 n1 n2 V W O=>n4 _ _ _ _ W V O.symm⟩,rfl,a9w⟩
     .rw[k6,k7]
     .rw[k6];exact pT o k Q
     .rw[k7];exact pT F k Q
    .obtain rfl:a=b.length:=a9w;have a61:=U.aI (o.sub _ _ aJ);refine aa ?_;refine iw ?_;exact⟨U.ar l3 o.sub,S,x,by grind⟩
   .rw[if_neg cl]at p;refine aa ?_;refine iw ?_;exact⟨.nil,.nil,by rw[<-p];rfl⟩
def il (a:ay) (b c d:Own) (k:a.sum.length=32):(ab a b c d).length=37/\aX true 2 ((ab a b c d).drop 32)=er a.aU a.aV b c/\aX false 1 ((ab a b c d).drop 34)= .v (.int .i64 a.live)/\aX false 1 ((ab a b c d).drop 35)= .v (.int .i64 a.size)/\aX false 1 ((ab a b c d).drop 36)= .J (ad a.key) d/\aX true 37 (ab a b c d)= .agg (ab a b c d):=by have h:=aW (M:=b) (e6:=c) (h4:=d) k;refine⟨h.len,by rw[h.d32];rfl,by rw[h.d34];rfl,by rw[h.d35];rfl,by rw[h.d36];rfl,?_⟩;show R.agg ((ab a b c d).take 37)= _;rw[h.t37]
theorem Gx (a:c3) (S V:List R) (l m:Own) (y:U) (Z:aA dd a.rows S) (j9:aA bu a.kids V) (a65:a.rows.length<=4) (a68:a.kids.length<=4)
  (k4: ∀o∈a.rows,1<=o.1.length/\o.1.length<=8) (l6: ∀c∈a.kids,c.gq/\c.sum.length=32/\c.cz) (a01:(eD a).size<=1048576) (a02:a.kind=2->a.rows≠ []) (a03:a.kind=3->a.kids≠ []):
  AC Tryz.prog 113 [gN a (.J S l) (.J V m)] y λo F=>y.sub F/\ ∃h k H,o= .aK [.agg (ab (eU a) h k H),.v (.bool true)]:=by
 have a69:=Z.len;have a71:=j9.len;have a73:(cW a).length<=3000:=by have l7:=qL λo r=>xu (k4 o r).2;grind[yC,cW,List.length_append,List.length_cons]
 have fc:=il az .nil .nil .nil bj;have x:(eT (cW a)).length=32:=oe _;have z:(⟨eT (cW a),(eD a).aO.1,(eD a).aO.2,(eD a).live,(eD a).size,keyOf a⟩)=eU a:=rfl;have k0:=λa04 y r=>a1P (cW a) a04 y r a9w;have l8:=λy=>a0D a S V l m y Z j9 a9w a9w (λo r=>(k4 o r).2) l6;generalize eT (cW a)=p at*;generalize eU a=G at*;have a74:(cv p).cells=p.map ak:=rfl;have a81:(p.map ak).length=32:=by simp[x]
 have a83:putAt (ab az .nil .nil .nil) 0 (p.map ak)=ab (fK p ⟨0,0,([],[])⟩) .nil .nil .nil:=uj bj x;have n: ∀c:ay,c.sum.length=32-> ∀h k H,putAt (ab az .nil .nil .nil) 0 (ab c h k H)=ab c h k H:=λc r h k H=>cC bj r;have a84:=n (fK p ⟨0,0,([],[])⟩) x .nil .nil .nil;have P:=λd h k=>il (fK p d) h k .nil x;have a86:=P ⟨0,0,([],[])⟩ .nil .nil;refine aM hm MI ?_;refine bo λv a05=> ?_;refine cV λI a06 a88 a07=> ?_;rw[cn];have l9:((y.set v (.cells [.v (.int .u8 a.kind.toNat),.J S l,.J V m])).set I (.cells (ab az .nil .nil .nil))) v=some (.cells [.v (.int .u8 a.kind.toNat),.J S l,.J V m]):=by rw[U.ao _ _ a07,U.ag]
 have n0:=U.ag (y.set v (.cells [.v (.int .u8 a.kind.toNat),.J S l,.J V m])) I (.cells (ab az .nil .nil .nil));have n1:y.sub ((y.set v (.cells [.v (.int .u8 a.kind.toNat),.J S l,.J V m])).set I (.cells (ab az .nil .nil .nil))):=U.ae (U.ae U.a1 a05) a06;generalize (y.set v _).set I _=a08 at*;refine eo (l8 a08) λa09 w k5=> ?_;have k0:=k0 a09 w (kd.an k5);have k1:=k5.sub;refine bc k0 ?_;clear k0 l8;refine aN λf g=> ?_;have k6:=k1 _ _ l9;have c2:=k1 _ _ n0;have a89:v≠f:=by rintro rfl;rw[k6]at g;cases g
 have a90:I≠f:=by rintro rfl;rw[c2]at g;cases g
 have a10:=U.ar n1 k1;clear k1 l9 n0 n1 k5;refine aa ?_;refine ch [1,2,4] (λb:Nat=> [(5,.v (.int .i64 (b)))]) (λb F=>b<=a.rows.length/\w.sub F/\(0<=((a.rows.take b).foldl dM ⟨0,a.rows.length,([],[])⟩).live/\((a.rows.take b).foldl dM ⟨0,a.rows.length,([],[])⟩).live<=b/\((a.rows.take b).foldl dM ⟨0,a.rows.length,([],[])⟩).aO.1.length<=8/\((a.rows.take b).foldl dM ⟨0,a.rows.length,([],[])⟩).aO.2.length<=8)/\
   ∃h k,F f=some (.cells (ab (fK p ⟨((a.rows.take b).foldl dM ⟨0,a.rows.length,([],[])⟩).live,b,((a.rows.take b).foldl dM ⟨0,a.rows.length,([],[])⟩).aO⟩) h k .nil))) (λb=>a.rows.length - b) 0 ⟨⟨a5C _,U.ae (U.ae U.a1 g) g,a9x,.nil,.nil,U.ag _ _ _⟩,aR⟩ ?_
 rintro b k7 ⟨a11,i,⟨a92,a94,a13,a14⟩,h,k,aJ⟩ a15;have K:=λr=>eS (a:=a.rows) (b:=([],false)) (e:=b) r;have C:=λr=>congrArg (List.foldl dM ⟨0,a.rows.length,([],[])⟩) (K r);generalize k2:(a.rows.take b).foldl dM ⟨0,a.rows.length,([],[])⟩=d at*;have n2:=U.af (i _ _ k6);have M:=U.af aJ;have N:=P ⟨d.live,b,d.aO⟩ h k;have n3:putAt (ab (fK p ⟨d.live,b,d.aO⟩) h k .nil) 35 [.v (.int .i64 ((b)+1))]=ab (fK p ⟨d.live,(b)+1,d.aO⟩) h k .nil:=sy x;have q:=U.aI aJ
 dsimp only at N
 refine aa ?_;refine aG (λO=> ?_) λO=> ?_
 .have A:b<a.rows.length:=a9w;have Q:a.rows[b]? =some (a.rows.getD b ([],false)):=by simp_all
  obtain⟨_,j,W,rfl⟩:=Z.get Q;have k3:=k4 _ (a5a Q);have C:=C A;rw[a6S,k2]at C;generalize a.rows.getD b ([],false)=o at*;have n4:ey 2 S[b]? =some (.bV [.J (ad o.1) W,.v (.bool o.2)]):=by rw[j];rfl
  obtain⟨o,a16⟩:=o
  dsimp only at k3 n4
  have k8:=P ⟨d.live,(b)+1,d.aO⟩ h k
  dsimp only at k8
  cases a16 with
  |false=>
   refine aa ?_;have s:(a.rows.take (b+1)).foldl dM ⟨0,a.rows.length,([],[])⟩=d:=by rw[C];rfl
   refine⟨b+1,⟨A,?_,h,k,?_⟩,rfl,a9w⟩;grind
   .rw[s];push_cast;rfl
  |true=>
   have a18:putAt (ab (fK p ⟨d.live,(b)+1,d.aO⟩) h k .nil) 34 [.v (.int .i64 (d.live+1))]=ab (fK p ⟨d.live+1,(b)+1,d.aO⟩) h k .nil:=sx x;have e:=P ⟨d.live+1,(b)+1,d.aO⟩ h k
   dsimp only at e
   refine aa ?_;generalize t:k7.set f _=u;have k9:u f=some (.cells (ab (fK p ⟨d.live+1,(b)+1,d.aO⟩) h k .nil)):=by subst t;exact U.ag _ _ _
   have l0:w.sub u:=by subst t;exact U.ae i g
   clear t q M;refine ai (Gw d.aO (o,o) h k W W u a9w (by dsimp only;omega)) ?_;rintro _ a19 ⟨X,D,E,rfl⟩;have l1:=X _ _ k9;have q:=U.aI l1;have a27:cP d.aO (gn o)=cP d.aO (o,o):=by unfold gn;rw[if_pos k3]
   have a29:putAt (ab (fK p ⟨d.live+1,(b)+1,d.aO⟩) h k .nil) 32 [.J (ad (cP d.aO (o,o)).1) D,.J (ad (cP d.aO (o,o)).2) E]=ab (fK p ⟨d.live+1,(b)+1,cP d.aO (o,o)⟩) D E .nil:=xw x;have a30:=om d.aO (o,o) 8 a13 a14 k3.2 k3.2;refine aa ?_;have s:(a.rows.take (b+1)).foldl dM ⟨0,a.rows.length,([],[])⟩=⟨d.live+1,d.size,cP d.aO (o,o)⟩:=by rw[C];show dM d (o,true)= _;rw[dM,if_pos rfl,a27]
   refine⟨b+1,⟨A,U.ar l0 X,?_,D,E,?_⟩,rfl,a9w⟩;grind
   .rw[s];push_cast;rfl
 obtain rfl:b=a.rows.length:=a9w;rw[a5n]at k2;have a34:d.size=a.rows.length:=by rw[<-k2,xN]
 have a36:(⟨d.live,a.rows.length,d.aO⟩)=d:=by rw[<-a34]
 rw[a36]at aJ;clear C K O M N n3 q n2;refine ch [1,2,4] (λb:Nat=> [(6,.v (.int .i64 (b)))]) (λb F=>b<=a.kids.length/\w.sub F/\(0<=((a.kids.take b).foldl ep d).live/\((a.kids.take b).foldl ep d).live<=4+b*1048576/\0<=((a.kids.take b).foldl ep d).size/\((a.kids.take b).foldl ep d).size<=4+b*1048576/\((a.kids.take b).foldl ep d).aO.1.length<=8/\((a.kids.take b).foldl ep d).aO.2.length<=8)/\
   ∃h k,F f=some (.cells (ab (fK p ((a.kids.take b).foldl ep d)) h k .nil))) (λb=>a.kids.length - b) 0 ⟨⟨a5C _,i,a9y,h,k,aJ⟩,aR⟩ ?_
 clear aJ i;rintro b k7 ⟨a11,i,⟨a95,a96,a97,a98,a38,a42⟩,h,k,aJ⟩ a15;have K:=λr=>eS (a:=a.kids) (b:=az) (e:=b) r;have C:=λr=>congrArg (List.foldl ep d) (K r);generalize l2:(a.kids.take b).foldl ep d=T at*;have n2:=U.af (i _ _ k6);have M:=U.af aJ;have N:=P T h k;have q:=U.aI aJ
 dsimp only at N
 refine aa ?_;refine aG (λO=> ?_) λO=> ?_
 .have A:b<a.kids.length:=a9w;have Q:a.kids[b]? =some (a.kids.getD b az):=by simp_all
  obtain⟨_,j,l3,a43,D,E,L,rfl⟩:=j9.get Q;obtain⟨a47,_,_⟩:=l6 _ (a5a Q);obtain⟨l7,a48,a99,b00,b01,b02,b03⟩:=a47;have C:=C A;rw[a6S,l2]at C;generalize a.kids.getD b az=c at*;have l4:=il c D E L l3;have n4:ey 37 V[b]? =some (.bV (ab c D E L)):=by rw[j];exact iZ l4.1
  have n3:putAt (ab (fK p T) h k .nil) 35 [.v (.int .i64 (T.size+c.size))]=ab (fK p ⟨T.live,T.size+c.size,T.aO⟩) h k .nil:=sy x;have a18:putAt (ab (fK p ⟨T.live,T.size+c.size,T.aO⟩) h k .nil) 34 [.v (.int .i64 (T.live+c.live))]=ab (fK p ⟨T.live+c.live,T.size+c.size,T.aO⟩) h k .nil:=sx x;have k8:=P ⟨T.live,T.size+c.size,T.aO⟩ h k;have e:=P ⟨T.live+c.live,T.size+c.size,T.aO⟩ h k
  dsimp only at k8 e
  generalize ab c D E L=a52 at*;clear j;refine aa ?_;generalize t:k7.set f _=u;have k9:u f=some (.cells (ab (fK p ⟨T.live+c.live,T.size+c.size,T.aO⟩) h k .nil)):=by subst t;exact U.ag _ _ _
  have l0:w.sub u:=by subst t;exact U.ae i g
  clear t q M;refine ai (Gw T.aO (c.aU,c.aV) h k D E u a9w (by dsimp only;omega)) ?_;rintro _ a19 ⟨X,cd,ca,rfl⟩;have l1:=X _ _ k9;have q:=U.aI l1;have a29:putAt (ab (fK p ⟨T.live+c.live,T.size+c.size,T.aO⟩) h k .nil) 32 [.J (ad (cP T.aO (c.aU,c.aV)).1) cd,.J (ad (cP T.aO (c.aU,c.aV)).2) ca]=ab (fK p ⟨T.live+c.live,T.size+c.size,cP T.aO (c.aU,c.aV)⟩) cd ca .nil:=xw x;have a30:=om T.aO (c.aU,c.aV) 8 a38 a42 l7 a48;refine aa ?_;have s:(a.kids.take (b+1)).foldl ep d=⟨T.live+c.live,T.size+c.size,cP T.aO (c.aU,c.aV)⟩:=by rw[C];rfl
  refine⟨b+1,⟨A,U.ar l0 X,?_,cd,ca,?_⟩,rfl,a9w⟩;grind
  .rw[s]
 obtain rfl:b=a.kids.length:=a9w;rw[a5n]at l2;have a56:eD a=T:=by unfold eD;rw[k2,l2]
 rw[a56]at a01 z;have b04:=U.aI (i _ _ c2);have b05: ∀F:U,w.sub F->y.sub F:=λF r=>U.ar a10 r;clear C K O;have B:G.sum.length=32:=by rw[<-z];exact x
 have l5:G.size=T.size:=by rw[<-z]
 by_cases g2:a.kind=2
 .have bo:(a.kind.toNat:Int)=2:=by rw[g2];rfl
  obtain⟨o,b06,n5⟩:=a6Y (a02 g2);obtain⟨_,j,W,rfl⟩:=Z.get (i:=0) (by rw[n5];rfl);have Y:keyOf a=o.1:=by unfold keyOf;rw[if_pos g2,n5];rfl
  rw[Y]at z;have a57:cL 2 (.J S l) (.v (.int .i64 0))=some (.bV [.J (ad o.1) W,.v (.bool o.2)]):=by show cL 2 _ (.v (.int .i64 ((0:Nat))))= _;rw[o6,j];rfl
  have a61:putAt (ab (fK p T) h k .nil) 36 [.J (ad o.1) W]=ab G h k W:=by rw[<-z];exact sz x
  have e:=il G h k W B;have n9:=n G B h k W;rw[l5]at e;generalize o.1=a62 at*;clear P n z;refine iw ?_;refine iw ?_;grind
 have bo: ¬(a.kind.toNat:Int)=2:=λs=>g2 (a5P.1 (by grind));refine iw ?_;by_cases g3:a.kind=3
 .have hs:(a.kind.toNat:Int)=3:=by rw[g3];rfl
  obtain⟨c,b07,a00⟩:=a6Y (a03 g3);obtain⟨_,j,l3,a43,D,E,L,rfl⟩:=j9.get (i:=0) (by rw[a00];rfl);have Y:keyOf a=c.key:=by unfold keyOf;rw[if_neg g2,if_pos g3,a00];rfl
  rw[Y]at z;have l4:=il c D E L l3;have a57:cL 37 (.J V m) (.v (.int .i64 0))=some (.bV (ab c D E L)):=by show cL 37 _ (.v (.int .i64 ((0:Nat))))= _;rw[o6,j];exact iZ l4.1
  have a61:putAt (ab (fK p T) h k .nil) 36 [.J (ad c.key) L]=ab G h k L:=by rw[<-z];exact sz x
  have e:=il G h k L B;have n9:=n G B h k L;rw[l5]at e;generalize ab c D E L=a52 at*;generalize c.key=a62 at*;clear P n z;refine iw ?_;refine iw ?_;grind
 .have hs: ¬(a.kind.toNat:Int)=3:=λs=>g3 (a5P.1 (by grind));have Y:keyOf a= []:=by unfold keyOf;simp_all
  rw[Y]at z;have a63:fK p T=G:=z;rw[a63]at M N q;have e:=il G h k .nil B;have n9:=n G B h k .nil;rw[l5]at e;clear P n z;refine iw ?_;refine iw ?_;grind
def a2S: ∀(a:List (a6.T e)),eF (pA a)=a.flatMap (a6.bg e)
 | []=>rfl
 | [b]=>by simp[pA,eF]
 |c::d::h=>rfl
theorem a2T: ∀(a:Nat) (b:a6.T a),eF (vs a b)=a6.bg a b
 |0,b=>by
  obtain⟨d,rfl⟩:=a6.hV b;show eF (if a6.len (a6.leaf d)=0 then none else some ⟨0,a6.leaf d⟩)= _;by_cases c:a6.len (a6.leaf d)=0
  .rw[if_pos c];rw[a6.hX]at c;rw[a6.kA,a4Z c];rfl
  .rw[if_neg c];rfl
 |a+1,b=>by
  obtain⟨h,rfl⟩:=a6.gr b;show eF (match a6.kids (a6.node h)with
   | [k]=>some ⟨a,k⟩
   | _=>some ⟨a+1,a6.node h⟩)= _
  grind[a6.fo,a6.ga,eF]
def a2U (d:1<=e) (h:e<=8) (k:bL e q) (o:iK e b7) (p:q∉eF b7):(eF (kG b7 q)).Perm (q::eF b7):=by
 match b7 with
 |none=>show(a6.bg 0 (a6.leaf [q])).Perm _;rw[a6.kA];rfl
 |some ⟨a,b7⟩=>have b:GT e a b7:=o;have c:q∉a6.bg a b7:=p;simp only[kG];rw[if_neg c,a2S];rw[(a6.qT (gw d h) k a b7 b.wf b.dO b.ok c).1];unfold a6.dN;exact a7t.trans (.cons _ (List.Perm.of_eq a5L))
def a2V (d:1<=e) (h:e<=8) (k:bL e q) (o:iK e b7) (c:q∈eF b7):eF (ju b7 q)=(eF b7).filter λp=>decide (p≠q):=by
 match b7 with
 |none=>cases c
 |some ⟨a,b7⟩=>have b:GT e a b7:=o;have r:q∈a6.bg a b7:=c;simp only[ju];rw[if_pos r,a2T];exact(a6.pz (gw d h) k a b7 b.wf b.dO b.ok).1
theorem Gy (a:List Int) (b:List (List Int)):(hj a b).Perm (a::b):=by grind[List.takeWhile_append_dropWhile,decide,bP,hj,List.perm_middle]
theorem Gz {b:List Int}: ∀ {a:List (List Int)},a.Pairwise (λk o=>bP k<bP o)->(∀c∈a,bP b≠bP c)->(hj b a).Pairwise (λk o=>bP k<bP o)
 | [],_,_=>by simp[hj]
 |c::a,r,x=>by
  obtain⟨z,C⟩:=a5D.1 r;have D:=x c a9x;by_cases y:bP b<bP c
  .have p:hj b (c::a)=b::c::a:=by simp[hj,y]
   rw[p];refine a5D.2 ⟨λh d=> ?_,r⟩;grind
  .have p:hj b (c::a)=c::hj b a:=by simp[hj,y]
   rw[p];refine a5D.2 ⟨λh d=> ?_,Gz C λh d=>x h (by simp[d])⟩;rcases a5q.1 ((Gy b a).mem_iff.1 d)with rfl|d
   .omega
   .exact z h d
theorem GA: ∀(b a:List (List Int)),(a++b).Pairwise (λh k=>bP h≠bP k)->a.Pairwise (λh k=>bP h<bP k)->(b.foldl (λo c=>hj c o) a).Perm (a++b)/\(b.foldl (λo c=>hj c o) a).Pairwise (λh k=>bP h<bP k)
 | [],a,_,d=>by simpa using d
 |c::b,a,d,p=>by
  have r:=((Gy c a).append_right b).trans a7t.symm;obtain⟨D,E,x⟩:=a5W.1 d;obtain⟨F,G⟩:=GA b (hj c a) (r.symm.pairwise d λd=>d.symm) (Gz p λy z C=>x y z c a9x C.symm);grind
variable{Q:List (List Int)}
theorem a2W (c:Q.Pairwise (λa b=>bP a<bP b)) (p: ∀d∈Q,bP q≠bP d):(rl (Q++ [q])).Perm (q::Q)/\(rl (Q++ [q])).Pairwise (λa b=>bP a<bP b):=by
 have h:([]++(Q++ [q])).Pairwise (λa b=>bP a≠bP b):=by rw[a5m];refine a5W.2 ⟨c.imp λc=>by omega,a9x,λa r b x=> ?_⟩;grind
 obtain⟨k,o⟩:=GA (Q++ [q]) [] h .nil;exact⟨k.trans (List.perm_append_singleton _ _),o⟩
def eQ.put {d:Nat}{a:aT} (b:eQ d a) (G:d<900) {c:List Int} (h:bL (a.aD.length+1) c) (o: ∀y∈a.rows,bP y≠bP c):eQ (d+1) (a.put c)/\(cX (a.aD.length+1) c a.bM 0).2=true/\c∉eF a.cq:=by
 have L:=b.c;have p:c∉a.rows:=λhm=>o c hm rfl;have r:(cX (a.aD.length+1) c a.bM 0).2=true:=by
  cases z:(cX (a.aD.length+1) c a.bM 0).2 with
  |true=>rfl
  |false=>exact absurd (b.fX.mem_iff.1 (zj z)) p
 have x:c∉eF a.cq:=λhm=>p (b.nJ.mem_iff.1 hm);obtain⟨k,C⟩:=a2W b.dO λD E F=>o D E F.symm;have P:=b.nJ.length_eq;have S:=b.dB;refine⟨⟨b.right,b.dz.ins h,?_,(a2H a9w a9w h b.go a9w).1,?_,C,?_⟩,r,x⟩
 .exact(zi h b.dz.fh r).trans ((b.fX.cons c).trans k.symm)
 .exact(a2U a9w a9w h b.go x).trans ((b.nJ.cons c).trans k.symm)
 .show(rl (a.rows++ [c])).length<=d+1;rw[k.length_eq,a4Y];omega
theorem a2X {b:List (List Int)} (d:Q.Pairwise (·≠ ·)) (a:Q.Perm (q::b)):b.Perm (Q.filter λc=>decide (c≠q)):=by have h:=(a.filter λc=>decide (c≠q)).symm;have k:(q::b).Pairwise (·≠ ·):=a.pairwise d λa=>a.symm;obtain⟨o,_⟩:=a5D.1 k;rw[a8h,if_neg a9x]at h;grind[decide,List.filter_eq_self,decide_eq_true]
def eQ.ri (a:eQ e j7):j7.rows.Pairwise (·≠ ·):=a.dO.imp λa b=>by subst b;omega
theorem eQ.del {k:Nat}{b:aT} (a:eQ k b) {c:List Int} (d:c∈b.rows):eQ k (b.del c)/\(cj (b.aD.length+1) c b.bM 0).2=true/\c∈eF b.cq:=by
 have z:=a.c;have h:=a.row d;have o:(cj (b.aD.length+1) c b.bM 0).2=true:=by
  cases r:(cj (b.aD.length+1) c b.bM 0).2 with
  |true=>rfl
  |false=>exact absurd (a.fX.mem_iff.2 d) (zk h.len a.dz.fh a.dz.vf r)
 have p:=a.nJ.mem_iff.2 d;have x:=a1M a.dz o;refine⟨⟨a.right,a.dz.del,?_,(a2M a9w a9w h a.go).1,?_,a.dO.filter _,a5R (a8j _ _) a.dB⟩,o,p⟩
 .exact a2X a.ri (a.fX.symm.trans x)
 .show(eF (ju b.cq c)).Perm (b.rows.filter λy=>decide (y≠c));rw[a2V a9w a9w h a.go p];exact a.nJ.filter _
def eQ.none (a:eQ e j7) (d:q.length=j7.aD.length+1) (b:q∉j7.rows):(cj (j7.aD.length+1) q j7.bM 0).2=false:=by
 cases c:(cj (j7.aD.length+1) q j7.bM 0).2 with
 |false=>rfl
 |true=>exact absurd (a.fX.mem_iff.1 ((vd c).mem_iff.2 a9x)) b
variable{c0:cB}
theorem zP (a:eu c0=true) (b:c0.kind=1):eu ⟨1,c0.table,c0.aD,[]⟩=true:=by unfold eu at a|-;simp_all
def GB {a:List (List UInt8)} (b:eu ⟨1,w,a,[]⟩=true):eQ e ⟨w,a,[],.nil,none⟩:=⟨b,lA.nil,.refl _,trivial,.refl _,.nil,a5C _⟩
theorem add_eq (b:df e X) (d:e<=1000) {a:List (List UInt8)} (h:eu ⟨1,w,a,[]⟩=true):
  ke (X.map aT.bx) ⟨w,a,az,az⟩=if bX X w<X.length then .error 4 else if 7<X.length then .error 10 else .ok ((X.take (jv X w)++⟨w,a,[],.nil,none⟩::X.drop (jv X w)).map aT.bx):=by
 have k:fS ⟨w,a,az,az⟩=true:=(GB h).bx a9w;unfold ke;rw[b.cat d,k,Bool.and_self,if_pos rfl]
 dsimp only
 rw[zL b,a5f];by_cases c:bX X w<X.length;simp_all
 .rw[if_neg (by simpa using c),if_neg c,a2P a9w];by_cases c2:7<X.length
  .grind
  .rw[if_neg a9w,if_neg c2,a5V,a5r,a8w,a7M];rfl
theorem zQ (a:df e X) (c:e<=1000):cI (X.map aT.bx) w=if bX X w<X.length then .ok ((X.eraseIdx (bX X w)).map aT.bx)else .error 3:=by
 unfold cI;rw[a.cat c,if_pos rfl,zL a];by_cases b:bX X w<X.length
 .rw[if_pos (decide_eq_true b),if_pos b,Gq a b,a7d,a5V,a8w,a7M]
 grind
theorem pg (a:df e X) (b:e<=1000) (c:eQ i j7) (d:i<=1000) (h:bX X j7.name<X.length):kf (X.map aT.bx) j7.bx= .ok ((X.set (bX X j7.name) j7).map aT.bx):=by unfold kf;rw[a.cat b,c.bx d,Bool.and_self,if_pos rfl];show(if gF (X.map aT.bx) j7.name=true then _ else _)= _;rw[zL a,if_pos (decide_eq_true h)];grind[aT.bx,set,cY,Gq,List.map_set]
def df.zR (c: ∀d∈X,eQ e d) (h:cw (X.map aT.bx)=true):df e X:=by obtain⟨_,a,b⟩:=oL.1 h;rw[a7q]at a;rw[a5f]at b;exact⟨c,a,b⟩
def df.le {b c:Nat}{d:List aT} (a:df b d) (h:b<=c):df c d:=⟨λk o=>(a.ok k o).le h,a.dO,a.dB⟩
theorem df.set {b:Nat}{a:List aT} (d:df b a) (x:b<1000) {c:aT} (h:eQ (b+1) c) (k:bX a c.name<a.length):df (b+1) (a.set (bX a c.name) c):=
 df.zR (λo p=>by
  rcases a7c p with r|rfl
  .exact(d.ok o r).le a9w
  .exact h) (Gb (pg d a9w h a9w k))
def vv (a:eu c0=true) (h:c0.kind≠1) (k:c0.kind≠2):(c0.kind=3\/c0.kind=4):=by
 have a:=a;simp only[eu,a4X]at a;have a:=a.2;have c: ∀d:UInt8,c0.kind.toNat=d.toNat->c0.kind=d:=λd b=>a5P.1 b;split at a
 .rename_i b;exact absurd (c 1 b) h
 split at a
 .rename_i b;exact absurd (c 2 b) k
 split at a
 .rename_i b;exact b.imp (c 3) (c 4)
 .cases a
theorem zS (d:df e X) (y:e<900) (o:dj c0.row):df (e+1) (fr X c0).2:=by
 have b:=d.le (show e<=e+1 by omega);unfold fr;by_cases p:eu c0=false
 .rw[if_pos p];exact b
 rw[if_neg p];have z:eu c0=true:=by simp_all
 by_cases c1:c0.kind=1
 .rw[if_pos c1];have r:=zP z c1;have h:=add_eq d a9w r;by_cases c2:bX X c0.table<X.length
  .rw[if_pos c2];exact b
  rw[if_neg c2]at h|-;by_cases aH:7<X.length
  .rw[if_pos aH];exact b
  rw[if_neg aH]at h|-;refine df.zR (λc a=> ?_) (Ge h);simp only[a5j,a5q]at a;rcases a with a|rfl|a
  .exact b.ok c (a5g a)
  .exact GB r
  .exact b.ok c (a5y a)
 rw[if_neg c1];by_cases c2:X.length<=bX X c0.table
 .rw[if_pos c2];exact b
 rw[if_neg c2];have k:bX X c0.table<X.length:=a9w;by_cases aH:c0.kind=2
 .rw[if_pos aH];have h:=zQ (w:=c0.table) d a9w;rw[if_pos k]at h;exact df.zR (λc a=>b.ok c (a7Y a)) (Ga (d.cat a9w) h)
 rw[if_neg aH];have a:=d.ok _ (vu k);have C:=th k;generalize X.getD (bX X c0.table) default=c at*;by_cases aJ:c0.row.length≠c.aD.length+1
 .rw[if_pos aJ];exact b
 rw[if_neg aJ];have D:bL (c.aD.length+1) c0.row:=⟨a9w,o⟩;rw[<-C]at k|-;by_cases bm:c0.kind=4
 .rw[if_pos bm];by_cases bs:c0.row∈c.rows
  .rw[if_pos bs];exact d.set a9w ((a.del bs).1.le a9w) k
  .rw[if_neg bs];exact b
 .rw[if_neg bm];by_cases bs:c.rows.any (λx=>decide (bP x=bP c0.row))=true
  .rw[if_pos bs];exact b
  .rw[if_neg bs];refine d.set a9w (a.put y D λx o E=>bs ?_).1 k;simp_all
def kP (a:List Int):Nat:=(bP a+9223372036854775808).toNat
theorem zT (a:dj q): -9223372036854775808<=bP q/\bP q<9223372036854775808:=by
 unfold bP;rw[a5M];cases b:q[0]? with
 |none=>simp
 |some c=>exact a c (a5a b)
theorem zU (a:dj q):IntKind.u64.wrap (IntKind.u64.wrap (bP q)+9223372036854775808)=(kP q:Int)/\(kP q:Int)=bP q+9223372036854775808:=by grind[zT,kP,bP,Int.toNat_of_nonneg,kv]
theorem GC (c d:Own) (a:List Int) (b:U) (k:oD a) (o:dj a):AC Tryz.prog 144 [fR.V c,.J (ad a) d] b λp r=>r=b/\p= .aK [ie 0 (kP a),.v (.bool true)]:=by
 obtain⟨x,y⟩:=zU o;obtain⟨C,D⟩:=k;have E:=bG (q:=a);have F:=mo (q:=a) a9w d;have z:fR.ok a.length=true:=by rw[r5];simp_all
 have h:=λb=>F5 fR c a.length b a9w a9x;rw[z]at h;unfold bP at x;clear y;refine aM hm ND ?_;refine bo λG L=> ?_;refine cV λP S T V=> ?_;refine bc (h _) ?_;rfl
theorem a2Y (r x y:Own) (a b:List Int) (c:U) (F:oD a) (l:b.length=a.length) (z:dj a) (C:dj b):AC Tryz.prog 76 [fR.V r,.J (ad a) x,.J (ad b) y] c λk o=>o=c/\k= .v (.bool (decide (bP a<bP b))):=by
 have T:oD b:=by unfold oD at*;omega
 have fX:=(zU z).2;have V:=(zU C).2;have G:=λc=>GC r x a c F z;have L:=λc=>GC r y b c T C;obtain⟨m,n⟩:=F;have q:=bG (q:=a);have s:=bG (q:=b);have W:=mo (q:=a) a9w x;have e:=mo (q:=b) a9w y;have P:a.getD 0 0=bP a:=rfl;have S:b.getD 0 0=bP b:=rfl;rw[P]at W;rw[S]at e;have t:kP a<kP b↔bP a<bP b:=a9w;have u:kP a=kP b↔bP a=bP b:=a9w;have cc:kP a<18446744073709551616/\kP b<18446744073709551616:=by have G:=zT z;have L:=zT C;omega
 clear P S fX V;generalize kP a=d at*;generalize kP b=h at*;generalize bP a=D at*;generalize bP b=f at*;have E: ∀p:Nat,p<18446744073709551616->dm [(2,c8.int IntKind.u64)] [R.v (Value.int IntKind.u64 0),R.v (Value.int IntKind.u64 (p))]:=λp v=>by
  simp[dm,c8.ts]
 have w:=E d cc.1;have A:=E h cc.2;clear E;have g:peq (R.agg [R.v (Value.int IntKind.u64 0),R.v (Value.int IntKind.u64 (d))]) (R.agg [R.v (Value.int IntKind.u64 0),R.v (Value.int IntKind.u64 (h))])=decide (d=h):=by grind[peq]
 refine aM hm LA ?_;refine bo λB H=> ?_;refine bc (G _) ?_;refine cV λI K p M=> ?_;refine bc (L _) ?_;refine hs λN O ca Q X Y=> ?_;have i: ∀c,AC Tryz.prog 145 [ie 0 d,ie 0 h] c λk o=>o=c/\k= .v (.bool (decide (D<f))):=λc=>(a0E 0 d 0 h c).mono λk o j=>⟨j.1,by simp_all⟩;rw[g];refine aG (λD=> ?_) λD=> ?_
 .refine bc (i _) ?_;trivial
 .trivial
theorem a2Z (c: ∀a<e,¬bP q<bP (Q.getD a [])) (b:e<=Q.length) (d:e<Q.length->bP q<bP (Q.getD e [])):hj q Q=Q.take e++q::Q.drop e:=by
 induction Q generalizing e with
 |nil=>simp at b;subst b;rfl
 |cons h Q ih=>
  cases e with
  |zero=>grind[bP,hj,List.takeWhile_cons,List.dropWhile_cons]
  |succ e=>have o: ¬bP q<bP h:=c 0 a9w;have:=ih (λa p=>c (a+1) a9w) (by simpa using b) (λk=>d (by simpa using k));simp_all [hj]
theorem a3a (d:List (List Int)) (m:List R) (w z:Own) (F:Nat) (C:U) (g:aA isRow d m) (n: ∀G∈d,bL F G) (k1:1<=F) (k2:F<=8) (n1:d.length<=100000):
  AC Tryz.prog 44 [fR.V z,.J m w] C λG L=>C.sub L/\ ∃A k3,aA isRow (rl d) A/\G= .J A k3:=by
 have n2:=g.len;have k4: ∀C,AC Tryz.prog 42 [fR.V z,.v (.int .i64 (F:Int))] C λG L=>L=C/\G= .v (.bool true):=λC=>by
  have:=F5 fR z F C a9w a9x;rw[r5,decide_eq_true ⟨k1,k2⟩]at this;exact this
 have n3:(fR.V z).cells= [.v (.int .u8 0),.v (.int .i64 0),.J (ad []) z]:=rfl;refine aM hm KE ?_;refine bo λq k5=> ?_;have B: ∀S,(C.set q (.cells (fR.V z).cells)).sub S->S.read q=some [.v (.int .u8 0),.v (.int .i64 0),.J (ad []) z]:=λS k=>U.af (k _ _ (U.ag _ _ _));have k6:=U.ae (Y:= .cells (fR.V z).cells) (U.a1) k5;generalize C.set q _=H at*;refine gJ [1,2,5] (λh:Nat=> [(6,.v (.int .i64 h))]) (λh=>h<=d.length) (λh=>d.length - h) 0 a9w aR ?_
 .rintro h I K;have k7:=B H U.a1;refine aa ?_;refine aG (λs=> ?_) λs=> ?_
  .have T:d[h]? =some (d.getD h []):=by simp_all
   have M:d[0]? =some (d.getD 0 []):=by grind
   obtain⟨_,k8,i,rfl⟩:=g.get T;obtain⟨_,k9,D,rfl⟩:=g.get M;have l0:=(n _ (a5a T)).len;have n4:=(n _ (a5a M)).len;have n5:=bG (q:=d.getD h []);have n9:=bG (q:=d.getD 0 []);generalize d.getD h []=r at*;generalize d.getD 0 []=b at*;refine aa ?_;have a00:cL 1 (.J m w) (.v (.int .i64 0))=some (.bV [.J (ad b) D]):=by show cL 1 _ (.v (.int .i64 ((0:Nat))))= _;rw[o6,k9];rfl
   refine bc (k4 _) ?_;exact⟨h+1,a9w,rfl,a9w⟩
  .refine ch [1,2] (λb:Nat×List R×Own=> [(7,.v (.int .i64 b.1)),(5,.J b.2.1 b.2.2)]) (λb L=>H.sub L/\b.1<=d.length/\ ∃c,(d.take b.1).foldl (λc r=>hj r c) []=c/\c.length=b.1/\(∀G∈c,bL F G)/\aA isRow c b.2.1) (λb=>d.length - b.1) (0,[],.nil) ⟨⟨U.a1,a9w,[],rfl,rfl,a9x,trivial⟩,aR⟩ ?_;rintro⟨h,E,bD⟩ S ⟨j,I,c,V,l1,N,x⟩ K
   dsimp only at I V l1 x|-
   have a01:=x.len;refine aa ?_;refine aG (λs=> ?_) λs=> ?_
   .have T:d[h]? =some (d.getD h []):=by simp_all
    obtain⟨_,k8,i,rfl⟩:=g.get T;have O:=n _ (a5a T);have l0:=O.len;have l2:=O.jU;have Q:=eS (a:=d) (b:= []) (e:=h) a9w;generalize d.getD h []=r at*;have el: ∀a,a<c.length-> ∃D,E[a]? =some (.J (ad (c.getD a [])) D):=λa W=>by
     obtain⟨_,o,D,rfl⟩:=x.get (i:=a) (x:=c.getD a []) (by simp_all);exact⟨D,o⟩
    have l3: ∀a,a<c.length->(c.getD a []).length=F:=λa W=>(N _ (by simp_all)).len;have l4: ∀a,a<c.length->dj (c.getD a []):=λa W=>(N _ (by simp_all)).jU;refine ch [1,2,5,7] (λb:Nat×List R×Own=> [(9,.v (.int .i64 b.1)),(8,.J b.2.1 b.2.2)]) (λb L=>b.1<=c.length/\(∀X<b.1,¬bP r<bP (c.getD X []))/\aA isRow (c.take b.1) b.2.1/\bh S L 1 b.2.1 b.2.2) (λb=>c.length - b.1) (0,[],.nil) ⟨⟨a9w,λX k=>by simp at k,trivial,bh.nil U.a1⟩,aR⟩ ?_;rintro⟨a,l,on⟩ l5 ⟨W,Y,y,e⟩ K
    dsimp only at W Y y e|-
    have k7:=B l5 (U.ar j e.sub);have a02:l.length=a:=by rw[y.len,a4W];omega
    have Z: ¬(a<c.length/\ ¬bP r<bP (c.getD a []))->hj r c=c.take a++r::c.drop a:=λk=>a2Z Y W λl6=>Classical.not_not.1 λP=>k ⟨l6,P⟩;by_cases jS:(a)<(h:Int)
    .obtain⟨D,a03⟩:=el a a9w;have a04:=l3 a a9w;have l7:=l4 a a9w;have l8:=eS (a:=c) (b:= []) (e:=a) a9w;generalize a05:c.getD a []=b at*;refine aa ?_;refine bc (a2Y z i D r b _ (by unfold oD;omega) a9w l2 l7) ?_;refine aG (λc2=> ?_) λc2=> ?_
     .refine jL (λj9 f=> ?_);refine ea (e.mono (U.ae U.a1 f)) (y.cells λ_ _=>isRow.cells) (λo p=>by rw[a5p]at p;subst p;rfl) a9y a9y λt k0 P=> ?_;refine aa ?_;refine⟨(a+1,l++ [.J (ad b) D],t),⟨by simp only;omega,?_,?_,P⟩,⟨rfl,rfl⟩,by simp only;omega⟩;grind
      .simp only[l8];exact y.snoc ⟨_,rfl⟩
     .have o:=Z a9w;refine jL (λj9 f=> ?_);refine ea (e.mono (U.ae U.a1 f)) (y.cells λ_ _=>isRow.cells) (λo p=>by rw[a5p]at p;subst p;rfl) a9y a9y λt k0 P=> ?_;have l9:dI 1 (.J E bD) (some (.v (.int .i64 (a)))) none=some (.J (E.drop a) .any):=p9 a9w (x.cells λ_ _=>isRow.cells);refine aa ?_;refine ea P (λo p=>by rcases a5j.1 p with k|k;exact y.cells (λ_ _=>isRow.cells) o k;rw[a5p]at k;subst k;rfl) ((x.drop a).cells λ_ _=>isRow.cells) a9y a9y λu n0 v=> ?_;refine aa ?_;refine⟨(h+1,l++ [.J (ad r) i]++E.drop a,u),⟨U.ar j v.sub,by simp only;omega,_,rfl,?_,?_,?_⟩,⟨rfl,rfl⟩,by simp only;omega⟩;grind;grind
      .simp only[Q,a6S,V,a6a,a7Z,o];rw[a8g];exact(y.snoc ⟨_,rfl⟩).append (x.drop a)
    .have o:=Z a9w;refine aa ?_;refine jL (λj9 f=> ?_);refine ea (e.mono (U.ae U.a1 f)) (y.cells λ_ _=>isRow.cells) (λo p=>by rw[a5p]at p;subst p;rfl) a9y a9y λt k0 P=> ?_;have l9:dI 1 (.J E bD) (some (.v (.int .i64 (a)))) none=some (.J (E.drop a) .any):=p9 a9w (x.cells λ_ _=>isRow.cells);refine aa ?_;refine ea P (λo p=>by rcases a5j.1 p with k|k;exact y.cells (λ_ _=>isRow.cells) o k;rw[a5p]at k;subst k;rfl) ((x.drop a).cells λ_ _=>isRow.cells) a9y a9y λu n0 v=> ?_;refine aa ?_;refine⟨(h+1,l++ [.J (ad r) i]++E.drop a,u),⟨U.ar j v.sub,by simp only;omega,_,rfl,?_,?_,?_⟩,⟨rfl,rfl⟩,by simp only;omega⟩;grind;grind
     .simp only[Q,a6S,V,a6a,a7Z,o];rw[a8g];exact(y.snoc ⟨_,rfl⟩).append (x.drop a)
   .obtain rfl:h=d.length:=a9w;rw[a5n]at V;refine⟨U.ar k6 j,E,bD,by rw[rl,V];exact x,rfl⟩
def a3b {a:Nat->Bool}:(List.range (e+1)).all a=(a 0&&(List.range e).all λb=>a (b+1)):=by rw[a8V,List.all_cons,a9t];rfl
theorem GD (b:List UInt8): ∀(c a:Nat),b.length<c+a->lr ⟨b.toArray⟩ c a=(List.range (b.length - a)).all λk=>nu (a+k) (b.getD (a+k) 0)
 |0,a,o=>by
  rw[show b.length - a=0 by omega];rfl
 |c+1,a,o=>by
  have p:(⟨b.toArray⟩:ByteArray).size=b.length:=rfl;rw[lr,p];by_cases d:a<b.length
  .rw[if_pos d];obtain⟨h,hm⟩: ∃h,b.length - a=h+1:=⟨b.length - a - 1,a9w⟩;rw[hm,a3b,a6T];have r:b.getD a 0=b[a]:=by simp[d]
   rw[r];by_cases ct:b[a].toNat<128
   .rw[EN b a d ct]
    dsimp only
    rw[GD b c (a+1) a9w,show b.length -(a+1)=h by omega];have x:fP a (b[a].toNat)=nu a b[a]:=by unfold fP nu;grind
    grind
   grind[decode_high,fP,Utf8.decode,decide_eq_false,nu]
  simp_all
theorem GF (a:List UInt8):nv a=jX a:=by unfold nv jX;rw[GD a (a.length+1) 0 a9w];grind
theorem a3c {a:List (List UInt8)} (b:e<a.length):lu a e=ml a e:=by unfold lu ml;rw[GF];congr 2;rw[a7w];simp only[a5l,a6l,a6B,decide_eq_false_iff_not];grind[hm,List.getElem_of_mem,List.length_take,List.getD,List.mem_iff_getElem]
theorem a3d (a:List (List UInt8)):(List.range a.length).all (lu a)=(List.range a.length).all (ml a):=by rw[a7w];grind[List.all_eq_true,a3c]
theorem a3e (a:cB):oB a=eu a:=by
 unfold oB eu yg nt;rw[GF,a3d];congr 1;by_cases b:a.kind.toNat=1
 .rw[if_pos b,if_pos b,Bool.and_assoc];grind
 rw[if_neg b,if_neg b];by_cases c:a.kind.toNat=2;simp_all;grind
def eH (c:Nat) (d h:U):Prop:= ∀a b,a≠c->d a=some b->h a=some b
theorem eH.of {s:U} (a:s.sub f):eH e s f:=λb c _ d=>a b c d
theorem eH.trans (d:eH e f t) (h:eH e t e4):eH e f e4:=λa b c k=>h a b c (d a b c k)
theorem eH.set {a:Nat}{b c:U}{h:br} (k:eH a b c):eH a b (c.set a h):=λo p d r=>by rw[U.ao _ _ d];exact k o p d r
def fs (a:List R) (b:Nat) (d:R) (c:Nat):List R:=if c<=b then a.take c else(a.take b++d::a.drop b).take (c+1)
def a3f (b:e<i) (a:g[e]? =some b3):fs g i n (e+1)=fs g i n e++ [b3]:=by unfold fs;rw[if_pos a9w,if_pos a9w];obtain⟨c,rfl⟩:=a5b.1 a;simp
theorem a3g (a:g[e]? =some b3):fs g e n (e+1)=fs g e n e++ [n]++ [b3]:=by unfold fs;obtain⟨b,rfl⟩:=a5b.1 a;rw[if_neg a9w,if_pos a9w,a5s b];grind
theorem a3h (b:e<i) (a:g[i]? =some b3):fs g e n (i+1)=fs g e n i++ [b3]:=by unfold fs;obtain⟨c,rfl⟩:=a5b.1 a;rw[if_neg a9w,if_neg a9w];have d:(g.take e++n::g.drop e).length=g.length+1:=a9y;rw[a6f (show i+1<(g.take e++n::g.drop e).length by omega)];congr 2;grind
def a3i (a:e<=g.length):(if e<g.length then fs g e n g.length else fs g e n g.length++ [n])=g.take e++n::g.drop e:=by
 split
 .unfold fs;rw[if_neg a9w,a4U a9y]
 .obtain rfl:e=g.length:=a9w;unfold fs;rw[if_pos a9w];simp
def a3j (a:aA (hl f) X g) (h:n.cells.length=1):aS 1 (fs g e n i):=λc b=>by
 have d:=Gs a;unfold fs at b;split at b
 .exact d c (a5g b)
 .have:=a5g b;rcases a5j.1 this with a|a
  .exact d c (a5g a)
  .rcases a5q.1 a with rfl|a
   .exact h
   .exact d c (a5y a)
theorem a3k:(fs g i n e).length<=e+1:=by unfold fs;grind
theorem a3l: ∀a<jv X w,c5 w (X.getD a default).name=false:=by
 unfold jv
 induction X with
 |nil=>intro a b;simp at b
 |cons d X ih=>
  intro a b;rw[a6n]at b;cases c:c5 w d.name with
  |true=>simp[c]at b
  |false=>
   simp only[c,a5O,if_true,a4Y]at b;cases a with
   |zero=>trivial
   |succ a=>simp_all
def a3m:jv X w<=X.length:=(List.takeWhile_sublist _).length_le
theorem a3n (a:jv X w<X.length):c5 w (X.getD (jv X w) default).name=true:=by
 induction X with
 |nil=>simp at a
 |cons b X ih=>
  unfold jv at a|-;rw[a6n]at a|-;cases c:c5 w b.name with
  |true=>simp[c]
  |false=>simp_all [if_true,jv]
theorem a3o (a:List aT) (b:List UInt8):(bX a b<a.length->pU a b=(bX a b:Int))/\(a.length<=bX a b->pU a b= -1):=by simp_all [pU,if_pos,if_neg]
def a3p (a:UInt8) (b:Int):ja BinOp.eql (ak a) (R.v (Value.int IntKind.u8 b))=some (.v (.bool (decide ((a.toNat:Int)=b)))):=by simp only[ak,rW];rfl
theorem a3q (a:g[e]? =some n) (b:e≠i):(g.take (e+1)).eraseIdx i=(g.take e).eraseIdx i++ [n]:=by obtain⟨c,rfl⟩:=a5b.1 a;grind[List.take_succ_eq_append_getElem,Nat.lt_or_ge,List.eraseIdx_append_of_lt_length,List.length_take,List.eraseIdx_of_length_le]
theorem a3r:(g.take (e+1)).eraseIdx e=(g.take e).eraseIdx e:=by grind[List.eraseIdx_eq_take_drop_succ,List.drop_eq_nil_of_le,List.length_take,Nat.min_eq_left,Nat.min_self]
variable{b0:Type}
def aA.erase {b:b0->R->Prop}{c:List b0} (a:Nat) (d:aA b c g):aA b (c.eraseIdx a) (g.eraseIdx a):=by rw[a7d,a7d];exact(d.take a).append (d.drop (a+1))
def zV (a:f e=some (.cells [n])) (b:aA (hl f) X g):hn (f.set e (.cells [.J g M])) e X:=
 ⟨g,M,U.ag _ _ _,b.mono λ_ _ c=>c.ik (ij.set a rfl)⟩
def GG {a:List (List UInt8)} (b:f e=some (.cells [bb w,.J (bE a) M,.J [] .nil,.v (.pointer none),.v (.pointer none)])):hl f ⟨w,a,[],.nil,none⟩ (.ptr e 0):=⟨e,M,[],.nil,_,_,rfl,b,trivial,rfl,rfl⟩
theorem a3s (a:aA (hl f) X g):bN t 1 (.J g M)=some (g.length,g):=by
 have p: ∀b∈g,b.cells= [b]:=λb d=>by
  obtain⟨h,k,rfl⟩:=a5G d;have r:=a.len;obtain⟨o,c,x,_,_,_,_,_,rfl,_⟩:=a.get (a4T (show h<X.length by omega));rw[a4T k]at c;rw[a4S c];rfl
 have y:flat g=g:=by
  unfold flat;clear a
  induction g with
  |nil=>rfl
  |cons o g ih=>simp_all
 simp_all [bN,if_pos,a5l,decide_eq_true]
def kg (a:Nat) (p c:U) (r:List aT):Prop:= ∃b d,aA (hl b) r d/\(∃x,b a=some (.cells [x]))/\eH a p b/\eH a b c/\
 ((∃y,c a=some (.cells [.J d y]))\/ ∃h k z o,b h=none/\c a=some (.cells [.an h k z 1])/\c h=some (.cells o)/\k<=o.length/\dS 1 k o=d)
theorem kg.of {s:U}{ds:List aT} (a:hn f e ds) (c:eH e s f):kg e s f ds:=by obtain⟨d,h,b,k⟩:=a;exact⟨f,d,k,⟨_,b⟩,c,λ_ _ _ a=>a,.inl ⟨h,b⟩⟩
theorem a3t (M:U) (w a68:Nat) (k:List aT) (c:hn M w k) (a69:df a68 k) (b49:a68<900) (x:cN) (a71:x.d.Fit) (X:dj x.d.row):
  AC Tryz.prog 21 [.ptr w 0,x.V] M λy n=>kg w M n (fr k x.d).2/\y= .v (.int .i64 (fr k x.d).1):=by
 have h:=(fr.eq_1 k x.d).symm;generalize fr k x.d=b12 at*;have Y:=λM=>ZN x a71 M;rw[a3e]at Y;have a73:=a69.dB;obtain⟨E,a14,a74,a81⟩:=c;have n4:=a81.len;have a83:x.V= .agg [ak x.d.kind,bb x.d.table,.J (bE x.d.aD) x.gv,.J (ad x.d.row) x.dn]:=rfl;rw[a83]at Y|-;clear a83;obtain⟨b50,b51,b52,b53⟩:=a71;generalize a15:x.d.kind=V at*;generalize b54:x.d.table=G at*;generalize b55:x.d.aD=l1 at*;generalize b56:x.d.row=z at*;refine aM hm K2 ?_;refine bo λn5 a16=> ?_;have W:=U.ae (Y:= .cells [ak V,bb G,.J (bE l1) x.gv,.J (ad z) x.dn]) (U.a1 (f:=M)) a16;have aH:=U.ag M n5 (.cells [ak V,bb G,.J (bE l1) x.gv,.J (ad z) x.dn]);have b57:w≠n5:=by rintro rfl;rw[a74]at a16;cases a16
 generalize M.set n5 _=e at*;have F:=W _ _ a74;have S:aA (hl e) k E:=a81.mono λ_ _ c=>c.sub W;have a84:=a2R e w k ⟨E,a14,F,S⟩ G a9w;have j:=U.af aH;have eL:=U.af F;obtain⟨a86,b13⟩:=a3o k G;have Z:hn e w k:=⟨E,a14,F,S⟩;cases ct:eu x.d with
 |false=>rw[ct]at Y;rw[if_pos ct]at h;refine bc (Y e) ?_;exact⟨_,U.a1,kg.of (by rw[<-h];exact Z) (eH.of W),by rw[<-h]⟩
 |true=>
  rw[ct]at Y;rw[if_neg (by rw[ct];simp)]at h;refine bc (Y e) ?_;generalize pU k G=b14 at*;refine bc a84 ?_;clear Y a84;refine aG (λa88=> ?_) λa88=> ?_
  .have n9:V=1:=a5P.1 (by grind);rw[if_pos n9]at h;refine aG (λq=> ?_) λq=> ?_
   .rw[if_pos a9w]at h;exact⟨_,U.a1,kg.of (by rw[<-h];exact Z) (eH.of W),by rw[<-h]⟩
   rw[if_neg a9w]at h;refine aG (λc2=> ?_) λc2=> ?_
   .rw[if_pos a9w]at h;exact⟨_,U.a1,kg.of (by rw[<-h];exact Z) (eH.of W),by rw[<-h]⟩
   rw[if_neg a9w]at h;have b58:=a3m (X:=k) (w:=G);have b15:=a3l (X:=k) (w:=G);have b16:=a3n (X:=k) (w:=G);generalize jv k G=d at*;refine db U.a1 (by simp[aS]) λb59 b60 a89=> ?_;refine aa ?_;refine ea (g:= []) a89 (λ_ c=>by cases c) tg (by rw[a5d,hi];omega) (by rw[a5d,hi];omega) λa18 a19 l2=> ?_;rw[a5m]at l2|-;have j:=U.af (l2.sub _ _ aH);refine aa ?_;refine aN λo N=> ?_;have j9:(a19.set o (.cells (R.agg [bb G,.J (bE l1) a18,.J [] .nil,.v (.pointer none),.v (.pointer none)]).cells)) o=some (.cells [bb G,.J (bE l1) a18,.J [] .nil,.v (.pointer none),.v (.pointer none)]):=U.ag _ _ _;have k0:=U.ar l2.sub (U.ae (Y:= .cells (R.agg [bb G,.J (bE l1) a18,.J [] .nil,.v (.pointer none),.v (.pointer none)]).cells) (U.a1 (f:=a19)) N);have b61:w≠o:=by rintro rfl;rw[l2.sub _ _ F]at N;cases N
   refine aa ?_;have a90:fs E d (.ptr o 0) 0= []:=by unfold fs;rw[if_pos (a5C _)];rfl
   have b17:decide (d<0)=false:=a9x;generalize a19.set o _=b18 at*;clear a89 l2 N j;refine ch [0,3,8] (λp:Nat×Own=> [(6,.J (fs E d (.ptr o 0) p.1) p.2),(7,.v (.bool (decide (d<p.1)))),(9,.v (.int .i64 (p.1:Int)))]) (λp n=>p.1<=k.length/\bh b18 n 1 (fs E d (.ptr o 0) p.1) p.2) (λp=>k.length - p.1) (0,.nil) ⟨⟨a5C _,by rw[a90];exact bh.nil U.a1⟩,aR⟩ ?_;rintro⟨a,bD⟩ l3 ⟨l4,r⟩ a92
   dsimp only at l4 r|-
   have a94:=a3k (g:=E) (i:=d) (e:=a) (n:= .ptr o 0);have k1:=a3j (e:=d) (i:=a) (n:= .ptr o 0) S rfl;have eL:=U.af (r.sub _ _ (k0 _ _ F));have b62:=U.af (r.sub _ _ j9);clear a90 b17;refine aa ?_;refine aG (λaH=> ?_) λaH=> ?_
   .have k6:a<k.length:=a9w;have k2:k[a]? =some (k.getD a default):=by simp[List.getD,k6]
    obtain⟨_,k7,a27,l,a95,a96,a00,a01,rfl,s,_,_,_⟩:=S.get k2;have A:=U.af (r.sub _ _ (k0 _ _ s));have a97:=(vi G (k.getD a default).name).1;rcases a8A a d with B|B|B
    .have a29:=b15 a B;have P:=a3f (n:= .ptr o 0) B k7;have b19: ¬d<a:=a9w;have l5: ¬d<a+1:=a9w;generalize fs E d (.ptr o 0) a=a02 at*;rw[a29]at a97;refine aa ?_;refine hP r k1 λ_ T L C _=> ?_;exact⟨(a+1,T),⟨by simp only;omega,by simp only[P];exact C⟩,⟨by simp only[P],by simp[l5],rfl⟩,by simp only;omega⟩
    .subst B;have a29:=b16 k6;have P:=a3g (n:= .ptr o 0) k7;have b19: ¬a<a:=a9w;generalize fs E a (.ptr o 0) a=a02 at*;rw[a29]at a97;have l5:a<a+1:=a9w;refine aa ?_;refine hP r k1 λ_ T L C _=> ?_;have eL:=U.af (C.sub _ _ (k0 _ _ F));refine aa ?_;refine hP C (λD a30=>by rcases a5j.1 a30 with c|c;exact k1 D c;rw[a5p]at c;subst c;rfl) λ_ T g C _=> ?_;exact⟨(a+1,T),⟨by simp only;omega,by simp only[P];exact C⟩,⟨by simp only[P],by simp[l5],rfl⟩,by simp only;omega⟩
    .have P:=a3h (n:= .ptr o 0) B k7;have l5:d<a+1:=a9w;generalize fs E d (.ptr o 0) a=a02 at*;refine aa ?_;refine hP r k1 λ_ T L C _=> ?_;exact⟨(a+1,T),⟨by simp only;omega,by simp only[P];exact C⟩,⟨by simp only[P],by simp[l5],rfl⟩,by simp only;omega⟩
   .obtain rfl:a=k.length:=a9w;have a34:=a3i (g:=E) (e:=d) (n:= .ptr o 0) a9w;rw[n4]at a34;have a98:=U.aI (r.sub _ _ (k0 _ _ F));by_cases B:d<k.length
    .rw[if_pos B]at a34;refine aa ?_;have f:=U.ar k0 r.sub;refine⟨_,U.a1,kg.of ?_ (eH.of (U.ar W f)).set,by rw[<-h]⟩;rw[<-h];exact zV (f _ _ F) (((S.mono λ_ _ c=>c.sub f).take d).append ⟨GG (r.sub _ _ j9),(S.mono λ_ _ c=>c.sub f).drop d⟩)
    .rw[if_neg B]at a34;refine aa ?_;refine hP r k1 λ_ T L C _=> ?_;have a98:=U.aI (C.sub _ _ (k0 _ _ F));refine aa ?_;have f:=U.ar k0 C.sub;refine⟨_,U.a1,kg.of ?_ (eH.of (U.ar W f)).set,by rw[<-h]⟩;rw[<-h];exact zV (f _ _ F) (((S.mono λ_ _ c=>c.sub f).take d).append ⟨GG (C.sub _ _ j9),(S.mono λ_ _ c=>c.sub f).drop d⟩)
  .have n9: ¬V=1:=λD=>a88 (by rw[D];rfl);rw[if_neg n9]at h;refine aG (λq=> ?_) λq=> ?_
   .have b20:k.length<=bX k G:=by omega
    rw[if_pos b20]at h;exact⟨_,U.a1,kg.of (by rw[<-h];exact Z) (eH.of W),by rw[<-h]⟩
   have k6:bX k G<k.length:=by omega
   obtain rfl:=a86 k6;rw[if_neg a9w]at h;clear a86 b13 q;have b21:=vu k6;generalize bX k G=d at*;refine aG (λa99=> ?_) λa99=> ?_
   .have a03:V=2:=a5P.1 (by grind);rw[if_pos a03]at h;have b22:([]:List R).eraseIdx d= []:=List.eraseIdx_nil;refine ch [0,3,5] (λp:Nat×Own=> [(10,.J ((E.take p.1).eraseIdx d) p.2),(11,.v (.int .i64 (p.1:Int)))]) (λp n=>p.1<=k.length/\bh e n 1 ((E.take p.1).eraseIdx d) p.2) (λp=>k.length - p.1) (0,.nil) ⟨⟨a5C _,by grind[bh.nil,U.a1]⟩,aR⟩ ?_;clear b22;rintro⟨a,bD⟩ l3 ⟨l4,r⟩ a92
    dsimp only at l4 r|-
    have a94:((E.take a).eraseIdx d).length<=a:=a5R (List.length_eraseIdx_le _ _) (by rw[a4W];omega);have k1:aS 1 ((E.take a).eraseIdx d):=λD a30=>Gs S D (a5g (a7Y a30));have eL:=U.af (r.sub _ _ F);refine aa ?_;refine aG (λaH=> ?_) λaH=> ?_
    .have b23:a<k.length:=a9w;have k2:k[a]? =some (k.getD a default):=by simp[List.getD,b23]
     obtain⟨_,k7,a27,l,a95,a96,a00,a01,rfl,s,_,_,_⟩:=S.get k2;by_cases jS:a=d
     .subst jS;have P:=a3r (g:=E) (e:=a);generalize (E.take a).eraseIdx a=a02 at*;refine aa ?_;exact⟨(a+1,bD),⟨by simp only;omega,by simp only[P];exact r⟩,⟨by simp only[P],rfl⟩,by simp only;omega⟩
     .have P:=a3q (i:=d) k7 jS;generalize (E.take a).eraseIdx d=a02 at*;have b63: ¬(a:Int)=(d:Int):=a9w;refine aa ?_;refine hP r k1 λ_ T L C _=> ?_;exact⟨(a+1,T),⟨by simp only;omega,by simp only[P];exact C⟩,⟨by simp only[P],rfl⟩,by simp only;omega⟩
    .obtain rfl:a=k.length:=a9w;rw[<-n4,a5n]at r|-;have a98:=U.aI (r.sub _ _ F);refine aa ?_;have f:=r.sub;refine⟨_,U.a1,kg.of ?_ (eH.of (U.ar W f)).set,by rw[<-h]⟩;rw[<-h];exact zV (f _ _ F) ((S.mono λ_ _ c=>c.sub f).erase d)
   .have a03: ¬V=2:=λD=>a99 (by rw[D];rfl);rw[if_neg a03]at h;have b24:k[d]? =some (k.getD d default):=by simp[List.getD,k6]
    have t:=a69.ok _ b21;obtain⟨_,k7,a27,l,a95,a96,a00,a01,rfl,s,b00,a36,a38⟩:=S.get b24;have A:=U.af s;have b64:=a36.cells;have fc:=a38.cells;have b65:=t.c;have b25:=λy c=>t.row (q:=y) c;have b66:=t.dB;have b67:=b00.len;generalize b68:k.getD d default=b at*;have b69:=hi (a:=b.aD);have b70:=bG (q:=z);refine aa ?_;refine aG (λq=> ?_) λq=> ?_
    .rw[if_pos a9w]at h;exact⟨_,U.a1,kg.of (by rw[<-h];exact Z) (eH.of W),by rw[<-h]⟩
    rw[if_neg a9w]at h;have l6:z.length=b.aD.length+1:=a9w;have fG:=mo (q:=z) a9w x.dn;rw[show z.getD 0 0=bP z from rfl]at fG;have b26:decide (z∈([]:List (List Int)))=false:=a9x;refine ch [0,3,5,12] (λp:Nat×List R×Own=> [(13,.J p.2.1 p.2.2),(14,.v (.bool (decide (z∈b.rows.take p.1)))),(15,.v (.int .i64 (p.1:Int)))]) (λp n=>p.1<=b.rows.length/\bh e n 1 p.2.1 p.2.2/\aA isRow ((b.rows.take p.1).filter λy=>decide (y≠z)) p.2.1/\(V=3-> ∀y∈b.rows.take p.1,bP y≠bP z)) (λp=>b.rows.length - p.1) (0,[],.nil) ⟨⟨a5C _,bh.nil U.a1,trivial,λ_ y c=>by cases c⟩,aR⟩ ?_;clear b26;rintro⟨a,O,bD⟩ l3 ⟨l4,r,i,a04⟩ a92
    dsimp only at l4 r i a04|-
    have A:=U.af (r.sub _ _ s);have j:=U.af (r.sub _ _ aH);have a94:O.length<=a:=by rw[i.len];grind
    refine aa ?_;refine aG (λbm=> ?_) λbm=> ?_
    .have b01:a<b.rows.length:=a9w;have k2:b.rows[a]? =some (b.rows.getD a []):=by simp[List.getD,b01]
     obtain⟨_,P,a05,rfl⟩:=b00.get k2;have b71:=(b25 _ (a5a k2)).len;have l7:=eS (a:=b.rows) (b:= []) (e:=a) b01;have b27:b.rows.getD a []∈b.rows:=a5a k2;generalize b.rows.getD a []=y at*;have b28:=mo (q:=y) a9w a05;rw[show y.getD 0 0=bP y from rfl]at b28;refine aa ?_;refine aG (λbs=> ?_) λbs=> ?_
     .refine aG (λb02=> ?_) λb02=> ?_
      .have l8:V=3:=a5P.1 (by grind);rw[if_neg (by rw[l8];decide),if_pos (a7J.2 ⟨y,b27,decide_eq_true bs⟩)]at h;exact⟨_,U.a1,kg.of (by rw[<-h];exact Z.sub r.sub) (eH.of (U.ar W r.sub)),by rw[<-h]⟩
      have b72: ¬V=3:=λD=>b02 (by rw[D];rfl);refine bc (nq y z a05 x.dn _ a9w) ?_;refine aG (λc6=> ?_) λa06=> ?_
      .subst c6;exact⟨(a+1,O,bD),⟨by simp only;omega,r,by simp_all,λc=>absurd c id⟩,⟨rfl,by simp[l7],rfl⟩,by simp only;omega⟩
      refine hP r (i.cells λ_ _=>isRow.cells) λ_ T L C _=> ?_;refine⟨(a+1,O++ [.J (ad y) a05],T),⟨by simp only;omega,C,by simp only[l7,a7X];rw[a8h,if_pos (by simpa using a06),a8S];exact i.snoc ⟨_,rfl⟩,λl8 b03 a42=> ?_⟩,⟨rfl,by grind,rfl⟩,by simp only;omega⟩;exact False.elim l8
     .have a06:y≠z:=λD=>bs (by rw[D]);refine hP r (i.cells λ_ _=>isRow.cells) λ_ T L C _=> ?_;refine⟨(a+1,O++ [.J (ad y) a05],T),⟨by simp only;omega,C,by simp only[l7,a7X];rw[a8h,if_pos (by simpa using a06),a8S];exact i.snoc ⟨_,rfl⟩,λl8 b03 a42=> ?_⟩,⟨rfl,by simp only[l7,a5j,a5p];congr 2;exact decide_eq_decide.2 ⟨.inl,λc=>c.resolve_right λD=>a06 D.symm⟩,rfl⟩,by simp only;omega⟩;rw[l7]at a42;rcases a5j.1 a42 with c|c
      .exact a04 l8 b03 c
      .obtain rfl:=a5p.1 c;exact bs
    .obtain rfl:a=b.rows.length:=a9w;rw[a5n]at i a04|-;refine aN λo N=> ?_;have u:=U.bI r.sub N;have j9:(l3.set o (.cells (R.agg [bb b.name,.J (bE b.aD) l,.J [] .nil,.v (.pointer none),.v (.pointer none)]).cells)) o=some (.cells [bb b.name,.J (bE b.aD) l,.J [] .nil,.v (.pointer none),.v (.pointer none)]):=U.ag _ _ _;have a43:=U.ae (Y:= .cells (R.agg [bb b.name,.J (bE b.aD) l,.J [] .nil,.v (.pointer none),.v (.pointer none)]).cells) (U.a1 (f:=l3)) N;have b73:n5≠o:=by rintro rfl;rw[aH]at u;cases u
     have b74:a27≠o:=by rintro rfl;rw[s]at u;cases u
     have b75:w≠o:=by rintro rfl;rw[F]at u;cases u
     refine aa ?_;have k8:=U.ar r.sub a43;have b29:=a43;generalize l3.set o _=b04 at*;clear N a43;have A:=U.af (k8 _ _ s);have j:=U.af (k8 _ _ aH);have b76:=a3p V 4;refine aa ?_;refine o7 [0,3,5,12,16] (λ_:Unit=> []) (λ_ n=> ∃a07,b12=(0,k.set d a07)/\a07.name=b.name/\hl n a07 (.ptr o 0)/\e.sub n) (λq=> ?_) (λq=> ?_) ?_
     .have a08:V=4:=a5P.1 (by have c:=of_decide_eq_true q;have:(4:UInt8).toNat=4:=rfl;omega);rw[if_pos a08]at h;have aE:=U.aI j9;refine aa ?_;refine aG (λc6=> ?_) λc6=> ?_
      .rw[if_neg c6]at h;exact⟨_,U.a1,kg.of (by rw[<-h];exact Z.sub k8) (eH.of (U.ar W k8)),by rw[<-h]⟩
      .have b30:=c6;rw[if_pos b30]at h;clear c6;generalize k3:b04.set o _=L;have a47:L o=some (.cells [bb b.name,.J (bE b.aD) l,.J O bD,.v (.pointer none),.v (.pointer none)]):=by subst k3;exact U.ag _ _ _
       have H:e.sub L:=by subst k3;exact U.ae k8 u
       clear k3 aE j9;refine ai (a0g (b.aD.length+1) a9w a9w z x.dn l6 b.bM a00 L (a36.mono H) t.dz.fh.ok (by have:=t.dz.cm;omega)) ?_;rintro _ a09 ⟨m,k4,rfl,k5⟩;have l9:=m _ _ a47;have aE:=U.aI l9;have b31:=k5.cells;have A:=U.af (m _ _ (H _ _ s));have j:=U.af (m _ _ (H _ _ aH));refine aa ?_;generalize I:a09.set o _=g;have a48:g o=some (.cells [bb b.name,.J (bE b.aD) l,.J O bD,k4,.v (.pointer none)]):=by subst I;exact U.ag _ _ _
       have n0:e.sub g:=by subst I;exact U.ae (U.ar H m) u
       have a52:dP g (lx (b.aD.length+1) z b.bM).1 k4:=by subst I;exact k5.ik (n:=5) a9A (ij.set l9 rfl)
       clear I aE A j;refine ai (a2N (e:=b.aD.length+1) a9w a9w z x.dn ⟨l6,X⟩ b.cq a01 g (a38.fW (U.qA n0)) t.go) ?_;rintro _ k9 ⟨K,a56,b32,rfl,n1⟩;have v:=K _ _ a48;have aE:=U.aI v;have b33:=n1.cells;refine aa ?_;exact⟨(),b.del z,h.symm,rfl,⟨o,l,O,bD,k4,a56,rfl,U.ag _ _ _,i,(a52.mono K).ik (n:=5) a9A (ij.set v rfl),n1.ik (n:=5) a9A (ij.set v rfl)⟩,U.ar n0 K⟩
     .have a08: ¬V=4:=λD=>(of_decide_eq_false q) (by rw[D];rfl);rw[if_neg a08]at h;have b34:V=3:=by have:=vv ct (by rw[a15];exact n9) (by rw[a15];exact a03);rw[a15]at this;exact this.resolve_right a08
      have b05:=a04 b34;rw[if_neg (λc=>by
       obtain⟨y,X,D⟩:=a7J.1 c;exact b05 y X (of_decide_eq_true D))]at h
      have b35:b.rows.filter (λy=>decide (y≠z))=b.rows:=a8q.2 λy X=>decide_eq_true λD=>b05 y X (by rw[D]);rw[b35]at i;have b77:=i.len;refine aa ?_;refine db U.a1 (by simp[aS]) λT L C=> ?_;have j:=U.af (C.sub _ _ (k8 _ _ aH));refine aa ?_;refine ea (g:= []) C (λ_ c=>by cases c) (by simp[aS,ad,R.cells]) (by simp[bG];omega) (by simp[bG];omega) λb06 a09 m=> ?_;rw[a5m];refine aa ?_;refine db U.a1 (by simp[aS,R.cells]) λb78 g a73=> ?_;refine aa ?_;have b07:b04.sub g:=U.ar m.sub a73.sub;refine sf (r.mono (U.ar b29 b07)) (i.cells λ_ _=>isRow.cells) (by simp[aS,R.cells]) a9y a9y λb36 k9 K b37=> ?_;have v:=b37 _ _ (b07 _ _ j9);have b38:aA isRow (b.rows++ [z]) (O++ [.J (ad z) b06]):=i.snoc ⟨b06,rfl⟩;have b39: ∀y∈b.rows++ [z],bL (b.aD.length+1) y:=λy c=>by
       rcases a5j.1 c with c|c
       .exact t.row c
       .obtain rfl:=a5p.1 c;exact⟨l6,X⟩
      refine aa ?_;refine ai (a3a (b.rows++ [z]) _ b36 .nil (b.aD.length+1) k9 b38 b39 a9w a9w a9y) ?_;rintro _ a57 ⟨b08,a61,a62,b40,rfl⟩;have b09:=b08 _ _ v;have aE:=U.aI b09;have a63:e.sub a57:=U.ar K.sub b08;have A:=U.af (a63 _ _ s);have j:=U.af (a63 _ _ aH);refine aa ?_;generalize k3:a57.set o _=L;have a47:L o=some (.cells [bb b.name,.J (bE b.aD) l,.J a61 a62,.v (.pointer none),.v (.pointer none)]):=by subst k3;exact U.ag _ _ _
      have H:e.sub L:=by subst k3;exact U.ae a63 u
      clear k3 aE A j v b09;refine ai (yt (b.aD.length+1) a9w a9w z x.dn l6 b.bM a00 0 L L (a36.mono H) U.a1 t.dz.fh.ok (by have:=t.dz.cm;omega)) ?_;rintro _ a09 ⟨m,k4,rfl,k5⟩;have k5:=k5.mono qY;have l9:=m _ _ a47;have aE:=U.aI l9;have b31:=k5.cells;have A:=U.af (m _ _ (H _ _ s));have j:=U.af (m _ _ (H _ _ aH));refine aa ?_;generalize I:a09.set o _=g;have a48:g o=some (.cells [bb b.name,.J (bE b.aD) l,.J a61 a62,k4,.v (.pointer none)]):=by subst I;exact U.ag _ _ _
      have n0:e.sub g:=by subst I;exact U.ae (U.ar H m) u
      have a52:dP g (cX (b.aD.length+1) z b.bM 0).1 k4:=by subst I;exact k5.ik (n:=5) a9A (ij.set l9 rfl)
      clear I aE A j;refine ai (Zv (e:=b.aD.length+1) a9w a9w z x.dn ⟨l6,X⟩ b.cq a01 g (a38.fW (U.qA n0)) t.go) ?_;rintro _ k9 ⟨K,a56,b32,rfl,n1⟩;have v:=K _ _ a48;have aE:=U.aI v;have b33:=n1.cells;refine aa ?_;exact⟨(),b.put z,h.symm,rfl,⟨o,l,a61,a62,k4,a56,rfl,U.ag _ _ _,b40,(a52.mono K).ik (n:=5) a9A (ij.set v rfl),n1.ik (n:=5) a9A (ij.set v rfl)⟩,U.ar n0 K⟩
     .rintro _ k9 ⟨a07,b79,b80,b41,l0⟩ b81;have eL:=U.af (l0 _ _ F);refine aa ?_;rw[o3];refine aa ?_;have b42:=a3s (t:=k9) (M:=a14) S;refine fj (av.zero U.a1) a9w b42 a9w a9y a9y λb14 a57 a10=> ?_;rw[a5m]at a10;obtain⟨Q,n2,n3,a11,rfl,a13,b43,b44,b10,hm,b82,_⟩:=a10.an (λD=>by rw[D]at n4;simp at n4;omega);rw[a5K]at b44 b10 hm;have b83:cL 1 (.an Q n2 n3 1) (.v (.int .i64 (d:Int)))=some (.ptr Q d):=by have:=jG (e:=1) (i:=Q) (v:=n2) (O:=n3) (e2:= .i64) (b1:=(d:Int)) a9w a9w;simpa using this
      have b84:=U.aI b43;have b45:=a10.1 _ _ (l0 _ _ F);have b46:w≠Q:=by rintro rfl;rw[l0 _ _ F]at a13;cases a13
      have b85:=U.aI b45;have b86:(R.an Q n2 n3 1).cells= [.an Q n2 n3 1]:=rfl;have b87:d+1<=a11.length:=a9w;refine aa ?_;have b11:putAt a11 d [R.ptr o 0]=a11.set d (.ptr o 0):=by rw[a6k,if_pos a9w];unfold putAt;rw[a5h];rfl
      refine⟨_,U.a1,k9,E.set d (.ptr o 0),aA.set d (S.mono λ_ _ c=>c.sub l0) b41,⟨_,l0 _ _ F⟩,eH.of (U.ar W l0),λb47 b88 b48 a65=> ?_,.inr ⟨Q,n2,n3,putAt a11 d [.ptr o 0],a13,U.ag _ _ _,?_,?_,?_⟩⟩
      .have:b47≠Q:=by rintro rfl;rw[a13]at a65;cases a65
       rw[U.ao _ _ b48,U.ao _ _ this];exact a10.1 _ _ a65
      .rw[U.ao _ _ b46.symm,U.ag]
      .rw[b11,a7S];omega
      .rw[b11,jK,List.take_set,b10]
def a3u (p:U) (a r:Nat) (d:List aT) (b:hn p a d) (j:df r d) (l:r<900) (c:cN) (m:c.d.Fit) (n:dj c.d.row):
  AC Tryz.prog 21 [.ptr a 0,c.V] p λP h=>hn h a (fr d c.d).2/\eH a p h/\P= .v (.int .i64 (fr d c.d).1):=
 (a3t p a r d b j l c m n).view λP h b=>by
  obtain⟨⟨x,S,T,⟨v,V⟩,W,y,z⟩,rfl⟩:=b;have e: ∀C,eH a x C->ij 1 x C:=λC D k E o q=>D k _ (by rintro rfl;rw[V]at o;obtain rfl:=br.cells.inj (a4S o);exact q rfl) o;rcases z with ⟨F,z⟩|⟨k,s,w,E,G,t,o,hm,D⟩
  .exact⟨_,h,View.refl,⟨S,F,z,T.mono λ_ _ b=>b.ik (e _ y)⟩,W.trans y,rfl⟩
  .have u:a≠k:=by rintro rfl;rw[V]at G;cases G
   have f:eH a x ((h.set k (.ro E)).set a (.cells ([]++ .J (dS 1 s E) .any:: []))):=λg F i L=>by
    have:g≠k:=by rintro rfl;rw[G]at L;cases L
    rw[U.ao _ _ i,U.ao _ _ this];exact y g F i L
   exact⟨_,_,View.obj (B:= []) t o a9w u,⟨S,.any,by rw[U.ag,D];rfl,T.mono λ_ _ b=>b.ik (e _ f)⟩,W.trans f,rfl⟩
variable{a8:aC}{A j2:ay}
def jo.le (d:e<=8) (b:jo e a8 A) (c:a8.size<=1048576):A.gq/\A.sum.length=32/\A.cz:=by have a:=b.kH c;have h:=a.ob;have k:=a.oc;have o:=a.od;exact⟨⟨a9w,a9w,a9w,a.ng,a.live,a.nh,a.size⟩,b.sum,⟨a9w,a9w,a9w⟩⟩
theorem zX {s:Nat} (e:1<=s) (r:s<=8): ∀(i:aC) (x:R) (c:U),dP c i x->i.c9 s->i.size<=1048576->AC Tryz.prog 60 [x] c λd t=>c.sub t/\ ∃y h z,d= .agg (ab (bp i) y h z)
 | .nil,x,c,u,_,_=>by
  obtain rfl:x= .v (.pointer none):=u;have fc:=il az .nil .nil .nil bj;have v:putAt (ab az .nil .nil .nil) 0 (ab az .nil .nil .nil)=ab az .nil .nil .nil:=cC bj bj;refine aM hm Bg ?_;refine bo λk C=> ?_;rw[cn];exact⟨.nil,.nil,.nil,by rw[(aW bj).t37];rfl⟩
 | .node d o a b,x,c,u,D,K=>by
  obtain⟨M,k6,k7,k8,rfl,p,j,l⟩:=u;have k9:=K;simp only[aC.size]at k9;have l0:=zX e r a k7;have l1:=zX e r b k8;have w:=(fg e r D.a a9w).le r a9w;have cc:=(fg e r D.b a9w).le r a9w;have N:=fg e r D K;have n4:=N.size;have n5:=j.cells;have fc:=l.cells;have m:=U.af p;have l2: ∀E:U,c.sub E->AC Tryz.prog 114 [.ptr M 0] E λl3 t=>E.sub t/\ ∃F G f g,l3=gN (cp (d,o) (bp a) (bp b)) (.J F f) (.J G g)/\aA dd [(d,o)] F/\aA bu [bp a,bp b] G:=by
   intro E A;have p:=A _ _ p;have j:=j.mono A;have l:=l.mono A;have m:=U.af p;refine aM hm MK ?_;refine bo λk C=> ?_;have n9:M≠k:=by rintro rfl;rw[p]at C;cases C
   have L:=U.ae (Y:= .cells [.v (.int .u8 0),.J [] .nil,.J [] .nil]) (U.a1) C;have l4:=U.ag E k (.cells [.v (.int .u8 0),.J [] .nil,.J [] .nil]);generalize E.set k _=l5 at*;have m:=U.af (L _ _ p);refine aa ?_;refine(rQ (db U.a1 (by simp[aS,R.cells]) λ_ _ _=>trivial)).mpr ?_;refine aa ?_;refine ai (l0 l5 (j.mono L) D.a a9w) ?_;rintro _ O ⟨P,S,T,V,rfl⟩;have n:=U.ar L P;have m:=U.af (n _ _ p);have l6:=(il (bp a) S T V w.2.1).1;refine aa ?_;refine(rQ (db U.a1 (by simp[aS,R.cells]) λ_ _ _=>trivial)).mpr ?_;refine aa ?_;refine ai (l1 O (l.mono n) D.b a9w) ?_;rintro _ a00 ⟨Q,cd,ca,de,rfl⟩;have X:=U.ar n Q;have l7:=(il (bp b) cd ca de cc.2.1).1;have m:=U.af (X _ _ p);refine aa ?_;have Y:aS 37 [R.agg (ab (bp a) S T V),.agg (ab (bp b) cd ca de)]:=λq Z=>by
    simp only[a5q,a6u,or_false]at Z;rcases Z with rfl|rfl
    .exact l6
    .exact l7
   refine(rQ (db U.a1 Y λ_ _ _=>trivial)).mpr ?_;refine aa ?_;refine db U.a1 (by simp[aS,R.cells]) λh j9 W=> ?_;refine aa ?_;refine db U.a1 Y λl8 a01 k0=> ?_;have a02:=U.aI (k0.sub _ _ (W.sub _ _ (Q _ _ (P _ _ l4))));refine aa ?_;exact⟨U.ar X (U.ar W.sub k0.sub),_,_,h,l8,rfl,⟨⟨k6,rfl⟩,trivial⟩,⟨w.2.1,w.2.2,S,T,V,rfl⟩,⟨cc.2.1,cc.2.2,cd,ca,de,rfl⟩,trivial⟩
  have k1:=λF G f g c B H=>Gx (cp (d,o) (bp a) (bp b)) F G f g c B H (by simp[cp]) (by simp[cp]) (λx l9=>by
   obtain rfl:x=(d,o):=by simpa[cp] using l9
   have:=D.r.len;dsimp only;omega) (λk2 n0=>by
   have:k2=bp a\/k2=bp b:=by simpa[cp] using n0
   grind) (by show(bp (.node d o a b)).size<= _;omega) (λq=>by cases q) (λq=>by cases q)
  have n1:eU (cp (d,o) (bp a) (bp b))=bp (.node d o a b):=rfl;rw[n1]at k1;have k3:=N.sum;generalize bp (.node d o a b)=I at*;have k4:=λy h z=>il I y h z k3;have v: ∀y h z,putAt (ab az .nil .nil .nil) 0 (ab I y h z)=ab I y h z:=λy h z=>cC bj k3;have a03:=il az .nil .nil .nil bj;refine aM hm Bg ?_;refine bo λk C=> ?_;rw[cn];have L:=U.ae (Y:= .cells (ab az .nil .nil .nil)) (U.a1) C;refine ai (l2 _ L) ?_;rintro _ j9 ⟨W,F,G,f,g,rfl,B,H⟩;refine aa ?_;refine ai (k1 F G f g j9 B H) ?_;rintro _ O ⟨P,S,T,V,rfl⟩;have a04:=U.aI (P _ _ (W _ _ (U.ag c k (.cells (ab az .nil .nil .nil)))));refine aa ?_;have n:=U.ar L (U.ar W P);have aH:=P _ _ (W _ _ (U.ag c k (.cells (ab az .nil .nil .nil))));refine aN λn2 k5=> ?_;have n3:k≠n2:=by rintro rfl;rw[aH]at k5;cases k5
  have a05:=n3.symm;have v:=v S T V;have k4:=k4 S T V;refine aa ?_;grind
theorem a3v (Q:e<=8) (c:a6.T 0) (D:R) (d:U) (l:bw d 0 c D) (m:eZ e 0 c):
  AC Tryz.prog 115 [D] d λx h=>d.sub h/\ ∃E F y n,x=gN (dy 0 c) (.J E y) (.J F n)/\aA dd (dy 0 c).rows E/\aA bu (dy 0 c).kids F:=by
 obtain⟨b,rfl⟩:=a6.hV c;obtain⟨X,q,Y,Z,rfl,G,p⟩:=l;have p:aA isRow b q:=p;obtain⟨s,t,_⟩:=m.wf;rw[a6.hX]at s t;have j9:=p.len;have k0:=U.af G;refine aM hm Bn ?_;refine bo λz u=> ?_;refine cV λL v w k1=> ?_;have P:=U.ag d z (.cells [.v (.int .u8 0),.J [] .nil,.J [] .nil]);have S:=U.ae (Y:= .cells [.v (.int .u8 0),.J [] .nil,.J [] .nil]) (U.a1) u;have C:(d.set z (.cells [.v (.int .u8 0),.J [] .nil,.J [] .nil])) L=none:=by rw[U.ao _ _ w];exact v
 generalize d.set z _=A at*;have B:=S _ _ G;refine ch [0,2,3] (λa:Nat=> [(4,.v (.int .i64 (a)))]) (λa h=>a<=b.length/\ ∃al r,h L=some (.cells [.v (.int .u8 2),.J al r,.J [] .nil])/\bh A h 2 al r/\aA dd ((b.take a).map λx=>(x,true)) al) (λa=>b.length - a) 0 ⟨⟨a5C _,[],.nil,U.ag _ _ _,bh.nil (U.ae (U.ae U.a1 C) C),trivial⟩,aR⟩ ?_;rintro a H ⟨k2,al,r,T,k,o⟩ I;have k3:=U.af (k.sub _ _ B);have k4:=U.af T;have V:=o.len;rw[a5f,a4W]at V;refine aa ?_;refine aG (λW=> ?_) λW=> ?_
 .have f:a<b.length:=a9w;have K:b[a]? =some (b.getD a []):=by simp_all
  obtain⟨_,k5,y,rfl⟩:=p.get K;have M:=eS (a:=b) (b:= []) f;generalize b.getD a []=k6 at*;refine aa ?_;refine db U.a1 (by simp[aS,R.cells]) λk7 k8 g=> ?_;refine aa ?_;refine sf (k.mono g.sub) (o.cells λ_ _=>dd.cells) (by simp[aS,R.cells]) a9y a9y λk9 l0 N O=> ?_;have i:=O _ _ (g.sub _ _ T);have aE:=U.aI i;refine aa ?_;refine⟨a+1,⟨f,_,_,rfl,pT N C i,?_⟩,rfl,a9w⟩;rw[M,a5V];exact o.snoc ⟨y,rfl⟩
 .obtain rfl:a=b.length:=a9w;rw[a5n]at o;have l1:=U.ar S k.sub;have j:=U.aI (k.sub _ _ P);clear W V j;refine ch [0,2,3] (λ_:Unit=> [(5,.v (.int .i64 0))]) (λ_ h=>h=H) (λ_=>0) () ⟨rfl,aR⟩ ?_;rintro _ _ rfl I;have j:=U.aI (k.sub _ _ P);refine aa ?_;exact⟨al,[],r,.nil,rfl,o,trivial⟩
def jh.le (d:e<=8) (b:jh e i A) (c:i<=1048576):A.gq/\A.sum.length=32/\A.cz:=by have a:=b.kH c;have h:=a.ob;have k:=a.oc;have o:=a.od;exact⟨⟨a9w,a9w,a9w,a.ng,a.live,a.nh,a.size⟩,b.sum,⟨a9w,a9w,a9w⟩⟩
def a3w (I:1<=i) (j:i<=8) (c:a6.T (e+1)) (r:R) (b:U) (K:bw b (e+1) c r) (F:eZ i (e+1) c)
  (ih: ∀(c:a6.T e) (r:R) (b:U),bw b e c r->eZ i e c->AC Tryz.prog 61 [r] b λG d=>b.sub d/\ ∃M l N,G= .agg (ab (c4 e c) M l N)):
  AC Tryz.prog 115 [r] b λG d=>b.sub d/\ ∃m z O Q,G=gN (dy (e+1) c) (.J m O) (.J z Q)/\aA dd (dy (e+1) c).rows m/\aA bu (dy (e+1) c).kids z:=by
 obtain⟨h,rfl⟩:=a6.gr c;obtain⟨X,z,l6,l,rfl,n,C,l7,_⟩:=K;have C:aA (bw b e) h z:=C;have Y:=F.hf;obtain⟨Z,j9,_⟩:=F.wf;rw[a6.dE]at Z j9;have l8:=F.dB;have l9:=C.len;have n0:=U.af n;refine aM hm Bn ?_;refine bo λL k0=> ?_;refine cV λk k1 k2 n1=> ?_;have k3:=U.ag b L (.cells [.v (.int .u8 0),.J [] .nil,.J [] .nil]);have P:=U.ae (Y:= .cells [.v (.int .u8 0),.J [] .nil,.J [] .nil]) (U.a1) k0;have o:(b.set L (.cells [.v (.int .u8 0),.J [] .nil,.J [] .nil])) k=none:=by rw[U.ao _ _ k2];exact k1
 generalize b.set L _=q at*;have D:=P _ _ n;have n2:X≠k:=by rintro rfl;rw[D]at o;cases o
 refine ch [0,2,3] (λ_:Unit=> [(4,.v (.int .i64 0))]) (λ_ d=>d=(q.set k (.cells [.v (.int .u8 0),.J [] .nil,.J [] .nil])).set k (.cells [.v (.int .u8 2),.J [] .nil,.J [] .nil])) (λ_=>0) () ⟨rfl,aR⟩ ?_;rintro _ _ rfl k4;have n3:=U.af D;refine aa ?_;refine ch [0,2,3] (λa:Nat=> [(5,.v (.int .i64 (a)))]) (λa d=>a<=h.length/\ ∃al p,d k=some (.cells [.v (.int .u8 (if a=0 then 2 else 3)),.J [] .nil,.J al p])/\bh q d 37 al p/\aA bu ((h.take a).map (c4 e)) al) (λa=>h.length - a) 0 ⟨⟨a5C _,[],.nil,U.ag _ _ _,bh.nil (U.ae (U.ae U.a1 o) o),trivial⟩,aR⟩ ?_;rintro a s ⟨n4,al,p,E,x,y⟩ k4;have n5:=U.af (x.sub _ _ D);have k5:=U.af E;have k6:=U.aI E;have k7:=y.len;rw[a5f,a4W]at k7;refine aa ?_;refine aG (λk8=> ?_) λk8=> ?_
 .have S:a<h.length:=a9w;have t:=a4T S;obtain⟨n9,a00,u⟩:=C.get t;obtain⟨T,_⟩:=Y _ (a5a t);have k9:=T.dB;have l0:=a6f S;have V:=(uE I j T).le j k9;generalize h[a]=W at*;obtain⟨aO,a01,a02,rfl,_⟩:=bw.ptr u;refine aa ?_;have f:=pT (Y:= .cells [.v (.int .u8 3),.J [] .nil,.J al p]) x o E;have l1:=U.ag s k (.cells [.v (.int .u8 3),.J [] .nil,.J al p]);clear x E k5 k6;generalize s.set k _=l2 at*;refine ai (ih W _ l2 (u.mono (U.ar P f.sub)) T) ?_;rintro _ a03 ⟨g,cd,ca,de,rfl⟩;have v:=g _ _ l1;have a04:=U.af v;have a05:=U.af (g _ _ (f.sub _ _ D));have l3:=(il (c4 e W) cd ca de V.2.1).1;have w:aS 37 [R.agg (ab (c4 e W) cd ca de)]:=λa06 A=>by rw[a5p]at A;subst A;exact l3
  refine aa ?_;refine db U.a1 w λa07 a08 B=> ?_;refine aa ?_;refine sf ((f.mono g).mono B.sub) (y.cells λ_ _=>bu.cells) w a9y a9y λa09 a10 l4 l5=> ?_;have H:=l5 _ _ (B.sub _ _ v);have aE:=U.aI H;refine aa ?_;refine⟨a+1,⟨S,_,_,rfl,pT l4 o H,?_⟩,rfl,a9w⟩;rw[l0,a5V];exact y.snoc ⟨V.2.1,V.2.2,cd,ca,de,rfl⟩
 .obtain rfl:a=h.length:=a9w;rw[a5n]at y;have a11: ¬h.length=0:=a9w;have a13:=U.aI (x.sub _ _ k3);refine aa ?_;exact⟨U.ar P x.sub,[],al,.nil,p,rfl,trivial,y⟩
theorem GH (B:1<=i) (H:i<=8) (a:a6.T e) (D:R) (b:U) (I:bw b e a D) (E:eZ i e a)
  (K: ∀x,b.sub x->AC Tryz.prog 115 [D] x λy G=>x.sub G/\ ∃p r z C,y=gN (dy e a) (.J p z) (.J r C)/\aA dd (dy e a).rows p/\aA bu (dy e a).kids r):
  AC Tryz.prog 61 [D] b λy x=>b.sub x/\ ∃h k o,y= .agg (ab (c4 e a) h k o):=by
 have L:=(ns B H e a E).1;obtain⟨P,M,F⟩:=lh L.y5.ok;have l:=L.kH;have k2:=E.dB;have k3:=l.size;have m:=λp r z C b S T=>Gx (dy e a) p r z C b S T M F (λN O=>by have:=P N O;omega) (λQ X=>by
  have c:=L.y5.kids Q X;have D:=c.ob;have Y:=c.oc;have k4:=c.od;exact⟨⟨a9w,a9w,a9w,c.ng,c.live,c.nh,c.size⟩,c.sum,⟨a9w,a9w,a9w⟩⟩) (by show(eU (dy e a)).size<= _;omega) (λd=>by
  match e,a,d with
  |0,a,_=>obtain⟨n,rfl⟩:=a6.hV a;have:=E.wf.1;rw[a6.hX]at this;intro Z;have j9:(dy 0 (a6.leaf n)).rows=n.map λy=>(y,true):=rfl;simp_all
  |e+1,a,d=>exact absurd d zH) (λd=>by
  match e,a,d with
  |0,a,d=>rw[Eu]at d;cases d
  |e+1,a,_=>obtain⟨q,rfl⟩:=a6.gr a;have:=E.wf.1;rw[a6.dE]at this;intro Z;have j9:(dy (e+1) (a6.node q)).kids=q.map (c4 e):=rfl;simp_all)
 have V:=l.sum;rw[<-sL]at V m;obtain⟨Y,k5,k6,rfl,k7⟩:=bw.ptr I;generalize c4 e a=W at*;have s:=λh k o=>il W h k o V;have t: ∀h k o,putAt (ab az .nil .nil .nil) 0 (ab W h k o)=ab W h k o:=λh k o=>cC bj V;have k8:=il az .nil .nil .nil bj;refine aM hm Bh ?_;refine bo λf P=> ?_;rw[cn];have u:=U.ae (Y:= .cells (ab az .nil .nil .nil)) (U.a1) P;refine ai (K _ u) ?_;rintro _ G ⟨g,p,r,z,C,rfl,S,T⟩;refine aa ?_;refine ai (m p r z C G S T) ?_;rintro _ k9 ⟨j,v,w,A,rfl⟩;have l0:=U.aI (j _ _ (g _ _ (U.ag b f (.cells (ab az .nil .nil .nil)))));refine aa ?_;have l1:=U.ar u (U.ar g j);have aH:=j _ _ (g _ _ (U.ag b f (.cells (ab az .nil .nil .nil))));refine aN λk0 F=> ?_;have k1:f≠k0:=by rintro rfl;rw[aH]at F;cases F
 have l2:=k1.symm;have t:=t v w A;have s:=s v w A;refine aa ?_;grind
def GI {x:Nat} (r:1<=x) (h:x<=8): ∀(d:Nat) (a:a6.T d) (b:R) (c:U),bw c d a b->eZ x d a->AC Tryz.prog 61 [b] c λz k=>c.sub k/\ ∃C D E,z= .agg (ab (c4 d a) C D E)
 |0,a,b,c,o,p=>GH r h a b c o p λk y=>a3v h a b k (o.mono y) p
 |d+1,a,b,c,o,p=>GH r h a b c o p λk y=>a3w r h a b k (o.mono y) p λa b c=>GI r h d a b c
def a3x (h:1<=e) (k:e<=8) (a:eE) (b:R) (c:U) (d:fN c a b) (o:iK e a):AC Tryz.prog 61 [b] c λp r=>c.sub r/\ ∃x y z,p= .agg (ab (iP a) x y z):=by
 match a with
 |none=>obtain rfl:b= .v (.pointer none):=d;have fc:=il az .nil .nil .nil bj;have D:putAt (ab az .nil .nil .nil) 0 (ab az .nil .nil .nil)=ab az .nil .nil .nil:=cC bj bj;refine aM hm Bh ?_;refine bo λE F=> ?_;rw[cn];exact⟨.nil,.nil,.nil,by rw[(aW bj).t37];rfl⟩
 |some ⟨C,a⟩=>exact GI h k C a b c d (GT.jV o)
def mx (a:List cN):List R:=a.map cN.V
def GJ {a:List cN}:(mx a).length=a.length:=by simp[mx]
def GK {a:List cN}{b:cN} (c:a[e]? =some b):ey 4 (mx a)[e]? =some (.bV b.C):=by obtain⟨d,rfl⟩:=a5b.1 c;rw[show(mx a)[e]? =some (a[e]).V by simp[mx,d]];rfl
structure im (a:ah) (l:List aL) (cJ:List aT):Prop where
 eq:l=cJ.map aT.bx
 ins: ∀t∈cJ,dY a t.bM/\mw a t.cq
theorem GL {b c:ah->Except Int ay×ah} (r: ∀a:ah,a.le (b a).2) (x: ∀a:ah,a.le (c a).2) (a:ah) (y:List aL) (z:aL):a.le (fD b c a y z).2.2:=by
 unfold fD;have d:=r a;generalize b a=h at*;obtain⟨k,o⟩:=h;cases k with
 |error C=>exact d
 |ok D=>
  have p:=x o
  dsimp only
  generalize c o=h at*;obtain⟨k,E⟩:=h;cases k with
  |error C=>exact d.trans p
  |ok F=>exact d.trans p
variable{H:ah}
def GM (F:df e X) (G:e<=1000) {a:aT} (L:eQ i j7) (P:i<=1000) (y:j7.name=a.name) (S:j7.aD=a.aD) (T:bX X a.name<X.length) {c b:ah->Except Int ay×ah}
  (r:gb H j7.bM (c H)) (h: ∀d:ah,H.le d->d.one=false->pR d j7.cq (b d)) (V: ∀d:ah,d.le (b d).2) (k:(fD c b H (X.map aT.bx) a.bx).2.2.one=false):
  (fD c b H (X.map aT.bx) a.bx).1=0/\(fD c b H (X.map aT.bx) a.bx).2.1=(X.set (bX X a.name) j7).map aT.bx/\H.le (fD c b H (X.map aT.bx) a.bx).2.2/\dY (fD c b H (X.map aT.bx) a.bx).2.2 j7.bM/\mw (fD c b H (X.map aT.bx) a.bx).2.2 j7.cq:=by
 unfold fD at k|-;generalize c H=o at*;obtain⟨x,p⟩:=o;cases x with
 |error W=>cases (r.ins k).1
 |ok f=>
  dsimp only at k|-
  have C:=V p;have D:p.one=false:=by
   revert k;generalize b p=o at*;obtain⟨x,g⟩:=o;cases x with
   |error W=>exact λz=>C.zero z
   |ok f=>exact λz=>C.zero z
  obtain⟨j,l⟩:=r.ins D;obtain rfl:=Except.ok.inj j;have h:=h p r.le D;generalize b p=o at*;obtain⟨x,g⟩:=o;obtain rfl:=h.ok
  dsimp only at k|-
  have E:=pg F G L P (by rw[y];exact T);have m:j7.bx=⟨a.bx.name,a.bx.aD,bp j7.bM,iP j7.cq⟩:=by show(⟨j7.name,j7.aD,bp j7.bM,iP j7.cq⟩:aL)=⟨a.name,a.aD,bp j7.bM,iP j7.cq⟩;rw[y,S]
  rw[m,y]at E;rw[E];exact⟨rfl,rfl,r.le.trans h.le,l.mono h.le,h.ins k⟩
def a3y (a:ah) (b:ay):a.le (nD e q a b).2:=zc _ _ _ _
variable{j3:Int × List aL × ah}{e1:List aL}
theorem a3z (a:lB H e1 c0 j3):H.le j3.2.2:=by
 unfold lB at a;split at a
 .rw[a];exact ah.le_refl
 split at a
 .rcases a with ⟨_,rfl⟩|⟨rows,_,_,⟨_,rfl⟩|⟨_,rfl⟩⟩
  .exact ah.le_refl
  .exact GL (λH=>a3y _ _) (λH=>EC) _ _ _
  .exact ah.le_refl
 .rw[a];exact ah.le_refl
theorem a3A:H.le (js H e1 c0).2.2:=by grind[js,ah.le_refl,GL,a1J,EF]
theorem a3B (a:eG H e1 c0 j3):H.le j3.2.2:=by grind[eG,ah.le_refl,a3z,a3A]
theorem zY {b:Except Int (List aL)} (c:cw e1=true) (d: ∀a,b= .ok a->cw a=true):cw (iO b e1).2=true:=by
 cases b with
 |error h=>exact c
 |ok a=>exact d a rfl
variable{e7:aL}
theorem GN {a b:ah->Except Int ay×ah} (c:cw e1=true):cw (fD a b H e1 e7).2.1=true:=by grind[fD,zY,Gb]
theorem a3C (b:cw e1=true) (a:eG H e1 c0 j3):cw j3.2.1=true:=by
 unfold eG at a;split at a
 .rw[a];exact b
 split at a
 .rw[a];exact zY b λc a=>Ge a
 split at a
 .rw[a];exact zY b λc a=>Ga b a
 split at a
 .unfold lB at a;split at a
  .rw[a];exact b
  split at a
  .rcases a with ⟨_,rfl⟩|⟨rows,_,_,⟨_,rfl⟩|⟨_,rfl⟩⟩
   .exact b
   .exact GN b
   .exact b
  .rw[a];exact b
 grind[js,GN]
def vw (c:cw e1=true): ∀a∈e1,a.Fit:=λa d=>by
 have b:=(kO c).1 a d;exact⟨by have:=b.n;omega,by have:=b.c;omega,λh k=>by have:=b.cs h k;omega⟩
theorem ti (a:eG H e1 c0 j3) (r:df e X) (I:e<900) (o:dj c0.row) (t:im H e1 X) (P:j3.2.2.one=false):
  j3.1=(fr X c0).1/\im j3.2.2 j3.2.1 (fr X c0).2:=by
 obtain⟨rfl,x⟩:=t;have t:im H (X.map aT.bx) X:=⟨rfl,x⟩;unfold eG at a;unfold fr;by_cases K:eu c0=false;simp_all;rw[if_neg K]at a|-;have W:eu c0=true:=by simp_all
 by_cases y:c0.kind=1
 .rw[if_pos y]at a|-;have M:=zP W y;rw[add_eq r a9w M]at a;by_cases c2:bX X c0.table<X.length
  .rw[if_pos c2]at a|-;rw[a];trivial
  rw[if_neg c2]at a|-;by_cases aH:7<X.length
  .rw[if_pos aH]at a|-;rw[a];trivial
  rw[if_neg aH]at a|-;rw[a];refine⟨rfl,rfl,λb c=> ?_⟩;simp only[a5j,a5q]at c;rcases c with c|rfl|c;grind
  .trivial
  grind
 rw[if_neg y]at a|-;by_cases aH:c0.kind=2
 .rw[if_pos aH]at a;rw[zQ r a9w]at a;by_cases c2:bX X c0.table<X.length
  .rw[if_pos c2]at a;rw[if_neg a9w,if_pos aH,a];exact⟨rfl,rfl,λb c=>x b (a7Y c)⟩
  .rw[if_neg c2]at a;rw[if_pos a9w,a];trivial
 rw[if_neg aH]at a;by_cases c2:X.length<=bX X c0.table
 .rw[if_pos c2];have f:(X.map aT.bx).find? (λb=>decide (b.name=c0.table))=none:=by rw[pS,a7E c2];rfl
  rcases vv W y aH with h|h
  .rw[if_pos h]at a;unfold lB at a;simp_all
  .rw[if_neg (by rw[h];decide)]at a;unfold js mv at a;simp_all
 rw[if_neg c2,if_neg aH];have z:bX X c0.table<X.length:=a9w;have u:=vu z;have c:=r.ok _ u;have S:=th z;have f:(X.map aT.bx).find? (λb=>decide (b.name=c0.table))=some (X.getD (bX X c0.table) default).bx:=by rw[pS,a5M,a4T z];rfl
 generalize X.getD (bX X c0.table) default=b at*;have k4:=c.c;obtain⟨C,w⟩:=x b u;have k5:=c.dz.cm;have T: ∀V:aT,dY j3.2.2 V.bM/\mw j3.2.2 V.cq->H.le j3.2.2-> ∀v∈X.set (bX X c0.table) V,dY j3.2.2 v.bM/\mw j3.2.2 v.cq:=λV D p v N=>by
  rcases a7c N with d|rfl
  .exact⟨(x v d).1.mono p,(x v d).2.mono p⟩
  .exact D
 rcases vv W y aH with h|h
 .rw[if_pos h]at a;rw[if_neg (show¬c0.kind=4 by rw[h];decide)];unfold lB at a;rw[f]at a
  dsimp only at a
  by_cases aJ:c0.row.length=b.aD.length+1
  .rw[if_neg (show¬c0.row.length≠b.aD.length+1 from λd=>d aJ)];rw[if_pos (show c0.row.length=b.bx.aD.length+1 from aJ)]at a;have g:bL (b.aD.length+1) c0.row:=⟨aJ,o⟩;rcases a with ⟨E,_⟩|⟨rows,O,_,a⟩
   .exact absurd E (zB (e:=b.aD.length+1) a9w a9w c.dz.fh a9w C)
   have Q:=zD a9w a9w c.dz.fh a9w C O;have Y:rows= []↔ ¬b.rows.any (λF=>decide (bP F=bP c0.row))=true:=by
    rw[Q,a7J];constructor
    .rintro d ⟨F,o,k⟩;exact d F (c.fX.mem_iff.2 o) ((zE a9w (c.row o)).2 (of_decide_eq_true k))
    .intro d Z j9 G;have A:=c.fX.mem_iff.1 j9;exact d ⟨Z,A,decide_eq_true ((zE a9w (c.row A)).1 G)⟩
   rcases a with ⟨k,a⟩|⟨k,a⟩
   .have B:=Y.1 k;rw[if_neg B];obtain⟨D,i,j⟩:=c.put I g λF o k=>B (a7J.2 ⟨F,o,decide_eq_true k⟩);have E:=a1K a9w a9w g c.dz.fh a9w C i;rw[a]at P T|-;have G:=GM (a:=b) r a9w D a9w rfl rfl (by rw[S];exact z) (c:=λH=>nD (b.aD.length+1) c0.row H (bp b.bM)) E (λl p k0=>a2G a9w a9w g c.go (w.mono p) j) (λl=>EC) P;obtain⟨m,L,n,q,s⟩:=G;rw[S]at L;exact⟨m,L,T _ ⟨q,s⟩ n⟩
   grind
  .rw[if_neg (show¬c0.row.length=b.bx.aD.length+1 from aJ)]at a;grind
 .rw[if_neg (by rw[h];decide)]at a;rw[if_pos h];unfold js mv at a;rw[f]at a
  dsimp only at a
  by_cases aJ:c0.row.length=b.aD.length+1
  .rw[if_neg (show¬c0.row.length≠b.aD.length+1 from λd=>d aJ)];rw[if_pos (show c0.row.length=b.bx.aD.length+1 from aJ)]at a
   dsimp only at a
   rw[if_pos rfl]at a;by_cases bs:c0.row∈b.rows
   .rw[if_pos bs];obtain⟨D,i,j⟩:=c.del bs;have E:=a1L a9w a9w c.dz.fh a9w C i;rw[a]at P T|-;have G:=GM (a:=b) r a9w D a9w rfl rfl (by rw[S];exact z) (c:=λH=>iN (b.aD.length+1) c0.row H (bp b.bM)) E (λl p k0=>a2L a9w a9w (c.row bs) c.go (w.mono p) j) (λl=>EF) P;obtain⟨m,L,n,q,s⟩:=G;rw[S]at L;exact⟨m,L,T _ ⟨q,s⟩ n⟩
   .rw[if_neg bs];have k1:=FI a9w a9w c.dz.fh a9w C (c.none aJ bs);have k2:j3=(9,X.map aT.bx,H):=by
     rw[a];unfold fD;show(match iN (b.aD.length+1) c0.row H (bp b.bM)with
      |(.error k,k3)=> _
      |(.ok k6,k3)=> _)= _
     rw[k1]
    rw[k2];trivial
  .rw[if_neg (show¬c0.row.length=b.bx.aD.length+1 from aJ)]at a;simp_all
inductive vx:ah->List aL->List cB->Int×List aL×ah->Prop
 |nil (a:ah) (l:List aL):vx a l [] (0,l,a)
 |stop {a:ah}{l:List aL}{d:cB}{cJ:List cB}{res:Int×List aL×ah}:eG a l d res->res.1≠0->vx a l (d::cJ) res
 |step {a:ah}{l:List aL}{d:cB}{cJ:List cB}{res b:Int×List aL×ah}:eG a l d res->res.1=0->vx res.2.2 res.2.1 cJ b->vx a l (d::cJ) b
theorem zZ (z:U) (i j:Nat) (c:List aT) (r:hn z i c) (l:df j c) (l2:j<=1000):
  AC Tryz.prog 25 [.ptr i 0] z λI D=>z.sub D/\ ∃x m,I= .J x m/\aA dw (c.map aT.bx) x:=by
 obtain⟨l3,m,E,n⟩:=r;have l4:=n.len;have l5:=l.dB;refine aM hm Ka ?_;refine ch [0] (λb:Nat×List R×Own=> [(3,.J b.2.1 b.2.2),(4,.v (.int .i64 (b.1)))]) (λb D=>b.1<=c.length/\bh z D 76 b.2.1 b.2.2/\aA dw ((c.take b.1).map aT.bx) b.2.1) (λb=>c.length - b.1) (0,[],.nil) ⟨⟨a5C _,bh.nil U.a1,trivial⟩,aR⟩ ?_;rintro⟨k,x,K⟩ M ⟨N,d,o⟩ l6
 dsimp only at N d o|-
 have q:=U.af (d.sub _ _ E);have O:=o.len;rw[a5f,a4W]at O;refine aa ?_;refine aG (λQ=> ?_) λQ=> ?_
 .have X:k<c.length:=a9w;have s:c[k]? =some (c.getD k default):=by simp_all
  obtain⟨_,l7,l8,y,l9,n0,Y,Z,rfl,F,n1,t,u⟩:=n.get s;have h:=l.ok _ (a5a s);have j9:=eS (b:=default) X;generalize c.getD k default=a at*;have n2:=h.c;have n3:=h.dz.cm;have G:=(fg a9w a9w h.dz.fh a9w).le a9w a9w;have L:(iP a.cq).sum.length=32/\(iP a.cq).cz:=by
   rcases zJ a9w a9w h.go with ⟨_,C⟩|⟨_,C⟩
   .rw[C];exact⟨bj,mf⟩
   .have n4:=h.nJ.length_eq;have n5:=h.dB;have:=C.le a9w a9w;simp_all
  have v:=U.af (d.sub _ _ F);have n9:=t.cells;have fc:=u.cells;refine aa ?_;refine ai (zX a9w a9w a.bM Y M (t.mono d.sub) h.dz.fh a9w) ?_;rintro _ k0 ⟨p,P,S,V,rfl⟩;have q:=U.af (p _ _ (d.sub _ _ E));have v:=U.af (p _ _ (d.sub _ _ F));refine aa ?_;refine ai (a3x a9w a9w a.cq Z k0 (u.fW (U.qA (U.ar d.sub p))) h.go) ?_;rintro _ a00 ⟨W,cd,ca,de,rfl⟩;have q:=U.af (W _ _ (p _ _ (d.sub _ _ E)));have v:=U.af (W _ _ (p _ _ (d.sub _ _ F)));have k1:a.aD.length<=1000000:=a9w;have e:en ⟨a.name,a.aD,az,az⟩ (bb a.name:: .J (bE a.aD) y::(ab az .nil .nil .nil++ab az .nil .nil .nil)):=⟨⟨y,_,_,_,_,_,_,rfl⟩,⟨bj,mf⟩,⟨bj,mf⟩,k1⟩;have f:=e.FZ (M:=P) (e6:=S) (h4:=V) G.2.1 G.2.2;have w:=f.G0 (M:=cd) (e6:=ca) (h4:=de) L.1 L.2;have a01:putAt eP 0 [bb a.name]=bb a.name:: .J [] .nil::(ab az .nil .nil .nil++ab az .nil .nil .nil):=rfl;have a02:putAt (bb a.name:: .J [] .nil::(ab az .nil .nil .nil++ab az .nil .nil .nil)) 1 [.J (bE a.aD) y]=bb a.name:: .J (bE a.aD) y::(ab az .nil .nil .nil++ab az .nil .nil .nil):=rfl;have a03:=gd.all.1;have a04:(bb a.name:: .J [] .nil::(ab az .nil .nil .nil++ab az .nil .nil .nil)).length=76:=by omega
  have a05:=e.all.1;have a06:=f.all.1;have k2:=w.all.1;have a07:=(aW (M:=P) (e6:=S) (h4:=V) G.2.1).len;have a08:=(aW (M:=cd) (e6:=ca) (h4:=de) L.1).len;have A:=jq;generalize eP=a09 at*;generalize bb a.name:: .J [] .nil::(ab az .nil .nil .nil++ab az .nil .nil .nil)=a10 at*;generalize bb a.name:: .J (bE a.aD) y::(ab az .nil .nil .nil++ab az .nil .nil .nil)=k3 at*;generalize k4:ab (bp a.bM) P S V=k5 at*;generalize k6:ab (iP a.cq) cd ca de=k7 at*;generalize a11:putAt k3 2 k5=k8 at*;generalize a13:putAt k8 39 k7=g at*;clear k4 k6 e f;rw[A];clear A;refine aa ?_;have B:aS 76 [R.agg g]:=λC H=>by rw[a5p]at H;subst H;exact k2
  refine db U.a1 B λa14 a15 k9=> ?_;refine aa ?_;refine ea (((d.mono p).mono W).mono k9.sub) (o.cells λb a16 r=>by obtain⟨T,rfl,r⟩:=r;exact r.all.1) B a9y a9y λl0 a18 l1=> ?_;refine aa ?_;refine⟨(k+1,x++ [.agg g],l0),⟨by simp only;omega,l1,?_⟩,⟨rfl,rfl⟩,by simp only;omega⟩;simp only[j9,a5V];exact o.snoc ⟨g,rfl,w⟩
 .obtain rfl:k=c.length:=a9w;rw[a5n]at o;exact⟨d.sub,x,K,rfl,o⟩
def A0 (p:df e X) (r:e<=1000): ∀o∈X.map aT.bx,o.In:=λo x=>by
 obtain⟨h,y,rfl⟩:=a5o.1 x;have c:=p.ok h y;have C:=c.c;have D:=c.dz.cm;have a:=(fg a9w a9w c.dz.fh a9w).kH a9w;refine⟨FU (c.bx r),?_,?_⟩
 .show(bp h.bM).In 8;have:=a.ob;have:=a.oc;have:=a.od;exact⟨a.sum,a.aU,a.aV,a.key,a9w,a9w,a9w,a.ng,a.live,a.nh,a.size⟩
 .show(iP h.cq).In 8;rcases zJ a9w a9w c.go with ⟨_,k⟩|⟨_,k⟩
  .rw[k];have d:dj []:=λE z=>(by cases z);exact⟨bj,d,d,d,a5C _,a5C _,a5C _,a9A,a9A,a9A,a9A⟩
  .have d:=c.nJ.length_eq;have F:=c.dB;have b:=k.kH a9w;have:=b.ob;have:=b.oc;have:=b.od;exact⟨b.sum,b.aU,b.aV,b.key,a9w,a9w,a9w,b.ng,b.live,b.nh,b.size⟩
def GO (a:U) (h o p:Nat) (r:ah) (b:List aL) (x:cR a h o p r b) (c:cw b=true):
  AC Tryz.prog 32 [.ptr h 0] a λy z=>a.sub z/\ ∃d,y= .J ((fC b).map ak) d:=by
 obtain⟨C,d,D,E⟩:=x.x;have F:=U.af D;have G:=(kO c).2;have k:=zs b C d E (vw c) a9w a;simp only[c,if_true]at k;refine aM hm Ko ?_;refine ai k ?_;rintro _ L ⟨P,S,rfl⟩;refine aa ?_;simp
def a3D (b:U) (c d h:Nat) (k:ah) (a:List aL) (x:cR b c d h k a) (y:cw a=true) (z:(fC a).length<=1000000000):
  AC Tryz.prog 30 [.ptr c 0] b λC D=>b.sub D/\C=cv (pO (fC a)):=by
 refine aM hm Kk ?_;refine bo λo E=> ?_;have p:=U.ae (Y:= .cells (List.replicate 32 (.v (.int .u8 0)))) (U.a1) E;have F:=U.ag b o (.cells (List.replicate 32 (.v (.int .u8 0))));generalize b.set o _=G at*;refine ai (GO G c d h k a (x.sub p) y) ?_;rintro _ L ⟨r,P,rfl⟩;refine aa ?_;have S:=td (w:=pO (fC a)) (mc _) (.v (.int .u8 0));have T:=U.aI (r _ _ F);have V:=U.ar p r;refine bc (a1R (fC a) P L z) ?_;trivial
def a3E (b:U) (c d:Nat) (a:List aT) (h:hn b c a) (k:df d a) (o:d<=1000):
  AC Tryz.prog 31 [.ptr c 0] b λD p=>b.sub p/\D=cv (pO (fC (a.map aT.bx))):=by
 have E:=λp h=>zZ p c d a h k o;have F:=k.cat o;have r:=kO F;have g:=zt (A0 k o);have i:(fC (a.map aT.bx)).length<=9000:=by have:=r.2;rw[fC,a4Y];omega
 have j:=td (w:=pO (fC (a.map aT.bx))) (mc _) (.v (.int .u8 0));refine aM hm Km ?_;refine bo λy G=> ?_;have z:=U.ae (Y:= .cells (List.replicate 32 (.v (.int .u8 0)))) (U.a1) G;have L:=U.ag b y (.cells (List.replicate 32 (.v (.int .u8 0))));generalize b.set y _=P at*;refine ai (E P (h.sub z)) ?_;rintro _ S ⟨C,T,V,rfl,W⟩;refine aa ?_;refine eo (F4 (a.map aT.bx) T V S W r.2 r.1) λe f x=> ?_;have l:=U.aI (x.sub _ _ (C _ _ L));have m:=U.ar z (U.ar C x.sub);refine bc (a1O _ e f (kd.an x) a9w) ?_;trivial
def vy (d h:U):Prop:= ∀b a c,d b=some (.cells (a::c))->((∃k o,a= .J k o)\/ ∃p,a=bb p)->h b=some (.cells (a::c))
def dP.oN {b c:U} (a:vy b c): ∀ {d:aC}{h:R},dP b d h->dP c d h
 | .nil,_,k=>k
 | .node _ _ _ _,_,⟨o,p,r,x,h1,y,z,C⟩=>⟨o,p,r,x,h1,a _ _ _ y (.inl ⟨_,_,rfl⟩),z.oN a,C.oN a⟩
def hl.oN {b c:U} (a:vy b c) {d:aT}{h:R} (o:hl b d h):hl c d h:=by obtain⟨p,r,x,y,k,z,C,D,E,F,G⟩:=o;exact⟨p,r,x,y,k,z,C,a _ _ _ D (.inr ⟨_,rfl⟩),E,F.oN a,G.Gr λP S T k V L=>a _ _ _ L (.inl ⟨_,_,rfl⟩)⟩
def hn.oN {b c:U} (d:vy b c) {h:Nat}{k:List aT} (a:hn b h k):hn c h k:=by obtain⟨o,p,r,x⟩:=a;exact⟨o,p,d _ _ _ r (.inl ⟨_,_,rfl⟩),x.mono λy z a=>a.oN d⟩
theorem cD.rs (c:cR f e i v H e1) (h:cD e i v f t):vy f t:=λk r x a d=>by
 obtain⟨y,z,o,_⟩:=c.x;obtain⟨C,D,p⟩:=c.hb.at_;obtain⟨E,⟨F,G,L,_⟩,_⟩:=c.hb.mp;refine h k _ ?_ ?_ ?_ a
 .rintro rfl;rw[o]at a;obtain⟨rfl,_⟩:=a8z (br.cells.inj (a4S a));rcases d with ⟨_,_,b⟩|⟨_,b⟩<;>cases b
 .rintro rfl;rw[p]at a;obtain⟨rfl,_⟩:=a8z (br.cells.inj (a4S a));rcases d with ⟨_,_,b⟩|⟨_,b⟩<;>cases b
 grind
def cR.a3F (a:cR f i v O H e1) (o:hn f e X) (d:eH e f t):cR t i v O H e1:=by
 obtain⟨p,r,h,x⟩:=a.x;obtain⟨D,E,b⟩:=a.hb.at_;obtain⟨F,⟨G,L,c,P⟩,S⟩:=a.hb.mp;obtain⟨T,V,k,_⟩:=o;have y:i≠e:=by rintro rfl;rw[k]at h;cases h
 have z:v≠e:=by rintro rfl;rw[k]at b;cases b
 have C:O≠e:=by rintro rfl;rw[k]at c;cases c
 exact⟨a.hb.other (by rw[b];exact d _ _ z b) (by rw[c];exact d _ _ C c),⟨p,r,d _ _ y h,x⟩,a.nH,a.nI⟩
structure nK (b:U) (c gA d W:Nat) (a:ah) (l:List aL) (cJ:List aT) (n:Nat):Prop where
 st:cR b c gA d a l
 cat:cw l=true
 rs:hn b W cJ
 inv:df n cJ
 rep:a.one=false->im a l cJ
def nK.sub {b c:U}{d h k o p:Nat}{r:ah}{x:List aL}{y:List aT} (a:nK b d h k o r x y p) (z:b.sub c):nK c d h k o r x y p:=⟨a.st.sub z,a.cat,a.rs.sub z,a.inv,a.rep⟩
def nK.step {L y z:U}{h k o p C:Nat}{D:ah}{P:List aL}{r:List aT} (a:nK L h k o p D P r C) (E:C<900) {c:cB} (F:dj c.row) {b:Int×List aL×ah} (x:eG D P c b)
  (S:cR y h k o b.2.2 b.2.1) (T:cD h k o L y) (V:hn z p (fr r c).2) (W:eH p y z):nK z h k o p b.2.2 b.2.1 (fr r c).2 (C+1)/\D.le b.2.2/\(b.2.2.one=false->b.1=(fr r c).1):=by
 have G:=a3B x;have e:=a.rs.oN (T.rs a.st);refine⟨⟨S.a3F e W,a3C a.cat x,V,zS a.inv E F,λd=>(ti x a.inv E F (a.rep (G.zero d)) d).2⟩,G,λd=>(ti x a.inv E F (a.rep (G.zero d)) d).1⟩
def cB.iq (a:cB):Prop:=a.table.length<=100/\a.aD.length<=20/\(∀b∈a.aD,b.length<=100)/\a.row.length<=50
def cB.iq.fit (a:c0.iq):c0.Fit:=⟨by have:=a.1;omega,by have:=a.2.1;omega,λb c=>by have:=a.2.2.1 b c;omega,by have:=a.2.2.2;omega⟩
theorem a3G (c:List cN) (D:Own) (p:U) (W:c.length<=9223372036854775807):
  AC Tryz.prog 9 [.J (mx c) D] p λE F=>F=p/\ ∃r,E= .v (.bool r)/\(r=false->c.length<=300/\ ∀h∈c,h.d.iq):=by
 have e:=GJ (a:=c);refine aM hm JS ?_;refine aG (λx=> ?_) λf=> ?_;simp;refine gJ [0] (λd:Nat=> [(3,.v (.int .i64 d))]) (λd=>d<=c.length/\ ∀h∈c.take d,h.d.iq) (λd=>c.length - d) 0 ⟨a5C _,λh k=>by cases k⟩ aR ?_;rintro d ⟨g,G⟩ L;refine aa ?_;refine aG (λx=> ?_) λx=> ?_
 .have o:d<c.length:=a9w;have P:=a4T o;have i:=GK P;have S:=a6f o;generalize c[d]=a at*;have j:=cN.m1 (a:=a);have l:=cN.m2 (a:=a);have m:=cN.m3 (a:=a);have n:=cN.ZL (a:=a);have q:=hi (a:=a.d.aD);have s:=bG (q:=a.d.row);have t:=sN (w:=a.d.table);generalize a.C=u at*;refine aa ?_;refine aG (λT=> ?_) λT=> ?_;rotate_left;simp;refine aG (λc2=> ?_) λc2=> ?_;rotate_left;simp;refine aG (λaH=> ?_) λaH=> ?_;simp;refine gJ [0,3] (λb:Nat=> [(4,.v (.int .i64 b))]) (λb=>b<=a.d.aD.length/\ ∀V∈a.d.aD.take b,V.length<=100) (λb=>a.d.aD.length - b) 0 ⟨a5C _,λh k=>by cases k⟩ aR ?_;rintro b ⟨v,y⟩ L;refine aa ?_;refine aG (λaJ=> ?_) λaJ=> ?_
  .have z:b<a.d.aD.length:=a9w;have w:=oA z;have A:a.d.aD.take (b+1)=a.d.aD.take b++ [a.d.aD.getD b []]:=eS z;have B:=sN (w:=a.d.aD.getD b []);generalize a.d.aD.getD b []=H at*;refine aa ?_;refine aG (λbm=> ?_) λbm=> ?_;simp;grind
  .obtain rfl:b=a.d.aD.length:=a9w;rw[a5n]at y;refine⟨d+1,⟨o,λh C=> ?_⟩,rfl,a9w⟩;rw[S]at C;rcases a5j.1 C with k|k
   .exact G h k
   .obtain rfl:=a5p.1 k;exact⟨a9w,a9w,y,a9w⟩
 grind
def a3H (a:U) (c d h:Nat) (b:ah) (k:List aL) (o:cR a c d h b k):
  AC Tryz.prog 22 [.ptr c 0] a λp r=>a.sub r/\p= .v (.bool b.one):=by
 refine aM hm K4 ?_;refine bc (a2n a c d h b k o) ?_;refine ai (Yb a d h b o.hb) ?_;rintro _ x ⟨y,z,C,rfl⟩;refine aa ?_;trivial
theorem A1 (a:eG H e1 c0 j3) (r:df e X) (f:e<900) (o:dj c0.row) (F:im H e1 X) (c:(fr X c0).1≠0):j3=((fr X c0).1,e1,H):=by
 obtain⟨rfl,G⟩:=F;unfold eG at a;unfold fr at c|-;by_cases L:eu c0=false;grind;rw[if_neg L]at a c|-;have D:eu c0=true:=by grind
 by_cases p:c0.kind=1
 .rw[if_pos p]at a c|-;have P:=zP D p;rw[add_eq r a9w P]at a;by_cases c2:bX X c0.table<X.length
  .rw[if_pos c2]at a c|-;exact a
  rw[if_neg c2]at a c|-;by_cases aH:7<X.length
  .rw[if_pos aH]at a c|-;exact a
  simp_all
 rw[if_neg p]at a c|-;by_cases aH:c0.kind=2
 .rw[if_pos aH]at a;rw[zQ r a9w]at a;by_cases c2:bX X c0.table<X.length;grind
  .rw[if_neg c2]at a;rw[if_pos a9w];exact a
 rw[if_neg aH]at a;by_cases c2:X.length<=bX X c0.table
 .rw[if_pos c2];have x:(X.map aT.bx).find? (λb=>decide (b.name=c0.table))=none:=by rw[pS,a7E c2];rfl
  simp_all [if_pos,lB,js,mv]
 rw[if_neg c2,if_neg aH]at c|-;have y:bX X c0.table<X.length:=a9w;have E:=vu y;have d:=r.ok _ E;have g:=th y;have x:(X.map aT.bx).find? (λb=>decide (b.name=c0.table))=some (X.getD (bX X c0.table) default).bx:=by rw[pS,a5M,a4T y];rfl
 generalize X.getD (bX X c0.table) default=b at*;have i:=d.c;obtain⟨z,j⟩:=G b E;have l:=d.dz.cm;rcases vv D p aH with h|h
 .rw[if_pos h]at a;rw[if_neg (show¬c0.kind=4 by rw[h];decide)]at c|-;unfold lB at a;rw[x]at a
  dsimp only at a
  by_cases aJ:c0.row.length=b.aD.length+1
  .rw[if_neg (show¬c0.row.length≠b.aD.length+1 from λk=>k aJ)];rw[if_pos (show c0.row.length=b.bx.aD.length+1 from aJ)]at a;have m:bL (b.aD.length+1) c0.row:=⟨aJ,o⟩;rcases a with ⟨S,_⟩|⟨rows,T,_,a⟩
   .exact absurd S (zB (e:=b.aD.length+1) a9w a9w d.dz.fh a9w z)
   have V:=zD a9w a9w d.dz.fh a9w z T;have n:rows= []↔ ¬b.rows.any (λC=>decide (bP C=bP c0.row))=true:=by
    rw[V,a7J];constructor
    .rintro k ⟨C,o,W⟩;exact k C (d.fX.mem_iff.2 o) ((zE a9w (d.row o)).2 (of_decide_eq_true W))
    grind
   grind
  .rw[if_neg (show¬c0.row.length=b.bx.aD.length+1 from aJ)]at a;rw[if_pos aJ];exact a
 .rw[if_neg (by rw[h];decide)]at a;rw[if_pos h]at c|-;unfold js mv at a;rw[x]at a
  dsimp only at a
  by_cases aJ:c0.row.length=b.aD.length+1
  .rw[if_neg (show¬c0.row.length≠b.aD.length+1 from λk=>k aJ)];rw[if_pos (show c0.row.length=b.bx.aD.length+1 from aJ)]at a
   dsimp only at a
   rw[if_pos rfl]at a;by_cases bs:c0.row∈b.rows;simp_all
   .rw[if_neg bs];have q:=FI a9w a9w d.dz.fh a9w z (d.none aJ bs);grind[aT.bx,fD,iN,bp]
  .rw[if_neg (show¬c0.row.length=b.bx.aD.length+1 from aJ)]at a;simp_all
def pV:List UInt8:=cW (cp ([1,5],true) az az)
def tj:List UInt8:=cW (dV [[1,5]])
def a3I:eT pV≠eT tj:=by unfold eT;decide+kernel
def fT:ah:=eN (eN ah.new pV) tj
def GP:fT.one=false:=by unfold fT eN;have a:ah.new.m (eT pV)=none:=rfl;rw[a];have b:(if eT tj=eT pV then some pV else none)=none:=if_neg (a5c a3I);simp only[ah.new,b]
theorem GQ (a:eG H e1 c0 j3) (b:c0.kind=1\/c0.kind=2):j3.2.2=H:=by grind[eG,absurd]
theorem A2:bL 2 [1,5]:=⟨rfl,λa b=>by
 grind⟩
theorem a3J (b:e7.bM=az) (c:e7.cq=az):(fD (λH=>nD 2 [1,5] H e7.bM) (λH=>jg 2 [1,5] H e7.cq) H e1 e7).2.2=eN (eN H pV) tj:=by
 have d:=(v7 (I:=true) a9w a9w A2 (yZ) (yZ) a9A).2.2;have h:=(uD (e:=2) a9w a9w (Q:= [[1,5]]) a9x a9x (λk a=>by obtain rfl:=a5p.1 a;exact A2)).oy;have o: ∀H:ah,nD 2 [1,5] H az=(.ok (eU (cp ([1,5],true) az az)),eN H pV):=λH=>by
  unfold nD;rw[jl,if_pos rfl];rfl
 have p: ∀H:ah,jg 2 [1,5] H az=(.ok (eU (dV [[1,5]])),eN H tj):=λH=>by
  unfold jg;rw[if_pos rfl];rfl
 unfold fD;simp_all
def hD:aT:=⟨[116],[[97]],[],.nil,none⟩
def ew:aT:=hD.put [1,5]
def rm:cB:=⟨1,[116],[[97]],[]⟩
def kh:cB:=⟨3,[116],[],[1,5]⟩
def pW:cB:=⟨3,[116],[],[1,6]⟩
def pX:cB:=⟨3,[116],[],[2,3,4]⟩
def tk:cB:=⟨4,[116],[],[1,6]⟩
def tl:cB:=⟨2,[116],[],[]⟩
theorem cd:fr [] rm=(0,[hD]):=by rfl
theorem ca:fr [hD] kh=(0,[ew]):=by rfl
def de:(fr [ew] pW).1=8:=by rfl
def ek:(fr [ew] pX).1=6:=by rfl
def hc:(fr [ew] tk).1=9:=by rfl
def ei:fr [ew] tl=(0,[]):=by rfl
def a3K:ew.rows= [[1,5]]:=by rfl
def a3L (a:eG ah.new ([hD].map aT.bx) kh j3) (d:df 1 [hD]):j3.2.2=fT:=by
 unfold eG at a;rw[if_neg (show¬eu kh=false by trivial),if_neg (show¬kh.kind=1 by decide),if_neg (show¬kh.kind=2 by decide),if_pos (show kh.kind=3 from rfl)]at a;unfold lB at a;have h:([hD].map aT.bx).find? (λk=>decide (k.name=kh.table))=some hD.bx:=by rfl
 rw[h]at a
 dsimp only at a
 rw[if_pos (show kh.row.length=hD.bx.aD.length+1 from rfl)]at a;have b:=d.ok hD a9x;rcases a with ⟨o,_⟩|⟨rows,p,_,a⟩
 .exact absurd o (zB (e:=2) a9w a9w b.dz.fh a9A trivial)
 have r:=zD (e:=2) (a8:= .nil) a9w a9w b.dz.fh a9A trivial p;rcases a with ⟨c,a⟩|⟨c,a⟩
 .rw[a];exact a3J rfl rfl
 .exact absurd (r.2 λy x=>by cases x) c
def a3M: ∀ {a b:List Int},kM a b->bP a<=bP b
 |d::a,h::b,c=>by
  show d<=h;rcases c with c|c<;>omega
def eQ.cmp (a:eQ e j7):j7.rows.Pairwise λb c=> ¬fO c b<0:=by refine a7W ?_ a.dO;intro b c h k o d;rw[r8 (by rw[(a.row h).len,(a.row k).len])]at d;have:=a3M d;omega
theorem A3 (k:U) (x F G:Nat) (o:ah) (L:List aL) (W:cR k x F G o L) (P:Nat) (a:List aT) (y:df P a) (e:P<=1000) (f:im o L a) (b:List UInt8):
  AC Tryz.prog 27 [.ptr x 0,bb b] k λz S=>k.sub S/\(bX a b<a.length-> ∃T,z= .aK [.J T .any,.v (.int .i64 0)]/\aA isRow (a.getD (bX a b) default).rows T)/\(a.length<=bX a b->z= .aK [.J [] .nil,.v (.int .i64 3)]):=by
 obtain⟨rfl,g⟩:=f;have i:=y.cat e;have j: ∀c,a[bX a b]? =some c-> ∃d,ec o (c.bx.aD.length+1) (c.bx.bM.size.toNat+1) c.bx.bM=some d/\c.rows.Perm d:=λc l=>by
  have hm:=a5a l;have p:=y.ok c hm;have s:=p.c;have t:=p.dz.cm;obtain⟨d,C,D⟩:=FG a9w a9w p.dz.fh a9w (g c hm).1;exact⟨d,C,(D.trans p.fX).symm⟩
 refine(a2v k x F G o (a.map aT.bx) W i b (a.getD (bX a b) default).rows ?_).mono λz S m=>⟨m.1,λn=> ?_,λn=> ?_⟩
 .intro c d h V;rw[pS]at h;cases r:a[bX a b]? with
  |none=>rw[r]at h;cases h
  |some E=>
   rw[r]at h;obtain rfl:=a4S h;obtain⟨u,C,D⟩:=j E r;rw[C]at V;obtain rfl:=a4S V;have q:a.getD (bX a b) default=E:=by grind
   rw[q];exact⟨D,(y.ok E (a5a r)).cmp⟩
 grind[vl,bX,default,List.getD,pS];grind[vl,pS,List.getElem?_eq_none]
def a3N:rm.Fit:=cB.iq.fit (by unfold cB.iq;decide)
def a3O:kh.Fit:=cB.iq.fit (by unfold cB.iq;decide)
def a3P:pW.Fit:=cB.iq.fit (by unfold cB.iq;decide)
def a3Q:pX.Fit:=cB.iq.fit (by unfold cB.iq;decide)
def a3R:tk.Fit:=cB.iq.fit (by unfold cB.iq;decide)
def a3S:tl.Fit:=cB.iq.fit (by unfold cB.iq;decide)
theorem A4:dj []:=λb a=>by cases a
theorem vz:df 1 [hD]:=by grind[zS,df.nil,rm,A4,cd]
theorem GR:dj pW.row:=λa b=>by
 grind[pW]
theorem a3T:dj pX.row:=λa b=>by
 grind[pX]
theorem rn:df 2 [ew]:=by grind[zS,vz,kh,ca]
def zN (c:eG ah.new [] rm j3):j3=(0,[hD].map aT.bx,ah.new)/\im ah.new ([hD].map aT.bx) [hD]:=by
 have a:=GQ c (.inl rfl);have b:=ti c (df.nil (n:=0)) a9w A4 ⟨rfl,λk d=>by cases d⟩ (by rw[a];rfl);rw[cd]at b;obtain⟨v,o,p⟩:=j3
 dsimp only at a b
 obtain⟨rfl,h⟩:=b;subst a;obtain rfl:=h.eq;trivial
def zO (d:eG ah.new ([hD].map aT.bx) kh j3) (a:im ah.new ([hD].map aT.bx) [hD]):j3=(0,[ew].map aT.bx,fT)/\im fT ([ew].map aT.bx) [ew]:=by
 have b:=a3L d vz;have c:=ti d vz a9w A2.jU a (by rw[b];exact GP);rw[ca]at c;obtain⟨v,h,k⟩:=j3
 dsimp only at b c
 obtain⟨rfl,a⟩:=c;subst b;obtain rfl:=a.eq;trivial
def a3U (a:eG fT ([ew].map aT.bx) pW j3) (b:im fT ([ew].map aT.bx) [ew]):j3=(8,[ew].map aT.bx,fT):=by have c:=A1 a rn a9w GR b (by rw[de];decide);trivial
def a3V (a:eG fT ([ew].map aT.bx) pX j3) (b:im fT ([ew].map aT.bx) [ew]):j3=(6,[ew].map aT.bx,fT):=by have c:=A1 a rn a9w a3T b (by rw[ek];decide);trivial
def a3W (a:eG fT ([ew].map aT.bx) tk j3) (b:im fT ([ew].map aT.bx) [ew]):j3=(9,[ew].map aT.bx,fT):=by have c:=A1 a rn a9w GR b (by rw[hc];decide);trivial
def a3X (d:eG fT ([ew].map aT.bx) tl j3) (a:im fT ([ew].map aT.bx) [ew]):j3=(0,[],fT)/\im fT [] []:=by
 have b:=GQ d (.inr rfl);have c:=ti d rn a9w A4 a (by rw[b];exact GP);rw[ei]at c;obtain⟨v,h,k⟩:=j3
 dsimp only at b c
 obtain⟨rfl,a⟩:=c;subst b;obtain rfl:h= []:=a.eq;trivial
def GS:cw []=true:=(df.nil (n:=0)).cat a9w
def a3Y:cw ([hD].map aT.bx)=true:=vz.cat a9w
def vA:cw ([ew].map aT.bx)=true:=rn.cat a9w
def a3Z (a:Own):(⟨rm,a,.nil⟩:cN).V= .agg [.v (.int .u8 1),.v (.string ⟨#[116]⟩),.J [.v (.string ⟨#[97]⟩)] a,.J [] .nil]:=rfl
def a4a (a:Own):(⟨kh,.nil,a⟩:cN).V= .agg [.v (.int .u8 3),.v (.string ⟨#[116]⟩),.J [] .nil,.J [.v (.int .i64 1),.v (.int .i64 5)] a]:=rfl
def a4b (a:Own):(⟨pW,.nil,a⟩:cN).V= .agg [.v (.int .u8 3),.v (.string ⟨#[116]⟩),.J [] .nil,.J [.v (.int .i64 1),.v (.int .i64 6)] a]:=rfl
def a4c (a:Own):(⟨pX,.nil,a⟩:cN).V= .agg [.v (.int .u8 3),.v (.string ⟨#[116]⟩),.J [] .nil,.J [.v (.int .i64 2),.v (.int .i64 3),.v (.int .i64 4)] a]:=rfl
def a4d (a:Own):(⟨tk,.nil,a⟩:cN).V= .agg [.v (.int .u8 4),.v (.string ⟨#[116]⟩),.J [] .nil,.J [.v (.int .i64 1),.v (.int .i64 6)] a]:=rfl
def a4e:(⟨tl,.nil,.nil⟩:cN).V= .agg [.v (.int .u8 2),.v (.string ⟨#[116]⟩),.J [] .nil,.J [] .nil]:=rfl
def GU:bb [116]= .v (.string ⟨#[116]⟩):=rfl
variable{N b4 h2 h8 j1:Prop}
theorem rp (h:cR f e i v H e1) (b:cw e1=true) (a:cN) (k:a.d.Fit) (o:a.V=n) (p: ∀res,eG H e1 a.d res->res=j3/\N):
  AC Tryz.prog 20 [.ptr e 0,n] f λc d=>c= .v (.int .i64 j3.1)/\cR d e i v j3.2.2 j3.2.1/\N:=by
 subst o;exact(G9 f e i v H e1 h (vw b) b a k).mono λc d ⟨res,r,x,y,z⟩=>by
  grind
def A5:Nat->dH->dH
 |0,a=>a
 |b+1,.seq _ c=>A5 b c
 | _+1,a=>a
variable{j:Fr}
def a4f (P:j 1= .ptr e 0) (S:j 2= .v (.int .i64 0)) (T:j 3= .v (.int .i64 0)) (V:j 4= .v (.int .i64 8)) (W:j 5= .v (.int .i64 6)) (g:j 6= .v (.int .i64 9)) (c:cR f e i v fT ([ew].map aT.bx)) (d:im fT ([ew].map aT.bx) [ew]):
  bS (Ctx.of Tryz.prog) (A5 8 wA.code) (p4 [(0,none)] λz _=>z= .v (.bool true)) j f:=by
 simp only[wA,A5];refine aa ?_;have a:=A3 f e i v fT _ c 2 _ rn a9w d [116];rw[GU]at a;refine ai a ?_;clear a;rintro _ fi ⟨k,b,_⟩;obtain⟨o,rfl,h⟩:=b a9A;have h:aA isRow [[1,5]] o:=by rw[<-a3K];exact h
 have p:=c.sub k;clear c k b;refine aa ?_;refine ai (rp p vA ⟨tl,.nil,.nil⟩ a3S a4e λres C=>a3X C d) ?_;rintro _ D ⟨rfl,r,x⟩;clear p d;refine aa ?_;have a:=A3 D e i v fT _ r 0 [] df.nil a9w x [116];rw[GU]at a;refine ai a ?_;clear a;rintro _ l ⟨E,_,b⟩;obtain rfl:=b a9A;clear r x b E;refine aa ?_;refine db U.a1 (by simp[aS,R.cells]) λy m n=> ?_;refine aa ?_;refine db U.a1 (by simp[aS,R.cells]) λF q s=> ?_;refine aa ?_;have G:=λL=>E2 [[1,5]] [[1,5]] o [.J [.v (.int .i64 1),.v (.int .i64 5)] y] .any F L h ⟨⟨y,rfl⟩,trivial⟩ a9x a9x;refine bc (G _) ?_;exact⟨_,U.a1⟩
def a4g (c:U):AC Tryz.prog 8 [] c λS W=>S= .v (.bool true):=by refine aM hm JQ ?_;generalize T:dH.seq (dH.plain (aB 36 1:: _)) _=e;refine ai (FY c) ?_;rintro _ f ⟨g,i,j,rfl,-,-,-,-,d⟩;refine aa ?_;refine db U.a1 (by simp[aS,R.cells]) λh l k=> ?_;refine aa ?_;refine ai (rp (d.sub k.sub) GS ⟨rm,h,.nil⟩ a3N (a3Z h) λres a=>zN a) ?_;rintro _ m ⟨rfl,o,p⟩;clear k d;refine aa ?_;refine db U.a1 (by simp[aS,R.cells]) λr n x=> ?_;refine aa ?_;refine ai (rp (o.sub x.sub) a3Y ⟨kh,.nil,r⟩ a3O (a4a r) λres a=>zO a p) ?_;rintro _ q ⟨rfl,y,b⟩;clear x o p;refine aa ?_;refine db U.a1 (by simp[aS,R.cells]) λz s C=> ?_;refine aa ?_;refine ai (rp (y.sub C.sub) vA ⟨pW,.nil,z⟩ a3P (a4b z) (N:=True) λres a=>⟨a3U a b,trivial⟩) ?_;rintro _ t ⟨rfl,D,-⟩;clear C y;refine aa ?_;refine db U.a1 (by simp[aS,R.cells]) λE u F=> ?_;refine aa ?_;refine ai (rp (D.sub F.sub) vA ⟨pX,.nil,E⟩ a3Q (a4c E) (N:=True) λres a=>⟨a3V a b,trivial⟩) ?_;rintro _ v ⟨rfl,G,-⟩;clear F D;refine aa ?_;refine db U.a1 (by simp[aS,R.cells]) λL w P=> ?_;refine aa ?_;refine ai (rp (G.sub P.sub) vA ⟨tk,.nil,L⟩ a3R (a4d L) (N:=True) λres a=>⟨a3W a b,trivial⟩) ?_;rintro _ A ⟨rfl,V,-⟩;clear P G;refine aa ?_;subst T;exact a4f rfl rfl rfl rfl rfl rfl V b
structure Jw (a b:U) (c gA d W:Nat) (h:ah) (l:List aL) (cJ:List aT) (n:Nat):Prop where
 jn:nK b c gA d W h l cJ n
 sub:a.sub b
 nX:a c=none
 nS:a gA=none
 nM:a d=none
 Zb:a W=none
def a4h (h:df i X) (b:e<X.length):bX X (X.getD e default).name=e:=by
 refine Gt b (λa k c=> ?_) rfl;have d:=h.dO;rw[a6v]at d;have:=d a e a9w b k;have o:X.getD a default=X[a]'a9w:=by simp[List.getD,show a<X.length by omega]
 have p:X.getD e default=X[e]:=by simp[List.getD,b]
 rw[o,p]at c;rw[c,vg]at this;cases this
def a4i (a:List aL) (b:List R) (d:Own) (c:U) (p:aA dw a b) (r:a.length<=8) (x: ∀y∈a,y.gq):
  AC Tryz.prog 33 [.J b d] c λh k=>c.sub k/\h= .J ((fC a).map ak) .any:=AC.view (F4 a b d c p r x) λh k z=>by
 obtain⟨C,D,G,E,o⟩:=View.dJ z;have F:dS 1 C ((fC a).map ak)=(fC a).map ak:=by rw[jK,a4U a9w]
 rw[F]at o;exact⟨_,D,o,E,rfl⟩
def a4j (o:List cN) (N:Own) (l3:o.length<=9223372036854775807) (l4: ∀l5∈o,dj l5.d.row) (D:U):
  AC Tryz.prog 5 [.J (mx o) N] D λT _=>T= .v (.bool true):=by
 have a57:=GJ (a:=o);refine aM hm JP ?_;refine ai (a4g D) ?_;rintro _ f rfl;refine aa ?_;refine ai (a3G o N f l3) ?_;rintro _ f ⟨rfl,l6,rfl,d⟩;cases l6 with
 |true=>refine aa ?_;exact⟨_,U.a1⟩
 |false=>
  obtain⟨a61,l7⟩:=d rfl;clear d;refine aa ?_;refine ai (FY f) ?_;rintro _ l8 ⟨r,x,y,rfl,a62,a63,a65,a68,l9⟩;refine aa ?_;refine aN λW n0=> ?_;have n1:=l9.sub (U.ae (Y:= .cells [.J [] .nil]) U.a1 n0);have b:nK (l8.set W (.cells [.J [] .nil])) r x y W ah.new [] [] 0:=⟨n1,GS,⟨[],.nil,U.ag _ _ _,trivial⟩,df.nil,λ_=>⟨rfl,λg i=>by cases i⟩⟩;refine aa ?_;refine ch [0,3,4] (λh:Nat×ah×List aL×List aT=> [(5,.v (.int .i64 (h.1:Int)))]) (λh j=>h.1<=40/\h.1<=o.length/\nK j r x y W h.2.1 h.2.2.1 h.2.2.2 h.1/\h.2.1.one=false) (λh=>40 - h.1) (0,ah.new,[],[]) ⟨⟨a9x,a5C _,b,rfl⟩,aR⟩ ?_;rintro⟨c,G,n2,a⟩ O ⟨n3,n4,b,Q⟩ n5
  dsimp only at n3 n4 b Q|-
  refine aa ?_;refine aG (λl=> ?_) λl=> ?_;refine aG (λaJ=> ?_) λaJ=> ?_
  .have C:c<o.length:=a9w;have m:o[c]? =some o[c]:=a4T C;have a69:=GK m;have X:=l7 _ (a5a m);have Y:=l4 _ (a5a m);generalize o[c]=p at*;have n9:=G9 O r x y G n2 b.st (vw b.cat) b.cat p X.fit;have a00:=λn i=>a3u n W c a i b.inv a9w p X.fit Y;have a71:p.C.length=4:=rfl;have a73:(.agg (p.C.take 4):R)=p.V:=rfl;have a74:aX true 4 p.C=p.V:=rfl;generalize p.C=a81 at*;generalize p.V=a83 at*;refine aa ?_;refine ai n9 ?_;rintro _ n ⟨res,a01,rfl,a02,Z⟩;refine aa ?_;refine ai (a00 n (b.rs.oN (Z.rs b.st))) ?_;rintro _ a03 ⟨a04,a05,rfl⟩;obtain⟨j9,V,a06⟩:=b.step a9w Y a01 a02 Z a04 a05;have a07:=a3H a03 r x y _ _ j9.st;refine aa ?_;refine ai a07 ?_;rintro _ a84 ⟨a08,rfl⟩;cases k0:res.2.2.one with
   |true=>refine aa ?_;exact⟨_,U.a1⟩
   |false=>have a86:=a06 k0;refine aa ?_;exact⟨(c+1,res.2.2,res.2.1,(fr a p.d).2),⟨by simp only;omega,C,j9.sub a08,k0⟩,rfl,by simp only;omega⟩
  all_goals
   have q:=b.rep Q;have k:=b.inv;have L:=k.cat a9w;have V:=kO L;have a88:=zt (A0 k a9w);have a89:(fC (a.map aT.bx)).length<=9000:=by have:=V.2;rw[fC,a4Y];omega
   have E:=b.st;have P:=b.rs;rw[q.eq]at E;have a09:im G (a.map aT.bx) a:=⟨rfl,q.ins⟩;clear q b;refine ai (a2p O r x y _ _ E (vw L) L (A0 k a9w)) ?_;rintro _ a10 ⟨s,a11,a13,rfl,k1⟩;refine aa ?_;refine ai (zZ a10 W _ a (P.sub s) k a9w) ?_;rintro _ a14 ⟨k2,t,u,rfl,S⟩;have k3:=λD=>ZU (a.map aT.bx) (a.map aT.bx) a11 t a13 u D k1 S (by have:=k.dB;rw[a5f];omega);have v:=U.ar s k2;refine aa ?_;refine bc (k3 _) ?_;clear k3 k1 S;refine ai (a3D a14 r x y G _ (E.sub v) L a9w) ?_;rintro _ a15 ⟨k4,rfl⟩;have w:=U.ar v k4;refine aa ?_;refine ai (a3E a15 W _ a (P.sub w) k a9w) ?_;rintro _ a16 ⟨k5,rfl⟩;have A:=U.ar w k5;have k6:(pO (fC (a.map aT.bx))).length=32:=mc _;have B:=λa18=>XH (I:=true) (b:=a18) k6 k6;refine aa ?_;refine ai (GO a16 r x y G _ (E.sub A) L) ?_;rintro _ H ⟨d,a90,rfl⟩;have I:=U.ar A d;refine aa ?_;refine ai (zZ H W _ a (P.sub I) k a9w) ?_;rintro _ fi ⟨F,t,u,rfl,S⟩;have k7:=U.ar I F;refine aa ?_;refine ai (a4i _ t u fi S V.2 V.1) ?_;rintro _ a19 ⟨B,rfl⟩;have K:=U.ar k7 B;refine aa ?_;have a27:=E.sub K;have a29:=P.sub K;clear s k2 v k4 w k5 A d I F k7 B K E P S;obtain⟨a92,a94,k8,k9⟩:=a29;have a95:=k9.len;have a96:=k.dB;refine ch [3,4] (λc:Nat=> [(8,.v (.int .i64 (c:Int)))]) (λc j=>c<=a.length/\a19.sub j) (λc=>a.length - c) 0 ⟨⟨a5C _,U.a1⟩,aR⟩ ?_;rintro z H ⟨a97,d⟩ n5;have a30:=U.af (d _ _ k8);refine aa ?_;refine aG (λl=> ?_) λl=> ?_
   .have C:z<a.length:=a9w;have l0:a[z]? =some (a.getD z default):=by simp[List.getD,C]
    obtain⟨_,a98,a99,b00,a34,a36,b01,b02,rfl,l1,a38,_,_⟩:=k9.get l0;have M:=A3 H r x y G _ (a27.sub d) c a k a9w a09 (a.getD z default).name;rw[a4h k C]at M;have e:=k.ok (a.getD z default) (a5a l0);have a42: ∀T∈(a.getD z default).rows,T.length<=1000000000000:=λT a43=>by have:=(e.row a43).len;have:=e.c;omega
    have b03:=e.dB;clear e;generalize a.getD z default=g at*;have a47:=U.af (d _ _ l1);refine aa ?_;refine ai M ?_;rintro _ fi ⟨F,l2,_⟩;obtain⟨a48,rfl,a52⟩:=l2 C;have a30:=U.af (F _ _ (d _ _ k8));have a47:=U.af (F _ _ (d _ _ l1));have a56:=λD=>E2 g.rows g.rows a48 a34 .any a36 D a52 a38 a9w a42;clear M l2;refine aa ?_;refine bc (a56 _) ?_;exact⟨z+1,⟨C,U.ar d F⟩,rfl,a9w⟩
   .exact⟨_,U.a1⟩
end Go.Proofs.YtlgnfcaolejgeaaGreat
namespace Go.bz
open Go Go.ChangeShapes Go.WideShapes Go.RowKit
def lC (a:World):bl:=λb c=>a.cell? ⟨b,c,none⟩
def a4k (b:World):Holds (lC b) U.emp b:=⟨λ_ _ _ a=>a,λ_ _ a=>by cases a⟩
def fE (k:bl) (a:List Value) (b:List R):Prop:=a.length=b.length/\ ∀(c:Nat) (d:Value) (h:R),a[c]? =some d->b[c]? =some h->aY k d h
variable{u:bl}
theorem fE.nil:fE u [] []:=⟨rfl,λb c d a=>by simp at a⟩
variable{g B e0:List R}
def fE.append {h k:List Value} (c:fE u h g) (o:fE u k B):fE u (h++k) (g++B):=by
 refine⟨by simp[c.1,o.1],λx p r b a=> ?_⟩;rw[a8o]at b a;rw[<-c.1]at a;split at b
 .rename_i d;rw[if_pos d]at a;exact c.2 x p r b a
 .rename_i d;rw[if_neg d]at a;exact o.2 _ p r b a
variable{n b3:R}{e5:Value}
theorem fE.one (a:aY u e5 n):fE u [e5] [n]:=⟨rfl,λb c d h k=>by
 grind⟩
variable{j8:Array Value}
def fE.a4l (a:fE u j8.toList g):bq u j8 g:=bq.dR.2 a
def dc (h:Program) (k:TypeId) (o:List R->Prop):Prop:=
 ∀ {b:Type} (p:TypeId×Value->b) (c:World) (r:Nat) (x:Nat->Bool) (y:Bool) (z:Nat) (d:List Value) (C:DataW b×List MemPlace),DataW.trod p h c r x y z k d=some C->
  ∃a,o a/\(∀D∈a,D.one=true)/\fE (lC c) d a
def a4P (a:List R):Prop:= ∃b:Bool,a= [.v (.bool b)]
def SInt (a:IntKind) (c:List R):Prop:= ∃b:Int,(Lit.int a b).wf=true/\c= [.v (.int a b)]
def vB (a:List R):Prop:= ∃b:UInt8,a= [ak b]
def rq (a:List R):Prop:= ∃aP:List UInt8,aP.length<=maxLen/\a= [bb aP]
def vC:List (List R->Prop)->List R->Prop
 | [],us=>us= []
 |c::d,us=> ∃a b,c a/\vC d b/\us=a++b
def a4m (a:List R->Prop):Nat->List R->Prop
 |0,us=>us= []
 |d+1,us=> ∃b c,a b/\a4m a d c/\us=b++c
def vD (b:List R->R) (c:List R->Prop) (d:List R):Prop:= ∃a:List (List R),(∀h∈a,c h)/\a.length<=maxLen/\d= [.J (a.map b) .any]
variable{e2:IntKind}{m:Program}{b2:TypeId}
def dc.int (a:m.underlying b2=some (.int e2)):dc m b2 (SInt e2):=λh k o p r x y z b=>by
 obtain⟨c,rfl,_,d⟩:=DataW.trod_int a b;exact⟨_,⟨c,d,rfl⟩,by simp[R.one],fE.one (.v _ rfl)⟩
def dc.byte (b:m.underlying b2=some (.int .u8)):dc m b2 vB:=λk o p r x y z C c=>by
 obtain⟨a,rfl,_,d⟩:=DataW.trod_int b c;obtain⟨D,E⟩:=bounds_u8 d;have h:(Value.int .u8 a)= .int .u8 ((UInt8.ofNat a.toNat).toNat):=by congr 1;rw[a6b];omega
 refine⟨_,⟨UInt8.ofNat a.toNat,rfl⟩,by simp[ak,R.one],fE.one ?_⟩;rw[ak,<-h];exact .v _ rfl
def dc.str (b:m.underlying b2=some .string):dc m b2 rq:=λh k o p r x y z c=>by
 obtain⟨a,rfl,_,C⟩:=DataW.trod_string b c;refine⟨_,⟨a.data.toList,by trivial,rfl⟩,by simp[bb,R.one],fE.one ?_⟩;have d:(⟨a.data.toList.toArray⟩)=a:=by cases a;simp
 rw[bb,d];exact .v _ rfl
def A6 (a:Program):List Field->List (List R->Prop)->Nat->Nat->Prop
 | [],[],off,b=>off=b
 |c::d,h::rs,off,b=>c.offset=off/\dc a c.type h/\A6 a d rs (off+a.cellsOf c.type) b
 | _,_,_,_=>False
theorem dc.struct {b:Array Field}{r:List (List R->Prop)} (F:m.underlying b2=some (.struct b)) (G:A6 m b.toList r 0 (m.cellsOf b2)):dc m b2 (vC r):=λL y P S T B p H V=>by
 obtain⟨W,e,_,_,f,g,i⟩:=DataW.trod_struct F V;have j: ∀(k:List Field) (c:List (List R->Prop)) (a d:Nat),b.toList.drop a=k->A6 m k c d (m.cellsOf b2)-> ∃h,vC c h/\(∀l∈h,l.one=true)/\fE (lC y) (p.drop d) h:=by
  intro k
  induction k with
  |nil=>
   intro c a d n x;cases c with
   |cons _ _=>trivial
   |nil=>exact⟨[],rfl,a9x,by rw[a6p (by rw[f];exact a9p x.symm)];exact fE.nil⟩
  |cons o k ih=>
   intro c a d n x;cases c with
   |nil=>trivial
   |cons I c=>
    obtain⟨z,C,D⟩:=x;have K:a<b.toList.length:=by grind[List.drop_of_length_le]
    have q:b.toList[a]=o/\b.toList.drop (a+1)=k:=by grind[List.drop_eq_getElem_cons,List.cons.inj]
    obtain⟨h,s,M,t⟩:=ih c (a+1) _ q.2 D;have u:b[a]? =some o:=by grind
    have:=i a o u;have v:a<W.length:=by rw[g];trivial
    rw[a4T v,z]at this;obtain⟨E,w,N,a3⟩:=C L y P S T e _ _ this;refine⟨E++h,⟨E,h,w,s,rfl⟩,?_,?_⟩;grind
    .have A:p.drop d=(p.drop d).take (m.cellsOf o.type)++p.drop (d+m.cellsOf o.type):=by rw[<-a5J,a5A]
     rw[A];exact a3.append t
 obtain⟨h,z,C,D⟩:=j b.toList r 0 0 rfl G;grind
theorem GV {h o:Type} (c:h->Option o): ∀(a:List h) (d:List o),a.mapM c=some d->d.length=a.length/\ ∀(p:Nat) (r:h),a[p]? =some r-> ∃x,d[p]? =some x/\c r=some x
 | [],d,b=>by simp_all
 |z::a,d,b=>by
  rw[List.mapM_cons]at b;cases y:c z with
  |none=>simp[y]at b
  |some D=>
   cases k:a.mapM c with
   |none=>simp[k]at b
   |some C=>simp[y,k]at b;subst b;obtain⟨E,F⟩:=GV c a C k;grind
variable{e i v O b8 j0:Nat}{l h7:World}
def GW {d:Addr}{c:List Value} (b:l.cells? i d e=some c):c.length=e/\ ∀a,a<e->c[a]? =l.cell? (d.add a):=by
 unfold World.cells? at b;split at b
 .obtain⟨h,k⟩:=GV _ _ _ b;refine⟨by simpa using h,λa o=> ?_⟩;obtain⟨x,p,r⟩:=k a a (by simp[o]);rw[p,r]
 .cases b
theorem a4n {b:Addr} (a:l.cell? b=some e5):b.spot=none:=by
 unfold World.cell? at a;split at a;simp_all
 .cases a
theorem add_add {a:Addr} (d:a.spot=none) (b:Nat):a.add b=⟨a.block,a.off+b,none⟩:=by
 unfold Addr.add;split
 .rename_i c;subst c;cases a;simp_all
 .rfl
structure tm (b:List R->R) (a:List R->Prop) (k:Nat):Prop where
 len: ∀us,a us->us.length=k
 cells: ∀us,a us->(b us).cells=us
def GX {c:List R->R}{d:List R->Prop}{o:Nat} (h:tm c d o): ∀b:List (List R),(∀a∈b,d a)->flat (b.map c)=b.flatten
 | [],_=>rfl
 |a::b,k=>by
  simp only[a5r,flat,a5v,a6J];rw[h.cells a (k a a9x)];have:=GX h b λa p=>k a (by simp[p]);simp only[flat]at this;rw[this]
theorem dc.slice {u:TypeId}{r:List R->Prop}{l:List R->R} (Z:m.underlying u=some (.slice b2)) (j9:m.cellsOf b2=e) (n:0<e) (F:tm l r e) (k0:dc m b2 r):dc m u (vD l r):=λk1 k v k2 k3 n1 n2 o k4=>by
 rcases DataW.trod_slice Z k4 with ⟨rfl,_⟩|⟨W,len,w,k5,n3,k6,_,rfl,_,n4,k7,n5,n9,A,_,_⟩
 .exact⟨_,⟨[],a9x,a9x,rfl⟩,by simp[R.one],fE.one (.dg none 0 .any (λ_=>rfl) trivial)⟩
 .rw[j9]at A;have B: ∀c,c<len-> ∃b x,r b/\(∀y∈b,y.one=true)/\k.cells? v (W.add (c*e)) e=some x/\fE (lC k) x b:=λc p=>by
   have H:=A c p;have k8:c<k5.length:=a9w;rw[a4T k8,Option.bind_eq_some_iff]at H;obtain⟨x,f,q⟩:=H;obtain⟨b,s,I,K⟩:=k0 k1 k v k2 k3 k6 x _ q;grind
  by_cases k9:len=0
  .subst k9;exact⟨_,⟨[],a9x,a9x,rfl⟩,by simp[R.one],fE.one (.dg (some W) w .any (λl0=>by cases l0) trivial)⟩
  .have M:W.spot=none:=by obtain⟨b,x,_,_,f,_⟩:=B 0 a9w;obtain⟨q,t⟩:=GW f;have S:=t 0 n;simp only[a8l]at S;grind[List.getElem?_eq_getElem,Addr.add,a4n]
   obtain⟨z,C,a00⟩:=W;simp only at M;subst M;have l1: ∃d:List (List R),d.length=len/\ ∀c b,d[c]? =some b->r b/\(∀y∈b,y.one=true)/\ ∀a h,b[a]? =some h-> ∃o,k.cell? ⟨z,C+(c*e+a),none⟩=some o/\aY (lC k) o h:=by
    have: ∀D,D<=len-> ∃d:List (List R),d.length=D/\ ∀c b,d[c]? =some b->r b/\(∀y∈b,y.one=true)/\ ∀a h,b[a]? =some h-> ∃o,k.cell? ⟨z,C+(c*e+a),none⟩=some o/\aY (lC k) o h:=by
     intro D
     induction D with
     |zero=>simp
     |succ D ih=>
      intro a01;obtain⟨d,T,V⟩:=ih a9w;obtain⟨b,x,s,I,f,K⟩:=B D a9w;refine⟨d++ [b],by simp[T],λc N p=> ?_⟩;rw[a8o]at p;split at p
      .exact V c N p
      .rename_i a02;have l2:c=D:=by grind
       subst l2;have:N=b:=by simp_all
       subst this;refine⟨s,I,λa h g=> ?_⟩;have l3:a<e:=by have:=(a5b.1 g).1;rw[F.len _ s]at this;exact this
       obtain⟨q,t⟩:=GW f;have S:=t a l3;have O:a<x.length:=a9w;rw[a4T O]at S;have l4:((⟨z,C,none⟩:Addr).add (c*e)).add a=⟨z,C+(c*e+a),none⟩:=by rw[add_add (by rw[add_add rfl]),add_add rfl];simp[a8v]
       rw[l4]at S;exact⟨x[a],S.symm,K.2 a _ _ (a4T O) g⟩
    simp_all
   obtain⟨d,T,V⟩:=l1;have G: ∀b2∈d,r b2:=λb2 E=>by
    obtain⟨c,p,rfl⟩:=a5G E;exact(V c _ (a4T p)).1
   have Q:=GX F d G;have l5: ∀(L:List (List R)),(∀b2∈L,r b2)-> ∀a h,L.flatten[a]? =some h-> ∃b,L[a/e]? =some b/\b[a%e]? =some h:=by
    intro L
    induction L with
    |nil=>intro _ a h P;simp at P
    |cons b2 L ih=>
     intro X a h P;have a03:=F.len b2 (X b2 a9x);rw[a6J,a8o]at P;split at P;grind[Nat.div_eq_of_lt,Nat.mod_eq_of_lt]
     .rename_i g;obtain⟨b,l6,l7⟩:=ih (λb2 E=>X b2 (by simp[E])) (a - b2.length) h P;have Y:a=(a - b2.length)+e:=a9w;refine⟨b,?_,?_⟩
      .rw[Y,Nat.add_div_right _ n];exact l6
      .rw[Y,Nat.add_mod_right];exact l7
   have a04:d.flatten.length=len*e:=by
    rw[<-T];clear l5 Q T V
    induction d with
    |nil=>simp
    |cons b2 d ih=>rw[a6J,a4V,ih (λb2 E=>G b2 (by simp[E])),F.len b2 (G b2 a9x),a4Y,a6d,a7N,a8F]
   refine⟨_,⟨d,G,a9w,rfl⟩,by simp[R.one],fE.one ?_⟩;have l8: ∀a h,d.flatten[a]? =some h-> ∃o,k.cell? ⟨z,C+a,none⟩=some o/\aY (lC k) o h:=λa h P=>by
    grind[Nat.div_add_mod']
   refine aY.J z C len w e (λa=>(k.cell? ⟨z,C+a,none⟩).getD undef) (d.map l) .any n (by simp[T]) k7 ?_ ?_ ?_ ?_ trivial
   .intro b2 E;obtain⟨b,i,rfl⟩:=a5o.1 E;rw[F.cells b (G b i),F.len b (G b i)]
   .intro y j;rw[Q,a8C]at j;obtain⟨b,i,j⟩:=j;obtain⟨c,p,rfl⟩:=a5G i;exact(V c _ (a4T p)).2.1 y j
   .intro a g;have l9:a<d.flatten.length:=a9w;obtain⟨o,n0,a05⟩:=l8 a _ (a4T l9);show k.cell? _= _;rw[n0];rfl
   grind
def vE (b:Program) (c:TypeId) (k:R->Prop):Prop:=
 ∀ {d:Type} (o:TypeId×Value->d) (a:World) (p:Nat) (r:Nat->Bool) (v:Value) (x:DataW d) (y:List MemPlace),Value.okWide b a .any p c v->DataW.Trod o b a 0 r true c v x y-> ∃h,k h/\aY (lC a) v h
theorem a4o {a:Reach}{v:Value} (b:Cell.okWide m l a e b2 v):v.cells= #[v]:=by
 cases v with
 |agg cs=>simp_all [Cell.okWide,Cell.ok]
 |tuple cs=>rfl
 | _=>rfl
def isRow (a:Option TypeDesc):Bool:=
 match a with
 |some (.struct _)=>true
 |some (.array _ _)=>true
 | _=>false
def A7 (a:List R->Prop) (b:R):Prop:=a [b]
def a4Q (b:List R->Prop) (c:R):Prop:= ∃a,b a/\c= .agg a
def vE.cell {k:List R->Prop} (b:isRow (m.underlying b2)=false) (p:dc m b2 k):vE m b2 (A7 k):=λr x L y v P S c z=>by
 obtain⟨C,D⟩:=z;obtain⟨E,d,T,a⟩:=p r x 0 y true C _ _ D;have F:v.cells= #[v]:=by
  unfold Value.okWide at c;split at c
  .rename_i h;rw[h]at b;cases b
  .rename_i h;rw[h]at b;cases b
  .exact a4o c
 rw[F]at a;have G:=a.1
 match E,G,d,a with
 | [o],_,d,a=>exact⟨o,d,a.2 0 v o rfl rfl⟩
def tn (a:Program):List TypeId->List (R->Prop)->Prop
 | [],[]=>True
 |b::sj,c::lD=>vE a b c/\tn a sj lD
 | _,_=>False
def tp:List (R->Prop)->List R->Prop
 | [],a=>a= []
 |d::lD,a=> ∃b c,a=b::c/\d b/\tp lD c
def GY {r:Program}{z:Type}{C:TypeId×Value->z}{h:World}{D:Nat}{E:Nat->Bool}: ∀(a:List TypeId) (lD:List (R->Prop)) (c:List Value) (k:List (DataW z)) (x:List MemPlace),
  tn r a lD->(∀(o:Nat) b v,a[o]? =some b->c[o]? =some v->Value.okWide r h .any D b v)->DataW.TrodAll C r h 0 E true a c k x-> ∃d,tp lD d/\fE (lC h) c d/\k.length=a.length
 | [],[],c,k,x,_,_,y=>by
  obtain⟨rfl,rfl,rfl⟩:=trodAll_nil y;exact⟨[],rfl,fE.nil,rfl⟩
 |b::a,n::lD,c,k,x,F,G,y=>by
  obtain⟨v,P,S,T,V,W,rfl,rfl,rfl,e,f⟩:=trodAll_cons y;obtain⟨L,g,i⟩:=F.1 C h D E v S V (G 0 b v rfl rfl) e;obtain⟨d,j,l,m⟩:=GY a lD P T W F.2 (λo b v p q=>G (o+1) b v (by trivial) (by trivial)) f;exact⟨L::d,⟨L,d,rfl,g,j⟩,(fE.one i).append l,by simp[m]⟩
 | [],_:: _,_,_,_,p,_,_=>p.elim
 | _:: _,[],_,_,_,p,_,_=>p.elim
def a4p {a:MemPlace} (b:h7.heap[a.block]? =l.heap[a.block]?):l.sameAt h7 a:=by
 cases a with
 |cell c off=>show h7.cell? _=l.cell? _;have b:h7.heap[c]? =l.heap[c]? :=b;simp only[World.cell?,b]
 |map c=>exact b
theorem GZ {b:Program}{z:Type}{C:TypeId×Value->z}{D E:World}{y:Nat} (F:laidOutB b=true) (G: ∀c,c<y->E.heap[c]? =D.heap[c]?): ∀(d:List TypeId) (o:List Value) (p:List (DataW z)) (h:List MemPlace),
  (∀a∈d,b.readableRec a=true/\a<b.types.size)->(∀L∈h,L.block<y)->DataW.TrodAll C b D 0 (λ_=>true) true d o p h->DataW.TrodAll C b E 0 (λc=>decide (c<y)) true d o p h
 | [],o,p,h,_,_,k=>by
  obtain⟨rfl,rfl,rfl⟩:=trodAll_nil k;rfl
 |a::d,o,p,h,P,S,k=>by
  obtain⟨v,T,j,V,L,W,rfl,rfl,rfl,e,f⟩:=trodAll_cons k;obtain⟨g,i⟩:=P a a9x;refine trodAll_cons_mk (WideElems.Trod_stays F g i e (λr x=>a4p (G _ (S r (a7f _ x)))) (λr x=>by simp_all)) ?_;exact GZ F G d T V W (λa k=>P a (by simp[k])) (λr x=>S r (a7a _ x)) f
theorem a4q {b:MemPlace->Prop} (c:h7.os=l.os) (d:h7.output=l.output) (h: ∀a,a<l.heap.size->h7.heap[a]? =l.heap[a]?):l.keptBut h7 b:=by refine⟨c,d,λk o=> ?_⟩;grind
variable{I:Bool}{b5:FuncId}{b0:Type}
theorem a4r {L:TypeId×Value->b0}{c:Func}{k:ChangeSpec}{n q:Bool}{C:List (R->Prop)} (s:laidOutB m=true) (t: ∀d∈c.params.toList,m.readableRec d=true/\d<m.types.size)
  (P:k.vars= []) (u:c.resultTypes= #[b2]) (o:m.underlying b2=some .bool) (w:tn m c.params.toList C) (D: ∀a:List (DataW b0),a.length=c.params.toList.length->k.fn b0 a= {results:= [.lit (.bool true)],args:=a,vars:= []})
  (p:U) (b:World) (A:Holds (lC b) p b) (B: ∀h r,p h=some r-> ∃E,r= .ro E)
  (H: ∀x,tp C x->AC m b5 x p λS _=>S= .v (.bool true))
  (K:Nat) (args:Array Value) (a M:List (DataW b0)) (N:List MemPlace) (O: ∀(y:Nat) d v,c.params[y]? =some d->args[y]? =some v->Value.okWide m b .any K d v)
  (T:DataW.Whole L m c.params.toList k.vars I b args.toList a M N):
  Calls m b5 args b λV W=> ∃v,V= .returned v/\k.post L m c I n q false b args v W:=by
 have e:=T;obtain⟨f,k2,g,i,rfl,_,_⟩:=T;rw[P]at i;obtain⟨rfl,rfl⟩:=trodVars_none i;obtain⟨x,Q,X,F⟩:=GY _ C _ _ _ w (λy d v j k3=>O y d v (by simp_all) (by simp_all)) g;have Y:=λZ j9=>e.lt Z (a7f _ j9);refine(H x Q args b (lC b) X.a4l A).mono ?_;rintro V W ⟨v,S,k4,k5,rfl,z,k0,rfl⟩;have k1:v= .bool true:=by cases k0;rfl
 subst k1;have l:=λh o=>by
  cases G:p h with
  |none=>exact z.block h o G
  |some r=>obtain⟨E,rfl⟩:=B h r G;exact(z.jw h E o G).1
 refine⟨_,rfl,a,[],f++ [],[],f,[],e,?_,?_,?_,a4q z.os z.output.1 l,λj=>by cases j⟩
 .rw[a5Z,D a F,u];exact trodAll_cons_mk (shut_bool o true) trodAll_mk0
 .rw[a5Z,D a F];exact GZ s l _ _ _ _ t Y g
 .rw[a5Z,D a F,P];rfl
def a4s {k:TypeId×Value->b0}{a:Func}{h:ChangeSpec}{C D:Bool}{o:List (R->Prop)} (E:laidOutB m=true) (F: ∀d∈a.params.toList,m.readableRec d=true/\d<m.types.size)
  (G:h.vars= []) (L:a.resultTypes= #[b2]) (P:m.underlying b2=some .bool) (S:tn m a.params.toList o) (T: ∀b:List (DataW b0),b.length=a.params.toList.length->h.fn b0 b= {results:= [.lit (.bool true)],args:=b,vars:= []})
  (V: ∀p,tp o p->AC m b5 p U.emp λW _=>W= .v (.bool true))
  (c:World) (r:Nat) (args:Array Value) (b x:List (DataW b0)) (y:List MemPlace) (e: ∀(z:Nat) d v,a.params[z]? =some d->args[z]? =some v->Value.okWide m c .any r d v)
  (f:DataW.Whole k m a.params.toList h.vars I c args.toList b x y):
  Calls m b5 args c λg i=> ∃v,g= .returned v/\h.post k m a I C D false c args v i:=
 a4r E F G L P S T U.emp c (a4k c) (λ_ _ j=>by cases j) V r args b x y e f
open Go
def rr (a:List R):R:=a.headD (.aK [])
end Go.bz
namespace Go.Proofs.YtlgnfcaolejgeaaGreat
open Go Go.bz
variable{b1:Int}
def wf_i64 (b:(Lit.int .i64 b1).wf=true): -9223372036854775808<=b1/\b1<=9223372036854775807:=by
 have a:IntKind.i64.min<=b1/\b1<=9223372036854775807:=by simpa[Lit.wf] using b
 have c:IntKind.i64.min= -9223372036854775808:=a9A;rw[c]at a;exact a
def a4t:tm rr (SInt .i64) 1:=⟨by rintro a ⟨b,_,rfl⟩;rfl,by rintro a ⟨b,_,rfl⟩;rfl⟩
abbrev vF:List R->Prop:=vD rr (SInt .i64)
variable{g B e0:List R}
theorem a4u (o:vF g): ∃h:List Int,dj h/\g= [.J (ad h) .any]:=by
 obtain⟨b,k,p,r⟩:=o;have: ∃a:List Int,dj a/\b.map rr=ad a:=by
  clear p r
  induction b with
  |nil=>exact⟨[],(λF x=>by cases x),rfl⟩
  |cons c b ih=>
   obtain⟨a,y,z⟩:=ih λc C=>k c (by simp[C]);obtain⟨D,E,rfl⟩:=k c a9x;refine⟨D::a,?_,by simp only[a5r,z];rfl⟩;intro v d;rcases a5q.1 d with rfl|d
   .have:=wf_i64 E;omega
   .exact y v d
 simp_all
def a4v:tm rr rq 1:=⟨by rintro a ⟨b,_,rfl⟩;rfl,by rintro a ⟨b,_,rfl⟩;rfl⟩
abbrev vG:List R->Prop:=vD rr rq
theorem a4w (h:vG g): ∃k:List (List UInt8),g= [.J (bE k) .any]:=by
 obtain⟨a,d,o,p⟩:=h;have: ∃b:List (List UInt8),a.map rr=bE b:=by
  clear o p
  induction a with
  |nil=>exact⟨[],rfl⟩
  |cons c a ih=>obtain⟨b,r⟩:=ih λc x=>d c (by simp[x]);obtain⟨y,z,rfl⟩:=d c a9x;exact⟨y::b,by simp only[a5r,r];rfl⟩
 simp_all
abbrev vH:List R->Prop:=vC [vB,rq,vG,vF]
def H0 (b:vH g): ∃a:cN,dj a.d.row/\g=a.C:=by obtain⟨_,_,⟨c,rfl⟩,⟨_,_,⟨d,_,rfl⟩,⟨_,_,h,⟨_,_,k,o,rfl⟩,rfl⟩,rfl⟩,rfl⟩:=b;obtain⟨p,rfl⟩:=a4w h;obtain⟨r,x,rfl⟩:=a4u k;cases o;exact⟨⟨⟨c,d,p,r⟩,.any,.any⟩,x,rfl⟩
def a4x:tm R.agg vH 4:=⟨λb a=>by obtain⟨c,_,rfl⟩:=H0 a;rfl,λb a=>rfl⟩
abbrev vI:List R->Prop:=vD R.agg vH
theorem a4y (p:vI g): ∃d:List cN,(∀h∈d,dj h.d.row)/\d.length<=maxLen/\g= [.J (mx d) .any]:=by
 obtain⟨b,o,r,x⟩:=p;have: ∃a:List cN,a.length=b.length/\b.map R.agg=mx a/\ ∀h∈a,dj h.d.row:=by
  clear r x
  induction b with
  |nil=>exact⟨[],rfl,rfl,λc k=>by cases k⟩
  |cons c b ih=>obtain⟨a,y,z,D⟩:=ih λc k=>o c (by simp[k]);obtain⟨C,E,rfl⟩:=H0 (o c a9x);refine⟨C::a,by simp[y],by rw[a5r,z];rfl,?_⟩;grind
 grind
variable{n b3:R}
theorem a4z (b:A7 vI n): ∃a:List cN,(∀c∈a,dj c.d.row)/\a.length<=9223372036854775807/\n= .J (mx a) .any:=by obtain⟨a,d,h,k⟩:=a4y b;grind[hm,maxLen,List.cons.inj]
def a4A:dc Tryz.prog 5 vB:=dc.byte a9B
def H2:dc Tryz.prog 9 rq:=dc.str a9B
def a4B:dc Tryz.prog 2 (SInt .i64):=dc.int a9B
def a4C:dc Tryz.prog 24 vF:=dc.slice (e:=1) (by kernel_rfl:Tryz.prog.underlying 24=some (.slice 2)) a9B a9w a4t a4B
def a4D:dc Tryz.prog 46 vG:=dc.slice (e:=1) (by kernel_rfl:Tryz.prog.underlying 46=some (.slice 9)) a9B a9w a4v H2
def a4E:dc Tryz.prog 64 vH:=dc.struct (r:= [vB,rq,vG,vF]) Tryz.underlying64 (by
 refine⟨by rfl,a4A,by rfl,H2,by rfl,a4D,by rfl,a4C,(by show _= _;rfl)⟩)
def a4F:dc Tryz.prog 22 vI:=dc.slice (e:=4) (by kernel_rfl:Tryz.prog.underlying 22=some (.slice 64)) a9B a9w a4x a4E
end Go.Proofs.YtlgnfcaolejgeaaGreat
namespace Go.Proofs.YtlgnfcaolejgeaaGreat.statePlays
open Go
def jA:(Rows.statePlaysRow.inPlace==Tryz.prog.inPlace 5)=true:=a9B
def jB:(Rows.statePlaysRow.unfollowed==Tryz.prog.unfollowed 5)=true:=a9B
def jC:(Rows.statePlaysRow.named==Tryz.prog.varsNamed 5)=true:=a9B
def jD:(laidOutB Tryz.prog&&mapsRowed Tryz.prog&&Tryz.f5.params.all (Tryz.prog.readableRec ·)&&namedTie Tryz.prog Rows.statePlaysRow.named Rows.statePlaysSpec.vars&&(Tryz.prog.stops== [])&&(Tryz.prog.stopKnobs== []))=true:=a9B
def sI:(Rows.statePlaysRow.lifted==Tryz.prog.liftsFinal)=true:=a9B
def jF:(Tryz.prog.stopsHeard&&Tryz.prog.mayEnter&&(Tryz.prog.make==some Rows.statePlaysRow.make)&&(Rows.statePlaysRow.pinned==Rows.statePlaysRow.pinnedBy))=true:=a9B
def a4G:joinedFacts Tryz.prog 5 Tryz.f5 Rows.statePlaysSpec Rows.statePlaysRow=true:=by
 unfold joinedFacts;have d:=jA;have a:=jB;have h:=jC;have b:=jD;have k:=sI;have c:=jF;simp only[a4X]at b c;obtain⟨⟨⟨⟨⟨o,p⟩,r⟩,x⟩,y⟩,z⟩:=b;obtain⟨⟨⟨C,D⟩,E⟩,F⟩:=c;have G:(Rows.statePlaysRow.recurses==Tryz.prog.recurses 5)=true:=by have L:Rows.statePlaysRow.unfollowed=Tryz.prog.unfollowed 5:=eq_of_beq a;unfold Program.recurses;rw[<-L];rfl
 rw[d,a,h,o,p,r,x,y,z,k,C,D,E,F,G];decide+kernel
end Go.Proofs.YtlgnfcaolejgeaaGreat.statePlays
