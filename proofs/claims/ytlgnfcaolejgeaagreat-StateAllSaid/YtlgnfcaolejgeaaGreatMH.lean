import Derived.Test.YtlgnfcaolejgeaaGreatMG
import Derived.Test.YtlgnfcaolejgeaaGreatMF
import Derived.Test.YtlgnfcaolejgeaaGreatME
import Derived.Test.YtlgnfcaolejgeaaGreatMD
set_option linter.all false
set_option maxRecDepth 100000
namespace Go.Proofs.YtlgnfcaolejgeaaGreat
open Go Go.bA
def a1r (b:Int) (a:List Int) (d:R) (k:isRow a d) (c:U) (h:Nat) (r:c.read h=some [.v (.int .i64 b)]):
  AC Tryz.prog 181 [d,.ptr h 0] c λo p=>p=c/\o= .v (.bool (!decide ((a.length:Int)=b))):=by
 obtain⟨x,rfl⟩:=k;have y:=bH (q:=a);by_cases z:(a.length:Int)=b
 .refine aO hm Bp ?_
  repeat' first|refine aH (λ_=> ?_) λ_=> ?_|trivial
 .refine aO hm Bp ?_
  repeat' first|refine aH (λ_=> ?_) λ_=> ?_|trivial
theorem z1 (a:Nat) (c:List (List Int)) (h:List R) (r:Own) (d:U) (p:az isRow c h) (x:c.length<=1000000000000) (F:1<=a) (G:a<=8) (L: ∀b∈c,b.length=a):
  AC Tryz.prog 116 [.v (.int .i64 (a:Int)),.J h r] d λb k=>k=d/\b= .v (.bool true):=by
 have P:(1:Int)<=(a:Int):=a9p;have S:(a:Int)<=8:=a9p;refine aO hm MF ?_;refine bq λo y=> ?_;have T:=U.ae (Y:= .cells [.v (.int .i64 (a:Int))]) (U.a1 (f:=d)) y;have c2:=U.ah d o (.cells [.v (.int .i64 (a:Int))]);refine ai (DC c h _ _ p (bS.J (p.cells λ_ _=>isRow.cells)) x (b4:=181) (g:= []) (A:= [.ptr o 0]) (h:=λb=> !decide ((b.length:Int)=(a:Int))) ⟨a9u,λz C k D E=>a1r a z C D k o (U.af (E _ _ c2))⟩) ?_;rintro _ _ ⟨rfl,rfl⟩;have:c.any (λb=> !decide ((b.length:Int)=(a:Int)))=false:=by simp_all
 rw[this];exact aU
def nC (b:Nat) (c:List Int) (d:ag) (a:ay):Except Int ay×ag:=jl b c (a.size.toNat+1) d a 0
def a1s (c:U) (k y:Nat) (z:ag) (D:bB c k y z) (a:ay) (o p r:Own) (E:a.sum.length=32) (n:a.cE) (v:a.size<=2000000) (d:List Int) (F:Own) (b:Nat) (G:1<=b) (L:b<=8) (P:d.length=b):
  AC Tryz.prog 84 [.ptr k 0,.agg (ab a o p r),.J (ad d) F,.v (.int .i64 (b:Int))] c λS q=>oJ c q k y (nC b d z a) S:=by
 have w:=(aX (N:=o) (e5:=p) (h5:=r) E).all;refine aO hm LJ ?_;refine bq λT A=> ?_;refine da λV W B H=> ?_;refine u1 λs I _ _ _ _=> ?_;generalize x:((c.set T _).set V _).set s _=h;have e:c.sub h:=by subst x;exact aU
 have bo:h T=some (.cells (ab a o p r)):=by subst x;exact aU
 have bu:h V=some (.cells (ab aA .nil .nil .nil)):=by subst x;rw[<-cr];exact aU
 clear x;have t:=D.mono e;have C:=D.cG W;have K:=U.af bo;refine bj (z1 b [d] _ _ h ⟨⟨_,rfl⟩,trivial⟩ a9q G L (by simp[P])) ?_;refine ai (Fw k y b G L d F P (a.size.toNat+1) h z t a o p r 0 E n a9p a9p) ?_;rintro S M ⟨u,f,g⟩;obtain⟨N,i,j,l,O,m,rfl⟩:=g.shape;have Q:=U.aJ (f _ _ C.1 C.2 bu);have X:=(aX (N:=i) (e5:=j) (h5:=l) m).all;have Y:=(aX (N:= .nil) (e5:= .nil) (h5:= .nil) bk).len;have Z:=cF (a:= .nil) (b:= .nil) (c:= .nil) (N:=i) (e5:=j) (h5:=l) bk m;refine aa ?_;refine⟨_,U.a1,?_⟩;exact⟨u.set C,((Ext.of e).trans f).eb W,g⟩
variable{w j2:ay}{e i v M c0 j0:Nat}{H:ag}
theorem a1t {h:ag}{k:List Int×Bool}{b:ay} (a:du H e (ck k j2 b)=(.ok w,h)):0<=w.live/\w.live<=3000000:=by
 unfold du at a;split at a
 .cases (a6z a).1
 .rename_i p o;simp only[a5U,Except.ok.injEq]at a;obtain⟨rfl,_⟩:=a;have c:=uw o;have d:=uZ c.ok;have r:=qL (d j2 (by simp[ck]));have x:=qL (d b (by simp[ck]));rw[c.eq];grind[eV,eF,ck,ev,dP]
variable{q b6:List Int}
theorem a1u: ∀ {k:Nat}{c a:ag}{d b:ay}{dep:Nat},gF e q k c d dep=(.ok b,a)-> ∃o p r x,du o e (ck p r x)=(.ok b,a)
 |0,c,a,d,b,dep,h=>by rw[gF]at h;cases (a6z h).1
 |k+1,c,a,d,b,dep,h=>by
  grind[gF,Prod.mk.inj]
def iO (c:Nat) (h:List Int) (k:ag) (d:ay):Except Int ay×ag:=
 match gF c h (d.size.toNat+1) k d 0 with
 |(.error o,a)=>(.error o,a)
 |(.ok b,a)=>if 2*b.live<b.size then kQ a c b 0 else(.ok b,a)
def a1v (S:U) (h T:Nat) (x:ag) (e:bB S h T x) (b:ay) (D E F:Own) (f:b.sum.length=32) (l8:b.cE) (a13:b.size<=2000000) (k:List Int) (O:Own) (a:Nat) (t:1<=a) (u:a<=8) (Q:k.length=a):
  AC Tryz.prog 86 [.ptr h 0,.agg (ab b D E F),.J (ad k) O,.v (.int .i64 (a:Int))] S λv l9=>yZ S l9 h T (iO a k x b) v:=by
 have a14:=(aX (N:=D) (e5:=E) (h5:=F) f).all;refine aO hm LN ?_;refine bq λd w=> ?_;refine da λG g a15 a16=> ?_;refine u1 λn0 a18 _ _ _ _=> ?_;generalize i:((S.set d _).set G _).set n0 _=y;have X:S.sub y:=by subst i;exact aU
 have bo:y d=some (.cells (ab b D E F)):=by subst i;exact aU
 have bu:y G=some (.cells (ab aA .nil .nil .nil)):=by subst i;rw[<-cr];exact aU
 clear i;refine bj (z1 a [k] _ _ y ⟨⟨_,rfl⟩,trivial⟩ a9q t u (by simp[Q])) ?_;refine aP λz L=> ?_;have Y:d≠z:=by rintro rfl;rw[bo]at L;cases L
 have n1:=Y.symm;have Z:G≠z:=by rintro rfl;rw[bu]at L;cases L
 have a19:=Z.symm;have n2:=U.bF X L;have a27:=U.af bo;refine aa ?_;have A:=U.ae (Y:= .cells [.ptr h 0,.v (.int .i64 (a:Int))]) (U.a1 (f:=y)) L;have j9:=U.aq X A;have k0:=A _ _ bo;have n3:=A _ _ bu;have k1:=U.ah y z (.cells [.ptr h 0,.v (.int .i64 (a:Int))]);generalize y.set z _=n4 at*;have n5:=e.mono j9;have a29:=U.af k0;have a30:=U.af k1;have j:=e.cG w;have C:=e.cG g;have k2:=e.cG n2;refine ai (Fy h T a t u k O Q (b.size.toNat+1) n4 x n5 b D E F 0 f l8 a9p a9p) ?_;rintro v V ⟨l,m,k3⟩;have n9:=m _ _ j.1 j.2 k0;have k4:=m _ _ C.1 C.2 n3;have a00:=m _ _ k2.1 k2.2 k1;have a34:=U.aJ n9;have a36:=U.aJ k4;have a38:=(aX (N:= .nil) (e5:= .nil) (h5:= .nil) bk).len;have c:iO a k x b=match gF a k (b.size.toNat+1) x b 0 with
  |(.error B,n)=>(.error B,n)
  |(.ok q,n)=>if 2*q.live<q.size then kQ n a q 0 else(.ok q,n):=rfl
 generalize iO a k x b=a42 at c|-;have a01:d≠G:=a9s;have a02:=a01.symm;have Y:d≠z:=a9s;have Z:G≠z:=a9s;generalize a03:gF a k (b.size.toNat+1) x b 0=a04 at*;obtain⟨oZ,k5⟩:=a04;have k6:=(Ext.of j9).trans m;cases oZ with
 |error B=>
  obtain⟨a05,a06,H,I,K,s,rfl⟩:=k3
  dsimp only at c l
  have M:=cF (a:=D) (b:=E) (c:=F) (N:=H) (e5:=I) (h5:=K) f s;have a43:=cF (a:= .nil) (b:= .nil) (c:= .nil) (N:=H) (e5:=I) (h5:=K) bk s;have a47:=(aX (N:=H) (e5:=I) (h5:=K) s).all;replace c:=c.symm;refine aa ?_;refine⟨_,U.a1,?_⟩;rw[<-c];exact⟨(l.set j).set C,(k6.eb w).eb g,a05,a06,_,_,_,s,rfl⟩
 |ok P=>
  obtain⟨W,k7,o,p,r,rfl⟩:=k3
  dsimp only at c l
  obtain⟨_,_,_,_,k8⟩:=a1u a03;obtain⟨a48,a52⟩:=a1t k8;have a56:=(Ft k8).2.2.2;have M:=cF (a:=D) (b:=E) (c:=F) (N:=o) (e5:=p) (h5:=r) f W;have a57:=(aX (N:=o) (e5:=p) (h5:=r) W).all;replace c:=c.symm;refine aa ?_;have k9:bB (V.set d (.cells (ab P o p r))) h T k5:=l.set j;have a07:=U.ah V d (.cells (ab P o p r));have l0:(V.set d (.cells (ab P o p r))) G=some (.cells (ab aA .nil .nil .nil)):=by rw[U.an _ _ a02];exact k4
  have a08:(V.set d (.cells (ab P o p r))) z=some (.cells [.ptr h 0,.v (.int .i64 (a:Int))]):=by rw[U.an _ _ n1];exact a00
  have l1:=k6.eb (Y:= .cells (ab P o p r)) w;generalize V.set d _=a09 at*;have a61:=U.af a07;have a62:=U.af a08;have a10:=U.aJ l0;refine aH (λN=> ?_) λN=> ?_
  .rw[if_pos N]at c;refine ai (Fs a09 h T k5 k9 P o p r W k7 a t u 0 a9p a9p) ?_;rintro v a63 ⟨a11,l2,l3⟩;obtain⟨a65,l4,l5,l6,B,l7,rfl⟩:=l3.shape;have a10:=U.aJ (l2 _ _ C.1 C.2 l0);have a68:=(aX (N:=l4) (e5:=l5) (h5:=l6) l7).all;have M:=cF (a:= .nil) (b:= .nil) (c:= .nil) (N:=l4) (e5:=l5) (h5:=l6) bk l7;refine aa ?_;refine⟨_,U.a1,?_⟩;rw[<-c];exact⟨a11.set C,(l1.trans l2).eb g,l3.x⟩
  .rw[if_neg N]at c;have M:=cF (a:= .nil) (b:= .nil) (c:= .nil) (N:=o) (e5:=p) (h5:=r) bk W;refine⟨_,U.a1,?_⟩;rw[<-c];exact⟨k9.set C,l1.eb g,W,k7,_,_,_,rfl⟩
end Go.Proofs.YtlgnfcaolejgeaaGreat
namespace Go.bA
open Go
variable{n b3:R}{f t e7:U}{m:Program}
theorem a1w {p:Shelf.Ren} (C:Proofs.SlLaysF.n6 m p) (D:(∃r,n= .J [] r)\/ ∃x a h,n= .al x 0 a h):AC m (p.f 6) [n,b3] f λE F=>F=f/\E= .aL []:=by
 intro c G L k P;have o:=k.2 0 _ rfl;have S:c.size=2:=k.1;generalize T:c.getD 0 undef=V at o;generalize W:c.getD 1 undef=y;have e: ∃d a,V= .slice d 0 a:=by
  rcases D with ⟨r,rfl⟩|⟨x,a,h,rfl⟩
  .cases o with
   |di n a dn k g=>exact⟨_,_,rfl⟩
   |J j off len a h l xs dn hk hlen q s t hH u g=>simp_all
  .cases o;exact⟨_,_,rfl⟩
 obtain⟨d,a,rfl⟩:=e;have aj:c= #[.slice d 0 a,y]:=by
  apply Array.ext
  .exact S
  .intro z b v
   match z,b with
   |0,b=>rw[<-T];simp[Array.getD,b]
   |1,b=>rw[<-W];simp[Array.getD,b]
   |z+2,b=>omega
 rw[aj];refine(Proofs.AnyF.slices_SortFunc_none {C with} d a y G).mono ?_;rintro w A ⟨rfl,rfl⟩;exact⟨_,.aL [],L,f,rfl,.refl P,.aL #[] [] rfl (λB H i=>by simp at i),rfl,rfl⟩
end Go.bA
namespace Go.Proofs.YtlgnfcaolejgeaaGreat
open Go Go.bA
def a1x (a b:List Int) (d h:Own) (c:U) (k:a.length<=1000000000000):AC Tryz.prog 119 [.J (ad a) d,.J (ad b) h] c λo p=>p=c/\o= .v (.int .i64 (fQ a b)):=by
 refine aO hm MJ ?_;refine bj (EF a b d h c k) ?_
 repeat' first|refine aH (λ_=> ?_) λ_=> ?_|trivial
theorem a1y (d:U) (F l:Nat) (o:ag) (I:bB d F l o) (a:ay) (p r x:Own) (m:a.sum.length=32) (K:a.cE) (k5:a.size<=2000000) (b:Nat) (n:1<=b) (q:b<=8) (D:List (List Int)) (M: ∀c,ek o b (a.size.toNat+1) a=some c->D.Perm c/\D.Pairwise λN e=> ¬fQ e N<0):
  AC Tryz.prog 62 [.ptr F 0,.agg (ab a p r x),.v (.int .i64 (b:Int))] d λk y=>d.sub y/\match ek o b (a.size.toNat+1) a with
   |none=>k= .aL [.J [] .nil,.v (.int .i64 21)]
   |some _=> ∃h,k= .aL [.J h .any,.v (.int .i64 0)]/\az isRow D h:=by
 have O:AC Tryz.prog 62 [.ptr F 0,.agg (ab a p r x),.v (.int .i64 (b:Int))] d λk y=>match ek o b (a.size.toNat+1) a with
   |none=>d.sub y/\k= .aL [.J [] .nil,.v (.int .i64 21)]
   |some _=> ∃z h G,k= .aL [z,.v (.int .i64 0)]/\View y z G (.J h .any)/\d.sub G/\az isRow D h:= ?_
 .refine O.view λk y L=> ?_;cases C:ek o b (a.size.toNat+1) a with
  |none=>grind[View.refl]
  |some c=>rw[C]at L;obtain⟨z,h,G,rfl,Q,f,g⟩:=L;exact⟨_,_,View.aL (a:= []) Q,f,h,rfl,g⟩
 have k6:=(aX (N:=p) (e5:=r) (h5:=x) m).all;refine aO hm La ?_;refine bq λs X=> ?_;have P:=U.ae (Y:= .cells (ab a p r x)) (U.a1 (f:=d)) X;have aM:=U.ah d s (.cells (ab a p r x));generalize d.set s _=t at*;have k7:=U.af aM;refine bj (z1 b [] [] _ t trivial a9q n q a9q) ?_;refine ai (yX F l o b n q (a.size.toNat+1) t (I.mono P) a p r x m K a9p) ?_;rintro k G ⟨f,S⟩;cases C:ek o b (a.size.toNat+1) a with
 |none=>rw[C]at S;obtain rfl:=S;refine aa ?_;exact U.aq P f
 |some c=>
  rw[C]at S;obtain⟨h,z,rfl,i,u⟩:=S;obtain⟨j,Y⟩:=M c C;obtain⟨k8,Z⟩:=ra C;by_cases v:c= []
  .subst v;obtain rfl:h= []:=a4N u.len;obtain rfl:D= []:=j.eq_nil;have j9:(∃T,z= .J [] T)\/ ∃c V a,z= .al c 0 V a:=by
    rcases i.2 with ⟨_,W|W⟩|⟨c,w,V,k9,W,_,_,_,_,l0,_⟩
    .exact .inl ⟨_,W⟩
    .exact .inl ⟨_,W⟩
    simp_all
   refine aa ?_;refine ai (a1w Tryz.EV j9) ?_;rintro _ _ ⟨rfl,rfl⟩;refine aa ?_;obtain⟨w,l1,l2,k0,E⟩:=View.dV i;have:dK 1 w ([]:List R)= []:=by rw[ky,a9c]
   rw[this]at E;exact⟨_,U.a1,_,_,_,rfl,E,U.aq P k0,trivial⟩
  .obtain⟨e,V,rfl,l3,k1⟩:=Fp (f:=λ_=>none) (a1e b) i u Z a9p v j Y 119 [] (λA T B=>by cases B) (λe=> .inl rfl) a9u (λA k2 T k3 B l4=>(a1x A k2 T k3 _ a9p).mono λk y L=>L.2);refine aa ?_;refine ai k1 ?_;rintro _ l5 ⟨rfl,g,_,l6,l7,H,k4,_⟩;have l8:=H.len;have l9:=j.length_eq;have E:=View.Fo (e:=c.length) (c0:=V) (i:=1) k4 (by rw[a4J];omega);rw[ky,a6F a9p]at E;refine aa ?_;exact⟨_,U.a1,_,_,_,rfl,E,U.aq P g,H⟩
theorem a1z:cU ([],[]) ([],[])=(([],[]):List Int×List Int):=rfl
variable{e i v M c0 j0:Nat}
theorem Fz {a:List Int×List Int} (b:hg e a):cU a ([],[])=a:=by have c:=lr.1 b.ok;have d:cT ([]:List Int) [] ([]:List Int).length=false:=rfl;unfold cU;rw[c.2.2.1,if_pos b.ok,if_neg (by rw[d];simp)]
def aD.rows:aD->List (List Int)
 | .nil=> []
 | .node a _ b c=>a::(b.rows++c.rows)
theorem aD.gG: ∀ {c:aD}{b:List Int},b∈c.all->b∈c.rows
 | .nil,b,a=>a
 | .node d live h k,b,a=>by
  simp only[aD.all,a5a]at a;simp only[aD.rows,a5i,a5a];rcases a with (a|a)|a
  .exact .inr (.inl (aD.gG a))
  .exact .inr (.inr (aD.gG a))
  .cases live<;>simp at a;exact .inl a
def aD.c8 (a:Nat) (b:aD):Prop:= ∀c∈b.rows,bN a c
def aD.c8.a {a:Nat}{c:List Int}{d:Bool}{b h:aD} (k:(aD.node c d b h).c8 a):b.c8 a:=λo p=>k o (by simp[aD.rows,p])
def aD.c8.b {a:Nat}{c:List Int}{d:Bool}{h b:aD} (k:(aD.node c d h b).c8 a):b.c8 a:=λo p=>k o (by simp[aD.rows,p])
def aD.c8.r {b:Nat}{a:List Int}{c:Bool}{d h:aD} (k:(aD.node a c d h).c8 b):bN b a:=k a (by simp[aD.rows])
variable{I:Bool}{a8:aD}{q b6:List Int}
def aD.c8.mk {b:aD} (d:bN e q) (h:a8.c8 e) (k:b.c8 e):(aD.node q I a8 b).c8 e:=λc a=>by
 simp only[aD.rows,a5i,a5a]at a;rcases a with rfl|a|a
 .exact d
 .exact h c a
 .exact k c a
theorem aD.c8.ok {b:Nat}: ∀ {c:aD},c.c8 b->c.Ok b
 | .nil,_=>trivial
 | .node _ _ _ _,a=>⟨a.r.len,a.a.ok,a.b.ok⟩
def bm:aD->ay
 | .nil=>aA
 | .node a live b c=>eV (ck (a,live) (bm b) (bm c))
structure jn (d:Nat) (t:aD) (k:ay):Prop where
 sum:k.sum.length=32
 live:k.live=(t.all.length:Int)
 size:k.size=(t.size:Int)
 aQ:(t.all.length=0/\k.aV= []/\k.aW= [])\/(0<t.all.length/\hg d (k.aV,k.aW))
 key:k.key= []
 z:t= .nil->k=aA
theorem jn.ok {c:Nat}{a:aD}{d:ay} (b:jn c a d) (y:a.size<=1048576):fo c d=true:=by
 have z:=b.size;have C:=b.live;have D:=ly a;unfold fo;cases a with
 |nil=>rw[decide_eq_true (b.z rfl),a9n]
 |node h k o p=>
  have E:1<=(aD.node h k o p).size:=by simp only[aD.size];omega
  generalize aD.node h k o p=a at*;rw[a6s];right;rw[a4K];refine⟨a9r,?_⟩;rcases b.aQ with ⟨x,r,F⟩|⟨x,r⟩;grind
  .rw[if_neg a9p];exact r.ok
variable{w j2:ay}
theorem jn.kK (a:jn e a8 w) (p:a8.size<=1048576):w.In e:=by
 have r:=a.size;have x:=a.live;have y:=ly a8;have b:cK w.aV/\cK w.aW/\w.aV.length<=e/\w.aW.length<=e:=by
  rcases a.aQ with ⟨h,c,z⟩|⟨h,c⟩;grind
  .have d:=lr.1 c.ok;have C:w.aV.length=e:=d.2.2.1;have D:w.aW.length=e:=d.2.2.2.1;exact⟨c.aV,c.aW,a9p,a9p⟩
 have k:cK w.key:=by rw[a.key];intro E o;cases o
 exact⟨a.sum,b.1,b.2.1,k,b.2.2.1,b.2.2.2,by rw[a.key];exact a5o _,a9p,a9p,a9p,a9p⟩
theorem z6 {a:gf} (d:mi i e a) (k:jn i a8 w):mi i (e+a8.all.length) (ev a w):=by
 have o:(ev a w).live=((e+a8.all.length:Nat):Int):=by show a.live+w.live= _;rw[d.live,k.live];push_cast;rfl
 refine⟨o,?_⟩;show(e+a8.all.length=0/\cU a.aQ (w.aV,w.aW)=([],[]))\/(0<e+a8.all.length/\hg i (cU a.aQ (w.aV,w.aW)));rcases k.aQ with ⟨p,b,r⟩|⟨p,b⟩
 .rw[b,r];rcases d.aQ with ⟨h,c⟩|⟨h,c⟩;grind[a1z];grind[Fz]
 .right;refine⟨a9p,?_⟩;rcases d.aQ with ⟨h,c⟩|⟨h,c⟩
  .rw[c,py b];exact b
  .exact y4 c b
def z7:jn e .nil aA:=⟨rfl,rfl,rfl,.inl ⟨rfl,rfl,rfl⟩,rfl,λ_=>rfl⟩
def v8 (C:1<=e) (D:e<=8) {a:aD} (k:bN e q) (b:jn e a8 w) (c:jn e a j2) (T:a8.size+a.size<1048576):
  (ck (q,I) w j2).In e/\jn e (.node q I a8 a) (eV (ck (q,I) w j2))/\fJ e (ck (q,I) w j2)=some (eV (ck (q,I) w j2)):=by
 have p:dW e (ck (q,I) w j2)=true:=by unfold dW ck;simp[k.len,b.ok a9p,c.ok a9p,b.key,c.key]
 have r:=y5 C D k;have E:mi e (if I=true then 1 else 0) (dP ⟨0,1,([],[])⟩ (q,I)):=by
  cases I with
  |false=>exact⟨rfl,.inl ⟨rfl,rfl⟩⟩
  |true=>refine⟨rfl,.inr ⟨a9t,?_⟩⟩;show hg e (cU ([],[]) (gr q));rw[py r];exact r
 have o:=z6 (z6 E b) c;have x:eF (ck (q,I) w j2)=ev (ev (dP ⟨0,1,([],[])⟩ (q,I)) w) j2:=rfl;have F:(aD.node q I a8 a).all.length=(if I=true then 1 else 0)+a8.all.length+a.all.length:=by simp only[aD.all,a4J];split<;>simp<;>omega
 rw[<-x,<-F]at o;have y:(eF (ck (q,I) w j2)).size=((aD.node q I a8 a).size:Int):=by
  rw[x];have d:(dP ⟨0,1,([],[])⟩ (q,I)).size=1:=by cases I<;>rfl
  show(dP ⟨0,1,([],[])⟩ (q,I)).size+w.size+j2.size= _;rw[d,b.size,c.size,aD.size];push_cast;rfl
 refine⟨⟨p,λG L=> ?_,λz P=> ?_⟩,⟨og _,o.live,y,?_,?_,λS=>by cases S⟩,?_⟩
 .obtain rfl:G=(q,I):=by simpa[ck] using L
  exact k.jU
 .have:z=w\/z=j2:=by simpa[ck] using P
  rcases this with rfl|rfl
  .exact b.kK a9p
  .exact c.kK a9p
 .rcases o.aQ with ⟨d,h⟩|⟨d,h⟩
  .left;refine⟨d,?_,?_⟩
   .show(eF _).aQ.1= [];rw[h]
   .show(eF _).aQ.2= [];rw[h]
  .exact .inr ⟨d,h⟩
 .show keyOf (ck (q,I) w j2)= [];unfold keyOf ck;rfl
 .unfold fJ;rw[if_pos p,if_neg (by rw[y];simp only[aD.size];omega)]
def fh {a:Nat} (c:1<=a) (d:a<=8): ∀ {b:aD},b.c8 a->b.size<=1048576->jn a b (bm b)
 | .nil,_,_=>z7
 | .node o live p r,h,k=>by
  simp only[aD.size]at k;exact(v8 c d h.r (fh c d h.a a9p) (fh c d h.b a9p) a9p).2.1
def ec (a:ag):aD->Prop
 | .nil=>True
 | .node d live b c=>a.m (eU (db (ck (d,live) (bm b) (bm c))))=some (db (ck (d,live) (bm b) (bm c)))/\ec a b/\ec a c
def ec.mono {c d:ag} (a:c.le d): ∀ {h:aD},ec c h->ec d h
 | .nil,_=>trivial
 | .node _ _ _ _,b=>⟨a.m _ _ b.1,b.2.1.mono a,b.2.2.mono a⟩
def z8 (c:1<=e) (d:e<=8) {a:aD} (h:(aD.node q I a8 a).c8 e) (k:(aD.node q I a8 a).size<=1048576):bm (.node q I a8 a)≠aA:=λo=>by
 have b:=(fh c d h k).size;rw[o]at b;have:(aA).size=0:=rfl;simp only[aD.size]at b;omega
variable{H:ag}
def ta (b:1<=e) (c:e<=8) {a:aD} (d:(aD.node q I a8 a).c8 e) (h:(aD.node q I a8 a).size<=1048576) (k:ec H (.node q I a8 a)):fp H e (bm (.node q I a8 a))=some (ck (q,I) (bm a8) (bm a)):=by have o:=h;simp only[aD.size]at o;obtain⟨p,x,r⟩:=v8 (I:=I) b c d.r (fh b c d.a a9p) (fh b c d.b a9p) a9p;unfold fp;rw[show H.m (bm (.node q I a8 a)).sum=some (db (ck (q,I) (bm a8) (bm a)))from k.1];simp only;rw[D2 a9p p];simp only;rw[r];exact if_pos rfl
def va (b:1<=e) (c:e<=8) {a:aD} (d:(aD.node q I a8 a).c8 e) (h:(aD.node q I a8 a).size<=1048576) (k:ec H (.node q I a8 a)):kL H e (bm (.node q I a8 a))=some ((q,I),[bm a8,bm a]):=by unfold kL;rw[ta b c d h k];rfl
theorem za {b:Nat} (c:1<=b) (d:b<=8) {x:ag}: ∀ {a:aD}{z:Nat},a.c8 b->a.size<=1048576->ec x a->a.size<z-> ∃y,ek x b z (bm a)=some y/\y.Perm a.all
 |a,0,_,_,_,C=>by omega
 | .nil,z+1,_,_,_,_=>⟨[],by rw[ek];exact if_pos rfl,.refl _⟩
 | .node E live h k,z+1,o,p,r,C=>by
  have F:=fh c d o p;have G:=p;simp only[aD.size]at G C;rw[ek];by_cases D:(bm (.node E live h k)).live=0
  .rw[if_pos D];have S:=F.live;simp_all
  .rw[if_neg D,va c d o p r];obtain⟨T,L,V⟩:=za c d (z:=z) o.a a9p r.2.1 a9p;obtain⟨W,P,e⟩:=za c d (z:=z) o.b a9p r.2.2 a9p
   dsimp only
   rw[show [bm h,bm k].getD 0 aA=bm h from rfl,show [bm h,bm k].getD 1 aA=bm k from rfl,L,P];refine⟨_,rfl,?_⟩;grind[aD.all,List.append_assoc]
def FA (a:1<=e) (b:e<=8) (c:a8.c8 e) (d:a8.size<=1048576) (k:ec H a8): ∃h,ek H e ((bm a8).size.toNat+1) (bm a8)=some h/\h.Perm a8.all:=by have o:=(fh a b c d).size;exact za a b c d k a9p
structure gi (a:ag) (t:aD) (r:Except Int ay×ag):Prop where
 le:a.le r.2
 ins:r.2.one=false->r.1= .ok (bm t)/\ec r.2 t
def gi.bind {o:aD}{h:Except Int ay×ag}{k:ay->ag->Except Int ay×ag} (c:gi H a8 h) (p: ∀(b:ay) (a:ag),a.le (k b a).2) (y: ∀a,H.le a->a.one=false->ec a a8->gi a o (k (bm a8) a)):
  gi H o (match(generalizing:=false) h with
   |(.error r,a)=>(.error r,a)
   |(.ok b,a)=>k b a):=by
 obtain⟨z,a⟩:=h;cases z with
 |error r=>exact⟨c.le,λd=>by cases (c.ins d).1⟩
 |ok b=>refine⟨c.le.trans (p b a),λd=> ?_⟩;have x:=(p b a).zero d;obtain⟨C,D⟩:=c.ins x;obtain rfl:=Except.ok.inj C;exact(y a c.le x D).ins d
theorem vb (c:Nat): ∀(k:Nat) (d:ag) (b:List (List Int)) (dep:Nat),d.le (iN c k d b dep).2
 |0,d,_,_=>ag.le_refl
 |k+1,d,b,dep=>by
  rw[iN];split
  .exact ag.le_refl
  have h:=vb c k d ((dI (dep%c) b).take (b.length/2)) (dep+1);split
  .rename_i a;rw[a]at h;exact h
  rename_i r p a;rw[a]at h;have o:=vb c k p ((dI (dep%c) b).drop (b.length/2+1)) (dep+1);split
  .rename_i a;rw[a]at o;exact h.trans o
  rename_i x y a;rw[a]at o;exact(h.trans o).trans (jW)
theorem vc (a:ag) (b:Nat) (c:ay) (d:Nat):a.le (kQ a b c d).2:=by grind[kQ,ag.le_refl,vb]
theorem tb (b:ag) (d:Nat) (h:List Int×Bool) (k o:ay) (p:Nat):b.le (kR b d h k o p).2:=by
 unfold kR;have a:=jW (H:=b) (e:=d) (e0:=ck h k o);split
 .rename_i c;rw[c]at a;exact a
 rename_i c;rw[c]at a;split
 .exact a.trans (vc _ _ _ _)
 .exact a
def rb (b:1<=e) (c:e<=8) {a:aD} (d:(aD.node q I a8 a).c8 e) (k:(aD.node q I a8 a).size<=1048576) (o:ec H a8) (p:ec H a):gi H (.node q I a8 a) (du H e (ck (q,I) (bm a8) (bm a))):=by simp only[aD.size]at k;obtain⟨y,z,r⟩:=v8 (I:=I) b c d.r (fh b c d.a a9p) (fh b c d.b a9p) a9p;rw[oz r];have h:=lu H (db (ck (q,I) (bm a8) (bm a)));exact⟨h,λx=>⟨rfl,qT x,o.mono h,p.mono h⟩⟩
theorem re {h:Nat}: ∀ {k:Nat}{b:List (List Int)}{dep:Nat}{c:List Int},c∈(fC h k b dep).rows->c∈b
 |0,_,_,_,a=>by simp[fC,aD.rows]at a
 |k+1,b,dep,c,a=>by
  rw[fC]at a;by_cases d:b= []
  .rw[if_pos d]at a;simp[aD.rows]at a
  rw[if_neg d]at a;have o:0<b.length:=a5S.2 d;have p:=pB (dep%h) b;simp only[aD.rows,a5i,a5a]at a;rcases a with rfl|a|a
  .rw[a5s,a4H a9p];exact qY.1 (a5m _)
  .exact qY.1 (a4Z (re a))
  .exact qY.1 (a5n (re a))
def zb (b:Nat) (a:List (List Int)) (c:Nat) (d: ∀h∈a,bN e h):(fC e b a c).c8 e:=λk o=>d k (re o)
theorem zc {b:Nat} (E:1<=b) (F:b<=8): ∀(d:Nat) (x:ag) (a h:List (List Int)) (dep:Nat),h.Perm a->(∀c∈a,bN b c)->a.length<=d->a.length<=1048576->gi x (fC b d a dep) (iN b d x h dep)
 |0,x,a,h,dep,_,_,_,_=>⟨ag.le_refl,λ_=>⟨rfl,trivial⟩⟩
 |d+1,x,a,h,dep,y,z,s,t=>by
  have T:=y.length_eq;by_cases D:a= []
  .subst D;obtain rfl:h= []:=y.eq_nil;rw[iN,if_pos rfl,fC,if_pos rfl];exact⟨ag.le_refl,λ_=>⟨rfl,trivial⟩⟩
  have V:h≠ []:=λW=>D (by subst W;exact y.symm.eq_nil);have u:0<a.length:=a5S.2 D;have e:dI (dep%b) h=dI (dep%b) a:=by obtain⟨G,f⟩:=sZ (i:=b) (e:=dep%b) (O:=a) λo C=>(z o C).len;obtain⟨g,i⟩:=sZ (i:=b) (e:=dep%b) (O:=h) λo C=>(z o (y.mem_iff.1 C)).len;exact yU (pJ b _) (λo C=>(z o (G.mem_iff.1 C)).len) (g.trans (y.trans G.symm)) f i
  rw[iN,if_neg V,fC,if_neg D,e,T];have v:=pB (dep%b) a;have hm:=λo=>qY (e:=dep%b) (O:=a) (q:=o);generalize dI (dep%b) a=k at*;have L: ∀c∈k.take (a.length/2),bN b c:=λc p=>z c ((hm c).1 (a4Z p));have P: ∀c∈k.drop (a.length/2+1),bN b c:=λc p=>z c ((hm c).1 (a5n p));have w:(k.take (a.length/2)).length=a.length/2:=by rw[a4L];omega
  have A:(k.drop (a.length/2+1)).length=a.length -(a.length/2+1):=by rw[a4V];omega
  have B:=qZ b d (k.take (a.length/2)) (dep+1);have H:=qZ b d (k.drop (a.length/2+1)) (dep+1);have j:bN b (k.getD (a.length/2) []):=by grind
  refine gi.bind (zc E F d x _ _ (dep+1) (.refl _) L a9p a9p) (λl S=> ?_) λm I K n=> ?_
  .have r:=vb b d S (k.drop (a.length/2+1)) (dep+1);split
   .rename_i p;rw[p]at r;exact r
   .rename_i p;rw[p]at r;exact r.trans (jW)
  .refine gi.bind (zc E F d m _ _ (dep+1) (.refl _) P a9p a9p) (λl S=>jW) λM r N q=> ?_;exact rb E F (aD.c8.mk j (zb _ _ _ L) (zb _ _ _ P)) (by simp only[aD.size];omega) (n.mono r) q
def FB (b:1<=e) (c:e<=8) (d:a8.c8 e) (k:a8.size<=1048576) (o:ec H a8) (a:Nat):gi H (fC e a8.all.length a8.all a) (kQ H e (bm a8) a):=by
 obtain⟨y,p,h⟩:=FA b c d k o;have z:=ly a8;unfold kQ;rw[p]
 dsimp only
 rw[h.length_eq];exact zc b c _ H _ _ a h (λr x=>d r (aD.gG x)) (a5k _) a9p
theorem zd (c:1<=e) (d:e<=8) {a:aD} (b:(aD.node q I a8 a).c8 e) (k:(aD.node q I a8 a).size<=1048576) (x:ec H a8) (y:ec H a) (o:Nat):gi H (hD e (.node q I a8 a) o) (kR H e (q,I) (bm a8) (bm a) o):=by
 have z:=k;simp only[aD.size]at z;have E:=(fh c d b k).size;have F:=(fh c d b.a a9p).size;have G:=(fh c d b.b a9p).size;unfold kR;refine gi.bind (k:=λh p=>if(2*h.size).tdiv 3+1<max (bm a8).size (bm a).size then kQ p e h o else(.ok h,p)) (rb c d b k x y) (λh p=> ?_) λL P S C=> ?_;grind[vc,ag.le_refl]
 .have D:((2*(bm (.node q I a8 a)).size).tdiv 3+1<max (bm a8).size (bm a).size)↔max a8.size a.size>2*(aD.node q I a8 a).size/3+1:=by grind
  unfold hD
  dsimp only
  by_cases r:max a8.size a.size>2*(aD.node q I a8 a).size/3+1;simp_all [if_pos,FB]
  .rw[if_neg (λb=>r (D.1 b)),if_neg r];exact⟨ag.le_refl,λ_=>⟨rfl,C⟩⟩
theorem ze (a:q∈(hD e a8 i).rows):q∈a8.rows:=by unfold hD at a;grind[aD.gG,re]
theorem tc {h:Nat}{d:List Int}: ∀ {r:aD}{dep:Nat}{c:List Int},c∈(dd h d r dep).1.rows->c=d\/c∈r.rows
 | .nil,dep,c,b=>by
  grind[dd,aD.rows,List.mem_singleton]
 | .node k live o p,dep,c,b=>by
  rw[dd]at b;split at b
  .have:=ze (a8:= .node k true o p) b;exact .inr this
  split at b
  .have a:=ze (a8:= .node k live (dd h d o (dep+1)).1 p) b;simp only[aD.rows,a5i,a5a]at a|-;rcases a with a|a|a
   .exact .inr (.inl a)
   .exact(tc a).imp_right λb=> .inr (.inl b)
   .exact .inr (.inr (.inr a))
  .have a:=ze (a8:= .node k live o (dd h d p (dep+1)).1) b;simp only[aD.rows,a5i,a5a]at a|-;rcases a with a|a|a
   .exact .inr (.inl a)
   .exact .inr (.inr (.inl a))
   .exact(tc a).imp_right λb=> .inr (.inr b)
def pL (b:bN e q) (c:a8.c8 e):(dd e q a8 i).1.c8 e:=λd a=>by
 rcases tc a with rfl|a
 .exact b
 .exact c d a
theorem zf {h:Nat}{k:List Int}: ∀(d:Nat) (c:ag) (o:ay) (dep:Nat),c.le (jl h k d c o dep).2
 |0,c,_,_=>ag.le_refl
 |d+1,c,o,dep=>by
  rw[jl];split
  .exact jW
  split
  .exact ag.le_refl
  rename_i r p x;split;grind[ag.le_refl,tb];split
  .have a:=zf (h:=h) (k:=k) d c (p.getD 0 aA) (dep+1);split
   .rename_i b;rw[b]at a;exact a
   .rename_i b;rw[b]at a;exact a.trans (tb _ _ _ _ _ _)
  .have a:=zf (h:=h) (k:=k) d c (p.getD 1 aA) (dep+1);split
   .rename_i b;rw[b]at a;exact a
   .rename_i b;rw[b]at a;exact a.trans (tb _ _ _ _ _ _)
def zg {h:Nat}{k:List Int}: ∀(d:Nat) (c:ag) (o:ay) (dep:Nat),c.le (gF h k d c o dep).2
 |0,c,_,_=>ag.le_refl
 |d+1,c,o,dep=>by
  rw[gF];split
  .exact ag.le_refl
  split
  .exact ag.le_refl
  rename_i r p x;split
  .split
   .exact jW
   .exact ag.le_refl
  split
  .have a:=zg (h:=h) (k:=k) d c (p.getD 0 aA) (dep+1);split
   .rename_i b;rw[b]at a;exact a
   .rename_i b;rw[b]at a;exact a.trans (jW)
  .have a:=zg (h:=h) (k:=k) d c (p.getD 1 aA) (dep+1);split
   .rename_i b;rw[b]at a;exact a
   .rename_i b;rw[b]at a;exact a.trans (jW)
theorem a1A (b:ag) (c:ay):b.le (iO e q b c).2:=by
 unfold iO;have a:=zg (h:=e) (k:=q) (c.size.toNat+1) b c 0;split
 .rename_i d;rw[d]at a;exact a
 rename_i d;rw[d]at a;split
 .exact a.trans (vc _ _ _ _)
 .exact a
def zh {b:Nat} (c:1<=b) (d:b<=8) {h:List Int} (D:bN b h): ∀(k:aD) (o:ag) (y dep:Nat),k.c8 b->k.size+1<=1048576->ec o k->k.size<y->(dd b h k dep).2=true->gi o (dd b h k dep).1 (jl b h y o (bm k) dep)
 |k,o,0,dep,_,_,_,S,_=>by omega
 | .nil,o,y+1,dep,_,_,_,_,_=>by
  rw[jl,if_pos (show bm .nil=aA from rfl),dd];exact rb (a8:= .nil) (a:= .nil) c d (aD.c8.mk D (λT G=>by cases G) (λT G=>by cases G)) (by simp[aD.size]) trivial trivial
 | .node F live z C,o,y+1,dep,a,V,p,S,r=>by
  have W:=V;simp only[aD.size]at W S;rw[jl,if_neg (z8 c d a a9p),va c d a a9p p]
  dsimp only
  rw[show [bm z,bm C].getD 0 aA=bm z from rfl,show [bm z,bm C].getD 1 aA=bm C from rfl];rw[dd]at r|-;by_cases x:F=h
  .simp only[if_pos x]at r|-;have e:live=false:=by cases live<;>simp at r|-
   rw[if_neg (by rw[e];simp)];exact zd c d (aD.c8.mk a.r a.a a.b) (by simp only[aD.size];omega) p.2.1 p.2.2 dep
  .by_cases c2:cN (dep%b) h F<0
   .simp only[if_neg x,if_pos c2]at r|-;have f:=pC b h z (dep+1);exact gi.bind (k:=λx E=>kR E b (F,live) x (bm C) dep) (zh c d D z o y (dep+1) a.a a9p p.2.1 a9p r) (λg E=>tb _ _ _ _ _ _) λi L j P=>zd c d (aD.c8.mk a.r (pL D a.a) a.b) (by simp only[aD.size];omega) P (p.2.2.mono L) dep
   .simp only[if_neg x,if_neg c2]at r|-;have f:=pC b h C (dep+1);exact gi.bind (k:=λx E=>kR E b (F,live) (bm z) x dep) (zh c d D C o y (dep+1) a.b a9p p.2.2 a9p r) (λg E=>tb _ _ _ _ _ _) λi L j P=>zd c d (aD.c8.mk a.r a.a (pL D a.b)) (by simp only[aD.size];omega) (p.2.1.mono L) P dep
def td {b:Nat}{c:List Int}: ∀ {a:aD}{dep:Nat},(cm b c a dep).1.rows=a.rows
 | .nil,dep=>rfl
 | .node d live h k,dep=>by
  rw[cm];split
  .rfl
  split
  .show _::(_++ _)= _::(_++ _);rw[td]
  .show _::(_++ _)= _::(_++ _);rw[td]
def te (a:a8.c8 e):(cm e q a8 i).1.c8 e:=λb c=>a b (by rwa[td]at c)
def zi {b:Nat} (k:1<=b) (o:b<=8) {p:List Int}: ∀(d:aD) (h:ag) (y dep:Nat),d.c8 b->d.size<=1048576->ec h d->d.size<y->(cm b p d dep).2=true->gi h (cm b p d dep).1 (gF b p y h (bm d) dep)
 |d,h,0,dep,_,_,_,P,_=>by omega
 | .nil,h,y+1,dep,_,_,_,_,c=>by rw[cm]at c;cases c
 | .node E live z C,h,y+1,dep,a,F,r,P,c=>by
  have S:=F;simp only[aD.size]at S P;rw[gF,if_neg (z8 k o a F),va k o a F r]
  dsimp only
  rw[show [bm z,bm C].getD 0 aA=bm z from rfl,show [bm z,bm C].getD 1 aA=bm C from rfl];rw[cm]at c|-;by_cases x:E=p
  .simp only[if_pos x]at c|-;rw[if_pos c];exact rb k o (aD.c8.mk a.r a.a a.b) (by simp only[aD.size];omega) r.2.1 r.2.2
  .by_cases c2:cN (dep%b) p E<0
   .simp only[if_neg x,if_pos c2]at c|-;have T:=pD b p z (dep+1);exact gi.bind (k:=λx D=>du D b (ck (E,live) x (bm C))) (zi k o z h y (dep+1) a.a a9p r.2.1 a9p c) (λV D=>jW) λW G e L=>rb k o (aD.c8.mk a.r (te a.a) a.b) (by simp only[aD.size];omega) L (r.2.2.mono G)
   .simp only[if_neg x,if_neg c2]at c|-;have T:=pD b p C (dep+1);exact gi.bind (k:=λx D=>du D b (ck (E,live) (bm z) x)) (zi k o C h y (dep+1) a.b a9p r.2.2 a9p c) (λV D=>jW) λW G e L=>rb k o (aD.c8.mk a.r a.a (te a.b)) (by simp only[aD.size];omega) (r.2.1.mono G) L
theorem zj {b:Nat} (h:1<=b) (k:b<=8) {o:List Int}{y:ag}: ∀(a:aD) (c dep:Nat),a.c8 b->a.size<=1048576->ec y a->a.size<c->(cm b o a dep).2=false->gF b o c y (bm a) dep=(.error 9,y)
 |a,0,dep,_,_,_,D,_=>by omega
 | .nil,c+1,dep,_,_,_,_,d=>by rw[gF];exact if_pos rfl
 | .node E live p r,c+1,dep,x,z,C,D,d=>by
  have G:=z;simp only[aD.size]at G D;rw[gF,if_neg (z8 h k x z),va h k x z C]
  dsimp only
  rw[show [bm p,bm r].getD 0 aA=bm p from rfl,show [bm p,bm r].getD 1 aA=bm r from rfl];rw[cm]at d;by_cases F:E=o;simp_all
  .by_cases c2:cN (dep%b) o E<0
   .simp only[if_neg F,if_pos c2]at d|-;rw[zj h k p c (dep+1) x.a a9p C.2.1 a9p d]
   .simp only[if_neg F,if_neg c2]at d|-;rw[zj h k r c (dep+1) x.b a9p C.2.2 a9p d]
def a1B (a:1<=e) (b:e<=8) (d:bN e q) (c:a8.c8 e) (h:a8.size+1<=1048576) (k:ec H a8) (o:(dd e q a8 0).2=true):gi H (dd e q a8 0).1 (nC e q H (bm a8)):=by have:=(fh a b c a9p).size;exact zh a b d a8 H _ 0 c h k a9p o
theorem FC (a:1<=e) (b:e<=8) (c:a8.c8 e) (d:a8.size<=1048576) (h:ec H a8) (k:(cm e q a8 0).2=false):iO e q H (bm a8)=(.error 9,H):=by have:=(fh a b c d).size;grind[iO,zj]
theorem a1C (b:1<=e) (c:e<=8) (a:a8.c8 e) (k:a8.size<=1048576) (z:ec H a8) (o:(cm e q a8 0).2=true):gi H (lz e q a8).1 (iO e q H (bm a8)):=by
 have C:=(fh b c a k).size;have D:=pD e q a8 0;have p:=te (q:=q) (i:=0) a;have r:=fh b c p a9p;have E:=r.size;have F:=r.live;unfold iO;refine gi.bind (k:=λd h=>if 2*d.live<d.size then kQ h e d 0 else(.ok d,h)) (zi b c a8 H _ 0 a k z a9p o) (λG h=> ?_) λL P S x=> ?_;grind[vc,ag.le_refl]
 .unfold lz;by_cases y:2*(cm e q a8 0).1.all.length<(cm e q a8 0).1.size
  .rw[if_pos (show(cm e q a8 0).2=true/\2*(cm e q a8 0).1.all.length<(cm e q a8 0).1.size from⟨o,y⟩),if_pos (show 2*(bm (cm e q a8 0).1).live<(bm (cm e q a8 0).1).size by omega)];exact FB b c p a9p x 0
  .rw[if_neg (show¬((cm e q a8 0).2=true/\2*(cm e q a8 0).1.all.length<(cm e q a8 0).1.size)from λa=>y a.2),if_neg (show¬2*(bm (cm e q a8 0).1).live<(bm (cm e q a8 0).1).size by omega)];exact⟨ag.le_refl,λ_=>⟨rfl,x⟩⟩
def aD.kS (a:Nat):aD->Nat->Prop
 | .nil,_=>True
 | .node c _ d h,dep=>(∀b∈d.rows,cN (dep%a) b c<0)/\(∀b∈h.rows,cN (dep%a) c b<0)/\d.kS a (dep+1)/\h.kS a (dep+1)
def aD.rf {c:Nat}: ∀ {k:aD}{dep:Nat},k.c8 c->k.kS c dep->k.all.Pairwise (·≠ ·)
 | .nil,_,_,_=> .nil
 | .node y live D E,dep,b,⟨h1,r,z,C⟩=>by
  have o:=pJ c (dep%c);rw[aD.all];refine a5P.2 ⟨a5P.2 ⟨aD.rf b.a z,aD.rf b.b C,λd a x h p=> ?_⟩,by cases live<;>simp,λd a x h p=> ?_⟩
  .subst p;exact o.yT (b.a d (aD.gG a)).len b.r.len (h1 d (aD.gG a)) (r d (aD.gG h))
  .obtain rfl:x=y:=by cases live<;>simp at h;exact h
   subst p;rcases a5a.1 a with a|a
   .exact o.jf _ b.r.len (h1 _ (aD.gG a))
   .exact o.jf _ b.r.len (r _ (aD.gG a))
variable{O:List (List Int)}
theorem FD (a:e<O.length):O=O.take e++O.getD e []::O.drop (e+1):=by simp_all
theorem vd {c:Nat}: ∀(d:Nat) (a:List (List Int)) (dep:Nat),a.length<=d->(∀b∈a,b.length=c)->(fC c d a dep).all.Perm a
 |0,a,dep,x,_=>by
  obtain rfl:a= []:=a4N a9p;exact .refl _
 |d+1,a,dep,x,p=>by
  rw[fC];by_cases k:a= []
  .rw[if_pos k,k];exact .refl _
  rw[if_neg k];have y:0<a.length:=a5S.2 k;have r:=(sZ (i:=c) (e:=dep%c) p).1;have z:=r.length_eq;have hm: ∀b∈dI (dep%c) a,b.length=c:=λb h=>p b (r.mem_iff.1 h);generalize dI (dep%c) a=o at*;have C:=FD (O:=o) (e:=a.length/2) a9p;have D:=vd d (o.take (a.length/2)) (dep+1) (by rw[a4L];omega) λb h=>hm b (a4Z h);have E:=vd d (o.drop (a.length/2+1)) (dep+1) (by rw[a4V];omega) λb h=>hm b (a5n h);rw[aD.all,if_pos rfl];grind
def zk (a:a8.c8 e):(hD e a8 i).all.Perm a8.all:=by
 unfold hD;split
 .exact .refl _
 .split
  .exact vd _ _ _ (a5k _) λb c=>(a b (aD.gG c)).len
  .exact .refl _
theorem zl {d:Nat}{c:List Int} (h:bN d c): ∀ {k:aD}{dep:Nat},k.c8 d->(dd d c k dep).2=true->(dd d c k dep).1.all.Perm (c::k.all)
 | .nil,dep,_,_=> .refl _
 | .node p live x y,dep,a,b=>by
  rw[dd]at b|-;by_cases o:p=c
  .simp only[if_pos o]at b|-;have r:live=false:=by cases live<;>simp at b|-
   refine(zk (aD.c8.mk a.r a.a a.b)).trans ?_;simp only[aD.all,if_pos,r,o];grind
  .by_cases c2:cN (dep%d) c p<0
   .simp only[if_neg o,if_pos c2]at b|-;refine(zk (aD.c8.mk a.r (pL h a.a) a.b)).trans ?_;exact((zl h a.a b).append_right _).append_right _
   .simp only[if_neg o,if_neg c2]at b|-;refine(zk (aD.c8.mk a.r a.a (pL h a.b))).trans ?_;refine(((zl h a.b b).append_left _).append_right _).trans ?_;exact a7r.append_right _
theorem zm {c:Nat}{b:List Int}: ∀ {d:aD}{dep:Nat},(dd c b d dep).2=false->b∈d.all
 | .nil,dep,a=>by rw[dd]at a;cases a
 | .node h live o p,dep,a=>by
  rw[dd]at a;simp only[aD.all,a5a];by_cases k:h=b;simp_all
  .by_cases c2:cN (dep%c) b h<0
   .simp only[if_neg k,if_pos c2]at a;exact .inl (.inl (zm a))
   .simp only[if_neg k,if_neg c2]at a;exact .inl (.inr (zm a))
theorem ve {d:Nat}{b:List Int}: ∀ {h:aD}{dep:Nat},(cm d b h dep).2=true->h.all.Perm (b::(cm d b h dep).1.all)
 | .nil,dep,a=>by rw[cm]at a;cases a
 | .node k live o p,dep,a=>by
  rw[cm]at a|-;by_cases c:k=b
  .simp only[if_pos c]at a|-;simp only[aD.all,if_pos a,c];grind
  .by_cases c2:cN (dep%d) b k<0
   .simp only[if_neg c,if_pos c2]at a|-;exact((ve a).append_right _).append_right _
   .simp only[if_neg c,if_neg c2]at a|-;refine(((ve a).append_left _).append_right _).trans ?_;exact a7r.append_right _
theorem zn {b:Nat}{d:List Int} (k:d.length=b): ∀ {o:aD}{dep:Nat},o.c8 b->o.kS b dep->(cm b d o dep).2=false->d∉o.all
 | .nil,dep,_,_,_=>λh=>by cases h
 | .node r live E F,dep,h,⟨h1,y,C,D⟩,c=>by
  have x:=pJ b (dep%b);intro a;rw[cm]at c;simp only[aD.all,a5a]at a;by_cases p:r=d
  .simp only[if_pos p]at c;subst p;rcases a with (a|a)|a
   .exact x.jf _ k (h1 _ (aD.gG a))
   .exact x.jf _ k (y _ (aD.gG a))
   .rw[c]at a;simp at a
  .have z:d∉(if live=true then [r]else []):=λh=>by
    simp_all
   by_cases c2:cN (dep%b) d r<0
   .simp only[if_neg p,if_pos c2]at c;rcases a with (a|a)|a
    .exact zn k h.a C c a
    .exact x.yT k h.r.len c2 (y _ (aD.gG a))
    .exact z a
   .simp only[if_neg p,if_neg c2]at c;rcases a with (a|a)|a
    .exact c2 (h1 _ (aD.gG a))
    .exact zn k h.b D c a
    .exact z a
def vf {a:Nat}: ∀(p:Nat) (c:List (List Int)) (dep:Nat),(∀b∈c,b.length=a)->c.Pairwise (·≠ ·)->(fC a p c dep).kS a dep
 |0,_,_,_,_=>trivial
 |p+1,c,dep,z,E=>by
  rw[fC];by_cases r:c= []
  .rw[if_pos r];trivial
  rw[if_neg r];have i:0<c.length:=a5S.2 r;obtain⟨x,F⟩:=sZ (i:=a) (e:=dep%a) z;have j:=x.length_eq;have hm: ∀b∈dI (dep%a) c,b.length=a:=λb d=>z b (x.mem_iff.1 d);have y:(dI (dep%a) c).Pairwise (·≠ ·):=x.symm.pairwise E λh=>h.symm;have G:=pJ a (dep%a);have C:(dI (dep%a) c).Pairwise (λL P=>cN (dep%a) L P<0):=by
   refine a7Q ?_ (F.and y);intro k b o d D;rcases G.r7 k b (hm k o) (hm b d)with h|h|h
   .exact h
   .exact absurd h D.2
   .exact absurd h D.1
  generalize dI (dep%a) c=S at*;have T:=FD (O:=S) (e:=c.length/2) a9p;rw[T]at C y;obtain⟨l,V,W⟩:=a5P.1 C;obtain⟨e,m⟩:=a5r.1 V;obtain⟨f,g,_⟩:=a5P.1 y;refine⟨λk o=>W k (re o) _ a9q,λk o=>e k (re o),?_,?_⟩
  .exact vf p _ _ (λb d=>hm b (a4Z d)) f
  .exact vf p _ _ (λb d=>hm b (a5n d)) (a5r.1 g).2
def zo (a:a8.c8 e) (b:a8.kS e i):(hD e a8 i).kS e i:=by
 unfold hD;split
 .trivial
 .split
  .exact vf _ _ _ (λc d=>(a c (aD.gG d)).len) (aD.rf a b)
  .exact b
def zp {c:Nat}{k:List Int} (h:bN c k): ∀ {r:aD}{dep:Nat},r.c8 c->r.kS c dep->(dd c k r dep).1.kS c dep
 | .nil,dep,_,_=>⟨λd b=>(by cases b),λd b=>(by cases b),trivial,trivial⟩
 | .node o live C D,dep,a,⟨h1,x,y,z⟩=>by
  have E:=pJ c (dep%c);rw[dd];by_cases p:o=k
  .simp only[if_pos p];exact zo (a8:= .node o true C D) (aD.c8.mk a.r a.a a.b) ⟨h1,x,y,z⟩
  .by_cases c2:cN (dep%c) k o<0
   .simp only[if_neg p,if_pos c2];refine zo (aD.c8.mk a.r (pL h a.a) a.b) ⟨λd b=> ?_,x,zp h a.a y,z⟩;rcases tc b with rfl|b
    .exact c2
    .exact h1 d b
   .simp only[if_neg p,if_neg c2];refine zo (aD.c8.mk a.r a.a (pL h a.b)) ⟨h1,λd b=> ?_,y,zp h a.b z⟩;rcases tc b with rfl|b
    .rcases E.r7 d o h.len a.r.len with a|a|a
     .exact absurd a c2
     .exact absurd a.symm p
     .exact a
    .exact x d b
def zq {a:Nat}{k:List Int}: ∀ {h:aD}{dep:Nat},h.kS a dep->(cm a k h dep).1.kS a dep
 | .nil,dep,_=>trivial
 | .node o live p r,dep,⟨h1,b,c,d⟩=>by
  rw[cm];split
  .exact⟨h1,b,c,d⟩
  split
  .exact⟨by rw[td];exact h1,b,zq c,d⟩
  .exact⟨h1,by rw[td];exact b,c,zq d⟩
structure lD (d n:Nat) (t:aD):Prop where
 fi:t.c8 d
 vg:t.kS d 0
 cq:t.size<=n
theorem lD.nil {a n:Nat}:lD a n .nil:=⟨λc b=>(by cases b),trivial,a5o _⟩
def lD.ins (a:lD e i a8) (b:bN e q):lD e (i+1) (dd e q a8 0).1:=⟨pL b a.fi,zp b a.fi a.vg,by have:=pC e q a8 0;have:=a.cq;omega⟩
theorem lD.del (b:lD e i a8):lD e i (lz e q a8).1:=by
 have a:=te (q:=q) (i:=0) b.fi;have c:=zq (k:=q) b.vg;have p:=pD e q a8 0;have r:=ly (cm e q a8 0).1;have x:=b.cq;unfold lz;split
 .refine⟨zb _ _ _ λd h=>a d (aD.gG h),vf _ _ _ (λk o=>(a k (aD.gG o)).len) (aD.rf a c),?_⟩;grind[qZ,cm]
 .exact⟨a,c,a9p⟩
def a1D (a:lD e i a8) (b:(cm e q a8 0).2=true):a8.all.Perm (q::(lz e q a8).1.all):=by
 have c:=te (q:=q) (i:=0) a.fi;refine(ve b).trans (.cons _ ?_);unfold lz;split
 .exact(vd _ _ _ (a5k _) λd h=>(c d (aD.gG h)).len).symm
 .exact .refl _
structure nD (c:U) (x:R) (b:List UInt8):Prop where
 one:x.cells= [x]
 len:ff x=some (.v (.int .i64 b.length))
 src: ∀a,c.sub a->o4 a x b
variable{n b3:R}{f t e7:U}{B:List UInt8}
theorem nD.al (a:fx t f B n):nD f n B:=by obtain⟨h,b,k,c⟩:=a.src;simp only[a4T,a5t]at b;subst b;refine⟨?_,c,λo d=>fx.lY (a.mono d)⟩;rcases a.2 with ⟨_,rfl|rfl⟩|⟨_,_,_,_,rfl,_⟩<;>rfl
def nD.mono (a:nD f n B) (b:f.sub t):nD t n B:=⟨a.one,a.len,λd c=>a.src _ (U.aq b c)⟩
def a1E (c:UInt8) (b:List UInt8) (d:R) (h:Nat) (a:U) (k:nD a d b) (y:b.length<=900000) (p:a h=some (.cells [d])):
  AC Tryz.prog 192 [.v (.int .u8 (c.toNat:Int)),.al h 1 1 1] a λr x=>fx a x (preB c [b]) r:=
 a0q c [(d,b)] h a p (λz o=>by rw[a4X]at o;subst o;exact .inr ⟨k.src _ U.a1,k.len⟩) (by simp[preB,chunk,cJ];omega)
theorem a1F (b:B.length=32) (a:R):(cL B).cells.length=32/\putAt (List.replicate 32 a) 0 (cL B).cells=(cL B).cells/\(.agg ((cL B).cells.take 32):R)=cL B:=by grind[cL,R.cells,putAt,List.take_of_length_le]
def a1G (b:List UInt8) (a:R) (c:U) (k:nD c a b) (y:b.length<=900000):
  AC Tryz.prog 177 [a] c λo z=>z=c/\o=cL (eU b):=by
 have p:=k.one;refine aO hm Oz ?_;refine bq λC D=> ?_;refine eS (by simp[aN,p]) a9q λE F=> ?_;rw[show flat [a]= [a] by simp[flat,p]];have r:=U.ae (Y:= .cells (List.replicate 32 (.v (.int .u8 0)))) (U.a1 (f:=c)) D;have d:=U.ae (Y:= .cells [a]) (U.a1 (f:=c.set C (.cells (List.replicate 32 (.v (.int .u8 0)))))) F;refine aa ?_;refine hR (a1E 80 b a E _ (k.mono (U.aq r d)) y (U.ah _ _ _)) λo G h=> ?_;have x:=nD.al h;have L:=U.aJ (h.sub _ _ (d _ _ (U.ah _ _ _)));have P:=a1F (sk (preB 80 [b])) (.v (.int .u8 0));refine bj (a0n _ (by simp[preB,chunk,cJ];omega) _ _ (x.src _ U.a1) x.len) ?_;exact⟨U.aq (U.aq r d) h.sub,rfl⟩
theorem FE (c b:List Int) (p r:Own) (d:Nat) (k:U) (D:d<=1000000):
  AC Tryz.prog 41 [ew c b p r,.v (.int .i64 (d:Int))] k λx y=>y=k/\x= .v (.bool (cT c b d)):=by
 have E:=bH (q:=c);have F:=bH (q:=b);have G:= @dO c;have L:= @dO b;refine aO hm KA ?_;refine bq λP S=> ?_
 repeat' first|refine aH (λ_=> ?_) λ_=> ?_|trivial
 all_goals try (rw[cT];exact aQ)
 refine gO [1,2] (λa:Nat=> [(5,.v (.int .i64 a))]) (λa=>a<=d/\ ∀h<a,decide (c.getD h 0<=b.getD h 0)=true) (λa=>d - a) 0 ⟨a9p,λh z=>by omega⟩ aU ?_;rintro a ⟨b,o⟩ T;refine aa ?_;refine aH (λC=> ?_) λC=> ?_
 .repeat' first|refine aH (λ_=> ?_) λ_=> ?_|trivial
  grind[cT,sf,decide_eq_false_iff_not,aQ]
  .exact⟨a+1,⟨a9p,upto o (by simp only[decide_eq_true_eq];omega)⟩,rfl,a9p⟩
 .rw[cT,sg λh z=>o h a9p];exact aQ
def bY:List UInt8->List UInt8->Bool
 | _,[]=>false
 | [],_:: _=>true
 |a::c,b::d=>if a=b then bY c d else decide (a<b)
theorem a1H: ∀b a:List UInt8,Op.bytesLess b a=bY b a:=by
 intro b
 induction b with
 |nil=>intro a;cases a<;>simp[Op.bytesLess,bY]
 |cons c b ih=>
  intro a;cases a with
  |nil=>simp[Op.bytesLess,bY]
  |cons d a=>simp only[Op.bytesLess,bY,ih];split<;>simp_all
theorem zr (a:List UInt8):bY a a=false:=by induction a<;>simp_all [bY]
theorem FF: ∀b a:List UInt8,bY b a=false->bY a b=false->b=a:=by
 intro b
 induction b with
 |nil=>intro a;cases a<;>simp[bY]
 |cons c b ih=>
  intro a;cases a with
  |nil=>simp[bY]
  |cons d a=>simp only[bY];grind
theorem vh: ∀c a b:List UInt8,bY c a=true->bY a b=true->bY c b=true:=by
 intro c
 induction c with
 |nil=>intro a b;cases a<;>cases b<;>simp[bY]
 |cons d c ih=>
  intro a b;cases a with
  |nil=>simp[bY]
  |cons h a=>
   cases b with
   |nil=>simp[bY]
   |cons k b=>simp only[bY];grind
theorem vi (a b:List UInt8):ja .lss (bd a) (bd b)=some (.v (.bool (bY a b)))/\ja .geq (bd a) (bd b)=some (.v (.bool (!bY a b)))/\
  ja .leq (bd a) (bd b)=some (.v (.bool (bY a b||decide (a=b))))/\ja .gtr (bd a) (bd b)=some (.v (.bool (!(bY a b||decide (a=b))))):=by
 grind[decide,bd,rY,bn,pZ,toList_mk,a1H]
variable{g A e1:List R}{e6:aK}
def et.at_ (C:et e6 g): ∃D E,aY false 1 (g.drop 36)= .v (.int .i64 e6.bK.live)/\aY false 1 (g.drop 38)= .J (ad e6.bK.key) D/\aY false 1 (g.drop 73)= .v (.int .i64 e6.cj.live)/\aY false 1 (g.drop 74)= .v (.int .i64 e6.cj.size)/\aY false 1 (g.drop 75)= .J (ad e6.cj.key) E:=by
 obtain⟨⟨y,o,p,c,d,h,b,rfl⟩,⟨F,_⟩,⟨G,_⟩,_⟩:=C;have k:=aX (N:=o) (e5:=p) (h5:=c) F;have r:=aX (N:=d) (e5:=h) (h5:=b) G;have z: ∀a,a<=37->(bd e6.name:: .J (bE e6.aC) y::(ab e6.bK o p c++ab e6.cj d h b)).drop (a+2)=(ab e6.bK o p c).drop a++ab e6.cj d h b:=λa L=>by
  simp only[a6c];rw[a6i (by have:=k.len;omega)]
 have x: ∀a,(bd e6.name:: .J (bE e6.aC) y::(ab e6.bK o p c++ab e6.cj d h b)).drop (a+37+2)=(ab e6.cj d h b).drop a:=λa=>by
  simp only[a6c];rw[a6k,a5T (by rw[k.len];omega),k.len,a5b];congr 1
 refine⟨c,b,?_,?_,?_,?_,?_⟩
 .rw[z 34 a9p,k.d34];rfl
 .rw[z 36 a9p,k.d36];rfl
 .rw[x 34,r.d34];rfl
 .rw[x 35,r.d35];rfl
 .rw[x 36,r.d36];rfl
def fT (a:aK):Bool:=ea ⟨1,a.name,a.aC,[]⟩&&(fo (a.aC.length+1) a.bK&&(fo (a.aC.length+1) a.cj&&(decide (a.bK.live=a.cj.live)&&(decide (a.bK.key.length=0)&&
 (decide (a.cj=aA)||(decide (a.cj.key.length=a.aC.length+1)&&decide (a.cj.size=a.cj.live)))))))
structure aK.Fit (t:aK):Prop where
 n:t.name.length<=1000000
 c:t.aC.length<=1000000
 cs: ∀c∈t.aC,c.length<=1000000
def tf (a:aK) (b:List R) (c:et a b) (d:U):AC Tryz.prog 39 [.agg b] d λh k=>k=d/\h= .v (.int .i64 ((a.aC.length+1:Nat):Int)):=by obtain⟨o,p,r,x,y,z,C,D,E,F,G,L,P⟩:=c.all;have S:=hC (a:=a.aC);have T:=c.c;refine aO hm Kw ?_;refine bq λV W=> ?_;trivial
theorem rh (a:aK) (c:List R) (b:et a c) (o:a.Fit) (d:U):AC Tryz.prog 147 [.agg c] d λp r=>r=d/\p= .v (.bool (fT a)):=by
 obtain⟨W,e,f,x,y,z,C,D,E,F,g,i,j⟩:=b.all;obtain⟨l,m,n,q,s,t,u⟩:=b.at_;have v:=hC (a:=a.aC);have w:=bH (q:=a.bK.key);have A:=bH (q:=a.cj.key);obtain⟨G,L,P⟩:=o;have B: ∀h,fo h aA=true:=λh=>by simp[fo]
 refine aO hm Nx ?_;refine bq λk H=> ?_;refine bj (tf a c b _) ?_;refine bj (EM ⟨⟨1,a.name,a.aC,[]⟩,x,.nil⟩ ⟨G,L,P,a9q⟩ _) ?_;have S:=xt a.bK y z C (a.aC.length+1) (d.set k (.cells c)) a9p b.k.1 b.k.2;have T:=xt a.cj D E F (a.aC.length+1) (d.set k (.cells c)) a9p b.z.1 b.z.2;refine aH (λV=> ?_) λV=> ?_
 .rw[fT];exact aQ
 refine bj S ?_
 repeat' first|refine aH (λ_=> ?_) λ_=> ?_|trivial
 all_goals try (rw[fT];exact aQ)
 .refine bj T ?_
  repeat' first|refine aH (λ_=> ?_) λ_=> ?_|trivial
  all_goals try (rw[fT];exact aQ)
  all_goals refine bj (ng _ _ _ _ _ b.z.1 b.z.2) ?_
  all_goals repeat' first|refine aH (λ_=> ?_) λ_=> ?_|trivial
  all_goals grind[fT,aQ]
def cA (a:List aK):Bool:=(List.range a.length).all (λb=>fT (a.getD b default)&&(decide (b=0)||bY (a.getD (b - 1) default).name (a.getD b default).name))&&decide (a.length<=8)
theorem nE (a:List aK) (E:List R) (e:Own) (y:az dD a E) (f: ∀d∈a,d.Fit) (s:a.length<=1000000) (k:U):AC Tryz.prog 102 [.J E e] k λg z=>z=k/\g= .v (.bool (cA a)):=by
 have t:=y.len;refine aO hm Me ?_;refine ch [0,5,6] (λb:Nat=> [(7,.v (.int .i64 b))]) (λb z=>k.sub z/\b<=a.length/\ ∀c<b,(fT (a.getD c default)&&(decide (c=0)||bY (a.getD (c - 1) default).name (a.getD c default).name))=true) (λb=>a.length - b) 0 ⟨⟨U.a1,a9p,λc C=>by omega⟩,aU⟩ ?_;rintro b F ⟨G,u,i⟩ v;refine aa ?_;refine aH (λj=> ?_) λj=> ?_
 .have L:a[b]? =some (a.getD b default):=by simp_all
  obtain⟨_,w,T,rfl,o⟩:=y.get L;have P:=f _ (a4O L);generalize l:a.getD b default=d at*;have A:=iw (e:=76) (n:= .agg T) o.all.1;obtain⟨B,H,I,K,M,N,O,Q,X,Y,Z,j9,k0⟩:=o.all;obtain⟨p,r⟩: ∃p,p=(fT d&&(decide (b=0)||bY (a.getD (b - 1) default).name d.name)):=⟨_,rfl⟩;have k1:p=false->cA a=false:=λC=>by
   grind[cA,sf]
  have k2:p=true-> ∃x,(x<=a.length/\ ∀c<x,(fT (a.getD c default)&&(decide (c=0)||bY (a.getD (c - 1) default).name (a.getD c default).name))=true)/\R.v (.int .i64 ((b:Int)+1))= .v (.int .i64 (x:Int))/\a.length - x<a.length - b:=λC=>
   ⟨b+1,⟨a9p,upto i (by rw[l,<-r];exact C)⟩,rfl,a9p⟩
  have k3: ∀h S,F h=none->k.sub (F.set h S):=λh S D=>U.ae G (U.bF G D);by_cases V:b=0
  .subst V;simp only[decide_true,a9n,a8s]at r;subst r;refine aa ?_;refine bq λh D=> ?_;refine bj (rh d T o P _) ?_
   repeat' first|refine aH (λ_=> ?_) λ_=> ?_|trivial
   simp_all
  .have m:a[b - 1]? =some (a.getD (b - 1) default):=by grind
   obtain⟨_,k4,n,rfl,W⟩:=y.get m;generalize a.getD (b - 1) default=q at*;have k5:=iw (e:=76) (n:= .agg n) W.all.1;obtain⟨k6,k7,k8,_⟩:=W.all;have k9:(b:Int) - 1=((b - 1:Nat):Int):=a9p;have l0:=(vi q.name d.name).2.1;simp only[decide_eq_false V,a8t]at r;refine aa ?_;refine bq λh D=> ?_;refine bj (rh d T o P _) ?_
   repeat' first|refine aH (λ_=> ?_) λ_=> ?_|trivial
   all_goals simp_all
 grind[cA,sg,aQ]
def nF (a b:List UInt8):Int:=if bY a b=true then -1 else if a=b then 0 else 1
def FG (b:List UInt8) (a:U):AC Tryz.prog 334 [bd b] a λc d=>d=a/\c= .v (.bool false):=by
 have k:=λh v=> @wY h v;refine aO hm Sb ?_
 first|trivial|exact aQ
theorem a1I (a b:List UInt8) (c:U):AC Tryz.prog 297 [bd a,bd b] c λh k=>k=c/\h= .v (.int .i64 (nF a b)):=by
 obtain⟨p,r,x,y⟩:=vi a b;refine aO hm Rv ?_;refine bj (FG a c) ?_;refine bj (FG b c) ?_;refine aH (λd=> ?_) λd=> ?_
 .rw[nF,if_pos d]
 .refine aH (λo=> ?_) λo=> ?_;simp_all [nF,if_neg];simp_all [nF,if_neg,if_pos]
def a1J (a:aK) (b:List R) (d:et a b) (c:U):AC Tryz.prog 227 [.agg b] c λh k=>k=c/\h=bd a.name:=by obtain⟨o,p,r,_⟩:=d.all;refine aO hm PU ?_;refine bq λx y=> ?_;trivial
def FH (a:aK) (b:List R) (h:et a b) (k:List UInt8) (c:U) (d:Nat) (o:c.read d=some [.bG 227 [] []]):AC Tryz.prog 296 [.agg b,bd k,.ptr d 0] c λp r=>r=c/\p= .v (.int .i64 (nF a.name k)):=by
 obtain⟨z,C,_⟩:=h.all;refine aO hm Rt ?_;refine aP λx y=> ?_;have D:d≠x:=by rintro rfl;simp[U.read,y]at o
 refine aa ?_;refine lZ (a1J a b h _) ?_;refine bj (a1I _ _ _) ?_;trivial
def Place (a:List aK) (d:List UInt8) (c:Nat):Prop:=c<=a.length/\(∀b<c,bY (a.getD b default).name d=true)/\ ∀b<a.length,c<=b->bY (a.getD b default).name d=false
theorem FI {a:List UInt8}:nF B a<0↔bY B a=true:=by grind[nF]
theorem a1K {a:List UInt8}:nF B a=0↔B=a:=by
 unfold nF;split
 .rename_i b;simp;rintro rfl;rw[zr]at b;cases b
 .split<;>simp_all
theorem a1L (c:List aK) (z:List R) (V:Own) (d:List UInt8) (G:az dD c z) (u:c.length<=1000000) (W: ∀a b,a<b->b<c.length->bY (c.getD a default).name (c.getD b default).name=true) (p:U) (r:Nat) (L:p.read r=some [.bG 227 [] []]):
  AC Tryz.prog 295 [.J z V,bd d,.bG 296 [] [.ptr r 0]] p λe f=>f=p/\ ∃a,Place c d a/\e= .aL [.v (.int .i64 (a:Int)),.v (.bool (decide (a<c.length)&&decide ((c.getD a default).name=d)))]:=by
 have v:=G.len;have el: ∀a,a<c.length-> ∃T,z[a]? =some (.agg T)/\et (c.getD a default) T/\eC 76 (some (.agg T))=some (.bV T)/\T.length=76/\T.take 76=T:=λa x=>by
  obtain⟨_,g,T,rfl,k⟩:=G.get (i:=a) (x:=c.getD a default) (by simp[List.getD,x]);exact⟨T,g,k,iw (e:=76) (n:= .agg T) k.all.1,k.all.1,k.all.2.1⟩
 have i: ∀a,a<c.length->bY (c.getD a default).name d=true-> ∀b,b<a+1->bY (c.getD b default).name d=true:=λa x o b P=>by
  rcases Nat.lt_or_eq_of_le (Nat.le_of_lt_succ P)with C|rfl
  .exact vh _ _ _ (W b a C x) o
  .exact o
 have j: ∀a,a<c.length->bY (c.getD a default).name d=false-> ∀b,b<c.length->a<=b->bY (c.getD b default).name d=false:=λa x o b P w=>by
  grind
 refine aO hm Rr ?_;refine gO [0,1,2,8] (λh:Nat×Nat=> [(9,.v (.int .i64 h.1)),(10,.v (.int .i64 h.2))]) (λh=>h.1<=h.2/\h.2<=c.length/\(∀b<h.1,bY (c.getD b default).name d=true)/\ ∀b<c.length,h.2<=b->bY (c.getD b default).name d=false) (λh=>h.2 - h.1) (0,c.length) ⟨a9q,a9q,λb o=>by simp at o,λb o y=>by simp at y;omega⟩ aU ?_;rintro⟨a,b⟩ ⟨C,y,D,E⟩ A
 dsimp only at C y D E|-
 have B:bn .shr (.int .u64 ((a:Int)+(b:Int))) (.int .u64 1)=some (.int .u64 (((a+b)/2:Nat):Int)):=by rw[show(a:Int)+(b:Int)=((a+b:Nat):Int) by omega,s3 _ _ _ a9p a9p];simp[a5C]
 by_cases H:(a:Int)<b
 .obtain⟨T,l,k,m,n,q⟩:=el ((a+b)/2) a9p;have s:=i ((a+b)/2) a9p;have t:=j ((a+b)/2) a9p;generalize I:(a+b)/2=S at*;refine aa ?_;refine lZ (FH _ T k d p r L) ?_;refine aH (λF=> ?_) λF=> ?_
  .exact⟨(S+1,b),⟨by simp only;omega,by simp only;omega,s (FI.1 F),E⟩,⟨rfl,rfl⟩,by simp only;omega⟩
  .exact⟨(a,S),⟨by simp only;omega,by simp only;omega,D,t (by simpa[FI] using F)⟩,⟨rfl,rfl⟩,by simp only;omega⟩
 .obtain rfl:a=b:=a9p;have K:Place c d a:=⟨y,D,E⟩;by_cases c2:(a:Int)<c.length
  .obtain⟨T,l,k,m,n,q⟩:=el a a9p;refine aa ?_;refine lZ (FH _ T k d p r L) ?_;grind[a1K]
  .refine aa ?_;grind
def a1M (b:List aK) (d:List R) (x:Own) (c:List UInt8) (y:az dD b d) (z:b.length<=1000000) (C: ∀a h,a<h->h<b.length->bY (b.getD a default).name (b.getD h default).name=true) (k:U):
  AC Tryz.prog 148 [.J d x,bd c] k λo p=>p=k/\ ∃a,Place b c a/\o= .aL [.v (.int .i64 (a:Int)),.v (.bool (decide (a<b.length)&&decide ((b.getD a default).name=c)))]:=by
 refine aO hm Nz ?_;refine ai (a7:=λo p=>p=k/\ ∃a,Place b c a/\o= .aL [.v (.int .i64 (a:Int)),.v (.bool (decide (a<b.length)&&decide ((b.getD a default).name=c)))]) ?_ ?_
 .refine aO hm PR ?_;refine bq λD E=> ?_;refine ai (a1L b d x c y z C _ D (U.Bz)) ?_;rintro _ _ ⟨rfl,a,r,rfl⟩;refine aa ?_;exact⟨a,r,rfl⟩
 .rintro _ _ ⟨rfl,a,r,rfl⟩;refine aa ?_;exact⟨a,r,rfl⟩
abbrev cx:List R:=bd []:: .J [] .nil::(ab aA .nil .nil .nil++ab aA .nil .nil .nil)
theorem jo:([R.v (.string ⟨#[]⟩)]++ [R.J [] .nil]++List.replicate 32 (R.v (.int .u8 0))++ [R.J [] .nil,.J [] .nil]++ [R.v (.int .i64 0),.v (.int .i64 0)]++ [R.J [] .nil]++List.replicate 32 (R.v (.int .u8 0))++ [R.J [] .nil,.J [] .nil]++ [R.v (.int .i64 0),.v (.int .i64 0)]++ [R.J [] .nil])=cx:=by have:=cr;simp_all [a4U,cx,bd]
def fU:et ⟨[],[],aA,aA⟩ cx:=⟨⟨.nil,_,_,_,_,_,_,rfl⟩,⟨bk,me⟩,⟨bk,me⟩,a9q⟩
theorem nG (a:et e6 g):g.length=76/\g.take 76=g/\putAt cx 0 g=g/\(cx).length=76:=by have b:=a.all.1;have c:=fU.all.1;grind[ql]
theorem FJ {d:Type}{y:d}{h:d->Bool}: ∀ {b:List d}{k:Nat}{a:d},b[k]? =some a->h a=true->(∀o<k,h (b.getD o y)=false)->b.find? h=some a
 | [],k,a,c,_,_=>by simp at c
 |p::b,0,a,c,r,_=>by simp_all
 |p::b,k+1,a,c,r,x=>by
  have z:h p=false:=x 0 a9p;rw[List.find?_cons,z];exact FJ (by simpa using c) r λo c=>x (o+1) a9p
variable{b0:Type}
theorem a1N {c:b0}{b:b0->Bool}{a:List b0} (k: ∀d<a.length,b (a.getD d c)=false):a.find? b=none:=by rw[List.find?_eq_none];intro o h;obtain⟨p,r,rfl⟩:=a5y h;simp_all
def Found (c:List aK) (d:List UInt8) (b:R):Prop:=match c.find? (λa=>decide (a.name=d))with
 |some a=> ∃T,et a T/\b= .aL [.agg T,.v (.bool true)]
 |none=>b= .aL [.agg cx,.v (.bool false)]
theorem find_spec (b:List aK) (D:List R) (P:Own) (o:List UInt8) (E:az dD b D) (m:b.length<=1000000) (c:U):
  AC Tryz.prog 37 [.J D P,bd o] c λS p=>p=c/\Found b o S:=by
 have n:=E.len;have q:=λV=> @qu V o;have s:=jo;refine aO hm Ks ?_;refine bq λh W=> ?_;rw[jo];have r:c.sub (c.set h (.cells cx)):=U.ae U.a1 W;have F:(c.set h (.cells cx)) h=some (.cells cx):=U.ah _ _ _;generalize c.set h (.cells cx)=e at*;obtain⟨_,_,_,t⟩:=nG fU;have u:=(nG fU).2.2.1;have v:=fU.all.2.1;refine ch [1,4,8,9] (λa:Nat=> [(10,.v (.int .i64 a))]) (λa p=>e.sub p/\a<=b.length/\ ∀d<a,(b.getD d default).name≠o) (λa=>b.length - a) 0 ⟨⟨U.a1,a9p,λd w=>by omega⟩,aU⟩ ?_;rintro a A ⟨k,B,x⟩ H;have I:=U.aJ (k _ _ F);refine aa ?_;refine aH (λf=> ?_) λf=> ?_
 .have G:b[a]? =some (b.getD a default):=by simp_all
  obtain⟨_,K,T,rfl,y⟩:=E.get G;generalize g:b.getD a default=M at*;obtain⟨i,N,O,_⟩:=nG y;have Q:=y.all.2.2.1;have X:=iw (e:=76) (n:= .agg T) i;refine aa ?_;refine aP λj z=> ?_;have l:h≠j:=by rintro rfl;rw[k _ _ F]at z;cases z
  have Y:=a4Q l;refine aa ?_;refine aH (λC=> ?_) λC=> ?_
  .refine⟨U.ae (U.aq r k) (U.bF (U.aq r k) z),?_⟩;rw[Found,FJ G (by simp[C]) λd L=>by simpa using x d L];exact⟨T,y,rfl⟩
  .exact⟨a+1,⟨a9p,upto x (by rw[g];exact C)⟩,rfl,a9p⟩
 .refine⟨U.aq r k,?_⟩;rw[Found,a1N λd L=>by simpa using x d a9p]
theorem dD.cells {b:aK}{a:R} (c:dD b a):a.cells.length=76:=by obtain⟨T,rfl,d⟩:=c;exact d.all.1
def vj (o:List aK) (a:List R) (h:Own) (b:U) (p:az dD o a) (G:o.length<=1000):
  AC Tryz.prog 45 [.J a h] b λr k=>ar b k 76 (flat a) r:=by
 have L:=p.len;refine mT λy=> ?_;have z:h= .nil->a= []:=λc=>by subst c;simpa using y a a9q
 have x:=p.cells λ_ _=>dD.cells;have P:=dg x;refine bf hm KG a9q ?_;simp -dsimp -implicitDefEqProofs (disch:=first|omega|assumption|(simp only[aE,Nat.reduceAdd];try omega)) only[go_sem,simprocAttr,↓o8];refine o9 (λd=>by rw[z d]) (λd=> ?_) ?_
 .have C:a= []:=by simpa using d
  subst C;refine aF @a5w ?_;exact⟨b,U.a1,ar.nil U.a1⟩
 .refine aF @nW ?_;have D:bM b 76 (.J a h)=some (a.length,flat a):=by have E:a.all (λc=>decide (c.cells.length=76))=true:=a4W.2 λc F=>decide_eq_true (x c F);simp only[bM,E,if_true]
  refine fj (ar.zero (U.a1 (f:=b))) a9p D a9p (by simp only[a4R];omega) (by simp only[a4R];omega) λr k d=> ?_;refine eD ?_;exact⟨k,U.a1,by simpa using d⟩
theorem a1O (t p:U) (h:List R) (f:R) (z:ar t p 76 h f) (G:Nat) (L:h.length=G*76) (a:Nat) (l9:a<=G) (n0:G<=1000) (k:List R) (u:k.length=76) (C:Nat) (v:t C=some (.cells k)):
  AC Tryz.prog 149 [f,.v (.int .i64 (a:Int)),.al C 1 1 76] p λk4 P=>ar t P 76 (h.take (a*76)++(k++h.drop (a*76))) k4:=by
 have S:=z.1 _ _ v;have g:((1:Nat):Int)=1:=rfl;have w: ∀P:U,P C=some (.cells k)->bM P 76 (.al C 1 1 76)=some (1,k):=λP z=>by
  simp_all [bM,U.af,if_pos,trivial,a4I]
 by_cases c1:a=G
 .subst c1;obtain⟨e,F,wl⟩: ∃e,c7 76 f (some (.v (.int .i64 (a:Int)))) none none=some e/\ff f=some (.v (.int .i64 (a:Int))):=by
   rcases z.2 with ⟨i,rfl|rfl⟩|⟨c,b,d,r,rfl,j,D,l,m,k5,A,X⟩
   .rw[i]at L;obtain rfl:a=0:=by rw[a4R]at L;omega
    exact⟨_,Wd,rfl⟩
   .rw[i]at L;obtain rfl:a=0:=by rw[a4R]at L;omega
    exact⟨_,Wc,rfl⟩
   .obtain rfl:b=a:=a9p;obtain⟨e,F,_⟩:=ov (i:=76) (j0:=c) (M:=b) (c0:=d) (e:=b) (e2:= .i64) a9p A;exact⟨e,F,rfl⟩
  refine bf hm Bo a9q ?_;simp -dsimp -implicitDefEqProofs (disch:=first|omega|assumption|(simp only[aE,Nat.reduceAdd];try omega)) only[go_sem,simprocAttr,↓eL,F,wl,g];refine fj z a9p (w p S) a9p a9p a9p λn1 P n2=> ?_;refine Ck ?_;grind[U.a1,List.take_of_length_le,List.drop_eq_nil_of_le]
 have n3:a<G:=a9p;obtain⟨c,b,d,r,rfl,j,D,l,m,k5,A,X⟩:=z.al (λi=>by rw[i]at L;simp at L;omega);obtain rfl:b=G:=a9p;have Y:c≠C:=by rintro rfl;rw[j]at v;cases v
 have B: ¬(a:Int)=(b:Int):=a9p;refine bf hm Bo a9q ?_;obtain⟨e,F,_,Z⟩:=ov (i:=76) (j0:=c) (M:=b) (c0:=d) (e:=a) (e2:= .i64) a9p A;have n4:=Z p r h D a9p m;have j9:(h.drop (a*76)).length=(b - a)*76:=by rw[a4V];omega
 have k6:r.take (a*76)=h.take (a*76):=by grind
 by_cases c2:(d:Int)<(b:Int)+1
 .have n:c7 76 (.al c b d 76) none (some (.v (.int .i64 (a:Int)))) none=some (.al c a d 76):=hP a9p;have k0:(b:Int)+1 -(a:Int)=((b+1 - a:Nat):Int):=a9p;refine dC (bC @F @B @g @c2 @n @k0) ?_;refine x2 D l a9p a9p a9p λo y k7 q s k8 k1=> ?_;have k9:a+(b+1 - a)=b+1:=a9p;rw[k9]at s k1|-;generalize l0:List.replicate (b+1 - a) _=k2;have l1:k2.flatten.length=(b+1 - a)*76:=by rw[<-l0,jH];rfl
  have l2:o≠c:=by rintro rfl;rw[q]at D;cases D
  have l3:o≠C:=by rintro rfl;rw[q]at S;cases S
  obtain⟨E,k3⟩: ∃E,E=r.take (a*76)++k2.flatten++k7:=⟨_,rfl⟩;have l4:E.length=y*76:=by rw[k3,a4J,a4J,l1,a4L,k1];omega
  have l5:E.take (a*76)=h.take (a*76):=by simp_all
  rw[<-k3];have H:c7 76 (.al o (b+1) y 76) (some (.v (.int .i64 (a:Int)))) none none=some (.bw o (a*76) (b+1 - a) (y - a) 76):=gn a9p s a9p;have I:c7 76 (.al o (b+1) y 76) (some (.v (.int .i64 ((a:Int)+1)))) none none=some (.bw o (a*76+76) (b - a) (y -(a+1)) 76):=by have:=gn (i:=76) (c0:=o) (v:=b+1) (M:=y) (e:=a+1) (e2:= .i64) a9p s a9p;grind
  have K:(p.set o (.cells E)) C=some (.cells k):=by rw[U.an _ _ (a4Q l3)];exact S
  have T:=hn (e:=76) (v:=o) (M:=a*76) (j0:=y - a) (i:=b+1 - a) (w _ K) (U.ah p o (.cells E)) a9p;have M:k.take ((b+1 - a)*76)=k:=a4I a9p;rw[M]at T;obtain⟨x,V⟩: ∃x,x=putAt E (a*76) k:=⟨_,rfl⟩;have N:x.length=y*76:=by rw[V,eJ _ _ _ a9p,l4]
  rw[<-V]at T;have l6:(p.set o (.cells x)) c=some (.cells r):=by rw[U.an _ _ (a4Q l2)];exact D
  have O:=Z _ r h l6 a9p m;have W:=hn (e:=76) (v:=o) (M:=a*76+76) (j0:=y -(a+1)) (i:=b - a) O (U.ah p o (.cells x)) a9p;have Q:(h.drop (a*76)).take ((b - a)*76)=h.drop (a*76):=a4I a9p;rw[Q]at W;refine dC (iy @F @B @g @c2 @n @k0 @H @I @T @W @U.set_set) ?_;refine⟨_,U.a1,U.ae z.1 (U.bF z.1 q),.inr ⟨o,b+1,y,_,rfl,U.bF z.1 q,U.ah _ _ _,?_,?_,?_,s,k8⟩⟩
  .rw[eJ _ _ _ a9p,N]
  .have:=(pt (g:=E) (A:=k) (e1:=h.drop (a*76)) (v:=76) l5 u j9 a9p).2;rw[show(b+1)*76=a*76+76+(b - a)*76 by omega,V];exact this
  grind
 .have n:c7 76 (.al c b d 76) none (some (.v (.int .i64 ((b:Int)+1)))) none=some (.al c (b+1) d 76):=by rw[show(b:Int)+1=((b+1:Nat):Int) by omega];exact hP a9p
  have H:c7 76 (.al c (b+1) d 76) (some (.v (.int .i64 (a:Int)))) none none=some (.bw c (a*76) (b+1 - a) (d - a) 76):=gn a9p a9p a9p;have I:c7 76 (.al c (b+1) d 76) (some (.v (.int .i64 ((a:Int)+1)))) none none=some (.bw c (a*76+76) (b - a) (d -(a+1)) 76):=by have:=gn (i:=76) (c0:=c) (v:=b+1) (M:=d) (e:=a+1) (e2:= .i64) a9p a9p a9p;grind
  have l7:r≠ []:=by rintro rfl;simp at l;omega
  have l8:kr (.al C 1 1 76) (.bw c (a*76+76) (b - a) (d -(a+1)) 76) p=some (.v (.bool false)):=x1 rfl rfl (a4Q Y) (qx S (by rintro rfl;simp at u)) (qx D l7);have O:bM p 76 (.bw c (a*76) (b+1 - a) (d - a) 76)=some (b+1 - a,(r.drop (a*76)).take ((b+1 - a)*76)):=by simp only[bM,U.af D];rw[if_pos ⟨trivial,a9p⟩]
  have W:=hn (e:=76) (v:=c) (M:=a*76+76) (j0:=d -(a+1)) (i:=b - a) O D a9p;have Q:((r.drop (a*76)).take ((b+1 - a)*76)).take ((b - a)*76)=h.drop (a*76):=by rw[a5Y,<-m,a6f];congr 1;omega
  rw[Q]at W;obtain⟨x,V⟩: ∃x,x=putAt r (a*76+76) (h.drop (a*76)):=⟨_,rfl⟩;rw[<-V]at W;have N:x.length=r.length:=by rw[V,eJ _ _ _ a9p]
  have K:(p.set c (.cells x)) C=some (.cells k):=by rw[U.an _ _ (a4Q Y)];exact S
  have T:=hn (e:=76) (v:=c) (M:=a*76) (j0:=d - a) (i:=b+1 - a) (w _ K) (U.ah p c (.cells x)) a9p;have M:k.take ((b+1 - a)*76)=k:=a4I a9p;rw[M]at T;refine dC (iy @F @B @g @c2 @n @H @I @l8 @W @T @U.set_set) ?_;refine⟨_,U.a1,U.ae z.1 j,.inr ⟨c,b+1,d,_,rfl,j,U.ah _ _ _,?_,?_,?_,a9p,X⟩⟩
  .rw[eJ _ _ _ a9p,N,l]
  .have:=(pt (g:=r) (A:=k) (e1:=h.drop (a*76)) (v:=76) k6 u j9 a9p).1;grind
  grind
variable{b9:List aK}
theorem a1P (c:az dD b9 g): ∀a∈g,∃b,a= .agg b/\b.length=76:=λa d=>by
 obtain⟨k,_,T,rfl,h⟩:=c.mem d;exact⟨T,rfl,h.all.1⟩
theorem ar.FK (b:ar f t 76 (flat g) n) (c:az dD b9 g): ∃a,View t n a (.J g .any)/\f.sub a:=by obtain⟨h,a,d,k,o⟩:=View.dV b;rw[dg (c.cells λ_ _=>dD.cells)]at d;grind[xL,a1P]
def de (a:List aK) (b:List UInt8):Nat:=(a.takeWhile λc=>bY c.name b).length
def FL: ∀ {l:List aK}{nm:List UInt8}{i:Nat},Place l nm i->i=de l nm
 | [],nm,i,a=>by have:=a.1;simpa[de] using this
 |d::l,nm,0,a=>by
  have:=a.2.2 0 a9q a9p;simp only[a5q]at this;simp[de,a5z,this]
 |d::l,nm,i+1,a=>by
  have c:=a.2.1 0 a9p;simp only[a5q]at c;have:=FL (l:=l) (nm:=nm) (i:=i) ⟨by have:=a.1;simpa using this,λb h=>by have:=a.2.1 (b+1) a9p;simpa using this,λb h k=>by have:=a.2.2 (b+1) a9r a9p;simpa using this⟩;simp only[de,a5z,c,if_true,a4M];rw[this];rfl
def gH (a:List aK) (b:List UInt8):Bool:=decide (de a b<a.length)&&decide ((a.getD (de a b) default).name=b)
theorem zs {c:List aK} (d:cA c=true): ∀b a,b<a->a<c.length->bY (c.getD b default).name (c.getD a default).name=true
 |b,0,h1,_=>by omega
 |b,a+1,h1,p=>by
  have h:=d;simp only[cA,a4K,a4W,a5Z,a6s,decide_eq_true_eq]at h;have k:=(h.1 (a+1) p).2.resolve_left a9p;rw[Nat.add_sub_cancel]at k;rcases a9o b a with o|o
  .exact vh _ _ _ (zs d b a o a9p) k
  grind
def zt (a:List aK) (c:List R) (k:Own) (b:List UInt8) (r:az dD a c) (d:cA a=true) (h:U):
  AC Tryz.prog 148 [.J c k,bd b] h λo p=>p=h/\o= .aL [.v (.int .i64 (de a b:Int)),.v (.bool (gH a b))]:=by
 have C:a.length<=8:=by simp only[cA,a4K,decide_eq_true_eq]at d;exact d.2
 refine(a1M a c k b r a9p (zs d) h).mono λo p x=> ?_;obtain⟨y,D,z,rfl⟩:=x;obtain rfl:=FL z;exact⟨y,rfl⟩
def vk (d:Except Int (List aK)) (a:R):Prop:=
 match d with
 | .error b=>b≠0/\a= .aL [.J [] .nil,.v (.int .i64 b)]
 | .ok h=> ∃c,az dD h c/\a= .aL [.J c .any,.v (.int .i64 0)]
def kc (a:List aK) (b:aK):Except Int (List aK):=
 if(cA a&&fT b)=true then(if gH a b.name=true then .error 4 else if 8<=a.length then .error 10 else .ok (a.take (de a b.name)++b::a.drop (de a b.name)))else .error 1
def kd (a:List aK) (b:aK):Except Int (List aK):=
 if(cA a&&fT b)=true then(if gH a b.name=true then .ok (a.set (de a b.name) b)else .error 3)else .error 1
def tg (a b:U) (o:Except Int (List aK)) (c:R):Prop:=
 match o with
 | .error d=>a.sub b/\d≠0/\c= .aL [.J [] .nil,.v (.int .i64 d)]
 | .ok p=> ∃h k,az dD p k/\ar a b 76 (flat k) h/\c= .aL [h,.v (.int .i64 0)]
def tg.zu {a:Except Int (List aK)} (b:tg f t a n): ∃c d,View t n d c/\f.sub d/\vk a c:=by
 cases a with
 |error x=>exact⟨_,_,View.refl,b.1,b.2⟩
 |ok y=>obtain⟨z,k,h,o,rfl⟩:=b;obtain⟨C,p,r⟩:=ar.FK o h;exact⟨_,_,View.aL (a:= []) p,r,k,h,rfl⟩
def a1Q (a:List aK) (b:List UInt8):de a b<=a.length:=by unfold de;have:=congrArg List.length (a5E (p:=λc:aK=>bY c.name b) (l:=a));rw[a4J]at this;omega
def a1R (a:List aK) (d:List R) (x:Own) (b:aK) (c:List R) (D:et b c) (V:b.Fit) (p:az dD a d) (L: ∀b∈a,b.Fit) (W:a.length<=1000) (r:U):
  AC Tryz.prog 79 [.J d x,.agg c] r λz E=>r.sub E/\vk (kc a b) z:=by
 have q:AC Tryz.prog 79 [.J d x,.agg c] r λz E=>tg r E (kc a b) z:= ?_
 .exact q.view λz E s=>s.zu
 have t:=p.len;obtain⟨e,Q,X,Y,Z,j9,k0,k1,k2,k3,k4,k5,k6⟩:=D.all;refine aO hm Ly ?_;refine bq λf u=> ?_;have C:=U.ae (Y:= .cells c) (U.a1 (f:=r)) u;have aI:=U.ah r f (.cells c);generalize r.set f _=o at*;have v:=U.af aI;have h:(if(cA a&&fT b)=true then(if gH a b.name=true then .error 4 else if 8<=a.length then .error 10 else .ok (a.take (de a b.name)++b::a.drop (de a b.name)))else .error 1)=kc a b:=rfl;generalize kc a b=k7 at*;cases P:cA a with
 |false=>rw[if_neg (by rw[P];simp)]at h;refine bj (nE a d x p L a9p o) ?_;rw[<-h];exact⟨_,U.a1,C,a9t,rfl⟩
 |true=>
 cases g:fT b with
 |false=>rw[if_neg (by rw[g];simp)]at h;refine bj (nE a d x p L a9p o) ?_;refine bj (rh b c D V o) ?_;rw[<-h];exact⟨_,U.a1,C,a9t,rfl⟩
 |true=>
 rw[if_pos (by rw[P,g];rfl)]at h;refine bj (nE a d x p L a9p o) ?_;refine bj (rh b c D V o) ?_;have F:=zt a d x b.name p P o;have w:=a1Q a b.name;generalize de a b.name=k at*;cases G:gH a b.name with
 |true=>rw[if_pos G]at h;rw[G]at F;refine bj F ?_;rw[<-h];exact⟨_,U.a1,C,a9t,rfl⟩
 |false=>
 rw[if_neg (by rw[G];simp)]at h;rw[G]at F;refine bj F ?_;refine aH (λA=> ?_) λA=> ?_
 .rw[if_pos a9p]at h;rw[<-h];exact⟨_,U.a1,C,a9t,rfl⟩
 rw[if_neg a9p]at h;have i:aN 76 [R.agg c]:=λj B=>by rw[a4X.1 B];exact e
 refine(rR (eS i a9q λy k8=>trivial)).mpr ?_;have v:=U.af aI;refine aa ?_;refine ai (vj a d x o p W) ?_;intro l m S;have k9:=U.af (S.1 _ _ aI);refine aa ?_;have H:flat [R.agg c]=c:=by simp[flat,R.cells]
 refine eS i a9q λy n=> ?_;rw[H];have T:=p.cells λ_ _=>dD.cells;have I:ar (o.set y (.cells c)) (m.set y (.cells c)) 76 (flat d) l:=S.new n;have K:(flat d).length=a.length*76:=by rw[dg T,t]
 have M:=a1O (o.set y (.cells c)) (m.set y (.cells c)) (flat d) l I a.length K k w W c e y (U.ah _ _ _);refine aa ?_;refine ai M ?_;intro z l0 N;refine aa ?_;refine⟨_,U.a1,?_⟩;rw[<-h];have O:r.sub (o.set y (.cells c)):=U.ae C (U.bF C (U.bF S.1 n));refine⟨z,d.take k++ .agg c::d.drop k,(p.take k).append ⟨⟨c,rfl,D⟩,p.drop k⟩,?_,rfl⟩;have j:flat (d.take k++ .agg c::d.drop k)=(flat d).take (k*76)++(c++(flat d).drop (k*76)):=by rw[(fZ k T).1,(fZ k T).2];simp[flat,R.cells]
 rw[j];exact N.base O
theorem ar.kg (c:ar t f e (flat g) n) (d:aN e g) (y:0<e) (p:i<g.length) (k:A.length=e):
  ∃b h a,n= .al b g.length h e/\f b=some (.cells a)/\i*e+e<=a.length/\ar t (f.set b (.cells (putAt a (i*e) A))) e (flat (g.set i (.agg A))) n:=by
 have z:=dg d;have C:(i+1)*e<=g.length*e:=a4Y _ p;rw[a5J,a7g]at C;obtain⟨b,D,h,a,rfl,r,E,F,G,j,x,L⟩:=c.al (λo=>by rw[o,a4R]at z;omega);obtain rfl:D=g.length:=a7m y a9p;have l:=a4Y e x;refine⟨b,h,a,rfl,E,a9p,U.ae c.1 r,.inr ⟨b,g.length,h,_,rfl,r,U.ah _ _ _,?_,?_,?_,x,L⟩⟩
 .rw[eJ _ _ _ a9p,F]
 .have P:g.set i (.agg A)=g.take i++ .agg A::g.drop (i+1):=a6b .. |>.trans (by rw[if_pos p])
  have S:flat (g.take i++ .agg A::g.drop (i+1))=(flat g).take (i*e)++(A++(flat g).drop ((i+1)*e)):=by rw[(fZ (i+1) d).1,(fZ i d).2];simp[flat,R.cells]
  have T:(a.take (i*e)).length=i*e:=by rw[a4L];omega
  have V:(i+1)*e=i*e+e:=by rw[a5J,a7g]
  rw[P,S,putAt,k,<-G,a5Y,a6r a9p,V,a6f];have m:(a.take (i*e)++A).length=i*e+e:=by rw[a4J,T,k]
  have q:g.length*e=(i*e+e)+(g.length*e -(i*e+e)):=a9p;grind
 .rw[dg (c:=e)]
  .rw[a7k]
  .intro o W;rcases a6W W with c|rfl
   .exact d o c
   .exact k
theorem a1S (a:List aK) (c:List R) (o:Own) (b:aK) (d:List R) (z:et b d) (S:b.Fit) (k:az dD a c) (L: ∀b∈a,b.Fit) (g:a.length<=1000) (p:U):
  AC Tryz.prog 151 [.J c o,.agg d] p λC D=>p.sub D/\vk (kd a b) C:=by
 have i:AC Tryz.prog 151 [.J c o,.agg d] p λC D=>tg p D (kd a b) C:= ?_
 .exact i.view λC D E=>E.zu
 have j:=k.len;obtain⟨l,u,v,w,A,B,H,I,K,M,N,O,Q⟩:=z.all;refine aO hm NF ?_;refine bq λT m=> ?_;have F:=U.ae (Y:= .cells d) (U.a1 (f:=p)) m;have aI:=U.ah p T (.cells d);generalize p.set T _=r at*;have X:=U.af aI;have h:(if(cA a&&fT b)=true then(if gH a b.name=true then .ok (a.set (de a b.name) b)else .error 3)else .error 1)=kd a b:=rfl;generalize kd a b=Y at*;cases P:cA a with
 |false=>rw[if_neg (by rw[P];simp)]at h;refine bj (nE a c o k L a9p r) ?_;rw[<-h];exact⟨_,U.a1,F,a9t,rfl⟩
 |true=>
 cases V:fT b with
 |false=>rw[if_neg (by rw[V];simp)]at h;refine bj (nE a c o k L a9p r) ?_;refine bj (rh b d z S r) ?_;rw[<-h];exact⟨_,U.a1,F,a9t,rfl⟩
 |true=>
 rw[if_pos (by rw[P,V];rfl)]at h;refine bj (nE a c o k L a9p r) ?_;refine bj (rh b d z S r) ?_;have G:=zt a c o b.name k P r;have W:gH a b.name=true->de a b.name<a.length:=λE=>by
  simp only[gH,a4K,decide_eq_true_eq]at E;exact E.1
 generalize de a b.name=x at*;cases y:gH a b.name with
 |false=>rw[if_neg (by rw[y];simp)]at h;rw[y]at G;refine bj G ?_;rw[<-h];exact⟨_,U.a1,F,a9t,rfl⟩
 |true=>
 rw[if_pos y]at h;rw[y]at G;have W:=W y;refine bj G ?_;refine ai (vj a c o r k g) ?_;intro Z j9 e;have n:=k.cells λ_ _=>dD.cells;obtain⟨f,q,k0,rfl,s,k1,t⟩:=ar.kg e n a9p (i:=x) a9p l;have k2:=U.af (e.1 _ _ aI);have k3:cR 76 (.al f c.length q 76) (.v (.int .i64 (x:Int)))=some (.ptr f (x*76)):=by grind[iZ,Int.toNat_natCast]
 have k4:=U.aJ s;refine aa ?_;refine⟨_,U.a1,?_⟩;rw[<-h];exact⟨_,c.set x (.agg d),k.set x ⟨d,rfl,z⟩,t.base F,by rw[j]⟩
theorem a1T (F o:U) (d:List R) (G:R) (L:ar F o 76 d G) (r:Nat) (P:d.length=r*76) (b:Nat) (M:b<r) (N:r<=1000):
  AC Tryz.prog 150 [G,.v (.int .i64 (b:Int)),.v (.int .i64 ((b:Int)+1))] o λi j=>ar F j 76 (d.take (b*76)++d.drop ((b+1)*76)) i:=by
 obtain⟨c,a,k,x,rfl,S,T,l,V,m,C,n⟩:=L.al (λq=>by rw[q,a4R]at P;omega);obtain rfl:a=r:=a9p;refine bf hm NC a9q ?_;have s:(b:Int)+1=((b+1:Nat):Int):=a9p;rw[s];obtain⟨O,t⟩:=DQ (M:=76) (a:=c) (b:=a) (c0:=k) (j0:=b) (e:=b+1) (i:=a) (e2:= .i64) (c:= .i64) (d:= .i64) a9p a9p C;have u:c7 76 (.al c a k 76) none (some (.v (.int .i64 (b:Int)))) none=some (.al c b k 76):=hP a9p;obtain⟨Q,v,_,D⟩:=ov (i:=76) (j0:=c) (M:=a) (c0:=k) (e:=b+1) (e2:= .i64) a9p C;have D:=D o x d T a9p V;have w: ¬(b:Int)=((b+1:Nat):Int):=a9p;simp -dsimp -implicitDefEqProofs (disch:=first|omega|assumption|(simp only[aE,Nat.reduceAdd];try omega)) only[go_sem,simprocAttr,↓eL,t,u,v,w];refine uu T l D a9p a9p a9p ?_;have A:b+(a -(b+1))=a - 1:=a9p;rw[A];have W:(d.drop ((b+1)*76)).length=(a -(b+1))*76:=by rw[a4V];omega
 obtain⟨h,y⟩: ∃h,h=putAt x (b*76) (d.drop ((b+1)*76)):=⟨_,rfl⟩;have E:h.length=k*76:=by rw[y,eJ _ _ _ a9p];omega
 have B:h.take ((a - 1)*76)=d.take (b*76)++d.drop ((b+1)*76):=by
  rw[y,putAt];have H:(x.take (b*76)).length=b*76:=by rw[a4L];omega
  rw[show(a - 1)*76=(x.take (b*76)++d.drop ((b+1)*76)).length by rw[a4J,H,W];omega,a7c];grind
 rw[<-y];have I:(o.set c (.cells h)) c=some (.cells h):=U.ah _ _ _;have X:c7 76 (.al c (a - 1) k 76) (some (.v (.int .i64 ((a - 1:Nat):Int)))) (some (.v (.int .i64 ((a:Nat):Int)))) none=some (.bw c ((a - 1)*76) (a -(a - 1)) (k -(a - 1)) 76):=Cg a9p C a9p;have e: ∀z:List R,z.length=76->kp 76 z (.bw c ((a - 1)*76) (a -(a - 1)) (k -(a - 1)) 76) (o.set c (.cells h))=some ((o.set c (.cells h)).set c (.cells (putAt h ((a - 1)*76) (List.replicate (a -(a - 1)) z).flatten))):=λz Y=>x0 I (by rw[E];omega);have p:=fU.all.1;rw[<-jo]at p;have e:=(e _ p).trans (by rw[U.set_set]);have K:(d.take (b*76)++d.drop ((b+1)*76)).length=(a - 1)*76:=by rw[a4J,a4L,a4V];omega
 clear p y W V m P;refine aa ?_;have p:=fU.all.1;rw[<-jo]at p;refine⟨_,U.a1,?_⟩;generalize f:putAt h ((a - 1)*76) _=g;have cg:g.length=k*76:=by rw[<-f,eJ _ _ _ (by rw[jH,p,E];omega),E]
 have c9:g.take ((a - 1)*76)=h.take ((a - 1)*76):=by rw[<-f,putAt,a4U,a6h (by rw[a4L];omega),a5Y,a6Y]
 refine⟨U.ae L.1 S,.inr ⟨c,a - 1,k,_,rfl,S,U.ah _ _ _,cg,by rw[c9,B],K,a9p,n⟩⟩
def cM (a:List aK) (b:List UInt8):Except Int (List aK):=
 if cA a=true then(if gH a b=true then .ok (a.take (de a b)++a.drop (de a b+1))else .error 3)else .error 1
def a1U (a:List aK) (c:List R) (p:Own) (b:List UInt8) (h:az dD a c) (G: ∀S∈a,S.Fit) (L:a.length<=1000) (d:U):
  AC Tryz.prog 81 [.J c p,bd b] d λr y=>d.sub y/\vk (cM a b) r:=by
 have T:AC Tryz.prog 81 [.J c p,bd b] d λr y=>tg d y (cM a b) r:= ?_
 .exact T.view λr y z=>z.zu
 have V:=h.len;refine aO hm LC ?_;have k:(if cA a=true then(if gH a b=true then .ok (a.take (de a b)++a.drop (de a b+1))else .error 3)else .error 1)=cM a b:=rfl;generalize cM a b=i at*;cases D:cA a with
 |false=>rw[if_neg (by rw[D];simp)]at k;refine bj (nE a c p h G a9p d) ?_;rw[<-k];exact⟨_,U.a1,U.a1,a9t,rfl⟩
 |true=>
 rw[if_pos D]at k;refine bj (nE a c p h G a9p d) ?_;have C:=zt a c p b h D d;have E:gH a b=true->de a b<a.length:=λz=>by
  simp only[gH,a4K,decide_eq_true_eq]at z;exact z.1
 generalize de a b=o at*;cases x:gH a b with
 |false=>rw[if_neg (by rw[x];simp)]at k;rw[x]at C;refine bj C ?_;rw[<-k];exact⟨_,U.a1,U.a1,a9t,rfl⟩
 |true=>
 rw[if_pos x]at k;rw[x]at C;have E:=E x;refine bj C ?_;refine ai (vj a c p d h L) ?_;intro W e f;have F:=h.cells λ_ _=>dD.cells;have g:(flat c).length=a.length*76:=by rw[dg F,V]
 refine aa ?_;refine ai (a1T d e (flat c) W f a.length g o E L) ?_;intro r j P;refine aa ?_;refine⟨_,U.a1,?_⟩;rw[<-k];rw[(fZ (o+1) F).1,(fZ o F).2,<-oV]at P;exact⟨r,c.take o++c.drop (o+1),(h.take o).append (h.drop (o+1)),P,rfl⟩
variable{s a7:R -> U -> Prop}{K:Ctx}{b4:FuncId}
def fH {d:U->Prop} (h: ∀B a,cD t e B a->d a) (c:AC K.p b4 g f λ_ a=>cD t e B a) (k: ∀b a,cD t e B a->a7 b a)
  (o: ∀b a,d a->s b a=a7 b a:=by intro b f c;simp -dsimp -implicitDefEqProofs (disch:=first|omega|assumption|exact U.tU a9s a9s|(simp only[aE,Nat.reduceAdd];try omega)) only[go_sem,simprocAttr,-List.reduceReplicate,↓eL,tV,tT, *]<;>rfl):nT K b4 g f (bO s ()):=ai c λb a c=>(o b a (h B a c)).mpr (k b a c)
theorem FM (D e:U) (c:Nat) (d:List UInt8) (a:ay) (r x y:Own) (G:cD D c d e) (X:d.length<=1000000000) (f:a.sum.length=32) (n:a.hv):
  AC Tryz.prog 105 [.ptr c 0,.agg (ab a r x y)] e λ_ h=>cD D c (d++eh a) h:=by
 have Y:=(aX (N:=r) (e5:=x) (h5:=y) f).all;generalize ab a r x y=L at*;obtain⟨Z,j9,k0,q,k1,s,k2⟩:=n;obtain⟨P,t⟩:=a6M q;obtain⟨S,u⟩:=a6M s;have k3: ∀z:List UInt8,(.agg (z.map ak):R)=cL z:=λ_=>rfl;refine aO hm Mk ?_;refine aP λz v=> ?_;obtain⟨w,A,g⟩:=G.new (ob:= .cells L) v;have E: ∀d h,cD (D.set z (.cells L)) c d h->h.read z=some L:=λd h G=>U.af (G.get w (U.ah _ _ _));refine aa ?_;refine fH E (CH _ _ c _ _ f g a9p) λ_ i o=> ?_;refine fH E (sn _ _ c _ _ a9p o a9r) λ_ i o=> ?_;refine fH E (sn _ _ c _ _ a9p o (by simp[kA];omega)) λ_ i o=> ?_;refine jM λk4 B=> ?_;have T:az isRow [a.aV,a.aW,a.key] [.J (ad a.aV) r,.J (ad a.aW) x,.J (ad a.key) y]:=⟨⟨_,rfl⟩,⟨_,rfl⟩,⟨_,rfl⟩,trivial⟩;have p: ∀C∈ [a.aV,a.aW,a.key],C.length<=8:=a9r;have H: ∀C:List Int,(dy C).length=8*C.length+1:=λC=>by rw[dy,a4M,ob]
 have V:eh a=a.sum++fm P++fm S++ [a.aV,a.aW,a.key].flatMap dy:=by rw[eh,t,u];simp
 obtain⟨k,F⟩: ∃k,[a.aV,a.aW,a.key]=k:=⟨_,rfl⟩;have k5:k.length=3:=by rw[<-F];rfl
 rw[F]at T p V;have I: ∀b,b<=3->((k.take b).flatMap dy).length<=65*b:=λb j=>by
  rw[<-F]at p|-;have:=p a.aV a9q;have:=p a.aW a9q;have:=p a.key a9q;rcases(by omega:b=0\/b=1\/b=2\/b=3)with rfl|rfl|rfl|rfl<;>simp[H]<;>omega
 generalize (([.J (ad a.aV) r,.J (ad a.aW) x,.J (ad a.key) y]):List R)=l at*;obtain⟨_,W,K⟩:=o.new (ob:= .buf 1 l.length l.length) B;have W:=(U.set_nil W).1;have k6:=T.len;rw[V,<-a4U,<-a4U,<-a4U];have k7:(d++a.sum++fm P++fm S).length<=1000001000:=by simp[kA];omega
 generalize d++a.sum++fm P++fm S=M at*;clear E F V o g;refine ch [0,26,27] (λb:Nat=> [(28,.v (.int .i64 b))]) (λb h=>b<=3/\cD D c (M++(k.take b).flatMap dy) h) (λb=>3 - b) 0 ⟨⟨a9p,by simpa using K.base (U.ae (U.ae U.a1 A) W)⟩,aU⟩ ?_;rintro b k8 ⟨j,N⟩ k9;refine aa ?_;refine aH (λO=> ?_) λO=> ?_
 .have m:k[b]? =some (k.getD b []):=by grind
  obtain⟨_,l0,Q,rfl⟩:=T.get m;have l1:=p _ (a4O m);have l2:=I b j;refine aa ?_;refine hR (so _ _ c _ _ Q a9p N (by rw[a4J];omega)) λ_ l3 l4=> ?_;refine⟨b+1,⟨a9p,?_⟩,rfl,a9p⟩;grind[eT,List.append_assoc]
 .obtain rfl:b=3:=a9p;grind[List.take_of_length_le,U.a1]
theorem FN (b:fT e6=true):e6.hv:=by
 simp only[fT,ea,nr,jX,a4K,decide_eq_true_eq,a6s,a4W,a5Z]at b;obtain⟨⟨⟨_,c⟩,a⟩,d,h,P,S,T⟩:=b;rw[if_pos a9t]at a;simp only[a4K,decide_eq_true_eq,a4W,a5Z,mj,jX]at a;obtain⟨k,o,p,r,x,y⟩:=qL d;obtain⟨z,C,D,E,F,G⟩:=qL h;refine⟨c.2,a.1.2.2,λV L=> ?_,⟨k,o,a9p,p,r,x,y⟩,⟨z,C,?_,D,E,F,G⟩⟩
 .obtain⟨W,e,rfl⟩:=a5y L;simp_all
 grind[aA]
theorem mo (a:cA b9=true):(∀b∈b9,b.hv)/\b9.length<=8:=by simp only[cA,a4K,a4W,a5Z,decide_eq_true_eq]at a;refine⟨λb c=> ?_,a.2⟩;obtain⟨d,h,rfl⟩:=a5y c;grind[FN,List.getD]
theorem FO (b:List aK) (L:List R) (W:Own) (C:az dD b L) (s: ∀a∈b,a.Fit) (t:b.length<=1000000) (k:U):
  AC Tryz.prog 58 [.J L W] k λe o=>k.sub o/\if cA b=true then∃u,e= .aL [.J ((pG b).map ak) u,.v (.int .i64 0)]else e= .aL [.J [] .nil,.v (.int .i64 1)]:=by
 have k3:=C.len;have k4: ∀x:Nat,IntKind.u8.wrap (x:Int)=((UInt8.ofNat x).toNat:Int):=λx=>ix x;refine aO hm L4 ?_;refine bj (nE b L W C s t _) ?_;refine aH (λD=> ?_) λD=> ?_
 .trivial
 obtain⟨f,k5⟩:=mo D;refine bq λh v=> ?_;have w:cD k h [] (k.set h (.cells [.J [] .nil,.v (.int .i64 0)])):=⟨.nil,bh.nil U.a1⟩;refine hR (mX k _ h [] (UInt8.ofNat b.length) w a9q) λ_ k6 A=> ?_;have df:=a0r C f;refine ch [0,4,19,20] (λc:Nat=> [(21,.v (.int .i64 c))]) (λc o=>c<=b.length/\cD k h (UInt8.ofNat b.length::(b.take c).flatMap hh) o) (λc=>b.length - c) 0 ⟨⟨a9p,by simpa using A⟩,aU⟩ ?_;rintro c B ⟨k7,y⟩ H;refine aa ?_;refine aH (λI=> ?_) λI=> ?_
 .have g:b[c]? =some (b.getD c default):=by simp_all
  obtain⟨_,k8,T,rfl,r⟩:=C.get g;have p:=f _ (a4O g);have i:=df c;have K:(b.take (c+1)).flatMap hh=(b.take c).flatMap hh++hh (b.getD c default):=by rw[eT (b:=default) a9p,a5D];simp
  generalize b.getD c default=a at*;have M:=yD p r.k.1 r.z.1;obtain⟨N,k9,l0,l1,l2,l3,l4,l5,l6,l7,l8,l9,n0⟩:=r.all;obtain⟨_,_,n1,n2⟩:=nG r;have n3:=iw (e:=76) (n:= .agg T) N;have n4:=jo;have n5:=hC (a:=a.aC);have n9:= @pz a.aC;refine aa ?_;refine aP λP x=> ?_;obtain⟨O,Q,E⟩:=y.new (ob:= .cells T) x;have F: ∀aR o,cD (k.set P (.cells T)) h aR o->o.read P=some T:=λaR o X=>U.af (X.get O (U.ah _ _ _));have a00: ∀aR:List UInt8,s9 (bd aR)=some (.J (aR.map ak) .any):=λaR=>rfl;obtain⟨z,S⟩: ∃z,UInt8.ofNat b.length::(b.take c).flatMap hh=z:=⟨_,rfl⟩;rw[S]at E;have a01:z.length<=9000:=by rw[<-S,a4M];omega
  rw[hh,a4J]at M;have a02:=xh a.name;have a03:=p.n;have a04:=p.c;refine aa ?_;refine fH F (CS _ _ h _ a.name .any a9p E a9p) λ_ j E=> ?_;refine fH F (mX _ _ h _ (UInt8.ofNat a.aC.length) E (by rw[a4J];omega)) λ_ a05 Y=> ?_;have a06:(z++hV a.name++ [UInt8.ofNat a.aC.length]).length<=10000:=by grind
  have l: ∀d,((a.aC.take d).flatMap hV).length<=200:=λd=>by
   have:=EY (a:=a.aC.take d) λD Z=>p.cs D (a4Z Z);rw[a4L]at this;omega
  refine ch [4,6,21,37,38] (λd:Nat=> [(39,.v (.int .i64 d))]) (λd o=>d<=a.aC.length/\cD (k.set P (.cells T)) h (z++hV a.name++ [UInt8.ofNat a.aC.length]++(a.aC.take d).flatMap hV) o) (λd=>a.aC.length - d) 0 ⟨⟨a9p,by simpa using Y⟩,aU⟩ ?_;rintro d a07 ⟨a08,G⟩ H;have a09:=F _ _ G;refine aa ?_;refine aH (λc2=> ?_) λc2=> ?_
  .have m:=l d;have a10:=p.cs (a.aC.getD d []) (by simp_all);refine hR (CS _ _ h _ (a.aC.getD d []) .any a9p G (by rw[a4J];omega)) λ_ j9 V=> ?_;refine⟨d+1,⟨a9p,?_⟩,rfl,a9p⟩;rw[eT (b:= []) a9p,a5D,<-a4U];simpa using V
  .obtain rfl:d=a.aC.length:=a9p;have m:=l a.aC.length;rw[a5f]at G m;have a11:=sz r.k.1 p.k;refine fH F (FM _ _ h _ a.bK _ _ _ G (by rw[a4J];omega) r.k.1 p.k) λ_ j9 V=> ?_;refine hR (FM _ _ h _ a.cj _ _ _ V (by grind) r.z.1 p.z) λ_ a13 k0=> ?_;refine⟨c+1,⟨a9p,?_⟩,rfl,a9p⟩;have k1:=k0.base (U.ae (Y:= .cells T) U.a1 Q);rw[K,<-a5I,S,hh];simpa using k1
 .obtain rfl:c=b.length:=a9p;have i:=df b.length;rw[a5f]at y i;refine ai (CG k B h _ y (by rw[a4M];omega)) ?_;rintro _ j ⟨n,q,rfl⟩;refine aa ?_;refine bj (CT k j h _ (y.mono q.sub)) ?_;have k2:=U.aq (y.sub v) q.sub
  first|exact⟨n,rfl⟩|exact⟨k2,n,rfl⟩
theorem FP (n k1:U) (h:Nat) (A:ay) (D:List UInt8) (l1:n h=none) (l2:A.In 8) (e:bW n h ⟨eh A++D,0⟩ k1):
  AC Tryz.prog 175 [.ptr h 0] k1 λq S=>bW n h ⟨D,0⟩ S/\ ∃F G L,q= .agg (ab A F G L):=by
 have eQ:=aX (N:= .nil) (e5:= .nil) (h5:= .nil) bk;have a08:=eQ.len;have a09:=eQ.t37;obtain⟨a,b,c,a10,cq,d⟩:=A;obtain⟨P,l3,l4,l5,l6,l7,l8,l9,a11,n0,a13⟩:=l2;obtain⟨o,rfl⟩:=a6M l9;obtain⟨r,rfl⟩:=a6M n0
 dsimp only at*
 have n1:eh ⟨a,b,c,(o:Int),(r:Int),d⟩++D=a++(fm o++(fm r++(dy b++(dy c++(dy d++D))))):=by simp[eh]
 rw[n1]at e;have a14:(cL a).cells=a.map ak:=rfl;have a15:(a.map ak).length=32:=by simp[P]
 have a16:=cr;have a18:putAt (ab aA .nil .nil .nil) 0 (a.map ak)=ab ⟨a,[],[],0,0,[]⟩ .nil .nil .nil:=uk bk P;have a19: ∀(b c:List Int) (T V:Int) (d:List Int) (F G L:Own),putAt (ab aA .nil .nil .nil) 0 (ab ⟨a,b,c,T,V,d⟩ F G L)=ab ⟨a,b,c,T,V,d⟩ F G L:=λb c T V d F G L=>cF bk P;have cl: ∀(b c:List Int) (T V:Int) (d:List Int) (F G L:Own),(ab ⟨a,b,c,T,V,d⟩ F G L).length=37/\(ab ⟨a,b,c,T,V,d⟩ F G L).take 37=ab ⟨a,b,c,T,V,d⟩ F G L:=λb c T V d F G L=>by
  have:=aX (w:=⟨a,b,c,T,V,d⟩) (N:=F) (e5:=G) (h5:=L) P;exact⟨this.len,this.t37⟩
 refine aO hm Ov ?_;refine aP λq n2=> ?_;rw[cr];obtain⟨B,k2,e⟩:=e.new (ob:= .cells (ab aA .nil .nil .nil)) n2;refine aa ?_;have k3:=CP _ _ h _ e;rw[D0 _ _ P]at k3;refine ai k3 ?_;rintro _ a27 ⟨M,rfl⟩
 dsimp only at M|-
 refine aa ?_;refine aP λz N=> ?_;obtain⟨f,k4,k5⟩:=M.new (ob:= .cells (ab ⟨a,[],[],0,0,[]⟩ .nil .nil .nil)) N;have n3:q≠z:=by rintro rfl;rw[M.get B (U.ah _ _ _)]at N;cases N
 obtain⟨W,H⟩: ∃W,n.set q (.cells (ab aA .nil .nil .nil))=W:=⟨_,rfl⟩;have n4:W h=none:=by rw[<-H,U.an _ _ (a4Q B)];exact l1
 have n5:W q=some (.cells (ab aA .nil .nil .nil)):=by rw[<-H,U.ah]
 have k6:n.sub W:=by rw[<-H];exact U.ae U.a1 k2
 rw[H]at k5 k4;have k7: ∀ {g O S},bW (W.set z g) h O S->S z=some g:=λe=>e.get f (U.ah _ _ _);refine aa ?_;have s:=sq _ _ h 1048576 a9p _ k5;rw[uc _ a9p]at s;refine ai s ?_;rintro _ a29 ⟨t,rfl⟩;have a30:=U.aJ (k7 t);have i:putAt (ab ⟨a,[],[],0,0,[]⟩ .nil .nil .nil) 34 [.v (.int .i64 (o:Int))]=ab ⟨a,[],[],(o:Int),0,[]⟩ .nil .nil .nil:=sA P;have t:=t.put (.cells (ab ⟨a,[],[],(o:Int),0,[]⟩ .nil .nil .nil)) f
 dsimp only at t|-
 refine aa ?_;have s:=sq _ _ h 1048576 a9p _ t;rw[uc _ a9p]at s;refine ai s ?_;rintro _ a34 ⟨u,rfl⟩;have a36:=U.aJ (k7 u);have a38:putAt (ab ⟨a,[],[],(o:Int),0,[]⟩ .nil .nil .nil) 35 [.v (.int .i64 (r:Int))]=ab ⟨a,[],[],(o:Int),(r:Int),[]⟩ .nil .nil .nil:=sB P;have u:=u.put (.cells (ab ⟨a,[],[],(o:Int),(r:Int),[]⟩ .nil .nil .nil)) f
 dsimp only at u|-
 refine aa ?_;refine jM λQ n9=> ?_;obtain⟨a00,a01,X⟩:=u.new (ob:= .buf 1 3 3) n9;have Y:z≠Q:=by grind
 have a02:W Q=none:=by rwa[U.an _ _ (a4Q Y)]at a01
 rw[U.ef _ Y]at X;obtain⟨E,I⟩: ∃E,W.set Q (.buf 1 3 3)=E:=⟨_,rfl⟩;rw[I]at X;have Z:W.sub E:=by rw[<-I];exact U.ae U.a1 a02
 have a03:E h=none:=by rw[<-I,U.an _ _ (a4Q a00)];exact n4
 have a04:E z=none:=by rw[<-I,U.an _ _ Y];exact k4
 have j: ∀ {g O S},bW (E.set z g) h O S->S z=some g:=λe=>e.get f (U.ah _ _ _);have j9: ∀g,(E.set z g) h=none:=λg=>by rw[U.an _ _ (a4Q f)];exact a03
 let a05:Nat->ay:=λk=>⟨a,if 0<k then b else [],if 1<k then c else [],(o:Int),(r:Int),if 2<k then d else []⟩
 let a06:Nat->List UInt8:=λk=>if k=0 then dy b++(dy c++(dy d++D))else if k=1 then dy c++(dy d++D)else if k=2 then dy d++D else D;refine ch [0,2,3,20,21] (λk:Nat=> [(22,.v (.int .i64 k))]) (λk S=>k<=3/\ ∃x y i,bW (E.set z (.cells (ab (a05 k) x y i))) h ⟨a06 k,0⟩ S) (λk=>3 - k) 0 ⟨⟨a9p,.nil,.nil,.nil,X⟩,aU⟩ ?_;rintro k K ⟨a42,x,y,m,p⟩ a43;refine aa ?_;refine aH (λa07=> ?_) λa07=> ?_
 .have k0:=U.aJ (j p);rcases(by omega:k=0\/k=1\/k=2)with rfl|rfl|rfl
  .have p:bW (E.set z (.cells (ab ⟨a,[],[],(o:Int),(r:Int),[]⟩ x y m))) h ⟨dy b++(dy c++(dy d++D)),0⟩ K:=p;have k0:=U.aJ (j p);have l:=ph _ _ h 8 a9p _ (j9 _) p;rw[pn b 8 _ l6 a9p l3]at l;refine aa ?_;refine ai l ?_;rintro _ k8 ⟨C,k9,rfl⟩;have l0:=U.aJ (j C);have v:=λx y i w=>Dd (w:=⟨a,[],[],(o:Int),(r:Int),[]⟩) (a:=x) (N:=y) (e5:=i) (h5:=w) (q:=b) P
   dsimp only at v C|-
   refine aa ?_;exact⟨1,⟨a9p,_,_,_,C.put _ f⟩,rfl,a9p⟩
  .have p:bW (E.set z (.cells (ab ⟨a,b,[],(o:Int),(r:Int),[]⟩ x y m))) h ⟨dy c++(dy d++D),0⟩ K:=p;have k0:=U.aJ (j p);have l:=ph _ _ h 8 a9p _ (j9 _) p;rw[pn c 8 _ l7 a9p l4]at l;refine aa ?_;refine ai l ?_;rintro _ k8 ⟨C,k9,rfl⟩;have l0:=U.aJ (j C);have v:=λx y i w=>De (w:=⟨a,b,[],(o:Int),(r:Int),[]⟩) (N:=x) (a:=y) (e5:=i) (h5:=w) (q:=c) P
   dsimp only at v C|-
   refine aa ?_;exact⟨2,⟨a9p,_,_,_,C.put _ f⟩,rfl,a9p⟩
  .have p:bW (E.set z (.cells (ab ⟨a,b,c,(o:Int),(r:Int),[]⟩ x y m))) h ⟨dy d++D,0⟩ K:=p;have k0:=U.aJ (j p);have l:=ph _ _ h 8 a9p _ (j9 _) p;rw[pn d 8 _ l8 a9p l5]at l;refine aa ?_;refine ai l ?_;rintro _ k8 ⟨C,k9,rfl⟩;have l0:=U.aJ (j C);have v:=λx y i w=>sC (w:=⟨a,b,c,(o:Int),(r:Int),[]⟩) (N:=x) (e5:=y) (a:=i) (h5:=w) (q:=d) P
   dsimp only at v C|-
   refine aa ?_;exact⟨3,⟨a9p,_,_,_,C.put _ f⟩,rfl,a9p⟩
 .obtain rfl:k=3:=a9p;have p:bW (E.set z (.cells (ab ⟨a,b,c,(o:Int),(r:Int),d⟩ x y m))) h ⟨D,0⟩ K:=p;have a47:=U.af (j p);have a48:=U.aJ (p.get B (by rw[U.an _ _ n3];exact Z _ _ n5));have dr:=cl b c o r d x y m;refine aa ?_;have C:=p.other (ob:= .cells (ab ⟨a,b,c,(o:Int),(r:Int),d⟩ x y m)) B;refine⟨_,U.a1,C.base ?_,_,_,_,rfl⟩;exact U.ae (U.ae (U.aq k6 Z) (U.bF (U.aq k6 Z) a04)) k2
theorem a1V (a b:Nat) (d:a<=b) (h:b<=1048576) (c:List UInt8):fy b ⟨fm a++c,0⟩=(a,⟨c,0⟩):=by have k:=qH (fm a) c;grind[kA,fy,fl,fm,UInt8.toNat_ofNat',Nat.shiftRight_eq_div_pow]
def FQ (a:List UInt8) (b:Nat) (d:a.length<=b) (h:b<=1048576) (c:List UInt8):qG b ⟨hV a++c,0⟩=(a,⟨c,0⟩):=by unfold qG;rw[hV,a4U,a1V _ _ d h,qH];rfl
structure aK.In (t:aK):Prop where
 le:t.hv
 k:t.bK.In 8
 z:t.cj.In 8
def th {a:List (List UInt8)}:aN 1 (bE a):=λc b=>by obtain⟨_,_,rfl⟩:=a5d.1 b;rfl
theorem a1W (V N:U) (p:Nat) (i:aK) (z:List UInt8) (l2:V p=none) (l3:i.In) (E:bW V p ⟨hh i++z,0⟩ N):
  AC Tryz.prog 110 [.ptr p 0] N λW F=>bW V p ⟨z,0⟩ F/\dD i W:=by
 obtain⟨h,a,e,G⟩:=i;obtain⟨⟨l4,a13,a3,_,_⟩,L,P⟩:=l3
 dsimp only at*
 have l5:hh ⟨h,a,e,G⟩++z=hV h++(UInt8.ofNat a.length::(a.flatMap hV++(eh e++(eh G++z)))):=by simp[hh]
 rw[l5]at E;have a14:=jo;refine aO hm Mu ?_;refine aP λW l6=> ?_;rw[jo];obtain⟨j,O,E⟩:=E.new (ob:= .cells cx) l6;refine aa ?_;have f:=CV _ _ p 16 a9p _ E;rw[FQ _ _ l4 a9p]at f;refine ai f ?_;rintro _ a15 ⟨g,u,_,rfl⟩;have a16:= @p5 h u
 dsimp only at g|-
 refine aa ?_;have v: ∀(C:List (List UInt8)) b c k,c.length=37->k.length=37->(bd h::R.J (bE C) b::(c++k)).length=76/\(bd h::R.J (bE C) b::(c++k)).take 76=bd h::R.J (bE C) b::(c++k)/\putAt cx 0 (bd h::R.J (bE C) b::(c++k))=bd h::R.J (bE C) b::(c++k):=λC b c k g l=>by
  have Q:(bd h::R.J (bE C) b::(c++k)).length=76:=by simp[g,l]
  exact⟨Q,a4I a9p,ql (by rw[Q,fU.all.1])⟩
 obtain⟨o,X⟩: ∃o,ab aA .nil .nil .nil=o:=⟨_,rfl⟩;have m:o.length=37:=by rw[<-X];exact(aX bk).len
 have a18:=fU.all.1;refine aP λy w=> ?_;obtain⟨S,Y,l⟩:=g.new (ob:= .cells (bd h:: .J [] .nil::(o++o))) w;have l7:=v [] .nil o o m m;rw[show bE []= []from rfl]at l7;have Z:W≠y:=by rintro rfl;rw[g.get j (U.ah _ _ _)]at w;cases w
 obtain⟨r,n⟩: ∃r,V.set W (.cells cx)=r:=⟨_,rfl⟩;have l8:r p=none:=by rw[<-n,U.an _ _ (a4Q j)];exact l2
 have l9:r W=some (.cells cx):=by rw[<-n,U.ah]
 have j9:V.sub r:=by rw[<-n];exact U.ae U.a1 O
 rw[n]at l Y;rw[X];refine aa ?_;have k0:=pg _ _ p _ l;rw[qI]at k0;have n0:(UInt8.ofNat a.length).toNat=a.length:=by rw[a5L];omega
 have a19:min (a.length:Int) 8=(a.length:Int):=a9p;refine ai k0 ?_;rintro _ a27 ⟨A,rfl⟩;obtain⟨n1,A⟩:=A;rw[n0];refine aa ?_;have a29: ∀x B,((r.set y x).set p B) p=some B:=λx B=>U.ah _ _ _;have k1: ∀x,(r.set y x) p=none:=λx=>by rw[U.an _ _ (a4Q S)];exact l8
 have T: ∀ {x n2 F},bW (r.set y x) p n2 F->F y=some x:=λE=>E.get S (U.ah _ _ _);refine ch [0,2,3,11] (λd:Nat=> [(12,.v (.int .i64 d))]) (λd F=>d<=a.length/\ ∃b u,bh ((r.set y (.cells (bd h:: .J (bE (a.take d)) b::(o++o)))).set p (hU ⟨(a.drop d).flatMap hV++(eh e++(eh G++z)),0⟩ u)) F 1 (bE (a.take d)) b) (λd=>a.length - d) 0 ⟨⟨a9p,.nil,n1,bh.nil A⟩,aU⟩ ?_;rintro d n3 ⟨a30,b,a34,k2⟩ a36;have q:=dk.rs k2;have n4:=U.af (T q);refine aa ?_;refine aH (λn5=> ?_) λn5=> ?_
 .have n9:=a3 (a.getD d []) (by simp_all);have a00:=drop_cons (a:=a) (b:= []) (e:=d) a9p;have k3:=eT (a:=a) (b:= []) (e:=d) a9p;have f:=CV _ _ p 16 a9p _ q.full;rw[a00,a5l,a4U,FQ _ _ n9 a9p]at f;refine ai f ?_;rintro _ a01 ⟨s,a02,_,rfl⟩;obtain⟨a38,H⟩:=dk.step k2 (k1 _) s;have a03:=T (dk.rs H);have a42:=U.af a03;have a43:= @p5 (a.getD d []) a02
  dsimp only at H|-
  refine aa ?_;refine jM (λa47 a04=> ?_) (d:=th (a:= [_]));have a48:=λd=>hC (a:=a.take d);refine dp (H.mono (U.ae U.a1 a04)) th (th (a:= [_])) (by simp[hC];omega) (by simp[hC];omega) λa05 a52 D=> ?_;have k4:bE (a.take d)++ [bd (a.getD d [])]=bE (a.take (d+1)):=by rw[k3];simp[bE,bd]
  rw[k4]at D|-;clear k3 k4;have a06:=U.aJ (T (dk.rs D));refine aa ?_;have t:=D.set (l:=y) (ob:= .cells (bd h:: .J (bE (a.take (d+1))) a05::(o++o))) (by rw[U.an _ _ S];exact U.ah _ _ _);rw[U.ef _ (a4Q S),U.set_set]at t;grind
 .obtain rfl:d=a.length:=a9p;rw[a7q,a5f]at q;rw[a5f]at n4;have k5: ∀x,(r.set y x) p=none:=k1;have a07:=FP _ n3 p e (eh G++z) (k5 _) L q;refine ai a07 ?_;rintro _ a01 ⟨s,k6,k7,k8,rfl⟩;obtain⟨c,I⟩: ∃c,ab e k6 k7 k8=c:=⟨_,rfl⟩;have K:c.length=37:=by rw[<-I];exact(aX L.sum).len
  have a56:=U.aJ (T s);have a57:putAt (bd h::R.J (bE a) b::(o++o)) 2 c=bd h::R.J (bE a) b::(c++o):=by simp only[putAt,a6C,a6q,K,a5I,a5b,Nat.reduceAdd,a6c];rw[<-m,a7e]
  have a08:=s.put (.cells (bd h:: .J (bE a) b::(c++o))) S;have a61:=v a b c o K m;rw[I];refine aa ?_;have a09:=FP _ _ p G z (k5 _) P a08;refine ai a09 ?_;rintro _ a62 ⟨D,k9,l0,l1,rfl⟩;obtain⟨k,M⟩: ∃k,ab G k9 l0 l1=k:=⟨_,rfl⟩;have a10:k.length=37:=by rw[<-M];exact(aX P.sum).len
  have a06:=U.aJ (T D);have a63:putAt (bd h::R.J (bE a) b::(c++o)) 39 k=bd h::R.J (bE a) b::(c++k):=by simp_all [putAt,a6C,a5I,Nat.reduceAdd,a6c,List.take,a7c,List.drop]
  have t:=D.put (.cells (bd h:: .J (bE a) b::(c++k))) S;have a65:=v a b c k K a10;have a68:=U.aJ (D.get j (by rw[U.an _ _ Z];exact l9));have a69:=U.af (T t);have a71:=a4Q Z;rw[M];refine aa ?_;have a11:=t.other (ob:= .cells (bd h:: .J (bE a) b::(c++k))) j;refine⟨_,U.a1,a11.base ?_,_,rfl,⟨b,k6,k7,k8,k9,l0,l1,by rw[I,M]⟩,⟨L.sum,?_⟩,⟨P.sum,?_⟩,(show a.length<=1000000 by omega)⟩
  .exact U.ae (U.ae j9 (U.bF j9 Y)) O
  .exact⟨a5H L.oc a9t,a5H L.od a9t,a5H L.oe a9t⟩
  .exact⟨a5H P.oc a9t,a5H P.od a9t,a5H P.oe a9t⟩
def aK.In.fit (a:e6.In):e6.Fit:=⟨by have:=a.le.n;omega,by have:=a.le.c;omega,λb c=>by have:=a.le.cs b c;omega⟩
theorem a1X (b: ∀c∈b9,c.In):(b9.flatMap hh).length<=1000*b9.length:=by
 induction b9 with
 |nil=>simp
 |cons d b9 ih=>have a:=b d a9q;have:=yD a.le a.k.sum a.z.sum;grind
theorem a1Y (a:List aK) (r:Own) (p:U) (G:cA a=true) (x: ∀y∈a,y.In):
  AC Tryz.prog 59 [.J ((pG a).map ak) r] p λi z=>p.sub z/\ ∃h j,az dD a h/\i= .aL [.J h j,.v (.int .i64 0)]:=by
 obtain⟨j9,k0⟩:=mo G;have k1:=a1X x;have k2:(pG a).length<=9000:=by rw[pG,a4M];omega
 refine mT λk3=> ?_;have l:r= .nil->pG a= []:=λL=>by simp_all
 refine aO hm L6 ?_;have m:(UInt8.ofNat a.length).toNat=a.length:=by rw[a5L];omega
 have k4:min (a.length:Int) 9=(a.length:Int):=a9p;refine ai (CJ (pG a) r p l a9p) ?_;rintro _ k5 ⟨o,P,rfl,n⟩;refine aa ?_;have S:=pg _ _ o _ n;rw[pG,qI]at S;refine ai S ?_;rintro _ k6 ⟨⟨q,s⟩,rfl⟩;rw[m];refine aa ?_;refine ch [0,4,13] (λb:Nat×List R×Own=> [(14,.v (.int .i64 b.1)),(5,.J b.2.1 b.2.2)]) (λb z=>b.1<=a.length/\az dD (a.take b.1) b.2.1/\ ∃t,bh (p.set o (hU ⟨(a.drop b.1).flatMap hh,0⟩ t)) z 76 b.2.1 b.2.2) (λb=>a.length - b.1) (0,[],.nil) ⟨⟨a9p,trivial,q,bh.nil s⟩,aU⟩ ?_;rintro⟨c,h,u⟩ V ⟨v,k,k7,C⟩ k8
 dsimp only at v k C|-
 have D:=dk.rs C;have k9:h.length=c:=by rw[k.len,a4L];omega
 refine aa ?_;refine aH (λw=> ?_) λw=> ?_
 .have l0:=drop_cons (a:=a) (b:=default) (e:=c) a9p;have A:=eT (a:=a) (b:=default) (e:=c) a9p;have B:=x (a.getD c default) (by simp_all);have H:=a1W (V.del o) V o (a.getD c default) ((a.drop (c+1)).flatMap hh) (by simp[U.del]) B (by have:=D.full;grind);refine ai H ?_;rintro l1 W ⟨E,e⟩;obtain⟨I,K⟩:=dk.step C P E;have M:=e;obtain⟨T,rfl,N⟩:=e;have f:=N.all.1;refine aa ?_;refine jM (λl2 O=> ?_) (d:=λL d=>by rw[a4X]at d;subst d;exact f);refine dp (K.mono (U.ae U.a1 O)) (k.cells λ_ _ F=>by obtain⟨_,rfl,F⟩:=F;exact F.all.1) (λL d=>by rw[a4X]at d;subst d;exact f) a9r a9r λQ l3 X=> ?_;refine aa ?_;refine⟨(c+1,h++ [.agg T],Q),⟨by simp only;omega,?_,I,X⟩,⟨rfl,rfl⟩,by simp only;omega⟩;simp only[A];exact k.snoc M
 .obtain rfl:c=a.length:=a9p;rw[a7q]at D;rw[a5f]at k;have d:=CQ _ _ o _ D;refine ai d ?_;rintro _ W ⟨E,rfl⟩;have l4:(oa ⟨List.flatMap hh [],0⟩).e=0:=rfl;refine aa ?_;have g:=FO a h u k (λy Y=>(x y Y).fit) a9p W;simp only[G,if_true]at g;refine ai g ?_;rintro _ l5 ⟨Z,l6,rfl⟩;refine aa ?_;refine bj (CZ _ _ _ _ _ a9p) ?_;have l7:=U.aq (E.sub P) Z;simp_all
theorem a1Z (a:List (List UInt8)) (d:Own) (c:U) (C:a.length<=1000000):
  AC Tryz.prog 80 [.J (bE a) d] c λh k=>c.sub k/\ ∃o,h= .J (bE a) o:=by
 have D:=hC (a:=a);refine mT λE=> ?_;have p:d= .nil->bE a= []:=λF=>by simp_all
 refine bf hm LA a9q ?_;simp -dsimp -implicitDefEqProofs (disch:=first|omega|assumption|(simp only[aE,Nat.reduceAdd];try omega)) only[go_sem,simprocAttr,↓o8];refine o9 (λb=>by rw[p b]) (λb=> ?_) ?_
 .have r:bE a= []:=by simpa using b
  rw[r];simp -dsimp -implicitDefEqProofs (disch:=first|omega|assumption|(simp only[aE,Nat.reduceAdd];try omega)) only[go_sem,simprocAttr,a5w];exact⟨c,U.a1,U.a1,_,rfl⟩
 .simp -dsimp -implicitDefEqProofs (disch:=first|omega|assumption|(simp only[aE,Nat.reduceAdd];try omega)) only[go_sem,simprocAttr];refine cI U.a1 (by simp[aN]) λG L x=> ?_;simp -dsimp -implicitDefEqProofs (disch:=first|omega|assumption|(simp only[aE,Nat.reduceAdd];try omega)) only[go_sem,simprocAttr];refine dp (g:= []) x (λ_ b=>by cases b) th (by rw[a4R];omega) (by rw[a4R];omega) λP y z=> ?_;simp -dsimp -implicitDefEqProofs (disch:=first|omega|assumption|(simp only[aE,Nat.reduceAdd];try omega)) only[go_sem,simprocAttr,a5b];exact⟨y,U.a1,z.sub,_,rfl⟩
structure cP (b:U) (a gD c:Nat) (h:ag) (l:List aK):Prop where
 gg:bB b gD c h
 x: ∃d o,b a=some (.cells [.ptr gD 0,.J d o])/\az dD l d
 jq:a≠gD
 jr:a≠c
def cy (c d h:Nat) (k o:U):Prop:= ∀a b,a≠c->a≠d->a≠h->k a=some b->o a=some b
theorem cy.of {lM:Nat}{s:U} (a:s.sub f):cy e i lM s f:=λb c _ _ _ d=>a b c d
def cy.ext (a:Ext e i f t):cy v e i f t:=λb c _ d h k=>a b c d h k
theorem cy.trans (k:cy e i v f t) (o:cy e i v t e7):cy e i v f e7:=λa b c d h p=>o a b c d h (k a b c d h p)
variable{Y:bp}
def cy.zv (b:cy e i v f t):cy e i v f (t.set e Y):=λc d a h k o=>by rw[U.an _ _ a];exact b c d a h k o
def cP.sub (a:cP f e i v H b9) (b:f.sub t):cP t e i v H b9:=⟨a.gg.mono b,by obtain⟨c,d,h,k⟩:=a.x;exact⟨c,d,b _ _ h,k⟩,a.jq,a.jr⟩
variable{N e5 h5:Own}
def cP.put {b:List aK} (a:cP f e i v H b) (c:az dD b9 g):cP (f.set e (.cells [.ptr i 0,.J g N])) e i v H b9:=⟨a.gg.set ⟨a.jq,a.jr⟩,⟨g,N,U.ah _ _ _,c⟩,a.jq,a.jr⟩
def iP (a:Except Int (List aK)) (b:List aK):Int×List aK:=match a with
 | .error c=>(c,b)
 | .ok d=>(0,d)
def a2a (b:U) (c r x:Nat) (C:ag) (a:List aK) (D:cP b c r x C a) (f: ∀d∈a,d.Fit) (g:a.length<=1000) (h:cf):
  AC Tryz.prog 48 [.ptr c 0,h.V] b λE F=>cP F c r x C (iP (cM a h.d.table) a).2/\cy c r x b F/\E= .v (.int .i64 (iP (cM a h.d.table) a).1):=by
 obtain⟨i,j,y,l⟩:=D.x;obtain⟨⟨G,d,L,P⟩,S,T⟩:=h
 dsimp only
 show AC Tryz.prog _ [.ptr c 0,.agg [ak G,bd d,.J (bE L) S,.J (ad P) T]] b _;refine aO hm KM ?_;refine bq λV z=> ?_;have k:=U.ae (Y:= .cells [ak G,bd d,.J (bE L) S,.J (ad P) T]) (U.a1 (f:=b)) z;have s:=U.af y;have m:c≠V:=by rintro rfl;rw[y]at z;cases z
 have t:=m.symm;refine aa ?_;generalize b.set V _=n at*;refine ai (a1U a i j d l f g n) ?_;rintro E u ⟨o,p⟩;have v:=U.aJ (o _ _ (k _ _ y));have W:=D.sub (U.aq k o);cases e:cM a d with
 |error w=>rw[e]at p;obtain⟨A,rfl⟩:=p;refine aa ?_;exact⟨_,U.a1,W,cy.of (U.aq k o),rfl⟩
 |ok B=>rw[e]at p;obtain⟨H,q,rfl⟩:=p;refine aa ?_;exact⟨_,U.a1,W.put q,(cy.of (U.aq k o)).zv,rfl⟩
def a2b (d:U) (k E F:Nat) (g:ag) (a:List aK) (i:cP d k E F g a) (v: ∀b∈a,b.Fit) (w:a.length<=1000) (h:cf) (A:h.d.Fit):
  AC Tryz.prog 47 [.ptr k 0,h.V] d λj l=>cP l k E F g (iP (kc a ⟨h.d.table,h.d.aC,aA,aA⟩) a).2/\cy k E F d l/\j= .v (.int .i64 (iP (kc a ⟨h.d.table,h.d.aC,aA,aA⟩) a).1):=by
 obtain⟨B,H,r,I⟩:=i.x;obtain⟨⟨G,b,c,L⟩,x,P⟩:=h;obtain⟨K,S,M,j9⟩:=A
 dsimp only at*
 show AC Tryz.prog _ [.ptr k 0,.agg [ak G,bd b,.J (bE c) x,.J (ad L) P]] d _;refine aO hm KK ?_;refine bq λT V=> ?_;have W:=U.ae (Y:= .cells [ak G,bd b,.J (bE c) x,.J (ad L) P]) (U.a1 (f:=d)) V;have k0:=U.af r;have N:k≠T:=by rintro rfl;rw[r]at V;cases V
 have k1:=N.symm;refine aa ?_;have aI:=U.ah d T (.cells [ak G,bd b,.J (bE c) x,.J (ad L) P]);generalize d.set T _=O at*;refine ai (a1Z c x O S) ?_;rintro _ Q ⟨y,m,rfl⟩;have gd:=U.af (y _ _ (W _ _ r));have k2:=U.af (y _ _ aI);refine aa ?_;rw[jo];have e:et ⟨b,c,aA,aA⟩ (bd b:: .J (bE c) m::(ab aA .nil .nil .nil++ab aA .nil .nil .nil)):=⟨⟨m,_,_,_,_,_,_,rfl⟩,⟨bk,me⟩,⟨bk,me⟩,S⟩;have n:cx=bd []:: .J [] .nil::(ab aA .nil .nil .nil++ab aA .nil .nil .nil):=rfl;have X: ∀z C o:R,∀p:List R,putAt (z::C::p) 0 [o]=o::C::p:=λ_ _ _ _=>rfl;have k3: ∀z C o:R,∀p:List R,putAt (z::C::p) 1 [o]=z::o::p:=λ_ _ _ _=>rfl;rw[n,X];generalize ab aA .nil .nil .nil++ab aA .nil .nil .nil=k4 at*;have q:=a1R a B H ⟨b,c,aA,aA⟩ _ e ⟨K,S,M⟩ I v w Q;have k5:=e.all.1;clear n e;refine aa ?_;refine ai q ?_;clear q;rintro j k6 ⟨s,D⟩;have Y:=y _ _ (W _ _ r);have k7:=U.aJ (s _ _ Y);have f:=U.aq W (U.aq y s);have t:=i.sub f;cases u:kc a ⟨b,c,aA,aA⟩with
 |error k8=>rw[u]at D;obtain⟨k9,rfl⟩:=D;refine aa ?_;exact⟨_,U.a1,t,cy.of f,rfl⟩
 |ok l0=>rw[u]at D;obtain⟨l1,Z,rfl⟩:=D;refine aa ?_;exact⟨_,U.a1,t.put Z,(cy.of f).zv,rfl⟩
def mq (c:List aK) (b:cp):Int×Option aK:=match c.find? (λa=>decide (a.name=b.table))with
 |none=>(3,none)
 |some a=>if b.row.length=a.aC.length+1 then(0,some a)else(6,some a)
def FR (b:U) (r n q:Nat) (s:ag) (x:List aK) (t:cP b r n q s x) (Y:x.length<=1000) (F:cf) (u:F.d.Fit):
  AC Tryz.prog 82 [.ptr r 0,F.V] b λL v=>b.sub v/\match mq x F.d with
   |(P,none)=>L= .aL [.agg cx,.v (.int .i64 P)]
   |(P,some a)=> ∃T,et a T/\L= .aL [.agg T,.v (.int .i64 P)]:=by
 obtain⟨w,A,S,B⟩:=t.x;obtain⟨⟨y,a,z,c⟩,C,D⟩:=F;obtain⟨Z,j9,k0,k1⟩:=u
 dsimp only at*
 have k2:=bH (q:=c);show AC Tryz.prog _ [.ptr r 0,.agg [ak y,bd a,.J (bE z) C,.J (ad c) D]] b _;refine aO hm LF ?_;refine bq λd V=> ?_;refine da λh W k3 H=> ?_;have k4:=U.af S;have I:r≠d:=by rintro rfl;rw[S]at V;cases V
 have k5:=I.symm;have K:r≠h:=by rintro rfl;rw[S]at W;cases W
 have k6:=K.symm;refine aa ?_;rw[jo];have k7:(cx).length=76:=fU.all.1;have e: ∀a T,et a T->putAt cx 0 T=T:=λa T M=>(nG M).2.2.1;have k8:(cx).take 76=cx:=fU.all.2.1;have k9:putAt cx 0 cx=cx:=e _ _ fU;generalize i:cx=f at*;have l0:b.sub ((b.set d (.cells [ak y,bd a,.J (bE z) C,.J (ad c) D])).set h (.cells f)):=U.ae (U.ae U.a1 V) W;have aI:((b.set d (.cells [ak y,bd a,.J (bE z) C,.J (ad c) D])).set h (.cells f)) d=some (.cells [ak y,bd a,.J (bE z) C,.J (ad c) D]):=by rw[U.an _ _ H,U.ah]
 have aM:=U.ah (b.set d (.cells [ak y,bd a,.J (bE z) C,.J (ad c) D])) h (.cells f);generalize (b.set d _).set h _=N at*;refine ai (find_spec x w A a B a9p N) ?_;rintro L _ ⟨rfl,o⟩;have l1:=U.af aI;have l2:=U.aJ aM;unfold Found at o;rw[i]at o;clear i;unfold mq
 dsimp only
 cases j:x.find? (λp=>decide (p.name=a))with
 |none=>
  rw[j]at o;obtain rfl:=o;refine aa ?_;refine aP λG k=> ?_;have g:G≠h:=by rintro rfl;rw[aM]at k;cases k
  have O:=g.symm;exact aU
 |some p=>
  rw[j]at o;obtain⟨T,E,rfl⟩:=o;obtain⟨l3,l4,l5,_⟩:=E.all;have l6:=e _ _ E;have l:=λb=>tf p T E b;clear e;refine aa ?_;refine aP λG k=> ?_;have g:G≠h:=by rintro rfl;rw[aM]at k;cases k
  have O:=g.symm;have Q:G≠d:=by rintro rfl;rw[aI]at k;cases k
  have l7:=Q.symm;refine aa ?_;by_cases m:c.length=p.aC.length+1
  .have X:(c.length:Int)=((p.aC.length+1:Nat):Int):=a9p
   dsimp only
   rw[if_pos m];refine bj (l _) ?_;exact⟨T,E,rfl⟩
  .have X: ¬(c.length:Int)=((p.aC.length+1:Nat):Int):=a9p
   dsimp only
   rw[if_neg m];refine bj (l _) ?_;exact⟨T,E,rfl⟩
def a2c (a:U) (b c d:Nat) (h:ag) (k:List aK) (o:cP a b c d h k):
  AC Tryz.prog 26 [.ptr b 0] a λp r=>r=a/\p= .ptr c 0:=by
 obtain⟨y,z,x,C⟩:=o.x;have D:=U.af x;refine aO hm Kg ?_
 repeat' first|refine aH (λ_=> ?_) λ_=> ?_|trivial
def FT (a:U):AC Tryz.prog 29 [] a λx p=> ∃b c d,x= .ptr b 0/\a.sub p/\a b=none/\a c=none/\a d=none/\cP p b c d ag.new []:=by refine aO hm Km ?_;refine ai (XY a) ?_;rintro _ C ⟨c,d,y,z,rfl,r,h⟩;refine aa ?_;refine aP λb k=> ?_;refine aa ?_;have o:=r.cG k;exact⟨_,U.a1,b,c,d,rfl,U.ae h (U.bF h k),U.bF h k,y,z,r.set o,⟨[],.nil,U.ah _ _ _,trivial⟩,o.1,o.2⟩
def a2d (b:List aK) (a:List R) (d:Own) (c:U) (h:az dD b a) (p:b.length<=1000):
  AC Tryz.prog 45 [.J a d] c λk o=>c.sub o/\k= .J a .any:=
 (vj b a d c h p).view λk o r=>by
  obtain⟨x,y,z⟩:=ar.FK r h;exact⟨_,x,y,z,rfl⟩
def a2e (a:U) (o p r:Nat) (x:ag) (d:List aK) (y:cP a o p r x d) (G:d.length<=1000):
  AC Tryz.prog 18 [.ptr o 0] a λL z=>a.sub z/\ ∃b,L= .ptr b 0/\a b=none/\cP z b p r x d:=by
 obtain⟨C,P,D,E⟩:=y.x;have S:=U.af D;refine aO hm K0 ?_;refine ai (a2d d C P a E G) ?_;rintro _ T ⟨c,rfl⟩;have V:=U.af (c _ _ D);refine aa ?_;refine aP λb h=> ?_;refine aa ?_;have F:=y.gg.mono c;have k:=F.cG h;exact⟨_,U.a1,U.ae c (U.bF c h),b,rfl,U.bF c h,F.set k,⟨C,.any,U.ah _ _ _,E⟩,k.1,k.2⟩
def a2f (b:U) (p x y:Nat) (z:ag) (a:List aK) (C:cP b p x y z a) (D: ∀d∈a,d.Fit) (h:cA a=true) (E: ∀d∈a,d.In):
  AC Tryz.prog 24 [.ptr p 0] b λk F=>b.sub F/\ ∃c o,k= .J c o/\az dD a c:=by
 obtain⟨c,o,G,L⟩:=C.x;have g:=U.af G;have i:=(mo h).2;refine aO hm Kc ?_;refine ai (FO a c o L D a9p b) ?_;rintro k P ⟨S,r⟩;rw[if_pos h]at r;obtain⟨T,rfl⟩:=r;refine aa ?_;refine ai (a1Y a T P h E) ?_;rintro k j ⟨V,W,e,f,rfl⟩;refine aa ?_;exact⟨U.aq S V,W,e,rfl,f⟩
theorem et.FU (b:et e6 g) (a:w.sum.length=32) (c:w.cE):et ⟨e6.name,e6.aC,w,e6.cj⟩ (putAt g 2 (ab w N e5 h5)):=by obtain⟨⟨d,h,k,o,p,r,x,rfl⟩,⟨y,D⟩,z,C⟩:=b;have E:=(aX (N:=h) (e5:=k) (h5:=o) y).len;have F:=(aX (N:=N) (e5:=e5) (h5:=h5) a).len;refine⟨⟨d,N,e5,h5,p,r,x,?_⟩,⟨a,c⟩,z,C⟩;grind[putAt,ab,List.drop_left']
theorem et.FV (k:et e6 g) (a:w.sum.length=32) (o:w.cE):et ⟨e6.name,e6.aC,e6.bK,w⟩ (putAt g 39 (ab w N e5 h5)):=by obtain⟨⟨p,b,c,d,r,x,y,rfl⟩,⟨h,z⟩,⟨C,E⟩,D⟩:=k;have F:=(aX (N:=b) (e5:=c) (h5:=d) h).len;have G:=(aX (N:=N) (e5:=e5) (h5:=h5) a).len;have L:=(aX (N:=r) (e5:=x) (h5:=y) C).len;refine⟨⟨p,b,c,d,N,e5,h5,?_⟩,⟨h,z⟩,⟨a,o⟩,D⟩;grind[putAt,ab,List.take_left',List.drop_eq_nil_of_le,List.length_append]
def fD (p r:ag->Except Int ay×ag) (x:ag) (a:List aK) (b:aK):Int×List aK×ag:=match p x with
 |(.error c,d)=>(c,a,d)
 |(.ok k,d)=>match r d with
  |(.error c,h)=>(c,a,h)
  |(.ok o,h)=>((iP (kd a ⟨b.name,b.aC,k,o⟩) a).1,(iP (kd a ⟨b.name,b.aC,k,o⟩) a).2,h)
def js (a c:Nat) (h:FuncId) (k:ag->Except Int ay×ag) (o:ay) (p:List Int) (r:Nat):Prop:=
 ∀(b:U) (d:ag) (x y z C:Own),bB b a c d->AC Tryz.prog h [.ptr a 0,.agg (ab o x y z),.J (ad p) C,.v (.int .i64 (r:Int))] b λD E=>yZ b E a c (k d) D
theorem FW (y:U) (h L P:Nat) (z:ag) (b:List aK) (d:cP y h L P z b) (a00: ∀a∈b,a.Fit) (a01:b.length<=1000) (a:aK) (e:List R) (O:et a e) (Q:a.Fit) (X:List Int) (Y:Own) (Z j9:FuncId) (S T:ag->Except Int ay×ag)
  (a02:gk Tryz.prog Z=true) (a03:gk Tryz.prog j9=true) (k0:js L P Z S a.bK X (a.aC.length+1)) (k1:js L P j9 T a.cj X (a.aC.length+1)):
  AC Tryz.prog 83 [.ptr h 0,.agg e,.J (ad X) Y,.bG Z [] [],.bG j9 [] []] y λu l1=>u= .v (.int .i64 (fD S T z b a).1)/\cP l1 h L P (fD S T z b a).2.2 (fD S T z b a).2.1/\cy h L P y l1:=by
 obtain⟨v,V,k2,w⟩:=d.x;have a81:=U.af k2;obtain⟨a83,a84,a86,a88,a04,a05,a06,a07,a08,a09,a89,a90,a92⟩:=O.all;have a10:=λy=>tf a e O y;have c:(match S z with
  |(.error f,g)=>(f,b,g)
  |(.ok A,g)=>match T g with
   |(.error f,j)=>(f,b,j)
   |(.ok B,j)=>((iP (kd b ⟨a.name,a.aC,A,B⟩) b).1,(iP (kd b ⟨a.name,a.aC,A,B⟩) b).2,j))=fD S T z b a:=rfl
 generalize fD S T z b a=a94 at*;refine aO hm LH ?_;refine bq λC l=> ?_;have l2:h≠C:=by rintro rfl;rw[k2]at l;cases l
 have a95:=l2.symm;have k3:=U.ae (Y:= .cells e) (U.a1 (f:=y)) l;have bC:=U.ah y C (.cells e);refine bj (a10 _) ?_;have m:=d.gg.cG l;generalize y.set C _=a11 at*;have a13:=d.gg.mono k3;have a14:=k3 _ _ k2;refine fI a02 (k0 a11 z a04 a05 a06 Y a13) ?_;rintro u k4 ⟨n,k5,l3⟩;have c9:=k5 _ _ d.jq d.jr a14;have k6:=k5 _ _ m.1 m.2 bC;have l4:=cy.trans (cy.of (e:=h) (i:=L) (lM:=P) k3) (cy.ext k5);generalize S z=a15 at*;obtain⟨a16,g⟩:=a15;cases a16 with
 |error f=>
  obtain⟨l5,a18,D,E,F,q,rfl⟩:=l3
  dsimp only at c n
  have a19:=(aX (N:=D) (e5:=E) (h5:=F) q).all;have H:=lC (N:=D) (e5:=E) (h5:=F) q;refine aa ?_;refine aP λi k=> ?_;refine aa ?_;refine⟨_,U.a1,by rw[<-c],?_,l4.trans (cy.of (U.ae U.a1 k))⟩;rw[<-c];exact⟨n.mono (U.ae U.a1 k),⟨v,V,U.ae U.a1 k _ _ c9,w⟩,d.jq,d.jr⟩
 |ok s=>
  obtain⟨k7,a27,D,E,F,rfl⟩:=l3
  dsimp only at c n
  have a96:=(aX (N:=D) (e5:=E) (h5:=F) k7).all;have H:=lC (N:=D) (e5:=E) (h5:=F) k7;refine aa ?_;refine aP λi k=> ?_;have a29:h≠i:=by rintro rfl;rw[c9]at k;cases k
  have a97:=a29.symm;have a30:C≠i:=by rintro rfl;rw[k6]at k;cases k
  have a98:=a30.symm;have gd:=U.af c9;have a34:=U.af k6;refine aa ?_;have I:=U.ae (Y:= .cells (ab s D E F)) (U.a1 (f:=k4)) k;have jc:=U.ah k4 i (.cells (ab s D E F));have cW:=I _ _ c9;have a36:=I _ _ k6;have a38:=n.mono I;have l6:=n.cG k;have a42:=l4.trans (cy.of I);generalize k4.set i _=a43 at*;clear gd a34 H;refine fI a03 (k1 a43 g a07 a08 a09 Y a38) ?_;rintro u t ⟨K,M,l7⟩;have dY:=M _ _ d.jq d.jr cW;have l8:=M _ _ m.1 m.2 a36;have a47:=M _ _ l6.1 l6.2 jc;have l9:=a42.trans (cy.ext M);generalize T g=a48 at*;obtain⟨cH,j⟩:=a48;cases cH with
  |error f=>
   obtain⟨l5,a18,o,p,r,q,rfl⟩:=l7
   dsimp only at c K
   have a19:=(aX (N:=o) (e5:=p) (h5:=r) q).all;have H:=lC (N:=o) (e5:=p) (h5:=r) q;refine aa ?_;refine aP λG x=> ?_;refine aa ?_;refine⟨_,U.a1,by rw[<-c],?_,l9.trans (cy.of (U.ae U.a1 x))⟩;rw[<-c];exact⟨K.mono (U.ae U.a1 x),⟨v,V,U.ae U.a1 x _ _ dY,w⟩,d.jq,d.jr⟩
  |ok cb=>
   obtain⟨k8,a52,o,p,r,rfl⟩:=l7
   dsimp only at c K
   have a99:=(aX (N:=o) (e5:=p) (h5:=r) k8).all;have H:=lC (N:=o) (e5:=p) (h5:=r) k8;refine aa ?_;refine aP λG x=> ?_;have a56:C≠G:=by rintro rfl;rw[l8]at x;cases x
   have b00:=a56.symm;have a57:i≠G:=by grind
   have b01:=a57.symm;have n0:h≠G:=by rintro rfl;rw[dY]at x;cases x
   have b02:=n0.symm;have b03:=U.af a47;have b04:=U.aJ l8;have n1:=O.FU (N:=D) (e5:=E) (h5:=F) k7 a27;have k9:=n1.FV (N:=o) (e5:=p) (h5:=r) k8 a52;have b05:=n1.all.1;have b06:=k9.all.1;have b07:=k9.all.2.1;have n2:=a1S b v V ⟨a.name,a.aC,s,cb⟩ _ k9 ⟨Q.n,Q.c,Q.cs⟩ w a00 a01;have gd:=U.af dY;have a61: ∀W V,W≠G->t W=some V->(t.set G (.cells (ab cb o p r))) W=some V:=λW V a62 k1=>by rw[U.an _ _ a62];exact k1
   refine aa ?_;generalize putAt (putAt e 2 (ab s D E F)) 39 (ab cb o p r)=n3 at*;have a63:cP ((t.set G (.cells (ab cb o p r))).set C (.cells n3)) h L P j b:=⟨(K.mono (U.ae U.a1 x)).set m,⟨v,V,by rw[U.an _ _ l2];exact a61 _ _ n0 dY,w⟩,d.jq,d.jr⟩;have a65:cy h L P y ((t.set G (.cells (ab cb o p r))).set C (.cells n3)):=λW a68 A B a69 l0=>by
    have k0:W≠C:=by rintro rfl;rw[l]at l0;cases l0
    rw[U.an _ _ k0];exact U.ae U.a1 x _ _ (l9 W a68 A B a69 l0)
   generalize (t.set G _).set C _=a71 at*;refine ai (n2 a71) ?_;clear n2;rintro u b08 ⟨n4,N⟩;have n5:=a63.sub n4;obtain⟨b09,b10,ei,b11⟩:=n5.x;have b12:=U.aJ ei;have a73:=a65.trans (cy.of n4);cases n9:kd b ⟨a.name,a.aC,s,cb⟩with
   |error f=>
    rw[n9]at N c;obtain⟨l5,rfl⟩:=N
    dsimp only[iP]at c
    refine aa ?_;grind
   |ok b13=>
    rw[n9]at N c;obtain⟨b14,a74,rfl⟩:=N
    dsimp only[iP]at c
    refine aa ?_;exact⟨_,U.a1,by rw[<-c],by rw[<-c];exact n5.put a74,a73.zv⟩
def vl (a:b9.find? (λe6=>decide (e6.name=B))=some e6):e6∈b9:=List.mem_of_find?_eq_some a
def js.a2g (c:w.sum.length=32) (d:w.cE) (h:w.size<=2000000) (k:1<=e) (o:e<=8) (p:q.length=e):js i v 84 (λa=>nC e q a w) w q e:=
 λr a x y z C D=>(a1s r i v a D w x y z c d h q C e k o p).mono λE F b=>⟨b.1,b.2.1,b.2.2.x⟩
def js.a2h (b:w.sum.length=32) (c:w.cE) (d:w.size<=2000000) (h:1<=e) (k:e<=8) (o:q.length=e):js i v 86 (λa=>iO e q a w) w q e:=
 λp a r x y z C=>a1v p i v a C w r x y b c d q z e h k o
def js.a2i (c:w.sum.length=32) (d:w.cE) (h:1<=e) (k:e<=8) (o:q.length=e):js i v 85 (λa=>iI e q a w) w q e:=
 λp a r x y z C=>(YO p i v a C w r x y c d q z e h k o).mono λD E b=>⟨b.1,b.2.1,b.2.2.x⟩
def js.a2j (c:w.sum.length=32) (d:w.cE) (h:1<=e) (k:e<=8) (o:q.length=e):js i v 87 (λa=>kG e q a w) w q e:=
 λp a r x y z C=>(YW p i v a C w r x y c d q z e h k o).mono λD E b=>⟨b.1,b.2.1,b.2.2.x⟩
def jt (a:ag) (c:List aK) (d:cp):Int×List aK×ag:=match mq c d with
 |(_,none)=>(3,c,a)
 |(h,some b)=>if h=0 then fD (λa=>iO (b.aC.length+1) d.row a b.bK) (λa=>kG (b.aC.length+1) d.row a b.cj) a c b else(h,c,a)
theorem a2k (p:U) (r y z:Nat) (c:ag) (d:List aK) (e:cP p r y z c d) (f: ∀b∈d,b.Fit) (s:cA d=true) (a:cf) (t:a.d.Fit):
  AC Tryz.prog 50 [.ptr r 0,a.V] p λE C=>E= .v (.int .i64 (jt c d a.d).1)/\cP C r y z (jt c d a.d).2.2 (jt c d a.d).2.1/\cy r y z p C:=by
 obtain⟨u,k3⟩:=mo s;have h:(match mq d a.d with
  |(_,none)=>(3,d,c)
  |(g,some b)=>if g=0 then fD (λc=>iO (b.aC.length+1) a.d.row c b.bK) (λc=>kG (b.aC.length+1) a.d.row c b.cj) c d b else(g,d,c))=jt c d a.d:=rfl
 generalize jt c d a.d=k4 at*;have i:=λC F=>FR C r y z c d F a9p a t;have j:a.V= .agg [ak a.d.kind,bd a.d.table,.J (bE a.d.aC) a.gx,.J (ad a.d.row) a.dn]:=rfl;obtain⟨k5,k6,v,k7⟩:=e.x;rw[j]at i|-;clear j;have k8:=U.af v;have k9:(cx).length=76:=fU.all.1;refine aO hm KQ ?_;refine bq λG w=> ?_;have l:=U.ae (Y:= .cells [ak a.d.kind,bd a.d.table,.J (bE a.d.aC) a.gx,.J (ad a.d.row) a.dn]) (U.a1 (f:=p)) w;have aI:=U.ah p G (.cells [ak a.d.kind,bd a.d.table,.J (bE a.d.aC) a.gx,.J (ad a.d.row) a.dn]);generalize p.set G _=A at*;have m:=e.sub l;refine ai (i A m) ?_;rintro E l0 ⟨L,k⟩;have n:=L _ _ aI;have l1:=U.af n;have B:=m.sub L;have H:=U.aq l L;have P: ∀b T,et b T->putAt cx 0 T=T:=λb T F=>(nG F).2.2.1;have l2:(cx).take 76=cx:=fU.all.2.1;have l3:putAt cx 0 cx=cx:=P _ _ fU;have S:=jo;generalize cx=l4 at*;unfold mq at k h;cases V:d.find? (λb=>decide (b.name=a.d.table))with
 |none=>
  rw[V]at k h
  dsimp only at k h
  obtain rfl:=k;refine aa ?_;refine aP λW x=> ?_;rw[S];refine aa ?_;grind[U.a1,U.ae,cy.of,U.aq]
 |some b=>
  rw[V]at k h;have hm:=vl V
  dsimp only at k h
  by_cases D:a.d.row.length=b.aC.length+1
  .rw[if_pos D]at k h;obtain⟨T,o,rfl⟩:=k;obtain⟨I,K,M,_⟩:=o.all;have N:=P _ _ o;refine aa ?_;refine aP λW x=> ?_;rw[S]
   dsimp only at h
   rw[if_pos rfl]at h;have O:G≠W:=by rintro rfl;rw[n]at x;cases x
   have l5:=O.symm;obtain⟨Q,X⟩:=o.k;obtain⟨Y,Z⟩:=o.z;have q:=u b hm;have l6:=q.c;have l7:=q.k.size;have j9:=B.sub (U.ae (Y:= .cells T) U.a1 x);have k0:=FW _ r y z c d j9 f a9p b T o (f b hm) a.d.row a.dn 86 87 _ _ a9u a9u (js.a2h Q X a9p a9p a9p D) (js.a2j Y Z a9p a9p D);refine aa ?_;refine ai k0 ?_;rintro E l8 ⟨rfl,k1,k2⟩;refine aa ?_;exact⟨_,U.a1,by rw[<-h];exact k1,(cy.of (U.aq H (U.ae U.a1 x))).trans k2⟩
  .rw[if_neg D]at k h;obtain⟨T,o,rfl⟩:=k;obtain⟨I,K,M,_⟩:=o.all;have N:=P _ _ o;refine aa ?_;refine aP λW x=> ?_;rw[S];refine aa ?_
   dsimp only at h
   rw[if_neg a9t]at h;grind[U.a1,U.ae,cy.of,U.aq]
def vm (d:ag) (h:List aK) (k:List UInt8) (o:List (List Int)) (b:R):Prop:=match h.find? (λa=>decide (a.name=k))with
 |none=>b= .aL [.J [] .nil,.v (.int .i64 3)]
 |some a=>match ek d (a.aC.length+1) (a.bK.size.toNat+1) a.bK with
  |none=>b= .aL [.J [] .nil,.v (.int .i64 21)]
  |some _=> ∃c,b= .aL [.J c .any,.v (.int .i64 0)]/\az isRow o c
def a2l (c:U) (D L P:Nat) (h:ag) (d:List aK) (S:cP c D L P h d) (l:cA d=true) (k:List UInt8) (r:List (List Int))
  (m: ∀a o,d.find? (λa=>decide (a.name=k))=some a->ek h (a.aC.length+1) (a.bK.size.toNat+1) a.bK=some o->r.Perm o/\r.Pairwise λn q=> ¬fQ q n<0):
  AC Tryz.prog 27 [.ptr D 0,bd k] c λE F=>c.sub F/\vm h d k r E:=by
 obtain⟨s,Z⟩:=mo l;obtain⟨t,u,V,v⟩:=S.x;have j9:=U.af V;have k0:(cx).length=76:=fU.all.1;have W: ∀a T,et a T->putAt cx 0 T=T:=λa T p=>(nG p).2.2.1;have k1:putAt cx 0 cx=cx:=W _ _ fU;have e:=jo;have b:=find_spec d t u k v a9p c;unfold Found at b;unfold vm;generalize cx=k2 at*;refine aO hm Ki ?_;refine ai b ?_;clear b;rintro E w ⟨rfl,b⟩;cases x:d.find? (λa=>decide (a.name=k))with
 |none=>rw[x]at b;obtain rfl:=b;refine aa ?_;refine aP λf y=> ?_;rw[e];exact aU
 |some a=>
  rw[x]at b;obtain⟨T,z,rfl⟩:=b;obtain⟨k3,k4,k5,k6,A,B,H,k7,k8,k9,l0,l1,l2⟩:=z.all;have l3:=W _ _ z;have I:=λc=>tf a T z c;have hm:=vl x;have g:=s a hm;have l4:=g.c;have l5:=g.k.size;refine aa ?_;refine aP λf y=> ?_;rw[e];have K:D≠f:=by rintro rfl;rw[V]at y;cases y
  have l6:=K.symm;have G:=U.ae (Y:= .cells T) (U.a1 (f:=w)) y;have M:=S.sub G;obtain⟨N,O⟩:=z.k;have Q:=λF p=>a1y F L P h p a.bK A B H N O a9p (a.aC.length+1) a9p a9p r (λo p=>m a o x p);refine aa ?_;refine bj (I _) ?_;refine ai (Q _ M.gg) ?_;rintro E l7 ⟨i,C⟩
  dsimp only
  cases j:ek h (a.aC.length+1) (a.bK.size.toNat+1) a.bK with
  |none=>rw[j]at C;obtain rfl:=C;refine aa ?_;exact U.aq G i
  |some o=>rw[j]at C;obtain⟨X,rfl,Y⟩:=C;refine aa ?_;exact⟨U.aq G i,X,rfl,Y⟩
structure vn (c:ag) (d:Nat) (aV aW:List Int) (a:ay) (rows:List (List Int)):Prop where
 one:rows.length<=1
 sound: ∀b∈rows,nA c d aV aW a b
 full:rows= []->eu aV aW a=true-> ∀b,¬nA c d aV aW a b
def vo (a:ag) (b:Nat) (c d:List Int) (h:ay):Prop:= ∃k,lB a b c d h k/\eu c d h=true/\fp a b k=none
structure zw where
 rows:List (List Int)
 us:List R
 L:R
 bI:List ay
 es:List R
 oH:R
structure vp (c:ag) (d:Nat) (aV aW:List Int) (b:ay) (A:im) (B:U) (h:Nat) (x:zw) (o:U):Prop where
 at_:dJ A B o h x.us x.L x.es x.oH
 vq:az isRow x.rows x.us
 rd: ∀a∈x.rows,a.length=d
 zx:x.rows.length<=1
 pM:az r5 x.bI x.es
 qz: ∀a∈x.rows,nA c d aV aW b a
 or: ∀k∈x.bI,lB c d aV aW b k/\eu aV aW b=true/\1<=gh k
 co:x.rows= []->eu aV aW b=true-> ∀a,nA c d aV aW b a-> ∃k∈x.bI,nA c d aV aW k a
 qy:(x.bI.map gh).sum<=2097152
variable{e0:c4}
def lB.snoc {a:ay} (c:lB H e q b6 j2 a) (b:fp H e a=some e0) (d:w∈e0.kids) (h:eu q b6 w=true):lB H e q b6 j2 w:=by
 induction c with
 |refl p=>exact .step b d h (.refl _)
 |step h1 k o _ ih=>exact .step h1 k o (ih b)
theorem zy: ∀ {ks:List ay},(∀a∈ks,1<=gh a)->ks.length<=(ks.map gh).sum
 | [],_=>a5k _
 |a::ks,b=>by
  have:=zy (ks:=ks) λa c=>b a (by simp[c]);grind
def vp.len {c:ag}{d:Nat}{h k:List Int}{o:ay}{p:im}{r:U}{x:Nat}{b:zw}{y:U} (a:vp c d h k o p r x b y):b.es.length<=2097152:=by rw[a.pM.len];exact a5H (zy λz C=>(a.or z C).2.2) a.qy
theorem a2m (N:U) (k6 b03:Nat) (j:ag) (b50:bB N k6 b03 j) (C:ay) (n2 n3 n4:Own) (b04:C.sum.length=32) (b51:C.cE) (p r:List Int) (n5 n9 a00:Own) (E:Nat) (u:cT p r E=true) (c29:C.size<=1048576) (b05:eu p r C=true->1<=C.size):
  AC Tryz.prog 38 [.ptr k6 0,.agg (ab C n2 n3 n4),.agg (ny p r n5 n9 a00),.v (.int .i64 (E:Int))] N λa36 F=>N.sub F/\
   ((vo j E p r C/\ ∃c l,a36= .aL [.agg [c,l],.v (.int .i64 0),.v (.int .i64 21)])\/
   ∃rows O z v w,vn j E p r C rows/\ar N F 1 O z/\az isRow rows O/\(∀k∈rows,k.length=E)/\a36= .aL [.agg [z,.v (.int .i64 v)],.v (.int .i64 w),.v (.int .i64 0)]):=by
 obtain⟨b06,c30,b07,a38⟩:=lo u;have b52:=(aX (N:=n2) (e5:=n3) (h5:=n4) b04).all;refine aO hm Ku ?_;refine bq λa42 c31=> ?_;refine da λb08 c32 c33 c34=> ?_;refine hp λa01 a43 c35 c2 aI aM=> ?_;generalize k7:((N.set a42 _).set b08 _).set a01 _=e;have a02:N.sub e:=by subst k7;exact aU
 have bo:e a42=some (.cells (ab C n2 n3 n4)):=by subst k7;exact aU
 have bC:e b08=some (.cells (ny p r n5 n9 a00)):=by subst k7;exact aU
 have bu:e a01=some (.cells [.J [] .nil,.v (.int .i64 0)]):=by subst k7;exact aU
 clear k7;have b53:=b50.mono a02;refine bj (a1d p r _ _ _ E a9p e) ?_;rw[u];have b54:=U.af bo;have b55:=U.af bC;refine aa ?_;refine aP λd j9=> ?_;have b09:a42≠d:=by rintro rfl;rw[j9]at bo;cases bo
 have b56:=b09.symm;have b57:a01≠d:=by rintro rfl;rw[j9]at bu;cases bu
 have c36:=b57.symm;refine aa ?_
 let b:im:=⟨k6,p,r,n5,n9,a00,E⟩;have b10:dJ b e (e.set d (.cells (lA k6 p r n5 n9 a00 E (.J [] .nil) 0 0 0 (.J [] .nil)))) d [] (.J [] .nil) [] (.J [] .nil):=
  ⟨j9,⟨0,0,0,U.ah _ _ _⟩,ar.nil (U.ae U.a1 j9),⟨U.ae U.a1 j9,(λ_ a=>by cases a),.inl ⟨rfl,.inl rfl⟩⟩,(λa=>by cases a),(λa=>by cases a),λ_ a=>by cases a⟩
 refine ai (Fj b e _ d [] _ [] _ b10 C n2 n3 n4 b04 b51 (by show p.length<=8;omega) a9q) ?_;rintro _ b58 ⟨b59,b60,a47,k0⟩;have a03: ∃b11,vp j E p r C b e d ⟨[],[],.J [] .nil,b11,b60,b59⟩ b58:=by
  have b61:gh C<=2097152:=by unfold gh;omega
  split at k0
  .rename_i A;obtain⟨b62,a48,rfl⟩:=k0;exact⟨[C],a47,trivial,(λ_ a=>by cases a),a5o _,⟨a48,trivial⟩,(λ_ a=>by cases a),(λy a52=>by
    obtain rfl:=a4X.1 a52;have:=b05 A;exact⟨.refl _,A,by unfold gh;omega⟩),(λ_ _ k x=>⟨C,a9q,x⟩),by simpa using b61⟩
  .rename_i A;subst k0;exact⟨[],a47,trivial,(λ_ a=>by cases a),a5o _,trivial,(λ_ a=>by cases a),(λ_ a=>by cases a),(λ_ a=>absurd a A),a5o _⟩
 obtain⟨b11,a03⟩:=a03;refine aa ?_;refine ch [0,3,8,11] (λ_:zw=> []) (λc F=>vp j E p r C b e d c F) (λc=>(c.bI.map gh).sum) _ ⟨a03,aU⟩ ?_;clear a03 a47 k0 b10 b54 b55 b09 b56 bo bC b52 j9;rintro⟨rows,O,z,b12,a04,c37⟩ F o c38;have m:=o.at_
 dsimp only at m
 have c39:=m;obtain⟨v,w,k8,b13⟩:=m.x;obtain⟨c40,c41⟩:=m.w.len;have gd:=U.af b13;refine aa ?_;refine aH (λa05=> ?_) λa05=> ?_;rotate_left;have a56:=o.pM.len
 .have c42: ¬(0:Int)<(a04.length:Int):=a05;have b14:a04= []:=a4N a9p;have b63:b12= []:=a4N (by rw[b14]at a56;exact a56.symm);subst b14;subst b63;have b64:=U.aJ (m.l.1 _ _ bu);have c43:=fK m.l;refine aa ?_;refine⟨_,U.a1,U.ae (U.aq a02 m.l.1) a43,.inr ⟨rows,O,z,v,w,⟨o.zx,o.qz,λf B k x=> ?_⟩,ar.other (m.l.base a02) a43 (λG=> ?_),o.vq,o.rd,rfl⟩⟩
  .obtain⟨y,a52,_⟩:=o.co f B k x;cases a52
  .have:=ar.fresh m.l G;rw[bu]at this;cases this
 have a56:=o.pM.len;have b65:a04≠ []:=by grind
 obtain⟨b15,b16,post,b17,b18,c44,b19⟩:=m.sort b65;obtain⟨c45,b20⟩:=oG.of (s:=F) (l:=b15) (g:=b16) (A:=post) (e1:=a04) (b4:=71) (ds:= []) (d:= []) a9u λa06 a57 a61 u=>by
  obtain⟨y,_,f⟩:=o.pM.mem a57;obtain⟨S,_,B⟩:=o.pM.mem u;obtain⟨a05,b66⟩:=a1c f B;exact⟨a05,λa62 _=>b66 _⟩
 rw[b17];clear gd b17;refine ai (Fa a0W a0Q a0M a0O a0K a0I a9p rfl b18 (a5H o.len a9p) b20 λG Q=> ?_) ?_
 .obtain⟨y,_,f,_,L,P,T,c,l,id,b67,rfl⟩:=o.pM.mem Q;obtain⟨X,Y,_⟩:=uX (N:=L) (e5:=P) (h5:=T) (e:=c) (i:=l) (b1:=id) (a:=b67) f;exact⟨X,by rw[hN,aY,if_pos rfl,Y]⟩
 rintro _ _ ⟨a62,k1,rfl⟩;have k9:=b19 a62 k1;obtain⟨b68,l0,b69⟩:=o.pM.perm k1
 match a62,b68,b69,k1,l0,k9 with
 | [],_,_,k1,_,_=>exact absurd k1.length_eq (by simp_all)
 |G::k2,y::H,⟨b70,b21⟩,k1,l0,k9=>
 obtain⟨v,w,k8,a63⟩:=k9.x;obtain⟨D,c46,c47,a65,c48,c49,b71,b22⟩:=k9.tail;generalize W F b15 b16 post (G::k2)=a07 at*;have gd:=U.af a63;have a68:=U.aJ a63;clear b19 b20 b18 b13;obtain⟨l1,b72,L,P,T,b73,b74,b75,b76,rfl⟩:=b70;have b23:=(uX (N:=L) (e5:=P) (h5:=T) (e:=b73) (i:=b74) (b1:=b75) (a:=b76) l1).2.2.1;rw[hN,b23]at b22;have c50:=(aX (N:=L) (e5:=P) (h5:=T) l1).all;have b24:=lC (N:=L) (e5:=P) (h5:=T) l1;refine aa ?_;refine aP λk3 a69=> ?_;have b25:d≠k3:=by rintro rfl;rw[a63]at a69;cases a69
 have b26:=b25.symm;refine aa ?_;have a71:(a07.set d (.cells (lA b.gD b.aV b.aW b.ht b.eW b.hs b.d z v w k8 D))) k3=none:=(U.an _ _ b26).trans a69;have a73:=(a65 v w k8).fresh a71;have b27:=(a65 v w k8).mono (U.ae (Y:= .cells (ab y L P T)) U.a1 a71);rw[U.ef a07 b25]at b27;have jc:((a07.set k3 (.cells (ab y L P T))).set d (.cells (lA b.gD b.aV b.aW b.ht b.eW b.hs b.d z v w k8 D))) k3=some (.cells (ab y L P T)):=(U.an _ _ b26).trans (U.ah _ _ _);generalize (a07.set k3 (.cells (ab y L P T))).set d _=a74 at*;clear a71 a65 b71 b22 b23 a68 gd k9 b24;obtain⟨b77,l2⟩:=b27.wide;have b78:res (kb d z D) a74 k3=some (.cells (ab y L P T)):=by
  rw[oI];exact jc;rintro(a|a|a)
  .exact a73.x a
  .exact a73.l a
  .exact a73.w a
 generalize res (kb d z D) a74=b79 at*;have c51:(b12.map gh).sum=gh y+(H.map gh).sum:=by rw[<-(l0.map gh).sum_nat];simp
 have I: ∀S∈y::H,lB j E p r C S/\eu p r C=true/\1<=gh S:=λS g=>o.or S (l0.mem_iff.1 g);have b80:=o.qy
 dsimp only at b80
 refine ai (a1l b b79 a74 d O rows z k2 D b77 o.vq o.rd a38 b06 y L P T l1) ?_;rintro _ b28 ⟨s,a61,rfl,b81⟩;have b82:=U.af (s.l.1 _ _ b78);refine aa ?_;refine aH (λu=> ?_) λu=> ?_
 .have b05:=b81 u;refine⟨⟨rows,O,z,H,k2,D⟩,⟨s.base l2,o.vq,o.rd,o.zx,b21,o.qz,λS g=>I S (by simp[g]),λa=> ?_,?_⟩,?_⟩;simp_all
  .show(H.map gh).sum<= _;omega
  grind
 have b29:=(b53.mono l2).mono s.l.1;refine ai (xz b28 k6 b03 j b29 y L P T l1 b72 E b07 a38) ?_;rintro a36 K ⟨a81,a08⟩;cases M:fp j E y with
 |none=>
  rw[M]at a08;obtain rfl:=a08;have b30:=a81 _ _ (s.l.1 _ _ (l2 _ _ bu));refine aa ?_;refine aP λn t=> ?_;have b83:a01≠n:=by rintro rfl;rw[b30]at t;cases t
  have c52:=b83.symm;have b64:=U.aJ b30;refine aa ?_;have b31:N.sub K:=U.aq a02 (U.aq l2 (U.aq s.l.1 a81));refine⟨_,U.a1,U.ae (U.ae b31 (U.bF b31 t)) a43,.inl ⟨⟨y,(I y a9q).1,(I y a9q).2.1,M⟩,_,_,rfl⟩⟩
 |some h=>
  rw[M]at a08;obtain⟨c,l,rfl,c53,c54,c55,k4,l3,a09,a83,_,_⟩:=a08;have a10:=s.mono a81;obtain⟨l4,Z,l5,a11⟩:=a10.x;have c56:=fK k4;have c57:=fK l3;refine aa ?_;refine aP λn t=> ?_;have b32:d≠n:=by rintro rfl;rw[a11]at t;cases t
  have b33:=b32.symm;have gd:=U.af a11;have a68:=U.aJ a11;have a57:bn .add (.int .i64 Z) (.int .i64 1)=some (.int .i64 (IntKind.i64.wrap (Z+1))):=rfl;have b34:=bS.dV k4 a9p rfl (a09.cells λ_ _=>dh.cells);have b84:=b34.len;rw[a09.len]at b84;have a84:(K.set d (.cells (lA b.gD b.aV b.aW b.ht b.eW b.hs b.d z l4 (IntKind.i64.wrap (Z+1)) l5 D))) n=none:=(U.an _ _ b33).trans t;have a86:=(a10.set l4 (IntKind.i64.wrap (Z+1)) l5).mono (U.ae (Y:= .cells [.v (.int .u8 (h.kind.toNat:Int)),c,l]) U.a1 a84);rw[U.ef K b32]at a86;refine aa ?_;have p6:((K.set n (.cells [.v (.int .u8 (h.kind.toNat:Int)),c,l])).set d (.cells (lA b.gD b.aV b.aW b.ht b.eW b.hs b.d z l4 (IntKind.i64.wrap (Z+1)) l5 D))) n=some (.cells [.v (.int .u8 (h.kind.toNat:Int)),c,l]):=(U.an _ _ b33).trans (U.ah _ _ _);have a88:=(a10.set l4 (IntKind.i64.wrap (Z+1)) l5).fresh a84;have b85: ∀k a13,K k=some a13-> ¬kb d z D k->((K.set n (.cells [.v (.int .u8 (h.kind.toNat:Int)),c,l])).set d (.cells (lA b.gD b.aV b.aW b.ht b.eW b.hs b.d z l4 (IntKind.i64.wrap (Z+1)) l5 D))) k=some a13:=λk a13 x hm=>by
   have L:k≠d:=λG=>hm (.inl G);have P:k≠n:=by rintro rfl;rw[t]at x;cases x
   rw[U.an _ _ L,U.an _ _ P];exact x
  generalize (K.set n (.cells [.v (.int .u8 (h.kind.toNat:Int)),c,l])).set d _=a89 at*;have a90: ∀ {a06:R}{k:Nat},cQ a06=some k->b28 k=none-> ¬kb d z D k:=λu x hm=>by
   rcases hm with rfl|G|G
   .obtain⟨_,_,_,a⟩:=s.x;rw[x]at a;cases a
   .exact ar.has s.l G x
   .exact s.w.has G x
  have a92:(res (kb d z D) K).sub (res (kb d z D) a89):=λk a13 x=>by
   grind[hm,kb,r9,oI]
  have b86:=(bS.dV (ar.res k4 λl6 i=>a90 i (ar.fresh k4 i)) a9p rfl (a09.cells λ_ _=>dh.cells)).mono (U.aq (Fl l3.1) a92);have b35:=(bS.dV (ar.res l3 λl6 i=>a90 i (U.bF k4.1 (ar.fresh l3 i))) a9p rfl (a83.cells λ_ _=>bs.cells)).mono a92;obtain⟨b87,b88⟩:=a86.wide;have b89:res (kb d z D) a89 n=some (.cells [.v (.int .u8 (h.kind.toNat:Int)),c,l]):=by
   rw[oI];exact p6;rintro(a|a|a)
   .exact a88.x a
   .exact a88.l a
   .exact a88.w a
  generalize res (kb d z D) a89=k5 at*;have b90:e.sub k5:=U.aq l2 b88;clear b85 a90 a92 b34 k4 l3 gd a68 a11 a10 a86 p6 a57 t a84 b29 b82;have b36:=(xT M).ok;obtain⟨b91,_,_⟩:=ll b36;refine ch [0,3,8,11,13,79,80] (λc:Nat×(List (List Int))×List R×R=> [(81,.v (.int .i64 (c.1:Int)))]) (λc F=>c.1<=h.rows.length/\dJ b k5 F d c.2.2.1 c.2.2.2 k2 D/\az isRow c.2.1 c.2.2.1/\(∀k∈c.2.1,k.length=E)/\c.2.1.length<=1/\(∀k∈c.2.1,nA j E p r C k)/\(c.2.1= []->rows= []/\ ∀k,(k,true)∈h.rows.take c.1->jj p r k=false)) (λc=>h.rows.length - c.1) (0,rows,O,z) ⟨⟨a5o _,b87,o.vq,o.rd,o.zx,o.qz,λa=>⟨a,λk x=>by simp at x⟩⟩,aU⟩ ?_;rintro⟨V,b37,a14,a15⟩ b92 ⟨b93,l7,a94,l8,a16,a18,a19⟩ c58
  dsimp only at b93 l7 a94 l8 a16 a18 a19
  refine aa ?_;refine aH (λc2=> ?_) λc2=> ?_
  .have l9:V<h.rows.length:=a9p;obtain⟨_,Q,a95,rfl⟩:=a09.get (i:=V) (x:=h.rows.getD V ([],false)) (by simp[List.getD,l9]);obtain⟨l6,b94,i⟩:=b86.get V _ Q;have b38: ∀F,k5.sub F->dq true 2 F l6=some (.agg [.J (ad (h.rows.getD V ([],false)).1) a95,.v (.bool (h.rows.getD V ([],false)).2)]):=λF a=>i.ld F a true 2 a9p (by simp[hN]);have b95:=b38 b92 l7.l.1;have hm:h.rows.getD V ([],false)∈h.rows:=by simp[List.getD,l9]
   have G:=eT (a:=h.rows) (e:=V) (b:=([],false)) l9;generalize h.rows.getD V ([],false)=b96 at*;obtain⟨a27,a96⟩:=b96
   dsimp only at b95 G hm
   have b39:=b91 _ hm;clear b38 i Q;refine aa ?_;refine aP λc59 b97=> ?_;have b98:=l7.mono (U.ae (Y:= .cells [.J (ad a27) a95,.v (.bool a96)]) U.a1 b97);refine aa ?_;refine ai (a1k b k5 _ d a14 b37 a15 k2 D b98 a94 l8 b07 a38 b06 a16 a27 a96 a95 b39) ?_;rintro _ c60 ⟨b40,b99,b41,b42,b43,a97⟩;refine aa ?_;have c00:a96=true->jj p r a27=true->nA j E p r C a27:=λf B=>by subst f;exact⟨y,h,(I y a9q).1,M,hm,B⟩
   split at a97
   .rename_i a29;rw[a4K]at a29;obtain⟨k,rfl,x⟩:=a97;refine⟨(V+1,[k],b40,b41),⟨l9,b42,b43,λc01 a=> ?_,a9q,λc01 a=> ?_,λa=>by cases a⟩,rfl,a9p⟩
    all_goals
     obtain rfl:=a4X.1 a;rcases x with rfl|x
    .exact b39
    .exact l8 _ x
    .exact c00 a29.1 a29.2
    .exact a18 _ x
   .rename_i a29;subst a97;refine⟨(V+1,b99,b40,b41),⟨l9,b42,b43,l8,a16,a18,λa=>⟨(a19 a).1,λk x=> ?_⟩⟩,rfl,a9p⟩;grind
  obtain rfl:V=h.rows.length:=a9p;rw[a5f]at a19;have c61:=U.af (l7.l.1 _ _ b89);have c02:=b35.len;rw[a83.len]at c02;refine aa ?_;refine ch [0,3,8,11,90,91] (λc:Nat×List R×R=> [(92,.v (.int .i64 (c.1:Int)))]) (λc F=>c.1<=h.kids.length/\dJ b k5 F d a14 a15 c.2.1 c.2.2/\az r5 (H++(h.kids.take c.1).filter (eu p r)) c.2.1) (λc=>h.kids.length - c.1) (0,k2,D) ⟨⟨a5o _,l7,by simpa using b21⟩,aU⟩ ?_;rintro⟨q,a98,b44⟩ b45 ⟨c03,a30,n0⟩ c62
  dsimp only at c03 a30 n0
  refine aa ?_;refine aH (λaI=> ?_) λaI=> ?_
  .have a99:q<h.kids.length:=a9p;obtain⟨_,Q,b00,c04,X,Y,n1,rfl⟩:=a83.get (i:=q) (x:=h.kids.getD q aA) (by simp[List.getD,a99]);obtain⟨l6,b94,i⟩:=b35.get q _ Q;have c05:=(aX (N:=X) (e5:=Y) (h5:=n1) b00).all;have c63:dq true 37 b45 l6=some (.agg (ab (h.kids.getD q aA) X Y n1)):=by have:=i.ld b45 a30.l.1 true 37 a9p (by rw[hN];omega);rw[this,aY,if_pos rfl,hN,c05.2.1]
   have G:=eT (a:=h.kids) (e:=q) (b:=aA) a99;have b24:=lC (N:=X) (e5:=Y) (h5:=n1) b00;generalize h.kids.getD q aA=b01 at*;have c06:a98.length<=100000000:=by have f:=n0.len;rw[a4J]at f;have B:=zy (ks:=H) λS g=>(I S (by simp[g])).2.2;grind
   clear i Q;refine aa ?_;refine aP λc64 c07=> ?_;have c08:=a30.mono (U.ae (Y:= .cells (ab b01 X Y n1)) U.a1 c07);refine aa ?_;refine ai (Fj b k5 _ d a14 a15 a98 b44 c08 b01 X Y n1 b00 c04 (by show p.length<=8;omega) c06) ?_;rintro _ c65 ⟨c09,b46,k0,b47⟩;refine aa ?_;refine⟨(q+1,b46,c09),⟨a99,k0,?_⟩,rfl,a9p⟩;show az r5 (H++(h.kids.take (q+1)).filter (eu p r)) b46;rw[G,a7R,<-a4U];split at b47
   .rename_i A;obtain⟨b62,a48,rfl⟩:=b47;have A:eu p r b01=true:=A;rw[a8L A];exact n0.snoc a48
   grind
  .obtain rfl:q=h.kids.length:=a9p;rw[a5f]at n0;obtain⟨c66,c67⟩:=Fm (q:=p) (b6:=r) M;have c19:=uZ b36;refine⟨⟨b37,a14,a15,H++h.kids.filter (eu p r),a98,b44⟩,⟨a30.base b90,a94,l8,a16,n0,a18,λS g=> ?_,λf B k x=> ?_,?_⟩,?_⟩
   .rcases a5a.1 g with g|g
    .exact I S (by simp[g])
    .obtain⟨a34,b02⟩:=a7N.1 g;obtain⟨_,a06,a61⟩:=nB (c19 S a34);have:=a06 (a61 (yW b02));exact⟨(I y a9q).1.snoc M a34 b02,(I y a9q).2.1,by unfold gh;omega⟩
   .obtain⟨a34,b02⟩:=a19 f;obtain⟨c68,b48,c21⟩:=o.co a34 B k x;rcases a5i.1 (l0.mem_iff.2 b48)with rfl|b48
    .obtain⟨c69,c70,c22,c23,c24,c25⟩:=c21;cases c22 with
     |refl=>simp_all
     |step b49 c26 c27 c28=>rw[M]at b49;obtain rfl:=a4G b49;exact⟨_,a6V _ (a7N.2 ⟨c26,c27⟩),_,_,c28,c23,c24,c25⟩
    grind
   grind;grind
def zz (h:ag) (k:List aK) (o:List UInt8) (b:Int) (c:R):Prop:=match k.find? (λa=>decide (a.name=o))with
 |none=>c= .aL [.J [] .nil,.v (.bool false),.v (.int .i64 3)]
 |some a=>
  (vo h (a.aC.length+1) (b::List.replicate a.aC.length hF) (b::List.replicate a.aC.length il) a.bK/\c= .aL [.J [] .nil,.v (.bool false),.v (.int .i64 21)])\/
  ∃rows,vn h (a.aC.length+1) (b::List.replicate a.aC.length hF) (b::List.replicate a.aC.length il) a.bK rows/\(∀d∈rows,d.length=a.aC.length+1)/\
   ((rows= []/\c= .aL [.J [] .nil,.v (.bool false),.v (.int .i64 0)])\/ ∃d p r,rows=d::p/\c= .aL [.J (ad d) r,.v (.bool true),.v (.int .i64 0)])
theorem a2n (a:cA b9=true) (b:e6∈b9):fo (e6.aC.length+1) e6.bK=true:=by simp only[cA,a4K,a4W,a5Z,decide_eq_true_eq]at a;obtain⟨c,d,rfl⟩:=a5y b;simp_all [fT,List.getD,a4K]
theorem FX (a:Int) (b:e<=7):cT (a::List.replicate e hF) (a::List.replicate e il) (e+1)=true:=by have hm:hF<=il:=a9t;simp only[cT,a4M,a6H,a4K,decide_eq_true_eq,a4W,a5Z];grind
theorem a2o (y:U) (z t k1:Nat) (u:ag) (F:List aK) (v:cP y z t k1 u F) (k2:cA F=true) (f:List UInt8) (b:Int):
  AC Tryz.prog 12 [.ptr z 0,bd f,.v (.int .i64 b)] y λw a06=>y.sub a06/\zz u F f b w:=by
 obtain⟨a07,a89⟩:=mo k2;obtain⟨a08,a09,G,a10⟩:=v.x;have a90:=U.af G;have a92:(cx).length=76:=fU.all.1;have A: ∀a T,et a T->putAt cx 0 T=T:=λa T g=>(nG g).2.2.1;have a11:putAt cx 0 cx=cx:=A _ _ fU;have B:=jo;have o:=find_spec F a08 a09 f a10 a9p y;unfold Found at o;unfold zz;generalize cx=a94 at*;refine aO hm JU ?_;refine ai o ?_;clear o;rintro w H ⟨rfl,o⟩;cases I:F.find? (λa=>decide (a.name=f))with
 |none=>rw[I]at o;obtain rfl:=o;refine aa ?_;refine aP λa95 a96=> ?_;rw[B];exact aU
 |some a=>
  rw[I]at o;obtain⟨T,i,rfl⟩:=o;obtain⟨a97,a98,a99,b00,k3,k4,k5,k6,a13,a14,b01,b02,b03⟩:=i.all;have b04:=A _ _ i;have k7:=λy=>tf a T i y;have hm:=vl I;have k8:=a07 a hm;have a15:=k8.c;have a16:=k8.k.size;obtain⟨a18,a19⟩:=i.k;clear A a11;refine aa ?_;refine aP λC K=> ?_;rw[B];clear B;have a27:z≠C:=by rintro rfl;rw[G]at K;cases K
  have b05:=a27.symm;have D:=U.ae (Y:= .cells T) (U.a1 (f:=H)) K;have dr:=U.ah H C (.cells T);refine aa ?_;refine bj (k7 _) ?_;generalize H.set C _=L at*;refine ai (a0H (a.aC.length+1) a9p a9p L) ?_;rintro _ k9 ⟨b06,b07,rfl,b08,j,l⟩;have l0:(ad (List.replicate (a.aC.length+1) hF)).length=a.aC.length+1:=by rw[bH,a6H]
  have l1:(ad (List.replicate (a.aC.length+1) il)).length=a.aC.length+1:=by rw[bH,a6H]
  obtain⟨aQ,h,P,r,rfl,S,l2,a29,M,l3,b09,_⟩:=j.al (λN=>by rw[N]at l0;simp at l0);obtain⟨c,d,E,x,rfl,O,l4,a30,Q,l5,b10,_⟩:=l.al (λN=>by rw[N]at l1;simp at l1);rw[a5t]at a29 M l3 a30 Q l5;have l6:=l.1 _ _ l2;have l7:aQ≠c:=by rintro rfl;rw[l2]at O;cases O
  have a34:=l7.symm;have m:=U.aq j.1 l.1;have l8:=m _ _ dr;have dY:=m _ _ (D _ _ G);have b11:=(v.sub D).sub m;have V:L c=none:=U.bF j.1 O;have b12:C≠aQ:=by rintro rfl;rw[dr]at S;cases S
  have b13:C≠c:=by rintro rfl;rw[dr]at V;cases V
  have b14:z≠aQ:=by rintro rfl;rw[D _ _ G]at S;cases S
  have b15:z≠c:=by rintro rfl;rw[D _ _ G]at V;cases V
  refine aa ?_;refine aP λp k=> ?_;have a36:aQ≠p:=by rintro rfl;rw[l6]at k;cases k
  have a38:c≠p:=by rintro rfl;rw[l4]at k;cases k
  have a42:C≠p:=by rintro rfl;rw[l8]at k;cases k
  have a43:z≠p:=by rintro rfl;rw[dY]at k;cases k
  have b16:=a36.symm;have b17:=a38.symm;have b18:=a42.symm;have b19:=a43.symm;have b20:cR 1 (.al aQ h P 1) (.v (.int .i64 0))=some (.ptr aQ 0):=by grind[iZ]
  have b21:cR 1 (.al c d E 1) (.v (.int .i64 0))=some (.ptr c 0):=by grind[iZ]
  have b22:=U.aJ l6;have b23:=U.aJ l4;have b24:=U.af l8;have gd:=U.af dY;have b25:1<=r.length:=a9p;have b26:1<=x.length:=a9p;have a47:(putAt r 0 [R.v (.int .i64 b)]).take h=ad (b::List.replicate a.aC.length hF):=by
   have X:h=a.aC.length+1:=a9p;have W:(r.drop 1).take (h - 1)=ad (List.replicate a.aC.length hF):=by rw[<-a6f,M];rfl
   have Y:h - 1=a.aC.length:=a9p;rw[Y]at W;show([]++ [R.v (.int .i64 b)]++r.drop 1).take h= _;rw[a5b,X,a8e,a6C,W];rfl
  have a48:(putAt x 0 [R.v (.int .i64 b)]).take d=ad (b::List.replicate a.aC.length il):=by
   have X:d=a.aC.length+1:=a9p;have W:(x.drop 1).take (d - 1)=ad (List.replicate a.aC.length il):=by rw[<-a6f,Q];rfl
   have Y:d - 1=a.aC.length:=a9p;rw[Y]at W;show([]++ [R.v (.int .i64 b)]++x.drop 1).take d= _;rw[a5b,X,a8e,a6C,W];rfl
  have b27:(putAt r 0 [R.v (.int .i64 b)]).length=r.length:=eJ _ _ _ a9r;have b28:(putAt x 0 [R.v (.int .i64 b)]).length=x.length:=eJ _ _ _ a9r;have b29:(k9.set p (.cells [.al aQ h P 1,.al c d E 1])) p=some (.cells [.al aQ h P 1,.al c d E 1]):=U.ah _ _ _;clear j l M Q l3 l5;refine aa ?_;generalize putAt r 0 [R.v (.int .i64 b)]=n at*;generalize putAt x 0 [R.v (.int .i64 b)]=q at*;refine bj (k7 _) ?_;generalize Z:((k9.set p (.cells [.al aQ h P 1,.al c d E 1])).set aQ (.cells n)).set c (.cells q)=e;have a52:e aQ=some (.cells n):=by subst Z;rw[U.an _ _ l7,U.ah]
  have a56:e c=some (.cells q):=by subst Z;rw[U.ah]
  have b30:L p=none:=U.bF m k;have a57:L.sub e:=by grind[U.ae]
  clear Z;have l9:=View.al (n:=h) (cap:=P) (k:=1) a52 a9p;rw[ky,a47]at l9;have a61:(e.set aQ (.ro n)) c=some (.cells q):=by rw[U.an _ _ a34];exact a56
  have n0:=View.al (n:=d) (cap:=E) (k:=1) a61 a9p;rw[ky,a48]at n0;have n1:L.sub ((e.set aQ (.ro n)).set c (.ro q)):=U.ae (U.ae a57 S) V;have a62:=View.agg (a:= []) (k:= [.al c d E 1,.v (.int .u8 0),.v (.int .i64 0),.J [] .nil,.v (.int .i64 1),.v (.bool false)]) (c:= .J (ad (b::List.replicate a.aC.length hF)) .any) rfl l9;have a63:=View.agg (a:= [.J (ad (b::List.replicate a.aC.length hF)) .any]) (k:= [.v (.int .u8 0),.v (.int .i64 0),.J [] .nil,.v (.int .i64 1),.v (.bool false)]) (c:= .J (ad (b::List.replicate a.aC.length il)) .any) rfl n0;have a65:=a62.trans a63;have a68:cT (b::List.replicate a.aC.length hF) (b::List.replicate a.aC.length il) (a.aC.length+1)=true:=FX b a15;have a69:eu (b::List.replicate a.aC.length hF) (b::List.replicate a.aC.length il) a.bK=true->1<=a.bK.size:=λg=>by
   simp only[eu,a4K,decide_eq_true_eq]at g;have n2:=nB (a2n k2 hm);exact n2.2.1 (n2.2.2 g.1)
  have a71:=AC.nm (m:=Tryz.prog) (g:= [.ptr t 0,.agg (ab a.bK k3 k4 k5)]) (A:= [.v (.int .i64 ((a.aC.length+1:Nat):Int))]) a65 (a2m _ t k1 u (v.gg.mono (U.aq D n1)) a.bK k3 k4 k5 a18 a19 _ _ .any .any .nil (a.aC.length+1) a68 a16 a69);refine ai a71 ?_;rintro w n3 ⟨a73,a74⟩;have b31:=U.aq D (U.aq n1 a73);rcases a74 with ⟨b32,b33,b34,rfl⟩|⟨rows,b35,j9,n4,b36,b37,k0,s,b38,rfl⟩
  .refine aa ?_;refine aP λn5 n9=> ?_;refine aa ?_;exact .inl trivial
  .have b39:=fK k0;refine aa ?_;refine aP λn5 n9=> ?_;have a81:=k0.src;obtain⟨a00,k6,a13,a14⟩:=a81;rw[a5t]at k6;have a01:=s.len;refine aa ?_;cases rows with
   |nil=>
    have a02:a00=0:=by rw[a4R]at a01;omega
    subst a02;refine aa ?_;grind
   |cons a03 rest=>
    have a02: ¬(a00:Int)=0:=by rw[a4M]at a01;omega
    obtain⟨_,a83,a84,rfl⟩:=s.get (i:=0) (x:=a03) rfl;have a86:=bS.dV (k0.mono (U.ae (Y:= .cells [j9,.v (.int .i64 n4)]) (U.a1 (f:=n3)) n9)) a9p s.flat.symm (s.cells λ_ _=>isRow.cells);obtain⟨a04,a05,a88⟩:=a86.get 0 _ a83;have a05:cR 1 j9 (.v (.int .i64 0))=some a04:=a05;have b40:dq false 1 (n3.set n5 (.cells [j9,.v (.int .i64 n4)])) a04=some (.J (ad a03) a84):=a88.ld _ U.a1 false 1 a9p (by simp[R.cells]);refine aa ?_;grind
def ju (d:Nat) (b:List Int×List Int) (c:List Int):Prop:= ∀a,a<d->b.1.getD a 0<=c.getD a 0/\c.getD a 0<=b.2.getD a 0
def FY {a b:List Int×List Int} (h:hg e a) (k:hg e b) (c:ju e a q\/ju e b q):ju e (cU a b) q:=by
 have o:=lr.1 h.ok;have p:=lr.1 k.ok;unfold cU;rw[o.2.2.1,p.2.2.1,if_pos h.ok,if_pos k.ok,if_pos rfl];intro d r;have x:=En (a:=min) (q:=a.1) (b6:=b.1) (e:=d) a9p a9p;have y:=En (a:=max) (q:=a.2) (b6:=b.2) (e:=d) a9p a9p
 dsimp only
 rw[x,y];rcases c with c|c<;>have:=c d r<;>omega
theorem FZ {a:gf} (k:mi e i a) (r:0<i) (o:jn e a8 w) (d:ju e a.aQ q):ju e (ev a w).aQ q:=by
 have h:hg e a.aQ:=by
  rcases k.aQ with ⟨b,_⟩|⟨_,b⟩
  .omega
  .exact b
 show ju e (cU a.aQ (w.aV,w.aW)) q;rcases o.aQ with ⟨b,c,p⟩|⟨b,c⟩
 .rw[c,p,Fz h];exact d
 .exact FY h c (.inl d)
def G0 {a:gf} (h:mi e i a) (k:jn e a8 w) (o:q∈a8.all) (d:ju e (w.aV,w.aW) q):ju e (ev a w).aQ q:=by
 have x:=a7V o;show ju e (cU a.aQ (w.aV,w.aW)) q;rcases k.aQ with ⟨p,b,y⟩|⟨p,b⟩
 .omega
 rcases h.aQ with ⟨r,c⟩|⟨r,c⟩
 .rw[c,py b];exact d
 .exact FY c b (.inr d)
theorem zA {b:Nat} (h:1<=b) (k:b<=8) {c:List Int}: ∀ {o:aD},o.c8 b->o.size<=1048576->c∈o.all->ju b ((bm o).aV,(bm o).aW) c
 | .nil,_,_,d=>by cases d
 | .node p live D E,d,F,a=>by
  simp only[aD.size]at F;have x:=fh h k d.a a9p;have y:=fh h k d.b a9p;have r:=y5 h k d.r;have z:mi b (if live=true then 1 else 0) (dP ⟨0,1,([],[])⟩ (p,live)):=by
   cases live with
   |false=>exact⟨rfl,.inl ⟨rfl,rfl⟩⟩
   |true=>refine⟨rfl,.inr ⟨a9t,?_⟩⟩;show hg b (cU ([],[]) (gr p));rw[py r];exact r
  have C:=z6 z x;show ju b (ev (ev (dP ⟨0,1,([],[])⟩ (p,live)) (bm D)) (bm E)).aQ c;simp only[aD.all,a5a]at a;rcases a with (a|a)|a
  .have:=a7V a;exact FZ C a9p y (G0 z x a (zA h k d.a a9p a))
  .exact G0 C y a (zA h k d.b a9p a)
  .have G:live=true/\c=p:=by simp_all
   obtain⟨rfl,rfl⟩:=G;have L:ju b (dP ⟨0,1,([],[])⟩ (c,true)).aQ c:=by show ju b (cU ([],[]) (gr c)) c;rw[py r];unfold gr;rw[if_pos (by have:=d.r.len;omega)];exact λP _=>⟨a8n _,a8n _⟩
   grind[FZ]
def G1 {a:List Int} (b:a.length=e):jj q b6 a=true↔cT q b6 e=true/\ju e (q,b6) a:=by unfold jj;simp only[b,a4K,a4W,a5Z,decide_eq_true_eq];rfl
def zB (c:1<=e) (d:e<=8) {h:List Int} (a:a8.c8 e) (k:a8.size<=1048576) (b:b6∈a8.all) (y:jj h q b6=true):eu h q (bm a8)=true:=by
 have o:=fh c d a k;have G:=a7V b;have z:=(a b6 (aD.gG b)).len;obtain⟨p,C⟩:=(G1 z).1 y;have D:=zA c d a k b;have E:=lr.1 p;have F:cT (bm a8).aV (bm a8).aW e=true:=by
  rcases o.aQ with ⟨r,_⟩|⟨_,r⟩
  .omega
  .exact r.ok
 have L:=o.live;unfold eu jY oC;simp only[E.2.2.1,a4K,a4W,a5Z,decide_eq_true_eq];refine⟨a9p,⟨p,F⟩,λx q=> ?_⟩;have:=C x q;have:=D x q
 dsimp only at*
 unfold hE;omega
def G2:fp H e aA=none:=by
 cases a:fp H e aA with
 |none=>rfl
 |some b=>have:=(Fm (q:= []) (b6:= []) a).2;have c:(aA).size=0:=rfl;omega
theorem G3 (r:1<=e) (x:e<=8) (y:lB H e q b6 w j2): ∀ {a:aD},w=bm a->a.c8 e->a.size<=1048576->ec H a-> ∃b,j2=bm b/\b.c8 e/\b.size<=1048576/\ec H b/\(∀z∈b.all,z∈a.all)/\(eu q b6 w=true->eu q b6 j2=true):=by
 induction y with
 |refl C=>grind
 | @step C k W f c hk g i ih=>
  intro a o d p h;cases a with
  |nil=>rw[o,show bm .nil=aA from rfl,G2]at c;cases c
  |node j live D E=>
   rw[o,ta r x d p h]at c;obtain rfl:=a4G c;simp only[aD.size]at p;have F:k=bm D\/k=bm E:=by simpa[ck] using hk
   rcases F with rfl|rfl
   .obtain⟨b,G,L,P,S,T,V⟩:=ih rfl d.a a9p h.2.1;grind[aD.all]
   .obtain⟨b,G,L,P,S,T,V⟩:=ih rfl d.b a9p h.2.2;grind[aD.all]
def zC (a:1<=e) (b:e<=8) (d:a8.c8 e) (h:a8.size<=1048576) (k:ec H a8): ¬vo H e q b6 (bm a8):=by
 rintro⟨D,o,p,c⟩;obtain⟨r,rfl,x,y,z,_,C⟩:=G3 a b o rfl d h k;cases r with
 |nil=>exact yW (C p) rfl
 |node E live F G=>rw[ta a b x y z]at c;cases c
def a2p (b:1<=e) (c:e<=8) {d:List Int} (h:a8.c8 e) (k:a8.size<=1048576) (o:ec H a8) (p:nA H e b6 d (bm a8) q):q∈a8.all/\jj b6 d q=true:=by
 obtain⟨G,L,r,a,hm,x⟩:=p;obtain⟨y,rfl,z,C,D,E,_⟩:=G3 b c r rfl h k o;refine⟨E q ?_,x⟩;cases y with
 |nil=>rw[show bm .nil=aA from rfl,G2]at a;cases a
 |node F live P S=>
  rw[ta b c z C D]at a;obtain rfl:=a4G a;have:q=F/\live=true:=by simpa[ck] using hm
  obtain⟨rfl,rfl⟩:=this;simp[aD.all]
theorem zD {E:ag}{o:Nat} (c:1<=o) (d:o<=8) {F G p:List Int}: ∀ {h:aD},h.c8 o->h.size<=1048576->ec E h->p∈h.all->jj F G p=true->nA E o F G (bm h) p
 | .nil,_,_,_,b,_=>by cases b
 | .node P live T V,b,L,r,a,k=>by
  have x:=ta c d b L r;simp only[aD.size]at L;simp only[aD.all,a5a]at a;rcases a with (a|a)|a
  .obtain⟨y,z,C,D⟩:=zD c d b.a a9p r.2.1 a k;exact⟨y,z,.step x (by simp[ck]) (zB c d b.a a9p a k) C,D⟩
  .obtain⟨y,z,C,D⟩:=zD c d b.b a9p r.2.2 a k;exact⟨y,z,.step x (by simp[ck]) (zB c d b.b a9p a k) C,D⟩
  .have S:live=true/\p=P:=by simp_all
   obtain⟨rfl,rfl⟩:=S;exact⟨_,_,.refl _,x,by simp[ck],k⟩
def zE (b:1<=e) (c:e<=8) (d:a8.c8 e) (h:a8.size<=1048576) (k:ec H a8) (o:vn H e q b6 (bm a8) O):(O= []↔ ∀a∈a8.all,¬jj q b6 a=true):=by
 constructor
 .intro x a p r;exact o.full x (zB b c d h p r) a (zD b c d h k p r)
 .intro y;cases O with
  |nil=>rfl
  |cons a rest=>obtain⟨z,C⟩:=a2p b c d h k (o.sound a a9q);exact absurd C (y a z)
variable{b1:Int}
theorem zF (d:e<=7) (b:bN (e+1) q):jj (b1::List.replicate e hF) (b1::List.replicate e il) q=true↔q.getD 0 0=b1:=by
 rw[G1 b.len];constructor
 .rintro⟨_,c⟩;have:=c 0 a9p;grind
 .intro h;refine⟨FX b1 d,λa k=> ?_⟩;cases a with
  |zero=>simp only[a5q];omega
  |succ a=>have c:a<e:=a9p;have o:=b.len;have hm:=b.jU (q.getD (a+1) 0) (by simp_all);simp only[a5x];simp only[a5s,List.getElem?_replicate,if_pos c,a6K];simp only[a5s]at hm;unfold hF il;omega
def lE (b:ag) (d:List aK) (c:cp) (h:Int×List aK×ag):Prop:=match d.find? (λa=>decide (a.name=c.table))with
 |none=>h=(3,d,b)
 |some a=>if c.row.length=a.aC.length+1 then
   (vo b (a.aC.length+1) (c.row.getD 0 0::List.replicate a.aC.length hF) (c.row.getD 0 0::List.replicate a.aC.length il) a.bK/\h=(21,d,b))\/
   ∃rows,vn b (a.aC.length+1) (c.row.getD 0 0::List.replicate a.aC.length hF) (c.row.getD 0 0::List.replicate a.aC.length il) a.bK rows/\(∀k∈rows,k.length=a.aC.length+1)/\
    ((rows= []/\h=fD (λb=>nC (a.aC.length+1) c.row b a.bK) (λb=>iI (a.aC.length+1) c.row b a.cj) b d a)\/(rows≠ []/\h=(8,d,b)))
  else h=(6,d,b)
def a2q (r:U) (p x y:Nat) (k:ag) (c:List aK) (m:cP r p x y k c) (n: ∀d∈c,d.Fit) (q:cA c=true) (a:cf) (I:a.d.Fit):
  AC Tryz.prog 49 [.ptr p 0,a.V] r λD E=> ∃res,lE k c a.d res/\D= .v (.int .i64 res.1)/\cP E p x y res.2.2 res.2.1/\cy p x y r E:=by
 obtain⟨K,l5⟩:=mo q;have s:=λE C=>FR E p x y k c C a9p a I;have t:a.V= .agg [ak a.d.kind,bd a.d.table,.J (bE a.d.aC) a.gx,.J (ad a.d.row) a.dn]:=rfl;obtain⟨l6,l7,M,l8⟩:=m.x;rw[t]at s|-;clear t;have l9:=U.af M;have n0:(cx).length=76:=fU.all.1;refine aO hm KO ?_;refine bq λP N=> ?_;have u:=U.ae (Y:= .cells [ak a.d.kind,bd a.d.table,.J (bE a.d.aC) a.gx,.J (ad a.d.row) a.dn]) (U.a1 (f:=r)) N;have aI:=U.ah r P (.cells [ak a.d.kind,bd a.d.table,.J (bE a.d.aC) a.gx,.J (ad a.d.row) a.dn]);generalize r.set P _=O at*;have v:=m.sub u;refine ai (s O v) ?_;rintro D S ⟨V,b⟩;have W:=V _ _ aI;have n1:=U.af W;have e:=v.sub V;have f:=U.aq u V;have g: ∀d T,et d T->putAt cx 0 T=T:=λd T C=>(nG C).2.2.1;have n2:(cx).take 76=cx:=fU.all.2.1;have n3:putAt cx 0 cx=cx:=g _ _ fU;have i:=jo;generalize cx=n4 at*;unfold mq at b;unfold lE;cases F:c.find? (λd=>decide (d.name=a.d.table))with
 |none=>
  rw[F]at b
  dsimp only at b
  obtain rfl:=b;refine aa ?_;refine aP λG h=> ?_;rw[i];refine aa ?_;refine⟨_,U.a1,(3,c,k),rfl,rfl,e.sub (U.ae U.a1 h),cy.of (U.aq f (U.ae U.a1 h))⟩
 |some d=>
  rw[F]at b;have hm:=vl F
  dsimp only at b
  by_cases z:a.d.row.length=d.aC.length+1
  .rw[if_pos z]at b;obtain⟨T,o,rfl⟩:=b;obtain⟨Q,X,Y,_⟩:=o.all;have Z:=g _ _ o;have j9:= @dO a.d.row;have n5:=bH (q:=a.d.row);refine aa ?_;refine aP λG h=> ?_;rw[i];have k0:P≠G:=by rintro rfl;rw[W]at h;cases h
   have n9:=k0.symm;obtain⟨k1,k2⟩:=o.k;obtain⟨k3,k4⟩:=o.z;have w:=K d hm;have a00:=w.c;have a01:=w.k.size;have A:=e.sub (U.ae (Y:= .cells T) U.a1 h);have k5:=U.ae (Y:= .cells T) (U.a1 (f:=S)) h _ _ W;have k6:=U.ah S G (.cells T);have k7:=U.aq f (U.ae (Y:= .cells T) (U.a1 (f:=S)) h);have a02:cR 1 (.J (ad a.d.row) a.dn) (.v (.int .i64 0))=some (.bV [.v (.int .i64 (a.d.row.getD 0 0))]):=by have C:=j9 (i:=0) a9p;have k8:(0:Int)<=0:=a9p;rw[hl k8];show eC 1 (ad a.d.row)[0]? = _;rw[C];exact iw rfl
   dsimp only
   simp only[if_pos z];refine aa ?_;refine ai (a2o _ p x y k c A q a.d.table (a.d.row.getD 0 0)) ?_;rintro D k9 ⟨L,b⟩;unfold zz at b;rw[F]at b
   dsimp only at b
   have j:=A.sub L;have l:=U.aq k7 L;have a03:=U.af (L _ _ k5);have a04:=U.af (L _ _ k6);rcases b with ⟨a05,rfl⟩|⟨rows,B,H,⟨rfl,rfl⟩|⟨l0,l1,a06,rfl,rfl⟩⟩
   .refine aa ?_;exact⟨_,U.a1,(21,c,k),.inl rfl,rfl,j,cy.of l⟩
   .have l2:=FW k9 p x y k c j n a9p d T o (n d hm) a.d.row a.dn 84 85 _ _ a9u a9u (js.a2g k1 k2 a9p a9p a9p z) (js.a2i k3 k4 a9p a9p z);refine aa ?_;refine ai l2 ?_;rintro D a07 ⟨rfl,l3,l4⟩;refine aa ?_;exact⟨_,U.a1,_,.inr ⟨[],B,H,.inl ⟨rfl,rfl⟩⟩,rfl,l3,(cy.of l).trans l4⟩
   .refine aa ?_;exact⟨_,U.a1,(8,c,k),.inr ⟨l0::l1,B,H,.inr ⟨a9q,rfl⟩⟩,rfl,j,cy.of l⟩
  .rw[if_neg z]at b;obtain⟨T,o,rfl⟩:=b;obtain⟨Q,X,Y,_⟩:=o.all;have Z:=g _ _ o;refine aa ?_;refine aP λG h=> ?_;rw[i]
   dsimp only
   simp only[if_neg z];refine aa ?_;refine⟨_,U.a1,(6,c,k),rfl,rfl,e.sub (U.ae U.a1 h),cy.of (U.aq f (U.ae U.a1 h))⟩
def eA (c:ag) (b:List aK) (a:cp) (d:Int×List aK×ag):Prop:=
 if ea a=false then d=(1,b,c)
 else if a.kind=1 then d=((iP (kc b ⟨a.table,a.aC,aA,aA⟩) b).1,(iP (kc b ⟨a.table,a.aC,aA,aA⟩) b).2,c)
 else if a.kind=2 then d=((iP (cM b a.table) b).1,(iP (cM b a.table) b).2,c)
 else if a.kind=3 then lE c b a d
 else d=jt c b a
theorem zG (b:U) (d h k:Nat) (r:ag) (x:List aK) (Z:cP b d h k r x) (j: ∀j9∈x,j9.Fit) (m:cA x=true) (a:cf) (l:a.d.Fit):
  AC Tryz.prog 20 [.ptr d 0,a.V] b λg w=> ∃res,eA r x a.d res/\g= .v (.int .i64 res.1)/\cP w d h k res.2.2 res.2.1/\cy d h k b w:=by
 have k2:=(mo m).2;have n:=λb=>EM a l b;have A:=λb L=>a2b b d h k r x L j a9p a l;have B:=λb L=>a2a b d h k r x L j a9p a;have H:=λb L=>a2q b d h k r x L j m a l;have I:=λb L=>a2k b d h k r x L j m a l;have K:a.V= .agg [ak a.d.kind,bd a.d.table,.J (bE a.d.aC) a.gx,.J (ad a.d.row) a.dn]:=rfl;rw[K]at n A B H I|-;clear K;refine aO hm K4 ?_;refine bq λq k0=> ?_;have e:=U.ae (Y:= .cells [ak a.d.kind,bd a.d.table,.J (bE a.d.aC) a.gx,.J (ad a.d.row) a.dn]) (U.a1 (f:=b)) k0;have aI:=U.ah b q (.cells [ak a.d.kind,bd a.d.table,.J (bE a.d.aC) a.gx,.J (ad a.d.row) a.dn]);generalize b.set q _=f at*;have i:=Z.sub e;have k3:=U.af aI;cases cv:ea a.d with
 |false=>refine bj (n f) ?_;exact⟨_,U.a1,(1,x,r),by unfold eA;rw[if_pos cv],rfl,i,cy.of e⟩
 |true=>
  refine bj (n f) ?_;rw[show List.replicate 5 (R.v .nilFunc)= [.v .nilFunc,.v .nilFunc,.v .nilFunc,.v .nilFunc,.v .nilFunc]from rfl];have k4: ∀z C D E F y:R,putAt [z,C,D,E,F] 1 [y]= [z,y,D,E,F]:=λ_ _ _ _ _ _=>rfl;have k5: ∀z C D E F y:R,putAt [z,C,D,E,F] 2 [y]= [z,C,y,E,F]:=λ_ _ _ _ _ _=>rfl;have k6: ∀z C D E F y:R,putAt [z,C,D,E,F] 3 [y]= [z,C,D,y,F]:=λ_ _ _ _ _ _=>rfl;have k7: ∀z C D E F y:R,putAt [z,C,D,E,F] 4 [y]= [z,C,D,E,y]:=λ_ _ _ _ _ _=>rfl;have k8: ∀z C D E F y M N O v:R,putAt [z,C,D,E,F] 0 [y,M,N,O,v]= [y,M,N,O,v]:=λ_ _ _ _ _ _ _ _ _ _=>rfl;have k9: ∀Q X Y,(R.bG Q X Y).cells= [.bG Q X Y]:=λ_ _ _=>rfl;have P:a.d.kind.toNat=1\/a.d.kind.toNat=2\/a.d.kind.toNat=3\/a.d.kind.toNat=4:=by have L:=cv;simp only[ea,a4K]at L;grind
  refine aa ?_;refine aP λc G=> ?_;have k1:q≠c:=by rintro rfl;rw[aI]at G;cases G
  have l0:=k1.symm;rcases P with P|P|P|P
  .have s:lV 1 5 (.ptr c 0) (ak a.d.kind)=some (.ptr c 1):=by have:=rW (e:=1) (i:=5) (v:=c) (M:=0) (e2:= .u8) (b1:=(a.d.kind.toNat:Int)) a9p a9p;rw[a5g,show 0+a.d.kind.toNat*1=1 by omega]at this;exact this
   refine aa ?_;have t:a.d.kind=1:=a5G.1 P;generalize o:(f.set c _)=p;have S:cP p d h k r x:=by subst o;exact i.sub (U.ae U.a1 G)
   have T:cy d h k b p:=by subst o;exact cy.of (U.aq e (U.ae U.a1 G))
   clear o;refine fI a9u (A p S) ?_;rintro g u ⟨V,W,rfl⟩;refine aa ?_;refine⟨_,U.a1,(_,_,r),?_,rfl,V,T.trans W⟩;unfold eA;grind
  .have s:lV 1 5 (.ptr c 0) (ak a.d.kind)=some (.ptr c 2):=by have:=rW (e:=1) (i:=5) (v:=c) (M:=0) (e2:= .u8) (b1:=(a.d.kind.toNat:Int)) a9p a9p;rw[a5g,show 0+a.d.kind.toNat*1=2 by omega]at this;exact this
   refine aa ?_;have t:a.d.kind=2:=a5G.1 P;generalize o:(f.set c _)=p;have S:cP p d h k r x:=by subst o;exact i.sub (U.ae U.a1 G)
   have T:cy d h k b p:=by subst o;exact cy.of (U.aq e (U.ae U.a1 G))
   clear o;refine fI a9u (B p S) ?_;rintro g u ⟨V,W,rfl⟩;refine aa ?_;refine⟨_,U.a1,(_,_,r),?_,rfl,V,T.trans W⟩;simp_all [eA,if_neg,if_pos]
  .have s:lV 1 5 (.ptr c 0) (ak a.d.kind)=some (.ptr c 3):=by have:=rW (e:=1) (i:=5) (v:=c) (M:=0) (e2:= .u8) (b1:=(a.d.kind.toNat:Int)) a9p a9p;rw[a5g,show 0+a.d.kind.toNat*1=3 by omega]at this;exact this
   refine aa ?_;have t:a.d.kind=3:=a5G.1 P;generalize o:(f.set c _)=p;have S:cP p d h k r x:=by subst o;exact i.sub (U.ae U.a1 G)
   have T:cy d h k b p:=by subst o;exact cy.of (U.aq e (U.ae U.a1 G))
   clear o;refine fI a9u (H p S) ?_;rintro g u ⟨res,l1,rfl,V,W⟩;refine aa ?_;refine⟨_,U.a1,res,?_,rfl,V,T.trans W⟩;simp_all [eA,if_neg,if_pos]
  .have s:lV 1 5 (.ptr c 0) (ak a.d.kind)=some (.ptr c 4):=by have:=rW (e:=1) (i:=5) (v:=c) (M:=0) (e2:= .u8) (b1:=(a.d.kind.toNat:Int)) a9p a9p;rw[a5g,show 0+a.d.kind.toNat*1=4 by omega]at this;exact this
   refine aa ?_;have t:a.d.kind=4:=a5G.1 P;generalize o:(f.set c _)=p;have S:cP p d h k r x:=by subst o;exact i.sub (U.ae U.a1 G)
   have T:cy d h k b p:=by subst o;exact cy.of (U.aq e (U.ae U.a1 G))
   clear o;refine fI a9u (I p S) ?_;rintro g u ⟨rfl,V,W⟩;refine aa ?_;refine⟨_,U.a1,jt r x a.d,?_,rfl,V,T.trans W⟩;simp_all [eA,if_neg]
theorem oK:cA b9=true↔(∀b∈b9,fT b=true)/\b9.Pairwise (λc d=>bY c.name d.name=true)/\b9.length<=8:=by
 constructor
 .intro a;have o:=zs a;simp only[cA,a4K,a4W,a5Z,decide_eq_true_eq]at a;refine⟨λb h=> ?_,?_,a.2⟩
  .obtain⟨p,r,rfl⟩:=a5y h;simp_all
  grind[List.pairwise_iff_getElem,List.getD]
 .rintro⟨x,k,y⟩;rw[a6G]at k;simp only[cA,a4K,a4W,a5Z,decide_eq_true_eq,a6s];grind
theorem G4 {b:List aK} (c:cA b9=true) (a:cM b9 B= .ok b):cA b=true:=by
 unfold cM at a;rw[if_pos c]at a;split at a
 .obtain rfl:=Except.ok.inj a;obtain⟨d,h,k⟩:=oK.1 c;have o:(b9.take (de b9 B)++b9.drop (de b9 B+1)).Sublist b9:=by grind[de,List.Sublist.append_left,List.drop_drop,List.drop_sublist,List.take_append_drop]
  grind[oK,Nat.le_trans]
 .cases a
theorem G5 {c:List aK} (a:kd b9 e6= .ok c):cA c=true:=by
 unfold kd at a;split at a
 .rename_i b;simp only[a4K]at b;obtain⟨b,r⟩:=b;split at a
  .rename_i d;obtain rfl:=Except.ok.inj a;simp only[gH,a4K,decide_eq_true_eq]at d;obtain⟨h,k⟩:=d;obtain⟨x,o,p⟩:=oK.1 b;have y:(b9[de b9 e6.name]'h).name=e6.name:=by simpa[List.getD,h] using k
   refine oK.2 ⟨λz C=> ?_,?_,by rw[a7k];exact p⟩;grind
   .rw[a6G]at o|-;grind
  .cases a
 .cases a
def G6 {c:aK->Bool}: ∀ {d:List aK},∀b∈d.takeWhile c,c b=true
 | [],b,a=>by cases a
 |h::d,b,a=>by
  rw[a5z]at a;split at a
  .rcases a5i.1 a with rfl|a
   .assumption
   .exact G6 b a
  .cases a
theorem G7 {c:aK->Bool}: ∀ {d:List aK}{b:aK}{h:List aK},d.dropWhile c=b::h->c b=false
 | [],_,_,a=>by cases a
 |k::d,b,h,a=>by
  rw[a6d]at a;split at a
  .exact G7 a
  simp_all
theorem G8 {o:List aK} (b:kc b9 e6= .ok o):cA o=true:=by
 unfold kc at b;split at b
 .rename_i d;simp only[a4K]at d;obtain⟨d,E⟩:=d;split at b
  .cases b
  rename_i F;split at b
  .cases b
  rename_i G;obtain rfl:=Except.ok.inj b;obtain⟨L,p,P⟩:=oK.1 d;have r:b9.take (de b9 e6.name)=b9.takeWhile λa=>bY a.name e6.name:=by grind[List.takeWhile_append_dropWhile,bY,de,List.take_left]
  have x:b9.drop (de b9 e6.name)=b9.dropWhile λa=>bY a.name e6.name:=by grind[List.takeWhile_append_dropWhile,bY,de,List.drop_left]
  have el:=a5E (p:=λa:aK=>bY a.name e6.name) (l:=b9);have S: ∀a∈b9.takeWhile (λa=>bY a.name e6.name),bY a.name e6.name=true:=λa c=>G6 (c:=λa:aK=>bY a.name e6.name) a c;have y: ∀a∈b9.dropWhile (λa=>bY a.name e6.name),bY e6.name a.name=true:=by
   intro a c;cases h:b9.dropWhile (λa=>bY a.name e6.name)with
   |nil=>rw[h]at c;cases c
   |cons k T=>
    have V:=G7 h;have W:de b9 e6.name<b9.length:=by grind
    have e:b9.getD (de b9 e6.name) default=k:=by grind
    have f:k.name≠e6.name:=λg=>by
     simp_all [gH,a4K,decide_eq_true_eq]
    have z:bY e6.name k.name=true:=by grind[bY,absurd,FF]
    rw[h]at c;rcases a5i.1 c with rfl|c
    .exact z
    grind[vh,List.pairwise_cons]
  rw[r,x];refine oK.2 ⟨λa c=> ?_,?_,?_⟩;grind
  .rw[<-el]at p;obtain⟨C,D,i⟩:=a5P.1 p;refine a5P.2 ⟨C,a5r.2 ⟨y,D⟩,λj l m n=> ?_⟩;grind
  grind
 .cases b
end Go.Proofs.YtlgnfcaolejgeaaGreat
namespace Go.bA
open Go
variable{n b3:R}{f t e7:U}{g A e1:List R}{e i v M c0 j0:Nat}
theorem View.obj (p:f e=some (.cells (A++ .al i M c0 1::e1))) (D:f i=some (.cells g)) (E:M*1<=g.length) (F:e≠i):
  View f n ((f.set i (.ro g)).set e (.cells (A++ .J (dK 1 M g) .any::e1))) n:=λw B v G L=>by
 obtain⟨P,a⟩:=Step.freeze G D;have S:(f.set i (.ro g)) e=some (.cells (A++ .al i M c0 1::e1)):=by rw[U.an _ _ F];exact p
 obtain⟨r,V,T,W,h,j⟩:=a.holds.dS e _ S;refine⟨P,⟨⟨a.holds.ro,λx l c=> ?_⟩,a.le,a.os,a.tape,a.output,a.size,λ_ _ _=>rfl,λk H=> ?_,a.mw,λk m q o=> ?_⟩,L.mono a.le⟩
 .by_cases d:x=e
  .subst d;rw[U.ah]at c;obtain rfl:=a4G c;refine⟨λy b=> ?_,V,T,W,⟨by have:=h.1;simp_all,λz C s=> ?_⟩,j⟩
   .simp only[a5a,a5i]at b;rcases b with b|rfl|b
    .exact r y (by simp[b])
    .rfl
    .exact r y (by simp[b])
   .by_cases t:z=A.length
    .subst t;have u:C= .J (dK 1 M g) .any:=by simpa using s.symm
     subst u;exact aZ.frozen a.holds (U.ah _ _ _) E (h.2 A.length (.al i M c0 1) a9q)
    .refine h.2 z C ?_;grind
  .rw[U.an _ _ d]at c;exact a.holds.dS x l c
 grind[U.an]
 .have d:k≠e:=by rintro rfl;rw[p]at o;cases o
  rw[U.an _ _ d];exact a.jz k m q o
def zH (k o:U):Prop:= ∀a b c d h,k a=some (.cells [.J b c,.J d h])->o a=some (.cells [.J b c,.J d h])
end Go.bA
namespace Go.Proofs.YtlgnfcaolejgeaaGreat
open Go Go.bA
def bt.vr {r x:U} (d:zH r x): ∀ {a:Nat}{b:a6.T a}{c:R},bt r a b c->bt x a b c
 |0,b,c,⟨h,y,k,eW,h1,o,p⟩=>⟨h,y,k,eW,h1,d _ _ _ _ _ o,p⟩
 |a+1,b,c,⟨h,z,k,eW,h1,o,p,C⟩=>⟨h,z,k,eW,h1,d _ _ _ _ _ o,p.mono λ_ _=>bt.vr d,C⟩
variable{e i v M c0 j0:Nat}
theorem a2r (r:List Int) (S:Own) (C:a6.T 0) (T:R) (o:U) (q:bt o 0 C T) (V:GT e 0 C) (Z:e<=8):
  AC Tryz.prog 95 [T,.J (ad r) S] o λy c=>o.sub c/\bt c 0 (a6.cM bx r 0 C) y:=by
 obtain⟨j9,k0,s,k1,rfl,W,G⟩:=q;obtain⟨d,rfl⟩:=a6.hZ C;rw[a6.qM]at G;have f:=V.ok;have t:=V.dH;rw[a6.kC]at f t;have k2:=G.len;show AC _ _ _ _ λy c=>o.sub c/\bt c 0 (a6.leaf (d.filter λa=>decide (a≠r))) y;refine AC.view (s:=λy c=> ∃a h k,y= .ptr a 0/\o a=none/\ar (o.set a (.cells [h,.J [] .nil])) c 1 k h/\az isRow (d.filter λa=>decide (a≠r)) k) ?_ ?_
 .have u:=U.af W;refine aO hm Bl ?_;refine bq λa z=> ?_;refine ch [0,1,5] (λb:Nat=> [(6,.v (.int .i64 (b:Int)))]) (λb c=>b<=d.length/\ ∃h k,ar (o.set a (.cells [h,.J [] .nil])) c 1 k h/\az isRow ((d.take b).filter λa=>decide (a≠r)) k) (λb=>d.length - b) 0 ⟨⟨a9p,_,[],ar.nil U.a1,trivial⟩,aU⟩ ?_;rintro b v ⟨k3,h,k,p,x⟩ k4;have k5:=x.len;have w:=p.1 _ _ (U.ah _ _ _);have u:=rd (U.aq (U.ae U.a1 z) p.1) W;have L:=U.af w;refine aa ?_;refine aH (λA=> ?_) λA=> ?_
  .obtain⟨_,k6,g,rfl⟩:=G.at [] (e:=b) a9p;have B:=eT (a:=d) (b:= []) (e:=b) a9p;have k7:=(f (d.getD b []) (by grind)).len;generalize d.getD b []=D at*;refine lX (nn D r g S v a9p) ?_;refine aH (λc2=> ?_) λc2=> ?_
   .have H:=a8f (λa=>decide (a≠r)) (d.take b);rw[a4L]at H;refine Xd p (λ_ i k8 P=> ?_) (C:=a9p);have k9:=U.aJ (P.1 _ _ (U.ah _ _ _));have l0:=fK P;have j:=jP (Y:= .cells [i,.J [] .nil]) P (U.ah o a (.cells [h,.J [] .nil]));rw[U.set_set]at j;refine aa ?_;exact⟨b+1,⟨a9p,i,_,j,by rw[B,a7R,a8L (by simpa using c2),a8O];exact x.snoc ⟨g,rfl⟩⟩,rfl,a9p⟩
   grind
  .rw[a4I a9p]at x;exact⟨_,U.a1,a,h,k,rfl,z,p,x⟩
 .rintro y c ⟨a,h,k,rfl,z,p,x⟩;have L:=p.1 _ _ (U.ah _ _ _);have l:=U.aq (U.ae U.a1 z) p.1;rcases p.2 with ⟨rfl,I⟩|⟨m,K,l1,M,rfl,E,N,O,Q,l2,l3,l4⟩
  .refine⟨_,c,View.refl,l,?_⟩;rcases I with rfl|rfl<;>exact⟨a,[],_,.nil,rfl,L,x⟩
  .have X:a≠m:=by rintro rfl;rw[U.ah]at E;cases E
   refine⟨_,_,View.obj (A:= []) (e1:= [.J [] .nil]) L N (by rw[O];omega) X,?_,a,_,.any,.nil,rfl,U.ah _ _ _,?_⟩
   .intro D s F;have n:D≠a:=by rintro rfl;rw[z]at F;cases F
    have Y:D≠m:=by rintro rfl;rw[U.an _ _ n,F]at E;cases E
    rw[U.an _ _ n,U.an _ _ Y];exact l _ _ F
   .rw[ky,show M.take K=k by rw[<-Q,a5t]];exact x
end Go.Proofs.YtlgnfcaolejgeaaGreat
