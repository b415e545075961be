import Derived.Test.YtlgnfcaolejgeaaGreatMG
import Derived.Test.YtlgnfcaolejgeaaGreatMF
import Derived.Test.YtlgnfcaolejgeaaGreatME
import Derived.Test.YtlgnfcaolejgeaaGreatMD
set_option linter.all false
set_option maxRecDepth 100000
namespace Go.Proofs.YtlgnfcaolejgeaaGreat
open Go Go.bB
def a1s (b:Int) (a:List Int) (d:R) (k:isRow a d) (c:U) (h:Nat) (r:c.read h=some [.v (.int .i64 b)]):
  AC Tryz.prog 181 [d,.ptr h 0] c λo p=>p=c/\o= .v (.bool (!decide ((a.length:Int)=b))):=by
 obtain⟨x,rfl⟩:=k;have y:=bI (q:=a);by_cases z:(a.length:Int)=b
 .refine aO hm Bq ?_
  repeat' first|refine aH (λ_=> ?_) λ_=> ?_|trivial
 .refine aO hm Bq ?_
  repeat' first|refine aH (λ_=> ?_) λ_=> ?_|trivial
theorem z6 (a:Nat) (c:List (List Int)) (h:List R) (r:Own) (d:U) (p:az isRow c h) (x:c.length<=1000000000000) (F:1<=a) (G:a<=8) (L: ∀b∈c,b.length=a):
  AC Tryz.prog 116 [.v (.int .i64 (a:Int)),.J h r] d λb k=>k=d/\b= .v (.bool true):=by
 have P:(1:Int)<=(a:Int):=a9r;have S:(a:Int)<=8:=a9r;refine aO hm MG ?_;refine br λo y=> ?_;have T:=U.ae (Y:= .cells [.v (.int .i64 (a:Int))]) (U.a1 (f:=d)) y;have c2:=U.ah d o (.cells [.v (.int .i64 (a:Int))]);refine ai (DD c h _ _ p (bT.J (p.cells λ_ _=>isRow.cells)) x (b4:=181) (g:= []) (A:= [.ptr o 0]) (h:=λb=> !decide ((b.length:Int)=(a:Int))) ⟨a9w,λz C k D E=>a1s a z C D k o (U.af (E _ _ c2))⟩) ?_;rintro _ _ ⟨rfl,rfl⟩;have:c.any (λb=> !decide ((b.length:Int)=(a:Int)))=false:=by simp_all
 rw[this];exact aU
def nD (b:Nat) (c:List Int) (d:ag) (a:ay):Except Int ay×ag:=jm b c (a.size.toNat+1) d a 0
def a1t (c:U) (k y:Nat) (z:ag) (D:bC c k y z) (a:ay) (o p r:Own) (E:a.sum.length=32) (n:a.cF) (v:a.size<=2000000) (d:List Int) (F:Own) (b:Nat) (G:1<=b) (L:b<=8) (P:d.length=b):
  AC Tryz.prog 84 [.ptr k 0,.agg (ab a o p r),.J (ad d) F,.v (.int .i64 (b:Int))] c λS q=>oK c q k y (nD b d z a) S:=by
 have w:=(aX (N:=o) (e5:=p) (h5:=r) E).all;refine aO hm LK ?_;refine br λT A=> ?_;refine db λV W B H=> ?_;refine u2 λs I _ _ _ _=> ?_;generalize x:((c.set T _).set V _).set s _=h;have e:c.sub h:=by subst x;exact aU
 have bp:h T=some (.cells (ab a o p r)):=by subst x;exact aU
 have bw:h V=some (.cells (ab aA .nil .nil .nil)):=by subst x;rw[<-ct];exact aU
 clear x;have t:=D.mono e;have C:=D.cH W;have K:=U.af bp;refine bk (z6 b [d] _ _ h ⟨⟨_,rfl⟩,trivial⟩ a9s G L (by simp[P])) ?_;refine ai (Fx k y b G L d F P (a.size.toNat+1) h z t a o p r 0 E n a9r a9r) ?_;rintro S M ⟨u,f,g⟩;obtain⟨N,i,j,l,O,m,rfl⟩:=g.shape;have Q:=U.aJ (f _ _ C.1 C.2 bw);have X:=(aX (N:=i) (e5:=j) (h5:=l) m).all;have Y:=(aX (N:= .nil) (e5:= .nil) (h5:= .nil) bl).len;have Z:=cG (a:= .nil) (b:= .nil) (c:= .nil) (N:=i) (e5:=j) (h5:=l) bl m;refine aa ?_;refine⟨_,U.a1,?_⟩;exact⟨u.set C,((Ext.of e).trans f).ec W,g⟩
variable{w j2:ay}{e i v M c0 j0:Nat}{H:ag}
theorem a1u {h:ag}{k:List Int×Bool}{b:ay} (a:dv H e (cm k j2 b)=(.ok w,h)):0<=w.live/\w.live<=3000000:=by
 unfold dv at a;split at a
 .cases (a6B a).1
 .rename_i p o;simp only[a5W,Except.ok.injEq]at a;obtain⟨rfl,_⟩:=a;have c:=ux o;have d:=v7 c.ok;have r:=qM (d j2 (by simp[cm]));have x:=qM (d b (by simp[cm]));rw[c.eq];grind[eW,eG,cm,ew,dQ]
variable{q b6:List Int}
theorem a1v: ∀ {k:Nat}{c a:ag}{d b:ay}{dep:Nat},gG e q k c d dep=(.ok b,a)-> ∃o p r x,dv o e (cm p r x)=(.ok b,a)
 |0,c,a,d,b,dep,h=>by rw[gG]at h;cases (a6B h).1
 |k+1,c,a,d,b,dep,h=>by
  grind[gG,Prod.mk.inj]
def iP (c:Nat) (h:List Int) (k:ag) (d:ay):Except Int ay×ag:=
 match gG c h (d.size.toNat+1) k d 0 with
 |(.error o,a)=>(.error o,a)
 |(.ok b,a)=>if 2*b.live<b.size then kR a c b 0 else(.ok b,a)
def a1w (h:U) (e o:Nat) (g:ag) (n:bC h e o g) (b:ay) (j k l:Own) (r:b.sum.length=32) (E:b.cF) (c:b.size<=2000000) (f:List Int) (q:Own) (a:Nat) (w:1<=a) (x:a<=8) (u:f.length=a):
  AC Tryz.prog 86 [.ptr e 0,.agg (ab b j k l),.J (ad f) q,.v (.int .i64 (a:Int))] h λy c=>z1 h c e o (iP a f g b) y:=by
 have c:=(aX (N:=j) (e5:=k) (h5:=l) r).all;refine aO hm LO ?_;refine br λd z=> ?_;refine db λm s c c=> ?_;refine u2 λc i _ _ _ _=> ?_;generalize i:((h.set d _).set m _).set c _=c;have t:h.sub c:=by subst i;exact aU
 have bp:c d=some (.cells (ab b j k l)):=by subst i;exact aU
 have bw:c m=some (.cells (ab aA .nil .nil .nil)):=by subst i;rw[<-ct];exact aU
 clear i;refine bk (z6 a [f] _ _ c ⟨⟨_,rfl⟩,trivial⟩ a9s w x (by simp[u])) ?_;refine aP λh i=> ?_;have B:d≠h:=by rintro rfl;rw[bp]at i;cases i
 have G:=B.symm;have C:m≠h:=by rintro rfl;rw[bw]at i;cases i
 have p:=C.symm;have F:=U.bG t i;have p:=U.af bp;refine aa ?_;have p:=U.ae (Y:= .cells [.ptr e 0,.v (.int .i64 (a:Int))]) (U.a1 (f:=c)) i;have D:=U.aq t p;have v:=p _ _ bp;have H:=p _ _ bw;have A:=U.ah c h (.cells [.ptr e 0,.v (.int .i64 (a:Int))]);generalize c.set h _=p at*;have I:=n.mono D;have c:=U.af v;have c:=U.af A;have t:=n.cH z;have i:=n.cH s;have c:=n.cH F;refine ai (Fz e o a w x f q u (b.size.toNat+1) p g I b j k l 0 r E a9r a9r) ?_;rintro y p ⟨u,n,E⟩;have q:=n _ _ t.1 t.2 v;have F:=n _ _ i.1 i.2 H;have H:=n _ _ c.1 c.2 A;have c:=U.aJ q;have c:=U.aJ F;have c:=(aX (N:= .nil) (e5:= .nil) (h5:= .nil) bl).len;have c:iP a f g b=match gG a f (b.size.toNat+1) g b 0 with
  |(.error A,q)=>(.error A,q)
  |(.ok v,q)=>if 2*v.live<v.size then kR q a v 0 else(.ok v,q):=rfl
 generalize iP a f g b=q at c|-;have q:d≠m:=a9u;have I:=q.symm;have B:d≠h:=a9u;have C:m≠h:=a9u;generalize K:gG a f (b.size.toNat+1) g b 0=b at*;obtain⟨p0,B⟩:=b;have C:=(Ext.of D).trans n;cases p0 with
 |error A=>
  obtain⟨q,D,f,g,n,b,rfl⟩:=E
  dsimp only at c u
  have v:=cG (a:=j) (b:=k) (c:=l) (N:=f) (e5:=g) (h5:=n) r b;have L:=cG (a:= .nil) (b:= .nil) (c:= .nil) (N:=f) (e5:=g) (h5:=n) bl b;have L:=(aX (N:=f) (e5:=g) (h5:=n) b).all;replace c:=c.symm;refine aa ?_;refine⟨_,U.a1,?_⟩;rw[<-c];exact⟨(u.set t).set i,(C.ec z).ec s,q,D,_,_,_,b,rfl⟩
 |ok n=>
  obtain⟨q,D,b,f,g,rfl⟩:=E
  dsimp only at c u
  obtain⟨_,_,_,_,E⟩:=a1v K;obtain⟨K,K⟩:=a1u E;have K:=(Fu E).2.2.2;have v:=cG (a:=j) (b:=k) (c:=l) (N:=b) (e5:=f) (h5:=g) r q;have j:=(aX (N:=b) (e5:=f) (h5:=g) q).all;replace c:=c.symm;refine aa ?_;have j:bC (p.set d (.cells (ab n b f g))) e o B:=u.set t;have l:=U.ah p d (.cells (ab n b f g));have k:(p.set d (.cells (ab n b f g))) m=some (.cells (ab aA .nil .nil .nil)):=by rw[U.an _ _ I];exact F
  have m:(p.set d (.cells (ab n b f g))) h=some (.cells [.ptr e 0,.v (.int .i64 (a:Int))]):=by rw[U.an _ _ G];exact H
  have h:=C.ec (Y:= .cells (ab n b f g)) z;generalize p.set d _=p at*;have d:=U.af l;have d:=U.af m;have r:=U.aJ k;refine aH (λd=> ?_) λd=> ?_
  .rw[if_pos d]at c;refine ai (Ft p e o B j n b f g q D a w x 0 a9r a9r) ?_;rintro y a ⟨p,a,e⟩;obtain⟨l,l,m,n,A,o,rfl⟩:=e.shape;have r:=U.aJ (a _ _ i.1 i.2 k);have k:=(aX (N:=l) (e5:=m) (h5:=n) o).all;have v:=cG (a:= .nil) (b:= .nil) (c:= .nil) (N:=l) (e5:=m) (h5:=n) bl o;refine aa ?_;refine⟨_,U.a1,?_⟩;rw[<-c];exact⟨p.set i,(h.trans a).ec s,e.x⟩
  .rw[if_neg d]at c;have v:=cG (a:= .nil) (b:= .nil) (c:= .nil) (N:=b) (e5:=f) (h5:=g) bl q;refine⟨_,U.a1,?_⟩;rw[<-c];exact⟨j.set i,h.ec s,q,D,_,_,_,rfl⟩
end Go.Proofs.YtlgnfcaolejgeaaGreat
namespace Go.bB
open Go
variable{n b3:R}{f t e7:U}{m:Program}
theorem a1x {p:Shelf.Ren} (C:Proofs.SlLaysF.n6 m p) (D:(∃r,n= .J [] r)\/ ∃x a h,n= .al x 0 a h):AC m (p.f 6) [n,b3] f λE F=>F=f/\E= .aL []:=by
 intro c G L k P;have o:=k.2 0 _ rfl;have S:c.size=2:=k.1;generalize T:c.getD 0 undef=V at o;generalize W:c.getD 1 undef=y;have e: ∃d a,V= .slice d 0 a:=by
  rcases D with ⟨r,rfl⟩|⟨x,a,h,rfl⟩
  .cases o with
   |dj n a dp k g=>exact⟨_,_,rfl⟩
   |J j off len a h l xs dp hk hlen q s t hH u g=>simp_all
  .cases o;exact⟨_,_,rfl⟩
 obtain⟨d,a,rfl⟩:=e;have aj:c= #[.slice d 0 a,y]:=by
  apply Array.ext
  .exact S
  .intro z b v
   match z,b with
   |0,b=>rw[<-T];simp[Array.getD,b]
   |1,b=>rw[<-W];simp[Array.getD,b]
   |z+2,b=>omega
 rw[aj];refine(Proofs.AnyF.slices_SortFunc_none {C with} d a y G).mono ?_;rintro w A ⟨rfl,rfl⟩;exact⟨_,.aL [],L,f,rfl,.refl P,.aL #[] [] rfl (λB H i=>by simp at i),rfl,rfl⟩
end Go.bB
namespace Go.Proofs.YtlgnfcaolejgeaaGreat
open Go Go.bB
def a1y (a b:List Int) (d h:Own) (c:U) (k:a.length<=1000000000000):AC Tryz.prog 119 [.J (ad a) d,.J (ad b) h] c λo p=>p=c/\o= .v (.int .i64 (fR a b)):=by
 refine aO hm MK ?_;refine bk (EG a b d h c k) ?_
 repeat' first|refine aH (λ_=> ?_) λ_=> ?_|trivial
theorem a1z (d:U) (o v:Nat) (g:ag) (A:bC d o v g) (a:ay) (h i j:Own) (w:a.sum.length=32) (B:a.cF) (f:a.size<=2000000) (b:Nat) (x:1<=b) (y:b<=8) (n:List (List Int)) (C: ∀c,en g b (a.size.toNat+1) a=some c->n.Perm c/\n.Pairwise λe s=> ¬fR s e<0):
  AC Tryz.prog 62 [.ptr o 0,.agg (ab a h i j),.v (.int .i64 (b:Int))] d λf k=>d.sub k/\match en g b (a.size.toNat+1) a with
   |none=>f= .aL [.J [] .nil,.v (.int .i64 21)]
   |some _=> ∃e,f= .aL [.J e .any,.v (.int .i64 0)]/\az isRow n e:=by
 have m:AC Tryz.prog 62 [.ptr o 0,.agg (ab a h i j),.v (.int .i64 (b:Int))] d λf k=>match en g b (a.size.toNat+1) a with
   |none=>d.sub k/\f= .aL [.J [] .nil,.v (.int .i64 21)]
   |some _=> ∃l e p,f= .aL [l,.v (.int .i64 0)]/\View k l p (.J e .any)/\d.sub p/\az isRow n e:= ?_
 .refine m.view λf k q=> ?_;cases m:en g b (a.size.toNat+1) a with
  |none=>grind[View.refl]
  |some c=>rw[m]at q;obtain⟨l,e,p,rfl,r,t,u⟩:=q;exact⟨_,_,View.aL (a:= []) r,t,e,rfl,u⟩
 have r:=(aX (N:=h) (e5:=i) (h5:=j) w).all;refine aO hm Lb ?_;refine br λz D=> ?_;have r:=U.ae (Y:= .cells (ab a h i j)) (U.a1 (f:=d)) D;have aM:=U.ah d z (.cells (ab a h i j));generalize d.set z _=d at*;have z:=U.af aM;refine bk (z6 b [] [] _ d trivial a9s x y a9s) ?_;refine ai (yY o v g b x y (a.size.toNat+1) d (A.mono r) a h i j w B a9r) ?_;rintro f p ⟨t,d⟩;cases m:en g b (a.size.toNat+1) a with
 |none=>rw[m]at d;obtain rfl:=d;refine aa ?_;exact U.aq r t
 |some c=>
  rw[m]at d;obtain⟨e,l,rfl,g,i⟩:=d;obtain⟨h,o⟩:=C c m;obtain⟨d,p⟩:=rb m;by_cases j:c= []
  .subst j;obtain rfl:e= []:=a4P i.len;obtain rfl:n= []:=h.eq_nil;have m:(∃d,l= .J [] d)\/ ∃c e a,l= .al c 0 e a:=by
    rcases g.2 with ⟨_,a|a⟩|⟨c,l,e,n,a,_,_,_,_,n,_⟩
    .exact .inl ⟨_,a⟩
    .exact .inl ⟨_,a⟩
    simp_all
   refine aa ?_;refine ai (a1x Tryz.EW m) ?_;rintro _ _ ⟨rfl,rfl⟩;refine aa ?_;obtain⟨l,a,a,m,a⟩:=View.dW g;have:dL 1 l ([]:List R)= []:=by rw[kz,a9e]
   rw[this]at a;exact⟨_,U.a1,_,_,_,rfl,a,U.aq r m,trivial⟩
  .obtain⟨s,e,rfl,l,l⟩:=Fq (f:=λ_=>none) (a1f b) g i p a9r j h o 119 [] (λb d g=>by cases g) (λs=> .inl rfl) a9w (λb i d j g g=>(a1y b i d j _ a9r).mono λf k q=>q.2);refine aa ?_;refine ai l ?_;rintro _ b ⟨rfl,u,_,b,b,b,d,_⟩;have f:=b.len;have f:=h.length_eq;have a:=View.Fp (e:=c.length) (c0:=e) (i:=1) d (by rw[a4L];omega);rw[kz,a6H a9r]at a;refine aa ?_;exact⟨_,U.a1,_,_,_,rfl,a,U.aq r u,b⟩
theorem a1A:cV ([],[]) ([],[])=(([],[]):List Int×List Int):=rfl
variable{e i v M c0 j0:Nat}
theorem FA {a:List Int×List Int} (b:hh e a):cV a ([],[])=a:=by have c:=lu.1 b.ok;have d:cU ([]:List Int) [] ([]:List Int).length=false:=rfl;unfold cV;rw[c.2.2.1,if_pos b.ok,if_neg (by rw[d];simp)]
def aD.rows:aD->List (List Int)
 | .nil=> []
 | .node a _ b c=>a::(b.rows++c.rows)
theorem aD.gH: ∀ {c:aD}{b:List Int},b∈c.all->b∈c.rows
 | .nil,b,a=>a
 | .node d live h k,b,a=>by
  simp only[aD.all,a5c]at a;simp only[aD.rows,a5k,a5c];rcases a with (a|a)|a
  .exact .inr (.inl (aD.gH a))
  .exact .inr (.inr (aD.gH a))
  .cases live<;>simp at a;exact .inl a
def aD.c9 (a:Nat) (b:aD):Prop:= ∀c∈b.rows,bO a c
def aD.c9.a {a:Nat}{c:List Int}{d:Bool}{b h:aD} (k:(aD.node c d b h).c9 a):b.c9 a:=λo p=>k o (by simp[aD.rows,p])
def aD.c9.b {a:Nat}{c:List Int}{d:Bool}{h b:aD} (k:(aD.node c d h b).c9 a):b.c9 a:=λo p=>k o (by simp[aD.rows,p])
def aD.c9.r {b:Nat}{a:List Int}{c:Bool}{d h:aD} (k:(aD.node a c d h).c9 b):bO b a:=k a (by simp[aD.rows])
variable{I:Bool}{a8:aD}{q b6:List Int}
def aD.c9.mk {b:aD} (d:bO e q) (h:a8.c9 e) (k:b.c9 e):(aD.node q I a8 b).c9 e:=λc a=>by
 simp only[aD.rows,a5k,a5c]at a;rcases a with rfl|a|a
 .exact d
 .exact h c a
 .exact k c a
theorem aD.c9.ok {b:Nat}: ∀ {c:aD},c.c9 b->c.Ok b
 | .nil,_=>trivial
 | .node _ _ _ _,a=>⟨a.r.len,a.a.ok,a.b.ok⟩
def bn:aD->ay
 | .nil=>aA
 | .node a live b c=>eW (cm (a,live) (bn b) (bn c))
structure jo (d:Nat) (t:aD) (k:ay):Prop where
 sum:k.sum.length=32
 live:k.live=(t.all.length:Int)
 size:k.size=(t.size:Int)
 aQ:(t.all.length=0/\k.aV= []/\k.aW= [])\/(0<t.all.length/\hh d (k.aV,k.aW))
 key:k.key= []
 z:t= .nil->k=aA
theorem jo.ok {c:Nat}{a:aD}{d:ay} (b:jo c a d) (y:a.size<=1048576):fp c d=true:=by
 have z:=b.size;have C:=b.live;have D:=lz a;unfold fp;cases a with
 |nil=>rw[decide_eq_true (b.z rfl),a9p]
 |node h k o p=>
  have E:1<=(aD.node h k o p).size:=by simp only[aD.size];omega
  generalize aD.node h k o p=a at*;rw[a6u];right;rw[a4M];refine⟨a9t,?_⟩;rcases b.aQ with ⟨x,r,F⟩|⟨x,r⟩;grind
  .rw[if_neg a9r];exact r.ok
variable{w j2:ay}
theorem jo.kL (a:jo e a8 w) (p:a8.size<=1048576):w.In e:=by
 have r:=a.size;have x:=a.live;have y:=lz a8;have b:cL w.aV/\cL w.aW/\w.aV.length<=e/\w.aW.length<=e:=by
  rcases a.aQ with ⟨h,c,z⟩|⟨h,c⟩;grind
  .have d:=lu.1 c.ok;have C:w.aV.length=e:=d.2.2.1;have D:w.aW.length=e:=d.2.2.2.1;exact⟨c.aV,c.aW,a9r,a9r⟩
 have k:cL w.key:=by rw[a.key];intro E o;cases o
 exact⟨a.sum,b.1,b.2.1,k,b.2.2.1,b.2.2.2,by rw[a.key];exact a5q _,a9r,a9r,a9r,a9r⟩
theorem z7 {a:gg} (d:mj i e a) (k:jo i a8 w):mj i (e+a8.all.length) (ew a w):=by
 have o:(ew a w).live=((e+a8.all.length:Nat):Int):=by show a.live+w.live= _;rw[d.live,k.live];push_cast;rfl
 refine⟨o,?_⟩;show(e+a8.all.length=0/\cV a.aQ (w.aV,w.aW)=([],[]))\/(0<e+a8.all.length/\hh i (cV a.aQ (w.aV,w.aW)));rcases k.aQ with ⟨p,b,r⟩|⟨p,b⟩
 .rw[b,r];rcases d.aQ with ⟨h,c⟩|⟨h,c⟩;grind[a1A];grind[FA]
 .right;refine⟨a9r,?_⟩;rcases d.aQ with ⟨h,c⟩|⟨h,c⟩
  .rw[c,pz b];exact b
  .exact y5 c b
def z8:jo e .nil aA:=⟨rfl,rfl,rfl,.inl ⟨rfl,rfl,rfl⟩,rfl,λ_=>rfl⟩
def va (C:1<=e) (D:e<=8) {a:aD} (k:bO e q) (b:jo e a8 w) (c:jo e a j2) (T:a8.size+a.size<1048576):
  (cm (q,I) w j2).In e/\jo e (.node q I a8 a) (eW (cm (q,I) w j2))/\fK e (cm (q,I) w j2)=some (eW (cm (q,I) w j2)):=by
 have p:dX e (cm (q,I) w j2)=true:=by unfold dX cm;simp[k.len,b.ok a9r,c.ok a9r,b.key,c.key]
 have r:=y6 C D k;have E:mj e (if I=true then 1 else 0) (dQ ⟨0,1,([],[])⟩ (q,I)):=by
  cases I with
  |false=>exact⟨rfl,.inl ⟨rfl,rfl⟩⟩
  |true=>refine⟨rfl,.inr ⟨a9v,?_⟩⟩;show hh e (cV ([],[]) (gu q));rw[pz r];exact r
 have o:=z7 (z7 E b) c;have x:eG (cm (q,I) w j2)=ew (ew (dQ ⟨0,1,([],[])⟩ (q,I)) w) j2:=rfl;have F:(aD.node q I a8 a).all.length=(if I=true then 1 else 0)+a8.all.length+a.all.length:=by simp only[aD.all,a4L];split<;>simp<;>omega
 rw[<-x,<-F]at o;have y:(eG (cm (q,I) w j2)).size=((aD.node q I a8 a).size:Int):=by
  rw[x];have d:(dQ ⟨0,1,([],[])⟩ (q,I)).size=1:=by cases I<;>rfl
  show(dQ ⟨0,1,([],[])⟩ (q,I)).size+w.size+j2.size= _;rw[d,b.size,c.size,aD.size];push_cast;rfl
 refine⟨⟨p,λG L=> ?_,λz P=> ?_⟩,⟨oh _,o.live,y,?_,?_,λS=>by cases S⟩,?_⟩
 .obtain rfl:G=(q,I):=by simpa[cm] using L
  exact k.jV
 .have:z=w\/z=j2:=by simpa[cm] using P
  rcases this with rfl|rfl
  .exact b.kL a9r
  .exact c.kL a9r
 .rcases o.aQ with ⟨d,h⟩|⟨d,h⟩
  .left;refine⟨d,?_,?_⟩
   .show(eG _).aQ.1= [];rw[h]
   .show(eG _).aQ.2= [];rw[h]
  .exact .inr ⟨d,h⟩
 .show keyOf (cm (q,I) w j2)= [];unfold keyOf cm;rfl
 .unfold fK;rw[if_pos p,if_neg (by rw[y];simp only[aD.size];omega)]
def fi {a:Nat} (c:1<=a) (d:a<=8): ∀ {b:aD},b.c9 a->b.size<=1048576->jo a b (bn b)
 | .nil,_,_=>z8
 | .node o live p r,h,k=>by
  simp only[aD.size]at k;exact(va c d h.r (fi c d h.a a9r) (fi c d h.b a9r) a9r).2.1
def ed (a:ag):aD->Prop
 | .nil=>True
 | .node d live b c=>a.m (eV (dc (cm (d,live) (bn b) (bn c))))=some (dc (cm (d,live) (bn b) (bn c)))/\ed a b/\ed a c
def ed.mono {c d:ag} (a:c.le d): ∀ {h:aD},ed c h->ed d h
 | .nil,_=>trivial
 | .node _ _ _ _,b=>⟨a.m _ _ b.1,b.2.1.mono a,b.2.2.mono a⟩
def za (c:1<=e) (d:e<=8) {a:aD} (h:(aD.node q I a8 a).c9 e) (k:(aD.node q I a8 a).size<=1048576):bn (.node q I a8 a)≠aA:=λo=>by
 have b:=(fi c d h k).size;rw[o]at b;have:(aA).size=0:=rfl;simp only[aD.size]at b;omega
variable{H:ag}
def tb (b:1<=e) (c:e<=8) {a:aD} (d:(aD.node q I a8 a).c9 e) (h:(aD.node q I a8 a).size<=1048576) (k:ed H (.node q I a8 a)):fq H e (bn (.node q I a8 a))=some (cm (q,I) (bn a8) (bn a)):=by have o:=h;simp only[aD.size]at o;obtain⟨p,x,r⟩:=va (I:=I) b c d.r (fi b c d.a a9r) (fi b c d.b a9r) a9r;unfold fq;rw[show H.m (bn (.node q I a8 a)).sum=some (dc (cm (q,I) (bn a8) (bn a)))from k.1];simp only;rw[D3 a9r p];simp only;rw[r];exact if_pos rfl
def vb (b:1<=e) (c:e<=8) {a:aD} (d:(aD.node q I a8 a).c9 e) (h:(aD.node q I a8 a).size<=1048576) (k:ed H (.node q I a8 a)):kM H e (bn (.node q I a8 a))=some ((q,I),[bn a8,bn a]):=by unfold kM;rw[tb b c d h k];rfl
theorem zb {b:Nat} (c:1<=b) (d:b<=8) {x:ag}: ∀ {a:aD}{z:Nat},a.c9 b->a.size<=1048576->ed x a->a.size<z-> ∃y,en x b z (bn a)=some y/\y.Perm a.all
 |a,0,_,_,_,C=>by omega
 | .nil,z+1,_,_,_,_=>⟨[],by rw[en];exact if_pos rfl,.refl _⟩
 | .node E live h k,z+1,o,p,r,C=>by
  have F:=fi c d o p;have G:=p;simp only[aD.size]at G C;rw[en];by_cases D:(bn (.node E live h k)).live=0
  .rw[if_pos D];have S:=F.live;simp_all
  .rw[if_neg D,vb c d o p r];obtain⟨T,L,V⟩:=zb c d (z:=z) o.a a9r r.2.1 a9r;obtain⟨W,P,e⟩:=zb c d (z:=z) o.b a9r r.2.2 a9r
   dsimp only
   rw[show [bn h,bn k].getD 0 aA=bn h from rfl,show [bn h,bn k].getD 1 aA=bn k from rfl,L,P];refine⟨_,rfl,?_⟩;grind[aD.all,List.append_assoc]
def FB (a:1<=e) (b:e<=8) (c:a8.c9 e) (d:a8.size<=1048576) (k:ed H a8): ∃h,en H e ((bn a8).size.toNat+1) (bn a8)=some h/\h.Perm a8.all:=by have o:=(fi a b c d).size;exact zb a b c d k a9r
structure gj (a:ag) (t:aD) (r:Except Int ay×ag):Prop where
 le:a.le r.2
 ins:r.2.one=false->r.1= .ok (bn t)/\ed r.2 t
def gj.bind {o:aD}{h:Except Int ay×ag}{k:ay->ag->Except Int ay×ag} (c:gj H a8 h) (p: ∀(b:ay) (a:ag),a.le (k b a).2) (y: ∀a,H.le a->a.one=false->ed a a8->gj a o (k (bn a8) a)):
  gj H o (match(generalizing:=false) h with
   |(.error r,a)=>(.error r,a)
   |(.ok b,a)=>k b a):=by
 obtain⟨z,a⟩:=h;cases z with
 |error r=>exact⟨c.le,λd=>by cases (c.ins d).1⟩
 |ok b=>refine⟨c.le.trans (p b a),λd=> ?_⟩;have x:=(p b a).zero d;obtain⟨C,D⟩:=c.ins x;obtain rfl:=Except.ok.inj C;exact(y a c.le x D).ins d
theorem vc (c:Nat): ∀(k:Nat) (d:ag) (b:List (List Int)) (dep:Nat),d.le (iO c k d b dep).2
 |0,d,_,_=>ag.le_refl
 |k+1,d,b,dep=>by
  rw[iO];split
  .exact ag.le_refl
  have h:=vc c k d ((dJ (dep%c) b).take (b.length/2)) (dep+1);split
  .rename_i a;rw[a]at h;exact h
  rename_i r p a;rw[a]at h;have o:=vc c k p ((dJ (dep%c) b).drop (b.length/2+1)) (dep+1);split
  .rename_i a;rw[a]at o;exact h.trans o
  rename_i x y a;rw[a]at o;exact(h.trans o).trans (jX)
theorem vd (a:ag) (b:Nat) (c:ay) (d:Nat):a.le (kR a b c d).2:=by grind[kR,ag.le_refl,vc]
theorem tc (b:ag) (d:Nat) (h:List Int×Bool) (k o:ay) (p:Nat):b.le (kS b d h k o p).2:=by
 unfold kS;have a:=jX (H:=b) (e:=d) (e0:=cm h k o);split
 .rename_i c;rw[c]at a;exact a
 rename_i c;rw[c]at a;split
 .exact a.trans (vd _ _ _ _)
 .exact a
def re (b:1<=e) (c:e<=8) {a:aD} (d:(aD.node q I a8 a).c9 e) (k:(aD.node q I a8 a).size<=1048576) (o:ed H a8) (p:ed H a):gj H (.node q I a8 a) (dv H e (cm (q,I) (bn a8) (bn a))):=by simp only[aD.size]at k;obtain⟨y,z,r⟩:=va (I:=I) b c d.r (fi b c d.a a9r) (fi b c d.b a9r) a9r;rw[oA r];have h:=lv H (dc (cm (q,I) (bn a8) (bn a)));exact⟨h,λx=>⟨rfl,qU x,o.mono h,p.mono h⟩⟩
theorem rf {h:Nat}: ∀ {k:Nat}{b:List (List Int)}{dep:Nat}{c:List Int},c∈(fD h k b dep).rows->c∈b
 |0,_,_,_,a=>by simp[fD,aD.rows]at a
 |k+1,b,dep,c,a=>by
  rw[fD]at a;by_cases d:b= []
  .rw[if_pos d]at a;simp[aD.rows]at a
  rw[if_neg d]at a;have o:0<b.length:=a5U.2 d;have p:=pC (dep%h) b;simp only[aD.rows,a5k,a5c]at a;rcases a with rfl|a|a
  .rw[a5u,a4J a9r];exact qZ.1 (a5o _)
  .exact qZ.1 (a5b (rf a))
  .exact qZ.1 (a5p (rf a))
def zc (b:Nat) (a:List (List Int)) (c:Nat) (d: ∀h∈a,bO e h):(fD e b a c).c9 e:=λk o=>d k (rf o)
theorem zd {b:Nat} (E:1<=b) (F:b<=8): ∀(d:Nat) (x:ag) (a h:List (List Int)) (dep:Nat),h.Perm a->(∀c∈a,bO b c)->a.length<=d->a.length<=1048576->gj x (fD b d a dep) (iO b d x h dep)
 |0,x,a,h,dep,_,_,_,_=>⟨ag.le_refl,λ_=>⟨rfl,trivial⟩⟩
 |d+1,x,a,h,dep,y,z,s,t=>by
  have T:=y.length_eq;by_cases D:a= []
  .subst D;obtain rfl:h= []:=y.eq_nil;rw[iO,if_pos rfl,fD,if_pos rfl];exact⟨ag.le_refl,λ_=>⟨rfl,trivial⟩⟩
  have V:h≠ []:=λW=>D (by subst W;exact y.symm.eq_nil);have u:0<a.length:=a5U.2 D;have e:dJ (dep%b) h=dJ (dep%b) a:=by obtain⟨G,f⟩:=ta (i:=b) (e:=dep%b) (O:=a) λo C=>(z o C).len;obtain⟨g,i⟩:=ta (i:=b) (e:=dep%b) (O:=h) λo C=>(z o (y.mem_iff.1 C)).len;exact yV (pK b _) (λo C=>(z o (G.mem_iff.1 C)).len) (g.trans (y.trans G.symm)) f i
  rw[iO,if_neg V,fD,if_neg D,e,T];have v:=pC (dep%b) a;have hm:=λo=>qZ (e:=dep%b) (O:=a) (q:=o);generalize dJ (dep%b) a=k at*;have L: ∀c∈k.take (a.length/2),bO b c:=λc p=>z c ((hm c).1 (a5b p));have P: ∀c∈k.drop (a.length/2+1),bO b c:=λc p=>z c ((hm c).1 (a5p p));have w:(k.take (a.length/2)).length=a.length/2:=by rw[a4N];omega
  have A:(k.drop (a.length/2+1)).length=a.length -(a.length/2+1):=by rw[a4X];omega
  have B:=r0 b d (k.take (a.length/2)) (dep+1);have H:=r0 b d (k.drop (a.length/2+1)) (dep+1);have j:bO b (k.getD (a.length/2) []):=by grind
  refine gj.bind (zd E F d x _ _ (dep+1) (.refl _) L a9r a9r) (λl S=> ?_) λm I K n=> ?_
  .have r:=vc b d S (k.drop (a.length/2+1)) (dep+1);split
   .rename_i p;rw[p]at r;exact r
   .rename_i p;rw[p]at r;exact r.trans (jX)
  .refine gj.bind (zd E F d m _ _ (dep+1) (.refl _) P a9r a9r) (λl S=>jX) λM r N q=> ?_;exact re E F (aD.c9.mk j (zc _ _ _ L) (zc _ _ _ P)) (by simp only[aD.size];omega) (n.mono r) q
def FC (b:1<=e) (c:e<=8) (d:a8.c9 e) (k:a8.size<=1048576) (o:ed H a8) (a:Nat):gj H (fD e a8.all.length a8.all a) (kR H e (bn a8) a):=by
 obtain⟨y,p,h⟩:=FB b c d k o;have z:=lz a8;unfold kR;rw[p]
 dsimp only
 rw[h.length_eq];exact zd b c _ H _ _ a h (λr x=>d r (aD.gH x)) (a5m _) a9r
theorem ze (c:1<=e) (d:e<=8) {a:aD} (b:(aD.node q I a8 a).c9 e) (k:(aD.node q I a8 a).size<=1048576) (x:ed H a8) (y:ed H a) (o:Nat):gj H (hE e (.node q I a8 a) o) (kS H e (q,I) (bn a8) (bn a) o):=by
 have z:=k;simp only[aD.size]at z;have E:=(fi c d b k).size;have F:=(fi c d b.a a9r).size;have G:=(fi c d b.b a9r).size;unfold kS;refine gj.bind (k:=λh p=>if(2*h.size).tdiv 3+1<max (bn a8).size (bn a).size then kR p e h o else(.ok h,p)) (re c d b k x y) (λh p=> ?_) λL P S C=> ?_;grind[vd,ag.le_refl]
 .have D:((2*(bn (.node q I a8 a)).size).tdiv 3+1<max (bn a8).size (bn a).size)↔max a8.size a.size>2*(aD.node q I a8 a).size/3+1:=by grind
  unfold hE
  dsimp only
  by_cases r:max a8.size a.size>2*(aD.node q I a8 a).size/3+1;simp_all [if_pos,FC]
  .rw[if_neg (λb=>r (D.1 b)),if_neg r];exact⟨ag.le_refl,λ_=>⟨rfl,C⟩⟩
theorem zf (a:q∈(hE e a8 i).rows):q∈a8.rows:=by unfold hE at a;grind[aD.gH,rf]
theorem td {h:Nat}{d:List Int}: ∀ {r:aD}{dep:Nat}{c:List Int},c∈(de h d r dep).1.rows->c=d\/c∈r.rows
 | .nil,dep,c,b=>by
  grind[de,aD.rows,List.mem_singleton]
 | .node k live o p,dep,c,b=>by
  rw[de]at b;split at b
  .have:=zf (a8:= .node k true o p) b;exact .inr this
  split at b
  .have a:=zf (a8:= .node k live (de h d o (dep+1)).1 p) b;simp only[aD.rows,a5k,a5c]at a|-;rcases a with a|a|a
   .exact .inr (.inl a)
   .exact(td a).imp_right λb=> .inr (.inl b)
   .exact .inr (.inr (.inr a))
  .have a:=zf (a8:= .node k live o (de h d p (dep+1)).1) b;simp only[aD.rows,a5k,a5c]at a|-;rcases a with a|a|a
   .exact .inr (.inl a)
   .exact .inr (.inr (.inl a))
   .exact(td a).imp_right λb=> .inr (.inr b)
def pM (b:bO e q) (c:a8.c9 e):(de e q a8 i).1.c9 e:=λd a=>by
 rcases td a with rfl|a
 .exact b
 .exact c d a
theorem zg {h:Nat}{k:List Int}: ∀(d:Nat) (c:ag) (o:ay) (dep:Nat),c.le (jm h k d c o dep).2
 |0,c,_,_=>ag.le_refl
 |d+1,c,o,dep=>by
  rw[jm];split
  .exact jX
  split
  .exact ag.le_refl
  rename_i r p x;split;grind[ag.le_refl,tc];split
  .have a:=zg (h:=h) (k:=k) d c (p.getD 0 aA) (dep+1);split
   .rename_i b;rw[b]at a;exact a
   .rename_i b;rw[b]at a;exact a.trans (tc _ _ _ _ _ _)
  .have a:=zg (h:=h) (k:=k) d c (p.getD 1 aA) (dep+1);split
   .rename_i b;rw[b]at a;exact a
   .rename_i b;rw[b]at a;exact a.trans (tc _ _ _ _ _ _)
def zh {h:Nat}{k:List Int}: ∀(d:Nat) (c:ag) (o:ay) (dep:Nat),c.le (gG h k d c o dep).2
 |0,c,_,_=>ag.le_refl
 |d+1,c,o,dep=>by
  rw[gG];split
  .exact ag.le_refl
  split
  .exact ag.le_refl
  rename_i r p x;split
  .split
   .exact jX
   .exact ag.le_refl
  split
  .have a:=zh (h:=h) (k:=k) d c (p.getD 0 aA) (dep+1);split
   .rename_i b;rw[b]at a;exact a
   .rename_i b;rw[b]at a;exact a.trans (jX)
  .have a:=zh (h:=h) (k:=k) d c (p.getD 1 aA) (dep+1);split
   .rename_i b;rw[b]at a;exact a
   .rename_i b;rw[b]at a;exact a.trans (jX)
theorem a1B (b:ag) (c:ay):b.le (iP e q b c).2:=by
 unfold iP;have a:=zh (h:=e) (k:=q) (c.size.toNat+1) b c 0;split
 .rename_i d;rw[d]at a;exact a
 rename_i d;rw[d]at a;split
 .exact a.trans (vd _ _ _ _)
 .exact a
def zi {b:Nat} (c:1<=b) (d:b<=8) {h:List Int} (D:bO b h): ∀(k:aD) (o:ag) (y dep:Nat),k.c9 b->k.size+1<=1048576->ed o k->k.size<y->(de b h k dep).2=true->gj o (de b h k dep).1 (jm b h y o (bn k) dep)
 |k,o,0,dep,_,_,_,S,_=>by omega
 | .nil,o,y+1,dep,_,_,_,_,_=>by
  rw[jm,if_pos (show bn .nil=aA from rfl),de];exact re (a8:= .nil) (a:= .nil) c d (aD.c9.mk D (λT G=>by cases G) (λT G=>by cases G)) (by simp[aD.size]) trivial trivial
 | .node F live z C,o,y+1,dep,a,V,p,S,r=>by
  have W:=V;simp only[aD.size]at W S;rw[jm,if_neg (za c d a a9r),vb c d a a9r p]
  dsimp only
  rw[show [bn z,bn C].getD 0 aA=bn z from rfl,show [bn z,bn C].getD 1 aA=bn C from rfl];rw[de]at r|-;by_cases x:F=h
  .simp only[if_pos x]at r|-;have e:live=false:=by cases live<;>simp at r|-
   rw[if_neg (by rw[e];simp)];exact ze c d (aD.c9.mk a.r a.a a.b) (by simp only[aD.size];omega) p.2.1 p.2.2 dep
  .by_cases c2:cO (dep%b) h F<0
   .simp only[if_neg x,if_pos c2]at r|-;have f:=pD b h z (dep+1);exact gj.bind (k:=λx E=>kS E b (F,live) x (bn C) dep) (zi c d D z o y (dep+1) a.a a9r p.2.1 a9r r) (λg E=>tc _ _ _ _ _ _) λi L j P=>ze c d (aD.c9.mk a.r (pM D a.a) a.b) (by simp only[aD.size];omega) P (p.2.2.mono L) dep
   .simp only[if_neg x,if_neg c2]at r|-;have f:=pD b h C (dep+1);exact gj.bind (k:=λx E=>kS E b (F,live) (bn z) x dep) (zi c d D C o y (dep+1) a.b a9r p.2.2 a9r r) (λg E=>tc _ _ _ _ _ _) λi L j P=>ze c d (aD.c9.mk a.r a.a (pM D a.b)) (by simp only[aD.size];omega) (p.2.1.mono L) P dep
def te {b:Nat}{c:List Int}: ∀ {a:aD}{dep:Nat},(cn b c a dep).1.rows=a.rows
 | .nil,dep=>rfl
 | .node d live h k,dep=>by
  rw[cn];split
  .rfl
  split
  .show _::(_++ _)= _::(_++ _);rw[te]
  .show _::(_++ _)= _::(_++ _);rw[te]
def tf (a:a8.c9 e):(cn e q a8 i).1.c9 e:=λb c=>a b (by rwa[te]at c)
def zj {b:Nat} (k:1<=b) (o:b<=8) {p:List Int}: ∀(d:aD) (h:ag) (y dep:Nat),d.c9 b->d.size<=1048576->ed h d->d.size<y->(cn b p d dep).2=true->gj h (cn b p d dep).1 (gG b p y h (bn d) dep)
 |d,h,0,dep,_,_,_,P,_=>by omega
 | .nil,h,y+1,dep,_,_,_,_,c=>by rw[cn]at c;cases c
 | .node E live z C,h,y+1,dep,a,F,r,P,c=>by
  have S:=F;simp only[aD.size]at S P;rw[gG,if_neg (za k o a F),vb k o a F r]
  dsimp only
  rw[show [bn z,bn C].getD 0 aA=bn z from rfl,show [bn z,bn C].getD 1 aA=bn C from rfl];rw[cn]at c|-;by_cases x:E=p
  .simp only[if_pos x]at c|-;rw[if_pos c];exact re k o (aD.c9.mk a.r a.a a.b) (by simp only[aD.size];omega) r.2.1 r.2.2
  .by_cases c2:cO (dep%b) p E<0
   .simp only[if_neg x,if_pos c2]at c|-;have T:=pE b p z (dep+1);exact gj.bind (k:=λx D=>dv D b (cm (E,live) x (bn C))) (zj k o z h y (dep+1) a.a a9r r.2.1 a9r c) (λV D=>jX) λW G e L=>re k o (aD.c9.mk a.r (tf a.a) a.b) (by simp only[aD.size];omega) L (r.2.2.mono G)
   .simp only[if_neg x,if_neg c2]at c|-;have T:=pE b p C (dep+1);exact gj.bind (k:=λx D=>dv D b (cm (E,live) (bn z) x)) (zj k o C h y (dep+1) a.b a9r r.2.2 a9r c) (λV D=>jX) λW G e L=>re k o (aD.c9.mk a.r a.a (tf a.b)) (by simp only[aD.size];omega) (r.2.1.mono G) L
theorem zk {b:Nat} (h:1<=b) (k:b<=8) {o:List Int}{y:ag}: ∀(a:aD) (c dep:Nat),a.c9 b->a.size<=1048576->ed y a->a.size<c->(cn b o a dep).2=false->gG b o c y (bn a) dep=(.error 9,y)
 |a,0,dep,_,_,_,D,_=>by omega
 | .nil,c+1,dep,_,_,_,_,d=>by rw[gG];exact if_pos rfl
 | .node E live p r,c+1,dep,x,z,C,D,d=>by
  have G:=z;simp only[aD.size]at G D;rw[gG,if_neg (za h k x z),vb h k x z C]
  dsimp only
  rw[show [bn p,bn r].getD 0 aA=bn p from rfl,show [bn p,bn r].getD 1 aA=bn r from rfl];rw[cn]at d;by_cases F:E=o;simp_all
  .by_cases c2:cO (dep%b) o E<0
   .simp only[if_neg F,if_pos c2]at d|-;rw[zk h k p c (dep+1) x.a a9r C.2.1 a9r d]
   .simp only[if_neg F,if_neg c2]at d|-;rw[zk h k r c (dep+1) x.b a9r C.2.2 a9r d]
def a1C (a:1<=e) (b:e<=8) (d:bO e q) (c:a8.c9 e) (h:a8.size+1<=1048576) (k:ed H a8) (o:(de e q a8 0).2=true):gj H (de e q a8 0).1 (nD e q H (bn a8)):=by have:=(fi a b c a9r).size;exact zi a b d a8 H _ 0 c h k a9r o
theorem FD (a:1<=e) (b:e<=8) (c:a8.c9 e) (d:a8.size<=1048576) (h:ed H a8) (k:(cn e q a8 0).2=false):iP e q H (bn a8)=(.error 9,H):=by have:=(fi a b c d).size;grind[iP,zk]
theorem a1D (b:1<=e) (c:e<=8) (a:a8.c9 e) (k:a8.size<=1048576) (z:ed H a8) (o:(cn e q a8 0).2=true):gj H (lA e q a8).1 (iP e q H (bn a8)):=by
 have C:=(fi b c a k).size;have D:=pE e q a8 0;have p:=tf (q:=q) (i:=0) a;have r:=fi b c p a9r;have E:=r.size;have F:=r.live;unfold iP;refine gj.bind (k:=λd h=>if 2*d.live<d.size then kR h e d 0 else(.ok d,h)) (zj b c a8 H _ 0 a k z a9r o) (λG h=> ?_) λL P S x=> ?_;grind[vd,ag.le_refl]
 .unfold lA;by_cases y:2*(cn e q a8 0).1.all.length<(cn e q a8 0).1.size
  .rw[if_pos (show(cn e q a8 0).2=true/\2*(cn e q a8 0).1.all.length<(cn e q a8 0).1.size from⟨o,y⟩),if_pos (show 2*(bn (cn e q a8 0).1).live<(bn (cn e q a8 0).1).size by omega)];exact FC b c p a9r x 0
  .rw[if_neg (show¬((cn e q a8 0).2=true/\2*(cn e q a8 0).1.all.length<(cn e q a8 0).1.size)from λa=>y a.2),if_neg (show¬2*(bn (cn e q a8 0).1).live<(bn (cn e q a8 0).1).size by omega)];exact⟨ag.le_refl,λ_=>⟨rfl,x⟩⟩
def aD.kT (a:Nat):aD->Nat->Prop
 | .nil,_=>True
 | .node c _ d h,dep=>(∀b∈d.rows,cO (dep%a) b c<0)/\(∀b∈h.rows,cO (dep%a) c b<0)/\d.kT a (dep+1)/\h.kT a (dep+1)
def aD.rh {c:Nat}: ∀ {k:aD}{dep:Nat},k.c9 c->k.kT c dep->k.all.Pairwise (·≠ ·)
 | .nil,_,_,_=> .nil
 | .node y live D E,dep,b,⟨h1,r,z,C⟩=>by
  have o:=pK c (dep%c);rw[aD.all];refine a5R.2 ⟨a5R.2 ⟨aD.rh b.a z,aD.rh b.b C,λd a x h p=> ?_⟩,by cases live<;>simp,λd a x h p=> ?_⟩
  .subst p;exact o.yU (b.a d (aD.gH a)).len b.r.len (h1 d (aD.gH a)) (r d (aD.gH h))
  .obtain rfl:x=y:=by cases live<;>simp at h;exact h
   subst p;rcases a5c.1 a with a|a
   .exact o.jg _ b.r.len (h1 _ (aD.gH a))
   .exact o.jg _ b.r.len (r _ (aD.gH a))
variable{O:List (List Int)}
theorem FE (a:e<O.length):O=O.take e++O.getD e []::O.drop (e+1):=by simp_all
theorem ve {c:Nat}: ∀(d:Nat) (a:List (List Int)) (dep:Nat),a.length<=d->(∀b∈a,b.length=c)->(fD c d a dep).all.Perm a
 |0,a,dep,x,_=>by
  obtain rfl:a= []:=a4P a9r;exact .refl _
 |d+1,a,dep,x,p=>by
  rw[fD];by_cases k:a= []
  .rw[if_pos k,k];exact .refl _
  rw[if_neg k];have y:0<a.length:=a5U.2 k;have r:=(ta (i:=c) (e:=dep%c) p).1;have z:=r.length_eq;have hm: ∀b∈dJ (dep%c) a,b.length=c:=λb h=>p b (r.mem_iff.1 h);generalize dJ (dep%c) a=o at*;have C:=FE (O:=o) (e:=a.length/2) a9r;have D:=ve d (o.take (a.length/2)) (dep+1) (by rw[a4N];omega) λb h=>hm b (a5b h);have E:=ve d (o.drop (a.length/2+1)) (dep+1) (by rw[a4X];omega) λb h=>hm b (a5p h);rw[aD.all,if_pos rfl];grind
def zl (a:a8.c9 e):(hE e a8 i).all.Perm a8.all:=by
 unfold hE;split
 .exact .refl _
 .split
  .exact ve _ _ _ (a5m _) λb c=>(a b (aD.gH c)).len
  .exact .refl _
theorem zm {d:Nat}{c:List Int} (h:bO d c): ∀ {k:aD}{dep:Nat},k.c9 d->(de d c k dep).2=true->(de d c k dep).1.all.Perm (c::k.all)
 | .nil,dep,_,_=> .refl _
 | .node p live x y,dep,a,b=>by
  rw[de]at b|-;by_cases o:p=c
  .simp only[if_pos o]at b|-;have r:live=false:=by cases live<;>simp at b|-
   refine(zl (aD.c9.mk a.r a.a a.b)).trans ?_;simp only[aD.all,if_pos,r,o];grind
  .by_cases c2:cO (dep%d) c p<0
   .simp only[if_neg o,if_pos c2]at b|-;refine(zl (aD.c9.mk a.r (pM h a.a) a.b)).trans ?_;exact((zm h a.a b).append_right _).append_right _
   .simp only[if_neg o,if_neg c2]at b|-;refine(zl (aD.c9.mk a.r a.a (pM h a.b))).trans ?_;refine(((zm h a.b b).append_left _).append_right _).trans ?_;exact a7t.append_right _
theorem zn {c:Nat}{b:List Int}: ∀ {d:aD}{dep:Nat},(de c b d dep).2=false->b∈d.all
 | .nil,dep,a=>by rw[de]at a;cases a
 | .node h live o p,dep,a=>by
  rw[de]at a;simp only[aD.all,a5c];by_cases k:h=b;simp_all
  .by_cases c2:cO (dep%c) b h<0
   .simp only[if_neg k,if_pos c2]at a;exact .inl (.inl (zn a))
   .simp only[if_neg k,if_neg c2]at a;exact .inl (.inr (zn a))
theorem vf {d:Nat}{b:List Int}: ∀ {h:aD}{dep:Nat},(cn d b h dep).2=true->h.all.Perm (b::(cn d b h dep).1.all)
 | .nil,dep,a=>by rw[cn]at a;cases a
 | .node k live o p,dep,a=>by
  rw[cn]at a|-;by_cases c:k=b
  .simp only[if_pos c]at a|-;simp only[aD.all,if_pos a,c];grind
  .by_cases c2:cO (dep%d) b k<0
   .simp only[if_neg c,if_pos c2]at a|-;exact((vf a).append_right _).append_right _
   .simp only[if_neg c,if_neg c2]at a|-;refine(((vf a).append_left _).append_right _).trans ?_;exact a7t.append_right _
theorem zo {b:Nat}{d:List Int} (k:d.length=b): ∀ {o:aD}{dep:Nat},o.c9 b->o.kT b dep->(cn b d o dep).2=false->d∉o.all
 | .nil,dep,_,_,_=>λh=>by cases h
 | .node r live E F,dep,h,⟨h1,y,C,D⟩,c=>by
  have x:=pK b (dep%b);intro a;rw[cn]at c;simp only[aD.all,a5c]at a;by_cases p:r=d
  .simp only[if_pos p]at c;subst p;rcases a with (a|a)|a
   .exact x.jg _ k (h1 _ (aD.gH a))
   .exact x.jg _ k (y _ (aD.gH a))
   .rw[c]at a;simp at a
  .have z:d∉(if live=true then [r]else []):=λh=>by
    simp_all
   by_cases c2:cO (dep%b) d r<0
   .simp only[if_neg p,if_pos c2]at c;rcases a with (a|a)|a
    .exact zo k h.a C c a
    .exact x.yU k h.r.len c2 (y _ (aD.gH a))
    .exact z a
   .simp only[if_neg p,if_neg c2]at c;rcases a with (a|a)|a
    .exact c2 (h1 _ (aD.gH a))
    .exact zo k h.b D c a
    .exact z a
def vg {a:Nat}: ∀(p:Nat) (c:List (List Int)) (dep:Nat),(∀b∈c,b.length=a)->c.Pairwise (·≠ ·)->(fD a p c dep).kT a dep
 |0,_,_,_,_=>trivial
 |p+1,c,dep,z,E=>by
  rw[fD];by_cases r:c= []
  .rw[if_pos r];trivial
  rw[if_neg r];have i:0<c.length:=a5U.2 r;obtain⟨x,F⟩:=ta (i:=a) (e:=dep%a) z;have j:=x.length_eq;have hm: ∀b∈dJ (dep%a) c,b.length=a:=λb d=>z b (x.mem_iff.1 d);have y:(dJ (dep%a) c).Pairwise (·≠ ·):=x.symm.pairwise E λh=>h.symm;have G:=pK a (dep%a);have C:(dJ (dep%a) c).Pairwise (λL P=>cO (dep%a) L P<0):=by
   refine a7S ?_ (F.and y);intro k b o d D;rcases G.r8 k b (hm k o) (hm b d)with h|h|h
   .exact h
   .exact absurd h D.2
   .exact absurd h D.1
  generalize dJ (dep%a) c=S at*;have T:=FE (O:=S) (e:=c.length/2) a9r;rw[T]at C y;obtain⟨l,V,W⟩:=a5R.1 C;obtain⟨e,m⟩:=a5t.1 V;obtain⟨f,g,_⟩:=a5R.1 y;refine⟨λk o=>W k (rf o) _ a9s,λk o=>e k (rf o),?_,?_⟩
  .exact vg p _ _ (λb d=>hm b (a5b d)) f
  .exact vg p _ _ (λb d=>hm b (a5p d)) (a5t.1 g).2
def zp (a:a8.c9 e) (b:a8.kT e i):(hE e a8 i).kT e i:=by
 unfold hE;split
 .trivial
 .split
  .exact vg _ _ _ (λc d=>(a c (aD.gH d)).len) (aD.rh a b)
  .exact b
def zq {c:Nat}{k:List Int} (h:bO c k): ∀ {r:aD}{dep:Nat},r.c9 c->r.kT c dep->(de c k r dep).1.kT c dep
 | .nil,dep,_,_=>⟨λd b=>(by cases b),λd b=>(by cases b),trivial,trivial⟩
 | .node o live C D,dep,a,⟨h1,x,y,z⟩=>by
  have E:=pK c (dep%c);rw[de];by_cases p:o=k
  .simp only[if_pos p];exact zp (a8:= .node o true C D) (aD.c9.mk a.r a.a a.b) ⟨h1,x,y,z⟩
  .by_cases c2:cO (dep%c) k o<0
   .simp only[if_neg p,if_pos c2];refine zp (aD.c9.mk a.r (pM h a.a) a.b) ⟨λd b=> ?_,x,zq h a.a y,z⟩;rcases td b with rfl|b
    .exact c2
    .exact h1 d b
   .simp only[if_neg p,if_neg c2];refine zp (aD.c9.mk a.r a.a (pM h a.b)) ⟨h1,λd b=> ?_,y,zq h a.b z⟩;rcases td b with rfl|b
    .rcases E.r8 d o h.len a.r.len with a|a|a
     .exact absurd a c2
     .exact absurd a.symm p
     .exact a
    .exact x d b
def zr {a:Nat}{k:List Int}: ∀ {h:aD}{dep:Nat},h.kT a dep->(cn a k h dep).1.kT a dep
 | .nil,dep,_=>trivial
 | .node o live p r,dep,⟨h1,b,c,d⟩=>by
  rw[cn];split
  .exact⟨h1,b,c,d⟩
  split
  .exact⟨by rw[te];exact h1,b,zr c,d⟩
  .exact⟨h1,by rw[te];exact b,c,zr d⟩
structure lE (d n:Nat) (t:aD):Prop where
 fj:t.c9 d
 vh:t.kT d 0
 cr:t.size<=n
theorem lE.nil {a n:Nat}:lE a n .nil:=⟨λc b=>(by cases b),trivial,a5q _⟩
def lE.ins (a:lE e i a8) (b:bO e q):lE e (i+1) (de e q a8 0).1:=⟨pM b a.fj,zq b a.fj a.vh,by have:=pD e q a8 0;have:=a.cr;omega⟩
theorem lE.del (b:lE e i a8):lE e i (lA e q a8).1:=by
 have a:=tf (q:=q) (i:=0) b.fj;have c:=zr (k:=q) b.vh;have p:=pE e q a8 0;have r:=lz (cn e q a8 0).1;have x:=b.cr;unfold lA;split
 .refine⟨zc _ _ _ λd h=>a d (aD.gH h),vg _ _ _ (λk o=>(a k (aD.gH o)).len) (aD.rh a c),?_⟩;grind[r0,cn]
 .exact⟨a,c,a9r⟩
def a1E (a:lE e i a8) (b:(cn e q a8 0).2=true):a8.all.Perm (q::(lA e q a8).1.all):=by
 have c:=tf (q:=q) (i:=0) a.fj;refine(vf b).trans (.cons _ ?_);unfold lA;split
 .exact(ve _ _ _ (a5m _) λd h=>(c d (aD.gH h)).len).symm
 .exact .refl _
structure nE (c:U) (x:R) (b:List UInt8):Prop where
 one:x.cells= [x]
 len:fg x=some (.v (.int .i64 b.length))
 src: ∀a,c.sub a->o5 a x b
variable{n b3:R}{f t e7:U}{B:List UInt8}
theorem nE.al (a:fy t f B n):nE f n B:=by obtain⟨h,b,k,c⟩:=a.src;simp only[a4V,a5v]at b;subst b;refine⟨?_,c,λo d=>fy.lZ (a.mono d)⟩;rcases a.2 with ⟨_,rfl|rfl⟩|⟨_,_,_,_,rfl,_⟩<;>rfl
def nE.mono (a:nE f n B) (b:f.sub t):nE t n B:=⟨a.one,a.len,λd c=>a.src _ (U.aq b c)⟩
def a1F (c:UInt8) (b:List UInt8) (d:R) (h:Nat) (a:U) (k:nE a d b) (y:b.length<=900000) (p:a h=some (.cells [d])):
  AC Tryz.prog 192 [.v (.int .u8 (c.toNat:Int)),.al h 1 1 1] a λr x=>fy a x (preB c [b]) r:=
 a0r c [(d,b)] h a p (λz o=>by rw[a4Z]at o;subst o;exact .inr ⟨k.src _ U.a1,k.len⟩) (by simp[preB,chunk,cK];omega)
theorem a1G (b:B.length=32) (a:R):(cM B).cells.length=32/\putAt (List.replicate 32 a) 0 (cM B).cells=(cM B).cells/\(.agg ((cM B).cells.take 32):R)=cM B:=by grind[cM,R.cells,putAt,List.take_of_length_le]
def a1H (b:List UInt8) (a:R) (c:U) (k:nE c a b) (y:b.length<=900000):
  AC Tryz.prog 177 [a] c λo z=>z=c/\o=cM (eV b):=by
 have p:=k.one;refine aO hm OA ?_;refine br λC D=> ?_;refine eT (by simp[aN,p]) a9s λE F=> ?_;rw[show flat [a]= [a] by simp[flat,p]];have r:=U.ae (Y:= .cells (List.replicate 32 (.v (.int .u8 0)))) (U.a1 (f:=c)) D;have d:=U.ae (Y:= .cells [a]) (U.a1 (f:=c.set C (.cells (List.replicate 32 (.v (.int .u8 0)))))) F;refine aa ?_;refine hS (a1F 80 b a E _ (k.mono (U.aq r d)) y (U.ah _ _ _)) λo G h=> ?_;have x:=nE.al h;have L:=U.aJ (h.sub _ _ (d _ _ (U.ah _ _ _)));have P:=a1G (sl (preB 80 [b])) (.v (.int .u8 0));refine bk (a0o _ (by simp[preB,chunk,cK];omega) _ _ (x.src _ U.a1) x.len) ?_;exact⟨U.aq (U.aq r d) h.sub,rfl⟩
theorem FF (c b:List Int) (p r:Own) (d:Nat) (k:U) (D:d<=1000000):
  AC Tryz.prog 41 [ey c b p r,.v (.int .i64 (d:Int))] k λx y=>y=k/\x= .v (.bool (cU c b d)):=by
 have E:=bI (q:=c);have F:=bI (q:=b);have G:= @dP c;have L:= @dP b;refine aO hm KB ?_;refine br λP S=> ?_
 repeat' first|refine aH (λ_=> ?_) λ_=> ?_|trivial
 all_goals try (rw[cU];exact aQ)
 refine gP [1,2] (λa:Nat=> [(5,.v (.int .i64 a))]) (λa=>a<=d/\ ∀h<a,decide (c.getD h 0<=b.getD h 0)=true) (λa=>d - a) 0 ⟨a9r,λh z=>by omega⟩ aU ?_;rintro a ⟨b,o⟩ T;refine aa ?_;refine aH (λC=> ?_) λC=> ?_
 .repeat' first|refine aH (λ_=> ?_) λ_=> ?_|trivial
  grind[cU,sg,decide_eq_false_iff_not,aQ]
  .exact⟨a+1,⟨a9r,upto o (by simp only[decide_eq_true_eq];omega)⟩,rfl,a9r⟩
 .rw[cU,sh λh z=>o h a9r];exact aQ
def bZ:List UInt8->List UInt8->Bool
 | _,[]=>false
 | [],_:: _=>true
 |a::c,b::d=>if a=b then bZ c d else decide (a<b)
theorem a1I: ∀b a:List UInt8,Op.bytesLess b a=bZ b a:=by
 intro b
 induction b with
 |nil=>intro a;cases a<;>simp[Op.bytesLess,bZ]
 |cons c b ih=>
  intro a;cases a with
  |nil=>simp[Op.bytesLess,bZ]
  |cons d a=>simp only[Op.bytesLess,bZ,ih];split<;>simp_all
theorem zs (a:List UInt8):bZ a a=false:=by induction a<;>simp_all [bZ]
theorem FG: ∀b a:List UInt8,bZ b a=false->bZ a b=false->b=a:=by
 intro b
 induction b with
 |nil=>intro a;cases a<;>simp[bZ]
 |cons c b ih=>
  intro a;cases a with
  |nil=>simp[bZ]
  |cons d a=>simp only[bZ];grind
theorem vi: ∀c a b:List UInt8,bZ c a=true->bZ a b=true->bZ c b=true:=by
 intro c
 induction c with
 |nil=>intro a b;cases a<;>cases b<;>simp[bZ]
 |cons d c ih=>
  intro a b;cases a with
  |nil=>simp[bZ]
  |cons h a=>
   cases b with
   |nil=>simp[bZ]
   |cons k b=>simp only[bZ];grind
theorem vj (a b:List UInt8):jb .lss (bd a) (bd b)=some (.v (.bool (bZ a b)))/\jb .geq (bd a) (bd b)=some (.v (.bool (!bZ a b)))/\
  jb .leq (bd a) (bd b)=some (.v (.bool (bZ a b||decide (a=b))))/\jb .gtr (bd a) (bd b)=some (.v (.bool (!(bZ a b||decide (a=b))))):=by
 grind[decide,bd,rZ,bo,q0,toList_mk,a1I]
variable{g A e1:List R}{e6:aK}
def eu.at_ (C:eu e6 g): ∃D E,aY false 1 (g.drop 36)= .v (.int .i64 e6.bL.live)/\aY false 1 (g.drop 38)= .J (ad e6.bL.key) D/\aY false 1 (g.drop 73)= .v (.int .i64 e6.ck.live)/\aY false 1 (g.drop 74)= .v (.int .i64 e6.ck.size)/\aY false 1 (g.drop 75)= .J (ad e6.ck.key) E:=by
 obtain⟨⟨y,o,p,c,d,h,b,rfl⟩,⟨F,_⟩,⟨G,_⟩,_⟩:=C;have k:=aX (N:=o) (e5:=p) (h5:=c) F;have r:=aX (N:=d) (e5:=h) (h5:=b) G;have z: ∀a,a<=37->(bd e6.name:: .J (bF e6.aC) y::(ab e6.bL o p c++ab e6.ck d h b)).drop (a+2)=(ab e6.bL o p c).drop a++ab e6.ck d h b:=λa L=>by
  simp only[a6e];rw[a6k (by have:=k.len;omega)]
 have x: ∀a,(bd e6.name:: .J (bF e6.aC) y::(ab e6.bL o p c++ab e6.ck d h b)).drop (a+37+2)=(ab e6.ck d h b).drop a:=λa=>by
  simp only[a6e];rw[a6m,a5V (by rw[k.len];omega),k.len,a5d];congr 1
 refine⟨c,b,?_,?_,?_,?_,?_⟩
 .rw[z 34 a9r,k.d34];rfl
 .rw[z 36 a9r,k.d36];rfl
 .rw[x 34,r.d34];rfl
 .rw[x 35,r.d35];rfl
 .rw[x 36,r.d36];rfl
def fU (a:aK):Bool:=eb ⟨1,a.name,a.aC,[]⟩&&(fp (a.aC.length+1) a.bL&&(fp (a.aC.length+1) a.ck&&(decide (a.bL.live=a.ck.live)&&(decide (a.bL.key.length=0)&&
 (decide (a.ck=aA)||(decide (a.ck.key.length=a.aC.length+1)&&decide (a.ck.size=a.ck.live)))))))
structure aK.Fit (t:aK):Prop where
 n:t.name.length<=1000000
 c:t.aC.length<=1000000
 cs: ∀c∈t.aC,c.length<=1000000
def tg (a:aK) (b:List R) (c:eu a b) (d:U):AC Tryz.prog 39 [.agg b] d λh k=>k=d/\h= .v (.int .i64 ((a.aC.length+1:Nat):Int)):=by obtain⟨o,p,r,x,y,z,C,D,E,F,G,L,P⟩:=c.all;have S:=hD (a:=a.aC);have T:=c.c;refine aO hm Kx ?_;refine br λV W=> ?_;trivial
theorem ri (a:aK) (c:List R) (b:eu a c) (o:a.Fit) (d:U):AC Tryz.prog 147 [.agg c] d λp r=>r=d/\p= .v (.bool (fU a)):=by
 obtain⟨W,e,f,x,y,z,C,D,E,F,g,i,j⟩:=b.all;obtain⟨l,m,n,q,s,t,u⟩:=b.at_;have v:=hD (a:=a.aC);have w:=bI (q:=a.bL.key);have A:=bI (q:=a.ck.key);obtain⟨G,L,P⟩:=o;have B: ∀h,fp h aA=true:=λh=>by simp[fp]
 refine aO hm Ny ?_;refine br λk H=> ?_;refine bk (tg a c b _) ?_;refine bk (EN ⟨⟨1,a.name,a.aC,[]⟩,x,.nil⟩ ⟨G,L,P,a9s⟩ _) ?_;have S:=xu a.bL y z C (a.aC.length+1) (d.set k (.cells c)) a9r b.k.1 b.k.2;have T:=xu a.ck D E F (a.aC.length+1) (d.set k (.cells c)) a9r b.z.1 b.z.2;refine aH (λV=> ?_) λV=> ?_
 .rw[fU];exact aQ
 refine bk S ?_
 repeat' first|refine aH (λ_=> ?_) λ_=> ?_|trivial
 all_goals try (rw[fU];exact aQ)
 .refine bk T ?_
  repeat' first|refine aH (λ_=> ?_) λ_=> ?_|trivial
  all_goals try (rw[fU];exact aQ)
  all_goals refine bk (nh _ _ _ _ _ b.z.1 b.z.2) ?_
  all_goals repeat' first|refine aH (λ_=> ?_) λ_=> ?_|trivial
  all_goals grind[fU,aQ,bg]
def cB (a:List aK):Bool:=(List.range a.length).all (λb=>fU (a.getD b default)&&(decide (b=0)||bZ (a.getD (b - 1) default).name (a.getD b default).name))&&decide (a.length<=8)
theorem nF (a:List aK) (b:List R) (c:Own) (i:az dE a b) (h: ∀d∈a,d.Fit) (f:a.length<=1000000) (e:U):AC Tryz.prog 102 [.J b c] e λb c=>c=e/\b= .v (.bool (cB a)):=by
 have b:=i.len;refine aO hm Mf ?_;refine cj [0,5,6] (λb:Nat=> [(7,.v (.int .i64 b))]) (λb c=>e.sub c/\b<=a.length/\ ∀c<b,(fU (a.getD c default)&&(decide (c=0)||bZ (a.getD (c - 1) default).name (a.getD c default).name))=true) (λb=>a.length - b) 0 ⟨⟨U.a1,a9r,λc j=>by omega⟩,aU⟩ ?_;rintro b k ⟨l,f,n⟩ f;refine aa ?_;refine aH (λf=> ?_) λf=> ?_
 .have g:a[b]? =some (a.getD b default):=by simp_all
  obtain⟨_,f,T,rfl,f⟩:=i.get g;have m:=h _ (a4Q g);generalize o:a.getD b default=d at*;have g:=ix (e:=76) (n:= .agg T) f.all.1;obtain⟨g,g,g,g,g,g,g,g,g,g,g,g,g⟩:=f.all;obtain⟨g,h⟩: ∃g,g=(fU d&&(decide (b=0)||bZ (a.getD (b - 1) default).name d.name)):=⟨_,rfl⟩;have p:g=false->cB a=false:=λj=>by
   grind[cB,sg]
  have p:g=true-> ∃g,(g<=a.length/\ ∀c<g,(fU (a.getD c default)&&(decide (c=0)||bZ (a.getD (c - 1) default).name (a.getD c default).name))=true)/\R.v (.int .i64 ((b:Int)+1))= .v (.int .i64 (g:Int))/\a.length - g<a.length - b:=λj=>
   ⟨b+1,⟨a9r,upto n (by rw[o,<-h];exact j)⟩,rfl,a9r⟩
  have c: ∀c g,k c=none->e.sub (k.set c g):=λc g e=>U.ae l (U.bG l e);by_cases g:b=0
  .subst g;simp only[decide_true,a9p,a8u]at h;subst h;refine aa ?_;refine br λc e=> ?_;refine bk (ri d T f m _) ?_
   repeat' first|refine aH (λ_=> ?_) λ_=> ?_|trivial
   simp_all
  .have k:a[b - 1]? =some (a.getD (b - 1) default):=by grind
   obtain⟨_,j,l,rfl,j⟩:=i.get k;generalize a.getD (b - 1) default=a at*;have i:=ix (e:=76) (n:= .agg l) j.all.1;obtain⟨i,i,i,_⟩:=j.all;have i:(b:Int) - 1=((b - 1:Nat):Int):=a9r;have b:=(vj a.name d.name).2.1;simp only[decide_eq_false g,a8v]at h;refine aa ?_;refine br λc e=> ?_;refine bk (ri d T f m _) ?_
   repeat' first|refine aH (λ_=> ?_) λ_=> ?_|trivial
   all_goals simp_all
 grind[cB,sh,aQ]
def nG (a b:List UInt8):Int:=if bZ a b=true then -1 else if a=b then 0 else 1
def FH (b:List UInt8) (a:U):AC Tryz.prog 334 [bd b] a λc d=>d=a/\c= .v (.bool false):=by
 have k:=λh v=> @wZ h v;refine aO hm Sc ?_
 first|trivial|exact aQ
theorem a1J (a b:List UInt8) (c:U):AC Tryz.prog 297 [bd a,bd b] c λh k=>k=c/\h= .v (.int .i64 (nG a b)):=by
 obtain⟨p,r,x,y⟩:=vj a b;refine aO hm Rw ?_;refine bk (FH a c) ?_;refine bk (FH b c) ?_;refine aH (λd=> ?_) λd=> ?_
 .rw[nG,if_pos d]
 .refine aH (λo=> ?_) λo=> ?_;simp_all [nG,if_neg];simp_all [nG,if_neg,if_pos]
def a1K (a:aK) (b:List R) (d:eu a b) (c:U):AC Tryz.prog 227 [.agg b] c λh k=>k=c/\h=bd a.name:=by obtain⟨o,p,r,_⟩:=d.all;refine aO hm PV ?_;refine br λx y=> ?_;trivial
def FI (a:aK) (b:List R) (h:eu a b) (k:List UInt8) (c:U) (d:Nat) (o:c.read d=some [.bH 227 [] []]):AC Tryz.prog 296 [.agg b,bd k,.ptr d 0] c λp r=>r=c/\p= .v (.int .i64 (nG a.name k)):=by
 obtain⟨z,C,_⟩:=h.all;refine aO hm Ru ?_;refine aP λx y=> ?_;have D:d≠x:=by rintro rfl;simp[U.read,y]at o
 refine aa ?_;refine ma (a1K a b h _) ?_;refine bk (a1J _ _ _) ?_;trivial
def Place (a:List aK) (d:List UInt8) (c:Nat):Prop:=c<=a.length/\(∀b<c,bZ (a.getD b default).name d=true)/\ ∀b<a.length,c<=b->bZ (a.getD b default).name d=false
theorem FJ {a:List UInt8}:nG B a<0↔bZ B a=true:=by grind[nG]
theorem a1L {a:List UInt8}:nG B a=0↔B=a:=by
 unfold nG;split
 .rename_i b;simp;rintro rfl;rw[zs]at b;cases b
 .split<;>simp_all
theorem a1M (c:List aK) (z:List R) (V:Own) (d:List UInt8) (G:az dE c z) (u:c.length<=1000000) (W: ∀a b,a<b->b<c.length->bZ (c.getD a default).name (c.getD b default).name=true) (p:U) (r:Nat) (L:p.read r=some [.bH 227 [] []]):
  AC Tryz.prog 295 [.J z V,bd d,.bH 296 [] [.ptr r 0]] p λe f=>f=p/\ ∃a,Place c d a/\e= .aL [.v (.int .i64 (a:Int)),.v (.bool (decide (a<c.length)&&decide ((c.getD a default).name=d)))]:=by
 have v:=G.len;have el: ∀a,a<c.length-> ∃T,z[a]? =some (.agg T)/\eu (c.getD a default) T/\eD 76 (some (.agg T))=some (.bW T)/\T.length=76/\T.take 76=T:=λa x=>by
  obtain⟨_,g,T,rfl,k⟩:=G.get (i:=a) (x:=c.getD a default) (by simp[List.getD,x]);exact⟨T,g,k,ix (e:=76) (n:= .agg T) k.all.1,k.all.1,k.all.2.1⟩
 have i: ∀a,a<c.length->bZ (c.getD a default).name d=true-> ∀b,b<a+1->bZ (c.getD b default).name d=true:=λa x o b P=>by
  rcases Nat.lt_or_eq_of_le (Nat.le_of_lt_succ P)with C|rfl
  .exact vi _ _ _ (W b a C x) o
  .exact o
 have j: ∀a,a<c.length->bZ (c.getD a default).name d=false-> ∀b,b<c.length->a<=b->bZ (c.getD b default).name d=false:=λa x o b P w=>by
  grind
 refine aO hm Rs ?_;refine gP [0,1,2,8] (λh:Nat×Nat=> [(9,.v (.int .i64 h.1)),(10,.v (.int .i64 h.2))]) (λh=>h.1<=h.2/\h.2<=c.length/\(∀b<h.1,bZ (c.getD b default).name d=true)/\ ∀b<c.length,h.2<=b->bZ (c.getD b default).name d=false) (λh=>h.2 - h.1) (0,c.length) ⟨a9s,a9s,λb o=>by simp at o,λb o y=>by simp at y;omega⟩ aU ?_;rintro⟨a,b⟩ ⟨C,y,D,E⟩ A
 dsimp only at C y D E|-
 have B:bo .shr (.int .u64 ((a:Int)+(b:Int))) (.int .u64 1)=some (.int .u64 (((a+b)/2:Nat):Int)):=by rw[show(a:Int)+(b:Int)=((a+b:Nat):Int) by omega,s4 _ _ _ a9r a9r];simp[a5E]
 by_cases H:(a:Int)<b
 .obtain⟨T,l,k,m,n,q⟩:=el ((a+b)/2) a9r;have s:=i ((a+b)/2) a9r;have t:=j ((a+b)/2) a9r;generalize I:(a+b)/2=S at*;refine aa ?_;refine ma (FI _ T k d p r L) ?_;refine aH (λF=> ?_) λF=> ?_
  .exact⟨(S+1,b),⟨by simp only;omega,by simp only;omega,s (FJ.1 F),E⟩,⟨rfl,rfl⟩,by simp only;omega⟩
  .exact⟨(a,S),⟨by simp only;omega,by simp only;omega,D,t (by simpa[FJ] using F)⟩,⟨rfl,rfl⟩,by simp only;omega⟩
 .obtain rfl:a=b:=a9r;have K:Place c d a:=⟨y,D,E⟩;by_cases c2:(a:Int)<c.length
  .obtain⟨T,l,k,m,n,q⟩:=el a a9r;refine aa ?_;refine ma (FI _ T k d p r L) ?_;grind[a1L]
  .refine aa ?_;grind
def a1N (b:List aK) (d:List R) (x:Own) (c:List UInt8) (y:az dE b d) (z:b.length<=1000000) (C: ∀a h,a<h->h<b.length->bZ (b.getD a default).name (b.getD h default).name=true) (k:U):
  AC Tryz.prog 148 [.J d x,bd c] k λo p=>p=k/\ ∃a,Place b c a/\o= .aL [.v (.int .i64 (a:Int)),.v (.bool (decide (a<b.length)&&decide ((b.getD a default).name=c)))]:=by
 refine aO hm NA ?_;refine ai (a7:=λo p=>p=k/\ ∃a,Place b c a/\o= .aL [.v (.int .i64 (a:Int)),.v (.bool (decide (a<b.length)&&decide ((b.getD a default).name=c)))]) ?_ ?_
 .refine aO hm PT ?_;refine br λD E=> ?_;refine ai (a1M b d x c y z C _ D (U.BA)) ?_;rintro _ _ ⟨rfl,a,r,rfl⟩;refine aa ?_;exact⟨a,r,rfl⟩
 .rintro _ _ ⟨rfl,a,r,rfl⟩;refine aa ?_;exact⟨a,r,rfl⟩
abbrev cy:List R:=bd []:: .J [] .nil::(ab aA .nil .nil .nil++ab aA .nil .nil .nil)
theorem jq:([R.v (.string ⟨#[]⟩)]++ [R.J [] .nil]++List.replicate 32 (R.v (.int .u8 0))++ [R.J [] .nil,.J [] .nil]++ [R.v (.int .i64 0),.v (.int .i64 0)]++ [R.J [] .nil]++List.replicate 32 (R.v (.int .u8 0))++ [R.J [] .nil,.J [] .nil]++ [R.v (.int .i64 0),.v (.int .i64 0)]++ [R.J [] .nil])=cy:=by have:=ct;simp_all [a4W,cy,bd]
def fV:eu ⟨[],[],aA,aA⟩ cy:=⟨⟨.nil,_,_,_,_,_,_,rfl⟩,⟨bl,mf⟩,⟨bl,mf⟩,a9s⟩
theorem nH (a:eu e6 g):g.length=76/\g.take 76=g/\putAt cy 0 g=g/\(cy).length=76:=by have b:=a.all.1;have c:=fV.all.1;grind[qm]
theorem FK {d:Type}{y:d}{h:d->Bool}: ∀ {b:List d}{k:Nat}{a:d},b[k]? =some a->h a=true->(∀o<k,h (b.getD o y)=false)->b.find? h=some a
 | [],k,a,c,_,_=>by simp at c
 |p::b,0,a,c,r,_=>by simp_all
 |p::b,k+1,a,c,r,x=>by
  have z:h p=false:=x 0 a9r;rw[List.find?_cons,z];exact FK (by simpa using c) r λo c=>x (o+1) a9r
variable{b0:Type}
theorem a1O {c:b0}{b:b0->Bool}{a:List b0} (k: ∀d<a.length,b (a.getD d c)=false):a.find? b=none:=by rw[List.find?_eq_none];intro o h;obtain⟨p,r,rfl⟩:=a5A h;simp_all
def Found (c:List aK) (d:List UInt8) (b:R):Prop:=match c.find? (λa=>decide (a.name=d))with
 |some a=> ∃T,eu a T/\b= .aL [.agg T,.v (.bool true)]
 |none=>b= .aL [.agg cy,.v (.bool false)]
theorem find_spec (b:List aK) (D:List R) (P:Own) (o:List UInt8) (E:az dE b D) (m:b.length<=1000000) (c:U):
  AC Tryz.prog 37 [.J D P,bd o] c λS p=>p=c/\Found b o S:=by
 have n:=E.len;have q:=λV=> @qv V o;have s:=jq;refine aO hm Kt ?_;refine br λh W=> ?_;rw[jq];have r:c.sub (c.set h (.cells cy)):=U.ae U.a1 W;have F:(c.set h (.cells cy)) h=some (.cells cy):=U.ah _ _ _;generalize c.set h (.cells cy)=e at*;obtain⟨_,_,_,t⟩:=nH fV;have u:=(nH fV).2.2.1;have v:=fV.all.2.1;refine cj [1,4,8,9] (λa:Nat=> [(10,.v (.int .i64 a))]) (λa p=>e.sub p/\a<=b.length/\ ∀d<a,(b.getD d default).name≠o) (λa=>b.length - a) 0 ⟨⟨U.a1,a9r,λd w=>by omega⟩,aU⟩ ?_;rintro a A ⟨k,B,x⟩ H;have I:=U.aJ (k _ _ F);refine aa ?_;refine aH (λf=> ?_) λf=> ?_
 .have G:b[a]? =some (b.getD a default):=by simp_all
  obtain⟨_,K,T,rfl,y⟩:=E.get G;generalize g:b.getD a default=M at*;obtain⟨i,N,O,_⟩:=nH y;have Q:=y.all.2.2.1;have X:=ix (e:=76) (n:= .agg T) i;refine aa ?_;refine aP λj z=> ?_;have l:h≠j:=by rintro rfl;rw[k _ _ F]at z;cases z
  have Y:=a4S l;refine aa ?_;refine aH (λC=> ?_) λC=> ?_
  .refine⟨U.ae (U.aq r k) (U.bG (U.aq r k) z),?_⟩;rw[Found,FK G (by simp[C]) λd L=>by simpa using x d L];exact⟨T,y,rfl⟩
  .exact⟨a+1,⟨a9r,upto x (by rw[g];exact C)⟩,rfl,a9r⟩
 .refine⟨U.aq r k,?_⟩;rw[Found,a1O λd L=>by simpa using x d a9r]
theorem dE.cells {b:aK}{a:R} (c:dE b a):a.cells.length=76:=by obtain⟨T,rfl,d⟩:=c;exact d.all.1
def vk (o:List aK) (a:List R) (h:Own) (b:U) (p:az dE o a) (G:o.length<=1000):
  AC Tryz.prog 45 [.J a h] b λr k=>ar b k 76 (flat a) r:=by
 have L:=p.len;refine mU λy=> ?_;have z:h= .nil->a= []:=λc=>by subst c;simpa using y a a9s
 have x:=p.cells λ_ _=>dE.cells;have P:=dh x;refine bf hm KH a9s ?_;simp -dsimp -implicitDefEqProofs (disch:=first|omega|assumption|(simp only[aE,Nat.reduceAdd];try omega)) only[go_sem,simprocAttr,↓o9];refine oa (λd=>by rw[z d]) (λd=> ?_) ?_
 .have C:a= []:=by simpa using d
  subst C;refine aF @a5y ?_;exact⟨b,U.a1,ar.nil U.a1⟩
 .refine aF @nX ?_;have D:bN b 76 (.J a h)=some (a.length,flat a):=by have E:a.all (λc=>decide (c.cells.length=76))=true:=a4Y.2 λc F=>decide_eq_true (x c F);simp only[bN,E,if_true]
  refine fk (ar.zero (U.a1 (f:=b))) a9r D a9r (by simp only[a4T];omega) (by simp only[a4T];omega) λr k d=> ?_;refine eE ?_;exact⟨k,U.a1,by simpa using d⟩
theorem a1P (c h:U) (e:List R) (b:R) (l:ar c h 76 e b) (g:Nat) (j:e.length=g*76) (a:Nat) (d:a<=g) (i:g<=1000) (f:List R) (B:f.length=76) (m:Nat) (s:c m=some (.cells f)):
  AC Tryz.prog 149 [b,.v (.int .i64 (a:Int)),.al m 1 1 76] h λd k=>ar c k 76 (e.take (a*76)++(f++e.drop (a*76))) d:=by
 have q:=l.1 _ _ s;have u:((1:Nat):Int)=1:=rfl;have C: ∀k:U,k m=some (.cells f)->bN k 76 (.al m 1 1 76)=some (1,f):=λk l=>by
  simp_all [bN,U.af,if_pos,trivial,a4K]
 by_cases c1:a=g
 .subst c1;obtain⟨o,p,wl⟩: ∃o,c8 76 b (some (.v (.int .i64 (a:Int)))) none none=some o/\fg b=some (.v (.int .i64 (a:Int))):=by
   rcases l.2 with ⟨r,rfl|rfl⟩|⟨c,b,d,i,rfl,v,n,w,x,y,t,M⟩
   .rw[r]at j;obtain rfl:a=0:=by rw[a4T]at j;omega
    exact⟨_,We,rfl⟩
   .rw[r]at j;obtain rfl:a=0:=by rw[a4T]at j;omega
    exact⟨_,Wd,rfl⟩
   .obtain rfl:b=a:=a9r;obtain⟨o,p,_⟩:=ow (i:=76) (j0:=c) (M:=b) (c0:=d) (e:=b) (e2:= .i64) a9r t;exact⟨o,p,rfl⟩
  refine bf hm Bp a9s ?_;simp -dsimp -implicitDefEqProofs (disch:=first|omega|assumption|(simp only[aE,Nat.reduceAdd];try omega)) only[go_sem,simprocAttr,↓eM,p,wl,u];refine fk l a9r (C h q) a9r a9r a9r λz k k=> ?_;refine Cl ?_;grind[U.a1,List.take_of_length_le,List.drop_eq_nil_of_le]
 have k:a<g:=a9r;obtain⟨c,b,d,i,rfl,v,n,w,x,y,t,M⟩:=l.al (λr=>by rw[r]at j;simp at j;omega);obtain rfl:b=g:=a9r;have N:c≠m:=by rintro rfl;rw[v]at s;cases s
 have D: ¬(a:Int)=(b:Int):=a9r;refine bf hm Bp a9s ?_;obtain⟨o,p,_,L⟩:=ow (i:=76) (j0:=c) (M:=b) (c0:=d) (e:=a) (e2:= .i64) a9r t;have g:=L h i e n a9r x;have O:(e.drop (a*76)).length=(b - a)*76:=by rw[a4X];omega
 have Q:i.take (a*76)=e.take (a*76):=by grind
 by_cases c2:(d:Int)<(b:Int)+1
 .have y:c8 76 (.al c b d 76) none (some (.v (.int .i64 (a:Int)))) none=some (.al c a d 76):=hQ a9r;have P:(b:Int)+1 -(a:Int)=((b+1 - a:Nat):Int):=a9r;refine dD (bD @p @D @u @c2 @y @P) ?_;refine x3 n w a9r a9r a9r λg k t z A S j=> ?_;have o:a+(b+1 - a)=b+1:=a9r;rw[o]at A j|-;generalize o:List.replicate (b+1 - a) _=r;have E:r.flatten.length=(b+1 - a)*76:=by rw[<-o,jI];rfl
  have K:g≠c:=by rintro rfl;rw[z]at n;cases n
  have H:g≠m:=by rintro rfl;rw[z]at q;cases q
  obtain⟨o,s⟩: ∃o,o=i.take (a*76)++r.flatten++t:=⟨_,rfl⟩;have t:o.length=k*76:=by rw[s,a4L,a4L,E,a4N,j];omega
  have T:o.take (a*76)=e.take (a*76):=by simp_all
  rw[<-s];have E:c8 76 (.al g (b+1) k 76) (some (.v (.int .i64 (a:Int)))) none none=some (.bx g (a*76) (b+1 - a) (k - a) 76):=gp a9r A a9r;have F:c8 76 (.al g (b+1) k 76) (some (.v (.int .i64 ((a:Int)+1)))) none none=some (.bx g (a*76+76) (b - a) (k -(a+1)) 76):=by have:=gp (i:=76) (c0:=g) (v:=b+1) (M:=k) (e:=a+1) (e2:= .i64) a9r A a9r;grind
  have G:(h.set g (.cells o)) m=some (.cells f):=by rw[U.an _ _ (a4S H)];exact q
  have r:=ho (e:=76) (v:=g) (M:=a*76) (j0:=k - a) (i:=b+1 - a) (C _ G) (U.ah h g (.cells o)) a9r;have H:f.take ((b+1 - a)*76)=f:=a4K a9r;rw[H]at r;obtain⟨j,s⟩: ∃j,j=putAt o (a*76) f:=⟨_,rfl⟩;have I:j.length=k*76:=by rw[s,eK _ _ _ a9r,t]
  rw[<-s]at r;have t:(h.set g (.cells j)) c=some (.cells i):=by rw[U.an _ _ (a4S K)];exact n
  have K:=L _ i e t a9r x;have t:=ho (e:=76) (v:=g) (M:=a*76+76) (j0:=k -(a+1)) (i:=b - a) K (U.ah h g (.cells j)) a9r;have L:(e.drop (a*76)).take ((b - a)*76)=e.drop (a*76):=a4K a9r;rw[L]at t;refine dD (iz @p @D @u @c2 @y @P @E @F @r @t @U.set_set) ?_;refine⟨_,U.a1,U.ae l.1 (U.bG l.1 z),.inr ⟨g,b+1,k,_,rfl,U.bG l.1 z,U.ah _ _ _,?_,?_,?_,A,S⟩⟩
  .rw[eK _ _ _ a9r,I]
  .have:=(pv (g:=o) (A:=f) (e1:=e.drop (a*76)) (v:=76) T B O a9r).2;rw[show(b+1)*76=a*76+76+(b - a)*76 by omega,s];exact this
  grind
 .have y:c8 76 (.al c b d 76) none (some (.v (.int .i64 ((b:Int)+1)))) none=some (.al c (b+1) d 76):=by rw[show(b:Int)+1=((b+1:Nat):Int) by omega];exact hQ a9r
  have E:c8 76 (.al c (b+1) d 76) (some (.v (.int .i64 (a:Int)))) none none=some (.bx c (a*76) (b+1 - a) (d - a) 76):=gp a9r a9r a9r;have F:c8 76 (.al c (b+1) d 76) (some (.v (.int .i64 ((a:Int)+1)))) none none=some (.bx c (a*76+76) (b - a) (d -(a+1)) 76):=by have:=gp (i:=76) (c0:=c) (v:=b+1) (M:=d) (e:=a+1) (e2:= .i64) a9r a9r a9r;grind
  have g:i≠ []:=by rintro rfl;simp at w;omega
  have k:ks (.al m 1 1 76) (.bx c (a*76+76) (b - a) (d -(a+1)) 76) h=some (.v (.bool false)):=x2 rfl rfl (a4S N) (qy q (by rintro rfl;simp at B)) (qy n g);have K:bN h 76 (.bx c (a*76) (b+1 - a) (d - a) 76)=some (b+1 - a,(i.drop (a*76)).take ((b+1 - a)*76)):=by simp only[bN,U.af n];rw[if_pos ⟨trivial,a9r⟩]
  have t:=ho (e:=76) (v:=c) (M:=a*76+76) (j0:=d -(a+1)) (i:=b - a) K n a9r;have L:((i.drop (a*76)).take ((b+1 - a)*76)).take ((b - a)*76)=e.drop (a*76):=by rw[a6a,<-x,a6h];congr 1;omega
  rw[L]at t;obtain⟨j,s⟩: ∃j,j=putAt i (a*76+76) (e.drop (a*76)):=⟨_,rfl⟩;rw[<-s]at t;have I:j.length=i.length:=by rw[s,eK _ _ _ a9r]
  have G:(h.set c (.cells j)) m=some (.cells f):=by rw[U.an _ _ (a4S N)];exact q
  have r:=ho (e:=76) (v:=c) (M:=a*76) (j0:=d - a) (i:=b+1 - a) (C _ G) (U.ah h c (.cells j)) a9r;have H:f.take ((b+1 - a)*76)=f:=a4K a9r;rw[H]at r;refine dD (iz @p @D @u @c2 @y @E @F @k @t @r @U.set_set) ?_;refine⟨_,U.a1,U.ae l.1 v,.inr ⟨c,b+1,d,_,rfl,v,U.ah _ _ _,?_,?_,?_,a9r,M⟩⟩
  .rw[eK _ _ _ a9r,I,w]
  .have:=(pv (g:=i) (A:=f) (e1:=e.drop (a*76)) (v:=76) Q B O a9r).1;grind
  grind
variable{b9:List aK}
theorem a1Q (c:az dE b9 g): ∀a∈g,∃b,a= .agg b/\b.length=76:=λa d=>by
 obtain⟨k,_,T,rfl,h⟩:=c.mem d;exact⟨T,rfl,h.all.1⟩
theorem ar.FL (b:ar f t 76 (flat g) n) (c:az dE b9 g): ∃a,View t n a (.J g .any)/\f.sub a:=by obtain⟨h,a,d,k,o⟩:=View.dW b;rw[dh (c.cells λ_ _=>dE.cells)]at d;grind[xM,a1Q]
def df (a:List aK) (b:List UInt8):Nat:=(a.takeWhile λc=>bZ c.name b).length
def FM: ∀ {l:List aK}{nm:List UInt8}{i:Nat},Place l nm i->i=df l nm
 | [],nm,i,a=>by have:=a.1;simpa[df] using this
 |d::l,nm,0,a=>by
  have:=a.2.2 0 a9s a9r;simp only[a5s]at this;simp[df,a5B,this]
 |d::l,nm,i+1,a=>by
  have c:=a.2.1 0 a9r;simp only[a5s]at c;have:=FM (l:=l) (nm:=nm) (i:=i) ⟨by have:=a.1;simpa using this,λb h=>by have:=a.2.1 (b+1) a9r;simpa using this,λb h k=>by have:=a.2.2 (b+1) a9t a9r;simpa using this⟩;simp only[df,a5B,c,if_true,a4O];rw[this];rfl
def gI (a:List aK) (b:List UInt8):Bool:=decide (df a b<a.length)&&decide ((a.getD (df a b) default).name=b)
theorem zt {c:List aK} (d:cB c=true): ∀b a,b<a->a<c.length->bZ (c.getD b default).name (c.getD a default).name=true
 |b,0,h1,_=>by omega
 |b,a+1,h1,p=>by
  have h:=d;simp only[cB,a4M,a4Y,a6b,a6u,decide_eq_true_eq]at h;have k:=(h.1 (a+1) p).2.resolve_left a9r;rw[Nat.add_sub_cancel]at k;rcases a9q b a with o|o
  .exact vi _ _ _ (zt d b a o a9r) k
  grind
def zu (a:List aK) (c:List R) (k:Own) (b:List UInt8) (r:az dE a c) (d:cB a=true) (h:U):
  AC Tryz.prog 148 [.J c k,bd b] h λo p=>p=h/\o= .aL [.v (.int .i64 (df a b:Int)),.v (.bool (gI a b))]:=by
 have C:a.length<=8:=by simp only[cB,a4M,decide_eq_true_eq]at d;exact d.2
 refine(a1N a c k b r a9r (zt d) h).mono λo p x=> ?_;obtain⟨y,D,z,rfl⟩:=x;obtain rfl:=FM z;exact⟨y,rfl⟩
def vl (d:Except Int (List aK)) (a:R):Prop:=
 match d with
 | .error b=>b≠0/\a= .aL [.J [] .nil,.v (.int .i64 b)]
 | .ok h=> ∃c,az dE h c/\a= .aL [.J c .any,.v (.int .i64 0)]
def kd (a:List aK) (b:aK):Except Int (List aK):=
 if(cB a&&fU b)=true then(if gI a b.name=true then .error 4 else if 8<=a.length then .error 10 else .ok (a.take (df a b.name)++b::a.drop (df a b.name)))else .error 1
def ke (a:List aK) (b:aK):Except Int (List aK):=
 if(cB a&&fU b)=true then(if gI a b.name=true then .ok (a.set (df a b.name) b)else .error 3)else .error 1
def th (a b:U) (o:Except Int (List aK)) (c:R):Prop:=
 match o with
 | .error d=>a.sub b/\d≠0/\c= .aL [.J [] .nil,.v (.int .i64 d)]
 | .ok p=> ∃h k,az dE p k/\ar a b 76 (flat k) h/\c= .aL [h,.v (.int .i64 0)]
def th.zv {a:Except Int (List aK)} (b:th f t a n): ∃c d,View t n d c/\f.sub d/\vl a c:=by
 cases a with
 |error x=>exact⟨_,_,View.refl,b.1,b.2⟩
 |ok y=>obtain⟨z,k,h,o,rfl⟩:=b;obtain⟨C,p,r⟩:=ar.FL o h;exact⟨_,_,View.aL (a:= []) p,r,k,h,rfl⟩
def a1R (a:List aK) (b:List UInt8):df a b<=a.length:=by unfold df;have:=congrArg List.length (a5G (p:=λc:aK=>bZ c.name b) (l:=a));rw[a4L]at this;omega
def a1S (a:List aK) (d:List R) (j:Own) (b:aK) (c:List R) (m:eu b c) (n:b.Fit) (h:az dE a d) (f: ∀b∈a,b.Fit) (p:a.length<=1000) (i:U):
  AC Tryz.prog 79 [.J d j,.agg c] i λk e=>i.sub e/\vl (kd a b) k:=by
 have g:AC Tryz.prog 79 [.J d j,.agg c] i λk e=>th i e (kd a b) k:= ?_
 .exact g.view λk e e=>e.zv
 have u:=h.len;obtain⟨q,e,e,e,e,e,e,e,e,e,e,e,e⟩:=m.all;refine aO hm Lz ?_;refine br λe g=> ?_;have l:=U.ae (Y:= .cells c) (U.a1 (f:=i)) g;have aI:=U.ah i e (.cells c);generalize i.set e _=g at*;have s:=U.af aI;have e:(if(cB a&&fU b)=true then(if gI a b.name=true then .error 4 else if 8<=a.length then .error 10 else .ok (a.take (df a b.name)++b::a.drop (df a b.name)))else .error 1)=kd a b:=rfl;generalize kd a b=o at*;cases o:cB a with
 |false=>rw[if_neg (by rw[o];simp)]at e;refine bk (nF a d j h f a9r g) ?_;rw[<-e];exact⟨_,U.a1,l,a9v,rfl⟩
 |true=>
 cases r:fU b with
 |false=>rw[if_neg (by rw[r];simp)]at e;refine bk (nF a d j h f a9r g) ?_;refine bk (ri b c m n g) ?_;rw[<-e];exact⟨_,U.a1,l,a9v,rfl⟩
 |true=>
 rw[if_pos (by rw[o,r];rfl)]at e;refine bk (nF a d j h f a9r g) ?_;refine bk (ri b c m n g) ?_;have n:=zu a d j b.name h o g;have v:=a1R a b.name;generalize df a b.name=f at*;cases o:gI a b.name with
 |true=>rw[if_pos o]at e;rw[o]at n;refine bk n ?_;rw[<-e];exact⟨_,U.a1,l,a9v,rfl⟩
 |false=>
 rw[if_neg (by rw[o];simp)]at e;rw[o]at n;refine bk n ?_;refine aH (λb=> ?_) λb=> ?_
 .rw[if_pos a9r]at e;rw[<-e];exact⟨_,U.a1,l,a9v,rfl⟩
 rw[if_neg a9r]at e;have n:aN 76 [R.agg c]:=λo b=>by rw[a4Z.1 b];exact q
 refine(rS (eT n a9s λb r=>trivial)).mpr ?_;have s:=U.af aI;refine aa ?_;refine ai (vk a d j g h p) ?_;intro r s j;have t:=U.af (j.1 _ _ aI);refine aa ?_;have w:flat [R.agg c]=c:=by simp[flat,R.cells]
 refine eT n a9s λb t=> ?_;rw[w];have n:=h.cells λ_ _=>dE.cells;have w:ar (g.set b (.cells c)) (s.set b (.cells c)) 76 (flat d) r:=j.new t;have x:(flat d).length=a.length*76:=by rw[dh n,u]
 have u:=a1P (g.set b (.cells c)) (s.set b (.cells c)) (flat d) r w a.length x f v p c q b (U.ah _ _ _);refine aa ?_;refine ai u ?_;intro k a a;refine aa ?_;refine⟨_,U.a1,?_⟩;rw[<-e];have e:i.sub (g.set b (.cells c)):=U.ae l (U.bG l (U.bG j.1 t));refine⟨k,d.take f++ .agg c::d.drop f,(h.take f).append ⟨⟨c,rfl,m⟩,h.drop f⟩,?_,rfl⟩;have o:flat (d.take f++ .agg c::d.drop f)=(flat d).take (f*76)++(c++(flat d).drop (f*76)):=by rw[(ga f n).1,(ga f n).2];simp[flat,R.cells]
 rw[o];exact a.base e
theorem ar.kh (c:ar t f e (flat g) n) (d:aN e g) (y:0<e) (p:i<g.length) (k:A.length=e):
  ∃b h a,n= .al b g.length h e/\f b=some (.cells a)/\i*e+e<=a.length/\ar t (f.set b (.cells (putAt a (i*e) A))) e (flat (g.set i (.agg A))) n:=by
 have z:=dh d;have C:(i+1)*e<=g.length*e:=a5a _ p;rw[a5L,a7i]at C;obtain⟨b,D,h,a,rfl,r,E,F,G,j,x,L⟩:=c.al (λo=>by rw[o,a4T]at z;omega);obtain rfl:D=g.length:=a7o y a9r;have l:=a5a e x;refine⟨b,h,a,rfl,E,a9r,U.ae c.1 r,.inr ⟨b,g.length,h,_,rfl,r,U.ah _ _ _,?_,?_,?_,x,L⟩⟩
 .rw[eK _ _ _ a9r,F]
 .have P:g.set i (.agg A)=g.take i++ .agg A::g.drop (i+1):=a6d .. |>.trans (by rw[if_pos p])
  have S:flat (g.take i++ .agg A::g.drop (i+1))=(flat g).take (i*e)++(A++(flat g).drop ((i+1)*e)):=by rw[(ga (i+1) d).1,(ga i d).2];simp[flat,R.cells]
  have T:(a.take (i*e)).length=i*e:=by rw[a4N];omega
  have V:(i+1)*e=i*e+e:=by rw[a5L,a7i]
  rw[P,S,putAt,k,<-G,a6a,a6t a9r,V,a6h];have m:(a.take (i*e)++A).length=i*e+e:=by rw[a4L,T,k]
  have q:g.length*e=(i*e+e)+(g.length*e -(i*e+e)):=a9r;grind
 .rw[dh (c:=e)]
  .rw[a7m]
  .intro o W;rcases a6Y W with c|rfl
   .exact d o c
   .exact k
theorem a1T (a:List aK) (c:List R) (g:Own) (b:aK) (d:List R) (k:eu b d) (m:b.Fit) (f:az dE a c) (j: ∀b∈a,b.Fit) (p:a.length<=1000) (e:U):
  AC Tryz.prog 151 [.J c g,.agg d] e λh i=>e.sub i/\vl (ke a b) h:=by
 have l:AC Tryz.prog 151 [.J c g,.agg d] e λh i=>th e i (ke a b) h:= ?_
 .exact l.view λh i i=>i.zv
 have q:=f.len;obtain⟨r,h,h,h,h,h,h,h,h,h,h,h,h⟩:=k.all;refine aO hm NG ?_;refine br λh n=> ?_;have l:=U.ae (Y:= .cells d) (U.a1 (f:=e)) n;have aI:=U.ah e h (.cells d);generalize e.set h _=h at*;have e:=U.af aI;have e:(if(cB a&&fU b)=true then(if gI a b.name=true then .ok (a.set (df a b.name) b)else .error 3)else .error 1)=ke a b:=rfl;generalize ke a b=n at*;cases n:cB a with
 |false=>rw[if_neg (by rw[n];simp)]at e;refine bk (nF a c g f j a9r h) ?_;rw[<-e];exact⟨_,U.a1,l,a9v,rfl⟩
 |true=>
 cases o:fU b with
 |false=>rw[if_neg (by rw[o];simp)]at e;refine bk (nF a c g f j a9r h) ?_;refine bk (ri b d k m h) ?_;rw[<-e];exact⟨_,U.a1,l,a9v,rfl⟩
 |true=>
 rw[if_pos (by rw[n,o];rfl)]at e;refine bk (nF a c g f j a9r h) ?_;refine bk (ri b d k m h) ?_;have m:=zu a c g b.name f n h;have n:gI a b.name=true->df a b.name<a.length:=λi=>by
  simp only[gI,a4M,decide_eq_true_eq]at i;exact i.1
 generalize df a b.name=i at*;cases j:gI a b.name with
 |false=>rw[if_neg (by rw[j];simp)]at e;rw[j]at m;refine bk m ?_;rw[<-e];exact⟨_,U.a1,l,a9v,rfl⟩
 |true=>
 rw[if_pos j]at e;rw[j]at m;have n:=n j;refine bk m ?_;refine ai (vk a c g h f p) ?_;intro a a a;have g:=f.cells λ_ _=>dE.cells;obtain⟨b,h,j,rfl,j,m,m⟩:=ar.kh a g a9r (i:=i) a9r r;have g:=U.af (a.1 _ _ aI);have a:cS 76 (.al b c.length h 76) (.v (.int .i64 (i:Int)))=some (.ptr b (i*76)):=by grind[ja,Int.toNat_natCast]
 have a:=U.aJ j;refine aa ?_;refine⟨_,U.a1,?_⟩;rw[<-e];exact⟨_,c.set i (.agg d),f.set i ⟨d,rfl,k⟩,m.base l,by rw[q]⟩
theorem a1U (F o:U) (d:List R) (G:R) (L:ar F o 76 d G) (r:Nat) (P:d.length=r*76) (b:Nat) (M:b<r) (N:r<=1000):
  AC Tryz.prog 150 [G,.v (.int .i64 (b:Int)),.v (.int .i64 ((b:Int)+1))] o λi j=>ar F j 76 (d.take (b*76)++d.drop ((b+1)*76)) i:=by
 obtain⟨c,a,k,x,rfl,S,T,l,V,m,C,n⟩:=L.al (λq=>by rw[q,a4T]at P;omega);obtain rfl:a=r:=a9r;refine bf hm ND a9s ?_;have s:(b:Int)+1=((b+1:Nat):Int):=a9r;rw[s];obtain⟨O,t⟩:=DR (M:=76) (a:=c) (b:=a) (c0:=k) (j0:=b) (e:=b+1) (i:=a) (e2:= .i64) (c:= .i64) (d:= .i64) a9r a9r C;have u:c8 76 (.al c a k 76) none (some (.v (.int .i64 (b:Int)))) none=some (.al c b k 76):=hQ a9r;obtain⟨Q,v,_,D⟩:=ow (i:=76) (j0:=c) (M:=a) (c0:=k) (e:=b+1) (e2:= .i64) a9r C;have D:=D o x d T a9r V;have w: ¬(b:Int)=((b+1:Nat):Int):=a9r;simp -dsimp -implicitDefEqProofs (disch:=first|omega|assumption|(simp only[aE,Nat.reduceAdd];try omega)) only[go_sem,simprocAttr,↓eM,t,u,v,w];refine uv T l D a9r a9r a9r ?_;have A:b+(a -(b+1))=a - 1:=a9r;rw[A];have W:(d.drop ((b+1)*76)).length=(a -(b+1))*76:=by rw[a4X];omega
 obtain⟨h,y⟩: ∃h,h=putAt x (b*76) (d.drop ((b+1)*76)):=⟨_,rfl⟩;have E:h.length=k*76:=by rw[y,eK _ _ _ a9r];omega
 have B:h.take ((a - 1)*76)=d.take (b*76)++d.drop ((b+1)*76):=by
  rw[y,putAt];have H:(x.take (b*76)).length=b*76:=by rw[a4N];omega
  rw[show(a - 1)*76=(x.take (b*76)++d.drop ((b+1)*76)).length by rw[a4L,H,W];omega,a7e];grind
 rw[<-y];have I:(o.set c (.cells h)) c=some (.cells h):=U.ah _ _ _;have X:c8 76 (.al c (a - 1) k 76) (some (.v (.int .i64 ((a - 1:Nat):Int)))) (some (.v (.int .i64 ((a:Nat):Int)))) none=some (.bx c ((a - 1)*76) (a -(a - 1)) (k -(a - 1)) 76):=Ch a9r C a9r;have e: ∀z:List R,z.length=76->kq 76 z (.bx c ((a - 1)*76) (a -(a - 1)) (k -(a - 1)) 76) (o.set c (.cells h))=some ((o.set c (.cells h)).set c (.cells (putAt h ((a - 1)*76) (List.replicate (a -(a - 1)) z).flatten))):=λz Y=>x1 I (by rw[E];omega);have p:=fV.all.1;rw[<-jq]at p;have e:=(e _ p).trans (by rw[U.set_set]);have K:(d.take (b*76)++d.drop ((b+1)*76)).length=(a - 1)*76:=by rw[a4L,a4N,a4X];omega
 clear p y W V m P;refine aa ?_;have p:=fV.all.1;rw[<-jq]at p;refine⟨_,U.a1,?_⟩;generalize f:putAt h ((a - 1)*76) _=g;have ch:g.length=k*76:=by rw[<-f,eK _ _ _ (by rw[jI,p,E];omega),E]
 have ca:g.take ((a - 1)*76)=h.take ((a - 1)*76):=by rw[<-f,putAt,a4W,a6j (by rw[a4N];omega),a6a,a7a]
 refine⟨U.ae L.1 S,.inr ⟨c,a - 1,k,_,rfl,S,U.ah _ _ _,ch,by rw[ca,B],K,a9r,n⟩⟩
def cN (a:List aK) (b:List UInt8):Except Int (List aK):=
 if cB a=true then(if gI a b=true then .ok (a.take (df a b)++a.drop (df a b+1))else .error 3)else .error 1
def a1V (a:List aK) (c:List R) (p:Own) (b:List UInt8) (h:az dE a c) (G: ∀S∈a,S.Fit) (L:a.length<=1000) (d:U):
  AC Tryz.prog 81 [.J c p,bd b] d λr y=>d.sub y/\vl (cN a b) r:=by
 have T:AC Tryz.prog 81 [.J c p,bd b] d λr y=>th d y (cN a b) r:= ?_
 .exact T.view λr y z=>z.zv
 have V:=h.len;refine aO hm LD ?_;have k:(if cB a=true then(if gI a b=true then .ok (a.take (df a b)++a.drop (df a b+1))else .error 3)else .error 1)=cN a b:=rfl;generalize cN a b=i at*;cases D:cB a with
 |false=>rw[if_neg (by rw[D];simp)]at k;refine bk (nF a c p h G a9r d) ?_;rw[<-k];exact⟨_,U.a1,U.a1,a9v,rfl⟩
 |true=>
 rw[if_pos D]at k;refine bk (nF a c p h G a9r d) ?_;have C:=zu a c p b h D d;have E:gI a b=true->df a b<a.length:=λz=>by
  simp only[gI,a4M,decide_eq_true_eq]at z;exact z.1
 generalize df a b=o at*;cases x:gI a b with
 |false=>rw[if_neg (by rw[x];simp)]at k;rw[x]at C;refine bk C ?_;rw[<-k];exact⟨_,U.a1,U.a1,a9v,rfl⟩
 |true=>
 rw[if_pos x]at k;rw[x]at C;have E:=E x;refine bk C ?_;refine ai (vk a c p d h L) ?_;intro W e f;have F:=h.cells λ_ _=>dE.cells;have g:(flat c).length=a.length*76:=by rw[dh F,V]
 refine aa ?_;refine ai (a1U d e (flat c) W f a.length g o E L) ?_;intro r j P;refine aa ?_;refine⟨_,U.a1,?_⟩;rw[<-k];rw[(ga (o+1) F).1,(ga o F).2,<-oW]at P;exact⟨r,c.take o++c.drop (o+1),(h.take o).append (h.drop (o+1)),P,rfl⟩
variable{s a7:R -> U -> Prop}{K:Ctx}{b4:FuncId}
def fI {d:U->Prop} (h: ∀B a,cE t e B a->d a) (c:AC K.p b4 g f λ_ a=>cE t e B a) (k: ∀b a,cE t e B a->a7 b a)
  (o: ∀b a,d a->s b a=a7 b a:=by intro b f c;simp -dsimp -implicitDefEqProofs (disch:=first|omega|assumption|exact U.tV a9u a9u|(simp only[aE,Nat.reduceAdd];try omega)) only[go_sem,simprocAttr,-List.reduceReplicate,↓eM,tW,tU, *]<;>rfl):nU K b4 g f (bP s ()):=ai c λb a c=>(o b a (h B a c)).mpr (k b a c)
theorem FN (l b:U) (c:Nat) (d:List UInt8) (a:ay) (i j k:Own) (f:cE l c d b) (e:d.length<=1000000000) (h:a.sum.length=32) (m:a.hx):
  AC Tryz.prog 105 [.ptr c 0,.agg (ab a i j k)] b λ_ e=>cE l c (d++ei a) e:=by
 have b:=(aX (N:=i) (e5:=j) (h5:=k) h).all;generalize ab a i j k=g at*;obtain⟨b,b,b,b,n,n,o⟩:=m;obtain⟨o,t⟩:=a6O b;obtain⟨p,u⟩:=a6O n;have b: ∀b:List UInt8,(.agg (b.map ak):R)=cM b:=λ_=>rfl;refine aO hm Ml ?_;refine aP λb m=> ?_;obtain⟨n,v,s⟩:=f.new (ob:= .cells g) m;have m: ∀d e,cE (l.set b (.cells g)) c d e->e.read b=some g:=λd e f=>U.af (f.get n (U.ah _ _ _));refine aa ?_;refine fI m (CI _ _ c _ _ h s a9r) λ_ b g=> ?_;refine fI m (so _ _ c _ _ a9r g a9t) λ_ b g=> ?_;refine fI m (so _ _ c _ _ a9r g (by simp[kB];omega)) λ_ b g=> ?_;refine jN λb w=> ?_;have q:az isRow [a.aV,a.aW,a.key] [.J (ad a.aV) i,.J (ad a.aW) j,.J (ad a.key) k]:=⟨⟨_,rfl⟩,⟨_,rfl⟩,⟨_,rfl⟩,trivial⟩;have h: ∀b∈ [a.aV,a.aW,a.key],b.length<=8:=a9t;have x: ∀b:List Int,(dz b).length=8*b.length+1:=λb=>by rw[dz,a4O,oc]
 have r:ei a=a.sum++fo o++fo p++ [a.aV,a.aW,a.key].flatMap dz:=by rw[ei,t,u];simp
 obtain⟨f,n⟩: ∃f,[a.aV,a.aW,a.key]=f:=⟨_,rfl⟩;have b:f.length=3:=by rw[<-n];rfl
 rw[n]at q h r;have u: ∀b,b<=3->((f.take b).flatMap dz).length<=65*b:=λb t=>by
  rw[<-n]at h|-;have:=h a.aV a9s;have:=h a.aW a9s;have:=h a.key a9s;rcases(by omega:b=0\/b=1\/b=2\/b=3)with rfl|rfl|rfl|rfl<;>simp[x]<;>omega
 generalize (([.J (ad a.aV) i,.J (ad a.aW) j,.J (ad a.key) k]):List R)=j at*;obtain⟨_,i,k⟩:=g.new (ob:= .buf 1 j.length j.length) w;have i:=(U.set_nil i).1;have j:=q.len;rw[r,<-a4W,<-a4W,<-a4W];have j:(d++a.sum++fo o++fo p).length<=1000001000:=by simp[kB];omega
 generalize d++a.sum++fo o++fo p=a at*;clear m n r g s;refine cj [0,26,27] (λb:Nat=> [(28,.v (.int .i64 b))]) (λb e=>b<=3/\cE l c (a++(f.take b).flatMap dz) e) (λb=>3 - b) 0 ⟨⟨a9r,by simpa using k.base (U.ae (U.ae U.a1 v) i)⟩,aU⟩ ?_;rintro b a ⟨t,d⟩ a;refine aa ?_;refine aH (λa=> ?_) λa=> ?_
 .have a:f[b]? =some (f.getD b []):=by grind
  obtain⟨_,e,e,rfl⟩:=q.get a;have f:=h _ (a4Q a);have a:=u b t;refine aa ?_;refine hS (sq _ _ c _ _ e a9r d (by rw[a4L];omega)) λ_ a a=> ?_;refine⟨b+1,⟨a9r,?_⟩,rfl,a9r⟩;grind[eU,List.append_assoc]
 .obtain rfl:b=3:=a9r;grind[List.take_of_length_le,U.a1]
theorem FO (b:fU e6=true):e6.hx:=by
 simp only[fU,eb,ns,jY,a4M,decide_eq_true_eq,a6u,a4Y,a6b]at b;obtain⟨⟨⟨_,c⟩,a⟩,d,h,P,S,T⟩:=b;rw[if_pos a9v]at a;simp only[a4M,decide_eq_true_eq,a4Y,a6b,ml,jY]at a;obtain⟨k,o,p,r,x,y⟩:=qM d;obtain⟨z,C,D,E,F,G⟩:=qM h;refine⟨c.2,a.1.2.2,λV L=> ?_,⟨k,o,a9r,p,r,x,y⟩,⟨z,C,?_,D,E,F,G⟩⟩
 .obtain⟨W,e,rfl⟩:=a5A L;simp_all
 grind[aA]
theorem mq (a:cB b9=true):(∀b∈b9,b.hx)/\b9.length<=8:=by simp only[cB,a4M,a4Y,a6b,decide_eq_true_eq]at a;refine⟨λb c=> ?_,a.2⟩;obtain⟨d,h,rfl⟩:=a5A c;grind[FO,List.getD]
theorem FP (b:List aK) (c:List R) (e:Own) (h:az dE b c) (i: ∀a∈b,a.Fit) (j:b.length<=1000000) (f:U):
  AC Tryz.prog 58 [.J c e] f λd g=>f.sub g/\if cB b=true then∃k,d= .aL [.J ((pH b).map ak) k,.v (.int .i64 0)]else d= .aL [.J [] .nil,.v (.int .i64 1)]:=by
 have d:=h.len;have d: ∀d:Nat,IntKind.u8.wrap (d:Int)=((UInt8.ofNat d).toNat:Int):=λd=>iy d;refine aO hm L5 ?_;refine bk (nF b c e h i j _) ?_;refine aH (λl=> ?_) λl=> ?_
 .trivial
 obtain⟨k,c⟩:=mq l;refine br λe s=> ?_;have c:cE f e [] (f.set e (.cells [.J [] .nil,.v (.int .i64 0)])):=⟨.nil,bj.nil U.a1⟩;refine hS (mY f _ e [] (UInt8.ofNat b.length) c a9s) λ_ c i=> ?_;have dg:=a0s h k;refine cj [0,4,19,20] (λc:Nat=> [(21,.v (.int .i64 c))]) (λc g=>c<=b.length/\cE f e (UInt8.ofNat b.length::(b.take c).flatMap hi) g) (λc=>b.length - c) 0 ⟨⟨a9r,by simpa using i⟩,aU⟩ ?_;rintro c t ⟨i,j⟩ u;refine aa ?_;refine aH (λi=> ?_) λi=> ?_
 .have m:b[c]? =some (b.getD c default):=by simp_all
  obtain⟨_,i,T,rfl,i⟩:=h.get m;have h:=k _ (a4Q m);have q:=dg c;have v:(b.take (c+1)).flatMap hi=(b.take c).flatMap hi++hi (b.getD c default):=by rw[eU (b:=default) a9r,a5F];simp
  generalize b.getD c default=a at*;have r:=yE h i.k.1 i.z.1;obtain⟨k,m,m,m,m,m,m,m,m,m,m,m,m⟩:=i.all;obtain⟨_,_,m,m⟩:=nH i;have m:=ix (e:=76) (n:= .agg T) k;have k:=jq;have k:=hD (a:=a.aC);have k:= @pA a.aC;refine aa ?_;refine aP λo d=> ?_;obtain⟨k,w,m⟩:=j.new (ob:= .cells T) d;have n: ∀aR g,cE (f.set o (.cells T)) e aR g->g.read o=some T:=λaR g d=>U.af (d.get k (U.ah _ _ _));have d: ∀aR:List UInt8,sa (bd aR)=some (.J (aR.map ak) .any):=λaR=>rfl;obtain⟨k,p⟩: ∃k,UInt8.ofNat b.length::(b.take c).flatMap hi=k:=⟨_,rfl⟩;rw[p]at m;have d:k.length<=9000:=by rw[<-p,a4O];omega
  rw[hi,a4L]at r;have d:=xi a.name;have d:=h.n;have d:=h.c;refine aa ?_;refine fI n (CT _ _ e _ a.name .any a9r m a9r) λ_ r m=> ?_;refine fI n (mY _ _ e _ (UInt8.ofNat a.aC.length) m (by rw[a4L];omega)) λ_ d x=> ?_;have d:(k++hX a.name++ [UInt8.ofNat a.aC.length]).length<=10000:=by grind
  have m: ∀d,((a.aC.take d).flatMap hX).length<=200:=λd=>by
   have:=EZ (a:=a.aC.take d) λl y=>h.cs l (a5b y);rw[a4N]at this;omega
  refine cj [4,6,21,37,38] (λd:Nat=> [(39,.v (.int .i64 d))]) (λd g=>d<=a.aC.length/\cE (f.set o (.cells T)) e (k++hX a.name++ [UInt8.ofNat a.aC.length]++(a.aC.take d).flatMap hX) g) (λd=>a.aC.length - d) 0 ⟨⟨a9r,by simpa using x⟩,aU⟩ ?_;rintro d g ⟨g,g⟩ u;have k:=n _ _ g;refine aa ?_;refine aH (λc2=> ?_) λc2=> ?_
  .have l:=m d;have k:=h.cs (a.aC.getD d []) (by simp_all);refine hS (CT _ _ e _ (a.aC.getD d []) .any a9r g (by rw[a4L];omega)) λ_ o k=> ?_;refine⟨d+1,⟨a9r,?_⟩,rfl,a9r⟩;rw[eU (b:= []) a9r,a5F,<-a4W];simpa using k
  .obtain rfl:d=a.aC.length:=a9r;have l:=m a.aC.length;rw[a5h]at g l;have d:=sA i.k.1 h.k;refine fI n (FN _ _ e _ a.bL _ _ _ g (by rw[a4L];omega) i.k.1 h.k) λ_ o k=> ?_;refine hS (FN _ _ e _ a.ck _ _ _ k (by grind) i.z.1 h.z) λ_ a a=> ?_;refine⟨c+1,⟨a9r,?_⟩,rfl,a9r⟩;have d:=a.base (U.ae (Y:= .cells T) U.a1 w);rw[v,<-a5K,p,hi];simpa using d
 .obtain rfl:c=b.length:=a9r;have q:=dg b.length;rw[a5h]at j q;refine ai (CH f t e _ j (by rw[a4O];omega)) ?_;rintro _ r ⟨a,b,rfl⟩;refine aa ?_;refine bk (CU f r e _ (j.mono b.sub)) ?_;have c:=U.aq (j.sub s) b.sub
  first|exact⟨a,rfl⟩|exact⟨c,a,rfl⟩
theorem FQ (o a:U) (e:Nat) (g:ay) (n:List UInt8) (t:o e=none) (i:g.In 8) (q:bX o e ⟨ei g++n,0⟩ a):
  AC Tryz.prog 175 [.ptr e 0] a λs m=>bX o e ⟨n,0⟩ m/\ ∃f h j,s= .agg (ab g f h j):=by
 have eR:=aX (N:= .nil) (e5:= .nil) (h5:= .nil) bl;have a:=eR.len;have a:=eR.t37;obtain⟨a,b,c,d,cr,d⟩:=g;obtain⟨p,E,H,I,F,K,L,k,g,l,g⟩:=i;obtain⟨g,rfl⟩:=a6O k;obtain⟨i,rfl⟩:=a6O l
 dsimp only at*
 have k:ei ⟨a,b,c,(g:Int),(i:Int),d⟩++n=a++(fo g++(fo i++(dz b++(dz c++(dz d++n))))):=by simp[ei]
 rw[k]at q;have k:(cM a).cells=a.map ak:=rfl;have k:(a.map ak).length=32:=by simp[p]
 have k:=ct;have k:putAt (ab aA .nil .nil .nil) 0 (a.map ak)=ab ⟨a,[],[],0,0,[]⟩ .nil .nil .nil:=um bl p;have k: ∀(b c:List Int) (k l:Int) (d:List Int) (f h j:Own),putAt (ab aA .nil .nil .nil) 0 (ab ⟨a,b,c,k,l,d⟩ f h j)=ab ⟨a,b,c,k,l,d⟩ f h j:=λb c k l d f h j=>cG bl p;have cl: ∀(b c:List Int) (k l:Int) (d:List Int) (f h j:Own),(ab ⟨a,b,c,k,l,d⟩ f h j).length=37/\(ab ⟨a,b,c,k,l,d⟩ f h j).take 37=ab ⟨a,b,c,k,l,d⟩ f h j:=λb c k l d f h j=>by
  have:=aX (w:=⟨a,b,c,k,l,d⟩) (N:=f) (e5:=h) (h5:=j) p;exact⟨this.len,this.t37⟩
 refine aO hm Ow ?_;refine aP λs f=> ?_;rw[ct];obtain⟨x,C,q⟩:=q.new (ob:= .cells (ab aA .nil .nil .nil)) f;refine aa ?_;have f:=CQ _ _ e _ q;rw[D1 _ _ p]at f;refine ai f ?_;rintro _ f ⟨f,rfl⟩
 dsimp only at f|-
 refine aa ?_;refine aP λl h=> ?_;obtain⟨r,w,k⟩:=f.new (ob:= .cells (ab ⟨a,[],[],0,0,[]⟩ .nil .nil .nil)) h;have M:s≠l:=by rintro rfl;rw[f.get x (U.ah _ _ _)]at h;cases h
 obtain⟨f,h⟩: ∃f,o.set s (.cells (ab aA .nil .nil .nil))=f:=⟨_,rfl⟩;have y:f e=none:=by rw[<-h,U.an _ _ (a4S x)];exact t
 have N:f s=some (.cells (ab aA .nil .nil .nil)):=by rw[<-h,U.ah]
 have D:o.sub f:=by rw[<-h];exact U.ae U.a1 C
 rw[h]at k w;have o: ∀ {h u m},bX (f.set l h) e u m->m l=some h:=λq=>q.get r (U.ah _ _ _);refine aa ?_;have j:=sr _ _ e 1048576 a9r _ k;rw[ud _ a9r]at j;refine ai j ?_;rintro _ k ⟨k,rfl⟩;have s:=U.aJ (o k);have s:putAt (ab ⟨a,[],[],0,0,[]⟩ .nil .nil .nil) 34 [.v (.int .i64 (g:Int))]=ab ⟨a,[],[],(g:Int),0,[]⟩ .nil .nil .nil:=sB p;have k:=k.put (.cells (ab ⟨a,[],[],(g:Int),0,[]⟩ .nil .nil .nil)) r
 dsimp only at k|-
 refine aa ?_;have j:=sr _ _ e 1048576 a9r _ k;rw[ud _ a9r]at j;refine ai j ?_;rintro _ j ⟨j,rfl⟩;have k:=U.aJ (o j);have k:putAt (ab ⟨a,[],[],(g:Int),0,[]⟩ .nil .nil .nil) 35 [.v (.int .i64 (i:Int))]=ab ⟨a,[],[],(g:Int),(i:Int),[]⟩ .nil .nil .nil:=sC p;have j:=j.put (.cells (ab ⟨a,[],[],(g:Int),(i:Int),[]⟩ .nil .nil .nil)) r
 dsimp only at j|-
 refine aa ?_;refine jN λk o=> ?_;obtain⟨A,z,v⟩:=j.new (ob:= .buf 1 3 3) o;have t:l≠k:=by grind
 have B:f k=none:=by rwa[U.an _ _ (a4S t)]at z
 rw[U.eg _ t]at v;obtain⟨o,j⟩: ∃o,f.set k (.buf 1 3 3)=o:=⟨_,rfl⟩;rw[j]at v;have z:f.sub o:=by rw[<-j];exact U.ae U.a1 B
 have f:o e=none:=by rw[<-j,U.an _ _ (a4S A)];exact y
 have O:o l=none:=by rw[<-j,U.an _ _ t];exact w
 have t: ∀ {h u m},bX (o.set l h) e u m->m l=some h:=λq=>q.get r (U.ah _ _ _);have A: ∀h,(o.set l h) e=none:=λh=>by rw[U.an _ _ (a4S r)];exact f
 let h:Nat->ay:=λf=>⟨a,if 0<f then b else [],if 1<f then c else [],(g:Int),(i:Int),if 2<f then d else []⟩
 let q:Nat->List UInt8:=λf=>if f=0 then dz b++(dz c++(dz d++n))else if f=1 then dz c++(dz d++n)else if f=2 then dz d++n else n;refine cj [0,2,3,20,21] (λf:Nat=> [(22,.v (.int .i64 f))]) (λf m=>f<=3/\ ∃j k s,bX (o.set l (.cells (ab (h f) j k s))) e ⟨q f,0⟩ m) (λf=>3 - f) 0 ⟨⟨a9r,.nil,.nil,.nil,v⟩,aU⟩ ?_;rintro f y ⟨h,j,k,u,h⟩ m;refine aa ?_;refine aH (λm=> ?_) λm=> ?_
 .have B:=U.aJ (t h);rcases(by omega:f=0\/f=1\/f=2)with rfl|rfl|rfl
  .have h:bX (o.set l (.cells (ab ⟨a,[],[],(g:Int),(i:Int),[]⟩ j k u))) e ⟨dz b++(dz c++(dz d++n)),0⟩ y:=h;have B:=U.aJ (t h);have q:=pj _ _ e 8 a9r _ (A _) h;rw[po b 8 _ F a9r E]at q;refine aa ?_;refine ai q ?_;rintro _ E ⟨m,F,rfl⟩;have G:=U.aJ (t m);have v:=λj k s w=>De (w:=⟨a,[],[],(g:Int),(i:Int),[]⟩) (a:=j) (N:=k) (e5:=s) (h5:=w) (q:=b) p
   dsimp only at v m|-
   refine aa ?_;exact⟨1,⟨a9r,_,_,_,m.put _ r⟩,rfl,a9r⟩
  .have h:bX (o.set l (.cells (ab ⟨a,b,[],(g:Int),(i:Int),[]⟩ j k u))) e ⟨dz c++(dz d++n),0⟩ y:=h;have B:=U.aJ (t h);have q:=pj _ _ e 8 a9r _ (A _) h;rw[po c 8 _ K a9r H]at q;refine aa ?_;refine ai q ?_;rintro _ E ⟨m,F,rfl⟩;have G:=U.aJ (t m);have v:=λj k s w=>Df (w:=⟨a,b,[],(g:Int),(i:Int),[]⟩) (N:=j) (a:=k) (e5:=s) (h5:=w) (q:=c) p
   dsimp only at v m|-
   refine aa ?_;exact⟨2,⟨a9r,_,_,_,m.put _ r⟩,rfl,a9r⟩
  .have h:bX (o.set l (.cells (ab ⟨a,b,c,(g:Int),(i:Int),[]⟩ j k u))) e ⟨dz d++n,0⟩ y:=h;have B:=U.aJ (t h);have q:=pj _ _ e 8 a9r _ (A _) h;rw[po d 8 _ L a9r I]at q;refine aa ?_;refine ai q ?_;rintro _ E ⟨m,F,rfl⟩;have G:=U.aJ (t m);have v:=λj k s w=>sD (w:=⟨a,b,c,(g:Int),(i:Int),[]⟩) (N:=j) (e5:=k) (a:=s) (h5:=w) (q:=d) p
   dsimp only at v m|-
   refine aa ?_;exact⟨3,⟨a9r,_,_,_,m.put _ r⟩,rfl,a9r⟩
 .obtain rfl:f=3:=a9r;have h:bX (o.set l (.cells (ab ⟨a,b,c,(g:Int),(i:Int),d⟩ j k u))) e ⟨n,0⟩ y:=h;have e:=U.af (t h);have e:=U.aJ (h.get x (by rw[U.an _ _ M];exact z _ _ N));have ds:=cl b c g i d j k u;refine aa ?_;have m:=h.other (ob:= .cells (ab ⟨a,b,c,(g:Int),(i:Int),d⟩ j k u)) x;refine⟨_,U.a1,m.base ?_,_,_,_,rfl⟩;exact U.ae (U.ae (U.aq D z) (U.bG (U.aq D z) O)) C
theorem a1W (a b:Nat) (d:a<=b) (h:b<=1048576) (c:List UInt8):fA b ⟨fo a++c,0⟩=(a,⟨c,0⟩):=by have k:=qI (fo a) c;grind[kB,fA,fm,fo,UInt8.toNat_ofNat',Nat.shiftRight_eq_div_pow]
def FR (a:List UInt8) (b:Nat) (d:a.length<=b) (h:b<=1048576) (c:List UInt8):qH b ⟨hX a++c,0⟩=(a,⟨c,0⟩):=by unfold qH;rw[hX,a4W,a1W _ _ d h,qI];rfl
structure aK.In (t:aK):Prop where
 le:t.hx
 k:t.bL.In 8
 z:t.ck.In 8
def ti {a:List (List UInt8)}:aN 1 (bF a):=λc b=>by obtain⟨_,_,rfl⟩:=a5f.1 b;rfl
theorem a1X (j a:U) (h:Nat) (b:aK) (l:List UInt8) (E:j h=none) (c:b.In) (m:bX j h ⟨hi b++l,0⟩ a):
  AC Tryz.prog 110 [.ptr h 0] a λs n=>bX j h ⟨l,0⟩ n/\dE b s:=by
 obtain⟨e,a,t,o⟩:=b;obtain⟨⟨b,d,a3,_,_⟩,p,q⟩:=c
 dsimp only at*
 have c:hi ⟨e,a,t,o⟩++l=hX e++(UInt8.ofNat a.length::(a.flatMap hX++(ei t++(ei o++l)))):=by simp[hi]
 rw[c]at m;have c:=jq;refine aO hm Mv ?_;refine aP λs c=> ?_;rw[jq];obtain⟨v,A,m⟩:=m.new (ob:= .cells cy) c;refine aa ?_;have u:=CW _ _ h 16 a9r _ m;rw[FR _ _ b a9r]at u;refine ai u ?_;rintro _ b ⟨i,y,_,rfl⟩;have b:= @p6 e y
 dsimp only at i|-
 refine aa ?_;have z: ∀(d:List (List UInt8)) b c f,c.length=37->f.length=37->(bd e::R.J (bF d) b::(c++f)).length=76/\(bd e::R.J (bF d) b::(c++f)).take 76=bd e::R.J (bF d) b::(c++f)/\putAt cy 0 (bd e::R.J (bF d) b::(c++f))=bd e::R.J (bF d) b::(c++f):=λd b c f i w=>by
  have g:(bd e::R.J (bF d) b::(c++f)).length=76:=by simp[i,w]
  exact⟨g,a4K a9r,qm (by rw[g,fV.all.1])⟩
 obtain⟨g,B⟩: ∃g,ab aA .nil .nil .nil=g:=⟨_,rfl⟩;have x:g.length=37:=by rw[<-B];exact(aX bl).len
 have d:=fV.all.1;refine aP λk d=> ?_;obtain⟨r,C,w⟩:=i.new (ob:= .cells (bd e:: .J [] .nil::(g++g))) d;have D:=z [] .nil g g x x;rw[show bF []= []from rfl]at D;have D:s≠k:=by rintro rfl;rw[i.get v (U.ah _ _ _)]at d;cases d
 obtain⟨i,d⟩: ∃i,j.set s (.cells cy)=i:=⟨_,rfl⟩;have F:i h=none:=by rw[<-d,U.an _ _ (a4S v)];exact E
 have G:i s=some (.cells cy):=by rw[<-d,U.ah]
 have E:j.sub i:=by rw[<-d];exact U.ae U.a1 A
 rw[d]at w C;rw[B];refine aa ?_;have d:=ph _ _ h _ w;rw[qJ]at d;have j:(UInt8.ofNat a.length).toNat=a.length:=by rw[a5N];omega
 have s:min (a.length:Int) 8=(a.length:Int):=a9r;refine ai d ?_;rintro _ d ⟨w,rfl⟩;obtain⟨H,w⟩:=w;rw[j];refine aa ?_;have d: ∀j d,((i.set k j).set h d) h=some d:=λj d=>U.ah _ _ _;have B: ∀j,(i.set k j) h=none:=λj=>by rw[U.an _ _ (a4S r)];exact F
 have s: ∀ {j d n},bX (i.set k j) h d n->n k=some j:=λm=>m.get r (U.ah _ _ _);refine cj [0,2,3,11] (λd:Nat=> [(12,.v (.int .i64 d))]) (λd n=>d<=a.length/\ ∃b y,bj ((i.set k (.cells (bd e:: .J (bF (a.take d)) b::(g++g)))).set h (hV ⟨(a.drop d).flatMap hX++(ei t++(ei o++l)),0⟩ y)) n 1 (bF (a.take d)) b) (λd=>a.length - d) 0 ⟨⟨a9r,.nil,H,bj.nil w⟩,aU⟩ ?_;rintro d F ⟨m,b,m,w⟩ m;have n:=dm.rs w;have H:=U.af (s n);refine aa ?_;refine aH (λm=> ?_) λm=> ?_
 .have m:=a3 (a.getD d []) (by simp_all);have I:=drop_cons (a:=a) (b:= []) (e:=d) a9r;have y:=eU (a:=a) (b:= []) (e:=d) a9r;have u:=CW _ _ h 16 a9r _ n.full;rw[I,a5n,a4W,FR _ _ m a9r]at u;refine ai u ?_;rintro _ I ⟨u,K,_,rfl⟩;obtain⟨m,m⟩:=dm.step w (B _) u;have w:=s (dm.rs m);have L:=U.af w;have w:= @p6 (a.getD d []) K
  dsimp only at m|-
  refine aa ?_;refine jN (λw w=> ?_) (d:=ti (a:= [_]));have K:=λd=>hD (a:=a.take d);refine dq (m.mono (U.ae U.a1 w)) ti (ti (a:= [_])) (by simp[hD];omega) (by simp[hD];omega) λK m m=> ?_;have w:bF (a.take d)++ [bd (a.getD d [])]=bF (a.take (d+1)):=by rw[y];simp[bF,bd]
  rw[w]at m|-;clear y w;have L:=U.aJ (s (dm.rs m));refine aa ?_;have w:=m.set (l:=k) (ob:= .cells (bd e:: .J (bF (a.take (d+1))) K::(g++g))) (by rw[U.an _ _ r];exact U.ah _ _ _);rw[U.eg _ (a4S r),U.set_set]at w;grind
 .obtain rfl:d=a.length:=a9r;rw[a7s,a5h]at n;rw[a5h]at H;have y: ∀j,(i.set k j) h=none:=B;have d:=FQ _ F h t (ei o++l) (y _) p n;refine ai d ?_;rintro _ I ⟨u,j,k,n,rfl⟩;obtain⟨c,d⟩: ∃c,ab t j k n=c:=⟨_,rfl⟩;have i:c.length=37:=by rw[<-d];exact(aX p.sum).len
  have t:=U.aJ (s u);have t:putAt (bd e::R.J (bF a) b::(g++g)) 2 c=bd e::R.J (bF a) b::(c++g):=by simp only[putAt,a6E,a6s,i,a5K,a5d,Nat.reduceAdd,a6e];rw[<-x,a7g]
  have t:=u.put (.cells (bd e:: .J (bF a) b::(c++g))) r;have u:=z a b c g i x;rw[d];refine aa ?_;have u:=FQ _ _ h o l (y _) q t;refine ai u ?_;rintro _ h ⟨m,l,t,u,rfl⟩;obtain⟨f,h⟩: ∃f,ab o l t u=f:=⟨_,rfl⟩;have o:f.length=37:=by rw[<-h];exact(aX q.sum).len
  have L:=U.aJ (s m);have x:putAt (bd e::R.J (bF a) b::(c++g)) 39 f=bd e::R.J (bF a) b::(c++f):=by simp_all [putAt,a6E,a5K,Nat.reduceAdd,a6e,List.take,a7e,List.drop]
  have w:=m.put (.cells (bd e:: .J (bF a) b::(c++f))) r;have g:=z a b c f i o;have g:=U.aJ (m.get v (by rw[U.an _ _ D];exact G));have g:=U.af (s w);have g:=a4S D;rw[h];refine aa ?_;have g:=w.other (ob:= .cells (bd e:: .J (bF a) b::(c++f))) v;refine⟨_,U.a1,g.base ?_,_,rfl,⟨b,j,k,n,l,t,u,by rw[d,h]⟩,⟨p.sum,?_⟩,⟨q.sum,?_⟩,(show a.length<=1000000 by omega)⟩
  .exact U.ae (U.ae E (U.bG E C)) A
  .exact⟨a5J p.od a9v,a5J p.oe a9v,a5J p.og a9v⟩
  .exact⟨a5J q.od a9v,a5J q.oe a9v,a5J q.og a9v⟩
def aK.In.fit (a:e6.In):e6.Fit:=⟨by have:=a.le.n;omega,by have:=a.le.c;omega,λb c=>by have:=a.le.cs b c;omega⟩
theorem a1Y (b: ∀c∈b9,c.In):(b9.flatMap hi).length<=1000*b9.length:=by
 induction b9 with
 |nil=>simp
 |cons d b9 ih=>have a:=b d a9s;have:=yE a.le a.k.sum a.z.sum;grind
theorem a1Z (a:List aK) (b:Own) (c:U) (l:cB a=true) (g: ∀h∈a,h.In):
  AC Tryz.prog 59 [.J ((pH a).map ak) b] c λf e=>c.sub e/\ ∃d i,az dE a d/\f= .aL [.J d i,.v (.int .i64 0)]:=by
 obtain⟨f,f⟩:=mq l;have f:=a1Y g;have f:(pH a).length<=9000:=by rw[pH,a4O];omega
 refine mU λf=> ?_;have f:b= .nil->pH a= []:=λm=>by simp_all
 refine aO hm L7 ?_;have i:(UInt8.ofNat a.length).toNat=a.length:=by rw[a5N];omega
 have j:min (a.length:Int) 9=(a.length:Int):=a9r;refine ai (CK (pH a) b c f a9r) ?_;rintro _ b ⟨f,n,rfl,j⟩;refine aa ?_;have b:=ph _ _ f _ j;rw[pH,qJ]at b;refine ai b ?_;rintro _ b ⟨⟨j,k⟩,rfl⟩;rw[i];refine aa ?_;refine cj [0,4,13] (λb:Nat×List R×Own=> [(14,.v (.int .i64 b.1)),(5,.J b.2.1 b.2.2)]) (λb e=>b.1<=a.length/\az dE (a.take b.1) b.2.1/\ ∃i,bj (c.set f (hV ⟨(a.drop b.1).flatMap hi,0⟩ i)) e 76 b.2.1 b.2.2) (λb=>a.length - b.1) (0,[],.nil) ⟨⟨a9r,trivial,j,bj.nil k⟩,aU⟩ ?_;rintro⟨b,d,q⟩ j ⟨i,e,c,c⟩ k
 dsimp only at i e c|-
 have i:=dm.rs c;have k:d.length=b:=by rw[e.len,a4N];omega
 refine aa ?_;refine aH (λk=> ?_) λk=> ?_
 .have k:=drop_cons (a:=a) (b:=default) (e:=b) a9r;have r:=eU (a:=a) (b:=default) (e:=b) a9r;have k:=g (a.getD b default) (by simp_all);have o:=a1X (j.del f) j f (a.getD b default) ((a.drop (b+1)).flatMap hi) (by simp[U.del]) k (by have:=i.full;grind);refine ai o ?_;rintro j o ⟨j,k⟩;obtain⟨s,t⟩:=dm.step c n j;have u:=k;obtain⟨T,rfl,c⟩:=k;have p:=c.all.1;refine aa ?_;refine jN (λc k=> ?_) (d:=λm c=>by rw[a4Z]at c;subst c;exact p);refine dq (t.mono (U.ae U.a1 k)) (e.cells λ_ _ k=>by obtain⟨_,rfl,k⟩:=k;exact k.all.1) (λm c=>by rw[a4Z]at c;subst c;exact p) a9t a9t λk m m=> ?_;refine aa ?_;refine⟨(b+1,d++ [.agg T],k),⟨by simp only;omega,?_,s,m⟩,⟨rfl,rfl⟩,by simp only;omega⟩;simp only[r];exact e.snoc u
 .obtain rfl:b=a.length:=a9r;rw[a7s]at i;rw[a5h]at e;have c:=CR _ _ f _ i;refine ai c ?_;rintro _ o ⟨j,rfl⟩;have b:(ob ⟨List.flatMap hi [],0⟩).e=0:=rfl;refine aa ?_;have b:=FP a d q e (λh a=>(g h a).fit) a9r o;simp only[l,if_true]at b;refine ai b ?_;rintro _ a ⟨a,b,rfl⟩;refine aa ?_;refine bk (D0 _ _ _ _ _ a9r) ?_;have b:=U.aq (j.sub n) a;simp_all
theorem a2a (a:List (List UInt8)) (d:Own) (c:U) (C:a.length<=1000000):
  AC Tryz.prog 80 [.J (bF a) d] c λh k=>c.sub k/\ ∃o,h= .J (bF a) o:=by
 have D:=hD (a:=a);refine mU λE=> ?_;have p:d= .nil->bF a= []:=λF=>by simp_all
 refine bf hm LB a9s ?_;simp -dsimp -implicitDefEqProofs (disch:=first|omega|assumption|(simp only[aE,Nat.reduceAdd];try omega)) only[go_sem,simprocAttr,↓o9];refine oa (λb=>by rw[p b]) (λb=> ?_) ?_
 .have r:bF a= []:=by simpa using b
  rw[r];simp -dsimp -implicitDefEqProofs (disch:=first|omega|assumption|(simp only[aE,Nat.reduceAdd];try omega)) only[go_sem,simprocAttr,a5y];exact⟨c,U.a1,U.a1,_,rfl⟩
 .simp -dsimp -implicitDefEqProofs (disch:=first|omega|assumption|(simp only[aE,Nat.reduceAdd];try omega)) only[go_sem,simprocAttr];refine cJ U.a1 (by simp[aN]) λG L x=> ?_;simp -dsimp -implicitDefEqProofs (disch:=first|omega|assumption|(simp only[aE,Nat.reduceAdd];try omega)) only[go_sem,simprocAttr];refine dq (g:= []) x (λ_ b=>by cases b) ti (by rw[a4T];omega) (by rw[a4T];omega) λP y z=> ?_;simp -dsimp -implicitDefEqProofs (disch:=first|omega|assumption|(simp only[aE,Nat.reduceAdd];try omega)) only[go_sem,simprocAttr,a5d];exact⟨y,U.a1,z.sub,_,rfl⟩
structure cQ (b:U) (a gE c:Nat) (h:ag) (l:List aK):Prop where
 gh:bC b gE c h
 x: ∃d o,b a=some (.cells [.ptr gE 0,.J d o])/\az dE l d
 jr:a≠gE
 js:a≠c
def cz (c d h:Nat) (k o:U):Prop:= ∀a b,a≠c->a≠d->a≠h->k a=some b->o a=some b
theorem cz.of {lM:Nat}{s:U} (a:s.sub f):cz e i lM s f:=λb c _ _ _ d=>a b c d
def cz.ext (a:Ext e i f t):cz v e i f t:=λb c _ d h k=>a b c d h k
theorem cz.trans (k:cz e i v f t) (o:cz e i v t e7):cz e i v f e7:=λa b c d h p=>o a b c d h (k a b c d h p)
variable{Y:bq}
def cz.zw (b:cz e i v f t):cz e i v f (t.set e Y):=λc d a h k o=>by rw[U.an _ _ a];exact b c d a h k o
def cQ.sub (a:cQ f e i v H b9) (b:f.sub t):cQ t e i v H b9:=⟨a.gh.mono b,by obtain⟨c,d,h,k⟩:=a.x;exact⟨c,d,b _ _ h,k⟩,a.jr,a.js⟩
variable{N e5 h5:Own}
def cQ.put {b:List aK} (a:cQ f e i v H b) (c:az dE b9 g):cQ (f.set e (.cells [.ptr i 0,.J g N])) e i v H b9:=⟨a.gh.set ⟨a.jr,a.js⟩,⟨g,N,U.ah _ _ _,c⟩,a.jr,a.js⟩
def iQ (a:Except Int (List aK)) (b:List aK):Int×List aK:=match a with
 | .error c=>(c,b)
 | .ok d=>(0,d)
def a2b (b:U) (c r x:Nat) (C:ag) (a:List aK) (D:cQ b c r x C a) (f: ∀d∈a,d.Fit) (g:a.length<=1000) (h:cg):
  AC Tryz.prog 48 [.ptr c 0,h.V] b λE F=>cQ F c r x C (iQ (cN a h.d.table) a).2/\cz c r x b F/\E= .v (.int .i64 (iQ (cN a h.d.table) a).1):=by
 obtain⟨i,j,y,l⟩:=D.x;obtain⟨⟨G,d,L,P⟩,S,T⟩:=h
 dsimp only
 show AC Tryz.prog _ [.ptr c 0,.agg [ak G,bd d,.J (bF L) S,.J (ad P) T]] b _;refine aO hm KN ?_;refine br λV z=> ?_;have k:=U.ae (Y:= .cells [ak G,bd d,.J (bF L) S,.J (ad P) T]) (U.a1 (f:=b)) z;have s:=U.af y;have m:c≠V:=by rintro rfl;rw[y]at z;cases z
 have t:=m.symm;refine aa ?_;generalize b.set V _=n at*;refine ai (a1V a i j d l f g n) ?_;rintro E u ⟨o,p⟩;have v:=U.aJ (o _ _ (k _ _ y));have W:=D.sub (U.aq k o);cases e:cN a d with
 |error w=>rw[e]at p;obtain⟨A,rfl⟩:=p;refine aa ?_;exact⟨_,U.a1,W,cz.of (U.aq k o),rfl⟩
 |ok B=>rw[e]at p;obtain⟨H,q,rfl⟩:=p;refine aa ?_;exact⟨_,U.a1,W.put q,(cz.of (U.aq k o)).zw,rfl⟩
def a2c (d:U) (f c g:Nat) (h:ag) (a:List aK) (o:cQ d f c g h a) (q: ∀b∈a,b.Fit) (r:a.length<=1000) (e:cg) (m:e.d.Fit):
  AC Tryz.prog 47 [.ptr f 0,e.V] d λp i=>cQ i f c g h (iQ (kd a ⟨e.d.table,e.d.aC,aA,aA⟩) a).2/\cz f c g d i/\p= .v (.int .i64 (iQ (kd a ⟨e.d.table,e.d.aC,aA,aA⟩) a).1):=by
 obtain⟨s,t,g,u⟩:=o.x;obtain⟨⟨i,b,c,j⟩,h,k⟩:=e;obtain⟨v,l,w,e⟩:=m
 dsimp only at*
 show AC Tryz.prog _ [.ptr f 0,.agg [ak i,bd b,.J (bF c) h,.J (ad j) k]] d _;refine aO hm KL ?_;refine br λe m=> ?_;have n:=U.ae (Y:= .cells [ak i,bd b,.J (bF c) h,.J (ad j) k]) (U.a1 (f:=d)) m;have x:=U.af g;have x:f≠e:=by rintro rfl;rw[g]at m;cases m
 have f:=x.symm;refine aa ?_;have aI:=U.ah d e (.cells [ak i,bd b,.J (bF c) h,.J (ad j) k]);generalize d.set e _=d at*;refine ai (a2a c h d l) ?_;rintro _ m ⟨f,d,rfl⟩;have gf:=U.af (f _ _ (n _ _ g));have e:=U.af (f _ _ aI);refine aa ?_;rw[jq];have j:eu ⟨b,c,aA,aA⟩ (bd b:: .J (bF c) d::(ab aA .nil .nil .nil++ab aA .nil .nil .nil)):=⟨⟨d,_,_,_,_,_,_,rfl⟩,⟨bl,mf⟩,⟨bl,mf⟩,l⟩;have k:cy=bd []:: .J [] .nil::(ab aA .nil .nil .nil++ab aA .nil .nil .nil):=rfl;have x: ∀h i d:R,∀e:List R,putAt (h::i::e) 0 [d]=d::i::e:=λ_ _ _ _=>rfl;have y: ∀h i d:R,∀e:List R,putAt (h::i::e) 1 [d]=h::d::e:=λ_ _ _ _=>rfl;rw[k,x];generalize ab aA .nil .nil .nil++ab aA .nil .nil .nil=d at*;have d:=a1S a s t ⟨b,c,aA,aA⟩ _ j ⟨v,l,w⟩ u q r m;have e:=j.all.1;clear k j;refine aa ?_;refine ai d ?_;clear d;rintro p d ⟨h,d⟩;have e:=f _ _ (n _ _ g);have g:=U.aJ (h _ _ e);have e:=U.aq n (U.aq f h);have f:=o.sub e;cases g:kd a ⟨b,c,aA,aA⟩with
 |error a=>rw[g]at d;obtain⟨a,rfl⟩:=d;refine aa ?_;exact⟨_,U.a1,f,cz.of e,rfl⟩
 |ok a=>rw[g]at d;obtain⟨a,a,rfl⟩:=d;refine aa ?_;exact⟨_,U.a1,f.put a,(cz.of e).zw,rfl⟩
def mr (c:List aK) (b:cq):Int×Option aK:=match c.find? (λa=>decide (a.name=b.table))with
 |none=>(3,none)
 |some a=>if b.row.length=a.aC.length+1 then(0,some a)else(6,some a)
def FT (b:U) (f a c:Nat) (e:ag) (g:List aK) (h:cQ b f a c e g) (i:g.length<=1000) (d:cg) (n:d.d.Fit):
  AC Tryz.prog 82 [.ptr f 0,d.V] b λl a=>b.sub a/\match mr g d.d with
   |(c,none)=>l= .aL [.agg cy,.v (.int .i64 c)]
   |(c,some a)=> ∃T,eu a T/\l= .aL [.agg T,.v (.int .i64 c)]:=by
 obtain⟨q,r,m,s⟩:=h.x;obtain⟨⟨h,a,i,c⟩,j,k⟩:=d;obtain⟨d,d,d,d⟩:=n
 dsimp only at*
 have d:=bI (q:=c);show AC Tryz.prog _ [.ptr f 0,.agg [ak h,bd a,.J (bF i) j,.J (ad c) k]] b _;refine aO hm LG ?_;refine br λd n=> ?_;refine db λe o p t=> ?_;have p:=U.af m;have p:f≠d:=by rintro rfl;rw[m]at n;cases n
 have u:=p.symm;have p:f≠e:=by rintro rfl;rw[m]at o;cases o
 have f:=p.symm;refine aa ?_;rw[jq];have f:(cy).length=76:=fV.all.1;have m: ∀a T,eu a T->putAt cy 0 T=T:=λa T f=>(nH f).2.2.1;have f:(cy).take 76=cy:=fV.all.2.1;have f:putAt cy 0 cy=cy:=m _ _ fV;generalize p:cy=f at*;have u:b.sub ((b.set d (.cells [ak h,bd a,.J (bF i) j,.J (ad c) k])).set e (.cells f)):=U.ae (U.ae U.a1 n) o;have aI:((b.set d (.cells [ak h,bd a,.J (bF i) j,.J (ad c) k])).set e (.cells f)) d=some (.cells [ak h,bd a,.J (bF i) j,.J (ad c) k]):=by rw[U.an _ _ t,U.ah]
 have aM:=U.ah (b.set d (.cells [ak h,bd a,.J (bF i) j,.J (ad c) k])) e (.cells f);generalize (b.set d _).set e _=f at*;refine ai (find_spec g q r a s a9r f) ?_;rintro l _ ⟨rfl,f⟩;have h:=U.af aI;have h:=U.aJ aM;unfold Found at f;rw[p]at f;clear p;unfold mr
 dsimp only
 cases h:g.find? (λg=>decide (g.name=a))with
 |none=>
  rw[h]at f;obtain rfl:=f;refine aa ?_;refine aP λi a=> ?_;have j:i≠e:=by rintro rfl;rw[aM]at a;cases a
  have k:=j.symm;exact aU
 |some g=>
  rw[h]at f;obtain⟨T,h,rfl⟩:=f;obtain⟨f,f,f,_⟩:=h.all;have f:=m _ _ h;have f:=λb=>tg g T h b;clear m;refine aa ?_;refine aP λi a=> ?_;have j:i≠e:=by rintro rfl;rw[aM]at a;cases a
  have k:=j.symm;have b:i≠d:=by rintro rfl;rw[aI]at a;cases a
  have a:=b.symm;refine aa ?_;by_cases a:c.length=g.aC.length+1
  .have b:(c.length:Int)=((g.aC.length+1:Nat):Int):=a9r
   dsimp only
   rw[if_pos a];refine bk (f _) ?_;exact⟨T,h,rfl⟩
  .have b: ¬(c.length:Int)=((g.aC.length+1:Nat):Int):=a9r
   dsimp only
   rw[if_neg a];refine bk (f _) ?_;exact⟨T,h,rfl⟩
def a2d (a:U) (b c d:Nat) (h:ag) (k:List aK) (o:cQ a b c d h k):
  AC Tryz.prog 26 [.ptr b 0] a λp r=>r=a/\p= .ptr c 0:=by
 obtain⟨y,z,x,C⟩:=o.x;have D:=U.af x;refine aO hm Kh ?_
 repeat' first|refine aH (λ_=> ?_) λ_=> ?_|trivial
def FU (a:U):AC Tryz.prog 29 [] a λx p=> ∃b c d,x= .ptr b 0/\a.sub p/\a b=none/\a c=none/\a d=none/\cQ p b c d ag.new []:=by refine aO hm Kn ?_;refine ai (XZ a) ?_;rintro _ C ⟨c,d,y,z,rfl,r,h⟩;refine aa ?_;refine aP λb k=> ?_;refine aa ?_;have o:=r.cH k;exact⟨_,U.a1,b,c,d,rfl,U.ae h (U.bG h k),U.bG h k,y,z,r.set o,⟨[],.nil,U.ah _ _ _,trivial⟩,o.1,o.2⟩
def a2e (b:List aK) (a:List R) (d:Own) (c:U) (h:az dE b a) (p:b.length<=1000):
  AC Tryz.prog 45 [.J a d] c λk o=>c.sub o/\k= .J a .any:=
 (vk b a d c h p).view λk o r=>by
  obtain⟨x,y,z⟩:=ar.FL r h;exact⟨_,x,y,z,rfl⟩
def a2f (a:U) (o p r:Nat) (x:ag) (d:List aK) (y:cQ a o p r x d) (G:d.length<=1000):
  AC Tryz.prog 18 [.ptr o 0] a λL z=>a.sub z/\ ∃b,L= .ptr b 0/\a b=none/\cQ z b p r x d:=by
 obtain⟨C,P,D,E⟩:=y.x;have S:=U.af D;refine aO hm K1 ?_;refine ai (a2e d C P a E G) ?_;rintro _ T ⟨c,rfl⟩;have V:=U.af (c _ _ D);refine aa ?_;refine aP λb h=> ?_;refine aa ?_;have F:=y.gh.mono c;have k:=F.cH h;exact⟨_,U.a1,U.ae c (U.bG c h),b,rfl,U.bG c h,F.set k,⟨C,.any,U.ah _ _ _,E⟩,k.1,k.2⟩
def a2g (b:U) (p x y:Nat) (z:ag) (a:List aK) (C:cQ b p x y z a) (D: ∀d∈a,d.Fit) (h:cB a=true) (E: ∀d∈a,d.In):
  AC Tryz.prog 24 [.ptr p 0] b λk F=>b.sub F/\ ∃c o,k= .J c o/\az dE a c:=by
 obtain⟨c,o,G,L⟩:=C.x;have g:=U.af G;have i:=(mq h).2;refine aO hm Kd ?_;refine ai (FP a c o L D a9r b) ?_;rintro k P ⟨S,r⟩;rw[if_pos h]at r;obtain⟨T,rfl⟩:=r;refine aa ?_;refine ai (a1Z a T P h E) ?_;rintro k j ⟨V,W,e,f,rfl⟩;refine aa ?_;exact⟨U.aq S V,W,e,rfl,f⟩
theorem eu.FV (b:eu e6 g) (a:w.sum.length=32) (c:w.cF):eu ⟨e6.name,e6.aC,w,e6.ck⟩ (putAt g 2 (ab w N e5 h5)):=by obtain⟨⟨d,h,k,o,p,r,x,rfl⟩,⟨y,D⟩,z,C⟩:=b;have E:=(aX (N:=h) (e5:=k) (h5:=o) y).len;have F:=(aX (N:=N) (e5:=e5) (h5:=h5) a).len;refine⟨⟨d,N,e5,h5,p,r,x,?_⟩,⟨a,c⟩,z,C⟩;grind[putAt,ab,List.drop_left']
theorem eu.FW (k:eu e6 g) (a:w.sum.length=32) (o:w.cF):eu ⟨e6.name,e6.aC,e6.bL,w⟩ (putAt g 39 (ab w N e5 h5)):=by obtain⟨⟨p,b,c,d,r,x,y,rfl⟩,⟨h,z⟩,⟨C,E⟩,D⟩:=k;have F:=(aX (N:=b) (e5:=c) (h5:=d) h).len;have G:=(aX (N:=N) (e5:=e5) (h5:=h5) a).len;have L:=(aX (N:=r) (e5:=x) (h5:=y) C).len;refine⟨⟨p,b,c,d,N,e5,h5,?_⟩,⟨h,z⟩,⟨a,o⟩,D⟩;grind[putAt,ab,List.take_left',List.drop_eq_nil_of_le,List.length_append]
def fE (p r:ag->Except Int ay×ag) (x:ag) (a:List aK) (b:aK):Int×List aK×ag:=match p x with
 |(.error c,d)=>(c,a,d)
 |(.ok k,d)=>match r d with
  |(.error c,h)=>(c,a,h)
  |(.ok o,h)=>((iQ (ke a ⟨b.name,b.aC,k,o⟩) a).1,(iQ (ke a ⟨b.name,b.aC,k,o⟩) a).2,h)
def jt (a c:Nat) (h:FuncId) (k:ag->Except Int ay×ag) (o:ay) (p:List Int) (r:Nat):Prop:=
 ∀(b:U) (d:ag) (x y z C:Own),bC b a c d->AC Tryz.prog h [.ptr a 0,.agg (ab o x y z),.J (ad p) C,.v (.int .i64 (r:Int))] b λD E=>z1 b E a c (k d) D
theorem FX (j:U) (e p q:Nat) (f:ag) (b:List aK) (d:cQ j e p q f b) (V: ∀a∈b,a.Fit) (W:b.length<=1000) (a:aK) (t:List R) (I:eu a t) (K:a.Fit) (c:List Int) (A:Own) (i k:FuncId) (g h:ag->Except Int ay×ag)
  (n:gl Tryz.prog i=true) (X:gl Tryz.prog k=true) (L:jt p q i g a.bL c (a.aC.length+1)) (M:jt p q k h a.ck c (a.aC.length+1)):
  AC Tryz.prog 83 [.ptr e 0,.agg t,.J (ad c) A,.bH i [] [],.bH k [] []] j λB c=>B= .v (.int .i64 (fE g h f b a).1)/\cQ c e p q (fE g h f b a).2.2 (fE g h f b a).2.1/\cz e p q j c:=by
 obtain⟨C,r,l,D⟩:=d.x;have c:=U.af l;obtain⟨c,c,c,c,o,s,y,Y,Z,j9,c,c,c⟩:=I.all;have x:=λj=>tg a t I j;have c:(match g f with
  |(.error u,i)=>(u,b,i)
  |(.ok E,i)=>match h i with
   |(.error u,v)=>(u,b,v)
   |(.ok F,v)=>((iQ (ke b ⟨a.name,a.aC,E,F⟩) b).1,(iQ (ke b ⟨a.name,a.aC,E,F⟩) b).2,v))=fE g h f b a:=rfl
 generalize fE g h f b a=k at*;refine aO hm LI ?_;refine br λk w=> ?_;have P:e≠k:=by rintro rfl;rw[l]at w;cases w
 have m:=P.symm;have m:=U.ae (Y:= .cells t) (U.a1 (f:=j)) w;have bD:=U.ah j k (.cells t);refine bk (x _) ?_;have x:=d.gh.cH w;generalize j.set k _=z at*;have G:=d.gh.mono m;have N:=m _ _ l;refine fJ n (L z f o s y A G) ?_;rintro B H ⟨o,l,Q⟩;have ca:=l _ _ d.jr d.js N;have N:=l _ _ x.1 x.2 bD;have S:=cz.trans (cz.of (e:=e) (i:=p) (lM:=q) m) (cz.ext l);generalize g f=f at*;obtain⟨g,i⟩:=f;cases g with
 |error u=>
  obtain⟨T,k0,l,m,n,y,rfl⟩:=Q
  dsimp only at c o
  have k1:=(aX (N:=l) (e5:=m) (h5:=n) y).all;have G:=lD (N:=l) (e5:=m) (h5:=n) y;refine aa ?_;refine aP λs f=> ?_;refine aa ?_;refine⟨_,U.a1,by rw[<-c],?_,S.trans (cz.of (U.ae U.a1 f))⟩;rw[<-c];exact⟨o.mono (U.ae U.a1 f),⟨C,r,U.ae U.a1 f _ _ ca,D⟩,d.jr,d.js⟩
 |ok z=>
  obtain⟨O,k2,l,m,n,rfl⟩:=Q
  dsimp only at c o
  have g:=(aX (N:=l) (e5:=m) (h5:=n) O).all;have G:=lD (N:=l) (e5:=m) (h5:=n) O;refine aa ?_;refine aP λs f=> ?_;have g:e≠s:=by rintro rfl;rw[ca]at f;cases f
  have Q:=g.symm;have g:k≠s:=by rintro rfl;rw[N]at f;cases f
  have Q:=g.symm;have gf:=U.af ca;have Q:=U.af N;refine aa ?_;have g:=U.ae (Y:= .cells (ab z l m n)) (U.a1 (f:=H)) f;have jd:=U.ah H s (.cells (ab z l m n));have cX:=g _ _ ca;have k3:=g _ _ N;have k4:=o.mono g;have N:=o.cH f;have o:=S.trans (cz.of g);generalize H.set s _=f at*;clear gf Q G;refine fJ X (M f i Y Z j9 A k4) ?_;rintro B A ⟨H,f,Q⟩;have dZ:=f _ _ d.jr d.js cX;have S:=f _ _ x.1 x.2 k3;have X:=f _ _ N.1 N.2 jd;have N:=o.trans (cz.ext f);generalize h i=f at*;obtain⟨cI,v⟩:=f;cases cI with
  |error u=>
   obtain⟨T,k0,f,g,h,y,rfl⟩:=Q
   dsimp only at c H
   have k1:=(aX (N:=f) (e5:=g) (h5:=h) y).all;have G:=lD (N:=f) (e5:=g) (h5:=h) y;refine aa ?_;refine aP λo i=> ?_;refine aa ?_;refine⟨_,U.a1,by rw[<-c],?_,N.trans (cz.of (U.ae U.a1 i))⟩;rw[<-c];exact⟨H.mono (U.ae U.a1 i),⟨C,r,U.ae U.a1 i _ _ dZ,D⟩,d.jr,d.js⟩
  |ok cc=>
   obtain⟨y,Y,f,g,h,rfl⟩:=Q
   dsimp only at c H
   have Q:=(aX (N:=f) (e5:=g) (h5:=h) y).all;have G:=lD (N:=f) (e5:=g) (h5:=h) y;refine aa ?_;refine aP λo i=> ?_;have G:k≠o:=by rintro rfl;rw[S]at i;cases i
   have Q:=G.symm;have G:s≠o:=by grind
   have s:=G.symm;have G:e≠o:=by rintro rfl;rw[dZ]at i;cases i
   have s:=G.symm;have s:=U.af X;have s:=U.aJ S;have Q:=I.FV (N:=l) (e5:=m) (h5:=n) O k2;have s:=Q.FW (N:=f) (e5:=g) (h5:=h) y Y;have y:=Q.all.1;have y:=s.all.1;have y:=s.all.2.1;have y:=a1T b C r ⟨a.name,a.aC,z,cc⟩ _ s ⟨K.n,K.c,K.cs⟩ D V W;have gf:=U.af dZ;have I: ∀s r,s≠o->A s=some r->(A.set o (.cells (ab cc f g h))) s=some r:=λs r K M=>by rw[U.an _ _ K];exact M
   refine aa ?_;generalize putAt (putAt t 2 (ab z l m n)) 39 (ab cc f g h)=l at*;have m:cQ ((A.set o (.cells (ab cc f g h))).set k (.cells l)) e p q v b:=⟨(H.mono (U.ae U.a1 i)).set x,⟨C,r,by rw[U.an _ _ P];exact I _ _ G dZ,D⟩,d.jr,d.js⟩;have n:cz e p q j ((A.set o (.cells (ab cc f g h))).set k (.cells l)):=λs e E F f d=>by
    have L:s≠k:=by rintro rfl;rw[w]at d;cases d
    rw[U.an _ _ L];exact U.ae U.a1 i _ _ (N s e E F f d)
   generalize (A.set o _).set k _=d at*;refine ai (y d) ?_;clear y;rintro B d ⟨e,d⟩;have f:=m.sub e;obtain⟨g,g,ej,g⟩:=f.x;have g:=U.aJ ej;have g:=n.trans (cz.of e);cases e:ke b ⟨a.name,a.aC,z,cc⟩with
   |error u=>
    rw[e]at d c;obtain⟨T,rfl⟩:=d
    dsimp only[iQ]at c
    refine aa ?_;grind
   |ok a=>
    rw[e]at d c;obtain⟨a,a,rfl⟩:=d
    dsimp only[iQ]at c
    refine aa ?_;exact⟨_,U.a1,by rw[<-c],by rw[<-c];exact f.put a,g.zw⟩
def vm (a:b9.find? (λe6=>decide (e6.name=B))=some e6):e6∈b9:=List.mem_of_find?_eq_some a
def jt.a2h (c:w.sum.length=32) (d:w.cF) (h:w.size<=2000000) (k:1<=e) (o:e<=8) (p:q.length=e):jt i v 84 (λa=>nD e q a w) w q e:=
 λr a x y z C D=>(a1t r i v a D w x y z c d h q C e k o p).mono λE F b=>⟨b.1,b.2.1,b.2.2.x⟩
def jt.a2i (b:w.sum.length=32) (c:w.cF) (d:w.size<=2000000) (h:1<=e) (k:e<=8) (o:q.length=e):jt i v 86 (λa=>iP e q a w) w q e:=
 λp a r x y z C=>a1w p i v a C w r x y b c d q z e h k o
def jt.a2j (c:w.sum.length=32) (d:w.cF) (h:1<=e) (k:e<=8) (o:q.length=e):jt i v 85 (λa=>iJ e q a w) w q e:=
 λp a r x y z C=>(YP p i v a C w r x y c d q z e h k o).mono λD E b=>⟨b.1,b.2.1,b.2.2.x⟩
def jt.a2k (c:w.sum.length=32) (d:w.cF) (h:1<=e) (k:e<=8) (o:q.length=e):jt i v 87 (λa=>kH e q a w) w q e:=
 λp a r x y z C=>(YX p i v a C w r x y c d q z e h k o).mono λD E b=>⟨b.1,b.2.1,b.2.2.x⟩
def ju (a:ag) (c:List aK) (d:cq):Int×List aK×ag:=match mr c d with
 |(_,none)=>(3,c,a)
 |(h,some b)=>if h=0 then fE (λa=>iP (b.aC.length+1) d.row a b.bL) (λa=>kH (b.aC.length+1) d.row a b.ck) a c b else(h,c,a)
theorem a2l (f:U) (h j k:Nat) (c:ag) (d:List aK) (l:cQ f h j k c d) (r: ∀b∈d,b.Fit) (e:cB d=true) (a:cg) (n:a.d.Fit):
  AC Tryz.prog 50 [.ptr h 0,a.V] f λm g=>m= .v (.int .i64 (ju c d a.d).1)/\cQ g h j k (ju c d a.d).2.2 (ju c d a.d).2.1/\cz h j k f g:=by
 obtain⟨t,i⟩:=mq e;have e:(match mr d a.d with
  |(_,none)=>(3,d,c)
  |(i,some b)=>if i=0 then fE (λc=>iP (b.aC.length+1) a.d.row c b.bL) (λc=>kH (b.aC.length+1) a.d.row c b.ck) c d b else(i,d,c))=ju c d a.d:=rfl
 generalize ju c d a.d=i at*;have o:=λg i=>FT g h j k c d i a9r a n;have g:a.V= .agg [ak a.d.kind,bd a.d.table,.J (bF a.d.aC) a.gy,.J (ad a.d.row) a.dp]:=rfl;obtain⟨n,n,n,p⟩:=l.x;rw[g]at o|-;clear g;have g:=U.af n;have g:(cy).length=76:=fV.all.1;refine aO hm KR ?_;refine br λn g=> ?_;have p:=U.ae (Y:= .cells [ak a.d.kind,bd a.d.table,.J (bF a.d.aC) a.gy,.J (ad a.d.row) a.dp]) (U.a1 (f:=f)) g;have aI:=U.ah f n (.cells [ak a.d.kind,bd a.d.table,.J (bF a.d.aC) a.gy,.J (ad a.d.row) a.dp]);generalize f.set n _=f at*;have q:=l.sub p;refine ai (o f q) ?_;rintro m f ⟨g,f⟩;have s:=g _ _ aI;have l:=U.af s;have u:=q.sub g;have v:=U.aq p g;have o: ∀b T,eu b T->putAt cy 0 T=T:=λb T i=>(nH i).2.2.1;have g:(cy).take 76=cy:=fV.all.2.1;have g:putAt cy 0 cy=cy:=o _ _ fV;have p:=jq;generalize cy=g at*;unfold mr at f e;cases g:d.find? (λb=>decide (b.name=a.d.table))with
 |none=>
  rw[g]at f e
  dsimp only at f e
  obtain rfl:=f;refine aa ?_;refine aP λq i=> ?_;rw[p];refine aa ?_;grind[U.a1,U.ae,cz.of,U.aq]
 |some b=>
  rw[g]at f e;have hm:=vm g
  dsimp only at f e
  by_cases l:a.d.row.length=b.aC.length+1
  .rw[if_pos l]at f e;obtain⟨T,g,rfl⟩:=f;obtain⟨w,x,y,_⟩:=g.all;have z:=o _ _ g;refine aa ?_;refine aP λq i=> ?_;rw[p]
   dsimp only at e
   rw[if_pos rfl]at e;have A:n≠q:=by rintro rfl;rw[s]at i;cases i
   have n:=A.symm;obtain⟨s,A⟩:=g.k;obtain⟨B,C⟩:=g.z;have n:=t b hm;have t:=n.c;have t:=n.k.size;have n:=u.sub (U.ae (Y:= .cells T) U.a1 i);have t:=FX _ h j k c d n r a9r b T g (r b hm) a.d.row a.dp 86 87 _ _ a9w a9w (jt.a2i s A a9r a9r a9r l) (jt.a2k B C a9r a9r l);refine aa ?_;refine ai t ?_;rintro m a ⟨rfl,a,b⟩;refine aa ?_;exact⟨_,U.a1,by rw[<-e];exact a,(cz.of (U.aq v (U.ae U.a1 i))).trans b⟩
  .rw[if_neg l]at f e;obtain⟨T,g,rfl⟩:=f;obtain⟨w,x,y,_⟩:=g.all;have z:=o _ _ g;refine aa ?_;refine aP λq i=> ?_;rw[p];refine aa ?_
   dsimp only at e
   rw[if_neg a9v]at e;grind[U.a1,U.ae,cz.of,U.aq]
def vn (d:ag) (h:List aK) (k:List UInt8) (o:List (List Int)) (b:R):Prop:=match h.find? (λa=>decide (a.name=k))with
 |none=>b= .aL [.J [] .nil,.v (.int .i64 3)]
 |some a=>match en d (a.aC.length+1) (a.bL.size.toNat+1) a.bL with
  |none=>b= .aL [.J [] .nil,.v (.int .i64 21)]
  |some _=> ∃c,b= .aL [.J c .any,.v (.int .i64 0)]/\az isRow o c
def a2m (c:U) (k n o:Nat) (e:ag) (d:List aK) (p:cQ c k n o e d) (b:cB d=true) (f:List UInt8) (i:List (List Int))
  (u: ∀a g,d.find? (λa=>decide (a.name=f))=some a->en e (a.aC.length+1) (a.bL.size.toNat+1) a.bL=some g->i.Perm g/\i.Pairwise λh j=> ¬fR j h<0):
  AC Tryz.prog 27 [.ptr k 0,bd f] c λl m=>c.sub m/\vn e d f i l:=by
 obtain⟨v,h⟩:=mq b;obtain⟨j,t,q,w⟩:=p.x;have b:=U.af q;have b:(cy).length=76:=fV.all.1;have r: ∀a T,eu a T->putAt cy 0 T=T:=λa T h=>(nH h).2.2.1;have b:putAt cy 0 cy=cy:=r _ _ fV;have s:=jq;have b:=find_spec d j t f w a9r c;unfold Found at b;unfold vn;generalize cy=j at*;refine aO hm Kj ?_;refine ai b ?_;clear b;rintro l w ⟨rfl,b⟩;cases j:d.find? (λa=>decide (a.name=f))with
 |none=>rw[j]at b;obtain rfl:=b;refine aa ?_;refine aP λt d=> ?_;rw[s];exact aU
 |some a=>
  rw[j]at b;obtain⟨T,f,rfl⟩:=b;obtain⟨b,b,b,b,x,y,z,b,b,b,b,b,b⟩:=f.all;have b:=r _ _ f;have r:=λc=>tg a T f c;have hm:=vm j;have b:=v a hm;have c:=b.c;have c:=b.k.size;refine aa ?_;refine aP λt d=> ?_;rw[s];have b:k≠t:=by rintro rfl;rw[q]at d;cases d
  have c:=b.symm;have c:=U.ae (Y:= .cells T) (U.a1 (f:=w)) d;have b:=p.sub c;obtain⟨d,k⟩:=f.k;have f:=λm h=>a1z m n o e h a.bL x y z d k a9r (a.aC.length+1) a9r a9r i (λg h=>u a g j h);refine aa ?_;refine bk (r _) ?_;refine ai (f _ b.gh) ?_;rintro l b ⟨d,b⟩
  dsimp only
  cases f:en e (a.aC.length+1) (a.bL.size.toNat+1) a.bL with
  |none=>rw[f]at b;obtain rfl:=b;refine aa ?_;exact U.aq c d
  |some g=>rw[f]at b;obtain⟨a,rfl,e⟩:=b;refine aa ?_;exact⟨U.aq c d,a,rfl,e⟩
structure vo (c:ag) (d:Nat) (aV aW:List Int) (a:ay) (rows:List (List Int)):Prop where
 one:rows.length<=1
 sound: ∀b∈rows,nB c d aV aW a b
 full:rows= []->ev aV aW a=true-> ∀b,¬nB c d aV aW a b
def vp (a:ag) (b:Nat) (c d:List Int) (h:ay):Prop:= ∃k,lC a b c d h k/\ev c d h=true/\fq a b k=none
structure zx where
 rows:List (List Int)
 us:List R
 L:R
 bJ:List ay
 es:List R
 oI:R
structure vq (c:ag) (d:Nat) (aV aW:List Int) (b:ay) (A:iq) (B:U) (h:Nat) (x:zx) (o:U):Prop where
 at_:dK A B o h x.us x.L x.es x.oI
 vr:az isRow x.rows x.us
 rd: ∀a∈x.rows,a.length=d
 zy:x.rows.length<=1
 pN:az r6 x.bJ x.es
 qA: ∀a∈x.rows,nB c d aV aW b a
 or: ∀k∈x.bJ,lC c d aV aW b k/\ev aV aW b=true/\1<=gi k
 co:x.rows= []->ev aV aW b=true-> ∀a,nB c d aV aW b a-> ∃k∈x.bJ,nB c d aV aW k a
 qz:(x.bJ.map gi).sum<=2097152
variable{e0:c5}
def lC.snoc {a:ay} (c:lC H e q b6 j2 a) (b:fq H e a=some e0) (d:w∈e0.kids) (h:ev q b6 w=true):lC H e q b6 j2 w:=by
 induction c with
 |refl p=>exact .step b d h (.refl _)
 |step h1 k o _ ih=>exact .step h1 k o (ih b)
theorem zz: ∀ {ks:List ay},(∀a∈ks,1<=gi a)->ks.length<=(ks.map gi).sum
 | [],_=>a5m _
 |a::ks,b=>by
  have:=zz (ks:=ks) λa c=>b a (by simp[c]);grind
def vq.len {c:ag}{d:Nat}{h k:List Int}{o:ay}{p:iq}{r:U}{x:Nat}{b:zx}{y:U} (a:vq c d h k o p r x b y):b.es.length<=2097152:=by rw[a.pN.len];exact a5J (zz λz C=>(a.or z C).2.2) a.qz
theorem a2n (N:U) (k6 b03:Nat) (j:ag) (b50:bC N k6 b03 j) (C:ay) (n2 n3 n4:Own) (b04:C.sum.length=32) (b51:C.cF) (p r:List Int) (n5 n9 a00:Own) (E:Nat) (u:cU p r E=true) (c29:C.size<=1048576) (b05:ev p r C=true->1<=C.size):
  AC Tryz.prog 38 [.ptr k6 0,.agg (ab C n2 n3 n4),.agg (nz p r n5 n9 a00),.v (.int .i64 (E:Int))] N λa36 F=>N.sub F/\
   ((vp j E p r C/\ ∃c l,a36= .aL [.agg [c,l],.v (.int .i64 0),.v (.int .i64 21)])\/
   ∃rows O z v w,vo j E p r C rows/\ar N F 1 O z/\az isRow rows O/\(∀k∈rows,k.length=E)/\a36= .aL [.agg [z,.v (.int .i64 v)],.v (.int .i64 w),.v (.int .i64 0)]):=by
 obtain⟨b06,c30,b07,a38⟩:=lp u;have b52:=(aX (N:=n2) (e5:=n3) (h5:=n4) b04).all;refine aO hm Kv ?_;refine br λa42 c31=> ?_;refine db λb08 c32 c33 c34=> ?_;refine hq λa01 a43 c35 c2 aI aM=> ?_;generalize k7:((N.set a42 _).set b08 _).set a01 _=e;have a02:N.sub e:=by subst k7;exact aU
 have bp:e a42=some (.cells (ab C n2 n3 n4)):=by subst k7;exact aU
 have bD:e b08=some (.cells (nz p r n5 n9 a00)):=by subst k7;exact aU
 have bw:e a01=some (.cells [.J [] .nil,.v (.int .i64 0)]):=by subst k7;exact aU
 clear k7;have b53:=b50.mono a02;refine bk (a1e p r _ _ _ E a9r e) ?_;rw[u];have b54:=U.af bp;have b55:=U.af bD;refine aa ?_;refine aP λd j9=> ?_;have b09:a42≠d:=by rintro rfl;rw[j9]at bp;cases bp
 have b56:=b09.symm;have b57:a01≠d:=by rintro rfl;rw[j9]at bw;cases bw
 have c36:=b57.symm;refine aa ?_
 let b:iq:=⟨k6,p,r,n5,n9,a00,E⟩;have b10:dK b e (e.set d (.cells (lB k6 p r n5 n9 a00 E (.J [] .nil) 0 0 0 (.J [] .nil)))) d [] (.J [] .nil) [] (.J [] .nil):=
  ⟨j9,⟨0,0,0,U.ah _ _ _⟩,ar.nil (U.ae U.a1 j9),⟨U.ae U.a1 j9,(λ_ a=>by cases a),.inl ⟨rfl,.inl rfl⟩⟩,(λa=>by cases a),(λa=>by cases a),λ_ a=>by cases a⟩
 refine ai (Fk b e _ d [] _ [] _ b10 C n2 n3 n4 b04 b51 (by show p.length<=8;omega) a9s) ?_;rintro _ b58 ⟨b59,b60,a47,k0⟩;have a03: ∃b11,vq j E p r C b e d ⟨[],[],.J [] .nil,b11,b60,b59⟩ b58:=by
  have b61:gi C<=2097152:=by unfold gi;omega
  split at k0
  .rename_i A;obtain⟨b62,a48,rfl⟩:=k0;exact⟨[C],a47,trivial,(λ_ a=>by cases a),a5q _,⟨a48,trivial⟩,(λ_ a=>by cases a),(λy a52=>by
    obtain rfl:=a4Z.1 a52;have:=b05 A;exact⟨.refl _,A,by unfold gi;omega⟩),(λ_ _ k x=>⟨C,a9s,x⟩),by simpa using b61⟩
  .rename_i A;subst k0;exact⟨[],a47,trivial,(λ_ a=>by cases a),a5q _,trivial,(λ_ a=>by cases a),(λ_ a=>by cases a),(λ_ a=>absurd a A),a5q _⟩
 obtain⟨b11,a03⟩:=a03;refine aa ?_;refine cj [0,3,8,11] (λ_:zx=> []) (λc F=>vq j E p r C b e d c F) (λc=>(c.bJ.map gi).sum) _ ⟨a03,aU⟩ ?_;clear a03 a47 k0 b10 b54 b55 b09 b56 bp bD b52 j9;rintro⟨rows,O,z,b12,a04,c37⟩ F o c38;have m:=o.at_
 dsimp only at m
 have c39:=m;obtain⟨v,w,k8,b13⟩:=m.x;obtain⟨c40,c41⟩:=m.w.len;have gf:=U.af b13;refine aa ?_;refine aH (λa05=> ?_) λa05=> ?_;rotate_left;have a56:=o.pN.len
 .have c42: ¬(0:Int)<(a04.length:Int):=a05;have b14:a04= []:=a4P a9r;have b63:b12= []:=a4P (by rw[b14]at a56;exact a56.symm);subst b14;subst b63;have b64:=U.aJ (m.l.1 _ _ bw);have c43:=fL m.l;refine aa ?_;refine⟨_,U.a1,U.ae (U.aq a02 m.l.1) a43,.inr ⟨rows,O,z,v,w,⟨o.zy,o.qA,λf B k x=> ?_⟩,ar.other (m.l.base a02) a43 (λG=> ?_),o.vr,o.rd,rfl⟩⟩
  .obtain⟨y,a52,_⟩:=o.co f B k x;cases a52
  .have:=ar.fresh m.l G;rw[bw]at this;cases this
 have a56:=o.pN.len;have b65:a04≠ []:=by grind
 obtain⟨b15,b16,post,b17,b18,c44,b19⟩:=m.sort b65;obtain⟨c45,b20⟩:=oH.of (s:=F) (l:=b15) (g:=b16) (A:=post) (e1:=a04) (b4:=71) (ds:= []) (d:= []) a9w λa06 a57 a61 u=>by
  obtain⟨y,_,f⟩:=o.pN.mem a57;obtain⟨S,_,B⟩:=o.pN.mem u;obtain⟨a05,b66⟩:=a1d f B;exact⟨a05,λa62 _=>b66 _⟩
 rw[b17];clear gf b17;refine ai (Fb a0X a0R a0N a0P a0L a0J a9r rfl b18 (a5J o.len a9r) b20 λG Q=> ?_) ?_
 .obtain⟨y,_,f,_,L,P,T,c,l,id,b67,rfl⟩:=o.pN.mem Q;obtain⟨X,Y,_⟩:=uY (N:=L) (e5:=P) (h5:=T) (e:=c) (i:=l) (b1:=id) (a:=b67) f;exact⟨X,by rw[hP,aY,if_pos rfl,Y]⟩
 rintro _ _ ⟨a62,k1,rfl⟩;have k9:=b19 a62 k1;obtain⟨b68,l0,b69⟩:=o.pN.perm k1
 match a62,b68,b69,k1,l0,k9 with
 | [],_,_,k1,_,_=>exact absurd k1.length_eq (by simp_all)
 |G::k2,y::H,⟨b70,b21⟩,k1,l0,k9=>
 obtain⟨v,w,k8,a63⟩:=k9.x;obtain⟨D,c46,c47,a65,c48,c49,b71,b22⟩:=k9.tail;generalize W F b15 b16 post (G::k2)=a07 at*;have gf:=U.af a63;have a68:=U.aJ a63;clear b19 b20 b18 b13;obtain⟨l1,b72,L,P,T,b73,b74,b75,b76,rfl⟩:=b70;have b23:=(uY (N:=L) (e5:=P) (h5:=T) (e:=b73) (i:=b74) (b1:=b75) (a:=b76) l1).2.2.1;rw[hP,b23]at b22;have c50:=(aX (N:=L) (e5:=P) (h5:=T) l1).all;have b24:=lD (N:=L) (e5:=P) (h5:=T) l1;refine aa ?_;refine aP λk3 a69=> ?_;have b25:d≠k3:=by rintro rfl;rw[a63]at a69;cases a69
 have b26:=b25.symm;refine aa ?_;have a71:(a07.set d (.cells (lB b.gE b.aV b.aW b.hv b.eX b.ht b.d z v w k8 D))) k3=none:=(U.an _ _ b26).trans a69;have a73:=(a65 v w k8).fresh a71;have b27:=(a65 v w k8).mono (U.ae (Y:= .cells (ab y L P T)) U.a1 a71);rw[U.eg a07 b25]at b27;have jd:((a07.set k3 (.cells (ab y L P T))).set d (.cells (lB b.gE b.aV b.aW b.hv b.eX b.ht b.d z v w k8 D))) k3=some (.cells (ab y L P T)):=(U.an _ _ b26).trans (U.ah _ _ _);generalize (a07.set k3 (.cells (ab y L P T))).set d _=a74 at*;clear a71 a65 b71 b22 b23 a68 gf k9 b24;obtain⟨b77,l2⟩:=b27.wide;have b78:res (kc d z D) a74 k3=some (.cells (ab y L P T)):=by
  rw[oJ];exact jd;rintro(a|a|a)
  .exact a73.x a
  .exact a73.l a
  .exact a73.w a
 generalize res (kc d z D) a74=b79 at*;have c51:(b12.map gi).sum=gi y+(H.map gi).sum:=by rw[<-(l0.map gi).sum_nat];simp
 have I: ∀S∈y::H,lC j E p r C S/\ev p r C=true/\1<=gi S:=λS g=>o.or S (l0.mem_iff.1 g);have b80:=o.qz
 dsimp only at b80
 refine ai (a1m b b79 a74 d O rows z k2 D b77 o.vr o.rd a38 b06 y L P T l1) ?_;rintro _ b28 ⟨s,a61,rfl,b81⟩;have b82:=U.af (s.l.1 _ _ b78);refine aa ?_;refine aH (λu=> ?_) λu=> ?_
 .have b05:=b81 u;refine⟨⟨rows,O,z,H,k2,D⟩,⟨s.base l2,o.vr,o.rd,o.zy,b21,o.qA,λS g=>I S (by simp[g]),λa=> ?_,?_⟩,?_⟩;simp_all
  .show(H.map gi).sum<= _;omega
  grind
 have b29:=(b53.mono l2).mono s.l.1;refine ai (xA b28 k6 b03 j b29 y L P T l1 b72 E b07 a38) ?_;rintro a36 K ⟨a81,a08⟩;cases M:fq j E y with
 |none=>
  rw[M]at a08;obtain rfl:=a08;have b30:=a81 _ _ (s.l.1 _ _ (l2 _ _ bw));refine aa ?_;refine aP λn t=> ?_;have b83:a01≠n:=by rintro rfl;rw[b30]at t;cases t
  have c52:=b83.symm;have b64:=U.aJ b30;refine aa ?_;have b31:N.sub K:=U.aq a02 (U.aq l2 (U.aq s.l.1 a81));refine⟨_,U.a1,U.ae (U.ae b31 (U.bG b31 t)) a43,.inl ⟨⟨y,(I y a9s).1,(I y a9s).2.1,M⟩,_,_,rfl⟩⟩
 |some h=>
  rw[M]at a08;obtain⟨c,l,rfl,c53,c54,c55,k4,l3,a09,a83,_,_⟩:=a08;have a10:=s.mono a81;obtain⟨l4,Z,l5,a11⟩:=a10.x;have c56:=fL k4;have c57:=fL l3;refine aa ?_;refine aP λn t=> ?_;have b32:d≠n:=by rintro rfl;rw[a11]at t;cases t
  have b33:=b32.symm;have gf:=U.af a11;have a68:=U.aJ a11;have a57:bo .add (.int .i64 Z) (.int .i64 1)=some (.int .i64 (IntKind.i64.wrap (Z+1))):=rfl;have b34:=bT.dW k4 a9r rfl (a09.cells λ_ _=>di.cells);have b84:=b34.len;rw[a09.len]at b84;have a84:(K.set d (.cells (lB b.gE b.aV b.aW b.hv b.eX b.ht b.d z l4 (IntKind.i64.wrap (Z+1)) l5 D))) n=none:=(U.an _ _ b33).trans t;have a86:=(a10.set l4 (IntKind.i64.wrap (Z+1)) l5).mono (U.ae (Y:= .cells [.v (.int .u8 (h.kind.toNat:Int)),c,l]) U.a1 a84);rw[U.eg K b32]at a86;refine aa ?_;have p7:((K.set n (.cells [.v (.int .u8 (h.kind.toNat:Int)),c,l])).set d (.cells (lB b.gE b.aV b.aW b.hv b.eX b.ht b.d z l4 (IntKind.i64.wrap (Z+1)) l5 D))) n=some (.cells [.v (.int .u8 (h.kind.toNat:Int)),c,l]):=(U.an _ _ b33).trans (U.ah _ _ _);have a88:=(a10.set l4 (IntKind.i64.wrap (Z+1)) l5).fresh a84;have b85: ∀k a13,K k=some a13-> ¬kc d z D k->((K.set n (.cells [.v (.int .u8 (h.kind.toNat:Int)),c,l])).set d (.cells (lB b.gE b.aV b.aW b.hv b.eX b.ht b.d z l4 (IntKind.i64.wrap (Z+1)) l5 D))) k=some a13:=λk a13 x hm=>by
   have L:k≠d:=λG=>hm (.inl G);have P:k≠n:=by rintro rfl;rw[t]at x;cases x
   rw[U.an _ _ L,U.an _ _ P];exact x
  generalize (K.set n (.cells [.v (.int .u8 (h.kind.toNat:Int)),c,l])).set d _=a89 at*;have a90: ∀ {a06:R}{k:Nat},cR a06=some k->b28 k=none-> ¬kc d z D k:=λu x hm=>by
   rcases hm with rfl|G|G
   .obtain⟨_,_,_,a⟩:=s.x;rw[x]at a;cases a
   .exact ar.has s.l G x
   .exact s.w.has G x
  have a92:(res (kc d z D) K).sub (res (kc d z D) a89):=λk a13 x=>by
   grind[hm,kc,ra,oJ]
  have b86:=(bT.dW (ar.res k4 λl6 i=>a90 i (ar.fresh k4 i)) a9r rfl (a09.cells λ_ _=>di.cells)).mono (U.aq (Fm l3.1) a92);have b35:=(bT.dW (ar.res l3 λl6 i=>a90 i (U.bG k4.1 (ar.fresh l3 i))) a9r rfl (a83.cells λ_ _=>bt.cells)).mono a92;obtain⟨b87,b88⟩:=a86.wide;have b89:res (kc d z D) a89 n=some (.cells [.v (.int .u8 (h.kind.toNat:Int)),c,l]):=by
   rw[oJ];exact p7;rintro(a|a|a)
   .exact a88.x a
   .exact a88.l a
   .exact a88.w a
  generalize res (kc d z D) a89=k5 at*;have b90:e.sub k5:=U.aq l2 b88;clear b85 a90 a92 b34 k4 l3 gf a68 a11 a10 a86 p7 a57 t a84 b29 b82;have b36:=(xU M).ok;obtain⟨b91,_,_⟩:=ln b36;refine cj [0,3,8,11,13,79,80] (λc:Nat×(List (List Int))×List R×R=> [(81,.v (.int .i64 (c.1:Int)))]) (λc F=>c.1<=h.rows.length/\dK b k5 F d c.2.2.1 c.2.2.2 k2 D/\az isRow c.2.1 c.2.2.1/\(∀k∈c.2.1,k.length=E)/\c.2.1.length<=1/\(∀k∈c.2.1,nB j E p r C k)/\(c.2.1= []->rows= []/\ ∀k,(k,true)∈h.rows.take c.1->jk p r k=false)) (λc=>h.rows.length - c.1) (0,rows,O,z) ⟨⟨a5q _,b87,o.vr,o.rd,o.zy,o.qA,λa=>⟨a,λk x=>by simp at x⟩⟩,aU⟩ ?_;rintro⟨V,b37,a14,a15⟩ b92 ⟨b93,l7,a94,l8,a16,a18,a19⟩ c58
  dsimp only at b93 l7 a94 l8 a16 a18 a19
  refine aa ?_;refine aH (λc2=> ?_) λc2=> ?_
  .have l9:V<h.rows.length:=a9r;obtain⟨_,Q,a95,rfl⟩:=a09.get (i:=V) (x:=h.rows.getD V ([],false)) (by simp[List.getD,l9]);obtain⟨l6,b94,i⟩:=b86.get V _ Q;have b38: ∀F,k5.sub F->dr true 2 F l6=some (.agg [.J (ad (h.rows.getD V ([],false)).1) a95,.v (.bool (h.rows.getD V ([],false)).2)]):=λF a=>i.ld F a true 2 a9r (by simp[hP]);have b95:=b38 b92 l7.l.1;have hm:h.rows.getD V ([],false)∈h.rows:=by simp[List.getD,l9]
   have G:=eU (a:=h.rows) (e:=V) (b:=([],false)) l9;generalize h.rows.getD V ([],false)=b96 at*;obtain⟨a27,a96⟩:=b96
   dsimp only at b95 G hm
   have b39:=b91 _ hm;clear b38 i Q;refine aa ?_;refine aP λc59 b97=> ?_;have b98:=l7.mono (U.ae (Y:= .cells [.J (ad a27) a95,.v (.bool a96)]) U.a1 b97);refine aa ?_;refine ai (a1l b k5 _ d a14 b37 a15 k2 D b98 a94 l8 b07 a38 b06 a16 a27 a96 a95 b39) ?_;rintro _ c60 ⟨b40,b99,b41,b42,b43,a97⟩;refine aa ?_;have c00:a96=true->jk p r a27=true->nB j E p r C a27:=λf B=>by subst f;exact⟨y,h,(I y a9s).1,M,hm,B⟩
   split at a97
   .rename_i a29;rw[a4M]at a29;obtain⟨k,rfl,x⟩:=a97;refine⟨(V+1,[k],b40,b41),⟨l9,b42,b43,λc01 a=> ?_,a9s,λc01 a=> ?_,λa=>by cases a⟩,rfl,a9r⟩
    all_goals
     obtain rfl:=a4Z.1 a;rcases x with rfl|x
    .exact b39
    .exact l8 _ x
    .exact c00 a29.1 a29.2
    .exact a18 _ x
   .rename_i a29;subst a97;refine⟨(V+1,b99,b40,b41),⟨l9,b42,b43,l8,a16,a18,λa=>⟨(a19 a).1,λk x=> ?_⟩⟩,rfl,a9r⟩;grind
  obtain rfl:V=h.rows.length:=a9r;rw[a5h]at a19;have c61:=U.af (l7.l.1 _ _ b89);have c02:=b35.len;rw[a83.len]at c02;refine aa ?_;refine cj [0,3,8,11,90,91] (λc:Nat×List R×R=> [(92,.v (.int .i64 (c.1:Int)))]) (λc F=>c.1<=h.kids.length/\dK b k5 F d a14 a15 c.2.1 c.2.2/\az r6 (H++(h.kids.take c.1).filter (ev p r)) c.2.1) (λc=>h.kids.length - c.1) (0,k2,D) ⟨⟨a5q _,l7,by simpa using b21⟩,aU⟩ ?_;rintro⟨q,a98,b44⟩ b45 ⟨c03,a30,n0⟩ c62
  dsimp only at c03 a30 n0
  refine aa ?_;refine aH (λaI=> ?_) λaI=> ?_
  .have a99:q<h.kids.length:=a9r;obtain⟨_,Q,b00,c04,X,Y,n1,rfl⟩:=a83.get (i:=q) (x:=h.kids.getD q aA) (by simp[List.getD,a99]);obtain⟨l6,b94,i⟩:=b35.get q _ Q;have c05:=(aX (N:=X) (e5:=Y) (h5:=n1) b00).all;have c63:dr true 37 b45 l6=some (.agg (ab (h.kids.getD q aA) X Y n1)):=by have:=i.ld b45 a30.l.1 true 37 a9r (by rw[hP];omega);rw[this,aY,if_pos rfl,hP,c05.2.1]
   have G:=eU (a:=h.kids) (e:=q) (b:=aA) a99;have b24:=lD (N:=X) (e5:=Y) (h5:=n1) b00;generalize h.kids.getD q aA=b01 at*;have c06:a98.length<=100000000:=by have f:=n0.len;rw[a4L]at f;have B:=zz (ks:=H) λS g=>(I S (by simp[g])).2.2;grind
   clear i Q;refine aa ?_;refine aP λc64 c07=> ?_;have c08:=a30.mono (U.ae (Y:= .cells (ab b01 X Y n1)) U.a1 c07);refine aa ?_;refine ai (Fk b k5 _ d a14 a15 a98 b44 c08 b01 X Y n1 b00 c04 (by show p.length<=8;omega) c06) ?_;rintro _ c65 ⟨c09,b46,k0,b47⟩;refine aa ?_;refine⟨(q+1,b46,c09),⟨a99,k0,?_⟩,rfl,a9r⟩;show az r6 (H++(h.kids.take (q+1)).filter (ev p r)) b46;rw[G,a7T,<-a4W];split at b47
   .rename_i A;obtain⟨b62,a48,rfl⟩:=b47;have A:ev p r b01=true:=A;rw[a8N A];exact n0.snoc a48
   grind
  .obtain rfl:q=h.kids.length:=a9r;rw[a5h]at n0;obtain⟨c66,c67⟩:=Fo (q:=p) (b6:=r) M;have c19:=v7 b36;refine⟨⟨b37,a14,a15,H++h.kids.filter (ev p r),a98,b44⟩,⟨a30.base b90,a94,l8,a16,n0,a18,λS g=> ?_,λf B k x=> ?_,?_⟩,?_⟩
   .rcases a5c.1 g with g|g
    .exact I S (by simp[g])
    .obtain⟨a34,b02⟩:=a7P.1 g;obtain⟨_,a06,a61⟩:=nC (c19 S a34);have:=a06 (a61 (yX b02));exact⟨(I y a9s).1.snoc M a34 b02,(I y a9s).2.1,by unfold gi;omega⟩
   .obtain⟨a34,b02⟩:=a19 f;obtain⟨c68,b48,c21⟩:=o.co a34 B k x;rcases a5k.1 (l0.mem_iff.2 b48)with rfl|b48
    .obtain⟨c69,c70,c22,c23,c24,c25⟩:=c21;cases c22 with
     |refl=>simp_all
     |step b49 c26 c27 c28=>rw[M]at b49;obtain rfl:=a4I b49;exact⟨_,a6X _ (a7P.2 ⟨c26,c27⟩),_,_,c28,c23,c24,c25⟩
    grind
   grind;grind
def zA (h:ag) (k:List aK) (o:List UInt8) (b:Int) (c:R):Prop:=match k.find? (λa=>decide (a.name=o))with
 |none=>c= .aL [.J [] .nil,.v (.bool false),.v (.int .i64 3)]
 |some a=>
  (vp h (a.aC.length+1) (b::List.replicate a.aC.length hG) (b::List.replicate a.aC.length im) a.bL/\c= .aL [.J [] .nil,.v (.bool false),.v (.int .i64 21)])\/
  ∃rows,vo h (a.aC.length+1) (b::List.replicate a.aC.length hG) (b::List.replicate a.aC.length im) a.bL rows/\(∀d∈rows,d.length=a.aC.length+1)/\
   ((rows= []/\c= .aL [.J [] .nil,.v (.bool false),.v (.int .i64 0)])\/ ∃d p r,rows=d::p/\c= .aL [.J (ad d) r,.v (.bool true),.v (.int .i64 0)])
theorem a2o (a:cB b9=true) (b:e6∈b9):fp (e6.aC.length+1) e6.bL=true:=by simp only[cB,a4M,a4Y,a6b,decide_eq_true_eq]at a;obtain⟨c,d,rfl⟩:=a5A b;simp_all [fU,List.getD,a4M]
theorem FY (a:Int) (b:e<=7):cU (a::List.replicate e hG) (a::List.replicate e im) (e+1)=true:=by have hm:hG<=im:=a9v;simp only[cU,a4O,a6J,a4M,decide_eq_true_eq,a4Y,a6b];grind
theorem a2p (d:U) (j v C:Nat) (w:ag) (e:List aK) (x:cQ d j v C w e) (D:cB e=true) (g:List UInt8) (b:Int):
  AC Tryz.prog 12 [.ptr j 0,bd g,.v (.int .i64 b)] d λy a=>d.sub a/\zA w e g b y:=by
 obtain⟨l,a⟩:=mq D;obtain⟨k,m,f,n⟩:=x.x;have a:=U.af f;have a:(cy).length=76:=fV.all.1;have h: ∀a T,eu a T->putAt cy 0 T=T:=λa T r=>(nH r).2.2.1;have o:putAt cy 0 cy=cy:=h _ _ fV;have i:=jq;have c:=find_spec e k m g n a9r d;unfold Found at c;unfold zA;generalize cy=k at*;refine aO hm JV ?_;refine ai c ?_;clear c;rintro y m ⟨rfl,c⟩;cases k:e.find? (λa=>decide (a.name=g))with
 |none=>rw[k]at c;obtain rfl:=c;refine aa ?_;refine aP λe e=> ?_;rw[i];exact aU
 |some a=>
  rw[k]at c;obtain⟨T,e,rfl⟩:=c;obtain⟨c,c,c,c,E,F,G,H,S,V,c,c,c⟩:=e.all;have c:=h _ _ e;have I:=λd=>tg a T e d;have hm:=vm k;have c:=l a hm;have W:=c.c;have X:=c.k.size;obtain⟨Y,Z⟩:=e.k;clear h o;refine aa ?_;refine aP λk c=> ?_;rw[i];clear i;have d:j≠k:=by rintro rfl;rw[f]at c;cases c
  have e:=d.symm;have l:=U.ae (Y:= .cells T) (U.a1 (f:=m)) c;have ds:=U.ah m k (.cells T);refine aa ?_;refine bk (I _) ?_;generalize m.set k _=n at*;refine ai (a0I (a.aC.length+1) a9r a9r n) ?_;rintro _ K ⟨c,c,rfl,c,s,t⟩;have c:(ad (List.replicate (a.aC.length+1) hG)).length=a.aC.length+1:=by rw[bI,a6J]
  have q:(ad (List.replicate (a.aC.length+1) im)).length=a.aC.length+1:=by rw[bI,a6J]
  obtain⟨aQ,e,o,h,rfl,p,u,O,z,L,d,_⟩:=s.al (λg=>by rw[g]at c;simp at c);obtain⟨c,d,m,i,rfl,A,M,P,B,N,Q,_⟩:=t.al (λg=>by rw[g]at q;simp at q);rw[a5v]at O z L P B N;have O:=t.1 _ _ u;have P:aQ≠c:=by rintro rfl;rw[u]at A;cases A
  have j9:=P.symm;have u:=U.aq s.1 t.1;have Q:=u _ _ ds;have dZ:=u _ _ (l _ _ f);have g:=(x.sub l).sub u;have q:n c=none:=U.bG s.1 A;have g:k≠aQ:=by rintro rfl;rw[ds]at p;cases p
  have g:k≠c:=by rintro rfl;rw[ds]at q;cases q
  have g:j≠aQ:=by rintro rfl;rw[l _ _ f]at p;cases p
  have g:j≠c:=by rintro rfl;rw[l _ _ f]at q;cases q
  refine aa ?_;refine aP λg f=> ?_;have A:aQ≠g:=by rintro rfl;rw[O]at f;cases f
  have k0:c≠g:=by rintro rfl;rw[M]at f;cases f
  have k1:k≠g:=by rintro rfl;rw[Q]at f;cases f
  have k:j≠g:=by rintro rfl;rw[dZ]at f;cases f
  have j:=A.symm;have j:=k0.symm;have j:=k1.symm;have j:=k.symm;have j:cS 1 (.al aQ e o 1) (.v (.int .i64 0))=some (.ptr aQ 0):=by grind[ja]
  have j:cS 1 (.al c d m 1) (.v (.int .i64 0))=some (.ptr c 0):=by grind[ja]
  have j:=U.aJ O;have j:=U.aJ M;have j:=U.af Q;have gf:=U.af dZ;have j:1<=h.length:=a9r;have j:1<=i.length:=a9r;have M:(putAt h 0 [R.v (.int .i64 b)]).take e=ad (b::List.replicate a.aC.length hG):=by
   have k:e=a.aC.length+1:=a9r;have j:(h.drop 1).take (e - 1)=ad (List.replicate a.aC.length hG):=by rw[<-a6h,z];rfl
   have A:e - 1=a.aC.length:=a9r;rw[A]at j;show([]++ [R.v (.int .i64 b)]++h.drop 1).take e= _;rw[a5d,k,a8g,a6E,j];rfl
  have O:(putAt i 0 [R.v (.int .i64 b)]).take d=ad (b::List.replicate a.aC.length im):=by
   have k:d=a.aC.length+1:=a9r;have j:(i.drop 1).take (d - 1)=ad (List.replicate a.aC.length im):=by rw[<-a6h,B];rfl
   have A:d - 1=a.aC.length:=a9r;rw[A]at j;show([]++ [R.v (.int .i64 b)]++i.drop 1).take d= _;rw[a5d,k,a8g,a6E,j];rfl
  have j:(putAt h 0 [R.v (.int .i64 b)]).length=h.length:=eK _ _ _ a9t;have j:(putAt i 0 [R.v (.int .i64 b)]).length=i.length:=eK _ _ _ a9t;have j:(K.set g (.cells [.al aQ e o 1,.al c d m 1])) g=some (.cells [.al aQ e o 1,.al c d m 1]):=U.ah _ _ _;clear s t z B L N;refine aa ?_;generalize putAt h 0 [R.v (.int .i64 b)]=j at*;generalize putAt i 0 [R.v (.int .i64 b)]=i at*;refine bk (I _) ?_;generalize k:((K.set g (.cells [.al aQ e o 1,.al c d m 1])).set aQ (.cells j)).set c (.cells i)=h;have s:h aQ=some (.cells j):=by subst k;rw[U.an _ _ P,U.ah]
  have t:h c=some (.cells i):=by subst k;rw[U.ah]
  have z:n g=none:=U.bG u f;have u:n.sub h:=by grind[U.ae]
  clear k;have f:=View.al (n:=e) (cap:=o) (k:=1) s a9r;rw[kz,M]at f;have g:(h.set aQ (.ro j)) c=some (.cells i):=by rw[U.an _ _ j9];exact t
  have e:=View.al (n:=d) (cap:=m) (k:=1) g a9r;rw[kz,O]at e;have g:n.sub ((h.set aQ (.ro j)).set c (.ro i)):=U.ae (U.ae u p) q;have h:=View.agg (a:= []) (k:= [.al c d m 1,.v (.int .u8 0),.v (.int .i64 0),.J [] .nil,.v (.int .i64 1),.v (.bool false)]) (c:= .J (ad (b::List.replicate a.aC.length hG)) .any) rfl f;have c:=View.agg (a:= [.J (ad (b::List.replicate a.aC.length hG)) .any]) (k:= [.v (.int .u8 0),.v (.int .i64 0),.J [] .nil,.v (.int .i64 1),.v (.bool false)]) (c:= .J (ad (b::List.replicate a.aC.length im)) .any) rfl e;have d:=h.trans c;have c:cU (b::List.replicate a.aC.length hG) (b::List.replicate a.aC.length im) (a.aC.length+1)=true:=FY b W;have e:ev (b::List.replicate a.aC.length hG) (b::List.replicate a.aC.length im) a.bL=true->1<=a.bL.size:=λr=>by
   simp only[ev,a4M,decide_eq_true_eq]at r;have b:=nC (a2o D hm);exact b.2.1 (b.2.2 r.1)
  have b:=AC.nn (m:=Tryz.prog) (g:= [.ptr v 0,.agg (ab a.bL E F G)]) (A:= [.v (.int .i64 ((a.aC.length+1:Nat):Int))]) d (a2n _ v C w (x.gh.mono (U.aq l g)) a.bL E F G Y Z _ _ .any .any .nil (a.aC.length+1) c X e);refine ai b ?_;rintro y d ⟨a,b⟩;have c:=U.aq l (U.aq g a);rcases b with ⟨a,a,a,rfl⟩|⟨rows,a,b,e,a,a,c,a,f,rfl⟩
  .refine aa ?_;refine aP λf g=> ?_;refine aa ?_;exact .inl trivial
  .have h:=fL c;refine aa ?_;refine aP λf g=> ?_;have i:=c.src;obtain⟨h,H,S,V⟩:=i;rw[a5v]at H;have i:=a.len;refine aa ?_;cases rows with
   |nil=>
    have j:h=0:=by rw[a4T]at i;omega
    subst j;refine aa ?_;grind
   |cons k rest=>
    have j: ¬(h:Int)=0:=by rw[a4O]at i;omega
    obtain⟨_,h,i,rfl⟩:=a.get (i:=0) (x:=k) rfl;have j:=bT.dW (c.mono (U.ae (Y:= .cells [b,.v (.int .i64 e)]) (U.a1 (f:=d)) g)) a9r a.flat.symm (a.cells λ_ _=>isRow.cells);obtain⟨a,c,g⟩:=j.get 0 _ h;have c:cS 1 b (.v (.int .i64 0))=some a:=c;have c:dr false 1 (d.set f (.cells [b,.v (.int .i64 e)])) a=some (.J (ad k) i):=g.ld _ U.a1 false 1 a9r (by simp[R.cells]);refine aa ?_;grind
def jv (d:Nat) (b:List Int×List Int) (c:List Int):Prop:= ∀a,a<d->b.1.getD a 0<=c.getD a 0/\c.getD a 0<=b.2.getD a 0
def FZ {a b:List Int×List Int} (h:hh e a) (k:hh e b) (c:jv e a q\/jv e b q):jv e (cV a b) q:=by
 have o:=lu.1 h.ok;have p:=lu.1 k.ok;unfold cV;rw[o.2.2.1,p.2.2.1,if_pos h.ok,if_pos k.ok,if_pos rfl];intro d r;have x:=Eo (a:=min) (q:=a.1) (b6:=b.1) (e:=d) a9r a9r;have y:=Eo (a:=max) (q:=a.2) (b6:=b.2) (e:=d) a9r a9r
 dsimp only
 rw[x,y];rcases c with c|c<;>have:=c d r<;>omega
theorem G0 {a:gg} (k:mj e i a) (r:0<i) (o:jo e a8 w) (d:jv e a.aQ q):jv e (ew a w).aQ q:=by
 have h:hh e a.aQ:=by
  rcases k.aQ with ⟨b,_⟩|⟨_,b⟩
  .omega
  .exact b
 show jv e (cV a.aQ (w.aV,w.aW)) q;rcases o.aQ with ⟨b,c,p⟩|⟨b,c⟩
 .rw[c,p,FA h];exact d
 .exact FZ h c (.inl d)
def G1 {a:gg} (h:mj e i a) (k:jo e a8 w) (o:q∈a8.all) (d:jv e (w.aV,w.aW) q):jv e (ew a w).aQ q:=by
 have x:=a7X o;show jv e (cV a.aQ (w.aV,w.aW)) q;rcases k.aQ with ⟨p,b,y⟩|⟨p,b⟩
 .omega
 rcases h.aQ with ⟨r,c⟩|⟨r,c⟩
 .rw[c,pz b];exact d
 .exact FZ c b (.inr d)
theorem zB {b:Nat} (h:1<=b) (k:b<=8) {c:List Int}: ∀ {o:aD},o.c9 b->o.size<=1048576->c∈o.all->jv b ((bn o).aV,(bn o).aW) c
 | .nil,_,_,d=>by cases d
 | .node p live D E,d,F,a=>by
  simp only[aD.size]at F;have x:=fi h k d.a a9r;have y:=fi h k d.b a9r;have r:=y6 h k d.r;have z:mj b (if live=true then 1 else 0) (dQ ⟨0,1,([],[])⟩ (p,live)):=by
   cases live with
   |false=>exact⟨rfl,.inl ⟨rfl,rfl⟩⟩
   |true=>refine⟨rfl,.inr ⟨a9v,?_⟩⟩;show hh b (cV ([],[]) (gu p));rw[pz r];exact r
  have C:=z7 z x;show jv b (ew (ew (dQ ⟨0,1,([],[])⟩ (p,live)) (bn D)) (bn E)).aQ c;simp only[aD.all,a5c]at a;rcases a with (a|a)|a
  .have:=a7X a;exact G0 C a9r y (G1 z x a (zB h k d.a a9r a))
  .exact G1 C y a (zB h k d.b a9r a)
  .have G:live=true/\c=p:=by simp_all
   obtain⟨rfl,rfl⟩:=G;have L:jv b (dQ ⟨0,1,([],[])⟩ (c,true)).aQ c:=by show jv b (cV ([],[]) (gu c)) c;rw[pz r];unfold gu;rw[if_pos (by have:=d.r.len;omega)];exact λP _=>⟨a8p _,a8p _⟩
   grind[G0]
def G2 {a:List Int} (b:a.length=e):jk q b6 a=true↔cU q b6 e=true/\jv e (q,b6) a:=by unfold jk;simp only[b,a4M,a4Y,a6b,decide_eq_true_eq];rfl
def zC (c:1<=e) (d:e<=8) {h:List Int} (a:a8.c9 e) (k:a8.size<=1048576) (b:b6∈a8.all) (y:jk h q b6=true):ev h q (bn a8)=true:=by
 have o:=fi c d a k;have G:=a7X b;have z:=(a b6 (aD.gH b)).len;obtain⟨p,C⟩:=(G2 z).1 y;have D:=zB c d a k b;have E:=lu.1 p;have F:cU (bn a8).aV (bn a8).aW e=true:=by
  rcases o.aQ with ⟨r,_⟩|⟨_,r⟩
  .omega
  .exact r.ok
 have L:=o.live;unfold ev jZ oD;simp only[E.2.2.1,a4M,a4Y,a6b,decide_eq_true_eq];refine⟨a9r,⟨p,F⟩,λx q=> ?_⟩;have:=C x q;have:=D x q
 dsimp only at*
 unfold hF;omega
def G3:fq H e aA=none:=by
 cases a:fq H e aA with
 |none=>rfl
 |some b=>have:=(Fo (q:= []) (b6:= []) a).2;have c:(aA).size=0:=rfl;omega
theorem G4 (r:1<=e) (x:e<=8) (y:lC H e q b6 w j2): ∀ {a:aD},w=bn a->a.c9 e->a.size<=1048576->ed H a-> ∃b,j2=bn b/\b.c9 e/\b.size<=1048576/\ed H b/\(∀z∈b.all,z∈a.all)/\(ev q b6 w=true->ev q b6 j2=true):=by
 induction y with
 |refl C=>grind
 | @step C k W f c hk g i ih=>
  intro a o d p h;cases a with
  |nil=>rw[o,show bn .nil=aA from rfl,G3]at c;cases c
  |node j live D E=>
   rw[o,tb r x d p h]at c;obtain rfl:=a4I c;simp only[aD.size]at p;have F:k=bn D\/k=bn E:=by simpa[cm] using hk
   rcases F with rfl|rfl
   .obtain⟨b,G,L,P,S,T,V⟩:=ih rfl d.a a9r h.2.1;grind[aD.all]
   .obtain⟨b,G,L,P,S,T,V⟩:=ih rfl d.b a9r h.2.2;grind[aD.all]
def zD (a:1<=e) (b:e<=8) (d:a8.c9 e) (h:a8.size<=1048576) (k:ed H a8): ¬vp H e q b6 (bn a8):=by
 rintro⟨D,o,p,c⟩;obtain⟨r,rfl,x,y,z,_,C⟩:=G4 a b o rfl d h k;cases r with
 |nil=>exact yX (C p) rfl
 |node E live F G=>rw[tb a b x y z]at c;cases c
def a2q (b:1<=e) (c:e<=8) {d:List Int} (h:a8.c9 e) (k:a8.size<=1048576) (o:ed H a8) (p:nB H e b6 d (bn a8) q):q∈a8.all/\jk b6 d q=true:=by
 obtain⟨G,L,r,a,hm,x⟩:=p;obtain⟨y,rfl,z,C,D,E,_⟩:=G4 b c r rfl h k o;refine⟨E q ?_,x⟩;cases y with
 |nil=>rw[show bn .nil=aA from rfl,G3]at a;cases a
 |node F live P S=>
  rw[tb b c z C D]at a;obtain rfl:=a4I a;have:q=F/\live=true:=by simpa[cm] using hm
  obtain⟨rfl,rfl⟩:=this;simp[aD.all]
theorem zE {E:ag}{o:Nat} (c:1<=o) (d:o<=8) {F G p:List Int}: ∀ {h:aD},h.c9 o->h.size<=1048576->ed E h->p∈h.all->jk F G p=true->nB E o F G (bn h) p
 | .nil,_,_,_,b,_=>by cases b
 | .node P live T V,b,L,r,a,k=>by
  have x:=tb c d b L r;simp only[aD.size]at L;simp only[aD.all,a5c]at a;rcases a with (a|a)|a
  .obtain⟨y,z,C,D⟩:=zE c d b.a a9r r.2.1 a k;exact⟨y,z,.step x (by simp[cm]) (zC c d b.a a9r a k) C,D⟩
  .obtain⟨y,z,C,D⟩:=zE c d b.b a9r r.2.2 a k;exact⟨y,z,.step x (by simp[cm]) (zC c d b.b a9r a k) C,D⟩
  .have S:live=true/\p=P:=by simp_all
   obtain⟨rfl,rfl⟩:=S;exact⟨_,_,.refl _,x,by simp[cm],k⟩
def zF (b:1<=e) (c:e<=8) (d:a8.c9 e) (h:a8.size<=1048576) (k:ed H a8) (o:vo H e q b6 (bn a8) O):(O= []↔ ∀a∈a8.all,¬jk q b6 a=true):=by
 constructor
 .intro x a p r;exact o.full x (zC b c d h p r) a (zE b c d h k p r)
 .intro y;cases O with
  |nil=>rfl
  |cons a rest=>obtain⟨z,C⟩:=a2q b c d h k (o.sound a a9s);exact absurd C (y a z)
variable{b1:Int}
theorem zG (d:e<=7) (b:bO (e+1) q):jk (b1::List.replicate e hG) (b1::List.replicate e im) q=true↔q.getD 0 0=b1:=by
 rw[G2 b.len];constructor
 .rintro⟨_,c⟩;have:=c 0 a9r;grind
 .intro h;refine⟨FY b1 d,λa k=> ?_⟩;cases a with
  |zero=>simp only[a5s];omega
  |succ a=>have c:a<e:=a9r;have o:=b.len;have hm:=b.jV (q.getD (a+1) 0) (by simp_all);simp only[a5z];simp only[a5u,List.getElem?_replicate,if_pos c,a6M];simp only[a5u]at hm;unfold hG im;omega
def lF (b:ag) (d:List aK) (c:cq) (h:Int×List aK×ag):Prop:=match d.find? (λa=>decide (a.name=c.table))with
 |none=>h=(3,d,b)
 |some a=>if c.row.length=a.aC.length+1 then
   (vp b (a.aC.length+1) (c.row.getD 0 0::List.replicate a.aC.length hG) (c.row.getD 0 0::List.replicate a.aC.length im) a.bL/\h=(21,d,b))\/
   ∃rows,vo b (a.aC.length+1) (c.row.getD 0 0::List.replicate a.aC.length hG) (c.row.getD 0 0::List.replicate a.aC.length im) a.bL rows/\(∀k∈rows,k.length=a.aC.length+1)/\
    ((rows= []/\h=fE (λb=>nD (a.aC.length+1) c.row b a.bL) (λb=>iJ (a.aC.length+1) c.row b a.ck) b d a)\/(rows≠ []/\h=(8,d,b)))
  else h=(6,d,b)
def a2r (b:U) (h i j:Nat) (f:ag) (c:List aK) (g:cQ b h i j f c) (w: ∀d∈c,d.Fit) (x:cB c=true) (a:cg) (n:a.d.Fit):
  AC Tryz.prog 49 [.ptr h 0,a.V] b λm e=> ∃res,lF f c a.d res/\m= .v (.int .i64 res.1)/\cQ e h i j res.2.2 res.2.1/\cz h i j b e:=by
 obtain⟨y,k⟩:=mq x;have k:=λe l=>FT e h i j f c l a9r a n;have e:a.V= .agg [ak a.d.kind,bd a.d.table,.J (bF a.d.aC) a.gy,.J (ad a.d.row) a.dp]:=rfl;obtain⟨n,n,n,o⟩:=g.x;rw[e]at k|-;clear e;have e:=U.af n;have e:(cy).length=76:=fV.all.1;refine aO hm KP ?_;refine br λp e=> ?_;have n:=U.ae (Y:= .cells [ak a.d.kind,bd a.d.table,.J (bF a.d.aC) a.gy,.J (ad a.d.row) a.dp]) (U.a1 (f:=b)) e;have aI:=U.ah b p (.cells [ak a.d.kind,bd a.d.table,.J (bF a.d.aC) a.gy,.J (ad a.d.row) a.dp]);generalize b.set p _=b at*;have o:=g.sub n;refine ai (k b o) ?_;rintro m q ⟨e,b⟩;have r:=e _ _ aI;have g:=U.af r;have s:=o.sub e;have t:=U.aq n e;have u: ∀d T,eu d T->putAt cy 0 T=T:=λd T l=>(nH l).2.2.1;have e:(cy).take 76=cy:=fV.all.2.1;have e:putAt cy 0 cy=cy:=u _ _ fV;have v:=jq;generalize cy=e at*;unfold mr at b;unfold lF;cases n:c.find? (λd=>decide (d.name=a.d.table))with
 |none=>
  rw[n]at b
  dsimp only at b
  obtain rfl:=b;refine aa ?_;refine aP λo e=> ?_;rw[v];refine aa ?_;refine⟨_,U.a1,(3,c,f),rfl,rfl,s.sub (U.ae U.a1 e),cz.of (U.aq t (U.ae U.a1 e))⟩
 |some d=>
  rw[n]at b;have hm:=vm n
  dsimp only at b
  by_cases k:a.d.row.length=d.aC.length+1
  .rw[if_pos k]at b;obtain⟨T,g,rfl⟩:=b;obtain⟨z,A,B,_⟩:=g.all;have C:=u _ _ g;have D:= @dP a.d.row;have E:=bI (q:=a.d.row);refine aa ?_;refine aP λo e=> ?_;rw[v];have E:p≠o:=by rintro rfl;rw[r]at e;cases e
   have p:=E.symm;obtain⟨E,F⟩:=g.k;obtain⟨G,H⟩:=g.z;have p:=y d hm;have y:=p.c;have y:=p.k.size;have p:=s.sub (U.ae (Y:= .cells T) U.a1 e);have y:=U.ae (Y:= .cells T) (U.a1 (f:=q)) e _ _ r;have r:=U.ah q o (.cells T);have I:=U.aq t (U.ae (Y:= .cells T) (U.a1 (f:=q)) e);have q:cS 1 (.J (ad a.d.row) a.dp) (.v (.int .i64 0))=some (.bW [.v (.int .i64 (a.d.row.getD 0 0))]):=by have l:=D (i:=0) a9r;have q:(0:Int)<=0:=a9r;rw[hn q];show eD 1 (ad a.d.row)[0]? = _;rw[l];exact ix rfl
   dsimp only
   simp only[if_pos k];refine aa ?_;refine ai (a2p _ h i j f c p x a.d.table (a.d.row.getD 0 0)) ?_;rintro m x ⟨l,b⟩;unfold zA at b;rw[n]at b
   dsimp only at b
   have n:=p.sub l;have p:=U.aq I l;have q:=U.af (l _ _ y);have q:=U.af (l _ _ r);rcases b with ⟨l,rfl⟩|⟨rows,l,q,⟨rfl,rfl⟩|⟨r,y,D,rfl,rfl⟩⟩
   .refine aa ?_;exact⟨_,U.a1,(21,c,f),.inl rfl,rfl,n,cz.of p⟩
   .have D:=FX x h i j f c n w a9r d T g (w d hm) a.d.row a.dp 84 85 _ _ a9w a9w (jt.a2h E F a9r a9r a9r k) (jt.a2j G H a9r a9r k);refine aa ?_;refine ai D ?_;rintro m a ⟨rfl,a,d⟩;refine aa ?_;exact⟨_,U.a1,_,.inr ⟨[],l,q,.inl ⟨rfl,rfl⟩⟩,rfl,a,(cz.of p).trans d⟩
   .refine aa ?_;exact⟨_,U.a1,(8,c,f),.inr ⟨r::y,l,q,.inr ⟨a9s,rfl⟩⟩,rfl,n,cz.of p⟩
  .rw[if_neg k]at b;obtain⟨T,g,rfl⟩:=b;obtain⟨z,A,B,_⟩:=g.all;have C:=u _ _ g;refine aa ?_;refine aP λo e=> ?_;rw[v]
   dsimp only
   simp only[if_neg k];refine aa ?_;refine⟨_,U.a1,(6,c,f),rfl,rfl,s.sub (U.ae U.a1 e),cz.of (U.aq t (U.ae U.a1 e))⟩
def eB (c:ag) (b:List aK) (a:cq) (d:Int×List aK×ag):Prop:=
 if eb a=false then d=(1,b,c)
 else if a.kind=1 then d=((iQ (kd b ⟨a.table,a.aC,aA,aA⟩) b).1,(iQ (kd b ⟨a.table,a.aC,aA,aA⟩) b).2,c)
 else if a.kind=2 then d=((iQ (cN b a.table) b).1,(iQ (cN b a.table) b).2,c)
 else if a.kind=3 then lF c b a d
 else d=ju c b a
theorem zH (b:U) (d e f:Nat) (i:ag) (j:List aK) (l:cQ b d e f i j) (c: ∀k∈j,k.Fit) (h:cB j=true) (a:cg) (g:a.d.Fit):
  AC Tryz.prog 20 [.ptr d 0,a.V] b λs k=> ∃res,eB i j a.d res/\s= .v (.int .i64 res.1)/\cQ k d e f res.2.2 res.2.1/\cz d e f b k:=by
 have k:=(mq h).2;have k:=λb=>EN a g b;have p:=λb n=>a2c b d e f i j n c a9r a g;have y:=λb n=>a2b b d e f i j n c a9r a;have z:=λb n=>a2r b d e f i j n c h a g;have A:=λb n=>a2l b d e f i j n c h a g;have c:a.V= .agg [ak a.d.kind,bd a.d.table,.J (bF a.d.aC) a.gy,.J (ad a.d.row) a.dp]:=rfl;rw[c]at k p y z A|-;clear c;refine aO hm K5 ?_;refine br λo c=> ?_;have q:=U.ae (Y:= .cells [ak a.d.kind,bd a.d.table,.J (bF a.d.aC) a.gy,.J (ad a.d.row) a.dp]) (U.a1 (f:=b)) c;have aI:=U.ah b o (.cells [ak a.d.kind,bd a.d.table,.J (bF a.d.aC) a.gy,.J (ad a.d.row) a.dp]);generalize b.set o _=r at*;have t:=l.sub q;have c:=U.af aI;cases cw:eb a.d with
 |false=>refine bk (k r) ?_;exact⟨_,U.a1,(1,j,i),by unfold eB;rw[if_pos cw],rfl,t,cz.of q⟩
 |true=>
  refine bk (k r) ?_;rw[show List.replicate 5 (R.v .nilFunc)= [.v .nilFunc,.v .nilFunc,.v .nilFunc,.v .nilFunc,.v .nilFunc]from rfl];have c: ∀g h k l m c:R,putAt [g,h,k,l,m] 1 [c]= [g,c,k,l,m]:=λ_ _ _ _ _ _=>rfl;have u: ∀g h k l m c:R,putAt [g,h,k,l,m] 2 [c]= [g,h,c,l,m]:=λ_ _ _ _ _ _=>rfl;have u: ∀g h k l m c:R,putAt [g,h,k,l,m] 3 [c]= [g,h,k,c,m]:=λ_ _ _ _ _ _=>rfl;have u: ∀g h k l m c:R,putAt [g,h,k,l,m] 4 [c]= [g,h,k,l,c]:=λ_ _ _ _ _ _=>rfl;have u: ∀g h k l m c u w x v:R,putAt [g,h,k,l,m] 0 [c,u,w,x,v]= [c,u,w,x,v]:=λ_ _ _ _ _ _ _ _ _ _=>rfl;have c: ∀c g h,(R.bH c g h).cells= [.bH c g h]:=λ_ _ _=>rfl;have l:a.d.kind.toNat=1\/a.d.kind.toNat=2\/a.d.kind.toNat=3\/a.d.kind.toNat=4:=by have n:=cw;simp only[eb,a4M]at n;grind
  refine aa ?_;refine aP λc k=> ?_;have g:o≠c:=by rintro rfl;rw[aI]at k;cases k
  have h:=g.symm;rcases l with l|l|l|l
  .have u:lW 1 5 (.ptr c 0) (ak a.d.kind)=some (.ptr c 1):=by have:=rX (e:=1) (i:=5) (v:=c) (M:=0) (e2:= .u8) (b1:=(a.d.kind.toNat:Int)) a9r a9r;rw[a5i,show 0+a.d.kind.toNat*1=1 by omega]at this;exact this
   refine aa ?_;have w:a.d.kind=1:=a5I.1 l;generalize g:(r.set c _)=h;have m:cQ h d e f i j:=by subst g;exact t.sub (U.ae U.a1 k)
   have n:cz d e f b h:=by subst g;exact cz.of (U.aq q (U.ae U.a1 k))
   clear g;refine fJ a9w (p h m) ?_;rintro s x ⟨o,p,rfl⟩;refine aa ?_;refine⟨_,U.a1,(_,_,i),?_,rfl,o,n.trans p⟩;unfold eB;grind
  .have u:lW 1 5 (.ptr c 0) (ak a.d.kind)=some (.ptr c 2):=by have:=rX (e:=1) (i:=5) (v:=c) (M:=0) (e2:= .u8) (b1:=(a.d.kind.toNat:Int)) a9r a9r;rw[a5i,show 0+a.d.kind.toNat*1=2 by omega]at this;exact this
   refine aa ?_;have w:a.d.kind=2:=a5I.1 l;generalize g:(r.set c _)=h;have m:cQ h d e f i j:=by subst g;exact t.sub (U.ae U.a1 k)
   have n:cz d e f b h:=by subst g;exact cz.of (U.aq q (U.ae U.a1 k))
   clear g;refine fJ a9w (y h m) ?_;rintro s x ⟨o,p,rfl⟩;refine aa ?_;refine⟨_,U.a1,(_,_,i),?_,rfl,o,n.trans p⟩;simp_all [eB,if_neg,if_pos]
  .have u:lW 1 5 (.ptr c 0) (ak a.d.kind)=some (.ptr c 3):=by have:=rX (e:=1) (i:=5) (v:=c) (M:=0) (e2:= .u8) (b1:=(a.d.kind.toNat:Int)) a9r a9r;rw[a5i,show 0+a.d.kind.toNat*1=3 by omega]at this;exact this
   refine aa ?_;have w:a.d.kind=3:=a5I.1 l;generalize g:(r.set c _)=h;have m:cQ h d e f i j:=by subst g;exact t.sub (U.ae U.a1 k)
   have n:cz d e f b h:=by subst g;exact cz.of (U.aq q (U.ae U.a1 k))
   clear g;refine fJ a9w (z h m) ?_;rintro s x ⟨res,y,rfl,o,p⟩;refine aa ?_;refine⟨_,U.a1,res,?_,rfl,o,n.trans p⟩;simp_all [eB,if_neg,if_pos]
  .have u:lW 1 5 (.ptr c 0) (ak a.d.kind)=some (.ptr c 4):=by have:=rX (e:=1) (i:=5) (v:=c) (M:=0) (e2:= .u8) (b1:=(a.d.kind.toNat:Int)) a9r a9r;rw[a5i,show 0+a.d.kind.toNat*1=4 by omega]at this;exact this
   refine aa ?_;have w:a.d.kind=4:=a5I.1 l;generalize g:(r.set c _)=h;have m:cQ h d e f i j:=by subst g;exact t.sub (U.ae U.a1 k)
   have n:cz d e f b h:=by subst g;exact cz.of (U.aq q (U.ae U.a1 k))
   clear g;refine fJ a9w (A h m) ?_;rintro s x ⟨rfl,o,p⟩;refine aa ?_;refine⟨_,U.a1,ju i j a.d,?_,rfl,o,n.trans p⟩;simp_all [eB,if_neg]
theorem oL:cB b9=true↔(∀b∈b9,fU b=true)/\b9.Pairwise (λc d=>bZ c.name d.name=true)/\b9.length<=8:=by
 constructor
 .intro a;have o:=zt a;simp only[cB,a4M,a4Y,a6b,decide_eq_true_eq]at a;refine⟨λb h=> ?_,?_,a.2⟩
  .obtain⟨p,r,rfl⟩:=a5A h;simp_all
  grind[List.pairwise_iff_getElem,List.getD]
 .rintro⟨x,k,y⟩;rw[a6I]at k;simp only[cB,a4M,a4Y,a6b,decide_eq_true_eq,a6u];grind
theorem G5 {b:List aK} (c:cB b9=true) (a:cN b9 B= .ok b):cB b=true:=by
 unfold cN at a;rw[if_pos c]at a;split at a
 .obtain rfl:=Except.ok.inj a;obtain⟨d,h,k⟩:=oL.1 c;have o:(b9.take (df b9 B)++b9.drop (df b9 B+1)).Sublist b9:=by grind[df,List.Sublist.append_left,List.drop_drop,List.drop_sublist,List.take_append_drop]
  grind[oL,Nat.le_trans]
 .cases a
theorem G6 {c:List aK} (a:ke b9 e6= .ok c):cB c=true:=by
 unfold ke at a;split at a
 .rename_i b;simp only[a4M]at b;obtain⟨b,r⟩:=b;split at a
  .rename_i d;obtain rfl:=Except.ok.inj a;simp only[gI,a4M,decide_eq_true_eq]at d;obtain⟨h,k⟩:=d;obtain⟨x,o,p⟩:=oL.1 b;have y:(b9[df b9 e6.name]'h).name=e6.name:=by simpa[List.getD,h] using k
   refine oL.2 ⟨λz C=> ?_,?_,by rw[a7m];exact p⟩;grind
   .rw[a6I]at o|-;grind
  .cases a
 .cases a
def G7 {c:aK->Bool}: ∀ {d:List aK},∀b∈d.takeWhile c,c b=true
 | [],b,a=>by cases a
 |h::d,b,a=>by
  rw[a5B]at a;split at a
  .rcases a5k.1 a with rfl|a
   .assumption
   .exact G7 b a
  .cases a
theorem G8 {c:aK->Bool}: ∀ {d:List aK}{b:aK}{h:List aK},d.dropWhile c=b::h->c b=false
 | [],_,_,a=>by cases a
 |k::d,b,h,a=>by
  rw[a6f]at a;split at a
  .exact G8 a
  simp_all
theorem G9 {o:List aK} (b:kd b9 e6= .ok o):cB o=true:=by
 unfold kd at b;split at b
 .rename_i d;simp only[a4M]at d;obtain⟨d,E⟩:=d;split at b
  .cases b
  rename_i F;split at b
  .cases b
  rename_i G;obtain rfl:=Except.ok.inj b;obtain⟨L,p,P⟩:=oL.1 d;have r:b9.take (df b9 e6.name)=b9.takeWhile λa=>bZ a.name e6.name:=by grind[List.takeWhile_append_dropWhile,bZ,df,List.take_left]
  have x:b9.drop (df b9 e6.name)=b9.dropWhile λa=>bZ a.name e6.name:=by grind[List.takeWhile_append_dropWhile,bZ,df,List.drop_left]
  have el:=a5G (p:=λa:aK=>bZ a.name e6.name) (l:=b9);have S: ∀a∈b9.takeWhile (λa=>bZ a.name e6.name),bZ a.name e6.name=true:=λa c=>G7 (c:=λa:aK=>bZ a.name e6.name) a c;have y: ∀a∈b9.dropWhile (λa=>bZ a.name e6.name),bZ e6.name a.name=true:=by
   intro a c;cases h:b9.dropWhile (λa=>bZ a.name e6.name)with
   |nil=>rw[h]at c;cases c
   |cons k T=>
    have V:=G8 h;have W:df b9 e6.name<b9.length:=by grind
    have e:b9.getD (df b9 e6.name) default=k:=by grind
    have f:k.name≠e6.name:=λg=>by
     simp_all [gI,a4M,decide_eq_true_eq]
    have z:bZ e6.name k.name=true:=by grind[bZ,absurd,FG]
    rw[h]at c;rcases a5k.1 c with rfl|c
    .exact z
    grind[vi,List.pairwise_cons]
  rw[r,x];refine oL.2 ⟨λa c=> ?_,?_,?_⟩;grind
  .rw[<-el]at p;obtain⟨C,D,i⟩:=a5R.1 p;refine a5R.2 ⟨C,a5t.2 ⟨y,D⟩,λj l m n=> ?_⟩;grind
  grind
 .cases b
end Go.Proofs.YtlgnfcaolejgeaaGreat
namespace Go.bB
open Go
variable{n b3:R}{f t e7:U}{g A e1:List R}{e i v M c0 j0:Nat}
theorem View.obj (p:f e=some (.cells (A++ .al i M c0 1::e1))) (D:f i=some (.cells g)) (E:M*1<=g.length) (F:e≠i):
  View f n ((f.set i (.ro g)).set e (.cells (A++ .J (dL 1 M g) .any::e1))) n:=λw B v G L=>by
 obtain⟨P,a⟩:=Step.freeze G D;have S:(f.set i (.ro g)) e=some (.cells (A++ .al i M c0 1::e1)):=by rw[U.an _ _ F];exact p
 obtain⟨r,V,T,W,h,j⟩:=a.holds.dT e _ S;refine⟨P,⟨⟨a.holds.ro,λx l c=> ?_⟩,a.le,a.os,a.tape,a.output,a.size,λ_ _ _=>rfl,λk H=> ?_,a.mx,λk m q o=> ?_⟩,L.mono a.le⟩
 .by_cases d:x=e
  .subst d;rw[U.ah]at c;obtain rfl:=a4I c;refine⟨λy b=> ?_,V,T,W,⟨by have:=h.1;simp_all,λz C s=> ?_⟩,j⟩
   .simp only[a5c,a5k]at b;rcases b with b|rfl|b
    .exact r y (by simp[b])
    .rfl
    .exact r y (by simp[b])
   .by_cases t:z=A.length
    .subst t;have u:C= .J (dL 1 M g) .any:=by simpa using s.symm
     subst u;exact aZ.frozen a.holds (U.ah _ _ _) E (h.2 A.length (.al i M c0 1) a9s)
    .refine h.2 z C ?_;grind
  .rw[U.an _ _ d]at c;exact a.holds.dT x l c
 grind[U.an]
 .have d:k≠e:=by rintro rfl;rw[p]at o;cases o
  rw[U.an _ _ d];exact a.jE k m q o
def zI (k o:U):Prop:= ∀a b c d h,k a=some (.cells [.J b c,.J d h])->o a=some (.cells [.J b c,.J d h])
end Go.bB
namespace Go.Proofs.YtlgnfcaolejgeaaGreat
open Go Go.bB
def bu.vs {r x:U} (d:zI r x): ∀ {a:Nat}{b:a6.T a}{c:R},bu r a b c->bu x a b c
 |0,b,c,⟨h,y,k,eX,h1,o,p⟩=>⟨h,y,k,eX,h1,d _ _ _ _ _ o,p⟩
 |a+1,b,c,⟨h,z,k,eX,h1,o,p,C⟩=>⟨h,z,k,eX,h1,d _ _ _ _ _ o,p.mono λ_ _=>bu.vs d,C⟩
variable{e i v M c0 j0:Nat}
theorem a2s (i:List Int) (o:Own) (a:a6.T 0) (b:R) (g:U) (d:bu g 0 a b) (f:GT e 0 a) (c:e<=8):
  AC Tryz.prog 95 [b,.J (ad i) o] g λk c=>g.sub c/\bu c 0 (a6.cN bz i 0 a) k:=by
 obtain⟨b,b,r,b,rfl,n,m⟩:=d;obtain⟨d,rfl⟩:=a6.ia a;rw[a6.qN]at m;have p:=f.ok;have a:=f.dI;rw[a6.kD]at p a;have a:=m.len;show AC _ _ _ _ λk c=>g.sub c/\bu c 0 (a6.leaf (d.filter λa=>decide (a≠i))) k;refine AC.view (s:=λk c=> ∃a e f,k= .ptr a 0/\g a=none/\ar (g.set a (.cells [e,.J [] .nil])) c 1 f e/\az isRow (d.filter λa=>decide (a≠i)) f) ?_ ?_
 .have q:=U.af n;refine aO hm Bm ?_;refine br λa l=> ?_;refine cj [0,1,5] (λb:Nat=> [(6,.v (.int .i64 (b:Int)))]) (λb c=>b<=d.length/\ ∃e f,ar (g.set a (.cells [e,.J [] .nil])) c 1 f e/\az isRow ((d.take b).filter λa=>decide (a≠i)) f) (λb=>d.length - b) 0 ⟨⟨a9r,_,[],ar.nil U.a1,trivial⟩,aU⟩ ?_;rintro b s ⟨h,e,f,h,j⟩ t;have t:=j.len;have t:=h.1 _ _ (U.ah _ _ _);have q:=rd (U.aq (U.ae U.a1 l) h.1) n;have n:=U.af t;refine aa ?_;refine aH (λq=> ?_) λq=> ?_
  .obtain⟨_,q,q,rfl⟩:=m.at [] (e:=b) a9r;have t:=eU (a:=d) (b:= []) (e:=b) a9r;have m:=(p (d.getD b []) (by grind)).len;generalize d.getD b []=m at*;refine lY (np m i q o s a9r) ?_;refine aH (λc2=> ?_) λc2=> ?_
   .have o:=a8h (λa=>decide (a≠i)) (d.take b);rw[a4N]at o;refine Xe h (λ_ i d d=> ?_) (C:=a9r);have o:=U.aJ (d.1 _ _ (U.ah _ _ _));have o:=fL d;have o:=jQ (Y:= .cells [i,.J [] .nil]) d (U.ah g a (.cells [e,.J [] .nil]));rw[U.set_set]at o;refine aa ?_;exact⟨b+1,⟨a9r,i,_,o,by rw[t,a7T,a8N (by simpa using c2),a8Q];exact j.snoc ⟨q,rfl⟩⟩,rfl,a9r⟩
   grind
  .rw[a4K a9r]at j;exact⟨_,U.a1,a,e,f,rfl,l,h,j⟩
 .rintro k c ⟨a,e,f,rfl,l,h,j⟩;have n:=h.1 _ _ (U.ah _ _ _);have d:=U.aq (U.ae U.a1 l) h.1;rcases h.2 with ⟨rfl,g⟩|⟨e,h,b,i,rfl,b,k,o,p,q,q,q⟩
  .refine⟨_,c,View.refl,d,?_⟩;rcases g with rfl|rfl<;>exact⟨a,[],_,.nil,rfl,n,j⟩
  .have c:a≠e:=by rintro rfl;rw[U.ah]at b;cases b
   refine⟨_,_,View.obj (A:= []) (e1:= [.J [] .nil]) n k (by rw[o];omega) c,?_,a,_,.any,.nil,rfl,U.ah _ _ _,?_⟩
   .intro m r c;have g:m≠a:=by rintro rfl;rw[l]at c;cases c
    have a:m≠e:=by rintro rfl;rw[U.an _ _ g,c]at b;cases b
    rw[U.an _ _ g,U.an _ _ a];exact d _ _ c
   .rw[kz,show i.take h=f by rw[<-p,a5v]];exact j
end Go.Proofs.YtlgnfcaolejgeaaGreat
