import Derived.Test.YtcfpcblgmmeioaaGreatMF
import Derived.Test.YtcfpcblgmmeioaaGreatMB
import Derived.Shelf.SlSortCmp.NoneTotal
import Derived.Shelf.SlLaysF
import Derived.Test.YtcfpcblgmmeioaaGreatProg
import Derived.Test.YtcfpcblgmmeioaaGreatMG
import Derived.Test.YtcfpcblgmmeioaaGreatME
set_option linter.all false
set_option maxRecDepth 100000
namespace Go.Proofs.YtcfpcblgmmeioaaGreat
open Go Go.bD
structure ag.le (a c:ag):Prop where
 m: ∀d b,a.m d=some b->c.m d=some b
 one:a.one=true->c.one=true
variable{H:ag}
theorem ag.le_refl:H.le H:=⟨λ_ _ a=>a,λa=>a⟩
theorem ag.le.trans {b c:ag} (d:H.le b) (h:b.le c):H.le c:=⟨λ_ _ a=>h.m _ _ (d.m _ _ a),λa=>h.one (d.one a)⟩
def ag.le.zero {a:ag} (c:H.le a) (b:a.one=false):H.one=false:=by
 cases d:H.one with
 |false=>rfl
 |true=>rw[c.one d]at b;cases b
theorem lK (b:ag) (c:List UInt8):b.le (fc b c):=by
 unfold fc;split
 .rename_i a;refine⟨λd h k=> ?_,λa=>a⟩;grind
 .split
  .exact⟨λ_ _ a=>a,λ_=>rfl⟩
  .exact ag.le_refl
variable{A:List UInt8}
theorem rC (a:(fc H A).one=false):(fc H A).m (fZ A)=some A:=by unfold fc at a|-;grind
variable{e i v M b9 j2:Nat}{b4:bY}
theorem q6 (b:fI e b4=some (fm b4)) (a:ag):dB a e b4=(.ok (fm b4),fc a (cG b4)):=by unfold dB;rw[b]
def fg (c:ag):(b:Nat)->a1.T b->Prop
 |0,a=>c.m (bK 0 a).sum=some (cG (dD 0 a))
 |b+1,a=>c.m (bK (b+1) a).sum=some (cG (dD (b+1) a))/\ ∀d∈a1.kids a,fg c b d
def fg.mono {c d:ag} (b:c.le d): ∀ {a:Nat}{h:a1.T a},fg c a h->fg d a h
 |0,_,a=>b.m _ _ a
 | _+1,_,a=>⟨b.m _ _ a.1,λk o=>fg.mono b (a.2 k o)⟩
def fg.a2M: ∀ {a:Nat}{b:a1.T a},fg H a b->H.m (bK a b).sum=some (cG (dD a b))
 |0,_,a=>a
 | _+1,_,a=>a.1
def FZ {a:a1.T e}:(dD e a).kind=if e=0 then 2 else 3:=by cases e<;>rfl
def tz (c:1<=i) (d:i<=8) {a:a1.T e} (h:dp i e a) (k:fg H e a):dA H i (bK e a)=some (dD e a):=by have b:=(lC c d e a h).1;unfold dA;rw[k.a2M];simp only;rw[DI aaU b.tj];simp only;rw[b.oI,ti,if_pos rfl]
theorem rD (b:1<=i) (c:i<=8) {a:a1.T e} (d:dp i e a) (h:fg H e a):iP H i (bK e a)=some (dD e a):=by simp_all [iP,tz,FZ]
theorem zr {r:Type}{b:List r->bY}{x:Nat}: ∀(gs:List (List r)) (c:ag) (h:List aq),(∀a∈gs,fI x (b a)=some (fm (b a)))->
  ∃d,dx b x c gs h=(.ok (h++gs.map λa=>fm (b a)),d)/\c.le d/\(d.one=false-> ∀a∈gs,d.m (fZ (cG (b a)))=some (cG (b a)))
 | [],c,h,_=>⟨c,by simp[dx],ag.le_refl,λ_ a z=>by cases z⟩
 |a::gs,c,h,C=>by
  obtain⟨d,E,o,D⟩:=zr gs (fc c (cG (b a))) (h++ [fm (b a)]) (λp k=>C p (by simp[k]));refine⟨d,?_,(lK _ _).trans o,λy p k=> ?_⟩;grind[dx,q6]
  .rcases a6W.1 k with rfl|k
   .exact o.m _ _ (rC (o.zero y))
   .exact D y p k
structure Laid (a:ag) (h:Nat) (sF:List (a1.T h)) (r:Except Int (List aq)×ag):Prop where
 ok:r.1= .ok (sF.map (bK h))
 le:a.le r.2
 ins:r.2.one=false-> ∀c∈sF,fg r.2 h c
def G0 {a:a1.T e} (b:a1.WF e a) (c: ∀d∈a1.ba e a,bN i d) (h:(a1.ba e a).length<=1048576):dp i e a:=⟨a1.jQ.of b,c,h⟩
theorem G1 (o:1<=e) (p:e<=8) (h:ag) (a:List (List Int)) (r:1<=a.length) (L:a.length<=5) (x: ∀c∈a,bN e c):Laid h 0 ((a1.chunks a).map a1.leaf) (oF h e a):=by
 have k: ∀b∈a1.chunks a,1<=b.length/\b.length<=4/\ ∀c∈b,c∈a:=by
  by_cases y:a.length=5
  .rw[a1.sY y];grind
  .rw[a1.oC r aaU];grind
 obtain⟨P,z,C,D⟩:=zr (a1.chunks a) h [] (λb d=>(vg o p (k b d).1 (k b d).2.1 (λc E=>x c ((k b d).2.2 c E))).oI);unfold oF;rw[z];refine⟨?_,C,λF S G=> ?_⟩
 .rw[a6T,a8D];rfl
 .obtain⟨b,d,rfl⟩:=a6S.1 G;exact D F b d
theorem zs (C:1<=i) (D:i<=8) (p:ag) (a:List (a1.T e)) (f:2<=a.length) (g:a.length<=5) (E: ∀d∈a,a1.WF e d) (j: ∀F∈a.flatMap (a1.ba e),bN i F) (l:(a.flatMap (a1.ba e)).length<=1048576)
  (G: ∀o,p.le o->o.one=false-> ∀d∈a,fg o e d):Laid p (e+1) ((a1.chunks a).map a1.node) (jS p i (a.map (bK e))):=by
 have r: ∀b∈a1.chunks a,2<=b.length/\b.length<=4/\(∀d∈b,d∈a)/\(b.flatMap (a1.ba e)).length<=(a.flatMap (a1.ba e)).length:=by
  by_cases x:a.length=5
  .rw[a1.sY x];simp only[a6W,a7V,or_false,forall_eq_or_imp,forall_eq,a6C,a6R];have L:a.flatMap (a1.ba e)=(a.take 3).flatMap (a1.ba e)++(a.drop 3).flatMap (a1.ba e):=by rw[<-a7r,a7f]
   grind
  .rw[a1.oC aaU aaU];grind
 have P: ∀b∈a1.chunks a,dp i (e+1) (a1.node b):=λb h=>by
  obtain⟨m,n,d,L⟩:=r b h;refine G0 (a1.hf.2 ⟨by rw[a1.dI];omega,by rw[a1.dI];omega,λc k=>E c (d c k)⟩) (λc k=> ?_) (by rw[a1.fN];omega);grind[a1.fN]
 have S:a1.chunks (a.map (bK e))=(a1.chunks a).map (List.map (bK e)):=by by_cases x:a.length=5;simp_all [a1.sY];grind[a1.oC,bK]
 obtain⟨o,T,y,V⟩:=zr (b:=eo) ((a1.chunks a).map (List.map (bK e))) p [] (λb h=>by
  obtain⟨c,k,rfl⟩:=a6S.1 h;exact(lC C D (e+1) (a1.node c) (P c k)).1.oI)
 unfold jS;rw[S,T];refine⟨?_,y,λz d W=> ?_⟩
 .rw[a6T,a8D,a8D];rfl
 .obtain⟨b,h,rfl⟩:=a6S.1 W;exact⟨V z _ (a6S.2 ⟨b,h,rfl⟩),λc k=>G o y z c ((r b h).2.2.1 c k)⟩
variable{q b8:List Int}
theorem G2:kC q b8<0↔bC q b8=true:=by grind[kC]
theorem zt (b:1<=e) (c:e<=8) (d:bN e q) (h:bN e b8):kC q b8=0↔q=b8:=by
 unfold kC;constructor
 .intro a;split at a
  .omega
  .rename_i k;split at a
   .omega
   .rename_i o;exact(ga b c).total q b8 d h (by simpa using k) (by simpa using o)
 .rintro rfl;rw[pS];simp
theorem zu {y:Nat} (z:1<=y) (C:y<=8) {c:List (List Int)}{k:List Int} (E:a1.hg bC c) (r: ∀d∈c,bN y d) (D:bN y k): ∀(p h b:Nat),h<=b->b<=c.length->b - h<=p->
  (∀a d,c[a]? =some d->a<h->bC d k=true)->(∀a d,c[a]? =some d->b<=a->bC d k=false)->
  (∀a d,c[a]? =some d->a<mA c k p h b->bC d k=true)/\(∀a d,c[a]? =some d->mA c k p h b<=a->bC d k=false)/\mA c k p h b<=c.length
 |0,h,b,T,G,V,h1,L=>by
  obtain rfl:h=b:=aaU;trivial
 |p+1,h,b,T,G,V,h1,L=>by
  rw[mA];by_cases W:h<b
  .rw[if_pos W];have hm:(h+b)/2<c.length:=aaU;have e:=a6y hm;rw[e];simp only;have P:=a7Y.1 E;have S:=r _ (a6Z hm);by_cases o:kC c[(h+b)/2] k<0
   .rw[if_pos o];have o:=G2.1 o;refine zu z C E r D p _ _ aaU G aaU (λa d F f=> ?_) L;by_cases he:a=(h+b)/2;simp_all
    .obtain⟨x,rfl⟩:=a6H.1 F;exact(ga z C).trans _ _ _ (r _ (a6Z x)) S D (P a _ x hm aaU) o
   .rw[if_neg o];have o:bC c[(h+b)/2] k=false:=by simp_all [absurd,G2]
    refine zu z C E r D p _ _ aaU aaU aaU h1 (λa d F f=> ?_);by_cases he:a=(h+b)/2;simp_all
    .obtain⟨x,rfl⟩:=a6H.1 F;cases g:bC c[a] k with
     |false=>rfl
     |true=>have:=(ga z C).trans _ _ _ S (r _ (a6Z x)) D (P _ a hm x aaU) g;rw[this]at o;cases o
  grind
variable{O:List (List Int)}
theorem G3 (c:1<=e) (d:e<=8) (h:a1.hg bC O) (k: ∀a∈O,bN e a) (o:bN e q):
  (∀b a,O[b]? =some a->b<eT O q->bC a q=true)/\(∀b a,O[b]? =some a->eT O q<=b->bC a q=false)/\eT O q<=O.length:=
 zu c d h k o O.length 0 O.length aaU (a7g _) aaU (λb a _ p=>by omega) (λb a r p=>by
  simp_all)
theorem a2N (h:1<=e) (k:e<=8) (o:a1.hg bC O) (p: ∀b∈O,bN e b) (r:bN e q):O.take (eT O q)++q::O.drop (eT O q)=a1.dT bC O q:=by
 obtain⟨D,x,E⟩:=G3 h k o p r;generalize eT O q=a at*;have y: ∀b∈O.take a,bC b q=true:=λb z=>by
  obtain⟨F,G,rfl⟩:=a7l z;grind
 conv=>rhs;rw[<-a7f a O]
 rw[a1.yf y];congr 1;unfold a1.dT;cases C:O.drop a with
 |nil=>rfl
 |cons c d=>
  have:O[a]? =some c:=by have:=congrArg (λd=>d[0]?) C;simpa using this
  have:=x a c this (a7g _);simp[this]
theorem zv (d:1<=e) (h:e<=8) (k:a1.hg bC O) (r: ∀x∈O,bN e x) (c:bN e q):kE O q=decide (q∈O):=by
 obtain⟨F,y,G⟩:=G3 d h k r c;unfold kE;by_cases o:q∈O
 .obtain⟨a,hm,z⟩:=a7l o;have C:O[a]? =some q:=by simp_all
  have D:=a7Y.1 k;have E:a=eT O q:=by
   rcases aa5 a (eT O q)with b|b|b;grind[pS]
   .exact b
   .have p:=D (eT O q) a aaU hm b;rw[z]at p;have:=y (eT O q) _ (a6y aaU) (a7g _);rw[p]at this;cases this
  rw[<-E,C,decide_eq_true o];simp only;rw[decide_eq_true];exact(zt d h c c).2 rfl
 grind[decide_eq_false,eT,List.mem_of_getElem?,zt]
theorem a2O (d:1<=e) (h:e<=8) (p:a1.hg bC O) (k: ∀b∈O,bN e b) (o:bN e q) (r:q∈O):O.take (eT O q)++O.drop (eT O q+1)=O.filter λb=>decide (b≠q):=by
 have a:=zv d h p k o;rw[decide_eq_true r]at a;unfold kE at a;generalize eT O q=x at*;cases c:O[x]? with
 |none=>rw[c]at a;cases a
 |some b=>rw[c]at a;simp only[decide_eq_true_eq]at a;obtain rfl:=(zt d h (k b (a6D c)) o).1 a;have y:=a1.rh c;grind[List.pairwise_cons,List.filter_cons_of_neg,a1.filter_none,pS]
def kc:H.le (dB H e b4).2:=by
 unfold dB;split
 .exact ag.le_refl
 .exact lK _ _
def zw {h:Type}{c:List h->bY}{d:Nat}: ∀(gs:List (List h)) (a:ag) (b:List aq),a.le (dx c d a gs b).2
 | [],a,b=>ag.le_refl
 |k::gs,a,b=>by
  have o:=kc (H:=a) (e:=d) (b4:=c k);rw[dx];generalize dB a d (c k)=p at*;obtain⟨r,x⟩:=p;cases r with
  |error z=>exact o
  |ok y=>exact o.trans (zw gs x (b++ [y]))
def G4:H.le (oF H e O).2:=zw _ _ _
def zx {a:List aq}:H.le (jS H e a).2:=zw _ _ _
def G5 {c:Nat}{b:List Int}: ∀(d:Nat) (a:ag) (h:aq),a.le (gv c b d a h).2
 |0,a,h=>ag.le_refl
 |d+1,a,h=>by
  rw[gv];cases iP a c h with
  |none=>exact ag.le_refl
  |some k=>
   simp only;by_cases o:k.kind=2
   .rw[if_pos o];by_cases p:kE (k.rows.map Prod.fst) b=true
    .rw[if_pos p];exact ag.le_refl
    .rw[if_neg p];exact G4
   .rw[if_neg o];cases k.kids[hG b k]? with
    |none=>exact ag.le_refl
    |some r=>
     have x:=G5 (c:=c) (b:=b) d a r;simp only;generalize gv c b d a r=y at*;obtain⟨z,C⟩:=y;cases z with
     |error D=>exact x
     |ok E=>exact x.trans zx
def G6 {d:Nat}: ∀(h:Nat) (a:ag) (b:List aq),a.le (hi d h a b).2
 |0,a,b=>ag.le_refl
 |h+1,a,b=>by
  rw[hi];by_cases c:1<b.length
  .rw[if_pos c];have c:=zx (H:=a) (e:=d) (a:=b);generalize jS a d b=k at*;obtain⟨o,p⟩:=k;cases o with
   |error x=>exact c
   |ok r=>exact c.trans (G6 h p r)
  .rw[if_neg c];exact ag.le_refl
variable{w j3:aq}
def G7:H.le (lz e q H w).2:=by
 unfold lz;split
 .exact kc
 .have a:=G5 (c:=e) (b:=q) (w.size.toNat+1) H w;generalize gv e q (w.size.toNat+1) H w=b at*;obtain⟨c,d⟩:=b;cases c with
  |error h=>exact a
  |ok k=>exact a.trans (G6 _ _ _)
variable{I:Bool}
theorem G8 {a:List aq}:H.le (mz H e I O a).2:=by unfold mz;split<;>exact kc
theorem join_le {a b:ij}:H.le (kF H e a b).2:=by
 unfold kF;split
 .exact G4
 .exact zx
theorem a2P {c:List aq}{a:ij}:H.le (jV H e c i a).2:=by
 unfold jV;by_cases b:2<=a.rows.length+a.kids.length
 .rw[if_pos b];grind[G8,mz]
 .rw[if_neg b];grind[ag.le_refl,iP,join_le,hj,kF]
def G9 {d:Nat}{b:List Int}: ∀(k:Nat) (c:ag) (o:aq),c.le (ik d b k c o).2
 |0,c,o=>ag.le_refl
 |k+1,c,o=>by
  rw[ik];cases iP c d o with
  |none=>exact ag.le_refl
  |some a=>
   simp only;by_cases h:a.kind=2
   .rw[if_pos h];by_cases y:kE (a.rows.map Prod.fst) b=true
    .rw[if_pos y];exact ag.le_refl
    .rw[if_neg y];exact ag.le_refl
   .rw[if_neg h];cases a.kids[hG b a]? with
    |none=>exact ag.le_refl
    |some z=>
     have p:=G9 (d:=d) (b:=b) k c z;simp only;generalize ik d b k c z=r at*;obtain⟨x,C⟩:=r;cases x with
     |error E=>exact p
     |ok D=>
      have h:=a2P (H:=C) (e:=d) (c:=a.kids) (i:=hG b a) (a:=D);simp only;generalize jV C d a.kids (hG b a) D=r at*;obtain⟨x,F⟩:=r;cases x with
      |error E=>exact p.trans h
      |ok G=>exact p.trans h
theorem Ga:H.le (lA e q H w).2:=by
 unfold lA;split
 .exact ag.le_refl
 .have a:=G9 (d:=e) (b:=q) (w.size.toNat+1) H w;generalize ik e q (w.size.toNat+1) H w=b at*;obtain⟨c,d⟩:=b;cases c with
  |error h=>exact a
  |ok k=>
   simp only;split
   .exact a
   .split
    .exact a
    .exact a.trans G8
end Go.Proofs.YtcfpcblgmmeioaaGreat
namespace Go.bD
open Go
variable{f s e0:U}{u:bl}{l h9:World}
theorem Step.a2Q {p:bl} (b:Step u f l p s h9) (r: ∀a,f a=none\/ ∃c,f a=some (.ro c)): ∃x k,h9=Sort.grow (l.drewN x) k:=by
 have d: ∀a,a<l.heap.size->h9.heap[a]? =l.heap[a]? :=λa d=>by
  rcases r a with h|⟨c,h⟩
  .exact b.block a d h
  .exact(b.jE a c d h).1
 have y:=b.os;have z:=b.tape;have o:=b.output;have C:=b.size;refine⟨h9.drawn - l.drawn,h9.heap.extract l.heap.size h9.heap.size,?_⟩;obtain⟨D,E,F,k,G⟩:=l;obtain⟨L,P,S,T,V⟩:=h9;simp only at*;obtain⟨rfl,o⟩:=o;subst y;subst z;simp only[Sort.grow,World.drewN,World.mk.injEq,true_and,and_true];grind
theorem Step.grown (d:Holds u f l) (o:Nat) (os:Array Obj):Step u f l u f (Sort.grow (l.drewN o) os):=by
 have c: ∀a,a<l.heap.size->(Sort.grow (l.drewN o) os).heap[a]? =l.heap[a]? :=λa c=>by
  show(l.heap++os)[a]? = _;grind
 exact {holds:=⟨λa h v p=>by rw[<-d.ro a h v p];exact World.cell?_of_block (c a (d.lt p)),λk h r=>(d.db k h r).kept (.refl u) (c k (d.db k h r).lt) (λ_ x=>x)⟩,le:= .refl u,os:=rfl,tape:=rfl,output:=⟨rfl,Nat.le_add_right _ _⟩,size:=aaV,block:=λa b _=>c a b,ef:=λ_ b=> .inl b,mM:=λ_ _ b=> .inl b,jE:=λa y b z=>⟨c a b,.inr ⟨y,z⟩⟩}
variable{b0:Type}
theorem a2R [Inhabited b0] (h:b0->Value) (b:World) (a:Nat) (c:Array b0) (d:Array Value) (k:TypeId) (o:Nat×Nat) (p:b.heap[a]? =some (.cells d k o)) (x:c.size<=d.size):
  Sort.putRow h b a 0 c=b.setRow a (dc d 0 (c.toList.map h)):=by
 unfold Sort.putRow Sort.mapBlock World.setRow;congr 1;apply Array.ext_getElem?;intro r;simp only[Array.getElem?_modify];by_cases hk:a=r
 .subst hk;simp only[if_true,p,a7F,Sort.onCells];congr 2;apply aaE;apply aa6;intro y;simp only[Sort.putCells,dc,a8j,Array.getElem?_mapIdx,a8w,a6T,a7c,a6J,a9V];grind
 .simp[hk]
variable{g B c0:List R}{e i v M b9 j2:Nat}{m:Program}
theorem a2S {k6:Shelf.Ren} (n5:Proofs.SlLaysF.n6 m k6) (S:b0->R->Prop) (n9: ∀a d,S a d->d.one=true/\d.cells= [d]) {C:List b0}
  (Y:f e=some (.cells g)) (a69:B.length=C.length) (a00: ∀(b:Nat) a d,C[b]? =some a->B[b]? =some d->S a d) (a01:C.length=i) (k7:g.take i=B) (a71:i<4611686018427387904)
  (V:FuncId) (I:List R) (k8:s.sub f) (k9: ∀c,s c=none\/ ∃Z,s c=some (.ro Z)) (x:b0->Prop) (a02: ∀j∈C,x j) (a03:0<i)
  (y:b0->b0->Int) (a73: ∀a,x a-> ¬y a a<0) (a74: ∀a h D,x a->x h->x D->y a h<0->y h D<0->y a D<0) (a81: ∀a h D,x a->x h->x D-> ¬y a h<0-> ¬y h D<0-> ¬y a D<0)
  (a04: ∀l0 p,(callFunc V l0).run m p= .ok (.enter V l0) p)
  (a05: ∀a h d c,S a d->S h c->x a->x h->AC m V ([d,c]++I) s λj _=>j= .v (.int .i64 (y a h))):
  AC m (k6.f 6) [.ao e i M 1,.bG V [] I] f λj l1=>j= .aJ []/\ ∃o j9,j9.Perm C/\o.length=i/\(∀(b:Nat) a d,j9[b]? =some a->o[b]? =some d->S a d)/\List.Pairwise (λd c=> ¬y c d<0) j9/\l1=f.set e (.cells (o++g.drop i)):=by
 intro K p z k0 w;have l2:=k0.2 0 _ rfl;have l3:=k0.2 1 _ rfl;have a06:K.size=2:=k0.1;generalize a07:K.getD 0 undef=a83 at l2;generalize a08:K.getD 1 undef=a84 at l3;cases l2 with
 |ao e i M a86 a88 a89=>
 cases l3 with
 |bG a90 ws iu cK a92 hw a94 a09 a10=>
 obtain rfl:ws= #[]:=a9S hw;have al:K= #[.slice (some ⟨e,0,none⟩) i M,.func (.func V) #[] iu]:=by
  apply Array.ext
  .exact a06
  .intro b G L
   match b,G with
   |0,G=>rw[<-a07];simp_all
   |1,G=>rw[<-a08];simp_all
   |b+2,G=>omega
 rw[al];obtain⟨a95,l,T,k1,l4,a11⟩:=w.db e _ Y;have a96:i<=g.length:=by grind
 have a97:=l4.1
 let W:= {P:Value×b0//(∃d,S P.2 d/\aX z P.1 d)/\x P.2};have l5: ∀b (n:b<i),∃a:W,a.1.1=l[b]'aaU/\a.1.2=C[b]'aaU:=λb n=>by
  have G:g[b]? =some (B[b]'aaU):=by grind
  have L:=l4.2 b _ G;have A:l.getD b undef=l[b]'aaU:=by simp[show b<l.size by omega]
  rw[A]at L;exact⟨⟨(l[b]'aaU,C[b]'aaU),⟨_,a00 b _ _ (a6y _) (a6y _),L⟩,a02 _ (a6Z _)⟩,rfl,rfl⟩
 haveI:Inhabited W:=⟨(l5 0 a03).choose⟩
 obtain⟨E,l6,a98⟩: ∃E:Array W,E.size=i/\ ∀b (n:b<i) (a13),E[b].1.1=l[b]'aaU/\E[b].1.2=C[b]'aaU:=
  ⟨Array.ofFn λb=>(l5 b b.2).choose,aaV,λb n a13=>by grind[Array.getElem_ofFn]⟩
 let k:W->Value:=λa=>a.1.1;have G:Proofs.OneCell k:=λa=>by
  obtain⟨⟨d,L,A⟩,_⟩:=a.2;exact A.nX (n9 _ _ L).1
 have a14:Sort.Holds k p e 0 E:=λr k2=>by
  have a99:r<i:=aaU;rw[getElem!_pos E r k2];constructor
  .simp only[World.cell?,k1,a7c,a8t,a7H,if_false];grind
  .simp[World.frozen?,k1]
 have a15:=(a7P.1 k1).1
 let k3:W->W->Int:=λa h=>y a.1.2 h.1.2;have a16:Proofs.CmpLays1 m V iu k k3 e 0 E.size p:=λl7 q l8 b00 a h=>by
  have l9: ∀c,c<p.heap.size->c≠e->(Proofs.sortWorld k p e 0 l7 l8 q).heap[c]? =p.heap[c]? :=λc N O=>by
   show(((p.heap.modify e _)++q)[c]?)= _;grind
  have a18:Holds z s (Proofs.sortWorld k p e 0 l7 l8 q):=⟨λc k4 v t=>by
   have O:c≠e:=by rintro rfl;rw[a11]at t;cases t
   rw[<-w.ro c k4 v t];exact World.cell?_of_block (l9 c (w.lt t) O),λc k4 N=>by
   have O:c≠e:=by
    rintro rfl;rcases k9 c with H|⟨Z,H⟩
    .rw[H]at N;cases N
    .have:=k8 _ _ H;rw[Y]at this;cases this
   have L:=w.db c k4 (k8 _ _ N);exact L.kept (.refl z) (l9 c L.lt O) λ_ n=>n⟩
  obtain⟨⟨d,aK,a19⟩,a27⟩:=a.2;obtain⟨⟨c,a29,a30⟩,a34⟩:=h.2;have a36:bw z (#[k a,k h]++iu) ([d,c]++I):=⟨by simp[a09];omega,λr Q u=>by
   match r,u with
   |0,u=>obtain rfl:=a6x u;rw[show(#[k a,k h]++iu).getD 0 undef=k a by rw[a7w,a9t aaV];rfl];exact a19
   |1,u=>obtain rfl:=a6x u;rw[show(#[k a,k h]++iu).getD 1 undef=k h by rw[a7w,a9t aaV];rfl];exact a30
   |r+2,u=>
    have A:I[r]? =some Q:=by trivial
    have k2:r<iu.size:=by grind
    have b01:=a10 r Q A;simp_all [a7w,Array.getElem?_append_right]⟩
  refine(a05 _ _ d c aK a29 a27 a34 _ _ z a36 a18).mono ?_;rintro a38 a42 ⟨v,j,b02,l1,rfl,X,t,rfl⟩;refine⟨by rw[t.dV],X.a2Q k9⟩
 have a43:Sort.SWO (Proofs.ltOf k3):=⟨λa=>by simp only[Proofs.ltOf];grind,λa h D=>by simp only[Proofs.ltOf,decide_eq_true_eq];grind,λa h D=>by grind[Proofs.ltOf,decide_eq_false_iff_not]⟩;have n0:=Proofs.Any.slices_SortFunc n5 k G k3 a43 V iu e 0 M E p a04 a16 a14 a15 aaU;rw[l6]at n0;refine n0.mono ?_;rintro a38 a42 ⟨rfl,F,P,q,⟨b03,_,n1⟩,a47,rfl⟩;have n2:F.size=i:=aaU;rw[a9Z aaU,a9Z aaU]at n1
 let o:List R:=F.toList.map λa=>a.2.1.choose;have b04: ∀a:W,S a.1.2 a.2.1.choose/\aX z a.1.1 a.2.1.choose:=λa=>a.2.1.choose_spec;have a48:bw z (F.toList.map k).toArray o:=bw.dU.2 ⟨by simp[o],λr b05 Q n3 a52=>by
  simp only[a7d,o]at n3 a52;cases k5:F.toList[r]? with
  |none=>simp[k5]at n3
  |some a=>grind⟩
 obtain⟨a56,b06,b07,b08,X⟩:=Step.store w Y 0 o _ a48 (λZ k7=>by
  obtain⟨a,_,rfl⟩:=a6S.1 k7;grind) (by simp[o];omega)
 have a57:Sort.putRow k (Sort.ahead p P) e 0 F=Sort.ahead (p.setRow e (dc a56 0 (F.toList.map k))) P:=by grind[Sort.putRow_ahead,a2R]
 have a61:=X.trans (Step.grown X.holds P q);refine⟨_,.aJ [],z,f.set e (.cells (o++g.drop i)),rfl,?_,.aJ #[] [] rfl (λr Q H=>by simp at H),rfl,o,F.toList.map (λa=>a.1.2),?_,by simp[o,n2],?_,?_,rfl⟩
 .have a62:putAt g 0 o=o++g.drop i:=by simp[putAt,o,n2]
  rw[<-a62];show Step z f p z _ (Sort.grow (Sort.putRow k (Sort.ahead p P) e 0 F) q);rw[a57];exact a61
 .have a63:C=E.toList.map (λa=>a.1.2):=by
   apply aad
   .simp[a01,l6]
   simp_all
  rw[a63];exact n1.map _
 .intro b a d n4 a65;simp only[a7d,o]at n4 a65;cases k5:F.toList[b]? with
  |none=>simp[k5]at n4
  |some h=>grind
 .rw[a8Z,a7Y];intro b r n k2 a68;have:=a47 b r (a7b _) a68 (by simp_all);grind[Array.length_toList,Proofs.ltOf]
end Go.bD
namespace Go.Proofs
open Go.Shelf
def Tryz.a2T:Go.Shelf.Ren:=⟨λ|6=>46|15=>91|14=>90|28=>151|29=>152|20=>143|21=>144|22=>145|23=>146|24=>147|25=>148|26=>149|27=>150|46=>197|47=>198|48=>199|49=>200|50=>201|57=>251|a=>a,λ|22=>52|24=>44|25=>114|3=>3|39=>165|0=>0|53=>222|55=>224|4=>4|46=>215|45=>214|50=>219|5=>5|9=>9|66=>280|70=>284|76=>340|77=>341|a=>a,λ|a=>a⟩
def Tryz.a2U:Go.Proofs.SlLaysF.n6 Tryz.prog Tryz.a2T:= {
 mixed:=aaZ
 f6:=⟨Tryz.f46.name,aaY,Tryz.func46.trans (congrArg some aaZ)⟩
 f14:=⟨Tryz.f90.name,aaY,Tryz.func90.trans (congrArg some aaZ)⟩
 f15:=Tryz.func91.trans (congrArg some aaZ)
 f20:=⟨Tryz.f143.name,aaY,Tryz.func143.trans (congrArg some aaZ)⟩
 f21:=⟨Tryz.f144.name,aaY,Tryz.func144.trans (congrArg some aaZ)⟩
 f22:=⟨Tryz.f145.name,aaY,Tryz.func145.trans (congrArg some aaZ)⟩
 f23:=⟨Tryz.f146.name,aaY,Tryz.func146.trans (congrArg some aaZ)⟩
 f24:=⟨Tryz.f147.name,aaY,Tryz.func147.trans (congrArg some aaZ)⟩
 f25:=⟨Tryz.f148.name,aaY,Tryz.func148.trans (congrArg some aaZ)⟩
 f26:=⟨Tryz.f149.name,aaY,Tryz.func149.trans (congrArg some aaZ)⟩
 f27:=⟨Tryz.f150.name,aaY,Tryz.func150.trans (congrArg some aaZ)⟩
 f28:=Tryz.func151.trans (congrArg some aaZ)
 f29:=Tryz.func152.trans (congrArg some aaZ)
 f46:=⟨Tryz.f197.name,aaY,Tryz.func197.trans (congrArg some aaZ)⟩
 f47:=Tryz.func198.trans (congrArg some aaZ)
 f48:=Tryz.func199.trans (congrArg some aaZ)
 f49:=⟨Tryz.f200.name,aaY,Tryz.func200.trans (congrArg some aaZ)⟩
 f50:=⟨Tryz.f201.name,aaY,Tryz.func201.trans (congrArg some aaZ)⟩
 f57:=⟨Tryz.f251.name,aaY,Tryz.func251.trans (congrArg some aaZ)⟩
 t0:=Tryz.underlying0
 a0:=Tryz.isAgg0
 z0:=Tryz.sizeOf0
 v0:=Tryz.zeroValue0
 t3:=Tryz.underlying3
 a3:=Tryz.isAgg3
 z3:=Tryz.sizeOf3
 v3:=Tryz.zeroValue3
 t4:=Tryz.underlying4
 a4:=Tryz.isAgg4
 z4:=Tryz.sizeOf4
 v4:=Tryz.zeroValue4
 t5:=Tryz.underlying5
 a5:=Tryz.isAgg5
 z5:=Tryz.sizeOf5
 v5:=Tryz.zeroValue5
 t9:=Tryz.underlying9
 a9:=Tryz.isAgg9
 z9:=Tryz.sizeOf9
 v9:=Tryz.zeroValue9
 t22:=Tryz.underlying52
 a22:=Tryz.isAgg52
 z22:=Tryz.sizeOf52
 v22:=Tryz.zeroValue52
 a24:=Tryz.isAgg44
 z24:=Tryz.sizeOf44
 t25:=Tryz.underlying114
 a25:=Tryz.isAgg114
 z25:=Tryz.sizeOf114
 v25:=Tryz.zeroValue114
 t39:=Tryz.underlying165
 a39:=Tryz.isAgg165
 z39:=Tryz.sizeOf165
 v39:=Tryz.zeroValue165
 t45:=Tryz.underlying214
 a45:=Tryz.isAgg214
 z45:=Tryz.sizeOf214
 v45:=Tryz.zeroValue214
 t46:=Tryz.underlying215
 a46:=Tryz.isAgg215
 z46:=Tryz.sizeOf215
 v46:=Tryz.zeroValue215
 t50:=Tryz.underlying219
 a50:=Tryz.isAgg219
 z50:=Tryz.sizeOf219
 v50:=Tryz.zeroValue219
 t53:=Tryz.underlying222
 a53:=Tryz.isAgg222
 z53:=Tryz.sizeOf222
 v53:=Tryz.zeroValue222
 t55:=Tryz.underlying224
 a55:=Tryz.isAgg224
 z55:=Tryz.sizeOf224
 v55:=Tryz.zeroValue224
 t66:=Tryz.underlying280
 a66:=Tryz.isAgg280
 z66:=Tryz.sizeOf280
 v66:=Tryz.zeroValue280
 t70:=Tryz.underlying284
 a70:=Tryz.isAgg284
 z70:=Tryz.sizeOf284
 v70:=Tryz.zeroValue284
 t76:=Tryz.underlying340
 a76:=Tryz.isAgg340
 z76:=Tryz.sizeOf340
 v76:=Tryz.zeroValue340
 t77:=Tryz.underlying341
 a77:=Tryz.isAgg341
 z77:=Tryz.sizeOf341
 v77:=Tryz.zeroValue341}
end Go.Proofs
namespace Go.Proofs.YtcfpcblgmmeioaaGreat
open Go Go.bD
variable{b1:Int}
theorem Gb {a:Int}:im b1 a<0↔b1<a:=by unfold im;omega
theorem Gc {a:Int}:im b1 a=0↔b1=a:=by unfold im;omega
def lL:List Int->List Int->Prop
 |a::c,b::d=>a<b\/a=b/\lL c d
 | _,_=>False
theorem Gd: ∀ {b c:List Int},b.length=c.length->(hI b c<0↔lL b c)
 | [],[],_=>by simp[hI,lL]
 |d::b,h::c,a=>by
  have ih:=Gd (by simpa using a);grind[hI,lL,Gc,Gb]
 | [],_:: _,a=>by simp at a
 | _:: _,[],a=>by simp at a
def Ge: ∀ {b:List Int},¬lL b b
 | [],a=>a
 |c::b,a=>a.elim aaU λa=>Ge a.2
def Gf: ∀ {c d h:List Int},lL c d->lL d h->lL c h
 |k::c,o::d,p::h,a,b=>by
  rcases a with a|⟨rfl,a⟩<;>rcases b with b|⟨rfl,b⟩
  .exact .inl aaU
  .exact .inl a
  .exact .inl b
  .exact .inr ⟨rfl,Gf a b⟩
theorem Gg: ∀ {a b:List Int},a.length=b.length->lL a b\/a=b\/lL b a
 | [],[],_=> .inr (.inl rfl)
 |k::a,o::b,c=>by
  rcases Int.lt_trichotomy k o with d|rfl|d
  .exact .inl (.inl d)
  .rcases Gg (by simpa using c)with h|rfl|h
   .exact .inl (.inr ⟨rfl,h⟩)
   .simp
   .exact .inr (.inr (.inr ⟨rfl,h⟩))
  .exact .inr (.inr (.inl d))
 | [],_:: _,c=>by simp at c
 | _:: _,[],c=>by simp at c
def zy (a:Nat) (b c:List Int):Prop:=b.getD a 0<c.getD a 0\/b.getD a 0=c.getD a 0/\lL b c
variable{q b8:List Int}{e i v M b9 j2:Nat}
theorem vD (a:q.length=b8.length):cH e q b8<0↔zy e q b8:=by grind[cH,zy,Gc,Gd,Gb]
structure oW (d:Nat) (a:List Int->List Int->Int):Prop where
 jR: ∀x,x.length=d-> ¬a x x<0
 tA: ∀x y z,x.length=d->y.length=d->z.length=d->a x y<0->a y z<0->a x z<0
 tB: ∀x y,x.length=d->y.length=d->a x y<0\/x=y\/a y x<0
def oW.zz {a:List Int->List Int->Int} (c:oW e a) (b:q.length=e) (d:b8.length=e) (h:a q b8<0): ¬a b8 q<0:=λk=>c.jR q b (c.tA q b8 q b d b h k)
def oW.Gh {c:List Int->List Int->Int} (h:oW e c): ∀a b d,a.length=e->b.length=e->d.length=e-> ¬c a b<0-> ¬c b d<0-> ¬c a d<0:=λa b d k o r z x y=>by
 rcases h.tB a b k o with p|rfl|p
 .omega
 .omega
 .exact x (h.tA _ _ _ o k r p y)
theorem q7 (k o:Nat):oW k (cH o) where
 jR d h a:=by
  rw[vD rfl]at a;rcases a with a|a
  .omega
  .exact Ge a.2
 tA d p z h r C b c:=by
  rw[vD aaU]at*;rcases b with b|⟨b,x⟩<;>rcases c with c|⟨c,y⟩
  .exact .inl aaU
  .exact .inl aaU
  .exact .inl aaU
  .exact .inr ⟨aaU,Gf x y⟩
 tB d p h r:=by rw[vD aaU,vD aaU];grind[zy,Int.lt_trichotomy,Gg]
theorem zA {z:Nat}{o:List Int->List Int->Int} (C:oW z o): ∀ {c a:List (List Int)},(∀b∈c,b.length=z)->a.Perm c->c.Pairwise (λp r=> ¬o r p<0)->a.Pairwise (λp r=> ¬o r p<0)->a=c
 | [],a,_,d,_,_=>d.eq_nil
 |b::c,a,x,d,h1,E=>by
  cases a with
  |nil=>simp_all
  |cons h a=>
   obtain⟨T,F⟩:=a7i.1 h1;obtain⟨V,G⟩:=a7i.1 E;have D:h∈b::c:=d.mem_iff.1 aaV;have L:b∈h::a:=d.mem_iff.2 aaV;have k:h=b:=by
    rcases a6W.1 D with k|W
    .exact k
    rcases a6W.1 L with k|e
    .exact k.symm
    rcases C.tB h b (x h D) (x b aaV)with y|y|y
    .grind
    .exact y
    .grind
   subst k;rw[zA C (λP S=>x P (by simp[S])) (List.Perm.cons_inv d) F G]
theorem a2V (c:Nat) (a:List Int) (b:List (List Int)):(eU c a b).Perm (a::b):=by grind[List.takeWhile_append_dropWhile,decide,cH,eU,List.perm_middle]
def Gi {p c:Nat}{d:List Int} (r:d.length=p): ∀ {h:List (List Int)},(∀b∈h,b.length=p)->h.Pairwise (λx y=> ¬cH c y x<0)->(eU c d h).Pairwise (λx y=> ¬cH c y x<0)
 | [],_,_=>by simp[eU]
 |b::h,z,D=>by
  obtain⟨E,L⟩:=a7i.1 D;have F:=q7 p c;have G:=z b aaV;by_cases o:cH c b d<0
  .have C:eU c d (b::h)=b::eU c d h:=by simp[eU,o]
   rw[C];refine a7i.2 ⟨λk a=> ?_,Gi r (λk a=>z k (by simp[a])) L⟩;rcases yG.1 a with rfl|a
   .exact F.zz G r o
   .exact E k a
  .have C:eU c d (b::h)=d::b::h:=by simp[eU,o]
   rw[C];refine a7i.2 ⟨λk a=> ?_,D⟩;rcases a6W.1 a with rfl|a
   .exact o
   .exact F.Gh k b d (z k (by simp[a])) G r (E k a) o
theorem Gj {o d:Nat}: ∀(h a:List (List Int)),(∀b∈h,b.length=o)->(∀b∈a,b.length=o)->a.Pairwise (λp r=> ¬cH d r p<0)->(h.foldl (λx c=>eU d c x) a).Perm (a++h)/\(h.foldl (λx c=>eU d c x) a).Pairwise (λp r=> ¬cH d r p<0)
 | [],a,_,_,y=>by simpa using y
 |c::h,a,h1,z,y=>by
  have C:=h1 c aaV;have D: ∀b∈eU d c a,b.length=o:=λb k=>by
   rcases yG.1 k with rfl|k
   .exact C
   .exact z b k
  obtain⟨E,F⟩:=Gj h (eU d c a) (λb k=>h1 b (by simp[k])) D (Gi C z y);grind[a2V,trans]
variable{O:List (List Int)}
def tC (a: ∀b∈O,b.length=i):(ed e O).Perm O/\(ed e O).Pairwise (λc d=> ¬cH e d c<0):=by simpa[ed] using Gj O [] a aaV .nil
variable{n b6:R}
def a2W (a:isRow q n):n.one=true/\n.cells= [n]:=by obtain⟨b,rfl⟩:=a;trivial
theorem aB.of {k:Type}{o:k->R->Prop}: ∀ {b:List k}{aV:List R},aV.length=b.length->(∀(c:Nat) d h,b[c]? =some d->aV[c]? =some h->o d h)->aB o b aV
 | [],[],_,_=>trivial
 |d::b,r::aV,a,p=>⟨p 0 d r rfl rfl,aB.of (by simpa using a) λc x h y z=>p (c+1) x h y z⟩
 | [],_:: _,a,_=>by simp at a
 | _:: _,[],a,_=>by simp at a
variable{b5:FuncId}{m:Program}
def a2X (a:fu m b5=true): ∀b c,(callFunc b5 b).run m c= .ok (.enter b5 b) c:=by
 unfold fu at a;split at a
 .rename_i k d;rw[a6B]at a;obtain⟨o,h⟩:=a7m.1 a.1;exact enters_of d (by simpa using a.2) h
 .cases a
variable{f s e0:U}{g B c0:List R}
theorem a2Y {k:List Int->List Int->Int} (o:oW i k) {x:List (List Int)} (W:f v=some (.cells g)) (F:aB isRow O B) (G:O.length=e) (j:g.take e=B) (y:e<=4000000) (l:0<e) (L: ∀a∈O,a.length=i)
  (P:x.Perm O) (m:x.Pairwise (λz c=> ¬k c z<0)) (p:FuncId) (C:List R) (n:s.sub f) (q: ∀c,s c=none\/ ∃t,s c=some (.ro t)) (u:fu Tryz.prog p=true)
  (w: ∀b d D E,b.length=i->d.length=i->AC Tryz.prog p ([.J (ad b) D,.J (ad d) E]++C) s λa _=>a= .v (.int .i64 (k b d))):
  AC Tryz.prog 46 [.ao v e M 1,.bG p [] C] f λa S=>a= .aJ []/\ ∃r,aB isRow x r/\S=f.set v (.cells (r++g.drop e)):=by
 refine(a2S (m:=Tryz.prog) Tryz.a2U isRow (λ_ _=>a2W) W F.len (λY b z h T=> ?_) G j aaU p C n q (λa=>a.length=i) L l k o.jR o.tA o.Gh (a2X u) λb d z c T y h A=> ?_).mono λa S H=> ?_
 .obtain⟨c,y,Z⟩:=F.get h;simp_all
 .obtain⟨D,rfl⟩:=T;obtain⟨E,rfl⟩:=y;exact w b d D E h A
 .obtain⟨I,r,j9,V,K,N,Q,X⟩:=H;have:=zA o (λb h=>L b (P.mem_iff.1 h)) (V.trans P.symm) m Q;subst this;exact⟨I,r,aB.of (by rw[K,V.length_eq,G]) N,X⟩
def fV (a:ag) (b:Nat):Nat->aq->Option (List (List Int))
 |0,_=>none
 |c+1,d=>if d.live=0 then some []else match kP a b d with
  |none=>none
  |some (h,bF)=>match fV a b c (bF.getD 0 az),fV a b c (bF.getD 1 az)with
   |some k,some o=>some ((if h.2=true then [h.1]else [])++k++o)
   | _,_=>none
variable{w j3:aq}{H:ag}
def vE {d:List Int×Bool}{o:List aq} (a:kP H e w=some (d,o)): ∃b c,o= [b,c]/\dA H e w=some (ck d b c)/\w.size=1+b.size+c.size/\0<=b.size/\0<=c.size/\d.1.length=e/\w.size<=1048576:=by
 unfold kP at a;split at a
 .cases a
 rename_i y h;split at a
 .rename_i p;simp only[a6K,a7J]at a;obtain⟨rfl,rfl⟩:=a;have k:=FH h;obtain⟨z,C,E⟩:=FI k p;have r:=re h;obtain⟨F,rows,kids⟩:=y
  dsimp only at*
  obtain⟨d,rfl⟩:=a8B.1 z
  match kids,C with
  | [b,c],_=>have D:=r.size;have x:=tv k;subst p;simp only[a8c,a6Q,a7W,a7Q,a9D]at D;refine⟨b,c,rfl,h,aaU,(kQ (x b aaV)).1,(kQ (x c aaV)).1,(kz k).1 _ aaV,r.ns⟩
 .cases a
theorem tD {k:ag}{d:Nat}: ∀ {h:Nat}{c:aq}{b:List (List Int)},fV k d h c=some b->(b.length:Int)<=max 0 c.size/\ ∀o∈b,o.length=d
 |0,_,_,a=>by cases a
 |h+1,c,b,a=>by
  rw[fV]at a;split at a;grind;split at a
  .cases a
  rename_i y z p;split at a
  .rename_i C D r x;obtain rfl:=a6x a;obtain⟨E,F,rfl,_,G,L,P,S,_⟩:=vE p;have T:=tD r;have V:=tD x;grind
  .cases a
theorem Gk (L A:Nat) (h:ag) (c:Nat) (k0:1<=c) (k1:c<=8): ∀(d:Nat) (z:U) (_:bq z L A h) (p:aq) (P S T:Own),p.sum.length=32->p.cv->p.size.toNat<d->
  AC Tryz.prog 231 [dJ L c,.agg (ab p P S T)] z λi C=>z.sub C/\match fV h c d p with
   |none=>i= .aJ [.J [] .nil,.v (.int .i64 21)]
   |some rows=> ∃k r,i= .aJ [r,.v (.int .i64 0)]/\av z C 1 k r/\aB isRow rows k
 |0,_,_,_,_,_,_,_,_,F=>by omega
 |d+1,z,k2,p,P,S,T,ff,n0,a29=>by
  have a30:=(aP (N:=P) (e5:=S) (h6:=T) ff).all;refine aK hm Rm ?_;refine bp λj a34=> ?_;refine cZ λk3 a36 a38 a42=> ?_;generalize l:(z.set j _).set k3 _=m;have D:z.sub m:=by subst l;exact aO
  have c2:m j=some (.cells [.ptr L 0,.v (.int .i64 (c))]):=by subst l;exact aO
  have aE:m k3=some (.cells (ab p P S T)):=by subst l;exact aO
  clear l;rw[fV];have a43:=U.ae c2;have a47:=U.ae aE;refine aH (λn=> ?_) λn=> ?_
  .exact⟨_,U.a6,D,[],.J [] .nil,rfl,av.nil D,trivial⟩
  rw[if_neg n];refine ah (zj m L A h (k2.mono D) p P S T ff n0 c k0 k1) ?_;rintro i k4 ⟨G,q⟩;cases B:kP h c p with
  |none=>rw[B]at q;obtain rfl:=q;refine aa ?_;refine aN λs V=> ?_;refine aa ?_;exact U.af (U.au D G) (U.bI (U.au D G) V)
  |some n1=>
   obtain⟨b,a48⟩:=n1;rw[B]at q;obtain⟨x,n2,rfl,a52,a56,k5,H⟩:=q;obtain⟨o,cj,rfl,a57,a61,a62,a63,a65,a68⟩:=vE B;have a69:=fJ k5;have t:=bJ.dv k5 aaU rfl (H.cells λ_ _=>bB.cells);have I:=t.len;rw[H.len]at I;have I:fa n2=some (.v (.int .i64 2)):=I;refine aa ?_;refine aN λs V=> ?_;have k6:=G _ _ c2;have n3:j≠s:=by rintro rfl;rw[k6]at V;cases V
   have a71:=n3.symm;have u:=U.af (X:= .cells [.J (ad b.1) x,.v (.bool b.2)]) (U.a6) V;have bx:=U.ai k4 s (.cells [.J (ad b.1) x,.v (.bool b.2)]);refine aa ?_;rw[U.set_set];have n4:=u _ _ k6;have t:=t.mono u;have K:=U.au D (U.au G u);have n5:=(k2.mono D).mono (U.au G u);generalize k4.set s _=M at*;have a73:=U.ae bx;refine om [2,7] (λr:R=> [(9,r)]) (λr C=>M.sub C/\ ∃k,av M C 1 k r/\aB isRow (if b.2=true then [b.1]else []) k) (λn9=> ?_) (λn9=> ?_) ?_
   .refine aa ?_;refine eK (by simp[aW,R.cells]) aaV λa74 a00=> ?_;refine aa ?_;refine fb (av.nil (U.af U.a6 a00)) aaU (nC rfl) rfl (by simp[flat,R.cells]) (by simp[flat,R.cells]) λa01 a02 k7=> ?_;refine aa ?_;exact⟨a01,⟨k7.1,_,k7,⟨⟨x,rfl⟩,trivial⟩⟩,rfl⟩
   .refine aa ?_;exact⟨_,⟨[],av.nil U.a6,trivial⟩,rfl⟩
   rintro r a02 ⟨a81,k,a03,k8⟩ a83;refine aa ?_;obtain⟨own,k9⟩: ∃own,(if b.2=true then [b.1]else [])=own:=⟨_,rfl⟩;have a84:own.length<=1:=by subst k9;split<;>simp
   rw[k9]at k8
   let ac:Nat->List (List Int):=λa=>own++(if 0<a then(fV h c d o).getD []else [])++(if 1<a then(fV h c d cj).getD []else []);refine cg [2,34,35] (λb:Nat×R=> [(36,.v (.int .i64 (b.1))),(9,b.2)]) (λb C=>b.1<=2/\(∃k,av M C 1 k b.2/\aB isRow (ac b.1) k)/\(0<b.1->(fV h c d o).isSome=true)/\(1<b.1->(fV h c d cj).isSome=true)) (λb=>2 - b.1) (0,r) ⟨⟨aaU,⟨k,a03,by simpa[ac] using k8⟩,λF=>absurd F (Nat.lt_irrefl 0),λF=>absurd F aaU⟩,aO⟩ ?_;rintro⟨a,a04⟩ l0 ⟨a05,⟨a06,y,N⟩,O,l1⟩ a86
   dsimp only at a05 y N O l1
   refine aa ?_;refine aH (λn=> ?_) λn=> ?_
   .have a88:a<2:=aaU;obtain⟨_,Q,v,l2,W,e,f,rfl⟩:=H.get (i:=a) (x:= [o,cj].getD a az) (by simp_all);obtain⟨a07,a89,l3⟩:=t.get a _ Q;have l4:=(aP (N:=W) (e5:=e) (h6:=f) v).all;have a08:cY true 37 l0 a07=some (.agg (ab ([o,cj].getD a az) W e f)):=by have:=l3.ld l0 y.1 true 37 aaU (by rw[hR];omega);rw[this,aL,if_pos rfl,hR,l4.2.1]
    have a09:=lI (N:=W) (e5:=e) (h6:=f) v;have l5:([o,cj].getD a az).size.toNat<d:=by
     obtain rfl|rfl:a=0\/a=1:=aaU
     .show o.size.toNat<d;omega
     .show cj.size.toNat<d;omega
    obtain⟨E,X⟩: ∃E,[o,cj].getD a az=E:=⟨_,rfl⟩;rw[X]at Q v l2 l4 a08 a09 l5;clear l3 Q;refine aa ?_;refine aN λa10 Y=> ?_;have l6:=y.1 _ _ n4;have a11:j≠a10:=by rintro rfl;rw[l6]at Y;cases Y
    have a90:=a11.symm;have Z:=U.af (X:= .cells (ab E W e f)) (U.a6) Y;have a92:=U.ae l6;refine aa ?_;refine ah (Gk L A h c k0 k1 d _ (n5.mono (U.au y.1 Z)) E W e f v l2 l5) ?_;rintro i a94 ⟨l7,w⟩;have a13:fV h c d E=if a=0 then fV h c d o else fV h c d cj:=by
     rw[<-X];obtain rfl|rfl:a=0\/a=1:=aaU
     .rfl
     .rfl
    cases j9:fV h c d E with
    |none=>rw[j9]at w;obtain rfl:=w;refine aa ?_;refine⟨_,U.a6,U.au K (U.au y.1 (U.au Z l7)),?_⟩;grind
    |some hZ=>
     rw[j9]at w a13;obtain⟨a95,a96,rfl,l8,l9⟩:=w;obtain⟨a97,a14,a15,a98⟩:=l8.src;have a99:=fJ l8;have a16:=y.mono (U.au Z l7);have b00:=N.len;have b01:=l9.len;have b02:=(tD j9).1;have b03:(ac a).length<=3000000:=by
      have: ∀x:Option (List (List Int)),(∀g,x=some g->g.length<=1048576)->(x.getD []).length<=1048576:=λx F=>by
       cases x with
       |none=>simp
       |some g=>exact F g rfl
      have G:=this (fV h c d o) λg a18=>by have:=(tD a18).1;omega
      grind
     have b04:E.size<=1048576:=by
      rw[<-X];obtain rfl|rfl:a=0\/a=1:=aaU
      .show o.size<= _;omega
      .show cj.size<= _;omega
     refine aa ?_;refine fb a16 aaU a15 a14 aaU aaU λa19 b05 a27=> ?_;refine aa ?_;refine⟨(a+1,a19),⟨by dsimp only;omega,⟨_,a27,?_⟩,?_,?_⟩,⟨rfl,rfl⟩,by dsimp only;omega⟩
     .have:ac (a+1)=ac a++hZ:=by grind
      rw[this];exact N.append l9
     .intro _;obtain rfl|rfl:a=0\/a=1:=aaU;grind
      .exact O aaU
     grind
   .obtain rfl:a=2:=aaU;obtain⟨b06,b07⟩:=a7m.1 (O aaU);obtain⟨b08,b09⟩:=a7m.1 (l1 aaU);refine aa ?_;refine⟨_,U.a6,U.au K y.1,?_⟩;refine⟨a06,a04,rfl,y.base K,?_⟩;grind
end Go.Proofs.YtcfpcblgmmeioaaGreat
namespace Go.bD
open Go
def View.freeze {a:U}{b:R}{c:Nat}{d:List R} (k:a c=some (.cells d)):View a b (a.set c (.ro d)) b:=λx y v o p=>by
 obtain⟨r,h⟩:=Step.freeze o k;exact⟨r,h,p.mono h.le⟩
variable{f s e0:U}{g B c0:List R}{e i v M b9 j2:Nat}
def View.a2Z (b:f M=some (.ro g)) (c:e*i<=g.length):View f (.ao M e b9 i) f (.J (er i e g) .any):=λd k v a h=>⟨d,.refl a,aX.frozen a b c h⟩
variable{u:bl}{l h9:World}
theorem aX.frozenAt {v:Value} (h:Holds u f l) (k:f M=some (.ro g)) (S:e+i<=g.length) (o:aX u v (.bE M e i b9 1)):aX u v (.J ((g.drop e).take i) .any):=by
 obtain⟨p,r,T,V,W,d,j⟩:=h.db M _ k;have m:=d.1;cases o with
 |bE M e i b9 n hk x=>
  have y: ∀b∈g.drop e,b.one=true:=λb z=>p b (a7e z);obtain⟨C,D,E⟩:=wz (i:=i) aaU (by rw[a6R];omega) y;rw[mm,a7s]at*;by_cases F:i=0
  .subst F;rw[a8w];exact .dg _ _ _ (λG=>by cases G) trivial
  .refine .J M e i b9 1 (λa=>r.getD (e+a) Go.undef) _ .any hk E.symm x C ?_ ?_ ?_ trivial;grind;grind
   .intro a L c;rw[D]at c;have P:a<i:=by grind
    rw[a7D P,a9B]at c;exact d.2 (e+a) L c
def View.a3a (b:f M=some (.ro g)) (c:e+i<=g.length):View f (.bE M e i b9 1) f (.J ((g.drop e).take i) .any):=λd k v a h=>⟨d,.refl a,aX.frozenAt a b c h⟩
end Go.bD
namespace Go.Proofs.YtcfpcblgmmeioaaGreat
open Go Go.bD
theorem a3b (p:List (List Int)) (a:List R) (c:Own) (b:U) (d:aB isRow p a) (F:p.length<=4000000):
  AC Tryz.prog 45 [.J a c] b λr h=>av b h 1 a r:=by
 have G:=d.len;refine nm λL=> ?_;have x:c= .nil->a= []:=λk=>by subst k;simp_all
 refine bc hm LR aaV ?_;simp -dsimp -implicitDefEqProofs (disch:=first|omega|assumption|(simp only[bd,Nat.reduceAdd];try omega)) only[go_sem,simprocAttr,↓oo];refine oq (λo=>by rw[x o]) (λo=> ?_) ?_
 .have y:a= []:=by trivial
  subst y;simp -dsimp -implicitDefEqProofs (disch:=first|omega|assumption|(simp only[bd,Nat.reduceAdd];try omega)) only[go_sem,simprocAttr,a7u];exact⟨b,U.a6,av.nil U.a6⟩
 .simp -dsimp -implicitDefEqProofs (disch:=first|omega|assumption|(simp only[bd,Nat.reduceAdd];try omega)) only[go_sem,simprocAttr,oc];have z:bV b 1 (.J a c)=some (a.length,a):=by have C:=d.flat;have D:=a6P.2 λk E=>decide_eq_true (d.cells (λ_ _=>isRow.cells) k E);simp only[bV,D,if_true,C]
  refine fb (av.zero (U.a6)) aaU z aaU aaW aaW λr h o=> ?_;simp -dsimp -implicitDefEqProofs (disch:=first|omega|assumption|(simp only[bd,Nat.reduceAdd];try omega)) only[go_sem,simprocAttr];exact⟨h,U.a6,by trivial⟩
variable{n b6:R}{f s e0:U}{O:List (List Int)}{g B c0:List R}{e i v M b9 j2:Nat}
theorem a3c {y:List Int->List Int->Int} (l:oW e y) {z:List (List Int)} (C:av s e0 1 g n) (D:aB isRow O g) (m: ∀h∈O,h.length=e) (X:O.length<=4000000) (P:O≠ [])
  (S:z.Perm O) (q:z.Pairwise (λn p=> ¬y p n<0)) (r:FuncId) (E:List R) (F:f.sub e0) (t: ∀p,f p=none\/ ∃u,f p=some (.ro u)) (v:fu Tryz.prog r=true)
  (w: ∀b G x A,b.length=e->G.length=e->AC Tryz.prog r ([.J (ad b) x,.J (ad G) A]++E) f λh _=>h= .v (.int .i64 (y b G))):
  ∃c k,n= .ao c O.length k 1/\O.length<=k/\AC Tryz.prog 46 [n,.bG r [] E] e0 λh o=>h= .aJ []/\s.sub o/\f.sub o/\ ∃d T,aB isRow z d/\o c=some (.ro (d++T))/\av s (o.set c (.cells (d++T))) 1 d n:=by
 obtain⟨c,B,k,V,rfl,L,H,I,W,K,i,M⟩:=C.ao (λY=>P (by have:=D.len;grind));rw[a7s]at I W K;have Z:=D.len;obtain rfl:B=O.length:=aaU;have N:=a7B.2 P;refine⟨c,k,rfl,i,?_⟩;refine(a2Y l H D rfl W aaU N m S q r E F t v w).view λh o Q=> ?_;obtain⟨rfl,d,j,rfl⟩:=Q;have j9:=j.len;have k0:=S.length_eq;refine⟨.aJ [],_,View.freeze (U.ai _ _ _),rfl,?_,?_,d,V.drop O.length,j,U.ai _ _ _,?_⟩
 .rw[U.set_set];intro b x a;have:b≠c:=by rintro rfl;rw[L]at a;cases a
  rw[U.an _ _ this];exact C.1 _ _ a
 .rw[U.set_set];intro b x a;have:b≠c:=by rintro rfl;have:=F _ _ a;grind
  rw[U.an _ _ this];exact F _ _ a
 .rw[U.set_set,U.set_set];refine⟨λb x a=> ?_,.inr ⟨c,O.length,k,d++V.drop O.length,rfl,L,U.ai _ _ _,?_,?_,?_,i,M⟩⟩
  .have:b≠c:=by rintro rfl;rw[L]at a;cases a
   rw[U.an _ _ this];exact C.1 _ _ a
  simp_all;simp_all
  .omega
end Go.Proofs.YtcfpcblgmmeioaaGreat
namespace Go.bD
open Go
variable{t Z:R -> U -> Prop}{b5:FuncId}{f s e0:U}{g B c0:List R}{e i v M b9 j2:Nat}{m:Program}
def AC.fz (b:f e=some (.cells B)) (c:AC m b5 g (f.set e (.ro B)) t):AC m b5 g f t:=
 c.pre λo p r d h=>by
  obtain⟨k,a⟩:=Step.freeze h b;exact⟨k,d.mono a.le,a⟩
def U.one (a:Nat) (b:bs):U:=λc=>if c=a then some b else none
variable{X j8:bs}
def U.a3d:U.one e X e=some X:=by simp[U.one]
theorem U.one_sub (b:f e=some X):(U.one e X).sub f:=λc d a=>by
 unfold U.one at a;simp_all
theorem U.a3e: ∀a,U.one e (.ro g) a=none\/ ∃b,U.one e (.ro g) a=some (.ro b):=λa=>by
 unfold U.one;grind
end Go.bD
namespace Go.Proofs.YtcfpcblgmmeioaaGreat
open Go Go.bD
variable{n b6:R}{f s e0:U}{O:List (List Int)}{g B c0:List R}{e i v M b9 j2:Nat}
theorem a3f {k:List (List Int)} (o:av s e0 1 g n) (y:e0.sub f) (z:aB isRow O g) (C: ∀a∈O,a.length=v) (D:O.length<=4000000) (E:O≠ []) (w:e<v) (A:v<=8)
  (F:k.Perm O) (G:k.Pairwise (λn L=> ¬cH e L n<0)) (P:f i=some (.cells [.v (.int .i64 (e:Int))])) (p:e0 i=none):
  ∃b d,n= .ao b O.length d 1/\O.length<=d/\AC Tryz.prog 46 [n,.bG 313 [] [.ptr i 0]] f λa c=>a= .aJ []/\s.sub c/\ ∃h r,aB isRow k h/\c b=some (.ro (h++r))/\av s (c.set b (.cells (h++r))) 1 h n:=by
 have S:=U.bI o.1 p;have T:cL n≠some i:=λV=>av.has o V p;have W:=av.other (o.mono y) (o:= .ro [.v (.int .i64 (e))]) S T;obtain⟨b,d,rfl,j,l⟩:=a3c (q7 v e) W z C D E F G 313 [.ptr i 0] (U.one_sub (U.ai f i (.ro [.v (.int .i64 (e:Int))]))) U.a3e ab0 (λm q t u B H=>(Fb m q t u e _ i (by simp[U.read,U.a3d]) aaU aaU aaU).mono λa c x=>x.2);refine⟨b,d,rfl,j,AC.fz P (l.mono λa c x=> ?_)⟩;simp_all
def iV (b:Nat):Nat->ag->List (List Int)->Nat->Except Int aq×ag
 |0,c,_,_=>(.ok az,c)
 |o+1,c,a,dep=>if a= []then(.ok az,c)else
  match iV b o c ((ed (dep%b) a).take (a.length/2)) (dep+1)with
  |(.error d,h)=>(.error d,h)
  |(.ok p,h)=>match iV b o h ((ed (dep%b) a).drop (a.length/2+1)) (dep+1)with
   |(.error d,k)=>(.error d,k)
   |(.ok r,k)=>dB k b (ck ((ed (dep%b) a).getD (a.length/2) [],true) p r)
def oX (h a:U) (b c:Nat) (d:Except Int aq×ag) (k:R):Prop:=bq a b c d.2/\Ext b c h a/\gR d.1 k
theorem gR.z:gR (.ok az) (.aJ [.agg (ab az .nil .nil .nil),.v (.int .i64 0)]):=⟨bj,pM,_,_,_,rfl⟩
theorem oX.z {a b:U}{c d:Nat}{h:ag} (o:bq a c d h) (k:a.sub b):oX a b c d (.ok az,h) (.aJ [.agg (ab az .nil .nil .nil),.v (.int .i64 0)]):=⟨o.mono k,Ext.of k,gR.z⟩
theorem Gl (a c:Nat) (h:Nat) (k:Own) (o:Nat) (b:U) (d:ag) (x:bq b a c d):
  AC Tryz.prog 232 [dJ a h,.J [] k,.v (.int .i64 (o:Int))] b λp r=>oX b r a c (.ok az,d) p:=by
 refine aK hm C4 ?_;refine bp λy z=> ?_;refine cZ λC D E F=> ?_;refine⟨_,U.a6,?_⟩;grind[ch,List.take_of_length_le,aP,bj,oX.z,U.af,U.a6]
theorem zB (d C:Nat) (c:Nat) (i:1<=c) (j:c<=8): ∀(k:Nat) (b:List (List Int)) (D:List R) (G:Own) (dep:Nat) (r:U) (o:ag),bq r d C o->aB isRow b D->(∀h∈b,h.length=c)->b.length<=k->k<=4000000->dep+k<=100000000->
  AC Tryz.prog 232 [dJ d c,.J D G,.v (.int .i64 (dep:Int))] r λh a16=>oX r a16 d C (iV c k o b dep) h
 |0,b,D,G,dep,r,o,L,P,B,a18,_,_=>by
  obtain rfl:b= []:=a6F aaU;obtain rfl:D= []:=a6F P.len;exact Gl d C c G dep r o L
 |k+1,b,D,G,dep,r,o,L,P,B,a18,a97,a98=>by
  have a99:=P.len;by_cases H:b= []
  .subst H;obtain rfl:D= []:=a6F P.len;rw[iV,if_pos rfl];exact Gl d C c G dep r o L
  have b00:=a7B.2 H;have b01: ¬(b.length:Int)=0:=aaU;have a19:=a8E dep i;have j9:=iV.eq_2 c o b dep k;rw[if_neg H]at j9;generalize iV c (k+1) o b dep=b02 at j9;obtain⟨l6,a27⟩:=tC (e:=dep%c) B;have b03:=pX (dep%c) b;have l7:=λh l=>B h (l6.mem_iff.1 l);generalize ed (dep%c) b=E at*;refine aK hm C4 ?_;refine bp λl8 a29=> ?_;refine cZ λm I b04 b05=> ?_;generalize K:(r.set l8 _).set m _=M;have l9:r.sub M:=by subst K;exact aO
  have aE:M l8=some (.cells [.ptr d 0,.v (.int .i64 (c))]):=by subst K;exact aO
  have bx:M m=some (.cells (ab az .nil .nil .nil)):=by subst K;rw[<-ch];exact aO
  clear K;have k0:=L.mono l9;refine ah (a3b b D G M P aaU) ?_;intro b06 a30 k1;refine aa ?_;have n0:=U.ae (k1.1 _ _ aE);refine aa ?_;refine ah (Fc d c dep i aaU j a30) ?_;rintro _ b07 ⟨n1,b08,S,n2,rfl⟩;refine aa ?_;obtain⟨z,p,rfl,a34,n3⟩:=a3f k1 n1 P B aaU H a19 j l6 a27 S n2;refine ah n3 ?_;rintro _ k2 ⟨rfl,n,F,k3,N,n4,n5⟩;have n9:=av.fresh n5 rfl;clear n5;have b09:=N.len;have a36:=k0.mono n;have b10:=U.ae (n _ _ aE);clear n3 k1 S n2 n1 n0;have b11:(b.length:Int).tdiv 2=((b.length/2:Nat)):=rfl;have b12:cn 1 (.ao z b.length p 1) none (some (.v (.int .i64 ((b.length/2:Nat))))) none=some (.ao z (b.length/2) p 1):=hU aaU;generalize b13:b.length/2=a at*;have b14:a<b.length:=aaU;refine aa ?_;have b15:(F++k3).length=p\/True:= .inr trivial;have a38:(dep)+1=((dep+1:Nat):Int):=rfl;rw[a38];have a42:View k2 (.ao z a p 1) k2 (.J (F.take a) .any):=by have:=View.a2Z (e:=a) (b9:=p) (i:=1) n4 (by rw[a6A];omega);rwa[mm,a8f aaU]at this
  refine ah (AC.nF (g:= [dJ d c]) a42 (zB d C c i j k (E.take a) (F.take a) .any (dep+1) k2 o a36 (N.take a) (λh l=>l7 h (a6M l)) (by rw[a6C];omega) aaU aaU)) ?_;rintro h a00 ⟨O,Q,k4⟩;generalize b16:iV c k o (E.take a) (dep+1)=qS at*;obtain⟨a43,a01⟩:=qS
  dsimp only at O k4
  have X:=L.cA a29;have x:=L.cA I;have Y:=k0.cA n9;have a02:=Q _ _ X.1 X.2 (n _ _ aE);have Z:=Q _ _ x.1 x.2 (n _ _ bx);have a47:=Q _ _ Y.1 Y.2 n4;have a03:=((Ext.of (U.au l9 n)).trans Q);cases a43 with
  |error a04=>
   obtain⟨k5,rfl⟩:=k4;refine aa ?_;refine aN λq y=> ?_;have k6:q≠m:=by rintro rfl;rw[Z]at y;cases y
   have a48:=k6.symm;have a52:=(aP (N:= .nil) (e5:= .nil) (h6:= .nil) bj).all;have a56:=lI (N:= .nil) (e5:= .nil) (h6:= .nil) bj;refine aa ?_;have a57:=U.aI Z;have a61:=cy (a:= .nil) (b:= .nil) (c:= .nil) (N:= .nil) (e5:= .nil) (h6:= .nil) bj bj;rw[ch];refine aa ?_;refine⟨_,U.a6,?_⟩;exact⟨(O.mono (U.af U.a6 y)).set x,(a03.trans (Ext.of (U.af U.a6 y))).dZ I,k5,rfl⟩
  |ok k7=>
   obtain⟨k8,a62,s,t,u,rfl⟩:=k4;refine aa ?_;refine aN λq y=> ?_;have k6:q≠m:=by rintro rfl;rw[Z]at y;cases y
   have a48:=k6.symm;have b17:=(aP (N:=s) (e5:=t) (h6:=u) k8).all;have b18:=lI (N:=s) (e5:=t) (h6:=u) k8;refine aa ?_;have T:=U.af (X:= .cells (ab k7 s t u)) (U.a6) y;have cN:=U.ai a00 q (.cells (ab k7 s t u));have a63:=O.mono T;have n0:=U.ae (T _ _ a02);have a05:=T _ _ a47;have a65:=T _ _ Z;have a68:=T _ _ a02;have a69:=a03.trans (Ext.of T);rw[U.set_set];generalize a00.set q _=k9 at*;have a06: ∃v,cn 1 (.ao z b.length p 1) (some (.v (.int .i64 ((a:Int)+1)))) none none=some v/\View k9 v k9 (.J (F.drop (a+1)) .any):=by
    by_cases S:a+1<p
    .refine⟨_,gm (e:=a+1) aaU a34 S,?_⟩;rw[a7s];have:=View.a3a (e:=a+1) (i:=b.length -(a+1)) (b9:=p -(a+1)) a05 (by rw[a6A];omega);grind
    .have a71:b.length=p:=aaU;have b19:a+1=b.length:=aaU;refine⟨_,by have:=um (i:=1) (M:=z) (e1:= .i64) a71;rw[show(a)+1=(b.length:Int) by omega];exact this,?_⟩;rw[a7n aaU];exact View.J
   obtain⟨l0,a06,a73⟩:=a06;refine aa ?_;refine ah (AC.nF (g:= [dJ d c]) a73 (zB d C c i j k (E.drop (a+1)) (F.drop (a+1)) .any (dep+1) k9 a01 a63 (N.drop (a+1)) (λh l=>l7 h (a7e l)) (by rw[a6R];omega) aaU aaU)) ?_;rintro h l1 ⟨l2,w,l3⟩;generalize b20:iV c k a01 (E.drop (a+1)) (dep+1)=nq at*;obtain⟨cD,oh⟩:=nq
   dsimp only at l2 l3 j9
   have b21:=k0.cA n9;have a07:=O.cA y;have a74:=w _ _ X.1 X.2 a68;have l4:=w _ _ x.1 x.2 a65;have a81:=w _ _ Y.1 Y.2 a05;have a83:=w _ _ a07.1 a07.2 cN;have a08:=a69.trans w;cases cD with
   |error a04=>
    obtain⟨k5,rfl⟩:=l3;refine aa ?_;refine aN λA V=> ?_;have a84:A≠m:=by rintro rfl;rw[l4]at V;cases V
    have b22:=a84.symm;have a52:=(aP (N:= .nil) (e5:= .nil) (h6:= .nil) bj).all;have a56:=lI (N:= .nil) (e5:= .nil) (h6:= .nil) bj;have a57:=U.aI l4;have a61:=cy (a:= .nil) (b:= .nil) (c:= .nil) (N:= .nil) (e5:= .nil) (h6:= .nil) bj bj;refine aa ?_;rw[ch];refine aa ?_;refine⟨_,U.a6,?_⟩;exact⟨(l2.mono (U.af U.a6 V)).set x,(a08.trans (Ext.of (U.af U.a6 V))).dZ I,k5,rfl⟩
   |ok cj=>
    obtain⟨l5,a86,W,e,f,rfl⟩:=l3;refine aa ?_;refine aN λA V=> ?_;have b23:=(aP (N:=W) (e5:=e) (h6:=f) l5).all;have b24:=lI (N:=W) (e5:=e) (h6:=f) l5;refine aa ?_;rw[U.set_set];have g:=U.af (X:= .cells (ab cj W e f)) (U.a6) V;have b25:=U.ae (U.ai l1 A (.cells (ab cj W e f)));have a88:=l2.mono g;have b26:=U.ae (g _ _ a74);have b27:=U.ae (g _ _ a83);have b28:(l1.set A (.cells (ab cj W e f))).read z=some (F++k3):=by have:=g _ _ a81;simp only[U.read,this]
    have a89:=g _ _ l4;have a90:=a08.trans (Ext.of g);generalize l1.set A _=a92 at*;obtain⟨_,a94,a09,rfl⟩:=N.get (i:=a) (x:=E.getD a []) (by simp_all);have b29:cC 1 (.ao z b.length p 1) (.v (.int .i64 (a)))=some (.ptr z (a*1)):=by grind[jJ,Int.toNat_natCast]
    have b30:aL false 1 (List.drop a (F++k3))= .J (ad (E.getD a [])) a09:=by obtain⟨a95,S⟩:=a6H.1 a94;rw[a8g aaU,a6Y a95,S];rfl
    refine aa ?_;refine ah (vy a92 d C oh a88 (E.getD a [],true) k7 cj a09 s t u W e f c i j k8 l5 a62 a86) ?_;rintro h b31 ⟨a96,a10,a11⟩;have b32:=U.aI (a10 _ _ x.1 x.2 a89);obtain⟨b33,a13,l0,a14,a04,a15,rfl⟩:=a11.shape;have b34:=(aP (N:=a13) (e5:=l0) (h6:=a14) a15).all;have b35:=cy (a:= .nil) (b:= .nil) (c:= .nil) (N:=a13) (e5:=l0) (h6:=a14) bj a15;have b36:=(aP (N:= .nil) (e5:= .nil) (h6:= .nil) bj).len;refine aa ?_;refine⟨_,U.a6,?_⟩;exact⟨a96.set x,(a90.trans a10).dZ I,a11⟩
def mJ (a:ag) (b:Nat) (c:aq) (h:Nat):Except Int aq×ag:=
 match fV a b (c.size.toNat+1) c with
 |none=>(.error 21,a)
 |some d=>iV b d.length a d h
def Gm (k:U) (d x:Nat) (c:ag) (o:bq k d x c) (a:aq) (E F G:Own) (e:a.sum.length=32) (A:a.cv) (b:Nat) (f:1<=b) (g:b<=8) (h:Nat) (Z:h<=10000000) (j9:a.size<=4000000):
  AC Tryz.prog 171 [dJ d b,.agg (ab a E F G),.v (.int .i64 (h:Int))] k λL B=>oX k B d x (mJ c b a h) L:=by
 have k0:=(aP (N:=E) (e5:=F) (h6:=G) e).all;have i:mJ c b a h=match fV c b (a.size.toNat+1) a with
  |none=>(.error 21,c)
  |some p=>iV b p.length c p h:=rfl
 generalize mJ c b a h=k1 at*;refine aK hm PF ?_;refine bp λj k2=> ?_;refine cZ λH k3 k4 k5=> ?_;refine ha λl y a3 a4 a5 di=> ?_;generalize z:((k.set j _).set H _).set l _=C;have r:k.sub C:=by subst z;exact aO
 have aE:C j=some (.cells [.ptr d 0,.v (.int .i64 (b))]):=by subst z;exact aO
 have bh:C l=some (.cells (ab az .nil .nil .nil)):=by subst z;rw[<-ch];exact aO
 clear z;refine ah (Gk d x c b f g (a.size.toNat+1) C (o.mono r) a E F G e A aaU) ?_;rintro L k6 ⟨P,D⟩;cases S:fV c b (a.size.toNat+1) a with
 |none=>rw[S]at D i;obtain rfl:=D;have I:=(aP (N:= .nil) (e5:= .nil) (h6:= .nil) bj).all;have k7:=cy (a:= .nil) (b:= .nil) (c:= .nil) (N:= .nil) (e5:= .nil) (h6:= .nil) bj bj;have K:=U.aI (P _ _ bh);refine aa ?_;refine⟨_,U.a6,?_⟩;rw[ch,a6z (by rw[I.1];omega)];exact⟨((o.mono r).mono P).set (o.cA y),((Ext.of r).trans (Ext.of P)).dZ y,aaY,rfl⟩
 |some p=>rw[S]at D i;obtain⟨M,k8,rfl,m,T⟩:=D;have n:=m;have k9:=U.ae (m.1 _ _ aE);rw[<-T.flat]at n;obtain⟨N,O,V⟩:=av.Eo n T;obtain⟨l0,Q⟩:=tD S;have W:=o.cA y;have l1:=(aP (N:= .nil) (e5:= .nil) (h6:= .nil) bj).len;refine aa ?_;have X:=AC.nF (m:=Tryz.prog) (g:= [dJ d b]) O (zB d x b f g p.length p M .any h N c (((o.mono r)).mono V) T Q aaU aaU aaU);refine ah X ?_;rintro L l2 ⟨Y,q,s⟩;obtain⟨l3,t,u,v,l4,w,rfl⟩:=s.shape;have K:=U.aI (q _ _ W.1 W.2 (V _ _ bh));have l5:=(aP (N:=t) (e5:=u) (h6:=v) w).all;have l6:=cy (a:= .nil) (b:= .nil) (c:= .nil) (N:=t) (e5:=u) (h6:=v) bj w;refine aa ?_;refine⟨_,U.a6,?_⟩;exact⟨Y.set W,(((Ext.of r).trans (Ext.of V)).trans q).dZ y,s⟩
end Go.Proofs.YtcfpcblgmmeioaaGreat
namespace Go.bD
open Go
section
end
end Go.bD
namespace Go.Proofs.YtcfpcblgmmeioaaGreat
open Go Go.bD
def mK (k:ag) (c:Nat) (o:List Int×Bool) (d h:aq) (p:Nat):Except Int aq×ag:=
 match dB k c (ck o d h)with
 |(.error r,a)=>(.error r,a)
 |(.ok b,a)=>if(2*b.size).tdiv 3+1<max d.size h.size then mJ a c b p else(.ok b,a)
def kd (b:Nat) (h:List Int):Nat->ag->aq->Nat->Except Int aq×ag
 |0,a,_,_=>(.error 21,a)
 |r+1,a,k,dep=>if k=az then dB a b (ck (h,true) k k)else match kP a b k with
  |none=>(.error 21,a)
  |some (d,bF)=>if d.1=h then(if d.2=true then(.error 8,a)else mK a b (d.1,true) (bF.getD 0 az) (bF.getD 1 az) dep)
   else if cH (dep%b) h d.1<0 then match kd b h r a (bF.getD 0 az) (dep+1)with
    |(.error o,c)=>(.error o,c)
    |(.ok p,c)=>mK c b d p (bF.getD 1 az) dep
   else match kd b h r a (bF.getD 1 az) (dep+1)with
    |(.error o,c)=>(.error o,c)
    |(.ok p,c)=>mK c b d (bF.getD 0 az) p dep
variable{w j3:aq}{e i v M b9 j2:Nat}{H:ag}
theorem Gn {h:ag}{k:List Int×Bool}{b:aq} (a:dB H e (ck k w j3)=(.ok b,h)):b.size=1+w.size+j3.size/\0<=w.size/\0<=j3.size/\b.size<=1048576:=by
 unfold dB at a;split at a
 .simp_all
 .rename_i p o;simp only[a7J,Except.ok.injEq]at a;obtain⟨rfl,_⟩:=a;have c:=v7 o;have d:=tv c.ok;have:=c.size;simp only[ck,a8c,a6Q,a7W,a7Q,a9D]at this;exact⟨aaU,(kQ (d w (by simp[ck]))).1,(kQ (d j3 (by simp[ck]))).1,c.ns⟩
structure js (cs:List R) (a b:aq):Prop where
 len:74<=cs.length
 bZ:a.sum.length=32
 q8:a.cv
 cr:b.sum.length=32
 mn:b.cv
 cs: ∃nL nM c d h k r,cs=ab a nL nM c++(ab b d h k++r)
variable{n b6:R}{f s e0:U}{g B c0:List R}
theorem js.of {s:U} (p:av f s 37 (flat g) n) (r:aB bB [w,j3] g): ∃a o b,n= .ao a 2 o 37/\f a=none/\s a=some (.cells b)/\js b w j3:=by
 match g,r with
 | [_,_],⟨⟨bZ,q8,nL,nM,c,rfl⟩,⟨cr,mn,d,h,k,rfl⟩,_⟩=>
  have F:=(aP (N:=nL) (e5:=nM) (h6:=c) bZ).len;have G:=(aP (N:=d) (e5:=h) (h6:=k) cr).len;have x:flat [R.agg (ab w nL nM c),.agg (ab j3 d h k)]=ab w nL nM c++ab j3 d h k:=by simp[flat,R.cells]
  rw[x]at p;obtain⟨a,y,o,b,rfl,z,C,L,D,E,P,_⟩:=p.ao (λS=>by simp_all);rw[a6A]at E;obtain rfl:y=2:=aaU;refine⟨a,o,b,rfl,z,C,aaU,bZ,q8,cr,mn,nL,nM,c,d,h,k,b.drop 74,?_⟩;rw[<-a6N,<-D,a7f]
theorem js.ld (p:js g j3 w): ∃h k o b c d,aL true 37 g= .agg (ab j3 h k o)/\aL true 37 (g.drop 37)= .agg (ab w b c d)/\aL false 1 (g.drop 35)= .v (.int .i64 j3.size)/\aL false 1 (g.drop 72)= .v (.int .i64 w.size):=by
 obtain⟨h,k,o,b,c,d,r,rfl⟩:=p.cs;have y:=(aP (N:=h) (e5:=k) (h6:=o) p.bZ).len;have D:=(aP (N:=b) (e5:=c) (h6:=d) p.cr).len;have z: ∀a,a<=37->(ab j3 h k o++(ab w b c d++r)).drop a=(ab j3 h k o).drop a++(ab w b c d++r):=λa C=>a8g aaU;have x: ∀a,a<=37->(ab j3 h k o++(ab w b c d++r)).drop (37+a)=(ab w b c d).drop a++r:=λa C=>by
  rw[<-a7p,a9h y,a8g aaU]
 refine⟨h,k,o,b,c,d,?_,?_,?_,?_⟩
 .simp only[aL,if_true];simp_all
 .rw[x 0 aaU,a8a];simp only[aL,if_true];simp_all
 .rw[z 35 aaU,(aP p.bZ).d35];rfl
 .rw[x 35 aaU,(aP p.cr).d35];rfl
variable{N e5 h6:Own}
theorem js.Gp {k:aq} (a:js g k j3) (o:w.sum.length=32) (y:w.cv):js (putAt g 0 (ab w N e5 h6)) w j3:=by
 obtain⟨p,r,x,b,c,d,h,rfl⟩:=a.cs;have C:=(aP (N:=p) (e5:=r) (h6:=x) a.bZ).len;have D:=(aP (N:=b) (e5:=c) (h6:=d) a.cr).len;have E:=(aP (N:=N) (e5:=e5) (h6:=h6) o).len;have z:putAt (ab k p r x++(ab j3 b c d++h)) 0 (ab w N e5 h6)=ab w N e5 h6++(ab j3 b c d++h):=by simp_all [putAt]
 rw[z];exact⟨by simp only[a6A];omega,o,y,a.cr,a.mn,_,_,_,_,_,_,h,rfl⟩
theorem js.Gq {k:aq} (a:js g j3 k) (o:w.sum.length=32) (y:w.cv):js (putAt g 37 (ab w N e5 h6)) j3 w:=by
 obtain⟨b,c,d,p,r,x,h,rfl⟩:=a.cs;have C:=(aP (N:=b) (e5:=c) (h6:=d) a.bZ).len;have D:=(aP (N:=p) (e5:=r) (h6:=x) a.cr).len;have E:=(aP (N:=N) (e5:=e5) (h6:=h6) o).len;have z:putAt (ab j3 b c d++(ab k p r x++h)) 37 (ab w N e5 h6)=ab j3 b c d++(ab w N e5 h6++h):=by grind[putAt,List.take_left',List.drop_drop,List.drop_left',List.append_assoc]
 rw[z];exact⟨by simp only[a6A];omega,a.bZ,a.q8,o,y,_,_,_,_,_,_,h,rfl⟩
set_option maxHeartbeats 1600000 in
theorem Gr (h C:Nat) (a:Nat) (k5:1<=a) (O:a<=8) (c:List Int) (j:Own) (a11:c.length=a): ∀(T:Nat) (l:U) (p:ag) (_:bq l h C p) (k:aq) (r x y:Own) (dep:Nat),k.sum.length=32->k.cv->k.size.toNat<T->dep+T<=4000000->
  AC Tryz.prog 168 [dJ h a,.agg (ab k r x y),.J (ad c) j,.v (.int .i64 (dep:Int))] l λQ D=>oX l D h C (kd a c T p k dep) Q
 |0,l,p,W,k,r,x,y,dep,ff,X,a95,a96=>by omega
 |T+1,l,p,W,k,r,x,y,dep,ff,X,a95,a96=>by
  have a97:=(aP (N:=r) (e5:=x) (h6:=y) ff).all;have b:=(kd.eq_2 a c p k dep T).symm;generalize kd a c (T+1) p k dep=a13 at*;refine aK hm Py ?_;refine bp λv a98=> ?_;refine cZ λz n3 b39 b40=> ?_;refine ha λw m a3 a4 a5 di=> ?_;generalize k6:((l.set v _).set z _).set w _=n;have Y:l.sub n:=by subst k6;exact aO
  have aM:n v=some (.cells [.ptr h 0,.v (.int .i64 (a))]):=by subst k6;exact aO
  have bh:n z=some (.cells (ab k r x y)):=by subst k6;exact aO
  have bt:n w=some (.cells (ab az .nil .nil .nil)):=by subst k6;rw[<-ch];exact aO
  clear k6;have b41:=U.ae aM;have b42:=U.ae bh;have l6:=W.mono Y;have Z:=W.cA a98;have j9:=W.cA n3;have d:=W.cA m;by_cases k7:k=az
  .subst k7;refine bk (my az r x y n ff X) ?_;refine ah (vy n h C p l6 (c,true) az az j r x y r x y a k5 O ff ff X X) ?_;rintro Q b43 ⟨a99,a14,a15⟩;obtain⟨b00,k8,k9,l0,l1,l2,rfl⟩:=a15.shape;have l7:=U.aI (a14 _ _ d.1 d.2 bt);have b01:=(aP (N:=k8) (e5:=k9) (h6:=l0) l2).all;have A:=(aP (N:= .nil) (e5:= .nil) (h6:= .nil) bj).len;have B:=cy (a:= .nil) (b:= .nil) (c:= .nil) (N:=k8) (e5:=k9) (h6:=l0) bj l2;rw[if_pos rfl]at b;refine aa ?_;refine⟨_,U.a6,?_⟩;rw[<-b];exact⟨a99.set d,((Ext.of Y).trans a14).dZ m,a15⟩
  rw[if_neg k7]at b;refine bk (my k r x y n ff X) ?_;generalize a16:c3 (Ctx.of Tryz.prog) (et.seq (et.block 0 _) _)=b44;refine ah (zj n h C p l6 k r x y ff X a k5 O) ?_;rintro Q a18 ⟨H,l8⟩;cases n4:kP p a k with
  |none=>
   rw[n4]at l8 b;obtain rfl:=l8
   dsimp only at b
   refine aa ?_;refine aN λe V=> ?_;have b02:e≠w:=by rintro rfl;rw[H _ _ bt]at V;cases V
   have b45:=b02.symm;have l7:=U.aI (H _ _ bt);subst a16;have A:=(aP (N:= .nil) (e5:= .nil) (h6:= .nil) bj).len;have B:=cy (a:= .nil) (b:= .nil) (c:= .nil) (N:= .nil) (e5:= .nil) (h6:= .nil) bj bj;refine aa ?_;refine⟨_,U.a6,?_⟩;rw[<-b,ch,a6z (by rw[A];omega)];exact⟨((l6.mono H).mono (U.af U.a6 V)).set d,(((Ext.of Y).trans (Ext.of H)).trans (Ext.of (U.af U.a6 V))).dZ m,aaY,rfl⟩
  |some b03=>
   obtain⟨o,b46⟩:=b03;rw[n4]at l8 b;obtain⟨E,b47,rfl,b48,b49,b04,b05⟩:=l8;obtain⟨l9,cj,rfl,b50,b51,b52,b53,b06,b54⟩:=vE n4;obtain⟨k0,b55,F,rfl,f,a19,g⟩:=js.of b04 b05;refine aa ?_;refine aN λe V=> ?_;refine aa ?_;have a27:=U.af (X:= .cells [.J (ad o.1) E,.v (.bool o.2)]) (U.a6) V;have cd:=U.ai a18 e (.cells [.J (ad o.1) E,.v (.bool o.2)]);have l3:=U.au H a27;have n5:=l3 _ _ aM;have a29:=l3 _ _ bh;have n9:=l3 _ _ bt;have a30:=a27 _ _ a19;have a00:=l6.mono l3;have a01:=(Ext.of (l:=h) (lM:=C) Y).trans (Ext.of l3);have a02:=U.bI Y (U.bI H V);have n0:=U.bI Y f;have b56:k0≠e:=by rintro rfl;rw[a19]at V;cases V
   generalize a18.set e _=k1 at*;subst a16;refine pA [2,3,4,5,8,10,11] (λ_:(List Int×Bool)×aq×aq×ag=> []) (λi D=>mK i.2.2.2 a i.1 i.2.1 i.2.2.1 dep=a13/\bq D h C i.2.2.2/\Ext h C l D/\(∃E,D e=some (.cells [.J (ad i.1.1) E,.v (.bool i.1.2)]))/\(∃F,D k0=some (.cells F)/\js F i.2.1 i.2.2.1)/\D v=some (.cells [.ptr h 0,.v (.int .i64 (a))])/\D z=some (.cells (ab k r x y))/\D w=some (.cells (ab az .nil .nil .nil))) ?_ ?_
   .have b07:=U.ae cd;have b08:=U.ae n5;refine aa ?_;simp only[a7h,a7k]at b;have b57:=cd;by_cases a03:o.1=c
    .rw[if_pos a03]at b;refine bk (kA o.1 c E j k1 aaU) ?_;cases a34:o.2 with
     |true=>rw[if_pos a34]at b;have A:=(aP (N:= .nil) (e5:= .nil) (h6:= .nil) bj).len;have B:=cy (a:= .nil) (b:= .nil) (c:= .nil) (N:= .nil) (e5:= .nil) (h6:= .nil) bj bj;have l7:=U.aI n9;refine aa ?_;refine⟨_,U.a6,?_⟩;rw[<-b,ch,a6z (by rw[A];omega)];exact⟨a00.set d,a01.dZ m,aaY,rfl⟩
     |false=>
      rw[if_neg (by rw[a34];decide)]at b;refine aa ?_;refine bk (kA c c E j k1 aaU) ?_;have b58:=U.aI cd;refine aa ?_;have b09:v≠e:=by grind
      have b10:z≠e:=by grind
      have b11:w≠e:=by rintro rfl;exact absurd (H _ _ bt) (by rw[V];simp)
      refine⟨((o.1,true),l9,cj,p),b,a00.set (W.cA a02),a01.dZ a02,⟨E,by rw[a03]⟩,⟨F,rfl,g⟩,?_,?_,?_⟩
      .rw[U.an _ _ b09];exact n5
      .rw[U.an _ _ b10];exact a29
      .rw[U.an _ _ b11];exact n9
    .rw[if_neg a03]at b;refine bk (kA o.1 c E j k1 aaU) ?_;refine bk (kA o.1 c E j k1 aaU) ?_;obtain⟨G,q,b59,b12,a36,b13⟩: ∃(G:Nat) (q:aq),G<2/\(if cH (dep%a) c o.1<0 then(0:Int)else 1)=(G:Int)/\(q.size.toNat<T/\q.sum.length=32/\q.cv)/\
       (match kd a c T p q (dep+1)with
        |(.error l1,k2)=>(.error l1,k2)
        |(.ok k7,k2)=>mK k2 a o (if G=0 then k7 else l9) (if G=0 then cj else k7) dep)=a13/\ ∃I K M,aL true 37 (F.drop (G*37))= .agg (ab q I K M):=by
      obtain⟨I,K,M,a04,a05,a06,a38,a42,_⟩:=g.ld;by_cases F:cH (dep%a) c o.1<0
      .rw[if_pos F]at b;exact⟨0,l9,aaU,by rw[if_pos F];rfl,⟨aaU,g.bZ,g.q8⟩,b,I,K,M,a38⟩
      .rw[if_neg F]at b;exact⟨1,cj,aaU,by rw[if_neg F];rfl,⟨aaU,g.cr,g.mn⟩,b,a04,a05,a06,a42⟩
     obtain⟨b,I,K,M,b60⟩:=b13;obtain⟨b14,b15,b16⟩:=a36;have a43:=Fe c o.1 j E h a dep aaU O aaU a11 b06 k1;rw[b12]at a43;have b17:=U.ae a30;have b18:=g.len;refine bk a43 ?_;have b19:(dep)+1=((dep+1:Nat):Int):=rfl;rw[b19];refine ah (Gr h C a k5 O c j a11 T k1 p a00 q I K M (dep+1) b15 b16 b14 aaU) ?_;rintro Q b61 ⟨n1,k3,a47⟩;have N:=W.cA n0;have a48:=W.cA a02;have b62:=k3 _ _ Z.1 Z.2 n5;have b63:=k3 _ _ j9.1 j9.2 a29;have b20:=k3 _ _ d.1 d.2 n9;have b21:=k3 _ _ N.1 N.2 a30;have b64:=k3 _ _ a48.1 a48.2 cd;have l7:=U.aI b20;have b65:=U.aI b21;have a52:=a01.trans k3;have b22:k0≠w:=by rintro rfl;rw[bt]at f;cases f
     have b66:=b22.symm;have b67:v≠k0:=by rintro rfl;rw[aM]at f;cases f
     have a56:z≠k0:=by rintro rfl;rw[bh]at f;cases f
     have A:=(aP (N:= .nil) (e5:= .nil) (h6:= .nil) bj).all;have b68:G*37+37<=F.length:=aaU;generalize b69:kd a c T p q (dep+1)=b23 at*;obtain⟨po,b24⟩:=b23;cases po with
     |error l1=>
      obtain⟨a07,rfl⟩:=a47
      dsimp only at b n1
      have B:=cy (a:= .nil) (b:= .nil) (c:= .nil) (N:= .nil) (e5:= .nil) (h6:= .nil) bj bj;refine aa ?_;refine⟨_,U.a6,?_⟩;rw[<-b,ch,a6z (by rw[A.1];omega)];exact⟨(n1.set N).set d,(a52.dZ n0).dZ m,a07,rfl⟩
     |ok a57=>
      obtain⟨a08,a61,L,P,S,rfl⟩:=a47
      dsimp only at b n1
      have a36:=(aP (N:=L) (e5:=P) (h6:=S) a08).all;refine aa ?_;refine⟨(o,(if G=0 then a57 else l9),(if G=0 then cj else a57),b24),b,n1.set N,a52.dZ n0,⟨E,rfl⟩,_,rfl,?_⟩;obtain rfl|rfl:G=0\/G=1:=aaU
      .exact g.Gp a08 a61
      .exact g.Gq a08 a61
   .rintro⟨a62,a63,a65,k2⟩ D ⟨s,b25,a68,⟨b26,b27⟩,⟨b70,a69,k4⟩,a09,b28,a71⟩ b71
    dsimp only at*
    have b07:=U.ae b27;have b08:=U.ae a09;have b17:=U.ae a69;obtain⟨I,K,M,a04,a05,a06,a38,a42,b72,b73⟩:=k4.ld;have b18:=k4.len;refine aa ?_;have a73:=vy D h C k2 b25 a62 a63 a65 b26 I K M a04 a05 a06 a k5 O k4.bZ k4.cr k4.q8 k4.mn;refine ah a73 ?_;clear a73;rintro Q l4 ⟨n2,t,a74⟩;have b74:=U.ae (t _ _ Z.1 Z.2 a09);have b29:=t _ _ j9.1 j9.2 b28;have b75:=U.aI b29;have l7:=U.aI (t _ _ d.1 d.2 a71);have N:=W.cA n0;have b76:=U.ae (t _ _ N.1 N.2 a69);have b30:=di;have b31:=b30.symm;unfold mK at s;generalize b32:dB k2 a (ck a62 a63 a65)=b33 at*;obtain⟨qI,a81⟩:=b33;have A:=(aP (N:= .nil) (e5:= .nil) (h6:= .nil) bj).all;have b77:=a97;cases qI with
    |error l1=>
     obtain⟨a07,rfl⟩:=a74
     dsimp only at s n2
     have B:=cy (a:=r) (b:=x) (c:=y) (N:= .nil) (e5:= .nil) (h6:= .nil) ff bj;have b78:=cy (a:= .nil) (b:= .nil) (c:= .nil) (N:= .nil) (e5:= .nil) (h6:= .nil) bj bj;refine aa ?_;refine⟨_,U.a6,?_⟩;rw[<-s];exact⟨(n2.set j9).set d,((a68.trans t).dZ n3).dZ m,a07,rfl⟩
    |ok u=>
     obtain⟨l5,a83,L,P,S,rfl⟩:=a74;obtain⟨a84,b79,b80,b81⟩:=Gn b32
     dsimp only at s n2
     have B:=cy (a:=r) (b:=x) (c:=y) (N:=L) (e5:=P) (h6:=S) ff l5;have b82:=(aP (N:=L) (e5:=P) (h6:=S) l5).all;have b83:0<=(2*u.size).tdiv 3/\(2*u.size).tdiv 3<=3000000:=by grind
     have a56:k0≠z:=by rintro rfl;rw[bh]at f;cases f
     have b84:=a56.symm;have a86:v≠z:=aaX;have b85:=a86.symm;have b86:=a84.symm;clear a84;refine aa ?_;have a88:bq (l4.set z (.cells (ab u L P S))) h C a81:=n2.set j9;have b34:=U.ai l4 z (.cells (ab u L P S));have b35:(l4.set z (.cells (ab u L P S))) v=some (.cells [.ptr h 0,.v (.int .i64 (a))]):=by rw[U.an _ _ a86];exact t _ _ Z.1 Z.2 a09
     have a89:(l4.set z (.cells (ab u L P S))) w=some (.cells (ab az .nil .nil .nil)):=by rw[U.an _ _ b31];exact t _ _ d.1 d.2 a71
     have a90:=(a68.trans t).dZ (X:= .cells (ab u L P S)) n3;generalize l4.set z _=b36 at*;have b87:=U.ae b35;have b88:=U.ae b34;have b37:=U.aI a89;refine aH (λa10=> ?_) λa10=> ?_
     .rw[if_pos a10]at s;refine ah (Gm b36 h C a81 a88 u L P S l5 a83 a k5 O dep aaU aaU) ?_;rintro Q b89 ⟨b38,a92,a94⟩;obtain⟨b00,k8,k9,l0,l1,l2,rfl⟩:=a94.shape;have b37:=U.aI (a92 _ _ d.1 d.2 a89);have b01:=(aP (N:=k8) (e5:=k9) (h6:=l0) l2).all;have B:=cy (a:= .nil) (b:= .nil) (c:= .nil) (N:=k8) (e5:=k9) (h6:=l0) bj l2;refine aa ?_;refine⟨_,U.a6,?_⟩;rw[<-s];exact⟨b38.set d,(a90.trans a92).dZ m,a94⟩
     .rw[if_neg a10]at s;have B:=cy (a:= .nil) (b:= .nil) (c:= .nil) (N:=L) (e5:=P) (h6:=S) bj l5;refine⟨_,U.a6,?_⟩;rw[<-s];exact⟨a88.set d,a90.dZ m,l5,a83,_,_,_,rfl⟩
def Gs (o:Except Int aq) (h:R):Prop:=
 match o with
 | .error k=>k≠0/\ ∃a b c d,a.sum.length=32/\h= .aJ [.agg (ab a b c d),.v (.int .i64 k)]
 | .ok a=>a.sum.length=32/\a.cv/\ ∃b c d,h= .aJ [.agg (ab a b c d),.v (.int .i64 0)]
def gR.x {a:Except Int aq} (b:gR a n):Gs a n:=by
 cases a with
 |error c=>exact⟨b.1,az,_,_,_,bj,b.2⟩
 |ok d=>exact b
def zC (h a:U) (b c:Nat) (d:Except Int aq×ag) (k:R):Prop:=bq a b c d.2/\Ext b c h a/\Gs d.1 k
def gC (b:Nat) (h:List Int):Nat->ag->aq->Nat->Except Int aq×ag
 |0,a,_,_=>(.error 21,a)
 |p+1,a,r,dep=>if r=az then(.error 9,a)else match kP a b r with
  |none=>(.error 21,a)
  |some (d,bF)=>if d.1=h then(if d.2=true then dB a b (ck (d.1,false) (bF.getD 0 az) (bF.getD 1 az))else(.error 9,a))
   else if cH (dep%b) h d.1<0 then match gC b h p a (bF.getD 0 az) (dep+1)with
    |(.error k,c)=>(.error k,c)
    |(.ok o,c)=>dB c b (ck d o (bF.getD 1 az))
   else match gC b h p a (bF.getD 1 az) (dep+1)with
    |(.error k,c)=>(.error k,c)
    |(.ok o,c)=>dB c b (ck d (bF.getD 0 az) o)
set_option maxHeartbeats 1600000 in
theorem Gt (k T:Nat) (b:Nat) (k5:1<=b) (Q:b<=8) (c:List Int) (f:Own) (l9:c.length=b): ∀(z:Nat) (V:U) (o:ag) (_:bq V k T o) (d:aq) (C D E:Own) (dep:Nat),d.sum.length=32->d.cv->d.size.toNat<z->dep+z<=4000000->
  AC Tryz.prog 170 [dJ k b,.agg (ab d C D E),.J (ad c) f,.v (.int .i64 (dep:Int))] V λX p=>zC V p k T (gC b c z o d dep) X
 |0,V,o,W,d,C,D,E,dep,ff,Y,a29,a30=>by omega
 |z+1,V,o,W,d,C,D,E,dep,ff,Y,a29,a30=>by
  have b12:=(aP (N:=C) (e5:=D) (h6:=E) ff).all;have a:=(gC.eq_2 b c o d dep z).symm;generalize gC b c (z+1) o d dep=n0 at*;refine aK hm PD ?_;refine bp λB a34=> ?_;refine cZ λH a36 b13 b14=> ?_;refine ha λs t a3 a4 a5 di=> ?_;generalize I:((V.set B _).set H _).set s _=g;have u:V.sub g:=by subst I;exact aO
  have aM:g B=some (.cells [.ptr k 0,.v (.int .i64 (b))]):=by subst I;exact aO
  have bh:g H=some (.cells (ab d C D E)):=by subst I;exact aO
  have bt:g s=some (.cells (ab az .nil .nil .nil)):=by subst I;rw[<-ch];exact aO
  clear I;have b15:=U.ae aM;have b16:=U.ae bh;have Z:=W.mono u;have n1:=W.cA a34;have n2:=W.cA a36;have G:=W.cA t;by_cases K:d=az
  .subst K;refine bk (my az C D E g ff Y) ?_;have j9:=U.aI bt;have k0:=cy (a:= .nil) (b:= .nil) (c:= .nil) (N:=C) (e5:=D) (h6:=E) bj ff;have i:=(aP (N:= .nil) (e5:= .nil) (h6:= .nil) bj).len;rw[if_pos rfl]at a;refine aa ?_;refine⟨_,U.a6,?_⟩;rw[<-a];exact⟨Z.set G,(Ext.of u).dZ t,aaY,az,_,_,_,ff,rfl⟩
  rw[if_neg K]at a;refine bk (my d C D E g ff Y) ?_;generalize n3:c3 (Ctx.of Tryz.prog) (et.seq (et.block 0 _) _)=b17;refine ah (zj g k T o Z d C D E ff Y b k5 Q) ?_;rintro X n4 ⟨j,k1⟩;cases k6:kP o b d with
  |none=>
   rw[k6]at k1 a;obtain rfl:=k1
   dsimp only at a
   refine aa ?_;refine aN λL F=> ?_;have a38:L≠s:=by rintro rfl;rw[j _ _ bt]at F;cases F
   have b18:=a38.symm;have j9:=U.aI (j _ _ bt);subst n3;have i:=(aP (N:= .nil) (e5:= .nil) (h6:= .nil) bj).len;have k0:=cy (a:= .nil) (b:= .nil) (c:= .nil) (N:= .nil) (e5:= .nil) (h6:= .nil) bj bj;refine aa ?_;refine⟨_,U.a6,?_⟩;rw[<-a,ch,a6z (by rw[i];omega)];exact⟨((Z.mono j).mono (U.af U.a6 F)).set G,(((Ext.of u).trans (Ext.of j)).trans (Ext.of (U.af U.a6 F))).dZ t,aaY,az,_,_,_,bj,rfl⟩
  |some a42=>
   obtain⟨h,b19⟩:=a42;rw[k6]at k1 a;obtain⟨r,b20,rfl,b21,b22,a43,a47⟩:=k1;obtain⟨k2,cj,rfl,b23,b24,b25,b26,a48,b27⟩:=vE k6;obtain⟨M,b28,x,rfl,l,n5,P⟩:=js.of a43 a47;refine aa ?_;refine aN λL F=> ?_;refine aa ?_;have n9:=U.af (X:= .cells [.J (ad h.1) r,.v (.bool h.2)]) (U.a6) F;have cd:=U.ai n4 L (.cells [.J (ad h.1) r,.v (.bool h.2)]);have N:=U.au j n9;have k7:=N _ _ aM;have a00:=N _ _ bh;have k8:=N _ _ bt;have a01:=n9 _ _ n5;have k9:=Z.mono N;have l0:=(Ext.of (l:=k) (lM:=T) u).trans (Ext.of N);have l1:=U.bI u (U.bI j F);have l2:=U.bI u l;have b29:M≠L:=by rintro rfl;rw[n5]at F;cases F
   generalize n4.set L _=v at*;subst n3;refine pA [2,3,4,5,8,10,11] (λ_:(List Int×Bool)×aq×aq×ag=> []) (λS p=>dB S.2.2.2 b (ck S.1 S.2.1 S.2.2.1)=n0/\bq p k T S.2.2.2/\Ext k T V p/\(∃r,p L=some (.cells [.J (ad S.1.1) r,.v (.bool S.1.2)]))/\(∃x,p M=some (.cells x)/\js x S.2.1 S.2.2.1)/\p B=some (.cells [.ptr k 0,.v (.int .i64 (b))])/\p H=some (.cells (ab d C D E))/\p s=some (.cells (ab az .nil .nil .nil))) ?_ ?_
   .have a52:=U.ae cd;have a56:=U.ae k7;refine aa ?_;simp only[a7h,a7k]at a;have b30:=cd;by_cases l3:h.1=c
    .rw[if_pos l3]at a;refine bk (kA h.1 c r f v aaU) ?_;cases a02:h.2 with
     |false=>rw[if_neg (by rw[a02];decide)]at a;have i:=(aP (N:= .nil) (e5:= .nil) (h6:= .nil) bj).len;have k0:=cy (a:= .nil) (b:= .nil) (c:= .nil) (N:= .nil) (e5:= .nil) (h6:= .nil) bj bj;have j9:=U.aI k8;refine aa ?_;refine⟨_,U.a6,?_⟩;rw[<-a,ch,a6z (by rw[i];omega)];exact⟨k9.set G,l0.dZ t,aaY,az,_,_,_,bj,rfl⟩
     |true=>
      rw[if_pos a02]at a;refine aa ?_;refine bk (kA c c r f v aaU) ?_;have b31:=U.aI cd;refine aa ?_;have a57:B≠L:=by grind
      have a61:H≠L:=by grind
      have a62:s≠L:=by rintro rfl;exact absurd (j _ _ bt) (by rw[F];simp)
      refine⟨((h.1,false),k2,cj,o),a,k9.set (W.cA l1),l0.dZ l1,⟨r,by rw[l3]⟩,⟨x,rfl,P⟩,?_,?_,?_⟩
      .rw[U.an _ _ a57];exact k7
      .rw[U.an _ _ a61];exact a00
      .rw[U.an _ _ a62];exact k8
    .rw[if_neg l3]at a;refine bk (kA h.1 c r f v aaU) ?_;refine bk (kA h.1 c r f v aaU) ?_;obtain⟨y,e,b32,a63,a03,a65⟩: ∃(y:Nat) (e:aq),y<2/\(if cH (dep%b) c h.1<0 then(0:Int)else 1)=(y:Int)/\(e.size.toNat<z/\e.sum.length=32/\e.cv)/\
       (match gC b c z o e (dep+1)with
        |(.error l4,O)=>(.error l4,O)
        |(.ok K,O)=>dB O b (ck h (if y=0 then K else k2) (if y=0 then cj else K)))=n0/\ ∃m n q,aL true 37 (x.drop (y*37))= .agg (ab e m n q):=by
      obtain⟨m,n,q,l5,l6,l7,a04,a05,_⟩:=P.ld;by_cases x:cH (dep%b) c h.1<0
      .rw[if_pos x]at a;exact⟨0,k2,aaU,by rw[if_pos x];rfl,⟨aaU,P.bZ,P.q8⟩,a,m,n,q,a04⟩
      .rw[if_neg x]at a;exact⟨1,cj,aaU,by rw[if_neg x];rfl,⟨aaU,P.cr,P.mn⟩,a,l5,l6,l7,a05⟩
     obtain⟨a,m,n,q,b33⟩:=a65;obtain⟨a68,a69,a71⟩:=a03;have a06:=Fe c h.1 f r k b dep aaU Q aaU l9 a48 v;rw[a63]at a06;have a73:=U.ae a01;have a74:=P.len;refine bk a06 ?_;have a81:(dep)+1=((dep+1:Nat):Int):=rfl;rw[a81];refine ah (Gt k T b k5 Q c f l9 z v o k9 e m n q (dep+1) a69 a71 a68 aaU) ?_;rintro X b34 ⟨k3,w,a07⟩;have k4:=W.cA l2;have a08:=W.cA l1;have b35:=w _ _ n1.1 n1.2 k7;have b36:=w _ _ n2.1 n2.2 a00;have a83:=w _ _ G.1 G.2 k8;have a84:=w _ _ k4.1 k4.2 a01;have b37:=w _ _ a08.1 a08.2 cd;have j9:=U.aI a83;have b38:=U.aI a84;have a09:=l0.trans w;have a86:M≠s:=by rintro rfl;rw[bt]at l;cases l
     have b39:=a86.symm;have b40:B≠M:=by rintro rfl;rw[aM]at l;cases l
     have b41:H≠M:=by rintro rfl;rw[bh]at l;cases l
     have i:=(aP (N:= .nil) (e5:= .nil) (h6:= .nil) bj).all;have b42:y*37+37<=x.length:=aaU;generalize b43:gC b c z o e (dep+1)=a88 at*;obtain⟨po,a89⟩:=a88;cases po with
     |error l4=>
      obtain⟨a90,b44,a92,a94,a95,a96,rfl⟩:=a07
      dsimp only at a k3
      have k0:=cy (a:= .nil) (b:= .nil) (c:= .nil) (N:= .nil) (e5:= .nil) (h6:= .nil) bj bj;have b45:=(aP (N:=a92) (e5:=a94) (h6:=a95) a96).all;refine aa ?_;refine⟨_,U.a6,?_⟩;rw[<-a,ch,a6z (by rw[i.1];omega)];exact⟨(k3.set k4).set G,(a09.dZ l2).dZ t,a90,az,_,_,_,bj,rfl⟩
     |ok a10=>
      obtain⟨l8,a11,a97,a98,a99,rfl⟩:=a07
      dsimp only at a k3
      have a03:=(aP (N:=a97) (e5:=a98) (h6:=a99) l8).all;refine aa ?_;refine⟨(h,(if y=0 then a10 else k2),(if y=0 then cj else a10),a89),a,k3.set k4,a09.dZ l2,⟨r,rfl⟩,_,rfl,?_⟩;obtain rfl|rfl:y=0\/y=1:=aaU
      .exact P.Gp l8 a11
      .exact P.Gq l8 a11
   .rintro⟨b00,b01,b02,O⟩ p ⟨b03,b04,b05,⟨b06,b07⟩,⟨b46,b08,A⟩,b09,b47,b10⟩ b48
    dsimp only at*
    have a52:=U.ae b07;have a56:=U.ae b09;have a73:=U.ae b08;obtain⟨m,n,q,l5,l6,l7,a04,a05,b49,b50⟩:=A.ld;have a74:=A.len;refine aa ?_;have a13:=vy p k T O b04 b00 b01 b02 b06 m n q l5 l6 l7 b k5 Q A.bZ A.cr A.q8 A.mn;refine ah a13 ?_;clear a13;rintro X b51 ⟨b11,a14,a15⟩;have j9:=U.aI (a14 _ _ G.1 G.2 b10);obtain⟨b52,a16,a18,a19,l4,a27,rfl⟩:=a15.shape;have b53:=(aP (N:=a16) (e5:=a18) (h6:=a19) a27).all;have i:=(aP (N:= .nil) (e5:= .nil) (h6:= .nil) bj).len;have k0:=cy (a:= .nil) (b:= .nil) (c:= .nil) (N:=a16) (e5:=a18) (h6:=a19) bj a27;refine aa ?_;refine⟨_,U.a6,?_⟩;rw[<-b03];exact⟨b11.set G,(b05.trans a14).dZ t,a15.x⟩
def a3g (b:Int) (a:List Int) (d:R) (k:isRow a d) (c:U) (h:Nat) (r:c.read h=some [.v (.int .i64 b)]):
  AC Tryz.prog 219 [d,.ptr h 0] c λo p=>p=c/\o= .v (.bool (!decide ((a.length:Int)=b))):=by
 obtain⟨x,rfl⟩:=k;have y:=bM (q:=a);by_cases z:(a.length)=b
 .refine aK hm C2 ?_
  repeat' first|refine aH (λ_=> ?_) λ_=> ?_|trivial
 .refine aK hm C2 ?_
  repeat' first|refine aH (λ_=> ?_) λ_=> ?_|trivial
theorem Gu (a:Nat) (b:List (List Int)) (d:List R) (r:Own) (h:U) (o:aB isRow b d) (x:b.length<=1000000000000) (F:1<=a) (G:a<=8) (L: ∀c∈b,c.length=a):
  AC Tryz.prog 167 [.v (.int .i64 (a:Int)),.J d r] h λc k=>k=h/\c= .v (.bool true):=by
 have P:(1)<=(a:Int):=aaU;have S:(a:Int)<=8:=aaU;refine aK hm Pw ?_;refine bp λp y=> ?_;have T:=U.af (X:= .cells [.v (.int .i64 (a))]) (U.a6) y;have c2:=U.ai h p (.cells [.v (.int .i64 (a))]);refine ah (Ei b d _ _ o (bJ.J (o.cells λ_ _=>isRow.cells)) x (b5:=219) ⟨by rfl,λz C k D E=>a3g a z C D k p (U.ae (E _ _ c2))⟩) ?_;rintro _ _ ⟨rfl,rfl⟩;have:b.any (λc=> !decide ((c.length)=(a:Int)))=false:=by simp_all
 rw[this];exact aO
def rE (b:Nat) (c:List Int) (d:ag) (a:aq):Except Int aq×ag:=kd b c (a.size.toNat+1) d a 0
def a3h (c:U) (k y:Nat) (z:ag) (D:bq c k y z) (a:aq) (o p r:Own) (E:a.sum.length=32) (n:a.cv) (v:a.size<=2000000) (d:List Int) (F:Own) (b:Nat) (G:1<=b) (L:b<=8) (P:d.length=b):
  AC Tryz.prog 105 [.ptr k 0,.agg (ab a o p r),.J (ad d) F,.v (.int .i64 (b:Int))] c λS q=>oX c q k y (rE b d z a) S:=by
 have w:=(aP (N:=o) (e5:=p) (h6:=r) E).all;refine aK hm NP ?_;refine bp λT A=> ?_;refine cZ λV W B H=> ?_;refine uz λs I _ _ _ _=> ?_;generalize x:((c.set T _).set V _).set s _=h;have e:c.sub h:=by subst x;exact aO
 have bh:h T=some (.cells (ab a o p r)):=by subst x;exact aO
 have bt:h V=some (.cells (ab az .nil .nil .nil)):=by subst x;rw[<-ch];exact aO
 clear x;have t:=D.mono e;have C:=D.cA W;have K:=U.ae bh;refine bk (Gu b [d] _ _ h ⟨⟨_,rfl⟩,trivial⟩ aaV G L (by simp[P])) ?_;refine ah (Gr k y b G L d F P (a.size.toNat+1) h z t a o p r 0 E n aaU aaU) ?_;rintro S M ⟨u,f,g⟩;obtain⟨N,i,j,l,O,m,rfl⟩:=g.shape;have Q:=U.aI (f _ _ C.1 C.2 bt);have X:=(aP (N:=i) (e5:=j) (h6:=l) m).all;have Y:=(aP (N:= .nil) (e5:= .nil) (h6:= .nil) bj).len;have Z:=cy (a:= .nil) (b:= .nil) (c:= .nil) (N:=i) (e5:=j) (h6:=l) bj m;refine aa ?_;refine⟨_,U.a6,?_⟩;exact⟨u.set C,((Ext.of e).trans f).dZ W,g⟩
theorem a3i {h:ag}{k:List Int×Bool}{b:aq} (a:dB H e (ck k j3 b)=(.ok w,h)):0<=w.live/\w.live<=3000000:=by
 unfold dB at a;split at a
 .simp_all
 .rename_i p o;simp only[a7J,Except.ok.injEq]at a;obtain⟨rfl,_⟩:=a;have c:=v7 o;have d:=tv c.ok;have r:=ra (d j3 (by simp[ck]));have x:=ra (d b (by simp[ck]));rw[c.eq];grind[fm,eD,ck,ev,dR]
variable{q b8:List Int}
theorem a3j: ∀ {h:Nat}{c a:ag}{d b:aq}{dep:Nat},gC e q h c d dep=(.ok b,a)-> ∃o p r x,dB o e (ck p r x)=(.ok b,a)
 |0,c,a,d,b,dep,k=>by rw[gC]at k;simp_all
 |h+1,c,a,d,b,dep,k=>by
  grind[gC,Prod.mk.inj]
def jt (c:Nat) (h:List Int) (k:ag) (d:aq):Except Int aq×ag:=
 match gC c h (d.size.toNat+1) k d 0 with
 |(.error o,a)=>(.error o,a)
 |(.ok b,a)=>if 2*b.live<b.size then mJ a c b 0 else(.ok b,a)
def a3k (S:U) (h T:Nat) (x:ag) (e:bq S h T x) (b:aq) (C D E:Own) (f:b.sum.length=32) (l8:b.cv) (a13:b.size<=2000000) (k:List Int) (O:Own) (a:Nat) (t:1<=a) (u:a<=8) (Q:k.length=a):
  AC Tryz.prog 107 [.ptr h 0,.agg (ab b C D E),.J (ad k) O,.v (.int .i64 (a:Int))] S λv l9=>zC S l9 h T (jt a k x b) v:=by
 have a14:=(aP (N:=C) (e5:=D) (h6:=E) f).all;refine aK hm NT ?_;refine bp λd w=> ?_;refine cZ λF g a15 a16=> ?_;refine uz λn0 a18 _ _ _ _=> ?_;generalize i:((S.set d _).set F _).set n0 _=G;have X:S.sub G:=by subst i;exact aO
 have bh:G d=some (.cells (ab b C D E)):=by subst i;exact aO
 have bt:G F=some (.cells (ab az .nil .nil .nil)):=by subst i;rw[<-ch];exact aO
 clear i;refine bk (Gu a [k] _ _ G ⟨⟨_,rfl⟩,trivial⟩ aaV t u (by simp[Q])) ?_;refine aN λy L=> ?_;have Y:d≠y:=by rintro rfl;rw[bh]at L;cases L
 have n1:=Y.symm;have Z:F≠y:=by rintro rfl;rw[bt]at L;cases L
 have a19:=Z.symm;have n2:=U.bI X L;have a27:=U.ae bh;refine aa ?_;have A:=U.af (X:= .cells [.ptr h 0,.v (.int .i64 (a))]) (U.a6) L;have j9:=U.au X A;have k0:=A _ _ bh;have n3:=A _ _ bt;have k1:=U.ai G y (.cells [.ptr h 0,.v (.int .i64 (a))]);generalize G.set y _=n4 at*;have n5:=e.mono j9;have a29:=U.ae k0;have a30:=U.ae k1;have j:=e.cA w;have z:=e.cA g;have k2:=e.cA n2;refine ah (Gt h T a t u k O Q (b.size.toNat+1) n4 x n5 b C D E 0 f l8 aaU aaU) ?_;rintro v V ⟨l,m,k3⟩;have n9:=m _ _ j.1 j.2 k0;have k4:=m _ _ z.1 z.2 n3;have a00:=m _ _ k2.1 k2.2 k1;have a34:=U.aI n9;have a36:=U.aI k4;have a38:=(aP (N:= .nil) (e5:= .nil) (h6:= .nil) bj).len;have c:jt a k x b=match gC a k (b.size.toNat+1) x b 0 with
  |(.error B,n)=>(.error B,n)
  |(.ok q,n)=>if 2*q.live<q.size then mJ n a q 0 else(.ok q,n):=rfl
 generalize jt a k x b=a42 at c|-;have a01:d≠F:=aaX;have a02:=a01.symm;have Y:d≠y:=aaX;have Z:F≠y:=aaX;generalize a03:gC a k (b.size.toNat+1) x b 0=a04 at*;obtain⟨po,k5⟩:=a04;have k6:=(Ext.of j9).trans m;cases po with
 |error B=>
  obtain⟨a05,a06,H,I,K,s,rfl⟩:=k3
  dsimp only at c l
  have M:=cy (a:=C) (b:=D) (c:=E) (N:=H) (e5:=I) (h6:=K) f s;have a43:=cy (a:= .nil) (b:= .nil) (c:= .nil) (N:=H) (e5:=I) (h6:=K) bj s;have a47:=(aP (N:=H) (e5:=I) (h6:=K) s).all;replace c:=c.symm;refine aa ?_;refine⟨_,U.a6,?_⟩;rw[<-c];exact⟨(l.set j).set z,(k6.dZ w).dZ g,a05,a06,_,_,_,s,rfl⟩
 |ok P=>
  obtain⟨W,k7,o,p,r,rfl⟩:=k3
  dsimp only at c l
  obtain⟨_,_,_,_,k8⟩:=a3j a03;obtain⟨a48,a52⟩:=a3i k8;have a56:=(Gn k8).2.2.2;have M:=cy (a:=C) (b:=D) (c:=E) (N:=o) (e5:=p) (h6:=r) f W;have a57:=(aP (N:=o) (e5:=p) (h6:=r) W).all;replace c:=c.symm;refine aa ?_;have k9:bq (V.set d (.cells (ab P o p r))) h T k5:=l.set j;have a07:=U.ai V d (.cells (ab P o p r));have l0:(V.set d (.cells (ab P o p r))) F=some (.cells (ab az .nil .nil .nil)):=by rw[U.an _ _ a02];exact k4
  have a08:(V.set d (.cells (ab P o p r))) y=some (.cells [.ptr h 0,.v (.int .i64 (a))]):=by rw[U.an _ _ n1];exact a00
  have l1:=k6.dZ (X:= .cells (ab P o p r)) w;generalize V.set d _=a09 at*;have a61:=U.ae a07;have a62:=U.ae a08;have a10:=U.aI l0;refine aH (λN=> ?_) λN=> ?_
  .rw[if_pos N]at c;refine ah (Gm a09 h T k5 k9 P o p r W k7 a t u 0 aaU aaU) ?_;rintro v a63 ⟨a11,l2,l3⟩;obtain⟨a65,l4,l5,l6,B,l7,rfl⟩:=l3.shape;have a10:=U.aI (l2 _ _ z.1 z.2 l0);have a68:=(aP (N:=l4) (e5:=l5) (h6:=l6) l7).all;have M:=cy (a:= .nil) (b:= .nil) (c:= .nil) (N:=l4) (e5:=l5) (h6:=l6) bj l7;refine aa ?_;refine⟨_,U.a6,?_⟩;rw[<-c];exact⟨a11.set z,(l1.trans l2).dZ g,l3.x⟩
  .rw[if_neg N]at c;have M:=cy (a:= .nil) (b:= .nil) (c:= .nil) (N:=o) (e5:=p) (h6:=r) bj W;refine⟨_,U.a6,?_⟩;rw[<-c];exact⟨k9.set z,l1.dZ g,W,k7,_,_,_,rfl⟩
end Go.Proofs.YtcfpcblgmmeioaaGreat
namespace Go.bD
open Go
end Go.bD
namespace Go.Proofs.YtcfpcblgmmeioaaGreat
open Go Go.bD
theorem a3l:cP ([],[]) ([],[])=(([],[]):List Int×List Int):=rfl
variable{e i v M b9 j2:Nat}
theorem Gv {a:List Int×List Int} (b:hn e a):cP a ([],[])=a:=by have c:=lB.1 b.ok;have d:cO ([]) [] ([]:List Int).length=false:=rfl;unfold cP;rw[c.2.2.1,if_pos b.ok,if_neg (by rw[d];simp)]
def aC.rows:aC->List (List Int)
 | .nil=> []
 | .node a _ b c=>a::(b.rows++c.rows)
theorem aC.gD: ∀ {c:aC}{b:List Int},b∈c.all->b∈c.rows
 | .nil,b,a=>a
 | .node d live h k,b,a=>by
  simp only[aC.all,a6L]at a;simp only[aC.rows,a6W,a6L];rcases a with (a|a)|a
  .exact .inr (.inl (aC.gD a))
  .exact .inr (.inr (aC.gD a))
  .cases live<;>simp at a;exact .inl a
def aC.c7 (a:Nat) (b:aC):Prop:= ∀c∈b.rows,bN a c
def aC.c7.a {a:Nat}{c:List Int}{d:Bool}{b h:aC} (k:(aC.node c d b h).c7 a):b.c7 a:=λo p=>k o (by simp[aC.rows,p])
def aC.c7.b {a:Nat}{c:List Int}{d:Bool}{h b:aC} (k:(aC.node c d h b).c7 a):b.c7 a:=λo p=>k o (by simp[aC.rows,p])
def aC.c7.r {b:Nat}{a:List Int}{c:Bool}{d h:aC} (k:(aC.node a c d h).c7 b):bN b a:=k a (by simp[aC.rows])
variable{I:Bool}{a7:aC}{q b8:List Int}
def aC.c7.mk {b:aC} (d:bN e q) (h:a7.c7 e) (k:b.c7 e):(aC.node q I a7 b).c7 e:=λc a=>by
 simp only[aC.rows,a6W,a6L]at a;rcases a with rfl|a|a
 .exact d
 .exact h c a
 .exact k c a
theorem aC.c7.ok {b:Nat}: ∀ {c:aC},c.c7 b->c.Ok b
 | .nil,_=>trivial
 | .node _ _ _ _,a=>⟨a.r.len,a.a.ok,a.b.ok⟩
def bm:aC->aq
 | .nil=>az
 | .node a live b c=>fm (ck (a,live) (bm b) (bm c))
structure ju (d:Nat) (t:aC) (k:aq):Prop where
 sum:k.sum.length=32
 live:k.live=(t.all.length:Int)
 size:k.size=(t.size:Int)
 aR:(t.all.length=0/\k.aT= []/\k.aS= [])\/(0<t.all.length/\hn d (k.aT,k.aS))
 key:k.key= []
 z:t= .nil->k=az
theorem ju.ok {c:Nat}{a:aC}{d:aq} (b:ju c a d) (y:a.size<=1048576):fl c d=true:=by
 have z:=b.size;have C:=b.live;have D:=lD a;unfold fl;cases a with
 |nil=>rw[decide_eq_true (b.z rfl),Bool.true_or]
 |node h k o p=>
  have E:1<=(aC.node h k o p).size:=by simp only[aC.size];omega
  generalize aC.node h k o p=a at*;rw[a8l];right;rw[a6B];refine⟨aaW,?_⟩;rcases b.aR with ⟨x,r,F⟩|⟨x,r⟩;grind
  .rw[if_neg aaU];exact r.ok
variable{w j3:aq}
theorem ju.kK (a:ju e a7 w) (p:a7.size<=1048576):w.In e:=by
 have r:=a.size;have x:=a.live;have y:=lD a7;have b:dj w.aT/\dj w.aS/\w.aT.length<=e/\w.aS.length<=e:=by
  rcases a.aR with ⟨h,c,z⟩|⟨h,c⟩;grind
  .have d:=lB.1 c.ok;have C:w.aT.length=e:=d.2.2.1;have D:w.aS.length=e:=d.2.2.2.1;exact⟨c.aT,c.aS,aaU,aaU⟩
 have k:dj w.key:=by rw[a.key];intro E o;cases o
 exact⟨a.sum,b.1,b.2.1,k,b.2.2.1,b.2.2.2,by rw[a.key];simp,aaU,aaU,aaU,aaU⟩
theorem zD {a:gM} (d:mC i e a) (k:ju i a7 w):mC i (e+a7.all.length) (ev a w):=by
 have o:(ev a w).live=((e+a7.all.length:Nat)):=by show a.live+w.live= _;rw[d.live,k.live];push_cast;rfl
 refine⟨o,?_⟩;show(e+a7.all.length=0/\cP a.aR (w.aT,w.aS)=([],[]))\/(0<e+a7.all.length/\hn i (cP a.aR (w.aT,w.aS)));rcases k.aR with ⟨p,b,r⟩|⟨p,b⟩
 .rw[b,r];rcases d.aR with ⟨h,c⟩|⟨h,c⟩;grind[a3l];grind[Gv]
 .right;refine⟨aaU,?_⟩;rcases d.aR with ⟨h,c⟩|⟨h,c⟩
  .rw[c,pV b];exact b
  .exact yB c b
def a3m:ju e .nil az:=⟨rfl,rfl,rfl,.inl ⟨rfl,rfl,rfl⟩,rfl,λ_=>rfl⟩
def vF (C:1<=e) (D:e<=8) {a:aC} (k:bN e q) (b:ju e a7 w) (c:ju e a j3) (T:a7.size+a.size<1048576):
  (ck (q,I) w j3).In e/\ju e (.node q I a7 a) (fm (ck (q,I) w j3))/\fI e (ck (q,I) w j3)=some (fm (ck (q,I) w j3)):=by
 have p:dQ e (ck (q,I) w j3)=true:=by unfold dQ ck;simp[k.len,b.ok aaU,c.ok aaU,b.key,c.key]
 have r:=yC C D k;have E:mC e (if I=true then 1 else 0) (dR ⟨0,1,([],[])⟩ (q,I)):=by
  cases I with
  |false=>exact⟨rfl,.inl ⟨rfl,rfl⟩⟩
  |true=>refine⟨rfl,.inr ⟨aaY,?_⟩⟩;show hn e (cP ([],[]) (gq q));rw[pV r];exact r
 have o:=zD (zD E b) c;have x:eD (ck (q,I) w j3)=ev (ev (dR ⟨0,1,([],[])⟩ (q,I)) w) j3:=rfl;have F:(aC.node q I a7 a).all.length=(if I=true then 1 else 0)+a7.all.length+a.all.length:=by simp only[aC.all,a6A];split<;>simp<;>omega
 rw[<-x,<-F]at o;have y:(eD (ck (q,I) w j3)).size=((aC.node q I a7 a).size):=by
  rw[x];have d:(dR ⟨0,1,([],[])⟩ (q,I)).size=1:=by cases I<;>rfl
  show(dR ⟨0,1,([],[])⟩ (q,I)).size+w.size+j3.size= _;rw[d,b.size,c.size,aC.size];push_cast;rfl
 refine⟨⟨p,λG L=> ?_,λz P=> ?_⟩,⟨ox _,o.live,y,?_,?_,λS=>by cases S⟩,?_⟩
 .obtain rfl:G=(q,I):=by simpa[ck] using L
  exact k.kI
 .have:z=w\/z=j3:=by simpa[ck] using P
  rcases this with rfl|rfl
  .exact b.kK aaU
  .exact c.kK aaU
 .rcases o.aR with ⟨d,h⟩|⟨d,h⟩
  .left;refine⟨d,?_,?_⟩
   .show(eD _).aR.1= [];rw[h]
   .show(eD _).aR.2= [];rw[h]
  .exact .inr ⟨d,h⟩
 .show keyOf (ck (q,I) w j3)= [];unfold keyOf ck;rfl
 .unfold fI;rw[if_pos p,if_neg (by rw[y];simp only[aC.size];omega)]
def ez {a:Nat} (c:1<=a) (d:a<=8): ∀ {b:aC},b.c7 a->b.size<=1048576->ju a b (bm b)
 | .nil,_,_=>a3m
 | .node o live p r,h,k=>by
  simp only[aC.size]at k;exact(vF c d h.r (ez c d h.a aaU) (ez c d h.b aaU) aaU).2.1
def ds (a:ag):aC->Prop
 | .nil=>True
 | .node d live b c=>a.m (fZ (cG (ck (d,live) (bm b) (bm c))))=some (cG (ck (d,live) (bm b) (bm c)))/\ds a b/\ds a c
def ds.mono {c d:ag} (a:c.le d): ∀ {h:aC},ds c h->ds d h
 | .nil,_=>trivial
 | .node _ _ _ _,b=>⟨a.m _ _ b.1,b.2.1.mono a,b.2.2.mono a⟩
def vG (c:1<=e) (d:e<=8) {a:aC} (h:(aC.node q I a7 a).c7 e) (k:(aC.node q I a7 a).size<=1048576):bm (.node q I a7 a)≠az:=λo=>by
 have b:=(ez c d h k).size;rw[o]at b;have:(az).size=0:=rfl;simp only[aC.size]at b;omega
variable{H:ag}
def q9 (b:1<=e) (c:e<=8) {a:aC} (d:(aC.node q I a7 a).c7 e) (h:(aC.node q I a7 a).size<=1048576) (k:ds H (.node q I a7 a)):dA H e (bm (.node q I a7 a))=some (ck (q,I) (bm a7) (bm a)):=by have o:=h;simp only[aC.size]at o;obtain⟨p,x,r⟩:=vF (I:=I) b c d.r (ez b c d.a aaU) (ez b c d.b aaU) aaU;unfold dA;rw[show H.m (bm (.node q I a7 a)).sum=some (cG (ck (q,I) (bm a7) (bm a)))from k.1];simp only;rw[DI aaU p];simp only;rw[r];exact if_pos rfl
def vH (b:1<=e) (c:e<=8) {a:aC} (d:(aC.node q I a7 a).c7 e) (h:(aC.node q I a7 a).size<=1048576) (k:ds H (.node q I a7 a)):kP H e (bm (.node q I a7 a))=some ((q,I),[bm a7,bm a]):=by unfold kP;rw[q9 b c d h k];rfl
theorem zE {b:Nat} (c:1<=b) (d:b<=8) {x:ag}: ∀ {a:aC}{z:Nat},a.c7 b->a.size<=1048576->ds x a->a.size<z-> ∃y,fV x b z (bm a)=some y/\y.Perm a.all
 |a,0,_,_,_,C=>by omega
 | .nil,z+1,_,_,_,_=>⟨[],by rw[fV];rfl,.refl _⟩
 | .node E live h k,z+1,o,p,r,C=>by
  have F:=ez c d o p;have G:=p;simp only[aC.size]at G C;rw[fV];by_cases D:(bm (.node E live h k)).live=0
  .rw[if_pos D];have S:=F.live;simp_all
  .rw[if_neg D,vH c d o p r];obtain⟨T,L,V⟩:=zE c d (z:=z) o.a aaU r.2.1 aaU;obtain⟨W,P,e⟩:=zE c d (z:=z) o.b aaU r.2.2 aaU
   dsimp only
   rw[show [bm h,bm k].getD 0 az=bm h from rfl,show [bm h,bm k].getD 1 az=bm k from rfl,L,P];refine⟨_,rfl,?_⟩;grind[aC.all,List.append_assoc]
def a3n (a:1<=e) (b:e<=8) (c:a7.c7 e) (d:a7.size<=1048576) (k:ds H a7): ∃h,fV H e ((bm a7).size.toNat+1) (bm a7)=some h/\h.Perm a7.all:=by have o:=(ez a b c d).size;exact zE a b c d k aaU
structure gf (a:ag) (t:aC) (r:Except Int aq×ag):Prop where
 le:a.le r.2
 ins:r.2.one=false->r.1= .ok (bm t)/\ds r.2 t
def gf.bind {o:aC}{h:Except Int aq×ag}{k:aq->ag->Except Int aq×ag} (c:gf H a7 h) (p: ∀(b:aq) (a:ag),a.le (k b a).2) (y: ∀a,H.le a->a.one=false->ds a a7->gf a o (k (bm a7) a)):
  gf H o (match(generalizing:=false) h with
   |(.error r,a)=>(.error r,a)
   |(.ok b,a)=>k b a):=by
 obtain⟨z,a⟩:=h;cases z with
 |error r=>exact⟨c.le,λd=>by cases (c.ins d).1⟩
 |ok b=>refine⟨c.le.trans (p b a),λd=> ?_⟩;have x:=(p b a).zero d;obtain⟨C,D⟩:=c.ins x;obtain rfl:=Except.ok.inj C;exact(y a c.le x D).ins d
theorem vI (c:Nat): ∀(k:Nat) (d:ag) (b:List (List Int)) (dep:Nat),d.le (iV c k d b dep).2
 |0,d,_,_=>ag.le_refl
 |k+1,d,b,dep=>by
  rw[iV];split
  .exact ag.le_refl
  have h:=vI c k d ((ed (dep%c) b).take (b.length/2)) (dep+1);split
  .rename_i a;rw[a]at h;exact h
  rename_i r p a;rw[a]at h;have o:=vI c k p ((ed (dep%c) b).drop (b.length/2+1)) (dep+1);split
  .rename_i a;rw[a]at o;exact h.trans o
  rename_i x y a;rw[a]at o;exact(h.trans o).trans (kc)
theorem vJ (a:ag) (b:Nat) (c:aq) (d:Nat):a.le (mJ a b c d).2:=by grind[mJ,ag.le_refl,vI]
theorem tE (b:ag) (d:Nat) (h:List Int×Bool) (k o:aq) (p:Nat):b.le (mK b d h k o p).2:=by
 unfold mK;have a:=kc (H:=b) (e:=d) (b4:=ck h k o);split
 .rename_i c;rw[c]at a;exact a
 rename_i c;rw[c]at a;split
 .exact a.trans (vJ _ _ _ _)
 .exact a
def rF (b:1<=e) (c:e<=8) {a:aC} (d:(aC.node q I a7 a).c7 e) (k:(aC.node q I a7 a).size<=1048576) (o:ds H a7) (p:ds H a):gf H (.node q I a7 a) (dB H e (ck (q,I) (bm a7) (bm a))):=by simp only[aC.size]at k;obtain⟨y,z,r⟩:=vF (I:=I) b c d.r (ez b c d.a aaU) (ez b c d.b aaU) aaU;rw[q6 r];have h:=lK H (cG (ck (q,I) (bm a7) (bm a)));exact⟨h,λx=>⟨rfl,rC x,o.mono h,p.mono h⟩⟩
theorem rG {h:Nat}: ∀ {k:Nat}{b:List (List Int)}{dep:Nat}{c:List Int},c∈(fR h k b dep).rows->c∈b
 |0,_,_,_,a=>by trivial
 |k+1,b,dep,c,a=>by
  rw[fR]at a;by_cases d:b= []
  .rw[if_pos d]at a;trivial
  rw[if_neg d]at a;have o:=a7B.2 d;have p:=pX (dep%h) b;simp only[aC.rows,a6W,a6L]at a;rcases a with rfl|a|a
  .rw[a7z,a6y aaU];exact rl.1 (a6Z _)
  .exact rl.1 (a6M (rG a))
  .exact rl.1 (a7e (rG a))
def zF (b:Nat) (a:List (List Int)) (c:Nat) (d: ∀h∈a,bN e h):(fR e b a c).c7 e:=λk o=>d k (rG o)
theorem zG {b:Nat} (E:1<=b) (F:b<=8): ∀(d:Nat) (x:ag) (a k:List (List Int)) (dep:Nat),k.Perm a->(∀c∈a,bN b c)->a.length<=d->a.length<=1048576->gf x (fR b d a dep) (iV b d x k dep)
 |0,x,a,k,dep,_,_,_,_=>⟨ag.le_refl,λ_=>⟨rfl,trivial⟩⟩
 |d+1,x,a,k,dep,C,y,s,t=>by
  have T:=C.length_eq;by_cases D:a= []
  .subst D;obtain rfl:k= []:=C.eq_nil;rw[iV,if_pos rfl,fR,if_pos rfl];exact⟨ag.le_refl,λ_=>⟨rfl,trivial⟩⟩
  have V:k≠ []:=λW=>D (by subst W;simp_all);have u:=a7B.2 D;have e:ed (dep%b) k=ed (dep%b) a:=by obtain⟨G,f⟩:=tC λo z=>(y o z).len;obtain⟨g,i⟩:=tC λo z=>(y o (C.mem_iff.1 z)).len;exact zA (q7 b _) (λo z=>(y o (G.mem_iff.1 z)).len) (g.trans (C.trans G.symm)) f i
  rw[iV,if_neg V,fR,if_neg D,e,T];have v:=pX (dep%b) a;have hm:=λo=>rl (e:=dep%b) (O:=a) (q:=o);generalize ed (dep%b) a=h at*;have L: ∀c∈h.take (a.length/2),bN b c:=λc p=>y c ((hm c).1 (a6M p));have P: ∀c∈h.drop (a.length/2+1),bN b c:=λc p=>y c ((hm c).1 (a7e p));have w:(h.take (a.length/2)).length=a.length/2:=by rw[a6C];omega
  have A:(h.drop (a.length/2+1)).length=a.length -(a.length/2+1):=by rw[a6R];omega
  have B:=rm b d (h.take (a.length/2)) (dep+1);have H:=rm b d (h.drop (a.length/2+1)) (dep+1);have j:bN b (h.getD (a.length/2) []):=by grind
  refine gf.bind (zG E F d x _ _ (dep+1) (.refl _) L aaU aaU) (λl S=> ?_) λm I K n=> ?_
  .have r:=vI b d S (h.drop (a.length/2+1)) (dep+1);split
   .rename_i p;rw[p]at r;exact r
   .rename_i p;rw[p]at r;exact r.trans (kc)
  .refine gf.bind (zG E F d m _ _ (dep+1) (.refl _) P aaU aaU) (λl S=>kc) λM r N q=> ?_;exact rF E F (aC.c7.mk j (zF _ _ _ L) (zF _ _ _ P)) (by simp only[aC.size];omega) (n.mono r) q
def Gw (b:1<=e) (c:e<=8) (d:a7.c7 e) (k:a7.size<=1048576) (o:ds H a7) (a:Nat):gf H (fR e a7.all.length a7.all a) (mJ H e (bm a7) a):=by
 obtain⟨y,p,h⟩:=a3n b c d k o;have z:=lD a7;unfold mJ;rw[p]
 dsimp only
 rw[h.length_eq];exact zG b c _ H _ _ a h (λr x=>d r (aC.gD x)) (a7g _) aaU
theorem zH (c:1<=e) (d:e<=8) {a:aC} (b:(aC.node q I a7 a).c7 e) (h:(aC.node q I a7 a).size<=1048576) (p:ds H a7) (r:ds H a) (k:Nat):gf H (hJ e (.node q I a7 a) k) (mK H e (q,I) (bm a7) (bm a) k):=by
 have x:=h;simp only[aC.size]at x;have C:=(ez c d b h).size;have D:=(ez c d b.a aaU).size;have E:=(ez c d b.b aaU).size;unfold mK;refine gf.bind (rF c d b h p r) (λF G=> ?_) λL P S y=> ?_;grind[vJ,ag.le_refl]
 .have z:((2*(bm (.node q I a7 a)).size).tdiv 3+1<max (bm a7).size (bm a).size)↔max a7.size a.size>2*(aC.node q I a7 a).size/3+1:=by grind
  unfold hJ
  dsimp only
  by_cases o:max a7.size a.size>2*(aC.node q I a7 a).size/3+1;simp_all [Gw]
  .rw[if_neg (λb=>o (z.1 b)),if_neg o];exact⟨ag.le_refl,λ_=>⟨rfl,y⟩⟩
theorem zI (a:q∈(hJ e a7 i).rows):q∈a7.rows:=by unfold hJ at a;grind[aC.gD,rG]
theorem tF {h:Nat}{d:List Int}: ∀ {r:aC}{dep:Nat}{c:List Int},c∈(cV h d r dep).1.rows->c=d\/c∈r.rows
 | .nil,dep,c,b=>by
  grind[cV,aC.rows,List.mem_singleton]
 | .node k live o p,dep,c,b=>by
  rw[cV]at b;split at b
  .have:=zI (a7:= .node k true o p) b;exact .inr this
  split at b
  .have a:=zI (a7:= .node k live (cV h d o (dep+1)).1 p) b;simp only[aC.rows,a6W,a6L]at a|-;rcases a with a|a|a
   .simp_all
   .exact(tF a).imp_right λb=> .inr (.inl b)
   .simp_all
  .have a:=zI (a7:= .node k live o (cV h d p (dep+1)).1) b;simp only[aC.rows,a6W,a6L]at a|-;rcases a with a|a|a
   .simp_all
   .simp_all
   .exact(tF a).imp_right λb=> .inr (.inr b)
def qa (b:bN e q) (c:a7.c7 e):(cV e q a7 i).1.c7 e:=λd a=>by
 rcases tF a with rfl|a
 .exact b
 .exact c d a
theorem zJ {h:Nat}{k:List Int}: ∀(d:Nat) (c:ag) (o:aq) (dep:Nat),c.le (kd h k d c o dep).2
 |0,c,_,_=>ag.le_refl
 |d+1,c,o,dep=>by
  rw[kd];split
  .exact kc
  split
  .exact ag.le_refl
  rename_i r p x;split;grind[ag.le_refl,tE];split
  .have a:=zJ (h:=h) (k:=k) d c (p.getD 0 az) (dep+1);split
   .rename_i b;rw[b]at a;exact a
   .rename_i b;rw[b]at a;exact a.trans (tE _ _ _ _ _ _)
  .have a:=zJ (h:=h) (k:=k) d c (p.getD 1 az) (dep+1);split
   .rename_i b;rw[b]at a;exact a
   .rename_i b;rw[b]at a;exact a.trans (tE _ _ _ _ _ _)
def zK {h:Nat}{k:List Int}: ∀(d:Nat) (c:ag) (o:aq) (dep:Nat),c.le (gC h k d c o dep).2
 |0,c,_,_=>ag.le_refl
 |d+1,c,o,dep=>by
  rw[gC];split
  .exact ag.le_refl
  split
  .exact ag.le_refl
  rename_i r p x;split
  .split
   .exact kc
   .exact ag.le_refl
  split
  .have a:=zK (h:=h) (k:=k) d c (p.getD 0 az) (dep+1);split
   .rename_i b;rw[b]at a;exact a
   .rename_i b;rw[b]at a;exact a.trans (kc)
  .have a:=zK (h:=h) (k:=k) d c (p.getD 1 az) (dep+1);split
   .rename_i b;rw[b]at a;exact a
   .rename_i b;rw[b]at a;exact a.trans (kc)
theorem a3o (b:ag) (c:aq):b.le (jt e q b c).2:=by
 unfold jt;have a:=zK (h:=e) (k:=q) (c.size.toNat+1) b c 0;split
 .rename_i d;rw[d]at a;exact a
 rename_i d;rw[d]at a;split
 .exact a.trans (vJ _ _ _ _)
 .exact a
theorem zL {b:Nat} (c:1<=b) (d:b<=8) {h:List Int} (y:bN b h): ∀(k:aC) (o:ag) (r dep:Nat),k.c7 b->k.size+1<=1048576->ds o k->k.size<r->(cV b h k dep).2=true->gf o (cV b h k dep).1 (kd b h r o (bm k) dep)
 |k,o,0,dep,_,_,_,L,_=>by omega
 | .nil,o,r+1,dep,_,_,_,_,_=>by
  rw[kd,if_pos (show bm .nil=az from rfl),cV];exact rF c d (aC.c7.mk y (λS D=>by cases D) (λS D=>by cases D)) (by trivial) trivial trivial
 | .node P live z C,o,r+1,dep,a,T,p,L,x=>by
  have V:=T;simp only[aC.size]at V L;rw[kd,if_neg (vG c d a aaU),vH c d a aaU p]
  dsimp only
  rw[show [bm z,bm C].getD 0 az=bm z from rfl,show [bm z,bm C].getD 1 az=bm C from rfl];rw[cV]at x|-;by_cases E:P=h
  .simp only[if_pos E]at x|-;have W:live=false:=by simp_all
   rw[if_neg (by rw[W];simp)];exact zH c d (aC.c7.mk a.r a.a a.b) (by simp only[aC.size];omega) p.2.1 p.2.2 dep
  .by_cases c2:cH (dep%b) h P<0
   .simp only[if_neg E,if_pos c2]at x|-;have e:=pY b h z (dep+1);exact gf.bind (zL c d y z o r (dep+1) a.a aaU p.2.1 aaU x) (λf g=>tE _ _ _ _ _ _) λi F j G=>zH c d (aC.c7.mk a.r (qa y a.a) a.b) (by simp only[aC.size];omega) G (p.2.2.mono F) dep
   .simp only[if_neg E,if_neg c2]at x|-;have e:=pY b h C (dep+1);exact gf.bind (zL c d y C o r (dep+1) a.b aaU p.2.2 aaU x) (λf g=>tE _ _ _ _ _ _) λi F j G=>zH c d (aC.c7.mk a.r a.a (qa y a.b)) (by simp only[aC.size];omega) (p.2.1.mono F) G dep
def tG {b:Nat}{c:List Int}: ∀ {a:aC}{dep:Nat},(cp b c a dep).1.rows=a.rows
 | .nil,dep=>rfl
 | .node d live h k,dep=>by
  rw[cp];split
  .rfl
  split
  .show _::(_++ _)= _::(_++ _);rw[tG]
  .show _::(_++ _)= _::(_++ _);rw[tG]
def tH (a:a7.c7 e):(cp e q a7 i).1.c7 e:=λb c=>a b (by rwa[tG]at c)
def zM {c:Nat} (k:1<=c) (o:c<=8) {p:List Int}: ∀(d:aC) (h:ag) (x dep:Nat),d.c7 c->d.size<=1048576->ds h d->d.size<x->(cp c p d dep).2=true->gf h (cp c p d dep).1 (gC c p x h (bm d) dep)
 |d,h,0,dep,_,_,_,G,_=>by omega
 | .nil,h,x+1,dep,_,_,_,_,b=>by rw[cp]at b;cases b
 | .node L live y z,h,x+1,dep,a,C,r,G,b=>by
  have P:=C;simp only[aC.size]at P G;rw[gC,if_neg (vG k o a C),vH k o a C r]
  dsimp only
  rw[show [bm y,bm z].getD 0 az=bm y from rfl,show [bm y,bm z].getD 1 az=bm z from rfl];rw[cp]at b|-;by_cases D:L=p
  .simp only[if_pos D]at b|-;rw[if_pos b];exact rF k o (aC.c7.mk a.r a.a a.b) (by simp only[aC.size];omega) r.2.1 r.2.2
  .by_cases c2:cH (dep%c) p L<0
   .simp only[if_neg D,if_pos c2]at b|-;have S:=pZ c p y (dep+1);exact gf.bind (zM k o y h x (dep+1) a.a aaU r.2.1 aaU b) (λT V=>kc) λW E e F=>rF k o (aC.c7.mk a.r (tH a.a) a.b) (by simp only[aC.size];omega) F (r.2.2.mono E)
   .simp only[if_neg D,if_neg c2]at b|-;have S:=pZ c p z (dep+1);exact gf.bind (zM k o z h x (dep+1) a.b aaU r.2.2 aaU b) (λT V=>kc) λW E e F=>rF k o (aC.c7.mk a.r a.a (tH a.b)) (by simp only[aC.size];omega) (r.2.1.mono E) F
theorem zN {b:Nat} (h:1<=b) (k:b<=8) {o:List Int}{y:ag}: ∀(a:aC) (c dep:Nat),a.c7 b->a.size<=1048576->ds y a->a.size<c->(cp b o a dep).2=false->gC b o c y (bm a) dep=(.error 9,y)
 |a,0,dep,_,_,_,D,_=>by omega
 | .nil,c+1,dep,_,_,_,_,d=>by rw[gC];rfl
 | .node E live p r,c+1,dep,x,z,C,D,d=>by
  have G:=z;simp only[aC.size]at G D;rw[gC,if_neg (vG h k x z),vH h k x z C]
  dsimp only
  rw[show [bm p,bm r].getD 0 az=bm p from rfl,show [bm p,bm r].getD 1 az=bm r from rfl];rw[cp]at d;by_cases F:E=o;simp_all
  .by_cases c2:cH (dep%b) o E<0
   .simp only[if_neg F,if_pos c2]at d|-;rw[zN h k p c (dep+1) x.a aaU C.2.1 aaU d]
   .simp only[if_neg F,if_neg c2]at d|-;rw[zN h k r c (dep+1) x.b aaU C.2.2 aaU d]
def a3p (a:1<=e) (b:e<=8) (d:bN e q) (c:a7.c7 e) (h:a7.size+1<=1048576) (k:ds H a7) (o:(cV e q a7 0).2=true):gf H (cV e q a7 0).1 (rE e q H (bm a7)):=by have:=(ez a b c aaU).size;exact zL a b d a7 H _ 0 c h k aaU o
theorem a3q (a:1<=e) (b:e<=8) (c:a7.c7 e) (d:a7.size<=1048576) (h:ds H a7) (k:(cp e q a7 0).2=false):jt e q H (bm a7)=(.error 9,H):=by have:=(ez a b c d).size;grind[jt,zN]
theorem a3r (b:1<=e) (c:e<=8) (a:a7.c7 e) (d:a7.size<=1048576) (x:ds H a7) (h:(cp e q a7 0).2=true):gf H (lE e q a7).1 (jt e q H (bm a7)):=by
 have y:=(ez b c a d).size;have z:=pZ e q a7 0;have k:=tH (q:=q) (i:=0) a;have o:=ez b c k aaU;have C:=o.size;have D:=o.live;unfold jt;refine gf.bind (zM b c a7 H _ 0 a d x aaU h) (λE F=> ?_) λG L P p=> ?_;grind[vJ,ag.le_refl]
 .unfold lE;by_cases r:2*(cp e q a7 0).1.all.length<(cp e q a7 0).1.size
  .rw[if_pos (show(cp e q a7 0).2=true/\2*(cp e q a7 0).1.all.length<(cp e q a7 0).1.size from⟨h,r⟩),if_pos (show 2*(bm (cp e q a7 0).1).live<(bm (cp e q a7 0).1).size by omega)];exact Gw b c k aaU p 0
  .rw[if_neg (show¬((cp e q a7 0).2=true/\2*(cp e q a7 0).1.all.length<(cp e q a7 0).1.size)from λa=>r a.2),if_neg (show¬2*(bm (cp e q a7 0).1).live<(bm (cp e q a7 0).1).size by omega)];exact⟨ag.le_refl,λ_=>⟨rfl,p⟩⟩
def aC.kT (a:Nat):aC->Nat->Prop
 | .nil,_=>True
 | .node c _ d h,dep=>(∀b∈d.rows,cH (dep%a) b c<0)/\(∀b∈h.rows,cH (dep%a) c b<0)/\d.kT a (dep+1)/\h.kT a (dep+1)
def aC.rH {c:Nat}: ∀ {k:aC}{dep:Nat},k.c7 c->k.kT c dep->k.all.Pairwise (·≠ ·)
 | .nil,_,_,_=> .nil
 | .node y live D E,dep,b,⟨h1,r,z,C⟩=>by
  have o:=q7 c (dep%c);rw[aC.all];refine a7G.2 ⟨a7G.2 ⟨aC.rH b.a z,aC.rH b.b C,λd a x h p=> ?_⟩,by cases live<;>simp,λd a x h p=> ?_⟩
  .subst p;exact o.zz (b.a d (aC.gD a)).len b.r.len (h1 d (aC.gD a)) (r d (aC.gD h))
  .obtain rfl:x=y:=by cases live<;>simp at h;exact h
   subst p;rcases a6L.1 a with a|a
   .exact o.jR _ b.r.len (h1 _ (aC.gD a))
   .exact o.jR _ b.r.len (r _ (aC.gD a))
variable{O:List (List Int)}
theorem Gx (a:e<O.length):O=O.take e++O.getD e []::O.drop (e+1):=by simp_all
theorem vK {h:Nat}: ∀(c:Nat) (a:List (List Int)) (dep:Nat),a.length<=c->(∀b∈a,b.length=h)->(fR h c a dep).all.Perm a
 |0,a,dep,x,_=>by
  obtain rfl:a= []:=a6F aaU;rfl
 |c+1,a,dep,x,p=>by
  rw[fR];by_cases k:a= []
  .rw[if_pos k,k];rfl
  rw[if_neg k];have y:=a7B.2 k;have r:=(tC (e:=dep%h) p).1;have z:=r.length_eq;have hm:=λb d=>p b (r.mem_iff.1 d);generalize ed (dep%h) a=o at*;have C:=Gx (O:=o) (e:=a.length/2) aaU;have D:=vK c (o.take (a.length/2)) (dep+1) (by rw[a6C];omega) λb d=>hm b (a6M d);have E:=vK c (o.drop (a.length/2+1)) (dep+1) (by rw[a6R];omega) λb d=>hm b (a7e d);rw[aC.all,if_pos rfl];grind
def zO (a:a7.c7 e):(hJ e a7 i).all.Perm a7.all:=by
 unfold hJ;split
 .rfl
 .split
  .exact vK _ _ _ (a7g _) λb c=>(a b (aC.gD c)).len
  .rfl
theorem zP {d:Nat}{b:List Int} (h:bN d b): ∀ {k:aC}{dep:Nat},k.c7 d->(cV d b k dep).2=true->(cV d b k dep).1.all.Perm (b::k.all)
 | .nil,dep,_,_=> .refl _
 | .node p live x y,dep,a,c=>by
  rw[cV]at c|-;by_cases o:p=b
  .simp only[if_pos o]at c|-;have r:live=false:=by simp_all
   refine(zO (aC.c7.mk a.r a.a a.b)).trans ?_;simp only[aC.all,if_pos,r,o];grind
  .by_cases c2:cH (dep%d) b p<0
   .simp only[if_neg o,if_pos c2]at c|-;refine(zO (aC.c7.mk a.r (qa h a.a) a.b)).trans ?_;exact((zP h a.a c).append_right _).append_right _
   .simp only[if_neg o,if_neg c2]at c|-;refine(zO (aC.c7.mk a.r a.a (qa h a.b))).trans ?_;refine(((zP h a.b c).append_left _).append_right _).trans ?_;exact a9c.append_right _
theorem zQ {c:Nat}{b:List Int}: ∀ {d:aC}{dep:Nat},(cV c b d dep).2=false->b∈d.all
 | .nil,dep,a=>by rw[cV]at a;cases a
 | .node h live o p,dep,a=>by
  rw[cV]at a;simp only[aC.all,a6L];by_cases k:h=b;simp_all
  .by_cases c2:cH (dep%c) b h<0
   .simp only[if_neg k,if_pos c2]at a;exact .inl (.inl (zQ a))
   .simp only[if_neg k,if_neg c2]at a;exact .inl (.inr (zQ a))
theorem vL {d:Nat}{b:List Int}: ∀ {h:aC}{dep:Nat},(cp d b h dep).2=true->h.all.Perm (b::(cp d b h dep).1.all)
 | .nil,dep,a=>by rw[cp]at a;cases a
 | .node k live o p,dep,a=>by
  rw[cp]at a|-;by_cases c:k=b
  .simp only[if_pos c]at a|-;simp only[aC.all,if_pos a,c];grind
  .by_cases c2:cH (dep%d) b k<0
   .simp only[if_neg c,if_pos c2]at a|-;exact((vL a).append_right _).append_right _
   .simp only[if_neg c,if_neg c2]at a|-;refine(((vL a).append_left _).append_right _).trans ?_;exact a9c.append_right _
theorem zR {b:Nat}{d:List Int} (k:d.length=b): ∀ {o:aC}{dep:Nat},o.c7 b->o.kT b dep->(cp b d o dep).2=false->d∉o.all
 | .nil,dep,_,_,_=>λh=>by cases h
 | .node r live E F,dep,h,⟨h1,y,C,D⟩,c=>by
  have x:=q7 b (dep%b);intro a;rw[cp]at c;simp only[aC.all,a6L]at a;by_cases p:r=d
  .simp only[if_pos p]at c;subst p;rcases a with (a|a)|a
   .exact x.jR _ k (h1 _ (aC.gD a))
   .exact x.jR _ k (y _ (aC.gD a))
   .rw[c]at a;simp at a
  .have z:d∉(if live=true then [r]else []):=λh=>by
    simp_all
   by_cases c2:cH (dep%b) d r<0
   .simp only[if_neg p,if_pos c2]at c;rcases a with (a|a)|a
    .exact zR k h.a C c a
    .exact x.zz k h.r.len c2 (y _ (aC.gD a))
    .exact z a
   .simp only[if_neg p,if_neg c2]at c;rcases a with (a|a)|a
    .exact c2 (h1 _ (aC.gD a))
    .exact zR k h.b D c a
    .exact z a
theorem vM {a:Nat}: ∀(p:Nat) (c:List (List Int)) (dep:Nat),(∀b∈c,b.length=a)->c.Pairwise (·≠ ·)->(fR a p c dep).kT a dep
 |0,_,_,_,_=>trivial
 |p+1,c,dep,z,D=>by
  rw[fR];by_cases r:c= []
  .rw[if_pos r];trivial
  rw[if_neg r];have g:=a7B.2 r;obtain⟨x,E⟩:=tC (e:=dep%a) z;have i:=x.length_eq;have hm:=λb d=>z b (x.mem_iff.1 d);have y:(ed (dep%a) c).Pairwise (·≠ ·):=x.symm.pairwise D λk=>k.symm;have F:=q7 a (dep%a);have C:(ed (dep%a) c).Pairwise (λG L=>cH (dep%a) G L<0):=by
   refine aag ?_ (E.and y);intro h b o d j;rcases F.tB h b (hm h o) (hm b d)with k|k|k
   .exact k
   .simp_all
   .omega
  generalize ed (dep%a) c=P at*;have S:=Gx (O:=P) (e:=c.length/2) aaU;rw[S]at C y;obtain⟨l,T,V⟩:=a7G.1 C;obtain⟨W,m⟩:=a7i.1 T;obtain⟨e,f,_⟩:=a7G.1 y;refine⟨λh o=>V h (rG o) _ aaV,λh o=>W h (rG o),?_,?_⟩
  .exact vM p _ _ (λb d=>hm b (a6M d)) e
  .exact vM p _ _ (λb d=>hm b (a7e d)) (a7i.1 f).2
def zS (a:a7.c7 e) (b:a7.kT e i):(hJ e a7 i).kT e i:=by
 unfold hJ;split
 .trivial
 .split
  .exact vM _ _ _ (λc d=>(a c (aC.gD d)).len) (aC.rH a b)
  .exact b
theorem zT {c:Nat}{k:List Int} (h:bN c k): ∀ {o:aC}{dep:Nat},o.c7 c->o.kT c dep->(cV c k o dep).1.kT c dep
 | .nil,dep,_,_=>⟨λd b=>(by cases b),λd b=>(by cases b),trivial,trivial⟩
 | .node p live D E,dep,a,⟨h1,r,x,y⟩=>by
  have C:=q7 c (dep%c);rw[cV];by_cases z:p=k
  .simp only[if_pos z];exact zS (aC.c7.mk a.r a.a a.b) ⟨h1,r,x,y⟩
  .by_cases c2:cH (dep%c) k p<0
   .simp only[if_neg z,if_pos c2];refine zS (aC.c7.mk a.r (qa h a.a) a.b) ⟨λd b=> ?_,r,zT h a.a x,y⟩;rcases tF b with rfl|b
    .exact c2
    .exact h1 d b
   .simp only[if_neg z,if_neg c2];refine zS (aC.c7.mk a.r a.a (qa h a.b)) ⟨h1,λd b=> ?_,x,zT h a.b y⟩;rcases tF b with rfl|b
    .rcases C.tB d p h.len a.r.len with a|a|a
     .trivial
     .simp_all
     .exact a
    .exact r d b
def zU {a:Nat}{k:List Int}: ∀ {b:aC}{dep:Nat},b.kT a dep->(cp a k b dep).1.kT a dep
 | .nil,dep,_=>trivial
 | .node o live p r,dep,⟨h1,c,d,h⟩=>by
  rw[cp];split
  .trivial
  split
  .exact⟨by rw[tG];exact h1,c,zU d,h⟩
  .exact⟨h1,by rw[tG];exact c,d,zU h⟩
structure lM (d n:Nat) (t:aC):Prop where
 eW:t.c7 d
 vN:t.kT d 0
 cf:t.size<=n
theorem lM.nil {a n:Nat}:lM a n .nil:=⟨λc b=>(by cases b),trivial,a7b _⟩
def lM.ins (a:lM e i a7) (b:bN e q):lM e (i+1) (cV e q a7 0).1:=⟨qa b a.eW,zT b a.eW a.vN,by have:=pY e q a7 0;have:=a.cf;omega⟩
theorem lM.del (b:lM e i a7):lM e i (lE e q a7).1:=by
 have a:=tH (q:=q) (i:=0) b.eW;have c:=zU (k:=q) b.vN;have p:=pZ e q a7 0;have r:=lD (cp e q a7 0).1;have x:=b.cf;unfold lE;split
 .refine⟨zF _ _ _ λd h=>a d (aC.gD h),vM _ _ _ (λk o=>(a k (aC.gD o)).len) (aC.rH a c),?_⟩;grind[rm,cp]
 .exact⟨a,c,aaU⟩
def a3s (a:lM e i a7) (b:(cp e q a7 0).2=true):a7.all.Perm (q::(lE e q a7).1.all):=by
 have c:=tH (q:=q) (i:=0) a.eW;refine(vL b).trans (.cons _ ?_);unfold lE;split
 .exact(vK _ _ _ (a7g _) λd h=>(c d (aC.gD h)).len).symm
 .rfl
theorem dY.cells {b:aU}{a:R} (c:dY b a):a.cells.length=76:=by obtain⟨T,rfl,d⟩:=c;exact d.all.1
theorem zV (o:List aU) (a:List R) (c:Own) (b:U) (p:aB dY o a) (F:o.length<=1000):
  AC Tryz.prog 161 [.J a c] b λr d=>av b d 76 (flat a) r:=by
 have G:=p.len;refine nm λL=> ?_;have y:c= .nil->a= []:=λh=>by subst h;simp_all
 have x:=p.cells λ_ _=>dY.cells;have P:=cR x;refine bc hm Pk aaV ?_;simp -dsimp -implicitDefEqProofs (disch:=first|omega|assumption|(simp only[bd,Nat.reduceAdd];try omega)) only[go_sem,simprocAttr,↓oo];refine oq (λk=>by rw[y k]) (λk=> ?_) ?_
 .have z:a= []:=by trivial
  subst z;refine aF @a7u ?_;exact⟨b,U.a6,av.nil U.a6⟩
 .refine aF @oc ?_;have C:bV b 76 (.J a c)=some (a.length,flat a):=by have D:=a6P.2 λh E=>decide_eq_true (x h E);simp only[bV,D,if_true]
  refine fb (av.zero (U.a6)) aaU C aaU (by simp only[a6G];omega) (by simp only[a6G];omega) λr d k=> ?_;refine ei ?_;exact⟨d,U.a6,by trivial⟩
theorem a3t (t k:U) (h:List R) (f:R) (y:av t k 76 h f) (G:Nat) (L:h.length=G*76) (a:Nat) (l9:a<=G) (n0:G<=1000) (o:List R) (u:o.length=76) (z:Nat) (v:t z=some (.cells o)):
  AC Tryz.prog 160 [f,.v (.int .i64 (a:Int)),.ao z 1 1 76] k λk4 P=>av t P 76 (h.take (a*76)++(o++h.drop (a*76))) k4:=by
 have S:=y.1 _ _ v;have g:((1:Nat):Int)=1:=rfl;have w: ∀P:U,P z=some (.cells o)->bV P 76 (.ao z 1 1 76)=some (1,o):=λP y=>by
  simp_all [bV,U.ae,a6z]
 by_cases c1:a=G
 .subst c1;obtain⟨e,E,wl⟩: ∃e,cn 76 f (some (.v (.int .i64 (a:Int)))) none none=some e/\fa f=some (.v (.int .i64 (a:Int))):=by
   rcases y.2 with ⟨i,rfl|rfl⟩|⟨c,b,d,r,rfl,j,C,l,m,k5,A,X⟩
   .rw[i]at L;obtain rfl:a=0:=by rw[a6G]at L;omega
    exact⟨_,Xw,rfl⟩
   .rw[i]at L;obtain rfl:a=0:=by rw[a6G]at L;omega
    exact⟨_,Xv,rfl⟩
   .obtain rfl:b=a:=aaU;obtain⟨e,E,_⟩:=oG (i:=76) (j2:=c) (e1:= .i64) aaU A;exact⟨e,E,rfl⟩
  refine bc hm C1 aaV ?_;simp -dsimp -implicitDefEqProofs (disch:=first|omega|assumption|(simp only[bd,Nat.reduceAdd];try omega)) only[go_sem,simprocAttr,↓eu,E,wl,g];refine fb y aaU (w k S) aaU aaU aaU λn1 P n2=> ?_;refine CV ?_;grind[U.a6,List.take_of_length_le,List.drop_eq_nil_of_le]
 have n3:a<G:=aaU;obtain⟨c,b,d,r,rfl,j,C,l,m,k5,A,X⟩:=y.ao (λi=>by rw[i]at L;simp at L;omega);obtain rfl:b=G:=aaU;have Y:c≠z:=by rintro rfl;rw[j]at v;cases v
 have B: ¬(a)=(b:Int):=aaU;refine bc hm C1 aaV ?_;obtain⟨e,E,_,Z⟩:=oG (i:=76) (j2:=c) (e1:= .i64) aaU A;have n4:=Z k r h C aaU m;have j9:(h.drop (a*76)).length=(b - a)*76:=by rw[a6R];omega
 have k6:r.take (a*76)=h.take (a*76):=by grind
 by_cases c2:(d)<(b:Int)+1
 .have n:cn 76 (.ao c b d 76) none (some (.v (.int .i64 (a)))) none=some (.ao c a d 76):=hU aaU;have k0:(b)+1 -(a)=((b+1 - a:Nat):Int):=aaU;refine dG (bx @E @B @g @c2 @n @k0) ?_;refine xz C l aaU aaU aaU λp D k7 q s k8 k1=> ?_;have k9:a+(b+1 - a)=b+1:=aaU;rw[k9]at s k1|-;generalize l0:List.replicate (b+1 - a) _=k2;have l1:k2.flatten.length=(b+1 - a)*76:=by rw[<-l0,lk];rfl
  have l2:p≠c:=by rintro rfl;rw[q]at C;cases C
  have l3:p≠z:=by rintro rfl;rw[q]at S;cases S
  obtain⟨F,k3⟩: ∃F,F=r.take (a*76)++k2.flatten++k7:=⟨_,rfl⟩;have l4:F.length=D*76:=by rw[k3,a6A,a6A,l1,a6C,k1];omega
  have l5:F.take (a*76)=h.take (a*76):=by simp_all
  rw[<-k3];have H:cn 76 (.ao p (b+1) D 76) (some (.v (.int .i64 (a)))) none none=some (.bE p (a*76) (b+1 - a) (D - a) 76):=gm aaU s aaU;have I:cn 76 (.ao p (b+1) D 76) (some (.v (.int .i64 ((a)+1)))) none none=some (.bE p (a*76+76) (b - a) (D -(a+1)) 76):=by have:=gm (i:=76) (b9:=p) (e:=a+1) (e1:= .i64) aaU s aaU;grind
  have K:(k.set p (.cells F)) z=some (.cells o):=by rw[U.an _ _ (a6I l3)];exact S
  have T:=hy (M:=a*76) (j2:=D - a) (i:=b+1 - a) (w _ K) (U.ai k p (.cells F)) aaU;have M:o.take ((b+1 - a)*76)=o:=a6z aaU;rw[M]at T;obtain⟨x,V⟩: ∃x,x=putAt F (a*76) o:=⟨_,rfl⟩;have N:x.length=D*76:=by rw[V,eI _ _ _ aaU,l4]
  rw[<-V]at T;have l6:(k.set p (.cells x)) c=some (.cells r):=by rw[U.an _ _ (a6I l2)];exact C
  have O:=Z _ r h l6 aaU m;have W:=hy (M:=a*76+76) (j2:=D -(a+1)) (i:=b - a) O (U.ai k p (.cells x)) aaU;have Q:(h.drop (a*76)).take ((b - a)*76)=h.drop (a*76):=a6z aaU;rw[Q]at W;refine dG (fA @E @B @g @c2 @n @k0 @H @I @T @W @U.set_set) ?_;refine⟨_,U.a6,U.af y.1 (U.bI y.1 q),.inr ⟨p,b+1,D,_,rfl,U.bI y.1 q,U.ai _ _ _,?_,?_,?_,s,k8⟩⟩
  .rw[eI _ _ _ aaU,N]
  .have:=(pP l5 u j9 aaU).2;rw[show(b+1)*76=a*76+76+(b - a)*76 by omega,V];exact this
  grind
 .have n:cn 76 (.ao c b d 76) none (some (.v (.int .i64 ((b)+1)))) none=some (.ao c (b+1) d 76):=by rw[show(b)+1=((b+1:Nat):Int) by omega];exact hU aaU
  have H:cn 76 (.ao c (b+1) d 76) (some (.v (.int .i64 (a)))) none none=some (.bE c (a*76) (b+1 - a) (d - a) 76):=gm aaU aaU aaU;have I:cn 76 (.ao c (b+1) d 76) (some (.v (.int .i64 ((a)+1)))) none none=some (.bE c (a*76+76) (b - a) (d -(a+1)) 76):=by have:=gm (i:=76) (b9:=c) (v:=b+1) (M:=d) (e:=a+1) (e1:= .i64) aaU aaU aaU;grind
  have l7:r≠ []:=by rintro rfl;simp at l;omega
  have l8:lh (.ao z 1 1 76) (.bE c (a*76+76) (b - a) (d -(a+1)) 76) k=some (.v (.bool false)):=xy rfl rfl (a6I Y) (qU S (by rintro rfl;simp at u)) (qU C l7);have O:bV k 76 (.bE c (a*76) (b+1 - a) (d - a) 76)=some (b+1 - a,(r.drop (a*76)).take ((b+1 - a)*76)):=by simp only[bV,U.ae C];grind
  have W:=hy (M:=a*76+76) (j2:=d -(a+1)) (i:=b - a) O C aaU;have Q:((r.drop (a*76)).take ((b+1 - a)*76)).take ((b - a)*76)=h.drop (a*76):=by rw[a7N,<-m,a7T];congr 1;omega
  rw[Q]at W;obtain⟨x,V⟩: ∃x,x=putAt r (a*76+76) (h.drop (a*76)):=⟨_,rfl⟩;rw[<-V]at W;have N:x.length=r.length:=by rw[V,eI _ _ _ aaU]
  have K:(k.set c (.cells x)) z=some (.cells o):=by rw[U.an _ _ (a6I Y)];exact S
  have T:=hy (M:=a*76) (j2:=d - a) (i:=b+1 - a) (w _ K) (U.ai k c (.cells x)) aaU;have M:o.take ((b+1 - a)*76)=o:=a6z aaU;rw[M]at T;refine dG (fA @E @B @g @c2 @n @H @I @l8 @W @T @U.set_set) ?_;refine⟨_,U.a6,U.af y.1 j,.inr ⟨c,b+1,d,_,rfl,j,U.ai _ _ _,?_,?_,?_,aaU,X⟩⟩
  .rw[eI _ _ _ aaU,N,l]
  .have:=(pP k6 u j9 aaU).1;grind
  grind
variable{g B c0:List R}{e3:List aU}
theorem a3u (c:aB dY e3 g): ∀a∈g,∃b,a= .agg b/\b.length=76:=λa d=>by
 obtain⟨k,_,T,rfl,h⟩:=c.mem d;exact⟨T,rfl,h.all.1⟩
variable{n b6:R}{f s e0:U}
theorem av.a3v (b:av f s 76 (flat g) n) (c:aB dY e3 g): ∃a,View s n a (.J g .any)/\f.sub a:=by obtain⟨h,a,d,k,o⟩:=View.dv b;rw[cR (c.cells λ_ _=>dY.cells)]at d;grind[ym,a3u]
def cW (a:List aU) (b:List UInt8):Nat:=(a.takeWhile λc=>c8 c.name b).length
def Gy: ∀ {c:List aU}{b:List UInt8}{d:Nat},Place c b d->d=cW c b
 | [],b,d,a=>by have:=a.1;simpa[cW] using this
 |o::c,b,0,a=>by
  have:=a.2.2 0 aaV aaU;simp only[a7h]at this;simp[cW,this]
 |o::c,b,d+1,a=>by
  have k:=a.2.1 0 aaU;simp only[a7h]at k;have:=Gy ⟨by have:=a.1;simpa using this,λh p=>by have:=a.2.1 (h+1) aaU;trivial,λh p r=>by have:=a.2.2 (h+1) aaW aaU;trivial⟩;simp only[cW,a7U,k,if_true,a6E];rw[this];rfl
def gE (a:List aU) (b:List UInt8):Bool:=decide (cW a b<a.length)&&decide ((a.getD (cW a b) default).name=b)
theorem zX {c:List aU} (d:cI c=true): ∀b a,b<a->a<c.length->c8 (c.getD b default).name (c.getD a default).name=true
 |b,0,h1,_=>by omega
 |b,a+1,h1,p=>by
  have h:=d;simp only[cI,a6B,a6P,a7O,a8l,decide_eq_true_eq]at h;have k:=(h.1 (a+1) p).2.resolve_left aaU;rw[Nat.add_sub_cancel]at k;rcases aaT b a with o|o
  .exact vB _ _ _ (zX d b a o aaU) k
  grind
def zY (a:List aU) (c:List R) (h:Own) (b:List UInt8) (r:aB dY a c) (k:cI a=true) (d:U):
  AC Tryz.prog 159 [.J c h,bn b] d λo p=>p=d/\o= .aJ [.v (.int .i64 (cW a b:Int)),.v (.bool (gE a b))]:=by
 have z:a.length<=8:=by simp only[cI,a6B,decide_eq_true_eq]at k;omega
 refine(a2H a c h b r aaU (zX k) d).mono λo p x=> ?_;obtain⟨C,D,y,rfl⟩:=x;obtain rfl:=Gy y;trivial
def vO (d:Except Int (List aU)) (a:R):Prop:=
 match d with
 | .error b=>b≠0/\a= .aJ [.J [] .nil,.v (.int .i64 b)]
 | .ok h=> ∃c,aB dY h c/\a= .aJ [.J c .any,.v (.int .i64 0)]
def ke (a:List aU) (b:aU):Except Int (List aU):=
 if(cI a&&fU b)=true then(if gE a b.name=true then .error 4 else if 8<=a.length then .error 10 else .ok (a.take (cW a b.name)++b::a.drop (cW a b.name)))else .error 1
def kf (a:List aU) (b:aU):Except Int (List aU):=
 if(cI a&&fU b)=true then(if gE a b.name=true then .ok (a.set (cW a b.name) b)else .error 3)else .error 1
def tI (a b:U) (o:Except Int (List aU)) (c:R):Prop:=
 match o with
 | .error d=>a.sub b/\d≠0/\c= .aJ [.J [] .nil,.v (.int .i64 d)]
 | .ok p=> ∃h k,aB dY p k/\av a b 76 (flat k) h/\c= .aJ [h,.v (.int .i64 0)]
def tI.zZ {a:Except Int (List aU)} (b:tI f s a n): ∃c d,View s n d c/\f.sub d/\vO a c:=by
 cases a with
 |error x=>exact⟨_,_,View.refl,b.1,b.2⟩
 |ok y=>obtain⟨z,k,h,o,rfl⟩:=b;obtain⟨C,p,r⟩:=av.a3v o h;exact⟨_,_,View.aJ (a:= []) p,r,k,h,rfl⟩
def a3w (a:List aU) (b:List UInt8):cW a b<=a.length:=by unfold cW;have:=congrArg List.length (a7t (p:=λc:aU=>c8 c.name b) (l:=a));rw[a6A]at this;omega
def a3x (a:List aU) (d:List R) (r:Own) (b:aU) (c:List R) (D:eF b c) (V:b.Fit) (p:aB dY a d) (L: ∀b∈a,b.Fit) (W:a.length<=1000) (x:U):
  AC Tryz.prog 99 [.J d r,.agg c] x λz E=>x.sub E/\vO (ke a b) z:=by
 have q:AC Tryz.prog 99 [.J d r,.agg c] x λz E=>tI x E (ke a b) z:= ?_
 .exact q.view λz E s=>s.zZ
 have t:=p.len;obtain⟨e,Q,X,Y,Z,j9,k0,k1,k2,k3,k4,k5,k6⟩:=D.all;refine aK hm NC ?_;refine bp λf u=> ?_;have C:=U.af (X:= .cells c) (U.a6) u;have aE:=U.ai x f (.cells c);generalize x.set f _=o at*;have v:=U.ae aE;have h:(if(cI a&&fU b)=true then(if gE a b.name=true then .error 4 else if 8<=a.length then .error 10 else .ok (a.take (cW a b.name)++b::a.drop (cW a b.name)))else .error 1)=ke a b:=rfl;generalize ke a b=k7 at*;cases P:cI a with
 |false=>rw[if_neg (by rw[P];simp)]at h;refine bk (nR a d r p L aaU o) ?_;rw[<-h];exact⟨_,U.a6,C,aaY,rfl⟩
 |true=>
 cases g:fU b with
 |false=>rw[if_neg (by rw[g];simp)]at h;refine bk (nR a d r p L aaU o) ?_;refine bk (rB b c D V o) ?_;rw[<-h];exact⟨_,U.a6,C,aaY,rfl⟩
 |true=>
 rw[if_pos (by rw[P,g];rfl)]at h;refine bk (nR a d r p L aaU o) ?_;refine bk (rB b c D V o) ?_;have F:=zY a d r b.name p P o;have w:=a3w a b.name;generalize cW a b.name=k at*;cases G:gE a b.name with
 |true=>rw[if_pos G]at h;rw[G]at F;refine bk F ?_;rw[<-h];exact⟨_,U.a6,C,aaY,rfl⟩
 |false=>
 rw[if_neg (by rw[G];simp)]at h;rw[G]at F;refine bk F ?_;refine aH (λA=> ?_) λA=> ?_
 .rw[if_pos aaU]at h;rw[<-h];exact⟨_,U.a6,C,aaY,rfl⟩
 rw[if_neg aaU]at h;have i:aW 76 [R.agg c]:=λj B=>by rw[a6U.1 B];exact e
 refine(sc (eK i aaV λy k8=>trivial)).mpr ?_;have v:=U.ae aE;refine aa ?_;refine ah (zV a d r o p W) ?_;intro l m S;have k9:=U.ae (S.1 _ _ aE);refine aa ?_;have H:flat [R.agg c]=c:=by simp[flat,R.cells]
 refine eK i aaV λy n=> ?_;rw[H];have T:=p.cells λ_ _=>dY.cells;have I:av (o.set y (.cells c)) (m.set y (.cells c)) 76 (flat d) l:=S.new n;have K:(flat d).length=a.length*76:=by rw[cR T,t]
 have M:=a3t (o.set y (.cells c)) (m.set y (.cells c)) (flat d) l I a.length K k w W c e y (U.ai _ _ _);refine aa ?_;refine ah M ?_;intro z l0 N;refine aa ?_;refine⟨_,U.a6,?_⟩;rw[<-h];have O:x.sub (o.set y (.cells c)):=U.af C (U.bI C (U.bI S.1 n));refine⟨z,d.take k++ .agg c::d.drop k,(p.take k).append ⟨⟨c,rfl,D⟩,p.drop k⟩,?_,rfl⟩;have j:flat (d.take k++ .agg c::d.drop k)=(flat d).take (k*76)++(c++(flat d).drop (k*76)):=by rw[(fX k T).1,(fX k T).2];simp[flat,R.cells]
 rw[j];exact N.base O
theorem av.lU (c:av s f e (flat g) n) (d:aW e g) (y:0<e) (o:i<g.length) (p:B.length=e):
  ∃b h a,n= .ao b g.length h e/\f b=some (.cells a)/\i*e+e<=a.length/\av s (f.set b (.cells (putAt a (i*e) B))) e (flat (g.set i (.agg B))) n:=by
 have z:=cR d;have C:(i+1)*e<=g.length*e:=a6O _ o;rw[a7I,a9v]at C;obtain⟨b,D,h,a,rfl,r,E,F,G,W,x,L⟩:=c.ao (λk=>by rw[k,a6G]at z;omega);obtain rfl:D=g.length:=a8Y y aaU;have j:=a6O e x;refine⟨b,h,a,rfl,E,aaU,U.af c.1 r,.inr ⟨b,g.length,h,_,rfl,r,U.ai _ _ _,?_,?_,?_,x,L⟩⟩
 .rw[eI _ _ _ aaU,F]
 .have P:g.set i (.agg B)=g.take i++ .agg B::g.drop (i+1):=a7R .. |>.trans (by rw[if_pos o])
  have S:flat (g.take i++ .agg B::g.drop (i+1))=(flat g).take (i*e)++(B++(flat g).drop ((i+1)*e)):=by rw[(fX (i+1) d).1,(fX i d).2];simp[flat,R.cells]
  have l:(a.take (i*e)).length=i*e:=by rw[a6C];omega
  have T:(i+1)*e=i*e+e:=by grind
  rw[P,S,putAt,p,<-G,a7N,a8k aaU,T,a7T];have m:(a.take (i*e)++B).length=i*e+e:=by simp_all
  have q:g.length*e=(i*e+e)+(g.length*e -(i*e+e)):=aaU;grind
 .rw[cR (d:=e)]
  .simp
  .intro k V;rcases a8J V with c|rfl
   .exact d k c
   .exact p
theorem a3y (a:List aU) (c:List R) (o:Own) (b:aU) (d:List R) (z:eF b d) (S:b.Fit) (k:aB dY a c) (L: ∀b∈a,b.Fit) (g:a.length<=1000) (r:U):
  AC Tryz.prog 166 [.J c o,.agg d] r λC D=>r.sub D/\vO (kf a b) C:=by
 have i:AC Tryz.prog 166 [.J c o,.agg d] r λC D=>tI r D (kf a b) C:= ?_
 .exact i.view λC D E=>E.zZ
 have j:=k.len;obtain⟨l,u,v,w,A,B,H,I,K,M,N,O,Q⟩:=z.all;refine aK hm Pu ?_;refine bp λT m=> ?_;have F:=U.af (X:= .cells d) (U.a6) m;have aE:=U.ai r T (.cells d);generalize r.set T _=p at*;have X:=U.ae aE;have h:(if(cI a&&fU b)=true then(if gE a b.name=true then .ok (a.set (cW a b.name) b)else .error 3)else .error 1)=kf a b:=rfl;generalize kf a b=Y at*;cases P:cI a with
 |false=>rw[if_neg (by rw[P];simp)]at h;refine bk (nR a c o k L aaU p) ?_;rw[<-h];exact⟨_,U.a6,F,aaY,rfl⟩
 |true=>
 cases V:fU b with
 |false=>rw[if_neg (by rw[V];simp)]at h;refine bk (nR a c o k L aaU p) ?_;refine bk (rB b d z S p) ?_;rw[<-h];exact⟨_,U.a6,F,aaY,rfl⟩
 |true=>
 rw[if_pos (by rw[P,V];rfl)]at h;refine bk (nR a c o k L aaU p) ?_;refine bk (rB b d z S p) ?_;have G:=zY a c o b.name k P p;have W:gE a b.name=true->cW a b.name<a.length:=λE=>by
  simp only[gE,a6B,decide_eq_true_eq]at E;exact E.1
 generalize cW a b.name=x at*;cases y:gE a b.name with
 |false=>rw[if_neg (by rw[y];simp)]at h;rw[y]at G;refine bk G ?_;rw[<-h];exact⟨_,U.a6,F,aaY,rfl⟩
 |true=>
 rw[if_pos y]at h;rw[y]at G;have W:=W y;refine bk G ?_;refine ah (zV a c o p k g) ?_;intro Z j9 e;have n:=k.cells λ_ _=>dY.cells;obtain⟨f,q,k0,rfl,s,k1,t⟩:=av.lU e n aaU (i:=x) aaU l;have k2:=U.ae (e.1 _ _ aE);have k3:cC 76 (.ao f c.length q 76) (.v (.int .i64 (x)))=some (.ptr f (x*76)):=by grind[jJ,Int.toNat_natCast]
 have k4:=U.aI s;refine aa ?_;refine⟨_,U.a6,?_⟩;rw[<-h];exact⟨_,c.set x (.agg d),k.set x ⟨d,rfl,z⟩,t.base F,by rw[j]⟩
theorem a3z (F o:U) (d:List R) (G:R) (L:av F o 76 d G) (r:Nat) (P:d.length=r*76) (a:Nat) (O:a<r) (Q:r<=1000):
  AC Tryz.prog 162 [G,.v (.int .i64 (a:Int)),.v (.int .i64 ((a:Int)+1))] o λi j=>av F j 76 (d.take (a*76)++d.drop ((a+1)*76)) i:=by
 obtain⟨c,b,k,x,rfl,S,T,l,V,m,C,n⟩:=L.ao (λq=>by rw[q,a6G]at P;omega);obtain rfl:b=r:=aaU;refine bc hm Pm aaV ?_;have s:(a)+1=((a+1:Nat):Int):=aaU;rw[s];obtain⟨X,t⟩:=Ez (M:=76) (a:=c) (b:=b) (j2:=a) (e:=a+1) (e1:= .i64) (c:= .i64) (d:= .i64) aaU aaU C;have u:cn 76 (.ao c b k 76) none (some (.v (.int .i64 (a)))) none=some (.ao c a k 76):=hU aaU;obtain⟨Y,v,_,D⟩:=oG (i:=76) (j2:=c) (e:=a+1) (e1:= .i64) aaU C;have D:=D o x d T aaU V;have w: ¬(a)=((a+1:Nat):Int):=aaU;simp -dsimp -implicitDefEqProofs (disch:=first|omega|assumption|(simp only[bd,Nat.reduceAdd];try omega)) only[go_sem,simprocAttr,↓eu,t,u,v,w];refine uY T l D aaU aaU aaU ?_;have A:a+(b -(a+1))=b - 1:=aaU;rw[A];have W:(d.drop ((a+1)*76)).length=(b -(a+1))*76:=by rw[a6R];omega
 obtain⟨h,y⟩: ∃h,h=putAt x (a*76) (d.drop ((a+1)*76)):=⟨_,rfl⟩;have E:h.length=k*76:=by rw[y,eI _ _ _ aaU];omega
 have B:h.take ((b - 1)*76)=d.take (a*76)++d.drop ((a+1)*76):=by
  rw[y,putAt];have H:(x.take (a*76)).length=a*76:=by rw[a6C];omega
  rw[show(b - 1)*76=(x.take (a*76)++d.drop ((a+1)*76)).length by rw[a6A,H,W];omega,a9k];grind
 rw[<-y];have I:(o.set c (.cells h)) c=some (.cells h):=U.ai _ _ _;have Z:cn 76 (.ao c (b - 1) k 76) (some (.v (.int .i64 ((b - 1:Nat))))) (some (.v (.int .i64 ((b))))) none=some (.bE c ((b - 1)*76) (b -(b - 1)) (k -(b - 1)) 76):=CR aaU C aaU;have e: ∀z:List R,z.length=76->lg 76 z (.bE c ((b - 1)*76) (b -(b - 1)) (k -(b - 1)) 76) (o.set c (.cells h))=some ((o.set c (.cells h)).set c (.cells (putAt h ((b - 1)*76) (List.replicate (b -(b - 1)) z).flatten))):=λz j9=>xx I (by rw[E];omega);have p:=hp.all.1;rw[<-kR]at p;have e:=(e _ p).trans ab0;have K:(d.take (a*76)++d.drop ((a+1)*76)).length=(b - 1)*76:=by rw[a6A,a6C,a6R];omega
 clear p y W V m P;refine aa ?_;have p:=hp.all.1;rw[<-kR]at p;refine⟨_,U.a6,?_⟩;generalize f:putAt h ((b - 1)*76) _=g;have M:g.length=k*76:=by rw[<-f,eI _ _ _ (by rw[lk,p,E];omega),E]
 have N:g.take ((b - 1)*76)=h.take ((b - 1)*76):=by rw[<-f,putAt,a6N,a8f (by rw[a6C];omega),a7N,a8L]
 refine⟨U.af L.1 S,.inr ⟨c,b - 1,k,_,rfl,S,U.ai _ _ _,M,by rw[N,B],K,aaU,n⟩⟩
def cJ (a:List aU) (b:List UInt8):Except Int (List aU):=
 if cI a=true then(if gE a b=true then .ok (a.take (cW a b)++a.drop (cW a b+1))else .error 3)else .error 1
def a3A (a:List aU) (c:List R) (p:Own) (b:List UInt8) (h:aB dY a c) (G: ∀S∈a,S.Fit) (L:a.length<=1000) (d:U):
  AC Tryz.prog 101 [.J c p,bn b] d λr y=>d.sub y/\vO (cJ a b) r:=by
 have T:AC Tryz.prog 101 [.J c p,bn b] d λr y=>tI d y (cJ a b) r:= ?_
 .exact T.view λr y z=>z.zZ
 have V:=h.len;refine aK hm NH ?_;have k:(if cI a=true then(if gE a b=true then .ok (a.take (cW a b)++a.drop (cW a b+1))else .error 3)else .error 1)=cJ a b:=rfl;generalize cJ a b=i at*;cases D:cI a with
 |false=>rw[if_neg (by rw[D];simp)]at k;refine bk (nR a c p h G aaU d) ?_;rw[<-k];exact⟨_,U.a6,U.a6,aaY,rfl⟩
 |true=>
 rw[if_pos D]at k;refine bk (nR a c p h G aaU d) ?_;have C:=zY a c p b h D d;have E:gE a b=true->cW a b<a.length:=λz=>by
  simp only[gE,a6B,decide_eq_true_eq]at z;exact z.1
 generalize cW a b=o at*;cases x:gE a b with
 |false=>rw[if_neg (by rw[x];simp)]at k;rw[x]at C;refine bk C ?_;rw[<-k];exact⟨_,U.a6,U.a6,aaY,rfl⟩
 |true=>
 rw[if_pos x]at k;rw[x]at C;have E:=E x;refine bk C ?_;refine ah (zV a c p d h L) ?_;intro W e f;have F:=h.cells λ_ _=>dY.cells;have g:(flat c).length=a.length*76:=by rw[cR F,V]
 refine aa ?_;refine ah (a3z d e (flat c) W f a.length g o E L) ?_;intro r j P;refine aa ?_;refine⟨_,U.a6,?_⟩;rw[<-k];rw[(fX (o+1) F).1,(fX o F).2,<-ph]at P;exact⟨r,c.take o++c.drop (o+1),(h.take o).append (h.drop (o+1)),P,rfl⟩
variable{t Z:R -> U -> Prop}{K:Ctx}{b5:FuncId}{A:List UInt8}
def fG {d:U->Prop} (h: ∀A a,cx s e A a->d a) (c:AC K.p b5 g f λ_ a=>cx s e A a) (k: ∀b a,cx s e A a->Z b a)
  (o: ∀b a,d a->t b a=Z b a:=by intro b f c;simp -dsimp -implicitDefEqProofs (disch:=first|omega|assumption|exact U.uq aaX aaX|(simp only[bd,Nat.reduceAdd];try omega)) only[go_sem,simprocAttr,-List.reduceReplicate,↓eu,ur,uo, *]<;>rfl):o8 K b5 g f (bX t ()):=ah c λb a c=>(o b a (h A a c)).mpr (k b a c)
theorem Gz (D e:U) (c:Nat) (d:List UInt8) (a:aq) (r x y:Own) (G:cx D c d e) (X:d.length<=1000000000) (f:a.sum.length=32) (n:a.hE):
  AC Tryz.prog 74 [.ptr c 0,.agg (ab a r x y)] e λ_ h=>cx D c (d++dW a) h:=by
 have Y:=(aP (N:=r) (e5:=x) (h6:=y) f).all;generalize ab a r x y=L at*;obtain⟨Z,j9,k0,q,k1,s,k2⟩:=n;obtain⟨P,t⟩:=a8y q;obtain⟨S,u⟩:=a8y s;have k3: ∀z:List UInt8,(.agg (z.map ak))=bz z:=λ_=>rfl;refine aK hm MN ?_;refine aN λz v=> ?_;obtain⟨w,A,g⟩:=G.new (ob:= .cells L) v;have E: ∀d h,cx (D.set z (.cells L)) c d h->h.read z=some L:=λd h G=>U.ae (G.get w (U.ai _ _ _));refine aa ?_;refine fG E (Dk _ _ c _ _ f g aaU) λ_ i o=> ?_;refine fG E (sH _ _ c _ _ aaU o aaW) λ_ i o=> ?_;refine fG E (sH _ _ c _ _ aaU o (by simp[ky];omega)) λ_ i o=> ?_;refine jM λk4 B=> ?_;have T:aB isRow [a.aT,a.aS,a.key] [.J (ad a.aT) r,.J (ad a.aS) x,.J (ad a.key) y]:=⟨⟨_,rfl⟩,⟨_,rfl⟩,⟨_,rfl⟩,trivial⟩;have p: ∀C∈ [a.aT,a.aS,a.key],C.length<=8:=aaW;have H: ∀C:List Int,(dz C).length=8*C.length+1:=λC=>by rw[dz,a6E,ot]
 have V:dW a=a.sum++fk P++fk S++ [a.aT,a.aS,a.key].flatMap dz:=by rw[dW,t,u];simp
 obtain⟨k,F⟩: ∃k,[a.aT,a.aS,a.key]=k:=⟨_,rfl⟩;have k5:k.length=3:=by rw[<-F];rfl
 rw[F]at T p V;have I: ∀b,b<=3->((k.take b).flatMap dz).length<=65*b:=λb j=>by
  rw[<-F]at p|-;have:=p a.aT aaV;have:=p a.aS aaV;have:=p a.key aaV;rcases(by omega:b=0\/b=1\/b=2\/b=3)with rfl|rfl|rfl|rfl<;>simp[H]<;>omega
 generalize (([.J (ad a.aT) r,.J (ad a.aS) x,.J (ad a.key) y]):List R)=l at*;obtain⟨_,W,K⟩:=o.new (ob:= .buf 1 l.length l.length) B;have W:=(U.set_nil W).1;have k6:=T.len;rw[V,<-a6N,<-a6N,<-a6N];have k7:(d++a.sum++fk P++fk S).length<=1000001000:=by simp[ky];omega
 generalize d++a.sum++fk P++fk S=M at*;clear E F V o g;refine cg [0,26,27] (λb:Nat=> [(28,.v (.int .i64 b))]) (λb h=>b<=3/\cx D c (M++(k.take b).flatMap dz) h) (λb=>3 - b) 0 ⟨⟨aaU,by simpa using K.base (U.af (U.af U.a6 A) W)⟩,aO⟩ ?_;rintro b k8 ⟨j,N⟩ k9;refine aa ?_;refine aH (λO=> ?_) λO=> ?_
 .have m:k[b]? =some (k.getD b []):=by grind
  obtain⟨_,l0,Q,rfl⟩:=T.get m;have l1:=p _ (a6D m);have l2:=I b j;refine aa ?_;refine hX (sI _ _ c _ _ Q aaU N (by rw[a6A];omega)) λ_ l3 l4=> ?_;refine⟨b+1,⟨aaU,?_⟩,rfl,aaU⟩;grind[eR,List.append_assoc]
 .obtain rfl:b=3:=aaU;grind[List.take_of_length_le,U.a6]
variable{e8:aU}
theorem GA (b:fU e8=true):e8.hE:=by
 simp only[fU,eV,nI,jW,a6B,decide_eq_true_eq,a8l]at b;obtain⟨⟨⟨_,c⟩,a⟩,d,h,P,S,T⟩:=b;rw[if_pos aaY]at a;simp only[a6B,decide_eq_true_eq,a6P,a7O,mD,jW]at a;obtain⟨k,o,p,r,x,y⟩:=ra d;obtain⟨z,C,D,E,F,G⟩:=ra h;refine⟨c.2,a.1.2.2,λV L=> ?_,⟨k,o,aaU,p,r,x,y⟩,⟨z,C,?_,D,E,F,G⟩⟩
 .obtain⟨W,e,rfl⟩:=a7l L;simp_all
 grind[az]
theorem oY (a:cI e3=true):(∀b∈e3,b.hE)/\e3.length<=8:=by simp only[cI,a6B,a6P,a7O,decide_eq_true_eq]at a;refine⟨λb c=> ?_,a.2⟩;obtain⟨d,h,rfl⟩:=a7l c;grind[GA,List.getD]
theorem GB (b:List aU) (G:List R) (W:Own) (z:aB dY b G) (s: ∀a∈b,a.Fit) (t:b.length<=1000000) (k:U):
  AC Tryz.prog 33 [.J G W] k λe o=>k.sub o/\if cI b=true then∃u,e= .aJ [.J ((q2 b).map ak) u,.v (.int .i64 0)]else e= .aJ [.J [] .nil,.v (.int .i64 1)]:=by
 have k2:=z.len;have k3:=λL=>iF L;refine aK hm Lt ?_;refine bk (nR b G W z s t _) ?_;refine aH (λC=> ?_) λC=> ?_
 .trivial
 obtain⟨f,k4⟩:=oY C;refine bp λh v=> ?_;have w:cx k h [] (k.set h (.cells [.J [] .nil,.v (.int .i64 0)])):=⟨.nil,bf.nil U.a6⟩;refine hX (nu k _ h [] (UInt8.ofNat b.length) w aaV) λ_ k5 k6=> ?_;have cX:=a1F z f;refine cg [0,4,19,20] (λc:Nat=> [(21,.v (.int .i64 c))]) (λc o=>c<=b.length/\cx k h (UInt8.ofNat b.length::(b.take c).flatMap ho) o) (λc=>b.length - c) 0 ⟨⟨aaU,by trivial⟩,aO⟩ ?_;rintro c A ⟨k7,x⟩ B;refine aa ?_;refine aH (λH=> ?_) λH=> ?_
 .have g:b[c]? =some (b.getD c default):=by simp_all
  obtain⟨_,k8,T,rfl,r⟩:=z.get g;have p:=f _ (a6D g);have i:=cX c;have I:(b.take (c+1)).flatMap ho=(b.take c).flatMap ho++ho (b.getD c default):=by rw[eR (b:=default) aaU,a7r];simp
  generalize b.getD c default=a at*;have K:=z6 p r.k.1 r.z.1;obtain⟨M,k9,l0,l1,l2,l3,l4,l5,l6,l7,l8,l9,n0⟩:=r.all;obtain⟨_,_,n1,n2⟩:=oU r;have n3:=iE (n:= .agg T) M;have n4:=kR;have n5:=iq (e6:=a.aD);have n9:= @tn a.aD;refine aa ?_;refine aN λP L=> ?_;obtain⟨N,O,D⟩:=x.new (ob:= .cells T) L;have E: ∀aV o,cx (k.set P (.cells T)) h aV o->o.read P=some T:=λaV o Q=>U.ae (Q.get N (U.ai _ _ _));have a00: ∀aV:List UInt8,uh (bn aV)=some (.J (aV.map ak) .any):=λaV=>rfl;obtain⟨y,S⟩: ∃y,UInt8.ofNat b.length::(b.take c).flatMap ho=y:=⟨_,rfl⟩;rw[S]at D;have a01:y.length<=9000:=by rw[<-S,a6E];omega
  rw[ho,a6A]at K;have a02:=xQ a.name;have a03:=p.n;have a04:=p.c;refine aa ?_;refine fG E (Dw _ _ h _ a.name .any aaU D aaU) λ_ j D=> ?_;refine fG E (nu _ _ h _ (UInt8.ofNat a.aD.length) D (by rw[a6A];omega)) λ_ a05 X=> ?_;have a06:(y++ic a.name++ [UInt8.ofNat a.aD.length]).length<=10000:=by grind
  have l: ∀d,((a.aD.take d).flatMap ic).length<=200:=λd=>by
   have:=Fq (e6:=a.aD.take d) λC Y=>p.cs C (a6M Y);rw[a6C]at this;omega
  refine cg [4,6,21,37,38] (λd:Nat=> [(39,.v (.int .i64 d))]) (λd o=>d<=a.aD.length/\cx (k.set P (.cells T)) h (y++ic a.name++ [UInt8.ofNat a.aD.length]++(a.aD.take d).flatMap ic) o) (λd=>a.aD.length - d) 0 ⟨⟨aaU,by simpa using X⟩,aO⟩ ?_;rintro d a07 ⟨a08,F⟩ B;have a09:=E _ _ F;refine aa ?_;refine aH (λc2=> ?_) λc2=> ?_
  .have m:=l d;have a10:=p.cs (a.aD.getD d []) (by simp_all);refine hX (Dw _ _ h _ (a.aD.getD d []) .any aaU F (by rw[a6A];omega)) λ_ Z V=> ?_;refine⟨d+1,⟨aaU,?_⟩,rfl,aaU⟩;rw[eR (b:= []) aaU,a7r,<-a6N];simpa using V
  .obtain rfl:d=a.aD.length:=aaU;have m:=l a.aD.length;rw[a6V]at F m;have a11:=sQ r.k.1 p.k;refine fG E (Gz _ _ h _ a.bo _ _ _ F (by rw[a6A];omega) r.k.1 p.k) λ_ Z V=> ?_;refine hX (Gz _ _ h _ a.bu _ _ _ V (by grind) r.z.1 p.z) λ_ a13 j9=> ?_;refine⟨c+1,⟨aaU,?_⟩,rfl,aaU⟩;have k0:=j9.base (U.af U.a6 O);rw[I,<-a7M,S,ho];simpa using k0
 .obtain rfl:c=b.length:=aaU;have i:=cX b.length;rw[a6V]at x i;refine ah (Dj k A h _ x (by rw[a6E];omega)) ?_;rintro _ j ⟨n,q,rfl⟩;refine aa ?_;refine bk (Dx k j h _ (x.mono q.sub)) ?_;have k1:=U.au (x.sub v) q.sub
  first|exact⟨n,rfl⟩|exact⟨k1,n,rfl⟩
theorem GC (n k1:U) (h:Nat) (A:aq) (D:List UInt8) (l1:n h=none) (l2:A.In 8) (e:c6 n h ⟨dW A++D,0⟩ k1):
  AC Tryz.prog 133 [.ptr h 0] k1 λq S=>c6 n h ⟨D,0⟩ S/\ ∃F G L,q= .agg (ab A F G L):=by
 have fv:=aP (N:= .nil) (e5:= .nil) (h6:= .nil) bj;have a08:=fv.len;have a09:=fv.t37;obtain⟨a,b,c,a10,cf,d⟩:=A;obtain⟨P,l3,l4,l5,l6,l7,l8,l9,a11,n0,a13⟩:=l2;obtain⟨o,rfl⟩:=a8y l9;obtain⟨r,rfl⟩:=a8y n0
 dsimp only at*
 have n1:dW ⟨a,b,c,(o),(r),d⟩++D=a++(fk o++(fk r++(dz b++(dz c++(dz d++D))))):=by simp[dW]
 rw[n1]at e;have a14:(bz a).cells=a.map ak:=rfl;have a15:(a.map ak).length=32:=by simp[P]
 have a16:=ch;have a18:putAt (ab az .nil .nil .nil) 0 (a.map ak)=ab ⟨a,[],[],0,0,[]⟩ .nil .nil .nil:=uS bj P;have a19: ∀(b c) (T V) (d) (F G L),putAt (ab az .nil .nil .nil) 0 (ab ⟨a,b,c,T,V,d⟩ F G L)=ab ⟨a,b,c,T,V,d⟩ F G L:=λb c T V d F G L=>cy bj P;have cl: ∀(b c) (T V) (d) (F G L),(ab ⟨a,b,c,T,V,d⟩ F G L).length=37/\(ab ⟨a,b,c,T,V,d⟩ F G L).take 37=ab ⟨a,b,c,T,V,d⟩ F G L:=λb c T V d F G L=>by
  have:=aP (w:=⟨a,b,c,T,V,d⟩) (N:=F) (e5:=G) (h6:=L) P;exact⟨this.len,this.t37⟩
 refine aK hm OG ?_;refine aN λq n2=> ?_;rw[ch];obtain⟨B,k2,e⟩:=e.new (ob:= .cells (ab az .nil .nil .nil)) n2;refine aa ?_;have k3:=Dt _ _ h _ e;rw[DE _ _ P]at k3;refine ah k3 ?_;rintro _ a27 ⟨M,rfl⟩
 dsimp only at M|-
 refine aa ?_;refine aN λz N=> ?_;obtain⟨f,k4,k5⟩:=M.new (ob:= .cells (ab ⟨a,[],[],0,0,[]⟩ .nil .nil .nil)) N;have n3:q≠z:=by rintro rfl;rw[M.get B (U.ai _ _ _)]at N;cases N
 obtain⟨W,H⟩: ∃W,n.set q (.cells (ab az .nil .nil .nil))=W:=⟨_,rfl⟩;have n4:W h=none:=by rw[<-H,U.an _ _ (a6I B)];exact l1
 have n5:W q=some (.cells (ab az .nil .nil .nil)):=by rw[<-H,U.ai]
 have k6:n.sub W:=by rw[<-H];exact U.af U.a6 k2
 rw[H]at k5 k4;have k7: ∀ {g O S},c6 (W.set z g) h O S->S z=some g:=λe=>e.get f (U.ai _ _ _);refine aa ?_;have s:=sJ _ _ h 1048576 aaU _ k5;rw[uK _ aaU]at s;refine ah s ?_;rintro _ a29 ⟨t,rfl⟩;have a30:=U.aI (k7 t);have i:putAt (ab ⟨a,[],[],0,0,[]⟩ .nil .nil .nil) 34 [.v (.int .i64 (o))]=ab ⟨a,[],[],(o),0,[]⟩ .nil .nil .nil:=sR P;have t:=t.put (.cells (ab ⟨a,[],[],(o),0,[]⟩ .nil .nil .nil)) f
 dsimp only at t|-
 refine aa ?_;have s:=sJ _ _ h 1048576 aaU _ t;rw[uK _ aaU]at s;refine ah s ?_;rintro _ a34 ⟨u,rfl⟩;have a36:=U.aI (k7 u);have a38:putAt (ab ⟨a,[],[],(o),0,[]⟩ .nil .nil .nil) 35 [.v (.int .i64 (r))]=ab ⟨a,[],[],(o),(r),[]⟩ .nil .nil .nil:=sS P;have u:=u.put (.cells (ab ⟨a,[],[],(o),(r),[]⟩ .nil .nil .nil)) f
 dsimp only at u|-
 refine aa ?_;refine jM λQ n9=> ?_;obtain⟨a00,a01,X⟩:=u.new (ob:= .buf 1 3 3) n9;have Y:z≠Q:=by grind
 have a02:W Q=none:=by rwa[U.an _ _ (a6I Y)]at a01
 rw[U.ea _ Y]at X;obtain⟨E,I⟩: ∃E,W.set Q (.buf 1 3 3)=E:=⟨_,rfl⟩;rw[I]at X;have Z:W.sub E:=by rw[<-I];exact U.af U.a6 a02
 have a03:E h=none:=by rw[<-I,U.an _ _ (a6I a00)];exact n4
 have a04:E z=none:=by rw[<-I,U.an _ _ Y];exact k4
 have j: ∀ {g O S},c6 (E.set z g) h O S->S z=some g:=λe=>e.get f (U.ai _ _ _);have j9: ∀g,(E.set z g) h=none:=λg=>by rw[U.an _ _ (a6I f)];exact a03
 let a05:Nat->aq:=λk=>⟨a,if 0<k then b else [],if 1<k then c else [],(o),(r),if 2<k then d else []⟩
 let a06:Nat->List UInt8:=λk=>if k=0 then dz b++(dz c++(dz d++D))else if k=1 then dz c++(dz d++D)else if k=2 then dz d++D else D;refine cg [0,2,3,20,21] (λk:Nat=> [(22,.v (.int .i64 k))]) (λk S=>k<=3/\ ∃x y i,c6 (E.set z (.cells (ab (a05 k) x y i))) h ⟨a06 k,0⟩ S) (λk=>3 - k) 0 ⟨⟨aaU,.nil,.nil,.nil,X⟩,aO⟩ ?_;rintro k K ⟨a42,x,y,m,p⟩ a43;refine aa ?_;refine aH (λa07=> ?_) λa07=> ?_
 .have k0:=U.aI (j p);rcases(by omega:k=0\/k=1\/k=2)with rfl|rfl|rfl
  .have p:c6 (E.set z (.cells (ab ⟨a,[],[],(o),(r),[]⟩ x y m))) h ⟨dz b++(dz c++(dz d++D)),0⟩ K:=p;have k0:=U.aI (j p);have l:=pI _ _ h 8 aaU _ (j9 _) p;rw[pJ b 8 _ l6 aaU l3]at l;refine aa ?_;refine ah l ?_;rintro _ k8 ⟨C,k9,rfl⟩;have l0:=U.aI (j C);have v:=λx y i w=>DV (w:=⟨a,[],[],(o),(r),[]⟩) (a:=x) (N:=y) (e5:=i) (h6:=w) (q:=b) P
   dsimp only at v C|-
   refine aa ?_;exact⟨1,⟨aaU,_,_,_,C.put _ f⟩,rfl,aaU⟩
  .have p:c6 (E.set z (.cells (ab ⟨a,b,[],(o),(r),[]⟩ x y m))) h ⟨dz c++(dz d++D),0⟩ K:=p;have k0:=U.aI (j p);have l:=pI _ _ h 8 aaU _ (j9 _) p;rw[pJ c 8 _ l7 aaU l4]at l;refine aa ?_;refine ah l ?_;rintro _ k8 ⟨C,k9,rfl⟩;have l0:=U.aI (j C);have v:=λx y i w=>DW (w:=⟨a,b,[],(o),(r),[]⟩) (N:=x) (a:=y) (e5:=i) (h6:=w) (q:=c) P
   dsimp only at v C|-
   refine aa ?_;exact⟨2,⟨aaU,_,_,_,C.put _ f⟩,rfl,aaU⟩
  .have p:c6 (E.set z (.cells (ab ⟨a,b,c,(o),(r),[]⟩ x y m))) h ⟨dz d++D,0⟩ K:=p;have k0:=U.aI (j p);have l:=pI _ _ h 8 aaU _ (j9 _) p;rw[pJ d 8 _ l8 aaU l5]at l;refine aa ?_;refine ah l ?_;rintro _ k8 ⟨C,k9,rfl⟩;have l0:=U.aI (j C);have v:=λx y i w=>sT (w:=⟨a,b,c,(o),(r),[]⟩) (N:=x) (e5:=y) (a:=i) (h6:=w) (q:=d) P
   dsimp only at v C|-
   refine aa ?_;exact⟨3,⟨aaU,_,_,_,C.put _ f⟩,rfl,aaU⟩
 .obtain rfl:k=3:=aaU;have p:c6 (E.set z (.cells (ab ⟨a,b,c,(o),(r),d⟩ x y m))) h ⟨D,0⟩ K:=p;have a47:=U.ae (j p);have a48:=U.aI (p.get B (by rw[U.an _ _ n3];exact Z _ _ n5));have cN:=cl b c o r d x y m;refine aa ?_;have C:=p.other (ob:= .cells (ab ⟨a,b,c,(o),(r),d⟩ x y m)) B;refine⟨_,U.a6,C.base ?_,_,_,_,rfl⟩;exact U.af (U.af (U.au k6 Z) (U.bI (U.au k6 Z) a04)) k2
theorem a3B (a b:Nat) (d:a<=b) (h:b<=1048576) (c:List UInt8):fB b ⟨fk a++c,0⟩=(a,⟨c,0⟩):=by have k:=r4 (fk a) c;grind[ky,fB,fj,fk,UInt8.toNat_ofNat',Nat.shiftRight_eq_div_pow]
def GD (a:List UInt8) (b:Nat) (d:a.length<=b) (h:b<=1048576) (c:List UInt8):r3 b ⟨ic a++c,0⟩=(a,⟨c,0⟩):=by unfold r3;rw[ic,a6N,a3B _ _ d h,r4];rfl
structure aU.In (t:aU):Prop where
 le:t.hE
 k:t.bo.In 8
 z:t.bu.In 8
variable{e6:List (List UInt8)}
def tJ:aW 1 (bL e6):=λb a=>by obtain⟨_,_,rfl⟩:=a6S.1 a;rfl
theorem a3C (V N:U) (p:Nat) (i:aU) (y:List UInt8) (l1:V p=none) (l2:i.In) (D:c6 V p ⟨ho i++y,0⟩ N):
  AC Tryz.prog 79 [.ptr p 0] N λW E=>c6 V p ⟨y,0⟩ E/\dY i W:=by
 obtain⟨h,a,e,F⟩:=i;obtain⟨⟨l3,a13,a3,_,_⟩,G,L⟩:=l2
 dsimp only at*
 have l4:ho ⟨h,a,e,F⟩++y=ic h++(UInt8.ofNat a.length::(a.flatMap ic++(dW e++(dW F++y)))):=by simp[ho]
 rw[l4]at D;have a14:=kR;refine aK hm MX ?_;refine aN λW l5=> ?_;rw[kR];obtain⟨j,O,D⟩:=D.new (ob:= .cells fD) l5;refine aa ?_;have f:=Dz _ _ p 16 aaU _ D;rw[GD _ _ l3 aaU]at f;refine ah f ?_;rintro _ a15 ⟨g,t,_,rfl⟩;have a16:= @px h t
 dsimp only at g|-
 refine aa ?_;have u: ∀(z) b c k,c.length=37->k.length=37->(bn h::R.J (bL z) b::(c++k)).length=76/\(bn h::R.J (bL z) b::(c++k)).take 76=bn h::R.J (bL z) b::(c++k)/\putAt fD 0 (bn h::R.J (bL z) b::(c++k))=bn h::R.J (bL z) b::(c++k):=λz b c k g l=>by
  have l6:(bn h::R.J (bL z) b::(c++k)).length=76:=by simp[g,l]
  exact⟨l6,a6z aaU,sl (by trivial)⟩
 obtain⟨o,Q⟩: ∃o,ab az .nil .nil .nil=o:=⟨_,rfl⟩;have v:o.length=37:=by rw[<-Q];rfl
 have a18:=hp.all.1;refine aN λP w=> ?_;obtain⟨S,X,l⟩:=g.new (ob:= .cells (bn h:: .J [] .nil::(o++o))) w;have l7:=u [] .nil o o v v;rw[show bL []= []from rfl]at l7;have Y:W≠P:=by rintro rfl;rw[g.get j (U.ai _ _ _)]at w;cases w
 obtain⟨r,m⟩: ∃r,V.set W (.cells fD)=r:=⟨_,rfl⟩;have l8:r p=none:=by rw[<-m,U.an _ _ (a6I j)];exact l1
 have l9:r W=some (.cells fD):=by rw[<-m,U.ai]
 have Z:V.sub r:=by rw[<-m];exact U.af U.a6 O
 rw[m]at l X;rw[Q];refine aa ?_;have j9:=pG _ _ p _ l;rw[ov]at j9;have n0:(UInt8.ofNat a.length).toNat=a.length:=by rw[a7A];omega
 have a19:min (a.length:Int) 8=(a.length):=aaU;refine ah j9 ?_;rintro _ a27 ⟨A,rfl⟩;obtain⟨n1,A⟩:=A;rw[n0];refine aa ?_;have a29: ∀x B,((r.set P x).set p B) p=some B:=λx B=>U.ai _ _ _;have k0: ∀x,(r.set P x) p=none:=λx=>by rw[U.an _ _ (a6I S)];exact l8
 have T: ∀ {x n2 E},c6 (r.set P x) p n2 E->E P=some x:=λD=>D.get S (U.ai _ _ _);refine cg [0,2,3,11] (λd:Nat=> [(12,.v (.int .i64 d))]) (λd E=>d<=a.length/\ ∃b t,bf ((r.set P (.cells (bn h:: .J (bL (a.take d)) b::(o++o)))).set p (ib ⟨(a.drop d).flatMap ic++(dW e++(dW F++y)),0⟩ t)) E 1 (bL (a.take d)) b) (λd=>a.length - d) 0 ⟨⟨aaU,.nil,n1,bf.nil A⟩,aO⟩ ?_;rintro d n3 ⟨a30,b,a34,k1⟩ a36;have n:=da.rs k1;have n4:=U.ae (T n);refine aa ?_;refine aH (λn5=> ?_) λn5=> ?_
 .have n9:=a3 (a.getD d []) (by simp_all);have a00:=drop_cons (a:=a) (b:= []) (e:=d) aaU;have k2:=eR (a:=a) (b:= []) (e:=d) aaU;have f:=Dz _ _ p 16 aaU _ n.full;rw[a00,a7a,a6N,GD _ _ n9 aaU]at f;refine ah f ?_;rintro _ a01 ⟨q,a02,_,rfl⟩;obtain⟨a38,H⟩:=da.step k1 (k0 _) q;have a03:=T (da.rs H);have a42:=U.ae a03;have a43:= @px (a.getD d []) a02
  dsimp only at H|-
  refine aa ?_;refine jM (λa47 a04=> ?_) (d:=tJ (e6:= [_]));have a48:=λd=>iq (e6:=a.take d);refine eh (H.mono (U.af U.a6 a04)) tJ (tJ (e6:= [_])) (by simp[iq];omega) (by simp[iq];omega) λa05 a52 C=> ?_;have k3:bL (a.take d)++ [bn (a.getD d [])]=bL (a.take (d+1)):=by rw[k2];simp[bL]
  rw[k3]at C|-;clear k2 k3;have a06:=U.aI (T (da.rs C));refine aa ?_;have s:=C.set (ob:= .cells (bn h:: .J (bL (a.take (d+1))) a05::(o++o))) (by rw[U.an _ _ S];exact U.ai _ _ _);rw[U.ea _ (a6I S),U.set_set]at s;grind
 .obtain rfl:d=a.length:=aaU;rw[a8G,a6V]at n;rw[a6V]at n4;have k4:=k0;have a07:=GC _ n3 p e (dW F++y) (k4 _) G n;refine ah a07 ?_;rintro _ a01 ⟨q,k5,k6,k7,rfl⟩;obtain⟨c,I⟩: ∃c,ab e k5 k6 k7=c:=⟨_,rfl⟩;have K:c.length=37:=by rw[<-I];exact(aP G.sum).len
  have a56:=U.aI (T q);have a57:putAt (bn h::R.J (bL a) b::(o++o)) 2 c=bn h::R.J (bL a) b::(c++o):=by simp only[putAt,a9w,a8w,K,a7M,a6T,Nat.reduceAdd,a7S];simp_all
  have a08:=q.put (.cells (bn h:: .J (bL a) b::(c++o))) S;have a61:=u a b c o K v;rw[I];refine aa ?_;have a09:=GC _ _ p F y (k4 _) L a08;refine ah a09 ?_;rintro _ a62 ⟨C,k8,k9,l0,rfl⟩;obtain⟨k,M⟩: ∃k,ab F k8 k9 l0=k:=⟨_,rfl⟩;have a10:k.length=37:=by rw[<-M];exact(aP L.sum).len
  have a06:=U.aI (T C);have a63:putAt (bn h::R.J (bL a) b::(c++o)) 39 k=bn h::R.J (bL a) b::(c++k):=by simp_all [putAt]
  have s:=C.put (.cells (bn h:: .J (bL a) b::(c++k))) S;have a65:=u a b c k K a10;have a68:=U.aI (C.get j (by rw[U.an _ _ Y];exact l9));have a69:=U.ae (T s);have a71:=a6I Y;rw[M];refine aa ?_;have a11:=s.other (ob:= .cells (bn h:: .J (bL a) b::(c++k))) j;refine⟨_,U.a6,a11.base ?_,_,rfl,⟨b,k5,k6,k7,k8,k9,l0,by rw[I,M]⟩,⟨G.sum,?_⟩,⟨L.sum,?_⟩,(show a.length<=1000000 by omega)⟩
  .exact U.af (U.af Z (U.bI Z X)) O
  .exact⟨a7y G.nz aaY,a7y G.nA aaY,a7y G.nB aaY⟩
  .exact⟨a7y L.nz aaY,a7y L.nA aaY,a7y L.nB aaY⟩
def aU.In.fit (a:e8.In):e8.Fit:=⟨by have:=a.le.n;omega,by have:=a.le.c;omega,λb c=>by have:=a.le.cs b c;omega⟩
theorem a3D (b: ∀c∈e3,c.In):(e3.flatMap ho).length<=1000*e3.length:=by
 induction e3 with
 |nil=>simp
 |cons d e3 ih=>have a:=b d aaV;have:=z6 a.le a.k.sum a.z.sum;grind
theorem a3E (a:List aU) (x:Own) (o:U) (P:cI a=true) (y: ∀z∈a,z.In):
  AC Tryz.prog 34 [.J ((q2 a).map ak) x] o λl C=> ∃c S,bf o C 76 c S/\aB dY a c/\l= .aJ [.J c S,.v (.int .i64 0)]:=by
 obtain⟨j9,k0⟩:=oY P;have k1:=a3D y;have k2:(q2 a).length<=9000:=by rw[q2,a6E];omega
 refine nm λk3=> ?_;have m:x= .nil->q2 a= []:=λn=>by simp_all
 refine aK hm Lv ?_;have q:(UInt8.ofNat a.length).toNat=a.length:=by rw[a7A];omega
 have k4:min (a.length:Int) 9=(a.length):=aaU;refine ah (Dm (q2 a) x o m aaU) ?_;rintro _ k5 ⟨k,D,rfl,s⟩;refine aa ?_;have V:=pG _ _ k _ s;rw[q2,ov]at V;refine ah V ?_;rintro _ k6 ⟨⟨t,u⟩,rfl⟩;rw[q];refine aa ?_;refine cg [0,4,13] (λb:Nat×List R×Own=> [(14,.v (.int .i64 b.1)),(5,.J b.2.1 b.2.2)]) (λb C=>b.1<=a.length/\aB dY (a.take b.1) b.2.1/\ ∃v,bf (o.set k (ib ⟨(a.drop b.1).flatMap ho,0⟩ v)) C 76 b.2.1 b.2.2) (λb=>a.length - b.1) (0,[],.nil) ⟨⟨aaU,trivial,t,bf.nil u⟩,aO⟩ ?_;rintro⟨d,c,W⟩ e ⟨w,h,k7,p⟩ k8
 dsimp only at w h p|-
 have E:=da.rs p;have k9:c.length=d:=by rw[h.len,a6C];omega
 refine aa ?_;refine aH (λA=> ?_) λA=> ?_
 .have l0:=drop_cons (a:=a) (b:=default) (e:=d) aaU;have B:=eR (a:=a) (b:=default) (e:=d) aaU;have H:=y (a.getD d default) (by simp_all);have I:=a3C (e.del k) e k (a.getD d default) ((a.drop (d+1)).flatMap ho) (by simp[U.del]) H (by have:=E.full;grind);refine ah I ?_;rintro l1 f ⟨F,g⟩;obtain⟨i,G⟩:=da.step p D F;have K:=g;obtain⟨T,rfl,M⟩:=g;have N:=M.all.1;refine aa ?_;refine jM (λl2 O=> ?_);refine eh (G.mono (U.af U.a6 O)) (h.cells λ_ _ L=>by obtain⟨_,rfl,L⟩:=L;exact L.all.1) (λn r=>by rw[a6U]at r;subst r;exact N) aaW aaW λQ l3 X=> ?_;refine aa ?_;refine⟨(d+1,c++ [.agg T],Q),⟨by simp only;omega,?_,i,X⟩,⟨rfl,rfl⟩,by simp only;omega⟩;simp only[B];exact h.snoc K
 .obtain rfl:d=a.length:=aaU;rw[a8G]at E;rw[a6V]at h;have r:=Du _ _ k _ E.full;refine ah r ?_;rintro _ f ⟨F,rfl⟩;have l4:(pH ⟨List.flatMap ho [],0⟩).e=0:=rfl;refine aa ?_;have j:=GB a c W h (λz Y=>(y z Y).fit) aaU f;simp only[P,if_true]at j;refine ah j ?_;rintro _ l5 ⟨Z,l6,rfl⟩;refine aa ?_;refine bk (DD _ _ _ _ _ aaU) ?_;obtain⟨i,G⟩:=da.step p D F;exact⟨_,U.a6,c,W,(G.base (U.af U.a6 D)).mono Z,h,rfl⟩
theorem a3F (a:List (List UInt8)) (d:Own) (c:U) (C:a.length<=1000000):
  AC Tryz.prog 100 [.J (bL a) d] c λh k=>c.sub k/\ ∃o,h= .J (bL a) o:=by
 have D:=iq (e6:=a);refine nm λE=> ?_;have p:d= .nil->bL a= []:=λF=>by simp_all
 refine bc hm NF aaV ?_;simp -dsimp -implicitDefEqProofs (disch:=first|omega|assumption|(simp only[bd,Nat.reduceAdd];try omega)) only[go_sem,simprocAttr,↓oo];refine oq (λb=>by rw[p b]) (λb=> ?_) ?_
 .have r:bL a= []:=by trivial
  rw[r];simp -dsimp -implicitDefEqProofs (disch:=first|omega|assumption|(simp only[bd,Nat.reduceAdd];try omega)) only[go_sem,simprocAttr,a7u];exact⟨c,U.a6,U.a6,_,rfl⟩
 .simp -dsimp -implicitDefEqProofs (disch:=first|omega|assumption|(simp only[bd,Nat.reduceAdd];try omega)) only[go_sem,simprocAttr];refine dF U.a6 (by simp[aW]) λG L x=> ?_;simp -dsimp -implicitDefEqProofs (disch:=first|omega|assumption|(simp only[bd,Nat.reduceAdd];try omega)) only[go_sem,simprocAttr];refine eh x (λ_ b=>by cases b) tJ (by rw[a6G];omega) (by rw[a6G];omega) λP y z=> ?_;simp -dsimp -implicitDefEqProofs (disch:=first|omega|assumption|(simp only[bd,Nat.reduceAdd];try omega)) only[go_sem,simprocAttr,a6T];exact⟨y,U.a6,z.sub,_,rfl⟩
structure dE (b:U) (a gA c:Nat) (h:ag) (l:List aU):Prop where
 fO:bq b gA c h
 x: ∃d o,b a=some (.cells [.ptr gA 0,.J d o])/\aB dY l d
 nT:a≠gA
 nU:a≠c
def cB (c d h:Nat) (k o:U):Prop:= ∀a b,a≠c->a≠d->a≠h->k a=some b->o a=some b
theorem cB.of {X lM:Nat}{s:U} (a:s.sub f):cB X e lM s f:=λb c _ _ _ d=>a b c d
def cB.ext (a:Ext e i f s):cB v e i f s:=λb c _ d h k=>a b c d h k
theorem cB.trans (k:cB e i v f s) (o:cB e i v s e0):cB e i v f e0:=λa b c d h p=>o a b c d h (k a b c d h p)
variable{X j8:bs}
def cB.A0 (b:cB e i v f s):cB e i v f (s.set e X):=λc d a h k o=>by rw[U.an _ _ a];exact b c d a h k o
def dE.sub (a:dE f e i v H e3) (b:f.sub s):dE s e i v H e3:=⟨a.fO.mono b,by obtain⟨c,d,h,k⟩:=a.x;exact⟨c,d,b _ _ h,k⟩,a.nT,a.nU⟩
variable{N e5 h6:Own}
def dE.put {b:List aU} (a:dE f e i v H b) (c:aB dY e3 g):dE (f.set e (.cells [.ptr i 0,.J g N])) e i v H e3:=⟨a.fO.set ⟨a.nT,a.nU⟩,⟨g,N,U.ai _ _ _,c⟩,a.nT,a.nU⟩
def iW (a:Except Int (List aU)) (b:List aU):Int×List aU:=match a with
 | .error c=>(c,b)
 | .ok d=>(0,d)
def a3G (d:U) (b r x:Nat) (C:ag) (a:List aU) (D:dE d b r x C a) (f: ∀c∈a,c.Fit) (g:a.length<=1000) (h:dr):
  AC Tryz.prog 56 [.ptr b 0,h.V] d λE F=>dE F b r x C (iW (cJ a h.d.table) a).2/\cB b r x d F/\E= .v (.int .i64 (iW (cJ a h.d.table) a).1):=by
 obtain⟨i,j,y,l⟩:=D.x;obtain⟨⟨G,c,L,P⟩,S,T⟩:=h
 dsimp only
 show AC Tryz.prog _ [.ptr b 0,.agg [ak G,bn c,.J (bL L) S,.J (ad P) T]] d _;refine aK hm Mf ?_;refine bp λV z=> ?_;have k:=U.af (X:= .cells [ak G,bn c,.J (bL L) S,.J (ad P) T]) (U.a6) z;have s:=U.ae y;have m:b≠V:=by rintro rfl;rw[y]at z;cases z
 have t:=m.symm;refine aa ?_;generalize d.set V _=n at*;refine ah (a3A a i j c l f g n) ?_;rintro E u ⟨o,p⟩;have v:=U.aI (o _ _ (k _ _ y));have W:=D.sub (U.au k o);cases e:cJ a c with
 |error w=>rw[e]at p;obtain⟨A,rfl⟩:=p;refine aa ?_;exact⟨_,U.a6,W,cB.of (U.au k o),rfl⟩
 |ok B=>rw[e]at p;obtain⟨H,q,rfl⟩:=p;refine aa ?_;exact⟨_,U.a6,W.put q,(cB.of (U.au k o)).A0,rfl⟩
def a3H (h:U) (k E F:Nat) (g:ag) (a:List aU) (i:dE h k E F g a) (v: ∀b∈a,b.Fit) (w:a.length<=1000) (d:dr) (A:d.d.Fit):
  AC Tryz.prog 55 [.ptr k 0,d.V] h λj l=>dE l k E F g (iW (ke a ⟨d.d.table,d.d.aD,az,az⟩) a).2/\cB k E F h l/\j= .v (.int .i64 (iW (ke a ⟨d.d.table,d.d.aD,az,az⟩) a).1):=by
 obtain⟨B,H,r,I⟩:=i.x;obtain⟨⟨G,b,c,L⟩,x,P⟩:=d;obtain⟨K,S,M,j9⟩:=A
 dsimp only at*
 show AC Tryz.prog _ [.ptr k 0,.agg [ak G,bn b,.J (bL c) x,.J (ad L) P]] h _;refine aK hm Md ?_;refine bp λT V=> ?_;have W:=U.af (X:= .cells [ak G,bn b,.J (bL c) x,.J (ad L) P]) (U.a6) V;have k0:=U.ae r;have N:k≠T:=by rintro rfl;rw[r]at V;cases V
 have k1:=N.symm;refine aa ?_;have aE:=U.ai h T (.cells [ak G,bn b,.J (bL c) x,.J (ad L) P]);generalize h.set T _=O at*;refine ah (a3F c x O S) ?_;rintro _ Q ⟨y,m,rfl⟩;have eJ:=U.ae (y _ _ (W _ _ r));have k2:=U.ae (y _ _ aE);refine aa ?_;rw[kR];have e:eF ⟨b,c,az,az⟩ (bn b:: .J (bL c) m::(ab az .nil .nil .nil++ab az .nil .nil .nil)):=⟨⟨m,_,_,_,_,_,_,rfl⟩,⟨bj,pM⟩,⟨bj,pM⟩,S⟩;have n:fD=bn []:: .J [] .nil::(ab az .nil .nil .nil++ab az .nil .nil .nil):=rfl;have X: ∀z C o:R,∀p:List R,putAt (z::C::p) 0 [o]=o::C::p:=λ_ _ _ _=>rfl;have k3: ∀z C o:R,∀p:List R,putAt (z::C::p) 1 [o]=z::o::p:=λ_ _ _ _=>rfl;rw[n,X];generalize ab az .nil .nil .nil++ab az .nil .nil .nil=k4 at*;have q:=a3x a B H ⟨b,c,az,az⟩ _ e ⟨K,S,M⟩ I v w Q;have k5:=e.all.1;clear n e;refine aa ?_;refine ah q ?_;clear q;rintro j k6 ⟨s,D⟩;have Y:=y _ _ (W _ _ r);have k7:=U.aI (s _ _ Y);have f:=U.au W (U.au y s);have t:=i.sub f;cases u:ke a ⟨b,c,az,az⟩with
 |error k8=>rw[u]at D;obtain⟨k9,rfl⟩:=D;refine aa ?_;exact⟨_,U.a6,t,cB.of f,rfl⟩
 |ok l0=>rw[u]at D;obtain⟨l1,Z,rfl⟩:=D;refine aa ?_;exact⟨_,U.a6,t.put Z,(cB.of f).A0,rfl⟩
def oZ (c:List aU) (b:dq):Int×Option aU:=match c.find? (λa=>decide (a.name=b.table))with
 |none=>(3,none)
 |some a=>if b.row.length=a.aD.length+1 then(0,some a)else(6,some a)
theorem GF (b:U) (r n q:Nat) (s:ag) (x:List aU) (t:dE b r n q s x) (Y:x.length<=1000) (E:dr) (u:E.d.Fit):
  AC Tryz.prog 102 [.ptr r 0,E.V] b λG v=>b.sub v/\match oZ x E.d with
   |(L,none)=>G= .aJ [.agg fD,.v (.int .i64 L)]
   |(L,some a)=> ∃T,eF a T/\G= .aJ [.agg T,.v (.int .i64 L)]:=by
 obtain⟨w,A,P,B⟩:=t.x;obtain⟨⟨y,a,z,c⟩,C,D⟩:=E;obtain⟨Z,j9,k0,k1⟩:=u
 dsimp only at*
 have k2:=bM (q:=c);show AC Tryz.prog _ [.ptr r 0,.agg [ak y,bn a,.J (bL z) C,.J (ad c) D]] b _;refine aK hm NJ ?_;refine bp λd S=> ?_;refine cZ λh V k3 H=> ?_;have k4:=U.ae P;have I:r≠d:=by rintro rfl;rw[P]at S;cases S
 have k5:=I.symm;have K:r≠h:=by rintro rfl;rw[P]at V;cases V
 have k6:=K.symm;refine aa ?_;rw[kR];have k7:=hp.all.1;have W: ∀a T,eF a T->putAt fD 0 T=T:=λa T M=>(oU M).2.2.1;have k8:=hp.all.2.1;have k9:=W _ _ hp;generalize i:fD=e at*;have l0:b.sub ((b.set d (.cells [ak y,bn a,.J (bL z) C,.J (ad c) D])).set h (.cells e)):=U.af (U.af U.a6 S) V;have aE:((b.set d (.cells [ak y,bn a,.J (bL z) C,.J (ad c) D])).set h (.cells e)) d=some (.cells [ak y,bn a,.J (bL z) C,.J (ad c) D]):=by rw[U.an _ _ H,U.ai]
 have aM:=U.ai (b.set d (.cells [ak y,bn a,.J (bL z) C,.J (ad c) D])) h (.cells e);generalize (b.set d _).set h _=N at*;refine ah (find_spec x w A a B aaU N) ?_;rintro G _ ⟨rfl,o⟩;have l1:=U.ae aE;have l2:=U.aI aM;unfold Found at o;rw[i]at o;clear i;unfold oZ
 dsimp only
 cases j:x.find? (λp=>decide (p.name=a))with
 |none=>
  rw[j]at o;obtain rfl:=o;refine aa ?_;refine aN λF k=> ?_;have f:F≠h:=by rintro rfl;rw[aM]at k;cases k
  have O:=f.symm;exact aO
 |some p=>
  rw[j]at o;obtain⟨T,g,rfl⟩:=o;obtain⟨l3,l4,l5,_⟩:=g.all;have l6:=W _ _ g;have l:=λb=>tw p T g b;clear W;refine aa ?_;refine aN λF k=> ?_;have f:F≠h:=by rintro rfl;rw[aM]at k;cases k
  have O:=f.symm;have Q:F≠d:=by rintro rfl;rw[aE]at k;cases k
  have l7:=Q.symm;refine aa ?_;by_cases m:c.length=p.aD.length+1
  .have X:(c.length)=((p.aD.length+1:Nat):Int):=aaU
   dsimp only
   rw[if_pos m];refine bk (l _) ?_;simp_all
  .have X: ¬(c.length)=((p.aD.length+1:Nat):Int):=aaU
   dsimp only
   rw[if_neg m];refine bk (l _) ?_;simp_all
def tK (a:U) (b c d:Nat) (h:ag) (k:List aU) (o:dE a b c d h k):
  AC Tryz.prog 10 [.ptr b 0] a λp r=>r=a/\p= .ptr c 0:=by
 obtain⟨y,z,x,C⟩:=o.x;have D:=U.ae x;refine aK hm KP ?_
 repeat' first|refine aH (λ_=> ?_) λ_=> ?_|trivial
def a3I (a:U):AC Tryz.prog 25 [] a λx p=> ∃b c d,x= .ptr b 0/\a.sub p/\a b=none/\a c=none/\a d=none/\dE p b c d ag.new []:=by refine aK hm Ld ?_;refine ah (xX a) ?_;rintro _ C ⟨c,d,y,z,rfl,r,h⟩;refine aa ?_;refine aN λb k=> ?_;refine aa ?_;have o:=r.cA k;exact⟨_,U.a6,b,c,d,rfl,U.af h (U.bI h k),U.bI h k,y,z,r.set o,⟨[],.nil,U.ai _ _ _,trivial⟩,o.1,o.2⟩
def a3J (c:U) (p x y:Nat) (z:ag) (a:List aU) (C:dE c p x y z a) (D: ∀h∈a,h.Fit) (k:cI a=true) (E: ∀h∈a,h.In):
  AC Tryz.prog 11 [.ptr p 0] c λo F=> ∃b d,bf c F 76 b d/\o= .J b d/\aB dY a b:=by
 obtain⟨b,d,G,L⟩:=C.x;have g:=U.ae G;have i:=(oY k).2;refine aK hm KR ?_;refine ah (GB a b d L D aaU c) ?_;rintro o P ⟨S,r⟩;rw[if_pos k]at r;obtain⟨T,rfl⟩:=r;refine aa ?_;refine ah (a3E a T P k E) ?_;rintro o j ⟨V,W,e,f,rfl⟩;refine aa ?_;exact⟨_,U.a6,V,W,e.base S,rfl,f⟩
def GG (b:U) (d o p:Nat) (r:ag) (a:List aU) (x:dE b d o p r a) (y: ∀h∈a,h.Fit) (z:cI a=true) (C: ∀h∈a,h.In):
  AC Tryz.prog 11 [.ptr d 0] b λD E=>b.sub E/\ ∃c k,D= .J c k/\aB dY a c:=
 (a3J b d o p r a x y z C).mono λ_ _ ⟨c,k,F,G⟩=>⟨F.sub,c,k,G⟩
theorem eF.a3K (b:eF e8 g) (a:w.sum.length=32) (c:w.cv):eF ⟨e8.name,e8.aD,w,e8.bu⟩ (putAt g 2 (ab w N e5 h6)):=by obtain⟨⟨d,h,k,o,p,r,x,rfl⟩,⟨y,D⟩,z,C⟩:=b;have E:=(aP (N:=h) (e5:=k) (h6:=o) y).len;have F:=(aP (N:=N) (e5:=e5) (h6:=h6) a).len;refine⟨⟨d,N,e5,h6,p,r,x,?_⟩,⟨a,c⟩,z,C⟩;grind[putAt,ab,List.drop_left']
theorem eF.a3L (k:eF e8 g) (a:w.sum.length=32) (o:w.cv):eF ⟨e8.name,e8.aD,e8.bo,w⟩ (putAt g 39 (ab w N e5 h6)):=by obtain⟨⟨p,b,c,d,r,x,y,rfl⟩,⟨h,z⟩,⟨C,E⟩,D⟩:=k;have F:=(aP (N:=b) (e5:=c) (h6:=d) h).len;have G:=(aP (N:=N) (e5:=e5) (h6:=h6) a).len;have L:=(aP (N:=r) (e5:=x) (h6:=y) C).len;refine⟨⟨p,b,c,d,N,e5,h6,?_⟩,⟨h,z⟩,⟨a,o⟩,D⟩;grind[putAt,ab,List.take_left',List.drop_eq_nil_of_le,List.length_append]
def gF (p r:ag->Except Int aq×ag) (x:ag) (a:List aU) (b:aU):Int×List aU×ag:=match p x with
 |(.error c,d)=>(c,a,d)
 |(.ok k,d)=>match r d with
  |(.error c,h)=>(c,a,h)
  |(.ok o,h)=>((iW (kf a ⟨b.name,b.aD,k,o⟩) a).1,(iW (kf a ⟨b.name,b.aD,k,o⟩) a).2,h)
def jv (a c:Nat) (h:FuncId) (k:ag->Except Int aq×ag) (o:aq) (p:List Int) (r:Nat):Prop:=
 ∀(b:U) (d:ag) (x y z C:Own),bq b a c d->AC Tryz.prog h [.ptr a 0,.agg (ab o x y z),.J (ad p) C,.v (.int .i64 (r:Int))] b λD E=>zC b E a c (k d) D
theorem GH (G:U) (h T V:Nat) (y:ag) (b:List aU) (d:dE G h T V y b) (a01: ∀a∈b,a.Fit) (a02:b.length<=1000) (a:aU) (e:List R) (Q:eF a e) (X:a.Fit) (Y:List Int) (Z:Own) (j9 k0:FuncId) (L P:ag->Except Int aq×ag)
  (a03:fu Tryz.prog j9=true) (a04:fu Tryz.prog k0=true) (k1:jv T V j9 L a.bo Y (a.aD.length+1)) (k2:jv T V k0 P a.bu Y (a.aD.length+1)):
  AC Tryz.prog 104 [.ptr h 0,.agg e,.J (ad Y) Z,.bG j9 [] [],.bG k0 [] []] G λu l2=>u= .v (.int .i64 (gF L P y b a).1)/\dE l2 h T V (gF L P y b a).2.2 (gF L P y b a).2.1/\cB h T V G l2:=by
 obtain⟨v,S,k3,w⟩:=d.x;have a86:=U.ae k3;obtain⟨a88,a89,a90,a92,a05,a06,a07,a08,a09,a10,a94,a95,a96⟩:=Q.all;have a11:=λG=>tw a e Q G;have c:(match L y with
  |(.error f,g)=>(f,b,g)
  |(.ok A,g)=>match P g with
   |(.error f,j)=>(f,b,j)
   |(.ok B,j)=>((iW (kf b ⟨a.name,a.aD,A,B⟩) b).1,(iW (kf b ⟨a.name,a.aD,A,B⟩) b).2,j))=gF L P y b a:=rfl
 generalize gF L P y b a=a97 at*;refine aK hm NN ?_;refine bp λz l=> ?_;have l3:h≠z:=by rintro rfl;rw[k3]at l;cases l
 have a98:=l3.symm;have k4:=U.af (X:= .cells e) (U.a6) l;have bx:=U.ai G z (.cells e);refine bk (a11 _) ?_;have m:=d.fO.cA l;generalize G.set z _=a13 at*;have a14:=d.fO.mono k4;have a15:=k4 _ _ k3;refine eL a03 (k1 a13 y a05 a06 a07 Z a14) ?_;rintro u l4 ⟨n,k5,l5⟩;have H:=k5 _ _ d.nT d.nU a15;have k6:=k5 _ _ m.1 m.2 bx;have l6:=cB.trans (cB.of (X:=h) k4) (cB.ext k5);generalize L y=a16 at*;obtain⟨a18,g⟩:=a16;cases a18 with
 |error f=>
  obtain⟨l7,a19,C,D,E,q,rfl⟩:=l5
  dsimp only at c n
  have a27:=(aP (N:=C) (e5:=D) (h6:=E) q).all;have I:=lI (N:=C) (e5:=D) (h6:=E) q;refine aa ?_;refine aN λi k=> ?_;refine aa ?_;refine⟨_,U.a6,by rw[<-c],?_,l6.trans (cB.of (U.af U.a6 k))⟩;rw[<-c];exact⟨n.mono (U.af U.a6 k),⟨v,S,U.af U.a6 k _ _ H,w⟩,d.nT,d.nU⟩
 |ok s=>
  obtain⟨k7,a29,C,D,E,rfl⟩:=l5
  dsimp only at c n
  have a99:=(aP (N:=C) (e5:=D) (h6:=E) k7).all;have I:=lI (N:=C) (e5:=D) (h6:=E) k7;refine aa ?_;refine aN λi k=> ?_;have a30:h≠i:=by rintro rfl;rw[H]at k;cases k
  have b00:=a30.symm;have a34:z≠i:=by rintro rfl;rw[k6]at k;cases k
  have b01:=a34.symm;have eJ:=U.ae H;have a36:=U.ae k6;refine aa ?_;have K:=U.af (X:= .cells (ab s C D E)) (U.a6) k;have gk:=U.ai l4 i (.cells (ab s C D E));have a38:=K _ _ H;have a42:=K _ _ k6;have a43:=n.mono K;have l8:=n.cA k;have a47:=l6.trans (cB.of K);generalize l4.set i _=a48 at*;clear eJ a36 I;refine eL a04 (k2 a48 g a08 a09 a10 Z a43) ?_;rintro u t ⟨M,N,l9⟩;have k8:=N _ _ d.nT d.nU a38;have n0:=N _ _ m.1 m.2 a42;have a52:=N _ _ l8.1 l8.2 gk;have n1:=a47.trans (cB.ext N);generalize P g=a56 at*;obtain⟨cD,j⟩:=a56;cases cD with
  |error f=>
   obtain⟨l7,a19,o,p,r,q,rfl⟩:=l9
   dsimp only at c M
   have a27:=(aP (N:=o) (e5:=p) (h6:=r) q).all;have I:=lI (N:=o) (e5:=p) (h6:=r) q;refine aa ?_;refine aN λF x=> ?_;refine aa ?_;refine⟨_,U.a6,by rw[<-c],?_,n1.trans (cB.of (U.af U.a6 x))⟩;rw[<-c];exact⟨M.mono (U.af U.a6 x),⟨v,S,U.af U.a6 x _ _ k8,w⟩,d.nT,d.nU⟩
  |ok cj=>
   obtain⟨k9,a57,o,p,r,rfl⟩:=l9
   dsimp only at c M
   have b02:=(aP (N:=o) (e5:=p) (h6:=r) k9).all;have I:=lI (N:=o) (e5:=p) (h6:=r) k9;refine aa ?_;refine aN λF x=> ?_;have a61:z≠F:=by rintro rfl;rw[n0]at x;cases x
   have b03:=a61.symm;have a62:i≠F:=by grind
   have b04:=a62.symm;have a63:h≠F:=by rintro rfl;rw[k8]at x;cases x
   have b05:=a63.symm;have b06:=U.ae a52;have b07:=U.aI n0;have n2:=Q.a3K (N:=C) (e5:=D) (h6:=E) k7 a29;have l0:=n2.a3L (N:=o) (e5:=p) (h6:=r) k9 a57;have b08:=n2.all.1;have b09:=l0.all.1;have b10:=l0.all.2.1;have n3:=a3y b v S ⟨a.name,a.aD,s,cj⟩ _ l0 ⟨X.n,X.c,X.cs⟩ w a01 a02;have eJ:=U.ae k8;have b11: ∀W S,W≠F->t W=some S->(t.set F (.cells (ab cj o p r))) W=some S:=λW S a65 k2=>by rw[U.an _ _ a65];exact k2
   refine aa ?_;generalize putAt (putAt e 2 (ab s C D E)) 39 (ab cj o p r)=n4 at*;have a68:dE ((t.set F (.cells (ab cj o p r))).set z (.cells n4)) h T V j b:=⟨(M.mono (U.af U.a6 x)).set m,⟨v,S,by rw[U.an _ _ l3];simp_all,w⟩,d.nT,d.nU⟩;have a69:cB h T V G ((t.set F (.cells (ab cj o p r))).set z (.cells n4)):=λW a71 A B a73 l1=>by
    have k1:W≠z:=by rintro rfl;rw[l]at l1;cases l1
    rw[U.an _ _ k1];exact U.af U.a6 x _ _ (n1 W a71 A B a73 l1)
   generalize (t.set F _).set z _=a74 at*;refine ah (n3 a74) ?_;clear n3;rintro u b12 ⟨n5,O⟩;have n9:=a68.sub n5;obtain⟨b13,b14,a81,b15⟩:=n9.x;have b16:=U.aI a81;have a83:=a69.trans (cB.of n5);cases a00:kf b ⟨a.name,a.aD,s,cj⟩with
   |error f=>
    rw[a00]at O c;obtain⟨l7,rfl⟩:=O
    dsimp only[iW]at c
    refine aa ?_;grind
   |ok b17=>
    rw[a00]at O c;obtain⟨b18,a84,rfl⟩:=O
    dsimp only[iW]at c
    refine aa ?_;exact⟨_,U.a6,by rw[<-c],by rw[<-c];exact n9.put a84,a83.A0⟩
def A1 (a:e3.find? (λe8=>decide (e8.name=A))=some e8):e8∈e3:=List.mem_of_find?_eq_some a
def jv.a3M (c:w.sum.length=32) (d:w.cv) (h:w.size<=2000000) (k:1<=e) (o:e<=8) (p:q.length=e):jv i v 105 (λa=>rE e q a w) w q e:=
 λr a x y z C D=>(a3h r i v a D w x y z c d h q C e k o p).mono λE F b=>⟨b.1,b.2.1,b.2.2.x⟩
def jv.a3N (b:w.sum.length=32) (c:w.cv) (d:w.size<=2000000) (h:1<=e) (k:e<=8) (o:q.length=e):jv i v 107 (λa=>jt e q a w) w q e:=
 λp a r x y z C=>a3k p i v a C w r x y b c d q z e h k o
def jv.a3O (c:w.sum.length=32) (d:w.cv) (h:1<=e) (k:e<=8) (o:q.length=e):jv i v 106 (λa=>lz e q a w) w q e:=
 λp a r x y z C=>(a0e p i v a C w r x y c d q z e h k o).mono λD E b=>⟨b.1,b.2.1,b.2.2.x⟩
def jv.a3P (c:w.sum.length=32) (d:w.cv) (h:1<=e) (k:e<=8) (o:q.length=e):jv i v 108 (λa=>lA e q a w) w q e:=
 λp a r x y z C=>(a0m p i v a C w r x y c d q z e h k o).mono λD E b=>⟨b.1,b.2.1,b.2.2.x⟩
def kU (a:ag) (c:List aU) (d:dq):Int×List aU×ag:=match oZ c d with
 |(_,none)=>(3,c,a)
 |(h,some b)=>if h=0 then gF (λa=>jt (b.aD.length+1) d.row a b.bo) (λa=>lA (b.aD.length+1) d.row a b.bu) a c b else(h,c,a)
theorem a3Q (x:U) (p y z:Nat) (c:ag) (d:List aU) (e:dE x p y z c d) (f: ∀b∈d,b.Fit) (s:cI d=true) (a:dr) (t:a.d.Fit):
  AC Tryz.prog 58 [.ptr p 0,a.V] x λE C=>E= .v (.int .i64 (kU c d a.d).1)/\dE C p y z (kU c d a.d).2.2 (kU c d a.d).2.1/\cB p y z x C:=by
 obtain⟨u,k3⟩:=oY s;have h:(match oZ d a.d with
  |(_,none)=>(3,d,c)
  |(g,some b)=>if g=0 then gF (λc=>jt (b.aD.length+1) a.d.row c b.bo) (λc=>lA (b.aD.length+1) a.d.row c b.bu) c d b else(g,d,c))=kU c d a.d:=rfl
 generalize kU c d a.d=k4 at*;have i:=λC F=>GF C p y z c d F aaU a t;have j:a.V= .agg [ak a.d.kind,bn a.d.table,.J (bL a.d.aD) a.gx,.J (ad a.d.row) a.dt]:=rfl;obtain⟨k5,k6,v,k7⟩:=e.x;rw[j]at i|-;clear j;have k8:=U.ae v;have k9:=hp.all.1;refine aK hm Mj ?_;refine bp λG w=> ?_;have l:=U.af (X:= .cells [ak a.d.kind,bn a.d.table,.J (bL a.d.aD) a.gx,.J (ad a.d.row) a.dt]) (U.a6) w;have aE:=U.ai x G (.cells [ak a.d.kind,bn a.d.table,.J (bL a.d.aD) a.gx,.J (ad a.d.row) a.dt]);generalize x.set G _=A at*;have m:=e.sub l;refine ah (i A m) ?_;rintro E l0 ⟨L,k⟩;have n:=L _ _ aE;have l1:=U.ae n;have B:=m.sub L;have H:=U.au l L;have P: ∀b T,eF b T->putAt fD 0 T=T:=λb T F=>(oU F).2.2.1;have l2:=hp.all.2.1;have l3:=P _ _ hp;have S:=kR;generalize fD=l4 at*;unfold oZ at k h;cases V:d.find? (λb=>decide (b.name=a.d.table))with
 |none=>
  rw[V]at k h
  dsimp only at k h
  obtain rfl:=k;refine aa ?_;refine aN λW r=> ?_;rw[S];refine aa ?_;grind[U.a6,U.af,cB.of,U.au]
 |some b=>
  rw[V]at k h;have hm:=A1 V
  dsimp only at k h
  by_cases D:a.d.row.length=b.aD.length+1
  .rw[if_pos D]at k h;obtain⟨T,o,rfl⟩:=k;obtain⟨I,K,M,_⟩:=o.all;have N:=P _ _ o;refine aa ?_;refine aN λW r=> ?_;rw[S]
   dsimp only at h
   rw[if_pos rfl]at h;have O:G≠W:=by rintro rfl;rw[n]at r;cases r
   have l5:=O.symm;obtain⟨Q,X⟩:=o.k;obtain⟨Y,Z⟩:=o.z;have q:=u b hm;have l6:=q.c;have l7:=q.k.size;have j9:=B.sub (U.af (X:= .cells T) U.a6 r);have k0:=GH _ p y z c d j9 f aaU b T o (f b hm) a.d.row a.dt 107 108 _ _ aaZ aaZ (jv.a3N Q X aaU aaU aaU D) (jv.a3P Y Z aaU aaU D);refine aa ?_;refine ah k0 ?_;rintro E l8 ⟨rfl,k1,k2⟩;refine aa ?_;exact⟨_,U.a6,by rw[<-h];exact k1,(cB.of (U.au H (U.af U.a6 r))).trans k2⟩
  .rw[if_neg D]at k h;obtain⟨T,o,rfl⟩:=k;obtain⟨I,K,M,_⟩:=o.all;have N:=P _ _ o;refine aa ?_;refine aN λW r=> ?_;rw[S];refine aa ?_
   dsimp only at h
   rw[if_neg aaY]at h;grind[U.a6,U.af,cB.of,U.au]
end Go.Proofs.YtcfpcblgmmeioaaGreat
