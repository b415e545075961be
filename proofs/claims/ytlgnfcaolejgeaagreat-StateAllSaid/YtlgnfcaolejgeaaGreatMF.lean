import Derived.Test.YtlgnfcaolejgeaaGreatME
import Derived.Test.YtlgnfcaolejgeaaGreatMC
import Derived.Test.YtlgnfcaolejgeaaGreatMD
import Derived.Test.YtlgnfcaolejgeaaGreatMB
import Derived.Shelf.SlSortCmp.NoneTotal
import Derived.Shelf.SlLaysF
import Derived.Test.YtlgnfcaolejgeaaGreatProg
set_option linter.all false
set_option maxRecDepth 100000
namespace Go.Proofs.YtlgnfcaolejgeaaGreat
open Go Go.bz
def bw (c:U):(d:Nat)->a6.T d->R->Prop
 |0,a,h=> ∃b p k o,h= .ptr b 0/\c b=some (.cells [.J p k,.J [] o])/\az isRow (a6.rows a) p
 |d+1,a,h=> ∃b r k o,h= .ptr b 0/\c b=some (.cells [.J [] o,.J r k])/\az (bw c d) (a6.kids a) r/\a6.kids a≠ []/\(a6.kids a).length<=1000
def bw.fC {r x:U} (d:ir r x): ∀ {a:Nat}{b:a6.T a}{c:R},bw r a b c->bw x a b c
 |0,b,c,⟨h,y,k,eT,h1,o,p⟩=>⟨h,y,k,eT,h1,d _ _ o,p⟩
 |a+1,b,c,⟨h,z,k,eT,h1,o,p,C⟩=>⟨h,z,k,eT,h1,d _ _ o,p.mono λ_ _=>bw.fC d,C⟩
variable{f t e4:U}{e i v O b9 j1:Nat}
def bw.mono (b:f.sub e4) {t:a6.T e}{a:R} (c:bw f e t a):bw e4 e t a:=c.fC (U.o4 b)
theorem bw.cells {d:U}{a:Nat}{h:a6.T a}{b:R} (c:bw d a h b):b.cells.length=1:=by
 cases a with
 |zero=>obtain⟨k,_,_,_,rfl,_⟩:=c;rfl
 |succ a=>obtain⟨k,_,_,_,rfl,_⟩:=c;rfl
theorem bw.ptr {c:U}{a:Nat}{k:a6.T a}{d:R} (h:bw c a k d): ∃b o p,d= .ptr b 0/\c b=some (.cells [o,p]):=by
 cases a with
 |zero=>obtain⟨b,_,_,_,rfl,r,_⟩:=h;simp_all
 |succ a=>obtain⟨b,_,_,_,rfl,r,_⟩:=h;simp_all
theorem E9 {k:Type}: ∀(a:Nat) (b:List k),a<=b.length-> ∀d∈a6.eU a b,d≠ []
 |0,b,_,d,c=>by cases c
 |a+1,b,p,d,c=>by
  have r:=a7E b.length (a+1);have hm:=a6L b.length (a9g a);have x:1<=b.length/(a+1):=(Nat.le_div_iff_mul_le (a9g a)).2 a9k;rw[a6.eU]at c;generalize b.length/(a+1)=h at*;generalize b.length%(a+1)=y at*;have z:(a+1)*h=a*h+h:=by rw[a5Q];omega
  have C:a<=a*h:=a8A _ a9k;rcases a5g.1 c with rfl|c
  .intro o;have:=congrArg List.length o;grind
  .exact E9 a _ (by rw[a4Y];split<;>omega) d c
variable{b0:Type}
def Z9 (a:List b0):a6.chunks a=(List.range (a6.bU a.length)).map λb=>(a.drop (b*(a.length/a6.bU a.length)+min b (a.length%a6.bU a.length))).take (a.length/a6.bU a.length+if b<a.length%a6.bU a.length then 1 else 0):=a6.Du _ _
def fl (a b:Nat):Nat:=b*(a/a6.bU a)+min b (a%a6.bU a)
def xX (a:i<a6.bU e):fl e (i+1)=fl e i+(hf e).getD i 0:=by rw[xW a];unfold fl;rw[a5Q];split<;>omega
def Ea (a:i<=a6.bU e):fl e i<=e:=by have:=a7E e (a6.bU e);have:=a4W (e/a6.bU e) a;unfold fl;omega
def uz {a:List b0}:(a6.chunks a).length=a6.bU a.length:=np.1
def Eb {a:List b0} (b:e<a6.bU a.length):(a6.chunks a).take (e+1)=(a6.chunks a).take e++ [(a.take (fl a.length (e+1))).drop (fl a.length e)]:=by rw[a5T,Z9,a5i,a6W b,xX b,xW b,a6a];simp[fl]
def Ec (a:i<a6.bU e):(iG (hf e))[i]? =some (.v (.int .i64 ((hf e).getD i 0:Nat))):=by simp[iG,uy,a]
variable{g A e1:List R}
def bw.c {a:List (a6.T e)} (b:az (bw f e) a g):aT 1 g:=b.cells λ_ _=>bw.cells
def Ed (a:List (List Int)) (o:List R) (G:Own) (p:U) (r:az isRow a o) (L:a.length<=1000):
  AC Tryz.prog 164 [.J o G] p λP d=>p.sub d/\ ∃k x,P= .J k x/\az (bw d 0) ((a6.chunks a).map a6.leaf) k:=by
 have s:=r.len;have t:=iF r;have u:=xV (a:=a.length);have v:(iG (hf a.length)).length=a6.bU a.length:=ux.trans uy;refine aM hm O4 ?_;refine cl (E8 a.length L p) ?_;rintro _ S ⟨T,w,rfl⟩;have A:fl a.length 0=0:=by simp[fl]
 refine aa ?_;refine ch [0,5] (λb:Nat×List R×Own=> [(3,.J b.2.1 b.2.2),(4,.v (.int .i64 (fl a.length b.1))),(6,.v (.int .i64 (b.1)))]) (λb d=>b.1<=a6.bU a.length/\az (bw d 0) (((a6.chunks a).take b.1).map a6.leaf) b.2.1/\bf S d 1 b.2.1 b.2.2) (λb=>a6.bU a.length - b.1) (0,[],.nil) ⟨⟨a9l,trivial,bf.nil U.a1⟩,aS⟩ ?_;rintro⟨c,k,V⟩ W ⟨e,h,y⟩ B
 dsimp only at e h y|-
 have f:=h.len;rw[a4T,a4K,uz]at f;refine aa ?_;refine aG (λg=> ?_) λg=> ?_
 .have H:=xX (e:=a.length) (i:=c) a9k;have I:=Ea (e:=a.length) (i:=c+1) a9k;have K:=Ec (e:=a.length) (i:=c) a9k;have i:=Eb (a:=a) (e:=c) a9k;have z:=(r.take (fl a.length (c+1))).drop (fl a.length c);generalize M:fl a.length (c+1)=C at*;generalize fl a.length c=D at*;generalize (hf a.length).getD c 0=j at*;have N:(D)+(j)=(C:Int):=a9k;refine sd (iF z) (λE l O=> ?_);refine bp λF Q=> ?_;have m:=qv (f:=W) (t:=l.set F (.cells [.J ((o.take C).drop D) E,.J [] .nil]));refine hP (y.mono m) (bw.c h) λ_ x d n q=> ?_;refine⟨(c+1,_,x),⟨by simp only;omega,?_,n⟩,⟨rfl,by simp only;congr 3;omega,rfl⟩,by simp only;omega⟩;simp only[i,a5J];exact(h.mono λ_ _=>bw.fC fT).snoc ⟨F,_,E,.nil,rfl,q _ _ (U.ah _ _ _),z⟩
 .rw[a4I (by rw[uz];omega)]at h;exact⟨_,U.a1,U.au T y.sub,k,V,rfl,h⟩
theorem xY (z:U) (a:List (a6.T e)) (r:List R) (P:Own) (k:U) (x:az (bw z e) a r) (S:a.length<=1000) (T:z.sub k):
  AC Tryz.prog 165 [.J r P] k λV d=>k.sub d/\ ∃o y,V= .J o y/\az (bw d (e+1)) ((a6.chunks a).map a6.node) o:=by
 have A:=x.len;have B:=bw.c x;have W:=xV (a:=a.length);have H:(iG (hf a.length)).length=a6.bU a.length:=ux.trans uy;refine aM hm O6 ?_;refine cl (E8 a.length S k) ?_;rintro _ f ⟨C,I,rfl⟩;have K:fl a.length 0=0:=by simp[fl]
 refine aa ?_;refine ch [0,5] (λc:Nat×List R×Own=> [(3,.J c.2.1 c.2.2),(4,.v (.int .i64 (fl a.length c.1))),(6,.v (.int .i64 (c.1)))]) (λc d=>c.1<=a6.bU a.length/\az (bw d (e+1)) (((a6.chunks a).take c.1).map a6.node) c.2.1/\bf f d 1 c.2.1 c.2.2) (λc=>a6.bU a.length - c.1) (0,[],.nil) ⟨⟨a9l,trivial,bf.nil U.a1⟩,aS⟩ ?_;rintro⟨b,o,g⟩ i ⟨j,h,p⟩ M
 dsimp only at j h p|-
 have l:=h.len;rw[a4T,a4K,uz]at l;refine aa ?_;refine aG (λm=> ?_) λm=> ?_
 .have N:=xX (e:=a.length) (i:=b) a9k;have O:=Ea (e:=a.length) (i:=b+1) a9k;have Q:=Ec (e:=a.length) (i:=b) a9k;have n:=Eb (a:=a) (e:=b) a9k;have q:(a.take (fl a.length (b+1))).drop (fl a.length b)≠ []:=E9 (a6.bU a.length) a W _ (a4V (i:=b+1) (by grind[a6.chunks]));have D:=(x.take (fl a.length (b+1))).drop (fl a.length b);generalize X:fl a.length (b+1)=E at*;generalize fl a.length b=F at*;generalize (hf a.length).getD b 0=s at*;have Y:(F)+(s)=(E:Int):=a9k;refine sd (bw.c D) (λG t Z=> ?_);refine bp λL j9=> ?_;have u:=qv (f:=i) (t:=t.set L (.cells [.J [] .nil,.J ((r.take E).drop F) G]));have k0:=U.au T (U.au C p.sub);refine hP (p.mono u) (bw.c h) λ_ y d v w=> ?_;refine⟨(b+1,_,y),⟨by simp only;omega,?_,v⟩,⟨rfl,by simp only;congr 3;omega,rfl⟩,by simp only;omega⟩;simp only[n,a5J];exact(h.mono λ_ _=>bw.fC fT).snoc ⟨L,_,G,.nil,rfl,w _ _ (U.ah _ _ _),D.mono λ_ _=>bw.fC fT,q,by simp[a6.fk];omega⟩
 .rw[a4I (by rw[uz];omega)]at h;exact⟨_,U.a1,U.au C p.sub,o,g,rfl,h⟩
end Go.Proofs.YtlgnfcaolejgeaaGreat
namespace Go.a6
variable {lt:Row->Row->Bool}{ok:Row->Prop}
variable{e i v O b9 j1:Nat}{b0:Type}
def qN {a:List b0}{b:b0} (c:a[e]? =some b):a=a.take e++b::a.drop (e+1):=by obtain⟨d,rfl⟩:=a4P.1 c;simp
variable{h4:Row}
def uA (y:Ord lt ok) (z:ok h4) {a:List (T e)} (C:a≠ []) (k: ∀b∈a,1<=len b/\ll e b) (o:jb lt (a.flatMap (bg e))) (p: ∀c∈a.flatMap (bg e),ok c):
  ∃b,a[cT lt h4 (a.map (cQ e))]? =some b/\(∀c∈(a.take (cT lt h4 (a.map (cQ e)))).flatMap (bg e),lt c h4=true)/\(∀c∈(a.drop (cT lt h4 (a.map (cQ e))+1)).flatMap (bg e),lt h4 c=true):=by
 have D:a.map (cQ e)=(a.map (bg e)).map (·.headD []):=by rw[a6K];rfl
 rw[a7T]at o p;obtain⟨r,d,h⟩:=DA y z (a.map (bg e)) (by simpa using C) (λF E=>by
  obtain⟨b,x,rfl⟩:=a5c.1 E;exact xD (k b x).1 (k b x).2) o p
 rw[<-D]at r d h;rw[<-a8k,<-a7T]at d;rw[<-a7B,<-a7T]at h;exact⟨_,a4H (by simpa using r),d,h⟩
theorem qO (C:Ord lt ok) (P:ok h4): ∀(a:Nat) (b:T a),jP a b->jb lt (bg a b)->(∀d∈bg a b,ok d)->h4∉bg a b->
  (eV lt h4 a b).flatMap (bg a)=dL lt (bg a b) h4/\(∀c∈eV lt h4 a b,WF a c)/\1<=(eV lt h4 a b).length/\(eV lt h4 a b).length<=2:=by
 intro a
 induction a with
 |zero=>intro b D p o x;obtain⟨e,rfl⟩:=hX b;obtain⟨y,E,_,_⟩:=D;rw[hY]at y E;obtain⟨F,G,c,_⟩:=Dy (j0:=dL lt e h4) (by rw[ot];omega) (by rw[ot];omega);exact⟨Dw _,F,by simpa[eV,qI] using G,by simpa[eV,qI] using c⟩
 |succ a ih=>
  intro b D p o x;obtain⟨h,rfl⟩:=gp b;obtain⟨y,E,f,L⟩:=D;rw[dD]at y E L;have L:=L a9k;rw[fZ]at p o x|-;have g: ∀c∈h,WF a c:=f;obtain⟨c,r,S,V⟩:=uA C P (by intro i;subst i;simp at y) (λc r=>by grind[gZ]) p o;simp only[eV,fk];generalize cT lt h4 (h.map (cQ a))=z at r S V;rw[r];have s:=qN r;have j:h.flatMap (bg a)=(h.take z).flatMap (bg a)++(bg a c++(h.drop (z+1)).flatMap (bg a)):=by grind
  rw[j]at p o x|-;have l:=(a5K.1 (a5K.1 p).2.1).1;obtain⟨m,t,u,v⟩:=ih c (jP.of (g c (a4O r))) l (λd k=>o d (by simp[k])) (λk=>x (by simp[k]));have W:(h.take z++eV lt h4 a c++h.drop (z+1)).length=h.length - 1+(eV lt h4 a c).length:=by grind
  obtain⟨F,G,n,_⟩:=Dz (by rw[W];omega) (by rw[W];omega) (λd k=>by
   grind)
  refine⟨?_,F,by simpa using G,by simpa using n⟩;simp only[];rw[Dx,a5x,a5x,m,xE S,Ys,a4U];intro d k;cases q:lt d h4 with
  |false=>rfl
  |true=>have:=C.trans d h4 d (o d (by simp[k])) P (o d (by simp[k])) q (V d k);rw[C.ja]at this;cases this
theorem Ee {a b:T e} (k:ll e a) (o:ll e b) (d:2<=len a+len b) (h:len a+len b<=5):
  (kA a b).flatMap (bg e)=bg e a++bg e b/\(∀c∈kA a b,WF e c)/\1<=(kA a b).length/\(kA a b).length<=2:=by
 cases e with
 |zero=>obtain⟨a,rfl⟩:=hX a;obtain⟨b,rfl⟩:=hX b;grind[hY,Dy,kA,qI,kz,Dw]
 |succ e=>obtain⟨a,rfl⟩:=gp a;obtain⟨b,rfl⟩:=gp b;rw[dD,dD]at d h;obtain⟨r,x,y,_⟩:=Dz (a:=a++b) (by simpa using d) (by simpa using h) (λc p=>(a4X.1 p).elim (k c) (o c));grind[kA,fk,fZ,Dx]
variable{j0:List Row}
theorem filter_none (b:h4∉j0):j0.filter (λa=>decide (a≠h4))=j0:=by rw[a8e];grind
theorem Za (b:jb lt j0) (d: ∀h4,lt h4 h4=false):j0.length - 1<=(j0.filter λc=>decide (c≠h4)).length:=by
 induction j0 with
 |nil=>simp
 |cons a j0 ih=>
  have h:=a5r.1 b;by_cases bW:a=h4
  .subst bW;have:a∉j0:=λk=>by grind
   rw[a8C a9l,filter_none this];simp
  simp_all
theorem pt (E:Ord lt ok) (v:ok h4): ∀(a:Nat) (d:T a),jP a d->jb lt (bg a d)->(∀h∈bg a d,ok h)->
  bg a (cL lt h4 a d)=(bg a d).filter (λh=>decide (h≠h4))/\ll a (cL lt h4 a d)/\len d - 1<=len (cL lt h4 a d)/\len (cL lt h4 a d)<=4:=by
 intro a
 induction a with
 |zero=>intro d P o r;obtain⟨Q,rfl⟩:=hX d;obtain⟨F,G,_,_⟩:=P;rw[hY]at F G;simp only[cL,qI,kz,hY]at o|-;exact⟨trivial,trivial,Za o E.ja,by grind⟩
 |succ a ih=>
  intro d P o r;obtain⟨b,rfl⟩:=gp d;obtain⟨F,G,w,S⟩:=P;rw[dD]at F G S;have S:=S a9k;rw[fZ]at o r|-;have V: ∀p∈b,WF a p:=w;obtain⟨p,x,i,j⟩:=uA E v (by intro y;subst y;simp at F) (λp x=>by grind[gZ]) o r;simp only[cL,fk,dD];generalize cT lt h4 (b.map (cQ a))=c at x i j;rw[x];simp only[dD,fZ];have X:=qN x;obtain⟨A,_⟩:=a4P.1 x;have B:b.flatMap (bg a)=(b.take c).flatMap (bg a)++(bg a p++(b.drop (c+1)).flatMap (bg a)):=by grind
  have Y:=o;have Z:=r;rw[B]at o r;have l:=V p (a4O x);have j9:=gZ.1 l;obtain⟨H,L,I,m⟩:=ih p (jP.of l) (a5K.1 (a5K.1 o).2.1).1 (λh z=>r h (by simp[z]));generalize cL lt h4 a p=h at H L I m;have k0:=filter_none λz=>by
   have:=i h4 z;rw[E.ja]at this;cases this
  have k1:=filter_none λz=>by
   have:=j h4 z;rw[E.ja]at this;cases this
  have n:(b.flatMap (bg a)).filter (λh=>decide (h≠h4))=(b.take c).flatMap (bg a)++(bg a h++(b.drop (c+1)).flatMap (bg a)):=by grind
  rw[n];unfold ln;by_cases W:2<=len h
  .rw[if_pos W];have y:b.set c h=b.take c++h::b.drop (c+1):=by rw[a5Y,if_pos A]
   refine⟨by grind,λq C=> ?_,a9l,by simpa using G⟩;rw[fk,y]at C;simp only[a4X,a5g]at C;rcases C with C|rfl|C;grind
   .exact gZ.2 ⟨W,m,L⟩
   grind
  .rw[if_neg W];have k2:len h=1:=a9k;by_cases e:c=0
   .subst e;have k:b[1]? =some b[1]:=a4H a9k;simp only[if_true];rw[k];simp only[Nat.zero_sub,a6D,a5a,a5h,a7x]at n|-;generalize b[1]=D at k;have f:=V D (a4O k);have g:=gZ.1 f;obtain⟨s,K,q,y⟩:=Ee L g.2.2 a9k a9k;have t:b.drop 1=D::b.drop 2:=by obtain⟨M,rfl⟩:=a4P.1 k;simp
    refine⟨by grind,λN u=> ?_,a9m,a9m⟩;grind[fk,List.mem_of_mem_drop]
   .rw[if_neg e];have k:b[c - 1]? =some b[c - 1]:=a4H a9k;rw[k];simp only[if_neg e];generalize b[c - 1]=D at k;have f:=V D (a4O k);have g:=gZ.1 f;obtain⟨s,K,q,y⟩:=Ee g.2.2 L a9k a9k;have t:b.take c=b.take (c - 1)++ [D]:=by
     obtain⟨M,rfl⟩:=a4P.1 k
     conv=>lhs;rw[show c=c - 1+1 by omega]
     simp
    have O:c - 1+2=c+1:=a9k;rw[O];refine⟨by rw[a5x,a5x,s,t,a5x];simp,λN u=> ?_,a9m,a9m⟩;simp only[fk,a4X]at u;grind
end Go.a6
namespace Go.Proofs.YtlgnfcaolejgeaaGreat
open Go Go.bz
abbrev eE:=Option ((a:Nat)×a6.T a)
def fL (c:U) (a:eE) (b:R):Prop:=
 match a with
 |none=>b= .v (.pointer none)
 |some ⟨d,a⟩=>bw c d a b
def fL.fC {b c:U} (k:ir b c) {a:eE}{d:R} (h:fL b a d):fL c a d:=by
 match a with
 |none=>exact h
 |some ⟨_,_⟩=>exact bw.fC k h
variable{e i v O b9 j1:Nat}
def pv:List (a6.T e)->eE
 | []=>none
 | [a]=>some ⟨e,a⟩
 |b=>some ⟨e+1,a6.node b⟩
variable{b0:Type}
def Zb {a:List b0} (b:a.length=1): ∃c,a= [c]:=a6I.1 b
theorem Zc (c:List (a6.T e)) (x:List R) (E:Own) (p:U) (F:az (bw p e) c x) (G:c.length<=4):
  AC Tryz.prog 98 [.J x E] p λL h=>p.sub h/\fL h (pv c) L:=by
 refine aM hm M6 ?_;refine ch [] (λd:List R×Own=> [(0,.J d.1 d.2)]) (λd h=>p.sub h/\(az (bw h e) c d.1\/2<=c.length/\ ∃a,d.1= [a]/\bw h (e+1) (a6.node c) a)) (λd=>d.1.length) (x,E) ⟨⟨U.a1,.inl F⟩,aS⟩ ?_;rintro⟨r,P⟩ y ⟨z,b⟩ g
 dsimp only at b|-
 refine aa ?_;refine aG (λk=> ?_) λk=> ?_
 .rcases b with b|⟨_,a,rfl,_⟩
  .have i:=b.len;refine cl (xY y c r P y b a9k U.a1) ?_;rintro _ j ⟨S,l,T,rfl,C⟩;rw[a6.pq a9k G]at C;obtain⟨a,rfl⟩:=Zb C.len;refine aa ?_;exact⟨([a],T),⟨U.au z S,.inr ⟨a9k,a,rfl,C.1⟩⟩,rfl,a9m⟩
  .simp at k
 .have V:(r= []/\c= [])\/ ∃a,r= [a]/\fL y (pv c) a:=by
   rcases b with b|⟨W,a,rfl,b⟩
   .match c,r,b,k with
    | [],[],_,_=>simp
    | [m],[a],b,_=>exact .inr ⟨a,rfl,b.1⟩
    | _:: _:: _,_:: _:: _,_,k=>simp at k;omega
   .match c,W with
    | _:: _:: _,_=>exact .inr ⟨a,rfl,b⟩
  clear b;rcases V with ⟨rfl,rfl⟩|⟨a,rfl,o⟩
  .refine aa ?_;exact⟨_,U.a1,z,rfl⟩
  .have f:(∃D,a= .ptr D 0)\/a= .v (.pointer none):=by
    unfold fL at o;split at o
    .exact .inr o
    .obtain⟨D,_,_,n,_⟩:=o.ptr;simp_all
   rcases f with ⟨D,rfl⟩|rfl
   all_goals refine aa ?_;exact⟨_,U.a1,z,o⟩
theorem xZ: ∀(b:Nat) (d:a6.T b) (T:R) (p:U),bw p b d T->(a6.bg b d).length<=100000->
  AC Tryz.prog 94 [T] p λW F=>p.sub F/\ ∃h G,W= .J h G/\az isRow (a6.bg b d) h:=by
 intro b
 induction b with
 |zero=>rintro d _ p ⟨e,h,G,f,rfl,k,o⟩ L;have P:=U.af k;have g:=o.len;have w:(a6.rows d).length<=100000:=L;refine aM hm wB ?_;refine sd (iF o) λC i D=> ?_;have P:=rd D.sub k;refine gK [0] (λc:Nat=> [(3,.J h C),(4,.v (.int .i64 (c)))]) (λc=>c=0) (λ_=>0) 0 rfl aS ?_;rintro _ rfl j;refine aa ?_;exact⟨D.sub,h,C,rfl,o⟩
 |succ b ih=>
  rintro d _ p ⟨e,A,G,f,rfl,k,o,B,l⟩ L;obtain⟨r,rfl⟩:=a6.gp d;rw[a6.fk]at o l;rw[a6.fZ]at L|-;have P:=U.af k;have g:=o.len;refine aM hm wB ?_;refine sd Cr λC i D=> ?_;refine ch [0] (λa:Nat×List R×Own=> [(3,.J a.2.1 a.2.2),(4,.v (.int .i64 (a.1)))]) (λa F=>a.1<=r.length/\az isRow ((r.take a.1).flatMap (a6.bg b)) a.2.1/\bf p F 1 a.2.1 a.2.2) (λa=>r.length - a.1) (0,[],C) ⟨⟨a9l,trivial,D⟩,aS⟩ ?_;rintro⟨c,h,m⟩ n ⟨y,x,z⟩ j
  dsimp only at y x z|-
  have P:=rd z.sub k;refine aa ?_;refine aG (λE=> ?_) λE=> ?_
  .have y:c<r.length:=a9k;obtain⟨H,aM,V⟩:=o.get (a4H y);have q:=a6.qN (a4H y);have s:=a5S y;have t:=bw.mono z.sub V;obtain⟨I,_,_,rfl,_⟩:=V.ptr;generalize r[c]=E at*;have K:((r.take c).flatMap (a6.bg b)).length+(a6.bg b E).length<=100000:=by grind
   clear q;have M:=x.len;refine cl (ih E _ n t a9k) ?_;rintro _ N ⟨u,O,Q,rfl,S⟩;have X:=S.len;refine kv (z.mono u) (iF x) (iF S) λv Y k _=> ?_;refine⟨(c+1,_,v),⟨by simp only;omega,?_,k⟩,⟨rfl,rfl⟩,by simp only;omega⟩;simp only[s,a5x,a5j,a7x,a5M];exact x.append S
  .rw[a4I a9k]at x;exact⟨z.sub,h,m,rfl,x⟩
def Zd (a:U):AC Tryz.prog 94 [.v (.pointer none)] a λb c=>c=a/\b= .J [] .nil:=by refine aM hm wB ?_;trivial
def Ze (a:Nat) (b:a6.T a) (d:R) (c:U) (r:bw c a b d) (x:(a6.bg a b).length<=100000) (y:a6.bg a b≠ []):
  AC Tryz.prog 252 [d] c λh z=>c.sub z/\ ∃k,h= .J (ad (a6.cQ a b)) k:=by
 refine aM hm QB ?_;refine cl (xZ a b d c r x) ?_;rintro _ C ⟨D,E,k,rfl,o⟩;unfold a6.cQ;cases p:a6.bg a b with
 |nil=>exact absurd p y
 |cons F h=>rw[p]at o;obtain⟨G,aM,L,rfl⟩:=o.get (i:=0) rfl;refine aa ?_;simp
theorem y0 (b:List (List Int)) (k:List R) (x o:Own) (c:List Int) (d:U) (p:az isRow b k) (E:b.length<=100000) (F: ∀h∈b,h.length<=1000):
  AC Tryz.prog 93 [.J k x,.J (ad c) o] d λh y=>y=d/\h= .v (.bool (decide (c∈b))):=by
 have G:=p.len;refine aM hm LX ?_;refine gK [0,1] (λa:Nat=> [(5,.v (.int .i64 (a)))]) (λa=>a<=b.length/\ ∀r<a,b.getD r []≠c) (λa=>b.length - a) 0 ⟨a9k,λr L=>by omega⟩ aS ?_;rintro a ⟨P,z⟩ S;refine aa ?_;refine aG (λC=> ?_) λC=> ?_
 .obtain⟨_,T,D,rfl⟩:=p.at [] (e:=a) a9k;refine lX (nr (b.getD a []) c D o d (by grind)) ?_;refine aG (λc2=> ?_) λc2=> ?_
  .exact aP (by grind)
  .exact⟨a+1,⟨a9k,upto z c2⟩,rfl,a9k⟩
 grind[aP,List.getElem_of_mem,List.getD]
def gP (a:List Int->List Int->Bool) (b:List Int):Nat->Nat->List (List Int)->Nat
 | _,at_,[]=>at_
 |c,at_,d::bI=>gP a b (c+1) (if a b d=true then at_ else c) bI
def Ef {d:List Int->List Int->Bool}{h:List Int}: ∀(b:List (List Int)) (k c:Nat),(∀a∈b,d h a=true)->gP d h k c b=c
 | [],_,_,_=>rfl
 |a::b,k,c,o=>by
  rw[gP,if_pos (o a a9l)];exact Ef b _ _ λa p=>o a (by simp[p])
theorem Eg {a:List Int->List Int->Bool}{b:List Int}: ∀(c:List (List Int)) (k:List Int) (d:Nat),c.Pairwise (λo p=>a b o=true->a b p=true)->gP a b (d+1) d c=d+a6.cT a b (k::c)
 | [],k,d,_=>rfl
 |h::c,k,d,r=>by
  have x:=a5r.1 r;rw[gP];have y:a6.cT a b (k::h::c)=if a b h=true then 0 else a6.cT a b (h::c)+1:=rfl;rw[y];by_cases hk:a b h=true;simp_all [Ef]
  .rw[if_neg hk,if_neg hk,Eg c h (d+1) x.2];omega
variable{Q:List (List Int)}{q b6:List Int}
theorem Zf {a:List Int->List Int->Bool} (d:Q.Pairwise (λb c=>a q b=true->a q c=true)):gP a q 0 0 Q=a6.cT a q Q:=by
 cases Q with
 |nil=>rfl
 |cons h Q=>grind[gP,Eg,List.pairwise_cons]
def Eh {k o:List Int->List Int->Bool}{c:List Int}: ∀(b:List (List Int)) (d h:Nat),(∀a∈b,k c a=o c a)->gP k c d h b=gP o c d h b
 | [],_,_,_=>rfl
 |a::b,d,h,p=>by
  rw[gP,gP,p a a9l];exact Eh b _ _ λa r=>p a (by simp[r])
def Ei {d:List Int->List Int->Bool}{h k:List Int}: ∀(a:List (List Int)) (b c:Nat),gP d h b c (a++ [k])=if d h k=true then gP d h b c a else b+a.length
 | [],b,c=>by rfl
 |o::a,b,c=>by
  rw[a5V,gP,Ei a,gP,a4M];split<;>omega
theorem Ej (b:List (a6.T e)) (y:R) (c:List Int) (z:Own) (h:U) (E:bw h (e+1) (a6.node b) y) (F:c.length<=1000) (G: ∀d∈b,(a6.bg e d).length<=100000/\a6.bg e d≠ []/\(a6.cQ e d).length<=1000):
  AC Tryz.prog 163 [y,.J (ad c) z] h λL o=>h.sub o/\L= .v (.int .i64 (gP kE c 0 0 (b.map (a6.cQ e)):Int)):=by
 obtain⟨j,l,m,n,rfl,P,p,_,S⟩:=E;rw[a6.fk]at p S;have q:=p.len;have s:gP kE c 0 0 []=0:=rfl;refine aM hm O2 ?_;refine ch [0,1] (λa:Nat=> [(5,.v (.int .i64 (gP kE c 0 0 ((b.map (a6.cQ e)).take a)))),(6,.v (.int .i64 (a)))]) (λa o=>a<=b.length/\h.sub o) (λa=>b.length - a) 0 ⟨⟨a9k,U.a1⟩,aS⟩ ?_;rintro a T ⟨k,r⟩ t;have u:=rd r P;refine aa ?_;refine aG (λd=> ?_) λd=> ?_
 .have k:a<b.length:=a9k;have V:=Ei (d:=kE) (h:=c) (k:=a6.cQ e b[a]) ((b.map (a6.cQ e)).take a) 0 0;rw[a4K,a4T,a6p a9k,show(b.map (a6.cQ e)).take a++ [a6.cQ e b[a]]=(b.map (a6.cQ e)).take (a+1) by simp[a5S,k]]at V;have x:=G _ (a5k k);obtain⟨v,aM,C⟩:=p.get (a4H k);obtain⟨w,_,_,rfl,_⟩:=C.ptr;generalize b[a]=D at*;refine cl (Ze e D _ T (bw.mono r C) x.1 x.2.1) ?_;rintro _ W ⟨f,g,rfl⟩;refine cl (E0 c (a6.cQ e D) z g W F x.2.2) ?_;rintro _ A ⟨i,rfl⟩;have B:=U.au r (U.au f i);refine aa ?_;refine aG (λc2=> ?_) λc2=> ?_;grind;grind
 .rw[a4I (by rw[a4T];omega)]
theorem Zg {b c:List Int->List Int->Bool} (d: ∀a∈Q,b a q=c a q):a6.dL b Q q=a6.dL c Q q:=by
 unfold a6.dL;have r: ∀Q:List (List Int),(∀a∈Q,b a q=c a q)->Q.takeWhile (λa=>b a q)=Q.takeWhile (λa=>c a q)/\Q.dropWhile (λa=>b a q)=Q.dropWhile (λa=>c a q):=by
  intro Q
  induction Q with
  |nil=>intro _;trivial
  |cons h Q ih=>intro d;obtain⟨k,o⟩:=ih λa p=>d a (by simp[p]);simp only[a6b,a7j,d h a9l];rw[k,o];trivial
 simp_all
structure GT (d h:Nat) (t:a6.T h):Prop where
 wf:a6.jP h t
 dU:a6.jb bC (a6.bg h t)
 ok: ∀x∈a6.bg h t,bL d x
 dE:(a6.bg h t).length<=1000
def y3 {a:a6.T e} (b:a6.bg e a≠ []):a6.cQ e a∈a6.bg e a:=by
 unfold a6.cQ;cases c:a6.bg e a with
 |nil=>trivial
 |cons d h=>simp
structure Zh (d:Nat) {h:Nat} (bI:List (a6.T h)) (p:List Int):Prop where
 ne:bI≠ []
 two:2<=bI.length/\bI.length<=4
 hd: ∀c∈bI,GT d h c/\a6.WF h c/\a6.bg h c≠ []/\bL d (a6.cQ h c)
 Ek:gP kE p 0 0 (bI.map (a6.cQ h))=a6.cT bC p (bI.map (a6.cQ h))
 at_: ∃c,bI[a6.cT bC p (bI.map (a6.cQ h))]? =some c
theorem GT.kids (x:1<=e) (y:e<=8) {d:List (a6.T i)} (p:GT e (i+1) (a6.node d)) (z:bL e q):Zh e d q:=by
 obtain⟨D,E,T,r⟩:=p.wf;rw[a6.dD]at D E r;have r:=r a9k;have V: ∀a∈d,a6.WF i a:=T;have h:=p.dU;have k:=p.ok;have F:=p.dE;rw[a6.fZ]at h k F;have o:d≠ []:=by intro W;subst W;simp at D
 have c: ∀a∈d,GT e i a/\a6.WF i a/\a6.bg i a≠ []/\bL e (a6.cQ i a):=by intro a b;have C:=V a b;have f:=a6.gZ.1 C;have o:=a6.xD a9k f.2.2;obtain⟨v,w,g⟩:=a7m b;rw[g,a5x,a5j]at h k F;have j:=(a5K.1 (a5K.1 h).2.1).1;refine⟨⟨a6.jP.of C,j,λl m=>k l (by simp[m]),by grind⟩,C,o,k _ (by simp[y3 o])⟩
 refine⟨o,⟨r,E⟩,c,?_,?_⟩
 .rw[Eh _ _ _ λA n=>by
   obtain⟨a,b,rfl⟩:=a5c.1 n;exact E4 x y z (c a b).2.2.2]
  refine Zf ?_;rw[a7e];have s:=(List.pairwise_flatMap.1 h).2;refine a7L (λ{G L} P S t=> ?_) s;intro u;exact(gu x y).trans q _ _ z (c G P).2.2.2 (c L S).2.2.2 u (t _ (y3 (c G P).2.2.1) _ (y3 (c L S).2.2.1))
 .obtain⟨a,b,_⟩:=a6.uA (gu x y) z o (λa b=>by grind[a6.gZ]) h k;exact⟨a,b⟩
theorem Zi (P:1<=e) (S:e<=8) (b:List Int) (T:Own) (D:bL e b): ∀(a:Nat) (d:a6.T a) (E:R) (k:U),bw k a d E->GT e a d->b∉a6.bg a d->
  AC Tryz.prog 99 [E,.J (ad b) T] k λV i=>k.sub i/\ ∃x F,V= .J x F/\az (bw i a) (a6.eV bC b a d) x:=by
 have l6:=D.len;intro a
 induction a with
 |zero=>rintro d _ k ⟨j,M,F,N,rfl,y,c⟩ G l;obtain⟨O,rfl⟩:=a6.hX d;rw[a6.qI]at c;obtain⟨_,Q,_,_⟩:=G.wf;have W:=G.ok;rw[a6.hY]at Q;rw[a6.kz]at W;have m:=U.af y;refine aM hm Bl ?_;refine cl (Z8 O M F T b k c a9k (λV X=>by have:=(W V X).len;omega) a9k) ?_;rintro _ n ⟨z,Y,Z,rfl,q⟩;rw[Zg (c:=bC) λj9 s=>E4 P S (W j9 s) D]at q;refine cl (Ed _ Y Z n q (by rw[a6.ot];omega)) ?_;rintro _ l7 ⟨k0,x,k1,rfl,L⟩;refine aa ?_;exact⟨_,U.a1,U.au z k0,x,k1,rfl,L⟩
 |succ a ih=>
  intro d E k L G l;obtain⟨h,rfl⟩:=a6.gp d;have C:=G.kids P S D;have t:=Ej h E b T k L a9k λo p=>by
   obtain⟨r,_,l8,k2⟩:=C.hd o p;have:=r.dE;have:=k2.len;grind
  obtain⟨j,l9,F,N,rfl,y,c,_,_⟩:=L;rw[a6.fk]at c;have n0:=c.len;obtain⟨n1,n2⟩:=C.two;have n3: ¬(h.length:Int)=0:=a9k;have m:=U.af y;obtain⟨o,p⟩:=C.at_;have u:a6.eV bC b (a+1) (a6.node h)=(a6.chunks (h.take (a6.cT bC b (h.map (a6.cQ a)))++a6.eV bC b a o++h.drop (a6.cT bC b (h.map (a6.cQ a))+1))).map a6.node:=by simp only[a6.eV,a6.fk];rw[p]
  rw[u];rw[C.Ek]at t;clear u;generalize a6.cT bC b (h.map (a6.cQ a))=v at*;have n4:=(a4P.1 p).1;obtain⟨r,_,_,_⟩:=C.hd o (a4O p);have w:b∉a6.bg a o:=λs=>l (by rw[a6.fZ];grind);obtain⟨_,_,n5,n9⟩:=a6.qO (gu P S) D a o r.wf r.dU r.ok w;have a00:=bw.c c;obtain⟨_,a01,A⟩:=c.get p;obtain⟨a02,_,_,rfl,_⟩:=A.ptr;refine aM hm Bl ?_;refine cl t ?_;rintro _ n ⟨z,rfl⟩;have m:=rd z y;have f:=c.take v;refine sd (bw.c f) λa03 k3 B=> ?_;have a04:=rd (U.au z B.sub) y;refine cl (ih o _ k3 (A.fC fT) r w) ?_;rintro _ a05 ⟨k4,x,a06,rfl,g⟩;have a07:=g.len;refine kv (B.mono k4) (bw.c f) (bw.c g) (λa08 k5 k6 k7=> ?_);have a09:k5.read j= _:=U.af ds;have H:=(f.mono λ_ _ a=>bw.fC (fT) a).append (g.mono λ_ _=>bw.fC k7);have I:=c.drop (v+1);refine kv k6 (bw.c H) (bw.c I) (λk8 K k9 l0=> ?_);have l1:=(H.mono λ_ _=>bw.fC l0).append (I.mono λ_ _ a=>bw.fC (fT) a);refine cl (xY K _ _ k8 K l1 (by grind) U.a1) ?_;rintro _ a10 ⟨l2,l3,l4,rfl,l5⟩;refine aa ?_;exact⟨_,U.a1,U.au z (U.au k9.sub l2),l3,l4,rfl,l5⟩
def eF:eE->List (List Int)
 |none=> []
 |some ⟨a,b⟩=>a6.bg a b
def iH (a:Nat):eE->Prop
 |none=>True
 |some ⟨b,c⟩=>GT a b c
def kF (a:eE) (b:List Int):eE:=
 match a with
 |none=>some ⟨0,a6.leaf [b]⟩
 |some ⟨c,a⟩=>if b∈a6.bg c a then some ⟨c,a⟩else pv (a6.eV bC b c a)
def Zj (z:1<=e) (C:e<=8) (c:List Int) (k:Own) (D:bL e c) (a:eE) (E:R) (o:U) (d:fL o a E) (S:iH e a):
  AC Tryz.prog 55 [E,.J (ad c) k] o λp F=>o.sub F/\ ∃G r,p= .aL [G,.v (.bool r)]/\fL F (kF a c) G:=by
 match a with
 |none=>obtain rfl:=d;refine aM hm Be ?_;refine dd U.a1 (by simp[aT,R.cells]) λT v V=> ?_;refine aa ?_;refine bp λL W=> ?_;exact⟨_,U.a1,U.au V.sub (U.ae U.a1 W),_,_,rfl,L,_,T,.nil,rfl,U.ah _ _ _,⟨k,rfl⟩,trivial⟩
 |some ⟨x,a⟩=>
  obtain⟨r,L,w,rfl,A⟩:=bw.ptr d;have b:GT e x a:=S;have B:=b.dE;refine aM hm Be ?_;refine cl (xZ x a (.ptr r 0) o d a9k) ?_;rintro _ P ⟨y,f,g,rfl,i⟩;refine lX (y0 _ f g k c P i a9k λp j=>by have:=(b.ok p j).len;omega) ?_;refine aG (λh=> ?_) λh=> ?_
  .refine⟨_,U.a1,y,_,_,rfl,?_⟩;simp only[kF,if_pos h];exact bw.mono y d
  .refine cl (Zi z C c k D x a (.ptr r 0) P (bw.mono y d) b h) ?_;rintro _ l ⟨m,n,q,rfl,s⟩;obtain⟨_,_,H,I⟩:=a6.qO (gu z C) D x a b.wf b.dU b.ok h;refine cl (Zc _ n q l s a9k) ?_;rintro p K ⟨t,u⟩;refine aa ?_;refine⟨_,U.a1,U.au y (U.au m t),_,_,rfl,?_⟩;simp only[kF,if_neg h];exact u
structure hg (d:Nat) (b:List Int×List Int):Prop where
 ok:cR b.1 b.2 d=true
 aU:cI b.1
 aV:cI b.2
theorem lp:cR q b6 e=true↔1<=e/\e<=8/\q.length=e/\b6.length=e/\ ∀a,a<e->q.getD a 0<=b6.getD a 0:=by unfold cR;grind
theorem El {b:Int->Int->Int} (h: ∀a c,b a c=a\/b a c=c) (k:cI q) (o:cI b6):cI (List.zipWith b q b6):=by intro a d;obtain⟨p,r,rfl⟩:=a5t d;grind[List.length_zipWith,List.getElem_mem]
theorem Em {a:Int->Int->Int} (b:e<q.length) (c:e<b6.length):(List.zipWith a q b6).getD e 0=a (q.getD e 0) (b6.getD e 0):=by grind
theorem y4 {d h:List Int×List Int} (a:hg e d) (b:hg e h):hg e (cS d h):=by
 have c:=lp.1 a.ok;have k:=lp.1 b.ok;unfold cS;rw[c.2.2.1,k.2.2.1,if_pos a.ok,if_pos b.ok,if_pos rfl];refine⟨lp.2 ⟨c.1,c.2.1,by simp_all,by simp_all,λr x=> ?_⟩,?_,?_⟩;grind
 .exact El (λo p=>by omega) a.aU b.aU
 .exact El (λo p=>by omega) a.aV b.aV
theorem pw {a:List Int×List Int} (b:hg e a):cS ([],[]) a=a:=by have c:=lp.1 b.ok;unfold cS;have:cR ([]) [] ([]:List Int).length=false:=rfl;rw[if_neg (by rw[this];simp),c.2.2.1,if_pos b.ok]
def y5 (c:1<=e) (d:e<=8) (a:bL e q):hg e (gm q):=by have b:=a.len;unfold gm;rw[if_pos a9k];exact⟨lp.2 ⟨c,d,b,b,λ_ _=>a8H _⟩,a.jU,a.jU⟩
structure mi (d:Nat) (n:Nat) (y:gM):Prop where
 live:y.live=n
 aO:(n=0/\y.aO=([],[]))\/(0<n/\hg d y.aO)
theorem En {h:Nat} (o:1<=h) (p:h<=8): ∀(b:List (List Int)) (c:Nat) (a:gM),(∀d∈b,bL h d)->mi h c a->mi h (c+b.length) ((b.map λd=>(d,true)).foldl dK a)
 | [],c,a,_,k=>by trivial
 |d::b,c,a,r,k=>by
  rw[a5f,a5N,a4M,show c+(b.length+1)=(c+1)+b.length by omega];refine En o p b (c+1) _ (λy z=>r y (by simp[z])) ?_;have C:=y5 o p (r d a9l);rw[dK,if_pos rfl];refine⟨by rw[show(({a with live:=a.live+1,aO:=cS a.aO (gm d)}:gM)).live=a.live+1 from rfl,k.live];omega,.inr ⟨a9k,?_⟩⟩;rcases k.aO with ⟨_,x⟩|⟨_,x⟩;grind[cS,gm,pw]
  .exact y4 x C
structure jd (d n:Nat) (k:ay):Prop where
 sum:k.sum.length=32
 live:k.live=n
 size:k.size=n
 pos:1<=n
 aO:hg d (k.aU,k.aV)
 key:bL d k.key
def Eo {k:Nat}: ∀(a:List (ay×Nat)) (b:Nat) (d:gM),(∀c∈a,jd k c.2 c.1)->mi k b d->mi k (b+(a.map Prod.snd).sum) ((a.map Prod.fst).foldl er d)
 | [],b,d,_,o=>by trivial
 |(c,h)::a,b,d,y,o=>by
  have p:=y (c,h) a9l;simp only[a5f,a5N,a7Q];rw[show b+(h+(a.map Prod.snd).sum)=(b+h)+(a.map Prod.snd).sum by omega];refine Eo a (b+h) _ (λz C=>y z (by simp[C])) ?_;have r:=p.aO;have D:=p.pos;refine⟨?_,.inr ⟨by have:1<=h:=D;omega,?_⟩⟩
  .show d.live+c.live= _;rw[o.live,p.live];push_cast;rfl
  .show hg k (cS d.aO (c.aU,c.aV));rcases o.aO with ⟨_,x⟩|⟨_,x⟩
   .rw[x,pw r];exact r
   .exact y4 x r
def c4:(a:Nat)->a6.T a->ay
 |0,b=>eS (dS (a6.rows b))
 |a+1,b=>eS (en ((a6.kids b).map (c4 a)))
def dw:(a:Nat)->a6.T a->c3
 |0,b=>dS (a6.rows b)
 |a+1,b=>en ((a6.kids b).map (c4 a))
def sK: ∀ {a:Nat}{b:a6.T a},c4 a b=eS (dw a b)
 |0,_=>rfl
 | _+1,_=>rfl
def Zk:dw 0 (a6.leaf Q)=dS Q:=rfl
def y6 {a:List (a6.T e)}:dw (e+1) (a6.node a)=en (a.map (c4 e)):=rfl
structure eX (d h:Nat) (t:a6.T h):Prop where
 wf:a6.jP h t
 ok: ∀x∈a6.bg h t,bL d x
 dE:(a6.bg h t).length<=1048576
def GT.jV {b:a6.T e} (a:GT i e b):eX i e b:=⟨a.wf,a.ok,by have:=a.dE;omega⟩
theorem eX.hd {d:List (a6.T e)} (b:eX i (e+1) (a6.node d)): ∀a∈d,eX i e a/\a6.WF e a:=by obtain⟨z,C,p,D⟩:=b.wf;have c:=b.ok;have h:=b.dE;rw[a6.fZ]at c h;intro a k;have o:=p a k;obtain⟨E,F,r⟩:=a7m k;rw[r,a5x,a5j]at c h;exact⟨⟨a6.jP.of o,λx y=>c x (by simp[y]),by grind⟩,o⟩
def eX.ne {a:a6.T e} (b:eX i e a):a6.bg e a≠ []:=a6.xD b.wf.1 b.wf.2.2.1
structure y7 (d n:Nat) (x:c3):Prop where
 y8:x.In d
 kG:jd d n (eS x)
 oy:fG d x=some (eS x)
variable{w j3:ay}
def jd.ne (a:jd e i w):w≠aA:=by rintro rfl;have:=a.size;have:=a.pos;simp[aA]at*;omega
theorem jd.ok {b c:Nat}{d:ay} (a:jd b c d) (h:c<=1048576):fv b d=true:=by have k:=a.size;have o:=a.live;have p:=a.pos;unfold fv;rw[decide_eq_false a.ne,a8Y,a4L];refine⟨a9m,?_⟩;rw[if_neg a9k];exact a.aO.ok
def jd.kG (a:jd e i w) (c:i<=1048576):w.In e:=by have d:=a.size;have h:=a.live;have k:=a.pos;have b:=lp.1 a.aO.ok;have o:w.aU.length=e:=b.2.2.1;have p:w.aV.length=e:=b.2.2.2.1;have r:=a.key.len;exact⟨a.sum,a.aO.aU,a.aO.aV,a.key.jU,a9k,a9k,a9k,a9k,a9k,a9k,a9k⟩
theorem uB (o:1<=e) (p:e<=8) (c:1<=Q.length) (r:Q.length<=4) (b: ∀a∈Q,bL e a):y7 e Q.length (dS Q):=by
 have x:dR e (dS Q)=true:=by unfold dR dS;simp only[a9h,a4T,List.all_nil,a8X,a4R,decide_true,a4L,a4Z,decide_eq_true_eq,Function.comp];refine⟨λa d=>(b a d).len,?_⟩;simp[c,r]
 have h:=En o p Q 0 ⟨0,(dS Q).rows.length,([],[])⟩ b ⟨rfl,.inl ⟨rfl,rfl⟩⟩;have y:eD (dS Q)=(Q.map λa=>(a,true)).foldl dK ⟨0,(dS Q).rows.length,([],[])⟩:=rfl;rw[<-y,a5h]at h;have z:(eD (dS Q)).size=Q.length:=by rw[xO];simp[dS]
 have C:hg e (eD (dS Q)).aO:=by
  rcases h.aO with ⟨k,_⟩|⟨_,k⟩
  .omega
  .exact k
 refine⟨⟨x,λa d=> ?_,λF G=>by trivial⟩,⟨oe _,h.live,z,c,C,?_⟩,?_⟩
 .obtain⟨D,E,rfl⟩:=a5c.1 d;exact(b D E).jU
 .show bL e (keyOf (dS Q))
  match Q,c with
  |a::Q,_=>exact b a a9l
 .unfold fG;grind
def Zl:(eS (dS Q)).key=Q.headD []:=by show keyOf (dS Q)= _;cases Q<;>rfl
theorem Zm {a:List (ay×Nat)} (o:2<=a.length) (z:a.length<=4) (c: ∀b∈a,jd e b.2 b.1) (p:(a.map Prod.snd).sum=i) (L:i<=1048576):y7 e i (en (a.map Prod.fst)):=by
 have r: ∀b∈a,b.2<=i:=λb c=>by
  rw[<-p];obtain⟨P,S,rfl⟩:=a7m c;simp;omega
 have C:dR e (en (a.map Prod.fst))=true:=by unfold dR en;simp only[a9h,a4T,List.all_nil,a6f,a4R,decide_true,a4L,a4Z,Function.comp];refine⟨λb d=>(c b d).ok (by have:=r b d;omega),?_⟩;simp[o,z];exact λT V d=>⟨(c _ d).key.len,(c _ d).ne⟩
 have x:=Eo a 0 ⟨0,0,([],[])⟩ c ⟨rfl,.inl ⟨rfl,rfl⟩⟩;have D:eD (en (a.map Prod.fst))=(a.map Prod.fst).foldl er ⟨0,0,([],[])⟩:=rfl;rw[<-D,a5h,p]at x;have E:1<=i:=by
  match a,o with
  |b::a,_=>have:=(c b a9l).pos;have:=r b a9l;omega
 have F:(eD (en (a.map Prod.fst))).size=i:=by
  rw[xO,<-p];have: ∀(a:List (ay×Nat)),(∀b∈a,jd e b.2 b.1)->(((a.map Prod.fst).map (·.size)).sum:Int)=(((a.map Prod.snd).sum:Nat):Int):=by
   intro a
   induction a with
   |nil=>intro _;rfl
   |cons b a ih=>intro d;simp only[a5f,a7Q];rw[ih λh k=>d h (by simp[k]),(d b a9l).size];push_cast;rfl
  simp only[en,a4R];rw[this a c];simp
 have G:hg e (eD (en (a.map Prod.fst))).aO:=by
  rcases x.aO with ⟨y,_⟩|⟨_,y⟩
  .omega
  .exact y
 refine⟨⟨C,λW f=>by trivial,λb d=> ?_⟩,⟨oe _,x.live,F,E,G,?_⟩,?_⟩
 .obtain⟨h,k,rfl⟩:=a5c.1 d;exact(c h k).kG (by have:=r h k;omega)
 .show bL e (keyOf (en (a.map Prod.fst)))
  match a,o with
  |b::a,_=>exact(c b a9l).key
 .unfold fG;grind
def nt {r:Nat} (y:1<=r) (z:r<=8): ∀(a:Nat) (c:a6.T a),eX r a c->y7 r (a6.bg a c).length (dw a c)/\(c4 a c).key=a6.cQ a c
 |0,c,d=>by
  obtain⟨E,rfl⟩:=a6.hX c;obtain⟨x,k,_⟩:=d.wf;rw[a6.hY]at x k;have C:=d.ok;rw[a6.kz]at C;exact⟨uB y z x k C,Zl⟩
 |a+1,c,d=>by
  obtain⟨h,rfl⟩:=a6.gp c;obtain⟨x,k,S,o⟩:=d.wf;rw[a6.dD]at x k o;have o:=o a9k;have D:=d.hd;have F:=d.dE;have ih:=λb p=>nt y z a b (D b p).1;have G:(h.map λb=>(c4 a b,(a6.bg a b).length)).map Prod.fst=h.map (c4 a):=by rw[a6K];rfl
  have L:((h.map λb=>(c4 a b,(a6.bg a b).length)).map Prod.snd).sum=(a6.bg (a+1) (a6.node h)).length:=by rw[a6K,a6.fZ,List.length_flatMap];rfl
  have:=Zm (by simpa using o) (by simpa using k) (λT P=>by
   obtain⟨b,p,rfl⟩:=a5c.1 P;simp only[sK];exact(ih b p).1.kG) L F
  rw[G]at this;refine⟨this,?_⟩
  match h,o with
  |b::h,_=>
   show(c4 a b).key= _;have p:=ih b a9l;rw[p.2];unfold a6.cQ;rw[a6.fZ,a5j];have:=(D b a9l).1.ne;cases V:a6.bg a b with
   |nil=>trivial
   |cons W E=>rfl
def uC (b:1<=i) (c:i<=8) {a:a6.T e} (d:eX i e a):jd i (a6.bg e a).length (c4 e a):=by rw[sK];exact(nt b c e a d).1.kG
def Zn (b:1<=i) (c:i<=8) {a:a6.T e} (d:eX i e a):(c4 e a).key=a6.cQ e a:=(nt b c e a d).2
theorem eX.high {r:Nat}: ∀(a:Nat) (b:a6.T a),eX r a b->a+1<=(a6.bg a b).length
 |0,b,c=>by
  have:=c.ne;grind
 |a+1,b,c=>by
  obtain⟨h,rfl⟩:=a6.gp b;obtain⟨x,y,z,d⟩:=c.wf;rw[a6.dD]at x y d;have d:=d a9k;have k:=c.hd
  match h,d with
  |o::p::h,_=>have C:=eX.high a o (k o a9l).1;have D:=eX.high a p (k p a9l).1;rw[a6.fZ,a5j,a5j];simp only[a4J];omega
structure ag.le (a c:ag):Prop where
 m: ∀d b,a.m d=some b->c.m d=some b
 one:a.one=true->c.one=true
variable{H:ag}
theorem ag.le_refl:H.le H:=⟨λ_ _ a=>a,λa=>a⟩
theorem ag.le.trans {b c:ag} (d:H.le b) (h:b.le c):H.le c:=⟨λ_ _ a=>h.m _ _ (d.m _ _ a),λa=>h.one (d.one a)⟩
def ag.le.zero {a:ag} (c:H.le a) (b:a.one=false):H.one=false:=by
 cases d:H.one with
 |false=>rfl
 |true=>rw[c.one d]at b;cases b
theorem lq (b:ag) (c:List UInt8):b.le (eK b c):=by
 unfold eK;split
 .rename_i a;refine⟨λd h k=> ?_,λa=>a⟩;grind
 .split
  .exact⟨λ_ _ a=>a,λ_=>rfl⟩
  .exact ag.le_refl
variable{B:List UInt8}
theorem qP (a:(eK H B).one=false):(eK H B).m (eR B)=some B:=by unfold eK at a|-;grind
variable{c0:c3}
theorem qQ (b:fG e c0=some (eS c0)) (a:ag):dv a e c0=(.ok (eS c0),eK a (cY c0)):=by unfold dv;rw[b]
def gv (c:ag):(b:Nat)->a6.T b->Prop
 |0,a=>c.m (c4 0 a).sum=some (cY (dw 0 a))
 |b+1,a=>c.m (c4 (b+1) a).sum=some (cY (dw (b+1) a))/\ ∀d∈a6.kids a,gv c b d
def gv.mono {c d:ag} (b:c.le d): ∀ {a:Nat}{h:a6.T a},gv c a h->gv d a h
 |0,_,a=>b.m _ _ a
 | _+1,_,a=>⟨b.m _ _ a.1,λk o=>gv.mono b (a.2 k o)⟩
def gv.Zo: ∀ {a:Nat}{b:a6.T a},gv H a b->H.m (c4 a b).sum=some (cY (dw a b))
 |0,_,a=>a
 | _+1,_,a=>a.1
def Ep {a:a6.T e}:(dw e a).kind=if e=0 then 2 else 3:=by cases e<;>rfl
def Zp (c:1<=i) (d:i<=8) {a:a6.T e} (h:eX i e a) (k:gv H e a):fj H i (c4 e a)=some (dw e a):=by have b:=(nt c d e a h).1;unfold fj;rw[k.Zo];simp only;rw[D1 a9k b.y8];simp only;rw[b.oy,sK,if_pos rfl]
theorem qR (b:1<=i) (c:i<=8) {a:a6.T e} (d:eX i e a) (h:gv H e a):iC H i (c4 e a)=some (dw e a):=by simp_all [iC,Zp,Ep]
theorem y9 {r:Type}{b:List r->c3}{x:Nat}: ∀(gs:List (List r)) (c:ag) (h:List ay),(∀a∈gs,fG x (b a)=some (eS (b a)))->
  ∃d,eu b x c gs h=(.ok (h++gs.map λa=>eS (b a)),d)/\c.le d/\(d.one=false-> ∀a∈gs,d.m (eR (cY (b a)))=some (cY (b a)))
 | [],c,h,_=>⟨c,by simp[eu],ag.le_refl,λ_ a z=>by cases z⟩
 |a::gs,c,h,C=>by
  obtain⟨d,E,o,D⟩:=y9 gs (eK c (cY (b a))) (h++ [eS (b a)]) (λp k=>C p (by simp[k]));refine⟨d,?_,(lq _ _).trans o,λy p k=> ?_⟩;grind[eu,qQ]
  .rcases a5g.1 k with rfl|k
   .exact o.m _ _ (qP (o.zero y))
   .exact D y p k
structure Laid (a:ag) (h:Nat) (sh:List (a6.T h)) (r:Except Int (List ay)×ag):Prop where
 ok:r.1= .ok (sh.map (c4 h))
 le:a.le r.2
 ins:r.2.one=false-> ∀c∈sh,gv r.2 h c
def Er {a:a6.T e} (b:a6.WF e a) (c: ∀d∈a6.bg e a,bL i d) (h:(a6.bg e a).length<=1048576):eX i e a:=⟨a6.jP.of b,c,h⟩
theorem Es (o:1<=e) (p:e<=8) (h:ag) (a:List (List Int)) (r:1<=a.length) (L:a.length<=5) (x: ∀c∈a,bL e c):Laid h 0 ((a6.chunks a).map a6.leaf) (ou h e a):=by
 have k: ∀b∈a6.chunks a,1<=b.length/\b.length<=4/\ ∀c∈b,c∈a:=by
  by_cases y:a.length=5
  .rw[a6.sD y];grind
  .rw[a6.pq r a9k];grind
 obtain⟨P,z,C,D⟩:=y9 (a6.chunks a) h [] (λb d=>(uB o p (k b d).1 (k b d).2.1 (λc E=>x c ((k b d).2.2 c E))).oy);unfold ou;rw[z];refine⟨?_,C,λF S G=> ?_⟩
 .rw[a5a,a6K];rfl
 .obtain⟨b,d,rfl⟩:=a5c.1 G;exact D F b d
theorem ya (C:1<=i) (D:i<=8) (p:ag) (a:List (a6.T e)) (f:2<=a.length) (g:a.length<=5) (E: ∀d∈a,a6.WF e d) (j: ∀F∈a.flatMap (a6.bg e),bL i F) (l:(a.flatMap (a6.bg e)).length<=1048576)
  (G: ∀o,p.le o->o.one=false-> ∀d∈a,gv o e d):Laid p (e+1) ((a6.chunks a).map a6.node) (jQ p i (a.map (c4 e))):=by
 have r: ∀b∈a6.chunks a,2<=b.length/\b.length<=4/\(∀d∈b,d∈a)/\(b.flatMap (a6.bg e)).length<=(a.flatMap (a6.bg e)).length:=by
  by_cases x:a.length=5
  .rw[a6.sD x];simp only[a5g,a6h,or_false,forall_eq_or_imp,forall_eq,a4K,a4Y];have L:a.flatMap (a6.bg e)=(a.take 3).flatMap (a6.bg e)++(a.drop 3).flatMap (a6.bg e):=by rw[<-a5x,a5p]
   grind
  .rw[a6.pq a9k a9k];grind
 have P: ∀b∈a6.chunks a,eX i (e+1) (a6.node b):=λb h=>by
  obtain⟨m,n,d,L⟩:=r b h;refine Er (a6.gZ.2 ⟨by rw[a6.dD];omega,by rw[a6.dD];omega,λc k=>E c (d c k)⟩) (λc k=> ?_) (by rw[a6.fZ];omega);grind[a6.fZ]
 have S:a6.chunks (a.map (c4 e))=(a6.chunks a).map (List.map (c4 e)):=by by_cases x:a.length=5;simp_all [a6.sD];grind[a6.pq,c4]
 obtain⟨o,T,y,V⟩:=y9 (b:=en) ((a6.chunks a).map (List.map (c4 e))) p [] (λb h=>by
  obtain⟨c,k,rfl⟩:=a5c.1 h;exact(nt C D (e+1) (a6.node c) (P c k)).1.oy)
 unfold jQ;rw[S,T];refine⟨?_,y,λz d W=> ?_⟩
 .rw[a5a,a6K,a6K];rfl
 .obtain⟨b,h,rfl⟩:=a5c.1 W;exact⟨V z _ (a5c.2 ⟨b,h,rfl⟩),λc k=>G o y z c ((r b h).2.2.1 c k)⟩
theorem Et:mf q b6<0↔bC q b6=true:=by grind[mf]
theorem yb (b:1<=e) (c:e<=8) (d:bL e q) (h:bL e b6):mf q b6=0↔q=b6:=by
 unfold mf;constructor
 .intro a;split at a
  .omega
  .rename_i k;split at a
   .omega
   .rename_i o;exact(gu b c).total q b6 d h (by simpa using k) (by simpa using o)
 .rintro rfl;rw[sJ];simp
theorem yc {y:Nat} (z:1<=y) (C:y<=8) {c:List (List Int)}{k:List Int} (E:a6.jb bC c) (r: ∀d∈c,bL y d) (D:bL y k): ∀(p h b:Nat),h<=b->b<=c.length->b - h<=p->
  (∀a d,c[a]? =some d->a<h->bC d k=true)->(∀a d,c[a]? =some d->b<=a->bC d k=false)->
  (∀a d,c[a]? =some d->a<mh c k p h b->bC d k=true)/\(∀a d,c[a]? =some d->mh c k p h b<=a->bC d k=false)/\mh c k p h b<=c.length
 |0,h,b,T,G,V,h1,L=>by
  obtain rfl:h=b:=a9k;trivial
 |p+1,h,b,T,G,V,h1,L=>by
  rw[mh];by_cases W:h<b
  .rw[if_pos W];have hm:(h+b)/2<c.length:=a9k;have e:=a4H hm;rw[e];simp only;have P:=a6y.1 E;have S:=r _ (a5k hm);by_cases o:mf c[(h+b)/2] k<0
   .rw[if_pos o];have o:=Et.1 o;refine yc z C E r D p _ _ a9k G a9k (λa d F f=> ?_) L;by_cases he:a=(h+b)/2;simp_all
    .obtain⟨x,rfl⟩:=a4P.1 F;exact(gu z C).trans _ _ _ (r _ (a5k x)) S D (P a _ x hm a9k) o
   .rw[if_neg o];have o:bC c[(h+b)/2] k=false:=by simp_all [absurd,Et]
    refine yc z C E r D p _ _ a9k a9k a9k h1 (λa d F f=> ?_);by_cases he:a=(h+b)/2;simp_all
    .obtain⟨x,rfl⟩:=a4P.1 F;cases g:bC c[a] k with
     |false=>rfl
     |true=>have:=(gu z C).trans _ _ _ S (r _ (a5k x)) D (P _ a hm x a9k) g;rw[this]at o;cases o
  grind
theorem Eu (c:1<=e) (d:e<=8) (h:a6.jb bC Q) (k: ∀a∈Q,bL e a) (o:bL e q):
  (∀b a,Q[b]? =some a->b<eW Q q->bC a q=true)/\(∀b a,Q[b]? =some a->eW Q q<=b->bC a q=false)/\eW Q q<=Q.length:=
 yc c d h k o Q.length 0 Q.length a9k (a5n _) a9k (λb a _ p=>by omega) (λb a r p=>by
  simp_all)
theorem Zq (h:1<=e) (k:e<=8) (o:a6.jb bC Q) (p: ∀b∈Q,bL e b) (r:bL e q):Q.take (eW Q q)++q::Q.drop (eW Q q)=a6.dL bC Q q:=by
 obtain⟨D,x,E⟩:=Eu h k o p r;generalize eW Q q=a at*;have y: ∀b∈Q.take a,bC b q=true:=λb z=>by
  obtain⟨F,G,rfl⟩:=a5t z;grind
 conv=>rhs;rw[<-a5p a Q]
 rw[a6.xE y];congr 1;unfold a6.dL;cases C:Q.drop a with
 |nil=>rfl
 |cons c d=>
  have:Q[a]? =some c:=by have:=congrArg (λd=>d[0]?) C;simpa using this
  have:=x a c this (a5n _);simp[this]
theorem yd (d:1<=e) (h:e<=8) (k:a6.jb bC Q) (r: ∀x∈Q,bL e x) (c:bL e q):kB Q q=decide (q∈Q):=by
 obtain⟨F,y,G⟩:=Eu d h k r c;unfold kB;by_cases o:q∈Q
 .obtain⟨a,hm,z⟩:=a5t o;have C:Q[a]? =some q:=by simp_all
  have D:=a6y.1 k;have E:a=eW Q q:=by
   rcases a8o a (eW Q q)with b|b|b;grind[sJ]
   .exact b
   .have p:=D (eW Q q) a a9k hm b;rw[z]at p;have:=y (eW Q q) _ (a4H a9k) (a5n _);rw[p]at this;cases this
  rw[<-E,C,decide_eq_true o];simp only;rw[decide_eq_true];exact(yb d h c c).2 rfl
 grind[decide_eq_false,eW,List.mem_of_getElem?,yb]
theorem Zr (d:1<=e) (h:e<=8) (p:a6.jb bC Q) (k: ∀b∈Q,bL e b) (o:bL e q) (r:q∈Q):Q.take (eW Q q)++Q.drop (eW Q q+1)=Q.filter λb=>decide (b≠q):=by
 have a:=yd d h p k o;rw[decide_eq_true r]at a;unfold kB at a;generalize eW Q q=x at*;cases c:Q[x]? with
 |none=>rw[c]at a;cases a
 |some b=>rw[c]at a;simp only[decide_eq_true_eq]at a;obtain rfl:=(yb d h (k b (a4O c)) o).1 a;have y:=a6.qN c;grind[List.pairwise_cons,List.filter_cons_of_neg,a6.filter_none,sJ]
def jW:H.le (dv H e c0).2:=by
 unfold dv;split
 .exact ag.le_refl
 .exact lq _ _
def ye {h:Type}{c:List h->c3}{d:Nat}: ∀(gs:List (List h)) (a:ag) (b:List ay),a.le (eu c d a gs b).2
 | [],a,b=>ag.le_refl
 |k::gs,a,b=>by
  have o:=jW (H:=a) (e:=d) (c0:=c k);rw[eu];generalize dv a d (c k)=p at*;obtain⟨r,x⟩:=p;cases r with
  |error z=>exact o
  |ok y=>exact o.trans (ye gs x (b++ [y]))
def Ev:H.le (ou H e Q).2:=ye _ _ _
def yf {a:List ay}:H.le (jQ H e a).2:=ye _ _ _
def Ew {c:Nat}{b:List Int}: ∀(d:Nat) (a:ag) (h:ay),a.le (gq c b d a h).2
 |0,a,h=>ag.le_refl
 |d+1,a,h=>by
  rw[gq];cases iC a c h with
  |none=>exact ag.le_refl
  |some k=>
   simp only;by_cases o:k.kind=2
   .rw[if_pos o];by_cases p:kB (k.rows.map Prod.fst) b=true
    .rw[if_pos p];exact ag.le_refl
    .rw[if_neg p];exact Ev
   .rw[if_neg o];cases k.kids[hx b k]? with
    |none=>exact ag.le_refl
    |some r=>
     have x:=Ew (c:=c) (b:=b) d a r;simp only;generalize gq c b d a r=y at*;obtain⟨z,C⟩:=y;cases z with
     |error D=>exact x
     |ok E=>exact x.trans yf
def Ex {d:Nat}: ∀(h:Nat) (a:ag) (b:List ay),a.le (iD d h a b).2
 |0,a,b=>ag.le_refl
 |h+1,a,b=>by
  rw[iD];by_cases c:1<b.length
  .rw[if_pos c];have c:=yf (H:=a) (e:=d) (a:=b);generalize jQ a d b=k at*;obtain⟨o,p⟩:=k;cases o with
   |error x=>exact c
   |ok r=>exact c.trans (Ex h p r)
  .rw[if_neg c];exact ag.le_refl
def Ey:H.le (jc e q H w).2:=by
 unfold jc;split
 .exact jW
 .have a:=Ew (c:=e) (b:=q) (w.size.toNat+1) H w;generalize gq e q (w.size.toNat+1) H w=b at*;obtain⟨c,d⟩:=b;cases c with
  |error h=>exact a
  |ok k=>exact a.trans (Ex _ _ _)
variable{I:Bool}
theorem Ez {a:List ay}:H.le (mg H e I Q a).2:=by unfold mg;split<;>exact jW
theorem join_le {a b:hZ}:H.le (kC H e a b).2:=by
 unfold kC;split
 .exact Ev
 .exact yf
theorem Zs {c:List ay}{a:hZ}:H.le (jT H e c i a).2:=by
 unfold jT;by_cases b:2<=a.rows.length+a.kids.length
 .rw[if_pos b];grind[Ez,mg]
 .rw[if_neg b];grind[ag.le_refl,iC,join_le,hc,kC]
def EA {d:Nat}{b:List Int}: ∀(k:Nat) (c:ag) (o:ay),c.le (ia d b k c o).2
 |0,c,o=>ag.le_refl
 |k+1,c,o=>by
  rw[ia];cases iC c d o with
  |none=>exact ag.le_refl
  |some a=>
   simp only;by_cases h:a.kind=2
   .rw[if_pos h];by_cases y:kB (a.rows.map Prod.fst) b=true
    .rw[if_pos y];exact ag.le_refl
    .rw[if_neg y];exact ag.le_refl
   .rw[if_neg h];cases a.kids[hx b a]? with
    |none=>exact ag.le_refl
    |some z=>
     have p:=EA (d:=d) (b:=b) k c z;simp only;generalize ia d b k c z=r at*;obtain⟨x,C⟩:=r;cases x with
     |error E=>exact p
     |ok D=>
      have h:=Zs (H:=C) (e:=d) (c:=a.kids) (i:=hx b a) (a:=D);simp only;generalize jT C d a.kids (hx b a) D=r at*;obtain⟨x,F⟩:=r;cases x with
      |error E=>exact p.trans h
      |ok G=>exact p.trans h
theorem EB:H.le (lo e q H w).2:=by
 unfold lo;split
 .exact ag.le_refl
 .have a:=EA (d:=e) (b:=q) (w.size.toNat+1) H w;generalize ia e q (w.size.toNat+1) H w=b at*;obtain⟨c,d⟩:=b;cases c with
  |error h=>exact a
  |ok k=>
   simp only;split
   .exact a
   .split
    .exact a
    .exact a.trans Ez
def ic (a b:Int):Int:=if a<b then -1 else if b<a then 1 else 0
def fM:List Int->List Int->Int
 | [],[]=>0
 | [],_:: _=> -1
 | _:: _,[]=>1
 |a::c,b::d=>if ic a b=0 then fM c d else ic a b
def EC (b:Int) (a:U):AC Tryz.prog 269 [.v (.int .i64 b)] a λc d=>d=a/\c= .v (.bool false):=by
 refine aM hm QP ?_
 repeat' first|refine aG (λ_=> ?_) λ_=> ?_|trivial
def ED (b c:Int) (a:U):AC Tryz.prog 185 [.v (.int .i64 b),.v (.int .i64 c)] a λd h=>h=a/\d= .v (.int .i64 (ic b c)):=by
 refine aM hm OJ ?_;refine bh (EC b a) ?_;refine bh (EC c a) ?_
 repeat' first|refine aG (λ_=> ?_) λ_=> ?_|trivial
 .rw[ic,if_pos ‹_›]
 .rw[ic,if_neg ‹_›,if_pos ‹_›]
 .rw[ic,if_neg ‹_›,if_neg ‹_›]
theorem drop_cons {a:List b0}{b:b0} (c:e<a.length):a.drop e=a.getD e b::a.drop (e+1):=by simp_all
theorem sL {a:List b0} (b:a.length<=e):a.drop e= []:=a5v b
theorem EE (b c:List Int) (h k:Own) (d:U) (y:b.length<=1000000000000):AC Tryz.prog 120 [.J (ad b) h,.J (ad c) k] d λo p=>p=d/\o= .v (.int .i64 (fM b c)):=by
 have z:=bH (q:=b);have C:=bH (q:=c);have D:= @dJ b;have E:= @dJ c;refine aM hm MK ?_;refine gK [0,1,9,10] (λa:Nat=> [(11,.v (.int .i64 a))]) (λa=>a<=b.length/\a<=c.length/\fM b c=fM (b.drop a) (c.drop a)) (λa=>b.length - a) 0 ⟨a9k,a9k,rfl⟩ aS ?_;rintro a ⟨F,G,L⟩ P;refine aa ?_;refine aG (λr=> ?_) λr=> ?_
 .refine aG (λx=> ?_) λx=> ?_
  .rw[drop_cons (b:=0) a9k,sL (a:=c) a9k,fM]
  .have S:=drop_cons (a:=b) (b:=0) (e:=a) a9k;have T:=drop_cons (a:=c) (b:=0) (e:=a) a9k;refine bh (ED _ _ _) ?_;refine aG (λc2=> ?_) λc2=> ?_
   .rw[fM,if_neg c2]
   .rw[fM,if_pos a9k];grind
 .repeat' first|refine aG (λ_=> ?_) λ_=> ?_|trivial
  .rw[sL a9k,drop_cons (b:=0) a9k,fM]
  grind[sL,fM]
def cK (a:Nat) (b c:List Int):Int:=if ic (b.getD a 0) (c.getD a 0)=0 then fM b c else ic (b.getD a 0) (c.getD a 0)
def EF (a b:List Int) (o p:Own) (c:Nat) (d:U) (h:Nat) (z:d.read h=some [.v (.int .i64 (c:Int))]) (C:c<a.length) (D:c<b.length) (r:a.length<=1000000000000):
  AC Tryz.prog 336 [.J (ad a) o,.J (ad b) p,.ptr h 0] d λx y=>y=d/\x= .v (.int .i64 (cK c a b)):=by
 have E:= @dJ a;have F:= @dJ b;refine aM hm Sc ?_;refine bh (ED _ _ _) ?_;refine aG (λk=> ?_) λk=> ?_
 .rw[cK,if_neg k]
 .refine bh (EE _ _ _ _ _ r) ?_;rw[cK,if_pos a9k]
def EG (o a b:Nat) (y:0<a) (z:b<=1000000000000) (C:a<=8) (d:U):
  AC Tryz.prog 299 [dT o a,.v (.int .i64 (b:Int))] d λp h=>d.sub h/\ ∃c,h c=some (.cells [.v (.int .i64 ((b%a:Nat):Int))])/\d c=none/\p= .bG 336 [] [.ptr c 0]:=by
 have D:(b:Int).tmod (a:Int)=((b%a:Nat)):=rfl;have E: ¬(a:Int)=0:=a9k;refine aM hm Rw ?_;refine bp λc r=> ?_;refine cX λx k F G=> ?_;refine⟨_,U.a1,?_,x,U.ah _ _ _,k,rfl⟩;exact U.ae (U.ae U.a1 r) k
def EH (c d:List Int) (h k:Own) (o a b:Nat) (p:0<a) (x:a<=8) (y:b<=1000000000000) (P:c.length=a) (S:d.length=a) (r:U):
  AC Tryz.prog 231 [dT o a,.J (ad c) h,.J (ad d) k,.v (.int .i64 (b:Int))] r λz C=>C=r/\z= .v (.int .i64 (if cK (b%a) c d<0 then 0 else 1)):=by
 have T:=a6L b p;refine aM hm PX ?_;refine bp λV D=> ?_;refine ai (EG o a b p y x _) ?_;rintro _ E ⟨F,G,L,_,rfl⟩;refine aa ?_;refine fE a9q (EF c d h k (b%a) E G (U.af L) a9k a9k a9k) ?_;rintro _ _ ⟨rfl,rfl⟩;refine aa ?_
 repeat' first|refine aG (λ_=> ?_) λ_=> ?_|trivial
 all_goals exact U.au (U.ae U.a1 D) F
structure oz where
 prev:List UInt8
 num:Int
 ops:List UInt8
 EI:List UInt8
 deriving DecidableEq
def oz.ok (a:oz):Prop:=a.prev.length=32/\a.ops.length=32/\a.EI.length=32
def Zt (a:List UInt8) (b:Int) (c d:List UInt8):List R:=a.map al++(.v (.int .i64 b)::(c.map al++d.map al))
def oz.C (a:oz):List R:=Zt a.prev a.num a.ops a.EI
def oz.V (a:oz):R:= .agg a.C
def oz.may (a:oz):Bool:=decide (0<=a.num)&&decide (a.num<=1099511627776)
theorem yg (a:List UInt8) (b:Nat) (c:b<a.length):(⟨a.toArray⟩:ByteArray).get! b=a[b]:=by simp[ByteArray.get!,c]
theorem EJ (a:List UInt8) (b:Nat) (c:b<a.length) (d:a[b].toNat<128):Utf8.decode ⟨a.toArray⟩ b=(a[b].toNat,1):=by simp[Utf8.decode,yg a b c,d]
theorem decode_high (b:List UInt8) (a:Nat) (E:a<b.length) (F:128<=b[a].toNat):
  128<=(Utf8.decode ⟨b.toArray⟩ a).1/\(Utf8.decode ⟨b.toArray⟩ a).1<=1114111/\1<=(Utf8.decode ⟨b.toArray⟩ a).2/\a+(Utf8.decode ⟨b.toArray⟩ a).2<=b.length/\
   ∀c,(r:c<b.length)->a<=c->c<a+(Utf8.decode ⟨b.toArray⟩ a).2->128<=b[c].toNat:=by
 have f: ∀c,(r:c<b.length)->a<=c->c<a+1->128<=b[c].toNat:=λc r G x=>by
  grind
 have h: ∀k,(a+k<b.length/\((⟨b.toArray⟩:ByteArray).get! (a+k)).toNat/64=2)-> ∃E:a+k<b.length,128<=b[a+k].toNat:=λk g=>by
  grind[yg]
 have S:=nY b;have T:((⟨b.toArray⟩:ByteArray).get! (a+0)).toNat=b[a].toNat:=by rw[a6H,yg b a E]
 have i:b[a].toNat<256:=b[a].toNat_lt;unfold Utf8.decode;simp only[T,S];rw[if_neg a9k];have v: ∀z:Nat,Utf8.valid (z)=true->z<=1114111:=λz d=>by
  simp only[Utf8.valid,a6q,a4L,decide_eq_true_eq]at d;omega
 split
 .rename_i d;simp only[a4L,decide_eq_true_eq,beq_iff_eq]at d;obtain⟨L,o⟩:=d;obtain⟨P,y⟩:=h 1 o;split;grind;trivial
 .split
  .rename_i d;simp only[a4L,decide_eq_true_eq,beq_iff_eq]at d;obtain⟨⟨L,o⟩,C⟩:=d;obtain⟨P,y⟩:=h 1 o;obtain⟨V,D⟩:=h 2 C;split
   .rename_i p;simp only[a4L,decide_eq_true_eq]at p;refine⟨by simp only;omega,v _ p.2,a9l,a9m,λc r G x=> ?_⟩;rcases(by simp only at x;omega:c=a\/c=a+1\/c=a+2)with rfl|rfl|rfl
    .exact F
    .exact y
    .exact D
   trivial
  .split
   .rename_i d;simp only[a4L,decide_eq_true_eq,beq_iff_eq]at d;obtain⟨⟨⟨L,o⟩,C⟩,W⟩:=d;obtain⟨P,y⟩:=h 1 o;obtain⟨V,D⟩:=h 2 C;obtain⟨j,e⟩:=h 3 W;split
    .rename_i p;simp only[a4L,decide_eq_true_eq]at p;refine⟨by simp only;omega,v _ p.2,a9l,a9m,λc r G x=> ?_⟩;rcases(by simp only at x;omega:c=a\/c=a+1\/c=a+2\/c=a+3)with rfl|rfl|rfl|rfl
     .exact F
     .exact y
     .exact D
     .exact e
    trivial
   trivial
def fN (b:Nat) (a:Int):Bool:=(decide (97<=a)&&decide (a<=122))||(!decide (b=0)&&((decide (48<=a)&&decide (a<=57))||decide (a=95)))
def lr (b:ByteArray):Nat->Nat->Bool
 |0,_=>true
 |c+1,a=>if a<b.size then fN a (Utf8.decode b a).1&&lr b c (a+(Utf8.decode b a).2)else true
def jX (a:List UInt8):Bool:=lr ⟨a.toArray⟩ (a.length+1) 0&&decide (1<=a.length/\a.length<=16)
theorem Zu (a:List UInt8) (b:Nat) (c:b<a.length):1<=(Utf8.decode ⟨a.toArray⟩ b).2/\b+(Utf8.decode ⟨a.toArray⟩ b).2<=a.length/\(Utf8.decode ⟨a.toArray⟩ b).1<=1114111:=by grind[EJ,decode_high]
def sM:s5 (bb B)=some (.v (.int .i64 B.length)):=wN
theorem EK (a:List UInt8) (l:a.length<=1000000) (k:U):
  AC Tryz.prog 77 [bb a] k λe o=>o=k/\e= .v (.bool (jX a)):=by
 refine bc hm Lt a9l ?_;have f: ∀(L) (V),wT (bb a) k (bO L V)=iV k (bZ (λg=>L g ⟨a.toArray⟩) ()):=λL V=>C8;refine aE @f ?_;refine aN λr y=> ?_;refine eB ?_;refine cu (λP o=> ∃x b:Nat,b<=a.length/\a.length<x+b/\lr ⟨a.toArray⟩ x b=lr ⟨a.toArray⟩ (a.length+1) 0/\k.sub o/\o r=some (.it ⟨a.toArray⟩ b)/\P 0=bb a/\P 7= .ptr r 0)
  (λ_ o=>match o r with|some (.it _ b)=>a.length - b| _=>0) ⟨a.length+1,0,a9k,a9k,rfl,U.ae U.a1 y,U.ah _ _ _,?_⟩ ?_
 .exact qs
 .rintro P o ⟨x,b,m,n,z,C,S,p,h⟩;refine aE @h ?_;by_cases D:b<a.length
  .obtain⟨x,rfl⟩: ∃i,x=i+1:=⟨x - 1,a9k⟩;obtain⟨q,s,t⟩:=Zu a b D;have j:=nY a;rw[lr,if_pos (by rw[j];exact D)]at z;refine VH S D ?_;generalize (Utf8.decode ⟨a.toArray⟩ b).1=c at*;generalize (Utf8.decode ⟨a.toArray⟩ b).2=E at*;have F (d:fN b c=false):jX a=false:=by rw[d,a6Y]at z;rw[jX,<-z];rfl
   have u (d:fN b c=true):(∃W G:Nat,G<=a.length/\a.length<W+G/\lr ⟨a.toArray⟩ W G=lr ⟨a.toArray⟩ (a.length+1) 0/\k.sub (o.set r (.it ⟨a.toArray⟩ (b+E)))/\(o.set r (.it ⟨a.toArray⟩ (b+E))) r=some (.it ⟨a.toArray⟩ G)):=by rw[d,a6f]at z;grind[U.ae,U.ah]
   have T:((b:Int)=0)=(b=0):=a9l;have v:(match o r with|some (.it _ b)=>a.length - b| _=>0)=a.length - b:=by rw[S]
   have w:(match(o.set r (.it ⟨a.toArray⟩ (b+E))) r with|some (.it _ b)=>a.length - b| _=>0)=a.length -(b+E):=by rw[U.ah]
   have A:a.length -(b+E)<a.length - b:=a9k;by_cases je:(97)<=(c:Int)
   .by_cases a2:(c:Int)<=122
    .have d:fN b c=true:=by simp[fN,je,a2]
     refine aE (aJ @p @h @je @a2) ?_;simp_all
    .by_cases a0:(b:Int)=0
     .have d:fN b c=false:=by simp[fN,a2];omega
      refine aE (bm @p @h @je @a2 @a0) ?_;exact⟨k,U.ae C y,rfl,by rw[F d]⟩
     .have d:fN b c=false:=by simp[fN,a2];omega
      have a3: ¬(c:Int)<48:=a9k;have a4:(57:Int)<c:=a9k;have a5: ¬(c:Int)=95:=a9k;refine aE (bt @p @h @je @a2 @a0 @a3 @a4 @a5) ?_;exact⟨k,U.ae C y,rfl,by rw[F d]⟩
   .by_cases a0:(b:Int)=0
    .have d:fN b c=false:=by simp[fN,je];omega
     refine aE (aJ @p @h @je @a0) ?_;exact⟨k,U.ae C y,rfl,by rw[F d]⟩
    .have T: ¬b=0:=a9k;by_cases a3:(c:Int)<48
     .have d:fN b c=false:=by simp[fN,je];omega
      have a5: ¬(c:Int)=95:=a9k;refine aE (bs @p @h @je @a0 @a3 @a5) ?_;exact⟨k,U.ae C y,rfl,by rw[F d]⟩
     .by_cases a4:(57:Int)<c
      .by_cases a5:(c:Int)=95
       .have d:fN b c=true:=by simp[fN,a5,T]
        refine aE (c6 @p @h @je @a0 @a3 @a4 @a5) ?_;simp_all
       .have d:fN b c=false:=by simp[fN,je,a5];omega
        refine aE (c6 @p @h @je @a0 @a3 @a4 @a5) ?_;exact⟨k,U.ae C y,rfl,by rw[F d]⟩
      .have d:fN b c=true:=by simp[fN,je,T];omega
       refine aE (bs @p @h @je @a0 @a3 @a4) ?_;simp_all
  .have B:jX a=decide (1<=a.length/\a.length<=16):=by
    have:lr ⟨a.toArray⟩ x b=true:=by
     cases x with
     |zero=>rfl
     |succ x=>rw[lr,if_neg (by rw[nY];exact D)]
    rw[jX,<-z,this,a6f]
   refine VI S D ?_;by_cases d1:(1:Int)<=a.length
   .by_cases d2:(a.length:Int)<=16
    .refine aE (bm @p @h @sM @d1 @d2) ?_;grind
    .refine aE (bm @p @h @sM @d1 @d2) ?_;grind
   .refine aE (aJ @p @h @sM @d1) ?_;grind
def bE (a:List (List UInt8)):List R:=a.map bb
def hz {a:List (List UInt8)}:(bE a).length=a.length:=by simp[bE]
def px {a:List (List UInt8)}{b:Nat} (c:b<a.length):(bE a)[b]? =some (bb (a.getD b [])):=by simp[bE,c]
def yh:eA 1 (some (bb B))=some (.bV [bb B]):=rfl
theorem Zv (a:List (List UInt8)) (C:Own) (h:List UInt8) (T:a.length<=1000000) (d:U):
  AC Tryz.prog 224 [.J (bE a) C,bb h] d λF o=>o=d/\ ∃k:Int,F= .v (.int .i64 k)/\decide (0<=k)=decide (h∈a):=by
 refine bc hm PL a9l ?_;have G:=hz (a:=a);refine aE @G ?_;refine cu (λc o=> ∃b:Nat,b<=a.length/\o=d/\h∉a.take b/\c 0= .J (bE a) C/\c 1=bb h/\c 7= .v (.int .i64 a.length)/\c 8= .v (.int .i64 b))
  (λc _=>match c 8 with| .v (.int _ k)=>(a.length - k).toNat| _=>0) ⟨0,a9k,rfl,a9l,?_⟩ ?_
 .exact qs
 .rintro c d ⟨b,V,rfl,W,p,r,x,y⟩;by_cases z:(b:Int)<a.length
  .have L:b<a.length:=a9k;have D:=px L;have P:a.getD b []∈a:=by simp_all
   have e:a.take (b+1)=a.take b++ [a.getD b []]:=by simp_all
   generalize a.getD b []=S at*;by_cases E:h=S
   .refine aE (cW @p @r @x @y @z @hJ @D @yh @E) ?_;refine⟨d,U.a1,rfl,b,rfl,?_⟩;simp[P]
   .refine aE (cW @p @r @x @y @z @hJ @D @yh @E) ?_;grind
  .obtain rfl:b=a.length:=a9k;refine aE (bm @p @r @x @y @z) ?_;refine⟨d,U.a1,rfl,-1,rfl,?_⟩;simp_all
def Zw (b:List (List UInt8)) (d:Own) (c:List UInt8) (h:b.length<=1000000) (a:U):
  AC Tryz.prog 146 [.J (bE b) d,bb c] a λk o=>o=a/\k= .v (.bool (decide (c∈b))):=by
 refine bc hm Nu a9l ?_;refine eB ?_;refine ai (Zv b d c h a) ?_;rintro _ a ⟨rfl,r,rfl,p⟩;refine aE @p ?_
 all_goals exact⟨a,U.a1,rfl⟩
def mj (a:List (List UInt8)) (b:Nat):Bool:=jX (a.getD b [])&&(!decide (a.getD b []= [105,100])&& !decide (a.getD b []∈a.take b))
def nu (a:List (List UInt8)):Bool:=(List.range a.length).all (mj a)&&decide (1<=a.length/\a.length<=7)
theorem yi {a:List (List UInt8)} (b:e<a.length) (c:mj a e=false):nu a=false:=by grind[nu,Bool.and_eq_false_iff,List.all_eq_false]
theorem Zx {a:List (List UInt8)} (c: ∀b,b<a.length->mj a b=true):nu a=decide (1<=a.length/\a.length<=7):=by
 have:(List.range a.length).all (mj a)=true:=by simp_all
 rw[nu,this,a6f]
theorem Zy (a:List (List UInt8)) (x:Own) (n:a.length<=1000000) (V: ∀W∈a,W.length<=1000000) (c:U):
  AC Tryz.prog 78 [.J (bE a) x] c λe E=>E=c/\e= .v (.bool (nu a)):=by
 refine bc hm Lv a9l ?_;have y:=hz (a:=a);refine aE @y ?_;refine cu (λr E=> ∃b:Nat,b<=a.length/\E=c/\(∀z,z<b->mj a z=true)/\r 0= .J (bE a) x/\r 5= .J (bE a) x/\r 6= .v (.int .i64 a.length)/\r 7= .v (.int .i64 b))
  (λr _=>match r 7 with| .v (.int _ f)=>(a.length - f).toNat| _=>0) ⟨0,a9k,rfl,λz g=>by omega,?_⟩ ?_
 .exact qs
 .rintro r c ⟨b,q,rfl,i,h,k,o,p⟩;by_cases C:(b:Int)<a.length
  .have D:b<a.length:=a9k;have j:=px D;have l:a.getD b []∈a:=by simp_all
   have P:mj a b=(jX (a.getD b [])&&(!decide (a.getD b []= [105,100])&& !decide (a.getD b []∈a.take b))):=rfl;generalize a.getD b []=d at*;refine aE (bt @h @k @o @p @C @hJ @j @yh) ?_;refine ai (EK d (V d l) c) ?_;rintro _ c ⟨rfl,rfl⟩;cases S:jX d
   .refine aE (aJ @h @k @o @p) ?_;exact⟨c,U.a1,rfl,by rw[yi D (by rw[P,S];rfl)]⟩
   .have s:(bE a).take b=bE (a.take b):=by simp[bE]
    by_cases F:d= [105,100]
    .have G:iW .eql (bb d) (.v (.string ⟨#[105,100]⟩))=some (.v (.bool true)):=by have:=qp (a:=d) (b:= [105,100]);rw[decide_eq_true F]at this;exact this
     refine aE (bm @h @k @o @p @G) ?_;exact⟨c,U.a1,rfl,by rw[yi D (by rw[P,S,decide_eq_true F];rfl)]⟩
    .have G:iW .eql (bb d) (.v (.string ⟨#[105,100]⟩))=some (.v (.bool false)):=by have:=qp (a:=d) (b:= [105,100]);rw[decide_eq_false F]at this;exact this
     have m:dI 1 (.J (bE a) x) none (some (.v (.int .i64 (b))))=some (.J (bE (a.take b)) .any):=by grind[nX,aT,bE,bb,R.cells,Int.toNat_natCast]
     refine aE (bs @h @k @o @p @G @m) ?_;refine ai (Zw (a.take b) _ d (by rw[a4K];omega) c) ?_;rintro _ c ⟨rfl,rfl⟩;by_cases T:d∈a.take b
     .refine aE (bm @h @k @o @p @T) ?_;exact⟨c,U.a1,rfl,by rw[yi D (by simp_all)]⟩
     .refine aE (bm @h @k @o @p @T) ?_;refine⟨⟨b+1,a9k,λz g=> ?_,a9l⟩,a9k⟩;grind
  .obtain rfl:b=a.length:=a9k;have L:=Zx i;by_cases d1:(1:Int)<=a.length
   .by_cases d2:(a.length:Int)<=7
    .refine aE (bt @h @k @o @p @C @y @d1 @d2) ?_;exact⟨c,U.a1,rfl,by rw[L];simp;omega⟩
    .refine aE (bt @h @k @o @p @C @y @d1 @d2) ?_;exact⟨c,U.a1,rfl,by rw[L];simp;omega⟩
   .refine aE (c6 @h @k @o @p @C @y @d1) ?_;exact⟨c,U.a1,rfl,by rw[L];simp;omega⟩
structure cm where
 kind:UInt8
 table:List UInt8
 aD:List (List UInt8)
 row:List Int
structure cn where
 d:cm
 gr:Own
 dm:Own
def cn.C (a:cn):List R:= [al a.d.kind,bb a.d.table,.J (bE a.d.aD) a.gr,.J (ad a.d.row) a.dm]
def cn.V (a:cn):R:= .agg a.C
def cn.Zz {a:cn}:a.C.length=4:=rfl
def cn.m1 {a:cn}:aX false 1 (a.C.drop 1)=bb a.d.table:=rfl
def cn.m2 {a:cn}:aX false 1 (a.C.drop 2)= .J (bE a.d.aD) a.gr:=rfl
def cn.m3 {a:cn}:aX false 1 (a.C.drop 3)= .J (ad a.d.row) a.dm:=rfl
def cm.ok (a:cm):Prop:=a.table.length<=16/\a.aD.length<=8/\(∀b∈a.aD,b.length<=16)/\a.row.length<=255
def ev (a:cm):Bool:=jX a.table&&
  (if a.kind.toNat=1 then nu a.aD&&decide (a.row.length=0)
   else if a.kind.toNat=2 then decide (a.aD.length=0)&&decide (a.row.length=0)
   else if a.kind.toNat=3\/a.kind.toNat=4 then decide (a.aD.length=0)&&(decide (2<=a.row.length)&&decide (a.row.length<=8))
   else false)
structure cm.Fit (d:cm):Prop where
 t:d.table.length<=1000000
 c:d.aD.length<=1000000
 cs: ∀c∈d.aD,c.length<=1000000
 r:d.row.length<=1000000
def EL (a:cn) (k:a.d.Fit) (b:U):
  AC Tryz.prog 46 [a.V] b λo p=>p=b/\o= .v (.bool (ev a.d)):=by
 obtain⟨⟨r,d,c,h⟩,x,y⟩:=a;obtain⟨z,C,D,G⟩:=k;have L:=hz (a:=c);have P:=bH (q:=h);show AC _ _ [.agg [al r,bb d,.J (bE c) x,.J (ad h) y]] b _;refine aM hm KH ?_;refine bp λS T=> ?_;refine bh (EK d z _) ?_;refine aG (λE=> ?_) λE=> ?_
 .rw[ev];exact aO
 refine aG (λF=> ?_) λF=> ?_
 .refine bh (Zy c _ C D _) ?_
  repeat' first|refine aG (λ_=> ?_) λ_=> ?_|trivial
  all_goals (rw[ev];exact aO)
 repeat' first|refine aG (λ_=> ?_) λ_=> ?_|trivial
 all_goals (rw[ev];exact aO)
def ZA (a b c d:List Int) (k o p r:Own) (h:U) (C:a.length<=1000000000000) (D:b.length<=1000000000000):
  AC Tryz.prog 167 [et a b k o,et c d p r] h λx y=>y=h/\x= .v (.bool (decide (a=c)&&decide (b=d))):=by
 refine aM hm Oa ?_;refine bp λE F=> ?_;refine cX λG L P S=> ?_;refine bh (nr _ _ _ _ _ a9k) ?_;refine aG (λz=> ?_) λz=> ?_
 .refine bh (nr _ _ _ _ _ a9k) trivial
 trivial
def nv (b:Nat) (a:UInt8):Bool:=(decide (97<=a.toNat)&&decide (a.toNat<=122))||(!decide (b=0)&&((decide (48<=a.toNat)&&decide (a.toNat<=57))||decide (a.toNat=95)))
def nw (a:List UInt8):Bool:=(List.range a.length).all (λb=>nv b (a.getD b 0))&&(decide (0<a.length)&&decide (a.length<17))
def EM (a:List UInt8) (d:U) (y:a.length<=1000000):
  AC Tryz.prog 88 [bb a] d λp h=>h=d/\p= .v (.bool (nw a)):=by
 refine aM hm LQ ?_;refine ch [0] (λb:Nat=> [(3,.v (.int .i64 b))]) (λb h=>h=d/\b<=a.length/\ ∀c<b,nv c (a.getD c 0)=true) (λb=>a.length - b) 0 ?_ ?_
 .refine aa ?_;simp
 rintro b _ ⟨rfl,z,k⟩ C;refine aa ?_;refine aG (λr=> ?_) λr=> ?_
 .have x:nv b (a.getD b 0)=false->nw a=false:=λo=>by rw[nw,sb a9k o];rfl
  repeat' first|refine aG (λ_=> ?_) λ_=> ?_|trivial
  all_goals first
   |omega
   |(rw[x (by rw[nv];exact qu)])
   |exact⟨b+1,⟨a9k,upto k (by rw[nv];exact qu)⟩,rfl,a9k⟩
 have D:nw a=(decide (0<a.length)&&decide (a.length<17)):=by rw[nw,sc λc o=>k c a9k];rfl
 repeat' first|refine aG (λ_=> ?_) λ_=> ?_|trivial
 all_goals exact aO
def lu (a:List (List UInt8)) (b:Nat):Bool:=nw (a.getD b [])&&(!decide (a.getD b []= [105,100])&&(List.range b).all λc=> !decide (a.getD c []=a.getD b []))
def yj (a:List (List UInt8)):Bool:=(List.range a.length).all (lu a)
def oA (a:cm):Bool:=nw a.table&&
  (if a.kind.toNat=1 then yj a.aD&&(decide (0<a.aD.length)&&(decide (a.aD.length<8)&&decide (a.row.length=0)))
   else if a.kind.toNat=2 then decide (a.aD.length+a.row.length=0)
   else(decide (a.kind.toNat=3)||decide (a.kind.toNat=4))&&(decide (a.aD.length=0)&&(decide (1<a.row.length)&&decide (a.row.length<9))))
theorem ZB (h:cn) (E:h.d.Fit) (k:U):
  AC Tryz.prog 51 [h.V] k λF G=>G=k/\F= .v (.bool (oA h.d)):=by
 obtain⟨⟨x,o,b,p⟩,L,P⟩:=h;obtain⟨y,S,z,T⟩:=E
 dsimp only at y S z T|-
 have l:=hz (a:=b);have m:=bH (q:=p);show AC _ _ [.agg [.v (.int .u8 x.toNat),bb o,.J (bE b) L,.J (ad p) P]] k _;refine aM hm KR ?_;refine bp λn q=> ?_;refine bh (EM o _ y) ?_;refine aG (λV=> ?_) λV=> ?_
 .rw[oA];exact aO
 refine aG (λW=> ?_) λW=> ?_
 .have s:yj b=(List.range b.length).all (lu b):=rfl;have t:= @px b;have u: ∀r,iW .eql (bb r) (.v (.string ⟨#[105,100]⟩))=some (.v (.bool (decide (r= [105,100])))):=λr=>qp;have e: ∀a,a<b.length->(b.getD a []).length<=1000000:=λa f=>z _ (by simp_all);refine gK [1] (λa:Nat=> [(3,.v (.int .i64 a))]) (λa=>a<=b.length/\ ∀d<a,lu b d=true) (λa=>b.length - a) 0 ⟨a9k,λd C=>by omega⟩ (aS) ?_;rintro a ⟨f,g⟩ i;refine aa ?_;refine aG (λc2=> ?_) λc2=> ?_
  .have D:lu b a=false->oA ⟨x,o,b,p⟩=false:=λC=>by grind[oA,sb]
   refine bh (EM _ _ (e a a9k)) ?_
   repeat' first|refine aG (λ_=> ?_) λ_=> ?_|trivial
   .exact aP (D (by rw[lu];simp_all)).symm
   .refine gK [1,3] (λc:Nat=> [(4,.v (.int .i64 c))]) (λc=>c<=a/\ ∀d<c,b.getD d []≠b.getD a []) (λc=>a - c) 0 ⟨a9k,λd C=>by omega⟩ (aS) ?_;rintro c ⟨v,j⟩ i;refine aa ?_;refine aG (λaH=> ?_) λaH=> ?_
    .refine aG (λaJ=> ?_) λaJ=> ?_;grind[aP,lu,sb]
     .exact⟨c+1,⟨a9k,upto j aJ⟩,rfl,a9k⟩
    .refine⟨a+1,⟨a9k,upto g ?_⟩,rfl,a9k⟩;grind[lu,sc]
   .exact aP (D (by rw[lu];simp_all)).symm
  repeat' first|refine aG (λ_=> ?_) λ_=> ?_|trivial
  all_goals grind[oA,sc,aO]
 repeat' first|refine aG (λ_=> ?_) λ_=> ?_|trivial
 all_goals (rw[oA];exact aO)
theorem ZC (b a:Nat) (h:b<18446744073709551616) (k:0<a):bn .quo (.int .u64 b) (.int .u64 (a:Int))=some (.int .u64 ((b/a:Nat):Int)):=by have c:bn .quo (.int .u64 b) (.int .u64 (a))=(if(a:Int)=0 then none else some (.int .u64 (IntKind.u64.wrap ((b:Int).tdiv (a:Int))))):=rfl;have d:((b:Int).tdiv (a:Int))=((b/a:Nat)):=rfl;have o:=a7F b a;rw[c,if_neg a9k,d];grind[wrap_u64]
def yk (b a:Nat) (d:0<a):bn .rem (.int .u64 b) (.int .u64 (a:Int))=some (.int .u64 ((b%a:Nat):Int)):=by have c:bn .rem (.int .u64 b) (.int .u64 (a))=(if(a:Int)=0 then none else some (.int .u64 ((b:Int).tmod (a:Int)))):=rfl;rw[c,if_neg a9k];rfl
variable{n b3:R}{s a7:R -> U -> Prop}{f t e4:U}
theorem qS {c:List UInt8}{k:cB s} (r:ar t f 1 (c.map al) n) (a:bN f 1 b3=some (e,B.map al)) (x:c.length+B.length<=70368744177664)
  (y: ∀d h,ar t h 1 ((c++B).map al) d->s d h):jJ 1 1 f n b3 (bO s k):=by
 have z:B.length=e:=by
  unfold bN at a;split at a
  .split at a
   .rename_i C _ D;simp only[a4S,a5R]at a;have b:=congrArg List.length a.2;rw[dc (d:=1) (by simp_all)]at b;simp at b;omega
   .cases a
  .split at a
   .split at a
    .rename_i o _ p;simp only[a4S,a5R]at a;have b:=congrArg List.length a.2;simp at b;omega
    .cases a
   .cases a
  .split at a
   .split at a
    .rename_i o _ p;simp only[a4S,a5R]at a;have b:=congrArg List.length a.2;simp at b;omega
    .cases a
   .cases a
  .cases a
 grind[ff]
end Go.Proofs.YtlgnfcaolejgeaaGreat
namespace Go.bz
open Go
theorem ZD (a:Nat) (c:a<18446744073709551616):a^^^9223372036854775808=(a+9223372036854775808)%18446744073709551616:=by
 have h:(9223372036854775808)=2^63:=a9o;have d:(18446744073709551616)=2^64:=a9o;rw[d]at c;rw[h,d];apply a7f;intro b;rw[a8b,a9b,a8B,a8t];by_cases h1:b<63
 .rw[a8l h1];grind
 .by_cases k:b=63;grind
  .have o: ¬b<64:=a9k;have p:a.testBit b=false:=a6J (a5U c (a6t a9k a9k));grind
end Go.bz
namespace Go.Proofs.YtlgnfcaolejgeaaGreat
open Go Go.bz
theorem ZE (a:Int):IntKind.u64.wrap (IntKind.u64.wrap a+9223372036854775808)=(ck a:Int):=by grind[kt,BitVec.ofInt,BitVec.toNat_ofInt,ck,BitVec.toNat_xor,ZD]
theorem ZF (b:Int) (k:U):
  AC Tryz.prog 193 [.v (.int .i64 b)] k λE h=>ar k h 1 ((hR b).map al) E:=by
 refine bc hm OZ a9l ?_;refine aE (aH @ZE @aZ @ba) ?_;have F:ck b<18446744073709551616:=(BitVec.ofInt 64 b^^^BitVec.ofInt 64 9223372036854775808).isLt;have G:hR b=cH (ck b):=rfl;rw[G];generalize ck b=c at*;refine wQ (e:=8) a9k a9k λo p=> ?_;refine aE (c2 @aZ @ba) ?_;refine cu (λd h=> ∃a:Nat,a<=8/\h=k.set o (.cells (List.replicate (8 - a) (al 0)++((cH c).drop (8 - a)).map al))/\d 4= .an o 8 8 1/\d 3= .v (.int .u64 ((c/256^a:Nat)))/\d 5= .v (.int .i64 (7 -(a))))
  (λd _=>match d 5 with| .v (.int _ b)=>(b+8).toNat| _=>0) ⟨0,a9k,?_⟩ ?_
 .refine aE (c2 @aZ @ba) ?_
  try (simp;try rfl)
 .rintro d h ⟨a,T,rfl,r,x,y⟩;by_cases z:(0)<=7 -(a:Int)
  .have L:c/256^a<18446744073709551616:=Nat.lt_of_le_of_lt (a7F _ _) F;have C:=ZC (c/256^a) 256 L a9k;have D:=yk (c/256^a) 256 a9k;have P:((256:Nat):Int)=256:=rfl;rw[P]at C D;have S:(List.replicate (8 - a) (al 0)++((cH c).drop (8 - a)).map al).length=8:=by
    have:(cH c).length=8:=rfl;simp[this]
    try omega
   refine aE (cf @x @r @y @z @C @D @iq @S @aZ @ba) ?_;refine⟨⟨a+1,a9k,?_,?_,by(congr 2;try omega)⟩,a9k⟩
   .congr 2;have yl:UInt8.ofNat (c/256^a%256)=UInt8.ofNat (c>>>(8*a)):=by grind[UInt8.toNat_inj,UInt8.toNat_ofNat',Nat.shiftRight_eq_div_pow,Nat.pow_mul]
    rw[yl];rcases(by omega:a=0\/a=1\/a=2\/a=3\/a=4\/a=5\/a=6\/a=7)with rfl|rfl|rfl|rfl|rfl|rfl|rfl|rfl<;>rfl
   .rw[Nat.div_div_eq_div_mul,<-a8v]
  .obtain rfl:a=8:=a9k;refine aE (bs @x @r @y @z @aZ @ba) ?_;refine⟨_,U.a1,U.ae U.a1 p,.inr ⟨o,8,8,_,rfl,p,U.ah _ _ _,rfl,rfl,rfl,a9k,a9o⟩⟩
def ZG (b:Bool) (d:U):
  AC Tryz.prog 257 [.v (.bool b)] d λh k=>ar d k 1 ([if b then(1:UInt8)else 0].map al) h:=by
 refine bc hm QL a9l ?_;cases b
 .refine aE (c2 @aZ @ba) ?_;refine eP (by simp[aT,R.cells]) a9l λc a=> ?_;refine aE (c2 @aZ @ba) ?_;exact⟨_,U.a1,U.ae U.a1 a,.inr ⟨c,1,1,_,rfl,a,U.ah _ _ _,rfl,rfl,rfl,a9k,a9o⟩⟩
 .refine aE (c2 @aZ @ba) ?_;refine eP (by simp[aT,R.cells]) a9l λc a=> ?_;refine aE (c2 @aZ @ba) ?_;exact⟨_,U.a1,U.ae U.a1 a,.inr ⟨c,1,1,_,rfl,a,U.ah _ _ _,rfl,rfl,rfl,a9k,a9o⟩⟩
structure ym where
 o:ix
 st:Int
 xm:Bool
 a:ix
 b:ix
def ym.ok (a:ym):Prop:=a.o.ok/\a.a.ok/\a.b.ok
section
variable {F:ym} (h:F.ok)
include h
end
def EN (b:Nat) (d:U) (r:b<=1000000000000):AC Tryz.prog 125 [.v (.int .i64 (b:Int))] d λk h=>fF d h (fi b) k:=by
 have x: ∀a:Nat,(a:Int).tdiv 65536=((a/65536:Nat)):=λ_=>rfl;have y: ∀a:Nat,(a:Int).tdiv 256=((a/256:Nat)):=λ_=>rfl;have z: ∀a:Nat,(a:Int).tmod 256=((a%256:Nat)):=λ_=>rfl;have C:=λa=>iq a;refine aM hm MQ ?_;have o:fi b= [UInt8.ofNat (b/65536%256),UInt8.ofNat (b/256%256),UInt8.ofNat (b%256)]:=by have a: ∀c,UInt8.ofNat (c%256)=UInt8.ofNat c:=λc=>a5D.1 a9l;simp only[fi,a5G,a]
 rw[o];refine tX [_,_,_] (λD h p _=> ?_);exact⟨_,U.a1,p⟩
theorem uD (a:List Int) (p:Own) (k:U) (D:a.length<=1000000):AC Tryz.prog 126 [.J (ad a) p] k λd o=>fF k o (du a) d:=by
 have E:=λr=>iq r;have F:=bH (q:=a);refine aM hm MS ?_;refine tX [UInt8.ofNat a.length] (λd G L _=> ?_);refine ch [0] (λb:Nat×R=> [(4,.v (.int .i64 b.1)),(3,b.2)]) (λb o=>b.1<=a.length/\fF k o (UInt8.ofNat a.length::(a.take b.1).flatMap hR) b.2) (λb=>a.length - b.1) (0,d) ⟨⟨a9k,by trivial⟩,aS⟩ ?_;rintro⟨c,d⟩ P ⟨x,h⟩ S
 dsimp only at x h|-
 have T:= @dJ a;refine aa ?_;refine aG (λy=> ?_) λy=> ?_
 .refine hN (ZF _ _) λV W z=> ?_;have e:=oa (a.take c);have f:(a.take c).length=c:=a9m;have g: ∀C,(hR C).length=8:=λ_=>rfl;refine mZ h z λa4 i j _=> ?_;refine⟨(c+1,a4),⟨by simp only;omega,?_⟩,⟨rfl,rfl⟩,by simp only;omega⟩;grind[eQ]
 .obtain rfl:c=a.length:=a9k;rw[a5d]at h;exact⟨_,U.a1,h⟩
def EO (a b:ay) (c d h k o p:Own) (r:U) (x:a.sum.length=32) (y:b.sum.length=32) (z:a.cC):
  AC Tryz.prog 101 [.agg (ab a c d h),.agg (ab b k o p)] r λC D=>D=r/\C= .v (.bool (decide (a=b))):=by
 have L:=(aW (M:=c) (e6:=d) (h5:=h) x).all;have P:=(aW (M:=k) (e6:=o) (h5:=p) y).all;rw[D7];generalize ab a c d h=S at*;generalize ab b k o p=T at*;obtain⟨E,F,G⟩:=z;have V:dz [(32,.int .u8)] (a.sum.map al):=pk x;have W:dz [(32,.int .u8)] (b.sum.map al):=pk y;have e:= @su a.sum b.sum;refine aM hm Mb ?_;refine bp λf g=> ?_;refine cX λi j l m=> ?_
 repeat' first|refine aG (λ_=> ?_) λ_=> ?_|trivial
 all_goals first
  |exact aO
  |refine bh (ZA _ _ _ _ _ _ _ _ _ E F) ?_
   repeat' first|refine aG (λ_=> ?_) λ_=> ?_|trivial
   all_goals first
    |exact aO
    |refine bh (nr _ _ _ _ _ G) ?_
     trivial
structure aK where
 name:List UInt8
 aD:List (List UInt8)
 bM:ay
 ct:ay
 deriving DecidableEq
instance:Inhabited aK:=⟨⟨[],[],aA,aA⟩⟩
structure ep (t:aK) (T:List R):Prop where
 e: ∃gr hs eT a nx ny b,T=bb t.name:: .J (bE t.aD) gr::(ab t.bM hs eT a++ab t.ct nx ny b)
 k:t.bM.sum.length=32/\t.bM.cC
 z:t.ct.sum.length=32/\t.ct.cC
 c:t.aD.length<=1000000
def dx (a:aK) (b:R):Prop:= ∃T,b= .agg T/\ep a T
variable{g A e1:List R}{e7:aK}
theorem ep.all (x:ep e7 g):g.length=76/\g.take 76=g/\aX false 1 g=bb e7.name/\ ∃o a b c d h k,aX false 1 (g.drop 1)= .J (bE e7.aD) o/\(g.drop 2).take 37=ab e7.bM a b c/\(g.drop 39).take 37=ab e7.ct d h k:=by obtain⟨⟨o,a,b,c,d,h,k,rfl⟩,⟨y,_⟩,⟨z,_⟩,_⟩:=x;have p:=(aW (M:=a) (e6:=b) (h5:=c) y).len;have r:=(aW (M:=d) (e6:=h) (h5:=k) z).len;refine⟨by simp[p,r],a4I (by simp[p,r]),rfl,o,a,b,c,d,h,k,rfl,?_,?_⟩;simp_all;grind
theorem ZH (z C:aK) (D E:R) (F:U) (y:dx z D) (S:dx C E):
  AC Tryz.prog 57 [D,E] F λV W=>W=F/\V= .v (.bool (decide (z=C))):=by
 obtain⟨T,rfl,G⟩:=y;obtain⟨s,rfl,L⟩:=S;obtain⟨t,u,w,A,B,H,I,K,M,N,O,Q,X⟩:=G.all;obtain⟨Y,Z,j9,k0,k1,k2,k3,k4,k5,k6,k7,k8,k9⟩:=L.all;obtain⟨_,⟨e,f⟩,⟨g,i⟩,l0⟩:=G;obtain⟨_,⟨j,_⟩,⟨l,_⟩,_⟩:=L;obtain⟨d,ac,h,k⟩:=z;obtain⟨o,a,p,r⟩:=C
 dsimp only at*
 have l1:=hz (a:=ac);have l2:=hz (a:=a);have l3:= @px ac;have l4:= @px a;have P: ¬(d=o/\ac=a/\h=p/\k=r)->decide (aK.mk d ac h k=aK.mk o a p r)=false:=λc=>by simpa using c
 have m:d=o/\ac=a/\h=p/\k=r->decide (aK.mk d ac h k=aK.mk o a p r)=true:=λc=>by simpa using c
 generalize decide (aK.mk d ac h k=aK.mk o a p r)=l5 at*;have l6:=λn v=> @wX n v;refine aM hm L1 ?_;refine bp λl7 l8=> ?_;refine cX λl9 n0 n1 n2=> ?_
 repeat' first|refine aG (λ_=> ?_) λ_=> ?_|trivial
 .refine bh (EO _ _ _ _ _ _ _ _ _ e j f) ?_
  repeat' first|refine aG (λ_=> ?_) λ_=> ?_|trivial
  .refine bh (EO _ _ _ _ _ _ _ _ _ g l i) ?_
   repeat' first|refine aG (λ_=> ?_) λ_=> ?_|trivial
   .simp_all
   .refine gK [2,3] (λb:Nat=> [(5,.v (.int .i64 b))]) (λb=>b<=ac.length/\ ∀x<b,ac.getD x []=a.getD x []) (λb=>ac.length - b) 0 ⟨a9k,λx c=>by omega⟩ aS ?_;rintro b ⟨n3,y⟩ n4;refine aa ?_;refine aG (λq=> ?_) λq=> ?_
    .repeat' first|refine aG (λ_=> ?_) λ_=> ?_|trivial
     .exact aP (P λc=>by grind).symm
     .exact⟨b+1,⟨a9k,upto y (by grind)⟩,rfl,a9k⟩
    .exact aP (m (by have:=uv a9k (λx c=>y x a9k);grind)).symm
  grind
 all_goals exact aP (P (by grind)).symm
theorem ZI (b d:List aK) (h k:List R) (D E:Own) (o:U) (p:az dx b h) (r:az dx d k) (e:b.length<=1000000):
  AC Tryz.prog 23 [.J h D,.J k E] o λF G=>G=o/\F= .v (.bool (decide (b=d))):=by
 have f:=p.len;have g:=r.len;refine aM hm K9 ?_;refine aG (λL=> ?_) λL=> ?_
 .exact aP (by grind)
 refine gK [0,1] (λa:Nat=> [(5,.v (.int .i64 a))]) (λa=>a<=b.length/\ ∀c<a,b.getD c default=d.getD c default) (λa=>b.length - a) 0 ⟨a9k,λc P=>by omega⟩ aS ?_;rintro a ⟨i,x⟩ j;refine aa ?_;refine aG (λS=> ?_) λS=> ?_
 .obtain⟨_,l,T,rfl,y⟩:=p.get (i:=a) (x:=b.getD a default) (by grind);obtain⟨_,m,z,rfl,C⟩:=r.get (i:=a) (x:=d.getD a default) (by simp_all);have V:=y.all;have W:=C.all;have n:=jG (n:= .agg T) V.1;have q:=jG (n:= .agg z) W.1;refine aa ?_;refine bh (ZH _ _ _ _ _ ⟨T,rfl,y⟩ ⟨z,rfl,C⟩) ?_;refine aG (λc2=> ?_) λc2=> ?_
  .exact aP (by grind)
  .exact⟨a+1,⟨a9k,upto x (by trivial)⟩,rfl,a9k⟩
 .exact aP (by have:=uv a9k (λc P=>x c a9k);simp[this])
variable{f t e4:U}{e i v O b9 j1:Nat}{Y:br}
def Ext.dV (c:Ext i v f t) (d:f e=none):Ext i v f (t.set e Y):=λb h k o a=>by
 have p:b≠e:=by rintro rfl;rw[d]at a;cases a
 rw[U.ao _ _ p];exact c b h k o a
def cr (a:List Int×Bool) (b c:ay):c3:=⟨1,[a],[b,c]⟩
def uE (h:U) (k o:Nat) (p:ag) (T:bB h k o p) (c:List Int×Bool) (a b:ay) (V r x y z C D:Own) (d:Nat) (q:1<=d) (s:d<=8) (W:a.sum.length=32) (e:b.sum.length=32) (t:a.cC) (u:b.cC):
  AC Tryz.prog 230 [dT k d,.agg [.J (ad c.1) V,.v (.bool c.2)],.agg (ab a r x y),.agg (ab b z C D)] h λf g=>bB g k o (dv p d (cr c a b)).2/\Ext k o h g/\ha (dv p d (cr c a b)).1 f:=by
 have v:=(aW (M:=r) (e6:=x) (h5:=y) W).all;have w:=(aW (M:=z) (e6:=C) (h5:=D) e).all;have A:bu a (.agg (ab a r x y)):=⟨W,t,_,_,_,rfl⟩;have B:bu b (.agg (ab b z C D)):=⟨e,u,_,_,_,rfl⟩;generalize ab a r x y=H at*;generalize ab b z C D=I at*;refine aM hm PV ?_;refine bp λcd X=> ?_;refine cX λca Y Z j9=> ?_;refine hp λdg k0 k1 k2 k3 k4=> ?_;refine x5 λeo k5 _ _ _ _ _ _=> ?_;refine X6 λhb i _ _ _ _ _ _ _ _=> ?_;refine X8 λK k6 _ _ _ _ _ _ _ _ _ _=> ?_;refine X9 λM k7 _ _ _ _ _ _ _ _ _ _ _ _=> ?_;generalize E:((((((h.set cd _).set ca _).set dg _).set eo _).set hb _).set K _).set M _=F;have j:h.sub F:=by subst E;exact aS
 have N:F hb=some (.cells (ab aA .nil .nil .nil)):=by subst E;rw[<-cq];exact aS
 clear E;have k8:=(aW (M:= .nil) (e6:= .nil) (h5:= .nil) bj).len;refine ai (xG F k o p (T.mono j) (cr c a b) [.agg [.J (ad c.1) V,.v (.bool c.2)]] [.agg H,.agg I] _ _ d q s ⟨⟨⟨_,rfl⟩,trivial⟩,⟨A,B,trivial⟩,bR.J (by simp[aT,R.cells]),bR.J (by simp[aT,R.cells,v.1,w.1]),by simp[cr],by simp[cr]⟩) ?_;rintro f k9 ⟨O,l,Q⟩;have G:=(T.cE i);have l0:=U.aI (l hb _ G.1 G.2 N);obtain⟨m,L,P,S,l1,n,rfl⟩:=Q.shape;have l2:=(aW (M:=L) (e6:=P) (h5:=S) n).all;have l3:putAt (ab aA .nil .nil .nil) 0 (ab m L P S)=ab m L P S:=cD bj n;refine aa ?_;exact⟨_,U.a1,O.set G,((Ext.of j).trans l).dV i⟩
def kH (b:ag) (c:Nat) (d:ay):Option ((List Int×Bool)×List ay):=
 match fj b c d with
 |none=>none
 |some a=>if a.kind=1 then some (a.rows.headD ([],false),a.kids)else none
variable{w j3:ay}{c0:c3}{H:ag}
theorem EP (a:fj H e w=some c0):dR e c0=true:=by
 unfold fj at a;split at a
 .cases a
 split at a
 .cases a
 rename_i c d b;split at a
 .obtain rfl:=a4G a;unfold ph at b;grind
 .cases a
theorem ER (b:dR e c0=true) (c:c0.kind=1):c0.rows.length=1/\c0.kids.length=2/\ ∀a∈c0.kids,a.key.length=0:=by simp_all [dR]
def ZJ (b c:U) (d:List ay) (h:R):Prop:= ∃a,ar b c 37 (flat a) h/\az bu d a
def yn (d:U) (F i:Nat) (y:ag) (v:bB d F i y) (h:ay) (G L P:Own) (j:h.sum.length=32) (w:h.cC) (a:Nat) (A:1<=a) (B:a<=8):
  AC Tryz.prog 182 [dT F a,.agg (ab h G L P)] d λS b=>d.sub b/\match kH y a h with
   |none=>S= .aL [.agg [.J [] .nil,.v (.bool false)],.J [] .nil,.v (.int .i64 21)]
   |some (k,bI)=> ∃H z,S= .aL [.agg [.J (ad k.1) H,.v (.bool k.2)],z,.v (.int .i64 0)]/\bI.length=2/\ZJ d b bI z:=by
 have k3:=(aW (M:=G) (e6:=L) (h5:=P) j).all;refine aM hm OH ?_;refine bp λcd k4=> ?_;refine cX λca k5 _ _=> ?_;refine hp λdg l _ _ _ _=> ?_;generalize T:((d.set cd _).set ca _).set dg _=V;have o:d.sub V:=by subst T;exact aS
 have p:V dg=some (.cells [.J [] .nil,.v (.bool false)]):=by subst T;exact aS
 clear T;refine ai (xz V F i y (v.mono o) h G L P j w a A B) ?_;rintro S I ⟨C,D⟩;have K:=U.aI (C _ _ p);rw[kH];cases W:fj y a h with
 |none=>
  rw[W]at D;obtain rfl:=D;refine aa ?_;refine aN λeo c=> ?_;have a:dg≠eo:=by rintro rfl;rw[C _ _ p]at c;cases c
  have M:=a4Q a;refine aa ?_;exact U.ae (U.au o C) (U.bF (U.au o C) c)
 |some r=>
  rw[W]at D;obtain⟨k,z,rfl,E⟩:=D;refine aa ?_;refine aN λeo c=> ?_;have a:dg≠eo:=by rintro rfl;rw[E.sub _ _ p]at c;cases c
  have M:=a4Q a;have K:=U.aI (E.sub _ _ p);have m:=U.au o E.sub;have e:(r.kind=1)↔(r.kind.toNat:Int)=1:=by rw[<-a5D];show r.kind.toNat=1↔ _;omega
  by_cases x: ¬r.kind=1
  .have:=mt e.2 x;exact aS
  have x:=Decidable.not_not.1 x;have k6:=e.1 x;clear e;obtain⟨N,k7,_⟩:=ER (EP W) x;obtain⟨k8,k9,O,f,n,q,Q,_⟩:=E;obtain⟨l0,l1,l2⟩:=r
  dsimp only at*
  obtain⟨s,rfl⟩:=a6I.1 N;have X:=(bR.dQ f a9k rfl (q.cells λ_ _=>df.cells)).mono n.1;obtain⟨l3,Y,Z,rfl⟩:=q.get (i:=0) rfl;obtain⟨t,u,j9⟩:=X.get 0 _ Y;have k0:=λb g=>j9.ld b g true 2 a9k (by simp[R.cells]);have u:cP 2 k (.v (.int .i64 0))=some t:=u;have k1: ∀b,I.sub b->dn true 2 b t=some (.agg [.J (ad s.1) Z,.v (.bool s.2)]):=λb g=>k0 b g;have l4:=k1 _ (U.ae (Y:= .cells [.v (.int .u8 1),k,z]) U.a1 c);refine aa ?_;refine⟨_,U.a1,U.ae (U.ae m (U.bF m c)) l,?_⟩;have k2:=U.au o f.1;exact⟨_,_,rfl,O,(jO (n.mono (U.ae U.a1 c)) (f.1 _ _ p)).base (U.ae k2 l),Q⟩
theorem yo (a c:List Int) (r x:Own) (k:Nat) (p:U) (F:k<a.length) (G:c.length=a.length) (L:a.length<=1000000000000):
  AC Tryz.prog 97 [.J (ad a) r,.J (ad c) x,.v (.int .i64 (k:Int))] p λy z=>z=p/\y= .v (.bool (decide (cK k a c<0))):=by
 have P:=bH (q:=a);have S:= @dJ a;have T:= @dJ c;have C: ∀d h:Int,ic d h=0↔d=h:=λd h=>by unfold ic;omega
 have V: ∀d h:Int,ic d h<0↔d<h:=λd h=>by unfold ic;omega
 refine aM hm M4 ?_;refine aG (λD=> ?_) λD=> ?_;simp_all [cK];have W:cK k a c=fM a c:=by rw[cK,if_pos (by rw[C];omega)]
 refine gK [0,1] (λb:Nat=> [(7,.v (.int .i64 b))]) (λb=>b<=a.length/\fM (a.drop b) (c.drop b)=fM a c) (λb=>a.length - b) 0 ⟨a9k,rfl⟩ aS ?_;rintro b ⟨e,o⟩ f;refine aa ?_;refine aG (λE=> ?_) λE=> ?_
 .rw[drop_cons (b:=0) a9k,drop_cons (b:=0) (e:=b) a9k,fM]at o;refine aG (λc2=> ?_) λc2=> ?_;grind;grind
 .rw[sL a9k,sL a9k]at o;exact aP (by rw[<-o];rfl)
def eY (c:Nat) (a:List Int) (d:List (List Int)):List (List Int):=d.takeWhile (λb=>decide (cK c b a<0))++a::d.dropWhile (λb=>decide (cK c b a<0))
def ec (a:Nat) (b:List (List Int)):List (List Int):=b.foldl (λc d=>eY a d c) []
theorem ZK (b:Nat) (c:List Int) (a:List (List Int)):(eY b c a).length=a.length+1:=by have:=congrArg List.length (a5z (p:=λd=>decide (cK b d c<0)) (l:=a));grind[List.length_append,eY,List.length_cons]
variable{Q:List (List Int)}{q b6:List Int}
theorem yp:q∈eY e b6 Q↔q=b6\/q∈Q:=by have:=congrArg (λQ=>q∈Q) (a5z (p:=λq=>decide (cK e q b6<0)) (l:=Q));simp only[a4X,eq_iff_iff]at this;grind[eY]
theorem ZL (c: ∀a<e,cK i (Q.getD a []) q<0) (b:e<=Q.length) (d:e<Q.length-> ¬cK i (Q.getD e []) q<0):eY i q Q=Q.take e++q::Q.drop e:=by
 induction Q generalizing e with
 |nil=>simp at b;subst b;rfl
 |cons h Q ih=>
  cases e with
  |zero=>grind[cK,eY,List.takeWhile_cons,List.dropWhile_cons]
  |succ e=>have o:cK i h q<0:=c 0 a9k;have:=ih (λa p=>c (a+1) a9k) (by simpa using b) (λk=>d (by simpa using k));simp_all [eY]
theorem ZM (h:List (List Int)) (l:List R) (H:Own) (y F:Nat) (e:U) (m:az isRow h l) (I: ∀G∈h,G.length=F) (k3:y<F) (k4:F<=8) (k5:h.length<=100000):
  AC Tryz.prog 162 [.J l H,.v (.int .i64 (y:Int))] e λG L=>e.sub L/\ ∃n K,az isRow (ec y h) n/\G= .J n K:=by
 have k6:=m.len;refine aM hm O0 ?_;refine ch [0,1] (λb:Nat×List R×Own=> [(6,.v (.int .i64 b.1)),(5,.J b.2.1 b.2.2)]) (λb L=>e.sub L/\b.1<=h.length/\ ∃c,(h.take b.1).foldl (λc x=>eY y x c) []=c/\c.length=b.1/\(∀G∈c,G.length=F)/\az isRow c b.2.1) (λb=>h.length - b.1) (0,[],.nil) ⟨⟨U.a1,a9k,[],rfl,rfl,a9l,trivial⟩,aS⟩ ?_;rintro⟨z,C,bD⟩ M ⟨q,N,c,P,O,Q,p⟩ X
 dsimp only at N P O p|-
 have k7:=p.len;refine aa ?_;refine aG (λY=> ?_) λY=> ?_
 .have s:h[z]? =some (h.getD z []):=by simp_all
  obtain⟨_,k8,f,rfl⟩:=m.get s;have k9:=I _ (a4O s);have t:=eQ (a:=h) (b:= []) (e:=z) a9k;generalize h.getD z []=x at*;have el: ∀a,a<c.length-> ∃E,C[a]? =some (.J (ad (c.getD a [])) E):=λa T=>by
   obtain⟨_,k,E,rfl⟩:=p.get (i:=a) (x:=c.getD a []) (by simp_all);exact⟨E,k⟩
  have Z: ∀a,a<c.length->(c.getD a []).length=F:=λa T=>Q _ (by simp_all);refine ch [0,1,5,6] (λb:Nat×List R×Own=> [(8,.v (.int .i64 b.1)),(7,.J b.2.1 b.2.2)]) (λb L=>b.1<=c.length/\(∀u<b.1,cK y (c.getD u []) x<0)/\az isRow (c.take b.1) b.2.1/\bf M L 1 b.2.1 b.2.2) (λb=>c.length - b.1) (0,[],.nil) ⟨⟨a9k,λu d=>by simp at d,trivial,bf.nil U.a1⟩,aS⟩ ?_;rintro⟨a,V,on⟩ l0 ⟨T,v,r,W⟩ X
  dsimp only at T v r W|-
  have l1:V.length=a:=by rw[r.len,a4K];omega
  have w: ¬(a<c.length/\cK y (c.getD a []) x<0)->eY y x c=c.take a++x::c.drop a:=λd=>ZL v T λj9 D=>d ⟨j9,D⟩;by_cases jS:(a)<(z:Int)
  .obtain⟨E,l2⟩:=el a a9k;have l3:=Z a a9k;have k0:=eQ (a:=c) (b:= []) (e:=a) a9k;generalize l4:c.getD a []=b at*;refine aa ?_;refine bh (yo b x E f y _ a9k a9k a9k) ?_;refine aG (λc2=> ?_) λc2=> ?_
   .refine jL (λA S=> ?_);refine ea (W.mono (U.ae U.a1 S)) (r.cells λ_ _=>isRow.cells) (λk o=>by rw[a5b]at o;subst o;rfl) a9m a9m λg B D=> ?_;refine aa ?_;refine⟨(a+1,V++ [.J (ad b) E],g),⟨by simp only;omega,?_,?_,D⟩,⟨rfl,rfl⟩,by simp only;omega⟩;grind
    .simp only[k0];exact r.snoc ⟨_,rfl⟩
   .have k:=w a9k;refine jL (λA S=> ?_);refine ea (W.mono (U.ae U.a1 S)) (r.cells λ_ _=>isRow.cells) (λk o=>by rw[a5b]at o;subst o;rfl) a9m a9m λg B D=> ?_;have k1:dI 1 (.J C bD) (some (.v (.int .i64 (a)))) none=some (.J (C.drop a) .any):=p6 a9k (p.cells λ_ _=>isRow.cells);refine aa ?_;refine ea D (λk o=>by rcases a4X.1 o with d|d;exact r.cells (λ_ _=>isRow.cells) k d;rw[a5b]at d;subst d;rfl) ((p.drop a).cells λ_ _=>isRow.cells) a9m a9m λi k2 j=> ?_;refine aa ?_;refine⟨(z+1,V++ [.J (ad x) f]++C.drop a,i),⟨U.au q j.sub,by simp only;omega,_,rfl,?_,?_,?_⟩,⟨rfl,rfl⟩,by simp only;omega⟩;grind;grind
    .simp only[t,a6G,P,a5N,a7O,k];rw[a7U];exact(r.snoc ⟨_,rfl⟩).append (p.drop a)
  .have k:=w a9k;refine aa ?_;refine jL (λA S=> ?_);refine ea (W.mono (U.ae U.a1 S)) (r.cells λ_ _=>isRow.cells) (λk o=>by rw[a5b]at o;subst o;rfl) a9m a9m λg B D=> ?_;have k1:dI 1 (.J C bD) (some (.v (.int .i64 (a)))) none=some (.J (C.drop a) .any):=p6 a9k (p.cells λ_ _=>isRow.cells);refine aa ?_;refine ea D (λk o=>by rcases a4X.1 o with d|d;exact r.cells (λ_ _=>isRow.cells) k d;rw[a5b]at d;subst d;rfl) ((p.drop a).cells λ_ _=>isRow.cells) a9m a9m λi k2 j=> ?_;refine aa ?_;refine⟨(z+1,V++ [.J (ad x) f]++C.drop a,i),⟨U.au q j.sub,by simp only;omega,_,rfl,?_,?_,?_⟩,⟨rfl,rfl⟩,by simp only;omega⟩;grind;grind
   .simp only[t,a6G,P,a5N,a7O,k];rw[a7U];exact(r.snoc ⟨_,rfl⟩).append (p.drop a)
 .obtain rfl:z=h.length:=a9k;rw[a5d]at P;exact⟨C,bD,by rw[ec,P];exact p,rfl⟩
inductive aC where
 |nil
 |node (r:List Int) (live:Bool) (a b:aC)
def dM (a:U):aC->R->Prop
 | .nil,b=>b= .v (.pointer none)
 | .node k live o p,b=> ∃c r d h,b= .ptr c 0/\a c=some (.cells [.J (ad k) r,.v (.bool live),d,h])/\dM a o d/\dM a p h
def dM.mono {b c:U} (a:b.sub c): ∀ {d:aC}{h:R},dM b d h->dM c d h
 | .nil,_,k=>k
 | .node _ _ _ _,_,⟨o,p,r,x,h1,y,z,C⟩=>⟨o,p,r,x,h1,a _ _ y,z.mono a,C.mono a⟩
theorem dM.cells {b:U}: ∀ {c:aC}{a:R},dM b c a->a.cells= [a]
 | .nil,_,rfl=>rfl
 | .node _ _ _ _,_,⟨_,_,_,_,rfl,_⟩=>rfl
def _root_.Go.bz.U.part (b c d:U):U:=λa=>if c a=none\/d a≠none then b a else none
def ES:U:=λ_=>none
theorem qT:(f.part t e4).sub f:=λa b c=>by
 grind[U.part]
def ET {c d:U} (h:f.sub t) (k:e4.sub c):(e4.part t d).sub (c.part f d):=λo p a=>by
 rw[U.part]at a|-;split at a
 .rename_i b;rw[if_pos (b.imp_left λb=>U.bF h b)];exact k _ _ a
 .cases a
def ZN {c:U} (b:f.sub t):(e4.part t ES).sub (e4.part f c):=λh k a=>by
 rw[U.part]at a|-;split at a
 .rename_i d;rw[if_pos (.inl (U.bF b (d.resolve_right λb=>b rfl)))];exact a
 .cases a
def py (b:f.sub t):f.sub (t.part e4 f):=λc d a=>by rw[U.part,if_pos (.inr (by rw[a];simp))];exact b _ _ a
theorem uF (a:f e=none):t.part f e4 e=t e:=if_pos (.inl a)
def aC.size:aC->Nat
 | .nil=>0
 | .node _ _ a b=>1+a.size+b.size
def aC.all:aC->List (List Int)
 | .nil=> []
 | .node a live b c=>b.all++c.all++(if live=true then [a]else [])
def qU: ∀(c:aC) (b:R) (a:U),dM a c b->c.size<=1000000->AC Tryz.prog 91 [b] a λd h=>h=a/\d= .v (.int .i64 (c.size:Int))
 | .nil,b,a,k,_=>by
  obtain rfl:b= .v (.pointer none):=k;refine aM hm Bj ?_;trivial
 | .node d live o p,b,a,⟨E,F,r,x,h1,y,z,C⟩,D=>by
  subst h1;have G:=U.af y;simp only[aC.size]at D;refine aM hm Bj ?_;refine bh (qU o r a z a9k) ?_;refine bh (qU p x a C a9k) ?_;rfl
def lv: ∀a:aC,a.all.length<=a.size
 | .nil=>by trivial
 | .node d live b c=>by
  have:=lv b;have:=lv c;simp only[aC.all,aC.size,a4J];split<;>simp<;>omega
def sN: ∀(r:aC) (b:R) (a:U),dM a r b->r.size<=1000000->AC Tryz.prog 90 [b] a λz G=> ∃x k,bf a G 1 x k/\az isRow r.all x/\z= .J x k
 | .nil,b,a,L,_=>by
  obtain rfl:b= .v (.pointer none):=L;refine aM hm Bi ?_;exact⟨_,U.a1,[],.nil,bf.nil U.a1,trivial,rfl⟩
 | .node z live C D,b,a,⟨g,k,P,S,h1,o,c,y⟩,T=>by
  subst h1;have i:=U.af o;simp only[aC.size]at T;have j:=lv C;have l:=lv D;refine aM hm Bi ?_;refine ai (sN C P a c a9k) ?_;rintro _ V ⟨m,n,p,d,rfl⟩;have q:=U.af (p.sub _ _ o);refine aa ?_;refine ai (sN D S V (y.mono p.sub) a9k) ?_;rintro _ s ⟨t,u,E,h,rfl⟩;have v:=U.af (E.sub _ _ (p.sub _ _ o));have w:=d.len;have A:=h.len;refine aa ?_;refine ea (p.mono E.sub) (d.cells λ_ _=>isRow.cells) (h.cells λ_ _=>isRow.cells) a9k a9k λW B c=> ?_;have H:=U.af (c.sub _ _ o);refine aa ?_;cases live with
  |true=>refine aa ?_;refine jL (λI e=> ?_);refine ea (c.mono (U.ae U.a1 e)) ((d.append h).cells λ_ _=>isRow.cells) (λK F=>by rw[a5b]at F;subst F;rfl) a9m a9m λf M y=> ?_;refine aa ?_;exact⟨_,U.a1,_,f,y,(d.append h).append ⟨⟨k,rfl⟩,trivial⟩,rfl⟩
  |false=>refine aa ?_;exact⟨_,U.a1,_,W,c,by simpa[aC.all] using d.append h,rfl⟩
def fO (b:Nat):Nat->List (List Int)->Nat->aC
 |0,_,_=> .nil
 |c+1,a,dep=>if a= []then .nil else
  .node ((ec (dep%b) a).getD (a.length/2) []) true (fO b c ((ec (dep%b) a).take (a.length/2)) (dep+1)) (fO b c ((ec (dep%b) a).drop (a.length/2+1)) (dep+1))
theorem yq {h:Nat}: ∀(b a:List (List Int)),(b.foldl (λk c=>eY h c k) a).length=a.length+b.length/\ ∀d,d∈b.foldl (λk c=>eY h c k) a↔d∈a\/d∈b
 | [],a=>by simp
 |c::b,a=>by
  obtain⟨o,p⟩:=yq b (eY h c a);refine⟨by rw[a5N,o,ZK,a4M];omega,λd=> ?_⟩;grind[yp]
theorem pz (b:Nat) (a:List (List Int)):(ec b a).length=a.length:=by rw[ec,(yq a []).1];simp
def qV:q∈ec e Q↔q∈Q:=by rw[ec,(yq Q []).2];simp
theorem uG (b:Nat) (E:0<b) (F:b<=8): ∀(h:Nat) (a:List (List Int)) (d:List R) (k:Own) (dep:Nat) (r:U),az isRow a d->(∀o∈a,o.length=b)->a.length<=h->h<=100000->dep+h<=1000000->
  AC Tryz.prog 92 [.J d k,.v (.int .i64 (dep:Int))] r λo g=>r.sub g/\dM (g.part r ES) (fO b h a dep) o
 |0,a,d,k,dep,r,x,C,v,_,_=>by
  obtain rfl:a= []:=a4N a9k;obtain rfl:d= []:=a4N x.len;refine aM hm wA ?_;exact⟨_,U.a1,U.a1,rfl⟩
 |h+1,a,d,k,dep,r,x,C,v,N,O=>by
  have Q:=x.len;by_cases G:a= []
  .subst G;obtain rfl:d= []:=a4N x.len;refine aM hm wA ?_;rw[fO,if_pos rfl];exact⟨_,U.a1,U.a1,rfl⟩
  have X:=a5P.2 G;have Y: ¬(a.length:Int)=0:=a9k;obtain⟨_,Z,j9,rfl⟩:=x.get (i:=0) (x:=a.getD 0 []) (by simp_all);have k0:=C (a.getD 0 []) (by simp_all);have k1:=bH (q:=a.getD 0 []);have w:(dep:Int).tmod (b:Int)=((dep%b:Nat)):=rfl;have k2: ¬(b:Int)=0:=a9k;have A:(a.length:Int).tdiv 2=((a.length/2:Nat)):=rfl;have k3: ∀L k,cP L (.J d k) (.v (.int .i64 0))=eA L d[0]? :=λL k=>o3;refine aM hm wA ?_;refine ai (ZM a d k (dep%b) b r x C (a6L _ E) F a9k) ?_;rintro _ B ⟨D,y,P,p,rfl⟩;have i:=p.len;rw[pz]at i;have j:=pz (dep%b) a;have S: ∀T∈ec (dep%b) a,T.length=b:=λT H=>C T (qV.1 H);obtain⟨z,l⟩: ∃z,ec (dep%b) a=z:=⟨_,rfl⟩;rw[fO,if_neg G];rw[l]at j S p|-;generalize I:a.length/2=c at*;obtain⟨_,k4,m,rfl⟩:=p.get (i:=c) (x:=z.getD c []) (by grind);have k5:dI 1 (.J y P) none (some (.v (.int .i64 (c))))=some (.J (y.take c) .any):=by have:=nX (e2:= .i64) (M:=P) (b1:=(c)) a9k a9k (p.cells λ_ _=>isRow.cells);trivial
  have k6:dI 1 (.J y P) (some (.v (.int .i64 ((c)+1)))) none=some (.J (y.drop (c+1)) .any):=p6 (e:=c+1) a9k (p.cells λ_ _=>isRow.cells);refine aa ?_;refine ai (uG b E F h (z.take c) (y.take c) .any (dep+1) B (p.take c) (λo V=>S o (a4V V)) (by rw[a4K];omega) a9k a9k) ?_;rintro n K ⟨W,q⟩;refine aa ?_;refine ai (uG b E F h (z.drop (c+1)) (y.drop (c+1)) .any (dep+1) K (p.drop (c+1)) (λo V=>S o (a5m V)) (by rw[a4Y];omega) a9k a9k) ?_;rintro s k7 ⟨e,t⟩;clear l j i w A I;have k8:=q.cells;have k9:=t.cells;refine aa ?_;refine aN λM u=> ?_;refine aa ?_;have f:=U.ae (Y:= .cells [.J (ad (z.getD c [])) m,.v (.bool true),n,s]) U.a1 u;exact⟨_,U.a1,U.au D (U.au W (U.au e f)),M,m,n,s,rfl,(uF (U.bF D (U.bF W (U.bF e u)))).trans (U.ah _ _ _),q.mono (ET D (U.au e f)),t.mono (ET (U.au D W) f)⟩
end Go.Proofs.YtlgnfcaolejgeaaGreat
namespace Go.bz
open Go
variable{f t e4:U}{u:bl}{l h8:World}
theorem Step.ZO {p:bl} (b:Step u f l p t h8) (r: ∀a,f a=none\/ ∃c,f a=some (.ro c)): ∃x k,h8=Sort.grow (l.drewN x) k:=by
 have d: ∀a,a<l.heap.size->h8.heap[a]? =l.heap[a]? :=λa d=>by
  rcases r a with h|⟨c,h⟩
  .exact b.block a d h
  .exact(b.jw a c d h).1
 have y:=b.os;have z:=b.tape;have o:=b.output;have C:=b.size;refine⟨h8.drawn - l.drawn,h8.heap.extract l.heap.size h8.heap.size,?_⟩;obtain⟨D,E,F,k,G⟩:=l;obtain⟨L,P,S,T,V⟩:=h8;simp only at*;obtain⟨rfl,o⟩:=o;subst y;subst z;simp only[Sort.grow,World.drewN,World.mk.injEq,true_and,and_true];grind
theorem Step.grown (d:Holds u f l) (o:Nat) (os:Array Obj):Step u f l u f (Sort.grow (l.drewN o) os):=by
 have c: ∀a,a<l.heap.size->(Sort.grow (l.drewN o) os).heap[a]? =l.heap[a]? :=λa c=>by
  show(l.heap++os)[a]? = _;grind
 exact {holds:=⟨λa h v p=>by rw[<-d.ro a h v p];exact World.cell?_of_block (c a (d.lt p)),λk h r=>(d.dN k h r).kept (.refl u) (c k (d.dN k h r).lt) (λ_ x=>x)⟩,le:= .refl u,os:=rfl,tape:=rfl,output:=⟨rfl,Nat.le_add_right _ _⟩,size:=a9l,block:=λa b _=>c a b,ee:=λ_ b=> .inl b,mz:=λ_ _ b=> .inl b,jw:=λa y b z=>⟨c a b,.inr ⟨y,z⟩⟩}
variable{b0:Type}
theorem ZP [Inhabited b0] (h:b0->Value) (b:World) (a:Nat) (c:Array b0) (d:Array Value) (k:TypeId) (o:Nat×Nat) (p:b.heap[a]? =some (.cells d k o)) (x:c.size<=d.size):
  Sort.putRow h b a 0 c=b.setRow a (di d 0 (c.toList.map h)):=by
 unfold Sort.putRow Sort.mapBlock World.setRow;congr 1;apply Array.ext_getElem?;intro r;simp only[Array.getElem?_modify];by_cases hk:a=r
 .subst hk;simp only[if_true,p,a5I,Sort.onCells];congr 2;apply a8S;apply a8p;intro y;simp only[Sort.putCells,di,a6o,Array.getElem?_mapIdx,a6D,a5a,a5h,a4T,a8d];grind
 .simp[hk]
variable{g A e1:List R}{e i v O b9 j1:Nat}{m:Program}
theorem ZQ {k6:Shelf.Ren} (n5:Proofs.SlLaysF.n6 m k6) (S:b0->R->Prop) (n9: ∀a d,S a d->d.one=true/\d.cells= [d]) {C:List b0}
  (Y:f e=some (.cells g)) (a69:A.length=C.length) (a00: ∀(b:Nat) a d,C[b]? =some a->A[b]? =some d->S a d) (a01:C.length=i) (k7:g.take i=A) (a71:i<4611686018427387904)
  (V:FuncId) (I:List R) (k8:t.sub f) (k9: ∀c,t c=none\/ ∃Z,t c=some (.ro Z)) (x:b0->Prop) (a02: ∀j∈C,x j) (a03:0<i)
  (y:b0->b0->Int) (a73: ∀a,x a-> ¬y a a<0) (a74: ∀a h D,x a->x h->x D->y a h<0->y h D<0->y a D<0) (a81: ∀a h D,x a->x h->x D-> ¬y a h<0-> ¬y h D<0-> ¬y a D<0)
  (a04: ∀l0 p,(callFunc V l0).run m p= .ok (.enter V l0) p)
  (a05: ∀a h d c,S a d->S h c->x a->x h->AC m V ([d,c]++I) t λj _=>j= .v (.int .i64 (y a h))):
  AC m (k6.f 6) [.an e i O 1,.bG V [] I] f λj l1=>j= .aL []/\ ∃o j9,j9.Perm C/\o.length=i/\(∀(b:Nat) a d,j9[b]? =some a->o[b]? =some d->S a d)/\List.Pairwise (λd c=> ¬y c d<0) j9/\l1=f.set e (.cells (o++g.drop i)):=by
 intro K p z k0 w;have l2:=k0.2 0 _ rfl;have l3:=k0.2 1 _ rfl;have a06:K.size=2:=k0.1;generalize a07:K.getD 0 undef=a83 at l2;generalize a08:K.getD 1 undef=a84 at l3;cases l2 with
 |an e i O a86 a88 a89=>
 cases l3 with
 |bG a90 ws ie cz a92 hw a94 a09 a10=>
 obtain rfl:ws= #[]:=a8a hw;have ak:K= #[.slice (some ⟨e,0,none⟩) i O,.func (.func V) #[] ie]:=by
  apply Array.ext
  .exact a06
  .intro b G L
   match b,G with
   |0,G=>rw[<-a07];simp_all
   |1,G=>rw[<-a08];simp_all
   |b+2,G=>omega
 rw[ak];obtain⟨a95,l,T,k1,l4,a11⟩:=w.dN e _ Y;have a96:i<=g.length:=by grind
 have a97:=l4.1
 let W:= {P:Value×b0//(∃d,S P.2 d/\aY z P.1 d)/\x P.2};have l5: ∀b (n:b<i),∃a:W,a.1.1=l[b]'a9k/\a.1.2=C[b]'a9k:=λb n=>by
  have G:g[b]? =some (A[b]'a9k):=by grind
  have L:=l4.2 b _ G;have B:l.getD b undef=l[b]'a9k:=by simp[show b<l.size by omega]
  rw[B]at L;exact⟨⟨(l[b]'a9k,C[b]'a9k),⟨_,a00 b _ _ (a4H _) (a4H _),L⟩,a02 _ (a5k _)⟩,rfl,rfl⟩
 haveI:Inhabited W:=⟨(l5 0 a03).choose⟩
 obtain⟨E,l6,a98⟩: ∃E:Array W,E.size=i/\ ∀b (n:b<i) (a13),E[b].1.1=l[b]'a9k/\E[b].1.2=C[b]'a9k:=
  ⟨Array.ofFn λb=>(l5 b b.2).choose,a9l,λb n a13=>by grind[Array.getElem_ofFn]⟩
 let k:W->Value:=λa=>a.1.1;have G:Proofs.OneCell k:=λa=>by
  obtain⟨⟨d,L,B⟩,_⟩:=a.2;exact B.nL (n9 _ _ L).1
 have a14:Sort.Holds k p e 0 E:=λr k2=>by
  have a99:r<i:=a9k;rw[getElem!_pos E r k2];constructor
  .simp only[World.cell?,k1,a5h,a6A,a5L,if_false];grind
  .simp[World.frozen?,k1]
 have a15:=(a5X.1 k1).1
 let k3:W->W->Int:=λa h=>y a.1.2 h.1.2;have a16:Proofs.CmpLays1 m V ie k k3 e 0 E.size p:=λl7 q l8 b00 a h=>by
  have l9: ∀c,c<p.heap.size->c≠e->(Proofs.sortWorld k p e 0 l7 l8 q).heap[c]? =p.heap[c]? :=λc M N=>by
   show(((p.heap.modify e _)++q)[c]?)= _;grind
  have a18:Holds z t (Proofs.sortWorld k p e 0 l7 l8 q):=⟨λc k4 v s=>by
   have N:c≠e:=by rintro rfl;rw[a11]at s;cases s
   rw[<-w.ro c k4 v s];exact World.cell?_of_block (l9 c (w.lt s) N),λc k4 M=>by
   have N:c≠e:=by
    rintro rfl;rcases k9 c with H|⟨Z,H⟩
    .rw[H]at M;cases M
    .have:=k8 _ _ H;rw[Y]at this;cases this
   have L:=w.dN c k4 (k8 _ _ M);exact L.kept (.refl z) (l9 c L.lt N) λ_ n=>n⟩
  obtain⟨⟨d,aM,a19⟩,a27⟩:=a.2;obtain⟨⟨c,a29,a30⟩,a34⟩:=h.2;have a36:bq z (#[k a,k h]++ie) ([d,c]++I):=⟨by simp[a09];omega,λr Q u=>by
   match r,u with
   |0,u=>obtain rfl:=a4G u;rw[show(#[k a,k h]++ie).getD 0 undef=k a by rw[a5E,a7A a9l];rfl];exact a19
   |1,u=>obtain rfl:=a4G u;rw[show(#[k a,k h]++ie).getD 1 undef=k h by rw[a5E,a7A a9l];rfl];exact a30
   |r+2,u=>
    have B:I[r]? =some Q:=by trivial
    have k2:r<ie.size:=by grind
    have b01:=a10 r Q B;simp_all [a5E,Array.getElem?_append_right]⟩
  refine(a05 _ _ d c aM a29 a27 a34 _ _ z a36 a18).mono ?_;rintro a38 a42 ⟨v,j,b02,l1,rfl,X,s,rfl⟩;refine⟨by rw[s.dP],X.ZO k9⟩
 have a43:Sort.SWO (Proofs.ltOf k3):=⟨λa=>by simp only[Proofs.ltOf];grind,λa h D=>by simp only[Proofs.ltOf,decide_eq_true_eq];grind,λa h D=>by grind[Proofs.ltOf,decide_eq_false_iff_not]⟩;have n0:=Proofs.Any.slices_SortFunc n5 k G k3 a43 V ie e 0 O E p a04 a16 a14 a15 a9k;rw[l6]at n0;refine n0.mono ?_;rintro a38 a42 ⟨rfl,F,P,q,⟨b03,_,n1⟩,a47,rfl⟩;have n2:F.size=i:=a9k;rw[a8i a9k,a8i a9k]at n1
 let o:List R:=F.toList.map λa=>a.2.1.choose;have b04: ∀a:W,S a.1.2 a.2.1.choose/\aY z a.1.1 a.2.1.choose:=λa=>a.2.1.choose_spec;have a48:bq z (F.toList.map k).toArray o:=bq.dO.2 ⟨by simp[o],λr b05 Q n3 a52=>by
  simp only[a5i,o]at n3 a52;cases k5:F.toList[r]? with
  |none=>simp[k5]at n3
  |some a=>grind⟩
 obtain⟨a56,b06,b07,b08,X⟩:=Step.store w Y 0 o _ a48 (λZ k7=>by
  obtain⟨a,_,rfl⟩:=a5c.1 k7;grind) (by simp[o];omega)
 have a57:Sort.putRow k (Sort.ahead p P) e 0 F=Sort.ahead (p.setRow e (di a56 0 (F.toList.map k))) P:=by grind[Sort.putRow_ahead,ZP]
 have a61:=X.trans (Step.grown X.holds P q);refine⟨_,.aL [],z,f.set e (.cells (o++g.drop i)),rfl,?_,.aL #[] [] rfl (λr Q H=>by simp at H),rfl,o,F.toList.map (λa=>a.1.2),?_,by simp[o,n2],?_,?_,rfl⟩
 .have a62:putAt g 0 o=o++g.drop i:=by simp[putAt,o,n2]
  rw[<-a62];show Step z f p z _ (Sort.grow (Sort.putRow k (Sort.ahead p P) e 0 F) q);rw[a57];exact a61
 .have a63:C=E.toList.map (λa=>a.1.2):=by
   apply a8w
   .simp[a01,l6]
   simp_all
  rw[a63];exact n1.map _
 .intro b a d n4 a65;simp only[a5i,o]at n4 a65;cases k5:F.toList[b]? with
  |none=>simp[k5]at n4
  |some h=>grind
 .rw[a7e,a6y];intro b r n k2 a68;have:=a47 b r (a5o _) a68 (by simp_all);grind[Array.length_toList,Proofs.ltOf]
end Go.bz
namespace Go.Proofs
open Go.Shelf
def Tryz.ZR:Go.Shelf.Ren:=⟨λ|6=>118|15=>184|14=>183|28=>267|29=>268|20=>259|21=>260|22=>261|23=>262|24=>263|25=>264|26=>265|27=>266|46=>316|47=>317|48=>318|49=>319|50=>320|57=>346|a=>a,λ|22=>37|24=>24|25=>196|3=>3|39=>213|0=>0|53=>284|55=>130|4=>4|46=>324|45=>323|50=>221|5=>5|9=>9|66=>368|70=>372|76=>385|77=>386|a=>a,λ|a=>a⟩
def Tryz.EU:Go.Proofs.SlLaysF.n6 Tryz.prog Tryz.ZR:= {
 mixed:=a9p
 f6:=⟨Tryz.f118.name,a9o,Tryz.func118.trans (congrArg some a9p)⟩
 f14:=⟨Tryz.f183.name,a9o,Tryz.func183.trans (congrArg some a9p)⟩
 f15:=Tryz.func184.trans (congrArg some a9p)
 f20:=⟨Tryz.f259.name,a9o,Tryz.func259.trans (congrArg some a9p)⟩
 f21:=⟨Tryz.f260.name,a9o,Tryz.func260.trans (congrArg some a9p)⟩
 f22:=⟨Tryz.f261.name,a9o,Tryz.func261.trans (congrArg some a9p)⟩
 f23:=⟨Tryz.f262.name,a9o,Tryz.func262.trans (congrArg some a9p)⟩
 f24:=⟨Tryz.f263.name,a9o,Tryz.func263.trans (congrArg some a9p)⟩
 f25:=⟨Tryz.f264.name,a9o,Tryz.func264.trans (congrArg some a9p)⟩
 f26:=⟨Tryz.f265.name,a9o,Tryz.func265.trans (congrArg some a9p)⟩
 f27:=⟨Tryz.f266.name,a9o,Tryz.func266.trans (congrArg some a9p)⟩
 f28:=Tryz.func267.trans (congrArg some a9p)
 f29:=Tryz.func268.trans (congrArg some a9p)
 f46:=⟨Tryz.f316.name,a9o,Tryz.func316.trans (congrArg some a9p)⟩
 f47:=Tryz.func317.trans (congrArg some a9p)
 f48:=Tryz.func318.trans (congrArg some a9p)
 f49:=⟨Tryz.f319.name,a9o,Tryz.func319.trans (congrArg some a9p)⟩
 f50:=⟨Tryz.f320.name,a9o,Tryz.func320.trans (congrArg some a9p)⟩
 f57:=⟨Tryz.f346.name,a9o,Tryz.func346.trans (congrArg some a9p)⟩
 t0:=Tryz.underlying0
 a0:=Tryz.isAgg0
 z0:=Tryz.sizeOf0
 v0:=Tryz.zeroValue0
 t3:=Tryz.underlying3
 a3:=Tryz.isAgg3
 z3:=Tryz.sizeOf3
 v3:=Tryz.zeroValue3
 t4:=Tryz.underlying4
 a4:=Tryz.isAgg4
 z4:=Tryz.sizeOf4
 v4:=Tryz.zeroValue4
 t5:=Tryz.underlying5
 a5:=Tryz.isAgg5
 z5:=Tryz.sizeOf5
 v5:=Tryz.zeroValue5
 t9:=Tryz.underlying9
 a9:=Tryz.isAgg9
 z9:=Tryz.sizeOf9
 v9:=Tryz.zeroValue9
 t22:=Tryz.underlying37
 a22:=Tryz.isAgg37
 z22:=Tryz.sizeOf37
 v22:=Tryz.zeroValue37
 a24:=Tryz.isAgg24
 z24:=Tryz.sizeOf24
 t25:=Tryz.underlying196
 a25:=Tryz.isAgg196
 z25:=Tryz.sizeOf196
 v25:=Tryz.zeroValue196
 t39:=Tryz.underlying213
 a39:=Tryz.isAgg213
 z39:=Tryz.sizeOf213
 v39:=Tryz.zeroValue213
 t45:=Tryz.underlying323
 a45:=Tryz.isAgg323
 z45:=Tryz.sizeOf323
 v45:=Tryz.zeroValue323
 t46:=Tryz.underlying324
 a46:=Tryz.isAgg324
 z46:=Tryz.sizeOf324
 v46:=Tryz.zeroValue324
 t50:=Tryz.underlying221
 a50:=Tryz.isAgg221
 z50:=Tryz.sizeOf221
 v50:=Tryz.zeroValue221
 t53:=Tryz.underlying284
 a53:=Tryz.isAgg284
 z53:=Tryz.sizeOf284
 v53:=Tryz.zeroValue284
 t55:=Tryz.underlying130
 a55:=Tryz.isAgg130
 z55:=Tryz.sizeOf130
 v55:=Tryz.zeroValue130
 t66:=Tryz.underlying368
 a66:=Tryz.isAgg368
 z66:=Tryz.sizeOf368
 v66:=Tryz.zeroValue368
 t70:=Tryz.underlying372
 a70:=Tryz.isAgg372
 z70:=Tryz.sizeOf372
 v70:=Tryz.zeroValue372
 t76:=Tryz.underlying385
 a76:=Tryz.isAgg385
 z76:=Tryz.sizeOf385
 v76:=Tryz.zeroValue385
 t77:=Tryz.underlying386
 a77:=Tryz.isAgg386
 z77:=Tryz.sizeOf386
 v77:=Tryz.zeroValue386}
end Go.Proofs
namespace Go.Proofs.YtlgnfcaolejgeaaGreat
open Go Go.bz
variable{f t e4:U}
theorem ZS {b c:U} (h: ∀a,t a=none->f a=none) (k: ∀a,c a≠none->f a=none\/b a≠none):(e4.part t c).sub (e4.part f b):=λa o d=>by
 rw[U.part]at d|-;grind
variable{e i v O b9 j1:Nat}{Y:br}
def yr (c:f.sub t):(f.set e Y).sub (t.set e Y):=λd h a=>by
 by_cases b:d=e
 .subst b;rw[U.ah]at a|-;exact a
 .rw[U.ao _ _ b]at a|-;exact c _ _ a
theorem ys {d h:U}{o:br} (p:f.sub t) (r:e4=f.set e o) (k:f e=none):
  (d.part (t.set e Y) ((t.part e4 h).set e Y)).sub (d.part f h):=ZS (λc a=>by
   by_cases b:c=e
   .subst b;exact k
   .rw[U.ao _ _ b]at a;exact U.bF p a) λc a=>by
   by_cases b:c=e
   .subst b;exact .inl k
   .rw[U.ao _ _ b,U.part]at a;split at a;simp_all [U.ao]
    .trivial
theorem uH {a:U} (b:f=e4.set e Y) (c:t e=none):a.part f t e=none:=by simp_all [U.part,U.ah]
def aC.Ok (a:Nat):aC->Prop
 | .nil=>True
 | .node b _ c d=>b.length=a/\c.Ok a/\d.Ok a
theorem aC.Ok.all {c:Nat}: ∀ {d:aC},d.Ok c-> ∀b∈d.all,b.length=c
 | .nil,_,b,a=>by trivial
 | .node o live p r,⟨h1,h,k⟩,b,a=>by
  simp only[aC.all,a4X]at a;rcases a with (a|a)|a
  .exact h.all b a
  .exact k.all b a
  simp_all
def hA (d:Nat) (h:aC) (k:Nat):aC:=
 match h with
 | .nil=> .nil
 | .node c live a b=>if max a.size b.size>2*(aC.node c live a b).size/3+1 then fO d (aC.node c live a b).all.length (aC.node c live a b).all k else .node c live a b
theorem yt (o:Nat) (j:0<o) (l:o<=8) (d:List Int) (h:Bool) (a b:aC) (F:R) (p:Nat) (k r:U) (G:dM r (.node d h a b) F) (L:r.sub k) (m:(aC.node d h a b).Ok o) (x:(aC.node d h a b).size<=100000) (k1:p<=100000):
  AC Tryz.prog 96 [F,.v (.int .i64 (p:Int))] k λy P=>k.sub P/\dM (P.part k r) (hA o (.node d h a b) p) y:=by
 have z:=G.mono L;obtain⟨k2,k3,y,n,rfl,q,s,t⟩:=id z;have k4:=U.af q;have u:a.size<=100000:=by simp only[aC.size]at x;omega
 have w:b.size<=100000:=by simp only[aC.size]at x;omega
 refine aM hm M1 ?_;refine bh (qU a y k s a9k) ?_;refine bh (qU b n k t a9k) ?_;have A:=lv (aC.node d h a b);have S:=qU _ _ k z a9k;rw[hA];have B:=uG o j l (aC.node d h a b).all.length (aC.node d h a b).all;have H:=sN _ _ k z a9k;have I:=m.all;generalize aC.node d h a b=K at*;obtain⟨c,T⟩: ∃c,K.size=c:=⟨_,rfl⟩;obtain⟨C,V⟩: ∃c,a.size=c:=⟨_,rfl⟩;obtain⟨D,W⟩: ∃c,b.size=c:=⟨_,rfl⟩;rw[T]at S x A|-;rw[V]at u|-;rw[W]at w|-;clear T V W;have M:(2*(c:Int)).tdiv 3=((2*c/3:Nat)):=by grind
 obtain⟨E,e⟩: ∃E,2*c/3=E:=⟨_,rfl⟩;rw[e]at M|-;have N:max (C:Int) (D)=((max C D)):=a9k;obtain⟨f,g⟩: ∃f,max C D=f:=⟨_,rfl⟩;rw[g]at N|-;have hm:E<=100000:=a9k;clear e g;refine bh S ?_;refine aG (λO=> ?_) λO=> ?_
 .rw[if_pos a9k];refine ai H ?_;rintro _ Q ⟨X,Y,i,Z,rfl⟩;refine aa ?_;refine ai (B X Y p Q Z I a9k a9k a9k) ?_;rintro v k5 ⟨j9,k0⟩;refine aa ?_;exact⟨_,U.a1,U.au i.sub j9,k0.mono (ZN i.sub)⟩
 .rw[if_neg a9k];exact⟨_,U.a1,U.a1,G.mono (py L)⟩
theorem qW (b:Nat): ∀(c:Nat) (a:List (List Int)) (dep:Nat),(fO b c a dep).size<=a.length
 |0,_,_=>a5o _
 |c+1,a,dep=>by
  rw[fO];split
  .exact a5o _
  .rename_i d;have:=a5P.2 d;have h:=qW b c ((ec (dep%b) a).take (a.length/2)) (dep+1);have k:=qW b c ((ec (dep%b) a).drop (a.length/2+1)) (dep+1);grind[List.length_take,pz,List.length_drop,aC.size]
theorem yu (b:Nat): ∀(d:Nat) (h:List (List Int)) (dep:Nat),(∀a∈h,a.length=b)->(fO b d h dep).Ok b
 |0,_,_,_=>trivial
 |d+1,h,dep,o=>by
  rw[fO];split
  .trivial
  .rename_i p;have:=a5P.2 p;have k: ∀a∈ec (dep%b) h,a.length=b:=λa c=>o a (qV.1 c);refine⟨?_,yu b d _ _ λa c=>k a (a4V c),yu b d _ _ λa c=>k a (a5m c)⟩;grind[ec,pz,List.getD,List.getElem?_eq_getElem,List.getElem_mem]
theorem ZT (b:Nat) (a:aC) (c:Nat):(hA b a c).size<=a.size:=by
 unfold hA;split
 .trivial
 .split
  .exact a5F (qW _ _ _ _) (lv _)
  .omega
variable{a8:aC}
def yv (b:Nat) (a:a8.Ok e):(hA e a8 b).Ok e:=by
 unfold hA;split
 .trivial
 .split
  .exact yu _ _ _ _ a.all
  .exact a
def cZ (a:Nat) (b:List Int):aC->Nat->aC×Bool
 | .nil,_=>(.node b true .nil .nil,true)
 | .node c live d h,dep=>
  if c=b then(hA a (.node c true d h) dep,!live)
  else if cK (dep%a) b c<0 then(hA a (.node c live (cZ a b d (dep+1)).1 h) dep,(cZ a b d (dep+1)).2)
  else(hA a (.node c live d (cZ a b h (dep+1)).1) dep,(cZ a b h (dep+1)).2)
theorem pA (a:Nat) (b:List Int): ∀(c:aC) (dep:Nat),(cZ a b c dep).1.size<=c.size+1
 | .nil,_=>a5n _
 | .node k live d h,dep=>by
  have o:=pA a b d (dep+1);have p:=pA a b h (dep+1);grind[cZ,Nat.le_trans,ZT,aC.size]
def uI {a:Nat}{b:List Int} (c:b.length=a): ∀ {r:aC} (dep:Nat),r.Ok a->(cZ a b r dep).1.Ok a
 | .nil,_,_=>⟨c,trivial,trivial⟩
 | .node d live h k,dep,⟨h1,o,p⟩=>by
  rw[cZ];split
  .exact yv (a8:= .node d true h k) _ ⟨h1,o,p⟩
  .split
   .exact yv (a8:= .node d live (cZ a b h (dep+1)).1 k) _ ⟨h1,uI c _ o,p⟩
   .exact yv (a8:= .node d live h (cZ a b k (dep+1)).1) _ ⟨h1,o,uI c _ p⟩
def yw (a:Nat) (E:0<a) (P:a<=8) (o:List Int) (g:Own) (S:o.length=a): ∀(T:aC) (V:R) (dep:Nat) (x y:U),dM y T V->y.sub x->T.Ok a->T.size+1+dep<=100000->
  AC Tryz.prog 54 [V,.J (ad o) g,.v (.int .i64 (dep:Int))] x λk H=>x.sub H/\ ∃d,k= .aL [d,.v (.bool (cZ a o T dep).2)]/\dM (H.part x y) (cZ a o T dep).1 d
 | .nil,V,dep,x,y,q,z,I,K=>by
  obtain rfl:V= .v (.pointer none):=q;refine aM hm Bc ?_;refine aN λb h=> ?_;refine aa ?_;exact⟨_,U.a1,U.ae U.a1 h,_,rfl,b,g,_,_,rfl,(uF h).trans (U.ah _ _ _),rfl,rfl⟩
 | .node c live F G,V,dep,x,y,q,z,I,K=>by
  obtain⟨M,p,k,d,rfl,N,i,j⟩:=q;have W:=z _ _ N;have O:=i.mono z;have Q:=j.mono z;obtain⟨s,l,m⟩:=id I;have k4:=U.af W;have k5:=bH (q:=o);have k6:=O.cells;have k7:=Q.cells;refine aM hm Bc ?_;refine bp λb h=> ?_;have X:=U.ae (Y:= .cells [.J (ad c) p,.v (.bool live),k,d]) U.a1 h;have k8:=U.af (X _ _ W);have k9:M≠b:=by rintro rfl;rw[h]at W;cases W
  have C:=U.bF z h;obtain⟨n,Y⟩: ∃n,n=x.set b (.cells [.J (ad c) p,.v (.bool live),k,d]):=⟨_,rfl⟩;simp only[aC.size]at K;refine aa ?_;refine ai (nr c o _ _ _ a9k) ?_;rintro _ _ ⟨rfl,rfl⟩;refine aa ?_;refine aG (λt=> ?_) λt=> ?_
  .subst t;have Z:dM ((x.part n y).set b (.cells [.J (ad c) p,.v (.bool true),k,d])) (.node c true F G) (.ptr b 0):=by have r:=U.ae (Y:= .cells [.J (ad c) p,.v (.bool true),k,d]) (py (e4:=n) z) C;exact⟨b,p,k,d,rfl,U.ah _ _ _,i.mono r,j.mono r⟩
   refine ai (yt a E P c true F G _ dep _ _ Z (yr qT) ⟨s,l,m⟩ (by simp only[aC.size];omega) a9k) ?_;rintro v L ⟨r,D⟩;have l0:=U.af (r _ _ (U.ae U.a1 h _ _ W));refine aa ?_;rw[cZ,if_pos rfl];exact⟨_,U.a1,U.au (U.ae U.a1 h) r,_,rfl,D.mono (ys U.a1 Y h)⟩
  rw[cZ,if_neg t];have l1:(dep:Int).tmod (a:Int)=((dep%a:Nat)):=rfl;refine ai (yo o c _ _ (dep%a) _ (by rw[S];exact a6L _ E) a9k a9k) ?_;rintro _ _ ⟨rfl,rfl⟩;refine aa ?_;refine aG (λc2=> ?_) λc2=> ?_
  .refine ai (yw a E P o g S F k (dep+1) _ y i (U.ae z C) l a9k) ?_;rintro _ L ⟨r,v,rfl,D⟩;have u:=r _ _ (U.ah _ _ _);have j9:eg L b=some [.J (ad c) p,.v (.bool live),k,d]:=by simp[eg,u]
   have k0:=D.cells;have e:=U.au (U.ae U.a1 h) r;rw[if_pos c2];refine aa ?_;have f:=U.ae (Y:= .cells [.J (ad c) p,.v (.bool live),v,d]) U.a1 (uH rfl C:L.part (x.set b (.cells [.J (ad c) p,.v (.bool live),k,d])) y b=none);have w:dM _ (.node c live (cZ a o F (dep+1)).1 G) (.ptr b 0):=⟨b,p,v,d,rfl,U.ah _ _ _,D.mono f,j.mono (U.au (py (U.au (U.ae z C) r)) f)⟩;have k1:=pA a o F (dep+1);refine ai (yt a E P _ _ _ _ _ dep _ _ w (yr qT) ⟨s,uI S _ l,m⟩ (by simp only[aC.size];omega) a9k) ?_;rintro k2 k3 ⟨A,B⟩;refine aa ?_;exact⟨_,U.a1,U.au (U.ae e h) A,_,rfl,B.mono (ys e rfl h)⟩
  .refine ai (yw a E P o g S G d (dep+1) _ y j (U.ae z C) m a9k) ?_;rintro _ L ⟨r,v,rfl,D⟩;have u:=r _ _ (U.ah _ _ _);have j9:eg L b=some [.J (ad c) p,.v (.bool live),k,d]:=by simp[eg,u]
   have k0:=D.cells;have e:=U.au (U.ae U.a1 h) r;rw[if_neg c2];refine aa ?_;have f:=U.ae (Y:= .cells [.J (ad c) p,.v (.bool live),k,v]) U.a1 (uH rfl C:L.part (x.set b (.cells [.J (ad c) p,.v (.bool live),k,d])) y b=none);have w:dM _ (.node c live F (cZ a o G (dep+1)).1) (.ptr b 0):=⟨b,p,k,v,rfl,U.ah _ _ _,i.mono (U.au (py (U.au (U.ae z C) r)) f),D.mono f⟩;have k1:=pA a o G (dep+1);refine ai (yt a E P _ _ _ _ _ dep _ _ w (yr qT) ⟨s,l,uI S _ m⟩ (by simp only[aC.size];omega) a9k) ?_;rintro k2 k3 ⟨A,B⟩;refine aa ?_;exact⟨_,U.a1,U.au (U.ae e h) A,_,rfl,B.mono (ys e rfl h)⟩
theorem uJ {a:U}{b:br} (d:t=f.set e b) (h:f e=none):((e4.part t a).set e Y).sub ((e4.set e Y).part f a):=λc k o=>by
 by_cases p:c=e;grind[U.ah,uF];simp_all [U.ao,U.part]
def cj (b:Nat) (a:List Int):aC->Nat->aC×Bool
 | .nil,_=>(.nil,false)
 | .node c live d h,dep=>
  if c=a then(.node c false d h,live)
  else if cK (dep%b) a c<0 then(.node c live (cj b a d (dep+1)).1 h,(cj b a d (dep+1)).2)
  else(.node c live d (cj b a h (dep+1)).1,(cj b a h (dep+1)).2)
theorem pB (a:Nat) (b:List Int): ∀(c:aC) (dep:Nat),(cj a b c dep).1.size=c.size
 | .nil,_=>rfl
 | .node k live d h,dep=>by
  have o:=pB a b d (dep+1);have p:=pB a b h (dep+1);grind[cj,aC.size]
def yx {a:Nat}{h:List Int}: ∀ {b:aC} (dep:Nat),b.Ok a->(cj a h b dep).1.Ok a
 | .nil,_,_=>trivial
 | .node k live o p,dep,⟨h1,c,d⟩=>by
  rw[cj];split
  .trivial
  .split
   .exact⟨h1,yx _ c,d⟩
   .exact⟨h1,c,yx _ d⟩
def yy (b:Nat) (V:0<b) (s:b<=8) (p:List Int) (W:Own) (e:p.length=b): ∀(D:aC) (E:R) (dep:Nat) (y z:U),dM z D E->z.sub y->D.Ok b->D.size+1+dep<=1000000->
  AC Tryz.prog 89 [E,.J (ad p) W,.v (.int .i64 (dep:Int))] y λc t=>y.sub t/\ ∃a,c= .aL [a,.v (.bool (cj b p D dep).2)]/\dM (t.part y z) (cj b p D dep).1 a
 | .nil,E,dep,y,z,f,r,u,w=>by
  obtain rfl:E= .v (.pointer none):=f;refine aM hm Bh ?_;exact⟨_,U.a1,U.a1,_,rfl,rfl⟩
 | .node d live g i,E,dep,y,z,f,r,u,w=>by
  obtain⟨B,o,c,a,rfl,H,P,S⟩:=f;have T:=r _ _ H;have I:=P.mono r;have K:=S.mono r;obtain⟨Y,M,N⟩:=id u;have Z:=U.af T;have j9:=bH (q:=p);have k0:=I.cells;have k1:=K.cells;refine aM hm Bh ?_;refine bp λh k=> ?_;have O:=U.ae (Y:= .cells [.J (ad d) o,.v (.bool live),c,a]) U.a1 k;have k2:=U.af (O _ _ T);have k3:B≠h:=by rintro rfl;rw[k]at T;cases T
  have C:=U.bF r k;obtain⟨j,A⟩: ∃j,j=y.set h (.cells [.J (ad d) o,.v (.bool live),c,a]):=⟨_,rfl⟩;simp only[aC.size]at w;refine aa ?_;refine ai (nr d p _ _ _ a9k) ?_;rintro _ _ ⟨rfl,rfl⟩;refine aa ?_;refine aG (λl=> ?_) λl=> ?_
  .subst l;rw[cj,if_pos rfl];have x:=U.ae (Y:= .cells [.J (ad d) o,.v (.bool false),c,a]) (py (e4:=j) r) C;exact⟨_,U.a1,U.ae U.a1 k,_,rfl,h,o,c,a,rfl,(uF k).trans (U.ah _ _ _),P.mono (U.au x (uJ A k)),S.mono (U.au x (uJ A k))⟩
  rw[cj,if_neg l];have k4:(dep:Int).tmod (b:Int)=((dep%b:Nat)):=rfl;refine ai (yo p d _ _ (dep%b) _ (by rw[e];exact a6L _ V) a9k a9k) ?_;rintro _ _ ⟨rfl,rfl⟩;refine aa ?_;refine aG (λc2=> ?_) λc2=> ?_
  .refine ai (yy b V s p W e g c (dep+1) _ z P (U.ae r C) M a9k) ?_;rintro _ F ⟨x,v,rfl,G⟩;have m:=x _ _ (U.ah _ _ _);have Q:eg F h=some [.J (ad d) o,.v (.bool live),c,a]:=by simp[eg,m]
   have X:=G.cells;have n:=U.au (U.ae U.a1 k) x;rw[if_pos c2];refine aa ?_;have L:=U.ae (Y:= .cells [.J (ad d) o,.v (.bool live),v,a]) U.a1 (uH rfl C:F.part (y.set h (.cells [.J (ad d) o,.v (.bool live),c,a])) z h=none);have q:dM _ (.node d live (cj b p g (dep+1)).1 i) (.ptr h 0):=⟨h,o,v,a,rfl,U.ah _ _ _,G.mono L,S.mono (U.au (py (U.au (U.ae r C) x)) L)⟩;exact⟨_,U.a1,U.ae n k,_,rfl,q.mono (uJ rfl k)⟩
  .refine ai (yy b V s p W e i a (dep+1) _ z S (U.ae r C) N a9k) ?_;rintro _ F ⟨x,v,rfl,G⟩;have m:=x _ _ (U.ah _ _ _);have Q:eg F h=some [.J (ad d) o,.v (.bool live),c,a]:=by simp[eg,m]
   have X:=G.cells;have n:=U.au (U.ae U.a1 k) x;rw[if_neg c2];refine aa ?_;have L:=U.ae (Y:= .cells [.J (ad d) o,.v (.bool live),c,v]) U.a1 (uH rfl C:F.part (y.set h (.cells [.J (ad d) o,.v (.bool live),c,a])) z h=none);have q:dM _ (.node d live g (cj b p i (dep+1)).1) (.ptr h 0):=⟨h,o,c,v,rfl,U.ah _ _ _,P.mono (U.au (py (U.au (U.ae r C) x)) L),G.mono L⟩;exact⟨_,U.a1,U.ae n k,_,rfl,q.mono (uJ rfl k)⟩
def lx (a:Nat) (b:List Int) (c:aC):aC×Bool:=
 if(cj a b c 0).2=true/\2*(cj a b c 0).1.all.length<(cj a b c 0).1.size then(fO a (cj a b c 0).1.all.length (cj a b c 0).1.all 0,true)else cj a b c 0
def ZU (a:Nat) (z:0<a) (C:a<=8) (b:List Int) (D:Own) (L:b.length=a) (c:aC) (o:R) (k:U) (P:dM k c o) (E:c.Ok a) (u:c.size+1<=100000):
  AC Tryz.prog 52 [o,.J (ad b) D] k λS F=>k.sub F/\ ∃d,S= .aL [d,.v (.bool (lx a b c).2)]/\dM F (lx a b c).1 d:=by
 refine aM hm KT ?_;refine ai (yy a z C b D L c o 0 k k P U.a1 E a9k) ?_;rintro _ T ⟨p,d,rfl,V⟩;have r:=V.mono qT;have W:=yx (h:=b) 0 E;have cp:=pB a b c 0;rw[lx];generalize cj a b c 0=e at*;obtain⟨h,f⟩:=e
 dsimp only at*
 have w:=lv h;cases f with
 |false=>refine aa ?_;rw[if_neg a9l];exact⟨_,U.a1,p,d,rfl,r⟩
 |true=>
  refine aa ?_;refine ai (sN h d T r a9k) ?_;rintro _ G ⟨A,B,x,g,rfl⟩;have y:=r.mono x.sub;have H:=g.len;refine aa ?_;refine bh (qU h d G y a9k) ?_;refine aG (λi=> ?_) λi=> ?_
  .rw[if_pos ⟨rfl,a9k⟩];refine ai (sN h d G y a9k) ?_;rintro _ j ⟨l,m,n,q,rfl⟩;refine aa ?_;refine ai (uG a z C h.all.length h.all l m 0 j q W.all a9k a9k a9k) ?_;rintro v I ⟨s,t⟩;refine aa ?_;exact⟨_,U.a1,U.au p (U.au x.sub (U.au n.sub s)),v,rfl,t.mono qT⟩
  .rw[if_neg a9k];exact⟨_,U.a1,U.au p x.sub,d,rfl,y⟩
def ZV (a:UInt32):bn .mul (.int .u32 256) (.int .u32 a.toNat)=some (.int .u32 (256*a).toNat):=BP (x:=256) (y:=a)
def pC (a:UInt32):bn .sub (.int .u32 4294967295) (.int .u32 a.toNat)=some (.int .u32 (~~~a).toNat):=by
 have b:=BO (x:=4294967295) (y:=a);have c:(4294967295) - a= ~~~a:=by apply UInt32.toNat_inj.1;rw[UInt32.toNat_sub,UInt32.toNat_not];have:=a.toNat_lt;simp;omega
 rw[c]at b;exact b
theorem sO (a:UInt32):bn .quo (.int .u32 a.toNat) (.int .u32 8)=some (.int .u32 (a>>>3).toNat):=by have b:=a.toNat_lt;grind[Int.tdiv,Int.tdiv_eq_ediv_of_nonneg,UInt32.toNat_shiftRight,Nat.shiftRight_eq_div_pow,bn,fp,hF,qj]
theorem sP (a:UInt32):bn .quo (.int .u32 a.toNat) (.int .u32 1024)=some (.int .u32 (a>>>10).toNat):=by have b:=a.toNat_lt;grind[Int.tdiv,Int.tdiv_eq_ediv_of_nonneg,UInt32.toNat_shiftRight,Nat.shiftRight_eq_div_pow,bn,fp,hF,qj]
theorem ml (c:UInt32) (d:Int) (a:Nat) (r:0<a/\a<32) (h:d=((32 - a:Nat):Int)) (b:U):AC Tryz.prog 324 [.v (.int .u32 c.toNat),.v (.int .u64 d)] b λk o=>o=b/\k= .v (.int .u32 (rotl c a).toNat):=by
 subst h;have p:bn .sub (.int .u64 32) (.int .u64 ((32 - a:Nat)))=some (.int .u64 (a)):=by grind[bn,fp,hF,kt]
 refine bc hm S0 a9l ?_;simp -dsimp -implicitDefEqProofs (disch:=first|omega|assumption|(simp only[bk,Nat.reduceAdd];try omega)) only[↓s3,s4,ak,ofConst,cU,simprocAttr,fX,aZ,ba,a6m,↓s6,s7,ne_eq,not_true_eq_false,not_false_eq_true,Int.reduceNe,a6r,a6E,p];refine⟨b,U.a1,rfl,?_⟩;simp only[rotl];rw[UInt32.or_comm]
def ZW (a:U):AC Tryz.prog 191 [] a λc d=> ∃b,a b=none/\c= .an b 64 64 1/\d=a.set b (.cells (wl nc)):=by refine bc hm OV a9l ?_;simp -dsimp -implicitDefEqProofs (disch:=first|omega|assumption|(simp only[bk,Nat.reduceAdd];try omega)) only[↓s3,s4,ak,ofConst,cU,simprocAttr,fX,aZ,ba,a6m,↓s6,s7,ne_eq,not_true_eq_false,not_false_eq_true,Int.reduceNe,a6r,a6E];refine eP (by simp[aT,R.cells]) a9l λh k=> ?_;simp -dsimp -implicitDefEqProofs (disch:=first|omega|assumption|(simp only[bk,Nat.reduceAdd];try omega)) only[↓s3,s4,ak,ofConst,cU,simprocAttr,fX,aZ,ba,a6m,↓s6,s7,ne_eq,not_true_eq_false,not_false_eq_true,Int.reduceNe,a6r,a6E];refine⟨_,U.a1,h,k,rfl,?_⟩;rfl
variable{g A e1:List R}{h6:List UInt32}
def uK:(wl h6++g).length=h6.length+g.length:=by simp[wl]
theorem mm (a:e<h6.length):aX false 1 ((wl h6++g).drop e)= .v (.int .u32 (h6.getD e 0).toNat):=by grind[wl,aX,List.map_drop,List.drop_eq_getElem_cons,List.getD]
def pD (a:0<h6.length):aX false 1 (wl h6++g)= .v (.int .u32 (h6.getD 0 0).toNat):=mm (e:=0) a
theorem ZX (a:UInt32) (b:e<h6.length):putAt (wl h6++g) e [.v (.int .u32 a.toNat)]=wl (h6.set e a)++g:=by rw[<-Cs a b,putAt,putAt];grind[wl,eJ,List.length_singleton]
def qX (a:List UInt8) (b:Nat):Nat->UInt32
 |0=>0
 |c+1=>256*qX a b c+(a.getD (4*b+c) 0).toUInt32
def yz (a b c:Nat) (d:b<2^c):a*2^c|||b=a*2^c+b:=by have:=a7p (a:=a) d;rw[a6X]at this;omega
def ZY (b a c d:Nat) (h:a<256) (k:c<256) (o:d<256):b*2^24|||a*2^16|||c*2^8|||d=((b*256+a)*256+c)*256+d:=by
 rw[yz b (a*2^16) 24 a9k,show b*2^24+a*2^16=(b*256+a)*2^16 by omega,yz (b*256+a) (c*2^8) 16 a9k,
  show(b*256+a)*2^16+c*2^8=((b*256+a)*256+c)*2^8 by omega,yz _ d 8 a9k]
 all_goals omega
def ZZ (a b c d:UInt8):(256:UInt32)*((256:UInt32)*((256:UInt32)*((256:UInt32)*(0:UInt32)+a.toUInt32)+b.toUInt32)+c.toUInt32)+d.toUInt32=a.toUInt32<<<24|||b.toUInt32<<<16|||c.toUInt32<<<8|||d.toUInt32:=by
 have z:=a.toNat_lt;have h:=b.toNat_lt;have k:=c.toNat_lt;have o:=d.toNat_lt;apply UInt32.toNat_inj.1;have p:(a.toUInt32<<<24).toNat=a.toNat*2^24:=by rw[UInt32.toNat_shiftLeft];simp[a6X];omega
 have r:(b.toUInt32<<<16).toNat=b.toNat*2^16:=by rw[UInt32.toNat_shiftLeft];simp[a6X];omega
 have x:(c.toUInt32<<<8).toNat=c.toNat*2^8:=by rw[UInt32.toNat_shiftLeft];simp[a6X];omega
 have y:d.toUInt32.toNat=d.toNat:=a9l;rw[UInt32.toNat_or,UInt32.toNat_or,UInt32.toNat_or,p,r,x,y,ZY _ _ _ _ h k o];simp only[UInt32.toNat_add,UInt32.toNat_mul,UInt8.toNat_toUInt32,UInt32.reduceToNat];omega
def a0a (a:List UInt8) (b:Nat):qX a b 4=word a b:=ZZ _ _ _ _
def a0b (b:h6.length<64):eh (h6++ [0])=eh h6:=by have a:64 - h6.length=(64 -(h6.length+1))+1:=a9k;simp only[eh,a,a6V];simp
def a0c {b:UInt32} (a:UInt32) (c:e=h6.length) (d:h6.length<64):putAt (eh (h6++ [b])) e [.v (.int .u32 a.toNat)]=eh (h6++ [a]):=by subst c;simp[putAt,eh,a6g]
variable{n b3:R}
def EV {v:List UInt32} (c:ar f t 1 (wl v) n) (o:v≠ []): ∃a b d,n= .an a v.length b 1/\f a=none/\t a=some (.cells (wl v++d))/\v.length+d.length=b/\b<=maxLen:=by
 obtain⟨_,c|⟨a,C,b,p,rfl,r,x,y,h,k,D,z⟩⟩:=c
 .exact absurd (by simpa[wl] using c.1) o
 .simp only[a5y,eJ]at y h k;subst k;refine⟨a,b,p.drop v.length,rfl,r,?_,?_,z⟩
  .rw[<-h,a5p];exact x
  .simp;omega
theorem a0d (r F:List UInt32) (y:List UInt8) (n:r.length=8) (a04:F.length=64) (D S:Nat) (k1:List R) (w A:Nat) (k6:List R) (L:Nat) (z:U)
  (k7:z D=some (.cells (wl r++k1))) (k8:z w=some (.cells k6)) (a52:A+64<=k6.length) (a05: ∀k9,k9<64->aX false 1 (k6.drop (A+k9))= .v (.int .u8 (y.getD k9 0).toNat)) (l0:z L=some (.cells (wl F))):
  AC Tryz.prog 273 [.an D 8 S 1,.bx w A 64 e 1,.an L 64 64 1] z λa06 E=>ar z E 1 (wl (List.zipWith (·+ ·) (iv F (sched y) r) r)) a06:=by
 refine bc hm QX a9l ?_;refine aE (c2 @aZ @ba) ?_;refine wQ (e:=64) a9k a9k λx k2=> ?_;have a07:D≠x:=by rintro rfl;rw[k2]at k7;cases k7
 have l5:w≠x:=by rintro rfl;rw[k2]at k8;cases k8
 have a08:L≠x:=by rintro rfl;rw[k2]at l0;cases l0
 have a09:(List.replicate 64 [R.v (.int .u32 0)]).flatten=eh (first y 0):=rfl;rw[a09];refine aE (c2 @aZ @ba) ?_;refine cu (λb E=> ∃a:Nat,a<=16/\E=z.set x (.cells (eh (first y a)))/\b 0= .an D 8 S 1/\b 1= .bx w A 64 e 1/\b 2= .an L 64 64 1/\b 7= .an x 64 64 1/\b 8= .v (.int .i64 a))
  (λb _=>match b 8 with| .v (.int _ d)=>(16 - d).toNat| _=>0) ⟨0,a9k,?_⟩ ?_
 .exact gT (c2 @aZ @ba)
 .rintro b _ ⟨a,l1,rfl,c,k3,h,k,k4⟩;have l2:(first y a).length=a:=by simp[first]
  by_cases o:(a:Int)<16
  .rw[<-a0b a9k];refine aE (bt @c @k3 @h @k @k4 @o @aZ @ba) ?_;refine cu (λb E=> ∃d:Nat,d<=4/\E=z.set x (.cells (eh (first y a++ [qX y a d])))/\b 0= .an D 8 S 1/\b 1= .bx w A 64 e 1/\b 2= .an L 64 64 1/\b 7= .an x 64 64 1/\b 8= .v (.int .i64 a)/\b 9= .v (.int .i64 d))
    (λb _=>match b 9 with| .v (.int _ d)=>(4 - d).toNat| _=>0) ⟨0,a9k,?_⟩ ?_
   .refine aE (c6 @c @k3 @h @k @k4 @aZ @ba) ?_;rfl
   .rintro q _ ⟨d,a56,rfl,l6,l7,l8,l9,n0,n1⟩;by_cases n2:(d:Int)<4
    .have T:(eh (first y a++ [qX y a d])).length=64:=se (by simp[l2];omega);have a10:aX false 1 ((eh (first y a++ [qX y a d])).drop a)= .v (.int .u32 (qX y a d).toNat):=by grind[lg,List.getD]
     have l3:(4*(a)+(d:Int)).toNat=4*a+d:=a9k;have a11:=a05 (4*a+d) a9k;refine aE (wY @l6 @l7 @l8 @l9 @n0 @n1 @n2 @T @a10 @tF @l3 (U.af k8) (a4Q l5) @l5 @a11 @ZV @aZ @ba) ?_;rw[a0c _ l2.symm a9k];exact⟨⟨d+1,a9k,rfl,a9l⟩,a9k⟩
    .obtain rfl:d=4:=a9k;refine aE (cf @l6 @l7 @l8 @l9 @n0 @n1 @k4 @n2 @aZ @ba) ?_;refine⟨⟨a+1,a9k,?_,a9l⟩,a9k⟩;rw[a0a];simp only[first,a8F,a5J,a5f,a6u]
  .obtain rfl:a=16:=a9k;refine aE (bt @c @k3 @h @k @k4 @o @aZ @ba) ?_;refine cu (λb E=> ∃(p:List UInt32) (a:Nat),a<=48/\p.length=16+a/\grow (48 - a) p=sched y/\b 0= .an D 8 S 1/\b 2= .an L 64 64 1/\b 7= .an x 64 64 1/\b 10= .v (.int .i64 ((16+a:Nat)))/\E=z.set x (.cells (eh p)))
    (λb _=>match b 10 with| .v (.int _ d)=>(64 - d).toNat| _=>0) ⟨first y 16,0,a9k,l2,rfl,?_⟩ ?_
   .exact gT (bs @c @k3 @h @k @aZ @ba)
    all_goals rfl
   .rintro b _ ⟨p,a,l1,B,H,c,h,k,s,rfl⟩;by_cases o:((16+a:Nat):Int)<64
    .have T:(eh p).length=64:=se a9k;have I:(((16+a:Nat):Int) - 15).toNat=a+1:=a9k;have K:(((16+a:Nat):Int) - 2).toNat=a+14:=a9k;have M:(((16+a:Nat):Int) - 16).toNat=a:=a9k;have N:(((16+a:Nat):Int) - 7).toNat=a+9:=a9k;refine aE (p5 @c @h @k @s @o @I @K @M @N @T @lg @sO @sP @aZ @ba) ?_;refine ai (ml _ _ 25 a9o a9o _) ?_;rintro _ _ ⟨rfl,rfl⟩;refine aE (p5 @c @h @k @s @o @I @K @M @N @T @lg @sO @sP @aZ @ba) ?_;refine ai (ml _ _ 14 a9o a9o _) ?_;rintro _ _ ⟨rfl,rfl⟩;refine aE (p5 @c @h @k @s @o @I @K @M @N @T @lg @sO @sP @aZ @ba) ?_;refine ai (ml _ _ 15 a9o a9o _) ?_;rintro _ _ ⟨rfl,rfl⟩;refine aE (p5 @c @h @k @s @o @I @K @M @N @T @lg @sO @sP @aZ @ba) ?_;refine ai (ml _ _ 13 a9o a9o _) ?_;rintro _ _ ⟨rfl,rfl⟩;refine aE (p5 @c @h @k @s @o @I @K @M @N @T @lg @sO @sP @aZ @ba) ?_;rw[x7 _ B.symm a9k];refine⟨⟨_,a+1,a9k,by simp[B];omega,?_,?_,rfl⟩,a9k⟩
     .rw[<-H,show 48 - a=(48 -(a+1))+1 by omega,grow,more,B];rw[show 16+a - 16=a by omega,show 16+a - 15=a+1 by omega,show 16+a - 7=a+9 by omega,show 16+a - 2=a+14 by omega];rfl
     .simp;omega
    .obtain rfl:a=48:=a9k;have a13:p=sched y:=H;have a14:eh p=wl p:=by simp[eh,B,wl]
     rw[a14];clear H;generalize sched y=a57 at*;subst a13;have a15:bN (z.set x (.cells (wl p))) 1 (.an D 8 S 1)=some (8,wl r):=by simp_all [U.ao,eJ,bN,U.af]
     refine aE (bt @c @h @k @s @o @o0 @aZ @ba) ?_;refine ff (ar.zero U.a1) a9k a15 (by rw[eJ,n]) (by rw[eJ,n];simp) (by rw[eJ,n];simp) λa61 P t=> ?_;rw[a5a]at t;refine aE (bm @c @h @k @aZ @ba) ?_;have V:(wl F).length=64:=by rw[eJ,a04]
     have W:(wl p).length=64:=by rw[eJ,B]
     have a16:(z.set x (.cells (wl p))) L=some (.cells (wl F)):=by rw[U.ao _ _ a08];exact l0
     have a18:(z.set x (.cells (wl p))) x=some (.cells (wl p)):=U.ah _ _ _;have l4:(z.set x (.cells (wl p))) D=some (.cells (wl r++k1)):=by rw[U.ao _ _ a07];exact k7
     have n3:z.sub (z.set x (.cells (wl p))):=U.ae U.a1 k2;generalize z.set x (.cells (wl p))=a19 at*;refine cu (λb E=> ∃(a:Nat) (v:List UInt32),a<=64/\v.length=8/\iv (F.drop a) (p.drop a) v=iv F p r/\ar a19 E 1 (wl v) (b 13)/\b 0= .an D 8 S 1/\b 2= .an L 64 64 1/\b 7= .an x 64 64 1/\b 14= .v (.int .i64 a))
      (λb _=>match b 14 with| .v (.int _ d)=>(64 - d).toNat| _=>0) ⟨0,r,a9k,n,rfl,?_⟩ ?_
     .refine aE (bm @c @h @k @aZ @ba) ?_;exact t
     clear t;rintro b P ⟨a,v,l1,u,H,t,c,h,k,G⟩;have f:=t.1;obtain⟨k5,n4,O,C,n5,lZ,a27,a29⟩:=EV t (by intro g;rw[g]at u;cases u);rw[u]at C a27;by_cases o:(a:Int)<64
     .obtain⟨Q,X,Y,Z,g,j9,q,k0,rfl⟩: ∃Q X Y Z g j9 q k0,v= [Q,X,Y,Z,g,j9,q,k0]:=by
       match v,u with
       | [Q,X,Y,Z,g,j9,q,k0],_=>simp
      have i:(wl [Q,X,Y,Z,g,j9,q,k0]++O).length=8+O.length:=by rw[uK,u]
      have j:=U.af lZ;have l:=U.af (f _ _ a18);have m:=U.af (f _ _ a16);refine aE (o1 @c @h @k @C @G @o @i @j @l @m @mm @pD @hq @V @W @pC @a5q.{0} @a5s.{0} @aZ @ba) ?_;refine ai (ml _ _ 26 a9o a9o _) ?_;rintro _ P ⟨rfl,rfl⟩;refine aE (o1 @c @h @k @C @G @o @i @j @l @m @mm @pD @hq @V @W @pC @a5q.{0} @a5s.{0} @aZ @ba) ?_;refine ai (ml _ _ 21 a9o a9o _) ?_;rintro _ P ⟨rfl,rfl⟩;refine aE (o1 @c @h @k @C @G @o @i @j @l @m @mm @pD @hq @V @W @pC @a5q.{0} @a5s.{0} @aZ @ba) ?_;refine ai (ml _ _ 7 a9o a9o _) ?_;rintro _ P ⟨rfl,rfl⟩;refine aE (o1 @c @h @k @C @G @o @i @j @l @m @mm @pD @hq @V @W @pC @a5q.{0} @a5s.{0} @aZ @ba) ?_;refine ai (ml _ _ 30 a9o a9o _) ?_;rintro _ P ⟨rfl,rfl⟩;refine aE (o1 @c @h @k @C @G @o @i @j @l @m @mm @pD @hq @V @W @pC @a5q.{0} @a5s.{0} @aZ @ba) ?_;refine ai (ml _ _ 19 a9o a9o _) ?_;rintro _ P ⟨rfl,rfl⟩;refine aE (o1 @c @h @k @C @G @o @i @j @l @m @mm @pD @hq @V @W @pC @a5q.{0} @a5s.{0} @aZ @ba) ?_;refine ai (ml _ _ 10 a9o a9o _) ?_;rintro _ P ⟨rfl,rfl⟩;refine aE (o1 @c @h @k @C @G @o @i @j @l @m @mm @pD @hq @V @W @pC @a5q.{0} @a5s.{0} @aZ @ba) ?_;refine eP (by simp[aT,R.cells]) a9l λa30 n9=> ?_;refine aE (bs @c @h @k @G @aZ @ba) ?_;refine⟨⟨a+1,sf (F.getD a 0) (p.getD a 0) [Q,X,Y,Z,g,j9,q,k0],a9k,rfl,?_,?_,a9l⟩,a9k⟩;grind[Cw]
      .exact⟨U.ae f (U.bF f n9),.inr ⟨a30,8,8,_,rfl,U.bF f n9,U.ah _ _ _,rfl,rfl,rfl,a9k,a9o⟩⟩
     .obtain rfl:a=64:=a9k;have a34:iv F p r=v:=by rw[<-H,a6d a9k];rfl
      refine aE (bt @c @h @k @C @G @o @aZ @ba) ?_;have a00:D≠k5:=by rintro rfl;rw[n5]at l4;cases l4
      have a01:=U.bF n3 n5;have a36:=f _ _ l4;refine cu (λb E=> ∃a:Nat,a<=8/\b 0= .an D 8 S 1/\b 13= .an k5 8 n4 1/\b 19= .v (.int .i64 a)/\E=P.set k5 (.cells (wl (jM a v r)++O)))
       (λb _=>match b 19 with| .v (.int _ d)=>(8 - d).toNat| _=>0) ⟨0,a9k,?_⟩ ?_
      .have l3:jM 0 v r=v:=rfl;rw[l3,U.pc lZ];exact gT (aJ @c @C @aZ @ba)
      .rintro b _ ⟨a,l1,c,C,a02,rfl⟩;by_cases o:(a:Int)<8
       .obtain⟨a38,a42⟩:=Cu v r u n a a9k;have a43:(wl (jM a v r)++O).length=8+O.length:=by rw[uK,a38]
        have a47:(wl r++k1).length=8+k1.length:=by rw[uK,n]
        refine aE (ft @c @C @a02 @o @a43 @a47 @mm @ZX @a42 (U.af a36) @a00 (a4Q a00) @aZ @ba) ?_;grind
       .obtain rfl:a=8:=a9k;have a48:jM 8 v r=List.zipWith (·+ ·) v r:=by grind[jM,List.take_of_length_le,List.drop_of_length_le]
        have a03:(wl (List.zipWith (·+ ·) v r)).length=8:=by rw[eJ];simp;omega
        rw[a48];refine aE (bs @c @C @a02 @o @aZ @ba) ?_;rw[a34];refine⟨_,U.a1,U.ae (U.au n3 f) a01,.inr ⟨k5,8,n4,_,rfl,a01,U.ah _ _ _,?_,?_,by rw[a03],a9k,a29⟩⟩
        .rw[a4J,a03];omega
        simp_all
def a0e (b:List UInt32) (h:List UInt8) (z:b.length=8) (k x:Nat) (y:List R) (o c:Nat) (d:List R) (p:Nat) (a:U)
  (C:a k=some (.cells (wl b++y))) (D:a o=some (.cells d)) (E:c+64<=d.length) (F: ∀r,r<64->aX false 1 (d.drop (c+r))= .v (.int .u8 (h.getD r 0).toNat)) (G:a p=some (.cells (wl nc))):
  AC Tryz.prog 273 [.an k 8 x 1,.bx o c 64 e 1,.an p 64 64 1] a λL P=>ar a P 1 (wl (comp b h)) L:=
 a0d b nc h z rfl k x y o c d p a C D E F G
end Go.Proofs.YtlgnfcaolejgeaaGreat
namespace Go.bz
open Go
variable{n b3:R}{f t e4:U}{e i v O b9 j1:Nat}
theorem yA {h:Nat×List R} (k:f.sub t) (o:bN f e n=some h):bN t e n=some h:=by
 have p: ∀b c,f.read b=some c->t.read b=some c:=by
  intro b c a;unfold U.read at a|-;cases d:f b with
  |none=>rw[d]at a;cases a
  |some r=>rw[k _ _ d];rw[d]at a;exact a
 unfold bN at o|-;grind
end Go.bz
namespace Go.Proofs.YtlgnfcaolejgeaaGreat
open Go Go.bz
def kI (a:List UInt8):List UInt8:=a++128::List.replicate (ei a.length) 0++cH (8*a.length)
def yB (a:List UInt8):(kI a).length=a.length+9+ei a.length:=by simp[kI,cH];omega
def a0f (a:List UInt8):(kI a).length%64=0:=by rw[yB];unfold ei;omega
theorem a0g (a:List UInt8):fg a=ej (blocks ((kI a).length/64) gl (kI a)):=by
 have c:=yB a;have d:ei a.length<64:=by unfold ei;omega
 have b:kI a=a++(128::List.replicate (ei a.length) 0++cH (8*a.length)):=by simp[kI]
 have h:iY a.length (a.drop (64*(a.length/64)))=(kI a).drop (64*(a.length/64)):=by rw[b,a6j a9k];simp[iY]
 have k:(kI a).length/64=a.length/64+((kI a).drop (64*(a.length/64))).length/64:=by rw[a4Y];omega
 grind[fg,Cz,CA]
theorem EW (b a:Nat) (d:a<8):(cH b).take a++ [UInt8.ofNat (b>>>(56 - 8*a)%256)]=(cH b).take (a+1):=by
 have c:UInt8.ofNat (b>>>(56 - 8*a)%256)=UInt8.ofNat (b>>>(56 - 8*a)):=by grind[UInt8.toNat_inj,UInt8.toNat_ofNat']
 rw[c];rcases(by omega:a=0\/a=1\/a=2\/a=3\/a=4\/a=5\/a=6\/a=7)with rfl|rfl|rfl|rfl|rfl|rfl|rfl|rfl<;>rfl
def yl (a:UInt32) (b:Nat):UInt8.ofNat ((a>>>UInt32.ofNat b).toNat%256)=(a>>>UInt32.ofNat b).toUInt8:=by apply a5D.1;rw[a5O];simp
theorem a0h (c:List UInt32) (k:c.length=8) (d:Nat) (p:d<32):(ej c).take d++ [UInt8.ofNat ((c.getD (d/4) 0>>>UInt32.ofNat (24 - 8*(d%4))).toNat%256)]=(ej c).take (d+1):=by
 rw[yl];have o: ∀h:UInt32,(h>>>UInt32.ofNat 0).toUInt8=h.toUInt8:=by intro h;simp
 have r: ∀a:Nat,a<8-> ∀b:Nat,b<4->(ej c).take (4*a+b)++ [(c.getD a 0>>>UInt32.ofNat (24 - 8*b)).toUInt8]=(ej c).take (4*a+b+1):=by
  match c,k with
  | [x,y,z,C,D,E,F,G],_=>
   intro a L b P;rcases(by omega:a=0\/a=1\/a=2\/a=3\/a=4\/a=5\/a=6\/a=7)with rfl|rfl|rfl|rfl|rfl|rfl|rfl|rfl<;>
    rcases(by omega:b=0\/b=1\/b=2\/b=3)with rfl|rfl|rfl|rfl<;>first|rfl|(simp only[a5q,a5s,Nat.reduceMul,Nat.reduceSub,o];rfl)
 grind
variable{f t e4:U}{e i v O b9 j1:Nat}
def uL {a:UInt8}:bN (f.set e (.cells (flat [.v (.int .u8 (a.toNat:Int))]))) 1 (.an e 1 1 1)=some ([a].length,[a].map al):=by simp[bN,U.af (U.ah _ _ _),flat,R.cells,al]
variable{g A e1:List R}{B:List UInt8}
theorem a0i (a:g.take B.length=B.map al) (b:e<B.length):aX false 1 (g.drop e)= .v (.int .u8 (B.getD e 0).toNat):=by grind[al,List.take_append_drop,List.drop_eq_getElem_cons,aX,List.getD]
def a0j (a:UInt32):bn .rem (.int .u32 (a.toNat:Int)) (.int .u32 256)=some (.int .u32 ((a.toNat%256:Nat):Int)):=by have b:bn .rem (.int .u32 (a.toNat)) (.int .u32 256)=(if(256:Int)=0 then none else some (.int .u32 ((a.toNat:Int).tmod 256))):=rfl;rw[b,if_neg a9o];rfl
variable{n b3:R}
theorem yC {v:List UInt8} (d:ar f t 1 (v.map al) n) (h:v≠ []): ∃a b c,n= .an a v.length b 1/\f a=none/\t a=some (.cells c)/\c.length=b/\c.take v.length=v.map al/\v.length<=b:=by
 obtain⟨_,d|⟨a,k,b,c,rfl,o,p,r,x,y,z,C⟩⟩:=d
 .simp_all
 grind
theorem a0k (F:List UInt32) (k0:F=gl) (a:List UInt8) (a38:a.length<=1000000000) (W:R) (V:Nat) (G:U) (n5:bN G 1 W=some (a.length,a.map al)) (n9:fb W=some (.v (.int .i64 a.length))) (a00:G V=some (.cells (wl nc))):
  AC Tryz.prog 190 [W,.an V 64 64 1] G λa01 D=>D=G/\a01=cJ (fg a):=by
 refine bc hm OT a9l ?_;refine aj (c2 @aZ @ba) ?_;refine aN λE m=> ?_;have a02:=yA (U.ae (U.a1) m) n5 (t:=G.set E (.cells (List.replicate 32 (.v (.int .u8 0)))));have a03:=U.ae (U.a1) m (Y:= .cells (List.replicate 32 (.v (.int .u8 0)))) _ _ a00;have a04:=U.ae (U.a1) m (Y:= .cells (List.replicate 32 (.v (.int .u8 0))));have a05:(G.set E (.cells (List.replicate 32 (.v (.int .u8 0))))) E=some (.cells (List.replicate 32 (.v (.int .u8 0)))):=U.ah _ _ _;refine aj (aH @o0 @aZ @ba) ?_;generalize G.set E (.cells (List.replicate 32 (.v (.int .u8 0))))=w at*;refine qS (c:= []) (ar.zero U.a1) a02 a9m λcd a42 A=> ?_;rw[a5a]at A;refine aj (c2 @aZ @ba) ?_;refine eP (by simp[aT,R.cells]) a9l λk1 e=> ?_;refine aj (c2 @aZ @ba) ?_;refine qS (A.mono (U.ae U.a1 e)) (uL (a:=128)) a9m λca P y=> ?_;refine aj (c2 @aZ @ba) ?_;have a43:ei a.length<64:=by unfold ei;omega
 refine cu (λb D=> ∃c:Nat,c<=ei a.length/\ar w D 1 ((a++128::List.replicate c 0).map al) (b 5)/\b 0=W/\b 1= .an V 64 64 1/\b 4= .ptr E 0)
  (λb _=>match b 5 with| .an _ S _ _=>ei a.length+a.length+1 - S| _=>0) ⟨0,a9k,?_⟩ ?_
 .refine aj (c2 @aZ @ba) ?_;exact y
 .clear y A;rintro b P ⟨c,k2,y,x,h,d⟩;obtain⟨f,n,k3,p,k4,B,k5,H,k6⟩:=yC y a9l;have I:(a++128::List.replicate c 0).length=a.length+1+c:=a9m;rw[I]at p;by_cases L:c<ei a.length
  .have q: ¬(Int.tmod ((a.length+1+c:Nat):Int) 64=56):=by have:Int.tmod ((a.length+1+c:Nat)) 64=(((a.length+1+c)%64)):=rfl;rw[this];unfold ei at L;omega
   refine aj (c6 @x @h @d @p @q @aZ @ba) ?_;refine eP (by simp[aT,R.cells]) a9l λk1 e=> ?_;refine aj (c6 @x @h @d @p @q @aZ @ba) ?_;rw[<-p];refine qS (y.mono (U.ae U.a1 e)) (uL (a:=0)) a9m λdg k7 K=> ?_;refine aj (bs @x @h @d @p @aZ @ba) ?_;have M:a++128::List.replicate c 0++ [0]=a++128::List.replicate (c+1) 0:=by rw[a8U];simp
   rw[M]at K;obtain⟨a47,a48,a52,rfl,_⟩:=yC K a9l;grind
  .obtain rfl:c=ei a.length:=a9k;have q:(Int.tmod ((a.length+1+ei a.length:Nat):Int) 64=56):=by have:Int.tmod ((a.length+1+ei a.length:Nat)) 64=(((a.length+1+ei a.length)%64)):=rfl;rw[this];unfold ei;omega
   have a06:IntKind.u64.wrap (8*IntKind.u64.wrap (a.length))=((8*a.length:Nat)):=by rw[kt,kt];omega
   rw[<-I]at p;refine aj (cf @x @h @d @p @I @q @n9 @a06 @aZ @ba) ?_;rw[<-p]at*;refine cu (λb D=> ∃c:Nat,c<=8/\ar w D 1 ((a++128::List.replicate (ei a.length) 0++(cH (8*a.length)).take c).map al) (b 5)/\b 0=W/\b 1= .an V 64 64 1/\b 4= .ptr E 0/\b 6= .v (.int .u64 ((8*a.length:Nat)))/\b 7= .v (.int .i64 c))
    (λb _=>match b 7 with| .v (.int _ S)=>(8 - S).toNat| _=>0) ⟨0,a9k,?_⟩ ?_
   .refine aj (bm @x @h @d @aZ @ba) ?_;simp_all
   .clear k4 B k5 H k6 x h d p y;rintro b P ⟨c,k2,y,x,h,d,g,i⟩;have a56:=EW (8*a.length) c;by_cases L:(c:Int)<8
    .have a07:IntKind.u64.wrap (56 - 8*(c))=((56 - 8*c:Nat)):=by rw[kt];omega
     have k8:=yk ((8*a.length)>>>(56 - 8*c)) 256 a9k;have a08:((256:Nat):Int)=256:=rfl;rw[a08]at k8;refine aj (gj @x @h @d @g @i @L @a07 @k8 @iq @aZ @ba) ?_;refine eP (by simp[aT,R.cells]) a9l λk1 e=> ?_;refine aj (c6 @x @h @d @g @i @aZ @ba) ?_;refine qS (y.mono (U.ae U.a1 e)) uL (by simp[cH];omega) λdg k7 K=> ?_;refine aj (c6 @x @h @d @g @i @aZ @ba) ?_;grind
    .obtain rfl:c=8:=a9k;have a09:(cH (8*a.length)).take 8=cH (8*a.length):=rfl;rw[a09]at y;refine aj (bt @x @h @d @g @i @L @aZ @ba) ?_;refine eP (by simp[aT,R.cells]) a9l λs k9=> ?_;have l0:flat [R.v (Value.int IntKind.u32 1779033703),R.v (Value.int IntKind.u32 3144134277),R.v (Value.int IntKind.u32 1013904242),R.v (Value.int IntKind.u32 2773480762),R.v (Value.int IntKind.u32 1359893119),R.v (Value.int IntKind.u32 2600822924),R.v (Value.int IntKind.u32 528734635),R.v (Value.int IntKind.u32 1541459225)]=wl gl:=rfl;rw[l0];have a57:=yB a;have a61:=a0f a;have l1:ar w P 1 ((kI a).map al) (b 5):=y;obtain⟨f,n,k3,p,k4,B,k5,H,k6⟩:=yC l1 (by grind);have N:=y.1;have O:=a0g a;have l2:ar P (P.set s (.cells (wl gl))) 1 (wl gl) (.an s 8 8 1):=⟨U.ae U.a1 k9,.inr ⟨s,8,8,_,rfl,k9,U.ah _ _ _,rfl,rfl,rfl,a9k,a9o⟩⟩;have l3:gl.length=8:=rfl;generalize P.set s (.cells (wl gl))=k7 at*;rw[<-k0]at l2 O l3;clear k0 l0;generalize a10:kI a=r at*;clear y l1 a10;refine aj (bs @x @h @d @p @aZ @ba) ?_;refine cu (λb D=> ∃k:Nat,k<=r.length/64/\ar P D 1 (wl (blocks k F r)) (b 8)/\b 1= .an V 64 64 1/\b 4= .ptr E 0/\b 5= .an f r.length n 1/\b 9= .v (.int .i64 ((64*k:Nat))))
      (λb _=>match b 9 with| .v (.int _ S)=>(r.length - S).toNat| _=>0) ⟨0,a9k,?_⟩ ?_
     .refine aj (bm @h @d @p @aZ @ba) ?_;exact l2
     .clear x h d p g i;rintro b l4 ⟨k,a62,Q,h,d,p,j⟩;have T:(blocks k F r).length=8:=pb _ _ _ l3;obtain⟨X,l5,Y,z,a63,t,a65,a68⟩:=EV Q (by intro M;rw[M]at T;cases T);rw[T]at z;have l:=Q.1;by_cases L:k<r.length/64
      .have Z:((64*k:Nat))<(r.length:Int):=a9k;have a11:dI 1 (.an f r.length n 1) (some (.v (.int .i64 ((64*k:Nat))))) (some (.v (.int .i64 (((64*k:Nat))+64))))=some (.bx f (64*k) 64 (n - 64*k) 1):=by have l6:(((64*k):Int)+64).toNat=64*k+64:=a9k;simp only[dI,cG,bz.intOf,q6];grind
       refine aj (cW @h @d @p @z @j @Z @a11 @aZ @ba) ?_;have a13:=u0 k F r;refine ai (a0e (blocks k F r) ((r.drop (64*k)).take 64) T X l5 Y f (64*k) k3 V l4 t (l _ _ B) a9k ?_ (l _ _ (N _ _ a03))) ?_
       .intro c k2;rw[a0i H a9k];simp_all
       rintro hb a69 l7;refine aj (c6 @h @d @p @z @j @aZ @ba) ?_;rw[<-a13]at l7;exact⟨⟨k+1,a9k,l7.base l,a9m⟩,a9k⟩
      .have Z: ¬((64*k:Nat))<(r.length:Int):=a9k;obtain rfl:k=r.length/64:=a9k;refine aj (bt @h @d @p @z @j @Z @aZ @ba) ?_;refine aN λu j9=> ?_;have l8:X≠u:=by rintro rfl;rw[j9]at t;cases t
       have v:=l _ _ (N _ _ a05);have l9:E≠u:=by rintro rfl;rw[j9]at v;cases v
       have a14:=a0h (blocks (r.length/64) F r) T;have a15:(ej (blocks (r.length/64) F r)).length=32:=by rw[u3,T]
       rw[O];clear O Q;generalize blocks (r.length/64) F r=C at*;have a16:(wl C++Y).length=8+Y.length:=by rw[uK,T]
       refine aj (c6 @h @d @p @z @j @aZ @ba) ?_;refine cu (λb D=> ∃o:Nat,o<=32/\D=l4.set u (.cells (hQ ((ej C).take o)))/\b 8= .an X 8 l5 1/\b 10= .ptr u 0/\b 4= .ptr E 0/\b 11= .v (.int .i64 o))
        (λb _=>match b 11 with| .v (.int _ S)=>(32 - S).toNat| _=>0) ⟨0,a9k,?_⟩ ?_
       .refine aj (aJ @d @z @aZ @ba) ?_;rfl
       .clear h d p z j;rintro b _ ⟨o,a71,rfl,z,n0,d,n1⟩;have a18:((ej C).take o).length=o:=a9m;have n2:(hQ ((ej C).take o)).length=32:=u2 a9k;by_cases L:(o:Int)<32
        .have l6:IntKind.i64.wrap ((o:Int).tdiv 4)=((o/4:Nat)):=by have:(o:Int).tdiv 4=((o/4:Nat)):=rfl;rw[this,wrap_i64 a9k a9k]
         have a19:(o:Int).tmod 4=((o%4:Nat)):=rfl;have a27:IntKind.u64.wrap (24 - 8*((o%4:Nat)))=((24 - 8*(o%4):Nat)):=by rw[kt];omega
         have a29:o/4<8:=a9k;have a30:((o/4:Nat))<((8:Nat):Int):=a9k;refine aj (o1 @z @n0 @d @n1 @L @l6 @a19 @a27 @a30 @a29 @a16 @n2 (U.af t) @l8 (a4Q l8) @mm @a0j @iq @aZ @ba) ?_;rw[xe _ a18.symm a9k,a14 o a9k];grind
        .obtain rfl:o=32:=a9k;refine aj (gU @z @n0 @d @n1 @L @n2 @l9 (a4Q l9) (U.af v) (U.aI v) @aZ @ba) ?_;have a34:(ej C).take 32=ej C:=a4I a9k;have a36:hQ (ej C)=(ej C).map al:=by simp[hQ,a15]
         have n3:((ej C).map al).take 32=(ej C).map al:=a4I a9m;rw[a34,a36,n3,n3];refine⟨G,?_,rfl,rfl⟩;have n4:=U.au a04 (U.au N l);exact U.ae (U.ae n4 (U.bF n4 j9)) m
def a0l (a:List UInt8) (h:a.length<=1000000000) (c:R) (d:Nat) (b:U) (k:bN b 1 c=some (a.length,a.map al)) (o:fb c=some (.v (.int .i64 a.length))) (p:b d=some (.cells (wl nc))):
  AC Tryz.prog 190 [c,.an d 64 64 1] b λr x=>x=b/\r=cJ (fg a):=a0k gl rfl a h c d b k o p
def a0m (a:List UInt8) (r:a.length<=1000000000) (c:R) (b:U) (x:bN b 1 c=some (a.length,a.map al)) (y:fb c=some (.v (.int .i64 a.length))):
  AC Tryz.prog 123 [c] b λz C=>C=b/\z=cJ (fg a):=by
 refine bc hm MO a9l ?_;refine aj (c2 @aZ @ba) ?_;refine aN λD d=> ?_;refine aj (c2 @aZ @ba) ?_;refine ai (ZW _) ?_;rintro _ _ ⟨h,E,rfl,rfl⟩;obtain⟨k,o⟩:=U.gI E;refine aj (c2 @aZ @ba) ?_;have F:b.sub ((b.set D (.cells (List.replicate 32 (.v (.int .u8 0))))).set h (.cells (wl nc))):=U.ae (U.ae U.a1 d) o;refine ai (a0l a r c h _ (yA F x) y (U.ah _ _ _)) ?_;rintro _ _ ⟨rfl,rfl⟩;have p:((fg a).map al).length=32:=by rw[a4T,sg]
 have G:cJ (fg a)= .agg ((fg a).map al):=rfl;have L:((fg a).map al).take 32=(fg a).map al:=a4I a9k;rw[G];have P:putAt (List.replicate 32 (R.v (.int .u8 0))) 0 ((fg a).map al)=(fg a).map al:=by rw[putAt,p];simp
 refine aj (c6 @p @L @P @k (a4Q k) @aZ @ba) ?_;exact⟨b,U.ae (U.ae U.a1 d) o,rfl⟩
def a0n {a:UInt8} (b:f e=none):ar f (f.set e (.cells (flat [.v (.int .u8 (a.toNat:Int))]))) 1 ([a].map al) (.an e 1 1 1):=
 ⟨U.ae U.a1 b,.inr ⟨e,1,1,_,rfl,b,U.ah _ _ _,rfl,rfl,rfl,a9k,a9o⟩⟩
theorem a0o (k:UInt8) (b:List (R×List UInt8)) (x:R) (i:Nat) (r:U) (j:fb x=some (.v (.int .i64 b.length)))
  (l: ∀o:Nat,o<b.length->cP 1 x (.v (.int .i64 o))=some (.ptr i o))
  (B: ∀o (k1:o<b.length),∃y,r i=some (.cells y)/\o<y.length/\aX false 1 (y.drop o)=b[o].1)
  (H: ∀a∈b,bN r 1 a.1=some (a.2.length,a.2.map al)/\fb a.1=some (.v (.int .i64 a.2.length)))
  (I:(preB k (b.map (·.2))).length<=1000000):
  AC Tryz.prog 192 [.v (.int .u8 (k.toNat:Int)),x] r λK z=>ar r z 1 ((preB k (b.map (·.2))).map al) K:=by
 refine bc hm OX a9l ?_;refine aE (c2 @aZ @ba) ?_;refine eP (by simp[aT,R.cells]) a9l λM T=> ?_;refine aE (c2 @aZ @ba) ?_;have m:=a0n (a:=k) T;refine cu (λc z=> ∃a C:List (R×List UInt8),b=a++C/\ar r z 1 ((preB k (a.map (·.2))).map al) (c 5)/\c 1=x/\c 6= .v (.int .i64 a.length))
  (λc _=>match c 6 with| .v (.int _ V)=>(b.length - V).toNat| _=>0) ⟨[],b,rfl,?_⟩ ?_
 .refine aE (c2 @aZ @ba) ?_;exact m
 .clear m;rintro c k2 ⟨a,C,p,W,e,D⟩;cases C with
  |nil=>
   have P:b.length=a.length:=by rw[p];simp
   rw[a5M]at p;have f: ¬(a.length)<(b.length:Int):=a9k;refine aE (bs @e @D @j @f @aZ @ba) ?_;rw[p];exact⟨_,U.a1,W⟩
  |cons N C=>
   obtain⟨g,d⟩:=N;have P:a.length<b.length:=by rw[p];simp
   have f:(a.length)<(b.length:Int):=a9k;have O:b[a.length]=(g,d):=by subst p;simp
   obtain⟨y,n,c2,aH⟩:=B a.length P;rw[O]at aH;obtain⟨q,s⟩:=H (g,d) (by rw[p];simp);simp only at q s aH;have k3:(preB k (a.map (·.2))).length+8+d.length<=1000000:=by refine a5F ?_ I;rw[p];simp[preB,chunk,cH];omega
   have Q:=xa k (b.map (·.2));rw[a4T]at Q;have t:a.length+1<=y.length:=a9k;have u:=W.1;simp -dsimp -implicitDefEqProofs (disch:=first|omega|assumption|(simp only[bk,Nat.reduceAdd];try omega)) only[go_sem,simprocAttr,aZ,ba,e,D,j,f,l _ P,U.af (u _ _ n),t,aH,s];refine cu (λc z=> ∃h:Nat,h<=8/\ar r z 1 ((preB k (a.map (·.2))++(cH d.length).take h).map al) (c 5)/\c 1=x/\c 6= .v (.int .i64 a.length)/\c 7= .v (.int .u64 (d.length:Int))/\c 8= .v (.int .i64 h))
    (λc _=>match c 8 with| .v (.int _ V)=>(8 - V).toNat| _=>0) ⟨0,a9k,?_⟩ ?_
   .refine aE (aJ @e @D @aZ @ba) ?_;simp_all
   .clear W u;rintro k4 k5 ⟨h,k6,S,E,F,G,L⟩;have k7:=EW d.length h;by_cases v:(h:Int)<8
    .have X:IntKind.u64.wrap (56 - 8*(h))=((56 - 8*h:Nat)):=by rw[kt];omega
     have w:=yk (d.length>>>(56 - 8*h)) 256 a9k;have Y:((256:Nat):Int)=256:=rfl;rw[Y]at w;refine aE (cf @E @F @G @L @v @X @w @iq @aZ @ba) ?_;refine eP (by simp[aT,R.cells]) a9l λM T=> ?_;refine aE (bs @E @F @G @L @aZ @ba) ?_;refine qS (S.mono (U.ae U.a1 T)) uL (by simp[cH];omega) λdg Z j9=> ?_;refine aE (bs @E @F @G @L @aZ @ba) ?_;grind
    .obtain rfl:h=8:=a9k;have k0:(cH d.length).take 8=cH d.length:=rfl;rw[k0]at S;have A:=S.1;simp -dsimp -implicitDefEqProofs (disch:=first|omega|assumption|(simp only[bk,Nat.reduceAdd];try omega)) only[go_sem,simprocAttr,aZ,ba,E,F,G,L,D,v,l _ P,U.af (A _ _ n),t,aH];refine qS S (yA A q) (by simp[cH];omega) λdg Z j9=> ?_;refine aE (c6 @E @F @G @L @D @aZ @ba) ?_;refine⟨⟨a++ [(g,d)],C,by simp[p],?_,a9l⟩,a9k⟩;grind[preB,cH,chunk]
theorem a0p (h:UInt8) (b:List (R×List UInt8)) (k:Nat) (c:U) (o:c k=some (.cells (b.map (·.1))))
  (p: ∀a∈b,ar c c 1 (a.2.map al) a.1\/(bN c 1 a.1=some (a.2.length,a.2.map al)/\fb a.1=some (.v (.int .i64 a.2.length))))
  (r:(preB h (b.map (·.2))).length<=1000000):
  AC Tryz.prog 192 [.v (.int .u8 (h.toNat:Int)),.an k b.length b.length 1] c λx y=>ar c y 1 ((preB h (b.map (·.2))).map al) x:=by
 refine a0o h b _ k c rfl ?_ ?_ ?_ r;grind[jH]
 .intro C d;refine⟨_,o,by simpa using d,?_⟩;rw[a5e (by simpa using d),a8z];rfl
 .intro a z;rcases p a z with d|d
  .obtain⟨D,E,F,G⟩:=d.src;simp_all
  .exact d
def hh (a:aK):List UInt8:=hT a.name++(UInt8.ofNat a.aD.length::(a.aD.flatMap hT++(eb a.bM++eb a.ct)))
def pE (a:List aK):List UInt8:=UInt8.ofNat a.length::a.flatMap hh
structure aK.ht (t:aK):Prop where
 n:t.name.length<=16
 c:t.aD.length<=7
 cs: ∀c∈t.aD,c.length<=16
 k:t.bM.ht
 z:t.ct.ht
theorem EX {a:List (List UInt8)} (c: ∀b∈a,b.length<=16):(a.flatMap hT).length<=19*a.length:=by
 induction a with
 |nil=>simp
 |cons d a ih=>grind[List.length_append,xh,List.length_cons]
variable{e7:aK}
def yD (a:e7.ht) (b:e7.bM.sum.length=32) (c:e7.ct.sum.length=32):(hh e7).length<=1000:=by have:=EX a.cs;have:=a.n;have:=a.c;have:=sv b a.k;have:=sv c a.z;simp only[hh,a4J,xh,a4M];omega
variable{b8:List aK}
theorem a0q (b:az dx b8 g) (d: ∀h∈b8,h.ht) (a:Nat):((b8.take a).flatMap hh).length<=1000*a:=by
 induction b8 generalizing g a with
 |nil=>simp
 |cons k b8 ih=>
  cases g with
  |nil=>trivial
  |cons v g=>
   obtain⟨⟨_,_,c⟩,b⟩:=b;cases a with
   |zero=>simp
   |succ a=>have:=yD (d k a9l) c.k.1 c.z.1;grind
def uM (a b:Nat) (c:U) (h:R) (k:R->U->Prop):Prop:=
 match h with
 | .ptr d off=>match c.read d with
  |some cs=>off+b*a<=cs.length/\k (.J (ef a b (cs.drop off)) .any) (c.set d (.ro cs))
  |none=>False
 | _=>False
variable{s a7:R -> U -> Prop}
def a0r {a:cB s} (b:f.read v=some g) (c:O+i*e<=g.length) (d:s (.J (ef e i (g.drop O)) .any) (f.set v (.ro g))):uM e i f (.ptr v O) (bO s a):=by simp only[uM,b];trivial
variable{K:Ctx}{j:Fr}{Z e9:Operand}
theorem a0s:G K (.ki e i Z none none true) j f s=uM e i f (ak j Z) (bO (λa b=>s a b) ()):=by grind[G,uM,db,ak,bO]
theorem yE: ∀ {rows:List (List Int×Bool)},(∀a∈rows,a.1.length<=8)->(rows.flatMap gL).length<=66*rows.length
 | [],_=>by simp
 |a::rows,b=>by
  have d:=b a a9l;have:=yE λa c=>b a (a6c _ c);grind[List.length_append,gL,List.length_cons,du,oa]
theorem yF: ∀ {kids:List ay},(∀a∈kids,a.ht/\a.sum.length=32/\a.cC)->(kids.flatMap eb).length<=300*kids.length
 | [],_=>by simp
 |a::kids,b=>by
  obtain⟨⟨d,h,k,_,_,_,_⟩,o,_⟩:=b a a9l;have:=yF λa c=>b a (a6c _ c);grind[kx,du,List.length_cons,oa,List.length_append,eb]
theorem a0t (o:c3) (P S:List R) (e f:Own) (g:U) (w:az df o.rows P) (A:az bu o.kids S) (n2:o.rows.length<=5) (n3:o.kids.length<=5)
  (i: ∀p∈o.rows,p.1.length<=8) (B: ∀r∈o.kids,r.ht/\r.sum.length=32/\r.cC):
  AC Tryz.prog 178 [gN o (.J P e) (.J S f)] g λp d=>fF g d (cY o) p:=by
 have n4:=w.len;have n5:=A.len;obtain⟨T,rows,kids⟩:=o
 dsimp only at*
 refine aM hm OA ?_;have n9:=λx=>iq x;refine aN λH X=> ?_;refine aa ?_;generalize j:g.set H (.cells [R.v (.int .u8 (T.toNat)),.J P e,.J S f])=G;have Y:=j▸U.ae U.a1 X;have Z:=j▸U.ah _ _ _;have L: ∀d,G.sub d->d.read H=some [R.v (.int .u8 (T.toNat)),.J P e,.J S f]:=λd C=>U.af (C _ _ Z);clear j;have j9:=L _ U.a1;refine tX [T,UInt8.ofNat rows.length] (λk a00 k0 _=> ?_);clear j9;have k1:=L _ k0.sub;refine ch [0,1] (λb:Nat×R=> [(4,.v (.int .i64 b.1)),(3,b.2)]) (λb d=>b.1<=rows.length/\fF G d (T::UInt8.ofNat rows.length::(rows.take b.1).flatMap gL) b.2) (λb=>rows.length - b.1) (0,k) ⟨⟨a9k,by trivial⟩,aS⟩ ?_;rintro⟨a,k⟩ D ⟨l,c⟩ k2
 dsimp only at l c|-
 clear k1;have k3:=L _ c.sub;refine aa ?_;refine aG (λm=> ?_) λm=> ?_
 .obtain⟨_,V,k4,rfl⟩:=w.get (i:=a) (x:=rows.getD a ([],false)) (by simp_all);have k5:eA 2 P[a]? =some (.bV [.J (ad (rows.getD a ([],false)).1) k4,.v (.bool (rows.getD a ([],false)).2)]):=by rw[V];rfl
  have a01:(rows.getD a ([],false)).1.length<=8:=i _ (by simp_all);have n:=eQ (a:=rows) (e:=a) (b:=([],false)) a9k;have I:=yE (rows:=rows.take a) λp C=>i p (a4V C);rw[a4K]at I;generalize rows.getD a ([],false)=b at*;have K:(du b.1).length=8*b.1.length+1:=by rw[du,a4M,oa]
  clear V;have a02:(gL b).length=8*b.1.length+2:=by rw[gL,a4M,K]
  refine aa ?_;refine hN (ZG _ _) λE F h=> ?_;refine mZ c (show fF D F [if b.2=true then(1)else 0] E from h) λa4 k6 W _=> ?_;have M:=L _ W.sub;refine hN (uD _ _ _ a9k) λa03 q z=> ?_;refine mZ W z λds a04 k7 _=> ?_;refine⟨(a+1,ds),⟨by simp only;omega,?_⟩,⟨rfl,rfl⟩,by simp only;omega⟩;simp only[n,a5x,a5j,a7x,a5M,gL];simpa using k7
 obtain rfl:a=rows.length:=a9k;rw[a5d]at c;have I:=yE i;generalize a05:T::UInt8.ofNat rows.length::rows.flatMap gL=s at*;have a06:s.length<=400:=by grind
 refine tX [UInt8.ofNat kids.length] (λE F h _=> ?_);refine mZ c h λa3 k6 W _=> ?_;clear k3;have M:=L _ W.sub;refine ch [0,1] (λb:Nat×R=> [(5,.v (.int .i64 b.1)),(3,b.2)]) (λb d=>b.1<=kids.length/\fF G d (s++ [UInt8.ofNat kids.length]++(kids.take b.1).flatMap eb) b.2) (λb=>kids.length - b.1) (0,a3) ⟨⟨a9k,by simpa using W⟩,aS⟩ ?_;clear M;rintro⟨a,k⟩ q ⟨l,z⟩ k2
 dsimp only at l z|-
 have a07:=L _ z.sub;refine aa ?_;refine aG (λm=> ?_) λm=> ?_
 .obtain⟨_,V,k8,k9,t,u,v,rfl⟩:=A.get (i:=a) (x:=kids.getD a aA) (by simp_all);have l0:=(B (kids.getD a aA) (by simp_all)).1;have n:=eQ (a:=kids) (e:=a) (b:=aA) a9k;generalize kids.getD a aA=r at*;have N:=(aW (M:=t) (e6:=u) (h5:=v) k8).all;have k5:eA 37 S[a]? =some (.bV (ab r t u v)):=by rw[V];exact jG N.1
  generalize ab r t u v=y at*;clear V;refine aa ?_;refine aN λx O=> ?_;refine aa ?_;rw[a0s];refine aa ?_;refine a0r (U.af (U.ah _ _ _)) a9k ?_;rw[U.set_set];have l1:fF (G.set x (.ro y)) (q.set x (.ro y)) _ k:=z.new O;have l2:=U.bF z.sub O;have l3:=U.ae (Y:= .ro y) U.a1 l2;have l4:(G.set x (.ro y)) x=some (.ro y):=U.ah _ _ _;generalize G.set x (.ro y)=l5 at*;generalize q.set x (.ro y)=a08 at*;have a09: ∀d,l5.sub d->d.read x=some y:=λd C=>U.Ug (C _ _ l4);have Q:ef 1 32 (y.drop 0)=r.sum.map al:=by simp[ef,N.2.2.1]
  rw[Q];obtain⟨a10,a11,a13⟩:=k9;obtain⟨a14,a15,a16,l6,a18,l7,a19⟩:=l0;obtain⟨l8,a27⟩:=a6F l6;obtain⟨l9,a29⟩:=a6F l7;have a30:=kx l8;have a34:=kx l9;have K: ∀p:List Int,(du p).length=8*p.length+1:=λp=>by rw[du,a4M,oa]
  have n0:((kids.take a).flatMap eb).length<=300*a:=by have:=yF (kids:=kids.take a) λr C=>B r (a4V C);rw[a4K]at this;omega
  generalize a36:s++ [UInt8.ofNat kids.length]++(kids.take a).flatMap eb=n1 at*;have a38:n1.length<=3000:=by grind
  clear Q n0;refine Co l1 o5.J λk D c _=> ?_;refine hN (EN _ _ a9k) λE F h=> ?_;refine mZ c h λk D c _=> ?_;refine hN (EN _ _ a9k) λE F h=> ?_;refine mZ c h λk D c _=> ?_;refine hN (uD _ _ _ a9k) λE F h=> ?_;refine mZ c h λk D c _=> ?_;refine hN (uD _ _ _ a9k) λE F h=> ?_;refine mZ c h λk D c _=> ?_;refine hN (uD _ _ _ a9k) λE F h=> ?_;refine mZ c h λk D c _=> ?_;refine⟨(a+1,k),⟨by simp only;omega,?_⟩,⟨rfl,rfl⟩,by simp only;omega⟩;have a42:=c.base l3;simp only[n,a5x,a5j,a7x,a5M];grind[eb,List.append_assoc,Int.toNat_natCast]
 obtain rfl:a=kids.length:=a9k;rw[a5d]at z;refine⟨_,U.a1,?_⟩;have:=z.base Y;grind[cY,List.append_assoc]
structure kJ where
 kind:UInt8
 qY:Int
 at_:List Int
abbrev kJ.V (a:kJ) (b:Own):R:= .agg [.v (.int .u8 (a.kind.toNat:Int)),.v (.int .i64 a.qY),.J (ad a.at_) b]
def kJ.ok (a:kJ) (b:Nat):Bool:=
 decide (1<=b/\b<=8)&&(if a.kind=0 then decide (a.qY=0)&&decide (a.at_.length=0)
  else if a.kind=1\/a.kind=2 then(decide (0<a.qY)||decide (a.qY=0)&&decide (a.kind=2))&&decide (a.qY<=(b:Int) - 1)&&decide (a.at_.length=0)
  else decide (a.kind=3)&&decide (a.qY=0)&&decide (1<b)&&decide (a.at_.length=b - 1))
theorem EY (a:kJ) (h:Own) (c:Nat) (d:U) (r:c<=1000000000000) (x:a.at_.length<=1000000000000):
  AC Tryz.prog 42 [a.V h,.v (.int .i64 (c:Int))] d λk o=>o=d/\k= .v (.bool (a.ok c)):=by
 obtain⟨b,y,p⟩:=a
 dsimp only at*
 have z:=bH (q:=p);have C:=iA b 0 a9k;have D:=iA b 1 a9k;have E:=iA b 2 a9k;have F:=iA b 3 a9k;refine aM hm KB ?_;refine bp λG L=> ?_
 repeat' first|refine aG (λ_=> ?_) λ_=> ?_|trivial
 all_goals grind[kJ.ok,aO,aP]
theorem uN (b:kJ) (h:Own) (c:Nat) (d:U) (r:c<=1000000000000) (x:b.at_.length<=1000000000000):
  AC Tryz.prog 128 [b.V h,.v (.int .i64 (c:Int))] d λk o=>o=d/\k= .v (.bool (b.ok c)):=by
 obtain⟨a,y,p⟩:=b
 dsimp only at*
 have z:=bH (q:=p);have C:=iA a 0 a9k;have D:=iA a 1 a9k;have E:=iA a 2 a9k;have F:=iA a 3 a9k;refine aM hm MW ?_;refine bp λG L=> ?_
 repeat' first|refine aG (λ_=> ?_) λ_=> ?_|trivial
 all_goals try first
  |(rw[kJ.ok];exact aO)
  |(refine aP ?_;simp only[kJ.ok]at*;grind)
 rename_i P S T;obtain rfl:a=2:=a5D.1 (by simp_all);refine aP ?_;rw[a7l];simp[kJ.ok,-List.length_eq_zero_iff];omega
abbrev ig (a b:Nat):R:= .agg [.v (.int .u64 (a:Int)),.v (.int .u64 (b:Int))]
def a0u (a c b d:Nat) (h:U):AC Tryz.prog 145 [ig a c,ig b d] h λk o=>o=h/\k= .v (.bool (decide (a<b\/a=b/\c<d))):=by
 refine aM hm Ns ?_;refine bp λp r=> ?_;refine cX λx y z C=> ?_
 repeat' first|refine aG (λ_=> ?_) λ_=> ?_|trivial
 all_goals exact aO
def qZ (a c b d:Nat):Int:=if a=b/\c=d then 0 else if a<b\/a=b/\c<d then -1 else 1
theorem EZ (a b c d:Nat) (h:U):AC Tryz.prog 134 [ig a b,ig c d] h λk o=>o=h/\k= .v (.int .i64 (qZ a b c d)):=by
 have p: ∀a b:Nat,dz [(2,c8.int IntKind.u64)] [R.v (.int .u64 (a)),R.v (.int .u64 (b))]:=λa b=>by simp[dz,c8.tr]
 have r:peq (ig a b) (ig c d)=decide ((a:Int)=c/\(b:Int)=d):=by rw[a7l];simp[peq]
 refine aM hm N4 ?_;refine bp λx y=> ?_;refine cX λz C D E=> ?_
 repeat' first|refine aG (λ_=> ?_) λ_=> ?_|trivial
 all_goals grind[qZ]
abbrev hB (a:List Int) (b:Nat):Int:=a.getD b 0
def jf (c d a:List Int):Bool:=cR c d a.length&&(List.range a.length).all λb=>decide (hB c b<=hB a b)&&decide (hB a b<=hB d b)
def oB (a b c d:List Int):Bool:=cR a b a.length&&cR c d a.length
def jY (b c d h:List Int):Bool:=oB b c d h&&(List.range b.length).all λa=>decide (hB b a<=hB h a)&&decide (hB d a<=hB c a)
def a0v (c:U) (k o:Nat) (d h b:List Int) (p r x:Own) (a:Nat) (C:c.read k=some [.J (ad d) p,.J (ad h) r]) (D:c.read o=some [.J (ad b) x]) (E:a<d.length) (F:a<h.length) (G:a<b.length):
  AC Tryz.prog 217 [.v (.int .i64 (a:Int)),.ptr k 0,.ptr o 0] c λy z=>z=c/\y= .v (.bool (decide (hB d a<=hB b a)&&decide (hB b a<=hB h a))):=by
 have L:= @dJ d;have P:= @dJ h;have S:= @dJ b;refine aM hm PD ?_
 repeat' first|refine aG (λ_=> ?_) λ_=> ?_|trivial
 all_goals exact aO
def a0w (h:U) (b c a:List Int) (k o p:Own) (r:a.length<=1000000000000):
  AC Tryz.prog 140 [et b c k o,.J (ad a) p] h λx y=>y=h/\x= .v (.bool (jf b c a)):=by
 have G:=bH (q:=a);refine aM hm Nh ?_;refine bp λz L=> ?_;refine cX λC P S D=> ?_;refine bh (oh _ b c _ _ _ r) ?_;refine aG (λd=> ?_) λd=> ?_
 .obtain⟨T,V,W,e⟩:=lk d;refine bh (xq a.length _ _ _ _ _ r a9q λE F=>a0v _ z C b c a k o p E (by simp[U.read,U.ah,U.ao,D]) (by simp[U.read,U.ah]) a9k a9k F) ?_;refine aP ?_;rw[jf,d,a6f]
 .refine aP ?_;rw[jf,d,a6Y]
def a0x (b:U) (o p:Nat) (c d h k:List Int) (r x y z:Own) (a:Nat) (E:b.read o=some [.J (ad c) r,.J (ad d) x]) (F:b.read p=some [.J (ad h) y,.J (ad k) z]) (G:a<c.length) (L:a<d.length) (P:a<h.length) (S:a<k.length):
  AC Tryz.prog 274 [.v (.int .i64 (a:Int)),.ptr o 0,.ptr p 0] b λC D=>D=b/\C= .v (.bool (decide (hB c a<=hB k a)&&decide (hB h a<=hB d a))):=by
 have T:= @dJ c;have V:= @dJ d;have W:= @dJ h;have e:= @dJ k;refine aM hm QZ ?_
 repeat' first|refine aG (λ_=> ?_) λ_=> ?_|trivial
 all_goals exact aO
def a0y (d:U) (b c a h:List Int) (o p r x:Own) (k:b.length<=1000000000000):
  AC Tryz.prog 196 [et b c o p,et a h r x] d λy z=>z=d/\y= .v (.bool (oB b c a h)):=by
 have C:=bH (q:=b);refine aM hm P5 ?_;refine bp λD E=> ?_;refine cX λF G L P=> ?_;refine bh (oh _ b c _ _ _ k) ?_;refine aG (λa=> ?_) λa=> ?_
 .refine bh (oh _ _ _ _ _ _ k) ?_;refine aP ?_;rw[oB,a,a6f]
 .refine aP ?_;rw[oB,a,a6Y]
variable{q b6:List Int}
theorem yG {a b:List Int} (c:oB q b6 a b=true):b6.length=q.length/\a.length=q.length/\b.length=q.length/\1<=q.length/\q.length<=8:=by rw[oB,a4L]at c;obtain⟨d,h⟩:=c;have d:=lk d;grind[lk]
def F0 (k:U) (a b c d:List Int) (o p r x:Own) (y:a.length<=1000000000000):
  AC Tryz.prog 198 [et a b o p,et c d r x] k λz C=>C=k/\z= .v (.bool (jY a b c d)):=by
 have P:=bH (q:=a);refine aM hm P7 ?_;refine bp λD S=> ?_;refine cX λE T V F=> ?_;refine bh (a0y _ a b c d _ _ _ _ y) ?_;refine aG (λh=> ?_) λh=> ?_
 .obtain⟨W,e,f,g⟩:=yG h;refine bh (xq a.length _ _ _ _ _ y a9q λG L=>a0x _ D E a b c d o p r x G (by simp[U.read,U.ah,U.ao,F]) (by simp[U.read,U.ah]) L a9k a9k a9k) ?_;refine aP ?_;rw[jY,h,a6f]
 .refine aP ?_;rw[jY,h,a6Y]
def gw (a b c d:List Int):List Int×List Int:=if jY a b c d=true then(List.zipWith max a c,List.zipWith min b d)else([],[])
set_option maxHeartbeats 1000000 in
theorem a0z (C:U) (a c h d:List Int) (m n q s:Own) (E:a.length<=1000000000000):
  AC Tryz.prog 131 [et a c m n,et h d q s] C λl5 o=> ∃r t,l5= .aL [.agg [r,t],.v (.bool (jY a c h d))]/\pn C o (gw a c h d).1 (gw a c h d).2 r t:=by
 have k1:=bH (q:=a);have u:= @dJ a;have v:= @dJ c;have w:= @dJ h;have A:= @dJ d;refine aM hm N0 ?_;refine bp λB a11=> ?_;refine cX λH a13 I l6=> ?_;refine hp λF l7 l8 l9 n0 n1=> ?_;refine bh (F0 _ a c h d _ _ _ _ E) ?_;refine aG (λG=> ?_) λG=> ?_
 .rw[gw,if_neg (by simp[G])];exact⟨_,U.a1,_,_,rfl,C,ar.nil U.a1,ar.nil aS⟩
 .rw[gw,if_pos G];obtain⟨a14,a15,a16,a18,a19⟩:=yG (by rw[jY,a4L]at G;exact G.1);generalize L:((C.set B _).set H _).set F _=P;have W:C.sub P:=by subst L;exact aS
  have K:P B=some (.cells [.J (ad a) m,.J (ad c) n]):=by subst L;exact aS
  have M:P H=some (.cells [.J (ad h) q,.J (ad d) s]):=by subst L;exact aS
  have aJ:P F=some (.cells [.J [] .nil,.J [] .nil]):=by subst L;exact aS
  clear L;refine ai (uc P a c _ _ E a9k) ?_;rintro _ n2 ⟨r,t,rfl,a27,n3,n4⟩;obtain⟨x,⟨I,_⟩|⟨e,n5,N,k2,rfl,f,k3,n9,O,S,k4,cd⟩⟩:=n3
  .exfalso;grind
  obtain⟨D,⟨I,_⟩|⟨y,a00,Q,k5,rfl,T,k6,a01,X,V,k7,ca⟩⟩:=n4
  .exfalso;grind
  obtain rfl:n5=a.length:=by rw[k1]at S;omega
  obtain rfl:a00=a.length:=by rw[bH]at V;omega
  have k8:=D _ _ k3;simp only[a5y]at n9 a01 O X k4 k7;obtain⟨g,rfl⟩: ∃Y,k2=ad a++Y:=⟨k2.drop a.length,by rw[<-O,a5p]⟩;obtain⟨i,rfl⟩: ∃Y,k5=ad c++Y:=⟨k5.drop a.length,by rw[<-X,a5p]⟩;have k: ∀ {k9:U}{b Z:Nat}{j:br},k9 b=none->k9 Z=some j->b≠Z/\Z≠b:=λE l=>⟨(by rintro rfl;rw[E]at l;cases l),(by rintro rfl;rw[E]at l;cases l)⟩;have kv:=D _ _ (x _ _ K);have l0:=D _ _ (x _ _ M);have l1:=D _ _ (x _ _ aJ);obtain⟨a29,a02⟩:=k T k3;obtain⟨a30,a34⟩:=k f K;obtain⟨a36,a38⟩:=k f M;obtain⟨a03,a42⟩:=k f aJ;obtain⟨a43,a47⟩:=k T (x _ _ K);obtain⟨a48,a52⟩:=k T (x _ _ M);obtain⟨a04,a56⟩:=k T (x _ _ aJ);have a05:=U.bF W f;have a06:=U.bF (U.au W x) T;have j9:=U.au W (U.au x D);clear O X S V x D;have a57: ∀a c k0 d:Nat,(R.an a c k0 d).cells= [.an a c k0 d]:=λ_ _ _ _=>rfl;refine aa ?_;refine aN λa07 z=> ?_;obtain⟨a61,a62⟩:=k z kv;obtain⟨a63,a65⟩:=k z l0;obtain⟨a68,a69⟩:=k z l1;obtain⟨a71,a73⟩:=k z k8;obtain⟨Xv,a74⟩:=k z k6;have l2:=U.bF j9 z;refine aa ?_;refine ch [2,3,4,6,17] (λb:Nat=> [(18,.v (.int .i64 (b)))]) (λb o=>b<=a.length/\C.sub o/\o B=some (.cells [.J (ad a) m,.J (ad c) n])/\o H=some (.cells [.J (ad h) q,.J (ad d) s])/\o F=some (.cells [.J [] .nil,.J [] .nil])/\
      o a07=some (.cells [.an e a.length N 1,.an y a.length Q 1])/\o e=some (.cells (ad (mix max a h b)++g))/\o y=some (.cells (ad (mix min c d b)++i))) (λb=>a.length - b) 0 ⟨⟨a5o _,U.ae (U.ae j9 l2) l2,aS,aS,aS,aS,?_,?_⟩,aS⟩ ?_
  .have a08:mix max a h 0=a:=by rfl
   exact aS
  .have a08:mix min c d 0=c:=by rfl
   exact aS
  clear kv l0 l1 k8 k6 z k1;rintro b o ⟨a81,a09,c2,aH,aJ,c6,l3,l4⟩ a83;have a84:=U.af c2;have a86:=U.af aH;have a88:=U.af c6;have n2:=U.aI l3;have a89:=U.aI l4;clear I l6 l8 l9 n0 n1 j9 W;by_cases a90:b<a.length
  .have k0:(b)<(a.length:Int):=a9k;have a92:=u a9k;have a94:=v (b:=b) a9k;have a95:=w (b:=b) a9k;have a96:=A (b:=b) a9k;clear u v w A;have a97:=ue a9k a9k g (v:=max (a.getD b 0) (h.getD b 0)) rfl;have a98:=ue a9k a9k i (v:=min (c.getD b 0) (d.getD b 0)) rfl;have a99:b+1<=(ad (mix max a h b)++g).length:=by rw[a4J,bH,ud a9k a9k];omega
   have b00:b+1<=(ad (mix min c d b)++i).length:=by rw[a4J,bH,ud a9k a9k];omega
   generalize a.getD b 0=b01 at*;generalize h.getD b 0=b02 at*;generalize c.getD b 0=a3 at*;generalize d.getD b 0=a4 at*;generalize ad (mix max a h b)++g=b03 at*;generalize ad (mix min c d b)++i=b04 at*;refine aa ?_;grind
  .obtain rfl:b=a.length:=a9k;clear u v w A;have S:mix max a h a.length=List.zipWith max a h:=by unfold mix;grind
   have V:mix min c d a.length=List.zipWith min c d:=by unfold mix;grind
   have b05:(ad (mix max a h a.length)).length=a.length:=by rw[S,bH,a6w];omega
   have b06:(ad (mix min c d a.length)).length=a.length:=by rw[V,bH,a6w];omega
   have b07:=U.aI aJ;have b08: ¬(a.length:Int)<a.length:=a9k;refine aa ?_;refine⟨_,U.a1,_,_,rfl,?_⟩;rw[<-S,<-V];refine⟨(o.set F (.cells [.an e a.length N 1,.an y a.length Q 1])).del y,⟨λr j p=> ?_,.inr ⟨e,a.length,N,_,rfl,a05,by rw[U.eG _ a02,U.ao _ _ a03];exact l3,?_,?_,?_,k4,cd⟩⟩,⟨λr j p=> ?_,.inr ⟨y,a.length,Q,_,rfl,U.il _ _,by rw[U.ao _ _ a04];exact l4,?_,?_,?_,k7,ca⟩⟩⟩
   .have k:r≠y:=by rintro rfl;rw[a06]at p;cases p
    have a10:r≠F:=by rintro rfl;rw[l7]at p;cases p
    rw[U.eG _ k,U.ao _ _ a10];exact a09 r j p
   .rw[a4J,bH]at*;omega
   simp_all
   .omega
   .have k:r≠y:=by rintro rfl;rw[U.il]at p;cases p
    rw[U.eG _ k]at p;exact p
   .rw[a4J,bH]at*;omega
   simp_all
   .omega
def F1 (h:U) (a b c d:List Int) (k o p r:Own) (z:a.length<=1000000000000):
  AC Tryz.prog 131 [et a b k o,et c d p r] h λx y=>h.sub y/\x= .aL [et (gw a b c d).1 (gw a b c d).2 .any .any,.v (.bool (jY a b c d))]:=
 (a0z h a b c d k o p r z).view λx y C=>by
  obtain⟨D,W,rfl,e,E,F⟩:=C;obtain⟨f,G,L⟩:=sr F;have P:=E.mono G;obtain⟨S,T,V⟩:=sr P;exact⟨_,S,View.aL (a:= []) ((View.agg (a:= [D]) rfl L).trans (View.agg (a:= []) rfl V)),T,rfl⟩
end Go.Proofs.YtlgnfcaolejgeaaGreat
