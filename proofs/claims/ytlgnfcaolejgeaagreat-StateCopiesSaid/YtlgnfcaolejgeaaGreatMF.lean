import Derived.Test.YtlgnfcaolejgeaaGreatME
import Derived.Test.YtlgnfcaolejgeaaGreatMC
import Derived.Test.YtlgnfcaolejgeaaGreatMD
import Derived.Test.YtlgnfcaolejgeaaGreatMB
import Derived.Shelf.SlSortCmp.NoneTotal
import Derived.Shelf.SlLaysF
import Derived.Test.YtlgnfcaolejgeaaGreatProg
set_option linter.all false
set_option maxRecDepth 100000
namespace Go.Proofs.YtlgnfcaolejgeaaGreat
open Go Go.bx
def bw (c:U):(d:Nat)->a6.T d->R->Prop
 |0,a,h=> ∃b p k o,h= .ptr b 0/\c b=some (.cells [.J p k,.J [] o])/\az isRow (a6.rows a) p
 |d+1,a,h=> ∃b r k o,h= .ptr b 0/\c b=some (.cells [.J [] o,.J r k])/\az (bw c d) (a6.kids a) r/\a6.kids a≠ []/\(a6.kids a).length<=1000
def bw.fD {r x:U} (d:ir r x): ∀ {a:Nat}{b:a6.T a}{c:R},bw r a b c->bw x a b c
 |0,b,c,⟨h,y,k,eT,h1,o,p⟩=>⟨h,y,k,eT,h1,d _ _ o,p⟩
 |a+1,b,c,⟨h,z,k,eT,h1,o,p,C⟩=>⟨h,z,k,eT,h1,d _ _ o,p.mono λ_ _=>bw.fD d,C⟩
variable{f t e4:U}{e i v O b8 j0:Nat}
def bw.mono (b:f.sub e4) {t:a6.T e}{a:R} (c:bw f e t a):bw e4 e t a:=c.fD (U.o1 b)
theorem bw.cells {d:U}{a:Nat}{h:a6.T a}{b:R} (c:bw d a h b):b.cells.length=1:=by
 cases a with
 |zero=>obtain⟨k,_,_,_,rfl,_⟩:=c;rfl
 |succ a=>obtain⟨k,_,_,_,rfl,_⟩:=c;rfl
theorem bw.ptr {c:U}{a:Nat}{k:a6.T a}{d:R} (h:bw c a k d): ∃b o p,d= .ptr b 0/\c b=some (.cells [o,p]):=by
 cases a with
 |zero=>obtain⟨b,_,_,_,rfl,r,_⟩:=h;simp_all
 |succ a=>obtain⟨b,_,_,_,rfl,r,_⟩:=h;simp_all
theorem E9 {k:Type}: ∀(a:Nat) (b:List k),a<=b.length-> ∀d∈a6.eU a b,d≠ []
 |0,b,_,d,c=>by cases c
 |a+1,b,p,d,c=>by
  have r:=a7s b.length (a+1);have hm:=a6A b.length (a8V a);have x:1<=b.length/(a+1):=(Nat.le_div_iff_mul_le (a8V a)).2 a8Z;rw[a6.eU]at c;generalize b.length/(a+1)=h at*;generalize b.length%(a+1)=y at*;have z:(a+1)*h=a*h+h:=by rw[a5F];omega
  have C:a<=a*h:=a8p _ a8Z;rcases a4T.1 c with rfl|c
  .intro o;have:=congrArg List.length o;grind
  .exact E9 a _ (by rw[a4N];split<;>omega) d c
variable{b0:Type}
def Z6 (a:List b0):a6.chunks a=(List.range (a6.bU a.length)).map λb=>(a.drop (b*(a.length/a6.bU a.length)+min b (a.length%a6.bU a.length))).take (a.length/a6.bU a.length+if b<a.length%a6.bU a.length then 1 else 0):=a6.Dt _ _
def fm (a b:Nat):Nat:=b*(a/a6.bU a)+min b (a%a6.bU a)
def xT (a:i<a6.bU e):fm e (i+1)=fm e i+(hf e).getD i 0:=by rw[xS a];unfold fm;rw[a5F];split<;>omega
def Ea (a:i<=a6.bU e):fm e i<=e:=by have:=a7s e (a6.bU e);have:=a4L (e/a6.bU e) a;unfold fm;omega
def uw {a:List b0}:(a6.chunks a).length=a6.bU a.length:=nk.1
def Eb {a:List b0} (b:e<a6.bU a.length):(a6.chunks a).take (e+1)=(a6.chunks a).take e++ [(a.take (fm a.length (e+1))).drop (fm a.length e)]:=by rw[a5I,Z6,a4X,a6L b,xT b,xS b,a5P];simp[fm]
def Ec (a:i<a6.bU e):(iG (hf e))[i]? =some (.v (.int .i64 ((hf e).getD i 0:Nat))):=by simp[iG,uv,a]
variable{g A e0:List R}
def bw.c {a:List (a6.T e)} (b:az (bw f e) a g):aS 1 g:=b.cells λ_ _=>bw.cells
def Ed (a:List (List Int)) (o:List R) (G:Own) (p:U) (r:az isRow a o) (L:a.length<=1000):
  AC Tryz.prog 164 [.J o G] p λP d=>p.sub d/\ ∃k x,P= .J k x/\az (bw d 0) ((a6.chunks a).map a6.leaf) k:=by
 have s:=r.len;have t:=iF r;have u:=xR (a:=a.length);have v:(iG (hf a.length)).length=a6.bU a.length:=uu.trans uv;refine aN hm O1 ?_;refine cl (E8 a.length L p) ?_;rintro _ S ⟨T,w,rfl⟩;have A:fm a.length 0=0:=by simp[fm]
 refine aa ?_;refine ch [0,5] (λb:Nat×List R×Own=> [(3,.J b.2.1 b.2.2),(4,.v (.int .i64 (fm a.length b.1))),(6,.v (.int .i64 (b.1)))]) (λb d=>b.1<=a6.bU a.length/\az (bw d 0) (((a6.chunks a).take b.1).map a6.leaf) b.2.1/\bg S d 1 b.2.1 b.2.2) (λb=>a6.bU a.length - b.1) (0,[],.nil) ⟨⟨a9a,trivial,bg.nil U.a1⟩,aR⟩ ?_;rintro⟨c,k,V⟩ W ⟨e,h,y⟩ B
 dsimp only at e h y|-
 have f:=h.len;rw[a4I,a4z,uw]at f;refine aa ?_;refine aG (λg=> ?_) λg=> ?_
 .have H:=xT (e:=a.length) (i:=c) a8Z;have I:=Ea (e:=a.length) (i:=c+1) a8Z;have K:=Ec (e:=a.length) (i:=c) a8Z;have i:=Eb (a:=a) (e:=c) a8Z;have z:=(r.take (fm a.length (c+1))).drop (fm a.length c);generalize M:fm a.length (c+1)=C at*;generalize fm a.length c=D at*;generalize (hf a.length).getD c 0=j at*;have N:(D)+(j)=(C:Int):=a8Z;refine s8 (iF z) (λE l O=> ?_);refine bp λF Q=> ?_;have m:=qq (f:=W) (t:=l.set F (.cells [.J ((o.take C).drop D) E,.J [] .nil]));refine hP (y.mono m) (bw.c h) λ_ x d n q=> ?_;refine⟨(c+1,_,x),⟨by simp only;omega,?_,n⟩,⟨rfl,by simp only;congr 3;omega,rfl⟩,by simp only;omega⟩;simp only[i,a5y];exact(h.mono λ_ _=>bw.fD fB).snoc ⟨F,_,E,.nil,rfl,q _ _ (U.ah _ _ _),z⟩
 .rw[a4x (by rw[uw];omega)]at h;exact⟨_,U.a1,U.ar T y.sub,k,V,rfl,h⟩
theorem xU (z:U) (a:List (a6.T e)) (r:List R) (P:Own) (k:U) (x:az (bw z e) a r) (S:a.length<=1000) (T:z.sub k):
  AC Tryz.prog 165 [.J r P] k λV d=>k.sub d/\ ∃o y,V= .J o y/\az (bw d (e+1)) ((a6.chunks a).map a6.node) o:=by
 have A:=x.len;have B:=bw.c x;have W:=xR (a:=a.length);have H:(iG (hf a.length)).length=a6.bU a.length:=uu.trans uv;refine aN hm O3 ?_;refine cl (E8 a.length S k) ?_;rintro _ f ⟨C,I,rfl⟩;have K:fm a.length 0=0:=by simp[fm]
 refine aa ?_;refine ch [0,5] (λc:Nat×List R×Own=> [(3,.J c.2.1 c.2.2),(4,.v (.int .i64 (fm a.length c.1))),(6,.v (.int .i64 (c.1)))]) (λc d=>c.1<=a6.bU a.length/\az (bw d (e+1)) (((a6.chunks a).take c.1).map a6.node) c.2.1/\bg f d 1 c.2.1 c.2.2) (λc=>a6.bU a.length - c.1) (0,[],.nil) ⟨⟨a9a,trivial,bg.nil U.a1⟩,aR⟩ ?_;rintro⟨b,o,g⟩ i ⟨j,h,p⟩ M
 dsimp only at j h p|-
 have l:=h.len;rw[a4I,a4z,uw]at l;refine aa ?_;refine aG (λm=> ?_) λm=> ?_
 .have N:=xT (e:=a.length) (i:=b) a8Z;have O:=Ea (e:=a.length) (i:=b+1) a8Z;have Q:=Ec (e:=a.length) (i:=b) a8Z;have n:=Eb (a:=a) (e:=b) a8Z;have q:(a.take (fm a.length (b+1))).drop (fm a.length b)≠ []:=E9 (a6.bU a.length) a W _ (a4K (i:=b+1) (by grind[a6.chunks]));have D:=(x.take (fm a.length (b+1))).drop (fm a.length b);generalize X:fm a.length (b+1)=E at*;generalize fm a.length b=F at*;generalize (hf a.length).getD b 0=s at*;have Y:(F)+(s)=(E:Int):=a8Z;refine s8 (bw.c D) (λG t Z=> ?_);refine bp λL j9=> ?_;have u:=qq (f:=i) (t:=t.set L (.cells [.J [] .nil,.J ((r.take E).drop F) G]));have k0:=U.ar T (U.ar C p.sub);refine hP (p.mono u) (bw.c h) λ_ y d v w=> ?_;refine⟨(b+1,_,y),⟨by simp only;omega,?_,v⟩,⟨rfl,by simp only;congr 3;omega,rfl⟩,by simp only;omega⟩;simp only[n,a5y];exact(h.mono λ_ _=>bw.fD fB).snoc ⟨L,_,G,.nil,rfl,w _ _ (U.ah _ _ _),D.mono λ_ _=>bw.fD fB,q,by simp[a6.fl];omega⟩
 .rw[a4x (by rw[uw];omega)]at h;exact⟨_,U.a1,U.ar C p.sub,o,g,rfl,h⟩
end Go.Proofs.YtlgnfcaolejgeaaGreat
namespace Go.a6
variable {lt:Row->Row->Bool}{ok:Row->Prop}
variable{e i v O b8 j0:Nat}{b0:Type}
def qJ {a:List b0}{b:b0} (c:a[e]? =some b):a=a.take e++b::a.drop (e+1):=by obtain⟨d,rfl⟩:=a4E.1 c;simp
variable{h3:Row}
def ux (y:Ord lt ok) (z:ok h3) {a:List (T e)} (C:a≠ []) (k: ∀b∈a,1<=len b/\lh e b) (o:jc lt (a.flatMap (bh e))) (p: ∀c∈a.flatMap (bh e),ok c):
  ∃b,a[cS lt h3 (a.map (cM e))]? =some b/\(∀c∈(a.take (cS lt h3 (a.map (cM e)))).flatMap (bh e),lt c h3=true)/\(∀c∈(a.drop (cS lt h3 (a.map (cM e))+1)).flatMap (bh e),lt h3 c=true):=by
 have D:a.map (cM e)=(a.map (bh e)).map (·.headD []):=by rw[a6z];rfl
 rw[a7H]at o p;obtain⟨r,d,h⟩:=Dz y z (a.map (bh e)) (by simpa using C) (λF E=>by
  obtain⟨b,x,rfl⟩:=a4R.1 E;exact xz (k b x).1 (k b x).2) o p
 rw[<-D]at r d h;rw[<-a7Z,<-a7H]at d;rw[<-a7p,<-a7H]at h;exact⟨_,a4w (by simpa using r),d,h⟩
theorem qK (C:Ord lt ok) (P:ok h3): ∀(a:Nat) (b:T a),jM a b->jc lt (bh a b)->(∀d∈bh a b,ok d)->h3∉bh a b->
  (eV lt h3 a b).flatMap (bh a)=dL lt (bh a b) h3/\(∀c∈eV lt h3 a b,WF a c)/\1<=(eV lt h3 a b).length/\(eV lt h3 a b).length<=2:=by
 intro a
 induction a with
 |zero=>intro b D p o x;obtain⟨e,rfl⟩:=hX b;obtain⟨y,E,_,_⟩:=D;rw[hY]at y E;obtain⟨F,G,c,_⟩:=Dx (h9:=dL lt e h3) (by rw[om];omega) (by rw[om];omega);exact⟨Dv _,F,by simpa[eV,qE] using G,by simpa[eV,qE] using c⟩
 |succ a ih=>
  intro b D p o x;obtain⟨h,rfl⟩:=gp b;obtain⟨y,E,f,L⟩:=D;rw[dE]at y E L;have L:=L a8Z;rw[fY]at p o x|-;have g: ∀c∈h,WF a c:=f;obtain⟨c,r,S,V⟩:=ux C P (by intro i;subst i;simp at y) (λc r=>by grind[gZ]) p o;simp only[eV,fl];generalize cS lt h3 (h.map (cM a))=z at r S V;rw[r];have s:=qJ r;have j:h.flatMap (bh a)=(h.take z).flatMap (bh a)++(bh a c++(h.drop (z+1)).flatMap (bh a)):=by grind
  rw[j]at p o x|-;have l:=(a5z.1 (a5z.1 p).2.1).1;obtain⟨m,t,u,v⟩:=ih c (jM.of (g c (a4D r))) l (λd k=>o d (by simp[k])) (λk=>x (by simp[k]));have W:(h.take z++eV lt h3 a c++h.drop (z+1)).length=h.length - 1+(eV lt h3 a c).length:=by grind
  obtain⟨F,G,n,_⟩:=Dy (by rw[W];omega) (by rw[W];omega) (λd k=>by
   grind)
  refine⟨?_,F,by simpa using G,by simpa using n⟩;simp only[];rw[Dw,a5m,a5m,m,xA S,Yq,a4J];intro d k;cases q:lt d h3 with
  |false=>rfl
  |true=>have:=C.trans d h3 d (o d (by simp[k])) P (o d (by simp[k])) q (V d k);rw[C.jb]at this;cases this
theorem Ee {a b:T e} (k:lh e a) (o:lh e b) (d:2<=len a+len b) (h:len a+len b<=5):
  (kv a b).flatMap (bh e)=bh e a++bh e b/\(∀c∈kv a b,WF e c)/\1<=(kv a b).length/\(kv a b).length<=2:=by
 cases e with
 |zero=>obtain⟨a,rfl⟩:=hX a;obtain⟨b,rfl⟩:=hX b;grind[hY,Dx,kv,qE,ku,Dv]
 |succ e=>obtain⟨a,rfl⟩:=gp a;obtain⟨b,rfl⟩:=gp b;rw[dE,dE]at d h;obtain⟨r,x,y,_⟩:=Dy (a:=a++b) (by simpa using d) (by simpa using h) (λc p=>(a4M.1 p).elim (k c) (o c));grind[kv,fl,fY,Dw]
variable{h9:List Row}
theorem filter_none (b:h3∉h9):h9.filter (λa=>decide (a≠h3))=h9:=by rw[a7T];grind
theorem Z7 (b:jc lt h9) (d: ∀h3,lt h3 h3=false):h9.length - 1<=(h9.filter λc=>decide (c≠h3)).length:=by
 induction h9 with
 |nil=>simp
 |cons a h9 ih=>
  have h:=a5g.1 b;by_cases bW:a=h3
  .subst bW;have:a∉h9:=λk=>by grind
   rw[a8r a9a,filter_none this];simp
  simp_all
theorem pq (E:Ord lt ok) (v:ok h3): ∀(a:Nat) (d:T a),jM a d->jc lt (bh a d)->(∀h∈bh a d,ok h)->
  bh a (cI lt h3 a d)=(bh a d).filter (λh=>decide (h≠h3))/\lh a (cI lt h3 a d)/\len d - 1<=len (cI lt h3 a d)/\len (cI lt h3 a d)<=4:=by
 intro a
 induction a with
 |zero=>intro d P o r;obtain⟨Q,rfl⟩:=hX d;obtain⟨F,G,_,_⟩:=P;rw[hY]at F G;simp only[cI,qE,ku,hY]at o|-;exact⟨trivial,trivial,Z7 o E.jb,by grind⟩
 |succ a ih=>
  intro d P o r;obtain⟨b,rfl⟩:=gp d;obtain⟨F,G,w,S⟩:=P;rw[dE]at F G S;have S:=S a8Z;rw[fY]at o r|-;have V: ∀p∈b,WF a p:=w;obtain⟨p,x,i,j⟩:=ux E v (by intro y;subst y;simp at F) (λp x=>by grind[gZ]) o r;simp only[cI,fl,dE];generalize cS lt h3 (b.map (cM a))=c at x i j;rw[x];simp only[dE,fY];have X:=qJ x;obtain⟨A,_⟩:=a4E.1 x;have B:b.flatMap (bh a)=(b.take c).flatMap (bh a)++(bh a p++(b.drop (c+1)).flatMap (bh a)):=by grind
  have Y:=o;have Z:=r;rw[B]at o r;have l:=V p (a4D x);have j9:=gZ.1 l;obtain⟨H,L,I,m⟩:=ih p (jM.of l) (a5z.1 (a5z.1 o).2.1).1 (λh z=>r h (by simp[z]));generalize cI lt h3 a p=h at H L I m;have k0:=filter_none λz=>by
   have:=i h3 z;rw[E.jb]at this;cases this
  have k1:=filter_none λz=>by
   have:=j h3 z;rw[E.jb]at this;cases this
  have n:(b.flatMap (bh a)).filter (λh=>decide (h≠h3))=(b.take c).flatMap (bh a)++(bh a h++(b.drop (c+1)).flatMap (bh a)):=by grind
  rw[n];unfold lj;by_cases W:2<=len h
  .rw[if_pos W];have y:b.set c h=b.take c++h::b.drop (c+1):=by rw[a5N,if_pos A]
   refine⟨by grind,λq C=> ?_,a9a,by simpa using G⟩;rw[fl,y]at C;simp only[a4M,a4T]at C;rcases C with C|rfl|C;grind
   .exact gZ.2 ⟨W,m,L⟩
   grind
  .rw[if_neg W];have k2:len h=1:=a8Z;by_cases e:c=0
   .subst e;have k:b[1]? =some b[1]:=a4w a8Z;simp only[if_true];rw[k];simp only[Nat.zero_sub,a6s,a4P,a4W,a7l]at n|-;generalize b[1]=D at k;have f:=V D (a4D k);have g:=gZ.1 f;obtain⟨s,K,q,y⟩:=Ee L g.2.2 a8Z a8Z;have t:b.drop 1=D::b.drop 2:=by obtain⟨M,rfl⟩:=a4E.1 k;simp
    refine⟨by grind,λN u=> ?_,a9b,a9b⟩;grind[fl,List.mem_of_mem_drop]
   .rw[if_neg e];have k:b[c - 1]? =some b[c - 1]:=a4w a8Z;rw[k];simp only[if_neg e];generalize b[c - 1]=D at k;have f:=V D (a4D k);have g:=gZ.1 f;obtain⟨s,K,q,y⟩:=Ee g.2.2 L a8Z a8Z;have t:b.take c=b.take (c - 1)++ [D]:=by
     obtain⟨M,rfl⟩:=a4E.1 k
     conv=>lhs;rw[show c=c - 1+1 by omega]
     simp
    have O:c - 1+2=c+1:=a8Z;rw[O];refine⟨by rw[a5m,a5m,s,t,a5m];simp,λN u=> ?_,a9b,a9b⟩;simp only[fl,a4M]at u;grind
end Go.a6
namespace Go.Proofs.YtlgnfcaolejgeaaGreat
open Go Go.bx
abbrev eD:=Option ((a:Nat)×a6.T a)
def fM (c:U) (a:eD) (b:R):Prop:=
 match a with
 |none=>b= .v (.pointer none)
 |some ⟨d,a⟩=>bw c d a b
def fM.fD {b c:U} (k:ir b c) {a:eD}{d:R} (h:fM b a d):fM c a d:=by
 match a with
 |none=>exact h
 |some ⟨_,_⟩=>exact bw.fD k h
variable{e i v O b8 j0:Nat}
def pr:List (a6.T e)->eD
 | []=>none
 | [a]=>some ⟨e,a⟩
 |b=>some ⟨e+1,a6.node b⟩
variable{b0:Type}
def Z8 {a:List b0} (b:a.length=1): ∃c,a= [c]:=a6x.1 b
theorem Z9 (c:List (a6.T e)) (x:List R) (E:Own) (p:U) (F:az (bw p e) c x) (G:c.length<=4):
  AC Tryz.prog 98 [.J x E] p λL h=>p.sub h/\fM h (pr c) L:=by
 refine aN hm M3 ?_;refine ch [] (λd:List R×Own=> [(0,.J d.1 d.2)]) (λd h=>p.sub h/\(az (bw h e) c d.1\/2<=c.length/\ ∃a,d.1= [a]/\bw h (e+1) (a6.node c) a)) (λd=>d.1.length) (x,E) ⟨⟨U.a1,.inl F⟩,aR⟩ ?_;rintro⟨r,P⟩ y ⟨z,b⟩ g
 dsimp only at b|-
 refine aa ?_;refine aG (λk=> ?_) λk=> ?_
 .rcases b with b|⟨_,a,rfl,_⟩
  .have i:=b.len;refine cl (xU y c r P y b a8Z U.a1) ?_;rintro _ j ⟨S,l,T,rfl,C⟩;rw[a6.pk a8Z G]at C;obtain⟨a,rfl⟩:=Z8 C.len;refine aa ?_;exact⟨([a],T),⟨U.ar z S,.inr ⟨a8Z,a,rfl,C.1⟩⟩,rfl,a9b⟩
  .simp at k
 .have V:(r= []/\c= [])\/ ∃a,r= [a]/\fM y (pr c) a:=by
   rcases b with b|⟨W,a,rfl,b⟩
   .match c,r,b,k with
    | [],[],_,_=>simp
    | [m],[a],b,_=>exact .inr ⟨a,rfl,b.1⟩
    | _:: _:: _,_:: _:: _,_,k=>simp at k;omega
   .match c,W with
    | _:: _:: _,_=>exact .inr ⟨a,rfl,b⟩
  clear b;rcases V with ⟨rfl,rfl⟩|⟨a,rfl,o⟩
  .refine aa ?_;exact⟨_,U.a1,z,rfl⟩
  .have f:(∃D,a= .ptr D 0)\/a= .v (.pointer none):=by
    unfold fM at o;split at o
    .exact .inr o
    .obtain⟨D,_,_,n,_⟩:=o.ptr;simp_all
   rcases f with ⟨D,rfl⟩|rfl
   all_goals refine aa ?_;exact⟨_,U.a1,z,o⟩
theorem xV: ∀(b:Nat) (d:a6.T b) (T:R) (p:U),bw p b d T->(a6.bh b d).length<=100000->
  AC Tryz.prog 94 [T] p λW F=>p.sub F/\ ∃h G,W= .J h G/\az isRow (a6.bh b d) h:=by
 intro b
 induction b with
 |zero=>rintro d _ p ⟨e,h,G,f,rfl,k,o⟩ L;have P:=U.ae k;have g:=o.len;have w:(a6.rows d).length<=100000:=L;refine aN hm wx ?_;refine s8 (iF o) λC i D=> ?_;have P:=rd D.sub k;refine gJ [0] (λc:Nat=> [(3,.J h C),(4,.v (.int .i64 (c)))]) (λc=>c=0) (λ_=>0) 0 rfl aR ?_;rintro _ rfl j;refine aa ?_;exact⟨D.sub,h,C,rfl,o⟩
 |succ b ih=>
  rintro d _ p ⟨e,A,G,f,rfl,k,o,B,l⟩ L;obtain⟨r,rfl⟩:=a6.gp d;rw[a6.fl]at o l;rw[a6.fY]at L|-;have P:=U.ae k;have g:=o.len;refine aN hm wx ?_;refine s8 Cq λC i D=> ?_;refine ch [0] (λa:Nat×List R×Own=> [(3,.J a.2.1 a.2.2),(4,.v (.int .i64 (a.1)))]) (λa F=>a.1<=r.length/\az isRow ((r.take a.1).flatMap (a6.bh b)) a.2.1/\bg p F 1 a.2.1 a.2.2) (λa=>r.length - a.1) (0,[],C) ⟨⟨a9a,trivial,D⟩,aR⟩ ?_;rintro⟨c,h,m⟩ n ⟨y,x,z⟩ j
  dsimp only at y x z|-
  have P:=rd z.sub k;refine aa ?_;refine aG (λE=> ?_) λE=> ?_
  .have y:c<r.length:=a8Z;obtain⟨H,aN,V⟩:=o.get (a4w y);have q:=a6.qJ (a4w y);have s:=a5H y;have t:=bw.mono z.sub V;obtain⟨I,_,_,rfl,_⟩:=V.ptr;generalize r[c]=E at*;have K:((r.take c).flatMap (a6.bh b)).length+(a6.bh b E).length<=100000:=by grind
   clear q;have M:=x.len;refine cl (ih E _ n t a8Z) ?_;rintro _ N ⟨u,O,Q,rfl,S⟩;have X:=S.len;refine kr (z.mono u) (iF x) (iF S) λv Y k _=> ?_;refine⟨(c+1,_,v),⟨by simp only;omega,?_,k⟩,⟨rfl,rfl⟩,by simp only;omega⟩;simp only[s,a5m,a4Y,a7l,a5B];exact x.append S
  .rw[a4x a8Z]at x;exact⟨z.sub,h,m,rfl,x⟩
def Za (a:U):AC Tryz.prog 94 [.v (.pointer none)] a λb c=>c=a/\b= .J [] .nil:=by refine aN hm wx ?_;trivial
def Zb (a:Nat) (b:a6.T a) (d:R) (c:U) (r:bw c a b d) (x:(a6.bh a b).length<=100000) (y:a6.bh a b≠ []):
  AC Tryz.prog 252 [d] c λh z=>c.sub z/\ ∃k,h= .J (ad (a6.cM a b)) k:=by
 refine aN hm Qy ?_;refine cl (xV a b d c r x) ?_;rintro _ C ⟨D,E,k,rfl,o⟩;unfold a6.cM;cases p:a6.bh a b with
 |nil=>exact absurd p y
 |cons F h=>rw[p]at o;obtain⟨G,aN,L,rfl⟩:=o.get (i:=0) rfl;refine aa ?_;simp
theorem xW (b:List (List Int)) (k:List R) (x o:Own) (c:List Int) (d:U) (p:az isRow b k) (E:b.length<=100000) (F: ∀h∈b,h.length<=1000):
  AC Tryz.prog 93 [.J k x,.J (ad c) o] d λh y=>y=d/\h= .v (.bool (decide (c∈b))):=by
 have G:=p.len;refine aN hm LU ?_;refine gJ [0,1] (λa:Nat=> [(5,.v (.int .i64 (a)))]) (λa=>a<=b.length/\ ∀r<a,b.getD r []≠c) (λa=>b.length - a) 0 ⟨a8Z,λr L=>by omega⟩ aR ?_;rintro a ⟨P,z⟩ S;refine aa ?_;refine aG (λC=> ?_) λC=> ?_
 .obtain⟨_,T,D,rfl⟩:=p.at [] (e:=a) a8Z;refine lX (nn (b.getD a []) c D o d (by grind)) ?_;refine aG (λc2=> ?_) λc2=> ?_
  .exact aP (by grind)
  .exact⟨a+1,⟨a8Z,upto z c2⟩,rfl,a8Z⟩
 grind[aP,List.getElem_of_mem,List.getD]
def gO (a:List Int->List Int->Bool) (b:List Int):Nat->Nat->List (List Int)->Nat
 | _,at_,[]=>at_
 |c,at_,d::bI=>gO a b (c+1) (if a b d=true then at_ else c) bI
def Ef {d:List Int->List Int->Bool}{h:List Int}: ∀(b:List (List Int)) (k c:Nat),(∀a∈b,d h a=true)->gO d h k c b=c
 | [],_,_,_=>rfl
 |a::b,k,c,o=>by
  rw[gO,if_pos (o a a9a)];exact Ef b _ _ λa p=>o a (by simp[p])
theorem Eg {a:List Int->List Int->Bool}{b:List Int}: ∀(c:List (List Int)) (k:List Int) (d:Nat),c.Pairwise (λo p=>a b o=true->a b p=true)->gO a b (d+1) d c=d+a6.cS a b (k::c)
 | [],k,d,_=>rfl
 |h::c,k,d,r=>by
  have x:=a5g.1 r;rw[gO];have y:a6.cS a b (k::h::c)=if a b h=true then 0 else a6.cS a b (h::c)+1:=rfl;rw[y];by_cases hk:a b h=true;simp_all [Ef]
  .rw[if_neg hk,if_neg hk,Eg c h (d+1) x.2];omega
variable{Q:List (List Int)}{q b6:List Int}
theorem Zc {a:List Int->List Int->Bool} (d:Q.Pairwise (λb c=>a q b=true->a q c=true)):gO a q 0 0 Q=a6.cS a q Q:=by
 cases Q with
 |nil=>rfl
 |cons h Q=>grind[gO,Eg,List.pairwise_cons]
def Eh {k o:List Int->List Int->Bool}{c:List Int}: ∀(b:List (List Int)) (d h:Nat),(∀a∈b,k c a=o c a)->gO k c d h b=gO o c d h b
 | [],_,_,_=>rfl
 |a::b,d,h,p=>by
  rw[gO,gO,p a a9a];exact Eh b _ _ λa r=>p a (by simp[r])
def Ei {d:List Int->List Int->Bool}{h k:List Int}: ∀(a:List (List Int)) (b c:Nat),gO d h b c (a++ [k])=if d h k=true then gO d h b c a else b+a.length
 | [],b,c=>by rfl
 |o::a,b,c=>by
  rw[a5K,gO,Ei a,gO,a4C];split<;>omega
theorem Ej (b:List (a6.T e)) (y:R) (c:List Int) (z:Own) (h:U) (E:bw h (e+1) (a6.node b) y) (F:c.length<=1000) (G: ∀d∈b,(a6.bh e d).length<=100000/\a6.bh e d≠ []/\(a6.cM e d).length<=1000):
  AC Tryz.prog 163 [y,.J (ad c) z] h λL o=>h.sub o/\L= .v (.int .i64 (gO kA c 0 0 (b.map (a6.cM e)):Int)):=by
 obtain⟨j,l,m,n,rfl,P,p,_,S⟩:=E;rw[a6.fl]at p S;have q:=p.len;have s:gO kA c 0 0 []=0:=rfl;refine aN hm NZ ?_;refine ch [0,1] (λa:Nat=> [(5,.v (.int .i64 (gO kA c 0 0 ((b.map (a6.cM e)).take a)))),(6,.v (.int .i64 (a)))]) (λa o=>a<=b.length/\h.sub o) (λa=>b.length - a) 0 ⟨⟨a8Z,U.a1⟩,aR⟩ ?_;rintro a T ⟨k,r⟩ t;have u:=rd r P;refine aa ?_;refine aG (λd=> ?_) λd=> ?_
 .have k:a<b.length:=a8Z;have V:=Ei (d:=kA) (h:=c) (k:=a6.cM e b[a]) ((b.map (a6.cM e)).take a) 0 0;rw[a4z,a4I,a6f a8Z,show(b.map (a6.cM e)).take a++ [a6.cM e b[a]]=(b.map (a6.cM e)).take (a+1) by simp[a5H,k]]at V;have x:=G _ (a4Z k);obtain⟨v,aN,C⟩:=p.get (a4w k);obtain⟨w,_,_,rfl,_⟩:=C.ptr;generalize b[a]=D at*;refine cl (Zb e D _ T (bw.mono r C) x.1 x.2.1) ?_;rintro _ W ⟨f,g,rfl⟩;refine cl (E0 c (a6.cM e D) z g W F x.2.2) ?_;rintro _ A ⟨i,rfl⟩;have B:=U.ar r (U.ar f i);refine aa ?_;refine aG (λc2=> ?_) λc2=> ?_;grind;grind
 .rw[a4x (by rw[a4I];omega)]
theorem Zd {b c:List Int->List Int->Bool} (d: ∀a∈Q,b a q=c a q):a6.dL b Q q=a6.dL c Q q:=by
 unfold a6.dL;have r: ∀Q:List (List Int),(∀a∈Q,b a q=c a q)->Q.takeWhile (λa=>b a q)=Q.takeWhile (λa=>c a q)/\Q.dropWhile (λa=>b a q)=Q.dropWhile (λa=>c a q):=by
  intro Q
  induction Q with
  |nil=>intro _;trivial
  |cons h Q ih=>intro d;obtain⟨k,o⟩:=ih λa p=>d a (by simp[p]);simp only[a5Q,a6X,d h a9a];rw[k,o];trivial
 simp_all
structure GT (d h:Nat) (t:a6.T h):Prop where
 wf:a6.jM h t
 dM:a6.jc bC (a6.bh h t)
 ok: ∀x∈a6.bh h t,bL d x
 dw:(a6.bh h t).length<=1000
def xX {a:a6.T e} (b:a6.bh e a≠ []):a6.cM e a∈a6.bh e a:=by
 unfold a6.cM;cases c:a6.bh e a with
 |nil=>trivial
 |cons d h=>simp
structure Ze (d:Nat) {h:Nat} (bI:List (a6.T h)) (p:List Int):Prop where
 ne:bI≠ []
 two:2<=bI.length/\bI.length<=4
 hd: ∀c∈bI,GT d h c/\a6.WF h c/\a6.bh h c≠ []/\bL d (a6.cM h c)
 Ek:gO kA p 0 0 (bI.map (a6.cM h))=a6.cS bC p (bI.map (a6.cM h))
 at_: ∃c,bI[a6.cS bC p (bI.map (a6.cM h))]? =some c
theorem GT.kids (x:1<=e) (y:e<=8) {d:List (a6.T i)} (p:GT e (i+1) (a6.node d)) (z:bL e q):Ze e d q:=by
 obtain⟨D,E,T,r⟩:=p.wf;rw[a6.dE]at D E r;have r:=r a8Z;have V: ∀a∈d,a6.WF i a:=T;have h:=p.dM;have k:=p.ok;have F:=p.dw;rw[a6.fY]at h k F;have o:d≠ []:=by intro W;subst W;simp at D
 have c: ∀a∈d,GT e i a/\a6.WF i a/\a6.bh i a≠ []/\bL e (a6.cM i a):=by intro a b;have C:=V a b;have f:=a6.gZ.1 C;have o:=a6.xz a8Z f.2.2;obtain⟨v,w,g⟩:=a7a b;rw[g,a5m,a4Y]at h k F;have j:=(a5z.1 (a5z.1 h).2.1).1;refine⟨⟨a6.jM.of C,j,λl m=>k l (by simp[m]),by grind⟩,C,o,k _ (by simp[xX o])⟩
 refine⟨o,⟨r,E⟩,c,?_,?_⟩
 .rw[Eh _ _ _ λA n=>by
   obtain⟨a,b,rfl⟩:=a4R.1 n;exact E4 x y z (c a b).2.2.2]
  refine Zc ?_;rw[a6T];have s:=(List.pairwise_flatMap.1 h).2;refine a7z (λ{G L} P S t=> ?_) s;intro u;exact(gv x y).trans q _ _ z (c G P).2.2.2 (c L S).2.2.2 u (t _ (xX (c G P).2.2.1) _ (xX (c L S).2.2.1))
 .obtain⟨a,b,_⟩:=a6.ux (gv x y) z o (λa b=>by grind[a6.gZ]) h k;exact⟨a,b⟩
theorem Zf (P:1<=e) (S:e<=8) (b:List Int) (T:Own) (D:bL e b): ∀(a:Nat) (d:a6.T a) (E:R) (k:U),bw k a d E->GT e a d->b∉a6.bh a d->
  AC Tryz.prog 99 [E,.J (ad b) T] k λV i=>k.sub i/\ ∃x F,V= .J x F/\az (bw i a) (a6.eV bC b a d) x:=by
 have l6:=D.len;intro a
 induction a with
 |zero=>rintro d _ k ⟨j,M,F,N,rfl,y,c⟩ G l;obtain⟨O,rfl⟩:=a6.hX d;rw[a6.qE]at c;obtain⟨_,Q,_,_⟩:=G.wf;have W:=G.ok;rw[a6.hY]at Q;rw[a6.ku]at W;have m:=U.ae y;refine aN hm Bk ?_;refine cl (Z5 O M F T b k c a8Z (λV X=>by have:=(W V X).len;omega) a8Z) ?_;rintro _ n ⟨z,Y,Z,rfl,q⟩;rw[Zd (c:=bC) λj9 s=>E4 P S (W j9 s) D]at q;refine cl (Ed _ Y Z n q (by rw[a6.om];omega)) ?_;rintro _ l7 ⟨k0,x,k1,rfl,L⟩;refine aa ?_;exact⟨_,U.a1,U.ar z k0,x,k1,rfl,L⟩
 |succ a ih=>
  intro d E k L G l;obtain⟨h,rfl⟩:=a6.gp d;have C:=G.kids P S D;have t:=Ej h E b T k L a8Z λo p=>by
   obtain⟨r,_,l8,k2⟩:=C.hd o p;have:=r.dw;have:=k2.len;grind
  obtain⟨j,l9,F,N,rfl,y,c,_,_⟩:=L;rw[a6.fl]at c;have n0:=c.len;obtain⟨n1,n2⟩:=C.two;have n3: ¬(h.length:Int)=0:=a8Z;have m:=U.ae y;obtain⟨o,p⟩:=C.at_;have u:a6.eV bC b (a+1) (a6.node h)=(a6.chunks (h.take (a6.cS bC b (h.map (a6.cM a)))++a6.eV bC b a o++h.drop (a6.cS bC b (h.map (a6.cM a))+1))).map a6.node:=by simp only[a6.eV,a6.fl];rw[p]
  rw[u];rw[C.Ek]at t;clear u;generalize a6.cS bC b (h.map (a6.cM a))=v at*;have n4:=(a4E.1 p).1;obtain⟨r,_,_,_⟩:=C.hd o (a4D p);have w:b∉a6.bh a o:=λs=>l (by rw[a6.fY];grind);obtain⟨_,_,n5,n9⟩:=a6.qK (gv P S) D a o r.wf r.dM r.ok w;have a00:=bw.c c;obtain⟨_,a01,A⟩:=c.get p;obtain⟨a02,_,_,rfl,_⟩:=A.ptr;refine aN hm Bk ?_;refine cl t ?_;rintro _ n ⟨z,rfl⟩;have m:=rd z y;have f:=c.take v;refine s8 (bw.c f) λa03 k3 B=> ?_;have a04:=rd (U.ar z B.sub) y;refine cl (ih o _ k3 (A.fD fB) r w) ?_;rintro _ a05 ⟨k4,x,a06,rfl,g⟩;have a07:=g.len;refine kr (B.mono k4) (bw.c f) (bw.c g) (λa08 k5 k6 k7=> ?_);have a09:k5.read j= _:=U.ae ds;have H:=(f.mono λ_ _ a=>bw.fD (fB) a).append (g.mono λ_ _=>bw.fD k7);have I:=c.drop (v+1);refine kr k6 (bw.c H) (bw.c I) (λk8 K k9 l0=> ?_);have l1:=(H.mono λ_ _=>bw.fD l0).append (I.mono λ_ _ a=>bw.fD (fB) a);refine cl (xU K _ _ k8 K l1 (by grind) U.a1) ?_;rintro _ a10 ⟨l2,l3,l4,rfl,l5⟩;refine aa ?_;exact⟨_,U.a1,U.ar z (U.ar k9.sub l2),l3,l4,rfl,l5⟩
def eE:eD->List (List Int)
 |none=> []
 |some ⟨a,b⟩=>a6.bh a b
def iH (a:Nat):eD->Prop
 |none=>True
 |some ⟨b,c⟩=>GT a b c
def kB (a:eD) (b:List Int):eD:=
 match a with
 |none=>some ⟨0,a6.leaf [b]⟩
 |some ⟨c,a⟩=>if b∈a6.bh c a then some ⟨c,a⟩else pr (a6.eV bC b c a)
def Zg (z:1<=e) (C:e<=8) (c:List Int) (k:Own) (D:bL e c) (a:eD) (E:R) (o:U) (d:fM o a E) (S:iH e a):
  AC Tryz.prog 55 [E,.J (ad c) k] o λp F=>o.sub F/\ ∃G r,p= .aK [G,.v (.bool r)]/\fM F (kB a c) G:=by
 match a with
 |none=>obtain rfl:=d;refine aN hm Bc ?_;refine dc U.a1 (by simp[aS,R.cells]) λT v V=> ?_;refine aa ?_;refine bp λL W=> ?_;exact⟨_,U.a1,U.ar V.sub (U.af U.a1 W),_,_,rfl,L,_,T,.nil,rfl,U.ah _ _ _,⟨k,rfl⟩,trivial⟩
 |some ⟨x,a⟩=>
  obtain⟨r,L,w,rfl,A⟩:=bw.ptr d;have b:GT e x a:=S;have B:=b.dw;refine aN hm Bc ?_;refine cl (xV x a (.ptr r 0) o d a8Z) ?_;rintro _ P ⟨y,f,g,rfl,i⟩;refine lX (xW _ f g k c P i a8Z λp j=>by have:=(b.ok p j).len;omega) ?_;refine aG (λh=> ?_) λh=> ?_
  .refine⟨_,U.a1,y,_,_,rfl,?_⟩;simp only[kB,if_pos h];exact bw.mono y d
  .refine cl (Zf z C c k D x a (.ptr r 0) P (bw.mono y d) b h) ?_;rintro _ l ⟨m,n,q,rfl,s⟩;obtain⟨_,_,H,I⟩:=a6.qK (gv z C) D x a b.wf b.dM b.ok h;refine cl (Z9 _ n q l s a8Z) ?_;rintro p K ⟨t,u⟩;refine aa ?_;refine⟨_,U.a1,U.ar y (U.ar m t),_,_,rfl,?_⟩;simp only[kB,if_neg h];exact u
structure hg (d:Nat) (b:List Int×List Int):Prop where
 ok:cP b.1 b.2 d=true
 aU:cR b.1
 aV:cR b.2
theorem ll:cP q b6 e=true↔1<=e/\e<=8/\q.length=e/\b6.length=e/\ ∀a,a<e->q.getD a 0<=b6.getD a 0:=by unfold cP;grind
theorem El {b:Int->Int->Int} (h: ∀a c,b a c=a\/b a c=c) (k:cR q) (o:cR b6):cR (List.zipWith b q b6):=by intro a d;obtain⟨p,r,rfl⟩:=a5i d;grind[List.length_zipWith,List.getElem_mem]
theorem Em {a:Int->Int->Int} (b:e<q.length) (c:e<b6.length):(List.zipWith a q b6).getD e 0=a (q.getD e 0) (b6.getD e 0):=by grind
theorem xY {d h:List Int×List Int} (a:hg e d) (b:hg e h):hg e (cQ d h):=by
 have c:=ll.1 a.ok;have k:=ll.1 b.ok;unfold cQ;rw[c.2.2.1,k.2.2.1,if_pos a.ok,if_pos b.ok,if_pos rfl];refine⟨ll.2 ⟨c.1,c.2.1,by simp_all,by simp_all,λr x=> ?_⟩,?_,?_⟩;grind
 .exact El (λo p=>by omega) a.aU b.aU
 .exact El (λo p=>by omega) a.aV b.aV
theorem ps {a:List Int×List Int} (b:hg e a):cQ ([],[]) a=a:=by have c:=ll.1 b.ok;unfold cQ;have:cP ([]) [] ([]:List Int).length=false:=rfl;rw[if_neg (by rw[this];simp),c.2.2.1,if_pos b.ok]
def xZ (c:1<=e) (d:e<=8) (a:bL e q):hg e (gm q):=by have b:=a.len;unfold gm;rw[if_pos a8Z];exact⟨ll.2 ⟨c,d,b,b,λ_ _=>a8w _⟩,a.jR,a.jR⟩
structure mi (d:Nat) (n:Nat) (y:gL):Prop where
 live:y.live=n
 aO:(n=0/\y.aO=([],[]))\/(0<n/\hg d y.aO)
theorem En {h:Nat} (o:1<=h) (p:h<=8): ∀(b:List (List Int)) (c:Nat) (a:gL),(∀d∈b,bL h d)->mi h c a->mi h (c+b.length) ((b.map λd=>(d,true)).foldl dK a)
 | [],c,a,_,k=>by trivial
 |d::b,c,a,r,k=>by
  rw[a4U,a5C,a4C,show c+(b.length+1)=(c+1)+b.length by omega];refine En o p b (c+1) _ (λy z=>r y (by simp[z])) ?_;have C:=xZ o p (r d a9a);rw[dK,if_pos rfl];refine⟨by rw[show(({a with live:=a.live+1,aO:=cQ a.aO (gm d)}:gL)).live=a.live+1 from rfl,k.live];omega,.inr ⟨a8Z,?_⟩⟩;rcases k.aO with ⟨_,x⟩|⟨_,x⟩;grind[cQ,gm,ps]
  .exact xY x C
structure je (d n:Nat) (k:ay):Prop where
 sum:k.sum.length=32
 live:k.live=n
 size:k.size=n
 pos:1<=n
 aO:hg d (k.aU,k.aV)
 key:bL d k.key
def Eo {k:Nat}: ∀(a:List (ay×Nat)) (b:Nat) (d:gL),(∀c∈a,je k c.2 c.1)->mi k b d->mi k (b+(a.map Prod.snd).sum) ((a.map Prod.fst).foldl ep d)
 | [],b,d,_,o=>by trivial
 |(c,h)::a,b,d,y,o=>by
  have p:=y (c,h) a9a;simp only[a4U,a5C,a7E];rw[show b+(h+(a.map Prod.snd).sum)=(b+h)+(a.map Prod.snd).sum by omega];refine Eo a (b+h) _ (λz C=>y z (by simp[C])) ?_;have r:=p.aO;have D:=p.pos;refine⟨?_,.inr ⟨by have:1<=h:=D;omega,?_⟩⟩
  .show d.live+c.live= _;rw[o.live,p.live];push_cast;rfl
  .show hg k (cQ d.aO (c.aU,c.aV));rcases o.aO with ⟨_,x⟩|⟨_,x⟩
   .rw[x,ps r];exact r
   .exact xY x r
def c4:(a:Nat)->a6.T a->ay
 |0,b=>eS (dT (a6.rows b))
 |a+1,b=>eS (ej ((a6.kids b).map (c4 a)))
def dx:(a:Nat)->a6.T a->c3
 |0,b=>dT (a6.rows b)
 |a+1,b=>ej ((a6.kids b).map (c4 a))
def sF: ∀ {a:Nat}{b:a6.T a},c4 a b=eS (dx a b)
 |0,_=>rfl
 | _+1,_=>rfl
def Zh:dx 0 (a6.leaf Q)=dT Q:=rfl
def y0 {a:List (a6.T e)}:dx (e+1) (a6.node a)=ej (a.map (c4 e)):=rfl
structure eX (d h:Nat) (t:a6.T h):Prop where
 wf:a6.jM h t
 ok: ∀x∈a6.bh h t,bL d x
 dw:(a6.bh h t).length<=1048576
def GT.jS {b:a6.T e} (a:GT i e b):eX i e b:=⟨a.wf,a.ok,by have:=a.dw;omega⟩
theorem eX.hd {d:List (a6.T e)} (b:eX i (e+1) (a6.node d)): ∀a∈d,eX i e a/\a6.WF e a:=by obtain⟨z,C,p,D⟩:=b.wf;have c:=b.ok;have h:=b.dw;rw[a6.fY]at c h;intro a k;have o:=p a k;obtain⟨E,F,r⟩:=a7a k;rw[r,a5m,a4Y]at c h;exact⟨⟨a6.jM.of o,λx y=>c x (by simp[y]),by grind⟩,o⟩
def eX.ne {a:a6.T e} (b:eX i e a):a6.bh e a≠ []:=a6.xz b.wf.1 b.wf.2.2.1
structure y3 (d n:Nat) (x:c3):Prop where
 y4:x.In d
 kC:je d n (eS x)
 ov:fH d x=some (eS x)
variable{w j2:ay}
def je.ne (a:je e i w):w≠aA:=by rintro rfl;have:=a.size;have:=a.pos;simp[aA]at*;omega
theorem je.ok {b c:Nat}{d:ay} (a:je b c d) (h:c<=1048576):fw b d=true:=by have k:=a.size;have o:=a.live;have p:=a.pos;unfold fw;rw[decide_eq_false a.ne,a8N,a4A];refine⟨a9b,?_⟩;rw[if_neg a8Z];exact a.aO.ok
def je.kC (a:je e i w) (c:i<=1048576):w.In e:=by have d:=a.size;have h:=a.live;have k:=a.pos;have b:=ll.1 a.aO.ok;have o:w.aU.length=e:=b.2.2.1;have p:w.aV.length=e:=b.2.2.2.1;have r:=a.key.len;exact⟨a.sum,a.aO.aU,a.aO.aV,a.key.jR,a8Z,a8Z,a8Z,a8Z,a8Z,a8Z,a8Z⟩
theorem uy (o:1<=e) (p:e<=8) (c:1<=Q.length) (r:Q.length<=4) (b: ∀a∈Q,bL e a):y3 e Q.length (dT Q):=by
 have x:dS e (dT Q)=true:=by unfold dS dT;simp only[a8W,a4I,List.all_nil,a8M,a4G,decide_true,a4A,a4O,decide_eq_true_eq,Function.comp];refine⟨λa d=>(b a d).len,?_⟩;simp[c,r]
 have h:=En o p Q 0 ⟨0,(dT Q).rows.length,([],[])⟩ b ⟨rfl,.inl ⟨rfl,rfl⟩⟩;have y:eC (dT Q)=(Q.map λa=>(a,true)).foldl dK ⟨0,(dT Q).rows.length,([],[])⟩:=rfl;rw[<-y,a4W]at h;have z:(eC (dT Q)).size=Q.length:=by rw[xK];simp[dT]
 have C:hg e (eC (dT Q)).aO:=by
  rcases h.aO with ⟨k,_⟩|⟨_,k⟩
  .omega
  .exact k
 refine⟨⟨x,λa d=> ?_,λF G=>by trivial⟩,⟨ob _,h.live,z,c,C,?_⟩,?_⟩
 .obtain⟨D,E,rfl⟩:=a4R.1 d;exact(b D E).jR
 .show bL e (keyOf (dT Q))
  match Q,c with
  |a::Q,_=>exact b a a9a
 .unfold fH;grind
def Zi:(eS (dT Q)).key=Q.headD []:=by show keyOf (dT Q)= _;cases Q<;>rfl
theorem Zj {a:List (ay×Nat)} (o:2<=a.length) (z:a.length<=4) (c: ∀b∈a,je e b.2 b.1) (p:(a.map Prod.snd).sum=i) (L:i<=1048576):y3 e i (ej (a.map Prod.fst)):=by
 have r: ∀b∈a,b.2<=i:=λb c=>by
  rw[<-p];obtain⟨P,S,rfl⟩:=a7a c;simp;omega
 have C:dS e (ej (a.map Prod.fst))=true:=by unfold dS ej;simp only[a8W,a4I,List.all_nil,a5U,a4G,decide_true,a4A,a4O,Function.comp];refine⟨λb d=>(c b d).ok (by have:=r b d;omega),?_⟩;simp[o,z];exact λT V d=>⟨(c _ d).key.len,(c _ d).ne⟩
 have x:=Eo a 0 ⟨0,0,([],[])⟩ c ⟨rfl,.inl ⟨rfl,rfl⟩⟩;have D:eC (ej (a.map Prod.fst))=(a.map Prod.fst).foldl ep ⟨0,0,([],[])⟩:=rfl;rw[<-D,a4W,p]at x;have E:1<=i:=by
  match a,o with
  |b::a,_=>have:=(c b a9a).pos;have:=r b a9a;omega
 have F:(eC (ej (a.map Prod.fst))).size=i:=by
  rw[xK,<-p];have: ∀(a:List (ay×Nat)),(∀b∈a,je e b.2 b.1)->(((a.map Prod.fst).map (·.size)).sum:Int)=(((a.map Prod.snd).sum:Nat):Int):=by
   intro a
   induction a with
   |nil=>intro _;rfl
   |cons b a ih=>intro d;simp only[a4U,a7E];rw[ih λh k=>d h (by simp[k]),(d b a9a).size];push_cast;rfl
  simp only[ej,a4G];rw[this a c];simp
 have G:hg e (eC (ej (a.map Prod.fst))).aO:=by
  rcases x.aO with ⟨y,_⟩|⟨_,y⟩
  .omega
  .exact y
 refine⟨⟨C,λW f=>by trivial,λb d=> ?_⟩,⟨ob _,x.live,F,E,G,?_⟩,?_⟩
 .obtain⟨h,k,rfl⟩:=a4R.1 d;exact(c h k).kC (by have:=r h k;omega)
 .show bL e (keyOf (ej (a.map Prod.fst)))
  match a,o with
  |b::a,_=>exact(c b a9a).key
 .unfold fH;grind
def nq {r:Nat} (y:1<=r) (z:r<=8): ∀(a:Nat) (c:a6.T a),eX r a c->y3 r (a6.bh a c).length (dx a c)/\(c4 a c).key=a6.cM a c
 |0,c,d=>by
  obtain⟨E,rfl⟩:=a6.hX c;obtain⟨x,k,_⟩:=d.wf;rw[a6.hY]at x k;have C:=d.ok;rw[a6.ku]at C;exact⟨uy y z x k C,Zi⟩
 |a+1,c,d=>by
  obtain⟨h,rfl⟩:=a6.gp c;obtain⟨x,k,S,o⟩:=d.wf;rw[a6.dE]at x k o;have o:=o a8Z;have D:=d.hd;have F:=d.dw;have ih:=λb p=>nq y z a b (D b p).1;have G:(h.map λb=>(c4 a b,(a6.bh a b).length)).map Prod.fst=h.map (c4 a):=by rw[a6z];rfl
  have L:((h.map λb=>(c4 a b,(a6.bh a b).length)).map Prod.snd).sum=(a6.bh (a+1) (a6.node h)).length:=by rw[a6z,a6.fY,List.length_flatMap];rfl
  have:=Zj (by simpa using o) (by simpa using k) (λT P=>by
   obtain⟨b,p,rfl⟩:=a4R.1 P;simp only[sF];exact(ih b p).1.kC) L F
  rw[G]at this;refine⟨this,?_⟩
  match h,o with
  |b::h,_=>
   show(c4 a b).key= _;have p:=ih b a9a;rw[p.2];unfold a6.cM;rw[a6.fY,a4Y];have:=(D b a9a).1.ne;cases V:a6.bh a b with
   |nil=>trivial
   |cons W E=>rfl
def uz (b:1<=i) (c:i<=8) {a:a6.T e} (d:eX i e a):je i (a6.bh e a).length (c4 e a):=by rw[sF];exact(nq b c e a d).1.kC
def Zk (b:1<=i) (c:i<=8) {a:a6.T e} (d:eX i e a):(c4 e a).key=a6.cM e a:=(nq b c e a d).2
theorem eX.high {r:Nat}: ∀(a:Nat) (b:a6.T a),eX r a b->a+1<=(a6.bh a b).length
 |0,b,c=>by
  have:=c.ne;grind
 |a+1,b,c=>by
  obtain⟨h,rfl⟩:=a6.gp b;obtain⟨x,y,z,d⟩:=c.wf;rw[a6.dE]at x y d;have d:=d a8Z;have k:=c.hd
  match h,d with
  |o::p::h,_=>have C:=eX.high a o (k o a9a).1;have D:=eX.high a p (k p a9a).1;rw[a6.fY,a4Y,a4Y];simp only[a4y];omega
structure ag.le (a c:ag):Prop where
 m: ∀d b,a.m d=some b->c.m d=some b
 one:a.one=true->c.one=true
variable{H:ag}
theorem ag.le_refl:H.le H:=⟨λ_ _ a=>a,λa=>a⟩
theorem ag.le.trans {b c:ag} (d:H.le b) (h:b.le c):H.le c:=⟨λ_ _ a=>h.m _ _ (d.m _ _ a),λa=>h.one (d.one a)⟩
def ag.le.zero {a:ag} (c:H.le a) (b:a.one=false):H.one=false:=by
 cases d:H.one with
 |false=>rfl
 |true=>rw[c.one d]at b;cases b
theorem ln (b:ag) (c:List UInt8):b.le (eK b c):=by
 unfold eK;split
 .rename_i a;refine⟨λd h k=> ?_,λa=>a⟩;grind
 .split
  .exact⟨λ_ _ a=>a,λ_=>rfl⟩
  .exact ag.le_refl
variable{B:List UInt8}
theorem qL (a:(eK H B).one=false):(eK H B).m (eR B)=some B:=by unfold eK at a|-;grind
variable{b9:c3}
theorem qM (b:fH e b9=some (eS b9)) (a:ag):dv a e b9=(.ok (eS b9),eK a (cX b9)):=by unfold dv;rw[b]
def gw (c:ag):(b:Nat)->a6.T b->Prop
 |0,a=>c.m (c4 0 a).sum=some (cX (dx 0 a))
 |b+1,a=>c.m (c4 (b+1) a).sum=some (cX (dx (b+1) a))/\ ∀d∈a6.kids a,gw c b d
def gw.mono {c d:ag} (b:c.le d): ∀ {a:Nat}{h:a6.T a},gw c a h->gw d a h
 |0,_,a=>b.m _ _ a
 | _+1,_,a=>⟨b.m _ _ a.1,λk o=>gw.mono b (a.2 k o)⟩
def gw.Zl: ∀ {a:Nat}{b:a6.T a},gw H a b->H.m (c4 a b).sum=some (cX (dx a b))
 |0,_,a=>a
 | _+1,_,a=>a.1
def Ep {a:a6.T e}:(dx e a).kind=if e=0 then 2 else 3:=by cases e<;>rfl
def Zm (c:1<=i) (d:i<=8) {a:a6.T e} (h:eX i e a) (k:gw H e a):fk H i (c4 e a)=some (dx e a):=by have b:=(nq c d e a h).1;unfold fk;rw[k.Zl];simp only;rw[D0 a8Z b.y4];simp only;rw[b.ov,sF,if_pos rfl]
theorem qN (b:1<=i) (c:i<=8) {a:a6.T e} (d:eX i e a) (h:gw H e a):iC H i (c4 e a)=some (dx e a):=by simp_all [iC,Zm,Ep]
theorem y5 {r:Type}{b:List r->c3}{x:Nat}: ∀(gs:List (List r)) (c:ag) (h:List ay),(∀a∈gs,fH x (b a)=some (eS (b a)))->
  ∃d,et b x c gs h=(.ok (h++gs.map λa=>eS (b a)),d)/\c.le d/\(d.one=false-> ∀a∈gs,d.m (eR (cX (b a)))=some (cX (b a)))
 | [],c,h,_=>⟨c,by simp[et],ag.le_refl,λ_ a z=>by cases z⟩
 |a::gs,c,h,C=>by
  obtain⟨d,E,o,D⟩:=y5 gs (eK c (cX (b a))) (h++ [eS (b a)]) (λp k=>C p (by simp[k]));refine⟨d,?_,(ln _ _).trans o,λy p k=> ?_⟩;grind[et,qM]
  .rcases a4T.1 k with rfl|k
   .exact o.m _ _ (qL (o.zero y))
   .exact D y p k
structure Laid (a:ag) (h:Nat) (sc:List (a6.T h)) (r:Except Int (List ay)×ag):Prop where
 ok:r.1= .ok (sc.map (c4 h))
 le:a.le r.2
 ins:r.2.one=false-> ∀c∈sc,gw r.2 h c
def Er {a:a6.T e} (b:a6.WF e a) (c: ∀d∈a6.bh e a,bL i d) (h:(a6.bh e a).length<=1048576):eX i e a:=⟨a6.jM.of b,c,h⟩
theorem Es (o:1<=e) (p:e<=8) (h:ag) (a:List (List Int)) (r:1<=a.length) (L:a.length<=5) (x: ∀c∈a,bL e c):Laid h 0 ((a6.chunks a).map a6.leaf) (oo h e a):=by
 have k: ∀b∈a6.chunks a,1<=b.length/\b.length<=4/\ ∀c∈b,c∈a:=by
  by_cases y:a.length=5
  .rw[a6.sy y];grind
  .rw[a6.pk r a8Z];grind
 obtain⟨P,z,C,D⟩:=y5 (a6.chunks a) h [] (λb d=>(uy o p (k b d).1 (k b d).2.1 (λc E=>x c ((k b d).2.2 c E))).ov);unfold oo;rw[z];refine⟨?_,C,λF S G=> ?_⟩
 .rw[a4P,a6z];rfl
 .obtain⟨b,d,rfl⟩:=a4R.1 G;exact D F b d
theorem y6 (C:1<=i) (D:i<=8) (p:ag) (a:List (a6.T e)) (f:2<=a.length) (g:a.length<=5) (E: ∀d∈a,a6.WF e d) (j: ∀F∈a.flatMap (a6.bh e),bL i F) (l:(a.flatMap (a6.bh e)).length<=1048576)
  (G: ∀o,p.le o->o.one=false-> ∀d∈a,gw o e d):Laid p (e+1) ((a6.chunks a).map a6.node) (jN p i (a.map (c4 e))):=by
 have r: ∀b∈a6.chunks a,2<=b.length/\b.length<=4/\(∀d∈b,d∈a)/\(b.flatMap (a6.bh e)).length<=(a.flatMap (a6.bh e)).length:=by
  by_cases x:a.length=5
  .rw[a6.sy x];simp only[a4T,a5W,or_false,forall_eq_or_imp,forall_eq,a4z,a4N];have L:a.flatMap (a6.bh e)=(a.take 3).flatMap (a6.bh e)++(a.drop 3).flatMap (a6.bh e):=by rw[<-a5m,a5e]
   grind
  .rw[a6.pk a8Z a8Z];grind
 have P: ∀b∈a6.chunks a,eX i (e+1) (a6.node b):=λb h=>by
  obtain⟨m,n,d,L⟩:=r b h;refine Er (a6.gZ.2 ⟨by rw[a6.dE];omega,by rw[a6.dE];omega,λc k=>E c (d c k)⟩) (λc k=> ?_) (by rw[a6.fY];omega);grind[a6.fY]
 have S:a6.chunks (a.map (c4 e))=(a6.chunks a).map (List.map (c4 e)):=by by_cases x:a.length=5;simp_all [a6.sy];grind[a6.pk,c4]
 obtain⟨o,T,y,V⟩:=y5 (b:=ej) ((a6.chunks a).map (List.map (c4 e))) p [] (λb h=>by
  obtain⟨c,k,rfl⟩:=a4R.1 h;exact(nq C D (e+1) (a6.node c) (P c k)).1.ov)
 unfold jN;rw[S,T];refine⟨?_,y,λz d W=> ?_⟩
 .rw[a4P,a6z,a6z];rfl
 .obtain⟨b,h,rfl⟩:=a4R.1 W;exact⟨V z _ (a4R.2 ⟨b,h,rfl⟩),λc k=>G o y z c ((r b h).2.2.1 c k)⟩
theorem Et:mf q b6<0↔bC q b6=true:=by grind[mf]
theorem y7 (b:1<=e) (c:e<=8) (d:bL e q) (h:bL e b6):mf q b6=0↔q=b6:=by
 unfold mf;constructor
 .intro a;split at a
  .omega
  .rename_i k;split at a
   .omega
   .rename_i o;exact(gv b c).total q b6 d h (by simpa using k) (by simpa using o)
 .rintro rfl;rw[sE];simp
theorem y8 {y:Nat} (z:1<=y) (C:y<=8) {c:List (List Int)}{k:List Int} (E:a6.jc bC c) (r: ∀d∈c,bL y d) (D:bL y k): ∀(p h b:Nat),h<=b->b<=c.length->b - h<=p->
  (∀a d,c[a]? =some d->a<h->bC d k=true)->(∀a d,c[a]? =some d->b<=a->bC d k=false)->
  (∀a d,c[a]? =some d->a<mh c k p h b->bC d k=true)/\(∀a d,c[a]? =some d->mh c k p h b<=a->bC d k=false)/\mh c k p h b<=c.length
 |0,h,b,T,G,V,h1,L=>by
  obtain rfl:h=b:=a8Z;trivial
 |p+1,h,b,T,G,V,h1,L=>by
  rw[mh];by_cases W:h<b
  .rw[if_pos W];have hm:(h+b)/2<c.length:=a8Z;have e:=a4w hm;rw[e];simp only;have P:=a5X.1 E;have S:=r _ (a4Z hm);by_cases o:mf c[(h+b)/2] k<0
   .rw[if_pos o];have o:=Et.1 o;refine y8 z C E r D p _ _ a8Z G a8Z (λa d F f=> ?_) L;by_cases he:a=(h+b)/2;simp_all
    .obtain⟨x,rfl⟩:=a4E.1 F;exact(gv z C).trans _ _ _ (r _ (a4Z x)) S D (P a _ x hm a8Z) o
   .rw[if_neg o];have o:bC c[(h+b)/2] k=false:=by simp_all [absurd,Et]
    refine y8 z C E r D p _ _ a8Z a8Z a8Z h1 (λa d F f=> ?_);by_cases he:a=(h+b)/2;simp_all
    .obtain⟨x,rfl⟩:=a4E.1 F;cases g:bC c[a] k with
     |false=>rfl
     |true=>have:=(gv z C).trans _ _ _ S (r _ (a4Z x)) D (P _ a hm x a8Z) g;rw[this]at o;cases o
  grind
theorem Eu (c:1<=e) (d:e<=8) (h:a6.jc bC Q) (k: ∀a∈Q,bL e a) (o:bL e q):
  (∀b a,Q[b]? =some a->b<eW Q q->bC a q=true)/\(∀b a,Q[b]? =some a->eW Q q<=b->bC a q=false)/\eW Q q<=Q.length:=
 y8 c d h k o Q.length 0 Q.length a8Z (a5c _) a8Z (λb a _ p=>by omega) (λb a r p=>by
  simp_all)
theorem Zn (h:1<=e) (k:e<=8) (o:a6.jc bC Q) (p: ∀b∈Q,bL e b) (r:bL e q):Q.take (eW Q q)++q::Q.drop (eW Q q)=a6.dL bC Q q:=by
 obtain⟨D,x,E⟩:=Eu h k o p r;generalize eW Q q=a at*;have y: ∀b∈Q.take a,bC b q=true:=λb z=>by
  obtain⟨F,G,rfl⟩:=a5i z;grind
 conv=>rhs;rw[<-a5e a Q]
 rw[a6.xA y];congr 1;unfold a6.dL;cases C:Q.drop a with
 |nil=>rfl
 |cons c d=>
  have:Q[a]? =some c:=by have:=congrArg (λd=>d[0]?) C;simpa using this
  have:=x a c this (a5c _);simp[this]
theorem y9 (d:1<=e) (h:e<=8) (k:a6.jc bC Q) (r: ∀x∈Q,bL e x) (c:bL e q):kx Q q=decide (q∈Q):=by
 obtain⟨F,y,G⟩:=Eu d h k r c;unfold kx;by_cases o:q∈Q
 .obtain⟨a,hm,z⟩:=a5i o;have C:Q[a]? =some q:=by simp_all
  have D:=a5X.1 k;have E:a=eW Q q:=by
   rcases a8d a (eW Q q)with b|b|b;grind[sE]
   .exact b
   .have p:=D (eW Q q) a a8Z hm b;rw[z]at p;have:=y (eW Q q) _ (a4w a8Z) (a5c _);rw[p]at this;cases this
  rw[<-E,C,decide_eq_true o];simp only;rw[decide_eq_true];exact(y7 d h c c).2 rfl
 grind[decide_eq_false,eW,List.mem_of_getElem?,y7]
theorem Zo (d:1<=e) (h:e<=8) (p:a6.jc bC Q) (k: ∀b∈Q,bL e b) (o:bL e q) (r:q∈Q):Q.take (eW Q q)++Q.drop (eW Q q+1)=Q.filter λb=>decide (b≠q):=by
 have a:=y9 d h p k o;rw[decide_eq_true r]at a;unfold kx at a;generalize eW Q q=x at*;cases c:Q[x]? with
 |none=>rw[c]at a;cases a
 |some b=>rw[c]at a;simp only[decide_eq_true_eq]at a;obtain rfl:=(y7 d h (k b (a4D c)) o).1 a;have y:=a6.qJ c;grind[List.pairwise_cons,List.filter_cons_of_neg,a6.filter_none,sE]
def jT:H.le (dv H e b9).2:=by
 unfold dv;split
 .exact ag.le_refl
 .exact ln _ _
def ya {h:Type}{c:List h->c3}{d:Nat}: ∀(gs:List (List h)) (a:ag) (b:List ay),a.le (et c d a gs b).2
 | [],a,b=>ag.le_refl
 |k::gs,a,b=>by
  have o:=jT (H:=a) (e:=d) (b9:=c k);rw[et];generalize dv a d (c k)=p at*;obtain⟨r,x⟩:=p;cases r with
  |error z=>exact o
  |ok y=>exact o.trans (ya gs x (b++ [y]))
def Ev:H.le (oo H e Q).2:=ya _ _ _
def yb {a:List ay}:H.le (jN H e a).2:=ya _ _ _
def Ew {c:Nat}{b:List Int}: ∀(d:Nat) (a:ag) (h:ay),a.le (gr c b d a h).2
 |0,a,h=>ag.le_refl
 |d+1,a,h=>by
  rw[gr];cases iC a c h with
  |none=>exact ag.le_refl
  |some k=>
   simp only;by_cases o:k.kind=2
   .rw[if_pos o];by_cases p:kx (k.rows.map Prod.fst) b=true
    .rw[if_pos p];exact ag.le_refl
    .rw[if_neg p];exact Ev
   .rw[if_neg o];cases k.kids[hx b k]? with
    |none=>exact ag.le_refl
    |some r=>
     have x:=Ew (c:=c) (b:=b) d a r;simp only;generalize gr c b d a r=y at*;obtain⟨z,C⟩:=y;cases z with
     |error D=>exact x
     |ok E=>exact x.trans yb
def Ex {d:Nat}: ∀(h:Nat) (a:ag) (b:List ay),a.le (iD d h a b).2
 |0,a,b=>ag.le_refl
 |h+1,a,b=>by
  rw[iD];by_cases c:1<b.length
  .rw[if_pos c];have c:=yb (H:=a) (e:=d) (a:=b);generalize jN a d b=k at*;obtain⟨o,p⟩:=k;cases o with
   |error x=>exact c
   |ok r=>exact c.trans (Ex h p r)
  .rw[if_neg c];exact ag.le_refl
def Ey:H.le (jd e q H w).2:=by
 unfold jd;split
 .exact jT
 .have a:=Ew (c:=e) (b:=q) (w.size.toNat+1) H w;generalize gr e q (w.size.toNat+1) H w=b at*;obtain⟨c,d⟩:=b;cases c with
  |error h=>exact a
  |ok k=>exact a.trans (Ex _ _ _)
variable{I:Bool}
theorem Ez {a:List ay}:H.le (mg H e I Q a).2:=by unfold mg;split<;>exact jT
theorem join_le {a b:hZ}:H.le (ky H e a b).2:=by
 unfold ky;split
 .exact Ev
 .exact yb
theorem Zp {c:List ay}{a:hZ}:H.le (jQ H e c i a).2:=by
 unfold jQ;by_cases b:2<=a.rows.length+a.kids.length
 .rw[if_pos b];grind[Ez,mg]
 .rw[if_neg b];grind[ag.le_refl,iC,join_le,hc,ky]
def EA {d:Nat}{b:List Int}: ∀(k:Nat) (c:ag) (o:ay),c.le (ia d b k c o).2
 |0,c,o=>ag.le_refl
 |k+1,c,o=>by
  rw[ia];cases iC c d o with
  |none=>exact ag.le_refl
  |some a=>
   simp only;by_cases h:a.kind=2
   .rw[if_pos h];by_cases y:kx (a.rows.map Prod.fst) b=true
    .rw[if_pos y];exact ag.le_refl
    .rw[if_neg y];exact ag.le_refl
   .rw[if_neg h];cases a.kids[hx b a]? with
    |none=>exact ag.le_refl
    |some z=>
     have p:=EA (d:=d) (b:=b) k c z;simp only;generalize ia d b k c z=r at*;obtain⟨x,C⟩:=r;cases x with
     |error E=>exact p
     |ok D=>
      have h:=Zp (H:=C) (e:=d) (c:=a.kids) (i:=hx b a) (a:=D);simp only;generalize jQ C d a.kids (hx b a) D=r at*;obtain⟨x,F⟩:=r;cases x with
      |error E=>exact p.trans h
      |ok G=>exact p.trans h
theorem EB:H.le (lk e q H w).2:=by
 unfold lk;split
 .exact ag.le_refl
 .have a:=EA (d:=e) (b:=q) (w.size.toNat+1) H w;generalize ia e q (w.size.toNat+1) H w=b at*;obtain⟨c,d⟩:=b;cases c with
  |error h=>exact a
  |ok k=>
   simp only;split
   .exact a
   .split
    .exact a
    .exact a.trans Ez
def ic (a b:Int):Int:=if a<b then -1 else if b<a then 1 else 0
def fN:List Int->List Int->Int
 | [],[]=>0
 | [],_:: _=> -1
 | _:: _,[]=>1
 |a::c,b::d=>if ic a b=0 then fN c d else ic a b
def EC (b:Int) (a:U):AC Tryz.prog 269 [.v (.int .i64 b)] a λc d=>d=a/\c= .v (.bool false):=by
 refine aN hm QM ?_
 repeat' first|refine aG (λ_=> ?_) λ_=> ?_|trivial
def ED (b c:Int) (a:U):AC Tryz.prog 185 [.v (.int .i64 b),.v (.int .i64 c)] a λd h=>h=a/\d= .v (.int .i64 (ic b c)):=by
 refine aN hm OG ?_;refine bc (EC b a) ?_;refine bc (EC c a) ?_
 repeat' first|refine aG (λ_=> ?_) λ_=> ?_|trivial
 .rw[ic,if_pos ‹_›]
 .rw[ic,if_neg ‹_›,if_pos ‹_›]
 .rw[ic,if_neg ‹_›,if_neg ‹_›]
theorem drop_cons {a:List b0}{b:b0} (c:e<a.length):a.drop e=a.getD e b::a.drop (e+1):=by simp_all
theorem sG {a:List b0} (b:a.length<=e):a.drop e= []:=a5k b
theorem EE (b c:List Int) (h k:Own) (d:U) (y:b.length<=1000000000000):AC Tryz.prog 120 [.J (ad b) h,.J (ad c) k] d λo p=>p=d/\o= .v (.int .i64 (fN b c)):=by
 have z:=bH (q:=b);have C:=bH (q:=c);have D:= @dJ b;have E:= @dJ c;refine aN hm MH ?_;refine gJ [0,1,9,10] (λa:Nat=> [(11,.v (.int .i64 a))]) (λa=>a<=b.length/\a<=c.length/\fN b c=fN (b.drop a) (c.drop a)) (λa=>b.length - a) 0 ⟨a8Z,a8Z,rfl⟩ aR ?_;rintro a ⟨F,G,L⟩ P;refine aa ?_;refine aG (λr=> ?_) λr=> ?_
 .refine aG (λx=> ?_) λx=> ?_
  .rw[drop_cons (b:=0) a8Z,sG (a:=c) a8Z,fN]
  .have S:=drop_cons (a:=b) (b:=0) (e:=a) a8Z;have T:=drop_cons (a:=c) (b:=0) (e:=a) a8Z;refine bc (ED _ _ _) ?_;refine aG (λc2=> ?_) λc2=> ?_
   .rw[fN,if_neg c2]
   .rw[fN,if_pos a8Z];grind
 .repeat' first|refine aG (λ_=> ?_) λ_=> ?_|trivial
  .rw[sG a8Z,drop_cons (b:=0) a8Z,fN]
  grind[sG,fN]
def cH (a:Nat) (b c:List Int):Int:=if ic (b.getD a 0) (c.getD a 0)=0 then fN b c else ic (b.getD a 0) (c.getD a 0)
def EF (a b:List Int) (o p:Own) (c:Nat) (d:U) (h:Nat) (z:d.read h=some [.v (.int .i64 (c:Int))]) (C:c<a.length) (D:c<b.length) (r:a.length<=1000000000000):
  AC Tryz.prog 336 [.J (ad a) o,.J (ad b) p,.ptr h 0] d λx y=>y=d/\x= .v (.int .i64 (cH c a b)):=by
 have E:= @dJ a;have F:= @dJ b;refine aN hm S9 ?_;refine bc (ED _ _ _) ?_;refine aG (λk=> ?_) λk=> ?_
 .rw[cH,if_neg k]
 .refine bc (EE _ _ _ _ _ r) ?_;rw[cH,if_pos a8Z]
def EG (o a b:Nat) (y:0<a) (z:b<=1000000000000) (C:a<=8) (d:U):
  AC Tryz.prog 299 [dU o a,.v (.int .i64 (b:Int))] d λp h=>d.sub h/\ ∃c,h c=some (.cells [.v (.int .i64 ((b%a:Nat):Int))])/\d c=none/\p= .bG 336 [] [.ptr c 0]:=by
 have D:(b:Int).tmod (a:Int)=((b%a:Nat)):=rfl;have E: ¬(a:Int)=0:=a8Z;refine aN hm Rt ?_;refine bp λc r=> ?_;refine cW λx k F G=> ?_;refine⟨_,U.a1,?_,x,U.ah _ _ _,k,rfl⟩;exact U.af (U.af U.a1 r) k
def EH (c d:List Int) (h k:Own) (o a b:Nat) (p:0<a) (x:a<=8) (y:b<=1000000000000) (P:c.length=a) (S:d.length=a) (r:U):
  AC Tryz.prog 231 [dU o a,.J (ad c) h,.J (ad d) k,.v (.int .i64 (b:Int))] r λz C=>C=r/\z= .v (.int .i64 (if cH (b%a) c d<0 then 0 else 1)):=by
 have T:=a6A b p;refine aN hm PU ?_;refine bp λV D=> ?_;refine ai (EG o a b p y x _) ?_;rintro _ E ⟨F,G,L,_,rfl⟩;refine aa ?_;refine fF a9f (EF c d h k (b%a) E G (U.ae L) a8Z a8Z a8Z) ?_;rintro _ _ ⟨rfl,rfl⟩;refine aa ?_
 repeat' first|refine aG (λ_=> ?_) λ_=> ?_|trivial
 all_goals exact U.ar (U.af U.a1 D) F
structure ow where
 prev:List UInt8
 num:Int
 ops:List UInt8
 EI:List UInt8
 deriving DecidableEq
def ow.ok (a:ow):Prop:=a.prev.length=32/\a.ops.length=32/\a.EI.length=32
def Zq (a:List UInt8) (b:Int) (c d:List UInt8):List R:=a.map al++(.v (.int .i64 b)::(c.map al++d.map al))
def ow.C (a:ow):List R:=Zq a.prev a.num a.ops a.EI
def ow.V (a:ow):R:= .agg a.C
def ow.may (a:ow):Bool:=decide (0<=a.num)&&decide (a.num<=1099511627776)
theorem yc (a:List UInt8) (b:Nat) (c:b<a.length):(⟨a.toArray⟩:ByteArray).get! b=a[b]:=by simp[ByteArray.get!,c]
theorem EJ (a:List UInt8) (b:Nat) (c:b<a.length) (d:a[b].toNat<128):Utf8.decode ⟨a.toArray⟩ b=(a[b].toNat,1):=by simp[Utf8.decode,yc a b c,d]
theorem decode_high (b:List UInt8) (a:Nat) (E:a<b.length) (F:128<=b[a].toNat):
  128<=(Utf8.decode ⟨b.toArray⟩ a).1/\(Utf8.decode ⟨b.toArray⟩ a).1<=1114111/\1<=(Utf8.decode ⟨b.toArray⟩ a).2/\a+(Utf8.decode ⟨b.toArray⟩ a).2<=b.length/\
   ∀c,(r:c<b.length)->a<=c->c<a+(Utf8.decode ⟨b.toArray⟩ a).2->128<=b[c].toNat:=by
 have f: ∀c,(r:c<b.length)->a<=c->c<a+1->128<=b[c].toNat:=λc r G x=>by
  grind
 have h: ∀k,(a+k<b.length/\((⟨b.toArray⟩:ByteArray).get! (a+k)).toNat/64=2)-> ∃E:a+k<b.length,128<=b[a+k].toNat:=λk g=>by
  grind[yc]
 have S:=nV b;have T:((⟨b.toArray⟩:ByteArray).get! (a+0)).toNat=b[a].toNat:=by rw[a6w,yc b a E]
 have i:b[a].toNat<256:=b[a].toNat_lt;unfold Utf8.decode;simp only[T,S];rw[if_neg a8Z];have v: ∀z:Nat,Utf8.valid (z)=true->z<=1114111:=λz d=>by
  simp only[Utf8.valid,a6g,a4A,decide_eq_true_eq]at d;omega
 split
 .rename_i d;simp only[a4A,decide_eq_true_eq,beq_iff_eq]at d;obtain⟨L,o⟩:=d;obtain⟨P,y⟩:=h 1 o;split;grind;trivial
 .split
  .rename_i d;simp only[a4A,decide_eq_true_eq,beq_iff_eq]at d;obtain⟨⟨L,o⟩,C⟩:=d;obtain⟨P,y⟩:=h 1 o;obtain⟨V,D⟩:=h 2 C;split
   .rename_i p;simp only[a4A,decide_eq_true_eq]at p;refine⟨by simp only;omega,v _ p.2,a9a,a9b,λc r G x=> ?_⟩;rcases(by simp only at x;omega:c=a\/c=a+1\/c=a+2)with rfl|rfl|rfl
    .exact F
    .exact y
    .exact D
   trivial
  .split
   .rename_i d;simp only[a4A,decide_eq_true_eq,beq_iff_eq]at d;obtain⟨⟨⟨L,o⟩,C⟩,W⟩:=d;obtain⟨P,y⟩:=h 1 o;obtain⟨V,D⟩:=h 2 C;obtain⟨j,e⟩:=h 3 W;split
    .rename_i p;simp only[a4A,decide_eq_true_eq]at p;refine⟨by simp only;omega,v _ p.2,a9a,a9b,λc r G x=> ?_⟩;rcases(by simp only at x;omega:c=a\/c=a+1\/c=a+2\/c=a+3)with rfl|rfl|rfl|rfl
     .exact F
     .exact y
     .exact D
     .exact e
    trivial
   trivial
def fO (b:Nat) (a:Int):Bool:=(decide (97<=a)&&decide (a<=122))||(!decide (b=0)&&((decide (48<=a)&&decide (a<=57))||decide (a=95)))
def lo (b:ByteArray):Nat->Nat->Bool
 |0,_=>true
 |c+1,a=>if a<b.size then fO a (Utf8.decode b a).1&&lo b c (a+(Utf8.decode b a).2)else true
def jU (a:List UInt8):Bool:=lo ⟨a.toArray⟩ (a.length+1) 0&&decide (1<=a.length/\a.length<=16)
theorem Zr (a:List UInt8) (b:Nat) (c:b<a.length):1<=(Utf8.decode ⟨a.toArray⟩ b).2/\b+(Utf8.decode ⟨a.toArray⟩ b).2<=a.length/\(Utf8.decode ⟨a.toArray⟩ b).1<=1114111:=by grind[EJ,decode_high]
def sH:rY (bb B)=some (.v (.int .i64 B.length)):=wJ
theorem EK (a:List UInt8) (l:a.length<=1000000) (k:U):
  AC Tryz.prog 77 [bb a] k λe o=>o=k/\e= .v (.bool (jU a)):=by
 refine bd hm Lq a9a ?_;have f: ∀(L) (V),wP (bb a) k (bO L V)=iW k (bZ (λg=>L g ⟨a.toArray⟩) ()):=λL V=>C7;refine aE @f ?_;refine aM λr y=> ?_;refine eA ?_;refine cr (λP o=> ∃x b:Nat,b<=a.length/\a.length<x+b/\lo ⟨a.toArray⟩ x b=lo ⟨a.toArray⟩ (a.length+1) 0/\k.sub o/\o r=some (.it ⟨a.toArray⟩ b)/\P 0=bb a/\P 7= .ptr r 0)
  (λ_ o=>match o r with|some (.it _ b)=>a.length - b| _=>0) ⟨a.length+1,0,a8Z,a8Z,rfl,U.af U.a1 y,U.ah _ _ _,?_⟩ ?_
 .exact qn
 .rintro P o ⟨x,b,m,n,z,C,S,p,h⟩;refine aE @h ?_;by_cases D:b<a.length
  .obtain⟨x,rfl⟩: ∃i,x=i+1:=⟨x - 1,a8Z⟩;obtain⟨q,s,t⟩:=Zr a b D;have j:=nV a;rw[lo,if_pos (by rw[j];exact D)]at z;refine VF S D ?_;generalize (Utf8.decode ⟨a.toArray⟩ b).1=c at*;generalize (Utf8.decode ⟨a.toArray⟩ b).2=E at*;have F (d:fO b c=false):jU a=false:=by rw[d,a6N]at z;rw[jU,<-z];rfl
   have u (d:fO b c=true):(∃W G:Nat,G<=a.length/\a.length<W+G/\lo ⟨a.toArray⟩ W G=lo ⟨a.toArray⟩ (a.length+1) 0/\k.sub (o.set r (.it ⟨a.toArray⟩ (b+E)))/\(o.set r (.it ⟨a.toArray⟩ (b+E))) r=some (.it ⟨a.toArray⟩ G)):=by rw[d,a5U]at z;grind[U.af,U.ah]
   have T:((b:Int)=0)=(b=0):=a9a;have v:(match o r with|some (.it _ b)=>a.length - b| _=>0)=a.length - b:=by rw[S]
   have w:(match(o.set r (.it ⟨a.toArray⟩ (b+E))) r with|some (.it _ b)=>a.length - b| _=>0)=a.length -(b+E):=by rw[U.ah]
   have A:a.length -(b+E)<a.length - b:=a8Z;by_cases jf:(97)<=(c:Int)
   .by_cases a2:(c:Int)<=122
    .have d:fO b c=true:=by simp[fO,jf,a2]
     refine aE (aI @p @h @jf @a2) ?_;simp_all
    .by_cases a0:(b:Int)=0
     .have d:fO b c=false:=by simp[fO,a2];omega
      refine aE (bm @p @h @jf @a2 @a0) ?_;exact⟨k,U.af C y,rfl,by rw[F d]⟩
     .have d:fO b c=false:=by simp[fO,a2];omega
      have a3: ¬(c:Int)<48:=a8Z;have a4:(57:Int)<c:=a8Z;have a5: ¬(c:Int)=95:=a8Z;refine aE (bt @p @h @jf @a2 @a0 @a3 @a4 @a5) ?_;exact⟨k,U.af C y,rfl,by rw[F d]⟩
   .by_cases a0:(b:Int)=0
    .have d:fO b c=false:=by simp[fO,jf];omega
     refine aE (aI @p @h @jf @a0) ?_;exact⟨k,U.af C y,rfl,by rw[F d]⟩
    .have T: ¬b=0:=a8Z;by_cases a3:(c:Int)<48
     .have d:fO b c=false:=by simp[fO,jf];omega
      have a5: ¬(c:Int)=95:=a8Z;refine aE (bs @p @h @jf @a0 @a3 @a5) ?_;exact⟨k,U.af C y,rfl,by rw[F d]⟩
     .by_cases a4:(57:Int)<c
      .by_cases a5:(c:Int)=95
       .have d:fO b c=true:=by simp[fO,a5,T]
        refine aE (c6 @p @h @jf @a0 @a3 @a4 @a5) ?_;simp_all
       .have d:fO b c=false:=by simp[fO,jf,a5];omega
        refine aE (c6 @p @h @jf @a0 @a3 @a4 @a5) ?_;exact⟨k,U.af C y,rfl,by rw[F d]⟩
      .have d:fO b c=true:=by simp[fO,jf,T];omega
       refine aE (bs @p @h @jf @a0 @a3 @a4) ?_;simp_all
  .have B:jU a=decide (1<=a.length/\a.length<=16):=by
    have:lo ⟨a.toArray⟩ x b=true:=by
     cases x with
     |zero=>rfl
     |succ x=>rw[lo,if_neg (by rw[nV];exact D)]
    rw[jU,<-z,this,a5U]
   refine VG S D ?_;by_cases d1:(1:Int)<=a.length
   .by_cases d2:(a.length:Int)<=16
    .refine aE (bm @p @h @sH @d1 @d2) ?_;grind
    .refine aE (bm @p @h @sH @d1 @d2) ?_;grind
   .refine aE (aI @p @h @sH @d1) ?_;grind
def bE (a:List (List UInt8)):List R:=a.map bb
def hz {a:List (List UInt8)}:(bE a).length=a.length:=by simp[bE]
def pt {a:List (List UInt8)}{b:Nat} (c:b<a.length):(bE a)[b]? =some (bb (a.getD b [])):=by simp[bE,c]
def yd:ez 1 (some (bb B))=some (.bV [bb B]):=rfl
theorem Zs (a:List (List UInt8)) (C:Own) (h:List UInt8) (T:a.length<=1000000) (d:U):
  AC Tryz.prog 224 [.J (bE a) C,bb h] d λF o=>o=d/\ ∃k:Int,F= .v (.int .i64 k)/\decide (0<=k)=decide (h∈a):=by
 refine bd hm PI a9a ?_;have G:=hz (a:=a);refine aE @G ?_;refine cr (λc o=> ∃b:Nat,b<=a.length/\o=d/\h∉a.take b/\c 0= .J (bE a) C/\c 1=bb h/\c 7= .v (.int .i64 a.length)/\c 8= .v (.int .i64 b))
  (λc _=>match c 8 with| .v (.int _ k)=>(a.length - k).toNat| _=>0) ⟨0,a8Z,rfl,a9a,?_⟩ ?_
 .exact qn
 .rintro c d ⟨b,V,rfl,W,p,r,x,y⟩;by_cases z:(b:Int)<a.length
  .have L:b<a.length:=a8Z;have D:=pt L;have P:a.getD b []∈a:=by simp_all
   have e:a.take (b+1)=a.take b++ [a.getD b []]:=by simp_all
   generalize a.getD b []=S at*;by_cases E:h=S
   .refine aE (cV @p @r @x @y @z @hJ @D @yd @E) ?_;refine⟨d,U.a1,rfl,b,rfl,?_⟩;simp[P]
   .refine aE (cV @p @r @x @y @z @hJ @D @yd @E) ?_;grind
  .obtain rfl:b=a.length:=a8Z;refine aE (bm @p @r @x @y @z) ?_;refine⟨d,U.a1,rfl,-1,rfl,?_⟩;simp_all
def Zt (b:List (List UInt8)) (d:Own) (c:List UInt8) (h:b.length<=1000000) (a:U):
  AC Tryz.prog 146 [.J (bE b) d,bb c] a λk o=>o=a/\k= .v (.bool (decide (c∈b))):=by
 refine bd hm Nr a9a ?_;refine eA ?_;refine ai (Zs b d c h a) ?_;rintro _ a ⟨rfl,r,rfl,p⟩;refine aE @p ?_
 all_goals exact⟨a,U.a1,rfl⟩
def mj (a:List (List UInt8)) (b:Nat):Bool:=jU (a.getD b [])&&(!decide (a.getD b []= [105,100])&& !decide (a.getD b []∈a.take b))
def nr (a:List (List UInt8)):Bool:=(List.range a.length).all (mj a)&&decide (1<=a.length/\a.length<=7)
theorem ye {a:List (List UInt8)} (b:e<a.length) (c:mj a e=false):nr a=false:=by grind[nr,Bool.and_eq_false_iff,List.all_eq_false]
theorem Zu {a:List (List UInt8)} (c: ∀b,b<a.length->mj a b=true):nr a=decide (1<=a.length/\a.length<=7):=by
 have:(List.range a.length).all (mj a)=true:=by simp_all
 rw[nr,this,a5U]
theorem Zv (a:List (List UInt8)) (x:Own) (n:a.length<=1000000) (V: ∀W∈a,W.length<=1000000) (c:U):
  AC Tryz.prog 78 [.J (bE a) x] c λe E=>E=c/\e= .v (.bool (nr a)):=by
 refine bd hm Ls a9a ?_;have y:=hz (a:=a);refine aE @y ?_;refine cr (λr E=> ∃b:Nat,b<=a.length/\E=c/\(∀z,z<b->mj a z=true)/\r 0= .J (bE a) x/\r 5= .J (bE a) x/\r 6= .v (.int .i64 a.length)/\r 7= .v (.int .i64 b))
  (λr _=>match r 7 with| .v (.int _ f)=>(a.length - f).toNat| _=>0) ⟨0,a8Z,rfl,λz g=>by omega,?_⟩ ?_
 .exact qn
 .rintro r c ⟨b,q,rfl,i,h,k,o,p⟩;by_cases C:(b:Int)<a.length
  .have D:b<a.length:=a8Z;have j:=pt D;have l:a.getD b []∈a:=by simp_all
   have P:mj a b=(jU (a.getD b [])&&(!decide (a.getD b []= [105,100])&& !decide (a.getD b []∈a.take b))):=rfl;generalize a.getD b []=d at*;refine aE (bt @h @k @o @p @C @hJ @j @yd) ?_;refine ai (EK d (V d l) c) ?_;rintro _ c ⟨rfl,rfl⟩;cases S:jU d
   .refine aE (aI @h @k @o @p) ?_;exact⟨c,U.a1,rfl,by rw[ye D (by rw[P,S];rfl)]⟩
   .have s:(bE a).take b=bE (a.take b):=by simp[bE]
    by_cases F:d= [105,100]
    .have G:iX .eql (bb d) (.v (.string ⟨#[105,100]⟩))=some (.v (.bool true)):=by have:=ql (a:=d) (b:= [105,100]);rw[decide_eq_true F]at this;exact this
     refine aE (bm @h @k @o @p @G) ?_;exact⟨c,U.a1,rfl,by rw[ye D (by rw[P,S,decide_eq_true F];rfl)]⟩
    .have G:iX .eql (bb d) (.v (.string ⟨#[105,100]⟩))=some (.v (.bool false)):=by have:=ql (a:=d) (b:= [105,100]);rw[decide_eq_false F]at this;exact this
     have m:dI 1 (.J (bE a) x) none (some (.v (.int .i64 (b))))=some (.J (bE (a.take b)) .any):=by grind[nU,aS,bE,bb,R.cells,Int.toNat_natCast]
     refine aE (bs @h @k @o @p @G @m) ?_;refine ai (Zt (a.take b) _ d (by rw[a4z];omega) c) ?_;rintro _ c ⟨rfl,rfl⟩;by_cases T:d∈a.take b
     .refine aE (bm @h @k @o @p @T) ?_;exact⟨c,U.a1,rfl,by rw[ye D (by simp_all)]⟩
     .refine aE (bm @h @k @o @p @T) ?_;refine⟨⟨b+1,a8Z,λz g=> ?_,a9a⟩,a8Z⟩;grind
  .obtain rfl:b=a.length:=a8Z;have L:=Zu i;by_cases d1:(1:Int)<=a.length
   .by_cases d2:(a.length:Int)<=7
    .refine aE (bt @h @k @o @p @C @y @d1 @d2) ?_;exact⟨c,U.a1,rfl,by rw[L];simp;omega⟩
    .refine aE (bt @h @k @o @p @C @y @d1 @d2) ?_;exact⟨c,U.a1,rfl,by rw[L];simp;omega⟩
   .refine aE (c6 @h @k @o @p @C @y @d1) ?_;exact⟨c,U.a1,rfl,by rw[L];simp;omega⟩
structure cw where
 kind:UInt8
 table:List UInt8
 aD:List (List UInt8)
 row:List Int
structure cN where
 d:cw
 gu:Own
 dm:Own
def cN.C (a:cN):List R:= [al a.d.kind,bb a.d.table,.J (bE a.d.aD) a.gu,.J (ad a.d.row) a.dm]
def cN.V (a:cN):R:= .agg a.C
def cN.Zw {a:cN}:a.C.length=4:=rfl
def cN.m1 {a:cN}:aX false 1 (a.C.drop 1)=bb a.d.table:=rfl
def cN.m2 {a:cN}:aX false 1 (a.C.drop 2)= .J (bE a.d.aD) a.gu:=rfl
def cN.m3 {a:cN}:aX false 1 (a.C.drop 3)= .J (ad a.d.row) a.dm:=rfl
def cw.ok (a:cw):Prop:=a.table.length<=16/\a.aD.length<=8/\(∀b∈a.aD,b.length<=16)/\a.row.length<=255
def eu (a:cw):Bool:=jU a.table&&
  (if a.kind.toNat=1 then nr a.aD&&decide (a.row.length=0)
   else if a.kind.toNat=2 then decide (a.aD.length=0)&&decide (a.row.length=0)
   else if a.kind.toNat=3\/a.kind.toNat=4 then decide (a.aD.length=0)&&(decide (2<=a.row.length)&&decide (a.row.length<=8))
   else false)
structure cw.Fit (d:cw):Prop where
 t:d.table.length<=1000000
 c:d.aD.length<=1000000
 cs: ∀c∈d.aD,c.length<=1000000
 r:d.row.length<=1000000
def EL (a:cN) (k:a.d.Fit) (b:U):
  AC Tryz.prog 46 [a.V] b λo p=>p=b/\o= .v (.bool (eu a.d)):=by
 obtain⟨⟨r,d,c,h⟩,x,y⟩:=a;obtain⟨z,C,D,G⟩:=k;have L:=hz (a:=c);have P:=bH (q:=h);show AC _ _ [.agg [al r,bb d,.J (bE c) x,.J (ad h) y]] b _;refine aN hm KE ?_;refine bp λS T=> ?_;refine bc (EK d z _) ?_;refine aG (λE=> ?_) λE=> ?_
 .rw[eu];exact aO
 refine aG (λF=> ?_) λF=> ?_
 .refine bc (Zv c _ C D _) ?_
  repeat' first|refine aG (λ_=> ?_) λ_=> ?_|trivial
  all_goals (rw[eu];exact aO)
 repeat' first|refine aG (λ_=> ?_) λ_=> ?_|trivial
 all_goals (rw[eu];exact aO)
def Zx (a b c d:List Int) (k o p r:Own) (h:U) (C:a.length<=1000000000000) (D:b.length<=1000000000000):
  AC Tryz.prog 167 [er a b k o,er c d p r] h λx y=>y=h/\x= .v (.bool (decide (a=c)&&decide (b=d))):=by
 refine aN hm O7 ?_;refine bp λE F=> ?_;refine cW λG L P S=> ?_;refine bc (nn _ _ _ _ _ a8Z) ?_;refine aG (λz=> ?_) λz=> ?_
 .refine bc (nn _ _ _ _ _ a8Z) trivial
 trivial
def ns (b:Nat) (a:UInt8):Bool:=(decide (97<=a.toNat)&&decide (a.toNat<=122))||(!decide (b=0)&&((decide (48<=a.toNat)&&decide (a.toNat<=57))||decide (a.toNat=95)))
def nt (a:List UInt8):Bool:=(List.range a.length).all (λb=>ns b (a.getD b 0))&&(decide (0<a.length)&&decide (a.length<17))
def EM (a:List UInt8) (d:U) (y:a.length<=1000000):
  AC Tryz.prog 88 [bb a] d λp h=>h=d/\p= .v (.bool (nt a)):=by
 refine aN hm LN ?_;refine ch [0] (λb:Nat=> [(3,.v (.int .i64 b))]) (λb h=>h=d/\b<=a.length/\ ∀c<b,ns c (a.getD c 0)=true) (λb=>a.length - b) 0 ?_ ?_
 .refine aa ?_;simp
 rintro b _ ⟨rfl,z,k⟩ C;refine aa ?_;refine aG (λr=> ?_) λr=> ?_
 .have x:ns b (a.getD b 0)=false->nt a=false:=λo=>by rw[nt,s6 a8Z o];rfl
  repeat' first|refine aG (λ_=> ?_) λ_=> ?_|trivial
  all_goals first
   |omega
   |(rw[x (by rw[ns];exact qp)])
   |exact⟨b+1,⟨a8Z,upto k (by rw[ns];exact qp)⟩,rfl,a8Z⟩
 have D:nt a=(decide (0<a.length)&&decide (a.length<17)):=by rw[nt,s7 λc o=>k c a8Z];rfl
 repeat' first|refine aG (λ_=> ?_) λ_=> ?_|trivial
 all_goals exact aO
def lp (a:List (List UInt8)) (b:Nat):Bool:=nt (a.getD b [])&&(!decide (a.getD b []= [105,100])&&(List.range b).all λc=> !decide (a.getD c []=a.getD b []))
def yf (a:List (List UInt8)):Bool:=(List.range a.length).all (lp a)
def ox (a:cw):Bool:=nt a.table&&
  (if a.kind.toNat=1 then yf a.aD&&(decide (0<a.aD.length)&&(decide (a.aD.length<8)&&decide (a.row.length=0)))
   else if a.kind.toNat=2 then decide (a.aD.length+a.row.length=0)
   else(decide (a.kind.toNat=3)||decide (a.kind.toNat=4))&&(decide (a.aD.length=0)&&(decide (1<a.row.length)&&decide (a.row.length<9))))
theorem Zy (h:cN) (E:h.d.Fit) (k:U):
  AC Tryz.prog 51 [h.V] k λF G=>G=k/\F= .v (.bool (ox h.d)):=by
 obtain⟨⟨x,o,b,p⟩,L,P⟩:=h;obtain⟨y,S,z,T⟩:=E
 dsimp only at y S z T|-
 have l:=hz (a:=b);have m:=bH (q:=p);show AC _ _ [.agg [.v (.int .u8 x.toNat),bb o,.J (bE b) L,.J (ad p) P]] k _;refine aN hm KO ?_;refine bp λn q=> ?_;refine bc (EM o _ y) ?_;refine aG (λV=> ?_) λV=> ?_
 .rw[ox];exact aO
 refine aG (λW=> ?_) λW=> ?_
 .have s:yf b=(List.range b.length).all (lp b):=rfl;have t:= @pt b;have u: ∀r,iX .eql (bb r) (.v (.string ⟨#[105,100]⟩))=some (.v (.bool (decide (r= [105,100])))):=λr=>ql;have e: ∀a,a<b.length->(b.getD a []).length<=1000000:=λa f=>z _ (by simp_all);refine gJ [1] (λa:Nat=> [(3,.v (.int .i64 a))]) (λa=>a<=b.length/\ ∀d<a,lp b d=true) (λa=>b.length - a) 0 ⟨a8Z,λd C=>by omega⟩ (aR) ?_;rintro a ⟨f,g⟩ i;refine aa ?_;refine aG (λc2=> ?_) λc2=> ?_
  .have D:lp b a=false->ox ⟨x,o,b,p⟩=false:=λC=>by grind[ox,s6]
   refine bc (EM _ _ (e a a8Z)) ?_
   repeat' first|refine aG (λ_=> ?_) λ_=> ?_|trivial
   .exact aP (D (by rw[lp];simp_all)).symm
   .refine gJ [1,3] (λc:Nat=> [(4,.v (.int .i64 c))]) (λc=>c<=a/\ ∀d<c,b.getD d []≠b.getD a []) (λc=>a - c) 0 ⟨a8Z,λd C=>by omega⟩ (aR) ?_;rintro c ⟨v,j⟩ i;refine aa ?_;refine aG (λaH=> ?_) λaH=> ?_
    .refine aG (λaI=> ?_) λaI=> ?_;grind[aP,lp,s6]
     .exact⟨c+1,⟨a8Z,upto j aI⟩,rfl,a8Z⟩
    .refine⟨a+1,⟨a8Z,upto g ?_⟩,rfl,a8Z⟩;grind[lp,s7]
   .exact aP (D (by rw[lp];simp_all)).symm
  repeat' first|refine aG (λ_=> ?_) λ_=> ?_|trivial
  all_goals grind[ox,s7,aO]
 repeat' first|refine aG (λ_=> ?_) λ_=> ?_|trivial
 all_goals (rw[ox];exact aO)
theorem Zz (b a:Nat) (h:b<18446744073709551616) (k:0<a):bn .quo (.int .u64 b) (.int .u64 (a:Int))=some (.int .u64 ((b/a:Nat):Int)):=by have c:bn .quo (.int .u64 b) (.int .u64 (a))=(if(a:Int)=0 then none else some (.int .u64 (IntKind.u64.wrap ((b:Int).tdiv (a:Int))))):=rfl;have d:((b:Int).tdiv (a:Int))=((b/a:Nat)):=rfl;have o:=a7t b a;rw[c,if_neg a8Z,d];grind[wrap_u64]
def yg (b a:Nat) (d:0<a):bn .rem (.int .u64 b) (.int .u64 (a:Int))=some (.int .u64 ((b%a:Nat):Int)):=by have c:bn .rem (.int .u64 b) (.int .u64 (a))=(if(a:Int)=0 then none else some (.int .u64 ((b:Int).tmod (a:Int)))):=rfl;rw[c,if_neg a8Z];rfl
variable{n b3:R}{s a7:R -> U -> Prop}{f t e4:U}
theorem qO {c:List UInt8}{k:cy s} (r:au t f 1 (c.map al) n) (a:bN f 1 b3=some (e,B.map al)) (x:c.length+B.length<=70368744177664)
  (y: ∀d h,au t h 1 ((c++B).map al) d->s d h):jG 1 1 f n b3 (bO s k):=by
 have z:B.length=e:=by
  unfold bN at a;split at a
  .split at a
   .rename_i C _ D;simp only[a4H,a5G]at a;have b:=congrArg List.length a.2;rw[db (d:=1) (by simp_all)]at b;simp at b;omega
   .cases a
  .split at a
   .split at a
    .rename_i o _ p;simp only[a4H,a5G]at a;have b:=congrArg List.length a.2;simp at b;omega
    .cases a
   .cases a
  .split at a
   .split at a
    .rename_i o _ p;simp only[a4H,a5G]at a;have b:=congrArg List.length a.2;simp at b;omega
    .cases a
   .cases a
  .cases a
 grind[fg]
end Go.Proofs.YtlgnfcaolejgeaaGreat
namespace Go.bx
open Go
theorem ZA (a:Nat) (c:a<18446744073709551616):a^^^9223372036854775808=(a+9223372036854775808)%18446744073709551616:=by
 have h:(9223372036854775808)=2^63:=a9d;have d:(18446744073709551616)=2^64:=a9d;rw[d]at c;rw[h,d];apply a6U;intro b;rw[a7Q,a8Q,a8q,a8i];by_cases h1:b<63
 .rw[a8a h1];grind
 .by_cases k:b=63;grind
  .have o: ¬b<64:=a8Z;have p:a.testBit b=false:=a6y (a5J c (a6j a8Z a8Z));grind
end Go.bx
namespace Go.Proofs.YtlgnfcaolejgeaaGreat
open Go Go.bx
theorem ZB (a:Int):IntKind.u64.wrap (IntKind.u64.wrap a+9223372036854775808)=(ck a:Int):=by grind[kp,BitVec.ofInt,BitVec.toNat_ofInt,ck,BitVec.toNat_xor,ZA]
theorem ZC (b:Int) (k:U):
  AC Tryz.prog 193 [.v (.int .i64 b)] k λE h=>au k h 1 ((hR b).map al) E:=by
 refine bd hm OW a9a ?_;refine aE (aH @ZB @aZ @ba) ?_;have F:ck b<18446744073709551616:=(BitVec.ofInt 64 b^^^BitVec.ofInt 64 9223372036854775808).isLt;have G:hR b=cF (ck b):=rfl;rw[G];generalize ck b=c at*;refine wM (e:=8) a8Z a8Z λo p=> ?_;refine aE (c2 @aZ @ba) ?_;refine cr (λd h=> ∃a:Nat,a<=8/\h=k.set o (.cells (List.replicate (8 - a) (al 0)++((cF c).drop (8 - a)).map al))/\d 4= .an o 8 8 1/\d 3= .v (.int .u64 ((c/256^a:Nat)))/\d 5= .v (.int .i64 (7 -(a))))
  (λd _=>match d 5 with| .v (.int _ b)=>(b+8).toNat| _=>0) ⟨0,a8Z,?_⟩ ?_
 .refine aE (c2 @aZ @ba) ?_
  try (simp;try rfl)
 .rintro d h ⟨a,T,rfl,r,x,y⟩;by_cases z:(0)<=7 -(a:Int)
  .have L:c/256^a<18446744073709551616:=Nat.lt_of_le_of_lt (a7t _ _) F;have C:=Zz (c/256^a) 256 L a8Z;have D:=yg (c/256^a) 256 a8Z;have P:((256:Nat):Int)=256:=rfl;rw[P]at C D;have S:(List.replicate (8 - a) (al 0)++((cF c).drop (8 - a)).map al).length=8:=by
    have:(cF c).length=8:=rfl;simp[this]
    try omega
   refine aE (cf @x @r @y @z @C @D @iq @S @aZ @ba) ?_;refine⟨⟨a+1,a8Z,?_,?_,by(congr 2;try omega)⟩,a8Z⟩
   .congr 2;have yh:UInt8.ofNat (c/256^a%256)=UInt8.ofNat (c>>>(8*a)):=by grind[UInt8.toNat_inj,UInt8.toNat_ofNat',Nat.shiftRight_eq_div_pow,Nat.pow_mul]
    rw[yh];rcases(by omega:a=0\/a=1\/a=2\/a=3\/a=4\/a=5\/a=6\/a=7)with rfl|rfl|rfl|rfl|rfl|rfl|rfl|rfl<;>rfl
   .rw[Nat.div_div_eq_div_mul,<-a8k]
  .obtain rfl:a=8:=a8Z;refine aE (bs @x @r @y @z @aZ @ba) ?_;refine⟨_,U.a1,U.af U.a1 p,.inr ⟨o,8,8,_,rfl,p,U.ah _ _ _,rfl,rfl,rfl,a8Z,a9d⟩⟩
def ZD (b:Bool) (d:U):
  AC Tryz.prog 257 [.v (.bool b)] d λh k=>au d k 1 ([if b then(1:UInt8)else 0].map al) h:=by
 refine bd hm QI a9a ?_;cases b
 .refine aE (c2 @aZ @ba) ?_;refine eP (by simp[aS,R.cells]) a9a λc a=> ?_;refine aE (c2 @aZ @ba) ?_;exact⟨_,U.a1,U.af U.a1 a,.inr ⟨c,1,1,_,rfl,a,U.ah _ _ _,rfl,rfl,rfl,a8Z,a9d⟩⟩
 .refine aE (c2 @aZ @ba) ?_;refine eP (by simp[aS,R.cells]) a9a λc a=> ?_;refine aE (c2 @aZ @ba) ?_;exact⟨_,U.a1,U.af U.a1 a,.inr ⟨c,1,1,_,rfl,a,U.ah _ _ _,rfl,rfl,rfl,a8Z,a9d⟩⟩
structure yi where
 o:ix
 st:Int
 xi:Bool
 a:ix
 b:ix
def yi.ok (a:yi):Prop:=a.o.ok/\a.a.ok/\a.b.ok
section
variable {F:yi} (h:F.ok)
include h
end
def EN (b:Nat) (d:U) (r:b<=1000000000000):AC Tryz.prog 125 [.v (.int .i64 (b:Int))] d λk h=>fG d h (fj b) k:=by
 have x: ∀a:Nat,(a:Int).tdiv 65536=((a/65536:Nat)):=λ_=>rfl;have y: ∀a:Nat,(a:Int).tdiv 256=((a/256:Nat)):=λ_=>rfl;have z: ∀a:Nat,(a:Int).tmod 256=((a%256:Nat)):=λ_=>rfl;have C:=λa=>iq a;refine aN hm MN ?_;have o:fj b= [UInt8.ofNat (b/65536%256),UInt8.ofNat (b/256%256),UInt8.ofNat (b%256)]:=by have a: ∀c,UInt8.ofNat (c%256)=UInt8.ofNat c:=λc=>a5s.1 a9a;simp only[fj,a5v,a]
 rw[o];refine tU [_,_,_] (λD h p _=> ?_);exact⟨_,U.a1,p⟩
theorem uA (a:List Int) (p:Own) (k:U) (D:a.length<=1000000):AC Tryz.prog 126 [.J (ad a) p] k λd o=>fG k o (du a) d:=by
 have E:=λr=>iq r;have F:=bH (q:=a);refine aN hm MP ?_;refine tU [UInt8.ofNat a.length] (λd G L _=> ?_);refine ch [0] (λb:Nat×R=> [(4,.v (.int .i64 b.1)),(3,b.2)]) (λb o=>b.1<=a.length/\fG k o (UInt8.ofNat a.length::(a.take b.1).flatMap hR) b.2) (λb=>a.length - b.1) (0,d) ⟨⟨a8Z,by trivial⟩,aR⟩ ?_;rintro⟨c,d⟩ P ⟨x,h⟩ S
 dsimp only at x h|-
 have T:= @dJ a;refine aa ?_;refine aG (λy=> ?_) λy=> ?_
 .refine hN (ZC _ _) λV W z=> ?_;have e:=o7 (a.take c);have f:(a.take c).length=c:=a9b;have g: ∀C,(hR C).length=8:=λ_=>rfl;refine mW h z λa4 i j _=> ?_;refine⟨(c+1,a4),⟨by simp only;omega,?_⟩,⟨rfl,rfl⟩,by simp only;omega⟩;grind[eQ]
 .obtain rfl:c=a.length:=a8Z;rw[a4S]at h;exact⟨_,U.a1,h⟩
def EO (a b:ay) (c d h k o p:Own) (r:U) (x:a.sum.length=32) (y:b.sum.length=32) (z:a.cz):
  AC Tryz.prog 101 [.agg (ab a c d h),.agg (ab b k o p)] r λC D=>D=r/\C= .v (.bool (decide (a=b))):=by
 have L:=(aW (M:=c) (e6:=d) (h4:=h) x).all;have P:=(aW (M:=k) (e6:=o) (h4:=p) y).all;rw[D6];generalize ab a c d h=S at*;generalize ab b k o p=T at*;obtain⟨E,F,G⟩:=z;have V:dA [(32,.int .u8)] (a.sum.map al):=pg x;have W:dA [(32,.int .u8)] (b.sum.map al):=pg y;have e:= @sn a.sum b.sum;refine aN hm M8 ?_;refine bp λf g=> ?_;refine cW λi j l m=> ?_
 repeat' first|refine aG (λ_=> ?_) λ_=> ?_|trivial
 all_goals first
  |exact aO
  |refine bc (Zx _ _ _ _ _ _ _ _ _ E F) ?_
   repeat' first|refine aG (λ_=> ?_) λ_=> ?_|trivial
   all_goals first
    |exact aO
    |refine bc (nn _ _ _ _ _ G) ?_
     trivial
structure aL where
 name:List UInt8
 aD:List (List UInt8)
 bM:ay
 cq:ay
 deriving DecidableEq
instance:Inhabited aL:=⟨⟨[],[],aA,aA⟩⟩
structure en (t:aL) (T:List R):Prop where
 e: ∃gu hs eT a nu nv b,T=bb t.name:: .J (bE t.aD) gu::(ab t.bM hs eT a++ab t.cq nu nv b)
 k:t.bM.sum.length=32/\t.bM.cz
 z:t.cq.sum.length=32/\t.cq.cz
 c:t.aD.length<=1000000
def dy (a:aL) (b:R):Prop:= ∃T,b= .agg T/\en a T
variable{g A e0:List R}{e7:aL}
theorem en.all (x:en e7 g):g.length=76/\g.take 76=g/\aX false 1 g=bb e7.name/\ ∃o a b c d h k,aX false 1 (g.drop 1)= .J (bE e7.aD) o/\(g.drop 2).take 37=ab e7.bM a b c/\(g.drop 39).take 37=ab e7.cq d h k:=by obtain⟨⟨o,a,b,c,d,h,k,rfl⟩,⟨y,_⟩,⟨z,_⟩,_⟩:=x;have p:=(aW (M:=a) (e6:=b) (h4:=c) y).len;have r:=(aW (M:=d) (e6:=h) (h4:=k) z).len;refine⟨by simp[p,r],a4x (by simp[p,r]),rfl,o,a,b,c,d,h,k,rfl,?_,?_⟩;simp_all;grind
theorem ZE (z C:aL) (D E:R) (F:U) (y:dy z D) (S:dy C E):
  AC Tryz.prog 57 [D,E] F λV W=>W=F/\V= .v (.bool (decide (z=C))):=by
 obtain⟨T,rfl,G⟩:=y;obtain⟨s,rfl,L⟩:=S;obtain⟨t,u,w,A,B,H,I,K,M,N,O,Q,X⟩:=G.all;obtain⟨Y,Z,j9,k0,k1,k2,k3,k4,k5,k6,k7,k8,k9⟩:=L.all;obtain⟨_,⟨e,f⟩,⟨g,i⟩,l0⟩:=G;obtain⟨_,⟨j,_⟩,⟨l,_⟩,_⟩:=L;obtain⟨d,ac,h,k⟩:=z;obtain⟨o,a,p,r⟩:=C
 dsimp only at*
 have l1:=hz (a:=ac);have l2:=hz (a:=a);have l3:= @pt ac;have l4:= @pt a;have P: ¬(d=o/\ac=a/\h=p/\k=r)->decide (aL.mk d ac h k=aL.mk o a p r)=false:=λc=>by simpa using c
 have m:d=o/\ac=a/\h=p/\k=r->decide (aL.mk d ac h k=aL.mk o a p r)=true:=λc=>by simpa using c
 generalize decide (aL.mk d ac h k=aL.mk o a p r)=l5 at*;have l6:=λn v=> @wT n v;refine aN hm KY ?_;refine bp λl7 l8=> ?_;refine cW λl9 n0 n1 n2=> ?_
 repeat' first|refine aG (λ_=> ?_) λ_=> ?_|trivial
 .refine bc (EO _ _ _ _ _ _ _ _ _ e j f) ?_
  repeat' first|refine aG (λ_=> ?_) λ_=> ?_|trivial
  .refine bc (EO _ _ _ _ _ _ _ _ _ g l i) ?_
   repeat' first|refine aG (λ_=> ?_) λ_=> ?_|trivial
   .simp_all
   .refine gJ [2,3] (λb:Nat=> [(5,.v (.int .i64 b))]) (λb=>b<=ac.length/\ ∀x<b,ac.getD x []=a.getD x []) (λb=>ac.length - b) 0 ⟨a8Z,λx c=>by omega⟩ aR ?_;rintro b ⟨n3,y⟩ n4;refine aa ?_;refine aG (λq=> ?_) λq=> ?_
    .repeat' first|refine aG (λ_=> ?_) λ_=> ?_|trivial
     .exact aP (P λc=>by grind).symm
     .exact⟨b+1,⟨a8Z,upto y (by grind)⟩,rfl,a8Z⟩
    .exact aP (m (by have:=uq a8Z (λx c=>y x a8Z);grind)).symm
  grind
 all_goals exact aP (P (by grind)).symm
theorem EP (b d:List aL) (h k:List R) (D E:Own) (o:U) (p:az dy b h) (r:az dy d k) (e:b.length<=1000000):
  AC Tryz.prog 23 [.J h D,.J k E] o λF G=>G=o/\F= .v (.bool (decide (b=d))):=by
 have f:=p.len;have g:=r.len;refine aN hm Ka ?_;refine aG (λL=> ?_) λL=> ?_
 .exact aP (by grind)
 refine gJ [0,1] (λa:Nat=> [(5,.v (.int .i64 a))]) (λa=>a<=b.length/\ ∀c<a,b.getD c default=d.getD c default) (λa=>b.length - a) 0 ⟨a8Z,λc P=>by omega⟩ aR ?_;rintro a ⟨i,x⟩ j;refine aa ?_;refine aG (λS=> ?_) λS=> ?_
 .obtain⟨_,l,T,rfl,y⟩:=p.get (i:=a) (x:=b.getD a default) (by grind);obtain⟨_,m,z,rfl,C⟩:=r.get (i:=a) (x:=d.getD a default) (by simp_all);have V:=y.all;have W:=C.all;have n:=jy (n:= .agg T) V.1;have q:=jy (n:= .agg z) W.1;refine aa ?_;refine bc (ZE _ _ _ _ _ ⟨T,rfl,y⟩ ⟨z,rfl,C⟩) ?_;refine aG (λc2=> ?_) λc2=> ?_
  .exact aP (by grind)
  .exact⟨a+1,⟨a8Z,upto x (by trivial)⟩,rfl,a8Z⟩
 .exact aP (by have:=uq a8Z (λc P=>x c a8Z);simp[this])
variable{f t e4:U}{e i v O b8 j0:Nat}{Y:bq}
def Ext.dV (c:Ext i v f t) (d:f e=none):Ext i v f (t.set e Y):=λb h k o a=>by
 have p:b≠e:=by rintro rfl;rw[d]at a;cases a
 rw[U.ao _ _ p];exact c b h k o a
def cp (a:List Int×Bool) (b c:ay):c3:=⟨1,[a],[b,c]⟩
def uB (h:U) (k o:Nat) (p:ag) (T:bB h k o p) (c:List Int×Bool) (a b:ay) (V r x y z C D:Own) (d:Nat) (q:1<=d) (s:d<=8) (W:a.sum.length=32) (e:b.sum.length=32) (t:a.cz) (u:b.cz):
  AC Tryz.prog 230 [dU k d,.agg [.J (ad c.1) V,.v (.bool c.2)],.agg (ab a r x y),.agg (ab b z C D)] h λf g=>bB g k o (dv p d (cp c a b)).2/\Ext k o h g/\ha (dv p d (cp c a b)).1 f:=by
 have v:=(aW (M:=r) (e6:=x) (h4:=y) W).all;have w:=(aW (M:=z) (e6:=C) (h4:=D) e).all;have A:bu a (.agg (ab a r x y)):=⟨W,t,_,_,_,rfl⟩;have B:bu b (.agg (ab b z C D)):=⟨e,u,_,_,_,rfl⟩;generalize ab a r x y=H at*;generalize ab b z C D=I at*;refine aN hm PR ?_;refine bp λcd X=> ?_;refine cW λca Y Z j9=> ?_;refine hp λdf k0 k1 k2 k3 k4=> ?_;refine x1 λek k5 _ _ _ _ _ _=> ?_;refine X4 λhb i _ _ _ _ _ _ _ _=> ?_;refine X6 λK k6 _ _ _ _ _ _ _ _ _ _=> ?_;refine X7 λM k7 _ _ _ _ _ _ _ _ _ _ _ _=> ?_;generalize E:((((((h.set cd _).set ca _).set df _).set ek _).set hb _).set K _).set M _=F;have j:h.sub F:=by subst E;exact aR
 have N:F hb=some (.cells (ab aA .nil .nil .nil)):=by subst E;rw[<-cn];exact aR
 clear E;have k8:=(aW (M:= .nil) (e6:= .nil) (h4:= .nil) bj).len;refine ai (xC F k o p (T.mono j) (cp c a b) [.agg [.J (ad c.1) V,.v (.bool c.2)]] [.agg H,.agg I] _ _ d q s ⟨⟨⟨_,rfl⟩,trivial⟩,⟨A,B,trivial⟩,bR.J (by simp[aS,R.cells]),bR.J (by simp[aS,R.cells,v.1,w.1]),by simp[cp],by simp[cp]⟩) ?_;rintro f k9 ⟨O,l,Q⟩;have G:=(T.cC i);have l0:=U.aJ (l hb _ G.1 G.2 N);obtain⟨m,L,P,S,l1,n,rfl⟩:=Q.shape;have l2:=(aW (M:=L) (e6:=P) (h4:=S) n).all;have l3:putAt (ab aA .nil .nil .nil) 0 (ab m L P S)=ab m L P S:=cB bj n;refine aa ?_;exact⟨_,U.a1,O.set G,((Ext.of j).trans l).dV i⟩
def kD (b:ag) (c:Nat) (d:ay):Option ((List Int×Bool)×List ay):=
 match fk b c d with
 |none=>none
 |some a=>if a.kind=1 then some (a.rows.headD ([],false),a.kids)else none
variable{w j2:ay}{b9:c3}{H:ag}
theorem ER (a:fk H e w=some b9):dS e b9=true:=by
 unfold fk at a;split at a
 .cases a
 split at a
 .cases a
 rename_i c d b;split at a
 .obtain rfl:=a4v a;unfold pe at b;grind
 .cases a
theorem ES (b:dS e b9=true) (c:b9.kind=1):b9.rows.length=1/\b9.kids.length=2/\ ∀a∈b9.kids,a.key.length=0:=by simp_all [dS]
def ZF (b c:U) (d:List ay) (h:R):Prop:= ∃a,au b c 37 (flat a) h/\az bu d a
def yj (d:U) (F i:Nat) (y:ag) (v:bB d F i y) (h:ay) (G L P:Own) (j:h.sum.length=32) (w:h.cz) (a:Nat) (A:1<=a) (B:a<=8):
  AC Tryz.prog 182 [dU F a,.agg (ab h G L P)] d λS b=>d.sub b/\match kD y a h with
   |none=>S= .aK [.agg [.J [] .nil,.v (.bool false)],.J [] .nil,.v (.int .i64 21)]
   |some (k,bI)=> ∃H z,S= .aK [.agg [.J (ad k.1) H,.v (.bool k.2)],z,.v (.int .i64 0)]/\bI.length=2/\ZF d b bI z:=by
 have k3:=(aW (M:=G) (e6:=L) (h4:=P) j).all;refine aN hm OE ?_;refine bp λcd k4=> ?_;refine cW λca k5 _ _=> ?_;refine hp λdf l _ _ _ _=> ?_;generalize T:((d.set cd _).set ca _).set df _=V;have o:d.sub V:=by subst T;exact aR
 have p:V df=some (.cells [.J [] .nil,.v (.bool false)]):=by subst T;exact aR
 clear T;refine ai (xv V F i y (v.mono o) h G L P j w a A B) ?_;rintro S I ⟨C,D⟩;have K:=U.aJ (C _ _ p);rw[kD];cases W:fk y a h with
 |none=>
  rw[W]at D;obtain rfl:=D;refine aa ?_;refine aM λek c=> ?_;have a:df≠ek:=by rintro rfl;rw[C _ _ p]at c;cases c
  have M:=a4F a;refine aa ?_;exact U.af (U.ar o C) (U.bF (U.ar o C) c)
 |some r=>
  rw[W]at D;obtain⟨k,z,rfl,E⟩:=D;refine aa ?_;refine aM λek c=> ?_;have a:df≠ek:=by rintro rfl;rw[E.sub _ _ p]at c;cases c
  have M:=a4F a;have K:=U.aJ (E.sub _ _ p);have m:=U.ar o E.sub;have e:(r.kind=1)↔(r.kind.toNat:Int)=1:=by rw[<-a5s];show r.kind.toNat=1↔ _;omega
  by_cases x: ¬r.kind=1
  .have:=mt e.2 x;exact aR
  have x:=Decidable.not_not.1 x;have k6:=e.1 x;clear e;obtain⟨N,k7,_⟩:=ES (ER W) x;obtain⟨k8,k9,O,f,n,q,Q,_⟩:=E;obtain⟨l0,l1,l2⟩:=r
  dsimp only at*
  obtain⟨s,rfl⟩:=a6x.1 N;have X:=(bR.dR f a8Z rfl (q.cells λ_ _=>de.cells)).mono n.1;obtain⟨l3,Y,Z,rfl⟩:=q.get (i:=0) rfl;obtain⟨t,u,j9⟩:=X.get 0 _ Y;have k0:=λb g=>j9.ld b g true 2 a8Z (by simp[R.cells]);have u:cL 2 k (.v (.int .i64 0))=some t:=u;have k1: ∀b,I.sub b->dn true 2 b t=some (.agg [.J (ad s.1) Z,.v (.bool s.2)]):=λb g=>k0 b g;have l4:=k1 _ (U.af (Y:= .cells [.v (.int .u8 1),k,z]) U.a1 c);refine aa ?_;refine⟨_,U.a1,U.af (U.af m (U.bF m c)) l,?_⟩;have k2:=U.ar o f.1;exact⟨_,_,rfl,O,(jL (n.mono (U.af U.a1 c)) (f.1 _ _ p)).base (U.af k2 l),Q⟩
theorem yk (a c:List Int) (r x:Own) (k:Nat) (p:U) (F:k<a.length) (G:c.length=a.length) (L:a.length<=1000000000000):
  AC Tryz.prog 97 [.J (ad a) r,.J (ad c) x,.v (.int .i64 (k:Int))] p λy z=>z=p/\y= .v (.bool (decide (cH k a c<0))):=by
 have P:=bH (q:=a);have S:= @dJ a;have T:= @dJ c;have C: ∀d h:Int,ic d h=0↔d=h:=λd h=>by unfold ic;omega
 have V: ∀d h:Int,ic d h<0↔d<h:=λd h=>by unfold ic;omega
 refine aN hm M0 ?_;refine aG (λD=> ?_) λD=> ?_;simp_all [cH];have W:cH k a c=fN a c:=by rw[cH,if_pos (by rw[C];omega)]
 refine gJ [0,1] (λb:Nat=> [(7,.v (.int .i64 b))]) (λb=>b<=a.length/\fN (a.drop b) (c.drop b)=fN a c) (λb=>a.length - b) 0 ⟨a8Z,rfl⟩ aR ?_;rintro b ⟨e,o⟩ f;refine aa ?_;refine aG (λE=> ?_) λE=> ?_
 .rw[drop_cons (b:=0) a8Z,drop_cons (b:=0) (e:=b) a8Z,fN]at o;refine aG (λc2=> ?_) λc2=> ?_;grind;grind
 .rw[sG a8Z,sG a8Z]at o;exact aP (by rw[<-o];rfl)
def eY (c:Nat) (a:List Int) (d:List (List Int)):List (List Int):=d.takeWhile (λb=>decide (cH c b a<0))++a::d.dropWhile (λb=>decide (cH c b a<0))
def ea (a:Nat) (b:List (List Int)):List (List Int):=b.foldl (λc d=>eY a d c) []
theorem ZG (b:Nat) (c:List Int) (a:List (List Int)):(eY b c a).length=a.length+1:=by have:=congrArg List.length (a5o (p:=λd=>decide (cH b d c<0)) (l:=a));grind[List.length_append,eY,List.length_cons]
variable{Q:List (List Int)}{q b6:List Int}
theorem yl:q∈eY e b6 Q↔q=b6\/q∈Q:=by have:=congrArg (λQ=>q∈Q) (a5o (p:=λq=>decide (cH e q b6<0)) (l:=Q));simp only[a4M,eq_iff_iff]at this;grind[eY]
theorem ZH (c: ∀a<e,cH i (Q.getD a []) q<0) (b:e<=Q.length) (d:e<Q.length-> ¬cH i (Q.getD e []) q<0):eY i q Q=Q.take e++q::Q.drop e:=by
 induction Q generalizing e with
 |nil=>simp at b;subst b;rfl
 |cons h Q ih=>
  cases e with
  |zero=>grind[cH,eY,List.takeWhile_cons,List.dropWhile_cons]
  |succ e=>have o:cH i h q<0:=c 0 a8Z;have:=ih (λa p=>c (a+1) a8Z) (by simpa using b) (λk=>d (by simpa using k));simp_all [eY]
theorem ZI (h:List (List Int)) (l:List R) (H:Own) (y F:Nat) (e:U) (m:az isRow h l) (I: ∀G∈h,G.length=F) (k3:y<F) (k4:F<=8) (k5:h.length<=100000):
  AC Tryz.prog 162 [.J l H,.v (.int .i64 (y:Int))] e λG L=>e.sub L/\ ∃n K,az isRow (ea y h) n/\G= .J n K:=by
 have k6:=m.len;refine aN hm NX ?_;refine ch [0,1] (λb:Nat×List R×Own=> [(6,.v (.int .i64 b.1)),(5,.J b.2.1 b.2.2)]) (λb L=>e.sub L/\b.1<=h.length/\ ∃c,(h.take b.1).foldl (λc x=>eY y x c) []=c/\c.length=b.1/\(∀G∈c,G.length=F)/\az isRow c b.2.1) (λb=>h.length - b.1) (0,[],.nil) ⟨⟨U.a1,a8Z,[],rfl,rfl,a9a,trivial⟩,aR⟩ ?_;rintro⟨z,C,bD⟩ M ⟨q,N,c,P,O,Q,p⟩ X
 dsimp only at N P O p|-
 have k7:=p.len;refine aa ?_;refine aG (λY=> ?_) λY=> ?_
 .have s:h[z]? =some (h.getD z []):=by simp_all
  obtain⟨_,k8,f,rfl⟩:=m.get s;have k9:=I _ (a4D s);have t:=eQ (a:=h) (b:= []) (e:=z) a8Z;generalize h.getD z []=x at*;have el: ∀a,a<c.length-> ∃E,C[a]? =some (.J (ad (c.getD a [])) E):=λa T=>by
   obtain⟨_,k,E,rfl⟩:=p.get (i:=a) (x:=c.getD a []) (by simp_all);exact⟨E,k⟩
  have Z: ∀a,a<c.length->(c.getD a []).length=F:=λa T=>Q _ (by simp_all);refine ch [0,1,5,6] (λb:Nat×List R×Own=> [(8,.v (.int .i64 b.1)),(7,.J b.2.1 b.2.2)]) (λb L=>b.1<=c.length/\(∀u<b.1,cH y (c.getD u []) x<0)/\az isRow (c.take b.1) b.2.1/\bg M L 1 b.2.1 b.2.2) (λb=>c.length - b.1) (0,[],.nil) ⟨⟨a8Z,λu d=>by simp at d,trivial,bg.nil U.a1⟩,aR⟩ ?_;rintro⟨a,V,on⟩ l0 ⟨T,v,r,W⟩ X
  dsimp only at T v r W|-
  have l1:V.length=a:=by rw[r.len,a4z];omega
  have w: ¬(a<c.length/\cH y (c.getD a []) x<0)->eY y x c=c.take a++x::c.drop a:=λd=>ZH v T λj9 D=>d ⟨j9,D⟩;by_cases jP:(a)<(z:Int)
  .obtain⟨E,l2⟩:=el a a8Z;have l3:=Z a a8Z;have k0:=eQ (a:=c) (b:= []) (e:=a) a8Z;generalize l4:c.getD a []=b at*;refine aa ?_;refine bc (yk b x E f y _ a8Z a8Z a8Z) ?_;refine aG (λc2=> ?_) λc2=> ?_
   .refine jI (λA S=> ?_);refine dY (W.mono (U.af U.a1 S)) (r.cells λ_ _=>isRow.cells) (λk o=>by rw[a4Q]at o;subst o;rfl) a9b a9b λg B D=> ?_;refine aa ?_;refine⟨(a+1,V++ [.J (ad b) E],g),⟨by simp only;omega,?_,?_,D⟩,⟨rfl,rfl⟩,by simp only;omega⟩;grind
    .simp only[k0];exact r.snoc ⟨_,rfl⟩
   .have k:=w a8Z;refine jI (λA S=> ?_);refine dY (W.mono (U.af U.a1 S)) (r.cells λ_ _=>isRow.cells) (λk o=>by rw[a4Q]at o;subst o;rfl) a9b a9b λg B D=> ?_;have k1:dI 1 (.J C bD) (some (.v (.int .i64 (a)))) none=some (.J (C.drop a) .any):=p3 a8Z (p.cells λ_ _=>isRow.cells);refine aa ?_;refine dY D (λk o=>by rcases a4M.1 o with d|d;exact r.cells (λ_ _=>isRow.cells) k d;rw[a4Q]at d;subst d;rfl) ((p.drop a).cells λ_ _=>isRow.cells) a9b a9b λi k2 j=> ?_;refine aa ?_;refine⟨(z+1,V++ [.J (ad x) f]++C.drop a,i),⟨U.ar q j.sub,by simp only;omega,_,rfl,?_,?_,?_⟩,⟨rfl,rfl⟩,by simp only;omega⟩;grind;grind
    .simp only[t,a6v,P,a5C,a7C,k];rw[a7J];exact(r.snoc ⟨_,rfl⟩).append (p.drop a)
  .have k:=w a8Z;refine aa ?_;refine jI (λA S=> ?_);refine dY (W.mono (U.af U.a1 S)) (r.cells λ_ _=>isRow.cells) (λk o=>by rw[a4Q]at o;subst o;rfl) a9b a9b λg B D=> ?_;have k1:dI 1 (.J C bD) (some (.v (.int .i64 (a)))) none=some (.J (C.drop a) .any):=p3 a8Z (p.cells λ_ _=>isRow.cells);refine aa ?_;refine dY D (λk o=>by rcases a4M.1 o with d|d;exact r.cells (λ_ _=>isRow.cells) k d;rw[a4Q]at d;subst d;rfl) ((p.drop a).cells λ_ _=>isRow.cells) a9b a9b λi k2 j=> ?_;refine aa ?_;refine⟨(z+1,V++ [.J (ad x) f]++C.drop a,i),⟨U.ar q j.sub,by simp only;omega,_,rfl,?_,?_,?_⟩,⟨rfl,rfl⟩,by simp only;omega⟩;grind;grind
   .simp only[t,a6v,P,a5C,a7C,k];rw[a7J];exact(r.snoc ⟨_,rfl⟩).append (p.drop a)
 .obtain rfl:z=h.length:=a8Z;rw[a4S]at P;exact⟨C,bD,by rw[ea,P];exact p,rfl⟩
inductive aC where
 |nil
 |node (r:List Int) (live:Bool) (a b:aC)
def dN (a:U):aC->R->Prop
 | .nil,b=>b= .v (.pointer none)
 | .node k live o p,b=> ∃c r d h,b= .ptr c 0/\a c=some (.cells [.J (ad k) r,.v (.bool live),d,h])/\dN a o d/\dN a p h
def dN.mono {b c:U} (a:b.sub c): ∀ {d:aC}{h:R},dN b d h->dN c d h
 | .nil,_,k=>k
 | .node _ _ _ _,_,⟨o,p,r,x,h1,y,z,C⟩=>⟨o,p,r,x,h1,a _ _ y,z.mono a,C.mono a⟩
theorem dN.cells {b:U}: ∀ {c:aC}{a:R},dN b c a->a.cells= [a]
 | .nil,_,rfl=>rfl
 | .node _ _ _ _,_,⟨_,_,_,_,rfl,_⟩=>rfl
def _root_.Go.bx.U.part (b c d:U):U:=λa=>if c a=none\/d a≠none then b a else none
def ET:U:=λ_=>none
theorem qP:(f.part t e4).sub f:=λa b c=>by
 grind[U.part]
def EU {c d:U} (h:f.sub t) (k:e4.sub c):(e4.part t d).sub (c.part f d):=λo p a=>by
 rw[U.part]at a|-;split at a
 .rename_i b;rw[if_pos (b.imp_left λb=>U.bF h b)];exact k _ _ a
 .cases a
def ZJ {c:U} (b:f.sub t):(e4.part t ET).sub (e4.part f c):=λh k a=>by
 rw[U.part]at a|-;split at a
 .rename_i d;rw[if_pos (.inl (U.bF b (d.resolve_right λb=>b rfl)))];exact a
 .cases a
def pv (b:f.sub t):f.sub (t.part e4 f):=λc d a=>by rw[U.part,if_pos (.inr (by rw[a];simp))];exact b _ _ a
theorem uC (a:f e=none):t.part f e4 e=t e:=if_pos (.inl a)
def aC.size:aC->Nat
 | .nil=>0
 | .node _ _ a b=>1+a.size+b.size
def aC.all:aC->List (List Int)
 | .nil=> []
 | .node a live b c=>b.all++c.all++(if live=true then [a]else [])
def qQ: ∀(c:aC) (b:R) (a:U),dN a c b->c.size<=1000000->AC Tryz.prog 91 [b] a λd h=>h=a/\d= .v (.int .i64 (c.size:Int))
 | .nil,b,a,k,_=>by
  obtain rfl:b= .v (.pointer none):=k;refine aN hm Bi ?_;trivial
 | .node d live o p,b,a,⟨E,F,r,x,h1,y,z,C⟩,D=>by
  subst h1;have G:=U.ae y;simp only[aC.size]at D;refine aN hm Bi ?_;refine bc (qQ o r a z a8Z) ?_;refine bc (qQ p x a C a8Z) ?_;rfl
def lq: ∀a:aC,a.all.length<=a.size
 | .nil=>by trivial
 | .node d live b c=>by
  have:=lq b;have:=lq c;simp only[aC.all,aC.size,a4y];split<;>simp<;>omega
def sI: ∀(r:aC) (b:R) (a:U),dN a r b->r.size<=1000000->AC Tryz.prog 90 [b] a λz G=> ∃x k,bg a G 1 x k/\az isRow r.all x/\z= .J x k
 | .nil,b,a,L,_=>by
  obtain rfl:b= .v (.pointer none):=L;refine aN hm Bh ?_;exact⟨_,U.a1,[],.nil,bg.nil U.a1,trivial,rfl⟩
 | .node z live C D,b,a,⟨g,k,P,S,h1,o,c,y⟩,T=>by
  subst h1;have i:=U.ae o;simp only[aC.size]at T;have j:=lq C;have l:=lq D;refine aN hm Bh ?_;refine ai (sI C P a c a8Z) ?_;rintro _ V ⟨m,n,p,d,rfl⟩;have q:=U.ae (p.sub _ _ o);refine aa ?_;refine ai (sI D S V (y.mono p.sub) a8Z) ?_;rintro _ s ⟨t,u,E,h,rfl⟩;have v:=U.ae (E.sub _ _ (p.sub _ _ o));have w:=d.len;have A:=h.len;refine aa ?_;refine dY (p.mono E.sub) (d.cells λ_ _=>isRow.cells) (h.cells λ_ _=>isRow.cells) a8Z a8Z λW B c=> ?_;have H:=U.ae (c.sub _ _ o);refine aa ?_;cases live with
  |true=>refine aa ?_;refine jI (λI e=> ?_);refine dY (c.mono (U.af U.a1 e)) ((d.append h).cells λ_ _=>isRow.cells) (λK F=>by rw[a4Q]at F;subst F;rfl) a9b a9b λf M y=> ?_;refine aa ?_;exact⟨_,U.a1,_,f,y,(d.append h).append ⟨⟨k,rfl⟩,trivial⟩,rfl⟩
  |false=>refine aa ?_;exact⟨_,U.a1,_,W,c,by simpa[aC.all] using d.append h,rfl⟩
def fP (b:Nat):Nat->List (List Int)->Nat->aC
 |0,_,_=> .nil
 |c+1,a,dep=>if a= []then .nil else
  .node ((ea (dep%b) a).getD (a.length/2) []) true (fP b c ((ea (dep%b) a).take (a.length/2)) (dep+1)) (fP b c ((ea (dep%b) a).drop (a.length/2+1)) (dep+1))
theorem ym {h:Nat}: ∀(b a:List (List Int)),(b.foldl (λk c=>eY h c k) a).length=a.length+b.length/\ ∀d,d∈b.foldl (λk c=>eY h c k) a↔d∈a\/d∈b
 | [],a=>by simp
 |c::b,a=>by
  obtain⟨o,p⟩:=ym b (eY h c a);refine⟨by rw[a5C,o,ZG,a4C];omega,λd=> ?_⟩;grind[yl]
theorem pw (b:Nat) (a:List (List Int)):(ea b a).length=a.length:=by rw[ea,(ym a []).1];simp
def qR:q∈ea e Q↔q∈Q:=by rw[ea,(ym Q []).2];simp
theorem uD (b:Nat) (E:0<b) (F:b<=8): ∀(h:Nat) (a:List (List Int)) (d:List R) (k:Own) (dep:Nat) (r:U),az isRow a d->(∀o∈a,o.length=b)->a.length<=h->h<=100000->dep+h<=1000000->
  AC Tryz.prog 92 [.J d k,.v (.int .i64 (dep:Int))] r λo g=>r.sub g/\dN (g.part r ET) (fP b h a dep) o
 |0,a,d,k,dep,r,x,C,v,_,_=>by
  obtain rfl:a= []:=a4B a8Z;obtain rfl:d= []:=a4B x.len;refine aN hm wv ?_;exact⟨_,U.a1,U.a1,rfl⟩
 |h+1,a,d,k,dep,r,x,C,v,N,O=>by
  have Q:=x.len;by_cases G:a= []
  .subst G;obtain rfl:d= []:=a4B x.len;refine aN hm wv ?_;rw[fP,if_pos rfl];exact⟨_,U.a1,U.a1,rfl⟩
  have X:=a5E.2 G;have Y: ¬(a.length:Int)=0:=a8Z;obtain⟨_,Z,j9,rfl⟩:=x.get (i:=0) (x:=a.getD 0 []) (by simp_all);have k0:=C (a.getD 0 []) (by simp_all);have k1:=bH (q:=a.getD 0 []);have w:(dep:Int).tmod (b:Int)=((dep%b:Nat)):=rfl;have k2: ¬(b:Int)=0:=a8Z;have A:(a.length:Int).tdiv 2=((a.length/2:Nat)):=rfl;have k3: ∀L k,cL L (.J d k) (.v (.int .i64 0))=ez L d[0]? :=λL k=>o0;refine aN hm wv ?_;refine ai (ZI a d k (dep%b) b r x C (a6A _ E) F a8Z) ?_;rintro _ B ⟨D,y,P,p,rfl⟩;have i:=p.len;rw[pw]at i;have j:=pw (dep%b) a;have S: ∀T∈ea (dep%b) a,T.length=b:=λT H=>C T (qR.1 H);obtain⟨z,l⟩: ∃z,ea (dep%b) a=z:=⟨_,rfl⟩;rw[fP,if_neg G];rw[l]at j S p|-;generalize I:a.length/2=c at*;obtain⟨_,k4,m,rfl⟩:=p.get (i:=c) (x:=z.getD c []) (by grind);have k5:dI 1 (.J y P) none (some (.v (.int .i64 (c))))=some (.J (y.take c) .any):=by have:=nU (e2:= .i64) (M:=P) (b1:=(c)) a8Z a8Z (p.cells λ_ _=>isRow.cells);trivial
  have k6:dI 1 (.J y P) (some (.v (.int .i64 ((c)+1)))) none=some (.J (y.drop (c+1)) .any):=p3 (e:=c+1) a8Z (p.cells λ_ _=>isRow.cells);refine aa ?_;refine ai (uD b E F h (z.take c) (y.take c) .any (dep+1) B (p.take c) (λo V=>S o (a4K V)) (by rw[a4z];omega) a8Z a8Z) ?_;rintro n K ⟨W,q⟩;refine aa ?_;refine ai (uD b E F h (z.drop (c+1)) (y.drop (c+1)) .any (dep+1) K (p.drop (c+1)) (λo V=>S o (a5b V)) (by rw[a4N];omega) a8Z a8Z) ?_;rintro s k7 ⟨e,t⟩;clear l j i w A I;have k8:=q.cells;have k9:=t.cells;refine aa ?_;refine aM λM u=> ?_;refine aa ?_;have f:=U.af (Y:= .cells [.J (ad (z.getD c [])) m,.v (.bool true),n,s]) U.a1 u;exact⟨_,U.a1,U.ar D (U.ar W (U.ar e f)),M,m,n,s,rfl,(uC (U.bF D (U.bF W (U.bF e u)))).trans (U.ah _ _ _),q.mono (EU D (U.ar e f)),t.mono (EU (U.ar D W) f)⟩
end Go.Proofs.YtlgnfcaolejgeaaGreat
namespace Go.bx
open Go
variable{f t e4:U}{u:bl}{l h7:World}
theorem Step.ZK {p:bl} (b:Step u f l p t h7) (r: ∀a,f a=none\/ ∃c,f a=some (.ro c)): ∃x k,h7=Sort.grow (l.drewN x) k:=by
 have d: ∀a,a<l.heap.size->h7.heap[a]? =l.heap[a]? :=λa d=>by
  rcases r a with h|⟨c,h⟩
  .exact b.block a d h
  .exact(b.jt a c d h).1
 have y:=b.os;have z:=b.tape;have o:=b.output;have C:=b.size;refine⟨h7.drawn - l.drawn,h7.heap.extract l.heap.size h7.heap.size,?_⟩;obtain⟨D,E,F,k,G⟩:=l;obtain⟨L,P,S,T,V⟩:=h7;simp only at*;obtain⟨rfl,o⟩:=o;subst y;subst z;simp only[Sort.grow,World.drewN,World.mk.injEq,true_and,and_true];grind
theorem Step.grown (d:Holds u f l) (o:Nat) (os:Array Obj):Step u f l u f (Sort.grow (l.drewN o) os):=by
 have c: ∀a,a<l.heap.size->(Sort.grow (l.drewN o) os).heap[a]? =l.heap[a]? :=λa c=>by
  show(l.heap++os)[a]? = _;grind
 exact {holds:=⟨λa h v p=>by rw[<-d.ro a h v p];exact World.cell?_of_block (c a (d.lt p)),λk h r=>(d.dO k h r).kept (.refl u) (c k (d.dO k h r).lt) (λ_ x=>x)⟩,le:= .refl u,os:=rfl,tape:=rfl,output:=⟨rfl,Nat.le_add_right _ _⟩,size:=a9a,block:=λa b _=>c a b,ec:=λ_ b=> .inl b,mx:=λ_ _ b=> .inl b,jt:=λa y b z=>⟨c a b,.inr ⟨y,z⟩⟩}
variable{b0:Type}
theorem ZL [Inhabited b0] (h:b0->Value) (b:World) (a:Nat) (c:Array b0) (d:Array Value) (k:TypeId) (o:Nat×Nat) (p:b.heap[a]? =some (.cells d k o)) (x:c.size<=d.size):
  Sort.putRow h b a 0 c=b.setRow a (dh d 0 (c.toList.map h)):=by
 unfold Sort.putRow Sort.mapBlock World.setRow;congr 1;apply Array.ext_getElem?;intro r;simp only[Array.getElem?_modify];by_cases hk:a=r
 .subst hk;simp only[if_true,p,a5x,Sort.onCells];congr 2;apply a8H;apply a8e;intro y;simp only[Sort.putCells,dh,a6e,Array.getElem?_mapIdx,a6s,a4P,a4W,a4I,a7S];grind
 .simp[hk]
variable{g A e0:List R}{e i v O b8 j0:Nat}{m:Program}
theorem ZM {k6:Shelf.Ren} (n5:Proofs.SlLaysF.n6 m k6) (S:b0->R->Prop) (n9: ∀a d,S a d->d.one=true/\d.cells= [d]) {C:List b0}
  (Y:f e=some (.cells g)) (a69:A.length=C.length) (a00: ∀(b:Nat) a d,C[b]? =some a->A[b]? =some d->S a d) (a01:C.length=i) (k7:g.take i=A) (a71:i<4611686018427387904)
  (V:FuncId) (I:List R) (k8:t.sub f) (k9: ∀c,t c=none\/ ∃Z,t c=some (.ro Z)) (x:b0->Prop) (a02: ∀j∈C,x j) (a03:0<i)
  (y:b0->b0->Int) (a73: ∀a,x a-> ¬y a a<0) (a74: ∀a h D,x a->x h->x D->y a h<0->y h D<0->y a D<0) (a81: ∀a h D,x a->x h->x D-> ¬y a h<0-> ¬y h D<0-> ¬y a D<0)
  (a04: ∀l0 p,(callFunc V l0).run m p= .ok (.enter V l0) p)
  (a05: ∀a h d c,S a d->S h c->x a->x h->AC m V ([d,c]++I) t λj _=>j= .v (.int .i64 (y a h))):
  AC m (k6.f 6) [.an e i O 1,.bG V [] I] f λj l1=>j= .aK []/\ ∃o j9,j9.Perm C/\o.length=i/\(∀(b:Nat) a d,j9[b]? =some a->o[b]? =some d->S a d)/\List.Pairwise (λd c=> ¬y c d<0) j9/\l1=f.set e (.cells (o++g.drop i)):=by
 intro K p z k0 w;have l2:=k0.2 0 _ rfl;have l3:=k0.2 1 _ rfl;have a06:K.size=2:=k0.1;generalize a07:K.getD 0 undef=a83 at l2;generalize a08:K.getD 1 undef=a84 at l3;cases l2 with
 |an e i O a86 a88 a89=>
 cases l3 with
 |bG a90 ws ie cJ a92 hw a94 a09 a10=>
 obtain rfl:ws= #[]:=a7P hw;have ak:K= #[.slice (some ⟨e,0,none⟩) i O,.func (.func V) #[] ie]:=by
  apply Array.ext
  .exact a06
  .intro b G L
   match b,G with
   |0,G=>rw[<-a07];simp_all
   |1,G=>rw[<-a08];simp_all
   |b+2,G=>omega
 rw[ak];obtain⟨a95,l,T,k1,l4,a11⟩:=w.dO e _ Y;have a96:i<=g.length:=by grind
 have a97:=l4.1
 let W:= {P:Value×b0//(∃d,S P.2 d/\aY z P.1 d)/\x P.2};have l5: ∀b (n:b<i),∃a:W,a.1.1=l[b]'a8Z/\a.1.2=C[b]'a8Z:=λb n=>by
  have G:g[b]? =some (A[b]'a8Z):=by grind
  have L:=l4.2 b _ G;have B:l.getD b undef=l[b]'a8Z:=by simp[show b<l.size by omega]
  rw[B]at L;exact⟨⟨(l[b]'a8Z,C[b]'a8Z),⟨_,a00 b _ _ (a4w _) (a4w _),L⟩,a02 _ (a4Z _)⟩,rfl,rfl⟩
 haveI:Inhabited W:=⟨(l5 0 a03).choose⟩
 obtain⟨E,l6,a98⟩: ∃E:Array W,E.size=i/\ ∀b (n:b<i) (a13),E[b].1.1=l[b]'a8Z/\E[b].1.2=C[b]'a8Z:=
  ⟨Array.ofFn λb=>(l5 b b.2).choose,a9a,λb n a13=>by grind[Array.getElem_ofFn]⟩
 let k:W->Value:=λa=>a.1.1;have G:Proofs.OneCell k:=λa=>by
  obtain⟨⟨d,L,B⟩,_⟩:=a.2;exact B.nI (n9 _ _ L).1
 have a14:Sort.Holds k p e 0 E:=λr k2=>by
  have a99:r<i:=a8Z;rw[getElem!_pos E r k2];constructor
  .simp only[World.cell?,k1,a4W,a6p,a5A,if_false];grind
  .simp[World.frozen?,k1]
 have a15:=(a5M.1 k1).1
 let k3:W->W->Int:=λa h=>y a.1.2 h.1.2;have a16:Proofs.CmpLays1 m V ie k k3 e 0 E.size p:=λl7 q l8 b00 a h=>by
  have l9: ∀c,c<p.heap.size->c≠e->(Proofs.sortWorld k p e 0 l7 l8 q).heap[c]? =p.heap[c]? :=λc M N=>by
   show(((p.heap.modify e _)++q)[c]?)= _;grind
  have a18:Holds z t (Proofs.sortWorld k p e 0 l7 l8 q):=⟨λc k4 v s=>by
   have N:c≠e:=by rintro rfl;rw[a11]at s;cases s
   rw[<-w.ro c k4 v s];exact World.cell?_of_block (l9 c (w.lt s) N),λc k4 M=>by
   have N:c≠e:=by
    rintro rfl;rcases k9 c with H|⟨Z,H⟩
    .rw[H]at M;cases M
    .have:=k8 _ _ H;rw[Y]at this;cases this
   have L:=w.dO c k4 (k8 _ _ M);exact L.kept (.refl z) (l9 c L.lt N) λ_ n=>n⟩
  obtain⟨⟨d,aN,a19⟩,a27⟩:=a.2;obtain⟨⟨c,a29,a30⟩,a34⟩:=h.2;have a36:br z (#[k a,k h]++ie) ([d,c]++I):=⟨by simp[a09];omega,λr Q u=>by
   match r,u with
   |0,u=>obtain rfl:=a4v u;rw[show(#[k a,k h]++ie).getD 0 undef=k a by rw[a5t,a7o a9a];rfl];exact a19
   |1,u=>obtain rfl:=a4v u;rw[show(#[k a,k h]++ie).getD 1 undef=k h by rw[a5t,a7o a9a];rfl];exact a30
   |r+2,u=>
    have B:I[r]? =some Q:=by trivial
    have k2:r<ie.size:=by grind
    have b01:=a10 r Q B;simp_all [a5t,Array.getElem?_append_right]⟩
  refine(a05 _ _ d c aN a29 a27 a34 _ _ z a36 a18).mono ?_;rintro a38 a42 ⟨v,j,b02,l1,rfl,X,s,rfl⟩;refine⟨by rw[s.dQ],X.ZK k9⟩
 have a43:Sort.SWO (Proofs.ltOf k3):=⟨λa=>by simp only[Proofs.ltOf];grind,λa h D=>by simp only[Proofs.ltOf,decide_eq_true_eq];grind,λa h D=>by grind[Proofs.ltOf,decide_eq_false_iff_not]⟩;have n0:=Proofs.Any.slices_SortFunc n5 k G k3 a43 V ie e 0 O E p a04 a16 a14 a15 a8Z;rw[l6]at n0;refine n0.mono ?_;rintro a38 a42 ⟨rfl,F,P,q,⟨b03,_,n1⟩,a47,rfl⟩;have n2:F.size=i:=a8Z;rw[a7X a8Z,a7X a8Z]at n1
 let o:List R:=F.toList.map λa=>a.2.1.choose;have b04: ∀a:W,S a.1.2 a.2.1.choose/\aY z a.1.1 a.2.1.choose:=λa=>a.2.1.choose_spec;have a48:br z (F.toList.map k).toArray o:=br.dP.2 ⟨by simp[o],λr b05 Q n3 a52=>by
  simp only[a4X,o]at n3 a52;cases k5:F.toList[r]? with
  |none=>simp[k5]at n3
  |some a=>grind⟩
 obtain⟨a56,b06,b07,b08,X⟩:=Step.store w Y 0 o _ a48 (λZ k7=>by
  obtain⟨a,_,rfl⟩:=a4R.1 k7;grind) (by simp[o];omega)
 have a57:Sort.putRow k (Sort.ahead p P) e 0 F=Sort.ahead (p.setRow e (dh a56 0 (F.toList.map k))) P:=by grind[Sort.putRow_ahead,ZL]
 have a61:=X.trans (Step.grown X.holds P q);refine⟨_,.aK [],z,f.set e (.cells (o++g.drop i)),rfl,?_,.aK #[] [] rfl (λr Q H=>by simp at H),rfl,o,F.toList.map (λa=>a.1.2),?_,by simp[o,n2],?_,?_,rfl⟩
 .have a62:putAt g 0 o=o++g.drop i:=by simp[putAt,o,n2]
  rw[<-a62];show Step z f p z _ (Sort.grow (Sort.putRow k (Sort.ahead p P) e 0 F) q);rw[a57];exact a61
 .have a63:C=E.toList.map (λa=>a.1.2):=by
   apply a8l
   .simp[a01,l6]
   simp_all
  rw[a63];exact n1.map _
 .intro b a d n4 a65;simp only[a4X,o]at n4 a65;cases k5:F.toList[b]? with
  |none=>simp[k5]at n4
  |some h=>grind
 .rw[a6T,a5X];intro b r n k2 a68;have:=a47 b r (a5d _) a68 (by simp_all);grind[Array.length_toList,Proofs.ltOf]
end Go.bx
namespace Go.Proofs
open Go.Shelf
def Tryz.ZN:Go.Shelf.Ren:=⟨λ|6=>118|15=>184|14=>183|28=>267|29=>268|20=>259|21=>260|22=>261|23=>262|24=>263|25=>264|26=>265|27=>266|46=>316|47=>317|48=>318|49=>319|50=>320|57=>346|a=>a,λ|22=>37|24=>24|25=>196|3=>3|39=>213|0=>0|53=>284|55=>130|4=>4|46=>324|45=>323|50=>221|5=>5|9=>9|66=>368|70=>372|76=>385|77=>386|a=>a,λ|a=>a⟩
def Tryz.EV:Go.Proofs.SlLaysF.n6 Tryz.prog Tryz.ZN:= {
 mixed:=a9e
 f6:=⟨Tryz.f118.name,a9d,Tryz.func118.trans (congrArg some a9e)⟩
 f14:=⟨Tryz.f183.name,a9d,Tryz.func183.trans (congrArg some a9e)⟩
 f15:=Tryz.func184.trans (congrArg some a9e)
 f20:=⟨Tryz.f259.name,a9d,Tryz.func259.trans (congrArg some a9e)⟩
 f21:=⟨Tryz.f260.name,a9d,Tryz.func260.trans (congrArg some a9e)⟩
 f22:=⟨Tryz.f261.name,a9d,Tryz.func261.trans (congrArg some a9e)⟩
 f23:=⟨Tryz.f262.name,a9d,Tryz.func262.trans (congrArg some a9e)⟩
 f24:=⟨Tryz.f263.name,a9d,Tryz.func263.trans (congrArg some a9e)⟩
 f25:=⟨Tryz.f264.name,a9d,Tryz.func264.trans (congrArg some a9e)⟩
 f26:=⟨Tryz.f265.name,a9d,Tryz.func265.trans (congrArg some a9e)⟩
 f27:=⟨Tryz.f266.name,a9d,Tryz.func266.trans (congrArg some a9e)⟩
 f28:=Tryz.func267.trans (congrArg some a9e)
 f29:=Tryz.func268.trans (congrArg some a9e)
 f46:=⟨Tryz.f316.name,a9d,Tryz.func316.trans (congrArg some a9e)⟩
 f47:=Tryz.func317.trans (congrArg some a9e)
 f48:=Tryz.func318.trans (congrArg some a9e)
 f49:=⟨Tryz.f319.name,a9d,Tryz.func319.trans (congrArg some a9e)⟩
 f50:=⟨Tryz.f320.name,a9d,Tryz.func320.trans (congrArg some a9e)⟩
 f57:=⟨Tryz.f346.name,a9d,Tryz.func346.trans (congrArg some a9e)⟩
 t0:=Tryz.underlying0
 a0:=Tryz.isAgg0
 z0:=Tryz.sizeOf0
 v0:=Tryz.zeroValue0
 t3:=Tryz.underlying3
 a3:=Tryz.isAgg3
 z3:=Tryz.sizeOf3
 v3:=Tryz.zeroValue3
 t4:=Tryz.underlying4
 a4:=Tryz.isAgg4
 z4:=Tryz.sizeOf4
 v4:=Tryz.zeroValue4
 t5:=Tryz.underlying5
 a5:=Tryz.isAgg5
 z5:=Tryz.sizeOf5
 v5:=Tryz.zeroValue5
 t9:=Tryz.underlying9
 a9:=Tryz.isAgg9
 z9:=Tryz.sizeOf9
 v9:=Tryz.zeroValue9
 t22:=Tryz.underlying37
 a22:=Tryz.isAgg37
 z22:=Tryz.sizeOf37
 v22:=Tryz.zeroValue37
 a24:=Tryz.isAgg24
 z24:=Tryz.sizeOf24
 t25:=Tryz.underlying196
 a25:=Tryz.isAgg196
 z25:=Tryz.sizeOf196
 v25:=Tryz.zeroValue196
 t39:=Tryz.underlying213
 a39:=Tryz.isAgg213
 z39:=Tryz.sizeOf213
 v39:=Tryz.zeroValue213
 t45:=Tryz.underlying323
 a45:=Tryz.isAgg323
 z45:=Tryz.sizeOf323
 v45:=Tryz.zeroValue323
 t46:=Tryz.underlying324
 a46:=Tryz.isAgg324
 z46:=Tryz.sizeOf324
 v46:=Tryz.zeroValue324
 t50:=Tryz.underlying221
 a50:=Tryz.isAgg221
 z50:=Tryz.sizeOf221
 v50:=Tryz.zeroValue221
 t53:=Tryz.underlying284
 a53:=Tryz.isAgg284
 z53:=Tryz.sizeOf284
 v53:=Tryz.zeroValue284
 t55:=Tryz.underlying130
 a55:=Tryz.isAgg130
 z55:=Tryz.sizeOf130
 v55:=Tryz.zeroValue130
 t66:=Tryz.underlying368
 a66:=Tryz.isAgg368
 z66:=Tryz.sizeOf368
 v66:=Tryz.zeroValue368
 t70:=Tryz.underlying372
 a70:=Tryz.isAgg372
 z70:=Tryz.sizeOf372
 v70:=Tryz.zeroValue372
 t76:=Tryz.underlying385
 a76:=Tryz.isAgg385
 z76:=Tryz.sizeOf385
 v76:=Tryz.zeroValue385
 t77:=Tryz.underlying386
 a77:=Tryz.isAgg386
 z77:=Tryz.sizeOf386
 v77:=Tryz.zeroValue386}
end Go.Proofs
namespace Go.Proofs.YtlgnfcaolejgeaaGreat
open Go Go.bx
variable{f t e4:U}
theorem ZO {b c:U} (h: ∀a,t a=none->f a=none) (k: ∀a,c a≠none->f a=none\/b a≠none):(e4.part t c).sub (e4.part f b):=λa o d=>by
 rw[U.part]at d|-;grind
variable{e i v O b8 j0:Nat}{Y:bq}
def yn (c:f.sub t):(f.set e Y).sub (t.set e Y):=λd h a=>by
 by_cases b:d=e
 .subst b;rw[U.ah]at a|-;exact a
 .rw[U.ao _ _ b]at a|-;exact c _ _ a
theorem yo {d h:U}{o:bq} (p:f.sub t) (r:e4=f.set e o) (k:f e=none):
  (d.part (t.set e Y) ((t.part e4 h).set e Y)).sub (d.part f h):=ZO (λc a=>by
   by_cases b:c=e
   .subst b;exact k
   .rw[U.ao _ _ b]at a;exact U.bF p a) λc a=>by
   by_cases b:c=e
   .subst b;exact .inl k
   .rw[U.ao _ _ b,U.part]at a;split at a;simp_all [U.ao]
    .trivial
theorem uE {a:U} (b:f=e4.set e Y) (c:t e=none):a.part f t e=none:=by simp_all [U.part,U.ah]
def aC.Ok (a:Nat):aC->Prop
 | .nil=>True
 | .node b _ c d=>b.length=a/\c.Ok a/\d.Ok a
theorem aC.Ok.all {c:Nat}: ∀ {d:aC},d.Ok c-> ∀b∈d.all,b.length=c
 | .nil,_,b,a=>by trivial
 | .node o live p r,⟨h1,h,k⟩,b,a=>by
  simp only[aC.all,a4M]at a;rcases a with (a|a)|a
  .exact h.all b a
  .exact k.all b a
  simp_all
def hA (d:Nat) (h:aC) (k:Nat):aC:=
 match h with
 | .nil=> .nil
 | .node c live a b=>if max a.size b.size>2*(aC.node c live a b).size/3+1 then fP d (aC.node c live a b).all.length (aC.node c live a b).all k else .node c live a b
theorem yp (o:Nat) (j:0<o) (l:o<=8) (d:List Int) (h:Bool) (a b:aC) (F:R) (p:Nat) (k r:U) (G:dN r (.node d h a b) F) (L:r.sub k) (m:(aC.node d h a b).Ok o) (x:(aC.node d h a b).size<=100000) (k1:p<=100000):
  AC Tryz.prog 96 [F,.v (.int .i64 (p:Int))] k λy P=>k.sub P/\dN (P.part k r) (hA o (.node d h a b) p) y:=by
 have z:=G.mono L;obtain⟨k2,k3,y,n,rfl,q,s,t⟩:=id z;have k4:=U.ae q;have u:a.size<=100000:=by simp only[aC.size]at x;omega
 have w:b.size<=100000:=by simp only[aC.size]at x;omega
 refine aN hm LY ?_;refine bc (qQ a y k s a8Z) ?_;refine bc (qQ b n k t a8Z) ?_;have A:=lq (aC.node d h a b);have S:=qQ _ _ k z a8Z;rw[hA];have B:=uD o j l (aC.node d h a b).all.length (aC.node d h a b).all;have H:=sI _ _ k z a8Z;have I:=m.all;generalize aC.node d h a b=K at*;obtain⟨c,T⟩: ∃c,K.size=c:=⟨_,rfl⟩;obtain⟨C,V⟩: ∃c,a.size=c:=⟨_,rfl⟩;obtain⟨D,W⟩: ∃c,b.size=c:=⟨_,rfl⟩;rw[T]at S x A|-;rw[V]at u|-;rw[W]at w|-;clear T V W;have M:(2*(c:Int)).tdiv 3=((2*c/3:Nat)):=by grind
 obtain⟨E,e⟩: ∃E,2*c/3=E:=⟨_,rfl⟩;rw[e]at M|-;have N:max (C:Int) (D)=((max C D)):=a8Z;obtain⟨f,g⟩: ∃f,max C D=f:=⟨_,rfl⟩;rw[g]at N|-;have hm:E<=100000:=a8Z;clear e g;refine bc S ?_;refine aG (λO=> ?_) λO=> ?_
 .rw[if_pos a8Z];refine ai H ?_;rintro _ Q ⟨X,Y,i,Z,rfl⟩;refine aa ?_;refine ai (B X Y p Q Z I a8Z a8Z a8Z) ?_;rintro v k5 ⟨j9,k0⟩;refine aa ?_;exact⟨_,U.a1,U.ar i.sub j9,k0.mono (ZJ i.sub)⟩
 .rw[if_neg a8Z];exact⟨_,U.a1,U.a1,G.mono (pv L)⟩
theorem qS (b:Nat): ∀(c:Nat) (a:List (List Int)) (dep:Nat),(fP b c a dep).size<=a.length
 |0,_,_=>a5d _
 |c+1,a,dep=>by
  rw[fP];split
  .exact a5d _
  .rename_i d;have:=a5E.2 d;have h:=qS b c ((ea (dep%b) a).take (a.length/2)) (dep+1);have k:=qS b c ((ea (dep%b) a).drop (a.length/2+1)) (dep+1);grind[List.length_take,pw,List.length_drop,aC.size]
theorem yq (b:Nat): ∀(d:Nat) (h:List (List Int)) (dep:Nat),(∀a∈h,a.length=b)->(fP b d h dep).Ok b
 |0,_,_,_=>trivial
 |d+1,h,dep,o=>by
  rw[fP];split
  .trivial
  .rename_i p;have:=a5E.2 p;have k: ∀a∈ea (dep%b) h,a.length=b:=λa c=>o a (qR.1 c);refine⟨?_,yq b d _ _ λa c=>k a (a4K c),yq b d _ _ λa c=>k a (a5b c)⟩;grind[ea,pw,List.getD,List.getElem?_eq_getElem,List.getElem_mem]
theorem ZP (b:Nat) (a:aC) (c:Nat):(hA b a c).size<=a.size:=by
 unfold hA;split
 .trivial
 .split
  .exact a5u (qS _ _ _ _) (lq _)
  .omega
variable{a8:aC}
def yr (b:Nat) (a:a8.Ok e):(hA e a8 b).Ok e:=by
 unfold hA;split
 .trivial
 .split
  .exact yq _ _ _ _ a.all
  .exact a
def cY (a:Nat) (b:List Int):aC->Nat->aC×Bool
 | .nil,_=>(.node b true .nil .nil,true)
 | .node c live d h,dep=>
  if c=b then(hA a (.node c true d h) dep,!live)
  else if cH (dep%a) b c<0 then(hA a (.node c live (cY a b d (dep+1)).1 h) dep,(cY a b d (dep+1)).2)
  else(hA a (.node c live d (cY a b h (dep+1)).1) dep,(cY a b h (dep+1)).2)
theorem px (a:Nat) (b:List Int): ∀(c:aC) (dep:Nat),(cY a b c dep).1.size<=c.size+1
 | .nil,_=>a5c _
 | .node k live d h,dep=>by
  have o:=px a b d (dep+1);have p:=px a b h (dep+1);grind[cY,Nat.le_trans,ZP,aC.size]
def uF {a:Nat}{b:List Int} (c:b.length=a): ∀ {r:aC} (dep:Nat),r.Ok a->(cY a b r dep).1.Ok a
 | .nil,_,_=>⟨c,trivial,trivial⟩
 | .node d live h k,dep,⟨h1,o,p⟩=>by
  rw[cY];split
  .exact yr (a8:= .node d true h k) _ ⟨h1,o,p⟩
  .split
   .exact yr (a8:= .node d live (cY a b h (dep+1)).1 k) _ ⟨h1,uF c _ o,p⟩
   .exact yr (a8:= .node d live h (cY a b k (dep+1)).1) _ ⟨h1,o,uF c _ p⟩
def ys (a:Nat) (E:0<a) (P:a<=8) (o:List Int) (g:Own) (S:o.length=a): ∀(T:aC) (V:R) (dep:Nat) (x y:U),dN y T V->y.sub x->T.Ok a->T.size+1+dep<=100000->
  AC Tryz.prog 54 [V,.J (ad o) g,.v (.int .i64 (dep:Int))] x λk H=>x.sub H/\ ∃d,k= .aK [d,.v (.bool (cY a o T dep).2)]/\dN (H.part x y) (cY a o T dep).1 d
 | .nil,V,dep,x,y,q,z,I,K=>by
  obtain rfl:V= .v (.pointer none):=q;refine aN hm Bb ?_;refine aM λb h=> ?_;refine aa ?_;exact⟨_,U.a1,U.af U.a1 h,_,rfl,b,g,_,_,rfl,(uC h).trans (U.ah _ _ _),rfl,rfl⟩
 | .node c live F G,V,dep,x,y,q,z,I,K=>by
  obtain⟨M,p,k,d,rfl,N,i,j⟩:=q;have W:=z _ _ N;have O:=i.mono z;have Q:=j.mono z;obtain⟨s,l,m⟩:=id I;have k4:=U.ae W;have k5:=bH (q:=o);have k6:=O.cells;have k7:=Q.cells;refine aN hm Bb ?_;refine bp λb h=> ?_;have X:=U.af (Y:= .cells [.J (ad c) p,.v (.bool live),k,d]) U.a1 h;have k8:=U.ae (X _ _ W);have k9:M≠b:=by rintro rfl;rw[h]at W;cases W
  have C:=U.bF z h;obtain⟨n,Y⟩: ∃n,n=x.set b (.cells [.J (ad c) p,.v (.bool live),k,d]):=⟨_,rfl⟩;simp only[aC.size]at K;refine aa ?_;refine ai (nn c o _ _ _ a8Z) ?_;rintro _ _ ⟨rfl,rfl⟩;refine aa ?_;refine aG (λt=> ?_) λt=> ?_
  .subst t;have Z:dN ((x.part n y).set b (.cells [.J (ad c) p,.v (.bool true),k,d])) (.node c true F G) (.ptr b 0):=by have r:=U.af (Y:= .cells [.J (ad c) p,.v (.bool true),k,d]) (pv (e4:=n) z) C;exact⟨b,p,k,d,rfl,U.ah _ _ _,i.mono r,j.mono r⟩
   refine ai (yp a E P c true F G _ dep _ _ Z (yn qP) ⟨s,l,m⟩ (by simp only[aC.size];omega) a8Z) ?_;rintro v L ⟨r,D⟩;have l0:=U.ae (r _ _ (U.af U.a1 h _ _ W));refine aa ?_;rw[cY,if_pos rfl];exact⟨_,U.a1,U.ar (U.af U.a1 h) r,_,rfl,D.mono (yo U.a1 Y h)⟩
  rw[cY,if_neg t];have l1:(dep:Int).tmod (a:Int)=((dep%a:Nat)):=rfl;refine ai (yk o c _ _ (dep%a) _ (by rw[S];exact a6A _ E) a8Z a8Z) ?_;rintro _ _ ⟨rfl,rfl⟩;refine aa ?_;refine aG (λc2=> ?_) λc2=> ?_
  .refine ai (ys a E P o g S F k (dep+1) _ y i (U.af z C) l a8Z) ?_;rintro _ L ⟨r,v,rfl,D⟩;have u:=r _ _ (U.ah _ _ _);have j9:ee L b=some [.J (ad c) p,.v (.bool live),k,d]:=by simp[ee,u]
   have k0:=D.cells;have e:=U.ar (U.af U.a1 h) r;rw[if_pos c2];refine aa ?_;have f:=U.af (Y:= .cells [.J (ad c) p,.v (.bool live),v,d]) U.a1 (uE rfl C:L.part (x.set b (.cells [.J (ad c) p,.v (.bool live),k,d])) y b=none);have w:dN _ (.node c live (cY a o F (dep+1)).1 G) (.ptr b 0):=⟨b,p,v,d,rfl,U.ah _ _ _,D.mono f,j.mono (U.ar (pv (U.ar (U.af z C) r)) f)⟩;have k1:=px a o F (dep+1);refine ai (yp a E P _ _ _ _ _ dep _ _ w (yn qP) ⟨s,uF S _ l,m⟩ (by simp only[aC.size];omega) a8Z) ?_;rintro k2 k3 ⟨A,B⟩;refine aa ?_;exact⟨_,U.a1,U.ar (U.af e h) A,_,rfl,B.mono (yo e rfl h)⟩
  .refine ai (ys a E P o g S G d (dep+1) _ y j (U.af z C) m a8Z) ?_;rintro _ L ⟨r,v,rfl,D⟩;have u:=r _ _ (U.ah _ _ _);have j9:ee L b=some [.J (ad c) p,.v (.bool live),k,d]:=by simp[ee,u]
   have k0:=D.cells;have e:=U.ar (U.af U.a1 h) r;rw[if_neg c2];refine aa ?_;have f:=U.af (Y:= .cells [.J (ad c) p,.v (.bool live),k,v]) U.a1 (uE rfl C:L.part (x.set b (.cells [.J (ad c) p,.v (.bool live),k,d])) y b=none);have w:dN _ (.node c live F (cY a o G (dep+1)).1) (.ptr b 0):=⟨b,p,k,v,rfl,U.ah _ _ _,i.mono (U.ar (pv (U.ar (U.af z C) r)) f),D.mono f⟩;have k1:=px a o G (dep+1);refine ai (yp a E P _ _ _ _ _ dep _ _ w (yn qP) ⟨s,l,uF S _ m⟩ (by simp only[aC.size];omega) a8Z) ?_;rintro k2 k3 ⟨A,B⟩;refine aa ?_;exact⟨_,U.a1,U.ar (U.af e h) A,_,rfl,B.mono (yo e rfl h)⟩
theorem uG {a:U}{b:bq} (d:t=f.set e b) (h:f e=none):((e4.part t a).set e Y).sub ((e4.set e Y).part f a):=λc k o=>by
 by_cases p:c=e;grind[U.ah,uC];simp_all [U.ao,U.part]
def cj (b:Nat) (a:List Int):aC->Nat->aC×Bool
 | .nil,_=>(.nil,false)
 | .node c live d h,dep=>
  if c=a then(.node c false d h,live)
  else if cH (dep%b) a c<0 then(.node c live (cj b a d (dep+1)).1 h,(cj b a d (dep+1)).2)
  else(.node c live d (cj b a h (dep+1)).1,(cj b a h (dep+1)).2)
theorem py (a:Nat) (b:List Int): ∀(c:aC) (dep:Nat),(cj a b c dep).1.size=c.size
 | .nil,_=>rfl
 | .node k live d h,dep=>by
  have o:=py a b d (dep+1);have p:=py a b h (dep+1);grind[cj,aC.size]
def yt {a:Nat}{h:List Int}: ∀ {b:aC} (dep:Nat),b.Ok a->(cj a h b dep).1.Ok a
 | .nil,_,_=>trivial
 | .node k live o p,dep,⟨h1,c,d⟩=>by
  rw[cj];split
  .trivial
  .split
   .exact⟨h1,yt _ c,d⟩
   .exact⟨h1,c,yt _ d⟩
def yu (b:Nat) (V:0<b) (s:b<=8) (p:List Int) (W:Own) (e:p.length=b): ∀(D:aC) (E:R) (dep:Nat) (y z:U),dN z D E->z.sub y->D.Ok b->D.size+1+dep<=1000000->
  AC Tryz.prog 89 [E,.J (ad p) W,.v (.int .i64 (dep:Int))] y λc t=>y.sub t/\ ∃a,c= .aK [a,.v (.bool (cj b p D dep).2)]/\dN (t.part y z) (cj b p D dep).1 a
 | .nil,E,dep,y,z,f,r,u,w=>by
  obtain rfl:E= .v (.pointer none):=f;refine aN hm Bg ?_;exact⟨_,U.a1,U.a1,_,rfl,rfl⟩
 | .node d live g i,E,dep,y,z,f,r,u,w=>by
  obtain⟨B,o,c,a,rfl,H,P,S⟩:=f;have T:=r _ _ H;have I:=P.mono r;have K:=S.mono r;obtain⟨Y,M,N⟩:=id u;have Z:=U.ae T;have j9:=bH (q:=p);have k0:=I.cells;have k1:=K.cells;refine aN hm Bg ?_;refine bp λh k=> ?_;have O:=U.af (Y:= .cells [.J (ad d) o,.v (.bool live),c,a]) U.a1 k;have k2:=U.ae (O _ _ T);have k3:B≠h:=by rintro rfl;rw[k]at T;cases T
  have C:=U.bF r k;obtain⟨j,A⟩: ∃j,j=y.set h (.cells [.J (ad d) o,.v (.bool live),c,a]):=⟨_,rfl⟩;simp only[aC.size]at w;refine aa ?_;refine ai (nn d p _ _ _ a8Z) ?_;rintro _ _ ⟨rfl,rfl⟩;refine aa ?_;refine aG (λl=> ?_) λl=> ?_
  .subst l;rw[cj,if_pos rfl];have x:=U.af (Y:= .cells [.J (ad d) o,.v (.bool false),c,a]) (pv (e4:=j) r) C;exact⟨_,U.a1,U.af U.a1 k,_,rfl,h,o,c,a,rfl,(uC k).trans (U.ah _ _ _),P.mono (U.ar x (uG A k)),S.mono (U.ar x (uG A k))⟩
  rw[cj,if_neg l];have k4:(dep:Int).tmod (b:Int)=((dep%b:Nat)):=rfl;refine ai (yk p d _ _ (dep%b) _ (by rw[e];exact a6A _ V) a8Z a8Z) ?_;rintro _ _ ⟨rfl,rfl⟩;refine aa ?_;refine aG (λc2=> ?_) λc2=> ?_
  .refine ai (yu b V s p W e g c (dep+1) _ z P (U.af r C) M a8Z) ?_;rintro _ F ⟨x,v,rfl,G⟩;have m:=x _ _ (U.ah _ _ _);have Q:ee F h=some [.J (ad d) o,.v (.bool live),c,a]:=by simp[ee,m]
   have X:=G.cells;have n:=U.ar (U.af U.a1 k) x;rw[if_pos c2];refine aa ?_;have L:=U.af (Y:= .cells [.J (ad d) o,.v (.bool live),v,a]) U.a1 (uE rfl C:F.part (y.set h (.cells [.J (ad d) o,.v (.bool live),c,a])) z h=none);have q:dN _ (.node d live (cj b p g (dep+1)).1 i) (.ptr h 0):=⟨h,o,v,a,rfl,U.ah _ _ _,G.mono L,S.mono (U.ar (pv (U.ar (U.af r C) x)) L)⟩;exact⟨_,U.a1,U.af n k,_,rfl,q.mono (uG rfl k)⟩
  .refine ai (yu b V s p W e i a (dep+1) _ z S (U.af r C) N a8Z) ?_;rintro _ F ⟨x,v,rfl,G⟩;have m:=x _ _ (U.ah _ _ _);have Q:ee F h=some [.J (ad d) o,.v (.bool live),c,a]:=by simp[ee,m]
   have X:=G.cells;have n:=U.ar (U.af U.a1 k) x;rw[if_neg c2];refine aa ?_;have L:=U.af (Y:= .cells [.J (ad d) o,.v (.bool live),c,v]) U.a1 (uE rfl C:F.part (y.set h (.cells [.J (ad d) o,.v (.bool live),c,a])) z h=none);have q:dN _ (.node d live g (cj b p i (dep+1)).1) (.ptr h 0):=⟨h,o,c,v,rfl,U.ah _ _ _,P.mono (U.ar (pv (U.ar (U.af r C) x)) L),G.mono L⟩;exact⟨_,U.a1,U.af n k,_,rfl,q.mono (uG rfl k)⟩
def lr (a:Nat) (b:List Int) (c:aC):aC×Bool:=
 if(cj a b c 0).2=true/\2*(cj a b c 0).1.all.length<(cj a b c 0).1.size then(fP a (cj a b c 0).1.all.length (cj a b c 0).1.all 0,true)else cj a b c 0
def ZQ (a:Nat) (z:0<a) (C:a<=8) (b:List Int) (D:Own) (L:b.length=a) (c:aC) (o:R) (k:U) (P:dN k c o) (E:c.Ok a) (u:c.size+1<=100000):
  AC Tryz.prog 52 [o,.J (ad b) D] k λS F=>k.sub F/\ ∃d,S= .aK [d,.v (.bool (lr a b c).2)]/\dN F (lr a b c).1 d:=by
 refine aN hm KQ ?_;refine ai (yu a z C b D L c o 0 k k P U.a1 E a8Z) ?_;rintro _ T ⟨p,d,rfl,V⟩;have r:=V.mono qP;have W:=yt (h:=b) 0 E;have cm:=py a b c 0;rw[lr];generalize cj a b c 0=e at*;obtain⟨h,f⟩:=e
 dsimp only at*
 have w:=lq h;cases f with
 |false=>refine aa ?_;rw[if_neg a9a];exact⟨_,U.a1,p,d,rfl,r⟩
 |true=>
  refine aa ?_;refine ai (sI h d T r a8Z) ?_;rintro _ G ⟨A,B,x,g,rfl⟩;have y:=r.mono x.sub;have H:=g.len;refine aa ?_;refine bc (qQ h d G y a8Z) ?_;refine aG (λi=> ?_) λi=> ?_
  .rw[if_pos ⟨rfl,a8Z⟩];refine ai (sI h d G y a8Z) ?_;rintro _ j ⟨l,m,n,q,rfl⟩;refine aa ?_;refine ai (uD a z C h.all.length h.all l m 0 j q W.all a8Z a8Z a8Z) ?_;rintro v I ⟨s,t⟩;refine aa ?_;exact⟨_,U.a1,U.ar p (U.ar x.sub (U.ar n.sub s)),v,rfl,t.mono qP⟩
  .rw[if_neg a8Z];exact⟨_,U.a1,U.ar p x.sub,d,rfl,y⟩
def ZR (a:UInt32):bn .mul (.int .u32 256) (.int .u32 a.toNat)=some (.int .u32 (256*a).toNat):=BO (x:=256) (y:=a)
def pz (a:UInt32):bn .sub (.int .u32 4294967295) (.int .u32 a.toNat)=some (.int .u32 (~~~a).toNat):=by
 have b:=BN (x:=4294967295) (y:=a);have c:(4294967295) - a= ~~~a:=by apply UInt32.toNat_inj.1;rw[UInt32.toNat_sub,UInt32.toNat_not];have:=a.toNat_lt;simp;omega
 rw[c]at b;exact b
theorem sJ (a:UInt32):bn .quo (.int .u32 a.toNat) (.int .u32 8)=some (.int .u32 (a>>>3).toNat):=by have b:=a.toNat_lt;grind[Int.tdiv,Int.tdiv_eq_ediv_of_nonneg,UInt32.toNat_shiftRight,Nat.shiftRight_eq_div_pow,bn,fq,hF,qf]
theorem sK (a:UInt32):bn .quo (.int .u32 a.toNat) (.int .u32 1024)=some (.int .u32 (a>>>10).toNat):=by have b:=a.toNat_lt;grind[Int.tdiv,Int.tdiv_eq_ediv_of_nonneg,UInt32.toNat_shiftRight,Nat.shiftRight_eq_div_pow,bn,fq,hF,qf]
theorem ml (c:UInt32) (d:Int) (a:Nat) (r:0<a/\a<32) (h:d=((32 - a:Nat):Int)) (b:U):AC Tryz.prog 324 [.v (.int .u32 c.toNat),.v (.int .u64 d)] b λk o=>o=b/\k= .v (.int .u32 (rotl c a).toNat):=by
 subst h;have p:bn .sub (.int .u64 32) (.int .u64 ((32 - a:Nat)))=some (.int .u64 (a)):=by grind[bn,fq,hF,kp]
 refine bd hm RX a9a ?_;simp -dsimp -implicitDefEqProofs (disch:=first|omega|assumption|(simp only[bk,Nat.reduceAdd];try omega)) only[↓rW,rX,ak,ofConst,cT,simprocAttr,fW,aZ,ba,a6c,↓rZ,s0,ne_eq,not_true_eq_false,not_false_eq_true,Int.reduceNe,a6h,a6t,p];refine⟨b,U.a1,rfl,?_⟩;simp only[rotl];rw[UInt32.or_comm]
def ZS (a:U):AC Tryz.prog 191 [] a λc d=> ∃b,a b=none/\c= .an b 64 64 1/\d=a.set b (.cells (wl mX)):=by refine bd hm OS a9a ?_;simp -dsimp -implicitDefEqProofs (disch:=first|omega|assumption|(simp only[bk,Nat.reduceAdd];try omega)) only[↓rW,rX,ak,ofConst,cT,simprocAttr,fW,aZ,ba,a6c,↓rZ,s0,ne_eq,not_true_eq_false,not_false_eq_true,Int.reduceNe,a6h,a6t];refine eP (by simp[aS,R.cells]) a9a λh k=> ?_;simp -dsimp -implicitDefEqProofs (disch:=first|omega|assumption|(simp only[bk,Nat.reduceAdd];try omega)) only[↓rW,rX,ak,ofConst,cT,simprocAttr,fW,aZ,ba,a6c,↓rZ,s0,ne_eq,not_true_eq_false,not_false_eq_true,Int.reduceNe,a6h,a6t];refine⟨_,U.a1,h,k,rfl,?_⟩;rfl
variable{g A e0:List R}{h5:List UInt32}
def uH:(wl h5++g).length=h5.length+g.length:=by simp[wl]
theorem mm (a:e<h5.length):aX false 1 ((wl h5++g).drop e)= .v (.int .u32 (h5.getD e 0).toNat):=by grind[wl,aX,List.map_drop,List.drop_eq_getElem_cons,List.getD]
def pA (a:0<h5.length):aX false 1 (wl h5++g)= .v (.int .u32 (h5.getD 0 0).toNat):=mm (e:=0) a
theorem ZT (a:UInt32) (b:e<h5.length):putAt (wl h5++g) e [.v (.int .u32 a.toNat)]=wl (h5.set e a)++g:=by rw[<-Cr a b,putAt,putAt];grind[wl,eJ,List.length_singleton]
def qT (a:List UInt8) (b:Nat):Nat->UInt32
 |0=>0
 |c+1=>256*qT a b c+(a.getD (4*b+c) 0).toUInt32
def yv (a b c:Nat) (d:b<2^c):a*2^c|||b=a*2^c+b:=by have:=a7d (a:=a) d;rw[a6M]at this;omega
def ZU (b a c d:Nat) (h:a<256) (k:c<256) (o:d<256):b*2^24|||a*2^16|||c*2^8|||d=((b*256+a)*256+c)*256+d:=by
 rw[yv b (a*2^16) 24 a8Z,show b*2^24+a*2^16=(b*256+a)*2^16 by omega,yv (b*256+a) (c*2^8) 16 a8Z,
  show(b*256+a)*2^16+c*2^8=((b*256+a)*256+c)*2^8 by omega,yv _ d 8 a8Z]
 all_goals omega
def ZV (a b c d:UInt8):(256:UInt32)*((256:UInt32)*((256:UInt32)*((256:UInt32)*(0:UInt32)+a.toUInt32)+b.toUInt32)+c.toUInt32)+d.toUInt32=a.toUInt32<<<24|||b.toUInt32<<<16|||c.toUInt32<<<8|||d.toUInt32:=by
 have z:=a.toNat_lt;have h:=b.toNat_lt;have k:=c.toNat_lt;have o:=d.toNat_lt;apply UInt32.toNat_inj.1;have p:(a.toUInt32<<<24).toNat=a.toNat*2^24:=by rw[UInt32.toNat_shiftLeft];simp[a6M];omega
 have r:(b.toUInt32<<<16).toNat=b.toNat*2^16:=by rw[UInt32.toNat_shiftLeft];simp[a6M];omega
 have x:(c.toUInt32<<<8).toNat=c.toNat*2^8:=by rw[UInt32.toNat_shiftLeft];simp[a6M];omega
 have y:d.toUInt32.toNat=d.toNat:=a9a;rw[UInt32.toNat_or,UInt32.toNat_or,UInt32.toNat_or,p,r,x,y,ZU _ _ _ _ h k o];simp only[UInt32.toNat_add,UInt32.toNat_mul,UInt8.toNat_toUInt32,UInt32.reduceToNat];omega
def ZW (a:List UInt8) (b:Nat):qT a b 4=word a b:=ZV _ _ _ _
def ZX (b:h5.length<64):ef (h5++ [0])=ef h5:=by have a:64 - h5.length=(64 -(h5.length+1))+1:=a8Z;simp only[ef,a,a6K];simp
def ZY {b:UInt32} (a:UInt32) (c:e=h5.length) (d:h5.length<64):putAt (ef (h5++ [b])) e [.v (.int .u32 a.toNat)]=ef (h5++ [a]):=by subst c;simp[putAt,ef,a5V]
variable{n b3:R}
def EW {v:List UInt32} (c:au f t 1 (wl v) n) (o:v≠ []): ∃a b d,n= .an a v.length b 1/\f a=none/\t a=some (.cells (wl v++d))/\v.length+d.length=b/\b<=maxLen:=by
 obtain⟨_,c|⟨a,C,b,p,rfl,r,x,y,h,k,D,z⟩⟩:=c
 .exact absurd (by simpa[wl] using c.1) o
 .simp only[a5n,eJ]at y h k;subst k;refine⟨a,b,p.drop v.length,rfl,r,?_,?_,z⟩
  .rw[<-h,a5e];exact x
  .simp;omega
theorem ZZ (r F:List UInt32) (y:List UInt8) (n:r.length=8) (a04:F.length=64) (D S:Nat) (k1:List R) (w A:Nat) (k6:List R) (L:Nat) (z:U)
  (k7:z D=some (.cells (wl r++k1))) (k8:z w=some (.cells k6)) (a52:A+64<=k6.length) (a05: ∀k9,k9<64->aX false 1 (k6.drop (A+k9))= .v (.int .u8 (y.getD k9 0).toNat)) (l0:z L=some (.cells (wl F))):
  AC Tryz.prog 273 [.an D 8 S 1,.bA w A 64 e 1,.an L 64 64 1] z λa06 E=>au z E 1 (wl (List.zipWith (·+ ·) (iv F (sched y) r) r)) a06:=by
 refine bd hm QU a9a ?_;refine aE (c2 @aZ @ba) ?_;refine wM (e:=64) a8Z a8Z λx k2=> ?_;have a07:D≠x:=by rintro rfl;rw[k2]at k7;cases k7
 have l5:w≠x:=by rintro rfl;rw[k2]at k8;cases k8
 have a08:L≠x:=by rintro rfl;rw[k2]at l0;cases l0
 have a09:(List.replicate 64 [R.v (.int .u32 0)]).flatten=ef (first y 0):=rfl;rw[a09];refine aE (c2 @aZ @ba) ?_;refine cr (λb E=> ∃a:Nat,a<=16/\E=z.set x (.cells (ef (first y a)))/\b 0= .an D 8 S 1/\b 1= .bA w A 64 e 1/\b 2= .an L 64 64 1/\b 7= .an x 64 64 1/\b 8= .v (.int .i64 a))
  (λb _=>match b 8 with| .v (.int _ d)=>(16 - d).toNat| _=>0) ⟨0,a8Z,?_⟩ ?_
 .exact gT (c2 @aZ @ba)
 .rintro b _ ⟨a,l1,rfl,c,k3,h,k,k4⟩;have l2:(first y a).length=a:=by simp[first]
  by_cases o:(a:Int)<16
  .rw[<-ZX a8Z];refine aE (bt @c @k3 @h @k @k4 @o @aZ @ba) ?_;refine cr (λb E=> ∃d:Nat,d<=4/\E=z.set x (.cells (ef (first y a++ [qT y a d])))/\b 0= .an D 8 S 1/\b 1= .bA w A 64 e 1/\b 2= .an L 64 64 1/\b 7= .an x 64 64 1/\b 8= .v (.int .i64 a)/\b 9= .v (.int .i64 d))
    (λb _=>match b 9 with| .v (.int _ d)=>(4 - d).toNat| _=>0) ⟨0,a8Z,?_⟩ ?_
   .refine aE (c6 @c @k3 @h @k @k4 @aZ @ba) ?_;rfl
   .rintro q _ ⟨d,a56,rfl,l6,l7,l8,l9,n0,n1⟩;by_cases n2:(d:Int)<4
    .have T:(ef (first y a++ [qT y a d])).length=64:=s9 (by simp[l2];omega);have a10:aX false 1 ((ef (first y a++ [qT y a d])).drop a)= .v (.int .u32 (qT y a d).toNat):=by grind[la,List.getD]
     have l3:(4*(a)+(d:Int)).toNat=4*a+d:=a8Z;have a11:=a05 (4*a+d) a8Z;refine aE (wU @l6 @l7 @l8 @l9 @n0 @n1 @n2 @T @a10 @tC @l3 (U.ae k8) (a4F l5) @l5 @a11 @ZR @aZ @ba) ?_;rw[ZY _ l2.symm a8Z];exact⟨⟨d+1,a8Z,rfl,a9a⟩,a8Z⟩
    .obtain rfl:d=4:=a8Z;refine aE (cf @l6 @l7 @l8 @l9 @n0 @n1 @k4 @n2 @aZ @ba) ?_;refine⟨⟨a+1,a8Z,?_,a9a⟩,a8Z⟩;rw[ZW];simp only[first,a8u,a5y,a4U,a6k]
  .obtain rfl:a=16:=a8Z;refine aE (bt @c @k3 @h @k @k4 @o @aZ @ba) ?_;refine cr (λb E=> ∃(p:List UInt32) (a:Nat),a<=48/\p.length=16+a/\grow (48 - a) p=sched y/\b 0= .an D 8 S 1/\b 2= .an L 64 64 1/\b 7= .an x 64 64 1/\b 10= .v (.int .i64 ((16+a:Nat)))/\E=z.set x (.cells (ef p)))
    (λb _=>match b 10 with| .v (.int _ d)=>(64 - d).toNat| _=>0) ⟨first y 16,0,a8Z,l2,rfl,?_⟩ ?_
   .exact gT (bs @c @k3 @h @k @aZ @ba)
    all_goals rfl
   .rintro b _ ⟨p,a,l1,B,H,c,h,k,s,rfl⟩;by_cases o:((16+a:Nat):Int)<64
    .have T:(ef p).length=64:=s9 a8Z;have I:(((16+a:Nat):Int) - 15).toNat=a+1:=a8Z;have K:(((16+a:Nat):Int) - 2).toNat=a+14:=a8Z;have M:(((16+a:Nat):Int) - 16).toNat=a:=a8Z;have N:(((16+a:Nat):Int) - 7).toNat=a+9:=a8Z;refine aE (p2 @c @h @k @s @o @I @K @M @N @T @la @sJ @sK @aZ @ba) ?_;refine ai (ml _ _ 25 a9d a9d _) ?_;rintro _ _ ⟨rfl,rfl⟩;refine aE (p2 @c @h @k @s @o @I @K @M @N @T @la @sJ @sK @aZ @ba) ?_;refine ai (ml _ _ 14 a9d a9d _) ?_;rintro _ _ ⟨rfl,rfl⟩;refine aE (p2 @c @h @k @s @o @I @K @M @N @T @la @sJ @sK @aZ @ba) ?_;refine ai (ml _ _ 15 a9d a9d _) ?_;rintro _ _ ⟨rfl,rfl⟩;refine aE (p2 @c @h @k @s @o @I @K @M @N @T @la @sJ @sK @aZ @ba) ?_;refine ai (ml _ _ 13 a9d a9d _) ?_;rintro _ _ ⟨rfl,rfl⟩;refine aE (p2 @c @h @k @s @o @I @K @M @N @T @la @sJ @sK @aZ @ba) ?_;rw[x3 _ B.symm a8Z];refine⟨⟨_,a+1,a8Z,by simp[B];omega,?_,?_,rfl⟩,a8Z⟩
     .rw[<-H,show 48 - a=(48 -(a+1))+1 by omega,grow,more,B];rw[show 16+a - 16=a by omega,show 16+a - 15=a+1 by omega,show 16+a - 7=a+9 by omega,show 16+a - 2=a+14 by omega];rfl
     .simp;omega
    .obtain rfl:a=48:=a8Z;have a13:p=sched y:=H;have a14:ef p=wl p:=by simp[ef,B,wl]
     rw[a14];clear H;generalize sched y=a57 at*;subst a13;have a15:bN (z.set x (.cells (wl p))) 1 (.an D 8 S 1)=some (8,wl r):=by simp_all [U.ao,eJ,bN,U.ae]
     refine aE (bt @c @h @k @s @o @nX @aZ @ba) ?_;refine fg (au.zero U.a1) a8Z a15 (by rw[eJ,n]) (by rw[eJ,n];simp) (by rw[eJ,n];simp) λa61 P t=> ?_;rw[a4P]at t;refine aE (bm @c @h @k @aZ @ba) ?_;have V:(wl F).length=64:=by rw[eJ,a04]
     have W:(wl p).length=64:=by rw[eJ,B]
     have a16:(z.set x (.cells (wl p))) L=some (.cells (wl F)):=by rw[U.ao _ _ a08];exact l0
     have a18:(z.set x (.cells (wl p))) x=some (.cells (wl p)):=U.ah _ _ _;have l4:(z.set x (.cells (wl p))) D=some (.cells (wl r++k1)):=by rw[U.ao _ _ a07];exact k7
     have n3:z.sub (z.set x (.cells (wl p))):=U.af U.a1 k2;generalize z.set x (.cells (wl p))=a19 at*;refine cr (λb E=> ∃(a:Nat) (v:List UInt32),a<=64/\v.length=8/\iv (F.drop a) (p.drop a) v=iv F p r/\au a19 E 1 (wl v) (b 13)/\b 0= .an D 8 S 1/\b 2= .an L 64 64 1/\b 7= .an x 64 64 1/\b 14= .v (.int .i64 a))
      (λb _=>match b 14 with| .v (.int _ d)=>(64 - d).toNat| _=>0) ⟨0,r,a8Z,n,rfl,?_⟩ ?_
     .refine aE (bm @c @h @k @aZ @ba) ?_;exact t
     clear t;rintro b P ⟨a,v,l1,u,H,t,c,h,k,G⟩;have f:=t.1;obtain⟨k5,n4,O,C,n5,lZ,a27,a29⟩:=EW t (by intro g;rw[g]at u;cases u);rw[u]at C a27;by_cases o:(a:Int)<64
     .obtain⟨Q,X,Y,Z,g,j9,q,k0,rfl⟩: ∃Q X Y Z g j9 q k0,v= [Q,X,Y,Z,g,j9,q,k0]:=by
       match v,u with
       | [Q,X,Y,Z,g,j9,q,k0],_=>simp
      have i:(wl [Q,X,Y,Z,g,j9,q,k0]++O).length=8+O.length:=by rw[uH,u]
      have j:=U.ae lZ;have l:=U.ae (f _ _ a18);have m:=U.ae (f _ _ a16);refine aE (nY @c @h @k @C @G @o @i @j @l @m @mm @pA @hq @V @W @pz @a5f.{0} @a5h.{0} @aZ @ba) ?_;refine ai (ml _ _ 26 a9d a9d _) ?_;rintro _ P ⟨rfl,rfl⟩;refine aE (nY @c @h @k @C @G @o @i @j @l @m @mm @pA @hq @V @W @pz @a5f.{0} @a5h.{0} @aZ @ba) ?_;refine ai (ml _ _ 21 a9d a9d _) ?_;rintro _ P ⟨rfl,rfl⟩;refine aE (nY @c @h @k @C @G @o @i @j @l @m @mm @pA @hq @V @W @pz @a5f.{0} @a5h.{0} @aZ @ba) ?_;refine ai (ml _ _ 7 a9d a9d _) ?_;rintro _ P ⟨rfl,rfl⟩;refine aE (nY @c @h @k @C @G @o @i @j @l @m @mm @pA @hq @V @W @pz @a5f.{0} @a5h.{0} @aZ @ba) ?_;refine ai (ml _ _ 30 a9d a9d _) ?_;rintro _ P ⟨rfl,rfl⟩;refine aE (nY @c @h @k @C @G @o @i @j @l @m @mm @pA @hq @V @W @pz @a5f.{0} @a5h.{0} @aZ @ba) ?_;refine ai (ml _ _ 19 a9d a9d _) ?_;rintro _ P ⟨rfl,rfl⟩;refine aE (nY @c @h @k @C @G @o @i @j @l @m @mm @pA @hq @V @W @pz @a5f.{0} @a5h.{0} @aZ @ba) ?_;refine ai (ml _ _ 10 a9d a9d _) ?_;rintro _ P ⟨rfl,rfl⟩;refine aE (nY @c @h @k @C @G @o @i @j @l @m @mm @pA @hq @V @W @pz @a5f.{0} @a5h.{0} @aZ @ba) ?_;refine eP (by simp[aS,R.cells]) a9a λa30 n9=> ?_;refine aE (bs @c @h @k @G @aZ @ba) ?_;refine⟨⟨a+1,sa (F.getD a 0) (p.getD a 0) [Q,X,Y,Z,g,j9,q,k0],a8Z,rfl,?_,?_,a9a⟩,a8Z⟩;grind[Cv]
      .exact⟨U.af f (U.bF f n9),.inr ⟨a30,8,8,_,rfl,U.bF f n9,U.ah _ _ _,rfl,rfl,rfl,a8Z,a9d⟩⟩
     .obtain rfl:a=64:=a8Z;have a34:iv F p r=v:=by rw[<-H,a5S a8Z];rfl
      refine aE (bt @c @h @k @C @G @o @aZ @ba) ?_;have a00:D≠k5:=by rintro rfl;rw[n5]at l4;cases l4
      have a01:=U.bF n3 n5;have a36:=f _ _ l4;refine cr (λb E=> ∃a:Nat,a<=8/\b 0= .an D 8 S 1/\b 13= .an k5 8 n4 1/\b 19= .v (.int .i64 a)/\E=P.set k5 (.cells (wl (jJ a v r)++O)))
       (λb _=>match b 19 with| .v (.int _ d)=>(8 - d).toNat| _=>0) ⟨0,a8Z,?_⟩ ?_
      .have l3:jJ 0 v r=v:=rfl;rw[l3,U.p9 lZ];exact gT (aI @c @C @aZ @ba)
      .rintro b _ ⟨a,l1,c,C,a02,rfl⟩;by_cases o:(a:Int)<8
       .obtain⟨a38,a42⟩:=Ct v r u n a a8Z;have a43:(wl (jJ a v r)++O).length=8+O.length:=by rw[uH,a38]
        have a47:(wl r++k1).length=8+k1.length:=by rw[uH,n]
        refine aE (fu @c @C @a02 @o @a43 @a47 @mm @ZT @a42 (U.ae a36) @a00 (a4F a00) @aZ @ba) ?_;grind
       .obtain rfl:a=8:=a8Z;have a48:jJ 8 v r=List.zipWith (·+ ·) v r:=by grind[jJ,List.take_of_length_le,List.drop_of_length_le]
        have a03:(wl (List.zipWith (·+ ·) v r)).length=8:=by rw[eJ];simp;omega
        rw[a48];refine aE (bs @c @C @a02 @o @aZ @ba) ?_;rw[a34];refine⟨_,U.a1,U.af (U.ar n3 f) a01,.inr ⟨k5,8,n4,_,rfl,a01,U.ah _ _ _,?_,?_,by rw[a03],a8Z,a29⟩⟩
        .rw[a4y,a03];omega
        simp_all
def a0a (b:List UInt32) (h:List UInt8) (z:b.length=8) (k x:Nat) (y:List R) (o c:Nat) (d:List R) (p:Nat) (a:U)
  (C:a k=some (.cells (wl b++y))) (D:a o=some (.cells d)) (E:c+64<=d.length) (F: ∀r,r<64->aX false 1 (d.drop (c+r))= .v (.int .u8 (h.getD r 0).toNat)) (G:a p=some (.cells (wl mX))):
  AC Tryz.prog 273 [.an k 8 x 1,.bA o c 64 e 1,.an p 64 64 1] a λL P=>au a P 1 (wl (comp b h)) L:=
 ZZ b mX h z rfl k x y o c d p a C D E F G
end Go.Proofs.YtlgnfcaolejgeaaGreat
namespace Go.bx
open Go
variable{n b3:R}{f t e4:U}{e i v O b8 j0:Nat}
theorem yw {h:Nat×List R} (k:f.sub t) (o:bN f e n=some h):bN t e n=some h:=by
 have p: ∀b c,f.read b=some c->t.read b=some c:=by
  intro b c a;unfold U.read at a|-;cases d:f b with
  |none=>rw[d]at a;cases a
  |some r=>rw[k _ _ d];rw[d]at a;exact a
 unfold bN at o|-;grind
end Go.bx
namespace Go.Proofs.YtlgnfcaolejgeaaGreat
open Go Go.bx
def kE (a:List UInt8):List UInt8:=a++128::List.replicate (eg a.length) 0++cF (8*a.length)
def yx (a:List UInt8):(kE a).length=a.length+9+eg a.length:=by simp[kE,cF];omega
def a0b (a:List UInt8):(kE a).length%64=0:=by rw[yx];unfold eg;omega
theorem a0c (a:List UInt8):fh a=eh (blocks ((kE a).length/64) gl (kE a)):=by
 have c:=yx a;have d:eg a.length<64:=by unfold eg;omega
 have b:kE a=a++(128::List.replicate (eg a.length) 0++cF (8*a.length)):=by simp[kE]
 have h:iZ a.length (a.drop (64*(a.length/64)))=(kE a).drop (64*(a.length/64)):=by rw[b,a5Z a8Z];simp[iZ]
 have k:(kE a).length/64=a.length/64+((kE a).drop (64*(a.length/64))).length/64:=by rw[a4N];omega
 grind[fh,Cy,Cz]
theorem EX (b a:Nat) (d:a<8):(cF b).take a++ [UInt8.ofNat (b>>>(56 - 8*a)%256)]=(cF b).take (a+1):=by
 have c:UInt8.ofNat (b>>>(56 - 8*a)%256)=UInt8.ofNat (b>>>(56 - 8*a)):=by grind[UInt8.toNat_inj,UInt8.toNat_ofNat']
 rw[c];rcases(by omega:a=0\/a=1\/a=2\/a=3\/a=4\/a=5\/a=6\/a=7)with rfl|rfl|rfl|rfl|rfl|rfl|rfl|rfl<;>rfl
def yh (a:UInt32) (b:Nat):UInt8.ofNat ((a>>>UInt32.ofNat b).toNat%256)=(a>>>UInt32.ofNat b).toUInt8:=by apply a5s.1;rw[a5D];simp
theorem a0d (c:List UInt32) (k:c.length=8) (d:Nat) (p:d<32):(eh c).take d++ [UInt8.ofNat ((c.getD (d/4) 0>>>UInt32.ofNat (24 - 8*(d%4))).toNat%256)]=(eh c).take (d+1):=by
 rw[yh];have o: ∀h:UInt32,(h>>>UInt32.ofNat 0).toUInt8=h.toUInt8:=by intro h;simp
 have r: ∀a:Nat,a<8-> ∀b:Nat,b<4->(eh c).take (4*a+b)++ [(c.getD a 0>>>UInt32.ofNat (24 - 8*b)).toUInt8]=(eh c).take (4*a+b+1):=by
  match c,k with
  | [x,y,z,C,D,E,F,G],_=>
   intro a L b P;rcases(by omega:a=0\/a=1\/a=2\/a=3\/a=4\/a=5\/a=6\/a=7)with rfl|rfl|rfl|rfl|rfl|rfl|rfl|rfl<;>
    rcases(by omega:b=0\/b=1\/b=2\/b=3)with rfl|rfl|rfl|rfl<;>first|rfl|(simp only[a5f,a5h,Nat.reduceMul,Nat.reduceSub,o];rfl)
 grind
variable{f t e4:U}{e i v O b8 j0:Nat}
def uI {a:UInt8}:bN (f.set e (.cells (flat [.v (.int .u8 (a.toNat:Int))]))) 1 (.an e 1 1 1)=some ([a].length,[a].map al):=by simp[bN,U.ae (U.ah _ _ _),flat,R.cells,al]
variable{g A e0:List R}{B:List UInt8}
theorem a0e (a:g.take B.length=B.map al) (b:e<B.length):aX false 1 (g.drop e)= .v (.int .u8 (B.getD e 0).toNat):=by grind[al,List.take_append_drop,List.drop_eq_getElem_cons,aX,List.getD]
def a0f (a:UInt32):bn .rem (.int .u32 (a.toNat:Int)) (.int .u32 256)=some (.int .u32 ((a.toNat%256:Nat):Int)):=by have b:bn .rem (.int .u32 (a.toNat)) (.int .u32 256)=(if(256:Int)=0 then none else some (.int .u32 ((a.toNat:Int).tmod 256))):=rfl;rw[b,if_neg a9d];rfl
variable{n b3:R}
theorem yy {v:List UInt8} (d:au f t 1 (v.map al) n) (h:v≠ []): ∃a b c,n= .an a v.length b 1/\f a=none/\t a=some (.cells c)/\c.length=b/\c.take v.length=v.map al/\v.length<=b:=by
 obtain⟨_,d|⟨a,k,b,c,rfl,o,p,r,x,y,z,C⟩⟩:=d
 .simp_all
 grind
theorem a0g (F:List UInt32) (k0:F=gl) (a:List UInt8) (a38:a.length<=1000000000) (W:R) (V:Nat) (G:U) (n5:bN G 1 W=some (a.length,a.map al)) (n9:fb W=some (.v (.int .i64 a.length))) (a00:G V=some (.cells (wl mX))):
  AC Tryz.prog 190 [W,.an V 64 64 1] G λa01 D=>D=G/\a01=cG (fh a):=by
 refine bd hm OQ a9a ?_;refine aj (c2 @aZ @ba) ?_;refine aM λE m=> ?_;have a02:=yw (U.af (U.a1) m) n5 (t:=G.set E (.cells (List.replicate 32 (.v (.int .u8 0)))));have a03:=U.af (U.a1) m (Y:= .cells (List.replicate 32 (.v (.int .u8 0)))) _ _ a00;have a04:=U.af (U.a1) m (Y:= .cells (List.replicate 32 (.v (.int .u8 0))));have a05:(G.set E (.cells (List.replicate 32 (.v (.int .u8 0))))) E=some (.cells (List.replicate 32 (.v (.int .u8 0)))):=U.ah _ _ _;refine aj (aH @nX @aZ @ba) ?_;generalize G.set E (.cells (List.replicate 32 (.v (.int .u8 0))))=w at*;refine qO (c:= []) (au.zero U.a1) a02 a9b λcd a42 A=> ?_;rw[a4P]at A;refine aj (c2 @aZ @ba) ?_;refine eP (by simp[aS,R.cells]) a9a λk1 e=> ?_;refine aj (c2 @aZ @ba) ?_;refine qO (A.mono (U.af U.a1 e)) (uI (a:=128)) a9b λca P y=> ?_;refine aj (c2 @aZ @ba) ?_;have a43:eg a.length<64:=by unfold eg;omega
 refine cr (λb D=> ∃c:Nat,c<=eg a.length/\au w D 1 ((a++128::List.replicate c 0).map al) (b 5)/\b 0=W/\b 1= .an V 64 64 1/\b 4= .ptr E 0)
  (λb _=>match b 5 with| .an _ S _ _=>eg a.length+a.length+1 - S| _=>0) ⟨0,a8Z,?_⟩ ?_
 .refine aj (c2 @aZ @ba) ?_;exact y
 .clear y A;rintro b P ⟨c,k2,y,x,h,d⟩;obtain⟨f,n,k3,p,k4,B,k5,H,k6⟩:=yy y a9a;have I:(a++128::List.replicate c 0).length=a.length+1+c:=a9b;rw[I]at p;by_cases L:c<eg a.length
  .have q: ¬(Int.tmod ((a.length+1+c:Nat):Int) 64=56):=by have:Int.tmod ((a.length+1+c:Nat)) 64=(((a.length+1+c)%64)):=rfl;rw[this];unfold eg at L;omega
   refine aj (c6 @x @h @d @p @q @aZ @ba) ?_;refine eP (by simp[aS,R.cells]) a9a λk1 e=> ?_;refine aj (c6 @x @h @d @p @q @aZ @ba) ?_;rw[<-p];refine qO (y.mono (U.af U.a1 e)) (uI (a:=0)) a9b λdf k7 K=> ?_;refine aj (bs @x @h @d @p @aZ @ba) ?_;have M:a++128::List.replicate c 0++ [0]=a++128::List.replicate (c+1) 0:=by rw[a8J];simp
   rw[M]at K;obtain⟨a47,a48,a52,rfl,_⟩:=yy K a9a;grind
  .obtain rfl:c=eg a.length:=a8Z;have q:(Int.tmod ((a.length+1+eg a.length:Nat):Int) 64=56):=by have:Int.tmod ((a.length+1+eg a.length:Nat)) 64=(((a.length+1+eg a.length)%64)):=rfl;rw[this];unfold eg;omega
   have a06:IntKind.u64.wrap (8*IntKind.u64.wrap (a.length))=((8*a.length:Nat)):=by rw[kp,kp];omega
   rw[<-I]at p;refine aj (cf @x @h @d @p @I @q @n9 @a06 @aZ @ba) ?_;rw[<-p]at*;refine cr (λb D=> ∃c:Nat,c<=8/\au w D 1 ((a++128::List.replicate (eg a.length) 0++(cF (8*a.length)).take c).map al) (b 5)/\b 0=W/\b 1= .an V 64 64 1/\b 4= .ptr E 0/\b 6= .v (.int .u64 ((8*a.length:Nat)))/\b 7= .v (.int .i64 c))
    (λb _=>match b 7 with| .v (.int _ S)=>(8 - S).toNat| _=>0) ⟨0,a8Z,?_⟩ ?_
   .refine aj (bm @x @h @d @aZ @ba) ?_;simp_all
   .clear k4 B k5 H k6 x h d p y;rintro b P ⟨c,k2,y,x,h,d,g,i⟩;have a56:=EX (8*a.length) c;by_cases L:(c:Int)<8
    .have a07:IntKind.u64.wrap (56 - 8*(c))=((56 - 8*c:Nat)):=by rw[kp];omega
     have k8:=yg ((8*a.length)>>>(56 - 8*c)) 256 a8Z;have a08:((256:Nat):Int)=256:=rfl;rw[a08]at k8;refine aj (gj @x @h @d @g @i @L @a07 @k8 @iq @aZ @ba) ?_;refine eP (by simp[aS,R.cells]) a9a λk1 e=> ?_;refine aj (c6 @x @h @d @g @i @aZ @ba) ?_;refine qO (y.mono (U.af U.a1 e)) uI (by simp[cF];omega) λdf k7 K=> ?_;refine aj (c6 @x @h @d @g @i @aZ @ba) ?_;grind
    .obtain rfl:c=8:=a8Z;have a09:(cF (8*a.length)).take 8=cF (8*a.length):=rfl;rw[a09]at y;refine aj (bt @x @h @d @g @i @L @aZ @ba) ?_;refine eP (by simp[aS,R.cells]) a9a λs k9=> ?_;have l0:flat [R.v (Value.int IntKind.u32 1779033703),R.v (Value.int IntKind.u32 3144134277),R.v (Value.int IntKind.u32 1013904242),R.v (Value.int IntKind.u32 2773480762),R.v (Value.int IntKind.u32 1359893119),R.v (Value.int IntKind.u32 2600822924),R.v (Value.int IntKind.u32 528734635),R.v (Value.int IntKind.u32 1541459225)]=wl gl:=rfl;rw[l0];have a57:=yx a;have a61:=a0b a;have l1:au w P 1 ((kE a).map al) (b 5):=y;obtain⟨f,n,k3,p,k4,B,k5,H,k6⟩:=yy l1 (by grind);have N:=y.1;have O:=a0c a;have l2:au P (P.set s (.cells (wl gl))) 1 (wl gl) (.an s 8 8 1):=⟨U.af U.a1 k9,.inr ⟨s,8,8,_,rfl,k9,U.ah _ _ _,rfl,rfl,rfl,a8Z,a9d⟩⟩;have l3:gl.length=8:=rfl;generalize P.set s (.cells (wl gl))=k7 at*;rw[<-k0]at l2 O l3;clear k0 l0;generalize a10:kE a=r at*;clear y l1 a10;refine aj (bs @x @h @d @p @aZ @ba) ?_;refine cr (λb D=> ∃k:Nat,k<=r.length/64/\au P D 1 (wl (blocks k F r)) (b 8)/\b 1= .an V 64 64 1/\b 4= .ptr E 0/\b 5= .an f r.length n 1/\b 9= .v (.int .i64 ((64*k:Nat))))
      (λb _=>match b 9 with| .v (.int _ S)=>(r.length - S).toNat| _=>0) ⟨0,a8Z,?_⟩ ?_
     .refine aj (bm @h @d @p @aZ @ba) ?_;exact l2
     .clear x h d p g i;rintro b l4 ⟨k,a62,Q,h,d,p,j⟩;have T:(blocks k F r).length=8:=p8 _ _ _ l3;obtain⟨X,l5,Y,z,a63,t,a65,a68⟩:=EW Q (by intro M;rw[M]at T;cases T);rw[T]at z;have l:=Q.1;by_cases L:k<r.length/64
      .have Z:((64*k:Nat))<(r.length:Int):=a8Z;have a11:dI 1 (.an f r.length n 1) (some (.v (.int .i64 ((64*k:Nat))))) (some (.v (.int .i64 (((64*k:Nat))+64))))=some (.bA f (64*k) 64 (n - 64*k) 1):=by have l6:(((64*k):Int)+64).toNat=64*k+64:=a8Z;simp only[dI,cE,Go.bx.intOf,q2];grind
       refine aj (cV @h @d @p @z @j @Z @a11 @aZ @ba) ?_;have a13:=tX k F r;refine ai (a0a (blocks k F r) ((r.drop (64*k)).take 64) T X l5 Y f (64*k) k3 V l4 t (l _ _ B) a8Z ?_ (l _ _ (N _ _ a03))) ?_
       .intro c k2;rw[a0e H a8Z];simp_all
       rintro hb a69 l7;refine aj (c6 @h @d @p @z @j @aZ @ba) ?_;rw[<-a13]at l7;exact⟨⟨k+1,a8Z,l7.base l,a9b⟩,a8Z⟩
      .have Z: ¬((64*k:Nat))<(r.length:Int):=a8Z;obtain rfl:k=r.length/64:=a8Z;refine aj (bt @h @d @p @z @j @Z @aZ @ba) ?_;refine aM λu j9=> ?_;have l8:X≠u:=by rintro rfl;rw[j9]at t;cases t
       have v:=l _ _ (N _ _ a05);have l9:E≠u:=by rintro rfl;rw[j9]at v;cases v
       have a14:=a0d (blocks (r.length/64) F r) T;have a15:(eh (blocks (r.length/64) F r)).length=32:=by rw[u0,T]
       rw[O];clear O Q;generalize blocks (r.length/64) F r=C at*;have a16:(wl C++Y).length=8+Y.length:=by rw[uH,T]
       refine aj (c6 @h @d @p @z @j @aZ @ba) ?_;refine cr (λb D=> ∃o:Nat,o<=32/\D=l4.set u (.cells (hQ ((eh C).take o)))/\b 8= .an X 8 l5 1/\b 10= .ptr u 0/\b 4= .ptr E 0/\b 11= .v (.int .i64 o))
        (λb _=>match b 11 with| .v (.int _ S)=>(32 - S).toNat| _=>0) ⟨0,a8Z,?_⟩ ?_
       .refine aj (aI @d @z @aZ @ba) ?_;rfl
       .clear h d p z j;rintro b _ ⟨o,a71,rfl,z,n0,d,n1⟩;have a18:((eh C).take o).length=o:=a9b;have n2:(hQ ((eh C).take o)).length=32:=tZ a8Z;by_cases L:(o:Int)<32
        .have l6:IntKind.i64.wrap ((o:Int).tdiv 4)=((o/4:Nat)):=by have:(o:Int).tdiv 4=((o/4:Nat)):=rfl;rw[this,wrap_i64 a8Z a8Z]
         have a19:(o:Int).tmod 4=((o%4:Nat)):=rfl;have a27:IntKind.u64.wrap (24 - 8*((o%4:Nat)))=((24 - 8*(o%4):Nat)):=by rw[kp];omega
         have a29:o/4<8:=a8Z;have a30:((o/4:Nat))<((8:Nat):Int):=a8Z;refine aj (nY @z @n0 @d @n1 @L @l6 @a19 @a27 @a30 @a29 @a16 @n2 (U.ae t) @l8 (a4F l8) @mm @a0f @iq @aZ @ba) ?_;rw[xa _ a18.symm a8Z,a14 o a8Z];grind
        .obtain rfl:o=32:=a8Z;refine aj (gU @z @n0 @d @n1 @L @n2 @l9 (a4F l9) (U.ae v) (U.aJ v) @aZ @ba) ?_;have a34:(eh C).take 32=eh C:=a4x a8Z;have a36:hQ (eh C)=(eh C).map al:=by simp[hQ,a15]
         have n3:((eh C).map al).take 32=(eh C).map al:=a4x a9b;rw[a34,a36,n3,n3];refine⟨G,?_,rfl,rfl⟩;have n4:=U.ar a04 (U.ar N l);exact U.af (U.af n4 (U.bF n4 j9)) m
def a0h (a:List UInt8) (h:a.length<=1000000000) (c:R) (d:Nat) (b:U) (k:bN b 1 c=some (a.length,a.map al)) (o:fb c=some (.v (.int .i64 a.length))) (p:b d=some (.cells (wl mX))):
  AC Tryz.prog 190 [c,.an d 64 64 1] b λr x=>x=b/\r=cG (fh a):=a0g gl rfl a h c d b k o p
def a0i (a:List UInt8) (r:a.length<=1000000000) (c:R) (b:U) (x:bN b 1 c=some (a.length,a.map al)) (y:fb c=some (.v (.int .i64 a.length))):
  AC Tryz.prog 123 [c] b λz C=>C=b/\z=cG (fh a):=by
 refine bd hm ML a9a ?_;refine aj (c2 @aZ @ba) ?_;refine aM λD d=> ?_;refine aj (c2 @aZ @ba) ?_;refine ai (ZS _) ?_;rintro _ _ ⟨h,E,rfl,rfl⟩;obtain⟨k,o⟩:=U.gH E;refine aj (c2 @aZ @ba) ?_;have F:b.sub ((b.set D (.cells (List.replicate 32 (.v (.int .u8 0))))).set h (.cells (wl mX))):=U.af (U.af U.a1 d) o;refine ai (a0h a r c h _ (yw F x) y (U.ah _ _ _)) ?_;rintro _ _ ⟨rfl,rfl⟩;have p:((fh a).map al).length=32:=by rw[a4I,sb]
 have G:cG (fh a)= .agg ((fh a).map al):=rfl;have L:((fh a).map al).take 32=(fh a).map al:=a4x a8Z;rw[G];have P:putAt (List.replicate 32 (R.v (.int .u8 0))) 0 ((fh a).map al)=(fh a).map al:=by rw[putAt,p];simp
 refine aj (c6 @p @L @P @k (a4F k) @aZ @ba) ?_;exact⟨b,U.af (U.af U.a1 d) o,rfl⟩
def a0j {a:UInt8} (b:f e=none):au f (f.set e (.cells (flat [.v (.int .u8 (a.toNat:Int))]))) 1 ([a].map al) (.an e 1 1 1):=
 ⟨U.af U.a1 b,.inr ⟨e,1,1,_,rfl,b,U.ah _ _ _,rfl,rfl,rfl,a8Z,a9d⟩⟩
theorem a0k (k:UInt8) (b:List (R×List UInt8)) (x:R) (i:Nat) (r:U) (j:fb x=some (.v (.int .i64 b.length)))
  (l: ∀o:Nat,o<b.length->cL 1 x (.v (.int .i64 o))=some (.ptr i o))
  (B: ∀o (k1:o<b.length),∃y,r i=some (.cells y)/\o<y.length/\aX false 1 (y.drop o)=b[o].1)
  (H: ∀a∈b,bN r 1 a.1=some (a.2.length,a.2.map al)/\fb a.1=some (.v (.int .i64 a.2.length)))
  (I:(preB k (b.map (·.2))).length<=1000000):
  AC Tryz.prog 192 [.v (.int .u8 (k.toNat:Int)),x] r λK z=>au r z 1 ((preB k (b.map (·.2))).map al) K:=by
 refine bd hm OU a9a ?_;refine aE (c2 @aZ @ba) ?_;refine eP (by simp[aS,R.cells]) a9a λM T=> ?_;refine aE (c2 @aZ @ba) ?_;have m:=a0j (a:=k) T;refine cr (λc z=> ∃a C:List (R×List UInt8),b=a++C/\au r z 1 ((preB k (a.map (·.2))).map al) (c 5)/\c 1=x/\c 6= .v (.int .i64 a.length))
  (λc _=>match c 6 with| .v (.int _ V)=>(b.length - V).toNat| _=>0) ⟨[],b,rfl,?_⟩ ?_
 .refine aE (c2 @aZ @ba) ?_;exact m
 .clear m;rintro c k2 ⟨a,C,p,W,e,D⟩;cases C with
  |nil=>
   have P:b.length=a.length:=by rw[p];simp
   rw[a5B]at p;have f: ¬(a.length)<(b.length:Int):=a8Z;refine aE (bs @e @D @j @f @aZ @ba) ?_;rw[p];exact⟨_,U.a1,W⟩
  |cons N C=>
   obtain⟨g,d⟩:=N;have P:a.length<b.length:=by rw[p];simp
   have f:(a.length)<(b.length:Int):=a8Z;have O:b[a.length]=(g,d):=by subst p;simp
   obtain⟨y,n,c2,aH⟩:=B a.length P;rw[O]at aH;obtain⟨q,s⟩:=H (g,d) (by rw[p];simp);simp only at q s aH;have k3:(preB k (a.map (·.2))).length+8+d.length<=1000000:=by refine a5u ?_ I;rw[p];simp[preB,chunk,cF];omega
   have Q:=x6 k (b.map (·.2));rw[a4I]at Q;have t:a.length+1<=y.length:=a8Z;have u:=W.1;simp -dsimp -implicitDefEqProofs (disch:=first|omega|assumption|(simp only[bk,Nat.reduceAdd];try omega)) only[go_sem,simprocAttr,aZ,ba,e,D,j,f,l _ P,U.ae (u _ _ n),t,aH,s];refine cr (λc z=> ∃h:Nat,h<=8/\au r z 1 ((preB k (a.map (·.2))++(cF d.length).take h).map al) (c 5)/\c 1=x/\c 6= .v (.int .i64 a.length)/\c 7= .v (.int .u64 (d.length:Int))/\c 8= .v (.int .i64 h))
    (λc _=>match c 8 with| .v (.int _ V)=>(8 - V).toNat| _=>0) ⟨0,a8Z,?_⟩ ?_
   .refine aE (aI @e @D @aZ @ba) ?_;simp_all
   .clear W u;rintro k4 k5 ⟨h,k6,S,E,F,G,L⟩;have k7:=EX d.length h;by_cases v:(h:Int)<8
    .have X:IntKind.u64.wrap (56 - 8*(h))=((56 - 8*h:Nat)):=by rw[kp];omega
     have w:=yg (d.length>>>(56 - 8*h)) 256 a8Z;have Y:((256:Nat):Int)=256:=rfl;rw[Y]at w;refine aE (cf @E @F @G @L @v @X @w @iq @aZ @ba) ?_;refine eP (by simp[aS,R.cells]) a9a λM T=> ?_;refine aE (bs @E @F @G @L @aZ @ba) ?_;refine qO (S.mono (U.af U.a1 T)) uI (by simp[cF];omega) λdf Z j9=> ?_;refine aE (bs @E @F @G @L @aZ @ba) ?_;grind
    .obtain rfl:h=8:=a8Z;have k0:(cF d.length).take 8=cF d.length:=rfl;rw[k0]at S;have A:=S.1;simp -dsimp -implicitDefEqProofs (disch:=first|omega|assumption|(simp only[bk,Nat.reduceAdd];try omega)) only[go_sem,simprocAttr,aZ,ba,E,F,G,L,D,v,l _ P,U.ae (A _ _ n),t,aH];refine qO S (yw A q) (by simp[cF];omega) λdf Z j9=> ?_;refine aE (c6 @E @F @G @L @D @aZ @ba) ?_;refine⟨⟨a++ [(g,d)],C,by simp[p],?_,a9a⟩,a8Z⟩;grind[preB,cF,chunk]
theorem a0l (h:UInt8) (b:List (R×List UInt8)) (k:Nat) (c:U) (o:c k=some (.cells (b.map (·.1))))
  (p: ∀a∈b,au c c 1 (a.2.map al) a.1\/(bN c 1 a.1=some (a.2.length,a.2.map al)/\fb a.1=some (.v (.int .i64 a.2.length))))
  (r:(preB h (b.map (·.2))).length<=1000000):
  AC Tryz.prog 192 [.v (.int .u8 (h.toNat:Int)),.an k b.length b.length 1] c λx y=>au c y 1 ((preB h (b.map (·.2))).map al) x:=by
 refine a0k h b _ k c rfl ?_ ?_ ?_ r;grind[jz]
 .intro C d;refine⟨_,o,by simpa using d,?_⟩;rw[a4V (by simpa using d),a8o];rfl
 .intro a z;rcases p a z with d|d
  .obtain⟨D,E,F,G⟩:=d.src;simp_all
  .exact d
def hh (a:aL):List UInt8:=hT a.name++(UInt8.ofNat a.aD.length::(a.aD.flatMap hT++(dZ a.bM++dZ a.cq)))
def pB (a:List aL):List UInt8:=UInt8.ofNat a.length::a.flatMap hh
structure aL.ht (t:aL):Prop where
 n:t.name.length<=16
 c:t.aD.length<=7
 cs: ∀c∈t.aD,c.length<=16
 k:t.bM.ht
 z:t.cq.ht
theorem EY {a:List (List UInt8)} (c: ∀b∈a,b.length<=16):(a.flatMap hT).length<=19*a.length:=by
 induction a with
 |nil=>simp
 |cons d a ih=>grind[List.length_append,xd,List.length_cons]
variable{e7:aL}
def yz (a:e7.ht) (b:e7.bM.sum.length=32) (c:e7.cq.sum.length=32):(hh e7).length<=1000:=by have:=EY a.cs;have:=a.n;have:=a.c;have:=so b a.k;have:=so c a.z;simp only[hh,a4y,xd,a4C];omega
variable{e1:List aL}
theorem a0m (b:az dy e1 g) (d: ∀h∈e1,h.ht) (a:Nat):((e1.take a).flatMap hh).length<=1000*a:=by
 induction e1 generalizing g a with
 |nil=>simp
 |cons k e1 ih=>
  cases g with
  |nil=>trivial
  |cons v g=>
   obtain⟨⟨_,_,c⟩,b⟩:=b;cases a with
   |zero=>simp
   |succ a=>have:=yz (d k a9a) c.k.1 c.z.1;grind
def uJ (a b:Nat) (c:U) (h:R) (k:R->U->Prop):Prop:=
 match h with
 | .ptr d off=>match c.read d with
  |some cs=>off+b*a<=cs.length/\k (.J (ed a b (cs.drop off)) .any) (c.set d (.ro cs))
  |none=>False
 | _=>False
variable{s a7:R -> U -> Prop}
def a0n {a:cy s} (b:f.read v=some g) (c:O+i*e<=g.length) (d:s (.J (ed e i (g.drop O)) .any) (f.set v (.ro g))):uJ e i f (.ptr v O) (bO s a):=by simp only[uJ,b];trivial
variable{K:Ctx}{j:Fr}{Z e9:Operand}
theorem a0o:G K (.kf e i Z none none true) j f s=uJ e i f (ak j Z) (bO (λa b=>s a b) ()):=by grind[G,uJ,da,ak,bO]
theorem yA: ∀ {rows:List (List Int×Bool)},(∀a∈rows,a.1.length<=8)->(rows.flatMap gK).length<=66*rows.length
 | [],_=>by simp
 |a::rows,b=>by
  have d:=b a a9a;have:=yA λa c=>b a (a5R _ c);grind[List.length_append,gK,List.length_cons,du,o7]
theorem yB: ∀ {kids:List ay},(∀a∈kids,a.ht/\a.sum.length=32/\a.cz)->(kids.flatMap dZ).length<=300*kids.length
 | [],_=>by simp
 |a::kids,b=>by
  obtain⟨⟨d,h,k,_,_,_,_⟩,o,_⟩:=b a a9a;have:=yB λa c=>b a (a5R _ c);grind[ks,du,List.length_cons,o7,List.length_append,dZ]
theorem a0p (o:c3) (P S:List R) (e f:Own) (g:U) (w:az de o.rows P) (A:az bu o.kids S) (n2:o.rows.length<=5) (n3:o.kids.length<=5)
  (i: ∀p∈o.rows,p.1.length<=8) (B: ∀r∈o.kids,r.ht/\r.sum.length=32/\r.cz):
  AC Tryz.prog 178 [gM o (.J P e) (.J S f)] g λp d=>fG g d (cX o) p:=by
 have n4:=w.len;have n5:=A.len;obtain⟨T,rows,kids⟩:=o
 dsimp only at*
 refine aN hm Ox ?_;have n9:=λx=>iq x;refine aM λH X=> ?_;refine aa ?_;generalize j:g.set H (.cells [R.v (.int .u8 (T.toNat)),.J P e,.J S f])=G;have Y:=j▸U.af U.a1 X;have Z:=j▸U.ah _ _ _;have L: ∀d,G.sub d->d.read H=some [R.v (.int .u8 (T.toNat)),.J P e,.J S f]:=λd C=>U.ae (C _ _ Z);clear j;have j9:=L _ U.a1;refine tU [T,UInt8.ofNat rows.length] (λk a00 k0 _=> ?_);clear j9;have k1:=L _ k0.sub;refine ch [0,1] (λb:Nat×R=> [(4,.v (.int .i64 b.1)),(3,b.2)]) (λb d=>b.1<=rows.length/\fG G d (T::UInt8.ofNat rows.length::(rows.take b.1).flatMap gK) b.2) (λb=>rows.length - b.1) (0,k) ⟨⟨a8Z,by trivial⟩,aR⟩ ?_;rintro⟨a,k⟩ D ⟨l,c⟩ k2
 dsimp only at l c|-
 clear k1;have k3:=L _ c.sub;refine aa ?_;refine aG (λm=> ?_) λm=> ?_
 .obtain⟨_,V,k4,rfl⟩:=w.get (i:=a) (x:=rows.getD a ([],false)) (by simp_all);have k5:ez 2 P[a]? =some (.bV [.J (ad (rows.getD a ([],false)).1) k4,.v (.bool (rows.getD a ([],false)).2)]):=by rw[V];rfl
  have a01:(rows.getD a ([],false)).1.length<=8:=i _ (by simp_all);have n:=eQ (a:=rows) (e:=a) (b:=([],false)) a8Z;have I:=yA (rows:=rows.take a) λp C=>i p (a4K C);rw[a4z]at I;generalize rows.getD a ([],false)=b at*;have K:(du b.1).length=8*b.1.length+1:=by rw[du,a4C,o7]
  clear V;have a02:(gK b).length=8*b.1.length+2:=by rw[gK,a4C,K]
  refine aa ?_;refine hN (ZD _ _) λE F h=> ?_;refine mW c (show fG D F [if b.2=true then(1)else 0] E from h) λa4 k6 W _=> ?_;have M:=L _ W.sub;refine hN (uA _ _ _ a8Z) λa03 q z=> ?_;refine mW W z λds a04 k7 _=> ?_;refine⟨(a+1,ds),⟨by simp only;omega,?_⟩,⟨rfl,rfl⟩,by simp only;omega⟩;simp only[n,a5m,a4Y,a7l,a5B,gK];simpa using k7
 obtain rfl:a=rows.length:=a8Z;rw[a4S]at c;have I:=yA i;generalize a05:T::UInt8.ofNat rows.length::rows.flatMap gK=s at*;have a06:s.length<=400:=by grind
 refine tU [UInt8.ofNat kids.length] (λE F h _=> ?_);refine mW c h λa3 k6 W _=> ?_;clear k3;have M:=L _ W.sub;refine ch [0,1] (λb:Nat×R=> [(5,.v (.int .i64 b.1)),(3,b.2)]) (λb d=>b.1<=kids.length/\fG G d (s++ [UInt8.ofNat kids.length]++(kids.take b.1).flatMap dZ) b.2) (λb=>kids.length - b.1) (0,a3) ⟨⟨a8Z,by simpa using W⟩,aR⟩ ?_;clear M;rintro⟨a,k⟩ q ⟨l,z⟩ k2
 dsimp only at l z|-
 have a07:=L _ z.sub;refine aa ?_;refine aG (λm=> ?_) λm=> ?_
 .obtain⟨_,V,k8,k9,t,u,v,rfl⟩:=A.get (i:=a) (x:=kids.getD a aA) (by simp_all);have l0:=(B (kids.getD a aA) (by simp_all)).1;have n:=eQ (a:=kids) (e:=a) (b:=aA) a8Z;generalize kids.getD a aA=r at*;have N:=(aW (M:=t) (e6:=u) (h4:=v) k8).all;have k5:ez 37 S[a]? =some (.bV (ab r t u v)):=by rw[V];exact jy N.1
  generalize ab r t u v=y at*;clear V;refine aa ?_;refine aM λx O=> ?_;refine aa ?_;rw[a0o];refine aa ?_;refine a0n (U.ae (U.ah _ _ _)) a8Z ?_;rw[U.set_set];have l1:fG (G.set x (.ro y)) (q.set x (.ro y)) _ k:=z.new O;have l2:=U.bF z.sub O;have l3:=U.af (Y:= .ro y) U.a1 l2;have l4:(G.set x (.ro y)) x=some (.ro y):=U.ah _ _ _;generalize G.set x (.ro y)=l5 at*;generalize q.set x (.ro y)=a08 at*;have a09: ∀d,l5.sub d->d.read x=some y:=λd C=>U.Ue (C _ _ l4);have Q:ed 1 32 (y.drop 0)=r.sum.map al:=by simp[ed,N.2.2.1]
  rw[Q];obtain⟨a10,a11,a13⟩:=k9;obtain⟨a14,a15,a16,l6,a18,l7,a19⟩:=l0;obtain⟨l8,a27⟩:=a6u l6;obtain⟨l9,a29⟩:=a6u l7;have a30:=ks l8;have a34:=ks l9;have K: ∀p:List Int,(du p).length=8*p.length+1:=λp=>by rw[du,a4C,o7]
  have n0:((kids.take a).flatMap dZ).length<=300*a:=by have:=yB (kids:=kids.take a) λr C=>B r (a4K C);rw[a4z]at this;omega
  generalize a36:s++ [UInt8.ofNat kids.length]++(kids.take a).flatMap dZ=n1 at*;have a38:n1.length<=3000:=by grind
  clear Q n0;refine Cn l1 o2.J λk D c _=> ?_;refine hN (EN _ _ a8Z) λE F h=> ?_;refine mW c h λk D c _=> ?_;refine hN (EN _ _ a8Z) λE F h=> ?_;refine mW c h λk D c _=> ?_;refine hN (uA _ _ _ a8Z) λE F h=> ?_;refine mW c h λk D c _=> ?_;refine hN (uA _ _ _ a8Z) λE F h=> ?_;refine mW c h λk D c _=> ?_;refine hN (uA _ _ _ a8Z) λE F h=> ?_;refine mW c h λk D c _=> ?_;refine⟨(a+1,k),⟨by simp only;omega,?_⟩,⟨rfl,rfl⟩,by simp only;omega⟩;have a42:=c.base l3;simp only[n,a5m,a4Y,a7l,a5B];grind[dZ,List.append_assoc,Int.toNat_natCast]
 obtain rfl:a=kids.length:=a8Z;rw[a4S]at z;refine⟨_,U.a1,?_⟩;have:=z.base Y;grind[cX,List.append_assoc]
structure kF where
 kind:UInt8
 qU:Int
 at_:List Int
abbrev kF.V (a:kF) (b:Own):R:= .agg [.v (.int .u8 (a.kind.toNat:Int)),.v (.int .i64 a.qU),.J (ad a.at_) b]
def kF.ok (a:kF) (b:Nat):Bool:=
 decide (1<=b/\b<=8)&&(if a.kind=0 then decide (a.qU=0)&&decide (a.at_.length=0)
  else if a.kind=1\/a.kind=2 then(decide (0<a.qU)||decide (a.qU=0)&&decide (a.kind=2))&&decide (a.qU<=(b:Int) - 1)&&decide (a.at_.length=0)
  else decide (a.kind=3)&&decide (a.qU=0)&&decide (1<b)&&decide (a.at_.length=b - 1))
theorem EZ (a:kF) (h:Own) (c:Nat) (d:U) (r:c<=1000000000000) (x:a.at_.length<=1000000000000):
  AC Tryz.prog 42 [a.V h,.v (.int .i64 (c:Int))] d λk o=>o=d/\k= .v (.bool (a.ok c)):=by
 obtain⟨b,y,p⟩:=a
 dsimp only at*
 have z:=bH (q:=p);have C:=iA b 0 a8Z;have D:=iA b 1 a8Z;have E:=iA b 2 a8Z;have F:=iA b 3 a8Z;refine aN hm Ky ?_;refine bp λG L=> ?_
 repeat' first|refine aG (λ_=> ?_) λ_=> ?_|trivial
 all_goals grind[kF.ok,aO,aP]
theorem uK (b:kF) (h:Own) (c:Nat) (d:U) (r:c<=1000000000000) (x:b.at_.length<=1000000000000):
  AC Tryz.prog 128 [b.V h,.v (.int .i64 (c:Int))] d λk o=>o=d/\k= .v (.bool (b.ok c)):=by
 obtain⟨a,y,p⟩:=b
 dsimp only at*
 have z:=bH (q:=p);have C:=iA a 0 a8Z;have D:=iA a 1 a8Z;have E:=iA a 2 a8Z;have F:=iA a 3 a8Z;refine aN hm MT ?_;refine bp λG L=> ?_
 repeat' first|refine aG (λ_=> ?_) λ_=> ?_|trivial
 all_goals try first
  |(rw[kF.ok];exact aO)
  |(refine aP ?_;simp only[kF.ok]at*;grind)
 rename_i P S T;obtain rfl:a=2:=a5s.1 (by simp_all);refine aP ?_;rw[a6Z];simp[kF.ok,-List.length_eq_zero_iff];omega
abbrev ig (a b:Nat):R:= .agg [.v (.int .u64 (a:Int)),.v (.int .u64 (b:Int))]
def a0q (a c b d:Nat) (h:U):AC Tryz.prog 145 [ig a c,ig b d] h λk o=>o=h/\k= .v (.bool (decide (a<b\/a=b/\c<d))):=by
 refine aN hm Np ?_;refine bp λp r=> ?_;refine cW λx y z C=> ?_
 repeat' first|refine aG (λ_=> ?_) λ_=> ?_|trivial
 all_goals exact aO
def qV (a c b d:Nat):Int:=if a=b/\c=d then 0 else if a<b\/a=b/\c<d then -1 else 1
theorem F0 (a b c d:Nat) (h:U):AC Tryz.prog 134 [ig a b,ig c d] h λk o=>o=h/\k= .v (.int .i64 (qV a b c d)):=by
 have p: ∀a b:Nat,dA [(2,c8.int IntKind.u64)] [R.v (.int .u64 (a)),R.v (.int .u64 (b))]:=λa b=>by simp[dA,c8.tn]
 have r:peq (ig a b) (ig c d)=decide ((a:Int)=c/\(b:Int)=d):=by rw[a6Z];simp[peq]
 refine aN hm N1 ?_;refine bp λx y=> ?_;refine cW λz C D E=> ?_
 repeat' first|refine aG (λ_=> ?_) λ_=> ?_|trivial
 all_goals grind[qV]
abbrev hB (a:List Int) (b:Nat):Int:=a.getD b 0
def jg (c d a:List Int):Bool:=cP c d a.length&&(List.range a.length).all λb=>decide (hB c b<=hB a b)&&decide (hB a b<=hB d b)
def oy (a b c d:List Int):Bool:=cP a b a.length&&cP c d a.length
def jV (b c d h:List Int):Bool:=oy b c d h&&(List.range b.length).all λa=>decide (hB b a<=hB h a)&&decide (hB d a<=hB c a)
def a0r (c:U) (k o:Nat) (d h b:List Int) (p r x:Own) (a:Nat) (C:c.read k=some [.J (ad d) p,.J (ad h) r]) (D:c.read o=some [.J (ad b) x]) (E:a<d.length) (F:a<h.length) (G:a<b.length):
  AC Tryz.prog 217 [.v (.int .i64 (a:Int)),.ptr k 0,.ptr o 0] c λy z=>z=c/\y= .v (.bool (decide (hB d a<=hB b a)&&decide (hB b a<=hB h a))):=by
 have L:= @dJ d;have P:= @dJ h;have S:= @dJ b;refine aN hm Pz ?_
 repeat' first|refine aG (λ_=> ?_) λ_=> ?_|trivial
 all_goals exact aO
def a0s (h:U) (b c a:List Int) (k o p:Own) (r:a.length<=1000000000000):
  AC Tryz.prog 140 [er b c k o,.J (ad a) p] h λx y=>y=h/\x= .v (.bool (jg b c a)):=by
 have G:=bH (q:=a);refine aN hm Nd ?_;refine bp λz L=> ?_;refine cW λC P S D=> ?_;refine bc (od _ b c _ _ _ r) ?_;refine aG (λd=> ?_) λd=> ?_
 .obtain⟨T,V,W,e⟩:=lg d;refine bc (xm a.length _ _ _ _ _ r a9f λE F=>a0r _ z C b c a k o p E (by simp[U.read,U.ah,U.ao,D]) (by simp[U.read,U.ah]) a8Z a8Z F) ?_;refine aP ?_;rw[jg,d,a5U]
 .refine aP ?_;rw[jg,d,a6N]
def a0t (b:U) (o p:Nat) (c d h k:List Int) (r x y z:Own) (a:Nat) (E:b.read o=some [.J (ad c) r,.J (ad d) x]) (F:b.read p=some [.J (ad h) y,.J (ad k) z]) (G:a<c.length) (L:a<d.length) (P:a<h.length) (S:a<k.length):
  AC Tryz.prog 274 [.v (.int .i64 (a:Int)),.ptr o 0,.ptr p 0] b λC D=>D=b/\C= .v (.bool (decide (hB c a<=hB k a)&&decide (hB h a<=hB d a))):=by
 have T:= @dJ c;have V:= @dJ d;have W:= @dJ h;have e:= @dJ k;refine aN hm QW ?_
 repeat' first|refine aG (λ_=> ?_) λ_=> ?_|trivial
 all_goals exact aO
def a0u (d:U) (b c a h:List Int) (o p r x:Own) (k:b.length<=1000000000000):
  AC Tryz.prog 196 [er b c o p,er a h r x] d λy z=>z=d/\y= .v (.bool (oy b c a h)):=by
 have C:=bH (q:=b);refine aN hm P2 ?_;refine bp λD E=> ?_;refine cW λF G L P=> ?_;refine bc (od _ b c _ _ _ k) ?_;refine aG (λa=> ?_) λa=> ?_
 .refine bc (od _ _ _ _ _ _ k) ?_;refine aP ?_;rw[oy,a,a5U]
 .refine aP ?_;rw[oy,a,a6N]
variable{q b6:List Int}
theorem yC {a b:List Int} (c:oy q b6 a b=true):b6.length=q.length/\a.length=q.length/\b.length=q.length/\1<=q.length/\q.length<=8:=by rw[oy,a4A]at c;obtain⟨d,h⟩:=c;have d:=lg d;grind[lg]
def F1 (k:U) (a b c d:List Int) (o p r x:Own) (y:a.length<=1000000000000):
  AC Tryz.prog 198 [er a b o p,er c d r x] k λz C=>C=k/\z= .v (.bool (jV a b c d)):=by
 have P:=bH (q:=a);refine aN hm P4 ?_;refine bp λD S=> ?_;refine cW λE T V F=> ?_;refine bc (a0u _ a b c d _ _ _ _ y) ?_;refine aG (λh=> ?_) λh=> ?_
 .obtain⟨W,e,f,g⟩:=yC h;refine bc (xm a.length _ _ _ _ _ y a9f λG L=>a0t _ D E a b c d o p r x G (by simp[U.read,U.ah,U.ao,F]) (by simp[U.read,U.ah]) L a8Z a8Z a8Z) ?_;refine aP ?_;rw[jV,h,a5U]
 .refine aP ?_;rw[jV,h,a6N]
def gx (a b c d:List Int):List Int×List Int:=if jV a b c d=true then(List.zipWith max a c,List.zipWith min b d)else([],[])
set_option maxHeartbeats 1000000 in
theorem a0v (C:U) (a c h d:List Int) (m n q s:Own) (E:a.length<=1000000000000):
  AC Tryz.prog 131 [er a c m n,er h d q s] C λl5 o=> ∃r t,l5= .aK [.agg [r,t],.v (.bool (jV a c h d))]/\ph C o (gx a c h d).1 (gx a c h d).2 r t:=by
 have k1:=bH (q:=a);have u:= @dJ a;have v:= @dJ c;have w:= @dJ h;have A:= @dJ d;refine aN hm MX ?_;refine bp λB a11=> ?_;refine cW λH a13 I l6=> ?_;refine hp λF l7 l8 l9 n0 n1=> ?_;refine bc (F1 _ a c h d _ _ _ _ E) ?_;refine aG (λG=> ?_) λG=> ?_
 .rw[gx,if_neg (by simp[G])];exact⟨_,U.a1,_,_,rfl,C,au.nil U.a1,au.nil aR⟩
 .rw[gx,if_pos G];obtain⟨a14,a15,a16,a18,a19⟩:=yC (by rw[jV,a4A]at G;exact G.1);generalize L:((C.set B _).set H _).set F _=P;have W:C.sub P:=by subst L;exact aR
  have K:P B=some (.cells [.J (ad a) m,.J (ad c) n]):=by subst L;exact aR
  have M:P H=some (.cells [.J (ad h) q,.J (ad d) s]):=by subst L;exact aR
  have aI:P F=some (.cells [.J [] .nil,.J [] .nil]):=by subst L;exact aR
  clear L;refine ai (u9 P a c _ _ E a8Z) ?_;rintro _ n2 ⟨r,t,rfl,a27,n3,n4⟩;obtain⟨x,⟨I,_⟩|⟨e,n5,N,k2,rfl,f,k3,n9,O,S,k4,cd⟩⟩:=n3
  .exfalso;grind
  obtain⟨D,⟨I,_⟩|⟨y,a00,Q,k5,rfl,T,k6,a01,X,V,k7,ca⟩⟩:=n4
  .exfalso;grind
  obtain rfl:n5=a.length:=by rw[k1]at S;omega
  obtain rfl:a00=a.length:=by rw[bH]at V;omega
  have k8:=D _ _ k3;simp only[a5n]at n9 a01 O X k4 k7;obtain⟨g,rfl⟩: ∃Y,k2=ad a++Y:=⟨k2.drop a.length,by rw[<-O,a5e]⟩;obtain⟨i,rfl⟩: ∃Y,k5=ad c++Y:=⟨k5.drop a.length,by rw[<-X,a5e]⟩;have k: ∀ {k9:U}{b Z:Nat}{j:bq},k9 b=none->k9 Z=some j->b≠Z/\Z≠b:=λE l=>⟨(by rintro rfl;rw[E]at l;cases l),(by rintro rfl;rw[E]at l;cases l)⟩;have kr:=D _ _ (x _ _ K);have l0:=D _ _ (x _ _ M);have l1:=D _ _ (x _ _ aI);obtain⟨a29,a02⟩:=k T k3;obtain⟨a30,a34⟩:=k f K;obtain⟨a36,a38⟩:=k f M;obtain⟨a03,a42⟩:=k f aI;obtain⟨a43,a47⟩:=k T (x _ _ K);obtain⟨a48,a52⟩:=k T (x _ _ M);obtain⟨a04,a56⟩:=k T (x _ _ aI);have a05:=U.bF W f;have a06:=U.bF (U.ar W x) T;have j9:=U.ar W (U.ar x D);clear O X S V x D;have a57: ∀a c k0 d:Nat,(R.an a c k0 d).cells= [.an a c k0 d]:=λ_ _ _ _=>rfl;refine aa ?_;refine aM λa07 z=> ?_;obtain⟨a61,a62⟩:=k z kr;obtain⟨a63,a65⟩:=k z l0;obtain⟨a68,a69⟩:=k z l1;obtain⟨a71,a73⟩:=k z k8;obtain⟨Xt,a74⟩:=k z k6;have l2:=U.bF j9 z;refine aa ?_;refine ch [2,3,4,6,17] (λb:Nat=> [(18,.v (.int .i64 (b)))]) (λb o=>b<=a.length/\C.sub o/\o B=some (.cells [.J (ad a) m,.J (ad c) n])/\o H=some (.cells [.J (ad h) q,.J (ad d) s])/\o F=some (.cells [.J [] .nil,.J [] .nil])/\
      o a07=some (.cells [.an e a.length N 1,.an y a.length Q 1])/\o e=some (.cells (ad (mix max a h b)++g))/\o y=some (.cells (ad (mix min c d b)++i))) (λb=>a.length - b) 0 ⟨⟨a5d _,U.af (U.af j9 l2) l2,aR,aR,aR,aR,?_,?_⟩,aR⟩ ?_
  .have a08:mix max a h 0=a:=by rfl
   exact aR
  .have a08:mix min c d 0=c:=by rfl
   exact aR
  clear kr l0 l1 k8 k6 z k1;rintro b o ⟨a81,a09,c2,aH,aI,c6,l3,l4⟩ a83;have a84:=U.ae c2;have a86:=U.ae aH;have a88:=U.ae c6;have n2:=U.aJ l3;have a89:=U.aJ l4;clear I l6 l8 l9 n0 n1 j9 W;by_cases a90:b<a.length
  .have k0:(b)<(a.length:Int):=a8Z;have a92:=u a8Z;have a94:=v (b:=b) a8Z;have a95:=w (b:=b) a8Z;have a96:=A (b:=b) a8Z;clear u v w A;have a97:=ub a8Z a8Z g (v:=max (a.getD b 0) (h.getD b 0)) rfl;have a98:=ub a8Z a8Z i (v:=min (c.getD b 0) (d.getD b 0)) rfl;have a99:b+1<=(ad (mix max a h b)++g).length:=by rw[a4y,bH,ua a8Z a8Z];omega
   have b00:b+1<=(ad (mix min c d b)++i).length:=by rw[a4y,bH,ua a8Z a8Z];omega
   generalize a.getD b 0=b01 at*;generalize h.getD b 0=b02 at*;generalize c.getD b 0=a3 at*;generalize d.getD b 0=a4 at*;generalize ad (mix max a h b)++g=b03 at*;generalize ad (mix min c d b)++i=b04 at*;refine aa ?_;grind
  .obtain rfl:b=a.length:=a8Z;clear u v w A;have S:mix max a h a.length=List.zipWith max a h:=by unfold mix;grind
   have V:mix min c d a.length=List.zipWith min c d:=by unfold mix;grind
   have b05:(ad (mix max a h a.length)).length=a.length:=by rw[S,bH,a6m];omega
   have b06:(ad (mix min c d a.length)).length=a.length:=by rw[V,bH,a6m];omega
   have b07:=U.aJ aI;have b08: ¬(a.length:Int)<a.length:=a8Z;refine aa ?_;refine⟨_,U.a1,_,_,rfl,?_⟩;rw[<-S,<-V];refine⟨(o.set F (.cells [.an e a.length N 1,.an y a.length Q 1])).del y,⟨λr j p=> ?_,.inr ⟨e,a.length,N,_,rfl,a05,by rw[U.eG _ a02,U.ao _ _ a03];exact l3,?_,?_,?_,k4,cd⟩⟩,⟨λr j p=> ?_,.inr ⟨y,a.length,Q,_,rfl,U.il _ _,by rw[U.ao _ _ a04];exact l4,?_,?_,?_,k7,ca⟩⟩⟩
   .have k:r≠y:=by rintro rfl;rw[a06]at p;cases p
    have a10:r≠F:=by rintro rfl;rw[l7]at p;cases p
    rw[U.eG _ k,U.ao _ _ a10];exact a09 r j p
   .rw[a4y,bH]at*;omega
   simp_all
   .omega
   .have k:r≠y:=by rintro rfl;rw[U.il]at p;cases p
    rw[U.eG _ k]at p;exact p
   .rw[a4y,bH]at*;omega
   simp_all
   .omega
def F2 (h:U) (a b c d:List Int) (k o p r:Own) (z:a.length<=1000000000000):
  AC Tryz.prog 131 [er a b k o,er c d p r] h λx y=>h.sub y/\x= .aK [er (gx a b c d).1 (gx a b c d).2 .any .any,.v (.bool (jV a b c d))]:=
 (a0v h a b c d k o p r z).view λx y C=>by
  obtain⟨D,W,rfl,e,E,F⟩:=C;obtain⟨f,G,L⟩:=sl F;have P:=E.mono G;obtain⟨S,T,V⟩:=sl P;exact⟨_,S,View.aK (a:= []) ((View.agg (a:= [D]) rfl L).trans (View.agg (a:= []) rfl V)),T,rfl⟩
end Go.Proofs.YtlgnfcaolejgeaaGreat
