import Derived.Test.YtlgnfcaolejgeaaGreatME
import Derived.Test.YtlgnfcaolejgeaaGreatMC
import Derived.Test.YtlgnfcaolejgeaaGreatMD
import Derived.Test.YtlgnfcaolejgeaaGreatMB
import Derived.Shelf.SlSortCmp.NoneTotal
import Derived.Shelf.SlLaysF
import Derived.Test.YtlgnfcaolejgeaaGreatProg
set_option linter.all false
set_option maxRecDepth 100000
namespace Go.Proofs.YtlgnfcaolejgeaaGreat
open Go Go.bz
def bw (c:U):(d:Nat)->a6.T d->R->Prop
 |0,a,h=> ∃b p k o,h= .ptr b 0/\c b=some (.cells [.J p k,.J [] o])/\aA isRow (a6.rows a) p
 |d+1,a,h=> ∃b r k o,h= .ptr b 0/\c b=some (.cells [.J [] o,.J r k])/\aA (bw c d) (a6.kids a) r/\a6.kids a≠ []/\(a6.kids a).length<=1000
def bw.fW {r x:U} (d:iv r x): ∀ {a:Nat}{b:a6.T a}{c:R},bw r a b c->bw x a b c
 |0,b,c,⟨h,y,k,eV,h1,o,p⟩=>⟨h,y,k,eV,h1,d _ _ o,p⟩
 |a+1,b,c,⟨h,z,k,eV,h1,o,p,C⟩=>⟨h,z,k,eV,h1,d _ _ o,p.mono λ_ _=>bw.fW d,C⟩
variable{f t e4:U}{e i v O b8 j0:Nat}
def bw.mono (b:f.sub e4) {t:a6.T e}{a:R} (c:bw f e t a):bw e4 e t a:=c.fW (U.qA b)
theorem bw.cells {d:U}{a:Nat}{h:a6.T a}{b:R} (c:bw d a h b):b.cells.length=1:=by
 cases a with
 |zero=>obtain⟨k,_,_,_,rfl,_⟩:=c;rfl
 |succ a=>obtain⟨k,_,_,_,rfl,_⟩:=c;rfl
theorem bw.ptr {c:U}{a:Nat}{k:a6.T a}{d:R} (h:bw c a k d): ∃b o p,d= .ptr b 0/\c b=some (.cells [o,p]):=by
 cases a with
 |zero=>obtain⟨b,_,_,_,rfl,r,_⟩:=h;simp_all
 |succ a=>obtain⟨b,_,_,_,rfl,r,_⟩:=h;simp_all
theorem Ed {k:Type}: ∀(a:Nat) (b:List k),a<=b.length-> ∀d∈a6.eW a b,d≠ []
 |0,b,_,d,c=>by cases c
 |a+1,b,p,d,c=>by
  have r:=a7P b.length (a+1);have hm:=a6X b.length (a9s a);have x:1<=b.length/(a+1):=(Nat.le_div_iff_mul_le (a9s a)).2 a9w;rw[a6.eW]at c;generalize b.length/(a+1)=h at*;generalize b.length%(a+1)=y at*;have z:(a+1)*h=a*h+h:=by rw[a6d];omega
  have C:a<=a*h:=a8M _ a9w;rcases a5q.1 c with rfl|c
  .intro o;have:=congrArg List.length o;grind
  .exact Ed a _ (by rw[a5k];split<;>omega) d c
variable{b0:Type}
def Zl (a:List b0):a6.chunks a=(List.range (a6.bU a.length)).map λb=>(a.drop (b*(a.length/a6.bU a.length)+min b (a.length%a6.bU a.length))).take (a.length/a6.bU a.length+if b<a.length%a6.bU a.length then 1 else 0):=a6.Dx _ _
def fp (a b:Nat):Nat:=b*(a/a6.bU a)+min b (a%a6.bU a)
def xW (a:i<a6.bU e):fp e (i+1)=fp e i+(hg e).getD i 0:=by rw[xV a];unfold fp;rw[a6d];split<;>omega
def Ee (a:i<=a6.bU e):fp e i<=e:=by have:=a7P e (a6.bU e);have:=a5i (e/a6.bU e) a;unfold fp;omega
def uB {a:List b0}:(a6.chunks a).length=a6.bU a.length:=nn.1
def Ef {a:List b0} (b:e<a6.bU a.length):(a6.chunks a).take (e+1)=(a6.chunks a).take e++ [(a.take (fp a.length (e+1))).drop (fp a.length e)]:=by rw[a5X,Zl,a5u,a7i b,xW b,xV b,a6m];simp[fp]
def Eg (a:i<a6.bU e):(iJ (hg e))[i]? =some (.v (.int .i64 ((hg e).getD i 0:Nat))):=by simp[iJ,uA,a]
variable{g B e0:List R}
def bw.c {a:List (a6.T e)} (b:aA (bw f e) a g):aS 1 g:=b.cells λ_ _=>bw.cells
def Eh (a:List (List Int)) (o:List R) (G:Own) (p:U) (r:aA isRow a o) (L:a.length<=1000):
  AC Tryz.prog 164 [.J o G] p λP d=>p.sub d/\ ∃k x,P= .J k x/\aA (bw d 0) ((a6.chunks a).map a6.leaf) k:=by
 have s:=r.len;have t:=iI r;have u:=xU (a:=a.length);have v:(iJ (hg a.length)).length=a6.bU a.length:=uz.trans uA;refine aM hm Oh ?_;refine cl (Ec a.length L p) ?_;rintro _ S ⟨T,w,rfl⟩;have A:fp a.length 0=0:=by simp[fp]
 refine aa ?_;refine ch [0,5] (λb:Nat×List R×Own=> [(3,.J b.2.1 b.2.2),(4,.v (.int .i64 (fp a.length b.1))),(6,.v (.int .i64 (b.1)))]) (λb d=>b.1<=a6.bU a.length/\aA (bw d 0) (((a6.chunks a).take b.1).map a6.leaf) b.2.1/\bh S d 1 b.2.1 b.2.2) (λb=>a6.bU a.length - b.1) (0,[],.nil) ⟨⟨a9x,trivial,bh.nil U.a1⟩,aR⟩ ?_;rintro⟨c,k,V⟩ W ⟨e,h,y⟩ B
 dsimp only at e h y|-
 have f:=h.len;rw[a5f,a4W,uB]at f;refine aa ?_;refine aG (λg=> ?_) λg=> ?_
 .have H:=xW (e:=a.length) (i:=c) a9w;have I:=Ee (e:=a.length) (i:=c+1) a9w;have K:=Eg (e:=a.length) (i:=c) a9w;have i:=Ef (a:=a) (e:=c) a9w;have z:=(r.take (fp a.length (c+1))).drop (fp a.length c);generalize M:fp a.length (c+1)=C at*;generalize fp a.length c=D at*;generalize (hg a.length).getD c 0=j at*;have N:(D)+(j)=(C:Int):=a9w;refine sg (iI z) (λE l O=> ?_);refine bo λF Q=> ?_;have m:=qB (f:=W) (t:=l.set F (.cells [.J ((o.take C).drop D) E,.J [] .nil]));refine hP (y.mono m) (bw.c h) λ_ x d n q=> ?_;refine⟨(c+1,_,x),⟨by simp only;omega,?_,n⟩,⟨rfl,by simp only;congr 3;omega,rfl⟩,by simp only;omega⟩;simp only[i,a5V];exact(h.mono λ_ _=>bw.fW fi).snoc ⟨F,_,E,.nil,rfl,q _ _ (U.ag _ _ _),z⟩
 .rw[a4U (by rw[uB];omega)]at h;exact⟨_,U.a1,U.ar T y.sub,k,V,rfl,h⟩
theorem xX (z:U) (a:List (a6.T e)) (r:List R) (P:Own) (k:U) (x:aA (bw z e) a r) (S:a.length<=1000) (T:z.sub k):
  AC Tryz.prog 165 [.J r P] k λV d=>k.sub d/\ ∃o y,V= .J o y/\aA (bw d (e+1)) ((a6.chunks a).map a6.node) o:=by
 have A:=x.len;have B:=bw.c x;have W:=xU (a:=a.length);have H:(iJ (hg a.length)).length=a6.bU a.length:=uz.trans uA;refine aM hm Oj ?_;refine cl (Ec a.length S k) ?_;rintro _ f ⟨C,I,rfl⟩;have K:fp a.length 0=0:=by simp[fp]
 refine aa ?_;refine ch [0,5] (λc:Nat×List R×Own=> [(3,.J c.2.1 c.2.2),(4,.v (.int .i64 (fp a.length c.1))),(6,.v (.int .i64 (c.1)))]) (λc d=>c.1<=a6.bU a.length/\aA (bw d (e+1)) (((a6.chunks a).take c.1).map a6.node) c.2.1/\bh f d 1 c.2.1 c.2.2) (λc=>a6.bU a.length - c.1) (0,[],.nil) ⟨⟨a9x,trivial,bh.nil U.a1⟩,aR⟩ ?_;rintro⟨b,o,g⟩ i ⟨j,h,p⟩ M
 dsimp only at j h p|-
 have l:=h.len;rw[a5f,a4W,uB]at l;refine aa ?_;refine aG (λm=> ?_) λm=> ?_
 .have N:=xW (e:=a.length) (i:=b) a9w;have O:=Ee (e:=a.length) (i:=b+1) a9w;have Q:=Eg (e:=a.length) (i:=b) a9w;have n:=Ef (a:=a) (e:=b) a9w;have q:(a.take (fp a.length (b+1))).drop (fp a.length b)≠ []:=Ed (a6.bU a.length) a W _ (a5g (i:=b+1) (by grind[a6.chunks]));have D:=(x.take (fp a.length (b+1))).drop (fp a.length b);generalize X:fp a.length (b+1)=E at*;generalize fp a.length b=F at*;generalize (hg a.length).getD b 0=s at*;have Y:(F)+(s)=(E:Int):=a9w;refine sg (bw.c D) (λG t Z=> ?_);refine bo λL j9=> ?_;have u:=qB (f:=i) (t:=t.set L (.cells [.J [] .nil,.J ((r.take E).drop F) G]));have k0:=U.ar T (U.ar C p.sub);refine hP (p.mono u) (bw.c h) λ_ y d v w=> ?_;refine⟨(b+1,_,y),⟨by simp only;omega,?_,v⟩,⟨rfl,by simp only;congr 3;omega,rfl⟩,by simp only;omega⟩;simp only[n,a5V];exact(h.mono λ_ _=>bw.fW fi).snoc ⟨L,_,G,.nil,rfl,w _ _ (U.ag _ _ _),D.mono λ_ _=>bw.fW fi,q,by simp[a6.fo];omega⟩
 .rw[a4U (by rw[uB];omega)]at h;exact⟨_,U.a1,U.ar C p.sub,o,g,rfl,h⟩
end Go.Proofs.YtlgnfcaolejgeaaGreat
namespace Go.a6
variable {lt:Row->Row->Bool}{ok:Row->Prop}
variable{e i v O b8 j0:Nat}{b0:Type}
def qS {a:List b0}{b:b0} (c:a[e]? =some b):a=a.take e++b::a.drop (e+1):=by obtain⟨d,rfl⟩:=a5b.1 c;simp
variable{h3:Row}
def uC (y:Ord lt ok) (z:ok h3) {a:List (T e)} (C:a≠ []) (k: ∀b∈a,1<=len b/\ll e b) (o:jf lt (a.flatMap (bg e))) (p: ∀c∈a.flatMap (bg e),ok c):
  ∃b,a[cQ lt h3 (a.map (cM e))]? =some b/\(∀c∈(a.take (cQ lt h3 (a.map (cM e)))).flatMap (bg e),lt c h3=true)/\(∀c∈(a.drop (cQ lt h3 (a.map (cM e))+1)).flatMap (bg e),lt h3 c=true):=by
 have D:a.map (cM e)=(a.map (bg e)).map (·.headD []):=by rw[a6W];rfl
 rw[a8e]at o p;obtain⟨r,d,h⟩:=DD y z (a.map (bg e)) (by simpa using C) (λF E=>by
  obtain⟨b,x,rfl⟩:=a5o.1 E;exact xD (k b x).1 (k b x).2) o p
 rw[<-D]at r d h;rw[<-a8w,<-a8e]at d;rw[<-a7M,<-a8e]at h;exact⟨_,a4T (by simpa using r),d,h⟩
theorem qT (C:Ord lt ok) (P:ok h3): ∀(a:Nat) (b:T a),jP a b->jf lt (bg a b)->(∀d∈bg a b,ok d)->h3∉bg a b->
  (eX lt h3 a b).flatMap (bg a)=dN lt (bg a b) h3/\(∀c∈eX lt h3 a b,WF a c)/\1<=(eX lt h3 a b).length/\(eX lt h3 a b).length<=2:=by
 intro a
 induction a with
 |zero=>intro b D p o x;obtain⟨e,rfl⟩:=hV b;obtain⟨y,E,_,_⟩:=D;rw[hX]at y E;obtain⟨F,G,c,_⟩:=DB (h9:=dN lt e h3) (by rw[ot];omega) (by rw[ot];omega);exact⟨Dz _,F,by simpa[eX,qN] using G,by simpa[eX,qN] using c⟩
 |succ a ih=>
  intro b D p o x;obtain⟨h,rfl⟩:=gr b;obtain⟨y,E,f,L⟩:=D;rw[dE]at y E L;have L:=L a9w;rw[ga]at p o x|-;have g: ∀c∈h,WF a c:=f;obtain⟨c,r,S,V⟩:=uC C P (by intro i;subst i;simp at y) (λc r=>by grind[gZ]) p o;simp only[eX,fo];generalize cQ lt h3 (h.map (cM a))=z at r S V;rw[r];have s:=qS r;have j:h.flatMap (bg a)=(h.take z).flatMap (bg a)++(bg a c++(h.drop (z+1)).flatMap (bg a)):=by grind
  rw[j]at p o x|-;have l:=(a5W.1 (a5W.1 p).2.1).1;obtain⟨m,t,u,v⟩:=ih c (jP.of (g c (a5a r))) l (λd k=>o d (by simp[k])) (λk=>x (by simp[k]));have W:(h.take z++eX lt h3 a c++h.drop (z+1)).length=h.length - 1+(eX lt h3 a c).length:=by grind
  obtain⟨F,G,n,_⟩:=DC (by rw[W];omega) (by rw[W];omega) (λd k=>by
   grind)
  refine⟨?_,F,by simpa using G,by simpa using n⟩;simp only[];rw[DA,a5E,a5E,m,xE S,YE,a5h];intro d k;cases q:lt d h3 with
  |false=>rfl
  |true=>have:=C.trans d h3 d (o d (by simp[k])) P (o d (by simp[k])) q (V d k);rw[C.je]at this;cases this
theorem Ei {a b:T e} (k:ll e a) (o:ll e b) (d:2<=len a+len b) (h:len a+len b<=5):
  (kB a b).flatMap (bg e)=bg e a++bg e b/\(∀c∈kB a b,WF e c)/\1<=(kB a b).length/\(kB a b).length<=2:=by
 cases e with
 |zero=>obtain⟨a,rfl⟩:=hV a;obtain⟨b,rfl⟩:=hV b;grind[hX,DB,kB,qN,kA,Dz]
 |succ e=>obtain⟨a,rfl⟩:=gr a;obtain⟨b,rfl⟩:=gr b;rw[dE,dE]at d h;obtain⟨r,x,y,_⟩:=DC (a:=a++b) (by simpa using d) (by simpa using h) (λc p=>(a5j.1 p).elim (k c) (o c));grind[kB,fo,ga,DA]
variable{h9:List Row}
theorem filter_none (b:h3∉h9):h9.filter (λa=>decide (a≠h3))=h9:=by rw[a8q];grind
theorem Zm (b:jf lt h9) (d: ∀h3,lt h3 h3=false):h9.length - 1<=(h9.filter λc=>decide (c≠h3)).length:=by
 induction h9 with
 |nil=>simp
 |cons a h9 ih=>
  have h:=a5D.1 b;by_cases bW:a=h3
  .subst bW;have:a∉h9:=λk=>by grind
   rw[a8O a9x,filter_none this];simp
  simp_all
theorem pz (E:Ord lt ok) (v:ok h3): ∀(a:Nat) (d:T a),jP a d->jf lt (bg a d)->(∀h∈bg a d,ok h)->
  bg a (cI lt h3 a d)=(bg a d).filter (λh=>decide (h≠h3))/\ll a (cI lt h3 a d)/\len d - 1<=len (cI lt h3 a d)/\len (cI lt h3 a d)<=4:=by
 intro a
 induction a with
 |zero=>intro d P o r;obtain⟨Q,rfl⟩:=hV d;obtain⟨F,G,_,_⟩:=P;rw[hX]at F G;simp only[cI,qN,kA,hX]at o|-;exact⟨trivial,trivial,Zm o E.je,by grind⟩
 |succ a ih=>
  intro d P o r;obtain⟨b,rfl⟩:=gr d;obtain⟨F,G,w,S⟩:=P;rw[dE]at F G S;have S:=S a9w;rw[ga]at o r|-;have V: ∀p∈b,WF a p:=w;obtain⟨p,x,i,j⟩:=uC E v (by intro y;subst y;simp at F) (λp x=>by grind[gZ]) o r;simp only[cI,fo,dE];generalize cQ lt h3 (b.map (cM a))=c at x i j;rw[x];simp only[dE,ga];have X:=qS x;obtain⟨A,_⟩:=a5b.1 x;have B:b.flatMap (bg a)=(b.take c).flatMap (bg a)++(bg a p++(b.drop (c+1)).flatMap (bg a)):=by grind
  have Y:=o;have Z:=r;rw[B]at o r;have l:=V p (a5a x);have j9:=gZ.1 l;obtain⟨H,L,I,m⟩:=ih p (jP.of l) (a5W.1 (a5W.1 o).2.1).1 (λh z=>r h (by simp[z]));generalize cI lt h3 a p=h at H L I m;have k0:=filter_none λz=>by
   have:=i h3 z;rw[E.je]at this;cases this
  have k1:=filter_none λz=>by
   have:=j h3 z;rw[E.je]at this;cases this
  have n:(b.flatMap (bg a)).filter (λh=>decide (h≠h3))=(b.take c).flatMap (bg a)++(bg a h++(b.drop (c+1)).flatMap (bg a)):=by grind
  rw[n];unfold ln;by_cases W:2<=len h
  .rw[if_pos W];have y:b.set c h=b.take c++h::b.drop (c+1):=by rw[a6k,if_pos A]
   refine⟨by grind,λq C=> ?_,a9x,by simpa using G⟩;rw[fo,y]at C;simp only[a5j,a5q]at C;rcases C with C|rfl|C;grind
   .exact gZ.2 ⟨W,m,L⟩
   grind
  .rw[if_neg W];have k2:len h=1:=a9w;by_cases e:c=0
   .subst e;have k:b[1]? =some b[1]:=a4T a9w;simp only[if_true];rw[k];simp only[Nat.zero_sub,a6Q,a5m,a5t,a7I]at n|-;generalize b[1]=D at k;have f:=V D (a5a k);have g:=gZ.1 f;obtain⟨s,K,q,y⟩:=Ei L g.2.2 a9w a9w;have t:b.drop 1=D::b.drop 2:=by obtain⟨M,rfl⟩:=a5b.1 k;simp
    refine⟨by grind,λN u=> ?_,a9y,a9y⟩;grind[fo,List.mem_of_mem_drop]
   .rw[if_neg e];have k:b[c - 1]? =some b[c - 1]:=a4T a9w;rw[k];simp only[if_neg e];generalize b[c - 1]=D at k;have f:=V D (a5a k);have g:=gZ.1 f;obtain⟨s,K,q,y⟩:=Ei g.2.2 L a9w a9w;have t:b.take c=b.take (c - 1)++ [D]:=by
     obtain⟨M,rfl⟩:=a5b.1 k
     conv=>lhs;rw[show c=c - 1+1 by omega]
     simp
    have O:c - 1+2=c+1:=a9w;rw[O];refine⟨by rw[a5E,a5E,s,t,a5E];simp,λN u=> ?_,a9y,a9y⟩;simp only[fo,a5j]at u;grind
end Go.a6
namespace Go.Proofs.YtlgnfcaolejgeaaGreat
open Go Go.bz
abbrev eE:=Option ((a:Nat)×a6.T a)
def fN (c:U) (a:eE) (b:R):Prop:=
 match a with
 |none=>b= .v (.pointer none)
 |some ⟨d,a⟩=>bw c d a b
def fN.fW {b c:U} (k:iv b c) {a:eE}{d:R} (h:fN b a d):fN c a d:=by
 match a with
 |none=>exact h
 |some ⟨_,_⟩=>exact bw.fW k h
variable{e i v O b8 j0:Nat}
def pA:List (a6.T e)->eE
 | []=>none
 | [a]=>some ⟨e,a⟩
 |b=>some ⟨e+1,a6.node b⟩
variable{b0:Type}
def Zn {a:List b0} (b:a.length=1): ∃c,a= [c]:=a6U.1 b
theorem Zo (c:List (a6.T e)) (x:List R) (E:Own) (p:U) (F:aA (bw p e) c x) (G:c.length<=4):
  AC Tryz.prog 98 [.J x E] p λL h=>p.sub h/\fN h (pA c) L:=by
 refine aM hm Mf ?_;refine ch [] (λd:List R×Own=> [(0,.J d.1 d.2)]) (λd h=>p.sub h/\(aA (bw h e) c d.1\/2<=c.length/\ ∃a,d.1= [a]/\bw h (e+1) (a6.node c) a)) (λd=>d.1.length) (x,E) ⟨⟨U.a1,.inl F⟩,aR⟩ ?_;rintro⟨r,P⟩ y ⟨z,b⟩ g
 dsimp only at b|-
 refine aa ?_;refine aG (λk=> ?_) λk=> ?_
 .rcases b with b|⟨_,a,rfl,_⟩
  .have i:=b.len;refine cl (xX y c r P y b a9w U.a1) ?_;rintro _ j ⟨S,l,T,rfl,C⟩;rw[a6.pw a9w G]at C;obtain⟨a,rfl⟩:=Zn C.len;refine aa ?_;exact⟨([a],T),⟨U.ar z S,.inr ⟨a9w,a,rfl,C.1⟩⟩,rfl,a9y⟩
  .simp at k
 .have V:(r= []/\c= [])\/ ∃a,r= [a]/\fN y (pA c) a:=by
   rcases b with b|⟨W,a,rfl,b⟩
   .match c,r,b,k with
    | [],[],_,_=>simp
    | [m],[a],b,_=>exact .inr ⟨a,rfl,b.1⟩
    | _:: _:: _,_:: _:: _,_,k=>simp at k;omega
   .match c,W with
    | _:: _:: _,_=>exact .inr ⟨a,rfl,b⟩
  clear b;rcases V with ⟨rfl,rfl⟩|⟨a,rfl,o⟩
  .refine aa ?_;exact⟨_,U.a1,z,rfl⟩
  .have f:(∃D,a= .ptr D 0)\/a= .v (.pointer none):=by
    unfold fN at o;split at o
    .exact .inr o
    .obtain⟨D,_,_,n,_⟩:=o.ptr;simp_all
   rcases f with ⟨D,rfl⟩|rfl
   all_goals refine aa ?_;exact⟨_,U.a1,z,o⟩
theorem xY: ∀(b:Nat) (d:a6.T b) (T:R) (p:U),bw p b d T->(a6.bg b d).length<=100000->
  AC Tryz.prog 94 [T] p λW F=>p.sub F/\ ∃h G,W= .J h G/\aA isRow (a6.bg b d) h:=by
 intro b
 induction b with
 |zero=>rintro d _ p ⟨e,h,G,f,rfl,k,o⟩ L;have P:=U.af k;have g:=o.len;have w:(a6.rows d).length<=100000:=L;refine aM hm wC ?_;refine sg (iI o) λC i D=> ?_;have P:=rd D.sub k;refine gJ [0] (λc:Nat=> [(3,.J h C),(4,.v (.int .i64 (c)))]) (λc=>c=0) (λ_=>0) 0 rfl aR ?_;rintro _ rfl j;refine aa ?_;exact⟨D.sub,h,C,rfl,o⟩
 |succ b ih=>
  rintro d _ p ⟨e,A,G,f,rfl,k,o,B,l⟩ L;obtain⟨r,rfl⟩:=a6.gr d;rw[a6.fo]at o l;rw[a6.ga]at L|-;have P:=U.af k;have g:=o.len;refine aM hm wC ?_;refine sg Cs λC i D=> ?_;refine ch [0] (λa:Nat×List R×Own=> [(3,.J a.2.1 a.2.2),(4,.v (.int .i64 (a.1)))]) (λa F=>a.1<=r.length/\aA isRow ((r.take a.1).flatMap (a6.bg b)) a.2.1/\bh p F 1 a.2.1 a.2.2) (λa=>r.length - a.1) (0,[],C) ⟨⟨a9x,trivial,D⟩,aR⟩ ?_;rintro⟨c,h,m⟩ n ⟨y,x,z⟩ j
  dsimp only at y x z|-
  have P:=rd z.sub k;refine aa ?_;refine aG (λE=> ?_) λE=> ?_
  .have y:c<r.length:=a9w;obtain⟨H,aM,V⟩:=o.get (a4T y);have q:=a6.qS (a4T y);have s:=a6f y;have t:=bw.mono z.sub V;obtain⟨I,_,_,rfl,_⟩:=V.ptr;generalize r[c]=E at*;have K:((r.take c).flatMap (a6.bg b)).length+(a6.bg b E).length<=100000:=by grind
   clear q;have M:=x.len;refine cl (ih E _ n t a9w) ?_;rintro _ N ⟨u,O,Q,rfl,S⟩;have X:=S.len;refine ky (z.mono u) (iI x) (iI S) λv Y k _=> ?_;refine⟨(c+1,_,v),⟨by simp only;omega,?_,k⟩,⟨rfl,rfl⟩,by simp only;omega⟩;simp only[s,a5E,a5v,a7I,a5Z];exact x.append S
  .rw[a4U a9w]at x;exact⟨z.sub,h,m,rfl,x⟩
def Zp (a:U):AC Tryz.prog 94 [.v (.pointer none)] a λb c=>c=a/\b= .J [] .nil:=by refine aM hm wC ?_;trivial
def Zq (a:Nat) (b:a6.T a) (d:R) (c:U) (r:bw c a b d) (x:(a6.bg a b).length<=100000) (y:a6.bg a b≠ []):
  AC Tryz.prog 252 [d] c λh z=>c.sub z/\ ∃k,h= .J (ad (a6.cM a b)) k:=by
 refine aM hm QO ?_;refine cl (xY a b d c r x) ?_;rintro _ C ⟨D,E,k,rfl,o⟩;unfold a6.cM;cases p:a6.bg a b with
 |nil=>exact absurd p y
 |cons F h=>rw[p]at o;obtain⟨G,aM,L,rfl⟩:=o.get (i:=0) rfl;refine aa ?_;simp
theorem xZ (b:List (List Int)) (k:List R) (x o:Own) (c:List Int) (d:U) (p:aA isRow b k) (E:b.length<=100000) (F: ∀h∈b,h.length<=1000):
  AC Tryz.prog 93 [.J k x,.J (ad c) o] d λh y=>y=d/\h= .v (.bool (decide (c∈b))):=by
 have G:=p.len;refine aM hm M7 ?_;refine gJ [0,1] (λa:Nat=> [(5,.v (.int .i64 (a)))]) (λa=>a<=b.length/\ ∀r<a,b.getD r []≠c) (λa=>b.length - a) 0 ⟨a9w,λr L=>by omega⟩ aR ?_;rintro a ⟨P,z⟩ S;refine aa ?_;refine aG (λC=> ?_) λC=> ?_
 .obtain⟨_,T,D,rfl⟩:=p.at [] (e:=a) a9w;refine lX (nq (b.getD a []) c D o d (by grind)) ?_;refine aG (λc2=> ?_) λc2=> ?_
  .exact aP (by grind)
  .exact⟨a+1,⟨a9w,upto z c2⟩,rfl,a9w⟩
 grind[aP,List.getElem_of_mem,List.getD]
def gP (a:List Int->List Int->Bool) (b:List Int):Nat->Nat->List (List Int)->Nat
 | _,at_,[]=>at_
 |c,at_,d::bH=>gP a b (c+1) (if a b d=true then at_ else c) bH
def Ej {d:List Int->List Int->Bool}{h:List Int}: ∀(b:List (List Int)) (k c:Nat),(∀a∈b,d h a=true)->gP d h k c b=c
 | [],_,_,_=>rfl
 |a::b,k,c,o=>by
  rw[gP,if_pos (o a a9x)];exact Ej b _ _ λa p=>o a (by simp[p])
theorem Ek {a:List Int->List Int->Bool}{b:List Int}: ∀(c:List (List Int)) (k:List Int) (d:Nat),c.Pairwise (λo p=>a b o=true->a b p=true)->gP a b (d+1) d c=d+a6.cQ a b (k::c)
 | [],k,d,_=>rfl
 |h::c,k,d,r=>by
  have x:=a5D.1 r;rw[gP];have y:a6.cQ a b (k::h::c)=if a b h=true then 0 else a6.cQ a b (h::c)+1:=rfl;rw[y];by_cases hk:a b h=true;simp_all [Ej]
  .rw[if_neg hk,if_neg hk,Ek c h (d+1) x.2];omega
variable{Q:List (List Int)}{q b6:List Int}
theorem Zr {a:List Int->List Int->Bool} (d:Q.Pairwise (λb c=>a q b=true->a q c=true)):gP a q 0 0 Q=a6.cQ a q Q:=by
 cases Q with
 |nil=>rfl
 |cons h Q=>grind[gP,Ek,List.pairwise_cons]
def El {k o:List Int->List Int->Bool}{c:List Int}: ∀(b:List (List Int)) (d h:Nat),(∀a∈b,k c a=o c a)->gP k c d h b=gP o c d h b
 | [],_,_,_=>rfl
 |a::b,d,h,p=>by
  rw[gP,gP,p a a9x];exact El b _ _ λa r=>p a (by simp[r])
def Em {d:List Int->List Int->Bool}{h k:List Int}: ∀(a:List (List Int)) (b c:Nat),gP d h b c (a++ [k])=if d h k=true then gP d h b c a else b+a.length
 | [],b,c=>by rfl
 |o::a,b,c=>by
  rw[a6h,gP,Em a,gP,a4Y];split<;>omega
theorem En (b:List (a6.T e)) (y:R) (c:List Int) (z:Own) (h:U) (E:bw h (e+1) (a6.node b) y) (F:c.length<=1000) (G: ∀d∈b,(a6.bg e d).length<=100000/\a6.bg e d≠ []/\(a6.cM e d).length<=1000):
  AC Tryz.prog 163 [y,.J (ad c) z] h λL o=>h.sub o/\L= .v (.int .i64 (gP kF c 0 0 (b.map (a6.cM e)):Int)):=by
 obtain⟨j,l,m,n,rfl,P,p,_,S⟩:=E;rw[a6.fo]at p S;have q:=p.len;have s:gP kF c 0 0 []=0:=rfl;refine aM hm Of ?_;refine ch [0,1] (λa:Nat=> [(5,.v (.int .i64 (gP kF c 0 0 ((b.map (a6.cM e)).take a)))),(6,.v (.int .i64 (a)))]) (λa o=>a<=b.length/\h.sub o) (λa=>b.length - a) 0 ⟨⟨a9w,U.a1⟩,aR⟩ ?_;rintro a T ⟨k,r⟩ t;have u:=rd r P;refine aa ?_;refine aG (λd=> ?_) λd=> ?_
 .have k:a<b.length:=a9w;have V:=Em (d:=kF) (h:=c) (k:=a6.cM e b[a]) ((b.map (a6.cM e)).take a) 0 0;rw[a4W,a5f,a6D a9w,show(b.map (a6.cM e)).take a++ [a6.cM e b[a]]=(b.map (a6.cM e)).take (a+1) by simp[a6f,k]]at V;have x:=G _ (a5w k);obtain⟨v,aM,C⟩:=p.get (a4T k);obtain⟨w,_,_,rfl,_⟩:=C.ptr;generalize b[a]=D at*;refine cl (Zq e D _ T (bw.mono r C) x.1 x.2.1) ?_;rintro _ W ⟨f,g,rfl⟩;refine cl (E4 c (a6.cM e D) z g W F x.2.2) ?_;rintro _ A ⟨i,rfl⟩;have B:=U.ar r (U.ar f i);refine aa ?_;refine aG (λc2=> ?_) λc2=> ?_;grind;grind
 .rw[a4U (by rw[a5f];omega)]
theorem Zs {b c:List Int->List Int->Bool} (d: ∀a∈Q,b a q=c a q):a6.dN b Q q=a6.dN c Q q:=by
 unfold a6.dN;have r: ∀Q:List (List Int),(∀a∈Q,b a q=c a q)->Q.takeWhile (λa=>b a q)=Q.takeWhile (λa=>c a q)/\Q.dropWhile (λa=>b a q)=Q.dropWhile (λa=>c a q):=by
  intro Q
  induction Q with
  |nil=>intro _;trivial
  |cons h Q ih=>intro d;obtain⟨k,o⟩:=ih λa p=>d a (by simp[p]);simp only[a6n,a7u,d h a9x];rw[k,o];trivial
 simp_all
structure GT (d h:Nat) (t:a6.T h):Prop where
 wf:a6.jP h t
 dO:a6.jf bC (a6.bg h t)
 ok: ∀x∈a6.bg h t,bL d x
 dB:(a6.bg h t).length<=1000
def y0 {a:a6.T e} (b:a6.bg e a≠ []):a6.cM e a∈a6.bg e a:=by
 unfold a6.cM;cases c:a6.bg e a with
 |nil=>trivial
 |cons d h=>simp
structure Zt (d:Nat) {h:Nat} (bH:List (a6.T h)) (p:List Int):Prop where
 ne:bH≠ []
 two:2<=bH.length/\bH.length<=4
 hf: ∀c∈bH,GT d h c/\a6.WF h c/\a6.bg h c≠ []/\bL d (a6.cM h c)
 Eo:gP kF p 0 0 (bH.map (a6.cM h))=a6.cQ bC p (bH.map (a6.cM h))
 at_: ∃c,bH[a6.cQ bC p (bH.map (a6.cM h))]? =some c
theorem GT.kids (x:1<=e) (y:e<=8) {d:List (a6.T i)} (p:GT e (i+1) (a6.node d)) (z:bL e q):Zt e d q:=by
 obtain⟨D,E,T,r⟩:=p.wf;rw[a6.dE]at D E r;have r:=r a9w;have V: ∀a∈d,a6.WF i a:=T;have h:=p.dO;have k:=p.ok;have F:=p.dB;rw[a6.ga]at h k F;have o:d≠ []:=by intro W;subst W;simp at D
 have c: ∀a∈d,GT e i a/\a6.WF i a/\a6.bg i a≠ []/\bL e (a6.cM i a):=by intro a b;have C:=V a b;have f:=a6.gZ.1 C;have o:=a6.xD a9w f.2.2;obtain⟨v,w,g⟩:=a7x b;rw[g,a5E,a5v]at h k F;have j:=(a5W.1 (a5W.1 h).2.1).1;refine⟨⟨a6.jP.of C,j,λl m=>k l (by simp[m]),by grind⟩,C,o,k _ (by simp[y0 o])⟩
 refine⟨o,⟨r,E⟩,c,?_,?_⟩
 .rw[El _ _ _ λA n=>by
   obtain⟨a,b,rfl⟩:=a5o.1 n;exact E8 x y z (c a b).2.2.2]
  refine Zr ?_;rw[a7q];have s:=(List.pairwise_flatMap.1 h).2;refine a7W (λ{G L} P S t=> ?_) s;intro u;exact(gw x y).trans q _ _ z (c G P).2.2.2 (c L S).2.2.2 u (t _ (y0 (c G P).2.2.1) _ (y0 (c L S).2.2.1))
 .obtain⟨a,b,_⟩:=a6.uC (gw x y) z o (λa b=>by grind[a6.gZ]) h k;exact⟨a,b⟩
theorem Zu (P:1<=e) (S:e<=8) (b:List Int) (T:Own) (D:bL e b): ∀(a:Nat) (d:a6.T a) (E:R) (k:U),bw k a d E->GT e a d->b∉a6.bg a d->
  AC Tryz.prog 99 [E,.J (ad b) T] k λV i=>k.sub i/\ ∃x F,V= .J x F/\aA (bw i a) (a6.eX bC b a d) x:=by
 have l6:=D.len;intro a
 induction a with
 |zero=>rintro d _ k ⟨j,M,F,N,rfl,y,c⟩ G l;obtain⟨O,rfl⟩:=a6.hV d;rw[a6.qN]at c;obtain⟨_,Q,_,_⟩:=G.wf;have W:=G.ok;rw[a6.hX]at Q;rw[a6.kA]at W;have m:=U.af y;refine aM hm Bm ?_;refine cl (Zk O M F T b k c a9w (λV X=>by have:=(W V X).len;omega) a9w) ?_;rintro _ n ⟨z,Y,Z,rfl,q⟩;rw[Zs (c:=bC) λj9 s=>E8 P S (W j9 s) D]at q;refine cl (Eh _ Y Z n q (by rw[a6.ot];omega)) ?_;rintro _ l7 ⟨k0,x,k1,rfl,L⟩;refine aa ?_;exact⟨_,U.a1,U.ar z k0,x,k1,rfl,L⟩
 |succ a ih=>
  intro d E k L G l;obtain⟨h,rfl⟩:=a6.gr d;have C:=G.kids P S D;have t:=En h E b T k L a9w λo p=>by
   obtain⟨r,_,l8,k2⟩:=C.hf o p;have:=r.dB;have:=k2.len;grind
  obtain⟨j,l9,F,N,rfl,y,c,_,_⟩:=L;rw[a6.fo]at c;have n0:=c.len;obtain⟨n1,n2⟩:=C.two;have n3: ¬(h.length:Int)=0:=a9w;have m:=U.af y;obtain⟨o,p⟩:=C.at_;have u:a6.eX bC b (a+1) (a6.node h)=(a6.chunks (h.take (a6.cQ bC b (h.map (a6.cM a)))++a6.eX bC b a o++h.drop (a6.cQ bC b (h.map (a6.cM a))+1))).map a6.node:=by simp only[a6.eX,a6.fo];rw[p]
  rw[u];rw[C.Eo]at t;clear u;generalize a6.cQ bC b (h.map (a6.cM a))=v at*;have n4:=(a5b.1 p).1;obtain⟨r,_,_,_⟩:=C.hf o (a5a p);have w:b∉a6.bg a o:=λs=>l (by rw[a6.ga];grind);obtain⟨_,_,n5,n9⟩:=a6.qT (gw P S) D a o r.wf r.dO r.ok w;have a00:=bw.c c;obtain⟨_,a01,A⟩:=c.get p;obtain⟨a02,_,_,rfl,_⟩:=A.ptr;refine aM hm Bm ?_;refine cl t ?_;rintro _ n ⟨z,rfl⟩;have m:=rd z y;have f:=c.take v;refine sg (bw.c f) λa03 k3 B=> ?_;have a04:=rd (U.ar z B.sub) y;refine cl (ih o _ k3 (A.fW fi) r w) ?_;rintro _ a05 ⟨k4,x,a06,rfl,g⟩;have a07:=g.len;refine ky (B.mono k4) (bw.c f) (bw.c g) (λa08 k5 k6 k7=> ?_);have a09:k5.read j= _:=U.af du;have H:=(f.mono λ_ _ a=>bw.fW (fi) a).append (g.mono λ_ _=>bw.fW k7);have I:=c.drop (v+1);refine ky k6 (bw.c H) (bw.c I) (λk8 K k9 l0=> ?_);have l1:=(H.mono λ_ _=>bw.fW l0).append (I.mono λ_ _ a=>bw.fW (fi) a);refine cl (xX K _ _ k8 K l1 (by grind) U.a1) ?_;rintro _ a10 ⟨l2,l3,l4,rfl,l5⟩;refine aa ?_;exact⟨_,U.a1,U.ar z (U.ar k9.sub l2),l3,l4,rfl,l5⟩
def eF:eE->List (List Int)
 |none=> []
 |some ⟨a,b⟩=>a6.bg a b
def iK (a:Nat):eE->Prop
 |none=>True
 |some ⟨b,c⟩=>GT a b c
def kG (a:eE) (b:List Int):eE:=
 match a with
 |none=>some ⟨0,a6.leaf [b]⟩
 |some ⟨c,a⟩=>if b∈a6.bg c a then some ⟨c,a⟩else pA (a6.eX bC b c a)
def Zv (z:1<=e) (C:e<=8) (c:List Int) (k:Own) (D:bL e c) (a:eE) (E:R) (o:U) (d:fN o a E) (S:iK e a):
  AC Tryz.prog 55 [E,.J (ad c) k] o λp F=>o.sub F/\ ∃G r,p= .aK [G,.v (.bool r)]/\fN F (kG a c) G:=by
 match a with
 |none=>obtain rfl:=d;refine aM hm Bf ?_;refine db U.a1 (by simp[aS,R.cells]) λT v V=> ?_;refine aa ?_;refine bo λL W=> ?_;exact⟨_,U.a1,U.ar V.sub (U.ae U.a1 W),_,_,rfl,L,_,T,.nil,rfl,U.ag _ _ _,⟨k,rfl⟩,trivial⟩
 |some ⟨x,a⟩=>
  obtain⟨r,L,w,rfl,A⟩:=bw.ptr d;have b:GT e x a:=S;have B:=b.dB;refine aM hm Bf ?_;refine cl (xY x a (.ptr r 0) o d a9w) ?_;rintro _ P ⟨y,f,g,rfl,i⟩;refine lX (xZ _ f g k c P i a9w λp j=>by have:=(b.ok p j).len;omega) ?_;refine aG (λh=> ?_) λh=> ?_
  .refine⟨_,U.a1,y,_,_,rfl,?_⟩;simp only[kG,if_pos h];exact bw.mono y d
  .refine cl (Zu z C c k D x a (.ptr r 0) P (bw.mono y d) b h) ?_;rintro _ l ⟨m,n,q,rfl,s⟩;obtain⟨_,_,H,I⟩:=a6.qT (gw z C) D x a b.wf b.dO b.ok h;refine cl (Zo _ n q l s a9w) ?_;rintro p K ⟨t,u⟩;refine aa ?_;refine⟨_,U.a1,U.ar y (U.ar m t),_,_,rfl,?_⟩;simp only[kG,if_neg h];exact u
structure hh (d:Nat) (b:List Int×List Int):Prop where
 ok:cO b.1 b.2 d=true
 aU:dj b.1
 aV:dj b.2
theorem lp:cO q b6 e=true↔1<=e/\e<=8/\q.length=e/\b6.length=e/\ ∀a,a<e->q.getD a 0<=b6.getD a 0:=by unfold cO;grind
theorem Ep {b:Int->Int->Int} (h: ∀a c,b a c=a\/b a c=c) (k:dj q) (o:dj b6):dj (List.zipWith b q b6):=by intro a d;obtain⟨p,r,rfl⟩:=a5G d;grind[List.length_zipWith,List.getElem_mem]
theorem Er {a:Int->Int->Int} (b:e<q.length) (c:e<b6.length):(List.zipWith a q b6).getD e 0=a (q.getD e 0) (b6.getD e 0):=by grind
theorem y1 {d h:List Int×List Int} (a:hh e d) (b:hh e h):hh e (cP d h):=by
 have c:=lp.1 a.ok;have k:=lp.1 b.ok;unfold cP;rw[c.2.2.1,k.2.2.1,if_pos a.ok,if_pos b.ok,if_pos rfl];refine⟨lp.2 ⟨c.1,c.2.1,by simp_all,by simp_all,λr x=> ?_⟩,?_,?_⟩;grind
 .exact Ep (λo p=>by omega) a.aU b.aU
 .exact Ep (λo p=>by omega) a.aV b.aV
theorem pB {a:List Int×List Int} (b:hh e a):cP ([],[]) a=a:=by have c:=lp.1 b.ok;unfold cP;have:cO ([]) [] ([]:List Int).length=false:=rfl;rw[if_neg (by rw[this];simp),c.2.2.1,if_pos b.ok]
def y2 (c:1<=e) (d:e<=8) (a:bL e q):hh e (gn q):=by have b:=a.len;unfold gn;rw[if_pos a9w];exact⟨lp.2 ⟨c,d,b,b,λ_ _=>a8T _⟩,a.jU,a.jU⟩
structure mj (d:Nat) (n:Nat) (y:gM):Prop where
 live:y.live=n
 aO:(n=0/\y.aO=([],[]))\/(0<n/\hh d y.aO)
theorem Es {h:Nat} (o:1<=h) (p:h<=8): ∀(b:List (List Int)) (c:Nat) (a:gM),(∀d∈b,bL h d)->mj h c a->mj h (c+b.length) ((b.map λd=>(d,true)).foldl dM a)
 | [],c,a,_,k=>by trivial
 |d::b,c,a,r,k=>by
  rw[a5r,a6a,a4Y,show c+(b.length+1)=(c+1)+b.length by omega];refine Es o p b (c+1) _ (λy z=>r y (by simp[z])) ?_;have C:=y2 o p (r d a9x);rw[dM,if_pos rfl];refine⟨by rw[show(({a with live:=a.live+1,aO:=cP a.aO (gn d)}:gM)).live=a.live+1 from rfl,k.live];omega,.inr ⟨a9w,?_⟩⟩;rcases k.aO with ⟨_,x⟩|⟨_,x⟩;grind[cP,gn,pB]
  .exact y1 x C
structure jh (d n:Nat) (k:ay):Prop where
 sum:k.sum.length=32
 live:k.live=n
 size:k.size=n
 pos:1<=n
 aO:hh d (k.aU,k.aV)
 key:bL d k.key
def Et {k:Nat}: ∀(a:List (ay×Nat)) (b:Nat) (d:gM),(∀c∈a,jh k c.2 c.1)->mj k b d->mj k (b+(a.map Prod.snd).sum) ((a.map Prod.fst).foldl ep d)
 | [],b,d,_,o=>by trivial
 |(c,h)::a,b,d,y,o=>by
  have p:=y (c,h) a9x;simp only[a5r,a6a,a8b];rw[show b+(h+(a.map Prod.snd).sum)=(b+h)+(a.map Prod.snd).sum by omega];refine Et a (b+h) _ (λz C=>y z (by simp[C])) ?_;have r:=p.aO;have D:=p.pos;refine⟨?_,.inr ⟨by have:1<=h:=D;omega,?_⟩⟩
  .show d.live+c.live= _;rw[o.live,p.live];push_cast;rfl
  .show hh k (cP d.aO (c.aU,c.aV));rcases o.aO with ⟨_,x⟩|⟨_,x⟩
   .rw[x,pB r];exact r
   .exact y1 x r
def c4:(a:Nat)->a6.T a->ay
 |0,b=>eU (dV (a6.rows b))
 |a+1,b=>eU (ej ((a6.kids b).map (c4 a)))
def dy:(a:Nat)->a6.T a->c3
 |0,b=>dV (a6.rows b)
 |a+1,b=>ej ((a6.kids b).map (c4 a))
def sL: ∀ {a:Nat}{b:a6.T a},c4 a b=eU (dy a b)
 |0,_=>rfl
 | _+1,_=>rfl
def Zw:dy 0 (a6.leaf Q)=dV Q:=rfl
def y3 {a:List (a6.T e)}:dy (e+1) (a6.node a)=ej (a.map (c4 e)):=rfl
structure eZ (d h:Nat) (t:a6.T h):Prop where
 wf:a6.jP h t
 ok: ∀x∈a6.bg h t,bL d x
 dB:(a6.bg h t).length<=1048576
def GT.jV {b:a6.T e} (a:GT i e b):eZ i e b:=⟨a.wf,a.ok,by have:=a.dB;omega⟩
theorem eZ.hf {d:List (a6.T e)} (b:eZ i (e+1) (a6.node d)): ∀a∈d,eZ i e a/\a6.WF e a:=by obtain⟨z,C,p,D⟩:=b.wf;have c:=b.ok;have h:=b.dB;rw[a6.ga]at c h;intro a k;have o:=p a k;obtain⟨E,F,r⟩:=a7x k;rw[r,a5E,a5v]at c h;exact⟨⟨a6.jP.of o,λx y=>c x (by simp[y]),by grind⟩,o⟩
def eZ.ne {a:a6.T e} (b:eZ i e a):a6.bg e a≠ []:=a6.xD b.wf.1 b.wf.2.2.1
structure y4 (d n:Nat) (x:c3):Prop where
 y5:x.In d
 kH:jh d n (eU x)
 oy:fI d x=some (eU x)
variable{A j2:ay}
def jh.ne (a:jh e i A):A≠az:=by rintro rfl;have:=a.size;have:=a.pos;simp[az]at*;omega
theorem jh.ok {b c:Nat}{d:ay} (a:jh b c d) (h:c<=1048576):fA b d=true:=by have k:=a.size;have o:=a.live;have p:=a.pos;unfold fA;rw[decide_eq_false a.ne,a9k,a4X];refine⟨a9y,?_⟩;rw[if_neg a9w];exact a.aO.ok
def jh.kH (a:jh e i A) (c:i<=1048576):A.In e:=by have d:=a.size;have h:=a.live;have k:=a.pos;have b:=lp.1 a.aO.ok;have o:A.aU.length=e:=b.2.2.1;have p:A.aV.length=e:=b.2.2.2.1;have r:=a.key.len;exact⟨a.sum,a.aO.aU,a.aO.aV,a.key.jU,a9w,a9w,a9w,a9w,a9w,a9w,a9w⟩
theorem uD (o:1<=e) (p:e<=8) (c:1<=Q.length) (r:Q.length<=4) (b: ∀a∈Q,bL e a):y4 e Q.length (dV Q):=by
 have x:dU e (dV Q)=true:=by unfold dU dV;simp only[a9t,a5f,List.all_nil,a9j,a5d,decide_true,a4X,a5l,decide_eq_true_eq,Function.comp];refine⟨λa d=>(b a d).len,?_⟩;simp[c,r]
 have h:=Es o p Q 0 ⟨0,(dV Q).rows.length,([],[])⟩ b ⟨rfl,.inl ⟨rfl,rfl⟩⟩;have y:eD (dV Q)=(Q.map λa=>(a,true)).foldl dM ⟨0,(dV Q).rows.length,([],[])⟩:=rfl;rw[<-y,a5t]at h;have z:(eD (dV Q)).size=Q.length:=by rw[xO];simp[dV]
 have C:hh e (eD (dV Q)).aO:=by
  rcases h.aO with ⟨k,_⟩|⟨_,k⟩
  .omega
  .exact k
 refine⟨⟨x,λa d=> ?_,λF G=>by trivial⟩,⟨oe _,h.live,z,c,C,?_⟩,?_⟩
 .obtain⟨D,E,rfl⟩:=a5o.1 d;exact(b D E).jU
 .show bL e (keyOf (dV Q))
  match Q,c with
  |a::Q,_=>exact b a a9x
 .unfold fI;grind
def Zx:(eU (dV Q)).key=Q.headD []:=by show keyOf (dV Q)= _;cases Q<;>rfl
theorem Zy {a:List (ay×Nat)} (o:2<=a.length) (z:a.length<=4) (c: ∀b∈a,jh e b.2 b.1) (p:(a.map Prod.snd).sum=i) (L:i<=1048576):y4 e i (ej (a.map Prod.fst)):=by
 have r: ∀b∈a,b.2<=i:=λb c=>by
  rw[<-p];obtain⟨P,S,rfl⟩:=a7x c;simp;omega
 have C:dU e (ej (a.map Prod.fst))=true:=by unfold dU ej;simp only[a9t,a5f,List.all_nil,a6s,a5d,decide_true,a4X,a5l,Function.comp];refine⟨λb d=>(c b d).ok (by have:=r b d;omega),?_⟩;simp[o,z];exact λT V d=>⟨(c _ d).key.len,(c _ d).ne⟩
 have x:=Et a 0 ⟨0,0,([],[])⟩ c ⟨rfl,.inl ⟨rfl,rfl⟩⟩;have D:eD (ej (a.map Prod.fst))=(a.map Prod.fst).foldl ep ⟨0,0,([],[])⟩:=rfl;rw[<-D,a5t,p]at x;have E:1<=i:=by
  match a,o with
  |b::a,_=>have:=(c b a9x).pos;have:=r b a9x;omega
 have F:(eD (ej (a.map Prod.fst))).size=i:=by
  rw[xO,<-p];have: ∀(a:List (ay×Nat)),(∀b∈a,jh e b.2 b.1)->(((a.map Prod.fst).map (·.size)).sum:Int)=(((a.map Prod.snd).sum:Nat):Int):=by
   intro a
   induction a with
   |nil=>intro _;rfl
   |cons b a ih=>intro d;simp only[a5r,a8b];rw[ih λh k=>d h (by simp[k]),(d b a9x).size];push_cast;rfl
  simp only[ej,a5d];rw[this a c];simp
 have G:hh e (eD (ej (a.map Prod.fst))).aO:=by
  rcases x.aO with ⟨y,_⟩|⟨_,y⟩
  .omega
  .exact y
 refine⟨⟨C,λW f=>by trivial,λb d=> ?_⟩,⟨oe _,x.live,F,E,G,?_⟩,?_⟩
 .obtain⟨h,k,rfl⟩:=a5o.1 d;exact(c h k).kH (by have:=r h k;omega)
 .show bL e (keyOf (ej (a.map Prod.fst)))
  match a,o with
  |b::a,_=>exact(c b a9x).key
 .unfold fI;grind
def ns {r:Nat} (y:1<=r) (z:r<=8): ∀(a:Nat) (c:a6.T a),eZ r a c->y4 r (a6.bg a c).length (dy a c)/\(c4 a c).key=a6.cM a c
 |0,c,d=>by
  obtain⟨E,rfl⟩:=a6.hV c;obtain⟨x,k,_⟩:=d.wf;rw[a6.hX]at x k;have C:=d.ok;rw[a6.kA]at C;exact⟨uD y z x k C,Zx⟩
 |a+1,c,d=>by
  obtain⟨h,rfl⟩:=a6.gr c;obtain⟨x,k,S,o⟩:=d.wf;rw[a6.dE]at x k o;have o:=o a9w;have D:=d.hf;have F:=d.dB;have ih:=λb p=>ns y z a b (D b p).1;have G:(h.map λb=>(c4 a b,(a6.bg a b).length)).map Prod.fst=h.map (c4 a):=by rw[a6W];rfl
  have L:((h.map λb=>(c4 a b,(a6.bg a b).length)).map Prod.snd).sum=(a6.bg (a+1) (a6.node h)).length:=by rw[a6W,a6.ga,List.length_flatMap];rfl
  have:=Zy (by simpa using o) (by simpa using k) (λT P=>by
   obtain⟨b,p,rfl⟩:=a5o.1 P;simp only[sL];exact(ih b p).1.kH) L F
  rw[G]at this;refine⟨this,?_⟩
  match h,o with
  |b::h,_=>
   show(c4 a b).key= _;have p:=ih b a9x;rw[p.2];unfold a6.cM;rw[a6.ga,a5v];have:=(D b a9x).1.ne;cases V:a6.bg a b with
   |nil=>trivial
   |cons W E=>rfl
def uE (b:1<=i) (c:i<=8) {a:a6.T e} (d:eZ i e a):jh i (a6.bg e a).length (c4 e a):=by rw[sL];exact(ns b c e a d).1.kH
def Zz (b:1<=i) (c:i<=8) {a:a6.T e} (d:eZ i e a):(c4 e a).key=a6.cM e a:=(ns b c e a d).2
theorem eZ.high {r:Nat}: ∀(a:Nat) (b:a6.T a),eZ r a b->a+1<=(a6.bg a b).length
 |0,b,c=>by
  have:=c.ne;grind
 |a+1,b,c=>by
  obtain⟨h,rfl⟩:=a6.gr b;obtain⟨x,y,z,d⟩:=c.wf;rw[a6.dE]at x y d;have d:=d a9w;have k:=c.hf
  match h,d with
  |o::p::h,_=>have C:=eZ.high a o (k o a9x).1;have D:=eZ.high a p (k p a9x).1;rw[a6.ga,a5v,a5v];simp only[a4V];omega
structure ah.le (a c:ah):Prop where
 m: ∀d b,a.m d=some b->c.m d=some b
 one:a.one=true->c.one=true
variable{H:ah}
theorem ah.le_refl:H.le H:=⟨λ_ _ a=>a,λa=>a⟩
theorem ah.le.trans {b c:ah} (d:H.le b) (h:b.le c):H.le c:=⟨λ_ _ a=>h.m _ _ (d.m _ _ a),λa=>h.one (d.one a)⟩
def ah.le.zero {a:ah} (c:H.le a) (b:a.one=false):H.one=false:=by
 cases d:H.one with
 |false=>rfl
 |true=>rw[c.one d]at b;cases b
theorem lq (b:ah) (c:List UInt8):b.le (eN b c):=by
 unfold eN;split
 .rename_i a;refine⟨λd h k=> ?_,λa=>a⟩;grind
 .split
  .exact⟨λ_ _ a=>a,λ_=>rfl⟩
  .exact ah.le_refl
variable{w:List UInt8}
theorem qU (a:(eN H w).one=false):(eN H w).m (eT w)=some w:=by unfold eN at a|-;grind
variable{b9:c3}
theorem qV (b:fI e b9=some (eU b9)) (a:ah):dx a e b9=(.ok (eU b9),eN a (cW b9)):=by unfold dx;rw[b]
def gx (c:ah):(b:Nat)->a6.T b->Prop
 |0,a=>c.m (c4 0 a).sum=some (cW (dy 0 a))
 |b+1,a=>c.m (c4 (b+1) a).sum=some (cW (dy (b+1) a))/\ ∀d∈a6.kids a,gx c b d
def gx.mono {c d:ah} (b:c.le d): ∀ {a:Nat}{h:a6.T a},gx c a h->gx d a h
 |0,_,a=>b.m _ _ a
 | _+1,_,a=>⟨b.m _ _ a.1,λk o=>gx.mono b (a.2 k o)⟩
def gx.ZA: ∀ {a:Nat}{b:a6.T a},gx H a b->H.m (c4 a b).sum=some (cW (dy a b))
 |0,_,a=>a
 | _+1,_,a=>a.1
def Eu {a:a6.T e}:(dy e a).kind=if e=0 then 2 else 3:=by cases e<;>rfl
def ZB (c:1<=i) (d:i<=8) {a:a6.T e} (h:eZ i e a) (k:gx H e a):fm H i (c4 e a)=some (dy e a):=by have b:=(ns c d e a h).1;unfold fm;rw[k.ZA];simp only;rw[D4 a9w b.y5];simp only;rw[b.oy,sL,if_pos rfl]
theorem qW (b:1<=i) (c:i<=8) {a:a6.T e} (d:eZ i e a) (h:gx H e a):iF H i (c4 e a)=some (dy e a):=by simp_all [iF,ZB,Eu]
theorem y6 {r:Type}{b:List r->c3}{x:Nat}: ∀(gs:List (List r)) (c:ah) (h:List ay),(∀a∈gs,fI x (b a)=some (eU (b a)))->
  ∃d,et b x c gs h=(.ok (h++gs.map λa=>eU (b a)),d)/\c.le d/\(d.one=false-> ∀a∈gs,d.m (eT (cW (b a)))=some (cW (b a)))
 | [],c,h,_=>⟨c,by simp[et],ah.le_refl,λ_ a z=>by cases z⟩
 |a::gs,c,h,C=>by
  obtain⟨d,E,o,D⟩:=y6 gs (eN c (cW (b a))) (h++ [eU (b a)]) (λp k=>C p (by simp[k]));refine⟨d,?_,(lq _ _).trans o,λy p k=> ?_⟩;grind[et,qV]
  .rcases a5q.1 k with rfl|k
   .exact o.m _ _ (qU (o.zero y))
   .exact D y p k
structure Laid (a:ah) (h:Nat) (sj:List (a6.T h)) (r:Except Int (List ay)×ah):Prop where
 ok:r.1= .ok (sj.map (c4 h))
 le:a.le r.2
 ins:r.2.one=false-> ∀c∈sj,gx r.2 h c
def Ev {a:a6.T e} (b:a6.WF e a) (c: ∀d∈a6.bg e a,bL i d) (h:(a6.bg e a).length<=1048576):eZ i e a:=⟨a6.jP.of b,c,h⟩
theorem Ew (o:1<=e) (p:e<=8) (h:ah) (a:List (List Int)) (r:1<=a.length) (L:a.length<=5) (x: ∀c∈a,bL e c):Laid h 0 ((a6.chunks a).map a6.leaf) (ou h e a):=by
 have k: ∀b∈a6.chunks a,1<=b.length/\b.length<=4/\ ∀c∈b,c∈a:=by
  by_cases y:a.length=5
  .rw[a6.sE y];grind
  .rw[a6.pw r a9w];grind
 obtain⟨P,z,C,D⟩:=y6 (a6.chunks a) h [] (λb d=>(uD o p (k b d).1 (k b d).2.1 (λc E=>x c ((k b d).2.2 c E))).oy);unfold ou;rw[z];refine⟨?_,C,λF S G=> ?_⟩
 .rw[a5m,a6W];rfl
 .obtain⟨b,d,rfl⟩:=a5o.1 G;exact D F b d
theorem y7 (C:1<=i) (D:i<=8) (p:ah) (a:List (a6.T e)) (f:2<=a.length) (g:a.length<=5) (E: ∀d∈a,a6.WF e d) (j: ∀F∈a.flatMap (a6.bg e),bL i F) (l:(a.flatMap (a6.bg e)).length<=1048576)
  (G: ∀o,p.le o->o.one=false-> ∀d∈a,gx o e d):Laid p (e+1) ((a6.chunks a).map a6.node) (jQ p i (a.map (c4 e))):=by
 have r: ∀b∈a6.chunks a,2<=b.length/\b.length<=4/\(∀d∈b,d∈a)/\(b.flatMap (a6.bg e)).length<=(a.flatMap (a6.bg e)).length:=by
  by_cases x:a.length=5
  .rw[a6.sE x];simp only[a5q,a6u,or_false,forall_eq_or_imp,forall_eq,a4W,a5k];have L:a.flatMap (a6.bg e)=(a.take 3).flatMap (a6.bg e)++(a.drop 3).flatMap (a6.bg e):=by rw[<-a5E,a5A]
   grind
  .rw[a6.pw a9w a9w];grind
 have P: ∀b∈a6.chunks a,eZ i (e+1) (a6.node b):=λb h=>by
  obtain⟨m,n,d,L⟩:=r b h;refine Ev (a6.gZ.2 ⟨by rw[a6.dE];omega,by rw[a6.dE];omega,λc k=>E c (d c k)⟩) (λc k=> ?_) (by rw[a6.ga];omega);grind[a6.ga]
 have S:a6.chunks (a.map (c4 e))=(a6.chunks a).map (List.map (c4 e)):=by by_cases x:a.length=5;simp_all [a6.sE];grind[a6.pw,c4]
 obtain⟨o,T,y,V⟩:=y6 (b:=ej) ((a6.chunks a).map (List.map (c4 e))) p [] (λb h=>by
  obtain⟨c,k,rfl⟩:=a5o.1 h;exact(ns C D (e+1) (a6.node c) (P c k)).1.oy)
 unfold jQ;rw[S,T];refine⟨?_,y,λz d W=> ?_⟩
 .rw[a5m,a6W,a6W];rfl
 .obtain⟨b,h,rfl⟩:=a5o.1 W;exact⟨V z _ (a5o.2 ⟨b,h,rfl⟩),λc k=>G o y z c ((r b h).2.2.1 c k)⟩
theorem Ex:mg q b6<0↔bC q b6=true:=by grind[mg]
theorem y8 (b:1<=e) (c:e<=8) (d:bL e q) (h:bL e b6):mg q b6=0↔q=b6:=by
 unfold mg;constructor
 .intro a;split at a
  .omega
  .rename_i k;split at a
   .omega
   .rename_i o;exact(gw b c).total q b6 d h (by simpa using k) (by simpa using o)
 .rintro rfl;rw[sK];simp
theorem y9 {y:Nat} (z:1<=y) (C:y<=8) {c:List (List Int)}{k:List Int} (E:a6.jf bC c) (r: ∀d∈c,bL y d) (D:bL y k): ∀(p h b:Nat),h<=b->b<=c.length->b - h<=p->
  (∀a d,c[a]? =some d->a<h->bC d k=true)->(∀a d,c[a]? =some d->b<=a->bC d k=false)->
  (∀a d,c[a]? =some d->a<mi c k p h b->bC d k=true)/\(∀a d,c[a]? =some d->mi c k p h b<=a->bC d k=false)/\mi c k p h b<=c.length
 |0,h,b,T,G,V,h1,L=>by
  obtain rfl:h=b:=a9w;trivial
 |p+1,h,b,T,G,V,h1,L=>by
  rw[mi];by_cases W:h<b
  .rw[if_pos W];have hm:(h+b)/2<c.length:=a9w;have e:=a4T hm;rw[e];simp only;have P:=a6v.1 E;have S:=r _ (a5w hm);by_cases o:mg c[(h+b)/2] k<0
   .rw[if_pos o];have o:=Ex.1 o;refine y9 z C E r D p _ _ a9w G a9w (λa d F f=> ?_) L;by_cases he:a=(h+b)/2;simp_all
    .obtain⟨x,rfl⟩:=a5b.1 F;exact(gw z C).trans _ _ _ (r _ (a5w x)) S D (P a _ x hm a9w) o
   .rw[if_neg o];have o:bC c[(h+b)/2] k=false:=by simp_all [absurd,Ex]
    refine y9 z C E r D p _ _ a9w a9w a9w h1 (λa d F f=> ?_);by_cases he:a=(h+b)/2;simp_all
    .obtain⟨x,rfl⟩:=a5b.1 F;cases g:bC c[a] k with
     |false=>rfl
     |true=>have:=(gw z C).trans _ _ _ S (r _ (a5w x)) D (P _ a hm x a9w) g;rw[this]at o;cases o
  grind
theorem Ey (c:1<=e) (d:e<=8) (h:a6.jf bC Q) (k: ∀a∈Q,bL e a) (o:bL e q):
  (∀b a,Q[b]? =some a->b<eY Q q->bC a q=true)/\(∀b a,Q[b]? =some a->eY Q q<=b->bC a q=false)/\eY Q q<=Q.length:=
 y9 c d h k o Q.length 0 Q.length a9w (a5z _) a9w (λb a _ p=>by omega) (λb a r p=>by
  simp_all)
theorem ZC (h:1<=e) (k:e<=8) (o:a6.jf bC Q) (p: ∀b∈Q,bL e b) (r:bL e q):Q.take (eY Q q)++q::Q.drop (eY Q q)=a6.dN bC Q q:=by
 obtain⟨D,x,E⟩:=Ey h k o p r;generalize eY Q q=a at*;have y: ∀b∈Q.take a,bC b q=true:=λb z=>by
  obtain⟨F,G,rfl⟩:=a5G z;grind
 conv=>rhs;rw[<-a5A a Q]
 rw[a6.xE y];congr 1;unfold a6.dN;cases C:Q.drop a with
 |nil=>rfl
 |cons c d=>
  have:Q[a]? =some c:=by have:=congrArg (λd=>d[0]?) C;simpa using this
  have:=x a c this (a5z _);simp[this]
theorem ya (d:1<=e) (h:e<=8) (k:a6.jf bC Q) (r: ∀x∈Q,bL e x) (c:bL e q):kC Q q=decide (q∈Q):=by
 obtain⟨F,y,G⟩:=Ey d h k r c;unfold kC;by_cases o:q∈Q
 .obtain⟨a,hm,z⟩:=a5G o;have C:Q[a]? =some q:=by simp_all
  have D:=a6v.1 k;have E:a=eY Q q:=by
   rcases a8A a (eY Q q)with b|b|b;grind[sK]
   .exact b
   .have p:=D (eY Q q) a a9w hm b;rw[z]at p;have:=y (eY Q q) _ (a4T a9w) (a5z _);rw[p]at this;cases this
  rw[<-E,C,decide_eq_true o];simp only;rw[decide_eq_true];exact(y8 d h c c).2 rfl
 grind[decide_eq_false,eY,List.mem_of_getElem?,y8]
theorem ZD (d:1<=e) (h:e<=8) (p:a6.jf bC Q) (k: ∀b∈Q,bL e b) (o:bL e q) (r:q∈Q):Q.take (eY Q q)++Q.drop (eY Q q+1)=Q.filter λb=>decide (b≠q):=by
 have a:=ya d h p k o;rw[decide_eq_true r]at a;unfold kC at a;generalize eY Q q=x at*;cases c:Q[x]? with
 |none=>rw[c]at a;cases a
 |some b=>rw[c]at a;simp only[decide_eq_true_eq]at a;obtain rfl:=(y8 d h (k b (a5a c)) o).1 a;have y:=a6.qS c;grind[List.pairwise_cons,List.filter_cons_of_neg,a6.filter_none,sK]
def jW:H.le (dx H e b9).2:=by
 unfold dx;split
 .exact ah.le_refl
 .exact lq _ _
def yb {h:Type}{c:List h->c3}{d:Nat}: ∀(gs:List (List h)) (a:ah) (b:List ay),a.le (et c d a gs b).2
 | [],a,b=>ah.le_refl
 |k::gs,a,b=>by
  have o:=jW (H:=a) (e:=d) (b9:=c k);rw[et];generalize dx a d (c k)=p at*;obtain⟨r,x⟩:=p;cases r with
  |error z=>exact o
  |ok y=>exact o.trans (yb gs x (b++ [y]))
def Ez:H.le (ou H e Q).2:=yb _ _ _
def yc {a:List ay}:H.le (jQ H e a).2:=yb _ _ _
def EA {c:Nat}{b:List Int}: ∀(d:Nat) (a:ah) (h:ay),a.le (gu c b d a h).2
 |0,a,h=>ah.le_refl
 |d+1,a,h=>by
  rw[gu];cases iF a c h with
  |none=>exact ah.le_refl
  |some k=>
   simp only;by_cases o:k.kind=2
   .rw[if_pos o];by_cases p:kC (k.rows.map Prod.fst) b=true
    .rw[if_pos p];exact ah.le_refl
    .rw[if_neg p];exact Ez
   .rw[if_neg o];cases k.kids[hz b k]? with
    |none=>exact ah.le_refl
    |some r=>
     have x:=EA (c:=c) (b:=b) d a r;simp only;generalize gu c b d a r=y at*;obtain⟨z,C⟩:=y;cases z with
     |error D=>exact x
     |ok E=>exact x.trans yc
def EB {d:Nat}: ∀(h:Nat) (a:ah) (b:List ay),a.le (iG d h a b).2
 |0,a,b=>ah.le_refl
 |h+1,a,b=>by
  rw[iG];by_cases c:1<b.length
  .rw[if_pos c];have c:=yc (H:=a) (e:=d) (a:=b);generalize jQ a d b=k at*;obtain⟨o,p⟩:=k;cases o with
   |error x=>exact c
   |ok r=>exact c.trans (EB h p r)
  .rw[if_neg c];exact ah.le_refl
def EC:H.le (jg e q H A).2:=by
 unfold jg;split
 .exact jW
 .have a:=EA (c:=e) (b:=q) (A.size.toNat+1) H A;generalize gu e q (A.size.toNat+1) H A=b at*;obtain⟨c,d⟩:=b;cases c with
  |error h=>exact a
  |ok k=>exact a.trans (EB _ _ _)
variable{I:Bool}
theorem ED {a:List ay}:H.le (mh H e I Q a).2:=by unfold mh;split<;>exact jW
theorem join_le {a b:hY}:H.le (kD H e a b).2:=by
 unfold kD;split
 .exact Ez
 .exact yc
theorem ZE {c:List ay}{a:hY}:H.le (jT H e c i a).2:=by
 unfold jT;by_cases b:2<=a.rows.length+a.kids.length
 .rw[if_pos b];grind[ED,mh]
 .rw[if_neg b];grind[ah.le_refl,iF,join_le,hd,kD]
def EE {d:Nat}{b:List Int}: ∀(k:Nat) (c:ah) (o:ay),c.le (hZ d b k c o).2
 |0,c,o=>ah.le_refl
 |k+1,c,o=>by
  rw[hZ];cases iF c d o with
  |none=>exact ah.le_refl
  |some a=>
   simp only;by_cases h:a.kind=2
   .rw[if_pos h];by_cases y:kC (a.rows.map Prod.fst) b=true
    .rw[if_pos y];exact ah.le_refl
    .rw[if_neg y];exact ah.le_refl
   .rw[if_neg h];cases a.kids[hz b a]? with
    |none=>exact ah.le_refl
    |some z=>
     have p:=EE (d:=d) (b:=b) k c z;simp only;generalize hZ d b k c z=r at*;obtain⟨x,C⟩:=r;cases x with
     |error E=>exact p
     |ok D=>
      have h:=ZE (H:=C) (e:=d) (c:=a.kids) (i:=hz b a) (a:=D);simp only;generalize jT C d a.kids (hz b a) D=r at*;obtain⟨x,F⟩:=r;cases x with
      |error E=>exact p.trans h
      |ok G=>exact p.trans h
theorem EF:H.le (lo e q H A).2:=by
 unfold lo;split
 .exact ah.le_refl
 .have a:=EE (d:=e) (b:=q) (A.size.toNat+1) H A;generalize hZ e q (A.size.toNat+1) H A=b at*;obtain⟨c,d⟩:=b;cases c with
  |error h=>exact a
  |ok k=>
   simp only;split
   .exact a
   .split
    .exact a
    .exact a.trans ED
def ib (a b:Int):Int:=if a<b then -1 else if b<a then 1 else 0
def fO:List Int->List Int->Int
 | [],[]=>0
 | [],_:: _=> -1
 | _:: _,[]=>1
 |a::c,b::d=>if ib a b=0 then fO c d else ib a b
def EG (b:Int) (a:U):AC Tryz.prog 269 [.v (.int .i64 b)] a λc d=>d=a/\c= .v (.bool false):=by
 refine aM hm R2 ?_
 repeat' first|refine aG (λ_=> ?_) λ_=> ?_|trivial
def EH (b c:Int) (a:U):AC Tryz.prog 185 [.v (.int .i64 b),.v (.int .i64 c)] a λd h=>h=a/\d= .v (.int .i64 (ib b c)):=by
 refine aM hm OW ?_;refine bc (EG b a) ?_;refine bc (EG c a) ?_
 repeat' first|refine aG (λ_=> ?_) λ_=> ?_|trivial
 .rw[ib,if_pos ‹_›]
 .rw[ib,if_neg ‹_›,if_pos ‹_›]
 .rw[ib,if_neg ‹_›,if_neg ‹_›]
theorem drop_cons {a:List b0}{b:b0} (c:e<a.length):a.drop e=a.getD e b::a.drop (e+1):=by simp_all
theorem sM {a:List b0} (b:a.length<=e):a.drop e= []:=a5I b
theorem EI (b c:List Int) (h k:Own) (d:U) (y:b.length<=1000000000000):AC Tryz.prog 120 [.J (ad b) h,.J (ad c) k] d λo p=>p=d/\o= .v (.int .i64 (fO b c)):=by
 have z:=bG (q:=b);have C:=bG (q:=c);have D:= @dK b;have E:= @dK c;refine aM hm MT ?_;refine gJ [0,1,9,10] (λa:Nat=> [(11,.v (.int .i64 a))]) (λa=>a<=b.length/\a<=c.length/\fO b c=fO (b.drop a) (c.drop a)) (λa=>b.length - a) 0 ⟨a9w,a9w,rfl⟩ aR ?_;rintro a ⟨F,G,L⟩ P;refine aa ?_;refine aG (λr=> ?_) λr=> ?_
 .refine aG (λx=> ?_) λx=> ?_
  .rw[drop_cons (b:=0) a9w,sM (a:=c) a9w,fO]
  .have S:=drop_cons (a:=b) (b:=0) (e:=a) a9w;have T:=drop_cons (a:=c) (b:=0) (e:=a) a9w;refine bc (EH _ _ _) ?_;refine aG (λc2=> ?_) λc2=> ?_
   .rw[fO,if_neg c2]
   .rw[fO,if_pos a9w];grind
 .repeat' first|refine aG (λ_=> ?_) λ_=> ?_|trivial
  .rw[sM a9w,drop_cons (b:=0) a9w,fO]
  grind[sM,fO]
def cH (a:Nat) (b c:List Int):Int:=if ib (b.getD a 0) (c.getD a 0)=0 then fO b c else ib (b.getD a 0) (c.getD a 0)
def EJ (a b:List Int) (o p:Own) (c:Nat) (d:U) (h:Nat) (z:d.read h=some [.v (.int .i64 (c:Int))]) (C:c<a.length) (D:c<b.length) (r:a.length<=1000000000000):
  AC Tryz.prog 336 [.J (ad a) o,.J (ad b) p,.ptr h 0] d λx y=>y=d/\x= .v (.int .i64 (cH c a b)):=by
 have E:= @dK a;have F:= @dK b;refine aM hm Sq ?_;refine bc (EH _ _ _) ?_;refine aG (λk=> ?_) λk=> ?_
 .rw[cH,if_neg k]
 .refine bc (EI _ _ _ _ _ r) ?_;rw[cH,if_pos a9w]
def EK (o a b:Nat) (y:0<a) (z:b<=1000000000000) (C:a<=8) (d:U):
  AC Tryz.prog 299 [dW o a,.v (.int .i64 (b:Int))] d λp h=>d.sub h/\ ∃c,h c=some (.cells [.v (.int .i64 ((b%a:Nat):Int))])/\d c=none/\p= .bF 336 [] [.ptr c 0]:=by
 have D:(b:Int).tmod (a:Int)=((b%a:Nat)):=rfl;have E: ¬(a:Int)=0:=a9w;refine aM hm RJ ?_;refine bo λc r=> ?_;refine cV λx k F G=> ?_;refine⟨_,U.a1,?_,x,U.ag _ _ _,k,rfl⟩;exact U.ae (U.ae U.a1 r) k
def EL (c d:List Int) (h k:Own) (o a b:Nat) (p:0<a) (x:a<=8) (y:b<=1000000000000) (P:c.length=a) (S:d.length=a) (r:U):
  AC Tryz.prog 231 [dW o a,.J (ad c) h,.J (ad d) k,.v (.int .i64 (b:Int))] r λz C=>C=r/\z= .v (.int .i64 (if cH (b%a) c d<0 then 0 else 1)):=by
 have T:=a6X b p;refine aM hm Qa ?_;refine bo λV D=> ?_;refine ai (EK o a b p y x _) ?_;rintro _ E ⟨F,G,L,_,rfl⟩;refine aa ?_;refine fH a9C (EJ c d h k (b%a) E G (U.af L) a9w a9w a9w) ?_;rintro _ _ ⟨rfl,rfl⟩;refine aa ?_
 repeat' first|refine aG (λ_=> ?_) λ_=> ?_|trivial
 all_goals exact U.ar (U.ae U.a1 D) F
structure oz where
 prev:List UInt8
 num:Int
 ops:List UInt8
 EM:List UInt8
 deriving DecidableEq
def oz.ok (a:oz):Prop:=a.prev.length=32/\a.ops.length=32/\a.EM.length=32
def ZF (a:List UInt8) (b:Int) (c d:List UInt8):List R:=a.map ak++(.v (.int .i64 b)::(c.map ak++d.map ak))
def oz.C (a:oz):List R:=ZF a.prev a.num a.ops a.EM
def oz.V (a:oz):R:= .agg a.C
def oz.may (a:oz):Bool:=decide (0<=a.num)&&decide (a.num<=1099511627776)
theorem yd (a:List UInt8) (b:Nat) (c:b<a.length):(⟨a.toArray⟩:ByteArray).get! b=a[b]:=by simp[ByteArray.get!,c]
theorem EN (a:List UInt8) (b:Nat) (c:b<a.length) (d:a[b].toNat<128):Utf8.decode ⟨a.toArray⟩ b=(a[b].toNat,1):=by simp[Utf8.decode,yd a b c,d]
theorem decode_high (b:List UInt8) (a:Nat) (E:a<b.length) (F:128<=b[a].toNat):
  128<=(Utf8.decode ⟨b.toArray⟩ a).1/\(Utf8.decode ⟨b.toArray⟩ a).1<=1114111/\1<=(Utf8.decode ⟨b.toArray⟩ a).2/\a+(Utf8.decode ⟨b.toArray⟩ a).2<=b.length/\
   ∀c,(r:c<b.length)->a<=c->c<a+(Utf8.decode ⟨b.toArray⟩ a).2->128<=b[c].toNat:=by
 have f: ∀c,(r:c<b.length)->a<=c->c<a+1->128<=b[c].toNat:=λc r G x=>by
  grind
 have h: ∀k,(a+k<b.length/\((⟨b.toArray⟩:ByteArray).get! (a+k)).toNat/64=2)-> ∃E:a+k<b.length,128<=b[a+k].toNat:=λk g=>by
  grind[yd]
 have S:=o1 b;have T:((⟨b.toArray⟩:ByteArray).get! (a+0)).toNat=b[a].toNat:=by rw[a6T,yd b a E]
 have i:b[a].toNat<256:=b[a].toNat_lt;unfold Utf8.decode;simp only[T,S];rw[if_neg a9w];have v: ∀z:Nat,Utf8.valid (z)=true->z<=1114111:=λz d=>by
  simp only[Utf8.valid,a6E,a4X,decide_eq_true_eq]at d;omega
 split
 .rename_i d;simp only[a4X,decide_eq_true_eq,beq_iff_eq]at d;obtain⟨L,o⟩:=d;obtain⟨P,y⟩:=h 1 o;split;grind;trivial
 .split
  .rename_i d;simp only[a4X,decide_eq_true_eq,beq_iff_eq]at d;obtain⟨⟨L,o⟩,C⟩:=d;obtain⟨P,y⟩:=h 1 o;obtain⟨V,D⟩:=h 2 C;split
   .rename_i p;simp only[a4X,decide_eq_true_eq]at p;refine⟨by simp only;omega,v _ p.2,a9x,a9y,λc r G x=> ?_⟩;rcases(by simp only at x;omega:c=a\/c=a+1\/c=a+2)with rfl|rfl|rfl
    .exact F
    .exact y
    .exact D
   trivial
  .split
   .rename_i d;simp only[a4X,decide_eq_true_eq,beq_iff_eq]at d;obtain⟨⟨⟨L,o⟩,C⟩,W⟩:=d;obtain⟨P,y⟩:=h 1 o;obtain⟨V,D⟩:=h 2 C;obtain⟨j,e⟩:=h 3 W;split
    .rename_i p;simp only[a4X,decide_eq_true_eq]at p;refine⟨by simp only;omega,v _ p.2,a9x,a9y,λc r G x=> ?_⟩;rcases(by simp only at x;omega:c=a\/c=a+1\/c=a+2\/c=a+3)with rfl|rfl|rfl|rfl
     .exact F
     .exact y
     .exact D
     .exact e
    trivial
   trivial
def fP (b:Nat) (a:Int):Bool:=(decide (97<=a)&&decide (a<=122))||(!decide (b=0)&&((decide (48<=a)&&decide (a<=57))||decide (a=95)))
def lr (b:ByteArray):Nat->Nat->Bool
 |0,_=>true
 |c+1,a=>if a<b.size then fP a (Utf8.decode b a).1&&lr b c (a+(Utf8.decode b a).2)else true
def jX (a:List UInt8):Bool:=lr ⟨a.toArray⟩ (a.length+1) 0&&decide (1<=a.length/\a.length<=16)
theorem ZG (a:List UInt8) (b:Nat) (c:b<a.length):1<=(Utf8.decode ⟨a.toArray⟩ b).2/\b+(Utf8.decode ⟨a.toArray⟩ b).2<=a.length/\(Utf8.decode ⟨a.toArray⟩ b).1<=1114111:=by grind[EN,decode_high]
def sN:s6 (bb w)=some (.v (.int .i64 w.length)):=wN
theorem EO (a:List UInt8) (l:a.length<=1000000) (k:U):
  AC Tryz.prog 77 [bb a] k λe o=>o=k/\e= .v (.bool (jX a)):=by
 refine bd hm LC a9x ?_;have f: ∀(L) (V),wT (bb a) k (bO L V)=iY k (bZ (λg=>L g ⟨a.toArray⟩) ()):=λL V=>Ca;refine aE @f ?_;refine aN λr y=> ?_;refine eA ?_;refine cr (λP o=> ∃x b:Nat,b<=a.length/\a.length<x+b/\lr ⟨a.toArray⟩ x b=lr ⟨a.toArray⟩ (a.length+1) 0/\k.sub o/\o r=some (.it ⟨a.toArray⟩ b)/\P 0=bb a/\P 7= .ptr r 0)
  (λ_ o=>match o r with|some (.it _ b)=>a.length - b| _=>0) ⟨a.length+1,0,a9w,a9w,rfl,U.ae U.a1 y,U.ag _ _ _,?_⟩ ?_
 .exact qx
 .rintro P o ⟨x,b,m,n,z,C,S,p,h⟩;refine aE @h ?_;by_cases D:b<a.length
  .obtain⟨x,rfl⟩: ∃i,x=i+1:=⟨x - 1,a9w⟩;obtain⟨q,s,t⟩:=ZG a b D;have j:=o1 a;rw[lr,if_pos (by rw[j];exact D)]at z;refine VT S D ?_;generalize (Utf8.decode ⟨a.toArray⟩ b).1=c at*;generalize (Utf8.decode ⟨a.toArray⟩ b).2=E at*;have F (d:fP b c=false):jX a=false:=by rw[d,a7k]at z;rw[jX,<-z];rfl
   have u (d:fP b c=true):(∃W G:Nat,G<=a.length/\a.length<W+G/\lr ⟨a.toArray⟩ W G=lr ⟨a.toArray⟩ (a.length+1) 0/\k.sub (o.set r (.it ⟨a.toArray⟩ (b+E)))/\(o.set r (.it ⟨a.toArray⟩ (b+E))) r=some (.it ⟨a.toArray⟩ G)):=by rw[d,a6s]at z;grind[U.ae,U.ag]
   have T:((b:Int)=0)=(b=0):=a9x;have v:(match o r with|some (.it _ b)=>a.length - b| _=>0)=a.length - b:=by rw[S]
   have w:(match(o.set r (.it ⟨a.toArray⟩ (b+E))) r with|some (.it _ b)=>a.length - b| _=>0)=a.length -(b+E):=by rw[U.ag]
   have A:a.length -(b+E)<a.length - b:=a9w;by_cases jY:(97)<=(c:Int)
   .by_cases a2:(c:Int)<=122
    .have d:fP b c=true:=by simp[fP,jY,a2]
     refine aE (aJ @p @h @jY @a2) ?_;simp_all
    .by_cases a0:(b:Int)=0
     .have d:fP b c=false:=by simp[fP,a2];omega
      refine aE (bm @p @h @jY @a2 @a0) ?_;exact⟨k,U.ae C y,rfl,by rw[F d]⟩
     .have d:fP b c=false:=by simp[fP,a2];omega
      have a3: ¬(c:Int)<48:=a9w;have a4:(57:Int)<c:=a9w;have a5: ¬(c:Int)=95:=a9w;refine aE (bt @p @h @jY @a2 @a0 @a3 @a4 @a5) ?_;exact⟨k,U.ae C y,rfl,by rw[F d]⟩
   .by_cases a0:(b:Int)=0
    .have d:fP b c=false:=by simp[fP,jY];omega
     refine aE (aJ @p @h @jY @a0) ?_;exact⟨k,U.ae C y,rfl,by rw[F d]⟩
    .have T: ¬b=0:=a9w;by_cases a3:(c:Int)<48
     .have d:fP b c=false:=by simp[fP,jY];omega
      have a5: ¬(c:Int)=95:=a9w;refine aE (bs @p @h @jY @a0 @a3 @a5) ?_;exact⟨k,U.ae C y,rfl,by rw[F d]⟩
     .by_cases a4:(57:Int)<c
      .by_cases a5:(c:Int)=95
       .have d:fP b c=true:=by simp[fP,a5,T]
        refine aE (c6 @p @h @jY @a0 @a3 @a4 @a5) ?_;simp_all
       .have d:fP b c=false:=by simp[fP,jY,a5];omega
        refine aE (c6 @p @h @jY @a0 @a3 @a4 @a5) ?_;exact⟨k,U.ae C y,rfl,by rw[F d]⟩
      .have d:fP b c=true:=by simp[fP,jY,T];omega
       refine aE (bs @p @h @jY @a0 @a3 @a4) ?_;simp_all
  .have B:jX a=decide (1<=a.length/\a.length<=16):=by
    have:lr ⟨a.toArray⟩ x b=true:=by
     cases x with
     |zero=>rfl
     |succ x=>rw[lr,if_neg (by rw[o1];exact D)]
    rw[jX,<-z,this,a6s]
   refine VU S D ?_;by_cases d1:(1:Int)<=a.length
   .by_cases d2:(a.length:Int)<=16
    .refine aE (bm @p @h @sN @d1 @d2) ?_;grind
    .refine aE (bm @p @h @sN @d1 @d2) ?_;grind
   .refine aE (aJ @p @h @sN @d1) ?_;grind
def bE (a:List (List UInt8)):List R:=a.map bb
def hi {a:List (List UInt8)}:(bE a).length=a.length:=by simp[bE]
def oA {a:List (List UInt8)}{b:Nat} (c:b<a.length):(bE a)[b]? =some (bb (a.getD b [])):=by simp[bE,c]
def ye:ey 1 (some (bb w))=some (.bV [bb w]):=rfl
theorem ZH (a:List (List UInt8)) (C:Own) (h:List UInt8) (T:a.length<=1000000) (d:U):
  AC Tryz.prog 224 [.J (bE a) C,bb h] d λF o=>o=d/\ ∃k:Int,F= .v (.int .i64 k)/\decide (0<=k)=decide (h∈a):=by
 refine bd hm Q0 a9x ?_;have G:=hi (a:=a);refine aE @G ?_;refine cr (λc o=> ∃b:Nat,b<=a.length/\o=d/\h∉a.take b/\c 0= .J (bE a) C/\c 1=bb h/\c 7= .v (.int .i64 a.length)/\c 8= .v (.int .i64 b))
  (λc _=>match c 8 with| .v (.int _ k)=>(a.length - k).toNat| _=>0) ⟨0,a9w,rfl,a9x,?_⟩ ?_
 .exact qx
 .rintro c d ⟨b,V,rfl,W,p,r,x,y⟩;by_cases z:(b:Int)<a.length
  .have L:b<a.length:=a9w;have D:=oA L;have P:a.getD b []∈a:=by simp_all
   have e:a.take (b+1)=a.take b++ [a.getD b []]:=by simp_all
   generalize a.getD b []=S at*;by_cases E:h=S
   .refine aE (cU @p @r @x @y @z @hJ @D @ye @E) ?_;refine⟨d,U.a1,rfl,b,rfl,?_⟩;simp[P]
   .refine aE (cU @p @r @x @y @z @hJ @D @ye @E) ?_;grind
  .obtain rfl:b=a.length:=a9w;refine aE (bm @p @r @x @y @z) ?_;refine⟨d,U.a1,rfl,-1,rfl,?_⟩;simp_all
def ZI (b:List (List UInt8)) (d:Own) (c:List UInt8) (h:b.length<=1000000) (a:U):
  AC Tryz.prog 146 [.J (bE b) d,bb c] a λk o=>o=a/\k= .v (.bool (decide (c∈b))):=by
 refine bd hm NI a9x ?_;refine eA ?_;refine ai (ZH b d c h a) ?_;rintro _ a ⟨rfl,r,rfl,p⟩;refine aE @p ?_
 all_goals exact⟨a,U.a1,rfl⟩
def ml (a:List (List UInt8)) (b:Nat):Bool:=jX (a.getD b [])&&(!decide (a.getD b []= [105,100])&& !decide (a.getD b []∈a.take b))
def nt (a:List (List UInt8)):Bool:=(List.range a.length).all (ml a)&&decide (1<=a.length/\a.length<=7)
theorem yf {a:List (List UInt8)} (b:e<a.length) (c:ml a e=false):nt a=false:=by grind[nt,Bool.and_eq_false_iff,List.all_eq_false]
theorem ZJ {a:List (List UInt8)} (c: ∀b,b<a.length->ml a b=true):nt a=decide (1<=a.length/\a.length<=7):=by
 have:(List.range a.length).all (ml a)=true:=by simp_all
 rw[nt,this,a6s]
theorem ZK (a:List (List UInt8)) (x:Own) (n:a.length<=1000000) (V: ∀W∈a,W.length<=1000000) (c:U):
  AC Tryz.prog 78 [.J (bE a) x] c λe E=>E=c/\e= .v (.bool (nt a)):=by
 refine bd hm LF a9x ?_;have y:=hi (a:=a);refine aE @y ?_;refine cr (λr E=> ∃b:Nat,b<=a.length/\E=c/\(∀z,z<b->ml a z=true)/\r 0= .J (bE a) x/\r 5= .J (bE a) x/\r 6= .v (.int .i64 a.length)/\r 7= .v (.int .i64 b))
  (λr _=>match r 7 with| .v (.int _ f)=>(a.length - f).toNat| _=>0) ⟨0,a9w,rfl,λz g=>by omega,?_⟩ ?_
 .exact qx
 .rintro r c ⟨b,q,rfl,i,h,k,o,p⟩;by_cases C:(b:Int)<a.length
  .have D:b<a.length:=a9w;have j:=oA D;have l:a.getD b []∈a:=by simp_all
   have P:ml a b=(jX (a.getD b [])&&(!decide (a.getD b []= [105,100])&& !decide (a.getD b []∈a.take b))):=rfl;generalize a.getD b []=d at*;refine aE (bt @h @k @o @p @C @hJ @j @ye) ?_;refine ai (EO d (V d l) c) ?_;rintro _ c ⟨rfl,rfl⟩;cases S:jX d
   .refine aE (aJ @h @k @o @p) ?_;exact⟨c,U.a1,rfl,by rw[yf D (by rw[P,S];rfl)]⟩
   .have s:(bE a).take b=bE (a.take b):=by simp[bE]
    by_cases F:d= [105,100]
    .have G:ja .eql (bb d) (.v (.string ⟨#[105,100]⟩))=some (.v (.bool true)):=by have:=qv (a:=d) (b:= [105,100]);rw[decide_eq_true F]at this;exact this
     refine aE (bm @h @k @o @p @G) ?_;exact⟨c,U.a1,rfl,by rw[yf D (by rw[P,S,decide_eq_true F];rfl)]⟩
    .have G:ja .eql (bb d) (.v (.string ⟨#[105,100]⟩))=some (.v (.bool false)):=by have:=qv (a:=d) (b:= [105,100]);rw[decide_eq_false F]at this;exact this
     have m:dI 1 (.J (bE a) x) none (some (.v (.int .i64 (b))))=some (.J (bE (a.take b)) .any):=by grind[o0,aS,bE,bb,R.cells,Int.toNat_natCast]
     refine aE (bs @h @k @o @p @G @m) ?_;refine ai (ZI (a.take b) _ d (by rw[a4W];omega) c) ?_;rintro _ c ⟨rfl,rfl⟩;by_cases T:d∈a.take b
     .refine aE (bm @h @k @o @p @T) ?_;exact⟨c,U.a1,rfl,by rw[yf D (by simp_all)]⟩
     .refine aE (bm @h @k @o @p @T) ?_;refine⟨⟨b+1,a9w,λz g=> ?_,a9x⟩,a9w⟩;grind
  .obtain rfl:b=a.length:=a9w;have L:=ZJ i;by_cases d1:(1:Int)<=a.length
   .by_cases d2:(a.length:Int)<=7
    .refine aE (bt @h @k @o @p @C @y @d1 @d2) ?_;exact⟨c,U.a1,rfl,by rw[L];simp;omega⟩
    .refine aE (bt @h @k @o @p @C @y @d1 @d2) ?_;exact⟨c,U.a1,rfl,by rw[L];simp;omega⟩
   .refine aE (c6 @h @k @o @p @C @y @d1) ?_;exact⟨c,U.a1,rfl,by rw[L];simp;omega⟩
structure cB where
 kind:UInt8
 table:List UInt8
 aD:List (List UInt8)
 row:List Int
structure cN where
 d:cB
 gv:Own
 dn:Own
def cN.C (a:cN):List R:= [ak a.d.kind,bb a.d.table,.J (bE a.d.aD) a.gv,.J (ad a.d.row) a.dn]
def cN.V (a:cN):R:= .agg a.C
def cN.ZL {a:cN}:a.C.length=4:=rfl
def cN.m1 {a:cN}:aX false 1 (a.C.drop 1)=bb a.d.table:=rfl
def cN.m2 {a:cN}:aX false 1 (a.C.drop 2)= .J (bE a.d.aD) a.gv:=rfl
def cN.m3 {a:cN}:aX false 1 (a.C.drop 3)= .J (ad a.d.row) a.dn:=rfl
def cB.ok (a:cB):Prop:=a.table.length<=16/\a.aD.length<=8/\(∀b∈a.aD,b.length<=16)/\a.row.length<=255
def eu (a:cB):Bool:=jX a.table&&
  (if a.kind.toNat=1 then nt a.aD&&decide (a.row.length=0)
   else if a.kind.toNat=2 then decide (a.aD.length=0)&&decide (a.row.length=0)
   else if a.kind.toNat=3\/a.kind.toNat=4 then decide (a.aD.length=0)&&(decide (2<=a.row.length)&&decide (a.row.length<=8))
   else false)
structure cB.Fit (d:cB):Prop where
 t:d.table.length<=1000000
 c:d.aD.length<=1000000
 cs: ∀c∈d.aD,c.length<=1000000
 r:d.row.length<=1000000
def EP (a:cN) (k:a.d.Fit) (b:U):
  AC Tryz.prog 46 [a.V] b λo p=>p=b/\o= .v (.bool (eu a.d)):=by
 obtain⟨⟨r,d,c,h⟩,x,y⟩:=a;obtain⟨z,C,D,G⟩:=k;have L:=hi (a:=c);have P:=bG (q:=h);show AC _ _ [.agg [ak r,bb d,.J (bE c) x,.J (ad h) y]] b _;refine aM hm KI ?_;refine bo λS T=> ?_;refine bc (EO d z _) ?_;refine aG (λE=> ?_) λE=> ?_
 .rw[eu];exact aO
 refine aG (λF=> ?_) λF=> ?_
 .refine bc (ZK c _ C D _) ?_
  repeat' first|refine aG (λ_=> ?_) λ_=> ?_|trivial
  all_goals (rw[eu];exact aO)
 repeat' first|refine aG (λ_=> ?_) λ_=> ?_|trivial
 all_goals (rw[eu];exact aO)
def ZM (a b c d:List Int) (k o p r:Own) (h:U) (C:a.length<=1000000000000) (D:b.length<=1000000000000):
  AC Tryz.prog 167 [er a b k o,er c d p r] h λx y=>y=h/\x= .v (.bool (decide (a=c)&&decide (b=d))):=by
 refine aM hm Oo ?_;refine bo λE F=> ?_;refine cV λG L P S=> ?_;refine bc (nq _ _ _ _ _ a9w) ?_;refine aG (λz=> ?_) λz=> ?_
 .refine bc (nq _ _ _ _ _ a9w) trivial
 trivial
def nu (b:Nat) (a:UInt8):Bool:=(decide (97<=a.toNat)&&decide (a.toNat<=122))||(!decide (b=0)&&((decide (48<=a.toNat)&&decide (a.toNat<=57))||decide (a.toNat=95)))
def nv (a:List UInt8):Bool:=(List.range a.length).all (λb=>nu b (a.getD b 0))&&(decide (0<a.length)&&decide (a.length<17))
def ER (a:List UInt8) (d:U) (y:a.length<=1000000):
  AC Tryz.prog 88 [bb a] d λp h=>h=d/\p= .v (.bool (nv a)):=by
 refine aM hm M0 ?_;refine ch [0] (λb:Nat=> [(3,.v (.int .i64 b))]) (λb h=>h=d/\b<=a.length/\ ∀c<b,nu c (a.getD c 0)=true) (λb=>a.length - b) 0 ?_ ?_
 .refine aa ?_;simp
 rintro b _ ⟨rfl,z,k⟩ C;refine aa ?_;refine aG (λr=> ?_) λr=> ?_
 .have x:nu b (a.getD b 0)=false->nv a=false:=λo=>by rw[nv,sd a9w o];rfl
  repeat' first|refine aG (λ_=> ?_) λ_=> ?_|trivial
  all_goals first
   |omega
   |(rw[x (by rw[nu];exact qz)])
   |exact⟨b+1,⟨a9w,upto k (by rw[nu];exact qz)⟩,rfl,a9w⟩
 have D:nv a=(decide (0<a.length)&&decide (a.length<17)):=by rw[nv,se λc o=>k c a9w];rfl
 repeat' first|refine aG (λ_=> ?_) λ_=> ?_|trivial
 all_goals exact aO
def lu (a:List (List UInt8)) (b:Nat):Bool:=nv (a.getD b [])&&(!decide (a.getD b []= [105,100])&&(List.range b).all λc=> !decide (a.getD c []=a.getD b []))
def yg (a:List (List UInt8)):Bool:=(List.range a.length).all (lu a)
def oB (a:cB):Bool:=nv a.table&&
  (if a.kind.toNat=1 then yg a.aD&&(decide (0<a.aD.length)&&(decide (a.aD.length<8)&&decide (a.row.length=0)))
   else if a.kind.toNat=2 then decide (a.aD.length+a.row.length=0)
   else(decide (a.kind.toNat=3)||decide (a.kind.toNat=4))&&(decide (a.aD.length=0)&&(decide (1<a.row.length)&&decide (a.row.length<9))))
theorem ZN (h:cN) (E:h.d.Fit) (k:U):
  AC Tryz.prog 51 [h.V] k λF G=>G=k/\F= .v (.bool (oB h.d)):=by
 obtain⟨⟨x,o,b,p⟩,L,P⟩:=h;obtain⟨y,S,z,T⟩:=E
 dsimp only at y S z T|-
 have l:=hi (a:=b);have m:=bG (q:=p);show AC _ _ [.agg [.v (.int .u8 x.toNat),bb o,.J (bE b) L,.J (ad p) P]] k _;refine aM hm KS ?_;refine bo λn q=> ?_;refine bc (ER o _ y) ?_;refine aG (λV=> ?_) λV=> ?_
 .rw[oB];exact aO
 refine aG (λW=> ?_) λW=> ?_
 .have s:yg b=(List.range b.length).all (lu b):=rfl;have t:= @oA b;have u: ∀r,ja .eql (bb r) (.v (.string ⟨#[105,100]⟩))=some (.v (.bool (decide (r= [105,100])))):=λr=>qv;have e: ∀a,a<b.length->(b.getD a []).length<=1000000:=λa f=>z _ (by simp_all);refine gJ [1] (λa:Nat=> [(3,.v (.int .i64 a))]) (λa=>a<=b.length/\ ∀d<a,lu b d=true) (λa=>b.length - a) 0 ⟨a9w,λd C=>by omega⟩ (aR) ?_;rintro a ⟨f,g⟩ i;refine aa ?_;refine aG (λc2=> ?_) λc2=> ?_
  .have D:lu b a=false->oB ⟨x,o,b,p⟩=false:=λC=>by grind[oB,sd]
   refine bc (ER _ _ (e a a9w)) ?_
   repeat' first|refine aG (λ_=> ?_) λ_=> ?_|trivial
   .exact aP (D (by rw[lu];simp_all)).symm
   .refine gJ [1,3] (λc:Nat=> [(4,.v (.int .i64 c))]) (λc=>c<=a/\ ∀d<c,b.getD d []≠b.getD a []) (λc=>a - c) 0 ⟨a9w,λd C=>by omega⟩ (aR) ?_;rintro c ⟨v,j⟩ i;refine aa ?_;refine aG (λaH=> ?_) λaH=> ?_
    .refine aG (λaJ=> ?_) λaJ=> ?_;grind[aP,lu,sd]
     .exact⟨c+1,⟨a9w,upto j aJ⟩,rfl,a9w⟩
    .refine⟨a+1,⟨a9w,upto g ?_⟩,rfl,a9w⟩;grind[lu,se]
   .exact aP (D (by rw[lu];simp_all)).symm
  repeat' first|refine aG (λ_=> ?_) λ_=> ?_|trivial
  all_goals grind[oB,se,aO]
 repeat' first|refine aG (λ_=> ?_) λ_=> ?_|trivial
 all_goals (rw[oB];exact aO)
theorem ZO (b a:Nat) (h:b<18446744073709551616) (k:0<a):bn .quo (.int .u64 b) (.int .u64 (a:Int))=some (.int .u64 ((b/a:Nat):Int)):=by have c:bn .quo (.int .u64 b) (.int .u64 (a))=(if(a:Int)=0 then none else some (.int .u64 (IntKind.u64.wrap ((b:Int).tdiv (a:Int))))):=rfl;have d:((b:Int).tdiv (a:Int))=((b/a:Nat)):=rfl;have o:=a7Q b a;rw[c,if_neg a9w,d];grind[wrap_u64]
def yh (b a:Nat) (d:0<a):bn .rem (.int .u64 b) (.int .u64 (a:Int))=some (.int .u64 ((b%a:Nat):Int)):=by have c:bn .rem (.int .u64 b) (.int .u64 (a))=(if(a:Int)=0 then none else some (.int .u64 ((b:Int).tmod (a:Int)))):=rfl;rw[c,if_neg a9w];rfl
variable{n b3:R}{s a7:R -> U -> Prop}{f t e4:U}
theorem qX {c:List UInt8}{k:cA s} (r:av t f 1 (c.map ak) n) (a:bN f 1 b3=some (e,w.map ak)) (x:c.length+w.length<=70368744177664)
  (y: ∀d h,av t h 1 ((c++w).map ak) d->s d h):jI 1 1 f n b3 (bO s k):=by
 have z:w.length=e:=by
  unfold bN at a;split at a
  .split at a
   .rename_i C _ D;simp only[a5e,a6e]at a;have b:=congrArg List.length a.2;rw[da (d:=1) (by simp_all)]at b;simp at b;omega
   .cases a
  .split at a
   .split at a
    .rename_i o _ p;simp only[a5e,a6e]at a;have b:=congrArg List.length a.2;simp at b;omega
    .cases a
   .cases a
  .split at a
   .split at a
    .rename_i o _ p;simp only[a5e,a6e]at a;have b:=congrArg List.length a.2;simp at b;omega
    .cases a
   .cases a
  .cases a
 grind[fj]
end Go.Proofs.YtlgnfcaolejgeaaGreat
namespace Go.bz
open Go
theorem ZP (a:Nat) (c:a<18446744073709551616):a^^^9223372036854775808=(a+9223372036854775808)%18446744073709551616:=by
 have h:(9223372036854775808)=2^63:=a9A;have d:(18446744073709551616)=2^64:=a9A;rw[d]at c;rw[h,d];apply a7r;intro b;rw[a8n,a9n,a8N,a8F];by_cases h1:b<63
 .rw[a8x h1];grind
 .by_cases k:b=63;grind
  .have o: ¬b<64:=a9w;have p:a.testBit b=false:=a6V (a6g c (a6H a9w a9w));grind
end Go.bz
namespace Go.Proofs.YtlgnfcaolejgeaaGreat
open Go Go.bz
theorem ZQ (a:Int):IntKind.u64.wrap (IntKind.u64.wrap a+9223372036854775808)=(ck a:Int):=by grind[kv,BitVec.ofInt,BitVec.toNat_ofInt,ck,BitVec.toNat_xor,ZP]
theorem ZR (b:Int) (k:U):
  AC Tryz.prog 193 [.v (.int .i64 b)] k λE h=>av k h 1 ((hR b).map ak) E:=by
 refine bd hm Pc a9x ?_;refine aE (aH @ZQ @aZ @ba) ?_;have F:ck b<18446744073709551616:=(BitVec.ofInt 64 b^^^BitVec.ofInt 64 9223372036854775808).isLt;have G:hR b=cx (ck b):=rfl;rw[G];generalize ck b=c at*;refine wQ (e:=8) a9w a9w λo p=> ?_;refine aE (c2 @aZ @ba) ?_;refine cr (λd h=> ∃a:Nat,a<=8/\h=k.set o (.cells (List.replicate (8 - a) (ak 0)++((cx c).drop (8 - a)).map ak))/\d 4= .an o 8 8 1/\d 3= .v (.int .u64 ((c/256^a:Nat)))/\d 5= .v (.int .i64 (7 -(a))))
  (λd _=>match d 5 with| .v (.int _ b)=>(b+8).toNat| _=>0) ⟨0,a9w,?_⟩ ?_
 .refine aE (c2 @aZ @ba) ?_
  try (simp;try rfl)
 .rintro d h ⟨a,T,rfl,r,x,y⟩;by_cases z:(0)<=7 -(a:Int)
  .have L:c/256^a<18446744073709551616:=Nat.lt_of_le_of_lt (a7Q _ _) F;have C:=ZO (c/256^a) 256 L a9w;have D:=yh (c/256^a) 256 a9w;have P:((256:Nat):Int)=256:=rfl;rw[P]at C D;have S:(List.replicate (8 - a) (ak 0)++((cx c).drop (8 - a)).map ak).length=8:=by
    have:(cx c).length=8:=rfl;simp[this]
    try omega
   refine aE (cf @x @r @y @z @C @D @hK @S @aZ @ba) ?_;refine⟨⟨a+1,a9w,?_,?_,by(congr 2;try omega)⟩,a9w⟩
   .congr 2;have yi:UInt8.ofNat (c/256^a%256)=UInt8.ofNat (c>>>(8*a)):=by grind[UInt8.toNat_inj,UInt8.toNat_ofNat',Nat.shiftRight_eq_div_pow,Nat.pow_mul]
    rw[yi];rcases(by omega:a=0\/a=1\/a=2\/a=3\/a=4\/a=5\/a=6\/a=7)with rfl|rfl|rfl|rfl|rfl|rfl|rfl|rfl<;>rfl
   .rw[Nat.div_div_eq_div_mul,<-a8H]
  .obtain rfl:a=8:=a9w;refine aE (bs @x @r @y @z @aZ @ba) ?_;refine⟨_,U.a1,U.ae U.a1 p,.inr ⟨o,8,8,_,rfl,p,U.ag _ _ _,rfl,rfl,rfl,a9w,a9A⟩⟩
def ZS (b:Bool) (d:U):
  AC Tryz.prog 257 [.v (.bool b)] d λh k=>av d k 1 ([if b then(1:UInt8)else 0].map ak) h:=by
 refine bd hm QY a9x ?_;cases b
 .refine aE (c2 @aZ @ba) ?_;refine eK (by simp[aS,R.cells]) a9x λc a=> ?_;refine aE (c2 @aZ @ba) ?_;exact⟨_,U.a1,U.ae U.a1 a,.inr ⟨c,1,1,_,rfl,a,U.ag _ _ _,rfl,rfl,rfl,a9w,a9A⟩⟩
 .refine aE (c2 @aZ @ba) ?_;refine eK (by simp[aS,R.cells]) a9x λc a=> ?_;refine aE (c2 @aZ @ba) ?_;exact⟨_,U.a1,U.ae U.a1 a,.inr ⟨c,1,1,_,rfl,a,U.ag _ _ _,rfl,rfl,rfl,a9w,a9A⟩⟩
structure yj where
 o:iz
 st:Int
 xm:Bool
 a:iz
 b:iz
def yj.ok (a:yj):Prop:=a.o.ok/\a.a.ok/\a.b.ok
section
variable {F:yj} (h:F.ok)
include h
end
def sO (b:Nat) (d:U) (r:b<=1000000000000):AC Tryz.prog 125 [.v (.int .i64 (b:Int))] d λk h=>eC d h (fl b) k:=by
 have x: ∀a:Nat,(a:Int).tdiv 65536=((a/65536:Nat)):=λ_=>rfl;have y: ∀a:Nat,(a:Int).tdiv 256=((a/256:Nat)):=λ_=>rfl;have z: ∀a:Nat,(a:Int).tmod 256=((a%256:Nat)):=λ_=>rfl;have C:=λa=>hK a;refine aM hm N3 ?_;have o:fl b= [UInt8.ofNat (b/65536%256),UInt8.ofNat (b/256%256),UInt8.ofNat (b%256)]:=by have a: ∀c,UInt8.ofNat (c%256)=UInt8.ofNat c:=λc=>a5P.1 a9x;simp only[fl,a5S,a]
 rw[o];refine pa [_,_,_] (λD h p _=> ?_);exact⟨_,U.a1,p⟩
def ES (a:List UInt8) (c:R) (d:U) (r:a.length<=100000000) (x:ez c=some (.v (.int .i64 a.length))) (o: ∀b,d.sub b->kx b c a):
  AC Tryz.prog 66 [c] d λh b=>eC d b (fx a) h:=by
 refine aM hm Li ?_;refine eo (sO _ _ a9w) λh y k=> ?_;have:=iB a.length;refine tY k (o _ k.sub) λz C p _=> ?_;exact⟨_,U.a1,p⟩
theorem pC (a:List Int) (p:Own) (k:U) (D:a.length<=1000000):AC Tryz.prog 126 [.J (ad a) p] k λd o=>eC k o (dr a) d:=by
 have E:=λr=>hK r;have F:=bG (q:=a);refine aM hm N5 ?_;refine pa [UInt8.ofNat a.length] (λd G L _=> ?_);refine ch [0] (λb:Nat×R=> [(4,.v (.int .i64 b.1)),(3,b.2)]) (λb o=>b.1<=a.length/\eC k o (UInt8.ofNat a.length::(a.take b.1).flatMap hR) b.2) (λb=>a.length - b.1) (0,d) ⟨⟨a9w,by trivial⟩,aR⟩ ?_;rintro⟨c,d⟩ P ⟨x,h⟩ S
 dsimp only at x h|-
 have T:= @dK a;refine aa ?_;refine aG (λy=> ?_) λy=> ?_
 .refine eo (ZR _ _) λV W z=> ?_;have e:=nd (a.take c);have f:(a.take c).length=c:=a9y;have g: ∀C,(hR C).length=8:=λ_=>rfl;refine gK h z λa4 i j _=> ?_;refine⟨(c+1,a4),⟨by simp only;omega,?_⟩,⟨rfl,rfl⟩,by simp only;omega⟩;grind[eS]
 .obtain rfl:c=a.length:=a9w;rw[a5n]at h;exact⟨_,U.a1,h⟩
def ET (a b:ay) (c d h k o p:Own) (r:U) (x:a.sum.length=32) (y:b.sum.length=32) (z:a.cz):
  AC Tryz.prog 101 [.agg (ab a c d h),.agg (ab b k o p)] r λC D=>D=r/\C= .v (.bool (decide (a=b))):=by
 have L:=(aW (M:=c) (e6:=d) (h4:=h) x).all;have P:=(aW (M:=k) (e6:=o) (h4:=p) y).all;rw[Da];generalize ab a c d h=S at*;generalize ab b k o p=T at*;obtain⟨E,F,G⟩:=z;have V:dm [(32,.int .u8)] (a.sum.map ak):=pr x;have W:dm [(32,.int .u8)] (b.sum.map ak):=pr y;have e:= @sw a.sum b.sum;refine aM hm Mk ?_;refine bo λf g=> ?_;refine cV λi j l m=> ?_
 repeat' first|refine aG (λ_=> ?_) λ_=> ?_|trivial
 all_goals first
  |exact aO
  |refine bc (ZM _ _ _ _ _ _ _ _ _ E F) ?_
   repeat' first|refine aG (λ_=> ?_) λ_=> ?_|trivial
   all_goals first
    |exact aO
    |refine bc (nq _ _ _ _ _ G) ?_
     trivial
structure aL where
 name:List UInt8
 aD:List (List UInt8)
 bM:ay
 cq:ay
 deriving DecidableEq
instance:Inhabited aL:=⟨⟨[],[],az,az⟩⟩
structure en (t:aL) (T:List R):Prop where
 e: ∃gv hx eV a nw nx b,T=bb t.name:: .J (bE t.aD) gv::(ab t.bM hx eV a++ab t.cq nw nx b)
 k:t.bM.sum.length=32/\t.bM.cz
 z:t.cq.sum.length=32/\t.cq.cz
 c:t.aD.length<=1000000
def dw (a:aL) (b:R):Prop:= ∃T,b= .agg T/\en a T
variable{g B e0:List R}{e7:aL}
theorem en.all (x:en e7 g):g.length=76/\g.take 76=g/\aX false 1 g=bb e7.name/\ ∃o a b c d h k,aX false 1 (g.drop 1)= .J (bE e7.aD) o/\(g.drop 2).take 37=ab e7.bM a b c/\(g.drop 39).take 37=ab e7.cq d h k:=by obtain⟨⟨o,a,b,c,d,h,k,rfl⟩,⟨y,_⟩,⟨z,_⟩,_⟩:=x;have p:=(aW (M:=a) (e6:=b) (h4:=c) y).len;have r:=(aW (M:=d) (e6:=h) (h4:=k) z).len;refine⟨by simp[p,r],a4U (by simp[p,r]),rfl,o,a,b,c,d,h,k,rfl,?_,?_⟩;simp_all;grind
theorem ZT (z C:aL) (D E:R) (F:U) (y:dw z D) (S:dw C E):
  AC Tryz.prog 57 [D,E] F λV W=>W=F/\V= .v (.bool (decide (z=C))):=by
 obtain⟨T,rfl,G⟩:=y;obtain⟨s,rfl,L⟩:=S;obtain⟨t,u,w,A,B,H,I,K,M,N,O,Q,X⟩:=G.all;obtain⟨Y,Z,j9,k0,k1,k2,k3,k4,k5,k6,k7,k8,k9⟩:=L.all;obtain⟨_,⟨e,f⟩,⟨g,i⟩,l0⟩:=G;obtain⟨_,⟨j,_⟩,⟨l,_⟩,_⟩:=L;obtain⟨d,ac,h,k⟩:=z;obtain⟨o,a,p,r⟩:=C
 dsimp only at*
 have l1:=hi (a:=ac);have l2:=hi (a:=a);have l3:= @oA ac;have l4:= @oA a;have P: ¬(d=o/\ac=a/\h=p/\k=r)->decide (aL.mk d ac h k=aL.mk o a p r)=false:=λc=>by simpa using c
 have m:d=o/\ac=a/\h=p/\k=r->decide (aL.mk d ac h k=aL.mk o a p r)=true:=λc=>by simpa using c
 generalize decide (aL.mk d ac h k=aL.mk o a p r)=l5 at*;have l6:=λn v=> @wX n v;refine aM hm L2 ?_;refine bo λl7 l8=> ?_;refine cV λl9 n0 n1 n2=> ?_
 repeat' first|refine aG (λ_=> ?_) λ_=> ?_|trivial
 .refine bc (ET _ _ _ _ _ _ _ _ _ e j f) ?_
  repeat' first|refine aG (λ_=> ?_) λ_=> ?_|trivial
  .refine bc (ET _ _ _ _ _ _ _ _ _ g l i) ?_
   repeat' first|refine aG (λ_=> ?_) λ_=> ?_|trivial
   .simp_all
   .refine gJ [2,3] (λb:Nat=> [(5,.v (.int .i64 b))]) (λb=>b<=ac.length/\ ∀x<b,ac.getD x []=a.getD x []) (λb=>ac.length - b) 0 ⟨a9w,λx c=>by omega⟩ aR ?_;rintro b ⟨n3,y⟩ n4;refine aa ?_;refine aG (λq=> ?_) λq=> ?_
    .repeat' first|refine aG (λ_=> ?_) λ_=> ?_|trivial
     .exact aP (P λc=>by grind).symm
     .exact⟨b+1,⟨a9w,upto y (by grind)⟩,rfl,a9w⟩
    .exact aP (m (by have:=ux a9w (λx c=>y x a9w);grind)).symm
  grind
 all_goals exact aP (P (by grind)).symm
theorem ZU (b d:List aL) (h k:List R) (D E:Own) (o:U) (p:aA dw b h) (r:aA dw d k) (e:b.length<=1000000):
  AC Tryz.prog 23 [.J h D,.J k E] o λF G=>G=o/\F= .v (.bool (decide (b=d))):=by
 have f:=p.len;have g:=r.len;refine aM hm K6 ?_;refine aG (λL=> ?_) λL=> ?_
 .exact aP (by grind)
 refine gJ [0,1] (λa:Nat=> [(5,.v (.int .i64 a))]) (λa=>a<=b.length/\ ∀c<a,b.getD c default=d.getD c default) (λa=>b.length - a) 0 ⟨a9w,λc P=>by omega⟩ aR ?_;rintro a ⟨i,x⟩ j;refine aa ?_;refine aG (λS=> ?_) λS=> ?_
 .obtain⟨_,l,T,rfl,y⟩:=p.get (i:=a) (x:=b.getD a default) (by grind);obtain⟨_,m,z,rfl,C⟩:=r.get (i:=a) (x:=d.getD a default) (by simp_all);have V:=y.all;have W:=C.all;have n:=iZ (n:= .agg T) V.1;have q:=iZ (n:= .agg z) W.1;refine aa ?_;refine bc (ZT _ _ _ _ _ ⟨T,rfl,y⟩ ⟨z,rfl,C⟩) ?_;refine aG (λc2=> ?_) λc2=> ?_
  .exact aP (by grind)
  .exact⟨a+1,⟨a9w,upto x (by trivial)⟩,rfl,a9w⟩
 .exact aP (by have:=ux a9w (λc P=>x c a9w);simp[this])
variable{f t e4:U}{e i v O b8 j0:Nat}{Y:br}
def Ext.dX (c:Ext i v f t) (d:f e=none):Ext i v f (t.set e Y):=λb h k o a=>by
 have p:b≠e:=by rintro rfl;rw[d]at a;cases a
 rw[U.ao _ _ p];exact c b h k o a
def cp (a:List Int×Bool) (b c:ay):c3:=⟨1,[a],[b,c]⟩
def uF (h:U) (k o:Nat) (p:ah) (T:bB h k o p) (c:List Int×Bool) (a b:ay) (V r x y z C D:Own) (d:Nat) (q:1<=d) (s:d<=8) (W:a.sum.length=32) (e:b.sum.length=32) (t:a.cz) (u:b.cz):
  AC Tryz.prog 230 [dW k d,.agg [.J (ad c.1) V,.v (.bool c.2)],.agg (ab a r x y),.agg (ab b z C D)] h λf g=>bB g k o (dx p d (cp c a b)).2/\Ext k o h g/\ha (dx p d (cp c a b)).1 f:=by
 have v:=(aW (M:=r) (e6:=x) (h4:=y) W).all;have w:=(aW (M:=z) (e6:=C) (h4:=D) e).all;have A:bu a (.agg (ab a r x y)):=⟨W,t,_,_,_,rfl⟩;have B:bu b (.agg (ab b z C D)):=⟨e,u,_,_,_,rfl⟩;generalize ab a r x y=H at*;generalize ab b z C D=I at*;refine aM hm Q8 ?_;refine bo λcd X=> ?_;refine cV λca Y Z j9=> ?_;refine hs λde k0 k1 k2 k3 k4=> ?_;refine x5 λek k5 _ _ _ _ _ _=> ?_;refine Xi λhc i _ _ _ _ _ _ _ _=> ?_;refine Xk λK k6 _ _ _ _ _ _ _ _ _ _=> ?_;refine Xl λM k7 _ _ _ _ _ _ _ _ _ _ _ _=> ?_;generalize E:((((((h.set cd _).set ca _).set de _).set ek _).set hc _).set K _).set M _=F;have j:h.sub F:=by subst E;exact aR
 have N:F hc=some (.cells (ab az .nil .nil .nil)):=by subst E;rw[<-cn];exact aR
 clear E;have k8:=(aW (M:= .nil) (e6:= .nil) (h4:= .nil) bj).len;refine ai (xG F k o p (T.mono j) (cp c a b) [.agg [.J (ad c.1) V,.v (.bool c.2)]] [.agg H,.agg I] _ _ d q s ⟨⟨⟨_,rfl⟩,trivial⟩,⟨A,B,trivial⟩,bR.J (by simp[aS,R.cells]),bR.J (by simp[aS,R.cells,v.1,w.1]),by simp[cp],by simp[cp]⟩) ?_;rintro f k9 ⟨O,l,Q⟩;have G:=(T.cG i);have l0:=U.aI (l hc _ G.1 G.2 N);obtain⟨m,L,P,S,l1,n,rfl⟩:=Q.shape;have l2:=(aW (M:=L) (e6:=P) (h4:=S) n).all;have l3:putAt (ab az .nil .nil .nil) 0 (ab m L P S)=ab m L P S:=cC bj n;refine aa ?_;exact⟨_,U.a1,O.set G,((Ext.of j).trans l).dX i⟩
def kI (b:ah) (c:Nat) (d:ay):Option ((List Int×Bool)×List ay):=
 match fm b c d with
 |none=>none
 |some a=>if a.kind=1 then some (a.rows.headD ([],false),a.kids)else none
variable{A j2:ay}{b9:c3}{H:ah}
theorem EU (a:fm H e A=some b9):dU e b9=true:=by
 unfold fm at a;split at a
 .cases a
 split at a
 .cases a
 rename_i c d b;split at a
 .obtain rfl:=a4S a;unfold po at b;grind
 .cases a
theorem EV (b:dU e b9=true) (c:b9.kind=1):b9.rows.length=1/\b9.kids.length=2/\ ∀a∈b9.kids,a.key.length=0:=by simp_all [dU]
def ZV (b c:U) (d:List ay) (h:R):Prop:= ∃a,av b c 37 (flat a) h/\aA bu d a
def yk (d:U) (F i:Nat) (y:ah) (v:bB d F i y) (h:ay) (G L P:Own) (j:h.sum.length=32) (w:h.cz) (a:Nat) (A:1<=a) (B:a<=8):
  AC Tryz.prog 182 [dW F a,.agg (ab h G L P)] d λS b=>d.sub b/\match kI y a h with
   |none=>S= .aK [.agg [.J [] .nil,.v (.bool false)],.J [] .nil,.v (.int .i64 21)]
   |some (k,bH)=> ∃H z,S= .aK [.agg [.J (ad k.1) H,.v (.bool k.2)],z,.v (.int .i64 0)]/\bH.length=2/\ZV d b bH z:=by
 have k3:=(aW (M:=G) (e6:=L) (h4:=P) j).all;refine aM hm OU ?_;refine bo λcd k4=> ?_;refine cV λca k5 _ _=> ?_;refine hs λde l _ _ _ _=> ?_;generalize T:((d.set cd _).set ca _).set de _=V;have o:d.sub V:=by subst T;exact aR
 have p:V de=some (.cells [.J [] .nil,.v (.bool false)]):=by subst T;exact aR
 clear T;refine ai (xz V F i y (v.mono o) h G L P j w a A B) ?_;rintro S I ⟨C,D⟩;have K:=U.aI (C _ _ p);rw[kI];cases W:fm y a h with
 |none=>
  rw[W]at D;obtain rfl:=D;refine aa ?_;refine aN λek c=> ?_;have a:de≠ek:=by rintro rfl;rw[C _ _ p]at c;cases c
  have M:=a5c a;refine aa ?_;exact U.ae (U.ar o C) (U.bI (U.ar o C) c)
 |some r=>
  rw[W]at D;obtain⟨k,z,rfl,E⟩:=D;refine aa ?_;refine aN λek c=> ?_;have a:de≠ek:=by rintro rfl;rw[E.sub _ _ p]at c;cases c
  have M:=a5c a;have K:=U.aI (E.sub _ _ p);have m:=U.ar o E.sub;have e:(r.kind=1)↔(r.kind.toNat:Int)=1:=by rw[<-a5P];show r.kind.toNat=1↔ _;omega
  by_cases x: ¬r.kind=1
  .have:=mt e.2 x;exact aR
  have x:=Decidable.not_not.1 x;have k6:=e.1 x;clear e;obtain⟨N,k7,_⟩:=EV (EU W) x;obtain⟨k8,k9,O,f,n,q,Q,_⟩:=E;obtain⟨l0,l1,l2⟩:=r
  dsimp only at*
  obtain⟨s,rfl⟩:=a6U.1 N;have X:=(bR.dJ f a9w rfl (q.cells λ_ _=>dd.cells)).mono n.1;obtain⟨l3,Y,Z,rfl⟩:=q.get (i:=0) rfl;obtain⟨t,u,j9⟩:=X.get 0 _ Y;have k0:=λb g=>j9.ld b g true 2 a9w (by simp[R.cells]);have u:cL 2 k (.v (.int .i64 0))=some t:=u;have k1: ∀b,I.sub b->dp true 2 b t=some (.agg [.J (ad s.1) Z,.v (.bool s.2)]):=λb g=>k0 b g;have l4:=k1 _ (U.ae (Y:= .cells [.v (.int .u8 1),k,z]) U.a1 c);refine aa ?_;refine⟨_,U.a1,U.ae (U.ae m (U.bI m c)) l,?_⟩;have k2:=U.ar o f.1;exact⟨_,_,rfl,O,(jO (n.mono (U.ae U.a1 c)) (f.1 _ _ p)).base (U.ae k2 l),Q⟩
theorem yl (a c:List Int) (r x:Own) (k:Nat) (p:U) (F:k<a.length) (G:c.length=a.length) (L:a.length<=1000000000000):
  AC Tryz.prog 97 [.J (ad a) r,.J (ad c) x,.v (.int .i64 (k:Int))] p λy z=>z=p/\y= .v (.bool (decide (cH k a c<0))):=by
 have P:=bG (q:=a);have S:= @dK a;have T:= @dK c;have C: ∀d h:Int,ib d h=0↔d=h:=λd h=>by unfold ib;omega
 have V: ∀d h:Int,ib d h<0↔d<h:=λd h=>by unfold ib;omega
 refine aM hm Md ?_;refine aG (λD=> ?_) λD=> ?_;simp_all [cH];have W:cH k a c=fO a c:=by rw[cH,if_pos (by rw[C];omega)]
 refine gJ [0,1] (λb:Nat=> [(7,.v (.int .i64 b))]) (λb=>b<=a.length/\fO (a.drop b) (c.drop b)=fO a c) (λb=>a.length - b) 0 ⟨a9w,rfl⟩ aR ?_;rintro b ⟨e,o⟩ f;refine aa ?_;refine aG (λE=> ?_) λE=> ?_
 .rw[drop_cons (b:=0) a9w,drop_cons (b:=0) (e:=b) a9w,fO]at o;refine aG (λc2=> ?_) λc2=> ?_;grind;grind
 .rw[sM a9w,sM a9w]at o;exact aP (by rw[<-o];rfl)
def fa (c:Nat) (a:List Int) (d:List (List Int)):List (List Int):=d.takeWhile (λb=>decide (cH c b a<0))++a::d.dropWhile (λb=>decide (cH c b a<0))
def eb (a:Nat) (b:List (List Int)):List (List Int):=b.foldl (λc d=>fa a d c) []
theorem ZW (b:Nat) (c:List Int) (a:List (List Int)):(fa b c a).length=a.length+1:=by have:=congrArg List.length (a5L (p:=λd=>decide (cH b d c<0)) (l:=a));grind[List.length_append,fa,List.length_cons]
variable{Q:List (List Int)}{q b6:List Int}
theorem ym:q∈fa e b6 Q↔q=b6\/q∈Q:=by have:=congrArg (λQ=>q∈Q) (a5L (p:=λq=>decide (cH e q b6<0)) (l:=Q));simp only[a5j,eq_iff_iff]at this;grind[fa]
theorem ZX (c: ∀a<e,cH i (Q.getD a []) q<0) (b:e<=Q.length) (d:e<Q.length-> ¬cH i (Q.getD e []) q<0):fa i q Q=Q.take e++q::Q.drop e:=by
 induction Q generalizing e with
 |nil=>simp at b;subst b;rfl
 |cons h Q ih=>
  cases e with
  |zero=>grind[cH,fa,List.takeWhile_cons,List.dropWhile_cons]
  |succ e=>have o:cH i h q<0:=c 0 a9w;have:=ih (λa p=>c (a+1) a9w) (by simpa using b) (λk=>d (by simpa using k));simp_all [fa]
theorem ZY (h:List (List Int)) (l:List R) (H:Own) (y F:Nat) (e:U) (m:aA isRow h l) (I: ∀G∈h,G.length=F) (k3:y<F) (k4:F<=8) (k5:h.length<=100000):
  AC Tryz.prog 162 [.J l H,.v (.int .i64 (y:Int))] e λG L=>e.sub L/\ ∃n K,aA isRow (eb y h) n/\G= .J n K:=by
 have k6:=m.len;refine aM hm Od ?_;refine ch [0,1] (λb:Nat×List R×Own=> [(6,.v (.int .i64 b.1)),(5,.J b.2.1 b.2.2)]) (λb L=>e.sub L/\b.1<=h.length/\ ∃c,(h.take b.1).foldl (λc x=>fa y x c) []=c/\c.length=b.1/\(∀G∈c,G.length=F)/\aA isRow c b.2.1) (λb=>h.length - b.1) (0,[],.nil) ⟨⟨U.a1,a9w,[],rfl,rfl,a9x,trivial⟩,aR⟩ ?_;rintro⟨z,C,bD⟩ M ⟨q,N,c,P,O,Q,p⟩ X
 dsimp only at N P O p|-
 have k7:=p.len;refine aa ?_;refine aG (λY=> ?_) λY=> ?_
 .have s:h[z]? =some (h.getD z []):=by simp_all
  obtain⟨_,k8,f,rfl⟩:=m.get s;have k9:=I _ (a5a s);have t:=eS (a:=h) (b:= []) (e:=z) a9w;generalize h.getD z []=x at*;have el: ∀a,a<c.length-> ∃E,C[a]? =some (.J (ad (c.getD a [])) E):=λa T=>by
   obtain⟨_,k,E,rfl⟩:=p.get (i:=a) (x:=c.getD a []) (by simp_all);exact⟨E,k⟩
  have Z: ∀a,a<c.length->(c.getD a []).length=F:=λa T=>Q _ (by simp_all);refine ch [0,1,5,6] (λb:Nat×List R×Own=> [(8,.v (.int .i64 b.1)),(7,.J b.2.1 b.2.2)]) (λb L=>b.1<=c.length/\(∀u<b.1,cH y (c.getD u []) x<0)/\aA isRow (c.take b.1) b.2.1/\bh M L 1 b.2.1 b.2.2) (λb=>c.length - b.1) (0,[],.nil) ⟨⟨a9w,λu d=>by simp at d,trivial,bh.nil U.a1⟩,aR⟩ ?_;rintro⟨a,V,on⟩ l0 ⟨T,v,r,W⟩ X
  dsimp only at T v r W|-
  have l1:V.length=a:=by rw[r.len,a4W];omega
  have w: ¬(a<c.length/\cH y (c.getD a []) x<0)->fa y x c=c.take a++x::c.drop a:=λd=>ZX v T λj9 D=>d ⟨j9,D⟩;by_cases jS:(a)<(z:Int)
  .obtain⟨E,l2⟩:=el a a9w;have l3:=Z a a9w;have k0:=eS (a:=c) (b:= []) (e:=a) a9w;generalize l4:c.getD a []=b at*;refine aa ?_;refine bc (yl b x E f y _ a9w a9w a9w) ?_;refine aG (λc2=> ?_) λc2=> ?_
   .refine jL (λA S=> ?_);refine ea (W.mono (U.ae U.a1 S)) (r.cells λ_ _=>isRow.cells) (λk o=>by rw[a5p]at o;subst o;rfl) a9y a9y λg B D=> ?_;refine aa ?_;refine⟨(a+1,V++ [.J (ad b) E],g),⟨by simp only;omega,?_,?_,D⟩,⟨rfl,rfl⟩,by simp only;omega⟩;grind
    .simp only[k0];exact r.snoc ⟨_,rfl⟩
   .have k:=w a9w;refine jL (λA S=> ?_);refine ea (W.mono (U.ae U.a1 S)) (r.cells λ_ _=>isRow.cells) (λk o=>by rw[a5p]at o;subst o;rfl) a9y a9y λg B D=> ?_;have k1:dI 1 (.J C bD) (some (.v (.int .i64 (a)))) none=some (.J (C.drop a) .any):=p9 a9w (p.cells λ_ _=>isRow.cells);refine aa ?_;refine ea D (λk o=>by rcases a5j.1 o with d|d;exact r.cells (λ_ _=>isRow.cells) k d;rw[a5p]at d;subst d;rfl) ((p.drop a).cells λ_ _=>isRow.cells) a9y a9y λi k2 j=> ?_;refine aa ?_;refine⟨(z+1,V++ [.J (ad x) f]++C.drop a,i),⟨U.ar q j.sub,by simp only;omega,_,rfl,?_,?_,?_⟩,⟨rfl,rfl⟩,by simp only;omega⟩;grind;grind
    .simp only[t,a6S,P,a6a,a7Z,k];rw[a8g];exact(r.snoc ⟨_,rfl⟩).append (p.drop a)
  .have k:=w a9w;refine aa ?_;refine jL (λA S=> ?_);refine ea (W.mono (U.ae U.a1 S)) (r.cells λ_ _=>isRow.cells) (λk o=>by rw[a5p]at o;subst o;rfl) a9y a9y λg B D=> ?_;have k1:dI 1 (.J C bD) (some (.v (.int .i64 (a)))) none=some (.J (C.drop a) .any):=p9 a9w (p.cells λ_ _=>isRow.cells);refine aa ?_;refine ea D (λk o=>by rcases a5j.1 o with d|d;exact r.cells (λ_ _=>isRow.cells) k d;rw[a5p]at d;subst d;rfl) ((p.drop a).cells λ_ _=>isRow.cells) a9y a9y λi k2 j=> ?_;refine aa ?_;refine⟨(z+1,V++ [.J (ad x) f]++C.drop a,i),⟨U.ar q j.sub,by simp only;omega,_,rfl,?_,?_,?_⟩,⟨rfl,rfl⟩,by simp only;omega⟩;grind;grind
   .simp only[t,a6S,P,a6a,a7Z,k];rw[a8g];exact(r.snoc ⟨_,rfl⟩).append (p.drop a)
 .obtain rfl:z=h.length:=a9w;rw[a5n]at P;exact⟨C,bD,by rw[eb,P];exact p,rfl⟩
inductive aC where
 |nil
 |node (r:List Int) (live:Bool) (a b:aC)
def dP (a:U):aC->R->Prop
 | .nil,b=>b= .v (.pointer none)
 | .node k live o p,b=> ∃c r d h,b= .ptr c 0/\a c=some (.cells [.J (ad k) r,.v (.bool live),d,h])/\dP a o d/\dP a p h
def dP.mono {b c:U} (a:b.sub c): ∀ {d:aC}{h:R},dP b d h->dP c d h
 | .nil,_,k=>k
 | .node _ _ _ _,_,⟨o,p,r,x,h1,y,z,C⟩=>⟨o,p,r,x,h1,a _ _ y,z.mono a,C.mono a⟩
theorem dP.cells {b:U}: ∀ {c:aC}{a:R},dP b c a->a.cells= [a]
 | .nil,_,rfl=>rfl
 | .node _ _ _ _,_,⟨_,_,_,_,rfl,_⟩=>rfl
def _root_.Go.bz.U.part (b c d:U):U:=λa=>if c a=none\/d a≠none then b a else none
def EW:U:=λ_=>none
theorem qY:(f.part t e4).sub f:=λa b c=>by
 grind[U.part]
def EX {c d:U} (h:f.sub t) (k:e4.sub c):(e4.part t d).sub (c.part f d):=λo p a=>by
 rw[U.part]at a|-;split at a
 .rename_i b;rw[if_pos (b.imp_left λb=>U.bI h b)];exact k _ _ a
 .cases a
def ZZ {c:U} (b:f.sub t):(e4.part t EW).sub (e4.part f c):=λh k a=>by
 rw[U.part]at a|-;split at a
 .rename_i d;rw[if_pos (.inl (U.bI b (d.resolve_right λb=>b rfl)))];exact a
 .cases a
def pD (b:f.sub t):f.sub (t.part e4 f):=λc d a=>by rw[U.part,if_pos (.inr (by rw[a];simp))];exact b _ _ a
theorem uG (a:f e=none):t.part f e4 e=t e:=if_pos (.inl a)
def aC.size:aC->Nat
 | .nil=>0
 | .node _ _ a b=>1+a.size+b.size
def aC.all:aC->List (List Int)
 | .nil=> []
 | .node a live b c=>b.all++c.all++(if live=true then [a]else [])
def qZ: ∀(c:aC) (b:R) (a:U),dP a c b->c.size<=1000000->AC Tryz.prog 91 [b] a λd h=>h=a/\d= .v (.int .i64 (c.size:Int))
 | .nil,b,a,k,_=>by
  obtain rfl:b= .v (.pointer none):=k;refine aM hm Bk ?_;trivial
 | .node d live o p,b,a,⟨E,F,r,x,h1,y,z,C⟩,D=>by
  subst h1;have G:=U.af y;simp only[aC.size]at D;refine aM hm Bk ?_;refine bc (qZ o r a z a9w) ?_;refine bc (qZ p x a C a9w) ?_;rfl
def lv: ∀a:aC,a.all.length<=a.size
 | .nil=>by trivial
 | .node d live b c=>by
  have:=lv b;have:=lv c;simp only[aC.all,aC.size,a4V];split<;>simp<;>omega
def sP: ∀(r:aC) (b:R) (a:U),dP a r b->r.size<=1000000->AC Tryz.prog 90 [b] a λz G=> ∃x k,bh a G 1 x k/\aA isRow r.all x/\z= .J x k
 | .nil,b,a,L,_=>by
  obtain rfl:b= .v (.pointer none):=L;refine aM hm Bj ?_;exact⟨_,U.a1,[],.nil,bh.nil U.a1,trivial,rfl⟩
 | .node z live C D,b,a,⟨g,k,P,S,h1,o,c,y⟩,T=>by
  subst h1;have i:=U.af o;simp only[aC.size]at T;have j:=lv C;have l:=lv D;refine aM hm Bj ?_;refine ai (sP C P a c a9w) ?_;rintro _ V ⟨m,n,p,d,rfl⟩;have q:=U.af (p.sub _ _ o);refine aa ?_;refine ai (sP D S V (y.mono p.sub) a9w) ?_;rintro _ s ⟨t,u,E,h,rfl⟩;have v:=U.af (E.sub _ _ (p.sub _ _ o));have w:=d.len;have A:=h.len;refine aa ?_;refine ea (p.mono E.sub) (d.cells λ_ _=>isRow.cells) (h.cells λ_ _=>isRow.cells) a9w a9w λW B c=> ?_;have H:=U.af (c.sub _ _ o);refine aa ?_;cases live with
  |true=>refine aa ?_;refine jL (λI e=> ?_);refine ea (c.mono (U.ae U.a1 e)) ((d.append h).cells λ_ _=>isRow.cells) (λK F=>by rw[a5p]at F;subst F;rfl) a9y a9y λf M y=> ?_;refine aa ?_;exact⟨_,U.a1,_,f,y,(d.append h).append ⟨⟨k,rfl⟩,trivial⟩,rfl⟩
  |false=>refine aa ?_;exact⟨_,U.a1,_,W,c,by simpa[aC.all] using d.append h,rfl⟩
def fQ (b:Nat):Nat->List (List Int)->Nat->aC
 |0,_,_=> .nil
 |c+1,a,dep=>if a= []then .nil else
  .node ((eb (dep%b) a).getD (a.length/2) []) true (fQ b c ((eb (dep%b) a).take (a.length/2)) (dep+1)) (fQ b c ((eb (dep%b) a).drop (a.length/2+1)) (dep+1))
theorem yn {h:Nat}: ∀(b a:List (List Int)),(b.foldl (λk c=>fa h c k) a).length=a.length+b.length/\ ∀d,d∈b.foldl (λk c=>fa h c k) a↔d∈a\/d∈b
 | [],a=>by simp
 |c::b,a=>by
  obtain⟨o,p⟩:=yn b (fa h c a);refine⟨by rw[a6a,o,ZW,a4Y];omega,λd=> ?_⟩;grind[ym]
theorem pE (b:Nat) (a:List (List Int)):(eb b a).length=a.length:=by rw[eb,(yn a []).1];simp
def r0:q∈eb e Q↔q∈Q:=by rw[eb,(yn Q []).2];simp
theorem uH (b:Nat) (E:0<b) (F:b<=8): ∀(h:Nat) (a:List (List Int)) (d:List R) (k:Own) (dep:Nat) (r:U),aA isRow a d->(∀o∈a,o.length=b)->a.length<=h->h<=100000->dep+h<=1000000->
  AC Tryz.prog 92 [.J d k,.v (.int .i64 (dep:Int))] r λo g=>r.sub g/\dP (g.part r EW) (fQ b h a dep) o
 |0,a,d,k,dep,r,x,C,v,_,_=>by
  obtain rfl:a= []:=a4Z a9w;obtain rfl:d= []:=a4Z x.len;refine aM hm wB ?_;exact⟨_,U.a1,U.a1,rfl⟩
 |h+1,a,d,k,dep,r,x,C,v,N,O=>by
  have Q:=x.len;by_cases G:a= []
  .subst G;obtain rfl:d= []:=a4Z x.len;refine aM hm wB ?_;rw[fQ,if_pos rfl];exact⟨_,U.a1,U.a1,rfl⟩
  have X:=a6c.2 G;have Y: ¬(a.length:Int)=0:=a9w;obtain⟨_,Z,j9,rfl⟩:=x.get (i:=0) (x:=a.getD 0 []) (by simp_all);have k0:=C (a.getD 0 []) (by simp_all);have k1:=bG (q:=a.getD 0 []);have w:(dep:Int).tmod (b:Int)=((dep%b:Nat)):=rfl;have k2: ¬(b:Int)=0:=a9w;have A:(a.length:Int).tdiv 2=((a.length/2:Nat)):=rfl;have k3: ∀L k,cL L (.J d k) (.v (.int .i64 0))=ey L d[0]? :=λL k=>o6;refine aM hm wB ?_;refine ai (ZY a d k (dep%b) b r x C (a6X _ E) F a9w) ?_;rintro _ B ⟨D,y,P,p,rfl⟩;have i:=p.len;rw[pE]at i;have j:=pE (dep%b) a;have S: ∀T∈eb (dep%b) a,T.length=b:=λT H=>C T (r0.1 H);obtain⟨z,l⟩: ∃z,eb (dep%b) a=z:=⟨_,rfl⟩;rw[fQ,if_neg G];rw[l]at j S p|-;generalize I:a.length/2=c at*;obtain⟨_,k4,m,rfl⟩:=p.get (i:=c) (x:=z.getD c []) (by grind);have k5:dI 1 (.J y P) none (some (.v (.int .i64 (c))))=some (.J (y.take c) .any):=by have:=o0 (e2:= .i64) (M:=P) (b1:=(c)) a9w a9w (p.cells λ_ _=>isRow.cells);trivial
  have k6:dI 1 (.J y P) (some (.v (.int .i64 ((c)+1)))) none=some (.J (y.drop (c+1)) .any):=p9 (e:=c+1) a9w (p.cells λ_ _=>isRow.cells);refine aa ?_;refine ai (uH b E F h (z.take c) (y.take c) .any (dep+1) B (p.take c) (λo V=>S o (a5g V)) (by rw[a4W];omega) a9w a9w) ?_;rintro n K ⟨W,q⟩;refine aa ?_;refine ai (uH b E F h (z.drop (c+1)) (y.drop (c+1)) .any (dep+1) K (p.drop (c+1)) (λo V=>S o (a5y V)) (by rw[a5k];omega) a9w a9w) ?_;rintro s k7 ⟨e,t⟩;clear l j i w A I;have k8:=q.cells;have k9:=t.cells;refine aa ?_;refine aN λM u=> ?_;refine aa ?_;have f:=U.ae (Y:= .cells [.J (ad (z.getD c [])) m,.v (.bool true),n,s]) U.a1 u;exact⟨_,U.a1,U.ar D (U.ar W (U.ar e f)),M,m,n,s,rfl,(uG (U.bI D (U.bI W (U.bI e u)))).trans (U.ag _ _ _),q.mono (EX D (U.ar e f)),t.mono (EX (U.ar D W) f)⟩
end Go.Proofs.YtlgnfcaolejgeaaGreat
namespace Go.bz
open Go
variable{f t e4:U}{u:bl}{l h7:World}
theorem Step.a0a {p:bl} (b:Step u f l p t h7) (r: ∀a,f a=none\/ ∃c,f a=some (.ro c)): ∃x k,h7=Sort.grow (l.drewN x) k:=by
 have d: ∀a,a<l.heap.size->h7.heap[a]? =l.heap[a]? :=λa d=>by
  rcases r a with h|⟨c,h⟩
  .exact b.block a d h
  .exact(b.jw a c d h).1
 have y:=b.os;have z:=b.tape;have o:=b.output;have C:=b.size;refine⟨h7.drawn - l.drawn,h7.heap.extract l.heap.size h7.heap.size,?_⟩;obtain⟨D,E,F,k,G⟩:=l;obtain⟨L,P,S,T,V⟩:=h7;simp only at*;obtain⟨rfl,o⟩:=o;subst y;subst z;simp only[Sort.grow,World.drewN,World.mk.injEq,true_and,and_true];grind
theorem Step.grown (d:Holds u f l) (o:Nat) (os:Array Obj):Step u f l u f (Sort.grow (l.drewN o) os):=by
 have c: ∀a,a<l.heap.size->(Sort.grow (l.drewN o) os).heap[a]? =l.heap[a]? :=λa c=>by
  show(l.heap++os)[a]? = _;grind
 exact {holds:=⟨λa h v p=>by rw[<-d.ro a h v p];exact World.cell?_of_block (c a (d.lt p)),λk h r=>(d.dQ k h r).kept (.refl u) (c k (d.dQ k h r).lt) (λ_ x=>x)⟩,le:= .refl u,os:=rfl,tape:=rfl,output:=⟨rfl,Nat.le_add_right _ _⟩,size:=a9x,block:=λa b _=>c a b,ed:=λ_ b=> .inl b,my:=λ_ _ b=> .inl b,jw:=λa y b z=>⟨c a b,.inr ⟨y,z⟩⟩}
variable{b0:Type}
theorem a0b [Inhabited b0] (h:b0->Value) (b:World) (a:Nat) (c:Array b0) (d:Array Value) (k:TypeId) (o:Nat×Nat) (p:b.heap[a]? =some (.cells d k o)) (x:c.size<=d.size):
  Sort.putRow h b a 0 c=b.setRow a (dh d 0 (c.toList.map h)):=by
 unfold Sort.putRow Sort.mapBlock World.setRow;congr 1;apply Array.ext_getElem?;intro r;simp only[Array.getElem?_modify];by_cases hk:a=r
 .subst hk;simp only[if_true,p,a5U,Sort.onCells];congr 2;apply a9e;apply a8B;intro y;simp only[Sort.putCells,dh,a6C,Array.getElem?_mapIdx,a6Q,a5m,a5t,a5f,a8p];grind
 .simp[hk]
variable{g B e0:List R}{e i v O b8 j0:Nat}{m:Program}
theorem a0c {k6:Shelf.Ren} (n5:Proofs.SlLaysF.n6 m k6) (S:b0->R->Prop) (n9: ∀a d,S a d->d.one=true/\d.cells= [d]) {C:List b0}
  (Y:f e=some (.cells g)) (a69:B.length=C.length) (a00: ∀(b:Nat) a d,C[b]? =some a->B[b]? =some d->S a d) (a01:C.length=i) (k7:g.take i=B) (a71:i<4611686018427387904)
  (V:FuncId) (I:List R) (k8:t.sub f) (k9: ∀c,t c=none\/ ∃Z,t c=some (.ro Z)) (x:b0->Prop) (a02: ∀j∈C,x j) (a03:0<i)
  (y:b0->b0->Int) (a73: ∀a,x a-> ¬y a a<0) (a74: ∀a h D,x a->x h->x D->y a h<0->y h D<0->y a D<0) (a81: ∀a h D,x a->x h->x D-> ¬y a h<0-> ¬y h D<0-> ¬y a D<0)
  (a04: ∀l0 p,(callFunc V l0).run m p= .ok (.enter V l0) p)
  (a05: ∀a h d c,S a d->S h c->x a->x h->AC m V ([d,c]++I) t λj _=>j= .v (.int .i64 (y a h))):
  AC m (k6.f 6) [.an e i O 1,.bF V [] I] f λj l1=>j= .aK []/\ ∃o j9,j9.Perm C/\o.length=i/\(∀(b:Nat) a d,j9[b]? =some a->o[b]? =some d->S a d)/\List.Pairwise (λd c=> ¬y c d<0) j9/\l1=f.set e (.cells (o++g.drop i)):=by
 intro K p z k0 w;have l2:=k0.2 0 _ rfl;have l3:=k0.2 1 _ rfl;have a06:K.size=2:=k0.1;generalize a07:K.getD 0 undef=a83 at l2;generalize a08:K.getD 1 undef=a84 at l3;cases l2 with
 |an e i O a86 a88 a89=>
 cases l3 with
 |bF a90 ws ic cJ a92 hw a94 a09 a10=>
 obtain rfl:ws= #[]:=a8m hw;have al:K= #[.slice (some ⟨e,0,none⟩) i O,.func (.func V) #[] ic]:=by
  apply Array.ext
  .exact a06
  .intro b G L
   match b,G with
   |0,G=>rw[<-a07];simp_all
   |1,G=>rw[<-a08];simp_all
   |b+2,G=>omega
 rw[al];obtain⟨a95,l,T,k1,l4,a11⟩:=w.dQ e _ Y;have a96:i<=g.length:=by grind
 have a97:=l4.1
 let W:= {P:Value×b0//(∃d,S P.2 d/\aY z P.1 d)/\x P.2};have l5: ∀b (n:b<i),∃a:W,a.1.1=l[b]'a9w/\a.1.2=C[b]'a9w:=λb n=>by
  have G:g[b]? =some (B[b]'a9w):=by grind
  have L:=l4.2 b _ G;have A:l.getD b undef=l[b]'a9w:=by simp[show b<l.size by omega]
  rw[A]at L;exact⟨⟨(l[b]'a9w,C[b]'a9w),⟨_,a00 b _ _ (a4T _) (a4T _),L⟩,a02 _ (a5w _)⟩,rfl,rfl⟩
 haveI:Inhabited W:=⟨(l5 0 a03).choose⟩
 obtain⟨E,l6,a98⟩: ∃E:Array W,E.size=i/\ ∀b (n:b<i) (a13),E[b].1.1=l[b]'a9w/\E[b].1.2=C[b]'a9w:=
  ⟨Array.ofFn λb=>(l5 b b.2).choose,a9x,λb n a13=>by grind[Array.getElem_ofFn]⟩
 let k:W->Value:=λa=>a.1.1;have G:Proofs.OneCell k:=λa=>by
  obtain⟨⟨d,L,A⟩,_⟩:=a.2;exact A.nL (n9 _ _ L).1
 have a14:Sort.Holds k p e 0 E:=λr k2=>by
  have a99:r<i:=a9w;rw[getElem!_pos E r k2];constructor
  .simp only[World.cell?,k1,a5t,a6N,a5Y,if_false];grind
  .simp[World.frozen?,k1]
 have a15:=(a6j.1 k1).1
 let k3:W->W->Int:=λa h=>y a.1.2 h.1.2;have a16:Proofs.CmpLays1 m V ic k k3 e 0 E.size p:=λl7 q l8 b00 a h=>by
  have l9: ∀c,c<p.heap.size->c≠e->(Proofs.sortWorld k p e 0 l7 l8 q).heap[c]? =p.heap[c]? :=λc M N=>by
   show(((p.heap.modify e _)++q)[c]?)= _;grind
  have a18:Holds z t (Proofs.sortWorld k p e 0 l7 l8 q):=⟨λc k4 v s=>by
   have N:c≠e:=by rintro rfl;rw[a11]at s;cases s
   rw[<-w.ro c k4 v s];exact World.cell?_of_block (l9 c (w.lt s) N),λc k4 M=>by
   have N:c≠e:=by
    rintro rfl;rcases k9 c with H|⟨Z,H⟩
    .rw[H]at M;cases M
    .have:=k8 _ _ H;rw[Y]at this;cases this
   have L:=w.dQ c k4 (k8 _ _ M);exact L.kept (.refl z) (l9 c L.lt N) λ_ n=>n⟩
  obtain⟨⟨d,aM,a19⟩,a27⟩:=a.2;obtain⟨⟨c,a29,a30⟩,a34⟩:=h.2;have a36:bq z (#[k a,k h]++ic) ([d,c]++I):=⟨by simp[a09];omega,λr Q u=>by
   match r,u with
   |0,u=>obtain rfl:=a4S u;rw[show(#[k a,k h]++ic).getD 0 undef=k a by rw[a5Q,a7L a9x];rfl];exact a19
   |1,u=>obtain rfl:=a4S u;rw[show(#[k a,k h]++ic).getD 1 undef=k h by rw[a5Q,a7L a9x];rfl];exact a30
   |r+2,u=>
    have A:I[r]? =some Q:=by trivial
    have k2:r<ic.size:=by grind
    have b01:=a10 r Q A;simp_all [a5Q,Array.getElem?_append_right]⟩
  refine(a05 _ _ d c aM a29 a27 a34 _ _ z a36 a18).mono ?_;rintro a38 a42 ⟨v,j,b02,l1,rfl,X,s,rfl⟩;refine⟨by rw[s.dT],X.a0a k9⟩
 have a43:Sort.SWO (Proofs.ltOf k3):=⟨λa=>by simp only[Proofs.ltOf];grind,λa h D=>by simp only[Proofs.ltOf,decide_eq_true_eq];grind,λa h D=>by grind[Proofs.ltOf,decide_eq_false_iff_not]⟩;have n0:=Proofs.Any.slices_SortFunc n5 k G k3 a43 V ic e 0 O E p a04 a16 a14 a15 a9w;rw[l6]at n0;refine n0.mono ?_;rintro a38 a42 ⟨rfl,F,P,q,⟨b03,_,n1⟩,a47,rfl⟩;have n2:F.size=i:=a9w;rw[a8u a9w,a8u a9w]at n1
 let o:List R:=F.toList.map λa=>a.2.1.choose;have b04: ∀a:W,S a.1.2 a.2.1.choose/\aY z a.1.1 a.2.1.choose:=λa=>a.2.1.choose_spec;have a48:bq z (F.toList.map k).toArray o:=bq.dR.2 ⟨by simp[o],λr b05 Q n3 a52=>by
  simp only[a5u,o]at n3 a52;cases k5:F.toList[r]? with
  |none=>simp[k5]at n3
  |some a=>grind⟩
 obtain⟨a56,b06,b07,b08,X⟩:=Step.store w Y 0 o _ a48 (λZ k7=>by
  obtain⟨a,_,rfl⟩:=a5o.1 k7;grind) (by simp[o];omega)
 have a57:Sort.putRow k (Sort.ahead p P) e 0 F=Sort.ahead (p.setRow e (dh a56 0 (F.toList.map k))) P:=by grind[Sort.putRow_ahead,a0b]
 have a61:=X.trans (Step.grown X.holds P q);refine⟨_,.aK [],z,f.set e (.cells (o++g.drop i)),rfl,?_,.aK #[] [] rfl (λr Q H=>by simp at H),rfl,o,F.toList.map (λa=>a.1.2),?_,by simp[o,n2],?_,?_,rfl⟩
 .have a62:putAt g 0 o=o++g.drop i:=by simp[putAt,o,n2]
  rw[<-a62];show Step z f p z _ (Sort.grow (Sort.putRow k (Sort.ahead p P) e 0 F) q);rw[a57];exact a61
 .have a63:C=E.toList.map (λa=>a.1.2):=by
   apply a8I
   .simp[a01,l6]
   simp_all
  rw[a63];exact n1.map _
 .intro b a d n4 a65;simp only[a5u,o]at n4 a65;cases k5:F.toList[b]? with
  |none=>simp[k5]at n4
  |some h=>grind
 .rw[a7q,a6v];intro b r n k2 a68;have:=a47 b r (a5C _) a68 (by simp_all);grind[Array.length_toList,Proofs.ltOf]
end Go.bz
namespace Go.Proofs
open Go.Shelf
def Tryz.a0d:Go.Shelf.Ren:=⟨λ|6=>118|15=>184|14=>183|28=>267|29=>268|20=>259|21=>260|22=>261|23=>262|24=>263|25=>264|26=>265|27=>266|46=>316|47=>317|48=>318|49=>319|50=>320|57=>346|a=>a,λ|22=>37|24=>24|25=>196|3=>3|39=>213|0=>0|53=>284|55=>130|4=>4|46=>324|45=>323|50=>221|5=>5|9=>9|66=>368|70=>372|76=>385|77=>386|a=>a,λ|a=>a⟩
def Tryz.EY:Go.Proofs.SlLaysF.n6 Tryz.prog Tryz.a0d:= {
 mixed:=a9B
 f6:=⟨Tryz.f118.name,a9A,Tryz.func118.trans (congrArg some a9B)⟩
 f14:=⟨Tryz.f183.name,a9A,Tryz.func183.trans (congrArg some a9B)⟩
 f15:=Tryz.func184.trans (congrArg some a9B)
 f20:=⟨Tryz.f259.name,a9A,Tryz.func259.trans (congrArg some a9B)⟩
 f21:=⟨Tryz.f260.name,a9A,Tryz.func260.trans (congrArg some a9B)⟩
 f22:=⟨Tryz.f261.name,a9A,Tryz.func261.trans (congrArg some a9B)⟩
 f23:=⟨Tryz.f262.name,a9A,Tryz.func262.trans (congrArg some a9B)⟩
 f24:=⟨Tryz.f263.name,a9A,Tryz.func263.trans (congrArg some a9B)⟩
 f25:=⟨Tryz.f264.name,a9A,Tryz.func264.trans (congrArg some a9B)⟩
 f26:=⟨Tryz.f265.name,a9A,Tryz.func265.trans (congrArg some a9B)⟩
 f27:=⟨Tryz.f266.name,a9A,Tryz.func266.trans (congrArg some a9B)⟩
 f28:=Tryz.func267.trans (congrArg some a9B)
 f29:=Tryz.func268.trans (congrArg some a9B)
 f46:=⟨Tryz.f316.name,a9A,Tryz.func316.trans (congrArg some a9B)⟩
 f47:=Tryz.func317.trans (congrArg some a9B)
 f48:=Tryz.func318.trans (congrArg some a9B)
 f49:=⟨Tryz.f319.name,a9A,Tryz.func319.trans (congrArg some a9B)⟩
 f50:=⟨Tryz.f320.name,a9A,Tryz.func320.trans (congrArg some a9B)⟩
 f57:=⟨Tryz.f346.name,a9A,Tryz.func346.trans (congrArg some a9B)⟩
 t0:=Tryz.underlying0
 a0:=Tryz.isAgg0
 z0:=Tryz.sizeOf0
 v0:=Tryz.zeroValue0
 t3:=Tryz.underlying3
 a3:=Tryz.isAgg3
 z3:=Tryz.sizeOf3
 v3:=Tryz.zeroValue3
 t4:=Tryz.underlying4
 a4:=Tryz.isAgg4
 z4:=Tryz.sizeOf4
 v4:=Tryz.zeroValue4
 t5:=Tryz.underlying5
 a5:=Tryz.isAgg5
 z5:=Tryz.sizeOf5
 v5:=Tryz.zeroValue5
 t9:=Tryz.underlying9
 a9:=Tryz.isAgg9
 z9:=Tryz.sizeOf9
 v9:=Tryz.zeroValue9
 t22:=Tryz.underlying37
 a22:=Tryz.isAgg37
 z22:=Tryz.sizeOf37
 v22:=Tryz.zeroValue37
 a24:=Tryz.isAgg24
 z24:=Tryz.sizeOf24
 t25:=Tryz.underlying196
 a25:=Tryz.isAgg196
 z25:=Tryz.sizeOf196
 v25:=Tryz.zeroValue196
 t39:=Tryz.underlying213
 a39:=Tryz.isAgg213
 z39:=Tryz.sizeOf213
 v39:=Tryz.zeroValue213
 t45:=Tryz.underlying323
 a45:=Tryz.isAgg323
 z45:=Tryz.sizeOf323
 v45:=Tryz.zeroValue323
 t46:=Tryz.underlying324
 a46:=Tryz.isAgg324
 z46:=Tryz.sizeOf324
 v46:=Tryz.zeroValue324
 t50:=Tryz.underlying221
 a50:=Tryz.isAgg221
 z50:=Tryz.sizeOf221
 v50:=Tryz.zeroValue221
 t53:=Tryz.underlying284
 a53:=Tryz.isAgg284
 z53:=Tryz.sizeOf284
 v53:=Tryz.zeroValue284
 t55:=Tryz.underlying130
 a55:=Tryz.isAgg130
 z55:=Tryz.sizeOf130
 v55:=Tryz.zeroValue130
 t66:=Tryz.underlying368
 a66:=Tryz.isAgg368
 z66:=Tryz.sizeOf368
 v66:=Tryz.zeroValue368
 t70:=Tryz.underlying372
 a70:=Tryz.isAgg372
 z70:=Tryz.sizeOf372
 v70:=Tryz.zeroValue372
 t76:=Tryz.underlying385
 a76:=Tryz.isAgg385
 z76:=Tryz.sizeOf385
 v76:=Tryz.zeroValue385
 t77:=Tryz.underlying386
 a77:=Tryz.isAgg386
 z77:=Tryz.sizeOf386
 v77:=Tryz.zeroValue386}
end Go.Proofs
namespace Go.Proofs.YtlgnfcaolejgeaaGreat
open Go Go.bz
variable{f t e4:U}
theorem a0e {b c:U} (h: ∀a,t a=none->f a=none) (k: ∀a,c a≠none->f a=none\/b a≠none):(e4.part t c).sub (e4.part f b):=λa o d=>by
 rw[U.part]at d|-;grind
variable{e i v O b8 j0:Nat}{Y:br}
def yo (c:f.sub t):(f.set e Y).sub (t.set e Y):=λd h a=>by
 by_cases b:d=e
 .subst b;rw[U.ag]at a|-;exact a
 .rw[U.ao _ _ b]at a|-;exact c _ _ a
theorem yp {d h:U}{o:br} (p:f.sub t) (r:e4=f.set e o) (k:f e=none):
  (d.part (t.set e Y) ((t.part e4 h).set e Y)).sub (d.part f h):=a0e (λc a=>by
   by_cases b:c=e
   .subst b;exact k
   .rw[U.ao _ _ b]at a;exact U.bI p a) λc a=>by
   by_cases b:c=e
   .subst b;exact .inl k
   .rw[U.ao _ _ b,U.part]at a;split at a;simp_all [U.ao]
    .trivial
theorem uI {a:U} (b:f=e4.set e Y) (c:t e=none):a.part f t e=none:=by simp_all [U.part,U.ag]
def aC.Ok (a:Nat):aC->Prop
 | .nil=>True
 | .node b _ c d=>b.length=a/\c.Ok a/\d.Ok a
theorem aC.Ok.all {c:Nat}: ∀ {d:aC},d.Ok c-> ∀b∈d.all,b.length=c
 | .nil,_,b,a=>by trivial
 | .node o live p r,⟨h1,h,k⟩,b,a=>by
  simp only[aC.all,a5j]at a;rcases a with (a|a)|a
  .exact h.all b a
  .exact k.all b a
  simp_all
def hB (d:Nat) (h:aC) (k:Nat):aC:=
 match h with
 | .nil=> .nil
 | .node c live a b=>if max a.size b.size>2*(aC.node c live a b).size/3+1 then fQ d (aC.node c live a b).all.length (aC.node c live a b).all k else .node c live a b
theorem yq (o:Nat) (j:0<o) (l:o<=8) (d:List Int) (h:Bool) (a b:aC) (F:R) (p:Nat) (k r:U) (G:dP r (.node d h a b) F) (L:r.sub k) (m:(aC.node d h a b).Ok o) (x:(aC.node d h a b).size<=100000) (k1:p<=100000):
  AC Tryz.prog 96 [F,.v (.int .i64 (p:Int))] k λy P=>k.sub P/\dP (P.part k r) (hB o (.node d h a b) p) y:=by
 have z:=G.mono L;obtain⟨k2,k3,y,n,rfl,q,s,t⟩:=id z;have k4:=U.af q;have u:a.size<=100000:=by simp only[aC.size]at x;omega
 have w:b.size<=100000:=by simp only[aC.size]at x;omega
 refine aM hm Mb ?_;refine bc (qZ a y k s a9w) ?_;refine bc (qZ b n k t a9w) ?_;have A:=lv (aC.node d h a b);have S:=qZ _ _ k z a9w;rw[hB];have B:=uH o j l (aC.node d h a b).all.length (aC.node d h a b).all;have H:=sP _ _ k z a9w;have I:=m.all;generalize aC.node d h a b=K at*;obtain⟨c,T⟩: ∃c,K.size=c:=⟨_,rfl⟩;obtain⟨C,V⟩: ∃c,a.size=c:=⟨_,rfl⟩;obtain⟨D,W⟩: ∃c,b.size=c:=⟨_,rfl⟩;rw[T]at S x A|-;rw[V]at u|-;rw[W]at w|-;clear T V W;have M:(2*(c:Int)).tdiv 3=((2*c/3:Nat)):=by grind
 obtain⟨E,e⟩: ∃E,2*c/3=E:=⟨_,rfl⟩;rw[e]at M|-;have N:max (C:Int) (D)=((max C D)):=a9w;obtain⟨f,g⟩: ∃f,max C D=f:=⟨_,rfl⟩;rw[g]at N|-;have hm:E<=100000:=a9w;clear e g;refine bc S ?_;refine aG (λO=> ?_) λO=> ?_
 .rw[if_pos a9w];refine ai H ?_;rintro _ Q ⟨X,Y,i,Z,rfl⟩;refine aa ?_;refine ai (B X Y p Q Z I a9w a9w a9w) ?_;rintro v k5 ⟨j9,k0⟩;refine aa ?_;exact⟨_,U.a1,U.ar i.sub j9,k0.mono (ZZ i.sub)⟩
 .rw[if_neg a9w];exact⟨_,U.a1,U.a1,G.mono (pD L)⟩
theorem r1 (b:Nat): ∀(c:Nat) (a:List (List Int)) (dep:Nat),(fQ b c a dep).size<=a.length
 |0,_,_=>a5C _
 |c+1,a,dep=>by
  rw[fQ];split
  .exact a5C _
  .rename_i d;have:=a6c.2 d;have h:=r1 b c ((eb (dep%b) a).take (a.length/2)) (dep+1);have k:=r1 b c ((eb (dep%b) a).drop (a.length/2+1)) (dep+1);grind[List.length_take,pE,List.length_drop,aC.size]
theorem yr (b:Nat): ∀(d:Nat) (h:List (List Int)) (dep:Nat),(∀a∈h,a.length=b)->(fQ b d h dep).Ok b
 |0,_,_,_=>trivial
 |d+1,h,dep,o=>by
  rw[fQ];split
  .trivial
  .rename_i p;have:=a6c.2 p;have k: ∀a∈eb (dep%b) h,a.length=b:=λa c=>o a (r0.1 c);refine⟨?_,yr b d _ _ λa c=>k a (a5g c),yr b d _ _ λa c=>k a (a5y c)⟩;grind[eb,pE,List.getD,List.getElem?_eq_getElem,List.getElem_mem]
theorem a0f (b:Nat) (a:aC) (c:Nat):(hB b a c).size<=a.size:=by
 unfold hB;split
 .trivial
 .split
  .exact a5R (r1 _ _ _ _) (lv _)
  .omega
variable{a8:aC}
def ys (b:Nat) (a:a8.Ok e):(hB e a8 b).Ok e:=by
 unfold hB;split
 .trivial
 .split
  .exact yr _ _ _ _ a.all
  .exact a
def cX (a:Nat) (b:List Int):aC->Nat->aC×Bool
 | .nil,_=>(.node b true .nil .nil,true)
 | .node c live d h,dep=>
  if c=b then(hB a (.node c true d h) dep,!live)
  else if cH (dep%a) b c<0 then(hB a (.node c live (cX a b d (dep+1)).1 h) dep,(cX a b d (dep+1)).2)
  else(hB a (.node c live d (cX a b h (dep+1)).1) dep,(cX a b h (dep+1)).2)
theorem pF (a:Nat) (b:List Int): ∀(c:aC) (dep:Nat),(cX a b c dep).1.size<=c.size+1
 | .nil,_=>a5z _
 | .node k live d h,dep=>by
  have o:=pF a b d (dep+1);have p:=pF a b h (dep+1);grind[cX,Nat.le_trans,a0f,aC.size]
def uJ {a:Nat}{b:List Int} (c:b.length=a): ∀ {r:aC} (dep:Nat),r.Ok a->(cX a b r dep).1.Ok a
 | .nil,_,_=>⟨c,trivial,trivial⟩
 | .node d live h k,dep,⟨h1,o,p⟩=>by
  rw[cX];split
  .exact ys (a8:= .node d true h k) _ ⟨h1,o,p⟩
  .split
   .exact ys (a8:= .node d live (cX a b h (dep+1)).1 k) _ ⟨h1,uJ c _ o,p⟩
   .exact ys (a8:= .node d live h (cX a b k (dep+1)).1) _ ⟨h1,o,uJ c _ p⟩
def yt (a:Nat) (E:0<a) (P:a<=8) (o:List Int) (g:Own) (S:o.length=a): ∀(T:aC) (V:R) (dep:Nat) (x y:U),dP y T V->y.sub x->T.Ok a->T.size+1+dep<=100000->
  AC Tryz.prog 54 [V,.J (ad o) g,.v (.int .i64 (dep:Int))] x λk H=>x.sub H/\ ∃d,k= .aK [d,.v (.bool (cX a o T dep).2)]/\dP (H.part x y) (cX a o T dep).1 d
 | .nil,V,dep,x,y,q,z,I,K=>by
  obtain rfl:V= .v (.pointer none):=q;refine aM hm Be ?_;refine aN λb h=> ?_;refine aa ?_;exact⟨_,U.a1,U.ae U.a1 h,_,rfl,b,g,_,_,rfl,(uG h).trans (U.ag _ _ _),rfl,rfl⟩
 | .node c live F G,V,dep,x,y,q,z,I,K=>by
  obtain⟨M,p,k,d,rfl,N,i,j⟩:=q;have W:=z _ _ N;have O:=i.mono z;have Q:=j.mono z;obtain⟨s,l,m⟩:=id I;have k4:=U.af W;have k5:=bG (q:=o);have k6:=O.cells;have k7:=Q.cells;refine aM hm Be ?_;refine bo λb h=> ?_;have X:=U.ae (Y:= .cells [.J (ad c) p,.v (.bool live),k,d]) U.a1 h;have k8:=U.af (X _ _ W);have k9:M≠b:=by rintro rfl;rw[h]at W;cases W
  have C:=U.bI z h;obtain⟨n,Y⟩: ∃n,n=x.set b (.cells [.J (ad c) p,.v (.bool live),k,d]):=⟨_,rfl⟩;simp only[aC.size]at K;refine aa ?_;refine ai (nq c o _ _ _ a9w) ?_;rintro _ _ ⟨rfl,rfl⟩;refine aa ?_;refine aG (λt=> ?_) λt=> ?_
  .subst t;have Z:dP ((x.part n y).set b (.cells [.J (ad c) p,.v (.bool true),k,d])) (.node c true F G) (.ptr b 0):=by have r:=U.ae (Y:= .cells [.J (ad c) p,.v (.bool true),k,d]) (pD (e4:=n) z) C;exact⟨b,p,k,d,rfl,U.ag _ _ _,i.mono r,j.mono r⟩
   refine ai (yq a E P c true F G _ dep _ _ Z (yo qY) ⟨s,l,m⟩ (by simp only[aC.size];omega) a9w) ?_;rintro v L ⟨r,D⟩;have l0:=U.af (r _ _ (U.ae U.a1 h _ _ W));refine aa ?_;rw[cX,if_pos rfl];exact⟨_,U.a1,U.ar (U.ae U.a1 h) r,_,rfl,D.mono (yp U.a1 Y h)⟩
  rw[cX,if_neg t];have l1:(dep:Int).tmod (a:Int)=((dep%a:Nat)):=rfl;refine ai (yl o c _ _ (dep%a) _ (by rw[S];exact a6X _ E) a9w a9w) ?_;rintro _ _ ⟨rfl,rfl⟩;refine aa ?_;refine aG (λc2=> ?_) λc2=> ?_
  .refine ai (yt a E P o g S F k (dep+1) _ y i (U.ae z C) l a9w) ?_;rintro _ L ⟨r,v,rfl,D⟩;have u:=r _ _ (U.ag _ _ _);have j9:ee L b=some [.J (ad c) p,.v (.bool live),k,d]:=by simp[ee,u]
   have k0:=D.cells;have e:=U.ar (U.ae U.a1 h) r;rw[if_pos c2];refine aa ?_;have f:=U.ae (Y:= .cells [.J (ad c) p,.v (.bool live),v,d]) U.a1 (uI rfl C:L.part (x.set b (.cells [.J (ad c) p,.v (.bool live),k,d])) y b=none);have w:dP _ (.node c live (cX a o F (dep+1)).1 G) (.ptr b 0):=⟨b,p,v,d,rfl,U.ag _ _ _,D.mono f,j.mono (U.ar (pD (U.ar (U.ae z C) r)) f)⟩;have k1:=pF a o F (dep+1);refine ai (yq a E P _ _ _ _ _ dep _ _ w (yo qY) ⟨s,uJ S _ l,m⟩ (by simp only[aC.size];omega) a9w) ?_;rintro k2 k3 ⟨A,B⟩;refine aa ?_;exact⟨_,U.a1,U.ar (U.ae e h) A,_,rfl,B.mono (yp e rfl h)⟩
  .refine ai (yt a E P o g S G d (dep+1) _ y j (U.ae z C) m a9w) ?_;rintro _ L ⟨r,v,rfl,D⟩;have u:=r _ _ (U.ag _ _ _);have j9:ee L b=some [.J (ad c) p,.v (.bool live),k,d]:=by simp[ee,u]
   have k0:=D.cells;have e:=U.ar (U.ae U.a1 h) r;rw[if_neg c2];refine aa ?_;have f:=U.ae (Y:= .cells [.J (ad c) p,.v (.bool live),k,v]) U.a1 (uI rfl C:L.part (x.set b (.cells [.J (ad c) p,.v (.bool live),k,d])) y b=none);have w:dP _ (.node c live F (cX a o G (dep+1)).1) (.ptr b 0):=⟨b,p,k,v,rfl,U.ag _ _ _,i.mono (U.ar (pD (U.ar (U.ae z C) r)) f),D.mono f⟩;have k1:=pF a o G (dep+1);refine ai (yq a E P _ _ _ _ _ dep _ _ w (yo qY) ⟨s,l,uJ S _ m⟩ (by simp only[aC.size];omega) a9w) ?_;rintro k2 k3 ⟨A,B⟩;refine aa ?_;exact⟨_,U.a1,U.ar (U.ae e h) A,_,rfl,B.mono (yp e rfl h)⟩
theorem uK {a:U}{b:br} (d:t=f.set e b) (h:f e=none):((e4.part t a).set e Y).sub ((e4.set e Y).part f a):=λc k o=>by
 by_cases p:c=e;grind[U.ag,uG];simp_all [U.ao,U.part]
def cj (b:Nat) (a:List Int):aC->Nat->aC×Bool
 | .nil,_=>(.nil,false)
 | .node c live d h,dep=>
  if c=a then(.node c false d h,live)
  else if cH (dep%b) a c<0 then(.node c live (cj b a d (dep+1)).1 h,(cj b a d (dep+1)).2)
  else(.node c live d (cj b a h (dep+1)).1,(cj b a h (dep+1)).2)
theorem pG (a:Nat) (b:List Int): ∀(c:aC) (dep:Nat),(cj a b c dep).1.size=c.size
 | .nil,_=>rfl
 | .node k live d h,dep=>by
  have o:=pG a b d (dep+1);have p:=pG a b h (dep+1);grind[cj,aC.size]
def yu {a:Nat}{h:List Int}: ∀ {b:aC} (dep:Nat),b.Ok a->(cj a h b dep).1.Ok a
 | .nil,_,_=>trivial
 | .node k live o p,dep,⟨h1,c,d⟩=>by
  rw[cj];split
  .trivial
  .split
   .exact⟨h1,yu _ c,d⟩
   .exact⟨h1,c,yu _ d⟩
def yv (b:Nat) (V:0<b) (s:b<=8) (p:List Int) (W:Own) (e:p.length=b): ∀(D:aC) (E:R) (dep:Nat) (y z:U),dP z D E->z.sub y->D.Ok b->D.size+1+dep<=1000000->
  AC Tryz.prog 89 [E,.J (ad p) W,.v (.int .i64 (dep:Int))] y λc t=>y.sub t/\ ∃a,c= .aK [a,.v (.bool (cj b p D dep).2)]/\dP (t.part y z) (cj b p D dep).1 a
 | .nil,E,dep,y,z,f,r,u,w=>by
  obtain rfl:E= .v (.pointer none):=f;refine aM hm Bi ?_;exact⟨_,U.a1,U.a1,_,rfl,rfl⟩
 | .node d live g i,E,dep,y,z,f,r,u,w=>by
  obtain⟨B,o,c,a,rfl,H,P,S⟩:=f;have T:=r _ _ H;have I:=P.mono r;have K:=S.mono r;obtain⟨Y,M,N⟩:=id u;have Z:=U.af T;have j9:=bG (q:=p);have k0:=I.cells;have k1:=K.cells;refine aM hm Bi ?_;refine bo λh k=> ?_;have O:=U.ae (Y:= .cells [.J (ad d) o,.v (.bool live),c,a]) U.a1 k;have k2:=U.af (O _ _ T);have k3:B≠h:=by rintro rfl;rw[k]at T;cases T
  have C:=U.bI r k;obtain⟨j,A⟩: ∃j,j=y.set h (.cells [.J (ad d) o,.v (.bool live),c,a]):=⟨_,rfl⟩;simp only[aC.size]at w;refine aa ?_;refine ai (nq d p _ _ _ a9w) ?_;rintro _ _ ⟨rfl,rfl⟩;refine aa ?_;refine aG (λl=> ?_) λl=> ?_
  .subst l;rw[cj,if_pos rfl];have x:=U.ae (Y:= .cells [.J (ad d) o,.v (.bool false),c,a]) (pD (e4:=j) r) C;exact⟨_,U.a1,U.ae U.a1 k,_,rfl,h,o,c,a,rfl,(uG k).trans (U.ag _ _ _),P.mono (U.ar x (uK A k)),S.mono (U.ar x (uK A k))⟩
  rw[cj,if_neg l];have k4:(dep:Int).tmod (b:Int)=((dep%b:Nat)):=rfl;refine ai (yl p d _ _ (dep%b) _ (by rw[e];exact a6X _ V) a9w a9w) ?_;rintro _ _ ⟨rfl,rfl⟩;refine aa ?_;refine aG (λc2=> ?_) λc2=> ?_
  .refine ai (yv b V s p W e g c (dep+1) _ z P (U.ae r C) M a9w) ?_;rintro _ F ⟨x,v,rfl,G⟩;have m:=x _ _ (U.ag _ _ _);have Q:ee F h=some [.J (ad d) o,.v (.bool live),c,a]:=by simp[ee,m]
   have X:=G.cells;have n:=U.ar (U.ae U.a1 k) x;rw[if_pos c2];refine aa ?_;have L:=U.ae (Y:= .cells [.J (ad d) o,.v (.bool live),v,a]) U.a1 (uI rfl C:F.part (y.set h (.cells [.J (ad d) o,.v (.bool live),c,a])) z h=none);have q:dP _ (.node d live (cj b p g (dep+1)).1 i) (.ptr h 0):=⟨h,o,v,a,rfl,U.ag _ _ _,G.mono L,S.mono (U.ar (pD (U.ar (U.ae r C) x)) L)⟩;exact⟨_,U.a1,U.ae n k,_,rfl,q.mono (uK rfl k)⟩
  .refine ai (yv b V s p W e i a (dep+1) _ z S (U.ae r C) N a9w) ?_;rintro _ F ⟨x,v,rfl,G⟩;have m:=x _ _ (U.ag _ _ _);have Q:ee F h=some [.J (ad d) o,.v (.bool live),c,a]:=by simp[ee,m]
   have X:=G.cells;have n:=U.ar (U.ae U.a1 k) x;rw[if_neg c2];refine aa ?_;have L:=U.ae (Y:= .cells [.J (ad d) o,.v (.bool live),c,v]) U.a1 (uI rfl C:F.part (y.set h (.cells [.J (ad d) o,.v (.bool live),c,a])) z h=none);have q:dP _ (.node d live g (cj b p i (dep+1)).1) (.ptr h 0):=⟨h,o,c,v,rfl,U.ag _ _ _,P.mono (U.ar (pD (U.ar (U.ae r C) x)) L),G.mono L⟩;exact⟨_,U.a1,U.ae n k,_,rfl,q.mono (uK rfl k)⟩
def lx (a:Nat) (b:List Int) (c:aC):aC×Bool:=
 if(cj a b c 0).2=true/\2*(cj a b c 0).1.all.length<(cj a b c 0).1.size then(fQ a (cj a b c 0).1.all.length (cj a b c 0).1.all 0,true)else cj a b c 0
def a0g (a:Nat) (z:0<a) (C:a<=8) (b:List Int) (D:Own) (L:b.length=a) (c:aC) (o:R) (k:U) (P:dP k c o) (E:c.Ok a) (u:c.size+1<=100000):
  AC Tryz.prog 52 [o,.J (ad b) D] k λS F=>k.sub F/\ ∃d,S= .aK [d,.v (.bool (lx a b c).2)]/\dP F (lx a b c).1 d:=by
 refine aM hm KU ?_;refine ai (yv a z C b D L c o 0 k k P U.a1 E a9w) ?_;rintro _ T ⟨p,d,rfl,V⟩;have r:=V.mono qY;have W:=yu (h:=b) 0 E;have cm:=pG a b c 0;rw[lx];generalize cj a b c 0=e at*;obtain⟨h,f⟩:=e
 dsimp only at*
 have w:=lv h;cases f with
 |false=>refine aa ?_;rw[if_neg a9x];exact⟨_,U.a1,p,d,rfl,r⟩
 |true=>
  refine aa ?_;refine ai (sP h d T r a9w) ?_;rintro _ G ⟨A,B,x,g,rfl⟩;have y:=r.mono x.sub;have H:=g.len;refine aa ?_;refine bc (qZ h d G y a9w) ?_;refine aG (λi=> ?_) λi=> ?_
  .rw[if_pos ⟨rfl,a9w⟩];refine ai (sP h d G y a9w) ?_;rintro _ j ⟨l,m,n,q,rfl⟩;refine aa ?_;refine ai (uH a z C h.all.length h.all l m 0 j q W.all a9w a9w a9w) ?_;rintro v I ⟨s,t⟩;refine aa ?_;exact⟨_,U.a1,U.ar p (U.ar x.sub (U.ar n.sub s)),v,rfl,t.mono qY⟩
  .rw[if_neg a9w];exact⟨_,U.a1,U.ar p x.sub,d,rfl,y⟩
def a0h (a:UInt32):bn .mul (.int .u32 256) (.int .u32 a.toNat)=some (.int .u32 (256*a).toNat):=BR (x:=256) (y:=a)
def pH (a:UInt32):bn .sub (.int .u32 4294967295) (.int .u32 a.toNat)=some (.int .u32 (~~~a).toNat):=by
 have b:=BQ (x:=4294967295) (y:=a);have c:(4294967295) - a= ~~~a:=by apply UInt32.toNat_inj.1;rw[UInt32.toNat_sub,UInt32.toNat_not];have:=a.toNat_lt;simp;omega
 rw[c]at b;exact b
theorem sQ (a:UInt32):bn .quo (.int .u32 a.toNat) (.int .u32 8)=some (.int .u32 (a>>>3).toNat):=by have b:=a.toNat_lt;grind[Int.tdiv,Int.tdiv_eq_ediv_of_nonneg,UInt32.toNat_shiftRight,Nat.shiftRight_eq_div_pow,bn,ft,hF,qo]
theorem sR (a:UInt32):bn .quo (.int .u32 a.toNat) (.int .u32 1024)=some (.int .u32 (a>>>10).toNat):=by have b:=a.toNat_lt;grind[Int.tdiv,Int.tdiv_eq_ediv_of_nonneg,UInt32.toNat_shiftRight,Nat.shiftRight_eq_div_pow,bn,ft,hF,qo]
theorem mm (c:UInt32) (d:Int) (a:Nat) (r:0<a/\a<32) (h:d=((32 - a:Nat):Int)) (b:U):AC Tryz.prog 324 [.v (.int .u32 c.toNat),.v (.int .u64 d)] b λk o=>o=b/\k= .v (.int .u32 (rotl c a).toNat):=by
 subst h;have p:bn .sub (.int .u64 32) (.int .u64 ((32 - a:Nat)))=some (.int .u64 (a)):=by grind[bn,ft,hF,kv]
 refine bd hm Sd a9x ?_;simp -dsimp -implicitDefEqProofs (disch:=first|omega|assumption|(simp only[bk,Nat.reduceAdd];try omega)) only[↓s4,s5,al,ofConst,cS,simprocAttr,fY,aZ,ba,a6A,↓s8,s9,ne_eq,not_true_eq_false,not_false_eq_true,Int.reduceNe,a6F,a6R,p];refine⟨b,U.a1,rfl,?_⟩;simp only[rotl];rw[UInt32.or_comm]
def a0i (a:U):AC Tryz.prog 191 [] a λc d=> ∃b,a b=none/\c= .an b 64 64 1/\d=a.set b (.cells (wl mY)):=by refine bd hm P8 a9x ?_;simp -dsimp -implicitDefEqProofs (disch:=first|omega|assumption|(simp only[bk,Nat.reduceAdd];try omega)) only[↓s4,s5,al,ofConst,cS,simprocAttr,fY,aZ,ba,a6A,↓s8,s9,ne_eq,not_true_eq_false,not_false_eq_true,Int.reduceNe,a6F,a6R];refine eK (by simp[aS,R.cells]) a9x λh k=> ?_;simp -dsimp -implicitDefEqProofs (disch:=first|omega|assumption|(simp only[bk,Nat.reduceAdd];try omega)) only[↓s4,s5,al,ofConst,cS,simprocAttr,fY,aZ,ba,a6A,↓s8,s9,ne_eq,not_true_eq_false,not_false_eq_true,Int.reduceNe,a6F,a6R];refine⟨_,U.a1,h,k,rfl,?_⟩;rfl
variable{g B e0:List R}{h5:List UInt32}
def uL:(wl h5++g).length=h5.length+g.length:=by simp[wl]
theorem mn (a:e<h5.length):aX false 1 ((wl h5++g).drop e)= .v (.int .u32 (h5.getD e 0).toNat):=by grind[wl,aX,List.map_drop,List.drop_eq_getElem_cons,List.getD]
def pI (a:0<h5.length):aX false 1 (wl h5++g)= .v (.int .u32 (h5.getD 0 0).toNat):=mn (e:=0) a
theorem a0j (a:UInt32) (b:e<h5.length):putAt (wl h5++g) e [.v (.int .u32 a.toNat)]=wl (h5.set e a)++g:=by rw[<-Ct a b,putAt,putAt];grind[wl,eM,List.length_singleton]
def r2 (a:List UInt8) (b:Nat):Nat->UInt32
 |0=>0
 |c+1=>256*r2 a b c+(a.getD (4*b+c) 0).toUInt32
def yw (a b c:Nat) (d:b<2^c):a*2^c|||b=a*2^c+b:=by have:=a7A (a:=a) d;rw[a7j]at this;omega
def a0k (b a c d:Nat) (h:a<256) (k:c<256) (o:d<256):b*2^24|||a*2^16|||c*2^8|||d=((b*256+a)*256+c)*256+d:=by
 rw[yw b (a*2^16) 24 a9w,show b*2^24+a*2^16=(b*256+a)*2^16 by omega,yw (b*256+a) (c*2^8) 16 a9w,
  show(b*256+a)*2^16+c*2^8=((b*256+a)*256+c)*2^8 by omega,yw _ d 8 a9w]
 all_goals omega
def a0l (a b c d:UInt8):(256:UInt32)*((256:UInt32)*((256:UInt32)*((256:UInt32)*(0:UInt32)+a.toUInt32)+b.toUInt32)+c.toUInt32)+d.toUInt32=a.toUInt32<<<24|||b.toUInt32<<<16|||c.toUInt32<<<8|||d.toUInt32:=by
 have z:=a.toNat_lt;have h:=b.toNat_lt;have k:=c.toNat_lt;have o:=d.toNat_lt;apply UInt32.toNat_inj.1;have p:(a.toUInt32<<<24).toNat=a.toNat*2^24:=by rw[UInt32.toNat_shiftLeft];simp[a7j];omega
 have r:(b.toUInt32<<<16).toNat=b.toNat*2^16:=by rw[UInt32.toNat_shiftLeft];simp[a7j];omega
 have x:(c.toUInt32<<<8).toNat=c.toNat*2^8:=by rw[UInt32.toNat_shiftLeft];simp[a7j];omega
 have y:d.toUInt32.toNat=d.toNat:=a9x;rw[UInt32.toNat_or,UInt32.toNat_or,UInt32.toNat_or,p,r,x,y,a0k _ _ _ _ h k o];simp only[UInt32.toNat_add,UInt32.toNat_mul,UInt8.toNat_toUInt32,UInt32.reduceToNat];omega
def a0m (a:List UInt8) (b:Nat):r2 a b 4=word a b:=a0l _ _ _ _
def a0n (b:h5.length<64):ef (h5++ [0])=ef h5:=by have a:64 - h5.length=(64 -(h5.length+1))+1:=a9w;simp only[ef,a,a7h];simp
def a0o {b:UInt32} (a:UInt32) (c:e=h5.length) (d:h5.length<64):putAt (ef (h5++ [b])) e [.v (.int .u32 a.toNat)]=ef (h5++ [a]):=by subst c;simp[putAt,ef,a6t]
variable{n b3:R}
def EZ {v:List UInt32} (c:av f t 1 (wl v) n) (o:v≠ []): ∃a b d,n= .an a v.length b 1/\f a=none/\t a=some (.cells (wl v++d))/\v.length+d.length=b/\b<=maxLen:=by
 obtain⟨_,c|⟨a,C,b,p,rfl,r,x,y,h,k,D,z⟩⟩:=c
 .exact absurd (by simpa[wl] using c.1) o
 .simp only[a5K,eM]at y h k;subst k;refine⟨a,b,p.drop v.length,rfl,r,?_,?_,z⟩
  .rw[<-h,a5A];exact x
  .simp;omega
theorem a0p (r F:List UInt32) (y:List UInt8) (n:r.length=8) (a04:F.length=64) (D S:Nat) (k1:List R) (w A:Nat) (k6:List R) (L:Nat) (z:U)
  (k7:z D=some (.cells (wl r++k1))) (k8:z w=some (.cells k6)) (a52:A+64<=k6.length) (a05: ∀k9,k9<64->aX false 1 (k6.drop (A+k9))= .v (.int .u8 (y.getD k9 0).toNat)) (l0:z L=some (.cells (wl F))):
  AC Tryz.prog 273 [.an D 8 S 1,.bA w A 64 e 1,.an L 64 64 1] z λa06 E=>av z E 1 (wl (List.zipWith (·+ ·) (ix F (sched y) r) r)) a06:=by
 refine bd hm Ra a9x ?_;refine aE (c2 @aZ @ba) ?_;refine wQ (e:=64) a9w a9w λx k2=> ?_;have a07:D≠x:=by rintro rfl;rw[k2]at k7;cases k7
 have l5:w≠x:=by rintro rfl;rw[k2]at k8;cases k8
 have a08:L≠x:=by rintro rfl;rw[k2]at l0;cases l0
 have a09:(List.replicate 64 [R.v (.int .u32 0)]).flatten=ef (first y 0):=rfl;rw[a09];refine aE (c2 @aZ @ba) ?_;refine cr (λb E=> ∃a:Nat,a<=16/\E=z.set x (.cells (ef (first y a)))/\b 0= .an D 8 S 1/\b 1= .bA w A 64 e 1/\b 2= .an L 64 64 1/\b 7= .an x 64 64 1/\b 8= .v (.int .i64 a))
  (λb _=>match b 8 with| .v (.int _ d)=>(16 - d).toNat| _=>0) ⟨0,a9w,?_⟩ ?_
 .exact gT (c2 @aZ @ba)
 .rintro b _ ⟨a,l1,rfl,c,k3,h,k,k4⟩;have l2:(first y a).length=a:=by simp[first]
  by_cases o:(a:Int)<16
  .rw[<-a0n a9w];refine aE (bt @c @k3 @h @k @k4 @o @aZ @ba) ?_;refine cr (λb E=> ∃d:Nat,d<=4/\E=z.set x (.cells (ef (first y a++ [r2 y a d])))/\b 0= .an D 8 S 1/\b 1= .bA w A 64 e 1/\b 2= .an L 64 64 1/\b 7= .an x 64 64 1/\b 8= .v (.int .i64 a)/\b 9= .v (.int .i64 d))
    (λb _=>match b 9 with| .v (.int _ d)=>(4 - d).toNat| _=>0) ⟨0,a9w,?_⟩ ?_
   .refine aE (c6 @c @k3 @h @k @k4 @aZ @ba) ?_;rfl
   .rintro q _ ⟨d,a56,rfl,l6,l7,l8,l9,n0,n1⟩;by_cases n2:(d:Int)<4
    .have T:(ef (first y a++ [r2 y a d])).length=64:=sh (by simp[l2];omega);have a10:aX false 1 ((ef (first y a++ [r2 y a d])).drop a)= .v (.int .u32 (r2 y a d).toNat):=by grind[lg,List.getD]
     have l3:(4*(a)+(d:Int)).toNat=4*a+d:=a9w;have a11:=a05 (4*a+d) a9w;refine aE (wY @l6 @l7 @l8 @l9 @n0 @n1 @n2 @T @a10 @tG @l3 (U.af k8) (a5c l5) @l5 @a11 @a0h @aZ @ba) ?_;rw[a0o _ l2.symm a9w];exact⟨⟨d+1,a9w,rfl,a9x⟩,a9w⟩
    .obtain rfl:d=4:=a9w;refine aE (cf @l6 @l7 @l8 @l9 @n0 @n1 @k4 @n2 @aZ @ba) ?_;refine⟨⟨a+1,a9w,?_,a9x⟩,a9w⟩;rw[a0m];simp only[first,a8R,a5V,a5r,a6I]
  .obtain rfl:a=16:=a9w;refine aE (bt @c @k3 @h @k @k4 @o @aZ @ba) ?_;refine cr (λb E=> ∃(p:List UInt32) (a:Nat),a<=48/\p.length=16+a/\grow (48 - a) p=sched y/\b 0= .an D 8 S 1/\b 2= .an L 64 64 1/\b 7= .an x 64 64 1/\b 10= .v (.int .i64 ((16+a:Nat)))/\E=z.set x (.cells (ef p)))
    (λb _=>match b 10 with| .v (.int _ d)=>(64 - d).toNat| _=>0) ⟨first y 16,0,a9w,l2,rfl,?_⟩ ?_
   .exact gT (bs @c @k3 @h @k @aZ @ba)
    all_goals rfl
   .rintro b _ ⟨p,a,l1,B,H,c,h,k,s,rfl⟩;by_cases o:((16+a:Nat):Int)<64
    .have T:(ef p).length=64:=sh a9w;have I:(((16+a:Nat):Int) - 15).toNat=a+1:=a9w;have K:(((16+a:Nat):Int) - 2).toNat=a+14:=a9w;have M:(((16+a:Nat):Int) - 16).toNat=a:=a9w;have N:(((16+a:Nat):Int) - 7).toNat=a+9:=a9w;refine aE (p8 @c @h @k @s @o @I @K @M @N @T @lg @sQ @sR @aZ @ba) ?_;refine ai (mm _ _ 25 a9A a9A _) ?_;rintro _ _ ⟨rfl,rfl⟩;refine aE (p8 @c @h @k @s @o @I @K @M @N @T @lg @sQ @sR @aZ @ba) ?_;refine ai (mm _ _ 14 a9A a9A _) ?_;rintro _ _ ⟨rfl,rfl⟩;refine aE (p8 @c @h @k @s @o @I @K @M @N @T @lg @sQ @sR @aZ @ba) ?_;refine ai (mm _ _ 15 a9A a9A _) ?_;rintro _ _ ⟨rfl,rfl⟩;refine aE (p8 @c @h @k @s @o @I @K @M @N @T @lg @sQ @sR @aZ @ba) ?_;refine ai (mm _ _ 13 a9A a9A _) ?_;rintro _ _ ⟨rfl,rfl⟩;refine aE (p8 @c @h @k @s @o @I @K @M @N @T @lg @sQ @sR @aZ @ba) ?_;rw[x7 _ B.symm a9w];refine⟨⟨_,a+1,a9w,by simp[B];omega,?_,?_,rfl⟩,a9w⟩
     .rw[<-H,show 48 - a=(48 -(a+1))+1 by omega,grow,more,B];rw[show 16+a - 16=a by omega,show 16+a - 15=a+1 by omega,show 16+a - 7=a+9 by omega,show 16+a - 2=a+14 by omega];rfl
     .simp;omega
    .obtain rfl:a=48:=a9w;have a13:p=sched y:=H;have a14:ef p=wl p:=by simp[ef,B,wl]
     rw[a14];clear H;generalize sched y=a57 at*;subst a13;have a15:bN (z.set x (.cells (wl p))) 1 (.an D 8 S 1)=some (8,wl r):=by simp_all [U.ao,eM,bN,U.af]
     refine aE (bt @c @h @k @s @o @o3 @aZ @ba) ?_;refine fj (av.zero U.a1) a9w a15 (by rw[eM,n]) (by rw[eM,n];simp) (by rw[eM,n];simp) λa61 P t=> ?_;rw[a5m]at t;refine aE (bm @c @h @k @aZ @ba) ?_;have V:(wl F).length=64:=by rw[eM,a04]
     have W:(wl p).length=64:=by rw[eM,B]
     have a16:(z.set x (.cells (wl p))) L=some (.cells (wl F)):=by rw[U.ao _ _ a08];exact l0
     have a18:(z.set x (.cells (wl p))) x=some (.cells (wl p)):=U.ag _ _ _;have l4:(z.set x (.cells (wl p))) D=some (.cells (wl r++k1)):=by rw[U.ao _ _ a07];exact k7
     have n3:z.sub (z.set x (.cells (wl p))):=U.ae U.a1 k2;generalize z.set x (.cells (wl p))=a19 at*;refine cr (λb E=> ∃(a:Nat) (v:List UInt32),a<=64/\v.length=8/\ix (F.drop a) (p.drop a) v=ix F p r/\av a19 E 1 (wl v) (b 13)/\b 0= .an D 8 S 1/\b 2= .an L 64 64 1/\b 7= .an x 64 64 1/\b 14= .v (.int .i64 a))
      (λb _=>match b 14 with| .v (.int _ d)=>(64 - d).toNat| _=>0) ⟨0,r,a9w,n,rfl,?_⟩ ?_
     .refine aE (bm @c @h @k @aZ @ba) ?_;exact t
     clear t;rintro b P ⟨a,v,l1,u,H,t,c,h,k,G⟩;have f:=t.1;obtain⟨k5,n4,O,C,n5,lZ,a27,a29⟩:=EZ t (by intro g;rw[g]at u;cases u);rw[u]at C a27;by_cases o:(a:Int)<64
     .obtain⟨Q,X,Y,Z,g,j9,q,k0,rfl⟩: ∃Q X Y Z g j9 q k0,v= [Q,X,Y,Z,g,j9,q,k0]:=by
       match v,u with
       | [Q,X,Y,Z,g,j9,q,k0],_=>simp
      have i:(wl [Q,X,Y,Z,g,j9,q,k0]++O).length=8+O.length:=by rw[uL,u]
      have j:=U.af lZ;have l:=U.af (f _ _ a18);have m:=U.af (f _ _ a16);refine aE (o4 @c @h @k @C @G @o @i @j @l @m @mn @pI @ht @V @W @pH @a5B.{0} @a5F.{0} @aZ @ba) ?_;refine ai (mm _ _ 26 a9A a9A _) ?_;rintro _ P ⟨rfl,rfl⟩;refine aE (o4 @c @h @k @C @G @o @i @j @l @m @mn @pI @ht @V @W @pH @a5B.{0} @a5F.{0} @aZ @ba) ?_;refine ai (mm _ _ 21 a9A a9A _) ?_;rintro _ P ⟨rfl,rfl⟩;refine aE (o4 @c @h @k @C @G @o @i @j @l @m @mn @pI @ht @V @W @pH @a5B.{0} @a5F.{0} @aZ @ba) ?_;refine ai (mm _ _ 7 a9A a9A _) ?_;rintro _ P ⟨rfl,rfl⟩;refine aE (o4 @c @h @k @C @G @o @i @j @l @m @mn @pI @ht @V @W @pH @a5B.{0} @a5F.{0} @aZ @ba) ?_;refine ai (mm _ _ 30 a9A a9A _) ?_;rintro _ P ⟨rfl,rfl⟩;refine aE (o4 @c @h @k @C @G @o @i @j @l @m @mn @pI @ht @V @W @pH @a5B.{0} @a5F.{0} @aZ @ba) ?_;refine ai (mm _ _ 19 a9A a9A _) ?_;rintro _ P ⟨rfl,rfl⟩;refine aE (o4 @c @h @k @C @G @o @i @j @l @m @mn @pI @ht @V @W @pH @a5B.{0} @a5F.{0} @aZ @ba) ?_;refine ai (mm _ _ 10 a9A a9A _) ?_;rintro _ P ⟨rfl,rfl⟩;refine aE (o4 @c @h @k @C @G @o @i @j @l @m @mn @pI @ht @V @W @pH @a5B.{0} @a5F.{0} @aZ @ba) ?_;refine eK (by simp[aS,R.cells]) a9x λa30 n9=> ?_;refine aE (bs @c @h @k @G @aZ @ba) ?_;refine⟨⟨a+1,si (F.getD a 0) (p.getD a 0) [Q,X,Y,Z,g,j9,q,k0],a9w,rfl,?_,?_,a9x⟩,a9w⟩;grind[Cx]
      .exact⟨U.ae f (U.bI f n9),.inr ⟨a30,8,8,_,rfl,U.bI f n9,U.ag _ _ _,rfl,rfl,rfl,a9w,a9A⟩⟩
     .obtain rfl:a=64:=a9w;have a34:ix F p r=v:=by rw[<-H,a6p a9w];rfl
      refine aE (bt @c @h @k @C @G @o @aZ @ba) ?_;have a00:D≠k5:=by rintro rfl;rw[n5]at l4;cases l4
      have a01:=U.bI n3 n5;have a36:=f _ _ l4;refine cr (λb E=> ∃a:Nat,a<=8/\b 0= .an D 8 S 1/\b 13= .an k5 8 n4 1/\b 19= .v (.int .i64 a)/\E=P.set k5 (.cells (wl (jM a v r)++O)))
       (λb _=>match b 19 with| .v (.int _ d)=>(8 - d).toNat| _=>0) ⟨0,a9w,?_⟩ ?_
      .have l3:jM 0 v r=v:=rfl;rw[l3,U.pg lZ];exact gT (aJ @c @C @aZ @ba)
      .rintro b _ ⟨a,l1,c,C,a02,rfl⟩;by_cases o:(a:Int)<8
       .obtain⟨a38,a42⟩:=Cv v r u n a a9w;have a43:(wl (jM a v r)++O).length=8+O.length:=by rw[uL,a38]
        have a47:(wl r++k1).length=8+k1.length:=by rw[uL,n]
        refine aE (gk @c @C @a02 @o @a43 @a47 @mn @a0j @a42 (U.af a36) @a00 (a5c a00) @aZ @ba) ?_;grind
       .obtain rfl:a=8:=a9w;have a48:jM 8 v r=List.zipWith (·+ ·) v r:=by grind[jM,List.take_of_length_le,List.drop_of_length_le]
        have a03:(wl (List.zipWith (·+ ·) v r)).length=8:=by rw[eM];simp;omega
        rw[a48];refine aE (bs @c @C @a02 @o @aZ @ba) ?_;rw[a34];refine⟨_,U.a1,U.ae (U.ar n3 f) a01,.inr ⟨k5,8,n4,_,rfl,a01,U.ag _ _ _,?_,?_,by rw[a03],a9w,a29⟩⟩
        .rw[a4V,a03];omega
        simp_all
def a0q (b:List UInt32) (h:List UInt8) (z:b.length=8) (k x:Nat) (y:List R) (o c:Nat) (d:List R) (p:Nat) (a:U)
  (C:a k=some (.cells (wl b++y))) (D:a o=some (.cells d)) (E:c+64<=d.length) (F: ∀r,r<64->aX false 1 (d.drop (c+r))= .v (.int .u8 (h.getD r 0).toNat)) (G:a p=some (.cells (wl mY))):
  AC Tryz.prog 273 [.an k 8 x 1,.bA o c 64 e 1,.an p 64 64 1] a λL P=>av a P 1 (wl (comp b h)) L:=
 a0p b mY h z rfl k x y o c d p a C D E F G
end Go.Proofs.YtlgnfcaolejgeaaGreat
namespace Go.bz
open Go
variable{n b3:R}{f t e4:U}{e i v O b8 j0:Nat}
theorem yx {h:Nat×List R} (k:f.sub t) (o:bN f e n=some h):bN t e n=some h:=by
 have p: ∀b c,f.read b=some c->t.read b=some c:=by
  intro b c a;unfold U.read at a|-;cases d:f b with
  |none=>rw[d]at a;cases a
  |some r=>rw[k _ _ d];rw[d]at a;exact a
 unfold bN at o|-;grind
end Go.bz
namespace Go.Proofs.YtlgnfcaolejgeaaGreat
open Go Go.bz
def kJ (a:List UInt8):List UInt8:=a++128::List.replicate (eg a.length) 0++cx (8*a.length)
def yy (a:List UInt8):(kJ a).length=a.length+9+eg a.length:=by simp[kJ,cx];omega
def a0r (a:List UInt8):(kJ a).length%64=0:=by rw[yy];unfold eg;omega
theorem a0s (a:List UInt8):ff a=eh (blocks ((kJ a).length/64) gm (kJ a)):=by
 have c:=yy a;have d:eg a.length<64:=by unfold eg;omega
 have b:kJ a=a++(128::List.replicate (eg a.length) 0++cx (8*a.length)):=by simp[kJ]
 have h:jc a.length (a.drop (64*(a.length/64)))=(kJ a).drop (64*(a.length/64)):=by rw[b,a6x a9w];simp[jc]
 have k:(kJ a).length/64=a.length/64+((kJ a).drop (64*(a.length/64))).length/64:=by rw[a5k];omega
 grind[ff,CB,CC]
theorem F0 (b a:Nat) (d:a<8):(cx b).take a++ [UInt8.ofNat (b>>>(56 - 8*a)%256)]=(cx b).take (a+1):=by
 have c:UInt8.ofNat (b>>>(56 - 8*a)%256)=UInt8.ofNat (b>>>(56 - 8*a)):=by grind[UInt8.toNat_inj,UInt8.toNat_ofNat']
 rw[c];rcases(by omega:a=0\/a=1\/a=2\/a=3\/a=4\/a=5\/a=6\/a=7)with rfl|rfl|rfl|rfl|rfl|rfl|rfl|rfl<;>rfl
def yi (a:UInt32) (b:Nat):UInt8.ofNat ((a>>>UInt32.ofNat b).toNat%256)=(a>>>UInt32.ofNat b).toUInt8:=by apply a5P.1;rw[a6b];simp
theorem a0t (c:List UInt32) (k:c.length=8) (d:Nat) (p:d<32):(eh c).take d++ [UInt8.ofNat ((c.getD (d/4) 0>>>UInt32.ofNat (24 - 8*(d%4))).toNat%256)]=(eh c).take (d+1):=by
 rw[yi];have o: ∀h:UInt32,(h>>>UInt32.ofNat 0).toUInt8=h.toUInt8:=by intro h;simp
 have r: ∀a:Nat,a<8-> ∀b:Nat,b<4->(eh c).take (4*a+b)++ [(c.getD a 0>>>UInt32.ofNat (24 - 8*b)).toUInt8]=(eh c).take (4*a+b+1):=by
  match c,k with
  | [x,y,z,C,D,E,F,G],_=>
   intro a L b P;rcases(by omega:a=0\/a=1\/a=2\/a=3\/a=4\/a=5\/a=6\/a=7)with rfl|rfl|rfl|rfl|rfl|rfl|rfl|rfl<;>
    rcases(by omega:b=0\/b=1\/b=2\/b=3)with rfl|rfl|rfl|rfl<;>first|rfl|(simp only[a5B,a5F,Nat.reduceMul,Nat.reduceSub,o];rfl)
 grind
variable{f t e4:U}{e i v O b8 j0:Nat}
def uM {a:UInt8}:bN (f.set e (.cells (flat [.v (.int .u8 (a.toNat:Int))]))) 1 (.an e 1 1 1)=some ([a].length,[a].map ak):=by simp[bN,U.af (U.ag _ _ _),flat,R.cells,ak]
variable{g B e0:List R}{w:List UInt8}
theorem a0u (a:g.take w.length=w.map ak) (b:e<w.length):aX false 1 (g.drop e)= .v (.int .u8 (w.getD e 0).toNat):=by grind[ak,List.take_append_drop,List.drop_eq_getElem_cons,aX,List.getD]
def a0v (a:UInt32):bn .rem (.int .u32 (a.toNat:Int)) (.int .u32 256)=some (.int .u32 ((a.toNat%256:Nat):Int)):=by have b:bn .rem (.int .u32 (a.toNat)) (.int .u32 256)=(if(256:Int)=0 then none else some (.int .u32 ((a.toNat:Int).tmod 256))):=rfl;rw[b,if_neg a9A];rfl
variable{n b3:R}
theorem yz {v:List UInt8} (d:av f t 1 (v.map ak) n) (h:v≠ []): ∃a b c,n= .an a v.length b 1/\f a=none/\t a=some (.cells c)/\c.length=b/\c.take v.length=v.map ak/\v.length<=b:=by
 obtain⟨_,d|⟨a,k,b,c,rfl,o,p,r,x,y,z,C⟩⟩:=d
 .simp_all
 grind
theorem a0w (F:List UInt32) (k0:F=gm) (a:List UInt8) (a38:a.length<=1000000000) (W:R) (V:Nat) (G:U) (n5:bN G 1 W=some (a.length,a.map ak)) (n9:ez W=some (.v (.int .i64 a.length))) (a00:G V=some (.cells (wl mY))):
  AC Tryz.prog 190 [W,.an V 64 64 1] G λa01 D=>D=G/\a01=cv (ff a):=by
 refine bd hm P6 a9x ?_;refine aj (c2 @aZ @ba) ?_;refine aN λE m=> ?_;have a02:=yx (U.ae (U.a1) m) n5 (t:=G.set E (.cells (List.replicate 32 (.v (.int .u8 0)))));have a03:=U.ae (U.a1) m (Y:= .cells (List.replicate 32 (.v (.int .u8 0)))) _ _ a00;have a04:=U.ae (U.a1) m (Y:= .cells (List.replicate 32 (.v (.int .u8 0))));have a05:(G.set E (.cells (List.replicate 32 (.v (.int .u8 0))))) E=some (.cells (List.replicate 32 (.v (.int .u8 0)))):=U.ag _ _ _;refine aj (aH @o3 @aZ @ba) ?_;generalize G.set E (.cells (List.replicate 32 (.v (.int .u8 0))))=w at*;refine qX (c:= []) (av.zero U.a1) a02 a9y λcd a42 A=> ?_;rw[a5m]at A;refine aj (c2 @aZ @ba) ?_;refine eK (by simp[aS,R.cells]) a9x λk1 e=> ?_;refine aj (c2 @aZ @ba) ?_;refine qX (A.mono (U.ae U.a1 e)) (uM (a:=128)) a9y λca P y=> ?_;refine aj (c2 @aZ @ba) ?_;have a43:eg a.length<64:=by unfold eg;omega
 refine cr (λb D=> ∃c:Nat,c<=eg a.length/\av w D 1 ((a++128::List.replicate c 0).map ak) (b 5)/\b 0=W/\b 1= .an V 64 64 1/\b 4= .ptr E 0)
  (λb _=>match b 5 with| .an _ S _ _=>eg a.length+a.length+1 - S| _=>0) ⟨0,a9w,?_⟩ ?_
 .refine aj (c2 @aZ @ba) ?_;exact y
 .clear y A;rintro b P ⟨c,k2,y,x,h,d⟩;obtain⟨f,n,k3,p,k4,B,k5,H,k6⟩:=yz y a9x;have I:(a++128::List.replicate c 0).length=a.length+1+c:=a9y;rw[I]at p;by_cases L:c<eg a.length
  .have q: ¬(Int.tmod ((a.length+1+c:Nat):Int) 64=56):=by have:Int.tmod ((a.length+1+c:Nat)) 64=(((a.length+1+c)%64)):=rfl;rw[this];unfold eg at L;omega
   refine aj (c6 @x @h @d @p @q @aZ @ba) ?_;refine eK (by simp[aS,R.cells]) a9x λk1 e=> ?_;refine aj (c6 @x @h @d @p @q @aZ @ba) ?_;rw[<-p];refine qX (y.mono (U.ae U.a1 e)) (uM (a:=0)) a9y λde k7 K=> ?_;refine aj (bs @x @h @d @p @aZ @ba) ?_;have M:a++128::List.replicate c 0++ [0]=a++128::List.replicate (c+1) 0:=by rw[a9g];simp
   rw[M]at K;obtain⟨a47,a48,a52,rfl,_⟩:=yz K a9x;grind
  .obtain rfl:c=eg a.length:=a9w;have q:(Int.tmod ((a.length+1+eg a.length:Nat):Int) 64=56):=by have:Int.tmod ((a.length+1+eg a.length:Nat)) 64=(((a.length+1+eg a.length)%64)):=rfl;rw[this];unfold eg;omega
   have a06:IntKind.u64.wrap (8*IntKind.u64.wrap (a.length))=((8*a.length:Nat)):=by rw[kv,kv];omega
   rw[<-I]at p;refine aj (cf @x @h @d @p @I @q @n9 @a06 @aZ @ba) ?_;rw[<-p]at*;refine cr (λb D=> ∃c:Nat,c<=8/\av w D 1 ((a++128::List.replicate (eg a.length) 0++(cx (8*a.length)).take c).map ak) (b 5)/\b 0=W/\b 1= .an V 64 64 1/\b 4= .ptr E 0/\b 6= .v (.int .u64 ((8*a.length:Nat)))/\b 7= .v (.int .i64 c))
    (λb _=>match b 7 with| .v (.int _ S)=>(8 - S).toNat| _=>0) ⟨0,a9w,?_⟩ ?_
   .refine aj (bm @x @h @d @aZ @ba) ?_;simp_all
   .clear k4 B k5 H k6 x h d p y;rintro b P ⟨c,k2,y,x,h,d,g,i⟩;have a56:=F0 (8*a.length) c;by_cases L:(c:Int)<8
    .have a07:IntKind.u64.wrap (56 - 8*(c))=((56 - 8*c:Nat)):=by rw[kv];omega
     have k8:=yh ((8*a.length)>>>(56 - 8*c)) 256 a9w;have a08:((256:Nat):Int)=256:=rfl;rw[a08]at k8;refine aj (gj @x @h @d @g @i @L @a07 @k8 @hK @aZ @ba) ?_;refine eK (by simp[aS,R.cells]) a9x λk1 e=> ?_;refine aj (c6 @x @h @d @g @i @aZ @ba) ?_;refine qX (y.mono (U.ae U.a1 e)) uM (by simp[cx];omega) λde k7 K=> ?_;refine aj (c6 @x @h @d @g @i @aZ @ba) ?_;grind
    .obtain rfl:c=8:=a9w;have a09:(cx (8*a.length)).take 8=cx (8*a.length):=rfl;rw[a09]at y;refine aj (bt @x @h @d @g @i @L @aZ @ba) ?_;refine eK (by simp[aS,R.cells]) a9x λs k9=> ?_;have l0:flat [R.v (Value.int IntKind.u32 1779033703),R.v (Value.int IntKind.u32 3144134277),R.v (Value.int IntKind.u32 1013904242),R.v (Value.int IntKind.u32 2773480762),R.v (Value.int IntKind.u32 1359893119),R.v (Value.int IntKind.u32 2600822924),R.v (Value.int IntKind.u32 528734635),R.v (Value.int IntKind.u32 1541459225)]=wl gm:=rfl;rw[l0];have a57:=yy a;have a61:=a0r a;have l1:av w P 1 ((kJ a).map ak) (b 5):=y;obtain⟨f,n,k3,p,k4,B,k5,H,k6⟩:=yz l1 (by grind);have N:=y.1;have O:=a0s a;have l2:av P (P.set s (.cells (wl gm))) 1 (wl gm) (.an s 8 8 1):=⟨U.ae U.a1 k9,.inr ⟨s,8,8,_,rfl,k9,U.ag _ _ _,rfl,rfl,rfl,a9w,a9A⟩⟩;have l3:gm.length=8:=rfl;generalize P.set s (.cells (wl gm))=k7 at*;rw[<-k0]at l2 O l3;clear k0 l0;generalize a10:kJ a=r at*;clear y l1 a10;refine aj (bs @x @h @d @p @aZ @ba) ?_;refine cr (λb D=> ∃k:Nat,k<=r.length/64/\av P D 1 (wl (blocks k F r)) (b 8)/\b 1= .an V 64 64 1/\b 4= .ptr E 0/\b 5= .an f r.length n 1/\b 9= .v (.int .i64 ((64*k:Nat))))
      (λb _=>match b 9 with| .v (.int _ S)=>(r.length - S).toNat| _=>0) ⟨0,a9w,?_⟩ ?_
     .refine aj (bm @h @d @p @aZ @ba) ?_;exact l2
     .clear x h d p g i;rintro b l4 ⟨k,a62,Q,h,d,p,j⟩;have T:(blocks k F r).length=8:=pf _ _ _ l3;obtain⟨X,l5,Y,z,a63,t,a65,a68⟩:=EZ Q (by intro M;rw[M]at T;cases T);rw[T]at z;have l:=Q.1;by_cases L:k<r.length/64
      .have Z:((64*k:Nat))<(r.length:Int):=a9w;have a11:dI 1 (.an f r.length n 1) (some (.v (.int .i64 ((64*k:Nat))))) (some (.v (.int .i64 (((64*k:Nat))+64))))=some (.bA f (64*k) 64 (n - 64*k) 1):=by have l6:(((64*k):Int)+64).toNat=64*k+64:=a9w;simp only[dI,cF,Go.bz.intOf,qc];grind
       refine aj (cU @h @d @p @z @j @Z @a11 @aZ @ba) ?_;have a13:=u1 k F r;refine ai (a0q (blocks k F r) ((r.drop (64*k)).take 64) T X l5 Y f (64*k) k3 V l4 t (l _ _ B) a9w ?_ (l _ _ (N _ _ a03))) ?_
       .intro c k2;rw[a0u H a9w];simp_all
       rintro hc a69 l7;refine aj (c6 @h @d @p @z @j @aZ @ba) ?_;rw[<-a13]at l7;exact⟨⟨k+1,a9w,l7.base l,a9y⟩,a9w⟩
      .have Z: ¬((64*k:Nat))<(r.length:Int):=a9w;obtain rfl:k=r.length/64:=a9w;refine aj (bt @h @d @p @z @j @Z @aZ @ba) ?_;refine aN λu j9=> ?_;have l8:X≠u:=by rintro rfl;rw[j9]at t;cases t
       have v:=l _ _ (N _ _ a05);have l9:E≠u:=by rintro rfl;rw[j9]at v;cases v
       have a14:=a0t (blocks (r.length/64) F r) T;have a15:(eh (blocks (r.length/64) F r)).length=32:=by rw[u4,T]
       rw[O];clear O Q;generalize blocks (r.length/64) F r=C at*;have a16:(wl C++Y).length=8+Y.length:=by rw[uL,T]
       refine aj (c6 @h @d @p @z @j @aZ @ba) ?_;refine cr (λb D=> ∃o:Nat,o<=32/\D=l4.set u (.cells (hQ ((eh C).take o)))/\b 8= .an X 8 l5 1/\b 10= .ptr u 0/\b 4= .ptr E 0/\b 11= .v (.int .i64 o))
        (λb _=>match b 11 with| .v (.int _ S)=>(32 - S).toNat| _=>0) ⟨0,a9w,?_⟩ ?_
       .refine aj (aJ @d @z @aZ @ba) ?_;rfl
       .clear h d p z j;rintro b _ ⟨o,a71,rfl,z,n0,d,n1⟩;have a18:((eh C).take o).length=o:=a9y;have n2:(hQ ((eh C).take o)).length=32:=u3 a9w;by_cases L:(o:Int)<32
        .have l6:IntKind.i64.wrap ((o:Int).tdiv 4)=((o/4:Nat)):=by have:(o:Int).tdiv 4=((o/4:Nat)):=rfl;rw[this,wrap_i64 a9w a9w]
         have a19:(o:Int).tmod 4=((o%4:Nat)):=rfl;have a27:IntKind.u64.wrap (24 - 8*((o%4:Nat)))=((24 - 8*(o%4):Nat)):=by rw[kv];omega
         have a29:o/4<8:=a9w;have a30:((o/4:Nat))<((8:Nat):Int):=a9w;refine aj (o4 @z @n0 @d @n1 @L @l6 @a19 @a27 @a30 @a29 @a16 @n2 (U.af t) @l8 (a5c l8) @mn @a0v @hK @aZ @ba) ?_;rw[xe _ a18.symm a9w,a14 o a9w];grind
        .obtain rfl:o=32:=a9w;refine aj (gU @z @n0 @d @n1 @L @n2 @l9 (a5c l9) (U.af v) (U.aI v) @aZ @ba) ?_;have a34:(eh C).take 32=eh C:=a4U a9w;have a36:hQ (eh C)=(eh C).map ak:=by simp[hQ,a15]
         have n3:((eh C).map ak).take 32=(eh C).map ak:=a4U a9y;rw[a34,a36,n3,n3];refine⟨G,?_,rfl,rfl⟩;have n4:=U.ar a04 (U.ar N l);exact U.ae (U.ae n4 (U.bI n4 j9)) m
def a0x (a:List UInt8) (h:a.length<=1000000000) (c:R) (d:Nat) (b:U) (k:bN b 1 c=some (a.length,a.map ak)) (o:ez c=some (.v (.int .i64 a.length))) (p:b d=some (.cells (wl mY))):
  AC Tryz.prog 190 [c,.an d 64 64 1] b λr x=>x=b/\r=cv (ff a):=a0w gm rfl a h c d b k o p
def F1 (a:List UInt8) (r:a.length<=1000000000) (c:R) (b:U) (x:bN b 1 c=some (a.length,a.map ak)) (y:ez c=some (.v (.int .i64 a.length))):
  AC Tryz.prog 123 [c] b λz C=>C=b/\z=cv (ff a):=by
 refine bd hm MZ a9x ?_;refine aj (c2 @aZ @ba) ?_;refine aN λD d=> ?_;refine aj (c2 @aZ @ba) ?_;refine ai (a0i _) ?_;rintro _ _ ⟨h,E,rfl,rfl⟩;obtain⟨k,o⟩:=U.gH E;refine aj (c2 @aZ @ba) ?_;have F:b.sub ((b.set D (.cells (List.replicate 32 (.v (.int .u8 0))))).set h (.cells (wl mY))):=U.ae (U.ae U.a1 d) o;refine ai (a0x a r c h _ (yx F x) y (U.ag _ _ _)) ?_;rintro _ _ ⟨rfl,rfl⟩;have p:((ff a).map ak).length=32:=by rw[a5f,mc]
 have G:cv (ff a)= .agg ((ff a).map ak):=rfl;have L:((ff a).map ak).take 32=(ff a).map ak:=a4U a9w;rw[G];have P:putAt (List.replicate 32 (R.v (.int .u8 0))) 0 ((ff a).map ak)=(ff a).map ak:=by rw[putAt,p];simp
 refine aj (c6 @p @L @P @k (a5c k) @aZ @ba) ?_;exact⟨b,U.ae (U.ae U.a1 d) o,rfl⟩
def a0y {a:UInt8} (b:f e=none):av f (f.set e (.cells (flat [.v (.int .u8 (a.toNat:Int))]))) 1 ([a].map ak) (.an e 1 1 1):=
 ⟨U.ae U.a1 b,.inr ⟨e,1,1,_,rfl,b,U.ag _ _ _,rfl,rfl,rfl,a9w,a9A⟩⟩
theorem a0z (k:UInt8) (b:List (R×List UInt8)) (x:R) (i:Nat) (r:U) (j:ez x=some (.v (.int .i64 b.length)))
  (l: ∀o:Nat,o<b.length->cL 1 x (.v (.int .i64 o))=some (.ptr i o))
  (B: ∀o (k1:o<b.length),∃y,r i=some (.cells y)/\o<y.length/\aX false 1 (y.drop o)=b[o].1)
  (H: ∀a∈b,bN r 1 a.1=some (a.2.length,a.2.map ak)/\ez a.1=some (.v (.int .i64 a.2.length)))
  (I:(preB k (b.map (·.2))).length<=1000000):
  AC Tryz.prog 192 [.v (.int .u8 (k.toNat:Int)),x] r λK z=>av r z 1 ((preB k (b.map (·.2))).map ak) K:=by
 refine bd hm Pa a9x ?_;refine aE (c2 @aZ @ba) ?_;refine eK (by simp[aS,R.cells]) a9x λM T=> ?_;refine aE (c2 @aZ @ba) ?_;have m:=a0y (a:=k) T;refine cr (λc z=> ∃a C:List (R×List UInt8),b=a++C/\av r z 1 ((preB k (a.map (·.2))).map ak) (c 5)/\c 1=x/\c 6= .v (.int .i64 a.length))
  (λc _=>match c 6 with| .v (.int _ V)=>(b.length - V).toNat| _=>0) ⟨[],b,rfl,?_⟩ ?_
 .refine aE (c2 @aZ @ba) ?_;exact m
 .clear m;rintro c k2 ⟨a,C,p,W,e,D⟩;cases C with
  |nil=>
   have P:b.length=a.length:=by rw[p];simp
   rw[a5Z]at p;have f: ¬(a.length)<(b.length:Int):=a9w;refine aE (bs @e @D @j @f @aZ @ba) ?_;rw[p];exact⟨_,U.a1,W⟩
  |cons N C=>
   obtain⟨g,d⟩:=N;have P:a.length<b.length:=by rw[p];simp
   have f:(a.length)<(b.length:Int):=a9w;have O:b[a.length]=(g,d):=by subst p;simp
   obtain⟨y,n,c2,aH⟩:=B a.length P;rw[O]at aH;obtain⟨q,s⟩:=H (g,d) (by rw[p];simp);simp only at q s aH;have k3:(preB k (a.map (·.2))).length+8+d.length<=1000000:=by refine a5R ?_ I;rw[p];simp[preB,chunk,cx];omega
   have Q:=xa k (b.map (·.2));rw[a5f]at Q;have t:a.length+1<=y.length:=a9w;have u:=W.1;simp -dsimp -implicitDefEqProofs (disch:=first|omega|assumption|(simp only[bk,Nat.reduceAdd];try omega)) only[go_sem,simprocAttr,aZ,ba,e,D,j,f,l _ P,U.af (u _ _ n),t,aH,s];refine cr (λc z=> ∃h:Nat,h<=8/\av r z 1 ((preB k (a.map (·.2))++(cx d.length).take h).map ak) (c 5)/\c 1=x/\c 6= .v (.int .i64 a.length)/\c 7= .v (.int .u64 (d.length:Int))/\c 8= .v (.int .i64 h))
    (λc _=>match c 8 with| .v (.int _ V)=>(8 - V).toNat| _=>0) ⟨0,a9w,?_⟩ ?_
   .refine aE (aJ @e @D @aZ @ba) ?_;simp_all
   .clear W u;rintro k4 k5 ⟨h,k6,S,E,F,G,L⟩;have k7:=F0 d.length h;by_cases v:(h:Int)<8
    .have X:IntKind.u64.wrap (56 - 8*(h))=((56 - 8*h:Nat)):=by rw[kv];omega
     have w:=yh (d.length>>>(56 - 8*h)) 256 a9w;have Y:((256:Nat):Int)=256:=rfl;rw[Y]at w;refine aE (cf @E @F @G @L @v @X @w @hK @aZ @ba) ?_;refine eK (by simp[aS,R.cells]) a9x λM T=> ?_;refine aE (bs @E @F @G @L @aZ @ba) ?_;refine qX (S.mono (U.ae U.a1 T)) uM (by simp[cx];omega) λde Z j9=> ?_;refine aE (bs @E @F @G @L @aZ @ba) ?_;grind
    .obtain rfl:h=8:=a9w;have k0:(cx d.length).take 8=cx d.length:=rfl;rw[k0]at S;have A:=S.1;simp -dsimp -implicitDefEqProofs (disch:=first|omega|assumption|(simp only[bk,Nat.reduceAdd];try omega)) only[go_sem,simprocAttr,aZ,ba,E,F,G,L,D,v,l _ P,U.af (A _ _ n),t,aH];refine qX S (yx A q) (by simp[cx];omega) λde Z j9=> ?_;refine aE (c6 @E @F @G @L @D @aZ @ba) ?_;refine⟨⟨a++ [(g,d)],C,by simp[p],?_,a9x⟩,a9w⟩;grind[preB,cx,chunk]
theorem a0A (h:UInt8) (b:List (R×List UInt8)) (k:Nat) (c:U) (o:c k=some (.cells (b.map (·.1))))
  (p: ∀a∈b,av c c 1 (a.2.map ak) a.1\/(bN c 1 a.1=some (a.2.length,a.2.map ak)/\ez a.1=some (.v (.int .i64 a.2.length))))
  (r:(preB h (b.map (·.2))).length<=1000000):
  AC Tryz.prog 192 [.v (.int .u8 (h.toNat:Int)),.an k b.length b.length 1] c λx y=>av c y 1 ((preB h (b.map (·.2))).map ak) x:=by
 refine a0z h b _ k c rfl ?_ ?_ ?_ r;grind[jG]
 .intro C d;refine⟨_,o,by simpa using d,?_⟩;rw[a5s (by simpa using d),a8L];rfl
 .intro a z;rcases p a z with d|d
  .obtain⟨D,E,F,G⟩:=d.src;simp_all
  .exact d
theorem F2 (d:ay) (x y z:Own) (C:U) (T:d.sum.length=32) (V:d.gq) (W:d.cz):
  AC Tryz.prog 67 [.agg (ab d x y z)] C λo b=>eC C b (dL d) o:=by
 have G:=(aW (M:=x) (e6:=y) (h4:=z) T).all;generalize ab d x y z=L at*;obtain⟨q,s,t⟩:=W;refine aM hm Lk ?_;obtain⟨_,_,_,e,u,f,v⟩:=V;obtain⟨g,i⟩:=a6r e;obtain⟨j,l⟩:=a6r f;refine bo λD m=> ?_;generalize E:C.set D (.ro L)=P;have n:=E▸U.ae U.a1 m;have S:=E▸U.ag _ _ _;have w: ∀b,P.sub b->b.read D=some L:=λb F=>U.BB (F _ _ S);have A: ∀b,P.sub b->p5 1 32 b (.ptr D 0)=some (.J (d.sum.map ak) .any):=λb F=>by
  simp[p5,F _ _ S,dS,G.1,G.2.2.1]
 clear E;have B:=iB g;have H:=iB j;have I: ∀o:List Int,(dr o).length=8*o.length+1:=λo=>by rw[dr,a4Y,nd]
 refine pa [] λh k a _=> ?_;refine tY a kx.J λh k a _=> ?_;refine eo (sO _ _ a9w) λp r c=> ?_;refine gK a c λh k a _=> ?_;refine eo (sO _ _ a9w) λp r c=> ?_;refine gK a c λh k a _=> ?_;refine eo (pC _ _ _ a9w) λp r c=> ?_;refine gK a c λh k a _=> ?_;refine eo (pC _ _ _ a9w) λp r c=> ?_;refine gK a c λh k a _=> ?_;refine eo (pC _ _ _ a9w) λp r c=> ?_;refine gK a c λh k a _=> ?_;refine⟨_,U.a1,?_⟩;have:=a.base n;rw[dL,i,l];grind
def eO (a:aL):List UInt8:=fx a.name++(UInt8.ofNat a.aD.length::(a.aD.flatMap fx++(dL a.bM++dL a.cq)))
def fC (a:List aL):List UInt8:=UInt8.ofNat a.length::a.flatMap eO
structure aL.gq (t:aL):Prop where
 n:t.name.length<=16
 c:t.aD.length<=7
 cs: ∀c∈t.aD,c.length<=16
 k:t.bM.gq
 z:t.cq.gq
theorem yA {a:List (List UInt8)} (c: ∀b∈a,b.length<=16):(a.flatMap fx).length<=19*a.length:=by
 induction a with
 |nil=>simp
 |cons d a ih=>grind[List.length_append,ua,List.length_cons]
variable{e7:aL}
def uN (a:e7.gq) (b:e7.bM.sum.length=32) (c:e7.cq.sum.length=32):(eO e7).length<=1000:=by have:=yA a.cs;have:=a.n;have:=a.c;have:=pt b a.k;have:=pt c a.z;simp only[eO,a4V,ua,a4Y];omega
variable{e1:List aL}
theorem F3 (b:aA dw e1 g) (d: ∀h∈e1,h.gq) (a:Nat):((e1.take a).flatMap eO).length<=1000*a:=by
 induction e1 generalizing g a with
 |nil=>simp
 |cons k e1 ih=>
  cases g with
  |nil=>trivial
  |cons v g=>
   obtain⟨⟨_,_,c⟩,b⟩:=b;cases a with
   |zero=>simp
   |succ a=>have:=uN (d k a9x) c.k.1 c.z.1;grind
theorem F4 (d:List aL) (V:List R) (l:Own) (C:U) (F:aA dw d V) (m:d.length<=8) (W: ∀a∈d,a.gq):
  AC Tryz.prog 33 [.J V l] C λn z=>eC C z (fC d) n:=by
 have B:=λq=>hK q;have H:=F.len;refine aM hm Kq ?_;refine pa [_] λk I K _=> ?_;refine ch [0] (λc:Nat×R=> [(4,.v (.int .i64 c.1)),(3,c.2)]) (λc z=>c.1<=d.length/\eC C z (UInt8.ofNat d.length::(d.take c.1).flatMap eO) c.2) (λc=>d.length - c.1) (0,k) ⟨⟨a9w,by trivial⟩,aR⟩ ?_;rintro⟨p,k⟩ y ⟨s,b⟩ t
 dsimp only at s b|-
 refine aa ?_;refine aG (λG=> ?_) λG=> ?_
 .have L:d[p]? =some (d.getD p default):=by simp_all
  have r:=W _ (a5a L);obtain⟨_,M,T,rfl,o⟩:=F.get L;generalize d.getD p default=a at*;have N: ∀aP,s7 (bb aP)=some (.J (aP.map ak) .any):=λ_=>rfl;have O:=iZ (n:= .agg T) o.all.1;obtain⟨Q,X,Y,Z,j9,k0,k1,k2,k3,k4,k5,k6,k7⟩:=o.all;have k8:=F3 F W p;have u:=uN r o.k.1 o.z.1;have k9:= @oA a.aD;have l0:=hi (a:=a.aD);have m:=r.n;have e:=r.c;refine aa ?_;refine eo (ES a.name _ _ a9w (by simp[ez]) λ_ _=>kx.J) λD P x=> ?_;refine gK b x (o:=by rw[eO,a4V]at u;simp only[a4Y];omega) λk y b _=> ?_;refine pa [_] λD l1 f _=> ?_;refine gK b f (o:=by grind[eO,List.length_append,List.length_cons,List.length_nil]) λk y b _=> ?_;obtain⟨E,v⟩: ∃E,UInt8.ofNat d.length::(d.take p).flatMap eO++fx a.name++ [UInt8.ofNat a.aD.length]=E:=⟨_,rfl⟩;rw[v]at b;have l2:E.length<=10000:=by grind[eO,List.length_append,List.length_cons,List.length_nil]
  have S: ∀h,((a.aD.take h).flatMap fx).length<=200:=λh=>by
   have:=yA (a:=a.aD.take h) λG e=>r.cs G (a5g e);rw[a4W]at this;omega
  refine ch [0,4] (λc:Nat×R=> [(5,.v (.int .i64 c.1)),(3,c.2)]) (λc z=>c.1<=a.aD.length/\eC C z (E++(a.aD.take c.1).flatMap fx) c.2) (λc=>a.aD.length - c.1) (0,k) ⟨⟨a9w,by simpa using b⟩,aR⟩ ?_;clear b f x;rintro⟨h,k⟩ y ⟨w,b⟩ t
  dsimp only at w b|-
  refine aa ?_;refine aG (λc2=> ?_) λc2=> ?_
  .have g:=S h;have i:=S (h+1);have j:(a.aD.take (h+1)).flatMap fx=(a.aD.take h).flatMap fx++fx (a.aD.getD h []):=by rw[eS (b:= []) a9w,a5E];simp
   rw[j,a4V]at i;have A:=ua (a.aD.getD h []);refine eo (ES (a.aD.getD h []) _ _ a9w (by simp[ez]) λ_ _=>kx.J) λD P x=> ?_;refine gK b x λk y b _=> ?_;refine⟨(h+1,k),⟨by simp only;omega,?_⟩,⟨rfl,rfl⟩,by simp only;omega⟩;simp_all
  .obtain rfl:h=a.aD.length:=a9w;have g:=S a.aD.length;rw[a5n]at b g;have i:=pt o.k.1 r.k;have A:=pt o.z.1 r.z;refine eo (F2 _ _ _ _ _ o.k.1 r.k o.k.2) λD P x=> ?_;refine gK b x λk y b _=> ?_;refine eo (F2 _ _ _ _ _ o.z.1 r.z o.z.2) λD P x=> ?_;refine gK b x λk y b _=> ?_;refine⟨(p+1,k),⟨by simp only;omega,?_⟩,⟨rfl,rfl⟩,by simp only;omega⟩;have j:(d.take (p+1)).flatMap eO=(d.take p).flatMap eO++eO a:=by rw[a5X,L];simp
   grind[eO]
 .obtain rfl:p=d.length:=a9w;rw[a5n]at b;exact⟨_,U.a1,b⟩
def uO (a b:Nat) (c:U) (h:R) (k:R->U->Prop):Prop:=
 match h with
 | .ptr d off=>match c.read d with
  |some cs=>off+b*a<=cs.length/\k (.J (dS a b (cs.drop off)) .any) (c.set d (.ro cs))
  |none=>False
 | _=>False
variable{s a7:R -> U -> Prop}
def a0B {a:cA s} (b:f.read v=some g) (c:O+i*e<=g.length) (d:s (.J (dS e i (g.drop O)) .any) (f.set v (.ro g))):uO e i f (.ptr v O) (bO s a):=by simp only[uO,b];trivial
variable{K:Ctx}{j:Fr}{Z e9:Operand}
theorem a0C:G K (.kk e i Z none none true) j f s=uO e i f (al j Z) (bO (λa b=>s a b) ()):=by grind[G,uO,cZ,al,bO]
theorem yB: ∀ {rows:List (List Int×Bool)},(∀a∈rows,a.1.length<=8)->(rows.flatMap gL).length<=66*rows.length
 | [],_=>by simp
 |a::rows,b=>by
  have d:=b a a9x;have:=yB λa c=>b a (a6o _ c);grind[List.length_append,gL,List.length_cons,dr,nd]
theorem yC: ∀ {kids:List ay},(∀a∈kids,a.gq/\a.sum.length=32/\a.cz)->(kids.flatMap dL).length<=300*kids.length
 | [],_=>by simp
 |a::kids,b=>by
  obtain⟨⟨d,h,k,_,_,_,_⟩,o,_⟩:=b a a9x;have:=yC λa c=>b a (a6o _ c);grind[iB,dr,List.length_cons,nd,List.length_append,dL]
theorem a0D (o:c3) (P S:List R) (e f:Own) (g:U) (w:aA dd o.rows P) (A:aA bu o.kids S) (n2:o.rows.length<=5) (n3:o.kids.length<=5)
  (i: ∀p∈o.rows,p.1.length<=8) (B: ∀r∈o.kids,r.gq/\r.sum.length=32/\r.cz):
  AC Tryz.prog 178 [gN o (.J P e) (.J S f)] g λp d=>eC g d (cW o) p:=by
 have n4:=w.len;have n5:=A.len;obtain⟨T,rows,kids⟩:=o
 dsimp only at*
 refine aM hm ON ?_;have n9:=λx=>hK x;refine aN λH X=> ?_;refine aa ?_;generalize j:g.set H (.cells [R.v (.int .u8 (T.toNat)),.J P e,.J S f])=G;have Y:=j▸U.ae U.a1 X;have Z:=j▸U.ag _ _ _;have L: ∀d,G.sub d->d.read H=some [R.v (.int .u8 (T.toNat)),.J P e,.J S f]:=λd C=>U.af (C _ _ Z);clear j;have j9:=L _ U.a1;refine pa [T,UInt8.ofNat rows.length] (λk a00 k0 _=> ?_);clear j9;have k1:=L _ k0.sub;refine ch [0,1] (λb:Nat×R=> [(4,.v (.int .i64 b.1)),(3,b.2)]) (λb d=>b.1<=rows.length/\eC G d (T::UInt8.ofNat rows.length::(rows.take b.1).flatMap gL) b.2) (λb=>rows.length - b.1) (0,k) ⟨⟨a9w,by trivial⟩,aR⟩ ?_;rintro⟨a,k⟩ D ⟨l,c⟩ k2
 dsimp only at l c|-
 clear k1;have k3:=L _ c.sub;refine aa ?_;refine aG (λm=> ?_) λm=> ?_
 .obtain⟨_,V,k4,rfl⟩:=w.get (i:=a) (x:=rows.getD a ([],false)) (by simp_all);have k5:ey 2 P[a]? =some (.bV [.J (ad (rows.getD a ([],false)).1) k4,.v (.bool (rows.getD a ([],false)).2)]):=by rw[V];rfl
  have a01:(rows.getD a ([],false)).1.length<=8:=i _ (by simp_all);have n:=eS (a:=rows) (e:=a) (b:=([],false)) a9w;have I:=yB (rows:=rows.take a) λp C=>i p (a5g C);rw[a4W]at I;generalize rows.getD a ([],false)=b at*;have K:(dr b.1).length=8*b.1.length+1:=by rw[dr,a4Y,nd]
  clear V;have a02:(gL b).length=8*b.1.length+2:=by rw[gL,a4Y,K]
  refine aa ?_;refine eo (ZS _ _) λE F h=> ?_;refine gK c (show eC D F [if b.2=true then(1)else 0] E from h) λa4 k6 W _=> ?_;have M:=L _ W.sub;refine eo (pC _ _ _ a9w) λa03 q z=> ?_;refine gK W z λdu a04 k7 _=> ?_;refine⟨(a+1,du),⟨by simp only;omega,?_⟩,⟨rfl,rfl⟩,by simp only;omega⟩;simp only[n,a5E,a5v,a7I,a5Z,gL];simpa using k7
 obtain rfl:a=rows.length:=a9w;rw[a5n]at c;have I:=yB i;generalize a05:T::UInt8.ofNat rows.length::rows.flatMap gL=s at*;have a06:s.length<=400:=by grind
 refine pa [UInt8.ofNat kids.length] (λE F h _=> ?_);refine gK c h λa3 k6 W _=> ?_;clear k3;have M:=L _ W.sub;refine ch [0,1] (λb:Nat×R=> [(5,.v (.int .i64 b.1)),(3,b.2)]) (λb d=>b.1<=kids.length/\eC G d (s++ [UInt8.ofNat kids.length]++(kids.take b.1).flatMap dL) b.2) (λb=>kids.length - b.1) (0,a3) ⟨⟨a9w,by simpa using W⟩,aR⟩ ?_;clear M;rintro⟨a,k⟩ q ⟨l,z⟩ k2
 dsimp only at l z|-
 have a07:=L _ z.sub;refine aa ?_;refine aG (λm=> ?_) λm=> ?_
 .obtain⟨_,V,k8,k9,t,u,v,rfl⟩:=A.get (i:=a) (x:=kids.getD a az) (by simp_all);have l0:=(B (kids.getD a az) (by simp_all)).1;have n:=eS (a:=kids) (e:=a) (b:=az) a9w;generalize kids.getD a az=r at*;have N:=(aW (M:=t) (e6:=u) (h4:=v) k8).all;have k5:ey 37 S[a]? =some (.bV (ab r t u v)):=by rw[V];exact iZ N.1
  generalize ab r t u v=y at*;clear V;refine aa ?_;refine aN λx O=> ?_;refine aa ?_;rw[a0C];refine aa ?_;refine a0B (U.af (U.ag _ _ _)) a9w ?_;rw[U.set_set];have l1:eC (G.set x (.ro y)) (q.set x (.ro y)) _ k:=z.new O;have l2:=U.bI z.sub O;have l3:=U.ae (Y:= .ro y) U.a1 l2;have l4:(G.set x (.ro y)) x=some (.ro y):=U.ag _ _ _;generalize G.set x (.ro y)=l5 at*;generalize q.set x (.ro y)=a08 at*;have a09: ∀d,l5.sub d->d.read x=some y:=λd C=>U.BB (C _ _ l4);have Q:dS 1 32 (y.drop 0)=r.sum.map ak:=by simp[dS,N.2.2.1]
  rw[Q];obtain⟨a10,a11,a13⟩:=k9;obtain⟨a14,a15,a16,l6,a18,l7,a19⟩:=l0;obtain⟨l8,a27⟩:=a6r l6;obtain⟨l9,a29⟩:=a6r l7;have a30:=iB l8;have a34:=iB l9;have K: ∀p:List Int,(dr p).length=8*p.length+1:=λp=>by rw[dr,a4Y,nd]
  have n0:((kids.take a).flatMap dL).length<=300*a:=by have:=yC (kids:=kids.take a) λr C=>B r (a5g C);rw[a4W]at this;omega
  generalize a36:s++ [UInt8.ofNat kids.length]++(kids.take a).flatMap dL=n1 at*;have a38:n1.length<=3000:=by grind
  clear Q n0;refine tY l1 kx.J λk D c _=> ?_;refine eo (sO _ _ a9w) λE F h=> ?_;refine gK c h λk D c _=> ?_;refine eo (sO _ _ a9w) λE F h=> ?_;refine gK c h λk D c _=> ?_;refine eo (pC _ _ _ a9w) λE F h=> ?_;refine gK c h λk D c _=> ?_;refine eo (pC _ _ _ a9w) λE F h=> ?_;refine gK c h λk D c _=> ?_;refine eo (pC _ _ _ a9w) λE F h=> ?_;refine gK c h λk D c _=> ?_;refine⟨(a+1,k),⟨by simp only;omega,?_⟩,⟨rfl,rfl⟩,by simp only;omega⟩;have a42:=c.base l3;simp only[n,a5E,a5v,a7I,a5Z];grind[dL,List.append_assoc,Int.toNat_natCast]
 obtain rfl:a=kids.length:=a9w;rw[a5n]at z;refine⟨_,U.a1,?_⟩;have:=z.base Y;grind[cW,List.append_assoc]
structure kK where
 kind:UInt8
 r3:Int
 at_:List Int
abbrev kK.V (a:kK) (b:Own):R:= .agg [.v (.int .u8 (a.kind.toNat:Int)),.v (.int .i64 a.r3),.J (ad a.at_) b]
def kK.ok (a:kK) (b:Nat):Bool:=
 decide (1<=b/\b<=8)&&(if a.kind=0 then decide (a.r3=0)&&decide (a.at_.length=0)
  else if a.kind=1\/a.kind=2 then(decide (0<a.r3)||decide (a.r3=0)&&decide (a.kind=2))&&decide (a.r3<=(b:Int) - 1)&&decide (a.at_.length=0)
  else decide (a.kind=3)&&decide (a.r3=0)&&decide (1<b)&&decide (a.at_.length=b - 1))
theorem F5 (a:kK) (h:Own) (c:Nat) (d:U) (r:c<=1000000000000) (x:a.at_.length<=1000000000000):
  AC Tryz.prog 42 [a.V h,.v (.int .i64 (c:Int))] d λk o=>o=d/\k= .v (.bool (a.ok c)):=by
 obtain⟨b,y,p⟩:=a
 dsimp only at*
 have z:=bG (q:=p);have C:=iD b 0 a9w;have D:=iD b 1 a9w;have E:=iD b 2 a9w;have F:=iD b 3 a9w;refine aM hm KC ?_;refine bo λG L=> ?_
 repeat' first|refine aG (λ_=> ?_) λ_=> ?_|trivial
 all_goals grind[kK.ok,aO,aP]
theorem uP (b:kK) (h:Own) (c:Nat) (d:U) (r:c<=1000000000000) (x:b.at_.length<=1000000000000):
  AC Tryz.prog 128 [b.V h,.v (.int .i64 (c:Int))] d λk o=>o=d/\k= .v (.bool (b.ok c)):=by
 obtain⟨a,y,p⟩:=b
 dsimp only at*
 have z:=bG (q:=p);have C:=iD a 0 a9w;have D:=iD a 1 a9w;have E:=iD a 2 a9w;have F:=iD a 3 a9w;refine aM hm N9 ?_;refine bo λG L=> ?_
 repeat' first|refine aG (λ_=> ?_) λ_=> ?_|trivial
 all_goals try first
  |(rw[kK.ok];exact aO)
  |(refine aP ?_;simp only[kK.ok]at*;grind)
 rename_i P S T;obtain rfl:a=2:=a5P.1 (by simp_all);refine aP ?_;rw[a7w];simp[kK.ok,-List.length_eq_zero_iff];omega
abbrev ie (a b:Nat):R:= .agg [.v (.int .u64 (a:Int)),.v (.int .u64 (b:Int))]
def a0E (a c b d:Nat) (h:U):AC Tryz.prog 145 [ie a c,ie b d] h λk o=>o=h/\k= .v (.bool (decide (a<b\/a=b/\c<d))):=by
 refine aM hm NG ?_;refine bo λp r=> ?_;refine cV λx y z C=> ?_
 repeat' first|refine aG (λ_=> ?_) λ_=> ?_|trivial
 all_goals exact aO
def r4 (a c b d:Nat):Int:=if a=b/\c=d then 0 else if a<b\/a=b/\c<d then -1 else 1
theorem F6 (a b c d:Nat) (h:U):AC Tryz.prog 134 [ie a b,ie c d] h λk o=>o=h/\k= .v (.int .i64 (r4 a b c d)):=by
 have p: ∀a b:Nat,dm [(2,c8.int IntKind.u64)] [R.v (.int .u64 (a)),R.v (.int .u64 (b))]:=λa b=>by simp[dm,c8.ts]
 have r:peq (ie a b) (ie c d)=decide ((a:Int)=c/\(b:Int)=d):=by rw[a7w];simp[peq]
 refine aM hm Ni ?_;refine bo λx y=> ?_;refine cV λz C D E=> ?_
 repeat' first|refine aG (λ_=> ?_) λ_=> ?_|trivial
 all_goals grind[r4]
end Go.Proofs.YtlgnfcaolejgeaaGreat
