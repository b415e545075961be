import Derived.Test.YtlgnfcaolejgeaaGreatME
import Derived.Test.YtlgnfcaolejgeaaGreatMC
import Derived.Test.YtlgnfcaolejgeaaGreatMD
import Derived.Test.YtlgnfcaolejgeaaGreatMB
import Derived.Shelf.SlSortCmp.NoneTotal
import Derived.Shelf.SlLaysF
import Derived.Test.YtlgnfcaolejgeaaGreatProg
set_option linter.all false
set_option maxRecDepth 100000
namespace Go.Proofs.YtlgnfcaolejgeaaGreat
open Go Go.bz
def bw (c:U):(d:Nat)->a6.T d->R->Prop
 |0,a,h=> ∃b p k o,h= .ptr b 0/\c b=some (.cells [.J p k,.J [] o])/\aA isRow (a6.rows a) p
 |d+1,a,h=> ∃b r k o,h= .ptr b 0/\c b=some (.cells [.J [] o,.J r k])/\aA (bw c d) (a6.kids a) r/\a6.kids a≠ []/\(a6.kids a).length<=1000
def bw.fT {r x:U} (d:iu r x): ∀ {a:Nat}{b:a6.T a}{c:R},bw r a b c->bw x a b c
 |0,b,c,⟨h,y,k,eR,h1,o,p⟩=>⟨h,y,k,eR,h1,d _ _ o,p⟩
 |a+1,b,c,⟨h,z,k,eR,h1,o,p,C⟩=>⟨h,z,k,eR,h1,d _ _ o,p.mono λ_ _=>bw.fT d,C⟩
variable{f t e4:U}{e i v O b8 j0:Nat}
def bw.mono (b:f.sub e4) {t:a6.T e}{a:R} (c:bw f e t a):bw e4 e t a:=c.fT (U.qt b)
theorem bw.cells {d:U}{a:Nat}{h:a6.T a}{b:R} (c:bw d a h b):b.cells.length=1:=by
 cases a with
 |zero=>obtain⟨k,_,_,_,rfl,_⟩:=c;rfl
 |succ a=>obtain⟨k,_,_,_,rfl,_⟩:=c;rfl
theorem bw.ptr {c:U}{a:Nat}{k:a6.T a}{d:R} (h:bw c a k d): ∃b o p,d= .ptr b 0/\c b=some (.cells [o,p]):=by
 cases a with
 |zero=>obtain⟨b,_,_,_,rfl,r,_⟩:=h;simp_all
 |succ a=>obtain⟨b,_,_,_,rfl,r,_⟩:=h;simp_all
theorem Ed {k:Type}: ∀(a:Nat) (b:List k),a<=b.length-> ∀d∈a6.eS a b,d≠ []
 |0,b,_,d,c=>by cases c
 |a+1,b,p,d,c=>by
  have r:=a7I b.length (a+1);have hm:=a6Q b.length (a9l a);have x:1<=b.length/(a+1):=(Nat.le_div_iff_mul_le (a9l a)).2 a9p;rw[a6.eS]at c;generalize b.length/(a+1)=h at*;generalize b.length%(a+1)=y at*;have z:(a+1)*h=a*h+h:=by rw[a5V];omega
  have C:a<=a*h:=a8F _ a9p;rcases a5j.1 c with rfl|c
  .intro o;have:=congrArg List.length o;grind
  .exact Ed a _ (by rw[a5d];split<;>omega) d c
variable{b0:Type}
def Zb (a:List b0):a6.chunks a=(List.range (a6.bU a.length)).map λb=>(a.drop (b*(a.length/a6.bU a.length)+min b (a.length%a6.bU a.length))).take (a.length/a6.bU a.length+if b<a.length%a6.bU a.length then 1 else 0):=a6.Dx _ _
def fm (a b:Nat):Nat:=b*(a/a6.bU a)+min b (a%a6.bU a)
def xV (a:i<a6.bU e):fm e (i+1)=fm e i+(gZ e).getD i 0:=by rw[xU a];unfold fm;rw[a5V];split<;>omega
def Ee (a:i<=a6.bU e):fm e i<=e:=by have:=a7I e (a6.bU e);have:=a5c (e/a6.bU e) a;unfold fm;omega
def uw {a:List b0}:(a6.chunks a).length=a6.bU a.length:=nk.1
def Ef {a:List b0} (b:e<a6.bU a.length):(a6.chunks a).take (e+1)=(a6.chunks a).take e++ [(a.take (fm a.length (e+1))).drop (fm a.length e)]:=by rw[a5Y,Zb,a5n,a7b b,xV b,xU b,a6f];simp[fm]
def Eg (a:i<a6.bU e):(iH (gZ e))[i]? =some (.v (.int .i64 ((gZ e).getD i 0:Nat))):=by simp[iH,uv,a]
variable{g B e0:List R}
def bw.c {a:List (a6.T e)} (b:aA (bw f e) a g):aR 1 g:=b.cells λ_ _=>bw.cells
def Eh (a:List (List Int)) (o:List R) (G:Own) (p:U) (r:aA isRow a o) (L:a.length<=1000):
  AC Tryz.prog 164 [.J o G] p λP d=>p.sub d/\ ∃k x,P= .J k x/\aA (bw d 0) ((a6.chunks a).map a6.leaf) k:=by
 have s:=r.len;have t:=iG r;have u:=xT (a:=a.length);have v:(iH (gZ a.length)).length=a6.bU a.length:=uu.trans uv;refine aM hm O7 ?_;refine cl (Ec a.length L p) ?_;rintro _ S ⟨T,w,rfl⟩;have A:fm a.length 0=0:=by simp[fm]
 refine aa ?_;refine cn [0,5] (λb:Nat×List R×Own=> [(3,.J b.2.1 b.2.2),(4,.v (.int .i64 (fm a.length b.1))),(6,.v (.int .i64 (b.1)))]) (λb d=>b.1<=a6.bU a.length/\aA (bw d 0) (((a6.chunks a).take b.1).map a6.leaf) b.2.1/\bh S d 1 b.2.1 b.2.2) (λb=>a6.bU a.length - b.1) (0,[],.nil) ⟨⟨a9q,trivial,bh.nil U.a1⟩,aS⟩ ?_;rintro⟨c,k,V⟩ W ⟨e,h,y⟩ B
 dsimp only at e h y|-
 have f:=h.len;rw[a4Y,a4P,uw]at f;refine aa ?_;refine aG (λg=> ?_) λg=> ?_
 .have H:=xV (e:=a.length) (i:=c) a9p;have I:=Ee (e:=a.length) (i:=c+1) a9p;have K:=Eg (e:=a.length) (i:=c) a9p;have i:=Ef (a:=a) (e:=c) a9p;have z:=(r.take (fm a.length (c+1))).drop (fm a.length c);generalize M:fm a.length (c+1)=C at*;generalize fm a.length c=D at*;generalize (gZ a.length).getD c 0=j at*;have N:(D)+(j)=(C:Int):=a9p;refine sa (iG z) (λE l O=> ?_);refine bp λF Q=> ?_;have m:=qu (f:=W) (t:=l.set F (.cells [.J ((o.take C).drop D) E,.J [] .nil]));refine hn (y.mono m) (bw.c h) λ_ x d n q=> ?_;refine⟨(c+1,_,x),⟨by simp only;omega,?_,n⟩,⟨rfl,by simp only;congr 3;omega,rfl⟩,by simp only;omega⟩;simp only[i,a5P];exact(h.mono λ_ _=>bw.fT fg).snoc ⟨F,_,E,.nil,rfl,q _ _ (U.ai _ _ _),z⟩
 .rw[a4N (by rw[uw];omega)]at h;exact⟨_,U.a1,U.aq T y.sub,k,V,rfl,h⟩
theorem xW (z:U) (a:List (a6.T e)) (r:List R) (P:Own) (k:U) (x:aA (bw z e) a r) (S:a.length<=1000) (T:z.sub k):
  AC Tryz.prog 165 [.J r P] k λV d=>k.sub d/\ ∃o y,V= .J o y/\aA (bw d (e+1)) ((a6.chunks a).map a6.node) o:=by
 have A:=x.len;have B:=bw.c x;have W:=xT (a:=a.length);have H:(iH (gZ a.length)).length=a6.bU a.length:=uu.trans uv;refine aM hm O9 ?_;refine cl (Ec a.length S k) ?_;rintro _ f ⟨C,I,rfl⟩;have K:fm a.length 0=0:=by simp[fm]
 refine aa ?_;refine cn [0,5] (λc:Nat×List R×Own=> [(3,.J c.2.1 c.2.2),(4,.v (.int .i64 (fm a.length c.1))),(6,.v (.int .i64 (c.1)))]) (λc d=>c.1<=a6.bU a.length/\aA (bw d (e+1)) (((a6.chunks a).take c.1).map a6.node) c.2.1/\bh f d 1 c.2.1 c.2.2) (λc=>a6.bU a.length - c.1) (0,[],.nil) ⟨⟨a9q,trivial,bh.nil U.a1⟩,aS⟩ ?_;rintro⟨b,o,g⟩ i ⟨j,h,p⟩ M
 dsimp only at j h p|-
 have l:=h.len;rw[a4Y,a4P,uw]at l;refine aa ?_;refine aG (λm=> ?_) λm=> ?_
 .have N:=xV (e:=a.length) (i:=b) a9p;have O:=Ee (e:=a.length) (i:=b+1) a9p;have Q:=Eg (e:=a.length) (i:=b) a9p;have n:=Ef (a:=a) (e:=b) a9p;have q:(a.take (fm a.length (b+1))).drop (fm a.length b)≠ []:=Ed (a6.bU a.length) a W _ (a4Z (i:=b+1) (by grind[a6.chunks]));have D:=(x.take (fm a.length (b+1))).drop (fm a.length b);generalize X:fm a.length (b+1)=E at*;generalize fm a.length b=F at*;generalize (gZ a.length).getD b 0=s at*;have Y:(F)+(s)=(E:Int):=a9p;refine sa (bw.c D) (λG t Z=> ?_);refine bp λL j9=> ?_;have u:=qu (f:=i) (t:=t.set L (.cells [.J [] .nil,.J ((r.take E).drop F) G]));have k0:=U.aq T (U.aq C p.sub);refine hn (p.mono u) (bw.c h) λ_ y d v w=> ?_;refine⟨(b+1,_,y),⟨by simp only;omega,?_,v⟩,⟨rfl,by simp only;congr 3;omega,rfl⟩,by simp only;omega⟩;simp only[n,a5P];exact(h.mono λ_ _=>bw.fT fg).snoc ⟨L,_,G,.nil,rfl,w _ _ (U.ai _ _ _),D.mono λ_ _=>bw.fT fg,q,by simp[a6.fl];omega⟩
 .rw[a4N (by rw[uw];omega)]at h;exact⟨_,U.a1,U.aq C p.sub,o,g,rfl,h⟩
end Go.Proofs.YtlgnfcaolejgeaaGreat
namespace Go.a6
variable {lt:Row->Row->Bool}{ok:Row->Prop}
variable{e i v O b8 j0:Nat}{b0:Type}
def qL {a:List b0}{b:b0} (c:a[e]? =some b):a=a.take e++b::a.drop (e+1):=by obtain⟨d,rfl⟩:=a4T.1 c;simp
variable{h3:Row}
def ux (y:Ord lt ok) (z:ok h3) {a:List (T e)} (C:a≠ []) (k: ∀b∈a,1<=len b/\lj e b) (o:jd lt (a.flatMap (bg e))) (p: ∀c∈a.flatMap (bg e),ok c):
  ∃b,a[cR lt h3 (a.map (cM e))]? =some b/\(∀c∈(a.take (cR lt h3 (a.map (cM e)))).flatMap (bg e),lt c h3=true)/\(∀c∈(a.drop (cR lt h3 (a.map (cM e))+1)).flatMap (bg e),lt h3 c=true):=by
 have D:a.map (cM e)=(a.map (bg e)).map (·.headD []):=by rw[a6P];rfl
 rw[a7X]at o p;obtain⟨r,d,h⟩:=DD y z (a.map (bg e)) (by simpa using C) (λF E=>by
  obtain⟨b,x,rfl⟩:=a5h.1 E;exact xB (k b x).1 (k b x).2) o p
 rw[<-D]at r d h;rw[<-a8p,<-a7X]at d;rw[<-a7F,<-a7X]at h;exact⟨_,a4M (by simpa using r),d,h⟩
theorem qM (C:Ord lt ok) (P:ok h3): ∀(a:Nat) (b:T a),jM a b->jd lt (bg a b)->(∀d∈bg a b,ok d)->h3∉bg a b->
  (eT lt h3 a b).flatMap (bg a)=dL lt (bg a b) h3/\(∀c∈eT lt h3 a b,WF a c)/\1<=(eT lt h3 a b).length/\(eT lt h3 a b).length<=2:=by
 intro a
 induction a with
 |zero=>intro b D p o x;obtain⟨e,rfl⟩:=hT b;obtain⟨y,E,_,_⟩:=D;rw[hU]at y E;obtain⟨F,G,c,_⟩:=DB (h9:=dL lt e h3) (by rw[oo];omega) (by rw[oo];omega);exact⟨Dz _,F,by simpa[eT,qG] using G,by simpa[eT,qG] using c⟩
 |succ a ih=>
  intro b D p o x;obtain⟨h,rfl⟩:=gl b;obtain⟨y,E,f,L⟩:=D;rw[dE]at y E L;have L:=L a9p;rw[fX]at p o x|-;have g: ∀c∈h,WF a c:=f;obtain⟨c,r,S,V⟩:=ux C P (by intro i;subst i;simp at y) (λc r=>by grind[gU]) p o;simp only[eT,fl];generalize cR lt h3 (h.map (cM a))=z at r S V;rw[r];have s:=qL r;have j:h.flatMap (bg a)=(h.take z).flatMap (bg a)++(bg a c++(h.drop (z+1)).flatMap (bg a)):=by grind
  rw[j]at p o x|-;have l:=(a5Q.1 (a5Q.1 p).2.1).1;obtain⟨m,t,u,v⟩:=ih c (jM.of (g c (a4V r))) l (λd k=>o d (by simp[k])) (λk=>x (by simp[k]));have W:(h.take z++eT lt h3 a c++h.drop (z+1)).length=h.length - 1+(eT lt h3 a c).length:=by grind
  obtain⟨F,G,n,_⟩:=DC (by rw[W];omega) (by rw[W];omega) (λd k=>by
   grind)
  refine⟨?_,F,by simpa using G,by simpa using n⟩;simp only[];rw[DA,a5C,a5C,m,xC S,Yv,a5b];intro d k;cases q:lt d h3 with
  |false=>rfl
  |true=>have:=C.trans d h3 d (o d (by simp[k])) P (o d (by simp[k])) q (V d k);rw[C.jc]at this;cases this
theorem Ei {a b:T e} (k:lj e a) (o:lj e b) (d:2<=len a+len b) (h:len a+len b<=5):
  (kz a b).flatMap (bg e)=bg e a++bg e b/\(∀c∈kz a b,WF e c)/\1<=(kz a b).length/\(kz a b).length<=2:=by
 cases e with
 |zero=>obtain⟨a,rfl⟩:=hT a;obtain⟨b,rfl⟩:=hT b;grind[hU,DB,kz,qG,ky,Dz]
 |succ e=>obtain⟨a,rfl⟩:=gl a;obtain⟨b,rfl⟩:=gl b;rw[dE,dE]at d h;obtain⟨r,x,y,_⟩:=DC (a:=a++b) (by simpa using d) (by simpa using h) (λc p=>(a5a.1 p).elim (k c) (o c));grind[kz,fl,fX,DA]
variable{h9:List Row}
theorem filter_none (b:h3∉h9):h9.filter (λa=>decide (a≠h3))=h9:=by rw[a8j];grind
theorem Zc (b:jd lt h9) (d: ∀h3,lt h3 h3=false):h9.length - 1<=(h9.filter λc=>decide (c≠h3)).length:=by
 induction h9 with
 |nil=>simp
 |cons a h9 ih=>
  have h:=a5w.1 b;by_cases bW:a=h3
  .subst bW;have:a∉h9:=λk=>by grind
   rw[a8H a9q,filter_none this];simp
  simp_all
theorem ps (E:Ord lt ok) (v:ok h3): ∀(a:Nat) (d:T a),jM a d->jd lt (bg a d)->(∀h∈bg a d,ok h)->
  bg a (cI lt h3 a d)=(bg a d).filter (λh=>decide (h≠h3))/\lj a (cI lt h3 a d)/\len d - 1<=len (cI lt h3 a d)/\len (cI lt h3 a d)<=4:=by
 intro a
 induction a with
 |zero=>intro d P o r;obtain⟨Q,rfl⟩:=hT d;obtain⟨F,G,_,_⟩:=P;rw[hU]at F G;simp only[cI,qG,ky,hU]at o|-;exact⟨trivial,trivial,Zc o E.jc,by grind⟩
 |succ a ih=>
  intro d P o r;obtain⟨b,rfl⟩:=gl d;obtain⟨F,G,w,S⟩:=P;rw[dE]at F G S;have S:=S a9p;rw[fX]at o r|-;have V: ∀p∈b,WF a p:=w;obtain⟨p,x,i,j⟩:=ux E v (by intro y;subst y;simp at F) (λp x=>by grind[gU]) o r;simp only[cI,fl,dE];generalize cR lt h3 (b.map (cM a))=c at x i j;rw[x];simp only[dE,fX];have X:=qL x;obtain⟨A,_⟩:=a4T.1 x;have B:b.flatMap (bg a)=(b.take c).flatMap (bg a)++(bg a p++(b.drop (c+1)).flatMap (bg a)):=by grind
  have Y:=o;have Z:=r;rw[B]at o r;have l:=V p (a4V x);have j9:=gU.1 l;obtain⟨H,L,I,m⟩:=ih p (jM.of l) (a5Q.1 (a5Q.1 o).2.1).1 (λh z=>r h (by simp[z]));generalize cI lt h3 a p=h at H L I m;have k0:=filter_none λz=>by
   have:=i h3 z;rw[E.jc]at this;cases this
  have k1:=filter_none λz=>by
   have:=j h3 z;rw[E.jc]at this;cases this
  have n:(b.flatMap (bg a)).filter (λh=>decide (h≠h3))=(b.take c).flatMap (bg a)++(bg a h++(b.drop (c+1)).flatMap (bg a)):=by grind
  rw[n];unfold lk;by_cases W:2<=len h
  .rw[if_pos W];have y:b.set c h=b.take c++h::b.drop (c+1):=by rw[a6d,if_pos A]
   refine⟨by grind,λq C=> ?_,a9q,by simpa using G⟩;rw[fl,y]at C;simp only[a5a,a5j]at C;rcases C with C|rfl|C;grind
   .exact gU.2 ⟨W,m,L⟩
   grind
  .rw[if_neg W];have k2:len h=1:=a9p;by_cases e:c=0
   .subst e;have k:b[1]? =some b[1]:=a4M a9p;simp only[if_true];rw[k];simp only[Nat.zero_sub,a6I,a5f,a5m,a7B]at n|-;generalize b[1]=D at k;have f:=V D (a4V k);have g:=gU.1 f;obtain⟨s,K,q,y⟩:=Ei L g.2.2 a9p a9p;have t:b.drop 1=D::b.drop 2:=by obtain⟨M,rfl⟩:=a4T.1 k;simp
    refine⟨by grind,λN u=> ?_,a9r,a9r⟩;grind[fl,List.mem_of_mem_drop]
   .rw[if_neg e];have k:b[c - 1]? =some b[c - 1]:=a4M a9p;rw[k];simp only[if_neg e];generalize b[c - 1]=D at k;have f:=V D (a4V k);have g:=gU.1 f;obtain⟨s,K,q,y⟩:=Ei g.2.2 L a9p a9p;have t:b.take c=b.take (c - 1)++ [D]:=by
     obtain⟨M,rfl⟩:=a4T.1 k
     conv=>lhs;rw[show c=c - 1+1 by omega]
     simp
    have O:c - 1+2=c+1:=a9p;rw[O];refine⟨by rw[a5C,a5C,s,t,a5C];simp,λN u=> ?_,a9r,a9r⟩;simp only[fl,a5a]at u;grind
end Go.a6
namespace Go.Proofs.YtlgnfcaolejgeaaGreat
open Go Go.bz
abbrev eE:=Option ((a:Nat)×a6.T a)
def fK (c:U) (a:eE) (b:R):Prop:=
 match a with
 |none=>b= .v (.pointer none)
 |some ⟨d,a⟩=>bw c d a b
def fK.fT {b c:U} (k:iu b c) {a:eE}{d:R} (h:fK b a d):fK c a d:=by
 match a with
 |none=>exact h
 |some ⟨_,_⟩=>exact bw.fT k h
variable{e i v O b8 j0:Nat}
def pt:List (a6.T e)->eE
 | []=>none
 | [a]=>some ⟨e,a⟩
 |b=>some ⟨e+1,a6.node b⟩
variable{b0:Type}
def Zd {a:List b0} (b:a.length=1): ∃c,a= [c]:=a6N.1 b
theorem Ze (c:List (a6.T e)) (x:List R) (E:Own) (p:U) (F:aA (bw p e) c x) (G:c.length<=4):
  AC Tryz.prog 98 [.J x E] p λL h=>p.sub h/\fK h (pt c) L:=by
 refine aM hm M7 ?_;refine cn [] (λd:List R×Own=> [(0,.J d.1 d.2)]) (λd h=>p.sub h/\(aA (bw h e) c d.1\/2<=c.length/\ ∃a,d.1= [a]/\bw h (e+1) (a6.node c) a)) (λd=>d.1.length) (x,E) ⟨⟨U.a1,.inl F⟩,aS⟩ ?_;rintro⟨r,P⟩ y ⟨z,b⟩ g
 dsimp only at b|-
 refine aa ?_;refine aG (λk=> ?_) λk=> ?_
 .rcases b with b|⟨_,a,rfl,_⟩
  .have i:=b.len;refine cl (xW y c r P y b a9p U.a1) ?_;rintro _ j ⟨S,l,T,rfl,C⟩;rw[a6.po a9p G]at C;obtain⟨a,rfl⟩:=Zd C.len;refine aa ?_;exact⟨([a],T),⟨U.aq z S,.inr ⟨a9p,a,rfl,C.1⟩⟩,rfl,a9r⟩
  .simp at k
 .have V:(r= []/\c= [])\/ ∃a,r= [a]/\fK y (pt c) a:=by
   rcases b with b|⟨W,a,rfl,b⟩
   .match c,r,b,k with
    | [],[],_,_=>simp
    | [m],[a],b,_=>exact .inr ⟨a,rfl,b.1⟩
    | _:: _:: _,_:: _:: _,_,k=>simp at k;omega
   .match c,W with
    | _:: _:: _,_=>exact .inr ⟨a,rfl,b⟩
  clear b;rcases V with ⟨rfl,rfl⟩|⟨a,rfl,o⟩
  .refine aa ?_;exact⟨_,U.a1,z,rfl⟩
  .have f:(∃D,a= .ptr D 0)\/a= .v (.pointer none):=by
    unfold fK at o;split at o
    .exact .inr o
    .obtain⟨D,_,_,n,_⟩:=o.ptr;simp_all
   rcases f with ⟨D,rfl⟩|rfl
   all_goals refine aa ?_;exact⟨_,U.a1,z,o⟩
theorem xX: ∀(b:Nat) (d:a6.T b) (T:R) (p:U),bw p b d T->(a6.bg b d).length<=100000->
  AC Tryz.prog 94 [T] p λW F=>p.sub F/\ ∃h G,W= .J h G/\aA isRow (a6.bg b d) h:=by
 intro b
 induction b with
 |zero=>rintro d _ p ⟨e,h,G,f,rfl,k,o⟩ L;have P:=U.ae k;have g:=o.len;have w:(a6.rows d).length<=100000:=L;refine aM hm wz ?_;refine sa (iG o) λC i D=> ?_;have P:=rd D.sub k;refine gE [0] (λc:Nat=> [(3,.J h C),(4,.v (.int .i64 (c)))]) (λc=>c=0) (λ_=>0) 0 rfl aS ?_;rintro _ rfl j;refine aa ?_;exact⟨D.sub,h,C,rfl,o⟩
 |succ b ih=>
  rintro d _ p ⟨e,A,G,f,rfl,k,o,B,l⟩ L;obtain⟨r,rfl⟩:=a6.gl d;rw[a6.fl]at o l;rw[a6.fX]at L|-;have P:=U.ae k;have g:=o.len;refine aM hm wz ?_;refine sa Cs λC i D=> ?_;refine cn [0] (λa:Nat×List R×Own=> [(3,.J a.2.1 a.2.2),(4,.v (.int .i64 (a.1)))]) (λa F=>a.1<=r.length/\aA isRow ((r.take a.1).flatMap (a6.bg b)) a.2.1/\bh p F 1 a.2.1 a.2.2) (λa=>r.length - a.1) (0,[],C) ⟨⟨a9q,trivial,D⟩,aS⟩ ?_;rintro⟨c,h,m⟩ n ⟨y,x,z⟩ j
  dsimp only at y x z|-
  have P:=rd z.sub k;refine aa ?_;refine aG (λE=> ?_) λE=> ?_
  .have y:c<r.length:=a9p;obtain⟨H,aM,V⟩:=o.get (a4M y);have q:=a6.qL (a4M y);have s:=a5X y;have t:=bw.mono z.sub V;obtain⟨I,_,_,rfl,_⟩:=V.ptr;generalize r[c]=E at*;have K:((r.take c).flatMap (a6.bg b)).length+(a6.bg b E).length<=100000:=by grind
   clear q;have M:=x.len;refine cl (ih E _ n t a9p) ?_;rintro _ N ⟨u,O,Q,rfl,S⟩;have X:=S.len;refine kt (z.mono u) (iG x) (iG S) λv Y k _=> ?_;refine⟨(c+1,_,v),⟨by simp only;omega,?_,k⟩,⟨rfl,rfl⟩,by simp only;omega⟩;simp only[s,a5C,a5o,a7B,a5R];exact x.append S
  .rw[a4N a9p]at x;exact⟨z.sub,h,m,rfl,x⟩
def Zf (a:U):AC Tryz.prog 94 [.v (.pointer none)] a λb c=>c=a/\b= .J [] .nil:=by refine aM hm wz ?_;trivial
def Zg (a:Nat) (b:a6.T a) (d:R) (c:U) (r:bw c a b d) (x:(a6.bg a b).length<=100000) (y:a6.bg a b≠ []):
  AC Tryz.prog 252 [d] c λh z=>c.sub z/\ ∃k,h= .J (ad (a6.cM a b)) k:=by
 refine aM hm QE ?_;refine cl (xX a b d c r x) ?_;rintro _ C ⟨D,E,k,rfl,o⟩;unfold a6.cM;cases p:a6.bg a b with
 |nil=>exact absurd p y
 |cons F h=>rw[p]at o;obtain⟨G,aM,L,rfl⟩:=o.get (i:=0) rfl;refine aa ?_;simp
theorem xY (b:List (List Int)) (k:List R) (x o:Own) (c:List Int) (d:U) (p:aA isRow b k) (E:b.length<=100000) (F: ∀h∈b,h.length<=1000):
  AC Tryz.prog 93 [.J k x,.J (ad c) o] d λh y=>y=d/\h= .v (.bool (decide (c∈b))):=by
 have G:=p.len;refine aM hm LY ?_;refine gE [0,1] (λa:Nat=> [(5,.v (.int .i64 (a)))]) (λa=>a<=b.length/\ ∀r<a,b.getD r []≠c) (λa=>b.length - a) 0 ⟨a9p,λr L=>by omega⟩ aS ?_;rintro a ⟨P,z⟩ S;refine aa ?_;refine aG (λC=> ?_) λC=> ?_
 .obtain⟨_,T,D,rfl⟩:=p.at [] (e:=a) a9p;refine lW (nn (b.getD a []) c D o d (by grind)) ?_;refine aG (λc2=> ?_) λc2=> ?_
  .exact aP (by grind)
  .exact⟨a+1,⟨a9p,upto z c2⟩,rfl,a9p⟩
 grind[aP,List.getElem_of_mem,List.getD]
def gK (a:List Int->List Int->Bool) (b:List Int):Nat->Nat->List (List Int)->Nat
 | _,at_,[]=>at_
 |c,at_,d::bI=>gK a b (c+1) (if a b d=true then at_ else c) bI
def Ej {d:List Int->List Int->Bool}{h:List Int}: ∀(b:List (List Int)) (k c:Nat),(∀a∈b,d h a=true)->gK d h k c b=c
 | [],_,_,_=>rfl
 |a::b,k,c,o=>by
  rw[gK,if_pos (o a a9q)];exact Ej b _ _ λa p=>o a (by simp[p])
theorem Ek {a:List Int->List Int->Bool}{b:List Int}: ∀(c:List (List Int)) (k:List Int) (d:Nat),c.Pairwise (λo p=>a b o=true->a b p=true)->gK a b (d+1) d c=d+a6.cR a b (k::c)
 | [],k,d,_=>rfl
 |h::c,k,d,r=>by
  have x:=a5w.1 r;rw[gK];have y:a6.cR a b (k::h::c)=if a b h=true then 0 else a6.cR a b (h::c)+1:=rfl;rw[y];by_cases hk:a b h=true;simp_all [Ej]
  .rw[if_neg hk,if_neg hk,Ek c h (d+1) x.2];omega
variable{Q:List (List Int)}{q b6:List Int}
theorem Zh {a:List Int->List Int->Bool} (d:Q.Pairwise (λb c=>a q b=true->a q c=true)):gK a q 0 0 Q=a6.cR a q Q:=by
 cases Q with
 |nil=>rfl
 |cons h Q=>grind[gK,Ek,List.pairwise_cons]
def El {k o:List Int->List Int->Bool}{c:List Int}: ∀(b:List (List Int)) (d h:Nat),(∀a∈b,k c a=o c a)->gK k c d h b=gK o c d h b
 | [],_,_,_=>rfl
 |a::b,d,h,p=>by
  rw[gK,gK,p a a9q];exact El b _ _ λa r=>p a (by simp[r])
def Em {d:List Int->List Int->Bool}{h k:List Int}: ∀(a:List (List Int)) (b c:Nat),gK d h b c (a++ [k])=if d h k=true then gK d h b c a else b+a.length
 | [],b,c=>by rfl
 |o::a,b,c=>by
  rw[a6a,gK,Em a,gK,a4S];split<;>omega
theorem En (b:List (a6.T e)) (y:R) (c:List Int) (z:Own) (h:U) (E:bw h (e+1) (a6.node b) y) (F:c.length<=1000) (G: ∀d∈b,(a6.bg e d).length<=100000/\a6.bg e d≠ []/\(a6.cM e d).length<=1000):
  AC Tryz.prog 163 [y,.J (ad c) z] h λL o=>h.sub o/\L= .v (.int .i64 (gK kD c 0 0 (b.map (a6.cM e)):Int)):=by
 obtain⟨j,l,m,n,rfl,P,p,_,S⟩:=E;rw[a6.fl]at p S;have q:=p.len;have s:gK kD c 0 0 []=0:=rfl;refine aM hm O5 ?_;refine cn [0,1] (λa:Nat=> [(5,.v (.int .i64 (gK kD c 0 0 ((b.map (a6.cM e)).take a)))),(6,.v (.int .i64 (a)))]) (λa o=>a<=b.length/\h.sub o) (λa=>b.length - a) 0 ⟨⟨a9p,U.a1⟩,aS⟩ ?_;rintro a T ⟨k,r⟩ t;have u:=rd r P;refine aa ?_;refine aG (λd=> ?_) λd=> ?_
 .have k:a<b.length:=a9p;have V:=Em (d:=kD) (h:=c) (k:=a6.cM e b[a]) ((b.map (a6.cM e)).take a) 0 0;rw[a4P,a4Y,a6v a9p,show(b.map (a6.cM e)).take a++ [a6.cM e b[a]]=(b.map (a6.cM e)).take (a+1) by simp[a5X,k]]at V;have x:=G _ (a5p k);obtain⟨v,aM,C⟩:=p.get (a4M k);obtain⟨w,_,_,rfl,_⟩:=C.ptr;generalize b[a]=D at*;refine cl (Zg e D _ T (bw.mono r C) x.1 x.2.1) ?_;rintro _ W ⟨f,g,rfl⟩;refine cl (E4 c (a6.cM e D) z g W F x.2.2) ?_;rintro _ A ⟨i,rfl⟩;have B:=U.aq r (U.aq f i);refine aa ?_;refine aG (λc2=> ?_) λc2=> ?_;grind;grind
 .rw[a4N (by rw[a4Y];omega)]
theorem Zi {b c:List Int->List Int->Bool} (d: ∀a∈Q,b a q=c a q):a6.dL b Q q=a6.dL c Q q:=by
 unfold a6.dL;have r: ∀Q:List (List Int),(∀a∈Q,b a q=c a q)->Q.takeWhile (λa=>b a q)=Q.takeWhile (λa=>c a q)/\Q.dropWhile (λa=>b a q)=Q.dropWhile (λa=>c a q):=by
  intro Q
  induction Q with
  |nil=>intro _;trivial
  |cons h Q ih=>intro d;obtain⟨k,o⟩:=ih λa p=>d a (by simp[p]);simp only[a6g,a7n,d h a9q];rw[k,o];trivial
 simp_all
structure GT (d h:Nat) (t:a6.T h):Prop where
 wf:a6.jM h t
 dM:a6.jd bC (a6.bg h t)
 ok: ∀x∈a6.bg h t,bL d x
 dB:(a6.bg h t).length<=1000
def xZ {a:a6.T e} (b:a6.bg e a≠ []):a6.cM e a∈a6.bg e a:=by
 unfold a6.cM;cases c:a6.bg e a with
 |nil=>trivial
 |cons d h=>simp
structure Zj (d:Nat) {h:Nat} (bI:List (a6.T h)) (p:List Int):Prop where
 ne:bI≠ []
 two:2<=bI.length/\bI.length<=4
 gY: ∀c∈bI,GT d h c/\a6.WF h c/\a6.bg h c≠ []/\bL d (a6.cM h c)
 Eo:gK kD p 0 0 (bI.map (a6.cM h))=a6.cR bC p (bI.map (a6.cM h))
 at_: ∃c,bI[a6.cR bC p (bI.map (a6.cM h))]? =some c
theorem GT.kids (x:1<=e) (y:e<=8) {d:List (a6.T i)} (p:GT e (i+1) (a6.node d)) (z:bL e q):Zj e d q:=by
 obtain⟨D,E,T,r⟩:=p.wf;rw[a6.dE]at D E r;have r:=r a9p;have V: ∀a∈d,a6.WF i a:=T;have h:=p.dM;have k:=p.ok;have F:=p.dB;rw[a6.fX]at h k F;have o:d≠ []:=by intro W;subst W;simp at D
 have c: ∀a∈d,GT e i a/\a6.WF i a/\a6.bg i a≠ []/\bL e (a6.cM i a):=by intro a b;have C:=V a b;have f:=a6.gU.1 C;have o:=a6.xB a9p f.2.2;obtain⟨v,w,g⟩:=a7q b;rw[g,a5C,a5o]at h k F;have j:=(a5Q.1 (a5Q.1 h).2.1).1;refine⟨⟨a6.jM.of C,j,λl m=>k l (by simp[m]),by grind⟩,C,o,k _ (by simp[xZ o])⟩
 refine⟨o,⟨r,E⟩,c,?_,?_⟩
 .rw[El _ _ _ λA n=>by
   obtain⟨a,b,rfl⟩:=a5h.1 n;exact E8 x y z (c a b).2.2.2]
  refine Zh ?_;rw[a7j];have s:=(List.pairwise_flatMap.1 h).2;refine a7P (λ{G L} P S t=> ?_) s;intro u;exact(gp x y).trans q _ _ z (c G P).2.2.2 (c L S).2.2.2 u (t _ (xZ (c G P).2.2.1) _ (xZ (c L S).2.2.1))
 .obtain⟨a,b,_⟩:=a6.ux (gp x y) z o (λa b=>by grind[a6.gU]) h k;exact⟨a,b⟩
theorem Zk (P:1<=e) (S:e<=8) (b:List Int) (T:Own) (D:bL e b): ∀(a:Nat) (d:a6.T a) (E:R) (k:U),bw k a d E->GT e a d->b∉a6.bg a d->
  AC Tryz.prog 99 [E,.J (ad b) T] k λV i=>k.sub i/\ ∃x F,V= .J x F/\aA (bw i a) (a6.eT bC b a d) x:=by
 have l6:=D.len;intro a
 induction a with
 |zero=>rintro d _ k ⟨j,M,F,N,rfl,y,c⟩ G l;obtain⟨O,rfl⟩:=a6.hT d;rw[a6.qG]at c;obtain⟨_,Q,_,_⟩:=G.wf;have W:=G.ok;rw[a6.hU]at Q;rw[a6.ky]at W;have m:=U.ae y;refine aM hm Bm ?_;refine cl (Za O M F T b k c a9p (λV X=>by have:=(W V X).len;omega) a9p) ?_;rintro _ n ⟨z,Y,Z,rfl,q⟩;rw[Zi (c:=bC) λj9 s=>E8 P S (W j9 s) D]at q;refine cl (Eh _ Y Z n q (by rw[a6.oo];omega)) ?_;rintro _ l7 ⟨k0,x,k1,rfl,L⟩;refine aa ?_;exact⟨_,U.a1,U.aq z k0,x,k1,rfl,L⟩
 |succ a ih=>
  intro d E k L G l;obtain⟨h,rfl⟩:=a6.gl d;have C:=G.kids P S D;have t:=En h E b T k L a9p λo p=>by
   obtain⟨r,_,l8,k2⟩:=C.gY o p;have:=r.dB;have:=k2.len;grind
  obtain⟨j,l9,F,N,rfl,y,c,_,_⟩:=L;rw[a6.fl]at c;have n0:=c.len;obtain⟨n1,n2⟩:=C.two;have n3: ¬(h.length:Int)=0:=a9p;have m:=U.ae y;obtain⟨o,p⟩:=C.at_;have u:a6.eT bC b (a+1) (a6.node h)=(a6.chunks (h.take (a6.cR bC b (h.map (a6.cM a)))++a6.eT bC b a o++h.drop (a6.cR bC b (h.map (a6.cM a))+1))).map a6.node:=by simp only[a6.eT,a6.fl];rw[p]
  rw[u];rw[C.Eo]at t;clear u;generalize a6.cR bC b (h.map (a6.cM a))=v at*;have n4:=(a4T.1 p).1;obtain⟨r,_,_,_⟩:=C.gY o (a4V p);have w:b∉a6.bg a o:=λs=>l (by rw[a6.fX];grind);obtain⟨_,_,n5,n9⟩:=a6.qM (gp P S) D a o r.wf r.dM r.ok w;have a00:=bw.c c;obtain⟨_,a01,A⟩:=c.get p;obtain⟨a02,_,_,rfl,_⟩:=A.ptr;refine aM hm Bm ?_;refine cl t ?_;rintro _ n ⟨z,rfl⟩;have m:=rd z y;have f:=c.take v;refine sa (bw.c f) λa03 k3 B=> ?_;have a04:=rd (U.aq z B.sub) y;refine cl (ih o _ k3 (A.fT fg) r w) ?_;rintro _ a05 ⟨k4,x,a06,rfl,g⟩;have a07:=g.len;refine kt (B.mono k4) (bw.c f) (bw.c g) (λa08 k5 k6 k7=> ?_);have a09:k5.read j= _:=U.ae du;have H:=(f.mono λ_ _ a=>bw.fT (fg) a).append (g.mono λ_ _=>bw.fT k7);have I:=c.drop (v+1);refine kt k6 (bw.c H) (bw.c I) (λk8 K k9 l0=> ?_);have l1:=(H.mono λ_ _=>bw.fT l0).append (I.mono λ_ _ a=>bw.fT (fg) a);refine cl (xW K _ _ k8 K l1 (by grind) U.a1) ?_;rintro _ a10 ⟨l2,l3,l4,rfl,l5⟩;refine aa ?_;exact⟨_,U.a1,U.aq z (U.aq k9.sub l2),l3,l4,rfl,l5⟩
def eF:eE->List (List Int)
 |none=> []
 |some ⟨a,b⟩=>a6.bg a b
def iI (a:Nat):eE->Prop
 |none=>True
 |some ⟨b,c⟩=>GT a b c
def kE (a:eE) (b:List Int):eE:=
 match a with
 |none=>some ⟨0,a6.leaf [b]⟩
 |some ⟨c,a⟩=>if b∈a6.bg c a then some ⟨c,a⟩else pt (a6.eT bC b c a)
def Zl (z:1<=e) (C:e<=8) (c:List Int) (k:Own) (D:bL e c) (a:eE) (E:R) (o:U) (d:fK o a E) (S:iI e a):
  AC Tryz.prog 55 [E,.J (ad c) k] o λp F=>o.sub F/\ ∃G r,p= .aI [G,.v (.bool r)]/\fK F (kE a c) G:=by
 match a with
 |none=>obtain rfl:=d;refine aM hm Bf ?_;refine dc U.a1 (by simp[aR,R.cells]) λT v V=> ?_;refine aa ?_;refine bp λL W=> ?_;exact⟨_,U.a1,U.aq V.sub (U.af U.a1 W),_,_,rfl,L,_,T,.nil,rfl,U.ai _ _ _,⟨k,rfl⟩,trivial⟩
 |some ⟨x,a⟩=>
  obtain⟨r,L,w,rfl,A⟩:=bw.ptr d;have b:GT e x a:=S;have B:=b.dB;refine aM hm Bf ?_;refine cl (xX x a (.ptr r 0) o d a9p) ?_;rintro _ P ⟨y,f,g,rfl,i⟩;refine lW (xY _ f g k c P i a9p λp j=>by have:=(b.ok p j).len;omega) ?_;refine aG (λh=> ?_) λh=> ?_
  .refine⟨_,U.a1,y,_,_,rfl,?_⟩;simp only[kE,if_pos h];exact bw.mono y d
  .refine cl (Zk z C c k D x a (.ptr r 0) P (bw.mono y d) b h) ?_;rintro _ l ⟨m,n,q,rfl,s⟩;obtain⟨_,_,H,I⟩:=a6.qM (gp z C) D x a b.wf b.dM b.ok h;refine cl (Ze _ n q l s a9p) ?_;rintro p K ⟨t,u⟩;refine aa ?_;refine⟨_,U.a1,U.aq y (U.aq m t),_,_,rfl,?_⟩;simp only[kE,if_neg h];exact u
structure ha (d:Nat) (b:List Int×List Int):Prop where
 ok:cP b.1 b.2 d=true
 aT:cX b.1
 aU:cX b.2
theorem ln:cP q b6 e=true↔1<=e/\e<=8/\q.length=e/\b6.length=e/\ ∀a,a<e->q.getD a 0<=b6.getD a 0:=by unfold cP;grind
theorem Ep {b:Int->Int->Int} (h: ∀a c,b a c=a\/b a c=c) (k:cX q) (o:cX b6):cX (List.zipWith b q b6):=by intro a d;obtain⟨p,r,rfl⟩:=a5y d;grind[List.length_zipWith,List.getElem_mem]
theorem Er {a:Int->Int->Int} (b:e<q.length) (c:e<b6.length):(List.zipWith a q b6).getD e 0=a (q.getD e 0) (b6.getD e 0):=by grind
theorem y0 {d h:List Int×List Int} (a:ha e d) (b:ha e h):ha e (cQ d h):=by
 have c:=ln.1 a.ok;have k:=ln.1 b.ok;unfold cQ;rw[c.2.2.1,k.2.2.1,if_pos a.ok,if_pos b.ok,if_pos rfl];refine⟨ln.2 ⟨c.1,c.2.1,by simp_all,by simp_all,λr x=> ?_⟩,?_,?_⟩;grind
 .exact Ep (λo p=>by omega) a.aT b.aT
 .exact Ep (λo p=>by omega) a.aU b.aU
theorem pv {a:List Int×List Int} (b:ha e a):cQ ([],[]) a=a:=by have c:=ln.1 b.ok;unfold cQ;have:cP ([]) [] ([]:List Int).length=false:=rfl;rw[if_neg (by rw[this];simp),c.2.2.1,if_pos b.ok]
def y2 (c:1<=e) (d:e<=8) (a:bL e q):ha e (gj q):=by have b:=a.len;unfold gj;rw[if_pos a9p];exact⟨ln.2 ⟨c,d,b,b,λ_ _=>a8M _⟩,a.jR,a.jR⟩
structure mg (d:Nat) (n:Nat) (y:gG):Prop where
 live:y.live=n
 aO:(n=0/\y.aO=([],[]))\/(0<n/\ha d y.aO)
theorem Es {h:Nat} (o:1<=h) (p:h<=8): ∀(b:List (List Int)) (c:Nat) (a:gG),(∀d∈b,bL h d)->mg h c a->mg h (c+b.length) ((b.map λd=>(d,true)).foldl dK a)
 | [],c,a,_,k=>by trivial
 |d::b,c,a,r,k=>by
  rw[a5k,a5S,a4S,show c+(b.length+1)=(c+1)+b.length by omega];refine Es o p b (c+1) _ (λy z=>r y (by simp[z])) ?_;have C:=y2 o p (r d a9q);rw[dK,if_pos rfl];refine⟨by rw[show(({a with live:=a.live+1,aO:=cQ a.aO (gj d)}:gG)).live=a.live+1 from rfl,k.live];omega,.inr ⟨a9p,?_⟩⟩;rcases k.aO with ⟨_,x⟩|⟨_,x⟩;grind[cQ,gj,pv]
  .exact y0 x C
structure jf (d n:Nat) (k:az):Prop where
 sum:k.sum.length=32
 live:k.live=n
 size:k.size=n
 pos:1<=n
 aO:ha d (k.aT,k.aU)
 key:bL d k.key
def Et {k:Nat}: ∀(a:List (az×Nat)) (b:Nat) (d:gG),(∀c∈a,jf k c.2 c.1)->mg k b d->mg k (b+(a.map Prod.snd).sum) ((a.map Prod.fst).foldl ep d)
 | [],b,d,_,o=>by trivial
 |(c,h)::a,b,d,y,o=>by
  have p:=y (c,h) a9q;simp only[a5k,a5S,a7U];rw[show b+(h+(a.map Prod.snd).sum)=(b+h)+(a.map Prod.snd).sum by omega];refine Et a (b+h) _ (λz C=>y z (by simp[C])) ?_;have r:=p.aO;have D:=p.pos;refine⟨?_,.inr ⟨by have:1<=h:=D;omega,?_⟩⟩
  .show d.live+c.live= _;rw[o.live,p.live];push_cast;rfl
  .show ha k (cQ d.aO (c.aT,c.aU));rcases o.aO with ⟨_,x⟩|⟨_,x⟩
   .rw[x,pv r];exact r
   .exact y0 x r
def c4:(a:Nat)->a6.T a->az
 |0,b=>eQ (dT (a6.rows b))
 |a+1,b=>eQ (ek ((a6.kids b).map (c4 a)))
def dy:(a:Nat)->a6.T a->c3
 |0,b=>dT (a6.rows b)
 |a+1,b=>ek ((a6.kids b).map (c4 a))
def sG: ∀ {a:Nat}{b:a6.T a},c4 a b=eQ (dy a b)
 |0,_=>rfl
 | _+1,_=>rfl
def Zm:dy 0 (a6.leaf Q)=dT Q:=rfl
def y3 {a:List (a6.T e)}:dy (e+1) (a6.node a)=ek (a.map (c4 e)):=rfl
structure eV (d h:Nat) (t:a6.T h):Prop where
 wf:a6.jM h t
 ok: ∀x∈a6.bg h t,bL d x
 dB:(a6.bg h t).length<=1048576
def GT.jS {b:a6.T e} (a:GT i e b):eV i e b:=⟨a.wf,a.ok,by have:=a.dB;omega⟩
theorem eV.gY {d:List (a6.T e)} (b:eV i (e+1) (a6.node d)): ∀a∈d,eV i e a/\a6.WF e a:=by obtain⟨z,C,p,D⟩:=b.wf;have c:=b.ok;have h:=b.dB;rw[a6.fX]at c h;intro a k;have o:=p a k;obtain⟨E,F,r⟩:=a7q k;rw[r,a5C,a5o]at c h;exact⟨⟨a6.jM.of o,λx y=>c x (by simp[y]),by grind⟩,o⟩
def eV.ne {a:a6.T e} (b:eV i e a):a6.bg e a≠ []:=a6.xB b.wf.1 b.wf.2.2.1
structure y4 (d n:Nat) (x:c3):Prop where
 y5:x.In d
 kF:jf d n (eQ x)
 ow:fF d x=some (eQ x)
variable{A j2:az}
def jf.ne (a:jf e i A):A≠ay:=by rintro rfl;have:=a.size;have:=a.pos;simp[ay]at*;omega
theorem jf.ok {b c:Nat}{d:az} (a:jf b c d) (h:c<=1048576):fv b d=true:=by have k:=a.size;have o:=a.live;have p:=a.pos;unfold fv;rw[decide_eq_false a.ne,a9d,a4Q];refine⟨a9r,?_⟩;rw[if_neg a9p];exact a.aO.ok
def jf.kF (a:jf e i A) (c:i<=1048576):A.In e:=by have d:=a.size;have h:=a.live;have k:=a.pos;have b:=ln.1 a.aO.ok;have o:A.aT.length=e:=b.2.2.1;have p:A.aU.length=e:=b.2.2.2.1;have r:=a.key.len;exact⟨a.sum,a.aO.aT,a.aO.aU,a.key.jR,a9p,a9p,a9p,a9p,a9p,a9p,a9p⟩
theorem uy (o:1<=e) (p:e<=8) (c:1<=Q.length) (r:Q.length<=4) (b: ∀a∈Q,bL e a):y4 e Q.length (dT Q):=by
 have x:dS e (dT Q)=true:=by unfold dS dT;simp only[a9m,a4Y,List.all_nil,a9c,a4W,decide_true,a4Q,a5e,decide_eq_true_eq,Function.comp];refine⟨λa d=>(b a d).len,?_⟩;simp[c,r]
 have h:=Es o p Q 0 ⟨0,(dT Q).rows.length,([],[])⟩ b ⟨rfl,.inl ⟨rfl,rfl⟩⟩;have y:eD (dT Q)=(Q.map λa=>(a,true)).foldl dK ⟨0,(dT Q).rows.length,([],[])⟩:=rfl;rw[<-y,a5m]at h;have z:(eD (dT Q)).size=Q.length:=by rw[xM];simp[dT]
 have C:ha e (eD (dT Q)).aO:=by
  rcases h.aO with ⟨k,_⟩|⟨_,k⟩
  .omega
  .exact k
 refine⟨⟨x,λa d=> ?_,λF G=>by trivial⟩,⟨oc _,h.live,z,c,C,?_⟩,?_⟩
 .obtain⟨D,E,rfl⟩:=a5h.1 d;exact(b D E).jR
 .show bL e (keyOf (dT Q))
  match Q,c with
  |a::Q,_=>exact b a a9q
 .unfold fF;grind
def Zn:(eQ (dT Q)).key=Q.headD []:=by show keyOf (dT Q)= _;cases Q<;>rfl
theorem Zo {a:List (az×Nat)} (o:2<=a.length) (z:a.length<=4) (c: ∀b∈a,jf e b.2 b.1) (p:(a.map Prod.snd).sum=i) (L:i<=1048576):y4 e i (ek (a.map Prod.fst)):=by
 have r: ∀b∈a,b.2<=i:=λb c=>by
  rw[<-p];obtain⟨P,S,rfl⟩:=a7q c;simp;omega
 have C:dS e (ek (a.map Prod.fst))=true:=by unfold dS ek;simp only[a9m,a4Y,List.all_nil,a6k,a4W,decide_true,a4Q,a5e,Function.comp];refine⟨λb d=>(c b d).ok (by have:=r b d;omega),?_⟩;simp[o,z];exact λT V d=>⟨(c _ d).key.len,(c _ d).ne⟩
 have x:=Et a 0 ⟨0,0,([],[])⟩ c ⟨rfl,.inl ⟨rfl,rfl⟩⟩;have D:eD (ek (a.map Prod.fst))=(a.map Prod.fst).foldl ep ⟨0,0,([],[])⟩:=rfl;rw[<-D,a5m,p]at x;have E:1<=i:=by
  match a,o with
  |b::a,_=>have:=(c b a9q).pos;have:=r b a9q;omega
 have F:(eD (ek (a.map Prod.fst))).size=i:=by
  rw[xM,<-p];have: ∀(a:List (az×Nat)),(∀b∈a,jf e b.2 b.1)->(((a.map Prod.fst).map (·.size)).sum:Int)=(((a.map Prod.snd).sum:Nat):Int):=by
   intro a
   induction a with
   |nil=>intro _;rfl
   |cons b a ih=>intro d;simp only[a5k,a7U];rw[ih λh k=>d h (by simp[k]),(d b a9q).size];push_cast;rfl
  simp only[ek,a4W];rw[this a c];simp
 have G:ha e (eD (ek (a.map Prod.fst))).aO:=by
  rcases x.aO with ⟨y,_⟩|⟨_,y⟩
  .omega
  .exact y
 refine⟨⟨C,λW f=>by trivial,λb d=> ?_⟩,⟨oc _,x.live,F,E,G,?_⟩,?_⟩
 .obtain⟨h,k,rfl⟩:=a5h.1 d;exact(c h k).kF (by have:=r h k;omega)
 .show bL e (keyOf (ek (a.map Prod.fst)))
  match a,o with
  |b::a,_=>exact(c b a9q).key
 .unfold fF;grind
def nq {r:Nat} (y:1<=r) (z:r<=8): ∀(a:Nat) (c:a6.T a),eV r a c->y4 r (a6.bg a c).length (dy a c)/\(c4 a c).key=a6.cM a c
 |0,c,d=>by
  obtain⟨E,rfl⟩:=a6.hT c;obtain⟨x,k,_⟩:=d.wf;rw[a6.hU]at x k;have C:=d.ok;rw[a6.ky]at C;exact⟨uy y z x k C,Zn⟩
 |a+1,c,d=>by
  obtain⟨h,rfl⟩:=a6.gl c;obtain⟨x,k,S,o⟩:=d.wf;rw[a6.dE]at x k o;have o:=o a9p;have D:=d.gY;have F:=d.dB;have ih:=λb p=>nq y z a b (D b p).1;have G:(h.map λb=>(c4 a b,(a6.bg a b).length)).map Prod.fst=h.map (c4 a):=by rw[a6P];rfl
  have L:((h.map λb=>(c4 a b,(a6.bg a b).length)).map Prod.snd).sum=(a6.bg (a+1) (a6.node h)).length:=by rw[a6P,a6.fX,List.length_flatMap];rfl
  have:=Zo (by simpa using o) (by simpa using k) (λT P=>by
   obtain⟨b,p,rfl⟩:=a5h.1 P;simp only[sG];exact(ih b p).1.kF) L F
  rw[G]at this;refine⟨this,?_⟩
  match h,o with
  |b::h,_=>
   show(c4 a b).key= _;have p:=ih b a9q;rw[p.2];unfold a6.cM;rw[a6.fX,a5o];have:=(D b a9q).1.ne;cases V:a6.bg a b with
   |nil=>trivial
   |cons W E=>rfl
def uz (b:1<=i) (c:i<=8) {a:a6.T e} (d:eV i e a):jf i (a6.bg e a).length (c4 e a):=by rw[sG];exact(nq b c e a d).1.kF
def Zp (b:1<=i) (c:i<=8) {a:a6.T e} (d:eV i e a):(c4 e a).key=a6.cM e a:=(nq b c e a d).2
theorem eV.high {r:Nat}: ∀(a:Nat) (b:a6.T a),eV r a b->a+1<=(a6.bg a b).length
 |0,b,c=>by
  have:=c.ne;grind
 |a+1,b,c=>by
  obtain⟨h,rfl⟩:=a6.gl b;obtain⟨x,y,z,d⟩:=c.wf;rw[a6.dE]at x y d;have d:=d a9p;have k:=c.gY
  match h,d with
  |o::p::h,_=>have C:=eV.high a o (k o a9q).1;have D:=eV.high a p (k p a9q).1;rw[a6.fX,a5o,a5o];simp only[a4O];omega
structure ah.le (a c:ah):Prop where
 m: ∀d b,a.m d=some b->c.m d=some b
 one:a.one=true->c.one=true
variable{H:ah}
theorem ah.le_refl:H.le H:=⟨λ_ _ a=>a,λa=>a⟩
theorem ah.le.trans {b c:ah} (d:H.le b) (h:b.le c):H.le c:=⟨λ_ _ a=>h.m _ _ (d.m _ _ a),λa=>h.one (d.one a)⟩
def ah.le.zero {a:ah} (c:H.le a) (b:a.one=false):H.one=false:=by
 cases d:H.one with
 |false=>rfl
 |true=>rw[c.one d]at b;cases b
theorem lo (b:ah) (c:List UInt8):b.le (eK b c):=by
 unfold eK;split
 .rename_i a;refine⟨λd h k=> ?_,λa=>a⟩;grind
 .split
  .exact⟨λ_ _ a=>a,λ_=>rfl⟩
  .exact ah.le_refl
variable{w:List UInt8}
theorem qN (a:(eK H w).one=false):(eK H w).m (eP w)=some w:=by unfold eK at a|-;grind
variable{b9:c3}
theorem qO (b:fF e b9=some (eQ b9)) (a:ah):dx a e b9=(.ok (eQ b9),eK a (cW b9)):=by unfold dx;rw[b]
def gq (c:ah):(b:Nat)->a6.T b->Prop
 |0,a=>c.m (c4 0 a).sum=some (cW (dy 0 a))
 |b+1,a=>c.m (c4 (b+1) a).sum=some (cW (dy (b+1) a))/\ ∀d∈a6.kids a,gq c b d
def gq.mono {c d:ah} (b:c.le d): ∀ {a:Nat}{h:a6.T a},gq c a h->gq d a h
 |0,_,a=>b.m _ _ a
 | _+1,_,a=>⟨b.m _ _ a.1,λk o=>gq.mono b (a.2 k o)⟩
def gq.Zq: ∀ {a:Nat}{b:a6.T a},gq H a b->H.m (c4 a b).sum=some (cW (dy a b))
 |0,_,a=>a
 | _+1,_,a=>a.1
def Eu {a:a6.T e}:(dy e a).kind=if e=0 then 2 else 3:=by cases e<;>rfl
def Zr (c:1<=i) (d:i<=8) {a:a6.T e} (h:eV i e a) (k:gq H e a):fk H i (c4 e a)=some (dy e a):=by have b:=(nq c d e a h).1;unfold fk;rw[k.Zq];simp only;rw[D4 a9p b.y5];simp only;rw[b.ow,sG,if_pos rfl]
theorem qP (b:1<=i) (c:i<=8) {a:a6.T e} (d:eV i e a) (h:gq H e a):iD H i (c4 e a)=some (dy e a):=by simp_all [iD,Zr,Eu]
theorem y6 {r:Type}{b:List r->c3}{x:Nat}: ∀(gs:List (List r)) (c:ah) (h:List az),(∀a∈gs,fF x (b a)=some (eQ (b a)))->
  ∃d,et b x c gs h=(.ok (h++gs.map λa=>eQ (b a)),d)/\c.le d/\(d.one=false-> ∀a∈gs,d.m (eP (cW (b a)))=some (cW (b a)))
 | [],c,h,_=>⟨c,by simp[et],ah.le_refl,λ_ a z=>by cases z⟩
 |a::gs,c,h,C=>by
  obtain⟨d,E,o,D⟩:=y6 gs (eK c (cW (b a))) (h++ [eQ (b a)]) (λp k=>C p (by simp[k]));refine⟨d,?_,(lo _ _).trans o,λy p k=> ?_⟩;grind[et,qO]
  .rcases a5j.1 k with rfl|k
   .exact o.m _ _ (qN (o.zero y))
   .exact D y p k
structure Laid (a:ah) (h:Nat) (sd:List (a6.T h)) (r:Except Int (List az)×ah):Prop where
 ok:r.1= .ok (sd.map (c4 h))
 le:a.le r.2
 ins:r.2.one=false-> ∀c∈sd,gq r.2 h c
def Ev {a:a6.T e} (b:a6.WF e a) (c: ∀d∈a6.bg e a,bL i d) (h:(a6.bg e a).length<=1048576):eV i e a:=⟨a6.jM.of b,c,h⟩
theorem Ew (o:1<=e) (p:e<=8) (h:ah) (a:List (List Int)) (r:1<=a.length) (L:a.length<=5) (x: ∀c∈a,bL e c):Laid h 0 ((a6.chunks a).map a6.leaf) (oq h e a):=by
 have k: ∀b∈a6.chunks a,1<=b.length/\b.length<=4/\ ∀c∈b,c∈a:=by
  by_cases y:a.length=5
  .rw[a6.sz y];grind
  .rw[a6.po r a9p];grind
 obtain⟨P,z,C,D⟩:=y6 (a6.chunks a) h [] (λb d=>(uy o p (k b d).1 (k b d).2.1 (λc E=>x c ((k b d).2.2 c E))).ow);unfold oq;rw[z];refine⟨?_,C,λF S G=> ?_⟩
 .rw[a5f,a6P];rfl
 .obtain⟨b,d,rfl⟩:=a5h.1 G;exact D F b d
theorem y7 (C:1<=i) (D:i<=8) (p:ah) (a:List (a6.T e)) (f:2<=a.length) (g:a.length<=5) (E: ∀d∈a,a6.WF e d) (j: ∀F∈a.flatMap (a6.bg e),bL i F) (l:(a.flatMap (a6.bg e)).length<=1048576)
  (G: ∀o,p.le o->o.one=false-> ∀d∈a,gq o e d):Laid p (e+1) ((a6.chunks a).map a6.node) (jN p i (a.map (c4 e))):=by
 have r: ∀b∈a6.chunks a,2<=b.length/\b.length<=4/\(∀d∈b,d∈a)/\(b.flatMap (a6.bg e)).length<=(a.flatMap (a6.bg e)).length:=by
  by_cases x:a.length=5
  .rw[a6.sz x];simp only[a5j,a6m,or_false,forall_eq_or_imp,forall_eq,a4P,a5d];have L:a.flatMap (a6.bg e)=(a.take 3).flatMap (a6.bg e)++(a.drop 3).flatMap (a6.bg e):=by rw[<-a5C,a5t]
   grind
  .rw[a6.po a9p a9p];grind
 have P: ∀b∈a6.chunks a,eV i (e+1) (a6.node b):=λb h=>by
  obtain⟨m,n,d,L⟩:=r b h;refine Ev (a6.gU.2 ⟨by rw[a6.dE];omega,by rw[a6.dE];omega,λc k=>E c (d c k)⟩) (λc k=> ?_) (by rw[a6.fX];omega);grind[a6.fX]
 have S:a6.chunks (a.map (c4 e))=(a6.chunks a).map (List.map (c4 e)):=by by_cases x:a.length=5;simp_all [a6.sz];grind[a6.po,c4]
 obtain⟨o,T,y,V⟩:=y6 (b:=ek) ((a6.chunks a).map (List.map (c4 e))) p [] (λb h=>by
  obtain⟨c,k,rfl⟩:=a5h.1 h;exact(nq C D (e+1) (a6.node c) (P c k)).1.ow)
 unfold jN;rw[S,T];refine⟨?_,y,λz d W=> ?_⟩
 .rw[a5f,a6P,a6P];rfl
 .obtain⟨b,h,rfl⟩:=a5h.1 W;exact⟨V z _ (a5h.2 ⟨b,h,rfl⟩),λc k=>G o y z c ((r b h).2.2.1 c k)⟩
theorem Ex:mc q b6<0↔bC q b6=true:=by grind[mc]
theorem y8 (b:1<=e) (c:e<=8) (d:bL e q) (h:bL e b6):mc q b6=0↔q=b6:=by
 unfold mc;constructor
 .intro a;split at a
  .omega
  .rename_i k;split at a
   .omega
   .rename_i o;exact(gp b c).total q b6 d h (by simpa using k) (by simpa using o)
 .rintro rfl;rw[sF];simp
theorem y9 {y:Nat} (z:1<=y) (C:y<=8) {c:List (List Int)}{k:List Int} (E:a6.jd bC c) (r: ∀d∈c,bL y d) (D:bL y k): ∀(p h b:Nat),h<=b->b<=c.length->b - h<=p->
  (∀a d,c[a]? =some d->a<h->bC d k=true)->(∀a d,c[a]? =some d->b<=a->bC d k=false)->
  (∀a d,c[a]? =some d->a<mf c k p h b->bC d k=true)/\(∀a d,c[a]? =some d->mf c k p h b<=a->bC d k=false)/\mf c k p h b<=c.length
 |0,h,b,T,G,V,h1,L=>by
  obtain rfl:h=b:=a9p;trivial
 |p+1,h,b,T,G,V,h1,L=>by
  rw[mf];by_cases W:h<b
  .rw[if_pos W];have hm:(h+b)/2<c.length:=a9p;have e:=a4M hm;rw[e];simp only;have P:=a6n.1 E;have S:=r _ (a5p hm);by_cases o:mc c[(h+b)/2] k<0
   .rw[if_pos o];have o:=Ex.1 o;refine y9 z C E r D p _ _ a9p G a9p (λa d F f=> ?_) L;by_cases he:a=(h+b)/2;simp_all
    .obtain⟨x,rfl⟩:=a4T.1 F;exact(gp z C).trans _ _ _ (r _ (a5p x)) S D (P a _ x hm a9p) o
   .rw[if_neg o];have o:bC c[(h+b)/2] k=false:=by simp_all [absurd,Ex]
    refine y9 z C E r D p _ _ a9p a9p a9p h1 (λa d F f=> ?_);by_cases he:a=(h+b)/2;simp_all
    .obtain⟨x,rfl⟩:=a4T.1 F;cases g:bC c[a] k with
     |false=>rfl
     |true=>have:=(gp z C).trans _ _ _ S (r _ (a5p x)) D (P _ a hm x a9p) g;rw[this]at o;cases o
  grind
theorem Ey (c:1<=e) (d:e<=8) (h:a6.jd bC Q) (k: ∀a∈Q,bL e a) (o:bL e q):
  (∀b a,Q[b]? =some a->b<eU Q q->bC a q=true)/\(∀b a,Q[b]? =some a->eU Q q<=b->bC a q=false)/\eU Q q<=Q.length:=
 y9 c d h k o Q.length 0 Q.length a9p (a5s _) a9p (λb a _ p=>by omega) (λb a r p=>by
  simp_all)
theorem Zs (h:1<=e) (k:e<=8) (o:a6.jd bC Q) (p: ∀b∈Q,bL e b) (r:bL e q):Q.take (eU Q q)++q::Q.drop (eU Q q)=a6.dL bC Q q:=by
 obtain⟨D,x,E⟩:=Ey h k o p r;generalize eU Q q=a at*;have y: ∀b∈Q.take a,bC b q=true:=λb z=>by
  obtain⟨F,G,rfl⟩:=a5y z;grind
 conv=>rhs;rw[<-a5t a Q]
 rw[a6.xC y];congr 1;unfold a6.dL;cases C:Q.drop a with
 |nil=>rfl
 |cons c d=>
  have:Q[a]? =some c:=by have:=congrArg (λd=>d[0]?) C;simpa using this
  have:=x a c this (a5s _);simp[this]
theorem ya (d:1<=e) (h:e<=8) (k:a6.jd bC Q) (r: ∀x∈Q,bL e x) (c:bL e q):kA Q q=decide (q∈Q):=by
 obtain⟨F,y,G⟩:=Ey d h k r c;unfold kA;by_cases o:q∈Q
 .obtain⟨a,hm,z⟩:=a5y o;have C:Q[a]? =some q:=by simp_all
  have D:=a6n.1 k;have E:a=eU Q q:=by
   rcases a8t a (eU Q q)with b|b|b;grind[sF]
   .exact b
   .have p:=D (eU Q q) a a9p hm b;rw[z]at p;have:=y (eU Q q) _ (a4M a9p) (a5s _);rw[p]at this;cases this
  rw[<-E,C,decide_eq_true o];simp only;rw[decide_eq_true];exact(y8 d h c c).2 rfl
 grind[decide_eq_false,eU,List.mem_of_getElem?,y8]
theorem Zt (d:1<=e) (h:e<=8) (p:a6.jd bC Q) (k: ∀b∈Q,bL e b) (o:bL e q) (r:q∈Q):Q.take (eU Q q)++Q.drop (eU Q q+1)=Q.filter λb=>decide (b≠q):=by
 have a:=ya d h p k o;rw[decide_eq_true r]at a;unfold kA at a;generalize eU Q q=x at*;cases c:Q[x]? with
 |none=>rw[c]at a;cases a
 |some b=>rw[c]at a;simp only[decide_eq_true_eq]at a;obtain rfl:=(y8 d h (k b (a4V c)) o).1 a;have y:=a6.qL c;grind[List.pairwise_cons,List.filter_cons_of_neg,a6.filter_none,sF]
def jT:H.le (dx H e b9).2:=by
 unfold dx;split
 .exact ah.le_refl
 .exact lo _ _
def yb {h:Type}{c:List h->c3}{d:Nat}: ∀(gs:List (List h)) (a:ah) (b:List az),a.le (et c d a gs b).2
 | [],a,b=>ah.le_refl
 |k::gs,a,b=>by
  have o:=jT (H:=a) (e:=d) (b9:=c k);rw[et];generalize dx a d (c k)=p at*;obtain⟨r,x⟩:=p;cases r with
  |error z=>exact o
  |ok y=>exact o.trans (yb gs x (b++ [y]))
def Ez:H.le (oq H e Q).2:=yb _ _ _
def yc {a:List az}:H.le (jN H e a).2:=yb _ _ _
def EA {c:Nat}{b:List Int}: ∀(d:Nat) (a:ah) (h:az),a.le (gm c b d a h).2
 |0,a,h=>ah.le_refl
 |d+1,a,h=>by
  rw[gm];cases iD a c h with
  |none=>exact ah.le_refl
  |some k=>
   simp only;by_cases o:k.kind=2
   .rw[if_pos o];by_cases p:kA (k.rows.map Prod.fst) b=true
    .rw[if_pos p];exact ah.le_refl
    .rw[if_neg p];exact Ez
   .rw[if_neg o];cases k.kids[ht b k]? with
    |none=>exact ah.le_refl
    |some r=>
     have x:=EA (c:=c) (b:=b) d a r;simp only;generalize gm c b d a r=y at*;obtain⟨z,C⟩:=y;cases z with
     |error D=>exact x
     |ok E=>exact x.trans yc
def EB {d:Nat}: ∀(h:Nat) (a:ah) (b:List az),a.le (iE d h a b).2
 |0,a,b=>ah.le_refl
 |h+1,a,b=>by
  rw[iE];by_cases c:1<b.length
  .rw[if_pos c];have c:=yc (H:=a) (e:=d) (a:=b);generalize jN a d b=k at*;obtain⟨o,p⟩:=k;cases o with
   |error x=>exact c
   |ok r=>exact c.trans (EB h p r)
  .rw[if_neg c];exact ah.le_refl
def EC:H.le (je e q H A).2:=by
 unfold je;split
 .exact jT
 .have a:=EA (c:=e) (b:=q) (A.size.toNat+1) H A;generalize gm e q (A.size.toNat+1) H A=b at*;obtain⟨c,d⟩:=b;cases c with
  |error h=>exact a
  |ok k=>exact a.trans (EB _ _ _)
variable{I:Bool}
theorem ED {a:List az}:H.le (me H e I Q a).2:=by unfold me;split<;>exact jT
theorem join_le {a b:hV}:H.le (kB H e a b).2:=by
 unfold kB;split
 .exact Ez
 .exact yc
theorem Zu {c:List az}{a:hV}:H.le (jQ H e c i a).2:=by
 unfold jQ;by_cases b:2<=a.rows.length+a.kids.length
 .rw[if_pos b];grind[ED,me]
 .rw[if_neg b];grind[ah.le_refl,iD,join_le,gX,kB]
def EE {d:Nat}{b:List Int}: ∀(k:Nat) (c:ah) (o:az),c.le (hX d b k c o).2
 |0,c,o=>ah.le_refl
 |k+1,c,o=>by
  rw[hX];cases iD c d o with
  |none=>exact ah.le_refl
  |some a=>
   simp only;by_cases h:a.kind=2
   .rw[if_pos h];by_cases y:kA (a.rows.map Prod.fst) b=true
    .rw[if_pos y];exact ah.le_refl
    .rw[if_neg y];exact ah.le_refl
   .rw[if_neg h];cases a.kids[ht b a]? with
    |none=>exact ah.le_refl
    |some z=>
     have p:=EE (d:=d) (b:=b) k c z;simp only;generalize hX d b k c z=r at*;obtain⟨x,C⟩:=r;cases x with
     |error E=>exact p
     |ok D=>
      have h:=Zu (H:=C) (e:=d) (c:=a.kids) (i:=ht b a) (a:=D);simp only;generalize jQ C d a.kids (ht b a) D=r at*;obtain⟨x,F⟩:=r;cases x with
      |error E=>exact p.trans h
      |ok G=>exact p.trans h
theorem EF:H.le (ll e q H A).2:=by
 unfold ll;split
 .exact ah.le_refl
 .have a:=EE (d:=e) (b:=q) (A.size.toNat+1) H A;generalize hX e q (A.size.toNat+1) H A=b at*;obtain⟨c,d⟩:=b;cases c with
  |error h=>exact a
  |ok k=>
   simp only;split
   .exact a
   .split
    .exact a
    .exact a.trans ED
def hZ (a b:Int):Int:=if a<b then -1 else if b<a then 1 else 0
def fL:List Int->List Int->Int
 | [],[]=>0
 | [],_:: _=> -1
 | _:: _,[]=>1
 |a::c,b::d=>if hZ a b=0 then fL c d else hZ a b
def EG (b:Int) (a:U):AC Tryz.prog 269 [.v (.int .i64 b)] a λc d=>d=a/\c= .v (.bool false):=by
 refine aM hm QS ?_
 repeat' first|refine aG (λ_=> ?_) λ_=> ?_|trivial
def EH (b c:Int) (a:U):AC Tryz.prog 185 [.v (.int .i64 b),.v (.int .i64 c)] a λd h=>h=a/\d= .v (.int .i64 (hZ b c)):=by
 refine aM hm OM ?_;refine bc (EG b a) ?_;refine bc (EG c a) ?_
 repeat' first|refine aG (λ_=> ?_) λ_=> ?_|trivial
 .rw[hZ,if_pos ‹_›]
 .rw[hZ,if_neg ‹_›,if_pos ‹_›]
 .rw[hZ,if_neg ‹_›,if_neg ‹_›]
theorem drop_cons {a:List b0}{b:b0} (c:e<a.length):a.drop e=a.getD e b::a.drop (e+1):=by simp_all
theorem sH {a:List b0} (b:a.length<=e):a.drop e= []:=a5A b
theorem EI (b c:List Int) (h k:Own) (d:U) (y:b.length<=1000000000000):AC Tryz.prog 120 [.J (ad b) h,.J (ad c) k] d λo p=>p=d/\o= .v (.int .i64 (fL b c)):=by
 have z:=bH (q:=b);have C:=bH (q:=c);have D:= @dJ b;have E:= @dJ c;refine aM hm ML ?_;refine gE [0,1,9,10] (λa:Nat=> [(11,.v (.int .i64 a))]) (λa=>a<=b.length/\a<=c.length/\fL b c=fL (b.drop a) (c.drop a)) (λa=>b.length - a) 0 ⟨a9p,a9p,rfl⟩ aS ?_;rintro a ⟨F,G,L⟩ P;refine aa ?_;refine aG (λr=> ?_) λr=> ?_
 .refine aG (λx=> ?_) λx=> ?_
  .rw[drop_cons (b:=0) a9p,sH (a:=c) a9p,fL]
  .have S:=drop_cons (a:=b) (b:=0) (e:=a) a9p;have T:=drop_cons (a:=c) (b:=0) (e:=a) a9p;refine bc (EH _ _ _) ?_;refine aG (λc2=> ?_) λc2=> ?_
   .rw[fL,if_neg c2]
   .rw[fL,if_pos a9p];grind
 .repeat' first|refine aG (λ_=> ?_) λ_=> ?_|trivial
  .rw[sH a9p,drop_cons (b:=0) a9p,fL]
  grind[sH,fL]
def cH (a:Nat) (b c:List Int):Int:=if hZ (b.getD a 0) (c.getD a 0)=0 then fL b c else hZ (b.getD a 0) (c.getD a 0)
def EJ (a b:List Int) (o p:Own) (c:Nat) (d:U) (h:Nat) (z:d.read h=some [.v (.int .i64 (c:Int))]) (C:c<a.length) (D:c<b.length) (r:a.length<=1000000000000):
  AC Tryz.prog 336 [.J (ad a) o,.J (ad b) p,.ptr h 0] d λx y=>y=d/\x= .v (.int .i64 (cH c a b)):=by
 have E:= @dJ a;have F:= @dJ b;refine aM hm Sf ?_;refine bc (EH _ _ _) ?_;refine aG (λk=> ?_) λk=> ?_
 .rw[cH,if_neg k]
 .refine bc (EI _ _ _ _ _ r) ?_;rw[cH,if_pos a9p]
def EK (o a b:Nat) (y:0<a) (z:b<=1000000000000) (C:a<=8) (d:U):
  AC Tryz.prog 299 [dU o a,.v (.int .i64 (b:Int))] d λp h=>d.sub h/\ ∃c,h c=some (.cells [.v (.int .i64 ((b%a:Nat):Int))])/\d c=none/\p= .bG 336 [] [.ptr c 0]:=by
 have D:(b:Int).tmod (a:Int)=((b%a:Nat)):=rfl;have E: ¬(a:Int)=0:=a9p;refine aM hm Rz ?_;refine bp λc r=> ?_;refine cV λx k F G=> ?_;refine⟨_,U.a1,?_,x,U.ai _ _ _,k,rfl⟩;exact U.af (U.af U.a1 r) k
def EL (c d:List Int) (h k:Own) (o a b:Nat) (p:0<a) (x:a<=8) (y:b<=1000000000000) (P:c.length=a) (S:d.length=a) (r:U):
  AC Tryz.prog 231 [dU o a,.J (ad c) h,.J (ad d) k,.v (.int .i64 (b:Int))] r λz C=>C=r/\z= .v (.int .i64 (if cH (b%a) c d<0 then 0 else 1)):=by
 have T:=a6Q b p;refine aM hm Q0 ?_;refine bp λV D=> ?_;refine ag (EK o a b p y x _) ?_;rintro _ E ⟨F,G,L,_,rfl⟩;refine aa ?_;refine fD a9v (EJ c d h k (b%a) E G (U.ae L) a9p a9p a9p) ?_;rintro _ _ ⟨rfl,rfl⟩;refine aa ?_
 repeat' first|refine aG (λ_=> ?_) λ_=> ?_|trivial
 all_goals exact U.aq (U.af U.a1 D) F
structure ox where
 prev:List UInt8
 num:Int
 ops:List UInt8
 EM:List UInt8
 deriving DecidableEq
def ox.ok (a:ox):Prop:=a.prev.length=32/\a.ops.length=32/\a.EM.length=32
def Zv (a:List UInt8) (b:Int) (c d:List UInt8):List R:=a.map ak++(.v (.int .i64 b)::(c.map ak++d.map ak))
def ox.C (a:ox):List R:=Zv a.prev a.num a.ops a.EM
def ox.V (a:ox):R:= .agg a.C
def ox.may (a:ox):Bool:=decide (0<=a.num)&&decide (a.num<=1099511627776)
theorem yd (a:List UInt8) (b:Nat) (c:b<a.length):(⟨a.toArray⟩:ByteArray).get! b=a[b]:=by simp[ByteArray.get!,c]
theorem EN (a:List UInt8) (b:Nat) (c:b<a.length) (d:a[b].toNat<128):Utf8.decode ⟨a.toArray⟩ b=(a[b].toNat,1):=by simp[Utf8.decode,yd a b c,d]
theorem decode_high (b:List UInt8) (a:Nat) (E:a<b.length) (F:128<=b[a].toNat):
  128<=(Utf8.decode ⟨b.toArray⟩ a).1/\(Utf8.decode ⟨b.toArray⟩ a).1<=1114111/\1<=(Utf8.decode ⟨b.toArray⟩ a).2/\a+(Utf8.decode ⟨b.toArray⟩ a).2<=b.length/\
   ∀c,(r:c<b.length)->a<=c->c<a+(Utf8.decode ⟨b.toArray⟩ a).2->128<=b[c].toNat:=by
 have f: ∀c,(r:c<b.length)->a<=c->c<a+1->128<=b[c].toNat:=λc r G x=>by
  grind
 have h: ∀k,(a+k<b.length/\((⟨b.toArray⟩:ByteArray).get! (a+k)).toNat/64=2)-> ∃E:a+k<b.length,128<=b[a+k].toNat:=λk g=>by
  grind[yd]
 have S:=nW b;have T:((⟨b.toArray⟩:ByteArray).get! (a+0)).toNat=b[a].toNat:=by rw[a6M,yd b a E]
 have i:b[a].toNat<256:=b[a].toNat_lt;unfold Utf8.decode;simp only[T,S];rw[if_neg a9p];have v: ∀z:Nat,Utf8.valid (z)=true->z<=1114111:=λz d=>by
  simp only[Utf8.valid,a6w,a4Q,decide_eq_true_eq]at d;omega
 split
 .rename_i d;simp only[a4Q,decide_eq_true_eq,beq_iff_eq]at d;obtain⟨L,o⟩:=d;obtain⟨P,y⟩:=h 1 o;split;grind;trivial
 .split
  .rename_i d;simp only[a4Q,decide_eq_true_eq,beq_iff_eq]at d;obtain⟨⟨L,o⟩,C⟩:=d;obtain⟨P,y⟩:=h 1 o;obtain⟨V,D⟩:=h 2 C;split
   .rename_i p;simp only[a4Q,decide_eq_true_eq]at p;refine⟨by simp only;omega,v _ p.2,a9q,a9r,λc r G x=> ?_⟩;rcases(by simp only at x;omega:c=a\/c=a+1\/c=a+2)with rfl|rfl|rfl
    .exact F
    .exact y
    .exact D
   trivial
  .split
   .rename_i d;simp only[a4Q,decide_eq_true_eq,beq_iff_eq]at d;obtain⟨⟨⟨L,o⟩,C⟩,W⟩:=d;obtain⟨P,y⟩:=h 1 o;obtain⟨V,D⟩:=h 2 C;obtain⟨j,e⟩:=h 3 W;split
    .rename_i p;simp only[a4Q,decide_eq_true_eq]at p;refine⟨by simp only;omega,v _ p.2,a9q,a9r,λc r G x=> ?_⟩;rcases(by simp only at x;omega:c=a\/c=a+1\/c=a+2\/c=a+3)with rfl|rfl|rfl|rfl
     .exact F
     .exact y
     .exact D
     .exact e
    trivial
   trivial
def fM (b:Nat) (a:Int):Bool:=(decide (97<=a)&&decide (a<=122))||(!decide (b=0)&&((decide (48<=a)&&decide (a<=57))||decide (a=95)))
def lp (b:ByteArray):Nat->Nat->Bool
 |0,_=>true
 |c+1,a=>if a<b.size then fM a (Utf8.decode b a).1&&lp b c (a+(Utf8.decode b a).2)else true
def jU (a:List UInt8):Bool:=lp ⟨a.toArray⟩ (a.length+1) 0&&decide (1<=a.length/\a.length<=16)
theorem Zw (a:List UInt8) (b:Nat) (c:b<a.length):1<=(Utf8.decode ⟨a.toArray⟩ b).2/\b+(Utf8.decode ⟨a.toArray⟩ b).2<=a.length/\(Utf8.decode ⟨a.toArray⟩ b).1<=1114111:=by grind[EN,decode_high]
def sI:rZ (bb w)=some (.v (.int .i64 w.length)):=wK
theorem EO (a:List UInt8) (l:a.length<=1000000) (k:U):
  AC Tryz.prog 77 [bb a] k λe o=>o=k/\e= .v (.bool (jU a)):=by
 refine bd hm Lu a9q ?_;have f: ∀(L) (V),wQ (bb a) k (bO L V)=iX k (bZ (λg=>L g ⟨a.toArray⟩) ()):=λL V=>C9;refine aE @f ?_;refine aN λr y=> ?_;refine eB ?_;refine ct (λP o=> ∃x b:Nat,b<=a.length/\a.length<x+b/\lp ⟨a.toArray⟩ x b=lp ⟨a.toArray⟩ (a.length+1) 0/\k.sub o/\o r=some (.it ⟨a.toArray⟩ b)/\P 0=bb a/\P 7= .ptr r 0)
  (λ_ o=>match o r with|some (.it _ b)=>a.length - b| _=>0) ⟨a.length+1,0,a9p,a9p,rfl,U.af U.a1 y,U.ai _ _ _,?_⟩ ?_
 .exact qp
 .rintro P o ⟨x,b,m,n,z,C,S,p,h⟩;refine aE @h ?_;by_cases D:b<a.length
  .obtain⟨x,rfl⟩: ∃i,x=i+1:=⟨x - 1,a9p⟩;obtain⟨q,s,t⟩:=Zw a b D;have j:=nW a;rw[lp,if_pos (by rw[j];exact D)]at z;refine VK S D ?_;generalize (Utf8.decode ⟨a.toArray⟩ b).1=c at*;generalize (Utf8.decode ⟨a.toArray⟩ b).2=E at*;have F (d:fM b c=false):jU a=false:=by rw[d,a7d]at z;rw[jU,<-z];rfl
   have u (d:fM b c=true):(∃W G:Nat,G<=a.length/\a.length<W+G/\lp ⟨a.toArray⟩ W G=lp ⟨a.toArray⟩ (a.length+1) 0/\k.sub (o.set r (.it ⟨a.toArray⟩ (b+E)))/\(o.set r (.it ⟨a.toArray⟩ (b+E))) r=some (.it ⟨a.toArray⟩ G)):=by rw[d,a6k]at z;grind[U.af,U.ai]
   have T:((b:Int)=0)=(b=0):=a9q;have v:(match o r with|some (.it _ b)=>a.length - b| _=>0)=a.length - b:=by rw[S]
   have w:(match(o.set r (.it ⟨a.toArray⟩ (b+E))) r with|some (.it _ b)=>a.length - b| _=>0)=a.length -(b+E):=by rw[U.ai]
   have A:a.length -(b+E)<a.length - b:=a9p;by_cases jg:(97)<=(c:Int)
   .by_cases a2:(c:Int)<=122
    .have d:fM b c=true:=by simp[fM,jg,a2]
     refine aE (aK @p @h @jg @a2) ?_;simp_all
    .by_cases a0:(b:Int)=0
     .have d:fM b c=false:=by simp[fM,a2];omega
      refine aE (bm @p @h @jg @a2 @a0) ?_;exact⟨k,U.af C y,rfl,by rw[F d]⟩
     .have d:fM b c=false:=by simp[fM,a2];omega
      have a3: ¬(c:Int)<48:=a9p;have a4:(57:Int)<c:=a9p;have a5: ¬(c:Int)=95:=a9p;refine aE (bt @p @h @jg @a2 @a0 @a3 @a4 @a5) ?_;exact⟨k,U.af C y,rfl,by rw[F d]⟩
   .by_cases a0:(b:Int)=0
    .have d:fM b c=false:=by simp[fM,jg];omega
     refine aE (aK @p @h @jg @a0) ?_;exact⟨k,U.af C y,rfl,by rw[F d]⟩
    .have T: ¬b=0:=a9p;by_cases a3:(c:Int)<48
     .have d:fM b c=false:=by simp[fM,jg];omega
      have a5: ¬(c:Int)=95:=a9p;refine aE (bs @p @h @jg @a0 @a3 @a5) ?_;exact⟨k,U.af C y,rfl,by rw[F d]⟩
     .by_cases a4:(57:Int)<c
      .by_cases a5:(c:Int)=95
       .have d:fM b c=true:=by simp[fM,a5,T]
        refine aE (c6 @p @h @jg @a0 @a3 @a4 @a5) ?_;simp_all
       .have d:fM b c=false:=by simp[fM,jg,a5];omega
        refine aE (c6 @p @h @jg @a0 @a3 @a4 @a5) ?_;exact⟨k,U.af C y,rfl,by rw[F d]⟩
      .have d:fM b c=true:=by simp[fM,jg,T];omega
       refine aE (bs @p @h @jg @a0 @a3 @a4) ?_;simp_all
  .have B:jU a=decide (1<=a.length/\a.length<=16):=by
    have:lp ⟨a.toArray⟩ x b=true:=by
     cases x with
     |zero=>rfl
     |succ x=>rw[lp,if_neg (by rw[nW];exact D)]
    rw[jU,<-z,this,a6k]
   refine VL S D ?_;by_cases d1:(1:Int)<=a.length
   .by_cases d2:(a.length:Int)<=16
    .refine aE (bm @p @h @sI @d1 @d2) ?_;grind
    .refine aE (bm @p @h @sI @d1 @d2) ?_;grind
   .refine aE (aK @p @h @sI @d1) ?_;grind
def bE (a:List (List UInt8)):List R:=a.map bb
def hx {a:List (List UInt8)}:(bE a).length=a.length:=by simp[bE]
def pw {a:List (List UInt8)}{b:Nat} (c:b<a.length):(bE a)[b]? =some (bb (a.getD b [])):=by simp[bE,c]
def ye:eA 1 (some (bb w))=some (.bV [bb w]):=rfl
theorem Zx (a:List (List UInt8)) (C:Own) (h:List UInt8) (T:a.length<=1000000) (d:U):
  AC Tryz.prog 224 [.J (bE a) C,bb h] d λF o=>o=d/\ ∃k:Int,F= .v (.int .i64 k)/\decide (0<=k)=decide (h∈a):=by
 refine bd hm PO a9q ?_;have G:=hx (a:=a);refine aE @G ?_;refine ct (λc o=> ∃b:Nat,b<=a.length/\o=d/\h∉a.take b/\c 0= .J (bE a) C/\c 1=bb h/\c 7= .v (.int .i64 a.length)/\c 8= .v (.int .i64 b))
  (λc _=>match c 8 with| .v (.int _ k)=>(a.length - k).toNat| _=>0) ⟨0,a9p,rfl,a9q,?_⟩ ?_
 .exact qp
 .rintro c d ⟨b,V,rfl,W,p,r,x,y⟩;by_cases z:(b:Int)<a.length
  .have L:b<a.length:=a9p;have D:=pw L;have P:a.getD b []∈a:=by simp_all
   have e:a.take (b+1)=a.take b++ [a.getD b []]:=by simp_all
   generalize a.getD b []=S at*;by_cases E:h=S
   .refine aE (cU @p @r @x @y @z @hG @D @ye @E) ?_;refine⟨d,U.a1,rfl,b,rfl,?_⟩;simp[P]
   .refine aE (cU @p @r @x @y @z @hG @D @ye @E) ?_;grind
  .obtain rfl:b=a.length:=a9p;refine aE (bm @p @r @x @y @z) ?_;refine⟨d,U.a1,rfl,-1,rfl,?_⟩;simp_all
def Zy (b:List (List UInt8)) (d:Own) (c:List UInt8) (h:b.length<=1000000) (a:U):
  AC Tryz.prog 146 [.J (bE b) d,bb c] a λk o=>o=a/\k= .v (.bool (decide (c∈b))):=by
 refine bd hm Nx a9q ?_;refine eB ?_;refine ag (Zx b d c h a) ?_;rintro _ a ⟨rfl,r,rfl,p⟩;refine aE @p ?_
 all_goals exact⟨a,U.a1,rfl⟩
def mh (a:List (List UInt8)) (b:Nat):Bool:=jU (a.getD b [])&&(!decide (a.getD b []= [105,100])&& !decide (a.getD b []∈a.take b))
def mi (a:List (List UInt8)):Bool:=(List.range a.length).all (mh a)&&decide (1<=a.length/\a.length<=7)
theorem yf {a:List (List UInt8)} (b:e<a.length) (c:mh a e=false):mi a=false:=by grind[mi,Bool.and_eq_false_iff,List.all_eq_false]
theorem Zz {a:List (List UInt8)} (c: ∀b,b<a.length->mh a b=true):mi a=decide (1<=a.length/\a.length<=7):=by
 have:(List.range a.length).all (mh a)=true:=by simp_all
 rw[mi,this,a6k]
theorem ZA (a:List (List UInt8)) (x:Own) (n:a.length<=1000000) (V: ∀W∈a,W.length<=1000000) (c:U):
  AC Tryz.prog 78 [.J (bE a) x] c λe E=>E=c/\e= .v (.bool (mi a)):=by
 refine bd hm Lw a9q ?_;have y:=hx (a:=a);refine aE @y ?_;refine ct (λr E=> ∃b:Nat,b<=a.length/\E=c/\(∀z,z<b->mh a z=true)/\r 0= .J (bE a) x/\r 5= .J (bE a) x/\r 6= .v (.int .i64 a.length)/\r 7= .v (.int .i64 b))
  (λr _=>match r 7 with| .v (.int _ f)=>(a.length - f).toNat| _=>0) ⟨0,a9p,rfl,λz g=>by omega,?_⟩ ?_
 .exact qp
 .rintro r c ⟨b,q,rfl,i,h,k,o,p⟩;by_cases C:(b:Int)<a.length
  .have D:b<a.length:=a9p;have j:=pw D;have l:a.getD b []∈a:=by simp_all
   have P:mh a b=(jU (a.getD b [])&&(!decide (a.getD b []= [105,100])&& !decide (a.getD b []∈a.take b))):=rfl;generalize a.getD b []=d at*;refine aE (bt @h @k @o @p @C @hG @j @ye) ?_;refine ag (EO d (V d l) c) ?_;rintro _ c ⟨rfl,rfl⟩;cases S:jU d
   .refine aE (aK @h @k @o @p) ?_;exact⟨c,U.a1,rfl,by rw[yf D (by rw[P,S];rfl)]⟩
   .have s:(bE a).take b=bE (a.take b):=by simp[bE]
    by_cases F:d= [105,100]
    .have G:iY .eql (bb d) (.v (.string ⟨#[105,100]⟩))=some (.v (.bool true)):=by have:=qn (a:=d) (b:= [105,100]);rw[decide_eq_true F]at this;exact this
     refine aE (bm @h @k @o @p @G) ?_;exact⟨c,U.a1,rfl,by rw[yf D (by rw[P,S,decide_eq_true F];rfl)]⟩
    .have G:iY .eql (bb d) (.v (.string ⟨#[105,100]⟩))=some (.v (.bool false)):=by have:=qn (a:=d) (b:= [105,100]);rw[decide_eq_false F]at this;exact this
     have m:dI 1 (.J (bE a) x) none (some (.v (.int .i64 (b))))=some (.J (bE (a.take b)) .any):=by grind[nV,aR,bE,bb,R.cells,Int.toNat_natCast]
     refine aE (bs @h @k @o @p @G @m) ?_;refine ag (Zy (a.take b) _ d (by rw[a4P];omega) c) ?_;rintro _ c ⟨rfl,rfl⟩;by_cases T:d∈a.take b
     .refine aE (bm @h @k @o @p @T) ?_;exact⟨c,U.a1,rfl,by rw[yf D (by simp_all)]⟩
     .refine aE (bm @h @k @o @p @T) ?_;refine⟨⟨b+1,a9p,λz g=> ?_,a9q⟩,a9p⟩;grind
  .obtain rfl:b=a.length:=a9p;have L:=Zz i;by_cases d1:(1:Int)<=a.length
   .by_cases d2:(a.length:Int)<=7
    .refine aE (bt @h @k @o @p @C @y @d1 @d2) ?_;exact⟨c,U.a1,rfl,by rw[L];simp;omega⟩
    .refine aE (bt @h @k @o @p @C @y @d1 @d2) ?_;exact⟨c,U.a1,rfl,by rw[L];simp;omega⟩
   .refine aE (c6 @h @k @o @p @C @y @d1) ?_;exact⟨c,U.a1,rfl,by rw[L];simp;omega⟩
structure cy where
 kind:UInt8
 table:List UInt8
 aD:List (List UInt8)
 row:List Int
structure cN where
 d:cy
 gn:Own
 dn:Own
def cN.C (a:cN):List R:= [ak a.d.kind,bb a.d.table,.J (bE a.d.aD) a.gn,.J (ad a.d.row) a.dn]
def cN.V (a:cN):R:= .agg a.C
def cN.ZB {a:cN}:a.C.length=4:=rfl
def cN.m1 {a:cN}:aX false 1 (a.C.drop 1)=bb a.d.table:=rfl
def cN.m2 {a:cN}:aX false 1 (a.C.drop 2)= .J (bE a.d.aD) a.gn:=rfl
def cN.m3 {a:cN}:aX false 1 (a.C.drop 3)= .J (ad a.d.row) a.dn:=rfl
def cy.ok (a:cy):Prop:=a.table.length<=16/\a.aD.length<=8/\(∀b∈a.aD,b.length<=16)/\a.row.length<=255
def eo (a:cy):Bool:=jU a.table&&
  (if a.kind.toNat=1 then mi a.aD&&decide (a.row.length=0)
   else if a.kind.toNat=2 then decide (a.aD.length=0)&&decide (a.row.length=0)
   else if a.kind.toNat=3\/a.kind.toNat=4 then decide (a.aD.length=0)&&(decide (2<=a.row.length)&&decide (a.row.length<=8))
   else false)
structure cy.Fit (d:cy):Prop where
 t:d.table.length<=1000000
 c:d.aD.length<=1000000
 cs: ∀c∈d.aD,c.length<=1000000
 r:d.row.length<=1000000
def EP (a:cN) (k:a.d.Fit) (b:U):
  AC Tryz.prog 46 [a.V] b λo p=>p=b/\o= .v (.bool (eo a.d)):=by
 obtain⟨⟨r,d,c,h⟩,x,y⟩:=a;obtain⟨z,C,D,G⟩:=k;have L:=hx (a:=c);have P:=bH (q:=h);show AC _ _ [.agg [ak r,bb d,.J (bE c) x,.J (ad h) y]] b _;refine aM hm KG ?_;refine bp λS T=> ?_;refine bc (EO d z _) ?_;refine aG (λE=> ?_) λE=> ?_
 .rw[eo];exact aO
 refine aG (λF=> ?_) λF=> ?_
 .refine bc (ZA c _ C D _) ?_
  repeat' first|refine aG (λ_=> ?_) λ_=> ?_|trivial
  all_goals (rw[eo];exact aO)
 repeat' first|refine aG (λ_=> ?_) λ_=> ?_|trivial
 all_goals (rw[eo];exact aO)
def ZC (a b c d:List Int) (k o p r:Own) (h:U) (C:a.length<=1000000000000) (D:b.length<=1000000000000):
  AC Tryz.prog 167 [er a b k o,er c d p r] h λx y=>y=h/\x= .v (.bool (decide (a=c)&&decide (b=d))):=by
 refine aM hm Od ?_;refine bp λE F=> ?_;refine cV λG L P S=> ?_;refine bc (nn _ _ _ _ _ a9p) ?_;refine aG (λz=> ?_) λz=> ?_
 .refine bc (nn _ _ _ _ _ a9p) trivial
 trivial
def nr (b:Nat) (a:UInt8):Bool:=(decide (97<=a.toNat)&&decide (a.toNat<=122))||(!decide (b=0)&&((decide (48<=a.toNat)&&decide (a.toNat<=57))||decide (a.toNat=95)))
def ns (a:List UInt8):Bool:=(List.range a.length).all (λb=>nr b (a.getD b 0))&&(decide (0<a.length)&&decide (a.length<17))
def ER (a:List UInt8) (d:U) (y:a.length<=1000000):
  AC Tryz.prog 88 [bb a] d λp h=>h=d/\p= .v (.bool (ns a)):=by
 refine aM hm LR ?_;refine cn [0] (λb:Nat=> [(3,.v (.int .i64 b))]) (λb h=>h=d/\b<=a.length/\ ∀c<b,nr c (a.getD c 0)=true) (λb=>a.length - b) 0 ?_ ?_
 .refine aa ?_;simp
 rintro b _ ⟨rfl,z,k⟩ C;refine aa ?_;refine aG (λr=> ?_) λr=> ?_
 .have x:nr b (a.getD b 0)=false->ns a=false:=λo=>by rw[ns,s7 a9p o];rfl
  repeat' first|refine aG (λ_=> ?_) λ_=> ?_|trivial
  all_goals first
   |omega
   |(rw[x (by rw[nr];exact qs)])
   |exact⟨b+1,⟨a9p,upto k (by rw[nr];exact qs)⟩,rfl,a9p⟩
 have D:ns a=(decide (0<a.length)&&decide (a.length<17)):=by rw[ns,s8 λc o=>k c a9p];rfl
 repeat' first|refine aG (λ_=> ?_) λ_=> ?_|trivial
 all_goals exact aO
def lq (a:List (List UInt8)) (b:Nat):Bool:=ns (a.getD b [])&&(!decide (a.getD b []= [105,100])&&(List.range b).all λc=> !decide (a.getD c []=a.getD b []))
def yg (a:List (List UInt8)):Bool:=(List.range a.length).all (lq a)
def oy (a:cy):Bool:=ns a.table&&
  (if a.kind.toNat=1 then yg a.aD&&(decide (0<a.aD.length)&&(decide (a.aD.length<8)&&decide (a.row.length=0)))
   else if a.kind.toNat=2 then decide (a.aD.length+a.row.length=0)
   else(decide (a.kind.toNat=3)||decide (a.kind.toNat=4))&&(decide (a.aD.length=0)&&(decide (1<a.row.length)&&decide (a.row.length<9))))
theorem ZD (h:cN) (E:h.d.Fit) (k:U):
  AC Tryz.prog 51 [h.V] k λF G=>G=k/\F= .v (.bool (oy h.d)):=by
 obtain⟨⟨x,o,b,p⟩,L,P⟩:=h;obtain⟨y,S,z,T⟩:=E
 dsimp only at y S z T|-
 have l:=hx (a:=b);have m:=bH (q:=p);show AC _ _ [.agg [.v (.int .u8 x.toNat),bb o,.J (bE b) L,.J (ad p) P]] k _;refine aM hm KQ ?_;refine bp λn q=> ?_;refine bc (ER o _ y) ?_;refine aG (λV=> ?_) λV=> ?_
 .rw[oy];exact aO
 refine aG (λW=> ?_) λW=> ?_
 .have s:yg b=(List.range b.length).all (lq b):=rfl;have t:= @pw b;have u: ∀r,iY .eql (bb r) (.v (.string ⟨#[105,100]⟩))=some (.v (.bool (decide (r= [105,100])))):=λr=>qn;have e: ∀a,a<b.length->(b.getD a []).length<=1000000:=λa f=>z _ (by simp_all);refine gE [1] (λa:Nat=> [(3,.v (.int .i64 a))]) (λa=>a<=b.length/\ ∀d<a,lq b d=true) (λa=>b.length - a) 0 ⟨a9p,λd C=>by omega⟩ (aS) ?_;rintro a ⟨f,g⟩ i;refine aa ?_;refine aG (λc2=> ?_) λc2=> ?_
  .have D:lq b a=false->oy ⟨x,o,b,p⟩=false:=λC=>by grind[oy,s7]
   refine bc (ER _ _ (e a a9p)) ?_
   repeat' first|refine aG (λ_=> ?_) λ_=> ?_|trivial
   .exact aP (D (by rw[lq];simp_all)).symm
   .refine gE [1,3] (λc:Nat=> [(4,.v (.int .i64 c))]) (λc=>c<=a/\ ∀d<c,b.getD d []≠b.getD a []) (λc=>a - c) 0 ⟨a9p,λd C=>by omega⟩ (aS) ?_;rintro c ⟨v,j⟩ i;refine aa ?_;refine aG (λaH=> ?_) λaH=> ?_
    .refine aG (λaK=> ?_) λaK=> ?_;grind[aP,lq,s7]
     .exact⟨c+1,⟨a9p,upto j aK⟩,rfl,a9p⟩
    .refine⟨a+1,⟨a9p,upto g ?_⟩,rfl,a9p⟩;grind[lq,s8]
   .exact aP (D (by rw[lq];simp_all)).symm
  repeat' first|refine aG (λ_=> ?_) λ_=> ?_|trivial
  all_goals grind[oy,s8,aO]
 repeat' first|refine aG (λ_=> ?_) λ_=> ?_|trivial
 all_goals (rw[oy];exact aO)
theorem ZE (b a:Nat) (h:b<18446744073709551616) (k:0<a):bn .quo (.int .u64 b) (.int .u64 (a:Int))=some (.int .u64 ((b/a:Nat):Int)):=by have c:bn .quo (.int .u64 b) (.int .u64 (a))=(if(a:Int)=0 then none else some (.int .u64 (IntKind.u64.wrap ((b:Int).tdiv (a:Int))))):=rfl;have d:((b:Int).tdiv (a:Int))=((b/a:Nat)):=rfl;have o:=a7J b a;rw[c,if_neg a9p,d];grind[wrap_u64]
def yh (b a:Nat) (d:0<a):bn .rem (.int .u64 b) (.int .u64 (a:Int))=some (.int .u64 ((b%a:Nat):Int)):=by have c:bn .rem (.int .u64 b) (.int .u64 (a))=(if(a:Int)=0 then none else some (.int .u64 ((b:Int).tmod (a:Int)))):=rfl;rw[c,if_neg a9p];rfl
variable{n b3:R}{s a7:R -> U -> Prop}{f t e4:U}
theorem qQ {c:List UInt8}{k:cz s} (r:au t f 1 (c.map ak) n) (a:bN f 1 b3=some (e,w.map ak)) (x:c.length+w.length<=70368744177664)
  (y: ∀d h,au t h 1 ((c++w).map ak) d->s d h):jG 1 1 f n b3 (bO s k):=by
 have z:w.length=e:=by
  unfold bN at a;split at a
  .split at a
   .rename_i C _ D;simp only[a4X,a5W]at a;have b:=congrArg List.length a.2;rw[db (d:=1) (by simp_all)]at b;simp at b;omega
   .cases a
  .split at a
   .split at a
    .rename_i o _ p;simp only[a4X,a5W]at a;have b:=congrArg List.length a.2;simp at b;omega
    .cases a
   .cases a
  .split at a
   .split at a
    .rename_i o _ p;simp only[a4X,a5W]at a;have b:=congrArg List.length a.2;simp at b;omega
    .cases a
   .cases a
  .cases a
 grind[fh]
end Go.Proofs.YtlgnfcaolejgeaaGreat
namespace Go.bz
open Go
theorem ZF (a:Nat) (c:a<18446744073709551616):a^^^9223372036854775808=(a+9223372036854775808)%18446744073709551616:=by
 have h:(9223372036854775808)=2^63:=a9t;have d:(18446744073709551616)=2^64:=a9t;rw[d]at c;rw[h,d];apply a7k;intro b;rw[a8g,a9g,a8G,a8y];by_cases h1:b<63
 .rw[a8q h1];grind
 .by_cases k:b=63;grind
  .have o: ¬b<64:=a9p;have p:a.testBit b=false:=a6O (a5Z c (a6z a9p a9p));grind
end Go.bz
namespace Go.Proofs.YtlgnfcaolejgeaaGreat
open Go Go.bz
theorem ZG (a:Int):IntKind.u64.wrap (IntKind.u64.wrap a+9223372036854775808)=(ck a:Int):=by grind[kr,BitVec.ofInt,BitVec.toNat_ofInt,ck,BitVec.toNat_xor,ZF]
theorem ZH (b:Int) (k:U):
  AC Tryz.prog 193 [.v (.int .i64 b)] k λE h=>au k h 1 ((hN b).map ak) E:=by
 refine bd hm P2 a9q ?_;refine aE (aH @ZG @aZ @ba) ?_;have F:ck b<18446744073709551616:=(BitVec.ofInt 64 b^^^BitVec.ofInt 64 9223372036854775808).isLt;have G:hN b=cA (ck b):=rfl;rw[G];generalize ck b=c at*;refine wN (e:=8) a9p a9p λo p=> ?_;refine aE (c2 @aZ @ba) ?_;refine ct (λd h=> ∃a:Nat,a<=8/\h=k.set o (.cells (List.replicate (8 - a) (ak 0)++((cA c).drop (8 - a)).map ak))/\d 4= .an o 8 8 1/\d 3= .v (.int .u64 ((c/256^a:Nat)))/\d 5= .v (.int .i64 (7 -(a))))
  (λd _=>match d 5 with| .v (.int _ b)=>(b+8).toNat| _=>0) ⟨0,a9p,?_⟩ ?_
 .refine aE (c2 @aZ @ba) ?_
  try (simp;try rfl)
 .rintro d h ⟨a,T,rfl,r,x,y⟩;by_cases z:(0)<=7 -(a:Int)
  .have L:c/256^a<18446744073709551616:=Nat.lt_of_le_of_lt (a7J _ _) F;have C:=ZE (c/256^a) 256 L a9p;have D:=yh (c/256^a) 256 a9p;have P:((256:Nat):Int)=256:=rfl;rw[P]at C D;have S:(List.replicate (8 - a) (ak 0)++((cA c).drop (8 - a)).map ak).length=8:=by
    have:(cA c).length=8:=rfl;simp[this]
    try omega
   refine aE (cf @x @r @y @z @C @D @ir @S @aZ @ba) ?_;refine⟨⟨a+1,a9p,?_,?_,by(congr 2;try omega)⟩,a9p⟩
   .congr 2;have yi:UInt8.ofNat (c/256^a%256)=UInt8.ofNat (c>>>(8*a)):=by grind[UInt8.toNat_inj,UInt8.toNat_ofNat',Nat.shiftRight_eq_div_pow,Nat.pow_mul]
    rw[yi];rcases(by omega:a=0\/a=1\/a=2\/a=3\/a=4\/a=5\/a=6\/a=7)with rfl|rfl|rfl|rfl|rfl|rfl|rfl|rfl<;>rfl
   .rw[Nat.div_div_eq_div_mul,<-a8A]
  .obtain rfl:a=8:=a9p;refine aE (bs @x @r @y @z @aZ @ba) ?_;refine⟨_,U.a1,U.af U.a1 p,.inr ⟨o,8,8,_,rfl,p,U.ai _ _ _,rfl,rfl,rfl,a9p,a9t⟩⟩
def ZI (b:Bool) (d:U):
  AC Tryz.prog 257 [.v (.bool b)] d λh k=>au d k 1 ([if b then(1:UInt8)else 0].map ak) h:=by
 refine bd hm QO a9q ?_;cases b
 .refine aE (c2 @aZ @ba) ?_;refine eO (by simp[aR,R.cells]) a9q λc a=> ?_;refine aE (c2 @aZ @ba) ?_;exact⟨_,U.a1,U.af U.a1 a,.inr ⟨c,1,1,_,rfl,a,U.ai _ _ _,rfl,rfl,rfl,a9p,a9t⟩⟩
 .refine aE (c2 @aZ @ba) ?_;refine eO (by simp[aR,R.cells]) a9q λc a=> ?_;refine aE (c2 @aZ @ba) ?_;exact⟨_,U.a1,U.af U.a1 a,.inr ⟨c,1,1,_,rfl,a,U.ai _ _ _,rfl,rfl,rfl,a9p,a9t⟩⟩
structure yj where
 o:iy
 st:Int
 xk:Bool
 a:iy
 b:iy
def yj.ok (a:yj):Prop:=a.o.ok/\a.a.ok/\a.b.ok
section
variable {F:yj} (h:F.ok)
include h
end
def ES (b:Nat) (d:U) (r:b<=1000000000000):AC Tryz.prog 125 [.v (.int .i64 (b:Int))] d λk h=>fE d h (fj b) k:=by
 have x: ∀a:Nat,(a:Int).tdiv 65536=((a/65536:Nat)):=λ_=>rfl;have y: ∀a:Nat,(a:Int).tdiv 256=((a/256:Nat)):=λ_=>rfl;have z: ∀a:Nat,(a:Int).tmod 256=((a%256:Nat)):=λ_=>rfl;have C:=λa=>ir a;refine aM hm MT ?_;have o:fj b= [UInt8.ofNat (b/65536%256),UInt8.ofNat (b/256%256),UInt8.ofNat (b%256)]:=by have a: ∀c,UInt8.ofNat (c%256)=UInt8.ofNat c:=λc=>a5I.1 a9q;simp only[fj,a5L,a]
 rw[o];refine tU [_,_,_] (λD h p _=> ?_);exact⟨_,U.a1,p⟩
theorem uA (a:List Int) (p:Own) (k:U) (D:a.length<=1000000):AC Tryz.prog 126 [.J (ad a) p] k λd o=>fE k o (dw a) d:=by
 have E:=λr=>ir r;have F:=bH (q:=a);refine aM hm MV ?_;refine tU [UInt8.ofNat a.length] (λd G L _=> ?_);refine cn [0] (λb:Nat×R=> [(4,.v (.int .i64 b.1)),(3,b.2)]) (λb o=>b.1<=a.length/\fE k o (UInt8.ofNat a.length::(a.take b.1).flatMap hN) b.2) (λb=>a.length - b.1) (0,d) ⟨⟨a9p,by trivial⟩,aS⟩ ?_;rintro⟨c,d⟩ P ⟨x,h⟩ S
 dsimp only at x h|-
 have T:= @dJ a;refine aa ?_;refine aG (λy=> ?_) λy=> ?_
 .refine hL (ZH _ _) λV W z=> ?_;have e:=o8 (a.take c);have f:(a.take c).length=c:=a9r;have g: ∀C,(hN C).length=8:=λ_=>rfl;refine mW h z λa4 i j _=> ?_;refine⟨(c+1,a4),⟨by simp only;omega,?_⟩,⟨rfl,rfl⟩,by simp only;omega⟩;grind[fb]
 .obtain rfl:c=a.length:=a9p;rw[a5i]at h;exact⟨_,U.a1,h⟩
def ET (a b:az) (c d h k o p:Own) (r:U) (x:a.sum.length=32) (y:b.sum.length=32) (z:a.cB):
  AC Tryz.prog 101 [.agg (ab a c d h),.agg (ab b k o p)] r λC D=>D=r/\C= .v (.bool (decide (a=b))):=by
 have L:=(aV (M:=c) (e6:=d) (h4:=h) x).all;have P:=(aV (M:=k) (e6:=o) (h4:=p) y).all;rw[Da];generalize ab a c d h=S at*;generalize ab b k o p=T at*;obtain⟨E,F,G⟩:=z;have V:dm [(32,.int .u8)] (a.sum.map ak):=pj x;have W:dm [(32,.int .u8)] (b.sum.map ak):=pj y;have e:= @so a.sum b.sum;refine aM hm Mc ?_;refine bp λf g=> ?_;refine cV λi j l m=> ?_
 repeat' first|refine aG (λ_=> ?_) λ_=> ?_|trivial
 all_goals first
  |exact aO
  |refine bc (ZC _ _ _ _ _ _ _ _ _ E F) ?_
   repeat' first|refine aG (λ_=> ?_) λ_=> ?_|trivial
   all_goals first
    |exact aO
    |refine bc (nn _ _ _ _ _ G) ?_
     trivial
structure aL where
 name:List UInt8
 aD:List (List UInt8)
 bM:az
 cr:az
 deriving DecidableEq
instance:Inhabited aL:=⟨⟨[],[],ay,ay⟩⟩
structure ea (t:aL) (T:List R):Prop where
 e: ∃gn hq eR a nt nu b,T=bb t.name:: .J (bE t.aD) gn::(ab t.bM hq eR a++ab t.cr nt nu b)
 k:t.bM.sum.length=32/\t.bM.cB
 z:t.cr.sum.length=32/\t.cr.cB
 c:t.aD.length<=1000000
def dp (a:aL) (b:R):Prop:= ∃T,b= .agg T/\ea a T
variable{g B e0:List R}{e7:aL}
theorem ea.all (x:ea e7 g):g.length=76/\g.take 76=g/\aX false 1 g=bb e7.name/\ ∃o a b c d h k,aX false 1 (g.drop 1)= .J (bE e7.aD) o/\(g.drop 2).take 37=ab e7.bM a b c/\(g.drop 39).take 37=ab e7.cr d h k:=by obtain⟨⟨o,a,b,c,d,h,k,rfl⟩,⟨y,_⟩,⟨z,_⟩,_⟩:=x;have p:=(aV (M:=a) (e6:=b) (h4:=c) y).len;have r:=(aV (M:=d) (e6:=h) (h4:=k) z).len;refine⟨by simp[p,r],a4N (by simp[p,r]),rfl,o,a,b,c,d,h,k,rfl,?_,?_⟩;simp_all;grind
theorem ZJ (z C:aL) (D E:R) (F:U) (y:dp z D) (S:dp C E):
  AC Tryz.prog 57 [D,E] F λV W=>W=F/\V= .v (.bool (decide (z=C))):=by
 obtain⟨T,rfl,G⟩:=y;obtain⟨s,rfl,L⟩:=S;obtain⟨t,u,w,A,B,H,I,K,M,N,O,Q,X⟩:=G.all;obtain⟨Y,Z,j9,k0,k1,k2,k3,k4,k5,k6,k7,k8,k9⟩:=L.all;obtain⟨_,⟨e,f⟩,⟨g,i⟩,l0⟩:=G;obtain⟨_,⟨j,_⟩,⟨l,_⟩,_⟩:=L;obtain⟨d,ac,h,k⟩:=z;obtain⟨o,a,p,r⟩:=C
 dsimp only at*
 have l1:=hx (a:=ac);have l2:=hx (a:=a);have l3:= @pw ac;have l4:= @pw a;have P: ¬(d=o/\ac=a/\h=p/\k=r)->decide (aL.mk d ac h k=aL.mk o a p r)=false:=λc=>by simpa using c
 have m:d=o/\ac=a/\h=p/\k=r->decide (aL.mk d ac h k=aL.mk o a p r)=true:=λc=>by simpa using c
 generalize decide (aL.mk d ac h k=aL.mk o a p r)=l5 at*;have l6:=λn v=> @wU n v;refine aM hm L0 ?_;refine bp λl7 l8=> ?_;refine cV λl9 n0 n1 n2=> ?_
 repeat' first|refine aG (λ_=> ?_) λ_=> ?_|trivial
 .refine bc (ET _ _ _ _ _ _ _ _ _ e j f) ?_
  repeat' first|refine aG (λ_=> ?_) λ_=> ?_|trivial
  .refine bc (ET _ _ _ _ _ _ _ _ _ g l i) ?_
   repeat' first|refine aG (λ_=> ?_) λ_=> ?_|trivial
   .simp_all
   .refine gE [2,3] (λb:Nat=> [(5,.v (.int .i64 b))]) (λb=>b<=ac.length/\ ∀x<b,ac.getD x []=a.getD x []) (λb=>ac.length - b) 0 ⟨a9p,λx c=>by omega⟩ aS ?_;rintro b ⟨n3,y⟩ n4;refine aa ?_;refine aG (λq=> ?_) λq=> ?_
    .repeat' first|refine aG (λ_=> ?_) λ_=> ?_|trivial
     .exact aP (P λc=>by grind).symm
     .exact⟨b+1,⟨a9p,upto y (by grind)⟩,rfl,a9p⟩
    .exact aP (m (by have:=uq a9p (λx c=>y x a9p);grind)).symm
  grind
 all_goals exact aP (P (by grind)).symm
theorem ZK (b d:List aL) (h k:List R) (D E:Own) (o:U) (p:aA dp b h) (r:aA dp d k) (e:b.length<=1000000):
  AC Tryz.prog 23 [.J h D,.J k E] o λF G=>G=o/\F= .v (.bool (decide (b=d))):=by
 have f:=p.len;have g:=r.len;refine aM hm K7 ?_;refine aG (λL=> ?_) λL=> ?_
 .exact aP (by grind)
 refine gE [0,1] (λa:Nat=> [(5,.v (.int .i64 a))]) (λa=>a<=b.length/\ ∀c<a,b.getD c default=d.getD c default) (λa=>b.length - a) 0 ⟨a9p,λc P=>by omega⟩ aS ?_;rintro a ⟨i,x⟩ j;refine aa ?_;refine aG (λS=> ?_) λS=> ?_
 .obtain⟨_,l,T,rfl,y⟩:=p.get (i:=a) (x:=b.getD a default) (by grind);obtain⟨_,m,z,rfl,C⟩:=r.get (i:=a) (x:=d.getD a default) (by simp_all);have V:=y.all;have W:=C.all;have n:=jy (n:= .agg T) V.1;have q:=jy (n:= .agg z) W.1;refine aa ?_;refine bc (ZJ _ _ _ _ _ ⟨T,rfl,y⟩ ⟨z,rfl,C⟩) ?_;refine aG (λc2=> ?_) λc2=> ?_
  .exact aP (by grind)
  .exact⟨a+1,⟨a9p,upto x (by trivial)⟩,rfl,a9p⟩
 .exact aP (by have:=uq a9p (λc P=>x c a9p);simp[this])
variable{f t e4:U}{e i v O b8 j0:Nat}{Y:br}
def Ext.dV (c:Ext i v f t) (d:f e=none):Ext i v f (t.set e Y):=λb h k o a=>by
 have p:b≠e:=by rintro rfl;rw[d]at a;cases a
 rw[U.ao _ _ p];exact c b h k o a
def cq (a:List Int×Bool) (b c:az):c3:=⟨1,[a],[b,c]⟩
def uB (h:U) (k o:Nat) (p:ah) (T:bB h k o p) (c:List Int×Bool) (a b:az) (V r x y z C D:Own) (d:Nat) (q:1<=d) (s:d<=8) (W:a.sum.length=32) (e:b.sum.length=32) (t:a.cB) (u:b.cB):
  AC Tryz.prog 230 [dU k d,.agg [.J (ad c.1) V,.v (.bool c.2)],.agg (ab a r x y),.agg (ab b z C D)] h λf g=>bB g k o (dx p d (cq c a b)).2/\Ext k o h g/\gV (dx p d (cq c a b)).1 f:=by
 have v:=(aV (M:=r) (e6:=x) (h4:=y) W).all;have w:=(aV (M:=z) (e6:=C) (h4:=D) e).all;have A:bu a (.agg (ab a r x y)):=⟨W,t,_,_,_,rfl⟩;have B:bu b (.agg (ab b z C D)):=⟨e,u,_,_,_,rfl⟩;generalize ab a r x y=H at*;generalize ab b z C D=I at*;refine aM hm PY ?_;refine bp λcd X=> ?_;refine cV λca Y Z j9=> ?_;refine hl λdf k0 k1 k2 k3 k4=> ?_;refine x2 λen k5 _ _ _ _ _ _=> ?_;refine X9 λgW i _ _ _ _ _ _ _ _=> ?_;refine Xb λK k6 _ _ _ _ _ _ _ _ _ _=> ?_;refine Xc λM k7 _ _ _ _ _ _ _ _ _ _ _ _=> ?_;generalize E:((((((h.set cd _).set ca _).set df _).set en _).set gW _).set K _).set M _=F;have j:h.sub F:=by subst E;exact aS
 have N:F gW=some (.cells (ab ay .nil .nil .nil)):=by subst E;rw[<-cp];exact aS
 clear E;have k8:=(aV (M:= .nil) (e6:= .nil) (h4:= .nil) bj).len;refine ag (xE F k o p (T.mono j) (cq c a b) [.agg [.J (ad c.1) V,.v (.bool c.2)]] [.agg H,.agg I] _ _ d q s ⟨⟨⟨_,rfl⟩,trivial⟩,⟨A,B,trivial⟩,bR.J (by simp[aR,R.cells]),bR.J (by simp[aR,R.cells,v.1,w.1]),by simp[cq],by simp[cq]⟩) ?_;rintro f k9 ⟨O,l,Q⟩;have G:=(T.cE i);have l0:=U.aJ (l gW _ G.1 G.2 N);obtain⟨m,L,P,S,l1,n,rfl⟩:=Q.shape;have l2:=(aV (M:=L) (e6:=P) (h4:=S) n).all;have l3:putAt (ab ay .nil .nil .nil) 0 (ab m L P S)=ab m L P S:=cD bj n;refine aa ?_;exact⟨_,U.a1,O.set G,((Ext.of j).trans l).dV i⟩
def kG (b:ah) (c:Nat) (d:az):Option ((List Int×Bool)×List az):=
 match fk b c d with
 |none=>none
 |some a=>if a.kind=1 then some (a.rows.headD ([],false),a.kids)else none
variable{A j2:az}{b9:c3}{H:ah}
theorem EU (a:fk H e A=some b9):dS e b9=true:=by
 unfold fk at a;split at a
 .cases a
 split at a
 .cases a
 rename_i c d b;split at a
 .obtain rfl:=a4L a;unfold pg at b;grind
 .cases a
theorem EV (b:dS e b9=true) (c:b9.kind=1):b9.rows.length=1/\b9.kids.length=2/\ ∀a∈b9.kids,a.key.length=0:=by simp_all [dS]
def ZL (b c:U) (d:List az) (h:R):Prop:= ∃a,au b c 37 (flat a) h/\aA bu d a
def yk (d:U) (F i:Nat) (y:ah) (v:bB d F i y) (h:az) (G L P:Own) (j:h.sum.length=32) (w:h.cB) (a:Nat) (A:1<=a) (B:a<=8):
  AC Tryz.prog 182 [dU F a,.agg (ab h G L P)] d λS b=>d.sub b/\match kG y a h with
   |none=>S= .aI [.agg [.J [] .nil,.v (.bool false)],.J [] .nil,.v (.int .i64 21)]
   |some (k,bI)=> ∃H z,S= .aI [.agg [.J (ad k.1) H,.v (.bool k.2)],z,.v (.int .i64 0)]/\bI.length=2/\ZL d b bI z:=by
 have k3:=(aV (M:=G) (e6:=L) (h4:=P) j).all;refine aM hm OK ?_;refine bp λcd k4=> ?_;refine cV λca k5 _ _=> ?_;refine hl λdf l _ _ _ _=> ?_;generalize T:((d.set cd _).set ca _).set df _=V;have o:d.sub V:=by subst T;exact aS
 have p:V df=some (.cells [.J [] .nil,.v (.bool false)]):=by subst T;exact aS
 clear T;refine ag (xx V F i y (v.mono o) h G L P j w a A B) ?_;rintro S I ⟨C,D⟩;have K:=U.aJ (C _ _ p);rw[kG];cases W:fk y a h with
 |none=>
  rw[W]at D;obtain rfl:=D;refine aa ?_;refine aN λen c=> ?_;have a:df≠en:=by rintro rfl;rw[C _ _ p]at c;cases c
  have M:=a4U a;refine aa ?_;exact U.af (U.aq o C) (U.bF (U.aq o C) c)
 |some r=>
  rw[W]at D;obtain⟨k,z,rfl,E⟩:=D;refine aa ?_;refine aN λen c=> ?_;have a:df≠en:=by rintro rfl;rw[E.sub _ _ p]at c;cases c
  have M:=a4U a;have K:=U.aJ (E.sub _ _ p);have m:=U.aq o E.sub;have e:(r.kind=1)↔(r.kind.toNat:Int)=1:=by rw[<-a5I];show r.kind.toNat=1↔ _;omega
  by_cases x: ¬r.kind=1
  .have:=mt e.2 x;exact aS
  have x:=Decidable.not_not.1 x;have k6:=e.1 x;clear e;obtain⟨N,k7,_⟩:=EV (EU W) x;obtain⟨k8,k9,O,f,n,q,Q,_⟩:=E;obtain⟨l0,l1,l2⟩:=r
  dsimp only at*
  obtain⟨s,rfl⟩:=a6N.1 N;have X:=(bR.dR f a9p rfl (q.cells λ_ _=>de.cells)).mono n.1;obtain⟨l3,Y,Z,rfl⟩:=q.get (i:=0) rfl;obtain⟨t,u,j9⟩:=X.get 0 _ Y;have k0:=λb g=>j9.ld b g true 2 a9p (by simp[R.cells]);have u:cL 2 k (.v (.int .i64 0))=some t:=u;have k1: ∀b,I.sub b->dq true 2 b t=some (.agg [.J (ad s.1) Z,.v (.bool s.2)]):=λb g=>k0 b g;have l4:=k1 _ (U.af (Y:= .cells [.v (.int .u8 1),k,z]) U.a1 c);refine aa ?_;refine⟨_,U.a1,U.af (U.af m (U.bF m c)) l,?_⟩;have k2:=U.aq o f.1;exact⟨_,_,rfl,O,(jL (n.mono (U.af U.a1 c)) (f.1 _ _ p)).base (U.af k2 l),Q⟩
theorem yl (a c:List Int) (r x:Own) (k:Nat) (p:U) (F:k<a.length) (G:c.length=a.length) (L:a.length<=1000000000000):
  AC Tryz.prog 97 [.J (ad a) r,.J (ad c) x,.v (.int .i64 (k:Int))] p λy z=>z=p/\y= .v (.bool (decide (cH k a c<0))):=by
 have P:=bH (q:=a);have S:= @dJ a;have T:= @dJ c;have C: ∀d h:Int,hZ d h=0↔d=h:=λd h=>by unfold hZ;omega
 have V: ∀d h:Int,hZ d h<0↔d<h:=λd h=>by unfold hZ;omega
 refine aM hm M5 ?_;refine aG (λD=> ?_) λD=> ?_;simp_all [cH];have W:cH k a c=fL a c:=by rw[cH,if_pos (by rw[C];omega)]
 refine gE [0,1] (λb:Nat=> [(7,.v (.int .i64 b))]) (λb=>b<=a.length/\fL (a.drop b) (c.drop b)=fL a c) (λb=>a.length - b) 0 ⟨a9p,rfl⟩ aS ?_;rintro b ⟨e,o⟩ f;refine aa ?_;refine aG (λE=> ?_) λE=> ?_
 .rw[drop_cons (b:=0) a9p,drop_cons (b:=0) (e:=b) a9p,fL]at o;refine aG (λc2=> ?_) λc2=> ?_;grind;grind
 .rw[sH a9p,sH a9p]at o;exact aP (by rw[<-o];rfl)
def eW (c:Nat) (a:List Int) (d:List (List Int)):List (List Int):=d.takeWhile (λb=>decide (cH c b a<0))++a::d.dropWhile (λb=>decide (cH c b a<0))
def eb (a:Nat) (b:List (List Int)):List (List Int):=b.foldl (λc d=>eW a d c) []
theorem ZM (b:Nat) (c:List Int) (a:List (List Int)):(eW b c a).length=a.length+1:=by have:=congrArg List.length (a5E (p:=λd=>decide (cH b d c<0)) (l:=a));grind[List.length_append,eW,List.length_cons]
variable{Q:List (List Int)}{q b6:List Int}
theorem ym:q∈eW e b6 Q↔q=b6\/q∈Q:=by have:=congrArg (λQ=>q∈Q) (a5E (p:=λq=>decide (cH e q b6<0)) (l:=Q));simp only[a5a,eq_iff_iff]at this;grind[eW]
theorem ZN (c: ∀a<e,cH i (Q.getD a []) q<0) (b:e<=Q.length) (d:e<Q.length-> ¬cH i (Q.getD e []) q<0):eW i q Q=Q.take e++q::Q.drop e:=by
 induction Q generalizing e with
 |nil=>simp at b;subst b;rfl
 |cons h Q ih=>
  cases e with
  |zero=>grind[cH,eW,List.takeWhile_cons,List.dropWhile_cons]
  |succ e=>have o:cH i h q<0:=c 0 a9p;have:=ih (λa p=>c (a+1) a9p) (by simpa using b) (λk=>d (by simpa using k));simp_all [eW]
theorem ZO (h:List (List Int)) (l:List R) (H:Own) (y F:Nat) (e:U) (m:aA isRow h l) (I: ∀G∈h,G.length=F) (k3:y<F) (k4:F<=8) (k5:h.length<=100000):
  AC Tryz.prog 162 [.J l H,.v (.int .i64 (y:Int))] e λG L=>e.sub L/\ ∃n K,aA isRow (eb y h) n/\G= .J n K:=by
 have k6:=m.len;refine aM hm O3 ?_;refine cn [0,1] (λb:Nat×List R×Own=> [(6,.v (.int .i64 b.1)),(5,.J b.2.1 b.2.2)]) (λb L=>e.sub L/\b.1<=h.length/\ ∃c,(h.take b.1).foldl (λc x=>eW y x c) []=c/\c.length=b.1/\(∀G∈c,G.length=F)/\aA isRow c b.2.1) (λb=>h.length - b.1) (0,[],.nil) ⟨⟨U.a1,a9p,[],rfl,rfl,a9q,trivial⟩,aS⟩ ?_;rintro⟨z,C,bD⟩ M ⟨q,N,c,P,O,Q,p⟩ X
 dsimp only at N P O p|-
 have k7:=p.len;refine aa ?_;refine aG (λY=> ?_) λY=> ?_
 .have s:h[z]? =some (h.getD z []):=by simp_all
  obtain⟨_,k8,f,rfl⟩:=m.get s;have k9:=I _ (a4V s);have t:=fb (a:=h) (b:= []) (e:=z) a9p;generalize h.getD z []=x at*;have el: ∀a,a<c.length-> ∃E,C[a]? =some (.J (ad (c.getD a [])) E):=λa T=>by
   obtain⟨_,k,E,rfl⟩:=p.get (i:=a) (x:=c.getD a []) (by simp_all);exact⟨E,k⟩
  have Z: ∀a,a<c.length->(c.getD a []).length=F:=λa T=>Q _ (by simp_all);refine cn [0,1,5,6] (λb:Nat×List R×Own=> [(8,.v (.int .i64 b.1)),(7,.J b.2.1 b.2.2)]) (λb L=>b.1<=c.length/\(∀u<b.1,cH y (c.getD u []) x<0)/\aA isRow (c.take b.1) b.2.1/\bh M L 1 b.2.1 b.2.2) (λb=>c.length - b.1) (0,[],.nil) ⟨⟨a9p,λu d=>by simp at d,trivial,bh.nil U.a1⟩,aS⟩ ?_;rintro⟨a,V,on⟩ l0 ⟨T,v,r,W⟩ X
  dsimp only at T v r W|-
  have l1:V.length=a:=by rw[r.len,a4P];omega
  have w: ¬(a<c.length/\cH y (c.getD a []) x<0)->eW y x c=c.take a++x::c.drop a:=λd=>ZN v T λj9 D=>d ⟨j9,D⟩;by_cases jP:(a)<(z:Int)
  .obtain⟨E,l2⟩:=el a a9p;have l3:=Z a a9p;have k0:=fb (a:=c) (b:= []) (e:=a) a9p;generalize l4:c.getD a []=b at*;refine aa ?_;refine bc (yl b x E f y _ a9p a9p a9p) ?_;refine aG (λc2=> ?_) λc2=> ?_
   .refine jI (λA S=> ?_);refine dY (W.mono (U.af U.a1 S)) (r.cells λ_ _=>isRow.cells) (λk o=>by rw[a5g]at o;subst o;rfl) a9r a9r λg B D=> ?_;refine aa ?_;refine⟨(a+1,V++ [.J (ad b) E],g),⟨by simp only;omega,?_,?_,D⟩,⟨rfl,rfl⟩,by simp only;omega⟩;grind
    .simp only[k0];exact r.snoc ⟨_,rfl⟩
   .have k:=w a9p;refine jI (λA S=> ?_);refine dY (W.mono (U.af U.a1 S)) (r.cells λ_ _=>isRow.cells) (λk o=>by rw[a5g]at o;subst o;rfl) a9r a9r λg B D=> ?_;have k1:dI 1 (.J C bD) (some (.v (.int .i64 (a)))) none=some (.J (C.drop a) .any):=p5 a9p (p.cells λ_ _=>isRow.cells);refine aa ?_;refine dY D (λk o=>by rcases a5a.1 o with d|d;exact r.cells (λ_ _=>isRow.cells) k d;rw[a5g]at d;subst d;rfl) ((p.drop a).cells λ_ _=>isRow.cells) a9r a9r λi k2 j=> ?_;refine aa ?_;refine⟨(z+1,V++ [.J (ad x) f]++C.drop a,i),⟨U.aq q j.sub,by simp only;omega,_,rfl,?_,?_,?_⟩,⟨rfl,rfl⟩,by simp only;omega⟩;grind;grind
    .simp only[t,a6L,P,a5S,a7S,k];rw[a7Z];exact(r.snoc ⟨_,rfl⟩).append (p.drop a)
  .have k:=w a9p;refine aa ?_;refine jI (λA S=> ?_);refine dY (W.mono (U.af U.a1 S)) (r.cells λ_ _=>isRow.cells) (λk o=>by rw[a5g]at o;subst o;rfl) a9r a9r λg B D=> ?_;have k1:dI 1 (.J C bD) (some (.v (.int .i64 (a)))) none=some (.J (C.drop a) .any):=p5 a9p (p.cells λ_ _=>isRow.cells);refine aa ?_;refine dY D (λk o=>by rcases a5a.1 o with d|d;exact r.cells (λ_ _=>isRow.cells) k d;rw[a5g]at d;subst d;rfl) ((p.drop a).cells λ_ _=>isRow.cells) a9r a9r λi k2 j=> ?_;refine aa ?_;refine⟨(z+1,V++ [.J (ad x) f]++C.drop a,i),⟨U.aq q j.sub,by simp only;omega,_,rfl,?_,?_,?_⟩,⟨rfl,rfl⟩,by simp only;omega⟩;grind;grind
   .simp only[t,a6L,P,a5S,a7S,k];rw[a7Z];exact(r.snoc ⟨_,rfl⟩).append (p.drop a)
 .obtain rfl:z=h.length:=a9p;rw[a5i]at P;exact⟨C,bD,by rw[eb,P];exact p,rfl⟩
inductive aC where
 |nil
 |node (r:List Int) (live:Bool) (a b:aC)
def dN (a:U):aC->R->Prop
 | .nil,b=>b= .v (.pointer none)
 | .node k live o p,b=> ∃c r d h,b= .ptr c 0/\a c=some (.cells [.J (ad k) r,.v (.bool live),d,h])/\dN a o d/\dN a p h
def dN.mono {b c:U} (a:b.sub c): ∀ {d:aC}{h:R},dN b d h->dN c d h
 | .nil,_,k=>k
 | .node _ _ _ _,_,⟨o,p,r,x,h1,y,z,C⟩=>⟨o,p,r,x,h1,a _ _ y,z.mono a,C.mono a⟩
theorem dN.cells {b:U}: ∀ {c:aC}{a:R},dN b c a->a.cells= [a]
 | .nil,_,rfl=>rfl
 | .node _ _ _ _,_,⟨_,_,_,_,rfl,_⟩=>rfl
def _root_.Go.bz.U.part (b c d:U):U:=λa=>if c a=none\/d a≠none then b a else none
def EW:U:=λ_=>none
theorem qR:(f.part t e4).sub f:=λa b c=>by
 grind[U.part]
def EX {c d:U} (h:f.sub t) (k:e4.sub c):(e4.part t d).sub (c.part f d):=λo p a=>by
 rw[U.part]at a|-;split at a
 .rename_i b;rw[if_pos (b.imp_left λb=>U.bF h b)];exact k _ _ a
 .cases a
def ZP {c:U} (b:f.sub t):(e4.part t EW).sub (e4.part f c):=λh k a=>by
 rw[U.part]at a|-;split at a
 .rename_i d;rw[if_pos (.inl (U.bF b (d.resolve_right λb=>b rfl)))];exact a
 .cases a
def px (b:f.sub t):f.sub (t.part e4 f):=λc d a=>by rw[U.part,if_pos (.inr (by rw[a];simp))];exact b _ _ a
theorem uC (a:f e=none):t.part f e4 e=t e:=if_pos (.inl a)
def aC.size:aC->Nat
 | .nil=>0
 | .node _ _ a b=>1+a.size+b.size
def aC.all:aC->List (List Int)
 | .nil=> []
 | .node a live b c=>b.all++c.all++(if live=true then [a]else [])
def qS: ∀(c:aC) (b:R) (a:U),dN a c b->c.size<=1000000->AC Tryz.prog 91 [b] a λd h=>h=a/\d= .v (.int .i64 (c.size:Int))
 | .nil,b,a,k,_=>by
  obtain rfl:b= .v (.pointer none):=k;refine aM hm Bk ?_;trivial
 | .node d live o p,b,a,⟨E,F,r,x,h1,y,z,C⟩,D=>by
  subst h1;have G:=U.ae y;simp only[aC.size]at D;refine aM hm Bk ?_;refine bc (qS o r a z a9p) ?_;refine bc (qS p x a C a9p) ?_;rfl
def lr: ∀a:aC,a.all.length<=a.size
 | .nil=>by trivial
 | .node d live b c=>by
  have:=lr b;have:=lr c;simp only[aC.all,aC.size,a4O];split<;>simp<;>omega
def sJ: ∀(r:aC) (b:R) (a:U),dN a r b->r.size<=1000000->AC Tryz.prog 90 [b] a λz G=> ∃x k,bh a G 1 x k/\aA isRow r.all x/\z= .J x k
 | .nil,b,a,L,_=>by
  obtain rfl:b= .v (.pointer none):=L;refine aM hm Bj ?_;exact⟨_,U.a1,[],.nil,bh.nil U.a1,trivial,rfl⟩
 | .node z live C D,b,a,⟨g,k,P,S,h1,o,c,y⟩,T=>by
  subst h1;have i:=U.ae o;simp only[aC.size]at T;have j:=lr C;have l:=lr D;refine aM hm Bj ?_;refine ag (sJ C P a c a9p) ?_;rintro _ V ⟨m,n,p,d,rfl⟩;have q:=U.ae (p.sub _ _ o);refine aa ?_;refine ag (sJ D S V (y.mono p.sub) a9p) ?_;rintro _ s ⟨t,u,E,h,rfl⟩;have v:=U.ae (E.sub _ _ (p.sub _ _ o));have w:=d.len;have A:=h.len;refine aa ?_;refine dY (p.mono E.sub) (d.cells λ_ _=>isRow.cells) (h.cells λ_ _=>isRow.cells) a9p a9p λW B c=> ?_;have H:=U.ae (c.sub _ _ o);refine aa ?_;cases live with
  |true=>refine aa ?_;refine jI (λI e=> ?_);refine dY (c.mono (U.af U.a1 e)) ((d.append h).cells λ_ _=>isRow.cells) (λK F=>by rw[a5g]at F;subst F;rfl) a9r a9r λf M y=> ?_;refine aa ?_;exact⟨_,U.a1,_,f,y,(d.append h).append ⟨⟨k,rfl⟩,trivial⟩,rfl⟩
  |false=>refine aa ?_;exact⟨_,U.a1,_,W,c,by simpa[aC.all] using d.append h,rfl⟩
def fN (b:Nat):Nat->List (List Int)->Nat->aC
 |0,_,_=> .nil
 |c+1,a,dep=>if a= []then .nil else
  .node ((eb (dep%b) a).getD (a.length/2) []) true (fN b c ((eb (dep%b) a).take (a.length/2)) (dep+1)) (fN b c ((eb (dep%b) a).drop (a.length/2+1)) (dep+1))
theorem yn {h:Nat}: ∀(b a:List (List Int)),(b.foldl (λk c=>eW h c k) a).length=a.length+b.length/\ ∀d,d∈b.foldl (λk c=>eW h c k) a↔d∈a\/d∈b
 | [],a=>by simp
 |c::b,a=>by
  obtain⟨o,p⟩:=yn b (eW h c a);refine⟨by rw[a5S,o,ZM,a4S];omega,λd=> ?_⟩;grind[ym]
theorem py (b:Nat) (a:List (List Int)):(eb b a).length=a.length:=by rw[eb,(yn a []).1];simp
def qT:q∈eb e Q↔q∈Q:=by rw[eb,(yn Q []).2];simp
theorem uD (b:Nat) (E:0<b) (F:b<=8): ∀(h:Nat) (a:List (List Int)) (d:List R) (k:Own) (dep:Nat) (r:U),aA isRow a d->(∀o∈a,o.length=b)->a.length<=h->h<=100000->dep+h<=1000000->
  AC Tryz.prog 92 [.J d k,.v (.int .i64 (dep:Int))] r λo g=>r.sub g/\dN (g.part r EW) (fN b h a dep) o
 |0,a,d,k,dep,r,x,C,v,_,_=>by
  obtain rfl:a= []:=a4R a9p;obtain rfl:d= []:=a4R x.len;refine aM hm wy ?_;exact⟨_,U.a1,U.a1,rfl⟩
 |h+1,a,d,k,dep,r,x,C,v,N,O=>by
  have Q:=x.len;by_cases G:a= []
  .subst G;obtain rfl:d= []:=a4R x.len;refine aM hm wy ?_;rw[fN,if_pos rfl];exact⟨_,U.a1,U.a1,rfl⟩
  have X:=a5U.2 G;have Y: ¬(a.length:Int)=0:=a9p;obtain⟨_,Z,j9,rfl⟩:=x.get (i:=0) (x:=a.getD 0 []) (by simp_all);have k0:=C (a.getD 0 []) (by simp_all);have k1:=bH (q:=a.getD 0 []);have w:(dep:Int).tmod (b:Int)=((dep%b:Nat)):=rfl;have k2: ¬(b:Int)=0:=a9p;have A:(a.length:Int).tdiv 2=((a.length/2:Nat)):=rfl;have k3: ∀L k,cL L (.J d k) (.v (.int .i64 0))=eA L d[0]? :=λL k=>o1;refine aM hm wy ?_;refine ag (ZO a d k (dep%b) b r x C (a6Q _ E) F a9p) ?_;rintro _ B ⟨D,y,P,p,rfl⟩;have i:=p.len;rw[py]at i;have j:=py (dep%b) a;have S: ∀T∈eb (dep%b) a,T.length=b:=λT H=>C T (qT.1 H);obtain⟨z,l⟩: ∃z,eb (dep%b) a=z:=⟨_,rfl⟩;rw[fN,if_neg G];rw[l]at j S p|-;generalize I:a.length/2=c at*;obtain⟨_,k4,m,rfl⟩:=p.get (i:=c) (x:=z.getD c []) (by grind);have k5:dI 1 (.J y P) none (some (.v (.int .i64 (c))))=some (.J (y.take c) .any):=by have:=nV (e2:= .i64) (M:=P) (b1:=(c)) a9p a9p (p.cells λ_ _=>isRow.cells);trivial
  have k6:dI 1 (.J y P) (some (.v (.int .i64 ((c)+1)))) none=some (.J (y.drop (c+1)) .any):=p5 (e:=c+1) a9p (p.cells λ_ _=>isRow.cells);refine aa ?_;refine ag (uD b E F h (z.take c) (y.take c) .any (dep+1) B (p.take c) (λo V=>S o (a4Z V)) (by rw[a4P];omega) a9p a9p) ?_;rintro n K ⟨W,q⟩;refine aa ?_;refine ag (uD b E F h (z.drop (c+1)) (y.drop (c+1)) .any (dep+1) K (p.drop (c+1)) (λo V=>S o (a5r V)) (by rw[a5d];omega) a9p a9p) ?_;rintro s k7 ⟨e,t⟩;clear l j i w A I;have k8:=q.cells;have k9:=t.cells;refine aa ?_;refine aN λM u=> ?_;refine aa ?_;have f:=U.af (Y:= .cells [.J (ad (z.getD c [])) m,.v (.bool true),n,s]) U.a1 u;exact⟨_,U.a1,U.aq D (U.aq W (U.aq e f)),M,m,n,s,rfl,(uC (U.bF D (U.bF W (U.bF e u)))).trans (U.ai _ _ _),q.mono (EX D (U.aq e f)),t.mono (EX (U.aq D W) f)⟩
end Go.Proofs.YtlgnfcaolejgeaaGreat
namespace Go.bz
open Go
variable{f t e4:U}{u:bl}{l h7:World}
theorem Step.ZQ {p:bl} (b:Step u f l p t h7) (r: ∀a,f a=none\/ ∃c,f a=some (.ro c)): ∃x k,h7=Sort.grow (l.drewN x) k:=by
 have d: ∀a,a<l.heap.size->h7.heap[a]? =l.heap[a]? :=λa d=>by
  rcases r a with h|⟨c,h⟩
  .exact b.block a d h
  .exact(b.jt a c d h).1
 have y:=b.os;have z:=b.tape;have o:=b.output;have C:=b.size;refine⟨h7.drawn - l.drawn,h7.heap.extract l.heap.size h7.heap.size,?_⟩;obtain⟨D,E,F,k,G⟩:=l;obtain⟨L,P,S,T,V⟩:=h7;simp only at*;obtain⟨rfl,o⟩:=o;subst y;subst z;simp only[Sort.grow,World.drewN,World.mk.injEq,true_and,and_true];grind
theorem Step.grown (d:Holds u f l) (o:Nat) (os:Array Obj):Step u f l u f (Sort.grow (l.drewN o) os):=by
 have c: ∀a,a<l.heap.size->(Sort.grow (l.drewN o) os).heap[a]? =l.heap[a]? :=λa c=>by
  show(l.heap++os)[a]? = _;grind
 exact {holds:=⟨λa h v p=>by rw[<-d.ro a h v p];exact World.cell?_of_block (c a (d.lt p)),λk h r=>(d.dO k h r).kept (.refl u) (c k (d.dO k h r).lt) (λ_ x=>x)⟩,le:= .refl u,os:=rfl,tape:=rfl,output:=⟨rfl,Nat.le_add_right _ _⟩,size:=a9q,block:=λa b _=>c a b,ed:=λ_ b=> .inl b,mw:=λ_ _ b=> .inl b,jt:=λa y b z=>⟨c a b,.inr ⟨y,z⟩⟩}
variable{b0:Type}
theorem ZR [Inhabited b0] (h:b0->Value) (b:World) (a:Nat) (c:Array b0) (d:Array Value) (k:TypeId) (o:Nat×Nat) (p:b.heap[a]? =some (.cells d k o)) (x:c.size<=d.size):
  Sort.putRow h b a 0 c=b.setRow a (dh d 0 (c.toList.map h)):=by
 unfold Sort.putRow Sort.mapBlock World.setRow;congr 1;apply Array.ext_getElem?;intro r;simp only[Array.getElem?_modify];by_cases hk:a=r
 .subst hk;simp only[if_true,p,a5O,Sort.onCells];congr 2;apply a8X;apply a8u;intro y;simp only[Sort.putCells,dh,a6u,Array.getElem?_mapIdx,a6I,a5f,a5m,a4Y,a8i];grind
 .simp[hk]
variable{g B e0:List R}{e i v O b8 j0:Nat}{m:Program}
theorem ZS {k6:Shelf.Ren} (n5:Proofs.SlLaysF.n6 m k6) (S:b0->R->Prop) (n9: ∀a d,S a d->d.one=true/\d.cells= [d]) {C:List b0}
  (Y:f e=some (.cells g)) (a69:B.length=C.length) (a00: ∀(b:Nat) a d,C[b]? =some a->B[b]? =some d->S a d) (a01:C.length=i) (k7:g.take i=B) (a71:i<4611686018427387904)
  (V:FuncId) (I:List R) (k8:t.sub f) (k9: ∀c,t c=none\/ ∃Z,t c=some (.ro Z)) (x:b0->Prop) (a02: ∀j∈C,x j) (a03:0<i)
  (y:b0->b0->Int) (a73: ∀a,x a-> ¬y a a<0) (a74: ∀a h D,x a->x h->x D->y a h<0->y h D<0->y a D<0) (a81: ∀a h D,x a->x h->x D-> ¬y a h<0-> ¬y h D<0-> ¬y a D<0)
  (a04: ∀l0 p,(callFunc V l0).run m p= .ok (.enter V l0) p)
  (a05: ∀a h d c,S a d->S h c->x a->x h->AC m V ([d,c]++I) t λj _=>j= .v (.int .i64 (y a h))):
  AC m (k6.f 6) [.an e i O 1,.bG V [] I] f λj l1=>j= .aI []/\ ∃o j9,j9.Perm C/\o.length=i/\(∀(b:Nat) a d,j9[b]? =some a->o[b]? =some d->S a d)/\List.Pairwise (λd c=> ¬y c d<0) j9/\l1=f.set e (.cells (o++g.drop i)):=by
 intro K p z k0 w;have l2:=k0.2 0 _ rfl;have l3:=k0.2 1 _ rfl;have a06:K.size=2:=k0.1;generalize a07:K.getD 0 undef=a83 at l2;generalize a08:K.getD 1 undef=a84 at l3;cases l2 with
 |an e i O a86 a88 a89=>
 cases l3 with
 |bG a90 ws ia cJ a92 hw a94 a09 a10=>
 obtain rfl:ws= #[]:=a8f hw;have al:K= #[.slice (some ⟨e,0,none⟩) i O,.func (.func V) #[] ia]:=by
  apply Array.ext
  .exact a06
  .intro b G L
   match b,G with
   |0,G=>rw[<-a07];simp_all
   |1,G=>rw[<-a08];simp_all
   |b+2,G=>omega
 rw[al];obtain⟨a95,l,T,k1,l4,a11⟩:=w.dO e _ Y;have a96:i<=g.length:=by grind
 have a97:=l4.1
 let W:= {P:Value×b0//(∃d,S P.2 d/\aY z P.1 d)/\x P.2};have l5: ∀b (n:b<i),∃a:W,a.1.1=l[b]'a9p/\a.1.2=C[b]'a9p:=λb n=>by
  have G:g[b]? =some (B[b]'a9p):=by grind
  have L:=l4.2 b _ G;have A:l.getD b undef=l[b]'a9p:=by simp[show b<l.size by omega]
  rw[A]at L;exact⟨⟨(l[b]'a9p,C[b]'a9p),⟨_,a00 b _ _ (a4M _) (a4M _),L⟩,a02 _ (a5p _)⟩,rfl,rfl⟩
 haveI:Inhabited W:=⟨(l5 0 a03).choose⟩
 obtain⟨E,l6,a98⟩: ∃E:Array W,E.size=i/\ ∀b (n:b<i) (a13),E[b].1.1=l[b]'a9p/\E[b].1.2=C[b]'a9p:=
  ⟨Array.ofFn λb=>(l5 b b.2).choose,a9q,λb n a13=>by grind[Array.getElem_ofFn]⟩
 let k:W->Value:=λa=>a.1.1;have G:Proofs.OneCell k:=λa=>by
  obtain⟨⟨d,L,A⟩,_⟩:=a.2;exact A.nJ (n9 _ _ L).1
 have a14:Sort.Holds k p e 0 E:=λr k2=>by
  have a99:r<i:=a9p;rw[getElem!_pos E r k2];constructor
  .simp only[World.cell?,k1,a5m,a6F,a5M,if_false];grind
  .simp[World.frozen?,k1]
 have a15:=(a6c.1 k1).1
 let k3:W->W->Int:=λa h=>y a.1.2 h.1.2;have a16:Proofs.CmpLays1 m V ia k k3 e 0 E.size p:=λl7 q l8 b00 a h=>by
  have l9: ∀c,c<p.heap.size->c≠e->(Proofs.sortWorld k p e 0 l7 l8 q).heap[c]? =p.heap[c]? :=λc M N=>by
   show(((p.heap.modify e _)++q)[c]?)= _;grind
  have a18:Holds z t (Proofs.sortWorld k p e 0 l7 l8 q):=⟨λc k4 v s=>by
   have N:c≠e:=by rintro rfl;rw[a11]at s;cases s
   rw[<-w.ro c k4 v s];exact World.cell?_of_block (l9 c (w.lt s) N),λc k4 M=>by
   have N:c≠e:=by
    rintro rfl;rcases k9 c with H|⟨Z,H⟩
    .rw[H]at M;cases M
    .have:=k8 _ _ H;rw[Y]at this;cases this
   have L:=w.dO c k4 (k8 _ _ M);exact L.kept (.refl z) (l9 c L.lt N) λ_ n=>n⟩
  obtain⟨⟨d,aM,a19⟩,a27⟩:=a.2;obtain⟨⟨c,a29,a30⟩,a34⟩:=h.2;have a36:bq z (#[k a,k h]++ia) ([d,c]++I):=⟨by simp[a09];omega,λr Q u=>by
   match r,u with
   |0,u=>obtain rfl:=a4L u;rw[show(#[k a,k h]++ia).getD 0 undef=k a by rw[a5J,a7E a9q];rfl];exact a19
   |1,u=>obtain rfl:=a4L u;rw[show(#[k a,k h]++ia).getD 1 undef=k h by rw[a5J,a7E a9q];rfl];exact a30
   |r+2,u=>
    have A:I[r]? =some Q:=by trivial
    have k2:r<ia.size:=by grind
    have b01:=a10 r Q A;simp_all [a5J,Array.getElem?_append_right]⟩
  refine(a05 _ _ d c aM a29 a27 a34 _ _ z a36 a18).mono ?_;rintro a38 a42 ⟨v,j,b02,l1,rfl,X,s,rfl⟩;refine⟨by rw[s.dQ],X.ZQ k9⟩
 have a43:Sort.SWO (Proofs.ltOf k3):=⟨λa=>by simp only[Proofs.ltOf];grind,λa h D=>by simp only[Proofs.ltOf,decide_eq_true_eq];grind,λa h D=>by grind[Proofs.ltOf,decide_eq_false_iff_not]⟩;have n0:=Proofs.Any.slices_SortFunc n5 k G k3 a43 V ia e 0 O E p a04 a16 a14 a15 a9p;rw[l6]at n0;refine n0.mono ?_;rintro a38 a42 ⟨rfl,F,P,q,⟨b03,_,n1⟩,a47,rfl⟩;have n2:F.size=i:=a9p;rw[a8n a9p,a8n a9p]at n1
 let o:List R:=F.toList.map λa=>a.2.1.choose;have b04: ∀a:W,S a.1.2 a.2.1.choose/\aY z a.1.1 a.2.1.choose:=λa=>a.2.1.choose_spec;have a48:bq z (F.toList.map k).toArray o:=bq.dP.2 ⟨by simp[o],λr b05 Q n3 a52=>by
  simp only[a5n,o]at n3 a52;cases k5:F.toList[r]? with
  |none=>simp[k5]at n3
  |some a=>grind⟩
 obtain⟨a56,b06,b07,b08,X⟩:=Step.store w Y 0 o _ a48 (λZ k7=>by
  obtain⟨a,_,rfl⟩:=a5h.1 k7;grind) (by simp[o];omega)
 have a57:Sort.putRow k (Sort.ahead p P) e 0 F=Sort.ahead (p.setRow e (dh a56 0 (F.toList.map k))) P:=by grind[Sort.putRow_ahead,ZR]
 have a61:=X.trans (Step.grown X.holds P q);refine⟨_,.aI [],z,f.set e (.cells (o++g.drop i)),rfl,?_,.aI #[] [] rfl (λr Q H=>by simp at H),rfl,o,F.toList.map (λa=>a.1.2),?_,by simp[o,n2],?_,?_,rfl⟩
 .have a62:putAt g 0 o=o++g.drop i:=by simp[putAt,o,n2]
  rw[<-a62];show Step z f p z _ (Sort.grow (Sort.putRow k (Sort.ahead p P) e 0 F) q);rw[a57];exact a61
 .have a63:C=E.toList.map (λa=>a.1.2):=by
   apply a8B
   .simp[a01,l6]
   simp_all
  rw[a63];exact n1.map _
 .intro b a d n4 a65;simp only[a5n,o]at n4 a65;cases k5:F.toList[b]? with
  |none=>simp[k5]at n4
  |some h=>grind
 .rw[a7j,a6n];intro b r n k2 a68;have:=a47 b r (a5v _) a68 (by simp_all);grind[Array.length_toList,Proofs.ltOf]
end Go.bz
namespace Go.Proofs
open Go.Shelf
def Tryz.ZT:Go.Shelf.Ren:=⟨λ|6=>118|15=>184|14=>183|28=>267|29=>268|20=>259|21=>260|22=>261|23=>262|24=>263|25=>264|26=>265|27=>266|46=>316|47=>317|48=>318|49=>319|50=>320|57=>346|a=>a,λ|22=>37|24=>24|25=>196|3=>3|39=>213|0=>0|53=>284|55=>130|4=>4|46=>324|45=>323|50=>221|5=>5|9=>9|66=>368|70=>372|76=>385|77=>386|a=>a,λ|a=>a⟩
def Tryz.EY:Go.Proofs.SlLaysF.n6 Tryz.prog Tryz.ZT:= {
 mixed:=a9u
 f6:=⟨Tryz.f118.name,a9t,Tryz.func118.trans (congrArg some a9u)⟩
 f14:=⟨Tryz.f183.name,a9t,Tryz.func183.trans (congrArg some a9u)⟩
 f15:=Tryz.func184.trans (congrArg some a9u)
 f20:=⟨Tryz.f259.name,a9t,Tryz.func259.trans (congrArg some a9u)⟩
 f21:=⟨Tryz.f260.name,a9t,Tryz.func260.trans (congrArg some a9u)⟩
 f22:=⟨Tryz.f261.name,a9t,Tryz.func261.trans (congrArg some a9u)⟩
 f23:=⟨Tryz.f262.name,a9t,Tryz.func262.trans (congrArg some a9u)⟩
 f24:=⟨Tryz.f263.name,a9t,Tryz.func263.trans (congrArg some a9u)⟩
 f25:=⟨Tryz.f264.name,a9t,Tryz.func264.trans (congrArg some a9u)⟩
 f26:=⟨Tryz.f265.name,a9t,Tryz.func265.trans (congrArg some a9u)⟩
 f27:=⟨Tryz.f266.name,a9t,Tryz.func266.trans (congrArg some a9u)⟩
 f28:=Tryz.func267.trans (congrArg some a9u)
 f29:=Tryz.func268.trans (congrArg some a9u)
 f46:=⟨Tryz.f316.name,a9t,Tryz.func316.trans (congrArg some a9u)⟩
 f47:=Tryz.func317.trans (congrArg some a9u)
 f48:=Tryz.func318.trans (congrArg some a9u)
 f49:=⟨Tryz.f319.name,a9t,Tryz.func319.trans (congrArg some a9u)⟩
 f50:=⟨Tryz.f320.name,a9t,Tryz.func320.trans (congrArg some a9u)⟩
 f57:=⟨Tryz.f346.name,a9t,Tryz.func346.trans (congrArg some a9u)⟩
 t0:=Tryz.underlying0
 a0:=Tryz.isAgg0
 z0:=Tryz.sizeOf0
 v0:=Tryz.zeroValue0
 t3:=Tryz.underlying3
 a3:=Tryz.isAgg3
 z3:=Tryz.sizeOf3
 v3:=Tryz.zeroValue3
 t4:=Tryz.underlying4
 a4:=Tryz.isAgg4
 z4:=Tryz.sizeOf4
 v4:=Tryz.zeroValue4
 t5:=Tryz.underlying5
 a5:=Tryz.isAgg5
 z5:=Tryz.sizeOf5
 v5:=Tryz.zeroValue5
 t9:=Tryz.underlying9
 a9:=Tryz.isAgg9
 z9:=Tryz.sizeOf9
 v9:=Tryz.zeroValue9
 t22:=Tryz.underlying37
 a22:=Tryz.isAgg37
 z22:=Tryz.sizeOf37
 v22:=Tryz.zeroValue37
 a24:=Tryz.isAgg24
 z24:=Tryz.sizeOf24
 t25:=Tryz.underlying196
 a25:=Tryz.isAgg196
 z25:=Tryz.sizeOf196
 v25:=Tryz.zeroValue196
 t39:=Tryz.underlying213
 a39:=Tryz.isAgg213
 z39:=Tryz.sizeOf213
 v39:=Tryz.zeroValue213
 t45:=Tryz.underlying323
 a45:=Tryz.isAgg323
 z45:=Tryz.sizeOf323
 v45:=Tryz.zeroValue323
 t46:=Tryz.underlying324
 a46:=Tryz.isAgg324
 z46:=Tryz.sizeOf324
 v46:=Tryz.zeroValue324
 t50:=Tryz.underlying221
 a50:=Tryz.isAgg221
 z50:=Tryz.sizeOf221
 v50:=Tryz.zeroValue221
 t53:=Tryz.underlying284
 a53:=Tryz.isAgg284
 z53:=Tryz.sizeOf284
 v53:=Tryz.zeroValue284
 t55:=Tryz.underlying130
 a55:=Tryz.isAgg130
 z55:=Tryz.sizeOf130
 v55:=Tryz.zeroValue130
 t66:=Tryz.underlying368
 a66:=Tryz.isAgg368
 z66:=Tryz.sizeOf368
 v66:=Tryz.zeroValue368
 t70:=Tryz.underlying372
 a70:=Tryz.isAgg372
 z70:=Tryz.sizeOf372
 v70:=Tryz.zeroValue372
 t76:=Tryz.underlying385
 a76:=Tryz.isAgg385
 z76:=Tryz.sizeOf385
 v76:=Tryz.zeroValue385
 t77:=Tryz.underlying386
 a77:=Tryz.isAgg386
 z77:=Tryz.sizeOf386
 v77:=Tryz.zeroValue386}
end Go.Proofs
namespace Go.Proofs.YtlgnfcaolejgeaaGreat
open Go Go.bz
variable{f t e4:U}
theorem ZU {b c:U} (h: ∀a,t a=none->f a=none) (k: ∀a,c a≠none->f a=none\/b a≠none):(e4.part t c).sub (e4.part f b):=λa o d=>by
 rw[U.part]at d|-;grind
variable{e i v O b8 j0:Nat}{Y:br}
def yo (c:f.sub t):(f.set e Y).sub (t.set e Y):=λd h a=>by
 by_cases b:d=e
 .subst b;rw[U.ai]at a|-;exact a
 .rw[U.ao _ _ b]at a|-;exact c _ _ a
theorem yp {d h:U}{o:br} (p:f.sub t) (r:e4=f.set e o) (k:f e=none):
  (d.part (t.set e Y) ((t.part e4 h).set e Y)).sub (d.part f h):=ZU (λc a=>by
   by_cases b:c=e
   .subst b;exact k
   .rw[U.ao _ _ b]at a;exact U.bF p a) λc a=>by
   by_cases b:c=e
   .subst b;exact .inl k
   .rw[U.ao _ _ b,U.part]at a;split at a;simp_all [U.ao]
    .trivial
theorem uE {a:U} (b:f=e4.set e Y) (c:t e=none):a.part f t e=none:=by simp_all [U.part,U.ai]
def aC.Ok (a:Nat):aC->Prop
 | .nil=>True
 | .node b _ c d=>b.length=a/\c.Ok a/\d.Ok a
theorem aC.Ok.all {c:Nat}: ∀ {d:aC},d.Ok c-> ∀b∈d.all,b.length=c
 | .nil,_,b,a=>by trivial
 | .node o live p r,⟨h1,h,k⟩,b,a=>by
  simp only[aC.all,a5a]at a;rcases a with (a|a)|a
  .exact h.all b a
  .exact k.all b a
  simp_all
def hy (d:Nat) (h:aC) (k:Nat):aC:=
 match h with
 | .nil=> .nil
 | .node c live a b=>if max a.size b.size>2*(aC.node c live a b).size/3+1 then fN d (aC.node c live a b).all.length (aC.node c live a b).all k else .node c live a b
theorem yq (o:Nat) (j:0<o) (l:o<=8) (d:List Int) (h:Bool) (a b:aC) (F:R) (p:Nat) (k r:U) (G:dN r (.node d h a b) F) (L:r.sub k) (m:(aC.node d h a b).Ok o) (x:(aC.node d h a b).size<=100000) (k1:p<=100000):
  AC Tryz.prog 96 [F,.v (.int .i64 (p:Int))] k λy P=>k.sub P/\dN (P.part k r) (hy o (.node d h a b) p) y:=by
 have z:=G.mono L;obtain⟨k2,k3,y,n,rfl,q,s,t⟩:=id z;have k4:=U.ae q;have u:a.size<=100000:=by simp only[aC.size]at x;omega
 have w:b.size<=100000:=by simp only[aC.size]at x;omega
 refine aM hm M3 ?_;refine bc (qS a y k s a9p) ?_;refine bc (qS b n k t a9p) ?_;have A:=lr (aC.node d h a b);have S:=qS _ _ k z a9p;rw[hy];have B:=uD o j l (aC.node d h a b).all.length (aC.node d h a b).all;have H:=sJ _ _ k z a9p;have I:=m.all;generalize aC.node d h a b=K at*;obtain⟨c,T⟩: ∃c,K.size=c:=⟨_,rfl⟩;obtain⟨C,V⟩: ∃c,a.size=c:=⟨_,rfl⟩;obtain⟨D,W⟩: ∃c,b.size=c:=⟨_,rfl⟩;rw[T]at S x A|-;rw[V]at u|-;rw[W]at w|-;clear T V W;have M:(2*(c:Int)).tdiv 3=((2*c/3:Nat)):=by grind
 obtain⟨E,e⟩: ∃E,2*c/3=E:=⟨_,rfl⟩;rw[e]at M|-;have N:max (C:Int) (D)=((max C D)):=a9p;obtain⟨f,g⟩: ∃f,max C D=f:=⟨_,rfl⟩;rw[g]at N|-;have hm:E<=100000:=a9p;clear e g;refine bc S ?_;refine aG (λO=> ?_) λO=> ?_
 .rw[if_pos a9p];refine ag H ?_;rintro _ Q ⟨X,Y,i,Z,rfl⟩;refine aa ?_;refine ag (B X Y p Q Z I a9p a9p a9p) ?_;rintro v k5 ⟨j9,k0⟩;refine aa ?_;exact⟨_,U.a1,U.aq i.sub j9,k0.mono (ZP i.sub)⟩
 .rw[if_neg a9p];exact⟨_,U.a1,U.a1,G.mono (px L)⟩
theorem qU (b:Nat): ∀(c:Nat) (a:List (List Int)) (dep:Nat),(fN b c a dep).size<=a.length
 |0,_,_=>a5v _
 |c+1,a,dep=>by
  rw[fN];split
  .exact a5v _
  .rename_i d;have:=a5U.2 d;have h:=qU b c ((eb (dep%b) a).take (a.length/2)) (dep+1);have k:=qU b c ((eb (dep%b) a).drop (a.length/2+1)) (dep+1);grind[List.length_take,py,List.length_drop,aC.size]
theorem yr (b:Nat): ∀(d:Nat) (h:List (List Int)) (dep:Nat),(∀a∈h,a.length=b)->(fN b d h dep).Ok b
 |0,_,_,_=>trivial
 |d+1,h,dep,o=>by
  rw[fN];split
  .trivial
  .rename_i p;have:=a5U.2 p;have k: ∀a∈eb (dep%b) h,a.length=b:=λa c=>o a (qT.1 c);refine⟨?_,yr b d _ _ λa c=>k a (a4Z c),yr b d _ _ λa c=>k a (a5r c)⟩;grind[eb,py,List.getD,List.getElem?_eq_getElem,List.getElem_mem]
theorem ZV (b:Nat) (a:aC) (c:Nat):(hy b a c).size<=a.size:=by
 unfold hy;split
 .trivial
 .split
  .exact a5K (qU _ _ _ _) (lr _)
  .omega
variable{a8:aC}
def ys (b:Nat) (a:a8.Ok e):(hy e a8 b).Ok e:=by
 unfold hy;split
 .trivial
 .split
  .exact yr _ _ _ _ a.all
  .exact a
def cY (a:Nat) (b:List Int):aC->Nat->aC×Bool
 | .nil,_=>(.node b true .nil .nil,true)
 | .node c live d h,dep=>
  if c=b then(hy a (.node c true d h) dep,!live)
  else if cH (dep%a) b c<0 then(hy a (.node c live (cY a b d (dep+1)).1 h) dep,(cY a b d (dep+1)).2)
  else(hy a (.node c live d (cY a b h (dep+1)).1) dep,(cY a b h (dep+1)).2)
theorem pz (a:Nat) (b:List Int): ∀(c:aC) (dep:Nat),(cY a b c dep).1.size<=c.size+1
 | .nil,_=>a5s _
 | .node k live d h,dep=>by
  have o:=pz a b d (dep+1);have p:=pz a b h (dep+1);grind[cY,Nat.le_trans,ZV,aC.size]
def uF {a:Nat}{b:List Int} (c:b.length=a): ∀ {r:aC} (dep:Nat),r.Ok a->(cY a b r dep).1.Ok a
 | .nil,_,_=>⟨c,trivial,trivial⟩
 | .node d live h k,dep,⟨h1,o,p⟩=>by
  rw[cY];split
  .exact ys (a8:= .node d true h k) _ ⟨h1,o,p⟩
  .split
   .exact ys (a8:= .node d live (cY a b h (dep+1)).1 k) _ ⟨h1,uF c _ o,p⟩
   .exact ys (a8:= .node d live h (cY a b k (dep+1)).1) _ ⟨h1,o,uF c _ p⟩
def yt (a:Nat) (E:0<a) (P:a<=8) (o:List Int) (g:Own) (S:o.length=a): ∀(T:aC) (V:R) (dep:Nat) (x y:U),dN y T V->y.sub x->T.Ok a->T.size+1+dep<=100000->
  AC Tryz.prog 54 [V,.J (ad o) g,.v (.int .i64 (dep:Int))] x λk H=>x.sub H/\ ∃d,k= .aI [d,.v (.bool (cY a o T dep).2)]/\dN (H.part x y) (cY a o T dep).1 d
 | .nil,V,dep,x,y,q,z,I,K=>by
  obtain rfl:V= .v (.pointer none):=q;refine aM hm Be ?_;refine aN λb h=> ?_;refine aa ?_;exact⟨_,U.a1,U.af U.a1 h,_,rfl,b,g,_,_,rfl,(uC h).trans (U.ai _ _ _),rfl,rfl⟩
 | .node c live F G,V,dep,x,y,q,z,I,K=>by
  obtain⟨M,p,k,d,rfl,N,i,j⟩:=q;have W:=z _ _ N;have O:=i.mono z;have Q:=j.mono z;obtain⟨s,l,m⟩:=id I;have k4:=U.ae W;have k5:=bH (q:=o);have k6:=O.cells;have k7:=Q.cells;refine aM hm Be ?_;refine bp λb h=> ?_;have X:=U.af (Y:= .cells [.J (ad c) p,.v (.bool live),k,d]) U.a1 h;have k8:=U.ae (X _ _ W);have k9:M≠b:=by rintro rfl;rw[h]at W;cases W
  have C:=U.bF z h;obtain⟨n,Y⟩: ∃n,n=x.set b (.cells [.J (ad c) p,.v (.bool live),k,d]):=⟨_,rfl⟩;simp only[aC.size]at K;refine aa ?_;refine ag (nn c o _ _ _ a9p) ?_;rintro _ _ ⟨rfl,rfl⟩;refine aa ?_;refine aG (λt=> ?_) λt=> ?_
  .subst t;have Z:dN ((x.part n y).set b (.cells [.J (ad c) p,.v (.bool true),k,d])) (.node c true F G) (.ptr b 0):=by have r:=U.af (Y:= .cells [.J (ad c) p,.v (.bool true),k,d]) (px (e4:=n) z) C;exact⟨b,p,k,d,rfl,U.ai _ _ _,i.mono r,j.mono r⟩
   refine ag (yq a E P c true F G _ dep _ _ Z (yo qR) ⟨s,l,m⟩ (by simp only[aC.size];omega) a9p) ?_;rintro v L ⟨r,D⟩;have l0:=U.ae (r _ _ (U.af U.a1 h _ _ W));refine aa ?_;rw[cY,if_pos rfl];exact⟨_,U.a1,U.aq (U.af U.a1 h) r,_,rfl,D.mono (yp U.a1 Y h)⟩
  rw[cY,if_neg t];have l1:(dep:Int).tmod (a:Int)=((dep%a:Nat)):=rfl;refine ag (yl o c _ _ (dep%a) _ (by rw[S];exact a6Q _ E) a9p a9p) ?_;rintro _ _ ⟨rfl,rfl⟩;refine aa ?_;refine aG (λc2=> ?_) λc2=> ?_
  .refine ag (yt a E P o g S F k (dep+1) _ y i (U.af z C) l a9p) ?_;rintro _ L ⟨r,v,rfl,D⟩;have u:=r _ _ (U.ai _ _ _);have j9:ef L b=some [.J (ad c) p,.v (.bool live),k,d]:=by simp[ef,u]
   have k0:=D.cells;have e:=U.aq (U.af U.a1 h) r;rw[if_pos c2];refine aa ?_;have f:=U.af (Y:= .cells [.J (ad c) p,.v (.bool live),v,d]) U.a1 (uE rfl C:L.part (x.set b (.cells [.J (ad c) p,.v (.bool live),k,d])) y b=none);have w:dN _ (.node c live (cY a o F (dep+1)).1 G) (.ptr b 0):=⟨b,p,v,d,rfl,U.ai _ _ _,D.mono f,j.mono (U.aq (px (U.aq (U.af z C) r)) f)⟩;have k1:=pz a o F (dep+1);refine ag (yq a E P _ _ _ _ _ dep _ _ w (yo qR) ⟨s,uF S _ l,m⟩ (by simp only[aC.size];omega) a9p) ?_;rintro k2 k3 ⟨A,B⟩;refine aa ?_;exact⟨_,U.a1,U.aq (U.af e h) A,_,rfl,B.mono (yp e rfl h)⟩
  .refine ag (yt a E P o g S G d (dep+1) _ y j (U.af z C) m a9p) ?_;rintro _ L ⟨r,v,rfl,D⟩;have u:=r _ _ (U.ai _ _ _);have j9:ef L b=some [.J (ad c) p,.v (.bool live),k,d]:=by simp[ef,u]
   have k0:=D.cells;have e:=U.aq (U.af U.a1 h) r;rw[if_neg c2];refine aa ?_;have f:=U.af (Y:= .cells [.J (ad c) p,.v (.bool live),k,v]) U.a1 (uE rfl C:L.part (x.set b (.cells [.J (ad c) p,.v (.bool live),k,d])) y b=none);have w:dN _ (.node c live F (cY a o G (dep+1)).1) (.ptr b 0):=⟨b,p,k,v,rfl,U.ai _ _ _,i.mono (U.aq (px (U.aq (U.af z C) r)) f),D.mono f⟩;have k1:=pz a o G (dep+1);refine ag (yq a E P _ _ _ _ _ dep _ _ w (yo qR) ⟨s,l,uF S _ m⟩ (by simp only[aC.size];omega) a9p) ?_;rintro k2 k3 ⟨A,B⟩;refine aa ?_;exact⟨_,U.a1,U.aq (U.af e h) A,_,rfl,B.mono (yp e rfl h)⟩
theorem uG {a:U}{b:br} (d:t=f.set e b) (h:f e=none):((e4.part t a).set e Y).sub ((e4.set e Y).part f a):=λc k o=>by
 by_cases p:c=e;grind[U.ai,uC];simp_all [U.ao,U.part]
def ch (b:Nat) (a:List Int):aC->Nat->aC×Bool
 | .nil,_=>(.nil,false)
 | .node c live d h,dep=>
  if c=a then(.node c false d h,live)
  else if cH (dep%b) a c<0 then(.node c live (ch b a d (dep+1)).1 h,(ch b a d (dep+1)).2)
  else(.node c live d (ch b a h (dep+1)).1,(ch b a h (dep+1)).2)
theorem pA (a:Nat) (b:List Int): ∀(c:aC) (dep:Nat),(ch a b c dep).1.size=c.size
 | .nil,_=>rfl
 | .node k live d h,dep=>by
  have o:=pA a b d (dep+1);have p:=pA a b h (dep+1);grind[ch,aC.size]
def yu {a:Nat}{h:List Int}: ∀ {b:aC} (dep:Nat),b.Ok a->(ch a h b dep).1.Ok a
 | .nil,_,_=>trivial
 | .node k live o p,dep,⟨h1,c,d⟩=>by
  rw[ch];split
  .trivial
  .split
   .exact⟨h1,yu _ c,d⟩
   .exact⟨h1,c,yu _ d⟩
def yv (b:Nat) (V:0<b) (s:b<=8) (p:List Int) (W:Own) (e:p.length=b): ∀(D:aC) (E:R) (dep:Nat) (y z:U),dN z D E->z.sub y->D.Ok b->D.size+1+dep<=1000000->
  AC Tryz.prog 89 [E,.J (ad p) W,.v (.int .i64 (dep:Int))] y λc t=>y.sub t/\ ∃a,c= .aI [a,.v (.bool (ch b p D dep).2)]/\dN (t.part y z) (ch b p D dep).1 a
 | .nil,E,dep,y,z,f,r,u,w=>by
  obtain rfl:E= .v (.pointer none):=f;refine aM hm Bi ?_;exact⟨_,U.a1,U.a1,_,rfl,rfl⟩
 | .node d live g i,E,dep,y,z,f,r,u,w=>by
  obtain⟨B,o,c,a,rfl,H,P,S⟩:=f;have T:=r _ _ H;have I:=P.mono r;have K:=S.mono r;obtain⟨Y,M,N⟩:=id u;have Z:=U.ae T;have j9:=bH (q:=p);have k0:=I.cells;have k1:=K.cells;refine aM hm Bi ?_;refine bp λh k=> ?_;have O:=U.af (Y:= .cells [.J (ad d) o,.v (.bool live),c,a]) U.a1 k;have k2:=U.ae (O _ _ T);have k3:B≠h:=by rintro rfl;rw[k]at T;cases T
  have C:=U.bF r k;obtain⟨j,A⟩: ∃j,j=y.set h (.cells [.J (ad d) o,.v (.bool live),c,a]):=⟨_,rfl⟩;simp only[aC.size]at w;refine aa ?_;refine ag (nn d p _ _ _ a9p) ?_;rintro _ _ ⟨rfl,rfl⟩;refine aa ?_;refine aG (λl=> ?_) λl=> ?_
  .subst l;rw[ch,if_pos rfl];have x:=U.af (Y:= .cells [.J (ad d) o,.v (.bool false),c,a]) (px (e4:=j) r) C;exact⟨_,U.a1,U.af U.a1 k,_,rfl,h,o,c,a,rfl,(uC k).trans (U.ai _ _ _),P.mono (U.aq x (uG A k)),S.mono (U.aq x (uG A k))⟩
  rw[ch,if_neg l];have k4:(dep:Int).tmod (b:Int)=((dep%b:Nat)):=rfl;refine ag (yl p d _ _ (dep%b) _ (by rw[e];exact a6Q _ V) a9p a9p) ?_;rintro _ _ ⟨rfl,rfl⟩;refine aa ?_;refine aG (λc2=> ?_) λc2=> ?_
  .refine ag (yv b V s p W e g c (dep+1) _ z P (U.af r C) M a9p) ?_;rintro _ F ⟨x,v,rfl,G⟩;have m:=x _ _ (U.ai _ _ _);have Q:ef F h=some [.J (ad d) o,.v (.bool live),c,a]:=by simp[ef,m]
   have X:=G.cells;have n:=U.aq (U.af U.a1 k) x;rw[if_pos c2];refine aa ?_;have L:=U.af (Y:= .cells [.J (ad d) o,.v (.bool live),v,a]) U.a1 (uE rfl C:F.part (y.set h (.cells [.J (ad d) o,.v (.bool live),c,a])) z h=none);have q:dN _ (.node d live (ch b p g (dep+1)).1 i) (.ptr h 0):=⟨h,o,v,a,rfl,U.ai _ _ _,G.mono L,S.mono (U.aq (px (U.aq (U.af r C) x)) L)⟩;exact⟨_,U.a1,U.af n k,_,rfl,q.mono (uG rfl k)⟩
  .refine ag (yv b V s p W e i a (dep+1) _ z S (U.af r C) N a9p) ?_;rintro _ F ⟨x,v,rfl,G⟩;have m:=x _ _ (U.ai _ _ _);have Q:ef F h=some [.J (ad d) o,.v (.bool live),c,a]:=by simp[ef,m]
   have X:=G.cells;have n:=U.aq (U.af U.a1 k) x;rw[if_neg c2];refine aa ?_;have L:=U.af (Y:= .cells [.J (ad d) o,.v (.bool live),c,v]) U.a1 (uE rfl C:F.part (y.set h (.cells [.J (ad d) o,.v (.bool live),c,a])) z h=none);have q:dN _ (.node d live g (ch b p i (dep+1)).1) (.ptr h 0):=⟨h,o,c,v,rfl,U.ai _ _ _,P.mono (U.aq (px (U.aq (U.af r C) x)) L),G.mono L⟩;exact⟨_,U.a1,U.af n k,_,rfl,q.mono (uG rfl k)⟩
def lu (a:Nat) (b:List Int) (c:aC):aC×Bool:=
 if(ch a b c 0).2=true/\2*(ch a b c 0).1.all.length<(ch a b c 0).1.size then(fN a (ch a b c 0).1.all.length (ch a b c 0).1.all 0,true)else ch a b c 0
def ZW (a:Nat) (z:0<a) (C:a<=8) (b:List Int) (D:Own) (L:b.length=a) (c:aC) (o:R) (k:U) (P:dN k c o) (E:c.Ok a) (u:c.size+1<=100000):
  AC Tryz.prog 52 [o,.J (ad b) D] k λS F=>k.sub F/\ ∃d,S= .aI [d,.v (.bool (lu a b c).2)]/\dN F (lu a b c).1 d:=by
 refine aM hm KS ?_;refine ag (yv a z C b D L c o 0 k k P U.a1 E a9p) ?_;rintro _ T ⟨p,d,rfl,V⟩;have r:=V.mono qR;have W:=yu (h:=b) 0 E;have cm:=pA a b c 0;rw[lu];generalize ch a b c 0=e at*;obtain⟨h,f⟩:=e
 dsimp only at*
 have w:=lr h;cases f with
 |false=>refine aa ?_;rw[if_neg a9q];exact⟨_,U.a1,p,d,rfl,r⟩
 |true=>
  refine aa ?_;refine ag (sJ h d T r a9p) ?_;rintro _ G ⟨A,B,x,g,rfl⟩;have y:=r.mono x.sub;have H:=g.len;refine aa ?_;refine bc (qS h d G y a9p) ?_;refine aG (λi=> ?_) λi=> ?_
  .rw[if_pos ⟨rfl,a9p⟩];refine ag (sJ h d G y a9p) ?_;rintro _ j ⟨l,m,n,q,rfl⟩;refine aa ?_;refine ag (uD a z C h.all.length h.all l m 0 j q W.all a9p a9p a9p) ?_;rintro v I ⟨s,t⟩;refine aa ?_;exact⟨_,U.a1,U.aq p (U.aq x.sub (U.aq n.sub s)),v,rfl,t.mono qR⟩
  .rw[if_neg a9p];exact⟨_,U.a1,U.aq p x.sub,d,rfl,y⟩
def ZX (a:UInt32):bn .mul (.int .u32 256) (.int .u32 a.toNat)=some (.int .u32 (256*a).toNat):=BQ (x:=256) (y:=a)
def pB (a:UInt32):bn .sub (.int .u32 4294967295) (.int .u32 a.toNat)=some (.int .u32 (~~~a).toNat):=by
 have b:=BP (x:=4294967295) (y:=a);have c:(4294967295) - a= ~~~a:=by apply UInt32.toNat_inj.1;rw[UInt32.toNat_sub,UInt32.toNat_not];have:=a.toNat_lt;simp;omega
 rw[c]at b;exact b
theorem sK (a:UInt32):bn .quo (.int .u32 a.toNat) (.int .u32 8)=some (.int .u32 (a>>>3).toNat):=by have b:=a.toNat_lt;grind[Int.tdiv,Int.tdiv_eq_ediv_of_nonneg,UInt32.toNat_shiftRight,Nat.shiftRight_eq_div_pow,bn,fq,hD,qh]
theorem sL (a:UInt32):bn .quo (.int .u32 a.toNat) (.int .u32 1024)=some (.int .u32 (a>>>10).toNat):=by have b:=a.toNat_lt;grind[Int.tdiv,Int.tdiv_eq_ediv_of_nonneg,UInt32.toNat_shiftRight,Nat.shiftRight_eq_div_pow,bn,fq,hD,qh]
theorem mj (c:UInt32) (d:Int) (a:Nat) (r:0<a/\a<32) (h:d=((32 - a:Nat):Int)) (b:U):AC Tryz.prog 324 [.v (.int .u32 c.toNat),.v (.int .u64 d)] b λk o=>o=b/\k= .v (.int .u32 (rotl c a).toNat):=by
 subst h;have p:bn .sub (.int .u64 32) (.int .u64 ((32 - a:Nat)))=some (.int .u64 (a)):=by grind[bn,fq,hD,kr]
 refine bd hm S3 a9q ?_;simp -dsimp -implicitDefEqProofs (disch:=first|omega|assumption|(simp only[bk,Nat.reduceAdd];try omega)) only[↓rX,rY,al,ofConst,cS,simprocAttr,fV,aZ,ba,a6s,↓s0,s3,ne_eq,not_true_eq_false,not_false_eq_true,Int.reduceNe,a6x,a6J,p];refine⟨b,U.a1,rfl,?_⟩;simp only[rotl];rw[UInt32.or_comm]
def ZY (a:U):AC Tryz.prog 191 [] a λc d=> ∃b,a b=none/\c= .an b 64 64 1/\d=a.set b (.cells (wl mX)):=by refine bd hm OY a9q ?_;simp -dsimp -implicitDefEqProofs (disch:=first|omega|assumption|(simp only[bk,Nat.reduceAdd];try omega)) only[↓rX,rY,al,ofConst,cS,simprocAttr,fV,aZ,ba,a6s,↓s0,s3,ne_eq,not_true_eq_false,not_false_eq_true,Int.reduceNe,a6x,a6J];refine eO (by simp[aR,R.cells]) a9q λh k=> ?_;simp -dsimp -implicitDefEqProofs (disch:=first|omega|assumption|(simp only[bk,Nat.reduceAdd];try omega)) only[↓rX,rY,al,ofConst,cS,simprocAttr,fV,aZ,ba,a6s,↓s0,s3,ne_eq,not_true_eq_false,not_false_eq_true,Int.reduceNe,a6x,a6J];refine⟨_,U.a1,h,k,rfl,?_⟩;rfl
variable{g B e0:List R}{h5:List UInt32}
def uH:(wl h5++g).length=h5.length+g.length:=by simp[wl]
theorem ml (a:e<h5.length):aX false 1 ((wl h5++g).drop e)= .v (.int .u32 (h5.getD e 0).toNat):=by grind[wl,aX,List.map_drop,List.drop_eq_getElem_cons,List.getD]
def pC (a:0<h5.length):aX false 1 (wl h5++g)= .v (.int .u32 (h5.getD 0 0).toNat):=ml (e:=0) a
theorem ZZ (a:UInt32) (b:e<h5.length):putAt (wl h5++g) e [.v (.int .u32 a.toNat)]=wl (h5.set e a)++g:=by rw[<-Ct a b,putAt,putAt];grind[wl,eJ,List.length_singleton]
def qV (a:List UInt8) (b:Nat):Nat->UInt32
 |0=>0
 |c+1=>256*qV a b c+(a.getD (4*b+c) 0).toUInt32
def yw (a b c:Nat) (d:b<2^c):a*2^c|||b=a*2^c+b:=by have:=a7t (a:=a) d;rw[a7c]at this;omega
def a0a (b a c d:Nat) (h:a<256) (k:c<256) (o:d<256):b*2^24|||a*2^16|||c*2^8|||d=((b*256+a)*256+c)*256+d:=by
 rw[yw b (a*2^16) 24 a9p,show b*2^24+a*2^16=(b*256+a)*2^16 by omega,yw (b*256+a) (c*2^8) 16 a9p,
  show(b*256+a)*2^16+c*2^8=((b*256+a)*256+c)*2^8 by omega,yw _ d 8 a9p]
 all_goals omega
def a0b (a b c d:UInt8):(256:UInt32)*((256:UInt32)*((256:UInt32)*((256:UInt32)*(0:UInt32)+a.toUInt32)+b.toUInt32)+c.toUInt32)+d.toUInt32=a.toUInt32<<<24|||b.toUInt32<<<16|||c.toUInt32<<<8|||d.toUInt32:=by
 have z:=a.toNat_lt;have h:=b.toNat_lt;have k:=c.toNat_lt;have o:=d.toNat_lt;apply UInt32.toNat_inj.1;have p:(a.toUInt32<<<24).toNat=a.toNat*2^24:=by rw[UInt32.toNat_shiftLeft];simp[a7c];omega
 have r:(b.toUInt32<<<16).toNat=b.toNat*2^16:=by rw[UInt32.toNat_shiftLeft];simp[a7c];omega
 have x:(c.toUInt32<<<8).toNat=c.toNat*2^8:=by rw[UInt32.toNat_shiftLeft];simp[a7c];omega
 have y:d.toUInt32.toNat=d.toNat:=a9q;rw[UInt32.toNat_or,UInt32.toNat_or,UInt32.toNat_or,p,r,x,y,a0a _ _ _ _ h k o];simp only[UInt32.toNat_add,UInt32.toNat_mul,UInt8.toNat_toUInt32,UInt32.reduceToNat];omega
def a0c (a:List UInt8) (b:Nat):qV a b 4=word a b:=a0b _ _ _ _
def a0d (b:h5.length<64):eg (h5++ [0])=eg h5:=by have a:64 - h5.length=(64 -(h5.length+1))+1:=a9p;simp only[eg,a,a7a];simp
def a0e {b:UInt32} (a:UInt32) (c:e=h5.length) (d:h5.length<64):putAt (eg (h5++ [b])) e [.v (.int .u32 a.toNat)]=eg (h5++ [a]):=by subst c;simp[putAt,eg,a6l]
variable{n b3:R}
def EZ {v:List UInt32} (c:au f t 1 (wl v) n) (o:v≠ []): ∃a b d,n= .an a v.length b 1/\f a=none/\t a=some (.cells (wl v++d))/\v.length+d.length=b/\b<=maxLen:=by
 obtain⟨_,c|⟨a,C,b,p,rfl,r,x,y,h,k,D,z⟩⟩:=c
 .exact absurd (by simpa[wl] using c.1) o
 .simp only[a5D,eJ]at y h k;subst k;refine⟨a,b,p.drop v.length,rfl,r,?_,?_,z⟩
  .rw[<-h,a5t];exact x
  .simp;omega
theorem a0f (r F:List UInt32) (y:List UInt8) (n:r.length=8) (a04:F.length=64) (D S:Nat) (k1:List R) (w A:Nat) (k6:List R) (L:Nat) (z:U)
  (k7:z D=some (.cells (wl r++k1))) (k8:z w=some (.cells k6)) (a52:A+64<=k6.length) (a05: ∀k9,k9<64->aX false 1 (k6.drop (A+k9))= .v (.int .u8 (y.getD k9 0).toNat)) (l0:z L=some (.cells (wl F))):
  AC Tryz.prog 273 [.an D 8 S 1,.bA w A 64 e 1,.an L 64 64 1] z λa06 E=>au z E 1 (wl (List.zipWith (·+ ·) (iw F (sched y) r) r)) a06:=by
 refine bd hm R0 a9q ?_;refine aE (c2 @aZ @ba) ?_;refine wN (e:=64) a9p a9p λx k2=> ?_;have a07:D≠x:=by rintro rfl;rw[k2]at k7;cases k7
 have l5:w≠x:=by rintro rfl;rw[k2]at k8;cases k8
 have a08:L≠x:=by rintro rfl;rw[k2]at l0;cases l0
 have a09:(List.replicate 64 [R.v (.int .u32 0)]).flatten=eg (first y 0):=rfl;rw[a09];refine aE (c2 @aZ @ba) ?_;refine ct (λb E=> ∃a:Nat,a<=16/\E=z.set x (.cells (eg (first y a)))/\b 0= .an D 8 S 1/\b 1= .bA w A 64 e 1/\b 2= .an L 64 64 1/\b 7= .an x 64 64 1/\b 8= .v (.int .i64 a))
  (λb _=>match b 8 with| .v (.int _ d)=>(16 - d).toNat| _=>0) ⟨0,a9p,?_⟩ ?_
 .exact gO (c2 @aZ @ba)
 .rintro b _ ⟨a,l1,rfl,c,k3,h,k,k4⟩;have l2:(first y a).length=a:=by simp[first]
  by_cases o:(a:Int)<16
  .rw[<-a0d a9p];refine aE (bt @c @k3 @h @k @k4 @o @aZ @ba) ?_;refine ct (λb E=> ∃d:Nat,d<=4/\E=z.set x (.cells (eg (first y a++ [qV y a d])))/\b 0= .an D 8 S 1/\b 1= .bA w A 64 e 1/\b 2= .an L 64 64 1/\b 7= .an x 64 64 1/\b 8= .v (.int .i64 a)/\b 9= .v (.int .i64 d))
    (λb _=>match b 9 with| .v (.int _ d)=>(4 - d).toNat| _=>0) ⟨0,a9p,?_⟩ ?_
   .refine aE (c6 @c @k3 @h @k @k4 @aZ @ba) ?_;rfl
   .rintro q _ ⟨d,a56,rfl,l6,l7,l8,l9,n0,n1⟩;by_cases n2:(d:Int)<4
    .have T:(eg (first y a++ [qV y a d])).length=64:=sb (by simp[l2];omega);have a10:aX false 1 ((eg (first y a++ [qV y a d])).drop a)= .v (.int .u32 (qV y a d).toNat):=by grind[lb,List.getD]
     have l3:(4*(a)+(d:Int)).toNat=4*a+d:=a9p;have a11:=a05 (4*a+d) a9p;refine aE (wV @l6 @l7 @l8 @l9 @n0 @n1 @n2 @T @a10 @tB @l3 (U.ae k8) (a4U l5) @l5 @a11 @ZX @aZ @ba) ?_;rw[a0e _ l2.symm a9p];exact⟨⟨d+1,a9p,rfl,a9q⟩,a9p⟩
    .obtain rfl:d=4:=a9p;refine aE (cf @l6 @l7 @l8 @l9 @n0 @n1 @k4 @n2 @aZ @ba) ?_;refine⟨⟨a+1,a9p,?_,a9q⟩,a9p⟩;rw[a0c];simp only[first,a8K,a5P,a5k,a6A]
  .obtain rfl:a=16:=a9p;refine aE (bt @c @k3 @h @k @k4 @o @aZ @ba) ?_;refine ct (λb E=> ∃(p:List UInt32) (a:Nat),a<=48/\p.length=16+a/\grow (48 - a) p=sched y/\b 0= .an D 8 S 1/\b 2= .an L 64 64 1/\b 7= .an x 64 64 1/\b 10= .v (.int .i64 ((16+a:Nat)))/\E=z.set x (.cells (eg p)))
    (λb _=>match b 10 with| .v (.int _ d)=>(64 - d).toNat| _=>0) ⟨first y 16,0,a9p,l2,rfl,?_⟩ ?_
   .exact gO (bs @c @k3 @h @k @aZ @ba)
    all_goals rfl
   .rintro b _ ⟨p,a,l1,B,H,c,h,k,s,rfl⟩;by_cases o:((16+a:Nat):Int)<64
    .have T:(eg p).length=64:=sb a9p;have I:(((16+a:Nat):Int) - 15).toNat=a+1:=a9p;have K:(((16+a:Nat):Int) - 2).toNat=a+14:=a9p;have M:(((16+a:Nat):Int) - 16).toNat=a:=a9p;have N:(((16+a:Nat):Int) - 7).toNat=a+9:=a9p;refine aE (p4 @c @h @k @s @o @I @K @M @N @T @lb @sK @sL @aZ @ba) ?_;refine ag (mj _ _ 25 a9t a9t _) ?_;rintro _ _ ⟨rfl,rfl⟩;refine aE (p4 @c @h @k @s @o @I @K @M @N @T @lb @sK @sL @aZ @ba) ?_;refine ag (mj _ _ 14 a9t a9t _) ?_;rintro _ _ ⟨rfl,rfl⟩;refine aE (p4 @c @h @k @s @o @I @K @M @N @T @lb @sK @sL @aZ @ba) ?_;refine ag (mj _ _ 15 a9t a9t _) ?_;rintro _ _ ⟨rfl,rfl⟩;refine aE (p4 @c @h @k @s @o @I @K @M @N @T @lb @sK @sL @aZ @ba) ?_;refine ag (mj _ _ 13 a9t a9t _) ?_;rintro _ _ ⟨rfl,rfl⟩;refine aE (p4 @c @h @k @s @o @I @K @M @N @T @lb @sK @sL @aZ @ba) ?_;rw[x4 _ B.symm a9p];refine⟨⟨_,a+1,a9p,by simp[B];omega,?_,?_,rfl⟩,a9p⟩
     .rw[<-H,show 48 - a=(48 -(a+1))+1 by omega,grow,more,B];rw[show 16+a - 16=a by omega,show 16+a - 15=a+1 by omega,show 16+a - 7=a+9 by omega,show 16+a - 2=a+14 by omega];rfl
     .simp;omega
    .obtain rfl:a=48:=a9p;have a13:p=sched y:=H;have a14:eg p=wl p:=by simp[eg,B,wl]
     rw[a14];clear H;generalize sched y=a57 at*;subst a13;have a15:bN (z.set x (.cells (wl p))) 1 (.an D 8 S 1)=some (8,wl r):=by simp_all [U.ao,eJ,bN,U.ae]
     refine aE (bt @c @h @k @s @o @nY @aZ @ba) ?_;refine fh (au.zero U.a1) a9p a15 (by rw[eJ,n]) (by rw[eJ,n];simp) (by rw[eJ,n];simp) λa61 P t=> ?_;rw[a5f]at t;refine aE (bm @c @h @k @aZ @ba) ?_;have V:(wl F).length=64:=by rw[eJ,a04]
     have W:(wl p).length=64:=by rw[eJ,B]
     have a16:(z.set x (.cells (wl p))) L=some (.cells (wl F)):=by rw[U.ao _ _ a08];exact l0
     have a18:(z.set x (.cells (wl p))) x=some (.cells (wl p)):=U.ai _ _ _;have l4:(z.set x (.cells (wl p))) D=some (.cells (wl r++k1)):=by rw[U.ao _ _ a07];exact k7
     have n3:z.sub (z.set x (.cells (wl p))):=U.af U.a1 k2;generalize z.set x (.cells (wl p))=a19 at*;refine ct (λb E=> ∃(a:Nat) (v:List UInt32),a<=64/\v.length=8/\iw (F.drop a) (p.drop a) v=iw F p r/\au a19 E 1 (wl v) (b 13)/\b 0= .an D 8 S 1/\b 2= .an L 64 64 1/\b 7= .an x 64 64 1/\b 14= .v (.int .i64 a))
      (λb _=>match b 14 with| .v (.int _ d)=>(64 - d).toNat| _=>0) ⟨0,r,a9p,n,rfl,?_⟩ ?_
     .refine aE (bm @c @h @k @aZ @ba) ?_;exact t
     clear t;rintro b P ⟨a,v,l1,u,H,t,c,h,k,G⟩;have f:=t.1;obtain⟨k5,n4,O,C,n5,lY,a27,a29⟩:=EZ t (by intro g;rw[g]at u;cases u);rw[u]at C a27;by_cases o:(a:Int)<64
     .obtain⟨Q,X,Y,Z,g,j9,q,k0,rfl⟩: ∃Q X Y Z g j9 q k0,v= [Q,X,Y,Z,g,j9,q,k0]:=by
       match v,u with
       | [Q,X,Y,Z,g,j9,q,k0],_=>simp
      have i:(wl [Q,X,Y,Z,g,j9,q,k0]++O).length=8+O.length:=by rw[uH,u]
      have j:=U.ae lY;have l:=U.ae (f _ _ a18);have m:=U.ae (f _ _ a16);refine aE (nZ @c @h @k @C @G @o @i @j @l @m @ml @pC @ho @V @W @pB @a5u.{0} @a5x.{0} @aZ @ba) ?_;refine ag (mj _ _ 26 a9t a9t _) ?_;rintro _ P ⟨rfl,rfl⟩;refine aE (nZ @c @h @k @C @G @o @i @j @l @m @ml @pC @ho @V @W @pB @a5u.{0} @a5x.{0} @aZ @ba) ?_;refine ag (mj _ _ 21 a9t a9t _) ?_;rintro _ P ⟨rfl,rfl⟩;refine aE (nZ @c @h @k @C @G @o @i @j @l @m @ml @pC @ho @V @W @pB @a5u.{0} @a5x.{0} @aZ @ba) ?_;refine ag (mj _ _ 7 a9t a9t _) ?_;rintro _ P ⟨rfl,rfl⟩;refine aE (nZ @c @h @k @C @G @o @i @j @l @m @ml @pC @ho @V @W @pB @a5u.{0} @a5x.{0} @aZ @ba) ?_;refine ag (mj _ _ 30 a9t a9t _) ?_;rintro _ P ⟨rfl,rfl⟩;refine aE (nZ @c @h @k @C @G @o @i @j @l @m @ml @pC @ho @V @W @pB @a5u.{0} @a5x.{0} @aZ @ba) ?_;refine ag (mj _ _ 19 a9t a9t _) ?_;rintro _ P ⟨rfl,rfl⟩;refine aE (nZ @c @h @k @C @G @o @i @j @l @m @ml @pC @ho @V @W @pB @a5u.{0} @a5x.{0} @aZ @ba) ?_;refine ag (mj _ _ 10 a9t a9t _) ?_;rintro _ P ⟨rfl,rfl⟩;refine aE (nZ @c @h @k @C @G @o @i @j @l @m @ml @pC @ho @V @W @pB @a5u.{0} @a5x.{0} @aZ @ba) ?_;refine eO (by simp[aR,R.cells]) a9q λa30 n9=> ?_;refine aE (bs @c @h @k @G @aZ @ba) ?_;refine⟨⟨a+1,sc (F.getD a 0) (p.getD a 0) [Q,X,Y,Z,g,j9,q,k0],a9p,rfl,?_,?_,a9q⟩,a9p⟩;grind[Cx]
      .exact⟨U.af f (U.bF f n9),.inr ⟨a30,8,8,_,rfl,U.bF f n9,U.ai _ _ _,rfl,rfl,rfl,a9p,a9t⟩⟩
     .obtain rfl:a=64:=a9p;have a34:iw F p r=v:=by rw[<-H,a6i a9p];rfl
      refine aE (bt @c @h @k @C @G @o @aZ @ba) ?_;have a00:D≠k5:=by rintro rfl;rw[n5]at l4;cases l4
      have a01:=U.bF n3 n5;have a36:=f _ _ l4;refine ct (λb E=> ∃a:Nat,a<=8/\b 0= .an D 8 S 1/\b 13= .an k5 8 n4 1/\b 19= .v (.int .i64 a)/\E=P.set k5 (.cells (wl (jJ a v r)++O)))
       (λb _=>match b 19 with| .v (.int _ d)=>(8 - d).toNat| _=>0) ⟨0,a9p,?_⟩ ?_
      .have l3:jJ 0 v r=v:=rfl;rw[l3,U.pb lY];exact gO (aK @c @C @aZ @ba)
      .rintro b _ ⟨a,l1,c,C,a02,rfl⟩;by_cases o:(a:Int)<8
       .obtain⟨a38,a42⟩:=Cv v r u n a a9p;have a43:(wl (jJ a v r)++O).length=8+O.length:=by rw[uH,a38]
        have a47:(wl r++k1).length=8+k1.length:=by rw[uH,n]
        refine aE (gg @c @C @a02 @o @a43 @a47 @ml @ZZ @a42 (U.ae a36) @a00 (a4U a00) @aZ @ba) ?_;grind
       .obtain rfl:a=8:=a9p;have a48:jJ 8 v r=List.zipWith (·+ ·) v r:=by grind[jJ,List.take_of_length_le,List.drop_of_length_le]
        have a03:(wl (List.zipWith (·+ ·) v r)).length=8:=by rw[eJ];simp;omega
        rw[a48];refine aE (bs @c @C @a02 @o @aZ @ba) ?_;rw[a34];refine⟨_,U.a1,U.af (U.aq n3 f) a01,.inr ⟨k5,8,n4,_,rfl,a01,U.ai _ _ _,?_,?_,by rw[a03],a9p,a29⟩⟩
        .rw[a4O,a03];omega
        simp_all
def a0g (b:List UInt32) (h:List UInt8) (z:b.length=8) (k x:Nat) (y:List R) (o c:Nat) (d:List R) (p:Nat) (a:U)
  (C:a k=some (.cells (wl b++y))) (D:a o=some (.cells d)) (E:c+64<=d.length) (F: ∀r,r<64->aX false 1 (d.drop (c+r))= .v (.int .u8 (h.getD r 0).toNat)) (G:a p=some (.cells (wl mX))):
  AC Tryz.prog 273 [.an k 8 x 1,.bA o c 64 e 1,.an p 64 64 1] a λL P=>au a P 1 (wl (comp b h)) L:=
 a0f b mX h z rfl k x y o c d p a C D E F G
end Go.Proofs.YtlgnfcaolejgeaaGreat
namespace Go.bz
open Go
variable{n b3:R}{f t e4:U}{e i v O b8 j0:Nat}
theorem yx {h:Nat×List R} (k:f.sub t) (o:bN f e n=some h):bN t e n=some h:=by
 have p: ∀b c,f.read b=some c->t.read b=some c:=by
  intro b c a;unfold U.read at a|-;cases d:f b with
  |none=>rw[d]at a;cases a
  |some r=>rw[k _ _ d];rw[d]at a;exact a
 unfold bN at o|-;grind
end Go.bz
namespace Go.Proofs.YtlgnfcaolejgeaaGreat
open Go Go.bz
def kH (a:List UInt8):List UInt8:=a++128::List.replicate (eh a.length) 0++cA (8*a.length)
def yy (a:List UInt8):(kH a).length=a.length+9+eh a.length:=by simp[kH,cA];omega
def a0h (a:List UInt8):(kH a).length%64=0:=by rw[yy];unfold eh;omega
theorem a0i (a:List UInt8):fc a=ei (blocks ((kH a).length/64) gi (kH a)):=by
 have c:=yy a;have d:eh a.length<64:=by unfold eh;omega
 have b:kH a=a++(128::List.replicate (eh a.length) 0++cA (8*a.length)):=by simp[kH]
 have h:ja a.length (a.drop (64*(a.length/64)))=(kH a).drop (64*(a.length/64)):=by rw[b,a6p a9p];simp[ja]
 have k:(kH a).length/64=a.length/64+((kH a).drop (64*(a.length/64))).length/64:=by rw[a5d];omega
 grind[fc,CB,CC]
theorem F0 (b a:Nat) (d:a<8):(cA b).take a++ [UInt8.ofNat (b>>>(56 - 8*a)%256)]=(cA b).take (a+1):=by
 have c:UInt8.ofNat (b>>>(56 - 8*a)%256)=UInt8.ofNat (b>>>(56 - 8*a)):=by grind[UInt8.toNat_inj,UInt8.toNat_ofNat']
 rw[c];rcases(by omega:a=0\/a=1\/a=2\/a=3\/a=4\/a=5\/a=6\/a=7)with rfl|rfl|rfl|rfl|rfl|rfl|rfl|rfl<;>rfl
def yi (a:UInt32) (b:Nat):UInt8.ofNat ((a>>>UInt32.ofNat b).toNat%256)=(a>>>UInt32.ofNat b).toUInt8:=by apply a5I.1;rw[a5T];simp
theorem a0j (c:List UInt32) (k:c.length=8) (d:Nat) (p:d<32):(ei c).take d++ [UInt8.ofNat ((c.getD (d/4) 0>>>UInt32.ofNat (24 - 8*(d%4))).toNat%256)]=(ei c).take (d+1):=by
 rw[yi];have o: ∀h:UInt32,(h>>>UInt32.ofNat 0).toUInt8=h.toUInt8:=by intro h;simp
 have r: ∀a:Nat,a<8-> ∀b:Nat,b<4->(ei c).take (4*a+b)++ [(c.getD a 0>>>UInt32.ofNat (24 - 8*b)).toUInt8]=(ei c).take (4*a+b+1):=by
  match c,k with
  | [x,y,z,C,D,E,F,G],_=>
   intro a L b P;rcases(by omega:a=0\/a=1\/a=2\/a=3\/a=4\/a=5\/a=6\/a=7)with rfl|rfl|rfl|rfl|rfl|rfl|rfl|rfl<;>
    rcases(by omega:b=0\/b=1\/b=2\/b=3)with rfl|rfl|rfl|rfl<;>first|rfl|(simp only[a5u,a5x,Nat.reduceMul,Nat.reduceSub,o];rfl)
 grind
variable{f t e4:U}{e i v O b8 j0:Nat}
def uI {a:UInt8}:bN (f.set e (.cells (flat [.v (.int .u8 (a.toNat:Int))]))) 1 (.an e 1 1 1)=some ([a].length,[a].map ak):=by simp[bN,U.ae (U.ai _ _ _),flat,R.cells,ak]
variable{g B e0:List R}{w:List UInt8}
theorem a0k (a:g.take w.length=w.map ak) (b:e<w.length):aX false 1 (g.drop e)= .v (.int .u8 (w.getD e 0).toNat):=by grind[ak,List.take_append_drop,List.drop_eq_getElem_cons,aX,List.getD]
def a0l (a:UInt32):bn .rem (.int .u32 (a.toNat:Int)) (.int .u32 256)=some (.int .u32 ((a.toNat%256:Nat):Int)):=by have b:bn .rem (.int .u32 (a.toNat)) (.int .u32 256)=(if(256:Int)=0 then none else some (.int .u32 ((a.toNat:Int).tmod 256))):=rfl;rw[b,if_neg a9t];rfl
variable{n b3:R}
theorem yz {v:List UInt8} (d:au f t 1 (v.map ak) n) (h:v≠ []): ∃a b c,n= .an a v.length b 1/\f a=none/\t a=some (.cells c)/\c.length=b/\c.take v.length=v.map ak/\v.length<=b:=by
 obtain⟨_,d|⟨a,k,b,c,rfl,o,p,r,x,y,z,C⟩⟩:=d
 .simp_all
 grind
theorem a0m (F:List UInt32) (k0:F=gi) (a:List UInt8) (a38:a.length<=1000000000) (W:R) (V:Nat) (G:U) (n5:bN G 1 W=some (a.length,a.map ak)) (n9:fa W=some (.v (.int .i64 a.length))) (a00:G V=some (.cells (wl mX))):
  AC Tryz.prog 190 [W,.an V 64 64 1] G λa01 D=>D=G/\a01=cw (fc a):=by
 refine bd hm OW a9q ?_;refine aj (c2 @aZ @ba) ?_;refine aN λE m=> ?_;have a02:=yx (U.af (U.a1) m) n5 (t:=G.set E (.cells (List.replicate 32 (.v (.int .u8 0)))));have a03:=U.af (U.a1) m (Y:= .cells (List.replicate 32 (.v (.int .u8 0)))) _ _ a00;have a04:=U.af (U.a1) m (Y:= .cells (List.replicate 32 (.v (.int .u8 0))));have a05:(G.set E (.cells (List.replicate 32 (.v (.int .u8 0))))) E=some (.cells (List.replicate 32 (.v (.int .u8 0)))):=U.ai _ _ _;refine aj (aH @nY @aZ @ba) ?_;generalize G.set E (.cells (List.replicate 32 (.v (.int .u8 0))))=w at*;refine qQ (c:= []) (au.zero U.a1) a02 a9r λcd a42 A=> ?_;rw[a5f]at A;refine aj (c2 @aZ @ba) ?_;refine eO (by simp[aR,R.cells]) a9q λk1 e=> ?_;refine aj (c2 @aZ @ba) ?_;refine qQ (A.mono (U.af U.a1 e)) (uI (a:=128)) a9r λca P y=> ?_;refine aj (c2 @aZ @ba) ?_;have a43:eh a.length<64:=by unfold eh;omega
 refine ct (λb D=> ∃c:Nat,c<=eh a.length/\au w D 1 ((a++128::List.replicate c 0).map ak) (b 5)/\b 0=W/\b 1= .an V 64 64 1/\b 4= .ptr E 0)
  (λb _=>match b 5 with| .an _ S _ _=>eh a.length+a.length+1 - S| _=>0) ⟨0,a9p,?_⟩ ?_
 .refine aj (c2 @aZ @ba) ?_;exact y
 .clear y A;rintro b P ⟨c,k2,y,x,h,d⟩;obtain⟨f,n,k3,p,k4,B,k5,H,k6⟩:=yz y a9q;have I:(a++128::List.replicate c 0).length=a.length+1+c:=a9r;rw[I]at p;by_cases L:c<eh a.length
  .have q: ¬(Int.tmod ((a.length+1+c:Nat):Int) 64=56):=by have:Int.tmod ((a.length+1+c:Nat)) 64=(((a.length+1+c)%64)):=rfl;rw[this];unfold eh at L;omega
   refine aj (c6 @x @h @d @p @q @aZ @ba) ?_;refine eO (by simp[aR,R.cells]) a9q λk1 e=> ?_;refine aj (c6 @x @h @d @p @q @aZ @ba) ?_;rw[<-p];refine qQ (y.mono (U.af U.a1 e)) (uI (a:=0)) a9r λdf k7 K=> ?_;refine aj (bs @x @h @d @p @aZ @ba) ?_;have M:a++128::List.replicate c 0++ [0]=a++128::List.replicate (c+1) 0:=by rw[a8Z];simp
   rw[M]at K;obtain⟨a47,a48,a52,rfl,_⟩:=yz K a9q;grind
  .obtain rfl:c=eh a.length:=a9p;have q:(Int.tmod ((a.length+1+eh a.length:Nat):Int) 64=56):=by have:Int.tmod ((a.length+1+eh a.length:Nat)) 64=(((a.length+1+eh a.length)%64)):=rfl;rw[this];unfold eh;omega
   have a06:IntKind.u64.wrap (8*IntKind.u64.wrap (a.length))=((8*a.length:Nat)):=by rw[kr,kr];omega
   rw[<-I]at p;refine aj (cf @x @h @d @p @I @q @n9 @a06 @aZ @ba) ?_;rw[<-p]at*;refine ct (λb D=> ∃c:Nat,c<=8/\au w D 1 ((a++128::List.replicate (eh a.length) 0++(cA (8*a.length)).take c).map ak) (b 5)/\b 0=W/\b 1= .an V 64 64 1/\b 4= .ptr E 0/\b 6= .v (.int .u64 ((8*a.length:Nat)))/\b 7= .v (.int .i64 c))
    (λb _=>match b 7 with| .v (.int _ S)=>(8 - S).toNat| _=>0) ⟨0,a9p,?_⟩ ?_
   .refine aj (bm @x @h @d @aZ @ba) ?_;simp_all
   .clear k4 B k5 H k6 x h d p y;rintro b P ⟨c,k2,y,x,h,d,g,i⟩;have a56:=F0 (8*a.length) c;by_cases L:(c:Int)<8
    .have a07:IntKind.u64.wrap (56 - 8*(c))=((56 - 8*c:Nat)):=by rw[kr];omega
     have k8:=yh ((8*a.length)>>>(56 - 8*c)) 256 a9p;have a08:((256:Nat):Int)=256:=rfl;rw[a08]at k8;refine aj (gf @x @h @d @g @i @L @a07 @k8 @ir @aZ @ba) ?_;refine eO (by simp[aR,R.cells]) a9q λk1 e=> ?_;refine aj (c6 @x @h @d @g @i @aZ @ba) ?_;refine qQ (y.mono (U.af U.a1 e)) uI (by simp[cA];omega) λdf k7 K=> ?_;refine aj (c6 @x @h @d @g @i @aZ @ba) ?_;grind
    .obtain rfl:c=8:=a9p;have a09:(cA (8*a.length)).take 8=cA (8*a.length):=rfl;rw[a09]at y;refine aj (bt @x @h @d @g @i @L @aZ @ba) ?_;refine eO (by simp[aR,R.cells]) a9q λs k9=> ?_;have l0:flat [R.v (Value.int IntKind.u32 1779033703),R.v (Value.int IntKind.u32 3144134277),R.v (Value.int IntKind.u32 1013904242),R.v (Value.int IntKind.u32 2773480762),R.v (Value.int IntKind.u32 1359893119),R.v (Value.int IntKind.u32 2600822924),R.v (Value.int IntKind.u32 528734635),R.v (Value.int IntKind.u32 1541459225)]=wl gi:=rfl;rw[l0];have a57:=yy a;have a61:=a0h a;have l1:au w P 1 ((kH a).map ak) (b 5):=y;obtain⟨f,n,k3,p,k4,B,k5,H,k6⟩:=yz l1 (by grind);have N:=y.1;have O:=a0i a;have l2:au P (P.set s (.cells (wl gi))) 1 (wl gi) (.an s 8 8 1):=⟨U.af U.a1 k9,.inr ⟨s,8,8,_,rfl,k9,U.ai _ _ _,rfl,rfl,rfl,a9p,a9t⟩⟩;have l3:gi.length=8:=rfl;generalize P.set s (.cells (wl gi))=k7 at*;rw[<-k0]at l2 O l3;clear k0 l0;generalize a10:kH a=r at*;clear y l1 a10;refine aj (bs @x @h @d @p @aZ @ba) ?_;refine ct (λb D=> ∃k:Nat,k<=r.length/64/\au P D 1 (wl (blocks k F r)) (b 8)/\b 1= .an V 64 64 1/\b 4= .ptr E 0/\b 5= .an f r.length n 1/\b 9= .v (.int .i64 ((64*k:Nat))))
      (λb _=>match b 9 with| .v (.int _ S)=>(r.length - S).toNat| _=>0) ⟨0,a9p,?_⟩ ?_
     .refine aj (bm @h @d @p @aZ @ba) ?_;exact l2
     .clear x h d p g i;rintro b l4 ⟨k,a62,Q,h,d,p,j⟩;have T:(blocks k F r).length=8:=pa _ _ _ l3;obtain⟨X,l5,Y,z,a63,t,a65,a68⟩:=EZ Q (by intro M;rw[M]at T;cases T);rw[T]at z;have l:=Q.1;by_cases L:k<r.length/64
      .have Z:((64*k:Nat))<(r.length:Int):=a9p;have a11:dI 1 (.an f r.length n 1) (some (.v (.int .i64 ((64*k:Nat))))) (some (.v (.int .i64 (((64*k:Nat))+64))))=some (.bA f (64*k) 64 (n - 64*k) 1):=by have l6:(((64*k):Int)+64).toNat=64*k+64:=a9p;simp only[dI,cG,Go.bz.intOf,q5];grind
       refine aj (cU @h @d @p @z @j @Z @a11 @aZ @ba) ?_;have a13:=tX k F r;refine ag (a0g (blocks k F r) ((r.drop (64*k)).take 64) T X l5 Y f (64*k) k3 V l4 t (l _ _ B) a9p ?_ (l _ _ (N _ _ a03))) ?_
       .intro c k2;rw[a0k H a9p];simp_all
       rintro gW a69 l7;refine aj (c6 @h @d @p @z @j @aZ @ba) ?_;rw[<-a13]at l7;exact⟨⟨k+1,a9p,l7.base l,a9r⟩,a9p⟩
      .have Z: ¬((64*k:Nat))<(r.length:Int):=a9p;obtain rfl:k=r.length/64:=a9p;refine aj (bt @h @d @p @z @j @Z @aZ @ba) ?_;refine aN λu j9=> ?_;have l8:X≠u:=by rintro rfl;rw[j9]at t;cases t
       have v:=l _ _ (N _ _ a05);have l9:E≠u:=by rintro rfl;rw[j9]at v;cases v
       have a14:=a0j (blocks (r.length/64) F r) T;have a15:(ei (blocks (r.length/64) F r)).length=32:=by rw[u0,T]
       rw[O];clear O Q;generalize blocks (r.length/64) F r=C at*;have a16:(wl C++Y).length=8+Y.length:=by rw[uH,T]
       refine aj (c6 @h @d @p @z @j @aZ @ba) ?_;refine ct (λb D=> ∃o:Nat,o<=32/\D=l4.set u (.cells (hM ((ei C).take o)))/\b 8= .an X 8 l5 1/\b 10= .ptr u 0/\b 4= .ptr E 0/\b 11= .v (.int .i64 o))
        (λb _=>match b 11 with| .v (.int _ S)=>(32 - S).toNat| _=>0) ⟨0,a9p,?_⟩ ?_
       .refine aj (aK @d @z @aZ @ba) ?_;rfl
       .clear h d p z j;rintro b _ ⟨o,a71,rfl,z,n0,d,n1⟩;have a18:((ei C).take o).length=o:=a9r;have n2:(hM ((ei C).take o)).length=32:=tZ a9p;by_cases L:(o:Int)<32
        .have l6:IntKind.i64.wrap ((o:Int).tdiv 4)=((o/4:Nat)):=by have:(o:Int).tdiv 4=((o/4:Nat)):=rfl;rw[this,wrap_i64 a9p a9p]
         have a19:(o:Int).tmod 4=((o%4:Nat)):=rfl;have a27:IntKind.u64.wrap (24 - 8*((o%4:Nat)))=((24 - 8*(o%4):Nat)):=by rw[kr];omega
         have a29:o/4<8:=a9p;have a30:((o/4:Nat))<((8:Nat):Int):=a9p;refine aj (nZ @z @n0 @d @n1 @L @l6 @a19 @a27 @a30 @a29 @a16 @n2 (U.ae t) @l8 (a4U l8) @ml @a0l @ir @aZ @ba) ?_;rw[xb _ a18.symm a9p,a14 o a9p];grind
        .obtain rfl:o=32:=a9p;refine aj (gP @z @n0 @d @n1 @L @n2 @l9 (a4U l9) (U.ae v) (U.aJ v) @aZ @ba) ?_;have a34:(ei C).take 32=ei C:=a4N a9p;have a36:hM (ei C)=(ei C).map ak:=by simp[hM,a15]
         have n3:((ei C).map ak).take 32=(ei C).map ak:=a4N a9r;rw[a34,a36,n3,n3];refine⟨G,?_,rfl,rfl⟩;have n4:=U.aq a04 (U.aq N l);exact U.af (U.af n4 (U.bF n4 j9)) m
def a0n (a:List UInt8) (h:a.length<=1000000000) (c:R) (d:Nat) (b:U) (k:bN b 1 c=some (a.length,a.map ak)) (o:fa c=some (.v (.int .i64 a.length))) (p:b d=some (.cells (wl mX))):
  AC Tryz.prog 190 [c,.an d 64 64 1] b λr x=>x=b/\r=cw (fc a):=a0m gi rfl a h c d b k o p
def a0o (a:List UInt8) (r:a.length<=1000000000) (c:R) (b:U) (x:bN b 1 c=some (a.length,a.map ak)) (y:fa c=some (.v (.int .i64 a.length))):
  AC Tryz.prog 123 [c] b λz C=>C=b/\z=cw (fc a):=by
 refine bd hm MR a9q ?_;refine aj (c2 @aZ @ba) ?_;refine aN λD d=> ?_;refine aj (c2 @aZ @ba) ?_;refine ag (ZY _) ?_;rintro _ _ ⟨h,E,rfl,rfl⟩;obtain⟨k,o⟩:=U.gC E;refine aj (c2 @aZ @ba) ?_;have F:b.sub ((b.set D (.cells (List.replicate 32 (.v (.int .u8 0))))).set h (.cells (wl mX))):=U.af (U.af U.a1 d) o;refine ag (a0n a r c h _ (yx F x) y (U.ai _ _ _)) ?_;rintro _ _ ⟨rfl,rfl⟩;have p:((fc a).map ak).length=32:=by rw[a4Y,o5]
 have G:cw (fc a)= .agg ((fc a).map ak):=rfl;have L:((fc a).map ak).take 32=(fc a).map ak:=a4N a9p;rw[G];have P:putAt (List.replicate 32 (R.v (.int .u8 0))) 0 ((fc a).map ak)=(fc a).map ak:=by rw[putAt,p];simp
 refine aj (c6 @p @L @P @k (a4U k) @aZ @ba) ?_;exact⟨b,U.af (U.af U.a1 d) o,rfl⟩
def a0p {a:UInt8} (b:f e=none):au f (f.set e (.cells (flat [.v (.int .u8 (a.toNat:Int))]))) 1 ([a].map ak) (.an e 1 1 1):=
 ⟨U.af U.a1 b,.inr ⟨e,1,1,_,rfl,b,U.ai _ _ _,rfl,rfl,rfl,a9p,a9t⟩⟩
theorem a0q (k:UInt8) (b:List (R×List UInt8)) (x:R) (i:Nat) (r:U) (j:fa x=some (.v (.int .i64 b.length)))
  (l: ∀o:Nat,o<b.length->cL 1 x (.v (.int .i64 o))=some (.ptr i o))
  (B: ∀o (k1:o<b.length),∃y,r i=some (.cells y)/\o<y.length/\aX false 1 (y.drop o)=b[o].1)
  (H: ∀a∈b,bN r 1 a.1=some (a.2.length,a.2.map ak)/\fa a.1=some (.v (.int .i64 a.2.length)))
  (I:(preB k (b.map (·.2))).length<=1000000):
  AC Tryz.prog 192 [.v (.int .u8 (k.toNat:Int)),x] r λK z=>au r z 1 ((preB k (b.map (·.2))).map ak) K:=by
 refine bd hm P0 a9q ?_;refine aE (c2 @aZ @ba) ?_;refine eO (by simp[aR,R.cells]) a9q λM T=> ?_;refine aE (c2 @aZ @ba) ?_;have m:=a0p (a:=k) T;refine ct (λc z=> ∃a C:List (R×List UInt8),b=a++C/\au r z 1 ((preB k (a.map (·.2))).map ak) (c 5)/\c 1=x/\c 6= .v (.int .i64 a.length))
  (λc _=>match c 6 with| .v (.int _ V)=>(b.length - V).toNat| _=>0) ⟨[],b,rfl,?_⟩ ?_
 .refine aE (c2 @aZ @ba) ?_;exact m
 .clear m;rintro c k2 ⟨a,C,p,W,e,D⟩;cases C with
  |nil=>
   have P:b.length=a.length:=by rw[p];simp
   rw[a5R]at p;have f: ¬(a.length)<(b.length:Int):=a9p;refine aE (bs @e @D @j @f @aZ @ba) ?_;rw[p];exact⟨_,U.a1,W⟩
  |cons N C=>
   obtain⟨g,d⟩:=N;have P:a.length<b.length:=by rw[p];simp
   have f:(a.length)<(b.length:Int):=a9p;have O:b[a.length]=(g,d):=by subst p;simp
   obtain⟨y,n,c2,aH⟩:=B a.length P;rw[O]at aH;obtain⟨q,s⟩:=H (g,d) (by rw[p];simp);simp only at q s aH;have k3:(preB k (a.map (·.2))).length+8+d.length<=1000000:=by refine a5K ?_ I;rw[p];simp[preB,chunk,cA];omega
   have Q:=x7 k (b.map (·.2));rw[a4Y]at Q;have t:a.length+1<=y.length:=a9p;have u:=W.1;simp -dsimp -implicitDefEqProofs (disch:=first|omega|assumption|(simp only[bk,Nat.reduceAdd];try omega)) only[go_sem,simprocAttr,aZ,ba,e,D,j,f,l _ P,U.ae (u _ _ n),t,aH,s];refine ct (λc z=> ∃h:Nat,h<=8/\au r z 1 ((preB k (a.map (·.2))++(cA d.length).take h).map ak) (c 5)/\c 1=x/\c 6= .v (.int .i64 a.length)/\c 7= .v (.int .u64 (d.length:Int))/\c 8= .v (.int .i64 h))
    (λc _=>match c 8 with| .v (.int _ V)=>(8 - V).toNat| _=>0) ⟨0,a9p,?_⟩ ?_
   .refine aE (aK @e @D @aZ @ba) ?_;simp_all
   .clear W u;rintro k4 k5 ⟨h,k6,S,E,F,G,L⟩;have k7:=F0 d.length h;by_cases v:(h:Int)<8
    .have X:IntKind.u64.wrap (56 - 8*(h))=((56 - 8*h:Nat)):=by rw[kr];omega
     have w:=yh (d.length>>>(56 - 8*h)) 256 a9p;have Y:((256:Nat):Int)=256:=rfl;rw[Y]at w;refine aE (cf @E @F @G @L @v @X @w @ir @aZ @ba) ?_;refine eO (by simp[aR,R.cells]) a9q λM T=> ?_;refine aE (bs @E @F @G @L @aZ @ba) ?_;refine qQ (S.mono (U.af U.a1 T)) uI (by simp[cA];omega) λdf Z j9=> ?_;refine aE (bs @E @F @G @L @aZ @ba) ?_;grind
    .obtain rfl:h=8:=a9p;have k0:(cA d.length).take 8=cA d.length:=rfl;rw[k0]at S;have A:=S.1;simp -dsimp -implicitDefEqProofs (disch:=first|omega|assumption|(simp only[bk,Nat.reduceAdd];try omega)) only[go_sem,simprocAttr,aZ,ba,E,F,G,L,D,v,l _ P,U.ae (A _ _ n),t,aH];refine qQ S (yx A q) (by simp[cA];omega) λdf Z j9=> ?_;refine aE (c6 @E @F @G @L @D @aZ @ba) ?_;refine⟨⟨a++ [(g,d)],C,by simp[p],?_,a9q⟩,a9p⟩;grind[preB,cA,chunk]
theorem a0r (h:UInt8) (b:List (R×List UInt8)) (k:Nat) (c:U) (o:c k=some (.cells (b.map (·.1))))
  (p: ∀a∈b,au c c 1 (a.2.map ak) a.1\/(bN c 1 a.1=some (a.2.length,a.2.map ak)/\fa a.1=some (.v (.int .i64 a.2.length))))
  (r:(preB h (b.map (·.2))).length<=1000000):
  AC Tryz.prog 192 [.v (.int .u8 (h.toNat:Int)),.an k b.length b.length 1] c λx y=>au c y 1 ((preB h (b.map (·.2))).map ak) x:=by
 refine a0q h b _ k c rfl ?_ ?_ ?_ r;grind[jz]
 .intro C d;refine⟨_,o,by simpa using d,?_⟩;rw[a5l (by simpa using d),a8E];rfl
 .intro a z;rcases p a z with d|d
  .obtain⟨D,E,F,G⟩:=d.src;simp_all
  .exact d
def hb (a:aL):List UInt8:=hQ a.name++(UInt8.ofNat a.aD.length::(a.aD.flatMap hQ++(dZ a.bM++dZ a.cr)))
def ib (a:List aL):List UInt8:=UInt8.ofNat a.length::a.flatMap hb
structure aL.hr (t:aL):Prop where
 n:t.name.length<=16
 c:t.aD.length<=7
 cs: ∀c∈t.aD,c.length<=16
 k:t.bM.hr
 z:t.cr.hr
theorem F1 {a:List (List UInt8)} (c: ∀b∈a,b.length<=16):(a.flatMap hQ).length<=19*a.length:=by
 induction a with
 |nil=>simp
 |cons d a ih=>grind[List.length_append,xf,List.length_cons]
variable{e7:aL}
def yA (a:e7.hr) (b:e7.bM.sum.length=32) (c:e7.cr.sum.length=32):(hb e7).length<=1000:=by have:=F1 a.cs;have:=a.n;have:=a.c;have:=sq b a.k;have:=sq c a.z;simp only[hb,a4O,xf,a4S];omega
variable{e1:List aL}
theorem a0s (b:aA dp e1 g) (d: ∀h∈e1,h.hr) (a:Nat):((e1.take a).flatMap hb).length<=1000*a:=by
 induction e1 generalizing g a with
 |nil=>simp
 |cons k e1 ih=>
  cases g with
  |nil=>trivial
  |cons v g=>
   obtain⟨⟨_,_,c⟩,b⟩:=b;cases a with
   |zero=>simp
   |succ a=>have:=yA (d k a9q) c.k.1 c.z.1;grind
def uJ (a b:Nat) (c:U) (h:R) (k:R->U->Prop):Prop:=
 match h with
 | .ptr d off=>match c.read d with
  |some cs=>off+b*a<=cs.length/\k (.J (ee a b (cs.drop off)) .any) (c.set d (.ro cs))
  |none=>False
 | _=>False
variable{s a7:R -> U -> Prop}
def a0t {a:cz s} (b:f.read v=some g) (c:O+i*e<=g.length) (d:s (.J (ee e i (g.drop O)) .any) (f.set v (.ro g))):uJ e i f (.ptr v O) (bO s a):=by simp only[uJ,b];trivial
variable{K:Ctx}{j:Fr}{Z e9:Operand}
theorem a0u:G K (.kg e i Z none none true) j f s=uJ e i f (al j Z) (bO (λa b=>s a b) ()):=by grind[G,uJ,da,al,bO]
theorem yB: ∀ {rows:List (List Int×Bool)},(∀a∈rows,a.1.length<=8)->(rows.flatMap gF).length<=66*rows.length
 | [],_=>by simp
 |a::rows,b=>by
  have d:=b a a9q;have:=yB λa c=>b a (a6h _ c);grind[List.length_append,gF,List.length_cons,dw,o8]
theorem yC: ∀ {kids:List az},(∀a∈kids,a.hr/\a.sum.length=32/\a.cB)->(kids.flatMap dZ).length<=300*kids.length
 | [],_=>by simp
 |a::kids,b=>by
  obtain⟨⟨d,h,k,_,_,_,_⟩,o,_⟩:=b a a9q;have:=yC λa c=>b a (a6h _ c);grind[ku,dw,List.length_cons,o8,List.length_append,dZ]
theorem a0v (o:c3) (P S:List R) (e f:Own) (g:U) (w:aA de o.rows P) (A:aA bu o.kids S) (n2:o.rows.length<=5) (n3:o.kids.length<=5)
  (i: ∀p∈o.rows,p.1.length<=8) (B: ∀r∈o.kids,r.hr/\r.sum.length=32/\r.cB):
  AC Tryz.prog 178 [gH o (.J P e) (.J S f)] g λp d=>fE g d (cW o) p:=by
 have n4:=w.len;have n5:=A.len;obtain⟨T,rows,kids⟩:=o
 dsimp only at*
 refine aM hm OD ?_;have n9:=λx=>ir x;refine aN λH X=> ?_;refine aa ?_;generalize j:g.set H (.cells [R.v (.int .u8 (T.toNat)),.J P e,.J S f])=G;have Y:=j▸U.af U.a1 X;have Z:=j▸U.ai _ _ _;have L: ∀d,G.sub d->d.read H=some [R.v (.int .u8 (T.toNat)),.J P e,.J S f]:=λd C=>U.ae (C _ _ Z);clear j;have j9:=L _ U.a1;refine tU [T,UInt8.ofNat rows.length] (λk a00 k0 _=> ?_);clear j9;have k1:=L _ k0.sub;refine cn [0,1] (λb:Nat×R=> [(4,.v (.int .i64 b.1)),(3,b.2)]) (λb d=>b.1<=rows.length/\fE G d (T::UInt8.ofNat rows.length::(rows.take b.1).flatMap gF) b.2) (λb=>rows.length - b.1) (0,k) ⟨⟨a9p,by trivial⟩,aS⟩ ?_;rintro⟨a,k⟩ D ⟨l,c⟩ k2
 dsimp only at l c|-
 clear k1;have k3:=L _ c.sub;refine aa ?_;refine aG (λm=> ?_) λm=> ?_
 .obtain⟨_,V,k4,rfl⟩:=w.get (i:=a) (x:=rows.getD a ([],false)) (by simp_all);have k5:eA 2 P[a]? =some (.bV [.J (ad (rows.getD a ([],false)).1) k4,.v (.bool (rows.getD a ([],false)).2)]):=by rw[V];rfl
  have a01:(rows.getD a ([],false)).1.length<=8:=i _ (by simp_all);have n:=fb (a:=rows) (e:=a) (b:=([],false)) a9p;have I:=yB (rows:=rows.take a) λp C=>i p (a4Z C);rw[a4P]at I;generalize rows.getD a ([],false)=b at*;have K:(dw b.1).length=8*b.1.length+1:=by rw[dw,a4S,o8]
  clear V;have a02:(gF b).length=8*b.1.length+2:=by rw[gF,a4S,K]
  refine aa ?_;refine hL (ZI _ _) λE F h=> ?_;refine mW c (show fE D F [if b.2=true then(1)else 0] E from h) λa4 k6 W _=> ?_;have M:=L _ W.sub;refine hL (uA _ _ _ a9p) λa03 q z=> ?_;refine mW W z λdu a04 k7 _=> ?_;refine⟨(a+1,du),⟨by simp only;omega,?_⟩,⟨rfl,rfl⟩,by simp only;omega⟩;simp only[n,a5C,a5o,a7B,a5R,gF];simpa using k7
 obtain rfl:a=rows.length:=a9p;rw[a5i]at c;have I:=yB i;generalize a05:T::UInt8.ofNat rows.length::rows.flatMap gF=s at*;have a06:s.length<=400:=by grind
 refine tU [UInt8.ofNat kids.length] (λE F h _=> ?_);refine mW c h λa3 k6 W _=> ?_;clear k3;have M:=L _ W.sub;refine cn [0,1] (λb:Nat×R=> [(5,.v (.int .i64 b.1)),(3,b.2)]) (λb d=>b.1<=kids.length/\fE G d (s++ [UInt8.ofNat kids.length]++(kids.take b.1).flatMap dZ) b.2) (λb=>kids.length - b.1) (0,a3) ⟨⟨a9p,by simpa using W⟩,aS⟩ ?_;clear M;rintro⟨a,k⟩ q ⟨l,z⟩ k2
 dsimp only at l z|-
 have a07:=L _ z.sub;refine aa ?_;refine aG (λm=> ?_) λm=> ?_
 .obtain⟨_,V,k8,k9,t,u,v,rfl⟩:=A.get (i:=a) (x:=kids.getD a ay) (by simp_all);have l0:=(B (kids.getD a ay) (by simp_all)).1;have n:=fb (a:=kids) (e:=a) (b:=ay) a9p;generalize kids.getD a ay=r at*;have N:=(aV (M:=t) (e6:=u) (h4:=v) k8).all;have k5:eA 37 S[a]? =some (.bV (ab r t u v)):=by rw[V];exact jy N.1
  generalize ab r t u v=y at*;clear V;refine aa ?_;refine aN λx O=> ?_;refine aa ?_;rw[a0u];refine aa ?_;refine a0t (U.ae (U.ai _ _ _)) a9p ?_;rw[U.set_set];have l1:fE (G.set x (.ro y)) (q.set x (.ro y)) _ k:=z.new O;have l2:=U.bF z.sub O;have l3:=U.af (Y:= .ro y) U.a1 l2;have l4:(G.set x (.ro y)) x=some (.ro y):=U.ai _ _ _;generalize G.set x (.ro y)=l5 at*;generalize q.set x (.ro y)=a08 at*;have a09: ∀d,l5.sub d->d.read x=some y:=λd C=>U.Uj (C _ _ l4);have Q:ee 1 32 (y.drop 0)=r.sum.map ak:=by simp[ee,N.2.2.1]
  rw[Q];obtain⟨a10,a11,a13⟩:=k9;obtain⟨a14,a15,a16,l6,a18,l7,a19⟩:=l0;obtain⟨l8,a27⟩:=a6K l6;obtain⟨l9,a29⟩:=a6K l7;have a30:=ku l8;have a34:=ku l9;have K: ∀p:List Int,(dw p).length=8*p.length+1:=λp=>by rw[dw,a4S,o8]
  have n0:((kids.take a).flatMap dZ).length<=300*a:=by have:=yC (kids:=kids.take a) λr C=>B r (a4Z C);rw[a4P]at this;omega
  generalize a36:s++ [UInt8.ofNat kids.length]++(kids.take a).flatMap dZ=n1 at*;have a38:n1.length<=3000:=by grind
  clear Q n0;refine Cp l1 o2.J λk D c _=> ?_;refine hL (ES _ _ a9p) λE F h=> ?_;refine mW c h λk D c _=> ?_;refine hL (ES _ _ a9p) λE F h=> ?_;refine mW c h λk D c _=> ?_;refine hL (uA _ _ _ a9p) λE F h=> ?_;refine mW c h λk D c _=> ?_;refine hL (uA _ _ _ a9p) λE F h=> ?_;refine mW c h λk D c _=> ?_;refine hL (uA _ _ _ a9p) λE F h=> ?_;refine mW c h λk D c _=> ?_;refine⟨(a+1,k),⟨by simp only;omega,?_⟩,⟨rfl,rfl⟩,by simp only;omega⟩;have a42:=c.base l3;simp only[n,a5C,a5o,a7B,a5R];grind[dZ,List.append_assoc,Int.toNat_natCast]
 obtain rfl:a=kids.length:=a9p;rw[a5i]at z;refine⟨_,U.a1,?_⟩;have:=z.base Y;grind[cW,List.append_assoc]
structure kI where
 kind:UInt8
 qW:Int
 at_:List Int
abbrev kI.V (a:kI) (b:Own):R:= .agg [.v (.int .u8 (a.kind.toNat:Int)),.v (.int .i64 a.qW),.J (ad a.at_) b]
def kI.ok (a:kI) (b:Nat):Bool:=
 decide (1<=b/\b<=8)&&(if a.kind=0 then decide (a.qW=0)&&decide (a.at_.length=0)
  else if a.kind=1\/a.kind=2 then(decide (0<a.qW)||decide (a.qW=0)&&decide (a.kind=2))&&decide (a.qW<=(b:Int) - 1)&&decide (a.at_.length=0)
  else decide (a.kind=3)&&decide (a.qW=0)&&decide (1<b)&&decide (a.at_.length=b - 1))
theorem F2 (a:kI) (h:Own) (c:Nat) (d:U) (r:c<=1000000000000) (x:a.at_.length<=1000000000000):
  AC Tryz.prog 42 [a.V h,.v (.int .i64 (c:Int))] d λk o=>o=d/\k= .v (.bool (a.ok c)):=by
 obtain⟨b,y,p⟩:=a
 dsimp only at*
 have z:=bH (q:=p);have C:=iB b 0 a9p;have D:=iB b 1 a9p;have E:=iB b 2 a9p;have F:=iB b 3 a9p;refine aM hm KA ?_;refine bp λG L=> ?_
 repeat' first|refine aG (λ_=> ?_) λ_=> ?_|trivial
 all_goals grind[kI.ok,aO,aP]
theorem uK (b:kI) (h:Own) (c:Nat) (d:U) (r:c<=1000000000000) (x:b.at_.length<=1000000000000):
  AC Tryz.prog 128 [b.V h,.v (.int .i64 (c:Int))] d λk o=>o=d/\k= .v (.bool (b.ok c)):=by
 obtain⟨a,y,p⟩:=b
 dsimp only at*
 have z:=bH (q:=p);have C:=iB a 0 a9p;have D:=iB a 1 a9p;have E:=iB a 2 a9p;have F:=iB a 3 a9p;refine aM hm MZ ?_;refine bp λG L=> ?_
 repeat' first|refine aG (λ_=> ?_) λ_=> ?_|trivial
 all_goals try first
  |(rw[kI.ok];exact aO)
  |(refine aP ?_;simp only[kI.ok]at*;grind)
 rename_i P S T;obtain rfl:a=2:=a5I.1 (by simp_all);refine aP ?_;rw[a7p];simp[kI.ok,-List.length_eq_zero_iff];omega
abbrev ic (a b:Nat):R:= .agg [.v (.int .u64 (a:Int)),.v (.int .u64 (b:Int))]
def a0w (a c b d:Nat) (h:U):AC Tryz.prog 145 [ic a c,ic b d] h λk o=>o=h/\k= .v (.bool (decide (a<b\/a=b/\c<d))):=by
 refine aM hm Nv ?_;refine bp λp r=> ?_;refine cV λx y z C=> ?_
 repeat' first|refine aG (λ_=> ?_) λ_=> ?_|trivial
 all_goals exact aO
def qX (a c b d:Nat):Int:=if a=b/\c=d then 0 else if a<b\/a=b/\c<d then -1 else 1
theorem F3 (a b c d:Nat) (h:U):AC Tryz.prog 134 [ic a b,ic c d] h λk o=>o=h/\k= .v (.int .i64 (qX a b c d)):=by
 have p: ∀a b:Nat,dm [(2,c8.int IntKind.u64)] [R.v (.int .u64 (a)),R.v (.int .u64 (b))]:=λa b=>by simp[dm,c8.tm]
 have r:peq (ic a b) (ic c d)=decide ((a:Int)=c/\(b:Int)=d):=by rw[a7p];simp[peq]
 refine aM hm N7 ?_;refine bp λx y=> ?_;refine cV λz C D E=> ?_
 repeat' first|refine aG (λ_=> ?_) λ_=> ?_|trivial
 all_goals grind[qX]
abbrev hz (a:List Int) (b:Nat):Int:=a.getD b 0
def jh (c d a:List Int):Bool:=cP c d a.length&&(List.range a.length).all λb=>decide (hz c b<=hz a b)&&decide (hz a b<=hz d b)
def oz (a b c d:List Int):Bool:=cP a b a.length&&cP c d a.length
def jV (b c d h:List Int):Bool:=oz b c d h&&(List.range b.length).all λa=>decide (hz b a<=hz h a)&&decide (hz d a<=hz c a)
def a0x (c:U) (k o:Nat) (d h b:List Int) (p r x:Own) (a:Nat) (C:c.read k=some [.J (ad d) p,.J (ad h) r]) (D:c.read o=some [.J (ad b) x]) (E:a<d.length) (F:a<h.length) (G:a<b.length):
  AC Tryz.prog 217 [.v (.int .i64 (a:Int)),.ptr k 0,.ptr o 0] c λy z=>z=c/\y= .v (.bool (decide (hz d a<=hz b a)&&decide (hz b a<=hz h a))):=by
 have L:= @dJ d;have P:= @dJ h;have S:= @dJ b;refine aM hm PG ?_
 repeat' first|refine aG (λ_=> ?_) λ_=> ?_|trivial
 all_goals exact aO
def a0y (h:U) (b c a:List Int) (k o p:Own) (r:a.length<=1000000000000):
  AC Tryz.prog 140 [er b c k o,.J (ad a) p] h λx y=>y=h/\x= .v (.bool (jh b c a)):=by
 have G:=bH (q:=a);refine aM hm Nk ?_;refine bp λz L=> ?_;refine cV λC P S D=> ?_;refine bc (oe _ b c _ _ _ r) ?_;refine aG (λd=> ?_) λd=> ?_
 .obtain⟨T,V,W,e⟩:=lh d;refine bc (xo a.length _ _ _ _ _ r a9v λE F=>a0x _ z C b c a k o p E (by simp[U.read,U.ai,U.ao,D]) (by simp[U.read,U.ai]) a9p a9p F) ?_;refine aP ?_;rw[jh,d,a6k]
 .refine aP ?_;rw[jh,d,a7d]
def a0z (b:U) (o p:Nat) (c d h k:List Int) (r x y z:Own) (a:Nat) (E:b.read o=some [.J (ad c) r,.J (ad d) x]) (F:b.read p=some [.J (ad h) y,.J (ad k) z]) (G:a<c.length) (L:a<d.length) (P:a<h.length) (S:a<k.length):
  AC Tryz.prog 274 [.v (.int .i64 (a:Int)),.ptr o 0,.ptr p 0] b λC D=>D=b/\C= .v (.bool (decide (hz c a<=hz k a)&&decide (hz h a<=hz d a))):=by
 have T:= @dJ c;have V:= @dJ d;have W:= @dJ h;have e:= @dJ k;refine aM hm R2 ?_
 repeat' first|refine aG (λ_=> ?_) λ_=> ?_|trivial
 all_goals exact aO
def a0A (d:U) (b c a h:List Int) (o p r x:Own) (k:b.length<=1000000000000):
  AC Tryz.prog 196 [er b c o p,er a h r x] d λy z=>z=d/\y= .v (.bool (oz b c a h)):=by
 have C:=bH (q:=b);refine aM hm P8 ?_;refine bp λD E=> ?_;refine cV λF G L P=> ?_;refine bc (oe _ b c _ _ _ k) ?_;refine aG (λa=> ?_) λa=> ?_
 .refine bc (oe _ _ _ _ _ _ k) ?_;refine aP ?_;rw[oz,a,a6k]
 .refine aP ?_;rw[oz,a,a7d]
variable{q b6:List Int}
theorem yD {a b:List Int} (c:oz q b6 a b=true):b6.length=q.length/\a.length=q.length/\b.length=q.length/\1<=q.length/\q.length<=8:=by rw[oz,a4Q]at c;obtain⟨d,h⟩:=c;have d:=lh d;grind[lh]
def F4 (k:U) (a b c d:List Int) (o p r x:Own) (y:a.length<=1000000000000):
  AC Tryz.prog 198 [er a b o p,er c d r x] k λz C=>C=k/\z= .v (.bool (jV a b c d)):=by
 have P:=bH (q:=a);refine aM hm Pa ?_;refine bp λD S=> ?_;refine cV λE T V F=> ?_;refine bc (a0A _ a b c d _ _ _ _ y) ?_;refine aG (λh=> ?_) λh=> ?_
 .obtain⟨W,e,f,g⟩:=yD h;refine bc (xo a.length _ _ _ _ _ y a9v λG L=>a0z _ D E a b c d o p r x G (by simp[U.read,U.ai,U.ao,F]) (by simp[U.read,U.ai]) L a9p a9p a9p) ?_;refine aP ?_;rw[jV,h,a6k]
 .refine aP ?_;rw[jV,h,a7d]
def gr (a b c d:List Int):List Int×List Int:=if jV a b c d=true then(List.zipWith max a c,List.zipWith min b d)else([],[])
set_option maxHeartbeats 1000000 in
theorem a0B (C:U) (a c h d:List Int) (m n q s:Own) (E:a.length<=1000000000000):
  AC Tryz.prog 131 [er a c m n,er h d q s] C λl5 o=> ∃r t,l5= .aI [.agg [r,t],.v (.bool (jV a c h d))]/\pk C o (gr a c h d).1 (gr a c h d).2 r t:=by
 have k1:=bH (q:=a);have u:= @dJ a;have v:= @dJ c;have w:= @dJ h;have A:= @dJ d;refine aM hm N3 ?_;refine bp λB a11=> ?_;refine cV λH a13 I l6=> ?_;refine hl λF l7 l8 l9 n0 n1=> ?_;refine bc (F4 _ a c h d _ _ _ _ E) ?_;refine aG (λG=> ?_) λG=> ?_
 .rw[gr,if_neg (by simp[G])];exact⟨_,U.a1,_,_,rfl,C,au.nil U.a1,au.nil aS⟩
 .rw[gr,if_pos G];obtain⟨a14,a15,a16,a18,a19⟩:=yD (by rw[jV,a4Q]at G;exact G.1);generalize L:((C.set B _).set H _).set F _=P;have W:C.sub P:=by subst L;exact aS
  have K:P B=some (.cells [.J (ad a) m,.J (ad c) n]):=by subst L;exact aS
  have M:P H=some (.cells [.J (ad h) q,.J (ad d) s]):=by subst L;exact aS
  have aK:P F=some (.cells [.J [] .nil,.J [] .nil]):=by subst L;exact aS
  clear L;refine ag (u9 P a c _ _ E a9p) ?_;rintro _ n2 ⟨r,t,rfl,a27,n3,n4⟩;obtain⟨x,⟨I,_⟩|⟨e,n5,N,k2,rfl,f,k3,n9,O,S,k4,cd⟩⟩:=n3
  .exfalso;grind
  obtain⟨D,⟨I,_⟩|⟨y,a00,Q,k5,rfl,T,k6,a01,X,V,k7,ca⟩⟩:=n4
  .exfalso;grind
  obtain rfl:n5=a.length:=by rw[k1]at S;omega
  obtain rfl:a00=a.length:=by rw[bH]at V;omega
  have k8:=D _ _ k3;simp only[a5D]at n9 a01 O X k4 k7;obtain⟨g,rfl⟩: ∃Y,k2=ad a++Y:=⟨k2.drop a.length,by rw[<-O,a5t]⟩;obtain⟨i,rfl⟩: ∃Y,k5=ad c++Y:=⟨k5.drop a.length,by rw[<-X,a5t]⟩;have k: ∀ {k9:U}{b Z:Nat}{j:br},k9 b=none->k9 Z=some j->b≠Z/\Z≠b:=λE l=>⟨(by rintro rfl;rw[E]at l;cases l),(by rintro rfl;rw[E]at l;cases l)⟩;have kt:=D _ _ (x _ _ K);have l0:=D _ _ (x _ _ M);have l1:=D _ _ (x _ _ aK);obtain⟨a29,a02⟩:=k T k3;obtain⟨a30,a34⟩:=k f K;obtain⟨a36,a38⟩:=k f M;obtain⟨a03,a42⟩:=k f aK;obtain⟨a43,a47⟩:=k T (x _ _ K);obtain⟨a48,a52⟩:=k T (x _ _ M);obtain⟨a04,a56⟩:=k T (x _ _ aK);have a05:=U.bF W f;have a06:=U.bF (U.aq W x) T;have j9:=U.aq W (U.aq x D);clear O X S V x D;have a57: ∀a c k0 d:Nat,(R.an a c k0 d).cells= [.an a c k0 d]:=λ_ _ _ _=>rfl;refine aa ?_;refine aN λa07 z=> ?_;obtain⟨a61,a62⟩:=k z kt;obtain⟨a63,a65⟩:=k z l0;obtain⟨a68,a69⟩:=k z l1;obtain⟨a71,a73⟩:=k z k8;obtain⟨Xw,a74⟩:=k z k6;have l2:=U.bF j9 z;refine aa ?_;refine cn [2,3,4,6,17] (λb:Nat=> [(18,.v (.int .i64 (b)))]) (λb o=>b<=a.length/\C.sub o/\o B=some (.cells [.J (ad a) m,.J (ad c) n])/\o H=some (.cells [.J (ad h) q,.J (ad d) s])/\o F=some (.cells [.J [] .nil,.J [] .nil])/\
      o a07=some (.cells [.an e a.length N 1,.an y a.length Q 1])/\o e=some (.cells (ad (mix max a h b)++g))/\o y=some (.cells (ad (mix min c d b)++i))) (λb=>a.length - b) 0 ⟨⟨a5v _,U.af (U.af j9 l2) l2,aS,aS,aS,aS,?_,?_⟩,aS⟩ ?_
  .have a08:mix max a h 0=a:=by rfl
   exact aS
  .have a08:mix min c d 0=c:=by rfl
   exact aS
  clear kt l0 l1 k8 k6 z k1;rintro b o ⟨a81,a09,c2,aH,aK,c6,l3,l4⟩ a83;have a84:=U.ae c2;have a86:=U.ae aH;have a88:=U.ae c6;have n2:=U.aJ l3;have a89:=U.aJ l4;clear I l6 l8 l9 n0 n1 j9 W;by_cases a90:b<a.length
  .have k0:(b)<(a.length:Int):=a9p;have a92:=u a9p;have a94:=v (b:=b) a9p;have a95:=w (b:=b) a9p;have a96:=A (b:=b) a9p;clear u v w A;have a97:=ub a9p a9p g (v:=max (a.getD b 0) (h.getD b 0)) rfl;have a98:=ub a9p a9p i (v:=min (c.getD b 0) (d.getD b 0)) rfl;have a99:b+1<=(ad (mix max a h b)++g).length:=by rw[a4O,bH,ua a9p a9p];omega
   have b00:b+1<=(ad (mix min c d b)++i).length:=by rw[a4O,bH,ua a9p a9p];omega
   generalize a.getD b 0=b01 at*;generalize h.getD b 0=b02 at*;generalize c.getD b 0=a3 at*;generalize d.getD b 0=a4 at*;generalize ad (mix max a h b)++g=b03 at*;generalize ad (mix min c d b)++i=b04 at*;refine aa ?_;grind
  .obtain rfl:b=a.length:=a9p;clear u v w A;have S:mix max a h a.length=List.zipWith max a h:=by unfold mix;grind
   have V:mix min c d a.length=List.zipWith min c d:=by unfold mix;grind
   have b05:(ad (mix max a h a.length)).length=a.length:=by rw[S,bH,a6C];omega
   have b06:(ad (mix min c d a.length)).length=a.length:=by rw[V,bH,a6C];omega
   have b07:=U.aJ aK;have b08: ¬(a.length:Int)<a.length:=a9p;refine aa ?_;refine⟨_,U.a1,_,_,rfl,?_⟩;rw[<-S,<-V];refine⟨(o.set F (.cells [.an e a.length N 1,.an y a.length Q 1])).del y,⟨λr j p=> ?_,.inr ⟨e,a.length,N,_,rfl,a05,by rw[U.eG _ a02,U.ao _ _ a03];exact l3,?_,?_,?_,k4,cd⟩⟩,⟨λr j p=> ?_,.inr ⟨y,a.length,Q,_,rfl,U.im _ _,by rw[U.ao _ _ a04];exact l4,?_,?_,?_,k7,ca⟩⟩⟩
   .have k:r≠y:=by rintro rfl;rw[a06]at p;cases p
    have a10:r≠F:=by rintro rfl;rw[l7]at p;cases p
    rw[U.eG _ k,U.ao _ _ a10];exact a09 r j p
   .rw[a4O,bH]at*;omega
   simp_all
   .omega
   .have k:r≠y:=by rintro rfl;rw[U.im]at p;cases p
    rw[U.eG _ k]at p;exact p
   .rw[a4O,bH]at*;omega
   simp_all
   .omega
def F5 (h:U) (a b c d:List Int) (k o p r:Own) (z:a.length<=1000000000000):
  AC Tryz.prog 131 [er a b k o,er c d p r] h λx y=>h.sub y/\x= .aI [er (gr a b c d).1 (gr a b c d).2 .any .any,.v (.bool (jV a b c d))]:=
 (a0B h a b c d k o p r z).view λx y C=>by
  obtain⟨D,W,rfl,e,E,F⟩:=C;obtain⟨f,G,L⟩:=sm F;have P:=E.mono G;obtain⟨S,T,V⟩:=sm P;exact⟨_,S,View.aI (a:= []) ((View.agg (a:= [D]) rfl L).trans (View.agg (a:= []) rfl V)),T,rfl⟩
end Go.Proofs.YtlgnfcaolejgeaaGreat
