import Derived.Test.YtlgnfcaolejgeaaGreatMG
import Derived.Test.YtlgnfcaolejgeaaGreatMF
import Derived.Test.YtlgnfcaolejgeaaGreatME
import Derived.Test.YtlgnfcaolejgeaaGreatMD
set_option linter.all false
set_option maxRecDepth 100000
namespace Go.Proofs.YtlgnfcaolejgeaaGreat
open Go Go.bx
def c5:List UInt8->List UInt8->Bool
 | _,[]=>false
 | [],_:: _=>true
 |a::c,b::d=>if a=b then c5 c d else decide (a<b)
theorem a1C: ∀b a:List UInt8,Op.bytesLess b a=c5 b a:=by
 intro b
 induction b with
 |nil=>intro a;cases a<;>simp[Op.bytesLess,c5]
 |cons c b ih=>
  intro a;cases a with
  |nil=>rfl
  |cons d a=>simp only[Op.bytesLess,c5,ih];split<;>simp_all
theorem vb (a:List UInt8):c5 a a=false:=by induction a<;>simp_all [c5]
theorem FF: ∀b a:List UInt8,c5 b a=false->c5 a b=false->b=a:=by
 intro b
 induction b with
 |nil=>intro a;cases a<;>simp[c5]
 |cons c b ih=>
  intro a;cases a with
  |nil=>simp[c5]
  |cons d a=>simp only[c5];grind
theorem vc: ∀c a b:List UInt8,c5 c a=true->c5 a b=true->c5 c b=true:=by
 intro c
 induction c with
 |nil=>intro a b;cases a<;>cases b<;>simp[c5]
 |cons d c ih=>
  intro a b;cases a with
  |nil=>simp[c5]
  |cons h a=>
   cases b with
   |nil=>simp[c5]
   |cons k b=>simp only[c5];grind
theorem vd (a b:List UInt8):iX .lss (bb a) (bb b)=some (.v (.bool (c5 a b)))/\iX .geq (bb a) (bb b)=some (.v (.bool (!c5 a b)))/\
  iX .leq (bb a) (bb b)=some (.v (.bool (c5 a b||decide (a=b))))/\iX .gtr (bb a) (bb b)=some (.v (.bool (!(c5 a b||decide (a=b))))):=by
 grind[decide,bb,rQ,bn,pT,toList_mk,a1C]
variable{g A e0:List R}{e7:aL}
def en.at_ (C:en e7 g): ∃D E,aX false 1 (g.drop 36)= .v (.int .i64 e7.bM.live)/\aX false 1 (g.drop 38)= .J (ad e7.bM.key) D/\aX false 1 (g.drop 73)= .v (.int .i64 e7.cq.live)/\aX false 1 (g.drop 74)= .v (.int .i64 e7.cq.size)/\aX false 1 (g.drop 75)= .J (ad e7.cq.key) E:=by
 obtain⟨⟨y,o,p,c,d,h,b,rfl⟩,⟨F,_⟩,⟨G,_⟩,_⟩:=C;have k:=aW (M:=o) (e6:=p) (h4:=c) F;have r:=aW (M:=d) (e6:=h) (h4:=b) G;have z: ∀a,a<=37->(bb e7.name:: .J (bE e7.aD) y::(ab e7.bM o p c++ab e7.cq d h b)).drop (a+2)=(ab e7.bM o p c).drop a++ab e7.cq d h b:=λa L=>by
  simp only[a6c];rw[a5Z (by have:=k.len;omega)]
 have x: ∀a,(bb e7.name:: .J (bE e7.aD) y::(ab e7.bM o p c++ab e7.cq d h b)).drop (a+37+2)=(ab e7.cq d h b).drop a:=λa=>by
  simp only[a6c];rw[a5V,a5S (by rw[k.len];omega),k.len,a4P];congr 1
 refine⟨c,b,?_,?_,?_,?_,?_⟩
 .rw[z 34 a8Z,k.d34];rfl
 .rw[z 36 a8Z,k.d36];rfl
 .rw[x 34,r.d34];rfl
 .rw[x 35,r.d35];rfl
 .rw[x 36,r.d36];rfl
def fR (a:aL):Bool:=eu ⟨1,a.name,a.aD,[]⟩&&(fw (a.aD.length+1) a.bM&&(fw (a.aD.length+1) a.cq&&(decide (a.bM.live=a.cq.live)&&(decide (a.bM.key.length=0)&&
 (decide (a.cq=aA)||(decide (a.cq.key.length=a.aD.length+1)&&decide (a.cq.size=a.cq.live)))))))
structure aL.Fit (t:aL):Prop where
 n:t.name.length<=1000000
 c:t.aD.length<=1000000
 cs: ∀c∈t.aD,c.length<=1000000
def sW (a:aL) (b:List R) (c:en a b) (d:U):AC Tryz.prog 39 [.agg b] d λh k=>k=d/\h= .v (.int .i64 ((a.aD.length+1:Nat):Int)):=by obtain⟨o,p,r,x,y,z,C,D,E,F,G,L,P⟩:=c.all;have S:=hz (a:=a.aD);have T:=c.c;refine aN hm Ks ?_;refine bp λV W=> ?_;trivial
theorem r7 (a:aL) (c:List R) (b:en a c) (o:a.Fit) (d:U):AC Tryz.prog 147 [.agg c] d λp r=>r=d/\p= .v (.bool (fR a)):=by
 obtain⟨W,e,f,x,y,z,C,D,E,F,g,i,j⟩:=b.all;obtain⟨l,m,n,q,s,t,u⟩:=b.at_;have v:=hz (a:=a.aD);have w:=bH (q:=a.bM.key);have A:=bH (q:=a.cq.key);obtain⟨G,L,P⟩:=o;have B: ∀h,fw h aA=true:=λh=>by rfl
 refine aN hm Nt ?_;refine bp λk H=> ?_;refine bc (sW a c b _) ?_;refine bc (EL ⟨⟨1,a.name,a.aD,[]⟩,x,.nil⟩ ⟨G,L,P,a9a⟩ _) ?_;have S:=xo a.bM y z C (a.aD.length+1) (d.set k (.cells c)) a8Z b.k.1 b.k.2;have T:=xo a.cq D E F (a.aD.length+1) (d.set k (.cells c)) a8Z b.z.1 b.z.2;refine aG (λV=> ?_) λV=> ?_
 .rw[fR];exact aO
 refine bc S ?_
 repeat' first|refine aG (λ_=> ?_) λ_=> ?_|trivial
 all_goals try (rw[fR];exact aO)
 .refine bc T ?_
  repeat' first|refine aG (λ_=> ?_) λ_=> ?_|trivial
  all_goals try (rw[fR];exact aO)
  all_goals refine bc (nh _ _ _ _ _ b.z.1 b.z.2) ?_
  all_goals repeat' first|refine aG (λ_=> ?_) λ_=> ?_|trivial
  all_goals grind[fR,aO]
def cx (a:List aL):Bool:=(List.range a.length).all (λb=>fR (a.getD b default)&&(decide (b=0)||c5 (a.getD (b - 1) default).name (a.getD b default).name))&&decide (a.length<=8)
theorem nE (a:List aL) (E:List R) (e:Own) (y:az dy a E) (f: ∀d∈a,d.Fit) (s:a.length<=1000000) (k:U):AC Tryz.prog 102 [.J E e] k λg z=>z=k/\g= .v (.bool (cx a)):=by
 have t:=y.len;refine aN hm Ma ?_;refine ch [0,5,6] (λb:Nat=> [(7,.v (.int .i64 b))]) (λb z=>k.sub z/\b<=a.length/\ ∀c<b,(fR (a.getD c default)&&(decide (c=0)||c5 (a.getD (c - 1) default).name (a.getD c default).name))=true) (λb=>a.length - b) 0 ⟨⟨U.a1,a8Z,λc C=>by omega⟩,aR⟩ ?_;rintro b F ⟨G,u,i⟩ v;refine aa ?_;refine aG (λj=> ?_) λj=> ?_
 .have L:a[b]? =some (a.getD b default):=by simp_all
  obtain⟨_,w,T,rfl,o⟩:=y.get L;have P:=f _ (a4D L);generalize l:a.getD b default=d at*;have A:=jy (n:= .agg T) o.all.1;obtain⟨B,H,I,K,M,N,O,Q,X,Y,Z,j9,k0⟩:=o.all;obtain⟨p,r⟩: ∃p,p=(fR d&&(decide (b=0)||c5 (a.getD (b - 1) default).name d.name)):=⟨_,rfl⟩;have k1:p=false->cx a=false:=λC=>by
   grind[cx,s6]
  have k2:p=true-> ∃x,(x<=a.length/\ ∀c<x,(fR (a.getD c default)&&(decide (c=0)||c5 (a.getD (c - 1) default).name (a.getD c default).name))=true)/\R.v (.int .i64 ((b)+1))= .v (.int .i64 (x))/\a.length - x<a.length - b:=λC=>
   ⟨b+1,⟨a8Z,upto i (by rw[l,<-r];exact C)⟩,rfl,a8Z⟩
  have k3: ∀h S,F h=none->k.sub (F.set h S):=λh S D=>U.af G (U.bF G D);by_cases V:b=0
  .subst V;simp only[decide_true,Bool.true_or,a8M]at r;subst r;refine aa ?_;refine bp λh D=> ?_;refine bc (r7 d T o P _) ?_
   repeat' first|refine aG (λ_=> ?_) λ_=> ?_|trivial
   simp_all
  .have m:a[b - 1]? =some (a.getD (b - 1) default):=by grind
   obtain⟨_,k4,n,rfl,W⟩:=y.get m;generalize a.getD (b - 1) default=q at*;have k5:=jy (n:= .agg n) W.all.1;obtain⟨k6,k7,k8,_⟩:=W.all;have k9:(b) - 1=((b - 1:Nat):Int):=a8Z;have l0:=(vd q.name d.name).2.1;simp only[decide_eq_false V,a8N]at r;refine aa ?_;refine bp λh D=> ?_;refine bc (r7 d T o P _) ?_
   repeat' first|refine aG (λ_=> ?_) λ_=> ?_|trivial
   all_goals simp_all
 grind[cx,s7,aO]
def nF (a b:List UInt8):Int:=if c5 a b=true then -1 else if a=b then 0 else 1
def FG (b:List UInt8) (a:U):AC Tryz.prog 334 [bb b] a λc d=>d=a/\c= .v (.bool false):=by have k:=λh v=> @wT h v;refine aN hm S7 ?_;trivial
theorem a1D (a b:List UInt8) (c:U):AC Tryz.prog 297 [bb a,bb b] c λh k=>k=c/\h= .v (.int .i64 (nF a b)):=by
 obtain⟨p,r,x,y⟩:=vd a b;refine aN hm Rr ?_;refine bc (FG a c) ?_;refine bc (FG b c) ?_;refine aG (λd=> ?_) λd=> ?_
 .rw[nF,if_pos d]
 .refine aG (λo=> ?_) λo=> ?_;simp_all [nF];simp_all [nF]
def a1E (a:aL) (b:List R) (d:en a b) (c:U):AC Tryz.prog 227 [.agg b] c λh k=>k=c/\h=bb a.name:=by obtain⟨o,p,r,_⟩:=d.all;refine aN hm PO ?_;refine bp λx y=> ?_;trivial
def FH (a:aL) (b:List R) (h:en a b) (k:List UInt8) (c:U) (d:Nat) (o:c.read d=some [.bG 227 [] []]):AC Tryz.prog 296 [.agg b,bb k,.ptr d 0] c λp r=>r=c/\p= .v (.int .i64 (nF a.name k)):=by
 obtain⟨z,C,_⟩:=h.all;refine aN hm Rp ?_;refine aM λx y=> ?_;have D:d≠x:=by rintro rfl;simp[U.read,y]at o
 refine aa ?_;refine lZ (a1E a b h _) ?_;refine bc (a1D _ _ _) ?_;trivial
def Place (a:List aL) (d:List UInt8) (c:Nat):Prop:=c<=a.length/\(∀b<c,c5 (a.getD b default).name d=true)/\ ∀b<a.length,c<=b->c5 (a.getD b default).name d=false
variable{B:List UInt8}
theorem FI {a:List UInt8}:nF B a<0↔c5 B a=true:=by grind[nF]
theorem a1F {a:List UInt8}:nF B a=0↔B=a:=by
 unfold nF;split
 .rename_i b;simp;rintro rfl;rw[vb]at b;cases b
 .simp
theorem a1G (c:List aL) (y:List R) (V:Own) (d:List UInt8) (G:az dy c y) (u:c.length<=1000000) (W: ∀a b,a<b->b<c.length->c5 (c.getD a default).name (c.getD b default).name=true) (p:U) (r:Nat) (L:p.read r=some [.bG 227 [] []]):
  AC Tryz.prog 295 [.J y V,bb d,.bG 296 [] [.ptr r 0]] p λe f=>f=p/\ ∃a,Place c d a/\e= .aK [.v (.int .i64 (a:Int)),.v (.bool (decide (a<c.length)&&decide ((c.getD a default).name=d)))]:=by
 have v:=G.len;have el: ∀a,a<c.length-> ∃T,y[a]? =some (.agg T)/\en (c.getD a default) T/\ez 76 (some (.agg T))=some (.bV T)/\T.length=76/\T.take 76=T:=λa z=>by
  obtain⟨_,g,T,rfl,k⟩:=G.get (i:=a) (x:=c.getD a default) (by simp_all);exact⟨T,g,k,jy k.all.1,k.all.1,k.all.2.1⟩
 have i: ∀a,a<c.length->c5 (c.getD a default).name d=true-> ∀b,b<a+1->c5 (c.getD b default).name d=true:=λa z o b P=>by
  rcases Nat.lt_or_eq_of_le (Nat.le_of_lt_succ P)with C|rfl
  .exact vc _ _ _ (W b a C z) o
  .exact o
 have j: ∀a,a<c.length->c5 (c.getD a default).name d=false-> ∀b,b<c.length->a<=b->c5 (c.getD b default).name d=false:=λa z o b P w=>by
  grind
 refine aN hm Rn ?_;refine gJ [0,1,2,8] (λh:Nat×Nat=> [(9,.v (.int .i64 h.1)),(10,.v (.int .i64 h.2))]) (λh=>h.1<=h.2/\h.2<=c.length/\(∀b<h.1,c5 (c.getD b default).name d=true)/\ ∀b<c.length,h.2<=b->c5 (c.getD b default).name d=false) (λh=>h.2 - h.1) (0,c.length) ⟨a9a,a9a,λb o=>by simp at o,λb o x=>by simp at x;omega⟩ aR ?_;rintro⟨a,b⟩ ⟨C,x,D,E⟩ A
 dsimp only at C x D E|-
 have B:bn .shr (.int .u64 ((a)+(b))) (.int .u64 1)=some (.int .u64 (((a+b)/2:Nat))):=by rw[show(a)+(b)=((a+b:Nat):Int) by omega,rR _ _ _ a8Z a8Z];rfl
 by_cases H:(a:Int)<b
 .obtain⟨T,l,k,m,n,q⟩:=el ((a+b)/2) a8Z;have s:=i ((a+b)/2) a8Z;have t:=j ((a+b)/2) a8Z;generalize I:(a+b)/2=S at*;refine aa ?_;refine lZ (FH _ T k d p r L) ?_;refine aG (λF=> ?_) λF=> ?_
  .exact⟨(S+1,b),⟨by simp only;omega,by simp only;omega,s (FI.1 F),E⟩,⟨rfl,rfl⟩,by simp only;omega⟩
  .exact⟨(a,S),⟨by simp only;omega,by simp only;omega,D,t (by simpa[FI] using F)⟩,⟨rfl,rfl⟩,by simp only;omega⟩
 .obtain rfl:a=b:=a8Z;have K:Place c d a:=⟨x,D,E⟩;by_cases c2:(a:Int)<c.length
  .obtain⟨T,l,k,m,n,q⟩:=el a a8Z;refine aa ?_;refine lZ (FH _ T k d p r L) ?_;grind[a1F]
  .refine aa ?_;grind
def a1H (b:List aL) (d:List R) (x:Own) (c:List UInt8) (y:az dy b d) (z:b.length<=1000000) (C: ∀a h,a<h->h<b.length->c5 (b.getD a default).name (b.getD h default).name=true) (k:U):
  AC Tryz.prog 148 [.J d x,bb c] k λo p=>p=k/\ ∃a,Place b c a/\o= .aK [.v (.int .i64 (a:Int)),.v (.bool (decide (a<b.length)&&decide ((b.getD a default).name=c)))]:=by
 refine aN hm Nv ?_;refine ai (a7:=λo p=>p=k/\ ∃a,Place b c a/\o= .aK [.v (.int .i64 (a)),.v (.bool (decide (a<b.length)&&decide ((b.getD a default).name=c)))]) ?_ ?_
 .refine aN hm PM ?_;refine bp λD E=> ?_;refine ai (a1G b d x c y z C _ D (U.By)) ?_;rintro _ _ ⟨rfl,a,r,rfl⟩;refine aa ?_;exact⟨a,r,rfl⟩
 .rintro _ _ ⟨rfl,a,r,rfl⟩;refine aa ?_;exact⟨a,r,rfl⟩
abbrev eL:List R:=bb []:: .J [] .nil::(ab aA .nil .nil .nil++ab aA .nil .nil .nil)
def jm:([R.v (.string ⟨#[]⟩)]++ [R.J [] .nil]++List.replicate 32 (R.v (.int .u8 0))++ [R.J [] .nil,.J [] .nil]++ [R.v (.int .i64 0),.v (.int .i64 0)]++ [R.J [] .nil]++List.replicate 32 (R.v (.int .u8 0))++ [R.J [] .nil,.J [] .nil]++ [R.v (.int .i64 0),.v (.int .i64 0)]++ [R.J [] .nil])=eL:=by have:=cn;rfl
def ga:en ⟨[],[],aA,aA⟩ eL:=⟨⟨.nil,_,_,_,_,_,_,rfl⟩,⟨bj,me⟩,⟨bj,me⟩,a9a⟩
theorem nG (a:en e7 g):g.length=76/\g.take 76=g/\putAt eL 0 g=g/\(eL).length=76:=by have b:=a.all.1;have c:=ga.all.1;grind[rS]
theorem FJ {c:Type}{y:c}{d:c->Bool}: ∀ {b:List c}{h:Nat}{a:c},b[h]? =some a->d a=true->(∀o<h,d (b.getD o y)=false)->b.find? d=some a
 | [],h,a,k,_,_=>by simp at k
 |p::b,0,a,k,r,_=>by simp_all
 |p::b,h+1,a,k,r,x=>by
  have z:d p=false:=x 0 a8Z;rw[List.find?_cons,z];exact FJ (by trivial) r λo k=>x (o+1) a8Z
variable{b0:Type}
theorem a1I {c:b0}{b:b0->Bool}{a:List b0} (k: ∀d<a.length,b (a.getD d c)=false):a.find? b=none:=by rw[List.find?_eq_none];intro o h;obtain⟨p,r,rfl⟩:=a5i h;simp_all
def Found (c:List aL) (d:List UInt8) (b:R):Prop:=match c.find? (λa=>decide (a.name=d))with
 |some a=> ∃T,en a T/\b= .aK [.agg T,.v (.bool true)]
 |none=>b= .aK [.agg eL,.v (.bool false)]
theorem find_spec (b:List aL) (C:List R) (P:Own) (o:List UInt8) (D:az dy b C) (m:b.length<=1000000) (c:U):
  AC Tryz.prog 37 [.J C P,bb o] c λS p=>p=c/\Found b o S:=by
 have n:=D.len;have q:=λV=> @ql V o;have s:=jm;refine aN hm Ko ?_;refine bp λh W=> ?_;rw[jm];have r:c.sub (c.set h (.cells eL)):=U.af U.a1 W;have E:(c.set h (.cells eL)) h=some (.cells eL):=U.ah _ _ _;generalize c.set h (.cells eL)=e at*;obtain⟨_,_,_,t⟩:=nG ga;have u:=(nG ga).2.2.1;have v:=ga.all.2.1;refine ch [1,4,8,9] (λa:Nat=> [(10,.v (.int .i64 a))]) (λa p=>e.sub p/\a<=b.length/\ ∀d<a,(b.getD d default).name≠o) (λa=>b.length - a) 0 ⟨⟨U.a1,a8Z,λd w=>by omega⟩,aR⟩ ?_;rintro a A ⟨k,B,x⟩ H;have I:=U.aJ (k _ _ E);refine aa ?_;refine aG (λf=> ?_) λf=> ?_
 .have F:b[a]? =some (b.getD a default):=by simp_all
  obtain⟨_,K,T,rfl,G⟩:=D.get F;generalize g:b.getD a default=M at*;obtain⟨i,N,O,_⟩:=nG G;have Q:=G.all.2.2.1;have X:=jy (n:= .agg T) i;refine aa ?_;refine aM λj y=> ?_;have l:h≠j:=by rintro rfl;rw[k _ _ E]at y;cases y
  have Y:=a4F l;refine aa ?_;refine aG (λz=> ?_) λz=> ?_
  .refine⟨U.af (U.ar r k) (U.bF (U.ar r k) y),?_⟩;rw[Found,FJ F (by simp[z]) λd L=>by simpa using x d L];simp_all
  .exact⟨a+1,⟨a8Z,upto x (by rw[g];exact z)⟩,rfl,a8Z⟩
 .refine⟨U.ar r k,?_⟩;rw[Found,a1I λd L=>by simpa using x d a8Z]
theorem dy.cells {b:aL}{a:R} (c:dy b a):a.cells.length=76:=by obtain⟨T,rfl,d⟩:=c;exact d.all.1
theorem ve (o:List aL) (a:List R) (c:Own) (b:U) (p:az dy o a) (F:o.length<=1000):
  AC Tryz.prog 45 [.J a c] b λr d=>au b d 76 (flat a) r:=by
 have G:=p.len;refine mS λL=> ?_;have y:c= .nil->a= []:=λh=>by subst h;simp_all
 have x:=p.cells λ_ _=>dy.cells;have P:=db x;refine bd hm KC a9a ?_;simp -dsimp -implicitDefEqProofs (disch:=first|omega|assumption|(simp only[bk,Nat.reduceAdd];try omega)) only[go_sem,simprocAttr,↓o5];refine o6 (λk=>by rw[y k]) (λk=> ?_) ?_
 .have z:a= []:=by trivial
  subst z;refine aE @a5r ?_;exact⟨b,U.a1,au.nil U.a1⟩
 .refine aE @nX ?_;have C:bN b 76 (.J a c)=some (a.length,flat a):=by have D:=a4O.2 λh E=>decide_eq_true (x h E);simp only[bN,D,if_true]
  refine fg (au.zero (U.a1)) a8Z C a8Z (by simp only[a4G];omega) (by simp only[a4G];omega) λr d k=> ?_;refine eA ?_;exact⟨d,U.a1,by trivial⟩
theorem a1J (t k:U) (h:List R) (f:R) (y:au t k 76 h f) (G:Nat) (L:h.length=G*76) (a:Nat) (l9:a<=G) (n0:G<=1000) (o:List R) (u:o.length=76) (z:Nat) (v:t z=some (.cells o)):
  AC Tryz.prog 149 [f,.v (.int .i64 (a:Int)),.an z 1 1 76] k λk4 P=>au t P 76 (h.take (a*76)++(o++h.drop (a*76))) k4:=by
 have S:=y.1 _ _ v;have g:((1:Nat):Int)=1:=rfl;have w: ∀P:U,P z=some (.cells o)->bN P 76 (.an z 1 1 76)=some (1,o):=λP y=>by
  simp_all [bN,U.ae,a4x]
 by_cases c1:a=G
 .subst c1;obtain⟨e,E,wl⟩: ∃e,cg 76 f (some (.v (.int .i64 (a:Int)))) none none=some e/\fb f=some (.v (.int .i64 (a:Int))):=by
   rcases y.2 with ⟨i,rfl|rfl⟩|⟨c,b,d,r,rfl,j,C,l,m,k5,A,X⟩
   .rw[i]at L;obtain rfl:a=0:=by rw[a4G]at L;omega
    exact⟨_,Wa,rfl⟩
   .rw[i]at L;obtain rfl:a=0:=by rw[a4G]at L;omega
    exact⟨_,W9,rfl⟩
   .obtain rfl:b=a:=a8Z;obtain⟨e,E,_⟩:=oq (i:=76) (j0:=c) (e2:= .i64) a8Z A;exact⟨e,E,rfl⟩
  refine bd hm Bm a9a ?_;simp -dsimp -implicitDefEqProofs (disch:=first|omega|assumption|(simp only[bk,Nat.reduceAdd];try omega)) only[go_sem,simprocAttr,↓eI,E,wl,g];refine fg y a8Z (w k S) a8Z a8Z a8Z λn1 P n2=> ?_;refine Ci ?_;grind[U.a1,List.take_of_length_le,List.drop_eq_nil_of_le]
 have n3:a<G:=a8Z;obtain⟨c,b,d,r,rfl,j,C,l,m,k5,A,X⟩:=y.an (λi=>by rw[i]at L;simp at L;omega);obtain rfl:b=G:=a8Z;have Y:c≠z:=by rintro rfl;rw[j]at v;cases v
 have B: ¬(a)=(b:Int):=a8Z;refine bd hm Bm a9a ?_;obtain⟨e,E,_,Z⟩:=oq (i:=76) (j0:=c) (e2:= .i64) a8Z A;have n4:=Z k r h C a8Z m;have j9:(h.drop (a*76)).length=(b - a)*76:=by rw[a4N];omega
 have k6:r.take (a*76)=h.take (a*76):=by grind
 by_cases c2:(d)<(b:Int)+1
 .have n:cg 76 (.an c b d 76) none (some (.v (.int .i64 (a)))) none=some (.an c a d 76):=hL a8Z;have k0:(b)+1 -(a)=((b+1 - a:Nat):Int):=a8Z;refine dB (bs @E @B @g @c2 @n @k0) ?_;refine wY C l a8Z a8Z a8Z λp D k7 q s k8 k1=> ?_;have k9:a+(b+1 - a)=b+1:=a8Z;rw[k9]at s k1|-;generalize l0:List.replicate (b+1 - a) _=k2;have l1:k2.flatten.length=(b+1 - a)*76:=by rw[<-l0,kS];rfl
  have l2:p≠c:=by rintro rfl;rw[q]at C;cases C
  have l3:p≠z:=by rintro rfl;rw[q]at S;cases S
  obtain⟨F,k3⟩: ∃F,F=r.take (a*76)++k2.flatten++k7:=⟨_,rfl⟩;have l4:F.length=D*76:=by rw[k3,a4y,a4y,l1,a4z,k1];omega
  have l5:F.take (a*76)=h.take (a*76):=by simp_all
  rw[<-k3];have H:cg 76 (.an p (b+1) D 76) (some (.v (.int .i64 (a)))) none none=some (.bA p (a*76) (b+1 - a) (D - a) 76):=gk a8Z s a8Z;have I:cg 76 (.an p (b+1) D 76) (some (.v (.int .i64 ((a)+1)))) none none=some (.bA p (a*76+76) (b - a) (D -(a+1)) 76):=by have:=gk (i:=76) (b8:=p) (e:=a+1) (e2:= .i64) a8Z s a8Z;grind
  have K:(k.set p (.cells F)) z=some (.cells o):=by rw[U.ao _ _ (a4F l3)];exact S
  have T:=hn (O:=a*76) (j0:=D - a) (i:=b+1 - a) (w _ K) (U.ah k p (.cells F)) a8Z;have M:o.take ((b+1 - a)*76)=o:=a4x a8Z;rw[M]at T;obtain⟨x,V⟩: ∃x,x=putAt F (a*76) o:=⟨_,rfl⟩;have N:x.length=D*76:=by rw[V,eH _ _ _ a8Z,l4]
  rw[<-V]at T;have l6:(k.set p (.cells x)) c=some (.cells r):=by rw[U.ao _ _ (a4F l2)];exact C
  have O:=Z _ r h l6 a8Z m;have W:=hn (O:=a*76+76) (j0:=D -(a+1)) (i:=b - a) O (U.ah k p (.cells x)) a8Z;have Q:(h.drop (a*76)).take ((b - a)*76)=h.drop (a*76):=a4x a8Z;rw[Q]at W;refine dB (gj @E @B @g @c2 @n @k0 @H @I @T @W @U.set_set) ?_;refine⟨_,U.a1,U.af y.1 (U.bF y.1 q),.inr ⟨p,b+1,D,_,rfl,U.bF y.1 q,U.ah _ _ _,?_,?_,?_,s,k8⟩⟩
  .rw[eH _ _ _ a8Z,N]
  .have:=(pn l5 u j9 a8Z).2;rw[show(b+1)*76=a*76+76+(b - a)*76 by omega,V];exact this
  grind
 .have n:cg 76 (.an c b d 76) none (some (.v (.int .i64 ((b)+1)))) none=some (.an c (b+1) d 76):=by rw[show(b)+1=((b+1:Nat):Int) by omega];exact hL a8Z
  have H:cg 76 (.an c (b+1) d 76) (some (.v (.int .i64 (a)))) none none=some (.bA c (a*76) (b+1 - a) (d - a) 76):=gk a8Z a8Z a8Z;have I:cg 76 (.an c (b+1) d 76) (some (.v (.int .i64 ((a)+1)))) none none=some (.bA c (a*76+76) (b - a) (d -(a+1)) 76):=by have:=gk (i:=76) (b8:=c) (v:=b+1) (O:=d) (e:=a+1) (e2:= .i64) a8Z a8Z a8Z;grind
  have l7:r≠ []:=by rintro rfl;simp at l;omega
  have l8:kQ (.an z 1 1 76) (.bA c (a*76+76) (b - a) (d -(a+1)) 76) k=some (.v (.bool false)):=wX rfl rfl (a4F Y) (qo S (by rintro rfl;simp at u)) (qo C l7);have O:bN k 76 (.bA c (a*76) (b+1 - a) (d - a) 76)=some (b+1 - a,(r.drop (a*76)).take ((b+1 - a)*76)):=by simp only[bN,U.ae C];grind
  have W:=hn (O:=a*76+76) (j0:=d -(a+1)) (i:=b - a) O C a8Z;have Q:((r.drop (a*76)).take ((b+1 - a)*76)).take ((b - a)*76)=h.drop (a*76):=by rw[a5L,<-m,a5P];congr 1;omega
  rw[Q]at W;obtain⟨x,V⟩: ∃x,x=putAt r (a*76+76) (h.drop (a*76)):=⟨_,rfl⟩;rw[<-V]at W;have N:x.length=r.length:=by rw[V,eH _ _ _ a8Z]
  have K:(k.set c (.cells x)) z=some (.cells o):=by rw[U.ao _ _ (a4F Y)];exact S
  have T:=hn (O:=a*76) (j0:=d - a) (i:=b+1 - a) (w _ K) (U.ah k c (.cells x)) a8Z;have M:o.take ((b+1 - a)*76)=o:=a4x a8Z;rw[M]at T;refine dB (gj @E @B @g @c2 @n @H @I @l8 @W @T @U.set_set) ?_;refine⟨_,U.a1,U.af y.1 j,.inr ⟨c,b+1,d,_,rfl,j,U.ah _ _ _,?_,?_,?_,a8Z,X⟩⟩
  .rw[eH _ _ _ a8Z,N,l]
  .have:=(pn k6 u j9 a8Z).1;grind
  grind
variable{e1:List aL}
theorem a1K (c:az dy e1 g): ∀a∈g,∃b,a= .agg b/\b.length=76:=λa d=>by
 obtain⟨k,_,T,rfl,h⟩:=c.mem d;exact⟨T,rfl,h.all.1⟩
variable{n b3:R}{f t e4:U}
theorem au.FK (b:au f t 76 (flat g) n) (c:az dy e1 g): ∃a,View t n a (.J g .any)/\f.sub a:=by obtain⟨h,a,d,k,o⟩:=View.dR b;rw[db (c.cells λ_ _=>dy.cells)]at d;grind[xH,a1K]
def cZ (a:List aL) (b:List UInt8):Nat:=(a.takeWhile λc=>c5 c.name b).length
def FL: ∀ {c:List aL}{b:List UInt8}{d:Nat},Place c b d->d=cZ c b
 | [],b,d,a=>by have:=a.1;simpa[cZ] using this
 |o::c,b,0,a=>by
  have:=a.2.2 0 a9a a8Z;simp only[a5f]at this;simp[cZ,this]
 |o::c,b,d+1,a=>by
  have k:=a.2.1 0 a8Z;simp only[a5f]at k;have:=FL ⟨by have:=a.1;simpa using this,λh p=>by have:=a.2.1 (h+1) a8Z;trivial,λh p r=>by have:=a.2.2 (h+1) a9b a8Z;trivial⟩;simp only[cZ,a5Q,k,if_true,a4C];rw[this];rfl
def gE (a:List aL) (b:List UInt8):Bool:=decide (cZ a b<a.length)&&decide ((a.getD (cZ a b) default).name=b)
theorem zn {c:List aL} (d:cx c=true): ∀b a,b<a->a<c.length->c5 (c.getD b default).name (c.getD a default).name=true
 |b,0,h1,_=>by omega
 |b,a+1,h1,p=>by
  have h:=d;simp only[cx,a4A,a4O,a5O,a6g,decide_eq_true_eq]at h;have k:=(h.1 (a+1) p).2.resolve_left a8Z;rw[Nat.add_sub_cancel]at k;rcases a8X b a with o|o
  .exact vc _ _ _ (zn d b a o a8Z) k
  grind
def zo (a:List aL) (c:List R) (h:Own) (b:List UInt8) (r:az dy a c) (k:cx a=true) (d:U):
  AC Tryz.prog 148 [.J c h,bb b] d λo p=>p=d/\o= .aK [.v (.int .i64 (cZ a b:Int)),.v (.bool (gE a b))]:=by
 have z:a.length<=8:=by simp only[cx,a4A,decide_eq_true_eq]at k;omega
 refine(a1H a c h b r a8Z (zn k) d).mono λo p x=> ?_;obtain⟨C,D,y,rfl⟩:=x;obtain rfl:=FL y;trivial
def vf (d:Except Int (List aL)) (a:R):Prop:=
 match d with
 | .error b=>b≠0/\a= .aK [.J [] .nil,.v (.int .i64 b)]
 | .ok h=> ∃c,az dy h c/\a= .aK [.J c .any,.v (.int .i64 0)]
def jZ (a:List aL) (b:aL):Except Int (List aL):=
 if(cx a&&fR b)=true then(if gE a b.name=true then .error 4 else if 8<=a.length then .error 10 else .ok (a.take (cZ a b.name)++b::a.drop (cZ a b.name)))else .error 1
def ka (a:List aL) (b:aL):Except Int (List aL):=
 if(cx a&&fR b)=true then(if gE a b.name=true then .ok (a.set (cZ a b.name) b)else .error 3)else .error 1
def sX (a b:U) (o:Except Int (List aL)) (c:R):Prop:=
 match o with
 | .error d=>a.sub b/\d≠0/\c= .aK [.J [] .nil,.v (.int .i64 d)]
 | .ok p=> ∃h k,az dy p k/\au a b 76 (flat k) h/\c= .aK [h,.v (.int .i64 0)]
def sX.zp {a:Except Int (List aL)} (b:sX f t a n): ∃c d,View t n d c/\f.sub d/\vf a c:=by
 cases a with
 |error x=>exact⟨_,_,View.refl,b.1,b.2⟩
 |ok y=>obtain⟨z,k,h,o,rfl⟩:=b;obtain⟨C,p,r⟩:=au.FK o h;exact⟨_,_,View.aK (a:= []) p,r,k,h,rfl⟩
def a1L (a:List aL) (b:List UInt8):cZ a b<=a.length:=by unfold cZ;have:=congrArg List.length (a5o (p:=λc:aL=>c5 c.name b) (l:=a));rw[a4y]at this;omega
def a1M (a:List aL) (d:List R) (r:Own) (b:aL) (c:List R) (D:en b c) (V:b.Fit) (p:az dy a d) (L: ∀b∈a,b.Fit) (W:a.length<=1000) (x:U):
  AC Tryz.prog 79 [.J d r,.agg c] x λz E=>x.sub E/\vf (jZ a b) z:=by
 have q:AC Tryz.prog 79 [.J d r,.agg c] x λz E=>sX x E (jZ a b) z:= ?_
 .exact q.view λz E s=>s.zp
 have t:=p.len;obtain⟨e,Q,X,Y,Z,j9,k0,k1,k2,k3,k4,k5,k6⟩:=D.all;refine aN hm Lu ?_;refine bp λf u=> ?_;have C:=U.af (Y:= .cells c) (U.a1) u;have aH:=U.ah x f (.cells c);generalize x.set f _=o at*;have v:=U.ae aH;have h:(if(cx a&&fR b)=true then(if gE a b.name=true then .error 4 else if 8<=a.length then .error 10 else .ok (a.take (cZ a b.name)++b::a.drop (cZ a b.name)))else .error 1)=jZ a b:=rfl;generalize jZ a b=k7 at*;cases P:cx a with
 |false=>rw[if_neg (by rw[P];simp)]at h;refine bc (nE a d r p L a8Z o) ?_;rw[<-h];exact⟨_,U.a1,C,a9d,rfl⟩
 |true=>
 cases g:fR b with
 |false=>rw[if_neg (by rw[g];simp)]at h;refine bc (nE a d r p L a8Z o) ?_;refine bc (r7 b c D V o) ?_;rw[<-h];exact⟨_,U.a1,C,a9d,rfl⟩
 |true=>
 rw[if_pos (by rw[P,g];rfl)]at h;refine bc (nE a d r p L a8Z o) ?_;refine bc (r7 b c D V o) ?_;have F:=zo a d r b.name p P o;have w:=a1L a b.name;generalize cZ a b.name=k at*;cases G:gE a b.name with
 |true=>rw[if_pos G]at h;rw[G]at F;refine bc F ?_;rw[<-h];exact⟨_,U.a1,C,a9d,rfl⟩
 |false=>
 rw[if_neg (by rw[G];simp)]at h;rw[G]at F;refine bc F ?_;refine aG (λA=> ?_) λA=> ?_
 .rw[if_pos a8Z]at h;rw[<-h];exact⟨_,U.a1,C,a9d,rfl⟩
 rw[if_neg a8Z]at h;have i:aS 76 [R.agg c]:=λj B=>by rw[a4Q.1 B];exact e
 refine(rK (eP i a9a λy k8=>trivial)).mpr ?_;have v:=U.ae aH;refine aa ?_;refine ai (ve a d r o p W) ?_;intro l m S;have k9:=U.ae (S.1 _ _ aH);refine aa ?_;have H:flat [R.agg c]=c:=by simp[flat,R.cells]
 refine eP i a9a λy n=> ?_;rw[H];have T:=p.cells λ_ _=>dy.cells;have I:au (o.set y (.cells c)) (m.set y (.cells c)) 76 (flat d) l:=S.new n;have K:(flat d).length=a.length*76:=by rw[db T,t]
 have M:=a1J (o.set y (.cells c)) (m.set y (.cells c)) (flat d) l I a.length K k w W c e y (U.ah _ _ _);refine aa ?_;refine ai M ?_;intro z l0 N;refine aa ?_;refine⟨_,U.a1,?_⟩;rw[<-h];have O:x.sub (o.set y (.cells c)):=U.af C (U.bF C (U.bF S.1 n));refine⟨z,d.take k++ .agg c::d.drop k,(p.take k).append ⟨⟨c,rfl,D⟩,p.drop k⟩,?_,rfl⟩;have j:flat (d.take k++ .agg c::d.drop k)=(flat d).take (k*76)++(c++(flat d).drop (k*76)):=by rw[(fU k T).1,(fU k T).2];simp[flat,R.cells]
 rw[j];exact N.base O
variable{e i v O b8 j0:Nat}
theorem au.lF (c:au t f e (flat g) n) (d:aS e g) (y:0<e) (o:i<g.length) (p:A.length=e):
  ∃b h a,n= .an b g.length h e/\f b=some (.cells a)/\i*e+e<=a.length/\au t (f.set b (.cells (putAt a (i*e) A))) e (flat (g.set i (.agg A))) n:=by
 have z:=db d;have C:(i+1)*e<=g.length*e:=a4L _ o;rw[a5F,a7q]at C;obtain⟨b,D,h,a,rfl,r,E,F,G,W,x,L⟩:=c.an (λk=>by rw[k,a4G]at z;omega);obtain rfl:D=g.length:=a6S y a8Z;have j:=a4L e x;refine⟨b,h,a,rfl,E,a8Z,U.af c.1 r,.inr ⟨b,g.length,h,_,rfl,r,U.ah _ _ _,?_,?_,?_,x,L⟩⟩
 .rw[eH _ _ _ a8Z,F]
 .have P:g.set i (.agg A)=g.take i++ .agg A::g.drop (i+1):=a5N .. |>.trans (by rw[if_pos o])
  have S:flat (g.take i++ .agg A::g.drop (i+1))=(flat g).take (i*e)++(A++(flat g).drop ((i+1)*e)):=by rw[(fU (i+1) d).1,(fU i d).2];simp[flat,R.cells]
  have l:(a.take (i*e)).length=i*e:=by rw[a4z];omega
  have T:(i+1)*e=i*e+e:=by grind
  rw[P,S,putAt,p,<-G,a5L,a6f a8Z,T,a5P];have m:(a.take (i*e)++A).length=i*e+e:=by simp_all
  have q:g.length*e=(i*e+e)+(g.length*e -(i*e+e)):=a8Z;grind
 .rw[db (d:=e)]
  .simp
  .intro k V;rcases a6F V with c|rfl
   .exact d k c
   .exact p
theorem a1N (a:List aL) (c:List R) (o:Own) (b:aL) (d:List R) (z:en b d) (S:b.Fit) (k:az dy a c) (L: ∀b∈a,b.Fit) (g:a.length<=1000) (r:U):
  AC Tryz.prog 151 [.J c o,.agg d] r λC D=>r.sub D/\vf (ka a b) C:=by
 have i:AC Tryz.prog 151 [.J c o,.agg d] r λC D=>sX r D (ka a b) C:= ?_
 .exact i.view λC D E=>E.zp
 have j:=k.len;obtain⟨l,u,v,w,A,B,H,I,K,M,N,O,Q⟩:=z.all;refine aN hm NA ?_;refine bp λT m=> ?_;have F:=U.af (Y:= .cells d) (U.a1) m;have aH:=U.ah r T (.cells d);generalize r.set T _=p at*;have X:=U.ae aH;have h:(if(cx a&&fR b)=true then(if gE a b.name=true then .ok (a.set (cZ a b.name) b)else .error 3)else .error 1)=ka a b:=rfl;generalize ka a b=Y at*;cases P:cx a with
 |false=>rw[if_neg (by rw[P];simp)]at h;refine bc (nE a c o k L a8Z p) ?_;rw[<-h];exact⟨_,U.a1,F,a9d,rfl⟩
 |true=>
 cases V:fR b with
 |false=>rw[if_neg (by rw[V];simp)]at h;refine bc (nE a c o k L a8Z p) ?_;refine bc (r7 b d z S p) ?_;rw[<-h];exact⟨_,U.a1,F,a9d,rfl⟩
 |true=>
 rw[if_pos (by rw[P,V];rfl)]at h;refine bc (nE a c o k L a8Z p) ?_;refine bc (r7 b d z S p) ?_;have G:=zo a c o b.name k P p;have W:gE a b.name=true->cZ a b.name<a.length:=λE=>by
  simp only[gE,a4A,decide_eq_true_eq]at E;exact E.1
 generalize cZ a b.name=x at*;cases y:gE a b.name with
 |false=>rw[if_neg (by rw[y];simp)]at h;rw[y]at G;refine bc G ?_;rw[<-h];exact⟨_,U.a1,F,a9d,rfl⟩
 |true=>
 rw[if_pos y]at h;rw[y]at G;have W:=W y;refine bc G ?_;refine ai (ve a c o p k g) ?_;intro Z j9 e;have n:=k.cells λ_ _=>dy.cells;obtain⟨f,q,k0,rfl,s,k1,t⟩:=au.lF e n a8Z (i:=x) a8Z l;have k2:=U.ae (e.1 _ _ aH);have k3:cL 76 (.an f c.length q 76) (.v (.int .i64 (x)))=some (.ptr f (x*76)):=by grind[jz,Int.toNat_natCast]
 have k4:=U.aJ s;refine aa ?_;refine⟨_,U.a1,?_⟩;rw[<-h];exact⟨_,c.set x (.agg d),k.set x ⟨d,rfl,z⟩,t.base F,by rw[j]⟩
theorem a1O (F o:U) (d:List R) (G:R) (L:au F o 76 d G) (r:Nat) (P:d.length=r*76) (a:Nat) (M:a<r) (N:r<=1000):
  AC Tryz.prog 150 [G,.v (.int .i64 (a:Int)),.v (.int .i64 ((a:Int)+1))] o λi j=>au F j 76 (d.take (a*76)++d.drop ((a+1)*76)) i:=by
 obtain⟨c,b,k,x,rfl,S,T,l,V,m,C,n⟩:=L.an (λq=>by rw[q,a4G]at P;omega);obtain rfl:b=r:=a8Z;refine bd hm Ny a9a ?_;have s:(a)+1=((a+1:Nat):Int):=a8Z;rw[s];obtain⟨O,t⟩:=DO (O:=76) (a:=c) (b:=b) (j0:=a) (e:=a+1) (e2:= .i64) (c:= .i64) (d:= .i64) a8Z a8Z C;have u:cg 76 (.an c b k 76) none (some (.v (.int .i64 (a)))) none=some (.an c a k 76):=hL a8Z;obtain⟨Q,v,_,D⟩:=oq (i:=76) (j0:=c) (e:=a+1) (e2:= .i64) a8Z C;have D:=D o x d T a8Z V;have w: ¬(a)=((a+1:Nat):Int):=a8Z;simp -dsimp -implicitDefEqProofs (disch:=first|omega|assumption|(simp only[bk,Nat.reduceAdd];try omega)) only[go_sem,simprocAttr,↓eI,t,u,v,w];refine uj T l D a8Z a8Z a8Z ?_;have A:a+(b -(a+1))=b - 1:=a8Z;rw[A];have W:(d.drop ((a+1)*76)).length=(b -(a+1))*76:=by rw[a4N];omega
 obtain⟨h,y⟩: ∃h,h=putAt x (a*76) (d.drop ((a+1)*76)):=⟨_,rfl⟩;have E:h.length=k*76:=by rw[y,eH _ _ _ a8Z];omega
 have B:h.take ((b - 1)*76)=d.take (a*76)++d.drop ((a+1)*76):=by
  rw[y,putAt];have H:(x.take (a*76)).length=a*76:=by rw[a4z];omega
  rw[show(b - 1)*76=(x.take (a*76)++d.drop ((a+1)*76)).length by rw[a4y,H,W];omega,a7e];grind
 rw[<-y];have I:(o.set c (.cells h)) c=some (.cells h):=U.ah _ _ _;have X:cg 76 (.an c (b - 1) k 76) (some (.v (.int .i64 ((b - 1:Nat))))) (some (.v (.int .i64 ((b))))) none=some (.bA c ((b - 1)*76) (b -(b - 1)) (k -(b - 1)) 76):=Ce a8Z C a8Z;have e: ∀z:List R,z.length=76->kP 76 z (.bA c ((b - 1)*76) (b -(b - 1)) (k -(b - 1)) 76) (o.set c (.cells h))=some ((o.set c (.cells h)).set c (.cells (putAt h ((b - 1)*76) (List.replicate (b -(b - 1)) z).flatten))):=λz Y=>wW I (by rw[E];omega);have p:=ga.all.1;rw[<-jm]at p;have e:=(e _ p).trans a9f;have K:(d.take (a*76)++d.drop ((a+1)*76)).length=(b - 1)*76:=by rw[a4y,a4z,a4N];omega
 clear p y W V m P;refine aa ?_;have p:=ga.all.1;rw[<-jm]at p;refine⟨_,U.a1,?_⟩;generalize f:putAt h ((b - 1)*76) _=g;have cd:g.length=k*76:=by rw[<-f,eH _ _ _ (by rw[kS,p,E];omega),E]
 have ca:g.take ((b - 1)*76)=h.take ((b - 1)*76):=by rw[<-f,putAt,a4J,a5Y (by rw[a4z];omega),a5L,a6H]
 refine⟨U.af L.1 S,.inr ⟨c,b - 1,k,_,rfl,S,U.ah _ _ _,cd,by rw[ca,B],K,a8Z,n⟩⟩
def cI (a:List aL) (b:List UInt8):Except Int (List aL):=
 if cx a=true then(if gE a b=true then .ok (a.take (cZ a b)++a.drop (cZ a b+1))else .error 3)else .error 1
def a1P (a:List aL) (c:List R) (p:Own) (b:List UInt8) (h:az dy a c) (G: ∀S∈a,S.Fit) (L:a.length<=1000) (d:U):
  AC Tryz.prog 81 [.J c p,bb b] d λr y=>d.sub y/\vf (cI a b) r:=by
 have T:AC Tryz.prog 81 [.J c p,bb b] d λr y=>sX d y (cI a b) r:= ?_
 .exact T.view λr y z=>z.zp
 have V:=h.len;refine aN hm Ly ?_;have k:(if cx a=true then(if gE a b=true then .ok (a.take (cZ a b)++a.drop (cZ a b+1))else .error 3)else .error 1)=cI a b:=rfl;generalize cI a b=i at*;cases D:cx a with
 |false=>rw[if_neg (by rw[D];simp)]at k;refine bc (nE a c p h G a8Z d) ?_;rw[<-k];exact⟨_,U.a1,U.a1,a9d,rfl⟩
 |true=>
 rw[if_pos D]at k;refine bc (nE a c p h G a8Z d) ?_;have C:=zo a c p b h D d;have E:gE a b=true->cZ a b<a.length:=λz=>by
  simp only[gE,a4A,decide_eq_true_eq]at z;exact z.1
 generalize cZ a b=o at*;cases x:gE a b with
 |false=>rw[if_neg (by rw[x];simp)]at k;rw[x]at C;refine bc C ?_;rw[<-k];exact⟨_,U.a1,U.a1,a9d,rfl⟩
 |true=>
 rw[if_pos x]at k;rw[x]at C;have E:=E x;refine bc C ?_;refine ai (ve a c p d h L) ?_;intro W e f;have F:=h.cells λ_ _=>dy.cells;have g:(flat c).length=a.length*76:=by rw[db F,V]
 refine aa ?_;refine ai (a1O d e (flat c) W f a.length g o E L) ?_;intro r j P;refine aa ?_;refine⟨_,U.a1,?_⟩;rw[<-k];rw[(fU (o+1) F).1,(fU o F).2,<-oR]at P;exact⟨r,c.take o++c.drop (o+1),(h.take o).append (h.drop (o+1)),P,rfl⟩
variable{s a7:R -> U -> Prop}{K:Ctx}{b5:FuncId}
def fE {d:U->Prop} (h: ∀B a,cv t e B a->d a) (c:AC K.p b5 g f λ_ a=>cv t e B a) (k: ∀b a,cv t e B a->a7 b a)
  (o: ∀b a,d a->s b a=a7 b a:=by intro b f c;simp -dsimp -implicitDefEqProofs (disch:=first|omega|assumption|exact U.tO a9c a9c|(simp only[bk,Nat.reduceAdd];try omega)) only[go_sem,simprocAttr,-List.reduceReplicate,↓eI,tP,tN, *]<;>rfl):nT K b5 g f (bO s ()):=ai c λb a c=>(o b a (h B a c)).mpr (k b a c)
theorem FM (D e:U) (c:Nat) (d:List UInt8) (a:ay) (r x y:Own) (G:cv D c d e) (X:d.length<=1000000000) (f:a.sum.length=32) (n:a.ht):
  AC Tryz.prog 105 [.ptr c 0,.agg (ab a r x y)] e λ_ h=>cv D c (d++dZ a) h:=by
 have Y:=(aW (M:=r) (e6:=x) (h4:=y) f).all;generalize ab a r x y=L at*;obtain⟨Z,j9,k0,q,k1,s,k2⟩:=n;obtain⟨P,t⟩:=a6u q;obtain⟨S,u⟩:=a6u s;have k3: ∀z:List UInt8,(.agg (z.map al))=cG z:=λ_=>rfl;refine aN hm Mg ?_;refine aM λz v=> ?_;obtain⟨w,A,g⟩:=G.new (ob:= .cells L) v;have E: ∀d h,cv (D.set z (.cells L)) c d h->h.read z=some L:=λd h G=>U.ae (G.get w (U.ah _ _ _));refine aa ?_;refine fE E (CF _ _ c _ _ f g a8Z) λ_ i o=> ?_;refine fE E (se _ _ c _ _ a8Z o a9b) λ_ i o=> ?_;refine fE E (se _ _ c _ _ a8Z o (by simp[ks];omega)) λ_ i o=> ?_;refine jI λk4 B=> ?_;have T:az isRow [a.aU,a.aV,a.key] [.J (ad a.aU) r,.J (ad a.aV) x,.J (ad a.key) y]:=⟨⟨_,rfl⟩,⟨_,rfl⟩,⟨_,rfl⟩,trivial⟩;have p: ∀C∈ [a.aU,a.aV,a.key],C.length<=8:=a9b;have H: ∀C:List Int,(du C).length=8*C.length+1:=λC=>by rw[du,a4C,o7]
 have V:dZ a=a.sum++fj P++fj S++ [a.aU,a.aV,a.key].flatMap du:=by rw[dZ,t,u];simp
 obtain⟨k,F⟩: ∃k,[a.aU,a.aV,a.key]=k:=⟨_,rfl⟩;have k5:k.length=3:=by rw[<-F];rfl
 rw[F]at T p V;have I: ∀b,b<=3->((k.take b).flatMap du).length<=65*b:=λb j=>by
  rw[<-F]at p|-;have:=p a.aU a9a;have:=p a.aV a9a;have:=p a.key a9a;rcases(by omega:b=0\/b=1\/b=2\/b=3)with rfl|rfl|rfl|rfl<;>simp[H]<;>omega
 generalize (([.J (ad a.aU) r,.J (ad a.aV) x,.J (ad a.key) y]):List R)=l at*;obtain⟨_,W,K⟩:=o.new (ob:= .buf 1 l.length l.length) B;have W:=(U.set_nil W).1;have k6:=T.len;rw[V,<-a4J,<-a4J,<-a4J];have k7:(d++a.sum++fj P++fj S).length<=1000001000:=by simp[ks];omega
 generalize d++a.sum++fj P++fj S=M at*;clear E F V o g;refine ch [0,26,27] (λb:Nat=> [(28,.v (.int .i64 b))]) (λb h=>b<=3/\cv D c (M++(k.take b).flatMap du) h) (λb=>3 - b) 0 ⟨⟨a8Z,by simpa using K.base (U.af (U.af U.a1 A) W)⟩,aR⟩ ?_;rintro b k8 ⟨j,N⟩ k9;refine aa ?_;refine aG (λO=> ?_) λO=> ?_
 .have m:k[b]? =some (k.getD b []):=by grind
  obtain⟨_,l0,Q,rfl⟩:=T.get m;have l1:=p _ (a4D m);have l2:=I b j;refine aa ?_;refine hN (sf _ _ c _ _ Q a8Z N (by rw[a4y];omega)) λ_ l3 l4=> ?_;refine⟨b+1,⟨a8Z,?_⟩,rfl,a8Z⟩;grind[eQ,List.append_assoc]
 .obtain rfl:b=3:=a8Z;grind[List.take_of_length_le,U.a1]
theorem FN (b:fR e7=true):e7.ht:=by
 simp only[fR,eu,nr,jU,a4A,decide_eq_true_eq,a6g]at b;obtain⟨⟨⟨_,c⟩,a⟩,d,h,P,S,T⟩:=b;rw[if_pos a9d]at a;simp only[a4A,decide_eq_true_eq,a4O,a5O,mj,jU]at a;obtain⟨k,o,p,r,x,y⟩:=qD d;obtain⟨z,C,D,E,F,G⟩:=qD h;refine⟨c.2,a.1.2.2,λV L=> ?_,⟨k,o,a8Z,p,r,x,y⟩,⟨z,C,?_,D,E,F,G⟩⟩
 .obtain⟨W,e,rfl⟩:=a5i L;simp_all
 grind[aA]
theorem mu (a:cx e1=true):(∀b∈e1,b.ht)/\e1.length<=8:=by simp only[cx,a4A,a4O,a5O,decide_eq_true_eq]at a;refine⟨λb c=> ?_,a.2⟩;obtain⟨d,h,rfl⟩:=a5i c;grind[FN,List.getD]
theorem FO (b:List aL) (G:List R) (W:Own) (z:az dy b G) (s: ∀a∈b,a.Fit) (t:b.length<=1000000) (k:U):
  AC Tryz.prog 58 [.J G W] k λe o=>k.sub o/\if cx b=true then∃u,e= .aK [.J ((pB b).map al) u,.v (.int .i64 0)]else e= .aK [.J [] .nil,.v (.int .i64 1)]:=by
 have k2:=z.len;have k3:=λL=>iq L;refine aN hm L0 ?_;refine bc (nE b G W z s t _) ?_;refine aG (λC=> ?_) λC=> ?_
 .trivial
 obtain⟨f,k4⟩:=mu C;refine bp λh v=> ?_;have w:cv k h [] (k.set h (.cells [.J [] .nil,.v (.int .i64 0)])):=⟨.nil,bg.nil U.a1⟩;refine hN (mY k _ h [] (UInt8.ofNat b.length) w a9a) λ_ k5 k6=> ?_;have da:=a0m z f;refine ch [0,4,19,20] (λc:Nat=> [(21,.v (.int .i64 c))]) (λc o=>c<=b.length/\cv k h (UInt8.ofNat b.length::(b.take c).flatMap hh) o) (λc=>b.length - c) 0 ⟨⟨a8Z,by trivial⟩,aR⟩ ?_;rintro c A ⟨k7,x⟩ B;refine aa ?_;refine aG (λH=> ?_) λH=> ?_
 .have g:b[c]? =some (b.getD c default):=by simp_all
  obtain⟨_,k8,T,rfl,r⟩:=z.get g;have p:=f _ (a4D g);have i:=da c;have I:(b.take (c+1)).flatMap hh=(b.take c).flatMap hh++hh (b.getD c default):=by rw[eQ (b:=default) a8Z,a5m];simp
  generalize b.getD c default=a at*;have K:=yz p r.k.1 r.z.1;obtain⟨M,k9,l0,l1,l2,l3,l4,l5,l6,l7,l8,l9,n0⟩:=r.all;obtain⟨_,_,n1,n2⟩:=nG r;have n3:=jy (n:= .agg T) M;have n4:=jm;have n5:=hz (a:=a.aD);have n9:= @pt a.aD;refine aa ?_;refine aM λP L=> ?_;obtain⟨N,O,D⟩:=x.new (ob:= .cells T) L;have E: ∀aP o,cv (k.set P (.cells T)) h aP o->o.read P=some T:=λaP o Q=>U.ae (Q.get N (U.ah _ _ _));have a00: ∀aP:List UInt8,tI (bb aP)=some (.J (aP.map al) .any):=λaP=>rfl;obtain⟨y,S⟩: ∃y,UInt8.ofNat b.length::(b.take c).flatMap hh=y:=⟨_,rfl⟩;rw[S]at D;have a01:y.length<=9000:=by rw[<-S,a4C];omega
  rw[hh,a4y]at K;have a02:=xd a.name;have a03:=p.n;have a04:=p.c;refine aa ?_;refine fE E (CQ _ _ h _ a.name .any a8Z D a8Z) λ_ j D=> ?_;refine fE E (mY _ _ h _ (UInt8.ofNat a.aD.length) D (by rw[a4y];omega)) λ_ a05 X=> ?_;have a06:(y++hT a.name++ [UInt8.ofNat a.aD.length]).length<=10000:=by grind
  have l: ∀d,((a.aD.take d).flatMap hT).length<=200:=λd=>by
   have:=EY (a:=a.aD.take d) λC Y=>p.cs C (a4K Y);rw[a4z]at this;omega
  refine ch [4,6,21,37,38] (λd:Nat=> [(39,.v (.int .i64 d))]) (λd o=>d<=a.aD.length/\cv (k.set P (.cells T)) h (y++hT a.name++ [UInt8.ofNat a.aD.length]++(a.aD.take d).flatMap hT) o) (λd=>a.aD.length - d) 0 ⟨⟨a8Z,by simpa using X⟩,aR⟩ ?_;rintro d a07 ⟨a08,F⟩ B;have a09:=E _ _ F;refine aa ?_;refine aG (λc2=> ?_) λc2=> ?_
  .have m:=l d;have a10:=p.cs (a.aD.getD d []) (by simp_all);refine hN (CQ _ _ h _ (a.aD.getD d []) .any a8Z F (by rw[a4y];omega)) λ_ Z V=> ?_;refine⟨d+1,⟨a8Z,?_⟩,rfl,a8Z⟩;rw[eQ (b:= []) a8Z,a5m,<-a4J];simpa using V
  .obtain rfl:d=a.aD.length:=a8Z;have m:=l a.aD.length;rw[a4S]at F m;have a11:=so r.k.1 p.k;refine fE E (FM _ _ h _ a.bM _ _ _ F (by rw[a4y];omega) r.k.1 p.k) λ_ Z V=> ?_;refine hN (FM _ _ h _ a.cq _ _ _ V (by grind) r.z.1 p.z) λ_ a13 j9=> ?_;refine⟨c+1,⟨a8Z,?_⟩,rfl,a8Z⟩;have k0:=j9.base (U.af U.a1 O);rw[I,<-a5K,S,hh];simpa using k0
 .obtain rfl:c=b.length:=a8Z;have i:=da b.length;rw[a4S]at x i;refine ai (CE k A h _ x (by rw[a4C];omega)) ?_;rintro _ j ⟨n,q,rfl⟩;refine aa ?_;refine bc (CR k j h _ (x.mono q.sub)) ?_;have k1:=U.ar (x.sub v) q.sub
  first|exact⟨n,rfl⟩|exact⟨k1,n,rfl⟩
theorem FP (n k1:U) (h:Nat) (A:ay) (D:List UInt8) (l1:n h=none) (l2:A.In 8) (e:bY n h ⟨dZ A++D,0⟩ k1):
  AC Tryz.prog 175 [.ptr h 0] k1 λq S=>bY n h ⟨D,0⟩ S/\ ∃F G L,q= .agg (ab A F G L):=by
 have eN:=aW (M:= .nil) (e6:= .nil) (h4:= .nil) bj;have a08:=eN.len;have a09:=eN.t37;obtain⟨a,b,c,a10,cm,d⟩:=A;obtain⟨P,l3,l4,l5,l6,l7,l8,l9,a11,n0,a13⟩:=l2;obtain⟨o,rfl⟩:=a6u l9;obtain⟨r,rfl⟩:=a6u n0
 dsimp only at*
 have n1:dZ ⟨a,b,c,(o),(r),d⟩++D=a++(fj o++(fj r++(du b++(du c++(du d++D))))):=by simp[dZ]
 rw[n1]at e;have a14:(cG a).cells=a.map al:=rfl;have a15:(a.map al).length=32:=by simp[P]
 have a16:=cn;have a18:putAt (ab aA .nil .nil .nil) 0 (a.map al)=ab ⟨a,[],[],0,0,[]⟩ .nil .nil .nil:=ue bj P;have a19: ∀(b c) (T V) (d) (F G L),putAt (ab aA .nil .nil .nil) 0 (ab ⟨a,b,c,T,V,d⟩ F G L)=ab ⟨a,b,c,T,V,d⟩ F G L:=λb c T V d F G L=>cB bj P;have cl: ∀(b c) (T V) (d) (F G L),(ab ⟨a,b,c,T,V,d⟩ F G L).length=37/\(ab ⟨a,b,c,T,V,d⟩ F G L).take 37=ab ⟨a,b,c,T,V,d⟩ F G L:=λb c T V d F G L=>by
  have:=aW (w:=⟨a,b,c,T,V,d⟩) (M:=F) (e6:=G) (h4:=L) P;exact⟨this.len,this.t37⟩
 refine aN hm Oo ?_;refine aM λq n2=> ?_;rw[cn];obtain⟨B,k2,e⟩:=e.new (ob:= .cells (ab aA .nil .nil .nil)) n2;refine aa ?_;have k3:=CN _ _ h _ e;rw[CY _ _ P]at k3;refine ai k3 ?_;rintro _ a27 ⟨M,rfl⟩
 dsimp only at M|-
 refine aa ?_;refine aM λz N=> ?_;obtain⟨f,k4,k5⟩:=M.new (ob:= .cells (ab ⟨a,[],[],0,0,[]⟩ .nil .nil .nil)) N;have n3:q≠z:=by rintro rfl;rw[M.get B (U.ah _ _ _)]at N;cases N
 obtain⟨W,H⟩: ∃W,n.set q (.cells (ab aA .nil .nil .nil))=W:=⟨_,rfl⟩;have n4:W h=none:=by rw[<-H,U.ao _ _ (a4F B)];exact l1
 have n5:W q=some (.cells (ab aA .nil .nil .nil)):=by rw[<-H,U.ah]
 have k6:n.sub W:=by rw[<-H];exact U.af U.a1 k2
 rw[H]at k5 k4;have k7: ∀ {g O S},bY (W.set z g) h O S->S z=some g:=λe=>e.get f (U.ah _ _ _);refine aa ?_;have s:=sg _ _ h 1048576 a8Z _ k5;rw[u5 _ a8Z]at s;refine ai s ?_;rintro _ a29 ⟨t,rfl⟩;have a30:=U.aJ (k7 t);have i:putAt (ab ⟨a,[],[],0,0,[]⟩ .nil .nil .nil) 34 [.v (.int .i64 (o))]=ab ⟨a,[],[],(o),0,[]⟩ .nil .nil .nil:=sq P;have t:=t.put (.cells (ab ⟨a,[],[],(o),0,[]⟩ .nil .nil .nil)) f
 dsimp only at t|-
 refine aa ?_;have s:=sg _ _ h 1048576 a8Z _ t;rw[u5 _ a8Z]at s;refine ai s ?_;rintro _ a34 ⟨u,rfl⟩;have a36:=U.aJ (k7 u);have a38:putAt (ab ⟨a,[],[],(o),0,[]⟩ .nil .nil .nil) 35 [.v (.int .i64 (r))]=ab ⟨a,[],[],(o),(r),[]⟩ .nil .nil .nil:=sr P;have u:=u.put (.cells (ab ⟨a,[],[],(o),(r),[]⟩ .nil .nil .nil)) f
 dsimp only at u|-
 refine aa ?_;refine jI λQ n9=> ?_;obtain⟨a00,a01,X⟩:=u.new (ob:= .buf 1 3 3) n9;have Y:z≠Q:=by grind
 have a02:W Q=none:=by rwa[U.ao _ _ (a4F Y)]at a01
 rw[U.dX _ Y]at X;obtain⟨E,I⟩: ∃E,W.set Q (.buf 1 3 3)=E:=⟨_,rfl⟩;rw[I]at X;have Z:W.sub E:=by rw[<-I];exact U.af U.a1 a02
 have a03:E h=none:=by rw[<-I,U.ao _ _ (a4F a00)];exact n4
 have a04:E z=none:=by rw[<-I,U.ao _ _ Y];exact k4
 have j: ∀ {g O S},bY (E.set z g) h O S->S z=some g:=λe=>e.get f (U.ah _ _ _);have j9: ∀g,(E.set z g) h=none:=λg=>by rw[U.ao _ _ (a4F f)];exact a03
 let a05:Nat->ay:=λk=>⟨a,if 0<k then b else [],if 1<k then c else [],(o),(r),if 2<k then d else []⟩
 let a06:Nat->List UInt8:=λk=>if k=0 then du b++(du c++(du d++D))else if k=1 then du c++(du d++D)else if k=2 then du d++D else D;refine ch [0,2,3,20,21] (λk:Nat=> [(22,.v (.int .i64 k))]) (λk S=>k<=3/\ ∃x y i,bY (E.set z (.cells (ab (a05 k) x y i))) h ⟨a06 k,0⟩ S) (λk=>3 - k) 0 ⟨⟨a8Z,.nil,.nil,.nil,X⟩,aR⟩ ?_;rintro k K ⟨a42,x,y,m,p⟩ a43;refine aa ?_;refine aG (λa07=> ?_) λa07=> ?_
 .have k0:=U.aJ (j p);rcases(by omega:k=0\/k=1\/k=2)with rfl|rfl|rfl
  .have p:bY (E.set z (.cells (ab ⟨a,[],[],(o),(r),[]⟩ x y m))) h ⟨du b++(du c++(du d++D)),0⟩ K:=p;have k0:=U.aJ (j p);have l:=pc _ _ h 8 a8Z _ (j9 _) p;rw[pf b 8 _ l6 a8Z l3]at l;refine aa ?_;refine ai l ?_;rintro _ k8 ⟨C,k9,rfl⟩;have l0:=U.aJ (j C);have v:=λx y i w=>Db (w:=⟨a,[],[],(o),(r),[]⟩) (a:=x) (M:=y) (e6:=i) (h4:=w) (q:=b) P
   dsimp only at v C|-
   refine aa ?_;exact⟨1,⟨a8Z,_,_,_,C.put _ f⟩,rfl,a8Z⟩
  .have p:bY (E.set z (.cells (ab ⟨a,b,[],(o),(r),[]⟩ x y m))) h ⟨du c++(du d++D),0⟩ K:=p;have k0:=U.aJ (j p);have l:=pc _ _ h 8 a8Z _ (j9 _) p;rw[pf c 8 _ l7 a8Z l4]at l;refine aa ?_;refine ai l ?_;rintro _ k8 ⟨C,k9,rfl⟩;have l0:=U.aJ (j C);have v:=λx y i w=>Dc (w:=⟨a,b,[],(o),(r),[]⟩) (M:=x) (a:=y) (e6:=i) (h4:=w) (q:=c) P
   dsimp only at v C|-
   refine aa ?_;exact⟨2,⟨a8Z,_,_,_,C.put _ f⟩,rfl,a8Z⟩
  .have p:bY (E.set z (.cells (ab ⟨a,b,c,(o),(r),[]⟩ x y m))) h ⟨du d++D,0⟩ K:=p;have k0:=U.aJ (j p);have l:=pc _ _ h 8 a8Z _ (j9 _) p;rw[pf d 8 _ l8 a8Z l5]at l;refine aa ?_;refine ai l ?_;rintro _ k8 ⟨C,k9,rfl⟩;have l0:=U.aJ (j C);have v:=λx y i w=>ss (w:=⟨a,b,c,(o),(r),[]⟩) (M:=x) (e6:=y) (a:=i) (h4:=w) (q:=d) P
   dsimp only at v C|-
   refine aa ?_;exact⟨3,⟨a8Z,_,_,_,C.put _ f⟩,rfl,a8Z⟩
 .obtain rfl:k=3:=a8Z;have p:bY (E.set z (.cells (ab ⟨a,b,c,(o),(r),d⟩ x y m))) h ⟨D,0⟩ K:=p;have a47:=U.ae (j p);have a48:=U.aJ (p.get B (by rw[U.ao _ _ n3];exact Z _ _ n5));have cV:=cl b c o r d x y m;refine aa ?_;have C:=p.other (ob:= .cells (ab ⟨a,b,c,(o),(r),d⟩ x y m)) B;refine⟨_,U.a1,C.base ?_,_,_,_,rfl⟩;exact U.af (U.af (U.ar k6 Z) (U.bF (U.ar k6 Z) a04)) k2
theorem a1Q (a b:Nat) (d:a<=b) (h:b<=1048576) (c:List UInt8):fv b ⟨fj a++c,0⟩=(a,⟨c,0⟩):=by have k:=qz (fj a) c;grind[ks,fv,fi,fj,UInt8.toNat_ofNat',Nat.shiftRight_eq_div_pow]
def FQ (a:List UInt8) (b:Nat) (d:a.length<=b) (h:b<=1048576) (c:List UInt8):qy b ⟨hT a++c,0⟩=(a,⟨c,0⟩):=by unfold qy;rw[hT,a4J,a1Q _ _ d h,qz];rfl
structure aL.In (t:aL):Prop where
 le:t.ht
 k:t.bM.In 8
 z:t.cq.In 8
def sY {a:List (List UInt8)}:aS 1 (bE a):=λc b=>by obtain⟨_,_,rfl⟩:=a4R.1 b;rfl
theorem a1R (V N:U) (p:Nat) (i:aL) (y:List UInt8) (l1:V p=none) (l2:i.In) (D:bY V p ⟨hh i++y,0⟩ N):
  AC Tryz.prog 110 [.ptr p 0] N λW E=>bY V p ⟨y,0⟩ E/\dy i W:=by
 obtain⟨h,a,e,F⟩:=i;obtain⟨⟨l3,a13,a3,_,_⟩,G,L⟩:=l2
 dsimp only at*
 have l4:hh ⟨h,a,e,F⟩++y=hT h++(UInt8.ofNat a.length::(a.flatMap hT++(dZ e++(dZ F++y)))):=by simp[hh]
 rw[l4]at D;have a14:=jm;refine aN hm Mq ?_;refine aM λW l5=> ?_;rw[jm];obtain⟨j,O,D⟩:=D.new (ob:= .cells eL) l5;refine aa ?_;have f:=CT _ _ p 16 a8Z _ D;rw[FQ _ _ l3 a8Z]at f;refine ai f ?_;rintro _ a15 ⟨g,t,_,rfl⟩;have a16:= @p1 h t
 dsimp only at g|-
 refine aa ?_;have u: ∀(z) b c k,c.length=37->k.length=37->(bb h::R.J (bE z) b::(c++k)).length=76/\(bb h::R.J (bE z) b::(c++k)).take 76=bb h::R.J (bE z) b::(c++k)/\putAt eL 0 (bb h::R.J (bE z) b::(c++k))=bb h::R.J (bE z) b::(c++k):=λz b c k g l=>by
  have l6:(bb h::R.J (bE z) b::(c++k)).length=76:=by simp[g,l]
  exact⟨l6,a4x a8Z,rS (by trivial)⟩
 obtain⟨o,Q⟩: ∃o,ab aA .nil .nil .nil=o:=⟨_,rfl⟩;have v:o.length=37:=by rw[<-Q];rfl
 have a18:=ga.all.1;refine aM λP w=> ?_;obtain⟨S,X,l⟩:=g.new (ob:= .cells (bb h:: .J [] .nil::(o++o))) w;have l7:=u [] .nil o o v v;rw[show bE []= []from rfl]at l7;have Y:W≠P:=by rintro rfl;rw[g.get j (U.ah _ _ _)]at w;cases w
 obtain⟨r,m⟩: ∃r,V.set W (.cells eL)=r:=⟨_,rfl⟩;have l8:r p=none:=by rw[<-m,U.ao _ _ (a4F j)];exact l1
 have l9:r W=some (.cells eL):=by rw[<-m,U.ah]
 have Z:V.sub r:=by rw[<-m];exact U.af U.a1 O
 rw[m]at l X;rw[Q];refine aa ?_;have j9:=pa _ _ p _ l;rw[qA]at j9;have n0:(UInt8.ofNat a.length).toNat=a.length:=by rw[a5D];omega
 have a19:min (a.length:Int) 8=(a.length):=a8Z;refine ai j9 ?_;rintro _ a27 ⟨A,rfl⟩;obtain⟨n1,A⟩:=A;rw[n0];refine aa ?_;have a29: ∀x B,((r.set P x).set p B) p=some B:=λx B=>U.ah _ _ _;have k0: ∀x,(r.set P x) p=none:=λx=>by rw[U.ao _ _ (a4F S)];exact l8
 have T: ∀ {x n2 E},bY (r.set P x) p n2 E->E P=some x:=λD=>D.get S (U.ah _ _ _);refine ch [0,2,3,11] (λd:Nat=> [(12,.v (.int .i64 d))]) (λd E=>d<=a.length/\ ∃b t,bg ((r.set P (.cells (bb h:: .J (bE (a.take d)) b::(o++o)))).set p (hS ⟨(a.drop d).flatMap hT++(dZ e++(dZ F++y)),0⟩ t)) E 1 (bE (a.take d)) b) (λd=>a.length - d) 0 ⟨⟨a8Z,.nil,n1,bg.nil A⟩,aR⟩ ?_;rintro d n3 ⟨a30,b,a34,k1⟩ a36;have n:=dd.rs k1;have n4:=U.ae (T n);refine aa ?_;refine aG (λn5=> ?_) λn5=> ?_
 .have n9:=a3 (a.getD d []) (by simp_all);have a00:=drop_cons (a:=a) (b:= []) (e:=d) a8Z;have k2:=eQ (a:=a) (b:= []) (e:=d) a8Z;have f:=CT _ _ p 16 a8Z _ n.full;rw[a00,a4Y,a4J,FQ _ _ n9 a8Z]at f;refine ai f ?_;rintro _ a01 ⟨q,a02,_,rfl⟩;obtain⟨a38,H⟩:=dd.step k1 (k0 _) q;have a03:=T (dd.rs H);have a42:=U.ae a03;have a43:= @p1 (a.getD d []) a02
  dsimp only at H|-
  refine aa ?_;refine jI (λa47 a04=> ?_) (d:=sY (a:= [_]));have a48:=λd=>hz (a:=a.take d);refine dY (H.mono (U.af U.a1 a04)) sY (sY (a:= [_])) (by simp[hz];omega) (by simp[hz];omega) λa05 a52 C=> ?_;have k3:bE (a.take d)++ [bb (a.getD d [])]=bE (a.take (d+1)):=by rw[k2];simp[bE]
  rw[k3]at C|-;clear k2 k3;have a06:=U.aJ (T (dd.rs C));refine aa ?_;have s:=C.set (ob:= .cells (bb h:: .J (bE (a.take (d+1))) a05::(o++o))) (by rw[U.ao _ _ S];exact U.ah _ _ _);rw[U.dX _ (a4F S),U.set_set]at s;grind
 .obtain rfl:d=a.length:=a8Z;rw[a7I,a4S]at n;rw[a4S]at n4;have k4:=k0;have a07:=FP _ n3 p e (dZ F++y) (k4 _) G n;refine ai a07 ?_;rintro _ a01 ⟨q,k5,k6,k7,rfl⟩;obtain⟨c,I⟩: ∃c,ab e k5 k6 k7=c:=⟨_,rfl⟩;have K:c.length=37:=by rw[<-I];exact(aW G.sum).len
  have a56:=U.aJ (T q);have a57:putAt (bb h::R.J (bE a) b::(o++o)) 2 c=bb h::R.J (bE a) b::(c++o):=by simp only[putAt,a7r,a6s,K,a5K,a4P,Nat.reduceAdd,a6c];simp_all
  have a08:=q.put (.cells (bb h:: .J (bE a) b::(c++o))) S;have a61:=u a b c o K v;rw[I];refine aa ?_;have a09:=FP _ _ p F y (k4 _) L a08;refine ai a09 ?_;rintro _ a62 ⟨C,k8,k9,l0,rfl⟩;obtain⟨k,M⟩: ∃k,ab F k8 k9 l0=k:=⟨_,rfl⟩;have a10:k.length=37:=by rw[<-M];exact(aW L.sum).len
  have a06:=U.aJ (T C);have a63:putAt (bb h::R.J (bE a) b::(c++o)) 39 k=bb h::R.J (bE a) b::(c++k):=by simp_all [putAt]
  have s:=C.put (.cells (bb h:: .J (bE a) b::(c++k))) S;have a65:=u a b c k K a10;have a68:=U.aJ (C.get j (by rw[U.ao _ _ Y];exact l9));have a69:=U.ae (T s);have a71:=a4F Y;rw[M];refine aa ?_;have a11:=s.other (ob:= .cells (bb h:: .J (bE a) b::(c++k))) j;refine⟨_,U.a1,a11.base ?_,_,rfl,⟨b,k5,k6,k7,k8,k9,l0,by rw[I,M]⟩,⟨G.sum,?_⟩,⟨L.sum,?_⟩,(show a.length<=1000000 by omega)⟩
  .exact U.af (U.af Z (U.bF Z X)) O
  .exact⟨a5u G.o8 a9d,a5u G.o9 a9d,a5u G.oa a9d⟩
  .exact⟨a5u L.o8 a9d,a5u L.o9 a9d,a5u L.oa a9d⟩
def aL.In.fit (a:e7.In):e7.Fit:=⟨by have:=a.le.n;omega,by have:=a.le.c;omega,λb c=>by have:=a.le.cs b c;omega⟩
theorem a1S (b: ∀c∈e1,c.In):(e1.flatMap hh).length<=1000*e1.length:=by
 induction e1 with
 |nil=>simp
 |cons d e1 ih=>have a:=b d a9a;have:=yz a.le a.k.sum a.z.sum;grind
theorem a1T (a:List aL) (x:Own) (o:U) (P:cx a=true) (y: ∀z∈a,z.In):
  AC Tryz.prog 59 [.J ((pB a).map al) x] o λl C=> ∃c S,bg o C 76 c S/\az dy a c/\l= .aK [.J c S,.v (.int .i64 0)]:=by
 obtain⟨j9,k0⟩:=mu P;have k1:=a1S y;have k2:(pB a).length<=9000:=by rw[pB,a4C];omega
 refine mS λk3=> ?_;have m:x= .nil->pB a= []:=λn=>by simp_all
 refine aN hm L2 ?_;have q:(UInt8.ofNat a.length).toNat=a.length:=by rw[a5D];omega
 have k4:min (a.length:Int) 9=(a.length):=a8Z;refine ai (CH (pB a) x o m a8Z) ?_;rintro _ k5 ⟨k,D,rfl,s⟩;refine aa ?_;have V:=pa _ _ k _ s;rw[pB,qA]at V;refine ai V ?_;rintro _ k6 ⟨⟨t,u⟩,rfl⟩;rw[q];refine aa ?_;refine ch [0,4,13] (λb:Nat×List R×Own=> [(14,.v (.int .i64 b.1)),(5,.J b.2.1 b.2.2)]) (λb C=>b.1<=a.length/\az dy (a.take b.1) b.2.1/\ ∃v,bg (o.set k (hS ⟨(a.drop b.1).flatMap hh,0⟩ v)) C 76 b.2.1 b.2.2) (λb=>a.length - b.1) (0,[],.nil) ⟨⟨a8Z,trivial,t,bg.nil u⟩,aR⟩ ?_;rintro⟨d,c,W⟩ e ⟨w,h,k7,p⟩ k8
 dsimp only at w h p|-
 have E:=dd.rs p;have k9:c.length=d:=by rw[h.len,a4z];omega
 refine aa ?_;refine aG (λA=> ?_) λA=> ?_
 .have l0:=drop_cons (a:=a) (b:=default) (e:=d) a8Z;have B:=eQ (a:=a) (b:=default) (e:=d) a8Z;have H:=y (a.getD d default) (by simp_all);have I:=a1R (e.del k) e k (a.getD d default) ((a.drop (d+1)).flatMap hh) (by simp[U.del]) H (by have:=E.full;grind);refine ai I ?_;rintro l1 f ⟨F,g⟩;obtain⟨i,G⟩:=dd.step p D F;have K:=g;obtain⟨T,rfl,M⟩:=g;have N:=M.all.1;refine aa ?_;refine jI (λl2 O=> ?_);refine dY (G.mono (U.af U.a1 O)) (h.cells λ_ _ L=>by obtain⟨_,rfl,L⟩:=L;exact L.all.1) (λn r=>by rw[a4Q]at r;subst r;exact N) a9b a9b λQ l3 X=> ?_;refine aa ?_;refine⟨(d+1,c++ [.agg T],Q),⟨by simp only;omega,?_,i,X⟩,⟨rfl,rfl⟩,by simp only;omega⟩;simp only[B];exact h.snoc K
 .obtain rfl:d=a.length:=a8Z;rw[a7I]at E;rw[a4S]at h;have r:=CO _ _ k _ E.full;refine ai r ?_;rintro _ f ⟨F,rfl⟩;have l4:(pb ⟨List.flatMap hh [],0⟩).e=0:=rfl;refine aa ?_;have j:=FO a c W h (λz Y=>(y z Y).fit) a8Z f;simp only[P,if_true]at j;refine ai j ?_;rintro _ l5 ⟨Z,l6,rfl⟩;refine aa ?_;refine bc (CX _ _ _ _ _ a8Z) ?_;obtain⟨i,G⟩:=dd.step p D F;exact⟨_,U.a1,c,W,(G.base (U.af U.a1 D)).mono Z,h,rfl⟩
theorem a1U (a:List (List UInt8)) (d:Own) (c:U) (C:a.length<=1000000):
  AC Tryz.prog 80 [.J (bE a) d] c λh k=>c.sub k/\ ∃o,h= .J (bE a) o:=by
 have D:=hz (a:=a);refine mS λE=> ?_;have p:d= .nil->bE a= []:=λF=>by simp_all
 refine bd hm Lw a9a ?_;simp -dsimp -implicitDefEqProofs (disch:=first|omega|assumption|(simp only[bk,Nat.reduceAdd];try omega)) only[go_sem,simprocAttr,↓o5];refine o6 (λb=>by rw[p b]) (λb=> ?_) ?_
 .have r:bE a= []:=by trivial
  rw[r];simp -dsimp -implicitDefEqProofs (disch:=first|omega|assumption|(simp only[bk,Nat.reduceAdd];try omega)) only[go_sem,simprocAttr,a5r];exact⟨c,U.a1,U.a1,_,rfl⟩
 .simp -dsimp -implicitDefEqProofs (disch:=first|omega|assumption|(simp only[bk,Nat.reduceAdd];try omega)) only[go_sem,simprocAttr];refine dc U.a1 (by simp[aS]) λG L x=> ?_;simp -dsimp -implicitDefEqProofs (disch:=first|omega|assumption|(simp only[bk,Nat.reduceAdd];try omega)) only[go_sem,simprocAttr];refine dY x (λ_ b=>by cases b) sY (by rw[a4G];omega) (by rw[a4G];omega) λP y z=> ?_;simp -dsimp -implicitDefEqProofs (disch:=first|omega|assumption|(simp only[bk,Nat.reduceAdd];try omega)) only[go_sem,simprocAttr,a4P];exact⟨y,U.a1,z.sub,_,rfl⟩
structure cO (b:U) (a gz c:Nat) (h:ag) (l:List aL):Prop where
 gq:bB b gz c h
 x: ∃d o,b a=some (.cells [.ptr gz 0,.J d o])/\az dy l d
 ly:a≠gz
 lz:a≠c
def cA (c d h:Nat) (k o:U):Prop:= ∀a b,a≠c->a≠d->a≠h->k a=some b->o a=some b
theorem cA.of {lM:Nat}{s:U} (a:s.sub f):cA e i lM s f:=λb c _ _ _ d=>a b c d
def cA.ext (a:Ext e i f t):cA v e i f t:=λb c _ d h k=>a b c d h k
theorem cA.trans (k:cA e i v f t) (o:cA e i v t e4):cA e i v f e4:=λa b c d h p=>o a b c d h (k a b c d h p)
variable{Y:bq}
def cA.zq (b:cA e i v f t):cA e i v f (t.set e Y):=λc d a h k o=>by rw[U.ao _ _ a];exact b c d a h k o
variable{H:ag}
def cO.sub (a:cO f e i v H e1) (b:f.sub t):cO t e i v H e1:=⟨a.gq.mono b,by obtain⟨c,d,h,k⟩:=a.x;exact⟨c,d,b _ _ h,k⟩,a.ly,a.lz⟩
variable{M e6 h4:Own}
def cO.put {b:List aL} (a:cO f e i v H b) (c:az dy e1 g):cO (f.set e (.cells [.ptr i 0,.J g M])) e i v H e1:=⟨a.gq.set ⟨a.ly,a.lz⟩,⟨g,M,U.ah _ _ _,c⟩,a.ly,a.lz⟩
def iL (a:Except Int (List aL)) (b:List aL):Int×List aL:=match a with
 | .error c=>(c,b)
 | .ok d=>(0,d)
def a1V (d:U) (b r x:Nat) (C:ag) (a:List aL) (D:cO d b r x C a) (f: ∀c∈a,c.Fit) (g:a.length<=1000) (h:cN):
  AC Tryz.prog 48 [.ptr b 0,h.V] d λE F=>cO F b r x C (iL (cI a h.d.table) a).2/\cA b r x d F/\E= .v (.int .i64 (iL (cI a h.d.table) a).1):=by
 obtain⟨i,j,y,l⟩:=D.x;obtain⟨⟨G,c,L,P⟩,S,T⟩:=h
 dsimp only
 show AC Tryz.prog _ [.ptr b 0,.agg [al G,bb c,.J (bE L) S,.J (ad P) T]] d _;refine aN hm KI ?_;refine bp λV z=> ?_;have k:=U.af (Y:= .cells [al G,bb c,.J (bE L) S,.J (ad P) T]) (U.a1) z;have s:=U.ae y;have m:b≠V:=by rintro rfl;rw[y]at z;cases z
 have t:=m.symm;refine aa ?_;generalize d.set V _=n at*;refine ai (a1P a i j c l f g n) ?_;rintro E u ⟨o,p⟩;have v:=U.aJ (o _ _ (k _ _ y));have W:=D.sub (U.ar k o);cases e:cI a c with
 |error w=>rw[e]at p;obtain⟨A,rfl⟩:=p;refine aa ?_;exact⟨_,U.a1,W,cA.of (U.ar k o),rfl⟩
 |ok B=>rw[e]at p;obtain⟨H,q,rfl⟩:=p;refine aa ?_;exact⟨_,U.a1,W.put q,(cA.of (U.ar k o)).zq,rfl⟩
def a1W (h:U) (k E F:Nat) (g:ag) (a:List aL) (i:cO h k E F g a) (v: ∀b∈a,b.Fit) (w:a.length<=1000) (d:cN) (A:d.d.Fit):
  AC Tryz.prog 47 [.ptr k 0,d.V] h λj l=>cO l k E F g (iL (jZ a ⟨d.d.table,d.d.aD,aA,aA⟩) a).2/\cA k E F h l/\j= .v (.int .i64 (iL (jZ a ⟨d.d.table,d.d.aD,aA,aA⟩) a).1):=by
 obtain⟨B,H,r,I⟩:=i.x;obtain⟨⟨G,b,c,L⟩,x,P⟩:=d;obtain⟨K,S,M,j9⟩:=A
 dsimp only at*
 show AC Tryz.prog _ [.ptr k 0,.agg [al G,bb b,.J (bE c) x,.J (ad L) P]] h _;refine aN hm KG ?_;refine bp λT V=> ?_;have W:=U.af (Y:= .cells [al G,bb b,.J (bE c) x,.J (ad L) P]) (U.a1) V;have k0:=U.ae r;have N:k≠T:=by rintro rfl;rw[r]at V;cases V
 have k1:=N.symm;refine aa ?_;have aH:=U.ah h T (.cells [al G,bb b,.J (bE c) x,.J (ad L) P]);generalize h.set T _=O at*;refine ai (a1U c x O S) ?_;rintro _ Q ⟨y,m,rfl⟩;have fW:=U.ae (y _ _ (W _ _ r));have k2:=U.ae (y _ _ aH);refine aa ?_;rw[jm];have e:en ⟨b,c,aA,aA⟩ (bb b:: .J (bE c) m::(ab aA .nil .nil .nil++ab aA .nil .nil .nil)):=⟨⟨m,_,_,_,_,_,_,rfl⟩,⟨bj,me⟩,⟨bj,me⟩,S⟩;have n:eL=bb []:: .J [] .nil::(ab aA .nil .nil .nil++ab aA .nil .nil .nil):=rfl;have X: ∀z C o:R,∀p:List R,putAt (z::C::p) 0 [o]=o::C::p:=λ_ _ _ _=>rfl;have k3: ∀z C o:R,∀p:List R,putAt (z::C::p) 1 [o]=z::o::p:=λ_ _ _ _=>rfl;rw[n,X];generalize ab aA .nil .nil .nil++ab aA .nil .nil .nil=k4 at*;have q:=a1M a B H ⟨b,c,aA,aA⟩ _ e ⟨K,S,M⟩ I v w Q;have k5:=e.all.1;clear n e;refine aa ?_;refine ai q ?_;clear q;rintro j k6 ⟨s,D⟩;have Y:=y _ _ (W _ _ r);have k7:=U.aJ (s _ _ Y);have f:=U.ar W (U.ar y s);have t:=i.sub f;cases u:jZ a ⟨b,c,aA,aA⟩with
 |error k8=>rw[u]at D;obtain⟨k9,rfl⟩:=D;refine aa ?_;exact⟨_,U.a1,t,cA.of f,rfl⟩
 |ok l0=>rw[u]at D;obtain⟨l1,Z,rfl⟩:=D;refine aa ?_;exact⟨_,U.a1,t.put Z,(cA.of f).zq,rfl⟩
def mv (c:List aL) (b:cw):Int×Option aL:=match c.find? (λa=>decide (a.name=b.table))with
 |none=>(3,none)
 |some a=>if b.row.length=a.aD.length+1 then(0,some a)else(6,some a)
theorem FR (b:U) (r n q:Nat) (s:ag) (x:List aL) (t:cO b r n q s x) (Y:x.length<=1000) (E:cN) (u:E.d.Fit):
  AC Tryz.prog 82 [.ptr r 0,E.V] b λG v=>b.sub v/\match mv x E.d with
   |(L,none)=>G= .aK [.agg eL,.v (.int .i64 L)]
   |(L,some a)=> ∃T,en a T/\G= .aK [.agg T,.v (.int .i64 L)]:=by
 obtain⟨w,A,P,B⟩:=t.x;obtain⟨⟨y,a,z,c⟩,C,D⟩:=E;obtain⟨Z,j9,k0,k1⟩:=u
 dsimp only at*
 have k2:=bH (q:=c);show AC Tryz.prog _ [.ptr r 0,.agg [al y,bb a,.J (bE z) C,.J (ad c) D]] b _;refine aN hm LA ?_;refine bp λd S=> ?_;refine cW λh V k3 H=> ?_;have k4:=U.ae P;have I:r≠d:=by rintro rfl;rw[P]at S;cases S
 have k5:=I.symm;have K:r≠h:=by rintro rfl;rw[P]at V;cases V
 have k6:=K.symm;refine aa ?_;rw[jm];have k7:=ga.all.1;have W: ∀a T,en a T->putAt eL 0 T=T:=λa T M=>(nG M).2.2.1;have k8:=ga.all.2.1;have k9:=W _ _ ga;generalize i:eL=e at*;have l0:b.sub ((b.set d (.cells [al y,bb a,.J (bE z) C,.J (ad c) D])).set h (.cells e)):=U.af (U.af U.a1 S) V;have aH:((b.set d (.cells [al y,bb a,.J (bE z) C,.J (ad c) D])).set h (.cells e)) d=some (.cells [al y,bb a,.J (bE z) C,.J (ad c) D]):=by rw[U.ao _ _ H,U.ah]
 have aI:=U.ah (b.set d (.cells [al y,bb a,.J (bE z) C,.J (ad c) D])) h (.cells e);generalize (b.set d _).set h _=N at*;refine ai (find_spec x w A a B a8Z N) ?_;rintro G _ ⟨rfl,o⟩;have l1:=U.ae aH;have l2:=U.aJ aI;unfold Found at o;rw[i]at o;clear i;unfold mv
 dsimp only
 cases j:x.find? (λp=>decide (p.name=a))with
 |none=>
  rw[j]at o;obtain rfl:=o;refine aa ?_;refine aM λF k=> ?_;have f:F≠h:=by rintro rfl;rw[aI]at k;cases k
  have O:=f.symm;exact aR
 |some p=>
  rw[j]at o;obtain⟨T,g,rfl⟩:=o;obtain⟨l3,l4,l5,_⟩:=g.all;have l6:=W _ _ g;have l:=λb=>sW p T g b;clear W;refine aa ?_;refine aM λF k=> ?_;have f:F≠h:=by rintro rfl;rw[aI]at k;cases k
  have O:=f.symm;have Q:F≠d:=by rintro rfl;rw[aH]at k;cases k
  have l7:=Q.symm;refine aa ?_;by_cases m:c.length=p.aD.length+1
  .have X:(c.length)=((p.aD.length+1:Nat):Int):=a8Z
   dsimp only
   rw[if_pos m];refine bc (l _) ?_;simp_all
  .have X: ¬(c.length)=((p.aD.length+1:Nat):Int):=a8Z
   dsimp only
   rw[if_neg m];refine bc (l _) ?_;simp_all
def zr (a:U) (b c d:Nat) (h:ag) (k:List aL) (o:cO a b c d h k):
  AC Tryz.prog 26 [.ptr b 0] a λp r=>r=a/\p= .ptr c 0:=by
 obtain⟨y,z,x,C⟩:=o.x;have D:=U.ae x;refine aN hm Kg ?_
 repeat' first|refine aG (λ_=> ?_) λ_=> ?_|trivial
def FT (a:U):AC Tryz.prog 29 [] a λx p=> ∃b c d,x= .ptr b 0/\a.sub p/\a b=none/\a c=none/\a d=none/\cO p b c d ag.new []:=by refine aN hm Km ?_;refine ai (XV a) ?_;rintro _ C ⟨c,d,y,z,rfl,r,h⟩;refine aa ?_;refine aM λb k=> ?_;refine aa ?_;have o:=r.cC k;exact⟨_,U.a1,b,c,d,rfl,U.af h (U.bF h k),U.bF h k,y,z,r.set o,⟨[],.nil,U.ah _ _ _,trivial⟩,o.1,o.2⟩
theorem a1X (b:List aL) (a:List R) (d:Own) (c:U) (h:az dy b a) (p:b.length<=1000):
  AC Tryz.prog 45 [.J a d] c λk o=>c.sub o/\k= .J a .any:=
 (ve b a d c h p).view λk o r=>by
  obtain⟨x,y,z⟩:=au.FK r h;grind
def a1Y (a:U) (o p r:Nat) (x:ag) (d:List aL) (y:cO a o p r x d) (G:d.length<=1000):
  AC Tryz.prog 18 [.ptr o 0] a λL z=>a.sub z/\ ∃b,L= .ptr b 0/\a b=none/\cO z b p r x d:=by
 obtain⟨C,P,D,E⟩:=y.x;have S:=U.ae D;refine aN hm K0 ?_;refine ai (a1X d C P a E G) ?_;rintro _ T ⟨c,rfl⟩;have V:=U.ae (c _ _ D);refine aa ?_;refine aM λb h=> ?_;refine aa ?_;have F:=y.gq.mono c;have k:=F.cC h;exact⟨_,U.a1,U.af c (U.bF c h),b,rfl,U.bF c h,F.set k,⟨C,.any,U.ah _ _ _,E⟩,k.1,k.2⟩
def a1Z (c:U) (p x y:Nat) (z:ag) (a:List aL) (C:cO c p x y z a) (D: ∀h∈a,h.Fit) (k:cx a=true) (E: ∀h∈a,h.In):
  AC Tryz.prog 24 [.ptr p 0] c λo F=> ∃b d,bg c F 76 b d/\o= .J b d/\az dy a b:=by
 obtain⟨b,d,G,L⟩:=C.x;have g:=U.ae G;have i:=(mu k).2;refine aN hm Kc ?_;refine ai (FO a b d L D a8Z c) ?_;rintro o P ⟨S,r⟩;rw[if_pos k]at r;obtain⟨T,rfl⟩:=r;refine aa ?_;refine ai (a1T a T P k E) ?_;rintro o j ⟨V,W,e,f,rfl⟩;refine aa ?_;exact⟨_,U.a1,V,W,e.base S,rfl,f⟩
def FU (b:U) (d o p:Nat) (r:ag) (a:List aL) (x:cO b d o p r a) (y: ∀h∈a,h.Fit) (z:cx a=true) (C: ∀h∈a,h.In):
  AC Tryz.prog 24 [.ptr d 0] b λD E=>b.sub E/\ ∃c k,D= .J c k/\az dy a c:=
 (a1Z b d o p r a x y z C).mono λ_ _ ⟨c,k,F,G⟩=>⟨F.sub,c,k,G⟩
variable{w j2:ay}
theorem en.FV (b:en e7 g) (a:w.sum.length=32) (c:w.cz):en ⟨e7.name,e7.aD,w,e7.cq⟩ (putAt g 2 (ab w M e6 h4)):=by obtain⟨⟨d,h,k,o,p,r,x,rfl⟩,⟨y,D⟩,z,C⟩:=b;have E:=(aW (M:=h) (e6:=k) (h4:=o) y).len;have F:=(aW (M:=M) (e6:=e6) (h4:=h4) a).len;refine⟨⟨d,M,e6,h4,p,r,x,?_⟩,⟨a,c⟩,z,C⟩;grind[putAt,ab,List.drop_left']
theorem en.FW (k:en e7 g) (a:w.sum.length=32) (o:w.cz):en ⟨e7.name,e7.aD,e7.bM,w⟩ (putAt g 39 (ab w M e6 h4)):=by obtain⟨⟨p,b,c,d,r,x,y,rfl⟩,⟨h,z⟩,⟨C,E⟩,D⟩:=k;have F:=(aW (M:=b) (e6:=c) (h4:=d) h).len;have G:=(aW (M:=M) (e6:=e6) (h4:=h4) a).len;have L:=(aW (M:=r) (e6:=x) (h4:=y) C).len;refine⟨⟨p,b,c,d,M,e6,h4,?_⟩,⟨h,z⟩,⟨a,o⟩,D⟩;grind[putAt,ab,List.take_left',List.drop_eq_nil_of_le,List.length_append]
def fy (p r:ag->Except Int ay×ag) (x:ag) (a:List aL) (b:aL):Int×List aL×ag:=match p x with
 |(.error c,d)=>(c,a,d)
 |(.ok k,d)=>match r d with
  |(.error c,h)=>(c,a,h)
  |(.ok o,h)=>((iL (ka a ⟨b.name,b.aD,k,o⟩) a).1,(iL (ka a ⟨b.name,b.aD,k,o⟩) a).2,h)
def jn (a c:Nat) (h:FuncId) (k:ag->Except Int ay×ag) (o:ay) (p:List Int) (r:Nat):Prop:=
 ∀(b:U) (d:ag) (x y z C:Own),bB b a c d->AC Tryz.prog h [.ptr a 0,.agg (ab o x y z),.J (ad p) C,.v (.int .i64 (r:Int))] b λD E=>yV b E a c (k d) D
theorem FX (G:U) (h T V:Nat) (y:ag) (b:List aL) (d:cO G h T V y b) (n9: ∀a∈b,a.Fit) (a00:b.length<=1000) (a:aL) (e:List R) (O:en a e) (Q:a.Fit) (X:List Int) (Y:Own) (Z j9:FuncId) (L P:ag->Except Int ay×ag)
  (a01:gf Tryz.prog Z=true) (a02:gf Tryz.prog j9=true) (k0:jn T V Z L a.bM X (a.aD.length+1)) (k1:jn T V j9 P a.cq X (a.aD.length+1)):
  AC Tryz.prog 83 [.ptr h 0,.agg e,.J (ad X) Y,.bG Z [] [],.bG j9 [] []] G λu l0=>u= .v (.int .i64 (fy L P y b a).1)/\cO l0 h T V (fy L P y b a).2.2 (fy L P y b a).2.1/\cA h T V G l0:=by
 obtain⟨v,S,k2,w⟩:=d.x;have a74:=U.ae k2;obtain⟨a81,a83,a84,a86,a03,a04,a05,a06,a07,a08,a88,a89,a90⟩:=O.all;have a09:=λG=>sW a e O G;have c:(match L y with
  |(.error f,g)=>(f,b,g)
  |(.ok A,g)=>match P g with
   |(.error f,j)=>(f,b,j)
   |(.ok B,j)=>((iL (ka b ⟨a.name,a.aD,A,B⟩) b).1,(iL (ka b ⟨a.name,a.aD,A,B⟩) b).2,j))=fy L P y b a:=rfl
 generalize fy L P y b a=a92 at*;refine aN hm LC ?_;refine bp λz l=> ?_;have l1:h≠z:=by rintro rfl;rw[k2]at l;cases l
 have a94:=l1.symm;have k3:=U.af (Y:= .cells e) (U.a1) l;have bs:=U.ah G z (.cells e);refine bc (a09 _) ?_;have m:=d.gq.cC l;generalize G.set z _=a10 at*;have a11:=d.gq.mono k3;have a13:=k3 _ _ k2;refine fF a01 (k0 a10 y a03 a04 a05 Y a11) ?_;rintro u l2 ⟨n,k4,l3⟩;have ca:=k4 _ _ d.ly d.lz a13;have k5:=k4 _ _ m.1 m.2 bs;have l4:=cA.trans (cA.of (e:=h) k3) (cA.ext k4);generalize L y=a14 at*;obtain⟨a15,g⟩:=a14;cases a15 with
 |error f=>
  obtain⟨l5,a16,C,D,E,q,rfl⟩:=l3
  dsimp only at c n
  have a18:=(aW (M:=C) (e6:=D) (h4:=E) q).all;have H:=lv (M:=C) (e6:=D) (h4:=E) q;refine aa ?_;refine aM λi k=> ?_;refine aa ?_;refine⟨_,U.a1,by rw[<-c],?_,l4.trans (cA.of (U.af U.a1 k))⟩;rw[<-c];exact⟨n.mono (U.af U.a1 k),⟨v,S,U.af U.a1 k _ _ ca,w⟩,d.ly,d.lz⟩
 |ok s=>
  obtain⟨k6,a19,C,D,E,rfl⟩:=l3
  dsimp only at c n
  have a95:=(aW (M:=C) (e6:=D) (h4:=E) k6).all;have H:=lv (M:=C) (e6:=D) (h4:=E) k6;refine aa ?_;refine aM λi k=> ?_;have a27:h≠i:=by rintro rfl;rw[ca]at k;cases k
  have a96:=a27.symm;have a29:z≠i:=by rintro rfl;rw[k5]at k;cases k
  have a97:=a29.symm;have fW:=U.ae ca;have a30:=U.ae k5;refine aa ?_;have I:=U.af (Y:= .cells (ab s C D E)) (U.a1) k;have gU:=U.ah l2 i (.cells (ab s C D E));have df:=I _ _ ca;have a34:=I _ _ k5;have a36:=n.mono I;have l6:=n.cC k;have a38:=l4.trans (cA.of I);generalize l2.set i _=a42 at*;clear fW a30 H;refine fF a02 (k1 a42 g a06 a07 a08 Y a36) ?_;rintro u t ⟨K,M,l7⟩;have ek:=M _ _ d.ly d.lz df;have l8:=M _ _ m.1 m.2 a34;have a43:=M _ _ l6.1 l6.2 gU;have l9:=a38.trans (cA.ext M);generalize P g=a47 at*;obtain⟨cD,j⟩:=a47;cases cD with
  |error f=>
   obtain⟨l5,a16,o,p,r,q,rfl⟩:=l7
   dsimp only at c K
   have a18:=(aW (M:=o) (e6:=p) (h4:=r) q).all;have H:=lv (M:=o) (e6:=p) (h4:=r) q;refine aa ?_;refine aM λF x=> ?_;refine aa ?_;refine⟨_,U.a1,by rw[<-c],?_,l9.trans (cA.of (U.af U.a1 x))⟩;rw[<-c];exact⟨K.mono (U.af U.a1 x),⟨v,S,U.af U.a1 x _ _ ek,w⟩,d.ly,d.lz⟩
  |ok cc=>
   obtain⟨k7,a48,o,p,r,rfl⟩:=l7
   dsimp only at c K
   have a98:=(aW (M:=o) (e6:=p) (h4:=r) k7).all;have H:=lv (M:=o) (e6:=p) (h4:=r) k7;refine aa ?_;refine aM λF x=> ?_;have a52:z≠F:=by rintro rfl;rw[l8]at x;cases x
   have a99:=a52.symm;have a56:i≠F:=by grind
   have b00:=a56.symm;have a57:h≠F:=by rintro rfl;rw[ek]at x;cases x
   have b01:=a57.symm;have b02:=U.ae a43;have b03:=U.aJ l8;have n0:=O.FV (M:=C) (e6:=D) (h4:=E) k6 a19;have k8:=n0.FW (M:=o) (e6:=p) (h4:=r) k7 a48;have b04:=n0.all.1;have b05:=k8.all.1;have b06:=k8.all.2.1;have n1:=a1N b v S ⟨a.name,a.aD,s,cc⟩ _ k8 ⟨Q.n,Q.c,Q.cs⟩ w n9 a00;have fW:=U.ae ek;have b07: ∀W S,W≠F->t W=some S->(t.set F (.cells (ab cc o p r))) W=some S:=λW S a61 k1=>by rw[U.ao _ _ a61];exact k1
   refine aa ?_;generalize putAt (putAt e 2 (ab s C D E)) 39 (ab cc o p r)=n2 at*;have a62:cO ((t.set F (.cells (ab cc o p r))).set z (.cells n2)) h T V j b:=⟨(K.mono (U.af U.a1 x)).set m,⟨v,S,by rw[U.ao _ _ l1];simp_all,w⟩,d.ly,d.lz⟩;have a63:cA h T V G ((t.set F (.cells (ab cc o p r))).set z (.cells n2)):=λW a65 A B a68 k9=>by
    have k0:W≠z:=by rintro rfl;rw[l]at k9;cases k9
    rw[U.ao _ _ k0];exact U.af U.a1 x _ _ (l9 W a65 A B a68 k9)
   generalize (t.set F _).set z _=a69 at*;refine ai (n1 a69) ?_;clear n1;rintro u b08 ⟨n3,N⟩;have n4:=a62.sub n3;obtain⟨b09,b10,ei,b11⟩:=n4.x;have b12:=U.aJ ei;have a71:=a63.trans (cA.of n3);cases n5:ka b ⟨a.name,a.aD,s,cc⟩with
   |error f=>
    rw[n5]at N c;obtain⟨l5,rfl⟩:=N
    dsimp only[iL]at c
    refine aa ?_;grind
   |ok b13=>
    rw[n5]at N c;obtain⟨b14,a73,rfl⟩:=N
    dsimp only[iL]at c
    refine aa ?_;exact⟨_,U.a1,by rw[<-c],by rw[<-c];exact n4.put a73,a71.zq⟩
def vg (a:e1.find? (λe7=>decide (e7.name=B))=some e7):e7∈e1:=List.mem_of_find?_eq_some a
variable{q b6:List Int}
def jn.a2a (c:w.sum.length=32) (d:w.cz) (h:w.size<=2000000) (k:1<=e) (o:e<=8) (p:q.length=e):jn i v 84 (λa=>nC e q a w) w q e:=
 λr a x y z C D=>(a1n r i v a D w x y z c d h q C e k o p).mono λE F b=>⟨b.1,b.2.1,b.2.2.x⟩
def jn.a2b (b:w.sum.length=32) (c:w.cz) (d:w.size<=2000000) (h:1<=e) (k:e<=8) (o:q.length=e):jn i v 86 (λa=>iK e q a w) w q e:=
 λp a r x y z C=>a1q p i v a C w r x y b c d q z e h k o
def jn.a2c (c:w.sum.length=32) (d:w.cz) (h:1<=e) (k:e<=8) (o:q.length=e):jn i v 85 (λa=>jd e q a w) w q e:=
 λp a r x y z C=>(YL p i v a C w r x y c d q z e h k o).mono λD E b=>⟨b.1,b.2.1,b.2.2.x⟩
def jn.a2d (c:w.sum.length=32) (d:w.cz) (h:1<=e) (k:e<=8) (o:q.length=e):jn i v 87 (λa=>lk e q a w) w q e:=
 λp a r x y z C=>(YT p i v a C w r x y c d q z e h k o).mono λD E b=>⟨b.1,b.2.1,b.2.2.x⟩
def jo (a:ag) (c:List aL) (d:cw):Int×List aL×ag:=match mv c d with
 |(_,none)=>(3,c,a)
 |(h,some b)=>if h=0 then fy (λa=>iK (b.aD.length+1) d.row a b.bM) (λa=>lk (b.aD.length+1) d.row a b.cq) a c b else(h,c,a)
theorem a2e (x:U) (p y z:Nat) (c:ag) (d:List aL) (e:cO x p y z c d) (f: ∀b∈d,b.Fit) (s:cx d=true) (a:cN) (t:a.d.Fit):
  AC Tryz.prog 50 [.ptr p 0,a.V] x λE C=>E= .v (.int .i64 (jo c d a.d).1)/\cO C p y z (jo c d a.d).2.2 (jo c d a.d).2.1/\cA p y z x C:=by
 obtain⟨u,k3⟩:=mu s;have h:(match mv d a.d with
  |(_,none)=>(3,d,c)
  |(g,some b)=>if g=0 then fy (λc=>iK (b.aD.length+1) a.d.row c b.bM) (λc=>lk (b.aD.length+1) a.d.row c b.cq) c d b else(g,d,c))=jo c d a.d:=rfl
 generalize jo c d a.d=k4 at*;have i:=λC F=>FR C p y z c d F a8Z a t;have j:a.V= .agg [al a.d.kind,bb a.d.table,.J (bE a.d.aD) a.gu,.J (ad a.d.row) a.dm]:=rfl;obtain⟨k5,k6,v,k7⟩:=e.x;rw[j]at i|-;clear j;have k8:=U.ae v;have k9:=ga.all.1;refine aN hm KM ?_;refine bp λG w=> ?_;have l:=U.af (Y:= .cells [al a.d.kind,bb a.d.table,.J (bE a.d.aD) a.gu,.J (ad a.d.row) a.dm]) (U.a1) w;have aH:=U.ah x G (.cells [al a.d.kind,bb a.d.table,.J (bE a.d.aD) a.gu,.J (ad a.d.row) a.dm]);generalize x.set G _=A at*;have m:=e.sub l;refine ai (i A m) ?_;rintro E l0 ⟨L,k⟩;have n:=L _ _ aH;have l1:=U.ae n;have B:=m.sub L;have H:=U.ar l L;have P: ∀b T,en b T->putAt eL 0 T=T:=λb T F=>(nG F).2.2.1;have l2:=ga.all.2.1;have l3:=P _ _ ga;have S:=jm;generalize eL=l4 at*;unfold mv at k h;cases V:d.find? (λb=>decide (b.name=a.d.table))with
 |none=>
  rw[V]at k h
  dsimp only at k h
  obtain rfl:=k;refine aa ?_;refine aM λW r=> ?_;rw[S];refine aa ?_;grind[U.a1,U.af,cA.of,U.ar]
 |some b=>
  rw[V]at k h;have hm:=vg V
  dsimp only at k h
  by_cases D:a.d.row.length=b.aD.length+1
  .rw[if_pos D]at k h;obtain⟨T,o,rfl⟩:=k;obtain⟨I,K,M,_⟩:=o.all;have N:=P _ _ o;refine aa ?_;refine aM λW r=> ?_;rw[S]
   dsimp only at h
   rw[if_pos rfl]at h;have O:G≠W:=by rintro rfl;rw[n]at r;cases r
   have l5:=O.symm;obtain⟨Q,X⟩:=o.k;obtain⟨Y,Z⟩:=o.z;have q:=u b hm;have l6:=q.c;have l7:=q.k.size;have j9:=B.sub (U.af (Y:= .cells T) U.a1 r);have k0:=FX _ p y z c d j9 f a8Z b T o (f b hm) a.d.row a.dm 86 87 _ _ a9e a9e (jn.a2b Q X a8Z a8Z a8Z D) (jn.a2d Y Z a8Z a8Z D);refine aa ?_;refine ai k0 ?_;rintro E l8 ⟨rfl,k1,k2⟩;refine aa ?_;exact⟨_,U.a1,by rw[<-h];exact k1,(cA.of (U.ar H (U.af U.a1 r))).trans k2⟩
  .rw[if_neg D]at k h;obtain⟨T,o,rfl⟩:=k;obtain⟨I,K,M,_⟩:=o.all;have N:=P _ _ o;refine aa ?_;refine aM λW r=> ?_;rw[S];refine aa ?_
   dsimp only at h
   rw[if_neg a9d]at h;grind[U.a1,U.af,cA.of,U.ar]
def vh (d:ag) (h:List aL) (k:List UInt8) (o:List (List Int)) (b:R):Prop:=match h.find? (λa=>decide (a.name=k))with
 |none=>b= .aK [.J [] .nil,.v (.int .i64 3)]
 |some a=>match eb d (a.aD.length+1) (a.bM.size.toNat+1) a.bM with
  |none=>b= .aK [.J [] .nil,.v (.int .i64 21)]
  |some _=> ∃c,b= .aK [.J c .any,.v (.int .i64 0)]/\az isRow o c
def a2f (c:U) (D L P:Nat) (h:ag) (d:List aL) (S:cO c D L P h d) (l:cx d=true) (k:List UInt8) (r:List (List Int))
  (m: ∀a o,d.find? (λa=>decide (a.name=k))=some a->eb h (a.aD.length+1) (a.bM.size.toNat+1) a.bM=some o->r.Perm o/\r.Pairwise λn q=> ¬fN q n<0):
  AC Tryz.prog 27 [.ptr D 0,bb k] c λE F=>c.sub F/\vh h d k r E:=by
 obtain⟨s,Y⟩:=mu l;obtain⟨t,u,V,v⟩:=S.x;have Z:=U.ae V;have j9:=ga.all.1;have W: ∀a T,en a T->putAt eL 0 T=T:=λa T p=>(nG p).2.2.1;have k0:=W _ _ ga;have e:=jm;have b:=find_spec d t u k v a8Z c;unfold Found at b;unfold vh;generalize eL=k1 at*;refine aN hm Ki ?_;refine ai b ?_;clear b;rintro E k2 ⟨rfl,b⟩;cases x:d.find? (λa=>decide (a.name=k))with
 |none=>rw[x]at b;obtain rfl:=b;refine aa ?_;refine aM λf y=> ?_;rw[e];exact aR
 |some a=>
  rw[x]at b;obtain⟨T,z,rfl⟩:=b;obtain⟨k3,k4,k5,k6,w,A,B,k7,k8,k9,l0,l1,l2⟩:=z.all;have l3:=W _ _ z;have H:=λc=>sW a T z c;have hm:=vg x;have g:=s a hm;have l4:=g.c;have l5:=g.k.size;refine aa ?_;refine aM λf y=> ?_;rw[e];have I:D≠f:=by rintro rfl;rw[V]at y;cases y
  have l6:=I.symm;have G:=U.af (Y:= .cells T) (U.a1) y;have K:=S.sub G;obtain⟨M,N⟩:=z.k;have O:=λF p=>a1t F L P h p a.bM w A B M N a8Z (a.aD.length+1) a8Z a8Z r (λo p=>m a o x p);refine aa ?_;refine bc (H _) ?_;refine ai (O _ K.gq) ?_;rintro E l7 ⟨i,C⟩
  dsimp only
  cases j:eb h (a.aD.length+1) (a.bM.size.toNat+1) a.bM with
  |none=>rw[j]at C;obtain rfl:=C;refine aa ?_;exact U.ar G i
  |some o=>rw[j]at C;obtain⟨Q,rfl,X⟩:=C;refine aa ?_;exact⟨U.ar G i,Q,rfl,X⟩
structure vi (c:ag) (d:Nat) (aU aV:List Int) (a:ay) (rows:List (List Int)):Prop where
 one:rows.length<=1
 sound: ∀b∈rows,nA c d aU aV a b
 full:rows= []->ev aU aV a=true-> ∀b,¬nA c d aU aV a b
def vj (a:ag) (b:Nat) (c d:List Int) (h:ay):Prop:= ∃k,mo a b c d h k/\ev c d h=true/\fk a b k=none
structure zs where
 rows:List (List Int)
 us:List R
 L:R
 bI:List ay
 es:List R
 oD:R
structure vk (c:ag) (d:Nat) (aU aV:List Int) (b:ay) (A:ij) (B:U) (h:Nat) (x:zs) (o:U):Prop where
 at_:dF A B o h x.us x.L x.es x.oD
 vl:az isRow x.rows x.us
 rd: ∀a∈x.rows,a.length=d
 zt:x.rows.length<=1
 pH:az qY x.bI x.es
 qq: ∀a∈x.rows,nA c d aU aV b a
 or: ∀k∈x.bI,mo c d aU aV b k/\ev aU aV b=true/\1<=gA k
 co:x.rows= []->ev aU aV b=true-> ∀a,nA c d aU aV b a-> ∃k∈x.bI,nA c d aU aV k a
 qp:(x.bI.map gA).sum<=2097152
variable{b9:c3}
def mo.snoc {a:ay} (c:mo H e q b6 j2 a) (b:fk H e a=some b9) (d:w∈b9.kids) (h:ev q b6 w=true):mo H e q b6 j2 w:=by
 induction c with
 |refl p=>exact .step b d h (.refl _)
 |step h1 k o _ ih=>exact .step h1 k o (ih b)
theorem zu: ∀ {ks:List ay},(∀a∈ks,1<=gA a)->ks.length<=(ks.map gA).sum
 | [],_=>a5c _
 |a::ks,b=>by
  have:=zu (ks:=ks) λa c=>b a (by simp[c]);grind
def vk.len {c:ag}{d:Nat}{h k:List Int}{o:ay}{p:ij}{r:U}{x:Nat}{b:zs}{y:U} (a:vk c d h k o p r x b y):b.es.length<=2097152:=by rw[a.pH.len];exact a5u (zu λz C=>(a.or z C).2.2) a.qp
theorem a2g (Z:U) (k5 b00:Nat) (m:ag) (b50:bB Z k5 b00 m) (D:ay) (n1 n2 n3:Own) (b01:D.sum.length=32) (b51:D.cz) (p x:List Int) (n4 n5 n9:Own) (F:Nat) (t:cP p x F=true) (c29:D.size<=1048576) (b02:ev p x D=true->1<=D.size):
  AC Tryz.prog 38 [.ptr k5 0,.agg (ab D n1 n2 n3),.agg (ny p x n4 n5 n9),.v (.int .i64 (F:Int))] Z λa30 E=>Z.sub E/\
   ((vj m F p x D/\ ∃c f,a30= .aK [.agg [c,f],.v (.int .i64 0),.v (.int .i64 21)])\/
   ∃rows I y u v,vi m F p x D rows/\au Z E 1 I y/\az isRow rows I/\(∀h∈rows,h.length=F)/\a30= .aK [.agg [y,.v (.int .i64 u)],.v (.int .i64 v),.v (.int .i64 0)]):=by
 obtain⟨b03,c30,b04,a34⟩:=lg t;have b52:=(aW (M:=n1) (e6:=n2) (h4:=n3) b01).all;refine aN hm Kq ?_;refine bp λa36 c31=> ?_;refine cW λb05 c32 c33 c34=> ?_;refine hp λa00 a38 c35 c2 aH aI=> ?_;generalize k6:((Z.set a36 _).set b05 _).set a00 _=g;have a01:Z.sub g:=by subst k6;exact aR
 have bm:g a36=some (.cells (ab D n1 n2 n3)):=by subst k6;exact aR
 have bs:g b05=some (.cells (ny p x n4 n5 n9)):=by subst k6;exact aR
 have bt:g a00=some (.cells [.J [] .nil,.v (.int .i64 0)]):=by subst k6;exact aR
 clear k6;have b53:=b50.mono a01;refine bc (a0Y p x _ _ _ F a8Z g) ?_;rw[t];have b54:=U.ae bm;have b55:=U.ae bs;refine aa ?_;refine aM λd j9=> ?_;have b06:a36≠d:=by rintro rfl;rw[j9]at bm;cases bm
 have b56:=b06.symm;have b57:a00≠d:=by rintro rfl;rw[j9]at bt;cases bt
 have c36:=b57.symm;refine aa ?_
 let a:ij:=⟨k5,p,x,n4,n5,n9,F⟩;have b07:dF a g (g.set d (.cells (lu k5 p x n4 n5 n9 F (.J [] .nil) 0 0 0 (.J [] .nil)))) d [] (.J [] .nil) [] (.J [] .nil):=
  ⟨j9,⟨0,0,0,U.ah _ _ _⟩,au.nil (U.af U.a1 j9),⟨U.af U.a1 j9,(λ_ b=>by cases b),.inl ⟨rfl,.inl rfl⟩⟩,(λb=>by cases b),(λb=>by cases b),λ_ b=>by cases b⟩
 refine ai (Fj a g _ d [] _ [] _ b07 D n1 n2 n3 b01 b51 (by show p.length<=8;omega) a9a) ?_;rintro _ b58 ⟨b59,b60,a42,k0⟩;have a02: ∃b08,vk m F p x D a g d ⟨[],[],.J [] .nil,b08,b60,b59⟩ b58:=by
  have c37:gA D<=2097152:=by unfold gA;omega
  split at k0
  .rename_i w;obtain⟨b61,a43,rfl⟩:=k0;exact⟨[D],a42,trivial,(λ_ b=>by cases b),a5d _,⟨a43,trivial⟩,(λ_ b=>by cases b),(λz a47=>by
    obtain rfl:=a4Q.1 a47;have:=b02 w;exact⟨.refl _,w,by unfold gA;omega⟩),(λ_ _ h r=>⟨D,a9a,r⟩),by trivial⟩
  .rename_i w;subst k0;exact⟨[],a42,trivial,(λ_ b=>by cases b),a5d _,trivial,(λ_ b=>by cases b),(λ_ b=>by cases b),(λ_ b=>absurd b w),a5d _⟩
 obtain⟨b08,a02⟩:=a02;refine aa ?_;refine ch [0,3,8,11] (λ_:zs=> []) (λc E=>vk m F p x D a g d c E) (λc=>(c.bI.map gA).sum) _ ⟨a02,aR⟩ ?_;clear a02 a42 k0 b07 b54 b55 b06 b56 bm bs b52 j9;rintro⟨rows,I,y,b09,a48,c38⟩ E o c39;have i:=o.at_
 dsimp only at i
 have c40:=i;obtain⟨u,v,k7,b10⟩:=i.x;obtain⟨c41,c42⟩:=i.w.len;have fW:=U.ae b10;refine aa ?_;refine aG (λa03=> ?_) λa03=> ?_;rotate_left;have a52:=o.pH.len
 .have c43:=a03;have b11:a48= []:=a4B a8Z;have b62:b09= []:=a4B (by rw[b11]at a52;exact a52.symm);subst b11;subst b62;have b63:=U.aJ (i.l.1 _ _ bt);have c44:=fI i.l;refine aa ?_;refine⟨_,U.a1,U.af (U.ar a01 i.l.1) a38,.inr ⟨rows,I,y,u,v,⟨o.zt,o.qq,λT A h r=> ?_⟩,au.other (i.l.base a01) a38 (λG=> ?_),o.vl,o.rd,rfl⟩⟩
  .obtain⟨z,a47,_⟩:=o.co T A h r;cases a47
  .have:=au.fresh i.l G;rw[bt]at this;cases this
 have a52:=o.pH.len;have b64:a48≠ []:=by grind
 obtain⟨b12,b13,post,b14,b15,c45,b16⟩:=i.sort b64;obtain⟨c46,b17⟩:=oC.of (s:=E) (l:=b12) (g:=b13) (A:=post) (e0:=a48) (b5:=71) (ds:= []) a9f λa04 a56 a57 t=>by
  obtain⟨z,_,T⟩:=o.pH.mem a56;obtain⟨B,_,A⟩:=o.pH.mem t;obtain⟨a03,b65⟩:=a0X T A;exact⟨a03,λa61 _=>b65 _⟩
 rw[b14];clear fW b14;refine ai (Fa a0R a0L a0H a0J a0F a0D a8Z rfl b15 (a5u o.len a8Z) b17 λG K=> ?_) ?_
 .obtain⟨z,_,T,_,L,P,S,c,f,id,b66,rfl⟩:=o.pH.mem K;obtain⟨M,N,_⟩:=uR (M:=L) (e6:=P) (h4:=S) (e:=c) (i:=f) (id:=id) (b1:=b66) T;exact⟨M,by rw[hK,aX,if_pos rfl,N]⟩
 rintro _ _ ⟨a61,k1,rfl⟩;have k8:=b16 a61 k1;obtain⟨b67,k9,b68⟩:=o.pH.perm k1
 match a61,b67,b68,k1,k9,k8 with
 | [],_,_,k1,_,_=>exact absurd k1.length_eq (by simp_all)
 |G::k2,z::O,⟨b69,b18⟩,k1,k9,k8=>
 obtain⟨u,v,k7,a62⟩:=k8.x;obtain⟨C,c47,c48,a63,c49,c50,b70,b19⟩:=k8.tail;generalize W E b12 b13 post (G::k2)=a05 at*;have fW:=U.ae a62;have a65:=U.aJ a62;clear b16 b17 b15 b10;obtain⟨l0,b71,L,P,S,b72,b73,b74,b75,rfl⟩:=b69;have b20:=(uR (M:=L) (e6:=P) (h4:=S) (e:=b72) (i:=b73) (id:=b74) (b1:=b75) l0).2.2.1;rw[hK,b20]at b19;have c51:=(aW (M:=L) (e6:=P) (h4:=S) l0).all;have b21:=lv (M:=L) (e6:=P) (h4:=S) l0;refine aa ?_;refine aM λk3 a68=> ?_;have b22:d≠k3:=by rintro rfl;rw[a62]at a68;cases a68
 have b23:=b22.symm;refine aa ?_;have a69:(a05.set d (.cells (lu a.gz a.aU a.aV a.hs a.eT a.hr a.d y u v k7 C))) k3=none:=(U.ao _ _ b23).trans a68;have b24:=(a63 u v k7).fresh a69;have b25:=(a63 u v k7).mono (U.af (Y:= .cells (ab z L P S)) U.a1 a69);rw[U.dX a05 b22]at b25;have gU:((a05.set k3 (.cells (ab z L P S))).set d (.cells (lu a.gz a.aU a.aV a.hs a.eT a.hr a.d y u v k7 C))) k3=some (.cells (ab z L P S)):=(U.ao _ _ b23).trans (U.ah _ _ _);generalize (a05.set k3 (.cells (ab z L P S))).set d _=a71 at*;clear a69 a63 b70 b19 b20 a65 fW k8 b21;obtain⟨b76,l1⟩:=b25.wide;have b77:res (jY d y C) a71 k3=some (.cells (ab z L P S)):=by
  rw[oE];exact gU;rintro(b|b|b)
  .omega
  .exact b24.l b
  .exact b24.w b
 generalize res (jY d y C) a71=b78 at*;have c52:(b09.map gA).sum=gA z+(O.map gA).sum:=by rw[<-(k9.map gA).sum_nat];simp
 have Q:=λB j=>o.or B (k9.mem_iff.1 j);have b79:=o.qp
 dsimp only at b79
 refine ai (a1g a b78 a71 d I rows y k2 C b76 o.vl o.rd a34 b03 z L P S l0) ?_;rintro _ b26 ⟨n,a57,rfl,b80⟩;have b81:=U.ae (n.l.1 _ _ b77);refine aa ?_;refine aG (λt=> ?_) λt=> ?_
 .have b02:=b80 t;refine⟨⟨rows,I,y,O,k2,C⟩,⟨n.base l1,o.vl,o.rd,o.zt,b18,o.qq,λB j=>Q B (by simp[j]),λb=> ?_,?_⟩,?_⟩;simp_all
  .show(O.map gA).sum<= _;omega
  grind
 have b27:=(b53.mono l1).mono n.l.1;refine ai (xv b26 k5 b00 m b27 z L P S l0 b71 F b04 a34) ?_;rintro a30 X ⟨a73,a06⟩;cases H:fk m F z with
 |none=>
  rw[H]at a06;obtain rfl:=a06;have b28:=a73 _ _ (n.l.1 _ _ (l1 _ _ bt));refine aa ?_;refine aM λl q=> ?_;have b82:a00≠l:=by rintro rfl;rw[b28]at q;cases q
  have c53:=b82.symm;have b63:=U.aJ b28;refine aa ?_;have b29:=U.ar a01 (U.ar l1 (U.ar n.l.1 a73));refine⟨_,U.a1,U.af (U.af b29 (U.bF b29 q)) a38,.inl ⟨⟨z,(Q z a9a).1,(Q z a9a).2.1,H⟩,_,_,rfl⟩⟩
 |some k=>
  rw[H]at a06;obtain⟨c,f,rfl,c54,c55,c56,k4,l2,a07,a74,_,_⟩:=a06;have a08:=n.mono a73;obtain⟨l3,Y,l4,a09⟩:=a08.x;have c57:=fI k4;have c58:=fI l2;refine aa ?_;refine aM λl q=> ?_;have b30:d≠l:=by rintro rfl;rw[a09]at q;cases q
  have b31:=b30.symm;have fW:=U.ae a09;have a65:=U.aJ a09;have a56:bn .add (.int .i64 Y) (.int .i64 1)=some (.int .i64 (IntKind.i64.wrap (Y+1))):=rfl;have b32:=bR.dR k4 a8Z rfl (a07.cells λ_ _=>de.cells);have b83:=b32.len;rw[a07.len]at b83;have a81:(X.set d (.cells (lu a.gz a.aU a.aV a.hs a.eT a.hr a.d y l3 (IntKind.i64.wrap (Y+1)) l4 C))) l=none:=(U.ao _ _ b31).trans q;have a83:=(a08.set l3 (IntKind.i64.wrap (Y+1)) l4).mono (U.af (Y:= .cells [.v (.int .u8 (k.kind.toNat)),c,f]) U.a1 a81);rw[U.dX X b30]at a83;refine aa ?_;have kZ:((X.set l (.cells [.v (.int .u8 (k.kind.toNat)),c,f])).set d (.cells (lu a.gz a.aU a.aV a.hs a.eT a.hr a.d y l3 (IntKind.i64.wrap (Y+1)) l4 C))) l=some (.cells [.v (.int .u8 (k.kind.toNat)),c,f]):=(U.ao _ _ b31).trans (U.ah _ _ _);have b33:=(a08.set l3 (IntKind.i64.wrap (Y+1)) l4).fresh a81;have b84: ∀h a10,X h=some a10-> ¬jY d y C h->((X.set l (.cells [.v (.int .u8 (k.kind.toNat)),c,f])).set d (.cells (lu a.gz a.aU a.aV a.hs a.eT a.hr a.d y l3 (IntKind.i64.wrap (Y+1)) l4 C))) h=some a10:=λh a10 r hm=>by
   have L:h≠d:=λG=>hm (.inl G);have P:h≠l:=by rintro rfl;rw[q]at r;cases r
   rw[U.ao _ _ L,U.ao _ _ P];exact r
  generalize (X.set l (.cells [.v (.int .u8 (k.kind.toNat)),c,f])).set d _=a84 at*;have a86: ∀ {a04:R}{h:Nat},cK a04=some h->b26 h=none-> ¬jY d y C h:=λt r hm=>by
   rcases hm with rfl|G|G
   .obtain⟨_,_,_,b⟩:=n.x;rw[r]at b;cases b
   .exact au.has n.l G r
   .exact n.w.has G r
  have a88:(res (jY d y C) X).sub (res (jY d y C) a84):=λh a10 r=>by
   grind[hm,jY,r2,oE]
  have b85:=(bR.dR (au.res k4 λl5 V=>a86 V (au.fresh k4 V)) a8Z rfl (a07.cells λ_ _=>de.cells)).mono (U.ar (Fl l2.1) a88);have b34:=(bR.dR (au.res l2 λl5 V=>a86 V (U.bF k4.1 (au.fresh l2 V))) a8Z rfl (a74.cells λ_ _=>bu.cells)).mono a88;obtain⟨b86,b87⟩:=a83.wide;have b88:res (jY d y C) a84 l=some (.cells [.v (.int .u8 (k.kind.toNat:Int)),c,f]):=by
   rw[oE];exact kZ;rintro(b|b|b)
   .trivial
   .exact b33.l b
   .exact b33.w b
  generalize res (jY d y C) a84=l6 at*;have b89:=U.ar l1 b87;clear b84 a86 a88 b32 k4 l2 fW a65 a09 a08 a83 kZ a56 q a81 b27 b81;have b35:=(xP H).ok;obtain⟨b90,_,_⟩:=lb b35;refine ch [0,3,8,11,13,79,80] (λc:Nat×(List (List Int))×List R×R=> [(81,.v (.int .i64 (c.1)))]) (λc E=>c.1<=k.rows.length/\dF a l6 E d c.2.2.1 c.2.2.2 k2 C/\az isRow c.2.1 c.2.2.1/\(∀h∈c.2.1,h.length=F)/\c.2.1.length<=1/\(∀h∈c.2.1,nA m F p x D h)/\(c.2.1= []->rows= []/\ ∀h,(h,true)∈k.rows.take c.1->jg p x h=false)) (λc=>k.rows.length - c.1) (0,rows,I,y) ⟨⟨a5d _,b86,o.vl,o.rd,o.zt,o.qq,λb=>⟨b,λh r=>by simp at r⟩⟩,aR⟩ ?_;rintro⟨e,b36,a11,a13⟩ b91 ⟨b92,l7,a89,l8,a14,a15,a16⟩ c59
  dsimp only at b92 l7 a89 l8 a14 a15 a16
  refine aa ?_;refine aG (λc2=> ?_) λc2=> ?_
  .have a90:e<k.rows.length:=a8Z;obtain⟨_,K,a92,rfl⟩:=a07.get (i:=e) (x:=k.rows.getD e ([],false)) (by simp_all);obtain⟨l5,b93,V⟩:=b85.get e _ K;have b37: ∀E,l6.sub E->dn true 2 E l5=some (.agg [.J (ad (k.rows.getD e ([],false)).1) a92,.v (.bool (k.rows.getD e ([],false)).2)]):=λE b=>V.ld E b true 2 a8Z (by simp[hK]);have b94:=b37 b91 l7.l.1;have hm:k.rows.getD e ([],false)∈k.rows:=by simp_all
   have G:=eQ (b:=([],false)) a90;generalize k.rows.getD e ([],false)=b95 at*;obtain⟨a18,a94⟩:=b95
   dsimp only at b94 G hm
   have b38:=b90 _ hm;clear b37 V K;refine aa ?_;refine aM λc60 b96=> ?_;have b97:=l7.mono (U.af (Y:= .cells [.J (ad a18) a92,.v (.bool a94)]) U.a1 b96);refine aa ?_;refine ai (a1f a l6 _ d a11 b36 a13 k2 C b97 a89 l8 b04 a34 b03 a14 a18 a94 a92 b38) ?_;rintro _ c61 ⟨b39,b98,b40,b41,b42,a95⟩;refine aa ?_;have b99:a94=true->jg p x a18=true->nA m F p x D a18:=λT A=>by subst T;exact⟨z,k,(Q z a9a).1,H,hm,A⟩
   split at a95
   .rename_i a19;rw[a4A]at a19;obtain⟨h,rfl,r⟩:=a95;refine⟨(e+1,[h],b39,b40),⟨a90,b41,b42,λc00 b=> ?_,a9a,λc00 b=> ?_,λb=>by cases b⟩,rfl,a8Z⟩
    all_goals
     obtain rfl:=a4Q.1 b;rcases r with rfl|r
    .exact b38
    .exact l8 _ r
    .exact b99 a19.1 a19.2
    .exact a15 _ r
   .rename_i a19;subst a95;refine⟨(e+1,b98,b39,b40),⟨a90,b41,b42,l8,a14,a15,λb=>⟨(a16 b).1,λh r=> ?_⟩⟩,rfl,a8Z⟩;grind
  obtain rfl:e=k.rows.length:=a8Z;rw[a4S]at a16;have c62:=U.ae (l7.l.1 _ _ b88);have c01:=b34.len;rw[a74.len]at c01;refine aa ?_;refine ch [0,3,8,11,90,91] (λc:Nat×List R×R=> [(92,.v (.int .i64 (c.1)))]) (λc E=>c.1<=k.kids.length/\dF a l6 E d a11 a13 c.2.1 c.2.2/\az qY (O++(k.kids.take c.1).filter (ev p x)) c.2.1) (λc=>k.kids.length - c.1) (0,k2,C) ⟨⟨a5d _,l7,by simpa using b18⟩,aR⟩ ?_;rintro⟨s,a96,b43⟩ b44 ⟨c02,a27,l9⟩ c63
  dsimp only at c02 a27 l9
  refine aa ?_;refine aG (λaH=> ?_) λaH=> ?_
  .have b45:s<k.kids.length:=a8Z;obtain⟨_,K,a97,c03,M,N,n0,rfl⟩:=a74.get (i:=s) (x:=k.kids.getD s aA) (by simp_all);obtain⟨l5,b93,V⟩:=b34.get s _ K;have c04:=(aW (M:=M) (e6:=N) (h4:=n0) a97).all;have c64:dn true 37 b44 l5=some (.agg (ab (k.kids.getD s aA) M N n0)):=by have:=V.ld b44 a27.l.1 true 37 a8Z (by rw[hK];omega);rw[this,aX,if_pos rfl,hK,c04.2.1]
   have G:=eQ (b:=aA) b45;have b21:=lv (M:=M) (e6:=N) (h4:=n0) a97;generalize k.kids.getD s aA=a98 at*;have c05:a96.length<=100000000:=by have T:=l9.len;rw[a4y]at T;have A:=zu (ks:=O) λB j=>(Q B (by simp[j])).2.2;grind
   clear V K;refine aa ?_;refine aM λc65 c06=> ?_;have c07:=a27.mono (U.af (Y:= .cells (ab a98 M N n0)) U.a1 c06);refine aa ?_;refine ai (Fj a l6 _ d a11 a13 a96 b43 c07 a98 M N n0 a97 c03 (by show p.length<=8;omega) c05) ?_;rintro _ c66 ⟨c08,b46,k0,b47⟩;refine aa ?_;refine⟨(s+1,b46,c08),⟨b45,k0,?_⟩,rfl,a8Z⟩;show az qY (O++(k.kids.take (s+1)).filter (ev p x)) b46;rw[G,a7A,<-a4J];split at b47
   .rename_i w;obtain⟨b61,a43,rfl⟩:=b47;have w:ev p x a98=true:=w;rw[a8s w];exact l9.snoc a43
   grind
  .obtain rfl:s=k.kids.length:=a8Z;rw[a4S]at l9;obtain⟨c67,c68⟩:=Fm (q:=p) (b6:=x) H;have c09:=uT b35;refine⟨⟨b36,a11,a13,O++k.kids.filter (ev p x),a96,b43⟩,⟨a27.base b89,a89,l8,a14,l9,a15,λB j=> ?_,λT A h r=> ?_,?_⟩,?_⟩
   .rcases a4M.1 j with j|j
    .simp_all
    .obtain⟨a29,a99⟩:=a7w.1 j;obtain⟨_,a04,a57⟩:=nB (c09 B a29);have:=a04 (a57 (yS a99));exact⟨(Q z a9a).1.snoc H a29 a99,(Q z a9a).2.1,by unfold gA;omega⟩
   .obtain⟨a29,a99⟩:=a16 T;obtain⟨c69,b48,c21⟩:=o.co a29 A h r;rcases a4T.1 (k9.mem_iff.2 b48)with rfl|b48
    .obtain⟨c70,c71,c22,c23,c24,c25⟩:=c21;cases c22 with
     |refl=>simp_all
     |step b49 c26 c27 c28=>rw[H]at b49;obtain rfl:=a4v b49;exact⟨_,a6D _ (a7w.2 ⟨c26,c27⟩),_,_,c28,c23,c24,c25⟩
    grind
   grind;grind
def zv (d:ag) (h:List aL) (k:List UInt8) (id:Int) (b:R):Prop:=match h.find? (λa=>decide (a.name=k))with
 |none=>b= .aK [.J [] .nil,.v (.bool false),.v (.int .i64 3)]
 |some a=>
  (vj d (a.aD.length+1) (id::List.replicate a.aD.length iI) (id::List.replicate a.aD.length jh) a.bM/\b= .aK [.J [] .nil,.v (.bool false),.v (.int .i64 21)])\/
  ∃rows,vi d (a.aD.length+1) (id::List.replicate a.aD.length iI) (id::List.replicate a.aD.length jh) a.bM rows/\(∀c∈rows,c.length=a.aD.length+1)/\
   ((rows= []/\b= .aK [.J [] .nil,.v (.bool false),.v (.int .i64 0)])\/ ∃c o p,rows=c::o/\b= .aK [.J (ad c) p,.v (.bool true),.v (.int .i64 0)])
theorem a2h (a:cx e1=true) (b:e7∈e1):fw (e7.aD.length+1) e7.bM=true:=by simp only[cx,a4A,a4O,a5O,decide_eq_true_eq]at a;obtain⟨c,d,rfl⟩:=a5i b;simp_all [fR]
theorem FY (id:Int) (a:e<=7):cP (id::List.replicate e iI) (id::List.replicate e jh) (e+1)=true:=by have hm:iI<=jh:=a9d;simp only[cP,a4C,a6o,a4A,decide_eq_true_eq,a4O,a5O];grind
theorem a2i (x:U) (y n j9:Nat) (q:ag) (E:List aL) (s:cO x y n j9 q E) (k0:cx E=true) (W:List UInt8) (id:Int):
  AC Tryz.prog 12 [.ptr y 0,bb W,.v (.int .i64 id)] x λt a02=>x.sub a02/\zv q E W id t:=by
 obtain⟨a03,a86⟩:=mu k0;obtain⟨a04,a05,F,a06⟩:=s.x;have a88:=U.ae F;have a89:=ga.all.1;have u: ∀a T,en a T->putAt eL 0 T=T:=λa T v=>(nG v).2.2.1;have a07:=u _ _ ga;have w:=jm;have k:=find_spec E a04 a05 W a06 a8Z x;unfold Found at k;unfold zv;generalize eL=a90 at*;refine aN hm JU ?_;refine ai k ?_;clear k;rintro t k1 ⟨rfl,k⟩;cases A:E.find? (λa=>decide (a.name=W))with
 |none=>rw[A]at k;obtain rfl:=k;refine aa ?_;refine aM λa92 a94=> ?_;rw[w];exact aR
 |some a=>
  rw[A]at k;obtain⟨T,e,rfl⟩:=k;obtain⟨a95,a96,a97,a98,k2,k3,k4,k5,a08,a09,a99,b00,b01⟩:=e.all;have b02:=u _ _ e;have k6:=λx=>sW a T e x;have hm:=vg A;have k7:=a03 a hm;have a10:=k7.c;have a11:=k7.k.size;obtain⟨a13,a14⟩:=e.k;clear u a07;refine aa ?_;refine aM λz B=> ?_;rw[w];clear w;have a15:y≠z:=by rintro rfl;rw[F]at B;cases B
  have b03:=a15.symm;have C:=U.af (Y:= .cells T) (U.a1) B;have cV:=U.ah k1 z (.cells T);refine aa ?_;refine bc (k6 _) ?_;generalize k1.set z _=H at*;refine ai (a0C (a.aD.length+1) a8Z a8Z H) ?_;rintro _ k8 ⟨b04,b05,rfl,b06,f,g⟩;have k9:(ad (List.replicate (a.aD.length+1) iI)).length=a.aD.length+1:=by rw[bH,a6o]
  have l0:(ad (List.replicate (a.aD.length+1) jh)).length=a.aD.length+1:=by rw[bH,a6o]
  obtain⟨aO,d,G,o,rfl,L,l1,a16,I,l2,b07,_⟩:=f.an (λK=>by rw[K]at k9;simp at k9);obtain⟨b,c,D,p,rfl,M,l3,a18,N,l4,b08,_⟩:=g.an (λK=>by rw[K]at l0;simp at l0);rw[a5n]at a16 I l2 a18 N l4;have l5:=g.1 _ _ l1;have l6:aO≠b:=by rintro rfl;rw[l1]at M;cases M
  have a19:=l6.symm;have i:=U.ar f.1 g.1;have l7:=i _ _ cV;have ek:=i _ _ (C _ _ F);have b09:=(s.sub C).sub i;have P:=U.bF f.1 M;have b10:z≠aO:=by rintro rfl;rw[cV]at L;cases L
  have b11:z≠b:=by rintro rfl;rw[cV]at P;cases P
  have b12:y≠aO:=by rintro rfl;rw[C _ _ F]at L;cases L
  have b13:y≠b:=by rintro rfl;rw[C _ _ F]at P;cases P
  refine aa ?_;refine aM λr h=> ?_;have a27:aO≠r:=by rintro rfl;rw[l5]at h;cases h
  have a29:b≠r:=by rintro rfl;rw[l3]at h;cases h
  have a30:z≠r:=by rintro rfl;rw[l7]at h;cases h
  have a34:y≠r:=by rintro rfl;rw[ek]at h;cases h
  have b14:=a27.symm;have b15:=a29.symm;have b16:=a30.symm;have b17:=a34.symm;have b18:cL 1 (.an aO d G 1) (.v (.int .i64 0))=some (.ptr aO 0):=by grind[jz]
  have b19:cL 1 (.an b c D 1) (.v (.int .i64 0))=some (.ptr b 0):=by grind[jz]
  have b20:=U.aJ l5;have b21:=U.aJ l3;have b22:=U.ae l7;have fW:=U.ae ek;have b23:1<=o.length:=a8Z;have b24:1<=p.length:=a8Z;have a36:(putAt o 0 [R.v (.int .i64 id)]).take d=ad (id::List.replicate a.aD.length iI):=by
   have O:d=a.aD.length+1:=a8Z;have S:(o.drop 1).take (d - 1)=ad (List.replicate a.aD.length iI):=by rw[<-a5P,I];rfl
   have Q:d - 1=a.aD.length:=a8Z;rw[Q]at S;show([]++ [R.v (.int .i64 id)]++o.drop 1).take d= _;rw[a4P,O,a8G,a7r,S];rfl
  have a38:(putAt p 0 [R.v (.int .i64 id)]).take c=ad (id::List.replicate a.aD.length jh):=by
   have O:c=a.aD.length+1:=a8Z;have S:(p.drop 1).take (c - 1)=ad (List.replicate a.aD.length jh):=by rw[<-a5P,N];rfl
   have Q:c - 1=a.aD.length:=a8Z;rw[Q]at S;show([]++ [R.v (.int .i64 id)]++p.drop 1).take c= _;rw[a4P,O,a8G,a7r,S];rfl
  have b25:(putAt o 0 [R.v (.int .i64 id)]).length=o.length:=eH _ _ _ a9b;have b26:(putAt p 0 [R.v (.int .i64 id)]).length=p.length:=eH _ _ _ a9b;have b27:(k8.set r (.cells [.an aO d G 1,.an b c D 1])) r=some (.cells [.an aO d G 1,.an b c D 1]):=U.ah _ _ _;clear f g I N l2 l4;refine aa ?_;generalize putAt o 0 [R.v (.int .i64 id)]=j at*;generalize putAt p 0 [R.v (.int .i64 id)]=l at*;refine bc (k6 _) ?_;generalize X:((k8.set r (.cells [.an aO d G 1,.an b c D 1])).set aO (.cells j)).set b (.cells l)=V;have a42:V aO=some (.cells j):=by subst X;rw[U.ao _ _ l6,U.ah]
  have a43:V b=some (.cells l):=by subst X;rw[U.ah]
  have b28:=U.bF i h;have a47:H.sub V:=by grind[U.af]
  clear X;have l8:=View.an (n:=d) (cap:=G) (k:=1) a42 a8Z;rw[kq,a36]at l8;have a48:(V.set aO (.ro j)) b=some (.cells l):=by rw[U.ao _ _ a19];exact a43
  have l9:=View.an (n:=c) (cap:=D) (k:=1) a48 a8Z;rw[kq,a38]at l9;have n0:H.sub ((V.set aO (.ro j)).set b (.ro l)):=U.af (U.af a47 L) P;have a52:=View.agg (a:= []) (k:= [.an b c D 1,.v (.int .u8 0),.v (.int .i64 0),.J [] .nil,.v (.int .i64 1),.v (.bool false)]) rfl l8;have a56:=View.agg (a:= [.J (ad (id::List.replicate a.aD.length iI)) .any]) (k:= [.v (.int .u8 0),.v (.int .i64 0),.J [] .nil,.v (.int .i64 1),.v (.bool false)]) rfl l9;have a57:=a52.trans a56;have a61:=FY id a10;have a62:ev (id::List.replicate a.aD.length iI) (id::List.replicate a.aD.length jh) a.bM=true->1<=a.bM.size:=λv=>by
   simp only[ev,a4A,decide_eq_true_eq]at v;have b29:=nB (a2h k0 hm);simp_all
  have a63:=AC.nm (m:=Tryz.prog) (g:= [.ptr n 0,.agg (ab a.bM k2 k3 k4)]) a57 (a2g _ n j9 q (s.gq.mono (U.ar C n0)) a.bM k2 k3 k4 a13 a14 _ _ .any .any .nil (a.aD.length+1) a61 a11 a62);refine ai a63 ?_;rintro t a65 ⟨a68,a69⟩;have b30:=U.ar C (U.ar n0 a68);rcases a69 with ⟨b31,b32,b33,rfl⟩|⟨rows,b34,Y,n1,b35,b36,Z,m,b37,rfl⟩
  .refine aa ?_;refine aM λn2 n3=> ?_;refine aa ?_;simp
  .have b38:=fI Z;refine aa ?_;refine aM λn2 n3=> ?_;have a71:=Z.src;obtain⟨n4,k5,a08,a09⟩:=a71;rw[a5n]at k5;have n5:=m.len;refine aa ?_;cases rows with
   |nil=>
    have n9:n4=0:=by rw[a4G]at n5;omega
    subst n9;refine aa ?_;grind
   |cons a73 rest=>
    have n9: ¬(n4:Int)=0:=by rw[a4C]at n5;omega
    obtain⟨_,a74,a81,rfl⟩:=m.get (i:=0) rfl;have a83:=bR.dR (Z.mono (U.af (Y:= .cells [Y,.v (.int .i64 n1)]) (U.a1) n3)) a8Z m.flat.symm (m.cells λ_ _=>isRow.cells);obtain⟨a00,a01,a84⟩:=a83.get 0 _ a74;have a01:cL 1 Y (.v (.int .i64 0))=some a00:=a01;have b39:dn false 1 (a65.set n2 (.cells [Y,.v (.int .i64 n1)])) a00=some (.J (ad a73) a81):=a84.ld _ U.a1 false 1 a8Z (by simp[R.cells]);refine aa ?_;grind
def jq (d:Nat) (b:List Int×List Int) (c:List Int):Prop:= ∀a,a<d->b.1.getD a 0<=c.getD a 0/\c.getD a 0<=b.2.getD a 0
def FZ {a b:List Int×List Int} (h:hg e a) (k:hg e b) (c:jq e a q\/jq e b q):jq e (cQ a b) q:=by
 have o:=ll.1 h.ok;have p:=ll.1 k.ok;unfold cQ;rw[o.2.2.1,p.2.2.1,if_pos h.ok,if_pos k.ok,if_pos rfl];intro d r;have x:=Em (a:=min) (q:=a.1) (b6:=b.1) (e:=d) a8Z a8Z;have y:=Em (a:=max) (q:=a.2) (b6:=b.2) (e:=d) a8Z a8Z
 dsimp only
 rw[x,y];rcases c with c|c<;>have:=c d r<;>omega
variable{a8:aC}
theorem G0 {a:gL} (k:mi e i a) (r:0<i) (o:jl e a8 w) (d:jq e a.aO q):jq e (ep a w).aO q:=by
 have h:hg e a.aO:=by
  rcases k.aO with ⟨b,_⟩|⟨_,b⟩
  .omega
  .exact b
 show jq e (cQ a.aO (w.aU,w.aV)) q;rcases o.aO with ⟨b,c,p⟩|⟨b,c⟩
 .rw[c,p,Fz h];exact d
 .exact FZ h c (.inl d)
def G1 {a:gL} (h:mi e i a) (k:jl e a8 w) (o:q∈a8.all) (d:jq e (w.aU,w.aV) q):jq e (ep a w).aO q:=by
 have x:=a7D o;show jq e (cQ a.aO (w.aU,w.aV)) q;rcases k.aO with ⟨p,b,y⟩|⟨p,b⟩
 .omega
 rcases h.aO with ⟨r,c⟩|⟨r,c⟩
 .rw[c,ps b];exact d
 .exact FZ c b (.inr d)
theorem zw {b:Nat} (h:1<=b) (k:b<=8) {c:List Int}: ∀ {o:aC},o.c9 b->o.size<=1048576->c∈o.all->jq b ((bo o).aU,(bo o).aV) c
 | .nil,_,_,d=>by cases d
 | .node p live D E,d,F,a=>by
  simp only[aC.size]at F;have x:=fc h k d.a a8Z;have y:=fc h k d.b a8Z;have r:=xZ h k d.r;have z:mi b (if live=true then 1 else 0) (dK ⟨0,1,([],[])⟩ (p,live)):=by
   cases live with
   |false=>exact⟨rfl,.inl ⟨rfl,rfl⟩⟩
   |true=>refine⟨rfl,.inr ⟨a9d,?_⟩⟩;show hg b (cQ ([],[]) (gm p));rw[ps r];exact r
  have C:=yX z x;show jq b (ep (ep (dK ⟨0,1,([],[])⟩ (p,live)) (bo D)) (bo E)).aO c;simp only[aC.all,a4M]at a;rcases a with (a|a)|a
  .have:=a7D a;exact G0 C a8Z y (G1 z x a (zw h k d.a a8Z a))
  .exact G1 C y a (zw h k d.b a8Z a)
  .have G:live=true/\c=p:=by simp_all
   obtain⟨rfl,rfl⟩:=G;have L:jq b (dK ⟨0,1,([],[])⟩ (c,true)).aO c:=by show jq b (cQ ([],[]) (gm c)) c;rw[ps r];unfold gm;rw[if_pos (by have:=d.r.len;omega)];exact λP _=>⟨a8w _,a8w _⟩
   grind[G0]
def G2 {a:List Int} (b:a.length=e):jg q b6 a=true↔cP q b6 e=true/\jq e (q,b6) a:=by unfold jg;simp only[b,a4A,a4O,a5O,decide_eq_true_eq];rfl
def zx (c:1<=e) (d:e<=8) {h:List Int} (a:a8.c9 e) (k:a8.size<=1048576) (b:b6∈a8.all) (y:jg h q b6=true):ev h q (bo a8)=true:=by
 have o:=fc c d a k;have G:=a7D b;have z:=(a b6 (aC.gD b)).len;obtain⟨p,C⟩:=(G2 z).1 y;have D:=zw c d a k b;have E:=ll.1 p;have F:cP (bo a8).aU (bo a8).aV e=true:=by
  rcases o.aO with ⟨r,_⟩|⟨_,r⟩
  .omega
  .exact r.ok
 have L:=o.live;unfold ev jV oy;simp only[E.2.2.1,a4A,a4O,a5O,decide_eq_true_eq];refine⟨a8Z,⟨p,F⟩,λx q=> ?_⟩;have:=C x q;have:=D x q
 dsimp only at*
 unfold hB;omega
def G3:fk H e aA=none:=by
 cases a:fk H e aA with
 |none=>rfl
 |some b=>have:=(Fm (q:= []) (b6:= []) a).2;have c:(aA).size=0:=rfl;omega
theorem G4 (r:1<=e) (x:e<=8) (y:mo H e q b6 w j2): ∀ {a:aC},w=bo a->a.c9 e->a.size<=1048576->dW H a-> ∃b,j2=bo b/\b.c9 e/\b.size<=1048576/\dW H b/\(∀z∈b.all,z∈a.all)/\(ev q b6 w=true->ev q b6 j2=true):=by
 induction y with
 |refl C=>grind
 | @step C k W f c hk g i ih=>
  intro a o d p h;cases a with
  |nil=>rw[o,show bo .nil=aA from rfl,G3]at c;cases c
  |node j live D E=>
   rw[o,sR r x d p h]at c;obtain rfl:=a4v c;simp only[aC.size]at p;have F:k=bo D\/k=bo E:=by simpa[cp] using hk
   rcases F with rfl|rfl
   .obtain⟨b,G,L,P,S,T,V⟩:=ih rfl d.a a8Z h.2.1;grind[aC.all]
   .obtain⟨b,G,L,P,S,T,V⟩:=ih rfl d.b a8Z h.2.2;grind[aC.all]
def zy (a:1<=e) (b:e<=8) (d:a8.c9 e) (h:a8.size<=1048576) (k:dW H a8): ¬vj H e q b6 (bo a8):=by
 rintro⟨D,o,p,c⟩;obtain⟨r,rfl,x,y,z,_,C⟩:=G4 a b o rfl d h k;cases r with
 |nil=>exact yS (C p) rfl
 |node E live F G=>rw[sR a b x y z]at c;cases c
def a2j (b:1<=e) (c:e<=8) {d:List Int} (h:a8.c9 e) (k:a8.size<=1048576) (o:dW H a8) (p:nA H e b6 d (bo a8) q):q∈a8.all/\jg b6 d q=true:=by
 obtain⟨G,L,r,a,hm,x⟩:=p;obtain⟨y,rfl,z,C,D,E,_⟩:=G4 b c r rfl h k o;refine⟨E q ?_,x⟩;cases y with
 |nil=>rw[show bo .nil=aA from rfl,G3]at a;cases a
 |node F live P S=>
  rw[sR b c z C D]at a;obtain rfl:=a4v a;have:q=F/\live=true:=by simpa[cp] using hm
  obtain⟨rfl,rfl⟩:=this;simp[aC.all]
theorem zz {E:ag}{o:Nat} (c:1<=o) (d:o<=8) {F G p:List Int}: ∀ {h:aC},h.c9 o->h.size<=1048576->dW E h->p∈h.all->jg F G p=true->nA E o F G (bo h) p
 | .nil,_,_,_,b,_=>by cases b
 | .node P live T V,b,L,r,a,k=>by
  have x:=sR c d b L r;simp only[aC.size]at L;simp only[aC.all,a4M]at a;rcases a with (a|a)|a
  .obtain⟨y,z,C,D⟩:=zz c d b.a a8Z r.2.1 a k;exact⟨y,z,.step x (by simp[cp]) (zx c d b.a a8Z a k) C,D⟩
  .obtain⟨y,z,C,D⟩:=zz c d b.b a8Z r.2.2 a k;exact⟨y,z,.step x (by simp[cp]) (zx c d b.b a8Z a k) C,D⟩
  .have S:live=true/\p=P:=by simp_all
   obtain⟨rfl,rfl⟩:=S;exact⟨_,_,.refl _,x,by simp[cp],k⟩
variable{Q:List (List Int)}
theorem zA (b:1<=e) (c:e<=8) (d:a8.c9 e) (h:a8.size<=1048576) (k:dW H a8) (o:vi H e q b6 (bo a8) Q):(Q= []↔ ∀a∈a8.all,¬jg q b6 a=true):=by
 constructor
 .intro x a p r;exact o.full x (zx b c d h p r) a (zz b c d h k p r)
 .intro y;cases Q with
  |nil=>rfl
  |cons a rest=>obtain⟨z,C⟩:=a2j b c d h k (o.sound a a9a);simp_all
theorem zB {id:Int} (d:e<=7) (b:bL (e+1) q):jg (id::List.replicate e iI) (id::List.replicate e jh) q=true↔q.getD 0 0=id:=by
 rw[G2 b.len];constructor
 .rintro⟨_,c⟩;have:=c 0 a8Z;grind
 .intro h;refine⟨FY id d,λa k=> ?_⟩;cases a with
  |zero=>simp only[a5f];omega
  |succ a=>have c:a<e:=a8Z;have o:=b.len;have hm:=b.jR (q.getD (a+1) 0) (by simp_all);simp only[a5h];simp only[a5p,List.getElem?_replicate,if_pos c,a6r];simp only[a5p]at hm;unfold iI jh;omega
def lA (b:ag) (d:List aL) (c:cw) (h:Int×List aL×ag):Prop:=match d.find? (λa=>decide (a.name=c.table))with
 |none=>h=(3,d,b)
 |some a=>if c.row.length=a.aD.length+1 then
   (vj b (a.aD.length+1) (c.row.getD 0 0::List.replicate a.aD.length iI) (c.row.getD 0 0::List.replicate a.aD.length jh) a.bM/\h=(21,d,b))\/
   ∃rows,vi b (a.aD.length+1) (c.row.getD 0 0::List.replicate a.aD.length iI) (c.row.getD 0 0::List.replicate a.aD.length jh) a.bM rows/\(∀k∈rows,k.length=a.aD.length+1)/\
    ((rows= []/\h=fy (λb=>nC (a.aD.length+1) c.row b a.bM) (λb=>jd (a.aD.length+1) c.row b a.cq) b d a)\/(rows≠ []/\h=(8,d,b)))
  else h=(6,d,b)
def a2k (z:U) (p r x:Nat) (k:ag) (c:List aL) (l:cO z p r x k c) (m: ∀d∈c,d.Fit) (n:cx c=true) (a:cN) (H:a.d.Fit):
  AC Tryz.prog 49 [.ptr p 0,a.V] z λD E=> ∃res,lA k c a.d res/\D= .v (.int .i64 res.1)/\cO E p r x res.2.2 res.2.1/\cA p r x z E:=by
 obtain⟨I,l5⟩:=mu n;have q:=λE C=>FR E p r x k c C a8Z a H;have s:a.V= .agg [al a.d.kind,bb a.d.table,.J (bE a.d.aD) a.gu,.J (ad a.d.row) a.dm]:=rfl;obtain⟨l6,l7,K,l8⟩:=l.x;rw[s]at q|-;clear s;have l9:=U.ae K;have n0:=ga.all.1;refine aN hm KK ?_;refine bp λP M=> ?_;have t:=U.af (Y:= .cells [al a.d.kind,bb a.d.table,.J (bE a.d.aD) a.gu,.J (ad a.d.row) a.dm]) (U.a1) M;have aH:=U.ah z P (.cells [al a.d.kind,bb a.d.table,.J (bE a.d.aD) a.gu,.J (ad a.d.row) a.dm]);generalize z.set P _=N at*;have u:=l.sub t;refine ai (q N u) ?_;rintro D O ⟨S,b⟩;have V:=S _ _ aH;have n1:=U.ae V;have W:=u.sub S;have e:=U.ar t S;have f: ∀d T,en d T->putAt eL 0 T=T:=λd T C=>(nG C).2.2.1;have n2:=ga.all.2.1;have n3:=f _ _ ga;have g:=jm;generalize eL=n4 at*;unfold mv at b;unfold lA;cases F:c.find? (λd=>decide (d.name=a.d.table))with
 |none=>
  rw[F]at b
  dsimp only at b
  obtain rfl:=b;refine aa ?_;refine aM λG h=> ?_;rw[g];refine aa ?_;refine⟨_,U.a1,(3,c,k),rfl,rfl,W.sub (U.af U.a1 h),cA.of (U.ar e (U.af U.a1 h))⟩
 |some d=>
  rw[F]at b;have hm:=vg F
  dsimp only at b
  by_cases y:a.d.row.length=d.aD.length+1
  .rw[if_pos y]at b;obtain⟨T,o,rfl⟩:=b;obtain⟨Q,X,Y,_⟩:=o.all;have Z:=f _ _ o;have j9:= @dJ a.d.row;have n5:=bH (q:=a.d.row);refine aa ?_;refine aM λG h=> ?_;rw[g];have k0:P≠G:=by rintro rfl;rw[V]at h;cases h
   have n9:=k0.symm;obtain⟨k1,k2⟩:=o.k;obtain⟨k3,k4⟩:=o.z;have v:=I d hm;have a00:=v.c;have a01:=v.k.size;have w:=W.sub (U.af (Y:= .cells T) U.a1 h);have k5:=U.af (Y:= .cells T) (U.a1) h _ _ V;have k6:=U.ah O G (.cells T);have k7:=U.ar e (U.af (Y:= .cells T) (U.a1) h);have a02:cL 1 (.J (ad a.d.row) a.dm) (.v (.int .i64 0))=some (.bV [.v (.int .i64 (a.d.row.getD 0 0))]):=by have C:=j9 (b:=0) a8Z;have k8:(0:Int)<=0:=a8Z;rw[hJ k8];show ez 1 (ad a.d.row)[0]? = _;rw[C];rfl
   dsimp only
   simp only[if_pos y];refine aa ?_;refine ai (a2i _ p r x k c w n a.d.table (a.d.row.getD 0 0)) ?_;rintro D k9 ⟨L,b⟩;unfold zv at b;rw[F]at b
   dsimp only at b
   have i:=w.sub L;have j:=U.ar k7 L;have a03:=U.ae (L _ _ k5);have a04:=U.ae (L _ _ k6);rcases b with ⟨a05,rfl⟩|⟨rows,A,B,⟨rfl,rfl⟩|⟨l0,l1,a06,rfl,rfl⟩⟩
   .refine aa ?_;exact⟨_,U.a1,(21,c,k),.inl rfl,rfl,i,cA.of j⟩
   .have l2:=FX k9 p r x k c i m a8Z d T o (m d hm) a.d.row a.dm 84 85 _ _ a9e a9e (jn.a2a k1 k2 a8Z a8Z a8Z y) (jn.a2c k3 k4 a8Z a8Z y);refine aa ?_;refine ai l2 ?_;rintro D a07 ⟨rfl,l3,l4⟩;refine aa ?_;exact⟨_,U.a1,_,.inr ⟨[],A,B,.inl ⟨rfl,rfl⟩⟩,rfl,l3,(cA.of j).trans l4⟩
   .refine aa ?_;exact⟨_,U.a1,(8,c,k),.inr ⟨l0::l1,A,B,.inr ⟨a9a,rfl⟩⟩,rfl,i,cA.of j⟩
  .rw[if_neg y]at b;obtain⟨T,o,rfl⟩:=b;obtain⟨Q,X,Y,_⟩:=o.all;have Z:=f _ _ o;refine aa ?_;refine aM λG h=> ?_;rw[g]
   dsimp only
   simp only[if_neg y];refine aa ?_;refine⟨_,U.a1,(6,c,k),rfl,rfl,W.sub (U.af U.a1 h),cA.of (U.ar e (U.af U.a1 h))⟩
def ew (c:ag) (b:List aL) (a:cw) (d:Int×List aL×ag):Prop:=
 if eu a=false then d=(1,b,c)
 else if a.kind=1 then d=((iL (jZ b ⟨a.table,a.aD,aA,aA⟩) b).1,(iL (jZ b ⟨a.table,a.aD,aA,aA⟩) b).2,c)
 else if a.kind=2 then d=((iL (cI b a.table) b).1,(iL (cI b a.table) b).2,c)
 else if a.kind=3 then lA c b a d
 else d=jo c b a
theorem zC (b:U) (d h k:Nat) (r:ag) (x:List aL) (Z:cO b d h k r x) (j: ∀j9∈x,j9.Fit) (m:cx x=true) (a:cN) (l:a.d.Fit):
  AC Tryz.prog 20 [.ptr d 0,a.V] b λg w=> ∃res,ew r x a.d res/\g= .v (.int .i64 res.1)/\cO w d h k res.2.2 res.2.1/\cA d h k b w:=by
 have k2:=(mu m).2;have n:=λb=>EL a l b;have A:=λb L=>a1W b d h k r x L j a8Z a l;have B:=λb L=>a1V b d h k r x L j a8Z a;have H:=λb L=>a2k b d h k r x L j m a l;have I:=λb L=>a2e b d h k r x L j m a l;have K:a.V= .agg [al a.d.kind,bb a.d.table,.J (bE a.d.aD) a.gu,.J (ad a.d.row) a.dm]:=rfl;rw[K]at n A B H I|-;clear K;refine aN hm K4 ?_;refine bp λq k0=> ?_;have e:=U.af (Y:= .cells [al a.d.kind,bb a.d.table,.J (bE a.d.aD) a.gu,.J (ad a.d.row) a.dm]) (U.a1) k0;have aH:=U.ah b q (.cells [al a.d.kind,bb a.d.table,.J (bE a.d.aD) a.gu,.J (ad a.d.row) a.dm]);generalize b.set q _=f at*;have i:=Z.sub e;have k3:=U.ae aH;cases ct:eu a.d with
 |false=>refine bc (n f) ?_;exact⟨_,U.a1,(1,x,r),by unfold ew;rw[if_pos ct],rfl,i,cA.of e⟩
 |true=>
  refine bc (n f) ?_;rw[show List.replicate 5 (R.v .nilFunc)= [.v .nilFunc,.v .nilFunc,.v .nilFunc,.v .nilFunc,.v .nilFunc]from rfl];have k4: ∀z C D E F y:R,putAt [z,C,D,E,F] 1 [y]= [z,y,D,E,F]:=λ_ _ _ _ _ _=>rfl;have k5: ∀z C D E F y:R,putAt [z,C,D,E,F] 2 [y]= [z,C,y,E,F]:=λ_ _ _ _ _ _=>rfl;have k6: ∀z C D E F y:R,putAt [z,C,D,E,F] 3 [y]= [z,C,D,y,F]:=λ_ _ _ _ _ _=>rfl;have k7: ∀z C D E F y:R,putAt [z,C,D,E,F] 4 [y]= [z,C,D,E,y]:=λ_ _ _ _ _ _=>rfl;have k8: ∀z C D E F y M N O v:R,putAt [z,C,D,E,F] 0 [y,M,N,O,v]= [y,M,N,O,v]:=λ_ _ _ _ _ _ _ _ _ _=>rfl;have k9: ∀Q X Y,(R.bG Q X Y).cells= [.bG Q X Y]:=λ_ _ _=>rfl;have P:a.d.kind.toNat=1\/a.d.kind.toNat=2\/a.d.kind.toNat=3\/a.d.kind.toNat=4:=by have L:=ct;simp only[eu,a4A]at L;grind
  refine aa ?_;refine aM λc G=> ?_;have k1:q≠c:=by rintro rfl;rw[aH]at G;cases G
  have l0:=k1.symm;rcases P with P|P|P|P
  .have s:lU 1 5 (.ptr c 0) (al a.d.kind)=some (.ptr c 1):=by have:=rP (e:=1) (i:=5) (v:=c) (O:=0) (e2:= .u8) (b1:=(a.d.kind.toNat)) a8Z a8Z;rw[a5a,show 0+a.d.kind.toNat*1=1 by omega]at this;exact this
   refine aa ?_;have t:a.d.kind=1:=a5s.1 P;generalize o:(f.set c _)=p;have S:cO p d h k r x:=by subst o;exact i.sub (U.af U.a1 G)
   have T:cA d h k b p:=by subst o;exact cA.of (U.ar e (U.af U.a1 G))
   clear o;refine fF a9f (A p S) ?_;rintro g u ⟨V,W,rfl⟩;refine aa ?_;refine⟨_,U.a1,(_,_,r),?_,rfl,V,T.trans W⟩;unfold ew;grind
  .have s:lU 1 5 (.ptr c 0) (al a.d.kind)=some (.ptr c 2):=by have:=rP (e:=1) (i:=5) (v:=c) (O:=0) (e2:= .u8) (b1:=(a.d.kind.toNat)) a8Z a8Z;rw[a5a,show 0+a.d.kind.toNat*1=2 by omega]at this;exact this
   refine aa ?_;have t:a.d.kind=2:=a5s.1 P;generalize o:(f.set c _)=p;have S:cO p d h k r x:=by subst o;exact i.sub (U.af U.a1 G)
   have T:cA d h k b p:=by subst o;exact cA.of (U.ar e (U.af U.a1 G))
   clear o;refine fF a9f (B p S) ?_;rintro g u ⟨V,W,rfl⟩;refine aa ?_;refine⟨_,U.a1,(_,_,r),?_,rfl,V,T.trans W⟩;simp_all [ew]
  .have s:lU 1 5 (.ptr c 0) (al a.d.kind)=some (.ptr c 3):=by have:=rP (e:=1) (i:=5) (v:=c) (O:=0) (e2:= .u8) (b1:=(a.d.kind.toNat)) a8Z a8Z;rw[a5a,show 0+a.d.kind.toNat*1=3 by omega]at this;exact this
   refine aa ?_;have t:a.d.kind=3:=a5s.1 P;generalize o:(f.set c _)=p;have S:cO p d h k r x:=by subst o;exact i.sub (U.af U.a1 G)
   have T:cA d h k b p:=by subst o;exact cA.of (U.ar e (U.af U.a1 G))
   clear o;refine fF a9f (H p S) ?_;rintro g u ⟨res,l1,rfl,V,W⟩;refine aa ?_;refine⟨_,U.a1,res,?_,rfl,V,T.trans W⟩;simp_all [ew]
  .have s:lU 1 5 (.ptr c 0) (al a.d.kind)=some (.ptr c 4):=by have:=rP (e:=1) (i:=5) (v:=c) (O:=0) (e2:= .u8) (b1:=(a.d.kind.toNat)) a8Z a8Z;rw[a5a,show 0+a.d.kind.toNat*1=4 by omega]at this;exact this
   refine aa ?_;have t:a.d.kind=4:=a5s.1 P;generalize o:(f.set c _)=p;have S:cO p d h k r x:=by subst o;exact i.sub (U.af U.a1 G)
   have T:cA d h k b p:=by subst o;exact cA.of (U.ar e (U.af U.a1 G))
   clear o;refine fF a9f (I p S) ?_;rintro g u ⟨rfl,V,W⟩;refine aa ?_;refine⟨_,U.a1,jo r x a.d,?_,rfl,V,T.trans W⟩;simp_all [ew]
theorem oG:cx e1=true↔(∀b∈e1,fR b=true)/\e1.Pairwise (λc d=>c5 c.name d.name=true)/\e1.length<=8:=by
 constructor
 .intro a;have o:=zn a;simp only[cx,a4A,a4O,a5O,decide_eq_true_eq]at a;refine⟨λb h=> ?_,?_,a.2⟩
  .obtain⟨p,r,rfl⟩:=a5i h;simp_all
  grind[List.pairwise_iff_getElem,List.getD]
 .rintro⟨x,k,y⟩;rw[a5X]at k;simp only[cx,a4A,a4O,a5O,decide_eq_true_eq,a6g];grind
theorem G5 {b:List aL} (c:cx e1=true) (a:cI e1 B= .ok b):cx b=true:=by
 unfold cI at a;rw[if_pos c]at a;split at a
 .obtain rfl:=Except.ok.inj a;obtain⟨d,h,k⟩:=oG.1 c;have o:(e1.take (cZ e1 B)++e1.drop (cZ e1 B+1)).Sublist e1:=by grind[cZ,List.Sublist.append_left,List.drop_drop,List.drop_sublist,List.take_append_drop]
  grind[oG,Nat.le_trans]
 .cases a
theorem G6 {c:List aL} (a:ka e1 e7= .ok c):cx c=true:=by
 unfold ka at a;split at a
 .rename_i b;simp only[a4A]at b;obtain⟨b,p⟩:=b;split at a
  .rename_i d;obtain rfl:=Except.ok.inj a;simp only[gE,a4A,decide_eq_true_eq]at d;obtain⟨h,r⟩:=d;obtain⟨x,k,o⟩:=oG.1 b;have y:(e1[cZ e1 e7.name]'h).name=e7.name:=by simp_all
   refine oG.2 ⟨λz C=> ?_,?_,by rw[a7v];exact o⟩;grind
   .rw[a5X]at k|-;grind
  .cases a
 .cases a
def G7 {c:aL->Bool}: ∀ {d:List aL},∀b∈d.takeWhile c,c b=true
 | [],b,a=>by cases a
 |h::d,b,a=>by
  rw[a5Q]at a;split at a
  .rcases a4T.1 a with rfl|a
   .assumption
   .exact G7 b a
  .cases a
theorem G8 {c:aL->Bool}: ∀ {d:List aL}{b:aL}{h:List aL},d.dropWhile c=b::h->c b=false
 | [],_,_,a=>by cases a
 |k::d,b,h,a=>by
  rw[a6X]at a;split at a
  .exact G8 a
  simp_all
theorem G9 {o:List aL} (b:jZ e1 e7= .ok o):cx o=true:=by
 unfold jZ at b;split at b
 .rename_i d;simp only[a4A]at d;obtain⟨d,E⟩:=d;split at b
  .cases b
  rename_i F;split at b
  .cases b
  rename_i G;obtain rfl:=Except.ok.inj b;obtain⟨L,p,P⟩:=oG.1 d;have r:e1.take (cZ e1 e7.name)=e1.takeWhile λa=>c5 a.name e7.name:=by grind[List.takeWhile_append_dropWhile,c5,cZ,List.take_left]
  have x:e1.drop (cZ e1 e7.name)=e1.dropWhile λa=>c5 a.name e7.name:=by grind[List.takeWhile_append_dropWhile,c5,cZ,List.drop_left]
  have el:=a5o (p:=λa:aL=>c5 a.name e7.name) (l:=e1);have S: ∀a∈e1.takeWhile (λa=>c5 a.name e7.name),c5 a.name e7.name=true:=λa c=>G7 a c;have y: ∀a∈e1.dropWhile (λa=>c5 a.name e7.name),c5 e7.name a.name=true:=by
   intro a c;cases h:e1.dropWhile (λa=>c5 a.name e7.name)with
   |nil=>rw[h]at c;cases c
   |cons k T=>
    have V:=G8 h;have W:cZ e1 e7.name<e1.length:=by grind
    have e:e1.getD (cZ e1 e7.name) default=k:=by grind
    have f:k.name≠e7.name:=λg=>by
     simp_all [gE]
    have z:c5 e7.name k.name=true:=by grind[c5,absurd,FF]
    rw[h]at c;rcases a4T.1 c with rfl|c
    .exact z
    grind[vc,List.pairwise_cons]
  rw[r,x];refine oG.2 ⟨λa c=> ?_,?_,?_⟩;grind
  .rw[<-el]at p;obtain⟨C,D,i⟩:=a5z.1 p;refine a5z.2 ⟨C,a5g.2 ⟨y,D⟩,λj l m n=> ?_⟩;grind
  grind
 .cases b
end Go.Proofs.YtlgnfcaolejgeaaGreat
namespace Go.bx
open Go
variable{n b3:R}{f t e4:U}{g A e0:List R}{e i v O b8 j0:Nat}
theorem View.obj (p:f e=some (.cells (A++ .an i O b8 1::e0))) (z:f i=some (.cells g)) (C:O*1<=g.length) (D:e≠i):
  View f n ((f.set i (.ro g)).set e (.cells (A++ .J (ed 1 O g) .any::e0))) n:=λt u v E F=>by
 obtain⟨G,a⟩:=Step.freeze E z;have L:(f.set i (.ro g)) e=some (.cells (A++ .an i O b8 1::e0)):=by rw[U.ao _ _ D];exact p
 obtain⟨w,P,T,S,h,V⟩:=a.holds.dO e _ L;refine⟨G,⟨⟨a.holds.ro,λr W b=> ?_⟩,a.le,a.os,a.tape,a.output,a.size,λ_ _ _=>rfl,λk B=> ?_,a.mx,λk j l o=> ?_⟩,F.mono a.le⟩
 .by_cases c:r=e
  .subst c;rw[U.ah]at b;obtain rfl:=a4v b;refine⟨λH d=> ?_,P,T,S,⟨by have:=h.1;simp_all,λx y m=> ?_⟩,V⟩
   .simp only[a4M,a4T]at d;rcases d with d|rfl|d
    .simp_all
    .rfl
    .simp_all
   .by_cases q:x=A.length
    .subst q;have s:y= .J (ed 1 O g) .any:=by simpa using m.symm
     subst s;exact aY.frozen a.holds (U.ah _ _ _) C (h.2 A.length (.an i O b8 1) a9a)
    .refine h.2 x y ?_;grind
  .rw[U.ao _ _ c]at b;exact a.holds.dO r W b
 grind[U.ao]
 .have c:k≠e:=by rintro rfl;rw[p]at o;cases o
  rw[U.ao _ _ c];exact a.jt k j l o
def zD (k o:U):Prop:= ∀a b c d h,k a=some (.cells [.J b c,.J d h])->o a=some (.cells [.J b c,.J d h])
end Go.bx
namespace Go.Proofs.YtlgnfcaolejgeaaGreat
open Go Go.bx
def bw.vm {r x:U} (d:zD r x): ∀ {a:Nat}{b:a6.T a}{c:R},bw r a b c->bw x a b c
 |0,b,c,⟨h,y,k,eT,h1,o,p⟩=>⟨h,y,k,eT,h1,d _ _ _ _ _ o,p⟩
 |a+1,b,c,⟨h,z,k,eT,h1,o,p,C⟩=>⟨h,z,k,eT,h1,d _ _ _ _ _ o,p.mono λ_ _=>bw.vm d,C⟩
variable{e i v O b8 j0:Nat}
theorem a2l (r:List Int) (S:Own) (C:a6.T 0) (T:R) (o:U) (q:bw o 0 C T) (V:GT e 0 C) (Y:e<=8):
  AC Tryz.prog 95 [T,.J (ad r) S] o λy c=>o.sub c/\bw c 0 (a6.cI bC r 0 C) y:=by
 obtain⟨Z,j9,s,k0,rfl,W,G⟩:=q;obtain⟨d,rfl⟩:=a6.hX C;rw[a6.qE]at G;have f:=V.ok;have t:=V.dw;rw[a6.ku]at f t;have k1:=G.len;show AC _ _ _ _ λy c=>o.sub c/\bw c 0 (a6.leaf (d.filter λa=>decide (a≠r))) y;refine AC.view (s:=λy c=> ∃a h k,y= .ptr a 0/\o a=none/\au (o.set a (.cells [h,.J [] .nil])) c 1 k h/\az isRow (d.filter λa=>decide (a≠r)) k) ?_ ?_
 .have u:=U.ae W;refine aN hm Bj ?_;refine bp λa z=> ?_;refine ch [0,1,5] (λb:Nat=> [(6,.v (.int .i64 (b)))]) (λb c=>b<=d.length/\ ∃h k,au (o.set a (.cells [h,.J [] .nil])) c 1 k h/\az isRow ((d.take b).filter λa=>decide (a≠r)) k) (λb=>d.length - b) 0 ⟨⟨a8Z,_,[],au.nil U.a1,trivial⟩,aR⟩ ?_;rintro b v ⟨k2,h,k,p,x⟩ k3;have k4:=x.len;have w:=p.1 _ _ (U.ah _ _ _);have u:=rd (U.ar (U.af U.a1 z) p.1) W;have L:=U.ae w;refine aa ?_;refine aG (λA=> ?_) λA=> ?_
  .obtain⟨_,k5,g,rfl⟩:=G.at [] (e:=b) a8Z;have B:=eQ (a:=d) (b:= []) (e:=b) a8Z;have k6:=(f (d.getD b []) (by grind)).len;generalize d.getD b []=D at*;refine lX (nn D r g S v a8Z) ?_;refine aG (λc2=> ?_) λc2=> ?_
   .have H:=a7M (λa=>decide (a≠r)) (d.take b);rw[a4z]at H;refine Xa p (λ_ i k7 P=> ?_);have k8:=U.aJ (P.1 _ _ (U.ah _ _ _));have k9:=fI P;have j:=jL (Y:= .cells [i,.J [] .nil]) P (U.ah o a (.cells [h,.J [] .nil]));rw[U.set_set]at j;refine aa ?_;exact⟨b+1,⟨a8Z,i,_,j,by rw[B,a7A,a8s (by simpa using c2),a8v];exact x.snoc ⟨g,rfl⟩⟩,rfl,a8Z⟩
   grind
  .rw[a4x a8Z]at x;exact⟨_,U.a1,a,h,k,rfl,z,p,x⟩
 .rintro y c ⟨a,h,k,rfl,z,p,x⟩;have L:=p.1 _ _ (U.ah _ _ _);have l:=U.ar (U.af U.a1 z) p.1;rcases p.2 with ⟨rfl,I⟩|⟨m,K,l0,M,rfl,E,N,O,l1,l2,l3,l4⟩
  .refine⟨_,c,View.refl,l,?_⟩;rcases I with rfl|rfl<;>exact⟨a,[],_,.nil,rfl,L,x⟩
  .have Q:a≠m:=by rintro rfl;rw[U.ah]at E;cases E
   refine⟨_,_,View.obj (A:= []) L N (by rw[O];omega) Q,?_,a,_,.any,.nil,rfl,U.ah _ _ _,?_⟩
   .intro D s F;have n:D≠a:=by rintro rfl;rw[z]at F;cases F
    have X:D≠m:=by rintro rfl;rw[U.ao _ _ n,F]at E;cases E
    rw[U.ao _ _ n,U.ao _ _ X];exact l _ _ F
   .rw[kq,show M.take K=k by simp_all];exact x
def pI {d:U}{b:Nat}: ∀ {h:List (a6.T b)}{a:List R},az (bw d b) h a->flat a=a
 | [],[],_=>rfl
 | _:: _,k::a,c=>by
  obtain⟨o,p,r,rfl,_⟩:=bw.ptr c.1;have:=pI c.2;simp only[flat,a4Y]at this|-;rw[this];rfl
variable{n b3:R}{f t e4:U}
def bw.shape {p:a6.T e} (r:bw f e p n): ∃a k b d c,n= .ptr a 0/\f a=some (.cells [.J k b,.J d c])/\k.length+d.length=a6.len p/\(e=0->d= [])/\(e≠0->k= []/\d≠ []):=by
 cases e with
 |zero=>obtain⟨a,x,b,c,rfl,o,h⟩:=r;exact⟨a,x,b,[],c,rfl,o,by rw[h.len];rfl,λ_=>rfl,λe=>absurd rfl e⟩
 |succ e=>obtain⟨a,y,b,c,rfl,o,h,z,_⟩:=r;refine⟨a,[],c,y,b,rfl,o,by rw[h.len];simp[a6.len],λe=>(by cases e),λ_=>⟨rfl,?_⟩⟩;rintro rfl;exact z (az.xI h)
variable{g A e0:List R}
theorem a2m {a:List (a6.T i)} (k:az (bw f i) a g) (p:g≠ []) (o:A.take e=g): ∀b c d h,A≠ [.J b c,.J d h]:=by
 rintro b c d h rfl;cases g with
 |nil=>trivial
 |cons r g=>
  cases a with
  |nil=>trivial
  |cons x a=>
   obtain⟨y,_,_,rfl,_⟩:=bw.ptr k.1;cases e with
   |zero=>cases o
   |succ e=>grind
theorem au.Ga (b:au f t 1 g n): ∃a,View t n a (.J g .any)/\f.sub a:=by grind[View.dR,kq,List.take_of_length_le]
theorem bw.rows {a:U}{b:a6.T 0}{c:Nat}{d h:List R}{k o:Own} (p:bw a 0 b (.ptr c 0)) (r:a c=some (.cells [.J d k,.J h o])):az isRow (a6.rows b) d:=by obtain⟨_,_,_,_,x,y,z⟩:=p;simp_all
theorem bw.kids {b:U}{a:Nat}{c:a6.T (a+1)}{d:Nat}{k h:List R}{o p:Own} (r:bw b (a+1) c (.ptr d 0)) (x:b d=some (.cells [.J k o,.J h p])):az (bw b a) (a6.kids c) h:=by obtain⟨_,_,_,_,y,z,a,_⟩:=r;simp_all
variable{M e6 h4:Own}
def r8 (a:aS 1 g) (b:flat g=g):bN f 1 (.J g M)=some (g.length,g):=by have:=(jO.J (o:=M) a).src f U.a1;rwa[b]at this
def vn (k:au t f 1 g (.an e v O 1)) (a:g[i]? =some n):cL 1 (.an e v O 1) (.v (.int .i64 (i:Int)))=some (.ptr e i)/\ ∃b,f.read e=some b/\qd false 1 i (some b)=some n:=by have y:=(a4E.1 a).1;obtain⟨z,C,D,b,c,E,o,p,d,r,F,G⟩:=k.an (by rintro rfl;simp at a);simp only[R.an.injEq,and_true]at c;obtain⟨rfl,rfl,rfl⟩:=c;rw[a5n]at p d r;have h:=jz (e:=1) (i:=e) (v:=v) (O:=O) (e2:= .i64) (b1:=(i)) a8Z a8Z;rw[a5a,a5n]at h;refine⟨h,b,U.ae o,?_⟩;rw[<-d,a5w a8Z]at a;obtain⟨x,rfl⟩:=a4E.1 a;rw[Bu a8Z,a4V x];rfl
theorem a2n {a:List (a6.T i)}{b:a6.T i} (p:e<a.length) (k:2<=a.length) (o: ¬2<=a6.len b):
  ∃d h,(a.set e b)[e - 1]? =some d/\(a.set e b)[e - 1+1]? =some h/\a6.lj a e b=(a.set e b).take (e - 1)++a6.kv d h++(a.set e b).drop (e - 1+2):=by
 rw[a6.lj,if_neg o];by_cases c:e=0
 .subst c;refine⟨b,a[1],a8A a8Z,a9a,?_⟩;rw[if_pos rfl,a4w k,a8R a8Z];rfl
 .refine⟨a[e - 1],b,by grind,by grind,?_⟩;rw[if_neg c,a4w a8Z,a8R a8Z,List.take_set_of_le a8Z];simp[c]
set_option maxHeartbeats 1000000 in
theorem a2o (k7:1<=e) (Q:e<=8) (r:List Int) (k8:Own) (X:bL e r): ∀(a:Nat) (G:a6.T a) (C:R) (p:U),bw p a G C->GT e a G->
  AC Tryz.prog 95 [C,.J (ad r) k8] p λA c=>p.sub c/\bw c a (a6.cI bC r a G) A:=by
 have b44:=X.len;intro a
 induction a with
 |zero=>intro G C p u l;exact a2l r k8 G C p u l Q
 |succ a ih=>
 intro G C p u l;obtain⟨h,rfl⟩:=a6.gp G;have m:=l.kids k7 Q X;have k9:=Ej h C r k8 p u a8Z λb L=>by
  obtain⟨v,_,b45,a86⟩:=m.hd b L;have:=v.dw;have:=a86.len;grind
 obtain⟨b46,l0,b47,b48,rfl,Y,k,_,_⟩:=u;rw[a6.fl]at k;have b49:=k.len;obtain⟨a88,b50⟩:=m.two;obtain⟨b,L⟩:=m.at_;have Z:a6.cI bC r (a+1) (a6.node h)=a6.node (a6.lj h (a6.cS bC r (h.map (a6.cM a))) (a6.cI bC r a b)):=by simp only[a6.cI,a6.fl];rw[L]
 obtain⟨_,_,a89,a90⟩:=a6.pq (gv k7 Q) X (a+1) (a6.node h) l.wf l.dM l.ok;rw[Z,a6.dE,a6.dE]at a89;rw[Z,a6.dE]at a90;rw[Z];rw[m.Ek]at k9;clear Z;generalize a6.cS bC r (h.map (a6.cM a))=o at*;have a16:=(a4E.1 L).1;obtain⟨v,a92,_,_⟩:=m.hd b (a4D L);obtain⟨_,_,a94,a95⟩:=a6.pq (gv k7 Q) X a b v.wf v.dM v.ok;have a18:=λC p u=>ih b C p u v;have a96:=λb L=>(a6.gZ.1 (m.hd b L).2.1).2.1;have a97:=(a6.gZ.1 a92).1;have l1:=a2n (b:=a6.cI bC r a b) a16 a88;have l2:2<=a6.len (a6.cI bC r a b)->a6.lj h o (a6.cI bC r a b)=h.set o (a6.cI bC r a b):=λa=>by rw[a6.lj,if_pos a]
 clear m l;generalize a6.lj h o (a6.cI bC r a b)=l3 at*;generalize a6.cI bC r a b=B at*;refine AC.view (s:=λA c=> ∃d x z D P,A= .ptr d 0/\p d=none/\p x=none/\d≠x/\c d=some (.cells [.J [] .nil,.an x z D 1])/\(∃E,c x=some (.cells E)/\z<=E.length/\E.take z=P)/\az (bw c a) l3 P/\p.sub c) ?_ ?_;rotate_left
 .rintro A c ⟨d,x,z,D,P,rfl,F,a98,a99,j9,⟨E,f,b51,b00⟩,b01,b02⟩;have b52:P≠ []:=by rintro rfl;grind[az.xI]
  refine⟨_,_,View.obj (A:= [.J [] .nil]) j9 f a8Z a99,?_,d,_,.any,.nil,rfl,U.ah _ _ _,?_,?_,by rw[a6.fl];omega⟩
  .intro n a19 H;have b03:n≠d:=by rintro rfl;rw[F]at H;cases H
   have a27:n≠x:=by rintro rfl;rw[a98]at H;cases H
   rw[U.ao _ _ b03,U.ao _ _ a27];exact b02 _ _ H
  .rw[a6.fl,kq,b00];refine b01.mono λ_ _=>bw.vm λI b04 b05 b06 a19 K=> ?_;have k0:I≠d:=by rintro rfl;rw[j9]at K;simp at K
   have l4:I≠x:=by rintro rfl;grind[a2m,bq.cells.inj,Option.some.inj]
   rw[U.ao _ _ k0,U.ao _ _ l4];exact K
  grind[a6.fl]
 have b07:=U.ae Y;have b53: ¬(h.length:Int)=0:=a8Z;have l5:=bw.c k;refine aN hm Bj ?_;refine cl k9 ?_;rintro _ a29 ⟨M,rfl⟩;have b08:=rd M Y;have l6:=k.mono λ_ _=>bw.mono M;refine tW (r8 l5 (pI k)) λb54 b09 N=> ?_;obtain⟨g,z,D,b55,rfl,a27,a30,b10,b11,b12,b56,b57⟩:=au.an N (by grind);obtain rfl:z=h.length:=a8Z;have a34:=N.1;have b13:=rd (U.ar M a34) Y;obtain⟨_,a36,l7⟩:=l6.get L;obtain⟨b14,_,_,rfl,_⟩:=l7.ptr;refine cl (a18 _ b09 (bw.mono a34 l7)) ?_;rintro A l8 ⟨l9,n0⟩;obtain⟨i,_,_,rfl,_⟩:=n0.ptr;obtain⟨n1,a38,a42,-,y⟩:=au.put (a:= .ptr i 0) (by rw[pI l6];exact N.mono l9) a8Z l5 a36 rfl;have b15:=(vn (N.mono l9) a36).1;have b16:=U.aJ a38;rw[a5n]at y a42;have aH:n1.take h.length=l0:=by have I:=l9 _ _ a30;simp_all
 obtain⟨S,n2⟩: ∃S,l8.set g (.cells (putAt n1 o [.ptr i 0]))=S:=⟨_,rfl⟩;have a43:zD l8 S:=λI b04 b05 b06 a19 K=>by
  have l4:I≠g:=by grind
  rw[<-n2,U.ao _ _ l4];exact K
 change au a29 (l8.set g (.cells (putAt n1 o [.ptr i 0]))) 1 _ _ at y;rw[n2]at y;have T:=az.set o (l6.mono λ_ _ j9=>bw.mono y.1 j9) (bw.vm a43 n0);rw[pI T]at y;have b17:=T.len;rw[a7v,a7v]at b17;have a47:(l0.set o (.ptr i 0))[o]? =some (.ptr i 0):=a8A a8Z;have a48:(h.set o B)[o]? =some B:=by simp[a16]
 clear aH a43 n0 k l5 b07 b08 b13 a30 b10 b11 b12 N;generalize b58:h.set o B=a52 at*;generalize l0.set o (.ptr i 0)=a56 at*;have b59:a52.length=h.length:=by grind
 have a57:=U.ar M y.1;have n3: ∀b∈a52,a6.len b<=4:=λb L=>by
  grind
 obtain⟨b60,b18,b19⟩:=(vn y a47).2;obtain⟨b20,cd,b21,a61,n4,a62,a63,b22,_,_⟩:=(T.get a48|>.elim λC a=>by simp_all:bw S a B (.ptr i 0)).shape;obtain rfl:i=b20:=by simpa using a62
 clear a62 a18 ih k9;have b23:=U.ae a63;have a65: ∀(n5 c) (P) (q) (d),p.sub n5->au n5 c 1 P q->az (bw c a) l3 P->c d=none->
   ∃k1 x z D a68,R.ptr d 0= .ptr k1 0/\p k1=none/\p x=none/\k1≠x/\(c.set d (.cells [.J [] .nil,q])) k1=some (.cells [.J [] .nil,.an x z D 1])/\(∃E,(c.set d (.cells [.J [] .nil,q])) x=some (.cells E)/\z<=E.length/\E.take z=a68)/\az (bw (c.set d (.cells [.J [] .nil,q])) a) l3 a68/\p.sub (c.set d (.cells [.J [] .nil,q])):=λn5 c P q d n9 a00 k F=>by
  have a01:=U.af (Y:= .cells [.J [] .nil,q]) U.a1 F;obtain⟨x,z,D,E,rfl,a02,a69,b61,b62,b63,b64,_⟩:=a00.an (λs=>by grind[az.xI]);exact⟨d,x,z,D,P,rfl,U.bF (U.ar n9 a00.1) F,U.bF n9 a02,(λs=>by rw[s,a69]at F;cases F),U.ah _ _ _,⟨E,a01 _ _ a69,a8Z,by simp_all⟩,k.mono λ_ _ a=>bw.mono a01 a,U.ar n9 (U.ar a00.1 a01)⟩
 by_cases c2:2<=a6.len B
 .have aH:(1)<(cd.length)+(a61.length:Int):=a8Z;obtain rfl:=l2 c2;clear l2 l1;have b24:=fI y;refine aa ?_;refine bp λd F=> ?_;exact⟨_,U.a1,a65 a29 S a56 _ d M y T F⟩
 obtain⟨a71,a73,a03,k2,rfl⟩:=l1 c2;have aH: ¬(1)<(cd.length)+(a61.length:Int):=a8Z;clear l2 c2 l1;refine aa ?_;clear aH a63 b22 b23 b19 b18 a47 a48 b15 b16 a38 a42;refine o3 [0,7,8] (λ_:Unit=> [(9,.v (.int .i64 ((o - 1:Nat))))]) (λ_ c=>c=S) (λb=> ?_) (λb=> ?_) ?_
 .have b:=of_decide_eq_true b;have s:((o - 1:Nat):Int)=0:=a8Z;exact aR
 .have b:=of_decide_eq_false b;have s:(o) - 1=((o - 1:Nat):Int):=a8Z;exact aR
 clear n2;rintro _ S rfl b25;generalize o - 1=j at*;have b65:=(a4E.1 k2).1;have b66:=n3 _ (a4D a03);have b67:=n3 _ (a4D k2);obtain⟨_,b26,a04⟩:=T.get a03;obtain⟨_,b27,a05⟩:=T.get k2;obtain⟨b68,b69,b70,b71,b72,rfl,w,b73,_,_⟩:=a04.shape;obtain⟨x,b74,b75,cc,b76,rfl,f,b77,_,_⟩:=a05.shape;obtain⟨b28,b78,b79,b80,b81,s,b29,_,b30,b31⟩:=(bw.mono y.1 l7).shape;obtain rfl:b14=b28:=by simpa using s
 obtain⟨b82,b83,b32,b84⟩:=vn y b26;obtain⟨a74,b85,a06,b86⟩:=vn y b27;have a74:cL 1 (.an g h.length D 1) (.v (.int .i64 ((j)+1)))=some (.ptr g (j+1)):=a74;have b87:=U.ae b29;have b88:=rd a57 Y;rw[b32]at a06;obtain rfl:=a4v a06;clear s a06 n3 a94 a95 a96 a97 a03 k2;refine aa ?_;refine o3 [8,9] (λn:List R×Own=> [(12,.J n.1 n.2)]) (λn c=>S.sub c/\az (bw c a) (a6.kv a71 a73) n.1) (λcV=> ?_) (λcV=> ?_) ?_
 .have cV:=of_decide_eq_true cV;cases a with
  |succ a=>exact absurd (a4B a8Z) (b31 a8Z).2
  |zero=>have k:=a04.rows w;have V:=a05.rows f;have b33:=k.len;have b34:=V.len;have a07:=U.ae w;have a08:=U.ae f;refine tW (r8 (iF k) (nj k)) λa5 b35 t=> ?_;have a07:=rd t.1 w;have a08:=rd t.1 f;refine qt t (r8 (iF V) (nj V)) λds b36 a09=> ?_;obtain⟨a10,a11,k3⟩:=au.Ga a09;refine cl (AC.nm (g:= []) a11 (Ed _ _ .any a10 (k.append V) (by rw[a4y];omega))) ?_;rintro _ a13 ⟨a14,k4,k5,rfl,W⟩;refine aa ?_;exact⟨(k4,k5),⟨U.ar k3 a14,W⟩,rfl⟩
 .have cV:=of_decide_eq_false cV;cases a with
  |zero=>exact absurd (by rw[b30 rfl];rfl) cV
  |succ a=>have k:=a04.kids w;have V:=a05.kids f;have b33:=k.len;have b34:=V.len;have a07:=U.ae w;have a08:=U.ae f;refine tW (r8 (bw.c k) (pI k)) λa5 b35 t=> ?_;have a07:=rd t.1 w;have a08:=rd t.1 f;refine qt t (r8 (bw.c V) (pI V)) λds b36 a09=> ?_;obtain⟨a10,a11,k3⟩:=au.Ga a09;refine cl (AC.nm (g:= []) a11 (xU S _ _ .any a10 (k.append V) (by rw[a4y];omega) k3)) ?_;rintro _ a13 ⟨a14,k4,k5,rfl,W⟩;refine aa ?_;exact⟨(k4,k5),⟨U.ar k3 a14,W⟩,rfl⟩
 rintro⟨k4,k5⟩ a13 ⟨a15,W⟩ b25
 dsimp only at W|-
 have b89:=W.len;have b90:(a6.kv a71 a73).length<=4:=by grind
 have a81:=y.mono a15;have b37:=T.len;have b21:=hL (e:=1) (O:=g) (b8:=h.length) (i:=D) (v:=j) (e2:= .i64) a8Z;obtain⟨b91,b92,b38,_⟩:=(a81.first (i:=j) a8Z).src;obtain⟨_,_,_,b93,k0,_,b39,b94,b40,_,_,_⟩:=a81.an (by rintro rfl;simp at b37;omega);simp only[R.an.injEq,and_true]at k0;obtain⟨rfl,rfl,rfl⟩:=k0;refine tW b38 (λb95 b96 b41=> ?_) (x:=by rw[a4z];omega);refine qt b41 (r8 (bw.c W) (pI W)) (λb97 b42 a83=> ?_) (y:=by rw[a4z];omega);obtain⟨a02,n4,_,k6⟩:=oq (i:=1) (j0:=g) (O:=h.length) (e:=j+2) (e2:= .i64) a8Z a8Z;have k6:=k6 b42 _ a56 (a83.1 _ _ b39) a8Z b40;rw[a5n]at k6;have n4:cg 1 (.an g h.length D 1) (some (.v (.int .i64 ((j)+2)))) none none=some a02:=n4;refine qt a83 k6 (λb98 b43 O=> ?_) (x:=by rw[a4N];omega) (y:=by grind);have b24:=fI O;have a84:=λ{G:a6.T a}{C:R}=>bw.mono (t:=G) (a:=C) (U.ar a15 O.1);refine aa ?_;refine bp λd F=> ?_;rw[a5n]at O;exact⟨_,U.a1,a65 a13 b43 _ _ d (U.ar a57 a15) O ((((T.take j).mono λ_ _ a=>a84 a).append (W.mono λ_ _ a=>bw.mono O.1 a)).append ((T.drop (j+2)).mono λ_ _ a=>a84 a)) F⟩
variable{Q:List (List Int)}
def zE:(dx 0 (a6.leaf Q)).rows.map Prod.fst=Q:=by rw[Zh];show(Q.map λa=>(a,true)).map Prod.fst=Q;rw[a6z];exact List.map_id' Q
def Gb:(dx 0 (a6.leaf Q)).kind=2:=rfl
def zF {a:a6.T (e+1)}: ¬(dx (e+1) a).kind=2:=by show¬(3)=2;decide
def Gc (c:1<=i) (d:i<=8) {a:List (a6.T e)} (h:eX i (e+1) (a6.node a)) (b:List Int):hx b (dx (e+1) (a6.node a))=a6.cS bC b (a.map (a6.cM e)):=by unfold hx;rw[y0];congr 1;show(a.map (c4 e)).map (·.key)= _;rw[a6z];exact a6b λk o=>Zk c d (h.hd k o).1
def Gd {a:List (a6.T e)}:(dx (e+1) (a6.node a)).kids[i]? =a[i]?.map (c4 e):=by rw[y0];show(a.map (c4 e))[i]? = _;simp
variable{q b6:List Int}
theorem Ge (r:1<=i) (x:i<=8) {a:List (a6.T e)} (c:GT i (e+1) (a6.node a)) (y:bL i q) {b:a6.T e} (d:a[a6.cS bC q (a.map (a6.cM e))]? =some b):q∈a6.bh (e+1) (a6.node a)↔q∈a6.bh e b:=by obtain⟨h,D,z,E⟩:=c.wf;rw[a6.dE]at h;have F: ∀b∈a,a6.WF e b:=z;have k:=c.dM;have o:=c.ok;rw[a6.fY]at k o|-;obtain⟨G,p,L,P⟩:=a6.ux (gv r x) y (by intro C;subst C;simp at h) (λb d=>by grind[a6.gZ]) k o;rw[d]at p;obtain rfl:=a4v p;have S:=a6.qJ d;grind[a6.cS,bC,a6.cM,sE]
theorem Gf {D:Nat} (p:1<=D) (r:D<=8) {c:List Int} (z:bL D c): ∀(a:Nat) (y:a6.T a) (C:ag) (F:Nat),GT D a y->gw C a y->a<F->c∉a6.bh a y->Laid C a (a6.eV bC c a y) (gr D c F C (c4 a y))
 |0,y,C,F+1,h,G,_,f=>by
  obtain⟨L,rfl⟩:=a6.hX y;obtain⟨s,t,_⟩:=h.wf;rw[a6.hY]at s t;have S:=h.ok;have g:(dx 0 (a6.leaf L)).rows.map Prod.fst=L:=zE;rw[gr,qN p r h.jS G];simp only;rw[if_pos Gb,g,y9 (Q:=L) p r h.dM S z,decide_eq_false (p:=c∈L) f,if_neg a9d,Zn (Q:=L) p r h.dM S z];exact Es p r C (a6.dL bC L c) (by rw[a6.om];omega) (by rw[a6.om];omega) λE k=>by
   rcases a6.sz.1 k with rfl|k
   .exact z
   .exact S E k
 |a+1,y,C,F+1,h,G,H,f=>by
  obtain⟨b,rfl⟩:=a6.gp y;have i:=h.kids p r z;obtain⟨d,P⟩:=i.at_;have j:=a4D P;have l:c∉a6.bh a d:=λx=>f ((Ge p r h z P).2 x);obtain⟨I,K⟩:=i.two;have T:=(i.hd d j).1;obtain⟨u,M,N,O⟩:=a6.qK (gv p r) z a d T.wf T.dM T.ok l;have ih:=Gf p r z a d C F T (G.2 d j) a8Z l;rw[gr,qN p r h.jS G];simp only;rw[if_neg zF,Gc p r h.jS,Gd,P];simp only[a5x];have m:a6.eV bC c (a+1) (a6.node b)=(a6.chunks (b.take (a6.cS bC c (b.map (a6.cM a)))++a6.eV bC c a d++b.drop (a6.cS bC c (b.map (a6.cM a))+1))).map a6.node:=by simp only[a6.eV,a6.fl];rw[P]
  rw[m];clear m;have Q:=(a4E.1 P).1;have X:=a6.qJ P;generalize a6.cS bC c (b.map (a6.cM a))=o at*;generalize gr D c F C (c4 a d)=E at*;obtain⟨Y,v⟩:=E;obtain⟨n,V,q⟩:=ih;simp only at n V q;subst n;simp only;have g:(dx (a+1) (a6.node b)).kids.take o++((a6.eV bC c a d).map (c4 a)++(dx (a+1) (a6.node b)).kids.drop (o+1))=(b.take o++a6.eV bC c a d++b.drop (o+1)).map (c4 a):=by rw[y0];show(b.map (c4 a)).take o++(_++(b.map (c4 a)).drop (o+1))= _;simp
  rw[g];have w: ∀E∈(b.take o++a6.eV bC c a d++b.drop (o+1)).flatMap (a6.bh a),bL D E:=λE k=>by
   rw[a5m,a5m,u,a4M,a4M]at k;have S:=h.ok;rw[a6.fY]at S;rcases k with (k|k)|k;grind
   .rcases a6.sz.1 k with rfl|k
    .exact z
    .exact T.ok E k
   grind
  have A:((b.take o++a6.eV bC c a d++b.drop (o+1)).flatMap (a6.bh a)).length=(a6.bh (a+1) (a6.node b)).length+1:=by grind[a6.fY,List.length_append,a6.om]
  have Z:=h.dw;have j9: ∀d∈b,a6.WF a d:=h.wf.2.2.1;have:=y6 p r v (b.take o++a6.eV bC c a d++b.drop (o+1)) (by grind) (by grind) (λW x=>by
   grind) w (by rw[A];omega) (λk0 e B W x=>by
   simp only[a4M]at x;rcases x with (x|x)|x
   .exact(G.2 W (a4K x)).mono (V.trans e)
   .exact(q (e.zero B) W x).mono e
   .exact(G.2 W (a5b x)).mono (V.trans e))
  exact⟨this.ok,V.trans this.le,this.ins⟩
def iM:eD->ay
 |none=>aA
 |some ⟨a,b⟩=>c4 a b
def mw (a:ag):eD->Prop
 |none=>True
 |some ⟨b,c⟩=>gw a b c
def mw.mono {a b:ag} (c:a.le b) {t:eD} (d:mw a t):mw b t:=by
 match t with
 |none=>trivial
 |some ⟨_,_⟩=>exact gw.mono c d
structure pJ (a:ag) (t:eD) (r:Except Int ay×ag):Prop where
 ok:r.1= .ok (iM t)
 le:a.le r.2
 ins:r.2.one=false->mw r.2 t
variable{H:ag}
def a2p (F:1<=i) (G:i<=8) {r:ag}{a:List (a6.T e)} (L:1<=a.length) (P:a.length<=2) (k:Laid r e a (.ok (a.map (c4 e)),H)) (S: ∀b∈a,a6.WF e b) (T: ∀o∈a.flatMap (a6.bh e),bL i o) (V:(a.flatMap (a6.bh e)).length<=1048576):
  pJ r (pr a) (iD i ((a.map (c4 e)).length+1) H (a.map (c4 e))):=by
 match a,L,P with
 | [b],_,_=>
  have p:iD i (([b].map (c4 e)).length+1) H ([b].map (c4 e))=(.ok (c4 e b),H):=by rw[iD];rfl
  rw[p];exact⟨rfl,k.le,λc=>k.ins c b a9a⟩
 | [d,h],_,_=>
  have x:=y6 F G H [d,h] a9a a9a S T V (λg y c W f=>(k.ins (y.zero c) W f).mono y);rw[a6.pk a9a a9a]at x;rw[iD,if_pos a9a];generalize jN H i ([d,h].map (c4 e))=o at*;obtain⟨j,z⟩:=o;obtain⟨C,D,E⟩:=x;simp only at C D E;subst C;simp only;have p:iD i (([d,h].map (c4 e)).length) z (([[d,h]].map a6.node).map (c4 (e+1)))=(.ok (c4 (e+1) (a6.node [d,h])),z):=by rfl
  rw[p];exact⟨rfl,k.le.trans D,λc=>E c _ a9a⟩
variable{b7:eD}
def a2q (c:1<=e) (d:e<=8) (h:bL e q) (D:iH e b7) (E:mw H b7) (F:q∉eE b7):pJ H (kB b7 q) (jd e q H (iM b7)):=by
 match b7 with
 |none=>have G:=uy c d (Q:= [q]) a9a a9a (by simpa using h);unfold jd;show pJ H _ (if aA=aA then _ else _);rw[if_pos rfl,qM G.ov];exact⟨rfl,ln _ _,λL=>qL L⟩
 |some ⟨a,b7⟩=>
  have b:GT e a b7:=D;have o:q∉a6.bh a b7:=F;have y:=uz c d b.jS;have g:=eX.high a b7 b.jS;have i:=y.size;have j:=b.dw;have P:=Gf c d h a b7 H ((c4 a b7).size.toNat+1) b E a8Z o;obtain⟨z,S,T,V⟩:=a6.qK (gv c d) h a b7 b.wf b.dM b.ok o;have p:kB (some ⟨a,b7⟩) q=pr (a6.eV bC q a b7):=by simp only[kB];rw[if_neg o]
  rw[p];unfold jd;show pJ H _ (if c4 a b7=aA then _ else(match gr e q ((c4 a b7).size.toNat+1) H (c4 a b7)with|(.error p,r)=>(.error p,r)|(.ok bI,r)=>iD e (bI.length+1) r bI));rw[if_neg y.ne];generalize gr e q ((c4 a b7).size.toNat+1) H (c4 a b7)=x at*;obtain⟨l,m⟩:=x;obtain⟨C,W,f⟩:=P;simp only at C;subst C;simp only;refine a2p c d T V ⟨rfl,W,f⟩ S (λx k=> ?_) (by rw[z,a6.om];omega);rw[z]at k;rcases a6.sz.1 k with rfl|k
  .exact h
  .exact b.ok x k
theorem a2r (y:1<=e) (z:e<=8) (d:bL e q) (P:iH e b7) (S:(eE b7).length<1000):iH e (kB b7 q)/\(eE (kB b7 q)).length<=(eE b7).length+1:=by
 match b7 with
 |none=>
  refine⟨⟨⟨?_,?_,trivial,λa=>by omega⟩,?_,?_,?_⟩,?_⟩
  .simp[a6.hY]
  .simp[a6.hY]
  .rw[a6.ku];simp
  .rw[a6.ku];simpa using d
  .rw[a6.ku];simp
  .show(a6.bh 0 (a6.leaf [q])).length<= _;rw[a6.ku];simp
 |some ⟨a,b7⟩=>
  have c:GT e a b7:=P;have W:(a6.bh a b7).length<1000:=S;simp only[kB];by_cases k:q∈a6.bh a b7;simp_all;rw[if_neg k];obtain⟨o,h,T,V⟩:=a6.qK (gv y z) d a b7 c.wf c.dM c.ok k;have C:=a6.Yr (gv y z) c.dM c.ok d k;have D: ∀p∈a6.dL bC (a6.bh a b7) q,bL e p:=λp r=>by
   rcases a6.sz.1 r with rfl|r
   .exact d
   .exact c.ok p r
  have f:=a6.om (lt:=bC) (h9:=a6.bh a b7) (h3:=q);generalize a6.dL bC (a6.bh a b7) q=E at*
  match F:a6.eV bC q a b7,T,V with
  | [x],_,_=>
   rw[F]at o h;have b:a6.bh a x=E:=by rw[<-o];simp
   refine⟨⟨a6.jM.of (h x a9a),by rw[b];exact C,by rw[b];exact D,by rw[b];omega⟩,?_⟩;show(a6.bh a x).length<=(a6.bh a b7).length+1;rw[b];omega
  | [G,L],_,_=>
   rw[F]at o h;have b:a6.bh (a+1) (a6.node [G,L])=E:=by trivial
   refine⟨⟨⟨by rw[a6.dE];simp,by rw[a6.dE];simp,h,λ_=>by rw[a6.dE];simp⟩,by rw[b];exact C,by rw[b];exact D,by rw[b];omega⟩,?_⟩;show(a6.bh (a+1) (a6.node [G,L])).length<=(a6.bh a b7).length+1;rw[b];omega
def fo:(a:Nat)->a6.T a->hZ
 |0,b=>⟨true,a6.rows b,[]⟩
 |a+1,b=>⟨false,[],(a6.kids b).map (c4 a)⟩
def oH (b:ag):(a:Nat)->a6.T a->Prop
 |0,_=>True
 |a+1,c=> ∀d∈a6.kids c,gw b a d
def oH.mono {b c:ag} (h:b.le c): ∀ {a:Nat}{d:a6.T a},oH b a d->oH c a d
 |0,_,_=>trivial
 | _+1,_,a=>λk o=>gw.mono h (a k o)
def gw.p: ∀ {a:Nat}{b:a6.T a},gw H a b->oH H a b
 |0,_,_=>trivial
 | _+1,_,a=>a.2
def a2s: ∀ {b:Nat}{a:a6.T b},(fo b a).rows.length+(fo b a).kids.length=a6.len a
 |0,a=>rfl
 |b+1,a=>by show 0+((a6.kids a).map (c4 b)).length= _;rw[a4I,a4W];rfl
def Gg: ∀ {b:Nat}{a:a6.T b},hc (dx b a)=fo b a
 |0,a=>by
  obtain⟨c,rfl⟩:=a6.hX a;unfold hc;rw[zE];rfl
 |b+1,a=>rfl
def zG: ∀ {a:Nat}{b:a6.T a},mg H e (fo a b).leaf (fo a b).rows (fo a b).kids=dv H e (dx a b)
 |0,b=>rfl
 |a+1,b=>rfl
theorem Gh (C:1<=e) (D:e<=8) (k:ag): ∀ {c:Nat} (a b:a6.T c),a6.lh c a->a6.lh c b->2<=a6.len a+a6.len b->a6.len a+a6.len b<=5->(∀d∈a6.bh c a,bL e d)->(∀d∈a6.bh c b,bL e d)->
  (a6.bh c a).length+(a6.bh c b).length<=1048576->(∀h,k.le h->h.one=false->oH h c a/\oH h c b)->Laid k c (a6.kv a b) (ky k e (fo c a) (fo c b))
 |0,a,b,_,_,p,r,x,y,_,_=>by
  obtain⟨a,rfl⟩:=a6.hX a;obtain⟨b,rfl⟩:=a6.hX b;rw[a6.hY,a6.hY]at p r;exact Es C D k (a++b) (by rw[a4y];omega) (by rw[a4y];omega) λd E=>(a4M.1 E).elim (x d) (y d)
 |c+1,a,b,bW,ct,p,r,x,y,F,G=>by
  obtain⟨a,rfl⟩:=a6.gp a;obtain⟨b,rfl⟩:=a6.gp b;rw[a6.dE,a6.dE]at p r;rw[a6.fY]at x y F;rw[a6.fY]at F;have:=y6 C D k (a++b) (by rw[a4y];omega) (by rw[a4y];omega) (λo z=>(a4M.1 z).elim (bW o) (ct o)) (λd E=>by
   grind) (by simp_all) (λh L P o z=>(a4M.1 z).elim ((G h L P).1 o) ((G h L P).2 o))
  rw[a5y]at this;exact this
theorem a2t (C:1<=i) (D:i<=8) (o:ag) {d:List (a6.T e)}{c:a6.T e} (m:v<d.length) (B:2<=d.length) (z: ∀b∈d,eX i e b/\a6.WF e b/\gw o e b) (H:1<=a6.len c) (n:a6.len c<=4) (T:a6.lh e c)
  (V: ∀E∈a6.bh e c,bL i E) (q: ∀b∈d,(a6.bh e b).length+(a6.bh e c).length<=1048576) (W: ∀r,o.le r->r.one=false->oH r e c):Laid o e (a6.lj d v c) (jQ o i (d.map (c4 e)) v (fo e c)):=by
 unfold jQ a6.lj;rw[a2s];have s:(a6.bh e c).length<=1048576:=by have:=q _ (a4Z m);omega
 by_cases F:2<=a6.len c
 .rw[if_pos F,if_pos F,zG];have t:=a6.gZ.2 ⟨F,n,T⟩;have u:=(nq C D e c (Er t V s)).1;rw[qM u.ov];simp only;refine⟨?_,ln _ _,λk b a=> ?_⟩
  .rw[<-sF,List.map_set]
  .rcases a6F a with a|rfl
   .exact(z b a).2.2.mono (ln _ _)
   .have S:=qL k;have f:=W _ (ln o (cX (dx e b))) k
    match e,b,S,f with
    |0,b,S,f=>exact S
    |e+1,b,S,f=>trivial
 .rw[if_neg F,if_neg F];have I:a6.len c=1:=a8Z;by_cases l:v=0
  .subst l;simp only[if_true];have x:d[1]? =some d[1]:=a4w a8Z;rw[a4X,x];generalize d[1]=y at x;have h:=z y (a4D x);have g:=a6.gZ.1 h.2.1;simp only[a5x];rw[qN C D h.1 h.2.2];simp only;rw[Gg];have j:=Gh C D o c y T g.2.2 a8Z a8Z V h.1.ok (by grind) (λr G k=>⟨W r G k,(h.2.2.mono G).p⟩);generalize ky o i (fo e c) (fo e y)=E at*;obtain⟨w,A⟩:=E;obtain⟨L,p,P⟩:=j;simp only at L p P;subst L;simp only;refine⟨a9a,p,λk b a=> ?_⟩;simp only[a4M]at a;rcases a with (a|a)|a;simp_all
   .exact P k b a
   .exact(z b (a5b a)).2.2.mono p
  .simp only[if_neg l];have x:d[v - 1]? =some d[v - 1]:=a4w a8Z;rw[a4X,x];generalize d[v - 1]=y at x;have h:=z y (a4D x);have g:=a6.gZ.1 h.2.1;simp only[a5x];rw[qN C D h.1 h.2.2];simp only;rw[Gg];have j:=Gh C D o y c g.2.2 T a8Z a8Z h.1.ok V (by grind) (λr G k=>⟨(h.2.2.mono G).p,W r G k⟩);generalize ky o i (fo e y) (fo e c)=E at*;obtain⟨w,A⟩:=E;obtain⟨L,p,P⟩:=j;simp only at L p P;subst L;simp only;refine⟨a9a,p,λk b a=> ?_⟩;simp only[a4M]at a;rcases a with (a|a)|a
   .exact(z b (a4K a)).2.2.mono p
   .exact P k b a
   .exact(z b (a5b a)).2.2.mono p
structure a2u (a:ag) (h:Nat) (t:a6.T h) (r:Except Int hZ×ag):Prop where
 ok:r.1= .ok (fo h t)
 le:a.le r.2
 ins:r.2.one=false->oH r.2 h t
theorem Gi {p:Nat} (c:1<=p) (d:p<=8) {b:List Int} (y:bL p b): ∀(a:Nat) (k:a6.T a) (r:ag) (z:Nat),GT p a k->gw r a k->a<z->b∈a6.bh a k->a2u r a (a6.cI bC b a k) (ia p b z r (c4 a k))
 |0,k,r,z+1,h,E,_,T=>by
  obtain⟨F,rfl⟩:=a6.hX k;have V:(dx 0 (a6.leaf F)).rows.map Prod.fst=F:=zE;rw[ia,qN c d h.jS E];simp only;rw[if_pos Gb,V,y9 (Q:=F) c d h.dM h.ok y,decide_eq_true (p:=b∈F) T,if_pos rfl,Zo (Q:=F) c d h.dM h.ok y T];exact⟨rfl,ag.le_refl,λ_=>trivial⟩
 |a+1,k,r,z+1,h,E,O,T=>by
  obtain⟨x,rfl⟩:=a6.gp k;have C:=h.kids c d y;obtain⟨o,G⟩:=C.at_;have e:=a4D G;have t:=(Ge c d h y G).1 T;obtain⟨u,Q⟩:=C.two;obtain⟨D,v,_,_⟩:=C.hd o e;have X:=a6.gZ.1 v;obtain⟨w,A,Y,B⟩:=a6.pq (gv c d) y a o D.wf D.dM D.ok;have ih:=Gi c d y a o r z D (E.2 o e) a8Z t;rw[ia,qN c d h.jS E];simp only;rw[if_neg zF,Gc c d h.jS,Gd,G];simp only[a5x];have f:a6.cI bC b (a+1) (a6.node x)=a6.node (a6.lj x (a6.cS bC b (x.map (a6.cM a))) (a6.cI bC b a o)):=by simp only[a6.cI,a6.fl];rw[G]
  rw[f];clear f;have H:=(a4E.1 G).1;generalize a6.cS bC b (x.map (a6.cM a))=I at*;generalize ia p b z r (c4 a o)=L at*;obtain⟨K,g⟩:=L;obtain⟨i,W,j⟩:=ih;simp only at i W j;subst i;simp only;have Z:=D.dw;have j9:(a6.bh a (a6.cI bC b a o)).length<=1000:=by grind
  have M:=a2t c d g H u (λP S=>⟨(C.hd P S).1.jS,(C.hd P S).2.1,(E.2 P S).mono W⟩) a8Z B A (λL l=>by
   rw[w]at l;exact D.ok L (a7w.1 l).1) (λP S=>by have:=(C.hd P S).1.dw;omega) (λk0 m N=>(j (m.zero N)).mono m)
  have V:(dx (a+1) (a6.node x)).kids=x.map (c4 a):=rfl;rw[V];generalize jQ g p (x.map (c4 a)) I (fo a (a6.cI bC b a o))=L at*;obtain⟨K,k1⟩:=L;obtain⟨n,q,s⟩:=M;simp only at n q s;subst n;simp only;exact⟨rfl,W.trans q,s⟩
def vo:(b:Nat)->a6.T b->eD
 |0,a=>if a6.len a=0 then none else some ⟨0,a⟩
 |b+1,a=>match a6.kids a with
  | [c]=>some ⟨b,c⟩
  | _=>some ⟨b+1,a⟩
def jr (a:eD) (c:List Int):eD:=
 match a with
 |none=>none
 |some ⟨b,a⟩=>if c∈a6.bh b a then vo b (a6.cI bC c b a)else some ⟨b,a⟩
theorem a2v (C:1<=e) (D:e<=8) (j:bL e q) (l:iH e b7) (m:mw H b7) (S:q∈eE b7):pJ H (jr b7 q) (lk e q H (iM b7)):=by
 match b7 with
 |none=>cases S
 |some ⟨a,b7⟩=>
  have d:GT e a b7:=l;have T:q∈a6.bh a b7:=S;have V:=uz C D d.jS;have h:=eX.high a b7 d.jS;have w:=V.size;have A:=d.dw;have B:=Gi C D j a b7 H ((c4 a b7).size.toNat+1) d m a8Z T;obtain⟨n,r,x,o⟩:=a6.pq (gv C D) j a b7 d.wf d.dM d.ok;have s:jr (some ⟨a,b7⟩) q=vo a (a6.cI bC q a b7):=by simp only[jr];rw[if_pos T]
  have t:iM (some ⟨a,b7⟩)=c4 a b7:=rfl;rw[s];unfold lk;rw[t,if_neg V.ne];have p: ∀E∈a6.bh a (a6.cI bC q a b7),bL e E:=λE u=>by
   rw[n]at u;exact d.ok E (a7w.1 u).1
  have z:(a6.bh a (a6.cI bC q a b7)).length<=1000:=by grind
  have P:=d.wf;clear w V m s t l;generalize ia e q ((c4 a b7).size.toNat+1) H (c4 a b7)=E at*;generalize a6.cI bC q a b7=b at*;obtain⟨K,M⟩:=E;obtain⟨v,F,k⟩:=B;simp only at v F k;subst v;simp only;clear S T d h A n
  match a,b7,b,r,x,o,p,z,k,P with
  |0,b7,b,r,x,o,p,z,k,P=>
   show pJ H (if a6.len b=0 then none else some ⟨0,b⟩) _;have W: ¬((fo 0 b).leaf=false/\(fo 0 b).kids.length=1):=λh=>absurd h.1 (show¬true=false by decide);by_cases c:a6.len b=0
   .rw[if_pos c,if_pos (⟨rfl,c⟩)];exact⟨rfl,F,λ_=>trivial⟩
   .have f: ¬((fo 0 b).leaf=true/\(fo 0 b).rows.length=0):=λh=>c h.2;rw[if_neg c,if_neg f,if_neg W,zG];have g:=(nq C D 0 b ⟨⟨a8Z,o,trivial,λh=>by omega⟩,p,a8Z⟩).1;rw[qM g.ov];exact⟨rfl,F.trans (ln _ _),λc=>qL c⟩
  |a+1,b7,b,r,x,o,p,z,k,P=>
   have N:=P.2.2.2 a8Z;have f: ¬((fo (a+1) b).leaf=true/\(fo (a+1) b).rows.length=0):=λh=>absurd h.1 (show¬false=true by decide);rw[if_neg f];obtain⟨y,rfl⟩:=a6.gp b;rw[a6.dE]at x o
   match y,x,o,r,p,z,k with
   | [],x,_,_,_,_,_=>simp at x;omega
   | [i],_,_,r,p,z,k=>rw[if_pos (⟨rfl,rfl⟩)];exact⟨rfl,F,λc=>k c i (by simp[a6.fl])⟩
   |G::L::y,_,o,r,p,z,k=>
    have W: ¬((fo (a+1) (a6.node (G::L::y))).leaf=false/\(fo (a+1) (a6.node (G::L::y))).kids.length=1):=λh=>by
     have:=h.2;rw[show(fo (a+1) (a6.node (G::L::y))).kids=(G::L::y).map (c4 a)from rfl]at this;simp at this
    rw[if_neg W,zG];have g:=(nq C D (a+1) (a6.node (G::L::y)) ⟨⟨by rw[a6.dE];simp,by rw[a6.dE];exact o,r,λ_=>by rw[a6.dE];simp⟩,p,a8Z⟩).1;rw[qM g.ov];exact⟨rfl,F.trans (ln _ _),λc=>⟨qL c,λi I=>(k ((ln _ _).zero c) i I).mono (ln _ _)⟩⟩
theorem a2w (P:1<=e) (S:e<=8) (T:bL e q) (F:iH e b7):iH e (jr b7 q)/\(eE (jr b7 q)).length<=(eE b7).length:=by
 match b7 with
 |none=>exact⟨trivial,a5c _⟩
 |some ⟨c,b7⟩=>
  have d:GT e c b7:=F;simp only[jr];by_cases G:q∈a6.bh c b7
  .rw[if_pos G];obtain⟨b,h,o,k⟩:=a6.pq (gv P S) T c b7 d.wf d.dM d.ok;have i:=a7M (λa=>decide (a≠q)) (a6.bh c b7);have y:=d.dM.filter λa=>decide (a≠q);have z: ∀C∈(a6.bh c b7).filter (λa=>decide (a≠q)),bL e C:=λC V=>d.ok C (a7w.1 V).1;have j:=d.dw;have p:=d.wf;show iH e _/\ _<=(a6.bh c b7).length;generalize (a6.bh c b7).filter (λa=>decide (a≠q))=W at*;generalize a6.cI bC q c b7=a at*;generalize (a6.bh c b7).length=r at*;clear G F d
   match c,a,b7,b,h,o,k,p with
   |0,a,b7,b,h,o,k,p=>
    show iH e (if a6.len a=0 then none else some ⟨0,a⟩)/\(eE (if a6.len a=0 then none else some ⟨0,a⟩)).length<=r;by_cases L:a6.len a=0
    .rw[if_pos L];exact⟨trivial,by simp[eE]⟩
    .rw[if_neg L];refine⟨⟨⟨a8Z,k,trivial,λl=>by omega⟩,by rw[b];exact y,by rw[b];exact z,by rw[b];omega⟩,?_⟩;show(a6.bh 0 a).length<=r;rw[b];omega
   |c+1,a,b7,b,h,o,k,p=>
    have m:=p.2.2.2 a8Z;obtain⟨D,rfl⟩:=a6.gp a;rw[a6.dE]at o k
    match D,o,k,h,b with
    | [],o,_,_,_=>simp at o;omega
    | [E],_,_,h,b=>
     have x:a6.bh c E=W:=by rw[<-b,a6.fY];simp
     refine⟨⟨a6.jM.of (h E (by simp[a6.fl])),by rw[x];exact y,by rw[x];exact z,by rw[x];omega⟩,?_⟩;show(a6.bh c E).length<=r;rw[x];omega
    |f::g::D,_,k,h,b=>refine⟨⟨⟨by rw[a6.dE];simp,by rw[a6.dE];exact k,h,λ_=>by rw[a6.dE];simp⟩,by rw[b];exact y,by rw[b];exact z,by rw[b];omega⟩,?_⟩;show(a6.bh (c+1) (a6.node (f::g::D))).length<=r;rw[b];omega
  simp_all
def a2x (q:1<=e) (s:e<=8) (b:List Int) (S:Own) (t:bL e b) (a:eD) (o:R) (p:U) (C:fM p a o) (H:iH e a):
  AC Tryz.prog 53 [o,.J (ad b) S] p λT u=>p.sub u/\ ∃v h,T= .aK [v,.v (.bool h)]/\fM u (jr a b) v:=by
 have D: ∀o h:R,aX false 1 [o,h]=o:=λ_ _=>rfl;have E: ∀o h:R,aX false 1 ([o,h].drop 1)=h:=λ_ _=>rfl;refine bd hm KS a9a ?_
 match a with
 |none=>obtain rfl:=C;refine bT ?_;refine ai (Za p) ?_;rintro _ p ⟨rfl,rfl⟩;refine bT ?_;refine ai (xW [] [] .nil S b p trivial a9a a9a) ?_;rintro _ _ ⟨rfl,rfl⟩;have I:decide (b∈([]))=false:=a9a;refine aj @I ?_;exact⟨_,U.a1,U.a1,_,_,rfl,rfl⟩
 |some ⟨c,a⟩=>
  obtain⟨h,k3,k4,rfl,k5⟩:=bw.ptr C;have r:GT e c a:=H;have k6:=r.dw;refine bT ?_;refine ai (xV c a (.ptr h 0) p C a8Z) ?_;rintro _ l ⟨V,K,M,rfl,N⟩;refine bT ?_;refine ai (xW _ K M S b l N a8Z λT O=>by have:=(r.ok T O).len;omega) ?_;rintro _ l ⟨rfl,rfl⟩;by_cases W:b∈a6.bh c a
  .refine aj @W ?_;refine ai (a2o q s b S t c a (.ptr h 0) l (bw.mono V C) r) ?_;rintro T m ⟨Q,z⟩;have X:jr (some ⟨c,a⟩) b=vo c (a6.cI bC b c a):=by simp only[jr];rw[if_pos W]
   rw[X];obtain⟨_,k7,k8,F⟩:=a6.pq (gv q s) t c a r.wf r.dM r.ok;have k9:=r.wf;have f:=U.ar V Q;generalize a6.cI bC b c a=x at*;cases c with
   |zero=>
    obtain⟨Y,g,w,Z,rfl,k,d⟩:=id z;have G:=d.len;have l0:g.length<=4:=by rw[G];exact F
    have L:(([]:List R).length:Int)=0:=rfl;have y: ¬((0:Int)=1):=a8Z;refine aj (bm (U.ae k) @D @E @L @y) ?_;by_cases A:(g.length:Int)=0
    .have n:(0)+(g.length:Int)=0:=a8Z;refine aj (c6 (U.ae k) @D @E @L @y @A @n) ?_;refine⟨_,U.a1,f,_,_,rfl,?_⟩;show fM m (if a6.len x=0 then none else some ⟨0,x⟩) _;rw[if_pos (by show(a6.rows x).length=0;omega)];rfl
    .have n: ¬((0)+(g.length:Int)=0):=a8Z;refine aj (c6 (U.ae k) @D @E @L @y @A @n) ?_;refine⟨_,U.a1,f,_,_,rfl,?_⟩;show fM m (if a6.len x=0 then none else some ⟨0,x⟩) _;rw[if_neg (by show¬(a6.rows x).length=0;omega)];exact z
   |succ c=>
    obtain⟨B,rfl⟩:=a6.gp x;obtain⟨Y,i,w,Z,rfl,k,d,j,_⟩:=id z;rw[a6.fl]at d j;have G:=d.len;rw[a6.dE]at F
    match B,i,d,j,G,k,z,F with
    | [],_,_,j,_,_,_,_=>exact absurd rfl j
    | [j9],[l1],d,_,_,k,_,_=>
     have l2:=d.1.cells;obtain⟨P,l3,l4,rfl,_⟩:=bw.ptr d.1;have k0:cL 1 (.J [.ptr P 0] w) (.v (.int .i64 0))=some (.bV [.ptr P 0]):=by rw[hJ a8Z];rfl
     have k1:dn false 1 m (.bV [.ptr P 0])=some (.ptr P 0):=rfl;have y:(([R.ptr P 0]).length)=1:=rfl;refine aj (bs (U.ae k) @D @E @y @k0 @k1) ?_;refine⟨_,U.a1,f,_,_,rfl,?_⟩;exact d.1
    |j9::c2::B,i,d,_,G,k,z,F=>simp only[a4C]at G F;have y: ¬((i.length:Int)=1):=a8Z;have L:(([]:List R).length)=0:=rfl;have k2: ¬((i.length:Int)+0=0):=a8Z;refine aj (bs (U.ae k) @D @E @L @y @k2) ?_;refine⟨_,U.a1,f,_,_,rfl,?_⟩;exact z
  .refine aj @W ?_;refine⟨_,U.a1,V,_,_,rfl,?_⟩;simp only[jr,if_neg W];exact bw.mono V C
structure aT where
 name:List UInt8
 aD:List (List UInt8)
 rows:List (List Int)
 bM:aC
 cq:eD
instance:Inhabited aT:=⟨⟨[],[],[],.nil,none⟩⟩
def aT.bz (a:aT):aL:=⟨a.name,a.aD,bo a.bM,iM a.cq⟩
def bX (a:List aT) (b:List UInt8):Nat:=a.findIdx λc=>decide (c.name=b)
def js (a:List aT) (b:List UInt8):Nat:=(a.takeWhile λc=> !c5 b c.name).length
def bP (a:List Int):Int:=a.getD 0 0
def hi (a:List Int) (c:List (List Int)):List (List Int):=c.takeWhile (λb=> !decide (bP a<bP b))++a::c.dropWhile (λb=> !decide (bP a<bP b))
def r9 (a:List (List Int)):List (List Int):=a.foldl (λb c=>hi c b) []
def aT.put (a:aT) (b:List Int):aT:=⟨a.name,a.aD,r9 (a.rows++ [b]),(cY (a.aD.length+1) b a.bM 0).1,kB a.cq b⟩
def aT.del (a:aT) (b:List Int):aT:=⟨a.name,a.aD,a.rows.filter (λc=>decide (c≠b)),(lr (a.aD.length+1) b a.bM).1,jr a.cq b⟩
def eF (a:List aT) (b:cw):Int×List aT:=
 if eu b=false then(1,a)
 else if b.kind=1 then(if bX a b.table<a.length then(4,a)else if 7<a.length then(10,a)else(0,a.take (js a b.table)++⟨b.table,b.aD,[],.nil,none⟩::a.drop (js a b.table)))
 else if a.length<=bX a b.table then(3,a)
 else if b.kind=2 then(0,a.eraseIdx (bX a b.table))
 else if b.row.length≠(a.getD (bX a b.table) default).aD.length+1 then(6,a)
 else if b.kind=4 then(if b.row∈(a.getD (bX a b.table) default).rows then(0,a.set (bX a b.table) ((a.getD (bX a b.table) default).del b.row))else(9,a))
 else if(a.getD (bX a b.table) default).rows.any (λc=>decide (bP c=bP b.row))=true then(8,a)
 else(0,a.set (bX a b.table) ((a.getD (bX a b.table) default).put b.row))
structure eM (n:Nat) (t:aT):Prop where
 right:eu ⟨1,t.name,t.aD,[]⟩=true
 dz:lx (t.aD.length+1) n t.bM
 fV:t.bM.all.Perm t.rows
 go:iH (t.aD.length+1) t.cq
 nH:(eE t.cq).Perm t.rows
 dM:t.rows.Pairwise (λa b=>bP a<bP b)
 dw:t.rows.length<=n
variable{j7:aT}
theorem eM.c (a:eM e j7):1<=j7.aD.length/\j7.aD.length<=7:=by have b:=a.right;simp_all [eu,nr]
def eM.row (a:eM e j7) (b:q∈j7.rows):bL (j7.aD.length+1) q:=a.dz.fe q (aC.gD (a.fV.mem_iff.2 b))
def eM.le (a:eM e j7) (b:e<=i):eM i j7:=⟨a.right,⟨a.dz.fe,a.dz.va,by have:=a.dz.cm;omega⟩,a.fV,a.go,a.nH,a.dM,by have:=a.dw;omega⟩
structure dj (n:Nat) (cJ:List aT):Prop where
 ok: ∀t∈cJ,eM n t
 dM:cJ.Pairwise (λa b=>c5 a.name b.name=true)
 dw:cJ.length<=8
theorem dj.nil {n:Nat}:dj n []:=⟨λb a=>(by cases a),.nil,a9a⟩
def zH (b:1<=e) (c:e<=8) (a:iH e b7):(b7=none/\iM b7=aA)\/(b7≠none/\je e (eE b7).length (iM b7)):=by
 match b7,a with
 |none,_=>exact .inl ⟨rfl,rfl⟩
 |some ⟨d,b7⟩,a=>exact .inr ⟨a9a,uz b c (GT.jS a)⟩
theorem eM.bz {d:Nat}{h:aT} (a:eM d h) (x:d<=1000):fR h.bz=true:=by
 have y:=a.c;have c:=fc a8Z a8Z a.dz.fe (by have:=a.dz.cm;omega);have z:=a.dz.cm;have C:=a.fV.length_eq;have k:=a.nH.length_eq;have D:=a.dw;have o:=c.live;unfold fR aT.bz
 dsimp only
 simp only[a4A,a6g,decide_eq_true_eq];rcases zH a8Z a8Z a.go with ⟨p,b⟩|⟨p,b⟩
 .have r:(aA).live=0:=rfl;rw[p]at k;refine⟨a.right,c.ok a8Z,?_,?_,by rw[c.key];rfl,.inl b⟩
  .rw[b];unfold fw;rfl
  .rw[b,o,r];simp[eE]at k;omega
 .refine⟨a.right,c.ok a8Z,b.ok a8Z,?_,by rw[c.key];rfl,.inr ⟨b.key.len,?_⟩⟩
  .rw[o,b.live];omega
  .rw[b.size,b.live]
variable{X:List aT}
def dj.cat (a:dj e X) (b:e<=1000):cx (X.map aT.bz)=true:=by
 refine oG.2 ⟨λk c=> ?_,?_,by rw[a4I];exact a.dw⟩
 .obtain⟨d,h,rfl⟩:=a4R.1 c;exact(a.ok d h).bz b
 .rw[a6T];exact a.dM
theorem zI: ∀ {a:List aL}{nm:List UInt8},a.Pairwise (λh k=>c5 h.name k.name=true)->(a.findIdx λb=>decide (b.name=nm))<a.length->cZ a nm=a.findIdx λb=>decide (b.name=nm)
 | [],nm,_,c=>by rfl
 |b::a,nm,o,c=>by
  obtain⟨x,p⟩:=a5g.1 o;rw[List.findIdx_cons]at c|-;unfold cZ;rw[a5Q];by_cases d:b.name=nm
  .rw[decide_eq_true d];simp[d,vb]
  .rw[decide_eq_false d]at c|-;simp only[cond_false,a4C]at c|-;have ih:=zI (nm:=nm) p a8Z;have r:c5 b.name nm=true:=by grind
   rw[if_pos r,a4C];unfold cZ at ih;rw[ih]
variable{B:List UInt8}
theorem vp:((X.map aT.bz).findIdx λa=>decide (a.name=B))=bX X B:=by rw[List.findIdx_map];rfl
theorem sZ (a:bX X B<X.length):(X.getD (bX X B) default).name=B:=by have:=List.findIdx_getElem (w:=a);rw[a5p,a4w a];exact of_decide_eq_true this
theorem vq (a:bX X B<X.length):X.getD (bX X B) default∈X:=by simp_all
def Gj (b:X.length<=bX X B): ∀a∈X,a.name≠B:=λa c d=>by
 have:=List.findIdx_lt_length_of_exists (p:=λa:aT=>decide (a.name=B)) ⟨a,c,decide_eq_true d⟩;have h:X.length<=X.findIdx λa=>decide (a.name=B):=b;omega
theorem zJ (c:dj e X):gE (X.map aT.bz) B=decide (bX X B<X.length):=by
 have d:(X.map aT.bz).Pairwise (λh k=>c5 h.name k.name=true):=by rw[a6T];exact c.dM
 by_cases a:bX X B<X.length
 .have b:=zI d (by rw[vp,a4I];exact a);rw[vp]at b;unfold gE;rw[b,decide_eq_true a,a4I,decide_eq_true a,a5U];refine decide_eq_true ?_;have:=sZ a;rw[a5p,a4w (by rw[a4I];exact a),a6r,a8o];rw[a5p,a4w a,a6r]at this;exact this
 .rw[decide_eq_false a];unfold gE;rw[a7L];by_cases c2:cZ (X.map aT.bz) B<(X.map aT.bz).length
  .right;refine decide_eq_false λb=> ?_;rw[a5p,a4w c2,a6r,a8o]at b;exact Gj a8Z _ (a4Z (by rw[a4I]at c2;exact c2)) b
  .left;simp_all
theorem Gk (a:dj e X) (d:bX X B<X.length):cZ (X.map aT.bz) B=bX X B:=by
 have h:(X.map aT.bz).Pairwise (λb c=>c5 b.name c.name=true):=by rw[a6T];exact a.dM
 grind[vp,zI,List.length_map]
theorem pK:(X.map aT.bz).find? (λa=>decide (a.name=B))=(X[bX X B]?).map aT.bz:=by rw[List.find?_eq_getElem?_findIdx,vp,a4X]
theorem a2y {a:List UInt8} (b:B≠a):(!c5 a B)=c5 B a:=by grind[c5,absurd,FF,vc,vb]
theorem a2z (a:X.length<=bX X B):cZ (X.map aT.bz) B=js X B:=by
 have b:=Gj a;clear a;unfold cZ js
 induction X with
 |nil=>rfl
 |cons c X ih=>have d:=a2y (b c a9a);have ih:=ih λh k=>b h (by simp[k]);rw[a4U,a5Q,a5Q,d];show(if c5 c.name B=true then _ else _:List aL).length= _;grind
def gb (c:Nat) (d h:U):Prop:= ∀b a,d b=some (.cells a)->a.length≠c->h b=some (.cells a)
theorem gb.of {s:U} (a:ir s f):gb e s f:=λb c d _=>a b c d
theorem gb.set {c a:Nat}{b:U}{d:List R}{h:bq} (p:b a=some (.cells d)) (r:d.length=c):gb c b (b.set a h):=λk x o y=>by
 have:k≠a:=by grind
 rw[U.ao _ _ this];exact o
def dN.gd {n:Nat}{c d:U} (a:n≠4) (b:gb n c d): ∀ {h:aC}{k:R},dN c h k->dN d h k
 | .nil,_,o=>o
 | .node _ _ _ _,_,⟨p,r,x,y,h1,z,C,D⟩=>⟨p,r,x,y,h1,b _ _ z (by simpa using a.symm),C.gd a b,D.gd a b⟩
def fM.Gl (b:zD f t) (a:fM f b7 n):fM t b7 n:=by
 match b7 with
 |none=>exact a
 |some ⟨_,_⟩=>exact bw.vm b a
def fM.gd {n:Nat} (a:n≠2) (b:gb n f t) (c:fM f b7 b3):fM t b7 b3:=c.Gl λh k o p r d=>b _ _ d (by simpa using a.symm)
variable{Y:bq}
theorem oI (a:bg f t i g M) (d:f e=none) (b:t e=some (.cells A)):bg f (t.set e Y) i g M:=by
 refine⟨U.af a.1 d,?_⟩;have c:=a.2;cases M with
 |buf h k=>
  have o:h≠e:=by rintro rfl;rw[c.2]at b;cases b
  grind[U.ao]
 | _=>exact c
theorem fM.cells {d:U}{b:eD}{a:R} (c:fM d b a):a.cells= [a]:=by
 match b with
 |none=>obtain rfl:a= .v (.pointer none):=c;rfl
 |some ⟨_,_⟩=>obtain⟨h,k,o,rfl,_⟩:=bw.ptr c;rfl
def gF (b:U) (a:aT) (o:R):Prop:= ∃c p d r h k,o= .ptr c 0/\b c=some (.cells [bb a.name,.J (bE a.aD) p,.J d r,h,k])/\az isRow a.rows d/\dN b a.bM h/\fM b a.cq k
def gF.gd {b c:U} (a:gb 1 b c) {d:aT}{h:R} (k:gF b d h):gF c d h:=by obtain⟨o,p,r,x,y,z,C,D,E,F,G⟩:=k;exact⟨o,p,r,x,y,z,C,a _ _ D a9a,E,F.gd a9d a,G.gd a9d a⟩
def gF.sub (a:f.sub t) (b:gF f j7 n):gF t j7 n:=b.gd (gb.of (U.o1 a))
def ff (a:U) (c:Nat) (d:List aT):Prop:= ∃b h,a c=some (.cells [.J b h])/\az (gF a) d b
def ff.sub {b c:U} (d:b.sub c) {h:Nat}{k:List aT} (a:ff b h k):ff c h k:=by obtain⟨o,p,r,x⟩:=a;exact⟨o,p,d _ _ r,x.mono λy z a=>a.sub d⟩
def zK (a:az (gF f) X g):aS 1 g:=λk c=>by
 obtain⟨d,h,rfl⟩:=a5i c;have o:=a.len;obtain⟨p,b,r,_,_,_,_,_,rfl,_⟩:=a.get (a4w (show d<X.length by omega));rw[a4w h]at b;rw[a4v b];rfl
theorem Gm (b:e<X.length) (c: ∀a<e,(X.getD a default).name≠B) (d:(X.getD e default).name=B):bX X B=e:=by grind[bX,List.findIdx_eq,List.getElem?_eq_getElem,decide_eq_true,decide_eq_false]
theorem a2A (b: ∀a<X.length,(X.getD a default).name≠B):X.length<=bX X B:=by grind[Nat.lt_or_ge,bX,absurd,sZ]
def pL (a:List aT) (b:List UInt8):Int:=if bX a b<a.length then(bX a b:Int)else -1
theorem a2B (h:U) (k:Nat) (b:List aT) (o:ff h k b) (d:List UInt8) (P:b.length<=1000):
  AC Tryz.prog 13 [.ptr k 0,bb d] h λz C=>C=h/\z= .v (.int .i64 (pL b d)):=by
 obtain⟨S,T,D,p⟩:=o;have V:=p.len;have W:=U.ae D;refine aN hm JW ?_;refine gJ [0,1] (λa:Nat=> [(5,.v (.int .i64 a))]) (λa=>a<=b.length/\ ∀c<a,(b.getD c default).name≠d) (λa=>b.length - a) 0 ⟨a5d _,λc o=>by omega⟩ aR ?_;rintro a ⟨e,r⟩ f;refine aa ?_;refine aG (λE=> ?_) λE=> ?_
 .have x:a<b.length:=a8Z;have F:b[a]? =some (b.getD a default):=by simp_all
  obtain⟨_,g,i,j,l,m,n,q,rfl,G,_,_,_⟩:=p.get F;have s:=U.ae G;have t:=(vd (b.getD a default).name d).1;refine aa ?_;refine aG (λc2=> ?_) λc2=> ?_
  .have y:=Gm x r c2;unfold pL;rw[y,if_pos x]
  .exact⟨a+1,⟨a8Z,λc L=>by grind⟩,rfl,a8Z⟩
 .have y:=a2A λc L=>r c a8Z;unfold pL;simp_all
theorem a2C (h:U) (V:Nat) (b:List aT) (k:ff h V b) (Y:b.length<=1000):
  AC Tryz.prog 19 [.ptr V 0] h λt c=>h.sub c/\ ∃d,t= .ptr d 0/\h d=none/\ff c d b:=by
 obtain⟨Z,j9,W,e⟩:=k;have k0:=e.len;have k1:=U.ae W;refine aN hm K2 ?_;refine bp λd x=> ?_;refine ch [0,3] (λa:Nat=> [(4,.v (.int .i64 a))]) (λa c=>h.sub c/\a<=b.length/\ ∃y f,c d=some (.cells [.J y f])/\bg h c 1 y f/\az (gF c) (b.take a) y) (λa=>b.length - a) 0 ⟨⟨U.af U.a1 x,a8Z,[],.nil,U.ah _ _ _,bg.nil (U.af U.a1 x),trivial⟩,aR⟩ ?_;rintro a z ⟨C,k2,g,u,D,v,o⟩ k3;have k4:=U.ae (C _ _ W);have w:=o.len;rw[a4z]at w;refine aa ?_;refine aG (λA=> ?_) λA=> ?_
 .have B:a<b.length:=a8Z;have H:b[a]? =some (b.getD a default):=by simp_all
  obtain⟨_,k5,I⟩:=e.get H;obtain⟨k6,E,F,G,L,P,rfl,K,M,i,j⟩:=I.sub C;have k7:=U.ae K;have k8:=U.ae D;have k9:=i.cells;have eN:=j.cells;have N:=eQ (b:=default) B;generalize b.getD a default=p at*;refine aa ?_;refine aM λr S=> ?_;refine aa ?_;have O:gF (z.set r (.cells [bb p.name,.J (bE p.aD) E,.J F G,L,P])) p (.ptr r 0):=⟨r,E,F,G,L,P,rfl,U.ah _ _ _,M,i.mono (U.af U.a1 S),j.fD (U.o1 (U.af U.a1 S))⟩;have Q:=U.af (Y:= .cells [bb p.name,.J (bE p.aD) E,.J F G,L,P]) (U.a1) S;generalize z.set r _=l0 at*;refine dc U.a1 (by simp[aS,R.cells]) λl1 l2 l=> ?_;have m:=U.ar Q l.sub;refine aa ?_;refine qs (v.mono m) (zK (o.mono λ_ _ k=>k)) (by simp[aS,R.cells]) a9b a9b λX n q aI=> ?_;have fu:=(U.o1 m).trans aI;have T:=fu _ _ D;have ny:=U.aJ T;refine aa ?_;refine⟨a+1,⟨q.sub,a8Z,_,_,rfl,oI q x T,?_⟩,rfl,a8Z⟩;have s:gb 1 n (n.set d (.cells [.J (g++ [.ptr r 0]) X])):=gb.set T rfl;rw[N];exact az.snoc (o.mono λ_ _ k=>(k.gd (gb.of fu)).gd s) (((O.sub l.sub).gd (gb.of aI)).gd s)
 .obtain rfl:a=b.length:=a8Z;rw[a4S]at o;exact⟨z,U.a1,C,d,rfl,x,g,u,D,o⟩
def zL (c d:Own):Prop:= ∀a h b k,c= .buf a h->d= .buf b k->a≠b
variable{s a7:R -> U -> Prop}
def Gn {F:cy s} (r:bg t f e g e6) (x:bg t f e e0 M) (y:zL e6 M) (G:aS e g) (L:aS e A) (P:(g.length+A.length)*i<=140737488355328) (S:g.length+A.length<=9223372036854775807)
  (T: ∀c b,bg t b e (g++A) c->bg t b e e0 M->zL c M->ir f b->s (.J (g++A) c) b):lV e i f (.J g e6) (.J A h4) (bO s F):=by
 obtain⟨j,V,l,z,k⟩:=r.o4;refine dY V G L P S λc b d=>T c b (d.base z) ⟨U.ar z d.sub,?_⟩ ?_ λW m o=>d.sub _ _ ?_
 .have a:=x.2;cases M with
  |buf h C=>refine⟨a.1,d.sub _ _ ?_⟩;rw[k h λD E p=>y _ _ _ _ p rfl];exact a.2
  | _=>exact a
 .rintro h C D E rfl rfl rfl;have a:=d.2.1;rw[k h λD E p=>y _ _ _ _ p rfl,x.2.2]at a;cases a
 .rw[k W (λh C a=>by subst a;rintro rfl;rw[r.2.2]at o;cases o)];exact o
theorem Gp {a:Int->Int->Int} (b:e<q.length) (c:e<b6.length):(List.zipWith a q b6).take (e+1)=(List.zipWith a q b6).take e++ [a (q.getD e 0) (b6.getD e 0)]:=by rw[a5H (by rw[a6m];omega),List.getElem_zipWith];simp_all
theorem Gq (C D:List Int×List Int) (j l m n:Own) (T:U) (k9:C.1.length<=1000000) (l0:D.1.length<=1000000):
  AC Tryz.prog 179 [er C.1 C.2 j l,er D.1 D.2 m n] T λl1 G=>T.sub G/\ ∃l2 r,l1=er (cQ C D).1 (cQ C D).2 l2 r:=by
 obtain⟨b,h⟩:=C;obtain⟨c,d⟩:=D
 dsimp only at*
 have n9:=bH (q:=b);have a00:=bH (q:=c);have X:= @dJ b;have Y:= @dJ h;have Z:= @dJ c;have j9:= @dJ d;have p:(if cP b h b.length=true then
  (if cP c d c.length=true then(if b.length=c.length then(List.zipWith min b c,List.zipWith max h d)else([],[]))else(b,h))
  else if cP c d c.length=true then(c,d)else([],[]))=cQ (b,h) (c,d):=rfl
 generalize cQ (b,h) (c,d)=a01 at*;refine aN hm Oz ?_;refine bp λq a02=> ?_;refine cW λs a03 a04 k0=> ?_;refine hp λt a05 a06 V a07 W=> ?_;refine bc (FE b h _ _ _ _ k9) ?_;refine bc (FE c d _ _ _ _ l0) ?_;cases pD:cP b h b.length with
 |false=>
  cases ie:cP c d c.length with
  |false=>rw[pD,ie,if_neg a9a,if_neg a9a]at p;refine aa ?_;exact⟨.nil,.nil,by rw[<-p];rfl⟩
  |true=>rw[pD,ie,if_neg a9a,if_pos rfl]at p;refine aa ?_;exact⟨m,n,by rw[<-p]⟩
 |true=>
  cases ie:cP c d c.length with
  |false=>rw[pD,ie,if_pos rfl,if_neg a9a]at p;refine aa ?_;exact⟨j,l,by rw[<-p]⟩
  |true=>
   rw[pD,ie,if_pos rfl,if_pos rfl]at p;by_cases cl:b.length=c.length
   .rw[if_pos cl]at p;have a08:=lg pD;have a09:=lg ie;refine aa ?_;refine aM λr k=> ?_;generalize L:((T.set q _).set s _).set t _=E at*;have l3:T.sub E:=by subst L;exact aR
    have u:E q=some (.cells [.J (ad b) j,.J (ad h) l]):=by subst L;exact aR
    have v:E s=some (.cells [.J (ad c) m,.J (ad d) n]):=by subst L;exact aR
    have aI:E t=some (.cells [.J [] .nil,.J [] .nil]):=by subst L;exact aR
    have a10:t≠r:=by rintro rfl;rw[aI]at k;cases k
    have a11:q≠r:=by rintro rfl;rw[u]at k;cases k
    have a13:s≠r:=by rintro rfl;rw[v]at k;cases k
    clear L pD ie;have k1:=λa P w=>Gp (a:=min) (q:=b) (b6:=c) (e:=a) P w;have k2:=λa P w=>Gp (a:=max) (q:=h) (b6:=d) (e:=a) P w;have a14:(List.zipWith min b c).length=b.length:=by rw[a6m];omega
    have a15:(List.zipWith max h d).length=b.length:=by rw[a6m];omega
    generalize List.zipWith min b c=y at*;generalize List.zipWith max h d=z at*;refine aa ?_;refine ch [2,3,4,7] (λa:Nat=> [(8,.v (.int .i64 (a)))]) (λa G=>a<=b.length/\ ∃S x,G r=some (.cells [.J (ad (y.take a)) S,.J (ad (z.take a)) x])/\bg E G 1 (ad (y.take a)) S/\bg E G 1 (ad (z.take a)) x/\zL S x) (λa=>b.length - a) 0
     ⟨⟨a5d _,.nil,.nil,U.ah _ _ _,bg.nil (U.af U.a1 k),bg.nil (U.af U.a1 k),λ_ _ _ _ P=>by cases P⟩,aR⟩ ?_
    rintro a a16 ⟨a18,S,x,A,o,F,B⟩ a19;have qm:=U.ae (o.sub _ _ u);have mV:=U.ae (o.sub _ _ v);have l4:=U.ae A;have a27:(ad (y.take a)).length=a:=by rw[bH,a4z];omega
    have a29:(ad (z.take a)).length=a:=by rw[bH,a4z];omega
    by_cases a30:a<b.length
    .have a34:=X a8Z;have a36:=Y (b:=a) a8Z;have a38:=Z (b:=a) a8Z;have a42:=j9 (b:=a) a8Z;have k3:=k1 a a8Z a8Z;have k4:=k2 a a8Z a8Z;clear X Y Z j9 k1 k2;generalize b.getD a 0=e at*;generalize c.getD a 0=f at*;generalize h.getD a 0=a3 at*;generalize d.getD a 0=a4 at*;have k5:(a)<(c.length:Int):=a8Z;have zM:aS 1 (ad (y.take a)):=λk0 H=>by obtain⟨l5,_,rfl⟩:=a4R.1 H;rfl
     have zN:aS 1 (ad (z.take a)):=λk0 H=>by obtain⟨l5,_,rfl⟩:=a4R.1 H;rfl
     have k6:ad (y.take (a+1))=ad (y.take a)++ [.v (.int .i64 (min e f))]:=by rw[k3];simp[ad]
     have k7:ad (z.take (a+1))=ad (z.take a)++ [.v (.int .i64 (max a3 a4))]:=by rw[k4];simp[ad]
     clear k3 k4;generalize ad (y.take a)=I at*;generalize ad (z.take a)=K at*;refine aa ?_;refine dc U.a1 (by simp[aS,R.cells]) λa43 a47 M=> ?_;refine aa ?_;refine Gn (o.mono M.sub) (F.mono M.sub) B zM (by simp[aS,R.cells]) a9b a9b λg k8 o F B l6=> ?_;have i:=l6 _ _ (M.sub _ _ A);have aE:=U.aJ i;have qm:=U.ae (o.sub _ _ u);have mV:=U.ae (o.sub _ _ v);refine aa ?_;have l7:=oI (Y:= .cells [.J (I++ [.v (.int .i64 (min e f))]) g,.J K x]) o k i;have l8:=oI (Y:= .cells [.J (I++ [.v (.int .i64 (min e f))]) g,.J K x]) F k i;have l9:=U.ah k8 r (.cells [.J (I++ [.v (.int .i64 (min e f))]) g,.J K x]);clear i aE qm mV o F A l4;generalize k8.set r _=a48 at*;refine dc U.a1 (by simp[aS,R.cells]) λa52 a56 N=> ?_;refine aa ?_;refine Gn (l8.mono N.sub) (l7.mono N.sub) (λn0 k5 n1 n2 V W O=>B _ _ _ _ W V O.symm) zN (by simp[aS,R.cells]) a9b a9b λn3 a57 F o n4 n5=> ?_;have Q:=n5 _ _ (N.sub _ _ l9);have aE:=U.aJ Q;refine aa ?_;refine⟨a+1,⟨a8Z,g,n3,?_,?_,?_,λn0 k5 n1 n2 V W O=>n4 _ _ _ _ W V O.symm⟩,rfl,a8Z⟩
     .rw[k6,k7]
     .rw[k6];exact oI o k Q
     .rw[k7];exact oI F k Q
    .obtain rfl:a=b.length:=a8Z;have a61:=U.aJ (o.sub _ _ aI);refine aa ?_;refine iu ?_;exact⟨U.ar l3 o.sub,S,x,by grind⟩
   .rw[if_neg cl]at p;refine aa ?_;refine iu ?_;exact⟨.nil,.nil,by rw[<-p];rfl⟩
end Go.Proofs.YtlgnfcaolejgeaaGreat
