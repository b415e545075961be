import Derived.Test.YtlgnfcaolejgeaaGreatMG
import Derived.Test.YtlgnfcaolejgeaaGreatMF
import Derived.Test.YtlgnfcaolejgeaaGreatME
import Derived.Test.YtlgnfcaolejgeaaGreatMD
set_option linter.all false
set_option maxRecDepth 100000
namespace Go.Proofs.YtlgnfcaolejgeaaGreat
open Go Go.bz
def c5:List UInt8->List UInt8->Bool
 | _,[]=>false
 | [],_:: _=>true
 |a::c,b::d=>if a=b then c5 c d else decide (a<b)
theorem a1J: ∀b a:List UInt8,Op.bytesLess b a=c5 b a:=by
 intro b
 induction b with
 |nil=>intro a;cases a<;>simp[Op.bytesLess,c5]
 |cons c b ih=>
  intro a;cases a with
  |nil=>rfl
  |cons d a=>simp only[Op.bytesLess,c5,ih];split<;>simp_all
theorem vc (a:List UInt8):c5 a a=false:=by induction a<;>simp_all [c5]
theorem FI: ∀b a:List UInt8,c5 b a=false->c5 a b=false->b=a:=by
 intro b
 induction b with
 |nil=>intro a;cases a<;>simp[c5]
 |cons c b ih=>
  intro a;cases a with
  |nil=>simp[c5]
  |cons d a=>simp only[c5];grind
theorem vd: ∀c a b:List UInt8,c5 c a=true->c5 a b=true->c5 c b=true:=by
 intro c
 induction c with
 |nil=>intro a b;cases a<;>cases b<;>simp[c5]
 |cons d c ih=>
  intro a b;cases a with
  |nil=>simp[c5]
  |cons h a=>
   cases b with
   |nil=>simp[c5]
   |cons k b=>simp only[c5];grind
theorem ve (a b:List UInt8):iY .lss (bb a) (bb b)=some (.v (.bool (c5 a b)))/\iY .geq (bb a) (bb b)=some (.v (.bool (!c5 a b)))/\
  iY .leq (bb a) (bb b)=some (.v (.bool (c5 a b||decide (a=b))))/\iY .gtr (bb a) (bb b)=some (.v (.bool (!(c5 a b||decide (a=b))))):=by
 grind[decide,bb,rQ,bn,pV,toList_mk,a1J]
variable{g B e0:List R}{e7:aL}
def ea.at_ (C:ea e7 g): ∃D E,aX false 1 (g.drop 36)= .v (.int .i64 e7.bM.live)/\aX false 1 (g.drop 38)= .J (ad e7.bM.key) D/\aX false 1 (g.drop 73)= .v (.int .i64 e7.cr.live)/\aX false 1 (g.drop 74)= .v (.int .i64 e7.cr.size)/\aX false 1 (g.drop 75)= .J (ad e7.cr.key) E:=by
 obtain⟨⟨y,o,p,c,d,h,b,rfl⟩,⟨F,_⟩,⟨G,_⟩,_⟩:=C;have k:=aV (M:=o) (e6:=p) (h4:=c) F;have r:=aV (M:=d) (e6:=h) (h4:=b) G;have z: ∀a,a<=37->(bb e7.name:: .J (bE e7.aD) y::(ab e7.bM o p c++ab e7.cr d h b)).drop (a+2)=(ab e7.bM o p c).drop a++ab e7.cr d h b:=λa L=>by
  simp only[a6s];rw[a6p (by have:=k.len;omega)]
 have x: ∀a,(bb e7.name:: .J (bE e7.aD) y::(ab e7.bM o p c++ab e7.cr d h b)).drop (a+37+2)=(ab e7.cr d h b).drop a:=λa=>by
  simp only[a6s];rw[a6l,a6i (by rw[k.len];omega),k.len,a5f];congr 1
 refine⟨c,b,?_,?_,?_,?_,?_⟩
 .rw[z 34 a9p,k.d34];rfl
 .rw[z 36 a9p,k.d36];rfl
 .rw[x 34,r.d34];rfl
 .rw[x 35,r.d35];rfl
 .rw[x 36,r.d36];rfl
def fx (a:aL):Bool:=eo ⟨1,a.name,a.aD,[]⟩&&(fv (a.aD.length+1) a.bM&&(fv (a.aD.length+1) a.cr&&(decide (a.bM.live=a.cr.live)&&(decide (a.bM.key.length=0)&&
 (decide (a.cr=ay)||(decide (a.cr.key.length=a.aD.length+1)&&decide (a.cr.size=a.cr.live)))))))
structure aL.Fit (t:aL):Prop where
 n:t.name.length<=1000000
 c:t.aD.length<=1000000
 cs: ∀c∈t.aD,c.length<=1000000
def sX (a:aL) (b:List R) (c:ea a b) (d:U):AC Tryz.prog 39 [.agg b] d λh k=>k=d/\h= .v (.int .i64 ((a.aD.length+1:Nat):Int)):=by obtain⟨o,p,r,x,y,z,C,D,E,F,G,L,P⟩:=c.all;have S:=hx (a:=a.aD);have T:=c.c;refine aM hm Ku ?_;refine bp λV W=> ?_;trivial
theorem r9 (a:aL) (c:List R) (b:ea a c) (o:a.Fit) (d:U):AC Tryz.prog 147 [.agg c] d λp r=>r=d/\p= .v (.bool (fx a)):=by
 obtain⟨W,e,f,x,y,z,C,D,E,F,g,i,j⟩:=b.all;obtain⟨l,m,n,q,s,t,u⟩:=b.at_;have v:=hx (a:=a.aD);have w:=bH (q:=a.bM.key);have A:=bH (q:=a.cr.key);obtain⟨G,L,P⟩:=o;have B: ∀h,fv h ay=true:=λh=>by rfl
 refine aM hm Nz ?_;refine bp λk H=> ?_;refine bc (sX a c b _) ?_;refine bc (EP ⟨⟨1,a.name,a.aD,[]⟩,x,.nil⟩ ⟨G,L,P,a9q⟩ _) ?_;have S:=xq a.bM y z C (a.aD.length+1) (d.set k (.cells c)) a9p b.k.1 b.k.2;have T:=xq a.cr D E F (a.aD.length+1) (d.set k (.cells c)) a9p b.z.1 b.z.2;refine aG (λV=> ?_) λV=> ?_
 .rw[fx];exact aO
 refine bc S ?_
 repeat' first|refine aG (λ_=> ?_) λ_=> ?_|trivial
 all_goals try (rw[fx];exact aO)
 .refine bc T ?_
  repeat' first|refine aG (λ_=> ?_) λ_=> ?_|trivial
  all_goals try (rw[fx];exact aO)
  all_goals refine bc (nh _ _ _ _ _ b.z.1 b.z.2) ?_
  all_goals repeat' first|refine aG (λ_=> ?_) λ_=> ?_|trivial
  all_goals grind[fx,aO]
def cj (a:List aL):Bool:=(List.range a.length).all (λb=>fx (a.getD b default)&&(decide (b=0)||c5 (a.getD (b - 1) default).name (a.getD b default).name))&&decide (a.length<=8)
theorem nC (a:List aL) (E:List R) (e:Own) (y:aA dp a E) (f: ∀d∈a,d.Fit) (s:a.length<=1000000) (k:U):AC Tryz.prog 102 [.J E e] k λg z=>z=k/\g= .v (.bool (cj a)):=by
 have t:=y.len;refine aM hm Me ?_;refine cn [0,5,6] (λb:Nat=> [(7,.v (.int .i64 b))]) (λb z=>k.sub z/\b<=a.length/\ ∀c<b,(fx (a.getD c default)&&(decide (c=0)||c5 (a.getD (c - 1) default).name (a.getD c default).name))=true) (λb=>a.length - b) 0 ⟨⟨U.a1,a9p,λc C=>by omega⟩,aS⟩ ?_;rintro b F ⟨G,u,i⟩ v;refine aa ?_;refine aG (λj=> ?_) λj=> ?_
 .have L:a[b]? =some (a.getD b default):=by simp_all
  obtain⟨_,w,T,rfl,o⟩:=y.get L;have P:=f _ (a4V L);generalize l:a.getD b default=d at*;have A:=jy (n:= .agg T) o.all.1;obtain⟨B,H,I,K,M,N,O,Q,X,Y,Z,j9,k0⟩:=o.all;obtain⟨p,r⟩: ∃p,p=(fx d&&(decide (b=0)||c5 (a.getD (b - 1) default).name d.name)):=⟨_,rfl⟩;have k1:p=false->cj a=false:=λC=>by
   grind[cj,s7]
  have k2:p=true-> ∃x,(x<=a.length/\ ∀c<x,(fx (a.getD c default)&&(decide (c=0)||c5 (a.getD (c - 1) default).name (a.getD c default).name))=true)/\R.v (.int .i64 ((b)+1))= .v (.int .i64 (x))/\a.length - x<a.length - b:=λC=>
   ⟨b+1,⟨a9p,upto i (by rw[l,<-r];exact C)⟩,rfl,a9p⟩
  have k3: ∀h S,F h=none->k.sub (F.set h S):=λh S D=>U.af G (U.bF G D);by_cases V:b=0
  .subst V;simp only[decide_true,Bool.true_or,a9c]at r;subst r;refine aa ?_;refine bp λh D=> ?_;refine bc (r9 d T o P _) ?_
   repeat' first|refine aG (λ_=> ?_) λ_=> ?_|trivial
   simp_all
  .have m:a[b - 1]? =some (a.getD (b - 1) default):=by grind
   obtain⟨_,k4,n,rfl,W⟩:=y.get m;generalize a.getD (b - 1) default=q at*;have k5:=jy (n:= .agg n) W.all.1;obtain⟨k6,k7,k8,_⟩:=W.all;have k9:(b) - 1=((b - 1:Nat):Int):=a9p;have l0:=(ve q.name d.name).2.1;simp only[decide_eq_false V,a9d]at r;refine aa ?_;refine bp λh D=> ?_;refine bc (r9 d T o P _) ?_
   repeat' first|refine aG (λ_=> ?_) λ_=> ?_|trivial
   all_goals simp_all
 grind[cj,s8,aO]
def nD (a b:List UInt8):Int:=if c5 a b=true then -1 else if a=b then 0 else 1
def FJ (b:List UInt8) (a:U):AC Tryz.prog 334 [bb b] a λc d=>d=a/\c= .v (.bool false):=by have k:=λh v=> @wU h v;refine aM hm Sd ?_;trivial
theorem a1K (a b:List UInt8) (c:U):AC Tryz.prog 297 [bb a,bb b] c λh k=>k=c/\h= .v (.int .i64 (nD a b)):=by
 obtain⟨p,r,x,y⟩:=ve a b;refine aM hm Rx ?_;refine bc (FJ a c) ?_;refine bc (FJ b c) ?_;refine aG (λd=> ?_) λd=> ?_
 .rw[nD,if_pos d]
 .refine aG (λo=> ?_) λo=> ?_;simp_all [nD];simp_all [nD]
def a1L (a:aL) (b:List R) (d:ea a b) (c:U):AC Tryz.prog 227 [.agg b] c λh k=>k=c/\h=bb a.name:=by obtain⟨o,p,r,_⟩:=d.all;refine aM hm PW ?_;refine bp λx y=> ?_;trivial
def FK (a:aL) (b:List R) (h:ea a b) (k:List UInt8) (c:U) (d:Nat) (o:c.read d=some [.bG 227 [] []]):AC Tryz.prog 296 [.agg b,bb k,.ptr d 0] c λp r=>r=c/\p= .v (.int .i64 (nD a.name k)):=by
 obtain⟨z,C,_⟩:=h.all;refine aM hm Rv ?_;refine aN λx y=> ?_;have D:d≠x:=by rintro rfl;simp[U.read,y]at o
 refine aa ?_;refine lY (a1L a b h _) ?_;refine bc (a1K _ _ _) ?_;trivial
def Place (a:List aL) (d:List UInt8) (c:Nat):Prop:=c<=a.length/\(∀b<c,c5 (a.getD b default).name d=true)/\ ∀b<a.length,c<=b->c5 (a.getD b default).name d=false
variable{w:List UInt8}
theorem FL {a:List UInt8}:nD w a<0↔c5 w a=true:=by grind[nD]
theorem a1M {a:List UInt8}:nD w a=0↔w=a:=by
 unfold nD;split
 .rename_i b;simp;rintro rfl;rw[vc]at b;cases b
 .simp
theorem a1N (c:List aL) (y:List R) (V:Own) (d:List UInt8) (G:aA dp c y) (u:c.length<=1000000) (W: ∀a b,a<b->b<c.length->c5 (c.getD a default).name (c.getD b default).name=true) (p:U) (r:Nat) (L:p.read r=some [.bG 227 [] []]):
  AC Tryz.prog 295 [.J y V,bb d,.bG 296 [] [.ptr r 0]] p λe f=>f=p/\ ∃a,Place c d a/\e= .aI [.v (.int .i64 (a:Int)),.v (.bool (decide (a<c.length)&&decide ((c.getD a default).name=d)))]:=by
 have v:=G.len;have el: ∀a,a<c.length-> ∃T,y[a]? =some (.agg T)/\ea (c.getD a default) T/\eA 76 (some (.agg T))=some (.bV T)/\T.length=76/\T.take 76=T:=λa z=>by
  obtain⟨_,g,T,rfl,k⟩:=G.get (i:=a) (x:=c.getD a default) (by simp_all);exact⟨T,g,k,jy k.all.1,k.all.1,k.all.2.1⟩
 have i: ∀a,a<c.length->c5 (c.getD a default).name d=true-> ∀b,b<a+1->c5 (c.getD b default).name d=true:=λa z o b P=>by
  rcases Nat.lt_or_eq_of_le (Nat.le_of_lt_succ P)with C|rfl
  .exact vd _ _ _ (W b a C z) o
  .exact o
 have j: ∀a,a<c.length->c5 (c.getD a default).name d=false-> ∀b,b<c.length->a<=b->c5 (c.getD b default).name d=false:=λa z o b P w=>by
  grind
 refine aM hm Rt ?_;refine gE [0,1,2,8] (λh:Nat×Nat=> [(9,.v (.int .i64 h.1)),(10,.v (.int .i64 h.2))]) (λh=>h.1<=h.2/\h.2<=c.length/\(∀b<h.1,c5 (c.getD b default).name d=true)/\ ∀b<c.length,h.2<=b->c5 (c.getD b default).name d=false) (λh=>h.2 - h.1) (0,c.length) ⟨a9q,a9q,λb o=>by simp at o,λb o x=>by simp at x;omega⟩ aS ?_;rintro⟨a,b⟩ ⟨C,x,D,E⟩ A
 dsimp only at C x D E|-
 have B:bn .shr (.int .u64 ((a)+(b))) (.int .u64 1)=some (.int .u64 (((a+b)/2:Nat))):=by rw[show(a)+(b)=((a+b:Nat):Int) by omega,rS _ _ _ a9p a9p];rfl
 by_cases H:(a:Int)<b
 .obtain⟨T,l,k,m,n,q⟩:=el ((a+b)/2) a9p;have s:=i ((a+b)/2) a9p;have t:=j ((a+b)/2) a9p;generalize I:(a+b)/2=S at*;refine aa ?_;refine lY (FK _ T k d p r L) ?_;refine aG (λF=> ?_) λF=> ?_
  .exact⟨(S+1,b),⟨by simp only;omega,by simp only;omega,s (FL.1 F),E⟩,⟨rfl,rfl⟩,by simp only;omega⟩
  .exact⟨(a,S),⟨by simp only;omega,by simp only;omega,D,t (by simpa[FL] using F)⟩,⟨rfl,rfl⟩,by simp only;omega⟩
 .obtain rfl:a=b:=a9p;have K:Place c d a:=⟨x,D,E⟩;by_cases c2:(a:Int)<c.length
  .obtain⟨T,l,k,m,n,q⟩:=el a a9p;refine aa ?_;refine lY (FK _ T k d p r L) ?_;grind[a1M]
  .refine aa ?_;grind
def a1O (b:List aL) (d:List R) (x:Own) (c:List UInt8) (y:aA dp b d) (z:b.length<=1000000) (C: ∀a h,a<h->h<b.length->c5 (b.getD a default).name (b.getD h default).name=true) (k:U):
  AC Tryz.prog 148 [.J d x,bb c] k λo p=>p=k/\ ∃a,Place b c a/\o= .aI [.v (.int .i64 (a:Int)),.v (.bool (decide (a<b.length)&&decide ((b.getD a default).name=c)))]:=by
 refine aM hm NB ?_;refine ag (a7:=λo p=>p=k/\ ∃a,Place b c a/\o= .aI [.v (.int .i64 (a)),.v (.bool (decide (a<b.length)&&decide ((b.getD a default).name=c)))]) ?_ ?_
 .refine aM hm PU ?_;refine bp λD E=> ?_;refine ag (a1N b d x c y z C _ D (U.BA)) ?_;rintro _ _ ⟨rfl,a,r,rfl⟩;refine aa ?_;exact⟨a,r,rfl⟩
 .rintro _ _ ⟨rfl,a,r,rfl⟩;refine aa ?_;exact⟨a,r,rfl⟩
abbrev ev:List R:=bb []:: .J [] .nil::(ab ay .nil .nil .nil++ab ay .nil .nil .nil)
def iM:([R.v (.string ⟨#[]⟩)]++ [R.J [] .nil]++List.replicate 32 (R.v (.int .u8 0))++ [R.J [] .nil,.J [] .nil]++ [R.v (.int .i64 0),.v (.int .i64 0)]++ [R.J [] .nil]++List.replicate 32 (R.v (.int .u8 0))++ [R.J [] .nil,.J [] .nil]++ [R.v (.int .i64 0),.v (.int .i64 0)]++ [R.J [] .nil])=ev:=by have:=cp;rfl
def fP:ea ⟨[],[],ay,ay⟩ ev:=⟨⟨.nil,_,_,_,_,_,_,rfl⟩,⟨bj,kv⟩,⟨bj,kv⟩,a9q⟩
theorem nE (a:ea e7 g):g.length=76/\g.take 76=g/\putAt ev 0 g=g/\(ev).length=76:=by have b:=a.all.1;have c:=fP.all.1;grind[rT]
theorem FM {c:Type}{y:c}{d:c->Bool}: ∀ {b:List c}{h:Nat}{a:c},b[h]? =some a->d a=true->(∀o<h,d (b.getD o y)=false)->b.find? d=some a
 | [],h,a,k,_,_=>by simp at k
 |p::b,0,a,k,r,_=>by simp_all
 |p::b,h+1,a,k,r,x=>by
  have z:d p=false:=x 0 a9p;rw[List.find?_cons,z];exact FM (by trivial) r λo k=>x (o+1) a9p
variable{b0:Type}
theorem a1P {c:b0}{b:b0->Bool}{a:List b0} (k: ∀d<a.length,b (a.getD d c)=false):a.find? b=none:=by rw[List.find?_eq_none];intro o h;obtain⟨p,r,rfl⟩:=a5y h;simp_all
def Found (c:List aL) (d:List UInt8) (b:R):Prop:=match c.find? (λa=>decide (a.name=d))with
 |some a=> ∃T,ea a T/\b= .aI [.agg T,.v (.bool true)]
 |none=>b= .aI [.agg ev,.v (.bool false)]
theorem find_spec (b:List aL) (C:List R) (P:Own) (o:List UInt8) (D:aA dp b C) (m:b.length<=1000000) (c:U):
  AC Tryz.prog 37 [.J C P,bb o] c λS p=>p=c/\Found b o S:=by
 have n:=D.len;have q:=λV=> @qn V o;have s:=iM;refine aM hm Kq ?_;refine bp λh W=> ?_;rw[iM];have r:c.sub (c.set h (.cells ev)):=U.af U.a1 W;have E:(c.set h (.cells ev)) h=some (.cells ev):=U.ai _ _ _;generalize c.set h (.cells ev)=e at*;obtain⟨_,_,_,t⟩:=nE fP;have u:=(nE fP).2.2.1;have v:=fP.all.2.1;refine cn [1,4,8,9] (λa:Nat=> [(10,.v (.int .i64 a))]) (λa p=>e.sub p/\a<=b.length/\ ∀d<a,(b.getD d default).name≠o) (λa=>b.length - a) 0 ⟨⟨U.a1,a9p,λd w=>by omega⟩,aS⟩ ?_;rintro a A ⟨k,B,x⟩ H;have I:=U.aJ (k _ _ E);refine aa ?_;refine aG (λf=> ?_) λf=> ?_
 .have F:b[a]? =some (b.getD a default):=by simp_all
  obtain⟨_,K,T,rfl,G⟩:=D.get F;generalize g:b.getD a default=M at*;obtain⟨i,N,O,_⟩:=nE G;have Q:=G.all.2.2.1;have X:=jy (n:= .agg T) i;refine aa ?_;refine aN λj y=> ?_;have l:h≠j:=by rintro rfl;rw[k _ _ E]at y;cases y
  have Y:=a4U l;refine aa ?_;refine aG (λz=> ?_) λz=> ?_
  .refine⟨U.af (U.aq r k) (U.bF (U.aq r k) y),?_⟩;rw[Found,FM F (by simp[z]) λd L=>by simpa using x d L];simp_all
  .exact⟨a+1,⟨a9p,upto x (by rw[g];exact z)⟩,rfl,a9p⟩
 .refine⟨U.aq r k,?_⟩;rw[Found,a1P λd L=>by simpa using x d a9p]
theorem dp.cells {b:aL}{a:R} (c:dp b a):a.cells.length=76:=by obtain⟨T,rfl,d⟩:=c;exact d.all.1
theorem zp (o:List aL) (a:List R) (c:Own) (b:U) (p:aA dp o a) (F:o.length<=1000):
  AC Tryz.prog 45 [.J a c] b λr d=>au b d 76 (flat a) r:=by
 have G:=p.len;refine mS λL=> ?_;have y:c= .nil->a= []:=λh=>by subst h;simp_all
 have x:=p.cells λ_ _=>dp.cells;have P:=db x;refine bd hm KE a9q ?_;simp -dsimp -implicitDefEqProofs (disch:=first|omega|assumption|(simp only[bk,Nat.reduceAdd];try omega)) only[go_sem,simprocAttr,↓o6];refine o7 (λk=>by rw[y k]) (λk=> ?_) ?_
 .have z:a= []:=by trivial
  subst z;refine aE @a5H ?_;exact⟨b,U.a1,au.nil U.a1⟩
 .refine aE @nY ?_;have C:bN b 76 (.J a c)=some (a.length,flat a):=by have D:=a5e.2 λh E=>decide_eq_true (x h E);simp only[bN,D,if_true]
  refine fh (au.zero (U.a1)) a9p C a9p (by simp only[a4W];omega) (by simp only[a4W];omega) λr d k=> ?_;refine eB ?_;exact⟨d,U.a1,by trivial⟩
theorem a1Q (t k:U) (h:List R) (f:R) (y:au t k 76 h f) (G:Nat) (L:h.length=G*76) (a:Nat) (l9:a<=G) (n0:G<=1000) (o:List R) (u:o.length=76) (z:Nat) (v:t z=some (.cells o)):
  AC Tryz.prog 149 [f,.v (.int .i64 (a:Int)),.an z 1 1 76] k λk4 P=>au t P 76 (h.take (a*76)++(o++h.drop (a*76))) k4:=by
 have S:=y.1 _ _ v;have g:((1:Nat):Int)=1:=rfl;have w: ∀P:U,P z=some (.cells o)->bN P 76 (.an z 1 1 76)=some (1,o):=λP y=>by
  simp_all [bN,U.ae,a4N]
 by_cases c1:a=G
 .subst c1;obtain⟨e,E,wl⟩: ∃e,cg 76 f (some (.v (.int .i64 (a:Int)))) none none=some e/\fa f=some (.v (.int .i64 (a:Int))):=by
   rcases y.2 with ⟨i,rfl|rfl⟩|⟨c,b,d,r,rfl,j,C,l,m,k5,A,X⟩
   .rw[i]at L;obtain rfl:a=0:=by rw[a4W]at L;omega
    exact⟨_,Wf,rfl⟩
   .rw[i]at L;obtain rfl:a=0:=by rw[a4W]at L;omega
    exact⟨_,We,rfl⟩
   .obtain rfl:b=a:=a9p;obtain⟨e,E,_⟩:=ot (i:=76) (j0:=c) (e2:= .i64) a9p A;exact⟨e,E,rfl⟩
  refine bd hm Bo a9q ?_;simp -dsimp -implicitDefEqProofs (disch:=first|omega|assumption|(simp only[bk,Nat.reduceAdd];try omega)) only[go_sem,simprocAttr,↓eI,E,wl,g];refine fh y a9p (w k S) a9p a9p a9p λn1 P n2=> ?_;refine Ck ?_;grind[U.a1,List.take_of_length_le,List.drop_eq_nil_of_le]
 have n3:a<G:=a9p;obtain⟨c,b,d,r,rfl,j,C,l,m,k5,A,X⟩:=y.an (λi=>by rw[i]at L;simp at L;omega);obtain rfl:b=G:=a9p;have Y:c≠z:=by rintro rfl;rw[j]at v;cases v
 have B: ¬(a)=(b:Int):=a9p;refine bd hm Bo a9q ?_;obtain⟨e,E,_,Z⟩:=ot (i:=76) (j0:=c) (e2:= .i64) a9p A;have n4:=Z k r h C a9p m;have j9:(h.drop (a*76)).length=(b - a)*76:=by rw[a5d];omega
 have k6:r.take (a*76)=h.take (a*76):=by grind
 by_cases c2:(d)<(b:Int)+1
 .have n:cg 76 (.an c b d 76) none (some (.v (.int .i64 (a)))) none=some (.an c a d 76):=hJ a9p;have k0:(b)+1 -(a)=((b+1 - a:Nat):Int):=a9p;refine dA (bs @E @B @g @c2 @n @k0) ?_;refine wZ C l a9p a9p a9p λp D k7 q s k8 k1=> ?_;have k9:a+(b+1 - a)=b+1:=a9p;rw[k9]at s k1|-;generalize l0:List.replicate (b+1 - a) _=k2;have l1:k2.flatten.length=(b+1 - a)*76:=by rw[<-l0,kT];rfl
  have l2:p≠c:=by rintro rfl;rw[q]at C;cases C
  have l3:p≠z:=by rintro rfl;rw[q]at S;cases S
  obtain⟨F,k3⟩: ∃F,F=r.take (a*76)++k2.flatten++k7:=⟨_,rfl⟩;have l4:F.length=D*76:=by rw[k3,a4O,a4O,l1,a4P,k1];omega
  have l5:F.take (a*76)=h.take (a*76):=by simp_all
  rw[<-k3];have H:cg 76 (.an p (b+1) D 76) (some (.v (.int .i64 (a)))) none none=some (.bA p (a*76) (b+1 - a) (D - a) 76):=gh a9p s a9p;have I:cg 76 (.an p (b+1) D 76) (some (.v (.int .i64 ((a)+1)))) none none=some (.bA p (a*76+76) (b - a) (D -(a+1)) 76):=by have:=gh (i:=76) (b8:=p) (e:=a+1) (e2:= .i64) a9p s a9p;grind
  have K:(k.set p (.cells F)) z=some (.cells o):=by rw[U.ao _ _ (a4U l3)];exact S
  have T:=hi (O:=a*76) (j0:=D - a) (i:=b+1 - a) (w _ K) (U.ai k p (.cells F)) a9p;have M:o.take ((b+1 - a)*76)=o:=a4N a9p;rw[M]at T;obtain⟨x,V⟩: ∃x,x=putAt F (a*76) o:=⟨_,rfl⟩;have N:x.length=D*76:=by rw[V,eH _ _ _ a9p,l4]
  rw[<-V]at T;have l6:(k.set p (.cells x)) c=some (.cells r):=by rw[U.ao _ _ (a4U l2)];exact C
  have O:=Z _ r h l6 a9p m;have W:=hi (O:=a*76+76) (j0:=D -(a+1)) (i:=b - a) O (U.ai k p (.cells x)) a9p;have Q:(h.drop (a*76)).take ((b - a)*76)=h.drop (a*76):=a4N a9p;rw[Q]at W;refine dA (gf @E @B @g @c2 @n @k0 @H @I @T @W @U.set_set) ?_;refine⟨_,U.a1,U.af y.1 (U.bF y.1 q),.inr ⟨p,b+1,D,_,rfl,U.bF y.1 q,U.ai _ _ _,?_,?_,?_,s,k8⟩⟩
  .rw[eH _ _ _ a9p,N]
  .have:=(pq l5 u j9 a9p).2;rw[show(b+1)*76=a*76+76+(b - a)*76 by omega,V];exact this
  grind
 .have n:cg 76 (.an c b d 76) none (some (.v (.int .i64 ((b)+1)))) none=some (.an c (b+1) d 76):=by rw[show(b)+1=((b+1:Nat):Int) by omega];exact hJ a9p
  have H:cg 76 (.an c (b+1) d 76) (some (.v (.int .i64 (a)))) none none=some (.bA c (a*76) (b+1 - a) (d - a) 76):=gh a9p a9p a9p;have I:cg 76 (.an c (b+1) d 76) (some (.v (.int .i64 ((a)+1)))) none none=some (.bA c (a*76+76) (b - a) (d -(a+1)) 76):=by have:=gh (i:=76) (b8:=c) (v:=b+1) (O:=d) (e:=a+1) (e2:= .i64) a9p a9p a9p;grind
  have l7:r≠ []:=by rintro rfl;simp at l;omega
  have l8:kS (.an z 1 1 76) (.bA c (a*76+76) (b - a) (d -(a+1)) 76) k=some (.v (.bool false)):=wY rfl rfl (a4U Y) (qq S (by rintro rfl;simp at u)) (qq C l7);have O:bN k 76 (.bA c (a*76) (b+1 - a) (d - a) 76)=some (b+1 - a,(r.drop (a*76)).take ((b+1 - a)*76)):=by simp only[bN,U.ae C];grind
  have W:=hi (O:=a*76+76) (j0:=d -(a+1)) (i:=b - a) O C a9p;have Q:((r.drop (a*76)).take ((b+1 - a)*76)).take ((b - a)*76)=h.drop (a*76):=by rw[a6b,<-m,a6f];congr 1;omega
  rw[Q]at W;obtain⟨x,V⟩: ∃x,x=putAt r (a*76+76) (h.drop (a*76)):=⟨_,rfl⟩;rw[<-V]at W;have N:x.length=r.length:=by rw[V,eH _ _ _ a9p]
  have K:(k.set c (.cells x)) z=some (.cells o):=by rw[U.ao _ _ (a4U Y)];exact S
  have T:=hi (O:=a*76) (j0:=d - a) (i:=b+1 - a) (w _ K) (U.ai k c (.cells x)) a9p;have M:o.take ((b+1 - a)*76)=o:=a4N a9p;rw[M]at T;refine dA (gf @E @B @g @c2 @n @H @I @l8 @W @T @U.set_set) ?_;refine⟨_,U.a1,U.af y.1 j,.inr ⟨c,b+1,d,_,rfl,j,U.ai _ _ _,?_,?_,?_,a9p,X⟩⟩
  .rw[eH _ _ _ a9p,N,l]
  .have:=(pq k6 u j9 a9p).1;grind
  grind
variable{e1:List aL}
theorem a1R (c:aA dp e1 g): ∀a∈g,∃b,a= .agg b/\b.length=76:=λa d=>by
 obtain⟨k,_,T,rfl,h⟩:=c.mem d;exact⟨T,rfl,h.all.1⟩
variable{n b3:R}{f t e4:U}
theorem au.a1S (b:au f t 76 (flat g) n) (c:aA dp e1 g): ∃a,View t n a (.J g .any)/\f.sub a:=by obtain⟨h,a,d,k,o⟩:=View.dR b;rw[db (c.cells λ_ _=>dp.cells)]at d;grind[xJ,a1R]
def cZ (a:List aL) (b:List UInt8):Nat:=(a.takeWhile λc=>c5 c.name b).length
def FN: ∀ {c:List aL}{b:List UInt8}{d:Nat},Place c b d->d=cZ c b
 | [],b,d,a=>by have:=a.1;simpa[cZ] using this
 |o::c,b,0,a=>by
  have:=a.2.2 0 a9q a9p;simp only[a5u]at this;simp[cZ,this]
 |o::c,b,d+1,a=>by
  have k:=a.2.1 0 a9p;simp only[a5u]at k;have:=FN ⟨by have:=a.1;simpa using this,λh p=>by have:=a.2.1 (h+1) a9p;trivial,λh p r=>by have:=a.2.2 (h+1) a9r a9p;trivial⟩;simp only[cZ,a6g,k,if_true,a4S];rw[this];rfl
def gA (a:List aL) (b:List UInt8):Bool:=decide (cZ a b<a.length)&&decide ((a.getD (cZ a b) default).name=b)
theorem zq {c:List aL} (d:cj c=true): ∀b a,b<a->a<c.length->c5 (c.getD b default).name (c.getD a default).name=true
 |b,0,h1,_=>by omega
 |b,a+1,h1,p=>by
  have h:=d;simp only[cj,a4Q,a5e,a6e,a6w,decide_eq_true_eq]at h;have k:=(h.1 (a+1) p).2.resolve_left a9p;rw[Nat.add_sub_cancel]at k;rcases a9n b a with o|o
  .exact vd _ _ _ (zq d b a o a9p) k
  grind
def zr (a:List aL) (c:List R) (h:Own) (b:List UInt8) (r:aA dp a c) (k:cj a=true) (d:U):
  AC Tryz.prog 148 [.J c h,bb b] d λo p=>p=d/\o= .aI [.v (.int .i64 (cZ a b:Int)),.v (.bool (gA a b))]:=by
 have z:a.length<=8:=by simp only[cj,a4Q,decide_eq_true_eq]at k;omega
 refine(a1O a c h b r a9p (zq k) d).mono λo p x=> ?_;obtain⟨C,D,y,rfl⟩:=x;obtain rfl:=FN y;trivial
def vf (d:Except Int (List aL)) (a:R):Prop:=
 match d with
 | .error b=>b≠0/\a= .aI [.J [] .nil,.v (.int .i64 b)]
 | .ok h=> ∃c,aA dp h c/\a= .aI [.J c .any,.v (.int .i64 0)]
def jZ (a:List aL) (b:aL):Except Int (List aL):=
 if(cj a&&fx b)=true then(if gA a b.name=true then .error 4 else if 8<=a.length then .error 10 else .ok (a.take (cZ a b.name)++b::a.drop (cZ a b.name)))else .error 1
def ka (a:List aL) (b:aL):Except Int (List aL):=
 if(cj a&&fx b)=true then(if gA a b.name=true then .ok (a.set (cZ a b.name) b)else .error 3)else .error 1
def sY (a b:U) (o:Except Int (List aL)) (c:R):Prop:=
 match o with
 | .error d=>a.sub b/\d≠0/\c= .aI [.J [] .nil,.v (.int .i64 d)]
 | .ok p=> ∃h k,aA dp p k/\au a b 76 (flat k) h/\c= .aI [h,.v (.int .i64 0)]
def sY.zs {a:Except Int (List aL)} (b:sY f t a n): ∃c d,View t n d c/\f.sub d/\vf a c:=by
 cases a with
 |error x=>exact⟨_,_,View.refl,b.1,b.2⟩
 |ok y=>obtain⟨z,k,h,o,rfl⟩:=b;obtain⟨C,p,r⟩:=au.a1S o h;exact⟨_,_,View.aI (a:= []) p,r,k,h,rfl⟩
def a1T (a:List aL) (b:List UInt8):cZ a b<=a.length:=by unfold cZ;have:=congrArg List.length (a5E (p:=λc:aL=>c5 c.name b) (l:=a));rw[a4O]at this;omega
def a1U (a:List aL) (d:List R) (r:Own) (b:aL) (c:List R) (D:ea b c) (V:b.Fit) (p:aA dp a d) (L: ∀b∈a,b.Fit) (W:a.length<=1000) (x:U):
  AC Tryz.prog 79 [.J d r,.agg c] x λz E=>x.sub E/\vf (jZ a b) z:=by
 have q:AC Tryz.prog 79 [.J d r,.agg c] x λz E=>sY x E (jZ a b) z:= ?_
 .exact q.view λz E s=>s.zs
 have t:=p.len;obtain⟨e,Q,X,Y,Z,j9,k0,k1,k2,k3,k4,k5,k6⟩:=D.all;refine aM hm Ly ?_;refine bp λf u=> ?_;have C:=U.af (Y:= .cells c) (U.a1) u;have aH:=U.ai x f (.cells c);generalize x.set f _=o at*;have v:=U.ae aH;have h:(if(cj a&&fx b)=true then(if gA a b.name=true then .error 4 else if 8<=a.length then .error 10 else .ok (a.take (cZ a b.name)++b::a.drop (cZ a b.name)))else .error 1)=jZ a b:=rfl;generalize jZ a b=k7 at*;cases P:cj a with
 |false=>rw[if_neg (by rw[P];simp)]at h;refine bc (nC a d r p L a9p o) ?_;rw[<-h];exact⟨_,U.a1,C,a9t,rfl⟩
 |true=>
 cases g:fx b with
 |false=>rw[if_neg (by rw[g];simp)]at h;refine bc (nC a d r p L a9p o) ?_;refine bc (r9 b c D V o) ?_;rw[<-h];exact⟨_,U.a1,C,a9t,rfl⟩
 |true=>
 rw[if_pos (by rw[P,g];rfl)]at h;refine bc (nC a d r p L a9p o) ?_;refine bc (r9 b c D V o) ?_;have F:=zr a d r b.name p P o;have w:=a1T a b.name;generalize cZ a b.name=k at*;cases G:gA a b.name with
 |true=>rw[if_pos G]at h;rw[G]at F;refine bc F ?_;rw[<-h];exact⟨_,U.a1,C,a9t,rfl⟩
 |false=>
 rw[if_neg (by rw[G];simp)]at h;rw[G]at F;refine bc F ?_;refine aG (λA=> ?_) λA=> ?_
 .rw[if_pos a9p]at h;rw[<-h];exact⟨_,U.a1,C,a9t,rfl⟩
 rw[if_neg a9p]at h;have i:aR 76 [R.agg c]:=λj B=>by rw[a5g.1 B];exact e
 refine(rK (eO i a9q λy k8=>trivial)).mpr ?_;have v:=U.ae aH;refine aa ?_;refine ag (zp a d r o p W) ?_;intro l m S;have k9:=U.ae (S.1 _ _ aH);refine aa ?_;have H:flat [R.agg c]=c:=by simp[flat,R.cells]
 refine eO i a9q λy n=> ?_;rw[H];have T:=p.cells λ_ _=>dp.cells;have I:au (o.set y (.cells c)) (m.set y (.cells c)) 76 (flat d) l:=S.new n;have K:(flat d).length=a.length*76:=by rw[db T,t]
 have M:=a1Q (o.set y (.cells c)) (m.set y (.cells c)) (flat d) l I a.length K k w W c e y (U.ai _ _ _);refine aa ?_;refine ag M ?_;intro z l0 N;refine aa ?_;refine⟨_,U.a1,?_⟩;rw[<-h];have O:x.sub (o.set y (.cells c)):=U.af C (U.bF C (U.bF S.1 n));refine⟨z,d.take k++ .agg c::d.drop k,(p.take k).append ⟨⟨c,rfl,D⟩,p.drop k⟩,?_,rfl⟩;have j:flat (d.take k++ .agg c::d.drop k)=(flat d).take (k*76)++(c++(flat d).drop (k*76)):=by rw[(fS k T).1,(fS k T).2];simp[flat,R.cells]
 rw[j];exact N.base O
variable{e i v O b8 j0:Nat}
theorem au.lE (c:au t f e (flat g) n) (d:aR e g) (y:0<e) (o:i<g.length) (p:B.length=e):
  ∃b h a,n= .an b g.length h e/\f b=some (.cells a)/\i*e+e<=a.length/\au t (f.set b (.cells (putAt a (i*e) B))) e (flat (g.set i (.agg B))) n:=by
 have z:=db d;have C:(i+1)*e<=g.length*e:=a5c _ o;rw[a5V,a7G]at C;obtain⟨b,D,h,a,rfl,r,E,F,G,W,x,L⟩:=c.an (λk=>by rw[k,a4W]at z;omega);obtain rfl:D=g.length:=a7i y a9p;have j:=a5c e x;refine⟨b,h,a,rfl,E,a9p,U.af c.1 r,.inr ⟨b,g.length,h,_,rfl,r,U.ai _ _ _,?_,?_,?_,x,L⟩⟩
 .rw[eH _ _ _ a9p,F]
 .have P:g.set i (.agg B)=g.take i++ .agg B::g.drop (i+1):=a6d .. |>.trans (by rw[if_pos o])
  have S:flat (g.take i++ .agg B::g.drop (i+1))=(flat g).take (i*e)++(B++(flat g).drop ((i+1)*e)):=by rw[(fS (i+1) d).1,(fS i d).2];simp[flat,R.cells]
  have l:(a.take (i*e)).length=i*e:=by rw[a4P];omega
  have T:(i+1)*e=i*e+e:=by grind
  rw[P,S,putAt,p,<-G,a6b,a6v a9p,T,a6f];have m:(a.take (i*e)++B).length=i*e+e:=by simp_all
  have q:g.length*e=(i*e+e)+(g.length*e -(i*e+e)):=a9p;grind
 .rw[db (d:=e)]
  .simp
  .intro k V;rcases a6V V with c|rfl
   .exact d k c
   .exact p
theorem a1V (a:List aL) (c:List R) (o:Own) (b:aL) (d:List R) (z:ea b d) (S:b.Fit) (k:aA dp a c) (L: ∀b∈a,b.Fit) (g:a.length<=1000) (r:U):
  AC Tryz.prog 151 [.J c o,.agg d] r λC D=>r.sub D/\vf (ka a b) C:=by
 have i:AC Tryz.prog 151 [.J c o,.agg d] r λC D=>sY r D (ka a b) C:= ?_
 .exact i.view λC D E=>E.zs
 have j:=k.len;obtain⟨l,u,v,w,A,B,H,I,K,M,N,O,Q⟩:=z.all;refine aM hm NH ?_;refine bp λT m=> ?_;have F:=U.af (Y:= .cells d) (U.a1) m;have aH:=U.ai r T (.cells d);generalize r.set T _=p at*;have X:=U.ae aH;have h:(if(cj a&&fx b)=true then(if gA a b.name=true then .ok (a.set (cZ a b.name) b)else .error 3)else .error 1)=ka a b:=rfl;generalize ka a b=Y at*;cases P:cj a with
 |false=>rw[if_neg (by rw[P];simp)]at h;refine bc (nC a c o k L a9p p) ?_;rw[<-h];exact⟨_,U.a1,F,a9t,rfl⟩
 |true=>
 cases V:fx b with
 |false=>rw[if_neg (by rw[V];simp)]at h;refine bc (nC a c o k L a9p p) ?_;refine bc (r9 b d z S p) ?_;rw[<-h];exact⟨_,U.a1,F,a9t,rfl⟩
 |true=>
 rw[if_pos (by rw[P,V];rfl)]at h;refine bc (nC a c o k L a9p p) ?_;refine bc (r9 b d z S p) ?_;have G:=zr a c o b.name k P p;have W:gA a b.name=true->cZ a b.name<a.length:=λE=>by
  simp only[gA,a4Q,decide_eq_true_eq]at E;exact E.1
 generalize cZ a b.name=x at*;cases y:gA a b.name with
 |false=>rw[if_neg (by rw[y];simp)]at h;rw[y]at G;refine bc G ?_;rw[<-h];exact⟨_,U.a1,F,a9t,rfl⟩
 |true=>
 rw[if_pos y]at h;rw[y]at G;have W:=W y;refine bc G ?_;refine ag (zp a c o p k g) ?_;intro Z j9 e;have n:=k.cells λ_ _=>dp.cells;obtain⟨f,q,k0,rfl,s,k1,t⟩:=au.lE e n a9p (i:=x) a9p l;have k2:=U.ae (e.1 _ _ aH);have k3:cL 76 (.an f c.length q 76) (.v (.int .i64 (x)))=some (.ptr f (x*76)):=by grind[jz,Int.toNat_natCast]
 have k4:=U.aJ s;refine aa ?_;refine⟨_,U.a1,?_⟩;rw[<-h];exact⟨_,c.set x (.agg d),k.set x ⟨d,rfl,z⟩,t.base F,by rw[j]⟩
theorem a1W (F o:U) (d:List R) (G:R) (L:au F o 76 d G) (r:Nat) (P:d.length=r*76) (a:Nat) (M:a<r) (N:r<=1000):
  AC Tryz.prog 150 [G,.v (.int .i64 (a:Int)),.v (.int .i64 ((a:Int)+1))] o λi j=>au F j 76 (d.take (a*76)++d.drop ((a+1)*76)) i:=by
 obtain⟨c,b,k,x,rfl,S,T,l,V,m,C,n⟩:=L.an (λq=>by rw[q,a4W]at P;omega);obtain rfl:b=r:=a9p;refine bd hm NF a9q ?_;have s:(a)+1=((a+1:Nat):Int):=a9p;rw[s];obtain⟨O,t⟩:=DS (O:=76) (a:=c) (b:=b) (j0:=a) (e:=a+1) (e2:= .i64) (c:= .i64) (d:= .i64) a9p a9p C;have u:cg 76 (.an c b k 76) none (some (.v (.int .i64 (a)))) none=some (.an c a k 76):=hJ a9p;obtain⟨Q,v,_,D⟩:=ot (i:=76) (j0:=c) (e:=a+1) (e2:= .i64) a9p C;have D:=D o x d T a9p V;have w: ¬(a)=((a+1:Nat):Int):=a9p;simp -dsimp -implicitDefEqProofs (disch:=first|omega|assumption|(simp only[bk,Nat.reduceAdd];try omega)) only[go_sem,simprocAttr,↓eI,t,u,v,w];refine uj T l D a9p a9p a9p ?_;have A:a+(b -(a+1))=b - 1:=a9p;rw[A];have W:(d.drop ((a+1)*76)).length=(b -(a+1))*76:=by rw[a5d];omega
 obtain⟨h,y⟩: ∃h,h=putAt x (a*76) (d.drop ((a+1)*76)):=⟨_,rfl⟩;have E:h.length=k*76:=by rw[y,eH _ _ _ a9p];omega
 have B:h.take ((b - 1)*76)=d.take (a*76)++d.drop ((a+1)*76):=by
  rw[y,putAt];have H:(x.take (a*76)).length=a*76:=by rw[a4P];omega
  rw[show(b - 1)*76=(x.take (a*76)++d.drop ((a+1)*76)).length by rw[a4O,H,W];omega,a7u];grind
 rw[<-y];have I:(o.set c (.cells h)) c=some (.cells h):=U.ai _ _ _;have X:cg 76 (.an c (b - 1) k 76) (some (.v (.int .i64 ((b - 1:Nat))))) (some (.v (.int .i64 ((b))))) none=some (.bA c ((b - 1)*76) (b -(b - 1)) (k -(b - 1)) 76):=Cg a9p C a9p;have e: ∀z:List R,z.length=76->kR 76 z (.bA c ((b - 1)*76) (b -(b - 1)) (k -(b - 1)) 76) (o.set c (.cells h))=some ((o.set c (.cells h)).set c (.cells (putAt h ((b - 1)*76) (List.replicate (b -(b - 1)) z).flatten))):=λz Y=>wX I (by rw[E];omega);have p:=fP.all.1;rw[<-iM]at p;have e:=(e _ p).trans a9v;have K:(d.take (a*76)++d.drop ((a+1)*76)).length=(b - 1)*76:=by rw[a4O,a4P,a5d];omega
 clear p y W V m P;refine aa ?_;have p:=fP.all.1;rw[<-iM]at p;refine⟨_,U.a1,?_⟩;generalize f:putAt h ((b - 1)*76) _=g;have cd:g.length=k*76:=by rw[<-f,eH _ _ _ (by rw[kT,p,E];omega),E]
 have ca:g.take ((b - 1)*76)=h.take ((b - 1)*76):=by rw[<-f,putAt,a5b,a6o (by rw[a4P];omega),a6b,a6X]
 refine⟨U.af L.1 S,.inr ⟨c,b - 1,k,_,rfl,S,U.ai _ _ _,cd,by rw[ca,B],K,a9p,n⟩⟩
def cI (a:List aL) (b:List UInt8):Except Int (List aL):=
 if cj a=true then(if gA a b=true then .ok (a.take (cZ a b)++a.drop (cZ a b+1))else .error 3)else .error 1
def a1X (a:List aL) (c:List R) (p:Own) (b:List UInt8) (h:aA dp a c) (G: ∀S∈a,S.Fit) (L:a.length<=1000) (d:U):
  AC Tryz.prog 81 [.J c p,bb b] d λr y=>d.sub y/\vf (cI a b) r:=by
 have T:AC Tryz.prog 81 [.J c p,bb b] d λr y=>sY d y (cI a b) r:= ?_
 .exact T.view λr y z=>z.zs
 have V:=h.len;refine aM hm LC ?_;have k:(if cj a=true then(if gA a b=true then .ok (a.take (cZ a b)++a.drop (cZ a b+1))else .error 3)else .error 1)=cI a b:=rfl;generalize cI a b=i at*;cases D:cj a with
 |false=>rw[if_neg (by rw[D];simp)]at k;refine bc (nC a c p h G a9p d) ?_;rw[<-k];exact⟨_,U.a1,U.a1,a9t,rfl⟩
 |true=>
 rw[if_pos D]at k;refine bc (nC a c p h G a9p d) ?_;have C:=zr a c p b h D d;have E:gA a b=true->cZ a b<a.length:=λz=>by
  simp only[gA,a4Q,decide_eq_true_eq]at z;exact z.1
 generalize cZ a b=o at*;cases x:gA a b with
 |false=>rw[if_neg (by rw[x];simp)]at k;rw[x]at C;refine bc C ?_;rw[<-k];exact⟨_,U.a1,U.a1,a9t,rfl⟩
 |true=>
 rw[if_pos x]at k;rw[x]at C;have E:=E x;refine bc C ?_;refine ag (zp a c p d h L) ?_;intro W e f;have F:=h.cells λ_ _=>dp.cells;have g:(flat c).length=a.length*76:=by rw[db F,V]
 refine aa ?_;refine ag (a1W d e (flat c) W f a.length g o E L) ?_;intro r j P;refine aa ?_;refine⟨_,U.a1,?_⟩;rw[<-k];rw[(fS (o+1) F).1,(fS o F).2,<-oT]at P;exact⟨r,c.take o++c.drop (o+1),(h.take o).append (h.drop (o+1)),P,rfl⟩
variable{s a7:R -> U -> Prop}{K:Ctx}{b5:FuncId}
def fC {d:U->Prop} (h: ∀w a,cx t e w a->d a) (c:AC K.p b5 g f λ_ a=>cx t e w a) (k: ∀b a,cx t e w a->a7 b a)
  (o: ∀b a,d a->s b a=a7 b a:=by intro b f c;simp -dsimp -implicitDefEqProofs (disch:=first|omega|assumption|exact U.tO a9s a9s|(simp only[bk,Nat.reduceAdd];try omega)) only[go_sem,simprocAttr,-List.reduceReplicate,↓eI,tP,tN, *]<;>rfl):nU K b5 g f (bO s ()):=ag c λb a c=>(o b a (h w a c)).mpr (k b a c)
theorem FO (D e:U) (c:Nat) (d:List UInt8) (a:az) (r x y:Own) (G:cx D c d e) (X:d.length<=1000000000) (f:a.sum.length=32) (n:a.hr):
  AC Tryz.prog 105 [.ptr c 0,.agg (ab a r x y)] e λ_ h=>cx D c (d++dZ a) h:=by
 have Y:=(aV (M:=r) (e6:=x) (h4:=y) f).all;generalize ab a r x y=L at*;obtain⟨Z,j9,k0,q,k1,s,k2⟩:=n;obtain⟨P,t⟩:=a6K q;obtain⟨S,u⟩:=a6K s;have k3: ∀z:List UInt8,(.agg (z.map ak))=cw z:=λ_=>rfl;refine aM hm Mk ?_;refine aN λz v=> ?_;obtain⟨w,A,g⟩:=G.new (ob:= .cells L) v;have E: ∀d h,cx (D.set z (.cells L)) c d h->h.read z=some L:=λd h G=>U.ae (G.get w (U.ai _ _ _));refine aa ?_;refine fC E (CJ _ _ c _ _ f g a9p) λ_ i o=> ?_;refine fC E (sf _ _ c _ _ a9p o a9r) λ_ i o=> ?_;refine fC E (sf _ _ c _ _ a9p o (by simp[ku];omega)) λ_ i o=> ?_;refine jI λk4 B=> ?_;have T:aA isRow [a.aT,a.aU,a.key] [.J (ad a.aT) r,.J (ad a.aU) x,.J (ad a.key) y]:=⟨⟨_,rfl⟩,⟨_,rfl⟩,⟨_,rfl⟩,trivial⟩;have p: ∀C∈ [a.aT,a.aU,a.key],C.length<=8:=a9r;have H: ∀C:List Int,(dw C).length=8*C.length+1:=λC=>by rw[dw,a4S,o8]
 have V:dZ a=a.sum++fj P++fj S++ [a.aT,a.aU,a.key].flatMap dw:=by rw[dZ,t,u];simp
 obtain⟨k,F⟩: ∃k,[a.aT,a.aU,a.key]=k:=⟨_,rfl⟩;have k5:k.length=3:=by rw[<-F];rfl
 rw[F]at T p V;have I: ∀b,b<=3->((k.take b).flatMap dw).length<=65*b:=λb j=>by
  rw[<-F]at p|-;have:=p a.aT a9q;have:=p a.aU a9q;have:=p a.key a9q;rcases(by omega:b=0\/b=1\/b=2\/b=3)with rfl|rfl|rfl|rfl<;>simp[H]<;>omega
 generalize (([.J (ad a.aT) r,.J (ad a.aU) x,.J (ad a.key) y]):List R)=l at*;obtain⟨_,W,K⟩:=o.new (ob:= .buf 1 l.length l.length) B;have W:=(U.set_nil W).1;have k6:=T.len;rw[V,<-a5b,<-a5b,<-a5b];have k7:(d++a.sum++fj P++fj S).length<=1000001000:=by simp[ku];omega
 generalize d++a.sum++fj P++fj S=M at*;clear E F V o g;refine cn [0,26,27] (λb:Nat=> [(28,.v (.int .i64 b))]) (λb h=>b<=3/\cx D c (M++(k.take b).flatMap dw) h) (λb=>3 - b) 0 ⟨⟨a9p,by simpa using K.base (U.af (U.af U.a1 A) W)⟩,aS⟩ ?_;rintro b k8 ⟨j,N⟩ k9;refine aa ?_;refine aG (λO=> ?_) λO=> ?_
 .have m:k[b]? =some (k.getD b []):=by grind
  obtain⟨_,l0,Q,rfl⟩:=T.get m;have l1:=p _ (a4V m);have l2:=I b j;refine aa ?_;refine hL (sg _ _ c _ _ Q a9p N (by rw[a4O];omega)) λ_ l3 l4=> ?_;refine⟨b+1,⟨a9p,?_⟩,rfl,a9p⟩;grind[fb,List.append_assoc]
 .obtain rfl:b=3:=a9p;grind[List.take_of_length_le,U.a1]
theorem FP (b:fx e7=true):e7.hr:=by
 simp only[fx,eo,mi,jU,a4Q,decide_eq_true_eq,a6w]at b;obtain⟨⟨⟨_,c⟩,a⟩,d,h,P,S,T⟩:=b;rw[if_pos a9t]at a;simp only[a4Q,decide_eq_true_eq,a5e,a6e,mh,jU]at a;obtain⟨k,o,p,r,x,y⟩:=qF d;obtain⟨z,C,D,E,F,G⟩:=qF h;refine⟨c.2,a.1.2.2,λV L=> ?_,⟨k,o,a9p,p,r,x,y⟩,⟨z,C,?_,D,E,F,G⟩⟩
 .obtain⟨W,e,rfl⟩:=a5y L;simp_all
 grind[ay]
theorem kb (a:cj e1=true):(∀b∈e1,b.hr)/\e1.length<=8:=by simp only[cj,a4Q,a5e,a6e,decide_eq_true_eq]at a;refine⟨λb c=> ?_,a.2⟩;obtain⟨d,h,rfl⟩:=a5y c;grind[FP,List.getD]
theorem ra (b:List aL) (G:List R) (W:Own) (z:aA dp b G) (s: ∀a∈b,a.Fit) (t:b.length<=1000000) (k:U):
  AC Tryz.prog 58 [.J G W] k λe o=>k.sub o/\if cj b=true then∃u,e= .aI [.J ((ib b).map ak) u,.v (.int .i64 0)]else e= .aI [.J [] .nil,.v (.int .i64 1)]:=by
 have k2:=z.len;have k3:=λL=>ir L;refine aM hm L2 ?_;refine bc (nC b G W z s t _) ?_;refine aG (λC=> ?_) λC=> ?_
 .trivial
 obtain⟨f,k4⟩:=kb C;refine bp λh v=> ?_;have w:cx k h [] (k.set h (.cells [.J [] .nil,.v (.int .i64 0)])):=⟨.nil,bh.nil U.a1⟩;refine hL (mY k _ h [] (UInt8.ofNat b.length) w a9q) λ_ k5 k6=> ?_;have da:=a0s z f;refine cn [0,4,19,20] (λc:Nat=> [(21,.v (.int .i64 c))]) (λc o=>c<=b.length/\cx k h (UInt8.ofNat b.length::(b.take c).flatMap hb) o) (λc=>b.length - c) 0 ⟨⟨a9p,by trivial⟩,aS⟩ ?_;rintro c A ⟨k7,x⟩ B;refine aa ?_;refine aG (λH=> ?_) λH=> ?_
 .have g:b[c]? =some (b.getD c default):=by simp_all
  obtain⟨_,k8,T,rfl,r⟩:=z.get g;have p:=f _ (a4V g);have i:=da c;have I:(b.take (c+1)).flatMap hb=(b.take c).flatMap hb++hb (b.getD c default):=by rw[fb (b:=default) a9p,a5C];simp
  generalize b.getD c default=a at*;have K:=yA p r.k.1 r.z.1;obtain⟨M,k9,l0,l1,l2,l3,l4,l5,l6,l7,l8,l9,n0⟩:=r.all;obtain⟨_,_,n1,n2⟩:=nE r;have n3:=jy (n:= .agg T) M;have n4:=iM;have n5:=hx (a:=a.aD);have n9:= @pw a.aD;refine aa ?_;refine aN λP L=> ?_;obtain⟨N,O,D⟩:=x.new (ob:= .cells T) L;have E: ∀aP o,cx (k.set P (.cells T)) h aP o->o.read P=some T:=λaP o Q=>U.ae (Q.get N (U.ai _ _ _));have a00: ∀aP:List UInt8,tI (bb aP)=some (.J (aP.map ak) .any):=λaP=>rfl;obtain⟨y,S⟩: ∃y,UInt8.ofNat b.length::(b.take c).flatMap hb=y:=⟨_,rfl⟩;rw[S]at D;have a01:y.length<=9000:=by rw[<-S,a4S];omega
  rw[hb,a4O]at K;have a02:=xf a.name;have a03:=p.n;have a04:=p.c;refine aa ?_;refine fC E (CU _ _ h _ a.name .any a9p D a9p) λ_ j D=> ?_;refine fC E (mY _ _ h _ (UInt8.ofNat a.aD.length) D (by rw[a4O];omega)) λ_ a05 X=> ?_;have a06:(y++hQ a.name++ [UInt8.ofNat a.aD.length]).length<=10000:=by grind
  have l: ∀d,((a.aD.take d).flatMap hQ).length<=200:=λd=>by
   have:=F1 (a:=a.aD.take d) λC Y=>p.cs C (a4Z Y);rw[a4P]at this;omega
  refine cn [4,6,21,37,38] (λd:Nat=> [(39,.v (.int .i64 d))]) (λd o=>d<=a.aD.length/\cx (k.set P (.cells T)) h (y++hQ a.name++ [UInt8.ofNat a.aD.length]++(a.aD.take d).flatMap hQ) o) (λd=>a.aD.length - d) 0 ⟨⟨a9p,by simpa using X⟩,aS⟩ ?_;rintro d a07 ⟨a08,F⟩ B;have a09:=E _ _ F;refine aa ?_;refine aG (λc2=> ?_) λc2=> ?_
  .have m:=l d;have a10:=p.cs (a.aD.getD d []) (by simp_all);refine hL (CU _ _ h _ (a.aD.getD d []) .any a9p F (by rw[a4O];omega)) λ_ Z V=> ?_;refine⟨d+1,⟨a9p,?_⟩,rfl,a9p⟩;rw[fb (b:= []) a9p,a5C,<-a5b];simpa using V
  .obtain rfl:d=a.aD.length:=a9p;have m:=l a.aD.length;rw[a5i]at F m;have a11:=sq r.k.1 p.k;refine fC E (FO _ _ h _ a.bM _ _ _ F (by rw[a4O];omega) r.k.1 p.k) λ_ Z V=> ?_;refine hL (FO _ _ h _ a.cr _ _ _ V (by grind) r.z.1 p.z) λ_ a13 j9=> ?_;refine⟨c+1,⟨a9p,?_⟩,rfl,a9p⟩;have k0:=j9.base (U.af U.a1 O);rw[I,<-a6a,S,hb];simpa using k0
 .obtain rfl:c=b.length:=a9p;have i:=da b.length;rw[a5i]at x i;refine ag (CI k A h _ x (by rw[a4S];omega)) ?_;rintro _ j ⟨n,q,rfl⟩;refine aa ?_;refine bc (CV k j h _ (x.mono q.sub)) ?_;have k1:=U.aq (x.sub v) q.sub
  first|exact⟨n,rfl⟩|exact⟨k1,n,rfl⟩
theorem FQ (n k1:U) (h:Nat) (A:az) (D:List UInt8) (l1:n h=none) (l2:A.In 8) (e:bY n h ⟨dZ A++D,0⟩ k1):
  AC Tryz.prog 175 [.ptr h 0] k1 λq S=>bY n h ⟨D,0⟩ S/\ ∃F G L,q= .agg (ab A F G L):=by
 have eY:=aV (M:= .nil) (e6:= .nil) (h4:= .nil) bj;have a08:=eY.len;have a09:=eY.t37;obtain⟨a,b,c,a10,cm,d⟩:=A;obtain⟨P,l3,l4,l5,l6,l7,l8,l9,a11,n0,a13⟩:=l2;obtain⟨o,rfl⟩:=a6K l9;obtain⟨r,rfl⟩:=a6K n0
 dsimp only at*
 have n1:dZ ⟨a,b,c,(o),(r),d⟩++D=a++(fj o++(fj r++(dw b++(dw c++(dw d++D))))):=by simp[dZ]
 rw[n1]at e;have a14:(cw a).cells=a.map ak:=rfl;have a15:(a.map ak).length=32:=by simp[P]
 have a16:=cp;have a18:putAt (ab ay .nil .nil .nil) 0 (a.map ak)=ab ⟨a,[],[],0,0,[]⟩ .nil .nil .nil:=ue bj P;have a19: ∀(b c) (T V) (d) (F G L),putAt (ab ay .nil .nil .nil) 0 (ab ⟨a,b,c,T,V,d⟩ F G L)=ab ⟨a,b,c,T,V,d⟩ F G L:=λb c T V d F G L=>cD bj P;have cl: ∀(b c) (T V) (d) (F G L),(ab ⟨a,b,c,T,V,d⟩ F G L).length=37/\(ab ⟨a,b,c,T,V,d⟩ F G L).take 37=ab ⟨a,b,c,T,V,d⟩ F G L:=λb c T V d F G L=>by
  have:=aV (A:=⟨a,b,c,T,V,d⟩) (M:=F) (e6:=G) (h4:=L) P;exact⟨this.len,this.t37⟩
 refine aM hm Ox ?_;refine aN λq n2=> ?_;rw[cp];obtain⟨B,k2,e⟩:=e.new (ob:= .cells (ab ay .nil .nil .nil)) n2;refine aa ?_;have k3:=CR _ _ h _ e;rw[D2 _ _ P]at k3;refine ag k3 ?_;rintro _ a27 ⟨M,rfl⟩
 dsimp only at M|-
 refine aa ?_;refine aN λz N=> ?_;obtain⟨f,k4,k5⟩:=M.new (ob:= .cells (ab ⟨a,[],[],0,0,[]⟩ .nil .nil .nil)) N;have n3:q≠z:=by rintro rfl;rw[M.get B (U.ai _ _ _)]at N;cases N
 obtain⟨W,H⟩: ∃W,n.set q (.cells (ab ay .nil .nil .nil))=W:=⟨_,rfl⟩;have n4:W h=none:=by rw[<-H,U.ao _ _ (a4U B)];exact l1
 have n5:W q=some (.cells (ab ay .nil .nil .nil)):=by rw[<-H,U.ai]
 have k6:n.sub W:=by rw[<-H];exact U.af U.a1 k2
 rw[H]at k5 k4;have k7: ∀ {g O S},bY (W.set z g) h O S->S z=some g:=λe=>e.get f (U.ai _ _ _);refine aa ?_;have s:=sh _ _ h 1048576 a9p _ k5;rw[u5 _ a9p]at s;refine ag s ?_;rintro _ a29 ⟨t,rfl⟩;have a30:=U.aJ (k7 t);have i:putAt (ab ⟨a,[],[],0,0,[]⟩ .nil .nil .nil) 34 [.v (.int .i64 (o))]=ab ⟨a,[],[],(o),0,[]⟩ .nil .nil .nil:=sr P;have t:=t.put (.cells (ab ⟨a,[],[],(o),0,[]⟩ .nil .nil .nil)) f
 dsimp only at t|-
 refine aa ?_;have s:=sh _ _ h 1048576 a9p _ t;rw[u5 _ a9p]at s;refine ag s ?_;rintro _ a34 ⟨u,rfl⟩;have a36:=U.aJ (k7 u);have a38:putAt (ab ⟨a,[],[],(o),0,[]⟩ .nil .nil .nil) 35 [.v (.int .i64 (r))]=ab ⟨a,[],[],(o),(r),[]⟩ .nil .nil .nil:=ss P;have u:=u.put (.cells (ab ⟨a,[],[],(o),(r),[]⟩ .nil .nil .nil)) f
 dsimp only at u|-
 refine aa ?_;refine jI λQ n9=> ?_;obtain⟨a00,a01,X⟩:=u.new (ob:= .buf 1 3 3) n9;have Y:z≠Q:=by grind
 have a02:W Q=none:=by rwa[U.ao _ _ (a4U Y)]at a01
 rw[U.dX _ Y]at X;obtain⟨E,I⟩: ∃E,W.set Q (.buf 1 3 3)=E:=⟨_,rfl⟩;rw[I]at X;have Z:W.sub E:=by rw[<-I];exact U.af U.a1 a02
 have a03:E h=none:=by rw[<-I,U.ao _ _ (a4U a00)];exact n4
 have a04:E z=none:=by rw[<-I,U.ao _ _ Y];exact k4
 have j: ∀ {g O S},bY (E.set z g) h O S->S z=some g:=λe=>e.get f (U.ai _ _ _);have j9: ∀g,(E.set z g) h=none:=λg=>by rw[U.ao _ _ (a4U f)];exact a03
 let a05:Nat->az:=λk=>⟨a,if 0<k then b else [],if 1<k then c else [],(o),(r),if 2<k then d else []⟩
 let a06:Nat->List UInt8:=λk=>if k=0 then dw b++(dw c++(dw d++D))else if k=1 then dw c++(dw d++D)else if k=2 then dw d++D else D;refine cn [0,2,3,20,21] (λk:Nat=> [(22,.v (.int .i64 k))]) (λk S=>k<=3/\ ∃x y i,bY (E.set z (.cells (ab (a05 k) x y i))) h ⟨a06 k,0⟩ S) (λk=>3 - k) 0 ⟨⟨a9p,.nil,.nil,.nil,X⟩,aS⟩ ?_;rintro k K ⟨a42,x,y,m,p⟩ a43;refine aa ?_;refine aG (λa07=> ?_) λa07=> ?_
 .have k0:=U.aJ (j p);rcases(by omega:k=0\/k=1\/k=2)with rfl|rfl|rfl
  .have p:bY (E.set z (.cells (ab ⟨a,[],[],(o),(r),[]⟩ x y m))) h ⟨dw b++(dw c++(dw d++D)),0⟩ K:=p;have k0:=U.aJ (j p);have l:=pe _ _ h 8 a9p _ (j9 _) p;rw[ph b 8 _ l6 a9p l3]at l;refine aa ?_;refine ag l ?_;rintro _ k8 ⟨C,k9,rfl⟩;have l0:=U.aJ (j C);have v:=λx y i w=>Df (A:=⟨a,[],[],(o),(r),[]⟩) (a:=x) (M:=y) (e6:=i) (h4:=w) (q:=b) P
   dsimp only at v C|-
   refine aa ?_;exact⟨1,⟨a9p,_,_,_,C.put _ f⟩,rfl,a9p⟩
  .have p:bY (E.set z (.cells (ab ⟨a,b,[],(o),(r),[]⟩ x y m))) h ⟨dw c++(dw d++D),0⟩ K:=p;have k0:=U.aJ (j p);have l:=pe _ _ h 8 a9p _ (j9 _) p;rw[ph c 8 _ l7 a9p l4]at l;refine aa ?_;refine ag l ?_;rintro _ k8 ⟨C,k9,rfl⟩;have l0:=U.aJ (j C);have v:=λx y i w=>Dg (A:=⟨a,b,[],(o),(r),[]⟩) (M:=x) (a:=y) (e6:=i) (h4:=w) (q:=c) P
   dsimp only at v C|-
   refine aa ?_;exact⟨2,⟨a9p,_,_,_,C.put _ f⟩,rfl,a9p⟩
  .have p:bY (E.set z (.cells (ab ⟨a,b,c,(o),(r),[]⟩ x y m))) h ⟨dw d++D,0⟩ K:=p;have k0:=U.aJ (j p);have l:=pe _ _ h 8 a9p _ (j9 _) p;rw[ph d 8 _ l8 a9p l5]at l;refine aa ?_;refine ag l ?_;rintro _ k8 ⟨C,k9,rfl⟩;have l0:=U.aJ (j C);have v:=λx y i w=>su (A:=⟨a,b,c,(o),(r),[]⟩) (M:=x) (e6:=y) (a:=i) (h4:=w) (q:=d) P
   dsimp only at v C|-
   refine aa ?_;exact⟨3,⟨a9p,_,_,_,C.put _ f⟩,rfl,a9p⟩
 .obtain rfl:k=3:=a9p;have p:bY (E.set z (.cells (ab ⟨a,b,c,(o),(r),d⟩ x y m))) h ⟨D,0⟩ K:=p;have a47:=U.ae (j p);have a48:=U.aJ (p.get B (by rw[U.ao _ _ n3];exact Z _ _ n5));have cU:=cl b c o r d x y m;refine aa ?_;have C:=p.other (ob:= .cells (ab ⟨a,b,c,(o),(r),d⟩ x y m)) B;refine⟨_,U.a1,C.base ?_,_,_,_,rfl⟩;exact U.af (U.af (U.aq k6 Z) (U.bF (U.aq k6 Z) a04)) k2
theorem a1Y (a b:Nat) (d:a<=b) (h:b<=1048576) (c:List UInt8):fu b ⟨fj a++c,0⟩=(a,⟨c,0⟩):=by have k:=qB (fj a) c;grind[ku,fu,fi,fj,UInt8.toNat_ofNat',Nat.shiftRight_eq_div_pow]
def FR (a:List UInt8) (b:Nat) (d:a.length<=b) (h:b<=1048576) (c:List UInt8):qA b ⟨hQ a++c,0⟩=(a,⟨c,0⟩):=by unfold qA;rw[hQ,a5b,a1Y _ _ d h,qB];rfl
structure aL.In (t:aL):Prop where
 le:t.hr
 k:t.bM.In 8
 z:t.cr.In 8
def sZ {a:List (List UInt8)}:aR 1 (bE a):=λc b=>by obtain⟨_,_,rfl⟩:=a5h.1 b;rfl
theorem a1Z (V N:U) (p:Nat) (i:aL) (y:List UInt8) (l1:V p=none) (l2:i.In) (D:bY V p ⟨hb i++y,0⟩ N):
  AC Tryz.prog 110 [.ptr p 0] N λW E=>bY V p ⟨y,0⟩ E/\dp i W:=by
 obtain⟨h,a,e,F⟩:=i;obtain⟨⟨l3,a13,a3,_,_⟩,G,L⟩:=l2
 dsimp only at*
 have l4:hb ⟨h,a,e,F⟩++y=hQ h++(UInt8.ofNat a.length::(a.flatMap hQ++(dZ e++(dZ F++y)))):=by simp[hb]
 rw[l4]at D;have a14:=iM;refine aM hm Mu ?_;refine aN λW l5=> ?_;rw[iM];obtain⟨j,O,D⟩:=D.new (ob:= .cells ev) l5;refine aa ?_;have f:=CX _ _ p 16 a9p _ D;rw[FR _ _ l3 a9p]at f;refine ag f ?_;rintro _ a15 ⟨g,t,_,rfl⟩;have a16:= @p3 h t
 dsimp only at g|-
 refine aa ?_;have u: ∀(z) b c k,c.length=37->k.length=37->(bb h::R.J (bE z) b::(c++k)).length=76/\(bb h::R.J (bE z) b::(c++k)).take 76=bb h::R.J (bE z) b::(c++k)/\putAt ev 0 (bb h::R.J (bE z) b::(c++k))=bb h::R.J (bE z) b::(c++k):=λz b c k g l=>by
  have l6:(bb h::R.J (bE z) b::(c++k)).length=76:=by simp[g,l]
  exact⟨l6,a4N a9p,rT (by trivial)⟩
 obtain⟨o,Q⟩: ∃o,ab ay .nil .nil .nil=o:=⟨_,rfl⟩;have v:o.length=37:=by rw[<-Q];rfl
 have a18:=fP.all.1;refine aN λP w=> ?_;obtain⟨S,X,l⟩:=g.new (ob:= .cells (bb h:: .J [] .nil::(o++o))) w;have l7:=u [] .nil o o v v;rw[show bE []= []from rfl]at l7;have Y:W≠P:=by rintro rfl;rw[g.get j (U.ai _ _ _)]at w;cases w
 obtain⟨r,m⟩: ∃r,V.set W (.cells ev)=r:=⟨_,rfl⟩;have l8:r p=none:=by rw[<-m,U.ao _ _ (a4U j)];exact l1
 have l9:r W=some (.cells ev):=by rw[<-m,U.ai]
 have Z:V.sub r:=by rw[<-m];exact U.af U.a1 O
 rw[m]at l X;rw[Q];refine aa ?_;have j9:=pc _ _ p _ l;rw[qC]at j9;have n0:(UInt8.ofNat a.length).toNat=a.length:=by rw[a5T];omega
 have a19:min (a.length:Int) 8=(a.length):=a9p;refine ag j9 ?_;rintro _ a27 ⟨A,rfl⟩;obtain⟨n1,A⟩:=A;rw[n0];refine aa ?_;have a29: ∀x B,((r.set P x).set p B) p=some B:=λx B=>U.ai _ _ _;have k0: ∀x,(r.set P x) p=none:=λx=>by rw[U.ao _ _ (a4U S)];exact l8
 have T: ∀ {x n2 E},bY (r.set P x) p n2 E->E P=some x:=λD=>D.get S (U.ai _ _ _);refine cn [0,2,3,11] (λd:Nat=> [(12,.v (.int .i64 d))]) (λd E=>d<=a.length/\ ∃b t,bh ((r.set P (.cells (bb h:: .J (bE (a.take d)) b::(o++o)))).set p (hP ⟨(a.drop d).flatMap hQ++(dZ e++(dZ F++y)),0⟩ t)) E 1 (bE (a.take d)) b) (λd=>a.length - d) 0 ⟨⟨a9p,.nil,n1,bh.nil A⟩,aS⟩ ?_;rintro d n3 ⟨a30,b,a34,k1⟩ a36;have n:=dd.rs k1;have n4:=U.ae (T n);refine aa ?_;refine aG (λn5=> ?_) λn5=> ?_
 .have n9:=a3 (a.getD d []) (by simp_all);have a00:=drop_cons (a:=a) (b:= []) (e:=d) a9p;have k2:=fb (a:=a) (b:= []) (e:=d) a9p;have f:=CX _ _ p 16 a9p _ n.full;rw[a00,a5o,a5b,FR _ _ n9 a9p]at f;refine ag f ?_;rintro _ a01 ⟨q,a02,_,rfl⟩;obtain⟨a38,H⟩:=dd.step k1 (k0 _) q;have a03:=T (dd.rs H);have a42:=U.ae a03;have a43:= @p3 (a.getD d []) a02
  dsimp only at H|-
  refine aa ?_;refine jI (λa47 a04=> ?_) (d:=sZ (a:= [_]));have a48:=λd=>hx (a:=a.take d);refine dY (H.mono (U.af U.a1 a04)) sZ (sZ (a:= [_])) (by simp[hx];omega) (by simp[hx];omega) λa05 a52 C=> ?_;have k3:bE (a.take d)++ [bb (a.getD d [])]=bE (a.take (d+1)):=by rw[k2];simp[bE]
  rw[k3]at C|-;clear k2 k3;have a06:=U.aJ (T (dd.rs C));refine aa ?_;have s:=C.set (ob:= .cells (bb h:: .J (bE (a.take (d+1))) a05::(o++o))) (by rw[U.ao _ _ S];exact U.ai _ _ _);rw[U.dX _ (a4U S),U.set_set]at s;grind
 .obtain rfl:d=a.length:=a9p;rw[a7Y,a5i]at n;rw[a5i]at n4;have k4:=k0;have a07:=FQ _ n3 p e (dZ F++y) (k4 _) G n;refine ag a07 ?_;rintro _ a01 ⟨q,k5,k6,k7,rfl⟩;obtain⟨c,I⟩: ∃c,ab e k5 k6 k7=c:=⟨_,rfl⟩;have K:c.length=37:=by rw[<-I];exact(aV G.sum).len
  have a56:=U.aJ (T q);have a57:putAt (bb h::R.J (bE a) b::(o++o)) 2 c=bb h::R.J (bE a) b::(c++o):=by simp only[putAt,a7H,a6I,K,a6a,a5f,Nat.reduceAdd,a6s];simp_all
  have a08:=q.put (.cells (bb h:: .J (bE a) b::(c++o))) S;have a61:=u a b c o K v;rw[I];refine aa ?_;have a09:=FQ _ _ p F y (k4 _) L a08;refine ag a09 ?_;rintro _ a62 ⟨C,k8,k9,l0,rfl⟩;obtain⟨k,M⟩: ∃k,ab F k8 k9 l0=k:=⟨_,rfl⟩;have a10:k.length=37:=by rw[<-M];exact(aV L.sum).len
  have a06:=U.aJ (T C);have a63:putAt (bb h::R.J (bE a) b::(c++o)) 39 k=bb h::R.J (bE a) b::(c++k):=by simp_all [putAt]
  have s:=C.put (.cells (bb h:: .J (bE a) b::(c++k))) S;have a65:=u a b c k K a10;have a68:=U.aJ (C.get j (by rw[U.ao _ _ Y];exact l9));have a69:=U.ae (T s);have a71:=a4U Y;rw[M];refine aa ?_;have a11:=s.other (ob:= .cells (bb h:: .J (bE a) b::(c++k))) j;refine⟨_,U.a1,a11.base ?_,_,rfl,⟨b,k5,k6,k7,k8,k9,l0,by rw[I,M]⟩,⟨G.sum,?_⟩,⟨L.sum,?_⟩,(show a.length<=1000000 by omega)⟩
  .exact U.af (U.af Z (U.bF Z X)) O
  .exact⟨a5K G.o9 a9t,a5K G.oa a9t,a5K G.ob a9t⟩
  .exact⟨a5K L.o9 a9t,a5K L.oa a9t,a5K L.ob a9t⟩
def aL.In.fit (a:e7.In):e7.Fit:=⟨by have:=a.le.n;omega,by have:=a.le.c;omega,λb c=>by have:=a.le.cs b c;omega⟩
theorem FT (b: ∀c∈e1,c.In):(e1.flatMap hb).length<=1000*e1.length:=by
 induction e1 with
 |nil=>simp
 |cons d e1 ih=>have a:=b d a9q;have:=yA a.le a.k.sum a.z.sum;grind
theorem FU (a:List aL) (x:Own) (o:U) (P:cj a=true) (y: ∀z∈a,z.In):
  AC Tryz.prog 59 [.J ((ib a).map ak) x] o λl C=> ∃c S,bh o C 76 c S/\aA dp a c/\l= .aI [.J c S,.v (.int .i64 0)]:=by
 obtain⟨j9,k0⟩:=kb P;have k1:=FT y;have k2:(ib a).length<=9000:=by rw[ib,a4S];omega
 refine mS λk3=> ?_;have m:x= .nil->ib a= []:=λn=>by simp_all
 refine aM hm L4 ?_;have q:(UInt8.ofNat a.length).toNat=a.length:=by rw[a5T];omega
 have k4:min (a.length:Int) 9=(a.length):=a9p;refine ag (CL (ib a) x o m a9p) ?_;rintro _ k5 ⟨k,D,rfl,s⟩;refine aa ?_;have V:=pc _ _ k _ s;rw[ib,qC]at V;refine ag V ?_;rintro _ k6 ⟨⟨t,u⟩,rfl⟩;rw[q];refine aa ?_;refine cn [0,4,13] (λb:Nat×List R×Own=> [(14,.v (.int .i64 b.1)),(5,.J b.2.1 b.2.2)]) (λb C=>b.1<=a.length/\aA dp (a.take b.1) b.2.1/\ ∃v,bh (o.set k (hP ⟨(a.drop b.1).flatMap hb,0⟩ v)) C 76 b.2.1 b.2.2) (λb=>a.length - b.1) (0,[],.nil) ⟨⟨a9p,trivial,t,bh.nil u⟩,aS⟩ ?_;rintro⟨d,c,W⟩ e ⟨w,h,k7,p⟩ k8
 dsimp only at w h p|-
 have E:=dd.rs p;have k9:c.length=d:=by rw[h.len,a4P];omega
 refine aa ?_;refine aG (λA=> ?_) λA=> ?_
 .have l0:=drop_cons (a:=a) (b:=default) (e:=d) a9p;have B:=fb (a:=a) (b:=default) (e:=d) a9p;have H:=y (a.getD d default) (by simp_all);have I:=a1Z (e.del k) e k (a.getD d default) ((a.drop (d+1)).flatMap hb) (by simp[U.del]) H (by have:=E.full;grind);refine ag I ?_;rintro l1 f ⟨F,g⟩;obtain⟨i,G⟩:=dd.step p D F;have K:=g;obtain⟨T,rfl,M⟩:=g;have N:=M.all.1;refine aa ?_;refine jI (λl2 O=> ?_);refine dY (G.mono (U.af U.a1 O)) (h.cells λ_ _ L=>by obtain⟨_,rfl,L⟩:=L;exact L.all.1) (λn r=>by rw[a5g]at r;subst r;exact N) a9r a9r λQ l3 X=> ?_;refine aa ?_;refine⟨(d+1,c++ [.agg T],Q),⟨by simp only;omega,?_,i,X⟩,⟨rfl,rfl⟩,by simp only;omega⟩;simp only[B];exact h.snoc K
 .obtain rfl:d=a.length:=a9p;rw[a7Y]at E;rw[a5i]at h;have r:=CS _ _ k _ E.full;refine ag r ?_;rintro _ f ⟨F,rfl⟩;have l4:(pd ⟨List.flatMap hb [],0⟩).e=0:=rfl;refine aa ?_;have j:=ra a c W h (λz Y=>(y z Y).fit) a9p f;simp only[P,if_true]at j;refine ag j ?_;rintro _ l5 ⟨Z,l6,rfl⟩;refine aa ?_;refine bc (D1 _ _ _ _ _ a9p) ?_;obtain⟨i,G⟩:=dd.step p D F;exact⟨_,U.a1,c,W,(G.base (U.af U.a1 D)).mono Z,h,rfl⟩
def a2a (a:List aL) (h:Own) (c:U) (k:cj a=true) (o: ∀p∈a,p.In):
  AC Tryz.prog 59 [.J ((ib a).map ak) h] c λr x=>c.sub x/\ ∃b d,aA dp a b/\r= .aI [.J b d,.v (.int .i64 0)]:=
 (FU a h c k o).mono λ_ _ ⟨b,d,y,z⟩=>⟨y.sub,b,d,z⟩
theorem a2b (a:List (List UInt8)) (d:Own) (c:U) (C:a.length<=1000000):
  AC Tryz.prog 80 [.J (bE a) d] c λh k=>c.sub k/\ ∃o,h= .J (bE a) o:=by
 have D:=hx (a:=a);refine mS λE=> ?_;have p:d= .nil->bE a= []:=λF=>by simp_all
 refine bd hm LA a9q ?_;simp -dsimp -implicitDefEqProofs (disch:=first|omega|assumption|(simp only[bk,Nat.reduceAdd];try omega)) only[go_sem,simprocAttr,↓o6];refine o7 (λb=>by rw[p b]) (λb=> ?_) ?_
 .have r:bE a= []:=by trivial
  rw[r];simp -dsimp -implicitDefEqProofs (disch:=first|omega|assumption|(simp only[bk,Nat.reduceAdd];try omega)) only[go_sem,simprocAttr,a5H];exact⟨c,U.a1,U.a1,_,rfl⟩
 .simp -dsimp -implicitDefEqProofs (disch:=first|omega|assumption|(simp only[bk,Nat.reduceAdd];try omega)) only[go_sem,simprocAttr];refine dc U.a1 (by simp[aR]) λG L x=> ?_;simp -dsimp -implicitDefEqProofs (disch:=first|omega|assumption|(simp only[bk,Nat.reduceAdd];try omega)) only[go_sem,simprocAttr];refine dY x (λ_ b=>by cases b) sZ (by rw[a4W];omega) (by rw[a4W];omega) λP y z=> ?_;simp -dsimp -implicitDefEqProofs (disch:=first|omega|assumption|(simp only[bk,Nat.reduceAdd];try omega)) only[go_sem,simprocAttr,a5f];exact⟨y,U.a1,z.sub,_,rfl⟩
structure cO (b:U) (a gv c:Nat) (h:ah) (l:List aL):Prop where
 gJ:bB b gv c h
 x: ∃d o,b a=some (.cells [.ptr gv 0,.J d o])/\aA dp l d
 nF:a≠gv
 nG:a≠c
def cC (c d h:Nat) (k o:U):Prop:= ∀a b,a≠c->a≠d->a≠h->k a=some b->o a=some b
theorem cC.of {lM:Nat}{s:U} (a:s.sub f):cC e i lM s f:=λb c _ _ _ d=>a b c d
def cC.ext (a:Ext e i f t):cC v e i f t:=λb c _ d h k=>a b c d h k
theorem cC.trans (k:cC e i v f t) (o:cC e i v t e4):cC e i v f e4:=λa b c d h p=>o a b c d h (k a b c d h p)
variable{Y:br}
def cC.zt (b:cC e i v f t):cC e i v f (t.set e Y):=λc d a h k o=>by rw[U.ao _ _ a];exact b c d a h k o
variable{H:ah}
def cO.sub (a:cO f e i v H e1) (b:f.sub t):cO t e i v H e1:=⟨a.gJ.mono b,by obtain⟨c,d,h,k⟩:=a.x;exact⟨c,d,b _ _ h,k⟩,a.nF,a.nG⟩
variable{M e6 h4:Own}
def cO.put {b:List aL} (a:cO f e i v H b) (c:aA dp e1 g):cO (f.set e (.cells [.ptr i 0,.J g M])) e i v H e1:=⟨a.gJ.set ⟨a.nF,a.nG⟩,⟨g,M,U.ai _ _ _,c⟩,a.nF,a.nG⟩
def iN (a:Except Int (List aL)) (b:List aL):Int×List aL:=match a with
 | .error c=>(c,b)
 | .ok d=>(0,d)
def a2c (d:U) (b r x:Nat) (C:ah) (a:List aL) (D:cO d b r x C a) (f: ∀c∈a,c.Fit) (g:a.length<=1000) (h:cN):
  AC Tryz.prog 48 [.ptr b 0,h.V] d λE F=>cO F b r x C (iN (cI a h.d.table) a).2/\cC b r x d F/\E= .v (.int .i64 (iN (cI a h.d.table) a).1):=by
 obtain⟨i,j,y,l⟩:=D.x;obtain⟨⟨G,c,L,P⟩,S,T⟩:=h
 dsimp only
 show AC Tryz.prog _ [.ptr b 0,.agg [ak G,bb c,.J (bE L) S,.J (ad P) T]] d _;refine aM hm KK ?_;refine bp λV z=> ?_;have k:=U.af (Y:= .cells [ak G,bb c,.J (bE L) S,.J (ad P) T]) (U.a1) z;have s:=U.ae y;have m:b≠V:=by rintro rfl;rw[y]at z;cases z
 have t:=m.symm;refine aa ?_;generalize d.set V _=n at*;refine ag (a1X a i j c l f g n) ?_;rintro E u ⟨o,p⟩;have v:=U.aJ (o _ _ (k _ _ y));have W:=D.sub (U.aq k o);cases e:cI a c with
 |error w=>rw[e]at p;obtain⟨A,rfl⟩:=p;refine aa ?_;exact⟨_,U.a1,W,cC.of (U.aq k o),rfl⟩
 |ok B=>rw[e]at p;obtain⟨H,q,rfl⟩:=p;refine aa ?_;exact⟨_,U.a1,W.put q,(cC.of (U.aq k o)).zt,rfl⟩
def a2d (h:U) (k E F:Nat) (g:ah) (a:List aL) (i:cO h k E F g a) (v: ∀b∈a,b.Fit) (w:a.length<=1000) (d:cN) (A:d.d.Fit):
  AC Tryz.prog 47 [.ptr k 0,d.V] h λj l=>cO l k E F g (iN (jZ a ⟨d.d.table,d.d.aD,ay,ay⟩) a).2/\cC k E F h l/\j= .v (.int .i64 (iN (jZ a ⟨d.d.table,d.d.aD,ay,ay⟩) a).1):=by
 obtain⟨B,H,r,I⟩:=i.x;obtain⟨⟨G,b,c,L⟩,x,P⟩:=d;obtain⟨K,S,M,j9⟩:=A
 dsimp only at*
 show AC Tryz.prog _ [.ptr k 0,.agg [ak G,bb b,.J (bE c) x,.J (ad L) P]] h _;refine aM hm KI ?_;refine bp λT V=> ?_;have W:=U.af (Y:= .cells [ak G,bb b,.J (bE c) x,.J (ad L) P]) (U.a1) V;have k0:=U.ae r;have N:k≠T:=by rintro rfl;rw[r]at V;cases V
 have k1:=N.symm;refine aa ?_;have aH:=U.ai h T (.cells [ak G,bb b,.J (bE c) x,.J (ad L) P]);generalize h.set T _=O at*;refine ag (a2b c x O S) ?_;rintro _ Q ⟨y,m,rfl⟩;have fV:=U.ae (y _ _ (W _ _ r));have k2:=U.ae (y _ _ aH);refine aa ?_;rw[iM];have e:ea ⟨b,c,ay,ay⟩ (bb b:: .J (bE c) m::(ab ay .nil .nil .nil++ab ay .nil .nil .nil)):=⟨⟨m,_,_,_,_,_,_,rfl⟩,⟨bj,kv⟩,⟨bj,kv⟩,S⟩;have n:ev=bb []:: .J [] .nil::(ab ay .nil .nil .nil++ab ay .nil .nil .nil):=rfl;have X: ∀z C o:R,∀p:List R,putAt (z::C::p) 0 [o]=o::C::p:=λ_ _ _ _=>rfl;have k3: ∀z C o:R,∀p:List R,putAt (z::C::p) 1 [o]=z::o::p:=λ_ _ _ _=>rfl;rw[n,X];generalize ab ay .nil .nil .nil++ab ay .nil .nil .nil=k4 at*;have q:=a1U a B H ⟨b,c,ay,ay⟩ _ e ⟨K,S,M⟩ I v w Q;have k5:=e.all.1;clear n e;refine aa ?_;refine ag q ?_;clear q;rintro j k6 ⟨s,D⟩;have Y:=y _ _ (W _ _ r);have k7:=U.aJ (s _ _ Y);have f:=U.aq W (U.aq y s);have t:=i.sub f;cases u:jZ a ⟨b,c,ay,ay⟩with
 |error k8=>rw[u]at D;obtain⟨k9,rfl⟩:=D;refine aa ?_;exact⟨_,U.a1,t,cC.of f,rfl⟩
 |ok l0=>rw[u]at D;obtain⟨l1,Z,rfl⟩:=D;refine aa ?_;exact⟨_,U.a1,t.put Z,(cC.of f).zt,rfl⟩
def mr (c:List aL) (b:cy):Int×Option aL:=match c.find? (λa=>decide (a.name=b.table))with
 |none=>(3,none)
 |some a=>if b.row.length=a.aD.length+1 then(0,some a)else(6,some a)
theorem FV (b:U) (r n q:Nat) (s:ah) (x:List aL) (t:cO b r n q s x) (Y:x.length<=1000) (E:cN) (u:E.d.Fit):
  AC Tryz.prog 82 [.ptr r 0,E.V] b λG v=>b.sub v/\match mr x E.d with
   |(L,none)=>G= .aI [.agg ev,.v (.int .i64 L)]
   |(L,some a)=> ∃T,ea a T/\G= .aI [.agg T,.v (.int .i64 L)]:=by
 obtain⟨w,A,P,B⟩:=t.x;obtain⟨⟨y,a,z,c⟩,C,D⟩:=E;obtain⟨Z,j9,k0,k1⟩:=u
 dsimp only at*
 have k2:=bH (q:=c);show AC Tryz.prog _ [.ptr r 0,.agg [ak y,bb a,.J (bE z) C,.J (ad c) D]] b _;refine aM hm LF ?_;refine bp λd S=> ?_;refine cV λh V k3 H=> ?_;have k4:=U.ae P;have I:r≠d:=by rintro rfl;rw[P]at S;cases S
 have k5:=I.symm;have K:r≠h:=by rintro rfl;rw[P]at V;cases V
 have k6:=K.symm;refine aa ?_;rw[iM];have k7:=fP.all.1;have W: ∀a T,ea a T->putAt ev 0 T=T:=λa T M=>(nE M).2.2.1;have k8:=fP.all.2.1;have k9:=W _ _ fP;generalize i:ev=e at*;have l0:b.sub ((b.set d (.cells [ak y,bb a,.J (bE z) C,.J (ad c) D])).set h (.cells e)):=U.af (U.af U.a1 S) V;have aH:((b.set d (.cells [ak y,bb a,.J (bE z) C,.J (ad c) D])).set h (.cells e)) d=some (.cells [ak y,bb a,.J (bE z) C,.J (ad c) D]):=by rw[U.ao _ _ H,U.ai]
 have aK:=U.ai (b.set d (.cells [ak y,bb a,.J (bE z) C,.J (ad c) D])) h (.cells e);generalize (b.set d _).set h _=N at*;refine ag (find_spec x w A a B a9p N) ?_;rintro G _ ⟨rfl,o⟩;have l1:=U.ae aH;have l2:=U.aJ aK;unfold Found at o;rw[i]at o;clear i;unfold mr
 dsimp only
 cases j:x.find? (λp=>decide (p.name=a))with
 |none=>
  rw[j]at o;obtain rfl:=o;refine aa ?_;refine aN λF k=> ?_;have f:F≠h:=by rintro rfl;rw[aK]at k;cases k
  have O:=f.symm;exact aS
 |some p=>
  rw[j]at o;obtain⟨T,g,rfl⟩:=o;obtain⟨l3,l4,l5,_⟩:=g.all;have l6:=W _ _ g;have l:=λb=>sX p T g b;clear W;refine aa ?_;refine aN λF k=> ?_;have f:F≠h:=by rintro rfl;rw[aK]at k;cases k
  have O:=f.symm;have Q:F≠d:=by rintro rfl;rw[aH]at k;cases k
  have l7:=Q.symm;refine aa ?_;by_cases m:c.length=p.aD.length+1
  .have X:(c.length)=((p.aD.length+1:Nat):Int):=a9p
   dsimp only
   rw[if_pos m];refine bc (l _) ?_;simp_all
  .have X: ¬(c.length)=((p.aD.length+1:Nat):Int):=a9p
   dsimp only
   rw[if_neg m];refine bc (l _) ?_;simp_all
def zu (a:U) (b c d:Nat) (h:ah) (k:List aL) (o:cO a b c d h k):
  AC Tryz.prog 26 [.ptr b 0] a λp r=>r=a/\p= .ptr c 0:=by
 obtain⟨y,z,x,C⟩:=o.x;have D:=U.ae x;refine aM hm Kd ?_
 repeat' first|refine aG (λ_=> ?_) λ_=> ?_|trivial
def FW (a:U):AC Tryz.prog 29 [] a λx p=> ∃b c d,x= .ptr b 0/\a.sub p/\a b=none/\a c=none/\a d=none/\cO p b c d ah.new []:=by refine aM hm Kj ?_;refine ag (Y0 a) ?_;rintro _ C ⟨c,d,y,z,rfl,r,h⟩;refine aa ?_;refine aN λb k=> ?_;refine aa ?_;have o:=r.cE k;exact⟨_,U.a1,b,c,d,rfl,U.af h (U.bF h k),U.bF h k,y,z,r.set o,⟨[],.nil,U.ai _ _ _,trivial⟩,o.1,o.2⟩
def FX (c:U) (p x y:Nat) (z:ah) (a:List aL) (C:cO c p x y z a) (D: ∀h∈a,h.Fit) (k:cj a=true) (E: ∀h∈a,h.In):
  AC Tryz.prog 24 [.ptr p 0] c λo F=> ∃b d,bh c F 76 b d/\o= .J b d/\aA dp a b:=by
 obtain⟨b,d,G,L⟩:=C.x;have g:=U.ae G;have i:=(kb k).2;refine aM hm K9 ?_;refine ag (ra a b d L D a9p c) ?_;rintro o P ⟨S,r⟩;rw[if_pos k]at r;obtain⟨T,rfl⟩:=r;refine aa ?_;refine ag (FU a T P k E) ?_;rintro o j ⟨V,W,e,f,rfl⟩;refine aa ?_;exact⟨_,U.a1,V,W,e.base S,rfl,f⟩
def zv (b:U) (d o p:Nat) (r:ah) (a:List aL) (x:cO b d o p r a) (y: ∀h∈a,h.Fit) (z:cj a=true) (C: ∀h∈a,h.In):
  AC Tryz.prog 24 [.ptr d 0] b λD E=>b.sub E/\ ∃c k,D= .J c k/\aA dp a c:=
 (FX b d o p r a x y z C).mono λ_ _ ⟨c,k,F,G⟩=>⟨F.sub,c,k,G⟩
variable{A j2:az}
theorem ea.FY (b:ea e7 g) (a:A.sum.length=32) (c:A.cB):ea ⟨e7.name,e7.aD,A,e7.cr⟩ (putAt g 2 (ab A M e6 h4)):=by obtain⟨⟨d,h,k,o,p,r,x,rfl⟩,⟨y,D⟩,z,C⟩:=b;have E:=(aV (M:=h) (e6:=k) (h4:=o) y).len;have F:=(aV (M:=M) (e6:=e6) (h4:=h4) a).len;refine⟨⟨d,M,e6,h4,p,r,x,?_⟩,⟨a,c⟩,z,C⟩;grind[putAt,ab,List.drop_left']
theorem ea.FZ (k:ea e7 g) (a:A.sum.length=32) (o:A.cB):ea ⟨e7.name,e7.aD,e7.bM,A⟩ (putAt g 39 (ab A M e6 h4)):=by obtain⟨⟨p,b,c,d,r,x,y,rfl⟩,⟨h,z⟩,⟨C,E⟩,D⟩:=k;have F:=(aV (M:=b) (e6:=c) (h4:=d) h).len;have G:=(aV (M:=M) (e6:=e6) (h4:=h4) a).len;have L:=(aV (M:=r) (e6:=x) (h4:=y) C).len;refine⟨⟨p,b,c,d,M,e6,h4,?_⟩,⟨h,z⟩,⟨a,o⟩,D⟩;grind[putAt,ab,List.take_left',List.drop_eq_nil_of_le,List.length_append]
def fy (p r:ah->Except Int az×ah) (x:ah) (a:List aL) (b:aL):Int×List aL×ah:=match p x with
 |(.error c,d)=>(c,a,d)
 |(.ok k,d)=>match r d with
  |(.error c,h)=>(c,a,h)
  |(.ok o,h)=>((iN (ka a ⟨b.name,b.aD,k,o⟩) a).1,(iN (ka a ⟨b.name,b.aD,k,o⟩) a).2,h)
def jn (a c:Nat) (h:FuncId) (k:ah->Except Int az×ah) (o:az) (p:List Int) (r:Nat):Prop:=
 ∀(b:U) (d:ah) (x y z C:Own),bB b a c d->AC Tryz.prog h [.ptr a 0,.agg (ab o x y z),.J (ad p) C,.v (.int .i64 (r:Int))] b λD E=>yW b E a c (k d) D
theorem G0 (G:U) (h T V:Nat) (y:ah) (b:List aL) (d:cO G h T V y b) (n9: ∀a∈b,a.Fit) (a00:b.length<=1000) (a:aL) (e:List R) (O:ea a e) (Q:a.Fit) (X:List Int) (Y:Own) (Z j9:FuncId) (L P:ah->Except Int az×ah)
  (a01:fZ Tryz.prog Z=true) (a02:fZ Tryz.prog j9=true) (k0:jn T V Z L a.bM X (a.aD.length+1)) (k1:jn T V j9 P a.cr X (a.aD.length+1)):
  AC Tryz.prog 83 [.ptr h 0,.agg e,.J (ad X) Y,.bG Z [] [],.bG j9 [] []] G λu l0=>u= .v (.int .i64 (fy L P y b a).1)/\cO l0 h T V (fy L P y b a).2.2 (fy L P y b a).2.1/\cC h T V G l0:=by
 obtain⟨v,S,k2,w⟩:=d.x;have a74:=U.ae k2;obtain⟨a81,a83,a84,a86,a03,a04,a05,a06,a07,a08,a88,a89,a90⟩:=O.all;have a09:=λG=>sX a e O G;have c:(match L y with
  |(.error f,g)=>(f,b,g)
  |(.ok A,g)=>match P g with
   |(.error f,j)=>(f,b,j)
   |(.ok B,j)=>((iN (ka b ⟨a.name,a.aD,A,B⟩) b).1,(iN (ka b ⟨a.name,a.aD,A,B⟩) b).2,j))=fy L P y b a:=rfl
 generalize fy L P y b a=a92 at*;refine aM hm LH ?_;refine bp λz l=> ?_;have l1:h≠z:=by rintro rfl;rw[k2]at l;cases l
 have a94:=l1.symm;have k3:=U.af (Y:= .cells e) (U.a1) l;have bs:=U.ai G z (.cells e);refine bc (a09 _) ?_;have m:=d.gJ.cE l;generalize G.set z _=a10 at*;have a11:=d.gJ.mono k3;have a13:=k3 _ _ k2;refine fD a01 (k0 a10 y a03 a04 a05 Y a11) ?_;rintro u l2 ⟨n,k4,l3⟩;have ca:=k4 _ _ d.nF d.nG a13;have k5:=k4 _ _ m.1 m.2 bs;have l4:=cC.trans (cC.of (e:=h) k3) (cC.ext k4);generalize L y=a14 at*;obtain⟨a15,g⟩:=a14;cases a15 with
 |error f=>
  obtain⟨l5,a16,C,D,E,q,rfl⟩:=l3
  dsimp only at c n
  have a18:=(aV (M:=C) (e6:=D) (h4:=E) q).all;have H:=lx (M:=C) (e6:=D) (h4:=E) q;refine aa ?_;refine aN λi k=> ?_;refine aa ?_;refine⟨_,U.a1,by rw[<-c],?_,l4.trans (cC.of (U.af U.a1 k))⟩;rw[<-c];exact⟨n.mono (U.af U.a1 k),⟨v,S,U.af U.a1 k _ _ ca,w⟩,d.nF,d.nG⟩
 |ok s=>
  obtain⟨k6,a19,C,D,E,rfl⟩:=l3
  dsimp only at c n
  have a95:=(aV (M:=C) (e6:=D) (h4:=E) k6).all;have H:=lx (M:=C) (e6:=D) (h4:=E) k6;refine aa ?_;refine aN λi k=> ?_;have a27:h≠i:=by rintro rfl;rw[ca]at k;cases k
  have a96:=a27.symm;have a29:z≠i:=by rintro rfl;rw[k5]at k;cases k
  have a97:=a29.symm;have fV:=U.ae ca;have a30:=U.ae k5;refine aa ?_;have I:=U.af (Y:= .cells (ab s C D E)) (U.a1) k;have gP:=U.ai l2 i (.cells (ab s C D E));have df:=I _ _ ca;have a34:=I _ _ k5;have a36:=n.mono I;have l6:=n.cE k;have a38:=l4.trans (cC.of I);generalize l2.set i _=a42 at*;clear fV a30 H;refine fD a02 (k1 a42 g a06 a07 a08 Y a36) ?_;rintro u t ⟨K,M,l7⟩;have en:=M _ _ d.nF d.nG df;have l8:=M _ _ m.1 m.2 a34;have a43:=M _ _ l6.1 l6.2 gP;have l9:=a38.trans (cC.ext M);generalize P g=a47 at*;obtain⟨cF,j⟩:=a47;cases cF with
  |error f=>
   obtain⟨l5,a16,o,p,r,q,rfl⟩:=l7
   dsimp only at c K
   have a18:=(aV (M:=o) (e6:=p) (h4:=r) q).all;have H:=lx (M:=o) (e6:=p) (h4:=r) q;refine aa ?_;refine aN λF x=> ?_;refine aa ?_;refine⟨_,U.a1,by rw[<-c],?_,l9.trans (cC.of (U.af U.a1 x))⟩;rw[<-c];exact⟨K.mono (U.af U.a1 x),⟨v,S,U.af U.a1 x _ _ en,w⟩,d.nF,d.nG⟩
  |ok cc=>
   obtain⟨k7,a48,o,p,r,rfl⟩:=l7
   dsimp only at c K
   have a98:=(aV (M:=o) (e6:=p) (h4:=r) k7).all;have H:=lx (M:=o) (e6:=p) (h4:=r) k7;refine aa ?_;refine aN λF x=> ?_;have a52:z≠F:=by rintro rfl;rw[l8]at x;cases x
   have a99:=a52.symm;have a56:i≠F:=by grind
   have b00:=a56.symm;have a57:h≠F:=by rintro rfl;rw[en]at x;cases x
   have b01:=a57.symm;have b02:=U.ae a43;have b03:=U.aJ l8;have n0:=O.FY (M:=C) (e6:=D) (h4:=E) k6 a19;have k8:=n0.FZ (M:=o) (e6:=p) (h4:=r) k7 a48;have b04:=n0.all.1;have b05:=k8.all.1;have b06:=k8.all.2.1;have n1:=a1V b v S ⟨a.name,a.aD,s,cc⟩ _ k8 ⟨Q.n,Q.c,Q.cs⟩ w n9 a00;have fV:=U.ae en;have b07: ∀W S,W≠F->t W=some S->(t.set F (.cells (ab cc o p r))) W=some S:=λW S a61 k1=>by rw[U.ao _ _ a61];exact k1
   refine aa ?_;generalize putAt (putAt e 2 (ab s C D E)) 39 (ab cc o p r)=n2 at*;have a62:cO ((t.set F (.cells (ab cc o p r))).set z (.cells n2)) h T V j b:=⟨(K.mono (U.af U.a1 x)).set m,⟨v,S,by rw[U.ao _ _ l1];simp_all,w⟩,d.nF,d.nG⟩;have a63:cC h T V G ((t.set F (.cells (ab cc o p r))).set z (.cells n2)):=λW a65 A B a68 k9=>by
    have k0:W≠z:=by rintro rfl;rw[l]at k9;cases k9
    rw[U.ao _ _ k0];exact U.af U.a1 x _ _ (l9 W a65 A B a68 k9)
   generalize (t.set F _).set z _=a69 at*;refine ag (n1 a69) ?_;clear n1;rintro u b08 ⟨n3,N⟩;have n4:=a62.sub n3;obtain⟨b09,b10,ej,b11⟩:=n4.x;have b12:=U.aJ ej;have a71:=a63.trans (cC.of n3);cases n5:ka b ⟨a.name,a.aD,s,cc⟩with
   |error f=>
    rw[n5]at N c;obtain⟨l5,rfl⟩:=N
    dsimp only[iN]at c
    refine aa ?_;grind
   |ok b13=>
    rw[n5]at N c;obtain⟨b14,a73,rfl⟩:=N
    dsimp only[iN]at c
    refine aa ?_;exact⟨_,U.a1,by rw[<-c],by rw[<-c];exact n4.put a73,a71.zt⟩
def vg (a:e1.find? (λe7=>decide (e7.name=w))=some e7):e7∈e1:=List.mem_of_find?_eq_some a
variable{q b6:List Int}
def jn.a2e (c:A.sum.length=32) (d:A.cB) (h:A.size<=2000000) (k:1<=e) (o:e<=8) (p:q.length=e):jn i v 84 (λa=>nA e q a A) A q e:=
 λr a x y z C D=>(a1t r i v a D A x y z c d h q C e k o p).mono λE F b=>⟨b.1,b.2.1,b.2.2.x⟩
def jn.a2f (b:A.sum.length=32) (c:A.cB) (d:A.size<=2000000) (h:1<=e) (k:e<=8) (o:q.length=e):jn i v 86 (λa=>iL e q a A) A q e:=
 λp a r x y z C=>a1w p i v a C A r x y b c d q z e h k o
def jn.a2g (c:A.sum.length=32) (d:A.cB) (h:1<=e) (k:e<=8) (o:q.length=e):jn i v 85 (λa=>je e q a A) A q e:=
 λp a r x y z C=>(YQ p i v a C A r x y c d q z e h k o).mono λD E b=>⟨b.1,b.2.1,b.2.2.x⟩
def jn.a2h (c:A.sum.length=32) (d:A.cB) (h:1<=e) (k:e<=8) (o:q.length=e):jn i v 87 (λa=>ll e q a A) A q e:=
 λp a r x y z C=>(YY p i v a C A r x y c d q z e h k o).mono λD E b=>⟨b.1,b.2.1,b.2.2.x⟩
def jo (a:ah) (c:List aL) (d:cy):Int×List aL×ah:=match mr c d with
 |(_,none)=>(3,c,a)
 |(h,some b)=>if h=0 then fy (λa=>iL (b.aD.length+1) d.row a b.bM) (λa=>ll (b.aD.length+1) d.row a b.cr) a c b else(h,c,a)
theorem a2i (x:U) (p y z:Nat) (c:ah) (d:List aL) (e:cO x p y z c d) (f: ∀b∈d,b.Fit) (s:cj d=true) (a:cN) (t:a.d.Fit):
  AC Tryz.prog 50 [.ptr p 0,a.V] x λE C=>E= .v (.int .i64 (jo c d a.d).1)/\cO C p y z (jo c d a.d).2.2 (jo c d a.d).2.1/\cC p y z x C:=by
 obtain⟨u,k3⟩:=kb s;have h:(match mr d a.d with
  |(_,none)=>(3,d,c)
  |(g,some b)=>if g=0 then fy (λc=>iL (b.aD.length+1) a.d.row c b.bM) (λc=>ll (b.aD.length+1) a.d.row c b.cr) c d b else(g,d,c))=jo c d a.d:=rfl
 generalize jo c d a.d=k4 at*;have i:=λC F=>FV C p y z c d F a9p a t;have j:a.V= .agg [ak a.d.kind,bb a.d.table,.J (bE a.d.aD) a.gn,.J (ad a.d.row) a.dn]:=rfl;obtain⟨k5,k6,v,k7⟩:=e.x;rw[j]at i|-;clear j;have k8:=U.ae v;have k9:=fP.all.1;refine aM hm KO ?_;refine bp λG w=> ?_;have l:=U.af (Y:= .cells [ak a.d.kind,bb a.d.table,.J (bE a.d.aD) a.gn,.J (ad a.d.row) a.dn]) (U.a1) w;have aH:=U.ai x G (.cells [ak a.d.kind,bb a.d.table,.J (bE a.d.aD) a.gn,.J (ad a.d.row) a.dn]);generalize x.set G _=A at*;have m:=e.sub l;refine ag (i A m) ?_;rintro E l0 ⟨L,k⟩;have n:=L _ _ aH;have l1:=U.ae n;have B:=m.sub L;have H:=U.aq l L;have P: ∀b T,ea b T->putAt ev 0 T=T:=λb T F=>(nE F).2.2.1;have l2:=fP.all.2.1;have l3:=P _ _ fP;have S:=iM;generalize ev=l4 at*;unfold mr at k h;cases V:d.find? (λb=>decide (b.name=a.d.table))with
 |none=>
  rw[V]at k h
  dsimp only at k h
  obtain rfl:=k;refine aa ?_;refine aN λW r=> ?_;rw[S];refine aa ?_;grind[U.a1,U.af,cC.of,U.aq]
 |some b=>
  rw[V]at k h;have hm:=vg V
  dsimp only at k h
  by_cases D:a.d.row.length=b.aD.length+1
  .rw[if_pos D]at k h;obtain⟨T,o,rfl⟩:=k;obtain⟨I,K,M,_⟩:=o.all;have N:=P _ _ o;refine aa ?_;refine aN λW r=> ?_;rw[S]
   dsimp only at h
   rw[if_pos rfl]at h;have O:G≠W:=by rintro rfl;rw[n]at r;cases r
   have l5:=O.symm;obtain⟨Q,X⟩:=o.k;obtain⟨Y,Z⟩:=o.z;have q:=u b hm;have l6:=q.c;have l7:=q.k.size;have j9:=B.sub (U.af (Y:= .cells T) U.a1 r);have k0:=G0 _ p y z c d j9 f a9p b T o (f b hm) a.d.row a.dn 86 87 _ _ a9u a9u (jn.a2f Q X a9p a9p a9p D) (jn.a2h Y Z a9p a9p D);refine aa ?_;refine ag k0 ?_;rintro E l8 ⟨rfl,k1,k2⟩;refine aa ?_;exact⟨_,U.a1,by rw[<-h];exact k1,(cC.of (U.aq H (U.af U.a1 r))).trans k2⟩
  .rw[if_neg D]at k h;obtain⟨T,o,rfl⟩:=k;obtain⟨I,K,M,_⟩:=o.all;have N:=P _ _ o;refine aa ?_;refine aN λW r=> ?_;rw[S];refine aa ?_
   dsimp only at h
   rw[if_neg a9t]at h;grind[U.a1,U.af,cC.of,U.aq]
def vh (d:ah) (h:List aL) (k:List UInt8) (o:List (List Int)) (b:R):Prop:=match h.find? (λa=>decide (a.name=k))with
 |none=>b= .aI [.J [] .nil,.v (.int .i64 3)]
 |some a=>match ec d (a.aD.length+1) (a.bM.size.toNat+1) a.bM with
  |none=>b= .aI [.J [] .nil,.v (.int .i64 21)]
  |some _=> ∃c,b= .aI [.J c .any,.v (.int .i64 0)]/\aA isRow o c
def a2j (c:U) (D L P:Nat) (h:ah) (d:List aL) (S:cO c D L P h d) (l:cj d=true) (k:List UInt8) (r:List (List Int))
  (m: ∀a o,d.find? (λa=>decide (a.name=k))=some a->ec h (a.aD.length+1) (a.bM.size.toNat+1) a.bM=some o->r.Perm o/\r.Pairwise λn q=> ¬fL q n<0):
  AC Tryz.prog 27 [.ptr D 0,bb k] c λE F=>c.sub F/\vh h d k r E:=by
 obtain⟨s,Y⟩:=kb l;obtain⟨t,u,V,v⟩:=S.x;have Z:=U.ae V;have j9:=fP.all.1;have W: ∀a T,ea a T->putAt ev 0 T=T:=λa T p=>(nE p).2.2.1;have k0:=W _ _ fP;have e:=iM;have b:=find_spec d t u k v a9p c;unfold Found at b;unfold vh;generalize ev=k1 at*;refine aM hm Kf ?_;refine ag b ?_;clear b;rintro E k2 ⟨rfl,b⟩;cases x:d.find? (λa=>decide (a.name=k))with
 |none=>rw[x]at b;obtain rfl:=b;refine aa ?_;refine aN λf y=> ?_;rw[e];exact aS
 |some a=>
  rw[x]at b;obtain⟨T,z,rfl⟩:=b;obtain⟨k3,k4,k5,k6,w,A,B,k7,k8,k9,l0,l1,l2⟩:=z.all;have l3:=W _ _ z;have H:=λc=>sX a T z c;have hm:=vg x;have g:=s a hm;have l4:=g.c;have l5:=g.k.size;refine aa ?_;refine aN λf y=> ?_;rw[e];have I:D≠f:=by rintro rfl;rw[V]at y;cases y
  have l6:=I.symm;have G:=U.af (Y:= .cells T) (U.a1) y;have K:=S.sub G;obtain⟨M,N⟩:=z.k;have O:=λF p=>a1z F L P h p a.bM w A B M N a9p (a.aD.length+1) a9p a9p r (λo p=>m a o x p);refine aa ?_;refine bc (H _) ?_;refine ag (O _ K.gJ) ?_;rintro E l7 ⟨i,C⟩
  dsimp only
  cases j:ec h (a.aD.length+1) (a.bM.size.toNat+1) a.bM with
  |none=>rw[j]at C;obtain rfl:=C;refine aa ?_;exact U.aq G i
  |some o=>rw[j]at C;obtain⟨Q,rfl,X⟩:=C;refine aa ?_;exact⟨U.aq G i,Q,rfl,X⟩
structure vi (c:ah) (d:Nat) (aT aU:List Int) (a:az) (rows:List (List Int)):Prop where
 one:rows.length<=1
 sound: ∀b∈rows,ny c d aT aU a b
 full:rows= []->eu aT aU a=true-> ∀b,¬ny c d aT aU a b
def vj (a:ah) (b:Nat) (c d:List Int) (h:az):Prop:= ∃k,mn a b c d h k/\eu c d h=true/\fk a b k=none
structure zw where
 rows:List (List Int)
 us:List R
 L:R
 bI:List az
 es:List R
 oF:R
structure vk (c:ah) (d:Nat) (aT aU:List Int) (b:az) (A:ie) (B:U) (h:Nat) (x:zw) (o:U):Prop where
 at_:dF A B o h x.us x.L x.es x.oF
 vl:aA isRow x.rows x.us
 rd: ∀a∈x.rows,a.length=d
 zx:x.rows.length<=1
 pI:aA r0 x.bI x.es
 qu: ∀a∈x.rows,ny c d aT aU b a
 or: ∀k∈x.bI,mn c d aT aU b k/\eu aT aU b=true/\1<=gw k
 co:x.rows= []->eu aT aU b=true-> ∀a,ny c d aT aU b a-> ∃k∈x.bI,ny c d aT aU k a
 qs:(x.bI.map gw).sum<=2097152
variable{b9:c3}
def mn.snoc {a:az} (c:mn H e q b6 a j2) (b:fk H e j2=some b9) (d:A∈b9.kids) (h:eu q b6 A=true):mn H e q b6 a A:=by
 induction c with
 |refl p=>exact .step b d h (.refl _)
 |step h1 k o _ ih=>exact .step h1 k o (ih b)
theorem zy: ∀ {ks:List az},(∀a∈ks,1<=gw a)->ks.length<=(ks.map gw).sum
 | [],_=>a5s _
 |a::ks,b=>by
  have:=zy (ks:=ks) λa c=>b a (by simp[c]);grind
def vk.len {c:ah}{d:Nat}{h k:List Int}{o:az}{p:ie}{r:U}{x:Nat}{b:zw}{y:U} (a:vk c d h k o p r x b y):b.es.length<=2097152:=by rw[a.pI.len];exact a5K (zy λz C=>(a.or z C).2.2) a.qs
theorem a2k (Z:U) (k5 b00:Nat) (m:ah) (b50:bB Z k5 b00 m) (D:az) (n1 n2 n3:Own) (b01:D.sum.length=32) (b51:D.cB) (p x:List Int) (n4 n5 n9:Own) (F:Nat) (t:cP p x F=true) (c29:D.size<=1048576) (b02:eu p x D=true->1<=D.size):
  AC Tryz.prog 38 [.ptr k5 0,.agg (ab D n1 n2 n3),.agg (oE p x n4 n5 n9),.v (.int .i64 (F:Int))] Z λa30 E=>Z.sub E/\
   ((vj m F p x D/\ ∃c f,a30= .aI [.agg [c,f],.v (.int .i64 0),.v (.int .i64 21)])\/
   ∃rows I y u v,vi m F p x D rows/\au Z E 1 I y/\aA isRow rows I/\(∀h∈rows,h.length=F)/\a30= .aI [.agg [y,.v (.int .i64 u)],.v (.int .i64 v),.v (.int .i64 0)]):=by
 obtain⟨b03,c30,b04,a34⟩:=lh t;have b52:=(aV (M:=n1) (e6:=n2) (h4:=n3) b01).all;refine aM hm Ks ?_;refine bp λa36 c31=> ?_;refine cV λb05 c32 c33 c34=> ?_;refine hl λa00 a38 c35 c2 aH aK=> ?_;generalize k6:((Z.set a36 _).set b05 _).set a00 _=g;have a01:Z.sub g:=by subst k6;exact aS
 have bm:g a36=some (.cells (ab D n1 n2 n3)):=by subst k6;exact aS
 have bs:g b05=some (.cells (oE p x n4 n5 n9)):=by subst k6;exact aS
 have bt:g a00=some (.cells [.J [] .nil,.v (.int .i64 0)]):=by subst k6;exact aS
 clear k6;have b53:=b50.mono a01;refine bc (a1e p x _ _ _ F a9p g) ?_;rw[t];have b54:=U.ae bm;have b55:=U.ae bs;refine aa ?_;refine aN λd j9=> ?_;have b06:a36≠d:=by rintro rfl;rw[j9]at bm;cases bm
 have b56:=b06.symm;have b57:a00≠d:=by rintro rfl;rw[j9]at bt;cases bt
 have c36:=b57.symm;refine aa ?_
 let a:ie:=⟨k5,p,x,n4,n5,n9,F⟩;have b07:dF a g (g.set d (.cells (lv k5 p x n4 n5 n9 F (.J [] .nil) 0 0 0 (.J [] .nil)))) d [] (.J [] .nil) [] (.J [] .nil):=
  ⟨j9,⟨0,0,0,U.ai _ _ _⟩,au.nil (U.af U.a1 j9),⟨U.af U.a1 j9,(λ_ b=>by cases b),.inl ⟨rfl,.inl rfl⟩⟩,(λb=>by cases b),(λb=>by cases b),λ_ b=>by cases b⟩
 refine ag (Fm a g _ d [] _ [] _ b07 D n1 n2 n3 b01 b51 (by show p.length<=8;omega) a9q) ?_;rintro _ b58 ⟨b59,b60,a42,k0⟩;have a02: ∃b08,vk m F p x D a g d ⟨[],[],.J [] .nil,b08,b60,b59⟩ b58:=by
  have c37:gw D<=2097152:=by unfold gw;omega
  split at k0
  .rename_i w;obtain⟨b61,a43,rfl⟩:=k0;exact⟨[D],a42,trivial,(λ_ b=>by cases b),a5v _,⟨a43,trivial⟩,(λ_ b=>by cases b),(λz a47=>by
    obtain rfl:=a5g.1 a47;have:=b02 w;exact⟨.refl _,w,by unfold gw;omega⟩),(λ_ _ h r=>⟨D,a9q,r⟩),by trivial⟩
  .rename_i w;subst k0;exact⟨[],a42,trivial,(λ_ b=>by cases b),a5v _,trivial,(λ_ b=>by cases b),(λ_ b=>by cases b),(λ_ b=>absurd b w),a5v _⟩
 obtain⟨b08,a02⟩:=a02;refine aa ?_;refine cn [0,3,8,11] (λ_:zw=> []) (λc E=>vk m F p x D a g d c E) (λc=>(c.bI.map gw).sum) _ ⟨a02,aS⟩ ?_;clear a02 a42 k0 b07 b54 b55 b06 b56 bm bs b52 j9;rintro⟨rows,I,y,b09,a48,c38⟩ E o c39;have i:=o.at_
 dsimp only at i
 have c40:=i;obtain⟨u,v,k7,b10⟩:=i.x;obtain⟨c41,c42⟩:=i.w.len;have fV:=U.ae b10;refine aa ?_;refine aG (λa03=> ?_) λa03=> ?_;rotate_left;have a52:=o.pI.len
 .have c43:=a03;have b11:a48= []:=a4R a9p;have b62:b09= []:=a4R (by rw[b11]at a52;exact a52.symm);subst b11;subst b62;have b63:=U.aJ (i.l.1 _ _ bt);have c44:=fG i.l;refine aa ?_;refine⟨_,U.a1,U.af (U.aq a01 i.l.1) a38,.inr ⟨rows,I,y,u,v,⟨o.zx,o.qu,λT A h r=> ?_⟩,au.other (i.l.base a01) a38 (λG=> ?_),o.vl,o.rd,rfl⟩⟩
  .obtain⟨z,a47,_⟩:=o.co T A h r;cases a47
  .have:=au.fresh i.l G;rw[bt]at this;cases this
 have a52:=o.pI.len;have b64:a48≠ []:=by grind
 obtain⟨b12,b13,post,b14,b15,c45,b16⟩:=i.sort b64;obtain⟨c46,b17⟩:=oD.of (s:=E) (l:=b12) (g:=b13) (B:=post) (e0:=a48) (b5:=71) (ds:= []) a9v λa04 a56 a57 t=>by
  obtain⟨z,_,T⟩:=o.pI.mem a56;obtain⟨B,_,A⟩:=o.pI.mem t;obtain⟨a03,b65⟩:=a1d T A;exact⟨a03,λa61 _=>b65 _⟩
 rw[b14];clear fV b14;refine ag (Fe a0X a0R a0N a0P a0L a0J a9p rfl b15 (a5K o.len a9p) b17 λG K=> ?_) ?_
 .obtain⟨z,_,T,_,L,P,S,c,f,id,b66,rfl⟩:=o.pI.mem K;obtain⟨M,N,_⟩:=uR (M:=L) (e6:=P) (h4:=S) (e:=c) (i:=f) (id:=id) (b1:=b66) T;exact⟨M,by rw[hI,aX,if_pos rfl,N]⟩
 rintro _ _ ⟨a61,k1,rfl⟩;have k8:=b16 a61 k1;obtain⟨b67,k9,b68⟩:=o.pI.perm k1
 match a61,b67,b68,k1,k9,k8 with
 | [],_,_,k1,_,_=>exact absurd k1.length_eq (by simp_all)
 |G::k2,z::O,⟨b69,b18⟩,k1,k9,k8=>
 obtain⟨u,v,k7,a62⟩:=k8.x;obtain⟨C,c47,c48,a63,c49,c50,b70,b19⟩:=k8.tail;generalize W E b12 b13 post (G::k2)=a05 at*;have fV:=U.ae a62;have a65:=U.aJ a62;clear b16 b17 b15 b10;obtain⟨l0,b71,L,P,S,b72,b73,b74,b75,rfl⟩:=b69;have b20:=(uR (M:=L) (e6:=P) (h4:=S) (e:=b72) (i:=b73) (id:=b74) (b1:=b75) l0).2.2.1;rw[hI,b20]at b19;have c51:=(aV (M:=L) (e6:=P) (h4:=S) l0).all;have b21:=lx (M:=L) (e6:=P) (h4:=S) l0;refine aa ?_;refine aN λk3 a68=> ?_;have b22:d≠k3:=by rintro rfl;rw[a62]at a68;cases a68
 have b23:=b22.symm;refine aa ?_;have a69:(a05.set d (.cells (lv a.gv a.aT a.aU a.hq a.eR a.hp a.d y u v k7 C))) k3=none:=(U.ao _ _ b23).trans a68;have b24:=(a63 u v k7).fresh a69;have b25:=(a63 u v k7).mono (U.af (Y:= .cells (ab z L P S)) U.a1 a69);rw[U.dX a05 b22]at b25;have gP:((a05.set k3 (.cells (ab z L P S))).set d (.cells (lv a.gv a.aT a.aU a.hq a.eR a.hp a.d y u v k7 C))) k3=some (.cells (ab z L P S)):=(U.ao _ _ b23).trans (U.ai _ _ _);generalize (a05.set k3 (.cells (ab z L P S))).set d _=a71 at*;clear a69 a63 b70 b19 b20 a65 fV k8 b21;obtain⟨b76,l1⟩:=b25.wide;have b77:res (jY d y C) a71 k3=some (.cells (ab z L P S)):=by
  rw[oG];exact gP;rintro(b|b|b)
  .omega
  .exact b24.l b
  .exact b24.w b
 generalize res (jY d y C) a71=b78 at*;have c52:(b09.map gw).sum=gw z+(O.map gw).sum:=by rw[<-(k9.map gw).sum_nat];simp
 have Q:=λB j=>o.or B (k9.mem_iff.1 j);have b79:=o.qs
 dsimp only at b79
 refine ag (a1m a b78 a71 d I rows y k2 C b76 o.vl o.rd a34 b03 z L P S l0) ?_;rintro _ b26 ⟨n,a57,rfl,b80⟩;have b81:=U.ae (n.l.1 _ _ b77);refine aa ?_;refine aG (λt=> ?_) λt=> ?_
 .have b02:=b80 t;refine⟨⟨rows,I,y,O,k2,C⟩,⟨n.base l1,o.vl,o.rd,o.zx,b18,o.qu,λB j=>Q B (by simp[j]),λb=> ?_,?_⟩,?_⟩;simp_all
  .show(O.map gw).sum<= _;omega
  grind
 have b27:=(b53.mono l1).mono n.l.1;refine ag (xx b26 k5 b00 m b27 z L P S l0 b71 F b04 a34) ?_;rintro a30 X ⟨a73,a06⟩;cases H:fk m F z with
 |none=>
  rw[H]at a06;obtain rfl:=a06;have b28:=a73 _ _ (n.l.1 _ _ (l1 _ _ bt));refine aa ?_;refine aN λl q=> ?_;have b82:a00≠l:=by rintro rfl;rw[b28]at q;cases q
  have c53:=b82.symm;have b63:=U.aJ b28;refine aa ?_;have b29:=U.aq a01 (U.aq l1 (U.aq n.l.1 a73));refine⟨_,U.a1,U.af (U.af b29 (U.bF b29 q)) a38,.inl ⟨⟨z,(Q z a9q).1,(Q z a9q).2.1,H⟩,_,_,rfl⟩⟩
 |some k=>
  rw[H]at a06;obtain⟨c,f,rfl,c54,c55,c56,k4,l2,a07,a74,_,_⟩:=a06;have a08:=n.mono a73;obtain⟨l3,Y,l4,a09⟩:=a08.x;have c57:=fG k4;have c58:=fG l2;refine aa ?_;refine aN λl q=> ?_;have b30:d≠l:=by rintro rfl;rw[a09]at q;cases q
  have b31:=b30.symm;have fV:=U.ae a09;have a65:=U.aJ a09;have a56:bn .add (.int .i64 Y) (.int .i64 1)=some (.int .i64 (IntKind.i64.wrap (Y+1))):=rfl;have b32:=bR.dR k4 a9p rfl (a07.cells λ_ _=>de.cells);have b83:=b32.len;rw[a07.len]at b83;have a81:(X.set d (.cells (lv a.gv a.aT a.aU a.hq a.eR a.hp a.d y l3 (IntKind.i64.wrap (Y+1)) l4 C))) l=none:=(U.ao _ _ b31).trans q;have a83:=(a08.set l3 (IntKind.i64.wrap (Y+1)) l4).mono (U.af (Y:= .cells [.v (.int .u8 (k.kind.toNat)),c,f]) U.a1 a81);rw[U.dX X b30]at a83;refine aa ?_;have la:((X.set l (.cells [.v (.int .u8 (k.kind.toNat)),c,f])).set d (.cells (lv a.gv a.aT a.aU a.hq a.eR a.hp a.d y l3 (IntKind.i64.wrap (Y+1)) l4 C))) l=some (.cells [.v (.int .u8 (k.kind.toNat)),c,f]):=(U.ao _ _ b31).trans (U.ai _ _ _);have b33:=(a08.set l3 (IntKind.i64.wrap (Y+1)) l4).fresh a81;have b84: ∀h a10,X h=some a10-> ¬jY d y C h->((X.set l (.cells [.v (.int .u8 (k.kind.toNat)),c,f])).set d (.cells (lv a.gv a.aT a.aU a.hq a.eR a.hp a.d y l3 (IntKind.i64.wrap (Y+1)) l4 C))) h=some a10:=λh a10 r hm=>by
   have L:h≠d:=λG=>hm (.inl G);have P:h≠l:=by rintro rfl;rw[q]at r;cases r
   rw[U.ao _ _ L,U.ao _ _ P];exact r
  generalize (X.set l (.cells [.v (.int .u8 (k.kind.toNat)),c,f])).set d _=a84 at*;have a86: ∀ {a04:R}{h:Nat},cK a04=some h->b26 h=none-> ¬jY d y C h:=λt r hm=>by
   rcases hm with rfl|G|G
   .obtain⟨_,_,_,b⟩:=n.x;rw[r]at b;cases b
   .exact au.has n.l G r
   .exact n.w.has G r
  have a88:(res (jY d y C) X).sub (res (jY d y C) a84):=λh a10 r=>by
   grind[hm,jY,r4,oG]
  have b85:=(bR.dR (au.res k4 λl5 V=>a86 V (au.fresh k4 V)) a9p rfl (a07.cells λ_ _=>de.cells)).mono (U.aq (Fp l2.1) a88);have b34:=(bR.dR (au.res l2 λl5 V=>a86 V (U.bF k4.1 (au.fresh l2 V))) a9p rfl (a74.cells λ_ _=>bu.cells)).mono a88;obtain⟨b86,b87⟩:=a83.wide;have b88:res (jY d y C) a84 l=some (.cells [.v (.int .u8 (k.kind.toNat:Int)),c,f]):=by
   rw[oG];exact la;rintro(b|b|b)
   .trivial
   .exact b33.l b
   .exact b33.w b
  generalize res (jY d y C) a84=l6 at*;have b89:=U.aq l1 b87;clear b84 a86 a88 b32 k4 l2 fV a65 a09 a08 a83 la a56 q a81 b27 b81;have b35:=(xR H).ok;obtain⟨b90,_,_⟩:=lf b35;refine cn [0,3,8,11,13,79,80] (λc:Nat×(List (List Int))×List R×R=> [(81,.v (.int .i64 (c.1)))]) (λc E=>c.1<=k.rows.length/\dF a l6 E d c.2.2.1 c.2.2.2 k2 C/\aA isRow c.2.1 c.2.2.1/\(∀h∈c.2.1,h.length=F)/\c.2.1.length<=1/\(∀h∈c.2.1,ny m F p x D h)/\(c.2.1= []->rows= []/\ ∀h,(h,true)∈k.rows.take c.1->jh p x h=false)) (λc=>k.rows.length - c.1) (0,rows,I,y) ⟨⟨a5v _,b86,o.vl,o.rd,o.zx,o.qu,λb=>⟨b,λh r=>by simp at r⟩⟩,aS⟩ ?_;rintro⟨e,b36,a11,a13⟩ b91 ⟨b92,l7,a89,l8,a14,a15,a16⟩ c59
  dsimp only at b92 l7 a89 l8 a14 a15 a16
  refine aa ?_;refine aG (λc2=> ?_) λc2=> ?_
  .have a90:e<k.rows.length:=a9p;obtain⟨_,K,a92,rfl⟩:=a07.get (i:=e) (x:=k.rows.getD e ([],false)) (by simp_all);obtain⟨l5,b93,V⟩:=b85.get e _ K;have b37: ∀E,l6.sub E->dq true 2 E l5=some (.agg [.J (ad (k.rows.getD e ([],false)).1) a92,.v (.bool (k.rows.getD e ([],false)).2)]):=λE b=>V.ld E b true 2 a9p (by simp[hI]);have b94:=b37 b91 l7.l.1;have hm:k.rows.getD e ([],false)∈k.rows:=by simp_all
   have G:=fb (b:=([],false)) a90;generalize k.rows.getD e ([],false)=b95 at*;obtain⟨a18,a94⟩:=b95
   dsimp only at b94 G hm
   have b38:=b90 _ hm;clear b37 V K;refine aa ?_;refine aN λc60 b96=> ?_;have b97:=l7.mono (U.af (Y:= .cells [.J (ad a18) a92,.v (.bool a94)]) U.a1 b96);refine aa ?_;refine ag (a1l a l6 _ d a11 b36 a13 k2 C b97 a89 l8 b04 a34 b03 a14 a18 a94 a92 b38) ?_;rintro _ c61 ⟨b39,b98,b40,b41,b42,a95⟩;refine aa ?_;have b99:a94=true->jh p x a18=true->ny m F p x D a18:=λT A=>by subst T;exact⟨z,k,(Q z a9q).1,H,hm,A⟩
   split at a95
   .rename_i a19;rw[a4Q]at a19;obtain⟨h,rfl,r⟩:=a95;refine⟨(e+1,[h],b39,b40),⟨a90,b41,b42,λc00 b=> ?_,a9q,λc00 b=> ?_,λb=>by cases b⟩,rfl,a9p⟩
    all_goals
     obtain rfl:=a5g.1 b;rcases r with rfl|r
    .exact b38
    .exact l8 _ r
    .exact b99 a19.1 a19.2
    .exact a15 _ r
   .rename_i a19;subst a95;refine⟨(e+1,b98,b39,b40),⟨a90,b41,b42,l8,a14,a15,λb=>⟨(a16 b).1,λh r=> ?_⟩⟩,rfl,a9p⟩;grind
  obtain rfl:e=k.rows.length:=a9p;rw[a5i]at a16;have c62:=U.ae (l7.l.1 _ _ b88);have c01:=b34.len;rw[a74.len]at c01;refine aa ?_;refine cn [0,3,8,11,90,91] (λc:Nat×List R×R=> [(92,.v (.int .i64 (c.1)))]) (λc E=>c.1<=k.kids.length/\dF a l6 E d a11 a13 c.2.1 c.2.2/\aA r0 (O++(k.kids.take c.1).filter (eu p x)) c.2.1) (λc=>k.kids.length - c.1) (0,k2,C) ⟨⟨a5v _,l7,by simpa using b18⟩,aS⟩ ?_;rintro⟨s,a96,b43⟩ b44 ⟨c02,a27,l9⟩ c63
  dsimp only at c02 a27 l9
  refine aa ?_;refine aG (λaH=> ?_) λaH=> ?_
  .have b45:s<k.kids.length:=a9p;obtain⟨_,K,a97,c03,M,N,n0,rfl⟩:=a74.get (i:=s) (x:=k.kids.getD s ay) (by simp_all);obtain⟨l5,b93,V⟩:=b34.get s _ K;have c04:=(aV (M:=M) (e6:=N) (h4:=n0) a97).all;have c64:dq true 37 b44 l5=some (.agg (ab (k.kids.getD s ay) M N n0)):=by have:=V.ld b44 a27.l.1 true 37 a9p (by rw[hI];omega);rw[this,aX,if_pos rfl,hI,c04.2.1]
   have G:=fb (b:=ay) b45;have b21:=lx (M:=M) (e6:=N) (h4:=n0) a97;generalize k.kids.getD s ay=a98 at*;have c05:a96.length<=100000000:=by have T:=l9.len;rw[a4O]at T;have A:=zy (ks:=O) λB j=>(Q B (by simp[j])).2.2;grind
   clear V K;refine aa ?_;refine aN λc65 c06=> ?_;have c07:=a27.mono (U.af (Y:= .cells (ab a98 M N n0)) U.a1 c06);refine aa ?_;refine ag (Fm a l6 _ d a11 a13 a96 b43 c07 a98 M N n0 a97 c03 (by show p.length<=8;omega) c05) ?_;rintro _ c66 ⟨c08,b46,k0,b47⟩;refine aa ?_;refine⟨(s+1,b46,c08),⟨b45,k0,?_⟩,rfl,a9p⟩;show aA r0 (O++(k.kids.take (s+1)).filter (eu p x)) b46;rw[G,a7Q,<-a5b];split at b47
   .rename_i w;obtain⟨b61,a43,rfl⟩:=b47;have w:eu p x a98=true:=w;rw[a8I w];exact l9.snoc a43
   grind
  .obtain rfl:s=k.kids.length:=a9p;rw[a5i]at l9;obtain⟨c67,c68⟩:=Fq (q:=p) (b6:=x) H;have c09:=uT b35;refine⟨⟨b36,a11,a13,O++k.kids.filter (eu p x),a96,b43⟩,⟨a27.base b89,a89,l8,a14,l9,a15,λB j=> ?_,λT A h r=> ?_,?_⟩,?_⟩
   .rcases a5a.1 j with j|j
    .simp_all
    .obtain⟨a29,a99⟩:=a7M.1 j;obtain⟨_,a04,a57⟩:=nz (c09 B a29);have:=a04 (a57 (yT a99));exact⟨(Q z a9q).1.snoc H a29 a99,(Q z a9q).2.1,by unfold gw;omega⟩
   .obtain⟨a29,a99⟩:=a16 T;obtain⟨c69,b48,c21⟩:=o.co a29 A h r;rcases a5j.1 (k9.mem_iff.2 b48)with rfl|b48
    .obtain⟨c70,c71,c22,c23,c24,c25⟩:=c21;cases c22 with
     |refl=>simp_all
     |step b49 c26 c27 c28=>rw[H]at b49;obtain rfl:=a4L b49;exact⟨_,a6T _ (a7M.2 ⟨c26,c27⟩),_,_,c28,c23,c24,c25⟩
    grind
   grind;grind
def zz (d:ah) (h:List aL) (k:List UInt8) (id:Int) (b:R):Prop:=match h.find? (λa=>decide (a.name=k))with
 |none=>b= .aI [.J [] .nil,.v (.bool false),.v (.int .i64 3)]
 |some a=>
  (vj d (a.aD.length+1) (id::List.replicate a.aD.length iJ) (id::List.replicate a.aD.length ji) a.bM/\b= .aI [.J [] .nil,.v (.bool false),.v (.int .i64 21)])\/
  ∃rows,vi d (a.aD.length+1) (id::List.replicate a.aD.length iJ) (id::List.replicate a.aD.length ji) a.bM rows/\(∀c∈rows,c.length=a.aD.length+1)/\
   ((rows= []/\b= .aI [.J [] .nil,.v (.bool false),.v (.int .i64 0)])\/ ∃c o p,rows=c::o/\b= .aI [.J (ad c) p,.v (.bool true),.v (.int .i64 0)])
theorem a2l (a:cj e1=true) (b:e7∈e1):fv (e7.aD.length+1) e7.bM=true:=by simp only[cj,a4Q,a5e,a6e,decide_eq_true_eq]at a;obtain⟨c,d,rfl⟩:=a5y b;simp_all [fx]
theorem G1 (id:Int) (a:e<=7):cP (id::List.replicate e iJ) (id::List.replicate e ji) (e+1)=true:=by have hm:iJ<=ji:=a9t;simp only[cP,a4S,a6E,a4Q,decide_eq_true_eq,a5e,a6e];grind
theorem a2m (x:U) (y n j9:Nat) (q:ah) (E:List aL) (s:cO x y n j9 q E) (k0:cj E=true) (W:List UInt8) (id:Int):
  AC Tryz.prog 12 [.ptr y 0,bb W,.v (.int .i64 id)] x λt a02=>x.sub a02/\zz q E W id t:=by
 obtain⟨a03,a86⟩:=kb k0;obtain⟨a04,a05,F,a06⟩:=s.x;have a88:=U.ae F;have a89:=fP.all.1;have u: ∀a T,ea a T->putAt ev 0 T=T:=λa T v=>(nE v).2.2.1;have a07:=u _ _ fP;have w:=iM;have k:=find_spec E a04 a05 W a06 a9p x;unfold Found at k;unfold zz;generalize ev=a90 at*;refine aM hm JV ?_;refine ag k ?_;clear k;rintro t k1 ⟨rfl,k⟩;cases A:E.find? (λa=>decide (a.name=W))with
 |none=>rw[A]at k;obtain rfl:=k;refine aa ?_;refine aN λa92 a94=> ?_;rw[w];exact aS
 |some a=>
  rw[A]at k;obtain⟨T,e,rfl⟩:=k;obtain⟨a95,a96,a97,a98,k2,k3,k4,k5,a08,a09,a99,b00,b01⟩:=e.all;have b02:=u _ _ e;have k6:=λx=>sX a T e x;have hm:=vg A;have k7:=a03 a hm;have a10:=k7.c;have a11:=k7.k.size;obtain⟨a13,a14⟩:=e.k;clear u a07;refine aa ?_;refine aN λz B=> ?_;rw[w];clear w;have a15:y≠z:=by rintro rfl;rw[F]at B;cases B
  have b03:=a15.symm;have C:=U.af (Y:= .cells T) (U.a1) B;have cU:=U.ai k1 z (.cells T);refine aa ?_;refine bc (k6 _) ?_;generalize k1.set z _=H at*;refine ag (a0I (a.aD.length+1) a9p a9p H) ?_;rintro _ k8 ⟨b04,b05,rfl,b06,f,g⟩;have k9:(ad (List.replicate (a.aD.length+1) iJ)).length=a.aD.length+1:=by rw[bH,a6E]
  have l0:(ad (List.replicate (a.aD.length+1) ji)).length=a.aD.length+1:=by rw[bH,a6E]
  obtain⟨aO,d,G,o,rfl,L,l1,a16,I,l2,b07,_⟩:=f.an (λK=>by rw[K]at k9;simp at k9);obtain⟨b,c,D,p,rfl,M,l3,a18,N,l4,b08,_⟩:=g.an (λK=>by rw[K]at l0;simp at l0);rw[a5D]at a16 I l2 a18 N l4;have l5:=g.1 _ _ l1;have l6:aO≠b:=by rintro rfl;rw[l1]at M;cases M
  have a19:=l6.symm;have i:=U.aq f.1 g.1;have l7:=i _ _ cU;have en:=i _ _ (C _ _ F);have b09:=(s.sub C).sub i;have P:=U.bF f.1 M;have b10:z≠aO:=by rintro rfl;rw[cU]at L;cases L
  have b11:z≠b:=by rintro rfl;rw[cU]at P;cases P
  have b12:y≠aO:=by rintro rfl;rw[C _ _ F]at L;cases L
  have b13:y≠b:=by rintro rfl;rw[C _ _ F]at P;cases P
  refine aa ?_;refine aN λr h=> ?_;have a27:aO≠r:=by rintro rfl;rw[l5]at h;cases h
  have a29:b≠r:=by rintro rfl;rw[l3]at h;cases h
  have a30:z≠r:=by rintro rfl;rw[l7]at h;cases h
  have a34:y≠r:=by rintro rfl;rw[en]at h;cases h
  have b14:=a27.symm;have b15:=a29.symm;have b16:=a30.symm;have b17:=a34.symm;have b18:cL 1 (.an aO d G 1) (.v (.int .i64 0))=some (.ptr aO 0):=by grind[jz]
  have b19:cL 1 (.an b c D 1) (.v (.int .i64 0))=some (.ptr b 0):=by grind[jz]
  have b20:=U.aJ l5;have b21:=U.aJ l3;have b22:=U.ae l7;have fV:=U.ae en;have b23:1<=o.length:=a9p;have b24:1<=p.length:=a9p;have a36:(putAt o 0 [R.v (.int .i64 id)]).take d=ad (id::List.replicate a.aD.length iJ):=by
   have O:d=a.aD.length+1:=a9p;have S:(o.drop 1).take (d - 1)=ad (List.replicate a.aD.length iJ):=by rw[<-a6f,I];rfl
   have Q:d - 1=a.aD.length:=a9p;rw[Q]at S;show([]++ [R.v (.int .i64 id)]++o.drop 1).take d= _;rw[a5f,O,a8W,a7H,S];rfl
  have a38:(putAt p 0 [R.v (.int .i64 id)]).take c=ad (id::List.replicate a.aD.length ji):=by
   have O:c=a.aD.length+1:=a9p;have S:(p.drop 1).take (c - 1)=ad (List.replicate a.aD.length ji):=by rw[<-a6f,N];rfl
   have Q:c - 1=a.aD.length:=a9p;rw[Q]at S;show([]++ [R.v (.int .i64 id)]++p.drop 1).take c= _;rw[a5f,O,a8W,a7H,S];rfl
  have b25:(putAt o 0 [R.v (.int .i64 id)]).length=o.length:=eH _ _ _ a9r;have b26:(putAt p 0 [R.v (.int .i64 id)]).length=p.length:=eH _ _ _ a9r;have b27:(k8.set r (.cells [.an aO d G 1,.an b c D 1])) r=some (.cells [.an aO d G 1,.an b c D 1]):=U.ai _ _ _;clear f g I N l2 l4;refine aa ?_;generalize putAt o 0 [R.v (.int .i64 id)]=j at*;generalize putAt p 0 [R.v (.int .i64 id)]=l at*;refine bc (k6 _) ?_;generalize X:((k8.set r (.cells [.an aO d G 1,.an b c D 1])).set aO (.cells j)).set b (.cells l)=V;have a42:V aO=some (.cells j):=by subst X;rw[U.ao _ _ l6,U.ai]
  have a43:V b=some (.cells l):=by subst X;rw[U.ai]
  have b28:=U.bF i h;have a47:H.sub V:=by grind[U.af]
  clear X;have l8:=View.an (n:=d) (cap:=G) (k:=1) a42 a9p;rw[ks,a36]at l8;have a48:(V.set aO (.ro j)) b=some (.cells l):=by rw[U.ao _ _ a19];exact a43
  have l9:=View.an (n:=c) (cap:=D) (k:=1) a48 a9p;rw[ks,a38]at l9;have n0:H.sub ((V.set aO (.ro j)).set b (.ro l)):=U.af (U.af a47 L) P;have a52:=View.agg (a:= []) (k:= [.an b c D 1,.v (.int .u8 0),.v (.int .i64 0),.J [] .nil,.v (.int .i64 1),.v (.bool false)]) rfl l8;have a56:=View.agg (a:= [.J (ad (id::List.replicate a.aD.length iJ)) .any]) (k:= [.v (.int .u8 0),.v (.int .i64 0),.J [] .nil,.v (.int .i64 1),.v (.bool false)]) rfl l9;have a57:=a52.trans a56;have a61:=G1 id a10;have a62:eu (id::List.replicate a.aD.length iJ) (id::List.replicate a.aD.length ji) a.bM=true->1<=a.bM.size:=λv=>by
   simp only[eu,a4Q,decide_eq_true_eq]at v;have b29:=nz (a2l k0 hm);simp_all
  have a63:=AC.nm (m:=Tryz.prog) (g:= [.ptr n 0,.agg (ab a.bM k2 k3 k4)]) a57 (a2k _ n j9 q (s.gJ.mono (U.aq C n0)) a.bM k2 k3 k4 a13 a14 _ _ .any .any .nil (a.aD.length+1) a61 a11 a62);refine ag a63 ?_;rintro t a65 ⟨a68,a69⟩;have b30:=U.aq C (U.aq n0 a68);rcases a69 with ⟨b31,b32,b33,rfl⟩|⟨rows,b34,Y,n1,b35,b36,Z,m,b37,rfl⟩
  .refine aa ?_;refine aN λn2 n3=> ?_;refine aa ?_;simp
  .have b38:=fG Z;refine aa ?_;refine aN λn2 n3=> ?_;have a71:=Z.src;obtain⟨n4,k5,a08,a09⟩:=a71;rw[a5D]at k5;have n5:=m.len;refine aa ?_;cases rows with
   |nil=>
    have n9:n4=0:=by rw[a4W]at n5;omega
    subst n9;refine aa ?_;grind
   |cons a73 rest=>
    have n9: ¬(n4:Int)=0:=by rw[a4S]at n5;omega
    obtain⟨_,a74,a81,rfl⟩:=m.get (i:=0) rfl;have a83:=bR.dR (Z.mono (U.af (Y:= .cells [Y,.v (.int .i64 n1)]) (U.a1) n3)) a9p m.flat.symm (m.cells λ_ _=>isRow.cells);obtain⟨a00,a01,a84⟩:=a83.get 0 _ a74;have a01:cL 1 Y (.v (.int .i64 0))=some a00:=a01;have b39:dq false 1 (a65.set n2 (.cells [Y,.v (.int .i64 n1)])) a00=some (.J (ad a73) a81):=a84.ld _ U.a1 false 1 a9p (by simp[R.cells]);refine aa ?_;grind
def jq (d:Nat) (b:List Int×List Int) (c:List Int):Prop:= ∀a,a<d->b.1.getD a 0<=c.getD a 0/\c.getD a 0<=b.2.getD a 0
def G2 {a b:List Int×List Int} (h:ha e a) (k:ha e b) (c:jq e a q\/jq e b q):jq e (cQ a b) q:=by
 have o:=ln.1 h.ok;have p:=ln.1 k.ok;unfold cQ;rw[o.2.2.1,p.2.2.1,if_pos h.ok,if_pos k.ok,if_pos rfl];intro d r;have x:=Er (a:=min) (q:=a.1) (b6:=b.1) (e:=d) a9p a9p;have y:=Er (a:=max) (q:=a.2) (b6:=b.2) (e:=d) a9p a9p
 dsimp only
 rw[x,y];rcases c with c|c<;>have:=c d r<;>omega
variable{a8:aC}
theorem G3 {a:gG} (k:mg e i a) (r:0<i) (o:jm e a8 A) (d:jq e a.aO q):jq e (ep a A).aO q:=by
 have h:ha e a.aO:=by
  rcases k.aO with ⟨b,_⟩|⟨_,b⟩
  .omega
  .exact b
 show jq e (cQ a.aO (A.aT,A.aU)) q;rcases o.aO with ⟨b,c,p⟩|⟨b,c⟩
 .rw[c,p,FC h];exact d
 .exact G2 h c (.inl d)
def G4 {a:gG} (h:mg e i a) (k:jm e a8 A) (o:q∈a8.all) (d:jq e (A.aT,A.aU) q):jq e (ep a A).aO q:=by
 have x:=a7T o;show jq e (cQ a.aO (A.aT,A.aU)) q;rcases k.aO with ⟨p,b,y⟩|⟨p,b⟩
 .omega
 rcases h.aO with ⟨r,c⟩|⟨r,c⟩
 .rw[c,pv b];exact d
 .exact G2 c b (.inr d)
theorem zA {b:Nat} (h:1<=b) (k:b<=8) {c:List Int}: ∀ {o:aC},o.c9 b->o.size<=1048576->c∈o.all->jq b ((bo o).aT,(bo o).aU) c
 | .nil,_,_,d=>by cases d
 | .node p live D E,d,F,a=>by
  simp only[aC.size]at F;have x:=fe h k d.a a9p;have y:=fe h k d.b a9p;have r:=y2 h k d.r;have z:mg b (if live=true then 1 else 0) (dK ⟨0,1,([],[])⟩ (p,live)):=by
   cases live with
   |false=>exact⟨rfl,.inl ⟨rfl,rfl⟩⟩
   |true=>refine⟨rfl,.inr ⟨a9t,?_⟩⟩;show ha b (cQ ([],[]) (gj p));rw[pv r];exact r
  have C:=yY z x;show jq b (ep (ep (dK ⟨0,1,([],[])⟩ (p,live)) (bo D)) (bo E)).aO c;simp only[aC.all,a5a]at a;rcases a with (a|a)|a
  .have:=a7T a;exact G3 C a9p y (G4 z x a (zA h k d.a a9p a))
  .exact G4 C y a (zA h k d.b a9p a)
  .have G:live=true/\c=p:=by simp_all
   obtain⟨rfl,rfl⟩:=G;have L:jq b (dK ⟨0,1,([],[])⟩ (c,true)).aO c:=by show jq b (cQ ([],[]) (gj c)) c;rw[pv r];unfold gj;rw[if_pos (by have:=d.r.len;omega)];exact λP _=>⟨a8M _,a8M _⟩
   grind[G3]
def G5 {a:List Int} (b:a.length=e):jh q b6 a=true↔cP q b6 e=true/\jq e (q,b6) a:=by unfold jh;simp only[b,a4Q,a5e,a6e,decide_eq_true_eq];rfl
def zB (c:1<=e) (d:e<=8) {h:List Int} (a:a8.c9 e) (k:a8.size<=1048576) (b:b6∈a8.all) (y:jh h q b6=true):eu h q (bo a8)=true:=by
 have o:=fe c d a k;have G:=a7T b;have z:=(a b6 (aC.gz b)).len;obtain⟨p,C⟩:=(G5 z).1 y;have D:=zA c d a k b;have E:=ln.1 p;have F:cP (bo a8).aT (bo a8).aU e=true:=by
  rcases o.aO with ⟨r,_⟩|⟨_,r⟩
  .omega
  .exact r.ok
 have L:=o.live;unfold eu jV oz;simp only[E.2.2.1,a4Q,a5e,a6e,decide_eq_true_eq];refine⟨a9p,⟨p,F⟩,λx q=> ?_⟩;have:=C x q;have:=D x q
 dsimp only at*
 unfold hz;omega
def G6:fk H e ay=none:=by
 cases a:fk H e ay with
 |none=>rfl
 |some b=>have:=(Fq (q:= []) (b6:= []) a).2;have c:(ay).size=0:=rfl;omega
theorem G7 (r:1<=e) (x:e<=8) (y:mn H e q b6 A j2): ∀ {a:aC},A=bo a->a.c9 e->a.size<=1048576->dW H a-> ∃b,j2=bo b/\b.c9 e/\b.size<=1048576/\dW H b/\(∀z∈b.all,z∈a.all)/\(eu q b6 A=true->eu q b6 j2=true):=by
 induction y with
 |refl C=>grind
 | @step C k W f c hk g i ih=>
  intro a o d p h;cases a with
  |nil=>rw[o,show bo .nil=ay from rfl,G6]at c;cases c
  |node j live D E=>
   rw[o,sS r x d p h]at c;obtain rfl:=a4L c;simp only[aC.size]at p;have F:k=bo D\/k=bo E:=by simpa[cq] using hk
   rcases F with rfl|rfl
   .obtain⟨b,G,L,P,S,T,V⟩:=ih rfl d.a a9p h.2.1;grind[aC.all]
   .obtain⟨b,G,L,P,S,T,V⟩:=ih rfl d.b a9p h.2.2;grind[aC.all]
def zC (a:1<=e) (b:e<=8) (d:a8.c9 e) (h:a8.size<=1048576) (k:dW H a8): ¬vj H e q b6 (bo a8):=by
 rintro⟨D,o,p,c⟩;obtain⟨r,rfl,x,y,z,_,C⟩:=G7 a b o rfl d h k;cases r with
 |nil=>exact yT (C p) rfl
 |node E live F G=>rw[sS a b x y z]at c;cases c
def a2n (b:1<=e) (c:e<=8) {d:List Int} (h:a8.c9 e) (k:a8.size<=1048576) (o:dW H a8) (p:ny H e b6 d (bo a8) q):q∈a8.all/\jh b6 d q=true:=by
 obtain⟨G,L,r,a,hm,x⟩:=p;obtain⟨y,rfl,z,C,D,E,_⟩:=G7 b c r rfl h k o;refine⟨E q ?_,x⟩;cases y with
 |nil=>rw[show bo .nil=ay from rfl,G6]at a;cases a
 |node F live P S=>
  rw[sS b c z C D]at a;obtain rfl:=a4L a;have:q=F/\live=true:=by simpa[cq] using hm
  obtain⟨rfl,rfl⟩:=this;simp[aC.all]
theorem zD {E:ah}{o:Nat} (c:1<=o) (d:o<=8) {F G p:List Int}: ∀ {h:aC},h.c9 o->h.size<=1048576->dW E h->p∈h.all->jh F G p=true->ny E o F G (bo h) p
 | .nil,_,_,_,b,_=>by cases b
 | .node P live T V,b,L,r,a,k=>by
  have x:=sS c d b L r;simp only[aC.size]at L;simp only[aC.all,a5a]at a;rcases a with (a|a)|a
  .obtain⟨y,z,C,D⟩:=zD c d b.a a9p r.2.1 a k;exact⟨y,z,.step x (by simp[cq]) (zB c d b.a a9p a k) C,D⟩
  .obtain⟨y,z,C,D⟩:=zD c d b.b a9p r.2.2 a k;exact⟨y,z,.step x (by simp[cq]) (zB c d b.b a9p a k) C,D⟩
  .have S:live=true/\p=P:=by simp_all
   obtain⟨rfl,rfl⟩:=S;exact⟨_,_,.refl _,x,by simp[cq],k⟩
variable{Q:List (List Int)}
theorem zE (b:1<=e) (c:e<=8) (d:a8.c9 e) (h:a8.size<=1048576) (k:dW H a8) (o:vi H e q b6 (bo a8) Q):(Q= []↔ ∀a∈a8.all,¬jh q b6 a=true):=by
 constructor
 .intro x a p r;exact o.full x (zB b c d h p r) a (zD b c d h k p r)
 .intro y;cases Q with
  |nil=>rfl
  |cons a rest=>obtain⟨z,C⟩:=a2n b c d h k (o.sound a a9q);simp_all
theorem zF {id:Int} (d:e<=7) (b:bL (e+1) q):jh (id::List.replicate e iJ) (id::List.replicate e ji) q=true↔q.getD 0 0=id:=by
 rw[G5 b.len];constructor
 .rintro⟨_,c⟩;have:=c 0 a9p;grind
 .intro h;refine⟨G1 id d,λa k=> ?_⟩;cases a with
  |zero=>simp only[a5u];omega
  |succ a=>have c:a<e:=a9p;have o:=b.len;have hm:=b.jR (q.getD (a+1) 0) (by simp_all);simp only[a5x];simp only[a5F,List.getElem?_replicate,if_pos c,a6H];simp only[a5F]at hm;unfold iJ ji;omega
def lz (b:ah) (d:List aL) (c:cy) (h:Int×List aL×ah):Prop:=match d.find? (λa=>decide (a.name=c.table))with
 |none=>h=(3,d,b)
 |some a=>if c.row.length=a.aD.length+1 then
   (vj b (a.aD.length+1) (c.row.getD 0 0::List.replicate a.aD.length iJ) (c.row.getD 0 0::List.replicate a.aD.length ji) a.bM/\h=(21,d,b))\/
   ∃rows,vi b (a.aD.length+1) (c.row.getD 0 0::List.replicate a.aD.length iJ) (c.row.getD 0 0::List.replicate a.aD.length ji) a.bM rows/\(∀k∈rows,k.length=a.aD.length+1)/\
    ((rows= []/\h=fy (λb=>nA (a.aD.length+1) c.row b a.bM) (λb=>je (a.aD.length+1) c.row b a.cr) b d a)\/(rows≠ []/\h=(8,d,b)))
  else h=(6,d,b)
def a2o (z:U) (p r x:Nat) (k:ah) (c:List aL) (l:cO z p r x k c) (m: ∀d∈c,d.Fit) (n:cj c=true) (a:cN) (H:a.d.Fit):
  AC Tryz.prog 49 [.ptr p 0,a.V] z λD E=> ∃res,lz k c a.d res/\D= .v (.int .i64 res.1)/\cO E p r x res.2.2 res.2.1/\cC p r x z E:=by
 obtain⟨I,l5⟩:=kb n;have q:=λE C=>FV E p r x k c C a9p a H;have s:a.V= .agg [ak a.d.kind,bb a.d.table,.J (bE a.d.aD) a.gn,.J (ad a.d.row) a.dn]:=rfl;obtain⟨l6,l7,K,l8⟩:=l.x;rw[s]at q|-;clear s;have l9:=U.ae K;have n0:=fP.all.1;refine aM hm KM ?_;refine bp λP M=> ?_;have t:=U.af (Y:= .cells [ak a.d.kind,bb a.d.table,.J (bE a.d.aD) a.gn,.J (ad a.d.row) a.dn]) (U.a1) M;have aH:=U.ai z P (.cells [ak a.d.kind,bb a.d.table,.J (bE a.d.aD) a.gn,.J (ad a.d.row) a.dn]);generalize z.set P _=N at*;have u:=l.sub t;refine ag (q N u) ?_;rintro D O ⟨S,b⟩;have V:=S _ _ aH;have n1:=U.ae V;have W:=u.sub S;have e:=U.aq t S;have f: ∀d T,ea d T->putAt ev 0 T=T:=λd T C=>(nE C).2.2.1;have n2:=fP.all.2.1;have n3:=f _ _ fP;have g:=iM;generalize ev=n4 at*;unfold mr at b;unfold lz;cases F:c.find? (λd=>decide (d.name=a.d.table))with
 |none=>
  rw[F]at b
  dsimp only at b
  obtain rfl:=b;refine aa ?_;refine aN λG h=> ?_;rw[g];refine aa ?_;refine⟨_,U.a1,(3,c,k),rfl,rfl,W.sub (U.af U.a1 h),cC.of (U.aq e (U.af U.a1 h))⟩
 |some d=>
  rw[F]at b;have hm:=vg F
  dsimp only at b
  by_cases y:a.d.row.length=d.aD.length+1
  .rw[if_pos y]at b;obtain⟨T,o,rfl⟩:=b;obtain⟨Q,X,Y,_⟩:=o.all;have Z:=f _ _ o;have j9:= @dJ a.d.row;have n5:=bH (q:=a.d.row);refine aa ?_;refine aN λG h=> ?_;rw[g];have k0:P≠G:=by rintro rfl;rw[V]at h;cases h
   have n9:=k0.symm;obtain⟨k1,k2⟩:=o.k;obtain⟨k3,k4⟩:=o.z;have v:=I d hm;have a00:=v.c;have a01:=v.k.size;have w:=W.sub (U.af (Y:= .cells T) U.a1 h);have k5:=U.af (Y:= .cells T) (U.a1) h _ _ V;have k6:=U.ai O G (.cells T);have k7:=U.aq e (U.af (Y:= .cells T) (U.a1) h);have a02:cL 1 (.J (ad a.d.row) a.dn) (.v (.int .i64 0))=some (.bV [.v (.int .i64 (a.d.row.getD 0 0))]):=by have C:=j9 (b:=0) a9p;have k8:(0:Int)<=0:=a9p;rw[hG k8];show eA 1 (ad a.d.row)[0]? = _;rw[C];rfl
   dsimp only
   simp only[if_pos y];refine aa ?_;refine ag (a2m _ p r x k c w n a.d.table (a.d.row.getD 0 0)) ?_;rintro D k9 ⟨L,b⟩;unfold zz at b;rw[F]at b
   dsimp only at b
   have i:=w.sub L;have j:=U.aq k7 L;have a03:=U.ae (L _ _ k5);have a04:=U.ae (L _ _ k6);rcases b with ⟨a05,rfl⟩|⟨rows,A,B,⟨rfl,rfl⟩|⟨l0,l1,a06,rfl,rfl⟩⟩
   .refine aa ?_;exact⟨_,U.a1,(21,c,k),.inl rfl,rfl,i,cC.of j⟩
   .have l2:=G0 k9 p r x k c i m a9p d T o (m d hm) a.d.row a.dn 84 85 _ _ a9u a9u (jn.a2e k1 k2 a9p a9p a9p y) (jn.a2g k3 k4 a9p a9p y);refine aa ?_;refine ag l2 ?_;rintro D a07 ⟨rfl,l3,l4⟩;refine aa ?_;exact⟨_,U.a1,_,.inr ⟨[],A,B,.inl ⟨rfl,rfl⟩⟩,rfl,l3,(cC.of j).trans l4⟩
   .refine aa ?_;exact⟨_,U.a1,(8,c,k),.inr ⟨l0::l1,A,B,.inr ⟨a9q,rfl⟩⟩,rfl,i,cC.of j⟩
  .rw[if_neg y]at b;obtain⟨T,o,rfl⟩:=b;obtain⟨Q,X,Y,_⟩:=o.all;have Z:=f _ _ o;refine aa ?_;refine aN λG h=> ?_;rw[g]
   dsimp only
   simp only[if_neg y];refine aa ?_;refine⟨_,U.a1,(6,c,k),rfl,rfl,W.sub (U.af U.a1 h),cC.of (U.aq e (U.af U.a1 h))⟩
def ew (c:ah) (b:List aL) (a:cy) (d:Int×List aL×ah):Prop:=
 if eo a=false then d=(1,b,c)
 else if a.kind=1 then d=((iN (jZ b ⟨a.table,a.aD,ay,ay⟩) b).1,(iN (jZ b ⟨a.table,a.aD,ay,ay⟩) b).2,c)
 else if a.kind=2 then d=((iN (cI b a.table) b).1,(iN (cI b a.table) b).2,c)
 else if a.kind=3 then lz c b a d
 else d=jo c b a
theorem G8 (b:U) (d h k:Nat) (r:ah) (x:List aL) (Z:cO b d h k r x) (j: ∀j9∈x,j9.Fit) (m:cj x=true) (a:cN) (l:a.d.Fit):
  AC Tryz.prog 20 [.ptr d 0,a.V] b λg w=> ∃res,ew r x a.d res/\g= .v (.int .i64 res.1)/\cO w d h k res.2.2 res.2.1/\cC d h k b w:=by
 have k2:=(kb m).2;have n:=λb=>EP a l b;have A:=λb L=>a2d b d h k r x L j a9p a l;have B:=λb L=>a2c b d h k r x L j a9p a;have H:=λb L=>a2o b d h k r x L j m a l;have I:=λb L=>a2i b d h k r x L j m a l;have K:a.V= .agg [ak a.d.kind,bb a.d.table,.J (bE a.d.aD) a.gn,.J (ad a.d.row) a.dn]:=rfl;rw[K]at n A B H I|-;clear K;refine aM hm K1 ?_;refine bp λq k0=> ?_;have e:=U.af (Y:= .cells [ak a.d.kind,bb a.d.table,.J (bE a.d.aD) a.gn,.J (ad a.d.row) a.dn]) (U.a1) k0;have aH:=U.ai b q (.cells [ak a.d.kind,bb a.d.table,.J (bE a.d.aD) a.gn,.J (ad a.d.row) a.dn]);generalize b.set q _=f at*;have i:=Z.sub e;have k3:=U.ae aH;cases cu:eo a.d with
 |false=>refine bc (n f) ?_;exact⟨_,U.a1,(1,x,r),by unfold ew;rw[if_pos cu],rfl,i,cC.of e⟩
 |true=>
  refine bc (n f) ?_;rw[show List.replicate 5 (R.v .nilFunc)= [.v .nilFunc,.v .nilFunc,.v .nilFunc,.v .nilFunc,.v .nilFunc]from rfl];have k4: ∀z C D E F y:R,putAt [z,C,D,E,F] 1 [y]= [z,y,D,E,F]:=λ_ _ _ _ _ _=>rfl;have k5: ∀z C D E F y:R,putAt [z,C,D,E,F] 2 [y]= [z,C,y,E,F]:=λ_ _ _ _ _ _=>rfl;have k6: ∀z C D E F y:R,putAt [z,C,D,E,F] 3 [y]= [z,C,D,y,F]:=λ_ _ _ _ _ _=>rfl;have k7: ∀z C D E F y:R,putAt [z,C,D,E,F] 4 [y]= [z,C,D,E,y]:=λ_ _ _ _ _ _=>rfl;have k8: ∀z C D E F y M N O v:R,putAt [z,C,D,E,F] 0 [y,M,N,O,v]= [y,M,N,O,v]:=λ_ _ _ _ _ _ _ _ _ _=>rfl;have k9: ∀Q X Y,(R.bG Q X Y).cells= [.bG Q X Y]:=λ_ _ _=>rfl;have P:a.d.kind.toNat=1\/a.d.kind.toNat=2\/a.d.kind.toNat=3\/a.d.kind.toNat=4:=by have L:=cu;simp only[eo,a4Q]at L;grind
  refine aa ?_;refine aN λc G=> ?_;have k1:q≠c:=by rintro rfl;rw[aH]at G;cases G
  have l0:=k1.symm;rcases P with P|P|P|P
  .have s:lT 1 5 (.ptr c 0) (ak a.d.kind)=some (.ptr c 1):=by have:=rP (e:=1) (i:=5) (v:=c) (O:=0) (e2:= .u8) (b1:=(a.d.kind.toNat)) a9p a9p;rw[a5q,show 0+a.d.kind.toNat*1=1 by omega]at this;exact this
   refine aa ?_;have t:a.d.kind=1:=a5I.1 P;generalize o:(f.set c _)=p;have S:cO p d h k r x:=by subst o;exact i.sub (U.af U.a1 G)
   have T:cC d h k b p:=by subst o;exact cC.of (U.aq e (U.af U.a1 G))
   clear o;refine fD a9v (A p S) ?_;rintro g u ⟨V,W,rfl⟩;refine aa ?_;refine⟨_,U.a1,(_,_,r),?_,rfl,V,T.trans W⟩;unfold ew;grind
  .have s:lT 1 5 (.ptr c 0) (ak a.d.kind)=some (.ptr c 2):=by have:=rP (e:=1) (i:=5) (v:=c) (O:=0) (e2:= .u8) (b1:=(a.d.kind.toNat)) a9p a9p;rw[a5q,show 0+a.d.kind.toNat*1=2 by omega]at this;exact this
   refine aa ?_;have t:a.d.kind=2:=a5I.1 P;generalize o:(f.set c _)=p;have S:cO p d h k r x:=by subst o;exact i.sub (U.af U.a1 G)
   have T:cC d h k b p:=by subst o;exact cC.of (U.aq e (U.af U.a1 G))
   clear o;refine fD a9v (B p S) ?_;rintro g u ⟨V,W,rfl⟩;refine aa ?_;refine⟨_,U.a1,(_,_,r),?_,rfl,V,T.trans W⟩;simp_all [ew]
  .have s:lT 1 5 (.ptr c 0) (ak a.d.kind)=some (.ptr c 3):=by have:=rP (e:=1) (i:=5) (v:=c) (O:=0) (e2:= .u8) (b1:=(a.d.kind.toNat)) a9p a9p;rw[a5q,show 0+a.d.kind.toNat*1=3 by omega]at this;exact this
   refine aa ?_;have t:a.d.kind=3:=a5I.1 P;generalize o:(f.set c _)=p;have S:cO p d h k r x:=by subst o;exact i.sub (U.af U.a1 G)
   have T:cC d h k b p:=by subst o;exact cC.of (U.aq e (U.af U.a1 G))
   clear o;refine fD a9v (H p S) ?_;rintro g u ⟨res,l1,rfl,V,W⟩;refine aa ?_;refine⟨_,U.a1,res,?_,rfl,V,T.trans W⟩;simp_all [ew]
  .have s:lT 1 5 (.ptr c 0) (ak a.d.kind)=some (.ptr c 4):=by have:=rP (e:=1) (i:=5) (v:=c) (O:=0) (e2:= .u8) (b1:=(a.d.kind.toNat)) a9p a9p;rw[a5q,show 0+a.d.kind.toNat*1=4 by omega]at this;exact this
   refine aa ?_;have t:a.d.kind=4:=a5I.1 P;generalize o:(f.set c _)=p;have S:cO p d h k r x:=by subst o;exact i.sub (U.af U.a1 G)
   have T:cC d h k b p:=by subst o;exact cC.of (U.aq e (U.af U.a1 G))
   clear o;refine fD a9v (I p S) ?_;rintro g u ⟨rfl,V,W⟩;refine aa ?_;refine⟨_,U.a1,jo r x a.d,?_,rfl,V,T.trans W⟩;simp_all [ew]
theorem nH:cj e1=true↔(∀b∈e1,fx b=true)/\e1.Pairwise (λc d=>c5 c.name d.name=true)/\e1.length<=8:=by
 constructor
 .intro a;have o:=zq a;simp only[cj,a4Q,a5e,a6e,decide_eq_true_eq]at a;refine⟨λb h=> ?_,?_,a.2⟩
  .obtain⟨p,r,rfl⟩:=a5y h;simp_all
  grind[List.pairwise_iff_getElem,List.getD]
 .rintro⟨x,k,y⟩;rw[a6n]at k;simp only[cj,a4Q,a5e,a6e,decide_eq_true_eq,a6w];grind
theorem G9 {b:List aL} (c:cj e1=true) (a:cI e1 w= .ok b):cj b=true:=by
 unfold cI at a;rw[if_pos c]at a;split at a
 .obtain rfl:=Except.ok.inj a;obtain⟨d,h,k⟩:=nH.1 c;have o:(e1.take (cZ e1 w)++e1.drop (cZ e1 w+1)).Sublist e1:=by grind[cZ,List.Sublist.append_left,List.drop_drop,List.drop_sublist,List.take_append_drop]
  grind[nH,Nat.le_trans]
 .cases a
theorem Ga {c:List aL} (a:ka e1 e7= .ok c):cj c=true:=by
 unfold ka at a;split at a
 .rename_i b;simp only[a4Q]at b;obtain⟨b,p⟩:=b;split at a
  .rename_i d;obtain rfl:=Except.ok.inj a;simp only[gA,a4Q,decide_eq_true_eq]at d;obtain⟨h,r⟩:=d;obtain⟨x,k,o⟩:=nH.1 b;have y:(e1[cZ e1 e7.name]'h).name=e7.name:=by simp_all
   refine nH.2 ⟨λz C=> ?_,?_,by rw[a7L];exact o⟩;grind
   .rw[a6n]at k|-;grind
  .cases a
 .cases a
def Gb {c:aL->Bool}: ∀ {d:List aL},∀b∈d.takeWhile c,c b=true
 | [],b,a=>by cases a
 |h::d,b,a=>by
  rw[a6g]at a;split at a
  .rcases a5j.1 a with rfl|a
   .assumption
   .exact Gb b a
  .cases a
theorem Gc {c:aL->Bool}: ∀ {d:List aL}{b:aL}{h:List aL},d.dropWhile c=b::h->c b=false
 | [],_,_,a=>by cases a
 |k::d,b,h,a=>by
  rw[a7n]at a;split at a
  .exact Gc a
  simp_all
theorem Gd {o:List aL} (b:jZ e1 e7= .ok o):cj o=true:=by
 unfold jZ at b;split at b
 .rename_i d;simp only[a4Q]at d;obtain⟨d,E⟩:=d;split at b
  .cases b
  rename_i F;split at b
  .cases b
  rename_i G;obtain rfl:=Except.ok.inj b;obtain⟨L,p,P⟩:=nH.1 d;have r:e1.take (cZ e1 e7.name)=e1.takeWhile λa=>c5 a.name e7.name:=by grind[List.takeWhile_append_dropWhile,c5,cZ,List.take_left]
  have x:e1.drop (cZ e1 e7.name)=e1.dropWhile λa=>c5 a.name e7.name:=by grind[List.takeWhile_append_dropWhile,c5,cZ,List.drop_left]
  have el:=a5E (p:=λa:aL=>c5 a.name e7.name) (l:=e1);have S: ∀a∈e1.takeWhile (λa=>c5 a.name e7.name),c5 a.name e7.name=true:=λa c=>Gb a c;have y: ∀a∈e1.dropWhile (λa=>c5 a.name e7.name),c5 e7.name a.name=true:=by
   intro a c;cases h:e1.dropWhile (λa=>c5 a.name e7.name)with
   |nil=>rw[h]at c;cases c
   |cons k T=>
    have V:=Gc h;have W:cZ e1 e7.name<e1.length:=by grind
    have e:e1.getD (cZ e1 e7.name) default=k:=by grind
    have f:k.name≠e7.name:=λg=>by
     simp_all [gA]
    have z:c5 e7.name k.name=true:=by grind[c5,absurd,FI]
    rw[h]at c;rcases a5j.1 c with rfl|c
    .exact z
    grind[vd,List.pairwise_cons]
  rw[r,x];refine nH.2 ⟨λa c=> ?_,?_,?_⟩;grind
  .rw[<-el]at p;obtain⟨C,D,i⟩:=a5Q.1 p;refine a5Q.2 ⟨C,a5w.2 ⟨y,D⟩,λj l m n=> ?_⟩;grind
  grind
 .cases b
end Go.Proofs.YtlgnfcaolejgeaaGreat
namespace Go.bz
open Go
variable{n b3:R}{f t e4:U}{g B e0:List R}{e i v O b8 j0:Nat}
theorem View.obj (p:f e=some (.cells (B++ .an i O b8 1::e0))) (z:f i=some (.cells g)) (C:O*1<=g.length) (D:e≠i):
  View f n ((f.set i (.ro g)).set e (.cells (B++ .J (ee 1 O g) .any::e0))) n:=λt u v E F=>by
 obtain⟨G,a⟩:=Step.freeze E z;have L:(f.set i (.ro g)) e=some (.cells (B++ .an i O b8 1::e0)):=by rw[U.ao _ _ D];exact p
 obtain⟨w,P,T,S,h,V⟩:=a.holds.dO e _ L;refine⟨G,⟨⟨a.holds.ro,λr W b=> ?_⟩,a.le,a.os,a.tape,a.output,a.size,λ_ _ _=>rfl,λk A=> ?_,a.mw,λk j l o=> ?_⟩,F.mono a.le⟩
 .by_cases c:r=e
  .subst c;rw[U.ai]at b;obtain rfl:=a4L b;refine⟨λH d=> ?_,P,T,S,⟨by have:=h.1;simp_all,λx y m=> ?_⟩,V⟩
   .simp only[a5a,a5j]at d;rcases d with d|rfl|d
    .simp_all
    .rfl
    .simp_all
   .by_cases q:x=B.length
    .subst q;have s:y= .J (ee 1 O g) .any:=by simpa using m.symm
     subst s;exact aY.frozen a.holds (U.ai _ _ _) C (h.2 B.length (.an i O b8 1) a9q)
    .refine h.2 x y ?_;grind
  .rw[U.ao _ _ c]at b;exact a.holds.dO r W b
 grind[U.ao]
 .have c:k≠e:=by rintro rfl;rw[p]at o;cases o
  rw[U.ao _ _ c];exact a.jt k j l o
def zG (k o:U):Prop:= ∀a b c d h,k a=some (.cells [.J b c,.J d h])->o a=some (.cells [.J b c,.J d h])
end Go.bz
namespace Go.Proofs.YtlgnfcaolejgeaaGreat
open Go Go.bz
def bw.vm {r x:U} (d:zG r x): ∀ {a:Nat}{b:a6.T a}{c:R},bw r a b c->bw x a b c
 |0,b,c,⟨h,y,k,eR,h1,o,p⟩=>⟨h,y,k,eR,h1,d _ _ _ _ _ o,p⟩
 |a+1,b,c,⟨h,z,k,eR,h1,o,p,C⟩=>⟨h,z,k,eR,h1,d _ _ _ _ _ o,p.mono λ_ _=>bw.vm d,C⟩
variable{e i v O b8 j0:Nat}
theorem a2p (r:List Int) (S:Own) (C:a6.T 0) (T:R) (o:U) (q:bw o 0 C T) (V:GT e 0 C) (Y:e<=8):
  AC Tryz.prog 95 [T,.J (ad r) S] o λy c=>o.sub c/\bw c 0 (a6.cI bC r 0 C) y:=by
 obtain⟨Z,j9,s,k0,rfl,W,G⟩:=q;obtain⟨d,rfl⟩:=a6.hT C;rw[a6.qG]at G;have f:=V.ok;have t:=V.dB;rw[a6.ky]at f t;have k1:=G.len;show AC _ _ _ _ λy c=>o.sub c/\bw c 0 (a6.leaf (d.filter λa=>decide (a≠r))) y;refine AC.view (s:=λy c=> ∃a h k,y= .ptr a 0/\o a=none/\au (o.set a (.cells [h,.J [] .nil])) c 1 k h/\aA isRow (d.filter λa=>decide (a≠r)) k) ?_ ?_
 .have u:=U.ae W;refine aM hm Bl ?_;refine bp λa z=> ?_;refine cn [0,1,5] (λb:Nat=> [(6,.v (.int .i64 (b)))]) (λb c=>b<=d.length/\ ∃h k,au (o.set a (.cells [h,.J [] .nil])) c 1 k h/\aA isRow ((d.take b).filter λa=>decide (a≠r)) k) (λb=>d.length - b) 0 ⟨⟨a9p,_,[],au.nil U.a1,trivial⟩,aS⟩ ?_;rintro b v ⟨k2,h,k,p,x⟩ k3;have k4:=x.len;have w:=p.1 _ _ (U.ai _ _ _);have u:=rd (U.aq (U.af U.a1 z) p.1) W;have L:=U.ae w;refine aa ?_;refine aG (λA=> ?_) λA=> ?_
  .obtain⟨_,k5,g,rfl⟩:=G.at [] (e:=b) a9p;have B:=fb (a:=d) (b:= []) (e:=b) a9p;have k6:=(f (d.getD b []) (by grind)).len;generalize d.getD b []=D at*;refine lW (nn D r g S v a9p) ?_;refine aG (λc2=> ?_) λc2=> ?_
   .have H:=a8c (λa=>decide (a≠r)) (d.take b);rw[a4P]at H;refine Xf p (λ_ i k7 P=> ?_);have k8:=U.aJ (P.1 _ _ (U.ai _ _ _));have k9:=fG P;have j:=jL (Y:= .cells [i,.J [] .nil]) P (U.ai o a (.cells [h,.J [] .nil]));rw[U.set_set]at j;refine aa ?_;exact⟨b+1,⟨a9p,i,_,j,by rw[B,a7Q,a8I (by simpa using c2),a8L];exact x.snoc ⟨g,rfl⟩⟩,rfl,a9p⟩
   grind
  .rw[a4N a9p]at x;exact⟨_,U.a1,a,h,k,rfl,z,p,x⟩
 .rintro y c ⟨a,h,k,rfl,z,p,x⟩;have L:=p.1 _ _ (U.ai _ _ _);have l:=U.aq (U.af U.a1 z) p.1;rcases p.2 with ⟨rfl,I⟩|⟨m,K,l0,M,rfl,E,N,O,l1,l2,l3,l4⟩
  .refine⟨_,c,View.refl,l,?_⟩;rcases I with rfl|rfl<;>exact⟨a,[],_,.nil,rfl,L,x⟩
  .have Q:a≠m:=by rintro rfl;rw[U.ai]at E;cases E
   refine⟨_,_,View.obj (B:= []) L N (by rw[O];omega) Q,?_,a,_,.any,.nil,rfl,U.ai _ _ _,?_⟩
   .intro D s F;have n:D≠a:=by rintro rfl;rw[z]at F;cases F
    have X:D≠m:=by rintro rfl;rw[U.ao _ _ n,F]at E;cases E
    rw[U.ao _ _ n,U.ao _ _ X];exact l _ _ F
   .rw[ks,show M.take K=k by simp_all];exact x
def pJ {d:U}{b:Nat}: ∀ {h:List (a6.T b)}{a:List R},aA (bw d b) h a->flat a=a
 | [],[],_=>rfl
 | _:: _,k::a,c=>by
  obtain⟨o,p,r,rfl,_⟩:=bw.ptr c.1;have:=pJ c.2;simp only[flat,a5o]at this|-;rw[this];rfl
variable{n b3:R}{f t e4:U}
def bw.shape {p:a6.T e} (r:bw f e p n): ∃a k b d c,n= .ptr a 0/\f a=some (.cells [.J k b,.J d c])/\k.length+d.length=a6.len p/\(e=0->d= [])/\(e≠0->k= []/\d≠ []):=by
 cases e with
 |zero=>obtain⟨a,x,b,c,rfl,o,h⟩:=r;exact⟨a,x,b,[],c,rfl,o,by rw[h.len];rfl,λ_=>rfl,λe=>absurd rfl e⟩
 |succ e=>obtain⟨a,y,b,c,rfl,o,h,z,_⟩:=r;refine⟨a,[],c,y,b,rfl,o,by rw[h.len];simp[a6.len],λe=>(by cases e),λ_=>⟨rfl,?_⟩⟩;rintro rfl;exact z (aA.xK h)
variable{g B e0:List R}
theorem a2q {a:List (a6.T i)} (k:aA (bw f i) a g) (p:g≠ []) (o:B.take e=g): ∀b c d h,B≠ [.J b c,.J d h]:=by
 rintro b c d h rfl;cases g with
 |nil=>trivial
 |cons r g=>
  cases a with
  |nil=>trivial
  |cons x a=>
   obtain⟨y,_,_,rfl,_⟩:=bw.ptr k.1;cases e with
   |zero=>cases o
   |succ e=>grind
theorem au.Ge (b:au f t 1 g n): ∃a,View t n a (.J g .any)/\f.sub a:=by grind[View.dR,ks,List.take_of_length_le]
theorem bw.rows {a:U}{b:a6.T 0}{c:Nat}{d h:List R}{k o:Own} (p:bw a 0 b (.ptr c 0)) (r:a c=some (.cells [.J d k,.J h o])):aA isRow (a6.rows b) d:=by obtain⟨_,_,_,_,x,y,z⟩:=p;simp_all
theorem bw.kids {b:U}{a:Nat}{c:a6.T (a+1)}{d:Nat}{k h:List R}{o p:Own} (r:bw b (a+1) c (.ptr d 0)) (x:b d=some (.cells [.J k o,.J h p])):aA (bw b a) (a6.kids c) h:=by obtain⟨_,_,_,_,y,z,a,_⟩:=r;simp_all
variable{M e6 h4:Own}
def rb (a:aR 1 g) (b:flat g=g):bN f 1 (.J g M)=some (g.length,g):=by have:=(jO.J (o:=M) a).src f U.a1;rwa[b]at this
def vn (k:au t f 1 g (.an e v O 1)) (a:g[i]? =some n):cL 1 (.an e v O 1) (.v (.int .i64 (i:Int)))=some (.ptr e i)/\ ∃b,f.read e=some b/\qg false 1 i (some b)=some n:=by have y:=(a4T.1 a).1;obtain⟨z,C,D,b,c,E,o,p,d,r,F,G⟩:=k.an (by rintro rfl;simp at a);simp only[R.an.injEq,and_true]at c;obtain⟨rfl,rfl,rfl⟩:=c;rw[a5D]at p d r;have h:=jz (e:=1) (i:=e) (v:=v) (O:=O) (e2:= .i64) (b1:=(i)) a9p a9p;rw[a5q,a5D]at h;refine⟨h,b,U.ae o,?_⟩;rw[<-d,a5N a9p]at a;obtain⟨x,rfl⟩:=a4T.1 a;rw[Bw a9p,a5l x];rfl
theorem a2r {a:List (a6.T i)}{b:a6.T i} (p:e<a.length) (k:2<=a.length) (o: ¬2<=a6.len b):
  ∃d h,(a.set e b)[e - 1]? =some d/\(a.set e b)[e - 1+1]? =some h/\a6.lk a e b=(a.set e b).take (e - 1)++a6.kz d h++(a.set e b).drop (e - 1+2):=by
 rw[a6.lk,if_neg o];by_cases c:e=0
 .subst c;refine⟨b,a[1],a8Q a9p,a9q,?_⟩;rw[if_pos rfl,a4M k,a9h a9p];rfl
 .refine⟨a[e - 1],b,by grind,by grind,?_⟩;rw[if_neg c,a4M a9p,a9h a9p,List.take_set_of_le a9p];simp[c]
set_option maxHeartbeats 1000000 in
theorem a2s (k7:1<=e) (Q:e<=8) (r:List Int) (k8:Own) (X:bL e r): ∀(a:Nat) (G:a6.T a) (C:R) (p:U),bw p a G C->GT e a G->
  AC Tryz.prog 95 [C,.J (ad r) k8] p λA c=>p.sub c/\bw c a (a6.cI bC r a G) A:=by
 have b44:=X.len;intro a
 induction a with
 |zero=>intro G C p u l;exact a2p r k8 G C p u l Q
 |succ a ih=>
 intro G C p u l;obtain⟨h,rfl⟩:=a6.gl G;have m:=l.kids k7 Q X;have k9:=En h C r k8 p u a9p λb L=>by
  obtain⟨v,_,b45,a86⟩:=m.gY b L;have:=v.dB;have:=a86.len;grind
 obtain⟨b46,l0,b47,b48,rfl,Y,k,_,_⟩:=u;rw[a6.fl]at k;have b49:=k.len;obtain⟨a88,b50⟩:=m.two;obtain⟨b,L⟩:=m.at_;have Z:a6.cI bC r (a+1) (a6.node h)=a6.node (a6.lk h (a6.cR bC r (h.map (a6.cM a))) (a6.cI bC r a b)):=by simp only[a6.cI,a6.fl];rw[L]
 obtain⟨_,_,a89,a90⟩:=a6.ps (gp k7 Q) X (a+1) (a6.node h) l.wf l.dM l.ok;rw[Z,a6.dE,a6.dE]at a89;rw[Z,a6.dE]at a90;rw[Z];rw[m.Eo]at k9;clear Z;generalize a6.cR bC r (h.map (a6.cM a))=o at*;have a16:=(a4T.1 L).1;obtain⟨v,a92,_,_⟩:=m.gY b (a4V L);obtain⟨_,_,a94,a95⟩:=a6.ps (gp k7 Q) X a b v.wf v.dM v.ok;have a18:=λC p u=>ih b C p u v;have a96:=λb L=>(a6.gU.1 (m.gY b L).2.1).2.1;have a97:=(a6.gU.1 a92).1;have l1:=a2r (b:=a6.cI bC r a b) a16 a88;have l2:2<=a6.len (a6.cI bC r a b)->a6.lk h o (a6.cI bC r a b)=h.set o (a6.cI bC r a b):=λa=>by rw[a6.lk,if_pos a]
 clear m l;generalize a6.lk h o (a6.cI bC r a b)=l3 at*;generalize a6.cI bC r a b=B at*;refine AC.view (s:=λA c=> ∃d x z D P,A= .ptr d 0/\p d=none/\p x=none/\d≠x/\c d=some (.cells [.J [] .nil,.an x z D 1])/\(∃E,c x=some (.cells E)/\z<=E.length/\E.take z=P)/\aA (bw c a) l3 P/\p.sub c) ?_ ?_;rotate_left
 .rintro A c ⟨d,x,z,D,P,rfl,F,a98,a99,j9,⟨E,f,b51,b00⟩,b01,b02⟩;have b52:P≠ []:=by rintro rfl;grind[aA.xK]
  refine⟨_,_,View.obj (B:= [.J [] .nil]) j9 f a9p a99,?_,d,_,.any,.nil,rfl,U.ai _ _ _,?_,?_,by rw[a6.fl];omega⟩
  .intro n a19 H;have b03:n≠d:=by rintro rfl;rw[F]at H;cases H
   have a27:n≠x:=by rintro rfl;rw[a98]at H;cases H
   rw[U.ao _ _ b03,U.ao _ _ a27];exact b02 _ _ H
  .rw[a6.fl,ks,b00];refine b01.mono λ_ _=>bw.vm λI b04 b05 b06 a19 K=> ?_;have k0:I≠d:=by rintro rfl;rw[j9]at K;simp at K
   have l4:I≠x:=by rintro rfl;grind[a2q,br.cells.inj,Option.some.inj]
   rw[U.ao _ _ k0,U.ao _ _ l4];exact K
  grind[a6.fl]
 have b07:=U.ae Y;have b53: ¬(h.length:Int)=0:=a9p;have l5:=bw.c k;refine aM hm Bl ?_;refine cl k9 ?_;rintro _ a29 ⟨M,rfl⟩;have b08:=rd M Y;have l6:=k.mono λ_ _=>bw.mono M;refine tW (rb l5 (pJ k)) λb54 b09 N=> ?_;obtain⟨g,z,D,b55,rfl,a27,a30,b10,b11,b12,b56,b57⟩:=au.an N (by grind);obtain rfl:z=h.length:=a9p;have a34:=N.1;have b13:=rd (U.aq M a34) Y;obtain⟨_,a36,l7⟩:=l6.get L;obtain⟨b14,_,_,rfl,_⟩:=l7.ptr;refine cl (a18 _ b09 (bw.mono a34 l7)) ?_;rintro A l8 ⟨l9,n0⟩;obtain⟨i,_,_,rfl,_⟩:=n0.ptr;obtain⟨n1,a38,a42,-,y⟩:=au.put (a:= .ptr i 0) (by rw[pJ l6];exact N.mono l9) a9p l5 a36 rfl;have b15:=(vn (N.mono l9) a36).1;have b16:=U.aJ a38;rw[a5D]at y a42;have aH:n1.take h.length=l0:=by have I:=l9 _ _ a30;simp_all
 obtain⟨S,n2⟩: ∃S,l8.set g (.cells (putAt n1 o [.ptr i 0]))=S:=⟨_,rfl⟩;have a43:zG l8 S:=λI b04 b05 b06 a19 K=>by
  have l4:I≠g:=by grind
  rw[<-n2,U.ao _ _ l4];exact K
 change au a29 (l8.set g (.cells (putAt n1 o [.ptr i 0]))) 1 _ _ at y;rw[n2]at y;have T:=aA.set o (l6.mono λ_ _ j9=>bw.mono y.1 j9) (bw.vm a43 n0);rw[pJ T]at y;have b17:=T.len;rw[a7L,a7L]at b17;have a47:(l0.set o (.ptr i 0))[o]? =some (.ptr i 0):=a8Q a9p;have a48:(h.set o B)[o]? =some B:=by simp[a16]
 clear aH a43 n0 k l5 b07 b08 b13 a30 b10 b11 b12 N;generalize b58:h.set o B=a52 at*;generalize l0.set o (.ptr i 0)=a56 at*;have b59:a52.length=h.length:=by grind
 have a57:=U.aq M y.1;have n3: ∀b∈a52,a6.len b<=4:=λb L=>by
  grind
 obtain⟨b60,b18,b19⟩:=(vn y a47).2;obtain⟨b20,cd,b21,a61,n4,a62,a63,b22,_,_⟩:=(T.get a48|>.elim λC a=>by simp_all:bw S a B (.ptr i 0)).shape;obtain rfl:i=b20:=by simpa using a62
 clear a62 a18 ih k9;have b23:=U.ae a63;have a65: ∀(n5 c) (P) (q) (d),p.sub n5->au n5 c 1 P q->aA (bw c a) l3 P->c d=none->
   ∃k1 x z D a68,R.ptr d 0= .ptr k1 0/\p k1=none/\p x=none/\k1≠x/\(c.set d (.cells [.J [] .nil,q])) k1=some (.cells [.J [] .nil,.an x z D 1])/\(∃E,(c.set d (.cells [.J [] .nil,q])) x=some (.cells E)/\z<=E.length/\E.take z=a68)/\aA (bw (c.set d (.cells [.J [] .nil,q])) a) l3 a68/\p.sub (c.set d (.cells [.J [] .nil,q])):=λn5 c P q d n9 a00 k F=>by
  have a01:=U.af (Y:= .cells [.J [] .nil,q]) U.a1 F;obtain⟨x,z,D,E,rfl,a02,a69,b61,b62,b63,b64,_⟩:=a00.an (λs=>by grind[aA.xK]);exact⟨d,x,z,D,P,rfl,U.bF (U.aq n9 a00.1) F,U.bF n9 a02,(λs=>by rw[s,a69]at F;cases F),U.ai _ _ _,⟨E,a01 _ _ a69,a9p,by simp_all⟩,k.mono λ_ _ a=>bw.mono a01 a,U.aq n9 (U.aq a00.1 a01)⟩
 by_cases c2:2<=a6.len B
 .have aH:(1)<(cd.length)+(a61.length:Int):=a9p;obtain rfl:=l2 c2;clear l2 l1;have b24:=fG y;refine aa ?_;refine bp λd F=> ?_;exact⟨_,U.a1,a65 a29 S a56 _ d M y T F⟩
 obtain⟨a71,a73,a03,k2,rfl⟩:=l1 c2;have aH: ¬(1)<(cd.length)+(a61.length:Int):=a9p;clear l2 c2 l1;refine aa ?_;clear aH a63 b22 b23 b19 b18 a47 a48 b15 b16 a38 a42;refine o3 [0,7,8] (λ_:Unit=> [(9,.v (.int .i64 ((o - 1:Nat))))]) (λ_ c=>c=S) (λb=> ?_) (λb=> ?_) ?_
 .have b:=of_decide_eq_true b;have s:((o - 1:Nat):Int)=0:=a9p;exact aS
 .have b:=of_decide_eq_false b;have s:(o) - 1=((o - 1:Nat):Int):=a9p;exact aS
 clear n2;rintro _ S rfl b25;generalize o - 1=j at*;have b65:=(a4T.1 k2).1;have b66:=n3 _ (a4V a03);have b67:=n3 _ (a4V k2);obtain⟨_,b26,a04⟩:=T.get a03;obtain⟨_,b27,a05⟩:=T.get k2;obtain⟨b68,b69,b70,b71,b72,rfl,w,b73,_,_⟩:=a04.shape;obtain⟨x,b74,b75,cc,b76,rfl,f,b77,_,_⟩:=a05.shape;obtain⟨b28,b78,b79,b80,b81,s,b29,_,b30,b31⟩:=(bw.mono y.1 l7).shape;obtain rfl:b14=b28:=by simpa using s
 obtain⟨b82,b83,b32,b84⟩:=vn y b26;obtain⟨a74,b85,a06,b86⟩:=vn y b27;have a74:cL 1 (.an g h.length D 1) (.v (.int .i64 ((j)+1)))=some (.ptr g (j+1)):=a74;have b87:=U.ae b29;have b88:=rd a57 Y;rw[b32]at a06;obtain rfl:=a4L a06;clear s a06 n3 a94 a95 a96 a97 a03 k2;refine aa ?_;refine o3 [8,9] (λn:List R×Own=> [(12,.J n.1 n.2)]) (λn c=>S.sub c/\aA (bw c a) (a6.kz a71 a73) n.1) (λcU=> ?_) (λcU=> ?_) ?_
 .have cU:=of_decide_eq_true cU;cases a with
  |succ a=>exact absurd (a4R a9p) (b31 a9p).2
  |zero=>have k:=a04.rows w;have V:=a05.rows f;have b33:=k.len;have b34:=V.len;have a07:=U.ae w;have a08:=U.ae f;refine tW (rb (iG k) (nj k)) λa5 b35 t=> ?_;have a07:=rd t.1 w;have a08:=rd t.1 f;refine qv t (rb (iG V) (nj V)) λdu b36 a09=> ?_;obtain⟨a10,a11,k3⟩:=au.Ge a09;refine cl (AC.nm (g:= []) a11 (Eh _ _ .any a10 (k.append V) (by rw[a4O];omega))) ?_;rintro _ a13 ⟨a14,k4,k5,rfl,W⟩;refine aa ?_;exact⟨(k4,k5),⟨U.aq k3 a14,W⟩,rfl⟩
 .have cU:=of_decide_eq_false cU;cases a with
  |zero=>exact absurd (by rw[b30 rfl];rfl) cU
  |succ a=>have k:=a04.kids w;have V:=a05.kids f;have b33:=k.len;have b34:=V.len;have a07:=U.ae w;have a08:=U.ae f;refine tW (rb (bw.c k) (pJ k)) λa5 b35 t=> ?_;have a07:=rd t.1 w;have a08:=rd t.1 f;refine qv t (rb (bw.c V) (pJ V)) λdu b36 a09=> ?_;obtain⟨a10,a11,k3⟩:=au.Ge a09;refine cl (AC.nm (g:= []) a11 (xW S _ _ .any a10 (k.append V) (by rw[a4O];omega) k3)) ?_;rintro _ a13 ⟨a14,k4,k5,rfl,W⟩;refine aa ?_;exact⟨(k4,k5),⟨U.aq k3 a14,W⟩,rfl⟩
 rintro⟨k4,k5⟩ a13 ⟨a15,W⟩ b25
 dsimp only at W|-
 have b89:=W.len;have b90:(a6.kz a71 a73).length<=4:=by grind
 have a81:=y.mono a15;have b37:=T.len;have b21:=hJ (e:=1) (O:=g) (b8:=h.length) (i:=D) (v:=j) (e2:= .i64) a9p;obtain⟨b91,b92,b38,_⟩:=(a81.first (i:=j) a9p).src;obtain⟨_,_,_,b93,k0,_,b39,b94,b40,_,_,_⟩:=a81.an (by rintro rfl;simp at b37;omega);simp only[R.an.injEq,and_true]at k0;obtain⟨rfl,rfl,rfl⟩:=k0;refine tW b38 (λb95 b96 b41=> ?_) (x:=by rw[a4P];omega);refine qv b41 (rb (bw.c W) (pJ W)) (λb97 b42 a83=> ?_) (y:=by rw[a4P];omega);obtain⟨a02,n4,_,k6⟩:=ot (i:=1) (j0:=g) (O:=h.length) (e:=j+2) (e2:= .i64) a9p a9p;have k6:=k6 b42 _ a56 (a83.1 _ _ b39) a9p b40;rw[a5D]at k6;have n4:cg 1 (.an g h.length D 1) (some (.v (.int .i64 ((j)+2)))) none none=some a02:=n4;refine qv a83 k6 (λb98 b43 O=> ?_) (x:=by rw[a5d];omega) (y:=by grind);have b24:=fG O;have a84:=λ{G:a6.T a}{C:R}=>bw.mono (t:=G) (a:=C) (U.aq a15 O.1);refine aa ?_;refine bp λd F=> ?_;rw[a5D]at O;exact⟨_,U.a1,a65 a13 b43 _ _ d (U.aq a57 a15) O ((((T.take j).mono λ_ _ a=>a84 a).append (W.mono λ_ _ a=>bw.mono O.1 a)).append ((T.drop (j+2)).mono λ_ _ a=>a84 a)) F⟩
variable{Q:List (List Int)}
def zH:(dy 0 (a6.leaf Q)).rows.map Prod.fst=Q:=by rw[Zm];show(Q.map λa=>(a,true)).map Prod.fst=Q;rw[a6P];exact List.map_id' Q
def Gf:(dy 0 (a6.leaf Q)).kind=2:=rfl
def zI {a:a6.T (e+1)}: ¬(dy (e+1) a).kind=2:=by show¬(3)=2;decide
def Gg (c:1<=i) (d:i<=8) {a:List (a6.T e)} (h:eV i (e+1) (a6.node a)) (b:List Int):ht b (dy (e+1) (a6.node a))=a6.cR bC b (a.map (a6.cM e)):=by unfold ht;rw[y3];congr 1;show(a.map (c4 e)).map (·.key)= _;rw[a6P];exact a6r λk o=>Zp c d (h.gY k o).1
def Gh {a:List (a6.T e)}:(dy (e+1) (a6.node a)).kids[i]? =a[i]?.map (c4 e):=by rw[y3];show(a.map (c4 e))[i]? = _;simp
variable{q b6:List Int}
theorem Gi (r:1<=i) (x:i<=8) {a:List (a6.T e)} (c:GT i (e+1) (a6.node a)) (y:bL i q) {b:a6.T e} (d:a[a6.cR bC q (a.map (a6.cM e))]? =some b):q∈a6.bg (e+1) (a6.node a)↔q∈a6.bg e b:=by obtain⟨h,D,z,E⟩:=c.wf;rw[a6.dE]at h;have F: ∀b∈a,a6.WF e b:=z;have k:=c.dM;have o:=c.ok;rw[a6.fX]at k o|-;obtain⟨G,p,L,P⟩:=a6.ux (gp r x) y (by intro C;subst C;simp at h) (λb d=>by grind[a6.gU]) k o;rw[d]at p;obtain rfl:=a4L p;have S:=a6.qL d;grind[a6.cR,bC,a6.cM,sF]
theorem Gj {D:Nat} (p:1<=D) (r:D<=8) {c:List Int} (z:bL D c): ∀(a:Nat) (y:a6.T a) (C:ah) (F:Nat),GT D a y->gq C a y->a<F->c∉a6.bg a y->Laid C a (a6.eT bC c a y) (gm D c F C (c4 a y))
 |0,y,C,F+1,h,G,_,f=>by
  obtain⟨L,rfl⟩:=a6.hT y;obtain⟨s,t,_⟩:=h.wf;rw[a6.hU]at s t;have S:=h.ok;have g:(dy 0 (a6.leaf L)).rows.map Prod.fst=L:=zH;rw[gm,qP p r h.jS G];simp only;rw[if_pos Gf,g,ya (Q:=L) p r h.dM S z,decide_eq_false (p:=c∈L) f,if_neg a9t,Zs (Q:=L) p r h.dM S z];exact Ew p r C (a6.dL bC L c) (by rw[a6.oo];omega) (by rw[a6.oo];omega) λE k=>by
   rcases a6.sA.1 k with rfl|k
   .exact z
   .exact S E k
 |a+1,y,C,F+1,h,G,H,f=>by
  obtain⟨b,rfl⟩:=a6.gl y;have i:=h.kids p r z;obtain⟨d,P⟩:=i.at_;have j:=a4V P;have l:c∉a6.bg a d:=λx=>f ((Gi p r h z P).2 x);obtain⟨I,K⟩:=i.two;have T:=(i.gY d j).1;obtain⟨u,M,N,O⟩:=a6.qM (gp p r) z a d T.wf T.dM T.ok l;have ih:=Gj p r z a d C F T (G.2 d j) a9p l;rw[gm,qP p r h.jS G];simp only;rw[if_neg zI,Gg p r h.jS,Gh,P];simp only[a5O];have m:a6.eT bC c (a+1) (a6.node b)=(a6.chunks (b.take (a6.cR bC c (b.map (a6.cM a)))++a6.eT bC c a d++b.drop (a6.cR bC c (b.map (a6.cM a))+1))).map a6.node:=by simp only[a6.eT,a6.fl];rw[P]
  rw[m];clear m;have Q:=(a4T.1 P).1;have X:=a6.qL P;generalize a6.cR bC c (b.map (a6.cM a))=o at*;generalize gm D c F C (c4 a d)=E at*;obtain⟨Y,v⟩:=E;obtain⟨n,V,q⟩:=ih;simp only at n V q;subst n;simp only;have g:(dy (a+1) (a6.node b)).kids.take o++((a6.eT bC c a d).map (c4 a)++(dy (a+1) (a6.node b)).kids.drop (o+1))=(b.take o++a6.eT bC c a d++b.drop (o+1)).map (c4 a):=by rw[y3];show(b.map (c4 a)).take o++(_++(b.map (c4 a)).drop (o+1))= _;simp
  rw[g];have w: ∀E∈(b.take o++a6.eT bC c a d++b.drop (o+1)).flatMap (a6.bg a),bL D E:=λE k=>by
   rw[a5C,a5C,u,a5a,a5a]at k;have S:=h.ok;rw[a6.fX]at S;rcases k with (k|k)|k;grind
   .rcases a6.sA.1 k with rfl|k
    .exact z
    .exact T.ok E k
   grind
  have A:((b.take o++a6.eT bC c a d++b.drop (o+1)).flatMap (a6.bg a)).length=(a6.bg (a+1) (a6.node b)).length+1:=by grind[a6.fX,List.length_append,a6.oo]
  have Z:=h.dB;have j9: ∀d∈b,a6.WF a d:=h.wf.2.2.1;have:=y7 p r v (b.take o++a6.eT bC c a d++b.drop (o+1)) (by grind) (by grind) (λW x=>by
   grind) w (by rw[A];omega) (λk0 e B W x=>by
   simp only[a5a]at x;rcases x with (x|x)|x
   .exact(G.2 W (a4Z x)).mono (V.trans e)
   .exact(q (e.zero B) W x).mono e
   .exact(G.2 W (a5r x)).mono (V.trans e))
  exact⟨this.ok,V.trans this.le,this.ins⟩
def iO:eE->az
 |none=>ay
 |some ⟨a,b⟩=>c4 a b
def mu (a:ah):eE->Prop
 |none=>True
 |some ⟨b,c⟩=>gq a b c
def mu.mono {a b:ah} (c:a.le b) {t:eE} (d:mu a t):mu b t:=by
 match t with
 |none=>trivial
 |some ⟨_,_⟩=>exact gq.mono c d
structure pK (a:ah) (t:eE) (r:Except Int az×ah):Prop where
 ok:r.1= .ok (iO t)
 le:a.le r.2
 ins:r.2.one=false->mu r.2 t
variable{H:ah}
def a2t (F:1<=i) (G:i<=8) {r:ah}{a:List (a6.T e)} (L:1<=a.length) (P:a.length<=2) (k:Laid r e a (.ok (a.map (c4 e)),H)) (S: ∀b∈a,a6.WF e b) (T: ∀o∈a.flatMap (a6.bg e),bL i o) (V:(a.flatMap (a6.bg e)).length<=1048576):
  pK r (pt a) (iE i ((a.map (c4 e)).length+1) H (a.map (c4 e))):=by
 match a,L,P with
 | [b],_,_=>
  have p:iE i (([b].map (c4 e)).length+1) H ([b].map (c4 e))=(.ok (c4 e b),H):=by rw[iE];rfl
  rw[p];exact⟨rfl,k.le,λc=>k.ins c b a9q⟩
 | [d,h],_,_=>
  have x:=y7 F G H [d,h] a9q a9q S T V (λg y c W f=>(k.ins (y.zero c) W f).mono y);rw[a6.po a9q a9q]at x;rw[iE,if_pos a9q];generalize jN H i ([d,h].map (c4 e))=o at*;obtain⟨j,z⟩:=o;obtain⟨C,D,E⟩:=x;simp only at C D E;subst C;simp only;have p:iE i (([d,h].map (c4 e)).length) z (([[d,h]].map a6.node).map (c4 (e+1)))=(.ok (c4 (e+1) (a6.node [d,h])),z):=by rfl
  rw[p];exact⟨rfl,k.le.trans D,λc=>E c _ a9q⟩
variable{b7:eE}
def a2u (c:1<=e) (d:e<=8) (h:bL e q) (D:iI e b7) (E:mu H b7) (F:q∉eF b7):pK H (kE b7 q) (je e q H (iO b7)):=by
 match b7 with
 |none=>have G:=uy c d (Q:= [q]) a9q a9q (by simpa using h);unfold je;show pK H _ (if ay=ay then _ else _);rw[if_pos rfl,qO G.ow];exact⟨rfl,lo _ _,λL=>qN L⟩
 |some ⟨a,b7⟩=>
  have b:GT e a b7:=D;have o:q∉a6.bg a b7:=F;have y:=uz c d b.jS;have g:=eV.high a b7 b.jS;have i:=y.size;have j:=b.dB;have P:=Gj c d h a b7 H ((c4 a b7).size.toNat+1) b E a9p o;obtain⟨z,S,T,V⟩:=a6.qM (gp c d) h a b7 b.wf b.dM b.ok o;have p:kE (some ⟨a,b7⟩) q=pt (a6.eT bC q a b7):=by simp only[kE];rw[if_neg o]
  rw[p];unfold je;show pK H _ (if c4 a b7=ay then _ else(match gm e q ((c4 a b7).size.toNat+1) H (c4 a b7)with|(.error p,r)=>(.error p,r)|(.ok bI,r)=>iE e (bI.length+1) r bI));rw[if_neg y.ne];generalize gm e q ((c4 a b7).size.toNat+1) H (c4 a b7)=x at*;obtain⟨l,m⟩:=x;obtain⟨C,W,f⟩:=P;simp only at C;subst C;simp only;refine a2t c d T V ⟨rfl,W,f⟩ S (λx k=> ?_) (by rw[z,a6.oo];omega);rw[z]at k;rcases a6.sA.1 k with rfl|k
  .exact h
  .exact b.ok x k
theorem a2v (y:1<=e) (z:e<=8) (d:bL e q) (P:iI e b7) (S:(eF b7).length<1000):iI e (kE b7 q)/\(eF (kE b7 q)).length<=(eF b7).length+1:=by
 match b7 with
 |none=>
  refine⟨⟨⟨?_,?_,trivial,λa=>by omega⟩,?_,?_,?_⟩,?_⟩
  .simp[a6.hU]
  .simp[a6.hU]
  .rw[a6.ky];simp
  .rw[a6.ky];simpa using d
  .rw[a6.ky];simp
  .show(a6.bg 0 (a6.leaf [q])).length<= _;rw[a6.ky];simp
 |some ⟨a,b7⟩=>
  have c:GT e a b7:=P;have W:(a6.bg a b7).length<1000:=S;simp only[kE];by_cases k:q∈a6.bg a b7;simp_all;rw[if_neg k];obtain⟨o,h,T,V⟩:=a6.qM (gp y z) d a b7 c.wf c.dM c.ok k;have C:=a6.Yw (gp y z) c.dM c.ok d k;have D: ∀p∈a6.dL bC (a6.bg a b7) q,bL e p:=λp r=>by
   rcases a6.sA.1 r with rfl|r
   .exact d
   .exact c.ok p r
  have f:=a6.oo (lt:=bC) (h9:=a6.bg a b7) (h3:=q);generalize a6.dL bC (a6.bg a b7) q=E at*
  match F:a6.eT bC q a b7,T,V with
  | [x],_,_=>
   rw[F]at o h;have b:a6.bg a x=E:=by rw[<-o];simp
   refine⟨⟨a6.jM.of (h x a9q),by rw[b];exact C,by rw[b];exact D,by rw[b];omega⟩,?_⟩;show(a6.bg a x).length<=(a6.bg a b7).length+1;rw[b];omega
  | [G,L],_,_=>
   rw[F]at o h;have b:a6.bg (a+1) (a6.node [G,L])=E:=by trivial
   refine⟨⟨⟨by rw[a6.dE];simp,by rw[a6.dE];simp,h,λ_=>by rw[a6.dE];simp⟩,by rw[b];exact C,by rw[b];exact D,by rw[b];omega⟩,?_⟩;show(a6.bg (a+1) (a6.node [G,L])).length<=(a6.bg a b7).length+1;rw[b];omega
def fo:(a:Nat)->a6.T a->hV
 |0,b=>⟨true,a6.rows b,[]⟩
 |a+1,b=>⟨false,[],(a6.kids b).map (c4 a)⟩
def oI (b:ah):(a:Nat)->a6.T a->Prop
 |0,_=>True
 |a+1,c=> ∀d∈a6.kids c,gq b a d
def oI.mono {b c:ah} (h:b.le c): ∀ {a:Nat}{d:a6.T a},oI b a d->oI c a d
 |0,_,_=>trivial
 | _+1,_,a=>λk o=>gq.mono h (a k o)
def gq.p: ∀ {a:Nat}{b:a6.T a},gq H a b->oI H a b
 |0,_,_=>trivial
 | _+1,_,a=>a.2
def a2w: ∀ {b:Nat}{a:a6.T b},(fo b a).rows.length+(fo b a).kids.length=a6.len a
 |0,a=>rfl
 |b+1,a=>by show 0+((a6.kids a).map (c4 b)).length= _;rw[a4Y,a5m];rfl
def Gk: ∀ {b:Nat}{a:a6.T b},gX (dy b a)=fo b a
 |0,a=>by
  obtain⟨c,rfl⟩:=a6.hT a;unfold gX;rw[zH];rfl
 |b+1,a=>rfl
def zJ: ∀ {a:Nat}{b:a6.T a},me H e (fo a b).leaf (fo a b).rows (fo a b).kids=dx H e (dy a b)
 |0,b=>rfl
 |a+1,b=>rfl
theorem Gl (C:1<=e) (D:e<=8) (k:ah): ∀ {c:Nat} (a b:a6.T c),a6.lj c a->a6.lj c b->2<=a6.len a+a6.len b->a6.len a+a6.len b<=5->(∀d∈a6.bg c a,bL e d)->(∀d∈a6.bg c b,bL e d)->
  (a6.bg c a).length+(a6.bg c b).length<=1048576->(∀h,k.le h->h.one=false->oI h c a/\oI h c b)->Laid k c (a6.kz a b) (kB k e (fo c a) (fo c b))
 |0,a,b,_,_,p,r,x,y,_,_=>by
  obtain⟨a,rfl⟩:=a6.hT a;obtain⟨b,rfl⟩:=a6.hT b;rw[a6.hU,a6.hU]at p r;exact Ew C D k (a++b) (by rw[a4O];omega) (by rw[a4O];omega) λd E=>(a5a.1 E).elim (x d) (y d)
 |c+1,a,b,bW,cu,p,r,x,y,F,G=>by
  obtain⟨a,rfl⟩:=a6.gl a;obtain⟨b,rfl⟩:=a6.gl b;rw[a6.dE,a6.dE]at p r;rw[a6.fX]at x y F;rw[a6.fX]at F;have:=y7 C D k (a++b) (by rw[a4O];omega) (by rw[a4O];omega) (λo z=>(a5a.1 z).elim (bW o) (cu o)) (λd E=>by
   grind) (by simp_all) (λh L P o z=>(a5a.1 z).elim ((G h L P).1 o) ((G h L P).2 o))
  rw[a5P]at this;exact this
theorem a2x (C:1<=i) (D:i<=8) (o:ah) {d:List (a6.T e)}{c:a6.T e} (m:v<d.length) (B:2<=d.length) (z: ∀b∈d,eV i e b/\a6.WF e b/\gq o e b) (H:1<=a6.len c) (n:a6.len c<=4) (T:a6.lj e c)
  (V: ∀E∈a6.bg e c,bL i E) (q: ∀b∈d,(a6.bg e b).length+(a6.bg e c).length<=1048576) (W: ∀r,o.le r->r.one=false->oI r e c):Laid o e (a6.lk d v c) (jQ o i (d.map (c4 e)) v (fo e c)):=by
 unfold jQ a6.lk;rw[a2w];have s:(a6.bg e c).length<=1048576:=by have:=q _ (a5p m);omega
 by_cases F:2<=a6.len c
 .rw[if_pos F,if_pos F,zJ];have t:=a6.gU.2 ⟨F,n,T⟩;have u:=(nq C D e c (Ev t V s)).1;rw[qO u.ow];simp only;refine⟨?_,lo _ _,λk b a=> ?_⟩
  .rw[<-sG,List.map_set]
  .rcases a6V a with a|rfl
   .exact(z b a).2.2.mono (lo _ _)
   .have S:=qN k;have f:=W _ (lo o (cW (dy e b))) k
    match e,b,S,f with
    |0,b,S,f=>exact S
    |e+1,b,S,f=>trivial
 .rw[if_neg F,if_neg F];have I:a6.len c=1:=a9p;by_cases l:v=0
  .subst l;simp only[if_true];have x:d[1]? =some d[1]:=a4M a9p;rw[a5n,x];generalize d[1]=y at x;have h:=z y (a4V x);have g:=a6.gU.1 h.2.1;simp only[a5O];rw[qP C D h.1 h.2.2];simp only;rw[Gk];have j:=Gl C D o c y T g.2.2 a9p a9p V h.1.ok (by grind) (λr G k=>⟨W r G k,(h.2.2.mono G).p⟩);generalize kB o i (fo e c) (fo e y)=E at*;obtain⟨w,A⟩:=E;obtain⟨L,p,P⟩:=j;simp only at L p P;subst L;simp only;refine⟨a9q,p,λk b a=> ?_⟩;simp only[a5a]at a;rcases a with (a|a)|a;simp_all
   .exact P k b a
   .exact(z b (a5r a)).2.2.mono p
  .simp only[if_neg l];have x:d[v - 1]? =some d[v - 1]:=a4M a9p;rw[a5n,x];generalize d[v - 1]=y at x;have h:=z y (a4V x);have g:=a6.gU.1 h.2.1;simp only[a5O];rw[qP C D h.1 h.2.2];simp only;rw[Gk];have j:=Gl C D o y c g.2.2 T a9p a9p h.1.ok V (by grind) (λr G k=>⟨(h.2.2.mono G).p,W r G k⟩);generalize kB o i (fo e y) (fo e c)=E at*;obtain⟨w,A⟩:=E;obtain⟨L,p,P⟩:=j;simp only at L p P;subst L;simp only;refine⟨a9q,p,λk b a=> ?_⟩;simp only[a5a]at a;rcases a with (a|a)|a
   .exact(z b (a4Z a)).2.2.mono p
   .exact P k b a
   .exact(z b (a5r a)).2.2.mono p
structure a2y (a:ah) (h:Nat) (t:a6.T h) (r:Except Int hV×ah):Prop where
 ok:r.1= .ok (fo h t)
 le:a.le r.2
 ins:r.2.one=false->oI r.2 h t
theorem Gm {p:Nat} (c:1<=p) (d:p<=8) {b:List Int} (y:bL p b): ∀(a:Nat) (k:a6.T a) (r:ah) (z:Nat),GT p a k->gq r a k->a<z->b∈a6.bg a k->a2y r a (a6.cI bC b a k) (hX p b z r (c4 a k))
 |0,k,r,z+1,h,E,_,T=>by
  obtain⟨F,rfl⟩:=a6.hT k;have V:(dy 0 (a6.leaf F)).rows.map Prod.fst=F:=zH;rw[hX,qP c d h.jS E];simp only;rw[if_pos Gf,V,ya (Q:=F) c d h.dM h.ok y,decide_eq_true (p:=b∈F) T,if_pos rfl,Zt (Q:=F) c d h.dM h.ok y T];exact⟨rfl,ah.le_refl,λ_=>trivial⟩
 |a+1,k,r,z+1,h,E,O,T=>by
  obtain⟨x,rfl⟩:=a6.gl k;have C:=h.kids c d y;obtain⟨o,G⟩:=C.at_;have e:=a4V G;have t:=(Gi c d h y G).1 T;obtain⟨u,Q⟩:=C.two;obtain⟨D,v,_,_⟩:=C.gY o e;have X:=a6.gU.1 v;obtain⟨w,A,Y,B⟩:=a6.ps (gp c d) y a o D.wf D.dM D.ok;have ih:=Gm c d y a o r z D (E.2 o e) a9p t;rw[hX,qP c d h.jS E];simp only;rw[if_neg zI,Gg c d h.jS,Gh,G];simp only[a5O];have f:a6.cI bC b (a+1) (a6.node x)=a6.node (a6.lk x (a6.cR bC b (x.map (a6.cM a))) (a6.cI bC b a o)):=by simp only[a6.cI,a6.fl];rw[G]
  rw[f];clear f;have H:=(a4T.1 G).1;generalize a6.cR bC b (x.map (a6.cM a))=I at*;generalize hX p b z r (c4 a o)=L at*;obtain⟨K,g⟩:=L;obtain⟨i,W,j⟩:=ih;simp only at i W j;subst i;simp only;have Z:=D.dB;have j9:(a6.bg a (a6.cI bC b a o)).length<=1000:=by grind
  have M:=a2x c d g H u (λP S=>⟨(C.gY P S).1.jS,(C.gY P S).2.1,(E.2 P S).mono W⟩) a9p B A (λL l=>by
   rw[w]at l;exact D.ok L (a7M.1 l).1) (λP S=>by have:=(C.gY P S).1.dB;omega) (λk0 m N=>(j (m.zero N)).mono m)
  have V:(dy (a+1) (a6.node x)).kids=x.map (c4 a):=rfl;rw[V];generalize jQ g p (x.map (c4 a)) I (fo a (a6.cI bC b a o))=L at*;obtain⟨K,k1⟩:=L;obtain⟨n,q,s⟩:=M;simp only at n q s;subst n;simp only;exact⟨rfl,W.trans q,s⟩
def vo:(b:Nat)->a6.T b->eE
 |0,a=>if a6.len a=0 then none else some ⟨0,a⟩
 |b+1,a=>match a6.kids a with
  | [c]=>some ⟨b,c⟩
  | _=>some ⟨b+1,a⟩
def jr (a:eE) (c:List Int):eE:=
 match a with
 |none=>none
 |some ⟨b,a⟩=>if c∈a6.bg b a then vo b (a6.cI bC c b a)else some ⟨b,a⟩
theorem a2z (C:1<=e) (D:e<=8) (j:bL e q) (l:iI e b7) (m:mu H b7) (S:q∈eF b7):pK H (jr b7 q) (ll e q H (iO b7)):=by
 match b7 with
 |none=>cases S
 |some ⟨a,b7⟩=>
  have d:GT e a b7:=l;have T:q∈a6.bg a b7:=S;have V:=uz C D d.jS;have h:=eV.high a b7 d.jS;have w:=V.size;have A:=d.dB;have B:=Gm C D j a b7 H ((c4 a b7).size.toNat+1) d m a9p T;obtain⟨n,r,x,o⟩:=a6.ps (gp C D) j a b7 d.wf d.dM d.ok;have s:jr (some ⟨a,b7⟩) q=vo a (a6.cI bC q a b7):=by simp only[jr];rw[if_pos T]
  have t:iO (some ⟨a,b7⟩)=c4 a b7:=rfl;rw[s];unfold ll;rw[t,if_neg V.ne];have p: ∀E∈a6.bg a (a6.cI bC q a b7),bL e E:=λE u=>by
   rw[n]at u;exact d.ok E (a7M.1 u).1
  have z:(a6.bg a (a6.cI bC q a b7)).length<=1000:=by grind
  have P:=d.wf;clear w V m s t l;generalize hX e q ((c4 a b7).size.toNat+1) H (c4 a b7)=E at*;generalize a6.cI bC q a b7=b at*;obtain⟨K,M⟩:=E;obtain⟨v,F,k⟩:=B;simp only at v F k;subst v;simp only;clear S T d h A n
  match a,b7,b,r,x,o,p,z,k,P with
  |0,b7,b,r,x,o,p,z,k,P=>
   show pK H (if a6.len b=0 then none else some ⟨0,b⟩) _;have W: ¬((fo 0 b).leaf=false/\(fo 0 b).kids.length=1):=λh=>absurd h.1 (show¬true=false by decide);by_cases c:a6.len b=0
   .rw[if_pos c,if_pos (⟨rfl,c⟩)];exact⟨rfl,F,λ_=>trivial⟩
   .have f: ¬((fo 0 b).leaf=true/\(fo 0 b).rows.length=0):=λh=>c h.2;rw[if_neg c,if_neg f,if_neg W,zJ];have g:=(nq C D 0 b ⟨⟨a9p,o,trivial,λh=>by omega⟩,p,a9p⟩).1;rw[qO g.ow];exact⟨rfl,F.trans (lo _ _),λc=>qN c⟩
  |a+1,b7,b,r,x,o,p,z,k,P=>
   have N:=P.2.2.2 a9p;have f: ¬((fo (a+1) b).leaf=true/\(fo (a+1) b).rows.length=0):=λh=>absurd h.1 (show¬false=true by decide);rw[if_neg f];obtain⟨y,rfl⟩:=a6.gl b;rw[a6.dE]at x o
   match y,x,o,r,p,z,k with
   | [],x,_,_,_,_,_=>simp at x;omega
   | [i],_,_,r,p,z,k=>rw[if_pos (⟨rfl,rfl⟩)];exact⟨rfl,F,λc=>k c i (by simp[a6.fl])⟩
   |G::L::y,_,o,r,p,z,k=>
    have W: ¬((fo (a+1) (a6.node (G::L::y))).leaf=false/\(fo (a+1) (a6.node (G::L::y))).kids.length=1):=λh=>by
     have:=h.2;rw[show(fo (a+1) (a6.node (G::L::y))).kids=(G::L::y).map (c4 a)from rfl]at this;simp at this
    rw[if_neg W,zJ];have g:=(nq C D (a+1) (a6.node (G::L::y)) ⟨⟨by rw[a6.dE];simp,by rw[a6.dE];exact o,r,λ_=>by rw[a6.dE];simp⟩,p,a9p⟩).1;rw[qO g.ow];exact⟨rfl,F.trans (lo _ _),λc=>⟨qN c,λi I=>(k ((lo _ _).zero c) i I).mono (lo _ _)⟩⟩
theorem a2A (P:1<=e) (S:e<=8) (T:bL e q) (F:iI e b7):iI e (jr b7 q)/\(eF (jr b7 q)).length<=(eF b7).length:=by
 match b7 with
 |none=>exact⟨trivial,a5s _⟩
 |some ⟨c,b7⟩=>
  have d:GT e c b7:=F;simp only[jr];by_cases G:q∈a6.bg c b7
  .rw[if_pos G];obtain⟨b,h,o,k⟩:=a6.ps (gp P S) T c b7 d.wf d.dM d.ok;have i:=a8c (λa=>decide (a≠q)) (a6.bg c b7);have y:=d.dM.filter λa=>decide (a≠q);have z: ∀C∈(a6.bg c b7).filter (λa=>decide (a≠q)),bL e C:=λC V=>d.ok C (a7M.1 V).1;have j:=d.dB;have p:=d.wf;show iI e _/\ _<=(a6.bg c b7).length;generalize (a6.bg c b7).filter (λa=>decide (a≠q))=W at*;generalize a6.cI bC q c b7=a at*;generalize (a6.bg c b7).length=r at*;clear G F d
   match c,a,b7,b,h,o,k,p with
   |0,a,b7,b,h,o,k,p=>
    show iI e (if a6.len a=0 then none else some ⟨0,a⟩)/\(eF (if a6.len a=0 then none else some ⟨0,a⟩)).length<=r;by_cases L:a6.len a=0
    .rw[if_pos L];exact⟨trivial,by simp[eF]⟩
    .rw[if_neg L];refine⟨⟨⟨a9p,k,trivial,λl=>by omega⟩,by rw[b];exact y,by rw[b];exact z,by rw[b];omega⟩,?_⟩;show(a6.bg 0 a).length<=r;rw[b];omega
   |c+1,a,b7,b,h,o,k,p=>
    have m:=p.2.2.2 a9p;obtain⟨D,rfl⟩:=a6.gl a;rw[a6.dE]at o k
    match D,o,k,h,b with
    | [],o,_,_,_=>simp at o;omega
    | [E],_,_,h,b=>
     have x:a6.bg c E=W:=by rw[<-b,a6.fX];simp
     refine⟨⟨a6.jM.of (h E (by simp[a6.fl])),by rw[x];exact y,by rw[x];exact z,by rw[x];omega⟩,?_⟩;show(a6.bg c E).length<=r;rw[x];omega
    |f::g::D,_,k,h,b=>refine⟨⟨⟨by rw[a6.dE];simp,by rw[a6.dE];exact k,h,λ_=>by rw[a6.dE];simp⟩,by rw[b];exact y,by rw[b];exact z,by rw[b];omega⟩,?_⟩;show(a6.bg (c+1) (a6.node (f::g::D))).length<=r;rw[b];omega
  simp_all
def a2B (q:1<=e) (s:e<=8) (b:List Int) (S:Own) (t:bL e b) (a:eE) (o:R) (p:U) (C:fK p a o) (H:iI e a):
  AC Tryz.prog 53 [o,.J (ad b) S] p λT u=>p.sub u/\ ∃v h,T= .aI [v,.v (.bool h)]/\fK u (jr a b) v:=by
 have D: ∀o h:R,aX false 1 [o,h]=o:=λ_ _=>rfl;have E: ∀o h:R,aX false 1 ([o,h].drop 1)=h:=λ_ _=>rfl;refine bd hm KU a9q ?_
 match a with
 |none=>obtain rfl:=C;refine bT ?_;refine ag (Zf p) ?_;rintro _ p ⟨rfl,rfl⟩;refine bT ?_;refine ag (xY [] [] .nil S b p trivial a9q a9q) ?_;rintro _ _ ⟨rfl,rfl⟩;have I:decide (b∈([]))=false:=a9q;refine aj @I ?_;exact⟨_,U.a1,U.a1,_,_,rfl,rfl⟩
 |some ⟨c,a⟩=>
  obtain⟨h,k3,k4,rfl,k5⟩:=bw.ptr C;have r:GT e c a:=H;have k6:=r.dB;refine bT ?_;refine ag (xX c a (.ptr h 0) p C a9p) ?_;rintro _ l ⟨V,K,M,rfl,N⟩;refine bT ?_;refine ag (xY _ K M S b l N a9p λT O=>by have:=(r.ok T O).len;omega) ?_;rintro _ l ⟨rfl,rfl⟩;by_cases W:b∈a6.bg c a
  .refine aj @W ?_;refine ag (a2s q s b S t c a (.ptr h 0) l (bw.mono V C) r) ?_;rintro T m ⟨Q,z⟩;have X:jr (some ⟨c,a⟩) b=vo c (a6.cI bC b c a):=by simp only[jr];rw[if_pos W]
   rw[X];obtain⟨_,k7,k8,F⟩:=a6.ps (gp q s) t c a r.wf r.dM r.ok;have k9:=r.wf;have f:=U.aq V Q;generalize a6.cI bC b c a=x at*;cases c with
   |zero=>
    obtain⟨Y,g,w,Z,rfl,k,d⟩:=id z;have G:=d.len;have l0:g.length<=4:=by rw[G];exact F
    have L:(([]:List R).length:Int)=0:=rfl;have y: ¬((0:Int)=1):=a9p;refine aj (bm (U.ae k) @D @E @L @y) ?_;by_cases A:(g.length:Int)=0
    .have n:(0)+(g.length:Int)=0:=a9p;refine aj (c6 (U.ae k) @D @E @L @y @A @n) ?_;refine⟨_,U.a1,f,_,_,rfl,?_⟩;show fK m (if a6.len x=0 then none else some ⟨0,x⟩) _;rw[if_pos (by show(a6.rows x).length=0;omega)];rfl
    .have n: ¬((0)+(g.length:Int)=0):=a9p;refine aj (c6 (U.ae k) @D @E @L @y @A @n) ?_;refine⟨_,U.a1,f,_,_,rfl,?_⟩;show fK m (if a6.len x=0 then none else some ⟨0,x⟩) _;rw[if_neg (by show¬(a6.rows x).length=0;omega)];exact z
   |succ c=>
    obtain⟨B,rfl⟩:=a6.gl x;obtain⟨Y,i,w,Z,rfl,k,d,j,_⟩:=id z;rw[a6.fl]at d j;have G:=d.len;rw[a6.dE]at F
    match B,i,d,j,G,k,z,F with
    | [],_,_,j,_,_,_,_=>exact absurd rfl j
    | [j9],[l1],d,_,_,k,_,_=>
     have l2:=d.1.cells;obtain⟨P,l3,l4,rfl,_⟩:=bw.ptr d.1;have k0:cL 1 (.J [.ptr P 0] w) (.v (.int .i64 0))=some (.bV [.ptr P 0]):=by rw[hG a9p];rfl
     have k1:dq false 1 m (.bV [.ptr P 0])=some (.ptr P 0):=rfl;have y:(([R.ptr P 0]).length)=1:=rfl;refine aj (bs (U.ae k) @D @E @y @k0 @k1) ?_;refine⟨_,U.a1,f,_,_,rfl,?_⟩;exact d.1
    |j9::c2::B,i,d,_,G,k,z,F=>simp only[a4S]at G F;have y: ¬((i.length:Int)=1):=a9p;have L:(([]:List R).length)=0:=rfl;have k2: ¬((i.length:Int)+0=0):=a9p;refine aj (bs (U.ae k) @D @E @L @y @k2) ?_;refine⟨_,U.a1,f,_,_,rfl,?_⟩;exact z
  .refine aj @W ?_;refine⟨_,U.a1,V,_,_,rfl,?_⟩;simp only[jr,if_neg W];exact bw.mono V C
structure aW where
 name:List UInt8
 aD:List (List UInt8)
 rows:List (List Int)
 bM:aC
 cr:eE
instance:Inhabited aW:=⟨⟨[],[],[],.nil,none⟩⟩
def aW.bx (a:aW):aL:=⟨a.name,a.aD,bo a.bM,iO a.cr⟩
def bX (a:List aW) (b:List UInt8):Nat:=a.findIdx λc=>decide (c.name=b)
def js (a:List aW) (b:List UInt8):Nat:=(a.takeWhile λc=> !c5 b c.name).length
def bP (a:List Int):Int:=a.getD 0 0
def hc (a:List Int) (c:List (List Int)):List (List Int):=c.takeWhile (λb=> !decide (bP a<bP b))++a::c.dropWhile (λb=> !decide (bP a<bP b))
def re (a:List (List Int)):List (List Int):=a.foldl (λb c=>hc c b) []
def aW.put (a:aW) (b:List Int):aW:=⟨a.name,a.aD,re (a.rows++ [b]),(cY (a.aD.length+1) b a.bM 0).1,kE a.cr b⟩
def aW.del (a:aW) (b:List Int):aW:=⟨a.name,a.aD,a.rows.filter (λc=>decide (c≠b)),(lu (a.aD.length+1) b a.bM).1,jr a.cr b⟩
def eL (a:List aW) (b:cy):Int×List aW:=
 if eo b=false then(1,a)
 else if b.kind=1 then(if bX a b.table<a.length then(4,a)else if 7<a.length then(10,a)else(0,a.take (js a b.table)++⟨b.table,b.aD,[],.nil,none⟩::a.drop (js a b.table)))
 else if a.length<=bX a b.table then(3,a)
 else if b.kind=2 then(0,a.eraseIdx (bX a b.table))
 else if b.row.length≠(a.getD (bX a b.table) default).aD.length+1 then(6,a)
 else if b.kind=4 then(if b.row∈(a.getD (bX a b.table) default).rows then(0,a.set (bX a b.table) ((a.getD (bX a b.table) default).del b.row))else(9,a))
 else if(a.getD (bX a b.table) default).rows.any (λc=>decide (bP c=bP b.row))=true then(8,a)
 else(0,a.set (bX a b.table) ((a.getD (bX a b.table) default).put b.row))
structure eM (n:Nat) (t:aW):Prop where
 right:eo ⟨1,t.name,t.aD,[]⟩=true
 dz:ly (t.aD.length+1) n t.bM
 fU:t.bM.all.Perm t.rows
 go:iI (t.aD.length+1) t.cr
 nI:(eF t.cr).Perm t.rows
 dM:t.rows.Pairwise (λa b=>bP a<bP b)
 dB:t.rows.length<=n
variable{j7:aW}
theorem eM.c (a:eM e j7):1<=j7.aD.length/\j7.aD.length<=7:=by have b:=a.right;simp_all [eo,mi]
def eM.row (a:eM e j7) (b:q∈j7.rows):bL (j7.aD.length+1) q:=a.dz.ff q (aC.gz (a.fU.mem_iff.2 b))
def eM.le (a:eM e j7) (b:e<=i):eM i j7:=⟨a.right,⟨a.dz.ff,a.dz.va,by have:=a.dz.cm;omega⟩,a.fU,a.go,a.nI,a.dM,by have:=a.dB;omega⟩
structure dj (n:Nat) (cJ:List aW):Prop where
 ok: ∀t∈cJ,eM n t
 dM:cJ.Pairwise (λa b=>c5 a.name b.name=true)
 dB:cJ.length<=8
theorem dj.nil {n:Nat}:dj n []:=⟨λb a=>(by cases a),.nil,a9q⟩
def zK (b:1<=e) (c:e<=8) (a:iI e b7):(b7=none/\iO b7=ay)\/(b7≠none/\jf e (eF b7).length (iO b7)):=by
 match b7,a with
 |none,_=>exact .inl ⟨rfl,rfl⟩
 |some ⟨d,b7⟩,a=>exact .inr ⟨a9q,uz b c (GT.jS a)⟩
theorem eM.bx {d:Nat}{h:aW} (a:eM d h) (x:d<=1000):fx h.bx=true:=by
 have y:=a.c;have c:=fe a9p a9p a.dz.ff (by have:=a.dz.cm;omega);have z:=a.dz.cm;have C:=a.fU.length_eq;have k:=a.nI.length_eq;have D:=a.dB;have o:=c.live;unfold fx aW.bx
 dsimp only
 simp only[a4Q,a6w,decide_eq_true_eq];rcases zK a9p a9p a.go with ⟨p,b⟩|⟨p,b⟩
 .have r:(ay).live=0:=rfl;rw[p]at k;refine⟨a.right,c.ok a9p,?_,?_,by rw[c.key];rfl,.inl b⟩
  .rw[b];unfold fv;rfl
  .rw[b,o,r];simp[eF]at k;omega
 .refine⟨a.right,c.ok a9p,b.ok a9p,?_,by rw[c.key];rfl,.inr ⟨b.key.len,?_⟩⟩
  .rw[o,b.live];omega
  .rw[b.size,b.live]
variable{X:List aW}
def dj.cat (a:dj e X) (b:e<=1000):cj (X.map aW.bx)=true:=by
 refine nH.2 ⟨λk c=> ?_,?_,by rw[a4Y];exact a.dB⟩
 .obtain⟨d,h,rfl⟩:=a5h.1 c;exact(a.ok d h).bx b
 .rw[a7j];exact a.dM
theorem zL: ∀ {a:List aL}{nm:List UInt8},a.Pairwise (λh k=>c5 h.name k.name=true)->(a.findIdx λb=>decide (b.name=nm))<a.length->cZ a nm=a.findIdx λb=>decide (b.name=nm)
 | [],nm,_,c=>by rfl
 |b::a,nm,o,c=>by
  obtain⟨x,p⟩:=a5w.1 o;rw[List.findIdx_cons]at c|-;unfold cZ;rw[a6g];by_cases d:b.name=nm
  .rw[decide_eq_true d];simp[d,vc]
  .rw[decide_eq_false d]at c|-;simp only[cond_false,a4S]at c|-;have ih:=zL (nm:=nm) p a9p;have r:c5 b.name nm=true:=by grind
   rw[if_pos r,a4S];unfold cZ at ih;rw[ih]
variable{w:List UInt8}
theorem vp:((X.map aW.bx).findIdx λa=>decide (a.name=w))=bX X w:=by rw[List.findIdx_map];rfl
theorem ta (a:bX X w<X.length):(X.getD (bX X w) default).name=w:=by have:=List.findIdx_getElem (w:=a);rw[a5F,a4M a];exact of_decide_eq_true this
theorem vq (a:bX X w<X.length):X.getD (bX X w) default∈X:=by simp_all
def Gn (b:X.length<=bX X w): ∀a∈X,a.name≠w:=λa c d=>by
 have:=List.findIdx_lt_length_of_exists (p:=λa:aW=>decide (a.name=w)) ⟨a,c,decide_eq_true d⟩;have h:X.length<=X.findIdx λa=>decide (a.name=w):=b;omega
theorem zM (c:dj e X):gA (X.map aW.bx) w=decide (bX X w<X.length):=by
 have d:(X.map aW.bx).Pairwise (λh k=>c5 h.name k.name=true):=by rw[a7j];exact c.dM
 by_cases a:bX X w<X.length
 .have b:=zL d (by rw[vp,a4Y];exact a);rw[vp]at b;unfold gA;rw[b,decide_eq_true a,a4Y,decide_eq_true a,a6k];refine decide_eq_true ?_;have:=ta a;rw[a5F,a4M (by rw[a4Y];exact a),a6H,a8E];rw[a5F,a4M a,a6H]at this;exact this
 .rw[decide_eq_false a];unfold gA;rw[a8b];by_cases c2:cZ (X.map aW.bx) w<(X.map aW.bx).length
  .right;refine decide_eq_false λb=> ?_;rw[a5F,a4M c2,a6H,a8E]at b;exact Gn a9p _ (a5p (by rw[a4Y]at c2;exact c2)) b
  .left;simp_all
theorem Gp (a:dj e X) (d:bX X w<X.length):cZ (X.map aW.bx) w=bX X w:=by
 have h:(X.map aW.bx).Pairwise (λb c=>c5 b.name c.name=true):=by rw[a7j];exact a.dM
 grind[vp,zL,List.length_map]
theorem pL:(X.map aW.bx).find? (λa=>decide (a.name=w))=(X[bX X w]?).map aW.bx:=by rw[List.find?_eq_getElem?_findIdx,vp,a5n]
theorem a2C {a:List UInt8} (b:w≠a):(!c5 a w)=c5 w a:=by grind[c5,absurd,FI,vd,vc]
theorem a2D (a:X.length<=bX X w):cZ (X.map aW.bx) w=js X w:=by
 have b:=Gn a;clear a;unfold cZ js
 induction X with
 |nil=>rfl
 |cons c X ih=>have d:=a2C (b c a9q);have ih:=ih λh k=>b h (by simp[k]);rw[a5k,a6g,a6g,d];show(if c5 c.name w=true then _ else _:List aL).length= _;grind
def ig (c:Nat) (d h:U):Prop:= ∀b a,d b=some (.cells a)->a.length≠c->h b=some (.cells a)
theorem ig.of {s:U} (a:iu s f):ig e s f:=λb c d _=>a b c d
theorem ig.set {c a:Nat}{b:U}{d:List R}{h:br} (p:b a=some (.cells d)) (r:d.length=c):ig c b (b.set a h):=λk x o y=>by
 have:k≠a:=by grind
 rw[U.ao _ _ this];exact o
def dN.ij {n:Nat}{c d:U} (a:n≠4) (b:ig n c d): ∀ {h:aC}{k:R},dN c h k->dN d h k
 | .nil,_,o=>o
 | .node _ _ _ _,_,⟨p,r,x,y,h1,z,C,D⟩=>⟨p,r,x,y,h1,b _ _ z (by simpa using a.symm),C.ij a b,D.ij a b⟩
def fK.Gq (b:zG f t) (a:fK f b7 n):fK t b7 n:=by
 match b7 with
 |none=>exact a
 |some ⟨_,_⟩=>exact bw.vm b a
def fK.ij {n:Nat} (a:n≠2) (b:ig n f t) (c:fK f b7 b3):fK t b7 b3:=c.Gq λh k o p r d=>b _ _ d (by simpa using a.symm)
variable{Y:br}
theorem pM (a:bh f t i g M) (d:f e=none) (b:t e=some (.cells B)):bh f (t.set e Y) i g M:=by
 refine⟨U.af a.1 d,?_⟩;have c:=a.2;cases M with
 |buf h k=>
  have o:h≠e:=by rintro rfl;rw[c.2]at b;cases b
  grind[U.ao]
 | _=>exact c
theorem fK.cells {d:U}{b:eE}{a:R} (c:fK d b a):a.cells= [a]:=by
 match b with
 |none=>obtain rfl:a= .v (.pointer none):=c;rfl
 |some ⟨_,_⟩=>obtain⟨h,k,o,rfl,_⟩:=bw.ptr c;rfl
def hd (b:U) (a:aW) (o:R):Prop:= ∃c p d r h k,o= .ptr c 0/\b c=some (.cells [bb a.name,.J (bE a.aD) p,.J d r,h,k])/\aA isRow a.rows d/\dN b a.bM h/\fK b a.cr k
def hd.ij {b c:U} (a:ig 1 b c) {d:aW}{h:R} (k:hd b d h):hd c d h:=by obtain⟨o,p,r,x,y,z,C,D,E,F,G⟩:=k;exact⟨o,p,r,x,y,z,C,a _ _ D a9q,E,F.ij a9t a,G.ij a9t a⟩
def hd.sub (a:f.sub t) (b:hd f j7 n):hd t j7 n:=b.ij (ig.of (U.qt a))
def hf (a:U) (c:Nat) (d:List aW):Prop:= ∃b h,a c=some (.cells [.J b h])/\aA (hd a) d b
def hf.sub {b c:U} (d:b.sub c) {h:Nat}{k:List aW} (a:hf b h k):hf c h k:=by obtain⟨o,p,r,x⟩:=a;exact⟨o,p,d _ _ r,x.mono λy z a=>a.sub d⟩
def Gr (a:aA (hd f) X g):aR 1 g:=λk c=>by
 obtain⟨d,h,rfl⟩:=a5y c;have o:=a.len;obtain⟨p,b,r,_,_,_,_,_,rfl,_⟩:=a.get (a4M (show d<X.length by omega));rw[a4M h]at b;rw[a4L b];rfl
theorem Gs (b:e<X.length) (c: ∀a<e,(X.getD a default).name≠w) (d:(X.getD e default).name=w):bX X w=e:=by grind[bX,List.findIdx_eq,List.getElem?_eq_getElem,decide_eq_true,decide_eq_false]
theorem a2E (b: ∀a<X.length,(X.getD a default).name≠w):X.length<=bX X w:=by grind[Nat.lt_or_ge,bX,absurd,ta]
def pN (a:List aW) (b:List UInt8):Int:=if bX a b<a.length then(bX a b:Int)else -1
theorem a2F (h:U) (k:Nat) (b:List aW) (o:hf h k b) (d:List UInt8) (P:b.length<=1000):
  AC Tryz.prog 13 [.ptr k 0,bb d] h λz C=>C=h/\z= .v (.int .i64 (pN b d)):=by
 obtain⟨S,T,D,p⟩:=o;have V:=p.len;have W:=U.ae D;refine aM hm JX ?_;refine gE [0,1] (λa:Nat=> [(5,.v (.int .i64 a))]) (λa=>a<=b.length/\ ∀c<a,(b.getD c default).name≠d) (λa=>b.length - a) 0 ⟨a5v _,λc o=>by omega⟩ aS ?_;rintro a ⟨e,r⟩ f;refine aa ?_;refine aG (λE=> ?_) λE=> ?_
 .have x:a<b.length:=a9p;have F:b[a]? =some (b.getD a default):=by simp_all
  obtain⟨_,g,i,j,l,m,n,q,rfl,G,_,_,_⟩:=p.get F;have s:=U.ae G;have t:=(ve (b.getD a default).name d).1;refine aa ?_;refine aG (λc2=> ?_) λc2=> ?_
  .have y:=Gs x r c2;unfold pN;rw[y,if_pos x]
  .exact⟨a+1,⟨a9p,λc L=>by grind⟩,rfl,a9p⟩
 .have y:=a2E λc L=>r c a9p;unfold pN;simp_all
def zN (c d:Own):Prop:= ∀a h b k,c= .buf a h->d= .buf b k->a≠b
variable{s a7:R -> U -> Prop}
def Gt {F:cz s} (r:bh t f e g e6) (x:bh t f e e0 M) (y:zN e6 M) (G:aR e g) (L:aR e B) (P:(g.length+B.length)*i<=140737488355328) (S:g.length+B.length<=9223372036854775807)
  (T: ∀c b,bh t b e (g++B) c->bh t b e e0 M->zN c M->iu f b->s (.J (g++B) c) b):lU e i f (.J g e6) (.J B h4) (bO s F):=by
 obtain⟨j,V,l,z,k⟩:=r.o4;refine dY V G L P S λc b d=>T c b (d.base z) ⟨U.aq z d.sub,?_⟩ ?_ λW m o=>d.sub _ _ ?_
 .have a:=x.2;cases M with
  |buf h C=>refine⟨a.1,d.sub _ _ ?_⟩;rw[k h λD E p=>y _ _ _ _ p rfl];exact a.2
  | _=>exact a
 .rintro h C D E rfl rfl rfl;have a:=d.2.1;rw[k h λD E p=>y _ _ _ _ p rfl,x.2.2]at a;cases a
 .rw[k W (λh C a=>by subst a;rintro rfl;rw[r.2.2]at o;cases o)];exact o
theorem Gu {a:Int->Int->Int} (b:e<q.length) (c:e<b6.length):(List.zipWith a q b6).take (e+1)=(List.zipWith a q b6).take e++ [a (q.getD e 0) (b6.getD e 0)]:=by rw[a5X (by rw[a6C];omega),List.getElem_zipWith];simp_all
theorem Gv (C D:List Int×List Int) (j l m n:Own) (T:U) (k9:C.1.length<=1000000) (l0:D.1.length<=1000000):
  AC Tryz.prog 179 [er C.1 C.2 j l,er D.1 D.2 m n] T λl1 G=>T.sub G/\ ∃l2 r,l1=er (cQ C D).1 (cQ C D).2 l2 r:=by
 obtain⟨b,h⟩:=C;obtain⟨c,d⟩:=D
 dsimp only at*
 have n9:=bH (q:=b);have a00:=bH (q:=c);have X:= @dJ b;have Y:= @dJ h;have Z:= @dJ c;have j9:= @dJ d;have p:(if cP b h b.length=true then
  (if cP c d c.length=true then(if b.length=c.length then(List.zipWith min b c,List.zipWith max h d)else([],[]))else(b,h))
  else if cP c d c.length=true then(c,d)else([],[]))=cQ (b,h) (c,d):=rfl
 generalize cQ (b,h) (c,d)=a01 at*;refine aM hm OF ?_;refine bp λq a02=> ?_;refine cV λs a03 a04 k0=> ?_;refine hl λt a05 a06 V a07 W=> ?_;refine bc (FH b h _ _ _ _ k9) ?_;refine bc (FH c d _ _ _ _ l0) ?_;cases pE:cP b h b.length with
 |false=>
  cases ia:cP c d c.length with
  |false=>rw[pE,ia,if_neg a9q,if_neg a9q]at p;refine aa ?_;exact⟨.nil,.nil,by rw[<-p];rfl⟩
  |true=>rw[pE,ia,if_neg a9q,if_pos rfl]at p;refine aa ?_;exact⟨m,n,by rw[<-p]⟩
 |true=>
  cases ia:cP c d c.length with
  |false=>rw[pE,ia,if_pos rfl,if_neg a9q]at p;refine aa ?_;exact⟨j,l,by rw[<-p]⟩
  |true=>
   rw[pE,ia,if_pos rfl,if_pos rfl]at p;by_cases cl:b.length=c.length
   .rw[if_pos cl]at p;have a08:=lh pE;have a09:=lh ia;refine aa ?_;refine aN λr k=> ?_;generalize L:((T.set q _).set s _).set t _=E at*;have l3:T.sub E:=by subst L;exact aS
    have u:E q=some (.cells [.J (ad b) j,.J (ad h) l]):=by subst L;exact aS
    have v:E s=some (.cells [.J (ad c) m,.J (ad d) n]):=by subst L;exact aS
    have aK:E t=some (.cells [.J [] .nil,.J [] .nil]):=by subst L;exact aS
    have a10:t≠r:=by rintro rfl;rw[aK]at k;cases k
    have a11:q≠r:=by rintro rfl;rw[u]at k;cases k
    have a13:s≠r:=by rintro rfl;rw[v]at k;cases k
    clear L pE ia;have k1:=λa P w=>Gu (a:=min) (q:=b) (b6:=c) (e:=a) P w;have k2:=λa P w=>Gu (a:=max) (q:=h) (b6:=d) (e:=a) P w;have a14:(List.zipWith min b c).length=b.length:=by rw[a6C];omega
    have a15:(List.zipWith max h d).length=b.length:=by rw[a6C];omega
    generalize List.zipWith min b c=y at*;generalize List.zipWith max h d=z at*;refine aa ?_;refine cn [2,3,4,7] (λa:Nat=> [(8,.v (.int .i64 (a)))]) (λa G=>a<=b.length/\ ∃S x,G r=some (.cells [.J (ad (y.take a)) S,.J (ad (z.take a)) x])/\bh E G 1 (ad (y.take a)) S/\bh E G 1 (ad (z.take a)) x/\zN S x) (λa=>b.length - a) 0
     ⟨⟨a5v _,.nil,.nil,U.ai _ _ _,bh.nil (U.af U.a1 k),bh.nil (U.af U.a1 k),λ_ _ _ _ P=>by cases P⟩,aS⟩ ?_
    rintro a a16 ⟨a18,S,x,A,o,F,B⟩ a19;have qo:=U.ae (o.sub _ _ u);have mV:=U.ae (o.sub _ _ v);have l4:=U.ae A;have a27:(ad (y.take a)).length=a:=by rw[bH,a4P];omega
    have a29:(ad (z.take a)).length=a:=by rw[bH,a4P];omega
    by_cases a30:a<b.length
    .have a34:=X a9p;have a36:=Y (b:=a) a9p;have a38:=Z (b:=a) a9p;have a42:=j9 (b:=a) a9p;have k3:=k1 a a9p a9p;have k4:=k2 a a9p a9p;clear X Y Z j9 k1 k2;generalize b.getD a 0=e at*;generalize c.getD a 0=f at*;generalize h.getD a 0=a3 at*;generalize d.getD a 0=a4 at*;have k5:(a)<(c.length:Int):=a9p;have zO:aR 1 (ad (y.take a)):=λk0 H=>by obtain⟨l5,_,rfl⟩:=a5h.1 H;rfl
     have zP:aR 1 (ad (z.take a)):=λk0 H=>by obtain⟨l5,_,rfl⟩:=a5h.1 H;rfl
     have k6:ad (y.take (a+1))=ad (y.take a)++ [.v (.int .i64 (min e f))]:=by rw[k3];simp[ad]
     have k7:ad (z.take (a+1))=ad (z.take a)++ [.v (.int .i64 (max a3 a4))]:=by rw[k4];simp[ad]
     clear k3 k4;generalize ad (y.take a)=I at*;generalize ad (z.take a)=K at*;refine aa ?_;refine dc U.a1 (by simp[aR,R.cells]) λa43 a47 M=> ?_;refine aa ?_;refine Gt (o.mono M.sub) (F.mono M.sub) B zO (by simp[aR,R.cells]) a9r a9r λg k8 o F B l6=> ?_;have i:=l6 _ _ (M.sub _ _ A);have aE:=U.aJ i;have qo:=U.ae (o.sub _ _ u);have mV:=U.ae (o.sub _ _ v);refine aa ?_;have l7:=pM (Y:= .cells [.J (I++ [.v (.int .i64 (min e f))]) g,.J K x]) o k i;have l8:=pM (Y:= .cells [.J (I++ [.v (.int .i64 (min e f))]) g,.J K x]) F k i;have l9:=U.ai k8 r (.cells [.J (I++ [.v (.int .i64 (min e f))]) g,.J K x]);clear i aE qo mV o F A l4;generalize k8.set r _=a48 at*;refine dc U.a1 (by simp[aR,R.cells]) λa52 a56 N=> ?_;refine aa ?_;refine Gt (l8.mono N.sub) (l7.mono N.sub) (λn0 k5 n1 n2 V W O=>B _ _ _ _ W V O.symm) zP (by simp[aR,R.cells]) a9r a9r λn3 a57 F o n4 n5=> ?_;have Q:=n5 _ _ (N.sub _ _ l9);have aE:=U.aJ Q;refine aa ?_;refine⟨a+1,⟨a9p,g,n3,?_,?_,?_,λn0 k5 n1 n2 V W O=>n4 _ _ _ _ W V O.symm⟩,rfl,a9p⟩
     .rw[k6,k7]
     .rw[k6];exact pM o k Q
     .rw[k7];exact pM F k Q
    .obtain rfl:a=b.length:=a9p;have a61:=U.aJ (o.sub _ _ aK);refine aa ?_;refine iv ?_;exact⟨U.aq l3 o.sub,S,x,by grind⟩
   .rw[if_neg cl]at p;refine aa ?_;refine iv ?_;exact⟨.nil,.nil,by rw[<-p];rfl⟩
end Go.Proofs.YtlgnfcaolejgeaaGreat
