import Derived.Test.YtlgnfcaolejgeaaGreatMG
import Derived.Test.YtlgnfcaolejgeaaGreatMF
import Derived.Test.YtlgnfcaolejgeaaGreatME
import Derived.Test.YtlgnfcaolejgeaaGreatMD
set_option linter.all false
set_option maxRecDepth 100000
namespace Go.Proofs.YtlgnfcaolejgeaaGreat
open Go Go.bz
def c5:List UInt8->List UInt8->Bool
 | _,[]=>false
 | [],_:: _=>true
 |a::c,b::d=>if a=b then c5 c d else decide (a<b)
theorem a1G: ∀b a:List UInt8,Op.bytesLess b a=c5 b a:=by
 intro b
 induction b with
 |nil=>intro a;cases a<;>simp[Op.bytesLess,c5]
 |cons c b ih=>
  intro a;cases a with
  |nil=>rfl
  |cons d a=>simp only[Op.bytesLess,c5,ih];split<;>simp_all
theorem zr (a:List UInt8):c5 a a=false:=by induction a<;>simp_all [c5]
theorem FE: ∀b a:List UInt8,c5 b a=false->c5 a b=false->b=a:=by
 intro b
 induction b with
 |nil=>intro a;cases a<;>simp[c5]
 |cons c b ih=>
  intro a;cases a with
  |nil=>simp[c5]
  |cons d a=>simp only[c5];grind
theorem ve: ∀c a b:List UInt8,c5 c a=true->c5 a b=true->c5 c b=true:=by
 intro c
 induction c with
 |nil=>intro a b;cases a<;>cases b<;>simp[c5]
 |cons d c ih=>
  intro a b;cases a with
  |nil=>simp[c5]
  |cons h a=>
   cases b with
   |nil=>simp[c5]
   |cons k b=>simp only[c5];grind
theorem vf (a b:List UInt8):iW .lss (bb a) (bb b)=some (.v (.bool (c5 a b)))/\iW .geq (bb a) (bb b)=some (.v (.bool (!c5 a b)))/\
  iW .leq (bb a) (bb b)=some (.v (.bool (c5 a b||decide (a=b))))/\iW .gtr (bb a) (bb b)=some (.v (.bool (!(c5 a b||decide (a=b))))):=by
 grind[decide,bb,rV,bn,pX,toList_mk,a1G]
variable{g A e1:List R}{e7:aK}
def ep.at_ (C:ep e7 g): ∃D E,aX false 1 (g.drop 36)= .v (.int .i64 e7.bM.live)/\aX false 1 (g.drop 38)= .J (ad e7.bM.key) D/\aX false 1 (g.drop 73)= .v (.int .i64 e7.ct.live)/\aX false 1 (g.drop 74)= .v (.int .i64 e7.ct.size)/\aX false 1 (g.drop 75)= .J (ad e7.ct.key) E:=by
 obtain⟨⟨y,o,p,c,d,h,b,rfl⟩,⟨F,_⟩,⟨G,_⟩,_⟩:=C;have k:=aW (M:=o) (e6:=p) (h5:=c) F;have r:=aW (M:=d) (e6:=h) (h5:=b) G;have z: ∀a,a<=37->(bb e7.name:: .J (bE e7.aD) y::(ab e7.bM o p c++ab e7.ct d h b)).drop (a+2)=(ab e7.bM o p c).drop a++ab e7.ct d h b:=λa L=>by
  simp only[a6m];rw[a6j (by have:=k.len;omega)]
 have x: ∀a,(bb e7.name:: .J (bE e7.aD) y::(ab e7.bM o p c++ab e7.ct d h b)).drop (a+37+2)=(ab e7.ct d h b).drop a:=λa=>by
  simp only[a6m];rw[a6g,a6d (by rw[k.len];omega),k.len,a5a];congr 1
 refine⟨c,b,?_,?_,?_,?_,?_⟩
 .rw[z 34 a9k,k.d34];rfl
 .rw[z 36 a9k,k.d36];rfl
 .rw[x 34,r.d34];rfl
 .rw[x 35,r.d35];rfl
 .rw[x 36,r.d36];rfl
def fQ (a:aK):Bool:=ev ⟨1,a.name,a.aD,[]⟩&&(fv (a.aD.length+1) a.bM&&(fv (a.aD.length+1) a.ct&&(decide (a.bM.live=a.ct.live)&&(decide (a.bM.key.length=0)&&
 (decide (a.ct=aA)||(decide (a.ct.key.length=a.aD.length+1)&&decide (a.ct.size=a.ct.live)))))))
structure aK.Fit (t:aK):Prop where
 n:t.name.length<=1000000
 c:t.aD.length<=1000000
 cs: ∀c∈t.aD,c.length<=1000000
def tb (a:aK) (b:List R) (c:ep a b) (d:U):AC Tryz.prog 39 [.agg b] d λh k=>k=d/\h= .v (.int .i64 ((a.aD.length+1:Nat):Int)):=by obtain⟨o,p,r,x,y,z,C,D,E,F,G,L,P⟩:=c.all;have S:=hz (a:=a.aD);have T:=c.c;refine aM hm Kv ?_;refine bp λV W=> ?_;trivial
theorem rb (a:aK) (c:List R) (b:ep a c) (o:a.Fit) (d:U):AC Tryz.prog 147 [.agg c] d λp r=>r=d/\p= .v (.bool (fQ a)):=by
 obtain⟨W,e,f,x,y,z,C,D,E,F,g,i,j⟩:=b.all;obtain⟨l,m,n,q,s,t,u⟩:=b.at_;have v:=hz (a:=a.aD);have w:=bH (q:=a.bM.key);have A:=bH (q:=a.ct.key);obtain⟨G,L,P⟩:=o;have B: ∀h,fv h aA=true:=λh=>by rfl
 refine aM hm Nw ?_;refine bp λk H=> ?_;refine bh (tb a c b _) ?_;refine bh (EL ⟨⟨1,a.name,a.aD,[]⟩,x,.nil⟩ ⟨G,L,P,a9l⟩ _) ?_;have S:=xt a.bM y z C (a.aD.length+1) (d.set k (.cells c)) a9k b.k.1 b.k.2;have T:=xt a.ct D E F (a.aD.length+1) (d.set k (.cells c)) a9k b.z.1 b.z.2;refine aG (λV=> ?_) λV=> ?_
 .rw[fQ];exact aO
 refine bh S ?_
 repeat' first|refine aG (λ_=> ?_) λ_=> ?_|trivial
 all_goals try (rw[fQ];exact aO)
 .refine bh T ?_
  repeat' first|refine aG (λ_=> ?_) λ_=> ?_|trivial
  all_goals try (rw[fQ];exact aO)
  all_goals refine bh (nk _ _ _ _ _ b.z.1 b.z.2) ?_
  all_goals repeat' first|refine aG (λ_=> ?_) λ_=> ?_|trivial
  all_goals grind[fQ,aO]
def cy (a:List aK):Bool:=(List.range a.length).all (λb=>fQ (a.getD b default)&&(decide (b=0)||c5 (a.getD (b - 1) default).name (a.getD b default).name))&&decide (a.length<=8)
theorem nH (a:List aK) (E:List R) (e:Own) (y:az dx a E) (f: ∀d∈a,d.Fit) (s:a.length<=1000000) (k:U):AC Tryz.prog 102 [.J E e] k λg z=>z=k/\g= .v (.bool (cy a)):=by
 have t:=y.len;refine aM hm Md ?_;refine ch [0,5,6] (λb:Nat=> [(7,.v (.int .i64 b))]) (λb z=>k.sub z/\b<=a.length/\ ∀c<b,(fQ (a.getD c default)&&(decide (c=0)||c5 (a.getD (c - 1) default).name (a.getD c default).name))=true) (λb=>a.length - b) 0 ⟨⟨U.a1,a9k,λc C=>by omega⟩,aS⟩ ?_;rintro b F ⟨G,u,i⟩ v;refine aa ?_;refine aG (λj=> ?_) λj=> ?_
 .have L:a[b]? =some (a.getD b default):=by simp_all
  obtain⟨_,w,T,rfl,o⟩:=y.get L;have P:=f _ (a4O L);generalize l:a.getD b default=d at*;have A:=jG (n:= .agg T) o.all.1;obtain⟨B,H,I,K,M,N,O,Q,X,Y,Z,j9,k0⟩:=o.all;obtain⟨p,r⟩: ∃p,p=(fQ d&&(decide (b=0)||c5 (a.getD (b - 1) default).name d.name)):=⟨_,rfl⟩;have k1:p=false->cy a=false:=λC=>by
   grind[cy,sb]
  have k2:p=true-> ∃x,(x<=a.length/\ ∀c<x,(fQ (a.getD c default)&&(decide (c=0)||c5 (a.getD (c - 1) default).name (a.getD c default).name))=true)/\R.v (.int .i64 ((b)+1))= .v (.int .i64 (x))/\a.length - x<a.length - b:=λC=>
   ⟨b+1,⟨a9k,upto i (by rw[l,<-r];exact C)⟩,rfl,a9k⟩
  have k3: ∀h S,F h=none->k.sub (F.set h S):=λh S D=>U.ae G (U.bF G D);by_cases V:b=0
  .subst V;simp only[decide_true,Bool.true_or,a8X]at r;subst r;refine aa ?_;refine bp λh D=> ?_;refine bh (rb d T o P _) ?_
   repeat' first|refine aG (λ_=> ?_) λ_=> ?_|trivial
   simp_all
  .have m:a[b - 1]? =some (a.getD (b - 1) default):=by grind
   obtain⟨_,k4,n,rfl,W⟩:=y.get m;generalize a.getD (b - 1) default=q at*;have k5:=jG (n:= .agg n) W.all.1;obtain⟨k6,k7,k8,_⟩:=W.all;have k9:(b) - 1=((b - 1:Nat):Int):=a9k;have l0:=(vf q.name d.name).2.1;simp only[decide_eq_false V,a8Y]at r;refine aa ?_;refine bp λh D=> ?_;refine bh (rb d T o P _) ?_
   repeat' first|refine aG (λ_=> ?_) λ_=> ?_|trivial
   all_goals simp_all
 grind[cy,sc,aO]
def nI (a b:List UInt8):Int:=if c5 a b=true then -1 else if a=b then 0 else 1
def FF (b:List UInt8) (a:U):AC Tryz.prog 334 [bb b] a λc d=>d=a/\c= .v (.bool false):=by have k:=λh v=> @wX h v;refine aM hm Sa ?_;trivial
theorem a1H (a b:List UInt8) (c:U):AC Tryz.prog 297 [bb a,bb b] c λh k=>k=c/\h= .v (.int .i64 (nI a b)):=by
 obtain⟨p,r,x,y⟩:=vf a b;refine aM hm Ru ?_;refine bh (FF a c) ?_;refine bh (FF b c) ?_;refine aG (λd=> ?_) λd=> ?_
 .rw[nI,if_pos d]
 .refine aG (λo=> ?_) λo=> ?_;simp_all [nI];simp_all [nI]
def a1I (a:aK) (b:List R) (d:ep a b) (c:U):AC Tryz.prog 227 [.agg b] c λh k=>k=c/\h=bb a.name:=by obtain⟨o,p,r,_⟩:=d.all;refine aM hm PT ?_;refine bp λx y=> ?_;trivial
def FG (a:aK) (b:List R) (h:ep a b) (k:List UInt8) (c:U) (d:Nat) (o:c.read d=some [.bG 227 [] []]):AC Tryz.prog 296 [.agg b,bb k,.ptr d 0] c λp r=>r=c/\p= .v (.int .i64 (nI a.name k)):=by
 obtain⟨z,C,_⟩:=h.all;refine aM hm Rs ?_;refine aN λx y=> ?_;have D:d≠x:=by rintro rfl;simp[U.read,y]at o
 refine aa ?_;refine lZ (a1I a b h _) ?_;refine bh (a1H _ _ _) ?_;trivial
def Place (a:List aK) (d:List UInt8) (c:Nat):Prop:=c<=a.length/\(∀b<c,c5 (a.getD b default).name d=true)/\ ∀b<a.length,c<=b->c5 (a.getD b default).name d=false
variable{B:List UInt8}
theorem FH {a:List UInt8}:nI B a<0↔c5 B a=true:=by grind[nI]
theorem a1J {a:List UInt8}:nI B a=0↔B=a:=by
 unfold nI;split
 .rename_i b;simp;rintro rfl;rw[zr]at b;cases b
 .simp
theorem a1K (c:List aK) (y:List R) (V:Own) (d:List UInt8) (G:az dx c y) (u:c.length<=1000000) (W: ∀a b,a<b->b<c.length->c5 (c.getD a default).name (c.getD b default).name=true) (p:U) (r:Nat) (L:p.read r=some [.bG 227 [] []]):
  AC Tryz.prog 295 [.J y V,bb d,.bG 296 [] [.ptr r 0]] p λe f=>f=p/\ ∃a,Place c d a/\e= .aL [.v (.int .i64 (a:Int)),.v (.bool (decide (a<c.length)&&decide ((c.getD a default).name=d)))]:=by
 have v:=G.len;have el: ∀a,a<c.length-> ∃T,y[a]? =some (.agg T)/\ep (c.getD a default) T/\eA 76 (some (.agg T))=some (.bV T)/\T.length=76/\T.take 76=T:=λa z=>by
  obtain⟨_,g,T,rfl,k⟩:=G.get (i:=a) (x:=c.getD a default) (by simp_all);exact⟨T,g,k,jG k.all.1,k.all.1,k.all.2.1⟩
 have i: ∀a,a<c.length->c5 (c.getD a default).name d=true-> ∀b,b<a+1->c5 (c.getD b default).name d=true:=λa z o b P=>by
  rcases Nat.lt_or_eq_of_le (Nat.le_of_lt_succ P)with C|rfl
  .exact ve _ _ _ (W b a C z) o
  .exact o
 have j: ∀a,a<c.length->c5 (c.getD a default).name d=false-> ∀b,b<c.length->a<=b->c5 (c.getD b default).name d=false:=λa z o b P w=>by
  grind
 refine aM hm Rq ?_;refine gK [0,1,2,8] (λh:Nat×Nat=> [(9,.v (.int .i64 h.1)),(10,.v (.int .i64 h.2))]) (λh=>h.1<=h.2/\h.2<=c.length/\(∀b<h.1,c5 (c.getD b default).name d=true)/\ ∀b<c.length,h.2<=b->c5 (c.getD b default).name d=false) (λh=>h.2 - h.1) (0,c.length) ⟨a9l,a9l,λb o=>by simp at o,λb o x=>by simp at x;omega⟩ aS ?_;rintro⟨a,b⟩ ⟨C,x,D,E⟩ A
 dsimp only at C x D E|-
 have B:bn .shr (.int .u64 ((a)+(b))) (.int .u64 1)=some (.int .u64 (((a+b)/2:Nat))):=by rw[show(a)+(b)=((a+b:Nat):Int) by omega,rX _ _ _ a9k a9k];rfl
 by_cases H:(a:Int)<b
 .obtain⟨T,l,k,m,n,q⟩:=el ((a+b)/2) a9k;have s:=i ((a+b)/2) a9k;have t:=j ((a+b)/2) a9k;generalize I:(a+b)/2=S at*;refine aa ?_;refine lZ (FG _ T k d p r L) ?_;refine aG (λF=> ?_) λF=> ?_
  .exact⟨(S+1,b),⟨by simp only;omega,by simp only;omega,s (FH.1 F),E⟩,⟨rfl,rfl⟩,by simp only;omega⟩
  .exact⟨(a,S),⟨by simp only;omega,by simp only;omega,D,t (by simpa[FH] using F)⟩,⟨rfl,rfl⟩,by simp only;omega⟩
 .obtain rfl:a=b:=a9k;have K:Place c d a:=⟨x,D,E⟩;by_cases c2:(a:Int)<c.length
  .obtain⟨T,l,k,m,n,q⟩:=el a a9k;refine aa ?_;refine lZ (FG _ T k d p r L) ?_;grind[a1J]
  .refine aa ?_;grind
def a1L (b:List aK) (d:List R) (x:Own) (c:List UInt8) (y:az dx b d) (z:b.length<=1000000) (C: ∀a h,a<h->h<b.length->c5 (b.getD a default).name (b.getD h default).name=true) (k:U):
  AC Tryz.prog 148 [.J d x,bb c] k λo p=>p=k/\ ∃a,Place b c a/\o= .aL [.v (.int .i64 (a:Int)),.v (.bool (decide (a<b.length)&&decide ((b.getD a default).name=c)))]:=by
 refine aM hm Ny ?_;refine ai (a7:=λo p=>p=k/\ ∃a,Place b c a/\o= .aL [.v (.int .i64 (a)),.v (.bool (decide (a<b.length)&&decide ((b.getD a default).name=c)))]) ?_ ?_
 .refine aM hm PQ ?_;refine bp λD E=> ?_;refine ai (a1K b d x c y z C _ D (U.Bz)) ?_;rintro _ _ ⟨rfl,a,r,rfl⟩;refine aa ?_;exact⟨a,r,rfl⟩
 .rintro _ _ ⟨rfl,a,r,rfl⟩;refine aa ?_;exact⟨a,r,rfl⟩
abbrev eL:List R:=bb []:: .J [] .nil::(ab aA .nil .nil .nil++ab aA .nil .nil .nil)
def jl:([R.v (.string ⟨#[]⟩)]++ [R.J [] .nil]++List.replicate 32 (R.v (.int .u8 0))++ [R.J [] .nil,.J [] .nil]++ [R.v (.int .i64 0),.v (.int .i64 0)]++ [R.J [] .nil]++List.replicate 32 (R.v (.int .u8 0))++ [R.J [] .nil,.J [] .nil]++ [R.v (.int .i64 0),.v (.int .i64 0)]++ [R.J [] .nil])=eL:=by have:=cq;rfl
def gd:ep ⟨[],[],aA,aA⟩ eL:=⟨⟨.nil,_,_,_,_,_,_,rfl⟩,⟨bj,me⟩,⟨bj,me⟩,a9l⟩
theorem nJ (a:ep e7 g):g.length=76/\g.take 76=g/\putAt eL 0 g=g/\(eL).length=76:=by have b:=a.all.1;have c:=gd.all.1;grind[qi]
theorem FI {c:Type}{y:c}{d:c->Bool}: ∀ {b:List c}{h:Nat}{a:c},b[h]? =some a->d a=true->(∀o<h,d (b.getD o y)=false)->b.find? d=some a
 | [],h,a,k,_,_=>by simp at k
 |p::b,0,a,k,r,_=>by simp_all
 |p::b,h+1,a,k,r,x=>by
  have z:d p=false:=x 0 a9k;rw[List.find?_cons,z];exact FI (by trivial) r λo k=>x (o+1) a9k
variable{b0:Type}
theorem a1M {c:b0}{b:b0->Bool}{a:List b0} (k: ∀d<a.length,b (a.getD d c)=false):a.find? b=none:=by rw[List.find?_eq_none];intro o h;obtain⟨p,r,rfl⟩:=a5t h;simp_all
def Found (c:List aK) (d:List UInt8) (b:R):Prop:=match c.find? (λa=>decide (a.name=d))with
 |some a=> ∃T,ep a T/\b= .aL [.agg T,.v (.bool true)]
 |none=>b= .aL [.agg eL,.v (.bool false)]
theorem find_spec (b:List aK) (C:List R) (P:Own) (o:List UInt8) (D:az dx b C) (m:b.length<=1000000) (c:U):
  AC Tryz.prog 37 [.J C P,bb o] c λS p=>p=c/\Found b o S:=by
 have n:=D.len;have q:=λV=> @qp V o;have s:=jl;refine aM hm Kr ?_;refine bp λh W=> ?_;rw[jl];have r:c.sub (c.set h (.cells eL)):=U.ae U.a1 W;have E:(c.set h (.cells eL)) h=some (.cells eL):=U.ah _ _ _;generalize c.set h (.cells eL)=e at*;obtain⟨_,_,_,t⟩:=nJ gd;have u:=(nJ gd).2.2.1;have v:=gd.all.2.1;refine ch [1,4,8,9] (λa:Nat=> [(10,.v (.int .i64 a))]) (λa p=>e.sub p/\a<=b.length/\ ∀d<a,(b.getD d default).name≠o) (λa=>b.length - a) 0 ⟨⟨U.a1,a9k,λd w=>by omega⟩,aS⟩ ?_;rintro a A ⟨k,B,x⟩ H;have I:=U.aI (k _ _ E);refine aa ?_;refine aG (λf=> ?_) λf=> ?_
 .have F:b[a]? =some (b.getD a default):=by simp_all
  obtain⟨_,K,T,rfl,G⟩:=D.get F;generalize g:b.getD a default=M at*;obtain⟨i,N,O,_⟩:=nJ G;have Q:=G.all.2.2.1;have X:=jG (n:= .agg T) i;refine aa ?_;refine aN λj y=> ?_;have l:h≠j:=by rintro rfl;rw[k _ _ E]at y;cases y
  have Y:=a4Q l;refine aa ?_;refine aG (λz=> ?_) λz=> ?_
  .refine⟨U.ae (U.au r k) (U.bF (U.au r k) y),?_⟩;rw[Found,FI F (by simp[z]) λd L=>by simpa using x d L];simp_all
  .exact⟨a+1,⟨a9k,upto x (by rw[g];exact z)⟩,rfl,a9k⟩
 .refine⟨U.au r k,?_⟩;rw[Found,a1M λd L=>by simpa using x d a9k]
theorem dx.cells {b:aK}{a:R} (c:dx b a):a.cells.length=76:=by obtain⟨T,rfl,d⟩:=c;exact d.all.1
theorem vg (o:List aK) (a:List R) (c:Own) (b:U) (p:az dx o a) (F:o.length<=1000):
  AC Tryz.prog 45 [.J a c] b λr d=>ar b d 76 (flat a) r:=by
 have G:=p.len;refine mV λL=> ?_;have y:c= .nil->a= []:=λh=>by subst h;simp_all
 have x:=p.cells λ_ _=>dx.cells;have P:=dc x;refine bc hm KF a9l ?_;simp -dsimp -implicitDefEqProofs (disch:=first|omega|assumption|(simp only[bk,Nat.reduceAdd];try omega)) only[go_sem,simprocAttr,↓o8];refine o9 (λk=>by rw[y k]) (λk=> ?_) ?_
 .have z:a= []:=by trivial
  subst z;refine aE @a5C ?_;exact⟨b,U.a1,ar.nil U.a1⟩
 .refine aE @o0 ?_;have C:bN b 76 (.J a c)=some (a.length,flat a):=by have D:=a4Z.2 λh E=>decide_eq_true (x h E);simp only[bN,D,if_true]
  refine ff (ar.zero (U.a1)) a9k C a9k (by simp only[a4R];omega) (by simp only[a4R];omega) λr d k=> ?_;refine eB ?_;exact⟨d,U.a1,by trivial⟩
theorem a1N (t k:U) (h:List R) (f:R) (y:ar t k 76 h f) (G:Nat) (L:h.length=G*76) (a:Nat) (l9:a<=G) (n0:G<=1000) (o:List R) (u:o.length=76) (z:Nat) (v:t z=some (.cells o)):
  AC Tryz.prog 149 [f,.v (.int .i64 (a:Int)),.an z 1 1 76] k λk4 P=>ar t P 76 (h.take (a*76)++(o++h.drop (a*76))) k4:=by
 have S:=y.1 _ _ v;have g:((1:Nat):Int)=1:=rfl;have w: ∀P:U,P z=some (.cells o)->bN P 76 (.an z 1 1 76)=some (1,o):=λP y=>by
  simp_all [bN,U.af,a4I]
 by_cases c1:a=G
 .subst c1;obtain⟨e,E,wl⟩: ∃e,cg 76 f (some (.v (.int .i64 (a:Int)))) none none=some e/\fb f=some (.v (.int .i64 (a:Int))):=by
   rcases y.2 with ⟨i,rfl|rfl⟩|⟨c,b,d,r,rfl,j,C,l,m,k5,A,X⟩
   .rw[i]at L;obtain rfl:a=0:=by rw[a4R]at L;omega
    exact⟨_,Wc,rfl⟩
   .rw[i]at L;obtain rfl:a=0:=by rw[a4R]at L;omega
    exact⟨_,Wb,rfl⟩
   .obtain rfl:b=a:=a9k;obtain⟨e,E,_⟩:=ov (i:=76) (j1:=c) (e2:= .i64) a9k A;exact⟨e,E,rfl⟩
  refine bc hm Bn a9l ?_;simp -dsimp -implicitDefEqProofs (disch:=first|omega|assumption|(simp only[bk,Nat.reduceAdd];try omega)) only[go_sem,simprocAttr,↓eI,E,wl,g];refine ff y a9k (w k S) a9k a9k a9k λn1 P n2=> ?_;refine Cj ?_;grind[U.a1,List.take_of_length_le,List.drop_eq_nil_of_le]
 have n3:a<G:=a9k;obtain⟨c,b,d,r,rfl,j,C,l,m,k5,A,X⟩:=y.an (λi=>by rw[i]at L;simp at L;omega);obtain rfl:b=G:=a9k;have Y:c≠z:=by rintro rfl;rw[j]at v;cases v
 have B: ¬(a)=(b:Int):=a9k;refine bc hm Bn a9l ?_;obtain⟨e,E,_,Z⟩:=ov (i:=76) (j1:=c) (e2:= .i64) a9k A;have n4:=Z k r h C a9k m;have j9:(h.drop (a*76)).length=(b - a)*76:=by rw[a4Y];omega
 have k6:r.take (a*76)=h.take (a*76):=by grind
 by_cases c2:(d)<(b:Int)+1
 .have n:cg 76 (.an c b d 76) none (some (.v (.int .i64 (a)))) none=some (.an c a d 76):=hL a9k;have k0:(b)+1 -(a)=((b+1 - a:Nat):Int):=a9k;refine dA (bs @E @B @g @c2 @n @k0) ?_;refine x2 C l a9k a9k a9k λp D k7 q s k8 k1=> ?_;have k9:a+(b+1 - a)=b+1:=a9k;rw[k9]at s k1|-;generalize l0:List.replicate (b+1 - a) _=k2;have l1:k2.flatten.length=(b+1 - a)*76:=by rw[<-l0,kV];rfl
  have l2:p≠c:=by rintro rfl;rw[q]at C;cases C
  have l3:p≠z:=by rintro rfl;rw[q]at S;cases S
  obtain⟨F,k3⟩: ∃F,F=r.take (a*76)++k2.flatten++k7:=⟨_,rfl⟩;have l4:F.length=D*76:=by rw[k3,a4J,a4J,l1,a4K,k1];omega
  have l5:F.take (a*76)=h.take (a*76):=by simp_all
  rw[<-k3];have H:cg 76 (.an p (b+1) D 76) (some (.v (.int .i64 (a)))) none none=some (.bx p (a*76) (b+1 - a) (D - a) 76):=gk a9k s a9k;have I:cg 76 (.an p (b+1) D 76) (some (.v (.int .i64 ((a)+1)))) none none=some (.bx p (a*76+76) (b - a) (D -(a+1)) 76):=by have:=gk (i:=76) (b9:=p) (e:=a+1) (e2:= .i64) a9k s a9k;grind
  have K:(k.set p (.cells F)) z=some (.cells o):=by rw[U.ao _ _ (a4Q l3)];exact S
  have T:=hn (O:=a*76) (j1:=D - a) (i:=b+1 - a) (w _ K) (U.ah k p (.cells F)) a9k;have M:o.take ((b+1 - a)*76)=o:=a4I a9k;rw[M]at T;obtain⟨x,V⟩: ∃x,x=putAt F (a*76) o:=⟨_,rfl⟩;have N:x.length=D*76:=by rw[V,eH _ _ _ a9k,l4]
  rw[<-V]at T;have l6:(k.set p (.cells x)) c=some (.cells r):=by rw[U.ao _ _ (a4Q l2)];exact C
  have O:=Z _ r h l6 a9k m;have W:=hn (O:=a*76+76) (j1:=D -(a+1)) (i:=b - a) O (U.ah k p (.cells x)) a9k;have Q:(h.drop (a*76)).take ((b - a)*76)=h.drop (a*76):=a4I a9k;rw[Q]at W;refine dA (gj @E @B @g @c2 @n @k0 @H @I @T @W @U.set_set) ?_;refine⟨_,U.a1,U.ae y.1 (U.bF y.1 q),.inr ⟨p,b+1,D,_,rfl,U.bF y.1 q,U.ah _ _ _,?_,?_,?_,s,k8⟩⟩
  .rw[eH _ _ _ a9k,N]
  .have:=(pr l5 u j9 a9k).2;rw[show(b+1)*76=a*76+76+(b - a)*76 by omega,V];exact this
  grind
 .have n:cg 76 (.an c b d 76) none (some (.v (.int .i64 ((b)+1)))) none=some (.an c (b+1) d 76):=by rw[show(b)+1=((b+1:Nat):Int) by omega];exact hL a9k
  have H:cg 76 (.an c (b+1) d 76) (some (.v (.int .i64 (a)))) none none=some (.bx c (a*76) (b+1 - a) (d - a) 76):=gk a9k a9k a9k;have I:cg 76 (.an c (b+1) d 76) (some (.v (.int .i64 ((a)+1)))) none none=some (.bx c (a*76+76) (b - a) (d -(a+1)) 76):=by have:=gk (i:=76) (b9:=c) (v:=b+1) (O:=d) (e:=a+1) (e2:= .i64) a9k a9k a9k;grind
  have l7:r≠ []:=by rintro rfl;simp at l;omega
  have l8:kU (.an z 1 1 76) (.bx c (a*76+76) (b - a) (d -(a+1)) 76) k=some (.v (.bool false)):=x1 rfl rfl (a4Q Y) (qt S (by rintro rfl;simp at u)) (qt C l7);have O:bN k 76 (.bx c (a*76) (b+1 - a) (d - a) 76)=some (b+1 - a,(r.drop (a*76)).take ((b+1 - a)*76)):=by simp only[bN,U.af C];grind
  have W:=hn (O:=a*76+76) (j1:=d -(a+1)) (i:=b - a) O C a9k;have Q:((r.drop (a*76)).take ((b+1 - a)*76)).take ((b - a)*76)=h.drop (a*76):=by rw[a5W,<-m,a6a];congr 1;omega
  rw[Q]at W;obtain⟨x,V⟩: ∃x,x=putAt r (a*76+76) (h.drop (a*76)):=⟨_,rfl⟩;rw[<-V]at W;have N:x.length=r.length:=by rw[V,eH _ _ _ a9k]
  have K:(k.set c (.cells x)) z=some (.cells o):=by rw[U.ao _ _ (a4Q Y)];exact S
  have T:=hn (O:=a*76) (j1:=d - a) (i:=b+1 - a) (w _ K) (U.ah k c (.cells x)) a9k;have M:o.take ((b+1 - a)*76)=o:=a4I a9k;rw[M]at T;refine dA (gj @E @B @g @c2 @n @H @I @l8 @W @T @U.set_set) ?_;refine⟨_,U.a1,U.ae y.1 j,.inr ⟨c,b+1,d,_,rfl,j,U.ah _ _ _,?_,?_,?_,a9k,X⟩⟩
  .rw[eH _ _ _ a9k,N,l]
  .have:=(pr k6 u j9 a9k).1;grind
  grind
variable{b8:List aK}
theorem a1O (c:az dx b8 g): ∀a∈g,∃b,a= .agg b/\b.length=76:=λa d=>by
 obtain⟨k,_,T,rfl,h⟩:=c.mem d;exact⟨T,rfl,h.all.1⟩
variable{n b3:R}{f t e4:U}
theorem ar.FJ (b:ar f t 76 (flat g) n) (c:az dx b8 g): ∃a,View t n a (.J g .any)/\f.sub a:=by obtain⟨h,a,d,k,o⟩:=View.dQ b;rw[dc (c.cells λ_ _=>dx.cells)]at d;grind[xL,a1O]
def da (a:List aK) (b:List UInt8):Nat:=(a.takeWhile λc=>c5 c.name b).length
def FK: ∀ {c:List aK}{b:List UInt8}{d:Nat},Place c b d->d=da c b
 | [],b,d,a=>by have:=a.1;simpa[da] using this
 |o::c,b,0,a=>by
  have:=a.2.2 0 a9l a9k;simp only[a5q]at this;simp[da,this]
 |o::c,b,d+1,a=>by
  have k:=a.2.1 0 a9k;simp only[a5q]at k;have:=FK ⟨by have:=a.1;simpa using this,λh p=>by have:=a.2.1 (h+1) a9k;trivial,λh p r=>by have:=a.2.2 (h+1) a9m a9k;trivial⟩;simp only[da,a6b,k,if_true,a4M];rw[this];rfl
def gD (a:List aK) (b:List UInt8):Bool:=decide (da a b<a.length)&&decide ((a.getD (da a b) default).name=b)
theorem zs {c:List aK} (d:cy c=true): ∀b a,b<a->a<c.length->c5 (c.getD b default).name (c.getD a default).name=true
 |b,0,h1,_=>by omega
 |b,a+1,h1,p=>by
  have h:=d;simp only[cy,a4L,a4Z,a5Z,a6q,decide_eq_true_eq]at h;have k:=(h.1 (a+1) p).2.resolve_left a9k;rw[Nat.add_sub_cancel]at k;rcases a9i b a with o|o
  .exact ve _ _ _ (zs d b a o a9k) k
  grind
def zt (a:List aK) (c:List R) (h:Own) (b:List UInt8) (r:az dx a c) (k:cy a=true) (d:U):
  AC Tryz.prog 148 [.J c h,bb b] d λo p=>p=d/\o= .aL [.v (.int .i64 (da a b:Int)),.v (.bool (gD a b))]:=by
 have z:a.length<=8:=by simp only[cy,a4L,decide_eq_true_eq]at k;omega
 refine(a1L a c h b r a9k (zs k) d).mono λo p x=> ?_;obtain⟨C,D,y,rfl⟩:=x;obtain rfl:=FK y;trivial
def vh (d:Except Int (List aK)) (a:R):Prop:=
 match d with
 | .error b=>b≠0/\a= .aL [.J [] .nil,.v (.int .i64 b)]
 | .ok h=> ∃c,az dx h c/\a= .aL [.J c .any,.v (.int .i64 0)]
def kc (a:List aK) (b:aK):Except Int (List aK):=
 if(cy a&&fQ b)=true then(if gD a b.name=true then .error 4 else if 8<=a.length then .error 10 else .ok (a.take (da a b.name)++b::a.drop (da a b.name)))else .error 1
def kd (a:List aK) (b:aK):Except Int (List aK):=
 if(cy a&&fQ b)=true then(if gD a b.name=true then .ok (a.set (da a b.name) b)else .error 3)else .error 1
def tc (a b:U) (o:Except Int (List aK)) (c:R):Prop:=
 match o with
 | .error d=>a.sub b/\d≠0/\c= .aL [.J [] .nil,.v (.int .i64 d)]
 | .ok p=> ∃h k,az dx p k/\ar a b 76 (flat k) h/\c= .aL [h,.v (.int .i64 0)]
def tc.zu {a:Except Int (List aK)} (b:tc f t a n): ∃c d,View t n d c/\f.sub d/\vh a c:=by
 cases a with
 |error x=>exact⟨_,_,View.refl,b.1,b.2⟩
 |ok y=>obtain⟨z,k,h,o,rfl⟩:=b;obtain⟨C,p,r⟩:=ar.FJ o h;exact⟨_,_,View.aL (a:= []) p,r,k,h,rfl⟩
def a1P (a:List aK) (b:List UInt8):da a b<=a.length:=by unfold da;have:=congrArg List.length (a5z (p:=λc:aK=>c5 c.name b) (l:=a));rw[a4J]at this;omega
def a1Q (a:List aK) (d:List R) (r:Own) (b:aK) (c:List R) (D:ep b c) (V:b.Fit) (p:az dx a d) (L: ∀b∈a,b.Fit) (W:a.length<=1000) (x:U):
  AC Tryz.prog 79 [.J d r,.agg c] x λz E=>x.sub E/\vh (kc a b) z:=by
 have q:AC Tryz.prog 79 [.J d r,.agg c] x λz E=>tc x E (kc a b) z:= ?_
 .exact q.view λz E s=>s.zu
 have t:=p.len;obtain⟨e,Q,X,Y,Z,j9,k0,k1,k2,k3,k4,k5,k6⟩:=D.all;refine aM hm Lx ?_;refine bp λf u=> ?_;have C:=U.ae (Y:= .cells c) (U.a1) u;have aH:=U.ah x f (.cells c);generalize x.set f _=o at*;have v:=U.af aH;have h:(if(cy a&&fQ b)=true then(if gD a b.name=true then .error 4 else if 8<=a.length then .error 10 else .ok (a.take (da a b.name)++b::a.drop (da a b.name)))else .error 1)=kc a b:=rfl;generalize kc a b=k7 at*;cases P:cy a with
 |false=>rw[if_neg (by rw[P];simp)]at h;refine bh (nH a d r p L a9k o) ?_;rw[<-h];exact⟨_,U.a1,C,a9o,rfl⟩
 |true=>
 cases g:fQ b with
 |false=>rw[if_neg (by rw[g];simp)]at h;refine bh (nH a d r p L a9k o) ?_;refine bh (rb b c D V o) ?_;rw[<-h];exact⟨_,U.a1,C,a9o,rfl⟩
 |true=>
 rw[if_pos (by rw[P,g];rfl)]at h;refine bh (nH a d r p L a9k o) ?_;refine bh (rb b c D V o) ?_;have F:=zt a d r b.name p P o;have w:=a1P a b.name;generalize da a b.name=k at*;cases G:gD a b.name with
 |true=>rw[if_pos G]at h;rw[G]at F;refine bh F ?_;rw[<-h];exact⟨_,U.a1,C,a9o,rfl⟩
 |false=>
 rw[if_neg (by rw[G];simp)]at h;rw[G]at F;refine bh F ?_;refine aG (λA=> ?_) λA=> ?_
 .rw[if_pos a9k]at h;rw[<-h];exact⟨_,U.a1,C,a9o,rfl⟩
 rw[if_neg a9k]at h;have i:aT 76 [R.agg c]:=λj B=>by rw[a5b.1 B];exact e
 refine(rP (eP i a9l λy k8=>trivial)).mpr ?_;have v:=U.af aH;refine aa ?_;refine ai (vg a d r o p W) ?_;intro l m S;have k9:=U.af (S.1 _ _ aH);refine aa ?_;have H:flat [R.agg c]=c:=by simp[flat,R.cells]
 refine eP i a9l λy n=> ?_;rw[H];have T:=p.cells λ_ _=>dx.cells;have I:ar (o.set y (.cells c)) (m.set y (.cells c)) 76 (flat d) l:=S.new n;have K:(flat d).length=a.length*76:=by rw[dc T,t]
 have M:=a1N (o.set y (.cells c)) (m.set y (.cells c)) (flat d) l I a.length K k w W c e y (U.ah _ _ _);refine aa ?_;refine ai M ?_;intro z l0 N;refine aa ?_;refine⟨_,U.a1,?_⟩;rw[<-h];have O:x.sub (o.set y (.cells c)):=U.ae C (U.bF C (U.bF S.1 n));refine⟨z,d.take k++ .agg c::d.drop k,(p.take k).append ⟨⟨c,rfl,D⟩,p.drop k⟩,?_,rfl⟩;have j:flat (d.take k++ .agg c::d.drop k)=(flat d).take (k*76)++(c++(flat d).drop (k*76)):=by rw[(fV k T).1,(fV k T).2];simp[flat,R.cells]
 rw[j];exact N.base O
variable{e i v O b9 j1:Nat}
theorem ar.lF (c:ar t f e (flat g) n) (d:aT e g) (y:0<e) (o:i<g.length) (p:A.length=e):
  ∃b h a,n= .an b g.length h e/\f b=some (.cells a)/\i*e+e<=a.length/\ar t (f.set b (.cells (putAt a (i*e) A))) e (flat (g.set i (.agg A))) n:=by
 have z:=dc d;have C:(i+1)*e<=g.length*e:=a4W _ o;rw[a5Q,a7C]at C;obtain⟨b,D,h,a,rfl,r,E,F,G,W,x,L⟩:=c.an (λk=>by rw[k,a4R]at z;omega);obtain rfl:D=g.length:=a7d y a9k;have j:=a4W e x;refine⟨b,h,a,rfl,E,a9k,U.ae c.1 r,.inr ⟨b,g.length,h,_,rfl,r,U.ah _ _ _,?_,?_,?_,x,L⟩⟩
 .rw[eH _ _ _ a9k,F]
 .have P:g.set i (.agg A)=g.take i++ .agg A::g.drop (i+1):=a5Y .. |>.trans (by rw[if_pos o])
  have S:flat (g.take i++ .agg A::g.drop (i+1))=(flat g).take (i*e)++(A++(flat g).drop ((i+1)*e)):=by rw[(fV (i+1) d).1,(fV i d).2];simp[flat,R.cells]
  have l:(a.take (i*e)).length=i*e:=by rw[a4K];omega
  have T:(i+1)*e=i*e+e:=by grind
  rw[P,S,putAt,p,<-G,a5W,a6p a9k,T,a6a];have m:(a.take (i*e)++A).length=i*e+e:=by simp_all
  have q:g.length*e=(i*e+e)+(g.length*e -(i*e+e)):=a9k;grind
 .rw[dc (d:=e)]
  .simp
  .intro k V;rcases a6Q V with c|rfl
   .exact d k c
   .exact p
theorem a1R (a:List aK) (c:List R) (o:Own) (b:aK) (d:List R) (z:ep b d) (S:b.Fit) (k:az dx a c) (L: ∀b∈a,b.Fit) (g:a.length<=1000) (r:U):
  AC Tryz.prog 151 [.J c o,.agg d] r λC D=>r.sub D/\vh (kd a b) C:=by
 have i:AC Tryz.prog 151 [.J c o,.agg d] r λC D=>tc r D (kd a b) C:= ?_
 .exact i.view λC D E=>E.zu
 have j:=k.len;obtain⟨l,u,v,w,A,B,H,I,K,M,N,O,Q⟩:=z.all;refine aM hm ND ?_;refine bp λT m=> ?_;have F:=U.ae (Y:= .cells d) (U.a1) m;have aH:=U.ah r T (.cells d);generalize r.set T _=p at*;have X:=U.af aH;have h:(if(cy a&&fQ b)=true then(if gD a b.name=true then .ok (a.set (da a b.name) b)else .error 3)else .error 1)=kd a b:=rfl;generalize kd a b=Y at*;cases P:cy a with
 |false=>rw[if_neg (by rw[P];simp)]at h;refine bh (nH a c o k L a9k p) ?_;rw[<-h];exact⟨_,U.a1,F,a9o,rfl⟩
 |true=>
 cases V:fQ b with
 |false=>rw[if_neg (by rw[V];simp)]at h;refine bh (nH a c o k L a9k p) ?_;refine bh (rb b d z S p) ?_;rw[<-h];exact⟨_,U.a1,F,a9o,rfl⟩
 |true=>
 rw[if_pos (by rw[P,V];rfl)]at h;refine bh (nH a c o k L a9k p) ?_;refine bh (rb b d z S p) ?_;have G:=zt a c o b.name k P p;have W:gD a b.name=true->da a b.name<a.length:=λE=>by
  simp only[gD,a4L,decide_eq_true_eq]at E;exact E.1
 generalize da a b.name=x at*;cases y:gD a b.name with
 |false=>rw[if_neg (by rw[y];simp)]at h;rw[y]at G;refine bh G ?_;rw[<-h];exact⟨_,U.a1,F,a9o,rfl⟩
 |true=>
 rw[if_pos y]at h;rw[y]at G;have W:=W y;refine bh G ?_;refine ai (vg a c o p k g) ?_;intro Z j9 e;have n:=k.cells λ_ _=>dx.cells;obtain⟨f,q,k0,rfl,s,k1,t⟩:=ar.lF e n a9k (i:=x) a9k l;have k2:=U.af (e.1 _ _ aH);have k3:cP 76 (.an f c.length q 76) (.v (.int .i64 (x)))=some (.ptr f (x*76)):=by grind[jH,Int.toNat_natCast]
 have k4:=U.aI s;refine aa ?_;refine⟨_,U.a1,?_⟩;rw[<-h];exact⟨_,c.set x (.agg d),k.set x ⟨d,rfl,z⟩,t.base F,by rw[j]⟩
theorem a1S (F o:U) (d:List R) (G:R) (L:ar F o 76 d G) (r:Nat) (P:d.length=r*76) (a:Nat) (M:a<r) (N:r<=1000):
  AC Tryz.prog 150 [G,.v (.int .i64 (a:Int)),.v (.int .i64 ((a:Int)+1))] o λi j=>ar F j 76 (d.take (a*76)++d.drop ((a+1)*76)) i:=by
 obtain⟨c,b,k,x,rfl,S,T,l,V,m,C,n⟩:=L.an (λq=>by rw[q,a4R]at P;omega);obtain rfl:b=r:=a9k;refine bc hm NB a9l ?_;have s:(a)+1=((a+1:Nat):Int):=a9k;rw[s];obtain⟨O,t⟩:=DP (O:=76) (a:=c) (b:=b) (j1:=a) (e:=a+1) (e2:= .i64) (c:= .i64) (d:= .i64) a9k a9k C;have u:cg 76 (.an c b k 76) none (some (.v (.int .i64 (a)))) none=some (.an c a k 76):=hL a9k;obtain⟨Q,v,_,D⟩:=ov (i:=76) (j1:=c) (e:=a+1) (e2:= .i64) a9k C;have D:=D o x d T a9k V;have w: ¬(a)=((a+1:Nat):Int):=a9k;simp -dsimp -implicitDefEqProofs (disch:=first|omega|assumption|(simp only[bk,Nat.reduceAdd];try omega)) only[go_sem,simprocAttr,↓eI,t,u,v,w];refine uo T l D a9k a9k a9k ?_;have A:a+(b -(a+1))=b - 1:=a9k;rw[A];have W:(d.drop ((a+1)*76)).length=(b -(a+1))*76:=by rw[a4Y];omega
 obtain⟨h,y⟩: ∃h,h=putAt x (a*76) (d.drop ((a+1)*76)):=⟨_,rfl⟩;have E:h.length=k*76:=by rw[y,eH _ _ _ a9k];omega
 have B:h.take ((b - 1)*76)=d.take (a*76)++d.drop ((a+1)*76):=by
  rw[y,putAt];have H:(x.take (a*76)).length=a*76:=by rw[a4K];omega
  rw[show(b - 1)*76=(x.take (a*76)++d.drop ((a+1)*76)).length by rw[a4J,H,W];omega,a7q];grind
 rw[<-y];have I:(o.set c (.cells h)) c=some (.cells h):=U.ah _ _ _;have X:cg 76 (.an c (b - 1) k 76) (some (.v (.int .i64 ((b - 1:Nat))))) (some (.v (.int .i64 ((b))))) none=some (.bx c ((b - 1)*76) (b -(b - 1)) (k -(b - 1)) 76):=Cf a9k C a9k;have e: ∀z:List R,z.length=76->kT 76 z (.bx c ((b - 1)*76) (b -(b - 1)) (k -(b - 1)) 76) (o.set c (.cells h))=some ((o.set c (.cells h)).set c (.cells (putAt h ((b - 1)*76) (List.replicate (b -(b - 1)) z).flatten))):=λz Y=>x0 I (by rw[E];omega);have p:=gd.all.1;rw[<-jl]at p;have e:=(e _ p).trans a9q;have K:(d.take (a*76)++d.drop ((a+1)*76)).length=(b - 1)*76:=by rw[a4J,a4K,a4Y];omega
 clear p y W V m P;refine aa ?_;have p:=gd.all.1;rw[<-jl]at p;refine⟨_,U.a1,?_⟩;generalize f:putAt h ((b - 1)*76) _=g;have cd:g.length=k*76:=by rw[<-f,eH _ _ _ (by rw[kV,p,E];omega),E]
 have ca:g.take ((b - 1)*76)=h.take ((b - 1)*76):=by rw[<-f,putAt,a4U,a6i (by rw[a4K];omega),a5W,a6S]
 refine⟨U.ae L.1 S,.inr ⟨c,b - 1,k,_,rfl,S,U.ah _ _ _,cd,by rw[ca,B],K,a9k,n⟩⟩
def cL (a:List aK) (b:List UInt8):Except Int (List aK):=
 if cy a=true then(if gD a b=true then .ok (a.take (da a b)++a.drop (da a b+1))else .error 3)else .error 1
def a1T (a:List aK) (c:List R) (p:Own) (b:List UInt8) (h:az dx a c) (G: ∀S∈a,S.Fit) (L:a.length<=1000) (d:U):
  AC Tryz.prog 81 [.J c p,bb b] d λr y=>d.sub y/\vh (cL a b) r:=by
 have T:AC Tryz.prog 81 [.J c p,bb b] d λr y=>tc d y (cL a b) r:= ?_
 .exact T.view λr y z=>z.zu
 have V:=h.len;refine aM hm LB ?_;have k:(if cy a=true then(if gD a b=true then .ok (a.take (da a b)++a.drop (da a b+1))else .error 3)else .error 1)=cL a b:=rfl;generalize cL a b=i at*;cases D:cy a with
 |false=>rw[if_neg (by rw[D];simp)]at k;refine bh (nH a c p h G a9k d) ?_;rw[<-k];exact⟨_,U.a1,U.a1,a9o,rfl⟩
 |true=>
 rw[if_pos D]at k;refine bh (nH a c p h G a9k d) ?_;have C:=zt a c p b h D d;have E:gD a b=true->da a b<a.length:=λz=>by
  simp only[gD,a4L,decide_eq_true_eq]at z;exact z.1
 generalize da a b=o at*;cases x:gD a b with
 |false=>rw[if_neg (by rw[x];simp)]at k;rw[x]at C;refine bh C ?_;rw[<-k];exact⟨_,U.a1,U.a1,a9o,rfl⟩
 |true=>
 rw[if_pos x]at k;rw[x]at C;have E:=E x;refine bh C ?_;refine ai (vg a c p d h L) ?_;intro W e f;have F:=h.cells λ_ _=>dx.cells;have g:(flat c).length=a.length*76:=by rw[dc F,V]
 refine aa ?_;refine ai (a1S d e (flat c) W f a.length g o E L) ?_;intro r j P;refine aa ?_;refine⟨_,U.a1,?_⟩;rw[<-k];rw[(fV (o+1) F).1,(fV o F).2,<-oU]at P;exact⟨r,c.take o++c.drop (o+1),(h.take o).append (h.drop (o+1)),P,rfl⟩
variable{s a7:R -> U -> Prop}{K:Ctx}{b5:FuncId}
def fD {d:U->Prop} (h: ∀B a,cA t e B a->d a) (c:AC K.p b5 g f λ_ a=>cA t e B a) (k: ∀b a,cA t e B a->a7 b a)
  (o: ∀b a,d a->s b a=a7 b a:=by intro b f c;simp -dsimp -implicitDefEqProofs (disch:=first|omega|assumption|exact U.tR a9n a9n|(simp only[bk,Nat.reduceAdd];try omega)) only[go_sem,simprocAttr,-List.reduceReplicate,↓eI,tS,tQ, *]<;>rfl):nW K b5 g f (bO s ()):=ai c λb a c=>(o b a (h B a c)).mpr (k b a c)
theorem FL (D e:U) (c:Nat) (d:List UInt8) (a:ay) (r x y:Own) (G:cA D c d e) (X:d.length<=1000000000) (f:a.sum.length=32) (n:a.ht):
  AC Tryz.prog 105 [.ptr c 0,.agg (ab a r x y)] e λ_ h=>cA D c (d++eb a) h:=by
 have Y:=(aW (M:=r) (e6:=x) (h5:=y) f).all;generalize ab a r x y=L at*;obtain⟨Z,j9,k0,q,k1,s,k2⟩:=n;obtain⟨P,t⟩:=a6F q;obtain⟨S,u⟩:=a6F s;have k3: ∀z:List UInt8,(.agg (z.map al))=cJ z:=λ_=>rfl;refine aM hm Mj ?_;refine aN λz v=> ?_;obtain⟨w,A,g⟩:=G.new (ob:= .cells L) v;have E: ∀d h,cA (D.set z (.cells L)) c d h->h.read z=some L:=λd h G=>U.af (G.get w (U.ah _ _ _));refine aa ?_;refine fD E (CG _ _ c _ _ f g a9k) λ_ i o=> ?_;refine fD E (sj _ _ c _ _ a9k o a9m) λ_ i o=> ?_;refine fD E (sj _ _ c _ _ a9k o (by simp[kx];omega)) λ_ i o=> ?_;refine jL λk4 B=> ?_;have T:az isRow [a.aU,a.aV,a.key] [.J (ad a.aU) r,.J (ad a.aV) x,.J (ad a.key) y]:=⟨⟨_,rfl⟩,⟨_,rfl⟩,⟨_,rfl⟩,trivial⟩;have p: ∀C∈ [a.aU,a.aV,a.key],C.length<=8:=a9m;have H: ∀C:List Int,(du C).length=8*C.length+1:=λC=>by rw[du,a4M,oa]
 have V:eb a=a.sum++fi P++fi S++ [a.aU,a.aV,a.key].flatMap du:=by rw[eb,t,u];simp
 obtain⟨k,F⟩: ∃k,[a.aU,a.aV,a.key]=k:=⟨_,rfl⟩;have k5:k.length=3:=by rw[<-F];rfl
 rw[F]at T p V;have I: ∀b,b<=3->((k.take b).flatMap du).length<=65*b:=λb j=>by
  rw[<-F]at p|-;have:=p a.aU a9l;have:=p a.aV a9l;have:=p a.key a9l;rcases(by omega:b=0\/b=1\/b=2\/b=3)with rfl|rfl|rfl|rfl<;>simp[H]<;>omega
 generalize (([.J (ad a.aU) r,.J (ad a.aV) x,.J (ad a.key) y]):List R)=l at*;obtain⟨_,W,K⟩:=o.new (ob:= .buf 1 l.length l.length) B;have W:=(U.set_nil W).1;have k6:=T.len;rw[V,<-a4U,<-a4U,<-a4U];have k7:(d++a.sum++fi P++fi S).length<=1000001000:=by simp[kx];omega
 generalize d++a.sum++fi P++fi S=M at*;clear E F V o g;refine ch [0,26,27] (λb:Nat=> [(28,.v (.int .i64 b))]) (λb h=>b<=3/\cA D c (M++(k.take b).flatMap du) h) (λb=>3 - b) 0 ⟨⟨a9k,by simpa using K.base (U.ae (U.ae U.a1 A) W)⟩,aS⟩ ?_;rintro b k8 ⟨j,N⟩ k9;refine aa ?_;refine aG (λO=> ?_) λO=> ?_
 .have m:k[b]? =some (k.getD b []):=by grind
  obtain⟨_,l0,Q,rfl⟩:=T.get m;have l1:=p _ (a4O m);have l2:=I b j;refine aa ?_;refine hN (sk _ _ c _ _ Q a9k N (by rw[a4J];omega)) λ_ l3 l4=> ?_;refine⟨b+1,⟨a9k,?_⟩,rfl,a9k⟩;grind[eQ,List.append_assoc]
 .obtain rfl:b=3:=a9k;grind[List.take_of_length_le,U.a1]
theorem FM (b:fQ e7=true):e7.ht:=by
 simp only[fQ,ev,nu,jX,a4L,decide_eq_true_eq,a6q]at b;obtain⟨⟨⟨_,c⟩,a⟩,d,h,P,S,T⟩:=b;rw[if_pos a9o]at a;simp only[a4L,decide_eq_true_eq,a4Z,a5Z,mj,jX]at a;obtain⟨k,o,p,r,x,y⟩:=qH d;obtain⟨z,C,D,E,F,G⟩:=qH h;refine⟨c.2,a.1.2.2,λV L=> ?_,⟨k,o,a9k,p,r,x,y⟩,⟨z,C,?_,D,E,F,G⟩⟩
 .obtain⟨W,e,rfl⟩:=a5t L;simp_all
 grind[aA]
theorem mu (a:cy b8=true):(∀b∈b8,b.ht)/\b8.length<=8:=by simp only[cy,a4L,a4Z,a5Z,decide_eq_true_eq]at a;refine⟨λb c=> ?_,a.2⟩;obtain⟨d,h,rfl⟩:=a5t c;grind[FM,List.getD]
theorem FN (b:List aK) (G:List R) (W:Own) (z:az dx b G) (s: ∀a∈b,a.Fit) (t:b.length<=1000000) (k:U):
  AC Tryz.prog 58 [.J G W] k λe o=>k.sub o/\if cy b=true then∃u,e= .aL [.J ((pE b).map al) u,.v (.int .i64 0)]else e= .aL [.J [] .nil,.v (.int .i64 1)]:=by
 have k2:=z.len;have k3:=λL=>iq L;refine aM hm L3 ?_;refine bh (nH b G W z s t _) ?_;refine aG (λC=> ?_) λC=> ?_
 .trivial
 obtain⟨f,k4⟩:=mu C;refine bp λh v=> ?_;have w:cA k h [] (k.set h (.cells [.J [] .nil,.v (.int .i64 0)])):=⟨.nil,bf.nil U.a1⟩;refine hN (nd k _ h [] (UInt8.ofNat b.length) w a9l) λ_ k5 k6=> ?_;have db:=a0q z f;refine ch [0,4,19,20] (λc:Nat=> [(21,.v (.int .i64 c))]) (λc o=>c<=b.length/\cA k h (UInt8.ofNat b.length::(b.take c).flatMap hh) o) (λc=>b.length - c) 0 ⟨⟨a9k,by trivial⟩,aS⟩ ?_;rintro c A ⟨k7,x⟩ B;refine aa ?_;refine aG (λH=> ?_) λH=> ?_
 .have g:b[c]? =some (b.getD c default):=by simp_all
  obtain⟨_,k8,T,rfl,r⟩:=z.get g;have p:=f _ (a4O g);have i:=db c;have I:(b.take (c+1)).flatMap hh=(b.take c).flatMap hh++hh (b.getD c default):=by rw[eQ (b:=default) a9k,a5x];simp
  generalize b.getD c default=a at*;have K:=yD p r.k.1 r.z.1;obtain⟨M,k9,l0,l1,l2,l3,l4,l5,l6,l7,l8,l9,n0⟩:=r.all;obtain⟨_,_,n1,n2⟩:=nJ r;have n3:=jG (n:= .agg T) M;have n4:=jl;have n5:=hz (a:=a.aD);have n9:= @px a.aD;refine aa ?_;refine aN λP L=> ?_;obtain⟨N,O,D⟩:=x.new (ob:= .cells T) L;have E: ∀aP o,cA (k.set P (.cells T)) h aP o->o.read P=some T:=λaP o Q=>U.af (Q.get N (U.ah _ _ _));have a00: ∀aP:List UInt8,tL (bb aP)=some (.J (aP.map al) .any):=λaP=>rfl;obtain⟨y,S⟩: ∃y,UInt8.ofNat b.length::(b.take c).flatMap hh=y:=⟨_,rfl⟩;rw[S]at D;have a01:y.length<=9000:=by rw[<-S,a4M];omega
  rw[hh,a4J]at K;have a02:=xh a.name;have a03:=p.n;have a04:=p.c;refine aa ?_;refine fD E (CR _ _ h _ a.name .any a9k D a9k) λ_ j D=> ?_;refine fD E (nd _ _ h _ (UInt8.ofNat a.aD.length) D (by rw[a4J];omega)) λ_ a05 X=> ?_;have a06:(y++hT a.name++ [UInt8.ofNat a.aD.length]).length<=10000:=by grind
  have l: ∀d,((a.aD.take d).flatMap hT).length<=200:=λd=>by
   have:=EX (a:=a.aD.take d) λC Y=>p.cs C (a4V Y);rw[a4K]at this;omega
  refine ch [4,6,21,37,38] (λd:Nat=> [(39,.v (.int .i64 d))]) (λd o=>d<=a.aD.length/\cA (k.set P (.cells T)) h (y++hT a.name++ [UInt8.ofNat a.aD.length]++(a.aD.take d).flatMap hT) o) (λd=>a.aD.length - d) 0 ⟨⟨a9k,by simpa using X⟩,aS⟩ ?_;rintro d a07 ⟨a08,F⟩ B;have a09:=E _ _ F;refine aa ?_;refine aG (λc2=> ?_) λc2=> ?_
  .have m:=l d;have a10:=p.cs (a.aD.getD d []) (by simp_all);refine hN (CR _ _ h _ (a.aD.getD d []) .any a9k F (by rw[a4J];omega)) λ_ Z V=> ?_;refine⟨d+1,⟨a9k,?_⟩,rfl,a9k⟩;rw[eQ (b:= []) a9k,a5x,<-a4U];simpa using V
  .obtain rfl:d=a.aD.length:=a9k;have m:=l a.aD.length;rw[a5d]at F m;have a11:=sv r.k.1 p.k;refine fD E (FL _ _ h _ a.bM _ _ _ F (by rw[a4J];omega) r.k.1 p.k) λ_ Z V=> ?_;refine hN (FL _ _ h _ a.ct _ _ _ V (by grind) r.z.1 p.z) λ_ a13 j9=> ?_;refine⟨c+1,⟨a9k,?_⟩,rfl,a9k⟩;have k0:=j9.base (U.ae U.a1 O);rw[I,<-a5V,S,hh];simpa using k0
 .obtain rfl:c=b.length:=a9k;have i:=db b.length;rw[a5d]at x i;refine ai (CF k A h _ x (by rw[a4M];omega)) ?_;rintro _ j ⟨n,q,rfl⟩;refine aa ?_;refine bh (CS k j h _ (x.mono q.sub)) ?_;have k1:=U.au (x.sub v) q.sub
  first|exact⟨n,rfl⟩|exact⟨k1,n,rfl⟩
theorem FO (n k1:U) (h:Nat) (A:ay) (D:List UInt8) (l1:n h=none) (l2:A.In 8) (e:bY n h ⟨eb A++D,0⟩ k1):
  AC Tryz.prog 175 [.ptr h 0] k1 λq S=>bY n h ⟨D,0⟩ S/\ ∃F G L,q= .agg (ab A F G L):=by
 have eN:=aW (M:= .nil) (e6:= .nil) (h5:= .nil) bj;have a08:=eN.len;have a09:=eN.t37;obtain⟨a,b,c,a10,cp,d⟩:=A;obtain⟨P,l3,l4,l5,l6,l7,l8,l9,a11,n0,a13⟩:=l2;obtain⟨o,rfl⟩:=a6F l9;obtain⟨r,rfl⟩:=a6F n0
 dsimp only at*
 have n1:eb ⟨a,b,c,(o),(r),d⟩++D=a++(fi o++(fi r++(du b++(du c++(du d++D))))):=by simp[eb]
 rw[n1]at e;have a14:(cJ a).cells=a.map al:=rfl;have a15:(a.map al).length=32:=by simp[P]
 have a16:=cq;have a18:putAt (ab aA .nil .nil .nil) 0 (a.map al)=ab ⟨a,[],[],0,0,[]⟩ .nil .nil .nil:=uh bj P;have a19: ∀(b c) (T V) (d) (F G L),putAt (ab aA .nil .nil .nil) 0 (ab ⟨a,b,c,T,V,d⟩ F G L)=ab ⟨a,b,c,T,V,d⟩ F G L:=λb c T V d F G L=>cD bj P;have cl: ∀(b c) (T V) (d) (F G L),(ab ⟨a,b,c,T,V,d⟩ F G L).length=37/\(ab ⟨a,b,c,T,V,d⟩ F G L).take 37=ab ⟨a,b,c,T,V,d⟩ F G L:=λb c T V d F G L=>by
  have:=aW (w:=⟨a,b,c,T,V,d⟩) (M:=F) (e6:=G) (h5:=L) P;exact⟨this.len,this.t37⟩
 refine aM hm Ou ?_;refine aN λq n2=> ?_;rw[cq];obtain⟨B,k2,e⟩:=e.new (ob:= .cells (ab aA .nil .nil .nil)) n2;refine aa ?_;have k3:=CO _ _ h _ e;rw[CZ _ _ P]at k3;refine ai k3 ?_;rintro _ a27 ⟨M,rfl⟩
 dsimp only at M|-
 refine aa ?_;refine aN λz N=> ?_;obtain⟨f,k4,k5⟩:=M.new (ob:= .cells (ab ⟨a,[],[],0,0,[]⟩ .nil .nil .nil)) N;have n3:q≠z:=by rintro rfl;rw[M.get B (U.ah _ _ _)]at N;cases N
 obtain⟨W,H⟩: ∃W,n.set q (.cells (ab aA .nil .nil .nil))=W:=⟨_,rfl⟩;have n4:W h=none:=by rw[<-H,U.ao _ _ (a4Q B)];exact l1
 have n5:W q=some (.cells (ab aA .nil .nil .nil)):=by rw[<-H,U.ah]
 have k6:n.sub W:=by rw[<-H];exact U.ae U.a1 k2
 rw[H]at k5 k4;have k7: ∀ {g O S},bY (W.set z g) h O S->S z=some g:=λe=>e.get f (U.ah _ _ _);refine aa ?_;have s:=sl _ _ h 1048576 a9k _ k5;rw[u9 _ a9k]at s;refine ai s ?_;rintro _ a29 ⟨t,rfl⟩;have a30:=U.aI (k7 t);have i:putAt (ab ⟨a,[],[],0,0,[]⟩ .nil .nil .nil) 34 [.v (.int .i64 (o))]=ab ⟨a,[],[],(o),0,[]⟩ .nil .nil .nil:=sw P;have t:=t.put (.cells (ab ⟨a,[],[],(o),0,[]⟩ .nil .nil .nil)) f
 dsimp only at t|-
 refine aa ?_;have s:=sl _ _ h 1048576 a9k _ t;rw[u9 _ a9k]at s;refine ai s ?_;rintro _ a34 ⟨u,rfl⟩;have a36:=U.aI (k7 u);have a38:putAt (ab ⟨a,[],[],(o),0,[]⟩ .nil .nil .nil) 35 [.v (.int .i64 (r))]=ab ⟨a,[],[],(o),(r),[]⟩ .nil .nil .nil:=sx P;have u:=u.put (.cells (ab ⟨a,[],[],(o),(r),[]⟩ .nil .nil .nil)) f
 dsimp only at u|-
 refine aa ?_;refine jL λQ n9=> ?_;obtain⟨a00,a01,X⟩:=u.new (ob:= .buf 1 3 3) n9;have Y:z≠Q:=by grind
 have a02:W Q=none:=by rwa[U.ao _ _ (a4Q Y)]at a01
 rw[U.dZ _ Y]at X;obtain⟨E,I⟩: ∃E,W.set Q (.buf 1 3 3)=E:=⟨_,rfl⟩;rw[I]at X;have Z:W.sub E:=by rw[<-I];exact U.ae U.a1 a02
 have a03:E h=none:=by rw[<-I,U.ao _ _ (a4Q a00)];exact n4
 have a04:E z=none:=by rw[<-I,U.ao _ _ Y];exact k4
 have j: ∀ {g O S},bY (E.set z g) h O S->S z=some g:=λe=>e.get f (U.ah _ _ _);have j9: ∀g,(E.set z g) h=none:=λg=>by rw[U.ao _ _ (a4Q f)];exact a03
 let a05:Nat->ay:=λk=>⟨a,if 0<k then b else [],if 1<k then c else [],(o),(r),if 2<k then d else []⟩
 let a06:Nat->List UInt8:=λk=>if k=0 then du b++(du c++(du d++D))else if k=1 then du c++(du d++D)else if k=2 then du d++D else D;refine ch [0,2,3,20,21] (λk:Nat=> [(22,.v (.int .i64 k))]) (λk S=>k<=3/\ ∃x y i,bY (E.set z (.cells (ab (a05 k) x y i))) h ⟨a06 k,0⟩ S) (λk=>3 - k) 0 ⟨⟨a9k,.nil,.nil,.nil,X⟩,aS⟩ ?_;rintro k K ⟨a42,x,y,m,p⟩ a43;refine aa ?_;refine aG (λa07=> ?_) λa07=> ?_
 .have k0:=U.aI (j p);rcases(by omega:k=0\/k=1\/k=2)with rfl|rfl|rfl
  .have p:bY (E.set z (.cells (ab ⟨a,[],[],(o),(r),[]⟩ x y m))) h ⟨du b++(du c++(du d++D)),0⟩ K:=p;have k0:=U.aI (j p);have l:=pf _ _ h 8 a9k _ (j9 _) p;rw[pj b 8 _ l6 a9k l3]at l;refine aa ?_;refine ai l ?_;rintro _ k8 ⟨C,k9,rfl⟩;have l0:=U.aI (j C);have v:=λx y i w=>Dc (w:=⟨a,[],[],(o),(r),[]⟩) (a:=x) (M:=y) (e6:=i) (h5:=w) (q:=b) P
   dsimp only at v C|-
   refine aa ?_;exact⟨1,⟨a9k,_,_,_,C.put _ f⟩,rfl,a9k⟩
  .have p:bY (E.set z (.cells (ab ⟨a,b,[],(o),(r),[]⟩ x y m))) h ⟨du c++(du d++D),0⟩ K:=p;have k0:=U.aI (j p);have l:=pf _ _ h 8 a9k _ (j9 _) p;rw[pj c 8 _ l7 a9k l4]at l;refine aa ?_;refine ai l ?_;rintro _ k8 ⟨C,k9,rfl⟩;have l0:=U.aI (j C);have v:=λx y i w=>Dd (w:=⟨a,b,[],(o),(r),[]⟩) (M:=x) (a:=y) (e6:=i) (h5:=w) (q:=c) P
   dsimp only at v C|-
   refine aa ?_;exact⟨2,⟨a9k,_,_,_,C.put _ f⟩,rfl,a9k⟩
  .have p:bY (E.set z (.cells (ab ⟨a,b,c,(o),(r),[]⟩ x y m))) h ⟨du d++D,0⟩ K:=p;have k0:=U.aI (j p);have l:=pf _ _ h 8 a9k _ (j9 _) p;rw[pj d 8 _ l8 a9k l5]at l;refine aa ?_;refine ai l ?_;rintro _ k8 ⟨C,k9,rfl⟩;have l0:=U.aI (j C);have v:=λx y i w=>sy (w:=⟨a,b,c,(o),(r),[]⟩) (M:=x) (e6:=y) (a:=i) (h5:=w) (q:=d) P
   dsimp only at v C|-
   refine aa ?_;exact⟨3,⟨a9k,_,_,_,C.put _ f⟩,rfl,a9k⟩
 .obtain rfl:k=3:=a9k;have p:bY (E.set z (.cells (ab ⟨a,b,c,(o),(r),d⟩ x y m))) h ⟨D,0⟩ K:=p;have a47:=U.af (j p);have a48:=U.aI (p.get B (by rw[U.ao _ _ n3];exact Z _ _ n5));have cW:=cl b c o r d x y m;refine aa ?_;have C:=p.other (ob:= .cells (ab ⟨a,b,c,(o),(r),d⟩ x y m)) B;refine⟨_,U.a1,C.base ?_,_,_,_,rfl⟩;exact U.ae (U.ae (U.au k6 Z) (U.bF (U.au k6 Z) a04)) k2
theorem a1U (a b:Nat) (d:a<=b) (h:b<=1048576) (c:List UInt8):fu b ⟨fi a++c,0⟩=(a,⟨c,0⟩):=by have k:=qD (fi a) c;grind[kx,fu,fh,fi,UInt8.toNat_ofNat',Nat.shiftRight_eq_div_pow]
def FP (a:List UInt8) (b:Nat) (d:a.length<=b) (h:b<=1048576) (c:List UInt8):qC b ⟨hT a++c,0⟩=(a,⟨c,0⟩):=by unfold qC;rw[hT,a4U,a1U _ _ d h,qD];rfl
structure aK.In (t:aK):Prop where
 le:t.ht
 k:t.bM.In 8
 z:t.ct.In 8
def td {a:List (List UInt8)}:aT 1 (bE a):=λc b=>by obtain⟨_,_,rfl⟩:=a5c.1 b;rfl
theorem a1V (V N:U) (p:Nat) (i:aK) (y:List UInt8) (l1:V p=none) (l2:i.In) (D:bY V p ⟨hh i++y,0⟩ N):
  AC Tryz.prog 110 [.ptr p 0] N λW E=>bY V p ⟨y,0⟩ E/\dx i W:=by
 obtain⟨h,a,e,F⟩:=i;obtain⟨⟨l3,a13,a3,_,_⟩,G,L⟩:=l2
 dsimp only at*
 have l4:hh ⟨h,a,e,F⟩++y=hT h++(UInt8.ofNat a.length::(a.flatMap hT++(eb e++(eb F++y)))):=by simp[hh]
 rw[l4]at D;have a14:=jl;refine aM hm Mt ?_;refine aN λW l5=> ?_;rw[jl];obtain⟨j,O,D⟩:=D.new (ob:= .cells eL) l5;refine aa ?_;have f:=CU _ _ p 16 a9k _ D;rw[FP _ _ l3 a9k]at f;refine ai f ?_;rintro _ a15 ⟨g,t,_,rfl⟩;have a16:= @p4 h t
 dsimp only at g|-
 refine aa ?_;have u: ∀(z) b c k,c.length=37->k.length=37->(bb h::R.J (bE z) b::(c++k)).length=76/\(bb h::R.J (bE z) b::(c++k)).take 76=bb h::R.J (bE z) b::(c++k)/\putAt eL 0 (bb h::R.J (bE z) b::(c++k))=bb h::R.J (bE z) b::(c++k):=λz b c k g l=>by
  have l6:(bb h::R.J (bE z) b::(c++k)).length=76:=by simp[g,l]
  exact⟨l6,a4I a9k,qi (by trivial)⟩
 obtain⟨o,Q⟩: ∃o,ab aA .nil .nil .nil=o:=⟨_,rfl⟩;have v:o.length=37:=by rw[<-Q];rfl
 have a18:=gd.all.1;refine aN λP w=> ?_;obtain⟨S,X,l⟩:=g.new (ob:= .cells (bb h:: .J [] .nil::(o++o))) w;have l7:=u [] .nil o o v v;rw[show bE []= []from rfl]at l7;have Y:W≠P:=by rintro rfl;rw[g.get j (U.ah _ _ _)]at w;cases w
 obtain⟨r,m⟩: ∃r,V.set W (.cells eL)=r:=⟨_,rfl⟩;have l8:r p=none:=by rw[<-m,U.ao _ _ (a4Q j)];exact l1
 have l9:r W=some (.cells eL):=by rw[<-m,U.ah]
 have Z:V.sub r:=by rw[<-m];exact U.ae U.a1 O
 rw[m]at l X;rw[Q];refine aa ?_;have j9:=pd _ _ p _ l;rw[qE]at j9;have n0:(UInt8.ofNat a.length).toNat=a.length:=by rw[a5O];omega
 have a19:min (a.length:Int) 8=(a.length):=a9k;refine ai j9 ?_;rintro _ a27 ⟨A,rfl⟩;obtain⟨n1,A⟩:=A;rw[n0];refine aa ?_;have a29: ∀x B,((r.set P x).set p B) p=some B:=λx B=>U.ah _ _ _;have k0: ∀x,(r.set P x) p=none:=λx=>by rw[U.ao _ _ (a4Q S)];exact l8
 have T: ∀ {x n2 E},bY (r.set P x) p n2 E->E P=some x:=λD=>D.get S (U.ah _ _ _);refine ch [0,2,3,11] (λd:Nat=> [(12,.v (.int .i64 d))]) (λd E=>d<=a.length/\ ∃b t,bf ((r.set P (.cells (bb h:: .J (bE (a.take d)) b::(o++o)))).set p (hS ⟨(a.drop d).flatMap hT++(eb e++(eb F++y)),0⟩ t)) E 1 (bE (a.take d)) b) (λd=>a.length - d) 0 ⟨⟨a9k,.nil,n1,bf.nil A⟩,aS⟩ ?_;rintro d n3 ⟨a30,b,a34,k1⟩ a36;have n:=de.rs k1;have n4:=U.af (T n);refine aa ?_;refine aG (λn5=> ?_) λn5=> ?_
 .have n9:=a3 (a.getD d []) (by simp_all);have a00:=drop_cons (a:=a) (b:= []) (e:=d) a9k;have k2:=eQ (a:=a) (b:= []) (e:=d) a9k;have f:=CU _ _ p 16 a9k _ n.full;rw[a00,a5j,a4U,FP _ _ n9 a9k]at f;refine ai f ?_;rintro _ a01 ⟨q,a02,_,rfl⟩;obtain⟨a38,H⟩:=de.step k1 (k0 _) q;have a03:=T (de.rs H);have a42:=U.af a03;have a43:= @p4 (a.getD d []) a02
  dsimp only at H|-
  refine aa ?_;refine jL (λa47 a04=> ?_) (d:=td (a:= [_]));have a48:=λd=>hz (a:=a.take d);refine ea (H.mono (U.ae U.a1 a04)) td (td (a:= [_])) (by simp[hz];omega) (by simp[hz];omega) λa05 a52 C=> ?_;have k3:bE (a.take d)++ [bb (a.getD d [])]=bE (a.take (d+1)):=by rw[k2];simp[bE]
  rw[k3]at C|-;clear k2 k3;have a06:=U.aI (T (de.rs C));refine aa ?_;have s:=C.set (ob:= .cells (bb h:: .J (bE (a.take (d+1))) a05::(o++o))) (by rw[U.ao _ _ S];exact U.ah _ _ _);rw[U.dZ _ (a4Q S),U.set_set]at s;grind
 .obtain rfl:d=a.length:=a9k;rw[a7h,a5d]at n;rw[a5d]at n4;have k4:=k0;have a07:=FO _ n3 p e (eb F++y) (k4 _) G n;refine ai a07 ?_;rintro _ a01 ⟨q,k5,k6,k7,rfl⟩;obtain⟨c,I⟩: ∃c,ab e k5 k6 k7=c:=⟨_,rfl⟩;have K:c.length=37:=by rw[<-I];exact(aW G.sum).len
  have a56:=U.aI (T q);have a57:putAt (bb h::R.J (bE a) b::(o++o)) 2 c=bb h::R.J (bE a) b::(c++o):=by simp only[putAt,a7D,a6D,K,a5V,a5a,Nat.reduceAdd,a6m];simp_all
  have a08:=q.put (.cells (bb h:: .J (bE a) b::(c++o))) S;have a61:=u a b c o K v;rw[I];refine aa ?_;have a09:=FO _ _ p F y (k4 _) L a08;refine ai a09 ?_;rintro _ a62 ⟨C,k8,k9,l0,rfl⟩;obtain⟨k,M⟩: ∃k,ab F k8 k9 l0=k:=⟨_,rfl⟩;have a10:k.length=37:=by rw[<-M];exact(aW L.sum).len
  have a06:=U.aI (T C);have a63:putAt (bb h::R.J (bE a) b::(c++o)) 39 k=bb h::R.J (bE a) b::(c++k):=by simp_all [putAt]
  have s:=C.put (.cells (bb h:: .J (bE a) b::(c++k))) S;have a65:=u a b c k K a10;have a68:=U.aI (C.get j (by rw[U.ao _ _ Y];exact l9));have a69:=U.af (T s);have a71:=a4Q Y;rw[M];refine aa ?_;have a11:=s.other (ob:= .cells (bb h:: .J (bE a) b::(c++k))) j;refine⟨_,U.a1,a11.base ?_,_,rfl,⟨b,k5,k6,k7,k8,k9,l0,by rw[I,M]⟩,⟨G.sum,?_⟩,⟨L.sum,?_⟩,(show a.length<=1000000 by omega)⟩
  .exact U.ae (U.ae Z (U.bF Z X)) O
  .exact⟨a5F G.ob a9o,a5F G.oc a9o,a5F G.od a9o⟩
  .exact⟨a5F L.ob a9o,a5F L.oc a9o,a5F L.od a9o⟩
def aK.In.fit (a:e7.In):e7.Fit:=⟨by have:=a.le.n;omega,by have:=a.le.c;omega,λb c=>by have:=a.le.cs b c;omega⟩
theorem a1W (b: ∀c∈b8,c.In):(b8.flatMap hh).length<=1000*b8.length:=by
 induction b8 with
 |nil=>simp
 |cons d b8 ih=>have a:=b d a9l;have:=yD a.le a.k.sum a.z.sum;grind
theorem a1X (a:List aK) (x:Own) (o:U) (P:cy a=true) (y: ∀z∈a,z.In):
  AC Tryz.prog 59 [.J ((pE a).map al) x] o λl C=> ∃c S,bf o C 76 c S/\az dx a c/\l= .aL [.J c S,.v (.int .i64 0)]:=by
 obtain⟨j9,k0⟩:=mu P;have k1:=a1W y;have k2:(pE a).length<=9000:=by rw[pE,a4M];omega
 refine mV λk3=> ?_;have m:x= .nil->pE a= []:=λn=>by simp_all
 refine aM hm L5 ?_;have q:(UInt8.ofNat a.length).toNat=a.length:=by rw[a5O];omega
 have k4:min (a.length:Int) 9=(a.length):=a9k;refine ai (CI (pE a) x o m a9k) ?_;rintro _ k5 ⟨k,D,rfl,s⟩;refine aa ?_;have V:=pd _ _ k _ s;rw[pE,qE]at V;refine ai V ?_;rintro _ k6 ⟨⟨t,u⟩,rfl⟩;rw[q];refine aa ?_;refine ch [0,4,13] (λb:Nat×List R×Own=> [(14,.v (.int .i64 b.1)),(5,.J b.2.1 b.2.2)]) (λb C=>b.1<=a.length/\az dx (a.take b.1) b.2.1/\ ∃v,bf (o.set k (hS ⟨(a.drop b.1).flatMap hh,0⟩ v)) C 76 b.2.1 b.2.2) (λb=>a.length - b.1) (0,[],.nil) ⟨⟨a9k,trivial,t,bf.nil u⟩,aS⟩ ?_;rintro⟨d,c,W⟩ e ⟨w,h,k7,p⟩ k8
 dsimp only at w h p|-
 have E:=de.rs p;have k9:c.length=d:=by rw[h.len,a4K];omega
 refine aa ?_;refine aG (λA=> ?_) λA=> ?_
 .have l0:=drop_cons (a:=a) (b:=default) (e:=d) a9k;have B:=eQ (a:=a) (b:=default) (e:=d) a9k;have H:=y (a.getD d default) (by simp_all);have I:=a1V (e.del k) e k (a.getD d default) ((a.drop (d+1)).flatMap hh) (by simp[U.del]) H (by have:=E.full;grind);refine ai I ?_;rintro l1 f ⟨F,g⟩;obtain⟨i,G⟩:=de.step p D F;have K:=g;obtain⟨T,rfl,M⟩:=g;have N:=M.all.1;refine aa ?_;refine jL (λl2 O=> ?_);refine ea (G.mono (U.ae U.a1 O)) (h.cells λ_ _ L=>by obtain⟨_,rfl,L⟩:=L;exact L.all.1) (λn r=>by rw[a5b]at r;subst r;exact N) a9m a9m λQ l3 X=> ?_;refine aa ?_;refine⟨(d+1,c++ [.agg T],Q),⟨by simp only;omega,?_,i,X⟩,⟨rfl,rfl⟩,by simp only;omega⟩;simp only[B];exact h.snoc K
 .obtain rfl:d=a.length:=a9k;rw[a7h]at E;rw[a5d]at h;have r:=CP _ _ k _ E.full;refine ai r ?_;rintro _ f ⟨F,rfl⟩;have l4:(pe ⟨List.flatMap hh [],0⟩).e=0:=rfl;refine aa ?_;have j:=FN a c W h (λz Y=>(y z Y).fit) a9k f;simp only[P,if_true]at j;refine ai j ?_;rintro _ l5 ⟨Z,l6,rfl⟩;refine aa ?_;refine bh (CY _ _ _ _ _ a9k) ?_;obtain⟨i,G⟩:=de.step p D F;exact⟨_,U.a1,c,W,(G.base (U.ae U.a1 D)).mono Z,h,rfl⟩
theorem a1Y (a:List (List UInt8)) (d:Own) (c:U) (C:a.length<=1000000):
  AC Tryz.prog 80 [.J (bE a) d] c λh k=>c.sub k/\ ∃o,h= .J (bE a) o:=by
 have D:=hz (a:=a);refine mV λE=> ?_;have p:d= .nil->bE a= []:=λF=>by simp_all
 refine bc hm Lz a9l ?_;simp -dsimp -implicitDefEqProofs (disch:=first|omega|assumption|(simp only[bk,Nat.reduceAdd];try omega)) only[go_sem,simprocAttr,↓o8];refine o9 (λb=>by rw[p b]) (λb=> ?_) ?_
 .have r:bE a= []:=by trivial
  rw[r];simp -dsimp -implicitDefEqProofs (disch:=first|omega|assumption|(simp only[bk,Nat.reduceAdd];try omega)) only[go_sem,simprocAttr,a5C];exact⟨c,U.a1,U.a1,_,rfl⟩
 .simp -dsimp -implicitDefEqProofs (disch:=first|omega|assumption|(simp only[bk,Nat.reduceAdd];try omega)) only[go_sem,simprocAttr];refine dd U.a1 (by simp[aT]) λG L x=> ?_;simp -dsimp -implicitDefEqProofs (disch:=first|omega|assumption|(simp only[bk,Nat.reduceAdd];try omega)) only[go_sem,simprocAttr];refine ea x (λ_ b=>by cases b) td (by rw[a4R];omega) (by rw[a4R];omega) λP y z=> ?_;simp -dsimp -implicitDefEqProofs (disch:=first|omega|assumption|(simp only[bk,Nat.reduceAdd];try omega)) only[go_sem,simprocAttr,a5a];exact⟨y,U.a1,z.sub,_,rfl⟩
structure cM (b:U) (a gy c:Nat) (h:ag) (l:List aK):Prop where
 ga:bB b gy c h
 x: ∃d o,b a=some (.cells [.ptr gy 0,.J d o])/\az dx l d
 jm:a≠gy
 jn:a≠c
def cx (c d h:Nat) (k o:U):Prop:= ∀a b,a≠c->a≠d->a≠h->k a=some b->o a=some b
theorem cx.of {lM:Nat}{s:U} (a:s.sub f):cx e i lM s f:=λb c _ _ _ d=>a b c d
def cx.ext (a:Ext e i f t):cx v e i f t:=λb c _ d h k=>a b c d h k
theorem cx.trans (k:cx e i v f t) (o:cx e i v t e4):cx e i v f e4:=λa b c d h p=>o a b c d h (k a b c d h p)
variable{Y:br}
def cx.zv (b:cx e i v f t):cx e i v f (t.set e Y):=λc d a h k o=>by rw[U.ao _ _ a];exact b c d a h k o
variable{H:ag}
def cM.sub (a:cM f e i v H b8) (b:f.sub t):cM t e i v H b8:=⟨a.ga.mono b,by obtain⟨c,d,h,k⟩:=a.x;exact⟨c,d,b _ _ h,k⟩,a.jm,a.jn⟩
variable{M e6 h5:Own}
def cM.put {b:List aK} (a:cM f e i v H b) (c:az dx b8 g):cM (f.set e (.cells [.ptr i 0,.J g M])) e i v H b8:=⟨a.ga.set ⟨a.jm,a.jn⟩,⟨g,M,U.ah _ _ _,c⟩,a.jm,a.jn⟩
def iL (a:Except Int (List aK)) (b:List aK):Int×List aK:=match a with
 | .error c=>(c,b)
 | .ok d=>(0,d)
def a1Z (d:U) (b r x:Nat) (C:ag) (a:List aK) (D:cM d b r x C a) (f: ∀c∈a,c.Fit) (g:a.length<=1000) (h:cn):
  AC Tryz.prog 48 [.ptr b 0,h.V] d λE F=>cM F b r x C (iL (cL a h.d.table) a).2/\cx b r x d F/\E= .v (.int .i64 (iL (cL a h.d.table) a).1):=by
 obtain⟨i,j,y,l⟩:=D.x;obtain⟨⟨G,c,L,P⟩,S,T⟩:=h
 dsimp only
 show AC Tryz.prog _ [.ptr b 0,.agg [al G,bb c,.J (bE L) S,.J (ad P) T]] d _;refine aM hm KL ?_;refine bp λV z=> ?_;have k:=U.ae (Y:= .cells [al G,bb c,.J (bE L) S,.J (ad P) T]) (U.a1) z;have s:=U.af y;have m:b≠V:=by rintro rfl;rw[y]at z;cases z
 have t:=m.symm;refine aa ?_;generalize d.set V _=n at*;refine ai (a1T a i j c l f g n) ?_;rintro E u ⟨o,p⟩;have v:=U.aI (o _ _ (k _ _ y));have W:=D.sub (U.au k o);cases e:cL a c with
 |error w=>rw[e]at p;obtain⟨A,rfl⟩:=p;refine aa ?_;exact⟨_,U.a1,W,cx.of (U.au k o),rfl⟩
 |ok B=>rw[e]at p;obtain⟨H,q,rfl⟩:=p;refine aa ?_;exact⟨_,U.a1,W.put q,(cx.of (U.au k o)).zv,rfl⟩
def a2a (h:U) (k E F:Nat) (g:ag) (a:List aK) (i:cM h k E F g a) (v: ∀b∈a,b.Fit) (w:a.length<=1000) (d:cn) (A:d.d.Fit):
  AC Tryz.prog 47 [.ptr k 0,d.V] h λj l=>cM l k E F g (iL (kc a ⟨d.d.table,d.d.aD,aA,aA⟩) a).2/\cx k E F h l/\j= .v (.int .i64 (iL (kc a ⟨d.d.table,d.d.aD,aA,aA⟩) a).1):=by
 obtain⟨B,H,r,I⟩:=i.x;obtain⟨⟨G,b,c,L⟩,x,P⟩:=d;obtain⟨K,S,M,j9⟩:=A
 dsimp only at*
 show AC Tryz.prog _ [.ptr k 0,.agg [al G,bb b,.J (bE c) x,.J (ad L) P]] h _;refine aM hm KJ ?_;refine bp λT V=> ?_;have W:=U.ae (Y:= .cells [al G,bb b,.J (bE c) x,.J (ad L) P]) (U.a1) V;have k0:=U.af r;have N:k≠T:=by rintro rfl;rw[r]at V;cases V
 have k1:=N.symm;refine aa ?_;have aH:=U.ah h T (.cells [al G,bb b,.J (bE c) x,.J (ad L) P]);generalize h.set T _=O at*;refine ai (a1Y c x O S) ?_;rintro _ Q ⟨y,m,rfl⟩;have fX:=U.af (y _ _ (W _ _ r));have k2:=U.af (y _ _ aH);refine aa ?_;rw[jl];have e:ep ⟨b,c,aA,aA⟩ (bb b:: .J (bE c) m::(ab aA .nil .nil .nil++ab aA .nil .nil .nil)):=⟨⟨m,_,_,_,_,_,_,rfl⟩,⟨bj,me⟩,⟨bj,me⟩,S⟩;have n:eL=bb []:: .J [] .nil::(ab aA .nil .nil .nil++ab aA .nil .nil .nil):=rfl;have X: ∀z C o:R,∀p:List R,putAt (z::C::p) 0 [o]=o::C::p:=λ_ _ _ _=>rfl;have k3: ∀z C o:R,∀p:List R,putAt (z::C::p) 1 [o]=z::o::p:=λ_ _ _ _=>rfl;rw[n,X];generalize ab aA .nil .nil .nil++ab aA .nil .nil .nil=k4 at*;have q:=a1Q a B H ⟨b,c,aA,aA⟩ _ e ⟨K,S,M⟩ I v w Q;have k5:=e.all.1;clear n e;refine aa ?_;refine ai q ?_;clear q;rintro j k6 ⟨s,D⟩;have Y:=y _ _ (W _ _ r);have k7:=U.aI (s _ _ Y);have f:=U.au W (U.au y s);have t:=i.sub f;cases u:kc a ⟨b,c,aA,aA⟩with
 |error k8=>rw[u]at D;obtain⟨k9,rfl⟩:=D;refine aa ?_;exact⟨_,U.a1,t,cx.of f,rfl⟩
 |ok l0=>rw[u]at D;obtain⟨l1,Z,rfl⟩:=D;refine aa ?_;exact⟨_,U.a1,t.put Z,(cx.of f).zv,rfl⟩
def mv (c:List aK) (b:cm):Int×Option aK:=match c.find? (λa=>decide (a.name=b.table))with
 |none=>(3,none)
 |some a=>if b.row.length=a.aD.length+1 then(0,some a)else(6,some a)
theorem FQ (b:U) (r n q:Nat) (s:ag) (x:List aK) (t:cM b r n q s x) (Y:x.length<=1000) (E:cn) (u:E.d.Fit):
  AC Tryz.prog 82 [.ptr r 0,E.V] b λG v=>b.sub v/\match mv x E.d with
   |(L,none)=>G= .aL [.agg eL,.v (.int .i64 L)]
   |(L,some a)=> ∃T,ep a T/\G= .aL [.agg T,.v (.int .i64 L)]:=by
 obtain⟨w,A,P,B⟩:=t.x;obtain⟨⟨y,a,z,c⟩,C,D⟩:=E;obtain⟨Z,j9,k0,k1⟩:=u
 dsimp only at*
 have k2:=bH (q:=c);show AC Tryz.prog _ [.ptr r 0,.agg [al y,bb a,.J (bE z) C,.J (ad c) D]] b _;refine aM hm LD ?_;refine bp λd S=> ?_;refine cX λh V k3 H=> ?_;have k4:=U.af P;have I:r≠d:=by rintro rfl;rw[P]at S;cases S
 have k5:=I.symm;have K:r≠h:=by rintro rfl;rw[P]at V;cases V
 have k6:=K.symm;refine aa ?_;rw[jl];have k7:=gd.all.1;have W: ∀a T,ep a T->putAt eL 0 T=T:=λa T M=>(nJ M).2.2.1;have k8:=gd.all.2.1;have k9:=W _ _ gd;generalize i:eL=e at*;have l0:b.sub ((b.set d (.cells [al y,bb a,.J (bE z) C,.J (ad c) D])).set h (.cells e)):=U.ae (U.ae U.a1 S) V;have aH:((b.set d (.cells [al y,bb a,.J (bE z) C,.J (ad c) D])).set h (.cells e)) d=some (.cells [al y,bb a,.J (bE z) C,.J (ad c) D]):=by rw[U.ao _ _ H,U.ah]
 have aJ:=U.ah (b.set d (.cells [al y,bb a,.J (bE z) C,.J (ad c) D])) h (.cells e);generalize (b.set d _).set h _=N at*;refine ai (find_spec x w A a B a9k N) ?_;rintro G _ ⟨rfl,o⟩;have l1:=U.af aH;have l2:=U.aI aJ;unfold Found at o;rw[i]at o;clear i;unfold mv
 dsimp only
 cases j:x.find? (λp=>decide (p.name=a))with
 |none=>
  rw[j]at o;obtain rfl:=o;refine aa ?_;refine aN λF k=> ?_;have f:F≠h:=by rintro rfl;rw[aJ]at k;cases k
  have O:=f.symm;exact aS
 |some p=>
  rw[j]at o;obtain⟨T,g,rfl⟩:=o;obtain⟨l3,l4,l5,_⟩:=g.all;have l6:=W _ _ g;have l:=λb=>tb p T g b;clear W;refine aa ?_;refine aN λF k=> ?_;have f:F≠h:=by rintro rfl;rw[aJ]at k;cases k
  have O:=f.symm;have Q:F≠d:=by rintro rfl;rw[aH]at k;cases k
  have l7:=Q.symm;refine aa ?_;by_cases m:c.length=p.aD.length+1
  .have X:(c.length)=((p.aD.length+1:Nat):Int):=a9k
   dsimp only
   rw[if_pos m];refine bh (l _) ?_;simp_all
  .have X: ¬(c.length)=((p.aD.length+1:Nat):Int):=a9k
   dsimp only
   rw[if_neg m];refine bh (l _) ?_;simp_all
def a2b (a:U) (b c d:Nat) (h:ag) (k:List aK) (o:cM a b c d h k):
  AC Tryz.prog 26 [.ptr b 0] a λp r=>r=a/\p= .ptr c 0:=by
 obtain⟨y,z,x,C⟩:=o.x;have D:=U.af x;refine aM hm Kf ?_
 repeat' first|refine aG (λ_=> ?_) λ_=> ?_|trivial
def FR (a:U):AC Tryz.prog 29 [] a λx p=> ∃b c d,x= .ptr b 0/\a.sub p/\a b=none/\a c=none/\a d=none/\cM p b c d ag.new []:=by refine aM hm Kl ?_;refine ai (XX a) ?_;rintro _ C ⟨c,d,y,z,rfl,r,h⟩;refine aa ?_;refine aN λb k=> ?_;refine aa ?_;have o:=r.cE k;exact⟨_,U.a1,b,c,d,rfl,U.ae h (U.bF h k),U.bF h k,y,z,r.set o,⟨[],.nil,U.ah _ _ _,trivial⟩,o.1,o.2⟩
theorem a2c (b:List aK) (a:List R) (d:Own) (c:U) (h:az dx b a) (p:b.length<=1000):
  AC Tryz.prog 45 [.J a d] c λk o=>c.sub o/\k= .J a .any:=
 (vg b a d c h p).view λk o r=>by
  obtain⟨x,y,z⟩:=ar.FJ r h;grind
def a2d (a:U) (o p r:Nat) (x:ag) (d:List aK) (y:cM a o p r x d) (G:d.length<=1000):
  AC Tryz.prog 18 [.ptr o 0] a λL z=>a.sub z/\ ∃b,L= .ptr b 0/\a b=none/\cM z b p r x d:=by
 obtain⟨C,P,D,E⟩:=y.x;have S:=U.af D;refine aM hm JZ ?_;refine ai (a2c d C P a E G) ?_;rintro _ T ⟨c,rfl⟩;have V:=U.af (c _ _ D);refine aa ?_;refine aN λb h=> ?_;refine aa ?_;have F:=y.ga.mono c;have k:=F.cE h;exact⟨_,U.a1,U.ae c (U.bF c h),b,rfl,U.bF c h,F.set k,⟨C,.any,U.ah _ _ _,E⟩,k.1,k.2⟩
def a2e (c:U) (p x y:Nat) (z:ag) (a:List aK) (C:cM c p x y z a) (D: ∀h∈a,h.Fit) (k:cy a=true) (E: ∀h∈a,h.In):
  AC Tryz.prog 24 [.ptr p 0] c λo F=> ∃b d,bf c F 76 b d/\o= .J b d/\az dx a b:=by
 obtain⟨b,d,G,L⟩:=C.x;have g:=U.af G;have i:=(mu k).2;refine aM hm Kb ?_;refine ai (FN a b d L D a9k c) ?_;rintro o P ⟨S,r⟩;rw[if_pos k]at r;obtain⟨T,rfl⟩:=r;refine aa ?_;refine ai (a1X a T P k E) ?_;rintro o j ⟨V,W,e,f,rfl⟩;refine aa ?_;exact⟨_,U.a1,V,W,e.base S,rfl,f⟩
def a2f (b:U) (d o p:Nat) (r:ag) (a:List aK) (x:cM b d o p r a) (y: ∀h∈a,h.Fit) (z:cy a=true) (C: ∀h∈a,h.In):
  AC Tryz.prog 24 [.ptr d 0] b λD E=>b.sub E/\ ∃c k,D= .J c k/\az dx a c:=
 (a2e b d o p r a x y z C).mono λ_ _ ⟨c,k,F,G⟩=>⟨F.sub,c,k,G⟩
variable{w j3:ay}
theorem ep.FT (b:ep e7 g) (a:w.sum.length=32) (c:w.cC):ep ⟨e7.name,e7.aD,w,e7.ct⟩ (putAt g 2 (ab w M e6 h5)):=by obtain⟨⟨d,h,k,o,p,r,x,rfl⟩,⟨y,D⟩,z,C⟩:=b;have E:=(aW (M:=h) (e6:=k) (h5:=o) y).len;have F:=(aW (M:=M) (e6:=e6) (h5:=h5) a).len;refine⟨⟨d,M,e6,h5,p,r,x,?_⟩,⟨a,c⟩,z,C⟩;grind[putAt,ab,List.drop_left']
theorem ep.FU (k:ep e7 g) (a:w.sum.length=32) (o:w.cC):ep ⟨e7.name,e7.aD,e7.bM,w⟩ (putAt g 39 (ab w M e6 h5)):=by obtain⟨⟨p,b,c,d,r,x,y,rfl⟩,⟨h,z⟩,⟨C,E⟩,D⟩:=k;have F:=(aW (M:=b) (e6:=c) (h5:=d) h).len;have G:=(aW (M:=M) (e6:=e6) (h5:=h5) a).len;have L:=(aW (M:=r) (e6:=x) (h5:=y) C).len;refine⟨⟨p,b,c,d,M,e6,h5,?_⟩,⟨h,z⟩,⟨a,o⟩,D⟩;grind[putAt,ab,List.take_left',List.drop_eq_nil_of_le,List.length_append]
def fx (p r:ag->Except Int ay×ag) (x:ag) (a:List aK) (b:aK):Int×List aK×ag:=match p x with
 |(.error c,d)=>(c,a,d)
 |(.ok k,d)=>match r d with
  |(.error c,h)=>(c,a,h)
  |(.ok o,h)=>((iL (kd a ⟨b.name,b.aD,k,o⟩) a).1,(iL (kd a ⟨b.name,b.aD,k,o⟩) a).2,h)
def jo (a c:Nat) (h:FuncId) (k:ag->Except Int ay×ag) (o:ay) (p:List Int) (r:Nat):Prop:=
 ∀(b:U) (d:ag) (x y z C:Own),bB b a c d->AC Tryz.prog h [.ptr a 0,.agg (ab o x y z),.J (ad p) C,.v (.int .i64 (r:Int))] b λD E=>yZ b E a c (k d) D
theorem FV (G:U) (h T V:Nat) (y:ag) (b:List aK) (d:cM G h T V y b) (n9: ∀a∈b,a.Fit) (a00:b.length<=1000) (a:aK) (e:List R) (O:ep a e) (Q:a.Fit) (X:List Int) (Y:Own) (Z j9:FuncId) (L P:ag->Except Int ay×ag)
  (a01:gf Tryz.prog Z=true) (a02:gf Tryz.prog j9=true) (k0:jo T V Z L a.bM X (a.aD.length+1)) (k1:jo T V j9 P a.ct X (a.aD.length+1)):
  AC Tryz.prog 83 [.ptr h 0,.agg e,.J (ad X) Y,.bG Z [] [],.bG j9 [] []] G λu l0=>u= .v (.int .i64 (fx L P y b a).1)/\cM l0 h T V (fx L P y b a).2.2 (fx L P y b a).2.1/\cx h T V G l0:=by
 obtain⟨v,S,k2,w⟩:=d.x;have a74:=U.af k2;obtain⟨a81,a83,a84,a86,a03,a04,a05,a06,a07,a08,a88,a89,a90⟩:=O.all;have a09:=λG=>tb a e O G;have c:(match L y with
  |(.error f,g)=>(f,b,g)
  |(.ok A,g)=>match P g with
   |(.error f,j)=>(f,b,j)
   |(.ok B,j)=>((iL (kd b ⟨a.name,a.aD,A,B⟩) b).1,(iL (kd b ⟨a.name,a.aD,A,B⟩) b).2,j))=fx L P y b a:=rfl
 generalize fx L P y b a=a92 at*;refine aM hm LG ?_;refine bp λz l=> ?_;have l1:h≠z:=by rintro rfl;rw[k2]at l;cases l
 have a94:=l1.symm;have k3:=U.ae (Y:= .cells e) (U.a1) l;have bs:=U.ah G z (.cells e);refine bh (a09 _) ?_;have m:=d.ga.cE l;generalize G.set z _=a10 at*;have a11:=d.ga.mono k3;have a13:=k3 _ _ k2;refine fE a01 (k0 a10 y a03 a04 a05 Y a11) ?_;rintro u l2 ⟨n,k4,l3⟩;have ca:=k4 _ _ d.jm d.jn a13;have k5:=k4 _ _ m.1 m.2 bs;have l4:=cx.trans (cx.of (e:=h) k3) (cx.ext k4);generalize L y=a14 at*;obtain⟨a15,g⟩:=a14;cases a15 with
 |error f=>
  obtain⟨l5,a16,C,D,E,q,rfl⟩:=l3
  dsimp only at c n
  have a18:=(aW (M:=C) (e6:=D) (h5:=E) q).all;have H:=lz (M:=C) (e6:=D) (h5:=E) q;refine aa ?_;refine aN λi k=> ?_;refine aa ?_;refine⟨_,U.a1,by rw[<-c],?_,l4.trans (cx.of (U.ae U.a1 k))⟩;rw[<-c];exact⟨n.mono (U.ae U.a1 k),⟨v,S,U.ae U.a1 k _ _ ca,w⟩,d.jm,d.jn⟩
 |ok s=>
  obtain⟨k6,a19,C,D,E,rfl⟩:=l3
  dsimp only at c n
  have a95:=(aW (M:=C) (e6:=D) (h5:=E) k6).all;have H:=lz (M:=C) (e6:=D) (h5:=E) k6;refine aa ?_;refine aN λi k=> ?_;have a27:h≠i:=by rintro rfl;rw[ca]at k;cases k
  have a96:=a27.symm;have a29:z≠i:=by rintro rfl;rw[k5]at k;cases k
  have a97:=a29.symm;have fX:=U.af ca;have a30:=U.af k5;refine aa ?_;have I:=U.ae (Y:= .cells (ab s C D E)) (U.a1) k;have gU:=U.ah l2 i (.cells (ab s C D E));have dg:=I _ _ ca;have a34:=I _ _ k5;have a36:=n.mono I;have l6:=n.cE k;have a38:=l4.trans (cx.of I);generalize l2.set i _=a42 at*;clear fX a30 H;refine fE a02 (k1 a42 g a06 a07 a08 Y a36) ?_;rintro u t ⟨K,M,l7⟩;have eo:=M _ _ d.jm d.jn dg;have l8:=M _ _ m.1 m.2 a34;have a43:=M _ _ l6.1 l6.2 gU;have l9:=a38.trans (cx.ext M);generalize P g=a47 at*;obtain⟨cF,j⟩:=a47;cases cF with
  |error f=>
   obtain⟨l5,a16,o,p,r,q,rfl⟩:=l7
   dsimp only at c K
   have a18:=(aW (M:=o) (e6:=p) (h5:=r) q).all;have H:=lz (M:=o) (e6:=p) (h5:=r) q;refine aa ?_;refine aN λF x=> ?_;refine aa ?_;refine⟨_,U.a1,by rw[<-c],?_,l9.trans (cx.of (U.ae U.a1 x))⟩;rw[<-c];exact⟨K.mono (U.ae U.a1 x),⟨v,S,U.ae U.a1 x _ _ eo,w⟩,d.jm,d.jn⟩
  |ok cc=>
   obtain⟨k7,a48,o,p,r,rfl⟩:=l7
   dsimp only at c K
   have a98:=(aW (M:=o) (e6:=p) (h5:=r) k7).all;have H:=lz (M:=o) (e6:=p) (h5:=r) k7;refine aa ?_;refine aN λF x=> ?_;have a52:z≠F:=by rintro rfl;rw[l8]at x;cases x
   have a99:=a52.symm;have a56:i≠F:=by grind
   have b00:=a56.symm;have a57:h≠F:=by rintro rfl;rw[eo]at x;cases x
   have b01:=a57.symm;have b02:=U.af a43;have b03:=U.aI l8;have n0:=O.FT (M:=C) (e6:=D) (h5:=E) k6 a19;have k8:=n0.FU (M:=o) (e6:=p) (h5:=r) k7 a48;have b04:=n0.all.1;have b05:=k8.all.1;have b06:=k8.all.2.1;have n1:=a1R b v S ⟨a.name,a.aD,s,cc⟩ _ k8 ⟨Q.n,Q.c,Q.cs⟩ w n9 a00;have fX:=U.af eo;have b07: ∀W S,W≠F->t W=some S->(t.set F (.cells (ab cc o p r))) W=some S:=λW S a61 k1=>by rw[U.ao _ _ a61];exact k1
   refine aa ?_;generalize putAt (putAt e 2 (ab s C D E)) 39 (ab cc o p r)=n2 at*;have a62:cM ((t.set F (.cells (ab cc o p r))).set z (.cells n2)) h T V j b:=⟨(K.mono (U.ae U.a1 x)).set m,⟨v,S,by rw[U.ao _ _ l1];simp_all,w⟩,d.jm,d.jn⟩;have a63:cx h T V G ((t.set F (.cells (ab cc o p r))).set z (.cells n2)):=λW a65 A B a68 k9=>by
    have k0:W≠z:=by rintro rfl;rw[l]at k9;cases k9
    rw[U.ao _ _ k0];exact U.ae U.a1 x _ _ (l9 W a65 A B a68 k9)
   generalize (t.set F _).set z _=a69 at*;refine ai (n1 a69) ?_;clear n1;rintro u b08 ⟨n3,N⟩;have n4:=a62.sub n3;obtain⟨b09,b10,ek,b11⟩:=n4.x;have b12:=U.aI ek;have a71:=a63.trans (cx.of n3);cases n5:kd b ⟨a.name,a.aD,s,cc⟩with
   |error f=>
    rw[n5]at N c;obtain⟨l5,rfl⟩:=N
    dsimp only[iL]at c
    refine aa ?_;grind
   |ok b13=>
    rw[n5]at N c;obtain⟨b14,a73,rfl⟩:=N
    dsimp only[iL]at c
    refine aa ?_;exact⟨_,U.a1,by rw[<-c],by rw[<-c];exact n4.put a73,a71.zv⟩
def vi (a:b8.find? (λe7=>decide (e7.name=B))=some e7):e7∈b8:=List.mem_of_find?_eq_some a
variable{q b6:List Int}
def jo.a2g (c:w.sum.length=32) (d:w.cC) (h:w.size<=2000000) (k:1<=e) (o:e<=8) (p:q.length=e):jo i v 84 (λa=>nF e q a w) w q e:=
 λr a x y z C D=>(a1r r i v a D w x y z c d h q C e k o p).mono λE F b=>⟨b.1,b.2.1,b.2.2.x⟩
def jo.a2h (b:w.sum.length=32) (c:w.cC) (d:w.size<=2000000) (h:1<=e) (k:e<=8) (o:q.length=e):jo i v 86 (λa=>iK e q a w) w q e:=
 λp a r x y z C=>a1u p i v a C w r x y b c d q z e h k o
def jo.a2i (c:w.sum.length=32) (d:w.cC) (h:1<=e) (k:e<=8) (o:q.length=e):jo i v 85 (λa=>jc e q a w) w q e:=
 λp a r x y z C=>(YN p i v a C w r x y c d q z e h k o).mono λD E b=>⟨b.1,b.2.1,b.2.2.x⟩
def jo.a2j (c:w.sum.length=32) (d:w.cC) (h:1<=e) (k:e<=8) (o:q.length=e):jo i v 87 (λa=>lo e q a w) w q e:=
 λp a r x y z C=>(YV p i v a C w r x y c d q z e h k o).mono λD E b=>⟨b.1,b.2.1,b.2.2.x⟩
def jq (a:ag) (c:List aK) (d:cm):Int×List aK×ag:=match mv c d with
 |(_,none)=>(3,c,a)
 |(h,some b)=>if h=0 then fx (λa=>iK (b.aD.length+1) d.row a b.bM) (λa=>lo (b.aD.length+1) d.row a b.ct) a c b else(h,c,a)
theorem a2k (x:U) (p y z:Nat) (c:ag) (d:List aK) (e:cM x p y z c d) (f: ∀b∈d,b.Fit) (s:cy d=true) (a:cn) (t:a.d.Fit):
  AC Tryz.prog 50 [.ptr p 0,a.V] x λE C=>E= .v (.int .i64 (jq c d a.d).1)/\cM C p y z (jq c d a.d).2.2 (jq c d a.d).2.1/\cx p y z x C:=by
 obtain⟨u,k3⟩:=mu s;have h:(match mv d a.d with
  |(_,none)=>(3,d,c)
  |(g,some b)=>if g=0 then fx (λc=>iK (b.aD.length+1) a.d.row c b.bM) (λc=>lo (b.aD.length+1) a.d.row c b.ct) c d b else(g,d,c))=jq c d a.d:=rfl
 generalize jq c d a.d=k4 at*;have i:=λC F=>FQ C p y z c d F a9k a t;have j:a.V= .agg [al a.d.kind,bb a.d.table,.J (bE a.d.aD) a.gr,.J (ad a.d.row) a.dm]:=rfl;obtain⟨k5,k6,v,k7⟩:=e.x;rw[j]at i|-;clear j;have k8:=U.af v;have k9:=gd.all.1;refine aM hm KP ?_;refine bp λG w=> ?_;have l:=U.ae (Y:= .cells [al a.d.kind,bb a.d.table,.J (bE a.d.aD) a.gr,.J (ad a.d.row) a.dm]) (U.a1) w;have aH:=U.ah x G (.cells [al a.d.kind,bb a.d.table,.J (bE a.d.aD) a.gr,.J (ad a.d.row) a.dm]);generalize x.set G _=A at*;have m:=e.sub l;refine ai (i A m) ?_;rintro E l0 ⟨L,k⟩;have n:=L _ _ aH;have l1:=U.af n;have B:=m.sub L;have H:=U.au l L;have P: ∀b T,ep b T->putAt eL 0 T=T:=λb T F=>(nJ F).2.2.1;have l2:=gd.all.2.1;have l3:=P _ _ gd;have S:=jl;generalize eL=l4 at*;unfold mv at k h;cases V:d.find? (λb=>decide (b.name=a.d.table))with
 |none=>
  rw[V]at k h
  dsimp only at k h
  obtain rfl:=k;refine aa ?_;refine aN λW r=> ?_;rw[S];refine aa ?_;grind[U.a1,U.ae,cx.of,U.au]
 |some b=>
  rw[V]at k h;have hm:=vi V
  dsimp only at k h
  by_cases D:a.d.row.length=b.aD.length+1
  .rw[if_pos D]at k h;obtain⟨T,o,rfl⟩:=k;obtain⟨I,K,M,_⟩:=o.all;have N:=P _ _ o;refine aa ?_;refine aN λW r=> ?_;rw[S]
   dsimp only at h
   rw[if_pos rfl]at h;have O:G≠W:=by rintro rfl;rw[n]at r;cases r
   have l5:=O.symm;obtain⟨Q,X⟩:=o.k;obtain⟨Y,Z⟩:=o.z;have q:=u b hm;have l6:=q.c;have l7:=q.k.size;have j9:=B.sub (U.ae (Y:= .cells T) U.a1 r);have k0:=FV _ p y z c d j9 f a9k b T o (f b hm) a.d.row a.dm 86 87 _ _ a9p a9p (jo.a2h Q X a9k a9k a9k D) (jo.a2j Y Z a9k a9k D);refine aa ?_;refine ai k0 ?_;rintro E l8 ⟨rfl,k1,k2⟩;refine aa ?_;exact⟨_,U.a1,by rw[<-h];exact k1,(cx.of (U.au H (U.ae U.a1 r))).trans k2⟩
  .rw[if_neg D]at k h;obtain⟨T,o,rfl⟩:=k;obtain⟨I,K,M,_⟩:=o.all;have N:=P _ _ o;refine aa ?_;refine aN λW r=> ?_;rw[S];refine aa ?_
   dsimp only at h
   rw[if_neg a9o]at h;grind[U.a1,U.ae,cx.of,U.au]
def vj (d:ag) (h:List aK) (k:List UInt8) (o:List (List Int)) (b:R):Prop:=match h.find? (λa=>decide (a.name=k))with
 |none=>b= .aL [.J [] .nil,.v (.int .i64 3)]
 |some a=>match ed d (a.aD.length+1) (a.bM.size.toNat+1) a.bM with
  |none=>b= .aL [.J [] .nil,.v (.int .i64 21)]
  |some _=> ∃c,b= .aL [.J c .any,.v (.int .i64 0)]/\az isRow o c
def a2l (c:U) (D L P:Nat) (h:ag) (d:List aK) (S:cM c D L P h d) (l:cy d=true) (k:List UInt8) (r:List (List Int))
  (m: ∀a o,d.find? (λa=>decide (a.name=k))=some a->ed h (a.aD.length+1) (a.bM.size.toNat+1) a.bM=some o->r.Perm o/\r.Pairwise λn q=> ¬fM q n<0):
  AC Tryz.prog 27 [.ptr D 0,bb k] c λE F=>c.sub F/\vj h d k r E:=by
 obtain⟨s,Y⟩:=mu l;obtain⟨t,u,V,v⟩:=S.x;have Z:=U.af V;have j9:=gd.all.1;have W: ∀a T,ep a T->putAt eL 0 T=T:=λa T p=>(nJ p).2.2.1;have k0:=W _ _ gd;have e:=jl;have b:=find_spec d t u k v a9k c;unfold Found at b;unfold vj;generalize eL=k1 at*;refine aM hm Kh ?_;refine ai b ?_;clear b;rintro E k2 ⟨rfl,b⟩;cases x:d.find? (λa=>decide (a.name=k))with
 |none=>rw[x]at b;obtain rfl:=b;refine aa ?_;refine aN λf y=> ?_;rw[e];exact aS
 |some a=>
  rw[x]at b;obtain⟨T,z,rfl⟩:=b;obtain⟨k3,k4,k5,k6,w,A,B,k7,k8,k9,l0,l1,l2⟩:=z.all;have l3:=W _ _ z;have H:=λc=>tb a T z c;have hm:=vi x;have g:=s a hm;have l4:=g.c;have l5:=g.k.size;refine aa ?_;refine aN λf y=> ?_;rw[e];have I:D≠f:=by rintro rfl;rw[V]at y;cases y
  have l6:=I.symm;have G:=U.ae (Y:= .cells T) (U.a1) y;have K:=S.sub G;obtain⟨M,N⟩:=z.k;have O:=λF p=>a1x F L P h p a.bM w A B M N a9k (a.aD.length+1) a9k a9k r (λo p=>m a o x p);refine aa ?_;refine bh (H _) ?_;refine ai (O _ K.ga) ?_;rintro E l7 ⟨i,C⟩
  dsimp only
  cases j:ed h (a.aD.length+1) (a.bM.size.toNat+1) a.bM with
  |none=>rw[j]at C;obtain rfl:=C;refine aa ?_;exact U.au G i
  |some o=>rw[j]at C;obtain⟨Q,rfl,X⟩:=C;refine aa ?_;exact⟨U.au G i,Q,rfl,X⟩
structure vk (c:ag) (d:Nat) (aU aV:List Int) (a:ay) (rows:List (List Int)):Prop where
 one:rows.length<=1
 sound: ∀b∈rows,nD c d aU aV a b
 full:rows= []->ew aU aV a=true-> ∀b,¬nD c d aU aV a b
def vl (a:ag) (b:Nat) (c d:List Int) (h:ay):Prop:= ∃k,mo a b c d h k/\ew c d h=true/\fj a b k=none
structure zw where
 rows:List (List Int)
 us:List R
 L:R
 bI:List ay
 es:List R
 oG:R
structure vm (c:ag) (d:Nat) (aU aV:List Int) (b:ay) (A:ij) (B:U) (h:Nat) (x:zw) (o:U):Prop where
 at_:dF A B o h x.us x.L x.es x.oG
 vn:az isRow x.rows x.us
 rd: ∀a∈x.rows,a.length=d
 zx:x.rows.length<=1
 pK:az r2 x.bI x.es
 qv: ∀a∈x.rows,nD c d aU aV b a
 or: ∀k∈x.bI,mo c d aU aV b k/\ew aU aV b=true/\1<=gz k
 co:x.rows= []->ew aU aV b=true-> ∀a,nD c d aU aV b a-> ∃k∈x.bI,nD c d aU aV k a
 qu:(x.bI.map gz).sum<=2097152
variable{c0:c3}
def mo.snoc {a:ay} (c:mo H e q b6 j3 a) (b:fj H e a=some c0) (d:w∈c0.kids) (h:ew q b6 w=true):mo H e q b6 j3 w:=by
 induction c with
 |refl p=>exact .step b d h (.refl _)
 |step h1 k o _ ih=>exact .step h1 k o (ih b)
theorem zy: ∀ {ks:List ay},(∀a∈ks,1<=gz a)->ks.length<=(ks.map gz).sum
 | [],_=>a5n _
 |a::ks,b=>by
  have:=zy (ks:=ks) λa c=>b a (by simp[c]);grind
def vm.len {c:ag}{d:Nat}{h k:List Int}{o:ay}{p:ij}{r:U}{x:Nat}{b:zw}{y:U} (a:vm c d h k o p r x b y):b.es.length<=2097152:=by rw[a.pK.len];exact a5F (zy λz C=>(a.or z C).2.2) a.qu
theorem a2m (Z:U) (k5 b00:Nat) (m:ag) (b50:bB Z k5 b00 m) (D:ay) (n1 n2 n3:Own) (b01:D.sum.length=32) (b51:D.cC) (p x:List Int) (n4 n5 n9:Own) (F:Nat) (t:cR p x F=true) (c29:D.size<=1048576) (b02:ew p x D=true->1<=D.size):
  AC Tryz.prog 38 [.ptr k5 0,.agg (ab D n1 n2 n3),.agg (nB p x n4 n5 n9),.v (.int .i64 (F:Int))] Z λa30 E=>Z.sub E/\
   ((vl m F p x D/\ ∃c f,a30= .aL [.agg [c,f],.v (.int .i64 0),.v (.int .i64 21)])\/
   ∃rows I y u v,vk m F p x D rows/\ar Z E 1 I y/\az isRow rows I/\(∀h∈rows,h.length=F)/\a30= .aL [.agg [y,.v (.int .i64 u)],.v (.int .i64 v),.v (.int .i64 0)]):=by
 obtain⟨b03,c30,b04,a34⟩:=lk t;have b52:=(aW (M:=n1) (e6:=n2) (h5:=n3) b01).all;refine aM hm Kt ?_;refine bp λa36 c31=> ?_;refine cX λb05 c32 c33 c34=> ?_;refine hp λa00 a38 c35 c2 aH aJ=> ?_;generalize k6:((Z.set a36 _).set b05 _).set a00 _=g;have a01:Z.sub g:=by subst k6;exact aS
 have bm:g a36=some (.cells (ab D n1 n2 n3)):=by subst k6;exact aS
 have bs:g b05=some (.cells (nB p x n4 n5 n9)):=by subst k6;exact aS
 have bt:g a00=some (.cells [.J [] .nil,.v (.int .i64 0)]):=by subst k6;exact aS
 clear k6;have b53:=b50.mono a01;refine bh (a1c p x _ _ _ F a9k g) ?_;rw[t];have b54:=U.af bm;have b55:=U.af bs;refine aa ?_;refine aN λd j9=> ?_;have b06:a36≠d:=by rintro rfl;rw[j9]at bm;cases bm
 have b56:=b06.symm;have b57:a00≠d:=by rintro rfl;rw[j9]at bt;cases bt
 have c36:=b57.symm;refine aa ?_
 let a:ij:=⟨k5,p,x,n4,n5,n9,F⟩;have b07:dF a g (g.set d (.cells (ly k5 p x n4 n5 n9 F (.J [] .nil) 0 0 0 (.J [] .nil)))) d [] (.J [] .nil) [] (.J [] .nil):=
  ⟨j9,⟨0,0,0,U.ah _ _ _⟩,ar.nil (U.ae U.a1 j9),⟨U.ae U.a1 j9,(λ_ b=>by cases b),.inl ⟨rfl,.inl rfl⟩⟩,(λb=>by cases b),(λb=>by cases b),λ_ b=>by cases b⟩
 refine ai (Fi a g _ d [] _ [] _ b07 D n1 n2 n3 b01 b51 (by show p.length<=8;omega) a9l) ?_;rintro _ b58 ⟨b59,b60,a42,k0⟩;have a02: ∃b08,vm m F p x D a g d ⟨[],[],.J [] .nil,b08,b60,b59⟩ b58:=by
  have c37:gz D<=2097152:=by unfold gz;omega
  split at k0
  .rename_i w;obtain⟨b61,a43,rfl⟩:=k0;exact⟨[D],a42,trivial,(λ_ b=>by cases b),a5o _,⟨a43,trivial⟩,(λ_ b=>by cases b),(λz a47=>by
    obtain rfl:=a5b.1 a47;have:=b02 w;exact⟨.refl _,w,by unfold gz;omega⟩),(λ_ _ h r=>⟨D,a9l,r⟩),by trivial⟩
  .rename_i w;subst k0;exact⟨[],a42,trivial,(λ_ b=>by cases b),a5o _,trivial,(λ_ b=>by cases b),(λ_ b=>by cases b),(λ_ b=>absurd b w),a5o _⟩
 obtain⟨b08,a02⟩:=a02;refine aa ?_;refine ch [0,3,8,11] (λ_:zw=> []) (λc E=>vm m F p x D a g d c E) (λc=>(c.bI.map gz).sum) _ ⟨a02,aS⟩ ?_;clear a02 a42 k0 b07 b54 b55 b06 b56 bm bs b52 j9;rintro⟨rows,I,y,b09,a48,c38⟩ E o c39;have i:=o.at_
 dsimp only at i
 have c40:=i;obtain⟨u,v,k7,b10⟩:=i.x;obtain⟨c41,c42⟩:=i.w.len;have fX:=U.af b10;refine aa ?_;refine aG (λa03=> ?_) λa03=> ?_;rotate_left;have a52:=o.pK.len
 .have c43:=a03;have b11:a48= []:=a4N a9k;have b62:b09= []:=a4N (by rw[b11]at a52;exact a52.symm);subst b11;subst b62;have b63:=U.aI (i.l.1 _ _ bt);have c44:=fH i.l;refine aa ?_;refine⟨_,U.a1,U.ae (U.au a01 i.l.1) a38,.inr ⟨rows,I,y,u,v,⟨o.zx,o.qv,λT A h r=> ?_⟩,ar.other (i.l.base a01) a38 (λG=> ?_),o.vn,o.rd,rfl⟩⟩
  .obtain⟨z,a47,_⟩:=o.co T A h r;cases a47
  .have:=ar.fresh i.l G;rw[bt]at this;cases this
 have a52:=o.pK.len;have b64:a48≠ []:=by grind
 obtain⟨b12,b13,post,b14,b15,c45,b16⟩:=i.sort b64;obtain⟨c46,b17⟩:=oF.of (s:=E) (l:=b12) (g:=b13) (A:=post) (e1:=a48) (b5:=71) (ds:= []) a9q λa04 a56 a57 t=>by
  obtain⟨z,_,T⟩:=o.pK.mem a56;obtain⟨B,_,A⟩:=o.pK.mem t;obtain⟨a03,b65⟩:=a1b T A;exact⟨a03,λa61 _=>b65 _⟩
 rw[b14];clear fX b14;refine ai (F9 a0V a0P a0L a0N a0J a0H a9k rfl b15 (a5F o.len a9k) b17 λG K=> ?_) ?_
 .obtain⟨z,_,T,_,L,P,S,c,f,id,b66,rfl⟩:=o.pK.mem K;obtain⟨M,N,_⟩:=uU (M:=L) (e6:=P) (h5:=S) (e:=c) (i:=f) (id:=id) (b1:=b66) T;exact⟨M,by rw[hK,aX,if_pos rfl,N]⟩
 rintro _ _ ⟨a61,k1,rfl⟩;have k8:=b16 a61 k1;obtain⟨b67,k9,b68⟩:=o.pK.perm k1
 match a61,b67,b68,k1,k9,k8 with
 | [],_,_,k1,_,_=>exact absurd k1.length_eq (by simp_all)
 |G::k2,z::O,⟨b69,b18⟩,k1,k9,k8=>
 obtain⟨u,v,k7,a62⟩:=k8.x;obtain⟨C,c47,c48,a63,c49,c50,b70,b19⟩:=k8.tail;generalize W E b12 b13 post (G::k2)=a05 at*;have fX:=U.af a62;have a65:=U.aI a62;clear b16 b17 b15 b10;obtain⟨l0,b71,L,P,S,b72,b73,b74,b75,rfl⟩:=b69;have b20:=(uU (M:=L) (e6:=P) (h5:=S) (e:=b72) (i:=b73) (id:=b74) (b1:=b75) l0).2.2.1;rw[hK,b20]at b19;have c51:=(aW (M:=L) (e6:=P) (h5:=S) l0).all;have b21:=lz (M:=L) (e6:=P) (h5:=S) l0;refine aa ?_;refine aN λk3 a68=> ?_;have b22:d≠k3:=by rintro rfl;rw[a62]at a68;cases a68
 have b23:=b22.symm;refine aa ?_;have a69:(a05.set d (.cells (ly a.gy a.aU a.aV a.hs a.eT a.hr a.d y u v k7 C))) k3=none:=(U.ao _ _ b23).trans a68;have b24:=(a63 u v k7).fresh a69;have b25:=(a63 u v k7).mono (U.ae (Y:= .cells (ab z L P S)) U.a1 a69);rw[U.dZ a05 b22]at b25;have gU:((a05.set k3 (.cells (ab z L P S))).set d (.cells (ly a.gy a.aU a.aV a.hs a.eT a.hr a.d y u v k7 C))) k3=some (.cells (ab z L P S)):=(U.ao _ _ b23).trans (U.ah _ _ _);generalize (a05.set k3 (.cells (ab z L P S))).set d _=a71 at*;clear a69 a63 b70 b19 b20 a65 fX k8 b21;obtain⟨b76,l1⟩:=b25.wide;have b77:res (kb d y C) a71 k3=some (.cells (ab z L P S)):=by
  rw[oH];exact gU;rintro(b|b|b)
  .omega
  .exact b24.l b
  .exact b24.w b
 generalize res (kb d y C) a71=b78 at*;have c52:(b09.map gz).sum=gz z+(O.map gz).sum:=by rw[<-(k9.map gz).sum_nat];simp
 have Q:=λB j=>o.or B (k9.mem_iff.1 j);have b79:=o.qu
 dsimp only at b79
 refine ai (a1k a b78 a71 d I rows y k2 C b76 o.vn o.rd a34 b03 z L P S l0) ?_;rintro _ b26 ⟨n,a57,rfl,b80⟩;have b81:=U.af (n.l.1 _ _ b77);refine aa ?_;refine aG (λt=> ?_) λt=> ?_
 .have b02:=b80 t;refine⟨⟨rows,I,y,O,k2,C⟩,⟨n.base l1,o.vn,o.rd,o.zx,b18,o.qv,λB j=>Q B (by simp[j]),λb=> ?_,?_⟩,?_⟩;simp_all
  .show(O.map gz).sum<= _;omega
  grind
 have b27:=(b53.mono l1).mono n.l.1;refine ai (xz b26 k5 b00 m b27 z L P S l0 b71 F b04 a34) ?_;rintro a30 X ⟨a73,a06⟩;cases H:fj m F z with
 |none=>
  rw[H]at a06;obtain rfl:=a06;have b28:=a73 _ _ (n.l.1 _ _ (l1 _ _ bt));refine aa ?_;refine aN λl q=> ?_;have b82:a00≠l:=by rintro rfl;rw[b28]at q;cases q
  have c53:=b82.symm;have b63:=U.aI b28;refine aa ?_;have b29:=U.au a01 (U.au l1 (U.au n.l.1 a73));refine⟨_,U.a1,U.ae (U.ae b29 (U.bF b29 q)) a38,.inl ⟨⟨z,(Q z a9l).1,(Q z a9l).2.1,H⟩,_,_,rfl⟩⟩
 |some k=>
  rw[H]at a06;obtain⟨c,f,rfl,c54,c55,c56,k4,l2,a07,a74,_,_⟩:=a06;have a08:=n.mono a73;obtain⟨l3,Y,l4,a09⟩:=a08.x;have c57:=fH k4;have c58:=fH l2;refine aa ?_;refine aN λl q=> ?_;have b30:d≠l:=by rintro rfl;rw[a09]at q;cases q
  have b31:=b30.symm;have fX:=U.af a09;have a65:=U.aI a09;have a56:bn .add (.int .i64 Y) (.int .i64 1)=some (.int .i64 (IntKind.i64.wrap (Y+1))):=rfl;have b32:=bR.dQ k4 a9k rfl (a07.cells λ_ _=>df.cells);have b83:=b32.len;rw[a07.len]at b83;have a81:(X.set d (.cells (ly a.gy a.aU a.aV a.hs a.eT a.hr a.d y l3 (IntKind.i64.wrap (Y+1)) l4 C))) l=none:=(U.ao _ _ b31).trans q;have a83:=(a08.set l3 (IntKind.i64.wrap (Y+1)) l4).mono (U.ae (Y:= .cells [.v (.int .u8 (k.kind.toNat)),c,f]) U.a1 a81);rw[U.dZ X b30]at a83;refine aa ?_;have lf:((X.set l (.cells [.v (.int .u8 (k.kind.toNat)),c,f])).set d (.cells (ly a.gy a.aU a.aV a.hs a.eT a.hr a.d y l3 (IntKind.i64.wrap (Y+1)) l4 C))) l=some (.cells [.v (.int .u8 (k.kind.toNat)),c,f]):=(U.ao _ _ b31).trans (U.ah _ _ _);have b33:=(a08.set l3 (IntKind.i64.wrap (Y+1)) l4).fresh a81;have b84: ∀h a10,X h=some a10-> ¬kb d y C h->((X.set l (.cells [.v (.int .u8 (k.kind.toNat)),c,f])).set d (.cells (ly a.gy a.aU a.aV a.hs a.eT a.hr a.d y l3 (IntKind.i64.wrap (Y+1)) l4 C))) h=some a10:=λh a10 r hm=>by
   have L:h≠d:=λG=>hm (.inl G);have P:h≠l:=by rintro rfl;rw[q]at r;cases r
   rw[U.ao _ _ L,U.ao _ _ P];exact r
  generalize (X.set l (.cells [.v (.int .u8 (k.kind.toNat)),c,f])).set d _=a84 at*;have a86: ∀ {a04:R}{h:Nat},cO a04=some h->b26 h=none-> ¬kb d y C h:=λt r hm=>by
   rcases hm with rfl|G|G
   .obtain⟨_,_,_,b⟩:=n.x;rw[r]at b;cases b
   .exact ar.has n.l G r
   .exact n.w.has G r
  have a88:(res (kb d y C) X).sub (res (kb d y C) a84):=λh a10 r=>by
   grind[hm,kb,r6,oH]
  have b85:=(bR.dQ (ar.res k4 λl5 V=>a86 V (ar.fresh k4 V)) a9k rfl (a07.cells λ_ _=>df.cells)).mono (U.au (Fk l2.1) a88);have b34:=(bR.dQ (ar.res l2 λl5 V=>a86 V (U.bF k4.1 (ar.fresh l2 V))) a9k rfl (a74.cells λ_ _=>bu.cells)).mono a88;obtain⟨b86,b87⟩:=a83.wide;have b88:res (kb d y C) a84 l=some (.cells [.v (.int .u8 (k.kind.toNat:Int)),c,f]):=by
   rw[oH];exact lf;rintro(b|b|b)
   .trivial
   .exact b33.l b
   .exact b33.w b
  generalize res (kb d y C) a84=l6 at*;have b89:=U.au l1 b87;clear b84 a86 a88 b32 k4 l2 fX a65 a09 a08 a83 lf a56 q a81 b27 b81;have b35:=(xT H).ok;obtain⟨b90,_,_⟩:=lh b35;refine ch [0,3,8,11,13,79,80] (λc:Nat×(List (List Int))×List R×R=> [(81,.v (.int .i64 (c.1)))]) (λc E=>c.1<=k.rows.length/\dF a l6 E d c.2.2.1 c.2.2.2 k2 C/\az isRow c.2.1 c.2.2.1/\(∀h∈c.2.1,h.length=F)/\c.2.1.length<=1/\(∀h∈c.2.1,nD m F p x D h)/\(c.2.1= []->rows= []/\ ∀h,(h,true)∈k.rows.take c.1->jf p x h=false)) (λc=>k.rows.length - c.1) (0,rows,I,y) ⟨⟨a5o _,b86,o.vn,o.rd,o.zx,o.qv,λb=>⟨b,λh r=>by simp at r⟩⟩,aS⟩ ?_;rintro⟨e,b36,a11,a13⟩ b91 ⟨b92,l7,a89,l8,a14,a15,a16⟩ c59
  dsimp only at b92 l7 a89 l8 a14 a15 a16
  refine aa ?_;refine aG (λc2=> ?_) λc2=> ?_
  .have a90:e<k.rows.length:=a9k;obtain⟨_,K,a92,rfl⟩:=a07.get (i:=e) (x:=k.rows.getD e ([],false)) (by simp_all);obtain⟨l5,b93,V⟩:=b85.get e _ K;have b37: ∀E,l6.sub E->dn true 2 E l5=some (.agg [.J (ad (k.rows.getD e ([],false)).1) a92,.v (.bool (k.rows.getD e ([],false)).2)]):=λE b=>V.ld E b true 2 a9k (by simp[hK]);have b94:=b37 b91 l7.l.1;have hm:k.rows.getD e ([],false)∈k.rows:=by simp_all
   have G:=eQ (b:=([],false)) a90;generalize k.rows.getD e ([],false)=b95 at*;obtain⟨a18,a94⟩:=b95
   dsimp only at b94 G hm
   have b38:=b90 _ hm;clear b37 V K;refine aa ?_;refine aN λc60 b96=> ?_;have b97:=l7.mono (U.ae (Y:= .cells [.J (ad a18) a92,.v (.bool a94)]) U.a1 b96);refine aa ?_;refine ai (a1j a l6 _ d a11 b36 a13 k2 C b97 a89 l8 b04 a34 b03 a14 a18 a94 a92 b38) ?_;rintro _ c61 ⟨b39,b98,b40,b41,b42,a95⟩;refine aa ?_;have b99:a94=true->jf p x a18=true->nD m F p x D a18:=λT A=>by subst T;exact⟨z,k,(Q z a9l).1,H,hm,A⟩
   split at a95
   .rename_i a19;rw[a4L]at a19;obtain⟨h,rfl,r⟩:=a95;refine⟨(e+1,[h],b39,b40),⟨a90,b41,b42,λc00 b=> ?_,a9l,λc00 b=> ?_,λb=>by cases b⟩,rfl,a9k⟩
    all_goals
     obtain rfl:=a5b.1 b;rcases r with rfl|r
    .exact b38
    .exact l8 _ r
    .exact b99 a19.1 a19.2
    .exact a15 _ r
   .rename_i a19;subst a95;refine⟨(e+1,b98,b39,b40),⟨a90,b41,b42,l8,a14,a15,λb=>⟨(a16 b).1,λh r=> ?_⟩⟩,rfl,a9k⟩;grind
  obtain rfl:e=k.rows.length:=a9k;rw[a5d]at a16;have c62:=U.af (l7.l.1 _ _ b88);have c01:=b34.len;rw[a74.len]at c01;refine aa ?_;refine ch [0,3,8,11,90,91] (λc:Nat×List R×R=> [(92,.v (.int .i64 (c.1)))]) (λc E=>c.1<=k.kids.length/\dF a l6 E d a11 a13 c.2.1 c.2.2/\az r2 (O++(k.kids.take c.1).filter (ew p x)) c.2.1) (λc=>k.kids.length - c.1) (0,k2,C) ⟨⟨a5o _,l7,by simpa using b18⟩,aS⟩ ?_;rintro⟨s,a96,b43⟩ b44 ⟨c02,a27,l9⟩ c63
  dsimp only at c02 a27 l9
  refine aa ?_;refine aG (λaH=> ?_) λaH=> ?_
  .have b45:s<k.kids.length:=a9k;obtain⟨_,K,a97,c03,M,N,n0,rfl⟩:=a74.get (i:=s) (x:=k.kids.getD s aA) (by simp_all);obtain⟨l5,b93,V⟩:=b34.get s _ K;have c04:=(aW (M:=M) (e6:=N) (h5:=n0) a97).all;have c64:dn true 37 b44 l5=some (.agg (ab (k.kids.getD s aA) M N n0)):=by have:=V.ld b44 a27.l.1 true 37 a9k (by rw[hK];omega);rw[this,aX,if_pos rfl,hK,c04.2.1]
   have G:=eQ (b:=aA) b45;have b21:=lz (M:=M) (e6:=N) (h5:=n0) a97;generalize k.kids.getD s aA=a98 at*;have c05:a96.length<=100000000:=by have T:=l9.len;rw[a4J]at T;have A:=zy (ks:=O) λB j=>(Q B (by simp[j])).2.2;grind
   clear V K;refine aa ?_;refine aN λc65 c06=> ?_;have c07:=a27.mono (U.ae (Y:= .cells (ab a98 M N n0)) U.a1 c06);refine aa ?_;refine ai (Fi a l6 _ d a11 a13 a96 b43 c07 a98 M N n0 a97 c03 (by show p.length<=8;omega) c05) ?_;rintro _ c66 ⟨c08,b46,k0,b47⟩;refine aa ?_;refine⟨(s+1,b46,c08),⟨b45,k0,?_⟩,rfl,a9k⟩;show az r2 (O++(k.kids.take (s+1)).filter (ew p x)) b46;rw[G,a7M,<-a4U];split at b47
   .rename_i w;obtain⟨b61,a43,rfl⟩:=b47;have w:ew p x a98=true:=w;rw[a8D w];exact l9.snoc a43
   grind
  .obtain rfl:s=k.kids.length:=a9k;rw[a5d]at l9;obtain⟨c67,c68⟩:=Fl (q:=p) (b6:=x) H;have c09:=uW b35;refine⟨⟨b36,a11,a13,O++k.kids.filter (ew p x),a96,b43⟩,⟨a27.base b89,a89,l8,a14,l9,a15,λB j=> ?_,λT A h r=> ?_,?_⟩,?_⟩
   .rcases a4X.1 j with j|j
    .simp_all
    .obtain⟨a29,a99⟩:=a7I.1 j;obtain⟨_,a04,a57⟩:=nE (c09 B a29);have:=a04 (a57 (yW a99));exact⟨(Q z a9l).1.snoc H a29 a99,(Q z a9l).2.1,by unfold gz;omega⟩
   .obtain⟨a29,a99⟩:=a16 T;obtain⟨c69,b48,c21⟩:=o.co a29 A h r;rcases a5g.1 (k9.mem_iff.2 b48)with rfl|b48
    .obtain⟨c70,c71,c22,c23,c24,c25⟩:=c21;cases c22 with
     |refl=>simp_all
     |step b49 c26 c27 c28=>rw[H]at b49;obtain rfl:=a4G b49;exact⟨_,a6O _ (a7I.2 ⟨c26,c27⟩),_,_,c28,c23,c24,c25⟩
    grind
   grind;grind
def zz (d:ag) (h:List aK) (k:List UInt8) (id:Int) (b:R):Prop:=match h.find? (λa=>decide (a.name=k))with
 |none=>b= .aL [.J [] .nil,.v (.bool false),.v (.int .i64 3)]
 |some a=>
  (vl d (a.aD.length+1) (id::List.replicate a.aD.length iI) (id::List.replicate a.aD.length jg) a.bM/\b= .aL [.J [] .nil,.v (.bool false),.v (.int .i64 21)])\/
  ∃rows,vk d (a.aD.length+1) (id::List.replicate a.aD.length iI) (id::List.replicate a.aD.length jg) a.bM rows/\(∀c∈rows,c.length=a.aD.length+1)/\
   ((rows= []/\b= .aL [.J [] .nil,.v (.bool false),.v (.int .i64 0)])\/ ∃c o p,rows=c::o/\b= .aL [.J (ad c) p,.v (.bool true),.v (.int .i64 0)])
theorem a2n (a:cy b8=true) (b:e7∈b8):fv (e7.aD.length+1) e7.bM=true:=by simp only[cy,a4L,a4Z,a5Z,decide_eq_true_eq]at a;obtain⟨c,d,rfl⟩:=a5t b;simp_all [fQ]
theorem FW (id:Int) (a:e<=7):cR (id::List.replicate e iI) (id::List.replicate e jg) (e+1)=true:=by have hm:iI<=jg:=a9o;simp only[cR,a4M,a6z,a4L,decide_eq_true_eq,a4Z,a5Z];grind
theorem a2o (x:U) (y n j9:Nat) (q:ag) (E:List aK) (s:cM x y n j9 q E) (k0:cy E=true) (W:List UInt8) (id:Int):
  AC Tryz.prog 12 [.ptr y 0,bb W,.v (.int .i64 id)] x λt a02=>x.sub a02/\zz q E W id t:=by
 obtain⟨a03,a86⟩:=mu k0;obtain⟨a04,a05,F,a06⟩:=s.x;have a88:=U.af F;have a89:=gd.all.1;have u: ∀a T,ep a T->putAt eL 0 T=T:=λa T v=>(nJ v).2.2.1;have a07:=u _ _ gd;have w:=jl;have k:=find_spec E a04 a05 W a06 a9k x;unfold Found at k;unfold zz;generalize eL=a90 at*;refine aM hm JT ?_;refine ai k ?_;clear k;rintro t k1 ⟨rfl,k⟩;cases A:E.find? (λa=>decide (a.name=W))with
 |none=>rw[A]at k;obtain rfl:=k;refine aa ?_;refine aN λa92 a94=> ?_;rw[w];exact aS
 |some a=>
  rw[A]at k;obtain⟨T,e,rfl⟩:=k;obtain⟨a95,a96,a97,a98,k2,k3,k4,k5,a08,a09,a99,b00,b01⟩:=e.all;have b02:=u _ _ e;have k6:=λx=>tb a T e x;have hm:=vi A;have k7:=a03 a hm;have a10:=k7.c;have a11:=k7.k.size;obtain⟨a13,a14⟩:=e.k;clear u a07;refine aa ?_;refine aN λz B=> ?_;rw[w];clear w;have a15:y≠z:=by rintro rfl;rw[F]at B;cases B
  have b03:=a15.symm;have C:=U.ae (Y:= .cells T) (U.a1) B;have cW:=U.ah k1 z (.cells T);refine aa ?_;refine bh (k6 _) ?_;generalize k1.set z _=H at*;refine ai (a0G (a.aD.length+1) a9k a9k H) ?_;rintro _ k8 ⟨b04,b05,rfl,b06,f,g⟩;have k9:(ad (List.replicate (a.aD.length+1) iI)).length=a.aD.length+1:=by rw[bH,a6z]
  have l0:(ad (List.replicate (a.aD.length+1) jg)).length=a.aD.length+1:=by rw[bH,a6z]
  obtain⟨aO,d,G,o,rfl,L,l1,a16,I,l2,b07,_⟩:=f.an (λK=>by rw[K]at k9;simp at k9);obtain⟨b,c,D,p,rfl,M,l3,a18,N,l4,b08,_⟩:=g.an (λK=>by rw[K]at l0;simp at l0);rw[a5y]at a16 I l2 a18 N l4;have l5:=g.1 _ _ l1;have l6:aO≠b:=by rintro rfl;rw[l1]at M;cases M
  have a19:=l6.symm;have i:=U.au f.1 g.1;have l7:=i _ _ cW;have eo:=i _ _ (C _ _ F);have b09:=(s.sub C).sub i;have P:=U.bF f.1 M;have b10:z≠aO:=by rintro rfl;rw[cW]at L;cases L
  have b11:z≠b:=by rintro rfl;rw[cW]at P;cases P
  have b12:y≠aO:=by rintro rfl;rw[C _ _ F]at L;cases L
  have b13:y≠b:=by rintro rfl;rw[C _ _ F]at P;cases P
  refine aa ?_;refine aN λr h=> ?_;have a27:aO≠r:=by rintro rfl;rw[l5]at h;cases h
  have a29:b≠r:=by rintro rfl;rw[l3]at h;cases h
  have a30:z≠r:=by rintro rfl;rw[l7]at h;cases h
  have a34:y≠r:=by rintro rfl;rw[eo]at h;cases h
  have b14:=a27.symm;have b15:=a29.symm;have b16:=a30.symm;have b17:=a34.symm;have b18:cP 1 (.an aO d G 1) (.v (.int .i64 0))=some (.ptr aO 0):=by grind[jH]
  have b19:cP 1 (.an b c D 1) (.v (.int .i64 0))=some (.ptr b 0):=by grind[jH]
  have b20:=U.aI l5;have b21:=U.aI l3;have b22:=U.af l7;have fX:=U.af eo;have b23:1<=o.length:=a9k;have b24:1<=p.length:=a9k;have a36:(putAt o 0 [R.v (.int .i64 id)]).take d=ad (id::List.replicate a.aD.length iI):=by
   have O:d=a.aD.length+1:=a9k;have S:(o.drop 1).take (d - 1)=ad (List.replicate a.aD.length iI):=by rw[<-a6a,I];rfl
   have Q:d - 1=a.aD.length:=a9k;rw[Q]at S;show([]++ [R.v (.int .i64 id)]++o.drop 1).take d= _;rw[a5a,O,a8R,a7D,S];rfl
  have a38:(putAt p 0 [R.v (.int .i64 id)]).take c=ad (id::List.replicate a.aD.length jg):=by
   have O:c=a.aD.length+1:=a9k;have S:(p.drop 1).take (c - 1)=ad (List.replicate a.aD.length jg):=by rw[<-a6a,N];rfl
   have Q:c - 1=a.aD.length:=a9k;rw[Q]at S;show([]++ [R.v (.int .i64 id)]++p.drop 1).take c= _;rw[a5a,O,a8R,a7D,S];rfl
  have b25:(putAt o 0 [R.v (.int .i64 id)]).length=o.length:=eH _ _ _ a9m;have b26:(putAt p 0 [R.v (.int .i64 id)]).length=p.length:=eH _ _ _ a9m;have b27:(k8.set r (.cells [.an aO d G 1,.an b c D 1])) r=some (.cells [.an aO d G 1,.an b c D 1]):=U.ah _ _ _;clear f g I N l2 l4;refine aa ?_;generalize putAt o 0 [R.v (.int .i64 id)]=j at*;generalize putAt p 0 [R.v (.int .i64 id)]=l at*;refine bh (k6 _) ?_;generalize X:((k8.set r (.cells [.an aO d G 1,.an b c D 1])).set aO (.cells j)).set b (.cells l)=V;have a42:V aO=some (.cells j):=by subst X;rw[U.ao _ _ l6,U.ah]
  have a43:V b=some (.cells l):=by subst X;rw[U.ah]
  have b28:=U.bF i h;have a47:H.sub V:=by grind[U.ae]
  clear X;have l8:=View.an (n:=d) (cap:=G) (k:=1) a42 a9k;rw[ku,a36]at l8;have a48:(V.set aO (.ro j)) b=some (.cells l):=by rw[U.ao _ _ a19];exact a43
  have l9:=View.an (n:=c) (cap:=D) (k:=1) a48 a9k;rw[ku,a38]at l9;have n0:H.sub ((V.set aO (.ro j)).set b (.ro l)):=U.ae (U.ae a47 L) P;have a52:=View.agg (a:= []) (k:= [.an b c D 1,.v (.int .u8 0),.v (.int .i64 0),.J [] .nil,.v (.int .i64 1),.v (.bool false)]) rfl l8;have a56:=View.agg (a:= [.J (ad (id::List.replicate a.aD.length iI)) .any]) (k:= [.v (.int .u8 0),.v (.int .i64 0),.J [] .nil,.v (.int .i64 1),.v (.bool false)]) rfl l9;have a57:=a52.trans a56;have a61:=FW id a10;have a62:ew (id::List.replicate a.aD.length iI) (id::List.replicate a.aD.length jg) a.bM=true->1<=a.bM.size:=λv=>by
   simp only[ew,a4L,decide_eq_true_eq]at v;have b29:=nE (a2n k0 hm);simp_all
  have a63:=AC.nq (m:=Tryz.prog) (g:= [.ptr n 0,.agg (ab a.bM k2 k3 k4)]) a57 (a2m _ n j9 q (s.ga.mono (U.au C n0)) a.bM k2 k3 k4 a13 a14 _ _ .any .any .nil (a.aD.length+1) a61 a11 a62);refine ai a63 ?_;rintro t a65 ⟨a68,a69⟩;have b30:=U.au C (U.au n0 a68);rcases a69 with ⟨b31,b32,b33,rfl⟩|⟨rows,b34,Y,n1,b35,b36,Z,m,b37,rfl⟩
  .refine aa ?_;refine aN λn2 n3=> ?_;refine aa ?_;simp
  .have b38:=fH Z;refine aa ?_;refine aN λn2 n3=> ?_;have a71:=Z.src;obtain⟨n4,k5,a08,a09⟩:=a71;rw[a5y]at k5;have n5:=m.len;refine aa ?_;cases rows with
   |nil=>
    have n9:n4=0:=by rw[a4R]at n5;omega
    subst n9;refine aa ?_;grind
   |cons a73 rest=>
    have n9: ¬(n4:Int)=0:=by rw[a4M]at n5;omega
    obtain⟨_,a74,a81,rfl⟩:=m.get (i:=0) rfl;have a83:=bR.dQ (Z.mono (U.ae (Y:= .cells [Y,.v (.int .i64 n1)]) (U.a1) n3)) a9k m.flat.symm (m.cells λ_ _=>isRow.cells);obtain⟨a00,a01,a84⟩:=a83.get 0 _ a74;have a01:cP 1 Y (.v (.int .i64 0))=some a00:=a01;have b39:dn false 1 (a65.set n2 (.cells [Y,.v (.int .i64 n1)])) a00=some (.J (ad a73) a81):=a84.ld _ U.a1 false 1 a9k (by simp[R.cells]);refine aa ?_;grind
def jr (d:Nat) (b:List Int×List Int) (c:List Int):Prop:= ∀a,a<d->b.1.getD a 0<=c.getD a 0/\c.getD a 0<=b.2.getD a 0
def FX {a b:List Int×List Int} (h:hg e a) (k:hg e b) (c:jr e a q\/jr e b q):jr e (cS a b) q:=by
 have o:=lp.1 h.ok;have p:=lp.1 k.ok;unfold cS;rw[o.2.2.1,p.2.2.1,if_pos h.ok,if_pos k.ok,if_pos rfl];intro d r;have x:=Em (a:=min) (q:=a.1) (b6:=b.1) (e:=d) a9k a9k;have y:=Em (a:=max) (q:=a.2) (b6:=b.2) (e:=d) a9k a9k
 dsimp only
 rw[x,y];rcases c with c|c<;>have:=c d r<;>omega
variable{a8:aC}
theorem FY {a:gM} (k:mi e i a) (r:0<i) (o:jk e a8 w) (d:jr e a.aO q):jr e (er a w).aO q:=by
 have h:hg e a.aO:=by
  rcases k.aO with ⟨b,_⟩|⟨_,b⟩
  .omega
  .exact b
 show jr e (cS a.aO (w.aU,w.aV)) q;rcases o.aO with ⟨b,c,p⟩|⟨b,c⟩
 .rw[c,p,Fy h];exact d
 .exact FX h c (.inl d)
def FZ {a:gM} (h:mi e i a) (k:jk e a8 w) (o:q∈a8.all) (d:jr e (w.aU,w.aV) q):jr e (er a w).aO q:=by
 have x:=a7P o;show jr e (cS a.aO (w.aU,w.aV)) q;rcases k.aO with ⟨p,b,y⟩|⟨p,b⟩
 .omega
 rcases h.aO with ⟨r,c⟩|⟨r,c⟩
 .rw[c,pw b];exact d
 .exact FX c b (.inr d)
theorem zA {b:Nat} (h:1<=b) (k:b<=8) {c:List Int}: ∀ {o:aC},o.c9 b->o.size<=1048576->c∈o.all->jr b ((bo o).aU,(bo o).aV) c
 | .nil,_,_,d=>by cases d
 | .node p live D E,d,F,a=>by
  simp only[aC.size]at F;have x:=fc h k d.a a9k;have y:=fc h k d.b a9k;have r:=y5 h k d.r;have z:mi b (if live=true then 1 else 0) (dK ⟨0,1,([],[])⟩ (p,live)):=by
   cases live with
   |false=>exact⟨rfl,.inl ⟨rfl,rfl⟩⟩
   |true=>refine⟨rfl,.inr ⟨a9o,?_⟩⟩;show hg b (cS ([],[]) (gm p));rw[pw r];exact r
  have C:=z6 z x;show jr b (er (er (dK ⟨0,1,([],[])⟩ (p,live)) (bo D)) (bo E)).aO c;simp only[aC.all,a4X]at a;rcases a with (a|a)|a
  .have:=a7P a;exact FY C a9k y (FZ z x a (zA h k d.a a9k a))
  .exact FZ C y a (zA h k d.b a9k a)
  .have G:live=true/\c=p:=by simp_all
   obtain⟨rfl,rfl⟩:=G;have L:jr b (dK ⟨0,1,([],[])⟩ (c,true)).aO c:=by show jr b (cS ([],[]) (gm c)) c;rw[pw r];unfold gm;rw[if_pos (by have:=d.r.len;omega)];exact λP _=>⟨a8H _,a8H _⟩
   grind[FY]
def G0 {a:List Int} (b:a.length=e):jf q b6 a=true↔cR q b6 e=true/\jr e (q,b6) a:=by unfold jf;simp only[b,a4L,a4Z,a5Z,decide_eq_true_eq];rfl
def zB (c:1<=e) (d:e<=8) {h:List Int} (a:a8.c9 e) (k:a8.size<=1048576) (b:b6∈a8.all) (y:jf h q b6=true):ew h q (bo a8)=true:=by
 have o:=fc c d a k;have G:=a7P b;have z:=(a b6 (aC.gC b)).len;obtain⟨p,C⟩:=(G0 z).1 y;have D:=zA c d a k b;have E:=lp.1 p;have F:cR (bo a8).aU (bo a8).aV e=true:=by
  rcases o.aO with ⟨r,_⟩|⟨_,r⟩
  .omega
  .exact r.ok
 have L:=o.live;unfold ew jY oB;simp only[E.2.2.1,a4L,a4Z,a5Z,decide_eq_true_eq];refine⟨a9k,⟨p,F⟩,λx q=> ?_⟩;have:=C x q;have:=D x q
 dsimp only at*
 unfold hB;omega
def G1:fj H e aA=none:=by
 cases a:fj H e aA with
 |none=>rfl
 |some b=>have:=(Fl (q:= []) (b6:= []) a).2;have c:(aA).size=0:=rfl;omega
theorem G2 (r:1<=e) (x:e<=8) (y:mo H e q b6 w j3): ∀ {a:aC},w=bo a->a.c9 e->a.size<=1048576->dW H a-> ∃b,j3=bo b/\b.c9 e/\b.size<=1048576/\dW H b/\(∀z∈b.all,z∈a.all)/\(ew q b6 w=true->ew q b6 j3=true):=by
 induction y with
 |refl C=>grind
 | @step C k W f c hk g i ih=>
  intro a o d p h;cases a with
  |nil=>rw[o,show bo .nil=aA from rfl,G1]at c;cases c
  |node j live D E=>
   rw[o,sW r x d p h]at c;obtain rfl:=a4G c;simp only[aC.size]at p;have F:k=bo D\/k=bo E:=by simpa[cr] using hk
   rcases F with rfl|rfl
   .obtain⟨b,G,L,P,S,T,V⟩:=ih rfl d.a a9k h.2.1;grind[aC.all]
   .obtain⟨b,G,L,P,S,T,V⟩:=ih rfl d.b a9k h.2.2;grind[aC.all]
def zC (a:1<=e) (b:e<=8) (d:a8.c9 e) (h:a8.size<=1048576) (k:dW H a8): ¬vl H e q b6 (bo a8):=by
 rintro⟨D,o,p,c⟩;obtain⟨r,rfl,x,y,z,_,C⟩:=G2 a b o rfl d h k;cases r with
 |nil=>exact yW (C p) rfl
 |node E live F G=>rw[sW a b x y z]at c;cases c
def a2p (b:1<=e) (c:e<=8) {d:List Int} (h:a8.c9 e) (k:a8.size<=1048576) (o:dW H a8) (p:nD H e b6 d (bo a8) q):q∈a8.all/\jf b6 d q=true:=by
 obtain⟨G,L,r,a,hm,x⟩:=p;obtain⟨y,rfl,z,C,D,E,_⟩:=G2 b c r rfl h k o;refine⟨E q ?_,x⟩;cases y with
 |nil=>rw[show bo .nil=aA from rfl,G1]at a;cases a
 |node F live P S=>
  rw[sW b c z C D]at a;obtain rfl:=a4G a;have:q=F/\live=true:=by simpa[cr] using hm
  obtain⟨rfl,rfl⟩:=this;simp[aC.all]
theorem zD {E:ag}{o:Nat} (c:1<=o) (d:o<=8) {F G p:List Int}: ∀ {h:aC},h.c9 o->h.size<=1048576->dW E h->p∈h.all->jf F G p=true->nD E o F G (bo h) p
 | .nil,_,_,_,b,_=>by cases b
 | .node P live T V,b,L,r,a,k=>by
  have x:=sW c d b L r;simp only[aC.size]at L;simp only[aC.all,a4X]at a;rcases a with (a|a)|a
  .obtain⟨y,z,C,D⟩:=zD c d b.a a9k r.2.1 a k;exact⟨y,z,.step x (by simp[cr]) (zB c d b.a a9k a k) C,D⟩
  .obtain⟨y,z,C,D⟩:=zD c d b.b a9k r.2.2 a k;exact⟨y,z,.step x (by simp[cr]) (zB c d b.b a9k a k) C,D⟩
  .have S:live=true/\p=P:=by simp_all
   obtain⟨rfl,rfl⟩:=S;exact⟨_,_,.refl _,x,by simp[cr],k⟩
variable{Q:List (List Int)}
theorem zE (b:1<=e) (c:e<=8) (d:a8.c9 e) (h:a8.size<=1048576) (k:dW H a8) (o:vk H e q b6 (bo a8) Q):(Q= []↔ ∀a∈a8.all,¬jf q b6 a=true):=by
 constructor
 .intro x a p r;exact o.full x (zB b c d h p r) a (zD b c d h k p r)
 .intro y;cases Q with
  |nil=>rfl
  |cons a rest=>obtain⟨z,C⟩:=a2p b c d h k (o.sound a a9l);simp_all
theorem zF {id:Int} (d:e<=7) (b:bL (e+1) q):jf (id::List.replicate e iI) (id::List.replicate e jg) q=true↔q.getD 0 0=id:=by
 rw[G0 b.len];constructor
 .rintro⟨_,c⟩;have:=c 0 a9k;grind
 .intro h;refine⟨FW id d,λa k=> ?_⟩;cases a with
  |zero=>simp only[a5q];omega
  |succ a=>have c:a<e:=a9k;have o:=b.len;have hm:=b.jU (q.getD (a+1) 0) (by simp_all);simp only[a5s];simp only[a5A,List.getElem?_replicate,if_pos c,a6C];simp only[a5A]at hm;unfold iI jg;omega
def lB (b:ag) (d:List aK) (c:cm) (h:Int×List aK×ag):Prop:=match d.find? (λa=>decide (a.name=c.table))with
 |none=>h=(3,d,b)
 |some a=>if c.row.length=a.aD.length+1 then
   (vl b (a.aD.length+1) (c.row.getD 0 0::List.replicate a.aD.length iI) (c.row.getD 0 0::List.replicate a.aD.length jg) a.bM/\h=(21,d,b))\/
   ∃rows,vk b (a.aD.length+1) (c.row.getD 0 0::List.replicate a.aD.length iI) (c.row.getD 0 0::List.replicate a.aD.length jg) a.bM rows/\(∀k∈rows,k.length=a.aD.length+1)/\
    ((rows= []/\h=fx (λb=>nF (a.aD.length+1) c.row b a.bM) (λb=>jc (a.aD.length+1) c.row b a.ct) b d a)\/(rows≠ []/\h=(8,d,b)))
  else h=(6,d,b)
def a2q (z:U) (p r x:Nat) (k:ag) (c:List aK) (l:cM z p r x k c) (m: ∀d∈c,d.Fit) (n:cy c=true) (a:cn) (H:a.d.Fit):
  AC Tryz.prog 49 [.ptr p 0,a.V] z λD E=> ∃res,lB k c a.d res/\D= .v (.int .i64 res.1)/\cM E p r x res.2.2 res.2.1/\cx p r x z E:=by
 obtain⟨I,l5⟩:=mu n;have q:=λE C=>FQ E p r x k c C a9k a H;have s:a.V= .agg [al a.d.kind,bb a.d.table,.J (bE a.d.aD) a.gr,.J (ad a.d.row) a.dm]:=rfl;obtain⟨l6,l7,K,l8⟩:=l.x;rw[s]at q|-;clear s;have l9:=U.af K;have n0:=gd.all.1;refine aM hm KN ?_;refine bp λP M=> ?_;have t:=U.ae (Y:= .cells [al a.d.kind,bb a.d.table,.J (bE a.d.aD) a.gr,.J (ad a.d.row) a.dm]) (U.a1) M;have aH:=U.ah z P (.cells [al a.d.kind,bb a.d.table,.J (bE a.d.aD) a.gr,.J (ad a.d.row) a.dm]);generalize z.set P _=N at*;have u:=l.sub t;refine ai (q N u) ?_;rintro D O ⟨S,b⟩;have V:=S _ _ aH;have n1:=U.af V;have W:=u.sub S;have e:=U.au t S;have f: ∀d T,ep d T->putAt eL 0 T=T:=λd T C=>(nJ C).2.2.1;have n2:=gd.all.2.1;have n3:=f _ _ gd;have g:=jl;generalize eL=n4 at*;unfold mv at b;unfold lB;cases F:c.find? (λd=>decide (d.name=a.d.table))with
 |none=>
  rw[F]at b
  dsimp only at b
  obtain rfl:=b;refine aa ?_;refine aN λG h=> ?_;rw[g];refine aa ?_;refine⟨_,U.a1,(3,c,k),rfl,rfl,W.sub (U.ae U.a1 h),cx.of (U.au e (U.ae U.a1 h))⟩
 |some d=>
  rw[F]at b;have hm:=vi F
  dsimp only at b
  by_cases y:a.d.row.length=d.aD.length+1
  .rw[if_pos y]at b;obtain⟨T,o,rfl⟩:=b;obtain⟨Q,X,Y,_⟩:=o.all;have Z:=f _ _ o;have j9:= @dJ a.d.row;have n5:=bH (q:=a.d.row);refine aa ?_;refine aN λG h=> ?_;rw[g];have k0:P≠G:=by rintro rfl;rw[V]at h;cases h
   have n9:=k0.symm;obtain⟨k1,k2⟩:=o.k;obtain⟨k3,k4⟩:=o.z;have v:=I d hm;have a00:=v.c;have a01:=v.k.size;have w:=W.sub (U.ae (Y:= .cells T) U.a1 h);have k5:=U.ae (Y:= .cells T) (U.a1) h _ _ V;have k6:=U.ah O G (.cells T);have k7:=U.au e (U.ae (Y:= .cells T) (U.a1) h);have a02:cP 1 (.J (ad a.d.row) a.dm) (.v (.int .i64 0))=some (.bV [.v (.int .i64 (a.d.row.getD 0 0))]):=by have C:=j9 (b:=0) a9k;have k8:(0:Int)<=0:=a9k;rw[hJ k8];show eA 1 (ad a.d.row)[0]? = _;rw[C];rfl
   dsimp only
   simp only[if_pos y];refine aa ?_;refine ai (a2o _ p r x k c w n a.d.table (a.d.row.getD 0 0)) ?_;rintro D k9 ⟨L,b⟩;unfold zz at b;rw[F]at b
   dsimp only at b
   have i:=w.sub L;have j:=U.au k7 L;have a03:=U.af (L _ _ k5);have a04:=U.af (L _ _ k6);rcases b with ⟨a05,rfl⟩|⟨rows,A,B,⟨rfl,rfl⟩|⟨l0,l1,a06,rfl,rfl⟩⟩
   .refine aa ?_;exact⟨_,U.a1,(21,c,k),.inl rfl,rfl,i,cx.of j⟩
   .have l2:=FV k9 p r x k c i m a9k d T o (m d hm) a.d.row a.dm 84 85 _ _ a9p a9p (jo.a2g k1 k2 a9k a9k a9k y) (jo.a2i k3 k4 a9k a9k y);refine aa ?_;refine ai l2 ?_;rintro D a07 ⟨rfl,l3,l4⟩;refine aa ?_;exact⟨_,U.a1,_,.inr ⟨[],A,B,.inl ⟨rfl,rfl⟩⟩,rfl,l3,(cx.of j).trans l4⟩
   .refine aa ?_;exact⟨_,U.a1,(8,c,k),.inr ⟨l0::l1,A,B,.inr ⟨a9l,rfl⟩⟩,rfl,i,cx.of j⟩
  .rw[if_neg y]at b;obtain⟨T,o,rfl⟩:=b;obtain⟨Q,X,Y,_⟩:=o.all;have Z:=f _ _ o;refine aa ?_;refine aN λG h=> ?_;rw[g]
   dsimp only
   simp only[if_neg y];refine aa ?_;refine⟨_,U.a1,(6,c,k),rfl,rfl,W.sub (U.ae U.a1 h),cx.of (U.au e (U.ae U.a1 h))⟩
def ey (c:ag) (b:List aK) (a:cm) (d:Int×List aK×ag):Prop:=
 if ev a=false then d=(1,b,c)
 else if a.kind=1 then d=((iL (kc b ⟨a.table,a.aD,aA,aA⟩) b).1,(iL (kc b ⟨a.table,a.aD,aA,aA⟩) b).2,c)
 else if a.kind=2 then d=((iL (cL b a.table) b).1,(iL (cL b a.table) b).2,c)
 else if a.kind=3 then lB c b a d
 else d=jq c b a
theorem zG (b:U) (d h k:Nat) (r:ag) (x:List aK) (Z:cM b d h k r x) (j: ∀j9∈x,j9.Fit) (m:cy x=true) (a:cn) (l:a.d.Fit):
  AC Tryz.prog 20 [.ptr d 0,a.V] b λg w=> ∃res,ey r x a.d res/\g= .v (.int .i64 res.1)/\cM w d h k res.2.2 res.2.1/\cx d h k b w:=by
 have k2:=(mu m).2;have n:=λb=>EL a l b;have A:=λb L=>a2a b d h k r x L j a9k a l;have B:=λb L=>a1Z b d h k r x L j a9k a;have H:=λb L=>a2q b d h k r x L j m a l;have I:=λb L=>a2k b d h k r x L j m a l;have K:a.V= .agg [al a.d.kind,bb a.d.table,.J (bE a.d.aD) a.gr,.J (ad a.d.row) a.dm]:=rfl;rw[K]at n A B H I|-;clear K;refine aM hm K3 ?_;refine bp λq k0=> ?_;have e:=U.ae (Y:= .cells [al a.d.kind,bb a.d.table,.J (bE a.d.aD) a.gr,.J (ad a.d.row) a.dm]) (U.a1) k0;have aH:=U.ah b q (.cells [al a.d.kind,bb a.d.table,.J (bE a.d.aD) a.gr,.J (ad a.d.row) a.dm]);generalize b.set q _=f at*;have i:=Z.sub e;have k3:=U.af aH;cases cv:ev a.d with
 |false=>refine bh (n f) ?_;exact⟨_,U.a1,(1,x,r),by unfold ey;rw[if_pos cv],rfl,i,cx.of e⟩
 |true=>
  refine bh (n f) ?_;rw[show List.replicate 5 (R.v .nilFunc)= [.v .nilFunc,.v .nilFunc,.v .nilFunc,.v .nilFunc,.v .nilFunc]from rfl];have k4: ∀z C D E F y:R,putAt [z,C,D,E,F] 1 [y]= [z,y,D,E,F]:=λ_ _ _ _ _ _=>rfl;have k5: ∀z C D E F y:R,putAt [z,C,D,E,F] 2 [y]= [z,C,y,E,F]:=λ_ _ _ _ _ _=>rfl;have k6: ∀z C D E F y:R,putAt [z,C,D,E,F] 3 [y]= [z,C,D,y,F]:=λ_ _ _ _ _ _=>rfl;have k7: ∀z C D E F y:R,putAt [z,C,D,E,F] 4 [y]= [z,C,D,E,y]:=λ_ _ _ _ _ _=>rfl;have k8: ∀z C D E F y M N O v:R,putAt [z,C,D,E,F] 0 [y,M,N,O,v]= [y,M,N,O,v]:=λ_ _ _ _ _ _ _ _ _ _=>rfl;have k9: ∀Q X Y,(R.bG Q X Y).cells= [.bG Q X Y]:=λ_ _ _=>rfl;have P:a.d.kind.toNat=1\/a.d.kind.toNat=2\/a.d.kind.toNat=3\/a.d.kind.toNat=4:=by have L:=cv;simp only[ev,a4L]at L;grind
  refine aa ?_;refine aN λc G=> ?_;have k1:q≠c:=by rintro rfl;rw[aH]at G;cases G
  have l0:=k1.symm;rcases P with P|P|P|P
  .have s:lU 1 5 (.ptr c 0) (al a.d.kind)=some (.ptr c 1):=by have:=rU (e:=1) (i:=5) (v:=c) (O:=0) (e2:= .u8) (b1:=(a.d.kind.toNat)) a9k a9k;rw[a5l,show 0+a.d.kind.toNat*1=1 by omega]at this;exact this
   refine aa ?_;have t:a.d.kind=1:=a5D.1 P;generalize o:(f.set c _)=p;have S:cM p d h k r x:=by subst o;exact i.sub (U.ae U.a1 G)
   have T:cx d h k b p:=by subst o;exact cx.of (U.au e (U.ae U.a1 G))
   clear o;refine fE a9q (A p S) ?_;rintro g u ⟨V,W,rfl⟩;refine aa ?_;refine⟨_,U.a1,(_,_,r),?_,rfl,V,T.trans W⟩;unfold ey;grind
  .have s:lU 1 5 (.ptr c 0) (al a.d.kind)=some (.ptr c 2):=by have:=rU (e:=1) (i:=5) (v:=c) (O:=0) (e2:= .u8) (b1:=(a.d.kind.toNat)) a9k a9k;rw[a5l,show 0+a.d.kind.toNat*1=2 by omega]at this;exact this
   refine aa ?_;have t:a.d.kind=2:=a5D.1 P;generalize o:(f.set c _)=p;have S:cM p d h k r x:=by subst o;exact i.sub (U.ae U.a1 G)
   have T:cx d h k b p:=by subst o;exact cx.of (U.au e (U.ae U.a1 G))
   clear o;refine fE a9q (B p S) ?_;rintro g u ⟨V,W,rfl⟩;refine aa ?_;refine⟨_,U.a1,(_,_,r),?_,rfl,V,T.trans W⟩;simp_all [ey]
  .have s:lU 1 5 (.ptr c 0) (al a.d.kind)=some (.ptr c 3):=by have:=rU (e:=1) (i:=5) (v:=c) (O:=0) (e2:= .u8) (b1:=(a.d.kind.toNat)) a9k a9k;rw[a5l,show 0+a.d.kind.toNat*1=3 by omega]at this;exact this
   refine aa ?_;have t:a.d.kind=3:=a5D.1 P;generalize o:(f.set c _)=p;have S:cM p d h k r x:=by subst o;exact i.sub (U.ae U.a1 G)
   have T:cx d h k b p:=by subst o;exact cx.of (U.au e (U.ae U.a1 G))
   clear o;refine fE a9q (H p S) ?_;rintro g u ⟨res,l1,rfl,V,W⟩;refine aa ?_;refine⟨_,U.a1,res,?_,rfl,V,T.trans W⟩;simp_all [ey]
  .have s:lU 1 5 (.ptr c 0) (al a.d.kind)=some (.ptr c 4):=by have:=rU (e:=1) (i:=5) (v:=c) (O:=0) (e2:= .u8) (b1:=(a.d.kind.toNat)) a9k a9k;rw[a5l,show 0+a.d.kind.toNat*1=4 by omega]at this;exact this
   refine aa ?_;have t:a.d.kind=4:=a5D.1 P;generalize o:(f.set c _)=p;have S:cM p d h k r x:=by subst o;exact i.sub (U.ae U.a1 G)
   have T:cx d h k b p:=by subst o;exact cx.of (U.au e (U.ae U.a1 G))
   clear o;refine fE a9q (I p S) ?_;rintro g u ⟨rfl,V,W⟩;refine aa ?_;refine⟨_,U.a1,jq r x a.d,?_,rfl,V,T.trans W⟩;simp_all [ey]
theorem oJ:cy b8=true↔(∀b∈b8,fQ b=true)/\b8.Pairwise (λc d=>c5 c.name d.name=true)/\b8.length<=8:=by
 constructor
 .intro a;have o:=zs a;simp only[cy,a4L,a4Z,a5Z,decide_eq_true_eq]at a;refine⟨λb h=> ?_,?_,a.2⟩
  .obtain⟨p,r,rfl⟩:=a5t h;simp_all
  grind[List.pairwise_iff_getElem,List.getD]
 .rintro⟨x,k,y⟩;rw[a6y]at k;simp only[cy,a4L,a4Z,a5Z,decide_eq_true_eq,a6q];grind
theorem G3 {b:List aK} (c:cy b8=true) (a:cL b8 B= .ok b):cy b=true:=by
 unfold cL at a;rw[if_pos c]at a;split at a
 .obtain rfl:=Except.ok.inj a;obtain⟨d,h,k⟩:=oJ.1 c;have o:(b8.take (da b8 B)++b8.drop (da b8 B+1)).Sublist b8:=by grind[da,List.Sublist.append_left,List.drop_drop,List.drop_sublist,List.take_append_drop]
  grind[oJ,Nat.le_trans]
 .cases a
theorem G4 {c:List aK} (a:kd b8 e7= .ok c):cy c=true:=by
 unfold kd at a;split at a
 .rename_i b;simp only[a4L]at b;obtain⟨b,p⟩:=b;split at a
  .rename_i d;obtain rfl:=Except.ok.inj a;simp only[gD,a4L,decide_eq_true_eq]at d;obtain⟨h,r⟩:=d;obtain⟨x,k,o⟩:=oJ.1 b;have y:(b8[da b8 e7.name]'h).name=e7.name:=by simp_all
   refine oJ.2 ⟨λz C=> ?_,?_,by rw[a7H];exact o⟩;grind
   .rw[a6y]at k|-;grind
  .cases a
 .cases a
def G5 {c:aK->Bool}: ∀ {d:List aK},∀b∈d.takeWhile c,c b=true
 | [],b,a=>by cases a
 |h::d,b,a=>by
  rw[a6b]at a;split at a
  .rcases a5g.1 a with rfl|a
   .assumption
   .exact G5 b a
  .cases a
theorem G6 {c:aK->Bool}: ∀ {d:List aK}{b:aK}{h:List aK},d.dropWhile c=b::h->c b=false
 | [],_,_,a=>by cases a
 |k::d,b,h,a=>by
  rw[a7j]at a;split at a
  .exact G6 a
  simp_all
theorem G7 {o:List aK} (b:kc b8 e7= .ok o):cy o=true:=by
 unfold kc at b;split at b
 .rename_i d;simp only[a4L]at d;obtain⟨d,E⟩:=d;split at b
  .cases b
  rename_i F;split at b
  .cases b
  rename_i G;obtain rfl:=Except.ok.inj b;obtain⟨L,p,P⟩:=oJ.1 d;have r:b8.take (da b8 e7.name)=b8.takeWhile λa=>c5 a.name e7.name:=by grind[List.takeWhile_append_dropWhile,c5,da,List.take_left]
  have x:b8.drop (da b8 e7.name)=b8.dropWhile λa=>c5 a.name e7.name:=by grind[List.takeWhile_append_dropWhile,c5,da,List.drop_left]
  have el:=a5z (p:=λa:aK=>c5 a.name e7.name) (l:=b8);have S: ∀a∈b8.takeWhile (λa=>c5 a.name e7.name),c5 a.name e7.name=true:=λa c=>G5 a c;have y: ∀a∈b8.dropWhile (λa=>c5 a.name e7.name),c5 e7.name a.name=true:=by
   intro a c;cases h:b8.dropWhile (λa=>c5 a.name e7.name)with
   |nil=>rw[h]at c;cases c
   |cons k T=>
    have V:=G6 h;have W:da b8 e7.name<b8.length:=by grind
    have e:b8.getD (da b8 e7.name) default=k:=by grind
    have f:k.name≠e7.name:=λg=>by
     simp_all [gD]
    have z:c5 e7.name k.name=true:=by grind[c5,absurd,FE]
    rw[h]at c;rcases a5g.1 c with rfl|c
    .exact z
    grind[ve,List.pairwise_cons]
  rw[r,x];refine oJ.2 ⟨λa c=> ?_,?_,?_⟩;grind
  .rw[<-el]at p;obtain⟨C,D,i⟩:=a5K.1 p;refine a5K.2 ⟨C,a5r.2 ⟨y,D⟩,λj l m n=> ?_⟩;grind
  grind
 .cases b
end Go.Proofs.YtlgnfcaolejgeaaGreat
namespace Go.bz
open Go
variable{n b3:R}{f t e4:U}{g A e1:List R}{e i v O b9 j1:Nat}
theorem View.obj (p:f e=some (.cells (A++ .an i O b9 1::e1))) (z:f i=some (.cells g)) (C:O*1<=g.length) (D:e≠i):
  View f n ((f.set i (.ro g)).set e (.cells (A++ .J (ef 1 O g) .any::e1))) n:=λt u v E F=>by
 obtain⟨G,a⟩:=Step.freeze E z;have L:(f.set i (.ro g)) e=some (.cells (A++ .an i O b9 1::e1)):=by rw[U.ao _ _ D];exact p
 obtain⟨w,P,T,S,h,V⟩:=a.holds.dN e _ L;refine⟨G,⟨⟨a.holds.ro,λr W b=> ?_⟩,a.le,a.os,a.tape,a.output,a.size,λ_ _ _=>rfl,λk B=> ?_,a.mz,λk j l o=> ?_⟩,F.mono a.le⟩
 .by_cases c:r=e
  .subst c;rw[U.ah]at b;obtain rfl:=a4G b;refine⟨λH d=> ?_,P,T,S,⟨by have:=h.1;simp_all,λx y m=> ?_⟩,V⟩
   .simp only[a4X,a5g]at d;rcases d with d|rfl|d
    .simp_all
    .rfl
    .simp_all
   .by_cases q:x=A.length
    .subst q;have s:y= .J (ef 1 O g) .any:=by simpa using m.symm
     subst s;exact aY.frozen a.holds (U.ah _ _ _) C (h.2 A.length (.an i O b9 1) a9l)
    .refine h.2 x y ?_;grind
  .rw[U.ao _ _ c]at b;exact a.holds.dN r W b
 grind[U.ao]
 .have c:k≠e:=by rintro rfl;rw[p]at o;cases o
  rw[U.ao _ _ c];exact a.jw k j l o
def zH (k o:U):Prop:= ∀a b c d h,k a=some (.cells [.J b c,.J d h])->o a=some (.cells [.J b c,.J d h])
end Go.bz
namespace Go.Proofs.YtlgnfcaolejgeaaGreat
open Go Go.bz
def bw.vo {r x:U} (d:zH r x): ∀ {a:Nat}{b:a6.T a}{c:R},bw r a b c->bw x a b c
 |0,b,c,⟨h,y,k,eT,h1,o,p⟩=>⟨h,y,k,eT,h1,d _ _ _ _ _ o,p⟩
 |a+1,b,c,⟨h,z,k,eT,h1,o,p,C⟩=>⟨h,z,k,eT,h1,d _ _ _ _ _ o,p.mono λ_ _=>bw.vo d,C⟩
variable{e i v O b9 j1:Nat}
theorem a2r (r:List Int) (S:Own) (C:a6.T 0) (T:R) (o:U) (q:bw o 0 C T) (V:GT e 0 C) (Y:e<=8):
  AC Tryz.prog 95 [T,.J (ad r) S] o λy c=>o.sub c/\bw c 0 (a6.cL bC r 0 C) y:=by
 obtain⟨Z,j9,s,k0,rfl,W,G⟩:=q;obtain⟨d,rfl⟩:=a6.hX C;rw[a6.qI]at G;have f:=V.ok;have t:=V.dE;rw[a6.kz]at f t;have k1:=G.len;show AC _ _ _ _ λy c=>o.sub c/\bw c 0 (a6.leaf (d.filter λa=>decide (a≠r))) y;refine AC.view (s:=λy c=> ∃a h k,y= .ptr a 0/\o a=none/\ar (o.set a (.cells [h,.J [] .nil])) c 1 k h/\az isRow (d.filter λa=>decide (a≠r)) k) ?_ ?_
 .have u:=U.af W;refine aM hm Bk ?_;refine bp λa z=> ?_;refine ch [0,1,5] (λb:Nat=> [(6,.v (.int .i64 (b)))]) (λb c=>b<=d.length/\ ∃h k,ar (o.set a (.cells [h,.J [] .nil])) c 1 k h/\az isRow ((d.take b).filter λa=>decide (a≠r)) k) (λb=>d.length - b) 0 ⟨⟨a9k,_,[],ar.nil U.a1,trivial⟩,aS⟩ ?_;rintro b v ⟨k2,h,k,p,x⟩ k3;have k4:=x.len;have w:=p.1 _ _ (U.ah _ _ _);have u:=rd (U.au (U.ae U.a1 z) p.1) W;have L:=U.af w;refine aa ?_;refine aG (λA=> ?_) λA=> ?_
  .obtain⟨_,k5,g,rfl⟩:=G.at [] (e:=b) a9k;have B:=eQ (a:=d) (b:= []) (e:=b) a9k;have k6:=(f (d.getD b []) (by grind)).len;generalize d.getD b []=D at*;refine lX (nr D r g S v a9k) ?_;refine aG (λc2=> ?_) λc2=> ?_
   .have H:=a7X (λa=>decide (a≠r)) (d.take b);rw[a4K]at H;refine Xc p (λ_ i k7 P=> ?_);have k8:=U.aI (P.1 _ _ (U.ah _ _ _));have k9:=fH P;have j:=jO (Y:= .cells [i,.J [] .nil]) P (U.ah o a (.cells [h,.J [] .nil]));rw[U.set_set]at j;refine aa ?_;exact⟨b+1,⟨a9k,i,_,j,by rw[B,a7M,a8D (by simpa using c2),a8G];exact x.snoc ⟨g,rfl⟩⟩,rfl,a9k⟩
   grind
  .rw[a4I a9k]at x;exact⟨_,U.a1,a,h,k,rfl,z,p,x⟩
 .rintro y c ⟨a,h,k,rfl,z,p,x⟩;have L:=p.1 _ _ (U.ah _ _ _);have l:=U.au (U.ae U.a1 z) p.1;rcases p.2 with ⟨rfl,I⟩|⟨m,K,l0,M,rfl,E,N,O,l1,l2,l3,l4⟩
  .refine⟨_,c,View.refl,l,?_⟩;rcases I with rfl|rfl<;>exact⟨a,[],_,.nil,rfl,L,x⟩
  .have Q:a≠m:=by rintro rfl;rw[U.ah]at E;cases E
   refine⟨_,_,View.obj (A:= []) L N (by rw[O];omega) Q,?_,a,_,.any,.nil,rfl,U.ah _ _ _,?_⟩
   .intro D s F;have n:D≠a:=by rintro rfl;rw[z]at F;cases F
    have X:D≠m:=by rintro rfl;rw[U.ao _ _ n,F]at E;cases E
    rw[U.ao _ _ n,U.ao _ _ X];exact l _ _ F
   .rw[ku,show M.take K=k by simp_all];exact x
def pL {d:U}{b:Nat}: ∀ {h:List (a6.T b)}{a:List R},az (bw d b) h a->flat a=a
 | [],[],_=>rfl
 | _:: _,k::a,c=>by
  obtain⟨o,p,r,rfl,_⟩:=bw.ptr c.1;have:=pL c.2;simp only[flat,a5j]at this|-;rw[this];rfl
variable{n b3:R}{f t e4:U}
def bw.shape {p:a6.T e} (r:bw f e p n): ∃a k b d c,n= .ptr a 0/\f a=some (.cells [.J k b,.J d c])/\k.length+d.length=a6.len p/\(e=0->d= [])/\(e≠0->k= []/\d≠ []):=by
 cases e with
 |zero=>obtain⟨a,x,b,c,rfl,o,h⟩:=r;exact⟨a,x,b,[],c,rfl,o,by rw[h.len];rfl,λ_=>rfl,λe=>absurd rfl e⟩
 |succ e=>obtain⟨a,y,b,c,rfl,o,h,z,_⟩:=r;refine⟨a,[],c,y,b,rfl,o,by rw[h.len];simp[a6.len],λe=>(by cases e),λ_=>⟨rfl,?_⟩⟩;rintro rfl;exact z (az.xM h)
variable{g A e1:List R}
theorem a2s {a:List (a6.T i)} (k:az (bw f i) a g) (p:g≠ []) (o:A.take e=g): ∀b c d h,A≠ [.J b c,.J d h]:=by
 rintro b c d h rfl;cases g with
 |nil=>trivial
 |cons r g=>
  cases a with
  |nil=>trivial
  |cons x a=>
   obtain⟨y,_,_,rfl,_⟩:=bw.ptr k.1;cases e with
   |zero=>cases o
   |succ e=>grind
theorem ar.G8 (b:ar f t 1 g n): ∃a,View t n a (.J g .any)/\f.sub a:=by grind[View.dQ,ku,List.take_of_length_le]
theorem bw.rows {a:U}{b:a6.T 0}{c:Nat}{d h:List R}{k o:Own} (p:bw a 0 b (.ptr c 0)) (r:a c=some (.cells [.J d k,.J h o])):az isRow (a6.rows b) d:=by obtain⟨_,_,_,_,x,y,z⟩:=p;simp_all
theorem bw.kids {b:U}{a:Nat}{c:a6.T (a+1)}{d:Nat}{k h:List R}{o p:Own} (r:bw b (a+1) c (.ptr d 0)) (x:b d=some (.cells [.J k o,.J h p])):az (bw b a) (a6.kids c) h:=by obtain⟨_,_,_,_,y,z,a,_⟩:=r;simp_all
variable{M e6 h5:Own}
def re (a:aT 1 g) (b:flat g=g):bN f 1 (.J g M)=some (g.length,g):=by have:=(jR.J (o:=M) a).src f U.a1;rwa[b]at this
def vp (k:ar t f 1 g (.an e v O 1)) (a:g[i]? =some n):cP 1 (.an e v O 1) (.v (.int .i64 (i:Int)))=some (.ptr e i)/\ ∃b,f.read e=some b/\qh false 1 i (some b)=some n:=by have y:=(a4P.1 a).1;obtain⟨z,C,D,b,c,E,o,p,d,r,F,G⟩:=k.an (by rintro rfl;simp at a);simp only[R.an.injEq,and_true]at c;obtain⟨rfl,rfl,rfl⟩:=c;rw[a5y]at p d r;have h:=jH (e:=1) (i:=e) (v:=v) (O:=O) (e2:= .i64) (b1:=(i)) a9k a9k;rw[a5l,a5y]at h;refine⟨h,b,U.af o,?_⟩;rw[<-d,a5H a9k]at a;obtain⟨x,rfl⟩:=a4P.1 a;rw[Bv a9k,a5e x];rfl
theorem a2t {a:List (a6.T i)}{b:a6.T i} (p:e<a.length) (k:2<=a.length) (o: ¬2<=a6.len b):
  ∃d h,(a.set e b)[e - 1]? =some d/\(a.set e b)[e - 1+1]? =some h/\a6.ln a e b=(a.set e b).take (e - 1)++a6.kA d h++(a.set e b).drop (e - 1+2):=by
 rw[a6.ln,if_neg o];by_cases c:e=0
 .subst c;refine⟨b,a[1],a8L a9k,a9l,?_⟩;rw[if_pos rfl,a4H k,a9c a9k];rfl
 .refine⟨a[e - 1],b,by grind,by grind,?_⟩;rw[if_neg c,a4H a9k,a9c a9k,List.take_set_of_le a9k];simp[c]
set_option maxHeartbeats 1000000 in
theorem a2u (k7:1<=e) (Q:e<=8) (r:List Int) (k8:Own) (X:bL e r): ∀(a:Nat) (G:a6.T a) (C:R) (p:U),bw p a G C->GT e a G->
  AC Tryz.prog 95 [C,.J (ad r) k8] p λA c=>p.sub c/\bw c a (a6.cL bC r a G) A:=by
 have b44:=X.len;intro a
 induction a with
 |zero=>intro G C p u l;exact a2r r k8 G C p u l Q
 |succ a ih=>
 intro G C p u l;obtain⟨h,rfl⟩:=a6.gp G;have m:=l.kids k7 Q X;have k9:=Ej h C r k8 p u a9k λb L=>by
  obtain⟨v,_,b45,a86⟩:=m.hd b L;have:=v.dE;have:=a86.len;grind
 obtain⟨b46,l0,b47,b48,rfl,Y,k,_,_⟩:=u;rw[a6.fk]at k;have b49:=k.len;obtain⟨a88,b50⟩:=m.two;obtain⟨b,L⟩:=m.at_;have Z:a6.cL bC r (a+1) (a6.node h)=a6.node (a6.ln h (a6.cT bC r (h.map (a6.cQ a))) (a6.cL bC r a b)):=by simp only[a6.cL,a6.fk];rw[L]
 obtain⟨_,_,a89,a90⟩:=a6.pt (gu k7 Q) X (a+1) (a6.node h) l.wf l.dU l.ok;rw[Z,a6.dD,a6.dD]at a89;rw[Z,a6.dD]at a90;rw[Z];rw[m.Ek]at k9;clear Z;generalize a6.cT bC r (h.map (a6.cQ a))=o at*;have a16:=(a4P.1 L).1;obtain⟨v,a92,_,_⟩:=m.hd b (a4O L);obtain⟨_,_,a94,a95⟩:=a6.pt (gu k7 Q) X a b v.wf v.dU v.ok;have a18:=λC p u=>ih b C p u v;have a96:=λb L=>(a6.gZ.1 (m.hd b L).2.1).2.1;have a97:=(a6.gZ.1 a92).1;have l1:=a2t (b:=a6.cL bC r a b) a16 a88;have l2:2<=a6.len (a6.cL bC r a b)->a6.ln h o (a6.cL bC r a b)=h.set o (a6.cL bC r a b):=λa=>by rw[a6.ln,if_pos a]
 clear m l;generalize a6.ln h o (a6.cL bC r a b)=l3 at*;generalize a6.cL bC r a b=B at*;refine AC.view (s:=λA c=> ∃d x z D P,A= .ptr d 0/\p d=none/\p x=none/\d≠x/\c d=some (.cells [.J [] .nil,.an x z D 1])/\(∃E,c x=some (.cells E)/\z<=E.length/\E.take z=P)/\az (bw c a) l3 P/\p.sub c) ?_ ?_;rotate_left
 .rintro A c ⟨d,x,z,D,P,rfl,F,a98,a99,j9,⟨E,f,b51,b00⟩,b01,b02⟩;have b52:P≠ []:=by rintro rfl;grind[az.xM]
  refine⟨_,_,View.obj (A:= [.J [] .nil]) j9 f a9k a99,?_,d,_,.any,.nil,rfl,U.ah _ _ _,?_,?_,by rw[a6.fk];omega⟩
  .intro n a19 H;have b03:n≠d:=by rintro rfl;rw[F]at H;cases H
   have a27:n≠x:=by rintro rfl;rw[a98]at H;cases H
   rw[U.ao _ _ b03,U.ao _ _ a27];exact b02 _ _ H
  .rw[a6.fk,ku,b00];refine b01.mono λ_ _=>bw.vo λI b04 b05 b06 a19 K=> ?_;have k0:I≠d:=by rintro rfl;rw[j9]at K;simp at K
   have l4:I≠x:=by rintro rfl;grind[a2s,br.cells.inj,Option.some.inj]
   rw[U.ao _ _ k0,U.ao _ _ l4];exact K
  grind[a6.fk]
 have b07:=U.af Y;have b53: ¬(h.length:Int)=0:=a9k;have l5:=bw.c k;refine aM hm Bk ?_;refine cl k9 ?_;rintro _ a29 ⟨M,rfl⟩;have b08:=rd M Y;have l6:=k.mono λ_ _=>bw.mono M;refine tZ (re l5 (pL k)) λb54 b09 N=> ?_;obtain⟨g,z,D,b55,rfl,a27,a30,b10,b11,b12,b56,b57⟩:=ar.an N (by grind);obtain rfl:z=h.length:=a9k;have a34:=N.1;have b13:=rd (U.au M a34) Y;obtain⟨_,a36,l7⟩:=l6.get L;obtain⟨b14,_,_,rfl,_⟩:=l7.ptr;refine cl (a18 _ b09 (bw.mono a34 l7)) ?_;rintro A l8 ⟨l9,n0⟩;obtain⟨i,_,_,rfl,_⟩:=n0.ptr;obtain⟨n1,a38,a42,-,y⟩:=ar.put (a:= .ptr i 0) (by rw[pL l6];exact N.mono l9) a9k l5 a36 rfl;have b15:=(vp (N.mono l9) a36).1;have b16:=U.aI a38;rw[a5y]at y a42;have aH:n1.take h.length=l0:=by have I:=l9 _ _ a30;simp_all
 obtain⟨S,n2⟩: ∃S,l8.set g (.cells (putAt n1 o [.ptr i 0]))=S:=⟨_,rfl⟩;have a43:zH l8 S:=λI b04 b05 b06 a19 K=>by
  have l4:I≠g:=by grind
  rw[<-n2,U.ao _ _ l4];exact K
 change ar a29 (l8.set g (.cells (putAt n1 o [.ptr i 0]))) 1 _ _ at y;rw[n2]at y;have T:=az.set o (l6.mono λ_ _ j9=>bw.mono y.1 j9) (bw.vo a43 n0);rw[pL T]at y;have b17:=T.len;rw[a7H,a7H]at b17;have a47:(l0.set o (.ptr i 0))[o]? =some (.ptr i 0):=a8L a9k;have a48:(h.set o B)[o]? =some B:=by simp[a16]
 clear aH a43 n0 k l5 b07 b08 b13 a30 b10 b11 b12 N;generalize b58:h.set o B=a52 at*;generalize l0.set o (.ptr i 0)=a56 at*;have b59:a52.length=h.length:=by grind
 have a57:=U.au M y.1;have n3: ∀b∈a52,a6.len b<=4:=λb L=>by
  grind
 obtain⟨b60,b18,b19⟩:=(vp y a47).2;obtain⟨b20,cd,b21,a61,n4,a62,a63,b22,_,_⟩:=(T.get a48|>.elim λC a=>by simp_all:bw S a B (.ptr i 0)).shape;obtain rfl:i=b20:=by simpa using a62
 clear a62 a18 ih k9;have b23:=U.af a63;have a65: ∀(n5 c) (P) (q) (d),p.sub n5->ar n5 c 1 P q->az (bw c a) l3 P->c d=none->
   ∃k1 x z D a68,R.ptr d 0= .ptr k1 0/\p k1=none/\p x=none/\k1≠x/\(c.set d (.cells [.J [] .nil,q])) k1=some (.cells [.J [] .nil,.an x z D 1])/\(∃E,(c.set d (.cells [.J [] .nil,q])) x=some (.cells E)/\z<=E.length/\E.take z=a68)/\az (bw (c.set d (.cells [.J [] .nil,q])) a) l3 a68/\p.sub (c.set d (.cells [.J [] .nil,q])):=λn5 c P q d n9 a00 k F=>by
  have a01:=U.ae (Y:= .cells [.J [] .nil,q]) U.a1 F;obtain⟨x,z,D,E,rfl,a02,a69,b61,b62,b63,b64,_⟩:=a00.an (λs=>by grind[az.xM]);exact⟨d,x,z,D,P,rfl,U.bF (U.au n9 a00.1) F,U.bF n9 a02,(λs=>by rw[s,a69]at F;cases F),U.ah _ _ _,⟨E,a01 _ _ a69,a9k,by simp_all⟩,k.mono λ_ _ a=>bw.mono a01 a,U.au n9 (U.au a00.1 a01)⟩
 by_cases c2:2<=a6.len B
 .have aH:(1)<(cd.length)+(a61.length:Int):=a9k;obtain rfl:=l2 c2;clear l2 l1;have b24:=fH y;refine aa ?_;refine bp λd F=> ?_;exact⟨_,U.a1,a65 a29 S a56 _ d M y T F⟩
 obtain⟨a71,a73,a03,k2,rfl⟩:=l1 c2;have aH: ¬(1)<(cd.length)+(a61.length:Int):=a9k;clear l2 c2 l1;refine aa ?_;clear aH a63 b22 b23 b19 b18 a47 a48 b15 b16 a38 a42;refine o6 [0,7,8] (λ_:Unit=> [(9,.v (.int .i64 ((o - 1:Nat))))]) (λ_ c=>c=S) (λb=> ?_) (λb=> ?_) ?_
 .have b:=of_decide_eq_true b;have s:((o - 1:Nat):Int)=0:=a9k;exact aS
 .have b:=of_decide_eq_false b;have s:(o) - 1=((o - 1:Nat):Int):=a9k;exact aS
 clear n2;rintro _ S rfl b25;generalize o - 1=j at*;have b65:=(a4P.1 k2).1;have b66:=n3 _ (a4O a03);have b67:=n3 _ (a4O k2);obtain⟨_,b26,a04⟩:=T.get a03;obtain⟨_,b27,a05⟩:=T.get k2;obtain⟨b68,b69,b70,b71,b72,rfl,w,b73,_,_⟩:=a04.shape;obtain⟨x,b74,b75,cc,b76,rfl,f,b77,_,_⟩:=a05.shape;obtain⟨b28,b78,b79,b80,b81,s,b29,_,b30,b31⟩:=(bw.mono y.1 l7).shape;obtain rfl:b14=b28:=by simpa using s
 obtain⟨b82,b83,b32,b84⟩:=vp y b26;obtain⟨a74,b85,a06,b86⟩:=vp y b27;have a74:cP 1 (.an g h.length D 1) (.v (.int .i64 ((j)+1)))=some (.ptr g (j+1)):=a74;have b87:=U.af b29;have b88:=rd a57 Y;rw[b32]at a06;obtain rfl:=a4G a06;clear s a06 n3 a94 a95 a96 a97 a03 k2;refine aa ?_;refine o6 [8,9] (λn:List R×Own=> [(12,.J n.1 n.2)]) (λn c=>S.sub c/\az (bw c a) (a6.kA a71 a73) n.1) (λcW=> ?_) (λcW=> ?_) ?_
 .have cW:=of_decide_eq_true cW;cases a with
  |succ a=>exact absurd (a4N a9k) (b31 a9k).2
  |zero=>have k:=a04.rows w;have V:=a05.rows f;have b33:=k.len;have b34:=V.len;have a07:=U.af w;have a08:=U.af f;refine tZ (re (iF k) (nn k)) λa5 b35 t=> ?_;have a07:=rd t.1 w;have a08:=rd t.1 f;refine qx t (re (iF V) (nn V)) λds b36 a09=> ?_;obtain⟨a10,a11,k3⟩:=ar.G8 a09;refine cl (AC.nq (g:= []) a11 (Ed _ _ .any a10 (k.append V) (by rw[a4J];omega))) ?_;rintro _ a13 ⟨a14,k4,k5,rfl,W⟩;refine aa ?_;exact⟨(k4,k5),⟨U.au k3 a14,W⟩,rfl⟩
 .have cW:=of_decide_eq_false cW;cases a with
  |zero=>exact absurd (by rw[b30 rfl];rfl) cW
  |succ a=>have k:=a04.kids w;have V:=a05.kids f;have b33:=k.len;have b34:=V.len;have a07:=U.af w;have a08:=U.af f;refine tZ (re (bw.c k) (pL k)) λa5 b35 t=> ?_;have a07:=rd t.1 w;have a08:=rd t.1 f;refine qx t (re (bw.c V) (pL V)) λds b36 a09=> ?_;obtain⟨a10,a11,k3⟩:=ar.G8 a09;refine cl (AC.nq (g:= []) a11 (xY S _ _ .any a10 (k.append V) (by rw[a4J];omega) k3)) ?_;rintro _ a13 ⟨a14,k4,k5,rfl,W⟩;refine aa ?_;exact⟨(k4,k5),⟨U.au k3 a14,W⟩,rfl⟩
 rintro⟨k4,k5⟩ a13 ⟨a15,W⟩ b25
 dsimp only at W|-
 have b89:=W.len;have b90:(a6.kA a71 a73).length<=4:=by grind
 have a81:=y.mono a15;have b37:=T.len;have b21:=hL (e:=1) (O:=g) (b9:=h.length) (i:=D) (v:=j) (e2:= .i64) a9k;obtain⟨b91,b92,b38,_⟩:=(a81.first (i:=j) a9k).src;obtain⟨_,_,_,b93,k0,_,b39,b94,b40,_,_,_⟩:=a81.an (by rintro rfl;simp at b37;omega);simp only[R.an.injEq,and_true]at k0;obtain⟨rfl,rfl,rfl⟩:=k0;refine tZ b38 (λb95 b96 b41=> ?_) (x:=by rw[a4K];omega);refine qx b41 (re (bw.c W) (pL W)) (λb97 b42 a83=> ?_) (y:=by rw[a4K];omega);obtain⟨a02,n4,_,k6⟩:=ov (i:=1) (j1:=g) (O:=h.length) (e:=j+2) (e2:= .i64) a9k a9k;have k6:=k6 b42 _ a56 (a83.1 _ _ b39) a9k b40;rw[a5y]at k6;have n4:cg 1 (.an g h.length D 1) (some (.v (.int .i64 ((j)+2)))) none none=some a02:=n4;refine qx a83 k6 (λb98 b43 O=> ?_) (x:=by rw[a4Y];omega) (y:=by grind);have b24:=fH O;have a84:=λ{G:a6.T a}{C:R}=>bw.mono (t:=G) (a:=C) (U.au a15 O.1);refine aa ?_;refine bp λd F=> ?_;rw[a5y]at O;exact⟨_,U.a1,a65 a13 b43 _ _ d (U.au a57 a15) O ((((T.take j).mono λ_ _ a=>a84 a).append (W.mono λ_ _ a=>bw.mono O.1 a)).append ((T.drop (j+2)).mono λ_ _ a=>a84 a)) F⟩
variable{Q:List (List Int)}
def zI:(dw 0 (a6.leaf Q)).rows.map Prod.fst=Q:=by rw[Zk];show(Q.map λa=>(a,true)).map Prod.fst=Q;rw[a6K];exact List.map_id' Q
def G9:(dw 0 (a6.leaf Q)).kind=2:=rfl
def zJ {a:a6.T (e+1)}: ¬(dw (e+1) a).kind=2:=by show¬(3)=2;decide
def Ga (c:1<=i) (d:i<=8) {a:List (a6.T e)} (h:eX i (e+1) (a6.node a)) (b:List Int):hx b (dw (e+1) (a6.node a))=a6.cT bC b (a.map (a6.cQ e)):=by unfold hx;rw[y6];congr 1;show(a.map (c4 e)).map (·.key)= _;rw[a6K];exact a6l λk o=>Zn c d (h.hd k o).1
def Gb {a:List (a6.T e)}:(dw (e+1) (a6.node a)).kids[i]? =a[i]?.map (c4 e):=by rw[y6];show(a.map (c4 e))[i]? = _;simp
variable{q b6:List Int}
theorem Gc (r:1<=i) (x:i<=8) {a:List (a6.T e)} (c:GT i (e+1) (a6.node a)) (y:bL i q) {b:a6.T e} (d:a[a6.cT bC q (a.map (a6.cQ e))]? =some b):q∈a6.bg (e+1) (a6.node a)↔q∈a6.bg e b:=by obtain⟨h,D,z,E⟩:=c.wf;rw[a6.dD]at h;have F: ∀b∈a,a6.WF e b:=z;have k:=c.dU;have o:=c.ok;rw[a6.fZ]at k o|-;obtain⟨G,p,L,P⟩:=a6.uA (gu r x) y (by intro C;subst C;simp at h) (λb d=>by grind[a6.gZ]) k o;rw[d]at p;obtain rfl:=a4G p;have S:=a6.qN d;grind[a6.cT,bC,a6.cQ,sJ]
theorem Gd {D:Nat} (p:1<=D) (r:D<=8) {c:List Int} (z:bL D c): ∀(a:Nat) (y:a6.T a) (C:ag) (F:Nat),GT D a y->gv C a y->a<F->c∉a6.bg a y->Laid C a (a6.eV bC c a y) (gq D c F C (c4 a y))
 |0,y,C,F+1,h,G,_,f=>by
  obtain⟨L,rfl⟩:=a6.hX y;obtain⟨s,t,_⟩:=h.wf;rw[a6.hY]at s t;have S:=h.ok;have g:(dw 0 (a6.leaf L)).rows.map Prod.fst=L:=zI;rw[gq,qR p r h.jV G];simp only;rw[if_pos G9,g,yd (Q:=L) p r h.dU S z,decide_eq_false (p:=c∈L) f,if_neg a9o,Zq (Q:=L) p r h.dU S z];exact Es p r C (a6.dL bC L c) (by rw[a6.ot];omega) (by rw[a6.ot];omega) λE k=>by
   rcases a6.sE.1 k with rfl|k
   .exact z
   .exact S E k
 |a+1,y,C,F+1,h,G,H,f=>by
  obtain⟨b,rfl⟩:=a6.gp y;have i:=h.kids p r z;obtain⟨d,P⟩:=i.at_;have j:=a4O P;have l:c∉a6.bg a d:=λx=>f ((Gc p r h z P).2 x);obtain⟨I,K⟩:=i.two;have T:=(i.hd d j).1;obtain⟨u,M,N,O⟩:=a6.qO (gu p r) z a d T.wf T.dU T.ok l;have ih:=Gd p r z a d C F T (G.2 d j) a9k l;rw[gq,qR p r h.jV G];simp only;rw[if_neg zJ,Ga p r h.jV,Gb,P];simp only[a5I];have m:a6.eV bC c (a+1) (a6.node b)=(a6.chunks (b.take (a6.cT bC c (b.map (a6.cQ a)))++a6.eV bC c a d++b.drop (a6.cT bC c (b.map (a6.cQ a))+1))).map a6.node:=by simp only[a6.eV,a6.fk];rw[P]
  rw[m];clear m;have Q:=(a4P.1 P).1;have X:=a6.qN P;generalize a6.cT bC c (b.map (a6.cQ a))=o at*;generalize gq D c F C (c4 a d)=E at*;obtain⟨Y,v⟩:=E;obtain⟨n,V,q⟩:=ih;simp only at n V q;subst n;simp only;have g:(dw (a+1) (a6.node b)).kids.take o++((a6.eV bC c a d).map (c4 a)++(dw (a+1) (a6.node b)).kids.drop (o+1))=(b.take o++a6.eV bC c a d++b.drop (o+1)).map (c4 a):=by rw[y6];show(b.map (c4 a)).take o++(_++(b.map (c4 a)).drop (o+1))= _;simp
  rw[g];have w: ∀E∈(b.take o++a6.eV bC c a d++b.drop (o+1)).flatMap (a6.bg a),bL D E:=λE k=>by
   rw[a5x,a5x,u,a4X,a4X]at k;have S:=h.ok;rw[a6.fZ]at S;rcases k with (k|k)|k;grind
   .rcases a6.sE.1 k with rfl|k
    .exact z
    .exact T.ok E k
   grind
  have A:((b.take o++a6.eV bC c a d++b.drop (o+1)).flatMap (a6.bg a)).length=(a6.bg (a+1) (a6.node b)).length+1:=by grind[a6.fZ,List.length_append,a6.ot]
  have Z:=h.dE;have j9: ∀d∈b,a6.WF a d:=h.wf.2.2.1;have:=ya p r v (b.take o++a6.eV bC c a d++b.drop (o+1)) (by grind) (by grind) (λW x=>by
   grind) w (by rw[A];omega) (λk0 e B W x=>by
   simp only[a4X]at x;rcases x with (x|x)|x
   .exact(G.2 W (a4V x)).mono (V.trans e)
   .exact(q (e.zero B) W x).mono e
   .exact(G.2 W (a5m x)).mono (V.trans e))
  exact⟨this.ok,V.trans this.le,this.ins⟩
def iM:eE->ay
 |none=>aA
 |some ⟨a,b⟩=>c4 a b
def mw (a:ag):eE->Prop
 |none=>True
 |some ⟨b,c⟩=>gv a b c
def mw.mono {a b:ag} (c:a.le b) {t:eE} (d:mw a t):mw b t:=by
 match t with
 |none=>trivial
 |some ⟨_,_⟩=>exact gv.mono c d
structure pM (a:ag) (t:eE) (r:Except Int ay×ag):Prop where
 ok:r.1= .ok (iM t)
 le:a.le r.2
 ins:r.2.one=false->mw r.2 t
variable{H:ag}
def a2v (F:1<=i) (G:i<=8) {r:ag}{a:List (a6.T e)} (L:1<=a.length) (P:a.length<=2) (k:Laid r e a (.ok (a.map (c4 e)),H)) (S: ∀b∈a,a6.WF e b) (T: ∀o∈a.flatMap (a6.bg e),bL i o) (V:(a.flatMap (a6.bg e)).length<=1048576):
  pM r (pv a) (iD i ((a.map (c4 e)).length+1) H (a.map (c4 e))):=by
 match a,L,P with
 | [b],_,_=>
  have p:iD i (([b].map (c4 e)).length+1) H ([b].map (c4 e))=(.ok (c4 e b),H):=by rw[iD];rfl
  rw[p];exact⟨rfl,k.le,λc=>k.ins c b a9l⟩
 | [d,h],_,_=>
  have x:=ya F G H [d,h] a9l a9l S T V (λg y c W f=>(k.ins (y.zero c) W f).mono y);rw[a6.pq a9l a9l]at x;rw[iD,if_pos a9l];generalize jQ H i ([d,h].map (c4 e))=o at*;obtain⟨j,z⟩:=o;obtain⟨C,D,E⟩:=x;simp only at C D E;subst C;simp only;have p:iD i (([d,h].map (c4 e)).length) z (([[d,h]].map a6.node).map (c4 (e+1)))=(.ok (c4 (e+1) (a6.node [d,h])),z):=by rfl
  rw[p];exact⟨rfl,k.le.trans D,λc=>E c _ a9l⟩
variable{b7:eE}
def a2w (c:1<=e) (d:e<=8) (h:bL e q) (D:iH e b7) (E:mw H b7) (F:q∉eF b7):pM H (kF b7 q) (jc e q H (iM b7)):=by
 match b7 with
 |none=>have G:=uB c d (Q:= [q]) a9l a9l (by simpa using h);unfold jc;show pM H _ (if aA=aA then _ else _);rw[if_pos rfl,qQ G.oy];exact⟨rfl,lq _ _,λL=>qP L⟩
 |some ⟨a,b7⟩=>
  have b:GT e a b7:=D;have o:q∉a6.bg a b7:=F;have y:=uC c d b.jV;have g:=eX.high a b7 b.jV;have i:=y.size;have j:=b.dE;have P:=Gd c d h a b7 H ((c4 a b7).size.toNat+1) b E a9k o;obtain⟨z,S,T,V⟩:=a6.qO (gu c d) h a b7 b.wf b.dU b.ok o;have p:kF (some ⟨a,b7⟩) q=pv (a6.eV bC q a b7):=by simp only[kF];rw[if_neg o]
  rw[p];unfold jc;show pM H _ (if c4 a b7=aA then _ else(match gq e q ((c4 a b7).size.toNat+1) H (c4 a b7)with|(.error p,r)=>(.error p,r)|(.ok bI,r)=>iD e (bI.length+1) r bI));rw[if_neg y.ne];generalize gq e q ((c4 a b7).size.toNat+1) H (c4 a b7)=x at*;obtain⟨l,m⟩:=x;obtain⟨C,W,f⟩:=P;simp only at C;subst C;simp only;refine a2v c d T V ⟨rfl,W,f⟩ S (λx k=> ?_) (by rw[z,a6.ot];omega);rw[z]at k;rcases a6.sE.1 k with rfl|k
  .exact h
  .exact b.ok x k
theorem a2x (y:1<=e) (z:e<=8) (d:bL e q) (P:iH e b7) (S:(eF b7).length<1000):iH e (kF b7 q)/\(eF (kF b7 q)).length<=(eF b7).length+1:=by
 match b7 with
 |none=>
  refine⟨⟨⟨?_,?_,trivial,λa=>by omega⟩,?_,?_,?_⟩,?_⟩
  .simp[a6.hY]
  .simp[a6.hY]
  .rw[a6.kz];simp
  .rw[a6.kz];simpa using d
  .rw[a6.kz];simp
  .show(a6.bg 0 (a6.leaf [q])).length<= _;rw[a6.kz];simp
 |some ⟨a,b7⟩=>
  have c:GT e a b7:=P;have W:(a6.bg a b7).length<1000:=S;simp only[kF];by_cases k:q∈a6.bg a b7;simp_all;rw[if_neg k];obtain⟨o,h,T,V⟩:=a6.qO (gu y z) d a b7 c.wf c.dU c.ok k;have C:=a6.Yt (gu y z) c.dU c.ok d k;have D: ∀p∈a6.dL bC (a6.bg a b7) q,bL e p:=λp r=>by
   rcases a6.sE.1 r with rfl|r
   .exact d
   .exact c.ok p r
  have f:=a6.ot (lt:=bC) (j0:=a6.bg a b7) (h4:=q);generalize a6.dL bC (a6.bg a b7) q=E at*
  match F:a6.eV bC q a b7,T,V with
  | [x],_,_=>
   rw[F]at o h;have b:a6.bg a x=E:=by rw[<-o];simp
   refine⟨⟨a6.jP.of (h x a9l),by rw[b];exact C,by rw[b];exact D,by rw[b];omega⟩,?_⟩;show(a6.bg a x).length<=(a6.bg a b7).length+1;rw[b];omega
  | [G,L],_,_=>
   rw[F]at o h;have b:a6.bg (a+1) (a6.node [G,L])=E:=by trivial
   refine⟨⟨⟨by rw[a6.dD];simp,by rw[a6.dD];simp,h,λ_=>by rw[a6.dD];simp⟩,by rw[b];exact C,by rw[b];exact D,by rw[b];omega⟩,?_⟩;show(a6.bg (a+1) (a6.node [G,L])).length<=(a6.bg a b7).length+1;rw[b];omega
def fm:(a:Nat)->a6.T a->hZ
 |0,b=>⟨true,a6.rows b,[]⟩
 |a+1,b=>⟨false,[],(a6.kids b).map (c4 a)⟩
def oK (b:ag):(a:Nat)->a6.T a->Prop
 |0,_=>True
 |a+1,c=> ∀d∈a6.kids c,gv b a d
def oK.mono {b c:ag} (h:b.le c): ∀ {a:Nat}{d:a6.T a},oK b a d->oK c a d
 |0,_,_=>trivial
 | _+1,_,a=>λk o=>gv.mono h (a k o)
def gv.p: ∀ {a:Nat}{b:a6.T a},gv H a b->oK H a b
 |0,_,_=>trivial
 | _+1,_,a=>a.2
def a2y: ∀ {b:Nat}{a:a6.T b},(fm b a).rows.length+(fm b a).kids.length=a6.len a
 |0,a=>rfl
 |b+1,a=>by show 0+((a6.kids a).map (c4 b)).length= _;rw[a4T,a5h];rfl
def Ge: ∀ {b:Nat}{a:a6.T b},hc (dw b a)=fm b a
 |0,a=>by
  obtain⟨c,rfl⟩:=a6.hX a;unfold hc;rw[zI];rfl
 |b+1,a=>rfl
def zK: ∀ {a:Nat}{b:a6.T a},mg H e (fm a b).leaf (fm a b).rows (fm a b).kids=dv H e (dw a b)
 |0,b=>rfl
 |a+1,b=>rfl
theorem Gf (C:1<=e) (D:e<=8) (k:ag): ∀ {c:Nat} (a b:a6.T c),a6.ll c a->a6.ll c b->2<=a6.len a+a6.len b->a6.len a+a6.len b<=5->(∀d∈a6.bg c a,bL e d)->(∀d∈a6.bg c b,bL e d)->
  (a6.bg c a).length+(a6.bg c b).length<=1048576->(∀h,k.le h->h.one=false->oK h c a/\oK h c b)->Laid k c (a6.kA a b) (kC k e (fm c a) (fm c b))
 |0,a,b,_,_,p,r,x,y,_,_=>by
  obtain⟨a,rfl⟩:=a6.hX a;obtain⟨b,rfl⟩:=a6.hX b;rw[a6.hY,a6.hY]at p r;exact Es C D k (a++b) (by rw[a4J];omega) (by rw[a4J];omega) λd E=>(a4X.1 E).elim (x d) (y d)
 |c+1,a,b,bW,cv,p,r,x,y,F,G=>by
  obtain⟨a,rfl⟩:=a6.gp a;obtain⟨b,rfl⟩:=a6.gp b;rw[a6.dD,a6.dD]at p r;rw[a6.fZ]at x y F;rw[a6.fZ]at F;have:=ya C D k (a++b) (by rw[a4J];omega) (by rw[a4J];omega) (λo z=>(a4X.1 z).elim (bW o) (cv o)) (λd E=>by
   grind) (by simp_all) (λh L P o z=>(a4X.1 z).elim ((G h L P).1 o) ((G h L P).2 o))
  rw[a5J]at this;exact this
theorem a2z (C:1<=i) (D:i<=8) (o:ag) {d:List (a6.T e)}{c:a6.T e} (m:v<d.length) (B:2<=d.length) (z: ∀b∈d,eX i e b/\a6.WF e b/\gv o e b) (H:1<=a6.len c) (n:a6.len c<=4) (T:a6.ll e c)
  (V: ∀E∈a6.bg e c,bL i E) (q: ∀b∈d,(a6.bg e b).length+(a6.bg e c).length<=1048576) (W: ∀r,o.le r->r.one=false->oK r e c):Laid o e (a6.ln d v c) (jT o i (d.map (c4 e)) v (fm e c)):=by
 unfold jT a6.ln;rw[a2y];have s:(a6.bg e c).length<=1048576:=by have:=q _ (a5k m);omega
 by_cases F:2<=a6.len c
 .rw[if_pos F,if_pos F,zK];have t:=a6.gZ.2 ⟨F,n,T⟩;have u:=(nt C D e c (Er t V s)).1;rw[qQ u.oy];simp only;refine⟨?_,lq _ _,λk b a=> ?_⟩
  .rw[<-sK,List.map_set]
  .rcases a6Q a with a|rfl
   .exact(z b a).2.2.mono (lq _ _)
   .have S:=qP k;have f:=W _ (lq o (cY (dw e b))) k
    match e,b,S,f with
    |0,b,S,f=>exact S
    |e+1,b,S,f=>trivial
 .rw[if_neg F,if_neg F];have I:a6.len c=1:=a9k;by_cases l:v=0
  .subst l;simp only[if_true];have x:d[1]? =some d[1]:=a4H a9k;rw[a5i,x];generalize d[1]=y at x;have h:=z y (a4O x);have g:=a6.gZ.1 h.2.1;simp only[a5I];rw[qR C D h.1 h.2.2];simp only;rw[Ge];have j:=Gf C D o c y T g.2.2 a9k a9k V h.1.ok (by grind) (λr G k=>⟨W r G k,(h.2.2.mono G).p⟩);generalize kC o i (fm e c) (fm e y)=E at*;obtain⟨w,A⟩:=E;obtain⟨L,p,P⟩:=j;simp only at L p P;subst L;simp only;refine⟨a9l,p,λk b a=> ?_⟩;simp only[a4X]at a;rcases a with (a|a)|a;simp_all
   .exact P k b a
   .exact(z b (a5m a)).2.2.mono p
  .simp only[if_neg l];have x:d[v - 1]? =some d[v - 1]:=a4H a9k;rw[a5i,x];generalize d[v - 1]=y at x;have h:=z y (a4O x);have g:=a6.gZ.1 h.2.1;simp only[a5I];rw[qR C D h.1 h.2.2];simp only;rw[Ge];have j:=Gf C D o y c g.2.2 T a9k a9k h.1.ok V (by grind) (λr G k=>⟨(h.2.2.mono G).p,W r G k⟩);generalize kC o i (fm e y) (fm e c)=E at*;obtain⟨w,A⟩:=E;obtain⟨L,p,P⟩:=j;simp only at L p P;subst L;simp only;refine⟨a9l,p,λk b a=> ?_⟩;simp only[a4X]at a;rcases a with (a|a)|a
   .exact(z b (a4V a)).2.2.mono p
   .exact P k b a
   .exact(z b (a5m a)).2.2.mono p
structure a2A (a:ag) (h:Nat) (t:a6.T h) (r:Except Int hZ×ag):Prop where
 ok:r.1= .ok (fm h t)
 le:a.le r.2
 ins:r.2.one=false->oK r.2 h t
theorem Gg {p:Nat} (c:1<=p) (d:p<=8) {b:List Int} (y:bL p b): ∀(a:Nat) (k:a6.T a) (r:ag) (z:Nat),GT p a k->gv r a k->a<z->b∈a6.bg a k->a2A r a (a6.cL bC b a k) (ia p b z r (c4 a k))
 |0,k,r,z+1,h,E,_,T=>by
  obtain⟨F,rfl⟩:=a6.hX k;have V:(dw 0 (a6.leaf F)).rows.map Prod.fst=F:=zI;rw[ia,qR c d h.jV E];simp only;rw[if_pos G9,V,yd (Q:=F) c d h.dU h.ok y,decide_eq_true (p:=b∈F) T,if_pos rfl,Zr (Q:=F) c d h.dU h.ok y T];exact⟨rfl,ag.le_refl,λ_=>trivial⟩
 |a+1,k,r,z+1,h,E,O,T=>by
  obtain⟨x,rfl⟩:=a6.gp k;have C:=h.kids c d y;obtain⟨o,G⟩:=C.at_;have e:=a4O G;have t:=(Gc c d h y G).1 T;obtain⟨u,Q⟩:=C.two;obtain⟨D,v,_,_⟩:=C.hd o e;have X:=a6.gZ.1 v;obtain⟨w,A,Y,B⟩:=a6.pt (gu c d) y a o D.wf D.dU D.ok;have ih:=Gg c d y a o r z D (E.2 o e) a9k t;rw[ia,qR c d h.jV E];simp only;rw[if_neg zJ,Ga c d h.jV,Gb,G];simp only[a5I];have f:a6.cL bC b (a+1) (a6.node x)=a6.node (a6.ln x (a6.cT bC b (x.map (a6.cQ a))) (a6.cL bC b a o)):=by simp only[a6.cL,a6.fk];rw[G]
  rw[f];clear f;have H:=(a4P.1 G).1;generalize a6.cT bC b (x.map (a6.cQ a))=I at*;generalize ia p b z r (c4 a o)=L at*;obtain⟨K,g⟩:=L;obtain⟨i,W,j⟩:=ih;simp only at i W j;subst i;simp only;have Z:=D.dE;have j9:(a6.bg a (a6.cL bC b a o)).length<=1000:=by grind
  have M:=a2z c d g H u (λP S=>⟨(C.hd P S).1.jV,(C.hd P S).2.1,(E.2 P S).mono W⟩) a9k B A (λL l=>by
   rw[w]at l;exact D.ok L (a7I.1 l).1) (λP S=>by have:=(C.hd P S).1.dE;omega) (λk0 m N=>(j (m.zero N)).mono m)
  have V:(dw (a+1) (a6.node x)).kids=x.map (c4 a):=rfl;rw[V];generalize jT g p (x.map (c4 a)) I (fm a (a6.cL bC b a o))=L at*;obtain⟨K,k1⟩:=L;obtain⟨n,q,s⟩:=M;simp only at n q s;subst n;simp only;exact⟨rfl,W.trans q,s⟩
def vq:(b:Nat)->a6.T b->eE
 |0,a=>if a6.len a=0 then none else some ⟨0,a⟩
 |b+1,a=>match a6.kids a with
  | [c]=>some ⟨b,c⟩
  | _=>some ⟨b+1,a⟩
def js (a:eE) (c:List Int):eE:=
 match a with
 |none=>none
 |some ⟨b,a⟩=>if c∈a6.bg b a then vq b (a6.cL bC c b a)else some ⟨b,a⟩
theorem a2B (C:1<=e) (D:e<=8) (j:bL e q) (l:iH e b7) (m:mw H b7) (S:q∈eF b7):pM H (js b7 q) (lo e q H (iM b7)):=by
 match b7 with
 |none=>cases S
 |some ⟨a,b7⟩=>
  have d:GT e a b7:=l;have T:q∈a6.bg a b7:=S;have V:=uC C D d.jV;have h:=eX.high a b7 d.jV;have w:=V.size;have A:=d.dE;have B:=Gg C D j a b7 H ((c4 a b7).size.toNat+1) d m a9k T;obtain⟨n,r,x,o⟩:=a6.pt (gu C D) j a b7 d.wf d.dU d.ok;have s:js (some ⟨a,b7⟩) q=vq a (a6.cL bC q a b7):=by simp only[js];rw[if_pos T]
  have t:iM (some ⟨a,b7⟩)=c4 a b7:=rfl;rw[s];unfold lo;rw[t,if_neg V.ne];have p: ∀E∈a6.bg a (a6.cL bC q a b7),bL e E:=λE u=>by
   rw[n]at u;exact d.ok E (a7I.1 u).1
  have z:(a6.bg a (a6.cL bC q a b7)).length<=1000:=by grind
  have P:=d.wf;clear w V m s t l;generalize ia e q ((c4 a b7).size.toNat+1) H (c4 a b7)=E at*;generalize a6.cL bC q a b7=b at*;obtain⟨K,M⟩:=E;obtain⟨v,F,k⟩:=B;simp only at v F k;subst v;simp only;clear S T d h A n
  match a,b7,b,r,x,o,p,z,k,P with
  |0,b7,b,r,x,o,p,z,k,P=>
   show pM H (if a6.len b=0 then none else some ⟨0,b⟩) _;have W: ¬((fm 0 b).leaf=false/\(fm 0 b).kids.length=1):=λh=>absurd h.1 (show¬true=false by decide);by_cases c:a6.len b=0
   .rw[if_pos c,if_pos (⟨rfl,c⟩)];exact⟨rfl,F,λ_=>trivial⟩
   .have f: ¬((fm 0 b).leaf=true/\(fm 0 b).rows.length=0):=λh=>c h.2;rw[if_neg c,if_neg f,if_neg W,zK];have g:=(nt C D 0 b ⟨⟨a9k,o,trivial,λh=>by omega⟩,p,a9k⟩).1;rw[qQ g.oy];exact⟨rfl,F.trans (lq _ _),λc=>qP c⟩
  |a+1,b7,b,r,x,o,p,z,k,P=>
   have N:=P.2.2.2 a9k;have f: ¬((fm (a+1) b).leaf=true/\(fm (a+1) b).rows.length=0):=λh=>absurd h.1 (show¬false=true by decide);rw[if_neg f];obtain⟨y,rfl⟩:=a6.gp b;rw[a6.dD]at x o
   match y,x,o,r,p,z,k with
   | [],x,_,_,_,_,_=>simp at x;omega
   | [i],_,_,r,p,z,k=>rw[if_pos (⟨rfl,rfl⟩)];exact⟨rfl,F,λc=>k c i (by simp[a6.fk])⟩
   |G::L::y,_,o,r,p,z,k=>
    have W: ¬((fm (a+1) (a6.node (G::L::y))).leaf=false/\(fm (a+1) (a6.node (G::L::y))).kids.length=1):=λh=>by
     have:=h.2;rw[show(fm (a+1) (a6.node (G::L::y))).kids=(G::L::y).map (c4 a)from rfl]at this;simp at this
    rw[if_neg W,zK];have g:=(nt C D (a+1) (a6.node (G::L::y)) ⟨⟨by rw[a6.dD];simp,by rw[a6.dD];exact o,r,λ_=>by rw[a6.dD];simp⟩,p,a9k⟩).1;rw[qQ g.oy];exact⟨rfl,F.trans (lq _ _),λc=>⟨qP c,λi I=>(k ((lq _ _).zero c) i I).mono (lq _ _)⟩⟩
theorem a2C (P:1<=e) (S:e<=8) (T:bL e q) (F:iH e b7):iH e (js b7 q)/\(eF (js b7 q)).length<=(eF b7).length:=by
 match b7 with
 |none=>exact⟨trivial,a5n _⟩
 |some ⟨c,b7⟩=>
  have d:GT e c b7:=F;simp only[js];by_cases G:q∈a6.bg c b7
  .rw[if_pos G];obtain⟨b,h,o,k⟩:=a6.pt (gu P S) T c b7 d.wf d.dU d.ok;have i:=a7X (λa=>decide (a≠q)) (a6.bg c b7);have y:=d.dU.filter λa=>decide (a≠q);have z: ∀C∈(a6.bg c b7).filter (λa=>decide (a≠q)),bL e C:=λC V=>d.ok C (a7I.1 V).1;have j:=d.dE;have p:=d.wf;show iH e _/\ _<=(a6.bg c b7).length;generalize (a6.bg c b7).filter (λa=>decide (a≠q))=W at*;generalize a6.cL bC q c b7=a at*;generalize (a6.bg c b7).length=r at*;clear G F d
   match c,a,b7,b,h,o,k,p with
   |0,a,b7,b,h,o,k,p=>
    show iH e (if a6.len a=0 then none else some ⟨0,a⟩)/\(eF (if a6.len a=0 then none else some ⟨0,a⟩)).length<=r;by_cases L:a6.len a=0
    .rw[if_pos L];exact⟨trivial,by simp[eF]⟩
    .rw[if_neg L];refine⟨⟨⟨a9k,k,trivial,λl=>by omega⟩,by rw[b];exact y,by rw[b];exact z,by rw[b];omega⟩,?_⟩;show(a6.bg 0 a).length<=r;rw[b];omega
   |c+1,a,b7,b,h,o,k,p=>
    have m:=p.2.2.2 a9k;obtain⟨D,rfl⟩:=a6.gp a;rw[a6.dD]at o k
    match D,o,k,h,b with
    | [],o,_,_,_=>simp at o;omega
    | [E],_,_,h,b=>
     have x:a6.bg c E=W:=by rw[<-b,a6.fZ];simp
     refine⟨⟨a6.jP.of (h E (by simp[a6.fk])),by rw[x];exact y,by rw[x];exact z,by rw[x];omega⟩,?_⟩;show(a6.bg c E).length<=r;rw[x];omega
    |f::g::D,_,k,h,b=>refine⟨⟨⟨by rw[a6.dD];simp,by rw[a6.dD];exact k,h,λ_=>by rw[a6.dD];simp⟩,by rw[b];exact y,by rw[b];exact z,by rw[b];omega⟩,?_⟩;show(a6.bg (c+1) (a6.node (f::g::D))).length<=r;rw[b];omega
  simp_all
def a2D (q:1<=e) (s:e<=8) (b:List Int) (S:Own) (t:bL e b) (a:eE) (o:R) (p:U) (C:fL p a o) (H:iH e a):
  AC Tryz.prog 53 [o,.J (ad b) S] p λT u=>p.sub u/\ ∃v h,T= .aL [v,.v (.bool h)]/\fL u (js a b) v:=by
 have D: ∀o h:R,aX false 1 [o,h]=o:=λ_ _=>rfl;have E: ∀o h:R,aX false 1 ([o,h].drop 1)=h:=λ_ _=>rfl;refine bc hm KV a9l ?_
 match a with
 |none=>obtain rfl:=C;refine bT ?_;refine ai (Zd p) ?_;rintro _ p ⟨rfl,rfl⟩;refine bT ?_;refine ai (y0 [] [] .nil S b p trivial a9l a9l) ?_;rintro _ _ ⟨rfl,rfl⟩;have I:decide (b∈([]))=false:=a9l;refine aj @I ?_;exact⟨_,U.a1,U.a1,_,_,rfl,rfl⟩
 |some ⟨c,a⟩=>
  obtain⟨h,k3,k4,rfl,k5⟩:=bw.ptr C;have r:GT e c a:=H;have k6:=r.dE;refine bT ?_;refine ai (xZ c a (.ptr h 0) p C a9k) ?_;rintro _ l ⟨V,K,M,rfl,N⟩;refine bT ?_;refine ai (y0 _ K M S b l N a9k λT O=>by have:=(r.ok T O).len;omega) ?_;rintro _ l ⟨rfl,rfl⟩;by_cases W:b∈a6.bg c a
  .refine aj @W ?_;refine ai (a2u q s b S t c a (.ptr h 0) l (bw.mono V C) r) ?_;rintro T m ⟨Q,z⟩;have X:js (some ⟨c,a⟩) b=vq c (a6.cL bC b c a):=by simp only[js];rw[if_pos W]
   rw[X];obtain⟨_,k7,k8,F⟩:=a6.pt (gu q s) t c a r.wf r.dU r.ok;have k9:=r.wf;have f:=U.au V Q;generalize a6.cL bC b c a=x at*;cases c with
   |zero=>
    obtain⟨Y,g,w,Z,rfl,k,d⟩:=id z;have G:=d.len;have l0:g.length<=4:=by rw[G];exact F
    have L:(([]:List R).length:Int)=0:=rfl;have y: ¬((0:Int)=1):=a9k;refine aj (bm (U.af k) @D @E @L @y) ?_;by_cases A:(g.length:Int)=0
    .have n:(0)+(g.length:Int)=0:=a9k;refine aj (c6 (U.af k) @D @E @L @y @A @n) ?_;refine⟨_,U.a1,f,_,_,rfl,?_⟩;show fL m (if a6.len x=0 then none else some ⟨0,x⟩) _;rw[if_pos (by show(a6.rows x).length=0;omega)];rfl
    .have n: ¬((0)+(g.length:Int)=0):=a9k;refine aj (c6 (U.af k) @D @E @L @y @A @n) ?_;refine⟨_,U.a1,f,_,_,rfl,?_⟩;show fL m (if a6.len x=0 then none else some ⟨0,x⟩) _;rw[if_neg (by show¬(a6.rows x).length=0;omega)];exact z
   |succ c=>
    obtain⟨B,rfl⟩:=a6.gp x;obtain⟨Y,i,w,Z,rfl,k,d,j,_⟩:=id z;rw[a6.fk]at d j;have G:=d.len;rw[a6.dD]at F
    match B,i,d,j,G,k,z,F with
    | [],_,_,j,_,_,_,_=>exact absurd rfl j
    | [j9],[l1],d,_,_,k,_,_=>
     have l2:=d.1.cells;obtain⟨P,l3,l4,rfl,_⟩:=bw.ptr d.1;have k0:cP 1 (.J [.ptr P 0] w) (.v (.int .i64 0))=some (.bV [.ptr P 0]):=by rw[hJ a9k];rfl
     have k1:dn false 1 m (.bV [.ptr P 0])=some (.ptr P 0):=rfl;have y:(([R.ptr P 0]).length)=1:=rfl;refine aj (bs (U.af k) @D @E @y @k0 @k1) ?_;refine⟨_,U.a1,f,_,_,rfl,?_⟩;exact d.1
    |j9::c2::B,i,d,_,G,k,z,F=>simp only[a4M]at G F;have y: ¬((i.length:Int)=1):=a9k;have L:(([]:List R).length)=0:=rfl;have k2: ¬((i.length:Int)+0=0):=a9k;refine aj (bs (U.af k) @D @E @L @y @k2) ?_;refine⟨_,U.a1,f,_,_,rfl,?_⟩;exact z
  .refine aj @W ?_;refine⟨_,U.a1,V,_,_,rfl,?_⟩;simp only[js,if_neg W];exact bw.mono V C
structure aQ where
 name:List UInt8
 aD:List (List UInt8)
 rows:List (List Int)
 bM:aC
 ct:eE
instance:Inhabited aQ:=⟨⟨[],[],[],.nil,none⟩⟩
def aQ.bA (a:aQ):aK:=⟨a.name,a.aD,bo a.bM,iM a.ct⟩
def bX (a:List aQ) (b:List UInt8):Nat:=a.findIdx λc=>decide (c.name=b)
def jt (a:List aQ) (b:List UInt8):Nat:=(a.takeWhile λc=> !c5 b c.name).length
def bP (a:List Int):Int:=a.getD 0 0
def hi (a:List Int) (c:List (List Int)):List (List Int):=c.takeWhile (λb=> !decide (bP a<bP b))++a::c.dropWhile (λb=> !decide (bP a<bP b))
def rf (a:List (List Int)):List (List Int):=a.foldl (λb c=>hi c b) []
def aQ.put (a:aQ) (b:List Int):aQ:=⟨a.name,a.aD,rf (a.rows++ [b]),(cZ (a.aD.length+1) b a.bM 0).1,kF a.ct b⟩
def aQ.del (a:aQ) (b:List Int):aQ:=⟨a.name,a.aD,a.rows.filter (λc=>decide (c≠b)),(lx (a.aD.length+1) b a.bM).1,js a.ct b⟩
def dX (a:List aQ) (b:cm):Int×List aQ:=
 if ev b=false then(1,a)
 else if b.kind=1 then(if bX a b.table<a.length then(4,a)else if 7<a.length then(10,a)else(0,a.take (jt a b.table)++⟨b.table,b.aD,[],.nil,none⟩::a.drop (jt a b.table)))
 else if a.length<=bX a b.table then(3,a)
 else if b.kind=2 then(0,a.eraseIdx (bX a b.table))
 else if b.row.length≠(a.getD (bX a b.table) default).aD.length+1 then(6,a)
 else if b.kind=4 then(if b.row∈(a.getD (bX a b.table) default).rows then(0,a.set (bX a b.table) ((a.getD (bX a b.table) default).del b.row))else(9,a))
 else if(a.getD (bX a b.table) default).rows.any (λc=>decide (bP c=bP b.row))=true then(8,a)
 else(0,a.set (bX a b.table) ((a.getD (bX a b.table) default).put b.row))
structure eM (n:Nat) (t:aQ):Prop where
 right:ev ⟨1,t.name,t.aD,[]⟩=true
 dy:lA (t.aD.length+1) n t.bM
 fW:t.bM.all.Perm t.rows
 go:iH (t.aD.length+1) t.ct
 nK:(eF t.ct).Perm t.rows
 dU:t.rows.Pairwise (λa b=>bP a<bP b)
 dE:t.rows.length<=n
variable{j7:aQ}
theorem eM.c (a:eM e j7):1<=j7.aD.length/\j7.aD.length<=7:=by have b:=a.right;simp_all [ev,nu]
def eM.row (a:eM e j7) (b:q∈j7.rows):bL (j7.aD.length+1) q:=a.dy.fe q (aC.gC (a.fW.mem_iff.2 b))
def eM.le (a:eM e j7) (b:e<=i):eM i j7:=⟨a.right,⟨a.dy.fe,a.dy.vd,by have:=a.dy.cp;omega⟩,a.fW,a.go,a.nK,a.dU,by have:=a.dE;omega⟩
structure cN (n:Nat) (cz:List aQ):Prop where
 ok: ∀t∈cz,eM n t
 dU:cz.Pairwise (λa b=>c5 a.name b.name=true)
 dE:cz.length<=8
theorem cN.nil {n:Nat}:cN n []:=⟨λb a=>(by cases a),.nil,a9l⟩
def zL (b:1<=e) (c:e<=8) (a:iH e b7):(b7=none/\iM b7=aA)\/(b7≠none/\jd e (eF b7).length (iM b7)):=by
 match b7,a with
 |none,_=>exact .inl ⟨rfl,rfl⟩
 |some ⟨d,b7⟩,a=>exact .inr ⟨a9l,uC b c (GT.jV a)⟩
theorem eM.bA {d:Nat}{h:aQ} (a:eM d h) (x:d<=1000):fQ h.bA=true:=by
 have y:=a.c;have c:=fc a9k a9k a.dy.fe (by have:=a.dy.cp;omega);have z:=a.dy.cp;have C:=a.fW.length_eq;have k:=a.nK.length_eq;have D:=a.dE;have o:=c.live;unfold fQ aQ.bA
 dsimp only
 simp only[a4L,a6q,decide_eq_true_eq];rcases zL a9k a9k a.go with ⟨p,b⟩|⟨p,b⟩
 .have r:(aA).live=0:=rfl;rw[p]at k;refine⟨a.right,c.ok a9k,?_,?_,by rw[c.key];rfl,.inl b⟩
  .rw[b];unfold fv;rfl
  .rw[b,o,r];simp[eF]at k;omega
 .refine⟨a.right,c.ok a9k,b.ok a9k,?_,by rw[c.key];rfl,.inr ⟨b.key.len,?_⟩⟩
  .rw[o,b.live];omega
  .rw[b.size,b.live]
variable{X:List aQ}
def cN.cat (a:cN e X) (b:e<=1000):cy (X.map aQ.bA)=true:=by
 refine oJ.2 ⟨λk c=> ?_,?_,by rw[a4T];exact a.dE⟩
 .obtain⟨d,h,rfl⟩:=a5c.1 c;exact(a.ok d h).bA b
 .rw[a7e];exact a.dU
theorem zM: ∀ {a:List aK}{nm:List UInt8},a.Pairwise (λh k=>c5 h.name k.name=true)->(a.findIdx λb=>decide (b.name=nm))<a.length->da a nm=a.findIdx λb=>decide (b.name=nm)
 | [],nm,_,c=>by rfl
 |b::a,nm,o,c=>by
  obtain⟨x,p⟩:=a5r.1 o;rw[List.findIdx_cons]at c|-;unfold da;rw[a6b];by_cases d:b.name=nm
  .rw[decide_eq_true d];simp[d,zr]
  .rw[decide_eq_false d]at c|-;simp only[cond_false,a4M]at c|-;have ih:=zM (nm:=nm) p a9k;have r:c5 b.name nm=true:=by grind
   rw[if_pos r,a4M];unfold da at ih;rw[ih]
variable{B:List UInt8}
theorem vr:((X.map aQ.bA).findIdx λa=>decide (a.name=B))=bX X B:=by rw[List.findIdx_map];rfl
theorem te (a:bX X B<X.length):(X.getD (bX X B) default).name=B:=by have:=List.findIdx_getElem (w:=a);rw[a5A,a4H a];exact of_decide_eq_true this
theorem vs (a:bX X B<X.length):X.getD (bX X B) default∈X:=by simp_all
def Gh (b:X.length<=bX X B): ∀a∈X,a.name≠B:=λa c d=>by
 have:=List.findIdx_lt_length_of_exists (p:=λa:aQ=>decide (a.name=B)) ⟨a,c,decide_eq_true d⟩;have h:X.length<=X.findIdx λa=>decide (a.name=B):=b;omega
theorem zN (c:cN e X):gD (X.map aQ.bA) B=decide (bX X B<X.length):=by
 have d:(X.map aQ.bA).Pairwise (λh k=>c5 h.name k.name=true):=by rw[a7e];exact c.dU
 by_cases a:bX X B<X.length
 .have b:=zM d (by rw[vr,a4T];exact a);rw[vr]at b;unfold gD;rw[b,decide_eq_true a,a4T,decide_eq_true a,a6f];refine decide_eq_true ?_;have:=te a;rw[a5A,a4H (by rw[a4T];exact a),a6C,a8z];rw[a5A,a4H a,a6C]at this;exact this
 .rw[decide_eq_false a];unfold gD;rw[a7W];by_cases c2:da (X.map aQ.bA) B<(X.map aQ.bA).length
  .right;refine decide_eq_false λb=> ?_;rw[a5A,a4H c2,a6C,a8z]at b;exact Gh a9k _ (a5k (by rw[a4T]at c2;exact c2)) b
  .left;simp_all
theorem Gi (a:cN e X) (d:bX X B<X.length):da (X.map aQ.bA) B=bX X B:=by
 have h:(X.map aQ.bA).Pairwise (λb c=>c5 b.name c.name=true):=by rw[a7e];exact a.dU
 grind[vr,zM,List.length_map]
theorem pN:(X.map aQ.bA).find? (λa=>decide (a.name=B))=(X[bX X B]?).map aQ.bA:=by rw[List.find?_eq_getElem?_findIdx,vr,a5i]
theorem a2E {a:List UInt8} (b:B≠a):(!c5 a B)=c5 B a:=by grind[c5,absurd,FE,ve,zr]
theorem a2F (a:X.length<=bX X B):da (X.map aQ.bA) B=jt X B:=by
 have b:=Gh a;clear a;unfold da jt
 induction X with
 |nil=>rfl
 |cons c X ih=>have d:=a2E (b c a9l);have ih:=ih λh k=>b h (by simp[k]);rw[a5f,a6b,a6b,d];show(if c5 c.name B=true then _ else _:List aK).length= _;grind
def gE (c:Nat) (d h:U):Prop:= ∀b a,d b=some (.cells a)->a.length≠c->h b=some (.cells a)
theorem gE.of {s:U} (a:ir s f):gE e s f:=λb c d _=>a b c d
theorem gE.set {c a:Nat}{b:U}{d:List R}{h:br} (p:b a=some (.cells d)) (r:d.length=c):gE c b (b.set a h):=λk x o y=>by
 have:k≠a:=by grind
 rw[U.ao _ _ this];exact o
def dM.gF {n:Nat}{c d:U} (a:n≠4) (b:gE n c d): ∀ {h:aC}{k:R},dM c h k->dM d h k
 | .nil,_,o=>o
 | .node _ _ _ _,_,⟨p,r,x,y,h1,z,C,D⟩=>⟨p,r,x,y,h1,b _ _ z (by simpa using a.symm),C.gF a b,D.gF a b⟩
def fL.Gj (b:zH f t) (a:fL f b7 n):fL t b7 n:=by
 match b7 with
 |none=>exact a
 |some ⟨_,_⟩=>exact bw.vo b a
def fL.gF {n:Nat} (a:n≠2) (b:gE n f t) (c:fL f b7 b3):fL t b7 b3:=c.Gj λh k o p r d=>b _ _ d (by simpa using a.symm)
variable{Y:br}
theorem oL (a:bf f t i g M) (d:f e=none) (b:t e=some (.cells A)):bf f (t.set e Y) i g M:=by
 refine⟨U.ae a.1 d,?_⟩;have c:=a.2;cases M with
 |buf h k=>
  have o:h≠e:=by rintro rfl;rw[c.2]at b;cases b
  grind[U.ao]
 | _=>exact c
theorem fL.cells {d:U}{b:eE}{a:R} (c:fL d b a):a.cells= [a]:=by
 match b with
 |none=>obtain rfl:a= .v (.pointer none):=c;rfl
 |some ⟨_,_⟩=>obtain⟨h,k,o,rfl,_⟩:=bw.ptr c;rfl
def gG (b:U) (a:aQ) (o:R):Prop:= ∃c p d r h k,o= .ptr c 0/\b c=some (.cells [bb a.name,.J (bE a.aD) p,.J d r,h,k])/\az isRow a.rows d/\dM b a.bM h/\fL b a.ct k
def gG.gF {b c:U} (a:gE 1 b c) {d:aQ}{h:R} (k:gG b d h):gG c d h:=by obtain⟨o,p,r,x,y,z,C,D,E,F,G⟩:=k;exact⟨o,p,r,x,y,z,C,a _ _ D a9l,E,F.gF a9o a,G.gF a9o a⟩
def gG.sub (a:f.sub t) (b:gG f j7 n):gG t j7 n:=b.gF (gE.of (U.o4 a))
def fy (a:U) (c:Nat) (d:List aQ):Prop:= ∃b h,a c=some (.cells [.J b h])/\az (gG a) d b
def fy.sub {b c:U} (d:b.sub c) {h:Nat}{k:List aQ} (a:fy b h k):fy c h k:=by obtain⟨o,p,r,x⟩:=a;exact⟨o,p,d _ _ r,x.mono λy z a=>a.sub d⟩
def zO (a:az (gG f) X g):aT 1 g:=λk c=>by
 obtain⟨d,h,rfl⟩:=a5t c;have o:=a.len;obtain⟨p,b,r,_,_,_,_,_,rfl,_⟩:=a.get (a4H (show d<X.length by omega));rw[a4H h]at b;rw[a4G b];rfl
theorem a2G (b:e<X.length) (c: ∀a<e,(X.getD a default).name≠B) (d:(X.getD e default).name=B):bX X B=e:=by grind[bX,List.findIdx_eq,List.getElem?_eq_getElem,decide_eq_true,decide_eq_false]
theorem a2H (b: ∀a<X.length,(X.getD a default).name≠B):X.length<=bX X B:=by grind[Nat.lt_or_ge,bX,absurd,te]
def pO (a:List aQ) (b:List UInt8):Int:=if bX a b<a.length then(bX a b:Int)else -1
theorem a2I (h:U) (k:Nat) (b:List aQ) (o:fy h k b) (d:List UInt8) (P:b.length<=1000):
  AC Tryz.prog 13 [.ptr k 0,bb d] h λz C=>C=h/\z= .v (.int .i64 (pO b d)):=by
 obtain⟨S,T,D,p⟩:=o;have V:=p.len;have W:=U.af D;refine aM hm JV ?_;refine gK [0,1] (λa:Nat=> [(5,.v (.int .i64 a))]) (λa=>a<=b.length/\ ∀c<a,(b.getD c default).name≠d) (λa=>b.length - a) 0 ⟨a5o _,λc o=>by omega⟩ aS ?_;rintro a ⟨e,r⟩ f;refine aa ?_;refine aG (λE=> ?_) λE=> ?_
 .have x:a<b.length:=a9k;have F:b[a]? =some (b.getD a default):=by simp_all
  obtain⟨_,g,i,j,l,m,n,q,rfl,G,_,_,_⟩:=p.get F;have s:=U.af G;have t:=(vf (b.getD a default).name d).1;refine aa ?_;refine aG (λc2=> ?_) λc2=> ?_
  .have y:=a2G x r c2;unfold pO;rw[y,if_pos x]
  .exact⟨a+1,⟨a9k,λc L=>by grind⟩,rfl,a9k⟩
 .have y:=a2H λc L=>r c a9k;unfold pO;simp_all
theorem a2J (h:U) (V:Nat) (b:List aQ) (k:fy h V b) (Y:b.length<=1000):
  AC Tryz.prog 19 [.ptr V 0] h λt c=>h.sub c/\ ∃d,t= .ptr d 0/\h d=none/\fy c d b:=by
 obtain⟨Z,j9,W,e⟩:=k;have k0:=e.len;have k1:=U.af W;refine aM hm K1 ?_;refine bp λd x=> ?_;refine ch [0,3] (λa:Nat=> [(4,.v (.int .i64 a))]) (λa c=>h.sub c/\a<=b.length/\ ∃y f,c d=some (.cells [.J y f])/\bf h c 1 y f/\az (gG c) (b.take a) y) (λa=>b.length - a) 0 ⟨⟨U.ae U.a1 x,a9k,[],.nil,U.ah _ _ _,bf.nil (U.ae U.a1 x),trivial⟩,aS⟩ ?_;rintro a z ⟨C,k2,g,u,D,v,o⟩ k3;have k4:=U.af (C _ _ W);have w:=o.len;rw[a4K]at w;refine aa ?_;refine aG (λA=> ?_) λA=> ?_
 .have B:a<b.length:=a9k;have H:b[a]? =some (b.getD a default):=by simp_all
  obtain⟨_,k5,I⟩:=e.get H;obtain⟨k6,E,F,G,L,P,rfl,K,M,i,j⟩:=I.sub C;have k7:=U.af K;have k8:=U.af D;have k9:=i.cells;have eN:=j.cells;have N:=eQ (b:=default) B;generalize b.getD a default=p at*;refine aa ?_;refine aN λr S=> ?_;refine aa ?_;have O:gG (z.set r (.cells [bb p.name,.J (bE p.aD) E,.J F G,L,P])) p (.ptr r 0):=⟨r,E,F,G,L,P,rfl,U.ah _ _ _,M,i.mono (U.ae U.a1 S),j.fC (U.o4 (U.ae U.a1 S))⟩;have Q:=U.ae (Y:= .cells [bb p.name,.J (bE p.aD) E,.J F G,L,P]) (U.a1) S;generalize z.set r _=l0 at*;refine dd U.a1 (by simp[aT,R.cells]) λl1 l2 l=> ?_;have m:=U.au Q l.sub;refine aa ?_;refine qw (v.mono m) (zO (o.mono λ_ _ k=>k)) (by simp[aT,R.cells]) a9m a9m λX n q aJ=> ?_;have ft:=(U.o4 m).trans aJ;have T:=ft _ _ D;have nB:=U.aI T;refine aa ?_;refine⟨a+1,⟨q.sub,a9k,_,_,rfl,oL q x T,?_⟩,rfl,a9k⟩;have s:gE 1 n (n.set d (.cells [.J (g++ [.ptr r 0]) X])):=gE.set T rfl;rw[N];exact az.snoc (o.mono λ_ _ k=>(k.gF (gE.of ft)).gF s) (((O.sub l.sub).gF (gE.of aJ)).gF s)
 .obtain rfl:a=b.length:=a9k;rw[a5d]at o;exact⟨z,U.a1,C,d,rfl,x,g,u,D,o⟩
def zP (c d:Own):Prop:= ∀a h b k,c= .buf a h->d= .buf b k->a≠b
variable{s a7:R -> U -> Prop}
def Gk {F:cB s} (r:bf t f e g e6) (x:bf t f e e1 M) (y:zP e6 M) (G:aT e g) (L:aT e A) (P:(g.length+A.length)*i<=140737488355328) (S:g.length+A.length<=9223372036854775807)
  (T: ∀c b,bf t b e (g++A) c->bf t b e e1 M->zP c M->ir f b->s (.J (g++A) c) b):lV e i f (.J g e6) (.J A h5) (bO s F):=by
 obtain⟨j,V,l,z,k⟩:=r.o7;refine ea V G L P S λc b d=>T c b (d.base z) ⟨U.au z d.sub,?_⟩ ?_ λW m o=>d.sub _ _ ?_
 .have a:=x.2;cases M with
  |buf h C=>refine⟨a.1,d.sub _ _ ?_⟩;rw[k h λD E p=>y _ _ _ _ p rfl];exact a.2
  | _=>exact a
 .rintro h C D E rfl rfl rfl;have a:=d.2.1;rw[k h λD E p=>y _ _ _ _ p rfl,x.2.2]at a;cases a
 .rw[k W (λh C a=>by subst a;rintro rfl;rw[r.2.2]at o;cases o)];exact o
theorem Gl {a:Int->Int->Int} (b:e<q.length) (c:e<b6.length):(List.zipWith a q b6).take (e+1)=(List.zipWith a q b6).take e++ [a (q.getD e 0) (b6.getD e 0)]:=by rw[a5S (by rw[a6w];omega),List.getElem_zipWith];simp_all
theorem Gm (C D:List Int×List Int) (j l m n:Own) (T:U) (k9:C.1.length<=1000000) (l0:D.1.length<=1000000):
  AC Tryz.prog 179 [et C.1 C.2 j l,et D.1 D.2 m n] T λl1 G=>T.sub G/\ ∃l2 r,l1=et (cS C D).1 (cS C D).2 l2 r:=by
 obtain⟨b,h⟩:=C;obtain⟨c,d⟩:=D
 dsimp only at*
 have n9:=bH (q:=b);have a00:=bH (q:=c);have X:= @dJ b;have Y:= @dJ h;have Z:= @dJ c;have j9:= @dJ d;have p:(if cR b h b.length=true then
  (if cR c d c.length=true then(if b.length=c.length then(List.zipWith min b c,List.zipWith max h d)else([],[]))else(b,h))
  else if cR c d c.length=true then(c,d)else([],[]))=cS (b,h) (c,d):=rfl
 generalize cS (b,h) (c,d)=a01 at*;refine aM hm OC ?_;refine bp λq a02=> ?_;refine cX λs a03 a04 k0=> ?_;refine hp λt a05 a06 V a07 W=> ?_;refine bh (FD b h _ _ _ _ k9) ?_;refine bh (FD c d _ _ _ _ l0) ?_;cases pG:cR b h b.length with
 |false=>
  cases ie:cR c d c.length with
  |false=>rw[pG,ie,if_neg a9l,if_neg a9l]at p;refine aa ?_;exact⟨.nil,.nil,by rw[<-p];rfl⟩
  |true=>rw[pG,ie,if_neg a9l,if_pos rfl]at p;refine aa ?_;exact⟨m,n,by rw[<-p]⟩
 |true=>
  cases ie:cR c d c.length with
  |false=>rw[pG,ie,if_pos rfl,if_neg a9l]at p;refine aa ?_;exact⟨j,l,by rw[<-p]⟩
  |true=>
   rw[pG,ie,if_pos rfl,if_pos rfl]at p;by_cases cl:b.length=c.length
   .rw[if_pos cl]at p;have a08:=lk pG;have a09:=lk ie;refine aa ?_;refine aN λr k=> ?_;generalize L:((T.set q _).set s _).set t _=E at*;have l3:T.sub E:=by subst L;exact aS
    have u:E q=some (.cells [.J (ad b) j,.J (ad h) l]):=by subst L;exact aS
    have v:E s=some (.cells [.J (ad c) m,.J (ad d) n]):=by subst L;exact aS
    have aJ:E t=some (.cells [.J [] .nil,.J [] .nil]):=by subst L;exact aS
    have a10:t≠r:=by rintro rfl;rw[aJ]at k;cases k
    have a11:q≠r:=by rintro rfl;rw[u]at k;cases k
    have a13:s≠r:=by rintro rfl;rw[v]at k;cases k
    clear L pG ie;have k1:=λa P w=>Gl (a:=min) (q:=b) (b6:=c) (e:=a) P w;have k2:=λa P w=>Gl (a:=max) (q:=h) (b6:=d) (e:=a) P w;have a14:(List.zipWith min b c).length=b.length:=by rw[a6w];omega
    have a15:(List.zipWith max h d).length=b.length:=by rw[a6w];omega
    generalize List.zipWith min b c=y at*;generalize List.zipWith max h d=z at*;refine aa ?_;refine ch [2,3,4,7] (λa:Nat=> [(8,.v (.int .i64 (a)))]) (λa G=>a<=b.length/\ ∃S x,G r=some (.cells [.J (ad (y.take a)) S,.J (ad (z.take a)) x])/\bf E G 1 (ad (y.take a)) S/\bf E G 1 (ad (z.take a)) x/\zP S x) (λa=>b.length - a) 0
     ⟨⟨a5o _,.nil,.nil,U.ah _ _ _,bf.nil (U.ae U.a1 k),bf.nil (U.ae U.a1 k),λ_ _ _ _ P=>by cases P⟩,aS⟩ ?_
    rintro a a16 ⟨a18,S,x,A,o,F,B⟩ a19;have qq:=U.af (o.sub _ _ u);have mY:=U.af (o.sub _ _ v);have l4:=U.af A;have a27:(ad (y.take a)).length=a:=by rw[bH,a4K];omega
    have a29:(ad (z.take a)).length=a:=by rw[bH,a4K];omega
    by_cases a30:a<b.length
    .have a34:=X a9k;have a36:=Y (b:=a) a9k;have a38:=Z (b:=a) a9k;have a42:=j9 (b:=a) a9k;have k3:=k1 a a9k a9k;have k4:=k2 a a9k a9k;clear X Y Z j9 k1 k2;generalize b.getD a 0=e at*;generalize c.getD a 0=f at*;generalize h.getD a 0=a3 at*;generalize d.getD a 0=a4 at*;have k5:(a)<(c.length:Int):=a9k;have zQ:aT 1 (ad (y.take a)):=λk0 H=>by obtain⟨l5,_,rfl⟩:=a5c.1 H;rfl
     have zR:aT 1 (ad (z.take a)):=λk0 H=>by obtain⟨l5,_,rfl⟩:=a5c.1 H;rfl
     have k6:ad (y.take (a+1))=ad (y.take a)++ [.v (.int .i64 (min e f))]:=by rw[k3];simp[ad]
     have k7:ad (z.take (a+1))=ad (z.take a)++ [.v (.int .i64 (max a3 a4))]:=by rw[k4];simp[ad]
     clear k3 k4;generalize ad (y.take a)=I at*;generalize ad (z.take a)=K at*;refine aa ?_;refine dd U.a1 (by simp[aT,R.cells]) λa43 a47 M=> ?_;refine aa ?_;refine Gk (o.mono M.sub) (F.mono M.sub) B zQ (by simp[aT,R.cells]) a9m a9m λg k8 o F B l6=> ?_;have i:=l6 _ _ (M.sub _ _ A);have aE:=U.aI i;have qq:=U.af (o.sub _ _ u);have mY:=U.af (o.sub _ _ v);refine aa ?_;have l7:=oL (Y:= .cells [.J (I++ [.v (.int .i64 (min e f))]) g,.J K x]) o k i;have l8:=oL (Y:= .cells [.J (I++ [.v (.int .i64 (min e f))]) g,.J K x]) F k i;have l9:=U.ah k8 r (.cells [.J (I++ [.v (.int .i64 (min e f))]) g,.J K x]);clear i aE qq mY o F A l4;generalize k8.set r _=a48 at*;refine dd U.a1 (by simp[aT,R.cells]) λa52 a56 N=> ?_;refine aa ?_;refine Gk (l8.mono N.sub) (l7.mono N.sub) (λn0 k5 n1 n2 V W O=>B _ _ _ _ W V O.symm) zR (by simp[aT,R.cells]) a9m a9m λn3 a57 F o n4 n5=> ?_;have Q:=n5 _ _ (N.sub _ _ l9);have aE:=U.aI Q;refine aa ?_;refine⟨a+1,⟨a9k,g,n3,?_,?_,?_,λn0 k5 n1 n2 V W O=>n4 _ _ _ _ W V O.symm⟩,rfl,a9k⟩
     .rw[k6,k7]
     .rw[k6];exact oL o k Q
     .rw[k7];exact oL F k Q
    .obtain rfl:a=b.length:=a9k;have a61:=U.aI (o.sub _ _ aJ);refine aa ?_;refine iu ?_;exact⟨U.au l3 o.sub,S,x,by grind⟩
   .rw[if_neg cl]at p;refine aa ?_;refine iu ?_;exact⟨.nil,.nil,by rw[<-p];rfl⟩
end Go.Proofs.YtlgnfcaolejgeaaGreat
