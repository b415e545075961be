import Derived.Test.YtkafjfkjahgihaaGreatMI
import Derived.Test.YtkafjfkjahgihaaGreatMF
import Derived.Test.YtkafjfkjahgihaaGreatMH
import Derived.Test.YtkafjfkjahgihaaGreatMD
import Derived.Test.YtkafjfkjahgihaaGreatME
import Derived.Test.YtkafjfkjahgihaaGreatMC
import Derived.ProofKit
import Derived.OpenShut
import Derived.WideKeyArgs
import Derived.Test.YtkafjfkjahgihaaGreatRows
import Derived.JoinedOf
set_option linter.all false
open Option renaming some->β,none->ε
open Go.Proofs.Tryz renaming prog->γ
open List renaming replicate->δ,drop_eq_getElem_cons->Θ,length->α
open Bool renaming true->ζ,false->θ
open Go.bD.U renaming a1->η,ad->ι,ae->κ,aj->μ,an->ξ,ao->ο,set_set->ς,aI->τ,bJ->Ι
open UInt8 renaming ofNat->ν
open BitVec renaming ofInt->π
open Go.bD.R renaming cells->ρ
open Go.Proofs.YtkafjfkjahgihaaGreat.aC renaming size->Ζ
open Go.Proofs.YtkafjfkjahgihaaGreat.ba renaming bG->Η
open Go.Proofs.YtkafjfkjahgihaaGreat.ai renaming new->Λ
open Go.bD.bf renaming nil->Ν
set_option maxRecDepth 100000
namespace Go.Proofs.YtkafjfkjahgihaaGreat
open Go Go.bD
def Bc{o:Type}{k:List Υ->o->List Υ}:∀(d:List o)(a:List Υ),(∀c∈d,∀a,(∀b∈a,α b=32)->∀b∈k a c,α b=32)->(∀b∈a,α b=32)->∀b∈d.foldl k a,α b=32
 |[],a,_,h=>h
 |c::d,a,h,p=>Bc d (k a c) (λc r=>h c (by simp[r])) (h c acr a p)
def dI.kids{d a:Nat}{b:a6.T (a+1)}(h:dI d (a+1) b):∀c∈a6.kids b,dI d a c:=λc k=>(dI.gv (d:=a6.kids b) h c k).1
def Be{k:Nat}(o:1<=k)(p:k<=8):∀(b:Nat)(d:a6.T b)(a:List Υ),dI k b d->(∀r∈a,α r=32)->∀r∈iB b d a,α r=32
 |0,d,a,h,c=>s6 c (o1 o p h).sum
 |b+1,d,a,h,c=>by
  rw[iB];exact Bc _ _ (λx y a c=>Be o p b x a (h.kids x y) c) (s6 c (o1 o p h).sum)
variable{e i v O e0 j6:Nat}
def a6i(F:1<=e)(G:e<=8)(a:Nat):∀(d:a6.T a)(x y:R)(k z:U)(c:List Υ),bA k a d x->kZ k z c y->(∀b∈c,α b=32)->dI e a d->α c+jO a d<=1000000000->
  AC γ 39 [y,x] z λX s=>kZ k s (iB a d c) X:=by
 induction a with
 |zero=>intro d x y k z c L P f C g;have S:=B9 F G 0 d x z (L.mono P.1) C;have p:=(o1 F G C).sum;obtain⟨Y,l7,Z,T,rfl,i,j⟩:=L;rw[jO]at g;rw[iB];generalize bQ 0 d=o at S p|-;refine aL hm xM ?_;refine ag S ?_;rintro _ t⟨u,v,T,w,rfl⟩;have k3:=(aT (M:=v) (e7:=T) (j0:=w) p).all;have k4:R.agg (o.sum.map ah)=bo o.sum:=rfl;refine aa ?_;refine ag (A5 k t c y (P.mono u) f o.sum p acq) ?_;rintro A k5 D;have k6:=ι (D.1 _ _ i);refine aa ?_;refine gX [1] (λ_:Unit=>[(5,.v (.int .i64 0)),(0,A)]) (λ_=>True) (λ_=>0) () trivial aR ?_;rintro _ _ k7;refine aa ?_;exact⟨_,η,D⟩
 |succ a ih=>
  intro d x y k z c L P f C g;have S:=B9 F G (a+1) d x z (L.mono P.1) C;have p:=(o1 F G C).sum;have I:=C.kids;obtain⟨Y,l8,Z,T,rfl,i,j,k8,k9⟩:=L;have l0:=j.len;rw[jO]at g;rw[iB];generalize bQ (a+1) d=o at S p|-;generalize a6.kids d=h at I j k8 k9 l0 g|-;refine aL hm xM ?_;refine ag S ?_;rintro _ t⟨u,v,T,w,rfl⟩;have k3:=(aT (M:=v) (e7:=T) (j0:=w) p).all;have k4:R.agg (o.sum.map ah)=bo o.sum:=rfl;refine aa ?_;refine ag (A5 k t c y (P.mono u) f o.sum p acq) ?_;rintro A k5 D;have K:=s6 f p;have l1:=qz (h5:=c) (w:=o.sum);generalize eK c o.sum=M at D K l1|-;have k6:=ι (D.1 _ _ i);refine aa ?_;refine cd [1] (λb:Nat×List Υ×R=>[(5,.v (.int .i64 (b.1:Int))),(0,b.2.2)]) (λb s=>b.1<=α h/\kZ k s b.2.1 b.2.2/\(∀l2∈b.2.1,α l2=32)/\α b.2.1+((h.drop b.1).map (jO a)).sum<=1000000000/\(h.drop b.1).foldl (λc V=>iB a V c) b.2.1=h.foldl (λc V=>iB a V c) M) (λb=>α h - b.1) (0,M,A) ⟨⟨a8M _,D,K,by rw[a9I];dsimp only;omega,rfl⟩,aR⟩ ?_;rintro⟨E,l,a3⟩ l3 ⟨l4,m,B,N,W⟩ k7
  dsimp only at l4 m B N W|-
  have l9:=ι (m.1 _ _ i);refine aa ?_;refine aG (λV=>?_) λV=>?_
  .have n:E<α h:=acq;obtain⟨r,q⟩:∃r,h[E]?=β r:=⟨_,Μ n⟩;have O:h.drop E=r::h.drop (E+1):=by rw[a8G n];congr 1;rw[Μ n]at q;exact Β q
   obtain⟨l5,n0,H⟩:=j.get q;have n1:=H.fit;have wl:=H.cells;rw[O,a9e]at W;rw[O,a8C,a9D]at N;have n2:=Bb a r l;have Q:=I r (a8r q);refine aa ?_;refine ag (ih r l5 a3 k l3 l H m B Q acq) ?_;rintro a4 n3 l6;refine aa ?_;exact⟨(E+1,iB a r l,a4),⟨n,l6,Be F G a r l Q B,by dsimp only;omega,W⟩,⟨rfl,rfl⟩,by dsimp only;omega⟩
  .obtain rfl:E=α h:=acq;rw[aag,aas]at W;rw[<-W];exact⟨_,η,m⟩
def lZ(a:List df):Ψ:=a.map df.V
def Bf{a:List df}:(lZ a).length=α a:=by simp[lZ]
def I5{a:List df}{b:df}(c:a[e]?=β b):eG 4 (lZ a)[e]?=β (.bZ b.C):=by obtain⟨d,rfl⟩:=a8p.1 c;rw[show(lZ a)[e]?=β (a[e]).V by simp[lZ,d]];rfl
structure qJ(a:ai)(l:List aK)(cM:List ba):Prop where
 eq:l=cM.map Η
 ins:∀t∈cM,eg a t.bq/\lY a t.bu
theorem I6{b c:ai->Except Int au×ai}(r:∀a:ai,a.le (b a).2)(x:∀a:ai,a.le (c a).2)(a:ai)(y:List aK)(z:aK):a.le (fX b c a y z).2.2:=by
 unfold fX;have d:=r a;generalize b a=h at*;obtain⟨k,o⟩:=h;cases k with
 |error C=>exact d
 |ok D=>
  have p:=x o
  dsimp only
  generalize c o=h at*;obtain⟨k,E⟩:=h;cases k with
  |error C=>exact d.trans p
  |ok F=>exact d.trans p
variable{h9:ba}{a8:List ba}{H:ai}
def I7(F:dK e a8)(G:e<=1000){a:ba}(L:eN i h9)(P:i<=1000)(y:h9.name=a.name)(S:h9.aE=a.aE)(T:cw a8 a.name<α a8){c b:ai->Except Int au×ai}
  (r:gf H h9.bq (c H)) (h:∀d:ai,H.le d->d.one=θ->qG d h9.bu (b d)) (V:∀d:ai,d.le (b d).2) (k:(fX c b H (a8.map Η) a.bG).2.2.one=θ):
  (fX c b H (a8.map Η) a.bG).1=0/\(fX c b H (a8.map Η) a.bG).2.1=(a8.set (cw a8 a.name) h9).map Η/\H.le (fX c b H (a8.map Η) a.bG).2.2/\eg (fX c b H (a8.map Η) a.bG).2.2 h9.bq/\lY (fX c b H (a8.map Η) a.bG).2.2 h9.bu:=by
 unfold fX at k|-;generalize c H=o at*;obtain⟨x,p⟩:=o;cases x with
 |error W=>cases (r.ins k).1
 |ok f=>
  dsimp only at k|-
  have C:=V p;have D:p.one=false:=by
   revert k;generalize b p=o at*;obtain⟨x,g⟩:=o;cases x with
   |error W=>exact λz=>C.zero z
   |ok f=>exact λz=>C.zero z
  obtain⟨j,l⟩:=r.ins D;obtain rfl:=Except.ok.inj j;have h:=h p r.le D;generalize b p=o at*;obtain⟨x,g⟩:=o;obtain rfl:=h.ok
  dsimp only at k|-
  have E:=q6 F G L P (by rw[y];exact T);have m:h9.bG=⟨a.bG.name,a.bG.aE,bn h9.bq,hI h9.bu⟩:=by show(⟨h9.name,h9.aE,bn h9.bq,hI h9.bu⟩:aK)=⟨a.name,a.aE,bn h9.bq,hI h9.bu⟩;rw[y,S]
  rw[m,y]at E;rw[E];exact⟨rfl,rfl,r.le.trans h.le,l.mono h.le,h.ins k⟩
variable{t b8:Τ}
def a6j(a:ai)(b:au):a.le (od e t a b).2:=Aq _ _ _ _
variable{b4:List aK}{h6:db}
theorem a6k{b:Int×List aK×ai}(a:oh H b4 h6 b):H.le b.2.2:=by
 unfold oh at a;split at a
 .rw[a];exact ai.le_refl
 split at a
 .rcases a with⟨_,rfl⟩|⟨rows,_,_,⟨_,rfl⟩|⟨_,rfl⟩⟩
  .exact ai.le_refl
  .exact I6 (λH=>a6j _ _) (λH=>GM) _ _ _
  .exact ai.le_refl
 .rw[a];exact ai.le_refl
theorem a6l:H.le (lb H b4 h6).2.2:=by grind[lb,ai.le_refl,I6,a4C,GP]
theorem a6m{a:Int×List aK×ai}(b:fY H b4 h6 a):H.le a.2.2:=by grind[fY,ai.le_refl,a6k,a6l]
theorem Bg{b:Except Int (List aK)}(c:c8 b4=ζ)(d:∀a,b=.ok a->c8 a=ζ):c8 (iZ b b4).2=true:=by
 cases b with
 |error h=>exact c
 |ok a=>exact d a rfl
variable{e8:aK}
theorem I8{a b:ai->Except Int au×ai}(c:c8 b4=ζ):c8 (fX a b H b4 e8).2.1=true:=by grind[fX,Bg,Hx]
theorem a6n{c:Int×List aK×ai}(b:c8 b4=ζ)(a:fY H b4 h6 c):c8 c.2.1=true:=by
 unfold fY at a;split at a
 .rw[a];exact b
 split at a
 .rw[a];exact Bg b λd a=>HA a
 split at a
 .rw[a];exact Bg b λd a=>Hw b a
 split at a
 .unfold oh at a;split at a
  .rw[a];exact b
  split at a
  .rcases a with⟨_,rfl⟩|⟨rows,_,_,⟨_,rfl⟩|⟨_,rfl⟩⟩
   .exact b
   .exact I8 b
   .exact b
  .rw[a];exact b
 grind[lb,I8]
def ue(c:c8 b4=ζ):∀a∈b4,a.Fit:=λa d=>by
 have b:=(hG c).1 a d;exact⟨by have:=b.n;omega,by have:=b.c;omega,λh k=>by have:=b.cs h k;omega⟩
theorem wJ{d:Int×List aK×ai}(a:fY H b4 h6 d)(x:dK e a8)(K:e<900)(p:dm h6.row)(u:qJ H b4 a8)(S:d.2.2.one=θ):
  d.1=(hJ a8 h6).1/\qJ d.2.2 d.2.1 (hJ a8 h6).2:=by
 obtain⟨rfl,y⟩:=u;have u:qJ H (a8.map Η) a8:=⟨rfl,y⟩;unfold fY at a;unfold hJ;by_cases M:eU h6=θ;simp_all;rw[if_neg M]at a|-;have f:eU h6=true:=by simp_all
 by_cases z:h6.kind=1
 .rw[if_pos z]at a|-;have N:=HW f z;rw[add_eq x acq N]at a;by_cases c2:cw a8 h6.table<α a8
  .rw[if_pos c2]at a|-;rw[a];trivial
  rw[if_neg c2]at a|-;by_cases aD:7<α a8
  .rw[if_pos aD]at a|-;rw[a];trivial
  rw[if_neg aD]at a|-;rw[a];refine⟨rfl,rfl,λb c=>?_⟩;simp only[a8u,a8E]at c;rcases c with c|rfl|c;grind
  .trivial
  grind
 rw[if_neg z]at a|-;by_cases aD:h6.kind=2
 .rw[if_pos aD]at a;rw[HY x acq]at a;by_cases c2:cw a8 h6.table<α a8
  .rw[if_pos c2]at a;rw[if_neg acq,if_pos aD,a];exact⟨rfl,rfl,λb c=>y b (ab5 c)⟩
  .rw[if_neg c2]at a;rw[if_pos acq,a];trivial
 rw[if_neg aD]at a;by_cases c2:α a8<=cw a8 h6.table
 .rw[if_pos c2];have g:(a8.map Η).find? (λb=>decide (b.name=h6.table))=none:=by rw[HM,ac3 c2];rfl
  rcases B3 f z aD with k|k
  .rw[if_pos k]at a;unfold oh at a;simp_all
  .rw[if_neg (by rw[k];decide)]at a;unfold lb px at a;simp_all
 rw[if_neg c2,if_neg aD];have C:cw a8 h6.table<α a8:=acq;have w:=AX C;have c:=x.ok _ w;have T:=wH C;have g:(a8.map Η).find? (λb=>decide (b.name=h6.table))=β (a8.getD (cw a8 h6.table) default).bG:=by rw[HM,a9c,Μ C];rfl
 generalize a8.getD (cw a8 h6.table) default=b at*;have k8:=c.c;obtain⟨D,A⟩:=y b w;have k9:=c.dw.ch;have V:∀W:ba,eg d.2.2 W.bq/\lY d.2.2 W.bu->H.le d.2.2->∀v∈a8.set (cw a8 h6.table) W,eg d.2.2 v.bq/\lY d.2.2 v.bu:=λW E r v O=>by
  rcases aai O with h|rfl
  .exact⟨(y v h).1.mono r,(y v h).2.mono r⟩
  .exact E
 rcases B3 f z aD with k|k
 .rw[if_pos k]at a;rw[if_neg (show¬h6.kind=4 by rw[k];decide)];unfold oh at a;rw[g]at a
  dsimp only at a
  by_cases aP:α h6.row=α b.aE+1
  .rw[if_neg (show¬α h6.row≠α b.aE+1 from λh=>h aP)];rw[if_pos (show α h6.row=α b.bG.aE+1 from aP)]at a;have i:bU (α b.aE+1) h6.row:=⟨aP,p⟩;rcases a with⟨F,_⟩|⟨rows,Q,_,a⟩
   .exact absurd F (Hs (e:=α b.aE+1) acq acq c.dw.fq acq D)
   have X:=Ht acq acq c.dw.fq acq D Q;have Y:rows=[]↔ ¬b.rows.any (λG=>decide (c5 G=c5 h6.row))=true:=by
    rw[X,abg];constructor
    .rintro h⟨G,p,o⟩;exact h G (c.fE.mem_iff.2 p) ((Hu acq (c.row p)).2 (of_decide_eq_true o))
    .intro h Z k3 L;have B:=c.fE.mem_iff.1 k3;exact h ⟨Z,B,decide_eq_true ((Hu acq (c.row B)).1 L)⟩
   rcases a with⟨o,a⟩|⟨o,a⟩
   .have I:=Y.1 o;rw[if_neg I];obtain⟨E,j,l⟩:=c.put K i λG p o=>I (abg.2 ⟨G,p,decide_eq_true o⟩);have F:=a4D acq acq i c.dw.fq acq D j;rw[a]at S V|-;have L:=I7 (a:=b) x acq E acq rfl rfl (by rw[T];exact C) (c:=λH=>od (α b.aE+1) h6.row H (bn b.bq)) F (λm r k4=>a5q acq acq i c.go (A.mono r) l) (λm=>GM) S;obtain⟨n,P,q,s,t⟩:=L;rw[T]at P;exact⟨n,P,V _ ⟨s,t⟩ q⟩
   grind
  .rw[if_neg (show¬α h6.row=α b.bG.aE+1 from aP)]at a;grind
 .rw[if_neg (by rw[k];decide)]at a;rw[if_pos k];unfold lb px at a;rw[g]at a
  dsimp only at a
  by_cases aP:α h6.row=α b.aE+1
  .rw[if_neg (show¬α h6.row≠α b.aE+1 from λh=>h aP)];rw[if_pos (show α h6.row=α b.bG.aE+1 from aP)]at a
   dsimp only at a
   rw[if_pos rfl]at a;by_cases bx:h6.row∈b.rows
   .rw[if_pos bx];obtain⟨E,j,l⟩:=c.del bx;have F:=a4F acq acq c.dw.fq acq D j;rw[a]at S V|-;have L:=I7 (a:=b) x acq E acq rfl rfl (by rw[T];exact C) (c:=λH=>jJ (α b.aE+1) h6.row H (bn b.bq)) F (λm r k4=>a5v acq acq (c.row bx) c.go (A.mono r) l) (λm=>GP) S;obtain⟨n,P,q,s,t⟩:=L;rw[T]at P;exact⟨n,P,V _ ⟨s,t⟩ q⟩
   .rw[if_neg bx];have k5:=a4E acq acq c.dw.fq acq D (c.none aP bx);have k6:d=(9,a8.map Η,H):=by
     rw[a];unfold fX;show(match jJ (α b.aE+1) h6.row H (bn b.bq)with
      |(.error o,k7)=> _
      |(.ok l0,k7)=> _)= _
     rw[k5]
    rw[k6];trivial
  .rw[if_neg (show¬α h6.row=α b.bG.aE+1 from aP)]at a;simp_all
inductive wK:ai->List aK->List db->Int×List aK×ai->Prop
 |nil (a:ai) (l:List aK):wK a l [] (0,l,a)
 |stop {a:ai}{l:List aK}{d:db}{cM:List db}{res:Int×List aK×ai}:fY a l d res->res.1≠0->wK a l (d::cM) res
 |step {a:ai}{l:List aK}{d:db}{cM:List db}{res b:Int×List aK×ai}:fY a l d res->res.1=0->wK res.2.2 res.2.1 cM b->wK a l (d::cM) b
def oo(a:dP)(b:List Υ):List Υ:=match a with
 |none=>b
 |some ⟨c,a⟩=>iB c a b
def se(a:dP):Nat:=match a with
 |none=>0
 |some ⟨b,a⟩=>jO b a
def a6o(a:dP)(b:List Υ):(oo a b).length<=α b+se a:=by
 cases a with
 |none=>simp[oo,se]
 |some c=>exact Bb c.1 c.2 b
def I9(h:1<=e)(k:e<=8)(b:dP)(c:List Υ)(o:hj e b)(d:∀a∈c,α a=32):∀a∈oo b c,α a=32:=by
 cases b with
 |none=>exact d
 |some a=>exact Be h k a.1 a.2 c (GT.iW o) d
def a6p(r:1<=e)(x:e<=8)(a:dP)(c h:R)(d k:U)(b:List Υ)(o:fF d a c)(p:kZ d k b h)(y:∀z∈b,α z=32)(C:hj e a)(D:α b+se a<=1000000000):
  AC γ 39 [h,c] k λE F=>kZ d F (oo a b) E:=by
 match a with
 |none=>obtain rfl:c=.v (.pointer ε):=o;refine aL hm xM ?_;exact⟨_,η,p⟩
 |some ⟨G,a⟩=>exact a6i r x G a c h d k b o p y (GT.iW C) D
def hM(c:List ba)(a:List Υ):List Υ:=c.foldl (λa b=>oo b.bu (hL b.bq a)) a
def qK(a:ba):Nat:=a.bq.size+se a.bu
def a6q(d P:U)(S:Nat)(b:List ba)(m:hK d S b)(T:dK e b)(M:e<=1000000)(h:List Υ)(C:R)(V:kZ d P h C)(n:∀a∈h,α a=32)(q:α h+(b.map qK).sum<=1000000000):
  AC γ 15 [C,.ptr S 0] P λs D=>kZ d D (hM b h) s:=by
 obtain⟨N,O,E,W⟩:=m;have Q:=W.len;have X:=T.dQ;have Y:=ι (V.1 _ _ E);refine aL hm M0 ?_;refine cd [1] (λa:Nat×List Υ×R=>[(5,.v (.int .i64 (a.1:Int))),(0,a.2.2)]) (λa D=>a.1<=α b/\kZ d D a.2.1 a.2.2/\(∀F∈a.2.1,α F=32)/\α a.2.1+((b.drop a.1).map qK).sum<=1000000000/\hM (b.drop a.1) a.2.1=hM b h) (λa=>α b - a.1) (0,h,C) ⟨⟨a8M _,V,n,q,rfl⟩,aR⟩ ?_;rintro⟨k,p,a3⟩ t ⟨u,r,G,f,x⟩ Z
 dsimp only at u r G f x|-
 have v:=ι (r.1 _ _ E);refine aa ?_;refine aG (λw=>?_) λw=>?_
 .have y:k<α b:=acq;obtain⟨c,z⟩:∃c,b[k]?=β c:=⟨_,Μ y⟩;have g:b.drop k=c::b.drop (k+1):=by rw[a8G y];congr 1;rw[Μ y]at z;exact Β z
  obtain⟨_,k3,k4,k5,k6,k7,a,F,rfl,i,_,j,A⟩:=W.get z;have o:=T.ok c (a8r z);have k8:=o.c;have k9:=o.dw.ch;rw[g,hM,a9e]at x;rw[g,a8C,a9D,qK]at f;have l0:=wI c.bq p;have l1:=a6o c.bu (hL c.bq p);have l:=ud acq acq c.bq p o.dw.fq acq G;have B:=I9 acq acq c.bu _ o.go l;have H:=ι (r.1 _ _ i);have l2:=j.cells;refine aa ?_;refine ag (Ba acq acq c.bq a a3 d t p j r G o.dw.fq acq acq) ?_;rintro a4 I L;have v:=ι (L.1 _ _ E);have H:=ι (L.1 _ _ i);refine aa ?_;refine ag (a6p acq acq c.bu F a4 d I _ A L l o.go acq) ?_;rintro a5 l3 K;refine aa ?_;exact⟨(k+1,oo c.bu (hL c.bq p),a5),⟨y,K,B,by dsimp only;omega,x⟩,⟨rfl,rfl⟩,by dsimp only;omega⟩
 .obtain rfl:k=α b:=acq;rw[aag,hM,aas]at x;rw[<-x];exact⟨_,η,r⟩
def qL(c:ai)(d:Nat):Nat->au->List Υ->List Υ
 |0,_,a=>a
 |h+1,b,a=>if b=aw then a else match ei c d b with
   |none=>eK a b.sum
   |some k=>k.kids.foldl (λa o=>qL c d h o a) (eK a b.sum)
inductive wL(a:ai)(d:Nat):au->Prop
 |nil:wL a d aw
 |node {k:au}{n:c4} (h:ei a d k=β n) (aU:n.In d) (hk:∀c∈n.kids,wL a d c):wL a d k
def Ia(k:ai)(d:List Υ)(o:Nat):Prop:=∀a b c,1<=a->a<=8->ei k a b=β c->c.In a->b.sum∈d->cB b<o->∀h∈c.kids,h≠aw->h.sum∈d
variable{h5:List Υ}{w j8:Υ}
def sf:w∈eK h5 j8↔w∈h5\/w=j8:=by
 unfold eK;split
 .rename_i a;constructor
  .exact .inl
  .rintro(b|rfl);exact b;exact a
 .simp
def Nw(h:ai)(b:Nat)(k o:List Υ)(p:Nat):Prop:=∀c∈o,c∈k\/∃a d,ei h b a=β d/\d.In b/\a.sum=c/\cB a<p
structure a7U(a:ai)(d:Nat)(z:Nat)(k:au)(t:List Υ)(w:Nat):Prop where
 eq:lU a d a3M z k t=(0,qL a d z k t)
 cl:Ia a (qL a d z k t) w
 has:k≠aw->k.sum∈qL a d z k t
 sub:∀x∈t,x∈qL a d z k t
 nw:Nw a d t (qL a d z k t) (cB k+1)
def Ca(a:ai)(b:List Υ):Prop:=∀c,Ia a b c
def Sb(c d:ai):Prop:=∀a b,c.m a=β b->d.m a=β b
structure a7V(b c:ai)(d z:Nat)(k:au)(t:List Υ)(a:Int×List Υ):Prop where
 e:a.1=0
 new:∀x∈a.2,x∈t\/b.m x=ε/\x∈qL c d z k []
 sub:∀x∈t,x∈a.2
 qD:t.Nodup->a.2.Nodup
 all:a.2=[]->wL b d k
def wM{o:Type}{d:List Υ->o->List Υ}(p:∀c a b,b∈a->b∈d a c):∀(h:List o)(a:List Υ)(b),b∈a->b∈h.foldl d a
 |[],_,_,k=>k
 |c::h,a,b,k=>wM p h (d a c) b (p c a b k)
def uf:∀(T:aC)(b:List Υ)(a),a∈b->a∈hL T b
 |.nil,_,_,c=>c
 |.node k live d h,b,a,c=>uf h _ a (uf d _ a (sf.2 (.inl c)))
def Bh:∀(a:Nat)(h:a6.T a)(c:List Υ)(b),b∈c->b∈iB a h c
 |0,_,_,_,a=>sf.2 (.inl a)
 |a+1,h,c,b,d=>wM (λk c b d=>Bh a k c b d) _ _ b (sf.2 (.inl d))
def Ib(c:dP)(a:List Υ)(b)(d:b∈a):b∈oo c a:=by
 match c with
 |none=>exact d
 |some ⟨h,k⟩=>exact Bh h k a b d
def Ic(d:List ba)(b:List Υ)(a)(c:a∈b):a∈hM d b:=wM (λh b a c=>Ib h.bu _ a (uf h.bq b a c)) d b a c
inductive gD where
 |row (r:Τ)
 |tree (h:Nat) (t:a6.T h)
def gD.it:gD->ql
 |.row a=>.row a
 |.tree b c=>.gv (bQ b c)
def gD.all:gD->List Τ
 |.row a=>[a]
 |.tree b c=>a6.bd b c
def gD.ok(d:ai)(a:Nat):gD->Prop
 |.row h=>bU a h
 |.tree b c=>dI a b c/\gd d b c
def gD.a6r:gD->Nat
 |.row _=>0
 |.tree a b=>2*(a6.bd a b).length - 1
def wN(a:List gD):List Τ:=a.flatMap gD.all
def wO(a:List gD):Nat:=(a.map gD.a6r).sum
def tJ.swap(a:tJ):tJ:=⟨a.B,a.A,a.tK,a.gone,a.nY⟩
inductive ug(d:Nat)(k o:List gD)(r c:List Τ)(n:Int):List gD->List gD->List Τ->List Τ->Int->Prop where
 |alike (h:Nat) (t:a6.T h) (y:Nat) (z:a6.T y) (a b:List gD):k=.tree h t::a->o=.tree y z::b->(bQ h t).sum=(bQ y z).sum->ug d k o r c n a b r c n
 |opened (a b:List gD) (C:Int):wN a=wN k->wN b=wN o->C+wO a+wO b<=n+wO k+wO o->ug d k o r c n a b r c C
 |gone (p:Τ) (a:List gD):k=.row p::a->(o=[]\/∃x b,o=.row x::b/\bF p x=ζ)->ug d k o r c n a o (r++[p]) c n
 |tK (x:Τ) (b:List gD):o=.row x::b->(k=[]\/∃p a,k=.row p::a/\bF x p=ζ)->ug d k o r c n k b r (c++[x]) n
 |both (p x:Τ) (a b:List gD):k=.row p::a->o=.row x::b->bF p x=θ->bF x p=θ->ug d k o r c n a b r c n
def di(a:Τ)(b:Nat):Τ:=a.take b++δ (b - α a) 0
abbrev a6s:=UInt8×Τ
def a7W(a:a6s)(b:R):Prop:=∃c,b=.agg [ah a.1,.J (af a.2) c]
structure a7X(d:Nat)(o b:U)(l h p:Nat)(r:ai)(n:Nat)(c:ai)(k:au)(t:dP)(a:R):Prop where
 ext:Ext l h o b
 hg:bs b l h c
 a7Y:∃gN ev x,b p=β (.cells (ab k gN ev x))
 sum:α k.sum=32
 sh:k.cE
 u2:fF b t a
 go:hj d t
 dQ:(ek t).length<=n
 le:r.le c
 rep:c.one=θ->k=hI t/\lY c t
def Ie(p:dK e a8)(r:e<=1000):∀o∈a8.map Η,o.In:=λo x=>by
 obtain⟨h,y,rfl⟩:=a8D.1 x;have c:=p.ok h y;have C:=c.c;have D:=c.dw.ch;have a:=(eM acq acq c.dw.fq acq).kU acq;refine⟨Hg (c.bG r),?_,?_⟩
 .show(bn h.bq).In 8;have:=a.p0;have:=a.p1;have:=a.p2;exact⟨a.sum,a.aV,a.aU,a.key,acq,acq,acq,a.nP,a.live,a.nQ,a.size⟩
 .show(hI h.bu).In 8;rcases AV acq acq c.go with⟨_,k⟩|⟨_,k⟩
  .rw[k];have d:dm []:=λE z=>(by cases z);exact⟨bm,d,d,d,a8M _,a8M _,a8M _,acv,acv,acv,acv⟩
  .have d:=c.om.length_eq;have F:=c.dQ;have b:=k.kU acq;have:=b.p0;have:=b.p1;have:=b.p2;exact⟨b.sum,b.aV,b.aU,b.key,acq,acq,acq,b.nP,b.live,b.nQ,b.size⟩
def sg(a:U)(h o p:Nat)(r:ai)(b:List aK)(x:dg a h o p r b)(c:c8 b=ζ):
  AC γ 12 [.ptr h 0] a λy z=>a.sub z/\∃d,y=.J ((cA b).map ah) d:=by
 obtain⟨C,d,D,E⟩:=x.x;have F:=ι D;have G:=(hG c).2;have k:=wv b C d E (ue c) acq a;simp only[c,if_true]at k;refine aL hm Cy ?_;refine ag k ?_;rintro _ L⟨P,S,rfl⟩;refine aa ?_;simp
def si(b:U)(c d h:Nat)(k:ai)(a:List aK)(x:dg b c d h k a)(y:c8 a=ζ)(z:(cA a).length<=1000000000):
  AC γ 11 [.ptr c 0] b λC D=>b.sub D/\C=bo (gb (cA a)):=by
 refine aL hm LU ?_;refine bp λo E=>?_;have p:=κ (Z:=.cells (δ 32 (.v (.int .u8 0)))) (η) E;have F:=μ b o (.cells (δ 32 (.v (.int .u8 0))));generalize b.set o _=G at*;refine ag (sg G c d h k a (x.sub p) y) ?_;rintro _ L⟨r,P,rfl⟩;refine aa ?_;have S:=A3 (w:=gb (cA a)) (iL _) (.v (.int .u8 0));have T:=τ (r _ _ F);have V:=ο p r;refine bh (u0 (cA a) P L z) ?_;trivial
def a6t(b:U)(o y:Nat)(z:ai)(G:bs b o y z)(a:List aK)(p:Ψ)(C:Own)(L:aB dJ a p)(d:c8 a=ζ)(P:∀S∈a,S.In):
  AC γ 38 [.ptr o 0,.J p C] b λT D=>b.sub D/\∃c,T=.aJ [.ptr c 0,.v (.int .i64 0)]/\b c=ε/\dg D c o y z a:=by
 have i:=(hG d).2;have E:=wv a p C L (ue d) acq b;simp only[d,if_true]at E;refine aL hm Mq ?_;refine ag E ?_;rintro _ V⟨h,W,rfl⟩;refine aa ?_;refine ag (a4U a W V d P) ?_;rintro _ j⟨k,e,f,g,rfl⟩;refine aa ?_;refine aN λc r=>?_;have F:=G.mono (ο h k);have x:=F.cG r;refine aa ?_;exact⟨_,η,κ (ο h k) (Ι (ο h k) r),c,rfl,Ι (ο h k) r,F.set x,⟨e,f,μ _ _ _,g⟩,x.1,x.2⟩
def wP(d h:U):Prop:=∀b a c,d b=β (.cells (a::c))->((∃k o,a=.J k o)\/∃p,a=bc p)->h b=β (.cells (a::c))
def dS.pA{b c:U}(a:wP b c):∀ {d:aC}{h:R},dS b d h->dS c d h
 |.nil,_,k=>k
 |.node _ _ _ _,_,⟨o,p,r,x,h1,y,z,C⟩=>⟨o,p,r,x,h1,a _ _ _ y (.inl ⟨_,_,rfl⟩),z.pA a,C.pA a⟩
def hq.pA{b c:U}(a:wP b c){d:ba}{h:R}(o:hq b d h):hq c d h:=by obtain⟨p,r,x,y,k,z,C,D,E,F,G⟩:=o;exact⟨p,r,x,y,k,z,C,a _ _ _ D (.inr ⟨_,rfl⟩),E,F.pA a,G.HN λP S T k V L=>a _ _ _ L (.inl ⟨_,_,rfl⟩)⟩
def hK.pA{b c:U}(d:wP b c){h:Nat}{k:List ba}(a:hK b h k):hK c h k:=by obtain⟨o,p,r,x⟩:=a;exact⟨o,p,d _ _ _ r (.inl ⟨_,_,rfl⟩),x.mono λy z a=>a.pA d⟩
variable{f s e5:U}
theorem cH.rs(c:dg f e i v H b4)(h:cH e i v f s):wP f s:=λk r x a d=>by
 obtain⟨y,z,o,_⟩:=c.x;obtain⟨C,D,p⟩:=c.hg.at_;obtain⟨E,⟨F,G,L,_⟩,_⟩:=c.hg.mp;refine h k _ ?_ ?_ ?_ a
 .rintro rfl;rw[o]at a;obtain⟨rfl,_⟩:=ab9 (bt.cells.inj (Β a));rcases d with⟨_,_,b⟩|⟨_,b⟩<;>cases b
 .rintro rfl;rw[p]at a;obtain⟨rfl,_⟩:=ab9 (bt.cells.inj (Β a));rcases d with⟨_,_,b⟩|⟨_,b⟩<;>cases b
 grind
def dg.a6u(a:dg f i v O H b4)(o:hK f e a8)(d:eE e f s):dg s i v O H b4:=by
 obtain⟨p,r,h,x⟩:=a.x;obtain⟨D,E,b⟩:=a.hg.at_;obtain⟨F,⟨G,L,c,P⟩,S⟩:=a.hg.mp;obtain⟨T,V,k,_⟩:=o;have y:i≠e:=by rintro rfl;rw[k]at h;cases h
 have z:v≠e:=by rintro rfl;rw[k]at b;cases b
 have C:O≠e:=by rintro rfl;rw[k]at c;cases c
 exact⟨a.hg.other (by rw[b];exact d _ _ z b) (by rw[c];exact d _ _ C c),⟨p,r,d _ _ y h,x⟩,a.oe,a.og⟩
structure ma(b:U)(c fV d W:Nat)(a:ai)(l:List aK)(cM:List ba)(n:Nat):Prop where
 st:dg b c fV d a l
 cat:c8 l=ζ
 rs:hK b W cM
 inv:dK n cM
 rep:a.one=θ->qJ a l cM
def ma.sub{b c:U}{d h k o p:Nat}{r:ai}{x:List aK}{y:List ba}(a:ma b d h k o r x y p)(z:b.sub c):ma c d h k o r x y p:=⟨a.st.sub z,a.cat,a.rs.sub z,a.inv,a.rep⟩
def ma.step{L y z:U}{h k o p C:Nat}{D:ai}{P:List aK}{r:List ba}(a:ma L h k o p D P r C)(E:C<900){c:db}(F:dm c.row){b:Int×List aK×ai}(x:fY D P c b)
  (S:dg y h k o b.2.2 b.2.1) (T:cH h k o L y) (V:hK z p (hJ r c).2) (W:eE p y z):ma z h k o p b.2.2 b.2.1 (hJ r c).2 (C+1)/\D.le b.2.2/\(b.2.2.one=θ->b.1=(hJ r c).1):=by
 have G:=a6m x;have e:=a.rs.pA (T.rs a.st);refine⟨⟨S.a6u e W,a6n a.cat x,V,B4 a.inv E F,λd=>(wJ x a.inv E F (a.rep (G.zero d)) d).2⟩,G,λd=>(wJ x a.inv E F (a.rep (G.zero d)) d).1⟩
def db.oq(a:db):Prop:=α a.table<=100/\α a.aE<=20/\(∀b∈a.aE,α b<=100)/\α a.row<=50
def db.oq.fit(a:h6.oq):h6.Fit:=⟨by have:=a.1;omega,by have:=a.2.1;omega,λb c=>by have:=a.2.2.1 b c;omega,by have:=a.2.2.2;omega⟩
theorem a6v(c:List df)(D:Own)(p:U)(W:α c<=9223372036854775807):
  AC γ 7 [.J (lZ c) D] p λE F=>F=p/\∃r,E=.v (.bool r)/\(r=θ->α c<=300/\∀h∈c,h.d.oq):=by
 have e:=Bf (a:=c);refine aL hm LM ?_;refine aG (λx=>?_) λf=>?_;simp;refine gX [0] (λd:Nat=>[(3,.v (.int .i64 d))]) (λd=>d<=α c/\∀h∈c.take d,h.d.oq) (λd=>α c - d) 0 ⟨a8M _,λh k=>by cases k⟩ aR ?_;rintro d⟨g,G⟩L;refine aa ?_;refine aG (λx=>?_) λx=>?_
 .have o:d<α c:=acq;have P:=Μ o;have i:=I5 P;have S:=a9w o;generalize c[d]=a at*;have j:=df.m1 (a:=a);have l:=df.m2 (a:=a);have m:=df.m3 (a:=a);have n:=df.a2s (a:=a);have q:=hn (h5:=a.d.aE);have s:=bM (t:=a.d.row);have t:=tR (w:=a.d.table);generalize a.C=u at*;refine aa ?_;refine aG (λT=>?_) λT=>?_;rotate_left;simp;refine aG (λc2=>?_) λc2=>?_;rotate_left;simp;refine aG (λaD=>?_) λaD=>?_;simp;refine gX [0,3] (λb:Nat=>[(4,.v (.int .i64 b))]) (λb=>b<=α a.d.aE/\∀V∈a.d.aE.take b,α V<=100) (λb=>α a.d.aE - b) 0 ⟨a8M _,λh k=>by cases k⟩ aR ?_;rintro b⟨v,y⟩L;refine aa ?_;refine aG (λaP=>?_) λaP=>?_
  .have z:b<α a.d.aE:=acq;have w:=tS z;have A:a.d.aE.take (b+1)=a.d.aE.take b++[a.d.aE.getD b []]:=fa z;have B:=tR (w:=a.d.aE.getD b []);generalize a.d.aE.getD b []=H at*;refine aa ?_;refine aG (λbl=>?_) λbl=>?_;simp;grind
  .obtain rfl:b=α a.d.aE:=acq;rw[a8F]at y;refine⟨d+1,⟨o,λh C=>?_⟩,rfl,acq⟩;rw[S]at C;rcases a8u.1 C with k|k
   .exact G h k
   .obtain rfl:=a8B.1 k;exact⟨acq,acq,y,acq⟩
 grind
def lg:Υ:=cY (cg ([1,5],ζ) aw aw)
def ot:Υ:=cY (dO [[1,5]])
def Ig:eb lg≠eb ot:=by unfold eb;decide+kernel
def uh:ai:=eS (eS Λ lg) ot
def a6w:uh.one=false:=by unfold uh eS;have a:Λ.m (eb lg)=none:=rfl;rw[a];have b:(if eb ot=eb lg then β lg else ε)=none:=if_neg (Δ Ig);simp only[Λ,b]
theorem a6x{a:Int×List aK×ai}(b:fY H b4 h6 a)(c:h6.kind=1\/h6.kind=2):a.2.2=H:=by grind[fY,absurd]
theorem Bi:bU 2 [1,5]:=⟨rfl,λa b=>by
 grind⟩
theorem a6y(b:e8.bq=aw)(c:e8.bu=aw):(fX (λH=>od 2 [1,5] H e8.bq) (λH=>jt 2 [1,5] H e8.bu) H b4 e8).2.2=eS (eS H lg) ot:=by
 have d:=(wg (I:=ζ) acq acq Bi (Aj) (Aj) acv).2.2;have h:=(vP (e:=2) acq acq (X:=[[1,5]]) acr acr (λk a=>by obtain rfl:=a8B.1 a;exact Bi)).pd;have o:∀H:ai,od 2 [1,5] H aw=(.ok (dF (cg ([1,5],ζ) aw aw)),eS H lg):=λH=>by
  unfold od;rw[jH,if_pos rfl];rfl
 have p:∀H:ai,jt 2 [1,5] H aw=(.ok (dF (dO [[1,5]])),eS H ot):=λH=>by
  unfold jt;rw[if_pos rfl];rfl
 unfold fX;simp_all
def hN:ba:=⟨[116],[[97]],[],.nil,ε⟩
def gE:ba:=hN.put [1,5]
def sj:db:=⟨1,[116],[[97]],[]⟩
def ks:db:=⟨3,[116],[],[1,5]⟩
def a7Z:db:=⟨3,[116],[],[1,6]⟩
def a8a:db:=⟨3,[116],[],[2,3,4]⟩
def a8b:db:=⟨4,[116],[],[1,6]⟩
def a8c:db:=⟨2,[116],[],[]⟩
theorem cu:hJ [] sj=(0,[hN]):=by rfl
theorem cp:hJ [hN] ks=(0,[gE]):=by rfl
def a6z{b:Int×List aK×ai}(a:fY Λ ([hN].map Η) ks b)(h:dK 1 [hN]):b.2.2=uh:=by
 unfold fY at a;rw[if_neg (show¬eU ks=θ by trivial),if_neg (show¬ks.kind=1 by decide),if_neg (show¬ks.kind=2 by decide),if_pos (show ks.kind=3 from rfl)]at a;unfold oh at a;have k:([hN].map Η).find? (λo=>decide (o.name=ks.table))=β hN.bG:=by rfl
 rw[k]at a
 dsimp only at a
 rw[if_pos (show α ks.row=α hN.bG.aE+1 from rfl)]at a;have c:=h.ok hN acr;rcases a with⟨p,_⟩|⟨rows,r,_,a⟩
 .exact absurd p (Hs (e:=2) acq acq c.dw.fq acv trivial)
 have x:=Ht (e:=2) (a7:=.nil) acq acq c.dw.fq acv trivial r;rcases a with⟨d,a⟩|⟨d,a⟩
 .rw[a];exact a6y rfl rfl
 .exact absurd (x.2 λz y=>by cases y) d
def a6A:sj.Fit:=db.oq.fit (by unfold db.oq;decide)
def a6B:ks.Fit:=db.oq.fit (by unfold db.oq;decide)
theorem Ih:dm []:=λb a=>by cases a
theorem wQ:dK 1 [hN]:=by grind[B4,dK.nil,sj,Ih,cu]
theorem Ii:dK 2 [gE]:=by grind[B4,wQ,ks,cp]
def B0{a:Int×List aK×ai}(d:fY Λ [] sj a):a=(0,[hN].map Η,Λ)/\qJ Λ ([hN].map Η) [hN]:=by
 have b:=a6x d (.inl rfl);have c:=wJ d (dK.nil (n:=0)) acq Ih ⟨rfl,λo h=>by cases h⟩ (by rw[b];rfl);rw[cu]at c;obtain⟨v,p,r⟩:=a
 dsimp only at b c
 obtain⟨rfl,k⟩:=c;subst b;obtain rfl:=k.eq;trivial
def B1{a:Int×List aK×ai}(h:fY Λ ([hN].map Η) ks a)(b:qJ Λ ([hN].map Η) [hN]):a=(0,[gE].map Η,uh)/\qJ uh ([gE].map Η) [gE]:=by
 have c:=a6z h wQ;have d:=wJ h wQ acq Bi.kh b (by rw[c];exact a6w);rw[cp]at d;obtain⟨v,k,o⟩:=a
 dsimp only at c d
 obtain⟨rfl,b⟩:=d;subst c;obtain rfl:=b.eq;trivial
def ui:c8 []=true:=(dK.nil (n:=0)).cat acq
def a6C:c8 ([hN].map Η)=true:=wQ.cat acq
def uj:c8 ([gE].map Η)=true:=Ii.cat acq
def a6D(a:Own):(⟨sj,a,.nil⟩:df).V=.agg [.v (.int .u8 1),.v (.string ⟨#[116]⟩),.J [.v (.string ⟨#[97]⟩)] a,.J [] .nil]:=rfl
def a6E(a:Own):(⟨ks,.nil,a⟩:df).V=.agg [.v (.int .u8 3),.v (.string ⟨#[116]⟩),.J [] .nil,.J [.v (.int .i64 1),.v (.int .i64 5)] a]:=rfl
variable{n b6:R}{Q b7 h7 j7 k1:Prop}
theorem Ij(k:dg f e i v H b4)(c:c8 b4=ζ)(a:df)(o:a.d.Fit)(p:a.V=n){b:Int×List aK×ai}(r:∀res,fY H b4 a.d res->res=b/\Q):
  AC γ 28 [.ptr e 0,n] f λd h=>d=.v (.int .i64 b.1)/\dg h e i v b.2.2 b.2.1/\Q:=by
 subst p;exact(Hv f e i v H b4 k (ue c) c a o).mono λd h ⟨res,x,y,z,C⟩=>by
  grind
def sk:Nat->dV->dV
 |0,a=>a
 |b+1,.seq _ c=>sk b c
 |_+1,a=>a
structure Jw(a b:U)(c fV d W:Nat)(h:ai)(l:List aK)(cM:List ba)(n:Nat):Prop where
 jn:ma b c fV d W h l cM n
 sub:a.sub b
 nX:a c=ε
 nS:a fV=ε
 nM:a d=ε
 nW:a W=ε
def Ik{k:Nat}:∀(a:Nat)(b:a6.T a),dI k a b->jO a b<=(a+1)*(a6.bd a b).length
 |0,b,d=>by
  have:=a9h.2 d.ne;rw[jO];omega
 |a+1,b,d=>by
  have C:=a9h.2 d.ne;have p:∀c:List (a6.T a),(∀h∈c,dI k a h)->(c.map (jO a)).sum<=(a+1)*(c.flatMap (a6.bd a)).length:=λc=>by
   induction c with
   |nil=>intro _;simp
   |cons h c ih=>intro o;have D:=Ik a h (o h acr);have E:=ih λr x=>o r (by simp[x]);rw[a8C,a9D,a8I,Ρ,Nat.mul_add];omega
  have y:=p (a6.kids b) d.kids;have z:a6.bd (a+1) b=(a6.kids b).flatMap (a6.bd a):=a6.fP (a:=a6.kids b);rw[<-z]at y;rw[jO];rw[abl];omega
def Bj{c:Type}{d:c->Nat}{h:Nat}:∀(a:List c),(∀b∈a,d b<=h)->(a.map d).sum<=α a*h
 |[],_=>by simp
 |b::a,k=>by
  have r:=k b acr;have x:=Bj a λo p=>k o (by simp[p]);rw[a8C,a9D,a8m,abl];omega
def a6F(a:eN e h9)(F:e<=1000):qK h9<=2000000/\mV h9.bG<=4000/\(h9.bG.bq≠aw->1<=h9.bG.bq.size)/\(h9.bG.bu≠aw->1<=h9.bG.bu.size):=by
 have G:=a.c;have L:=a.dw.ch;have h:=a.om.length_eq;have P:=a.dQ;have C:=eM (a:=α h9.aE+1) acq acq a.dw.fq acq;have r:(h9.bG.bq).size=h9.bq.size:=C.size;have x:h9.bG.bu=hI h9.bu:=rfl;have y:se h9.bu<=1000000/\((hI h9.bu)=aw\/(hI h9.bu).size=(ek h9.bu).length/\1<=(ek h9.bu).length):=by
  have o:=a.go;revert h o
  match h9.bu with
  |none=>exact λ_ _=>⟨by simp[se],.inl rfl⟩
  |some ⟨b,d⟩=>intro h o;have h:(a6.bd b d).length=α h9.rows:=h;have p:=GT.iW o;have D:=Ik b d p;have E:=dI.high b d p;have z:=o1 acq acq p;have S:(b+1)*(a6.bd b d).length<=1000*1000:=ab6 acq acq;exact⟨by show jO b d<= _;omega,.inr ⟨z.size,z.pos⟩⟩
 refine⟨?_,?_,λk=>?_,λk=>?_⟩
 .rw[qK];omega
 .rw[mV,cB,cB,r,x];rcases y.2 with c|⟨c,_⟩
  .rw[c];show _+(2*0 - 1)<= _;omega
  .rw[c];omega
 .rw[r];cases hk:h9.bq with
  |nil=>exact absurd (by show bn h9.bq=aw;rw[hk];rfl) k
  |node T live D E=>rw[Ζ];omega
 .rw[x]at k|-;rcases y.2 with c|⟨c,V⟩
  .exact absurd c k
  .omega
def Bk{d:Type}{r:Rd->d×Rd}{h:d->Prop}(x:∀b,h (r b).1):∀(k:Nat)(b:Rd)(o:List d),(∀c∈o,h c)->∀c∈(dv r k b o).1,h c
 |0,_,_,p=>p
 |k+1,b,o,p=>by
  rw[dv];refine Bk x k _ _ λc a=>?_;rcases a8u.1 a with a|a
  .exact p c a
  .rw[a8B]at a;subst a;exact x b
structure a8d(k:au):Prop where
 aV:dm k.aV
 aU:dm k.aU
def Bl{h:Type}(a:Rd->h×Rd):∀(b:Nat)(c:Rd)(d:List h),dv a (b+1) c d=((dv a b c d).1++[(a (dv a b c d).2).1],(a (dv a b c d).2).2)
 |0,c,d=>rfl
 |b+1,c,d=>by rw[dv,Bl a b];rfl
def sl{d:Type}(h:Rd->d×Rd):∀(a:Nat)(c:Rd)(b:List d),(dv h a c b).1.length=α b+a
 |0,c,b=>rfl
 |a+1,c,b=>by rw[dv,sl h a];simp;omega
def iC(k:Rd):aK×Rd:=
 let a:=fu 16 k
 let b:=cP a.2
 let c:=dv (fu 16) (min b.1.toNat 8) b.2 []
 let d:=fc 8 c.2
 let h:=fc 8 d.2
 (⟨a.1,c.1,d.1,h.1⟩,h.2)
def mb(b:Υ):List aK×Rd:=
 let a:=cP ⟨b,0⟩
 dv iC (min a.1.toNat 9) a.2 []
def lh(a:Υ):Option (List aK):=if(mI (mb a).2).e=0/\c8 (mb a).1=ζ/\cA (mb a).1=a then β (mb a).1 else ε
def Il(a:Rd):(fc 8 a).1.sum.length=32/\(fc 8 a).1.cE:=⟨vq _,⟨a8W (rA _ _) acv,a8W (rA _ _) acv,a8W (rA _ _) acv⟩⟩
theorem Im(n l0:U)(c:Nat)(L:Rd)(n5:n c=ε)(l:bP n c L l0):
  AC γ 156 [.ptr c 0] l0 λq S=>bP n c (fc 8 L).2 S/\∃E F G,q=.agg (ab (fc 8 L).1 E F G):=by
 have eX:=aT (M:=.nil) (e7:=.nil) (j0:=.nil) bm;have a14:=eX.len;have a15:=eX.t37;have P:=vq L;obtain⟨a,Q,X⟩:∃a Q,mH L=(a,Q):=⟨_,_,rfl⟩;rw[X]at P;obtain⟨k,Y,l1⟩:∃k Y,ez 1048576 Q=(k,Y):=⟨_,_,rfl⟩;obtain⟨r,s,l2⟩:∃r s,ez 1048576 Y=(r,s):=⟨_,_,rfl⟩;obtain⟨b,t,l3⟩:∃b t,gK 8 s=(b,t):=⟨_,_,rfl⟩;obtain⟨d,u,l4⟩:∃d u,gK 8 t=(d,u):=⟨_,_,rfl⟩;obtain⟨o,v,l5⟩:∃o v,gK 8 u=(o,v):=⟨_,_,rfl⟩;have n9:fc 8 L=(⟨a,b,d,k,r,o⟩,v):=by simp only[fc,X,l1,l2,l3,l4,l5]
 rw[n9]
 dsimp only at*
 have a16:(bo a).cells=a.map ah:=rfl;have a18:(a.map ah).length=32:=by simp[P]
 have a19:=cr;have a27:putAt (ab aw .nil .nil .nil) 0 (a.map ah)=ab ⟨a,[],[],0,0,[]⟩ .nil .nil .nil:=tz bm P;have a29:∀(b d)(T V)(o)(E F G),putAt (ab aw .nil .nil .nil) 0 (ab ⟨a,b,d,T,V,o⟩ E F G)=ab ⟨a,b,d,T,V,o⟩ E F G:=λb d T V o E F G=>cF bm P;have cl:∀(b d)(T V)(o)(E F G),(ab ⟨a,b,d,T,V,o⟩ E F G).length=37/\(ab ⟨a,b,d,T,V,o⟩ E F G).take 37=ab ⟨a,b,d,T,V,o⟩ E F G:=λb d T V o E F G=>by
  have:=aT (A:=⟨a,b,d,T,V,o⟩) (M:=E) (e7:=F) (j0:=G) P;exact⟨this.len,this.t37⟩
 refine aL hm CM ?_;refine aN λq a00=>?_;rw[cr];obtain⟨K,l6,l⟩:=l.new (ob:=.cells (ab aw .nil .nil .nil)) a00;refine aa ?_;have l7:=yu _ _ c _ l;rw[X]at l7;refine ag l7 ?_;rintro _ a30⟨Z,rfl⟩
 dsimp only at Z|-
 refine aa ?_;refine aN λz k3=>?_;obtain⟨e,l8,l9⟩:=Z.new (ob:=.cells (ab ⟨a,[],[],0,0,[]⟩ .nil .nil .nil)) k3;have a01:q≠z:=by rintro rfl;rw[Z.get K (μ _ _ _)]at k3;cases k3
 obtain⟨W,M⟩:∃W,n.set q (.cells (ab aw .nil .nil .nil))=W:=⟨_,rfl⟩;have a02:W c=none:=by rw[<-M,ξ _ _ (Δ K)];exact n5
 have a03:W q=β (.cells (ab aw .nil .nil .nil)):=by rw[<-M,μ]
 have n0:n.sub W:=by rw[<-M];exact κ η l6
 rw[M]at l9 l8;have n1:∀ {f L S},bP (W.set z f) c L S->S z=β f:=λl=>l.get e (μ _ _ _);refine aa ?_;have w:=q9 _ _ c 1048576 acq _ l9;rw[l1]at w;refine ag w ?_;rintro _ a34⟨A,rfl⟩;have a36:=τ (n1 A);have g:putAt (ab ⟨a,[],[],0,0,[]⟩ .nil .nil .nil) 34 [.v (.int .i64 (k))]=ab ⟨a,[],[],(k),0,[]⟩ .nil .nil .nil:=rH P;have A:=A.put (.cells (ab ⟨a,[],[],(k),0,[]⟩ .nil .nil .nil)) e
 dsimp only at A|-
 refine aa ?_;have w:=q9 _ _ c 1048576 acq _ A;rw[l2]at w;refine ag w ?_;rintro _ a38⟨B,rfl⟩;have a42:=τ (n1 B);have a43:putAt (ab ⟨a,[],[],(k),0,[]⟩ .nil .nil .nil) 35 [.v (.int .i64 (r))]=ab ⟨a,[],[],(k),(r),[]⟩ .nil .nil .nil:=rI P;have B:=B.put (.cells (ab ⟨a,[],[],(k),(r),[]⟩ .nil .nil .nil)) e
 dsimp only at B|-
 refine aa ?_;refine ic λk4 a04=>?_;obtain⟨a05,a06,k5⟩:=B.new (ob:=.buf 1 3 3) a04;have k6:z≠k4:=by grind
 have a07:W k4=none:=by rwa[ξ _ _ (Δ k6)]at a06
 rw[U.dL _ k6]at k5;obtain⟨D,N⟩:∃D,W.set k4 (.buf 1 3 3)=D:=⟨_,rfl⟩;rw[N]at k5;have k7:W.sub D:=by rw[<-N];exact κ η a07
 have a08:D c=none:=by rw[<-N,ξ _ _ (Δ a05)];exact a02
 have a09:D z=none:=by rw[<-N,ξ _ _ k6];exact l8
 have i:∀ {f L S},bP (D.set z f) c L S->S z=β f:=λl=>l.get e (μ _ _ _);have k8:∀f,(D.set z f) c=none:=λf=>by rw[ξ _ _ (Δ e)];exact a08
 let a10:Nat->au:=λh=>⟨a,if 0<h then b else [],if 1<h then d else [],(k),(r),if 2<h then o else []⟩
 let a11:Nat->Rd:=λh=>if h=0 then s else if h=1 then t else if h=2 then u else v;refine cd [0,2,3,20,21] (λh:Nat=>[(22,.v (.int .i64 h))]) (λh S=>h<=3/\∃x y g,bP (D.set z (.cells (ab (a10 h) x y g))) c (a11 h) S) (λh=>3 - h) 0 ⟨⟨acq,.nil,.nil,.nil,k5⟩,aR⟩ ?_;rintro h O⟨a47,x,y,m,p⟩a48;refine aa ?_;refine aG (λa13=>?_) λa13=>?_
 .have k9:=τ (i p);rcases(by omega:h=0\/h=1\/h=2)with rfl|rfl|rfl
  .have p:bP (D.set z (.cells (ab ⟨a,[],[],(k),(r),[]⟩ x y m))) c s O:=p;have k9:=τ (i p);have j:=mJ _ _ c 8 acq _ (k8 _) p;rw[l3]at j;refine aa ?_;refine ag j ?_;rintro _ n2⟨C,n3,rfl⟩;have n4:=τ (i C);have H:=λx y g I=>yN (A:=⟨a,[],[],(k),(r),[]⟩) (a:=x) (M:=y) (e7:=g) (j0:=I) (t:=b) P
   dsimp only at H C|-
   refine aa ?_;exact⟨1,⟨acq,_,_,_,C.put _ e⟩,rfl,acq⟩
  .have p:bP (D.set z (.cells (ab ⟨a,b,[],(k),(r),[]⟩ x y m))) c t O:=p;have k9:=τ (i p);have j:=mJ _ _ c 8 acq _ (k8 _) p;rw[l4]at j;refine aa ?_;refine ag j ?_;rintro _ n2⟨C,n3,rfl⟩;have n4:=τ (i C);have H:=λx y g I=>yO (A:=⟨a,b,[],(k),(r),[]⟩) (M:=x) (a:=y) (e7:=g) (j0:=I) (t:=d) P
   dsimp only at H C|-
   refine aa ?_;exact⟨2,⟨acq,_,_,_,C.put _ e⟩,rfl,acq⟩
  .have p:bP (D.set z (.cells (ab ⟨a,b,d,(k),(r),[]⟩ x y m))) c u O:=p;have k9:=τ (i p);have j:=mJ _ _ c 8 acq _ (k8 _) p;rw[l5]at j;refine aa ?_;refine ag j ?_;rintro _ n2⟨C,n3,rfl⟩;have n4:=τ (i C);have H:=λx y g I=>rJ (A:=⟨a,b,d,(k),(r),[]⟩) (M:=x) (e7:=y) (a:=g) (j0:=I) (t:=o) P
   dsimp only at H C|-
   refine aa ?_;exact⟨3,⟨acq,_,_,_,C.put _ e⟩,rfl,acq⟩
 .obtain rfl:h=3:=acq;have p:bP (D.set z (.cells (ab ⟨a,b,d,(k),(r),o⟩ x y m))) c v O:=p;have a52:=ι (i p);have a56:=τ (p.get K (by rw[ξ _ _ a01];exact k7 _ _ a03));have de:=cl b d k r o x y m;refine aa ?_;have C:=p.other (ob:=.cells (ab ⟨a,b,d,(k),(r),o⟩ x y m)) K;refine⟨_,η,C.base ?_,_,_,_,rfl⟩;exact κ (κ (ο n0 k7) (Ι (ο n0 k7) a09)) l6
theorem a6G(f l2:U)(o:Nat)(C:Rd)(a08:f o=ε)(g:bP f o C l2):
  AC γ 86 [.ptr o 0] l2 λi L=>bP f o (iC C).2 L/\dJ (iC C).1 i:=by
 obtain⟨d,I,l3⟩:∃d I,fu 16 C=(d,I):=⟨_,_,rfl⟩;obtain⟨x,D,l4⟩:∃x D,cP I=(x,D):=⟨_,_,rfl⟩;obtain⟨p,P,K⟩:∃p P,dv (fu 16) (min x.toNat 8) D []=(p,P):=⟨_,_,rfl⟩;have a65:α p=min x.toNat 8:=by have:=sl (fu 16) (min x.toNat 8) D [];rw[K]at this;simpa using this
 obtain⟨q,j,M⟩:∃q j,fc 8 P=(q,j):=⟨_,_,rfl⟩;obtain⟨s,N,O⟩:∃s N,fc 8 j=(s,N):=⟨_,_,rfl⟩;have a09:iC C=(⟨d,p,q,s⟩,N):=by simp only[iC,l3,l4,K,M,O]
 have Q:=Il P;rw[M]at Q;have X:=Il j;rw[O]at X;rw[a09]
 dsimp only at*
 have a68:=jG;refine aL hm CF ?_;refine aN λi a10=>?_;rw[jG];obtain⟨t,l5,g⟩:=g.new (ob:=.cells eV) a10;refine aa ?_;have E:=vr _ _ o 16 acq _ g;rw[l3]at E;refine ag E ?_;rintro _ a69⟨l,Y,_,rfl⟩;have a71:=@nE d Y
 dsimp only at l|-
 refine aa ?_;have Z:∀(F) b c h,α c=37->α h=37->(bc d::R.J (bB F) b::(c++h)).length=76/\(bc d::R.J (bB F) b::(c++h)).take 76=bc d::R.J (bB F) b::(c++h)/\putAt eV 0 (bc d::R.J (bB F) b::(c++h))=bc d::R.J (bB F) b::(c++h):=λF b c h l u=>by
  have a11:(bc d::R.J (bB F) b::(c++h)).length=76:=by simp[l,u]
  exact⟨a11,Ο acq,rf (by trivial)⟩
 obtain⟨k,l6⟩:∃k,ab aw .nil .nil .nil=k:=⟨_,rfl⟩;have k3:α k=37:=by rw[<-l6];rfl
 have a73:=gS.all.1;refine aN λS k4=>?_;obtain⟨T,l7,u⟩:=l.new (ob:=.cells (bc d::.J [] .nil::(k++k))) k4;have a13:=Z [] .nil k k k3 k3;rw[show bB []=[]from rfl]at a13;have l8:i≠S:=by rintro rfl;rw[l.get t (μ _ _ _)]at k4;cases k4
 obtain⟨y,v⟩:∃y,f.set i (.cells eV)=y:=⟨_,rfl⟩;have a14:y o=none:=by rw[<-v,ξ _ _ (Δ t)];exact a08
 have a15:y i=β (.cells eV):=by rw[<-v,μ]
 have l9:f.sub y:=by rw[<-v];exact κ η l5
 rw[v]at u l7;rw[l6];refine aa ?_;have n0:=nN _ _ o _ u;rw[l4]at n0;have a74:min (x.toNat:Int) 8=((min x.toNat 8:Nat):Int):=acq;have a81:=x.toNat_lt;have a83:IntKind.i64.wrap (x.toNat:Int)=x.toNat:=wrap_i64 acq acq;refine ag n0 ?_;rintro _ a84⟨k5,rfl⟩;obtain⟨a16,k5⟩:=k5;generalize min x.toNat 8=w at*;refine aa ?_;have a86:∀z k6,((y.set S z).set o k6) o=β k6:=λz k6=>μ _ _ _;have n1:∀z,(y.set S z) o=none:=λz=>by rw[ξ _ _ (Δ T)];exact a14
 have V:∀ {z C L},bP (y.set S z) o C L->L S=β z:=λg=>g.get T (μ _ _ _);obtain⟨r,m⟩:∃r:Nat->List Υ×Rd,r=λa=>dv (fu 16) a D []:=⟨_,rfl⟩;have a18:r 0=([],D):=by rw[m];rfl
 have a19:r w=(p,P):=by rw[m];exact K
 have cR:∀a,r (a+1)=((r a).1++[(fu 16 (r a).2).1],(fu 16 (r a).2).2):=λa=>by rw[m];exact Bl _ _ _ _
 have a27:∀a,(r a).1.length=a:=λa=>by rw[m];simpa using sl (fu 16) a D []
 clear m;refine cd [0,2,3,11] (λa:Nat=>[(12,.v (.int .i64 a))]) (λa L=>a<=w/\∃b Y,bf ((y.set S (.cells (bc d::.J (bB (r a).1) b::(k++k)))).set o (ha (r a).2 Y)) L 1 (bB (r a).1) b) (λa=>w - a) 0 ⟨⟨acq,.nil,a16,by rw[a18];exact Ν k5⟩,aR⟩ ?_;rintro a a29⟨a88,b,a89,k7⟩a90;have W:=ct.rs k7;have k8:=ι (V W);refine aa ?_;refine aG (λa30=>?_) λa30=>?_
 .have E:=vr _ _ o 16 acq _ W.full;have A:=cR a;have a34:=a27 a;generalize r a=a36 at*;obtain⟨B,a38⟩:=a36;obtain⟨e,n2,a42⟩:∃e n2,fu 16 a38=(e,n2):=⟨_,_,rfl⟩
  dsimp only at E A a34 k7 W k8|-
  rw[a42]at E A
  dsimp only at E A
  refine ag E ?_;rintro _ a43⟨H,a47,_,rfl⟩;obtain⟨a48,n3⟩:=ct.step k7 (n1 _) H;have a52:=V (ct.rs n3);have a92:=ι a52;have a94:=@nE e a47;refine aa ?_;refine ic (λa95 a56=>?_) (d:=pw (h5:=[_]));have a96:=hn (h5:=B);refine dW (n3.mono (κ η a56)) pw (pw (h5:=[_])) (by simp[hn];omega) (by simp[hn];omega) λn4 a97 G=>?_;have n5:bB B++[bc e]=bB (B++[e]):=by simp[bB]
  rw[n5]at G|-;clear n5;have a57:=τ (V (ct.rs G));refine aa ?_;have n:=G.set (ob:=.cells (bc d::.J (bB (B++[e])) n4::(k++k))) (by rw[ξ _ _ T];exact μ _ _ _);rw[U.dL _ (Δ T),ς]at n;refine⟨a+1,⟨acq,n4,a48,by rw[A];exact n⟩,rfl,acq⟩
 .obtain rfl:a=w:=acq;rw[a19]at W k8
  dsimp only at W k8
  have n9:=n1;have a00:=Im _ a29 o P (n9 _) W;rw[M]at a00;refine ag a00 ?_;rintro _ a43⟨H,a01,a02,a03,rfl⟩;obtain⟨c,k9⟩:∃c,ab q a01 a02 a03=c:=⟨_,rfl⟩;have l0:α c=37:=by rw[<-k9];exact(aT Q.1).len
  have a98:=τ (V H);have a99:putAt (bc d::R.J (bB p) b::(k++k)) 2 c=bc d::R.J (bB p) b::(c++k):=by simp only[putAt,aaD,a9Y,l0,a9v,a8y,Nat.reduceAdd,a9A];simp_all
  have a61:=H.put (.cells (bc d::.J (bB p) b::(c++k))) T;have b00:=Z p b c k l0 k3;rw[k9];refine aa ?_;have a04:=Im _ _ o j (n9 _) a61;rw[O]at a04;refine ag a04 ?_;rintro _ b01⟨G,a05,a06,a07,rfl⟩;obtain⟨h,l1⟩:∃h,ab s a05 a06 a07=h:=⟨_,rfl⟩;have a62:α h=37:=by rw[<-l1];exact(aT X.1).len
  have a57:=τ (V G);have b02:putAt (bc d::R.J (bB p) b::(c++k)) 39 h=bc d::R.J (bB p) b::(c++h):=by simp_all [putAt]
  have n:=G.put (.cells (bc d::.J (bB p) b::(c++h))) T;have b03:=Z p b c h l0 a62;have b04:=τ (G.get t (by rw[ξ _ _ l8];exact a15));have b05:=ι (V n);have b06:=Δ l8;rw[l1];refine aa ?_;have a63:=n.other (ob:=.cells (bc d::.J (bB p) b::(c++h))) t;refine⟨_,η,a63.base ?_,_,rfl,⟨b,a01,a02,a03,a05,a06,a07,by rw[k9,l1]⟩,Q,X,(show α p<=1000000 by omega)⟩
  .exact κ (κ l9 (Ι l9 l7)) l5
def Io(a:Nat)(b:Rd):(fu a b).1.length<=a:=by
 have d:(ez a b).1<=a:=by unfold ez;split<;>(try split)<;>simp<;>omega
 unfold fu;cases c:(dr (ez a b).2 (ez a b).1).1 with
 |none=>simp
 |some aO=>have:=q8 c;simp only[a9W];omega
def a6H(a:Rd):(iC a).1.Fit:=by
 unfold iC
 dsimp only
 refine⟨?_,?_,?_⟩
 .have:=Io 16 a;dsimp only;omega
 .have:=sl (fu 16) (min (cP (fu 16 a).2).1.toNat 8) (cP (fu 16 a).2).2 [];simp only[a8s]at this
  dsimp only
  omega
 .intro b c;have:=Bk (h:=λb:Υ=>α b<=16) (λa=>Io 16 a) (min (cP (fu 16 a).2).1.toNat 8) (cP (fu 16 a).2).2 [] (λ_ d=>(a9n d).elim) b c;omega
theorem Ip(o:Υ)(G:Own)(p:U)(l8:α o<=1000000):
  AC γ 36 [.J (o.map ah) G] p λi L=>match lh o with
   |none=>p.sub L/\i=.aJ [.J [] .nil,.v (.int .i64 21)]
   |some b=>∃r q,bf p L 76 r q/\aB dJ b r/\i=.aJ [.J r q,.v (.int .i64 0)]:=by
 refine kJ λl9=>?_;have N:G=.nil->o=[]:=λs=>by simp_all
 obtain⟨c,x,t⟩:∃c x,cP ⟨o,0⟩=(c,x):=⟨_,_,rfl⟩;obtain⟨b,C,P⟩:∃b C,dv iC (min c.toNat 9) x []=(b,C):=⟨_,_,rfl⟩;have O:mb o=(b,C):=by simp only[mb,t,P]
 have Q:∀X∈b,X.Fit:=by have:=Bk (h:=aK.Fit) a6H (min c.toNat 9) x [] (λ_ D=>(a9n D).elim);rw[P]at this;exact this
 have n0:α b<=9:=by have:=sl iC (min c.toNat 9) x [];rw[P]at this;simp at this;omega
 unfold lh;rw[O]
 dsimp only
 refine aL hm CA ?_;have n1:min (c.toNat:Int) 9=((min c.toNat 9:Nat):Int):=acq;have n2:=c.toNat_lt;have n3:IntKind.i64.wrap (c.toNat:Int)=c.toNat:=wrap_i64 acq acq;refine ag (yt o G p N acq) ?_;rintro _ n4⟨E,S,rfl,Y⟩;refine aa ?_;have u:=nN _ _ E _ Y;rw[t]at u;refine ag u ?_;rintro _ n5⟨⟨Z,k3⟩,rfl⟩;have n9:min c.toNat 9<=9:=acq;generalize min c.toNat 9=V at*;refine aa ?_;obtain⟨d,F⟩:∃d:Nat->List aK×Rd,d=λa=>dv iC a x []:=⟨_,rfl⟩;have j:d 0=([],x):=by rw[F];rfl
 have v:d V=(b,C):=by rw[F];exact P
 have cR:∀a,d (a+1)=((d a).1++[(iC (d a).2).1],(iC (d a).2).2):=λa=>by rw[F];exact Bl _ _ _ _
 have w:∀a,(d a).1.length=a:=λa=>by rw[F];simpa using sl iC a x []
 clear F;refine cd [0,4,13] (λh:Nat×Ψ×Own=>[(14,.v (.int .i64 h.1)),(5,.J h.2.1 h.2.2)]) (λh L=>h.1<=V/\aB dJ (d h.1).1 h.2.1/\∃k4,bf (p.set E (ha (d h.1).2 k4)) L 76 h.2.1 h.2.2) (λh=>V - h.1) (0,[],.nil) ⟨⟨acq,by rw[j];trivial,Z,by rw[j];exact Ν k3⟩,aR⟩ ?_;rintro⟨a,r,A⟩ B ⟨k5,k,a00,y⟩ a01
 dsimp only at k5 k y|-
 have W:=ct.rs y;have a02:α r=a:=by rw[k.len,w]
 refine aa ?_;refine aG (λk6=>?_) λk6=>?_
 .have k7:=cR a;have z:=a6G (B.del E) B E (d a).2 (by simp[U.del]) W.full;refine ag z ?_;rintro a03 e⟨l,H⟩;obtain⟨I,f⟩:=ct.step y S l;have k8:=H;obtain⟨T,rfl,k9⟩:=H;have l0:=k9.all.1;clear k7;refine aa ?_;refine ic (λa04 l1=>?_);refine dW (f.mono (κ η l1)) (k.cells λ_ _ D=>by obtain⟨_,rfl,D⟩:=D;exact D.all.1) (λs g=>by rw[a8B]at g;subst g;exact l0) acs acs λl2 a05 l3=>?_;refine aa ?_;refine⟨(a+1,r++[.agg T],l2),⟨by simp only;omega,?_,I,?_⟩,⟨rfl,rfl⟩,by simp only;omega⟩
  .simp only[cR];exact k.snoc k8
  .simp only[cR];exact l3
 .obtain rfl:a=V:=acq;rw[v]at W k y
  dsimp only at W k y
  clear cR w j v;have g:=yv _ _ E _ W.full;refine ag g ?_;rintro _ e⟨l,rfl⟩;obtain⟨I,f⟩:=ct.step y S l;have m:p.sub e:=(f.base (κ η S)).sub;have l4:=wv b r A k Q acq e;generalize (mI C).e=s at*;refine aa ?_;refine aG (λc2=>?_) λc2=>?_
  .exact⟨e,η,by simpa using m⟩
  .refine ag l4 ?_;rintro i K⟨n,z⟩;by_cases aD:c8 b=ζ
   .rw[if_pos aD]at z;obtain⟨l5,rfl⟩:=z;have M:=ο m n;have l6:=(f.base (κ η S)).mono n;have a06:(cA b).length<=100000:=by have:=G8 k (hG aD).1 (α b);rw[a8F]at this;rw[cA,a8m];omega
    have l7:=λp=>yB (cA b) o l5 G p acq;refine aa ?_;refine bh (l7 _) ?_
    repeat' first|refine aG (λ_=>?_) λ_=>?_|trivial
    exact⟨K,η,r,A,l6,k,rfl⟩
   .rw[if_neg aD]at z;obtain rfl:=z;have M:=ο m n;refine aa ?_;exact⟨K,η,by simpa using M⟩
def a6I(c:aK)(p:c.In)(a:Υ):iC ⟨fT c++a,0⟩=(c,⟨a,0⟩):=by
 obtain⟨k,b,d,h⟩:=c;obtain⟨⟨r,F,a3,_,_⟩,x,y⟩:=p
 dsimp only at*
 have z:fT ⟨k,b,d,h⟩++a=gJ k++(ν (α b)::(b.flatMap gJ++(dN d++(dN h++a)))):=by simp[fT]
 have C:min (ν (α b)).toNat 8=α b:=by rw[a9k];omega
 have D:=tr (fu 16) gJ (λo=>α o<=16) (λo a E=>wx o 16 E acq a) b [] (dN d++(dN h++a)) a3;unfold iC;rw[z];simp only[wx k 16 r acq,oZ,C,D,yC d 8 acq _ x,yC h 8 acq _ y,a8y]
def Bm(a:c8 b4=ζ)(c:∀d∈b4,d.In):lh (cA b4)=β b4:=by
 obtain⟨_,x⟩:=hG a;have h:min (ν (α b4)).toNat 9=α b4:=by rw[a9k];omega
 have b:=tr iC fT aK.In (λk o p=>a6I k p o) b4 [] [] c;rw[a9p,a8y]at b;have r:mb (cA b4)=(b4,⟨[],0⟩):=by unfold mb;rw[cA];simp only[oZ,h,b]
 unfold lh;rw[r,if_pos ⟨rfl,a,rfl⟩]
def Bn(a:lh w=β b4):c8 b4=true:=by
 unfold lh at a;by_cases b:(mI (mb w).2).e=0/\c8 (mb w).1=ζ/\cA (mb w).1=w
 .rw[if_pos b]at a;rw[<-Β a];exact b.2.1
 .rw[if_neg b]at a;cases a
def jP(a:List Υ)(b:au):List Υ:=if b=aw then a else eK a b.sum
def hP(a:List Υ)(c:List aK):List Υ:=c.foldl (λa b=>jP (jP a b.bq) b.bu) a
def a6J(d:Nat)(a:au)(c:List Υ):kn Λ d a c=(0,jP c a):=by
 unfold kn jP;rw[lU];by_cases b:a=aw
 .rw[if_pos b,if_pos b]
 .have:(Λ.m a.sum).isSome=false:=rfl;rw[if_neg b,if_neg b];simp[qy,this]
def Iq:∀(a:List aK)(b:List Υ),(∀c∈a,α c.aE<=7)->ho kn Λ a b=(0,hP b a)
 |[],b,_=>rfl
 |c::a,b,d=>by
  rw[ho,if_neg (by have:=d c acr;omega)];simp only[iy,a6J,if_true];rw[Iq a _ λh k=>d h (by simp[k])];rfl
def a6K:eK h5 w≠[]:=by
 unfold eK;split
 .rename_i a;intro b;rw[b]at a;cases a
 .simp
variable{A j9:au}
def Ir:jP h5 A=[]↔h5=[]/\A=aw:=by
 unfold jP;by_cases a:A=aw
 .simp[a]
 .simp[a,a6K]
def Is:∀ {c:List aK}{a:List Υ},hP a c=[]↔a=[]/\∀b∈c,b.bq=aw/\b.bu=aw
 |[],a=>by simp[hP]
 |b::c,a=>by
  show hP (jP (jP a b.bq) b.bu) c=[]↔ _;rw[Is,Ir,Ir];simp only[a8E,forall_eq_or_imp,and_assoc]
def It(b:∀a∈h5,α a=32)(c:α A.sum=32):(∀a∈jP h5 A,α a=32)/\(jP h5 A).length<=α h5+1:=by
 unfold jP;split
 .exact⟨b,acq⟩
 .exact⟨s6 b c,qz⟩
def Iu:∀ {l:List aK}{t:List Υ},(∀b∈t,α b=32)->(∀a∈l,α a.bq.sum=32/\α a.bu.sum=32)->(∀b∈hP t l,α b=32)/\(hP t l).length<=α t+2*α l
 |[],t,c,_=>⟨c,by simp[hP]⟩
 |a::l,t,c,cm=>by
  obtain⟨d,h⟩:=cm a acr;obtain⟨k,x⟩:=It c d;obtain⟨o,c2⟩:=It k h;obtain⟨p,y⟩:=Iu (l:=l) o λb r=>cm b (by simp[r]);exact⟨p,by show(hP (jP (jP t a.bq) a.bu) l).length<= _;rw[a8m];omega⟩
theorem a6L(h:c8 b4=ζ):α b4<=8/\(∀a∈b4,α a.aE<=7)/\(∀a∈b4,(a.bq≠aw->1<=a.bq.size)/\(a.bu≠aw->1<=a.bu.size))/\(b4.map mV).sum<=1000000000:=by
 obtain⟨c,o⟩:=hG h;have k:∀a∈b4,fb (α a.aE+1) a.bq=ζ/\fb (α a.aE+1) a.bu=true:=λa b=>by
  have p:=h;simp only[c8,Ξ,a8A,a9C,decide_eq_true_eq]at p;obtain⟨r,x,rfl⟩:=a8S b;simp_all [fG]
 refine⟨o,λa b=>(c a b).c,λa b=>⟨λd=>(jE (k a b).1).2.1 d,λd=>(jE (k a b).2).2.1 d⟩,?_⟩;have y:=Bj (d:=mV) (h:=4194304) b4 λa b=>by
  have z:=(c a b).k.size;have a:=(c a b).z.size;unfold mV cB;omega
 omega
variable{b9:dP}
def Iv(d:1<=e)(h:e<=8)(k:hj e b9):hI b9=aw↔b9=none:=by
 rcases AV d h k with⟨b,a⟩|⟨b,a⟩
 .exact⟨λ_=>b,λ_=>a⟩
 .refine⟨λc=>?_,λc=>absurd c b⟩;have p:=a.pos;have o:=a.live;rw[c]at o;have:(aw).live=0:=rfl;omega
variable{a7:aC}
def Iw(c:1<=e)(d:e<=8)(h:a7.c9 e)(k:a7.size<=1048576):bn a7=aw↔a7=.nil:=by
 cases a7 with
 |nil=>exact⟨λ_=>rfl,λ_=>rfl⟩
 |node o live p r=>refine⟨λa=>?_,λa=>by cases a⟩;have b:=(eM c d h k).size;rw[a]at b;have:(aw).size=0:=rfl;simp only[Ζ]at b;omega
def a6M(W:e<=1000):∀ {ds:List ba},(∀a∈ds,eN e a)->(hM ds []=[]↔hP [] (ds.map Η)=[]):=λ{ds} y=>by
 rw[Is];constructor
 .intro D;refine⟨rfl,λp E=>?_⟩;obtain⟨a,k,rfl⟩:=a8D.1 E;have b:=y a k;have F:=b.c;have G:=b.dw.ch;have z:∀c,c∉hM ds []:=λc d=>by rw[D]at d;cases d
  obtain⟨h,r,rfl⟩:=aav k;have L:hM (h++a::r) []=hM r (oo a.bu (hL a.bq (hM h []))):=by simp[hM]
  rw[L]at z;refine⟨(Iw acq acq b.dw.fq acq).2 ?_,(Iv acq acq b.go).2 ?_⟩
  .cases hk:a.bq with
   |nil=>rfl
   |node f live P S=>refine absurd (Ic r _ _ (Ib a.bu _ (bn a.bq).sum ?_)) (z _);rw[hk,hL];exact uf S _ _ (uf P _ _ (sf.2 (.inr rfl)))
  .cases x:a.bu with
   |none=>rfl
   |some c=>
    obtain⟨o,C⟩:=c;refine absurd (Ic r _ (bQ o C).sum ?_) (z _);rw[x];show _∈iB o C _;cases o with
    |zero=>exact sf.2 (.inr rfl)
    |succ o=>rw[iB];exact wM (λT V c d=>Bh o T V c d) _ _ _ (sf.2 (.inr rfl))
 .rintro⟨_,x⟩;have:∀a∈ds,a.bq=.nil/\a.bu=none:=λa k=>by
   have b:=y a k;have F:=b.c;have G:=b.dw.ch;obtain⟨h,p⟩:=x _ (List.mem_map_of_mem k);exact⟨(Iw acq acq b.dw.fq acq).1 h,(Iv acq acq b.go).1 p⟩
  clear x y
  induction ds with
  |nil=>rfl
  |cons a ds ih=>obtain⟨h,p⟩:=this a acr;show hM ds (oo a.bu (hL a.bq []))=[];rw[h,p];exact ih λc d=>this c (by simp[d])
structure lj(b:U)(c fV:Nat)(l:List aK)(d:List Υ)(t e:Int):Prop where
 cx:∃a o ev,b c=β (.cells [.ptr fV 0,.J a o,.J (d.map bo) ev,.v (.int .i64 t),.v (.int .i64 e)])/\aB dJ l a
variable{b3:Int}
def lj.sub{a:Int}(b:lj f e i b4 h5 b3 a)(c:f.sub s):lj s e i b4 h5 b3 a:=by obtain⟨d,h,k,o,p⟩:=b.cx;exact⟨d,h,k,c _ _ o,p⟩
def mY(a:ai)(b:List aK):Int:=(ho kn a b []).1
def qM(a:ai)(b:List aK):List Υ:=if mY a b=0 then(ho kn a b []).2 else []
def a6N(c:U)(d h F:Nat)(b:ai)(a:List aK)(V:List Υ)(G W:Int)(e:lj c d h a V G W)(f:bs c h F b)(g:c8 a=ζ):
  AC γ 37 [.ptr d 0] c λL P=>eE d c P/\lj P d h a (qM b a) G (mY b a)/\L=.v (.int .i64 (mY b a)):=by
 obtain⟨o,p,q,S,r⟩:=e.cx;obtain⟨s,t,i,j⟩:=a6L g;have u:=ι S;have x:=a4b c h F b f a o p r acq i j;refine aL hm Mo ?_;refine ag x ?_;rintro L v⟨y,z,C⟩;have T:=y _ _ S;have w:=ι T;have A:=τ T;have B:=@ς;unfold qM mY;by_cases k:(ho kn b a []).1=0
 .obtain⟨l,rfl⟩:=z k;rw[k,if_pos rfl];clear z C x;refine aa ?_;exact⟨_,η,λm n D E=>(ξ _ _ D).trans (y _ _ E),o,p,l,μ _ _ _,r⟩
 .obtain rfl:=C k;rw[if_neg k];clear z C x;generalize (ho kn b a []).1=H at*;refine aa ?_;exact⟨_,η,λm n D E=>(ξ _ _ D).trans (y _ _ E),o,p,.nil,μ _ _ _,r⟩
def wR(a:α w=32):(R.agg (w.map ah)=bo w)/\(w.map ah).length=32/\(w.map ah).take 32=w.map ah/\(bo w).cells=w.map ah:=
 ⟨rfl,by rw[a8o,a],Ο (by rw[a8o,a];omega),rfl⟩
def a6O(d a:Υ)(o:α d=32)(h:Own)(V:α a<=900000)(c:U):
  AC γ 10 [bo d,.J (a.map ah) h,.v (.pointer ε)] c λp C=>c.sub C/\p=.aJ [.v (.pointer ε),.v (.int .i64 (if gb a=d/\(lh a).isSome=ζ then 1 else 43))]:=by
 have D:(gb a).length=32:=iL _;have W:=λE=>q7 (I:=ζ) (a:=E) D o;have r:=λc=>u0 a h c acq;obtain⟨e,f,g,F⟩:=wR o;refine aL hm uJ ?_;refine bp λx G=>?_;have aD:=μ c x (.cells (bo d).cells);have k:=κ (Z:=.cells (bo d).cells) η G;rw[F]at aD k;generalize L:c.set x _=P at*;clear L;refine ag (Ip a h P acq) ?_;rintro p i b;cases y:lh a with
 |none=>
  rw[y]at b;obtain⟨b,rfl⟩:=b;have S:=ι (b _ _ aD);have T:=ο k b;refine aa ?_;refine bh (r _) ?_
  repeat' first|refine aG (λ_=>?_) λ_=>?_|trivial
 |some j=>
  rw[y]at b;obtain⟨l,m,z,n,rfl⟩:=b;have S:=ι (z.sub _ _ aD);have T:=ο k z.sub;refine aa ?_;refine bh (r _) ?_
  repeat' first|refine aG (λ_=>?_) λ_=>?_|trivial
def wS(b d:Υ)(G:α b=32)(z:Own)(Q:α d<=900000)(a:U)(p l:Nat)(x:ai)(B:bs a p l x):
  AC γ 10 [bo b,.J (d.map ah) z,.ptr p 0] a λL m=>a.sub m/\match lh d with
   |none=>L=.aJ [.v (.pointer ε),.v (.int .i64 43)]
   |some h=>if gb d=b then(if mY x h=0 then∃c,L=.aJ [.ptr c 0,.v (.int .i64 0)]/\a c=ε/\lj m c p h (qM x h) 0 0 else L=.aJ [.v (.pointer ε),.v (.int .i64 (mY x h))])else L=.aJ [.v (.pointer ε),.v (.int .i64 43)]:=by
 have H:(gb d).length=32:=iL _;have X:=λV=>q7 (I:=ζ) (a:=V) H G;have W:=λa=>u0 d z a acq;obtain⟨Y,Z,k3,e⟩:=wR G;have r:=Ip d z;cases f:lh d with
 |none=>
  rw[f]at r
  dsimp only at r|-
  refine aL hm uJ ?_;refine bp λk C=>?_;have aD:=μ a k (.cells (bo b).cells);have o:=κ (Z:=.cells (bo b).cells) η C;rw[e]at aD o;generalize D:a.set k _=E at*;clear D;refine ag (r E acq) ?_;rintro _ F⟨n,rfl⟩;have q:=ι (n _ _ aD);have P:=ο o n;refine aa ?_;refine bh (W _) ?_
  repeat' first|refine aG (λ_=>?_) λ_=>?_|trivial
 |some h=>
  have I:=Bn f;rw[f]at r
  dsimp only at r|-
  by_cases s:gb d=b
  .simp only[if_pos s];refine aL hm uJ ?_;refine bp λk C=>?_;have aD:=μ a k (.cells (bo b).cells);have o:=κ (Z:=.cells (bo b).cells) η C;rw[e]at aD o;generalize D:a.set k _=E at*;clear D;refine ag (r E acq) ?_;rintro _ F⟨S,T,y,g,rfl⟩;have q:=ι (y.sub _ _ aD);have P:=ο o y.sub;have k4:=λV=>q7 (I:=ζ) (a:=V) G G;have k5:=@ς;refine aa ?_;refine bh (W _) ?_;refine aa ?_;refine bp λc K=>?_;have i:=Ι P K;have t:=κ (Z:=.cells [.ptr p 0,.J S T,.J [] .nil,.v (.int .i64 0),.v (.int .i64 0)]) P i;have u:=a6N _ c p l x h [] 0 0 (show lj (F.set c (.cells [.ptr p 0,.J S T,.J [] .nil,.v (.int .i64 0),.v (.int .i64 0)])) c p h [] 0 0 from⟨S,T,.nil,μ F c _,g⟩) (B.mono t) I;generalize F.set c _=k6 at*;refine ag u ?_;rintro _ v⟨w,M,rfl⟩;have N:a.sub v:=λO z j=>w O z (by rintro rfl;rw[i]at j;cases j) (t _ _ j);clear u w g y;generalize mY x h=k7 at*;refine aa ?_;refine aG (λA=>?_) λA=>?_
   .trivial
   .subst A;exact⟨v,η,N,c,rfl,i,M⟩
  .simp only[if_neg s];refine aL hm uJ ?_;refine bp λk C=>?_;have aD:=μ a k (.cells (bo b).cells);have o:=κ (Z:=.cells (bo b).cells) η C;rw[e]at aD o;generalize D:a.set k _=E at*;clear D;refine ag (r E acq) ?_;rintro _ F⟨S,T,y,g,rfl⟩;have q:=ι (y.sub _ _ aD);have P:=ο o y.sub;refine aa ?_;refine bh (W _) ?_
   repeat' first|refine aG (λ_=>?_) λ_=>?_|trivial
def Bo(b:U)(c h:Nat)(k:List aK)(a:List Υ)(o d:Int)(p:lj b c h k a o d):
  AC γ 22 [.ptr c 0] b λr x=>x=b/\r=.v (.bool (decide (d=0)&&decide (a=[]))):=by
 obtain⟨z,C,D,y,E⟩:=p.cx;have F:=ι y;have G:(a.map bo).length=α a:=a8o _;refine aL hm M9 ?_
 repeat' first|refine aG (λ_=>?_) λ_=>?_|trivial
 refine aO ?_;cases a<;>simp;omega
def a6P(b:U)(c d:Nat)(h:List aK)(a:List Υ)(k o:Int)(p:lj b c d h a k o):
  AC γ 23 [.ptr c 0] b λr x=>x=b/\r=.v (.int .i64 (α a:Int)):=by
 obtain⟨z,C,D,y,E⟩:=p.cx;have F:=ι y;have G:(a.map bo).length=α a:=a8o _;refine aL hm Mb ?_;trivial
def Ix(b:∀a∈h5,α a=32):aW 32 (h5.map bo):=λh c=>by
 obtain⟨a,d,rfl⟩:=a8D.1 c;show(a.map ah).length=32;rw[a8o];exact b a d
theorem a6Q(a:List Υ)(h:∀k∈a,α k=32)(d:Own)(b:U)(L:α a<=1000000):
  AC γ 41 [.J (a.map bo) d] b λo p=>b.sub p/\∃r,o=.J (a.map bo) r:=by
 have P:(a.map bo).length=α a:=a8o _;refine kJ λS=>?_;have x:d=.nil->a.map bo=[]:=λy=>by subst y;simp_all
 have z:=Ix h;refine bg hm Mu acr ?_;simp -dsimp -implicitDefEqProofs (disch:=first|omega|assumption|(simp only[aX,Nat.reduceAdd];try omega)) only[go_sem,simprocAttr,aY,aZ,↓mE];refine mF (λc=>by rw[x c]) (λc=>?_) ?_
 .have C:a.map bo=[]:=by simpa using c
  rw[C];simp -dsimp -implicitDefEqProofs (disch:=first|omega|assumption|(simp only[aX,Nat.reduceAdd];try omega)) only[go_sem,simprocAttr,aY,aZ,a8U];exact⟨b,η,η,.nil,rfl⟩
 .simp -dsimp -implicitDefEqProofs (disch:=first|omega|assumption|(simp only[aX,Nat.reduceAdd];try omega)) only[go_sem,simprocAttr,aY,aZ];refine dD η (by simp[aW]) λT V D=>?_;simp -dsimp -implicitDefEqProofs (disch:=first|omega|assumption|(simp only[aX,Nat.reduceAdd];try omega)) only[go_sem,simprocAttr,aY,aZ];refine dW (g:=[]) D (by simp[aW]) z acs acs λE F G=>?_;simp -dsimp -implicitDefEqProofs (disch:=first|omega|assumption|(simp only[aX,Nat.reduceAdd];try omega)) only[go_sem,simprocAttr,aY,aZ,a8y];exact⟨F,η,G.sub,E,rfl⟩
def Iy(c:U)(k r:Nat)(x:List aK)(a:List Υ)(o:∀d∈a,α d=32)(y z:Int)(C:lj c k r x a y z)(b:Int)(P: -1000<=b)(S:b<=1000)(T:α a<=1000000):
  AC γ 16 [.ptr k 0,.v (.int .i64 b)] c λD E=>c.sub E/\∃p,D=.J ((a.take (max b 0).toNat).map bo) p:=by
 obtain⟨V,p,W,h,e⟩:=C.cx;have f:=ι h;have F:(a.map bo).length=α a:=a8o _;have g:=Ix o;have i:(min (max b 0) (α a:Int)).toNat=min (max b 0).toNat (α a):=acq;have j:(a.map bo).take (min (max b 0).toNat (α a))=(a.take (max b 0).toNat).map bo:=by rw[ab8,<-F,<-List.take_eq_take_min]
 have G:=λc=>a6Q (a.take (max b 0).toNat) (λd h=>o d (a8v h)) .any c (by rw[a8l];omega);refine aL hm M3 ?_;refine ag (G _) ?_;rintro _ l⟨m,L,rfl⟩;refine aa ?_;exact⟨L,rfl⟩
def a6R(c:U)(x d y:Nat)(z:ai)(a:List aK)(h:List Υ)(p k:Int)(E:lj c x d a h p k)(G:bs c d y z)(L:c8 a=ζ)(P:∀p∈a,p.In):
  AC γ 14 [.ptr x 0] c λF b=>c.sub b/\if k=0/\h=[]then∃o,F=.aJ [.ptr o 0,.v (.bool ζ)]/\c o=ε/\dg b o d y z a else F=.aJ [.v (.pointer ε),.v (.bool θ)]:=by
 have C:=λb D=>Bo b x d a h p k (E.sub D);obtain⟨S,T,l,V,W⟩:=E.cx;have m:=ι V;have e:=λb D=>a6t b d y z (G.mono D) a S T W L P;by_cases r:k=0/\h=[]
 .simp only[if_pos r];obtain⟨rfl,rfl⟩:=r;refine aL hm Cz ?_;refine bh (C _ η) ?_;refine ag (e _ η) ?_;rintro _ n⟨f,o,rfl,g,i⟩;refine aa ?_;exact⟨_,η,f,o,rfl,g,i⟩
 .simp only[if_neg r];have j:(decide (k=0)&&decide (h=[]))=false:=by simpa using r
  rw[j]at C;refine aL hm Cz ?_;refine bh (C _ η) ?_;trivial
def Iz(c d h k:Nat)(o p:U):Prop:=∀a b,a≠c->a≠d->a≠h->a≠k->o a=β b->p a=β b
def a6S(o:List df)(t:Own)(L:U)(d h k p:Nat)(r:ai)(y:List aK)(z:List ba)(C:Nat)(a:ma L d h k p r y z C)(Y:C<=100)(u:∀f∈o,f.d.oq/\dm f.d.row)(Z:α o<=9223372036854775807):
  AC γ 9 [.ptr d 0,.ptr p 0,.J (lZ o) t] L λv D=>∃g w A i,i<=C+30/\ma D d h k p g w A i/\Iz d h k p L D/\v=.v (.bool (!g.one)):=by
 have k3:=Bf (a:=o);refine aL hm LQ ?_;refine cd [0,1,2] (λb:Nat×ai×List aK×List ba=>[(7,.v (.int .i64 (b.1)))]) (λb D=>b.1<=30/\b.1<=α o/\ma D d h k p b.2.1 b.2.2.1 b.2.2.2 (C+b.1)/\Iz d h k p L D) (λb=>30 - b.1) (0,r,y,z) ⟨⟨acr,a8M _,a,λ_ _ _ _ _ _ x=>x⟩,aR⟩ ?_;rintro⟨E,r,y,z⟩ V ⟨B,H,a,W⟩ k4
 dsimp only at B H a W|-
 refine aa ?_;refine aG (λI=>?_) λI=>?_;refine aG (λaP=>?_) λaP=>?_
 .have j:E<α o:=acq;have l:=Μ j;have k5:=I5 l;obtain⟨m,n⟩:=u _ (a8r l);generalize o[E]=c at*;have K:=Hv V d h k r y a.st (ue a.cat) a.cat c m.fit;have M:=λP x=>a6f P p (C+E) z x a.inv acq c m.fit n;have k6:α c.C=4:=rfl;have k7:(.agg (c.C.take 4))=c.V:=rfl;have k8:aQ ζ 4 c.C=c.V:=rfl;generalize c.C=k9 at*;generalize c.V=l0 at*;refine aa ?_;refine ag K ?_;rintro _ P⟨res,N,rfl,O,e⟩;refine aa ?_;refine ag (M P (a.rs.pA (e.rs a.st))) ?_;rintro _ l1⟨Q,q,rfl⟩;obtain⟨X,l2,l3⟩:=a.step acq n N O e Q q;refine aa ?_;exact⟨(E+1,res.2.2,res.2.1,(hJ z c.d).2),⟨by simp only;omega,j,X,λF G S T a3 a4 x=>q F G a4 (e F G S T a3 (W F G S T a3 a4 x))⟩,rfl,by simp only;omega⟩
 all_goals
  refine bh (a4Y V d h k r y a.st) ?_;refine ag (a0r V h k r a.st.hg) ?_;rintro _ P⟨s,l4,l5,rfl⟩;refine aa ?_;exact⟨_,η,r,y,z,C+E,acq,a.sub s,λF G S T a3 a4 x=>s _ _ (W F G S T a3 a4 x),rfl⟩
def a6T:gb (cA [gE.bG])≠δ 32 0:=by unfold gb;decide+kernel
def a6U:gE.bq=.node [1,5] ζ .nil .nil:=by rfl
def a6V:gE.bu=β ⟨0,a6.leaf [[1,5]]⟩:=by rfl
def a6W:hP [] [gE.bG]=[eb lg,eb ot]:=by
 have b:gE.bG.bq=bn (.node [1,5] ζ .nil .nil):=by show bn gE.bq= _;rw[a6U]
 have c:gE.bG.bu=bQ 0 (a6.leaf [[1,5]]):=by show hI gE.bu= _;rw[a6V];rfl
 have d:bn (.node [1,5] ζ .nil .nil)=dF (cg ([1,5],ζ) aw aw):=by rw[bn,bn]
 have h:bQ 0 (a6.leaf [[1,5]])=dF (dO [[1,5]]):=by rw[bQ];rfl
 have k:(dF (cg ([1,5],ζ) aw aw)).sum=eb lg:=by rw[dF,lg]
 have o:(dF (dO [[1,5]])).sum=eb ot:=by rw[dF,ot]
 have p:dF (cg ([1,5],ζ) aw aw)≠aw:=λa=>by
  have:=congrArg au.size a;rw[dF]at this;revert this;decide
 have r:dF (dO [[1,5]])≠aw:=λa=>by
  have:=congrArg au.size a;rw[dF]at this;revert this;decide
 simp only[hP,a9e,aas,jP,b,c,d,h,if_neg p,if_neg r,k,o,eK,a9n,if_false,a8y,a8B];rw[if_neg (Δ Ig)];rfl
def Bp(a:List aK)(y:c8 a=ζ)(z:∀C∈a,C.In)(D:(cA a).length<=900000)(p:Own)(b:U)(c r:Nat)(d:ai)(E:bs b c r d)(F:mY d a=0):
  AC γ 10 [bo (gb (cA a)),.J ((cA a).map ah) p,.ptr c 0] b λx k=>b.sub k/\∃o,x=.aJ [.ptr o 0,.v (.int .i64 0)]/\b o=ε/\lj k o c a (qM d a) 0 0:=
 (wS (gb (cA a)) (cA a) (iL _) p D b c r d E).mono λx k ⟨G,h⟩=>⟨G,by
  rw[Bm y z]at h
  dsimp only at h
  rw[if_pos rfl,if_pos F]at h;exact h⟩
def wT(a:∀b∈b4,α b.aE<=7):mY Λ b4=0/\qM Λ b4=hP [] b4:=by unfold qM mY;rw[Iq b4 [] a];exact⟨rfl,rfl⟩
def a6X(D:U):AC γ 6 [] D λm l9=>m=.v (.bool ζ):=by
 have p:=Ie Ii acq;have n:(cA ([gE].map Η)).length<=9000:=by have:=wy p;rw[cA,a8m];simp at*;omega
 refine aL hm LK ?_;refine ag (Hk D) ?_;rintro _ q⟨a,b,c,rfl,-,-,-,-,k⟩;refine aa ?_;refine ag (si q a b c _ _ k ui acv) ?_;rintro _ s⟨E,rfl⟩;refine aa ?_;refine ag (sg s a b c _ _ (k.sub E) ui) ?_;rintro _ t⟨u,v,rfl⟩;refine aa ?_;refine ag (qe t) ?_;rintro _ w⟨F,A,n0,n1,rfl,G,B⟩;refine aa ?_;refine ag (Bp [] ui (λ_ d=>by cases d) acv v w F A Λ G rfl) ?_;rintro _ H⟨I,K,rfl,n2,r⟩;rw[show qM Λ []=[]from rfl]at r;have L:=Bo H K F [] _ 0 0 r;refine aa ?_;refine bh L ?_;have M:=k.sub (ο E (ο u (ο B I)));clear G r L k;refine dD η (by simp[aW,ρ]) λP n3 S=>?_;refine aa ?_;refine ag (Ij (M.sub S.sub) ui ⟨sj,P,.nil⟩ a6A (a6D P) λres d=>B0 d) ?_;rintro _ n4⟨rfl,T,V⟩;refine aa ?_;refine dD η (by simp[aW,ρ]) λW n5 e=>?_;refine aa ?_;refine ag (Ij (T.sub e.sub) a6C ⟨ks,.nil,W⟩ a6B (a6E W) λres d=>B1 d V) ?_;rintro _ N⟨rfl,x,n9⟩;clear S e T V;refine aa ?_;refine ag (si N a b c _ _ x uj (a8W n acv)) ?_;rintro _ O⟨f,rfl⟩;refine aa ?_;refine ag (sg O a b c _ _ (x.sub f) uj) ?_;rintro _ Q⟨X,Y,rfl⟩;refine aa ?_;refine ag (qe Q) ?_;rintro _ eW⟨o,Z,a00,a01,rfl,k3,k4⟩;have g:=wT (b4:=[gE].map Η) acv;refine aa ?_;refine ag (Bp _ uj p acq Y eW o Z Λ k3 g.1) ?_;rintro _ k5⟨k6,y,rfl,a02,i⟩;have k7:=x.sub (ο f (ο X (ο k4 k6)));rw[g.2,show [gE].map Η=[gE.bG]from rfl,a6W]at i;refine aa ?_;refine ag (sg k5 a b c _ _ k7 uj) ?_;rintro _ k8⟨k9,l0,rfl⟩;refine aa ?_;refine ag (qe k8) ?_;rintro _ l1⟨l2,l3,a03,a04,rfl,l4,l5⟩;have h:=wS (δ 32 0) (cA ([gE].map Η)) acr l0 acq l1 l2 l3 Λ l4;rw[Bm uj p]at h
 dsimp only at h
 simp only[if_neg (show gb (cA ([gE].map Η))≠δ 32 0 from a6T)]at h;rw[show bo (δ 32 0)=.agg (δ 32 (.v (.int .u8 0))) by unfold bo;rw[abu];rfl]at h;refine aa ?_;refine ag h ?_;rintro _ z⟨l6,rfl⟩;have C:=i.sub (ο k9 (ο l5 l6));have l7:=Bo z y o _ _ 0 0 C;have l8:=a6P z y o _ _ 0 0 C;have j:=Iy z y o _ _ (by
  intro a05 l;simp only[a8E,a9n,or_false]at l;rcases l with rfl|rfl<;>exact iL _) 0 0 C 1 acq acq acr
 rw[show [eb lg,eb ot].take (max (1:Int) 0).toNat=[eb lg]from rfl]at j;refine aa ?_;refine bh l7 ?_;refine bh l8 ?_;refine ag j ?_;rintro _ a06⟨a07,a08,rfl⟩;refine aa ?_;exact⟨_,η⟩
def a6Y(a:U):AC γ 6 [] a λd h=>a.sub h/\d=.v (.bool ζ):=by have k:=(a6X U.emp).frame (t:=a) (λb=>.inl rfl);have c:U.emp.join a=a:=funext λb=>rfl;rw[c]at k;exact k.mono λd h ⟨x,p,r,c⟩=>⟨by rw[c];exact λb y o=>by rw[U.oy ((r b).resolve_right (by simp[o]))];exact o,p⟩
def a6Z(h:∀a∈a8,eN e a/\e<=1000)(c:∀d∈h5,α d=32):∀d∈hM a8 h5,α d=32:=
 Bc a8 h5 (λa k h5 c=>by
  obtain⟨b,o⟩:=h a k;have p:=b.c;have r:=b.dw.ch;exact I9 (e:=α a.aE+1) acq acq a.bu _ b.go (ud (c:=α a.aE+1) acq acq a.bq h5 b.dw.fq acq c)) c
def a7a(a b:UInt8):br .xor (.int .u8 (a.toNat:Int)) (.int .u8 (b.toNat:Int))=β (.int .u8 ((a^^^b).toNat:Int)):=by
 have h:br .xor (.int .u8 (a.toNat:Int)) (.int .u8 (b.toNat:Int))=β (.int .u8 (IntKind.u8.wrap (π 8 (a.toNat)^^^π 8 (b.toNat)).toNat)):=rfl;rw[h,sR];have:=a.toNat_lt;have:=b.toNat_lt;have d:∀c:Nat,π 8 (c:Int)=BitVec.ofNat 8 c:=λc=>by simp
 rw[d,d,abc,ab1,ab1,UInt8.toNat_xor,a9K (by omega:a.toNat<2^8),a9K (by omega:b.toNat<2^8)];have:=aaw (n:=8) (by omega:a.toNat<2^8) (by omega:b.toNat<2^8);congr 2;omega
def a7b(a:U)(d o p:Nat)(r:ai)(b:List aK)(x:dg a d o p r b)(c:c8 b=ζ):
  AC γ 12 [.ptr d 0] a λy z=>av a z 1 ((cA b).map ah) y:=by
 obtain⟨C,D,E,F⟩:=x.x;have G:=ι E;have L:=(hG c).2;have h:=Hh b C D F (ue c) acq a;simp only[c,if_true]at h;refine aL hm Cy ?_;refine ag h ?_;rintro _ P⟨S,T,k,rfl⟩;have V:=fv k;refine aa ?_;exact⟨_,η,k⟩
variable{g B e1:Ψ}
def a7c(b:g.take i=w.map ah)(c:e<i)(o:α w=i):aQ θ 1 (g.drop e)=.v (.int .u8 ((w.getD e 0).toNat:Int)):=by
 have a:(g.take i)[e]?=(w.map ah)[e]? :=by rw[b]
 rw[a9j c,a8H,Μ (by omega:e<α w)]at a;have d:=a8p.1 a;obtain⟨h,k⟩:=d;rw[a8G h,k,a9c,Μ (by omega:e<α w)];rfl
def a7d{a:UInt8}(b:g.take i=w.map ah)(c:e<α g):(putAt g e [.v (.int .u8 (a.toNat:Int))]).take i=(w.set e a).map ah:=by
 have d:putAt g e [.v (.int .u8 (a.toNat:Int))]=g.set e (ah a):=by rw[a9t,if_pos c];simp[putAt,ah]
 rw[d,List.take_set,b,aco]
def a7e{k:Fr}{c:U}{b:Υ}{o:Own}{y:Nat}{h:Υ}(d:α h=32)(i:α b<=2000)(j:k 2=.J (b.map ah) o)(l:k 6=.ptr y 0)(p:c y=β (.cells (h.map ah))):
  bW (Ctx.of γ) (sk 13 rb.code) (oN [(10,ε)] λz _=>z=.v (.bool ζ)) k c:=by
 simp only[rb,sk];obtain⟨m,n,q,s⟩:=wR d;have F:(gb b).length=32:=iL _;have t:=λr=>q7 (I:=θ) (a:=r) F d;have u:=ι p;have G:=λc=>u0 b o c acq;refine aa ?_;refine ag (qe c) ?_;rintro _ L⟨P,S,v,w,rfl,T,C⟩;have D:=wS h b d o acq L P S Λ T;have A:=ι (C _ _ p);refine aa ?_;refine ag D ?_;rintro z B⟨V,a⟩;have H:=ι (V _ _ (C _ _ p));clear D;cases x:lh b with
 |none=>rw[x]at a;obtain rfl:=a;refine aa ?_;exact⟨_,η⟩
 |some W=>
  rw[x]at a
  dsimp only at a
  have e:=wT (b4:=W) λf g=>((hG (Bn x)).1 f g).c;by_cases E:gb b=h
  .rw[if_pos E,if_pos e.1]at a;obtain⟨I,rfl,-,-⟩:=a;have K:=λr=>q7 (I:=θ) (a:=r) d d;refine aa ?_;refine bh (G _) ?_;exact⟨_,η⟩
  .rw[if_neg E]at a;obtain rfl:=a;refine aa ?_;exact⟨_,η⟩
variable{j:Fr}{M e7 j0:Own}
def a7f{k:UInt8}(k8:α j8=32)(k9:α w<=2000)(o:j 2=.J (w.map ah) M)(a10:j 3=.v (.int .i64 b3))(a11:j 4=.v (.int .u8 (k.toNat:Int)))(p:j 6=.ptr O 0)(a13:j 11=.ptr e 0)
  (n:f O=β (.cells (j8.map ah))) (C:dg f e i v H b4) (x:c8 b4=ζ) (l0:∀l1∈b4,l1.In):
  bW (Ctx.of γ) (sk 11 rb.code) (oN [(10,ε)] λq _=>q=.v (.bool ζ)) j f:=by
 have h:=λj f l2 w l3=>@a7e j f _ M O j8 k8 k9 l2 w l3;generalize D:sk 13 rb.code=a14 at h;simp only[rb,sk]at D|-;rw[D];clear D;refine aa ?_;refine ag (a7b f e i v H b4 C x) ?_;rintro _ E F;obtain⟨b,y,G,L,rfl,s,t,l4,P,u,a15,a16⟩:=F.aq (by simp[cA]);rw[a8Y]at l4 P u;rw[a8o]at u;have S:=F.1 _ _ n;have a18:=@jj 1 b y G .i64 b3;have a19:=τ t;have a27:=ι t;refine aa ?_;refine aG (λl5=>?_) λl5=>?_;rotate_left
 .exact h _ _ o p S
 refine aG (λc2=>?_) λc2=>?_;rotate_left
 .exact h _ _ o p S
 refine aG (λaD=>?_) λaD=>?_;rotate_left
 .exact h _ _ o p S
 obtain⟨a,rfl⟩:∃a:Nat,b3=(a:Int):=⟨b3.toNat,acq⟩;have l6:a<y:=acq;have a29:=a7c P l6 acq;have a30:=a7a ((cA b4).getD a 0) k;have A:=a7d (e:=a) (a:=(cA b4).getD a 0^^^k) P acq;have a34:(putAt L a [.v (.int .u8 ((((cA b4).getD a 0)^^^k).toNat:Int))]).length=α L:=eF _ _ _ acs;have a36:(a:Int).toNat=a:=acq;refine aa ?_;generalize putAt L a [R.v (.int .u8 ((((cA b4).getD a 0)^^^k).toNat:Int))]=c at*;generalize B:(cA b4).set a ((cA b4).getD a 0^^^k)=aO at*;have a38:α aO=(cA b4).length:=by rw[<-B,aaI]
 clear B;have I:f.sub (E.set b (.cells c)):=κ F.1 s;have l7:=μ E b (.cells c);generalize E.set b (.cells c)=l8 at*;have a42:=hG x;have a43:=wy l0;have a47:(cA b4).length<=9000:=by rw[cA,a8m];omega
 refine ag (si l8 e i v H b4 (C.sub I) x acq) ?_;rintro _ l9⟨K,rfl⟩;have n0:=ο I K;have V:=K _ _ l7;refine aa ?_;refine ag (qe l9) ?_;rintro _ r⟨W,g,N,Q,rfl,n1,X⟩;have n2:=ο n0 X;have n3:=X _ _ V;have n4:W≠b:=by rintro rfl;rw[V]at N;cases N
 have n5:g≠b:=by rintro rfl;rw[V]at Q;cases Q
 have Y:=View.aq (n:=y) (cap:=G) (k:=1) n3 acq;rw[jX,A]at Y;have n9:bs (r.set b (.ro c)) W g ai.new:=n1.other (ξ _ _ n4) (ξ _ _ n5);have a00:=AC.lL (m:=γ) (g:=[bo (gb (cA b4))]) Y (wS (gb (cA b4)) aO (iL _) .any acq (r.set b (.ro c)) W g Λ n9);have a01:f.sub (r.set b (.ro c)):=κ n2 s;have a02:=μ r b (.ro c);generalize r.set b (.ro c)=a48 at*;refine aa ?_;refine ag a00 ?_;rintro q Z⟨k3,d⟩;have k4:=ο a01 k3;have a03:=k3 _ _ a02;have l:=k4 _ _ n;cases m:lh aO with
 |none=>rw[m]at d;obtain rfl:=d;refine aa ?_;exact h _ _ o p l
 |some a04=>
  rw[m]at d
  dsimp only at d
  by_cases z:gb aO=gb (cA b4)
  .have a05:=wT (b4:=a04) λa06 a07=>((hG (Bn m)).1 a06 a07).c;rw[if_pos z,if_pos a05.1]at d;obtain⟨T,rfl,-,-⟩:=d;have k5:=View.H2 (e:=y) (e0:=G) (i:=1) a03 acq;rw[jX,A]at k5;have k6:=AC.lL (m:=γ) (g:=[]) k5 (u0 aO .any Z acq);rw[z]at k6;have k7:(gb (cA b4)).length=32:=iL _;have a52:=λa08=>q7 (I:=ζ) (a:=a08) k7 k7;clear z;refine aa ?_;refine bh k6 ?_;refine ag (si Z e i v H b4 (C.sub k4) x acq) ?_;rintro _ a56⟨a09,rfl⟩;refine aa ?_;exact h _ _ o p (a09 _ _ l)
  .rw[if_neg z]at d;obtain rfl:=d;refine aa ?_;exact h _ _ o p l
def a7g(E:List df)(u:Own)(v:Υ)(d:Υ)(a01:Own)(a02:Int)(a03:UInt8)(X:α E<=9223372036854775807)(a04:∀g∈E,dm g.d.row)(Y:α v=32)(w:U):
  AC γ 3 [.J (lZ E) u,bo v,.J (d.map ah) a01,.v (.int .i64 a02),.v (.int .u8 (a03.toNat:Int))] w λZ _=>Z=.v (.bool ζ):=by
 have a96:=Bf (a:=E);have a97:(d.map ah).length=α d:=a8o _;obtain⟨a98,a99,b00,a05⟩:=wR Y;refine aL hm LI ?_;generalize a06:dV.seq (dV.plain (aA 99 11:: _)) _=b01;refine bp λF b02=>?_;have bx:=μ w F (.cells (bo v).cells);rw[a05]at bx;generalize a07:w.set F _=a08 at*;clear a07;refine ag (a6Y a08) ?_;rintro _ A⟨a09,rfl⟩;have bx:=a09 _ _ bx;refine aa ?_;refine ag (a6v E u A X) ?_;rintro _ A⟨rfl,a10,rfl,p⟩;cases a10 with
 |true=>refine aa ?_;exact⟨_,η⟩
 |false=>
  obtain⟨b03,k3⟩:=p rfl;clear p;refine aa ?_;refine aG (λa11=>?_) λa11=>?_
  .exact⟨_,η⟩
  refine ag (Hk A) ?_;rintro _ k4⟨r,x,y,rfl,a13,k5,k6,k7,k8⟩;have k9:=a13 _ _ bx;refine aa ?_;refine aN λW B=>?_;have l0:=κ (Z:=.cells [.J [] .nil]) (η (f:=k4)) B;have l1:ma (k4.set W (.cells [.J [] .nil])) r x y W Λ [] [] 0:=⟨k8.sub l0,ui,⟨[],.nil,μ _ _ _,trivial⟩,dK.nil,λ_=>⟨rfl,λi a=>by cases a⟩⟩;have a14:=l0 _ _ k9;have a15:F≠W:=by rintro rfl;rw[k9]at B;cases B
  have a16:F≠r:=by rintro rfl;rw[bx]at k5;cases k5
  have a18:F≠x:=by rintro rfl;rw[bx]at k6;cases k6
  have a19:F≠y:=by rintro rfl;rw[bx]at k7;cases k7
  refine aa ?_;refine ag (a6S E u _ r x y W Λ [] [] 0 l1 acq (λg l2=>⟨k3 g l2,a04 g l2⟩) X) ?_;rintro _ a27⟨a29,b04,b,a30,b05,P,l3,rfl⟩;have a34:=l3 _ _ a16 a18 a19 a15 a14;cases a36:a29.one with
  |true=>refine aa ?_;exact⟨_,η⟩
  |false=>
  have H:=P.rep a36;have k:=P.inv;have h:=k.cat acq;have z:=Ie k acq;have l4:=hG h;have b06:=wy z;have b07:(cA (b.map Η)).length<=9000:=by have:=l4.2;rw[cA,a8m];omega
  have G:=P.st;rw[H.eq]at G;have a38:=P.rs;have b08:=H.ins;clear H P l1 l3 k3 k8;have a42:=Bm h z;have l5:=wT (b4:=b.map Η) (λd p=>(l4.1 d p).c);refine aa ?_;refine ag (si a27 r x y _ _ G h acq) ?_;rintro _ a43⟨l6,rfl⟩;refine aa ?_;refine ag (sg a43 r x y _ _ (G.sub l6) h) ?_;rintro _ a47⟨a48,a52,rfl⟩;have l7:=a6O (gb (cA (b.map Η))) (cA (b.map Η)) (iL _) a52 acq a47;rw[a42,if_pos ⟨rfl,rfl⟩]at l7;refine aa ?_;refine ag l7 ?_;rintro _ a56⟨a57,rfl⟩;have l8:=ο l6 (ο a48 a57);refine aa ?_;refine ag (si a56 r x y _ _ (G.sub l8) h acq) ?_;rintro _ a61⟨a62,rfl⟩;have l9:=ο l8 a62;refine aa ?_;refine ag (sg a61 r x y _ _ (G.sub l9) h) ?_;rintro _ a63⟨a65,a68,rfl⟩;have a69:=ο l9 a65;refine aa ?_;refine ag (qe a63) ?_;rintro _ a71⟨I,n0,b09,b10,rfl,n1,a73⟩;refine aa ?_;refine ag (Bp _ h z acq a68 a71 I n0 Λ n1 l5.1) ?_;rintro _ a74⟨n2,T,rfl,b11,j⟩;rw[l5.2]at j;have a81:=ο a69 (ο a73 n2);obtain⟨a83,a84⟩:=Iu (l:=b.map Η) (t:=[]) (λ_ a=>by cases a) λd p=>⟨(z d p).k.sum,(z d p).z.sum⟩;have l:=a6M (e:=a30) acq (ds:=b) k.ok;have n3:=a6R a74 T I n0 Λ _ _ 0 0 j (n1.mono n2) h z;have L:=λo a a86 K d=>Iy o T I _ _ a83 0 0 (j.sub a) a86 K d (by rw[a8s,a8o]at a84;have:=k.dQ;omega);have n4:=λi M=>a6F (k.ok i M) acq;have n5:(b.map qK).sum<=1000000000:=by have:=Bj (d:=qK) (h:=2000000) b λa88 a89=>(n4 a88 a89).1;have:=k.dQ;omega
  have n9:=a6Z (λi M=>⟨k.ok i M,acq⟩) (h5:=[]) λ_ a=>by cases a
  have m:=λo a=>a6q o o W b (a38.sub a) k acq [] (.J [] .nil) (av.nil η) (λ_ a=>by cases a) (by simpa using n5);have b12:True:=trivial;refine aa ?_;refine ag n3 ?_;rintro Z a00⟨S,n⟩;have q:=ο a81 S;clear n3 n4 n5 j;by_cases s:hP [] (b.map Η)=[];rw[if_pos ⟨rfl,s⟩]at n;obtain⟨b13,rfl,-,-⟩:=n;have t:=l.2 s;refine aa ?_;refine ag (m a00 q) ?_;rintro K eW c;have V:=bS.dA c acq rfl (wb n9);have e:=V.len;rw[a8o,t]at e;have C:=L eW (ο S c.1) 0 acq acq;have D:=λo a=>L o a (-1) acq acq;rw[show(hP [] (b.map Η)).take (max (0:Int) 0).toNat=[]from rfl,a9z]at C;rw[show(hP [] (b.map Η)).take (max (-1:Int) 0).toNat=[]from rfl,a9z]at D;refine aa ?_;refine ag C ?_;rintro _ N⟨f,a90,rfl⟩;refine aa ?_;refine ag (D N (ο S (ο c.1 f))) ?_;rintro _ a92⟨O,a94,rfl⟩;have Q:=ο q (ο c.1 (ο f O));refine aa ?_;clear C D V e c L m l t;rotate_left;rw[if_neg (λa=>s a.2)]at n;obtain rfl:=n;have t:0<(hM b []).length:=a9h.2 λa=>s (l.1 a);refine aa ?_;refine ag (m a00 q) ?_;rintro K eW c;have V:=bS.dA c acq rfl (wb n9);have e:=V.len;rw[a8o]at e;have a95:¬((hM b []).length:Int)=0:=acq;generalize hM b []=b14 at*;have C:=L eW (ο S c.1) 0 acq acq;have D:=λo a=>L o a (-1) acq acq;rw[show(hP [] (b.map Η)).take (max (0:Int) 0).toNat=[]from rfl,a9z]at C;rw[show(hP [] (b.map Η)).take (max (-1:Int) 0).toNat=[]from rfl,a9z]at D;refine aa ?_;refine ag C ?_;rintro _ N⟨f,a90,rfl⟩;refine aa ?_;refine ag (D N (ο S (ο c.1 f))) ?_;rintro _ a92⟨O,a94,rfl⟩;have Q:=ο q (ο c.1 (ο f O));refine aa ?_;clear C D V e c L m l t a95
  all_goals
   subst a06;exact a7f Y acq rfl rfl rfl rfl rfl (Q _ _ a34) (G.sub Q) h z
end Go.Proofs.YtkafjfkjahgihaaGreat
namespace Go.bD
open Go Go.ChangeShapes Go.WideShapes Go.RowKit
def lk(a:World):bk:=λb c=>a.cell? ⟨b,c,ε⟩
def a7h(b:World):Holds (lk b) U.emp b:=⟨λ_ _ _ a=>a,λ_ _ a=>by cases a⟩
def fr(k:bk)(a:List Value)(b:Ψ):Prop:=α a=α b/\∀(c:Nat)(d:Value)(h:R),a[c]?=β d->b[c]?=β h->bb k d h
variable{u:bk}
theorem fr.nil:fr u [] []:=⟨rfl,λb c d a=>by simp at a⟩
variable{g B e1:Ψ}
def fr.append{h k:List Value}(c:fr u h g)(o:fr u k B):fr u (h++k) (g++B):=by
 refine⟨by simp[c.1,o.1],λx p r b a=>?_⟩;rw[abo]at b a;rw[<-c.1]at a;split at b
 .rename_i d;rw[if_pos d]at a;exact c.2 x p r b a
 .rename_i d;rw[if_neg d]at a;exact o.2 _ p r b a
variable{n b6:R}{e6:Value}
theorem fr.one(a:bb u e6 n):fr u [e6] [n]:=⟨rfl,λb c d h k=>by
 grind⟩
def fr.Bq{a:Array Value}(b:fr u a.toList g):bw u a g:=bw.ed.2 b
def ct(h:Program)(k:TypeId)(o:Ψ->Prop):Prop:=
 ∀ {b:Type} (p:TypeId×Value->b) (c:World) (r:Nat) (x:Nat->Bool) (y:Bool) (z:Nat) (d:List Value) (C:DataW b×List MemPlace),DataW.trod p h c r x y z k d=β C->
  ∃a,o a/\(∀D∈a,D.one=ζ)/\fr (lk c) d a
def a8e(a:Ψ):Prop:=∃b:Bool,a=[.v (.bool b)]
def SInt(a:IntKind)(c:Ψ):Prop:=∃b:Int,(Lit.int a b).wf=ζ/\c=[.v (.int a b)]
def mZ(a:Ψ):Prop:=∃b:UInt8,a=[ah b]
def sm(a:Ψ):Prop:=∃aO:Υ,α aO<=maxLen/\a=[bc aO]
def wU:List (Ψ->Prop)->Ψ->Prop
 |[],us=>us=[]
 |c::d,us=>∃a b,c a/\wU d b/\us=a++b
def uk(a:Ψ->Prop):Nat->Ψ->Prop
 |0,us=>us=[]
 |d+1,us=>∃b c,a b/\uk a d c/\us=b++c
def um(b:Ψ->R)(c:Ψ->Prop)(d:Ψ):Prop:=∃a:List Ψ,(∀h∈a,c h)/\α a<=maxLen/\d=[.J (a.map b) .any]
variable{e2:IntKind}{m:Program}{b0:TypeId}
def ct.int(a:m.underlying b0=β (.int e2)):ct m b0 (SInt e2):=λh k o p r x y z b=>by
 obtain⟨c,rfl,_,d⟩:=DataW.trod_int a b;exact⟨_,⟨c,d,rfl⟩,by simp[R.one],fr.one (.v _ rfl)⟩
def ct.byte(b:m.underlying b0=β (.int .u8)):ct m b0 mZ:=λk o p r x y z C c=>by
 obtain⟨a,rfl,_,d⟩:=DataW.trod_int b c;obtain⟨D,E⟩:=bounds_u8 d;have h:(Value.int .u8 a)=.int .u8 ((ν a.toNat).toNat):=by congr 1;rw[a9k];omega
 refine⟨_,⟨ν a.toNat,rfl⟩,by simp[ah,R.one],fr.one ?_⟩;rw[ah,<-h];exact .v _ rfl
def ct.str(b:m.underlying b0=β .string):ct m b0 sm:=λh k o p r x y z c=>by
 obtain⟨a,rfl,_,C⟩:=DataW.trod_string b c;refine⟨_,⟨a.data.toList,by trivial,rfl⟩,by simp[bc,R.one],fr.one ?_⟩;have d:(⟨a.data.toList.toArray⟩)=a:=by cases a;simp
 rw[bc,d];exact .v _ rfl
variable{e i v O e0 j6:Nat}
theorem ct.array{h:TypeId}{k:Ψ->Prop}(D:m.underlying h=β (.array i b0))(E:m.cellsOf b0=e)(F:m.cellsOf h=i*e)(G:ct m b0 k):ct m h (uk k i):=λL o P S T t d u V=>by
 obtain⟨W,f,_,_,p,v,r⟩:=DataW.trod_array D V;rw[E]at r;rw[F]at p;have g:∀(c a:Nat),c+a=i->∃b,uk k c b/\(∀j∈b,j.one=ζ)/\fr (lk o) (d.drop (a*e)) b:=by
  intro c
  induction c with
  |zero=>intro a x;exact⟨[],rfl,acr,by rw[a9E (by rw[p,<-x];simp)];exact fr.nil⟩
  |succ c ih=>
   intro a x;obtain⟨b,y,l,z⟩:=ih (a+1) acq;have n:a<i:=acq;have:=r a n;have q:a<α W:=acq;rw[Μ q]at this;obtain⟨C,s,w,a3⟩:=G L o P S T f _ _ this;refine⟨C++b,⟨C,b,s,y,rfl⟩,?_,?_⟩;grind
   .have b0:d.drop (a*e)=(d.drop (a*e)).take e++d.drop ((a+1)*e):=by rw[show(a+1)*e=a*e+e by grind,<-a8T,a8K]
    rw[b0];exact a3.append z
 obtain⟨b,y,l,z⟩:=g i 0 acq;grind
def Br(a:Program):List Field->List (Ψ->Prop)->Nat->Nat->Prop
 |[],[],off,b=>off=b
 |c::d,h::rs,off,b=>c.offset=off/\ct a c.type h/\Br a d rs (off+a.cellsOf c.type) b
 |_,_,_,_=>False
theorem ct.struct{b:Array Field}{r:List (Ψ->Prop)}(F:m.underlying b0=β (.struct b))(G:Br m b.toList r 0 (m.cellsOf b0)):ct m b0 (wU r):=λL y P S T B p H V=>by
 obtain⟨W,e,_,_,f,g,i⟩:=DataW.trod_struct F V;have j:∀(k:List Field)(c:List (Ψ->Prop))(a d:Nat),b.toList.drop a=k->Br m k c d (m.cellsOf b0)->∃h,wU c h/\(∀l∈h,l.one=ζ)/\fr (lk y) (p.drop d) h:=by
  intro k
  induction k with
  |nil=>
   intro c a d n x;cases c with
   |cons _ _=>trivial
   |nil=>exact⟨[],rfl,acr,by rw[a9E (by rw[f];exact aci x.symm)];exact fr.nil⟩
  |cons o k ih=>
   intro c a d n x;cases c with
   |nil=>trivial
   |cons I c=>
    obtain⟨z,C,D⟩:=x;have K:a<α b.toList:=by grind[List.drop_of_length_le]
    have q:b.toList[a]=o/\b.toList.drop (a+1)=k:=by grind[Θ,List.cons.inj]
    obtain⟨h,s,M,t⟩:=ih c (a+1) _ q.2 D;have u:b[a]?=β o:=by grind
    have:=i a o u;have v:a<α W:=by rw[g];trivial
    rw[Μ v,z]at this;obtain⟨E,w,N,a3⟩:=C L y P S T e _ _ this;refine⟨E++h,⟨E,h,w,s,rfl⟩,?_,?_⟩;grind
    .have A:p.drop d=(p.drop d).take (m.cellsOf o.type)++p.drop (d+m.cellsOf o.type):=by rw[<-a8T,a8K]
     rw[A];exact a3.append t
 obtain⟨h,z,C,D⟩:=j b.toList r 0 0 rfl G;grind
theorem IA{h o:Type}(c:h->Option o):∀(a:List h)(d:List o),a.mapM c=β d->α d=α a/\∀(p:Nat)(r:h),a[p]?=β r->∃x,d[p]?=β x/\c r=β x
 |[],d,b=>by simp_all
 |z::a,d,b=>by
  rw[List.mapM_cons]at b;cases y:c z with
  |none=>simp[y]at b
  |some D=>
   cases k:a.mapM c with
   |none=>simp[k]at b
   |some C=>simp[y,k]at b;subst b;obtain⟨E,F⟩:=IA c a C k;grind
variable{l j3:World}
def IB{d:Addr}{c:List Value}(b:l.cells? i d e=β c):α c=e/\∀a,a<e->c[a]?=l.cell? (d.add a):=by
 unfold World.cells? at b;split at b
 .obtain⟨h,k⟩:=IA _ _ _ b;refine⟨by simpa using h,λa o=>?_⟩;obtain⟨x,p,r⟩:=k a a (by simp[o]);rw[p,r]
 .cases b
theorem a7i{b:Addr}(a:l.cell? b=β e6):b.spot=none:=by
 unfold World.cell? at a;split at a;simp_all
 .cases a
theorem add_add{a:Addr}(d:a.spot=ε)(b:Nat):a.add b=⟨a.block,a.off+b,ε⟩:=by
 unfold Addr.add;split
 .rename_i c;subst c;cases a;simp_all
 .rfl
structure sn(b:Ψ->R)(a:Ψ->Prop)(k:Nat):Prop where
 len:∀us,a us->α us=k
 cells:∀us,a us->(b us).cells=us
def IC{c:Ψ->R}{d:Ψ->Prop}{o:Nat}(h:sn c d o):∀b:List Ψ,(∀a∈b,d a)->flat (b.map c)=b.flatten
 |[],_=>rfl
 |a::b,k=>by
  simp only[a8C,flat,a8I,a9Z];rw[h.cells a (k a acr)];have:=IC h b λa p=>k a (by simp[p]);simp only[flat]at this;rw[this]
theorem ct.slice{u:TypeId}{r:Ψ->Prop}{l:Ψ->R}(Z:m.underlying u=β (.slice b0))(k3:m.cellsOf b0=e)(n:0<e)(F:sn l r e)(k4:ct m b0 r):ct m u (um l r):=λk5 k v k6 k7 n5 n9 o k8=>by
 rcases DataW.trod_slice Z k8 with⟨rfl,_⟩|⟨W,len,w,k9,a00,l0,_,rfl,_,a01,l1,a02,a03,A,_,_⟩
 .exact⟨_,⟨[],acr,acr,rfl⟩,by simp[R.one],fr.one (.dn ε 0 .any (λ_=>rfl) trivial)⟩
 .rw[k3]at A;have B:∀c,c<len->∃b x,r b/\(∀y∈b,y.one=ζ)/\k.cells? v (W.add (c*e)) e=β x/\fr (lk k) x b:=λc p=>by
   have H:=A c p;have l2:c<α k9:=acq;rw[Μ l2,Option.bind_eq_some_iff]at H;obtain⟨x,f,q⟩:=H;obtain⟨b,s,I,K⟩:=k4 k5 k v k6 k7 l0 x _ q;grind
  by_cases l3:len=0
  .subst l3;exact⟨_,⟨[],acr,acr,rfl⟩,by simp[R.one],fr.one (.dn (β W) w .any (λl4=>by cases l4) trivial)⟩
  .have M:W.spot=none:=by obtain⟨b,x,_,_,f,_⟩:=B 0 acq;obtain⟨q,t⟩:=IB f;have S:=t 0 n;simp only[abk]at S;grind[List.getElem?_eq_getElem,Addr.add,a7i]
   obtain⟨z,C,a04⟩:=W;simp only at M;subst M;have l5:∃d:List Ψ,α d=len/\∀c b,d[c]?=β b->r b/\(∀y∈b,y.one=ζ)/\∀a h,b[a]?=β h->∃o,k.cell? ⟨z,C+(c*e+a),ε⟩=β o/\bb (lk k) o h:=by
    have:∀D,D<=len->∃d:List Ψ,α d=D/\∀c b,d[c]?=β b->r b/\(∀y∈b,y.one=ζ)/\∀a h,b[a]?=β h->∃o,k.cell? ⟨z,C+(c*e+a),ε⟩=β o/\bb (lk k) o h:=by
     intro D
     induction D with
     |zero=>simp
     |succ D ih=>
      intro a05;obtain⟨d,T,V⟩:=ih acq;obtain⟨b,x,s,I,f,K⟩:=B D acq;refine⟨d++[b],by simp[T],λc N p=>?_⟩;rw[abo]at p;split at p
      .exact V c N p
      .rename_i a06;have l6:c=D:=by grind
       subst l6;have:N=b:=by simp_all
       subst this;refine⟨s,I,λa h g=>?_⟩;have l7:a<e:=by have:=(a8p.1 g).1;rw[F.len _ s]at this;exact this
       obtain⟨q,t⟩:=IB f;have S:=t a l7;have O:a<α x:=acq;rw[Μ O]at S;have l8:((⟨z,C,ε⟩:Addr).add (c*e)).add a=⟨z,C+(c*e+a),ε⟩:=by rw[add_add (by rw[add_add rfl]),add_add rfl];simp[abw]
       rw[l8]at S;exact⟨x[a],S.symm,K.2 a _ _ (Μ O) g⟩
    simp_all
   obtain⟨d,T,V⟩:=l5;have G:∀b0∈d,r b0:=λb0 E=>by
    obtain⟨c,p,rfl⟩:=a8S E;exact(V c _ (Μ p)).1
   have Q:=IC F d G;have l9:∀(L:List Ψ),(∀b0∈L,r b0)->∀a h,L.flatten[a]?=β h->∃b,L[a/e]?=β b/\b[a%e]?=β h:=by
    intro L
    induction L with
    |nil=>intro _ a h P;simp at P
    |cons b0 L ih=>
     intro X a h P;have a07:=F.len b0 (X b0 acr);rw[a9Z,abo]at P;split at P;grind[Nat.div_eq_of_lt,Nat.mod_eq_of_lt]
     .rename_i g;obtain⟨b,n0,n1⟩:=ih (λb0 E=>X b0 (by simp[E])) (a - α b0) h P;have Y:a=(a - α b0)+e:=acq;refine⟨b,?_,?_⟩
      .rw[Y,Nat.add_div_right _ n];exact n0
      .rw[Y,Nat.add_mod_right];exact n1
   have a08:α d.flatten=len*e:=by
    rw[<-T];clear l9 Q T V
    induction d with
    |nil=>simp
    |cons b0 d ih=>rw[a9Z,Ρ,ih (λb0 E=>G b0 (by simp[E])),F.len b0 (G b0 acr),a8m,a9s,aaW,abG]
   refine⟨_,⟨d,G,acq,rfl⟩,by simp[R.one],fr.one ?_⟩;have n2:∀a h,d.flatten[a]?=β h->∃o,k.cell? ⟨z,C+a,ε⟩=β o/\bb (lk k) o h:=λa h P=>by
    grind[Nat.div_add_mod']
   refine bb.J z C len w e (λa=>(k.cell? ⟨z,C+a,ε⟩).getD undef) (d.map l) .any n (by simp[T]) l1 ?_ ?_ ?_ ?_ trivial
   .intro b0 E;obtain⟨b,i,rfl⟩:=a8D.1 E;rw[F.cells b (G b i),F.len b (G b i)]
   .intro y j;rw[Q,abD]at j;obtain⟨b,i,j⟩:=j;obtain⟨c,p,rfl⟩:=a8S i;exact(V c _ (Μ p)).2.1 y j
   .intro a g;have n3:a<α d.flatten:=acq;obtain⟨o,n4,a09⟩:=n2 a _ (Μ n3);show k.cell? _= _;rw[n4];rfl
   grind
def nc(b:Program)(c:TypeId)(k:R->Prop):Prop:=
 ∀ {d:Type} (o:TypeId×Value->d) (a:World) (p:Nat) (r:Nat->Bool) (v:Value) (x:DataW d) (y:List MemPlace),Value.okWide b a .any p c v->DataW.Trod o b a 0 r ζ c v x y->∃h,k h/\bb (lk a) v h
theorem a7j{a:Reach}{v:Value}(b:Cell.okWide m l a e b0 v):v.cells=#[v]:=by
 cases v with
 |agg cs=>simp_all [Cell.okWide,Cell.ok]
 |tuple cs=>rfl
 |_=>rfl
def isRow(a:Option TypeDesc):Bool:=
 match a with
 |some (.struct _)=>ζ
 |some (.array _ _)=>ζ
 |_=>θ
def ou(a:Ψ->Prop)(b:R):Prop:=a [b]
def Bs(b:Ψ->Prop)(c:R):Prop:=∃a,b a/\c=.agg a
def nc.cell{k:Ψ->Prop}(b:isRow (m.underlying b0)=θ)(p:ct m b0 k):nc m b0 (ou k):=λr x L y v P S c z=>by
 obtain⟨C,D⟩:=z;obtain⟨E,d,T,a⟩:=p r x 0 y ζ C _ _ D;have F:v.cells=#[v]:=by
  unfold Value.okWide at c;split at c
  .rename_i h;rw[h]at b;cases b
  .rename_i h;rw[h]at b;cases b
  .exact a7j c
 rw[F]at a;have G:=a.1
 match E,G,d,a with
 |[o],_,d,a=>exact⟨o,d,a.2 0 v o rfl rfl⟩
theorem nc.agg{b:Program}{c:TypeId}{k:Ψ->Prop}(a:isRow (b.underlying c)=ζ)(x:ct b c k):nc b c (Bs k):=λy z V C v o W p D=>by
 obtain⟨E,F⟩:=D;obtain⟨d,G,L,r⟩:=x y z 0 C ζ E _ _ F;have P:∃h,v=.agg h:=by
  unfold Value.okWide at p;split at p;grind;grind
  .rename_i S T;revert a;cases hu:b.underlying c with
   |none=>intro a;cases a
   |some o=>cases o<;>intro a<;>first|exact absurd hu (S _)|exact absurd hu (T _ _)|cases a
 obtain⟨h,rfl⟩:=P;exact⟨.agg d,⟨d,G,rfl⟩,.agg h d L r.Bq.1 r.Bq.2⟩
def uo(a:Program):List TypeId->List (R->Prop)->Prop
 |[],[]=>True
 |b::tl,c::mc=>nc a b c/\uo a tl mc
 |_,_=>False
def uq:List (R->Prop)->Ψ->Prop
 |[],a=>a=[]
 |d::mc,a=>∃b c,a=b::c/\d b/\uq mc c
def ID{r:Program}{z:Type}{C:TypeId×Value->z}{h:World}{D:Nat}{E:Nat->Bool}:∀(a:List TypeId)(mc:List (R->Prop))(c:List Value)(k:List (DataW z))(x:List MemPlace),
  uo r a mc->(∀(o:Nat) b v,a[o]?=β b->c[o]?=β v->Value.okWide r h .any D b v)->DataW.TrodAll C r h 0 E ζ a c k x->∃d,uq mc d/\fr (lk h) c d/\α k=α a
 |[],[],c,k,x,_,_,y=>by
  obtain⟨rfl,rfl,rfl⟩:=trodAll_nil y;exact⟨[],rfl,fr.nil,rfl⟩
 |b::a,n::mc,c,k,x,F,G,y=>by
  obtain⟨v,P,S,T,V,W,rfl,rfl,rfl,e,f⟩:=trodAll_cons y;obtain⟨L,g,i⟩:=F.1 C h D E v S V (G 0 b v rfl rfl) e;obtain⟨d,j,l,m⟩:=ID a mc P T W F.2 (λo b v p q=>G (o+1) b v (by trivial) (by trivial)) f;exact⟨L::d,⟨L,d,rfl,g,j⟩,(fr.one i).append l,by simp[m]⟩
 |[],_:: _,_,_,_,p,_,_=>p.elim
 |_:: _,[],_,_,_,p,_,_=>p.elim
def a7k{a:MemPlace}(b:j3.heap[a.block]?=l.heap[a.block]?):l.sameAt j3 a:=by
 cases a with
 |cell c off=>show j3.cell? _=l.cell? _;have b:j3.heap[c]?=l.heap[c]? :=b;simp only[World.cell?,b]
 |map c=>exact b
theorem IE{b:Program}{z:Type}{C:TypeId×Value->z}{D E:World}{y:Nat}(F:laidOutB b=ζ)(G:∀c,c<y->E.heap[c]?=D.heap[c]?):∀(d:List TypeId)(o:List Value)(p:List (DataW z))(h:List MemPlace),
  (∀a∈d,b.readableRec a=ζ/\a<b.types.size)->(∀L∈h,L.block<y)->DataW.TrodAll C b D 0 (λ_=>ζ) ζ d o p h->DataW.TrodAll C b E 0 (λc=>decide (c<y)) ζ d o p h
 |[],o,p,h,_,_,k=>by
  obtain⟨rfl,rfl,rfl⟩:=trodAll_nil k;rfl
 |a::d,o,p,h,P,S,k=>by
  obtain⟨v,T,j,V,L,W,rfl,rfl,rfl,e,f⟩:=trodAll_cons k;obtain⟨g,i⟩:=P a acr;refine trodAll_cons_mk (WideElems.Trod_stays F g i e (λr x=>a7k (G _ (S r (aal _ x)))) (λr x=>by simp_all)) ?_;exact IE F G d T V W (λa k=>P a (by simp[k])) (λr x=>S r (aah _ x)) f
theorem a7l{b:MemPlace->Prop}(c:j3.os=l.os)(d:j3.output=l.output)(h:∀a,a<l.heap.size->j3.heap[a]?=l.heap[a]?):l.keptBut j3 b:=by refine⟨c,d,λk o=>?_⟩;grind
variable{I:Bool}{b5:FuncId}{b2:Type}
theorem a7m{L:TypeId×Value->b2}{c:Func}{k:ChangeSpec}{n q:Bool}{C:List (R->Prop)}(s:laidOutB m=ζ)(t:∀d∈c.params.toList,m.readableRec d=ζ/\d<m.types.size)
  (P:k.vars=[]) (u:c.resultTypes=#[b0]) (o:m.underlying b0=β .bool) (w:uo m c.params.toList C) (D:∀a:List (DataW b2),α a=α c.params.toList->k.fn b2 a= {results:=[.lit (.bool ζ)],args:=a,vars:=[]})
  (p:U) (b:World) (A:Holds (lk b) p b) (B:∀h r,p h=β r->∃E,r=.ro E)
  (H:∀x,uq C x->AC m b5 x p λS _=>S=.v (.bool ζ))
  (K:Nat) (args:Array Value) (a M:List (DataW b2)) (N:List MemPlace) (O:∀(y:Nat) d v,c.params[y]?=β d->args[y]?=β v->Value.okWide m b .any K d v)
  (T:DataW.Whole L m c.params.toList k.vars I b args.toList a M N):
  Calls m b5 args b λV W=>∃v,V=.returned v/\k.post L m c I n q θ b args v W:=by
 have e:=T;obtain⟨f,k6,g,i,rfl,_,_⟩:=T;rw[P]at i;obtain⟨rfl,rfl⟩:=trodVars_none i;obtain⟨x,Q,X,F⟩:=ID _ C _ _ _ w (λy d v j k7=>O y d v (by simp_all) (by simp_all)) g;have Y:=λZ k3=>e.lt Z (aal _ k3);refine(H x Q args b (lk b) X.Bq A).mono ?_;rintro V W⟨v,S,k8,k9,rfl,z,k4,rfl⟩;have k5:v=.bool true:=by cases k4;rfl
 subst k5;have l:=λh o=>by
  cases G:p h with
  |none=>exact z.block h o G
  |some r=>obtain⟨E,rfl⟩:=B h r G;exact(z.jR h E o G).1
 refine⟨_,rfl,a,[],f++[],[],f,[],e,?_,?_,?_,a7l z.os z.output.1 l,λj=>by cases j⟩
 .rw[a9p,D a F,u];exact trodAll_cons_mk (shut_bool o ζ) trodAll_mk0
 .rw[a9p,D a F];exact IE s l _ _ _ _ t Y g
 .rw[a9p,D a F,P];rfl
def a7n{k:TypeId×Value->b2}{a:Func}{h:ChangeSpec}{C D:Bool}{o:List (R->Prop)}(E:laidOutB m=ζ)(F:∀d∈a.params.toList,m.readableRec d=ζ/\d<m.types.size)
  (G:h.vars=[]) (L:a.resultTypes=#[b0]) (P:m.underlying b0=β .bool) (S:uo m a.params.toList o) (T:∀b:List (DataW b2),α b=α a.params.toList->h.fn b2 b= {results:=[.lit (.bool ζ)],args:=b,vars:=[]})
  (V:∀p,uq o p->AC m b5 p U.emp λW _=>W=.v (.bool ζ))
  (c:World) (r:Nat) (args:Array Value) (b x:List (DataW b2)) (y:List MemPlace) (e:∀(z:Nat) d v,a.params[z]?=β d->args[z]?=β v->Value.okWide m c .any r d v)
  (f:DataW.Whole k m a.params.toList h.vars I c args.toList b x y):
  Calls m b5 args c λg i=>∃v,g=.returned v/\h.post k m a I C D θ c args v i:=
 a7m E F G L P S T U.emp c (a7h c) (λ_ _ j=>by cases j) V r args b x y e f
open Go
def IF:∀(a:Nat)(b:Ψ),uk mZ a b->∃aO:Υ,α aO=a/\b=aO.map ah
 |0,b,c=>⟨[],rfl,c⟩
 |a+1,b,c=>by
  obtain⟨o,d,⟨h,rfl⟩,k,rfl⟩:=c;obtain⟨aO,rfl,rfl⟩:=IF a d k;exact⟨h::aO,rfl,rfl⟩
def nd(a:Ψ):R:=a.headD (.aJ [])
def a7o:sn nd mZ 1:=⟨by rintro a⟨b,rfl⟩;rfl,by rintro a⟨b,rfl⟩;rfl⟩
abbrev wV:Ψ->Prop:=um nd mZ
theorem a7p(h:wV g):∃aO:Υ,α aO<=maxLen/\g=[.J (aO.map ah) .any]:=by
 obtain⟨a,d,k,o⟩:=h;have:∃b:Υ,α b=α a/\a.map nd=b.map ah:=by
  clear k o
  induction a with
  |nil=>simp
  |cons c a ih=>obtain⟨b,p,r⟩:=ih λc x=>d c (by simp[x]);obtain⟨y,rfl⟩:=d c acr;exact⟨y::b,by simp[p],by simp[r,nd]⟩
 grind
theorem a7q(a:ou wV n):∃aO:Υ,α aO<=maxLen/\n=.J (aO.map ah) .any:=by obtain⟨aO,b,c⟩:=a7p a;grind
end Go.bD
namespace Go.Proofs.YtkafjfkjahgihaaGreat
open Go Go.bD
variable{b3:Int}
def wf_i64(b:(Lit.int .i64 b3).wf=ζ): -9223372036854775808<=b3/\b3<=9223372036854775807:=by
 have a:IntKind.i64.min<=b3/\b3<=9223372036854775807:=by simpa[Lit.wf] using b
 have c:IntKind.i64.min= -9223372036854775808:=acv;rw[c]at a;exact a
def a7r:sn nd (SInt .i64) 1:=⟨by rintro a⟨b,_,rfl⟩;rfl,by rintro a⟨b,_,rfl⟩;rfl⟩
abbrev wW:Ψ->Prop:=um nd (SInt .i64)
variable{g B e1:Ψ}
theorem a7s(o:wW g):∃h:Τ,dm h/\g=[.J (af h) .any]:=by
 obtain⟨b,k,p,r⟩:=o;have:∃a:Τ,dm a/\b.map nd=af a:=by
  clear p r
  induction b with
  |nil=>exact⟨[],(λF x=>by cases x),rfl⟩
  |cons c b ih=>
   obtain⟨a,y,z⟩:=ih λc C=>k c (by simp[C]);obtain⟨D,E,rfl⟩:=k c acr;refine⟨D::a,?_,by simp only[a8C,z];rfl⟩;intro v d;rcases a8E.1 d with rfl|d
   .have:=wf_i64 E;omega
   .exact y v d
 simp_all
def a7t:sn nd sm 1:=⟨by rintro a⟨b,_,rfl⟩;rfl,by rintro a⟨b,_,rfl⟩;rfl⟩
abbrev wX:Ψ->Prop:=um nd sm
theorem a7u(h:wX g):∃k:List Υ,g=[.J (bB k) .any]:=by
 obtain⟨a,d,o,p⟩:=h;have:∃b:List Υ,a.map nd=bB b:=by
  clear o p
  induction a with
  |nil=>exact⟨[],rfl⟩
  |cons c a ih=>obtain⟨b,r⟩:=ih λc x=>d c (by simp[x]);obtain⟨y,z,rfl⟩:=d c acr;exact⟨y::b,by simp only[a8C,r];rfl⟩
 simp_all
abbrev wY:Ψ->Prop:=wU [mZ,sm,wX,wW]
def IG(b:wY g):∃a:df,dm a.d.row/\g=a.C:=by obtain⟨_,_,⟨c,rfl⟩,⟨_,_,⟨d,_,rfl⟩,⟨_,_,h,⟨_,_,k,o,rfl⟩,rfl⟩,rfl⟩,rfl⟩:=b;obtain⟨p,rfl⟩:=a7u h;obtain⟨r,x,rfl⟩:=a7s k;cases o;exact⟨⟨⟨c,d,p,r⟩,.any,.any⟩,x,rfl⟩
def a7v:sn R.agg wY 4:=⟨λb a=>by obtain⟨c,_,rfl⟩:=IG a;rfl,λb a=>rfl⟩
abbrev wZ:Ψ->Prop:=um R.agg wY
theorem a7w(p:wZ g):∃d:List df,(∀h∈d,dm h.d.row)/\α d<=maxLen/\g=[.J (lZ d) .any]:=by
 obtain⟨b,o,r,x⟩:=p;have:∃a:List df,α a=α b/\b.map R.agg=lZ a/\∀h∈a,dm h.d.row:=by
  clear r x
  induction b with
  |nil=>exact⟨[],rfl,rfl,λc k=>by cases k⟩
  |cons c b ih=>obtain⟨a,y,z,D⟩:=ih λc k=>o c (by simp[k]);obtain⟨C,E,rfl⟩:=IG (o c acr);refine⟨C::a,by simp[y],by rw[a8C,z];rfl,?_⟩;grind
 grind
variable{n b6:R}
theorem a7x(b:ou wZ n):∃a:List df,(∀c∈a,dm c.d.row)/\α a<=9223372036854775807/\n=.J (lZ a) .any:=by obtain⟨a,d,h,k⟩:=a7w b;grind[hm,maxLen,List.cons.inj]
def x0:ct γ 5 mZ:=ct.byte acw
def IH:ct γ 9 sm:=ct.str acw
def a7y:ct γ 2 (SInt .i64):=ct.int acw
def a7z:ct γ 53 wW:=ct.slice (e:=1) (by kernel_rfl:γ.underlying 53=β (.slice 2)) acw acq a7r a7y
def a7A:ct γ 58 wX:=ct.slice (e:=1) (by kernel_rfl:γ.underlying 58=β (.slice 9)) acw acq a7t IH
def a7B:ct γ 77 wY:=ct.struct (r:=[mZ,sm,wX,wW]) Tryz.underlying77 (by
 refine⟨by rfl,x0,by rfl,IH,by rfl,a7A,by rfl,a7z,(by show _= _;rfl)⟩)
def a7C:ct γ 22 wZ:=ct.slice (e:=4) (by kernel_rfl:γ.underlying 22=β (.slice 77)) acw acq a7v a7B
abbrev x1:Ψ->Prop:=uk mZ 32
def a7D(b:x1 g):∃a:Υ,α a=32/\g=a.map ah:=IF 32 g b
def a7E(b:Bs x1 n):∃a:Υ,α a=32/\n=bo a:=by obtain⟨d,b,rfl⟩:=b;obtain⟨a,c,rfl⟩:=a7D b;exact⟨a,c,rfl⟩
def a7F(a:ou mZ n):∃b:UInt8,n=ah b:=by obtain⟨b,a⟩:=a;exact⟨b,(ab9 a).1⟩
def a7G(b:ou (SInt .i64) n):∃a:Int,n=.v (.int .i64 a):=by obtain⟨a,d,c⟩:=b;exact⟨a,by simpa using c⟩
def a7H:ct γ 3 (SInt .i64):=ct.int acw
def a7I:ct γ 24 x1:=ct.array (i:=32) (e:=1) (by kernel_rfl:γ.underlying 24=β (.array 32 5)) acw acw x0
def a7J:ct γ 25 wV:=ct.slice (e:=1) (by kernel_rfl:γ.underlying 25=β (.slice 5)) acw acq a7o x0
end Go.Proofs.YtkafjfkjahgihaaGreat
namespace Go.Proofs.YtkafjfkjahgihaaGreat.syncBegins
open Go
def jA:(Rows.syncBeginsRow.inPlace==γ.inPlace 3)=true:=acw
def jB:(Rows.syncBeginsRow.unfollowed==γ.unfollowed 3)=true:=acw
def jC:(Rows.syncBeginsRow.named==γ.varsNamed 3)=true:=acw
def jD:(laidOutB γ&&mapsRowed γ&&Tryz.f3.params.all (γ.readableRec ·)&&namedTie γ Rows.syncBeginsRow.named Rows.syncBeginsSpec.vars&&(γ.stops==[])&&(γ.stopKnobs==[]))=true:=acw
def tI:(Rows.syncBeginsRow.lifted==γ.liftsFinal)=true:=acw
def jF:(γ.stopsHeard&&γ.mayEnter&&(γ.make==β Rows.syncBeginsRow.make)&&(Rows.syncBeginsRow.pinned==Rows.syncBeginsRow.pinnedBy))=true:=acw
def a7K:joinedFacts γ 3 Tryz.f3 Rows.syncBeginsSpec Rows.syncBeginsRow=true:=by
 unfold joinedFacts;have d:=jA;have a:=jB;have h:=jC;have b:=jD;have k:=tI;have c:=jF;simp only[Ξ]at b c;obtain⟨⟨⟨⟨⟨o,p⟩,r⟩,x⟩,y⟩,z⟩:=b;obtain⟨⟨⟨C,D⟩,E⟩,F⟩:=c;have G:(Rows.syncBeginsRow.recurses==γ.recurses 3)=true:=by have L:Rows.syncBeginsRow.unfollowed=γ.unfollowed 3:=eq_of_beq a;unfold Program.recurses;rw[<-L];rfl
 rw[d,a,h,o,p,r,x,y,z,k,C,D,E,F,G];decide+kernel
end Go.Proofs.YtkafjfkjahgihaaGreat.syncBegins
