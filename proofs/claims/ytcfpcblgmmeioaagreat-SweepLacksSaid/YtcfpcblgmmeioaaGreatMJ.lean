import Derived.Test.YtcfpcblgmmeioaaGreatMH
import Derived.Test.YtcfpcblgmmeioaaGreatMI
import Derived.Test.YtcfpcblgmmeioaaGreatMF
import Derived.Test.YtcfpcblgmmeioaaGreatMD
import Derived.Test.YtcfpcblgmmeioaaGreatMC
import Derived.ProofKit
import Derived.OpenShut
import Derived.WideKeyArgs
import Derived.Test.YtcfpcblgmmeioaaGreatRows
import Derived.JoinedOf
set_option linter.all false
open Option renaming some->β,none->ζ
open Go.Proofs.Tryz renaming prog->γ
open List renaming replicate->ε,drop_eq_getElem_cons->Ν,length->α
open Bool renaming true->η,false->ι
open Go.bD.U renaming a6->θ,ae->κ,ag->μ,ai->ξ,au->π,set_set->τ,aI->χ,bK->Ο
open UInt8 renaming ofNat->ν
open Go.bD.R renaming cells->σ
open Go.Proofs.YtcfpcblgmmeioaaGreat.isRow renaming cells->φ
open Go.Proofs.YtcfpcblgmmeioaaGreat.Ext renaming of->Α
open Go.Proofs.YtcfpcblgmmeioaaGreat.aC renaming size->Κ
open Go.Proofs.YtcfpcblgmmeioaaGreat.aX renaming bI->Λ
set_option maxRecDepth 100000
namespace Go.Proofs.YtcfpcblgmmeioaaGreat
open Go Go.bD
def fe:aC->List ϊ->List ϊ
 |.nil,a=>a
 |.node d live b c,a=>fe c (fe b (cX a (bg (.node d live b c)).sum))
def tP:∀(T:aC)(a:List ϊ),(fe T a).length<=α a+T.size
 |.nil,a=>by simp[fe,Κ]
 |.node d live b c,a=>by
  rw[fe,Κ];have h:=tP c (fe b (cX a (bg (.node d live b c)).sum));have k:=tP b (cX a (bg (.node d live b c)).sum);have o:=qe (e4:=a) (w:=(bg (.node d live b c)).sum);omega
def tQ{c:Nat}(d:1<=c)(a:c<=8):∀(T:aC)(b:List ϊ),T.c9 c->T.size<=1048576->(∀h∈b,α h=32)->∀h∈fe T b,α h=32
 |.nil,b,_,_,k=>k
 |.node z live r x,b,o,p,k=>by
  rw[fe];have y:=(eG d a o p).le a δ;rw[Κ]at p;exact tQ d a x _ o.b δ (tQ d a r _ o.a δ (tD k y.2.1))
def Az{E:Nat}(k:1<=E)(d:E<=8):∀(T:aC)(o p:R)(b r:U)(a:List ϊ),dQ b T o->kZ b r a p->(∀F∈a,α F=32)->T.c9 E->T.size<=1048576->α a+T.size<=1000000000->
  AC γ 15 [p,o] r λh g=>kZ b g (fe T a) h
 |.nil,o,p,b,r,a,z,C,_,_,_,_=>by
  obtain rfl:o=.v (.pointer ζ):=z;refine aK hm Ca ?_;exact⟨_,θ,C⟩
 |.node h D c x,o,p,b,r,a,z,C,S,y,G,i=>by
  have j:=z;obtain⟨l,X,F,m,rfl,V,n,q⟩:=z;have L:=(eG k d y G).le d δ;have s:=G;rw[Κ]at s i;have t:=Az k d c F;have u:=Az k d x m;have Y:=qe (e4:=a) (w:=(bg (.node h D c x)).sum);have W:=tD S L.2.1;have v:=tQ k d c _ y.a δ W;have Z:=tP c (cX a (bg (.node h D c x)).sum);have w:=Ax k d (.node h D c x) (.ptr l 0) r (j.mono C.1) y G;rw[fe];generalize bg (.node h D c x)=P at*;refine aK hm Ca ?_;refine ah w ?_;rintro _ A⟨B,H,I,K,rfl⟩;have j9:=(aP (N:=H) (e6:=I) (h6:=K) L.2.1).all;have k0:R.agg (P.sum.map aj)=br P.sum:=rfl;refine aa ?_;refine ah (zz b A a p (C.mono B) S P.sum L.2.1 δ) ?_;rintro M N e;have k1:=κ (e.1 _ _ V);refine aa ?_;refine ah (t M b N _ n e W y.a δ δ) ?_;rintro a3 O f;have k2:=κ (f.1 _ _ V);refine aa ?_;refine ah (u a3 b O _ q f v y.b δ δ) ?_;rintro a4 k3 Q;refine aa ?_;exact⟨_,θ,Q⟩
def gL:(b:Nat)->a1.T b->List ϊ->List ϊ
 |0,c,a=>cX a (bL 0 c).sum
 |b+1,c,a=>(a1.kids c).foldl (λa d=>gL b d a) (cX a (bL (b+1) c).sum)
def jK:(a:Nat)->a1.T a->Nat
 |0,_=>1
 |a+1,b=>1+((a1.kids b).map (jK a)).sum
def AA{d:Type}{h:List ϊ->d->List ϊ}{k:d->Nat}:∀(c:List d)(a:List ϊ),(∀b∈c,∀a,(h a b).length<=α a+k b)->(c.foldl h a).length<=α a+(c.map k).sum
 |[],a,_=>by simp
 |b::c,a,o=>by
  have r:=o b ς a;have x:=AA c (h a b) λb p=>o b (by simp[p]);rw[a7S,a7C,a8E];omega
def AB:∀(b:Nat)(c:a1.T b)(a:List ϊ),(gL b c a).length<=α a+jK b c
 |0,c,a=>qe
 |b+1,c,a=>by
  rw[gL,jK];have h:=AA (h:=λa d=>gL b d a) (k:=jK b) (a1.kids c) (cX a (bL (b+1) c).sum) λd _ a=>AB b d a;have k:=qe (e4:=a) (w:=(bL (b+1) c).sum);omega
def AD{o:Type}{k:List ϊ->o->List ϊ}:∀(d:List o)(a:List ϊ),(∀c∈d,∀a,(∀b∈a,α b=32)->∀b∈k a c,α b=32)->(∀b∈a,α b=32)->∀b∈d.foldl k a,α b=32
 |[],a,_,h=>h
 |c::d,a,h,p=>AD d (k a c) (λc r=>h c (by simp[r])) (h c ς a p)
def ds.kids{d a:Nat}{b:a1.T (a+1)}(h:ds d (a+1) b):∀c∈a1.kids b,ds d a c:=λc k=>(ds.gC (d:=a1.kids b) h c k).1
def AE{k:Nat}(o:1<=k)(p:k<=8):∀(b:Nat)(d:a1.T b)(a:List ϊ),ds k b d->(∀r∈a,α r=32)->∀r∈gL b d a,α r=32
 |0,d,a,h,c=>tD c (kS o p h).sum
 |b+1,d,a,h,c=>by
  rw[gL];exact AD _ _ (λx y a c=>AE o p b x a (h.kids x y) c) (tD c (kS o p h).sum)
variable{e i v M b9 j1:Nat}
def a5B(F:1<=e)(G:e<=8)(a:Nat):∀(d:a1.T a)(x y:R)(k z:U)(c:List ϊ),bA k a d x->kZ k z c y->(∀b∈c,α b=32)->ds e a d->α c+jK a d<=1000000000->
  AC γ 16 [y,x] z λX s=>kZ k s (gL a d c) X:=by
 induction a with
 |zero=>intro d x y k z c L P f C g;have S:=Ay F G 0 d x z (L.mono P.1) C;have p:=(kS F G C).sum;obtain⟨Y,l3,Z,T,rfl,i,j⟩:=L;rw[jK]at g;rw[gL];generalize bL 0 d=o at S p|-;refine aK hm xi ?_;refine ah S ?_;rintro _ t⟨u,v,T,w,rfl⟩;have j9:=(aP (N:=v) (e6:=T) (h6:=w) p).all;have k0:R.agg (o.sum.map aj)=br o.sum:=rfl;refine aa ?_;refine ah (zz k t c y (P.mono u) f o.sum p δ) ?_;rintro A k1 D;have k2:=κ (D.1 _ _ i);refine aa ?_;refine gv [1] (λ_:Unit=>[(5,.v (.int .i64 0)),(0,A)]) (λ_=>True) (λ_=>0) () trivial aO ?_;rintro _ _ k3;refine aa ?_;exact⟨_,θ,D⟩
 |succ a ih=>
  intro d x y k z c L P f C g;have S:=Ay F G (a+1) d x z (L.mono P.1) C;have p:=(kS F G C).sum;have I:=C.kids;obtain⟨Y,l4,Z,T,rfl,i,j,k4,k5⟩:=L;have k6:=j.len;rw[jK]at g;rw[gL];generalize bL (a+1) d=o at S p|-;generalize a1.kids d=h at I j k4 k5 k6 g|-;refine aK hm xi ?_;refine ah S ?_;rintro _ t⟨u,v,T,w,rfl⟩;have j9:=(aP (N:=v) (e6:=T) (h6:=w) p).all;have k0:R.agg (o.sum.map aj)=br o.sum:=rfl;refine aa ?_;refine ah (zz k t c y (P.mono u) f o.sum p δ) ?_;rintro A k1 D;have K:=tD f p;have k7:=qe (e4:=c) (w:=o.sum);generalize cX c o.sum=M at D K k7|-;have k2:=κ (D.1 _ _ i);refine aa ?_;refine cc [1] (λb:Nat×List ϊ×R=>[(5,.v (.int .i64 (b.1:Int))),(0,b.2.2)]) (λb s=>b.1<=α h/\kZ k s b.2.1 b.2.2/\(∀k8∈b.2.1,α k8=32)/\α b.2.1+((h.drop b.1).map (jK a)).sum<=1000000000/\(h.drop b.1).foldl (λc V=>gL a V c) b.2.1=h.foldl (λc V=>gL a V c) M) (λb=>α h - b.1) (0,M,A) ⟨⟨a7N _,D,K,by rw[a8O];dsimp only;omega,rfl⟩,aO⟩ ?_;rintro⟨E,l,a3⟩ k9 ⟨l0,m,B,N,W⟩ k3
  dsimp only at l0 m B N W|-
  have l5:=κ (m.1 _ _ i);refine aa ?_;refine aF (λV=>?_) λV=>?_
  .have n:E<α h:=δ;obtain⟨r,q⟩:∃r,h[E]?=β r:=⟨_,Ρ n⟩;have O:h.drop E=r::h.drop (E+1):=by rw[a7M n];congr 1;rw[Ρ n]at q;exact Δ q
   obtain⟨l1,l6,H⟩:=j.get q;have l7:=H.fit;have wl:=H.cells;rw[O,a7S]at W;rw[O,a7C,a8E]at N;have l8:=AB a r l;have Q:=I r (a7r q);refine aa ?_;refine ah (ih r l1 a3 k k9 l H m B Q δ) ?_;rintro a4 l9 l2;refine aa ?_;exact⟨(E+1,gL a r l,a4),⟨n,l2,AE F G a r l Q B,by dsimp only;omega,W⟩,⟨rfl,rfl⟩,by dsimp only;omega⟩
  .obtain rfl:E=α h:=δ;rw[a9v,a9I]at W;rw[<-W];exact⟨_,θ,m⟩
def lT(a:List du):ύ:=a.map du.V
def AF{a:List du}:(lT a).length=α a:=by simp[lT]
def HL{a:List du}{b:du}(c:a[e]?=β b):eo 4 (lT a)[e]?=β (.bS b.C):=by obtain⟨d,rfl⟩:=a7u.1 c;rw[show(lT a)[e]?=β (a[e]).V by simp[lT,d]];rfl
structure wc(a:af)(l:List aU)(cL:List aX):Prop where
 eq:l=cL.map Λ
 ins:∀t∈cL,dn a t.bf/\iD a t.bm
theorem HM{b c:af->Except Int ao×af}(r:∀a:af,a.le (b a).2)(x:∀a:af,a.le (c a).2)(a:af)(y:List aU)(z:aU):a.le (gK b c a y z).2.2:=by
 unfold gK;have d:=r a;generalize b a=h at*;obtain⟨k,o⟩:=h;cases k with
 |error C=>exact d
 |ok D=>
  have p:=x o
  dsimp only
  generalize c o=h at*;obtain⟨k,E⟩:=h;cases k with
  |error C=>exact d.trans p
  |ok F=>exact d.trans p
variable{h5:aX}{a7:List aX}{B:af}
def HN(F:ej e a7)(G:e<=1000){a:aX}(L:eA i h5)(P:i<=1000)(y:h5.name=a.name)(S:h5.aD=a.aD)(T:ct a7 a.name<α a7){c b:af->Except Int ao×af}
  (r:gj B h5.bf (c B)) (h:∀d:af,B.le d->d.one=ι->qm d h5.bm (b d)) (V:∀d:af,d.le (b d).2) (k:(gK c b B (a7.map Λ) a.bI).2.2.one=ι):
  (gK c b B (a7.map Λ) a.bI).1=0/\(gK c b B (a7.map Λ) a.bI).2.1=(a7.set (ct a7 a.name) h5).map Λ/\B.le (gK c b B (a7.map Λ) a.bI).2.2/\dn (gK c b B (a7.map Λ) a.bI).2.2 h5.bf/\iD (gK c b B (a7.map Λ) a.bI).2.2 h5.bm:=by
 unfold gK at k|-;generalize c B=o at*;obtain⟨x,p⟩:=o;cases x with
 |error W=>cases (r.ins k).1
 |ok f=>
  dsimp only at k|-
  have C:=V p;have D:p.one=false:=by
   revert k;generalize b p=o at*;obtain⟨x,g⟩:=o;cases x with
   |error W=>exact λz=>C.zero z
   |ok f=>exact λz=>C.zero z
  obtain⟨j,l⟩:=r.ins D;obtain rfl:=Except.ok.inj j;have h:=h p r.le D;generalize b p=o at*;obtain⟨x,g⟩:=o;obtain rfl:=h.ok
  dsimp only at k|-
  have E:=pO F G L P (by rw[y];exact T);have m:h5.bI=⟨a.bI.name,a.bI.aD,bg h5.bf,dY h5.bm⟩:=by show(⟨h5.name,h5.aD,bg h5.bf,dY h5.bm⟩:aU)=⟨a.name,a.aD,bg h5.bf,dY h5.bm⟩;rw[y,S]
  rw[m,y]at E;rw[E];exact⟨rfl,rfl,r.le.trans h.le,l.mono h.le,h.ins k⟩
variable{q b7:Ω}
def a5C(a:af)(b:ao):a.le (rI e q a b).2:=zS _ _ _ _
variable{e3:List aU}{h2:dt}
theorem a5D{b:Int×List aU×af}(a:p7 B e3 h2 b):B.le b.2.2:=by
 unfold p7 at a;split at a
 .rw[a];exact af.le_refl
 split at a
 .rcases a with⟨_,rfl⟩|⟨rows,_,_,⟨_,rfl⟩|⟨_,rfl⟩⟩
  .exact af.le_refl
  .exact HM (λB=>a5C _ _) (λB=>Gs) _ _ _
  .exact af.le_refl
 .rw[a];exact af.le_refl
theorem a5E:B.le (lb B e3 h2).2.2:=by grind[lb,af.le_refl,HM,a3S,Gv]
theorem a5F{a:Int×List aU×af}(b:iC B e3 h2 a):B.le a.2.2:=by grind[iC,af.le_refl,a5D,a5E]
theorem AG{b:Except Int (List aU)}(c:cJ e3=η)(d:∀a,b=.ok a->cJ a=η):cJ (jc b e3).2=true:=by
 cases b with
 |error h=>exact c
 |ok a=>exact d a rfl
variable{e9:aU}
theorem HO{a b:af->Except Int ao×af}(c:cJ e3=η):cJ (gK a b B e3 e9).2.1=true:=by grind[gK,AG,Hd]
theorem a5G{c:Int×List aU×af}(b:cJ e3=η)(a:iC B e3 h2 c):cJ c.2.1=true:=by
 unfold iC at a;split at a
 .rw[a];exact b
 split at a
 .rw[a];exact AG b λd a=>Hg a
 split at a
 .rw[a];exact AG b λd a=>Hc b a
 split at a
 .unfold p7 at a;split at a
  .rw[a];exact b
  split at a
  .rcases a with⟨_,rfl⟩|⟨rows,_,_,⟨_,rfl⟩|⟨_,rfl⟩⟩
   .exact b
   .exact HO b
   .exact b
  .rw[a];exact b
 grind[lb,HO]
def AH(c:cJ e3=η):∀a∈e3,a.Fit:=λa d=>by
 have b:=(p5 c).1 a d;exact⟨by have:=b.n;omega,by have:=b.c;omega,λh k=>by have:=b.cs h k;omega⟩
theorem HP{d:Int×List aU×af}(a:iC B e3 h2 d)(x:ej e a7)(K:e<900)(p:dk h2.row)(u:wc B e3 a7)(S:d.2.2.one=ι):
  d.1=(hx a7 h2).1/\wc d.2.2 d.2.1 (hx a7 h2).2:=by
 obtain⟨rfl,y⟩:=u;have u:wc B (a7.map Λ) a7:=⟨rfl,y⟩;unfold iC at a;unfold hx;by_cases M:fb h2=ι;simp_all;rw[if_neg M]at a|-;have f:fb h2=true:=by simp_all
 by_cases z:h2.kind=1
 .rw[if_pos z]at a|-;have N:=HD f z;rw[add_eq x δ N]at a;by_cases c2:ct a7 h2.table<α a7
  .rw[if_pos c2]at a|-;rw[a];trivial
  rw[if_neg c2]at a|-;by_cases aE:7<α a7
  .rw[if_pos aE]at a|-;rw[a];trivial
  rw[if_neg aE]at a|-;rw[a];refine⟨rfl,rfl,λb c=>?_⟩;simp only[a7z,a7J]at c;rcases c with c|rfl|c;grind
  .trivial
  grind
 rw[if_neg z]at a|-;by_cases aE:h2.kind=2
 .rw[if_pos aE]at a;rw[HF x δ]at a;by_cases c2:ct a7 h2.table<α a7
  .rw[if_pos c2]at a;rw[if_neg δ,if_pos aE,a];exact⟨rfl,rfl,λb c=>y b (aaj c)⟩
  .rw[if_neg c2]at a;rw[if_pos δ,a];trivial
 rw[if_neg aE]at a;by_cases c2:α a7<=ct a7 h2.table
 .rw[if_pos c2];have g:(a7.map Λ).find? (λb=>decide (b.name=h2.table))=none:=by rw[Ht,abh c2];rfl
  rcases As f z aE with k|k
  .rw[if_pos k]at a;unfold p7 at a;simp_all
  .rw[if_neg (by rw[k];decide)]at a;unfold lb p6 at a;simp_all
 rw[if_neg c2,if_neg aE];have C:ct a7 h2.table<α a7:=δ;have w:=Ao C;have c:=x.ok _ w;have T:=wb C;have g:(a7.map Λ).find? (λb=>decide (b.name=h2.table))=β (a7.getD (ct a7 h2.table) default).bI:=by rw[Ht,a8n,Ρ C];rfl
 generalize a7.getD (ct a7 h2.table) default=b at*;have k4:=c.c;obtain⟨D,A⟩:=y b w;have k5:=c.dC.cf;have V:∀W:aX,dn d.2.2 W.bf/\iD d.2.2 W.bm->B.le d.2.2->∀v∈a7.set (ct a7 h2.table) W,dn d.2.2 v.bf/\iD d.2.2 v.bm:=λW E r v O=>by
  rcases a9y O with h|rfl
  .exact⟨(y v h).1.mono r,(y v h).2.mono r⟩
  .exact E
 rcases As f z aE with k|k
 .rw[if_pos k]at a;rw[if_neg (show¬h2.kind=4 by rw[k];decide)];unfold p7 at a;rw[g]at a
  dsimp only at a
  by_cases aL:α h2.row=α b.aD+1
  .rw[if_neg (show¬α h2.row≠α b.aD+1 from λh=>h aL)];rw[if_pos (show α h2.row=α b.bI.aD+1 from aL)]at a;have i:bQ (α b.aD+1) h2.row:=⟨aL,p⟩;rcases a with⟨F,_⟩|⟨rows,Q,_,a⟩
   .exact absurd F (a4y (e:=α b.aD+1) δ δ c.dC.fu δ D)
   have X:=a4A δ δ c.dC.fu δ D Q;have Y:rows=[]↔ ¬b.rows.any (λG=>decide (c5 G=c5 h2.row))=true:=by
    rw[X,aaq];constructor
    .rintro h⟨G,p,o⟩;exact h G (c.fl.mem_iff.2 p) ((Hb δ (c.row p)).2 (of_decide_eq_true o))
    .intro h Z j9 L;have H:=c.fl.mem_iff.1 j9;exact h ⟨Z,H,decide_eq_true ((Hb δ (c.row H)).1 L)⟩
   rcases a with⟨o,a⟩|⟨o,a⟩
   .have I:=Y.1 o;rw[if_neg I];obtain⟨E,j,l⟩:=c.put K i λG p o=>I (aaq.2 ⟨G,p,decide_eq_true o⟩);have F:=a3T δ δ i c.dC.fu δ D j;rw[a]at S V|-;have L:=HN (a:=b) x δ E δ rfl rfl (by rw[T];exact C) (c:=λB=>rI (α b.aD+1) h2.row B (bg b.bf)) F (λm r k0=>a4I δ δ i c.go (A.mono r) l) (λm=>Gs) S;obtain⟨n,P,q,s,t⟩:=L;rw[T]at P;exact⟨n,P,V _ ⟨s,t⟩ q⟩
   grind
  .rw[if_neg (show¬α h2.row=α b.bI.aD+1 from aL)]at a;grind
 .rw[if_neg (by rw[k];decide)]at a;rw[if_pos k];unfold lb p6 at a;rw[g]at a
  dsimp only at a
  by_cases aL:α h2.row=α b.aD+1
  .rw[if_neg (show¬α h2.row≠α b.aD+1 from λh=>h aL)];rw[if_pos (show α h2.row=α b.bI.aD+1 from aL)]at a
   dsimp only at a
   rw[if_pos rfl]at a;by_cases bz:h2.row∈b.rows
   .rw[if_pos bz];obtain⟨E,j,l⟩:=c.del bz;have F:=a3V δ δ c.dC.fu δ D j;rw[a]at S V|-;have L:=HN (a:=b) x δ E δ rfl rfl (by rw[T];exact C) (c:=λB=>jz (α b.aD+1) h2.row B (bg b.bf)) F (λm r k0=>a4N δ δ (c.row bz) c.go (A.mono r) l) (λm=>Gv) S;obtain⟨n,P,q,s,t⟩:=L;rw[T]at P;exact⟨n,P,V _ ⟨s,t⟩ q⟩
   .rw[if_neg bz];have k1:=a3U δ δ c.dC.fu δ D (c.none aL bz);have k2:d=(9,a7.map Λ,B):=by
     rw[a];unfold gK;show(match jz (α b.aD+1) h2.row B (bg b.bf)with
      |(.error o,k3)=> _
      |(.ok k6,k3)=> _)= _
     rw[k1]
    rw[k2];trivial
  .rw[if_neg (show¬α h2.row=α b.bI.aD+1 from aL)]at a;simp_all
inductive we:af->List aU->List dt->Int×List aU×af->Prop
 |nil (a:af) (l:List aU):we a l [] (0,l,a)
 |stop {a:af}{l:List aU}{d:dt}{cL:List dt}{res:Int×List aU×af}:iC a l d res->res.1≠0->we a l (d::cL) res
 |step {a:af}{l:List aU}{d:dt}{cL:List dt}{res b:Int×List aU×af}:iC a l d res->res.1=0->we res.2.2 res.2.1 cL b->we a l (d::cL) b
def kn(a:dG)(b:List ϊ):List ϊ:=match a with
 |none=>b
 |some ⟨c,a⟩=>gL c a b
def rN(a:dG):Nat:=match a with
 |none=>0
 |some ⟨b,a⟩=>jK b a
def HQ(a:dG)(b:List ϊ):(kn a b).length<=α b+rN a:=by
 cases a with
 |none=>simp[kn,rN]
 |some c=>exact AB c.1 c.2 b
def HR(h:1<=e)(k:e<=8)(b:dG)(c:List ϊ)(o:hq e b)(d:∀a∈c,α a=32):∀a∈kn b c,α a=32:=by
 cases b with
 |none=>exact d
 |some a=>exact AE h k a.1 a.2 c (GT.fX o) d
def a5H(r:1<=e)(x:e<=8)(a:dG)(c h:R)(d k:U)(b:List ϊ)(o:fI d a c)(p:kZ d k b h)(y:∀z∈b,α z=32)(C:hq e a)(D:α b+rN a<=1000000000):
  AC γ 16 [h,c] k λE F=>kZ d F (kn a b) E:=by
 match a with
 |none=>obtain rfl:c=.v (.pointer ζ):=o;refine aK hm xi ?_;exact⟨_,θ,p⟩
 |some ⟨G,a⟩=>exact a5B r x G a c h d k b o p y (GT.fX C) D
def a5I(c d:List ϊ)(h y:R)(k:U)(z:bO k 32 h (c.map br))(C:bO k 32 y (d.map br))(G:∀b∈c,α b=32)(L:∀b∈d,α b=32)(A:α c<=1000000000):
  AC γ 12 [h,y] k λf g=>g=k/\f=.v (.bool (decide (c=d))):=by
 have i:=z.len;have j:=C.len;rw[a7w]at i j;have D:∀(r:List ϊ)(h:R),bO k 32 h (r.map br)->(∀b∈r,α b=32)->∀(a:Nat)(b:ϊ),r[a]?=β b->∃o,cz 32 h (.v (.int .i64 (a:Int)))=β o/\cW η 32 k o=β (br b):=λr h l m a b P=>by
  obtain⟨o,n,q⟩:=l.get a (br b) (by simp[P]);have S:=m b (a7r P);have T:=q.ld k θ η 32 δ (by show 32<=(b.map aj).length;simp[S]);rw[show aM η 32 (br b).cells=br b by rw[aM,if_pos rfl,Φ (by show(b.map aj).length<=32;simp[S])];rfl]at T;exact⟨o,n,T⟩
 have s:=D c h z G;have t:=D d y C L;clear D z C;refine aK hm Lp ?_;refine aF (λV=>?_) λV=>?_
 .rw[decide_eq_false λE=>V (by rw[E])]
 refine gv [0,1] (λa:Nat=>[(5,.v (.int .i64 (a:Int)))]) (λa=>a<=α c/\c.take a=d.take a) (λa=>α c - a) 0 ⟨a7N _,ς⟩ aO ?_;rintro a⟨B,F⟩H;refine aa ?_;refine aF (λc2=>?_) λc2=>?_
 .have W:a<α c:=δ;have u:a<α d:=δ;have x:c[a]?=β c[a]:=Ρ W;have p:d[a]?=β d[a]:=Ρ u;generalize c[a]=e at*;generalize d[a]=v at*;obtain⟨o,I,K⟩:=s a e x;obtain⟨M,N,O⟩:=t a v p;have Q:=λw=>uR (I:=η) (a:=w) (G e (a7r x)) (L v (a7r p));refine aa ?_;refine aF (λaE=>?_) λaE=>?_
  .rw[decide_eq_false λE=>aE (by subst E;rw[x]at p;exact Δ p)]
  .exact⟨a+1,⟨W,by rw[a8r,a8r,F,x,p,aE]⟩,rfl,δ⟩
 .obtain rfl:a=α c:=δ;rw[a7K]at F;rw[decide_eq_true (F.trans (Φ δ))]
def iG(c:List aX)(a:List ϊ):List ϊ:=c.foldl (λa b=>kn b.bm (fe b.bf a)) a
def o0(a:aX):Nat:=a.bf.size+rN a.bm
def a5J(d P:U)(S:Nat)(b:List aX)(m:hz d S b)(T:ej e b)(M:e<=1000000)(h:List ϊ)(C:R)(V:kZ d P h C)(n:∀a∈h,α a=32)(q:α h+(b.map o0).sum<=1000000000):
  AC γ 13 [C,.ptr S 0] P λs D=>kZ d D (iG b h) s:=by
 obtain⟨N,O,E,W⟩:=m;have Q:=W.len;have X:=T.dP;have Y:=κ (V.1 _ _ E);refine aK hm Lr ?_;refine cc [1] (λa:Nat×List ϊ×R=>[(5,.v (.int .i64 (a.1:Int))),(0,a.2.2)]) (λa D=>a.1<=α b/\kZ d D a.2.1 a.2.2/\(∀F∈a.2.1,α F=32)/\α a.2.1+((b.drop a.1).map o0).sum<=1000000000/\iG (b.drop a.1) a.2.1=iG b h) (λa=>α b - a.1) (0,h,C) ⟨⟨a7N _,V,n,q,rfl⟩,aO⟩ ?_;rintro⟨k,p,a3⟩ t ⟨u,r,G,f,x⟩ Z
 dsimp only at u r G f x|-
 have v:=κ (r.1 _ _ E);refine aa ?_;refine aF (λw=>?_) λw=>?_
 .have y:k<α b:=δ;obtain⟨c,z⟩:∃c,b[k]?=β c:=⟨_,Ρ y⟩;have g:b.drop k=c::b.drop (k+1):=by rw[a7M y];congr 1;rw[Ρ y]at z;exact Δ z
  obtain⟨_,j9,k0,k1,k2,k3,a,F,rfl,i,_,j,A⟩:=W.get z;have o:=T.ok c (a7r z);have k4:=o.c;have k5:=o.dC.cf;rw[g,iG,a7S]at x;rw[g,a7C,a8E,o0]at f;have k6:=tP c.bf p;have k7:=HQ c.bm (fe c.bf p);have l:=tQ δ δ c.bf p o.dC.fu δ G;have B:=HR δ δ c.bm _ o.go l;have H:=κ (r.1 _ _ i);have k8:=j.cells;refine aa ?_;refine ah (Az δ δ c.bf a a3 d t p j r G o.dC.fu δ δ) ?_;rintro a4 I L;have v:=κ (L.1 _ _ E);have H:=κ (L.1 _ _ i);refine aa ?_;refine ah (a5H δ δ c.bm F a4 d I _ A L l o.go δ) ?_;rintro a5 k9 K;refine aa ?_;exact⟨(k+1,kn c.bm (fe c.bf p),a5),⟨y,K,B,by dsimp only;omega,x⟩,⟨rfl,rfl⟩,by dsimp only;omega⟩
 .obtain rfl:k=α b:=δ;rw[a9v,iG,a9I]at x;rw[<-x];exact⟨_,θ,r⟩
def cD(c:af)(d:Nat):Nat->ao->List ϊ->List ϊ
 |0,_,a=>a
 |h+1,b,a=>if b=az then a else match de c d b with
   |none=>cX a b.sum
   |some k=>k.kids.foldl (λa o=>cD c d h o a) (cX a b.sum)
inductive gM(a:af)(d:Nat):ao->Prop
 |nil:gM a d az
 |node {k:ao}{n:bY} (h:de a d k=β n) (aS:n.In d) (hk:∀c∈n.kids,gM a d c):gM a d k
def lU(k:af)(d:List ϊ)(o:Nat):Prop:=∀a b c,1<=a->a<=8->de k a b=β c->c.In a->b.sum∈d->bJ b<o->∀h∈c.kids,h≠az->h.sum∈d
variable{e4:List ϊ}
def lU.le{v:Nat}(a:lU B e4 e)(x:v<=e):lU B e4 v:=λb c d h k o p r y=>a b c d h k o p r δ
variable{w j4:ϊ}
def fK:w∈cX e4 j4↔w∈e4\/w=j4:=by
 unfold cX;split
 .rename_i a;constructor
  .exact .inl
  .rintro(b|rfl);exact b;exact a
 .simp
def HS{d:Type}{h:List ϊ->d->List ϊ}{b:List ϊ}:∀(c:List d),(∀a∈c,h b a=b)->c.foldl h b=b
 |[],_=>rfl
 |a::c,k=>by rw[a7S,k a ς];exact HS c λa o=>k a (by simp[o])
variable{A j2:ao}{b3:bY}
def pa(a:de B e j2=β b3)(b:A∈b3.kids):bJ A<bJ j2:=by
 have d:=(G6 a).1;have h:bJ A<=(b3.kids.map bJ).sum:=by obtain⟨k,o,c⟩:=a9b b;rw[c,a8l,a7C,ab4,a8E];omega
 omega
def HT{k:af}{c:Nat}(x:1<=c)(y:c<=8){b:List ϊ}{z:Nat}(C:lU k b z):∀(d:Nat)(a:ao),gM k c a->bJ a<d->bJ a<z->(a≠az->a.sum∈b)->cD k c d a b=b
 |0,_,_,S,_,_=>by omega
 |d+1,a,D,T,hw,hk=>by
  rw[cD];by_cases h:a=az
  .rw[if_pos h]
  rw[if_neg h];cases D with
  |nil=>exact absurd rfl h
  |node o E F=>
   rename_i G;rw[o];have hm:=hk h;have L:cX b a.sum=b:=by rw[cX,if_pos hm]
   simp only[L];exact HS _ λp r=>by
    have:=pa o r;exact HT x y C d p (F p r) δ δ λP=>C c a G x y o E hm hw p r P
def HU(h:af)(b:Nat)(k o:List ϊ)(p:Nat):Prop:=∀c∈o,c∈k\/∃a d,de h b a=β d/\d.In b/\a.sum=c/\bJ a<p
def HV(o:af):Prop:=∀a b c d h k,1<=a->a<=8->1<=b->b<=8->de o a c=β h->h.In a->de o b d=β k->k.In b->c.sum=d.sum->c=d/\h=k
def HW(x:e<=8)(d:b3.In e):nB 8 (cH b3)=(b3,⟨[],0⟩):=by
 obtain⟨o,y,z⟩:=kG d.ok;have p:(ν (α b3.rows)).toNat=α b3.rows:=by rw[a8p];omega
 have r:(ν (α b3.kids)).toNat=α b3.kids:=by rw[a8p];omega
 unfold nB cH;simp only[oD,p];rw[sP (iQ 8) gx (λb=>α b.1=e/\dk b.1) (λb h c=>DZ b 8 h δ δ c.2) b3.rows [] _ (λb c=>⟨o b c,d.rows b c⟩)];simp only[oD,r];have:=sP (hJ 8) ea (λk=>k.In e) (λk h a=>E0 k 8 δ h ⟨a.sum,a.aT,a.aS,a.key,by have:=a.nC;omega,by have:=a.nD;omega,by have:=a.nE;omega,a.my,a.live,a.mz,a.size⟩) b3.kids [] [] d.kids;rw[a8t]at this;rw[this];rfl
def tR(a:de B e A=β b3):B.m A.sum=β (cH b3):=by
 unfold de at a;split at a
 .cases a
 .rename_i d b;split at a
  .cases a
  .rename_i h hm;split at a
   .obtain rfl:=Δ a;unfold oC at hm;split at hm
    .rename_i c;obtain rfl:=Δ hm;rw[c.2.2];exact b
    .cases hm
   .cases a
def HX(h:af):HV h:=λE F G L k o _ p _ r a x b y z=>by
 have c:=tR a;have C:=tR b;rw[z,C]at c;have d:=HW p x;have D:=HW r y;rw[<-Δ c,D]at d;obtain rfl:o=k:=(aba d).1;exact⟨(rj a).eq.trans (rj b).eq.symm,rfl⟩
structure HY(a:af)(d:Nat)(z:Nat)(k:ao)(t:List ϊ)(w:Nat):Prop where
 eq:ez a d p1 z k t=(0,cD a d z k t)
 cl:lU a (cD a d z k t) w
 has:k≠az->k.sum∈cD a d z k t
 sub:∀x∈t,x∈cD a d z k t
 nw:HU a d t (cD a d z k t) (bJ k+1)
def HZ{c:af}{d o x:Nat}(ih:∀r a z,gM c d r->bJ r<o->bJ r<z->lU c a z->HY c d o r a z):∀(p:List ao)(a:List ϊ),(∀b∈p,gM c d b/\bJ b<o/\bJ b<x)->lU c a x->
  ey (ez c d p1 o) p a=(0,p.foldl (λa b=>cD c d o b a) a)/\lU c (p.foldl (λa b=>cD c d o b a) a) x/\(∀b∈p,b≠az->b.sum∈p.foldl (λa b=>cD c d o b a) a)/\(∀h∈a,h∈p.foldl (λa b=>cD c d o b a) a)/\HU c d a (p.foldl (λa b=>cD c d o b a) a) x
 |[],a,_,C=>⟨rfl,C,(λb D=>by cases D),λh k=>k,λh k=>.inl k⟩
 |b::p,a,hk,C=>by
  obtain⟨G,L,P⟩:=hk b ς;obtain⟨S,T,V,W,e⟩:=ih b a x G L P C;obtain⟨f,c2,g,E,i⟩:=HZ ih p (cD c d o b a) (λb D=>hk b (by simp[D])) T;simp only[ey,a7S,S,if_true];refine⟨f,c2,λh k F=>?_,λh k=>E h (W h k),λh k=>?_⟩
  .rcases a7J.1 k with rfl|k
   .exact E _ (V F)
   .exact g h k F
  .rcases i h k with y|y
   .rcases e h y with y|⟨r,j,l,m,n,q⟩
    .exact .inl y
    .exact .inr ⟨r,j,l,m,n,δ⟩
   .exact .inr y
def AI{r:af}(f:HV r){o:Nat}(S:1<=o)(T:o<=8):∀(x:Nat)(b:ao)(d:List ϊ)(P:Nat),gM r o b->bJ b<x->bJ b<P->lU r d P->HY r o x b d P
 |0,_,_,_,_,c,_,_=>by omega
 |x+1,b,d,P,t,A,hw,V=>by
  by_cases p:b=az
  .have h:cD r o (x+1) b d=d:=by rw[cD,if_pos p]
   exact⟨by rw[ez,if_pos p,h],by rw[h];exact V,λc=>absurd p c,λk a=>by rw[h];exact a,λk a=>by rw[h]at a;exact .inl a⟩
  by_cases hm:b.sum∈d
  .have h:=HT S T V (x+1) b t A hw λ_=>hm;refine⟨?_,by rw[h];exact V,λ_=>by rw[h];exact hm,λk a=>by rw[h];exact a,λk a=>by rw[h]at a;exact .inl a⟩;rw[ez,if_neg p,h,p1,decide_eq_false (λc=>c hm)];simp[cX,hm]
  cases t with
  |nil=>exact absurd rfl p
  |node y i B=>
   rename_i W;have N:cX d b.sum=d++[b.sum]:=by rw[cX,if_neg hm]
   have H:lU r (cX d b.sum) (bJ b):=λz C D E F G L g u k a e=>by
    rcases fK.1 g with c|c
    .exact fK.2 (.inl (V z C D E F G L c δ k a e))
    .obtain⟨rfl,_⟩:=f z o C b D W E F S T G L y i c;omega
   obtain⟨I,c2,K,j,v⟩:=HZ (x:=bJ b) (λb d P=>AI f S T x b d P) W.kids (cX d b.sum) (λk a=>⟨B k a,by have:=pa y a;omega,pa y a⟩) H;have h:cD r o (x+1) b d=W.kids.foldl (λd p=>cD r o x p d) (cX d b.sum):=by rw[cD,if_neg p,y]
   have M:=j _ (fK.2 (.inr rfl));refine⟨?_,?_,λ_=>by rw[h];exact M,λk a=>by rw[h];exact j k (fK.2 (.inl a)),?_⟩
   .rw[ez,if_neg p,h];simp only[p1,hm,not_false_eq_true,decide_true,if_true,y];exact I
   .rw[h];intro z C D E F G L g u k a e;rcases v _ g with c|⟨l,m,n,q,s,w⟩
    .rcases fK.1 c with c|c
     .exact j _ (fK.2 (.inl (V z C D E F G L c u k a e)))
     .obtain⟨_,rfl⟩:=f z o C b D W E F S T G L y i c;exact K k a e
    .obtain⟨rfl,_⟩:=f z o C l D m E F S T G L n q s.symm;exact c2 z C D E F G L g w k a e
   .rw[h];intro k a;rcases v k a with c|⟨l,m,n,q,s,w⟩
    .rcases fK.1 c with c|rfl
     .exact .inl c
     .exact .inr ⟨b,W,y,i,rfl,δ⟩
    .exact .inr ⟨l,m,n,q,s,δ⟩
def AJ{k:af}{d:Nat}(a:1<=d)(b:d<=8):∀(T:aC),T.c9 d->T.size<=1048576->dn k T->gM k d (bg T)
 |.nil,_,_,_=>.nil
 |.node C live r x,c,o,h=>by
  have y:=o;rw[Κ]at y;have z:=(vT (I:=live) a b c.r (eG a b c.a δ) (eG a b c.b δ) δ).1;refine .node (qi a b c o h) z λD p=>?_;simp only[ck,a7J,a8J,or_false]at p;rcases p with rfl|rfl
  .exact AJ a b r c.a δ h.2.1
  .exact AJ a b x c.b δ h.2.2
def wg{x:af}{b:Nat}(c:1<=b)(d:b<=8):∀(T:aC)(a:Nat)(h:List ϊ),T.c9 b->T.size<=1048576->dn x T->bJ (bg T)<a->cD x b a (bg T) h=fe T h
 |_,0,_,_,_,_,D=>by omega
 |.nil,a+1,h,_,_,_,_=>by rw[cD,bg,if_pos rfl];rfl
 |.node E live y z,a+1,h,k,o,p,F=>by
  have C:=o;rw[Κ]at C;have r:=qi c d k o p;have G:=pa r (A:=bg y) (by simp[ck]);have L:=pa r (A:=bg z) (by simp[ck]);rw[cD,if_neg (vU c d k o),r,fe];simp only[ck,a7S,a9I];rw[wg c d y a _ k.a δ p.2.1 δ,wg c d z a _ k.b δ p.2.2 δ]
def wh{x:af}{k:Nat}(d:1<=k)(h:k<=8):∀(a:Nat)(b:a1.T a),ds k a b->fc x a b->gM x k (bL a b)
 |0,b,c,o=>.node (tE d h c o) (lJ d h 0 b c).1.tn λy p=>by cases p
 |a+1,b,c,o=>.node (tE d h c o) (lJ d h (a+1) b c).1.tn λy p=>by
  obtain⟨r,z,rfl⟩:=a7G.1 (show y∈(a1.kids b).map (bL a)from p);exact wh d h a r (c.kids r z) (o.2 r z)
def wi{C:af}{p:Nat}(r:1<=p)(x:p<=8):∀(a:Nat)(d:a1.T a)(h:Nat)(c:List ϊ),ds p a d->fc C a d->bJ (bL a d)<h->cD C p h (bL a d) c=gL a d c
 |_,_,0,_,_,_,a=>by omega
 |0,d,h+1,c,k,z,F=>by
  rw[cD,if_neg (kS r x k).ne,tE r x k z];rfl
 |a+1,d,h+1,c,k,z,F=>by
  have D:=tE r x k z;rw[cD,if_neg (kS r x k).ne,D,gL];show((a1.kids d).map (bL a)).foldl _ _= _;rw[List.foldl_map];have G:∀(o:List (a1.T a))(c:List ϊ),(∀b∈o,b∈a1.kids d)->o.foldl (λd b=>cD C p h (bL a b) d) c=o.foldl (λc b=>gL a b c) c:=λo=>by
   induction o with
   |nil=>intro c _;rfl
   |cons b o ih=>intro c E;have y:=E b ς;have S:=pa D (A:=bL a b) (a7G.2 ⟨b,y,rfl⟩);rw[a7S,a7S,wi r x a b h c (k.kids b y) (z.2 b y) δ];exact ih _ λL P=>E L (by simp[P])
  exact G _ _ λb y=>y
def AK(a:af)(b:List ϊ):Prop:=∀c,lU a b c
def AL(a:1<=e)(b:e<=8)(c:gM B e A)(d:AK B e4):iB B e A e4=(0,cD B e (bJ A+1) A e4)/\AK B (cD B e (bJ A+1) A e4):=by refine⟨(AI (HX B) a b (bJ A+1) A e4 (bJ A+1) c δ δ (d _)).eq,λh=>?_⟩;exact(AI (HX B) a b (bJ A+1) A e4 (h+bJ A+1) c δ δ (d _)).cl.le δ
variable{b8:dG}
def a5K(c:1<=e)(d:e<=8)(a:hq e b8)(b:iD B b8):gM B e (dY b8):=by
 match b8,a,b with
 |none,_,_=>exact .nil
 |some ⟨h,k⟩,a,b=>exact wh c d h k (GT.fX a) b
def I0{b:af}{p:Nat}:∀(h:Nat)(c:ao)(d:List ϊ),gM b p c->bJ c<h->ez b p (gb b) h c d=(0,d)
 |0,_,_,_,r=>by omega
 |h+1,c,d,y,F=>by
  rw[ez];by_cases a:c=az
  .rw[if_pos a]
  rw[if_neg a];cases y with
  |nil=>exact absurd rfl a
  |node x G hk=>
   rename_i z;have hm:(b.m c.sum).isSome=true:=by rw[tR x];rfl
   simp only[gb,hm,if_true,x];have C:∀k:List ao,(∀a∈k,a∈z.kids)->ey (ez b p (gb b) h) k d=(0,d):=λk=>by
    induction k with
    |nil=>intro _;rfl
    |cons a k ih=>intro r;have o:=r a ς;rw[ey,I0 h a d (hk a o) (by have:=pa x o;omega),if_pos rfl];exact ih λD E=>r D (by simp[E])
   exact C _ λa o=>o
inductive gN where
 |row (r:Ω)
 |tree (h:Nat) (t:a1.T h)
def gN.it:gN->q0
 |.row a=>.row a
 |.tree b c=>.gC (bL b c)
def gN.all:gN->List Ω
 |.row a=>[a]
 |.tree b c=>a1.bc b c
def gN.ok(d:af)(a:Nat):gN->Prop
 |.row h=>bQ a h
 |.tree b c=>ds a b c/\fc d b c
def gN.a5L:gN->Nat
 |.row _=>0
 |.tree a b=>2*(a1.bc a b).length - 1
def wj(a:List gN):List Ω:=a.flatMap gN.all
def wk(a:List gN):Nat:=(a.map gN.a5L).sum
def ti.swap(a:ti):ti:=⟨a.B,a.A,a.tj,a.gone,a.nJ⟩
inductive tS(d:Nat)(k o:List gN)(r c:List Ω)(n:Int):List gN->List gN->List Ω->List Ω->Int->Prop where
 |alike (h:Nat) (t:a1.T h) (y:Nat) (z:a1.T y) (a b:List gN):k=.tree h t::a->o=.tree y z::b->(bL h t).sum=(bL y z).sum->tS d k o r c n a b r c n
 |opened (a b:List gN) (C:Int):wj a=wj k->wj b=wj o->C+wk a+wk b<=n+wk k+wk o->tS d k o r c n a b r c C
 |gone (p:Ω) (a:List gN):k=.row p::a->(o=[]\/∃x b,o=.row x::b/\bC p x=η)->tS d k o r c n a o (r++[p]) c n
 |tj (x:Ω) (b:List gN):o=.row x::b->(k=[]\/∃p a,k=.row p::a/\bC x p=η)->tS d k o r c n k b r (c++[x]) n
 |both (p x:Ω) (a b:List gN):k=.row p::a->o=.row x::b->bC p x=ι->bC x p=ι->tS d k o r c n a b r c n
def a5M(b:1<=e)(c:e<=8)(a:bQ e q)(d:bQ e b7)(h:bC q b7=η):bC b7 q=false:=by
 cases k:bC b7 q with
 |false=>rfl
 |true=>have:=(gi b c).trans q b7 q a d a h k;rw[q1]at this;cases this
def dp(a:Ω)(b:Nat):Ω:=a.take b++ε (b - α a) 0
abbrev a5N:=UInt8×Ω
def a6Z(a:a5N)(b:R):Prop:=∃c,b=.agg [aj a.1,.J (ad a.2) c]
structure a7a(d:Nat)(o b:U)(l h p:Nat)(r:af)(n:Nat)(c:af)(k:ao)(t:dG)(a:R):Prop where
 ext:Ext l h o b
 fV:bq b l h c
 a7b:∃gT eK x,b p=β (.cells (ab k gT eK x))
 sum:α k.sum=32
 sh:k.cC
 tF:fI b t a
 go:hq d t
 dP:(eh t).length<=n
 le:r.le c
 rep:c.one=ι->k=dY t/\iD c t
def a5O(v:1<=e)(w:e<=8)(b:List Ω)(o:ύ)(p:Own)(z:U)(C:aB isRow b o)(A:a1.hj bC b)(P:∀r∈b,bQ e r)(Y:α b<=12):
  AC γ 143 [.J o p,.v (.int .i64 0),.v (.int .i64 (α b)),.bG 47 [] []] z λ_ d=>d=z:=by
 refine bd hm Px ς ?_;have Z:=C.len;refine bU ?_;refine cm (λc d=>∃h:Nat,1<=h/\h<=13/\d=z/\c 0=.J o p/\c 1=.v (.int .i64 0)/\c 2=.v (.int .i64 (α b))/\c 3=.bG 47 [] []/\c 8=.v (.int .i64 (h:Int)))
  (λc _=>match c 8 with|.v (.int _ B)=>13 - B.toNat|_=>0) ⟨1,δ,δ,rfl,?_⟩ ?_
 .exact kD
 rintro c H⟨h,j9,k0,rfl,D,E,F,G,x⟩;by_cases S:(h:Int)<(α b:Int)
 .obtain⟨a,rfl⟩:∃a,h=a+1:=⟨h - 1,δ⟩;have T:b[a+1]?=β b[a+1]:=Ρ δ;have V:b[a]?=β b[a]:=Ρ δ;have y:=a8M.1 A a (a+1) δ δ δ;have W:=P _ (a7O (l:=b) (n:=a) δ);have f:=P _ (a7O (l:=b) (n:=a+1) δ);generalize b[a+1]'δ=r at T y f;generalize b[a]'δ=L at V y W;obtain⟨k1,aK,g,rfl⟩:=C.get T;obtain⟨k2,I,i,rfl⟩:=C.get V;have K:cz 1 (.J o p) (.v (.int .i64 ((a+1:Nat):Int)))=β (.bS [.J (ad r) g]):=by rw[gp δ,a7L,aK];exact hC rfl
  have M:cz 1 (.J o p) (.v (.int .i64 (a:Int)))=β (.bS [.J (ad L) i]):=by rw[gp δ,a7L,I];exact hC rfl
  have N:∀d j l,cW ι 1 d (.bS [.J (ad j) l])=β (.J (ad j) l):=λ_ _ _=>rfl;have O:((a+1:Nat):Int) - 1=(a:Int):=δ;have Q:(0:Int)<((a+1:Nat):Int):=δ;have X:kJ r L=1:=by unfold kJ;rw[a5M v w W f y,if_neg Θ,if_pos y]
  refine ak (bz @D @E @F @G @x @S) ?_;refine cm (λk d=>d=H/\k 0=.J o p/\k 1=.v (.int .i64 0)/\k 2=.v (.int .i64 (α b))/\k 3=.bG 47 [] []/\k 8=.v (.int .i64 ((a+1:Nat):Int))/\k 9=.v (.int .i64 ((a+1:Nat):Int))) (λ_ _=>0) ⟨rfl,?_⟩ ?_
  .exact cf (bh @D @E @F @G @x)
  rintro k k3⟨rfl,m,n,q,s,t,u⟩;refine ak (fF @m @n @q @s @t @u @Q @K @N @O @M) ?_;refine eR Χ (yl r L g i _) ?_;rintro _ k4⟨rfl,rfl⟩;rw[X];refine ak (bz @m @n @q @s @t @u) ?_;exact⟨⟨a+1+1,δ,δ,rfl⟩,by simp only[x];omega⟩
 .refine ak (bz @D @E @F @G @x @S) ?_;exact⟨_,θ,rfl⟩
def a5P(x:1<=e)(y:e<=8)(a:List Ω)(d:ύ)(h:Own)(k:U)(o:aB isRow a d)(z:a1.hj bC a)(C:∀D∈a,bQ e D)(E:α a<=12):
  AC γ 46 [.J d h,.bG 47 [] []] k λ_ b=>b=k:=by
 refine bd hm Mr ς ?_;have p:=o.len;refine ak @p ?_;refine ah (Zk (α a) δ k) ?_;rintro _ r⟨rfl,rfl⟩;refine ak @p ?_;refine ah (bd (t:=λ_ b=>b=r) hm NR ς ?_) ?_
 .refine bU ?_;refine cm (λc b=>b=r/\c 0=.J d h/\c 1=.v (.int .i64 0)/\c 2=.v (.int .i64 (α a))/\c 4=.bG 47 [] []) (λ_ _=>0) ⟨rfl,?_⟩ ?_
  .exact kD
  rintro c F⟨rfl,G,L,P,S⟩;have T:(α a:Int) - 0<=12:=δ;refine ak (bh @G @L @P @S @T) ?_;refine ah (a5O x y a d h F o z C E) ?_;rintro V W rfl;refine bU ?_;exact⟨_,θ,rfl⟩
 .rintro V W rfl;refine bU ?_;exact⟨_,θ,rfl⟩
def rO(b:Nat)(c:af)(d:List Ω):Except Int ao×af:=
 match dB cZ b c (a1.chunks d) []with
 |(.error h,a)=>(.error h,a)
 |(.ok bF,a)=>hn b (α bF+1) a bF
def a5Q(S:U)(o f:Nat)(D:af)(t:bq S o f D)(b:Nat)(u:1<=b)(v:b<=8)(a:List Ω)(p:ύ)(w:Own)(E:aB isRow a p)(k2:a1.hj bC a)(A:∀k∈a,bQ b k)(a13:α a<=12):
  AC γ 26 [.ptr o 0,.J p w,.v (.int .i64 (b:Int))] S λB T=>bq T o f (rO b D a).2/\Ext o f S T/\gX (rO b D a).1 B:=by
 refine bd hm LM ς ?_;have a14:=E.len;have V:∀k3,(R.agg k3).cells=k3:=λ_=>rfl;have k4:=(aP (N:=.nil) (e6:=.nil) (h6:=.nil) bl).len;have a15:=(aP (N:=.nil) (e6:=.nil) (h6:=.nil) bl).t37;have a16:putAt (ab az .nil .nil .nil) 0 (ab az .nil .nil .nil)=ab az .nil .nil .nil:=cx bl bl;have k5:∀d h k:R,putAt [d,h] 0 [k]=[k,h]:=λ_ _ _=>rfl;have k6:∀d h k:R,putAt [d,h] 1 [k]=[d,k]:=λ_ _ _=>rfl;have k7:∀d h:R,[d,h].length=2:=λ_ _=>rfl;have k8:∀d h k9 W:R,putAt [d,h] 0 [k9,W]=[k9,W]:=λ_ _ _ _=>rfl;have H:∀d h:R,List.take 2 [d,h]=[d,h]:=λ_ _=>rfl;have I:∀d h,aM η 2 [d,h]=.agg [d,h]:=λ_ _=>rfl;have a90:∀l0:Nat,(R.ptr l0 0).cells=[.ptr l0 0]:=λ_=>rfl;refine ak (c2 @V @ch) ?_;refine aN λj l=>?_;have e:=t.cA l;obtain⟨g,K⟩:∃g:U,g=S.set j (.cells (ab az .nil .nil .nil)):=⟨_,rfl⟩;have a18:S.sub g:=by rw[K];exact μ θ l
 have bz:g j=β (.cells (ab az .nil .nil .nil)):=by rw[K,ξ]
 refine ak (c2 @V @ch) ?_;rw[<-K];refine ah (yq b a p (.J p w) g E (bO.J (E.cells λ_ _=>φ)) δ) ?_;rintro _ _⟨rfl,rfl⟩;have a19:oM (b:Int) a=true:=by unfold oM;simp only[Υ,decide_eq_true_eq,a7E];exact⟨⟨δ,δ⟩,λk a27=>by rw[(A k a27).len]⟩
 rw[a19];refine ak @a8c ?_;refine ah (yy a p w _ E δ) ?_;rintro _ M⟨i,l1,rfl⟩;refine bU ?_;refine ah (a5P u v a p i M E k2 A a13) ?_;rintro _ M rfl;refine bU ?_;refine cm (λF T=>∃L:Nat,1<=L/\L<=13/\T=M/\F 0=.ptr o 0/\F 2=.v (.int .i64 (b:Int))/\F 6=.ptr j 0/\F 8=.J p i/\F 9=.v (.int .i64 (L:Int)))
  (λF _=>match F 9 with|.v (.int _ a29)=>13 - a29.toNat|_=>0) ⟨1,δ,δ,rfl,?_⟩ ?_
 .exact kD
 rintro F N⟨L,a92,a94,rfl,r,x,y,z,C⟩;by_cases l2:(L:Int)<(α p:Int)
 .obtain⟨c,rfl⟩:∃c,L=c+1:=⟨L - 1,δ⟩;have m:a[c+1]?=β a[c+1]:=Ρ δ;have l3:a[c]?=β a[c]:=Ρ δ;have n:=a8M.1 k2 c (c+1) δ δ δ;have a30:=(A _ (a7O (l:=a) (n:=c+1) δ)).len;generalize a[c+1]'δ=k at m n a30;generalize a[c]'δ=O at l3 n;obtain⟨a95,aK,l4,rfl⟩:=E.get m;obtain⟨a96,a34,l5,rfl⟩:=E.get l3;have a36:cz 1 (.J p i) (.v (.int .i64 ((c+1:Nat):Int)))=β (.bS [.J (ad k) l4]):=by rw[gp δ,a7L,aK];exact hC rfl
  have a38:cz 1 (.J p i) (.v (.int .i64 (c:Int)))=β (.bS [.J (ad O) l5]):=by rw[gp δ,a7L,a34];exact hC rfl
  have a42:∀T l6 l7,cW ι 1 T (.bS [.J (ad l6) l7])=β (.J (ad l6) l7):=λ_ _ _=>rfl;have a43:((c+1:Nat):Int) - 1=(c:Int):=δ;have a47:¬k=O:=by rintro rfl;rw[q1]at n;cases n
  refine ak (cg @r @x @y @z @C @l2 @a36 @a42 @a43 @a38) ?_;refine ah (kH k O l4 l5 N δ) ?_;rintro _ l8⟨rfl,rfl⟩;simp -dsimp -implicitDefEqProofs (disch:=first|omega|assumption|(simp only[aW,Nat.reduceAdd];try omega)) only[go_sem,simprocAttr,-List.reduceReplicate,r,x,y,z,C,a47];exact⟨⟨c+1+1,δ,δ,rfl⟩,δ⟩
 .have l9:=l1.sub _ _ bz;refine ak (fF @r @x @y @z @C @l2 @V @k5 @k6 @k7 @k8) ?_;refine aN λq s=>?_;have a97:j≠q:=by rintro rfl;rw[l9]at s;cases s
  obtain⟨P,Q⟩:∃P:U,P=N.set q (.cells [.ptr o 0,.v (.int .i64 (b:Int))]):=⟨_,rfl⟩;have n0:N.sub P:=by rw[Q];exact μ θ s
  have n1:P q=β (.cells [.ptr o 0,.v (.int .i64 (b:Int))]):=by rw[Q,ξ]
  have a48:=n0 _ _ l9;have n2:=π a18 l1.sub;have a52:S q=none:=Ο n2 s;have n3:=t.cA a52;refine ak (gq @r @x @y @z @C @V @k5 @k6 @k7 @k8 @τ @a14) ?_;rw[<-Q];have n4:(R.agg (List.take 2 [R.ptr o 0,.v (.int .i64 (b:Int))]))=dO o b:=rfl;refine ah (vi (α a) δ P) ?_;rintro _ P⟨rfl,rfl⟩;refine ak (cO @r @x @y @z @C (κ n1) @H @I @n4) ?_;have n5:a1.bT (α a)<=100000:=by unfold a1.bT;omega
  refine ah (EL a p i (a1.bT (α a)) P E δ n5) ?_;rintro _ a56⟨X,gs,a57,rfl,a61⟩;have n9:=X _ _ n1;refine ak (cO @r @x @y @z @C (κ n9) @H @I @n4) ?_;have Y:=mE (g:=a1.bT (α a)) (l:=a);have a00:=π n2 (π n0 X);refine ah (a0w a56 o f D (t.mono a00) _ gs a57 b u v a61 (λa62 m=>by have:=Y.2 a62 m;omega) (by rw[Y.1];exact n5)) ?_;rintro B l8⟨a01,Z,a02⟩;have a63:rO b D a=match dB cZ b D (a1.eE (a1.bT (α a)) a) []with
   |(.error W,G)=>(.error W,G)
   |(.ok bF,G)=>hn b (α bF+1) G bF:=rfl
  rw[a63];have a65:=λG a68 a69=>pX (c:=cZ) (d:=b) (gs:=a1.eE (a1.bT (α a)) a) (S:=D) (S':=G) (acc:=[]) (ks:=a68) a69;have a03:=(Α a00).trans Z;have a04:=Z _ _ e.1 e.2 (X _ _ a48);have a71:=Z _ _ n3.1 n3.2 n9;generalize dB cZ b D (a1.eE (a1.bT (α a)) a) []=a73 at*;obtain⟨res,G⟩:=a73;cases res with
  |error W=>obtain⟨a05,rfl⟩:=a02;refine ak (gq @r @x @y @z @C @a05 @ch @V (χ a04) @k4 @a15 @a16) ?_;exact⟨_,θ,a01.set e,a03.set l,a05,rfl⟩
  |ok bF=>obtain⟨a74,a81,a83,rfl⟩:=a02;have a06:=a65 G bF rfl;rw[Y.1]at a06;simp only[a7x]at a06;refine ak (bw @r @x @y @z @C (κ a71) @H @I) ?_;refine ah (ER l8 o f G a01 bF a74 a81 b u v a83 δ) ?_;rintro B a98⟨a84,a07,a08⟩;have a86:=a07 _ _ e.1 e.2 a04;obtain⟨a09,j9,k0,k1,W,a10,rfl⟩:=a08.shape;have a11:=aP (N:=j9) (e6:=k0) (h6:=k1) a10;have a88:=a11.len;have a89:putAt (ab az .nil .nil .nil) 0 (ab a09 j9 k0 k1)=ab a09 j9 k0 k1:=cx bl a10;refine ak (fF @r @x @y @z @C @V (χ a86) @a89 @a88 @k4 a11.t37) ?_;exact⟨_,θ,a84.set e,(a03.trans a07).set l,a08⟩
variable{b1:Int}
def a5R(c:b1=1\/b1=2\/b1=3\/b1=4):bQ 1 [b1]:=⟨rfl,λa b=>by
 obtain rfl:a=b1:=by simpa using b
 omega⟩
variable{O:List Ω}
def a5S(h:1<=e)(k:e<=8)(c:af)(d:GT e 0 (a1.leaf O)):rO e c O=(.ok (bL 0 (a1.leaf O)),dA c (cH (cZ O))):=by obtain⟨a,b,_⟩:=d.wf;rw[a1.hM]at a b;have o:=(vt h k a b d.ok).oQ;unfold rO;rw[a1.oK a b,dB,qf o];simp only[dB,a7H];rw[hn];rfl
def a5T(a:B.m (eb (cH (cZ O)))=β (cH (cZ O))):fc B 0 (a1.leaf O):=a
def pb:List Ω:=[[1],[2]]
def qp:GT 1 0 (a1.leaf pb):=by
 refine⟨⟨Θ,Θ,trivial,λb=>by omega⟩,?_,?_,Θ⟩
 .rw[a1.jt];unfold a1.hj;decide+kernel
 .rw[a1.jt];intro c a;simp only[pb,a7J,a8J,or_false]at a;rcases a with rfl|rfl<;>exact a5R δ
def eV:ao:=bL 0 (a1.leaf pb)
def qq:af:=dA af.new (cH (cZ pb))
def a5U:rO 1 af.new pb=(.ok eV,qq):=a5S δ δ _ qp
def AM:fc qq 0 (a1.leaf pb):=a5T (by unfold qq dA;simp[af.new])
def I1:iY 1 (a1.bc 0 (a1.leaf pb)).length eV:=kS δ δ qp.fX
def a5V:iB qq 1 eV []=(0,[eV.sum]):=by have a:=(AL δ δ (wh δ δ 0 _ qp.fX AM) (e4:=[]) λ_ _ _ _ _ _ _ _ a=>by cases a).1;rw[wi δ δ 0 _ _ [] qp.fX AM δ]at a;exact a
def a5W:dm qq 1 eV []=(0,[]):=I0 _ _ _ (wh δ δ 0 _ qp.fX AM) δ
def a5X:dm af.new 1 eV []=(0,[eV.sum]):=by have:(af.new.m eV.sum).isSome=false:=rfl;rw[dm,ez,if_neg I1.ne];simp[gb,this,cX]
def a5Y(z:U):AC γ 6 [] z λT _=>T=.v (.bool η):=by
 have M:=ch;have N:=(aP (N:=.nil) (e6:=.nil) (h6:=.nil) bl).all;have O:=@τ;refine aK hm Ld ?_;refine ah (uX z) ?_;rintro _ Q⟨h,k,X,Y,rfl,V,Z⟩;refine aa ?_;refine dJ θ (by simp[aY,σ]) λW j9 e=>?_;refine aa ?_;refine dJ θ (by simp[aY,σ]) λf k0 g=>?_;refine aa ?_;refine dJ θ (by simp[aY,σ]) λi fL j=>?_;have l:=π e.sub (π g.sub j.sub);refine aa ?_;refine ah (a5Q fL h k af.new (V.mono l) 1 δ δ pb [.J (ad [1]) W,.J (ad [2]) f] i ⟨⟨_,rfl⟩,⟨_,rfl⟩,trivial⟩ qp.ec qp.ok Θ) ?_;rw[a5U];rintro _ C⟨D,k1,a,o,b,c,d,rfl⟩;have k2:=(aP (N:=b) (e6:=c) (h6:=d) a).all;have k3:putAt (ab az .nil .nil .nil) 0 (ab eV b c d)=ab eV b c d:=cx bl a;have m:eV.size=2:=I1.size;have p:bJ eV<=1000000000:=by rw[bJ,m];decide
 have r:eV≠az->1<=eV.size:=λ_=>by omega
 refine aa ?_;refine bs λn q=>?_;have E:=μ (Y:=.cells (ab eV b c d)) (θ (f:=C)) q;have c2:=ξ C n (.cells (ab eV b c d));refine ah (a3c _ h k qq (D.mono E) eV b c d a (λ_=>o) r p 1 δ δ) ?_;rw[a5V];rintro _ s⟨F,G,_⟩;obtain⟨k4,rfl⟩:=G rfl;clear G;have aE:=F _ _ c2;have x:=κ aE;refine aa ?_;refine ah (uX s) ?_;rintro _ t⟨u,v,_,_,rfl,w,L⟩;have x:=κ (L _ _ aE);refine aa ?_;refine ah (Gb t u v af.new w eV b c d a (λ_=>o) r p 1 δ δ) ?_;rw[a5X];rintro _ A⟨B,P,_⟩;obtain⟨k5,rfl⟩:=P rfl;clear P;have y:=π L B;have x:=κ (y _ _ aE);refine aa ?_;refine ah (Gb A h k qq (D.mono (π E (π F y))) eV b c d a (λ_=>o) r p 1 δ δ) ?_;rw[a5W];rintro _ k6⟨H,S,_⟩;obtain⟨k7,rfl⟩:=S rfl;clear S;have x:=κ (H _ _ (y _ _ aE));have k8:=λI=>uR (I:=ι) (a:=I) a a;have k9:R.agg (eV.sum.map aj)=br eV.sum:=rfl;have K:(eV.sum.map aj).length=32:=by simp[a]
 have l0:eV.sum.take 32=eV.sum:=Φ δ;have l1:(br eV.sum).cells.length=32:=K;have l2:(br eV.sum).cells=eV.sum.map aj:=rfl;refine aa ?_;exact⟨_,θ⟩
def a5Z(p:ej e a7)(r:e<=1000):∀o∈a7.map Λ,o.In:=λo x=>by
 obtain⟨h,y,rfl⟩:=a7G.1 x;have c:=p.ok h y;have C:=c.c;have D:=c.dC.cf;have a:=(eG δ δ c.dC.fu δ).kR δ;refine⟨GW (c.bI r),?_,?_⟩
 .show(bg h.bf).In 8;have:=a.nC;have:=a.nD;have:=a.nE;exact⟨a.sum,a.aT,a.aS,a.key,δ,δ,δ,a.my,a.live,a.mz,a.size⟩
 .show(dY h.bm).In 8;rcases Hq δ δ c.go with⟨_,k⟩|⟨_,k⟩
  .rw[k];have d:dk []:=λE z=>(by cases z);exact⟨bl,d,d,d,a7N _,a7N _,a7N _,Θ,Θ,Θ,Θ⟩
  .have d:=c.nZ.length_eq;have F:=c.dP;have b:=k.kR δ;have:=b.nC;have:=b.nD;have:=b.nE;exact⟨b.sum,b.aT,b.aS,b.key,δ,δ,δ,b.my,b.live,b.mz,b.size⟩
def wm(d h:U):Prop:=∀b a c,d b=β (.cells (a::c))->((∃k o,a=.J k o)\/∃p,a=bo p)->h b=β (.cells (a::c))
def dQ.pc{b c:U}(a:wm b c):∀ {d:aC}{h:R},dQ b d h->dQ c d h
 |.nil,_,k=>k
 |.node _ _ _ _,_,⟨o,p,r,x,h1,y,z,C⟩=>⟨o,p,r,x,h1,a _ _ _ y (.inl ⟨_,_,rfl⟩),z.pc a,C.pc a⟩
def hy.pc{b c:U}(a:wm b c){d:aX}{h:R}(o:hy b d h):hy c d h:=by obtain⟨p,r,x,y,k,z,C,D,E,F,G⟩:=o;exact⟨p,r,x,y,k,z,C,a _ _ _ D (.inr ⟨_,rfl⟩),E,F.pc a,G.Hu λP S T k V L=>a _ _ _ L (.inl ⟨_,_,rfl⟩)⟩
def hz.pc{b c:U}(d:wm b c){h:Nat}{k:List aX}(a:hz b h k):hz c h k:=by obtain⟨o,p,r,x⟩:=a;exact⟨o,p,d _ _ _ r (.inl ⟨_,_,rfl⟩),x.mono λy z a=>a.pc d⟩
variable{f s e0:U}
theorem cB.rs(c:dI f e i v B e3)(h:cB e i v f s):wm f s:=λk r x a d=>by
 obtain⟨y,z,o,_⟩:=c.x;obtain⟨C,D,p⟩:=c.fV.at_;obtain⟨E,⟨F,G,L,_⟩,_⟩:=c.fV.mp;refine h k _ ?_ ?_ ?_ a
 .rintro rfl;rw[o]at a;obtain⟨rfl,_⟩:=aaI (bu.cells.inj (Δ a));rcases d with⟨_,_,b⟩|⟨_,b⟩<;>cases b
 .rintro rfl;rw[p]at a;obtain⟨rfl,_⟩:=aaI (bu.cells.inj (Δ a));rcases d with⟨_,_,b⟩|⟨_,b⟩<;>cases b
 grind
def dI.a6a(a:dI f i v M B e3)(o:hz f e a7)(d:eH e f s):dI s i v M B e3:=by
 obtain⟨p,r,h,x⟩:=a.x;obtain⟨D,E,b⟩:=a.fV.at_;obtain⟨F,⟨G,L,c,P⟩,S⟩:=a.fV.mp;obtain⟨T,V,k,_⟩:=o;have y:i≠e:=by rintro rfl;rw[k]at h;cases h
 have z:v≠e:=by rintro rfl;rw[k]at b;cases b
 have C:M≠e:=by rintro rfl;rw[k]at c;cases c
 exact⟨a.fV.other (by rw[b];exact d _ _ z b) (by rw[c];exact d _ _ C c),⟨p,r,d _ _ y h,x⟩,a.nX,a.nY⟩
structure qs(b:U)(c gG d W:Nat)(a:af)(l:List aU)(cL:List aX)(n:Nat):Prop where
 st:dI b c gG d a l
 cat:cJ l=η
 rs:hz b W cL
 inv:ej n cL
 rep:a.one=ι->wc a l cL
def qs.sub{b c:U}{d h k o p:Nat}{r:af}{x:List aU}{y:List aX}(a:qs b d h k o r x y p)(z:b.sub c):qs c d h k o r x y p:=⟨a.st.sub z,a.cat,a.rs.sub z,a.inv,a.rep⟩
def qs.step{L y z:U}{h k o p C:Nat}{D:af}{P:List aU}{r:List aX}(a:qs L h k o p D P r C)(E:C<900){c:dt}(F:dk c.row){b:Int×List aU×af}(x:iC D P c b)
  (S:dI y h k o b.2.2 b.2.1) (T:cB h k o L y) (V:hz z p (hx r c).2) (W:eH p y z):qs z h k o p b.2.2 b.2.1 (hx r c).2 (C+1)/\D.le b.2.2/\(b.2.2.one=ι->b.1=(hx r c).1):=by
 have G:=a5F x;have e:=a.rs.pc (T.rs a.st);refine⟨⟨S.a6a e W,a5G a.cat x,V,a5b a.inv E F,λd=>(HP x a.inv E F (a.rep (G.zero d)) d).2⟩,G,λd=>(HP x a.inv E F (a.rep (G.zero d)) d).1⟩
def dt.tT(a:dt):Prop:=α a.table<=100/\α a.aD<=20/\(∀b∈a.aD,α b<=100)/\α a.row<=50
def dt.tT.fit(a:h2.tT):h2.Fit:=⟨by have:=a.1;omega,by have:=a.2.1;omega,λb c=>by have:=a.2.2.1 b c;omega,by have:=a.2.2.2;omega⟩
theorem a6b(c:List du)(D:Own)(p:U)(W:α c<=9223372036854775807):
  AC γ 7 [.J (lT c) D] p λE F=>F=p/\∃r,E=.v (.bool r)/\(r=ι->α c<=300/\∀h∈c,h.d.tT):=by
 have e:=AF (a:=c);refine aK hm Lf ?_;refine aF (λx=>?_) λf=>?_;simp;refine gv [0] (λd:Nat=>[(3,.v (.int .i64 d))]) (λd=>d<=α c/\∀h∈c.take d,h.d.tT) (λd=>α c - d) 0 ⟨a7N _,λh k=>by cases k⟩ aO ?_;rintro d⟨g,G⟩L;refine aa ?_;refine aF (λx=>?_) λx=>?_
 .have o:d<α c:=δ;have P:=Ρ o;have i:=HL P;have S:=a8y o;generalize c[d]=a at*;have j:=du.m1 (a:=a);have l:=du.m2 (a:=a);have m:=du.m3 (a:=a);have n:=du.a1H (a:=a);have q:=iZ (e4:=a.d.aD);have s:=bN (q:=a.d.row);have t:=tr (w:=a.d.table);generalize a.C=u at*;refine aa ?_;refine aF (λT=>?_) λT=>?_;rotate_left;simp;refine aF (λc2=>?_) λc2=>?_;rotate_left;simp;refine aF (λaE=>?_) λaE=>?_;simp;refine gv [0,3] (λb:Nat=>[(4,.v (.int .i64 b))]) (λb=>b<=α a.d.aD/\∀V∈a.d.aD.take b,α V<=100) (λb=>α a.d.aD - b) 0 ⟨a7N _,λh k=>by cases k⟩ aO ?_;rintro b⟨v,y⟩L;refine aa ?_;refine aF (λaL=>?_) λaL=>?_
  .have z:b<α a.d.aD:=δ;have w:=ts z;have A:a.d.aD.take (b+1)=a.d.aD.take b++[a.d.aD.getD b []]:=eX z;have B:=tr (w:=a.d.aD.getD b []);generalize a.d.aD.getD b []=H at*;refine aa ?_;refine aF (λbh=>?_) λbh=>?_;simp;grind
  .obtain rfl:b=α a.d.aD:=δ;rw[a7K]at y;refine⟨d+1,⟨o,λh C=>?_⟩,rfl,δ⟩;rw[S]at C;rcases a7z.1 C with k|k
   .exact G h k
   .obtain rfl:=a7I.1 k;exact⟨δ,δ,y,δ⟩
 grind
def a6c:ϊ:=cH (ck ([1,5],η) az az)
def a6d:ϊ:=cH (cZ [[1,5]])
def xS:af:=dA (dA af.new a6c) a6d
def a6e:aX:=⟨[116],[[97]],[],.nil,ζ⟩
def a7c:aX:=a6e.put [1,5]
def a7d:dt:=⟨1,[116],[[97]],[]⟩
def a7e:dt:=⟨3,[116],[],[1,5]⟩
def a7f:dt:=⟨3,[116],[],[1,6]⟩
def a7g:dt:=⟨3,[116],[],[2,3,4]⟩
def a7h:dt:=⟨4,[116],[],[1,6]⟩
def a7i:dt:=⟨2,[116],[],[]⟩
def a6f:cJ []=true:=(ej.nil (n:=0)).cat δ
structure o1(a b:U)(c gG d W:Nat)(h:af)(l:List aU)(cL:List aX)(n:Nat):Prop where
 lV:qs b c gG d W h l cL n
 sub:a.sub b
 AN:a c=ζ
 AO:a gG=ζ
 AP:a d=ζ
 vn:a W=ζ
def o1.step{D E x y:U}{h k o p z:Nat}{C:af}{F:List aU}{r:List aX}(a:o1 D E h k o p C F r z)(T:z<900){d:dt}(V:dk d.row){c:Int×List aU×af}(W:iC C F d c)
  (e:dI x h k o c.2.2 c.2.1) (G:cB h k o E x) (f:hz y p (hx r d).2) (L:eH p x y):o1 D y h k o p c.2.2 c.2.1 (hx r d).2 (z+1)/\C.le c.2.2/\(c.2.2.one=ι->c.1=(hx r d).1):=by
 obtain⟨g,i,j⟩:=a.lV.step T V W e G f L;refine⟨⟨g,λP S b=>L P S ?_ (G P S ?_ ?_ ?_ (a.sub _ _ b)),a.AN,a.AO,a.AP,a.vn⟩,i,j⟩
 .rintro rfl;rw[a.vn]at b;cases b
 .rintro rfl;rw[a.AN]at b;cases b
 .rintro rfl;rw[a.AO]at b;cases b
 .rintro rfl;rw[a.AP]at b;cases b
def o1.mono(a:o1 f s e i v M B e3 a7 b9)(b:s.sub e0):o1 f e0 e i v M B e3 a7 b9:=⟨a.lV.sub b,π a.sub b,a.AN,a.AO,a.AP,a.vn⟩
def a6g(p:List du)(j:Own)(r:U)(l:∀P∈p,P.d.tT/\dk P.d.row)(Y:α p<=9223372036854775807):
  AC γ 8 [.J (lT p) j] r λS D=>S=.aJ [.v (.pointer ζ),.v (.pointer ζ)]\/∃d h k W o x y T,S=.aJ [.ptr d 0,.ptr W 0]/\T<=30/\o.one=ι/\o1 r D d h k W o x y T:=by
 have Z:=AF (a:=p);refine aK hm Lh ?_;refine ah (a4m r) ?_;rintro _ m⟨d,h,k,rfl,E,n,q,s,t⟩;refine aa ?_;refine aN λW F=>?_;have u:=t.sub (μ (Y:=.cells [.J [] .nil]) θ F);have a:o1 r (m.set W (.cells [.J [] .nil])) d h k W af.new [] [] 0:=⟨⟨u,a6f,⟨[],.nil,ξ _ _ _,trivial⟩,ej.nil,λ_=>⟨rfl,λj9 G=>by cases G⟩⟩,μ E (Ο E F),n,q,s,Ο E F⟩;refine aa ?_;refine cc [0,4,5] (λb:Nat×af×List aU×List aX=>[(6,.v (.int .i64 (b.1)))]) (λb D=>b.1<=30/\b.1<=α p/\o1 r D d h k W b.2.1 b.2.2.1 b.2.2.2 b.1) (λb=>30 - b.1) (0,af.new,[],[]) ⟨⟨ς,a7N _,a⟩,aO⟩ ?_;rintro⟨z,o,x,y⟩ L ⟨v,w,a⟩ k0
 dsimp only at v w a|-
 refine aa ?_;refine aF (λA=>?_) λA=>?_;refine aF (λaL=>?_) λaL=>?_
 .have V:z<α p:=δ;have e:=Ρ V;have k1:=HL e;obtain⟨f,g⟩:=l _ (a7r e);generalize p[z]=c at*;have B:=a4C L d h k o x a.lV.st (AH a.lV.cat) a.lV.cat c f.fit;have H:=λC G=>a5y C W z y G a.lV.inv δ c f.fit g;have k2:α c.C=4:=rfl;have k3:(.agg (c.C.take 4))=c.V:=rfl;have k4:aM η 4 c.C=c.V:=rfl;generalize c.C=k5 at*;generalize c.V=k6 at*;refine aa ?_;refine ah B ?_;rintro _ C⟨res,I,rfl,K,i⟩;refine aa ?_;refine ah (H C (a.lV.rs.pc (i.rs a.lV.st))) ?_;rintro _ k7⟨M,N,rfl⟩;obtain⟨O,k8,k9⟩:=a.step δ g I K i M N;refine aa ?_;exact⟨(z+1,res.2.2,res.2.1,(hx y c.d).2),⟨by simp only;omega,V,O⟩,rfl,by simp only;omega⟩
 all_goals
  refine bp (Aa L d h k o x a.lV.st) ?_;refine ah (ZN L h k o a.lV.st.fV) ?_;rintro _ C⟨Q,l0,l1,rfl⟩;cases X:o.one with
  |true=>refine aa ?_;exact⟨_,θ,.inl trivial⟩
  |false=>refine aa ?_;exact⟨_,θ,.inr ⟨d,h,k,W,o,x,y,z,rfl,δ,X,a.mono Q⟩⟩
def I2{k:Nat}:∀(a:Nat)(b:a1.T a),ds k a b->jK a b<=(a+1)*(a1.bc a b).length
 |0,b,d=>by
  have:=a8q.2 d.ne;rw[jK];omega
 |a+1,b,d=>by
  have C:=a8q.2 d.ne;have p:∀c:List (a1.T a),(∀h∈c,ds k a h)->(c.map (jK a)).sum<=(a+1)*(c.flatMap (a1.bc a)).length:=λc=>by
   induction c with
   |nil=>intro _;simp
   |cons h c ih=>intro o;have D:=I2 a h (o h ς);have E:=ih λr x=>o r (by simp[x]);rw[a7C,a8E,a7P,Ψ,Nat.mul_add];omega
  have y:=p (a1.kids b) d.kids;have z:a1.bc (a+1) b=(a1.kids b).flatMap (a1.bc a):=a1.fU (a:=a1.kids b);rw[<-z]at y;rw[jK];rw[aav];omega
def AQ{c:Type}{d:c->Nat}{h:Nat}:∀(a:List c),(∀b∈a,d b<=h)->(a.map d).sum<=α a*h
 |[],_=>by simp
 |b::a,k=>by
  have r:=k b ς;have x:=AQ a λo p=>k o (by simp[p]);rw[a7C,a8E,a7s,aav];omega
def a6h(a:eA e h5)(F:e<=1000):o0 h5<=2000000/\mL h5.bI<=4000/\(h5.bI.bf≠az->1<=h5.bI.bf.size)/\(h5.bI.bm≠az->1<=h5.bI.bm.size):=by
 have G:=a.c;have L:=a.dC.cf;have h:=a.nZ.length_eq;have P:=a.dP;have C:=eG (a:=α h5.aD+1) δ δ a.dC.fu δ;have r:(h5.bI.bf).size=h5.bf.size:=C.size;have x:h5.bI.bm=dY h5.bm:=rfl;have y:rN h5.bm<=1000000/\((dY h5.bm)=az\/(dY h5.bm).size=(eh h5.bm).length/\1<=(eh h5.bm).length):=by
  have o:=a.go;revert h o
  match h5.bm with
  |none=>exact λ_ _=>⟨by simp[rN],.inl rfl⟩
  |some ⟨b,d⟩=>intro h o;have h:(a1.bc b d).length=α h5.rows:=h;have p:=GT.fX o;have D:=I2 b d p;have E:=ds.high b d p;have z:=kS δ δ p;have S:(b+1)*(a1.bc b d).length<=1000*1000:=aak δ δ;exact⟨by show jK b d<= _;omega,.inr ⟨z.size,z.pos⟩⟩
 refine⟨?_,?_,λk=>?_,λk=>?_⟩
 .rw[o0];omega
 .rw[mL,bJ,bJ,r,x];rcases y.2 with c|⟨c,_⟩
  .rw[c];show _+(2*0 - 1)<= _;omega
  .rw[c];omega
 .rw[r];cases hk:h5.bf with
  |nil=>exact absurd (by show bg h5.bf=az;rw[hk];rfl) k
  |node T live D E=>rw[Κ];omega
 .rw[x]at k|-;rcases y.2 with c|⟨c,V⟩
  .exact absurd c k
  .omega
def lg(c d:af):Prop:=∀a b,c.m a=β b->d.m a=β b
def lg.get{b:af}(d:lg B b)(a:de b e A=β b3)(h:(B.m A.sum).isSome=η):de B e A=β b3:=by obtain⟨o,c⟩:=a7Y.1 h;have k:=d _ _ c;unfold de at a|-;rw[c];rw[k]at a;exact a
structure a6i(b c:af)(d z:Nat)(k:ao)(t:List ϊ)(a:Int×List ϊ):Prop where
 e:a.1=0
 new:∀x∈a.2,x∈t\/b.m x=ζ/\x∈cD c d z k []
 sub:∀x∈t,x∈a.2
 nW:t.Nodup->a.2.Nodup
 all:a.2=[]->gM b d k
def rP{o:Type}{d:List ϊ->o->List ϊ}(p:∀c a b,b∈a->b∈d a c):∀(h:List o)(a:List ϊ)(b),b∈a->b∈h.foldl d a
 |[],_,_,k=>k
 |c::h,a,b,k=>rP p h (d a c) b (p c a b k)
def AR{k:af}{o:Nat}:∀(d:Nat)(h:ao)(c:List ϊ)(b),b∈c->b∈cD k o d h c
 |0,_,_,_,a=>a
 |d+1,h,c,b,a=>by
  rw[cD];split
  .exact a
  split
  .exact fK.2 (.inl a)
  .exact rP (λp c b a=>AR d p c b a) _ _ b (fK.2 (.inl a))
def I3{y:af}{z:Nat}:∀(p:Nat)(r:ao)(a c:List ϊ)(d),(∀h∈a,h∈c)->d∈cD y z p r a->d∈cD y z p r c
 |0,_,_,_,d,o,b=>o d b
 |p+1,r,a,c,d,o,b=>by
  rw[cD]at b|-;split at b
  .rename_i k;rw[if_pos k];exact o d b
  rename_i k;rw[if_neg k];have E:∀h∈cX a r.sum,h∈cX c r.sum:=λh C=>by
   rcases fK.1 C with D|D
   .exact fK.2 (.inl (o h D))
   .exact fK.2 (.inr D)
  split at b
  .exact E d b
  .rename_i G L;have F:∀(x:List ao)(a c:List ϊ),(∀h∈a,h∈c)->d∈x.foldl (λa k=>cD y z p k a) a->d∈x.foldl (λa k=>cD y z p k a) c:=λx=>by
    induction x with
    |nil=>intro a c o b;exact o d b
    |cons k x ih=>intro a c o b;exact ih _ _ (λh C=>I3 p k a c h o C) b
   exact F _ _ _ E b
def a6j(a:e4.Nodup):(cX e4 w).Nodup:=by
 unfold cX;split
 .exact a
 .rename_i c;rw[aaK];exact⟨a,ς,λk d o b h=>by rw[a7I]at b;subst b;subst h;exact c d⟩
def AS{h D:af}(V:lg h D){r:Nat}:∀(o:Nat)(p:ao)(c:List ϊ),gM D r p->bJ p<o->a6i h D r o p c (ez h r (gb h) o p c)
 |0,_,_,_,b=>by omega
 |o+1,p,c,e,u=>by
  rw[ez];by_cases d:p=az
  .rw[if_pos d];exact⟨rfl,λa k=>.inl k,λa k=>k,λb=>b,λ_=>by rw[d];exact .nil⟩
  rw[if_neg d];cases e with
  |nil=>exact absurd rfl d
  |node E f hk=>
   rename_i G;have g:p.sum∈cD D r (o+1) p []:=by rw[cD,if_neg d,E];exact rP (λd c a b=>AR o d c a b) _ _ _ (fK.2 (.inr rfl))
   cases hm:(h.m p.sum).isSome with
   |false=>
    have i:h.m p.sum=none:=by cases b:h.m p.sum with|none=>rfl|some v=>rw[b]at hm;cases hm
    simp only[gb,hm,a8o,if_false];refine⟨rfl,λa k=>?_,λa k=>fK.2 (.inl k),a6j,λb=>?_⟩
    .rcases fK.1 k with b|rfl
     .exact .inl b
     .exact .inr ⟨i,g⟩
    .have C:p.sum∈cX c p.sum:=fK.2 (.inr rfl);have b:cX c p.sum=[]:=b;rw[b]at C;cases C
   |true=>
    have W:=V.get E hm;simp only[gb,hm,if_true,W];have j:∀(y:List ao)(c:List ϊ),(∀d∈y,d∈G.kids)->(ey (ez h r (gb h) o) y c).1=0/\(∀a∈(ey (ez h r (gb h) o) y c).2,a∈c\/h.m a=ζ/\∃d∈G.kids,a∈cD D r o d [])/\(∀a∈c,a∈(ey (ez h r (gb h) o) y c).2)/\(c.Nodup->(ey (ez h r (gb h) o) y c).2.Nodup)/\((ey (ez h r (gb h) o) y c).2=[]->∀d∈y,gM h r d):=λy=>by
     induction y with
     |nil=>exact λc _=>⟨rfl,λa k=>.inl k,λa k=>k,λb=>b,λ_ d z=>by cases z⟩
     |cons d y ih=>
      intro c b;have z:=b d ς;obtain⟨l,m,a3,a4,a5⟩:=AS V o d c (hk d z) (by have:=pa E z;omega);obtain⟨L,P,F,S,T⟩:=ih (ez h r (gb h) o d c).2 λa k=>b a (by simp[k]);rw[ey,if_pos l];refine⟨L,λa k=>?_,λa k=>F a (a3 a k),λb=>S (a4 b),λb a k=>?_⟩
      .rcases P a k with x|x
       .rcases m a x with x|⟨x,C⟩
        .exact .inl x
        .exact .inr ⟨x,d,z,C⟩
       .exact .inr x
      .rcases a7J.1 k with rfl|k
       .refine a5 ?_;cases n:(ez h r (gb h) o a c).2 with
        |nil=>rfl
        |cons q w=>have:=F q (by rw[n];simp);rw[b]at this;cases this
       .exact T b a k
    obtain⟨L,P,F,S,T⟩:=j G.kids c λd z=>z;refine⟨L,λa k=>?_,F,S,λb=>.node W f (T b)⟩;rcases P a k with x|⟨x,c2,s,C⟩
    .exact .inl x
    .refine .inr ⟨x,?_⟩;rw[cD,if_neg d,E];obtain⟨A,B,t⟩:=a9b s;simp only[t,a9g,a7S];exact rP (λd c a b=>AR o d c a b) _ _ _ (I3 o c2 [] _ a (λ_ b=>by cases b) C)
def AT{p r:af}(x:lg p r){c:Nat}:∀(d:Nat)(h:ao)(b:List ϊ),gM p c h->cD p c d h b=cD r c d h b
 |0,_,_,_=>rfl
 |d+1,h,b,C=>by
  rw[cD,cD];by_cases a:h=az
  .rw[if_pos a,if_pos a]
  rw[if_neg a,if_neg a];cases C with
  |nil=>exact absurd rfl a
  |node k T hk=>
   rename_i y;have D:=x _ _ (tR k);have E:de r c h=β y:=by have F:=tR k;unfold de at k|-;rw[D];rw[F]at k;exact k
   rw[k,E];have G:∀(o:List ao)(b:List ϊ),(∀a∈o,a∈y.kids)->o.foldl (λb a=>cD p c d a b) b=o.foldl (λb a=>cD r c d a b) b:=λo=>by
    induction o with
    |nil=>intro _ _;rfl
    |cons a o ih=>intro b z;rw[a7S,a7S,AT x d a b (hk a (z a ς))];exact ih _ λL P=>z L (by simp[P])
   exact G _ _ λa S=>S
def AU{r:Type}{d:List ϊ->r->List ϊ}:∀(h:List r)(a b:List ϊ),(∀c∈h,∀a b,(∀k∈a,k∈b)->∀o∈d a c,o∈d b c)->(∀k∈a,k∈b)->∀o∈h.foldl d a,o∈h.foldl d b
 |[],_,_,_,p=>p
 |c::h,a,b,x,p=>AU h (d a c) (d b c) (λc y=>x c (by simp[y])) (x c ς a b p)
def AV{c:List ϊ}(d:∀a∈e4,a∈c):∀a∈cX e4 w,a∈cX c w:=λa h=>by
 rcases fK.1 h with b|b
 .exact fK.2 (.inl (d a b))
 .exact fK.2 (.inr b)
def AW:∀(T:aC)(b:List ϊ)(a),a∈b->a∈fe T b
 |.nil,_,_,c=>c
 |.node k live d h,b,a,c=>AW h _ a (AW d _ a (fK.2 (.inl c)))
def I4:∀(a:Nat)(h:a1.T a)(c:List ϊ)(b),b∈c->b∈gL a h c
 |0,_,_,_,a=>fK.2 (.inl a)
 |a+1,h,c,b,d=>rP (λk c b d=>I4 a k c b d) _ _ b (fK.2 (.inl d))
def I5(c:dG)(a:List ϊ)(b)(d:b∈a):b∈kn c a:=by
 match c with
 |none=>exact d
 |some ⟨h,k⟩=>exact I4 h k a b d
def I6(d:List aX)(b:List ϊ)(a)(c:a∈b):a∈iG d b:=rP (λh b a c=>I5 h.bm _ a (AW h.bf b a c)) d b a c
def I7:∀(a:Nat)(d:a1.T a)(b c:List ϊ),(∀k∈b,k∈c)->∀o∈gL a d b,o∈gL a d c
 |0,_,_,_,a=>AV a
 |a+1,d,b,c,h=>AU _ _ _ (λp _ b c h=>I7 a p b c h) (AV h)
def I8(a:dG)(b c:List ϊ)(d:∀h∈b,h∈c):∀k∈kn a b,k∈kn a c:=by
 match a with
 |none=>exact d
 |some ⟨o,p⟩=>exact I7 o p b c d
def AX:∀(T:aC)(a b:List ϊ),(∀d∈a,d∈b)->∀h∈fe T a,h∈fe T b
 |.nil,_,_,c=>c
 |.node p live k o,a,b,c=>AX o _ _ (AX k _ _ (AV c))
def a6k(c:List aX)(a b:List ϊ)(d:∀k∈a,k∈b):∀o∈iG c a,o∈iG c b:=AU c a b (λh _ a b d=>I8 h.bm _ _ (AX h.bf a b d)) d
def I9{c y:af}(F:lg c y){L:Nat}(T:L<=1000):∀(k:List aX)(h:List ϊ),(∀b∈k,eA L b/\dn y b.bf/\iD y b.bm)->
  (eM dm c (k.map Λ) h).1=0/\(∀b∈(eM dm c (k.map Λ) h).2,b∈h\/c.m b=ζ/\b∈iG k [])/\(∀b∈h,b∈(eM dm c (k.map Λ) h).2)/\(h.Nodup->(eM dm c (k.map Λ) h).2.Nodup)/\((eM dm c (k.map Λ) h).2=[]->∀b∈k,gM c (α b.aD+1) (bg b.bf)/\gM c (α b.aD+1) (dY b.bm))
 |[],h,_=>⟨rfl,λb o=>.inl o,λb o=>o,λd=>d,λ_ b o=>by cases o⟩
 |a::k,h,P=>by
  obtain⟨r,S,D⟩:=P a ς;have v:=r.c;have w:=r.dC.cf;have V:=AJ (d:=α a.aD+1) δ δ a.bf r.dC.fu δ S;have W:=a5K (e:=α a.aD+1) δ δ r.go D;have z:=AS F (bJ (bg a.bf)+1) (bg a.bf) h V δ;have x:=AS F (bJ (dY a.bm)+1) (dY a.bm) (dm c (α a.aD+1) (bg a.bf) h).2 W δ;have e:¬8<(Λ a).aD.length+1:=by show¬8<α a.aD+1;omega
  have f:ey (dm c ((Λ a).aD.length+1)) [(Λ a).bf,(Λ a).bm] h=(0,(dm c (α a.aD+1) (dY a.bm) (dm c (α a.aD+1) (bg a.bf) h).2).2):=by have g:(dm c ((Λ a).aD.length+1) (Λ a).bf h).1=0:=z.e;have i:(dm c ((Λ a).aD.length+1) (Λ a).bm (dm c ((Λ a).aD.length+1) (Λ a).bf h).2).1=0:=x.e;rw[ey,if_pos g,ey,if_pos i,ey];rfl
  have j:eM dm c ((a::k).map Λ) h=eM dm c (k.map Λ) (dm c (α a.aD+1) (dY a.bm) (dm c (α a.aD+1) (bg a.bf) h).2).2:=by rw[a7C,eM,if_neg e,f,if_pos rfl]
  obtain⟨l,c2,aE,aL,bh⟩:=I9 F T k (dm c (α a.aD+1) (dY a.bm) (dm c (α a.aD+1) (bg a.bf) h).2).2 λb o=>P b (by simp[o]);rw[j];have m:iG (a::k) []=iG k (kn a.bm (fe a.bf [])):=rfl;have n:=wg (x:=y) (b:=α a.aD+1) δ δ a.bf (bJ (bg a.bf)+1) [] r.dC.fu δ S δ;have q:cD y (α a.aD+1) (bJ (dY a.bm)+1) (dY a.bm) []=kn a.bm []:=by
   have G:=r.go;revert D G
   match a.bm with
   |none=>exact λ_ _=>by rw[cD,dY,if_pos rfl];rfl
   |some ⟨d,C⟩=>exact λD G=>wi δ δ d C _ [] (GT.fX G) D (Nat.lt_succ_self _)
  refine⟨l,λb o=>?_,λb o=>aE b (x.sub b (z.sub b o)),λd=>aL (x.nW (z.nW d)),λd b o=>?_⟩
  .rw[m];rcases c2 b o with d|⟨d,p⟩
   .rcases x.new b d with d|⟨d,p⟩
    .rcases z.new b d with d|⟨d,p⟩
     .exact .inl d
     .rw[n]at p;exact .inr ⟨d,I6 k _ b (I5 a.bm _ b p)⟩
    .rw[q]at p;exact .inr ⟨d,I6 k _ b (I8 a.bm [] _ (λ_ d=>by cases d) b p)⟩
   .exact .inr ⟨d,a6k k [] _ (λ_ d=>by cases d) b p⟩
  .have E:(dm c (α a.aD+1) (dY a.bm) (dm c (α a.aD+1) (bg a.bf) h).2).2=[]:=by
    cases E:(dm c (α a.aD+1) (dY a.bm) (dm c (α a.aD+1) (bg a.bf) h).2).2 with
    |nil=>rfl
    |cons C s=>have:=aE C (by rw[E];simp);rw[d]at this;cases this
   rcases a7J.1 o with rfl|o
   .refine⟨z.all ?_,x.all E⟩;cases t:(ez c (α b.aD+1) (gb c) (bJ (bg b.bf)+1) (bg b.bf) h).2 with
    |nil=>rfl
    |cons C s=>have:=x.sub C (by rw[dm,t];simp);have u:(ez c (α b.aD+1) (gb c) (bJ (dY b.bm)+1) (dY b.bm) (dm c (α b.aD+1) (bg b.bf) h).2).2=[]:=E;rw[u]at this;cases this
   .exact bh d b o
def lg.put{h:af}(b:lg B h)(k:h.m (eb w)=β w):lg (dA B w) h/\∀a,(dA B w).m a=if a=eb w then β w else B.m a:=by
 have c:∀a,(dA B w).m a=if a=eb w then β w else B.m a:=λa=>by
  unfold dA;split
  .rfl
  .rename_i p o;obtain rfl:p=w:=by have:=b _ _ o;rw[k]at this;exact(Δ this).symm
   rw[if_neg λb=>b.2 rfl];split
   .rename_i c;rw[c,o]
   .rfl
 refine⟨λa x d=>?_,c⟩;rw[c]at d;split at d
 .rename_i r;rw[r,<-Δ d];exact k
 .exact b _ _ d
def mO(a:af)(b:List ϊ):Nat:=b.countP λc=>(a.m c).isNone
def Ia{a:af}(d:∀b,a.m b=ζ->B.m b=ζ):mO a e4<=mO B e4:=
 List.countP_mono_left λh _ c=>by
  rw[aaM]at c|-;exact d h c
def Ib{c:af}(d:lg B c)(h:c.m (eb w)=β w):∀b,(dA B w).m b=ζ->B.m b=none:=λb a=>by
 rw[(d.put h).2]at a;split at a
 .cases a
 .exact a
def a6l{c:af}(a:lg B c)(b:c.m (eb w)=β w)(d:eb w∈e4)(h:B.m (eb w)=ζ):mO (dA B w) e4<mO B e4:=by
 obtain⟨k,o,rfl⟩:=a9b d;have r:=Ia (e4:=k) (Ib a b);have x:=Ia (e4:=o) (Ib a b);have p:(dA B w).m (eb w)=β w:=by rw[(a.put b).2,if_pos rfl]
 unfold mO at*;simp only[List.countP_append,List.countP_cons,p,h,Option.isNone_some,Option.isNone_none,if_true];simp only[a8o,if_false];omega
def tU(c:af)(a:ϊ):Prop:=∃b,c.m a=β b/\eb b=a
def AY{p:Type}{d:ϊ->Prop}{o:List ϊ->p->List ϊ}:∀(h:List p)(a:List ϊ),(∀c∈h,∀a,(∀b∈a,d b)->∀b∈o a c,d b)->(∀b∈a,d b)->∀b∈h.foldl o a,d b
 |[],a,_,k=>k
 |c::h,a,k,r=>AY h (o a c) (λc x=>k c (by simp[x])) (k c ς a r)
def AZ{b:ϊ->Prop}(c:∀a∈e4,b a)(d:b w):∀a∈cX e4 w,b a:=λa h=>by
 rcases fK.1 h with k|rfl
 .exact c a k
 .exact d
def B0{a:af}:∀(T:aC)(b:List ϊ),dn a T->(∀c∈b,tU a c)->∀c∈fe T b,tU a c
 |.nil,_,_,d=>d
 |.node p live k o,b,h,d=>B0 o _ h.2.2 (B0 k _ h.2.1 (AZ d ⟨_,h.1,rfl⟩))
def Ic{h:af}:∀(a:Nat)(c:a1.T a)(b:List ϊ),fc h a c->(∀k∈b,tU h k)->∀k∈gL a c b,tU h k
 |0,c,b,d,a=>AZ a ⟨_,d,rfl⟩
 |p+1,c,b,d,a=>AY _ _ (λo r b x=>Ic p o b (d.2 o r) x) (AZ a ⟨_,d.1,rfl⟩)
def a6m(d:List aX)(a:∀b∈d,dn B b.bf/\iD B b.bm):∀b∈iG d [],tU B b:=
 AY d [] (λc k p r=>by
  have o:=B0 c.bf p (a c k).1 r;have h:=(a c k).2;revert h
  match c.bm with
  |none=>exact λ_=>o
  |some ⟨x,y⟩=>exact λh=>Ic x y _ h o) λ_ a=>by cases a
def Ie{c h:af}(x:lg c h){E:Nat}(S:E<=1000):∀(d:List aX)(b:List ϊ),(∀a∈d,eA E a/\dn h a.bf/\iD h a.bm)->(∀a∈d,gM c (α a.aD+1) (bg a.bf)/\gM c (α a.aD+1) (dY a.bm))->AK c b->eM iB c (d.map Λ) b=(0,iG d b)
 |[],b,_,_,_=>rfl
 |a::d,b,k,F,T=>by
  obtain⟨o,V,y⟩:=k a ς;obtain⟨G,L⟩:=F a ς;have g:=o.c;have i:=o.dC.cf;obtain⟨p,P⟩:=AL (e:=α a.aD+1) δ δ G T;rw[AT x _ _ _ G,wg δ δ a.bf _ b o.dC.fu δ V δ]at p P;obtain⟨r,c2⟩:=AL (e:=α a.aD+1) δ δ L P;have W:cD h (α a.aD+1) (bJ (dY a.bm)+1) (dY a.bm) (fe a.bf b)=kn a.bm (fe a.bf b):=by
   have z:=o.go;revert y z
   match a.bm with
   |none=>exact λ_ _=>by rw[cD,dY,if_pos rfl];rfl
   |some ⟨k,e⟩=>exact λy z=>wi δ δ k e _ _ (GT.fX z) y (Nat.lt_succ_self _)
  rw[AT x _ _ _ L,W]at r c2;have p:iB c ((Λ a).aD.length+1) (Λ a).bf b=(0,fe a.bf b):=p;have r:iB c ((Λ a).aD.length+1) (Λ a).bm (fe a.bf b)=(0,kn a.bm (fe a.bf b)):=r;have f:¬8<(Λ a).aD.length+1:=by show¬8<α a.aD+1;omega
  rw[a7C,eM,if_neg f];simp only[ey,p,r,if_true];exact Ie x S d _ (λC D=>k C (by simp[D])) (λC D=>F C (by simp[D])) c2
theorem Ig:∀(a b:List ϊ),a.Nodup->(∀c∈a,c∈b)->α a<=α b
 |[],_,_,_=>a7N _
 |c::a,b,h,d=>by
  obtain⟨k,o,rfl⟩:=a9b (d c ς);obtain⟨y,p⟩:=List.nodup_cons.1 h;have:=Ig a (k++o) p λr x=>by
   have:=d r (by simp[x]);grind
  grind
variable{n b5:R}
def a6n(k:bO f 32 n (e4.map br))(o:∀w∈e4,α w=32)(c:e4[e]?=β w):∃a,cz 32 n (.v (.int .i64 (e:Int)))=β a/\∀b,f.sub b->cW η 32 b a=β (br w):=by obtain⟨a,p,r⟩:=k.get e (br w) (by simp[c]);have d:=o w (a7r c);refine⟨a,p,λb x=>?_⟩;have h:=r.ld b x η 32 δ (by show 32<=(w.map aj).length;simp[d]);rw[show aM η 32 (br w).cells=br w by rw[aM,if_pos rfl,Φ (by show(w.map aj).length<=32;simp[d])];rfl]at h;exact h
def a6o(b:List aX)(a:List ϊ):(iG b a).length<=α a+(b.map o0).sum:=
 AA b a λc _ a=>by
  have d:=tP c.bf a;have h:=HQ c.bm (fe c.bf a);rw[o0];omega
def a6p(h:∀a∈a7,eA e a/\e<=1000)(c:∀d∈e4,α d=32):∀d∈iG a7 e4,α d=32:=
 AD a7 e4 (λa k e4 c=>by
  obtain⟨b,o⟩:=h a k;have p:=b.c;have r:=b.dC.cf;exact HR (e:=α a.aD+1) δ δ a.bm _ b.go (tQ (c:=α a.aD+1) δ δ a.bf e4 b.dC.fu δ c)) c
end Go.Proofs.YtcfpcblgmmeioaaGreat
namespace Go.bD
open Go Go.ChangeShapes Go.WideShapes Go.RowKit
def lW(a:World):bn:=λb c=>a.cell? ⟨b,c,ζ⟩
def a6q(b:World):Holds (lW b) U.emp b:=⟨λ_ _ _ a=>a,λ_ _ a=>by cases a⟩
def fx(k:bn)(a:List Value)(b:ύ):Prop:=α a=α b/\∀(c:Nat)(d:Value)(h:R),a[c]?=β d->b[c]?=β h->aZ k d h
variable{u:bn}
theorem fx.nil:fx u [] []:=⟨rfl,λb c d a=>by simp at a⟩
variable{g H c0:ύ}
def fx.append{h k:List Value}(c:fx u h g)(o:fx u k H):fx u (h++k) (g++H):=by
 refine⟨by simp[c.1,o.1],λx p r b a=>?_⟩;rw[aay]at b a;rw[<-c.1]at a;split at b
 .rename_i d;rw[if_pos d]at a;exact c.2 x p r b a
 .rename_i d;rw[if_neg d]at a;exact o.2 _ p r b a
variable{n b5:R}{e5:Value}
theorem fx.one(a:aZ u e5 n):fx u [e5] [n]:=⟨rfl,λb c d h k=>by
 grind⟩
def fx.a6r{a:Array Value}(b:fx u a.toList g):bx u a g:=bx.dZ.2 b
def cM(h:Program)(k:TypeId)(o:ύ->Prop):Prop:=
 ∀ {b:Type} (p:TypeId×Value->b) (c:World) (r:Nat) (x:Nat->Bool) (y:Bool) (z:Nat) (d:List Value) (C:DataW b×List MemPlace),DataW.trod p h c r x y z k d=β C->
  ∃a,o a/\(∀D∈a,D.one=η)/\fx (lW c) d a
def B1(a:ύ):Prop:=∃b:Bool,a=[.v (.bool b)]
def SInt(a:IntKind)(c:ύ):Prop:=∃b:Int,(Lit.int a b).wf=η/\c=[.v (.int a b)]
def wo(a:ύ):Prop:=∃b:UInt8,a=[aj b]
def rQ(a:ύ):Prop:=∃aV:ϊ,α aV<=maxLen/\a=[bo aV]
def wq:List (ύ->Prop)->ύ->Prop
 |[],us=>us=[]
 |c::d,us=>∃a b,c a/\wq d b/\us=a++b
def a6s(a:ύ->Prop):Nat->ύ->Prop
 |0,us=>us=[]
 |d+1,us=>∃b c,a b/\a6s a d c/\us=b++c
def tV(b:ύ->R)(c:ύ->Prop)(d:ύ):Prop:=∃a:List ύ,(∀h∈a,c h)/\α a<=maxLen/\d=[.J (a.map b) .any]
variable{m:Program}{b2:TypeId}
def cM.bool(a:m.underlying b2=β .bool):cM m b2 B1:=λd h k o p r x y b=>by
 obtain⟨c,rfl,_⟩:=DataW.trod_bool a b;exact⟨_,⟨c,rfl⟩,by simp[R.one],fx.one (.v _ rfl)⟩
variable{e1:IntKind}
def cM.int(a:m.underlying b2=β (.int e1)):cM m b2 (SInt e1):=λh k o p r x y z b=>by
 obtain⟨c,rfl,_,d⟩:=DataW.trod_int a b;exact⟨_,⟨c,d,rfl⟩,by simp[R.one],fx.one (.v _ rfl)⟩
def cM.byte(b:m.underlying b2=β (.int .u8)):cM m b2 wo:=λk o p r x y z C c=>by
 obtain⟨a,rfl,_,d⟩:=DataW.trod_int b c;obtain⟨D,E⟩:=bounds_u8 d;have h:(Value.int .u8 a)=.int .u8 ((ν a.toNat).toNat):=by congr 1;rw[a8p];omega
 refine⟨_,⟨ν a.toNat,rfl⟩,by simp[aj,R.one],fx.one ?_⟩;rw[aj,<-h];exact .v _ rfl
def cM.str(b:m.underlying b2=β .string):cM m b2 rQ:=λh k o p r x y z c=>by
 obtain⟨a,rfl,_,C⟩:=DataW.trod_string b c;refine⟨_,⟨a.data.toList,by trivial,rfl⟩,by simp[bo,R.one],fx.one ?_⟩;have d:(⟨a.data.toList.toArray⟩)=a:=by cases a;simp
 rw[bo,d];exact .v _ rfl
def B2(a:Program):List Field->List (ύ->Prop)->Nat->Nat->Prop
 |[],[],off,b=>off=b
 |c::d,h::rs,off,b=>c.offset=off/\cM a c.type h/\B2 a d rs (off+a.cellsOf c.type) b
 |_,_,_,_=>False
theorem cM.struct{b:Array Field}{r:List (ύ->Prop)}(F:m.underlying b2=β (.struct b))(G:B2 m b.toList r 0 (m.cellsOf b2)):cM m b2 (wq r):=λL y P S T B p H V=>by
 obtain⟨W,e,_,_,f,g,i⟩:=DataW.trod_struct F V;have j:∀(k:List Field)(c:List (ύ->Prop))(a d:Nat),b.toList.drop a=k->B2 m k c d (m.cellsOf b2)->∃h,wq c h/\(∀l∈h,l.one=η)/\fx (lW y) (p.drop d) h:=by
  intro k
  induction k with
  |nil=>
   intro c a d n x;cases c with
   |cons _ _=>trivial
   |nil=>exact⟨[],rfl,ς,by rw[a8N (by rw[f];exact abw x.symm)];exact fx.nil⟩
  |cons o k ih=>
   intro c a d n x;cases c with
   |nil=>trivial
   |cons I c=>
    obtain⟨z,C,D⟩:=x;have K:a<α b.toList:=by grind[List.drop_of_length_le]
    have q:b.toList[a]=o/\b.toList.drop (a+1)=k:=by grind[Ν,List.cons.inj]
    obtain⟨h,s,M,t⟩:=ih c (a+1) _ q.2 D;have u:b[a]?=β o:=by grind
    have:=i a o u;have v:a<α W:=by rw[g];trivial
    rw[Ρ v,z]at this;obtain⟨E,w,N,a3⟩:=C L y P S T e _ _ this;refine⟨E++h,⟨E,h,w,s,rfl⟩,?_,?_⟩;grind
    .have A:p.drop d=(p.drop d).take (m.cellsOf o.type)++p.drop (d+m.cellsOf o.type):=by rw[<-a8d,a7V]
     rw[A];exact a3.append t
 obtain⟨h,z,C,D⟩:=j b.toList r 0 0 rfl G;grind
theorem Ih{h o:Type}(c:h->Option o):∀(a:List h)(d:List o),a.mapM c=β d->α d=α a/\∀(p:Nat)(r:h),a[p]?=β r->∃x,d[p]?=β x/\c r=β x
 |[],d,b=>by simp_all
 |z::a,d,b=>by
  rw[List.mapM_cons]at b;cases y:c z with
  |none=>simp[y]at b
  |some D=>
   cases k:a.mapM c with
   |none=>simp[k]at b
   |some C=>simp[y,k]at b;subst b;obtain⟨E,F⟩:=Ih c a C k;grind
variable{e i v M b9 j1:Nat}{l h9:World}
def Ii{d:Addr}{c:List Value}(b:l.cells? i d e=β c):α c=e/\∀a,a<e->c[a]?=l.cell? (d.add a):=by
 unfold World.cells? at b;split at b
 .obtain⟨h,k⟩:=Ih _ _ _ b;refine⟨by simpa using h,λa o=>?_⟩;obtain⟨x,p,r⟩:=k a a (by simp[o]);rw[p,r]
 .cases b
theorem a6t{b:Addr}(a:l.cell? b=β e5):b.spot=none:=by
 unfold World.cell? at a;split at a;simp_all
 .cases a
theorem add_add{a:Addr}(d:a.spot=ζ)(b:Nat):a.add b=⟨a.block,a.off+b,ζ⟩:=by
 unfold Addr.add;split
 .rename_i c;subst c;cases a;simp_all
 .rfl
structure rR(b:ύ->R)(a:ύ->Prop)(k:Nat):Prop where
 len:∀us,a us->α us=k
 cells:∀us,a us->(b us).cells=us
def Ij{c:ύ->R}{d:ύ->Prop}{o:Nat}(h:rR c d o):∀b:List ύ,(∀a∈b,d a)->flat (b.map c)=b.flatten
 |[],_=>rfl
 |a::b,k=>by
  simp only[a7C,flat,a7P,a9f];rw[h.cells a (k a ς)];have:=Ij h b λa p=>k a (by simp[p]);simp only[flat]at this;rw[this]
theorem cM.slice{u:TypeId}{r:ύ->Prop}{l:ύ->R}(Z:m.underlying u=β (.slice b2))(j9:m.cellsOf b2=e)(n:0<e)(F:rR l r e)(k0:cM m b2 r):cM m u (tV l r):=λk1 k v k2 k3 n1 n2 o k4=>by
 rcases DataW.trod_slice Z k4 with⟨rfl,_⟩|⟨W,len,w,k5,n3,k6,_,rfl,_,n4,k7,n5,n9,A,_,_⟩
 .exact⟨_,⟨[],ς,ς,rfl⟩,by simp[R.one],fx.one (.di ζ 0 .any (λ_=>rfl) trivial)⟩
 .rw[j9]at A;have B:∀c,c<len->∃b x,r b/\(∀y∈b,y.one=η)/\k.cells? v (W.add (c*e)) e=β x/\fx (lW k) x b:=λc p=>by
   have H:=A c p;have k8:c<α k5:=δ;rw[Ρ k8,Option.bind_eq_some_iff]at H;obtain⟨x,f,q⟩:=H;obtain⟨b,s,I,K⟩:=k0 k1 k v k2 k3 k6 x _ q;grind
  by_cases k9:len=0
  .subst k9;exact⟨_,⟨[],ς,ς,rfl⟩,by simp[R.one],fx.one (.di (β W) w .any (λl0=>by cases l0) trivial)⟩
  .have M:W.spot=none:=by obtain⟨b,x,_,_,f,_⟩:=B 0 δ;obtain⟨q,t⟩:=Ii f;have S:=t 0 n;simp only[aau]at S;grind[List.getElem?_eq_getElem,Addr.add,a6t]
   obtain⟨z,C,a00⟩:=W;simp only at M;subst M;have l1:∃d:List ύ,α d=len/\∀c b,d[c]?=β b->r b/\(∀y∈b,y.one=η)/\∀a h,b[a]?=β h->∃o,k.cell? ⟨z,C+(c*e+a),ζ⟩=β o/\aZ (lW k) o h:=by
    have:∀D,D<=len->∃d:List ύ,α d=D/\∀c b,d[c]?=β b->r b/\(∀y∈b,y.one=η)/\∀a h,b[a]?=β h->∃o,k.cell? ⟨z,C+(c*e+a),ζ⟩=β o/\aZ (lW k) o h:=by
     intro D
     induction D with
     |zero=>simp
     |succ D ih=>
      intro a01;obtain⟨d,T,V⟩:=ih δ;obtain⟨b,x,s,I,f,K⟩:=B D δ;refine⟨d++[b],by simp[T],λc N p=>?_⟩;rw[aay]at p;split at p
      .exact V c N p
      .rename_i a02;have l2:c=D:=by grind
       subst l2;have:N=b:=by simp_all
       subst this;refine⟨s,I,λa h g=>?_⟩;have l3:a<e:=by have:=(a7u.1 g).1;rw[F.len _ s]at this;exact this
       obtain⟨q,t⟩:=Ii f;have S:=t a l3;have O:a<α x:=δ;rw[Ρ O]at S;have l4:((⟨z,C,ζ⟩:Addr).add (c*e)).add a=⟨z,C+(c*e+a),ζ⟩:=by rw[add_add (by rw[add_add rfl]),add_add rfl];simp[aaE]
       rw[l4]at S;exact⟨x[a],S.symm,K.2 a _ _ (Ρ O) g⟩
    simp_all
   obtain⟨d,T,V⟩:=l1;have G:∀b2∈d,r b2:=λb2 E=>by
    obtain⟨c,p,rfl⟩:=a8a E;exact(V c _ (Ρ p)).1
   have Q:=Ij F d G;have l5:∀(L:List ύ),(∀b2∈L,r b2)->∀a h,L.flatten[a]?=β h->∃b,L[a/e]?=β b/\b[a%e]?=β h:=by
    intro L
    induction L with
    |nil=>intro _ a h P;simp at P
    |cons b2 L ih=>
     intro X a h P;have a03:=F.len b2 (X b2 ς);rw[a9f,aay]at P;split at P;grind[Nat.div_eq_of_lt,Nat.mod_eq_of_lt]
     .rename_i g;obtain⟨b,l6,l7⟩:=ih (λb2 E=>X b2 (by simp[E])) (a - α b2) h P;have Y:a=(a - α b2)+e:=δ;refine⟨b,?_,?_⟩
      .rw[Y,Nat.add_div_right _ n];exact l6
      .rw[Y,Nat.add_mod_right];exact l7
   have a04:α d.flatten=len*e:=by
    rw[<-T];clear l5 Q T V
    induction d with
    |nil=>simp
    |cons b2 d ih=>rw[a9f,Ψ,ih (λb2 E=>G b2 (by simp[E])),F.len b2 (G b2 ς),a7s,a8w,aa9,aaQ]
   refine⟨_,⟨d,G,δ,rfl⟩,by simp[R.one],fx.one ?_⟩;have l8:∀a h,d.flatten[a]?=β h->∃o,k.cell? ⟨z,C+a,ζ⟩=β o/\aZ (lW k) o h:=λa h P=>by
    grind[Nat.div_add_mod']
   refine aZ.J z C len w e (λa=>(k.cell? ⟨z,C+a,ζ⟩).getD undef) (d.map l) .any n (by simp[T]) k7 ?_ ?_ ?_ ?_ trivial
   .intro b2 E;obtain⟨b,i,rfl⟩:=a7G.1 E;rw[F.cells b (G b i),F.len b (G b i)]
   .intro y j;rw[Q,aaN]at j;obtain⟨b,i,j⟩:=j;obtain⟨c,p,rfl⟩:=a8a i;exact(V c _ (Ρ p)).2.1 y j
   .intro a g;have l9:a<α d.flatten:=δ;obtain⟨o,n0,a05⟩:=l8 a _ (Ρ l9);show k.cell? _= _;rw[n0];rfl
   grind
def tW(b:Program)(c:TypeId)(k:R->Prop):Prop:=
 ∀ {d:Type} (o:TypeId×Value->d) (a:World) (p:Nat) (r:Nat->Bool) (v:Value) (x:DataW d) (y:List MemPlace),Value.okWide b a .any p c v->DataW.Trod o b a 0 r η c v x y->∃h,k h/\aZ (lW a) v h
theorem a6u{a:Reach}{v:Value}(b:Cell.okWide m l a e b2 v):v.cells=#[v]:=by
 cases v with
 |agg cs=>simp_all [Cell.okWide,Cell.ok]
 |tuple cs=>rfl
 |_=>rfl
def isRow(a:Option TypeDesc):Bool:=
 match a with
 |some (.struct _)=>η
 |some (.array _ _)=>η
 |_=>ι
def tX(a:ύ->Prop)(b:R):Prop:=a [b]
def a7j(b:ύ->Prop)(c:R):Prop:=∃a,b a/\c=.agg a
def tW.cell{k:ύ->Prop}(b:isRow (m.underlying b2)=ι)(p:cM m b2 k):tW m b2 (tX k):=λr x L y v P S c z=>by
 obtain⟨C,D⟩:=z;obtain⟨E,d,T,a⟩:=p r x 0 y η C _ _ D;have F:v.cells=#[v]:=by
  unfold Value.okWide at c;split at c
  .rename_i h;rw[h]at b;cases b
  .rename_i h;rw[h]at b;cases b
  .exact a6u c
 rw[F]at a;have G:=a.1
 match E,G,d,a with
 |[o],_,d,a=>exact⟨o,d,a.2 0 v o rfl rfl⟩
def tY(a:Program):List TypeId->List (R->Prop)->Prop
 |[],[]=>True
 |b::sJ,c::lX=>tW a b c/\tY a sJ lX
 |_,_=>False
def tZ:List (R->Prop)->ύ->Prop
 |[],a=>a=[]
 |d::lX,a=>∃b c,a=b::c/\d b/\tZ lX c
def Ik{r:Program}{z:Type}{C:TypeId×Value->z}{h:World}{D:Nat}{E:Nat->Bool}:∀(a:List TypeId)(lX:List (R->Prop))(c:List Value)(k:List (DataW z))(x:List MemPlace),
  tY r a lX->(∀(o:Nat) b v,a[o]?=β b->c[o]?=β v->Value.okWide r h .any D b v)->DataW.TrodAll C r h 0 E η a c k x->∃d,tZ lX d/\fx (lW h) c d/\α k=α a
 |[],[],c,k,x,_,_,y=>by
  obtain⟨rfl,rfl,rfl⟩:=trodAll_nil y;exact⟨[],rfl,fx.nil,rfl⟩
 |b::a,n::lX,c,k,x,F,G,y=>by
  obtain⟨v,P,S,T,V,W,rfl,rfl,rfl,e,f⟩:=trodAll_cons y;obtain⟨L,g,i⟩:=F.1 C h D E v S V (G 0 b v rfl rfl) e;obtain⟨d,j,l,m⟩:=Ik a lX P T W F.2 (λo b v p q=>G (o+1) b v (by trivial) (by trivial)) f;exact⟨L::d,⟨L,d,rfl,g,j⟩,(fx.one i).append l,by simp[m]⟩
 |[],_:: _,_,_,_,p,_,_=>p.elim
 |_:: _,[],_,_,_,p,_,_=>p.elim
def a6v{a:MemPlace}(b:h9.heap[a.block]?=l.heap[a.block]?):l.sameAt h9 a:=by
 cases a with
 |cell c off=>show h9.cell? _=l.cell? _;have b:h9.heap[c]?=l.heap[c]? :=b;simp only[World.cell?,b]
 |map c=>exact b
theorem Il{b:Program}{z:Type}{C:TypeId×Value->z}{D E:World}{y:Nat}(F:laidOutB b=η)(G:∀c,c<y->E.heap[c]?=D.heap[c]?):∀(d:List TypeId)(o:List Value)(p:List (DataW z))(h:List MemPlace),
  (∀a∈d,b.readableRec a=η/\a<b.types.size)->(∀L∈h,L.block<y)->DataW.TrodAll C b D 0 (λ_=>η) η d o p h->DataW.TrodAll C b E 0 (λc=>decide (c<y)) η d o p h
 |[],o,p,h,_,_,k=>by
  obtain⟨rfl,rfl,rfl⟩:=trodAll_nil k;rfl
 |a::d,o,p,h,P,S,k=>by
  obtain⟨v,T,j,V,L,W,rfl,rfl,rfl,e,f⟩:=trodAll_cons k;obtain⟨g,i⟩:=P a ς;refine trodAll_cons_mk (WideElems.Trod_stays F g i e (λr x=>a6v (G _ (S r (a9B _ x)))) (λr x=>by simp_all)) ?_;exact Il F G d T V W (λa k=>P a (by simp[k])) (λr x=>S r (a9w _ x)) f
theorem a6w{b:MemPlace->Prop}(c:h9.os=l.os)(d:h9.output=l.output)(h:∀a,a<l.heap.size->h9.heap[a]?=l.heap[a]?):l.keptBut h9 b:=by refine⟨c,d,λk o=>?_⟩;grind
variable{I:Bool}{b4:FuncId}{b0:Type}
theorem a6x{L:TypeId×Value->b0}{c:Func}{k:ChangeSpec}{n q:Bool}{C:List (R->Prop)}(s:laidOutB m=η)(t:∀d∈c.params.toList,m.readableRec d=η/\d<m.types.size)
  (P:k.vars=[]) (u:c.resultTypes=#[b2]) (o:m.underlying b2=β .bool) (w:tY m c.params.toList C) (D:∀a:List (DataW b0),α a=α c.params.toList->k.fn b0 a= {results:=[.lit (.bool η)],args:=a,vars:=[]})
  (p:U) (b:World) (A:Holds (lW b) p b) (B:∀h r,p h=β r->∃E,r=.ro E)
  (H:∀x,tZ C x->AC m b4 x p λS _=>S=.v (.bool η))
  (K:Nat) (args:Array Value) (a M:List (DataW b0)) (N:List MemPlace) (O:∀(y:Nat) d v,c.params[y]?=β d->args[y]?=β v->Value.okWide m b .any K d v)
  (T:DataW.Whole L m c.params.toList k.vars I b args.toList a M N):
  Calls m b4 args b λV W=>∃v,V=.returned v/\k.post L m c I n q ι b args v W:=by
 have e:=T;obtain⟨f,k2,g,i,rfl,_,_⟩:=T;rw[P]at i;obtain⟨rfl,rfl⟩:=trodVars_none i;obtain⟨x,Q,X,F⟩:=Ik _ C _ _ _ w (λy d v j k3=>O y d v (by simp_all) (by simp_all)) g;have Y:=λZ j9=>e.lt Z (a9B _ j9);refine(H x Q args b (lW b) X.a6r A).mono ?_;rintro V W⟨v,S,k4,k5,rfl,z,k0,rfl⟩;have k1:v=.bool true:=by cases k0;rfl
 subst k1;have l:=λh o=>by
  cases G:p h with
  |none=>exact z.block h o G
  |some r=>obtain⟨E,rfl⟩:=B h r G;exact(z.jL h E o G).1
 refine⟨_,rfl,a,[],f++[],[],f,[],e,?_,?_,?_,a6w z.os z.output.1 l,λj=>by cases j⟩
 .rw[a8t,D a F,u];exact trodAll_cons_mk (shut_bool o η) trodAll_mk0
 .rw[a8t,D a F];exact Il s l _ _ _ _ t Y g
 .rw[a8t,D a F,P];rfl
def a6y{k:TypeId×Value->b0}{a:Func}{h:ChangeSpec}{C D:Bool}{o:List (R->Prop)}(E:laidOutB m=η)(F:∀d∈a.params.toList,m.readableRec d=η/\d<m.types.size)
  (G:h.vars=[]) (L:a.resultTypes=#[b2]) (P:m.underlying b2=β .bool) (S:tY m a.params.toList o) (T:∀b:List (DataW b0),α b=α a.params.toList->h.fn b0 b= {results:=[.lit (.bool η)],args:=b,vars:=[]})
  (V:∀p,tZ o p->AC m b4 p U.emp λW _=>W=.v (.bool η))
  (c:World) (r:Nat) (args:Array Value) (b x:List (DataW b0)) (y:List MemPlace) (e:∀(z:Nat) d v,a.params[z]?=β d->args[z]?=β v->Value.okWide m c .any r d v)
  (f:DataW.Whole k m a.params.toList h.vars I c args.toList b x y):
  Calls m b4 args c λg i=>∃v,g=.returned v/\h.post k m a I C D ι c args v i:=
 a6x E F G L P S T U.emp c (a6q c) (λ_ _ j=>by cases j) V r args b x y e f
open Go
def o2(a:ύ):R:=a.headD (.aJ [])
end Go.bD
namespace Go.Proofs.YtcfpcblgmmeioaaGreat
open Go Go.bD
variable{b1:Int}
def wf_i64(b:(Lit.int .i64 b1).wf=η): -9223372036854775808<=b1/\b1<=9223372036854775807:=by
 have a:IntKind.i64.min<=b1/\b1<=9223372036854775807:=by simpa[Lit.wf] using b
 have c:IntKind.i64.min= -9223372036854775808:=Θ;rw[c]at a;exact a
def a6z:rR o2 (SInt .i64) 1:=⟨by rintro a⟨b,_,rfl⟩;rfl,by rintro a⟨b,_,rfl⟩;rfl⟩
abbrev wu:ύ->Prop:=tV o2 (SInt .i64)
variable{g H c0:ύ}
theorem a6A(o:wu g):∃h:Ω,dk h/\g=[.J (ad h) .any]:=by
 obtain⟨b,k,p,r⟩:=o;have:∃a:Ω,dk a/\b.map o2=ad a:=by
  clear p r
  induction b with
  |nil=>exact⟨[],(λF x=>by cases x),rfl⟩
  |cons c b ih=>
   obtain⟨a,y,z⟩:=ih λc C=>k c (by simp[C]);obtain⟨D,E,rfl⟩:=k c ς;refine⟨D::a,?_,by simp only[a7C,z];rfl⟩;intro v d;rcases a7J.1 d with rfl|d
   .have:=wf_i64 E;omega
   .exact y v d
 simp_all
def a6B:rR o2 rQ 1:=⟨by rintro a⟨b,_,rfl⟩;rfl,by rintro a⟨b,_,rfl⟩;rfl⟩
abbrev wv:ύ->Prop:=tV o2 rQ
theorem a6C(h:wv g):∃k:List ϊ,g=[.J (bM k) .any]:=by
 obtain⟨a,d,o,p⟩:=h;have:∃b:List ϊ,a.map o2=bM b:=by
  clear o p
  induction a with
  |nil=>exact⟨[],rfl⟩
  |cons c a ih=>obtain⟨b,r⟩:=ih λc x=>d c (by simp[x]);obtain⟨y,z,rfl⟩:=d c ς;exact⟨y::b,by simp only[a7C,r];rfl⟩
 simp_all
abbrev wx:ύ->Prop:=wq [wo,rQ,wv,wu]
def Im(b:wx g):∃a:du,dk a.d.row/\g=a.C:=by obtain⟨_,_,⟨c,rfl⟩,⟨_,_,⟨d,_,rfl⟩,⟨_,_,h,⟨_,_,k,o,rfl⟩,rfl⟩,rfl⟩,rfl⟩:=b;obtain⟨p,rfl⟩:=a6C h;obtain⟨r,x,rfl⟩:=a6A k;cases o;exact⟨⟨⟨c,d,p,r⟩,.any,.any⟩,x,rfl⟩
def a6D:rR R.agg wx 4:=⟨λb a=>by obtain⟨c,_,rfl⟩:=Im a;rfl,λb a=>rfl⟩
abbrev wy:ύ->Prop:=tV R.agg wx
theorem a6E(p:wy g):∃d:List du,(∀h∈d,dk h.d.row)/\α d<=maxLen/\g=[.J (lT d) .any]:=by
 obtain⟨b,o,r,x⟩:=p;have:∃a:List du,α a=α b/\b.map R.agg=lT a/\∀h∈a,dk h.d.row:=by
  clear r x
  induction b with
  |nil=>exact⟨[],rfl,rfl,λc k=>by cases k⟩
  |cons c b ih=>obtain⟨a,y,z,D⟩:=ih λc k=>o c (by simp[k]);obtain⟨C,E,rfl⟩:=Im (o c ς);refine⟨C::a,by simp[y],by rw[a7C,z];rfl,?_⟩;grind
 grind
variable{n b5:R}
theorem a6F(b:tX wy n):∃a:List du,(∀c∈a,dk c.d.row)/\α a<=9223372036854775807/\n=.J (lT a) .any:=by obtain⟨a,d,h,k⟩:=a6E b;grind[hm,maxLen,List.cons.inj]
def a6G:cM γ 5 wo:=cM.byte Χ
def Io:cM γ 9 rQ:=cM.str Χ
def a6H:cM γ 2 (SInt .i64):=cM.int Χ
def a6I:cM γ 44 wu:=cM.slice (e:=1) (by kernel_rfl:γ.underlying 44=β (.slice 2)) Χ δ a6z a6H
def a6J:cM γ 40 wv:=cM.slice (e:=1) (by kernel_rfl:γ.underlying 40=β (.slice 9)) Χ δ a6B Io
def a6K:cM γ 78 wx:=cM.struct (r:=[wo,rQ,wv,wu]) Tryz.underlying78 (by
 refine⟨by rfl,a6G,by rfl,Io,by rfl,a6J,by rfl,a6I,(by show _= _;rfl)⟩)
def a6L:cM γ 22 wy:=cM.slice (e:=4) (by kernel_rfl:γ.underlying 22=β (.slice 78)) Χ δ a6D a6K
abbrev u0(a:List Bool):ύ:=a.map λb=>.v (.bool b)
def a6M:rR o2 B1 1:=⟨by rintro a⟨b,rfl⟩;rfl,by rintro a⟨b,rfl⟩;rfl⟩
abbrev B3:ύ->Prop:=tV o2 B1
theorem a6N(h:tX B3 n):∃aV:List Bool,α aV<=9223372036854775807/\n=.J (u0 aV) .any:=by
 obtain⟨a,d,k,o⟩:=h;have:∃b:List Bool,α b=α a/\a.map o2=u0 b:=by
  clear k o
  induction a with
  |nil=>exact⟨[],rfl,rfl⟩
  |cons c a ih=>obtain⟨b,p,r⟩:=ih λc x=>d c (by simp[x]);obtain⟨y,rfl⟩:=d c ς;exact⟨y::b,by simp[p],by simp only[a7C,r];rfl⟩
 grind[maxLen]
def a6O:cM γ 62 B3:=cM.slice (e:=1) (by kernel_rfl:γ.underlying 62=β (.slice 4)) Χ δ a6M (cM.bool Χ)
structure lh(c a:U)(d h:Nat)(b k:af):Prop where
 sub:c.sub a
 at_:bq a d h b
 hF:lg b k
def lh.mono{b c d:U}{h k:Nat}{o p:af}(a:lh b c h k o p)(r:c.sub d):lh b d h k o p:=⟨π a.sub r,a.at_.mono r,a.hF⟩
def lh.put{d r k:U}{a b:Nat}{o p:af}(x:lh d r a b o p)(C:d a=ζ)(D:d b=ζ){h:ϊ}(E:p.m (eb h)=β h)(F:bq k a b (dA o h))(G:Ext a b r k):lh d k a b (dA o h) p:=
 ⟨λy z c=>G y z (by rintro rfl;rw[C]at c;cases c) (by rintro rfl;rw[D]at c;cases c) (x.sub y z c),F,(x.hF.put E).1⟩
variable{f s e0:U}{w j4:ϊ}{e i v M b9 j1:Nat}{B:af}
def bq.le(a:bq f e i B)(b:α w=32)(c:B.m w=β j4):α j4<=1000000000000:=by obtain⟨h,_,d⟩:=a.mp;have:=d w b;rw[c]at this;exact this.1
set_option maxHeartbeats 1000000 in
def a6P(I:List du)(G:List Bool)(l2 a83:Own)(a02:α I<=9223372036854775807)(k3:∀X∈I,dk X.d.row)(b18:α G<=9223372036854775807)(a03:U):
  AC γ 4 [.J (lT I) l2,.J (u0 G) a83] a03 λa84 _=>a84=.v (.bool η):=by
 have b19:=AF (a:=I);have b20:(u0 G).length=α G:=a7w _;refine aK hm Lb ?_;refine ah (a5Y a03) ?_;rintro _ l3 rfl;refine aa ?_;refine ah (a6b I l2 l3 a02) ?_;rintro _ l3⟨rfl,K,rfl,a04⟩;cases K with
 |true=>refine aa ?_;exact⟨_,θ⟩
 |false=>
  obtain⟨b21,a05⟩:=a04 rfl;clear a04;refine aa ?_;refine aF (λl4=>?_) λl4=>?_
  .exact⟨_,θ⟩
  refine ah (a6g I l2 l3 (λX a06=>⟨a05 X a06,k3 X a06⟩) a02) ?_;rintro _ a07(rfl|⟨k4,M,N,W,z,b22,y,L,rfl,b23,a86,a08⟩)
  .refine aa ?_;exact⟨_,θ⟩
  refine aa ?_;have Y:=a08.lV;have n:=Y.rep a86;have q:=Y.inv;have k5:=q.cat δ;have a09:=a5Z q δ;have a10:=q.dP;have a11:=Y.st;rw[n.eq]at a11;have a88:=Y.rs;have l5:=n.ins;clear n a08 Y a05;have k6:=λs t=>a6h (q.ok s t) δ;have l6:∀a∈y,eA L a/\dn z a.bf/\iD z a.bm:=λa p=>⟨q.ok a p,l5 a p⟩;have a13:((y.map Λ).map mL).sum<=1000000000:=by
   have:=AQ (d:=mL) (h:=4000) (y.map Λ) λa p=>by obtain⟨s,t,rfl⟩:=a7G.1 p;exact(k6 s t).2.1
   rw[a7w]at this;omega
  have a14:(y.map o0).sum<=1000000000:=by have:=AQ (d:=o0) (h:=2000000) y λa p=>(k6 a p).1;omega
  have a15:∀K∈y.map Λ,(K.bf≠az->1<=K.bf.size)/\(K.bm≠az->1<=K.bm.size):=λa p=>by
   obtain⟨s,t,rfl⟩:=a7G.1 p;exact(k6 s t).2.2
  have a16:(y.map Λ).length<=1000:=by rw[a7w];omega
  have e:=a6p (λs t=>⟨q.ok s t,δ⟩) (e4:=[]) λ_ F=>by cases F
  have a18:=a6m y l5;have a19:=a6o y [];refine ah (a5J a07 a07 W y a88 q δ [] (.J [] .nil) (av.nil θ) (λ_ F=>by cases F) (by simpa using a14)) ?_;rintro a5 u l7;rw[a7x]at a19;have k7:=bO.dK l7 δ rfl (vQ e);have f:=a11.sub l7.1;have a89:=k7.len;have b24:=k7.one;have a90:=λo n=>Ie (h:=z) (c:=o) n (E:=L) δ y [] l6;have a92:=λo n=>I9 (y:=z) (c:=o) n (L:=L) δ y [] l6;generalize iG y []=d at*;rw[a7w]at a89;have b25:α d<=1000000000:=δ;clear l7 a14 l6 k6 l5 a19;refine aa ?_;refine ah (uX u) ?_;rintro _ O⟨D,E,l8,l9,rfl,a27,a29⟩;have b:lh u O D E af.new z:=⟨a29,a27,λ_ _ F=>by cases F⟩;clear a27 a29;refine aa ?_;refine cc [1,5,7,8] (λa:Nat×af=>[(9,.v (.int .i64 (a.1:Int)))]) (λa P=>a.1<=α d/\a.1<=α G/\lh u P D E a.2 z) (λa=>α d - a.1) (0,af.new) ⟨⟨a7N _,a7N _,b⟩,aO⟩ ?_;rintro⟨r,o⟩ Z ⟨a94,a95,b⟩ n0
  dsimp only at a94 a95 b|-
  refine aa ?_;refine aF (λl4=>?_) λl4=>?_;refine aF (λc2=>?_) λc2=>?_
  .have w:r<α d:=δ;have n1:r<α G:=δ;have b26:(u0 G)[r]?=β (.v (.bool G[r])):=by simp[n1]
   have g:d[r]?=β d[r]:=Ρ w;generalize G[r]=a96 at*;generalize d[r]=h at*;obtain⟨X,a30,n2⟩:=a6n k7 e g;have b27:=n2 Z b.sub;have i:=e h (a7r g);obtain⟨S,A,Q⟩:=a18 h (a7r g);refine aa ?_;cases a96 with
   |false=>refine aa ?_;exact⟨(r+1,o),⟨w,n1,b⟩,rfl,by dsimp only;omega⟩
   |true=>refine aa ?_;refine bp (Aa Z k4 M N _ _ (f.sub b.sub)) ?_;have k8:=f.fV.le i A;have j9:=λB T=>y7 B M N z (f.sub T).fV h i;simp only[A]at j9;refine ah (j9 Z b.sub) ?_;rintro _ B⟨T,a97,rfl⟩;refine aa ?_;refine ah (uY B D E o (b.mono T).at_ S a97 k8) ?_;rintro _ a34⟨rfl,j,k0⟩;have a98:=(b.mono T).put l8 l9 (by rw[Q];exact A) j k0;refine aa ?_;exact⟨(r+1,dA o S),⟨w,n1,a98⟩,rfl,by dsimp only;omega⟩
  all_goals
   refine cc [5,7,8] (λa:Nat×af=>[(12,.v (.int .i64 (a.1:Int)))]) (λa P=>a.1+mO a.2 d<=α d/\lh u P D E a.2 z) (λa=>α d+1 - a.1) (0,o) ⟨⟨by rw[a7Q];exact List.countP_le_length,b⟩,aO⟩ ?_;clear b;rintro⟨r,o⟩ Z ⟨k3,b⟩ n0
   dsimp only at k3 b|-
   refine aa ?_;refine aF (λaE=>?_) λaE=>?_
   .refine ah (H2 Z k4 M N _ _ (f.sub b.sub) (AH k5) k5 a09) ?_;rintro _ B⟨T,a99,b00,rfl,a36⟩;have b:=b.mono T;refine aa ?_;refine ah (a3p B D E o b.at_ _ a99 b00 a36 a16 a15 a13) ?_;obtain⟨a38,V,_,H,n3⟩:=a92 o b.hF;have a42:=a90 o b.hF;generalize eM dm o (y.map Λ) []=res at*;obtain⟨a43,c⟩:=res
    dsimp only at a38 V H n3|-
    subst a38;rintro _ a34⟨j,k1,_⟩;obtain⟨b28,rfl⟩:=k1 rfl;clear k1;have b:=b.mono j;have b01:(c.map br).length=α c:=a7w _;have V:∀a∈c,o.m a=ζ/\a∈d:=λa p=>(V a p).resolve_left ς;have H:=H ς;have n4:¬α c=0->r<α d:=λhm=>by
     obtain⟨a,p⟩:=List.exists_mem_of_length_pos (Nat.pos_of_ne_zero hm);obtain⟨a47,a48⟩:=V a p;have:0<mO o d:=List.countP_pos_iff.2 ⟨a,a48,by rw[a47];rfl⟩;omega
    by_cases a52:α c=0
    .obtain rfl:=a7t a52;clear n4 V H b01;refine aa ?_;refine aF (λaL=>?_) λaL=>?_
     all_goals
      refine ah (H2 a34 k4 M N _ _ (f.sub b.sub) (AH k5) k5 a09) ?_;rintro _ O⟨b02,b03,b04,rfl,b05⟩;have b:=b.mono b02;refine aa ?_;refine ah (a3o O D E o b.at_ _ b03 b04 b05 a16 a15 a13) ?_;rw[a42 (n3 rfl) λ_ _ _ _ _ _ _ _ F=>by cases F];rintro _ b06⟨b07,k1,_⟩;obtain⟨b08,rfl⟩:=k1 rfl;clear k1;have b:=b.mono b07;have b09:=a5I d d (.J (d.map br) b08) a5 b06 (bO.J (vQ e)) (k7.mono b.sub) e e δ;refine aa ?_;refine bp b09 ?_;exact⟨_,θ⟩
    have b29:=n4 a52;have b30:=Ig c d H λa p=>(V a p).2;clear n4 a42 n3;have b10:∀a∈c,α a=32:=λa p=>e a (V a p).2;refine aa ?_;refine aF (λaL=>?_) λaL=>?_
    .omega
    refine aF (λbh=>?_) λbh=>?_
    .omega
    refine cc [5,7,8,12,13] (λa:Nat×af=>[(17,.v (.int .i64 (a.1:Int)))]) (λa P=>a.1<=α c/\lh u P D E a.2 z/\(∀k C,a.1<=k->c[k]?=β C->a.2.m C=ζ)/\mO a.2 d+r+(if a.1=0 then 0 else 1)<=α d) (λa=>α c - a.1) (0,o) ⟨⟨a7N _,b,λk C _ k9=>(V C (a7r k9)).1,by show mO o d+r+0<= _;omega⟩,aO⟩ ?_;clear b k3 T a36 j;rintro⟨x,l⟩ O ⟨b11,b,n5,n9⟩ n0
    dsimp only at b11 b n5 n9|-
    refine aa ?_;refine aF (λbz=>?_) λbz=>?_
    .have w:x<α c:=δ;have g:c[x]?=β c[x]:=Ρ w;have b12:∀k,k<x->∃v,c[k]?=β v/\v≠c[x]:=λk a56=>⟨c[k],Ρ δ,λa43=>by have:=(List.getElem_inj H).1 a43;omega⟩;generalize c[x]=h at*;have b31:(c.map br)[x]?=β (br h):=by simp[g]
     obtain⟨_,a00⟩:=V h (a7r g);have i:=e h a00;obtain⟨S,A,Q⟩:=a18 h a00;have k8:=f.fV.le i A;have j9:=λB T=>y7 B M N z (f.sub T).fV h i;simp only[A]at j9;have b32:(br h).cells=h.map aj:=rfl;have b13:(h.map aj).length=32:=by simp[i]
     have b33:R.agg (h.map aj)=br h:=rfl;have b34:eo 32 (β (br h))=β (.bS (h.map aj)):=hC b13;have b35:h.take 32=h:=Φ δ;refine aa ?_;refine bp (Aa O k4 M N _ _ (f.sub b.sub)) ?_;refine ah (j9 O b.sub) ?_;rintro _ b14⟨a10,a57,rfl⟩;have b:=b.mono a10;have a61:=n5 x h (a7T _) g;have a62:=G7 b14 D E l b.at_ h i;rw[a61,a9a]at a62;refine aa ?_;refine ah a62 ?_;rintro _ a63⟨l0,rfl⟩;have b:=b.mono l0;refine aa ?_;refine gv [5,7,8,12,13,17,18] (λL:Nat=>[(20,.v (.int .i64 (L:Int)))]) (λL=>L<=x) (λL=>x - L) 0 (a7N _) aO ?_;rintro k a56 n0;refine aa ?_;refine aF (λc7=>?_) λc7=>?_
     .obtain⟨v,a65,b36⟩:=b12 k δ;have al:(c.map br)[k]?=β (br v):=by simp[a65]
      have a68:=b10 v (a7r a65);have b37:=λb15=>uR (I:=ι) (a:=b15) a68 i;have b16:(v.map aj).length=32:=by simp[a68]
      have b38:eo 32 (β (br v))=β (.bS (v.map aj)):=hC b16;have b39:R.agg (v.map aj)=br v:=rfl;have b40:v.take 32=v:=Φ δ;refine aa ?_;exact⟨k+1,δ,rfl,δ⟩
     .have a69:∀a01:af,(∀k2,k2≠h->a01.m k2=l.m k2)->∀k C,x+1<=k->c[k]?=β C->a01.m C=none:=λa01 F k C a56 k9=>by
       rw[F C]
       .exact n5 k C δ k9
       .rintro rfl;obtain⟨a47,a30⟩:=a7u.1 k9;obtain⟨a48,n2⟩:=a7u.1 g;have:=(List.getElem_inj H).1 (a30.trans n2.symm);omega
      have l1:z.m (eb S)=β S:=by rw[Q];exact A
      have a71:=b.hF.put l1;have b41:=a6l b.hF l1 (by rw[Q];exact a00) (by rw[Q];exact a61);rw[Q]at a71;have a73:∀P,lh u P D E (dA l S) z->∃m:Nat×af,(m.1<=α c/\lh u P D E m.2 z/\(∀k C,m.1<=k->c[k]?=β C->m.2.m C=ζ)/\mO m.2 d+r+(if m.1=0 then 0 else 1)<=α d)/\R.v (.int .i64 ((x:Int)+1))=.v (.int .i64 m.1)/\α c - m.1<α c - x:=λP F=>
       ⟨(x+1,dA l S),⟨w,F,a69 _ λk2 a74=>by rw[a71.2,if_neg a74],by dsimp only;rw[if_neg δ];omega⟩,rfl,by dsimp only;omega⟩
      refine aF (λcO=>?_) λcO=>?_
      .refine aF (λbw=>?_) λbw=>?_
       .refine ah (uY a63 D E l b.at_ S a57 k8) ?_;rintro _ b17⟨rfl,j,k0⟩;have l0:=b.put l8 l9 l1 j k0;exact aO
       .exact⟨(x+1,l),⟨w,b,a69 _ λk2 a74=>rfl,by dsimp only;rw[if_neg δ];rw[if_neg δ]at n9;omega⟩,rfl,by dsimp only;omega⟩
      .refine ah (uY a63 D E l b.at_ S a57 k8) ?_;rintro _ b17⟨rfl,j,k0⟩;have l0:=b.put l8 l9 l1 j k0;have a81:=a73 _ l0;rw[cO]at a81;clear a73;refine aa ?_;exact a81
    .exact⟨(r+1,l),⟨by rw[if_neg δ]at n9;dsimp only;omega,b⟩,rfl,by dsimp only;omega⟩
   .exact⟨_,θ⟩
end Go.Proofs.YtcfpcblgmmeioaaGreat
namespace Go.Proofs.YtcfpcblgmmeioaaGreat.sweepLacks
open Go
def jA:(Rows.sweepLacksRow.inPlace==γ.inPlace 4)=true:=Χ
def jB:(Rows.sweepLacksRow.unfollowed==γ.unfollowed 4)=true:=Χ
def jC:(Rows.sweepLacksRow.named==γ.varsNamed 4)=true:=Χ
def jD:(laidOutB γ&&mapsRowed γ&&Tryz.f4.params.all (γ.readableRec ·)&&namedTie γ Rows.sweepLacksRow.named Rows.sweepLacksSpec.vars&&(γ.stops==[])&&(γ.stopKnobs==[]))=true:=Χ
def th:(Rows.sweepLacksRow.lifted==γ.liftsFinal)=true:=Χ
def jF:(γ.stopsHeard&&γ.mayEnter&&(γ.make==β Rows.sweepLacksRow.make)&&(Rows.sweepLacksRow.pinned==Rows.sweepLacksRow.pinnedBy))=true:=Χ
def a6Q:joinedFacts γ 4 Tryz.f4 Rows.sweepLacksSpec Rows.sweepLacksRow=true:=by
 unfold joinedFacts;have d:=jA;have a:=jB;have h:=jC;have b:=jD;have k:=th;have c:=jF;simp only[Υ]at b c;obtain⟨⟨⟨⟨⟨o,p⟩,r⟩,x⟩,y⟩,z⟩:=b;obtain⟨⟨⟨C,D⟩,E⟩,F⟩:=c;have G:(Rows.sweepLacksRow.recurses==γ.recurses 4)=true:=by have L:Rows.sweepLacksRow.unfollowed=γ.unfollowed 4:=eq_of_beq a;unfold Program.recurses;rw[<-L];rfl
 rw[d,a,h,o,p,r,x,y,z,k,C,D,E,F,G];decide+kernel
end Go.Proofs.YtcfpcblgmmeioaaGreat.sweepLacks
