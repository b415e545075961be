import Derived.Test.YtcfpcblgmmeioaaGreatMG
import Derived.Test.YtcfpcblgmmeioaaGreatMD
import Derived.Test.YtcfpcblgmmeioaaGreatMF
import Derived.Test.YtcfpcblgmmeioaaGreatME
set_option linter.all false
open Option renaming some->β,none->ε
open Go.Proofs.Tryz renaming prog->γ
open List renaming replicate->ζ,range->ψ,length_append->Γ,take_of_length_le->Θ,length->α
open Bool renaming true->η,false->ι
open Go.bt.U renaming a6->θ,af->κ,ag->μ,aj->ν,al->ξ,au->ο,set_set->σ,aK->χ,bH->Μ
open UInt8 renaming ofNat->ς
open Go.bt.R renaming cells->τ
open Go.Proofs.YtcfpcblgmmeioaaGreat.isRow renaming cells->φ
open Prod renaming fst->Β
open Go.Proofs.YtcfpcblgmmeioaaGreat.bu renaming cells->Η
open Go.Proofs.YtcfpcblgmmeioaaGreat.aA renaming size->Ι
set_option maxRecDepth 100000
namespace Go.Proofs.YtcfpcblgmmeioaaGreat
open Go Go.bt
theorem a0b(F o:U)(d:Χ)(G:R)(L:aw F o 76 d G)(r:Nat)(P:α d=r*76)(a:Nat)(O:a<r)(Q:r<=1000):
  AC γ 162 [G,.v (.int .i64 (a:Int)),.v (.int .i64 ((a:Int)+1))] o λi j=>aw F j 76 (d.take (a*76)++d.drop ((a+1)*76)) i:=by
 obtain⟨c,b,k,x,rfl,S,T,l,V,m,C,n⟩:=L.aq (λq=>by rw[q,a3a]at P;omega);obtain rfl:b=r:=δ;refine aZ hm MQ ρ ?_;have s:(a)+1=((a+1:Nat):Int):=δ;rw[s];obtain⟨X,t⟩:=D1 (M:=76) (a:=c) (b:=b) (h9:=a) (e:=a+1) (e0:=.i64) (c:=.i64) (d:=.i64) δ δ C;have u:c9 76 (.aq c b k 76) ε (β (.v (.int .i64 (a)))) ε=β (.aq c a k 76):=hi δ;obtain⟨Y,v,_,D⟩:=nQ (i:=76) (h9:=c) (e:=a+1) (e0:=.i64) δ C;have D:=D o x d T δ V;have w:¬(a)=((a+1:Nat):Int):=δ;simp -dsimp -implicitDefEqProofs (disch:=first|omega|assumption|(simp only[aR,Nat.reduceAdd];try omega)) only[go_sem,simprocAttr,↓ep,t,u,v,w];refine tM T l D δ δ δ ?_;have A:a+(b -(a+1))=b - 1:=δ;rw[A];have W:(d.drop ((a+1)*76)).length=(b -(a+1))*76:=by rw[a3i];omega
 obtain⟨h,y⟩:∃h,h=putAt x (a*76) (d.drop ((a+1)*76)):=⟨_,rfl⟩;have E:α h=k*76:=by rw[y,eh _ _ _ δ];omega
 have B:h.take ((b - 1)*76)=d.take (a*76)++d.drop ((a+1)*76):=by
  rw[y,putAt];have H:(x.take (a*76)).length=a*76:=by rw[a2X];omega
  rw[show(b - 1)*76=(x.take (a*76)++d.drop ((a+1)*76)).length by rw[a2V,H,W];omega,a5w];grind
 rw[<-y];have I:(o.set c (.cells h)) c=β (.cells h):=ν _ _ _;have Z:c9 76 (.aq c (b - 1) k 76) (β (.v (.int .i64 ((b - 1:Nat))))) (β (.v (.int .i64 ((b))))) ε=β (.bB c ((b - 1)*76) (b -(b - 1)) (k -(b - 1)) 76):=Bh δ C δ;have e:∀z:Χ,α z=76->kt 76 z (.bB c ((b - 1)*76) (b -(b - 1)) (k -(b - 1)) 76) (o.set c (.cells h))=β ((o.set c (.cells h)).set c (.cells (putAt h ((b - 1)*76) (ζ (b -(b - 1)) z).flatten))):=λz k0=>w7 I (by rw[E];omega);have p:=gZ.all.1;rw[<-mX]at p;have e:=(e _ p).trans a7v;have K:(d.take (a*76)++d.drop ((a+1)*76)).length=(b - 1)*76:=by rw[a2V,a2X,a3i];omega
 clear p y W V m P;refine aa ?_;have p:=gZ.all.1;rw[<-mX]at p;refine⟨_,θ,?_⟩;generalize f:putAt h ((b - 1)*76) _=g;have M:α g=k*76:=by rw[<-f,eh _ _ _ (by rw[kv,p,E];omega),E]
 have N:g.take ((b - 1)*76)=h.take ((b - 1)*76):=by rw[<-f,putAt,a3o,a4F (by rw[a2X];omega),a4a,a4V]
 refine⟨μ L.1 S,.inr ⟨c,b - 1,k,_,rfl,S,ν _ _ _,M,by rw[N,B],K,δ,n⟩⟩
def cD(a:List aU)(b:Τ):Except Int (List aU):=
 if cK a=η then(if fU a b=η then .ok (a.take (cP a b)++a.drop (cP a b+1))else .error 3)else .error 1
def a0c(a:List aU)(c:Χ)(p:Own)(b:Τ)(h:aC fr a c)(G:∀S∈a,S.Fit)(L:α a<=1000)(d:U):
  AC γ 101 [.J c p,bo b] d λr y=>d.sub y/\uw (cD a b) r:=by
 have T:AC γ 101 [.J c p,bo b] d λr y=>sq d y (cD a b) r:=?_
 .exact T.view λr y z=>z.yx
 have V:=h.len;refine aM hm Lm ?_;have k:(if cK a=η then(if fU a b=η then .ok (a.take (cP a b)++a.drop (cP a b+1))else .error 3)else .error 1)=cD a b:=rfl;generalize cD a b=i at*;cases D:cK a with
 |false=>rw[if_neg (by rw[D];simp)]at k;refine bd (o4 a c p h G δ d) ?_;rw[<-k];exact⟨_,θ,θ,Λ,rfl⟩
 |true=>
 rw[if_pos D]at k;refine bd (o4 a c p h G δ d) ?_;have C:=yw a c p b h D d;have E:fU a b=η->cP a b<α a:=λz=>by
  simp only[fU,Ξ,decide_eq_true_eq]at z;exact z.1
 generalize cP a b=o at*;cases x:fU a b with
 |false=>rw[if_neg (by rw[x];simp)]at k;rw[x]at C;refine bd C ?_;rw[<-k];exact⟨_,θ,θ,Λ,rfl⟩
 |true=>
 rw[if_pos x]at k;rw[x]at C;have E:=E x;refine bd C ?_;refine ak (yu a c p d h L) ?_;intro W e f;have F:=h.cells λ_ _=>fr.cells;have g:(flat c).length=α a*76:=by rw[cT F,V]
 refine aa ?_;refine ak (a0b d e (flat c) W f (α a) g o E L) ?_;intro r j P;refine aa ?_;refine⟨_,θ,?_⟩;rw[<-k];rw[(fw (o+1) F).1,(fw o F).2,<-ox]at P;exact⟨r,c.take o++c.drop (o+1),(h.take o).append (h.drop (o+1)),P,rfl⟩
variable{h4:aU}
theorem a0d(b:ft h4=η):h4.mG:=by
 simp only[ft,ew,mN,jj,Ξ,decide_eq_true_eq,a4x]at b;obtain⟨⟨⟨_,c⟩,a⟩,d,h,L,P,S⟩:=b;rw[if_pos Λ]at a;simp only[Ξ,decide_eq_true_eq,a3h,a4b,lQ,jj]at a;obtain⟨bm,k,o,p,r,x⟩:=qg d;obtain⟨y,z,C,D,E,F⟩:=qg h;refine⟨c.2,a.1.2.2,λT G=>?_,⟨bm,k,δ,o,p,r,x⟩,⟨y,z,?_,C,D,E,F⟩⟩
 .obtain⟨V,W,rfl⟩:=a3B G;simp_all
 grind[aB]
variable{e7:List aU}
theorem sr(a:cK e7=η):(∀b∈e7,b.mG)/\α e7<=8:=by simp only[cK,Ξ,a3h,a4b,decide_eq_true_eq]at a;refine⟨λb c=>?_,a.2⟩;obtain⟨d,h,rfl⟩:=a3B c;grind[a0d,List.getD]
structure aU.In(t:aU):Prop where
 le:t.mG
 k:t.cc.In 8
 z:t.cE.In 8
variable{j4:List Τ}
def ES:bc 1 (bY j4):=λb a=>by obtain⟨_,_,rfl⟩:=a3m.1 a;rfl
theorem a0e(a:List Τ)(d:Own)(c:U)(C:α a<=1000000):
  AC γ 100 [.J (bY a) d] c λh k=>c.sub k/\∃o,h=.J (bY a) o:=by
 have D:=kO (j4:=a);refine nu λE=>?_;have p:d=.nil->bY a=[]:=λF=>by simp_all
 refine aZ hm Lk ρ ?_;simp -dsimp -implicitDefEqProofs (disch:=first|omega|assumption|(simp only[aR,Nat.reduceAdd];try omega)) only[go_sem,simprocAttr,↓nD];refine nE (λb=>by rw[p b]) (λb=>?_) ?_
 .have r:bY a=[]:=by trivial
  rw[r];simp -dsimp -implicitDefEqProofs (disch:=first|omega|assumption|(simp only[aR,Nat.reduceAdd];try omega)) only[go_sem,simprocAttr,a3H];exact⟨c,θ,θ,_,rfl⟩
 .simp -dsimp -implicitDefEqProofs (disch:=first|omega|assumption|(simp only[aR,Nat.reduceAdd];try omega)) only[go_sem,simprocAttr];refine eb θ (by simp[bc]) λG L x=>?_;simp -dsimp -implicitDefEqProofs (disch:=first|omega|assumption|(simp only[aR,Nat.reduceAdd];try omega)) only[go_sem,simprocAttr];refine ei x (λ_ b=>by cases b) ES (by rw[a3a];omega) (by rw[a3a];omega) λP y z=>?_;simp -dsimp -implicitDefEqProofs (disch:=first|omega|assumption|(simp only[aR,Nat.reduceAdd];try omega)) only[go_sem,simprocAttr,a3l];exact⟨y,θ,z.sub,_,rfl⟩
structure ds(b:U)(a fQ c:Nat)(h:ad)(l:List aU):Prop where
 fl:bh b fQ c h
 x:∃d o,b a=β (.cells [.ptr fQ 0,.J d o])/\aC fr l d
 mY:a≠fQ
 mZ:a≠c
def cu(c d h:Nat)(k o:U):Prop:=∀a b,a≠c->a≠d->a≠h->k a=β b->o a=β b
variable{f u e1:U}{e i v M b9 h9:Nat}
theorem cu.of{X lM:Nat}{s:U}(a:s.sub f):cu X e lM s f:=λb c _ _ _ d=>a b c d
def cu.ext(a:Ext e i f u):cu v e i f u:=λb c _ d h k=>a b c d h k
theorem cu.trans(k:cu e i v f u)(o:cu e i v u e1):cu e i v f e1:=λa b c d h p=>o a b c d h (k a b c d h p)
variable{X j6:bl}
def cu.yy(b:cu e i v f u):cu e i v f (u.set e X):=λc d a h k o=>by rw[ξ _ _ a];exact b c d a h k o
variable{H:ad}
def ds.sub(a:ds f e i v H e7)(b:f.sub u):ds u e i v H e7:=⟨a.fl.mono b,by obtain⟨c,d,h,k⟩:=a.x;exact⟨c,d,b _ _ h,k⟩,a.mY,a.mZ⟩
variable{g A c0:Χ}{O e4 h5:Own}
def ds.put{b:List aU}(a:ds f e i v H b)(c:aC fr e7 g):ds (f.set e (.cells [.ptr i 0,.J g O])) e i v H e7:=⟨a.fl.set ⟨a.mY,a.mZ⟩,⟨g,O,ν _ _ _,c⟩,a.mY,a.mZ⟩
def ia(a:Except Int (List aU))(b:List aU):Int×List aU:=match a with
 |.error c=>(c,b)
 |.ok d=>(0,d)
def a0f(d:U)(b r x:Nat)(C:ad)(a:List aU)(D:ds d b r x C a)(f:∀c∈a,c.Fit)(g:α a<=1000)(h:df):
  AC γ 56 [.ptr b 0,h.V] d λE F=>ds F b r x C (ia (cD a h.d.table) a).2/\cu b r x d F/\E=.v (.int .i64 (ia (cD a h.d.table) a).1):=by
 obtain⟨i,j,y,l⟩:=D.x;obtain⟨⟨G,c,L,P⟩,S,T⟩:=h
 dsimp only
 show AC γ _ [.ptr b 0,.agg [ao G,bo c,.J (bY L) S,.J (ab P) T]] d _;refine aM hm K8 ?_;refine bp λV z=>?_;have k:=μ (X:=.cells [ao G,bo c,.J (bY L) S,.J (ab P) T]) (θ) z;have s:=κ y;have m:b≠V:=by rintro rfl;rw[y]at z;cases z
 have t:=m.symm;refine aa ?_;generalize d.set V _=n at*;refine ak (a0c a i j c l f g n) ?_;rintro E u⟨o,p⟩;have v:=χ (o _ _ (k _ _ y));have W:=D.sub (ο k o);cases e:cD a c with
 |error w=>rw[e]at p;obtain⟨A,rfl⟩:=p;refine aa ?_;exact⟨_,θ,W,cu.of (ο k o),rfl⟩
 |ok B=>rw[e]at p;obtain⟨H,q,rfl⟩:=p;refine aa ?_;exact⟨_,θ,W.put q,(cu.of (ο k o)).yy,rfl⟩
def a0g(h:U)(k E F:Nat)(g:ad)(a:List aU)(i:ds h k E F g a)(v:∀b∈a,b.Fit)(w:α a<=1000)(d:df)(A:d.d.Fit):
  AC γ 55 [.ptr k 0,d.V] h λj l=>ds l k E F g (ia (jr a ⟨d.d.table,d.d.aG,aB,aB⟩) a).2/\cu k E F h l/\j=.v (.int .i64 (ia (jr a ⟨d.d.table,d.d.aG,aB,aB⟩) a).1):=by
 obtain⟨B,H,r,I⟩:=i.x;obtain⟨⟨G,b,c,L⟩,x,P⟩:=d;obtain⟨K,S,M,k0⟩:=A
 dsimp only at*
 show AC γ _ [.ptr k 0,.agg [ao G,bo b,.J (bY c) x,.J (ab L) P]] h _;refine aM hm K6 ?_;refine bp λT V=>?_;have W:=μ (X:=.cells [ao G,bo b,.J (bY c) x,.J (ab L) P]) (θ) V;have k2:=κ r;have N:k≠T:=by rintro rfl;rw[r]at V;cases V
 have k3:=N.symm;refine aa ?_;have aE:=ν h T (.cells [ao G,bo b,.J (bY c) x,.J (ab L) P]);generalize h.set T _=O at*;refine ak (a0e c x O S) ?_;rintro _ Q⟨y,m,rfl⟩;have fe:=κ (y _ _ (W _ _ r));have k4:=κ (y _ _ aE);refine aa ?_;rw[mX];have e:ef ⟨b,c,aB,aB⟩ (bo b::.J (bY c) m::(ae aB .nil .nil .nil++ae aB .nil .nil .nil)):=⟨⟨m,_,_,_,_,_,_,rfl⟩,⟨bg,oU⟩,⟨bg,oU⟩,S⟩;have n:gm=bo []::.J [] .nil::(ae aB .nil .nil .nil++ae aB .nil .nil .nil):=rfl;have X:∀z C o:R,∀p:Χ,putAt (z::C::p) 0 [o]=o::C::p:=λ_ _ _ _=>rfl;have k5:∀z C o:R,∀p:Χ,putAt (z::C::p) 1 [o]=z::o::p:=λ_ _ _ _=>rfl;rw[n,X];generalize ae aB .nil .nil .nil++ae aB .nil .nil .nil=k6 at*;have q:=ZZ a B H ⟨b,c,aB,aB⟩ _ e ⟨K,S,M⟩ I v w Q;have k7:=e.all.1;clear n e;refine aa ?_;refine ak q ?_;clear q;rintro j k8⟨s,D⟩;have Y:=y _ _ (W _ _ r);have k9:=χ (s _ _ Y);have f:=ο W (ο y s);have t:=i.sub f;cases u:jr a ⟨b,c,aB,aB⟩with
 |error l0=>rw[u]at D;obtain⟨l1,rfl⟩:=D;refine aa ?_;exact⟨_,θ,t,cu.of f,rfl⟩
 |ok l2=>rw[u]at D;obtain⟨l3,Z,rfl⟩:=D;refine aa ?_;exact⟨_,θ,t.put Z,(cu.of f).yy,rfl⟩
def o7(c:List aU)(b:de):Int×Option aU:=match c.find? (λa=>decide (a.name=b.table))with
 |none=>(3,ε)
 |some a=>if α b.row=α a.aG+1 then(0,β a)else(6,β a)
theorem ET(b:U)(r n q:Nat)(s:ad)(x:List aU)(t:ds b r n q s x)(Y:α x<=1000)(E:df)(u:E.d.Fit):
  AC γ 102 [.ptr r 0,E.V] b λG v=>b.sub v/\match o7 x E.d with
   |(L,ε)=>G=.aF [.agg gm,.v (.int .i64 L)]
   |(L,β a)=>∃T,ef a T/\G=.aF [.agg T,.v (.int .i64 L)]:=by
 obtain⟨w,A,P,B⟩:=t.x;obtain⟨⟨y,a,z,c⟩,C,D⟩:=E;obtain⟨Z,k0,k2,k3⟩:=u
 dsimp only at*
 have k4:=bK (n:=c);show AC γ _ [.ptr r 0,.agg [ao y,bo a,.J (bY z) C,.J (ab c) D]] b _;refine aM hm Lo ?_;refine bp λd S=>?_;refine dk λh V k5 H=>?_;have k6:=κ P;have I:r≠d:=by rintro rfl;rw[P]at S;cases S
 have k7:=I.symm;have K:r≠h:=by rintro rfl;rw[P]at V;cases V
 have k8:=K.symm;refine aa ?_;rw[mX];have k9:=gZ.all.1;have W:∀a T,ef a T->putAt gm 0 T=T:=λa T M=>(pa M).2.2.1;have l0:=gZ.all.2.1;have l1:=W _ _ gZ;generalize i:gm=e at*;have l2:b.sub ((b.set d (.cells [ao y,bo a,.J (bY z) C,.J (ab c) D])).set h (.cells e)):=μ (μ θ S) V;have aE:((b.set d (.cells [ao y,bo a,.J (bY z) C,.J (ab c) D])).set h (.cells e)) d=β (.cells [ao y,bo a,.J (bY z) C,.J (ab c) D]):=by rw[ξ _ _ H,ν]
 have aL:=ν (b.set d (.cells [ao y,bo a,.J (bY z) C,.J (ab c) D])) h (.cells e);generalize (b.set d _).set h _=N at*;refine ak (find_spec x w A a B δ N) ?_;rintro G _⟨rfl,o⟩;have l3:=κ aE;have l4:=χ aL;unfold Found at o;rw[i]at o;clear i;unfold o7
 dsimp only
 cases j:x.find? (λp=>decide (p.name=a))with
 |none=>
  rw[j]at o;obtain rfl:=o;refine aa ?_;refine aO λF k=>?_;have f:F≠h:=by rintro rfl;rw[aL]at k;cases k
  have O:=f.symm;exact aV
 |some p=>
  rw[j]at o;obtain⟨T,g,rfl⟩:=o;obtain⟨l5,l6,l7,_⟩:=g.all;have l8:=W _ _ g;have l:=λb=>uh p T g b;clear W;refine aa ?_;refine aO λF k=>?_;have f:F≠h:=by rintro rfl;rw[aL]at k;cases k
  have O:=f.symm;have Q:F≠d:=by rintro rfl;rw[aE]at k;cases k
  have l9:=Q.symm;refine aa ?_;by_cases m:α c=α p.aG+1
  .have X:(α c)=((α p.aG+1:Nat):Int):=δ
   dsimp only
   rw[if_pos m];refine bd (l _) ?_;simp_all
  .have X:¬(α c)=((α p.aG+1:Nat):Int):=δ
   dsimp only
   rw[if_neg m];refine bd (l _) ?_;simp_all
def ux(a:U)(b c d:Nat)(h:ad)(k:List aU)(o:ds a b c d h k):
  AC γ 10 [.ptr b 0] a λp r=>r=a/\p=.ptr c 0:=by
 obtain⟨y,z,x,C⟩:=o.x;have D:=κ x;refine aM hm J6 ?_
 repeat' first|refine aH (λ_=>?_) λ_=>?_|trivial
def EU(a:U):AC γ 25 [] a λx p=>∃b c d,x=.ptr b 0/\a.sub p/\a b=ε/\a c=ε/\a d=ε/\ds p b c d ad.new []:=by refine aM hm Jl ?_;refine ak (tB a) ?_;rintro _ C⟨c,d,y,z,rfl,r,h⟩;refine aa ?_;refine aO λb k=>?_;refine aa ?_;have o:=r.ct k;exact⟨_,θ,b,c,d,rfl,μ h (Μ h k),Μ h k,y,z,r.set o,⟨[],.nil,ν _ _ _,trivial⟩,o.1,o.2⟩
variable{w j0:an}
theorem ef.a0h(b:ef h4 g)(a:α w.sum=32)(c:w.cH):ef ⟨h4.name,h4.aG,w,h4.cE⟩ (putAt g 2 (ae w O e4 h5)):=by obtain⟨⟨d,h,k,o,p,r,x,rfl⟩,⟨y,D⟩,z,C⟩:=b;have E:=(aN (O:=h) (e4:=k) (h5:=o) y).len;have F:=(aN (O:=O) (e4:=e4) (h5:=h5) a).len;refine⟨⟨d,O,e4,h5,p,r,x,?_⟩,⟨a,c⟩,z,C⟩;grind[putAt,ae,List.drop_left']
theorem ef.a0i(k:ef h4 g)(a:α w.sum=32)(o:w.cH):ef ⟨h4.name,h4.aG,h4.cc,w⟩ (putAt g 39 (ae w O e4 h5)):=by obtain⟨⟨p,b,c,d,r,x,y,rfl⟩,⟨h,z⟩,⟨C,E⟩,D⟩:=k;have F:=(aN (O:=b) (e4:=c) (h5:=d) h).len;have G:=(aN (O:=O) (e4:=e4) (h5:=h5) a).len;have L:=(aN (O:=r) (e4:=x) (h5:=y) C).len;refine⟨⟨p,b,c,d,O,e4,h5,?_⟩,⟨h,z⟩,⟨a,o⟩,D⟩;grind[putAt,ae,List.take_left',List.drop_eq_nil_of_le,Γ]
def fV(p r:ad->Except Int an×ad)(x:ad)(a:List aU)(b:aU):Int×List aU×ad:=match p x with
 |(.error c,d)=>(c,a,d)
 |(.ok k,d)=>match r d with
  |(.error c,h)=>(c,a,h)
  |(.ok o,h)=>((ia (js a ⟨b.name,b.aG,k,o⟩) a).1,(ia (js a ⟨b.name,b.aG,k,o⟩) a).2,h)
def iJ(a c:Nat)(h:FuncId)(k:ad->Except Int an×ad)(o:an)(p:Ρ)(r:Nat):Prop:=
 ∀(b:U)(d:ad)(x y z C:Own),bh b a c d->AC γ h [.ptr a 0,.agg (ae o x y z),.J (ab p) C,.v (.int .i64 (r:Int))] b λD E=>y9 b E a c (k d) D
theorem EV(G:U)(h T V:Nat)(y:ad)(b:List aU)(d:ds G h T V y b)(a03:∀a∈b,a.Fit)(a04:α b<=1000)(a:aU)(e:Χ)(Q:ef a e)(X:a.Fit)(Y:Ρ)(Z:Own)(k0 k2:FuncId)(L P:ad->Except Int an×ad)
  (a05:fa γ k0=η) (a06:fa γ k2=η) (k3:iJ T V k0 L a.cc Y (α a.aG+1)) (k4:iJ T V k2 P a.cE Y (α a.aG+1)):
  AC γ 104 [.ptr h 0,.agg e,.J (ab Y) Z,.bA k0 [] [],.bA k2 [] []] G λu l4=>u=.v (.int .i64 (fV L P y b a).1)/\ds l4 h T V (fV L P y b a).2.2 (fV L P y b a).2.1/\cu h T V G l4:=by
 obtain⟨v,S,k5,w⟩:=d.x;have a89:=κ k5;obtain⟨a90,a92,a94,a95,a07,a08,a09,a10,a11,a13,a96,a97,a98⟩:=Q.all;have a14:=λG=>uh a e Q G;have c:(match L y with
  |(.error f,g)=>(f,b,g)
  |(.ok A,g)=>match P g with
   |(.error f,j)=>(f,b,j)
   |(.ok B,j)=>((ia (js b ⟨a.name,a.aG,A,B⟩) b).1,(ia (js b ⟨a.name,a.aG,A,B⟩) b).2,j))=fV L P y b a:=rfl
 generalize fV L P y b a=a99 at*;refine aM hm Ls ?_;refine bp λz l=>?_;have l5:h≠z:=by rintro rfl;rw[k5]at l;cases l
 have b00:=l5.symm;have k6:=μ (X:=.cells e) (θ) l;have bx:=ν G z (.cells e);refine bd (a14 _) ?_;have m:=d.fl.ct l;generalize G.set z _=a15 at*;have a16:=d.fl.mono k6;have a18:=k6 _ _ k5;refine eC a05 (k3 a15 y a07 a08 a09 Z a16) ?_;rintro u l6⟨n,k7,l7⟩;have H:=k7 _ _ d.mY d.mZ a18;have k8:=k7 _ _ m.1 m.2 bx;have l8:=cu.trans (cu.of (X:=h) k6) (cu.ext k7);generalize L y=a19 at*;obtain⟨a27,g⟩:=a19;cases a27 with
 |error f=>
  obtain⟨l9,a29,C,D,E,q,rfl⟩:=l7
  dsimp only at c n
  have a30:=(aN (O:=C) (e4:=D) (h5:=E) q).all;have I:=kR (O:=C) (e4:=D) (h5:=E) q;refine aa ?_;refine aO λi k=>?_;refine aa ?_;refine⟨_,θ,by rw[<-c],?_,l8.trans (cu.of (μ θ k))⟩;rw[<-c];exact⟨n.mono (μ θ k),⟨v,S,μ θ k _ _ H,w⟩,d.mY,d.mZ⟩
 |ok s=>
  obtain⟨k9,a34,C,D,E,rfl⟩:=l7
  dsimp only at c n
  have b01:=(aN (O:=C) (e4:=D) (h5:=E) k9).all;have I:=kR (O:=C) (e4:=D) (h5:=E) k9;refine aa ?_;refine aO λi k=>?_;have a36:h≠i:=by rintro rfl;rw[H]at k;cases k
  have b02:=a36.symm;have a38:z≠i:=by rintro rfl;rw[k8]at k;cases k
  have b03:=a38.symm;have fe:=κ H;have a42:=κ k8;refine aa ?_;have K:=μ (X:=.cells (ae s C D E)) (θ) k;have fZ:=ν l6 i (.cells (ae s C D E));have a43:=K _ _ H;have a47:=K _ _ k8;have a48:=n.mono K;have n0:=n.ct k;have a52:=l8.trans (cu.of K);generalize l6.set i _=a56 at*;clear fe a42 I;refine eC a06 (k4 a56 g a10 a11 a13 Z a48) ?_;rintro u t⟨M,N,n1⟩;have l0:=N _ _ d.mY d.mZ a43;have n2:=N _ _ m.1 m.2 a47;have a57:=N _ _ n0.1 n0.2 fZ;have n3:=a52.trans (cu.ext N);generalize P g=a61 at*;obtain⟨cw,j⟩:=a61;cases cw with
  |error f=>
   obtain⟨l9,a29,o,p,r,q,rfl⟩:=n1
   dsimp only at c M
   have a30:=(aN (O:=o) (e4:=p) (h5:=r) q).all;have I:=kR (O:=o) (e4:=p) (h5:=r) q;refine aa ?_;refine aO λF x=>?_;refine aa ?_;refine⟨_,θ,by rw[<-c],?_,n3.trans (cu.of (μ θ x))⟩;rw[<-c];exact⟨M.mono (μ θ x),⟨v,S,μ θ x _ _ l0,w⟩,d.mY,d.mZ⟩
  |ok cg=>
   obtain⟨l1,a62,o,p,r,rfl⟩:=n1
   dsimp only at c M
   have b04:=(aN (O:=o) (e4:=p) (h5:=r) l1).all;have I:=kR (O:=o) (e4:=p) (h5:=r) l1;refine aa ?_;refine aO λF x=>?_;have a63:z≠F:=by rintro rfl;rw[n2]at x;cases x
   have b05:=a63.symm;have a65:i≠F:=by grind
   have b06:=a65.symm;have a68:h≠F:=by rintro rfl;rw[l0]at x;cases x
   have b07:=a68.symm;have b08:=κ a57;have b09:=χ n2;have n4:=Q.a0h (O:=C) (e4:=D) (h5:=E) k9 a34;have l2:=n4.a0i (O:=o) (e4:=p) (h5:=r) l1 a62;have b10:=n4.all.1;have b11:=l2.all.1;have b12:=l2.all.2.1;have n5:=a0a b v S ⟨a.name,a.aG,s,cg⟩ _ l2 ⟨X.n,X.c,X.cs⟩ w a03 a04;have fe:=κ l0;have b13:∀W S,W≠F->t W=β S->(t.set F (.cells (ae cg o p r))) W=β S:=λW S a69 k4=>by rw[ξ _ _ a69];exact k4
   refine aa ?_;generalize putAt (putAt e 2 (ae s C D E)) 39 (ae cg o p r)=n9 at*;have a71:ds ((t.set F (.cells (ae cg o p r))).set z (.cells n9)) h T V j b:=⟨(M.mono (μ θ x)).set m,⟨v,S,by rw[ξ _ _ l5];simp_all,w⟩,d.mY,d.mZ⟩;have a73:cu h T V G ((t.set F (.cells (ae cg o p r))).set z (.cells n9)):=λW a74 A B a81 l3=>by
    have k3:W≠z:=by rintro rfl;rw[l]at l3;cases l3
    rw[ξ _ _ k3];exact μ θ x _ _ (n3 W a74 A B a81 l3)
   generalize (t.set F _).set z _=a83 at*;refine ak (n5 a83) ?_;clear n5;rintro u b14⟨a00,O⟩;have a01:=a71.sub a00;obtain⟨b15,b16,a84,b17⟩:=a01.x;have b18:=χ a84;have a86:=a73.trans (cu.of a00);cases a02:js b ⟨a.name,a.aG,s,cg⟩with
   |error f=>
    rw[a02]at O c;obtain⟨l9,rfl⟩:=O
    dsimp only[ia]at c
    refine aa ?_;grind
   |ok b19=>
    rw[a02]at O c;obtain⟨b20,a88,rfl⟩:=O
    dsimp only[ia]at c
    refine aa ?_;exact⟨_,θ,by rw[<-c],by rw[<-c];exact a01.put a88,a86.yy⟩
variable{B:Τ}
def yz(a:e7.find? (λh4=>decide (h4.name=B))=β h4):h4∈e7:=List.mem_of_find?_eq_some a
variable{n b6:Ρ}
def iJ.a0j(c:α w.sum=32)(d:w.cH)(h:w.size<=2000000)(k:1<=e)(o:e<=8)(p:α n=e):iJ i v 105 (λa=>qD e n a w) w n e:=
 λr a x y z C D=>(ZJ r i v a D w x y z c d h n C e k o p).mono λE F b=>⟨b.1,b.2.1,b.2.2.x⟩
def iJ.a0k(b:α w.sum=32)(c:w.cH)(d:w.size<=2000000)(h:1<=e)(k:e<=8)(o:α n=e):iJ i v 107 (λa=>iI e n a w) w n e:=
 λp a r x y z C=>ZM p i v a C w r x y b c d n z e h k o
def iJ.a0l(c:α w.sum=32)(d:w.cH)(h:1<=e)(k:e<=8)(o:α n=e):iJ i v 106 (λa=>kI e n a w) w n e:=
 λp a r x y z C=>(XD p i v a C w r x y c d n z e h k o).mono λD E b=>⟨b.1,b.2.1,b.2.2.x⟩
def iJ.a0m(c:α w.sum=32)(d:w.cH)(h:1<=e)(k:e<=8)(o:α n=e):iJ i v 108 (λa=>kJ e n a w) w n e:=
 λp a r x y z C=>(XL p i v a C w r x y c d n z e h k o).mono λD E b=>⟨b.1,b.2.1,b.2.2.x⟩
def kl(a:ad)(c:List aU)(d:de):Int×List aU×ad:=match o7 c d with
 |(_,ε)=>(3,c,a)
 |(h,β b)=>if h=0 then fV (λa=>iI (α b.aG+1) d.row a b.cc) (λa=>kJ (α b.aG+1) d.row a b.cE) a c b else(h,c,a)
theorem a0n(x:U)(p y z:Nat)(c:ad)(d:List aU)(e:ds x p y z c d)(f:∀b∈d,b.Fit)(s:cK d=η)(a:df)(t:a.d.Fit):
  AC γ 58 [.ptr p 0,a.V] x λE C=>E=.v (.int .i64 (kl c d a.d).1)/\ds C p y z (kl c d a.d).2.2 (kl c d a.d).2.1/\cu p y z x C:=by
 obtain⟨u,k5⟩:=sr s;have h:(match o7 d a.d with
  |(_,ε)=>(3,d,c)
  |(g,β b)=>if g=0 then fV (λc=>iI (α b.aG+1) a.d.row c b.cc) (λc=>kJ (α b.aG+1) a.d.row c b.cE) c d b else(g,d,c))=kl c d a.d:=rfl
 generalize kl c d a.d=k6 at*;have i:=λC F=>ET C p y z c d F δ a t;have j:a.V=.agg [ao a.d.kind,bo a.d.table,.J (bY a.d.aG) a.fN,.J (ab a.d.row) a.dh]:=rfl;obtain⟨k7,k8,v,k9⟩:=e.x;rw[j]at i|-;clear j;have l0:=κ v;have l1:=gZ.all.1;refine aM hm Kc ?_;refine bp λG w=>?_;have l:=μ (X:=.cells [ao a.d.kind,bo a.d.table,.J (bY a.d.aG) a.fN,.J (ab a.d.row) a.dh]) (θ) w;have aE:=ν x G (.cells [ao a.d.kind,bo a.d.table,.J (bY a.d.aG) a.fN,.J (ab a.d.row) a.dh]);generalize x.set G _=A at*;have m:=e.sub l;refine ak (i A m) ?_;rintro E l2⟨L,k⟩;have n:=L _ _ aE;have l3:=κ n;have B:=m.sub L;have H:=ο l L;have P:∀b T,ef b T->putAt gm 0 T=T:=λb T F=>(pa F).2.2.1;have l4:=gZ.all.2.1;have l5:=P _ _ gZ;have S:=mX;generalize gm=l6 at*;unfold o7 at k h;cases V:d.find? (λb=>decide (b.name=a.d.table))with
 |none=>
  rw[V]at k h
  dsimp only at k h
  obtain rfl:=k;refine aa ?_;refine aO λW r=>?_;rw[S];refine aa ?_;grind[θ,μ,cu.of,ο]
 |some b=>
  rw[V]at k h;have hm:=yz V
  dsimp only at k h
  by_cases D:α a.d.row=α b.aG+1
  .rw[if_pos D]at k h;obtain⟨T,o,rfl⟩:=k;obtain⟨I,K,M,_⟩:=o.all;have N:=P _ _ o;refine aa ?_;refine aO λW r=>?_;rw[S]
   dsimp only at h
   rw[if_pos rfl]at h;have O:G≠W:=by rintro rfl;rw[n]at r;cases r
   have l7:=O.symm;obtain⟨Q,X⟩:=o.k;obtain⟨Y,Z⟩:=o.z;have q:=u b hm;have l8:=q.c;have l9:=q.k.size;have k0:=B.sub (μ (X:=.cells T) θ r);have k2:=EV _ p y z c d k0 f δ b T o (f b hm) a.d.row a.dh 107 108 _ _ Ο Ο (iJ.a0k Q X δ δ δ D) (iJ.a0m Y Z δ δ D);refine aa ?_;refine ak k2 ?_;rintro E n0⟨rfl,k3,k4⟩;refine aa ?_;exact⟨_,θ,by rw[<-h];exact k3,(cu.of (ο H (μ θ r))).trans k4⟩
  .rw[if_neg D]at k h;obtain⟨T,o,rfl⟩:=k;obtain⟨I,K,M,_⟩:=o.all;have N:=P _ _ o;refine aa ?_;refine aO λW r=>?_;rw[S];refine aa ?_
   dsimp only at h
   rw[if_neg Λ]at h;grind[θ,μ,cu.of,ο]
structure uy(c:ad)(d:Nat)(aT aS:Ρ)(a:an)(rows:List Ρ):Prop where
 one:α rows<=1
 sound:∀b∈rows,mU c d aT aS a b
 full:rows=[]->dY aT aS a=η->∀b,¬mU c d aT aS a b
def uz(a:ad)(b:Nat)(c d:Ρ)(h:an):Prop:=∃k,lS a b c d h k/\dY c d h=η/\dn a b k=ε
structure yA where
 rows:List Ρ
 us:Χ
 L:R
 bw:List an
 es:Χ
 o2:R
structure uA(c:ad)(d:Nat)(aT aS:Ρ)(b:an)(A:hx)(B:U)(h:Nat)(x:yA)(o:U):Prop where
 at_:dA A B o h x.us x.L x.es x.o2
 uB:aC isRow x.rows x.us
 rd:∀a∈x.rows,α a=d
 yB:α x.rows<=1
 pg:aC qw x.bw x.es
 q0:∀a∈x.rows,mU c d aT aS b a
 or:∀k∈x.bw,lS c d aT aS b k/\dY aT aS b=η/\1<=bO k
 co:x.rows=[]->dY aT aS b=η->∀a,mU c d aT aS b a->∃k∈x.bw,mU c d aT aS k a
 pZ:(x.bw.map bO).sum<=2097152
variable{b3:bQ}
def lS.snoc{a:an}(c:lS H e n b6 j0 a)(b:dn H e a=β b3)(d:w∈b3.kids)(h:dY n b6 w=η):lS H e n b6 j0 w:=by
 induction c with
 |refl p=>exact .step b d h (.refl _)
 |step h1 k o _ ih=>exact .step h1 k o (ih b)
theorem yC:∀ {ks:List an},(∀a∈ks,1<=bO a)->α ks<=(ks.map bO).sum
 |[],_=>a3w _
 |a::ks,b=>by
  have:=yC (ks:=ks) λa c=>b a (by simp[c]);grind
def uA.len{c:ad}{d:Nat}{h k:Ρ}{o:an}{p:hx}{r:U}{x:Nat}{b:yA}{y:U}(a:uA c d h k o p r x b y):α b.es<=2097152:=by rw[a.pg.len];exact a4f (yC λz C=>(a.or z C).2.2) a.pZ
theorem a0o(Z:U)(k7 b02:Nat)(m:ad)(b52:bh Z k7 b02 m)(D:an)(n3 n4 n5:Own)(b03:α D.sum=32)(b53:D.cH)(p x:Ρ)(n9 a00 a01:Own)(F:Nat)(t:dD p x F=η)(c29:D.size<=1048576)(b04:dY p x D=η->1<=D.size):
  AC γ 165 [.ptr k7 0,.agg (ae D n3 n4 n5),.agg (o1 p x n9 a00 a01),.v (.int .i64 (F:Int))] Z λa36 E=>Z.sub E/\
   ((uz m F p x D/\∃c f,a36=.aF [.agg [c,f],.v (.int .i64 0),.v (.int .i64 21)])\/
   ∃rows I y u v,uy m F p x D rows/\aw Z E 1 I y/\aC isRow rows I/\(∀h∈rows,α h=F)/\a36=.aF [.agg [y,.v (.int .i64 u)],.v (.int .i64 v),.v (.int .i64 0)]):=by
 obtain⟨b05,c30,b06,a38⟩:=mH t;have b54:=(aN (O:=n3) (e4:=n4) (h5:=n5) b03).all;refine aM hm MW ?_;refine bp λa42 c31=>?_;refine dk λb07 c32 c33 c34=>?_;refine hG λa02 a43 c35 c2 aE aL=>?_;generalize k8:((Z.set a42 _).set b07 _).set a02 _=g;have a03:Z.sub g:=by subst k8;exact aV
 have ba:g a42=β (.cells (ae D n3 n4 n5)):=by subst k8;exact aV
 have bx:g b07=β (.cells (o1 p x n9 a00 a01)):=by subst k8;exact aV
 have bs:g a02=β (.cells [.J [] .nil,.v (.int .i64 0)]):=by subst k8;exact aV
 clear k8;have b55:=b52.mono a03;refine bd (Z2 p x _ _ _ F δ g) ?_;rw[t];have b56:=κ ba;have b57:=κ bx;refine aa ?_;refine aO λd k0=>?_;have b08:a42≠d:=by rintro rfl;rw[k0]at ba;cases ba
 have b58:=b08.symm;have b59:a02≠d:=by rintro rfl;rw[k0]at bs;cases bs
 have c36:=b59.symm;refine aa ?_
 let a:hx:=⟨k7,p,x,n9,a00,a01,F⟩;have b09:dA a g (g.set d (.cells (kQ k7 p x n9 a00 a01 F (.J [] .nil) 0 0 0 (.J [] .nil)))) d [] (.J [] .nil) [] (.J [] .nil):=
  ⟨k0,⟨0,0,0,ν _ _ _⟩,aw.nil (μ θ k0),⟨μ θ k0,(λ_ b=>by cases b),.inl ⟨rfl,.inl rfl⟩⟩,(λb=>by cases b),(λb=>by cases b),λ_ b=>by cases b⟩
 refine ak (E2 a g _ d [] _ [] _ b09 D n3 n4 n5 b03 b53 (by show α p<=8;omega) ρ) ?_;rintro _ b60⟨b61,b62,a47,k2⟩;have a04:∃b10,uA m F p x D a g d ⟨[],[],.J [] .nil,b10,b62,b61⟩ b60:=by
  have c37:bO D<=2097152:=by unfold bO;omega
  split at k2
  .rename_i w;obtain⟨b63,a48,rfl⟩:=k2;exact⟨[D],a47,trivial,(λ_ b=>by cases b),a3N _,⟨a48,trivial⟩,(λ_ b=>by cases b),(λz a52=>by
    obtain rfl:=a3s.1 a52;have:=b04 w;exact⟨.refl _,w,by unfold bO;omega⟩),(λ_ _ h r=>⟨D,ρ,r⟩),by trivial⟩
  .rename_i w;subst k2;exact⟨[],a47,trivial,(λ_ b=>by cases b),a3N _,trivial,(λ_ b=>by cases b),(λ_ b=>by cases b),(λ_ b=>absurd b w),a3N _⟩
 obtain⟨b10,a04⟩:=a04;refine aa ?_;refine cQ [0,3,8,11] (λ_:yA=>[]) (λc E=>uA m F p x D a g d c E) (λc=>(c.bw.map bO).sum) _ ⟨a04,aV⟩ ?_;clear a04 a47 k2 b09 b56 b57 b08 b58 ba bx b54 k0;rintro⟨rows,I,y,b11,a56,c38⟩ E o c39;have i:=o.at_
 dsimp only at i
 have c40:=i;obtain⟨u,v,k9,b12⟩:=i.x;obtain⟨c41,c42⟩:=i.w.len;have fe:=κ b12;refine aa ?_;refine aH (λa05=>?_) λa05=>?_;rotate_left;have a57:=o.pg.len
 .have c43:=a05;have b13:a56=[]:=a2Y δ;have b64:b11=[]:=a2Y (by rw[b13]at a57;exact a57.symm);subst b13;subst b64;have b65:=χ (i.l.1 _ _ bs);have c44:=fi i.l;refine aa ?_;refine⟨_,θ,μ (ο a03 i.l.1) a43,.inr ⟨rows,I,y,u,v,⟨o.yB,o.q0,λT A h r=>?_⟩,aw.other (i.l.base a03) a43 (λG=>?_),o.uB,o.rd,rfl⟩⟩
  .obtain⟨z,a52,_⟩:=o.co T A h r;cases a52
  .have:=aw.fresh i.l G;rw[bs]at this;cases this
 have a57:=o.pg.len;have b66:a56≠[]:=by grind
 obtain⟨b14,b15,post,b16,b17,c45,b18⟩:=i.sort b66;obtain⟨c46,b19⟩:=o0.of (s:=E) (l:=b14) (g:=b15) (A:=post) (c0:=a56) (b4:=216) (ds:=[]) a7v λa06 a61 a62 t=>by
  obtain⟨z,_,T⟩:=o.pg.mem a61;obtain⟨B,_,A⟩:=o.pg.mem t;obtain⟨a05,b67⟩:=Z1 T A;exact⟨a05,λa63 _=>b67 _⟩
 rw[b16];clear fe b16;refine ak (DZ YV YP YL YN YJ YH δ rfl b17 (a4f o.len δ) b19 λG K=>?_) ?_
 .obtain⟨z,_,T,_,L,P,S,c,f,id,b68,rfl⟩:=o.pg.mem K;obtain⟨M,N,_⟩:=uc (O:=L) (e4:=P) (h5:=S) (e:=c) (i:=f) (id:=id) (b1:=b68) T;exact⟨M,by rw[hg,aP,if_pos rfl,N]⟩
 rintro _ _⟨a63,k3,rfl⟩;have l0:=b18 a63 k3;obtain⟨b69,l1,b70⟩:=o.pg.perm k3
 match a63,b69,b70,k3,l1,l0 with
 |[],_,_,k3,_,_=>exact absurd k3.length_eq (by simp_all)
 |G::k4,z::O,⟨b71,b20⟩,k3,l1,l0=>
 obtain⟨u,v,k9,a65⟩:=l0.x;obtain⟨C,c47,c48,a68,c49,c50,b72,b21⟩:=l0.tail;generalize W E b14 b15 post (G::k4)=a07 at*;have fe:=κ a65;have a69:=χ a65;clear b18 b19 b17 b12;obtain⟨l2,b73,L,P,S,b74,b75,b76,b77,rfl⟩:=b71;have b22:=(uc (O:=L) (e4:=P) (h5:=S) (e:=b74) (i:=b75) (id:=b76) (b1:=b77) l2).2.2.1;rw[hg,b22]at b21;have c51:=(aN (O:=L) (e4:=P) (h5:=S) l2).all;have b23:=kR (O:=L) (e4:=P) (h5:=S) l2;refine aa ?_;refine aO λk5 a71=>?_;have b24:d≠k5:=by rintro rfl;rw[a65]at a71;cases a71
 have b25:=b24.symm;refine aa ?_;have a73:(a07.set d (.cells (kQ a.fQ a.aT a.aS a.gg a.ec a.gU a.d y u v k9 C))) k5=none:=(ξ _ _ b25).trans a71;have b26:=(a68 u v k9).fresh a73;have b27:=(a68 u v k9).mono (μ (X:=.cells (ae z L P S)) θ a73);rw[U.dU a07 b24]at b27;have fZ:((a07.set k5 (.cells (ae z L P S))).set d (.cells (kQ a.fQ a.aT a.aS a.gg a.ec a.gU a.d y u v k9 C))) k5=β (.cells (ae z L P S)):=(ξ _ _ b25).trans (ν _ _ _);generalize (a07.set k5 (.cells (ae z L P S))).set d _=a74 at*;clear a73 a68 b72 b21 b22 a69 fe l0 b23;obtain⟨b78,l3⟩:=b27.wide;have b79:res (jn d y C) a74 k5=β (.cells (ae z L P S)):=by
  rw[o3];exact fZ;rintro(b|b|b)
  .omega
  .exact b26.l b
  .exact b26.w b
 generalize res (jn d y C) a74=b80 at*;have c52:(b11.map bO).sum=bO z+(O.map bO).sum:=by rw[<-(l1.map bO).sum_nat];simp
 have Q:=λB j=>o.or B (l1.mem_iff.1 j);have b81:=o.pZ
 dsimp only at b81
 refine ak (Z6 a b80 a74 d I rows y k4 C b78 o.uB o.rd a38 b05 z L P S l2) ?_;rintro _ b28⟨n,a62,rfl,b82⟩;have b83:=κ (n.l.1 _ _ b79);refine aa ?_;refine aH (λt=>?_) λt=>?_
 .have b04:=b82 t;refine⟨⟨rows,I,y,O,k4,C⟩,⟨n.base l3,o.uB,o.rd,o.yB,b20,o.q0,λB j=>Q B (by simp[j]),λb=>?_,?_⟩,?_⟩;simp_all
  .show(O.map bO).sum<= _;omega
  grind
 have b29:=(b55.mono l3).mono n.l.1;refine ak (tJ b28 k7 b02 m b29 z L P S l2 (λ_=>b73) F b06 a38) ?_;rintro a36 X⟨a81,a08⟩;cases H:dn m F z with
 |none=>
  rw[H]at a08;obtain rfl:=a08;have b30:=a81 _ _ (n.l.1 _ _ (l3 _ _ bs));refine aa ?_;refine aO λl q=>?_;have b84:a02≠l:=by rintro rfl;rw[b30]at q;cases q
  have c53:=b84.symm;have b65:=χ b30;refine aa ?_;have b31:=ο a03 (ο l3 (ο n.l.1 a81));refine⟨_,θ,μ (μ b31 (Μ b31 q)) a43,.inl ⟨⟨z,(Q z ρ).1,(Q z ρ).2.1,H⟩,_,_,rfl⟩⟩
 |some k=>
  rw[H]at a08;obtain⟨c,f,rfl,c54,c55,c56,k6,l4,a09,a83,_,_⟩:=a08;have a10:=n.mono a81;obtain⟨l5,Y,l6,a11⟩:=a10.x;have c57:=fi k6;have c58:=fi l4;refine aa ?_;refine aO λl q=>?_;have b32:d≠l:=by rintro rfl;rw[a11]at q;cases q
  have b33:=b32.symm;have fe:=κ a11;have a69:=χ a11;have a61:br .add (.int .i64 Y) (.int .i64 1)=β (.int .i64 (IntKind.i64.wrap (Y+1))):=rfl;have b34:=bM.dC k6 δ rfl (a09.cells λ_ _=>dy.cells);have b85:=b34.len;rw[a09.len]at b85;have a84:(X.set d (.cells (kQ a.fQ a.aT a.aS a.gg a.ec a.gU a.d y l5 (IntKind.i64.wrap (Y+1)) l6 C))) l=none:=(ξ _ _ b33).trans q;have a86:=(a10.set l5 (IntKind.i64.wrap (Y+1)) l6).mono (μ (X:=.cells [.v (.int .u8 (k.kind.toNat)),c,f]) θ a84);rw[U.dU X b32]at a86;refine aa ?_;have kD:((X.set l (.cells [.v (.int .u8 (k.kind.toNat)),c,f])).set d (.cells (kQ a.fQ a.aT a.aS a.gg a.ec a.gU a.d y l5 (IntKind.i64.wrap (Y+1)) l6 C))) l=β (.cells [.v (.int .u8 (k.kind.toNat)),c,f]):=(ξ _ _ b33).trans (ν _ _ _);have b35:=(a10.set l5 (IntKind.i64.wrap (Y+1)) l6).fresh a84;have b86:∀h a13,X h=β a13->¬jn d y C h->((X.set l (.cells [.v (.int .u8 (k.kind.toNat)),c,f])).set d (.cells (kQ a.fQ a.aT a.aS a.gg a.ec a.gU a.d y l5 (IntKind.i64.wrap (Y+1)) l6 C))) h=β a13:=λh a13 r hm=>by
   have L:h≠d:=λG=>hm (.inl G);have P:h≠l:=by rintro rfl;rw[q]at r;cases r
   rw[ξ _ _ L,ξ _ _ P];exact r
  generalize (X.set l (.cells [.v (.int .u8 (k.kind.toNat)),c,f])).set d _=a88 at*;have a89:∀ {a06:R}{h:Nat},cG a06=β h->b28 h=ε->¬jn d y C h:=λt r hm=>by
   rcases hm with rfl|G|G
   .obtain⟨_,_,_,b⟩:=n.x;rw[r]at b;cases b
   .exact aw.has n.l G r
   .exact n.w.has G r
  have a90:(res (jn d y C) X).sub (res (jn d y C) a88):=λh a13 r=>by
   grind[hm,jn,qy,o3]
  have b87:=(bM.dC (aw.res k6 λl7 V=>a89 V (aw.fresh k6 V)) δ rfl (a09.cells λ_ _=>dy.cells)).mono (ο (E6 l4.1) a90);have b36:=(bM.dC (aw.res l4 λl7 V=>a89 V (Μ k6.1 (aw.fresh l4 V))) δ rfl (a83.cells λ_ _=>Η)).mono a90;obtain⟨b88,b89⟩:=a86.wide;have b90:res (jn d y C) a88 l=β (.cells [.v (.int .u8 (k.kind.toNat:Int)),c,f]):=by
   rw[o3];exact kD;rintro(b|b|b)
   .trivial
   .exact b35.l b
   .exact b35.w b
  generalize res (jn d y C) a88=l8 at*;have b91:=ο l3 b89;clear b86 a89 a90 b34 k6 l4 fe a69 a11 a10 a86 kD a61 q a84 b29 b83;have b37:=(qi H).ok;obtain⟨b92,_,_⟩:=kF b37;refine cQ [0,3,8,11,13,79,80] (λc:Nat×(List Ρ)×Χ×R=>[(81,.v (.int .i64 (c.1)))]) (λc E=>c.1<=α k.rows/\dA a l8 E d c.2.2.1 c.2.2.2 k4 C/\aC isRow c.2.1 c.2.2.1/\(∀h∈c.2.1,α h=F)/\α c.2.1<=1/\(∀h∈c.2.1,mU m F p x D h)/\(c.2.1=[]->rows=[]/\∀h,(h,η)∈k.rows.take c.1->iE p x h=ι)) (λc=>α k.rows - c.1) (0,rows,I,y) ⟨⟨a3N _,b88,o.uB,o.rd,o.yB,o.q0,λb=>⟨b,λh r=>by simp at r⟩⟩,aV⟩ ?_;rintro⟨e,b38,a14,a15⟩ b93 ⟨b94,l9,a92,n0,a16,a18,a19⟩ c59
  dsimp only at b94 l9 a92 n0 a16 a18 a19
  refine aa ?_;refine aH (λc2=>?_) λc2=>?_
  .have a94:e<α k.rows:=δ;obtain⟨_,K,a95,rfl⟩:=a09.get (i:=e) (x:=k.rows.getD e ([],ι)) (by simp_all);obtain⟨l7,b95,V⟩:=b87.get e _ K;have b39:∀E,l8.sub E->cV η 2 E l7=β (.agg [.J (ab (k.rows.getD e ([],ι)).1) a95,.v (.bool (k.rows.getD e ([],ι)).2)]):=λE b=>V.ld E b η 2 δ (by simp[hg]);have b96:=b39 b93 l9.l.1;have hm:k.rows.getD e ([],ι)∈k.rows:=by simp_all
   have G:=iy (b:=([],ι)) a94;generalize k.rows.getD e ([],ι)=b97 at*;obtain⟨a27,a96⟩:=b97
   dsimp only at b96 G hm
   have b40:=b92 _ hm;clear b39 V K;refine aa ?_;refine aO λc60 b98=>?_;have b99:=l9.mono (μ (X:=.cells [.J (ab a27) a95,.v (.bool a96)]) θ b98);refine aa ?_;refine ak (Z5 a l8 _ d a14 b38 a15 k4 C b99 a92 n0 b06 a38 b05 a16 a27 a96 a95 b40) ?_;rintro _ c61⟨b41,c00,b42,b43,b44,a97⟩;refine aa ?_;have c01:a96=η->iE p x a27=η->mU m F p x D a27:=λT A=>by subst T;exact⟨z,k,(Q z ρ).1,H,hm,A⟩
   split at a97
   .rename_i a29;rw[Ξ]at a29;obtain⟨h,rfl,r⟩:=a97;refine⟨(e+1,[h],b41,b42),⟨a94,b43,b44,λc02 b=>?_,ρ,λc02 b=>?_,λb=>by cases b⟩,rfl,δ⟩
    all_goals
     obtain rfl:=a3s.1 b;rcases r with rfl|r
    .exact b40
    .exact n0 _ r
    .exact c01 a29.1 a29.2
    .exact a18 _ r
   .rename_i a29;subst a97;refine⟨(e+1,c00,b41,b42),⟨a94,b43,b44,n0,a16,a18,λb=>⟨(a19 b).1,λh r=>?_⟩⟩,rfl,δ⟩;grind
  obtain rfl:e=α k.rows:=δ;rw[a3K]at a19;have c62:=κ (l9.l.1 _ _ b90);have c03:=b36.len;rw[a83.len]at c03;refine aa ?_;refine cQ [0,3,8,11,90,91] (λc:Nat×Χ×R=>[(92,.v (.int .i64 (c.1)))]) (λc E=>c.1<=α k.kids/\dA a l8 E d a14 a15 c.2.1 c.2.2/\aC qw (O++(k.kids.take c.1).filter (dY p x)) c.2.1) (λc=>α k.kids - c.1) (0,k4,C) ⟨⟨a3N _,l9,by simpa using b20⟩,aV⟩ ?_;rintro⟨s,a98,b45⟩ b46 ⟨c04,a30,n1⟩ c63
  dsimp only at c04 a30 n1
  refine aa ?_;refine aH (λaE=>?_) λaE=>?_
  .have b47:s<α k.kids:=δ;obtain⟨_,K,a99,c05,M,N,n2,rfl⟩:=a83.get (i:=s) (x:=k.kids.getD s aB) (by simp_all);obtain⟨l7,b95,V⟩:=b36.get s _ K;have c06:=(aN (O:=M) (e4:=N) (h5:=n2) a99).all;have c64:cV η 37 b46 l7=β (.agg (ae (k.kids.getD s aB) M N n2)):=by have:=V.ld b46 a30.l.1 η 37 δ (by rw[hg];omega);rw[this,aP,if_pos rfl,hg,c06.2.1]
   have G:=iy (b:=aB) b47;have b23:=kR (O:=M) (e4:=N) (h5:=n2) a99;generalize k.kids.getD s aB=b00 at*;have c07:α a98<=100000000:=by have T:=n1.len;rw[a2V]at T;have A:=yC (ks:=O) λB j=>(Q B (by simp[j])).2.2;grind
   clear V K;refine aa ?_;refine aO λc65 c08=>?_;have c09:=a30.mono (μ (X:=.cells (ae b00 M N n2)) θ c08);refine aa ?_;refine ak (E2 a l8 _ d a14 a15 a98 b45 c09 b00 M N n2 a99 c05 (by show α p<=8;omega) c07) ?_;rintro _ c66⟨c19,b48,k2,b49⟩;refine aa ?_;refine⟨(s+1,b48,c19),⟨b47,k2,?_⟩,rfl,δ⟩;show aC qw (O++(k.kids.take (s+1)).filter (dY p x)) b48;rw[G,a5O,<-a3o];split at b49
   .rename_i w;obtain⟨b63,a48,rfl⟩:=b49;have w:dY p x b00=true:=w;rw[a6E w];exact n1.snoc a48
   grind
  .obtain rfl:s=α k.kids:=δ;rw[a3K]at n1;obtain⟨c67,c68⟩:=E7 (n:=p) (b6:=x) H;have c20:=sd b37;refine⟨⟨b38,a14,a15,O++k.kids.filter (dY p x),a98,b45⟩,⟨a30.base b91,a92,n0,a16,n1,a18,λB j=>?_,λT A h r=>?_,?_⟩,?_⟩
   .rcases a3f.1 j with j|j
    .simp_all
    .obtain⟨a34,b01⟩:=a5L.1 j;obtain⟨_,a06,a62⟩:=ki (c20 B a34);have:=a06 (a62 (xS b01));exact⟨(Q z ρ).1.snoc H a34 b01,(Q z ρ).2.1,by unfold bO;omega⟩
   .obtain⟨a34,b01⟩:=a19 T;obtain⟨bm,b50,c21⟩:=o.co a34 A h r;rcases a3n.1 (l1.mem_iff.2 b50)with rfl|b50
    .obtain⟨c69,c70,c22,c23,c24,c25⟩:=c21;cases c22 with
     |refl=>simp_all
     |step b51 c26 c27 c28=>rw[H]at b51;obtain rfl:=Δ b51;exact⟨_,a4R _ (a5L.2 ⟨c26,c27⟩),_,_,c28,c23,c24,c25⟩
    grind
   grind;grind
def yD(d:ad)(h:List aU)(k:Τ)(id:Int)(b:R):Prop:=match h.find? (λa=>decide (a.name=k))with
 |none=>b=.aF [.J [] .nil,.v (.bool ι),.v (.int .i64 3)]
 |some a=>
  (uz d (α a.aG+1) (id::ζ (α a.aG) hY) (id::ζ (α a.aG) iF) a.cc/\b=.aF [.J [] .nil,.v (.bool ι),.v (.int .i64 21)])\/
  ∃rows,uy d (α a.aG+1) (id::ζ (α a.aG) hY) (id::ζ (α a.aG) iF) a.cc rows/\(∀c∈rows,α c=α a.aG+1)/\
   ((rows=[]/\b=.aF [.J [] .nil,.v (.bool ι),.v (.int .i64 0)])\/∃c o p,rows=c::o/\b=.aF [.J (ab c) p,.v (.bool η),.v (.int .i64 0)])
theorem a0p(a:cK e7=η)(b:h4∈e7):eK (α h4.aG+1) h4.cc=true:=by simp only[cK,Ξ,a3h,a4b,decide_eq_true_eq]at a;obtain⟨c,d,rfl⟩:=a3B b;simp_all [ft]
theorem EW(id:Int)(a:e<=7):dD (id::ζ e hY) (id::ζ e iF) (e+1)=true:=by have hm:hY<=iF:=Λ;simp only[dD,a3e,a4E,Ξ,decide_eq_true_eq,a3h,a4b];grind
theorem a0q(x:U)(y n k0:Nat)(q:ad)(E:List aU)(s:ds x y n k0 q E)(k2:cK E=η)(W:Τ)(id:Int):
  AC γ 103 [.ptr y 0,bo W,.v (.int .i64 id)] x λt a05=>x.sub a05/\yD q E W id t:=by
 obtain⟨a06,a90⟩:=sr k2;obtain⟨a07,a08,F,a09⟩:=s.x;have a92:=κ F;have a94:=gZ.all.1;have u:∀a T,ef a T->putAt gm 0 T=T:=λa T v=>(pa v).2.2.1;have a10:=u _ _ gZ;have w:=mX;have k:=find_spec E a07 a08 W a09 δ x;unfold Found at k;unfold yD;generalize gm=a95 at*;refine aM hm Lq ?_;refine ak k ?_;clear k;rintro t k3⟨rfl,k⟩;cases A:E.find? (λa=>decide (a.name=W))with
 |none=>rw[A]at k;obtain rfl:=k;refine aa ?_;refine aO λa96 a97=>?_;rw[w];exact aV
 |some a=>
  rw[A]at k;obtain⟨T,e,rfl⟩:=k;obtain⟨a98,a99,b00,b01,k4,k5,k6,k7,a11,a13,b02,b03,b04⟩:=e.all;have b05:=u _ _ e;have k8:=λx=>uh a T e x;have hm:=yz A;have k9:=a06 a hm;have a14:=k9.c;have a15:=k9.k.size;obtain⟨a16,a18⟩:=e.k;clear u a10;refine aa ?_;refine aO λz B=>?_;rw[w];clear w;have a19:y≠z:=by rintro rfl;rw[F]at B;cases B
  have b06:=a19.symm;have C:=μ (X:=.cells T) (θ) B;have cW:=ν k3 z (.cells T);refine aa ?_;refine bd (k8 _) ?_;generalize k3.set z _=H at*;refine ak (YG (α a.aG+1) δ δ H) ?_;rintro _ l0⟨b07,b08,rfl,b09,f,g⟩;have l1:(ab (ζ (α a.aG+1) hY)).length=α a.aG+1:=by rw[bK,a4E]
  have l2:(ab (ζ (α a.aG+1) iF)).length=α a.aG+1:=by rw[bK,a4E]
  obtain⟨bf,d,G,o,rfl,L,l3,a27,I,l4,b10,_⟩:=f.aq (λK=>by rw[K]at l1;simp at l1);obtain⟨b,c,D,p,rfl,M,l5,a29,N,l6,b11,_⟩:=g.aq (λK=>by rw[K]at l2;simp at l2);rw[a3M]at a27 I l4 a29 N l6;have l7:=g.1 _ _ l3;have l8:bf≠b:=by rintro rfl;rw[l3]at M;cases M
  have a30:=l8.symm;have i:=ο f.1 g.1;have l9:=i _ _ cW;have n0:=i _ _ (C _ _ F);have b12:=(s.sub C).sub i;have P:=Μ f.1 M;have b13:z≠bf:=by rintro rfl;rw[cW]at L;cases L
  have b14:z≠b:=by rintro rfl;rw[cW]at P;cases P
  have b15:y≠bf:=by rintro rfl;rw[C _ _ F]at L;cases L
  have b16:y≠b:=by rintro rfl;rw[C _ _ F]at P;cases P
  refine aa ?_;refine aO λr h=>?_;have a34:bf≠r:=by rintro rfl;rw[l7]at h;cases h
  have a36:b≠r:=by rintro rfl;rw[l5]at h;cases h
  have a38:z≠r:=by rintro rfl;rw[l9]at h;cases h
  have a42:y≠r:=by rintro rfl;rw[n0]at h;cases h
  have b17:=a34.symm;have b18:=a36.symm;have b19:=a38.symm;have b20:=a42.symm;have b21:cJ 1 (.aq bf d G 1) (.v (.int .i64 0))=β (.ptr bf 0):=by grind[jL]
  have b22:cJ 1 (.aq b c D 1) (.v (.int .i64 0))=β (.ptr b 0):=by grind[jL]
  have b23:=χ l7;have b24:=χ l5;have b25:=κ l9;have fe:=κ n0;have b26:1<=α o:=δ;have b27:1<=α p:=δ;have a43:(putAt o 0 [R.v (.int .i64 id)]).take d=ab (id::ζ (α a.aG) hY):=by
   have O:d=α a.aG+1:=δ;have S:(o.drop 1).take (d - 1)=ab (ζ (α a.aG) hY):=by rw[<-a4i,I];rfl
   have Q:d - 1=α a.aG:=δ;rw[Q]at S;show([]++[R.v (.int .i64 id)]++o.drop 1).take d= _;rw[a3l,O,a6Y,a6i,S];rfl
  have a47:(putAt p 0 [R.v (.int .i64 id)]).take c=ab (id::ζ (α a.aG) iF):=by
   have O:c=α a.aG+1:=δ;have S:(p.drop 1).take (c - 1)=ab (ζ (α a.aG) iF):=by rw[<-a4i,N];rfl
   have Q:c - 1=α a.aG:=δ;rw[Q]at S;show([]++[R.v (.int .i64 id)]++p.drop 1).take c= _;rw[a3l,O,a6Y,a6i,S];rfl
  have b28:(putAt o 0 [R.v (.int .i64 id)]).length=α o:=eh _ _ _ Κ;have b29:(putAt p 0 [R.v (.int .i64 id)]).length=α p:=eh _ _ _ Κ;have b30:(l0.set r (.cells [.aq bf d G 1,.aq b c D 1])) r=β (.cells [.aq bf d G 1,.aq b c D 1]):=ν _ _ _;clear f g I N l4 l6;refine aa ?_;generalize putAt o 0 [R.v (.int .i64 id)]=j at*;generalize putAt p 0 [R.v (.int .i64 id)]=l at*;refine bd (k8 _) ?_;generalize X:((l0.set r (.cells [.aq bf d G 1,.aq b c D 1])).set bf (.cells j)).set b (.cells l)=V;have a48:V bf=β (.cells j):=by subst X;rw[ξ _ _ l8,ν]
  have a52:V b=β (.cells l):=by subst X;rw[ν]
  have b31:=Μ i h;have a56:H.sub V:=by grind[μ]
  clear X;have n1:=View.aq (n:=d) (cap:=G) (k:=1) a48 δ;rw[lE,a43]at n1;have a57:(V.set bf (.ro j)) b=β (.cells l):=by rw[ξ _ _ a30];exact a52
  have n2:=View.aq (n:=c) (cap:=D) (k:=1) a57 δ;rw[lE,a47]at n2;have n3:H.sub ((V.set bf (.ro j)).set b (.ro l)):=μ (μ a56 L) P;have a61:=View.agg (a:=[]) (k:=[.aq b c D 1,.v (.int .u8 0),.v (.int .i64 0),.J [] .nil,.v (.int .i64 1),.v (.bool ι)]) rfl n1;have a62:=View.agg (a:=[.J (ab (id::ζ (α a.aG) hY)) .any]) (k:=[.v (.int .u8 0),.v (.int .i64 0),.J [] .nil,.v (.int .i64 1),.v (.bool ι)]) rfl n2;have a63:=a61.trans a62;have a65:=EW id a14;have a68:dY (id::ζ (α a.aG) hY) (id::ζ (α a.aG) iF) a.cc=η->1<=a.cc.size:=λv=>by
   simp only[dY,Ξ,decide_eq_true_eq]at v;have b32:=ki (a0p k2 hm);simp_all
  have a69:=AC.mK (m:=γ) (g:=[.ptr n 0,.agg (ae a.cc k4 k5 k6)]) a63 (a0o _ n k0 q (s.fl.mono (ο C n3)) a.cc k4 k5 k6 a16 a18 _ _ .any .any .nil (α a.aG+1) a65 a15 a68);refine ak a69 ?_;rintro t a71⟨a73,a74⟩;have b33:=ο C (ο n3 a73);rcases a74 with⟨b34,b35,b36,rfl⟩|⟨rows,b37,Y,n4,b38,b39,Z,m,b40,rfl⟩
  .refine aa ?_;refine aO λn5 n9=>?_;refine aa ?_;simp
  .have b41:=fi Z;refine aa ?_;refine aO λn5 n9=>?_;have a81:=Z.src;obtain⟨a00,k7,a11,a13⟩:=a81;rw[a3M]at k7;have a01:=m.len;refine aa ?_;cases rows with
   |nil=>
    have a02:a00=0:=by rw[a3a]at a01;omega
    subst a02;refine aa ?_;grind
   |cons a83 rest=>
    have a02:¬(a00:Int)=0:=by rw[a3e]at a01;omega
    obtain⟨_,a84,a86,rfl⟩:=m.get (i:=0) rfl;have a88:=bM.dC (Z.mono (μ (X:=.cells [Y,.v (.int .i64 n4)]) (θ) n9)) δ m.flat.symm (m.cells λ_ _=>φ);obtain⟨a03,a04,a89⟩:=a88.get 0 _ a84;have a04:cJ 1 Y (.v (.int .i64 0))=β a03:=a04;have b42:cV ι 1 (a71.set n5 (.cells [Y,.v (.int .i64 n4)])) a03=β (.J (ab a83) a86):=a89.ld _ θ ι 1 δ (by simp[τ]);refine aa ?_;grind
def iK(d:Nat)(b:Ρ×Ρ)(c:Ρ):Prop:=∀a,a<d->b.1.getD a 0<=c.getD a 0/\c.getD a 0<=b.2.getD a 0
def EX{a b:Ρ×Ρ}(h:gI e a)(k:gI e b)(c:iK e a n\/iK e b n):iK e (dV a b) n:=by
 have o:=kK.1 h.ok;have p:=kK.1 k.ok;unfold dV;rw[o.2.2.1,p.2.2.1,if_pos h.ok,if_pos k.ok,if_pos rfl];intro d r;have x:=Dz (a:=min) (n:=a.1) (b6:=b.1) (e:=d) δ δ;have y:=Dz (a:=max) (n:=a.2) (b6:=b.2) (e:=d) δ δ
 dsimp only
 rw[x,y];rcases c with c|c<;>have:=c d r<;>omega
variable{a8:aA}
theorem EY{a:gy}(k:lO e i a)(r:0<i)(o:kj e a8 w)(d:iK e a.bf n):iK e (gd a w).bf n:=by
 have h:gI e a.bf:=by
  rcases k.bf with⟨b,_⟩|⟨_,b⟩
  .omega
  .exact b
 show iK e (dV a.bf (w.aT,w.aS)) n;rcases o.bf with⟨b,c,p⟩|⟨b,c⟩
 .rw[c,p,EN h];exact d
 .exact EX h c (.inl d)
def EZ{a:gy}(h:lO e i a)(k:kj e a8 w)(o:n∈a8.all)(d:iK e (w.aT,w.aS) n):iK e (gd a w).bf n:=by
 have x:=a5S o;show iK e (dV a.bf (w.aT,w.aS)) n;rcases k.bf with⟨p,b,y⟩|⟨p,b⟩
 .omega
 rcases h.bf with⟨r,c⟩|⟨r,c⟩
 .rw[c,p3 b];exact d
 .exact EX c b (.inr d)
theorem yE{b:Nat}(h:1<=b)(k:b<=8){c:Ρ}:∀ {o:aA},o.c7 b->o.size<=1048576->c∈o.all->iK b ((bD o).aT,(bD o).aS) c
 |.nil,_,_,d=>by cases d
 |.node p live D E,d,F,a=>by
  simp only[Ι]at F;have x:=fT h k d.a δ;have y:=fT h k d.b δ;have r:=xm h k d.r;have z:lO b (if live=η then 1 else 0) (fy ⟨0,1,([],[])⟩ (p,live)):=by
   cases live with
   |false=>exact⟨rfl,.inl ⟨rfl,rfl⟩⟩
   |true=>refine⟨rfl,.inr ⟨Λ,?_⟩⟩;show gI b (dV ([],[]) (gx p));rw[p3 r];exact r
  have C:=ya z x;show iK b (gd (gd (fy ⟨0,1,([],[])⟩ (p,live)) (bD D)) (bD E)).bf c;simp only[aA.all,a3f]at a;rcases a with (a|a)|a
  .have:=a5S a;exact EY C δ y (EZ z x a (yE h k d.a δ a))
  .exact EZ C y a (yE h k d.b δ a)
  .have G:live=η/\c=p:=by simp_all
   obtain⟨rfl,rfl⟩:=G;have L:iK b (fy ⟨0,1,([],[])⟩ (c,η)).bf c:=by show iK b (dV ([],[]) (gx c)) c;rw[p3 r];unfold gx;rw[if_pos (by have:=d.r.len;omega)];exact λP _=>⟨a6L _,a6L _⟩
   grind[EY]
def F0{a:Ρ}(b:α a=e):iE n b6 a=η↔dD n b6 e=η/\iK e (n,b6) a:=by unfold iE;simp only[b,Ξ,a3h,a4b,decide_eq_true_eq];rfl
def yF(c:1<=e)(d:e<=8){h:Ρ}(a:a8.c7 e)(k:a8.size<=1048576)(b:b6∈a8.all)(y:iE h n b6=η):dY h n (bD a8)=true:=by
 have o:=fT c d a k;have G:=a5S b;have z:=(a b6 (aA.fS b)).len;obtain⟨p,C⟩:=(F0 z).1 y;have D:=yE c d a k b;have E:=kK.1 p;have F:dD (bD a8).aT (bD a8).aS e=true:=by
  rcases o.bf with⟨r,_⟩|⟨_,r⟩
  .omega
  .exact r.ok
 have L:=o.live;unfold dY jk nV;simp only[E.2.2.1,Ξ,a3h,a4b,decide_eq_true_eq];refine⟨δ,⟨p,F⟩,λx n=>?_⟩;have:=C x n;have:=D x n
 dsimp only at*
 unfold gY;omega
def F1:dn H e aB=none:=by
 cases a:dn H e aB with
 |none=>rfl
 |some b=>have:=(E7 (n:=[]) (b6:=[]) a).2;have c:(aB).size=0:=rfl;omega
theorem F2(r:1<=e)(x:e<=8)(y:lS H e n b6 w j0):∀ {a:aA},w=bD a->a.c7 e->a.size<=1048576->dL H a->∃b,j0=bD b/\b.c7 e/\b.size<=1048576/\dL H b/\(∀z∈b.all,z∈a.all)/\(dY n b6 w=η->dY n b6 j0=η):=by
 induction y with
 |refl C=>grind
 |@step C k W f c hk g i ih=>
  intro a o d p h;cases a with
  |nil=>rw[o,show bD .nil=aB from rfl,F1]at c;cases c
  |node j live D E=>
   rw[o,sk r x d p h]at c;obtain rfl:=Δ c;simp only[Ι]at p;have F:k=bD D\/k=bD E:=by simpa[cx] using hk
   rcases F with rfl|rfl
   .obtain⟨b,G,L,P,S,T,V⟩:=ih rfl d.a δ h.2.1;grind[aA.all]
   .obtain⟨b,G,L,P,S,T,V⟩:=ih rfl d.b δ h.2.2;grind[aA.all]
def a0r(a:1<=e)(b:e<=8)(d:a8.c7 e)(h:a8.size<=1048576)(k:dL H a8):¬uz H e n b6 (bD a8):=by
 rintro⟨D,o,p,c⟩;obtain⟨r,rfl,x,y,z,_,C⟩:=F2 a b o rfl d h k;cases r with
 |nil=>exact xS (C p) rfl
 |node E live F G=>rw[sk a b x y z]at c;cases c
def a0s(b:1<=e)(c:e<=8){d:Ρ}(h:a8.c7 e)(k:a8.size<=1048576)(o:dL H a8)(p:mU H e b6 d (bD a8) n):n∈a8.all/\iE b6 d n=true:=by
 obtain⟨G,L,r,a,hm,x⟩:=p;obtain⟨y,rfl,z,C,D,E,_⟩:=F2 b c r rfl h k o;refine⟨E n ?_,x⟩;cases y with
 |nil=>rw[show bD .nil=aB from rfl,F1]at a;cases a
 |node F live P S=>
  rw[sk b c z C D]at a;obtain rfl:=Δ a;have:n=F/\live=true:=by simpa[cx] using hm
  obtain⟨rfl,rfl⟩:=this;simp[aA.all]
theorem yG{E:ad}{o:Nat}(c:1<=o)(d:o<=8){F G p:Ρ}:∀ {h:aA},h.c7 o->h.size<=1048576->dL E h->p∈h.all->iE F G p=η->mU E o F G (bD h) p
 |.nil,_,_,_,b,_=>by cases b
 |.node P live T V,b,L,r,a,k=>by
  have x:=sk c d b L r;simp only[Ι]at L;simp only[aA.all,a3f]at a;rcases a with (a|a)|a
  .obtain⟨y,z,C,D⟩:=yG c d b.a δ r.2.1 a k;exact⟨y,z,.step x (by simp[cx]) (yF c d b.a δ a k) C,D⟩
  .obtain⟨y,z,C,D⟩:=yG c d b.b δ r.2.2 a k;exact⟨y,z,.step x (by simp[cx]) (yF c d b.b δ a k) C,D⟩
  .have S:live=η/\p=P:=by simp_all
   obtain⟨rfl,rfl⟩:=S;exact⟨_,_,.refl _,x,by simp[cx],k⟩
variable{N:List Ρ}
theorem a0t(b:1<=e)(c:e<=8)(d:a8.c7 e)(h:a8.size<=1048576)(k:dL H a8)(o:uy H e n b6 (bD a8) N):(N=[]↔ ∀a∈a8.all,¬iE n b6 a=η):=by
 constructor
 .intro x a p r;exact o.full x (yF b c d h p r) a (yG b c d h k p r)
 .intro y;cases N with
  |nil=>rfl
  |cons a rest=>obtain⟨z,C⟩:=a0s b c d h k (o.sound a ρ);simp_all
theorem F3{id:Int}(d:e<=7)(b:bF (e+1) n):iE (id::ζ e hY) (id::ζ e iF) n=η↔n.getD 0 0=id:=by
 rw[F0 b.len];constructor
 .rintro⟨_,c⟩;have:=c 0 δ;grind
 .intro h;refine⟨EW id d,λa k=>?_⟩;cases a with
  |zero=>simp only[a3X];omega
  |succ a=>have c:a<e:=δ;have o:=b.len;have hm:=b.kd (n.getD (a+1) 0) (by simp_all);simp only[a4j];simp only[a3L,List.getElem?_replicate,if_pos c,a4I];simp only[a3L]at hm;unfold hY iF;omega
def o8(b:ad)(d:List aU)(c:de)(h:Int×List aU×ad):Prop:=match d.find? (λa=>decide (a.name=c.table))with
 |none=>h=(3,d,b)
 |some a=>if α c.row=α a.aG+1 then
   (uz b (α a.aG+1) (c.row.getD 0 0::ζ (α a.aG) hY) (c.row.getD 0 0::ζ (α a.aG) iF) a.cc/\h=(21,d,b))\/
   ∃rows,uy b (α a.aG+1) (c.row.getD 0 0::ζ (α a.aG) hY) (c.row.getD 0 0::ζ (α a.aG) iF) a.cc rows/\(∀k∈rows,α k=α a.aG+1)/\
    ((rows=[]/\h=fV (λb=>qD (α a.aG+1) c.row b a.cc) (λb=>kI (α a.aG+1) c.row b a.cE) b d a)\/(rows≠[]/\h=(8,d,b)))
  else h=(6,d,b)
def a0u(z:U)(p r x:Nat)(k:ad)(c:List aU)(l:ds z p r x k c)(m:∀d∈c,d.Fit)(n:cK c=η)(a:df)(H:a.d.Fit):
  AC γ 57 [.ptr p 0,a.V] z λD E=>∃res,o8 k c a.d res/\D=.v (.int .i64 res.1)/\ds E p r x res.2.2 res.2.1/\cu p r x z E:=by
 obtain⟨I,l7⟩:=sr n;have q:=λE C=>ET E p r x k c C δ a H;have s:a.V=.agg [ao a.d.kind,bo a.d.table,.J (bY a.d.aG) a.fN,.J (ab a.d.row) a.dh]:=rfl;obtain⟨l8,l9,K,n0⟩:=l.x;rw[s]at q|-;clear s;have n1:=κ K;have n2:=gZ.all.1;refine aM hm Ka ?_;refine bp λP M=>?_;have t:=μ (X:=.cells [ao a.d.kind,bo a.d.table,.J (bY a.d.aG) a.fN,.J (ab a.d.row) a.dh]) (θ) M;have aE:=ν z P (.cells [ao a.d.kind,bo a.d.table,.J (bY a.d.aG) a.fN,.J (ab a.d.row) a.dh]);generalize z.set P _=N at*;have u:=l.sub t;refine ak (q N u) ?_;rintro D O⟨S,b⟩;have V:=S _ _ aE;have n3:=κ V;have W:=u.sub S;have e:=ο t S;have f:∀d T,ef d T->putAt gm 0 T=T:=λd T C=>(pa C).2.2.1;have n4:=gZ.all.2.1;have n5:=f _ _ gZ;have g:=mX;generalize gm=n9 at*;unfold o7 at b;unfold o8;cases F:c.find? (λd=>decide (d.name=a.d.table))with
 |none=>
  rw[F]at b
  dsimp only at b
  obtain rfl:=b;refine aa ?_;refine aO λG h=>?_;rw[g];refine aa ?_;refine⟨_,θ,(3,c,k),rfl,rfl,W.sub (μ θ h),cu.of (ο e (μ θ h))⟩
 |some d=>
  rw[F]at b;have hm:=yz F
  dsimp only at b
  by_cases y:α a.d.row=α d.aG+1
  .rw[if_pos y]at b;obtain⟨T,o,rfl⟩:=b;obtain⟨Q,X,Y,_⟩:=o.all;have Z:=f _ _ o;have k0:=@er a.d.row;have a00:=bK (n:=a.d.row);refine aa ?_;refine aO λG h=>?_;rw[g];have k2:P≠G:=by rintro rfl;rw[V]at h;cases h
   have a01:=k2.symm;obtain⟨k3,k4⟩:=o.k;obtain⟨k5,k6⟩:=o.z;have v:=I d hm;have a02:=v.c;have a03:=v.k.size;have w:=W.sub (μ (X:=.cells T) θ h);have k7:=μ (X:=.cells T) (θ) h _ _ V;have k8:=ν O G (.cells T);have k9:=ο e (μ (X:=.cells T) (θ) h);have a04:cJ 1 (.J (ab a.d.row) a.dh) (.v (.int .i64 0))=β (.bR [.v (.int .i64 (a.d.row.getD 0 0))]):=by have C:=k0 (b:=0) δ;have l0:(0:Int)<=0:=δ;rw[fJ l0];show eJ 1 (ab a.d.row)[0]?= _;rw[C];rfl
   dsimp only
   simp only[if_pos y];refine aa ?_;refine ak (a0q _ p r x k c w n a.d.table (a.d.row.getD 0 0)) ?_;rintro D l1⟨L,b⟩;unfold yD at b;rw[F]at b
   dsimp only at b
   have i:=w.sub L;have j:=ο k9 L;have a05:=κ (L _ _ k7);have a06:=κ (L _ _ k8);rcases b with⟨a07,rfl⟩|⟨rows,A,B,⟨rfl,rfl⟩|⟨l2,l3,a08,rfl,rfl⟩⟩
   .refine aa ?_;exact⟨_,θ,(21,c,k),.inl rfl,rfl,i,cu.of j⟩
   .have l4:=EV l1 p r x k c i m δ d T o (m d hm) a.d.row a.dh 105 106 _ _ Ο Ο (iJ.a0j k3 k4 δ δ δ y) (iJ.a0l k5 k6 δ δ y);refine aa ?_;refine ak l4 ?_;rintro D a09⟨rfl,l5,l6⟩;refine aa ?_;exact⟨_,θ,_,.inr ⟨[],A,B,.inl ⟨rfl,rfl⟩⟩,rfl,l5,(cu.of j).trans l6⟩
   .refine aa ?_;exact⟨_,θ,(8,c,k),.inr ⟨l2::l3,A,B,.inr ⟨ρ,rfl⟩⟩,rfl,i,cu.of j⟩
  .rw[if_neg y]at b;obtain⟨T,o,rfl⟩:=b;obtain⟨Q,X,Y,_⟩:=o.all;have Z:=f _ _ o;refine aa ?_;refine aO λG h=>?_;rw[g]
   dsimp only
   simp only[if_neg y];refine aa ?_;refine⟨_,θ,(6,c,k),rfl,rfl,W.sub (μ θ h),cu.of (ο e (μ θ h))⟩
def hz(c:ad)(b:List aU)(a:de)(d:Int×List aU×ad):Prop:=
 if ew a=ι then d=(1,b,c)
 else if a.kind=1 then d=((ia (jr b ⟨a.table,a.aG,aB,aB⟩) b).1,(ia (jr b ⟨a.table,a.aG,aB,aB⟩) b).2,c)
 else if a.kind=2 then d=((ia (cD b a.table) b).1,(ia (cD b a.table) b).2,c)
 else if a.kind=3 then o8 c b a d
 else d=kl c b a
theorem a0v(b:U)(d h k:Nat)(r:ad)(x:List aU)(Z:ds b d h k r x)(j:∀k0∈x,k0.Fit)(m:cK x=η)(a:df)(l:a.d.Fit):
  AC γ 27 [.ptr d 0,a.V] b λg w=>∃res,hz r x a.d res/\g=.v (.int .i64 res.1)/\ds w d h k res.2.2 res.2.1/\cu d h k b w:=by
 have k4:=(sr m).2;have n:=λb=>DM a l b;have A:=λb L=>a0g b d h k r x L j δ a l;have B:=λb L=>a0f b d h k r x L j δ a;have H:=λb L=>a0u b d h k r x L j m a l;have I:=λb L=>a0n b d h k r x L j m a l;have K:a.V=.agg [ao a.d.kind,bo a.d.table,.J (bY a.d.aG) a.fN,.J (ab a.d.row) a.dh]:=rfl;rw[K]at n A B H I|-;clear K;refine aM hm Jp ?_;refine bp λq k2=>?_;have e:=μ (X:=.cells [ao a.d.kind,bo a.d.table,.J (bY a.d.aG) a.fN,.J (ab a.d.row) a.dh]) (θ) k2;have aE:=ν b q (.cells [ao a.d.kind,bo a.d.table,.J (bY a.d.aG) a.fN,.J (ab a.d.row) a.dh]);generalize b.set q _=f at*;have i:=Z.sub e;have k5:=κ aE;cases cf:ew a.d with
 |false=>refine bd (n f) ?_;exact⟨_,θ,(1,x,r),by unfold hz;rw[if_pos cf],rfl,i,cu.of e⟩
 |true=>
  refine bd (n f) ?_;rw[show ζ 5 (R.v .nilFunc)=[.v .nilFunc,.v .nilFunc,.v .nilFunc,.v .nilFunc,.v .nilFunc]from rfl];have k6:∀z C D E F y:R,putAt [z,C,D,E,F] 1 [y]=[z,y,D,E,F]:=λ_ _ _ _ _ _=>rfl;have k7:∀z C D E F y:R,putAt [z,C,D,E,F] 2 [y]=[z,C,y,E,F]:=λ_ _ _ _ _ _=>rfl;have k8:∀z C D E F y:R,putAt [z,C,D,E,F] 3 [y]=[z,C,D,y,F]:=λ_ _ _ _ _ _=>rfl;have k9:∀z C D E F y:R,putAt [z,C,D,E,F] 4 [y]=[z,C,D,E,y]:=λ_ _ _ _ _ _=>rfl;have l0:∀z C D E F y M N O v:R,putAt [z,C,D,E,F] 0 [y,M,N,O,v]=[y,M,N,O,v]:=λ_ _ _ _ _ _ _ _ _ _=>rfl;have l1:∀Q X Y,(R.bA Q X Y).cells=[.bA Q X Y]:=λ_ _ _=>rfl;have P:a.d.kind.toNat=1\/a.d.kind.toNat=2\/a.d.kind.toNat=3\/a.d.kind.toNat=4:=by have L:=cf;simp only[ew,Ξ]at L;grind
  refine aa ?_;refine aO λc G=>?_;have k3:q≠c:=by rintro rfl;rw[aE]at G;cases G
  have l2:=k3.symm;rcases P with P|P|P|P
  .have s:lB 1 5 (.ptr c 0) (ao a.d.kind)=β (.ptr c 1):=by have:=rf (e:=1) (i:=5) (v:=c) (M:=0) (e0:=.u8) (b1:=(a.d.kind.toNat)) δ δ;rw[a3p,show 0+a.d.kind.toNat*1=1 by omega]at this;exact this
   refine aa ?_;have t:a.d.kind=1:=a3Z.1 P;generalize o:(f.set c _)=p;have S:ds p d h k r x:=by subst o;exact i.sub (μ θ G)
   have T:cu d h k b p:=by subst o;exact cu.of (ο e (μ θ G))
   clear o;refine eC a7v (A p S) ?_;rintro g u⟨V,W,rfl⟩;refine aa ?_;refine⟨_,θ,(_,_,r),?_,rfl,V,T.trans W⟩;unfold hz;grind
  .have s:lB 1 5 (.ptr c 0) (ao a.d.kind)=β (.ptr c 2):=by have:=rf (e:=1) (i:=5) (v:=c) (M:=0) (e0:=.u8) (b1:=(a.d.kind.toNat)) δ δ;rw[a3p,show 0+a.d.kind.toNat*1=2 by omega]at this;exact this
   refine aa ?_;have t:a.d.kind=2:=a3Z.1 P;generalize o:(f.set c _)=p;have S:ds p d h k r x:=by subst o;exact i.sub (μ θ G)
   have T:cu d h k b p:=by subst o;exact cu.of (ο e (μ θ G))
   clear o;refine eC a7v (B p S) ?_;rintro g u⟨V,W,rfl⟩;refine aa ?_;refine⟨_,θ,(_,_,r),?_,rfl,V,T.trans W⟩;simp_all [hz]
  .have s:lB 1 5 (.ptr c 0) (ao a.d.kind)=β (.ptr c 3):=by have:=rf (e:=1) (i:=5) (v:=c) (M:=0) (e0:=.u8) (b1:=(a.d.kind.toNat)) δ δ;rw[a3p,show 0+a.d.kind.toNat*1=3 by omega]at this;exact this
   refine aa ?_;have t:a.d.kind=3:=a3Z.1 P;generalize o:(f.set c _)=p;have S:ds p d h k r x:=by subst o;exact i.sub (μ θ G)
   have T:cu d h k b p:=by subst o;exact cu.of (ο e (μ θ G))
   clear o;refine eC a7v (H p S) ?_;rintro g u⟨res,l3,rfl,V,W⟩;refine aa ?_;refine⟨_,θ,res,?_,rfl,V,T.trans W⟩;simp_all [hz]
  .have s:lB 1 5 (.ptr c 0) (ao a.d.kind)=β (.ptr c 4):=by have:=rf (e:=1) (i:=5) (v:=c) (M:=0) (e0:=.u8) (b1:=(a.d.kind.toNat)) δ δ;rw[a3p,show 0+a.d.kind.toNat*1=4 by omega]at this;exact this
   refine aa ?_;have t:a.d.kind=4:=a3Z.1 P;generalize o:(f.set c _)=p;have S:ds p d h k r x:=by subst o;exact i.sub (μ θ G)
   have T:cu d h k b p:=by subst o;exact cu.of (ο e (μ θ G))
   clear o;refine eC a7v (I p S) ?_;rintro g u⟨rfl,V,W⟩;refine aa ?_;refine⟨_,θ,kl r x a.d,?_,rfl,V,T.trans W⟩;simp_all [hz]
theorem o9:cK e7=η↔(∀b∈e7,ft b=η)/\e7.Pairwise (λc d=>bV c.name d.name=η)/\α e7<=8:=by
 constructor
 .intro a;have o:=yv a;simp only[cK,Ξ,a3h,a4b,decide_eq_true_eq]at a;refine⟨λb h=>?_,?_,a.2⟩
  .obtain⟨p,r,rfl⟩:=a3B h;simp_all
  grind[List.pairwise_iff_getElem,List.getD]
 .rintro⟨x,k,y⟩;rw[a4m]at k;simp only[cK,Ξ,a3h,a4b,decide_eq_true_eq,a4x];grind
theorem F4{b:List aU}(c:cK e7=η)(a:cD e7 B=.ok b):cK b=true:=by
 unfold cD at a;rw[if_pos c]at a;split at a
 .obtain rfl:=Except.ok.inj a;obtain⟨d,h,k⟩:=o9.1 c;have o:(e7.take (cP e7 B)++e7.drop (cP e7 B+1)).Sublist e7:=by grind[cP,List.Sublist.append_left,List.drop_drop,List.drop_sublist,List.take_append_drop]
  grind[o9,Nat.le_trans]
 .cases a
theorem F5{c:List aU}(a:js e7 h4=.ok c):cK c=true:=by
 unfold js at a;split at a
 .rename_i b;simp only[Ξ]at b;obtain⟨b,p⟩:=b;split at a
  .rename_i d;obtain rfl:=Except.ok.inj a;simp only[fU,Ξ,decide_eq_true_eq]at d;obtain⟨h,r⟩:=d;obtain⟨x,k,o⟩:=o9.1 b;have y:(e7[cP e7 h4.name]'h).name=h4.name:=by simp_all
   refine o9.2 ⟨λz C=>?_,?_,by rw[a5K];exact o⟩;grind
   .rw[a4m]at k|-;grind
  .cases a
 .cases a
def F6{c:aU->Bool}:∀ {d:List aU},∀b∈d.takeWhile c,c b=η
 |[],b,a=>by cases a
 |h::d,b,a=>by
  rw[a4k]at a;split at a
  .rcases a3n.1 a with rfl|a
   .assumption
   .exact F6 b a
  .cases a
theorem F7{c:aU->Bool}:∀ {d:List aU}{b:aU}{h:List aU},d.dropWhile c=b::h->c b=ι
 |[],_,_,a=>by cases a
 |k::d,b,h,a=>by
  rw[a5q]at a;split at a
  .exact F7 a
  simp_all
theorem F8{o:List aU}(b:jr e7 h4=.ok o):cK o=true:=by
 unfold jr at b;split at b
 .rename_i d;simp only[Ξ]at d;obtain⟨d,E⟩:=d;split at b
  .cases b
  rename_i F;split at b
  .cases b
  rename_i G;obtain rfl:=Except.ok.inj b;obtain⟨L,p,P⟩:=o9.1 d;have r:e7.take (cP e7 h4.name)=e7.takeWhile λa=>bV a.name h4.name:=by grind[List.takeWhile_append_dropWhile,bV,cP,List.take_left]
  have x:e7.drop (cP e7 h4.name)=e7.dropWhile λa=>bV a.name h4.name:=by grind[List.takeWhile_append_dropWhile,bV,cP,List.drop_left]
  have el:=a3F (p:=λa:aU=>bV a.name h4.name) (l:=e7);have S:∀a∈e7.takeWhile (λa=>bV a.name h4.name),bV a.name h4.name=true:=λa c=>F6 a c;have y:∀a∈e7.dropWhile (λa=>bV a.name h4.name),bV h4.name a.name=true:=by
   intro a c;cases h:e7.dropWhile (λa=>bV a.name h4.name)with
   |nil=>rw[h]at c;cases c
   |cons k T=>
    have V:=F7 h;have W:cP e7 h4.name<α e7:=by grind
    have e:e7.getD (cP e7 h4.name) default=k:=by grind
    have f:k.name≠h4.name:=λg=>by
     simp_all [fU]
    have z:bV h4.name k.name=true:=by grind[bV,absurd,Ed]
    rw[h]at c;rcases a3n.1 c with rfl|c
    .exact z
    grind[uf,List.pairwise_cons]
  rw[r,x];refine o9.2 ⟨λa c=>?_,?_,?_⟩;grind
  .rw[<-el]at p;obtain⟨C,D,i⟩:=a3Q.1 p;refine a3Q.2 ⟨C,a3x.2 ⟨y,D⟩,λj l m n=>?_⟩;grind
  grind
 .cases b
end Go.Proofs.YtcfpcblgmmeioaaGreat
namespace Go.bt
open Go
variable{q b7:R}{f u e1:U}{g A c0:Χ}{e i v M b9 h9:Nat}
theorem View.obj(p:f e=β (.cells (A++ .aq i M b9 1::c0)))(z:f i=β (.cells g))(C:M*1<=α g)(D:e≠i):
  View f q ((f.set i (.ro g)).set e (.cells (A++ .J (ez 1 M g) .any::c0))) q:=λt u v E F=>by
 obtain⟨G,a⟩:=Step.freeze E z;have L:(f.set i (.ro g)) e=β (.cells (A++ .aq i M b9 1::c0)):=by rw[ξ _ _ D];exact p
 obtain⟨w,P,T,S,h,V⟩:=a.holds.cM e _ L;refine⟨G,⟨⟨a.holds.ro,λr W b=>?_⟩,a.le,a.os,a.tape,a.output,a.size,λ_ _ _=>rfl,λk B=>?_,a.lY,λk j l o=>?_⟩,F.mono a.le⟩
 .by_cases c:r=e
  .subst c;rw[ν]at b;obtain rfl:=Δ b;refine⟨λH d=>?_,P,T,S,⟨by have:=h.1;simp_all,λx y m=>?_⟩,V⟩
   .simp only[a3f,a3n]at d;rcases d with d|rfl|d
    .simp_all
    .rfl
    .simp_all
   .by_cases n:x=α A
    .subst n;have s:y=.J (ez 1 M g) .any:=by simpa using m.symm
     subst s;exact aQ.frozen a.holds (ν _ _ _) C (h.2 (α A) (.aq i M b9 1) ρ)
    .refine h.2 x y ?_;grind
  .rw[ξ _ _ c]at b;exact a.holds.cM r W b
 grind[ξ]
 .have c:k≠e:=by rintro rfl;rw[p]at o;cases o
  rw[ξ _ _ c];exact a.iN k j l o
def yH(k o:U):Prop:=∀a b c d h,k a=β (.cells [.J b c,.J d h])->o a=β (.cells [.J b c,.J d h])
end Go.bt
namespace Go.Proofs.YtcfpcblgmmeioaaGreat
open Go Go.bt
def bz.uC{r x:U}(d:yH r x):∀ {a:Nat}{b:a1.T a}{c:R},bz r a b c->bz x a b c
 |0,b,c,⟨h,y,k,ec,h1,o,p⟩=>⟨h,y,k,ec,h1,d _ _ _ _ _ o,p⟩
 |a+1,b,c,⟨h,z,k,ec,h1,o,p,C⟩=>⟨h,z,k,ec,h1,d _ _ _ _ _ o,p.mono λ_ _=>bz.uC d,C⟩
variable{e i v M b9 h9:Nat}
theorem a0w(r:Ρ)(S:Own)(C:a1.T 0)(T:R)(o:U)(q:bz o 0 C T)(V:GT e 0 C)(Y:e<=8):
  AC γ 116 [T,.J (ab r) S] o λy c=>o.sub c/\bz c 0 (a1.cD bq r 0 C) y:=by
 obtain⟨Z,k0,s,k2,rfl,W,G⟩:=q;obtain⟨d,rfl⟩:=a1.iB C;rw[a1.qh]at G;have f:=V.ok;have t:=V.ek;rw[a1.iC]at f t;have k3:=G.len;show AC _ _ _ _ λy c=>o.sub c/\bz c 0 (a1.leaf (d.filter λa=>decide (a≠r))) y;refine AC.view (s:=λy c=>∃a h k,y=.ptr a 0/\o a=ε/\aw (o.set a (.cells [h,.J [] .nil])) c 1 k h/\aC isRow (d.filter λa=>decide (a≠r)) k) ?_ ?_
 .have u:=κ W;refine aM hm Al ?_;refine bp λa z=>?_;refine cQ [0,1,5] (λb:Nat=>[(6,.v (.int .i64 (b)))]) (λb c=>b<=α d/\∃h k,aw (o.set a (.cells [h,.J [] .nil])) c 1 k h/\aC isRow ((d.take b).filter λa=>decide (a≠r)) k) (λb=>α d - b) 0 ⟨⟨δ,_,[],aw.nil θ,trivial⟩,aV⟩ ?_;rintro b v⟨k4,h,k,p,x⟩k5;have k6:=x.len;have w:=p.1 _ _ (ν _ _ _);have u:=rd (ο (μ θ z) p.1) W;have L:=κ w;refine aa ?_;refine aH (λA=>?_) λA=>?_
  .obtain⟨_,k7,g,rfl⟩:=G.at [] (e:=b) δ;have B:=iy (a:=d) (b:=[]) (e:=b) δ;have k8:=(f (d.getD b []) (by grind)).len;generalize d.getD b []=D at*;refine mA (s4 D r g S v δ) ?_;refine aH (λc2=>?_) λc2=>?_
   .have H:=a6b (λa=>decide (a≠r)) (d.take b);rw[a2X]at H;refine VL p (λ_ i k9 P=>?_);have l0:=χ (P.1 _ _ (ν _ _ _));have l1:=fi P;have j:=ja (X:=.cells [i,.J [] .nil]) P (ν o a (.cells [h,.J [] .nil]));rw[σ]at j;refine aa ?_;exact⟨b+1,⟨δ,i,_,j,by rw[B,a5O,a6E (by simpa using c2),a6K];exact x.snoc ⟨g,rfl⟩⟩,rfl,δ⟩
   grind
  .rw[a2U δ]at x;exact⟨_,θ,a,h,k,rfl,z,p,x⟩
 .rintro y c⟨a,h,k,rfl,z,p,x⟩;have L:=p.1 _ _ (ν _ _ _);have l:=ο (μ θ z) p.1;rcases p.2 with⟨rfl,I⟩|⟨m,K,l2,M,rfl,E,N,O,l3,l4,l5,l6⟩
  .refine⟨_,c,View.refl,l,?_⟩;rcases I with rfl|rfl<;>exact⟨a,[],_,.nil,rfl,L,x⟩
  .have Q:a≠m:=by rintro rfl;rw[ν]at E;cases E
   refine⟨_,_,View.obj (A:=[]) L N (by rw[O];omega) Q,?_,a,_,.any,.nil,rfl,ν _ _ _,?_⟩
   .intro D s F;have n:D≠a:=by rintro rfl;rw[z]at F;cases F
    have X:D≠m:=by rintro rfl;rw[ξ _ _ n,F]at E;cases E
    rw[ξ _ _ n,ξ _ _ X];exact l _ _ F
   .rw[lE,show M.take K=k by simp_all];exact x
def ph{d:U}{b:Nat}:∀ {h:List (a1.T b)}{a:Χ},aC (bz d b) h a->flat a=a
 |[],[],_=>rfl
 |_:: _,k::a,c=>by
  obtain⟨o,p,r,rfl,_⟩:=bz.ptr c.1;have:=ph c.2;simp only[flat,a3A]at this|-;rw[this];rfl
variable{q b7:R}{f u e1:U}
def bz.shape{p:a1.T e}(r:bz f e p q):∃a k b d c,q=.ptr a 0/\f a=β (.cells [.J k b,.J d c])/\α k+α d=a1.len p/\(e=0->d=[])/\(e≠0->k=[]/\d≠[]):=by
 cases e with
 |zero=>obtain⟨a,x,b,c,rfl,o,h⟩:=r;exact⟨a,x,b,[],c,rfl,o,by rw[h.len];rfl,λ_=>rfl,λe=>absurd rfl e⟩
 |succ e=>obtain⟨a,y,b,c,rfl,o,h,z,_⟩:=r;refine⟨a,[],c,y,b,rfl,o,by rw[h.len];simp[a1.len],λe=>(by cases e),λ_=>⟨rfl,?_⟩⟩;rintro rfl;exact z (aC.x8 h)
variable{g A c0:Χ}
theorem a0x{a:List (a1.T i)}(k:aC (bz f i) a g)(p:g≠[])(o:A.take e=g):∀b c d h,A≠[.J b c,.J d h]:=by
 rintro b c d h rfl;cases g with
 |nil=>trivial
 |cons r g=>
  cases a with
  |nil=>trivial
  |cons x a=>
   obtain⟨y,_,_,rfl,_⟩:=bz.ptr k.1;cases e with
   |zero=>cases o
   |succ e=>grind
theorem aw.F9(b:aw f u 1 g q):∃a,View u q a (.J g .any)/\f.sub a:=by grind[View.dC,lE,Θ]
theorem bz.rows{a:U}{b:a1.T 0}{c:Nat}{d h:Χ}{k o:Own}(p:bz a 0 b (.ptr c 0))(r:a c=β (.cells [.J d k,.J h o])):aC isRow (a1.rows b) d:=by obtain⟨_,_,_,_,x,y,z⟩:=p;simp_all
theorem bz.kids{b:U}{a:Nat}{c:a1.T (a+1)}{d:Nat}{k h:Χ}{o p:Own}(r:bz b (a+1) c (.ptr d 0))(x:b d=β (.cells [.J k o,.J h p])):aC (bz b a) (a1.kids c) h:=by obtain⟨_,_,_,_,y,z,a,_⟩:=r;simp_all
variable{O e4 h5:Own}
def qH(a:bc 1 g)(b:flat g=g):c8 f 1 (.J g O)=β (α g,g):=by have:=(jf.J (o:=O) a).src f θ;rwa[b]at this
def uD(k:aw u f 1 g (.aq e v M 1))(a:g[i]?=β q):cJ 1 (.aq e v M 1) (.v (.int .i64 (i:Int)))=β (.ptr e i)/\∃b,f.read e=β b/\pQ ι 1 i (β b)=β q:=by have y:=(a2Z.1 a).1;obtain⟨z,C,D,b,c,E,o,p,d,r,F,G⟩:=k.aq (by rintro rfl;simp at a);simp only[R.aq.injEq,and_true]at c;obtain⟨rfl,rfl,rfl⟩:=c;rw[a3M]at p d r;have h:=jL (e:=1) (i:=e) (v:=v) (M:=M) (e0:=.i64) (b1:=(i)) δ δ;rw[a3p,a3M]at h;refine⟨h,b,κ o,?_⟩;rw[<-d,a3O δ]at a;obtain⟨x,rfl⟩:=a2Z.1 a;rw[Ax δ,a3z x];rfl
theorem a0y{a:List (a1.T i)}{b:a1.T i}(p:e<α a)(k:2<=α a)(o:¬2<=a1.len b):
  ∃d h,(a.set e b)[e - 1]?=β d/\(a.set e b)[e - 1+1]?=β h/\a1.kH a e b=(a.set e b).take (e - 1)++a1.jZ d h++(a.set e b).drop (e - 1+2):=by
 rw[a1.kH,if_neg o];by_cases c:e=0
 .subst c;refine⟨b,a[1],a6Q δ,ρ,?_⟩;rw[if_pos rfl,Ν k,a7g δ];rfl
 .refine⟨a[e - 1],b,by grind,by grind,?_⟩;rw[if_neg c,Ν δ,a7g δ,List.take_set_of_le δ];simp[c]
set_option maxHeartbeats 1000000 in
theorem a0z(k9:1<=e)(Q:e<=8)(r:Ρ)(l0:Own)(X:bF e r):∀(a:Nat)(G:a1.T a)(C:R)(p:U),bz p a G C->GT e a G->
  AC γ 116 [C,.J (ab r) l0] p λA c=>p.sub c/\bz c a (a1.cD bq r a G) A:=by
 have b47:=X.len;intro a
 induction a with
 |zero=>intro G C p u l;exact a0w r l0 G C p u l Q
 |succ a ih=>
 intro G C p u l;obtain⟨h,rfl⟩:=a1.gB G;have m:=l.kids k9 Q X;have l1:=Dw h C r l0 p u δ λb L=>by
  obtain⟨v,_,b48,a90⟩:=m.gk b L;have:=v.ek;have:=a90.len;grind
 obtain⟨b49,l2,b50,b51,rfl,Y,k,_,_⟩:=u;rw[a1.eM]at k;have b52:=k.len;obtain⟨a92,b53⟩:=m.two;obtain⟨b,L⟩:=m.at_;have Z:a1.cD bq r (a+1) (a1.node h)=a1.node (a1.kH h (a1.cL bq r (h.map (a1.cI a))) (a1.cD bq r a b)):=by simp only[a1.cD,a1.eM];rw[L]
 obtain⟨_,_,a94,a95⟩:=a1.p1 (fB k9 Q) X (a+1) (a1.node h) l.wf l.dI l.ok;rw[Z,a1.dH,a1.dH]at a94;rw[Z,a1.dH]at a95;rw[Z];rw[m.Dx]at l1;clear Z;generalize a1.cL bq r (h.map (a1.cI a))=o at*;have a19:=(a2Z.1 L).1;obtain⟨v,a96,_,_⟩:=m.gk b (a3d L);obtain⟨_,_,a97,a98⟩:=a1.p1 (fB k9 Q) X a b v.wf v.dI v.ok;have a27:=λC p u=>ih b C p u v;have a99:=λb L=>(a1.gC.1 (m.gk b L).2.1).2.1;have b00:=(a1.gC.1 a96).1;have l3:=a0y (b:=a1.cD bq r a b) a19 a92;have l4:2<=a1.len (a1.cD bq r a b)->a1.kH h o (a1.cD bq r a b)=h.set o (a1.cD bq r a b):=λa=>by rw[a1.kH,if_pos a]
 clear m l;generalize a1.kH h o (a1.cD bq r a b)=l5 at*;generalize a1.cD bq r a b=B at*;refine AC.view (s:=λA c=>∃d x z D P,A=.ptr d 0/\p d=ε/\p x=ε/\d≠x/\c d=β (.cells [.J [] .nil,.aq x z D 1])/\(∃E,c x=β (.cells E)/\z<=α E/\E.take z=P)/\aC (bz c a) l5 P/\p.sub c) ?_ ?_;rotate_left
 .rintro A c⟨d,x,z,D,P,rfl,F,b01,b02,k0,⟨E,f,b54,b03⟩,b04,b05⟩;have b55:P≠[]:=by rintro rfl;grind[aC.x8]
  refine⟨_,_,View.obj (A:=[.J [] .nil]) k0 f δ b02,?_,d,_,.any,.nil,rfl,ν _ _ _,?_,?_,by rw[a1.eM];omega⟩
  .intro n a29 H;have b06:n≠d:=by rintro rfl;rw[F]at H;cases H
   have a30:n≠x:=by rintro rfl;rw[b01]at H;cases H
   rw[ξ _ _ b06,ξ _ _ a30];exact b05 _ _ H
  .rw[a1.eM,lE,b03];refine b04.mono λ_ _=>bz.uC λI b07 b08 b09 a29 K=>?_;have k2:I≠d:=by rintro rfl;rw[k0]at K;simp at K
   have l6:I≠x:=by rintro rfl;grind[a0x,bl.cells.inj,Option.some.inj]
   rw[ξ _ _ k2,ξ _ _ l6];exact K
  grind[a1.eM]
 have b10:=κ Y;have b56:¬(α h:Int)=0:=δ;have l7:=bz.c k;refine aM hm Al ?_;refine cl l1 ?_;rintro _ a34⟨M,rfl⟩;have b11:=rd M Y;have l8:=k.mono λ_ _=>bz.mono M;refine tn (qH l7 (ph k)) λb57 b12 N=>?_;obtain⟨g,z,D,b58,rfl,a30,a36,b13,b14,b15,b59,b60⟩:=aw.aq N (by grind);obtain rfl:z=α h:=δ;have a38:=N.1;have b16:=rd (ο M a38) Y;obtain⟨_,a42,l9⟩:=l8.get L;obtain⟨b17,_,_,rfl,_⟩:=l9.ptr;refine cl (a27 _ b12 (bz.mono a38 l9)) ?_;rintro A n0⟨n1,n2⟩;obtain⟨i,_,_,rfl,_⟩:=n2.ptr;obtain⟨n3,a43,a47,-,y⟩:=aw.put (a:=.ptr i 0) (by rw[ph l8];exact N.mono n1) δ l7 a42 rfl;have b18:=(uD (N.mono n1) a42).1;have b19:=χ a43;rw[a3M]at y a47;have aE:n3.take (α h)=l2:=by have I:=n1 _ _ a36;simp_all
 obtain⟨S,n4⟩:∃S,n0.set g (.cells (putAt n3 o [.ptr i 0]))=S:=⟨_,rfl⟩;have a48:yH n0 S:=λI b07 b08 b09 a29 K=>by
  have l6:I≠g:=by grind
  rw[<-n4,ξ _ _ l6];exact K
 change aw a34 (n0.set g (.cells (putAt n3 o [.ptr i 0]))) 1 _ _ at y;rw[n4]at y;have T:=aC.set o (l8.mono λ_ _ k0=>bz.mono y.1 k0) (bz.uC a48 n2);rw[ph T]at y;have b20:=T.len;rw[a5K,a5K]at b20;have a52:(l2.set o (.ptr i 0))[o]?=β (.ptr i 0):=a6Q δ;have a56:(h.set o B)[o]?=β B:=by simp[a19]
 clear aE a48 n2 k l7 b10 b11 b16 a36 b13 b14 b15 N;generalize b61:h.set o B=a57 at*;generalize l2.set o (.ptr i 0)=a61 at*;have b62:α a57=α h:=by grind
 have a62:=ο M y.1;have n5:∀b∈a57,a1.len b<=4:=λb L=>by
  grind
 obtain⟨b63,b21,b22⟩:=(uD y a52).2;obtain⟨b23,a63,b24,a65,n9,a68,a69,b25,_,_⟩:=(T.get a56|>.elim λC a=>by simp_all:bz S a B (.ptr i 0)).shape;obtain rfl:i=b23:=by simpa using a68
 clear a68 a27 ih l1;have b26:=κ a69;have a71:∀(a00 c)(P)(q)(d),p.sub a00->aw a00 c 1 P q->aC (bz c a) l5 P->c d=ε->
   ∃k3 x z D a73,R.ptr d 0=.ptr k3 0/\p k3=ε/\p x=ε/\k3≠x/\(c.set d (.cells [.J [] .nil,q])) k3=β (.cells [.J [] .nil,.aq x z D 1])/\(∃E,(c.set d (.cells [.J [] .nil,q])) x=β (.cells E)/\z<=α E/\E.take z=a73)/\aC (bz (c.set d (.cells [.J [] .nil,q])) a) l5 a73/\p.sub (c.set d (.cells [.J [] .nil,q])):=λa00 c P q d a01 a02 k F=>by
  have a03:=μ (X:=.cells [.J [] .nil,q]) θ F;obtain⟨x,z,D,E,rfl,a04,a74,b64,b65,b66,b67,_⟩:=a02.aq (λs=>by grind[aC.x8]);exact⟨d,x,z,D,P,rfl,Μ (ο a01 a02.1) F,Μ a01 a04,(λs=>by rw[s,a74]at F;cases F),ν _ _ _,⟨E,a03 _ _ a74,δ,by simp_all⟩,k.mono λ_ _ a=>bz.mono a03 a,ο a01 (ο a02.1 a03)⟩
 by_cases c2:2<=a1.len B
 .have aE:(1)<(α a63)+(α a65:Int):=δ;obtain rfl:=l4 c2;clear l4 l3;have b27:=fi y;refine aa ?_;refine bp λd F=>?_;exact⟨_,θ,a71 a34 S a61 _ d M y T F⟩
 obtain⟨a81,a83,a05,k4,rfl⟩:=l3 c2;have aE:¬(1)<(α a63)+(α a65:Int):=δ;clear l4 c2 l3;refine aa ?_;clear aE a69 b25 b26 b22 b21 a52 a56 b18 b19 a43 a47;refine nA [0,7,8] (λ_:Unit=>[(9,.v (.int .i64 ((o - 1:Nat))))]) (λ_ c=>c=S) (λb=>?_) (λb=>?_) ?_
 .have b:=of_decide_eq_true b;have s:((o - 1:Nat):Int)=0:=δ;exact aV
 .have b:=of_decide_eq_false b;have s:(o) - 1=((o - 1:Nat):Int):=δ;exact aV
 clear n4;rintro _ S rfl b28;generalize o - 1=j at*;have b68:=(a2Z.1 k4).1;have b69:=n5 _ (a3d a05);have b70:=n5 _ (a3d k4);obtain⟨_,b29,a06⟩:=T.get a05;obtain⟨_,b30,a07⟩:=T.get k4;obtain⟨b71,b72,b73,b74,b75,rfl,w,b76,_,_⟩:=a06.shape;obtain⟨x,b77,b78,cg,b79,rfl,f,b80,_,_⟩:=a07.shape;obtain⟨b31,b81,b82,b83,b84,s,b32,_,b33,b34⟩:=(bz.mono y.1 l9).shape;obtain rfl:b17=b31:=by simpa using s
 obtain⟨b85,b86,b35,b87⟩:=uD y b29;obtain⟨a84,b88,a08,b89⟩:=uD y b30;have a84:cJ 1 (.aq g (α h) D 1) (.v (.int .i64 ((j)+1)))=β (.ptr g (j+1)):=a84;have b90:=κ b32;have b91:=rd a62 Y;rw[b35]at a08;obtain rfl:=Δ a08;clear s a08 n5 a97 a98 a99 b00 a05 k4;refine aa ?_;refine nA [8,9] (λn:Χ×Own=>[(12,.J n.1 n.2)]) (λn c=>S.sub c/\aC (bz c a) (a1.jZ a81 a83) n.1) (λcW=>?_) (λcW=>?_) ?_
 .have cW:=of_decide_eq_true cW;cases a with
  |succ a=>exact absurd (a2Y δ) (b34 δ).2
  |zero=>have k:=a06.rows w;have V:=a07.rows f;have b36:=k.len;have b37:=V.len;have a09:=κ w;have a10:=κ f;refine tn (qH (hU k) (mJ k)) λa5 b38 t=>?_;have a09:=rd t.1 w;have a10:=rd t.1 f;refine q3 t (qH (hU V) (mJ V)) λdu b39 a11=>?_;obtain⟨a13,a14,k5⟩:=aw.F9 a11;refine cl (AC.mK (g:=[]) a14 (Dq _ _ .any a13 (k.append V) (by rw[a2V];omega))) ?_;rintro _ a15⟨a16,k6,k7,rfl,W⟩;refine aa ?_;exact⟨(k6,k7),⟨ο k5 a16,W⟩,rfl⟩
 .have cW:=of_decide_eq_false cW;cases a with
  |zero=>exact absurd (by rw[b33 rfl];rfl) cW
  |succ a=>have k:=a06.kids w;have V:=a07.kids f;have b36:=k.len;have b37:=V.len;have a09:=κ w;have a10:=κ f;refine tn (qH (bz.c k) (ph k)) λa5 b38 t=>?_;have a09:=rd t.1 w;have a10:=rd t.1 f;refine q3 t (qH (bz.c V) (ph V)) λdu b39 a11=>?_;obtain⟨a13,a14,k5⟩:=aw.F9 a11;refine cl (AC.mK (g:=[]) a14 (xh S _ _ .any a13 (k.append V) (by rw[a2V];omega) k5)) ?_;rintro _ a15⟨a16,k6,k7,rfl,W⟩;refine aa ?_;exact⟨(k6,k7),⟨ο k5 a16,W⟩,rfl⟩
 rintro⟨k6,k7⟩ a15 ⟨a18,W⟩ b28
 dsimp only at W|-
 have b92:=W.len;have b93:(a1.jZ a81 a83).length<=4:=by grind
 have a86:=y.mono a18;have b40:=T.len;have b24:=hi (e:=1) (M:=g) (b9:=α h) (i:=D) (v:=j) (e0:=.i64) δ;obtain⟨b94,b95,b41,_⟩:=(a86.first (i:=j) δ).src;obtain⟨_,_,_,b96,k2,_,b42,b97,b43,_,_,_⟩:=a86.aq (by rintro rfl;simp at b40;omega);simp only[R.aq.injEq,and_true]at k2;obtain⟨rfl,rfl,rfl⟩:=k2;refine tn b41 (λb98 b99 b44=>?_) (x:=by rw[a2X];omega);refine q3 b44 (qH (bz.c W) (ph W)) (λc00 b45 a88=>?_) (y:=by rw[a2X];omega);obtain⟨a04,n9,_,k8⟩:=nQ (i:=1) (h9:=g) (M:=α h) (e:=j+2) (e0:=.i64) δ δ;have k8:=k8 b45 _ a61 (a88.1 _ _ b42) δ b43;rw[a3M]at k8;have n9:c9 1 (.aq g (α h) D 1) (β (.v (.int .i64 ((j)+2)))) ε ε=β a04:=n9;refine q3 a88 k8 (λc01 b46 O=>?_) (x:=by rw[a3i];omega) (y:=by grind);have b27:=fi O;have a89:=λ{G:a1.T a}{C:R}=>bz.mono (t:=G) (a:=C) (ο a18 O.1);refine aa ?_;refine bp λd F=>?_;rw[a3M]at O;exact⟨_,θ,a71 a15 b46 _ _ d (ο a62 a18) O ((((T.take j).mono λ_ _ a=>a89 a).append (W.mono λ_ _ a=>bz.mono O.1 a)).append ((T.drop (j+2)).mono λ_ _ a=>a89 a)) F⟩
variable{N:List Ρ}
def yI:(eW 0 (a1.leaf N)).rows.map Β=N:=by rw[Ya];show(N.map λa=>(a,η)).map Β=N;rw[a4N];exact List.map_id' N
def Fa:(eW 0 (a1.leaf N)).kind=2:=rfl
def Fb{a:a1.T (e+1)}:¬(eW (e+1) a).kind=2:=by show¬(3)=2;decide
def Fc(c:1<=i)(d:i<=8){a:List (a1.T e)}(h:ee i (e+1) (a1.node a))(b:Ρ):gV b (eW (e+1) (a1.node a))=a1.cL bq b (a.map (a1.cI e)):=by unfold gV;rw[xn];congr 1;show(a.map (bN e)).map (·.key)= _;rw[a4N];exact a4t λk o=>Yd c d (h.gk k o).1
def Fe{a:List (a1.T e)}:(eW (e+1) (a1.node a)).kids[i]?=a[i]?.map (bN e):=by rw[xn];show(a.map (bN e))[i]?= _;simp
variable{n b6:Ρ}
theorem Ff(r:1<=i)(x:i<=8){a:List (a1.T e)}(c:GT i (e+1) (a1.node a))(y:bF i n){b:a1.T e}(d:a[a1.cL bq n (a.map (a1.cI e))]?=β b):n∈a1.aW (e+1) (a1.node a)↔n∈a1.aW e b:=by obtain⟨h,D,z,E⟩:=c.wf;rw[a1.dH]at h;have F:∀b∈a,a1.WF e b:=z;have k:=c.dI;have o:=c.ok;rw[a1.fA]at k o|-;obtain⟨G,p,L,P⟩:=a1.tV (fB r x) y (by intro C;subst C;simp at h) (λb d=>by grind[a1.gC]) k o;rw[d]at p;obtain rfl:=Δ p;have S:=a1.qk d;grind[a1.cL,bq,a1.cI,p0]
theorem Fg{D:Nat}(p:1<=D)(r:D<=8){c:Ρ}(z:bF D c):∀(a:Nat)(y:a1.T a)(C:ad)(F:Nat),GT D a y->eG C a y->a<F->c∉a1.aW a y->Laid C a (a1.et bq c a y) (fM D c F C (bN a y))
 |0,y,C,F+1,h,G,_,f=>by
  obtain⟨L,rfl⟩:=a1.iB y;obtain⟨s,t,_⟩:=h.wf;rw[a1.hR]at s t;have S:=h.ok;have g:(eW 0 (a1.leaf L)).rows.map Β=L:=yI;rw[fM,qC p r h.hs G];simp only;rw[if_pos Fa,g,y2 (N:=L) p r h.dI S z,decide_eq_false (p:=c∈L) f,if_neg Λ,Zo (N:=L) p r h.dI S z];exact Ej p r C (a1.dF bq L c) (by rw[a1.nN];omega) (by rw[a1.nN];omega) λE k=>by
   rcases a1.rV.1 k with rfl|k
   .exact z
   .exact S E k
 |a+1,y,C,F+1,h,G,H,f=>by
  obtain⟨b,rfl⟩:=a1.gB y;have i:=h.kids p r z;obtain⟨d,P⟩:=i.at_;have j:=a3d P;have l:c∉a1.aW a d:=λx=>f ((Ff p r h z P).2 x);obtain⟨I,K⟩:=i.two;have T:=(i.gk d j).1;obtain⟨u,M,N,O⟩:=a1.ql (fB p r) z a d T.wf T.dI T.ok l;have ih:=Fg p r z a d C F T (G.2 d j) δ l;rw[fM,qC p r h.hs G];simp only;rw[if_neg Fb,Fc p r h.hs,Fe,P];simp only[a3P];have m:a1.et bq c (a+1) (a1.node b)=(a1.chunks (b.take (a1.cL bq c (b.map (a1.cI a)))++a1.et bq c a d++b.drop (a1.cL bq c (b.map (a1.cI a))+1))).map a1.node:=by simp only[a1.et,a1.eM];rw[P]
  rw[m];clear m;have Q:=(a2Z.1 P).1;have X:=a1.qk P;generalize a1.cL bq c (b.map (a1.cI a))=o at*;generalize fM D c F C (bN a d)=E at*;obtain⟨Y,v⟩:=E;obtain⟨n,V,q⟩:=ih;simp only at n V q;subst n;simp only;have g:(eW (a+1) (a1.node b)).kids.take o++((a1.et bq c a d).map (bN a)++(eW (a+1) (a1.node b)).kids.drop (o+1))=(b.take o++a1.et bq c a d++b.drop (o+1)).map (bN a):=by rw[xn];show(b.map (bN a)).take o++(_++(b.map (bN a)).drop (o+1))= _;simp
  rw[g];have w:∀E∈(b.take o++a1.et bq c a d++b.drop (o+1)).flatMap (a1.aW a),bF D E:=λE k=>by
   rw[a3S,a3S,u,a3f,a3f]at k;have S:=h.ok;rw[a1.fA]at S;rcases k with (k|k)|k;grind
   .rcases a1.rV.1 k with rfl|k
    .exact z
    .exact T.ok E k
   grind
  have A:((b.take o++a1.et bq c a d++b.drop (o+1)).flatMap (a1.aW a)).length=(a1.aW (a+1) (a1.node b)).length+1:=by grind[a1.fA,Γ,a1.nN]
  have Z:=h.ek;have k0:∀d∈b,a1.WF a d:=h.wf.2.2.1;have:=xZ p r v (b.take o++a1.et bq c a d++b.drop (o+1)) (by grind) (by grind) (λW x=>by
   grind) w (by rw[A];omega) (λk2 e B W x=>by
   simp only[a3f]at x;rcases x with (x|x)|x
   .exact(G.2 W (a3j x)).mono (V.trans e)
   .exact(q (e.zero B) W x).mono e
   .exact(G.2 W (a3v x)).mono (V.trans e))
  exact⟨this.ok,V.trans this.le,this.ins⟩
def kX:ed->an
 |none=>aB
 |some ⟨a,b⟩=>bN a b
def kY(a:ad):ed->Prop
 |none=>True
 |some ⟨b,c⟩=>eG a b c
def kY.mono{a b:ad}(c:a.le b){t:ed}(d:kY a t):kY b t:=by
 match t with
 |none=>trivial
 |some ⟨_,_⟩=>exact eG.mono c d
structure pj(a:ad)(t:ed)(r:Except Int an×ad):Prop where
 ok:r.1=.ok (kX t)
 le:a.le r.2
 ins:r.2.one=ι->kY r.2 t
variable{H:ad}
def a0A(F:1<=i)(G:i<=8){r:ad}{a:List (a1.T e)}(L:1<=α a)(P:α a<=2)(k:Laid r e a (.ok (a.map (bN e)),H))(S:∀b∈a,a1.WF e b)(T:∀o∈a.flatMap (a1.aW e),bF i o)(V:(a.flatMap (a1.aW e)).length<=1048576):
  pj r (p2 a) (gF i ((a.map (bN e)).length+1) H (a.map (bN e))):=by
 match a,L,P with
 |[b],_,_=>
  have p:gF i (([b].map (bN e)).length+1) H ([b].map (bN e))=(.ok (bN e b),H):=by rw[gF];rfl
  rw[p];exact⟨rfl,k.le,λc=>k.ins c b ρ⟩
 |[d,h],_,_=>
  have x:=xZ F G H [d,h] ρ ρ S T V (λg y c W f=>(k.ins (y.zero c) W f).mono y);rw[a1.nM ρ ρ]at x;rw[gF,if_pos ρ];generalize je H i ([d,h].map (bN e))=o at*;obtain⟨j,z⟩:=o;obtain⟨C,D,E⟩:=x;simp only at C D E;subst C;simp only;have p:gF i (([d,h].map (bN e)).length) z (([[d,h]].map a1.node).map (bN (e+1)))=(.ok (bN (e+1) (a1.node [d,h])),z):=by rfl
  rw[p];exact⟨rfl,k.le.trans D,λc=>E c _ ρ⟩
variable{b8:ed}
def a0B(c:1<=e)(d:e<=8)(h:bF e n)(D:hX e b8)(E:kY H b8)(F:n∉dX b8):pj H (ke b8 n) (kI e n H (kX b8)):=by
 match b8 with
 |none=>have G:=tX c d (N:=[n]) ρ ρ (by simpa using h);unfold kI;show pj H _ (if aB=aB then _ else _);rw[if_pos rfl,pb G.nS];exact⟨rfl,kU _ _,λL=>qB L⟩
 |some ⟨a,b8⟩=>
  have b:GT e a b8:=D;have o:n∉a1.aW a b8:=F;have y:=qm c d b.hs;have g:=ee.high a b8 b.hs;have i:=y.size;have j:=b.ek;have P:=Fg c d h a b8 H ((bN a b8).size.toNat+1) b E δ o;obtain⟨z,S,T,V⟩:=a1.ql (fB c d) h a b8 b.wf b.dI b.ok o;have p:ke (β ⟨a,b8⟩) n=p2 (a1.et bq n a b8):=by simp only[ke];rw[if_neg o]
  rw[p];unfold kI;show pj H _ (if bN a b8=aB then _ else(match fM e n ((bN a b8).size.toNat+1) H (bN a b8)with|(.error p,r)=>(.error p,r)|(.ok bw,r)=>gF e (α bw+1) r bw));rw[if_neg y.ne];generalize fM e n ((bN a b8).size.toNat+1) H (bN a b8)=x at*;obtain⟨l,m⟩:=x;obtain⟨C,W,f⟩:=P;simp only at C;subst C;simp only;refine a0A c d T V ⟨rfl,W,f⟩ S (λx k=>?_) (by rw[z,a1.nN];omega);rw[z]at k;rcases a1.rV.1 k with rfl|k
  .exact h
  .exact b.ok x k
theorem a0C(y:1<=e)(z:e<=8)(d:bF e n)(P:hX e b8)(S:(dX b8).length<1000):hX e (ke b8 n)/\(dX (ke b8 n)).length<=(dX b8).length+1:=by
 match b8 with
 |none=>
  refine⟨⟨⟨?_,?_,trivial,λa=>by omega⟩,?_,?_,?_⟩,?_⟩
  .simp[a1.hR]
  .simp[a1.hR]
  .rw[a1.iC];simp
  .rw[a1.iC];simpa using d
  .rw[a1.iC];simp
  .show(a1.aW 0 (a1.leaf [n])).length<= _;rw[a1.iC];simp
 |some ⟨a,b8⟩=>
  have c:GT e a b8:=P;have W:(a1.aW a b8).length<1000:=S;simp only[ke];by_cases k:n∈a1.aW a b8;simp_all;rw[if_neg k];obtain⟨o,h,T,V⟩:=a1.ql (fB y z) d a b8 c.wf c.dI c.ok k;have C:=a1.Xm (fB y z) c.dI c.ok d k;have D:∀p∈a1.dF bq (a1.aW a b8) n,bF e p:=λp r=>by
   rcases a1.rV.1 r with rfl|r
   .exact d
   .exact c.ok p r
  have f:=a1.nN (lt:=bq) (h8:=a1.aW a b8) (e9:=n);generalize a1.dF bq (a1.aW a b8) n=E at*
  match F:a1.et bq n a b8,T,V with
  |[x],_,_=>
   rw[F]at o h;have b:a1.aW a x=E:=by rw[<-o];simp
   refine⟨⟨a1.jc.of (h x ρ),by rw[b];exact C,by rw[b];exact D,by rw[b];omega⟩,?_⟩;show(a1.aW a x).length<=(a1.aW a b8).length+1;rw[b];omega
  |[G,L],_,_=>
   rw[F]at o h;have b:a1.aW (a+1) (a1.node [G,L])=E:=by trivial
   refine⟨⟨⟨by rw[a1.dH];simp,by rw[a1.dH];simp,h,λ_=>by rw[a1.dH];simp⟩,by rw[b];exact C,by rw[b];exact D,by rw[b];omega⟩,?_⟩;show(a1.aW (a+1) (a1.node [G,L])).length<=(a1.aW a b8).length+1;rw[b];omega
def eO:(a:Nat)->a1.T a->hp
 |0,b=>⟨η,a1.rows b,[]⟩
 |a+1,b=>⟨ι,[],(a1.kids b).map (bN a)⟩
def oa(b:ad):(a:Nat)->a1.T a->Prop
 |0,_=>True
 |a+1,c=>∀d∈a1.kids c,eG b a d
def oa.mono{b c:ad}(h:b.le c):∀ {a:Nat}{d:a1.T a},oa b a d->oa c a d
 |0,_,_=>trivial
 |_+1,_,a=>λk o=>eG.mono h (a k o)
def eG.p:∀ {a:Nat}{b:a1.T a},eG H a b->oa H a b
 |0,_,_=>trivial
 |_+1,_,a=>a.2
def a0D:∀ {b:Nat}{a:a1.T b},(eO b a).rows.length+(eO b a).kids.length=a1.len a
 |0,a=>rfl
 |b+1,a=>by show 0+((a1.kids a).map (bN b)).length= _;rw[a3k,a3t];rfl
def Fh:∀ {b:Nat}{a:a1.T b},gG (eW b a)=eO b a
 |0,a=>by
  obtain⟨c,rfl⟩:=a1.iB a;unfold gG;rw[yI];rfl
 |b+1,a=>rfl
def yJ:∀ {a:Nat}{b:a1.T a},lL H e (eO a b).leaf (eO a b).rows (eO a b).kids=dr H e (eW a b)
 |0,b=>rfl
 |a+1,b=>rfl
theorem Fi(C:1<=e)(D:e<=8)(k:ad):∀ {c:Nat} (a b:a1.T c),a1.kG c a->a1.kG c b->2<=a1.len a+a1.len b->a1.len a+a1.len b<=5->(∀d∈a1.aW c a,bF e d)->(∀d∈a1.aW c b,bF e d)->
  (a1.aW c a).length+(a1.aW c b).length<=1048576->(∀h,k.le h->h.one=ι->oa h c a/\oa h c b)->Laid k c (a1.jZ a b) (ka k e (eO c a) (eO c b))
 |0,a,b,_,_,p,r,x,y,_,_=>by
  obtain⟨a,rfl⟩:=a1.iB a;obtain⟨b,rfl⟩:=a1.iB b;rw[a1.hR,a1.hR]at p r;exact Ej C D k (a++b) (by rw[a2V];omega) (by rw[a2V];omega) λd E=>(a3f.1 E).elim (x d) (y d)
 |c+1,a,b,bS,cf,p,r,x,y,F,G=>by
  obtain⟨a,rfl⟩:=a1.gB a;obtain⟨b,rfl⟩:=a1.gB b;rw[a1.dH,a1.dH]at p r;rw[a1.fA]at x y F;rw[a1.fA]at F;have:=xZ C D k (a++b) (by rw[a2V];omega) (by rw[a2V];omega) (λo z=>(a3f.1 z).elim (bS o) (cf o)) (λd E=>by
   grind) (by simp_all) (λh L P o z=>(a3f.1 z).elim ((G h L P).1 o) ((G h L P).2 o))
  rw[a3V]at this;exact this
theorem a0E(C:1<=i)(D:i<=8)(o:ad){d:List (a1.T e)}{c:a1.T e}(m:v<α d)(B:2<=α d)(z:∀b∈d,ee i e b/\a1.WF e b/\eG o e b)(H:1<=a1.len c)(n:a1.len c<=4)(T:a1.kG e c)
  (V:∀E∈a1.aW e c,bF i E) (q:∀b∈d,(a1.aW e b).length+(a1.aW e c).length<=1048576) (W:∀r,o.le r->r.one=ι->oa r e c):Laid o e (a1.kH d v c) (jh o i (d.map (bN e)) v (eO e c)):=by
 unfold jh a1.kH;rw[a0D];have s:(a1.aW e c).length<=1048576:=by have:=q _ (a3r m);omega
 by_cases F:2<=a1.len c
 .rw[if_pos F,if_pos F,yJ];have t:=a1.gC.2 ⟨F,n,T⟩;have u:=(lP C D e c (Ei t V s)).1;rw[pb u.nS];simp only;refine⟨?_,kU _ _,λk b a=>?_⟩
  .rw[<-tW,List.map_set]
  .rcases a4T a with a|rfl
   .exact(z b a).2.2.mono (kU _ _)
   .have S:=qB k;have f:=W _ (kU o (da (eW e b))) k
    match e,b,S,f with
    |0,b,S,f=>exact S
    |e+1,b,S,f=>trivial
 .rw[if_neg F,if_neg F];have I:a1.len c=1:=δ;by_cases l:v=0
  .subst l;simp only[if_true];have x:d[1]?=β d[1]:=Ν δ;rw[a3u,x];generalize d[1]=y at x;have h:=z y (a3d x);have g:=a1.gC.1 h.2.1;simp only[a3P];rw[qC C D h.1 h.2.2];simp only;rw[Fh];have j:=Fi C D o c y T g.2.2 δ δ V h.1.ok (by grind) (λr G k=>⟨W r G k,(h.2.2.mono G).p⟩);generalize ka o i (eO e c) (eO e y)=E at*;obtain⟨w,A⟩:=E;obtain⟨L,p,P⟩:=j;simp only at L p P;subst L;simp only;refine⟨ρ,p,λk b a=>?_⟩;simp only[a3f]at a;rcases a with (a|a)|a;simp_all
   .exact P k b a
   .exact(z b (a3v a)).2.2.mono p
  .simp only[if_neg l];have x:d[v - 1]?=β d[v - 1]:=Ν δ;rw[a3u,x];generalize d[v - 1]=y at x;have h:=z y (a3d x);have g:=a1.gC.1 h.2.1;simp only[a3P];rw[qC C D h.1 h.2.2];simp only;rw[Fh];have j:=Fi C D o y c g.2.2 T δ δ h.1.ok V (by grind) (λr G k=>⟨(h.2.2.mono G).p,W r G k⟩);generalize ka o i (eO e y) (eO e c)=E at*;obtain⟨w,A⟩:=E;obtain⟨L,p,P⟩:=j;simp only at L p P;subst L;simp only;refine⟨ρ,p,λk b a=>?_⟩;simp only[a3f]at a;rcases a with (a|a)|a
   .exact(z b (a3j a)).2.2.mono p
   .exact P k b a
   .exact(z b (a3v a)).2.2.mono p
structure a0F(a:ad)(h:Nat)(t:a1.T h)(r:Except Int hp×ad):Prop where
 ok:r.1=.ok (eO h t)
 le:a.le r.2
 ins:r.2.one=ι->oa r.2 h t
theorem Fj{p:Nat}(c:1<=p)(d:p<=8){b:Ρ}(y:bF p b):∀(a:Nat)(k:a1.T a)(r:ad)(z:Nat),GT p a k->eG r a k->a<z->b∈a1.aW a k->a0F r a (a1.cD bq b a k) (hq p b z r (bN a k))
 |0,k,r,z+1,h,E,_,T=>by
  obtain⟨F,rfl⟩:=a1.iB k;have V:(eW 0 (a1.leaf F)).rows.map Β=F:=yI;rw[hq,qC c d h.hs E];simp only;rw[if_pos Fa,V,y2 (N:=F) c d h.dI h.ok y,decide_eq_true (p:=b∈F) T,if_pos rfl,Zp (N:=F) c d h.dI h.ok y T];exact⟨rfl,ad.le_refl,λ_=>trivial⟩
 |a+1,k,r,z+1,h,E,N,T=>by
  obtain⟨x,rfl⟩:=a1.gB k;have C:=h.kids c d y;obtain⟨o,G⟩:=C.at_;have e:=a3d G;have s:=(Ff c d h y G).1 T;obtain⟨t,O⟩:=C.two;obtain⟨D,u,_,_⟩:=C.gk o e;have Q:=a1.gC.1 u;obtain⟨v,w,X,A⟩:=a1.p1 (fB c d) y a o D.wf D.dI D.ok;have ih:=Fj c d y a o r z D (E.2 o e) δ s;rw[hq,qC c d h.hs E];simp only;rw[if_neg Fb,Fc c d h.hs,Fe,G];simp only[a3P];have f:a1.cD bq b (a+1) (a1.node x)=a1.node (a1.kH x (a1.cL bq b (x.map (a1.cI a))) (a1.cD bq b a o)):=by simp only[a1.cD,a1.eM];rw[G]
  rw[f];clear f;have B:=(a2Z.1 G).1;generalize a1.cL bq b (x.map (a1.cI a))=H at*;generalize hq p b z r (bN a o)=L at*;obtain⟨I,g⟩:=L;obtain⟨i,W,j⟩:=ih;simp only at i W j;subst i;simp only;have Y:=D.ek;have Z:(a1.aW a (a1.cD bq b a o)).length<=1000:=by grind
  have K:=a0E c d g B t (λP S=>⟨(C.gk P S).1.hs,(C.gk P S).2.1,(E.2 P S).mono W⟩) δ A w (λL l=>by
   rw[v]at l;exact D.ok L (a5L.1 l).1) (λP S=>by have:=(C.gk P S).1.ek;omega) (λk0 m M=>(j (m.zero M)).mono m)
  have V:(eW (a+1) (a1.node x)).kids=x.map (bN a):=rfl;rw[V];generalize jh g p (x.map (bN a)) H (eO a (a1.cD bq b a o))=L at*;obtain⟨I,k2⟩:=L;obtain⟨bm,n,q⟩:=K;simp only at bm n q;subst bm;simp only;exact⟨rfl,W.trans n,q⟩
def uE:(b:Nat)->a1.T b->ed
 |0,a=>if a1.len a=0 then ε else β ⟨0,a⟩
 |b+1,a=>match a1.kids a with
  |[c]=>β ⟨b,c⟩
  |_=>β ⟨b+1,a⟩
def iL(a:ed)(c:Ρ):ed:=
 match a with
 |none=>ε
 |some ⟨b,a⟩=>if c∈a1.aW b a then uE b (a1.cD bq c b a)else β ⟨b,a⟩
theorem a0G(C:1<=e)(D:e<=8)(j:bF e n)(l:hX e b8)(m:kY H b8)(S:n∈dX b8):pj H (iL b8 n) (kJ e n H (kX b8)):=by
 match b8 with
 |none=>cases S
 |some ⟨a,b8⟩=>
  have d:GT e a b8:=l;have T:n∈a1.aW a b8:=S;have V:=qm C D d.hs;have h:=ee.high a b8 d.hs;have w:=V.size;have A:=d.ek;have B:=Fj C D j a b8 H ((bN a b8).size.toNat+1) d m δ T;obtain⟨q,r,x,o⟩:=a1.p1 (fB C D) j a b8 d.wf d.dI d.ok;have s:iL (β ⟨a,b8⟩) n=uE a (a1.cD bq n a b8):=by simp only[iL];rw[if_pos T]
  have t:kX (β ⟨a,b8⟩)=bN a b8:=rfl;rw[s];unfold kJ;rw[t,if_neg V.ne];have p:∀E∈a1.aW a (a1.cD bq n a b8),bF e E:=λE u=>by
   rw[q]at u;exact d.ok E (a5L.1 u).1
  have z:(a1.aW a (a1.cD bq n a b8)).length<=1000:=by grind
  have P:=d.wf;clear w V m s t l;generalize hq e n ((bN a b8).size.toNat+1) H (bN a b8)=E at*;generalize a1.cD bq n a b8=b at*;obtain⟨K,M⟩:=E;obtain⟨v,F,k⟩:=B;simp only at v F k;subst v;simp only;clear S T d h A q
  match a,b8,b,r,x,o,p,z,k,P with
  |0,b8,b,r,x,o,p,z,k,P=>
   show pj H (if a1.len b=0 then ε else β ⟨0,b⟩) _;have W:¬((eO 0 b).leaf=ι/\(eO 0 b).kids.length=1):=λh=>absurd h.1 (show¬η=ι by decide);by_cases c:a1.len b=0
   .rw[if_pos c,if_pos (⟨rfl,c⟩)];exact⟨rfl,F,λ_=>trivial⟩
   .have f:¬((eO 0 b).leaf=η/\(eO 0 b).rows.length=0):=λh=>c h.2;rw[if_neg c,if_neg f,if_neg W,yJ];have g:=(lP C D 0 b ⟨⟨δ,o,trivial,λh=>by omega⟩,p,δ⟩).1;rw[pb g.nS];exact⟨rfl,F.trans (kU _ _),λc=>qB c⟩
  |a+1,b8,b,r,x,o,p,z,k,P=>
   have N:=P.2.2.2 δ;have f:¬((eO (a+1) b).leaf=η/\(eO (a+1) b).rows.length=0):=λh=>absurd h.1 (show¬ι=η by decide);rw[if_neg f];obtain⟨y,rfl⟩:=a1.gB b;rw[a1.dH]at x o
   match y,x,o,r,p,z,k with
   |[],x,_,_,_,_,_=>simp at x;omega
   |[i],_,_,r,p,z,k=>rw[if_pos (⟨rfl,rfl⟩)];exact⟨rfl,F,λc=>k c i (by simp[a1.eM])⟩
   |G::L::y,_,o,r,p,z,k=>
    have W:¬((eO (a+1) (a1.node (G::L::y))).leaf=ι/\(eO (a+1) (a1.node (G::L::y))).kids.length=1):=λh=>by
     have:=h.2;rw[show(eO (a+1) (a1.node (G::L::y))).kids=(G::L::y).map (bN a)from rfl]at this;simp at this
    rw[if_neg W,yJ];have g:=(lP C D (a+1) (a1.node (G::L::y)) ⟨⟨by rw[a1.dH];simp,by rw[a1.dH];exact o,r,λ_=>by rw[a1.dH];simp⟩,p,δ⟩).1;rw[pb g.nS];exact⟨rfl,F.trans (kU _ _),λc=>⟨qB c,λi I=>(k ((kU _ _).zero c) i I).mono (kU _ _)⟩⟩
theorem a0H(P:1<=e)(S:e<=8)(T:bF e n)(F:hX e b8):hX e (iL b8 n)/\(dX (iL b8 n)).length<=(dX b8).length:=by
 match b8 with
 |none=>exact⟨trivial,a3w _⟩
 |some ⟨c,b8⟩=>
  have d:GT e c b8:=F;simp only[iL];by_cases G:n∈a1.aW c b8
  .rw[if_pos G];obtain⟨b,h,o,k⟩:=a1.p1 (fB P S) T c b8 d.wf d.dI d.ok;have i:=a6b (λa=>decide (a≠n)) (a1.aW c b8);have y:=d.dI.filter λa=>decide (a≠n);have z:∀C∈(a1.aW c b8).filter (λa=>decide (a≠n)),bF e C:=λC V=>d.ok C (a5L.1 V).1;have j:=d.ek;have p:=d.wf;show hX e _/\ _<=(a1.aW c b8).length;generalize (a1.aW c b8).filter (λa=>decide (a≠n))=W at*;generalize a1.cD bq n c b8=a at*;generalize (a1.aW c b8).length=r at*;clear G F d
   match c,a,b8,b,h,o,k,p with
   |0,a,b8,b,h,o,k,p=>
    show hX e (if a1.len a=0 then ε else β ⟨0,a⟩)/\(dX (if a1.len a=0 then ε else β ⟨0,a⟩)).length<=r;by_cases L:a1.len a=0
    .rw[if_pos L];exact⟨trivial,by simp[dX]⟩
    .rw[if_neg L];refine⟨⟨⟨δ,k,trivial,λl=>by omega⟩,by rw[b];exact y,by rw[b];exact z,by rw[b];omega⟩,?_⟩;show(a1.aW 0 a).length<=r;rw[b];omega
   |c+1,a,b8,b,h,o,k,p=>
    have m:=p.2.2.2 δ;obtain⟨D,rfl⟩:=a1.gB a;rw[a1.dH]at o k
    match D,o,k,h,b with
    |[],o,_,_,_=>simp at o;omega
    |[E],_,_,h,b=>
     have x:a1.aW c E=W:=by rw[<-b,a1.fA];simp
     refine⟨⟨a1.jc.of (h E (by simp[a1.eM])),by rw[x];exact y,by rw[x];exact z,by rw[x];omega⟩,?_⟩;show(a1.aW c E).length<=r;rw[x];omega
    |f::g::D,_,k,h,b=>refine⟨⟨⟨by rw[a1.dH];simp,by rw[a1.dH];exact k,h,λ_=>by rw[a1.dH];simp⟩,by rw[b];exact y,by rw[b];exact z,by rw[b];omega⟩,?_⟩;show(a1.aW (c+1) (a1.node (f::g::D))).length<=r;rw[b];omega
  simp_all
def a0I(q:1<=e)(s:e<=8)(b:Ρ)(S:Own)(t:bF e b)(a:ed)(o:R)(p:U)(C:fo p a o)(H:hX e a):
  AC γ 63 [o,.J (ab b) S] p λT u=>p.sub u/\∃v h,T=.aF [v,.v (.bool h)]/\fo u (iL a b) v:=by
 have D:∀o h:R,aP ι 1 [o,h]=o:=λ_ _=>rfl;have E:∀o h:R,aP ι 1 ([o,h].drop 1)=h:=λ_ _=>rfl;refine aZ hm Km ρ ?_
 match a with
 |none=>obtain rfl:=C;refine bJ ?_;refine ak (Y3 p) ?_;rintro _ p⟨rfl,rfl⟩;refine bJ ?_;refine ak (xj [] [] .nil S b p trivial ρ ρ) ?_;rintro _ _⟨rfl,rfl⟩;have I:decide (b∈([]))=false:=ρ;refine ai @I ?_;exact⟨_,θ,θ,_,_,rfl,rfl⟩
 |some ⟨c,a⟩=>
  obtain⟨h,k5,k6,rfl,k7⟩:=bz.ptr C;have r:GT e c a:=H;have k8:=r.ek;refine bJ ?_;refine ak (xi c a (.ptr h 0) p C δ) ?_;rintro _ l⟨V,K,M,rfl,N⟩;refine bJ ?_;refine ak (xj _ K M S b l N δ λT O=>by have:=(r.ok T O).len;omega) ?_;rintro _ l⟨rfl,rfl⟩;by_cases W:b∈a1.aW c a
  .refine ai @W ?_;refine ak (a0z q s b S t c a (.ptr h 0) l (bz.mono V C) r) ?_;rintro T m⟨Q,z⟩;have X:iL (β ⟨c,a⟩) b=uE c (a1.cD bq b c a):=by simp only[iL];rw[if_pos W]
   rw[X];obtain⟨_,k9,l0,F⟩:=a1.p1 (fB q s) t c a r.wf r.dI r.ok;have l1:=r.wf;have f:=ο V Q;generalize a1.cD bq b c a=x at*;cases c with
   |zero=>
    obtain⟨Y,g,w,Z,rfl,k,d⟩:=id z;have G:=d.len;have l2:α g<=4:=by rw[G];exact F
    have L:(([]:Χ).length:Int)=0:=rfl;have y:¬((0:Int)=1):=δ;refine ai (ba (κ k) @D @E @L @y) ?_;by_cases A:(α g:Int)=0
    .have n:(0)+(α g:Int)=0:=δ;refine ai (cd (κ k) @D @E @L @y @A @n) ?_;refine⟨_,θ,f,_,_,rfl,?_⟩;show fo m (if a1.len x=0 then ε else β ⟨0,x⟩) _;rw[if_pos (by show(a1.rows x).length=0;omega)];rfl
    .have n:¬((0)+(α g:Int)=0):=δ;refine ai (cd (κ k) @D @E @L @y @A @n) ?_;refine⟨_,θ,f,_,_,rfl,?_⟩;show fo m (if a1.len x=0 then ε else β ⟨0,x⟩) _;rw[if_neg (by show¬(a1.rows x).length=0;omega)];exact z
   |succ c=>
    obtain⟨B,rfl⟩:=a1.gB x;obtain⟨Y,i,w,Z,rfl,k,d,j,_⟩:=id z;rw[a1.eM]at d j;have G:=d.len;rw[a1.dH]at F
    match B,i,d,j,G,k,z,F with
    |[],_,_,j,_,_,_,_=>exact absurd rfl j
    |[k0],[l3],d,_,_,k,_,_=>
     have l4:=d.1.cells;obtain⟨P,l5,l6,rfl,_⟩:=bz.ptr d.1;have k2:cJ 1 (.J [.ptr P 0] w) (.v (.int .i64 0))=β (.bR [.ptr P 0]):=by rw[fJ δ];rfl
     have k3:cV ι 1 m (.bR [.ptr P 0])=β (.ptr P 0):=rfl;have y:(([R.ptr P 0]).length)=1:=rfl;refine ai (bx (κ k) @D @E @y @k2 @k3) ?_;refine⟨_,θ,f,_,_,rfl,?_⟩;exact d.1
    |k0::c2::B,i,d,_,G,k,z,F=>simp only[a3e]at G F;have y:¬((α i:Int)=1):=δ;have L:(([]:Χ).length)=0:=rfl;have k4:¬((α i:Int)+0=0):=δ;refine ai (bx (κ k) @D @E @L @y @k4) ?_;refine⟨_,θ,f,_,_,rfl,?_⟩;exact z
  .refine ai @W ?_;refine⟨_,θ,V,_,_,rfl,?_⟩;simp only[iL,if_neg W];exact bz.mono V C
structure bk where
 name:Τ
 aG:List Τ
 rows:List Ρ
 cc:aA
 cE:ed
instance:Inhabited bk:=⟨⟨[],[],[],.nil,ε⟩⟩
def bk.cq(a:bk):aU:=⟨a.name,a.aG,bD a.cc,kX a.cE⟩
def ch(a:List bk)(b:Τ):Nat:=a.findIdx λc=>decide (c.name=b)
def iM(a:List bk)(b:Τ):Nat:=(a.takeWhile λc=> !bV b c.name).length
def bU(a:Ρ):Int:=a.getD 0 0
def gJ(a:Ρ)(c:List Ρ):List Ρ:=c.takeWhile (λb=> !decide (bU a<bU b))++a::c.dropWhile (λb=> !decide (bU a<bU b))
def qI(a:List Ρ):List Ρ:=a.foldl (λb c=>gJ c b) []
def bk.put(a:bk)(b:Ρ):bk:=⟨a.name,a.aG,qI (a.rows++[b]),(cO (α a.aG+1) b a.cc 0).1,ke a.cE b⟩
def bk.del(a:bk)(b:Ρ):bk:=⟨a.name,a.aG,a.rows.filter (λc=>decide (c≠b)),(kM (α a.aG+1) b a.cc).1,iL a.cE b⟩
def gK(a:List bk)(b:de):Int×List bk:=
 if ew b=ι then(1,a)
 else if b.kind=1 then(if ch a b.table<α a then(4,a)else if 7<α a then(10,a)else(0,a.take (iM a b.table)++⟨b.table,b.aG,[],.nil,ε⟩::a.drop (iM a b.table)))
 else if α a<=ch a b.table then(3,a)
 else if b.kind=2 then(0,a.eraseIdx (ch a b.table))
 else if α b.row≠(a.getD (ch a b.table) default).aG.length+1 then(6,a)
 else if b.kind=4 then(if b.row∈(a.getD (ch a b.table) default).rows then(0,a.set (ch a b.table) ((a.getD (ch a b.table) default).del b.row))else(9,a))
 else if(a.getD (ch a b.table) default).rows.any (λc=>decide (bU c=bU b.row))=η then(8,a)
 else(0,a.set (ch a b.table) ((a.getD (ch a b.table) default).put b.row))
structure eH(n:Nat)(t:bk):Prop where
 right:ew ⟨1,t.name,t.aG,[]⟩=η
 eX:kW (α t.aG+1) n t.cc
 fc:t.cc.all.Perm t.rows
 go:hX (α t.aG+1) t.cE
 pk:(dX t.cE).Perm t.rows
 dI:t.rows.Pairwise (λa b=>bU a<bU b)
 ek:α t.rows<=n
theorem eH.c{a:bk}(b:eH e a):1<=α a.aG/\α a.aG<=7:=by have c:=b.right;simp_all [ew,mN]
def eH.row{a:bk}(b:eH e a)(c:n∈a.rows):bF (α a.aG+1) n:=b.eX.hy n (aA.fS (b.fc.mem_iff.2 c))
def eH.le{b:bk}(a:eH e b)(c:e<=i):eH i b:=⟨a.right,⟨a.eX.hy,a.eX.uv,by have:=a.eX.cn;omega⟩,a.fc,a.go,a.pk,a.dI,by have:=a.ek;omega⟩
structure dZ(n:Nat)(cF:List bk):Prop where
 ok:∀t∈cF,eH n t
 dI:cF.Pairwise (λa b=>bV a.name b.name=η)
 ek:α cF<=8
theorem dZ.nil{n:Nat}:dZ n []:=⟨λb a=>(by cases a),.nil,ρ⟩
def a0J(b:1<=e)(c:e<=8)(a:hX e b8):(b8=ε/\kX b8=aB)\/(b8≠ε/\ji e (dX b8).length (kX b8)):=by
 match b8,a with
 |none,_=>exact .inl ⟨rfl,rfl⟩
 |some ⟨d,b8⟩,a=>exact .inr ⟨ρ,qm b c (GT.hs a)⟩
theorem eH.cq{d:Nat}{h:bk}(a:eH d h)(x:d<=1000):ft h.cq=true:=by
 have y:=a.c;have c:=fT δ δ a.eX.hy (by have:=a.eX.cn;omega);have z:=a.eX.cn;have C:=a.fc.length_eq;have k:=a.pk.length_eq;have D:=a.ek;have o:=c.live;unfold ft bk.cq
 dsimp only
 simp only[Ξ,a4x,decide_eq_true_eq];rcases a0J δ δ a.go with⟨p,b⟩|⟨p,b⟩
 .have r:(aB).live=0:=rfl;rw[p]at k;refine⟨a.right,c.ok δ,?_,?_,by rw[c.key];rfl,.inl b⟩
  .rw[b];unfold eK;rfl
  .rw[b,o,r];simp[dX]at k;omega
 .refine⟨a.right,c.ok δ,b.ok δ,?_,by rw[c.key];rfl,.inr ⟨b.key.len,?_⟩⟩
  .rw[o,b.live];omega
  .rw[b.size,b.live]
variable{a7:List bk}
def dZ.cat(a:dZ e a7)(b:e<=1000):cK (a7.map bk.cq)=true:=by
 refine o9.2 ⟨λk c=>?_,?_,by rw[a3k];exact a.ek⟩
 .obtain⟨d,h,rfl⟩:=a3m.1 c;exact(a.ok d h).cq b
 .rw[a5k];exact a.dI
theorem yK:∀ {a:List aU}{nm:Τ},a.Pairwise (λh k=>bV h.name k.name=η)->(a.findIdx λb=>decide (b.name=nm))<α a->cP a nm=a.findIdx λb=>decide (b.name=nm)
 |[],nm,_,c=>by rfl
 |b::a,nm,o,c=>by
  obtain⟨x,p⟩:=a3x.1 o;rw[List.findIdx_cons]at c|-;unfold cP;rw[a4k];by_cases d:b.name=nm
  .rw[decide_eq_true d];simp[d,xX]
  .rw[decide_eq_false d]at c|-;simp only[cond_false,a3e]at c|-;have ih:=yK (nm:=nm) p δ;have r:bV b.name nm=true:=by grind
   rw[if_pos r,a3e];unfold cP at ih;rw[ih]
variable{B:Τ}
theorem uF:((a7.map bk.cq).findIdx λa=>decide (a.name=B))=ch a7 B:=by rw[List.findIdx_map];rfl
theorem uG(a:ch a7 B<α a7):(a7.getD (ch a7 B) default).name=B:=by have:=List.findIdx_getElem (w:=a);rw[a3L,Ν a];exact of_decide_eq_true this
theorem yL(a:ch a7 B<α a7):a7.getD (ch a7 B) default∈a7:=by simp_all
def Fk(b:α a7<=ch a7 B):∀a∈a7,a.name≠B:=λa c d=>by
 have:=List.findIdx_lt_length_of_exists (p:=λa:bk=>decide (a.name=B)) ⟨a,c,decide_eq_true d⟩;have h:α a7<=a7.findIdx λa=>decide (a.name=B):=b;omega
theorem yM(c:dZ e a7):fU (a7.map bk.cq) B=decide (ch a7 B<α a7):=by
 have d:(a7.map bk.cq).Pairwise (λh k=>bV h.name k.name=η):=by rw[a5k];exact c.dI
 by_cases a:ch a7 B<α a7
 .have b:=yK d (by rw[uF,a3k];exact a);rw[uF]at b;unfold fU;rw[b,decide_eq_true a,a3k,decide_eq_true a,a4q];refine decide_eq_true ?_;have:=uG a;rw[a3L,Ν (by rw[a3k];exact a),a4I,List.getElem_map];rw[a3L,Ν a,a4I]at this;exact this
 .rw[decide_eq_false a];unfold fU;rw[a6a];by_cases c2:cP (a7.map bk.cq) B<(a7.map bk.cq).length
  .right;refine decide_eq_false λb=>?_;rw[a3L,Ν c2,a4I,List.getElem_map]at b;exact Fk δ _ (a3r (by rw[a3k]at c2;exact c2)) b
  .left;simp_all
theorem Fl(a:dZ e a7)(d:ch a7 B<α a7):cP (a7.map bk.cq) B=ch a7 B:=by
 have h:(a7.map bk.cq).Pairwise (λb c=>bV b.name c.name=η):=by rw[a5k];exact a.dI
 grind[uF,yK,List.length_map]
def Fm:(a7.map bk.cq).find? (λa=>decide (a.name=B))=(a7[ch a7 B]?).map bk.cq:=by rw[List.find?_eq_getElem?_findIdx,uF,a3u]
theorem a0K{a:Τ}(b:B≠a):(!bV a B)=bV B a:=by grind[bV,absurd,Ed,uf,xX]
theorem a0L(a:α a7<=ch a7 B):cP (a7.map bk.cq) B=iM a7 B:=by
 have b:=Fk a;clear a;unfold cP iM
 induction a7 with
 |nil=>rfl
 |cons c a7 ih=>have d:=a0K (b c ρ);have ih:=ih λh k=>b h (by simp[k]);rw[a3q,a4k,a4k,d];show(if bV c.name B=η then _ else _:List aU).length= _;grind
def hA(c:Nat)(d h:U):Prop:=∀b a,d b=β (.cells a)->α a≠c->h b=β (.cells a)
theorem hA.of{s:U}(a:ix s f):hA e s f:=λb c d _=>a b c d
theorem hA.set{c a:Nat}{b:U}{d:Χ}{h:bl}(p:b a=β (.cells d))(r:α d=c):hA c b (b.set a h):=λk x o y=>by
 have:k≠a:=by grind
 rw[ξ _ _ this];exact o
def dJ.hB{n:Nat}{c d:U}(a:n≠4)(b:hA n c d):∀ {h:aA}{k:R},dJ c h k->dJ d h k
 |.nil,_,o=>o
 |.node _ _ _ _,_,⟨p,r,x,y,h1,z,C,D⟩=>⟨p,r,x,y,h1,b _ _ z (by simpa using a.symm),C.hB a b,D.hB a b⟩
def fo.Fo(b:yH f u)(a:fo f b8 q):fo u b8 q:=by
 match b8 with
 |none=>exact a
 |some ⟨_,_⟩=>exact bz.uC b a
def fo.hB{n:Nat}(a:n≠2)(b:hA n f u)(c:fo f b8 q):fo u b8 q:=c.Fo λh k o p r d=>b _ _ d (by simpa using a.symm)
theorem fo.cells{d:U}{b:ed}{a:R}(c:fo d b a):a.cells=[a]:=by
 match b with
 |none=>obtain rfl:a=.v (.pointer ε):=c;rfl
 |some ⟨_,_⟩=>obtain⟨h,k,o,rfl,_⟩:=bz.ptr c;rfl
def gL(b:U)(a:bk)(o:R):Prop:=∃c p d r h k,o=.ptr c 0/\b c=β (.cells [bo a.name,.J (bY a.aG) p,.J d r,h,k])/\aC isRow a.rows d/\dJ b a.cc h/\fo b a.cE k
def gL.hB{b c:U}(a:hA 1 b c){d:bk}{h:R}(k:gL b d h):gL c d h:=by obtain⟨o,p,r,x,y,z,C,D,E,F,G⟩:=k;exact⟨o,p,r,x,y,z,C,a _ _ D ρ,E,F.hB Λ a,G.hB Λ a⟩
def gL.sub(b:f.sub u){a:bk}(c:gL f a q):gL u a q:=c.hB (hA.of (U.rz b))
def ha(a:U)(c:Nat)(d:List bk):Prop:=∃b h,a c=β (.cells [.J b h])/\aC (gL a) d b
def ha.sub{b c:U}(d:b.sub c){h:Nat}{k:List bk}(a:ha b h k):ha c h k:=by obtain⟨o,p,r,x⟩:=a;exact⟨o,p,d _ _ r,x.mono λy z a=>a.sub d⟩
def Fp(a:aC (gL f) a7 g):bc 1 g:=λk c=>by
 obtain⟨d,h,rfl⟩:=a3B c;have o:=a.len;obtain⟨p,b,r,_,_,_,_,_,rfl,_⟩:=a.get (Ν (show d<α a7 by omega));rw[Ν h]at b;rw[Δ b];rfl
theorem a0M(b:e<α a7)(c:∀a<e,(a7.getD a default).name≠B)(d:(a7.getD e default).name=B):ch a7 B=e:=by grind[ch,List.findIdx_eq,List.getElem?_eq_getElem,decide_eq_true,decide_eq_false]
theorem a0N(b:∀a<α a7,(a7.getD a default).name≠B):α a7<=ch a7 B:=by grind[Nat.lt_or_ge,ch,absurd,uG]
def pn(a:List bk)(b:Τ):Int:=if ch a b<α a then(ch a b:Int)else -1
theorem a0O(h:U)(k:Nat)(b:List bk)(o:ha h k b)(d:Τ)(P:α b<=1000):
  AC γ 60 [.ptr k 0,bo d] h λz C=>C=h/\z=.v (.int .i64 (pn b d)):=by
 obtain⟨S,T,D,p⟩:=o;have V:=p.len;have W:=κ D;refine aM hm Kg ?_;refine hj [0,1] (λa:Nat=>[(5,.v (.int .i64 a))]) (λa=>a<=α b/\∀c<a,(b.getD c default).name≠d) (λa=>α b - a) 0 ⟨a3N _,λc o=>by omega⟩ aV ?_;rintro a⟨e,r⟩f;refine aa ?_;refine aH (λE=>?_) λE=>?_
 .have x:a<α b:=δ;have F:b[a]?=β (b.getD a default):=by simp_all
  obtain⟨_,g,i,j,l,m,n,q,rfl,G,_,_,_⟩:=p.get F;have s:=κ G;have t:=(ug (b.getD a default).name d).1;refine aa ?_;refine aH (λc2=>?_) λc2=>?_
  .have y:=a0M x r c2;unfold pn;rw[y,if_pos x]
  .exact⟨a+1,⟨δ,λc L=>by grind⟩,rfl,δ⟩
 .have y:=a0N λc L=>r c δ;unfold pn;simp_all
def a0P:∀(a:List (a1.T e)),dX (p2 a)=a.flatMap (a1.aW e)
 |[]=>rfl
 |[b]=>by simp[p2,dX]
 |c::d::h=>rfl
theorem a0Q:∀(a:Nat)(b:a1.T a),dX (uE a b)=a1.aW a b
 |0,b=>by
  obtain⟨d,rfl⟩:=a1.iB b;show dX (if a1.len (a1.leaf d)=0 then ε else β ⟨0,a1.leaf d⟩)= _;by_cases c:a1.len (a1.leaf d)=0
  .rw[if_pos c];rw[a1.hR]at c;rw[a1.iC,a2Y c];rfl
  .rw[if_neg c];rfl
 |a+1,b=>by
  obtain⟨h,rfl⟩:=a1.gB b;show dX (match a1.kids (a1.node h)with
   |[k]=>β ⟨a,k⟩
   |_=>β ⟨a+1,a1.node h⟩)= _
  grind[a1.eM,a1.fA,dX]
def a0R(d:1<=e)(h:e<=8)(k:bF e n)(o:hX e b8)(p:n∉dX b8):(dX (ke b8 n)).Perm (n::dX b8):=by
 match b8 with
 |none=>show(a1.aW 0 (a1.leaf [n])).Perm _;rw[a1.iC];rfl
 |some ⟨a,b8⟩=>have b:GT e a b8:=o;have c:n∉a1.aW a b8:=p;simp only[ke];rw[if_neg c,a0P];rw[(a1.ql (fB d h) k a b8 b.wf b.dI b.ok c).1];unfold a1.dF;exact a5m.trans (.cons _ (List.Perm.of_eq a3F))
def a0S(d:1<=e)(h:e<=8)(k:bF e n)(o:hX e b8)(c:n∈dX b8):dX (iL b8 n)=(dX b8).filter λp=>decide (p≠n):=by
 match b8 with
 |none=>cases c
 |some ⟨a,b8⟩=>have b:GT e a b8:=o;have r:n∈a1.aW a b8:=c;simp only[iL];rw[if_pos r,a0Q];exact(a1.p1 (fB d h) k a b8 b.wf b.dI b.ok).1
theorem Fq(a:Ρ)(b:List Ρ):(gJ a b).Perm (a::b):=by grind[List.takeWhile_append_dropWhile,decide,bU,gJ,List.perm_middle]
theorem Fs{b:Ρ}:∀ {a:List Ρ},a.Pairwise (λk o=>bU k<bU o)->(∀c∈a,bU b≠bU c)->(gJ b a).Pairwise (λk o=>bU k<bU o)
 |[],_,_=>by simp[gJ]
 |c::a,r,x=>by
  obtain⟨z,C⟩:=a3x.1 r;have D:=x c ρ;by_cases y:bU b<bU c
  .have p:gJ b (c::a)=b::c::a:=by simp[gJ,y]
   rw[p];refine a3x.2 ⟨λh d=>?_,r⟩;grind
  .have p:gJ b (c::a)=c::gJ b a:=by simp[gJ,y]
   rw[p];refine a3x.2 ⟨λh d=>?_,Fs C λh d=>x h (by simp[d])⟩;rcases a3n.1 ((Fq b a).mem_iff.1 d)with rfl|d
   .omega
   .exact z h d
theorem Ft:∀(b a:List Ρ),(a++b).Pairwise (λh k=>bU h≠bU k)->a.Pairwise (λh k=>bU h<bU k)->(b.foldl (λo c=>gJ c o) a).Perm (a++b)/\(b.foldl (λo c=>gJ c o) a).Pairwise (λh k=>bU h<bU k)
 |[],a,_,d=>by simpa using d
 |c::b,a,d,p=>by
  have r:=((Fq c a).append_right b).trans a5m.symm;obtain⟨D,E,x⟩:=a3Q.1 d;obtain⟨F,G⟩:=Ft b (gJ c a) (r.symm.pairwise d λd=>d.symm) (Fs p λy z C=>x y z c ρ C.symm);grind
theorem a0T(c:N.Pairwise (λa b=>bU a<bU b))(p:∀d∈N,bU n≠bU d):(qI (N++[n])).Perm (n::N)/\(qI (N++[n])).Pairwise (λa b=>bU a<bU b):=by
 have h:([]++(N++[n])).Pairwise (λa b=>bU a≠bU b):=by rw[a3l];refine a3Q.2 ⟨c.imp λc=>by omega,ρ,λa r b x=>?_⟩;grind
 obtain⟨k,o⟩:=Ft (N++[n]) [] h .nil;exact⟨k.trans (List.perm_append_singleton _ _),o⟩
def eH.put{d:Nat}{a:bk}(b:eH d a)(G:d<900){c:Ρ}(h:bF (α a.aG+1) c)(o:∀y∈a.rows,bU y≠bU c):eH (d+1) (a.put c)/\(cO (α a.aG+1) c a.cc 0).2=η/\c∉dX a.cE:=by
 have L:=b.c;have p:c∉a.rows:=λhm=>o c hm rfl;have r:(cO (α a.aG+1) c a.cc 0).2=true:=by
  cases z:(cO (α a.aG+1) c a.cc 0).2 with
  |true=>rfl
  |false=>exact absurd (b.fc.mem_iff.1 (yp z)) p
 have x:c∉dX a.cE:=λhm=>p (b.pk.mem_iff.1 hm);obtain⟨k,C⟩:=a0T b.dI λD E F=>o D E F.symm;have P:=b.pk.length_eq;have S:=b.ek;refine⟨⟨b.right,b.eX.ins h,?_,(a0C δ δ h b.go δ).1,?_,C,?_⟩,r,x⟩
 .exact(yo h b.eX.hy r).trans ((b.fc.cons c).trans k.symm)
 .exact(a0R δ δ h b.go x).trans ((b.pk.cons c).trans k.symm)
 .show(qI (a.rows++[c])).length<=d+1;rw[k.length_eq,a3e];omega
theorem a0U{b:List Ρ}(d:N.Pairwise (·≠ ·))(a:N.Perm (n::b)):b.Perm (N.filter λc=>decide (c≠n)):=by have h:=(a.filter λc=>decide (c≠n)).symm;have k:(n::b).Pairwise (·≠ ·):=a.pairwise d λa=>a.symm;obtain⟨o,_⟩:=a3x.1 k;rw[a5Y,if_neg ρ]at h;grind[decide,List.filter_eq_self,decide_eq_true]
def eH.qG{a:bk}(b:eH e a):a.rows.Pairwise (·≠ ·):=b.dI.imp λb c=>by subst c;omega
theorem eH.del{k:Nat}{b:bk}(a:eH k b){c:Ρ}(d:c∈b.rows):eH k (b.del c)/\(cb (α b.aG+1) c b.cc 0).2=η/\c∈dX b.cE:=by
 have z:=a.c;have h:=a.row d;have o:(cb (α b.aG+1) c b.cc 0).2=true:=by
  cases r:(cb (α b.aG+1) c b.cc 0).2 with
  |true=>rfl
  |false=>exact absurd (a.fc.mem_iff.2 d) (yq h.len a.eX.hy a.eX.uv r)
 have p:=a.pk.mem_iff.2 d;have x:=ZU a.eX o;refine⟨⟨a.right,a.eX.del,?_,(a0H δ δ h a.go).1,?_,a.dI.filter _,a4f (a6b _ _) a.ek⟩,o,p⟩
 .exact a0U a.qG (a.fc.symm.trans x)
 .show(dX (iL b.cE c)).Perm (b.rows.filter λy=>decide (y≠c));rw[a0S δ δ h a.go p];exact a.pk.filter _
def eH.none{a:bk}(b:eH e a)(h:α n=α a.aG+1)(c:n∉a.rows):(cb (α a.aG+1) n a.cc 0).2=false:=by
 cases d:(cb (α a.aG+1) n a.cc 0).2 with
 |false=>rfl
 |true=>exact absurd (b.fc.mem_iff.1 ((ur d).mem_iff.2 ρ)) c
variable{e8:de}
theorem Fu(a:ew e8=η)(b:e8.kind=1):ew ⟨1,e8.table,e8.aG,[]⟩=true:=by unfold ew at a|-;simp_all
variable{j4:List Τ}
def Fv(a:ew ⟨1,B,j4,[]⟩=η):eH e ⟨B,j4,[],.nil,ε⟩:=⟨a,kW.nil,.refl _,trivial,.refl _,.nil,a3N _⟩
theorem add_eq(a:dZ e a7)(c:e<=1000)(d:ew ⟨1,B,j4,[]⟩=η):
  jr (a7.map bk.cq) ⟨B,j4,aB,aB⟩=if ch a7 B<α a7 then .error 4 else if 7<α a7 then .error 10 else .ok ((a7.take (iM a7 B)++⟨B,j4,[],.nil,ε⟩::a7.drop (iM a7 B)).map bk.cq):=by
 have h:ft ⟨B,j4,aB,aB⟩=true:=(Fv d).cq δ;unfold jr;rw[a.cat c,h,Bool.and_self,if_pos rfl]
 dsimp only
 rw[yM a,a3k];by_cases b:ch a7 B<α a7;simp_all
 .rw[if_neg (by simpa using b),if_neg b,a0L δ];by_cases c2:7<α a7
  .grind
  .rw[if_neg δ,if_neg c2,a3V,a3q,a6p,a5T];rfl
theorem Fw(a:dZ e a7)(c:e<=1000):cD (a7.map bk.cq) B=if ch a7 B<α a7 then .ok ((a7.eraseIdx (ch a7 B)).map bk.cq)else .error 3:=by
 unfold cD;rw[a.cat c,if_pos rfl,yM a];by_cases b:ch a7 B<α a7
 .rw[if_pos (decide_eq_true b),if_pos b,Fl a b,a4U,a3V,a6p,a5T]
 grind
theorem q8(b:dZ e a7)(c:e<=1000){a:bk}(d:eH i a)(h:i<=1000)(k:ch a7 a.name<α a7):js (a7.map bk.cq) a.cq=.ok ((a7.set (ch a7 a.name) a).map bk.cq):=by unfold js;rw[b.cat c,d.cq h,Bool.and_self,if_pos rfl];show(if fU (a7.map bk.cq) a.name=η then _ else _)= _;rw[yM b,if_pos (decide_eq_true k)];grind[bk.cq,set,cP,Fl,List.map_set]
def dZ.yN(c:∀d∈a7,eH e d)(h:cK (a7.map bk.cq)=η):dZ e a7:=by obtain⟨_,a,b⟩:=o9.1 h;rw[a5k]at a;rw[a3k]at b;exact⟨c,a,b⟩
def dZ.le{b c:Nat}{d:List bk}(a:dZ b d)(h:b<=c):dZ c d:=⟨λk o=>(a.ok k o).le h,a.dI,a.ek⟩
theorem dZ.set{b:Nat}{a:List bk}(d:dZ b a)(x:b<1000){c:bk}(h:eH (b+1) c)(k:ch a c.name<α a):dZ (b+1) (a.set (ch a c.name) c):=
 dZ.yN (λo p=>by
  rcases a4T p with r|rfl
  .exact(d.ok o r).le δ
  .exact h) (F5 (q8 d δ h δ k))
def yO(a:ew e8=η)(h:e8.kind≠1)(k:e8.kind≠2):(e8.kind=3\/e8.kind=4):=by
 have a:=a;simp only[ew,Ξ]at a;have a:=a.2;have c:∀d:UInt8,e8.kind.toNat=d.toNat->e8.kind=d:=λd b=>a3Z.1 b;split at a
 .rename_i b;exact absurd (c 1 b) h
 split at a
 .rename_i b;exact absurd (c 2 b) k
 split at a
 .rename_i b;exact b.imp (c 3) (c 4)
 .cases a
theorem a0V(d:dZ e a7)(y:e<900)(o:dc e8.row):dZ (e+1) (gK a7 e8).2:=by
 have b:=d.le (show e<=e+1 by omega);unfold gK;by_cases p:ew e8=ι
 .rw[if_pos p];exact b
 rw[if_neg p];have z:ew e8=true:=by simp_all
 by_cases c1:e8.kind=1
 .rw[if_pos c1];have r:=Fu z c1;have h:=add_eq d δ r;by_cases c2:ch a7 e8.table<α a7
  .rw[if_pos c2];exact b
  rw[if_neg c2]at h|-;by_cases aE:7<α a7
  .rw[if_pos aE];exact b
  rw[if_neg aE]at h|-;refine dZ.yN (λc a=>?_) (F8 h);simp only[a3f,a3n]at a;rcases a with a|rfl|a
  .exact b.ok c (a3j a)
  .exact Fv r
  .exact b.ok c (a3v a)
 rw[if_neg c1];by_cases c2:α a7<=ch a7 e8.table
 .rw[if_pos c2];exact b
 rw[if_neg c2];have k:ch a7 e8.table<α a7:=δ;by_cases aE:e8.kind=2
 .rw[if_pos aE];have h:=Fw (B:=e8.table) d δ;rw[if_pos k]at h;exact dZ.yN (λc a=>b.ok c (a5P a)) (F4 (d.cat δ) h)
 rw[if_neg aE];have a:=d.ok _ (yL k);have C:=uG k;generalize a7.getD (ch a7 e8.table) default=c at*;by_cases aL:α e8.row≠α c.aG+1
 .rw[if_pos aL];exact b
 rw[if_neg aL];have D:bF (α c.aG+1) e8.row:=⟨δ,o⟩;rw[<-C]at k|-;by_cases ba:e8.kind=4
 .rw[if_pos ba];by_cases bx:e8.row∈c.rows
  .rw[if_pos bx];exact d.set δ ((a.del bx).1.le δ) k
  .rw[if_neg bx];exact b
 .rw[if_neg ba];by_cases bx:c.rows.any (λx=>decide (bU x=bU e8.row))=η
  .rw[if_pos bx];exact b
  .rw[if_neg bx];refine d.set δ (a.put y D λx o E=>bx ?_).1 k;simp_all
def km(a:Ρ):Nat:=(bU a+9223372036854775808).toNat
theorem yP(a:dc n): -9223372036854775808<=bU n/\bU n<9223372036854775808:=by
 unfold bU;rw[a3L];cases b:n[0]? with
 |none=>simp
 |some c=>exact a c (a3d b)
theorem yQ(a:dc n):IntKind.u64.wrap (IntKind.u64.wrap (bU n)+9223372036854775808)=(km n:Int)/\(km n:Int)=bU n+9223372036854775808:=by grind[yP,km,bU,Int.toNat_of_nonneg,rj]
theorem Fx(c d:Own)(a:Ρ)(b:U)(k:nW a)(o:dc a):AC γ 178 [fs.V c,.J (ab a) d] b λp r=>r=b/\p=.aF [hv 0 (km a),.v (.bool η)]:=by
 obtain⟨bm,x⟩:=yQ o;obtain⟨z,C⟩:=k;have D:=bK (n:=a);have E:=lR (n:=a) δ d;have y:fs.ok (α a)=true:=by rw[qu];simp_all
 have h:=λb=>DO fs c (α a) b δ ρ;rw[y]at h;unfold bU at bm;clear x;refine aM hm No ?_;refine bp λF G=>?_;refine dk λL P S T=>?_;refine bd (h _) ?_;rfl
theorem a0W(r x y:Own)(a b:Ρ)(c:U)(F:nW a)(l:α b=α a)(z:dc a)(C:dc b):AC γ 118 [fs.V r,.J (ab a) x,.J (ab b) y] c λk o=>o=c/\k=.v (.bool (decide (bU a<bU b))):=by
 have T:nW b:=by unfold nW at*;omega
 have fc:=(yQ z).2;have V:=(yQ C).2;have G:=λc=>Fx r x a c F z;have L:=λc=>Fx r y b c T C;obtain⟨m,n⟩:=F;have q:=bK (n:=a);have s:=bK (n:=b);have W:=lR (n:=a) δ x;have e:=lR (n:=b) δ y;have P:a.getD 0 0=bU a:=rfl;have S:b.getD 0 0=bU b:=rfl;rw[P]at W;rw[S]at e;have t:km a<km b↔bU a<bU b:=δ;have u:km a=km b↔bU a=bU b:=δ;have cg:km a<18446744073709551616/\km b<18446744073709551616:=by have G:=yP z;have L:=yP C;omega
 clear P S fc V;generalize km a=d at*;generalize km b=h at*;generalize bU a=D at*;generalize bU b=f at*;have E:∀p:Nat,p<18446744073709551616->db [(2,bZ.int IntKind.u64)] [R.v (Value.int IntKind.u64 0),R.v (Value.int IntKind.u64 (p))]:=λp v=>by
  simp[db,bZ.sE]
 have w:=E d cg.1;have A:=E h cg.2;clear E;have g:peq (R.agg [R.v (Value.int IntKind.u64 0),R.v (Value.int IntKind.u64 (d))]) (R.agg [R.v (Value.int IntKind.u64 0),R.v (Value.int IntKind.u64 (h))])=decide (d=h):=by grind[peq]
 refine aM hm LP ?_;refine bp λB H=>?_;refine bd (G _) ?_;refine dk λI K p M=>?_;refine bd (L _) ?_;refine hG λN O Q X Y Z=>?_;have i:∀c,AC γ 179 [hv 0 d,hv 0 h] c λk o=>o=c/\k=.v (.bool (decide (D<f))):=λc=>(Yu 0 d 0 h c).mono λk o j=>⟨j.1,by simp_all⟩;rw[g];refine aH (λD=>?_) λD=>?_
 .refine bd (i _) ?_;trivial
 .trivial
theorem a0X(c:∀a<e,¬bU n<bU (N.getD a []))(b:e<=α N)(d:e<α N->bU n<bU (N.getD e [])):gJ n N=N.take e++n::N.drop e:=by
 induction N generalizing e with
 |nil=>simp at b;subst b;rfl
 |cons h N ih=>
  cases e with
  |zero=>grind[bU,gJ,List.takeWhile_cons,List.dropWhile_cons]
  |succ e=>have o:¬bU n<bU h:=c 0 δ;have:=ih (λa p=>c (a+1) δ) (by simpa using b) (λk=>d (by simpa using k));simp_all [gJ]
theorem a0Y(d:List Ρ)(m:Χ)(w z:Own)(F:Nat)(C:U)(g:aC isRow d m)(n:∀G∈d,bF F G)(k3:1<=F)(k4:F<=8)(n3:α d<=100000):
  AC γ 64 [fs.V z,.J m w] C λG L=>C.sub L/\∃A k5,aC isRow (qI d) A/\G=.J A k5:=by
 have n4:=g.len;have k6:∀C,AC γ 117 [fs.V z,.v (.int .i64 (F:Int))] C λG L=>L=C/\G=.v (.bool η):=λC=>by
  have:=DO fs z F C δ ρ;rw[qu,decide_eq_true ⟨k3,k4⟩]at this;exact this
 have n5:(fs.V z).cells=[.v (.int .u8 0),.v (.int .i64 0),.J (ab []) z]:=rfl;refine aM hm Ko ?_;refine bp λq k7=>?_;have B:∀S,(C.set q (.cells (fs.V z).cells)).sub S->S.read q=β [.v (.int .u8 0),.v (.int .i64 0),.J (ab []) z]:=λS k=>κ (k _ _ (ν _ _ _));have k8:=μ (X:=.cells (fs.V z).cells) (θ) k7;generalize C.set q _=H at*;refine hj [1,2,5] (λh:Nat=>[(6,.v (.int .i64 h))]) (λh=>h<=α d) (λh=>α d - h) 0 δ aV ?_
 .rintro h I K;have k9:=B H θ;refine aa ?_;refine aH (λs=>?_) λs=>?_
  .have T:d[h]?=β (d.getD h []):=by simp_all
   have M:d[0]?=β (d.getD 0 []):=by grind
   obtain⟨_,l0,i,rfl⟩:=g.get T;obtain⟨_,l1,D,rfl⟩:=g.get M;have l2:=(n _ (a3d T)).len;have n9:=(n _ (a3d M)).len;have a00:=bK (n:=d.getD h []);have a01:=bK (n:=d.getD 0 []);generalize d.getD h []=r at*;generalize d.getD 0 []=b at*;refine aa ?_;have a02:cJ 1 (.J m w) (.v (.int .i64 0))=β (.bR [.J (ab b) D]):=by show cJ 1 _ (.v (.int .i64 ((0:Nat))))= _;rw[pY,l1];rfl
   refine bd (k6 _) ?_;exact⟨h+1,δ,rfl,δ⟩
  .refine cQ [1,2] (λb:Nat×Χ×Own=>[(7,.v (.int .i64 b.1)),(5,.J b.2.1 b.2.2)]) (λb L=>H.sub L/\b.1<=α d/\∃c,(d.take b.1).foldl (λc r=>gJ r c) []=c/\α c=b.1/\(∀G∈c,bF F G)/\aC isRow c b.2.1) (λb=>α d - b.1) (0,[],.nil) ⟨⟨θ,δ,[],rfl,rfl,ρ,trivial⟩,aV⟩ ?_;rintro⟨h,E,bC⟩ S ⟨j,I,c,V,l3,N,x⟩ K
   dsimp only at I V l3 x|-
   have a03:=x.len;refine aa ?_;refine aH (λs=>?_) λs=>?_
   .have T:d[h]?=β (d.getD h []):=by simp_all
    obtain⟨_,l0,i,rfl⟩:=g.get T;have O:=n _ (a3d T);have l2:=O.len;have l4:=O.kd;have Q:=iy (a:=d) (b:=[]) (e:=h) δ;generalize d.getD h []=r at*;have el:∀a,a<α c->∃D,E[a]?=β (.J (ab (c.getD a [])) D):=λa W=>by
     obtain⟨_,o,D,rfl⟩:=x.get (i:=a) (x:=c.getD a []) (by simp_all);exact⟨D,o⟩
    have l5:∀a,a<α c->(c.getD a []).length=F:=λa W=>(N _ (by simp_all)).len;have l6:∀a,a<α c->dc (c.getD a []):=λa W=>(N _ (by simp_all)).kd;refine cQ [1,2,5,7] (λb:Nat×Χ×Own=>[(9,.v (.int .i64 b.1)),(8,.J b.2.1 b.2.2)]) (λb L=>b.1<=α c/\(∀X<b.1,¬bU r<bU (c.getD X []))/\aC isRow (c.take b.1) b.2.1/\bj S L 1 b.2.1 b.2.2) (λb=>α c - b.1) (0,[],.nil) ⟨⟨δ,λX k=>by simp at k,trivial,bj.nil θ⟩,aV⟩ ?_;rintro⟨a,l,on⟩ l7 ⟨W,Y,y,e⟩ K
    dsimp only at W Y y e|-
    have k9:=B l7 (ο j e.sub);have a04:α l=a:=by rw[y.len,a2X];omega
    have Z:¬(a<α c/\¬bU r<bU (c.getD a []))->gJ r c=c.take a++r::c.drop a:=λk=>a0X Y W λl8=>Classical.not_not.1 λP=>k ⟨l8,P⟩;by_cases jg:(a)<(h:Int)
    .obtain⟨D,a05⟩:=el a δ;have a06:=l5 a δ;have l9:=l6 a δ;have n0:=iy (a:=c) (b:=[]) (e:=a) δ;generalize a07:c.getD a []=b at*;refine aa ?_;refine bd (a0W z i D r b _ (by unfold nW;omega) δ l4 l9) ?_;refine aH (λc2=>?_) λc2=>?_
     .refine mB (λk0 f=>?_);refine ei (e.mono (μ θ f)) (y.cells λ_ _=>φ) (λo p=>by rw[a3s]at p;subst p;rfl) Κ Κ λt k2 P=>?_;refine aa ?_;refine⟨(a+1,l++[.J (ab b) D],t),⟨by simp only;omega,?_,?_,P⟩,⟨rfl,rfl⟩,by simp only;omega⟩;grind
      .simp only[n0];exact y.snoc ⟨_,rfl⟩
     .have o:=Z δ;refine mB (λk0 f=>?_);refine ei (e.mono (μ θ f)) (y.cells λ_ _=>φ) (λo p=>by rw[a3s]at p;subst p;rfl) Κ Κ λt k2 P=>?_;have n1:dN 1 (.J E bC) (β (.v (.int .i64 (a)))) ε=β (.J (E.drop a) .any):=oL δ (x.cells λ_ _=>φ);refine aa ?_;refine ei P (λo p=>by rcases a3f.1 p with k|k;exact y.cells (λ_ _=>φ) o k;rw[a3s]at k;subst k;rfl) ((x.drop a).cells λ_ _=>φ) Κ Κ λu n2 v=>?_;refine aa ?_;refine⟨(h+1,l++[.J (ab r) i]++E.drop a,u),⟨ο j v.sub,by simp only;omega,_,rfl,?_,?_,?_⟩,⟨rfl,rfl⟩,by simp only;omega⟩;grind;grind
      .simp only[Q,a5j,V,a3I,a5Q,o];rw[a5X];exact(y.snoc ⟨_,rfl⟩).append (x.drop a)
    .have o:=Z δ;refine aa ?_;refine mB (λk0 f=>?_);refine ei (e.mono (μ θ f)) (y.cells λ_ _=>φ) (λo p=>by rw[a3s]at p;subst p;rfl) Κ Κ λt k2 P=>?_;have n1:dN 1 (.J E bC) (β (.v (.int .i64 (a)))) ε=β (.J (E.drop a) .any):=oL δ (x.cells λ_ _=>φ);refine aa ?_;refine ei P (λo p=>by rcases a3f.1 p with k|k;exact y.cells (λ_ _=>φ) o k;rw[a3s]at k;subst k;rfl) ((x.drop a).cells λ_ _=>φ) Κ Κ λu n2 v=>?_;refine aa ?_;refine⟨(h+1,l++[.J (ab r) i]++E.drop a,u),⟨ο j v.sub,by simp only;omega,_,rfl,?_,?_,?_⟩,⟨rfl,rfl⟩,by simp only;omega⟩;grind;grind
     .simp only[Q,a5j,V,a3I,a5Q,o];rw[a5X];exact(y.snoc ⟨_,rfl⟩).append (x.drop a)
   .obtain rfl:h=α d:=δ;rw[a3K]at V;refine⟨ο k8 j,E,bC,by rw[qI,V];exact x,rfl⟩
def a0Z{a:Nat->Bool}:(ψ (e+1)).all a=(a 0&&(ψ e).all λb=>a (b+1)):=by rw[a6N,List.all_cons,a7n];rfl
theorem Fy(b:Τ):∀(c a:Nat),α b<c+a->kN ⟨b.toArray⟩ c a=(ψ (α b - a)).all λk=>mO (a+k) (b.getD (a+k) 0)
 |0,a,o=>by
  rw[show α b - a=0 by omega];rfl
 |c+1,a,o=>by
  have p:(⟨b.toArray⟩:ByteArray).size=α b:=rfl;rw[kN,p];by_cases d:a<α b
  .rw[if_pos d];obtain⟨h,hm⟩:∃h,α b - a=h+1:=⟨α b - a - 1,δ⟩;rw[hm,a0Z,a4K];have r:b.getD a 0=b[a]:=by simp[d]
   rw[r];by_cases cf:b[a].toNat<128
   .rw[DK b a d cf]
    dsimp only
    rw[Fy b c (a+1) δ,show α b -(a+1)=h by omega];have x:fq a (b[a].toNat)=mO a b[a]:=by unfold fq mO;grind
    grind
   grind[decode_high,fq,Utf8.decode,decide_eq_false,mO]
  simp_all
theorem Fz(a:Τ):mP a=jj a:=by unfold mP jj;rw[Fy a (α a+1) 0 δ];grind
theorem a1a(a:e<α j4):kP j4 e=lQ j4 e:=by unfold kP lQ;rw[Fz];congr 2;rw[a5t];simp only[a3h,a4b,a4p,decide_eq_false_iff_not];grind[hm,List.getElem_of_mem,List.length_take,List.getD,List.mem_iff_getElem]
theorem a1b(a:List Τ):(ψ (α a)).all (kP a)=(ψ (α a)).all (lQ a):=by rw[a5t];grind[List.all_eq_true,a1a]
theorem a1c(a:de):nU a=ew a:=by
 unfold nU ew xF mN;rw[Fz,a1b];congr 1;by_cases bm:a.kind.toNat=1
 .rw[if_pos bm,if_pos bm,Bool.and_assoc];grind
 rw[if_neg bm,if_neg bm];by_cases b:a.kind.toNat=2;simp_all;grind
def ea(c:Nat)(d h:U):Prop:=∀a b,a≠c->d a=β b->h a=β b
theorem ea.of{s:U}(a:s.sub f):ea e s f:=λb c _ d=>a b c d
theorem ea.trans(d:ea e f u)(h:ea e u e1):ea e f e1:=λa b c k=>h a b c (d a b c k)
theorem ea.set{a:Nat}{b c:U}{h:bl}(k:ea a b c):ea a b (c.set a h):=λo p d r=>by rw[ξ _ _ d];exact k o p d r
def eP(a:Χ)(b:Nat)(d:R)(c:Nat):Χ:=if c<=b then a.take c else(a.take b++d::a.drop b).take (c+1)
def a1d(b:e<i)(a:g[e]?=β b7):eP g i q (e+1)=eP g i q e++[b7]:=by unfold eP;rw[if_pos δ,if_pos δ];obtain⟨c,rfl⟩:=a2Z.1 a;simp
theorem a1e(a:g[e]?=β b7):eP g e q (e+1)=eP g e q e++[q]++[b7]:=by unfold eP;obtain⟨b,rfl⟩:=a2Z.1 a;rw[if_neg δ,if_pos δ,a3z b];grind
theorem a1f(b:e<i)(a:g[i]?=β b7):eP g e q (i+1)=eP g e q i++[b7]:=by unfold eP;obtain⟨c,rfl⟩:=a2Z.1 a;rw[if_neg δ,if_neg δ];have d:(g.take e++q::g.drop e).length=α g+1:=Κ;rw[a4o (show i+1<(g.take e++q::g.drop e).length by omega)];congr 2;grind
def a1g(a:e<=α g):(if e<α g then eP g e q (α g) else eP g e q (α g)++[q])=g.take e++q::g.drop e:=by
 split
 .unfold eP;rw[if_neg δ,a2U Κ]
 .obtain rfl:e=α g:=δ;unfold eP;rw[if_pos δ];simp
def a1h(a:aC (gL f) a7 g)(h:α q.cells=1):bc 1 (eP g e q i):=λc b=>by
 have d:=Fp a;unfold eP at b;split at b
 .exact d c (a3j b)
 .have:=a3j b;rcases a3f.1 this with a|a
  .exact d c (a3j a)
  .rcases a3n.1 a with rfl|a
   .exact h
   .exact d c (a3v a)
theorem a1i:(eP g i q e).length<=e+1:=by unfold eP;grind
theorem a1j:∀a<iM a7 B,bV B (a7.getD a default).name=false:=by
 unfold iM
 induction a7 with
 |nil=>intro a b;simp at b
 |cons d a7 ih=>
  intro a b;rw[a4k]at b;cases c:bV B d.name with
  |true=>simp[c]at b
  |false=>
   simp only[c,a3H,if_true,a3e]at b;cases a with
   |zero=>trivial
   |succ a=>simp_all
def a1k:iM a7 B<=α a7:=(List.takeWhile_sublist _).length_le
theorem a1l(a:iM a7 B<α a7):bV B (a7.getD (iM a7 B) default).name=true:=by
 induction a7 with
 |nil=>simp at a
 |cons b a7 ih=>
  unfold iM at a|-;rw[a4k]at a|-;cases c:bV B b.name with
  |true=>simp[c]
  |false=>simp_all [if_true,iM]
theorem a1m(a:List bk)(b:Τ):(ch a b<α a->pn a b=(ch a b:Int))/\(α a<=ch a b->pn a b= -1):=by simp_all [pn,if_pos,if_neg]
def a1n(a:UInt8)(b:Int):ir BinOp.eql (ao a) (R.v (Value.int IntKind.u8 b))=β (.v (.bool (decide ((a.toNat:Int)=b)))):=by simp only[ao,rh];rfl
theorem a1o(a:g[e]?=β q)(b:e≠i):(g.take (e+1)).eraseIdx i=(g.take e).eraseIdx i++[q]:=by obtain⟨c,rfl⟩:=a2Z.1 a;grind[List.take_succ_eq_append_getElem,Nat.lt_or_ge,List.eraseIdx_append_of_lt_length,List.length_take,List.eraseIdx_of_length_le]
theorem a1p:(g.take (e+1)).eraseIdx e=(g.take e).eraseIdx e:=by grind[List.eraseIdx_eq_take_drop_succ,List.drop_eq_nil_of_le,List.length_take,Nat.min_eq_left,Nat.min_self]
variable{b0:Type}
def aC.erase{b:b0->R->Prop}{c:List b0}(a:Nat)(d:aC b c g):aC b (c.eraseIdx a) (g.eraseIdx a):=by rw[a4U,a4U];exact(d.take a).append (d.drop (a+1))
def yR(a:f e=β (.cells [q]))(b:aC (gL f) a7 g):ha (f.set e (.cells [.J g O])) e a7:=
 ⟨g,O,ν _ _ _,b.mono λ_ _ c=>c.hB (hA.set a rfl)⟩
def FA(a:f e=β (.cells [bo B,.J (bY j4) O,.J [] .nil,.v (.pointer ε),.v (.pointer ε)])):gL f ⟨B,j4,[],.nil,ε⟩ (.ptr e 0):=⟨e,O,[],.nil,_,_,rfl,a,trivial,rfl,rfl⟩
theorem a1q(a:aC (gL f) a7 g):c8 u 1 (.J g O)=β (α g,g):=by
 have p:∀b∈g,b.cells=[b]:=λb d=>by
  obtain⟨h,k,rfl⟩:=a3B d;have r:=a.len;obtain⟨o,c,x,_,_,_,_,_,rfl,_⟩:=a.get (Ν (show h<α a7 by omega));rw[Ν k]at c;rw[Δ c];rfl
 have y:flat g=g:=by
  unfold flat;clear a
  induction g with
  |nil=>rfl
  |cons o g ih=>simp_all
 simp_all [c8,if_pos,a3h,decide_eq_true]
def jt(a:Nat)(p c:U)(r:List bk):Prop:=∃b d,aC (gL b) r d/\(∃x,b a=β (.cells [x]))/\ea a p b/\ea a b c/\
 ((∃y,c a=β (.cells [.J d y]))\/∃h k z o,b h=ε/\c a=β (.cells [.aq h k z 1])/\c h=β (.cells o)/\k<=α o/\ez 1 k o=d)
theorem jt.of{s:U}{ds:List bk}(a:ha f e ds)(c:ea e s f):jt e s f ds:=by obtain⟨d,h,b,k⟩:=a;exact⟨f,d,k,⟨_,b⟩,c,λ_ _ _ a=>a,.inl ⟨h,b⟩⟩
set_option maxHeartbeats 1000000 in
theorem a1r(M:U)(w a71:Nat)(k:List bk)(c:ha M w k)(a73:dZ a71 k)(b51:a71<900)(x:df)(a74:x.d.Fit)(X:dc x.d.row):
  AC γ 28 [.ptr w 0,x.V] M λy n=>jt w M n (gK k x.d).2/\y=.v (.int .i64 (gK k x.d).1):=by
 have h:=(gK.eq_1 k x.d).symm;generalize gK k x.d=b13 at*;have Y:=λM=>Yt x a74 M;rw[a1c]at Y;have a81:=a73.ek;obtain⟨E,a16,a83,a84⟩:=c;have n9:=a84.len;have a86:x.V=.agg [ao x.d.kind,bo x.d.table,.J (bY x.d.aG) x.fN,.J (ab x.d.row) x.dh]:=rfl;rw[a86]at Y|-;clear a86;obtain⟨b52,b53,b54,b55⟩:=a74;generalize a18:x.d.kind=V at*;generalize b56:x.d.table=G at*;generalize b57:x.d.aG=l3 at*;generalize b58:x.d.row=z at*;refine aM hm Jr ?_;refine bp λa00 a19=>?_;have W:=μ (X:=.cells [ao V,bo G,.J (bY l3) x.fN,.J (ab z) x.dh]) (θ (f:=M)) a19;have aE:=ν M a00 (.cells [ao V,bo G,.J (bY l3) x.fN,.J (ab z) x.dh]);have b59:w≠a00:=by rintro rfl;rw[a83]at a19;cases a19
 generalize M.set a00 _=e at*;have F:=W _ _ a83;have S:aC (gL e) k E:=a84.mono λ_ _ c=>c.sub W;have a88:=a0O e w k ⟨E,a16,F,S⟩ G δ;have j:=κ aE;have ep:=κ F;obtain⟨a89,b14⟩:=a1m k G;have Z:ha e w k:=⟨E,a16,F,S⟩;cases cf:ew x.d with
 |false=>rw[cf]at Y;rw[if_pos cf]at h;refine bd (Y e) ?_;exact⟨_,θ,jt.of (by rw[<-h];exact Z) (ea.of W),by rw[<-h]⟩
 |true=>
  rw[cf]at Y;rw[if_neg (by rw[cf];simp)]at h;refine bd (Y e) ?_;generalize pn k G=b15 at*;refine bd a88 ?_;clear Y a88;refine aH (λbm=>?_) λbm=>?_
  .have a01:V=1:=a3Z.1 (by grind);rw[if_pos a01]at h;refine aH (λq=>?_) λq=>?_
   .rw[if_pos δ]at h;exact⟨_,θ,jt.of (by rw[<-h];exact Z) (ea.of W),by rw[<-h]⟩
   rw[if_neg δ]at h;refine aH (λc2=>?_) λc2=>?_
   .rw[if_pos δ]at h;exact⟨_,θ,jt.of (by rw[<-h];exact Z) (ea.of W),by rw[<-h]⟩
   rw[if_neg δ]at h;have b60:=a1k (a7:=k) (B:=G);have b16:=a1j (a7:=k) (B:=G);have b17:=a1l (a7:=k) (B:=G);generalize iM k G=d at*;refine eb θ (by simp[bc]) λb61 b62 a90=>?_;refine aa ?_;refine ei (g:=[]) a90 (λ_ c=>by cases c) ES (by rw[a3a,kO];omega) (by rw[a3a,kO];omega) λa27 a29 l4=>?_;rw[a3l]at l4|-;have j:=κ (l4.sub _ _ aE);refine aa ?_;refine aO λo N=>?_;have k0:(a29.set o (.cells (R.agg [bo G,.J (bY l3) a27,.J [] .nil,.v (.pointer ε),.v (.pointer ε)]).cells)) o=β (.cells [bo G,.J (bY l3) a27,.J [] .nil,.v (.pointer ε),.v (.pointer ε)]):=ν _ _ _;have k2:=ο l4.sub (μ (X:=.cells (R.agg [bo G,.J (bY l3) a27,.J [] .nil,.v (.pointer ε),.v (.pointer ε)]).cells) (θ (f:=a29)) N);have b63:w≠o:=by rintro rfl;rw[l4.sub _ _ F]at N;cases N
   refine aa ?_;have a92:eP E d (.ptr o 0) 0=[]:=by unfold eP;rw[if_pos (a3N _)];rfl
   have b18:decide (d<0)=false:=ρ;generalize a29.set o _=b19 at*;clear a90 l4 N j;refine cQ [0,3,8] (λp:Nat×Own=>[(6,.J (eP E d (.ptr o 0) p.1) p.2),(7,.v (.bool (decide (d<p.1)))),(9,.v (.int .i64 (p.1:Int)))]) (λp n=>p.1<=α k/\bj b19 n 1 (eP E d (.ptr o 0) p.1) p.2) (λp=>α k - p.1) (0,.nil) ⟨⟨a3N _,by rw[a92];exact bj.nil θ⟩,aV⟩ ?_;rintro⟨a,bC⟩ l5 ⟨l6,r⟩ a94
   dsimp only at l6 r|-
   have a95:=a1i (g:=E) (i:=d) (e:=a) (q:=.ptr o 0);have k3:=a1h (e:=d) (i:=a) (q:=.ptr o 0) S rfl;have ep:=κ (r.sub _ _ (k2 _ _ F));have b64:=κ (r.sub _ _ k0);clear a92 b18;refine aa ?_;refine aH (λaE=>?_) λaE=>?_
   .have k8:a<α k:=δ;have k4:k[a]?=β (k.getD a default):=by simp[List.getD,k8]
    obtain⟨_,k9,a30,l,a96,a97,a02,a03,rfl,s,_,_,_⟩:=S.get k4;have A:=κ (r.sub _ _ (k2 _ _ s));have a98:=(ug G (k.getD a default).name).1;rcases a6q a d with B|B|B
    .have a34:=b16 a B;have P:=a1d (q:=.ptr o 0) B k9;have b20:¬d<a:=δ;have l7:¬d<a+1:=δ;generalize eP E d (.ptr o 0) a=a04 at*;rw[a34]at a98;refine aa ?_;refine gR r k3 λ_ T L C _=>?_;exact⟨(a+1,T),⟨by simp only;omega,by simp only[P];exact C⟩,⟨by simp only[P],by simp[l7],rfl⟩,by simp only;omega⟩
    .subst B;have a34:=b17 k8;have P:=a1e (q:=.ptr o 0) k9;have b20:¬a<a:=δ;generalize eP E a (.ptr o 0) a=a04 at*;rw[a34]at a98;have l7:a<a+1:=δ;refine aa ?_;refine gR r k3 λ_ T L C _=>?_;have ep:=κ (C.sub _ _ (k2 _ _ F));refine aa ?_;refine gR C (λD a36=>by rcases a3f.1 a36 with c|c;exact k3 D c;rw[a3s]at c;subst c;rfl) λ_ T g C _=>?_;exact⟨(a+1,T),⟨by simp only;omega,by simp only[P];exact C⟩,⟨by simp only[P],by simp[l7],rfl⟩,by simp only;omega⟩
    .have P:=a1f (q:=.ptr o 0) B k9;have l7:d<a+1:=δ;generalize eP E d (.ptr o 0) a=a04 at*;refine aa ?_;refine gR r k3 λ_ T L C _=>?_;exact⟨(a+1,T),⟨by simp only;omega,by simp only[P];exact C⟩,⟨by simp only[P],by simp[l7],rfl⟩,by simp only;omega⟩
   .obtain rfl:a=α k:=δ;have a38:=a1g (g:=E) (e:=d) (q:=.ptr o 0) δ;rw[n9]at a38;have a99:=χ (r.sub _ _ (k2 _ _ F));by_cases B:d<α k
    .rw[if_pos B]at a38;refine aa ?_;have f:=ο k2 r.sub;refine⟨_,θ,jt.of ?_ (ea.of (ο W f)).set,by rw[<-h]⟩;rw[<-h];exact yR (f _ _ F) (((S.mono λ_ _ c=>c.sub f).take d).append ⟨FA (r.sub _ _ k0),(S.mono λ_ _ c=>c.sub f).drop d⟩)
    .rw[if_neg B]at a38;refine aa ?_;refine gR r k3 λ_ T L C _=>?_;have a99:=χ (C.sub _ _ (k2 _ _ F));refine aa ?_;have f:=ο k2 C.sub;refine⟨_,θ,jt.of ?_ (ea.of (ο W f)).set,by rw[<-h]⟩;rw[<-h];exact yR (f _ _ F) (((S.mono λ_ _ c=>c.sub f).take d).append ⟨FA (C.sub _ _ k0),(S.mono λ_ _ c=>c.sub f).drop d⟩)
  .have a01:¬V=1:=λD=>bm (by rw[D];rfl);rw[if_neg a01]at h;refine aH (λq=>?_) λq=>?_
   .have b21:α k<=ch k G:=by omega
    rw[if_pos b21]at h;exact⟨_,θ,jt.of (by rw[<-h];exact Z) (ea.of W),by rw[<-h]⟩
   have k8:ch k G<α k:=by omega
   obtain rfl:=a89 k8;rw[if_neg δ]at h;clear a89 b14 q;have b22:=yL k8;generalize ch k G=d at*;refine aH (λb00=>?_) λb00=>?_
   .have a05:V=2:=a3Z.1 (by grind);rw[if_pos a05]at h;have b23:([]:Χ).eraseIdx d=[]:=List.eraseIdx_nil;refine cQ [0,3,5] (λp:Nat×Own=>[(10,.J ((E.take p.1).eraseIdx d) p.2),(11,.v (.int .i64 (p.1:Int)))]) (λp n=>p.1<=α k/\bj e n 1 ((E.take p.1).eraseIdx d) p.2) (λp=>α k - p.1) (0,.nil) ⟨⟨a3N _,by grind[bj.nil,θ]⟩,aV⟩ ?_;clear b23;rintro⟨a,bC⟩ l5 ⟨l6,r⟩ a94
    dsimp only at l6 r|-
    have a95:((E.take a).eraseIdx d).length<=a:=a4f (List.length_eraseIdx_le _ _) (by rw[a2X];omega);have k3:bc 1 ((E.take a).eraseIdx d):=λD a36=>Fp S D (a3j (a5P a36));have ep:=κ (r.sub _ _ F);refine aa ?_;refine aH (λaE=>?_) λaE=>?_
    .have b24:a<α k:=δ;have k4:k[a]?=β (k.getD a default):=by simp[List.getD,b24]
     obtain⟨_,k9,a30,l,a96,a97,a02,a03,rfl,s,_,_,_⟩:=S.get k4;by_cases jg:a=d
     .subst jg;have P:=a1p (g:=E) (e:=a);generalize (E.take a).eraseIdx a=a04 at*;refine aa ?_;exact⟨(a+1,bC),⟨by simp only;omega,by simp only[P];exact r⟩,⟨by simp only[P],rfl⟩,by simp only;omega⟩
     .have P:=a1o (i:=d) k9 jg;generalize (E.take a).eraseIdx d=a04 at*;have b65:¬(a:Int)=(d:Int):=δ;refine aa ?_;refine gR r k3 λ_ T L C _=>?_;exact⟨(a+1,T),⟨by simp only;omega,by simp only[P];exact C⟩,⟨by simp only[P],rfl⟩,by simp only;omega⟩
    .obtain rfl:a=α k:=δ;rw[<-n9,a3K]at r|-;have a99:=χ (r.sub _ _ F);refine aa ?_;have f:=r.sub;refine⟨_,θ,jt.of ?_ (ea.of (ο W f)).set,by rw[<-h]⟩;rw[<-h];exact yR (f _ _ F) ((S.mono λ_ _ c=>c.sub f).erase d)
   .have a05:¬V=2:=λD=>b00 (by rw[D];rfl);rw[if_neg a05]at h;have b25:k[d]?=β (k.getD d default):=by simp[List.getD,k8]
    have t:=a73.ok _ b22;obtain⟨_,k9,a30,l,a96,a97,a02,a03,rfl,s,b01,a42,a43⟩:=S.get b25;have A:=κ s;have b66:=a42.cells;have gN:=a43.cells;have b67:=t.c;have b26:=λy c=>t.row (n:=y) c;have b68:=t.ek;have b69:=b01.len;generalize b70:k.getD d default=b at*;have b71:=kO (j4:=b.aG);have b72:=bK (n:=z);refine aa ?_;refine aH (λq=>?_) λq=>?_
    .rw[if_pos δ]at h;exact⟨_,θ,jt.of (by rw[<-h];exact Z) (ea.of W),by rw[<-h]⟩
    rw[if_neg δ]at h;have l8:α z=α b.aG+1:=δ;have b27:=lR (n:=z) δ x.dh;rw[show z.getD 0 0=bU z from rfl]at b27;have b28:decide (z∈([]:List Ρ))=false:=ρ;refine cQ [0,3,5,12] (λp:Nat×Χ×Own=>[(13,.J p.2.1 p.2.2),(14,.v (.bool (decide (z∈b.rows.take p.1)))),(15,.v (.int .i64 (p.1:Int)))]) (λp n=>p.1<=α b.rows/\bj e n 1 p.2.1 p.2.2/\aC isRow ((b.rows.take p.1).filter λy=>decide (y≠z)) p.2.1/\(V=3->∀y∈b.rows.take p.1,bU y≠bU z)) (λp=>α b.rows - p.1) (0,[],.nil) ⟨⟨a3N _,bj.nil θ,trivial,λ_ y c=>by cases c⟩,aV⟩ ?_;clear b28;rintro⟨a,O,bC⟩ l5 ⟨l6,r,i,a06⟩ a94
    dsimp only at l6 r i a06|-
    have A:=κ (r.sub _ _ s);have j:=κ (r.sub _ _ aE);have a95:α O<=a:=by rw[i.len];grind
    refine aa ?_;refine aH (λba=>?_) λba=>?_
    .have b02:a<α b.rows:=δ;have k4:b.rows[a]?=β (b.rows.getD a []):=by simp[List.getD,b02]
     obtain⟨_,P,a07,rfl⟩:=b01.get k4;have b73:=(b26 _ (a3d k4)).len;have l9:=iy (a:=b.rows) (b:=[]) (e:=a) b02;have b29:b.rows.getD a []∈b.rows:=a3d k4;generalize b.rows.getD a []=y at*;have b30:=lR (n:=y) δ a07;rw[show y.getD 0 0=bU y from rfl]at b30;refine aa ?_;refine aH (λbx=>?_) λbx=>?_
     .refine aH (λb03=>?_) λb03=>?_
      .have n0:V=3:=a3Z.1 (by grind);rw[if_neg (by rw[n0];decide),if_pos (a5Z.2 ⟨y,b29,decide_eq_true bx⟩)]at h;exact⟨_,θ,jt.of (by rw[<-h];exact Z.sub r.sub) (ea.of (ο W r.sub)),by rw[<-h]⟩
      have b74:¬V=3:=λD=>b03 (by rw[D];rfl);refine bd (s4 y z a07 x.dh _ δ) ?_;refine aH (λcd=>?_) λa08=>?_
      .subst cd;exact⟨(a+1,O,bC),⟨by simp only;omega,r,by simp_all,λc=>absurd c id⟩,⟨rfl,by simp[l9],rfl⟩,by simp only;omega⟩
      refine gR r (i.cells λ_ _=>φ) λ_ T L C _=>?_;refine⟨(a+1,O++[.J (ab y) a07],T),⟨by simp only;omega,C,by simp only[l9,a5O];rw[a5Y,if_pos (by simpa using a08),a6K];exact i.snoc ⟨_,rfl⟩,λn0 b04 a47=>?_⟩,⟨rfl,by grind,rfl⟩,by simp only;omega⟩;exact False.elim n0
     .have a08:y≠z:=λD=>bx (by rw[D]);refine gR r (i.cells λ_ _=>φ) λ_ T L C _=>?_;refine⟨(a+1,O++[.J (ab y) a07],T),⟨by simp only;omega,C,by simp only[l9,a5O];rw[a5Y,if_pos (by simpa using a08),a6K];exact i.snoc ⟨_,rfl⟩,λn0 b04 a47=>?_⟩,⟨rfl,by simp only[l9,a3f,a3s];congr 2;exact decide_eq_decide.2 ⟨.inl,λc=>c.resolve_right λD=>a08 D.symm⟩,rfl⟩,by simp only;omega⟩;rw[l9]at a47;rcases a3f.1 a47 with c|c
      .exact a06 n0 b04 c
      .obtain rfl:=a3s.1 c;exact bx
    .obtain rfl:a=α b.rows:=δ;rw[a3K]at i a06|-;refine aO λo N=>?_;have u:=Μ r.sub N;have k0:(l5.set o (.cells (R.agg [bo b.name,.J (bY b.aG) l,.J [] .nil,.v (.pointer ε),.v (.pointer ε)]).cells)) o=β (.cells [bo b.name,.J (bY b.aG) l,.J [] .nil,.v (.pointer ε),.v (.pointer ε)]):=ν _ _ _;have a48:=μ (X:=.cells (R.agg [bo b.name,.J (bY b.aG) l,.J [] .nil,.v (.pointer ε),.v (.pointer ε)]).cells) (θ (f:=l5)) N;have b75:a00≠o:=by rintro rfl;rw[aE]at u;cases u
     have b76:a30≠o:=by rintro rfl;rw[s]at u;cases u
     have b77:w≠o:=by rintro rfl;rw[F]at u;cases u
     refine aa ?_;have l0:=ο r.sub a48;have b31:=a48;generalize l5.set o _=b05 at*;clear N a48;have A:=κ (l0 _ _ s);have j:=κ (l0 _ _ aE);have b78:=a1n V 4;refine aa ?_;refine nA [0,3,5,12,16] (λ_:Unit=>[]) (λ_ n=>∃a09,b13=(0,k.set d a09)/\a09.name=b.name/\gL n a09 (.ptr o 0)/\e.sub n) (λq=>?_) (λq=>?_) ?_
     .have a10:V=4:=a3Z.1 (by have c:=of_decide_eq_true q;have:(4:UInt8).toNat=4:=rfl;omega);rw[if_pos a10]at h;have aI:=χ k0;refine aa ?_;refine aH (λcd=>?_) λcd=>?_
      .rw[if_neg cd]at h;exact⟨_,θ,jt.of (by rw[<-h];exact Z.sub l0) (ea.of (ο W l0)),by rw[<-h]⟩
      .have b32:=cd;rw[if_pos b32]at h;clear cd;generalize k5:b05.set o _=L;have a52:L o=β (.cells [bo b.name,.J (bY b.aG) l,.J O bC,.v (.pointer ε),.v (.pointer ε)]):=by subst k5;exact ν _ _ _
       have H:e.sub L:=by subst k5;exact μ l0 u
       clear k5 aI k0;refine ak (Yl (α b.aG+1) δ δ z x.dh l8 b.cc a02 L (a42.mono H) t.eX.hy.ok (by have:=t.eX.cn;omega)) ?_;rintro _ a11⟨m,k6,rfl,k7⟩;have n1:=m _ _ a52;have aI:=χ n1;have b33:=k7.cells;have A:=κ (m _ _ (H _ _ s));have j:=κ (m _ _ (H _ _ aE));refine aa ?_;generalize I:a11.set o _=g;have a56:g o=β (.cells [bo b.name,.J (bY b.aG) l,.J O bC,k6,.v (.pointer ε)]):=by subst I;exact ν _ _ _
       have n2:e.sub g:=by subst I;exact μ (ο H m) u
       have a57:dJ g (kM (α b.aG+1) z b.cc).1 k6:=by subst I;exact k7.hB (n:=5) Λ (hA.set n1 rfl)
       clear I aI A j;refine ak (a0I (e:=α b.aG+1) δ δ z x.dh ⟨l8,X⟩ b.cE a03 g (a43.fG (U.rz n2)) t.go) ?_;rintro _ l1⟨K,a61,b34,rfl,n3⟩;have v:=K _ _ a56;have aI:=χ v;have b35:=n3.cells;refine aa ?_;exact⟨(),b.del z,h.symm,rfl,⟨o,l,O,bC,k6,a61,rfl,ν _ _ _,i,(a57.mono K).hB (n:=5) Λ (hA.set v rfl),n3.hB (n:=5) Λ (hA.set v rfl)⟩,ο n2 K⟩
     .have a10:¬V=4:=λD=>(of_decide_eq_false q) (by rw[D];rfl);rw[if_neg a10]at h;have b36:V=3:=by have:=yO cf (by rw[a18];exact a01) (by rw[a18];exact a05);rw[a18]at this;exact this.resolve_right a10
      have b06:=a06 b36;rw[if_neg (λc=>by
       obtain⟨y,X,D⟩:=a5Z.1 c;exact b06 y X (of_decide_eq_true D))]at h
      have b37:b.rows.filter (λy=>decide (y≠z))=b.rows:=a6j.2 λy X=>decide_eq_true λD=>b06 y X (by rw[D]);rw[b37]at i;have b79:=i.len;refine aa ?_;refine eb θ (by simp[bc]) λT L C=>?_;have j:=κ (C.sub _ _ (l0 _ _ aE));refine aa ?_;refine ei (g:=[]) C (λ_ c=>by cases c) (by simp[bc,ab,τ]) (by simp[bK];omega) (by simp[bK];omega) λb07 a11 m=>?_;rw[a3l];refine aa ?_;refine eb θ (by simp[bc,τ]) λb80 g a81=>?_;refine aa ?_;have b08:b05.sub g:=ο m.sub a81.sub;refine wk (r.mono (ο b31 b08)) (i.cells λ_ _=>φ) (by simp[bc,τ]) Κ Κ λb38 l1 K b39=>?_;have v:=b39 _ _ (b08 _ _ k0);have b40:aC isRow (b.rows++[z]) (O++[.J (ab z) b07]):=i.snoc ⟨b07,rfl⟩;have b41:∀y∈b.rows++[z],bF (α b.aG+1) y:=λy c=>by
       rcases a3f.1 c with c|c
       .exact t.row c
       .obtain rfl:=a3s.1 c;exact⟨l8,X⟩
      refine aa ?_;refine ak (a0Y (b.rows++[z]) _ b38 .nil (α b.aG+1) l1 b40 b41 δ δ Κ) ?_;rintro _ a62⟨b09,a63,a65,b42,rfl⟩;have b10:=b09 _ _ v;have aI:=χ b10;have a68:e.sub a62:=ο K.sub b09;have A:=κ (a68 _ _ s);have j:=κ (a68 _ _ aE);refine aa ?_;generalize k5:a62.set o _=L;have a52:L o=β (.cells [bo b.name,.J (bY b.aG) l,.J a63 a65,.v (.pointer ε),.v (.pointer ε)]):=by subst k5;exact ν _ _ _
      have H:e.sub L:=by subst k5;exact μ a68 u
      clear k5 aI A j v b10;refine ak (xz (α b.aG+1) δ δ z x.dh l8 b.cc a02 0 L L (a42.mono H) θ t.eX.hy.ok (by have:=t.eX.cn;omega)) ?_;rintro _ a11⟨m,k6,rfl,k7⟩;have k7:=k7.mono qn;have n1:=m _ _ a52;have aI:=χ n1;have b33:=k7.cells;have A:=κ (m _ _ (H _ _ s));have j:=κ (m _ _ (H _ _ aE));refine aa ?_;generalize I:a11.set o _=g;have a56:g o=β (.cells [bo b.name,.J (bY b.aG) l,.J a63 a65,k6,.v (.pointer ε)]):=by subst I;exact ν _ _ _
      have n2:e.sub g:=by subst I;exact μ (ο H m) u
      have a57:dJ g (cO (α b.aG+1) z b.cc 0).1 k6:=by subst I;exact k7.hB (n:=5) Λ (hA.set n1 rfl)
      clear I aI A j;refine ak (Y9 (e:=α b.aG+1) δ δ z x.dh ⟨l8,X⟩ b.cE a03 g (a43.fG (U.rz n2)) t.go) ?_;rintro _ l1⟨K,a61,b34,rfl,n3⟩;have v:=K _ _ a56;have aI:=χ v;have b35:=n3.cells;refine aa ?_;exact⟨(),b.put z,h.symm,rfl,⟨o,l,a63,a65,k6,a61,rfl,ν _ _ _,b42,(a57.mono K).hB (n:=5) Λ (hA.set v rfl),n3.hB (n:=5) Λ (hA.set v rfl)⟩,ο n2 K⟩
     .rintro _ l1⟨a09,b81,b82,b43,l2⟩b83;have ep:=κ (l2 _ _ F);refine aa ?_;rw[rq];refine aa ?_;have b44:=a1q (u:=l1) (O:=a16) S;refine fx (aw.zero θ) δ b44 δ Κ Κ λb15 a62 a13=>?_;rw[a3l]at a13;obtain⟨Q,n4,n5,a14,rfl,a15,b45,b46,b11,hm,b84,_⟩:=a13.aq (λD=>by rw[D]at n9;simp at n9;omega);rw[a3M]at b46 b11 hm;have b85:cJ 1 (.aq Q n4 n5 1) (.v (.int .i64 (d:Int)))=β (.ptr Q d):=by have:=jL (e:=1) (i:=Q) (v:=n4) (M:=n5) (e0:=.i64) (b1:=(d:Int)) δ δ;simpa using this
      have b86:=χ b45;have b47:=a13.1 _ _ (l2 _ _ F);have b48:w≠Q:=by rintro rfl;rw[l2 _ _ F]at a15;cases a15
      have b87:=χ b47;have b88:(R.aq Q n4 n5 1).cells=[.aq Q n4 n5 1]:=rfl;have b89:d+1<=α a14:=δ;refine aa ?_;have b12:putAt a14 d [R.ptr o 0]=a14.set d (.ptr o 0):=by rw[a4e,if_pos δ];unfold putAt;rw[a3o];rfl
      refine⟨_,θ,l1,E.set d (.ptr o 0),aC.set d (S.mono λ_ _ c=>c.sub l2) b43,⟨_,l2 _ _ F⟩,ea.of (ο W l2),λb49 b90 b50 a69=>?_,.inr ⟨Q,n4,n5,putAt a14 d [.ptr o 0],a15,ν _ _ _,?_,?_,?_⟩⟩
      .have:b49≠Q:=by rintro rfl;rw[a15]at a69;cases a69
       rw[ξ _ _ b50,ξ _ _ this];exact a13.1 _ _ a69
      .rw[ξ _ _ b48.symm,ν]
      .rw[b12,a5K];omega
      .rw[b12,lE,List.take_set,b11]
def a1s(p:U)(a r:Nat)(d:List bk)(b:ha p a d)(j:dZ r d)(l:r<900)(c:df)(m:c.d.Fit)(n:dc c.d.row):
  AC γ 28 [.ptr a 0,c.V] p λP h=>ha h a (gK d c.d).2/\ea a p h/\P=.v (.int .i64 (gK d c.d).1):=
 (a1r p a r d b j l c m n).view λP h b=>by
  obtain⟨⟨x,S,T,⟨v,V⟩,W,y,z⟩,rfl⟩:=b;have e:∀C,ea a x C->hA 1 x C:=λC D k E o q=>D k _ (by rintro rfl;rw[V]at o;obtain rfl:=bl.cells.inj (Δ o);exact q rfl) o;rcases z with⟨F,z⟩|⟨k,s,w,E,G,t,o,hm,D⟩
  .exact⟨_,h,View.refl,⟨S,F,z,T.mono λ_ _ b=>b.hB (e _ y)⟩,W.trans y,rfl⟩
  .have u:a≠k:=by rintro rfl;rw[V]at G;cases G
   have f:ea a x ((h.set k (.ro E)).set a (.cells ([]++ .J (ez 1 s E) .any::[]))):=λg F i L=>by
    have:g≠k:=by rintro rfl;rw[G]at L;cases L
    rw[ξ _ _ i,ξ _ _ this];exact y g F i L
   exact⟨_,_,View.obj (A:=[]) t o δ u,⟨S,.any,by rw[ν,D];rfl,T.mono λ_ _ b=>b.hB (e _ f)⟩,W.trans f,rfl⟩
def uH:(b:Nat)->a1.T b->List Τ->List Τ
 |0,c,a=>eL a (bN 0 c).sum
 |b+1,c,a=>(a1.kids c).foldl (λa d=>uH b d a) (eL a (bN (b+1) c).sum)
def ee.kids{d a:Nat}{b:a1.T (a+1)}(h:ee d (a+1) b):∀c∈a1.kids b,ee d a c:=λc k=>(ee.gk (d:=a1.kids b) h c k).1
def kZ(a:List df):Χ:=a.map df.V
def yS{a:List df}:(kZ a).length=α a:=by simp[kZ]
def FB{a:List df}{b:df}(c:a[e]?=β b):eJ 4 (kZ a)[e]?=β (.bR b.C):=by obtain⟨d,rfl⟩:=a2Z.1 c;rw[show(kZ a)[e]?=β (a[e]).V by simp[kZ,d]];rfl
structure uI(a:ad)(l:List aU)(cF:List bk):Prop where
 eq:l=cF.map bk.cq
 ins:∀t∈cF,dL a t.cc/\kY a t.cE
theorem FC{b c:ad->Except Int an×ad}(r:∀a:ad,a.le (b a).2)(x:∀a:ad,a.le (c a).2)(a:ad)(y:List aU)(z:aU):a.le (fV b c a y z).2.2:=by
 unfold fV;have d:=r a;generalize b a=h at*;obtain⟨k,o⟩:=h;cases k with
 |error C=>exact d
 |ok D=>
  have p:=x o
  dsimp only
  generalize c o=h at*;obtain⟨k,E⟩:=h;cases k with
  |error C=>exact d.trans p
  |ok F=>exact d.trans p
def FD(G:dZ e a7)(L:e<=1000){b a:bk}(P:eH i a)(S:i<=1000)(z:a.name=b.name)(T:a.aG=b.aG)(V:ch a7 b.name<α a7){d c:ad->Except Int an×ad}
  (x:fD H a.cc (d H)) (k:∀h:ad,H.le h->h.one=ι->pj h a.cE (c h)) (W:∀h:ad,h.le (c h).2) (o:(fV d c H (a7.map bk.cq) b.cq).2.2.one=ι):
  (fV d c H (a7.map bk.cq) b.cq).1=0/\(fV d c H (a7.map bk.cq) b.cq).2.1=(a7.set (ch a7 b.name) a).map bk.cq/\H.le (fV d c H (a7.map bk.cq) b.cq).2.2/\dL (fV d c H (a7.map bk.cq) b.cq).2.2 a.cc/\kY (fV d c H (a7.map bk.cq) b.cq).2.2 a.cE:=by
 unfold fV at o|-;generalize d H=p at*;obtain⟨y,r⟩:=p;cases y with
 |error f=>cases (x.ins o).1
 |ok g=>
  dsimp only at o|-
  have D:=W r;have E:r.one=false:=by
   revert o;generalize c r=p at*;obtain⟨y,j⟩:=p;cases y with
   |error f=>exact λC=>D.zero C
   |ok g=>exact λC=>D.zero C
  obtain⟨l,m⟩:=x.ins E;obtain rfl:=Except.ok.inj l;have k:=k r x.le E;generalize c r=p at*;obtain⟨y,j⟩:=p;obtain rfl:=k.ok
  dsimp only at o|-
  have F:=q8 G L P S (by rw[z];exact V);have n:a.cq=⟨b.cq.name,b.cq.aG,bD a.cc,kX a.cE⟩:=by show(⟨a.name,a.aG,bD a.cc,kX a.cE⟩:aU)=⟨b.name,b.aG,bD a.cc,kX a.cE⟩;rw[z,T]
  rw[n,z]at F;rw[F];exact⟨rfl,rfl,x.le.trans k.le,m.mono k.le,k.ins o⟩
def a1t(a:ad)(b:an):a.le (qD e n a b).2:=yi _ _ _ _
variable{e7:List aU}
theorem a1u{b:Int×List aU×ad}(a:o8 H e7 e8 b):H.le b.2.2:=by
 unfold o8 at a;split at a
 .rw[a];exact ad.le_refl
 split at a
 .rcases a with⟨_,rfl⟩|⟨rows,_,_,⟨_,rfl⟩|⟨_,rfl⟩⟩
  .exact ad.le_refl
  .exact FC (λH=>a1t _ _) (λH=>Ep) _ _ _
  .exact ad.le_refl
 .rw[a];exact ad.le_refl
theorem a1v:H.le (kl H e7 e8).2.2:=by grind[kl,ad.le_refl,FC,ZQ,Et]
theorem a1w{a:Int×List aU×ad}(b:hz H e7 e8 a):H.le a.2.2:=by grind[hz,ad.le_refl,a1u,a1v]
theorem yT{b:Except Int (List aU)}(c:cK e7=η)(d:∀a,b=.ok a->cK a=η):cK (ia b e7).2=true:=by
 cases b with
 |error h=>exact c
 |ok a=>exact d a rfl
variable{h4:aU}
theorem FE{a b:ad->Except Int an×ad}(c:cK e7=η):cK (fV a b H e7 h4).2.1=true:=by grind[fV,yT,F5]
theorem a1x{c:Int×List aU×ad}(b:cK e7=η)(a:hz H e7 e8 c):cK c.2.1=true:=by
 unfold hz at a;split at a
 .rw[a];exact b
 split at a
 .rw[a];exact yT b λd a=>F8 a
 split at a
 .rw[a];exact yT b λd a=>F4 b a
 split at a
 .unfold o8 at a;split at a
  .rw[a];exact b
  split at a
  .rcases a with⟨_,rfl⟩|⟨rows,_,_,⟨_,rfl⟩|⟨_,rfl⟩⟩
   .exact b
   .exact FE b
   .exact b
  .rw[a];exact b
 grind[kl,FE]
def a1y(c:cK e7=η):∀a∈e7,a.Fit:=λa d=>by
 have b:=(sr c).1 a d;exact⟨by have:=b.n;omega,by have:=b.c;omega,λh k=>by have:=b.cs h k;omega⟩
theorem FF{d:Int×List aU×ad}(a:hz H e7 e8 d)(x:dZ e a7)(K:e<900)(p:dc e8.row)(u:uI H e7 a7)(S:d.2.2.one=ι):
  d.1=(gK a7 e8).1/\uI d.2.2 d.2.1 (gK a7 e8).2:=by
 obtain⟨rfl,y⟩:=u;have u:uI H (a7.map bk.cq) a7:=⟨rfl,y⟩;unfold hz at a;unfold gK;by_cases M:ew e8=ι;simp_all;rw[if_neg M]at a|-;have f:ew e8=true:=by simp_all
 by_cases z:e8.kind=1
 .rw[if_pos z]at a|-;have N:=Fu f z;rw[add_eq x δ N]at a;by_cases c2:ch a7 e8.table<α a7
  .rw[if_pos c2]at a|-;rw[a];trivial
  rw[if_neg c2]at a|-;by_cases aE:7<α a7
  .rw[if_pos aE]at a|-;rw[a];trivial
  rw[if_neg aE]at a|-;rw[a];refine⟨rfl,rfl,λb c=>?_⟩;simp only[a3f,a3n]at c;rcases c with c|rfl|c;grind
  .trivial
  grind
 rw[if_neg z]at a|-;by_cases aE:e8.kind=2
 .rw[if_pos aE]at a;rw[Fw x δ]at a;by_cases c2:ch a7 e8.table<α a7
  .rw[if_pos c2]at a;rw[if_neg δ,if_pos aE,a];exact⟨rfl,rfl,λb c=>y b (a5P c)⟩
  .rw[if_neg c2]at a;rw[if_pos δ,a];trivial
 rw[if_neg aE]at a;by_cases c2:α a7<=ch a7 e8.table
 .rw[if_pos c2];have g:(a7.map bk.cq).find? (λb=>decide (b.name=e8.table))=none:=by rw[Fm,a6W c2];rfl
  rcases yO f z aE with k|k
  .rw[if_pos k]at a;unfold o8 at a;simp_all
  .rw[if_neg (by rw[k];decide)]at a;unfold kl o7 at a;simp_all
 rw[if_neg c2,if_neg aE];have C:ch a7 e8.table<α a7:=δ;have w:=yL C;have c:=x.ok _ w;have T:=uG C;have g:(a7.map bk.cq).find? (λb=>decide (b.name=e8.table))=β (a7.getD (ch a7 e8.table) default).cq:=by rw[Fm,a3L,Ν C];rfl
 generalize a7.getD (ch a7 e8.table) default=b at*;have k6:=c.c;obtain⟨D,A⟩:=y b w;have k7:=c.eX.cn;have V:∀W:bk,dL d.2.2 W.cc/\kY d.2.2 W.cE->H.le d.2.2->∀v∈a7.set (ch a7 e8.table) W,dL d.2.2 v.cc/\kY d.2.2 v.cE:=λW E r v O=>by
  rcases a4T O with h|rfl
  .exact⟨(y v h).1.mono r,(y v h).2.mono r⟩
  .exact E
 rcases yO f z aE with k|k
 .rw[if_pos k]at a;rw[if_neg (show¬e8.kind=4 by rw[k];decide)];unfold o8 at a;rw[g]at a
  dsimp only at a
  by_cases aL:α e8.row=α b.aG+1
  .rw[if_neg (show¬α e8.row≠α b.aG+1 from λh=>h aL)];rw[if_pos (show α e8.row=α b.cq.aG+1 from aL)]at a;have i:bF (α b.aG+1) e8.row:=⟨aL,p⟩;rcases a with⟨F,_⟩|⟨rows,Q,_,a⟩
   .exact absurd F (a0r (e:=α b.aG+1) δ δ c.eX.hy δ D)
   have X:=a0t δ δ c.eX.hy δ D Q;have Y:rows=[]↔ ¬b.rows.any (λG=>decide (bU G=bU e8.row))=true:=by
    rw[X,a5Z];constructor
    .rintro h⟨G,p,o⟩;exact h G (c.fc.mem_iff.2 p) ((F3 δ (c.row p)).2 (of_decide_eq_true o))
    .intro h Z k0 L;have B:=c.fc.mem_iff.1 k0;exact h ⟨Z,B,decide_eq_true ((F3 δ (c.row B)).1 L)⟩
   rcases a with⟨o,a⟩|⟨o,a⟩
   .have I:=Y.1 o;rw[if_neg I];obtain⟨E,j,l⟩:=c.put K i λG p o=>I (a5Z.2 ⟨G,p,decide_eq_true o⟩);have F:=ZR δ δ i c.eX.hy δ D j;rw[a]at S V|-;have L:=FD (b:=b) x δ E δ rfl rfl (by rw[T];exact C) (d:=λH=>qD (α b.aG+1) e8.row H (bD b.cc)) F (λm r k2=>a0B δ δ i c.go (A.mono r) l) (λm=>Ep) S;obtain⟨n,P,q,s,t⟩:=L;rw[T]at P;exact⟨n,P,V _ ⟨s,t⟩ q⟩
   grind
  .rw[if_neg (show¬α e8.row=α b.cq.aG+1 from aL)]at a;grind
 .rw[if_neg (by rw[k];decide)]at a;rw[if_pos k];unfold kl o7 at a;rw[g]at a
  dsimp only at a
  by_cases aL:α e8.row=α b.aG+1
  .rw[if_neg (show¬α e8.row≠α b.aG+1 from λh=>h aL)];rw[if_pos (show α e8.row=α b.cq.aG+1 from aL)]at a
   dsimp only at a
   rw[if_pos rfl]at a;by_cases bx:e8.row∈b.rows
   .rw[if_pos bx];obtain⟨E,j,l⟩:=c.del bx;have F:=ZT δ δ c.eX.hy δ D j;rw[a]at S V|-;have L:=FD (b:=b) x δ E δ rfl rfl (by rw[T];exact C) (d:=λH=>iI (α b.aG+1) e8.row H (bD b.cc)) F (λm r k2=>a0G δ δ (c.row bx) c.go (A.mono r) l) (λm=>Et) S;obtain⟨n,P,q,s,t⟩:=L;rw[T]at P;exact⟨n,P,V _ ⟨s,t⟩ q⟩
   .rw[if_neg bx];have k3:=ZS δ δ c.eX.hy δ D (c.none aL bx);have k4:d=(9,a7.map bk.cq,H):=by
     rw[a];unfold fV;show(match iI (α b.aG+1) e8.row H (bD b.cc)with
      |(.error o,k5)=> _
      |(.ok k8,k5)=> _)= _
     rw[k3]
    rw[k4];trivial
  .rw[if_neg (show¬α e8.row=α b.cq.aG+1 from aL)]at a;simp_all
inductive uJ:ad->List aU->List de->Int×List aU×ad->Prop
 |nil (a:ad) (l:List aU):uJ a l [] (0,l,a)
 |stop {a:ad}{l:List aU}{d:de}{cF:List de}{res:Int×List aU×ad}:hz a l d res->res.1≠0->uJ a l (d::cF) res
 |step {a:ad}{l:List aU}{d:de}{cF:List de}{res b:Int×List aU×ad}:hz a l d res->res.1=0->uJ res.2.2 res.2.1 cF b->uJ a l (d::cF) b
def eI(c:ad)(d:Nat):Nat->an->List Τ->List Τ
 |0,_,a=>a
 |h+1,b,a=>if b=aB then a else match dn c d b with
   |none=>eL a b.sum
   |some k=>k.kids.foldl (λa o=>eI c d h o a) (eL a b.sum)
inductive lX(a:ad)(d:Nat):an->Prop
 |nil:lX a d aB
 |node {k:an}{n:bQ} (h:dn a d k=β n) (aS:n.In d) (hk:∀c∈n.kids,lX a d c):lX a d k
def la(k:ad)(d:List Τ)(o:Nat):Prop:=∀a b c,1<=a->a<=8->dn k a b=β c->c.In a->b.sum∈d->bO b<o->∀h∈c.kids,h≠aB->h.sum∈d
def la.le{v:Nat}(a:la H j4 e)(x:v<=e):la H j4 v:=λb c d h k o p r y=>a b c d h k o p r δ
def po{a:Τ}:B∈eL j4 a↔B∈j4\/B=a:=by
 unfold eL;split
 .rename_i b;constructor
  .exact .inl
  .rintro(c|rfl);exact c;exact b
 .simp
def FG{d:Type}{h:List Τ->d->List Τ}{b:List Τ}:∀(c:List d),(∀a∈c,h b a=b)->c.foldl h b=b
 |[],_=>rfl
 |a::c,k=>by rw[a3I,k a ρ];exact FG c λa o=>k a (by simp[o])
variable{w j0:an}{b3:bQ}
def ss(a:dn H e j0=β b3)(b:w∈b3.kids):bO w<bO j0:=by
 have d:=(E8 a).1;have h:bO w<=(b3.kids.map bO).sum:=by obtain⟨k,o,c⟩:=a5f b;rw[c,a3V,a3q,a6J,a4X];omega
 omega
def FH{k:ad}{c:Nat}(x:1<=c)(y:c<=8){b:List Τ}{z:Nat}(C:la k b z):∀(d:Nat)(a:an),lX k c a->bO a<d->bO a<z->(a≠aB->a.sum∈b)->eI k c d a b=b
 |0,_,_,S,_,_=>by omega
 |d+1,a,D,T,hw,hk=>by
  rw[eI];by_cases h:a=aB
  .rw[if_pos h]
  rw[if_neg h];cases D with
  |nil=>exact absurd rfl h
  |node o E F=>
   rename_i G;rw[o];have hm:=hk h;have L:eL b a.sum=b:=by rw[eL,if_pos hm]
   simp only[L];exact FG _ λp r=>by
    have:=ss o r;exact FH x y C d p (F p r) δ δ λP=>C c a G x y o E hm hw p r P
def FI(h:ad)(b:Nat)(k o:List Τ)(p:Nat):Prop:=∀c∈o,c∈k\/∃a d,dn h b a=β d/\d.In b/\a.sum=c/\bO a<p
def FJ(o:ad):Prop:=∀a b c d h k,1<=a->a<=8->1<=b->b<=8->dn o a c=β h->h.In a->dn o b d=β k->k.In b->c.sum=d.sum->c=d/\h=k
def FK(x:e<=8)(d:b3.In e):mF 8 (da b3)=(b3,⟨[],0⟩):=by
 obtain⟨o,y,z⟩:=kF d.ok;have p:(ς (α b3.rows)).toNat=α b3.rows:=by rw[a4n];omega
 have r:(ς (α b3.kids)).toNat=α b3.kids:=by rw[a4n];omega
 unfold mF da;simp only[qa,p];rw[rK (hM 8) iY (λb=>α b.1=e/\dc b.1) (λb h c=>C0 b 8 h δ δ c.2) b3.rows [] _ (λb c=>⟨o b c,d.rows b c⟩)];simp only[qa,r];have:=rK (gT 8) iZ (λk=>k.In e) (λk h a=>C4 k 8 δ h ⟨a.sum,a.aT,a.aS,a.key,by have:=a.C1;omega,by have:=a.C2;omega,by have:=a.C3;omega,a.rI,a.live,a.rJ,a.size⟩) b3.kids [] [] d.kids;rw[a3Y]at this;rw[this];rfl
def yU(a:dn H e w=β b3):H.m w.sum=β (da b3):=by
 unfold dn at a;split at a
 .cases a
 .rename_i d b;split at a
  .cases a
  .rename_i h hm;split at a
   .obtain rfl:=Δ a;unfold nG at hm;split at hm
    .rename_i c;obtain rfl:=Δ hm;rw[c.2.2];exact b
    .cases hm
   .cases a
def FL(h:ad):FJ h:=λE F G L k o _ p _ r a x b y z=>by
 have c:=yU a;have C:=yU b;rw[z,C]at c;have d:=FK p x;have D:=FK r y;rw[<-Δ c,D]at d;obtain rfl:o=k:=(a6P d).1;exact⟨(qi a).eq.trans (qi b).eq.symm,rfl⟩
structure FM(a:ad)(d:Nat)(z:Nat)(k:an)(t:List Τ)(w:Nat):Prop where
 eq:fC a d mV z k t=(0,eI a d z k t)
 cl:la a (eI a d z k t) w
 has:k≠aB->k.sum∈eI a d z k t
 sub:∀x∈t,x∈eI a d z k t
 nw:FI a d t (eI a d z k t) (bO k+1)
def FN{c:ad}{d o x:Nat}(ih:∀r a z,lX c d r->bO r<o->bO r<z->la c a z->FM c d o r a z):∀(p:List an)(a:List Τ),(∀b∈p,lX c d b/\bO b<o/\bO b<x)->la c a x->
  lT (fC c d mV o) p a=(0,p.foldl (λa b=>eI c d o b a) a)/\la c (p.foldl (λa b=>eI c d o b a) a) x/\(∀b∈p,b≠aB->b.sum∈p.foldl (λa b=>eI c d o b a) a)/\(∀h∈a,h∈p.foldl (λa b=>eI c d o b a) a)/\FI c d a (p.foldl (λa b=>eI c d o b a) a) x
 |[],a,_,C=>⟨rfl,C,(λb D=>by cases D),λh k=>k,λh k=>.inl k⟩
 |b::p,a,hk,C=>by
  obtain⟨G,L,P⟩:=hk b ρ;obtain⟨S,T,V,W,e⟩:=ih b a x G L P C;obtain⟨f,c2,g,E,i⟩:=FN ih p (eI c d o b a) (λb D=>hk b (by simp[D])) T;simp only[lT,a3I,S,if_true];refine⟨f,c2,λh k F=>?_,λh k=>E h (W h k),λh k=>?_⟩
  .rcases a3n.1 k with rfl|k
   .exact E _ (V F)
   .exact g h k F
  .rcases i h k with y|y
   .rcases e h y with y|⟨r,j,l,m,n,q⟩
    .exact .inl y
    .exact .inr ⟨r,j,l,m,n,δ⟩
   .exact .inr y
def yV{r:ad}(f:FJ r){o:Nat}(S:1<=o)(T:o<=8):∀(x:Nat)(b:an)(d:List Τ)(P:Nat),lX r o b->bO b<x->bO b<P->la r d P->FM r o x b d P
 |0,_,_,_,_,c,_,_=>by omega
 |x+1,b,d,P,t,A,hw,V=>by
  by_cases p:b=aB
  .have h:eI r o (x+1) b d=d:=by rw[eI,if_pos p]
   exact⟨by rw[fC,if_pos p,h],by rw[h];exact V,λc=>absurd p c,λk a=>by rw[h];exact a,λk a=>by rw[h]at a;exact .inl a⟩
  by_cases hm:b.sum∈d
  .have h:=FH S T V (x+1) b t A hw λ_=>hm;refine⟨?_,by rw[h];exact V,λ_=>by rw[h];exact hm,λk a=>by rw[h];exact a,λk a=>by rw[h]at a;exact .inl a⟩;rw[fC,if_neg p,h,mV,decide_eq_false (λc=>c hm)];simp[eL,hm]
  cases t with
  |nil=>exact absurd rfl p
  |node y i B=>
   rename_i W;have N:eL d b.sum=d++[b.sum]:=by rw[eL,if_neg hm]
   have H:la r (eL d b.sum) (bO b):=λz C D E F G L g u k a e=>by
    rcases po.1 g with c|c
    .exact po.2 (.inl (V z C D E F G L c δ k a e))
    .obtain⟨rfl,_⟩:=f z o C b D W E F S T G L y i c;omega
   obtain⟨I,c2,K,j,v⟩:=FN (x:=bO b) (λb d P=>yV f S T x b d P) W.kids (eL d b.sum) (λk a=>⟨B k a,by have:=ss y a;omega,ss y a⟩) H;have h:eI r o (x+1) b d=W.kids.foldl (λd p=>eI r o x p d) (eL d b.sum):=by rw[eI,if_neg p,y]
   have M:=j _ (po.2 (.inr rfl));refine⟨?_,?_,λ_=>by rw[h];exact M,λk a=>by rw[h];exact j k (po.2 (.inl a)),?_⟩
   .rw[fC,if_neg p,h];simp only[mV,hm,not_false_eq_true,decide_true,if_true,y];exact I
   .rw[h];intro z C D E F G L g u k a e;rcases v _ g with c|⟨l,m,n,q,s,w⟩
    .rcases po.1 c with c|c
     .exact j _ (po.2 (.inl (V z C D E F G L c u k a e)))
     .obtain⟨_,rfl⟩:=f z o C b D W E F S T G L y i c;exact K k a e
    .obtain⟨rfl,_⟩:=f z o C l D m E F S T G L n q s.symm;exact c2 z C D E F G L g w k a e
   .rw[h];intro k a;rcases v k a with c|⟨l,m,n,q,s,w⟩
    .rcases po.1 c with c|rfl
     .exact .inl c
     .exact .inr ⟨b,W,y,i,rfl,δ⟩
    .exact .inr ⟨l,m,n,q,s,δ⟩
end Go.Proofs.YtcfpcblgmmeioaaGreat
