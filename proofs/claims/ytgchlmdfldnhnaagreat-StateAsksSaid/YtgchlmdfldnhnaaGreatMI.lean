import Derived.Test.YtgchlmdfldnhnaaGreatMF
import Derived.Test.YtgchlmdfldnhnaaGreatMH
import Derived.Test.YtgchlmdfldnhnaaGreatMD
import Derived.Test.YtgchlmdfldnhnaaGreatMG
set_option linter.all false
open Option renaming some->γ,none->η
open Go.Proofs.Tryz renaming prog->δ
open Bool renaming true->ζ,false->κ
open Go.bw.U renaming a1->ι,ad->μ,ae->ν,ah->ξ,al->ο,ao->π,set_set->υ,aO->ω,bH->Ν
open Go.Proofs.YtgchlmdfldnhnaaGreat.isRow renaming cells->ρ
open Go.bw.R renaming cells->τ
open List renaming range->ψ,zipWith->Β,length->β
open Prod renaming fst->Α
open Go.Proofs.YtgchlmdfldnhnaaGreat.bA renaming cells->Ξ
open Go.Proofs.YtgchlmdfldnhnaaGreat.aF renaming size->Ο
open Go.Proofs.YtgchlmdfldnhnaaGreat.aU renaming bu->Υ
set_option maxRecDepth 100000
namespace Go.Proofs.YtgchlmdfldnhnaaGreat
variable{α:Type}
def gp(a:α->α->Int):Prop:=(∀b c,a b c<0->0<=a c b)/\∀b c d,0<=a c b->0<=a d c->0<=a d b
def cF(d:α->α->Int)(c:Nat->α)(f h:Nat):Prop:=∀a b,f<=a->a<b->b<h->0<=d (c b) (c a)
structure eA(c d:Nat->α)(a b:Nat):Prop where
 jW:∀p,p<a\/b<=p->d p=c p
 u3:∀p,a<=p->p<b->∃q,a<=q/\q<b/\d p=c q
variable{e i t I b3 e5:Nat}
theorem eA.refl{a:Nat->α}:eA a a e i:=⟨λ_ _=>rfl,λb c d=>⟨b,c,d,rfl⟩⟩
theorem eA.trans{d f h:Nat->α}{b c:Nat}(k:eA d f b c)(o:eA f h b c):eA d h b c:=
 ⟨λa p=>(o.jW a p).trans (k.jW a p),λa r x=>by
  obtain⟨y,z,C,D⟩:=o.u3 a r x;obtain⟨E,F,G,L⟩:=k.u3 y z C;exact⟨E,F,G,D.trans L⟩⟩
def eA.wide{c d:Nat->α}(b:eA c d e i)(r:t<=e)(x:i<=I):eA c d t I:=
 ⟨λa y=>b.jW a ε,λa h k=>by
  by_cases f:e<=a/\a<i
  .obtain⟨o,z,C,p⟩:=b.u3 a f.1 f.2;exact⟨o,ε,ε,p⟩
  .exact⟨a,h,k,b.jW a ε⟩⟩
def jX(a:Nat->α)(c d:Nat):Nat->α:=λb=>if b=c then a d else if b=d then a c else a b
theorem eA.dH{b:Nat->α}{a:Nat}(d:a<=e)(f:e<t)(h:a<=i)(k:i<t):eA b (jX b e i) a t:=
 ⟨λc r=>by unfold jX;grind,λc o p=>by
  unfold jX;split
  .exact⟨i,h,k,rfl⟩
  split
  .exact⟨e,d,f,rfl⟩
  .exact⟨c,o,p,rfl⟩⟩
def cF.dP{a:α->α->Int}{b c:Nat->α}(k:cF a b e i)(d:eA b c t I)(x:i<=t\/I<=e):cF a c e i:=λf h o p r=>by
 rw[d.jW f ε,d.jW h ε];exact k f h o p r
structure Ins(d:α->α->Int)(b:Nat->α)(a i c:Nat):Prop where
 Ih:∀p q,a<=p->p<q->q<=i->p≠c->q≠c->0<=d (b q) (b p)
 up:∀q,c<q->q<=i->0<=d (b q) (b c)
def Ins.start{a:α->α->Int}{b:Nat->α}(h:cF a b i e):Ins a b i e e:=⟨λk c d f o p r=>h k c d f ε,λc d f=>by omega⟩
def Ins.step{d:α->α->Int}(C:gp d){f:Nat->α}{k o a:Nat}(D:Ins d f k o a)(T:k<a)(V:a<=o)(E:d (f a) (f (a - 1))<0):Ins d (jX f a (a - 1)) k o (a - 1):=by
 obtain⟨p,F⟩:=D;have G:=C.1 _ _ E;constructor
 .intro h b x L y z P;unfold jX;by_cases c:b=a
  .subst c;rw[if_pos rfl,if_neg ε,if_neg z];exact p h (b - 1) x ε ε ε ε
  .rw[if_neg c,if_neg P];by_cases r:h=a
   .subst r;rw[if_pos rfl];exact p (h - 1) b ε ε y ε c
   .rw[if_neg r,if_neg z];exact p h b x L y r c
 .intro b W S;unfold jX;rw[if_neg (show¬a - 1=a by omega),if_pos rfl];by_cases c:b=a
  .subst c;rw[if_pos rfl];exact G
  .rw[if_neg c,if_neg ε];exact F b ε S
def Ins.done{b:α->α->Int}(x:gp b){c:Nat->α}(f:Ins b c i t e)(y:i<=e)(h:i<e->0<=b (c e) (c (e - 1))):cF b c i (t+1):=λd a k o z=>by
 by_cases p:d=e
 .subst p;exact f.up a o ε
 by_cases r:a=e
 .subst r;by_cases he:d=a - 1
  .subst he;exact h ε
  .exact x.2 _ _ _ (f.Ih d (a - 1) k ε ε ε ε) (h ε)
 .exact f.Ih d a k o ε p r
def a4Y{c:α->α->Int}(y:gp c){b f:Nat->α}(P:i<e)(S:e<=t)(k:cF c b (i+1) t)(z:∀a,i<a->a<e->c (b a) (b i)<0)(C:∀a,e<=a->a<t->0<=c (b a) (b i))
  (h:∀a,i<=a->a+1<e->f a=b (a+1)) (r:f (e - 1)=b i) (x:∀a,e<=a->f a=b a):cF c f i t:=λa d o D p=>by
 by_cases E:d+1<e
 .rw[h d ε E,h a o ε];exact k _ _ ε ε ε
 by_cases F:d=e - 1
 .subst F;rw[r,h a o ε];exact y.1 _ _ (z _ ε ε)
 rw[x d ε];by_cases G:a+1<e
 .rw[h a o G];exact k _ _ ε ε p
 by_cases L:a=e - 1
 .subst L;rw[r];exact C d ε p
 .rw[x a ε];exact k _ _ ε D p
def a4Z{d:α->α->Int}(x:gp d){b f:Nat->α}(L:t<=e)(P:e<=i)(k:cF d b t i)(y:∀a,t<=a->a<e->0<=d (b i) (b a))(z:∀a,e<=a->a<i->d (b i) (b a)<0)
  (h:∀a,e<a->a<=i->f a=b (a - 1)) (p:f e=b i) (r:∀a,a<e->f a=b a):cF d f t (i+1):=λa c o C S=>by
 by_cases D:e<a
 .rw[h a D ε,h c ε ε];exact k _ _ ε ε ε
 by_cases E:a=e
 .subst E;rw[p,h c ε ε];exact x.1 _ _ (z _ ε ε)
 rw[r a ε];by_cases F:e<c
 .rw[h c F ε];exact k _ _ o ε ε
 by_cases G:c=e
 .subst G;rw[p];exact y a o ε
 .rw[r c ε];exact k _ _ o C ε
def eB(b:Nat->α)(c d f:Nat):Nat->α:=λa=>if c<=a/\a<f then(if a<c+(f - d)then b (a+(d - c))else b (a -(f - d)))else b a
def eA.rt{b:Nat->α}(f:i<=e)(h:e<=t):eA b (eB b i e t) i t:=
 ⟨λa k=>by unfold eB;rw[if_neg ε],λa c d=>by
  unfold eB;rw[if_pos ⟨c,d⟩];split
  .exact⟨a+(e - i),ε,ε,rfl⟩
  .exact⟨a -(t - e),ε,ε,rfl⟩⟩
def a5a{d:α->α->Int}(p:gp d){c E y P:Nat->α}(Q:I<=i)(X:i<=t)(Y:t<=e)(Z:e<=b3)(f:Nat)(k2:i+(e - t)=f)
  (z:cF d c I t) (C:cF d c t b3) (l:I<i->e<b3->0<=d (c e) (c (i - 1))) (m:i<t->t<e->d (c (e - 1)) (c i)<0)
  (n:E=eB c i t e) (x:eA E y I f) (q:cF d E I i->cF d E i f->cF d y I f) (F:eA y P f b3) (s:cF d y f e->cF d y e b3->cF d P f b3):cF d P I b3:=by
 subst n;have S:∀a,a<i->eB c i t e a=c a:=λa k=>by unfold eB;rw[if_neg ε]
 have T:∀a,i<=a->a<f->eB c i t e a=c (a+(t - i)):=λa k u=>by unfold eB;rw[if_pos ε,if_pos ε]
 have G:∀a,f<=a->a<e->eB c i t e a=c (a -(e - t)):=λa k u=>by unfold eB;rw[if_pos ε,if_neg ε]
 have L:∀a,e<=a->eB c i t e a=c a:=λa k=>by unfold eB;rw[if_neg ε]
 have v:=q (λa b h o r=>by rw[S a ε,S b ε];exact z a b h o ε) (λa b h o r=>by rw[T a h ε,T b ε r];exact C _ _ ε ε ε);have w:=s (λa b h o r=>by rw[x.jW a ε,x.jW b ε,G a h ε,G b ε r];exact z _ _ ε ε ε) (λa b h o r=>by rw[x.jW a ε,x.jW b ε,L a h,L b ε];exact C _ _ ε o r);have A:∀a b,I<=a->a<f->f<=b->b<b3->0<=d (eB c i t e b) (eB c i t e a):=λa b h o W g=>by
  by_cases V:a<i
  .rw[S a V];by_cases D:b<e
   .rw[G b W D];exact z _ _ h ε ε
   .rw[L b ε];have c3:0<=d (c (i - 1)) (c a)\/a=i - 1:=by
     by_cases k:a=i - 1
     .exact .inr k
     .exact .inl (z _ _ h ε ε)
    have bS:0<=d (c b) (c e)\/b=e:=by
     by_cases k:b=e
     .exact .inr k
     .exact .inl (C _ _ ε ε g)
    have dB:=l ε ε;rcases c3 with c3|rfl
    .rcases bS with bS|rfl
     .exact p.2 _ _ _ (p.2 _ _ _ c3 dB) bS
     .exact p.2 _ _ _ c3 dB
    .rcases bS with bS|rfl
     .exact p.2 _ _ _ dB bS
     .exact dB
  .rw[T a ε o];by_cases D:b<e
   .rw[G b W D];have dB:=p.1 _ _ (m ε ε);have c3:0<=d (c (e - 1)) (c (a+(t - i)))\/a+(t - i)=e - 1:=by
     by_cases k:a+(t - i)=e - 1
     .exact .inr k
     .exact .inl (C _ _ ε ε ε)
    have bS:0<=d (c (b -(e - t))) (c i)\/b -(e - t)=i:=by
     by_cases k:b -(e - t)=i
     .exact .inr k
     .exact .inl (z _ _ ε ε ε)
    rcases c3 with c3|c3
    .rcases bS with bS|bS
     .exact p.2 _ _ _ (p.2 _ _ _ c3 dB) bS
     .rw[bS];exact p.2 _ _ _ c3 dB
    .rw[c3];rcases bS with bS|bS
     .exact p.2 _ _ _ dB bS
     .rw[bS];exact dB
   .rw[L b ε];exact C _ _ ε ε g
 have k3:=x.wide (Χ I) (show f<=b3 by omega);intro a b h o r;by_cases D:b<f
 .rw[F.jW a ε,F.jW b ε];exact v a b h o D
 by_cases V:f<=a
 .exact w a b V o r
 .rw[F.jW a ε];obtain⟨B,H,K,a3⟩:=x.u3 a h ε;obtain⟨j,M,N,O⟩:=F.u3 b ε r;rw[a3,O,x.jW j ε];exact A B j H K M N
def kD(d:Nat->α)(b c f:Nat):Nat->α:=λa=>if b<=a/\a<b+f then d (c+(a - b))else if c<=a/\a<c+f then d (b+(a - c))else d a
def a5b{a:Nat->α}:kD a e i 0=a:=by funext b;unfold kD;rw[if_neg ε,if_neg ε]
def a5c{a:Nat->α}(b:i+(e+1)<=t):jX (kD a i t e) (i+e) (t+e)=kD a i t (e+1):=by
 funext c;unfold jX kD
 repeat' split
 all_goals first|omega|(congr 1<;>omega)
def a5d{a:Nat->α}(b:i<t)(c:t<=e)(d:0<i):eB (kD a (e - t) e i) (e -(t - i)) e (e+i)=eB a (e - t) e (e+i):=by
 funext f;unfold eB kD
 repeat' split
 all_goals first|omega|(congr 1<;>omega)
def a5e{a:Nat->α}(b:i<t)(c:i<=e)(d:0<i):eB (kD a (e - i) (e+t - i) i) (e - i) e (e+(t - i))=eB a (e - i) e (e+t):=by
 funext f;unfold eB kD
 repeat' split
 all_goals first|omega|(congr 1<;>omega)
def rt_eq{a:Nat->α}(b:i<=e)(c:0<i):kD a (e - i) e i=eB a (e - i) e (e+i):=by
 funext d;unfold eB kD
 repeat' split
 all_goals first|omega|(congr 1<;>omega)
def Ii{a:Nat->α}(b:i=e\/e=t):eB a i e t=a:=by
 funext c;unfold eB
 repeat' split
 all_goals first|omega|(congr 1<;>omega)|rfl
def po(c:α->α->Int)(d:Nat->α)(b f:Nat):Prop:=∀a,b∣a->cF c d a (min (a+b) f)
theorem po.all{a:α->α->Int}{b:Nat->α}(c:po a b i e)(d:e<=i):cF a b 0 e:=by have:=c 0 (abN _);rwa[a7X,aa4 d]at this
def s8(a:e∣i)(b:e∣t)(c:i<t):i+e<=t:=by have:=Nat.le_of_dvd ε (Nat.dvd_sub b a);omega
structure pq(b:α->α->Int)(c:Nat->α)(aN n a:Nat):Prop where
 d:2*aN∣a
 az:∀x,2*aN∣x->x+2*aN<=a->cF b c x (x+2*aN)
 aE:∀x,aN∣x->a<=x->cF b c x (min (x+aN) n)
def pq.start{a:α->α->Int}{b:Nat->α}(c:po a b e i)(h:0<e):pq a b e i 0:=⟨abN _,λd _ c=>by omega,λd f _=>c d f⟩
def pq.step{d:α->α->Int}{f o:Nat->α}{b p a:Nat}(c:pq d f b p a)(D:a+2*b<=p)(r:eA f o a (a+2*b))(z:cF d f a (a+b)->cF d f (a+b) (a+2*b)->cF d o a (a+2*b)):pq d o b p (a+2*b):=by
 have x:b∣a:=Nat.dvd_trans (Nat.dvd_mul_left _ _) c.d;have c3:=c.aE a x (Χ _);have bS:=c.aE (a+b) (abq x (abg _)) ε;rw[a8P ε]at c3 bS;have dB:=z c3 (by rwa[show a+b+b=a+2*b by omega]at bS);refine⟨abq c.d (abg _),λh k y=>?_,λh k y=>(c.aE h k ε).dP r (.inr y)⟩;by_cases C:h=a
 .subst C;exact dB
 .have:=s8 k c.d ε;exact(c.az h k this).dP r (.inl this)
def pq.done{c:α->α->Int}{d f:Nat->α}(a:pq c d i t e)(z:0<i)(C:t<e+2*i)(p:eA d f e t)(D:e<=t)(r:e+i<t->cF c d e (e+i)->cF c d (e+i) t->cF c f e t)(x:t<=e+i->f=d):po c f (2*i) t:=by
 have o:i∣e:=Nat.dvd_trans (Nat.dvd_mul_left _ _) a.d;intro b h;by_cases y:b=e
 .subst y;rw[aa4 ε];have c3:=a.aE b o (Χ _);by_cases k:b+i<t
  .have bS:=a.aE (b+i) (abq o (abg _)) ε;rw[a8P ε]at c3;rw[aa4 ε]at bS;exact r k c3 bS
  .rw[aa4 ε]at c3;rw[x ε];exact c3
 .by_cases k:b<e
  .have:=s8 h a.d k;rw[a8P ε];exact(a.az b h this).dP p (.inl this)
  .have:=s8 a.d h ε;intro E F G L P;omega
structure s9(b:α->α->Int)(c:Nat->α)(a:Nat):Prop where
 d:20∣a
 az:∀x,20∣x->x+20<=a->cF b c x (x+20)
def s9.step{b:α->α->Int}{f c:Nat->α}{a:Nat}(d:s9 b f a)(o:eA f c a (a+20))(p:cF b c a (a+20)):s9 b c (a+20):=by
 refine⟨abq d.d (abg _),λh k x=>?_⟩;by_cases r:h=a
 .subst r;exact p
 .have:=s8 k d.d ε;exact(d.az h k this).dP o (.inl this)
def s9.done{a:α->α->Int}{h b:Nat->α}(c:s9 a h e)(x:eA h b e i)(y:cF a b e i)(E:i<e+20):po a b 20 i:=by
 intro d f;by_cases z:d=e
 .subst z;rw[aa4 ε];exact y
 by_cases C:d<e
 .have:=s8 f c.d C;intro k o p r D;exact(c.az d f this).dP x (.inl this) k o p r ε
 .have:=s8 c.d f ε;intro k o p r D;omega
structure pr(b c:Nat->α)(a q:Nat):Prop where
 az:∀p,a<=p->p<q->c p=b (p+1)
 eq:c q=b a
 aE:∀p,p<a\/q<p->c p=b p
theorem pr.refl{a:Nat->α}:pr a a e e:=⟨λb c d=>by omega,rfl,λ_ _=>rfl⟩
def pr.step{d f:Nat->α}{c a:Nat}(o:pr d f c a)(y:c<=a):pr d (jX f a (a+1)) c (a+1):=by
 obtain⟨p,r,h⟩:=o;refine⟨λb x z=>?_,?_,λb C=>?_⟩<;>unfold jX
 .by_cases k:b=a
  .subst k;rw[if_pos rfl];exact h _ ε
  .rw[if_neg k,if_neg ε];exact p b x ε
 .rw[if_neg ε,if_pos rfl];exact r
 .rw[if_neg ε,if_neg ε];exact h b ε
def pr.dP{c d:Nat->α}(b:pr c d i e)(p:i<=e)(r:e<t):eA c d i t:=⟨λa x=>b.aE a ε,λa f h=>by
 by_cases k:a<e
 .exact⟨a+1,ε,ε,b.az a f k⟩
 by_cases o:a=e
 .subst o;exact⟨i,ε,ε,b.eq⟩
 .exact⟨a,f,h,b.aE a ε⟩⟩
structure ps(a b:Nat->α)(m q:Nat):Prop where
 az:∀p,q<p->p<=m->b p=a (p - 1)
 eq:b q=a m
 aE:∀p,p<q\/m<p->b p=a p
theorem ps.refl{a:Nat->α}:ps a a e e:=⟨λb c d=>by omega,rfl,λ_ _=>rfl⟩
def ps.step{d f:Nat->α}{c a:Nat}(o:ps d f c a)(y:a<=c)(z:0<a):ps d (jX f a (a - 1)) c (a - 1):=by
 obtain⟨p,r,h⟩:=o;refine⟨λb C x=>?_,?_,λb D=>?_⟩<;>unfold jX
 .by_cases k:b=a
  .subst k;rw[if_pos rfl];exact h _ ε
  .rw[if_neg k,if_neg ε];exact p b ε x
 .rw[if_neg ε,if_pos rfl];exact r
 .rw[if_neg ε,if_neg ε];exact h b ε
def ps.dP{c d:Nat->α}(b:ps c d i e)(p:e<=i)(r:t<=e):eA c d t (i+1):=⟨λa x=>b.aE a ε,λa f h=>by
 by_cases k:e<a
 .exact⟨a - 1,ε,ε,b.az a k ε⟩
 by_cases o:a=e
 .subst o;exact⟨i,ε,ε,b.eq⟩
 .exact⟨a,f,h,b.aE a ε⟩⟩
section
variable{cf:α->α->Int}(hc:gp cf){f:Nat->α}
include hc
def a5f(b:cF cf f t i)(r:t<=I)(x:I<=e5)(y:e5<b3)(z:b3<=i)(c:cf (f e5) (f e)<0)(d:(∀a,t<=a->a<I->cf (f a) (f e)<0)/\∀a,b3<=a->a<i->0<=cf (f a) (f e)):(∀a,t<=a->a<e5+1->cf (f a) (f e)<0)/\∀a,b3<=a->a<i->0<=cf (f a) (f e):=
 ⟨λa h C=>by
  by_cases k:a=e5
  .subst k;exact c
  .have o:=b a e5 h ε ε;by_cases p:cf (f a) (f e)<0
   .exact p
   .have:=hc.2 _ _ _ (show 0<=cf (f a) (f e) by omega) o;omega,d.2⟩
def a5g(c:cF cf f t i)(o:t<=I)(p:I<=e5)(r:e5<b3)(x:b3<=i)(b:0<=cf (f e5) (f e))(d:(∀a,t<=a->a<I->cf (f a) (f e)<0)/\∀a,b3<=a->a<i->0<=cf (f a) (f e)):(∀a,t<=a->a<I->cf (f a) (f e)<0)/\∀a,e5<=a->a<i->0<=cf (f a) (f e):=
 ⟨d.1,λa y h=>by
  by_cases k:a=e5
  .subst k;exact b
  .exact hc.2 _ _ _ b (c e5 a ε ε h)⟩
def a5h(c:cF cf f e i)(o:e<=t)(p:t<=b3)(r:b3<I)(x:I<=i)(b:0<=cf (f i) (f b3))(d:(∀a,e<=a->a<t->0<=cf (f i) (f a))/\∀a,I<=a->a<i->cf (f i) (f a)<0):(∀a,e<=a->a<b3+1->0<=cf (f i) (f a))/\∀a,I<=a->a<i->cf (f i) (f a)<0:=
 ⟨λa h y=>by
  by_cases k:a=b3
  .subst k;exact b
  .exact hc.2 _ _ _ (c a b3 h ε ε) b,d.2⟩
def a5i(b:cF cf f e i)(r:e<=t)(x:t<=b3)(y:b3<I)(z:I<=i)(c:cf (f i) (f b3)<0)(d:(∀a,e<=a->a<t->0<=cf (f i) (f a))/\∀a,I<=a->a<i->cf (f i) (f a)<0):(∀a,e<=a->a<t->0<=cf (f i) (f a))/\∀a,b3<=a->a<i->cf (f i) (f a)<0:=
 ⟨d.1,λa C h=>by
  by_cases k:a=b3
  .subst k;exact c
  .have o:=b b3 a ε ε h;by_cases p:cf (f i) (f a)<0
   .exact p
   .have:=hc.2 _ _ _ o (show 0<=cf (f i) (f a) by omega);omega⟩
end
open Go Go.bw
variable{j B b7:ύ}
def wo(d:e<β j)(b:i<β j):el (rQ j e i)=jX (el j) e i:=by
 funext c;simp only[rQ,el,jX,a7V,List.getElem?_set,aah];by_cases h1:i=c
 .subst h1;by_cases a:i=e
  .subst a;simp[b]
  .simp[b,a]
 .by_cases a:e=c
  .subst a;simp[h1,d]
  .simp[h1,a,Θ h1,Θ a]
variable{s b8:R}{M:Bool}{b9:FuncId}{g w h7:U}
section
def AS(y:cu δ 0 b9=γ (lq e M))(z:0<e)(C:β j=t)(h:jd e s i t (β b7))(V:β b7<=1000000000000)(l:I+e5<=β b7)(m:b3+e5<=β b7)(n:I+e5<=b3)(D:R)(c:ύ)(E:c.Perm b7)(F:∀k∈b7,jN e M k):
  AC δ b9 [s,.v (.int .i64 (I:Int)),.v (.int .i64 (b3:Int)),.v (.int .i64 (e5:Int)),D] (W g i j B c) λq o=>∃p,(p.Perm b7/\el p=kD (el c) I b3 e5)/\o=W g i j B p:=by
 have u:=h.cl;refine aM hm y ?_;refine ck [0,1,2,3] (λb:Nat×ύ=>[(10,.v (.int .i64 (b.1)))]) (λb o=>o=W g i j B b.2/\b.2.Perm b7/\el b.2=kD (el c) I b3 b.1/\b.1<=e5) (λb=>e5 - b.1) (0,c) ⟨⟨rfl,E,a5b.symm,ε⟩,aK⟩ ?_;rintro⟨a,d⟩ _ ⟨rfl,f,r,G⟩ v
 dsimp only at f r G|-
 refine aa ?_;refine ay (λL=>?_) λL=>?_
 .have w:=f.length_eq;obtain⟨A,H,K,P⟩:=pd z (g:=g) (I:=i) (b7:=B) C (λk S=>F k (f.mem_iff.1 S)) (i:=I+a) (t:=b3+a) ε ε;have T:=pc (j:=d) (e:=I+a) (i:=b3+a) ε ε;have x:=wo (j:=d) (e:=I+a) (i:=b3+a) ε ε;rw[r,a5c ε]at x;obtain⟨N,O,Q,X,Y,Z,k2,k3,k4,k5⟩:=P;have k6:=h.eU (I+a) ε;have k7:=h.eU (b3+a) ε;generalize W g i j B d=k8 at*;generalize el d (I+a)=b at*;generalize el d (b3+a)=k9 at*;have l0:(I)+(a)=((I+a:Nat):Int):=rfl;have l1:(b3)+(a)=((b3+a:Nat):Int):=rfl;refine aa ?_;exact⟨(a+1,_),⟨rfl,T.trans f,x,by show a+1<=e5;omega⟩,rfl,by show e5 -(a+1)<e5 - a;omega⟩
 .obtain rfl:a=e5:=ε;exact⟨_,ι,_,⟨f,r⟩,rfl⟩
theorem a5j{T:FuncId}(m:cu δ 0 b9=γ (nc e M T))(x:cu δ 0 T=γ (lq e M))(y:0<e)(z:β j=t)(p:jd e s i t (β b7))(C:β b7<=1000000000000)(A:e5<I)(H:I<b3)(K:b3<=β b7)(r:R)(f:ύ)(n:f.Perm b7)(D:∀q∈b7,jN e M q):
  AC δ b9 [s,.v (.int .i64 (e5:Int)),.v (.int .i64 (I:Int)),.v (.int .i64 (b3:Int)),r] (W g i j B f) λE F=>∃G,(G.Perm b7/\el G=eB (el f) e5 I b3)/\F=W g i j B G:=by
 have N:=p.cl;have V:(I) -(e5)=((I - e5:Nat):Int):=ε;have h:(b3) -(I)=((b3 - I:Nat):Int):=ε;refine aM hm m ?_;refine ck [0,1,2,3,4] (λc:(Nat×Nat)×ύ=>[(10,.v (.int .i64 (c.1.1))),(11,.v (.int .i64 (c.1.2)))]) (λc F=>F=W g i j B c.2/\c.2.Perm b7/\eB (el c.2) (I - c.1.1) I (I+c.1.2)=eB (el f) e5 I b3/\0<c.1.1/\0<c.1.2/\c.1.1<=I - e5/\c.1.2<=b3 - I) (λc=>c.1.1+c.1.2) ((I - e5,b3 - I),f) ⟨⟨rfl,n,by show eB _ (I -(I - e5)) I (I+(b3 - I))= _;rw[show I -(I - e5)=e5 by omega,show I+(b3 - I)=b3 by omega],by show 0<I - e5;omega,by show 0<b3 - I;omega,Χ _,Χ _⟩,aK⟩ ?_;clear V h;rintro⟨⟨a,b⟩,h⟩ _ ⟨rfl,L,P,S,l,u,v⟩ O
 dsimp only at*
 have V:(I) -(a)=((I - a:Nat):Int):=ε;refine aa ?_;refine ay (λw=>?_) λw=>?_
 .refine ay (λc2=>?_) λc2=>?_
  .refine ak (AS x y z p C ε ε ε r h L D) ?_;rintro E _⟨d,⟨k,o⟩,rfl⟩;refine aa ?_;exact⟨((a - b,b),d),⟨rfl,k,by show eB (el d) (I -(a - b)) I (I+b)= _;rw[o,a5d ε ε l,P],by show 0<a - b;omega,l,by show a - b<=I - e5;omega,v⟩,⟨by grind,rfl⟩,by show a - b+b<a+b;omega⟩
  .have d:(I)+(b) -(a)=((I+b - a:Nat):Int):=ε;refine aa ?_;refine ak (AS x y z p C ε ε ε r h L D) ?_;rintro E _⟨d,⟨k,o⟩,rfl⟩;refine aa ?_;exact⟨((a,b - a),d),⟨rfl,k,by show eB (el d) (I - a) I (I+(b - a))= _;rw[o,a5e ε ε S,P],S,by show 0<b - a;omega,u,by show b - a<=b3 - I;omega⟩,⟨rfl,by grind⟩,by show a+(b - a)<a+b;omega⟩
 .obtain rfl:a=b:=ε;refine aa ?_;refine ak (AS x y z p C ε ε ε r h L D) ?_;rintro E _⟨d,⟨k,o⟩,rfl⟩;refine aa ?_;exact⟨_,ι,_,⟨k,by rw[o,rt_eq ε S,P]⟩,rfl⟩
def Ij(A:cu δ 0 b9=γ (pa e M))(x:0<e)(y:β j=t)(z:jd e s i t (β b7))(k5:β b7<=1000000000000)(k6:I<=b3)(k7:b3<=β b7){G:FuncId}{L P:ύ}{h:R->R->Int}(S:jO g i j B b7 G L P h)(o:ύ)(H:o.Perm b7)(K:∀C∈b7,jN e M C):
  AC δ b9 [s,.v (.int .i64 (I:Int)),.v (.int .i64 (b3:Int)),.bG G L P] (W g i j B o) λk8 p=>∃r,(r.Perm b7/\eA (el o) (el r) I b3/\(gp h->cF h (el r) I b3))/\p=W g i j B r:=by
 have k9:=z.cl;refine aM hm A ?_;refine ck [0,1,2,3] (λa:Nat×ύ=>[(8,.v (.int .i64 (a.1)))]) (λa p=>p=W g i j B a.2/\a.2.Perm b7/\(eA (el o) (el a.2) I b3/\(gp h->cF h (el a.2) I a.1))/\I<a.1/\a.1<=b3+1) (λa=>b3+1 - a.1) (I+1,o) ⟨⟨rfl,H,⟨.refl,λ_ T V l0 l1 N=>by dsimp only at N;omega⟩,by show I<I+1;omega,by show I+1<=b3+1;omega⟩,aa DQ⟩ ?_;rintro⟨d,O⟩ _ ⟨rfl,l,⟨m,n⟩,l2,l3⟩ l4
 dsimp only at*
 refine aa ?_;refine ay (λQ=>?_) λQ=>?_
 .refine ck [0,1,2,3,8] (λa:Nat×ύ=>[(9,.v (.int .i64 (a.1)))]) (λa p=>p=W g i j B a.2/\a.2.Perm b7/\(eA (el o) (el a.2) I b3/\(gp h->Ins h (el a.2) I d a.1))/\I<=a.1/\a.1<=d) (λa=>a.1) (d,O) ⟨⟨rfl,l,⟨m,λc=>.start (n c)⟩,by show I<=d;omega,Χ _⟩,aK⟩ ?_;rintro⟨b,k⟩ _ ⟨rfl,f,⟨D,E⟩,q,X⟩ l5
  dsimp only at*
  have l6:=f.length_eq;refine aa ?_;refine ay (λY=>?_) λY=>?_
  .have l7:=z.eU b ε;have l8:=z.eU (b - 1) ε;have l9:(b) - 1=((b - 1:Nat):Int):=ε;have F:=λC Z=>K C (f.mem_iff.1 Z);have n0:=ia x (g:=g) (t:=i) (b7:=B) y F (i:=b) ε;have n2:=ia x (g:=g) (t:=i) (b7:=B) y F (i:=b - 1) ε;refine aa ?_;refine fa S.1 (S.2 k f _ (f.mem_iff.1 (gE ε)) _ (f.mem_iff.1 (gE ε))) ?_;rintro _ _⟨rfl,rfl⟩;refine aa ?_;refine ay (λc2=>?_) λc2=>?_
   .obtain⟨n3,n4,n5,n9,a00,a01,a02,a03,a04,a05,a06,a07,a08⟩:=pd x (g:=g) (I:=i) (b7:=B) y F (i:=b) (t:=b - 1) ε ε;have k2:=pc (j:=k) (e:=b) (i:=b - 1) ε ε;have u:=wo (j:=k) (e:=b) (i:=b - 1) ε ε;have v:=D.trans (.dH (b:=el k) (a:=I) (t:=b3) (e:=b) (i:=b - 1) ε ε ε ε);have w:=λc=>(E c).step c ε X ε;rw[<-u]at v w;clear u;generalize W g i j B k=a09 at*;generalize el k b=a at*;generalize el k (b - 1)=a10 at*;refine aa ?_;exact⟨(b - 1,_),⟨rfl,k2.trans f,⟨v,w⟩,by show I<=b - 1;omega,by show b - 1<=d;omega⟩,rfl,by show b - 1<b;omega⟩
   .exact⟨(d+1,_),⟨rfl,f,⟨D,λc=>(E c).done c q λ_=>by omega⟩,by show I<d+1;omega,by show d+1<=b3+1;omega⟩,rfl,ε⟩
  .exact⟨(d+1,_),⟨rfl,f,⟨D,λc=>(E c).done c q λ_=>by omega⟩,by show I<d+1;omega,by show d+1<=b3+1;omega⟩,rfl,ε⟩
 .exact⟨_,ι,_,⟨l,m,λc T V k3 k4 a11=>n c T V k3 k4 ε⟩,rfl⟩
set_option maxHeartbeats 1000000 in
theorem wq{l5 k8 a06:FuncId}(l6:cu δ 0 l5=γ (pb e M l5 k8))(l7:cu δ 0 k8=γ (nc e M a06))(l8:cu δ 0 a06=γ (lq e M))(n:0<e)(q:β j=t)(V:jd e s i t (β b7))(l9:β b7<=1000000000000){a07:FuncId}{a08 a09:ύ}{x:R->R->Int}(H:jO g i j B b7 a07 a08 a09 x)(I:∀D∈b7,jN e M D):∀(k9 f b o:Nat),o - f<=k9->f<b->b<o->o<=β b7->∀(h:ύ),h.Perm b7->
  AC δ l5 [s,.v (.int .i64 (f:Int)),.v (.int .i64 (b:Int)),.v (.int .i64 (o:Int)),.bG a07 a08 a09] (W g i j B h) λa84 P=>∃l0,(l0.Perm b7/\eA (el h) (el l0) f o/\(gp x->cF x (el h) f b->cF x (el h) b o->cF x (el l0) f o))/\P=W g i j B l0
 |0,f,b,o,a27,a29,a30,a34,h,E=>by omega
 |k9+1,f,b,o,a27,a29,a30,a34,h,E=>by
  have a86:=V.cl;refine aM hm l6 ?_;refine ay (λa36=>?_) λa36=>?_
  .refine fO [0,1,2,3,4] (λa:Nat×Nat=>[(10,.v (.int .i64 (a.1))),(11,.v (.int .i64 (a.2)))]) (λa=>(gp x->cF x (el h) b o->(∀y,b<=y->y<a.1->x (el h y) (el h f)<0)/\∀y,a.2<=y->y<o->0<=x (el h y) (el h f))/\b<=a.1/\a.1<=a.2/\a.2<=o) (λa=>a.2 - a.1) (b,o) ⟨λ_ _=>⟨λy Z k2=>by dsimp only at k2;omega,λy Z k2=>by dsimp only at Z;omega⟩,Χ _,by show b<=o;omega,Χ _⟩ aK ?_;rintro⟨c,p⟩ ⟨l,L,K,S⟩ N
   dsimp only at l L K S|-
   refine aa ?_;have n0:=pe c p;have l1:=E.length_eq;have O:=λD m=>I D (E.mem_iff.1 m);refine ay (λc2=>?_) λc2=>?_
   .have l2:=V.eU ((c+p)/2) ε;have l3:=V.eU f ε;have a10:=ia n (g:=g) (t:=i) (b7:=B) q O (i:=(c+p)/2) ε;have a11:=ia n (g:=g) (t:=i) (b7:=B) q O (i:=f) ε;have a13:(c+p)/2<=1000000000000:=ε;obtain⟨u,k3⟩:c<=(c+p)/2/\(c+p)/2<p:=ε;have k5:=H.2 h E _ (E.mem_iff.1 (gE (e:=(c+p)/2) ε)) _ (E.mem_iff.1 (gE (e:=f) ε));generalize (c+p)/2=d at*;have n2:=λ(aD:x (el h d) (el h f)<0) C F=>a5f C F L u k3 S aD (l C F);have n3:=λ(aD:0<=x (el h d) (el h f)) C F=>a5g C F L u k3 S aD (l C F);clear l;refine aa ?_;refine fa H.1 k5 ?_;rintro _ _⟨rfl,rfl⟩;refine aa ?_;refine ay (λaD=>?_) λaD=>?_
    .exact⟨(d+1,p),⟨n2 ε,by show b<=d+1;omega,by show d+1<=p;omega,S⟩,⟨rfl,rfl⟩,by show p -(d+1)<p - c;omega⟩
    .exact⟨(c,d),⟨n3 ε,L,u,by show d<=o;omega⟩,⟨rfl,rfl⟩,by show d - c<p - c;omega⟩
   .refine ck [0,1,2,3,4,10] (λa:Nat×ύ=>[(13,.v (.int .i64 (a.1)))]) (λa P=>P=W g i j B a.2/\a.2.Perm b7/\pr (el h) (el a.2) f a.1/\f<=a.1/\a.1+1<=c) (λa=>c - a.1) (f,h) ⟨⟨rfl,E,.refl,Χ _,by show f+1<=c;omega⟩,aK⟩ ?_;rintro⟨r,G⟩ _ ⟨rfl,z,T,k6,n4⟩ k8
    dsimp only at z T k6 n4|-
    refine aa ?_;refine ay (λaD=>?_) λaD=>?_
    .have l1:=z.length_eq;have n5:=λD m=>I D (z.mem_iff.1 m);have l2:=V.eU r ε;have l3:=V.eU (r+1) ε;have a14:(r)+1=((r+1:Nat):Int):=ε;obtain⟨a38,a42,a43,a47,a48,a52,a56,a57,a61,a62,a63,a65,a68⟩:=pd n (g:=g) (I:=i) (b7:=B) q n5 (i:=r) (t:=r+1) ε ε;have n9:=pc (j:=G) (e:=r) (i:=r+1) ε ε;have k7:=T.step k6;rw[<-wo (j:=G) (e:=r) (i:=r+1) ε ε]at k7;clear T;generalize W g i j B G=a69 at*;generalize el G r=a at*;generalize el G (r+1)=a71 at*;refine aa ?_;exact⟨(r+1,_),⟨rfl,n9.trans z,k7,by show f<=r+1;omega,by show r+1+1<=c;omega⟩,rfl,by show c -(r+1)<c - r;omega⟩
    .obtain rfl:r=c - 1:=ε;obtain rfl:b=f+1:=ε;exact⟨_,ι,_,⟨z,T.dP ε ε,λC _ F=>a4Y C (e:=c) ε ε F (λy A Q=>(l C F).1 y ε Q) (λy A Q=>(l C F).2 y ε Q) (λy A Q=>T.az y A ε) T.eq (λy A=>T.aE y (.inr ε))⟩,rfl⟩
  .refine ay (λc2=>?_) λc2=>?_
   .refine fO [0,1,2,3,4] (λa:Nat×Nat=>[(14,.v (.int .i64 (a.1))),(15,.v (.int .i64 (a.2)))]) (λa=>(gp x->cF x (el h) f b->(∀y,f<=y->y<a.1->0<=x (el h b) (el h y))/\∀y,a.2<=y->y<b->x (el h b) (el h y)<0)/\f<=a.1/\a.1<=a.2/\a.2<=b) (λa=>a.2 - a.1) (f,b) ⟨λ_ _=>⟨λy Z k2=>by dsimp only at k2;omega,λy Z k2=>by dsimp only at Z;omega⟩,Χ _,by show f<=b;omega,Χ _⟩ aK ?_;rintro⟨c,p⟩ ⟨l,L,K,S⟩ N
    dsimp only at l L K S|-
    refine aa ?_;have n0:=pe c p;have l1:=E.length_eq;have O:=λD m=>I D (E.mem_iff.1 m);refine ay (λaD=>?_) λaD=>?_
    .have l2:=V.eU ((c+p)/2) ε;have l3:=V.eU b ε;have a10:=ia n (g:=g) (t:=i) (b7:=B) q O (i:=(c+p)/2) ε;have a11:=ia n (g:=g) (t:=i) (b7:=B) q O (i:=b) ε;obtain⟨u,k3⟩:c<=(c+p)/2/\(c+p)/2<p:=ε;have k5:=H.2 h E _ (E.mem_iff.1 (gE (e:=b) ε)) _ (E.mem_iff.1 (gE (e:=(c+p)/2) ε));have a13:(c+p)/2<=1000000000000:=ε;generalize (c+p)/2=d at*;have n2:=λ(aD:0<=x (el h b) (el h d)) C F=>a5h C F L u k3 S aD (l C F);have n3:=λ(aD:x (el h b) (el h d)<0) C F=>a5i C F L u k3 S aD (l C F);clear l;refine aa ?_;refine fa H.1 k5 ?_;rintro _ _⟨rfl,rfl⟩;refine aa ?_;refine ay (λaD=>?_) λaD=>?_
     .exact⟨(d+1,p),⟨n2 ε,by show f<=d+1;omega,by show d+1<=p;omega,S⟩,⟨rfl,rfl⟩,by show p -(d+1)<p - c;omega⟩
     .exact⟨(c,d),⟨n3 ε,L,u,by show d<=b;omega⟩,⟨rfl,rfl⟩,by show d - c<p - c;omega⟩
    .refine ck [0,1,2,3,4,14] (λa:Nat×ύ=>[(17,.v (.int .i64 (a.1)))]) (λa P=>P=W g i j B a.2/\a.2.Perm b7/\ps (el h) (el a.2) b a.1/\c<=a.1/\a.1<=b) (λa=>a.1) (b,h) ⟨⟨rfl,E,.refl,by show c<=b;omega,Χ _⟩,aK⟩ ?_;rintro⟨r,G⟩ _ ⟨rfl,z,T,n4,k6⟩ k8
     dsimp only at z T n4 k6|-
     refine aa ?_;refine ay (λaL=>?_) λaL=>?_
     .have l1:=z.length_eq;have n5:=λD m=>I D (z.mem_iff.1 m);have l2:=V.eU r ε;have l3:=V.eU (r - 1) ε;have a14:(r) - 1=((r - 1:Nat):Int):=ε;obtain⟨a38,a42,a43,a47,a48,a52,a56,a57,a61,a62,a63,a65,a68⟩:=pd n (g:=g) (I:=i) (b7:=B) q n5 (i:=r) (t:=r - 1) ε ε;have n9:=pc (j:=G) (e:=r) (i:=r - 1) ε ε;have k7:=T.step k6 ε;rw[<-wo (j:=G) (e:=r) (i:=r - 1) ε ε]at k7;clear T;generalize W g i j B G=a69 at*;generalize el G r=a at*;generalize el G (r - 1)=a71 at*;refine aa ?_;exact⟨(r - 1,_),⟨rfl,n9.trans z,k7,by show c<=r - 1;omega,by show r - 1<=b;omega⟩,rfl,by show r - 1<r;omega⟩
     .obtain rfl:r=c:=ε;obtain rfl:o=b+1:=ε;exact⟨_,ι,_,⟨z,T.dP ε ε,λC F _=>a4Z C (e:=r) ε ε F (λy A Q=>(l C F).1 y A Q) (λy A Q=>(l C F).2 y ε Q) T.az T.eq (λy A=>T.aE y (.inl A))⟩,rfl⟩
   .have n0:=pe f o;have a88:(f+o)/2<=1000000000000:=ε;obtain⟨u,k3⟩:f<(f+o)/2/\(f+o)/2<o:=ε;have a89:(f+o)/2 - f<=o -(f+o)/2:=ε;have a90:o -(f+o)/2<=(f+o)/2 - f+1:=ε;generalize (f+o)/2=k at*;refine aa ?_;refine nT [0,1,2,3,4,18,19] (λa:Nat×Nat=>[(20,.v (.int .i64 (a.1))),(21,.v (.int .i64 (a.2)))]) (λa P=>P=W g i j B h/\(f<a.1->k+b - a.1<o->0<=x (el h (k+b - a.1)) (el h (a.1 - 1)))/\(a.2<b->b<k+b - a.2->x (el h (k+b - 1 - a.2)) (el h a.2)<0)/\f<=a.1/\a.1<=a.2/\k+b<=o+a.1/\a.2<=k/\a.2<=b) (λaD=>?_) (λaD=>?_) ?_
    .have aD:=of_decide_eq_true aD;have X:(k)+(b) -(o)=((k+b - o:Nat):Int):=ε;refine aa ?_;exact⟨(k+b - o,k),⟨λ_ d=>by dsimp only at d;omega,λd a73=>by dsimp only at d a73;omega,by show f<=k+b - o;omega,by show k+b - o<=k;omega,ε,Χ _,by show k<=b;omega⟩,rfl,rfl⟩
    .have aD:=of_decide_eq_false aD;refine aa ?_;exact⟨(f,b),⟨λd=>by dsimp only at d;omega,λd=>by dsimp only at d;omega,Χ _,by show f<=b;omega,by show k+b<=o+f;omega,by show b<=k;omega,Χ _⟩,rfl,rfl⟩
    rintro⟨c,p⟩ _ ⟨rfl,v,w,L,K,k4,S,Y⟩ N
    dsimp only at v w L K k4 S Y|-
    refine jy [0,1,2,3,4,18,19,20,21] (λ_:Unit=>[(22,.v (.int .i64 ((k+b - 1:Nat))))]) (λ_ P=>P=W g i j B h) ?_ ?_
    .refine aa ?_;exact⟨(),by congr 2;omega⟩
    rintro _ _ rfl N;refine jy [0,1,2,3,4,18,19] (λc:Nat=>[(20,.v (.int .i64 (c)))]) (λc P=>P=W g i j B h/\(f<c->k+b - c<o->0<=x (el h (k+b - c)) (el h (c - 1)))/\(c<b->b<k+b - c->x (el h (k+b - 1 - c)) (el h c)<0)/\f<=c/\k+b<=o+c/\c<=k/\c<=b) ?_ ?_
    .refine aa ?_;refine fO [0,1,2,3,4,18,19,22] (λa:Nat×Nat=>[(20,.v (.int .i64 (a.1))),(21,.v (.int .i64 (a.2)))]) (λa=>(f<a.1->k+b - a.1<o->0<=x (el h (k+b - a.1)) (el h (a.1 - 1)))/\(a.2<b->b<k+b - a.2->x (el h (k+b - 1 - a.2)) (el h a.2)<0)/\f<=a.1/\a.1<=a.2/\k+b<=o+a.1/\a.2<=k/\a.2<=b) (λa=>a.2 - a.1) (c,p) ⟨v,w,L,K,k4,S,Y⟩ aK ?_;clear v w;rintro⟨c,p⟩ ⟨v,w,L,K,k4,S,Y⟩ N
     dsimp only at v w L K k4 S Y|-
     have n0:=pe c p;have l1:=E.length_eq;have O:=λD m=>I D (E.mem_iff.1 m);refine aa ?_;refine ay (λaL=>?_) λaL=>?_
     .obtain⟨u,k3⟩:c<=(c+p)/2/\(c+p)/2<p:=ε;have a13:(c+p)/2<=1000000000000:=ε;generalize (c+p)/2=d at*;have a14:((k+b - 1:Nat)) -(d)=((k+b - 1 - d:Nat):Int):=ε;have l2:=V.eU d ε;have l3:=V.eU (k+b - 1 - d) ε;have a10:=ia n (g:=g) (t:=i) (b7:=B) q O (i:=d) ε;have a11:=ia n (g:=g) (t:=i) (b7:=B) q O (i:=k+b - 1 - d) ε;have k5:=H.2 h E _ (E.mem_iff.1 (gE (e:=k+b - 1 - d) ε)) _ (E.mem_iff.1 (gE (e:=d) ε));refine aa ?_;refine fa H.1 k5 ?_;rintro _ _⟨rfl,rfl⟩;refine aa ?_;refine ay (λaZ=>?_) λaZ=>?_
      .exact⟨(d+1,p),⟨λ_ _=>by show 0<=x (el h (k+b -(d+1))) (el h (d+1 - 1));rw[show k+b -(d+1)=k+b - 1 - d by omega,show d+1 - 1=d by omega];omega,w,by show f<=d+1;omega,by show d+1<=p;omega,by show k+b<=o+(d+1);omega,S,Y⟩,⟨rfl,rfl⟩,by show p -(d+1)<p - c;omega⟩
      .exact⟨(c,d),⟨v,λ_ _=>by show x (el h (k+b - 1 - d)) (el h d)<0;omega,L,u,k4,by show d<=k;omega,by show d<=b;omega⟩,⟨rfl,rfl⟩,by show d - c<p - c;omega⟩
     grind
    rintro c _⟨rfl,v,w,L,k4,S,Y⟩N;refine jy [0,1,2,3,4,18,20] (λ_:Unit=>[(24,.v (.int .i64 ((k+b - c:Nat))))]) (λ_ P=>P=W g i j B h) ?_ ?_
    .refine aa ?_;exact⟨(),by congr 2;omega⟩
    rintro _ _ rfl N;obtain⟨D,m⟩:∃D,k+b - c=D:=⟨_,rfl⟩;have a15:D<=o:=ε;rw[m];rw[show k+b - 1 - c=D - 1 by omega,m]at w;rw[m]at v;refine jy [0,1,2,3,4,18,20,24] (λ_:ύ=>[]) (λa P=>P=W g i j B a/\a.Perm b7/\eB (el h) c b D=el a) ?_ ?_
    .refine aa ?_;refine ay (λaL=>?_) λaL=>?_
     .refine ay (λaZ=>?_) λaZ=>?_
      .refine ak (a5j l7 l8 n q V l9 ε ε ε _ h E I) ?_;rintro _ _⟨G,⟨z,a74⟩,rfl⟩;refine aa ?_;exact⟨G,rfl,z,a74.symm⟩
      .exact⟨h,rfl,E,Ii ε⟩
     .exact⟨h,rfl,E,Ii ε⟩
    rintro X _⟨rfl,z,a00⟩N;refine jy [0,1,2,3,4,18,20,24] (λ_:ύ=>[]) (λa P=>P=W g i j B a/\a.Perm b7/\eA (el X) (el a) f k/\(gp x->cF x (el X) f c->cF x (el X) c k->cF x (el a) f k)) ?_ ?_
    .refine aa ?_;refine ay (λaL=>?_) λaL=>?_
     .refine ay (λaZ=>?_) λaZ=>?_
      .refine ak (wq l6 l7 l8 n q V l9 H I k9 f c k ε ε ε ε X z) ?_;rintro _ _⟨a01,⟨z,hm,F⟩,rfl⟩;refine aa ?_;exact⟨a01,rfl,z,hm,F⟩
      .obtain rfl:c=k:=ε;exact⟨X,rfl,z,.refl,λ_ d _=>d⟩
     .obtain rfl:f=c:=ε;exact⟨X,rfl,z,.refl,λ_ _ d=>d⟩
    rintro G _⟨rfl,z,a02,a16⟩N;have a03:=λ(l4:Nat->R) (a04:eA (el G) l4 k o) (a81:gp x->cF x (el G) k D->cF x (el G) D o->cF x l4 k o) C Z k2=>a5a C L Y ε a15 k ε Z k2 v w a00.symm a02 (a16 C) a04 (a81 C);have a18:eA (el h) (el X) f o:=by rw[<-a00];exact(eA.rt Y ε).wide L a15
    have a05:=λ(l4:Nat->R) (a04:eA (el G) l4 k o)=>a18.trans ((a02.wide (Χ f) (show k<=o by omega)).trans (a04.wide (show f<=k by omega) (Χ o)));clear v w a00 a02 a16 a18;refine aa ?_;refine ay (λaL=>?_) λaL=>?_
    .refine ay (λaZ=>?_) λaZ=>?_
     .refine ak (wq l6 l7 l8 n q V l9 H I k9 k D o ε ε ε ε G z) ?_;rintro _ _⟨a01,⟨z,a19,a83⟩,rfl⟩;refine aa ?_;exact⟨_,ι,a01,⟨z,a05 _ a19,a03 _ a19 a83⟩,rfl⟩
     .obtain rfl:D=o:=ε;exact⟨_,ι,G,⟨z,a05 _ .refl,a03 _ .refl λ_ d _=>d⟩,rfl⟩
    .obtain rfl:k=D:=ε;exact⟨_,ι,G,⟨z,a05 _ .refl,a03 _ .refl λ_ _ d=>d⟩,rfl⟩
def a5k{w A S H:FuncId}(k5:cu δ 0 w=γ (rP e M A b9))(I:cu δ 0 A=γ (pa e M))(K:cu δ 0 b9=γ (pb e M b9 S))(N:cu δ 0 S=γ (nc e M H))(O:cu δ 0 H=γ (lq e M))(x:0<e)(y:β j=t)(T:jd e s i t (β b7))(k6:β b7<=1000000000){Q:FuncId}{X Y:ύ}{f:R->R->Int}(z:jO g i j B b7 Q X Y f)(C:∀k7∈b7,jN e M k7):
  AC δ w [s,.v (.int .i64 (β b7:Int)),.bG Q X Y] (W g i j B b7) λl3 p=>∃V,(V.Perm b7/\(gp f->cF f (el V) 0 (β b7)))/\p=W g i j B V:=by
 have l4:=T.cl;have Z:β b7<=1000000000000:=ε;have D:=T;have E:=Z;obtain⟨b,k8⟩:∃b,β b7=b:=⟨_,rfl⟩;rw[k8]at k6 Z T|-;refine aM hm k5 ?_;refine ck [0,1,2,6] (λa:Nat×ύ=>[(7,.v (.int .i64 (a.1))),(8,.v (.int .i64 ((a.1+20:Nat))))]) (λa p=>p=W g i j B a.2/\a.2.Perm b7/\(gp f->s9 f (el a.2) a.1)/\a.1<=b) (λa=>b - a.1) (0,b7) ⟨⟨rfl,.refl _,λ_=>⟨abN _,λa _ c=>by dsimp only at c;omega⟩,a7Y _⟩,aK⟩ ?_;rintro⟨d,k2⟩ _ ⟨rfl,l,F,m⟩ l5
 dsimp only at l F m|-
 refine aa ?_;refine ay (λk9=>?_) λk9=>?_
 .refine ak (Ij I x y D E ε ε z k2 l C) ?_;rintro _ _⟨n,⟨r,hm,k⟩,rfl⟩;refine aa ?_;exact⟨(d+20,n),⟨rfl,r,λc=>(F c).step hm (k c),by show d+20<=b;omega⟩,⟨rfl,rfl⟩,by show b -(d+20)<b - d;omega⟩
 .refine ak (Ij I x y D E ε ε z k2 l C) ?_;rintro _ _⟨n,⟨r,hm,k⟩,rfl⟩;have l0:=λc=>(F c).done hm (k c) ε;clear F hm k;refine aa ?_;refine ck [0,1,2] (λa:Nat×ύ=>[(6,.v (.int .i64 (a.1)))]) (λa p=>p=W g i j B a.2/\a.2.Perm b7/\(gp f->po f (el a.2) a.1 b)/\0<a.1/\a.1<=20+2*b) (λa=>b - a.1) (20,n) ⟨⟨rfl,r,l0,by show 0<20;omega,by show 20<=20+2*b;omega⟩,aK⟩ ?_;rintro⟨aN,k3⟩ _ ⟨rfl,q,u,G,l1⟩ b9
  dsimp only at q u G l1|-
  refine aa ?_;refine ay (λc2=>?_) λc2=>?_
  .have l6:2*(aN)=((2*aN:Nat):Int):=ε;refine ck [0,1,2,6] (λa:Nat×ύ=>[(7,.v (.int .i64 (a.1))),(8,.v (.int .i64 ((a.1+2*aN:Nat))))]) (λa p=>p=W g i j B a.2/\a.2.Perm b7/\(gp f->pq f (el a.2) aN b a.1)/\a.1<=b) (λa=>b - a.1) (0,k3) ⟨⟨rfl,q,λc=>.start (u c) G,a7Y _⟩,by rw[a7X];exact aK⟩ ?_;rintro⟨d,v⟩ _ ⟨rfl,L,P,m⟩ S
   dsimp only at L P m|-
   have l7:(d)+(aN)=((d+aN:Nat):Int):=rfl;refine aa ?_;refine ay (λaD=>?_) λaD=>?_
   .refine ak (wq K N O x y D E z C _ d (d+aN) (d+2*aN) (Χ _) ε ε ε v L) ?_;rintro _ _⟨h,⟨r,hm,k⟩,rfl⟩;refine aa ?_;exact⟨(d+2*aN,h),⟨rfl,r,λc=>(P c).step ε hm (k c),by show d+2*aN<=b;omega⟩,⟨rfl,σ⟩,by show b -(d+2*aN)<b - d;omega⟩
   .have k4:∀h:ύ,h.Perm b7->(gp f->po f (el h) (2*aN) b)->∃o:Nat×ύ,(W g i j B h=W g i j B o.2/\o.2.Perm b7/\(gp f->po f (el o.2) o.1 b)/\0<o.1/\o.1<=20+2*b)/\R.v (.int .i64 ((aN)*2))=.v (.int .i64 (o.1))/\b - o.1<b - aN:=λh c l2=>⟨(aN*2,h),⟨rfl,c,by rw[abb];exact l2,by show 0<aN*2;omega,by show aN*2<= _;omega⟩,rfl,by show b - aN*2<b - aN;omega⟩;refine ay (λaL=>?_) λaL=>?_
    .refine ak (wq K N O x y D E z C _ d (d+aN) b (Χ _) ε ε ε v L) ?_;rintro _ _⟨h,⟨r,hm,k⟩,rfl⟩;have:=k4 h r λc=>(P c).done G ε hm ε (λ_=>k c) λ_=>by omega
     exact aK
    .have:=k4 v L λc=>(P c).done G ε .refl ε (λ_=>by omega) λ_=>rfl;trivial
  .exact⟨_,ι,k3,⟨q,λc=>(u c).all ε⟩,rfl⟩
def a5l{d f h k o:FuncId}(y:cu δ 0 d=γ (vM f))(z:cu δ 0 f=γ (rP e M h b9))(C:cu δ 0 h=γ (pa e M))(D:cu δ 0 b9=γ (pb e M b9 k))(E:cu δ 0 k=γ (nc e M o))(F:cu δ 0 o=γ (lq e M))(G:0<e)(L:β j=t)(a:jd e s i t (β b7))(P:β b7<=1000000000){p:FuncId}{r x:ύ}{b:R->R->Int}(S:jO g i j B b7 p r x b)(T:∀V∈b7,jN e M V):
  AC δ d [s,.bG p r x] (W g i j B b7) λq l=>∃c,(c.Perm b7/\(gp b->cF b (el c) 0 (β b7)))/\l=W g i j B c:=by
 have u:=a.cl;have v:=a.len;refine aM hm y ?_;refine ak (a5k z C D E F G L a P S T) ?_;rintro _ _⟨m,n,rfl⟩;refine aa ?_;exact⟨_,ι,m,n,rfl⟩
end
variable{K:Type}
def eC(a:Int)(b:List K):List K:=if 0<=a/\a<β b then b.take a.toNat else b
structure jY(le:K->K->Prop)(lim:Int)(l rest:List K):Prop where
 dC:l.Pairwise le
 ho:0<=lim->β l<=lim.toNat
 up:rest≠[]->0<=lim/\β l=lim.toNat/\∀p∈l,∀q∈rest,le p q
theorem jY.nil{a:K->K->Prop}{b:Int}:jY a b [] ([]:List K):=⟨.nil,λ_=>a7Y _,λc=>absurd rfl c⟩
variable{N j2:Int}
theorem jY.add[DecidableEq K]{d:K->K->Prop}(W:∀L P S,d L P->d P S->d L S){f p:List K}(k:jY d N f p){r:K}{b:List K}(h:b.Perm (f++[r]))(y:b.Pairwise d):∃a,jY d N (eC N b) (p++a)/\(eC N b++a).Perm (f++[r]):=by
 have e:=h.length_eq;rw[Ρ,a8M]at e;unfold eC;split
 .rename_i z;have hm:=k.ho z.1;have q:β f=N.toNat:=ε;refine⟨b.drop N.toNat,⟨y.sublist (List.take_sublist _ _),λ_=>by rw[a7z];omega,λ_=>⟨z.1,by rw[a7z];omega,λo x C c=>?_⟩⟩,by rw[a8d];exact h⟩;have D:=y;rw[<-a8d N.toNat b,a8t]at D;rcases Ψ.1 c with c|c
  .obtain⟨_,_,T⟩:=k.up (List.ne_nil_of_mem c);by_cases E:o∈f
   .exact T o E C c
   .
    have g:o=r:=by have:=h.mem_iff.1 (a7J x);simp only[Ψ,a7H]at this;exact this.resolve_left E
    obtain⟨a,F⟩:∃a,a∈b.drop N.toNat:=by
     cases i:b.drop N.toNat with
     |nil=>have:=congrArg β i;rw[a7F,a7E]at this;omega
     |cons a j=>exact⟨a,σ⟩
    have l:=D.2.2 o x a F;by_cases V:a∈f
    .exact W _ _ _ l (T a V C c)
    .exfalso;have m:a=r:=by have:=h.mem_iff.1 (a7U F);simp only[Ψ,a7H]at this;exact this.resolve_left V
     subst g;subst m;have G:=h.count_eq a;rw[<-a8d N.toNat b,List.count_append,List.count_append,List.count_eq_zero_of_not_mem E]at G;have s:=List.count_pos_iff.2 x;have t:=List.count_pos_iff.2 F;simp at G;omega
  .exact D.2.2 o x C c
 .rename_i z;have n:p=[]:=by
   cases p with
   |nil=>rfl
   |cons u j=>obtain⟨G,v,_⟩:=k.up σ;omega
  subst n;exact⟨[],⟨y,λ_=>by omega,λk=>absurd rfl k⟩,by simpa using h⟩
def jY.skip{f:K->K->Prop}{b k:List K}(h:jY f N b k){o:List K}(r:0<=N)(x:β b=N.toNat)(y:∀c∈b,∀d∈o,f c d):jY f N b (k++o):=
 ⟨h.dC,h.ho,λ_=>⟨r,x,λc p d a=>by
  rcases Ψ.1 a with a|a
  .exact(h.up (List.ne_nil_of_mem a)).2.2 c p d a
  .exact y c p d a⟩⟩
def Ik{h:K->K->Prop}:∀ {c f:List K},(∀a∈c,∀b∈c,h a b->h b a->a=b)->c.Perm f->c.Pairwise h->f.Pairwise h->c=f
 |[],f,_,d,_,_=>(List.nil_perm.1 d).symm▸rfl
 |a::c,[],_,d,_,_=>by have:=d.length_eq;simp at this
 |a::c,b::f,hu,d,bQ,bW=>by
  rw[a7W]at bQ bW;have p:a=b:=by
   by_cases k:a=b
   .exact k
   .have r:a∈f:=by have:=d.mem_iff.1 (a8X (a:=a));simpa[k] using this
    have o:b∈c:=by have:=d.mem_iff.2 (a8X (a:=b));simpa[Θ k] using this
    exact hu a σ b (by simp[o]) (bQ.1 b o) (bW.1 a r)
  subst p;rw[Ik (λx y v z=>hu x (by simp[y]) v (by simp[z])) ((List.perm_cons a).1 d) bQ.2 bW.2]
def jY.done{c:K->K->Prop}{o D all p:List K}(E:jY c N o D)(f:(o++D).Perm all)(r:∀a∈all,∀b∈all,c a b->c b a->a=b)(k:p.Perm all)(e:p.Pairwise c):eC N p=o:=by
 have g:=(k.trans f.symm).length_eq;rw[Ρ]at g;by_cases F:D=[]
 .subst F;rw[a8u]at f;rw[a7E]at g;have:=Ik (λa G b L=>r a (k.mem_iff.1 G) b (k.mem_iff.1 L)) (k.trans f.symm) e E.dC;subst this;unfold eC;rw[if_neg];rintro⟨l,c2⟩;have:=E.ho l;omega
 .obtain⟨x,y,m⟩:=E.up F;have w:=a8l.2 F;have n:p.take (β o)=o:=by
   have q:∀(h z:List K)(d:List K),(∀a∈d,∀b∈d,c a b->c b a->a=b)->d.Perm (h++z)->d.Pairwise c->h.Pairwise c->(∀P∈h,∀S∈z,c P S)->d.take (β h)=h:=by
    intro h
    induction h with
    |nil=>intros;rfl
    |cons a h ih=>
     intro z d r f T V i;cases d with
     |nil=>have:=f.length_eq;simp at this
     |cons b d=>
      rw[a7W]at T V;have s:b=a:=by
       by_cases W:b=a
       .exact W
       .have j:a∈d:=by have:=f.mem_iff.2 (show a∈a::h++z by simp);simpa[Θ W] using this
        have t:c a b:=by
         have:=f.mem_iff.1 (a8X (a:=b));simp only[a8K,a7S,Ψ]at this;rcases this with C|C|C
         .exact absurd C W
         .exact V.1 b C
         .exact i a σ b C
        exact r b σ a (by simp[j]) (T.1 a j) t
      subst s;rw[a7I,aaa,ih z d (λu x v y=>r u (by simp[x]) v (by simp[y])) ((List.perm_cons b).1 f) T.2 V.2 (λP x S y=>i P (by simp[x]) S y)]
   exact q o D p (λa G b L=>r a (k.mem_iff.1 G) b (k.mem_iff.1 L)) (k.trans f.symm) e E.dC m
  unfold eC;rw[if_pos ⟨x,ε⟩,<-y];exact n
def pt(a:R):Ω:=match a with
 |.J xs _=>xs.map λb=>match b with
  |.v (.int _ c)=>c
  |_=>0
 |_=>[]
variable{n b5:Ω}{a7 h5 j1:Own}
def Il:pt (.J (ab n) a7)=n:=by simp[pt,ab,Function.comp_def]
def sa{a:cq}:gH a n b5=ζ↔cn a n<cn a b5\/cn a n=cn a b5/\n.getD 0 0<b5.getD 0 0:=by simp[gH]
def u4{b:cq}:ow b n b5<0↔gH b n b5=true:=by
 unfold ow;split
 .rename_i a;simp[a]
 .rename_i a;split<;>simp[a]
def a5m(f:cq):gp λa b:R=>ow f (pt a) (pt b):=by
 constructor
 .intro a b h;rw[u4,sa]at h;apply ab6.1;rw[u4,sa];omega
 .intro a b k c d;have c:=ab6.2 c;have d:=ab6.2 d;rw[u4,sa]at c d;apply ab6.1;rw[u4,sa];omega
variable{Q:List Ω}
def a5n{d:cq}(a:aw isRow Q j)(h:cF (λk o=>ow d (pt k) (pt o)) (el j) 0 (β j)):Q.Pairwise λp r=>gH d r p=false:=by rw[a8W];intro b c x f y;obtain⟨_,z,C,rfl⟩:=a.get (Τ x);obtain⟨_,D,E,rfl⟩:=a.get (Τ f);have:=h b c (a7Y _) y (by rw[a.len];exact f);rw[show el j b=.J (ab Q[b]) C by simp[el,z],show el j c=.J (ab Q[c]) E by simp[el,D]]at this;simp only[Il]at this;have:=ab6.2 this;rw[u4]at this;simpa using this
theorem a5o(b:cq)(P:Own)(x:Nat)(l0:bs b.at_)(u:b.ok x=ζ)(a11:1<=x)(a13:x<=8)(a:List Ω)(v:ύ)(j:R)(z:U)(S:bL z 1 j v)(l:aw isRow a v)(w:∀f∈a,β f=x)(A:∀f∈a,bs f)(a14:β a<=100000)(l1:a≠[]):
  AC δ 95 [b.V P,j] z λf m=>∃B C,C.Perm a/\C.Pairwise (λo D=>gH b D o=κ)/\aw isRow C B/\aq z m 1 (flat B) f:=by
 have a15:β b.at_<=8:=by have:=cq.kC u;omega
 have l2:=l.len;have a16:=S.one;have l3:=S.len;rw[l2]at l3;refine aM hm CI ?_;refine bg λy a18=>?_;generalize n:z.set y _=q;have H:z.sub q:=by subst n;exact aK
 have T:q y=γ (.cells [.v (.int .u8 (b.kind.toNat:Int)),.v (.int .i64 b.fA),.J (ab b.at_) P]):=by subst n;exact aK
 clear n;refine ck [1,2,8,9] (λk:Nat×R=>[(10,.v (.int .i64 (k.1))),(5,k.2)]) (λk m=>k.1<=β a/\∃h,aq q m 1 h k.2/\h=flat h/\aw isRow (a.take k.1) h) (λk=>β a - k.1) (0,.J [] .nil) ⟨⟨a7Y _,[],aq.nil ι,rfl,trivial⟩,aK⟩ ?_;rintro⟨c,a19⟩ p ⟨l4,h,r,E,d⟩ a27
 dsimp only at l4 r d|-
 have a29:=μ (r.1 _ _ T);refine aa ?_;refine ay (λl5=>?_) λl5=>?_
 .have l6:=a8l.2 l1;obtain⟨_,V,I,rfl⟩:=l.get (i:=c) (x:=a.getD c []) (by grind);obtain⟨_,l7,l8,rfl⟩:=l.get (i:=0) (x:=a.getD 0 []) (by simp[l6]);obtain⟨o,a30,e⟩:=S.get c _ V;obtain⟨K,M,l9⟩:=S.get 0 _ l7;have M:cU 1 j (.v (.int .i64 0))=γ K:=M;have N:=π H r.1;have a34:cO κ 1 p o=γ (.J (ab (a.getD c [])) I):=e.ld p N κ 1 ε (by simp[τ]);have a36:cO κ 1 p K=γ (.J (ab (a.getD 0 [])) l8):=l9.ld p N κ 1 ε (by simp[τ]);have n0:(ab (a.getD c [])).length=x:=by grind[bn,List.getD]
  have a38:(ab (a.getD 0 [])).length=x:=by rw[bn];grind
  have F:=fX (a:=a) (e:=c) (b:=[]) ε;generalize a.getD c []=f at*;generalize a.getD 0 []=a42 at*;refine aa ?_;refine aP (p8 b _ _ _ ε ε) ?_;refine ak (rr f I p (by rw[bn]at n0;omega)) ?_;rintro _ a43⟨n2,rfl⟩;have n3:=r.mono n2;refine aa ?_;refine gY (by simp[ba,τ]) σ λa47 n4=>?_;have O:=n3.mono (ν (b0:=.cells (flat [R.J (ab f) .any])) ι n4);have g:(flat h).length=c:=by rw[dg (d.cells λ_ _=>ρ),d.len,a7z];omega
  rw[E]at O;refine aa ?_;refine fN O ε (mU rfl) rfl (by rw[g];simp[flat,τ];omega) (by rw[g];simp[flat,τ];omega) λn5 a48 Q=>?_;refine aa ?_;refine⟨(c+1,n5),⟨by show c+1<=β a;omega,h++[.J (ab f) .any],?_,?_,?_⟩,⟨rfl,rfl⟩,ε⟩
  .rw[<-E]at Q;exact Q
  .conv=>lhs;rw[E]
   simp[flat,τ]
  .show aw isRow (a.take (c+1)) _;rw[F];exact d.snoc ⟨_,rfl⟩
 .obtain rfl:c=β a:=ε;rw[a8c]at d;have i:∀F∈h,β F.cells=1:=d.cells λ_ _=>ρ;have g:=d.len;have n9:h≠[]:=by grind
  obtain⟨s,post,a52,X,rfl,Y,Z,a00,a01,t⟩:=aq.wr r ε E i n9;have a02:s≠y:=by rintro rfl;rw[X]at T;cases T
  have k2:∀k3,(W p s [] post k3).read y=γ [.v (.int .u8 (b.kind.toNat:Int)),.v (.int .i64 b.fA),.J (ab b.at_) P]:=λk3=>μ ((ο _ _ a02.symm).trans (r.1 _ _ T));have a03:=λG L=>W.dq (B:=G) r.1 X i L a00 a01 t;have a04:jO p s [] post h 157 [] [.ptr y 0] (λk4 k5=>ow b (pt k4) (pt k5)):=⟨Φ,λG _ k4 a05 k5 a06=>by
   obtain⟨o,e,k6,rfl⟩:=d.mem a05;obtain⟨D,k7,a07,rfl⟩:=d.mem a06;have t:=w o e;have a56:=w D k7;simp only[Il];exact a4W b P k6 a07 o D _ y (k2 G) (A o e) (A D k7) l0 (by rw[t];exact u) ε⟩
  rw[Y];clear Y;refine ak (a5l GL GH GC GF GA Gy ε rfl Z ε a04 λF V=>⟨i F V,?_⟩) ?_
  .obtain⟨f,_,k6,rfl⟩:=d.mem V;rfl
  rintro _ _⟨G,⟨L,a08⟩,rfl⟩;clear E k2 i Z;refine aa ?_;obtain⟨C,a09,k8⟩:=d.perm L;have k9:=(a03 _ L).base H;rw[g]at k9;have a10:=a5n k8 (by rw[L.length_eq];exact a08 (a5m b));exact⟨_,ι,G,C,a09,a10,k8,k9⟩
def a5p(a:Rd): -9223372036854775808<=(hy a).1/\(hy a).1<9223372036854775808:=by
 unfold hy;split
 .constructor<;>simp
 .rename_i aN _;have b:=BitVec.two_mul_toInt_lt (x:=BitVec.ofNat 64 (fv aN)^^^9223372036854775808#64);have c:=BitVec.le_two_mul_toInt (x:=BitVec.ofNat 64 (fv aN)^^^9223372036854775808#64)
  dsimp only
  omega
def Im:∀(c:Nat)(d:Rd)(f:Ω),bs f->bs (iv c d f).1
 |0,_,_,b=>b
 |c+1,d,f,b=>by
  rw[iv];refine Im c _ _ ?_;split
  .intro h a;rcases Ψ.1 a with a|a
   .exact b h a
   .rw[a7H]at a;subst a;exact a5p d
  .exact b
def AT(d:Nat)(a:Rd):bs (hz d a).1:=by
 have b:∀c,bs (iv (dh a).1.toNat c []).1:=λc=>Im _ _ _ (λ_ b=>(a8f b).elim);unfold hz
 dsimp only
 generalize (if d<(dh a).1.toNat then lU (dh a).2 10 else(dh a).2)=c;split
 .exact b c
 .exact λ_ b=>(a8f b).elim
def AU{d:Type}{p:Rd->d×Rd}{f:d->Prop}(r:∀b,f (p b).1):∀(h:Nat)(b:Rd)(k:List d),(∀c∈k,f c)->∀c∈(fy p h b k).1,f c
 |0,_,_,o=>o
 |h+1,b,k,o=>by
  rw[fy];refine AU r h _ _ λc a=>?_;rcases Ψ.1 a with a|a
  .exact o c a
  .rw[a7H]at a;subst a;exact r b
structure kE(k:aj):Prop where
 az:bs k.az
 aE:bs k.aE
variable{O:ϊ}{c0:bO}
def a5q(a:nX e O=γ c0):(∀b∈c0.rows,bs b.1)/\∀d∈c0.kids,kE d:=by
 unfold nX at a;split at a
 .obtain rfl:=Δ a;have c:∀ {K:Type}{f:K->Prop},∀b∈([]:List K),f b:=λ_ a=>(a8f a).elim;exact⟨AU (f:=λb:Ω×Bool=>bs b.1) (λh=>AT _ _) _ _ _ c,AU (f:=kE) (λh=>kE.mk (AT _ _) (AT _ _)) _ _ _ c⟩
 .cases a
variable{A j6:aj}{H:af}
def wu(a:di H e A=γ c0):(∀b∈c0.rows,bs b.1)/\∀A∈c0.kids,kE A:=by
 unfold di at a;split at a
 .cases a
 split at a
 .cases a
 rename_i c hm;split at a
 .obtain rfl:=Δ a;exact a5q hm
 .cases a
structure cb where
 az:Ω
 aE:Ω
 cY:cq
 lim:Int
 cJ:Bool
abbrev cb.V(a:cb)(b c d:Own):ύ:=[.J (ab a.az) b,.J (ab a.aE) c,.v (.int .u8 (a.cY.kind.toNat:Int)),.v (.int .i64 a.cY.fA),.J (ab a.cY.at_) d,.v (.int .i64 a.lim),.v (.bool a.cJ)]
def cb.ok(a:cb)(b:Nat):Bool:=cV a.az a.aE b&&(if a.cJ=ζ then decide (a.lim=0)&&decide (a.cY.kind=0)&&decide (a.cY.fA=0)&&decide (β a.cY.at_=0)else a.cY.ok b&&decide (-1<=a.lim)&&decide (a.lim<=1000))
def Io(c:cb)(x y o:Own)(a:Nat)(p:a<=1000000000000)(z:β c.cY.at_<=1000000000000)(d:U):AC δ 42 [.agg (c.V x y o),.v (.int .i64 (a:Int))] d λC D=>D=d/\C=.v (.bool (c.ok a)):=by
 obtain⟨f,h,b,P,E⟩:=c
 dsimp only at*
 have F:=λd=>p8 b o a d p z;have S:=bn (n:=b.at_);have T:=fP b.kind 0 ε;refine aM hm Cu ?_;refine bg λV W=>?_;refine ay (λG=>?_) λG=>?_
 .refine ay (λc2=>?_) λc2=>?_
  .refine aP (mT _ f h _ _ _ p) ?_;refine ay (λaD=>?_) λaD=>?_
   .rw[cb.ok,aD,a8H]
   .rw[cb.ok,aD,a8J];cases E with
    |true=>
     refine aa ?_
     repeat' first|refine ay (λ_=>?_) λ_=>?_|trivial
     .have k:b.kind=0:=a8v.1 (by show b.kind.toNat=0;omega);refine aN ?_;simp[k]
     .rename_i r;have k:b.kind≠0:=λL=>by rw[L]at r;exact r rfl
      refine aN ?_;simp[k]
    |false=>
     refine aa ?_;refine aP (F _) ?_
     repeat' first|refine ay (λ_=>?_) λ_=>?_|trivial
  .have:cV f h a=false:=by simp[cV];omega
   rw[cb.ok,this,a8H]
 .have:cV f h a=false:=by simp[cV];omega
  rw[cb.ok,this,a8H]
def a5r(c:cb)(E F G:Own)(p r:U)(x:ύ)(y:R)(a:aq p r 1 x y):AC δ 94 [y,.agg (c.V E F G)] r λL P=>aq p P 1 (eC c.lim x) L:=by
 have i:=eG a;obtain⟨S,d,j,l⟩:=a.src;rw[a8m]at d;refine aM hm CH ?_;refine bg λm b=>?_;refine ay (λf=>?_) λf=>?_
 .refine ay (λc2=>?_) λc2=>?_
  .rw[eC,if_pos ⟨f,by rw[d];exact c2⟩];obtain⟨n,q,s,t,u⟩:=c
   dsimp only at*
   obtain⟨h,rfl⟩:=a9P f;obtain⟨z,⟨rfl,_⟩|⟨k,C,o,T,rfl,V,W,e,D,v,w,g⟩⟩:=a
   .simp at d;omega
   .obtain rfl:C=S:=ε;have A:cc 1 (.ar k C o 1) η (γ (.v (.int .i64 (h:Int)))) η=γ (.ar k h o 1):=hQ ε;refine aa ?_;refine⟨_,ι,ν z (Ν z b),.inr ⟨k,h,o,T,rfl,V,ν ι b _ _ W,e,?_,?_,ε,g⟩⟩
    .rw[a8m]at D|-;rw[<-D,a8G,a8P ε]
    .rw[a7z];omega
  .rw[eC,if_neg ε];exact⟨_,ν ι b,a⟩
 .rw[eC,if_neg ε];exact⟨_,ν ι b,a⟩
def cz(a:cb)(b:aj):Bool:=dE a.az a.aE b&&(if a.cJ=ζ then !mh a.az a.aE b.az b.aE else decide (a.lim≠0))
def a5s(b:cb)(x y z c d f:Own)(a:aj)(C:β a.sum=32)(o:β b.az<=1000000000000)(p:U):AC δ 83 [.agg (b.V x y z),.agg (ag a c d f)] p λD E=>E=p/\D=.v (.bool (cz b a)):=by
 have G:=(aV (a7:=c) (h5:=d) (j1:=f) C).all;obtain⟨h,k,L,P,F⟩:=b
 dsimp only at*
 refine aM hm CE ?_;refine bg λS T=>?_;refine cy λV W e g=>?_;generalize i:ag a c d f=j at*;refine ay (λr=>?_) λr=>?_
 .refine aP (zF _ h k a.az a.aE _ _ _ _ o) ?_;refine ay (λc2=>?_) λc2=>?_
  .refine aN ?_;rw[cz,dE,c2,aaV,a8H]
  .have:dE h k a=true:=by rw[dE,c2,decide_eq_true r];rfl
   rw[cz,this,a8J];cases F with
   |true=>refine aa ?_;refine aP (Gt _ h k a.az a.aE _ _ _ _ o) ?_;trivial
   |false=>refine aa ?_;trivial
 .refine aN ?_;rw[cz,dE,decide_eq_false ε,a8H,a8H]
def Ip{a b:Ω}(d:bs n)(f:bs b5)(h:bs a)(k:bs b):bs (dD n b5 a b).1/\bs (dD n b5 a b).2:=by
 unfold dD;split
 .exact⟨vv (λo p=>by omega) d h,vv (λo p=>by omega) f k⟩
 .exact⟨λ_ c=>(a8f c).elim,λ_ c=>(a8f c).elim⟩
def sb(a:cb)(b:aj)(c:Ω):Bool:=gS a.az a.aE b.az b.aE&&decide (cn a.cY c<iG a.cY (dD a.az a.aE b.az b.aE).1 (dD a.az a.aE b.az b.aE).2\/cn a.cY c=iG a.cY (dD a.az a.aE b.az b.aE).1 (dD a.az a.aE b.az b.aE).2/\c.getD 0 0<(dD a.az a.aE b.az b.aE).1.getD 0 0)
structure cb.In(q:cb):Prop where
 az:bs q.az
 aE:bs q.aE
 at_:bs q.cY.at_
def a5t(a:cb)(o:a.In)(F G p r x y e:Own)(b:aj)(L:kE b)(c:Ω)(g:bs c)(i:β b.sum=32)(A:β c=β a.az)(P:a.cY.ok (β a.az)=ζ)(f:U):AC δ 88 [.agg (a.V F G p),.agg (ag b r x y),.J (ab c) e] f λj l=>l=f/\j=.v (.bool (sb a b c)):=by
 have B:=(aV (a7:=r) (h5:=x) (j1:=y) i).all;obtain⟨_,H,_⟩:=cq.kC P;obtain⟨m,n⟩:=Ip o.az o.aE L.az L.aE;obtain⟨S,T,V,q,s⟩:=a
 dsimp only at*
 refine aM hm CG ?_;refine bg λz I=>?_;refine cy λW K M N=>?_;generalize O:ag b r x y=t at*;generalize h:(f.set z _).set W _=C;have D:f.sub C:=by subst h;exact aK
 have cl:C z=γ (.cells (cb.V ⟨S,T,V,q,s⟩ F G p)):=by subst h;exact aK
 have Q:C W=γ (.cells t):=by subst h;exact aK
 clear h;refine gs (vI _ S T b.az b.aE _ _ _ _ ε) λX d=>?_;have Y:=μ (d _ _ cl);refine aR λu E=>?_;have v:z≠u:=by rintro rfl;rw[d _ _ cl]at E;cases E
 have Z:=v.symm;have k2:=Ν (π D d) E;refine aa ?_;refine ay (λk=>?_) λk=>?_
 .obtain⟨w,c2⟩:=vN k;refine aP (a4X V p _ _ _ _ _ c _ m n g o.at_ w (by rw[c2];exact P) ε) ?_;refine⟨π D d,aN ?_⟩;rw[sb,k,a8J]
 .refine⟨π D d,aN ?_⟩;rw[sb,k,a8H]
abbrev lB(b:Nat)(a:cb)(c d f:Own)(h:Nat)(k:R)(o p r:Int)(x:R):ύ:=
 [.ptr b 0,.J (ab a.az) c,.J (ab a.aE) d,.v (.int .u8 (a.cY.kind.toNat:Int)),.v (.int .i64 a.cY.fA),.J (ab a.cY.at_) f,.v (.int .i64 a.lim),.v (.bool a.cJ),.v (.int .i64 (h:Int)),k,.v (.int .i64 o),.v (.int .i64 p),.v (.int .i64 r),x]
structure iH where
 eK:Nat
 q:cb
 ff:Own
 dK:Own
 fe:Own
 d:Nat
structure dI(A:iH)(b c:U)(a:Nat)(us:ύ)(L:R)(n:Int)(es:ύ)(ib:R):Prop where
 dG:b a=η
 x:∃kr d:Int,c a=γ (.cells (lB A.eK A.q A.ff A.dK A.fe A.d L n kr d ib))
 l:aq b c 1 us L
 w:fG b c es ib
 eg:c5 L≠γ a
 fg:c5 ib≠γ a
 lw:∀p,c5 L=γ p->c5 ib≠γ p
def dI.mono{c:iH}{d f h:U}{k:Nat}{o:ύ}{p:R}{r:Int}{x:ύ}{y:R}(a:dI c d f k o p r x y)(b:f.sub h):dI c d h k o p r x y:=
 ⟨a.dG,by obtain⟨z,C,a⟩:=a.x;exact⟨z,C,b _ _ a⟩,a.l.mono b,a.w.mono b,a.eg,a.fg,a.lw⟩
theorem dI.set{b:iH}{h k:U}{c:Nat}{o:ύ}{d:R}{z:Int}{p:ύ}{f:R}(a:dI b h k c o d z p f)(r x y:Int):dI b h (k.set c (.cells (lB b.eK b.q b.ff b.dK b.fe b.d d r x y f))) c o d r p f:=
 ⟨a.dG,⟨x,y,ξ _ _ _⟩,aq.other a.l a.dG a.eg,a.w.other a.dG a.fg,a.eg,a.fg,a.lw⟩
structure Iq(A:iH)(a:U)(b:Nat)(L ib:R)(q:Nat):Prop where
 n:a q=η
 x:q≠b
 l:c5 L≠γ q
 w:c5 ib≠γ q
def dI.fresh{d:iH}(a:dI d g w e j s N B b8)(b:w i=η):Iq d g e s b8 i:=
 ⟨Ν a.l.1 b,(by obtain⟨_,_,f⟩:=a.x;rintro rfl;rw[b]at f;cases f),(λc=>aq.has a.l c b),λc=>a.w.has c b⟩
def dI.wr{c:iH}(a:dI c g w e j s N B b8)(b:Iq c g e s b8 i)(d:bq):dI c g (w.set i d) e j s N B b8:=
 ⟨a.dG,(by obtain⟨f,h,k⟩:=a.x;exact⟨f,h,(ο _ _ b.x.symm).trans k⟩),aq.other a.l b.n b.l,a.w.other b.n b.w,a.eg,a.fg,a.lw⟩
theorem dI.base{c:iH}{d f h:U}{k:Nat}{o:ύ}{p:R}{r:Int}{x:ύ}{y:R}(a:dI c f h k o p r x y)(b:d.sub f):dI c d h k o p r x y:=by refine⟨Ν b a.dG,a.x,a.l.base b,?_,a.eg,a.fg,a.lw⟩;obtain⟨z,C,D⟩:=a.w;refine⟨π b z,C,D.imp_right ?_⟩;rintro⟨E,F,post,G,L,P⟩;exact⟨E,F,post,G,Ν b L,P⟩
def dI.wide{p:iH}(a:dI p w g e j s N B b8):dI p (res (fr e s b8) g) g e j s N B b8/\w.sub (res (fr e s b8) g):=by
 have y:w.sub (res (fr e s b8) g):=λz L b=>by
  have:¬fr e s b8 z:=by
   rintro(rfl|c|c)
   .rw[a.dG]at b;cases b
   .rw[aq.fresh a.l c]at b;cases b
   .obtain⟨_,_,⟨_,rfl|rfl⟩|⟨d,r,post,f,h,_,_,_,_,⟨rfl,_⟩|rfl⟩⟩:=a.w
    .cases c
    .cases c
    all_goals (obtain rfl:=Δ c;rw[h]at b;cases b)
  rw[lx this];exact a.l.1 _ _ b
 refine⟨⟨nf (.inl rfl),a.x,?_,?_,a.eg,a.fg,a.lw⟩,y⟩
 .obtain⟨_,k⟩:=a.l;refine⟨vP,k.imp_right ?_⟩;rintro⟨d,N,f,C,rfl,h,o⟩;exact⟨d,N,f,C,rfl,nf (.inr (.inl rfl)),o⟩
 .obtain⟨_,k,D⟩:=a.w;refine⟨vP,k,D.imp_right ?_⟩;rintro⟨d,r,post,f,h,o,E,F,G,x⟩;refine⟨d,r,post,f,nf (.inr (.inr ?_)),o,E,F,G,x⟩;rcases x with⟨rfl,_⟩|rfl<;>rfl
def dI.sort{p:iH}(a:dI p w g e B b8 N j s)(m:j≠[]):∃b c post,g=W g b c post j/\jd 41 s b (β c) (β j)/\b≠e/\∀d,d.Perm j->dI p w (W g b c post d) e B b8 N d s:=by
 obtain⟨D,E,⟨f,_⟩|⟨b,c,post,F,k,G,L,P,S,o⟩⟩:=a.w
 .trivial
 have r:c5 s=γ b:=by rcases o with⟨rfl,_⟩|rfl<;>rfl
 have x:b≠e:=by rintro rfl;exact a.fg r
 refine⟨b,c,post,(U.rC G).symm,⟨λy n=>?_,a.w.len.1,a.w.len.2⟩,x,λd h=>⟨a.dG,?_,?_,⟨ν D k,λf T=>E f (h.mem_iff.1 T),.inr ⟨b,c,post,F,k,ξ _ _ _,by rw[h.length_eq];exact L,P,by rw[h.length_eq];exact S,by rw[h.length_eq];exact o⟩⟩,a.eg,a.fg,a.lw⟩⟩
 .have z:(0)<=(y:Int):=ε;have C:(y:Int)<β j:=ε;rcases o with⟨rfl,rfl⟩|rfl
  .rw[iL z C,a8a,a7E,a7X]
  .rw[sT z C,a8a]
 .obtain⟨V,i,l⟩:=a.x;exact⟨V,i,(ο _ _ x.symm).trans l⟩
 .refine aq.other a.l k λf=>a.lw _ f r
theorem dI.tail{b:iH}{x:R}(f:dI b w g e B b8 N (s::j) x):∃a,cc 41 x (γ (.v (.int .i64 1))) η η=γ a/\a.cells=[a]/\(∀N o p,dI b w (g.set e (.cells (lB b.eK b.q b.ff b.dK b.fe b.d b8 N o p a))) e B b8 N j a)/\
  ∃c k,cU 41 x (.v (.int .i64 0))=γ (.ptr c k)/\cO ζ 37 g (.ptr c k)=γ (.agg (s.cells.take 37)):=by
 obtain⟨i,G,⟨l,_⟩|⟨c,h,post,d,m,L,P,K,n,C⟩⟩:=f.w
 .cases l
 have S:c5 x=γ c:=by rcases C with⟨rfl,_⟩|rfl<;>rfl
 have M:c≠e:=by rintro rfl;exact f.fg S
 have T:=G s σ;have q:flat (s::j)=s.cells++flat j:=rfl;rw[a7I]at P n C;have y:∀a:R,(c5 a=η\/c5 a=γ c)->((j=[]/\(a=.J [] .nil\/a=.J [] .zero))\/a=.bC c (h++s.cells).length (β j) (d - 1) 41)->∀N o p,dI b w (g.set e (.cells (lB b.eK b.q b.ff b.dK b.fe b.d b8 N o p a))) e B b8 N j a:=λa t D N o p=>by
  have V:c5 a≠γ e:=λr=>by simp_all
  have u:fG w g j a:=by refine⟨i,λv A=>G v (by simp[A]),D.imp_right λD=>?_⟩;refine⟨c,h++s.cells,post,d - 1,m,?_,ε,ε,ε,.inr D⟩;rw[L,q];simp
  exact⟨f.dG,⟨o,p,ξ _ _ _⟩,aq.other f.l f.dG f.eg,u.other f.dG V,f.eg,V,λO H r=>by
   rcases t with E|E
   .rw[E]at r;cases r
   .rw[E]at r;obtain rfl:=Δ r;exact f.lw _ H S⟩
 have z:∀k,k=β h->cO ζ 37 g (.ptr c k)=γ (.agg (s.cells.take 37)):=λk I=>by
  subst I;have Q:=μ L;have X:β h+37<=(h++flat (s::j)++post).length:=by grind
  simp_all [cO,aX,a9f]
 rcases C with⟨rfl,rfl⟩|rfl
 .by_cases W:1<d
  .refine⟨.bC c (1*41) (β j+1 - 1) (d - 1) 41,gy (e:=1) ε P W,rfl,y _ (.inr rfl) (.inr ?_),c,0,?_,z 0 rfl⟩
   .simp[T]
   .exact iL ε ε
  .obtain rfl:d=1:=ε;have F:j=[]:=a7y ε;subst F;refine⟨.J [] .zero,td rfl,rfl,y _ (.inl rfl) (.inl ⟨rfl,.inr rfl⟩),c,0,?_,z 0 rfl⟩;rfl
 .by_cases W:1<d
  .refine⟨.bC c (β h+1*41) (β j+1 - 1) (d - 1) 41,?_,rfl,y _ (.inr rfl) (.inr ?_),c,β h,?_,z _ rfl⟩
   .have Y:(1)<=((β j+1:Nat):Int):=ε;have c2:((β j+1:Nat):Int)<=d:=ε;have aD:(1:Int)<d:=ε;simp_all [cc,cH,Go.bw.intOf]
   .simp[T]
   grind[sT]
  .obtain rfl:d=1:=ε;have F:j=[]:=a7y ε;subst F;refine⟨.J [] .zero,?_,rfl,y _ (.inl rfl) (.inl ⟨rfl,.inr rfl⟩),c,β h,?_,z _ rfl⟩
   .rfl
   rfl
def hn(b:cb)(c:Int)(a:aj):Int:=if b.cJ=ζ/\0<a.live/\mh b.az b.aE a.az a.aE=ζ then IntKind.i64.wrap (c+a.live)else c
def a5u(b:cb)(d:Int)(a:aj):(b.cJ=ζ/\0<a.live/\mh b.az b.aE a.az a.aE=ζ/\hn b d a=IntKind.i64.wrap (d+a.live))\/(¬(b.cJ=ζ/\0<a.live/\mh b.az b.aE a.az a.aE=ζ)/\hn b d a=d):=by
 unfold hn;split
 .rename_i c;exact .inl ⟨c.1,c.2.1,c.2.2,rfl⟩
 .rename_i c;exact .inr ⟨c,rfl⟩
theorem Ir(k:iH)(k7:k.q.In)(a43:k.q.cJ=κ->k.q.cY.ok (β k.q.az)=ζ)(O Q:U)(d:Nat)(X:ύ)(D:R)(o:Int)(E:ύ)(F:R)(p:dI k O Q d X D o E F)(a:aj)(a04:kE a)(s t u:Own)(k8:β a.sum=32)(a47:a.cL)(a99:β k.q.az<=8)(b00:β E<=100000000):
  AC δ 43 [.ptr d 0,.agg (ag a s t u)] Q λ_ y=>∃a48 k9,dI k O y d X D (hn k.q o a) k9 a48/\if cz k.q a=ζ then∃a05,nd a a05/\k9=E++[a05]else k9=E:=by
 obtain⟨G,r,l0⟩:=p.x;have v:=a5u k.q o a;generalize b01:hn k.q o a=x at*;have a52:=(aV (a7:=s) (h5:=t) (j1:=u) k8).all;refine aM hm Cv ?_;refine aR λw a56=>?_;generalize l1:bR (Ctx.of δ) (dv.seq (dv.seq (dv.draw _ _) _) _)=a57;refine aa ?_;subst l1;have l2:w≠d:=by rintro rfl;rw[a56]at l0;cases l0
 have b02:=l2.symm;generalize l3:Q.set w _=l4;have a06:Q.sub l4:=by subst l3;exact aK
 have cl:l4 w=γ (.cells (ag a s t u)):=by subst l3;exact ξ _ _ _
 have Y:=p.mono a06;have l5:=a06 _ _ l0;clear l3;generalize l6:ag a s t u=L at*;have l7:=μ cl;have dV:=μ l5;have a07:=ω l5;obtain⟨i,a61,j,l,P,m⟩:=k;obtain⟨b,c,f,S,z⟩:=a61
 dsimp only at*
 refine jy [0,3] (λ_:Unit=>[]) (λ_ y=>∃G,dI ⟨i,⟨b,c,f,S,z⟩,j,l,P,m⟩ O y d X D x E F/\y w=γ (.cells L)/\y d=γ (.cells (lB i ⟨b,c,f,S,z⟩ j l P m D x G r F))) ?_ ?_
 .cases z with
  |false=>obtain rfl:x=o:=(v.resolve_left (λp=>by cases p.1)).2;refine aa ?_;exact⟨(),G,rfl⟩
  |true=>
   refine aa ?_;refine ay (λV=>?_) λV=>?_
   .refine aP (Gt l4 b c a.az a.aE _ _ _ _ ε) ?_;refine ay (λc2=>?_) λc2=>?_
    .obtain rfl:x=IntKind.i64.wrap (o+a.live):=(v.resolve_right (λp=>p.1 ⟨rfl,V,c2⟩)).2.2.2;have l8:bj .add (.int .i64 o) (.int .i64 a.live)=γ (.int .i64 (IntKind.i64.wrap (o+a.live))):=rfl;have A:=Y.set (IntKind.i64.wrap (o+a.live)) G r;refine aa ?_;exact⟨(),G,rfl⟩
    .obtain rfl:x=o:=(v.resolve_left (λp=>by rw[c2]at p;cases p.2.2.1)).2;exact⟨(),G,Y,rfl⟩
   .obtain rfl:x=o:=(v.resolve_left (λp=>absurd p.2.1 V)).2;exact⟨(),G,Y,rfl⟩
 clear v;rintro _ Z⟨B,H,k2,l9⟩b03;have l7:=μ k2;have dV:=μ l9;have a07:=ω l9;refine aa ?_;rw[<-l6];refine aP (a5s ⟨b,c,f,S,z⟩ _ _ _ _ _ _ a k8 (by show β b<= _;omega) Z) ?_;rw[l6];refine ay (λV=>?_) λV=>?_
 .exact⟨_,ι,_,_,H,rfl⟩
 have b04:bj .add (.int .i64 r) (.int .i64 1)=γ (.int .i64 (IntKind.i64.wrap (r+1))):=rfl;obtain⟨b05,b06⟩:=H.w.len;have b07:=eG H.l;have W:=a52.1;have a62:=GU W;obtain⟨a63,_,_,_,n0⟩:=lv W (.v (.int .u64 0)) (.v (.int .u64 0)) (.v (.int .i64 0)) (.v (.int .i64 0));have n0:=n0 (.v (.int .i64 (IntKind.i64.wrap (r+1))));have a65:=(lv W (.v (.int .u64 0)) (.v (.int .u64 0)) (.v (.int .i64 0)) (.v (.int .i64 (IntKind.i64.wrap (r+1))))).1;have b08:=(lv W (.v (.int .u64 0)) (.v (.int .u64 0)) (.v (.int .i64 0)) (.v (.int .i64 (IntKind.i64.wrap (r+1))))).2.1;generalize k3:R.v (.int .i64 (IntKind.i64.wrap (r+1)))=T at*;generalize b09:L++[R.v (.int .u64 0),.v (.int .u64 0),.v (.int .i64 0),.v (.int .i64 0)]=b10 at*;generalize a08:L++[R.v (.int .u64 0),.v (.int .u64 0),.v (.int .i64 0),T]=n at*;have b11:T.cells=[T]:=by subst k3;rfl
 refine aa ?_;have A:=H.set x B (IntKind.i64.wrap (r+1));simp only[lB,k3]at A;refine aR λq C=>?_;have a68:=A.fresh C;have a69:w≠q:=by rintro rfl;rw[ο _ _ l2,k2]at C;cases C
 have b12:=a69.symm;have a71:d≠q:=by rintro rfl;rw[ξ]at C;cases C
 have b13:=a71.symm;generalize l1:bR (Ctx.of δ) (dv.seq (dv.seq (dv.draw _ _) _) _)=a57;refine aa ?_;subst l1;have a09:=ξ Z d (.cells [.ptr i 0,.J (ab b) j,.J (ab c) l,.v (.int .u8 (f.kind.toNat:Int)),.v (.int .i64 f.fA),.J (ab f.at_) P,.v (.int .i64 S),.v (.bool z),.v (.int .i64 (m:Int)),D,.v (.int .i64 x),.v (.int .i64 B),T,F]);have a10:=(ο Z (.cells [.ptr i 0,.J (ab b) j,.J (ab c) l,.v (.int .u8 (f.kind.toNat:Int)),.v (.int .i64 f.fA),.J (ab f.at_) P,.v (.int .i64 S),.v (.bool z),.v (.int .i64 (m:Int)),D,.v (.int .i64 x),.v (.int .i64 B),T,F]) l2).trans k2;generalize Z.set d _=a11 at*;have a73:=A.mono (ν (b0:=.cells n) ι C);have a13:=ν (b0:=.cells n) ι C _ _ a09;have a74:=ν (b0:=.cells n) ι C _ _ a10;have a81:=ξ a11 q (.cells n);generalize a11.set q _=b14 at*;clear a09 C A dV a07 l9 H k2 l7 a62 a63 n0 a65 a10 Y l5 cl;refine jy [0,3,4] (λ_:Nat×Nat×Int=>[]) (λn2 y=>dI ⟨i,⟨b,c,f,S,z⟩,j,l,P,m⟩ O y d X D x E F/\y q=γ (.cells (L++[.v (.int .u64 (n2.1:Int)),.v (.int .u64 (n2.2.1:Int)),.v (.int .i64 n2.2.2),T]))/\y d=γ (.cells [.ptr i 0,.J (ab b) j,.J (ab c) l,.v (.int .u8 (f.kind.toNat:Int)),.v (.int .i64 f.fA),.J (ab f.at_) P,.v (.int .i64 S),.v (.bool z),.v (.int .i64 (m:Int)),D,.v (.int .i64 x),.v (.int .i64 B),T,F])) ?_ ?_
 .have hm:gS b c a.az a.aE=true:=by rw[cz,Κ]at V;have:=V.1;rw[dE,Κ]at this;exact this.2
  obtain⟨a83,a84⟩:=vN hm;have dV:=μ a13;have l7:=μ a74;obtain⟨a14,a15⟩:=Ip k7.az k7.aE a04.az a04.aE
  dsimp only at a14 a15
  refine aa ?_;refine gs (vI _ b c a.az a.aE _ _ _ _ ε) λb15 n3=>?_;refine aR λa16 e=>?_;have a86:=a73.mono (π n3 (ν (b0:=.cells [.J (ab (dD b c a.az a.aE).1) .any,.J (ab (dD b c a.az a.aE).2) .any]) ι e));have n4:=n3 _ _ a13;have k4:=n3 _ _ a81;have a88:d≠a16:=by rintro rfl;rw[n4]at e;cases e
  have b16:=a88.symm;have a89:q≠a16:=by rintro rfl;rw[k4]at e;cases e
  have b17:=a89.symm;have b18:=μ n4;have b19:=μ k4;have b20:=ν (b0:=.cells [.J (ab (dD b c a.az a.aE).1) .any,.J (ab (dD b c a.az a.aE).2) .any]) ι e _ _ n4;have b21:=ν (b0:=.cells [.J (ab (dD b c a.az a.aE).1) .any,.J (ab (dD b c a.az a.aE).2) .any]) ι e _ _ k4;generalize b22:(dD b c a.az a.aE).1=k5 at*;generalize (dD b c a.az a.aE).2=n5 at*;cases z with
  |true=>refine aa ?_;exact⟨(0,0,0),by subst a08;rfl⟩
  |false=>
   refine aa ?_;refine aP (Ig f P _ _ k5 n5 _ a14 a15 k7.at_ a83 (by rw[a84];exact a43 rfl)) ?_;generalize iG f k5 n5/18446744073709551616=I;generalize iG f k5 n5%18446744073709551616=K;generalize k5.getD 0 0=id;have b23:=ω k4;have b24:β n=41:=by grind
   have b25:putAt n 37 [.v (.int .u64 (I:Int)),.v (.int .u64 (K:Int))]=L++[.v (.int .u64 (I:Int)),.v (.int .u64 (K:Int)),.v (.int .i64 0),T]:=by subst a08;exact(lv W _ _ _ _).2.2.1 _ _
   obtain⟨b26,_,_,a18,_⟩:=lv W (.v (.int .u64 (I:Int))) (.v (.int .u64 (K:Int))) (.v (.int .i64 0)) T;have a18:=a18 (.v (.int .i64 id));generalize b27:L++[R.v (.int .u64 (I:Int)),.v (.int .u64 (K:Int)),.v (.int .i64 0),T]=b28 at*;have b29:=λa90=>a86.wr a68 a90;refine aa ?_;exact⟨(I,K,id),rfl⟩
 rintro⟨n9,a00,id⟩ a19 ⟨a92,a27,a29⟩ b30
 dsimp only at a27
 obtain⟨a30,b31,_⟩:=lv W (.v (.int .u64 (n9:Int))) (.v (.int .u64 (a00:Int))) (.v (.int .i64 id)) T;generalize a94:L++[R.v (.int .u64 (n9:Int)),.v (.int .u64 (a00:Int)),.v (.int .i64 id),T]=g at*;have dV:=μ a29;have b32:=μ a27;refine aa ?_;refine gY (by simp[ba,ft,a30]) σ λa01 a34=>?_;have h:=a92.mono (ν (b0:=.cells (flat [R.agg g])) ι a34);have k6:=ν (b0:=.cells (flat [R.agg g])) ι a34 _ _ a29;have a95:c8 (a19.set a01 (.cells (flat [R.agg g]))) 41 (.ar a01 1 1 41)=γ (1,(R.agg g).cells):=by simp_all [flat,μ,ξ,ft,c8]
 generalize a19.set a01 _=a96 at*;have dV:=μ k6;refine aa ?_;refine fG.app (s:=.agg g) h.w a30 a95 ε λa36 y a02 l8 a38=>?_;have a97:=(a38 d h.fg (by rw[k6];simp)).trans k6;have b33:=ω a97;have b34:=a02.len.2;refine aa ?_;have a98:a96 d≠none:=by rw[k6];simp
 have a42:c5 a36≠γ d:=λa03=>(l8 d a03).elim h.fg a98;refine⟨_,ι,a36,E++[.agg g],⟨h.dG,⟨B,IntKind.i64.wrap (r+1),by subst k3;exact ξ _ _ _⟩,aq.other (aq.fW h.l a02.1 λM N=>a38 M (h.lw M N) (aq.has h.l N)) h.dG h.eg,a02.other h.dG a42,h.eg,a42,λM N a03=>(l8 M a03).elim (h.lw M N) (aq.has h.l N)⟩,.agg g,⟨k8,a47,s,t,u,n9,a00,id,IntKind.i64.wrap (r+1),?_⟩,rfl⟩;subst k3;subst a94;subst l6;rfl
def aw.lim{b:List Ω}{c:ύ}(a:aw isRow b c)(d:Int):aw isRow (eC d b) (eC d c):=by
 unfold eC;rw[a.len];split
 .exact a.take _
 .exact a
def qw(a:cb)(b:List Ω)(c:Int)(k:Ω)(o:Bool)(d:List Ω)(f:Int):Prop:=
 if(o&&ed a.az a.aE k)=ζ then(if a.cJ=ζ then d=b/\f=IntKind.i64.wrap (c+1)else f=c/\∃h:List Ω,h.Perm (b++[k])/\h.Pairwise (λp r=>gH a.cY r p=κ)/\d=eC a.lim h)else d=b/\f=c
theorem a5v(c:iH)(l6:c.q.In)(l7:c.q.cJ=κ->c.q.cY.ok c.d=ζ)(s i:U)(x:Nat)(L:ύ)(k:List Ω)(C:R)(o:Int)(t:ύ)(P:R)(y:dI c s i x L C o t P)(j:aw isRow k L)(l8:∀a∈k,β a=c.d)(l9:∀a∈k,bs a)(n0:1<=c.d)(n2:c.d<=8)(a29:β c.q.az=c.d)(a30:β k<=90000)(a:Ω)(D:Bool)(d:Own)(n3:β a=c.d)(n4:bs a):
  AC δ 48 [.ptr x 0,.agg [.J (ab a) d,.v (.bool D)]] i λ_ n5=>∃S p u T,dI c s n5 x S u T t P/\aw isRow p S/\qw c.q k o a D p T:=by
 obtain⟨Y,Z,b⟩:=y.x;refine aM hm Cx ?_;refine bg λv n9=>?_;rw[ft];have a00:v≠x:=by rintro rfl;rw[n9]at b;cases b
 have a34:=a00.symm;generalize w:i.set v _=E;have k2:i.sub E:=by subst w;exact aK
 have cl:E v=γ (.cells [.J (ab a) d,.v (.bool D)]):=by subst w;exact ξ _ _ _
 have A:=y.mono k2;have B:=k2 _ _ b;clear w;have a36:=μ cl;have dV:=μ B;have a38:=ω B;obtain⟨a01,V,k3,k4,H,k5⟩:=c;obtain⟨W,e,l,F,I⟩:=V
 dsimp only at*
 have K:(D&&ed W e a)=κ->∃S p u T,dI ⟨a01,⟨W,e,l,F,I⟩,k3,k4,H,k5⟩ s E x S u T t P/\aw isRow p S/\qw ⟨W,e,l,F,I⟩ k o a D p T:=λa02=>⟨L,k,C,o,A,j,by rw[qw,a02,if_neg σ];exact⟨rfl,rfl⟩⟩;cases D with
 |false=>refine aa ?_;exact⟨_,ι,K rfl⟩
 |true=>
 refine aa ?_;refine aP (Gr E W e a _ _ _ ε) ?_;refine ay (λm=>?_) λm=>?_
 .exact⟨_,ι,K (by rw[m];rfl)⟩
 clear K;cases I with
 |true=>have n:bj .add (.int .i64 o) (.int .i64 1)=γ (.int .i64 (IntKind.i64.wrap (o+1))):=rfl;have h:=A.set (IntKind.i64.wrap (o+1)) Y Z;refine aa ?_;exact⟨_,ι,L,k,C,_,h,j,by rw[qw,if_pos (by rw[m];rfl),if_pos rfl];exact⟨rfl,rfl⟩⟩
 |false=>
 refine aa ?_;refine gY (by simp[ba,τ]) σ λM k6=>?_;have h:=A.mono (ν (b0:=.cells (flat [R.J (ab a) d])) ι k6);have k7:=ν (b0:=.cells (flat [R.J (ab a) d])) ι k6 _ _ B;have a03:c8 (E.set M (.cells (flat [R.J (ab a) d]))) 1 (.ar M 1 1 1)=γ (1,[R.J (ab a) d]):=mU rfl;generalize E.set M _=k8 at*;have a42:=eG y.l;have k9:=j.len;obtain⟨a43,a04,l0,a47,N⟩:=aq.wide h.l;refine aa ?_;refine fN a04 ε a03 rfl (by simp[k9];omega) (by simp[k9];omega) λa05 l1 G=>?_;have O:=G.1 _ _ (N x _ k7 h.eg);have a48:=μ O;refine aa ?_;have Q:aw isRow (k++[a]) (L++[.J (ab a) d]):=j.snoc ⟨d,rfl⟩;have a06:=bL.dq G ε Q.flat.symm (Q.cells λ_ _=>ρ);refine ak (a5o l H k5 l6.at_ (l7 rfl) n0 n2 (k++[a]) _ a05 l1 a06 Q (λX b=>?_) (λX b=>?_) Ι σ) ?_
 .rcases Ψ.1 b with b|b
  .exact l8 X b
  .rw[a7H]at b;subst b;exact n3
 .rcases Ψ.1 b with b|b
  .exact l9 X b
  .rw[a7H]at b;subst b;exact n4
 rintro a07 a08⟨a09,p,r,a10,l2,l3⟩;have a11:=l3.1 _ _ O;have a52:=μ a11;refine aa ?_;refine ak (a5r ⟨W,e,l,F,κ⟩ k3 k4 H l1 a08 _ a07 l3) ?_;rintro q a13 z;have a56:=eG z;have l4:=z.1 _ _ O;have a57:=ω l4;have a61:=μ l4;refine aa ?_;rw[l2.flat]at z;have a14:∀ {V d},k8 V=γ d->c5 C≠γ V->a13 V=γ d:=λy n=>z.1 _ _ (G.1 _ _ (N _ _ y n));have a15:=π l0 (π G.1 z.1);have a16:∀ {f},c5 q=γ f->∀ {d},k8 f=γ d->c5 C≠γ f->False:=λr _ y n=>by
  have:=aq.fresh z r;rw[G.1 _ _ (N _ _ y n)]at this;cases this
 have l5:c5 q≠γ x:=λg=>a16 g k7 h.eg;have a18:∀f,c5 P=γ f->c5 C≠γ f:=λf r g=>h.lw f g r;have a19:∀f,c5 q=γ f->c5 P≠γ f:=λf r g=>by
  have a62:=h.w.has g;simp_all [ab1]
 refine⟨_,ι,eC F a09,eC F p,q,o,⟨h.dG,⟨Y,Z,ξ _ _ _⟩,aq.other (z.base (π l0 G.1)) h.dG l5,(fG.fW h.w a15 λf d r a27=>a14 a27 (a18 f r)).other h.dG h.fg,l5,h.fg,a19⟩,l2.lim F,?_⟩;rw[qw,if_pos (by rw[m];rfl),if_neg σ];exact⟨rfl,p,r,a10,rfl⟩
def a5w(a:iH)(s:a.q.In)(t:a.q.cJ=κ->a.q.cY.ok a.d=ζ)(L p:U)(r:Nat)(D:ύ)(b:List Ω)(P:R)(S:Int)(T:ύ)(V:R)(d:dI a L p r D P S T V)(x:aw isRow b D)(u:∀k∈b,β k=a.d)(v:∀k∈b,bs k)(l1:a.d<=8)(w:β a.q.az=a.d)(l2:β b<=90000)(f:aj)(A:kE f)(y z C:Own)(W:β f.sum=32):
  AC δ 46 [.ptr r 0,.agg (ag f y z C)] p λk B=>dI a L B r D P S T V/\∃e,k=.v (.bool e)/\(e=ζ->a.q.cJ=κ/\0<=a.q.lim/\β b=a.q.lim.toNat/\(b=[]\/∃c,b.getLast?=γ c/\sb a.q f c=ζ)):=by
 obtain⟨l3,l4,E⟩:=d.x;have l5:=(aV (a7:=y) (h5:=z) (j1:=C) W).all;have H:=x.len;obtain⟨l6,g,_,l7⟩:=d.l.src;rw[a8m,H]at g;subst g;refine aM hm Cw ?_;refine bg λF I=>?_;rw[ft];have K:F≠r:=by rintro rfl;rw[I]at E;cases E
 have l8:=K.symm;generalize G:p.set F _=o;have i:p.sub o:=by subst G;exact aK
 have cl:o F=γ (.cells (ag f y z C)):=by subst G;exact ξ _ _ _
 have h:=d.mono i;have M:=i _ _ E;clear G;generalize N:ag f y z C=l9 at*;have n0:=μ cl;have dV:=μ M;obtain⟨n2,O,n3,n4,n5,n9⟩:=a;obtain⟨j,Q,X,l,Y⟩:=O
 dsimp only at*
 cases Y with
 |true=>refine aa ?_;exact⟨_,ι,h,κ,rfl,λd=>by cases d⟩
 |false=>
 refine aa ?_;refine ay (λZ=>?_) λZ=>?_
 .refine ay (λc2=>?_) λc2=>?_
  .refine ay (λaD=>?_) λaD=>?_
   .have m:b≠[]:=λk2=>aD (by rw[<-c2,k2];rfl);obtain⟨c,n⟩:∃c,b.getLast?=γ c:=⟨_,List.getLast?_eq_some_getLast m⟩;have q:=List.mem_of_getLast? n;have a00:=a8l.2 m;have k3:b[β b - 1]?=γ c:=by rw[<-List.getLast?_eq_getElem?];exact n
    have k4:=bL.dq h.l ε x.flat.symm (x.cells λ_ _=>ρ);obtain⟨_,k5,k6,rfl⟩:=x.get k3;obtain⟨k7,k8,k9⟩:=k4.get (β b - 1) _ k5;rw[show((β b - 1:Nat):Int)=l - 1 by omega]at k8;have a01:cO κ 1 o k7=γ (.J (ab c) k6):=k9.ld o ι κ 1 ε (by simp[τ]);have a02:=u c q;refine aa ?_;rw[<-N];refine aP (a5t ⟨j,Q,X,l,κ⟩ s _ _ _ _ _ _ _ f A c (v c q) W (by show β c=β j;omega) (by rw[w];exact t rfl) o) ?_;exact⟨_,ι,h,_,rfl,λl0=>⟨ε,.inr ⟨c,rfl,l0⟩⟩⟩
   .subst aD;exact⟨_,ι,h,ζ,rfl,λ_=>⟨ε,.inl (a7y ε)⟩⟩
  .exact⟨_,ι,h,κ,rfl,λd=>by cases d⟩
 .exact⟨_,ι,h,κ,rfl,λd=>by cases d⟩
def ox(a:cb)(c:bO):List Ω:=(c.rows.filter λb=>b.2&&ed a.az a.aE b.1).map Α
def mr(b:af)(c:Nat)(a:cb):Nat->aj->List Ω
 |0,_=>[]
 |h+1,d=>if cz a d=ζ then(match di b c d with
  |none=>[]
  |some f=>ox a f++f.kids.flatMap (mr b c a h))else []
def kF(c:af)(d:Nat)(b:cb):Nat->aj->Int
 |0,_=>0
 |h+1,a=>if 0<a.live/\mh b.az b.aE a.az a.aE=ζ then a.live else if cz b a=ζ then(match di c d a with
  |none=>0
  |some f=>(ox b f).length+(f.kids.map (kF c d b h)).sum)else 0
def ep(b:af)(c:Nat)(d:cb)(a:aj):List Ω:=mr b c d (cm a+1) a
def dS(b:af)(c:Nat)(d:cb)(a:aj):Int:=kF b c d (cm a+1) a
def Is:∀ {a:ϋ}{b:Nat},b∈a->b<=a.sum
 |d::a,b,c=>by
  rw[a8o];rcases a7S.1 c with rfl|c
  .omega
  .have:=Is c;omega
def wv(a:di H e A=γ c0)(b:j6∈c0.kids):cm j6<cm A:=by have c:=(GX a).1;have d:=Is (aaT (f:=cm) b);omega
def wx{c:af}{d:Nat}{f:cb}:∀(a:Nat)(b:aj),cm b<a->mr c d f a b=ep c d f b
 |0,_,p=>by omega
 |a+1,b,p=>by
  rw[ep,mr,mr];cases r:di c d b with
  |none=>rfl
  |some o=>
   have h:o.kids.flatMap (mr c d f a)=o.kids.flatMap (mr c d f (cm b)):=by
    rw[a9D,a9D];congr 1;refine a8I λk x=>?_;have:=wv r x;rw[wx a k ε];by_cases h:a=cm b
    .subst h;rw[wx _ k this]
    .rw[wx (cm b) k this]
   simp only[h]
 termination_by a=>a
def wy{c:af}{d:Nat}{f:cb}:∀(a:Nat)(b:aj),cm b<a->kF c d f a b=dS c d f b
 |0,_,p=>by omega
 |a+1,b,p=>by
  rw[dS,kF,kF];cases r:di c d b with
  |none=>rfl
  |some o=>
   have h:o.kids.map (kF c d f a)=o.kids.map (kF c d f (cm b)):=by
    refine a8I λk x=>?_;have:=wv r x;rw[wy a k ε];by_cases h:a=cm b
    .subst h;rw[wy _ k this]
    .rw[wy (cm b) k this]
   simp only[h]
 termination_by a=>a
variable{e2:cb}
section
def wz(a:cz e2 A=κ):ep H e e2 A=[]:=by rw[ep,mr,if_neg (by simp[a])]
def wA(b:cz e2 A=ζ)(a:di H e A=γ c0):ep H e e2 A=ox e2 c0++c0.kids.flatMap (ep H e e2):=by
 rw[ep,mr,if_pos b,a]
 dsimp only
 congr 1;rw[a9D,a9D];congr 1;exact a8I λd c=>wx _ _ (wv a c)
def It:∀(a:List aj),a.flatMap (ep H e e2)=(a.filter (cz e2)).flatMap (ep H e e2)
 |[]=>rfl
 |A::a=>by
  rw[a7R,It a];cases b:cz e2 A with
  |true=>rw[a9y b,a7R]
  |false=>rw[a9k (by simp[b]),wz b];rfl
abbrev nm(b:cb)(a:aj):Prop:=0<a.live/\mh b.az b.aE a.az a.aE=ζ
def wB(a:nm e2 A):dS H e e2 A=A.live:=by rw[dS,kF,if_pos a]
def wC(a:¬nm e2 A)(b:cz e2 A=κ):dS H e e2 A=0:=by rw[dS,kF,if_neg a,if_neg (by simp[b])]
def AV(b:¬nm e2 A)(c:cz e2 A=ζ)(a:di H e A=γ c0):dS H e e2 A=(ox e2 c0).length+(c0.kids.map (dS H e e2)).sum:=by
 rw[dS,kF,if_neg b,if_pos c,a]
 dsimp only
 congr 2;exact a8I λf d=>wy _ _ (wv a d)
def qx:∀ {l:Ω},(∀a∈l,0<=a)->0<=l.sum
 |[],_=>a9B _
 |a::l,b=>by
  have f:=b a σ;have h:=qx (l:=l) λc d=>b c (by simp[d]);rw[a8o];omega
def sc:∀(a:Nat)(A:aj),0<=kF H e e2 a A
 |0,_=>a9B _
 |a+1,A=>by
  rw[kF];split
  .rename_i d;omega
  split
  .split
   .omega
   .rename_i c0 _;have:=qx (l:=c0.kids.map (kF H e e2 a)) λf b=>by
     obtain⟨c,_,rfl⟩:=a7M.1 b;exact sc a c
    omega
  .omega
end
inductive sd(a:af)(d:Nat)(q:cb):aj->aj->Prop
 |refl (k:aj):sd a d q k k
 |snoc {k c b:aj}{n:bO} (h:sd a d q k c) (f:di a d c=γ n) (hk:b∈n.kids) (o:cz q b=ζ):sd a d q k b
def Iu(c:af)(d:Nat)(a:cb)(f:aj):Prop:=∃b,sd c d a f b/\cz a f=ζ/\cz a b=ζ/\di c d b=η
abbrev nn(b:Nat)(a:Ω×Ω):Prop:=a=([],[])\/gR b a
abbrev fU(a:Nat)(b:Ω×Ω)(c:Ω):Prop:=gR a b/\iB a b c
def Iv{f h:Ω×Ω}(c:nn e f)(d:nn e h):nn e (et f h)/\∀b,(fU e f b\/fU e h b)->fU e (et f h) b:=by
 have k:∀b,¬fU e (([],[]):Ω×Ω) b:=λb a=>by
  have:=iA.1 a.1.ok;simp at this;omega
 rcases c with rfl|c<;>rcases d with rfl|d
 .exact⟨.inl rfl,λb a=>a.elim (λa=>absurd a (k b)) (λa=>absurd a (k b))⟩
 .rw[p2 d];exact⟨.inr d,λb a=>a.elim (λa=>absurd a (k b)) id⟩
 .rw[zc c];exact⟨.inr c,λb a=>a.elim id (λa=>absurd a (k b))⟩
 .have o:=vx c d;exact⟨.inr o,λb a=>⟨o,zd c d (a.imp (·.2) (·.2))⟩⟩
def a5x(c:1<=e)(d:e<=8)(a:β n=e)(b:bs n):fU e (gM n) n:=by unfold gM;rw[if_pos ε];exact⟨⟨iA.2 ⟨c,d,a,a,λ_ _=>a9B _⟩,b,b⟩,λ_ _=>⟨a9B _,a9B _⟩⟩
def Iw{b:Nat}(p:1<=b)(r:b<=8):∀(h:List (Ω×Bool))(c:fY),(∀a∈h,β a.1=b/\bs a.1)->nn b c.aY->nn b (h.foldl eu c).aY/\(∀f,fU b c.aY f->fU b (h.foldl eu c).aY f)/\∀a∈h,a.2=ζ->fU b (h.foldl eu c).aY a.1
 |[],c,_,bW=>⟨bW,λ_ d=>d,λ_ d=>(a8f d).elim⟩
 |a::h,c,x,bW=>by
  have y:=x a σ;have step:nn b (eu c a).aY/\(∀f,fU b c.aY f->fU b (eu c a).aY f)/\(a.2=ζ->fU b (eu c a).aY a.1):=by
   unfold eu;split
   .have z:=a5x p r y.1 y.2;obtain⟨F,C⟩:=Iv bW (.inr z.1);exact⟨F,λf d=>C f (.inl d),λ_=>C _ (.inr z)⟩
   .rename_i d;exact⟨bW,λ_ d=>d,λG=>absurd G d⟩
  obtain⟨L,D,P⟩:=Iw p r h (eu c a) (λo k=>x o (by simp[k])) step.1;rw[a8j];refine⟨L,λf d=>D f (step.2.1 f d),λo k E=>?_⟩;rcases a7S.1 k with rfl|k
  .exact D _ (step.2.2 E)
  .exact P o k E
def Ix{f:Nat}:∀(h:List aj)(b:fY),(∀c∈h,nn f (c.az,c.aE))->nn f b.aY->nn f (h.foldl fw b).aY/\(∀a,fU f b.aY a->fU f (h.foldl fw b).aY a)/\∀c∈h,∀a,fU f (c.az,c.aE) a->fU f (h.foldl fw b).aY a
 |[],b,_,bW=>⟨bW,λ_ d=>d,λ_ d=>(a8f d).elim⟩
 |c::h,b,hk,bW=>by
  obtain⟨x,p⟩:=Iv bW (hk c σ);obtain⟨y,r,z⟩:=Ix h (fw b c) (λo k=>hk o (by simp[k])) x;rw[a8j];refine⟨y,λa d=>r a (p a (.inl d)),λo k a d=>?_⟩;rcases a7S.1 k with rfl|k
  .exact r a (p a (.inr d))
  .exact z o k a d
def a5y(a:fl e A=ζ)(b:kE A):nn e (A.az,A.aE):=by
 unfold fl at a;rw[a8Y]at a;rcases a with a|a
 .left;rw[decide_eq_true_eq]at a;subst a;rfl
 .rw[Κ]at a;have a:=a.2;split at a
  .simp only[Κ,decide_eq_true_eq]at a;left;rw[a7y a.1,a7y a.2]
  .exact .inr ⟨a,b.az,b.aE⟩
def Iy(o:1<=e)(p:e<=8)(k:di H e A=γ c0):(∀a∈c0.rows,a.2=ζ->fU e (A.az,A.aE) a.1)/\∀b∈c0.kids,∀c,fU e (b.az,b.aE) c->fU e (A.az,A.aE) c:=by
 have h:=o6 k;obtain⟨r,x⟩:=wu k;obtain⟨y,_,_⟩:=iR h.ok;have z:=qn h.ok;obtain⟨C,P,a3⟩:=Iw o p c0.rows ⟨0,β c0.rows,([],[])⟩ (λa d=>⟨y a d,r a d⟩) (.inl rfl);obtain⟨S,D,E⟩:=Ix c0.kids _ (λb f=>a5y (z b f) (x b f)) C;have F:(A.az,A.aE)=(fx c0).aY:=by rw[h.eq];rfl
 rw[F];exact⟨λa d G=>D _ (a3 a d G),λb f c L=>E b f c L⟩
def Iz{x:af}{c:Nat}{k:cb}(y:1<=c)(z:c<=8):∀(o:Nat)(d:aj)(b:Ω),b∈mr x c k o d->fU c (d.az,d.aE) b/\ed k.az k.aE b=ζ/\β b=c/\bs b
 |0,_,_,a=>(a8f a).elim
 |o+1,d,b,a=>by
  rw[mr]at a;split at a
  .cases f:di x c d with
   |none=>rw[f]at a;exact(a8f a).elim
   |some S=>
    rw[f]at a;obtain⟨D,E⟩:=Iy y z f;rcases Ψ.1 a with a|a
    .obtain⟨p,h,rfl⟩:=a7M.1 a;obtain⟨h,r⟩:=a9b.1 h;rw[Κ]at r;exact⟨D p h r.1,r.2,(iR (o6 f).ok).1 p h,(wu f).1 p h⟩
    .obtain⟨C,F,a⟩:=List.mem_flatMap.1 a;obtain⟨G,L,P⟩:=Iz y z o C b a;exact⟨E C F b G,L,P⟩
  .exact(a8f a).elim
def IA{c d:Nat->Nat}:∀(a:Nat),(∀b,b<a->c b<=d b)->((ψ a).map c).sum<=((ψ a).map d).sum
 |0,_=>Χ _
 |a+1,f=>by
  have h:=IA a λb k=>f b ε;have o:=f a ε;simp only[a9r,a8r,a7O,a8R,a9Y,a8o,aa6];omega
def a5z{a b:Int}(c:a<=N)(d:N<=b):mq j2 a b<=hj N j2:=by
 unfold mq hj;split
 .omega
 split<;>omega
def AW:(n.drop 1).getD e 0=n.getD (e+1) 0:=by simp[a7V,aae,aaO]
def least_le{c:cq}(k:c.ok e=ζ){f:Ω}(o:β n=e)(b:∀a,a<e->b5.getD a 0<=n.getD a 0/\n.getD a 0<=f.getD a 0):iG c b5 f<=cn c n:=by
 obtain⟨p,r,h⟩:=cq.kC k;unfold iG cn;split
 .rename_i d;obtain⟨_,_,x,_⟩:=h.resolve_right λb=>b.1 d;unfold wi s5;rw[show(n.drop 1).length=β c.at_ by rw[a7F];omega];refine IA _ λa y=>?_;rw[AW,AW,AW];have:=b (a+1) ε;exact a5z this.1 this.2
 .rename_i d;obtain⟨_,z,C,_⟩:=h.resolve_left λb=>d b.1;have:=b c.fA.toNat ε;split
  .unfold kB;omega
  .omega
abbrev hK(a:cq)(b c:Ω):Prop:=gH a c b=κ
def wD{a:cq}:hK a n b5↔ ¬(cn a b5<cn a n\/cn a b5=cn a n/\b5.getD 0 0<n.getD 0 0):=by rw[hK,<-Bool.not_eq_true,sa]
def AX{a:cq}(b c d:Ω)(f:hK a b c)(h:hK a c d):hK a b d:=by rw[wD]at*;omega
def a5A(d:e2.cY.ok e=ζ)(E:β e2.az=e)(b:sb e2 A b5=ζ)(f:fU e (A.az,A.aE) n)(c:ed e2.az e2.aE n=ζ)(p:β n=e):hK e2.cY b5 n:=by
 obtain⟨F,G,L⟩:=cq.kC d;rw[sb,Κ,decide_eq_true_eq]at b;obtain⟨hm,b⟩:=b;rw[ed,Κ,a7L]at c;obtain⟨r,c⟩:=c;have P:=iA.1 r;have h:=iA.1 f.1.ok;have x:dD e2.az e2.aE A.az A.aE=(Β max e2.az A.az,Β min e2.aE A.aE):=by rw[dD,if_pos hm]
 rw[x]at b;have k:∀a,a<e->(Β max e2.az A.az).getD a 0<=n.getD a 0/\n.getD a 0<=(Β min e2.aE A.aE).getD a 0:=λa y=>by
  have z:=vw (a:=max) (n:=e2.az) (b5:=A.az) (e:=a) ε (by have:=h.2.2.1;dsimp only at this;omega);have C:=vw (a:=min) (n:=e2.aE) (b5:=A.aE) (e:=a) ε (by have:=h.2.2.2.1;dsimp only at this;omega);have D:=f.2 a y;have o:=c a (a8B.2 ε);simp only[Κ,decide_eq_true_eq]at o
  dsimp only at D
  rw[z,C];unfold eo at o;omega
 have S:=least_le d p k;have T:=k 0 ε;rw[wD]
 dsimp only at b
 omega
structure IB(a:af)(d:Nat)(q:cb)(b:aj)(rows:List Ω)(n:Int):Prop where
 list:q.cJ=κ->n=0/\∃rest,jY (hK q.cY) q.lim rows rest/\(rows++rest).Perm (ep a d q b)
 count:q.cJ=ζ->rows=[]/\n=dS a d q b
structure AY where
 rows:List Ω
 rest:List Ω
 us:ύ
 L:R
 n:Int
 bF:List aj
 es:ύ
 ib:R
structure wE(a:af)(d:Nat)(b:aj)(A:iH)(B:U)(c:Nat)(x:AY)(f:U):Prop where
 at_:dI A B f c x.us x.L x.n x.es x.ib
 ou:aw isRow x.rows x.us
 rd:∀q∈x.rows,β q=d/\bs q
 jh:aw nd x.bF x.es
 or:∀k∈x.bF,sd a d A.q b k/\cz A.q b=ζ/\cz A.q k=ζ/\kE k/\1<=cm k
 nS:(x.bF.map cm).sum<=2097152
 qy:A.q.cJ=κ->x.n=0/\jY (hK A.q.cY) A.q.lim x.rows x.rest/\(x.rows++x.rest++x.bF.flatMap (ep a d A.q)).Perm (ep a d A.q b)
 q5:A.q.cJ=ζ->x.rows=[]/\0<=x.n/\x.n+(x.bF.map (dS a d A.q)).sum=dS a d A.q b
theorem AZ:∀ {ks:List aj},(∀a∈ks,1<=cm a)->β ks<=(ks.map cm).sum
 |[],_=>Χ _
 |a::ks,b=>by
  have:=AZ (ks:=ks) λa c=>b a (by simp[c]);grind
def wE.len{c:af}{d:Nat}{f:aj}{h:iH}{k:U}{o:Nat}{b:AY}{p:U}(a:wE c d f h k o b p):β b.es<=2097152:=by rw[a.jh.len];exact a8w (AZ λr x=>(a.or r x).2.2.2.2) a.nS
def a5B{f:K->K->Prop}{d:List K}{b c:K}(h:d.Pairwise f)(k:d.getLast?=γ b)(a:c∈d):f c b\/c=b:=by
 obtain⟨o,rfl⟩:=List.getLast?_eq_some_iff.1 k;rcases Ψ.1 a with a|a
 .exact .inl ((a8t.1 h).2.2 c a b σ)
 .exact .inr (by simpa using a)
def ie(a:cb)(c:List (Ω×Bool)):List Ω:=(c.filter λb=>b.2&&ed a.az a.aE b.1).map Α
def a5C{a:List (Ω×Bool)}:ie e2 (a++[(n,M)])=ie e2 a++if(M&&ed e2.az e2.aE n)=ζ then [n]else []:=by
 unfold ie;rw[a8S,a8r];congr 1;split<;>rename_i b
 .simp[a9T,b]
 .simp[a9T,b]
def a5D(a:n.Perm b5):n.sum=b5.sum:=by
 induction a with
 |nil=>rfl
 |cons b _ ih=>rw[a8o,a8o,ih]
 |swap b d n=>simp only[a8o];omega
 |trans _ _ h1 c=>exact h1.trans c
def IC{a:List (Ω×Bool)}:(ie e2 (a.take e)).length<=(ie e2 a).length:=by unfold ie;rw[a7Q,a7Q];exact((List.take_sublist e a).filter _).length_le
def a5E{b:List K}{c:K}(a:c∈eC N b):c∈b:=by
 unfold eC at a;split at a
 .exact a7J a
 .exact a
def ID:∀ {l:Ω}{i:Nat},(∀a∈l,0<=a)->(l.take i).sum<=l.sum
 |[],i,_=>by simp
 |a::l,0,b=>by rw[a9o];exact qx b
 |a::l,i+1,b=>by
  have:=ID (l:=l) (i:=i) λc d=>b c (by simp[d]);rw[aaa,a8o,a8o];omega
def IE{b:aj->Nat}{c:aj->Bool}:∀(a:List aj),((a.filter c).map b).sum<=(a.map b).sum
 |[]=>Χ _
 |f::a=>by
  have:=IE (b:=b) (c:=c) a;by_cases d:c f=ζ
  .rw[a9y d,a7O,a7O,a8o,a8o];omega
  .rw[a9k d,a7O,a8o];omega
def B0(a:cz e2 A=ζ)(b:e2.cJ=ζ):¬nm e2 A:=λc=>by
 rw[cz,b,if_pos rfl,c.2]at a;simp at a
def wrap_small(a:0<=N)(b:N<=9000000000000000000):IntKind.i64.wrap N=N:=Go.bw.wrap_i64 ε ε
theorem a5F(a:cb)(n:a.In)(n4:U)(a14 b36:Nat)(k:af)(b86:bz n4 a14 b36 k)(r:aj)(n5 n9 a00:Own)(b37:β r.sum=32)(b87:r.cL)(b38:kE r)(a47 a48 a52:Own)(f:Nat)(b39:a.ok f=ζ)(c84:r.size<=1048576)(b88:cz a r=ζ->1<=r.size)(b89:(ep k f a r).length<=50000)(b90:dS k f a r<=1000000000000):
  AC δ 21 [.ptr a14 0,.agg (ag r n5 n9 a00),.agg (a.V a47 a48 a52),.v (.int .i64 (f:Int))] n4 λG S=>n4.sub S/\
   ((Iu k f a r/\∃c H,G=.aJ [.agg [c,H],.v (.int .i64 0),.v (.int .i64 21)])\/
   ∃rows l0 F D k4,IB k f a r rows D/\aq n4 S 1 l0 F/\aw isRow rows l0/\(∀a∈rows,β a=f/\bs a)/\G=.aJ [.agg [F,.v (.int .i64 D)],.v (.int .i64 k4),.v (.int .i64 0)]):=by
 have b40:=b39;rw[cb.ok,Κ]at b40;obtain⟨l1,a56⟩:=b40;obtain⟨a15,c85,a98,a57⟩:=kl l1;have a01:a.cJ=κ->a.cY.ok f=true:=λh=>by
  rw[h,if_neg σ,Κ,Κ]at a56;exact a56.1.1
 have c86:β a.cY.at_<=8:=by
  cases b:a.cJ with
  |true=>rw[b,if_pos rfl]at a56;simp only[Κ,decide_eq_true_eq]at a56;omega
  |false=>have:=cq.kC (a01 b);omega
 have b91:=(aV (a7:=n5) (h5:=n9) (j1:=a00) b37).all;refine aM hm xC ?_;refine bg λa99 c87=>?_;refine cy λb41 Y c88 c89=>?_;refine gz λa61 b00 c90 c2 aD aL=>?_;generalize a16:((n4.set a99 _).set b41 _).set a61 _=I;have a62:n4.sub I:=by subst a16;exact aK
 have aZ:I a99=γ (.cells (ag r n5 n9 a00)):=by subst a16;exact aK
 have bt:I b41=γ (.cells (a.V a47 a48 a52)):=by subst a16;exact aK
 have bl:I a61=γ (.cells [.J [] .nil,.v (.int .i64 0)]):=by subst a16;exact aK
 clear a16;have b92:=b86.mono a62;refine aP (Io a _ _ _ f ε ε I) ?_;rw[b39];have b93:=μ aZ;have b94:=μ bt;refine aa ?_;refine aR λx a02=>?_;have b42:a99≠x:=by rintro rfl;rw[a02]at aZ;cases aZ
 have b95:=b42.symm;have b96:a61≠x:=by rintro rfl;rw[a02]at bl;cases bl
 have c91:=b96.symm;refine aa ?_
 let o:iH:=⟨a14,a,a47,a48,a52,f⟩;have b43:dI o I (I.set x (.cells (lB a14 a a47 a48 a52 f (.J [] .nil) 0 0 0 (.J [] .nil)))) x [] (.J [] .nil) 0 [] (.J [] .nil):=
  ⟨a02,⟨0,0,ξ _ _ _⟩,aq.nil (ν ι a02),⟨ν ι a02,(λ_ h=>by cases h),.inl ⟨rfl,.inl rfl⟩⟩,(λh=>by cases h),(λh=>by cases h),λ_ h=>by cases h⟩
 refine ak (Ir o n (λh=>by show a.cY.ok (β a.az)=ζ;rw[a15];exact a01 h) I _ x [] _ 0 [] _ b43 r b38 n5 n9 a00 b37 b87 (by show β a.az<=8;omega) σ) ?_;rintro _ b97⟨b98,b99,b01,a03⟩;have b02:∀(q:Int)(p:aj),a.cJ=κ->hn a q p=q:=λq p h=>by rw[hn,if_neg (by rw[h];simp)]
 have b03:∀(q:Int)(p:aj),¬nm a p->hn a q p=q:=λq p h=>by rw[hn,if_neg (λv=>h v.2)]
 have b44:∀(q:Int)(p:aj),a.cJ=ζ->nm a p->0<=q->q+p.live<=1000000000000->hn a q p=q+p.live:=λq p P v V K=>by
  rw[hn,if_pos ⟨P,v⟩,wrap_small (by have:=v.1;omega) ε]
 have a63:∃b45,wE k f r o I x ⟨[],[],[],.J [] .nil,hn a 0 r,b45,b99,b98⟩ b97:=by
  have c00:cm r<=2097152:=by unfold cm;omega
  have b46:∀a∈([]:List Ω),β a=f/\bs a:=λ_ h=>(a8f h).elim;split at a03
  .rename_i C;obtain⟨c01,b04,rfl⟩:=a03;refine⟨[r],b01,trivial,b46,⟨b04,trivial⟩,(λp b05=>?_),by simpa using c00,(λb=>⟨b02 _ _ b,.nil,by simp[o]⟩),λb=>?_⟩
   .obtain rfl:=a7H.1 b05;have:=b88 C;exact⟨.refl _,C,C,b38,by unfold cm;omega⟩
   .have c02:=B0 C b
    dsimp only
    rw[show hn a 0 r=0 from b03 _ _ c02];exact⟨rfl,a9B _,by simp[o]⟩
  .rename_i C;subst a03;have C:cz a r=false:=by simpa using C
   refine⟨[],b01,trivial,b46,trivial,(λp b05=>(a8f b05).elim),σ,(λb=>⟨b02 _ _ b,.nil,?_⟩),λb=>?_⟩
   .show([]++[]++[]:List Ω).Perm (ep k f a r);rw[wz C];exact .refl _
   .show _/\0<=hn a 0 r/\hn a 0 r+ _=dS k f a r;by_cases i:nm a r
    .have:=i.1;rw[wB i]at b90|-;rw[b44 0 r b i ε ε];exact⟨rfl,ε,σ⟩
    .rw[b03 _ _ i,wC i C];exact⟨rfl,ε,rfl⟩
 obtain⟨b45,a63⟩:=a63;refine aa ?_;refine ck [0,3,8,11] (λ_:AY=>[]) (λc S=>wE k f r o I x c S) (λc=>(c.bF.map cm).sum) _ ⟨a63,aK⟩ ?_;clear a63 b01 a03 b43 b93 b94 b42 b95 aZ bt b91 a02;rintro⟨rows,M,l0,F,D,k5,b06,c92⟩ S y c93;have N:=y.at_
 dsimp only at N
 have c94:=N;obtain⟨k4,a18,t⟩:=N.x;obtain⟨c95,c96⟩:=N.w.len;have dV:=μ t;refine aa ?_;refine ay (λj=>?_) λj=>?_;rotate_left;have b07:=y.jh.len
 .have c97:=j;have b47:b06=[]:=a7y ε;have c03:k5=[]:=a7y (by rw[b47]at b07;exact b07.symm);subst b47;subst c03;have c04:=ω (N.l.1 _ _ bl);have c98:=eG N.l;refine aa ?_;refine⟨_,ι,ν (π a62 N.l.1) b00,.inr ⟨rows,l0,F,D,k4,⟨λb=>?_,λb=>?_⟩,aq.other (N.l.base a62) b00 (λz=>?_),y.ou,y.rd,rfl⟩⟩
  .obtain⟨P,v,V⟩:=y.qy b;exact⟨P,M,v,by simpa[o] using V⟩
  .obtain⟨P,v,V⟩:=y.q5 b;exact⟨P,by simpa[o] using V⟩
  .have:=aq.fresh N.l z;rw[bl]at this;cases this
 have b07:=y.jh.len;have c05:b06≠[]:=by grind
 obtain⟨b48,b49,post,b50,b51,c99,b52⟩:=N.sort c05;obtain⟨d00,b53⟩:=jO.of (s:=S) (l:=b48) (j:=b49) (B:=post) (b7:=b06) (b9:=45) (ds:=[]) abY λb54 b08 c06 l1=>by
  obtain⟨p,_,P⟩:=y.jh.mem b08;obtain⟨w,_,v⟩:=y.jh.mem l1;obtain⟨j,b⟩:=GM P v;exact⟨j,λb09 _=>b _⟩
 rw[b50];clear dV b50;refine ak (zL GK GG GB GD Gz Gx ε rfl b51 (a8w y.len ε) b53 λz l2=>?_) ?_
 .obtain⟨p,_,P,_,l,m,u,c,H,id,a65,rfl⟩:=y.jh.mem l2;obtain⟨l3,l4,_⟩:=rR (a7:=l) (h5:=m) (j1:=u) (e:=c) (i:=H) (id:=id) (N:=a65) P;exact⟨l3,by rw[ft,aX,if_pos rfl,l4]⟩
 rintro _ _⟨b09,a04,rfl⟩;have a19:=b52 b09 a04;obtain⟨c07,k6,c08⟩:=y.jh.perm a04
 match b09,c07,c08,a04,k6,a19 with
 |[],_,_,a04,_,_=>exact absurd a04.length_eq (by simp_all)
 |z::a05,p::E,⟨c09,b55⟩,a04,k6,a19=>
 obtain⟨k4,a18,b10⟩:=a19.x;obtain⟨L,d01,d02,b11,d03,d04,c19,b56⟩:=a19.tail;generalize W S b48 b49 post (z::a05)=a68 at*;have dV:=μ b10;have b12:=ω b10;clear b52 b53 b51 t;obtain⟨a27,c20,l,m,u,c21,c22,c23,c24,rfl⟩:=c09;have b57:=(rR (a7:=l) (h5:=m) (j1:=u) (e:=c21) (i:=c22) (id:=c23) (N:=c24) a27).2.2.1;rw[ft,b57]at b56;have d05:=(aV (a7:=l) (h5:=m) (j1:=u) a27).all;have b58:=kv (a7:=l) (h5:=m) (j1:=u) a27;refine aa ?_;refine aR λa06 b13=>?_;have Z:x≠a06:=by rintro rfl;rw[b10]at b13;cases b13
 have b59:=Z.symm;refine aa ?_;have b14:(a68.set x (.cells (lB o.eK o.q o.ff o.dK o.fe o.d F D k4 a18 L))) a06=none:=(ο _ _ b59).trans b13;have b60:=(b11 D k4 a18).fresh b14;have b61:=(b11 D k4 a18).mono (ν (b0:=.cells (ag p l m u)) ι b14);rw[U.er a68 Z]at b61;have ha:((a68.set a06 (.cells (ag p l m u))).set x (.cells (lB o.eK o.q o.ff o.dK o.fe o.d F D k4 a18 L))) a06=γ (.cells (ag p l m u)):=(ο _ _ b59).trans (ξ _ _ _);generalize (a68.set a06 (.cells (ag p l m u))).set x _=b15 at*;clear b14 b11 c19 b56 b57 b12 dV a19 b58;obtain⟨c25,a29⟩:=b61.wide;have c26:res (fr x F L) b15 a06=γ (.cells (ag p l m u)):=by
  rw[lx];exact ha;rintro(h|h|h)
  .omega
  .exact b60.l h
  .exact b60.w h
 generalize res (fr x F L) b15=c27 at*;have d06:(k5.map cm).sum=cm p+(E.map cm).sum:=by rw[<-(k6.map cm).sum_nat];simp
 have a69:=λw A=>y.or w (k6.mem_iff.1 A);have c28:=y.nS
 dsimp only at c28
 obtain⟨b62,b63,b64,c29,d07⟩:=a69 p σ;have c30:β rows<=90000:=by
  cases b:a.cJ with
  |true=>obtain⟨P,_⟩:=y.q5 b;dsimp only at P;subst P;simp
  |false=>have V:=(y.qy b).2.2.length_eq;simp only[Ρ]at V;have:(ep k f o.q r).length<=50000:=b89;omega
 have c31:=λG B=>(y.rd G B).1;have c32:=λG B=>(y.rd G B).2;refine ak (a5w o n a01 c27 b15 x l0 rows F D a05 L c25 y.ou c31 c32 a57 a15 c30 p c29 l m u a27) ?_;rintro _ b65⟨k2,c06,rfl,c33⟩;have c34:=μ (k2.l.1 _ _ c26);refine aa ?_;refine ay (λl1=>?_) λl1=>?_
 .obtain⟨c35,c36,b16,c37⟩:=c33 l1;refine⟨⟨rows,M++ep k f a p,l0,F,D,E,a05,L⟩,⟨k2.base a29,y.ou,y.rd,b55,(λw A=>a69 w (by simp[A])),?_,λb=>?_,λb=>?_⟩,?_⟩
  .show(E.map cm).sum<= _;omega
  .obtain⟨a30,l5,l6⟩:=y.qy b;refine⟨a30,l5.skip c36 b16 (λa07 T G B=>?_),?_⟩
   .rcases c37 with z|⟨d08,c38,c39⟩
    .dsimp only at T;rw[z]at T;exact(a8f T).elim
    .obtain⟨c40,i,l7,_⟩:=Iz a98 a57 _ p G B;have P:=a5A (a01 b) a15 c39 c40 i l7;rcases a5B l5.dC c38 T with h|rfl
     .exact AX _ _ _ h P
     .exact P
   .refine abk ?_ l6;have z:=k6.flatMap_right (ep k f a);rw[a7R]at z;show(rows++(M++ep k f a p)++E.flatMap (ep k f a)).Perm (rows++M++k5.flatMap (ep k f a));simp only[a7P];exact .append_left _ (.append_left _ z)
  .rw[show o.q.cJ=a.cJ from rfl]at*;rw[c35]at b;cases b
  .show(E.map cm).sum<cm p+(E.map cm).sum;omega
 have b66:=(b92.mono a29).mono k2.l.1;refine ak (vj b65 a14 b36 k b66 p l m u a27 (λ_=>c20) f a98 a57) ?_;rintro G l8⟨b17,a71⟩;cases O:di k f p with
 |none=>
  rw[O]at a71;obtain rfl:=a71;have b67:=b17 _ _ (k2.l.1 _ _ (a29 _ _ bl));refine aa ?_;refine aR λQ k3=>?_;have c41:a61≠Q:=by rintro rfl;rw[b67]at k3;cases k3
  have d09:=c41.symm;have c04:=ω b67;refine aa ?_;have b68:=π a62 (π a29 (π k2.l.1 b17));refine⟨_,ι,ν (ν b68 (Ν b68 k3)) b00,.inl ⟨⟨p,b62,b63,b64,O⟩,_,_,rfl⟩⟩
 |some d=>
  rw[O]at a71;obtain⟨c,H,rfl,e00,e01,e02,a08,a34,a73,b18,_,_⟩:=a71;have a74:=k2.mono b17;obtain⟨l9,a36,a81⟩:=a74.x;have e03:=eG a08;have e04:=eG a34;refine aa ?_;refine aR λQ k3=>?_;have b69:x≠Q:=by rintro rfl;rw[a81]at k3;cases k3
  have b70:=b69.symm;have dV:=μ a81;have b12:=ω a81;have b08:bj .add (.int .i64 l9) (.int .i64 1)=γ (.int .i64 (IntKind.i64.wrap (l9+1))):=rfl;have b71:=bL.dq a08 ε rfl (a73.cells λ_ _=>dR.cells);have c42:=b71.len;rw[a73.len]at c42;have b19:(l8.set x (.cells (lB o.eK o.q o.ff o.dK o.fe o.d F D (IntKind.i64.wrap (l9+1)) a36 L))) Q=none:=(ο _ _ b70).trans k3;have b20:=(a74.set D (IntKind.i64.wrap (l9+1)) a36).mono (ν (b0:=.cells [.v (.int .u8 (d.kind.toNat)),c,H]) ι b19);rw[U.er l8 b69]at b20;refine aa ?_;have jw:((l8.set Q (.cells [.v (.int .u8 (d.kind.toNat)),c,H])).set x (.cells (lB o.eK o.q o.ff o.dK o.fe o.d F D (IntKind.i64.wrap (l9+1)) a36 L))) Q=γ (.cells [.v (.int .u8 (d.kind.toNat)),c,H]):=(ο _ _ b70).trans (ξ _ _ _);have b72:=(a74.set D (IntKind.i64.wrap (l9+1)) a36).fresh b19;have c43:∀a a83,l8 a=γ a83->¬fr x F L a->((l8.set Q (.cells [.v (.int .u8 (d.kind.toNat)),c,H])).set x (.cells (lB o.eK o.q o.ff o.dK o.fe o.d F D (IntKind.i64.wrap (l9+1)) a36 L))) a=γ a83:=λa a83 n hm=>by
   have l:a≠x:=λz=>hm (.inl z);have m:a≠Q:=by rintro rfl;rw[k3]at n;cases n
   rw[ο _ _ l,ο _ _ m];exact n
  generalize (l8.set Q (.cells [.v (.int .u8 (d.kind.toNat)),c,H])).set x _=b21 at*;have b22:∀ {b54:R}{a:Nat},c5 b54=γ a->b65 a=η->¬fr x F L a:=λl1 n hm=>by
   rcases hm with rfl|z|z
   .obtain⟨_,_,h⟩:=k2.x;rw[n]at h;cases h
   .exact aq.has k2.l z n
   .exact k2.w.has z n
  have b23:(res (fr x F L) l8).sub (res (fr x F L) b21):=λa a83 n=>by
   grind[hm,fr,nf,lx]
  have c44:=(bL.dq (aq.res a08 λa07 T=>b22 T (aq.fresh a08 T)) ε rfl (a73.cells λ_ _=>dR.cells)).mono (π (zT a34.1) b23);have b73:=(bL.dq (aq.res a34 λa07 T=>b22 T (Ν a08.1 (aq.fresh a34 T))) ε rfl (b18.cells λ_ _=>Ξ)).mono b23;obtain⟨c45,c46⟩:=b20.wide;have c47:res (fr x F L) b21 Q=γ (.cells [.v (.int .u8 (d.kind.toNat:Int)),c,H]):=by
   rw[lx];exact jw;rintro(h|h|h)
   .trivial
   .exact b72.l h
   .exact b72.w h
  generalize res (fr x F L) b21=a38 at*;have c48:=π a29 c46;clear c43 b22 b23 b71 a08 a34 dV b12 a81 a74 b20 jw b08 k3 b19 b66 c34;have b24:=(o6 O).ok;obtain⟨c49,_,_⟩:=iR b24;obtain⟨c50,b74⟩:=wu O;have a84:cz a p=true:=b64;have c51:a.cJ=κ->β rows+β M+(ie a d.rows).length<=50000:=λb=>by
   have V:(rows++M++k5.flatMap (ep k f a)).length=(ep k f a r).length:=(y.qy b).2.2.length_eq;have K:((p::E).flatMap (ep k f a)).length=(k5.flatMap (ep k f a)).length:=(k6.flatMap_right (ep k f a)).length_eq;rw[a7R,wA a84 O,Ρ,Ρ]at K;rw[Ρ,Ρ]at V;have z:(ox a d).length=(ie a d.rows).length:=rfl;omega
  have a86:a.cJ=ζ->rows=[]/\0<=D/\D+((ie a d.rows).length+(d.kids.map (dS k f a)).sum)+(E.map (dS k f a)).sum=dS k f a r:=λb=>by
   obtain⟨a30,l5,l6⟩:=y.q5 b;have K:((p::E).map (dS k f a)).sum=(k5.map (dS k f a)).sum:=a5D (k6.map (dS k f a));rw[a7O,a8o,AV (B0 a84 b) a84 O]at K;refine⟨a30,l5,?_⟩;have z:(ox a d).length=(ie a d.rows).length:=rfl;have l6:D+(k5.map (dS k f a)).sum=dS k f a r:=l6;omega
  refine ck [0,3,8,11,13,79,80] (λc:Nat×(List Ω)×(List Ω)×ύ×R×Int=>[(81,.v (.int .i64 (c.1)))]) (λc S=>c.1<=β d.rows/\dI o a38 S x c.2.2.2.1 c.2.2.2.2.1 c.2.2.2.2.2 a05 L/\aw isRow c.2.1 c.2.2.2.1/\(∀a∈c.2.1,β a=f/\bs a)/\(a.cJ=κ->c.2.2.2.2.2=0/\jY (hK a.cY) a.lim c.2.1 c.2.2.1/\(c.2.1++c.2.2.1).Perm (rows++M++ie a (d.rows.take c.1)))/\(a.cJ=ζ->c.2.1=[]/\c.2.2.2.2.2=D+(ie a (d.rows.take c.1)).length)) (λc=>β d.rows - c.1) (0,rows,M,l0,F,D) ⟨⟨a7Y _,c45,y.ou,y.rd,(λb=>⟨(y.qy b).1,(y.qy b).2.1,by simp[ie]⟩),λb=>⟨(y.q5 b).1,by simp[ie]⟩⟩,aK⟩ ?_;rintro⟨e,n0,X,a88,a89,k7⟩ c52 ⟨c53,a42,b25,n2,a09,k8⟩ l5
  dsimp only at c53 a42 b25 n2 a09 k8
  refine aa ?_;refine ay (λc2=>?_) λc2=>?_
  .have b75:e<β d.rows:=ε;obtain⟨_,l2,b26,rfl⟩:=a73.get (i:=e) (x:=d.rows.getD e ([],κ)) (by simp_all);obtain⟨a07,c54,T⟩:=c44.get e _ l2;have b76:∀S,a38.sub S->cO ζ 2 S a07=γ (.agg [.J (ab (d.rows.getD e ([],κ)).1) b26,.v (.bool (d.rows.getD e ([],κ)).2)]):=λS h=>T.ld S h ζ 2 ε (by simp[ft]);have c55:=b76 c52 a42.l.1;have hm:d.rows.getD e ([],κ)∈d.rows:=by simp_all
   have z:=fX (b:=([],κ)) b75;generalize d.rows.getD e ([],κ)=c56 at*;obtain⟨a10,a90⟩:=c56
   dsimp only at c55 z hm
   have b27:=c49 _ hm;have b28:=c50 _ hm
   dsimp only at b27 b28
   have c57:β n0<=90000:=by
    cases b:a.cJ with
    |true=>rw[(k8 b).1];simp
    |false=>have V:=(a09 b).2.2.length_eq;have K:=c51 b;have n3:=IC (e2:=a) (a:=d.rows) (e:=e);rw[Ρ,Ρ,Ρ]at V;omega
   clear b76 T l2;refine aa ?_;refine aR λe05 c58=>?_;have c59:=a42.mono (ν (b0:=.cells [.J (ab a10) b26,.v (.bool a90)]) ι c58);refine aa ?_;refine ak (a5v o n a01 a38 _ x a88 n0 a89 k7 a05 L c59 b25 (λG B=>(n2 G B).1) (λG B=>(n2 G B).2) a98 a57 a15 c57 a10 a90 b26 b27 b28) ?_;rintro _ e06⟨c60,a11,c61,a92,c62,c63,k9⟩;have b77:=a5C (e2:=a) (a:=d.rows.take e) (n:=a10) (M:=a90);rw[<-z]at b77;have c64:∃a94,(∀G∈a11,β G=f/\bs G)/\(a.cJ=κ->a92=0/\jY (hK a.cY) a.lim a11 a94/\(a11++a94).Perm (rows++M++ie a (d.rows.take (e+1))))/\(a.cJ=ζ->a11=[]/\a92=D+(ie a (d.rows.take (e+1))).length):=by
    have n3:=IC (e2:=a) (a:=d.rows) (e:=e+1);rw[b77]at n3|-;have k9:qw a n0 k7 a10 a90 a11 a92:=k9;unfold qw at k9;split at k9
    .rename_i l7;rw[if_pos l7]at n3|-;split at k9
     .rename_i b;obtain⟨rfl,rfl⟩:=k9;obtain⟨Z,a95⟩:=k8 b;obtain⟨_,b29,gs⟩:=a86 b;have b78:=qx (l:=d.kids.map (dS k f a)) λc t=>by
       obtain⟨j,_,rfl⟩:=a7M.1 t;exact sc _ j
      have b79:=qx (l:=E.map (dS k f a)) λc t=>by
       obtain⟨j,_,rfl⟩:=a7M.1 t;exact sc _ j
      rw[Ρ,a8M]at n3;refine⟨X,n2,(λh=>by rw[b]at h;cases h),λ_=>⟨Z,?_⟩⟩;rw[wrap_small ε ε,a95,Ρ,a8M];omega
     .rename_i b;have b:a.cJ=false:=by simpa using b
      obtain⟨rfl,a65,b80,c65,rfl⟩:=k9;obtain⟨Z,a95,c66⟩:=a09 b;obtain⟨b30,c67,c68⟩:=a95.add AX b80 c65;refine⟨X++b30,λG B=>?_,λ_=>⟨Z,c67,?_⟩,λh=>by rw[b]at h;cases h⟩
      .rcases Ψ.1 (b80.mem_iff.1 (a5E B))with h|h
       .exact n2 G h
       .rw[a7H]at h;subst h;exact⟨b27,b28⟩
      .have n5:(eC a.lim a65++(X++b30)).Perm (eC a.lim a65++b30++X):=by rw[a7P];exact .append_left _ aao
       have n9:=c68.append_right X;have a00:(n0++[a10]++X).Perm (n0++X++[a10]):=by rw[a7P,a7P];exact .append_left _ aao
       exact n5.trans (n9.trans (a00.trans (by rw[<-a7P];exact c66.append_right _)))
    .rename_i l7;rw[if_neg l7,a8u];obtain⟨rfl,rfl⟩:=k9;exact⟨X,n2,a09,k8⟩
   obtain⟨a94,c69,c70,c71⟩:=c64;refine aa ?_;exact⟨(e+1,a11,a94,c60,c61,a92),⟨b75,c62,c63,c69,c70,c71⟩,rfl,ε⟩
  obtain rfl:e=β d.rows:=ε;rw[a8c]at a09 k8;have e07:=μ (a42.l.1 _ _ c47);have c72:=b73.len;rw[b18.len]at c72;refine aa ?_;have c73:∀c∈d.kids.map (dS k f a),0<=c:=λc t=>by
   obtain⟨j,_,rfl⟩:=a7M.1 t;exact sc _ j
  have e08:=qx (l:=E.map (dS k f a)) λc t=>by
   obtain⟨j,_,rfl⟩:=a7M.1 t;exact sc _ j
  have e09:β E<=2097152:=by have:=AZ (ks:=E) λw A=>(a69 w (by simp[A])).2.2.2.2;omega
  refine ck [0,3,8,11,90,91] (λc:Nat×ύ×R×Int=>[(92,.v (.int .i64 (c.1)))]) (λc S=>c.1<=β d.kids/\dI o a38 S x a88 a89 c.2.2.2 c.2.1 c.2.2.1/\aw nd (E++(d.kids.take c.1).filter (cz a)) c.2.1/\(a.cJ=κ->c.2.2.2=k7)/\(a.cJ=ζ->0<=c.2.2.2/\c.2.2.2+(((d.kids.take c.1).filter (cz a)).map (dS k f a)).sum=k7+((d.kids.take c.1).map (dS k f a)).sum)) (λc=>β d.kids - c.1) (0,a05,L,k7) ⟨⟨a7Y _,a42,by simpa using b55,λ_=>rfl,λb=>⟨by obtain⟨_,z⟩:=k8 b;obtain⟨_,a95,_⟩:=a86 b;show 0<=k7;omega,σ⟩⟩,aK⟩ ?_;rintro⟨g,b31,b81,Y⟩ b82 ⟨c74,a96,a13,b32,a97⟩ l6
  dsimp only at c74 a96 a13 b32 a97
  refine aa ?_;refine ay (λaD=>?_) λaD=>?_
  .have b83:g<β d.kids:=ε;obtain⟨_,l2,b33,c75,l3,l4,a43,rfl⟩:=b18.get (i:=g) (x:=d.kids.getD g aG) (by simp_all);obtain⟨a07,c54,T⟩:=b73.get g _ l2;have c76:=(aV (a7:=l3) (h5:=l4) (j1:=a43) b33).all;have e10:cO ζ 37 b82 a07=γ (.agg (ag (d.kids.getD g aG) l3 l4 a43)):=by have:=T.ld b82 a96.l.1 ζ 37 ε (by rw[ft];omega);rw[this,aX,if_pos rfl,ft,c76.2.1]
   have z:=fX (b:=aG) b83;have c77:d.kids.getD g aG∈d.kids:=by simp_all
   have b58:=kv (a7:=l3) (h5:=l4) (j1:=a43) b33;generalize d.kids.getD g aG=s at*;have b16:β b31<=100000000:=by have P:=a13.len;rw[Ρ]at P;have v:=a9i (cz a) (d.kids.take g);have V:=(iR b24).2.1;rw[a7z]at v;omega
   clear T l2;refine aa ?_;refine aR λe11 c78=>?_;have c79:=a96.mono (ν (b0:=.cells (ag s l3 l4 a43)) ι c78);refine aa ?_;refine ak (Ir o n (λh=>by show a.cY.ok (β a.az)=ζ;rw[a15];exact a01 h) a38 _ x a88 a89 Y b31 b81 c79 s (b74 s c77) l3 l4 a43 b33 c75 (by show β a.az<=8;omega) b16) ?_;rintro _ e12⟨c80,b84,a03,b34⟩;refine aa ?_;refine⟨(g+1,b84,c80,hn a Y s),⟨b83,a03,?_,λb=>?_,λb=>?_⟩,rfl,ε⟩
   .show aw nd (E++(d.kids.take (g+1)).filter (cz a)) b84;rw[z,a8S,<-a7P];split at b34
    .rename_i C;obtain⟨c01,b04,rfl⟩:=b34;have C:cz a s=true:=C;rw[a9y C];exact a13.snoc b04
    .rename_i C;have C:¬cz a s=true:=C;subst b34;rw[a9k C,a9N,a8u];exact a13
   .show hn a Y s=k7;rw[b02 _ _ b];exact b32 b
   .obtain⟨b35,c81⟩:=a97 b;obtain⟨_,b78⟩:=k8 b;obtain⟨_,b29,b79⟩:=a86 b;have b85:=ID (i:=g+1) c73;have e13:=qx (l:=((d.kids.take g).filter (cz a)).map (dS k f a)) λc t=>by
     obtain⟨j,_,rfl⟩:=a7M.1 t;exact sc _ j
    rw[<-aaG,z,a8r,a9Y,a7O,a8R,a8o,aa6]at b85;show 0<=hn a Y s/\hn a Y s+(((d.kids.take (g+1)).filter (cz a)).map (dS k f a)).sum=k7+((d.kids.take (g+1)).map (dS k f a)).sum;rw[z,a8S,a8r,a8r,a9Y,a9Y,a7O,a8R,a8o,aa6];by_cases i:nm a s
    .have C:¬cz a s=true:=λh=>B0 h b i;have:=i.1;rw[wB i]at b85|-;rw[a9k C,a9N,a8R,aa6,b44 Y s b i b35 ε];omega
    .rw[b03 _ _ i];by_cases C:cz a s=ζ
     .rw[a9y C,a9N,a7O,a8R,a8o,aa6];omega
     .rw[a9k C,a9N,a8R,aa6,wC i (by simpa using C)];omega
  .obtain rfl:g=β d.kids:=ε;rw[a8c]at a13 a97;have c82:=qn b24;have e14:=(GX O).1;have e15:=IE (b:=cm) (c:=cz a) d.kids;refine⟨⟨n0,X,a88,a89,Y,E++d.kids.filter (cz a),b31,b81⟩,⟨a96.base c48,b25,n2,a13,(λw A=>?_),?_,λb=>?_,λb=>?_⟩,?_⟩
   .rcases Ψ.1 A with A|A
    .exact a69 w (by simp[A])
    .obtain⟨V,K⟩:=a9b.1 A;obtain⟨_,c3,bS⟩:=kx (c82 w V);have l7:w.live≠0:=by rw[cz,Κ]at K;have n3:=K.1;rw[dE,Κ,decide_eq_true_eq]at n3;exact n3.1
     have:=c3 (bS l7);exact⟨.snoc b62 O V K,b63,K,b74 w V,by unfold cm;omega⟩
   .show((E++d.kids.filter (cz a)).map cm).sum<=2097152;rw[a8r,a9Y];omega
   .obtain⟨a30,l5,c83⟩:=a09 b;have l6:(rows++M++k5.flatMap (ep k f a)).Perm (ep k f a r):=(y.qy b).2.2;refine⟨(b32 b).trans a30,l5,?_⟩;show(n0++X++(E++d.kids.filter (cz a)).flatMap (ep k f a)).Perm (ep k f a r);refine abk ?_ l6;have Z:=k6.flatMap_right (ep k f a);rw[a7R,wA a84 O,It d.kids]at Z;refine abk (c83.append_right _) ?_;rw[a7P];refine .append_left _ (.trans ?_ Z);rw[a8A,show ie a d.rows=ox a d from rfl,a7P];exact .append_left _ aao
   .obtain⟨b35,c81⟩:=a97 b;obtain⟨b29,b78⟩:=k8 b;obtain⟨_,_,b79⟩:=a86 b;refine⟨b29,b35,?_⟩;show Y+((E++d.kids.filter (cz a)).map (dS k f a)).sum=dS k f a r;rw[a8r,a9Y];omega
   .show((E++d.kids.filter (cz a)).map cm).sum<cm p+(E.map cm).sum;rw[a8r,a9Y];omega
def IF{a:Ω}(b:e<β n)(c:¬(b5.getD e 0<=n.getD e 0/\n.getD e 0<=a.getD e 0)):ed b5 a n=false:=by rw[ed,r9 (e:=e) b (by simpa using c),aaV]
theorem a5G(d f a:Ω)(p r x:Own)(k:U)(y:β a<=1000000):
  AC δ 26 [eL d f p r,.J (ab a) x] k λz C=>C=k/\z=.v (.bool (ed d f a)):=by
 have F:=bn (n:=d);have G:=bn (n:=f);have L:=bn (n:=a);have P:=@cP d;have S:=@cP f;have T:=@cP a;refine aM hm MX ?_;refine bg λV W=>?_;refine aP (Hd d f _ _ (β a) _ y) ?_;refine ay (λh=>?_) λh=>?_
 .refine aN ?_;rw[ed,h,a8H]
 obtain⟨e,g,_⟩:=kl h;refine fO [1,2] (λb:Nat=>[(5,.v (.int .i64 b))]) (λb=>b<=β a/\∀c<b,(decide (eo d c<=eo a c)&&decide (eo a c<=eo f c))=ζ) (λb=>β a - b) 0 ⟨ε,λc D=>by omega⟩ aK ?_;rintro b⟨i,o⟩j;refine aa ?_;refine ay (λE=>?_) λE=>?_;rotate_left
 .refine aN ?_;rw[ed,h,ra λc D=>o c ε];rfl
 repeat' first|refine ay (λ_=>?_) λ_=>?_|trivial
 .rw[IF (e:=b) ε ε]
 .exact⟨b+1,⟨ε,upto o (by grind)⟩,rfl,ε⟩
 .rw[IF (e:=b) ε ε]
def a5H(c:cb)(o p h:Own)(b:Nat)(r:b<=1000000)(x:β c.cY.at_<=1000000000000)(d:U):AC δ 11 [.agg (c.V o p h),.v (.int .i64 (b:Int))] d λy z=>z=d/\y=.v (.bool (c.ok b)):=by
 obtain⟨C,D,a,L,E⟩:=c
 dsimp only at*
 have F:=λd=>tN a h b d ε x;have P:=bn (n:=a.at_);have S:=fP a.kind 0 ε;refine aM hm Mt ?_;refine bg λT V=>?_;refine aP (Hd C D _ _ b _ r) ?_;refine ay (λaD=>?_) λaD=>?_
 .refine aN ?_;rw[cb.ok,aD,a8H]
 .rw[cb.ok,aD,a8J];cases E with
  |true=>
   refine aa ?_
   repeat' first|refine ay (λ_=>?_) λ_=>?_|trivial
   .have f:a.kind=0:=a8v.1 (by show a.kind.toNat=0;omega);refine aN ?_;simp[f]
   .rename_i k;have f:a.kind≠0:=λG=>by rw[G]at k;exact k rfl
    refine aN ?_;simp[f]
  |false=>
   refine aa ?_;refine aP (F _) ?_
   repeat' first|refine ay (λ_=>?_) λ_=>?_|trivial
abbrev df(a:cb)(b:List Ω):List Ω:=b.filter (ed a.az a.aE)
def np(a:bO):List Ω:=(a.rows.filter Prod.snd).map Α
def eW(f:af)(h:Nat):Nat->aj->List Ω->Prop
 |0,a,b=>a.live=0/\b=[]
 |o+1,a,b=>(a.live=0/\b=[])\/a.live≠0/\∃(c:bO)(d:List (aj×List Ω)),di f h a=γ c/\c.kids=d.map Α/\(∀k∈d,eW f h o k.1 k.2)/\b=np c++d.flatMap Prod.snd
def IG:∀(a:List (Ω×Bool))(b:fY),(a.foldl eu b).live=b.live+(((a.filter Prod.snd).map Α).length:Int)
 |[],b=>by simp
 |d::a,b=>by
  rw[a8j,IG a];unfold eu;split<;>rename_i c
  .simp[c];omega
  .simp[c]
def IH:∀(a:List aj)(b:fY),(a.foldl fw b).live=b.live+(a.map aj.live).sum
 |[],b=>by simp
 |c::a,b=>by rw[a8j,IH a];simp[fw];omega
def a5I(a:bO):(fx a).live=(np a).length+(a.kids.map aj.live).sum:=by unfold fx;rw[IH,IG];simp[np]
variable{e1:eT}
section
def eW.mono:∀ {b c:Nat}{d:aj}{f:List Ω},eW H e b d f->b<=c->eW H e c d f
 |0,0,_,_,a,_=>a
 |0,_+1,_,_,a,_=>.inl a
 |b+1,0,_,_,_,h=>by omega
 |b+1,c+1,_,_,a,h=>a.imp id λ⟨k,o,p,r,x,y,z⟩=>⟨k,o,p,r,x,λC D=>(y C D).mono ε,z⟩
def eW.cJ:∀ {f:Nat}{d:aj}{h:List Ω},eW H e f d h->d.live=β h
 |0,_,_,a=>by rw[a.1,a.2];rfl
 |f+1,d,h,a=>by
  rcases a with a|⟨_,o,b,p,r,k,rfl⟩
  .rw[a.1,a.2];rfl
  have x:d.live=(fx o).live:=by rw[(o6 p).eq];rfl
  have:∀b:List (aj×List Ω),(∀c∈b,eW H e f c.1 c.2)->((b.map Α).map aj.live).sum=((b.flatMap Prod.snd).length:Int):=by
   intro b
   induction b with
   |nil=>intro _;rfl
   |cons c b ih=>intro a;have y:=(a c σ).cJ;have z:=ih λc k=>a c (by simp[k]);simp only[a7O,a8o,a7R,Ρ];omega
  rw[x,a5I,r,this b k,Ρ];omega
def eW.o5(p:1<=e)(r:e<=8):∀ {x:Nat}{f:aj}{h:List Ω},eW H e x f h->∀b∈h,fU e (f.az,f.aE) b/\bJ e b
 |0,_,_,c,b,a=>by rw[c.2]at a;cases a
 |x+1,f,h,c,b,a=>by
  rcases c with c|⟨_,S,T,k,C,D,rfl⟩
  .rw[c.2]at a;cases a
  obtain⟨E,F⟩:=Iy p r k;rcases Ψ.1 a with a|a
  .obtain⟨o,d,rfl⟩:=a7M.1 a;obtain⟨d,G⟩:=a9b.1 d;exact⟨E o d G,(iR (o6 k).ok).1 o d,(wu k).1 o d⟩
  .obtain⟨y,z,a⟩:=List.mem_flatMap.1 a;obtain⟨L,P⟩:=(D y z).o5 p r b a;exact⟨F y.1 (by rw[C];exact aaT z) b L,P⟩
def II{a:Ω}(b:β a=e):ed n b5 a=ζ↔cV n b5 e=ζ/\iB e (n,b5) a:=by unfold ed;simp only[b,Κ,a7L,a8B,decide_eq_true_eq];rfl
def a5J{a:Ω}(b:fU e (A.az,A.aE) b5)(f:bJ e b5)(h:ed a n b5=ζ):gS a n A.az A.aE=true:=by
 obtain⟨c,k⟩:=(II f.len).1 h;have o:=iA.1 c;unfold gS mg;simp only[o.2.2.1,Κ,a7L,a8B,decide_eq_true_eq];refine⟨⟨c,b.1.ok⟩,λd n=>?_⟩;have:=k d n;have:=b.2 d n
 dsimp only at*
 unfold eo;omega
def a5K{b:Ω}(d:fU e (A.az,A.aE) b)(f:bJ e b)(a:mh b5 n A.az A.aE=ζ)(h:β b5=e):ed b5 n b=true:=by
 unfold mh mg at a;simp only[h,Κ,a7L,a8B,decide_eq_true_eq]at a;refine(II f.len).2 ⟨a.1.1,λc n=>?_⟩;have:=a.2 c n;have:=d.2 c n;unfold eo at*
 dsimp only at*
 omega
def wF(a:bO):ox e2 a=df e2 (np a):=by unfold ox df np;rw[List.filter_map,List.filter_filter];congr 2;funext b;simp[Bool.and_comm]
def shut(c:1<=e)(d:e<=8)(a:eW H e i A Q)(f:¬(A.live≠0/\gS e2.az e2.aE A.az A.aE=ζ)):df e2 Q=[]:=by rw[df,List.filter_eq_nil_iff];intro h b k;obtain⟨o,p⟩:=a.o5 c d h b;have r:=a.cJ;have:=aaj b;exact f ⟨ε,a5J o p k⟩
def IJ{c:aj->List Ω}:∀(b:List (aj×List Ω)),(∀a∈b,c a.1=df e2 a.2)->(b.map Α).flatMap c=df e2 (b.flatMap Prod.snd)
 |[],_=>rfl
 |a::b,d=>by
  rw[a7O,a7R,a7R,d a σ,IJ b λa f=>d a (by simp[f]),df,df,df,a8S]
def IK{c:aj->Int}:∀(b:List (aj×List Ω)),(∀a∈b,c a.1=(df e2 a.2).length)->((b.map Α).map c).sum=((df e2 (b.flatMap Prod.snd)).length:Int)
 |[],_=>rfl
 |a::b,d=>by
  rw[a7O,a7O,a8o,a7R,d a σ,IK b λa f=>d a (by simp[f]),df,df,df,a8S,Ρ];push_cast;rfl
def IL(k:1<=e)(o:e<=8)(p:e2.cJ=κ)(r:e2.lim≠0):∀ {c:Nat}{a:aj}{f:List Ω},eW H e c a f->ep H e e2 a=df e2 f
 |c,a,f,b=>by
  have h:cz e2 a=ζ↔a.live≠0/\gS e2.az e2.aE a.az a.aE=true:=by simp[cz,dE,p,r]
  by_cases d:cz e2 a=ζ
  .match c,b with
   |0,b=>exact absurd b.1 (h.1 d).1
   |c+1,.inl b=>exact absurd b.1 (h.1 d).1
   |c+1,.inr ⟨_,D,cs,x,hk,y,z⟩=>rw[wA d x,z,hk,wF,IJ cs λd C=>IL k o p r (y d C),df,df,df,a8S]
  .rw[wz (by simpa using d),shut k o b λb=>d (h.2 b)]
 termination_by c=>c
def IM(h:1<=e)(k:e<=8)(x:e2.cJ=ζ)(y:β e2.az=e):∀ {c:Nat}{b:aj}{o:List Ω},eW H e c b o->dS H e e2 b=(df e2 o).length
 |c,b,o,a=>by
  by_cases f:nm e2 b
  .rw[wB f,a.cJ,df,aab.2 λz C=>a5K (a.o5 h k z C).1 (a.o5 h k z C).2 f.2 y]
  have D:b.live≠0->0<b.live:=by have:=a.cJ;omega
  have p:cz e2 b=ζ↔b.live≠0/\gS e2.az e2.aE b.az b.aE=true:=by simp only[cz,dE,x,if_true,Κ,decide_eq_true_eq,a8V];refine⟨λa=>a.1,λa=>⟨a,?_⟩⟩;have:=λr=>f ⟨D a.1,r⟩;simpa using this
  by_cases d:cz e2 b=ζ
  .match c,a with
   |0,a=>exact absurd a.1 (p.1 d).1
   |c+1,.inl a=>exact absurd a.1 (p.1 d).1
   |c+1,.inr ⟨_,L,cs,E,hk,F,r⟩=>rw[AV f d E,r,hk,wF,IK cs λd G=>IM h k x y (F d G),df,df,df,a8S,Ρ];push_cast;rfl
  .rw[wC f (by simpa using d),shut h k a λa=>d (p.2 a)];rfl
 termination_by c=>c
def qz(a:cz e2 A=ζ):A.live≠0:=by rw[cz,Κ]at a;exact vQ a.1
def eW.kr(a:eW H e i A Q)(c:A.live≠0):∃(k:Nat)(b:bO),di H e A=γ b/\∀d∈b.kids,∃o,eW H e k d o:=by
 match i,a with
 |0,a=>exact absurd a.1 c
 |i+1,.inl a=>exact absurd a.1 c
 |i+1,.inr ⟨_,b,cs,p,hk,r,y⟩=>refine⟨i,b,p,λd f=>?_⟩;rw[hk]at f;obtain⟨h,x,rfl⟩:=a7M.1 f;exact⟨h.2,r h x⟩
def eW.a5L(d:eW H e i A Q):¬Iu H e e2 A:=by
 rintro⟨P,f,z,h,k⟩;have C:∀ {b c:aj},sd H e e2 b c->cz e2 b=ζ->(∃i Q,eW H e i b Q)->cz e2 c=ζ/\∃i Q,eW H e i c Q:=by
  intro b c d
  induction d with
  |refl=>exact λo a=>⟨o,a⟩
  |snoc o k h f ih=>intro D E;obtain⟨F,i,Q,a⟩:=ih D E;obtain⟨p,S,r,G⟩:=a.kr (qz F);rw[k]at r;obtain rfl:=Δ r;obtain⟨x,L⟩:=G _ h;exact⟨f,p,x,L⟩
 obtain⟨_,p,x,a⟩:=C f z ⟨i,Q,d⟩;obtain⟨_,T,y,_⟩:=a.kr (qz h);rw[k]at y;cases y
def IN{c:aj->List Ω}:∀(b:List (aj×List Ω)),(∀a∈b,(c a.1).length<=β a.2)->((b.map Α).flatMap c).length<=(b.flatMap Prod.snd).length
 |[],_=>Χ _
 |a::b,d=>by
  have h:=d a σ;have k:=IN b λa f=>d a (by simp[f]);simp only[a7O,a7R,Ρ];omega
def IP{c:aj->Int}:∀(b:List (aj×List Ω)),(∀a∈b,c a.1<=β a.2)->((b.map Α).map c).sum<=((b.flatMap Prod.snd).length:Int)
 |[],_=>a9B _
 |a::b,d=>by
  have h:=d a σ;have k:=IP b λa f=>d a (by simp[f]);simp only[a7O,a8o,a7R,Ρ];omega
def IQ:(df e2 Q).length<=β Q:=a9i _ _
def IS:∀ {a:Nat}{d:aj}{f:List Ω},eW H e a d f->(ep H e e2 d).length<=β f
 |a,d,f,c=>by
  by_cases b:cz e2 d=ζ
  .match a,c with
   |0,c=>exact absurd c.1 (qz b)
   |a+1,.inl c=>exact absurd c.1 (qz b)
   |a+1,.inr ⟨_,h,cs,k,hk,o,p⟩=>have x:=IN cs λb r=>IS (o b r);have y:=IQ (e2:=e2) (Q:=np h);rw[wA b k,p,hk,wF,Ρ,Ρ];omega
  .rw[wz (by simpa using b)];exact a7Y _
 termination_by a=>a
def IT:∀ {a:Nat}{d:aj}{f:List Ω},eW H e a d f->dS H e e2 d<=β f
 |a,d,f,b=>by
  by_cases h:nm e2 d
  .rw[wB h,b.cJ];exact a9B _
  by_cases c:cz e2 d=ζ
  .match a,b with
   |0,b=>exact absurd b.1 (qz c)
   |a+1,.inl b=>exact absurd b.1 (qz c)
   |a+1,.inr ⟨_,k,cs,o,hk,p,r⟩=>have y:=IP cs λc x=>IT (p c x);have z:=IQ (e2:=e2) (Q:=np k);rw[AV h c o,r,hk,wF,Ρ];omega
  .rw[wC h (by simpa using c)];omega
 termination_by a=>a
def a5M(p:1<=e)(r:e<=8)(E:β e2.az=e){h all:List Ω}(x:eW H e i A h)(F:h.Perm all)(G:∀c∈all,∀d∈all,c.getD 0 0=d.getD 0 0->c=d)(y:IB H e e2 A Q N):
  (e2.cJ=ζ->Q=[]/\N=(df e2 all).length)/\(e2.cJ=κ->N=0/\∀f,f.Perm (df e2 all)->f.Pairwise (hK e2.cY)->eC e2.lim f=Q):=by
 have z:(df e2 h).Perm (df e2 all):=F.filter _;refine⟨λa=>?_,λa=>?_⟩
 .obtain⟨k,b⟩:=y.count a;rw[IM p r a E x,z.length_eq]at b;exact⟨k,b⟩
 .obtain⟨k,j,b,C⟩:=y.list a;refine⟨k,λf L P=>?_⟩;by_cases o:e2.lim=0
  .have D:=b.ho ε;rw[o]at D;have S:Q=[]:=a7y (by simpa using D);rw[S,o];unfold eC;split
   .rfl
   .rename_i l;exact a7y ε
  .rw[IL p r a o x]at C;refine b.done (C.trans z) (λc T d V W g=>?_) L P;rw[wD]at W g;exact G c ((a9b.1 T).1) d ((a9b.1 V).1) ε
def B1(b:1<=e)(c:e<=8):∀ {a:aF},a.ca e->a.size<=1048576->dM H a->∃z y,eW H e z (br a) y/\y.Perm a.all
 |.nil,_,_,_=>⟨0,[],⟨rfl,rfl⟩,.refl _⟩
 |.node h live k o,d,p,r=>by
  have C:=(fR b c d p).live;have D:=rV b c d p r;have E:=p;simp only[Ο]at E;by_cases x:(aF.node h live k o).all=[]
  .exact⟨0,[],⟨by rw[C,x];rfl,rfl⟩,by rw[x]⟩
  obtain⟨F,G,L,P⟩:=B1 b c d.a ε r.2.1;obtain⟨S,T,V,W⟩:=B1 b c d.b ε r.2.2;refine⟨F+S+1,_,.inr ⟨?_,_,[(br k,G),(br o,T)],D,rfl,?_,rfl⟩,?_⟩
  .have:=a8l.2 x;omega
  .intro i f;rcases a7S.1 f with rfl|f
   .exact L.mono ε
   .rw[a7H]at f;subst f;exact V.mono ε
  .have g:np (cD (h,live) (br k) (br o))=if live=ζ then [h]else []:=by cases live<;>rfl
   rw[g];simp only[aF.all,a7R,aas,a8u];exact aao.trans ((P.append W).append_right _)
def IU(f:1<=e)(h:e<=8):∀(a:Nat)(b:a6.T a),gg e a b->gD H a b->eW H e (a+1) (cj a b) (a6.bb a b)
 |0,b,d,o=>by
  obtain⟨y,rfl⟩:=a6.iU b;have k:=tJ f h d;refine .inr ⟨?_,_,[],zg f h d o,rfl,λ_ a=>(a8f a).elim,?_⟩
  .have:=k.live;have:=k.pos;omega
  .rw[FW,a6.km];simp only[np,ec,List.filter_map,Function.comp_def,a9v,aas,a8u,List.map_id'];exact(aab.2 λ_ _=>rfl).symm
 |a+1,b,d,o=>by
  obtain⟨r,rfl⟩:=a6.hf b;have k:=tJ f h d;refine .inr ⟨?_,_,r.map λc=>(cj a c,a6.bb a c),zg f h d o,?_,?_,?_⟩
  .have:=k.live;have:=k.pos;omega
  .rw[tI];simp[ei,Function.comp_def]
  .intro c x;obtain⟨c,p,rfl⟩:=a7M.1 x;exact IU f h a c (d.hE c p).1 (o.2 c p)
  .rw[tI,a6.gd,List.flatMap_map];simp[np,ei]
def a5N(d:1<=e)(f:e<=8)(a:jb e e1)(b:jT H e1):∃h,eW H e h (gn e1) (eN e1):=by
 match e1,a,b with
 |none,_,_=>exact⟨0,rfl,rfl⟩
 |some ⟨c,e1⟩,a,b=>exact⟨c+1,IU d f c e1 a.ks b⟩
end
def a5O(a:cb)(E:Nat)(h:aj)(k o p:Own)(F:β h.sum=32)(r x y:Own)(d:Nat)(G:d<=1000000000000)(L:β a.cY.at_<=1000000000000)(P:a.ok d=κ)(f:U):
  AC δ 21 [.ptr E 0,.agg (ag h k o p),.agg (a.V r x y),.v (.int .i64 (d:Int))] f λS T=>f.sub T/\S=.aJ [.agg [.J [] .nil,.v (.int .i64 0)],.v (.int .i64 0),.v (.int .i64 1)]:=by
 have V:=(aV (a7:=k) (h5:=o) (j1:=p) F).all;refine aM hm xC ?_;refine bg λz W=>?_;refine cy λC e g i=>?_;refine gz λD j l c2 aD aL=>?_;generalize b:((f.set z _).set C _).set D _=c;have m:f.sub c:=by subst b;exact aK
 have aZ:c z=γ (.cells (ag h k o p)):=by subst b;exact aK
 have bt:c C=γ (.cells (a.V r x y)):=by subst b;exact aK
 have bl:c D=γ (.cells [.J [] .nil,.v (.int .i64 0)]):=by subst b;exact aK
 clear b;refine aP (Io a _ _ _ d G L c) ?_;rw[P];have n:=μ aZ;have q:=μ bt;have s:=ω bl;refine aa ?_;trivial
def B2(a:cb)(all c:List Ω)(d:Int):Prop:=
 (a.cJ=ζ->c=[]/\d=(df a all).length)/\(a.cJ=κ->d=0/\∀b,b.Perm (df a all)->b.Pairwise (hK a.cY)->eC a.lim b=c)
def u5(a:cb)(b:Nat)(all:List Ω)(c d:R):Prop:=
 (a.ok b=κ/\c=.agg [.J [] .nil,.v (.int .i64 0)]/\d=.v (.int .i64 1))\/a.ok b=ζ/\∃rows f h,B2 a all rows h/\aw isRow rows f/\c=.agg [.J f .any,.v (.int .i64 h)]/\d=.v (.int .i64 0)
def IV{all:List Ω}(c:u5 e2 e all s b8):∃a d b E,s=.agg [.J a d,.v (.int .i64 b)]/\b8=.v (.int .i64 E):=by
 rcases c with⟨_,rfl,rfl⟩|⟨_,_,a,b,_,_,rfl,rfl⟩
 .exact⟨_,_,_,_,rfl,rfl⟩
 .exact⟨_,_,_,_,rfl,rfl⟩
def a5P(c:cb)(i:c.In)(f:U)(o P:Nat)(r:af)(j:bz f o P r)(b:aj)(x y z:Own)(S:β b.sum=32)(l:b.cL)(m:kE b)(C D E:Own)(d:Nat)(n:1<=d)(q:d<=8)(s:β c.cY.at_<=1000000000000){all:List Ω}(p:eW r d e b Q)(t:Q.Perm all)(u:∀h∈all,∀T∈all,h.getD 0 0=T.getD 0 0->h=T)
  (v:b.size<=1048576) (w:b.live≠0->1<=b.size) (A:β Q<=50000):
  AC δ 21 [.ptr o 0,.agg (ag b x y z),.agg (c.V C D E),.v (.int .i64 (d:Int))] f λF G=>f.sub G/\∃h V W,u5 c d all h W/\F=.aJ [h,V,W]:=by
 cases k:c.ok d with
 |false=>exact(a5O c o b x y z S C D E d ε s k f).mono λF G a=>⟨a.1,_,_,_,.inl ⟨k,rfl,rfl⟩,a.2⟩
 |true=>
  have B:β c.az=d:=by have a:=k;rw[cb.ok,Κ]at a;exact(kl a.1).1
  refine AC.view (a5F c i f o P r j b x y z S l m C D E d k v (λa=>w (qz a)) (a8w (IS p) A) (by have:=IT (e2:=c) p;omega)) λF G a=>?_;obtain⟨_,a|⟨rows,L,X,H,V,I,K,M,_,rfl⟩⟩:=a
  .exact absurd a.1 p.a5L
  .obtain⟨N,Y,Z,O,g⟩:=View.dq K;rw[show eZ 1 N L=L by rw[ki,a7x ε]]at g;exact⟨_,_,View.aJ (a:=[]) (View.agg (a:=[]) rfl g),O,_,_,_,.inr ⟨k,rows,L,H,a5M n q B p t u I,M,rfl,rfl⟩,rfl⟩
variable{h4:aU}
def a5Q(a:ez e h4)(o:e<=1000)(f:dM H h4.bK/\jT H h4.c9)(h:Bool):∃b c,eW H (β h4.aH+1) b (if h=ζ then br h4.bK else gn h4.c9) c/\c.Perm h4.rows:=by
 have p:=a.c;cases h with
 |true=>obtain⟨b,c,d,k⟩:=B1 ε ε a.de.eV (by have:=a.de.ch;omega) f.1;exact⟨b,c,d,k.trans a.fD⟩
 |false=>obtain⟨b,d⟩:=a5N ε ε a.go f.2;exact⟨b,_,d,a.nk⟩
def a5R(a:ez e h4)(r:e<=1000)(b:h4.bu.In)(c:Bool):kE (if c=ζ then br h4.bK else gn h4.c9)/\(if c=ζ then br h4.bK else gn h4.c9).size<=1048576/\((if c=ζ then br h4.bK else gn h4.c9).live≠0->1<=(if c=ζ then br h4.bK else gn h4.c9).size):=by
 have x:=a.c;have y:=a.ev;cases c with
 |true=>
  have k:=fR ε ε a.de.eV (by have:=a.de.ch;omega);have z:=a.de.ch;have f:=kx (k.ok ε);have C:=k.size;refine⟨⟨b.k.az,b.k.aE⟩,?_,λh=>?_⟩
  .show(br h4.bK).size<= _;omega
  .exact f.2.1 (f.2.2 h)
 |false=>
  have f:=a.nk.length_eq;rcases AB ε ε a.go with⟨o,d⟩|⟨o,d⟩
  .have p:(gn h4.c9).live=0:=by rw[d];rfl
   have D:(gn h4.c9).size=0:=by rw[d];rfl
   exact⟨⟨b.z.az,b.z.aE⟩,by show(gn h4.c9).size<= _;omega,λh=>absurd p h⟩
  .have:=d.pos;have:=d.size;exact⟨⟨b.z.az,b.z.aE⟩,by show(gn h4.c9).size<= _;omega,λ_=>by show 1<=(gn h4.c9).size;omega⟩
def IW(c:ez e h4):∀a∈h4.rows,∀b∈h4.rows,a.getD 0 0=b.getD 0 0->a=b:=λ_ d _ f h=>a3X c.dC d f h
def IX(f:U)(C k9 n5:Nat)(n:af)(n9:Nat)(a:List aU)(a00:dj f C k9 n5 n (a.map Υ))(l0:dr n9 a)(Q:n9<=1000)(a09:∀b∈a,dM n b.bK/\jT n b.c9)(k:ϊ)(o:cb)(a10:o.In)(a11:β o.cY.at_<=1000000000000)(g i j:Own)(X:Bool):
  AC δ 7 [.ptr C 0,bm k,.agg (o.V g i j),.v (.bool X)] f λL l1=>f.sub l1/\∃D F,L=.aJ [D,F]/\(if bB a k<β a then u5 o ((a.getD (bB a k) default).aH.length+1) (a.getD (bB a k) default).rows D F else D=.agg [.J [] .nil,.v (.int .i64 0)]/\F=.v (.int .i64 3)):=by
 have a13:=l0.cat Q;obtain⟨a14,a74⟩:=qs a13;obtain⟨a15,a16,P,a18⟩:=a00.x;have a81:=μ P;have a83:=gG.all.1;have l2:∀b T,eJ b T->putAt fS 0 T=T:=λb T a19=>(oo a19).2.2.1;have a27:=l2 _ _ gG;have l3:=mm;have l:=λf=>find_spec (a.map Υ) a15 a16 k a18 ε f;unfold Found at l;rw[ov]at l;generalize fS=a29 at*;by_cases Y:bB a k<β a;rotate_left
 .simp only[if_neg Y];rw[a9H ε]at l;refine aM hm Cq ?_;refine bg λG q=>?_;refine cy λh s a30 a34=>?_;have a36:C≠G:=by rintro rfl;rw[P]at q;cases q
  have a38:C≠h:=by rintro rfl;rw[P]at s;cases s
  refine aa ?_;generalize d:(f.set G (.cells (o.V g i j))).set h (.cells [.J [] .nil,.v (.int .i64 0)])=m;have S:f.sub m:=by subst d;exact aK
  have bl:m h=γ (.cells [.J [] .nil,.v (.int .i64 0)]):=by subst d;exact aK
  clear d;have t:=S _ _ P;have dV:=μ t;refine ak (l _) ?_;rintro L Z⟨rfl,rfl⟩;have a42:=@υ;refine aa ?_;refine aR λy p=>?_;have u:h≠y:=by rintro rfl;rw[bl]at p;cases p
  have a84:=ω (g:=Z.set y (.cells a29)) (by rw[ο _ _ u];exact bl);rw[l3];refine aa ?_;exact⟨_,_,rfl,rfl,rfl⟩
 .simp only[if_pos Y];have l4:a.getD (bB a k) default∈a:=qv Y;rw[show a[bB a k]?=γ (a.getD (bB a k) default) by rw[a7V,Τ Y];rfl]at l;generalize a.getD (bB a k) default=b at*;have a01:=aaT (f:=Υ) l4;have a86:=a14 _ a01;have v:=l0.ok b l4;have a88:=v.c;obtain⟨a43,a47,a02,a03⟩:=a5Q v Q (a09 b l4) X;have a89:=a03.length_eq;have a90:=v.ev;refine aM hm Cq ?_;refine bg λG q=>?_;refine cy λh s a30 a34=>?_;have a36:C≠G:=by rintro rfl;rw[P]at q;cases q
  have a38:C≠h:=by rintro rfl;rw[P]at s;cases s
  refine aa ?_;generalize d:(f.set G (.cells (o.V g i j))).set h (.cells [.J [] .nil,.v (.int .i64 0)])=m;have S:f.sub m:=by subst d;exact aK
  have bt:m G=γ (.cells (o.V g i j)):=by subst d;exact aK
  have bl:m h=γ (.cells [.J [] .nil,.v (.int .i64 0)]):=by subst d;exact aK
  clear d;have t:=S _ _ P;have dV:=μ t;refine ak (l _) ?_;rintro L Z⟨rfl,T,w,rfl⟩;obtain⟨a92,a94,a95,a96,k2,k3,k4,A,B,H,a97,a98,a99⟩:=w.all;have b00:=l2 _ _ w;have a04:=λf=>rZ b.bu T w f;clear l2 a27;refine aa ?_;refine aR λy p=>?_;rw[l3];clear l3;have k5:=w.k;have I:=w.z;have b01:=(aV (a7:=k2) (h5:=k3) (j1:=k4) k5.1).len;have b02:=(aV (a7:=A) (h5:=B) (j1:=H) I.1).len;have b03:=(aV (a7:=.nil) (h5:=.nil) (j1:=.nil) bo).len;have k6:=cT (a:=.nil) (b:=.nil) (c:=.nil) (a7:=A) (h5:=B) (j1:=H) bo I.1;have k7:=cT (a:=A) (b:=B) (c:=H) (a7:=k2) (h5:=k3) (j1:=k4) I.1 k5.1;have a05:=Ν S p;have u:h≠y:=by rintro rfl;rw[bl]at p;cases p
  have a48:G≠y:=by rintro rfl;rw[bt]at p;cases p
  have a52:C≠y:=by rintro rfl;rw[t]at p;cases p
  refine aa ?_;rw[cB];generalize ag aG .nil .nil .nil=b04 at*;generalize l5:ag b.bu.bK k2 k3 k4=l6 at*;generalize l7:ag b.bu.c9 A B H=l8 at*;refine aR λV r=>?_;have a06:h≠V:=by rintro rfl;rw[ο _ _ u,bl]at r;cases r
  have b05:G≠V:=by rintro rfl;rw[ο _ _ a48,bt]at r;cases r
  have b06:C≠V:=by rintro rfl;rw[ο _ _ a52,t]at r;cases r
  have a56:y≠V:=by rintro rfl;rw[ξ]at r;cases r
  have a07:f V=none:=Ν S (by rw[ο _ _ a56.symm]at r;exact r);have b07:=μ bt;have a42:=@υ;have a08:=a5R v Q (a4K l0 Q _ a01) X;have a57:=IW v;have k8:∀c,f.sub c->∀(x:aj)(k6 k7 l9:Own),β x.sum=32->x.cL->eW n (β b.aH+1) a43 x a47->kE x/\x.size<=1048576/\(x.live≠0->1<=x.size)->AC δ 21 [.ptr k9 0,.agg (ag x k6 k7 l9),.agg (o.V g i j),.v (.int .i64 ((β b.aH+1:Nat):Int))] c λL l1=>c.sub l1/\∃D n0 F,u5 o (β b.aH+1) b.rows D F/\L=.aJ [D,n0,F]:=λc K x k6 k7 l9 a61 a62 a63 n2=>
   a5P o a10 c k9 n5 n (a00.hg.mono K) x k6 k7 l9 a61 a62 n2.1 g i j (β b.aH+1) ε ε a11 a63 a03 a57 n2.2.1 n2.2.2 ε
  have b08:l6.take 37=l6:=a7x ε;have b09:l8.take 37=l8:=a7x ε;cases X
  .have M:=λc K=>k8 c K b.bu.c9 A B H I.1 I.2 a02 a08;rw[l7]at M;clear k8 l5 l7;refine aa ?_;refine aP (a04 _) ?_;generalize d:(Z.set y (.cells T)).set V (.cells l8)=c;have W:f.sub c:=by subst d;exact ν (ν S a05) a07
   have N:c h=γ (.cells [.J [] .nil,.v (.int .i64 0)]):=by subst d;rw[ο _ _ a06,ο _ _ u];exact bl
   clear d;refine ak (M c W) ?_;rintro L ch⟨z,D,n0,F,O,rfl⟩;obtain⟨a65,a68,a69,E,rfl,rfl⟩:=IV O;refine aa ?_;refine aR λn3 e=>?_;have n4:h≠n3:=by rintro rfl;rw[z _ _ N]at e;cases e
   have a71:=n4.symm;have a73:=ω (z _ _ N);refine aa ?_;exact⟨ν (π W z) (Ν (π W z) e),_,_,rfl,O⟩
  .have M:=λc K=>k8 c K b.bu.bK k2 k3 k4 k5.1 k5.2 a02 a08;rw[l5]at M;clear k8 l5 l7;refine aa ?_;refine aP (a04 _) ?_;generalize d:(Z.set y (.cells T)).set V (.cells l6)=c;have W:f.sub c:=by subst d;exact ν (ν S a05) a07
   have N:c h=γ (.cells [.J [] .nil,.v (.int .i64 0)]):=by subst d;rw[ο _ _ a06,ο _ _ u];exact bl
   clear d;refine ak (M c W) ?_;rintro L ch⟨z,D,n0,F,O,rfl⟩;obtain⟨a65,a68,a69,E,rfl,rfl⟩:=IV O;refine aa ?_;refine aR λn3 e=>?_;have n4:h≠n3:=by rintro rfl;rw[z _ _ N]at e;cases e
   have a71:=n4.symm;have a73:=ω (z _ _ N);refine aa ?_;exact⟨ν (π W z) (Ν (π W z) e),_,_,rfl,O⟩
def a5S(c:fi N)(d:fi j2)(f:U):AC δ 235 [.v (.int .i64 N),.v (.int .i64 j2)] f λk o=>o=f/\k=.v (.int .u64 (hj N j2:Int)):=by
 have h:∀a b:Int,fi a->fi b->b<=a->IntKind.u64.wrap (IntKind.u64.wrap a - IntKind.u64.wrap b)=((a - b).toNat:Int):=λa b p r y=>by
  show(a%18446744073709551616 - b%18446744073709551616)%18446744073709551616= _;omega
 have p:=h N j2 c d;have r:=h j2 N d c;refine aM hm SH ?_;refine ay (λx=>?_) λx=>?_
 .rw[show hj N j2=(N - j2).toNat by unfold hj;omega]
 .rw[show hj N j2=(j2 - N).toNat by unfold hj;omega]
def db(a b:Nat):Nat:=a/4294967296^b%4294967296
def fB(b c d:Nat):ϋ:=(ψ 4).map λa=>if a<d then db (b+c) a else db b a
def lC(b c a:Nat):Nat:=(b%4294967296^a+c%4294967296^a)/4294967296^a
def wG(a:e+i<18446744073709551616):bj .add (.int .u64 (e:Int)) (.int .u64 (i:Int))=γ (.int .u64 ((e+i:Nat):Int)):=by have:bj .add (.int .u64 (e:Int)) (.int .u64 (i:Int))=γ (.int .u64 (IntKind.u64.wrap ((e:Int)+i))):=rfl;rw[this,lQ];congr 2;omega
def IY(a:e<4294967296):bj .mul (.int .u64 4294967296) (.int .u64 (e:Int))=γ (.int .u64 ((4294967296*e:Nat):Int)):=by have:bj .mul (.int .u64 4294967296) (.int .u64 (e:Int))=γ (.int .u64 (IntKind.u64.wrap (4294967296*(e:Int)))):=rfl;rw[this,lQ];congr 2;omega
def IZ:bj .rem (.int .u64 (e:Int)) (.int .u64 4294967296)=γ (.int .u64 ((e%4294967296:Nat):Int)):=by have:bj .rem (.int .u64 (e:Int)) (.int .u64 4294967296)=γ (.int .u64 ((e:Int).tmod 4294967296)):=rfl;rw[this,Int.tmod_eq_emod_of_nonneg ε];congr 2
def J0(a:e<18446744073709551616):bj .quo (.int .u64 (e:Int)) (.int .u64 4294967296)=γ (.int .u64 ((e/4294967296:Nat):Int)):=by have:bj .quo (.int .u64 (e:Int)) (.int .u64 4294967296)=γ (.int .u64 (IntKind.u64.wrap ((e:Int).tdiv 4294967296))):=rfl;rw[this,lQ,Int.tdiv_eq_ediv_of_nonneg ε];congr 2;omega
def se{a b:Nat}:db a b<4294967296:=a9w _ Μ
def a5T(a:e<4)(b:i<18446744073709551616):db t e+db i e+lC t i e<12884901888/\(db t e+db i e+lC t i e)%4294967296=db (t+i) e/\(db t e+db i e+lC t i e)/4294967296=lC t i (e+1):=by
 unfold db lC;rcases(by omega:e=0\/e=1\/e=2\/e=3)with rfl|rfl|rfl|rfl
 all_goals simp only[Nat.reduceAdd,Nat.reducePow,abO,abR,abl,abP]
 all_goals omega
def J1:(UV (fB e i t)).length=4:=by simp[fB]
def J2(a:e<4):aX κ 1 ((UV (fB i t e)).drop e)=.v (.int .u64 ((db i e:Nat):Int)):=by rcases(by omega:e=0\/e=1\/e=2\/e=3)with rfl|rfl|rfl|rfl<;>simp[fB,a9r,aX]
def a5U(a:e<4):putAt (UV (fB i t e)) e [.v (.int .u64 ((db (i+t) e:Nat):Int))]=UV (fB i t (e+1)):=by rcases(by omega:e=0\/e=1\/e=2\/e=3)with rfl|rfl|rfl|rfl<;>simp[fB,a9r,putAt]
def a5V:fB e i 4=fB (e+i) 0 0:=by simp[fB,a9r]
def a5W(a:e<18446744073709551616):fB e 0 0=[e%4294967296,e/4294967296,0,0]:=by simp only[fB,a9r,db];simp only[List.range_zero,a7T,a8K,a7O,a8R,Nat.not_lt_zero,if_false,Nat.reducePow,abO,abR,abl];congr 1;refine ab4.2 ⟨ε,ab4.2 ⟨ε,ab4.2 ⟨ε,rfl⟩⟩⟩
def sf(a:e<4):cU 1 (.ar i 4 4 1) (.v (.int .i64 (e:Int)))=γ (.ptr i e):=by have:=iL (e:=1) (i:=i) (t:=4) (I:=4) (e4:=.i64) (N:=(e:Int)) ε ε;simpa using this
theorem a5X(d:ϋ)(V:R)(o:U)(z:bL o 1 V (UV d))(C:∀D∈d,D<18446744073709551616)(k3:β d<=8):AC δ 236 [V] o λt k=>o.sub k/\t=jj d.sum:=by
 have k4:=z.one;have u:=z.len;rw[I5]at u;refine aM hm SJ ?_;refine bg λE v=>?_;have W:=ν (b0:=.cells [.v (.int .u64 0),.v (.int .u64 0)]) (ι (g:=o)) v;have c2:=ξ o E (.cells [.v (.int .u64 0),.v (.int .u64 0)]);generalize o.set E _=e at*;refine gY (by simp[ba,τ]) σ λh y=>?_;have w:flat [R.v (.int .u64 0),.v (.int .u64 0),.v (.int .u64 0),.v (.int .u64 0)]=UV (fB (d.take 0).sum 0 0):=by rw[a9o];rfl
 rw[w];refine aa ?_;refine ck [0,2,3] (λf:Nat=>[(4,.v (.int .i64 (f:Int)))]) (λf k=>f<=β d/\e.sub k/\k h=γ (.cells (UV (fB (d.take f).sum 0 0)))) (λf=>β d - f) 0 ⟨⟨a7Y _,ν ι y,ξ _ _ _⟩,aK⟩ ?_;rintro f g⟨k5,r,x⟩k6;refine aa ?_;refine ay (λA=>?_) λA=>?_
 .have F:f<β d:=ε;obtain⟨B,k7,H⟩:=z.get f _ (I6 F);have k8:cO κ 1 g B=γ (.v (.int .u64 ((d.getD f 0:Nat):Int))):=H.ld g (π W r) κ 1 (by simp[τ]) (by simp[τ]);have G:=C (d.getD f 0) (by grind);have I:=fX (b:=0) F;have K:(d.take (f+1)).sum=(d.take f).sum+d.getD f 0:=by rw[I];simp
  have i:=wk (l:=d.take f) λD M=>C D (a7J M);rw[a7z]at i;generalize d.getD f 0=c at*;generalize (d.take f).sum=a at*;have k9:=IZ (e:=c);have l0:=J0 G;refine aa ?_;refine gY (by simp[ba,τ]) σ λL P=>?_;have dJ:h≠L:=by rintro rfl;rw[x]at P;cases P
  have N:flat [R.v (.int .u64 ((c%4294967296:Nat):Int)),.v (.int .u64 ((c/4294967296:Nat):Int)),.v (.int .u64 0),.v (.int .u64 0)]=UV (fB c 0 0):=by rw[a5W G];rfl
  rw[N];refine aa ?_;refine ck [0,2,3,4,5] (λb:Nat=>[(6,.v (.int .u64 ((lC a c b:Nat):Int))),(7,.v (.int .i64 (b:Int)))]) (λb k=>b<=4/\e.sub k/\k h=γ (.cells (UV (fB a c b)))/\k L=γ (.cells (UV (fB c 0 0)))) (λb=>4 - b) 0 ⟨⟨ε,ν r (Ν r P),(ο _ _ dJ).trans (by rw[x];rfl),ξ _ _ _⟩,by rw[show lC a c 0=0 by simp[lC,abP]];exact aK⟩ ?_;rintro b l1⟨l2,l3,j,S⟩l4;refine aa ?_;refine ay (λaD=>?_) λaD=>?_
  .have p:b<4:=ε;obtain⟨l5,l,m⟩:=a5T (t:=a) p G;have O:=sf (i:=h) p;have Q:=sf (i:=L) p;have l6:=J2 (i:=a) (t:=c) p;have n:=J2 (i:=c) (t:=0) p;have l7:=J1 (e:=a) (i:=c) (t:=b);have l8:=J1 (e:=c) (i:=0) (t:=0);have l9:=a5U (i:=a) (t:=c) p;have n:aX κ 1 ((UV (fB c 0 0)).drop b)=.v (.int .u64 ((db c b:Nat):Int)):=by
    have:fB c 0 0=fB c 0 b:=by simp[fB]
    rw[this];exact n
   have X:=wG (e:=db a b) (i:=db c b) (by have:=@se a b;have:=@se c b;omega);have q:=wG (e:=db a b+db c b) (i:=lC a c b) ε;have a3:=IZ (e:=db a b+db c b+lC a c b);have a4:=J0 (e:=db a b+db c b+lC a c b) ε;rw[l]at a3;rw[m]at a4;have n0:=μ j;have n2:=μ S;have Y:=ω j;clear l m;generalize db a b+db c b+lC a c b=T at*;generalize db a b+db c b=n3 at*;generalize db a b=c3 at*;generalize db c b=bS at*;generalize db (a+c) b=dB at*;generalize UV (fB c 0 0)=n4 at*;generalize UV (fB a c b)=n5 at*;refine aa ?_;exact⟨b+1,⟨ε,rfl⟩,⟨rfl,rfl⟩,ε⟩
  .obtain rfl:b=4:=ε;refine aa ?_;exact⟨f+1,⟨F,by rw[a5V,K]⟩,rfl,ε⟩
 .obtain rfl:f=β d:=ε;rw[a8c]at x;have i:=wk C;generalize d.sum=a at*;have Z:UV (fB a 0 0)=[.v (.int .u64 ((db a 0:Nat):Int)),.v (.int .u64 ((db a 1:Nat):Int)),.v (.int .u64 ((db a 2:Nat):Int)),.v (.int .u64 ((db a 3:Nat):Int))]:=by simp[fB,a9r]
  have n9:=@se a 0;have k2:=@se a 1;have a00:=@se a 2;have S:=@se a 3;have s:db a 2+4294967296*db a 3=a/18446744073709551616/\db a 0+4294967296*db a 1=a%18446744073709551616:=by unfold db;simp only[Nat.reducePow,abO,abR,abl];omega
  rw[Z]at x;have X:=IY k2;have a3:=IY S;have a0:=wG (e:=db a 0) (i:=4294967296*db a 1) ε;have q:=wG (e:=db a 2) (i:=4294967296*db a 3) ε;rw[s.1]at q;rw[s.2]at a0;have a01:=μ x;have Y:=ω (r _ _ c2);have a02:=sf (i:=h) (e:=0) ε;have O:=sf (i:=h) (e:=1) ε;have Q:=sf (i:=h) (e:=2) ε;have a03:=sf (i:=h) (e:=3) ε;have a04:=y;have a05:E≠h:=by rintro rfl;rw[c2]at y;cases y
  refine aa ?_;exact π W r
def J3:∀(a:ϋ),UV a=flat (UV a)
 |[]=>rfl
 |b::a=>by
  show _::UV a= _::flat (UV a);rw[<-J3 a]
def a5Y(a d:Ω)(F G:Own)(k:U)(x:bs a)(y:bs d)(n:β d=β a)(q:1<=β a)(s:β a<=8):AC δ 161 [.J (ab a) F,.J (ab d) G] k λL o=>k.sub o/\L=.aJ [jj (s5 a d),.v (.bool ζ)]:=by
 have t:¬(β a:Int)<1:=ε;have u:¬8<(β a:Int):=ε;have v:=bn (n:=a);have w:=bn (n:=d);refine aM hm QM ?_;refine bg λz P=>?_;have S:=ν (b0:=.cells [.v (.int .u64 0),.v (.int .u64 0)]) (ι (g:=k)) P;have aL:=ξ k z (.cells [.v (.int .u64 0),.v (.int .u64 0)]);generalize k.set z _=p at*;refine aa ?_
 let c:=λb=>hj (a.getD b 0) (d.getD b 0);have T:hJ c 0=[]:=rfl;refine ck [0,1,4] (λf:Nat×R=>[(7,.v (.int .i64 (f.1:Int))),(6,f.2)]) (λf o=>f.1<=β a/\aq p o 1 (hJ c f.1) f.2) (λf=>β a - f.1) (0,.J [] .nil) ⟨⟨a7Y _,by show aq p p 1 (hJ c 0) _;rw[T];exact aq.nil ι⟩,aK⟩ ?_;rintro⟨b,A⟩ B ⟨V,h⟩ H
 dsimp only at V h|-
 have I:=eG h;refine aa ?_;refine ay (λW=>?_) λW=>?_
 .have C:b<β a:=ε;have K:=cP (a:=a) C;have M:=cP (a:=d) (b:=b) ε;refine aa ?_;refine aP (a5S (hl x b) (hl y b) _) ?_;have e:hJ c b++[.v (.int .u64 (hj (a.getD b 0) (d.getD b 0):Int))]=hJ c (b+1):=by simp[hJ,c,a9r]
  have N:(hJ c b).length=b:=by simp[hJ]
  refine DW h (λ_ g i D=>?_);rw[e]at D;exact⟨(b+1,g),⟨C,D⟩,⟨rfl,rfl⟩,by show β a -(b+1)<β a - b;omega⟩
 .obtain rfl:b=β a:=ε;have j:=bL.dq h ε (j:=hJ c (β a)) (J3 _) (λl m=>by obtain⟨r,_,rfl⟩:=a7M.1 (m:l∈UV _);rfl);refine gs (a5X ((ψ (β a)).map c) _ _ j (λO hm=>by
   obtain⟨r,Q,rfl⟩:=a7M.1 hm;exact wj (hl x r) (hl y r)) Ι) λi E=>?_
  have X:=ω (E _ _ (h.1 _ _ aL));refine aa ?_;exact⟨π S (π h.1 E),rfl⟩
def J4(c:cq)(p z:Own)(a:Ω)(f:U)(C:bs a)(V:bs c.at_)(D:c.ok (β a)=ζ):AC δ 97 [c.V p,.J (ab a) z] f λW e=>f.sub e/\W=.aJ [jj (cn c a),.v (.bool ζ)]:=by
 obtain⟨g,q,E⟩:=cq.kC D;have s:=bn (n:=a);have t:β c.at_<=8:=ε;have F:=λf=>tN c p (β a) f ε ε;rw[D]at F;have u:=wm z g;obtain⟨d,i,h⟩:=c
 dsimp only at*
 have w:=fP d 2 ε;have A:=fP d 3 ε;refine aM hm CJ ?_;refine bg λG B=>?_;refine cy λL H c I=>?_;generalize k:(f.set G _).set L _=r;have j:f.sub r:=by subst k;exact aK
 have cl:r G=γ (.cells [.v (.int .u8 (d.toNat:Int)),.v (.int .i64 i),.J (ab h) p]):=by subst k;exact aK
 have P:r L=γ (.cells [.v (.int .u64 0),.v (.int .u64 0)]):=by subst k;exact aK
 clear k;have K:=μ cl;have M:=ω P;refine aP (F _) ?_;refine ay (λaD=>?_) λaD=>?_
 .have o:=AP aD;obtain⟨_,S,l,aL⟩:=E.resolve_right (λx=>x.1 o);refine aa ?_;refine gs (a5Y (a.drop 1) h _ _ _ (λv m=>C v (a7U m)) V (by rw[a7F];omega) (by rw[a7F];omega) (by rw[a7F];omega)) λN T=>?_;have O:=ω (T _ _ P);refine aa ?_;rw[show cn ⟨3,0,h⟩ a=s5 (a.drop 1) h by simp[cn]];exact⟨π j T,rfl⟩
 .have o:d≠3:=by rintro rfl;exact aD rfl
  obtain⟨Q,S,l,_⟩:=E.resolve_left (λx=>o x.1);obtain⟨b,rfl⟩:=a9P S;have X:=cP (a:=a) (b:=b) ε;have n:=hl C b;have Y:IntKind.u64.wrap (IntKind.u64.wrap (a.getD b 0)+9223372036854775808)=((a.getD b 0+9223372036854775808).toNat:Int):=by rw[lQ,lQ];omega
  have Z:IntKind.u64.wrap (18446744073709551615 -((a.getD b 0+9223372036854775808).toNat:Int))=(kB (a.getD b 0):Int):=by rw[lQ];unfold kB;omega
  refine aa ?_;refine ay (λc2=>?_) λc2=>?_
  .have y:=AO c2;rw[show cn ⟨d,(b:Int),h⟩ a=kB (a.getD b 0) by simp[cn,y],s7 (AQ n)];rfl
  .have y:d≠2:=by rintro rfl;exact c2 rfl
   rw[show cn ⟨d,(b:Int),h⟩ a=(a.getD b 0+9223372036854775808).toNat by simp[cn,y,o],s7 ε];rfl
theorem a5Z(a:cq)(f p r:Own)(b c:Ω)(d:U)(l:bs b)(m:bs c)(G:bs a.at_)(x:a.ok (β b)=ζ)(n:β c=β b):AC δ 50 [a.V f,.J (ab b) p,.J (ab c) r] d λq s=>d.sub s/\q=.v (.bool (gH a b c)):=by
 obtain⟨N,O,Q⟩:=cq.kC x;have X:=bn (n:=b);have Y:=bn (n:=c);have Z:=hZ (n:=b) ε p;have k2:=hZ (n:=c) ε r;have t:=λd=>J4 a f p b d l G x;have u:=λd=>J4 a f r c d m G (by rw[n];exact x);have L:=λd=>Gp (cn a b/18446744073709551616) (cn a b%18446744073709551616) (cn a c/18446744073709551616) (cn a c%18446744073709551616) d;have w:decide (cn a b/18446744073709551616<cn a c/18446744073709551616\/cn a b/18446744073709551616=cn a c/18446744073709551616/\cn a b%18446744073709551616<cn a c%18446744073709551616)=decide (cn a b<cn a c):=by rw[decide_eq_decide];omega
 have P:gH a b c=if cn a b=cn a c then decide (b.getD 0 0<c.getD 0 0)else decide (cn a b<cn a c):=by unfold gH;split<;>simp_all
 rw[P];have y:∀h S:Nat,dO [(2,bZ.int IntKind.u64)] [R.v (.int .u64 (h)),R.v (.int .u64 (S))]:=λh S=>by simp[dO,bZ.sq]
 have k3:=y (cn a b/18446744073709551616) (cn a b%18446744073709551616);have k4:=y (cn a c/18446744073709551616) (cn a c%18446744073709551616);have A:peq (jj (cn a b)) (jj (cn a c))=decide (cn a b=cn a c):=by rw[a9W];simp[peq];omega
 clear y P;simp only[w]at L;generalize cn a b=T at*;generalize cn a c=v at*;obtain⟨V,k,h⟩:=a
 dsimp only at*
 refine aM hm Cy ?_;refine bg λz B=>?_;have H:=ν (b0:=.cells [.v (.int .u8 (V.toNat:Int)),.v (.int .i64 k),.J (ab h) f]) (ι (g:=d)) B;have W:=ξ d z (.cells [.v (.int .u8 (V.toNat:Int)),.v (.int .i64 k),.J (ab h) f]);generalize d.set z _=k5 at*;refine gs (t _) λC D=>?_;have k6:=μ (D _ _ W);refine bg λo E=>?_;have I:z≠o:=by rintro rfl;rw[D _ _ W]at E;cases E
 have k7:=I.symm;have k8:=@υ;have K:=ν (b0:=.cells (s6 T)) (ι (g:=C)) E;have c2:=ξ C o (.cells (s6 T));refine aa ?_;generalize C.set o _=k9 at*;refine gs (u _) λe g=>?_;have aD:=g _ _ c2;refine bg λi F=>?_;have M:o≠i:=by rintro rfl;rw[aD]at F;cases F
 have l0:=M.symm;have j:=ν (b0:=.cells (s6 v)) (ι (g:=e)) F;have l1:=π H (π D (π K (π g j)));have l2:=μ (j _ _ aD);have l3:=μ (ξ e i (.cells (s6 v)));have l4:=μ aD;refine aa ?_;rw[A];refine ay (λk=>?_) λk=>?_
 .refine aP (L _) ?_;trivial
 .trivial
def hL(c:cq)(a:Ω)(d:List Ω):List Ω:=d.takeWhile (λb=> !gH c a b)++a::d.dropWhile (λb=> !gH c a b)
def pv(a:cq)(b:List Ω):List Ω:=b.foldl (λc d=>hL a d c) []
def J5(c:cq)(a:Ω)(b:List Ω):(hL c a b).Perm (a::b):=by rw[hL];refine a9E.trans ?_;rw[a8h]
theorem a6a{a:cq}(d:∀b<e,¬gH a n (Q.getD b [])=ζ)(c:e<=β Q)(f:e<β Q->gH a n (Q.getD e [])=ζ):hL a n Q=Q.take e++n::Q.drop e:=by
 induction Q generalizing e with
 |nil=>simp at c;subst c;rfl
 |cons h Q ih=>
  cases e with
  |zero=>have:=f σ;rw[a8C]at this;simp[hL,a8O,a9R,this]
  |succ e=>have o:¬gH a n h=true:=d 0 ε;have:=ih (λb p=>d (b+1) ε) (by simpa using c) (λk=>f (by simpa using k));simp_all [hL]
def J6{a:cq}{b:Ω}:∀ {c:List Ω},c.Pairwise (hK a)->(hL a b c).Pairwise (hK a)
 |[],_=>by simp[hL]
 |f::c,p=>by
  obtain⟨r,y⟩:=a7W.1 p;by_cases h:gH a b f=ζ
  .have k:hL a b (f::c)=b::f::c:=by simp[hL,h]
   have x:hK a b f:=by rw[wD];rw[sa]at h;omega
   rw[k];refine a7W.2 ⟨λo d=>?_,p⟩;rcases a7S.1 d with rfl|d
   .exact x
   .exact AX _ _ _ x (r o d)
  .have k:hL a b (f::c)=f::hL a b c:=by simp[hL,h]
   rw[k];refine a7W.2 ⟨λo d=>?_,J6 y⟩;rcases a7S.1 ((J5 a b c).mem_iff.1 d)with rfl|d
   .simpa using h
   .exact r o d
def B3{b:cq}:∀(c a:List Ω),a.Pairwise (hK b)->(c.foldl (λf d=>hL b d f) a).Pairwise (hK b)/\(c.foldl (λf d=>hL b d f) a).Perm (a++c)
 |[],a,h=>⟨h,σ⟩
 |d::c,a,h=>by
  obtain⟨k,o⟩:=B3 c (hL b d a) (J6 h);exact⟨k,o.trans (((J5 b d a).append_right c).trans a9E.symm)⟩
def a6b{a:cq}:(pv a Q).Pairwise (hK a):=(B3 Q [] .nil).1
def B4{a:cq}:(pv a Q).Perm Q:=(B3 Q [] .nil).2
theorem a6c(f:cq)(d:List Ω)(q:ύ)(B z:Own)(S:Nat)(C:U)(i:aw isRow d q)(s:∀F∈d,bJ S F)(k7:bs f.at_)(j:f.ok S=ζ)(a00:β d<=100000):
  AC δ 27 [f.V z,.J q B] C λF G=>C.sub G/\∃H k8,aw isRow (pv f d) H/\F=.J H k8:=by
 have a01:=i.len;obtain⟨a02,a03,_⟩:=cq.kC j;have a04:β f.at_<=8:=by have:=cq.kC j;omega
 have k9:∀C,AC δ 25 [f.V z,.v (.int .i64 (S:Int))] C λF G=>G=C/\F=.v (.bool ζ):=λC=>by
  have:=tN f z S C ε ε;rw[j]at this;exact this
 have a05:(f.V z).cells=[.v (.int .u8 (f.kind.toNat:Int)),.v (.int .i64 f.fA),.J (ab f.at_) z]:=rfl;refine aM hm Cr ?_;refine bg λt l0=>?_;have I:∀T,(C.set t (.cells (f.V z).cells)).sub T->T.read t=γ [.v (.int .u8 (f.kind.toNat:Int)),.v (.int .i64 f.fA),.J (ab f.at_) z]:=λT k=>μ (k _ _ (ξ _ _ _));have l1:=ν (b0:=.cells (f.V z).cells) (ι) l0;generalize C.set t _=K at*;refine fO [1,2,5] (λh:Nat=>[(6,.v (.int .i64 h))]) (λh=>h<=β d) (λh=>β d - h) 0 ε aK ?_
 .rintro h M N;have l2:=I K ι;refine aa ?_;refine ay (λu=>?_) λu=>?_
  .have V:d[h]?=γ (d.getD h []):=by simp_all
   have O:d[0]?=γ (d.getD 0 []):=by grind
   obtain⟨_,l3,l,rfl⟩:=i.get V;obtain⟨_,l4,D,rfl⟩:=i.get O;have Q:=(s _ (a7C V)).len;have a06:=(s _ (a7C O)).len;have a07:=bn (n:=d.getD h []);have a08:=bn (n:=d.getD 0 []);generalize d.getD h []=r at*;generalize d.getD 0 []=b at*;refine aa ?_;have a09:cU 1 (.J q B) (.v (.int .i64 0))=γ (.c4 [.J (ab b) D]):=by show cU 1 _ (.v (.int .i64 ((0:Nat))))= _;rw[pX,l4];rfl
   refine aP (k9 _) ?_;exact⟨h+1,ε,rfl,ε⟩
  .refine ck [1,2] (λb:Nat×ύ×Own=>[(7,.v (.int .i64 b.1)),(5,.J b.2.1 b.2.2)]) (λb G=>K.sub G/\b.1<=β d/\∃c,(d.take b.1).foldl (λc r=>hL f r c) []=c/\β c=b.1/\(∀F∈c,bJ S F)/\aw isRow c b.2.1) (λb=>β d - b.1) (0,[],.nil) ⟨⟨ι,ε,[],rfl,rfl,σ,trivial⟩,aK⟩ ?_;rintro⟨h,E,bx⟩ T ⟨m,M,c,W,l5,X,x⟩ N
   dsimp only at M W l5 x|-
   have a10:=x.len;refine aa ?_;refine ay (λu=>?_) λu=>?_
   .have V:d[h]?=γ (d.getD h []):=by simp_all
    obtain⟨_,l3,l,rfl⟩:=i.get V;have Y:=s _ (a7C V);have Q:=Y.len;have l6:=Y.iY;have Z:=fX (a:=d) (b:=[]) (e:=h) ε;generalize d.getD h []=r at*;have el:∀a,a<β c->∃D,E[a]?=γ (.J (ab (c.getD a [])) D):=λa e=>by
     obtain⟨_,o,D,rfl⟩:=x.get (i:=a) (x:=c.getD a []) (by simp_all);exact⟨D,o⟩
    have l7:∀a,a<β c->(c.getD a []).length=S:=λa e=>(X _ (by simp_all)).len;have l8:∀a,a<β c->bs (c.getD a []):=λa e=>(X _ (by simp_all)).iY;refine ck [1,2,5,7] (λb:Nat×ύ×Own=>[(9,.v (.int .i64 b.1)),(8,.J b.2.1 b.2.2)]) (λb G=>b.1<=β c/\(∀k2<b.1,¬gH f r (c.getD k2 [])=ζ)/\aw isRow (c.take b.1) b.2.1/\bk T G 1 b.2.1 b.2.2) (λb=>β c - b.1) (0,[],.nil) ⟨⟨ε,λk2 k=>by simp at k,trivial,bk.nil ι⟩,aK⟩ ?_;rintro⟨a,n,on⟩ l9 ⟨e,k3,y,L⟩ N
    dsimp only at e k3 y L|-
    have l2:=I l9 (π m L.sub);have a11:β n=a:=by rw[y.len,a7z];omega
    have k4:¬(a<β c/\¬gH f r (c.getD a [])=ζ)->hL f r c=c.take a++r::c.drop a:=λk=>a6a k3 e λn0=>Classical.not_not.1 λP=>k ⟨n0,P⟩;by_cases jK:(a)<(h:Int)
    .obtain⟨D,a13⟩:=el a ε;have a14:=l7 a ε;have n2:=l8 a ε;have n3:=fX (a:=c) (b:=[]) (e:=a) ε;generalize a15:c.getD a []=b at*;refine aa ?_;refine gs (a5Z f z l D r b _ l6 n2 k7 (by rw[Q];exact j) ε) λa16 n4=>?_;have L:=L.mono n4;refine ay (λc2=>?_) λc2=>?_
     .refine kR (λk5 g=>?_);refine ef (L.mono (ν ι g)) (y.cells λ_ _=>ρ) (λo p=>by rw[a7H]at p;subst p;rfl) Ι Ι λv k6 P=>?_;refine aa ?_;refine⟨(a+1,n++[.J (ab b) D],v),⟨by simp only;omega,?_,?_,P⟩,⟨rfl,rfl⟩,by simp only;omega⟩;grind
      .simp only[n3];exact y.snoc ⟨_,rfl⟩
     .have o:=k4 λk=>k.2 (by simpa using c2);refine kR (λk5 g=>?_);refine ef (L.mono (ν ι g)) (y.cells λ_ _=>ρ) (λo p=>by rw[a7H]at p;subst p;rfl) Ι Ι λv k6 P=>?_;have n5:dU 1 (.J E bx) (γ (.v (.int .i64 (a)))) η=γ (.J (E.drop a) .any):=nR ε (x.cells λ_ _=>ρ);refine aa ?_;refine ef P (λo p=>by rcases Ψ.1 p with k|k;exact y.cells (λ_ _=>ρ) o k;rw[a7H]at k;subst k;rfl) ((x.drop a).cells λ_ _=>ρ) Ι Ι λw n9 A=>?_;refine aa ?_;refine⟨(h+1,n++[.J (ab r) l]++E.drop a,w),⟨π m A.sub,by simp only;omega,_,rfl,?_,?_,?_⟩,⟨rfl,rfl⟩,by simp only;omega⟩;grind;grind
      .simp only[Z,a9z,W,a8j,aa2,o];rw[aa5];exact(y.snoc ⟨_,rfl⟩).append (x.drop a)
    .have o:=k4 ε;refine aa ?_;refine kR (λk5 g=>?_);refine ef (L.mono (ν ι g)) (y.cells λ_ _=>ρ) (λo p=>by rw[a7H]at p;subst p;rfl) Ι Ι λv k6 P=>?_;have n5:dU 1 (.J E bx) (γ (.v (.int .i64 (a)))) η=γ (.J (E.drop a) .any):=nR ε (x.cells λ_ _=>ρ);refine aa ?_;refine ef P (λo p=>by rcases Ψ.1 p with k|k;exact y.cells (λ_ _=>ρ) o k;rw[a7H]at k;subst k;rfl) ((x.drop a).cells λ_ _=>ρ) Ι Ι λw n9 A=>?_;refine aa ?_;refine⟨(h+1,n++[.J (ab r) l]++E.drop a,w),⟨π m A.sub,by simp only;omega,_,rfl,?_,?_,?_⟩,⟨rfl,rfl⟩,by simp only;omega⟩;grind;grind
     .simp only[Z,a9z,W,a8j,aa2,o];rw[aa5];exact(y.snoc ⟨_,rfl⟩).append (x.drop a)
   .obtain rfl:h=β d:=ε;rw[a8c]at W;refine⟨π l1 m,E,bx,by rw[pv,W];exact x,rfl⟩
def oy(a:cb)(b c:List Ω)(d:Int):Prop:=if a.cJ=ζ then c=[]/\d=(df a b).length else d=0/\c=eC a.lim (pv a.cY (df a b))
def J7(a:aw isRow Q j):ba 1 j:=a.cells λ_ _=>ρ
theorem a6d(a:cb)(t:a.In)(S T F:Own)(k:Nat)(u:a.ok k=ζ)(k2:k<=1000)(b:List Ω)(V:ύ)(v:Own)(r:U)(W:aw isRow b V)(e:∀o∈b,bJ k o)(k3:β b<=100000):
  AC δ 12 [.J V v,.agg (a.V S T F)] r λo x=>r.sub x/\∃rows g p i,oy a b rows i/\aw isRow rows g/\o=.agg [.J g p,.v (.int .i64 i)]:=by
 have k4:=W.len;refine aM hm Mv ?_;refine bg λj k5=>?_;refine cy λl k6 k7 k8=>?_;generalize y:(r.set j _).set l _=z;have G:r.sub z:=by subst y;exact aK
 have aD:z j=γ (.cells (a.V S T F)):=by subst y;exact aK
 have aL:z l=γ (.cells [.J [] .nil,.v (.int .i64 0)]):=by subst y;exact aK
 clear y;refine ck [0,3,4] (λd:Nat×ύ×Own=>[(6,.v (.int .i64 d.1)),(5,.J d.2.1 d.2.2)]) (λd x=>d.1<=β b/\bk z x 1 d.2.1 d.2.2/\aw isRow (df a (b.take d.1)) d.2.1) (λd=>β b - d.1) (0,[],.nil) ⟨⟨ε,bk.nil ι,trivial⟩,aK⟩ ?_;rintro⟨c,L,bx⟩ w ⟨A,f,h⟩ k9
 dsimp only at A f h|-
 have B:=h.len;have H:=μ (f.sub _ _ aD);refine aa ?_;refine ay (λI=>?_) λI=>?_
 .have m:b[c]?=γ (b.getD c []):=by simp_all
  obtain⟨_,l0,K,rfl⟩:=W.get m;have l1:=(e _ (a7C m)).len;have M:=fX (a:=b) (b:=[]) (e:=c) ε;have N:(df a (b.take c)).length<=c:=a8w (a9i _ _) (by rw[a7z];omega);have n:df a (b.take (c+1))=df a (b.take c)++(if ed a.az a.aE (b.getD c [])=ζ then [b.getD c []]else []):=by rw[M];simp only[df,a8S,a9T,a9N]
  generalize b.getD c []=q at*;refine aa ?_;refine aP (a5G a.az a.aE q _ _ _ _ ε) ?_;refine ay (λc2=>?_) λc2=>?_
  .refine hv f (J7 h) λl2 p x O l3=>?_;refine⟨(c+1,L++[.J (ab q) K],p),⟨by simp only;omega,O,?_⟩,⟨rfl,rfl⟩,by simp only;omega⟩;rw[n,if_pos c2];exact h.snoc ⟨_,rfl⟩
  .refine⟨(c+1,L,bx),⟨by simp only;omega,f,?_⟩,⟨rfl,rfl⟩,by simp only;omega⟩;rw[n,if_neg (by simp[c2]),a8u];exact h
 .obtain rfl:c=β b:=ε;rw[a8c]at h B;have Q:=ω (f.sub _ _ aL);cases C:a.cJ with
  |true=>refine aa ?_;exact⟨π G f.sub,[],[],.nil,_,by rw[oy,if_pos C];exact⟨rfl,rfl⟩,trivial,rfl⟩
  |false=>
   have X:a.cY.ok k=true:=by have P:=u;rw[cb.ok,C]at P;simp only[Κ,a8x,if_false]at P;exact P.2.1.1
   have N:(df a b).length<=β b:=a9i _ _;refine aa ?_;refine ak (a6c a.cY (df a b) L bx F k w h (λo Y=>e o (a9b.1 Y).1) t.at_ X ε) ?_;rintro _ l4⟨D,Z,p,E,rfl⟩;have l5:=E.len;have s:=f.sub;have H:=μ (D _ _ (f.sub _ _ aD));have Q:=ω (D _ _ (f.sub _ _ aL));have l6:=@nN 1 Z p .i64 a.lim;have l7:=J7 E;clear f;refine aa ?_
   repeat' first|refine ay (λ_=>?_) λ_=>?_|trivial
   .refine⟨π G (π s D),eC a.lim (pv a.cY (df a b)),_,_,_,?_,?_,rfl⟩
    .rw[oy,C];exact⟨rfl,rfl⟩
    .rw[eC,if_pos ε];exact E.take _
   all_goals
    refine⟨π G (π s D),eC a.lim (pv a.cY (df a b)),_,_,_,?_,?_,rfl⟩
    .rw[oy,C];exact⟨rfl,rfl⟩
    .rw[eC,if_neg ε];exact E
def J8(a c:List Ω)(d f:ύ)(o p:Own)(h r:Int)(b:U)(x:aw isRow a d)(y:aw isRow c f)(z:β a<=1000000000000)(C:∀k∈a,β k<=1000000000000):
  AC δ 13 [.agg [.J d o,.v (.int .i64 h)],.agg [.J f p,.v (.int .i64 r)]] b λk D=>D=b/\k=.v (.bool (decide (h=r)&&decide (a=c))):=by
 have E:=λb=>Fw a c d f o p b x y z C;refine aM hm Mx ?_;refine bg λG h=>?_;refine cy λL P S T=>?_;refine ay (λF=>?_) λF=>?_
 .refine aP (E _) ?_;trivial
 .trivial
def J9{f h:List Ω}(k:B2 e2 Q f N)(a:oy e2 Q h j2):f=h/\N=j2:=by
 unfold oy at a;obtain⟨o,p⟩:=k;by_cases b:e2.cJ=ζ
 .rw[if_pos b]at a;obtain⟨c,d⟩:=o b;exact⟨c.trans a.1.symm,d.trans a.2.symm⟩
 .rw[if_neg b]at a;obtain⟨c,d⟩:=p (by simpa using b);exact⟨(d _ B4 a6b).symm.trans a.2.symm,c.trans a.1.symm⟩
def nq(b:List Ω)(id:Int)(a:Ω):Prop:=(a=[]/\∀c∈b,c.getD 0 0≠id)\/(a∈b/\a.getD 0 0=id)
def nq.one(f:ez e h4){id:Int}(b:nq h4.rows id n)(a:nq h4.rows id b5):n=b5:=by
 rcases b with⟨rfl,b⟩|⟨b,d⟩
 .rcases a with⟨rfl,_⟩|⟨a,c⟩
  .rfl
  .exact absurd c (b _ a)
 .rcases a with⟨rfl,a⟩|⟨a,c⟩
  .exact absurd d (a _ b)
  .exact IW f _ b _ a (d.trans c.symm)
variable{Y:List aU}
def a6e(y:dr e Y)(L:e<=900)(z:∀c∈Y,dM H c.bK/\jT H c.c9){id:Int}(b:tZ H (Y.map Υ) O id s):
  if bB Y O<β Y then∃f h,nq (Y.getD (bB Y O) default).rows id f/\s=.aJ [.J (ab f) h,.v (.bool (decide (0<β f))),.v (.int .i64 0)]
  else s=.aJ [.J [] .nil,.v (.bool κ),.v (.int .i64 3)]:=by
 unfold tZ at b;rw[ov]at b;by_cases d:bB Y O<β Y;rotate_left
 .rw[if_neg d];rw[a9H ε]at b;exact b
 rw[if_pos d];rw[show Y[bB Y O]?=γ (Y.getD (bB Y O) default) by rw[a7V,Τ d];rfl]at b;have hm:=qv d;generalize Y.getD (bB Y O) default=c at*;have a:=y.ok c hm;have P:=a.c;have S:=a.de.ch;obtain⟨k,T⟩:=z c hm;rcases b with⟨C,_⟩|⟨rows,r,_,b⟩
 .exact absurd C (w8 (e:=β c.aH+1) ε ε a.de.eV ε k)
 have D:=w9 ε ε a.de.eV ε k r;rcases b with⟨rfl,rfl⟩|⟨o,V,h,rfl,rfl⟩
 .refine⟨[],.nil,.inl ⟨rfl,λs x E=>?_⟩,rfl⟩;exact D.1 rfl s (a.fD.mem_iff.2 x) ((u0 ε (a.row x)).2 E)
 .obtain⟨F,G⟩:=Hw ε ε a.de.eV ε k (r.sound o σ);have p:=a.fD.mem_iff.1 F;have W:=(a.row p).len;refine⟨o,h,.inr ⟨p,(u0 ε (a.row p)).1 G⟩,?_⟩;rw[decide_eq_true (show 0<β o by omega)]
def B5(a:List aU)(b:ϊ)(c:cb)(f:ύ)(h d:Int):Prop:=if bB a b<β a then
  (c.ok ((a.getD (bB a b) default).aH.length+1)=κ/\d=1)\/(c.ok ((a.getD (bB a b) default).aH.length+1)=ζ/\d=0/\∃rows,B2 c (a.getD (bB a b) default).rows rows h/\aw isRow rows f)
 else d=3
def Ja(a:if bB Y O<β Y then u5 e2 ((Y.getD (bB Y O) default).aH.length+1) (Y.getD (bB Y O) default).rows s b8 else s=.agg [.J [] .nil,.v (.int .i64 0)]/\b8=.v (.int .i64 3)):
  ∃c f d E,s=.agg [.J c f,.v (.int .i64 d)]/\b8=.v (.int .i64 E)/\B5 Y O e2 c d E:=by
 unfold B5;by_cases b:bB Y O<β Y
 .rw[if_pos b]at a;rcases a with⟨a,rfl,rfl⟩|⟨a,rows,c,d,h,k,rfl,rfl⟩
  .exact⟨_,_,_,_,rfl,rfl,by rw[if_pos b];exact .inl ⟨a,rfl⟩⟩
  .exact⟨_,_,_,_,rfl,rfl,by rw[if_pos b];exact .inr ⟨a,rfl,rows,h,k⟩⟩
 .rw[if_neg b]at a;obtain⟨rfl,rfl⟩:=a;exact⟨_,_,_,_,rfl,rfl,by rw[if_neg b]⟩
def wH(d f:U):Prop:=∀b a c,d b=γ (.cells (a::c))->((∃h k,a=.J h k)\/∃o,a=bm o)->f b=γ (.cells (a::c))
def en.pw{b c:U}(a:wH b c):∀ {d:aF}{f:R},en b d f->en c d f
 |.nil,_,h=>h
 |.node _ _ _ _,_,⟨k,o,p,r,h1,x,y,z⟩=>⟨k,o,p,r,h1,a _ _ _ x (.inl ⟨_,_,rfl⟩),y.pw a,z.pw a⟩
def hI.pw{b c:U}(a:wH b c){d:aU}{f:R}(k:hI b d f):hI c d f:=by obtain⟨o,p,r,x,h,y,z,C,D,E,F⟩:=k;exact⟨o,p,r,x,h,y,z,a _ _ _ C (.inr ⟨_,rfl⟩),D,E.pw a,F.HP λL P S h T G=>a _ _ _ G (.inl ⟨_,_,rfl⟩)⟩
def ic.pw{b c:U}(d:wH b c){f:Nat}{h:List aU}(a:ic b f h):ic c f h:=by obtain⟨k,o,p,r⟩:=a;exact⟨k,o,d _ _ _ p (.inl ⟨_,_,rfl⟩),r.mono λx y a=>a.pw d⟩
variable{e7:List aT}
theorem cE.rs(c:dj g e i t H e7)(f:cE e i t g w):wH g w:=λh p r a d=>by
 obtain⟨x,y,k,_⟩:=c.x;obtain⟨z,C,o⟩:=c.hg.at_;obtain⟨D,⟨E,F,G,_⟩,_⟩:=c.hg.mp;refine f h _ ?_ ?_ ?_ a
 .rintro rfl;rw[k]at a;obtain⟨rfl,_⟩:=ab2 (bq.cells.inj (Δ a));rcases d with⟨_,_,b⟩|⟨_,b⟩<;>cases b
 .rintro rfl;rw[o]at a;obtain⟨rfl,_⟩:=ab2 (bq.cells.inj (Δ a));rcases d with⟨_,_,b⟩|⟨_,b⟩<;>cases b
 grind
def dj.a6f(a:dj g i t I H e7)(k:ic g e Y)(d:eQ e g w):dj w i t I H e7:=by
 obtain⟨o,p,f,r⟩:=a.x;obtain⟨C,D,b⟩:=a.hg.at_;obtain⟨E,⟨F,G,c,L⟩,P⟩:=a.hg.mp;obtain⟨S,T,h,_⟩:=k;have x:i≠e:=by rintro rfl;rw[h]at f;cases f
 have y:t≠e:=by rintro rfl;rw[h]at b;cases b
 have z:I≠e:=by rintro rfl;rw[h]at c;cases c
 exact⟨a.hg.other (by rw[b];exact d _ _ y b) (by rw[c];exact d _ _ z c),⟨o,p,d _ _ x f,r⟩,a.oq,a.ot⟩
structure wI(b:U)(c eK d W:Nat)(a:af)(l:List aT)(cR:List aU)(n:Nat):Prop where
 st:dj b c eK d a l
 cat:cN l=ζ
 rs:ic b W cR
 inv:dr n cR
 rep:a.one=κ->ji a l cR
def wI.step{G x y:U}{f h k o z:Nat}{C:af}{L:List aT}{p:List aU}(a:wI G f h k o C L p z)(D:z<900){c:cC}(E:bs c.row){b:Int×List aT×af}(r:eP C L c b)
  (P:dj x f h k b.2.2 b.2.1) (S:cE f h k G x) (T:ic y o (fh p c).2) (V:eQ o x y):wI y f h k o b.2.2 b.2.1 (fh p c).2 (z+1)/\C.le b.2.2/\(b.2.2.one=κ->b.1=(fh p c).1):=by
 have F:=a4I r;have W:=a.rs.pw (S.rs a.st);refine⟨⟨P.a6f W V,a4J a.cat r,T,AI a.inv D E,λd=>(u2 r a.inv D E (a.rep (F.zero d)) d).2⟩,F,λd=>(u2 r a.inv D E (a.rep (F.zero d)) d).1⟩
def cC.ig(a:cC):Prop:=β a.table<=100/\β a.aH<=20/\(∀b∈a.aH,β b<=100)/\β a.row<=50
variable{e3:cC}
def cC.ig.fit(a:e3.ig):e3.Fit:=⟨by have:=a.1;omega,by have:=a.2.1;omega,λb c=>by have:=a.2.2.1 b c;omega,by have:=a.2.2.2;omega⟩
theorem a6g(c:List cX)(C:Own)(o:U)(V:β c<=9223372036854775807):
  AC δ 5 [.J (mo c) C] o λD E=>E=o/\∃p,D=.v (.bool p)/\(p=κ->β c<=300/\∀f∈c,f.d.ig):=by
 have W:=AM (a:=c);refine aM hm Mi ?_;refine ay (λr=>?_) λe=>?_;simp;refine fO [0] (λd:Nat=>[(3,.v (.int .i64 d))]) (λd=>d<=β c/\∀f∈c.take d,f.d.ig) (λd=>β c - d) 0 ⟨a7Y _,λf h=>by cases h⟩ aK ?_;rintro d⟨g,F⟩G;refine aa ?_;refine ay (λr=>?_) λr=>?_
 .have k:d<β c:=ε;have L:=Τ k;have i:=I0 L;have P:=a8Z k;generalize c[d]=a at*;have j:=cX.m1 (a:=a);have l:=cX.m2 (a:=a);have m:=cX.m3 (a:=a);have n:=cX.a2a (a:=a);have q:=mb (a:=a.d.aH);have s:=bn (n:=a.d.row);have t:=tL (O:=a.d.table);generalize a.C=u at*;refine aa ?_;refine ay (λS=>?_) λS=>?_;rotate_left;simp;refine ay (λc2=>?_) λc2=>?_;rotate_left;simp;refine ay (λaD=>?_) λaD=>?_;simp;refine fO [0,3] (λb:Nat=>[(4,.v (.int .i64 b))]) (λb=>b<=β a.d.aH/\∀T∈a.d.aH.take b,β T<=100) (λb=>β a.d.aH - b) 0 ⟨a7Y _,λf h=>by cases h⟩ aK ?_;rintro b⟨v,x⟩G;refine aa ?_;refine ay (λaL=>?_) λaL=>?_
  .have y:b<β a.d.aH:=ε;have w:=vA y;have A:a.d.aH.take (b+1)=a.d.aH.take b++[a.d.aH.getD b []]:=fX y;have B:=tL (O:=a.d.aH.getD b []);generalize a.d.aH.getD b []=H at*;refine aa ?_;refine ay (λaZ=>?_) λaZ=>?_;simp;grind
  .obtain rfl:b=β a.d.aH:=ε;rw[a8c]at x;refine⟨d+1,⟨k,λf z=>?_⟩,rfl,ε⟩;rw[P]at z;rcases Ψ.1 z with h|h
   .exact F f h
   .obtain rfl:=a7H.1 h;exact⟨ε,ε,x,ε⟩
 grind
def wJ(a:U)(c d f:Nat)(b:af)(h:List aT)(k:dj a c d f b h):
  AC δ 19 [.ptr c 0] a λo p=>a.sub p/\o=.v (.bool b.one):=by
 refine aM hm MK ?_;refine aP (a3y a c d f b h k) ?_;refine ak (a0c a d f b k.hg) ?_;rintro _ r⟨x,y,z,rfl⟩;refine aa ?_;trivial
variable{j8:Int × List aT × af}
theorem B6(a:eP H e7 e3 j8)(p:dr e Y)(W:e<900)(k:bs e3.row)(E:ji H e7 Y)(c:(fh Y e3).1≠0):j8=((fh Y e3).1,e7,H):=by
 obtain⟨rfl,F⟩:=E;unfold eP at a;unfold fh at c|-;by_cases G:eO e3=κ;grind;rw[if_neg G]at a c|-;have C:eO e3=true:=by grind
 by_cases o:e3.kind=1
 .rw[if_pos o]at a c|-;have L:=AF C o;rw[add_eq p ε L]at a;by_cases c2:bB Y e3.table<β Y
  .rw[if_pos c2]at a c|-;exact a
  rw[if_neg c2]at a c|-;by_cases aD:7<β Y
  .rw[if_pos aD]at a c|-;exact a
  simp_all
 rw[if_neg o]at a c|-;by_cases aD:e3.kind=2
 .rw[if_pos aD]at a;rw[AG p ε]at a;by_cases c2:bB Y e3.table<β Y;grind
  .rw[if_neg c2]at a;rw[if_pos ε];exact a
 rw[if_neg aD]at a;by_cases c2:β Y<=bB Y e3.table
 .rw[if_pos c2];have r:(Y.map Υ).find? (λb=>decide (b.name=e3.table))=none:=by rw[ov,a9H c2];rfl
  simp_all [if_pos,mn,jS,nj]
 rw[if_neg c2,if_neg aD]at c|-;have x:bB Y e3.table<β Y:=ε;have D:=qv x;have d:=p.ok _ D;have g:=u1 x;have r:(Y.map Υ).find? (λb=>decide (b.name=e3.table))=γ (Y.getD (bB Y e3.table) default).bu:=by rw[ov,a7V,Τ x];rfl
 generalize Y.getD (bB Y e3.table) default=b at*;have i:=d.c;obtain⟨y,j⟩:=F b D;have l:=d.de.ch;rcases wg C o aD with f|f
 .rw[if_pos f]at a;rw[if_neg (show¬e3.kind=4 by rw[f];decide)]at c|-;unfold mn at a;rw[r]at a
  dsimp only at a
  by_cases aL:β e3.row=β b.aH+1
  .rw[if_neg (show¬β e3.row≠β b.aH+1 from λh=>h aL)];rw[if_pos (show β e3.row=β b.bu.aH+1 from aL)]at a;have m:bJ (β b.aH+1) e3.row:=⟨aL,k⟩;rcases a with⟨P,_⟩|⟨rows,S,_,a⟩
   .exact absurd P (w8 (e:=β b.aH+1) ε ε d.de.eV ε y)
   have T:=w9 ε ε d.de.eV ε y S;have n:rows=[]↔ ¬b.rows.any (λz=>decide (bP z=bP e3.row))=true:=by
    rw[T,aat];constructor
    .rintro h⟨z,k,V⟩;exact h z (d.fD.mem_iff.2 k) ((u0 ε (d.row k)).2 (of_decide_eq_true V))
    grind
   grind
  .rw[if_neg (show¬β e3.row=β b.bu.aH+1 from aL)]at a;rw[if_pos aL];exact a
 .rw[if_neg (by rw[f];decide)]at a;rw[if_pos f]at c|-;unfold jS nj at a;rw[r]at a
  dsimp only at a
  by_cases aL:β e3.row=β b.aH+1
  .rw[if_neg (show¬β e3.row≠β b.aH+1 from λh=>h aL)];rw[if_pos (show β e3.row=β b.bu.aH+1 from aL)]at a
   dsimp only at a
   rw[if_pos rfl]at a;by_cases bt:e3.row∈b.rows;simp_all
   .rw[if_neg bt];have q:=Hb ε ε d.de.eV ε y (d.none aL bt);grind[Υ,fT,jf,br]
  .rw[if_neg (show¬β e3.row=β b.bu.aH+1 from aL)]at a;simp_all
def qA:ϊ:=dX (cD ([1,5],ζ) aG aG)
def u6:ϊ:=dX (ec [[1,5]])
def a6h:fZ qA≠fZ u6:=by unfold fZ;decide+kernel
def gq:af:=fc (fc af.new qA) u6
def Jb:gq.one=false:=by unfold gq fc;have a:af.new.m (fZ qA)=none:=rfl;rw[a];have b:(if fZ u6=fZ qA then γ qA else η)=none:=if_neg (Θ a6h);simp only[af.new,b]
theorem Jc(a:eP H e7 e3 j8)(b:e3.kind=1\/e3.kind=2):j8.2.2=H:=by grind[eP,absurd]
theorem B7:bJ 2 [1,5]:=⟨rfl,λa b=>by
 grind⟩
variable{h8:aT}
theorem a6i(b:h8.bK=aG)(c:h8.c9=aG):(fT (λH=>oh 2 [1,5] H h8.bK) (λH=>jJ 2 [1,5] H h8.c9) H e7 h8).2.2=fc (fc H qA) u6:=by
 have d:=(vS (M:=ζ) ε ε B7 (A2) (A2) Μ).2.2;have f:=(vz (e:=2) ε ε (Q:=[[1,5]]) σ σ (λh a=>by obtain rfl:=a7H.1 a;exact B7)).p3;have k:∀H:af,oh 2 [1,5] H aG=(.ok (gA (cD ([1,5],ζ) aG aG)),fc H qA):=λH=>by
  unfold oh;rw[jP,if_pos rfl];rfl
 have o:∀H:af,jJ 2 [1,5] H aG=(.ok (gA (ec [[1,5]])),fc H u6):=λH=>by
  unfold jJ;rw[if_pos rfl];rfl
 unfold fT;simp_all
def ij:aU:=⟨[116],[[97]],[],.nil,η⟩
def eR:aU:=ij.put [1,5]
def sg:cC:=⟨1,[116],[[97]],[]⟩
def kG:cC:=⟨3,[116],[],[1,5]⟩
def qB:cC:=⟨3,[116],[],[1,6]⟩
def qC:cC:=⟨3,[116],[],[2,3,4]⟩
def u7:cC:=⟨4,[116],[],[1,6]⟩
def u9:cC:=⟨2,[116],[],[]⟩
theorem c3:fh [] sg=(0,[ij]):=by rfl
theorem bS:fh [ij] kG=(0,[eR]):=by rfl
def dB:(fh [eR] qB).1=8:=by rfl
def eI:(fh [eR] qC).1=6:=by rfl
def hX:(fh [eR] u7).1=9:=by rfl
def eH:fh [eR] u9=(0,[]):=by rfl
def a6j:eR.rows=[[1,5]]:=by rfl
def a6k(a:eP af.new ([ij].map Υ) kG j8)(d:dr 1 [ij]):j8.2.2=gq:=by
 unfold eP at a;rw[if_neg (show¬eO kG=κ by trivial),if_neg (show¬kG.kind=1 by decide),if_neg (show¬kG.kind=2 by decide),if_pos (show kG.kind=3 from rfl)]at a;unfold mn at a;have f:([ij].map Υ).find? (λh=>decide (h.name=kG.table))=γ ij.bu:=by rfl
 rw[f]at a
 dsimp only at a
 rw[if_pos (show β kG.row=β ij.bu.aH+1 from rfl)]at a;have b:=d.ok ij σ;rcases a with⟨k,_⟩|⟨rows,o,_,a⟩
 .exact absurd k (w8 (e:=2) ε ε b.de.eV Μ trivial)
 have p:=w9 (e:=2) (b4:=.nil) ε ε b.de.eV Μ trivial o;rcases a with⟨c,a⟩|⟨c,a⟩
 .rw[a];exact a6i rfl rfl
 .exact absurd (p.2 λx r=>by cases r) c
end Go.Proofs.YtgchlmdfldnhnaaGreat
