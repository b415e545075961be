import Derived.Test.YtcfpcblgmmeioaaGreatMC
set_option linter.all false
open Option renaming some->β,none->ζ
open Go.Proofs.Tryz renaming prog->γ
open List renaming replicate->ε,zipWith->ψ,range->ω,length_append->Β,take_of_length_le->Ε,drop_eq_getElem_cons->Ν,length->α
open Bool renaming true->η,false->ι
open Go.bD.U renaming a6->θ,ae->κ,ag->μ,ai->ξ,an->ο,au->π,set_set->τ,aI->χ,set_nil->Η,bK->Ο
open UInt8 renaming ofNat->ν
open BitVec renaming ofInt->ρ
open Go.bD.R renaming cells->σ
open Go.bD.bj renaming nil->Τ
namespace Go.bD
open Go
variable{e i v M b9 j1:Nat}{b0:Type}
theorem eX{a:List b0}{b:b0}(c:e<α a):a.take (e+1)=a.take e++[a.getD e b]:=by simp_all
abbrev fO(a b:U)(c:ϊ)(d:R):Prop:=av a b 1 (c.map aj) d
def ox(b:U)(c:R)(a:ϊ):Prop:=bW b 1 c=β (α a,a.map aj)
theorem ox.J{s:U}{a:ϊ}{o:Own}:ox s (.J (a.map aj) o) a:=by have b:=CZ (f:=s) (w:=a) (N:=o);exact b
variable{n b5:R}{f s e0:U}{w j4:ϊ}
def fO.hF(b:fO s f w n):ox f n w:=by obtain⟨d,a,c,_⟩:=b.src;simp only[a7w,a8g]at a;subst a;exact c
def av.sub{a b:U}{c:Nat}{d:ύ}{h:R}(k:av a b c d h):a.sub b:=k.1
variable{t Z:R -> U -> Prop}{K:Ctx}{b4:FuncId}{g H c0:ύ}
section
def Dj(c:fO f s w n)(d:ox s b5 j4)(h:∀b a,fO f a (w++j4) b->f.sub a->Z b a)(o:α w+α j4<=100000000000:=by(try simp only[Ψ,a7s,a7x,a7w, *])<;>omega)
  (k:∀b a,fO f a (w++j4) b->f.sub a->t b a=Z b a:=by intro b s c p;exact eI):jS 1 1 s n b5 (bX t ()):=
 fj c δ d ς Μ Μ λb a c=>by rw[<-a8l]at c;exact(k b a c c.sub).mpr (h b a c c.sub)
def nu(c:fO f e0 w n)(d:fO e0 s j4 b5)(h:∀b a,fO f a (w++j4) b->f.sub a->Z b a)(k:α w+α j4<=100000000000:=by(try simp only[Ψ,a7s,a7x,a7w, *])<;>omega)
  (o:∀b a,fO f a (w++j4) b->f.sub a->t b a=Z b a:=by intro b s c p;exact eI):jS 1 1 s n b5 (bX t ()):=Dj (c.mono d.sub) d.hF h k o
def uI(b:ϊ)(o:∀c a,fO f a b c->f.sub a->Z c a)(z:g=b.map aj:=by first|rfl|simp)(p:α g<=1000000000000:=by(try simp only[Ψ,a7s,a7x,a7w, *])<;>omega)
  (r:∀c a,fO f a b c->f.sub a->t c a=Z c a:=by intro c f d E;exact eI):om 1 f g (bX t ()):=by
 have h:=λc a d=>(r c a d d.sub).mpr (o c a d d.sub);subst z;rw[a7w]at p;by_cases k:b=[]
 .subst k;rw[a8K,oo];exact h _ _ (av.zero θ)
 .refine eQ (by intro F C;obtain⟨_,_,rfl⟩:=a7G.1 C;rfl) (by simpa using k) λD x=>h _ _ ?_;have y:flat (b.map aj)=b.map aj:=by
   clear h o r k p
   induction b with
   |nil=>rfl
   |cons G b ih=>simp only[a7C,flat,a7P]at ih|-;rw[ih];rfl
  refine⟨μ θ x,.inr ⟨D,α b,α b,_,ς,x,ξ _ _ _,?_,?_,ς,δ,by simp only[maxLen];omega⟩⟩
  .rw[y];simp
  .rw[y,Φ ς]
def ie{d:R->U->Prop}(c:AC K.p b4 g f t)(h:∀a b,t a b->d a b)(k:∀a b,t a b->Z a b=d a b:=by intro a f c;exact eI):oe K b4 g f (bX Z ()):=ah c λa b c=>(k a b c).mpr (h a b c)
end
variable{j6:Nat -> Prop}{Y:bu}{Q b6 h3 j3 j7:Prop}
section
def xM{c:Nat->Prop}{x y:bu}(z:∀a,f a=ζ->a≠e->e≠a->a≠i->i≠a->a≠v->v≠a->c a)(C:∀a,f a=ζ->a≠e->e≠a->a≠i->i≠a->a≠v->v≠a->j6 a=c a:=by intros;exact eI):jm (((f.set e Y).set i x).set v y) (c4 j6 ()):=λa b=>by
 obtain⟨b,d,h⟩:=Η b;obtain⟨b,k,o⟩:=Η b;obtain⟨b,p,r⟩:=Η b;exact(C a b p r k o d h).mpr (z a b p r k o d h)
def YU{c:Nat->Prop}{z C D:bu}(E:∀a,f a=ζ->a≠e->e≠a->a≠i->i≠a->a≠v->v≠a->a≠M->M≠a->c a)(F:∀a,f a=ζ->a≠e->e≠a->a≠i->i≠a->a≠v->v≠a->a≠M->M≠a->j6 a=c a:=by intros;exact eI):jm ((((f.set e Y).set i z).set v C).set M D) (c4 j6 ()):=λa b=>by
 obtain⟨b,d,h⟩:=Η b;obtain⟨b,k,o⟩:=Η b;obtain⟨b,p,r⟩:=Η b;obtain⟨b,x,y⟩:=Η b;exact(F a b x y p r k o d h).mpr (E a b x y p r k o d h)
def jT{v:R}(c:∀a,f a=ζ->j6 a)(d:aY e (v::g):=by simp[aY,σ, *])(h:∀a,f a=ζ->t (.J (v::g) (.buf a (v::g).length)) (f.set a (.buf e (v::g).length (v::g).length))=j6 a:=by intros;exact eI):jR e f (v::g) (bX t ()):=by refine⟨d,?_⟩;rw[if_neg ς];intro a b;exact(h a b).mpr (c a b)
def YV{v:R}(h:∀a,f a=ζ->a≠e->e≠a->j6 a)(k:aY i (v::g):=by simp[aY,σ, *])(o:∀a,f a=ζ->a≠e->e≠a->t (.J (v::g) (.buf a (v::g).length)) ((f.set e Y).set a (.buf i (v::g).length (v::g).length))=j6 a:=by intros;exact eI):jR i (f.set e Y) (v::g) (bX t ()):=by refine⟨k,?_⟩;rw[if_neg ς];intro a b;obtain⟨b,c,d⟩:=Η b;exact(o a b c d).mpr (h a b c d)
def uJ{v:R}{c:bu}(p:∀a,f a=ζ->a≠e->e≠a->a≠i->i≠a->j6 a)(r:aY M (v::g):=by simp[aY,σ, *])(x:∀a,f a=ζ->a≠e->e≠a->a≠i->i≠a->t (.J (v::g) (.buf a (v::g).length)) (((f.set e Y).set i c).set a (.buf M (v::g).length (v::g).length))=j6 a:=by intros;exact eI):jR M ((f.set e Y).set i c) (v::g) (bX t ()):=by refine⟨r,?_⟩;rw[if_neg ς];intro a b;obtain⟨b,d,h⟩:=Η b;obtain⟨b,k,o⟩:=Η b;exact(x a b k o d h).mpr (p a b k o d h)
def YW{c:Nat}{v:R}{d h k o:bu}(L:∀a,f a=ζ->a≠e->e≠a->a≠i->i≠a->a≠M->M≠a->a≠b9->b9≠a->a≠j1->j1≠a->j6 a)(P:aY c (v::g):=by simp[aY,σ, *])(S:∀a,f a=ζ->a≠e->e≠a->a≠i->i≠a->a≠M->M≠a->a≠b9->b9≠a->a≠j1->j1≠a->t (.J (v::g) (.buf a (v::g).length)) ((((((f.set e Y).set i d).set M h).set b9 k).set j1 o).set a (.buf c (v::g).length (v::g).length))=j6 a:=by intros;exact eI):jR c (((((f.set e Y).set i d).set M h).set b9 k).set j1 o) (v::g) (bX t ()):=by refine⟨P,?_⟩;rw[if_neg ς];intro a b;obtain⟨b,p,r⟩:=Η b;obtain⟨b,x,y⟩:=Η b;obtain⟨b,z,C⟩:=Η b;obtain⟨b,D,E⟩:=Η b;obtain⟨b,F,G⟩:=Η b;exact(S a b F G D E z C x y p r).mpr (L a b F G D E z C x y p r)
def YX{d:Nat}{v:R}{c:Nat}{h k o p r:bu}(V:∀a,f a=ζ->a≠e->e≠a->a≠i->i≠a->a≠M->M≠a->a≠b9->b9≠a->a≠j1->j1≠a->a≠c->c≠a->j6 a)(W:aY d (v::g):=by simp[aY,σ, *])(j:∀a,f a=ζ->a≠e->e≠a->a≠i->i≠a->a≠M->M≠a->a≠b9->b9≠a->a≠j1->j1≠a->a≠c->c≠a->t (.J (v::g) (.buf a (v::g).length)) (((((((f.set e Y).set i h).set M k).set b9 o).set j1 p).set c r).set a (.buf d (v::g).length (v::g).length))=j6 a:=by intros;exact eI):jR d ((((((f.set e Y).set i h).set M k).set b9 o).set j1 p).set c r) (v::g) (bX t ()):=by refine⟨W,?_⟩;rw[if_neg ς];intro a b;obtain⟨b,x,y⟩:=Η b;obtain⟨b,z,C⟩:=Η b;obtain⟨b,D,E⟩:=Η b;obtain⟨b,F,G⟩:=Η b;obtain⟨b,L,P⟩:=Η b;obtain⟨b,S,T⟩:=Η b;exact(j a b S T L P F G D E z C x y).mpr (V a b S T L P F G D E z C x y)
def mu(a:AC K.p b4 (g++c0++H) f λb c=>c=f/\b=n)(d:Q)(h:fA K.p b4=true:=by kernel_rfl)(k:t n f=Q:=by exact eI):xB K (.bG b4 g H) c0 f (bX t ()):=
 eR h a λ_ _ a=>by rw[a.1,a.2];exact k.mpr d
end
variable{h8:eC}{I:Bool}{e8:gm -> Fr -> U -> Prop}{j:Fr}
section
theorem xN{r:eC}{h:Fr}{k:ϋ}{x:b0->List (Nat×R)}{y:b0->U->Prop}(z:∀c∈wr h8,c∈k)(D:hE k h j)(o:ϋ)(V:o.all (λc=> !k.contains c)=η)
  (E:c3 K h8 (eW (λa b=>∃C,y C b/\gR a (x C)) e8) j f) (F:∀d b,y d b->∀a,c3 K r e8 (hb (hb a (keeps h o)) (x d)) b):c3 K h8 (eW (c3 K r e8) e8) j f:=by
 refine jo h8 (λG a b p=>?_) j f (ov h8 z j f D E);cases G with
 |norm=>
  obtain⟨⟨d,L,P⟩,S⟩:=p;have T:gR a (keeps h o):=xK λc W=>S c λz=>by
   simp_all
  have:=F d b L a;rw[sA T,sA P]at this;exact this
 |exit e=>exact p.1
 |ret=>exact p.1
def pJ{h:eC}(b:ϋ)(k:b0->List (Nat×R))(o:b0->U->Prop)
  (x:c3 K h8 (eW (λc a=>∃p,o p a/\gR c (k p)) e8) j f) (d:∀r a,o r a->∀c,c3 K h e8 (hb (hb c (keeps j b)) (k r)) a) (y:b.all (λz=> !(wr h8).contains z)=true:=by kernel_rfl):c3 K (.seq h8 h) e8 j f:=
 xN (k:=wr h8) (λ_ d=>d) (λ_ _=>rfl) b y x d
def oy{h k:eC}{z:cy (c3 K h (eW (c3 K h8 e8) e8) j f)}{C:cy (c3 K k (eW (c3 K h8 e8) e8) j f)}(o:ϋ)(p:b0->List (Nat×R))(r:b0->U->Prop)
  (D:I=η->c3 K h (eW (λc a=>∃d,r d a/\gR c (p d)) e8) j f) (E:I=ι->c3 K k (eW (λc a=>∃d,r d a/\gR c (p d)) e8) j f) (b:∀x a,r x a->∀c,c3 K h8 e8 (hb (hb c (keeps j o)) (p x)) a) (y:o.all (λI=> !(wr h++wr k).contains I)=true:=by kernel_rfl):
  kA (.v (.bool I)) (cu (c3 K h (eW (c3 K h8 e8) e8) j f) z) (cu (c3 K k (eW (c3 K h8 e8) e8) j f) C):=
 ⟨λh8=>xN (λ_ b=>a9B _ b) (λ_ _=>rfl) o y (D h8) b,λh8=>xN (λ_ b=>a9w _ b) (λ_ _=>rfl) o y (E h8) b⟩
end
def Dk(a:Q=b6:=by first|(simp -dsimp -implicitDefEqProofs (disch:=first|omega|assumption|exact U.uC abE abE|(simp only[aW,Nat.reduceAdd];try omega)) only[YM,oo,go_sem,simprocAttr,-List.reduceReplicate,↓eS,uD,uB, *]<;>rfl)|rfl):Q=b6:=a
def pK(a:e<=i:=by first|omega|((try simp only[Ψ,a7s,a7x,a7w,a7q,a7F, *])<;>omega)):e<=i:=a
def rd(a:f.sub s)(b:f e=β (.cells g)):s.read e=β g:=κ (a _ _ b)
theorem Dl{v:R}(b:aY e g)(h:α v.cells=e):aY e (g++[v]):=λc d=>by
 rcases a7z.1 d with a|a
 .exact b c a
 grind
def Dm:aY e []:=λ_ a=>by cases a
variable{N e6 h6:Own}
theorem bj.nv(r:bj s f e g N):∃d:U,bj d f e g N/\d.sub f/\s.sub d/\∀a,(∀b o,N=.buf b o->b≠a)->d a=f a:=by
 obtain⟨k,h⟩:=r;cases N with
 |buf b o=>
  have p:(f.del b).sub f:=λa N c=>by
   grind[U.iH,U.eN]
  refine⟨f.del b,⟨p,U.iH _ _,h.2⟩,p,λa N c=>?_,λa c=>U.eN _ (Ι (c _ _ rfl))⟩;have x:a≠b:=by rintro rfl;rw[h.1]at c;cases c
  rw[U.eN _ x];exact k _ _ c
 |any=>trivial
 |nil=>exact⟨f,⟨θ,h⟩,θ,k,λ_ _=>rfl⟩
 |zero=>exact⟨f,⟨θ,h⟩,θ,k,λ_ _=>rfl⟩
def sE{k:cy t}(d:bj s f e g N)(o:aY e g)(p:aY e H)(r:(α g+α H)*i<=140737488355328)(x:α g+α H<=9223372036854775807)
  (y:∀b a,bj s a e (g++H) b->iL f a->t (.J (g++H) b) a):mq e i f (.J g N) (.J H e6) (bX t k):=by
 obtain⟨G,z,L,C,D⟩:=d.nv;refine ep z o p r x λb a h=>y b a (h.base C) λE P c=>h.sub _ _ ?_;rw[D E (λS T F=>by subst F;rintro rfl;rw[d.2.2]at c;cases c)];exact c
section
def hG{v:R}{k:Nat->R->U->Prop}{o:Nat->Own->U->Prop}(p:bj f s e g N)(y:aY e g)(z:∀a c b,bj f b e (g++[v]) c->iL s b->o a c b)
  (C:Q=jR e s [v] (bX t ()):=by exact ic)
  (D:∀a,s a=ζ->t (.J [v] (.buf a 1)) (s.set a (.buf e 1 1))=mq e i (s.set a (.buf e 1 1)) (.J g N) (.J [v] (.buf a 1)) (bX (k a) ()):=by intro a d;exact eI)
  (E:∀a c b,bj f b e (g++[v]) c->k a (.J (g++[v]) c) b=o a c b:=by intro a c b p;exact ic)
  (r:α v.cells=e:=by first|rfl|assumption|simp[σ, *]) (P:α g<=1000000000:=by exact pK) (F:i<=10000:=by decide):Q:=by
 rw[C];refine⟨λG h=>by rw[a7I.1 h];exact r,?_⟩;rw[if_neg ς];intro a d;refine(D a d).mpr (sE (p.mono (μ θ d)) y (λG h=>by rw[a7I.1 h];exact r) ?_ ?_ λc b x L=>(E a c b x).mpr (z a c b x ((U.sD (μ θ d)).trans L)))
 .exact a8m (aak (show α g+1<=1000000001 by omega) F) Θ
 .simp;omega
def YY:aY 1 (w.map aj):=λb a=>by obtain⟨_,_,rfl⟩:=a7G.1 a;rfl
def YZ{d:UInt8}{k:Nat->R->U->Prop}{o:Nat->Own->U->Prop}(p:bj f s 1 (w.map aj) N)(x:∀a c b,bj f b 1 ((w++[d]).map aj) c->iL s b->o a c b)
  (y:Q=jR 1 s [aj d] (bX t ()):=by exact ic)
  (z:∀a,s a=ζ->t (.J [aj d] (.buf a 1)) (s.set a (.buf 1 1 1))=mq 1 e (s.set a (.buf 1 1 1)) (.J (w.map aj) N) (.J [aj d] (.buf a 1)) (bX (k a) ()):=by intro a G;exact eI)
  (C:∀a c b,bj f b 1 ((w++[d]).map aj) c->k a (.J ((w++[d]).map aj) c) b=o a c b:=by intro a c b p;exact ic)
  (D:α w<=1000000000:=by exact pK) (E:e<=10000:=by decide):Q:=by
 have r:w.map aj++[aj d]=(w++[d]).map aj:=by rw[a8l];rfl
 refine hG p YY (λa c b h F=>x a c b (r▸h) F) y z (λa c b h=>?_) rfl (by rw[a7w];exact D) E;rw[r]at h|-;exact C a c b h
def kE{c:Own->U->Prop}(d:bj f s e g N)(k:aY e g)(o:aY e H)(p:∀b a,bj f a e (g++H) b->iL s a->c b a)
  (r:Q=mq e i s (.J g N) (.J H e6) (bX t ()):=by exact ic) (x:∀b a,bj f a e (g++H) b->t (.J (g++H) b) a=c b a:=by intro b a d;exact ic)
  (y:α g+α H<=1000000000:=by exact pK) (z:i<=10000:=by decide):Q:=by
 rw[r];refine sE d k o (a8m (aak y z) Θ) δ λb a h C=>(x b a h).mpr (p b a h C)
def sF{c:Own->U->Prop}(h:aY e g)(k:∀a b,bj f b e g a->c a b)
  (o:Q=mq e i f (.J [] N) (.J g e6) (bX t ()):=by exact Dk) (p:N=.nil\/N=.zero:=by first|exact .inl rfl|exact .inr rfl) (r:∀a b,bj f b e g a->t (.J g a) b=c a b:=by intro a b d;exact ic)
  (x:α g<=1000000000:=by exact pK) (y:i<=10000:=by decide):Q:=
 kE (f:=f) (c:=c) (by rcases p with rfl|rfl;exact Τ θ;exact bj.zero θ) Dm h (λa b d _=>k a b d) o r (by simpa using x) y
def r2(c:av f s e H n)(k:bW s e b5=β (v,g))(o:∀a b,av f b e (H++g) a->Z a b)
  (p:Q=jS e i s n b5 (bX t ()):=by exact ic) (r:∀a b,av f b e (H++g) a->t a b=Z a b:=by intro a b c;exact ic)
  (d:0<e:=by decide) (x:α g=v*e:=by first|rfl|omega|simp) (y:α H+α g<=1000000000:=by exact pK) (z:i<=10000:=by decide):Q:=by
 rw[p];refine fj c d k x (a8m (aak y z) (a8m Θ (aaY _ d))) δ λa b h=>(r a b h).mpr (o a b h)
def uK(c:bW f e n=β (v,g))(d:∀a b,av f b e g a->Z a b)
  (h:Q=jS e i f (.J [] N) n (bX t ()):=by exact Dk) (k:N=.nil\/N=.zero:=by first|exact .inl rfl|exact .inr rfl) (o:∀a b,av f b e g a->t a b=Z a b:=by intro a b z;exact ic)
  (p:0<e:=by decide) (r:α g=v*e:=by first|rfl|omega|simp) (x:α g<=1000000000:=by exact pK) (y:i<=10000:=by decide):Q:=
 r2 (H:=[]) (f:=f) (by rcases k with rfl|rfl;exact av.nil θ;exact av.zero θ) c d h o p r (by simpa using x) y
def Z0{v:R}{h k:Nat->R->U->Prop}(o:av f s 1 g n)(r:∀a b c,av f c 1 (g++[v]) b->h a b c)(x:Q=om 1 s [v] (bX t ()):=by exact ic)
  (y:∀a,s a=ζ->t (.aq a 1 1 1) (s.set a (.cells [v]))=jS 1 e (s.set a (.cells [v])) n (.aq a 1 1 1) (bX (k a) ()):=by intro a d;exact eI)
  (z:∀a b c,av f c 1 (g++[v]) b->k a b c=h a b c:=by intro a b c o;exact ic) (p:v.cells=[v]:=by first|rfl|assumption) (C:α g+1<=1000000000:=by exact pK) (D:e<=10000:=by decide):Q:=by
 have E:flat [v]=[v]:=by simp[flat,p]
 rw[x];refine eQ (λG F=>by rw[a7I.1 F,p];rfl) ς λa d=>?_;rw[E];refine(y a d).mpr (r2 (o.mono (μ θ d)) ?_ (r a) rfl (z a) Θ rfl C D);simp[bW,U.read,U.set]
end
end Go.bD
set_option maxRecDepth 100000
namespace Go.Proofs.YtcfpcblgmmeioaaGreat
open Go Go.bD
def rotl(a:UInt32)(b:Nat):UInt32:=a<<<UInt32.ofNat b|||a>>>UInt32.ofNat (32 - b)
def Z1(a:Nat)(b:0<a/\a<32):bt .and (.int .u64 (IntKind.u64.wrap (-((32 - a:Nat):Int)))) (.int .u64 31)=β (.int .u64 a):=by have c:∀a:Fin 32,0<a.val->IntKind.u64.wrap (ρ IntKind.u64.bits (IntKind.u64.wrap (-((32 - a.val:Nat))))&&&ρ IntKind.u64.bits 31).toNat=(a.val):=Θ;have:=c ⟨a,b.2⟩ b.1;simp only[bt,fy,hT,this];rfl
theorem Z2(c:UInt32)(a:Nat)(d:0<a/\a<32)(b:U):AC γ 250 [.v (.int .u32 c.toNat),.v (.int .i64 (-((32 - a:Nat):Int)))] b λh k=>k=b/\h=.v (.int .u32 (rotl c a).toNat):=by refine bd hm Ss ς ?_;refine aG (Z1 a d) ?_;refine⟨b,θ,rfl,?_⟩;grind[rotl]
def mv(b:UInt32)(d:Int)(a:Nat)(h:0<a/\a<32)(k:d= -((32 - a:Nat):Int))(c:U):AC γ 250 [.v (.int .u32 b.toNat),.v (.int .i64 d)] c λo p=>p=c/\o=.v (.int .u32 (rotl b a).toNat):=by subst k;exact Z2 b a h c
def word(a:ϊ)(b:Nat):UInt32:=(a.getD (4*b) 0).toUInt32<<<24|||(a.getD (4*b+1) 0).toUInt32<<<16|||(a.getD (4*b+2) 0).toUInt32<<<8|||(a.getD (4*b+3) 0).toUInt32
def Z3(a:UInt32):UInt32:=rotl a 25^^^rotl a 14^^^a>>>3
def Z4(a:UInt32):UInt32:=rotl a 15^^^rotl a 13^^^a>>>10
def more(a:ό):ό:=a++[a.getD (α a - 16) 0+Z3 (a.getD (α a - 15) 0)+a.getD (α a - 7) 0+Z4 (a.getD (α a - 2) 0)]
def first(a:ϊ)(b:Nat):ό:=(ω b).map (word a)
def grow:Nat->ό->ό
 |0,a=>a
 |b+1,a=>grow b (more a)
def sched(a:ϊ):ό:=grow 48 (first a 16)
def et(a:ό):ύ:=a.map (λb=>.v (.int .u32 b.toNat))++ε (64 - α a) (.v (.int .u32 0))
def Z5:et []=ε 64 (.v (.int .u32 0)):=by rfl
variable{h7:ό}
def sG(a:α h7<=64):(et h7).length=64:=by simp[et];omega
variable{e i v M b9 j1:Nat}
theorem xO(a:UInt32)(b:e=α h7)(d:α h7<64):putAt (et h7) e [.v (.int .u32 a.toNat)]=et (h7++[a]):=by subst b;have c:64 - α h7=(64 -(α h7+1))+1:=δ;simp only[putAt,et,c,a9D];grind
theorem lC(a:e<α h7):aM ι 1 ((et h7).drop e)=.v (.int .u32 (h7.getD e 0).toNat):=by grind[aM,et,List.map_drop,Ν,List.getD]
theorem Z6(c:ϊ)(V:Own)(i:α c=64)(D:U):AC γ 248 [.J (c.map aj) V] D λj r=>r=D/\j=.agg ((sched c).map λP=>.v (.int .u32 P.toNat)):=by
 refine bd hm Sn ς ?_;refine er ?_;refine aN λF l=>?_;refine er ?_;refine aN λG S=>?_;obtain⟨s,S⟩:=U.gP S;refine er ?_;refine cm (λb r=>∃a:Nat,a<=16/\b 0=.J (c.map aj) V/\b 2=.ptr F 0/\b 3=.ptr G 0/\b 10=.v (.int .i64 a)/\r=(D.set F (.cells (ε 64 (.v (.int .u32 0))))).set G (.cells (et (first c a))))
  (λb _=>match b 10 with|.v (.int _ T)=>(16 - T).toNat|_=>0) ⟨0,δ,?_⟩ ?_
 .simp -dsimp -implicitDefEqProofs (disch:=first|omega|assumption|(simp only[aW,Nat.reduceAdd];try omega)) only[go_sem,↓reduceIte,Nat.reduceEqDiff,Nat.reduceAdd,Nat.reduceSub,Nat.reduceMul,Nat.reduceLeDiff,Nat.reduceLT,Int.reduceNeg,Int.reduceToNat,Int.reduceAdd,Int.reduceSub,Int.reduceMul,Int.reduceLT,Int.reduceLE,Int.reduceEq,Int.reduceNe,first,List.range_zero,Z5]
  all_goals (simp)
 .rintro b r⟨a,m,W,d,h,e,rfl⟩;have f:(first c a).length=a:=by simp[first]
  by_cases k:(a:Int)<16
  .have o:(et (first c a)).length=64:=sG δ;have n:(4*(a:Int)).toNat=4*a:=δ;have x:(4*(a:Int)+1).toNat=4*a+1:=δ;have y:(4*(a:Int)+2).toNat=4*a+2:=δ;have z:(4*(a:Int)+3).toNat=4*a+3:=δ;have t:(a:Int).toNat+1<=64:=δ;refine aG (fF @W @d @h @e @k @o @i @n @x @y @z) ?_;rw[xO _ f.symm δ];refine⟨⟨a+1,δ,ς,?_⟩,δ⟩;simp only[first,ab3,a8l,a7C,a8K];rfl
  .obtain rfl:a=16:=δ;refine aG (bh @W @d @h @e @k) ?_;refine cm (λb r=>∃(p:ό)(a:Nat),a<=48/\α p=16+a/\grow (48 - a) p=sched c/\b 2=.ptr F 0/\b 3=.ptr G 0/\b 5=.v (.int .i64 ((16+a:Nat)))/\r=(D.set F (.cells (ε 64 (.v (.int .u32 0))))).set G (.cells (et p)))
    (λb _=>match b 5 with|.v (.int _ T)=>(64 - T).toNat|_=>0) ⟨first c 16,0,δ,f,rfl,?_⟩ ?_
   .simp -dsimp -implicitDefEqProofs (disch:=first|omega|assumption|(simp only[aW,Nat.reduceAdd];try omega)) only[go_sem,↓reduceIte,Nat.reduceEqDiff,Nat.reduceAdd,Nat.reduceSub,Nat.reduceMul,Nat.reduceLeDiff,Nat.reduceLT,Int.reduceNeg,Int.reduceToNat,Int.reduceAdd,Int.reduceSub,Int.reduceMul,Int.reduceLT,Int.reduceLE,Int.reduceEq,Int.reduceNe,d,h,grow];rfl
   .rintro b r⟨p,a,m,L,g,d,h,C,rfl⟩;by_cases k:((16+a:Nat):Int)<64
    .have o:(et p).length=64:=sG δ;have x:(((16+a:Nat):Int) - 15).toNat=a+1:=δ;have y:(((16+a:Nat):Int) - 2).toNat=a+14:=δ;have z:(((16+a:Nat):Int) - 16).toNat=a:=δ;have E:(((16+a:Nat):Int) - 7).toNat=a+9:=δ;refine aG (cg @d @h @C @k @x @y @z @E @o @lC) ?_;refine ah (mv _ _ 25 Θ Θ _) ?_;rintro _ _⟨rfl,rfl⟩;refine aG (cg @d @h @C @k @x @y @z @E @o @lC) ?_;refine ah (mv _ _ 14 Θ Θ _) ?_;rintro _ _⟨rfl,rfl⟩;refine aG (cg @d @h @C @k @x @y @z @E @o @lC) ?_;refine ah (mv _ _ 15 Θ Θ _) ?_;rintro _ _⟨rfl,rfl⟩;refine aG (cg @d @h @C @k @x @y @z @E @o @lC) ?_;refine ah (mv _ _ 13 Θ Θ _) ?_;rintro _ _⟨rfl,rfl⟩;refine aG (cg @d @h @C @k @x @y @z @E @o @lC) ?_;rw[xO _ L.symm δ];refine⟨⟨_,a+1,δ,by simp[L];omega,?_,?_,rfl⟩,δ⟩
     .rw[<-g,show 48 - a=(48 -(a+1))+1 by omega,grow,more,L];rw[show 16+a - 16=a by omega,show 16+a - 15=a+1 by omega,show 16+a - 7=a+9 by omega,show 16+a - 2=a+14 by omega];rfl
     .simp;omega
    .obtain rfl:a=48:=δ;have o:(et p).length=64:=sG δ;have q:(et p).take 64=p.map λP=>.v (.int .u32 P.toNat):=by grind[et,Ε]
     have u:p=sched c:=g;refine aG (c7 @d @h @C @k @o @q @L) ?_;exact⟨D,μ (μ θ l) S,rfl,by grind⟩
def wl(a:ό):ύ:=a.map λb=>.v (.int .u32 b.toNat)
theorem eT:(wl h7).length=α h7:=by simp[wl]
theorem hI(a:e<α h7):aM ι 1 ((wl h7).drop e)=.v (.int .u32 (h7.getD e 0).toNat):=by simp only[aM,wl];simp_all
def pL(a:0<α h7):aM ι 1 (wl h7)=.v (.int .u32 (h7.getD 0 0).toNat):=hI (e:=0) a
def Dn(a:UInt32)(b:e<α h7):putAt (wl h7) e [.v (.int .u32 a.toNat)]=wl (h7.set e a):=by simp only[putAt,wl,a7s,a7x,<-aaF,<-aa8];rw[a8F,if_pos b];simp
def nx:ό:=[
 0x428a2f98,0x71374491,0xb5c0fbcf,0xe9b5dba5,0x3956c25b,0x59f111f1,0x923f82a4,0xab1c5ed5,
 0xd807aa98,0x12835b01,0x243185be,0x550c7dc3,0x72be5d74,0x80deb1fe,0x9bdc06a7,0xc19bf174,
 0xe49b69c1,0xefbe4786,0x0fc19dc6,0x240ca1cc,0x2de92c6f,0x4a7484aa,0x5cb0a9dc,0x76f988da,
 0x983e5152,0xa831c66d,0xb00327c8,0xbf597fc7,0xc6e00bf3,0xd5a79147,0x06ca6351,0x14292967,
 0x27b70a85,0x2e1b2138,0x4d2c6dfc,0x53380d13,0x650a7354,0x766a0abb,0x81c2c92e,0x92722c85,
 0xa2bfe8a1,0xa81a664b,0xc24b8b70,0xc76c51a3,0xd192e819,0xd6990624,0xf40e3585,0x106aa070,
 0x19a4c116,0x1e376c08,0x2748774c,0x34b0bcb5,0x391c0cb3,0x4ed8aa4a,0x5b9cca4f,0x682e6ff3,
 0x748f82ee,0x78a5636f,0x84c87814,0x8cc70208,0x90befffa,0xa4506ceb,0xbef9a3f7,0xc67178f2]
def gw:ό:=[0x6a09e667,0xbb67ae85,0x3c6ef372,0xa54ff53a,0x510e527f,0x9b05688c,0x1f83d9ab,0x5be0cd19]
def xP(a:U):AC γ 194 [] a λb c=>c=a/\b=.agg (wl gw):=by refine bd hm QX ς ?_;refine er ?_;refine aN λh d=>?_;simp -dsimp -implicitDefEqProofs (disch:=first|omega|assumption|(simp only[aW,Nat.reduceAdd];try omega)) only[go_sem,simprocAttr,putAt,List.take,List.drop,ε,a8A,a7H];exact⟨a,μ θ d,rfl,rfl⟩
def Z7(a:U):AC γ 249 [] a λb c=>c=a/\b=.agg (wl nx):=by refine bd hm Sq ς ?_;refine er ?_;refine aN λh d=>?_;simp -dsimp -implicitDefEqProofs (disch:=first|omega|assumption|(simp only[aW,Nat.reduceAdd];try omega)) only[go_sem,simprocAttr,putAt,List.take,List.drop,ε,a8A,a7H];exact⟨a,μ θ d,rfl,rfl⟩
def sH(p r:UInt32):ό->ό
 |[a,c,d,x,b,h,k,y]=>
  let o:=y+(rotl b 26^^^rotl b 21^^^rotl b 7)+(b&&&h^^^ ~~~b&&&k)+p+r
  let z:=(rotl a 30^^^rotl a 19^^^rotl a 10)+(a&&&c^^^a&&&d^^^c&&&d)
  [o+z,a,c,d,x+o,b,h,k]
 |C=>C
def iN:ό->ό->ό->ό
 |a::bF,b::ws,v=>iN bF ws (sH a b v)
 |_,_,v=>v
def comp(a:ό)(b:ϊ):ό:=ψ (·+ ·) (iN nx (sched b) a) a
def jU(a:Nat)(v b:ό):ό:=ψ (·+ ·) (v.take a) (b.take a)++v.drop a
def Dp:∀(a:Nat)(b:ό),(grow a b).length=α b+a
 |0,b=>rfl
 |a+1,b=>by rw[grow,Dp a,more];simp;omega
def Z8(a:ϊ):(sched a).length=64:=by simp[sched,Dp,first]
def Z9(a:ϊ)(c:Own)(d:α a=64)(b:U):AC γ 248 [.J (a.map aj) c] b λh k=>k=b/\h=.agg (wl (sched a)):=Z6 a c d b
def Dq(v b:ό)(c:α v=8)(d:α b=8)(a:Nat)(h:a<8):
  (jU a v b).length=8/\(jU a v b).set a ((jU a v b).getD a 0+b.getD a 0)=jU (a+1) v b:=by
 match v,c,b,d with
 |[k,o,p,r,x,y,z,C],_,[D,E,F,G,L,P,S,T],_=>rcases(by omega:a=0\/a=1\/a=2\/a=3\/a=4\/a=5\/a=6\/a=7)with rfl|rfl|rfl|rfl|rfl|rfl|rfl|rfl<;>exact⟨rfl,rfl⟩
def Za(a b:UInt32)(v:ό)(c:α v=8):(sH a b v).length=8:=by
 match v,c with
 |[d,h,k,o,p,r,x,a],_=>rfl
def Dr:∀(a b v:ό),α v=8->(iN a b v).length=8
 |[],_,v,c=>by trivial
 |_:: _,[],v,c=>by trivial
 |d::a,h::b,v,c=>by rw[iN];exact Dr a b _ (Za d h v c)
theorem Ds(b c v:ό)(a:Nat)(d:a<α b)(h:a<α c):iN (b.drop a) (c.drop a) v=iN (b.drop (a+1)) (c.drop (a+1)) (sH (b.getD a 0) (c.getD a 0) v):=by grind[Ν,iN,List.getD]
theorem Zb(c x y:ό)(I:ϊ)(K:Own)(t:α c=8)(N:α x=64)(O:α y=64)
  (Q:∀o,AC γ 249 [] o λT p=>p=o/\T=.agg (wl x))
  (X:∀o,AC γ 248 [.J (I.map aj) K] o λT p=>p=o/\T=.agg (wl y)) (o:U):
  AC γ 195 [.agg (wl c),.J (I.map aj) K] o λT p=>p=o/\T=.agg (wl (ψ (·+ ·) (iN x y c) c)):=by
 refine bd hm QZ ς ?_;have z:(wl c).length=8:=by rw[eT,t]
 have C:(wl x).length=64:=by rw[eT,N]
 have D:(wl y).length=64:=by rw[eT,O]
 refine aG @z ?_;refine aN λW Y=>?_;refine aG @z ?_;refine aN λe u=>?_;obtain⟨k6,u⟩:=U.gP u;refine aG @z ?_;refine ah (X _) ?_;rintro _ _⟨rfl,rfl⟩;refine aG @z ?_;refine ah (Q _) ?_;rintro _ _⟨rfl,rfl⟩;refine aG @z ?_;refine aN λw V=>?_;obtain⟨k7,V⟩:=U.gP V;obtain⟨k8,V⟩:=U.gP V;refine aG @z ?_;refine aN λA S=>?_;obtain⟨k9,S⟩:=U.gP S;obtain⟨l0,S⟩:=U.gP S;obtain⟨l1,S⟩:=U.gP S;refine aG @z ?_;refine aN λf E=>?_;obtain⟨l2,E⟩:=U.gP E;obtain⟨l3,E⟩:=U.gP E;obtain⟨l4,E⟩:=U.gP E;obtain⟨l5,E⟩:=U.gP E;refine aG (aL @z @C @D @Φ.{0}) ?_;refine cm (λb p=>∃(a:Nat)(v:ό),a<=64/\α v=8/\iN (x.drop a) (y.drop a) v=iN x y c/\b 2=.ptr W 0/\b 4=.ptr e 0/\b 5=.ptr w 0/\b 6=.ptr A 0/\b 7=.ptr f 0/\b 18=.v (.int .i64 a)/\
   p=(((((o.set W (.cells (wl c))).set e (.cells (ε 8 (.v (.int .u32 0))))).set w (.cells (wl y))).set A (.cells (wl x))).set f (.cells (wl v))))
  (λb _=>match b 18 with|.v (.int _ B)=>(64 - B).toNat|_=>0) ⟨0,c,δ,t,rfl,?_⟩ ?_
 .exact qY
  all_goals (trivial)
 .rintro b p⟨a,v,Z,H,j9,d,h,F,G,k,L,rfl⟩;have P:(wl v).length=8:=by rw[eT,H]
  by_cases r:(a:Int)<64
  .obtain⟨g,i,j,l,m,n,q,s,rfl⟩:∃g i j l m n q s,v=[g,i,j,l,m,n,q,s]:=by
    match v,H with
    |[g,i,j,l,m,n,q,s],_=>simp
   refine aG (gr @d @h @F @G @k @L @r @P @C @D @hI @pL @a7W.{0} @a7Z.{0}) ?_;refine ah (mv _ _ 26 Θ Θ _) ?_;rintro _ _⟨rfl,rfl⟩;refine aG (gr @d @h @F @G @k @L @r @P @C @D @hI @pL @a7W.{0} @a7Z.{0}) ?_;refine ah (mv _ _ 21 Θ Θ _) ?_;rintro _ _⟨rfl,rfl⟩;refine aG (gr @d @h @F @G @k @L @r @P @C @D @hI @pL @a7W.{0} @a7Z.{0}) ?_;refine ah (mv _ _ 7 Θ Θ _) ?_;rintro _ _⟨rfl,rfl⟩;refine aG (gr @d @h @F @G @k @L @r @P @C @D @hI @pL @a7W.{0} @a7Z.{0}) ?_;refine ah (mv _ _ 30 Θ Θ _) ?_;rintro _ _⟨rfl,rfl⟩;refine aG (gr @d @h @F @G @k @L @r @P @C @D @hI @pL @a7W.{0} @a7Z.{0}) ?_;refine ah (mv _ _ 19 Θ Θ _) ?_;rintro _ _⟨rfl,rfl⟩;refine aG (gr @d @h @F @G @k @L @r @P @C @D @hI @pL @a7W.{0} @a7Z.{0}) ?_;refine ah (mv _ _ 10 Θ Θ _) ?_;rintro _ _⟨rfl,rfl⟩;simp -dsimp -implicitDefEqProofs (disch:=first|omega|assumption|(simp only[aW,Nat.reduceAdd];try omega)) only[go_sem,↓reduceIte,Nat.reduceEqDiff,Nat.reduceAdd,Nat.reduceSub,Nat.reduceMul,Nat.reduceLeDiff,Nat.reduceLT,Int.reduceNeg,Int.reduceToNat,Int.reduceAdd,Int.reduceSub,Int.reduceMul,Int.reduceLT,Int.reduceLE,Int.reduceEq,Int.reduceNe,d,h,F,G,k,L,r,P,C,D,hI,pL,a7W,a7Z,putAt,List.take,List.drop,ε,a8A,a7H];refine⟨⟨a+1,sH (x.getD a 0) (y.getD a 0) [g,i,j,l,m,n,q,s],δ,rfl,?_,ς,rfl⟩,δ⟩;grind[Ds]
  .obtain rfl:a=64:=δ;have k0:iN x y c=v:=by rw[<-j9,a8N δ];rfl
   refine aG (cg @d @h @F @G @k @L @r @P @C @D) ?_;refine cm (λb p=>∃a:Nat,a<=8/\b 2=.ptr W 0/\b 4=.ptr e 0/\b 7=.ptr f 0/\b 108=.v (.int .i64 a)/\
     p=(((((o.set W (.cells (wl c))).set e (.cells (ε 8 (.v (.int .u32 0))))).set w (.cells (wl y))).set A (.cells (wl x))).set f (.cells (wl (jU a v c)))))
    (λb _=>match b 108 with|.v (.int _ B)=>(8 - B).toNat|_=>0) ⟨0,δ,?_⟩ ?_
   .refine aG (aE @d @h @k) ?_;rfl
   .rintro b p⟨a,Z,d,h,k,M,rfl⟩;by_cases r:(a:Int)<8
    .obtain⟨k1,k2⟩:=Dq v c H t a δ;have k3:(wl (jU a v c)).length=8:=by rw[eT,k1]
     refine aG (cg @d @h @k @M @r @z @k3 @hI @Dn @k2) ?_;grind
    .obtain rfl:a=8:=δ;have k4:jU 8 v c=ψ (·+ ·) v c:=by grind[jU,Ε,List.drop_of_length_le]
     have k5:(wl (ψ (·+ ·) v c)).length=8:=by rw[eT];simp;omega
     rw[k4];refine aG (c7 @d @h @k @M @r @k5 @Φ.{0}) ?_;refine⟨o,?_,rfl,by rw[k0]⟩;exact μ (μ (μ (μ (μ θ Y) u) V) S) E
def Dt(b:ό)(a:ϊ)(c:Own)(h:α b=8)(k:α a=64)(d:U):
  AC γ 195 [.agg (wl b),.J (a.map aj) c] d λo p=>p=d/\o=.agg (wl (comp b a)):=
 Zb b nx (sched a) a c h rfl (Z8 a) Z7 (Z9 a c k) d
def xQ(a:ό)(c:ϊ)(b:α a=8):(comp a c).length=8:=by simp[comp,Dr _ _ _ b,b]
def bytes(a:ϊ)(b:Own):R:=.J (a.map aj) b
def cG(a:Nat):ϊ:=[ν (a>>>56),ν (a>>>48),ν (a>>>40),ν (a>>>32),ν (a>>>24),ν (a>>>16),ν (a>>>8),ν (a>>>0)]
theorem Du(b:Nat)(x:U):AC γ 196 [.v (.int .u64 b)] x λC h=>∃c,bj x h 1 ((cG b).map aj) c/\C=.J ((cG b).map aj) c:=by
 refine bd hm R1 ς ?_;refine er ?_;refine cm (λd h=>∃(a:Nat)(c:Own),a<=8/\bj x h 1 (((cG b).take a).map aj) c/\d 0=.v (.int .u64 b)/\d 3=.J (((cG b).take a).map aj) c/\d 4=.v (.int .i64 (56 - 8*(a))))
  (λd _=>match d 4 with|.v (.int _ b)=>(b+8).toNat|_=>0) ⟨0,.nil,δ,bj.WO θ,?_⟩ ?_
 .refine er ?_;rfl
 .rintro d h⟨a,c,G,y,k,o,p⟩;by_cases r:(0)<=56 - 8*(a:Int)
  .refine aG (bh @k @o @p @r @iK) ?_;refine sr θ λL P D=>?_;refine aG (aL @k @o @p @r) ?_;refine xt (y.mono D.sub) (by simp[cG];omega) λE S F=>?_;refine aG (aL @k @o @p @r) ?_;refine⟨⟨a+1,E,δ,?_,?_⟩,δ⟩
   .have z:(cG b).take (a+1)=(cG b).take a++[ν (b>>>(56 - 8*(a:Int)).toNat)]:=by rcases(by omega:a=0\/a=1\/a=2\/a=3\/a=4\/a=5\/a=6\/a=7)with rfl|rfl|rfl|rfl|rfl|rfl|rfl|rfl<;>rfl
    rw[z];exact F
   .have z:(cG b).take (a+1)=(cG b).take a++[ν (b>>>(56 - 8*(a:Int)).toNat)]:=by rcases(by omega:a=0\/a=1\/a=2\/a=3\/a=4\/a=5\/a=6\/a=7)with rfl|rfl|rfl|rfl|rfl|rfl|rfl|rfl<;>rfl
    grind
  .obtain rfl:a=8:=δ;refine aG (aL @k @o @p @r) ?_;exact⟨h,θ,c,y,rfl⟩
def pM(b:List (ϊ×Own)):ύ:=b.map λa=>.J (a.1.map aj) a.2
def chunk(a:ϊ):ϊ:=cG (α a)++a
def preB(a:UInt8)(b:List ϊ):ϊ:=a::b.flatMap chunk
def xR(a:UInt8):∀b:List ϊ,α b<(preB a b).length
 |[]=>by simp[preB]
 |d::c=>by
  have:=xR a c;simp only[preB,a7s,a7P,Ψ,chunk,cG,a7x]at this|-;omega
def Zc(b:UInt8)(c:List (ϊ×Own))(p:Own)(S:(preB b (c.map (·.1))).length<=70368744177664)(G:U):
  AC γ 141 [.v (.int .u8 b.toNat),.J (pM c) p] G λT r=>∃p,bj G r 1 ((preB b (c.map (·.1))).map aj) p/\T=.J ((preB b (c.map (·.1))).map aj) p:=by
 refine bd hm Pt ς ?_;refine er ?_;refine sr θ λV n W=>?_;refine er ?_;refine cm (λh r=>∃(a k:List (ϊ×Own))(E:Own),c=a++k/\bj G r 1 ((preB b (a.map (·.1))).map aj) E/\h 5=.J ((preB b (a.map (·.1))).map aj) E/\h 10=.J (pM c) p/\h 11=.v (.int .i64 (α c))/\h 12=.v (.int .i64 (α a)))
  (λh _=>match h 12 with|.v (.int _ e)=>(α c - e).toNat|_=>0) ⟨[],c,V,rfl,W,?_⟩ ?_
 .refine er ?_;exact⟨rfl,by simp[pM]⟩
 .rintro h r⟨a,k,E,rfl,L,x,y,z,C⟩;cases k with
  |nil=>have o:¬(α a:Int)<((a++[]).length):=ς;refine aG (bh @x @y @z @C @o) ?_;simp only[a8t]at*;exact⟨r,θ,E,L,rfl⟩
  |cons f k=>
   obtain⟨d,D⟩:=f;have o:(α a:Int)<((a++(d,D)::k).length):=Μ;have F:(pM (a++(d,D)::k))[α a]?=β (.J (d.map aj) D):=by simp[pM]
   have q:(preB b (a.map (·.1))).length+8+α d<=70368744177664:=by refine a8m ?_ S;simp[preB,chunk,cG];omega
   have g:=xR b (a.map (·.1));rw[a7w]at g;refine aG (c7 @x @y @z @C @o @F @gp) ?_;refine ah (Du (α d) _) ?_;rintro _ s⟨t,i,rfl⟩;refine aG (c7 @x @y @z @C @o @F @gp) ?_;refine nn (L.mono i.sub) ?_ λu v j=>?_
   .simp only[cG,a7s,a7x];omega
   refine aG (c7 @x @y @z @C @o @F @gp) ?_;refine nn j ?_ λl w P=>?_
   .simp only[cG,Ψ,a7s,a7x];omega
   refine aG (c7 @x @y @z @C @o @F @gp) ?_;have m:preB b (a.map (·.1))++cG (α d)++d=preB b ((a++[(d,D)]).map (·.1)):=by simp[preB,chunk]
   rw[m]at P|-;refine⟨⟨a++[(d,D)],k,l,ς,P,rfl,?_⟩,?_⟩
   .simp
   omega
def blocks:Nat->ό->ϊ->ό
 |0,a,_=>a
 |b+1,a,aV=>blocks b (comp a (aV.take 64)) (aV.drop 64)
def pN:∀(b:Nat)(a:ό)(aV:ϊ),α a=8->(blocks b a aV).length=8
 |0,_,_,c=>c
 |b+1,a,aV,c=>by rw[blocks];exact pN b _ _ (xQ a _ c)
theorem uL:∀(a:Nat)(b:ό)(aV:ϊ),blocks (a+1) b aV=comp (blocks a b aV) ((aV.drop (64*a)).take 64)
 |0,b,aV=>by rfl
 |a+1,b,aV=>by
  rw[blocks,uL a,blocks,a8d];grind
theorem Dv:∀(a b:Nat)(c:ό)(aV:ϊ),blocks (a+b) c aV=blocks b (blocks a c aV) (aV.drop (64*a))
 |0,b,c,aV=>by simp[blocks]
 |a+1,b,c,aV=>by
  rw[show a+1+b=(a+b)+1 by omega,blocks,Dv a b,blocks,a8d,show 64+64*a=64*(a+1) by omega]
theorem Dw:∀(a:Nat)(b:ό)(aV c:ϊ),64*a<=α aV->blocks a b (aV++c)=blocks a b aV
 |0,_,_,_,_=>rfl
 |a+1,b,aV,c,d=>by
  rw[blocks,blocks,a8T δ,a8U δ];exact Dw a _ _ _ Μ
variable{n b5:R}
section
variable{h:ό}(hh:α h=8)
include hh
def mw:(wl h++[n,b5]).length=10:=by simp[wl,hh]
def r3:(wl h++[n,b5]).drop 9=[b5]:=by rw[show(9)=(wl h).length+1 by rw[eT,hh],<-a8d,aa0];rfl
theorem r4:(wl h++[n,b5]).drop 8=[n,b5]:=by grind[wl,eT,List.drop_left]
theorem r5:(wl h++[n,b5]).take 8=wl h:=by grind[wl,eT,List.take_left]
theorem xT{a:R} :putAt (wl h++[n,b5]) 9 [a]=wl h++[n,a]:=by simp_all [eT,putAt,aa5,Φ]
theorem uM{a:R} :putAt (wl h++[n,b5]) 8 [a]=wl h++[a,b5]:=by simp_all [eT,putAt,a8P]
theorem xU(a:α h7=8):putAt (wl h++[n,b5]) 0 (wl h7)=wl h7++[n,b5]:=by grind[wl,eT,putAt,List.take_append,List.drop_append,List.drop_of_length_le]
end
variable{f s e0:U}{Y:bu}
theorem U.pO(a:f e=β Y):f.set e Y=f:=by grind[U.set]
theorem U.Dx{c:bu}(d:(f.set e c).sub s):(f.set e Y).sub (s.set e Y):=λh k a=>by
 rw[U.uo]at a|-;split;simp_all
 .rename_i b;rw[if_neg b]at a;exact d h k (by rw[U.uo,if_neg b];exact a)
theorem Zd(h:ό)(a:α h=8)(T:∀o,AC γ 194 [] o λV p=>p=o/\V=.agg (wl h))(b:ϊ)(W:Own)(s:α b<=70368744177664)(o:U)(k:Nat)(e:o k=β (.cells (wl h++[.J [] .nil,.v (.int .u64 0)]))):
  AC γ 139 [.ptr k 0,.J (b.map aj) W] o λ_ p=>∃r,p=o.set k (.cells (wl (blocks (α b/64) h b)++[.J ((b.drop (64*(α b/64))).map aj) r,.v (.int .u64 (α b))])):=by
 refine bd hm Pp ς ?_;have E:(wl h).length=8:=by rw[eT,a]
 rw[<-U.pO e];simp -dsimp -implicitDefEqProofs (disch:=first|omega|assumption|(simp only[aW,Nat.reduceAdd];try omega)) only[go_sem,simprocAttr,mw a,r3 a,r4 a,r5 a,xT a,uM a];refine ah (T _) ?_;rintro _ _⟨rfl,rfl⟩;simp -dsimp -implicitDefEqProofs (disch:=first|omega|assumption|(simp only[aW,Nat.reduceAdd];try omega)) only[go_sem,simprocAttr,mw a,r3 a,r4 a,r5 a,xT a,uM a,xU a a,E];refine dJ θ (by simp[aY]) λt u F=>?_;have G:=F.sub k _ (ξ _ _ _);simp -dsimp -implicitDefEqProofs (disch:=first|omega|assumption|(simp only[aW,Nat.reduceAdd];try omega)) only[go_sem,simprocAttr,χ G,κ G,mw a,r3 a,r4 a,r5 a,xT a,uM a,xU a a,E];refine ep F (by simp[aY]) (by simp[aY]) ς ς λv w f=>?_;refine er ?_;refine nn (w:=[]) f Μ λg i L=>?_;have j:=L.sub k _ (ξ _ _ _);rw[<-U.pO j];simp -dsimp -implicitDefEqProofs (disch:=first|omega|assumption|(simp only[aW,Nat.reduceAdd];try omega)) only[go_sem,simprocAttr,aaR,a7H];refine cm (λx p=>∃(c:Nat)(r:Own),64*c<=α b/\x 0=.ptr k 0/\x 4=.J ((b.drop (64*c)).map aj) r/\p=i.set k (.cells (wl (blocks c h b)++[.J [] .nil,.v (.int .u64 (α b))])))
  (λx _=>match x 4 with|.J xs _=>α xs|_=>0) ⟨0,g,δ,?_⟩ ?_
 .simp -dsimp -implicitDefEqProofs (disch:=first|omega|assumption|(simp only[aW,Nat.reduceAdd];try omega)) only[go_sem,simprocAttr,aaR];rfl
 .rintro x p⟨c,r,A,C,D,rfl⟩;have d:=pN c h b a;generalize P:blocks c h b=z at*;have B:(wl z).length=8:=by rw[eT,d]
  by_cases y:(64)<=((b.drop (64*c)).length:Int)
  .have l:=y;rw[a7F]at l;simp -dsimp -implicitDefEqProofs (disch:=first|omega|assumption|(simp only[aW,Nat.reduceAdd];try omega)) only[go_sem,simprocAttr,C,D,y,mw d,r5 d];have m:((b.drop (64*c)).take (64:Int).toNat).length=64:=Μ;refine ah (Dt z _ _ d m _) ?_;rintro _ _⟨rfl,rfl⟩;have S:=xQ z ((b.drop (64*c)).take 64) d;have n:(wl (comp z ((b.drop (64*c)).take 64))).length=8:=by rw[eT,S]
   simp -dsimp -implicitDefEqProofs (disch:=first|omega|assumption|(simp only[aW,Nat.reduceAdd];try omega)) only[go_sem,simprocAttr,C,D,y,mw d,xU d S,n];refine⟨⟨c+1,.any,δ,?_,?_⟩,by simp only[a7F];omega⟩;grind[List.drop_drop]
   .rw[uL,P]
  .simp -dsimp -implicitDefEqProofs (disch:=first|omega|assumption|(simp only[aW,Nat.reduceAdd];try omega)) only[go_sem,simprocAttr,C,D,y,mw d,uM d];rw[a7F]at y;have q:α b/64=c:=δ;refine⟨o.set k _,U.Dx L.sub,r,?_⟩;rw[q,P]
def Ze(a:ϊ)(d:Own)(h:α a<=70368744177664)(b:U)(c:Nat)(k:b c=β (.cells (wl gw++[.J [] .nil,.v (.int .u64 0)]))):
  AC γ 139 [.ptr c 0,.J (a.map aj) d] b λ_ o=>∃p,o=b.set c (.cells (wl (blocks (α a/64) gw a)++[.J ((a.drop (64*(α a/64))).map aj) p,.v (.int .u64 (α a))])):=
 Zd gw rfl xP a d h b c k
def eu(a:Nat):Nat:=(55+64 - a%64)%64
def jr(a:Nat)(b:ϊ):ϊ:=b++128::ε (eu a) 0++cG (8*a)
def xV(a:UInt32):ϊ:=[(a>>>24).toUInt8,(a>>>16).toUInt8,(a>>>8).toUInt8,a.toUInt8]
def ev(a:ό):ϊ:=a.flatMap xV
def br(a:ϊ):R:=.agg (a.map aj)
def ig(a:ϊ):ύ:=a.map aj++ε (32 - α a) (.v (.int .u8 0))
variable{w j4:ϊ}
def uN(a:α w<=32):(ig w).length=32:=by simp[ig];omega
def xW(a:UInt8)(b:e=α w)(d:α w<32):putAt (ig w) e [.v (.int .u8 a.toNat)]=ig (w++[a]):=by subst b;have c:32 - α w=(32 -(α w+1))+1:=δ;simp only[putAt,ig,c,a9D];simp[a8P,aj]
def uO:∀a:ό,(ev a).length=4*α a
 |[]=>rfl
 |c::b=>by simp only[ev,a7P,Ψ]at*;have:=uO b;simp only[ev]at this;rw[this];simp[xV];omega
theorem Zf(m:ό)(a08:α m=8)(k4:∀F,AC γ 194 [] F λn p=>p=F/\n=.agg (wl m))(r:ό)(x:α r=8)(a:Nat)(k:ϊ)(H:Own)(a09:a<=70368744177664)(I:α k=a%64)(k5:a=0->r=m)
  (F:U) (S:Nat) (T:F S=β (.cells (wl r++[.J (k.map aj) H,.v (.int .u64 a)]))):
  AC γ 140 [.ptr S 0] F λn p=>p=F/\n=br (ev (blocks ((jr a k).length/64) r (jr a k))):=by
 refine bd hm Pr ς ?_;have K:(wl r).length=8:=by rw[eT,x]
 refine er ?_;refine aN λG q=>?_;have k6:S≠G:=by rintro rfl;rw[q]at T;cases T
 simp -dsimp -implicitDefEqProofs (disch:=first|omega|assumption|(simp only[aW,Nat.reduceAdd];try omega)) only[go_sem,↓reduceIte,Nat.reduceEqDiff,Nat.reduceAdd,Nat.reduceSub,Nat.reduceMul,Nat.reduceLeDiff,Nat.reduceLT,Int.reduceNeg,Int.reduceToNat,Int.reduceAdd,Int.reduceSub,Int.reduceMul,Int.reduceLT,Int.reduceLE,Int.reduceEq,Int.reduceNe,κ T,mw x,r3 x,r4 x,r5 x];refine aN λL f=>?_;obtain⟨M,f⟩:=U.gP f;have k7:S≠L:=by rintro rfl;rw[f]at T;cases T
 simp -dsimp -implicitDefEqProofs (disch:=first|omega|assumption|(simp only[aW,Nat.reduceAdd];try omega)) only[go_sem,↓reduceIte,Nat.reduceEqDiff,Nat.reduceAdd,Nat.reduceSub,Nat.reduceMul,Nat.reduceLeDiff,Nat.reduceLT,Int.reduceNeg,Int.reduceToNat,Int.reduceAdd,Int.reduceSub,Int.reduceMul,Int.reduceLT,Int.reduceLE,Int.reduceEq,Int.reduceNe,κ T,mw x,r3 x,r4 x,r5 x,K];refine ss (λb p=>b 0=.ptr S 0/\b 2=.ptr G 0/\b 3=.ptr L 0/\p=(F.set G (.cells (ε 32 (.v (.int .u8 0))))).set L (.cells (wl r))) ?_ ?_ ?_
 .intro N;have k8:a=0:=by simpa using N
  have k9:=k5 k8;subst k9;refine er ?_;refine ah (k4 _) ?_;rintro _ _⟨rfl,rfl⟩;exact gQ @K
 .intro _;exact qY
 .rintro b p⟨z,c,d,rfl⟩;have O:((F.set G (.cells (ε 32 (.v (.int .u8 0))))).set L (.cells (wl r))) S=β (.cells (wl r++[.J (k.map aj) H,.v (.int .u64 a)])):=by rw[ο _ _ k7,ο _ _ k6];exact T
  generalize s:((F.set G (.cells (ε 32 (.v (.int .u8 0))))).set L (.cells (wl r)))=l0 at*;refine aG (aE @z @c @d) ?_;refine dJ θ (by simp[aY]) λa10 a11 Q=>?_;have l1:=Q.sub _ _ O;simp -dsimp -implicitDefEqProofs (disch:=first|omega|assumption|(simp only[aW,Nat.reduceAdd];try omega)) only[go_sem,↓reduceIte,Nat.reduceEqDiff,Nat.reduceAdd,Nat.reduceSub,Nat.reduceMul,Nat.reduceLeDiff,Nat.reduceLT,Int.reduceNeg,Int.reduceToNat,Int.reduceAdd,Int.reduceSub,Int.reduceMul,Int.reduceLT,Int.reduceLE,Int.reduceEq,Int.reduceNe,z,c,d,κ l1,mw x,r4 x];refine nn (w:=[]) Q Μ λa13 a14 l2=>?_;refine aG (aE @z @c @d) ?_;refine sr (a:=128) θ λa15 a16 l3=>?_;refine aG (aE @z @c @d) ?_;refine xt (l2.mono l3.sub) Μ λl4 a18 a19=>?_;refine aG (aL @z @c @d @a7H.{0}) ?_;refine cm (λb p=>∃(E:Nat)(V:Own),E<=eu a/\b 0=.ptr S 0/\b 2=.ptr G 0/\b 3=.ptr L 0/\b 4=.J ((k++128::ε E 0).map aj) V/\bj l0 p 1 ((k++128::ε E 0).map aj) V)
   (λb _=>match b 4 with|.J xs _=>200 - α xs|_=>0) ⟨0,l4,δ,?_⟩ ?_
  .simp -dsimp -implicitDefEqProofs (disch:=first|omega|assumption|(simp only[aW,Nat.reduceAdd];try omega)) only[go_sem,↓reduceIte,Nat.reduceEqDiff,Nat.reduceAdd,Nat.reduceSub,Nat.reduceMul,Nat.reduceLeDiff,Nat.reduceLT,Int.reduceNeg,Int.reduceToNat,Int.reduceAdd,Int.reduceSub,Int.reduceMul,Int.reduceLT,Int.reduceLE,Int.reduceEq,Int.reduceNe,z,c,d];trivial
  .rintro b p⟨E,V,a27,z,c,d,C,t⟩;have N:eu a<=63:=by unfold eu;omega
   have X:(k++128::ε E 0).length=a%64+1+E:=by simp[I];omega
   by_cases P:E<eu a
   .have l5:¬(((a%64+1+E)%64:Nat):Int)=56:=by unfold eu at P;omega
    refine aG (c7 @z @c @d @C @X @CR @l5) ?_;refine sr (a:=0) θ λl6 l7 u=>?_;refine aG (aL @z @c @d @C) ?_;refine xt (t.mono u.sub) δ λY v i=>?_;have a29:k++128::ε E 0++[0]=k++128::ε (E+1) 0:=by simp[abm]
    refine aG (aL @z @c @d @C) ?_;grind
   .obtain rfl:E=eu a:=δ;have l8:(((a%64+1+eu a)%64:Nat):Int)=56:=by unfold eu;omega
    have l9:=t.sub _ _ O;simp -dsimp -implicitDefEqProofs (disch:=first|omega|assumption|(simp only[aW,Nat.reduceAdd];try omega)) only[go_sem,↓reduceIte,Nat.reduceEqDiff,Nat.reduceAdd,Nat.reduceSub,Nat.reduceMul,Nat.reduceLeDiff,Nat.reduceLT,Int.reduceNeg,Int.reduceToNat,Int.reduceAdd,Int.reduceSub,Int.reduceMul,Int.reduceLT,Int.reduceLE,Int.reduceEq,Int.reduceNe,z,c,d,C,X,CR,l8,ne_eq,not_true_eq_false,κ l9,mw x,r3 x];have W:(8)*(a)=((8*a:Nat):Int):=ς;rw[W];refine ah (Du (8*a) _) ?_;rintro _ l7⟨l6,u,rfl⟩;refine aG (aL @z @c @d @C) ?_;refine nn (t.mono u.sub) (by simp[cG];omega) λY v i=>?_;refine aG (aL @z @c @d @C) ?_;have n0:=i.sub _ _ (by rw[<-s];exact ξ _ _ _);have Z:=i.sub _ _ (by rw[<-s,ο _ _ (Ι M)];exact ξ _ _ _);have j9:=π (by rw[<-s];exact μ (μ θ q) f) i.sub;rw[<-U.pO n0];have n1:k++128::ε (eu a) 0++cG (8*a)=jr a k:=rfl;have a30:(jr a k).length=64*((jr a k).length/64):=by
     have:(jr a k).length=a%64+1+eu a+8:=by simp[jr,I,cG];omega
     rw[this];unfold eu;omega
    rw[n1];generalize jr a k=y at*;refine cm (λb p=>∃(o:Nat)(V:Own),64*o<=α y/\b 2=.ptr G 0/\b 3=.ptr L 0/\b 4=.J ((y.drop (64*o)).map aj) V/\p=v.set L (.cells (wl (blocks o r y))))
     (λb _=>match b 4 with|.J xs _=>α xs|_=>0) ⟨0,Y,δ,?_⟩ ?_
    .refine aG (c2 @c @d) ?_;rfl
    .rintro b p⟨o,V,a34,c,d,C,rfl⟩;have w:=pN o r y x;have j:(wl (blocks o r y)).length=8:=by rw[eT,w]
     by_cases P:(0)<((y.drop (64*o)).length:Int)
     .have n2:=P;rw[a7F]at n2;have a36:64<=(y.drop (64*o)).length:=by rw[a7F];omega
      refine aG (bz @c @d @C @P @j @Φ.{0}) ?_;have n3:((y.drop (64*o)).take 64).length=64:=Μ;refine ah (Dt _ _ _ w n3 _) ?_;rintro _ _⟨rfl,rfl⟩;have n4:=xQ (blocks o r y) ((y.drop (64*o)).take 64) w;have n5:(wl (comp (blocks o r y) ((y.drop (64*o)).take 64))).length=8:=by rw[eT,n4]
      refine aG (bh @c @d @C @j @n5) ?_;refine⟨⟨o+1,.any,δ,?_,?_⟩,by simp only[a7F];omega⟩;grind[List.drop_drop]
      .rw[uL]
     .rw[a7F]at P;have n9:o=α y/64:=δ;refine aG (bh @c @d @C @a7F.{0} @P) ?_;rw[<-n9];generalize a38:blocks o r y=D at*;refine aN λA B=>?_;obtain⟨a42,B⟩:=U.gP B;have k0:A≠G:=by grind
      refine aG (bh @c @d @C @j @Φ.{0}) ?_;refine cm (λb p=>∃h:Nat,h<=8/\b 2=.ptr G 0/\b 5=.ptr A 0/\b 50=.agg (wl D)/\b 51=.v (.int .i64 h)/\p=(v.set L (.cells (wl D))).set A (.cells (ig (ev (D.take h)))))
       (λb _=>match b 51 with|.v (.int _ a)=>(8 - a).toNat|_=>0) ⟨0,δ,?_⟩ ?_
      .refine aG (aE @c @d @C) ?_;rfl
      .rintro b p⟨h,a43,c,k1,k2,k3,rfl⟩;have e:(ev (D.take h)).length=4*h:=by rw[uO];simp;omega
       by_cases P:(h:Int)<8
       .have a00:(ig (ev (D.take h))).length=32:=uN δ;have a01:(4*(h:Int)).toNat=4*h:=δ;have a02:(4*(h:Int)+1).toNat=4*h+1:=δ;have a03:(4*(h:Int)+2).toNat=4*h+2:=δ;have a04:(4*(h:Int)+3).toNat=4*h+3:=δ;have a47:∀(g)(l),α g<32->putAt (ig g) (α g) [.v (.int .u8 l.toNat)]=ig (g++[l]):=λg l a05=>xW l rfl a05;simp -dsimp -implicitDefEqProofs (disch:=first|omega|assumption|(simp only[aW,Nat.reduceAdd];try omega)) only[go_sem,↓reduceIte,Nat.reduceEqDiff,Nat.reduceAdd,Nat.reduceSub,Nat.reduceMul,Nat.reduceLeDiff,Nat.reduceLT,Int.reduceNeg,Int.reduceToNat,Int.reduceAdd,Int.reduceSub,Int.reduceMul,Int.reduceLT,Int.reduceLE,Int.reduceEq,Int.reduceNe,c,k1,k2,k3,P,j,hI,a01,a02,a03,a04,xW,uN];refine⟨⟨h+1,δ,ς,?_⟩,δ⟩;grind[ev,xV,List.getD,List.take_succ_eq_append_getElem]
       .obtain rfl:h=8:=δ;have a00:(ig (ev (D.take 8))).length=32:=uN δ;have W:D.take 8=D:=Φ δ;have a06:ig (ev D)=(ev D).map aj:=by rw[W]at e;simp[ig,e]
        have a07:((ev D).map aj).length=32:=by rw[W]at e;simp[e]
        have a48:(ev D).length=32:=by rw[W]at e;exact e
        rw[W,a06];refine aG (lB @c @k1 @k2 @k3 @P @a07 @Φ.{0} (χ Z) (κ Z) @k0 (Ι k0) (Ι M) @sq) ?_;refine⟨F,?_,rfl,rfl⟩;exact μ (μ (μ j9 f) (Ο j9 B)) q
def Zg(b:U):AC γ 138 [] b λc d=>∃a,b a=ζ/\c=.ptr a 0/\d=b.set a (.cells (wl gw++[.J [] .nil,.v (.int .u64 0)])):=by refine bd hm Pn ς ?_;refine er ?_;refine ah (xP _) ?_;rintro _ _⟨rfl,rfl⟩;have h:(wl gw).length=8:=rfl;have k:putAt (ε 8 (R.v (Value.int IntKind.u32 0))++[R.J [] Own.nil]++[R.v (Value.int IntKind.u64 0)]) 0 (wl gw)=wl gw++[.J [] .nil,.v (.int .u64 0)]:=rfl;simp -dsimp -implicitDefEqProofs (disch:=first|omega|assumption|(simp only[aW,Nat.reduceAdd];try omega)) only[go_sem,↓reduceIte,Nat.reduceEqDiff,Nat.reduceAdd,Nat.reduceSub,Nat.reduceMul,Nat.reduceLeDiff,Nat.reduceLT,Int.reduceNeg,Int.reduceToNat,Int.reduceAdd,Int.reduceSub,Int.reduceMul,Int.reduceLT,Int.reduceLE,Int.reduceEq,Int.reduceNe,h,k];refine aN λa o=>?_;refine er ?_;exact⟨_,θ,a,o,rfl,rfl⟩
def fm(a:ϊ):ϊ:=
 ev (blocks ((jr (α a) (a.drop (64*(α a/64)))).length/64) (blocks (α a/64) gw a) (jr (α a) (a.drop (64*(α a/64)))))
def sI(a:ϊ):(fm a).length=32:=by rw[fm,uO,pN _ _ _ (pN _ _ _ rfl)]
def Zh(a:ϊ)(c:Own)(d:α a<=70368744177664)(b:U):AC γ 86 [.J (a.map aj) c] b λk o=>o=b/\k=br (fm a):=by
 refine bd hm NJ ς ?_;refine er ?_;refine aN λG p=>?_;refine er ?_;refine ah (Zg _) ?_;rintro _ _⟨h,r,rfl,rfl⟩;obtain⟨x,y⟩:=U.gP r;refine er ?_;refine ah (Ze a c d _ h (ξ _ _ _)) ?_;rintro _ _⟨z,rfl⟩;refine er ?_;have C:(a.drop (64*(α a/64))).length=α a%64:=Μ;refine ah (Zf gw rfl xP (blocks (α a/64) gw a) (pN _ _ _ rfl) (α a) (a.drop (64*(α a/64))) z d C (λD=>?_) _ h (ξ _ _ _)) ?_
 .rw[D];rfl
 rintro _ _⟨rfl,rfl⟩;have E:((fm a).map aj).length=32:=by rw[a7w,sI]
 have L:=sI a;have F:br (ev (blocks ((jr (α a) (a.drop (64*(α a/64)))).length/64) (blocks (α a/64) gw a) (jr (α a) (a.drop (64*(α a/64))))))=.agg ((fm a).map aj):=rfl;rw[F];generalize fm a=P at*;refine aG (c2 @E (Ι x)) ?_;exact⟨b,μ (μ θ p) y,rfl,by rw[Φ δ];rfl⟩
def hf(a:Nat):Nat:=if a=0 then 0 else a.log2+1
theorem xX(a b:Nat)(p:2^b<=a):b+hf (a>>>b)=hf a:=by
 have c:0<2^b:=Nat.pow_pos δ;have d:a≠0:=δ;have h:a>>>b≠0:=by rw[a8e];have:=Nat.div_pos p c;omega
 have r:a.log2=b+(a>>>b).log2:=by rw[Nat.log2_eq_iff d];obtain⟨k,o⟩:=(Nat.log2_eq_iff h).1 rfl;generalize (a>>>b).log2=x at*;rw[a8e]at k o;rw[abf c]at k;rw[Nat.div_lt_iff_lt_mul c]at o;grind
 simp only[hf,d,h,if_false,r];omega
def Dy(a b:Nat)(c:a<2^b):hf a<=b:=by
 unfold hf;split
 .omega
 .rename_i d;have:=(Nat.log2_lt d).2 c;omega
def Dz(b:ByteArray):Bool:=(ω 256).all λa=>b.data[a]?==β (ν (hf a))
def Zi(b:ByteArray)(a:Nat)(c:Dz b=η)(d:a<256):pC (.v (.string b)) (.v (.int .u8 a))=β (.v (.int .u8 (hf a))):=by
 simp only[Dz,a7E,a8C]at c;have h:=c a d;have k:b.data[a]?=β (ν (hf a)):=by simpa using h
 have o:=Dy a 8 d;simp only[pC,a7L,k,if_pos (Int.natCast_nonneg a)];have:(ν (hf a)).toNat=hf a:=Μ;rw[this]
theorem Zj(h:Nat)(E:h<2^64)(r:U):AC γ 152 [.v (.int .u64 h)] r λb k=>k=r/\b=.v (.int .i64 (hf h)):=by
 refine bd hm Pz ς ?_;simp -dsimp -implicitDefEqProofs (disch:=first|omega|assumption|(simp only[aW,Nat.reduceAdd];try omega)) only[↓hZ,ia,al,ofConst,cv,simprocAttr];refine ss (λd k=>k=r/\∃a b:Nat,d 0=.v (.int .u64 a)/\d 2=.v (.int .i64 b)/\a<2^32/\b<=32/\b+hf a=hf h) ?_ ?_ ?_
 .intro c;have c:4294967296<=h:=by simp at c;omega
  simp -dsimp -implicitDefEqProofs (disch:=first|omega|assumption|(simp only[aW,Nat.reduceAdd];try omega)) only[↓hZ,ia,al,ofConst,cv,simprocAttr];exact⟨h>>>32,32,rfl,rfl,δ,δ,xX h 32 c⟩
 .intro c;have c:h<4294967296:=by simp at c;omega
  simp -dsimp -implicitDefEqProofs (disch:=first|omega|assumption|(simp only[aW,Nat.reduceAdd];try omega)) only[↓hZ,ia,al,ofConst,cv,simprocAttr];grind
 rintro d k⟨x,a,b,o,p,y,C,z⟩;rw[x];simp -dsimp -implicitDefEqProofs (disch:=first|omega|assumption|(simp only[aW,Nat.reduceAdd];try omega)) only[↓hZ,ia,al,ofConst,cv,simprocAttr,o,p];refine ss (λd k=>k=r/\∃a b:Nat,d 0=.v (.int .u64 a)/\d 2=.v (.int .i64 b)/\a<2^16/\b<=48/\b+hf a=hf h) ?_ ?_ ?_
 .intro c;have c:65536<=a:=by simp at c;omega
  simp -dsimp -implicitDefEqProofs (disch:=first|omega|assumption|(simp only[aW,Nat.reduceAdd];try omega)) only[↓hZ,ia,al,ofConst,cv,simprocAttr,o,p];exact⟨a>>>16,b+16,rfl,ς,δ,δ,by grind[xX]⟩
 .intro c;have c:a<65536:=by simp at c;omega
  simp -dsimp -implicitDefEqProofs (disch:=first|omega|assumption|(simp only[aW,Nat.reduceAdd];try omega)) only[↓hZ,ia,al,ofConst,cv,simprocAttr,o,p];grind
 rintro d k⟨x,a,b,o,p,y,C,z⟩;rw[x];simp -dsimp -implicitDefEqProofs (disch:=first|omega|assumption|(simp only[aW,Nat.reduceAdd];try omega)) only[↓hZ,ia,al,ofConst,cv,simprocAttr,o,p];refine ss (λd k=>k=r/\∃a b:Nat,d 0=.v (.int .u64 a)/\d 2=.v (.int .i64 b)/\a<2^8/\b<=56/\b+hf a=hf h) ?_ ?_ ?_
 .intro c;have c:256<=a:=by simp at c;omega
  simp -dsimp -implicitDefEqProofs (disch:=first|omega|assumption|(simp only[aW,Nat.reduceAdd];try omega)) only[↓hZ,ia,al,ofConst,cv,simprocAttr,o,p];exact⟨a>>>8,b+8,rfl,ς,δ,δ,by grind[xX]⟩
 .intro c;have c:a<256:=by simp at c;omega
  simp -dsimp -implicitDefEqProofs (disch:=first|omega|assumption|(simp only[aW,Nat.reduceAdd];try omega)) only[↓hZ,ia,al,ofConst,cv,simprocAttr,o,p];grind
 rintro d k⟨x,a,b,o,p,y,C,z⟩;rw[x];have D:IntKind.u8.wrap (a)=a:=wrap_u8 δ δ;have F:=Dy a 8 y;simp -dsimp -implicitDefEqProofs (disch:=first|omega|assumption|(simp only[aW,Nat.reduceAdd];try omega)) only[↓hZ,ia,al,ofConst,cv,simprocAttr,o,p,D];rw[Zi]
 .simp -dsimp -implicitDefEqProofs (disch:=first|omega|assumption|(simp only[aW,Nat.reduceAdd];try omega)) only[↓hZ,ia,al,ofConst,cv,simprocAttr,o,p];exact⟨r,θ,rfl,by rw[<-z];simp⟩
 .decide
 .exact y
def Zk(a:Nat)(c:a<2^64)(b:U):AC γ 91 [.v (.int .u64 a)] b λd h=>h=b/\d=.v (.int .i64 (hf a)):=by refine bd hm NT ς ?_;refine er ?_;refine ah (Zj a c _) ?_;rintro _ _⟨rfl,rfl⟩;refine er ?_;exact⟨_,θ,rfl⟩
def a6W(a:List ϊ):Prop:=∀b∈a,α b=32
def ba:(br w).cells=w.map aj:=rfl
def bb(a:α w=32):(.agg ((w.take 32).map aj):R)=br w:=by rw[Φ (by simp[a])];rfl
def Zl(a:List ϊ)(b:Own)(c:List (ϊ×Own))(d:Own)(h:Bool):bu:=.cells [.J (a.map br) b,.J (pM c) d,.v (.bool h)]
def PS(c:U)(d:Nat)(h k:List ϊ)(o:Bool)(p:U):Prop:=
 ∃r b a,a.map (·.1)=k/\bj (c.set d (Zl h r a b o)) p 1 (pM a) b
def uP:ϊ:=ε 32 0
def fB:bu:=.cells (ε 32 (.v (.int .u8 0)))
def Zm(a:ϊ):bu:=.cells (a.map aj)
theorem uQ(a:br w=br j4):w=j4:=by
 have b:w.map aj=j4.map aj:=by simpa[br] using a
 have c:=congrArg bytesOf b;rw[rV,rV]at c;simp_all
theorem Zn:peq (.agg (w.map aj)) (.agg (j4.map aj))=decide (w=j4):=by
 by_cases a:w=j4
 .subst a;simp[Iy]
 .have:¬peq (.agg (w.map aj)) (.agg (j4.map aj))=true:=λb=>a (uQ ((qy _ _).1 b));simp_all
theorem DA(a:α w=32):dp [(32,.int .u8)] (w.map aj):=by
 refine⟨by simp[a],?_,?_⟩
 .intro c b;obtain⟨d,_,rfl⟩:=a7G.1 (a7A b);rfl
 .simp only[dp];simp_all
variable{I:Bool}
def uR{a:R->Prop}(b:α w=32)(c:α j4=32):uu I [(32,.int .u8)] (br w) (br j4) a=a (.v (.bool (xor I (decide (w=j4))))):=by have d:=DA b;have h:=DA c;show(dp _ _/\dp _ _/\a (.v (.bool (xor I (peq (.agg (w.map aj)) (.agg (j4.map aj)))))))= _;rw[Zn];simp[d,h]
end Go.Proofs.YtcfpcblgmmeioaaGreat
set_option maxHeartbeats 1000000
namespace Go.Proofs.YtcfpcblgmmeioaaGreat
open Go Go.bD
structure BF where
 x:ϊ
 y:ϊ
 cL:List ϊ
 sJ:List ϊ
 ij:Bool
end Go.Proofs.YtcfpcblgmmeioaaGreat
set_option maxHeartbeats 1000000
namespace Go.Proofs.YtcfpcblgmmeioaaGreat
open Go Go.bD
def uS(a:ϊ)(b:Own):bu:=.cells [.J (a.map aj) b,.v (.int .i64 0)]
def cw(c:U)(d:Nat)(a:ϊ)(h:U):Prop:=∃b,bj (c.set d (uS a b)) h 1 (a.map aj) b
def uT(h k:U)(d:Nat)(a b:ϊ)(y:Own)(c:cw h d a k)(D:α a+α b<=70368744177664):
  AC γ 126 [.ptr d 0,.v (.bool η),.J (b.map aj) y] k λ_ z=>cw h d (a++b) z:=by
 obtain⟨E,c⟩:=c;have C:=c.sub _ _ (ξ _ _ _);refine bd hm OY ς ?_;refine aG (aL @a8c (κ C) @ba @bb) ?_;refine nn c δ λo F p=>?_;have r:=p.sub _ _ (ξ _ _ _);refine aG (aL (κ r) (χ r) @ba @bb) ?_;have x:=p.set (ob:=uS (a++b) o) (ξ _ _ _);rw[τ]at x;exact⟨_,θ,o,x⟩
def ny(c k:U)(a:Nat)(b:ϊ)(d:UInt8)(h:cw c a b k)(o:α b+1<=70368744177664):
  AC γ 72 [.ptr a 0,.v (.int .u8 d.toNat)] k λ_ p=>cw c a (b++[d]) p:=by
 refine bd hm Ng ς ?_;refine aG (c2 @ba @bb) ?_;refine sr θ λr x y=>?_;refine aG (c2 @ba @bb) ?_;obtain⟨z,h⟩:=h;refine ah (uT c x a b [d] r ⟨z,h.mono y.sub⟩ o) ?_;intro E C D;refine aG (c2 @ba @bb) ?_;exact⟨C,θ,D⟩
def cq(a:Int):Nat:=(ρ 64 a^^^ρ 64 9223372036854775808).toNat
def ik(a:Int):ϊ:=cG (cq a)
theorem DB(a:Int):bt .xor (.int .u64 (IntKind.u64.wrap a)) (.int .u64 9223372036854775808)=β (.int .u64 (cq a)):=by
 have b:ρ 64 (IntKind.u64.wrap a)=ρ 64 a:=by rw[kB];apply BitVec.eq_of_toInt_eq;grind
 have c:bt .xor (.int .u64 (IntKind.u64.wrap a)) (.int .u64 9223372036854775808)=β (.int .u64 (IntKind.u64.wrap (ρ 64 (IntKind.u64.wrap a)^^^ρ 64 9223372036854775808).toNat)):=rfl;rw[c,b];have d:=(ρ 64 a^^^ρ 64 9223372036854775808).isLt;rw[wrap_u64 δ δ];rfl
theorem Zo(o C:U)(b:Nat)(p:ϊ)(h:Int)(E:cw o b p C)(G:α p+8<=70368744177664):
  AC γ 184 [.ptr b 0,.v (.int .i64 h)] C λ_ c=>cw o b (p++ik h) c:=by
 refine bd hm QD ς ?_;refine aG (aE @DB @ba @bb) ?_;generalize F:cq h=k;refine cm (λd c=>∃a:Nat,a<=8/\cw o b (p++(cG k).take a) c/\d 0=.ptr b 0/\d 4=.v (.int .u64 k)/\d 5=.v (.int .i64 (56 - 8*(a))))
  (λd _=>match d 5 with|.v (.int _ h)=>(h+8).toNat|_=>0) ⟨0,δ,by simpa using E,?_⟩ ?_
 .exact gQ (c2 @ba @bb)
 .rintro d c⟨a,L,D,r,x,y⟩;by_cases z:(0)<=56 - 8*(a:Int)
  .refine aG (c7 @r @x @y @z @iK @ba @bb) ?_;refine ah (ny o c b _ _ D ?_) ?_
   .simp;omega
   intro P S T;refine aG (bz @r @x @y @z @ba @bb) ?_;refine⟨⟨a+1,δ,?_,Μ⟩,δ⟩;have V:(cG k).take (a+1)=(cG k).take a++[ν (k>>>(56 - 8*(a:Int)).toNat)]:=by rcases(by omega:a=0\/a=1\/a=2\/a=3\/a=4\/a=5\/a=6\/a=7)with rfl|rfl|rfl|rfl|rfl|rfl|rfl|rfl<;>rfl
   grind
  .obtain rfl:a=8:=δ;refine aG (bz @r @x @y @z @ba @bb) ?_;refine⟨c,θ,?_⟩;rw[ik,F];exact D
end Go.Proofs.YtcfpcblgmmeioaaGreat
namespace Go.bD
open Go
def DC(a:Bool)(c:R)(b:R->Prop):Prop:=
 match c with
 |.J xs d=>match d with
  |.nil=>b (.v (.bool (!a)))
  |.buf _ _=>b (.v (.bool a))
  |_=>(xs=[]->b (.v (.bool (!a))))/\b (.v (.bool a))
 |.aq _ _ _ _=>b (.v (.bool a))
 |_=>False
variable{t Z:R -> U -> Prop}{I:Bool}{K:Ctx}{j:Fr}{f s e0:U}{X e7:Operand}
def oz:G K (.mU I X) j f t=DC I (al j X) (c4 (λa=>t a f) ()):=rfl
variable{g H c0:ύ}{N e6 h6:Own}
def oA{a:R->Prop}{b:cy a}(c:N=.nil->g=[])(d:g=[]->a (.v (.bool (!I))))(h:a (.v (.bool I))):DC I (.J g N) (c4 a b):=by
 cases N with
 |nil=>exact d (c rfl)
 |buf k o=>exact h
 |any=>trivial
 |zero=>trivial
end Go.bD
namespace Go.Proofs.YtcfpcblgmmeioaaGreat
open Go Go.bD
def xY(a:ϊ)(d:Own)(b:U)(k:d=.nil->a=[])(C:α a<=70368744177664):
  AC γ 130 [.J (a.map aj) d] b λo p=>∃h,bj b p 1 (a.map aj) h/\o=.J (a.map aj) h:=by
 refine bd hm P6 ς ?_;simp -dsimp -implicitDefEqProofs (disch:=first|omega|assumption|(simp only[aW,Nat.reduceAdd];try omega)) only[go_sem,simprocAttr,ba,bb,↓oz];refine oA (λc=>by rw[k c];rfl) (λc=>?_) ?_
 .have r:a=[]:=by simpa using c
  subst r;refine aG (aE @a8i @ba @bb) ?_;exact⟨b,θ,.nil,Τ θ,rfl⟩
 .refine aG (c2 @ba @bb) ?_;refine dJ θ (by simp[aY]) λD E x=>?_;refine aG (c2 @ba @bb) ?_;refine nn (w:=[]) x Μ λy z F=>?_;refine aG (aE @a7H.{0} @ba @bb) ?_;exact⟨z,θ,y,by trivial,rfl⟩
def DD(k b:U)(d:Nat)(a:ϊ)(c:cw k d a b)(o:α a<=70368744177664):
  AC γ 75 [.ptr d 0] b λp r=>∃h,bj b r 1 (a.map aj) h/\p=.J (a.map aj) h:=by
 obtain⟨x,c⟩:=c;have y:=c.sub _ _ (ξ _ _ _);refine bd hm Nn ς ?_;refine aG (aE (κ y) @ba @bb) ?_;refine ah (xY a x b (λz=>?_) o) ?_
 .subst z;have:=c.2;simpa using this
 rintro _ C⟨D,E,rfl⟩;refine aG (c2 @ba @bb) ?_;exact⟨C,θ,D,E,rfl⟩
end Go.Proofs.YtcfpcblgmmeioaaGreat
namespace Go.bD
open Go
end Go.bD
namespace Go.Proofs.YtcfpcblgmmeioaaGreat
open Go Go.bD
def xZ(a:Int)(b c:ϊ):ύ:=.v (.int .i64 a)::(b.map aj++c.map aj)
def Zp(a:Int)(b c:ϊ):R:=.agg (xZ a b c)
def Zq(a:Int)(b c:ϊ):ϊ:=preB 68 [ik a,b,c]
end Go.Proofs.YtcfpcblgmmeioaaGreat
namespace Go.bD
open Go
variable{f s e0:U}{g H c0:ύ}{e i v M b9 j1:Nat}
def Zr(a:α g=e):su 1 e (f.set i (.ro g)) (.ptr i 0)=β (.J g .any):=WS (ξ _ _ _) a
end Go.bD
namespace Go.Proofs.YtcfpcblgmmeioaaGreat
open Go Go.bD
structure iO where
 n:Int
 h:ϊ
 d:ϊ
 deriving DecidableEq
def iO.ok(a:iO):Prop:=α a.h=32/\α a.d=32
def iO.C(a:iO):ύ:=xZ a.n a.h a.d
def iO.V(a:iO):R:=Zp a.n a.h a.d
def iO.sum(a:iO):ϊ:=fm (Zq a.n a.h a.d)
def cw.mono{b c d:U}{h:Nat}{k:ϊ}(a:cw b h k c)(o:c.sub d):cw b h k d:=by obtain⟨p,a⟩:=a;exact⟨p,a.mono o⟩
def cw.sub{a c:U}{d:Nat}{h:ϊ}(b:cw a d h c)(k:a d=ζ):a.sub c:=by obtain⟨o,b⟩:=b;exact π (μ θ k) b.sub
theorem cw.base{b c d:U}{h:Nat}{k:ϊ}(a:cw b h k d)(o:c.sub b):cw c h k d:=by obtain⟨p,a⟩:=a;exact⟨p,a.base (U.lz o)⟩
variable{f s e0:U}{w j4:ϊ}{e i v M b9 j1:Nat}
def cw.cell(a:cw s e w f):∃b,f e=β (uS w b):=by obtain⟨b,a⟩:=a;exact⟨b,a.sub _ _ (ξ _ _ _)⟩
def cw.new{d h:U}{c a:Nat}{p:ϊ}{ob:bu}(b:cw d c p h)(k:h a=ζ):a≠c/\d a=ζ/\cw (d.set a ob) c p (h.set a ob):=by
 obtain⟨r,x⟩:=b.cell;have o:a≠c:=by rintro rfl;rw[k]at x;cases x
 obtain⟨r,b⟩:=b;have y:=Ο b.sub k;rw[ο _ _ o]at y;refine⟨o,y,r,?_⟩;rw[U.ef _ o];exact b.new k
variable{Y:bu}
def cw.get(a:cw f i w s)(b:e≠i)(c:f e=β Y):s e=β Y:=by obtain⟨d,a⟩:=a;exact a.sub _ _ (by rw[ο _ _ b];exact c)
def DE(d h:U)(a:Nat)(b c:ϊ)(k:α c=32)(o:cw d a b h)(y:α b+32<=70368744177664):
  AC γ 128 [.ptr a 0,br c] h λ_ p=>cw d a (b++c) p:=by
 refine bd hm P2 ς ?_;refine aG (aE @k @ba @bb) ?_;refine aN λz r=>?_;refine aG (aL @k @Zr @ba @bb) ?_;refine ah (uT d _ a b c .any (o.mono (μ θ r)) δ) ?_;intro C D x;refine aG (c2 @ba @bb) ?_;exact⟨_,θ,x⟩
def DF(a:Int):(ik a).length=8:=rfl
structure Rd where
 b:ϊ
 e:Int
def il(a:Rd)(b:Own):bu:=.cells [.J (a.b.map aj) b,.v (.int .i64 a.e)]
def c6(a:U)(b:Nat)(c:Rd)(d:U):Prop:=∃h,(a.set b (il c h)).sub d
def c6.cell{a:Rd}(b:c6 s e a f):∃c,f e=β (.cells [.J (a.b.map aj) c,.v (.int .i64 a.e)]):=by obtain⟨c,b⟩:=b;exact⟨c,b _ _ (ξ _ _ _)⟩
def c6.mono{b:Rd}(a:c6 f e b s)(c:s.sub e0):c6 f e b e0:=by obtain⟨d,a⟩:=a;exact⟨d,π a c⟩
theorem c6.base{b:Rd}(a:c6 f e b e0)(c:s.sub f):c6 s e b e0:=by obtain⟨d,a⟩:=a;exact⟨d,π (U.lz c) a⟩
theorem c6.set{c d:U}{a:Nat}{o:Rd}(b:c6 c a o d)(h:Rd)(k:Own):c6 c a h (d.set a (il h k)):=by obtain⟨p,b⟩:=b;exact⟨k,U.Dx b⟩
def c6.get{b:Rd}(a:c6 f i b s)(c:e≠i)(d:f e=β Y):s e=β Y:=by obtain⟨h,a⟩:=a;exact a _ _ (by rw[ο _ _ c];exact d)
def c6.new{c:Rd}{ob:bu}(a:c6 f i c s)(d:s e=ζ):e≠i/\f e=ζ/\c6 (f.set e ob) i c (s.set e ob):=by
 obtain⟨h,k⟩:=a.cell;have b:e≠i:=by rintro rfl;rw[d]at k;cases k
 obtain⟨h,a⟩:=a;have o:=Ο a d;rw[ο _ _ b]at o;refine⟨b,o,h,?_⟩;rw[U.ef _ b];exact U.lz a
def c6.other{b:Rd}{ob:bu}(a:c6 f e b s)(c:i≠e):c6 (f.set i ob) e b (s.set i ob):=by obtain⟨d,a⟩:=a;refine⟨d,?_⟩;rw[U.ef _ c];exact U.lz a
def DG(a:ϊ)(c:Own)(b:U)(p:c=.nil->a=[])(r:α a<=70368744177664):
  AC γ 77 [.J (a.map aj) c] b λx y=>∃d,b d=ζ/\x=.ptr d 0/\c6 b d ⟨a,0⟩ y:=by
 refine bd hm Nr ς ?_;refine aG (c2 @ba @bb) ?_;refine ah (xY a c b p r) ?_;rintro _ D⟨h,k,rfl⟩;have o:putAt [R.J [] Own.nil,R.v (Value.int IntKind.i64 0)] 0 [R.J (a.map aj) h]=[R.J (a.map aj) h,R.v (Value.int IntKind.i64 0)]:=rfl;refine aG (aE @o @ba @bb) ?_;refine aN λz C=>?_;refine aG (aE @o @ba @bb) ?_;exact⟨_,θ,z,Ο k.sub C,rfl,h,U.lz k.sub⟩
def mx(a:Rd)(e:Int):Rd:=if a.e=0 then {a with e:=e}else a
variable{n b5:R}
def Zs{a:R}:putAt [n,a] 1 [b5]=[n,b5]:=rfl
def Zt{a:R}:putAt [a,n] 0 [b5]=[b5,n]:=rfl
def sK(k o:U)(c:Nat)(a:Rd)(e:Int)(d:c6 k c a o):
  AC γ 134 [.ptr c 0,.v (.int .i64 e)] o λ_ p=>c6 k c (mx a e) p:=by
 obtain⟨r,h⟩:=d.cell;refine bd hm Pe ς ?_;by_cases b:a.e=0
 .refine aG (bz (κ h) (χ h) @b @Zs @ba @bb) ?_;refine⟨_,θ,?_⟩;rw[mx,if_pos b];exact d.set {a with e:=e} r
 .refine aG (aL (κ h) @b @ba @bb) ?_;refine⟨_,θ,?_⟩;rw[mx,if_neg b];exact d
def dq(a:Rd)(c:Nat):Option ϊ×Rd:=
 if a.e=0 then(if α a.b<c then(ζ,{a with e:=20})else(β (a.b.take c),{a with b:=a.b.drop c}))else(ζ,a)
def DH(p r:U)(k:Nat)(a:Rd)(c:Nat)(F:c<=100000000)(h:c6 p k a r):
  AC γ 131 [.ptr k 0,.v (.int .i64 c)] r λC D=>c6 p k (dq a c).2 D/\
   (∃x,(x=.nil->(dq a c).1.getD []=[])/\C=.aJ [.J (((dq a c).1.getD []).map aj) x,.v (.bool (dq a c).1.isSome)]):=by
 obtain⟨x,o⟩:=h.cell;refine bd hm P8 ς ?_;by_cases d:a.e=0
 .by_cases c2:α a.b<c
  .have y:(α a.b:Int)<c:=δ;have e:dq a c=(ζ,{a with e:=20}):=by rw[dq,if_pos d,if_pos c2]
   rw[e];refine aG (bh (κ o) @d @y @ba @bb) ?_;refine ah (sK p r k a 20 h) ?_;intro C G z;rw[mx,if_pos d]at z;obtain⟨L,E⟩:=z.cell;refine aG (aE (κ E) @ba @bb) ?_;exact⟨_,θ,z,.nil,λ_=>rfl,rfl⟩
  .have y:¬(α a.b:Int)<c:=δ;have e:dq a c=(β (a.b.take c),{a with b:=a.b.drop c}):=by rw[dq,if_pos d,if_neg c2]
   rw[e];refine aG (c7 (κ o) (χ o) @d @y @Zt @ba @bb) ?_;exact⟨_,θ,h.set ⟨a.b.drop c,0⟩ .any,.any,(λh=>by cases h),rfl⟩
 .have e:dq a c=(ζ,a):=by rw[dq,if_neg d]
  rw[e];refine aG (aL (κ o) @d @ba @bb) ?_;exact⟨_,θ,h,.nil,λ_=>rfl,rfl⟩
def uU(d h:U)(c:Nat)(b:Rd)(a:Nat)(o:a<=100000000)(p:c6 d c b h):
  AC γ 131 [.ptr c 0,.v (.int .i64 a)] h λr x=>c6 d c (dq b a).2 x/\
   (∃k,r=.aJ [.J (((dq b a).1.getD []).map aj) k,.v (.bool (dq b a).1.isSome)]):=
 (DH d h c b a o p).mono λ_ _ ⟨y,k,_,z⟩=>⟨y,k,z⟩
def dz(a:Rd):UInt8×Rd:=((dq a 1).1.getD []|>.headD 0,(dq a 1).2)
theorem r6{a:Rd}(b:(dq a e).1=β w):α w=e:=by grind[dq,Option.some.injEq,List.length_take]
def pP(c d:U)(b:Nat)(a:Rd)(r:c6 c b a d):
  AC γ 78 [.ptr b 0] d λk x=>c6 c b (dz a).2 x/\k=.v (.int .u8 (dz a).1.toNat):=by
 refine bd hm Nt ς ?_;refine aG (c2 @ba @bb) ?_;refine ah (uU c d b a 1 δ r) ?_;rintro k C⟨o,D,rfl⟩;unfold dz;have h:=λaV=>r6 (a:=a) (e:=1) (w:=aV);generalize dq a 1=y at*;obtain⟨aV,E⟩:=y;cases aV with
 |none=>simp only[a9a,aam]at*;refine aG (c2 @ba @bb) ?_;exact⟨_,θ,o,rfl⟩
 |some aV=>
  simp only[a9K,a9l]at*;have h:=h aV rfl
  match aV,h with
  |[p],_=>have z:eo 1 (β (aj p))=β (.bS [.v (.int .u8 p.toNat)]):=rfl;simp -dsimp -implicitDefEqProofs (disch:=first|omega|assumption|(simp only[aW,Nat.reduceAdd];try omega)) only[gp,z,go_sem,↓reduceIte,Nat.reduceEqDiff,Nat.reduceAdd,Nat.reduceSub,Nat.reduceMul,Nat.reduceLeDiff,Nat.reduceLT,Int.reduceNeg,Int.reduceToNat,Int.reduceAdd,Int.reduceSub,Int.reduceMul,Int.reduceLT,Int.reduceLE,Int.reduceEq,Int.reduceNe,ba,bb,List.headD_cons];exact⟨_,θ,o⟩
def fo(a:ϊ):Nat:=a.foldl (λb c=>b*256+c.toNat) 0
def iP(a:Rd):Int×Rd:=
 match(dq a 8).1 with
 |none=>(0,(dq a 8).2)
 |some aV=>((BitVec.ofNat 64 (fo aV)^^^9223372036854775808#64).toInt,(dq a 8).2)
def DI:∀(aV:ϊ)(a:Nat),aV.foldl (λa b=>a*256+b.toNat) a+1<=(a+1)*256^α aV
 |[],a=>by simp
 |b::aV,a=>by
  have c:=DI aV (a*256+b.toNat);have d:=b.toNat_lt;rw[a7S,a7s,aaS];refine a8m c ?_;rw[abx (256^α aV) 256,<-Nat.mul_assoc];exact a7D _ δ
def DJ(a:ϊ):fo a<256^α a:=by have:=DI a 0;rw[fo];omega
def Zu(a:ϊ)(b:Nat)(c:b<α a):fo (a.take (b+1))=fo (a.take b)*256+(a.getD b 0).toNat:=by rw[abg,Ρ c,fo,a9g];simp[fo,c]
theorem Zv(a b:Nat)(c:a<18446744073709551616)(d:b<18446744073709551616):bt .or (.int .u64 a) (.int .u64 b)=β (.int .u64 ((a|||b:Nat):Int)):=by have h:bt .or (.int .u64 a) (.int .u64 b)=β (.int .u64 (IntKind.u64.wrap (ρ 64 (a)|||ρ 64 (b)).toNat)):=rfl;have k:=(ρ 64 (a)|||ρ 64 (b)).isLt;grind[wrap_u64,BitVec.toNat_or,BitVec.toNat_ofNat,Nat.mod_eq_of_lt]
def DK(a b:Nat)(d:b<256):a*256|||b=a*256+b:=by have c:=a9X (i:=8) δ a;rw[a9G]at c;exact c.symm
def Zw(a:Nat)(c:a<72057594037927936):bt .shl (.int .u64 a) (.int .u64 8)=β (.int .u64 ((a*256:Nat):Int)):=by have b:bt .shl (.int .u64 a) (.int .u64 8)=β (.int .u64 (IntKind.u64.wrap ((a)*2^8))):=rfl;rw[b,wrap_u64 δ δ];simp
theorem Zx(a:Nat)(b:a<18446744073709551616):bt .xor (.int .u64 a) (.int .u64 9223372036854775808)=β (.int .u64 ((BitVec.ofNat 64 a^^^9223372036854775808#64).toNat:Int)):=by have c:bt .xor (.int .u64 a) (.int .u64 9223372036854775808)=β (.int .u64 (IntKind.u64.wrap (ρ 64 (a)^^^ρ 64 9223372036854775808).toNat)):=rfl;grind[BitVec.ofNat,ρ,wrap_u64]
def Zy(a:BitVec 64):IntKind.i64.wrap (a.toNat:Int)=a.toInt:=by have b:((2:Int)^IntKind.i64.bits)=18446744073709551616:=rfl;have c:((2:Int)^(IntKind.i64.bits - 1))=9223372036854775808:=rfl;have d:=a.isLt;simp only[IntKind.wrap,b,c,IntKind.signed,a8S,decide_eq_true_eq,BitVec.toInt_eq_toNat_cond];omega
theorem Zz(k o:U)(h:Nat)(c:Rd)(S:c6 k h c o):
  AC γ 244 [.ptr h 0] o λy p=>c6 k h (iP c).2 p/\y=.v (.int .i64 (iP c).1):=by
 refine bd hm Sf ς ?_;refine aG (c2 @ba @bb) ?_;refine ah (uU k o h c 8 δ S) ?_;rintro y T⟨z,V,rfl⟩;unfold iP;have C:=λaV=>r6 (a:=c) (e:=8) (w:=aV);generalize dq c 8=W at*;obtain⟨aV,n⟩:=W;cases aV with
 |none=>simp only[a9a,aam]at*;refine aG (c2 @ba @bb) ?_;exact⟨_,θ,z⟩
 |some aV=>
  simp only[a9K,a9l]at*;have C:=C aV rfl;refine aG (c2 @ba @bb) ?_;refine cm (λb p=>∃a:Nat,a<=8/\p=T/\b 15=.J (aV.map aj) V/\b 16=.v (.int .i64 (α aV))/\b 17=.v (.int .i64 a)/\b 5=.v (.int .u64 (fo (aV.take a))))
   (λb _=>match b 17 with|.v (.int _ e)=>(8 - e).toNat|_=>0) ⟨0,δ,rfl,?_⟩ ?_
  .refine aG (aE @a9m.{0} @ba @bb) ?_;rfl
  .rintro b q⟨a,s,rfl,D,E,F,r⟩;have x:=DJ (aV.take a);rw[a7q]at x;by_cases G:(a:Int)<α aV
   .have L:a<α aV:=δ;have t:fo (aV.take a)<72057594037927936:=by refine a8z x ?_;refine a8m (a9e (j:=7) δ δ) Θ
    have f:=xu L;have g:=Zu aV a L;generalize u:aV.getD a 0=d at*;have v:=d.toNat_lt;have i:IntKind.u64.wrap (d.toNat)=d.toNat:=wrap_u64 δ δ;generalize fo (aV.take a)=P at*;have j:bt .or (.int .u64 ((P*256:Nat))) (.int .u64 (d.toNat))=β (.int .u64 ((P*256+d.toNat:Nat))):=by rw[Zv _ _ δ δ,DK _ _ δ]
    have l:eo 1 (aV.map aj)[a]?=β (.bS [.v (.int .u8 d.toNat)]):=by rw[f];rfl
    simp -dsimp -implicitDefEqProofs (disch:=first|omega|assumption|(simp only[aW,Nat.reduceAdd];try omega)) only[D,E,F,r,G,go_sem,↓reduceIte,Nat.reduceEqDiff,Nat.reduceAdd,Nat.reduceSub,Nat.reduceMul,Nat.reduceLeDiff,Nat.reduceLT,Int.reduceNeg,Int.reduceToNat,Int.reduceAdd,Int.reduceSub,Int.reduceMul,Int.reduceLT,Int.reduceLE,Int.reduceEq,Int.reduceNe,ba,bb,gp,l,Zw,i,j];refine⟨⟨a+1,δ,ς,?_⟩,δ⟩;rw[g]
   .obtain rfl:a=8:=δ;have m:aV.take 8=aV:=Φ δ;rw[m]at r x;have w:fo aV<18446744073709551616:=by simp_all
    simp -dsimp -implicitDefEqProofs (disch:=first|omega|assumption|(simp only[aW,Nat.reduceAdd];try omega)) only[D,E,F,r,G,go_sem,↓reduceIte,Nat.reduceEqDiff,Nat.reduceAdd,Nat.reduceSub,Nat.reduceMul,Nat.reduceLeDiff,Nat.reduceLT,Int.reduceNeg,Int.reduceToNat,Int.reduceAdd,Int.reduceSub,Int.reduceMul,Int.reduceLT,Int.reduceLE,Int.reduceEq,Int.reduceNe,ba,bb,Zx,Zy];exact⟨_,θ,z⟩
def nz(a:Rd):ϊ×Rd:=((dq a 32).1.getD uP,(dq a 32).2)
def DL(a:Rd):(nz a).1.length=32:=by
 unfold nz;have b:=λaV=>r6 (a:=a) (e:=32) (w:=aV);cases c:(dq a 32).1 with
 |none=>rfl
 |some aV=>exact b aV c
def DM(r D:U)(h:Nat)(b:Rd)(k:c6 r h b D):
  AC γ 186 [.ptr h 0] D λc P=>c6 r h (nz b).2 P/\c=br (nz b).1:=by
 refine bd hm QH ς ?_;have E:=DL b;refine aG (c2 @ba @bb) ?_;refine aN λS T=>?_;obtain⟨F,V,k⟩:=k.new (ob:=fB) T;refine aG (c2 @ba @bb) ?_;refine aN λW e=>?_;obtain⟨G,x,k⟩:=k.new (ob:=fB) e;obtain⟨d,x⟩:=U.gP x;refine aG (c2 @ba @bb) ?_;refine ah (uU _ _ h b 32 δ k) ?_;rintro c f⟨y,i,rfl⟩;have o:=y.get F (by rw[ο _ _ (Ι d)];exact ξ _ _ _);have a:=y.get G (ξ _ _ _);have L:∀(c z),c6 r h (dq b 32).2 ((f.set W c).set S z):=λc z=>by
  have:=(y.other (ob:=c) G).other (ob:=z) F;rw[τ]at this;refine this.base ?_;rw[U.ef _ d,τ];exact μ (μ θ V) x
 unfold nz at E|-;have p:=λaV=>r6 (a:=b) (e:=32) (w:=aV);generalize dq b 32=g at*;obtain⟨aV,j⟩:=g;unfold fB at o a;have l:(ε 32 (R.v (Value.int IntKind.u8 0))).length=32:=rfl;cases aV with
 |none=>
  simp only[a9a,aam]at*;simp -dsimp -implicitDefEqProofs (disch:=first|omega|assumption|(simp only[aW,Nat.reduceAdd];try omega)) only[go_sem,↓reduceIte,Nat.reduceEqDiff,Nat.reduceAdd,Nat.reduceSub,Nat.reduceMul,Nat.reduceLeDiff,Nat.reduceLT,Int.reduceNeg,Int.reduceToNat,Int.reduceAdd,Int.reduceSub,Int.reduceMul,Int.reduceLT,Int.reduceLE,Int.reduceEq,Int.reduceNe,ba,bb,κ a,χ a,xy (κ a)];refine CX ?_ a ?_ ?_
  .simp[aY]
  .simp
  have C:putAt (ε 32 (R.v (Value.int IntKind.u8 0))) 0 (flat (List.take 32 []))=uP.map aj:=rfl;rw[C];refine aG (c7 @E @d (Ι d) (κ o) (χ o) @ba @bb) ?_;exact⟨_,θ,L _ _⟩
 |some aV=>
  simp only[a9K,a9l]at*;have p:=p aV rfl;simp -dsimp -implicitDefEqProofs (disch:=first|omega|assumption|(simp only[aW,Nat.reduceAdd];try omega)) only[go_sem,↓reduceIte,Nat.reduceEqDiff,Nat.reduceAdd,Nat.reduceSub,Nat.reduceMul,Nat.reduceLeDiff,Nat.reduceLT,Int.reduceNeg,Int.reduceToNat,Int.reduceAdd,Int.reduceSub,Int.reduceMul,Int.reduceLT,Int.reduceLE,Int.reduceEq,Int.reduceNe,ba,bb,κ a,χ a,xy (κ a)];refine CX ?_ a ?_ ?_
  .rw[ur];trivial
  .simp
  have C:putAt (ε 32 (R.v (Value.int IntKind.u8 0))) 0 (flat (List.take 32 (List.map aj aV)))=aV.map aj:=by rw[Φ (by simp[p]),rY,sq (by simp[p])]
  rw[C];refine aG (c7 @p @d (Ι d) (κ o) (χ o) @ba @bb) ?_;exact⟨_,θ,L _ _⟩
def pQ(a:Rd):Rd:=if 0<α a.b then mx a 22 else a
def DN(c d:U)(b:Nat)(a:Rd)(h:c6 c b a d):
  AC γ 80 [.ptr b 0] d λo y=>c6 c b (pQ a) y/\o=.v (.int .i64 (pQ a).e):=by
 obtain⟨C,p⟩:=h.cell;refine bd hm Nx ς ?_;unfold pQ;by_cases r:0<α a.b
 .have k:(0:Int)<α a.b:=δ;refine aG (aL (κ p) @k @ba @bb) ?_;refine ah (sK c d b a 22 h) ?_;intro o D x;obtain⟨E,z⟩:=x.cell;rw[if_pos r];refine aG (aE (κ z) @ba @bb) ?_;exact⟨_,θ,x⟩
 .have k:¬(0:Int)<α a.b:=δ;rw[if_neg r];refine aG (aL (κ p) @k @ba @bb) ?_;exact⟨_,θ,h⟩
def fp(a:Nat):ϊ:=[ν (a>>>16),ν (a>>>8),ν a]
def im(a:ϊ):ϊ:=fp (α a)++a
def dE(a:Ω):ϊ:=ν (α a)::a.flatMap ik
theorem kF(a:Nat):(fp a).length=3:=rfl
theorem y0(a:ϊ):(im a).length=3+α a:=by simp[im,fp];omega
theorem oB(a:Ω):(a.flatMap ik).length=8*α a:=by
 induction a with
 |nil=>rfl
 |cons b a ih=>rw[a7P,Ψ,ih,DF,a7s];omega
def y2(a:Ω):(dE a).length=1+8*α a:=by rw[dE,a7s,oB];omega
theorem DO(b a:Nat)(c:a<=64):bt .shr (.int .i64 (b:Int)) (.int .u64 (a:Int))=β (.int .i64 ((b>>>a:Nat):Int)):=by
 have d:bt .shr (.int .i64 (b)) (.int .u64 (a))=β (.int .i64 ((b:Int).fdiv (2^a))):=by have hm:min a IntKind.i64.bits=a:=a8Y c;simp[bt,fy,o6,hm]
 grind[Nat.shiftRight_eq_div_pow,Int.ofNat_fdiv]
def sL(d h:U)(b:Nat)(c:ϊ)(a:Nat)(F:a<=1048576)(r:cw d b c h)(G:α c<=1000000000000):
  AC γ 127 [.ptr b 0,.v (.int .i64 a)] h λ_ x=>cw d b (c++fp a) x:=by
 refine bd hm P0 ς ?_;have k:bt .shr (.int .i64 (a)) (.int .u64 16)=β (.int .i64 ((a>>>16))):=DO a 16 δ;have o:bt .shr (.int .i64 (a)) (.int .u64 8)=β (.int .i64 ((a>>>8))):=DO a 8 δ;have p:(0:Int)<=a:=δ;have c2:(a:Int)<=1048576:=δ;refine aG (bh @k @o @iK @p @c2) ?_;refine dJ θ (by simp[aY,σ]) λy z C=>?_;refine aG (bh @k @o @iK @p @c2) ?_;refine ah (uT d z b c (fp a) y (r.mono C.sub) (by rw[kF];omega)) ?_;intro L D E;refine er ?_;exact⟨D,θ,E⟩
def DP(c h:U)(b:Nat)(d a:ϊ)(k:Own)(o:α a<=1048576)(p:cw c b d h)(r:α d<=1000000000000):
  AC γ 73 [.ptr b 0,.J (a.map aj) k] h λ_ x=>cw c b (d++im a) x:=by
 refine bd hm Ni ς ?_;have c2:¬(1048576:Int)<α a:=δ;simp -dsimp -implicitDefEqProofs (disch:=first|omega|assumption|(simp only[aW,Nat.reduceAdd];try omega)) only[go_sem,simprocAttr,c2];refine ah (sL c h b d (α a) o p r) ?_;intro y z C;simp -dsimp -implicitDefEqProofs (disch:=first|omega|assumption|(simp only[aW,Nat.reduceAdd];try omega)) only[go_sem,simprocAttr];refine ah (uT c z b _ a k C (by rw[Ψ,kF];omega)) ?_;intro y D E;simp -dsimp -implicitDefEqProofs (disch:=first|omega|assumption|(simp only[aW,Nat.reduceAdd];try omega)) only[go_sem,simprocAttr];refine⟨D,θ,?_⟩;rw[im,<-a7B];exact E
def ad(a:Ω):ύ:=a.map λb=>.v (.int .i64 b)
def dU{a:Ω}{b:Nat}(c:b<α a):(ad a)[b]?=β (.v (.int .i64 (a.getD b 0))):=by simp[ad,c]
variable{q b7:Ω}
theorem bN:(ad q).length=α q:=by simp[ad]
theorem sM(h o:U)(c:Nat)(k:ϊ)(a:Ω)(D:Own)(W:α a<=255)(L:cw h c k o)(e:α k<=1000000000000):
  AC γ 129 [.ptr c 0,.J (ad a) D] o λ_ p=>cw h c (k++dE a) p:=by
 refine bd hm P4 ς ?_;have c2:¬(255:Int)<α a:=δ;have E:=bN (q:=a);refine aG (aE @E @c2 @iK) ?_;refine ah (ny h o c k _ L δ) ?_;intro P f g;refine aG @E ?_;refine cm (λd p=>∃b:Nat,b<=α a/\cw h c (k++(ν (α a)::(a.take b).flatMap ik)) p/\d 0=.ptr c 0/\d 17=.J (ad a) D/\d 18=.v (.int .i64 (α a))/\d 19=.v (.int .i64 b))
  (λd _=>match d 19 with|.v (.int _ S)=>(α a - S).toNat|_=>0) ⟨0,δ,by trivial,?_⟩ ?_
 .exact qY
 .rintro d F⟨b,i,r,x,y,z,C⟩;by_cases G:(b:Int)<α a
  .have T:b<α a:=δ;have V:=dU T;refine aG (c7 @x @y @z @C @G @gp @V) ?_;refine ah (Zo h F c _ _ r ?_) ?_;grind[oB,Β,List.length_cons,List.length_take];intro P j l;refine aG (aL @x @y @z @C) ?_;refine⟨⟨b+1,δ,?_,ς⟩,δ⟩;grind[ik,List.take_succ,List.getElem?_eq_getElem,List.getD]
  .obtain rfl:b=α a:=δ;refine aG (bh @x @y @z @C @G) ?_;refine⟨F,θ,?_⟩;rw[a7K]at r;exact r
def DQ(h a:U)(b:Nat)(c:ϊ)(k:cw h b c a):
  AC γ 76 [.ptr b 0] a λo p=>p=a/\o=.v (.int .i64 0):=by
 obtain⟨r,d⟩:=k.cell;refine bd hm Np ς ?_;have x:aM ι 1 ([R.J (c.map aj) r,.v (.int .i64 0)].drop 1)=.v (.int .i64 0):=rfl;unfold uS at d;refine aG (c2 (κ d) @x) ?_;exact⟨a,θ,rfl⟩
def fG(b:Nat)(a:Rd):Nat×Rd:=
 match(dq a 3).1 with
 |none=>(0,(dq a 3).2)
 |some aV=>if min b 1048576<fo aV then(0,mx (dq a 3).2 10)else(fo aV,(dq a 3).2)
def r7(a:Nat)(b:Rd):ϊ×Rd:=((dq (fG a b).2 (fG a b).1).1.getD [],(dq (fG a b).2 (fG a b).1).2)
theorem DR(a b:Nat)(c:a<4611686018427387904)(d:b<4611686018427387904):bt .or (.int .i64 a) (.int .i64 b)=β (.int .i64 ((a|||b:Nat):Int)):=by
 have h:bt .or (.int .i64 a) (.int .i64 b)=β (.int .i64 (IntKind.i64.wrap (ρ 64 (a)|||ρ 64 (b)).toNat)):=rfl;have k:a|||b<4611686018427387904:=Nat.or_lt_two_pow (n:=62) c d
 grind[BitVec.toNat_or,BitVec.toNat_ofNat,Nat.mod_eq_of_lt,wrap_i64]
theorem xv(b:UInt8)(a:Nat)(c:a<=16):bt .shl (.int .i64 (b.toNat:Int)) (.int .u64 (a:Int))=β (.int .i64 ((b.toNat*2^a:Nat):Int)):=by
 have k:=b.toNat_lt;have o:bt .shl (.int .i64 (b.toNat)) (.int .u64 (a))=β (.int .i64 (IntKind.i64.wrap ((b.toNat)*2^(min (a:Int).toNat 64)))):=by have d:¬(a)<0:=δ;simp only[bt,fy,o6,d,if_false,if_true];rfl
 have hm:min (a:Int).toNat 64=a:=δ;have h:2^a<=65536:=a9e δ c;have p:b.toNat*2^a<=256*65536:=aak δ h;grind[wrap_i64]
theorem ZA(a b c:UInt8):a.toNat*65536|||b.toNat*256|||c.toNat=fo [a,b,c]:=by
 have h:=a.toNat_lt;have k:=b.toNat_lt;have d:=c.toNat_lt;have o:a.toNat*65536|||b.toNat*256=a.toNat*65536+b.toNat*256:=by have:=a9X (a:=a.toNat) (i:=16) (b:=b.toNat*256) δ;rw[a9G]at this;exact this.symm
 have p:(a.toNat*256+b.toNat)*256|||c.toNat=(a.toNat*256+b.toNat)*256+c.toNat:=DK _ _ d
 grind[fo]
def ZB(a:α w=3):fo w<16777216:=by have:=DJ w;rw[a]at this;exact this
def sN(o r:U)(k:Nat)(d:Nat)(n:d<=1048576)(h:Rd)(E:c6 o k h r):
  AC γ 185 [.ptr k 0,.v (.int .i64 d)] r λx F=>c6 o k (fG d h).2 F/\x=.v (.int .i64 (fG d h).1):=by
 refine bd hm QF ς ?_;refine er ?_;refine ah (uU o r k h 3 δ E) ?_;rintro x G⟨y,q,rfl⟩;unfold fG;have p:=λaV=>r6 (a:=h) (e:=3) (w:=aV);generalize dq h 3=L at*;obtain⟨aV,P⟩:=L;cases aV with
 |none=>simp only[a9a,aam]at*;refine er ?_;exact⟨_,θ,y⟩
 |some aV=>
  simp only[a9K,a9l]at*;have p:=p aV rfl;have s:=ZB p
  match aV,p with
  |[a,b,c],_=>
   have S:eo 1 (β (aj a))=β (.bS [.v (.int .u8 a.toNat)]):=rfl;have T:eo 1 (β (aj b))=β (.bS [.v (.int .u8 b.toNat)]):=rfl;have V:eo 1 (β (aj c))=β (.bS [.v (.int .u8 c.toNat)]):=rfl;have t:=a.toNat_lt;have u:=b.toNat_lt;have v:=c.toNat_lt;have W:IntKind.i64.wrap (a.toNat)=a.toNat:=wrap_i64 δ δ;have e:IntKind.i64.wrap (b.toNat)=b.toNat:=wrap_i64 δ δ;have f:IntKind.i64.wrap (c.toNat)=c.toNat:=wrap_i64 δ δ;have g:bt .shl (.int .i64 (a.toNat)) (.int .u64 16)=β (.int .i64 ((a.toNat*65536:Nat))):=xv a 16 δ;have i:bt .shl (.int .i64 (b.toNat)) (.int .u64 8)=β (.int .i64 ((b.toNat*256:Nat))):=xv b 8 δ;have j:bt .or (.int .i64 ((a.toNat*65536:Nat))) (.int .i64 ((b.toNat*256:Nat)))=β (.int .i64 ((a.toNat*65536|||b.toNat*256))):=DR _ _ δ δ;have w:a.toNat*65536|||b.toNat*256<16777216:=Nat.or_lt_two_pow (n:=24) δ δ
   have l:bt .or (.int .i64 ((a.toNat*65536|||b.toNat*256))) (.int .i64 (c.toNat))=β (.int .i64 ((fo [a,b,c]))):=by rw[DR _ _ δ δ,ZA]
   simp -dsimp -implicitDefEqProofs (disch:=first|omega|assumption|(simp only[aW,Nat.reduceAdd];try omega)) only[gp,S,T,V,↓hZ,ia,al,ofConst,cv,simprocAttr,eP,a8G,↓sw,sx,ne_eq,not_true_eq_false,not_false_eq_true,Int.reduceNe,a9c,a9n,↓D3,D4,W,e,f,g,i,j,l];have C:min (d:Int) 1048576=((min d 1048576)):=δ;by_cases D:min d 1048576<fo [a,b,c]
   .have z:((min d 1048576))<(fo [a,b,c]:Int):=δ;refine aG (c2 @C @z) ?_;refine ah (sK o G k P 10 y) ?_;intro x A m;refine er ?_;rw[if_pos D];exact⟨_,θ,m,rfl⟩
   .have z:¬((min d 1048576))<(fo [a,b,c]:Int):=δ;refine aG (c2 @C @z) ?_;rw[if_neg D];exact⟨_,θ,y,rfl⟩
theorem y3(a:Nat)(b:Rd):(fG a b).1<=a/\(fG a b).1<=1048576:=by grind[fG]
theorem DS(d k:U)(c:Nat)(a:Nat)(r:a<=1048576)(b:Rd)(x:c6 d c b k):
  AC γ 132 [.ptr c 0,.v (.int .i64 a)] k λo y=>c6 d c (r7 a b).2 y/\∃h,(h=.nil->(r7 a b).1=[])/\o=.J ((r7 a b).1.map aj) h:=by
 refine bd hm Pa ς ?_;simp -dsimp -implicitDefEqProofs (disch:=first|omega|assumption|(simp only[aW,Nat.reduceAdd];try omega)) only[go_sem,simprocAttr];refine ah (sN d k c a r b x) ?_;rintro o z⟨C,rfl⟩;have P:=y3 a b;simp -dsimp -implicitDefEqProofs (disch:=first|omega|assumption|(simp only[aW,Nat.reduceAdd];try omega)) only[go_sem,simprocAttr];refine ah (DH d z c (fG a b).2 (fG a b).1 δ C) ?_;rintro o D⟨E,h,F,rfl⟩;simp -dsimp -implicitDefEqProofs (disch:=first|omega|assumption|(simp only[aW,Nat.reduceAdd];try omega)) only[go_sem,simprocAttr];have S:((dq (fG a b).2 (fG a b).1).1.getD []).length<=1048576:=by grind[dq,fG,r6]
 refine ah (xY _ h D F δ) ?_;rintro _ G⟨L,p,rfl⟩;simp -dsimp -implicitDefEqProofs (disch:=first|omega|assumption|(simp only[aW,Nat.reduceAdd];try omega)) only[go_sem,simprocAttr];refine⟨G,θ,E.mono p.sub,L,?_,rfl⟩;rintro rfl;have:=p.2;simpa[r7] using this
def jV:Nat->Rd->Ω->Ω×Rd
 |0,a,acc=>(acc,a)
 |b+1,a,acc=>jV b (iP a).2 (if(iP a).2.e=0 then acc++[(iP a).1]else acc)
def iq(c:Nat)(d:Rd):Ω×Rd:=
 let a:=dz d
 let b:=jV a.1.toNat (if c<a.1.toNat then mx a.2 10 else a.2) []
 if b.2.e=0 then b else([],b.2)
theorem DT:∀(c:Nat)(a:Rd)(b:Ω),(jV c a b).1.length<=α b+c
 |0,a,b=>by simp[jV]
 |c+1,a,b=>by
  rw[jV];have:=DT c (iP a).2 (if(iP a).2.e=0 then b++[(iP a).1]else b);grind
theorem y4(b:Nat)(a:Rd):(iq b a).1.length<=255:=by unfold iq;have c:=DT (dz a).1.toNat (if b<(dz a).1.toNat then mx (dz a).2 10 else(dz a).2) [];have d:=(dz a).1.toNat_lt;grind
def c6.full{c:Rd}(d:c6 s e c f):c6 (f.del e) e c f:=by
 obtain⟨h,k⟩:=d.cell;refine⟨h,λo p a=>?_⟩;by_cases b:o=e
 .subst b;rw[ξ]at a;rw[k];exact a
 .rw[ο _ _ b,U.eN _ b]at a;exact a
def DU(d:(f.set e Y).sub s)(h:f e=ζ):f.sub (s.del e):=λb k a=>by
 have c:b≠e:=by rintro rfl;rw[h]at a;cases a
 rw[U.eN _ c];exact d b k (by rw[ο _ _ c];exact a)
def cM.step{d o p:U}{a r:Nat}{E x:Rd}{F:Own}{y:ύ}{h:Own}(z:bj (d.set a (il E F)) o r y h)(G:d a=ζ)(L:c6 (o.del a) a x p):∃k,bj (d.set a (il x k)) p r y h:=by
 obtain⟨k,C⟩:=L;refine⟨k,?_,?_⟩
 .refine π ?_ C;exact U.lz (DU z.sub G)
 .have b:=z.2;cases h with
  |buf P S=>
   have c:P≠a:=by rintro rfl;have:=b.1;rw[ξ]at this;cases this
   have D:=b.1;rw[ο _ _ c]at D;exact⟨by rw[ο _ _ c];exact D,C _ _ (by rw[ο _ _ c,U.eN _ c];exact b.2)⟩
  |_=>exact b
variable{g H c0:ύ}{N e6 h6:Own}
def cM.rs{a:Rd}(b:bj (f.set e (il a N)) s i g e6):c6 f e a s:=⟨N,b.sub⟩
theorem pR(r j:U)(b:Nat)(x:Nat)(k1:x<=1048576)(P:Rd)(H:r b=ζ)(I:c6 r b P j):
  AC γ 187 [.ptr b 0,.v (.int .i64 x)] j λy S=>c6 r b (iq x P).2 S/\∃F,y=.J (ad (iq x P).1) F:=by
 refine bd hm QJ ς ?_;refine er ?_;refine ah (pP r j b P I) ?_;rintro y K⟨l,rfl⟩;unfold iq;generalize dz P=M at*;obtain⟨o,m⟩:=M;simp only at l|-;have k2:=o.toNat_lt;have n:IntKind.i64.wrap (o.toNat)=o.toNat:=wrap_i64 δ δ;have N:∃G,G=(if x<o.toNat then mx m 10 else m):=⟨_,rfl⟩;obtain⟨G,T⟩:=N;rw[<-T];refine aG @n ?_;refine ss (λp S=>p 0=.ptr b 0/\p 5=.v (.int .i64 o.toNat)/\c6 r b G S) ?_ ?_ ?_
 .intro d;have q:x<o.toNat:=by have:=of_decide_eq_true d;omega
  rw[if_pos q]at T;refine er ?_;refine ah (sK r K b m 10 l) ?_;intro y O V;refine aG @n ?_;rw[T];exact V
 .intro d;have q:¬x<o.toNat:=by have:=of_decide_eq_false d;omega
  rw[if_neg q]at T;refine aG @n ?_;rw[T];exact l
 rintro p O⟨v,w,V⟩;generalize o.toNat=h at*;refine aG (c2 @v @w) ?_;refine cm (λp S=>∃(c:Nat)(a:Rd)(k:Ω)(g F:Own),c<=h/\jV (h - c) a k=jV h G []/\α k<=c/\bj (r.set b (il a F)) S 1 (ad k) g/\p 0=.ptr b 0/\p 6=.J (ad k) g/\p 16=.v (.int .i64 h)/\p 17=.v (.int .i64 c))
  (λp _=>match p 17 with|.v (.int _ o)=>(h - o).toNat|_=>0) ?_ ?_
 .obtain⟨F,V⟩:=V;refine⟨0,G,[],.nil,F,δ,rfl,ς,Τ V,?_⟩;refine aG (c2 @v @w) ?_;rfl
 .rintro k3 A⟨c,a,k,g,F,k4,L,k5,W,z,C,D,E⟩;by_cases s:(c:Int)<h
  .refine aG (bh @z @C @D @E @s) ?_;refine ah (Zz (A.del b) A b a (cM.rs W).full) ?_;rintro y k6⟨t,rfl⟩;have Q:jV (h - c) a k=jV (h -(c+1)) (iP a).2 (if(iP a).2.e=0 then k++[(iP a).1]else k):=by rw[show h - c=(h -(c+1))+1 by omega];rfl
   rw[Q]at L;obtain⟨k7,B⟩:=cM.step W H t;generalize iP a=X at*;obtain⟨y,i⟩:=X;simp only at t B L|-;obtain⟨u,e⟩:=t.cell;have f:aM ι 1 ([R.J (i.b.map aj) u,.v (.int .i64 i.e)].drop 1)=.v (.int .i64 i.e):=rfl;by_cases d:i.e=0
   .rw[if_pos d]at L;refine aG (c7 @z @C @D @E (κ e) @f @d) ?_;refine dJ θ (by simp[aY,σ]) λk8 k9 Y=>?_;refine aG (aL @z @C @D @E) ?_;refine ep (B.mono Y.sub) (by simp[aY,ad,σ]) (by simp[aY,σ]) (by simp[bN];omega) (by simp[bN];omega) λl0 l1 Z=>?_;refine aG (aL @z @C @D @E) ?_;have j9:ad k++[R.v (.int .i64 y)]=ad (k++[y]):=by simp[ad]
    rw[j9]at Z|-;grind
   .rw[if_neg d]at L;refine aG (c7 @z @C @D @E (κ e) @f @d) ?_;grind
  .obtain rfl:c=h:=δ;rw[a9J]at L;have k0:jV c G []=(k,a):=by rw[<-L];rfl
   rw[k0];obtain⟨u,e⟩:=(cM.rs W).cell;have f:aM ι 1 ([R.J (a.b.map aj) u,.v (.int .i64 a.e)].drop 1)=.v (.int .i64 a.e):=rfl;by_cases d:a.e=0
   .refine aG (bw @z @C @D @E @s (κ e) @f @d) ?_;exact⟨_,θ,cM.rs W,g,rfl⟩
   .refine aG (bw @z @C @D @E @s (κ e) @f @d) ?_;exact⟨_,θ,cM.rs W,.nil,rfl⟩
def headD(b:List ϊ)(a:Nat):ϊ:=if a=0 then uP else b.getD (a - 1) uP
def ZC(a:Int)(b c:ϊ)(d:Int)(h:R):ύ:=xZ a b c++[.v (.int .i64 d),h]
structure y5 where
 o:iO
 st:Int
 y6:Option (iO×iO)
def y5.ok(a:y5):Prop:=a.o.ok/\∀b c,a.y6=β (b,c)->b.ok/\c.ok
def DV(a:iO)(b:Int)(c:R):ύ:=ZC a.n a.h a.d b c
def FS(c:U)(d:Nat)(a:y5)(h:U):Prop:=
 match a.y6 with
 |none=>(c.set d (.cells (DV a.o a.st (.v (.pointer ζ))))).sub h
 |some (k,o)=>∃b,c b=ζ/\b≠d/\((c.set d (.cells (DV a.o a.st (.ptr b 0)))).set b (.cells (k.C++o.C))).sub h
def ZD(c d:U)(a:Nat)(b:ϊ)(h:Bool)(o:cw c a b d)(p:α b+1<=70368744177664):
  AC γ 206 [.ptr a 0,.v (.bool h)] d λ_ r=>cw c a (b++[if h then 1 else 0]) r:=by
 refine bd hm Rb ς ?_;cases h
 .refine aG (c2 @ba @bb) ?_;refine ah (ny c d a b 0 o p) ?_;intro x y k;refine aG (c2 @ba @bb) ?_;exact⟨_,θ,k⟩
 .refine aG (c2 @ba @bb) ?_;refine ah (ny c d a b 1 o p) ?_;intro x y k;refine aG (c2 @ba @bb) ?_;exact⟨_,θ,k⟩
theorem DW(a c:ϊ)(D E:Own)(h:U)(e:α a<=70368744177664):
  AC γ 81 [.J (a.map aj) D,.J (c.map aj) E] h λL z=>z=h/\L=.v (.bool (decide (a=c))):=by
 refine bd hm Nz ς ?_;by_cases f:α a=α c
 .have k:(α a:Int)=α c:=δ;refine aG (aE @k @ba @bb) ?_;rw[<-k];refine cm (λd z=>∃b:Nat,b<=α a/\z=h/\d 0=.J (a.map aj) D/\d 1=.J (c.map aj) E/\d 12=.v (.int .i64 (α a))/\d 13=.v (.int .i64 b)/\a.take b=c.take b)
   (λd _=>match d 13 with|.v (.int _ P)=>(α a - P).toNat|_=>0) ⟨0,δ,rfl,?_⟩ ?_
  .exact gQ (aE @a9m.{0} @ba @bb)
  .rintro d F⟨b,g,rfl,o,p,r,x,i⟩;by_cases y:(b:Int)<α a
   .have S:b<α a:=δ;have T:b<α c:=δ;have V:eo 1 (a.map aj)[b]?=β (.bS [.v (.int .u8 (a.getD b 0).toNat)]):=by rw[xu S];rfl
    have W:eo 1 (c.map aj)[b]?=β (.bS [.v (.int .u8 (c.getD b 0).toNat)]):=by rw[xu T];rfl
    simp -dsimp -implicitDefEqProofs (disch:=first|omega|assumption|(simp only[aW,Nat.reduceAdd];try omega)) only[o,p,r,x,y,gp,V,W,go_sem,simprocAttr,ba,bb];by_cases G:a.getD b 0=c.getD b 0
    .have C:(((a.getD b 0).toNat:Int)=(c.getD b 0).toNat)=True:=by rw[G];simp
     simp -dsimp -implicitDefEqProofs (disch:=first|omega|assumption|(simp only[aW,Nat.reduceAdd];try omega)) only[o,p,r,x,y,C,go_sem,simprocAttr,ba,bb];refine⟨⟨b+1,δ,ς,?_⟩,δ⟩;grind[List.take_succ,List.getElem?_eq_getElem,List.getD]
    .have C:(((a.getD b 0).toNat:Int)=(c.getD b 0).toNat)=False:=by simp only[eq_iff_iff,iff_false];grind[UInt8.toNat_inj]
     simp -dsimp -implicitDefEqProofs (disch:=first|omega|assumption|(simp only[aW,Nat.reduceAdd];try omega)) only[o,p,r,x,y,C,go_sem,simprocAttr,ba,bb];refine⟨F,θ,rfl,?_⟩;have:a≠c:=by rintro rfl;exact G rfl
     simp[this]
   .obtain rfl:b=α a:=δ;simp -dsimp -implicitDefEqProofs (disch:=first|omega|assumption|(simp only[aW,Nat.reduceAdd];try omega)) only[o,p,r,x,y,go_sem,simprocAttr,ba,bb];refine⟨F,θ,rfl,?_⟩;grind
 .have k:((α a:Int)=α c)=False:=by grind
  refine aG (aE @k @ba @bb) ?_;refine⟨h,θ,rfl,?_⟩;have:a≠c:=by rintro rfl;omega
  simp[this]
def nA(a:Rd):Bool×Rd:=(decide ((dz a).1=1),if 1<(dz a).1.toNat then mx (dz a).2 21 else(dz a).2)
theorem ZE(d h:U)(b:Nat)(c:Rd)(y:c6 d b c h):
  AC γ 241 [.ptr b 0] h λk z=>c6 d b (nA c).2 z/\k=.v (.bool (nA c).1):=by
 refine bd hm S9 ς ?_;refine aG (c2 @ba @bb) ?_;refine ah (pP d h b c y) ?_;rintro k C⟨o,rfl⟩;unfold nA;generalize dz c=D at*;obtain⟨a,E⟩:=D;simp only at o|-;have r:decide ((a.toNat:Int)=1)=decide (a=1):=by
  have:((a.toNat:Int)=1)↔a=1:=by rw[<-a8j];grind
  simp only[this]
 by_cases x:1<a.toNat
 .have p:(1:Int)<a.toNat:=δ;refine aG (aE @p @ba @bb) ?_;refine ah (sK d C b E 21 o) ?_;intro k G F;rw[if_pos x];refine aG (aE @r @ba @bb) ?_;exact⟨_,θ,F⟩
 .have p:¬(1:Int)<a.toNat:=δ;rw[if_neg x];refine aG (aL @p @r @ba @bb) ?_;exact⟨_,θ,o⟩
structure ao where
 sum:ϊ
 aT:Ω
 aS:Ω
 live:Int
 size:Int
 key:Ω
 deriving DecidableEq
def az:ao:=⟨ε 32 0,[],[],0,0,[]⟩
structure bY where
 kind:UInt8
 rows:List (Ω×Bool)
 kids:List ao
 deriving DecidableEq
def cQ(b c:Ω)(a:Nat):Bool:=decide (1<=a)&&decide (a<=8)&&decide (α b=a)&&decide (α c=a)&&(ω a).all λd=>decide (b.getD d 0<=c.getD d 0)
def fq(b:Nat)(a:ao):Bool:=
 decide (a=az)||(!(decide (a.size<1)||decide (1048576<a.size)||decide (a.live<0)||decide (a.size<a.live))&&
  if a.live=0 then decide (α a.aT=0)&&decide (α a.aS=0)else cQ a.aT a.aS b)
def dV(c:Nat)(a:bY):Bool:=
  a.rows.all (λd=>decide (α d.1=c))&&a.kids.all (fq c)&&
  (if a.kind=1 then decide (α a.rows=1)&&decide (α a.kids=2)&&a.kids.all (λb=>decide (α b.key=0))
   else if a.kind=2 then decide (1<=α a.rows)&&decide (α a.rows<=4)&&decide (α a.kids=0)&&a.rows.all (λd=>d.2)
   else if a.kind=3 then decide (α a.rows=0)&&decide (2<=α a.kids)&&decide (α a.kids<=4)&&a.kids.all (λb=>decide (α b.key=c)&& !decide (b=az))
   else ι)
def gx(a:Ω×Bool):ϊ:=(if a.2=η then(1:UInt8)else 0)::dE a.1
def ea(a:ao):ϊ:=a.sum++(fp a.live.toNat++(fp a.size.toNat++(dE a.aT++(dE a.aS++dE a.key))))
def cH(a:bY):ϊ:=a.kind::ν (α a.rows)::(a.rows.flatMap gx++ν (α a.kids)::a.kids.flatMap ea)
def sO(b:Nat)(a:bY):Option ϊ:=if dV b a=η then β (cH a)else ζ
def cR(b a:Ω×Ω):Ω×Ω:=
 if cQ b.1 b.2 (α b.1)=η then
  (if cQ a.1 a.2 (α a.1)=η then(if α b.1=α a.1 then(ψ min b.1 a.1,ψ max b.2 a.2)else([],[]))else b)
 else if cQ a.1 a.2 (α a.1)=η then a else([],[])
def gy(a:Ω):Ω×Ω:=if 1<=α a/\α a<=8 then(a,a)else([],[])
structure gS where
 live:Int
 size:Int
 aR:Ω×Ω
def dW(a:gS)(b:Ω×Bool):gS:=if b.2=η then {a with live:=a.live+1,aR:=cR a.aR (gy b.1)}else a
def eD(b:gS)(a:ao):gS:=⟨b.live+a.live,b.size+a.size,cR b.aR (a.aT,a.aS)⟩
def eJ(a:bY):gS:=a.kids.foldl eD (a.rows.foldl dW ⟨0,α a.rows,([],[])⟩)
def keyOf(a:bY):Ω:=if a.kind=2 then(a.rows.headD ([],ι)).1 else if a.kind=3 then(a.kids.headD az).key else []
def eb(a:ϊ):ϊ:=fm (preB 80 [a])
def fr(a:bY):ao:=⟨eb (cH a),(eJ a).aR.1,(eJ a).aR.2,(eJ a).live,(eJ a).size,keyOf a⟩
def fP(b:Nat)(a:bY):Option ao:=if dV b a=η then(if 1048576<(eJ a).size then ζ else β (fr a))else ζ
def iQ(b:Nat)(a:Rd):(Ω×Bool)×Rd:=(((iq b (nA a).2).1,(nA a).1),(iq b (nA a).2).2)
def hJ(a:Nat)(p:Rd):ao×Rd:=
 let b:=nz p
 let c:=fG 1048576 b.2
 let d:=fG 1048576 c.2
 let h:=iq a d.2
 let k:=iq a h.2
 let o:=iq a k.2
 (⟨b.1,h.1,k.1,(c.1:Int),(d.1:Int),o.1⟩,o.2)
def fH{b:Type}(c:Rd->b×Rd):Nat->Rd->List b->List b×Rd
 |0,a,acc=>(acc,a)
 |d+1,a,acc=>fH c d (c a).2 (acc++[(c a).1])
def nB(a:Nat)(o:ϊ):bY×Rd:=
 let b:=dz ⟨o,0⟩
 let c:=dz b.2
 let d:=fH (iQ a) c.1.toNat c.2 []
 let h:=dz d.2
 let k:=fH (hJ a) h.1.toNat h.2 []
 (⟨b.1,d.1,k.1⟩,pQ k.2)
def oC(a:Nat)(b:ϊ):Option bY:=
 if(nB a b).2.e=0/\dV a (nB a b).1=η/\cH (nB a b).1=b then β (nB a b).1 else ζ
abbrev dk(b:Ω):Prop:=∀a∈b,-9223372036854775808<=a/\a<9223372036854775808
theorem r8(a b:ϊ):dq ⟨a++b,0⟩ (α a)=(β a,⟨b,0⟩):=by unfold dq;simp
def oD(a:UInt8)(b:ϊ):dz ⟨a::b,0⟩=(a,⟨b,0⟩):=by have:=r8 [a] b;rfl
def ZF(a:Nat)(b:a<18446744073709551616):fo (cG a)=a:=by simp only[fo,cG,a7S,a9I,a8p,a8e];omega
theorem ZG(a:Int)(b: -9223372036854775808<=a)(c:a<9223372036854775808):(BitVec.ofNat 64 (cq a)^^^9223372036854775808#64).toInt=a:=by grind[ρ,cq,BitVec.setWidth_eq,BitVec.xor_assoc,BitVec.xor_self,BitVec.xor_zero,BitVec.toInt_ofInt]
def ZH(a:Int)(b:ϊ)(d: -9223372036854775808<=a)(h:a<9223372036854775808):iP ⟨ik a++b,0⟩=(a,⟨b,0⟩):=by have c:=r8 (ik a) b;rw[DF]at c;unfold iP;rw[c];simp only;rw[ik,ZF _ (by exact(ρ 64 a^^^ρ 64 9223372036854775808).isLt),ZG a d h]
theorem DX(a b:ϊ)(c:α a=32):nz ⟨a++b,0⟩=(a,⟨b,0⟩):=by grind[r8,nz]
def ZI(a:Bool)(b:ϊ):nA ⟨(if a=η then(1:UInt8)else 0)::b,0⟩=(a,⟨b,0⟩):=by unfold nA;rw[oD];cases a<;>rfl
theorem uV(a:Nat)(c:a<=1048576)(b:ϊ):fG 1048576 ⟨fp a++b,0⟩=(a,⟨b,0⟩):=by have d:=r8 (fp a) b;grind[kF,fG,fo,fp,UInt8.toNat_ofNat',Nat.shiftRight_eq_div_pow]
def DY:∀(a c:Ω)(b:ϊ),dk a->jV (α a) ⟨a.flatMap ik++b,0⟩ c=(c++a,⟨b,0⟩)
 |[],c,b,_=>by simp[jV]
 |d::a,c,b,h=>by
  have k:=h d ς;rw[a7s,jV,a7P,a7B,ZH d _ k.1 k.2];simp only[if_true];rw[DY a _ b (λo p=>h o (by simp[p]))];simp
def pS(a:Ω)(b:Nat)(c:ϊ)(o:α a<=b)(p:α a<=255)(d:dk a):iq b ⟨dE a++c,0⟩=(a,⟨c,0⟩):=by
 have h:(ν (α a)).toNat=α a:=by rw[a8p];omega
 unfold iq;have k:¬b<α a:=δ;rw[dE,a8A,oD];simp only[h,k,if_false,DY a [] c d];simp
def DZ(a:Ω×Bool)(b:Nat)(c:ϊ)(d:α a.1<=b)(h:α a.1<=255)(k:dk a.1):iQ b ⟨gx a++c,0⟩=(a,⟨c,0⟩):=by unfold iQ;rw[gx,a8A,ZI,pS _ _ _ d h k]
structure ao.In(d:Nat)(k:ao):Prop where
 sum:α k.sum=32
 aT:dk k.aT
 aS:dk k.aS
 key:dk k.key
 nC:α k.aT<=d
 nD:α k.aS<=d
 nE:α k.key<=d
 my:0<=k.live
 live:k.live<=1048576
 mz:0<=k.size
 size:k.size<=1048576
def E0(b:ao)(c:Nat)(x:c<=255)(d:ϊ)(a:b.In c):hJ c ⟨ea b++d,0⟩=(b,⟨d,0⟩):=by have y:=a.live;have h:=a.my;have z:=a.size;have k:=a.mz;have o:=a.nC;have p:=a.nD;have r:=a.nE;unfold hJ;simp only[ea,a7B];rw[DX _ _ a.sum];simp only[];rw[uV _ δ];simp only[];rw[uV _ δ];simp only[];rw[pS _ _ _ o δ a.aT];simp only[];rw[pS _ _ _ p δ a.aS];simp only[];rw[pS _ _ _ r δ a.key];rw[a8V h,a8V k]
def sP{d:Type}(k:Rd->d×Rd)(o:d->ϊ)(p:d->Prop)(r:∀a b,p a->k ⟨o a++b,0⟩=(a,⟨b,0⟩)):∀(c h:List d)(b:ϊ),(∀a∈c,p a)->fH k (α c) ⟨c.flatMap o++b,0⟩ h=(h++c,⟨b,0⟩)
 |[],h,b,_=>by simp[fH]
 |a::c,h,b,x=>by
  rw[a7s,fH,a7P,a7B,r a _ (x a ς)];rw[sP k o p r c _ b (λy z=>x y (by simp[z]))];simp
structure bY.In(d:Nat)(n:bY):Prop where
 ok:dV d n=η
 rows:∀r∈n.rows,dk r.1
 kids:∀k∈n.kids,k.In d
variable{b3:bY}
theorem kG(a:dV e b3=η):(∀b∈b3.rows,α b.1=e)/\α b3.rows<=4/\α b3.kids<=4:=by unfold dV at a;grind
def E1(k:e<=255)(b:b3.In e):oC e (cH b3)=β b3:=by
 obtain⟨o,z,C⟩:=kG b.ok;have p:(ν (α b3.rows)).toNat=α b3.rows:=by rw[a8p];omega
 have r:(ν (α b3.kids)).toNat=α b3.kids:=by rw[a8p];omega
 have x:nB e (cH b3)=(b3,⟨[],0⟩):=by unfold nB cH;simp only[oD,p];rw[sP (iQ e) gx (λa=>α a.1=e/\dk a.1) (λa d c=>DZ a e d δ δ c.2) b3.rows [] _ (λa c=>⟨o a c,b.rows a c⟩)];simp only[oD,r];have:=sP (hJ e) ea (λh=>h.In e) (λh d y=>E0 h e k d y) b3.kids [] [] b.kids;rw[a8t]at this;rw[this];rfl
 unfold oC;rw[x];simp[b.ok]
def uW(a:List ϊ)(b:Nat)(c:ϊ):ϋ:=(ω b).filter λd=>decide (fm (a.getD d [])=c)
def ZJ(a:ϋ):ύ:=a.map λb=>.v (.int .i64 ((b:Nat):Int))
abbrev pT:List (Nat×cb):=[(32,.int .u8)]
theorem oE(a:α w=32):dp pT (w.map aj):=by
 refine⟨by simp[a],λc b=>?_,?_⟩
 .rw[Φ (by simp[a])]at b;obtain⟨d,_,rfl⟩:=a7G.1 b;rfl
 .show List.drop 32 _=[];simp_all
structure PB(k p:U)(r:Nat)(b:List ϊ)(n:Nat)(h:R->Option R):Prop where
 sub:k.sub p
 new:k r=ζ
 val:∀d,α d=32->(uW b n d=[]/\h (br d)=ζ)\/(uW b n d≠[]/\∃a c,h (br d)=β (.J (ZJ (uW b n d)) (.buf a c))/\k a=ζ/\a≠r/\p a=β (.buf 1 (uW b n d).length c))
 inj:∀d o x y a c z,α d=32->α o=32->h (br d)=β (.J x (.buf a c))->h (br o)=β (.J y (.buf a z))->d=o
theorem sQ(a:ϊ)(d:Own)(b:U)(C:α a<=70368744177664):
  AC γ 40 [.J (a.map aj) d] b λk o=>∃h,bj b o 1 (a.map aj) h/\k=.J (a.map aj) h:=by
 refine nr λD=>?_;have p:d=.nil->a=[]:=λE=>by simp_all
 refine bd hm Mf ς ?_;simp -dsimp -implicitDefEqProofs (disch:=first|omega|assumption|(simp only[aW,Nat.reduceAdd];try omega)) only[go_sem,simprocAttr,-List.reduceReplicate,↓oz];refine oA (λc=>by rw[p c];rfl) (λc=>?_) ?_
 .have r:a=[]:=by simpa using c
  subst r;refine ak @a8i ?_;exact⟨b,θ,.nil,Τ θ,rfl⟩
 .refine bU ?_;refine dJ θ (by simp[aY]) λF G x=>?_;refine bU ?_;refine nn (w:=[]) x Μ λy z L=>?_;refine ak @a7H.{0} ?_;exact⟨z,θ,y,by trivial,rfl⟩
def ZK(a b:ϊ)(d h:Own)(c:U):
  AC γ 42 [.J (a.map aj) d,.J (b.map aj) h] c λk o=>o=c/\k=.v (.bool (decide (a=b))):=by
 refine bd hm Mj ς ?_;have p:np (.J (a.map aj) d)=β (bo a):=pG;have r:np (.J (b.map aj) h)=β (bo b):=pG;refine ak (aE @p @r @qW) ?_;exact⟨c,θ,rfl⟩
def ZL(a:ϊ)(b:Own)(c:U)(C:α a<=1000000000000):
  AC γ 87 [.J (a.map aj) b] c λh k=>∃d,bj c k 1 ((preB 80 [a]).map aj) d/\h=.J ((preB 80 [a]).map aj) d:=by
 refine bd hm NL ς ?_;refine bU ?_;refine dJ θ (by simp[aY,σ]) λo p r=>?_;refine bU ?_;refine ah (Zc 80 [(a,b)] o (by simp[preB,chunk,cG];omega) p) ?_;rintro _ x⟨y,z,rfl⟩;refine bU ?_;exact⟨x,θ,y,z.base r.sub,rfl⟩
def oF(a:ϊ):(eb a).length=32:=sI _
def E2(a:ϊ)(d:Own)(c:U)(p:α a<=1000000000000):
  AC γ 41 [.J (a.map aj) d] c λr x=>x=c/\r=br (eb a):=by
 refine bd hm Mh ς ?_;refine bU ?_;refine aN λE h=>?_;refine bU ?_;refine ah (ZL a d _ p) ?_;rintro _ F⟨y,k,rfl⟩;have z:=k.sub _ _ (ξ _ _ _);refine bU ?_;refine ah (Zh _ y (by simp[preB,chunk,cG];omega) _) ?_;rintro _ _⟨rfl,rfl⟩;have o:(fm (preB 80 [a])).length=32:=oF a;have C:∀b,(br b).cells=b.map aj:=λ_=>rfl;rw[show eb a=fm (preB 80 [a])from rfl];generalize fm (preB 80 [a])=b at*;have D:(b.map aj).length=32:=by simp[o]
 refine ak (aL @C @D @o (χ z)) ?_;refine⟨c,μ (π (μ θ h) k.sub) h,rfl,?_⟩;rw[Φ δ];rfl
structure af where
 m:ϊ->Option ϊ
 a:ϊ
 b:ϊ
 one:Bool
def af.new:af:=⟨λ_=>ζ,[],[],ι⟩
def dA(c:af)(b:ϊ):af:=
 match c.m (eb b)with
 |none=> {c with m:=λd=>if d=eb b then β b else c.m d}
 |some h=>if c.one=ι/\h≠b then {c with a:=h,b:=b,one:=η}else c
abbrev E3(b:Nat)(a:af)(c d:Own):ύ:=[.ff b,.J (a.a.map aj) c,.J (a.b.map aj) d,.v (.bool a.one)]
structure bq(h:U)(l k:Nat)(a:af):Prop where
 at_:∃hK cT,h l=β (.cells (E3 k a hK cT))
 mp:∃c,nq h k pT c/\∀d,α d=32->match a.m d with
  |none=>c (br d)=ζ
  |some b=>α b<=1000000000000/\∃o,c (br d)=β (.J (b.map aj) o)
 r9:α a.a<=1000000000000
 ra:α a.b<=1000000000000
def Ext(c d:Nat)(h k:U):Prop:=∀a b,a≠c->a≠d->h a=β b->k a=β b
def Ext.refl:Ext e i f f:=λ_ _ _ _ a=>a
theorem Ext.of{l lM:Nat}{s:U}(a:s.sub f):Ext l lM s f:=λb c _ _ d=>a b c d
theorem Ext.trans(h:Ext e i f s)(k:Ext e i s e0):Ext e i f e0:=λa b c d o=>k a b c d (h a b c d o)
variable{B:af}
def bq.ne(a:bq f e i B):e≠i:=by obtain⟨d,h,c⟩:=a.at_;obtain⟨k,⟨o,p,b,_⟩,_⟩:=a.mp;rintro rfl;rw[c]at b;cases b
def bq.mono(a:bq f e i B)(b:f.sub s):bq s e i B:=by obtain⟨c,d,h⟩:=a.at_;obtain⟨k,⟨o,p,r,x⟩,y⟩:=a.mp;exact⟨⟨c,d,b _ _ h⟩,⟨k,⟨o,p,b _ _ r,x⟩,y⟩,a.r9,a.ra⟩
def bq.other(a:bq f e i B)(b:s e=f e)(c:s i=f i):bq s e i B:=by obtain⟨d,h,k⟩:=a.at_;obtain⟨o,⟨p,r,x,y⟩,z⟩:=a.mp;exact⟨⟨d,h,by rw[b];exact k⟩,⟨o,⟨p,r,by rw[c];exact x,y⟩,z⟩,a.r9,a.ra⟩
def ZM:(R.ff e).cells=[.ff e]:=rfl
def uX(b:U):AC γ 18 [] b λE k=>∃a c,b a=ζ/\b c=ζ/\E=.ptr a 0/\bq k a c af.new/\b.sub k:=by
 refine bd hm Lz ς ?_;refine bU ?_;refine aN λc o=>?_;have F:∀G p r h x:R,putAt [G,p,r,h] 0 [x]=[x,p,r,h]:=λ_ _ _ _ _=>rfl;have y:∀z,(R.agg z).cells=z:=λ_=>rfl;refine ak (aE @ZM @F @y) ?_;refine aN λa d=>?_;refine ak @y ?_;have C:a≠c:=by rintro rfl;rw[ξ]at d;cases d
 have D:b a=none:=by rw[ο _ _ C]at d;exact d
 refine⟨_,θ,a,c,D,o,rfl,⟨⟨.nil,.nil,by rw[ξ];rfl⟩,⟨_,⟨[],0,by rw[ο _ _ (Ι C),ξ],kC.new⟩,λh _=>rfl⟩,by trivial,by trivial⟩,μ (μ θ o) D⟩
def iR:(br w).cells=w.map aj:=rfl
def y7(d:U)(z C:Nat)(h:af)(F:bq d z C h)(a:ϊ)(k:α a=32):
  AC γ 19 [.ptr z 0,br a] d λD G=>d.sub G/\match h.m a with
   |none=>D=.aJ [.J [] .nil,.v (.int .i64 9)]
   |some o=>∃p,D=.aJ [.J (o.map aj) p,.v (.int .i64 0)]:=by
 obtain⟨⟨s,t,L⟩,⟨c,P,b⟩,_,_⟩:=F;have b:=b a k;have r:(a.map aj).length=32:=by simp[k]
 refine bd hm LB ς ?_;refine ak (c2 @iR @r) ?_;refine aN λS T=>?_;have x:=μ (Y:=.cells (a.map aj)) (θ) T;have V:nq (d.set S (.cells (a.map aj))) C pT c:=by obtain⟨W,e,f,g⟩:=P;exact⟨W,e,x _ _ f,g⟩
 have i:=x _ _ L;have j:aM η 32 (a.map aj)=br a:=by rw[aM,if_pos rfl,Φ δ];rfl
 refine ak (bh @iR @r @k (κ i) @j) ?_;refine uy V (oE k) (λv y=>?_) (λE=>?_)
 .cases hm:h.m a with
  |none=>rw[hm]at b;rw[show c (.agg (a.map aj))=c (br a)from rfl,b]at y;cases y
  |some o=>rw[hm]at b;obtain⟨l,p,b⟩:=b;rw[show c (.agg (a.map aj))=c (br a)from rfl,b]at y;obtain rfl:=Δ y;refine ak (c2 @iR @r) ?_;refine ah (sQ o p _ δ) ?_;rintro _ m⟨n,q,rfl⟩;refine bU ?_;exact⟨m,θ,π x q.sub,n,rfl⟩
 .cases hm:h.m a with
  |none=>refine ak (c2 @iR @r) ?_;exact⟨_,θ,x⟩
  |some o=>rw[hm]at b;obtain⟨l,p,b⟩:=b;rw[show c (.agg (a.map aj))=c (br a)from rfl,b]at E;cases E
def ZN(b:U)(k y:Nat)(a:af)(c:bq b k y a):
  AC γ 29 [.ptr k 0] b λz C=>b.sub C/\∃d h,z=.aJ [.J (a.a.map aj) d,.J (a.b.map aj) h,.v (.bool a.one)]:=by
 have L:=c.r9;have P:=c.ra;obtain⟨d,h,o⟩:=c.at_;refine bd hm LS ς ?_;refine ak (κ o) ?_;refine ah (sQ a.a d _ δ) ?_;rintro _ S⟨D,p,rfl⟩;have r:=p.sub _ _ o;refine ak (κ r) ?_;refine ah (sQ a.b h _ δ) ?_;rintro _ E⟨F,x,rfl⟩;have G:=x.sub _ _ r;refine ak (κ G) ?_;exact⟨E,θ,π p.sub x.sub,D,F,rfl⟩
theorem uY(C:U)(k d:Nat)(h:af)(G:bq C k d h)(b:ϊ)(V:Own)(Q:α b<=1000000000000):
  AC γ 20 [.ptr k 0,.J (b.map aj) V] C λl9 L=>l9=br (eb b)/\bq L k d (dA h b)/\Ext k d C L:=by
 have k8:=G.ne;refine bd hm LD ς ?_;refine bU ?_;refine aN λD i=>?_;have u:=μ (Y:=.cells (ε 32 (.v (.int .u8 0)))) (θ) i;have aL:(C.set D (.cells (ε 32 (.v (.int .u8 0))))) D= _:=ξ _ _ _;refine bU ?_;generalize C.set D (.cells (ε 32 (.v (.int .u8 0))))=a08 at*;refine ah (E2 b V _ Q) ?_;rintro _ X⟨rfl,rfl⟩;refine bU ?_;refine aN λW e=>?_;have a09:D≠W:=by rintro rfl;rw[aL]at e;cases e
 have o:=oF b;have n0:∀c,dA h b=dA h b->c=eb b->α c=32:=λc _ y=>by rw[y];exact o
 generalize Y:eb b=c at*;have x:(c.map aj).length=32:=by simp[o]
 have j:putAt (ε 32 (R.v (.int .u8 0))) 0 (c.map aj)=c.map aj:=by rw[putAt,a9m,a7H,x,a8b ς,a8t]
 refine ak (bh @iR @x @o @j @τ) ?_;have Z:=μ (Y:=.cells (c.map aj)) (θ) e;have bh:(X.set W (.cells (c.map aj))) W= _:=ξ _ _ _;have k9:=Z _ _ aL;have l0:=G.mono (π u Z);have l1:Ext k d C (X.set W (.cells (c.map aj))):=Ext.of (π u Z);have n1:D≠k:=by rintro rfl;obtain⟨_,_,y⟩:=G.at_;rw[y]at i;cases i
 have n2:W≠k:=by rintro rfl;obtain⟨_,_,y⟩:=G.at_;rw[u _ _ y]at e;cases e
 have l2:D≠d:=by rintro rfl;obtain⟨_,⟨_,_,y,_⟩,_⟩:=G.mp;rw[y]at i;cases i
 have n3:W≠d:=by rintro rfl;obtain⟨_,⟨_,_,y,_⟩,_⟩:=G.mp;rw[u _ _ y]at e;cases e
 obtain⟨l3,l,n⟩:=l0.at_;obtain⟨P,w,j9⟩:=l0.mp;have E:=j9 c o;have F:aM η 32 (c.map aj)=br c:=by rw[aM,if_pos rfl,Φ δ];rfl
 clear n0;have l4:∀L:U,bq L k d (dA h b)->Ext k d C L->bq (L.set D (.cells (c.map aj))) k d (dA h b)/\Ext k d C (L.set D (.cells (c.map aj))):=by
  intro L n4 n5;refine⟨n4.other (ο _ _ (Ι n1)) (ο _ _ (Ι l2)),λp V n r S=>?_⟩;have n9:p≠D:=by rintro rfl;rw[i]at S;cases S
  rw[ο _ _ n9];exact n5 p V n r S
 have f:X k=β (.cells (E3 d h l3 l)):=by rw[ο _ _ (Ι n2)]at n;exact n
 refine ak (bz @iR @x @o (κ f) (κ bh) @F) ?_;refine uy w (oE o) (λv A=>?_) (λl5=>?_)
 .cases hm:h.m c with
  |none=>rw[hm]at E;rw[show P (.agg (c.map aj))=P (br c)from rfl,E]at A;cases A
  |some q=>
   rw[hm]at E;obtain⟨l6,B,E⟩:=E;rw[show P (.agg (c.map aj))=P (br c)from rfl,E]at A;obtain rfl:=Δ A;have g:dA h b=if h.one=ι/\q≠b then {h with a:=q,b:=b,one:=η}else h:=by unfold dA;rw[Y,hm]
   refine ak (bz @iR @x @o (κ f) (κ bh) @F) ?_;cases s:h.one with
   |true=>refine ak (cO @iR @x @o (κ f) (κ bh) (χ aL) @F @j @s) ?_;rw[s]at g;rw[if_neg ς]at g;grind[θ]
   |false=>
    refine ak (c7 @iR @x @o (κ f) (κ bh) @F @s) ?_;refine ah (ZK q b B V _) ?_;rintro _ _⟨rfl,rfl⟩;by_cases H:q=b
    .refine ak (cg @iR @x @o (κ f) (κ bh) (χ aL) @F @j @s @H) ?_;rw[if_neg (by simp[H])]at g;grind[θ]
    .refine ak (cg @iR @x @o (κ f) (κ bh) (χ aL) @F @j @s @H) ?_;rw[if_pos ⟨s,H⟩]at g;refine ah (sQ b V _ δ) ?_;rintro _ T⟨I,r,rfl⟩;have K:=r.sub _ _ n;have M:=r.sub _ _ k9;have t:=r.sub _ _ bh;have l7:=w;have a00:∀a b z c p:R,putAt [a,b,z,c] 1 [p]=[a,p,z,c]:=λ_ _ _ _ _=>rfl;have a01:∀a b z c p:R,putAt [a,b,z,c] 2 [p]=[a,b,p,c]:=λ_ _ _ _ _=>rfl;have a02:∀a b z c p:R,putAt [a,b,z,c] 3 [p]=[a,b,z,p]:=λ_ _ _ _ _=>rfl;refine ak (gq @iR @x @o (χ K) (κ t) (χ M) @F @j @a00 @a01 @a02 @τ) ?_;have a03:∀k0,k0=bu.cells [.ff d,.J (q.map aj) B,.J (b.map aj) I,.v (.bool η)]->bq (T.set k k0) k d (dA h b)/\Ext k d C (T.set k k0):=by rintro _ rfl;obtain⟨k1,z,k2,k3⟩:=w;rw[g];refine⟨⟨⟨B,I,ξ _ _ _⟩,⟨P,⟨k1,z,by rw[ο _ _ (Ι k8)];exact r.sub _ _ k2,k3⟩,j9⟩,l6,Q⟩,λp l S N k4=>?_⟩;rw[ο _ _ S];exact r.sub _ _ (l1 p l S N k4)
     obtain⟨k5,k6⟩:=a03 _ rfl;exact⟨_,θ,l4 _ k5 k6⟩
 .cases hm:h.m c with
  |some q=>rw[hm]at E;obtain⟨l6,B,E⟩:=E;rw[show P (.agg (c.map aj))=P (br c)from rfl,E]at l5;cases l5
  |none=>
   have g:dA h b= {h with m:=λc=>if c=eb b then β b else h.m c}:=by unfold dA;rw[Y,hm]
   refine ak (bz @iR @x @o (κ f) (κ bh) @F) ?_;refine ah (sQ b V _ δ) ?_;rintro _ T⟨I,r,rfl⟩;have K:=r.sub _ _ n;have M:=r.sub _ _ k9;have t:=r.sub _ _ bh;have l7:nq T d pT P:=by obtain⟨k1,z,k2,k3⟩:=w;exact⟨k1,z,r.sub _ _ k2,k3⟩
   refine ak (bz @iR @x @o (κ K) (κ t) @F) ?_;refine D7 l7 (oE o) λO a04=>?_;have a05:(T.set d O) W=β (.cells (c.map aj)):=by rw[ο _ _ n3];exact t
   have a06:(T.set d O) D=β (.cells (ε 32 (.v (.int .u8 0)))):=by rw[ο _ _ l2];exact M
   refine ak (cO @iR @x @o (κ t) (κ a05) (χ M) (χ a06) @F @j) ?_;have k5:bq (T.set d O) k d (dA h b):=by
    rw[g];refine⟨⟨l3,l,by rw[ο _ _ k8];exact K⟩,⟨_,a04,λl8 a07=>?_⟩,G.r9,G.ra⟩;simp only[Y];by_cases k7:l8=c
    .subst k7;rw[if_pos rfl];exact⟨Q,I,sy⟩
    .rw[if_neg k7];rw[show(R.agg (c.map aj))=br c from rfl,pF (λy=>k7 (uQ y))];exact j9 l8 a07
   have k6:Ext k d C (T.set d O):=λp l S N k4=>by
    rw[ο _ _ N];exact r.sub _ _ (l1 p l S N k4)
   exact⟨_,θ,l4 _ k5 k6⟩
structure eg(a b:U)(h c:Nat)(l:List ϊ):Prop where
 cT:∃o,b h=β (.cells [.J (l.map br) o,.ff c])/\bj a b 32 (l.map br) o
 new:a h=ζ/\a c=ζ
 mp:∃k,nq b c pT k/\∀d,α d=32->k (br d)=if d∈l then β (.v (.bool η))else ζ
 len:∀d∈l,α d=32
def E4:U.emp.sub f:=λ_ _ a=>by cases a
def js(b c:Nat)(d:U):U:=λa=>if a=b\/a=c then ζ else match d a with
 |some (.buf _ _ _)=>ζ
 |h=>h
abbrev dh(a b:Nat)(c d:U):Prop:=(js a b c).sub d
def uZ:(js e i f).sub f:=λb c a=>by
 unfold js at a;split at a
 .cases a
 .split at a
  .cases a
  .exact a
def y8(a:f e=β Y)(o:e≠i)(p:e≠v)(b:∀c d h,Y≠.buf c d h):js i v f e=β Y:=by
 unfold js;rw[if_neg δ,a];split
 .rename_i k;exact absurd (Δ k) (b _ _ _)
 .rfl
def rb(a:f e=β (.cells g))(b:e≠i)(c:e≠v):js i v f e=β (.cells g):=y8 a b c λ_ _ _ d=>by cases d
theorem dh.of{X:Nat}{s:U}(a:s.sub f):dh X e s f:=π uZ a
theorem dh.trans(d:dh e i s e0)(h:dh e i e0 f):dh e i s f:=λb c a=>by
 refine h b c (y8 (d b c a) ?_ ?_ ?_)
 .rintro rfl;simp[js]at a
 .rintro rfl;simp[js]at a
 .rintro o p f rfl;unfold js at a;split at a
  .cases a
  .split at a
   .cases a
   .rename_i k;exact k _ _ _ a
def eg.sub{b c:U}{d h:Nat}{k:List ϊ}(a:eg b c d h k):b.sub c:=by obtain⟨o,_,a⟩:=a.cT;exact a.1
variable{e4:List ϊ}
def eg.ne(a:eg f s e i e4):e≠i:=by obtain⟨d,c,_⟩:=a.cT;obtain⟨h,⟨k,o,b,_⟩,_⟩:=a.mp;rintro rfl;rw[c]at b;cases b
def eg.mono{c d h:U}{k o:Nat}{p:List ϊ}(a:eg c d k o p)(b:d.sub h):eg c h k o p:=by obtain⟨r,x,y⟩:=a.cT;obtain⟨z,⟨C,D,E,F⟩,G⟩:=a.mp;exact⟨⟨r,b _ _ x,y.mono b⟩,a.new,⟨z,⟨C,D,b _ _ E,F⟩,G⟩,a.len⟩
theorem bq.fl(a:bq f v M B)(d:eg e0 f e i e4)(h:dh e i f s)(p:M≠i):bq s v M B:=by
 obtain⟨r,x,c⟩:=a.at_;obtain⟨y,⟨z,C,k,D⟩,E⟩:=a.mp;obtain⟨P,b,_⟩:=d.cT;obtain⟨_,⟨_,_,o,_⟩,_⟩:=d.mp;have F:v≠e:=by rintro rfl;rw[c]at b;cases b
 have G:v≠i:=by rintro rfl;rw[c]at o;cases o
 have a3:M≠e:=by rintro rfl;rw[k]at b;cases b
 exact⟨⟨r,x,h _ _ (rb c F G)⟩,⟨y,⟨z,C,h _ _ (y8 k a3 p λ_ _ _ L=>by cases L),D⟩,E⟩,a.r9,a.ra⟩
def E5{h:bu}(b:bj f s i g N)(k:f e=ζ)(c:s e=β Y)(o:∀p d,Y≠.buf i p d):bj f (s.set e h) i g N:=by
 refine⟨μ b.1 k,?_⟩;have a:=b.2;cases N with
 |buf r d=>
  have:r≠e:=by rintro rfl;rw[a.2]at c;exact o _ _ (Δ c).symm
  exact⟨a.1,by rw[ο _ _ this];exact a.2⟩
 |_=>exact a
def y9(b:U):AC γ 30 [] b λy z=>∃a c,b a=ζ/\b c=ζ/\y=.ptr a 0/\eg b z a c []:=by
 have F:∀o:Nat,(R.ff o).cells=[.ff o]:=λ_=>rfl;have G:∀p C r:R,putAt [p,C] 1 [r]=[p,r]:=λ_ _ _=>rfl;refine aK hm LV ?_;refine aN λc h=>?_;refine aa ?_;refine aN λa d=>?_;have x:a≠c:=by rintro rfl;rw[ξ]at d;cases d
 have k:b a=none:=by rw[ο _ _ x]at d;exact d
 refine aa ?_;refine⟨_,θ,a,c,k,h,rfl,⟨.nil,ξ _ _ _,Τ (μ (μ θ h) k)⟩,⟨k,h⟩,⟨_,⟨[],0,by rw[ο _ _ x.symm,ξ],kC.new⟩,λD _=>rfl⟩,λD E=>by cases E⟩
def cX(a:List ϊ)(b:ϊ):List ϊ:=if b∈a then a else a++[b]
def E6(g C:U)(D b:Nat)(c:List ϊ)(y:eg g C D b c)(a:ϊ)(L:α a=32)(n0:α c<=1000000000):
  AC γ 70 [.ptr D 0,br a] C λk0 t=>dh D b C t/\eg g t D b (cX c a)/\k0=.v (.bool (decide (a∉c))):=by
 have u:=y.ne;have k1:=y;obtain⟨⟨w,k2,k3⟩,⟨A,B⟩,⟨E,H,I⟩,K⟩:=y;have M:=I a L;have k4:(a.map aj).length=32:=by simp[L]
 have d:aM η 32 (a.map aj)=br a:=by rw[aM,if_pos rfl,Φ δ];rfl
 have k5:(br a).cells=a.map aj:=rfl;refine aK hm Nb ?_;refine aN λT i=>?_;rw[k5];have aE:=ξ C T (.cells (a.map aj));have F:=μ (Y:=.cells (a.map aj)) (θ (f:=C)) i;have k6:T≠b:=by obtain⟨P,k,p,_⟩:=H;rintro rfl;rw[p]at i;cases i
 generalize C.set T _=z at*;have N:=F _ _ k2;have eP:=κ N;have k7:=κ aE;have j:nq z b pT E:=by obtain⟨P,k,p,S⟩:=H;exact⟨P,k,F _ _ p,S⟩
 refine aa ?_;refine uy j (oE L) (λv r=>?_) (λr=>?_)
 .rw[show E (.agg (a.map aj))=E (br a)from rfl,M]at r;by_cases G:a∈c
  .rw[if_pos G]at r;obtain rfl:=Δ r;refine aa ?_;exact⟨_,θ,dh.of F,by rw[cX,if_pos G];exact k1.mono F⟩
  .rw[if_neg G]at r;cases r
 .rw[show E (.agg (a.map aj))=E (br a)from rfl,M]at r;by_cases G:a∈c
  .rw[if_pos G]at r;cases r
  refine aa ?_;refine D7 j (oE L) λaA k8=>?_;have O:bj g (z.set b aA) 32 (c.map br) w:=by obtain⟨P,k,p,_⟩:=j;exact E5 (k3.mono F) B p λ_ _ d=>by cases d
  have Q:(z.set b aA) D=β (.cells [.J (c.map br) w,.ff b]):=by rw[ο _ _ u];exact N
  have c2:(z.set b aA) T=β (.cells (a.map aj)):=by rw[ο _ _ k6];exact aE
  have k9:∀h o,h≠b->z h=β o->(z.set b aA) h=β o:=λh o l V=>by rw[ο _ _ l];exact V
  generalize z.set b aA=l0 at*;have eP:=κ Q;have k7:=κ c2;obtain⟨l1,l2,n1,l3,l4⟩:=O.nv;have m:∀h o,(∀W e k,o≠.buf W e k)->l0 h=β o->l1 h=β o:=λh o l V=>by
   rw[l4 h (λn2 k d=>by rintro rfl;subst d;have:=O.2.2;rw[V]at this;exact l _ _ _ (Δ this))];exact V
  have n3:(br a).cells.length=32:=k4;have n4:(c.map br).length=α c:=a7w _;refine aa ?_;refine hG l2 (λX n=>by obtain⟨Y,l5,rfl⟩:=a7G.1 n;show(Y.map aj).length=32;simp[K Y l5]) λ_ l6 n5 f _=>?_;have q:=f.sub _ _ (m _ _ (λ_ _ _ d=>by cases d) Q);have eP:=κ q;have n9:=χ q;refine aa ?_;have Z:c.map br++[br a]=(c++[a]).map br:=ς;refine⟨_,θ,λh o x=>?_,?_⟩
  .have p:h≠D:=by rintro rfl;simp[js]at x
   have S:h≠b:=by rintro rfl;simp[js]at x
   have l7:∀W e k,o≠.buf W e k:=by
    rintro W e k rfl;unfold js at x;split at x
    .cases x
    .split at x
     .cases x
     .rename_i l8;exact l8 _ _ _ x
   rw[ο _ _ p];exact f.sub _ _ (m _ _ l7 (k9 _ _ S (F _ _ (uZ _ _ x))))
  .rw[cX,if_neg G];refine⟨⟨l6,by rw[ξ,<-Z],?_⟩,⟨A,B⟩,⟨jq E (br a) (.v (.bool η)),?_,λj9 l9=>?_⟩,λX n=>?_⟩
   .rw[<-Z];exact E5 (f.base l3) A q λ_ _ d=>by cases d
   .obtain⟨P,k,p,S⟩:=k8;exact⟨P,k,by rw[ο _ _ u.symm];exact f.sub _ _ (m _ _ (λ_ _ _ d=>by cases d) p),S⟩
   .by_cases s:j9=a
    .subst s;rw[sy,if_pos ς]
    .rw[pF (λd=>s (uQ d)),I j9 l9];simp[s]
   .rcases a7z.1 n with y|y
    .exact K X y
    .obtain rfl:=a7I.1 y;exact L
def ya:ad (q++b7)=ad q++ad b7:=by simp[ad]
def gz{v:Int}(a:q[e]?=β v):cz 1 (.J (ad q) N) (.v (.int .i64 (e:Int)))=β (.bS [.v (.int .i64 v)]):=by
 have b:(0)<=(e:Int):=δ;have c:(ad q)[e]?=β (.v (.int .i64 v)):=by simp[ad,a]
 simp only[cz,b,if_true,a7L,c];rw[hC (e:=1) rfl];rfl
def oG{v:Int}:cW ι 1 f (.bS [.v (.int .i64 v)])=β (.v (.int .i64 v)):=rfl
theorem ZO:bW f 1 (.J (ad q) N)=β (α q,ad q):=by
 have a:((ad q).all λb=>decide (α b.cells=1))=true:=by simp[ad,σ]
 have c:flat (ad q)=ad q:=by induction q with
  |nil=>rfl
  |cons d q ih=>grind[ad,flat,σ]
 simp[bW,a,c,bN]
theorem yb(a:Ω)(h:Own)(c:U)(r:α a<=1000000000000):
  AC γ 204 [.J (ad a) h] c λk d=>av c d 1 (ad a) k:=by
 refine nr λx=>?_;have o:h=.nil->a=[]:=λy=>by simp_all [ad]
 refine bd hm R7 ς ?_;simp -dsimp -implicitDefEqProofs (disch:=first|omega|assumption|(simp only[aW,Nat.reduceAdd];try omega)) only[go_sem,simprocAttr,-List.reduceReplicate,↓oz];refine oA (λb=>by rw[o b];rfl) (λb=>?_) ?_
 .have p:a=[]:=by simpa[ad] using b
  subst p;refine aa ?_;exact⟨c,θ,av.nil θ⟩
 .refine ak @oo ?_;refine fj (av.zero (θ)) δ ZO (by rw[bN];omega) (by simp[bN];omega) (by simp[bN];omega) λk d b=>?_;refine aa ?_;exact⟨d,θ,by trivial⟩
theorem sR(b:av f s 1 (ad q) n):∃a,f.sub a/\View s n a (.J (ad q) .any):=by grind[View.dK,mr,Ε]
theorem sS(a:Ω)(c:Own)(b:U)(k:α a<=1000000000000):
  AC γ 204 [.J (ad a) c] b λd h=>b.sub h/\d=.J (ad a) .any:=
 (yb a c b k).view λd h o=>by
  obtain⟨p,r,x⟩:=sR o;grind
theorem kH(a c:Ω)(G L:Own)(h:U)(l:α a<=1000000000000):
  AC γ 48 [.J (ad a) G,.J (ad c) L] h λp r=>r=h/\p=.v (.bool (decide (a=c))):=by
 refine bd hm Mv ς ?_;have V:=bN (q:=a);have W:=bN (q:=c);by_cases m:α a=α c
 .have x:(α a:Int)=α c:=δ;refine aa ?_;rw[<-x];refine cm (λd r=>∃b:Nat,b<=α a/\r=h/\d 0=.J (ad a) G/\d 1=.J (ad c) L/\d 12=.v (.int .i64 (α a))/\d 13=.v (.int .i64 b)/\a.take b=c.take b)
   (λd _=>match d 13 with|.v (.int _ e)=>(α a - e).toNat|_=>0) ⟨0,δ,rfl,?_⟩ ?_
  .exact aO
  .rintro d n⟨b,q,rfl,y,z,C,D,f⟩;by_cases E:(b:Int)<α a
   .have k:a[b]?=β a[b]:=Ρ δ;have o:c[b]?=β c[b]:=Ρ δ;have P:a.take (b+1)=a.take b++[a[b]]:=by rw[a8r,k];rfl
    have S:c.take (b+1)=c.take b++[c[b]]:=by rw[a8r,o];rfl
    have T:a[b]'δ≠c[b]'δ->a≠c:=λg i=>g (by simp[i]);generalize a[b]'δ=p at k P T;generalize c[b]'δ=j at o S T;by_cases F:p=j
    .simp -dsimp -implicitDefEqProofs (disch:=first|omega|assumption|(simp only[aW,Nat.reduceAdd];try omega)) only[go_sem,simprocAttr,-List.reduceReplicate,y,z,C,D,E,gz k,gz o,oG,F];exact⟨⟨b+1,δ,ς,by rw[P,S,f,F]⟩,δ⟩
    .simp -dsimp -implicitDefEqProofs (disch:=first|omega|assumption|(simp only[aW,Nat.reduceAdd];try omega)) only[go_sem,simprocAttr,-List.reduceReplicate,y,z,C,D,E,gz k,gz o,oG,F];grind[θ]
   .obtain rfl:b=α a:=δ;refine ak (bh @y @z @C @D @E) ?_;grind[List.take_length,θ]
 .have x:¬(α a:Int)=α c:=δ;refine ak (aE @V @W @x) ?_;have:a≠c:=by rintro rfl;omega
  exact⟨h,θ,by simp[this]⟩
abbrev eU(a b:Ω)(c d:Own):R:=.agg [.J (ad a) c,.J (ad b) d]
theorem yc(b:Nat)(k:FuncId)(p r:ύ)(d:U)(o:Nat->Bool)(S:b<=1000000000000)(F:fA γ k=η)
  (G:∀a:Nat,a<b->AC γ k (p++[.v (.int .i64 (a:Int))]++r) d λx h=>h=d/\x=.v (.bool (o a))):
  AC γ 289 [.v (.int .i64 (b:Int)),.bG k p r] d λx h=>h=d/\x=.v (.bool ((ω b).all o)):=by
 refine bd hm Tm ς ?_;refine aa ?_;refine cm (λc h=>∃a:Nat,a<=b/\h=d/\(ω a).all o=η/\c 0=.v (.int .i64 (b))/\c 1=.bG k p r/\c 6=.v (.int .i64 (b))/\c 7=.v (.int .i64 (a)))
  (λc _=>match c 7 with|.v (.int _ L)=>b - L.toNat|_=>0) ⟨0,δ,rfl,rfl,?_⟩ ?_
 .exact aO
 rintro c T⟨a,V,rfl,P,y,z,C,D⟩;by_cases E:(a:Int)<b
 .refine aa ?_;refine eR F (G a δ) ?_;rintro _ _⟨rfl,rfl⟩;cases W:o a with
  |true=>refine aa ?_;grind
  |false=>refine ak (bz @y @z @C @D @E @a8i) ?_;refine⟨_,θ,rfl,?_⟩;grind
 .obtain rfl:a=b:=δ;simp -dsimp -implicitDefEqProofs (disch:=first|omega|assumption|(simp only[aW,Nat.reduceAdd];try omega)) only[go_sem,simprocAttr,-List.reduceReplicate,y,z,C,D,E];exact⟨_,θ,rfl,by rw[P]⟩
theorem ZP(d:U)(h:Nat)(b c:Ω)(p r:Own)(a:Nat)(x:d.read h=β [.J (ad b) p,.J (ad c) r])(C:a<α b)(D:a<α c):
  AC γ 290 [.v (.int .i64 (a:Int)),.ptr h 0] d λy z=>z=d/\y=.v (.bool (decide (b.getD a 0<=c.getD a 0))):=by
 refine bd hm To ς ?_;have k:b[a]?=β (b.getD a 0):=by simp_all
 have o:c[a]?=β (c.getD a 0):=by simp_all
 generalize b.getD a 0=E at k;generalize c.getD a 0=F at o;simp -dsimp -implicitDefEqProofs (disch:=first|omega|assumption|(simp only[aW,Nat.reduceAdd];try omega)) only[go_sem,simprocAttr,-List.reduceReplicate,x,gz k,gz o,oG];exact⟨d,θ,rfl⟩
theorem oH(d:U)(b c:Ω)(o p:Own)(a:Nat)(D:a<=1000000000000):
  AC γ 243 [eU b c o p,.v (.int .i64 (a:Int))] d λE F=>F=d/\E=.v (.bool (cQ b c a)):=by
 refine bd hm Sd ς ?_;have r:=bN (q:=b);have G:=bN (q:=c);refine aa ?_;refine aN λL h=>?_;unfold cQ;by_cases c1:(a:Int)<1
 .have x:¬1<=a:=δ;refine ak (c2 @c1 @x) ?_;exact⟨d,μ θ h,by rfl⟩
 have x:1<=a:=δ;by_cases c2:(8:Int)<a
 .have y:¬a<=8:=δ;simp -dsimp -implicitDefEqProofs (disch:=first|omega|assumption|(simp only[aW,Nat.reduceAdd];try omega)) only[go_sem,simprocAttr,-List.reduceReplicate,c1,c2];exact⟨d,μ θ h,by simp[y]⟩
 have y:a<=8:=δ;by_cases aE:(α b:Int)=a
 .have z:α b=a:=δ;by_cases aL:(α c:Int)=a
  .have C:α c=a:=δ;refine aa ?_;refine ah (yc a _ _ _ _ (λk=>decide (b.getD k 0<=c.getD k 0)) D abH λk P=>ZP _ L b c o p k ?_ δ δ) ?_
   .simp[U.read,ξ]
   rintro _ _⟨rfl,rfl⟩;refine bU ?_;exact⟨d,μ θ h,rfl,by simp_all⟩
  .have C:¬α c=a:=δ;refine ak (bz @c1 @c2 @aE @aL @r @G) ?_;exact⟨d,μ θ h,by simp[C]⟩
 .have z:¬α b=a:=δ;refine ak (aL @c1 @c2 @aE @r) ?_;exact⟨d,μ θ h,by simp[z]⟩
def ZQ(y:U)(a:Ω)(h:Own)(z:α a<=1000000000000):
  AC γ 203 [.J (ad a) h] y λk L=>y.sub L/\∃P S,k=eU (gy a).1 (gy a).2 P S:=by
 refine bd hm R5 ς ?_;have C:=bN (q:=a);refine aa ?_;refine aN λf o=>?_;unfold gy;have p:∀b c d D:R,putAt [b,c] 0 [d,D]=[d,D]:=λ_ _ _ _=>rfl;have r:∀E,(R.agg E).cells=E:=λ_=>rfl;have x:∀b c,aM η 2 [b,c]=.agg [b,c]:=λ_ _=>rfl;by_cases c1:(α a:Int)<1
 .refine ak (bh @c1 @C @p @r @x) ?_;rw[if_neg δ];exact⟨_,θ,μ θ o,.nil,.nil,rfl⟩
 by_cases c2:(8:Int)<α a
 .refine ak (bz @c1 @c2 @C @p @r @x) ?_;rw[if_neg δ];exact⟨_,θ,μ θ o,.nil,.nil,rfl⟩
 refine aa ?_;refine ah (sS a h _ z) ?_;rintro _ g⟨F,rfl⟩;refine aa ?_;refine ah (sS a h _ z) ?_;rintro _ i⟨G,rfl⟩;have T:=G _ _ (F _ _ (ξ _ _ _));have V:∀b c d:R,putAt [b,c] 0 [d]=[d,c]:=λ_ _ _=>rfl;have W:∀b c d:R,putAt [b,c] 1 [d]=[b,d]:=λ_ _ _=>rfl;have e:∀k h,(R.J k h).cells=[.J k h]:=λ_ _=>rfl;refine ak (c7 (χ T) @p @V @W @r @e @x) ?_;rw[if_pos δ];exact⟨_,θ,μ (π (μ θ o) (π F G)) o,.any,.any,rfl⟩
theorem ZR(h:U)(a b c k:Ω)(o p r x:Own)(C:α a<=1000000000000)(D:α b<=1000000000000):
  AC γ 240 [eU a b o p,eU c k r x] h λE F=>F=h/\E=.v (.bool (decide (a=c)&&decide (b=k))):=by
 refine bd hm S7 ς ?_;refine aa ?_;refine aN λG S=>?_;refine aa ?_;refine aN λy d=>?_;have L:G≠y:=by rintro rfl;rw[ξ]at d;cases d
 have P:=Ι L;have T:h y=none:=by rw[ο _ _ P]at d;exact d
 refine aa ?_;refine ah (kH a c o r _ C) ?_;rintro _ _⟨rfl,rfl⟩;by_cases z:a=c
 .refine aa ?_;refine ah (kH b k p x _ D) ?_;rintro _ _⟨rfl,rfl⟩;refine ak @z ?_;grind[μ,θ]
 .refine ak @z ?_;grind[μ,θ]
def pU(b c:U)(d h:Ω)(k o:R):Prop:=∃a,av b a 1 (ad d) k/\av a c 1 (ad h) o
def fQ(a:av f s e g n):n.cells=[n]:=by obtain⟨_,⟨_,rfl|rfl⟩|⟨_,_,_,_,rfl,_⟩⟩:=a<;>rfl
def jW{k:bu}(o:av f s i g n)(b:f e=β k):av (f.set e Y) (s.set e Y) i g n:=by
 obtain⟨p,a⟩:=o;refine⟨U.lz p,?_⟩;rcases a with a|⟨c,r,x,y,z,d,C,D⟩
 .exact .inl a
 .have h:c≠e:=by rintro rfl;rw[d]at b;cases b
  exact .inr ⟨c,r,x,y,z,by rw[ο _ _ h];exact d,by rw[ο _ _ h];exact C,D⟩
def v7(x:U)(h k:Ω)(y z:Own)(S:α h<=1000000000000)(T:α k<=1000000000000):
  AC γ 252 [eU h k y z] x λV W=>∃a b,V=.agg [a,b]/\pU x W h k a b:=by
 refine bd hm Su ς ?_;refine bU ?_;refine aN λe D=>?_;refine bU ?_;refine aN λC o=>?_;have d:e≠C:=by rintro rfl;rw[ξ]at o;cases o
 have E:=Ι d;have F:x C=none:=by rw[ο _ _ E]at o;exact o
 have G:∀L,(R.agg L).cells=L:=λ_=>rfl;have q:=μ (Y:=.cells [.J [] .nil,.J [] .nil]) (μ (Y:=.cells [.J (ad h) y,.J (ad k) z]) (θ) D) F;refine ak (aL @G @ο @d @E) ?_;refine ah (yb h y _ S) ?_;intro a f p;have P:=p.1 _ _ (by rw[ο _ _ d,ξ]);have c2:=p.1 _ _ (ξ _ _ _);refine ak (κ P) ?_;refine ah (yb k z _ T) ?_;intro b s r;have g:=r.1 _ _ P;have i:=r.1 _ _ c2;have j:∀a b c:R,putAt [a,b] 0 [c]=[c,b]:=λ_ _ _=>rfl;have l:∀a b c:R,putAt [a,b] 1 [c]=[a,c]:=λ_ _ _=>rfl;have m:∀a b c d:R,putAt [a,b] 0 [c,d]=[c,d]:=λ_ _ _ _=>rfl;have n:∀a b,aM η 2 [a,b]=.agg [a,b]:=λ_ _=>rfl;refine ak (cO (κ g) (χ i) (fQ p) (fQ r) @j @l @m @G @n) ?_;refine⟨_,θ,a,b,rfl,f.set C (.cells [a,b]),?_,jW r c2⟩;have:=jW (Y:=.cells [a,b]) p (ξ _ _ _);rw[τ]at this;exact this.base (μ (μ θ D) F)
def mix(c:Int->Int->Int)(a d:Ω)(b:Nat):Ω:=(ψ c a d).take b++a.drop b
def v8{a:Int->Int->Int}(b:α q=α b7)(c:e<=α q):(mix a q b7 e).length=α q:=by simp[mix,b];omega
theorem va{a:Int->Int->Int}(d:α q=α b7)(h:e<α q)(b:ύ){v:Int}(x:v=a (q.getD e 0) (b7.getD e 0)):
  putAt (ad (mix a q b7 e)++b) e [.v (.int .i64 v)]=ad (mix a q b7 (e+1))++b:=by
 have c:(ad ((ψ a q b7).take e)).length=e:=by simp[ad,d];omega
 have k:(ψ a q b7)[e]?=β v:=by simp_all
 have o:=a7M h;have p:ad (mix a q b7 e)++b=ad ((ψ a q b7).take e)++(.v (.int .i64 q[e])::(ad (q.drop (e+1))++b)):=by unfold mix;rw[ya,o];simp only[ad,a7C,a7B,a8A]
 have r:ad (mix a q b7 (e+1))++b=ad ((ψ a q b7).take e)++(.v (.int .i64 v)::(ad (q.drop (e+1))++b)):=by unfold mix;rw[a8r,k,ya,ya];simp[ad]
 rw[p,r];generalize ad ((ψ a q b7).take e)=y at c;subst c;simp[putAt]
theorem ZS(D:U)(a d b h:Ω)(L P W e:Own)(l4:α a<=1000000000000)(a07:α d<=1000000000000)(a08:α b<=1000000000000)(a65:α h<=1000000000000):
  AC γ 202 [eU a d L P,eU b h W e] D λa68 E=>∃o y,a68=.agg [o,y]/\pU D E (cR (a,d) (b,h)).1 (cR (a,d) (b,h)).2 o y:=by
 refine bd hm R3 ς ?_;have i:∀a09,(R.agg a09).cells=a09:=λ_=>rfl;have n:∀k p,aM η 2 [k,p]=.agg [k,p]:=λ_ _=>rfl;have Z:∀k p S:R,putAt [k,p] 0 [S]=[S,p]:=λ_ _ _=>rfl;have j9:∀k p S:R,putAt [k,p] 1 [S]=[k,S]:=λ_ _ _=>rfl;have M:∀k p S N:R,putAt [k,p] 0 [S,N]=[S,N]:=λ_ _ _ _=>rfl;have q:=bN (q:=a);have u:=bN (q:=b);refine ak @i ?_;refine aN λF a69=>?_;refine ak @i ?_;refine aN λz k0=>?_;have k1:F≠z:=by rintro rfl;rw[ξ]at k0;cases k0
 have a71:D z=none:=by rw[ο _ _ (Ι k1)]at k0;exact k0
 have b19:=Ι k1;refine ak @i ?_;refine aN λr k2=>?_;have a73:z≠r:=by rintro rfl;rw[ξ]at k2;cases k2
 have a74:F≠r:=by rintro rfl;rw[ο _ _ k1,ξ]at k2;cases k2
 have l5:D r=none:=by simp_all [ο,Ι]
 have k3:=μ (Y:=.cells [.J [] .nil,.J [] .nil]) (μ (Y:=.cells [.J (ad b) W,.J (ad h) e]) (μ (Y:=.cells [.J (ad a) L,.J (ad d) P]) (θ) a69) a71) l5;have f:(((D.set F (.cells [.J (ad a) L,.J (ad d) P])).set z (.cells [.J (ad b) W,.J (ad h) e])).set r (.cells [.J [] .nil,.J [] .nil])) F=β (.cells [.J (ad a) L,.J (ad d) P]):=by rw[ο _ _ a74,ο _ _ k1,ξ]
 have g:(((D.set F (.cells [.J (ad a) L,.J (ad d) P])).set z (.cells [.J (ad b) W,.J (ad h) e])).set r (.cells [.J [] .nil,.J [] .nil])) z=β (.cells [.J (ad b) W,.J (ad h) e]):=by rw[ο _ _ a73,ξ]
 have aL:(((D.set F (.cells [.J (ad a) L,.J (ad d) P])).set z (.cells [.J (ad b) W,.J (ad h) e])).set r (.cells [.J [] .nil,.J [] .nil])) r=β (.cells [.J [] .nil,.J [] .nil]):=ξ _ _ _;refine ak @i ?_;generalize ((D.set F (.cells [.J (ad a) L,.J (ad d) P])).set z (.cells [.J (ad b) W,.J (ad h) e])).set r (.cells [.J [] .nil,.J [] .nil])=j at*;have s:∀k p:R,List.take 2 [k,p]=[k,p]:=λ_ _=>rfl;refine ak (aE @q @u @s) ?_;refine ah (oH j a d L P (α a) l4) ?_;rintro _ j⟨rfl,rfl⟩;refine ak (bz @q @u @s (κ f) (κ g) @n) ?_;refine ah (oH j b h W e (α b) a08) ?_;rintro _ j⟨rfl,rfl⟩;have O:∀(w)(o y)(l6 l7),pU j w l6 l7 o y->pU D (w.set r (.cells [o,y])) l6 l7 o y:=by
  rintro w o y l6 l7⟨A,C,G⟩;refine⟨A.set r (.cells [o,y]),?_,jW G (C.1 _ _ aL)⟩;refine(jW C aL).base λa10 k4 l8=>?_;have Q:a10≠r:=by rintro rfl;rw[l5]at l8;cases l8
  rw[ο _ _ Q];exact k3 a10 k4 l8
 unfold cR;cases a81:cQ a d (α a) with
 |true=>
  cases a11:cQ b h (α b) with
  |false=>refine ak (c7 @q @u @s (κ f) (κ g) @n @a8i) ?_;refine ah (v7 _ a d L P l4 a07) ?_;rintro _ w⟨o,y,rfl,X⟩;obtain⟨A,C,G⟩:=X;have B:=G.1 _ _ (C.1 _ _ aL);refine ak (bz (χ B) @i @Z @j9 @M @n) ?_;exact⟨_,θ,o,y,rfl,O _ _ _ _ _ ⟨A,C,G⟩⟩
  |true=>
   by_cases a13:(α a:Int)=α b
   .have H:α a=α b:=δ;refine ak (bw @q @u @s (κ f) (κ g) @n @a8c @a13) ?_;rw[if_pos H];have k5:=a81;have a14:=a11;simp only[cQ,Υ,decide_eq_true_eq]at k5 a14;have b20:=k5.1.2;have b21:α h=α a:=by rw[H];omega
    have b22:=k5.1.1.1.1;clear k5 a14;refine ah (v7 _ a d L P l4 a07) ?_;rintro _ w⟨o,y,rfl,A,C,G⟩;have kE:=G.1 _ _ (C.1 _ _ f);have a15:=G.1 _ _ (C.1 _ _ g);have B:=G.1 _ _ (C.1 _ _ aL);obtain⟨I,⟨k6,_⟩|⟨T,a83,l9,a16,rfl,k7,a18,a84,n0,k8,a19,a86⟩⟩:=C
    .exfalso;grind
    obtain⟨n1,⟨k6,_⟩|⟨x,a88,n2,a27,rfl,l,a29,a89,n3,k9,a30,a90⟩⟩:=G
    .exfalso;have:=congrArg α k6;rw[bN,a7x]at this;omega
    have a92:a83=α a:=by rw[q]at k8;omega
    have Y:a88=α a:=by rw[bN]at k9;omega
    subst a92;subst Y;have n4:T≠x:=by rintro rfl;rw[a18]at l;cases l
    have a34:=n1 _ _ a18;simp only[a8g]at a84 a89 n0 n3 a19 a30;obtain⟨n5,rfl⟩:∃n9,a16=ad a++n9:=⟨a16.drop (α a),by rw[<-n0,a7V]⟩;obtain⟨a00,rfl⟩:∃n9,a27=ad d++n9:=⟨a27.drop (α a),by rw[<-n3,a7V]⟩;have a36:T≠r:=by rintro rfl;rw[k7]at aL;cases aL
    have a94:T≠F:=by rintro rfl;rw[k7]at f;cases f
    have a95:T≠z:=by rintro rfl;rw[k7]at g;cases g
    have a38:x≠r:=by rintro rfl;rw[I _ _ aL]at l;cases l
    have a96:x≠F:=by rintro rfl;rw[I _ _ f]at l;cases l
    have a97:x≠z:=by rintro rfl;rw[I _ _ g]at l;cases l
    have a98:=Ο k3 k7;have a99:=Ο (π k3 I) l;have a42:=π k3 (π I n1);clear n0 n3 I n1 k8 k9 O;refine bU ?_;refine aN λv V=>?_;have a43:v≠r:=by rintro rfl;rw[B]at V;cases V
    have a47:v≠F:=by rintro rfl;rw[kE]at V;cases V
    have a48:v≠z:=by rintro rfl;rw[a15]at V;cases V
    have l0:v≠T:=by rintro rfl;rw[a34]at V;cases V
    have l1:v≠x:=by rintro rfl;rw[a29]at V;cases V
    have b00:=Ο a42 V;have b23:∀k p S N:Nat,(R.aq k p S N).cells=[.aq k p S N]:=λ_ _ _ _=>rfl;refine ak (c2 @i @M) ?_;refine cm (λm E=>∃c:Nat,c<=α a/\D.sub E/\E F=β (.cells [.J (ad a) L,.J (ad d) P])/\E z=β (.cells [.J (ad b) W,.J (ad h) e])/\E r=β (.cells [.J [] .nil,.J [] .nil])/\
      E v=β (.cells [.aq T (α a) l9 1,.aq x (α a) n2 1])/\E T=β (.cells (ad (mix min a b c)++n5))/\E x=β (.cells (ad (mix max d h c)++a00))/\
      m 2=.ptr F 0/\m 3=.ptr z 0/\m 4=.ptr r 0/\m 7=.ptr v 0/\m 52=.v (.int .i64 (α a))/\m 53=.v (.int .i64 c))
     (λm _=>match m 53 with|.v (.int _ X)=>α a - X.toNat|_=>0) ⟨0,δ,?_⟩ ?_
    .have a52:∀(a56)(k p),mix a56 k p 0=k:=λa56 k p=>by rfl
     rw[a52,a52];refine ak (ot @ο @a47 @a48 @a43 @l0 @l1 (Ι a47) (Ι a48) (Ι a43) (Ι l0) (Ι l1) @kE @a15 @B @a34 @a29 @ξ) ?_;exact μ a42 b00
    rintro m E⟨c,b24,b01,c2,aE,aL,c7,l2,l3,Y,a01,a02,a03,a04,a05⟩;by_cases a06:(c:Int)<α a
    .have b02:c<α a:=δ;have a57:a[c]?=β (a.getD c 0):=by simp_all
     have a61:b[c]?=β (b.getD c 0):=by simp_all
     have a62:d[c]?=β (d.getD c 0):=by simp_all
     have a63:h[c]?=β (h.getD c 0):=by simp_all
     have b03:=va H b02 n5 (v:=min (a.getD c 0) (b.getD c 0)) rfl;have b04:=va δ δ a00 (v:=max (d.getD c 0) (h.getD c 0)) rfl;generalize a.getD c 0=b25 at*;generalize b.getD c 0=b26 at*;generalize d.getD c 0=a3 at*;generalize h.getD c 0=a4 at*;simp -dsimp -implicitDefEqProofs (disch:=first|omega|assumption|(simp only[aW,Nat.reduceAdd];try omega)) only[go_sem,simprocAttr,-List.reduceReplicate,Y,a01,a02,a03,a04,a05,a06,κ c2,κ aE,κ c7,χ l2,χ l3,gz a57,gz a61,gz a62,gz a63,oG];have b05:c+1<=(ad (mix min a b c)++n5).length:=by rw[Ψ,bN,v8 H δ];omega
     have b06:c+1<=(ad (mix max d h c)++a00).length:=by rw[Ψ,bN,v8 δ δ];omega
     have b07:=Ι a94;have b08:=Ι a95;have b09:=Ι n4;have b10:=Ι a36;have b11:=Ι a96;have b12:=Ι a97;have b13:=Ι a38;have b14:=Ι l0;have b15:=Ι l1;simp -dsimp -implicitDefEqProofs (disch:=first|omega|assumption|(simp only[aW,Nat.reduceAdd];try omega)) only[go_sem,simprocAttr,-List.reduceReplicate,Y,a01,a02,a03,a04,a05,a06,κ c2,κ aE,κ c7,χ l2,χ l3,gz a57,gz a61,gz a62,gz a63,oG,b05,b06,b03,b04,ο,ξ,n4,b09,b07,b08,b10,b11,b12,b13,b14,b15,l0,l1,c2,aE,aL,c7];grind[μ]
    .obtain rfl:c=α a:=δ;refine ak (cg @Y @a01 @a02 @a03 @a04 @a05 @a06 (κ c7) (χ aL) @s) ?_;have k8:mix min a b (α a)=ψ min a b:=by unfold mix;grind
     have k9:mix max d h (α a)=ψ max d h:=by unfold mix;grind
     rw[k8]at l2;rw[k9]at l3;have b27:(ad (ψ min a b)).length=α a:=by rw[bN,a9h];omega
     have b28:(ad (ψ max d h)).length=α a:=by rw[bN,a9h];omega
     have b16:∀K:U,K T=E T->K x=E x->D.sub K->pU D K (ψ min a b) (ψ max d h) (.aq T (α a) l9 1) (.aq x (α a) n2 1):=by
      intro K k6 b17 b18;refine⟨K.del x,⟨λo k4 t=>?_,.inr ⟨T,α a,l9,_,rfl,a98,by rw[U.eN _ n4,k6];exact l2,?_,?_,?_,a19,a86⟩⟩,⟨λo k4 t=>?_,.inr ⟨x,α a,n2,_,rfl,U.iH _ _,by rw[b17];exact l3,?_,?_,?_,a30,a90⟩⟩⟩
      .have Q:o≠x:=by rintro rfl;rw[a99]at t;cases t
       rw[U.eN _ Q];exact b18 o k4 t
      simp_all;simp_all
      .omega
      .have Q:o≠x:=by rintro rfl;rw[U.iH]at t;cases t
       rw[U.eN _ Q]at t;exact t
      grind[Β,bN];simp_all
      .omega
     exact⟨_,θ,_,_,rfl,b16 _ (ο _ _ a36) (ο _ _ a38) (μ b01 l5)⟩
   .have H:¬α a=α b:=δ;refine ak (lB @q @u @s (κ f) (κ g) (χ aL) @n @a8c @a13 @i @Z @j9 @M) ?_;rw[if_neg H];exact⟨_,θ,_,_,rfl,O j _ _ _ _ ⟨j,av.nil θ,av.nil θ⟩⟩
 |false=>
  cases a11:cQ b h (α b) with
  |false=>refine ak (gq @q @u @s (κ f) (κ g) (χ aL) @n @a8i @i @Z @j9 @M) ?_;exact⟨_,θ,_,_,rfl,O j _ _ _ _ ⟨j,av.nil θ,av.nil θ⟩⟩
  |true=>refine ak (c7 @q @u @s (κ f) (κ g) @n @a8i) ?_;refine ah (v7 _ b h W e a08 a65) ?_;rintro _ w⟨o,y,rfl,X⟩;obtain⟨A,C,G⟩:=X;have B:=G.1 _ _ (C.1 _ _ aL);refine ak (bz (χ B) @i @Z @j9 @M @n) ?_;exact⟨_,θ,o,y,rfl,O _ _ _ _ _ ⟨A,C,G⟩⟩
def E7(h:U)(a b c d:Ω)(k o p r:Own)(z:α a<=1000000000000)(C:α b<=1000000000000)(D:α c<=1000000000000)(E:α d<=1000000000000):
  AC γ 202 [eU a b k o,eU c d p r] h λx y=>h.sub y/\x=eU (cR (a,b) (c,d)).1 (cR (a,b) (c,d)).2 .any .any:=
 (ZS h a b c d k o p r z C D E).view λx y F=>by
  obtain⟨G,g,rfl,i,L,P⟩:=F;obtain⟨j,S,T⟩:=sR P;have V:=L.mono S;obtain⟨W,e,f⟩:=sR V;exact⟨_,W,(View.agg (a:=[G]) rfl T).trans (View.agg (a:=[]) rfl f),e,rfl⟩
theorem oI(b c:Ω×Ω)(a:Nat)(d:α b.1<=a)(h:α b.2<=a)(k:α c.1<=a)(o:α c.2<=a):(cR b c).1.length<=a/\(cR b c).2.length<=a:=by grind[cR]
def aB{a:Type}(b:a->R->Prop):List a->ύ->Prop
 |[],[]=>True
 |c::xs,d::h=>b c d/\aB b xs h
 |_,_=>False
def aB.len{b:Type}{h:b->R->Prop}:∀ {c:List b}{d:ύ},aB h c d->α d=α c
 |[],[],_=>rfl
 |_:: _,_:: _,a=>by rw[a7s,a7s,a.2.len]
 |[],_:: _,a=>a.elim
 |_:: _,[],a=>a.elim
def aB.get{k:Type}{o:k->R->Prop}:∀ {d:List k}{h:ύ}{i:Nat}{x:k},aB o d h->d[i]?=β x->∃b,h[i]?=β b/\o x b
 |[],_,_,_,_,a=>by simp at a
 |x::d,b::h,0,p,a,c=>by simp only[a9c,a7y]at c|-;subst c;exact⟨b,rfl,a.1⟩
 |x::d,b::h,i+1,p,a,c=>by simp only[a9n]at c|-;exact a.2.get c
 |_:: _,[],_,_,a,_=>a.elim
def aB.append{c:Type}{b:c->R->Prop}:∀ {d h:List c}{k o:ύ},aB b d k->aB b h o->aB b (d++h) (k++o)
 |[],_,[],_,_,a=>a
 |_:: _,_,_:: _,_,a,p=>⟨a.1,a.2.append p⟩
 |[],_,_:: _,_,a,_=>a.elim
 |_:: _,_,[],_,a,_=>a.elim
variable{b0:Type}
def aB.snoc{a:b0->R->Prop}{b:List b0}{c:b0}(d:aB a b g)(h:a c n):aB a (b++[c]) (g++[n]):=d.append ⟨h,trivial⟩
def aB.take{c:Type}{d:c->R->Prop}:∀ {h:List c}{k:ύ} (b:Nat),aB d h k->aB d (h.take b) (k.take b)
 |[],[],b,_=>by simp[aB]
 |_:: _,_:: _,0,_=>by simp[aB]
 |_:: _,_:: _,b+1,a=>⟨a.1,a.2.take b⟩
 |[],_:: _,_,a=>a.elim
 |_:: _,[],_,a=>a.elim
def aB.drop{c:Type}{d:c->R->Prop}:∀ {h:List c}{k:ύ} (b:Nat),aB d h k->aB d (h.drop b) (k.drop b)
 |[],[],b,_=>by simp[aB]
 |_:: _,_:: _,0,a=>a
 |_:: _,_:: _,b+1,a=>a.2.drop b
 |[],_:: _,_,a=>a.elim
 |_:: _,[],_,a=>a.elim
def aB.mono{b:Type}{c d:b->R->Prop}(h:∀k o,c k o->d k o):∀ {p:List b}{r:ύ},aB c p r->aB d p r
 |[],[],a=>a
 |_:: _,_:: _,a=>⟨h _ _ a.1,a.2.mono h⟩
 |[],_:: _,a=>a.elim
 |_:: _,[],a=>a.elim
theorem aB.cells{b:Type}{c:b->R->Prop}{d:Nat}(h:∀p k,c p k->α k.cells=d):∀ {r:List b}{o:ύ},aB c r o->aY d o
 |[],[],_=>by simp[aY]
 |_:: _,_:: _,a=>by rw[CL];exact⟨h _ _ a.1,a.2.cells h⟩
 |[],_:: _,a=>a.elim
 |_:: _,[],a=>a.elim
def isRow(a:Ω)(b:R):Prop:=∃c,b=.J (ad a) c
def cY(a:Ω×Bool)(b:R):Prop:=∃c,b=.agg [.J (ad a.1) c,.v (.bool a.2)]
def ab(a:ao)(b c d:Own):ύ:=a.sum.map aj++[.J (ad a.aT) b,.J (ad a.aS) c,.v (.int .i64 a.live),.v (.int .i64 a.size),.J (ad a.key) d]
structure re(k:ao)(gT eK b:Own)(a:ύ):Prop where
 len:α a=37
 t37:a.take 37=a
 t32:a.take 32=k.sum.map aj
 d32:a.drop 32=[.J (ad k.aT) gT,.J (ad k.aS) eK,.v (.int .i64 k.live),.v (.int .i64 k.size),.J (ad k.key) b]
 d33:a.drop 33=[.J (ad k.aS) eK,.v (.int .i64 k.live),.v (.int .i64 k.size),.J (ad k.key) b]
 d34:a.drop 34=[.v (.int .i64 k.live),.v (.int .i64 k.size),.J (ad k.key) b]
 d35:a.drop 35=[.v (.int .i64 k.size),.J (ad k.key) b]
 d36:a.drop 36=[.J (ad k.key) b]
variable{A j2:ao}
theorem aP(b:α A.sum=32):re A N e6 h6 (ab A N e6 h6):=by
 have d:(A.sum.map aj).length=32:=by simp[b]
 have a:∀c,(ab A N e6 h6).drop (32+c)=[R.J (ad A.aT) N,.J (ad A.aS) e6,.v (.int .i64 A.live),.v (.int .i64 A.size),.J (ad A.key) h6].drop c:=λc=>by
  unfold ab;rw[a8P,a8b δ,d];simp
 exact⟨by simp[ab,b],Φ (by simp[ab,b]),by unfold ab;simp_all,a 0,a 1,a 2,a 3,a 4⟩
theorem re.all(a:re A N e6 h6 g):α g=37/\g.take 37=g/\g.take 32=A.sum.map aj/\(g.drop 32).take 2=[.J (ad A.aT) N,.J (ad A.aS) e6]/\
  aM ι 1 (g.drop 32)=.J (ad A.aT) N/\aM ι 1 (g.drop 33)=.J (ad A.aS) e6/\aM ι 1 (g.drop 34)=.v (.int .i64 A.live)/\aM ι 1 (g.drop 35)=.v (.int .i64 A.size)/\aM ι 1 (g.drop 36)=.J (ad A.key) h6:=
 ⟨a.len,a.t37,a.t32,by rw[a.d32];rfl,by rw[a.d32];rfl,by rw[a.d33];rfl,by rw[a.d34];rfl,by rw[a.d35];rfl,by rw[a.d36];rfl⟩
structure ao.cC(k:ao):Prop where
 aT:α k.aT<=1000000000000
 aS:α k.aS<=1000000000000
 key:α k.key<=1000000000000
def pV:az.cC:=⟨by simp[az],by simp[az],by simp[az]⟩
def bB(a:ao)(b:R):Prop:=α a.sum=32/\a.cC/\∃c d h,b=.agg (ab a c d h)
theorem cY.cells{b:Ω×Bool}{a:R}(c:cY b a):α a.cells=2:=by obtain⟨d,rfl⟩:=c;rfl
theorem bB.cells{b:ao}{a:R}(c:bB b a):α a.cells=37:=by obtain⟨d,_,h,k,o,rfl⟩:=c;exact(aP d).len
theorem isRow.cells{b:Ω}{a:R}(c:isRow b a):α a.cells=1:=by obtain⟨d,rfl⟩:=c;rfl
structure mA(c:U)(p:R)(cells:ύ):Prop where
 ld:∀(a:U),c.sub a->∀agg n,0<n->n<=α cells->cW agg n a p=β (aM agg n cells)
 ln:∀(a:U),c.sub a->∀b agg n,0<n->b+n<=α cells->∃d,sk b p=β d/\cW agg n a d=β (aM agg n (cells.drop b))
structure bO(b:U)(k:Nat)(x:R)(a:ύ):Prop where
 one:x.cells=[x]
 len:fi x=β (.v (.int .i64 (α a)))
 get:∀(i:Nat) e,a[i]?=β e->∃p,cz k x (.v (.int .i64 (i:Int)))=β p/\mA b p e.cells
def mA.mono(c:mA f n g)(d:f.sub s):mA s n g:=⟨λa b=>c.ld a (π d b),λa b=>c.ln a (π d b)⟩
def bO.mono{b c:U}{d:Nat}{h:R}{k:ύ}(a:bO b d h k)(o:b.sub c):bO c d h k:=⟨a.one,a.len,λp r x=>by
 obtain⟨y,z,C⟩:=a.get p r x;exact⟨y,z,C.mono o⟩⟩
theorem bO.J{s:U}{c:Nat}{a:ύ}{o:Own}(p:aY c a):bO s c (.J a o) a:=⟨rfl,rfl,λr b d=>by
 have x:(0)<=(r:Int):=δ;refine⟨.bS b.cells,?_,⟨λy _ z h _ k=>by simp[cW,k],λy _ C z h _ k=>⟨_,rfl,?_⟩⟩⟩
 .simp only[cz,x,if_true,a7L,d];exact hC (p b (a7r d))
 .have:h<=(b.cells.drop C).length:=by rw[a7F];omega
  simp only[cW];rw[if_pos this]⟩
theorem E8(a:aY e g)(c:g[i]?=β n):((flat g).drop (i*e)).take e=n.cells:=by obtain⟨b,rfl⟩:=a7u.1 c;rw[(gh i a).1,a7M b];have d:=a _ (a7O b);simp only[flat,a7P];simp_all
theorem bO.aq{F:U}{p n cap k:Nat}{c o:ύ}(x:aY k o)(G:F p=β (.cells c))(L:α o=n)(S:c.take (n*k)=flat o):bO F k (.aq p n cap k) o:=by
 refine⟨rfl,by rw[L];rfl,λd r y=>?_⟩;obtain⟨e,_⟩:=a7u.1 y;have f:(flat o).length=n*k:=by rw[cU x,L]
 have g:n*k<=α c:=by grind
 have T:(d+1)*k<=n*k:=a7D _ δ;rw[a8w,aa9]at T;have i:=x r (a7r y);have P:∀a b,a+b<=k->((c.drop (d*k+a)).take b)=(r.cells.drop a).take b:=by intro a b hm;rw[<-E8 x y,<-S];grind[List.drop_take,Nat.min_eq_left,List.drop_drop]
 have V:∀h a b,a+b<=k->0<b->aM h b (c.drop (d*k+a))=aM h b (r.cells.drop a):=by
  intro h a b hm z;cases h with
  |true=>simp only[aM,if_true];rw[P a b hm]
  |false=>
   have j:=P a 1 δ;simp only[aM,a8o,if_false];cases bZ:c.drop (d*k+a)with
   |nil=>simp_all
   |cons l m=>
    cases cr:r.cells.drop a with
    |nil=>simp_all
    |cons q s=>grind
 refine⟨.ptr p (d*k),?_,⟨λW C h b z hm=>?_,λW C a h b z hm=>⟨.ptr p (d*k+a),rfl,?_⟩⟩⟩;grind[jQ,Int.toNat_natCast]
 .have D:=κ (C _ _ G);have E:d*k+b<=α c:=δ;simp only[cW,D,if_pos E];have:=V h 0 b δ z;simp_all
 .have D:=κ (C _ _ G);have E:d*k+a+b<=α c:=δ;simp only[cW,D,if_pos E];grind
theorem bO.dK(a:av s f e H n)(d:0<e)(b:H=flat g)(c:aY e g):bO f e n g:=by subst b;have h:=cU c;obtain⟨k,⟨o,rfl|rfl⟩|⟨p,r,x,y,rfl,z,C,D,E,F,G,L⟩⟩:=a;grind[List.eq_nil_of_length_eq_zero,List.length_nil,Nat.mul_eq_zero,bO.J];grind[List.eq_nil_of_length_eq_zero,List.length_nil,Nat.mul_eq_zero,bO.J];grind[bO.aq,Nat.eq_of_mul_eq_mul_right]
def hg(h:b0->R->Prop)(k:U)(b:FuncId)(o p:ύ)(r:b0->Bool):Prop:=
 fA γ b=η/\∀c d (a:U),h c d->k.sub a->AC γ b (o++[d]++p) a λx y=>y=a/\x=.v (.bool (r c))
variable{b4:FuncId}
theorem ZT(a:List (Ω×Bool))(L:ύ)(y:R)(d:U)(P:aB cY a L)(S:bO d 2 y L)(w:α a<=1000000000000){h:(Ω×Bool)->Bool}(T:hg cY d b4 g H h):
  AC γ 323 [y,.bG b4 g H] d λf z=>z=d/\∃V:Int,f=.v (.int .i64 V)/\decide (0<=V)=a.any h:=by
 refine bd hm U8 ς ?_;have i:=P.len;have C:=S.len;rw[i]at C;refine ak @C ?_;refine cm (λc z=>∃b:Nat,b<=α a/\z=d/\c 0=y/\c 1=.bG b4 g H/\c 7=.v (.int .i64 (α a))/\c 8=.v (.int .i64 b)/\(a.take b).any h=ι)
  (λc _=>match c 8 with|.v (.int _ j)=>α a - j.toNat|_=>0) ⟨0,δ,rfl,?_⟩ ?_
 .refine ak @C ?_;simp
 rintro c D⟨b,A,rfl,k,o,p,r,W⟩;by_cases x:(b)<(α a:Int)
 .have E:a[b]?=β a[b]:=Ρ δ;have l:a.take (b+1)=a.take b++[a[b]]:=by rw[a8r,E];rfl
  have m:a[b]'δ∈a:=a7O _;generalize a[b]'δ=e at E l m;obtain⟨F,n,G⟩:=P.get E;obtain⟨q,s,t⟩:=S.get b F n;have u:cW η 2 D q=β F:=by have v:=t.ld D θ η 2 δ (by rw[cY.cells G];omega);rw[v];obtain⟨B,rfl⟩:=G;rfl
  refine ak (c7 @k @o @p @r @x @s @u) ?_;refine eR T.1 (T.2 e F _ G θ) ?_;rintro _ D⟨rfl,rfl⟩;cases I:h e with
  |true=>refine ak (bh @k @o @p @r @x) ?_;refine⟨_,θ,rfl,_,rfl,?_⟩;grind
  |false=>refine ak (bh @k @o @p @r @x) ?_;grind
 .obtain rfl:b=α a:=δ;refine ak (bh @k @o @p @r @x) ?_;rw[a7K]at W;exact⟨_,θ,rfl,_,rfl,by rw[W];simp⟩
def ZU(b:List (Ω×Bool))(c:ύ)(d:R)(a:U)(k:aB cY b c)(o:bO a 2 d c)(p:α b<=1000000000000){h:(Ω×Bool)->Bool}(r:hg cY a b4 g H h):
  AC γ 292 [d,.bG b4 g H] a λx y=>y=a/\x=.v (.bool (b.any h)):=by
 refine bd hm Ts ς ?_;refine bU ?_;refine ah (ZT b c d a k o p r) ?_;rintro _ C⟨rfl,D,rfl,z⟩;refine bU ?_;exact⟨_,θ,rfl,by rw[z]⟩
theorem E9(h:List (Ω×Bool))(p:ύ)(r:R)(b:U)(P:aB cY h p)(S:bO b 2 r p)(T:α h<=1000000000000){x:(Ω×Bool)->Bool}(z:hg cY b b4 g H x):
  AC γ 253 [r,.bG b4 g H] b λV c=>c=b/\V=.v (.bool (h.all x)):=by
 refine bd hm Sw ς ?_;refine bU ?_;refine aN λd W=>?_;have C:=μ (Y:=.cells [.bG b4 g H]) (θ) W;have aE:(b.set d (.cells [.bG b4 g H])) d=β (.cells [.bG b4 g H]):=ξ _ _ _;have e:(R.bG b4 g H).cells=[.bG b4 g H]:=rfl;refine ak @e ?_;generalize b.set d (.cells [.bG b4 g H])=D at*;refine ah (ZU h p r D P (S.mono C) T (b4:=293) (g:=[]) (H:=[.ptr d 0]) (h:=λy=> !x y) ⟨Χ,λy a c k E=>?_⟩) ?_
 .change AC γ _ [a,.ptr d 0] c _;refine bd hm Tu ς ?_;have f:=E _ _ aE;refine ak (cY.cells k) ?_;refine aN λo i=>?_;have F:=μ (Y:=.cells a.cells) (θ) i;have c2:(c.set o (.cells a.cells)) o=β (.cells a.cells):=ξ _ _ _;have aL:=F _ _ f;have G:aM η 2 (a.cells.drop 0)=a:=by obtain⟨n,rfl⟩:=k;rfl
  have j:aM η 2 a.cells=a:=G;have L:=cY.cells k;refine ak @L ?_;have l:=z.2 y a (c.set o (.cells a.cells)) k (π C (π E F));generalize c.set o (.cells a.cells)=m at*;refine ak (bh (κ aL) (κ c2) @L @G @j) ?_;refine eR z.1 l ?_;rintro _ m⟨rfl,rfl⟩;refine bU ?_;simp_all
 rintro _ D⟨rfl,rfl⟩;refine bU ?_;grind
theorem ZV(a:List ao)(L:ύ)(y:R)(d:U)(P:aB bB a L)(S:bO d 37 y L)(A:α a<=1000000000000){h:ao->Bool}(T:hg bB d b4 g H h):
  AC γ 324 [y,.bG b4 g H] d λf z=>z=d/\∃V:Int,f=.v (.int .i64 V)/\decide (0<=V)=a.any h:=by
 refine bd hm Ua ς ?_;have i:=P.len;have C:=S.len;rw[i]at C;refine ak @C ?_;refine cm (λc z=>∃b:Nat,b<=α a/\z=d/\c 0=y/\c 1=.bG b4 g H/\c 7=.v (.int .i64 (α a))/\c 8=.v (.int .i64 b)/\(a.take b).any h=ι)
  (λc _=>match c 8 with|.v (.int _ j)=>α a - j.toNat|_=>0) ⟨0,δ,rfl,?_⟩ ?_
 .refine ak @C ?_;simp
 rintro c D⟨b,B,rfl,k,o,p,r,W⟩;by_cases x:(b)<(α a:Int)
 .have E:a[b]?=β a[b]:=Ρ δ;have l:a.take (b+1)=a.take b++[a[b]]:=by rw[a8r,E];rfl
  have m:a[b]'δ∈a:=a7O _;generalize a[b]'δ=e at E l m;obtain⟨F,n,G⟩:=P.get E;obtain⟨q,s,t⟩:=S.get b F n;have u:cW η 37 D q=β F:=by have v:=t.ld D θ η 37 δ (by rw[bB.cells G];omega);rw[v];obtain⟨w,_,I,K,M,rfl⟩:=G;simp[σ,aM,(aP w).t37]
  refine ak (c7 @k @o @p @r @x @s @u) ?_;refine eR T.1 (T.2 e F _ G θ) ?_;rintro _ D⟨rfl,rfl⟩;cases N:h e with
  |true=>refine ak (bh @k @o @p @r @x) ?_;refine⟨_,θ,rfl,_,rfl,?_⟩;grind
  |false=>refine ak (bh @k @o @p @r @x) ?_;grind
 .obtain rfl:b=α a:=δ;refine ak (bh @k @o @p @r @x) ?_;rw[a7K]at W;exact⟨_,θ,rfl,_,rfl,by rw[W];simp⟩
def ZW(b:List ao)(c:ύ)(d:R)(a:U)(k:aB bB b c)(o:bO a 37 d c)(p:α b<=1000000000000){h:ao->Bool}(r:hg bB a b4 g H h):
  AC γ 294 [d,.bG b4 g H] a λx y=>y=a/\x=.v (.bool (b.any h)):=by
 refine bd hm Tw ς ?_;refine bU ?_;refine ah (ZV b c d a k o p r) ?_;rintro _ C⟨rfl,D,rfl,z⟩;refine bU ?_;exact⟨_,θ,rfl,by rw[z]⟩
theorem yd(h:List ao)(r:ύ)(x:R)(b:U)(P:aB bB h r)(S:bO b 37 x r)(T:α h<=1000000000000){y:ao->Bool}(z:hg bB b b4 g H y):
  AC γ 255 [x,.bG b4 g H] b λV c=>c=b/\V=.v (.bool (h.all y)):=by
 refine bd hm SA ς ?_;refine bU ?_;refine aN λd W=>?_;have C:=μ (Y:=.cells [.bG b4 g H]) (θ) W;have aE:(b.set d (.cells [.bG b4 g H])) d=β (.cells [.bG b4 g H]):=ξ _ _ _;have e:(R.bG b4 g H).cells=[.bG b4 g H]:=rfl;refine ak @e ?_;generalize b.set d (.cells [.bG b4 g H])=D at*;refine ah (ZW h r x D P (S.mono C) T (b4:=295) (g:=[]) (H:=[.ptr d 0]) (h:=λk=> !y k) ⟨Χ,λk a c o E=>?_⟩) ?_
 .change AC γ _ [a,.ptr d 0] c _;refine bd hm Ty ς ?_;have f:=E _ _ aE;refine ak (bB.cells o) ?_;refine aN λp i=>?_;have F:=μ (Y:=.cells a.cells) (θ) i;have c2:(c.set p (.cells a.cells)) p=β (.cells a.cells):=ξ _ _ _;have aL:=F _ _ f;have G:aM η 37 (a.cells.drop 0)=a:=by obtain⟨j,_,l,m,n,rfl⟩:=o;show aM η 37 (ab k l m n)= _;rw[aM,if_pos rfl,(aP j).t37]
  have q:aM η 37 a.cells=a:=G;have L:=bB.cells o;refine ak @L ?_;have s:=z.2 k a (c.set p (.cells a.cells)) o (π C (π E F));generalize c.set p (.cells a.cells)=t at*;refine ak (bh (κ aL) (κ c2) @L @G @q) ?_;refine eR z.1 s ?_;rintro _ t⟨rfl,rfl⟩;refine bU ?_;simp_all
 rintro _ D⟨rfl,rfl⟩;refine bU ?_;grind
end Go.Proofs.YtcfpcblgmmeioaaGreat
