import Derived.Test.YtcfpcblgmmeioaaGreatMC
set_option linter.all false
namespace Go.bD
open Go
variable{e i v M b9 j2:Nat}{b0:Type}
theorem eR {a:List b0}{b:b0} (c:e<a.length):a.take (e+1)=a.take e++ [a.getD e b]:=by simp_all
abbrev fH (a b:U) (c:List UInt8) (d:R):Prop:=av a b 1 (c.map ak) d
def oh (b:U) (c:R) (a:List UInt8):Prop:=bV b 1 c=some (a.length,a.map ak)
theorem oh.J {s:U}{a:List UInt8}{o:Own}:oh s (.J (a.map ak) o) a:=by have b:=CG (f:=s) (A:=a) (N:=o);exact b
variable{n b6:R}{f s e0:U}{A:List UInt8}
def fH.mn (b:fH s f A n):oh f n A:=by obtain⟨d,a,c,_⟩:=b.src;simp only[a6J,a7s]at a;subst a;exact c
def av.sub {a b:U}{c:Nat}{d:List R}{h:R} (k:av a b c d h):a.sub b:=k.1
variable{t Z:R -> U -> Prop}{K:Ctx}{b5:FuncId}{g B c0:List R}
section
def D0 {d:List UInt8} (c:fH f s A n) (h:oh s b6 d) (k: ∀b a,fH f a (A++d) b->f.sub a->Z b a) (p:A.length+d.length<=100000000000:=by(try simp only[a6A,a6E,a6G,a6J, *])<;>omega)
  (o: ∀b a,fH f a (A++d) b->f.sub a->t b a=Z b a:=by intro b s c r;exact eC):jL 1 1 s n b6 (bX t ()):=
 fb c aaU h aaV aaW aaW λb a c=>by rw[<-a7x]at c;exact(o b a c c.sub).mpr (k b a c c.sub)
def nr {c:List UInt8} (d:fH f e0 A n) (h:fH e0 s c b6) (k: ∀b a,fH f a (A++c) b->f.sub a->Z b a) (o:A.length+c.length<=100000000000:=by(try simp only[a6A,a6E,a6G,a6J, *])<;>omega)
  (p: ∀b a,fH f a (A++c) b->f.sub a->t b a=Z b a:=by intro b s d r;exact eC):jL 1 1 s n b6 (bX t ()):=D0 (d.mono h.sub) h.mn k o p
def uy (b:List UInt8) (o: ∀c a,fH f a b c->f.sub a->Z c a) (z:g=b.map ak:=by first|rfl|simp) (p:g.length<=1000000000000:=by(try simp only[a6A,a6E,a6G,a6J, *])<;>omega)
  (r: ∀c a,fH f a b c->f.sub a->t c a=Z c a:=by intro c f d E;exact eC):ob 1 f g (bX t ()):=by
 have h:=λc a d=>(r c a d d.sub).mpr (o c a d d.sub);subst z;rw[a6J]at p;by_cases k:b= []
 .subst k;rw[a7W,oc];exact h _ _ (av.zero U.a6)
 .refine eK (by intro F C;obtain⟨_,_,rfl⟩:=a6S.1 C;rfl) (by simpa using k) λD x=>h _ _ ?_;have y:flat (b.map ak)=b.map ak:=by
   clear h o r k p
   induction b with
   |nil=>rfl
   |cons G b ih=>simp only[a6Q,flat,a7a]at ih|-;rw[ih];rfl
  refine⟨U.af U.a6 x,.inr ⟨D,b.length,b.length,_,aaV,x,U.ai _ _ _,?_,?_,aaV,aaU,by simp only[maxLen];omega⟩⟩
  .rw[y];simp
  .rw[y,a6z aaV]
def hX {d:R->U->Prop} (c:AC K.p b5 g f t) (h: ∀a b,t a b->d a b) (k: ∀a b,t a b->Z a b=d a b:=by intro a f c;exact eC):o8 K b5 g f (bX Z ()):=ah c λa b c=>(k a b c).mpr (h a b c)
end
variable{j6:Nat -> Prop}{X j8:bs}{Q b3 h2 j0 j4:Prop}
section
def xC {c:Nat->Prop}{x:bs} (y: ∀a,f a=none->a≠e->e≠a->a≠i->i≠a->a≠v->v≠a->c a) (z: ∀a,f a=none->a≠e->e≠a->a≠i->i≠a->a≠v->v≠a->j6 a=c a:=by intros;exact eC):jg (((f.set e X).set i j8).set v x) (c4 j6 ()):=λa b=>by
 obtain⟨b,d,h⟩:=U.set_nil b;obtain⟨b,k,o⟩:=U.set_nil b;obtain⟨b,p,r⟩:=U.set_nil b;exact(z a b p r k o d h).mpr (y a b p r k o d h)
def Yo {c:Nat->Prop}{z C:bs} (D: ∀a,f a=none->a≠e->e≠a->a≠i->i≠a->a≠v->v≠a->a≠M->M≠a->c a) (E: ∀a,f a=none->a≠e->e≠a->a≠i->i≠a->a≠v->v≠a->a≠M->M≠a->j6 a=c a:=by intros;exact eC):jg ((((f.set e X).set i j8).set v z).set M C) (c4 j6 ()):=λa b=>by
 obtain⟨b,d,h⟩:=U.set_nil b;obtain⟨b,k,o⟩:=U.set_nil b;obtain⟨b,p,r⟩:=U.set_nil b;obtain⟨b,x,y⟩:=U.set_nil b;exact(E a b x y p r k o d h).mpr (D a b x y p r k o d h)
def jM {v:R} (c: ∀a,f a=none->j6 a) (d:aW e (v::g):=by simp[aW,R.cells, *]) (h: ∀a,f a=none->t (.J (v::g) (.buf a (v::g).length)) (f.set a (.buf e (v::g).length (v::g).length))=j6 a:=by intros;exact eC):jK e f (v::g) (bX t ()):=by refine⟨d,?_⟩;rw[if_neg aaV];intro a b;exact(h a b).mpr (c a b)
def Yp {v:R} (h: ∀a,f a=none->a≠e->e≠a->j6 a) (k:aW i (v::g):=by simp[aW,R.cells, *]) (o: ∀a,f a=none->a≠e->e≠a->t (.J (v::g) (.buf a (v::g).length)) ((f.set e X).set a (.buf i (v::g).length (v::g).length))=j6 a:=by intros;exact eC):jK i (f.set e X) (v::g) (bX t ()):=by refine⟨k,?_⟩;rw[if_neg aaV];intro a b;obtain⟨b,c,d⟩:=U.set_nil b;exact(o a b c d).mpr (h a b c d)
def uz {v:R} (o: ∀a,f a=none->a≠e->e≠a->a≠i->i≠a->j6 a) (p:aW M (v::g):=by simp[aW,R.cells, *]) (r: ∀a,f a=none->a≠e->e≠a->a≠i->i≠a->t (.J (v::g) (.buf a (v::g).length)) (((f.set e X).set i j8).set a (.buf M (v::g).length (v::g).length))=j6 a:=by intros;exact eC):jK M ((f.set e X).set i j8) (v::g) (bX t ()):=by refine⟨p,?_⟩;rw[if_neg aaV];intro a b;obtain⟨b,c,d⟩:=U.set_nil b;obtain⟨b,h,k⟩:=U.set_nil b;exact(r a b h k c d).mpr (o a b h k c d)
def Yq {c:Nat}{v:R}{d h k:bs} (G: ∀a,f a=none->a≠e->e≠a->a≠i->i≠a->a≠M->M≠a->a≠b9->b9≠a->a≠j2->j2≠a->j6 a) (L:aW c (v::g):=by simp[aW,R.cells, *]) (P: ∀a,f a=none->a≠e->e≠a->a≠i->i≠a->a≠M->M≠a->a≠b9->b9≠a->a≠j2->j2≠a->t (.J (v::g) (.buf a (v::g).length)) ((((((f.set e X).set i j8).set M d).set b9 h).set j2 k).set a (.buf c (v::g).length (v::g).length))=j6 a:=by intros;exact eC):jK c (((((f.set e X).set i j8).set M d).set b9 h).set j2 k) (v::g) (bX t ()):=by refine⟨L,?_⟩;rw[if_neg aaV];intro a b;obtain⟨b,o,p⟩:=U.set_nil b;obtain⟨b,r,x⟩:=U.set_nil b;obtain⟨b,y,z⟩:=U.set_nil b;obtain⟨b,C,D⟩:=U.set_nil b;obtain⟨b,E,F⟩:=U.set_nil b;exact(P a b E F C D y z r x o p).mpr (G a b E F C D y z r x o p)
def Yr {d:Nat}{v:R}{c:Nat}{h k o p:bs} (T: ∀a,f a=none->a≠e->e≠a->a≠i->i≠a->a≠M->M≠a->a≠b9->b9≠a->a≠j2->j2≠a->a≠c->c≠a->j6 a) (V:aW d (v::g):=by simp[aW,R.cells, *]) (W: ∀a,f a=none->a≠e->e≠a->a≠i->i≠a->a≠M->M≠a->a≠b9->b9≠a->a≠j2->j2≠a->a≠c->c≠a->t (.J (v::g) (.buf a (v::g).length)) (((((((f.set e X).set i j8).set M h).set b9 k).set j2 o).set c p).set a (.buf d (v::g).length (v::g).length))=j6 a:=by intros;exact eC):jK d ((((((f.set e X).set i j8).set M h).set b9 k).set j2 o).set c p) (v::g) (bX t ()):=by refine⟨V,?_⟩;rw[if_neg aaV];intro a b;obtain⟨b,r,x⟩:=U.set_nil b;obtain⟨b,y,z⟩:=U.set_nil b;obtain⟨b,C,D⟩:=U.set_nil b;obtain⟨b,E,F⟩:=U.set_nil b;obtain⟨b,G,L⟩:=U.set_nil b;obtain⟨b,P,S⟩:=U.set_nil b;exact(W a b P S G L E F C D y z r x).mpr (T a b P S G L E F C D y z r x)
def mo (a:AC K.p b5 (g++c0++B) f λb c=>c=f/\b=n) (d:Q) (h:fu K.p b5=true:=by kernel_rfl) (k:t n f=Q:=by exact eC):xp K (.bG b5 g B) c0 f (bX t ()):=
 eL h a λ_ _ a=>by rw[a.1,a.2];exact k.mpr d
end
variable{h8:et}{I:Bool}{e7:gh -> Fr -> U -> Prop}{j:Fr}
section
theorem xD {r:et}{h:Fr}{k:List Nat}{x:b0->List (Nat×R)}{y:b0->U->Prop} (z: ∀c∈wr h8,c∈k) (D:hz k h j) (o:List Nat) (V:o.all (λc=> !k.contains c)=true)
  (E:c3 K h8 (eQ (λa b=> ∃C,y C b/\gK a (x C)) e7) j f) (F: ∀d b,y d b-> ∀a,c3 K r e7 (gY (gY a (keeps h o)) (x d)) b):c3 K h8 (eQ (c3 K r e7) e7) j f:=by
 refine jj h8 (λG a b p=> ?_) j f (oe h8 z j f D E);cases G with
 |norm=>
  obtain⟨⟨d,L,P⟩,S⟩:=p;have T:gK a (keeps h o):=xA λc W=>S c λz=>by
   simp_all
  have:=F d b L a;rw[sx T,sx P]at this;exact this
 |exit e=>exact p.1
 |ret=>exact p.1
def pA {h:et} (b:List Nat) (k:b0->List (Nat×R)) (o:b0->U->Prop)
  (x:c3 K h8 (eQ (λc a=> ∃p,o p a/\gK c (k p)) e7) j f) (d: ∀r a,o r a-> ∀c,c3 K h e7 (gY (gY c (keeps j b)) (k r)) a) (y:b.all (λz=> !(wr h8).contains z)=true:=by kernel_rfl):c3 K (.seq h8 h) e7 j f:=
 xD (k:=wr h8) (λ_ d=>d) (λ_ _=>rfl) b y x d
def om {h k:et}{z:cz (c3 K h (eQ (c3 K h8 e7) e7) j f)}{C:cz (c3 K k (eQ (c3 K h8 e7) e7) j f)} (o:List Nat) (p:b0->List (Nat×R)) (r:b0->U->Prop)
  (D:I=true->c3 K h (eQ (λc a=> ∃d,r d a/\gK c (p d)) e7) j f) (E:I=false->c3 K k (eQ (λc a=> ∃d,r d a/\gK c (p d)) e7) j f) (b: ∀x a,r x a-> ∀c,c3 K h8 e7 (gY (gY c (keeps j o)) (p x)) a) (y:o.all (λI=> !(wr h++wr k).contains I)=true:=by kernel_rfl):
  ks (.v (.bool I)) (cu (c3 K h (eQ (c3 K h8 e7) e7) j f) z) (cu (c3 K k (eQ (c3 K h8 e7) e7) j f) C):=
 ⟨λh8=>xD (λ_ b=>a8M _ b) (λ_ _=>rfl) o y (D h8) b,λh8=>xD (λ_ b=>a8H _ b) (λ_ _=>rfl) o y (E h8) b⟩
end
def D1 (a:Q=b3:=by first|(simp -dsimp -implicitDefEqProofs (disch:=first|omega|assumption|exact U.uq aaX aaX|(simp only[bd,Nat.reduceAdd];try omega)) only[Yg,oc,go_sem,simprocAttr,-List.reduceReplicate,↓eu,ur,uo, *]<;>rfl)|rfl):Q=b3:=a
def pB (a:e<=i:=by first|omega|((try simp only[a6A,a6E,a6G,a6J,a6C,a6R, *])<;>omega)):e<=i:=a
def rd (a:f.sub s) (b:f e=some (.cells g)):s.read e=some g:=U.ae (a _ _ b)
theorem D2 {v:R} (b:aW e g) (h:v.cells.length=e):aW e (g++ [v]):=λc d=>by
 rcases a6L.1 d with a|a
 .exact b c a
 grind
def D3:aW e []:=λ_ a=>by cases a
variable{N e5 h6:Own}
theorem bf.ns (r:bf s f e g N): ∃d:U,bf d f e g N/\d.sub f/\s.sub d/\ ∀a,(∀b o,N= .buf b o->b≠a)->d a=f a:=by
 obtain⟨k,h⟩:=r;cases N with
 |buf b o=>
  have p:(f.del b).sub f:=λa N c=>by
   grind[U.iB,U.eH]
  refine⟨f.del b,⟨p,U.iB _ _,h.2⟩,p,λa N c=> ?_,λa c=>U.eH _ (a6I (c _ _ rfl))⟩;have x:a≠b:=by rintro rfl;rw[h.1]at c;cases c
  rw[U.eH _ x];exact k _ _ c
 |any=>trivial
 |nil=>exact⟨f,⟨U.a6,h⟩,U.a6,k,λ_ _=>rfl⟩
 |zero=>exact⟨f,⟨U.a6,h⟩,U.a6,k,λ_ _=>rfl⟩
def sA {k:cz t} (d:bf s f e g N) (o:aW e g) (p:aW e B) (r:(g.length+B.length)*i<=140737488355328) (x:g.length+B.length<=9223372036854775807)
  (y: ∀b a,bf s a e (g++B) b->iG f a->t (.J (g++B) b) a):mj e i f (.J g N) (.J B e5) (bX t k):=by
 obtain⟨G,z,L,C,D⟩:=d.ns;refine eh z o p r x λb a h=>y b a (h.base C) λE P c=>h.sub _ _ ?_;rw[D E (λS T F=>by subst F;rintro rfl;rw[d.2.2]at c;cases c)];exact c
section
def hA {v:R}{k:Nat->R->U->Prop}{o:Nat->Own->U->Prop} (p:bf f s e g N) (y:aW e g) (z: ∀a c b,bf f b e (g++ [v]) c->iG s b->o a c b)
  (C:Q=jK e s [v] (bX t ()):=by exact hV)
  (D: ∀a,s a=none->t (.J [v] (.buf a 1)) (s.set a (.buf e 1 1))=mj e i (s.set a (.buf e 1 1)) (.J g N) (.J [v] (.buf a 1)) (bX (k a) ()):=by intro a d;exact eC)
  (E: ∀a c b,bf f b e (g++ [v]) c->k a (.J (g++ [v]) c) b=o a c b:=by intro a c b p;exact hV)
  (r:v.cells.length=e:=by first|rfl|assumption|simp[R.cells, *]) (P:g.length<=1000000000:=by exact pB) (F:i<=10000:=by decide):Q:=by
 rw[C];refine⟨λG h=>by rw[a6U.1 h];exact r,?_⟩;rw[if_neg aaV];intro a d;refine(D a d).mpr (sA (p.mono (U.af U.a6 d)) y (λG h=>by rw[a6U.1 h];exact r) ?_ ?_ λc b x L=>(E a c b x).mpr (z a c b x ((U.qW (U.af U.a6 d)).trans L)))
 .exact a7y (a9G (show g.length+1<=1000000001 by omega) F) aaY
 .simp;omega
def Ys:aW 1 (A.map ak):=λb a=>by obtain⟨_,_,rfl⟩:=a6S.1 a;rfl
def Yt {d:UInt8}{k:Nat->R->U->Prop}{o:Nat->Own->U->Prop} (p:bf f s 1 (A.map ak) N) (x: ∀a c b,bf f b 1 ((A++ [d]).map ak) c->iG s b->o a c b)
  (y:Q=jK 1 s [ak d] (bX t ()):=by exact hV)
  (z: ∀a,s a=none->t (.J [ak d] (.buf a 1)) (s.set a (.buf 1 1 1))=mj 1 e (s.set a (.buf 1 1 1)) (.J (A.map ak) N) (.J [ak d] (.buf a 1)) (bX (k a) ()):=by intro a G;exact eC)
  (C: ∀a c b,bf f b 1 ((A++ [d]).map ak) c->k a (.J ((A++ [d]).map ak) c) b=o a c b:=by intro a c b p;exact hV)
  (D:A.length<=1000000000:=by exact pB) (E:e<=10000:=by decide):Q:=by
 have r:A.map ak++ [ak d]=(A++ [d]).map ak:=by rw[a7x];rfl
 refine hA p Ys (λa c b h F=>x a c b (r▸h) F) y z (λa c b h=> ?_) rfl (by rw[a6J];exact D) E;rw[r]at h|-;exact C a c b h
def kx {c:Own->U->Prop} (d:bf f s e g N) (k:aW e g) (o:aW e B) (p: ∀b a,bf f a e (g++B) b->iG s a->c b a)
  (r:Q=mj e i s (.J g N) (.J B e5) (bX t ()):=by exact hV) (x: ∀b a,bf f a e (g++B) b->t (.J (g++B) b) a=c b a:=by intro b a d;exact hV)
  (y:g.length+B.length<=1000000000:=by exact pB) (z:i<=10000:=by decide):Q:=by
 rw[r];refine sA d k o (a7y (a9G y z) aaY) aaU λb a h C=>(x b a h).mpr (p b a h C)
def sB {c:Own->U->Prop} (h:aW e g) (k: ∀a b,bf f b e g a->c a b)
  (o:Q=mj e i f (.J [] N) (.J g e5) (bX t ()):=by exact D1) (p:N= .nil\/N= .zero:=by first|exact .inl rfl|exact .inr rfl) (r: ∀a b,bf f b e g a->t (.J g a) b=c a b:=by intro a b d;exact hV)
  (x:g.length<=1000000000:=by exact pB) (y:i<=10000:=by decide):Q:=
 kx (f:=f) (c:=c) (by rcases p with rfl|rfl;exact bf.nil U.a6;exact bf.zero U.a6) D3 h (λa b d _=>k a b d) o r (by simpa using x) y
def qY (c:av f s e B n) (k:bV s e b6=some (v,g)) (o: ∀a b,av f b e (B++g) a->Z a b)
  (p:Q=jL e i s n b6 (bX t ()):=by exact hV) (r: ∀a b,av f b e (B++g) a->t a b=Z a b:=by intro a b c;exact hV)
  (d:0<e:=by decide) (x:g.length=v*e:=by first|rfl|omega|simp) (y:B.length+g.length<=1000000000:=by exact pB) (z:i<=10000:=by decide):Q:=by
 rw[p];refine fb c d k x (a7y (a9G y z) (a7y aaY (aai _ d))) aaU λa b h=>(r a b h).mpr (o a b h)
def uA (c:bV f e n=some (v,g)) (d: ∀a b,av f b e g a->Z a b)
  (h:Q=jL e i f (.J [] N) n (bX t ()):=by exact D1) (k:N= .nil\/N= .zero:=by first|exact .inl rfl|exact .inr rfl) (o: ∀a b,av f b e g a->t a b=Z a b:=by intro a b z;exact hV)
  (p:0<e:=by decide) (r:g.length=v*e:=by first|rfl|omega|simp) (x:g.length<=1000000000:=by exact pB) (y:i<=10000:=by decide):Q:=
 qY (B:= []) (f:=f) (by rcases k with rfl|rfl;exact av.nil U.a6;exact av.zero U.a6) c d h o p r (by simpa using x) y
def Yu {v:R}{h k:Nat->R->U->Prop} (o:av f s 1 g n) (r: ∀a b c,av f c 1 (g++ [v]) b->h a b c) (x:Q=ob 1 s [v] (bX t ()):=by exact hV)
  (y: ∀a,s a=none->t (.ao a 1 1 1) (s.set a (.cells [v]))=jL 1 e (s.set a (.cells [v])) n (.ao a 1 1 1) (bX (k a) ()):=by intro a d;exact eC)
  (z: ∀a b c,av f c 1 (g++ [v]) b->k a b c=h a b c:=by intro a b c o;exact hV) (p:v.cells= [v]:=by first|rfl|assumption) (C:g.length+1<=1000000000:=by exact pB) (D:e<=10000:=by decide):Q:=by
 have E:flat [v]= [v]:=by simp[flat,p]
 rw[x];refine eK (λG F=>by rw[a6U.1 F,p];rfl) aaV λa d=> ?_;rw[E];refine(y a d).mpr (qY (o.mono (U.af U.a6 d)) ?_ (r a) rfl (z a) aaY rfl C D);simp[bV,U.read,U.set]
end
end Go.bD
set_option maxRecDepth 100000
namespace Go.Proofs.YtcfpcblgmmeioaaGreat
open Go Go.bD
def rotl (a:UInt32) (b:Nat):UInt32:=a<<<UInt32.ofNat b|||a>>>UInt32.ofNat (32 - b)
def Yv (a:Nat) (b:0<a/\a<32):br .and (.int .u64 (IntKind.u64.wrap (-((32 - a:Nat):Int)))) (.int .u64 31)=some (.int .u64 a):=by have c: ∀a:Fin 32,0<a.val->IntKind.u64.wrap (BitVec.ofInt IntKind.u64.bits (IntKind.u64.wrap (-((32 - a.val:Nat))))&&&BitVec.ofInt IntKind.u64.bits 31).toNat=(a.val):=aaY;have:=c ⟨a,b.2⟩ b.1;simp only[br,ft,hN,this];rfl
theorem Yw (c:UInt32) (a:Nat) (d:0<a/\a<32) (b:U):AC Tryz.prog 250 [.v (.int .u32 c.toNat),.v (.int .i64 (-((32 - a:Nat):Int)))] b λh k=>k=b/\h= .v (.int .u32 (rotl c a).toNat):=by refine bc hm RV aaV ?_;refine aF (Yv a d) ?_;refine⟨b,U.a6,rfl,?_⟩;grind[rotl]
def mq (b:UInt32) (d:Int) (a:Nat) (h:0<a/\a<32) (k:d= -((32 - a:Nat):Int)) (c:U):AC Tryz.prog 250 [.v (.int .u32 b.toNat),.v (.int .i64 d)] c λo p=>p=c/\o= .v (.int .u32 (rotl b a).toNat):=by subst k;exact Yw b a h c
def word (a:List UInt8) (b:Nat):UInt32:=(a.getD (4*b) 0).toUInt32<<<24|||(a.getD (4*b+1) 0).toUInt32<<<16|||(a.getD (4*b+2) 0).toUInt32<<<8|||(a.getD (4*b+3) 0).toUInt32
def Yx (a:UInt32):UInt32:=rotl a 25^^^rotl a 14^^^a>>>3
def Yy (a:UInt32):UInt32:=rotl a 15^^^rotl a 13^^^a>>>10
def more (a:List UInt32):List UInt32:=a++ [a.getD (a.length - 16) 0+Yx (a.getD (a.length - 15) 0)+a.getD (a.length - 7) 0+Yy (a.getD (a.length - 2) 0)]
def first (a:List UInt8) (b:Nat):List UInt32:=(List.range b).map (word a)
def grow:Nat->List UInt32->List UInt32
 |0,a=>a
 |b+1,a=>grow b (more a)
def sched (a:List UInt8):List UInt32:=grow 48 (first a 16)
def ej (a:List UInt32):List R:=a.map (λb=> .v (.int .u32 b.toNat))++List.replicate (64 - a.length) (.v (.int .u32 0))
def Yz:ej []=List.replicate 64 (.v (.int .u32 0)):=by rfl
variable{h7:List UInt32}
def sC (a:h7.length<=64):(ej h7).length=64:=by simp[ej];omega
variable{e i v M b9 j2:Nat}
theorem xE (a:UInt32) (b:e=h7.length) (d:h7.length<64):putAt (ej h7) e [.v (.int .u32 a.toNat)]=ej (h7++ [a]):=by subst b;have c:64 - h7.length=(64 -(h7.length+1))+1:=aaU;simp only[putAt,ej,c,a8O];grind
theorem lu (a:e<h7.length):aL false 1 ((ej h7).drop e)= .v (.int .u32 (h7.getD e 0).toNat):=by grind[aL,ej,List.map_drop,List.drop_eq_getElem_cons,List.getD]
theorem YA (c:List UInt8) (V:Own) (i:c.length=64) (D:U):AC Tryz.prog 248 [.J (c.map ak) V] D λj r=>r=D/\j= .agg ((sched c).map λP=> .v (.int .u32 P.toNat)):=by
 refine bc hm RR aaV ?_;refine ei ?_;refine aN λF l=> ?_;refine ei ?_;refine aN λG S=> ?_;obtain⟨s,S⟩:=U.gI S;refine ei ?_;refine cm (λb r=> ∃a:Nat,a<=16/\b 0= .J (c.map ak) V/\b 2= .ptr F 0/\b 3= .ptr G 0/\b 10= .v (.int .i64 a)/\r=(D.set F (.cells (List.replicate 64 (.v (.int .u32 0))))).set G (.cells (ej (first c a))))
  (λb _=>match b 10 with| .v (.int _ T)=>(16 - T).toNat| _=>0) ⟨0,aaU,?_⟩ ?_
 .simp -dsimp -implicitDefEqProofs (disch:=first|omega|assumption|(simp only[bd,Nat.reduceAdd];try omega)) only[go_sem,↓reduceIte,Nat.reduceEqDiff,Nat.reduceAdd,Nat.reduceSub,Nat.reduceMul,Nat.reduceLeDiff,Nat.reduceLT,Int.reduceNeg,Int.reduceToNat,Int.reduceAdd,Int.reduceSub,Int.reduceMul,Int.reduceLT,Int.reduceLE,Int.reduceEq,Int.reduceNe,first,List.range_zero,Yz]
  all_goals (simp)
 .rintro b r ⟨a,m,W,d,h,e,rfl⟩;have f:(first c a).length=a:=by simp[first]
  by_cases k:(a:Int)<16
  .have o:(ej (first c a)).length=64:=sC aaU;have n:(4*(a:Int)).toNat=4*a:=aaU;have x:(4*(a:Int)+1).toNat=4*a+1:=aaU;have y:(4*(a:Int)+2).toNat=4*a+2:=aaU;have z:(4*(a:Int)+3).toNat=4*a+3:=aaU;have t:(a:Int).toNat+1<=64:=aaU;refine aF (fA @W @d @h @e @k @o @i @n @x @y @z) ?_;rw[xE _ f.symm aaU];refine⟨⟨a+1,aaU,aaV,?_⟩,aaU⟩;simp only[first,aan,a7x,a6Q,a7W];rfl
  .obtain rfl:a=16:=aaU;refine aF (bh @W @d @h @e @k) ?_;refine cm (λb r=> ∃(p:List UInt32) (a:Nat),a<=48/\p.length=16+a/\grow (48 - a) p=sched c/\b 2= .ptr F 0/\b 3= .ptr G 0/\b 5= .v (.int .i64 ((16+a:Nat)))/\r=(D.set F (.cells (List.replicate 64 (.v (.int .u32 0))))).set G (.cells (ej p)))
    (λb _=>match b 5 with| .v (.int _ T)=>(64 - T).toNat| _=>0) ⟨first c 16,0,aaU,f,rfl,?_⟩ ?_
   .simp -dsimp -implicitDefEqProofs (disch:=first|omega|assumption|(simp only[bd,Nat.reduceAdd];try omega)) only[go_sem,↓reduceIte,Nat.reduceEqDiff,Nat.reduceAdd,Nat.reduceSub,Nat.reduceMul,Nat.reduceLeDiff,Nat.reduceLT,Int.reduceNeg,Int.reduceToNat,Int.reduceAdd,Int.reduceSub,Int.reduceMul,Int.reduceLT,Int.reduceLE,Int.reduceEq,Int.reduceNe,d,h,grow];rfl
   .rintro b r ⟨p,a,m,L,g,d,h,C,rfl⟩;by_cases k:((16+a:Nat):Int)<64
    .have o:(ej p).length=64:=sC aaU;have x:(((16+a:Nat):Int) - 15).toNat=a+1:=aaU;have y:(((16+a:Nat):Int) - 2).toNat=a+14:=aaU;have z:(((16+a:Nat):Int) - 16).toNat=a:=aaU;have E:(((16+a:Nat):Int) - 7).toNat=a+9:=aaU;refine aF (cd @d @h @C @k @x @y @z @E @o @lu) ?_;refine ah (mq _ _ 25 aaY aaY _) ?_;rintro _ _ ⟨rfl,rfl⟩;refine aF (cd @d @h @C @k @x @y @z @E @o @lu) ?_;refine ah (mq _ _ 14 aaY aaY _) ?_;rintro _ _ ⟨rfl,rfl⟩;refine aF (cd @d @h @C @k @x @y @z @E @o @lu) ?_;refine ah (mq _ _ 15 aaY aaY _) ?_;rintro _ _ ⟨rfl,rfl⟩;refine aF (cd @d @h @C @k @x @y @z @E @o @lu) ?_;refine ah (mq _ _ 13 aaY aaY _) ?_;rintro _ _ ⟨rfl,rfl⟩;refine aF (cd @d @h @C @k @x @y @z @E @o @lu) ?_;rw[xE _ L.symm aaU];refine⟨⟨_,a+1,aaU,by simp[L];omega,?_,?_,rfl⟩,aaU⟩
     .rw[<-g,show 48 - a=(48 -(a+1))+1 by omega,grow,more,L];rw[show 16+a - 16=a by omega,show 16+a - 15=a+1 by omega,show 16+a - 7=a+9 by omega,show 16+a - 2=a+14 by omega];rfl
     .simp;omega
    .obtain rfl:a=48:=aaU;have o:(ej p).length=64:=sC aaU;have q:(ej p).take 64=p.map λP=> .v (.int .u32 P.toNat):=by grind[ej,List.take_of_length_le]
     have u:p=sched c:=g;refine aF (c9 @d @h @C @k @o @q @L) ?_;exact⟨D,U.af (U.af U.a6 l) S,rfl,by grind⟩
def wl (a:List UInt32):List R:=a.map λb=> .v (.int .u32 b.toNat)
theorem eM:(wl h7).length=h7.length:=by simp[wl]
theorem hB (a:e<h7.length):aL false 1 ((wl h7).drop e)= .v (.int .u32 (h7.getD e 0).toNat):=by simp only[aL,wl];simp_all
def pC (a:0<h7.length):aL false 1 (wl h7)= .v (.int .u32 (h7.getD 0 0).toNat):=hB (e:=0) a
def D4 (a:UInt32) (b:e<h7.length):putAt (wl h7) e [.v (.int .u32 a.toNat)]=wl (h7.set e a):=by simp only[putAt,wl,a6E,a6G,<-aa1,<-a9u];rw[a7R,if_pos b];simp
def nt:List UInt32:= [
 0x428a2f98,0x71374491,0xb5c0fbcf,0xe9b5dba5,0x3956c25b,0x59f111f1,0x923f82a4,0xab1c5ed5,
 0xd807aa98,0x12835b01,0x243185be,0x550c7dc3,0x72be5d74,0x80deb1fe,0x9bdc06a7,0xc19bf174,
 0xe49b69c1,0xefbe4786,0x0fc19dc6,0x240ca1cc,0x2de92c6f,0x4a7484aa,0x5cb0a9dc,0x76f988da,
 0x983e5152,0xa831c66d,0xb00327c8,0xbf597fc7,0xc6e00bf3,0xd5a79147,0x06ca6351,0x14292967,
 0x27b70a85,0x2e1b2138,0x4d2c6dfc,0x53380d13,0x650a7354,0x766a0abb,0x81c2c92e,0x92722c85,
 0xa2bfe8a1,0xa81a664b,0xc24b8b70,0xc76c51a3,0xd192e819,0xd6990624,0xf40e3585,0x106aa070,
 0x19a4c116,0x1e376c08,0x2748774c,0x34b0bcb5,0x391c0cb3,0x4ed8aa4a,0x5b9cca4f,0x682e6ff3,
 0x748f82ee,0x78a5636f,0x84c87814,0x8cc70208,0x90befffa,0xa4506ceb,0xbef9a3f7,0xc67178f2]
def gn:List UInt32:= [0x6a09e667,0xbb67ae85,0x3c6ef372,0xa54ff53a,0x510e527f,0x9b05688c,0x1f83d9ab,0x5be0cd19]
def xF (a:U):AC Tryz.prog 194 [] a λb c=>c=a/\b= .agg (wl gn):=by refine bc hm Qr aaV ?_;refine ei ?_;refine aN λh d=> ?_;simp -dsimp -implicitDefEqProofs (disch:=first|omega|assumption|(simp only[bd,Nat.reduceAdd];try omega)) only[go_sem,simprocAttr,putAt,List.take,List.drop,List.replicate,a7M,a6T];exact⟨a,U.af U.a6 d,rfl,rfl⟩
def YB (a:U):AC Tryz.prog 249 [] a λb c=>c=a/\b= .agg (wl nt):=by refine bc hm RT aaV ?_;refine ei ?_;refine aN λh d=> ?_;simp -dsimp -implicitDefEqProofs (disch:=first|omega|assumption|(simp only[bd,Nat.reduceAdd];try omega)) only[go_sem,simprocAttr,putAt,List.take,List.drop,List.replicate,a7M,a6T];exact⟨a,U.af U.a6 d,rfl,rfl⟩
def sD (p r:UInt32):List UInt32->List UInt32
 | [a,c,d,x,b,h,k,y]=>
  let o:=y+(rotl b 26^^^rotl b 21^^^rotl b 7)+(b&&&h^^^ ~~~b&&&k)+p+r
  let z:=(rotl a 30^^^rotl a 19^^^rotl a 10)+(a&&&c^^^a&&&d^^^c&&&d)
  [o+z,a,c,d,x+o,b,h,k]
 |C=>C
def iI:List UInt32->List UInt32->List UInt32->List UInt32
 |a::bF,b::ws,v=>iI bF ws (sD a b v)
 | _,_,v=>v
def comp (a:List UInt32) (b:List UInt8):List UInt32:=List.zipWith (·+ ·) (iI nt (sched b) a) a
def jN (a:Nat) (v b:List UInt32):List UInt32:=List.zipWith (·+ ·) (v.take a) (b.take a)++v.drop a
def D5: ∀(a:Nat) (b:List UInt32),(grow a b).length=b.length+a
 |0,b=>rfl
 |a+1,b=>by rw[grow,D5 a,more];simp;omega
def YC (a:List UInt8):(sched a).length=64:=by simp[sched,D5,first]
def YD (a:List UInt8) (c:Own) (d:a.length=64) (b:U):AC Tryz.prog 248 [.J (a.map ak) c] b λh k=>k=b/\h= .agg (wl (sched a)):=YA a c d b
def D6 (v b:List UInt32) (c:v.length=8) (d:b.length=8) (a:Nat) (h:a<8):
  (jN a v b).length=8/\(jN a v b).set a ((jN a v b).getD a 0+b.getD a 0)=jN (a+1) v b:=by
 match v,c,b,d with
 | [k,o,p,r,x,y,z,C],_,[D,E,F,G,L,P,S,T],_=>rcases(by omega:a=0\/a=1\/a=2\/a=3\/a=4\/a=5\/a=6\/a=7)with rfl|rfl|rfl|rfl|rfl|rfl|rfl|rfl<;>exact⟨rfl,rfl⟩
def YE (a b:UInt32) (v:List UInt32) (c:v.length=8):(sD a b v).length=8:=by
 match v,c with
 | [d,h,k,o,p,r,x,a],_=>rfl
def D7: ∀(a b v:List UInt32),v.length=8->(iI a b v).length=8
 | [],_,v,c=>by trivial
 | _:: _,[],v,c=>by trivial
 |d::a,h::b,v,c=>by rw[iI];exact D7 a b _ (YE d h v c)
theorem D8 (b c v:List UInt32) (a:Nat) (d:a<b.length) (h:a<c.length):iI (b.drop a) (c.drop a) v=iI (b.drop (a+1)) (c.drop (a+1)) (sD (b.getD a 0) (c.getD a 0) v):=by grind[List.drop_eq_getElem_cons,iI,List.getD]
theorem YF (c x y:List UInt32) (I:List UInt8) (K:Own) (t:c.length=8) (N:x.length=64) (O:y.length=64)
  (Q: ∀o,AC Tryz.prog 249 [] o λT p=>p=o/\T= .agg (wl x))
  (X: ∀o,AC Tryz.prog 248 [.J (I.map ak) K] o λT p=>p=o/\T= .agg (wl y)) (o:U):
  AC Tryz.prog 195 [.agg (wl c),.J (I.map ak) K] o λT p=>p=o/\T= .agg (wl (List.zipWith (·+ ·) (iI x y c) c)):=by
 refine bc hm Qt aaV ?_;have z:(wl c).length=8:=by rw[eM,t]
 have C:(wl x).length=64:=by rw[eM,N]
 have D:(wl y).length=64:=by rw[eM,O]
 refine aF @z ?_;refine aN λW Y=> ?_;refine aF @z ?_;refine aN λe u=> ?_;obtain⟨k6,u⟩:=U.gI u;refine aF @z ?_;refine ah (X _) ?_;rintro _ _ ⟨rfl,rfl⟩;refine aF @z ?_;refine ah (Q _) ?_;rintro _ _ ⟨rfl,rfl⟩;refine aF @z ?_;refine aN λw V=> ?_;obtain⟨k7,V⟩:=U.gI V;obtain⟨k8,V⟩:=U.gI V;refine aF @z ?_;refine aN λA S=> ?_;obtain⟨k9,S⟩:=U.gI S;obtain⟨l0,S⟩:=U.gI S;obtain⟨l1,S⟩:=U.gI S;refine aF @z ?_;refine aN λf E=> ?_;obtain⟨l2,E⟩:=U.gI E;obtain⟨l3,E⟩:=U.gI E;obtain⟨l4,E⟩:=U.gI E;obtain⟨l5,E⟩:=U.gI E;refine aF (aM @z @C @D @a6z.{0}) ?_;refine cm (λb p=> ∃(a:Nat) (v:List UInt32),a<=64/\v.length=8/\iI (x.drop a) (y.drop a) v=iI x y c/\b 2= .ptr W 0/\b 4= .ptr e 0/\b 5= .ptr w 0/\b 6= .ptr A 0/\b 7= .ptr f 0/\b 18= .v (.int .i64 a)/\
   p=(((((o.set W (.cells (wl c))).set e (.cells (List.replicate 8 (.v (.int .u32 0))))).set w (.cells (wl y))).set A (.cells (wl x))).set f (.cells (wl v))))
  (λb _=>match b 18 with| .v (.int _ B)=>(64 - B).toNat| _=>0) ⟨0,c,aaU,t,rfl,?_⟩ ?_
 .exact qT
  all_goals (trivial)
 .rintro b p ⟨a,v,Z,H,j9,d,h,F,G,k,L,rfl⟩;have P:(wl v).length=8:=by rw[eM,H]
  by_cases r:(a:Int)<64
  .obtain⟨g,i,j,l,m,n,q,s,rfl⟩: ∃g i j l m n q s,v= [g,i,j,l,m,n,q,s]:=by
    match v,H with
    | [g,i,j,l,m,n,q,s],_=>simp
   refine aF (gl @d @h @F @G @k @L @r @P @C @D @hB @pC @a7h.{0} @a7k.{0}) ?_;refine ah (mq _ _ 26 aaY aaY _) ?_;rintro _ _ ⟨rfl,rfl⟩;refine aF (gl @d @h @F @G @k @L @r @P @C @D @hB @pC @a7h.{0} @a7k.{0}) ?_;refine ah (mq _ _ 21 aaY aaY _) ?_;rintro _ _ ⟨rfl,rfl⟩;refine aF (gl @d @h @F @G @k @L @r @P @C @D @hB @pC @a7h.{0} @a7k.{0}) ?_;refine ah (mq _ _ 7 aaY aaY _) ?_;rintro _ _ ⟨rfl,rfl⟩;refine aF (gl @d @h @F @G @k @L @r @P @C @D @hB @pC @a7h.{0} @a7k.{0}) ?_;refine ah (mq _ _ 30 aaY aaY _) ?_;rintro _ _ ⟨rfl,rfl⟩;refine aF (gl @d @h @F @G @k @L @r @P @C @D @hB @pC @a7h.{0} @a7k.{0}) ?_;refine ah (mq _ _ 19 aaY aaY _) ?_;rintro _ _ ⟨rfl,rfl⟩;refine aF (gl @d @h @F @G @k @L @r @P @C @D @hB @pC @a7h.{0} @a7k.{0}) ?_;refine ah (mq _ _ 10 aaY aaY _) ?_;rintro _ _ ⟨rfl,rfl⟩;simp -dsimp -implicitDefEqProofs (disch:=first|omega|assumption|(simp only[bd,Nat.reduceAdd];try omega)) only[go_sem,↓reduceIte,Nat.reduceEqDiff,Nat.reduceAdd,Nat.reduceSub,Nat.reduceMul,Nat.reduceLeDiff,Nat.reduceLT,Int.reduceNeg,Int.reduceToNat,Int.reduceAdd,Int.reduceSub,Int.reduceMul,Int.reduceLT,Int.reduceLE,Int.reduceEq,Int.reduceNe,d,h,F,G,k,L,r,P,C,D,hB,pC,a7h,a7k,putAt,List.take,List.drop,List.replicate,a7M,a6T];refine⟨⟨a+1,sD (x.getD a 0) (y.getD a 0) [g,i,j,l,m,n,q,s],aaU,rfl,?_,aaV,rfl⟩,aaU⟩;grind[D8]
  .obtain rfl:a=64:=aaU;have k0:iI x y c=v:=by rw[<-j9,a7Z aaU];rfl
   refine aF (cd @d @h @F @G @k @L @r @P @C @D) ?_;refine cm (λb p=> ∃a:Nat,a<=8/\b 2= .ptr W 0/\b 4= .ptr e 0/\b 7= .ptr f 0/\b 108= .v (.int .i64 a)/\
     p=(((((o.set W (.cells (wl c))).set e (.cells (List.replicate 8 (.v (.int .u32 0))))).set w (.cells (wl y))).set A (.cells (wl x))).set f (.cells (wl (jN a v c)))))
    (λb _=>match b 108 with| .v (.int _ B)=>(8 - B).toNat| _=>0) ⟨0,aaU,?_⟩ ?_
   .refine aF (aE @d @h @k) ?_;rfl
   .rintro b p ⟨a,Z,d,h,k,M,rfl⟩;by_cases r:(a:Int)<8
    .obtain⟨k1,k2⟩:=D6 v c H t a aaU;have k3:(wl (jN a v c)).length=8:=by rw[eM,k1]
     refine aF (cd @d @h @k @M @r @z @k3 @hB @D4 @k2) ?_;grind
    .obtain rfl:a=8:=aaU;have k4:jN 8 v c=List.zipWith (·+ ·) v c:=by grind[jN,List.take_of_length_le,List.drop_of_length_le]
     have k5:(wl (List.zipWith (·+ ·) v c)).length=8:=by rw[eM];simp;omega
     rw[k4];refine aF (c9 @d @h @k @M @r @k5 @a6z.{0}) ?_;refine⟨o,?_,rfl,by rw[k0]⟩;exact U.af (U.af (U.af (U.af (U.af U.a6 Y) u) V) S) E
def D9 (b:List UInt32) (a:List UInt8) (c:Own) (h:b.length=8) (k:a.length=64) (d:U):
  AC Tryz.prog 195 [.agg (wl b),.J (a.map ak) c] d λo p=>p=d/\o= .agg (wl (comp b a)):=
 YF b nt (sched a) a c h rfl (YC a) YB (YD a c k) d
def xG (a:List UInt32) (c:List UInt8) (b:a.length=8):(comp a c).length=8:=by simp[comp,D7 _ _ _ b,b]
def bytes (a:List UInt8) (b:Own):R:= .J (a.map ak) b
def cF (a:Nat):List UInt8:= [UInt8.ofNat (a>>>56),UInt8.ofNat (a>>>48),UInt8.ofNat (a>>>40),UInt8.ofNat (a>>>32),UInt8.ofNat (a>>>24),UInt8.ofNat (a>>>16),UInt8.ofNat (a>>>8),UInt8.ofNat (a>>>0)]
theorem Da (b:Nat) (x:U):AC Tryz.prog 196 [.v (.int .u64 b)] x λC h=> ∃c,bf x h 1 ((cF b).map ak) c/\C= .J ((cF b).map ak) c:=by
 refine bc hm Qv aaV ?_;refine ei ?_;refine cm (λd h=> ∃(a:Nat) (c:Own),a<=8/\bf x h 1 (((cF b).take a).map ak) c/\d 0= .v (.int .u64 b)/\d 3= .J (((cF b).take a).map ak) c/\d 4= .v (.int .i64 (56 - 8*(a))))
  (λd _=>match d 4 with| .v (.int _ b)=>(b+8).toNat| _=>0) ⟨0,.nil,aaU,bf.Wi U.a6,?_⟩ ?_
 .refine ei ?_;rfl
 .rintro d h ⟨a,c,G,y,k,o,p⟩;by_cases r:(0)<=56 - 8*(a:Int)
  .refine aF (bh @k @o @p @r @iF) ?_;refine sm U.a6 λL P D=> ?_;refine aF (aM @k @o @p @r) ?_;refine xh (y.mono D.sub) (by simp[cF];omega) λE S F=> ?_;refine aF (aM @k @o @p @r) ?_;refine⟨⟨a+1,E,aaU,?_,?_⟩,aaU⟩
   .have z:(cF b).take (a+1)=(cF b).take a++ [UInt8.ofNat (b>>>(56 - 8*(a:Int)).toNat)]:=by rcases(by omega:a=0\/a=1\/a=2\/a=3\/a=4\/a=5\/a=6\/a=7)with rfl|rfl|rfl|rfl|rfl|rfl|rfl|rfl<;>rfl
    rw[z];exact F
   .have z:(cF b).take (a+1)=(cF b).take a++ [UInt8.ofNat (b>>>(56 - 8*(a:Int)).toNat)]:=by rcases(by omega:a=0\/a=1\/a=2\/a=3\/a=4\/a=5\/a=6\/a=7)with rfl|rfl|rfl|rfl|rfl|rfl|rfl|rfl<;>rfl
    grind
  .obtain rfl:a=8:=aaU;refine aF (aM @k @o @p @r) ?_;exact⟨h,U.a6,c,y,rfl⟩
def pD (b:List (List UInt8×Own)):List R:=b.map λa=> .J (a.1.map ak) a.2
def chunk (a:List UInt8):List UInt8:=cF a.length++a
def preB (a:UInt8) (b:List (List UInt8)):List UInt8:=a::b.flatMap chunk
def xH (a:UInt8): ∀b:List (List UInt8),b.length<(preB a b).length
 | []=>by simp[preB]
 |d::c=>by
  have:=xH a c;simp only[preB,a6E,a7a,a6A,chunk,cF,a6G]at this|-;omega
def YG (b:UInt8) (c:List (List UInt8×Own)) (p:Own) (S:(preB b (c.map (·.1))).length<=70368744177664) (G:U):
  AC Tryz.prog 141 [.v (.int .u8 b.toNat),.J (pD c) p] G λT r=> ∃p,bf G r 1 ((preB b (c.map (·.1))).map ak) p/\T= .J ((preB b (c.map (·.1))).map ak) p:=by
 refine bc hm OW aaV ?_;refine ei ?_;refine sm U.a6 λV n W=> ?_;refine ei ?_;refine cm (λh r=> ∃(a k:List (List UInt8×Own)) (E:Own),c=a++k/\bf G r 1 ((preB b (a.map (·.1))).map ak) E/\h 5= .J ((preB b (a.map (·.1))).map ak) E/\h 10= .J (pD c) p/\h 11= .v (.int .i64 c.length)/\h 12= .v (.int .i64 a.length))
  (λh _=>match h 12 with| .v (.int _ e)=>(c.length - e).toNat| _=>0) ⟨[],c,V,rfl,W,?_⟩ ?_
 .refine ei ?_;exact⟨rfl,by simp[pD]⟩
 .rintro h r ⟨a,k,E,rfl,L,x,y,z,C⟩;cases k with
  |nil=>have o: ¬(a.length:Int)<((a++ []).length):=aaV;refine aF (bh @x @y @z @C @o) ?_;simp only[a7E]at*;exact⟨r,U.a6,E,L,rfl⟩
  |cons f k=>
   obtain⟨d,D⟩:=f;have o:(a.length:Int)<((a++(d,D)::k).length):=aaW;have F:(pD (a++(d,D)::k))[a.length]? =some (.J (d.map ak) D):=by simp[pD]
   have q:(preB b (a.map (·.1))).length+8+d.length<=70368744177664:=by refine a7y ?_ S;simp[preB,chunk,cF];omega
   have g:=xH b (a.map (·.1));rw[a6J]at g;refine aF (c9 @x @y @z @C @o @F @gj) ?_;refine ah (Da d.length _) ?_;rintro _ s ⟨t,i,rfl⟩;refine aF (c9 @x @y @z @C @o @F @gj) ?_;refine ni (L.mono i.sub) ?_ λu v j=> ?_
   .simp only[cF,a6E,a6G];omega
   refine aF (c9 @x @y @z @C @o @F @gj) ?_;refine ni j ?_ λl w P=> ?_
   .simp only[cF,a6A,a6E,a6G];omega
   refine aF (c9 @x @y @z @C @o @F @gj) ?_;have m:preB b (a.map (·.1))++cF d.length++d=preB b ((a++ [(d,D)]).map (·.1)):=by simp[preB,chunk]
   rw[m]at P|-;refine⟨⟨a++ [(d,D)],k,l,aaV,P,rfl,?_⟩,?_⟩
   .simp
   omega
def blocks:Nat->List UInt32->List UInt8->List UInt32
 |0,a,_=>a
 |b+1,a,aV=>blocks b (comp a (aV.take 64)) (aV.drop 64)
def pE: ∀(b:Nat) (a:List UInt32) (aV:List UInt8),a.length=8->(blocks b a aV).length=8
 |0,_,_,c=>c
 |b+1,a,aV,c=>by rw[blocks];exact pE b _ _ (xG a _ c)
theorem uB: ∀(a:Nat) (b:List UInt32) (aV:List UInt8),blocks (a+1) b aV=comp (blocks a b aV) ((aV.drop (64*a)).take 64)
 |0,b,aV=>by rfl
 |a+1,b,aV=>by
  rw[blocks,uB a,blocks,a7p];grind
theorem Db: ∀(a b:Nat) (c:List UInt32) (aV:List UInt8),blocks (a+b) c aV=blocks b (blocks a c aV) (aV.drop (64*a))
 |0,b,c,aV=>by simp[blocks]
 |a+1,b,c,aV=>by
  rw[show a+1+b=(a+b)+1 by omega,blocks,Db a b,blocks,a7p,show 64+64*a=64*(a+1) by omega]
theorem Dc: ∀(a:Nat) (b:List UInt32) (aV c:List UInt8),64*a<=aV.length->blocks a b (aV++c)=blocks a b aV
 |0,_,_,_,_=>rfl
 |a+1,b,aV,c,d=>by
  rw[blocks,blocks,a8f aaU,a8g aaU];exact Dc a _ _ _ aaW
variable{n b6:R}
section
variable {h:List UInt32}(hh:h.length=8)
include hh
def mr:(wl h++ [n,b6]).length=10:=by simp[wl,hh]
def qZ:(wl h++ [n,b6]).drop 9= [b6]:=by rw[show(9)=(wl h).length+1 by rw[eM,hh],<-a7p,a9m];rfl
theorem r0:(wl h++ [n,b6]).drop 8= [n,b6]:=by grind[wl,eM,List.drop_left]
theorem r1:(wl h++ [n,b6]).take 8=wl h:=by grind[wl,eM,List.take_left]
theorem xI {a:R} :putAt (wl h++ [n,b6]) 9 [a]=wl h++ [n,a]:=by simp_all [eM,putAt,a9r,a6z]
theorem uC {a:R} :putAt (wl h++ [n,b6]) 8 [a]=wl h++ [a,b6]:=by simp_all [eM,putAt,a8b]
theorem xJ (a:h7.length=8):putAt (wl h++ [n,b6]) 0 (wl h7)=wl h7++ [n,b6]:=by grind[wl,eM,putAt,List.take_append,List.drop_append,List.drop_of_length_le]
end
variable{f s e0:U}{X j8:bs}
theorem U.pF (a:f e=some X):f.set e X=f:=by grind[U.set]
theorem U.Dd (c:(f.set e j8).sub s):(f.set e X).sub (s.set e X):=λd h a=>by
 rw[U.uc]at a|-;split;simp_all
 .rename_i b;rw[if_neg b]at a;exact c d h (by rw[U.uc,if_neg b];exact a)
theorem YH (h:List UInt32) (a:h.length=8) (T: ∀o,AC Tryz.prog 194 [] o λV p=>p=o/\V= .agg (wl h)) (b:List UInt8) (W:Own) (s:b.length<=70368744177664) (o:U) (k:Nat) (e:o k=some (.cells (wl h++ [.J [] .nil,.v (.int .u64 0)]))):
  AC Tryz.prog 139 [.ptr k 0,.J (b.map ak) W] o λ_ p=> ∃r,p=o.set k (.cells (wl (blocks (b.length/64) h b)++ [.J ((b.drop (64*(b.length/64))).map ak) r,.v (.int .u64 b.length)])):=by
 refine bc hm OS aaV ?_;have E:(wl h).length=8:=by rw[eM,a]
 rw[<-U.pF e];simp -dsimp -implicitDefEqProofs (disch:=first|omega|assumption|(simp only[bd,Nat.reduceAdd];try omega)) only[go_sem,simprocAttr,mr a,qZ a,r0 a,r1 a,xI a,uC a];refine ah (T _) ?_;rintro _ _ ⟨rfl,rfl⟩;simp -dsimp -implicitDefEqProofs (disch:=first|omega|assumption|(simp only[bd,Nat.reduceAdd];try omega)) only[go_sem,simprocAttr,mr a,qZ a,r0 a,r1 a,xI a,uC a,xJ a a,E];refine dF U.a6 (by simp[aW]) λt u F=> ?_;have G:=F.sub k _ (U.ai _ _ _);simp -dsimp -implicitDefEqProofs (disch:=first|omega|assumption|(simp only[bd,Nat.reduceAdd];try omega)) only[go_sem,simprocAttr,U.aI G,U.ae G,mr a,qZ a,r0 a,r1 a,xI a,uC a,xJ a a,E];refine eh F (by simp[aW]) (by simp[aW]) aaV aaV λv w f=> ?_;refine ei ?_;refine ni (A:= []) f aaW λg i L=> ?_;have j:=L.sub k _ (U.ai _ _ _);rw[<-U.pF j];simp -dsimp -implicitDefEqProofs (disch:=first|omega|assumption|(simp only[bd,Nat.reduceAdd];try omega)) only[go_sem,simprocAttr,aab,a6T];refine cm (λx p=> ∃(c:Nat) (r:Own),64*c<=b.length/\x 0= .ptr k 0/\x 4= .J ((b.drop (64*c)).map ak) r/\p=i.set k (.cells (wl (blocks c h b)++ [.J [] .nil,.v (.int .u64 b.length)])))
  (λx _=>match x 4 with| .J xs _=>xs.length| _=>0) ⟨0,g,aaU,?_⟩ ?_
 .simp -dsimp -implicitDefEqProofs (disch:=first|omega|assumption|(simp only[bd,Nat.reduceAdd];try omega)) only[go_sem,simprocAttr,aab];rfl
 .rintro x p ⟨c,r,A,C,D,rfl⟩;have d:=pE c h b a;generalize P:blocks c h b=z at*;have B:(wl z).length=8:=by rw[eM,d]
  by_cases y:(64)<=((b.drop (64*c)).length:Int)
  .have l:=y;rw[a6R]at l;simp -dsimp -implicitDefEqProofs (disch:=first|omega|assumption|(simp only[bd,Nat.reduceAdd];try omega)) only[go_sem,simprocAttr,C,D,y,mr d,r1 d];have m:((b.drop (64*c)).take (64:Int).toNat).length=64:=aaW;refine ah (D9 z _ _ d m _) ?_;rintro _ _ ⟨rfl,rfl⟩;have S:=xG z ((b.drop (64*c)).take 64) d;have n:(wl (comp z ((b.drop (64*c)).take 64))).length=8:=by rw[eM,S]
   simp -dsimp -implicitDefEqProofs (disch:=first|omega|assumption|(simp only[bd,Nat.reduceAdd];try omega)) only[go_sem,simprocAttr,C,D,y,mr d,xJ d S,n];refine⟨⟨c+1,.any,aaU,?_,?_⟩,by simp only[a6R];omega⟩;grind[List.drop_drop]
   .rw[uB,P]
  .simp -dsimp -implicitDefEqProofs (disch:=first|omega|assumption|(simp only[bd,Nat.reduceAdd];try omega)) only[go_sem,simprocAttr,C,D,y,mr d,uC d];rw[a6R]at y;have q:b.length/64=c:=aaU;refine⟨o.set k _,U.Dd L.sub,r,?_⟩;rw[q,P]
def YI (a:List UInt8) (d:Own) (h:a.length<=70368744177664) (b:U) (c:Nat) (k:b c=some (.cells (wl gn++ [.J [] .nil,.v (.int .u64 0)]))):
  AC Tryz.prog 139 [.ptr c 0,.J (a.map ak) d] b λ_ o=> ∃p,o=b.set c (.cells (wl (blocks (a.length/64) gn a)++ [.J ((a.drop (64*(a.length/64))).map ak) p,.v (.int .u64 a.length)])):=
 YH gn rfl xF a d h b c k
def ek (a:Nat):Nat:=(55+64 - a%64)%64
def jl (a:Nat) (b:List UInt8):List UInt8:=b++128::List.replicate (ek a) 0++cF (8*a)
def xK (a:UInt32):List UInt8:= [(a>>>24).toUInt8,(a>>>16).toUInt8,(a>>>8).toUInt8,a.toUInt8]
def en (a:List UInt32):List UInt8:=a.flatMap xK
def bz (a:List UInt8):R:= .agg (a.map ak)
def hY (a:List UInt8):List R:=a.map ak++List.replicate (32 - a.length) (.v (.int .u8 0))
variable{A:List UInt8}
def uD (a:A.length<=32):(hY A).length=32:=by simp[hY];omega
def xL (a:UInt8) (b:e=A.length) (d:A.length<32):putAt (hY A) e [.v (.int .u8 a.toNat)]=hY (A++ [a]):=by subst b;have c:32 - A.length=(32 -(A.length+1))+1:=aaU;simp only[putAt,hY,c,a8O];simp[a8b,ak]
def uE: ∀a:List UInt32,(en a).length=4*a.length
 | []=>rfl
 |c::b=>by simp only[en,a7a,a6A]at*;have:=uE b;simp only[en]at this;rw[this];simp[xK];omega
theorem YJ (m:List UInt32) (a08:m.length=8) (k4: ∀F,AC Tryz.prog 194 [] F λn p=>p=F/\n= .agg (wl m)) (r:List UInt32) (x:r.length=8) (a:Nat) (k:List UInt8) (H:Own) (a09:a<=70368744177664) (I:k.length=a%64) (k5:a=0->r=m)
  (F:U) (S:Nat) (T:F S=some (.cells (wl r++ [.J (k.map ak) H,.v (.int .u64 a)]))):
  AC Tryz.prog 140 [.ptr S 0] F λn p=>p=F/\n=bz (en (blocks ((jl a k).length/64) r (jl a k))):=by
 refine bc hm OU aaV ?_;have K:(wl r).length=8:=by rw[eM,x]
 refine ei ?_;refine aN λG q=> ?_;have k6:S≠G:=by rintro rfl;rw[q]at T;cases T
 simp -dsimp -implicitDefEqProofs (disch:=first|omega|assumption|(simp only[bd,Nat.reduceAdd];try omega)) only[go_sem,↓reduceIte,Nat.reduceEqDiff,Nat.reduceAdd,Nat.reduceSub,Nat.reduceMul,Nat.reduceLeDiff,Nat.reduceLT,Int.reduceNeg,Int.reduceToNat,Int.reduceAdd,Int.reduceSub,Int.reduceMul,Int.reduceLT,Int.reduceLE,Int.reduceEq,Int.reduceNe,U.ae T,mr x,qZ x,r0 x,r1 x];refine aN λL f=> ?_;obtain⟨M,f⟩:=U.gI f;have k7:S≠L:=by rintro rfl;rw[f]at T;cases T
 simp -dsimp -implicitDefEqProofs (disch:=first|omega|assumption|(simp only[bd,Nat.reduceAdd];try omega)) only[go_sem,↓reduceIte,Nat.reduceEqDiff,Nat.reduceAdd,Nat.reduceSub,Nat.reduceMul,Nat.reduceLeDiff,Nat.reduceLT,Int.reduceNeg,Int.reduceToNat,Int.reduceAdd,Int.reduceSub,Int.reduceMul,Int.reduceLT,Int.reduceLE,Int.reduceEq,Int.reduceNe,U.ae T,mr x,qZ x,r0 x,r1 x,K];refine sn (λb p=>b 0= .ptr S 0/\b 2= .ptr G 0/\b 3= .ptr L 0/\p=(F.set G (.cells (List.replicate 32 (.v (.int .u8 0))))).set L (.cells (wl r))) ?_ ?_ ?_
 .intro N;have k8:a=0:=by simpa using N
  have k9:=k5 k8;subst k9;refine ei ?_;refine ah (k4 _) ?_;rintro _ _ ⟨rfl,rfl⟩;exact gJ @K
 .intro _;exact qT
 .rintro b p ⟨z,c,d,rfl⟩;have O:((F.set G (.cells (List.replicate 32 (.v (.int .u8 0))))).set L (.cells (wl r))) S=some (.cells (wl r++ [.J (k.map ak) H,.v (.int .u64 a)])):=by rw[U.an _ _ k7,U.an _ _ k6];exact T
  generalize s:((F.set G (.cells (List.replicate 32 (.v (.int .u8 0))))).set L (.cells (wl r)))=l0 at*;refine aF (aE @z @c @d) ?_;refine dF U.a6 (by simp[aW]) λa10 a11 Q=> ?_;have l1:=Q.sub _ _ O;simp -dsimp -implicitDefEqProofs (disch:=first|omega|assumption|(simp only[bd,Nat.reduceAdd];try omega)) only[go_sem,↓reduceIte,Nat.reduceEqDiff,Nat.reduceAdd,Nat.reduceSub,Nat.reduceMul,Nat.reduceLeDiff,Nat.reduceLT,Int.reduceNeg,Int.reduceToNat,Int.reduceAdd,Int.reduceSub,Int.reduceMul,Int.reduceLT,Int.reduceLE,Int.reduceEq,Int.reduceNe,z,c,d,U.ae l1,mr x,r0 x];refine ni (A:= []) Q aaW λa13 a14 l2=> ?_;refine aF (aE @z @c @d) ?_;refine sm (a:=128) U.a6 λa15 a16 l3=> ?_;refine aF (aE @z @c @d) ?_;refine xh (l2.mono l3.sub) aaW λl4 a18 a19=> ?_;refine aF (aM @z @c @d @a6T.{0}) ?_;refine cm (λb p=> ∃(E:Nat) (V:Own),E<=ek a/\b 0= .ptr S 0/\b 2= .ptr G 0/\b 3= .ptr L 0/\b 4= .J ((k++128::List.replicate E 0).map ak) V/\bf l0 p 1 ((k++128::List.replicate E 0).map ak) V)
   (λb _=>match b 4 with| .J xs _=>200 - xs.length| _=>0) ⟨0,l4,aaU,?_⟩ ?_
  .simp -dsimp -implicitDefEqProofs (disch:=first|omega|assumption|(simp only[bd,Nat.reduceAdd];try omega)) only[go_sem,↓reduceIte,Nat.reduceEqDiff,Nat.reduceAdd,Nat.reduceSub,Nat.reduceMul,Nat.reduceLeDiff,Nat.reduceLT,Int.reduceNeg,Int.reduceToNat,Int.reduceAdd,Int.reduceSub,Int.reduceMul,Int.reduceLT,Int.reduceLE,Int.reduceEq,Int.reduceNe,z,c,d];trivial
  .rintro b p ⟨E,V,a27,z,c,d,C,t⟩;have N:ek a<=63:=by unfold ek;omega
   have X:(k++128::List.replicate E 0).length=a%64+1+E:=by simp[I];omega
   by_cases P:E<ek a
   .have l5: ¬(((a%64+1+E)%64:Nat):Int)=56:=by unfold ek at P;omega
    refine aF (c9 @z @c @d @C @X @Cy @l5) ?_;refine sm (a:=0) U.a6 λl6 l7 u=> ?_;refine aF (aM @z @c @d @C) ?_;refine xh (t.mono u.sub) aaU λY v i=> ?_;have a29:k++128::List.replicate E 0++ [0]=k++128::List.replicate (E+1) 0:=by simp[aaG]
    refine aF (aM @z @c @d @C) ?_;grind
   .obtain rfl:E=ek a:=aaU;have l8:(((a%64+1+ek a)%64:Nat):Int)=56:=by unfold ek;omega
    have l9:=t.sub _ _ O;simp -dsimp -implicitDefEqProofs (disch:=first|omega|assumption|(simp only[bd,Nat.reduceAdd];try omega)) only[go_sem,↓reduceIte,Nat.reduceEqDiff,Nat.reduceAdd,Nat.reduceSub,Nat.reduceMul,Nat.reduceLeDiff,Nat.reduceLT,Int.reduceNeg,Int.reduceToNat,Int.reduceAdd,Int.reduceSub,Int.reduceMul,Int.reduceLT,Int.reduceLE,Int.reduceEq,Int.reduceNe,z,c,d,C,X,Cy,l8,ne_eq,not_true_eq_false,U.ae l9,mr x,qZ x];have W:(8)*(a)=((8*a:Nat):Int):=aaV;rw[W];refine ah (Da (8*a) _) ?_;rintro _ l7 ⟨l6,u,rfl⟩;refine aF (aM @z @c @d @C) ?_;refine ni (t.mono u.sub) (by simp[cF];omega) λY v i=> ?_;refine aF (aM @z @c @d @C) ?_;have n0:=i.sub _ _ (by rw[<-s];exact U.ai _ _ _);have Z:=i.sub _ _ (by rw[<-s,U.an _ _ (a6I M)];exact U.ai _ _ _);have j9:=U.au (by rw[<-s];exact U.af (U.af U.a6 q) f) i.sub;rw[<-U.pF n0];have n1:k++128::List.replicate (ek a) 0++cF (8*a)=jl a k:=rfl;have a30:(jl a k).length=64*((jl a k).length/64):=by
     have:(jl a k).length=a%64+1+ek a+8:=by simp[jl,I,cF];omega
     rw[this];unfold ek;omega
    rw[n1];generalize jl a k=y at*;refine cm (λb p=> ∃(o:Nat) (V:Own),64*o<=y.length/\b 2= .ptr G 0/\b 3= .ptr L 0/\b 4= .J ((y.drop (64*o)).map ak) V/\p=v.set L (.cells (wl (blocks o r y))))
     (λb _=>match b 4 with| .J xs _=>xs.length| _=>0) ⟨0,Y,aaU,?_⟩ ?_
    .refine aF (c2 @c @d) ?_;rfl
    .rintro b p ⟨o,V,a34,c,d,C,rfl⟩;have w:=pE o r y x;have j:(wl (blocks o r y)).length=8:=by rw[eM,w]
     by_cases P:(0)<((y.drop (64*o)).length:Int)
     .have n2:=P;rw[a6R]at n2;have a36:64<=(y.drop (64*o)).length:=by rw[a6R];omega
      refine aF (bx @c @d @C @P @j @a6z.{0}) ?_;have n3:((y.drop (64*o)).take 64).length=64:=aaW;refine ah (D9 _ _ _ w n3 _) ?_;rintro _ _ ⟨rfl,rfl⟩;have n4:=xG (blocks o r y) ((y.drop (64*o)).take 64) w;have n5:(wl (comp (blocks o r y) ((y.drop (64*o)).take 64))).length=8:=by rw[eM,n4]
      refine aF (bh @c @d @C @j @n5) ?_;refine⟨⟨o+1,.any,aaU,?_,?_⟩,by simp only[a6R];omega⟩;grind[List.drop_drop]
      .rw[uB]
     .rw[a6R]at P;have n9:o=y.length/64:=aaU;refine aF (bh @c @d @C @a6R.{0} @P) ?_;rw[<-n9];generalize a38:blocks o r y=D at*;refine aN λA B=> ?_;obtain⟨a42,B⟩:=U.gI B;have k0:A≠G:=by grind
      refine aF (bh @c @d @C @j @a6z.{0}) ?_;refine cm (λb p=> ∃h:Nat,h<=8/\b 2= .ptr G 0/\b 5= .ptr A 0/\b 50= .agg (wl D)/\b 51= .v (.int .i64 h)/\p=(v.set L (.cells (wl D))).set A (.cells (hY (en (D.take h)))))
       (λb _=>match b 51 with| .v (.int _ a)=>(8 - a).toNat| _=>0) ⟨0,aaU,?_⟩ ?_
      .refine aF (aE @c @d @C) ?_;rfl
      .rintro b p ⟨h,a43,c,k1,k2,k3,rfl⟩;have e:(en (D.take h)).length=4*h:=by rw[uE];simp;omega
       by_cases P:(h:Int)<8
       .have a00:(hY (en (D.take h))).length=32:=uD aaU;have a01:(4*(h:Int)).toNat=4*h:=aaU;have a02:(4*(h:Int)+1).toNat=4*h+1:=aaU;have a03:(4*(h:Int)+2).toNat=4*h+2:=aaU;have a04:(4*(h:Int)+3).toNat=4*h+3:=aaU;have a47: ∀(g) (l),g.length<32->putAt (hY g) g.length [.v (.int .u8 l.toNat)]=hY (g++ [l]):=λg l a05=>xL l rfl a05;simp -dsimp -implicitDefEqProofs (disch:=first|omega|assumption|(simp only[bd,Nat.reduceAdd];try omega)) only[go_sem,↓reduceIte,Nat.reduceEqDiff,Nat.reduceAdd,Nat.reduceSub,Nat.reduceMul,Nat.reduceLeDiff,Nat.reduceLT,Int.reduceNeg,Int.reduceToNat,Int.reduceAdd,Int.reduceSub,Int.reduceMul,Int.reduceLT,Int.reduceLE,Int.reduceEq,Int.reduceNe,c,k1,k2,k3,P,j,hB,a01,a02,a03,a04,xL,uD];refine⟨⟨h+1,aaU,aaV,?_⟩,aaU⟩;grind[en,xK,List.getD,List.take_succ_eq_append_getElem]
       .obtain rfl:h=8:=aaU;have a00:(hY (en (D.take 8))).length=32:=uD aaU;have W:D.take 8=D:=a6z aaU;have a06:hY (en D)=(en D).map ak:=by rw[W]at e;simp[hY,e]
        have a07:((en D).map ak).length=32:=by rw[W]at e;simp[e]
        have a48:(en D).length=32:=by rw[W]at e;exact e
        rw[W,a06];refine aF (lr @c @k1 @k2 @k3 @P @a07 @a6z.{0} (U.aI Z) (U.ae Z) @k0 (a6I k0) (a6I M) @sl) ?_;refine⟨F,?_,rfl,rfl⟩;exact U.af (U.af (U.af j9 f) (U.bI j9 B)) q
def YK (b:U):AC Tryz.prog 138 [] b λc d=> ∃a,b a=none/\c= .ptr a 0/\d=b.set a (.cells (wl gn++ [.J [] .nil,.v (.int .u64 0)])):=by refine bc hm OQ aaV ?_;refine ei ?_;refine ah (xF _) ?_;rintro _ _ ⟨rfl,rfl⟩;have h:(wl gn).length=8:=rfl;have k:putAt (List.replicate 8 (R.v (Value.int IntKind.u32 0))++ [R.J [] Own.nil]++ [R.v (Value.int IntKind.u64 0)]) 0 (wl gn)=wl gn++ [.J [] .nil,.v (.int .u64 0)]:=rfl;simp -dsimp -implicitDefEqProofs (disch:=first|omega|assumption|(simp only[bd,Nat.reduceAdd];try omega)) only[go_sem,↓reduceIte,Nat.reduceEqDiff,Nat.reduceAdd,Nat.reduceSub,Nat.reduceMul,Nat.reduceLeDiff,Nat.reduceLT,Int.reduceNeg,Int.reduceToNat,Int.reduceAdd,Int.reduceSub,Int.reduceMul,Int.reduceLT,Int.reduceLE,Int.reduceEq,Int.reduceNe,h,k];refine aN λa o=> ?_;refine ei ?_;exact⟨_,U.a6,a,o,rfl,rfl⟩
def fi (a:List UInt8):List UInt8:=
 en (blocks ((jl a.length (a.drop (64*(a.length/64)))).length/64) (blocks (a.length/64) gn a) (jl a.length (a.drop (64*(a.length/64)))))
def sE (a:List UInt8):(fi a).length=32:=by rw[fi,uE,pE _ _ _ (pE _ _ _ rfl)]
def YL (a:List UInt8) (c:Own) (d:a.length<=70368744177664) (b:U):AC Tryz.prog 86 [.J (a.map ak) c] b λk o=>o=b/\k=bz (fi a):=by
 refine bc hm Na aaV ?_;refine ei ?_;refine aN λG p=> ?_;refine ei ?_;refine ah (YK _) ?_;rintro _ _ ⟨h,r,rfl,rfl⟩;obtain⟨x,y⟩:=U.gI r;refine ei ?_;refine ah (YI a c d _ h (U.ai _ _ _)) ?_;rintro _ _ ⟨z,rfl⟩;refine ei ?_;have C:(a.drop (64*(a.length/64))).length=a.length%64:=aaW;refine ah (YJ gn rfl xF (blocks (a.length/64) gn a) (pE _ _ _ rfl) a.length (a.drop (64*(a.length/64))) z d C (λD=> ?_) _ h (U.ai _ _ _)) ?_
 .rw[D];rfl
 rintro _ _ ⟨rfl,rfl⟩;have E:((fi a).map ak).length=32:=by rw[a6J,sE]
 have L:=sE a;have F:bz (en (blocks ((jl a.length (a.drop (64*(a.length/64)))).length/64) (blocks (a.length/64) gn a) (jl a.length (a.drop (64*(a.length/64))))))= .agg ((fi a).map ak):=rfl;rw[F];generalize fi a=P at*;refine aF (c2 @E (a6I x)) ?_;exact⟨b,U.af (U.af U.a6 p) y,rfl,by rw[a6z aaU];rfl⟩
def hb (a:Nat):Nat:=if a=0 then 0 else a.log2+1
theorem xM (a b:Nat) (p:2^b<=a):b+hb (a>>>b)=hb a:=by
 have c:0<2^b:=Nat.pow_pos aaU;have d:a≠0:=aaU;have h:a>>>b≠0:=by rw[a7q];have:=Nat.div_pos p c;omega
 have r:a.log2=b+(a>>>b).log2:=by rw[Nat.log2_eq_iff d];obtain⟨k,o⟩:=(Nat.log2_eq_iff h).1 rfl;generalize (a>>>b).log2=x at*;rw[a7q]at k o;rw[aaz c]at k;rw[Nat.div_lt_iff_lt_mul c]at o;grind
 simp only[hb,d,h,if_false,r];omega
def De (a b:Nat) (c:a<2^b):hb a<=b:=by
 unfold hb;split
 .omega
 .rename_i d;have:=(Nat.log2_lt d).2 c;omega
def Df (b:ByteArray):Bool:=(List.range 256).all λa=>b.data[a]? ==some (UInt8.ofNat (hb a))
def YM (b:ByteArray) (a:Nat) (c:Df b=true) (d:a<256):pt (.v (.string b)) (.v (.int .u8 a))=some (.v (.int .u8 (hb a))):=by
 simp only[Df,a6P,a7O]at c;have h:=c a d;have k:b.data[a]? =some (UInt8.ofNat (hb a)):=by simpa using h
 have o:=De a 8 d;simp only[pt,a6X,k,if_pos (Int.natCast_nonneg a)];have:(UInt8.ofNat (hb a)).toNat=hb a:=aaW;rw[this]
theorem YN (h:Nat) (E:h<2^64) (r:U):AC Tryz.prog 152 [.v (.int .u64 h)] r λb k=>k=r/\b= .v (.int .i64 (hb h)):=by
 refine bc hm P2 aaV ?_;simp -dsimp -implicitDefEqProofs (disch:=first|omega|assumption|(simp only[bd,Nat.reduceAdd];try omega)) only[↓hS,hT,al,ofConst,cw,simprocAttr];refine sn (λd k=>k=r/\ ∃a b:Nat,d 0= .v (.int .u64 a)/\d 2= .v (.int .i64 b)/\a<2^32/\b<=32/\b+hb a=hb h) ?_ ?_ ?_
 .intro c;have c:4294967296<=h:=by simp at c;omega
  simp -dsimp -implicitDefEqProofs (disch:=first|omega|assumption|(simp only[bd,Nat.reduceAdd];try omega)) only[↓hS,hT,al,ofConst,cw,simprocAttr];exact⟨h>>>32,32,rfl,rfl,aaU,aaU,xM h 32 c⟩
 .intro c;have c:h<4294967296:=by simp at c;omega
  simp -dsimp -implicitDefEqProofs (disch:=first|omega|assumption|(simp only[bd,Nat.reduceAdd];try omega)) only[↓hS,hT,al,ofConst,cw,simprocAttr];grind
 rintro d k ⟨x,a,b,o,p,y,C,z⟩;rw[x];simp -dsimp -implicitDefEqProofs (disch:=first|omega|assumption|(simp only[bd,Nat.reduceAdd];try omega)) only[↓hS,hT,al,ofConst,cw,simprocAttr,o,p];refine sn (λd k=>k=r/\ ∃a b:Nat,d 0= .v (.int .u64 a)/\d 2= .v (.int .i64 b)/\a<2^16/\b<=48/\b+hb a=hb h) ?_ ?_ ?_
 .intro c;have c:65536<=a:=by simp at c;omega
  simp -dsimp -implicitDefEqProofs (disch:=first|omega|assumption|(simp only[bd,Nat.reduceAdd];try omega)) only[↓hS,hT,al,ofConst,cw,simprocAttr,o,p];exact⟨a>>>16,b+16,rfl,aaV,aaU,aaU,by grind[xM]⟩
 .intro c;have c:a<65536:=by simp at c;omega
  simp -dsimp -implicitDefEqProofs (disch:=first|omega|assumption|(simp only[bd,Nat.reduceAdd];try omega)) only[↓hS,hT,al,ofConst,cw,simprocAttr,o,p];grind
 rintro d k ⟨x,a,b,o,p,y,C,z⟩;rw[x];simp -dsimp -implicitDefEqProofs (disch:=first|omega|assumption|(simp only[bd,Nat.reduceAdd];try omega)) only[↓hS,hT,al,ofConst,cw,simprocAttr,o,p];refine sn (λd k=>k=r/\ ∃a b:Nat,d 0= .v (.int .u64 a)/\d 2= .v (.int .i64 b)/\a<2^8/\b<=56/\b+hb a=hb h) ?_ ?_ ?_
 .intro c;have c:256<=a:=by simp at c;omega
  simp -dsimp -implicitDefEqProofs (disch:=first|omega|assumption|(simp only[bd,Nat.reduceAdd];try omega)) only[↓hS,hT,al,ofConst,cw,simprocAttr,o,p];exact⟨a>>>8,b+8,rfl,aaV,aaU,aaU,by grind[xM]⟩
 .intro c;have c:a<256:=by simp at c;omega
  simp -dsimp -implicitDefEqProofs (disch:=first|omega|assumption|(simp only[bd,Nat.reduceAdd];try omega)) only[↓hS,hT,al,ofConst,cw,simprocAttr,o,p];grind
 rintro d k ⟨x,a,b,o,p,y,C,z⟩;rw[x];have D:IntKind.u8.wrap (a)=a:=wrap_u8 aaU aaU;have F:=De a 8 y;simp -dsimp -implicitDefEqProofs (disch:=first|omega|assumption|(simp only[bd,Nat.reduceAdd];try omega)) only[↓hS,hT,al,ofConst,cw,simprocAttr,o,p,D];rw[YM]
 .simp -dsimp -implicitDefEqProofs (disch:=first|omega|assumption|(simp only[bd,Nat.reduceAdd];try omega)) only[↓hS,hT,al,ofConst,cw,simprocAttr,o,p];exact⟨r,U.a6,rfl,by rw[<-z];simp⟩
 .decide
 .exact y
def YO (a:Nat) (c:a<2^64) (b:U):AC Tryz.prog 91 [.v (.int .u64 a)] b λd h=>h=b/\d= .v (.int .i64 (hb a)):=by refine bc hm Nl aaV ?_;refine ei ?_;refine ah (YN a c _) ?_;rintro _ _ ⟨rfl,rfl⟩;refine ei ?_;exact⟨_,U.a6,rfl⟩
def a6h (a:List (List UInt8)):Prop:= ∀b∈a,b.length=32
def aY:(bz A).cells=A.map ak:=rfl
def aZ (a:A.length=32):(.agg ((A.take 32).map ak):R)=bz A:=by rw[a6z (by simp[a])];rfl
def YP (a:List (List UInt8)) (b:Own) (c:List (List UInt8×Own)) (d:Own) (h:Bool):bs:= .cells [.J (a.map bz) b,.J (pD c) d,.v (.bool h)]
def PS (c:U) (d:Nat) (h k:List (List UInt8)) (o:Bool) (p:U):Prop:=
 ∃r b a,a.map (·.1)=k/\bf (c.set d (YP h r a b o)) p 1 (pD a) b
def uF:List UInt8:=List.replicate 32 0
def fv:bs:= .cells (List.replicate 32 (.v (.int .u8 0)))
def YQ (a:List UInt8):bs:= .cells (a.map ak)
theorem uG {a:List UInt8} (b:bz A=bz a):A=a:=by
 have c:A.map ak=a.map ak:=by simpa[bz] using b
 have d:=congrArg bytesOf c;rw[rT,rT]at d;simp_all
theorem YR {a:List UInt8}:peq (.agg (A.map ak)) (.agg (a.map ak))=decide (A=a):=by
 by_cases b:A=a
 .subst b;simp[I1]
 .have: ¬peq (.agg (A.map ak)) (.agg (a.map ak))=true:=λc=>b (uG ((qs _ _).1 c));simp_all
theorem Dg (a:A.length=32):dk [(32,.int .u8)] (A.map ak):=by
 refine⟨by simp[a],?_,?_⟩
 .intro c b;obtain⟨d,_,rfl⟩:=a6S.1 (a6M b);rfl
 .simp only[dk];simp_all
variable{I:Bool}
def xN {a:List UInt8}{b:R->Prop} (c:A.length=32) (d:a.length=32):uf I [(32,.int .u8)] (bz A) (bz a) b=b (.v (.bool (xor I (decide (A=a))))):=by have h:=Dg c;have k:=Dg d;show(dk _ _/\dk _ _/\b (.v (.bool (xor I (peq (.agg (A.map ak)) (.agg (a.map ak)))))))= _;rw[YR];simp[h,k]
end Go.Proofs.YtcfpcblgmmeioaaGreat
set_option maxHeartbeats 1000000
namespace Go.Proofs.YtcfpcblgmmeioaaGreat
open Go Go.bD
structure BF where
 x:List UInt8
 y:List UInt8
 cK:List (List UInt8)
 sF:List (List UInt8)
 hZ:Bool
end Go.Proofs.YtcfpcblgmmeioaaGreat
set_option maxHeartbeats 1000000
namespace Go.Proofs.YtcfpcblgmmeioaaGreat
open Go Go.bD
def uH (a:List UInt8) (b:Own):bs:= .cells [.J (a.map ak) b,.v (.int .i64 0)]
def cx (c:U) (d:Nat) (a:List UInt8) (h:U):Prop:= ∃b,bf (c.set d (uH a b)) h 1 (a.map ak) b
def uI (h k:U) (d:Nat) (a b:List UInt8) (y:Own) (c:cx h d a k) (D:a.length+b.length<=70368744177664):
  AC Tryz.prog 126 [.ptr d 0,.v (.bool true),.J (b.map ak) y] k λ_ z=>cx h d (a++b) z:=by
 obtain⟨E,c⟩:=c;have C:=c.sub _ _ (U.ai _ _ _);refine bc hm Oq aaV ?_;refine aF (aM @a7o (U.ae C) @aY @aZ) ?_;refine ni c aaU λo F p=> ?_;have r:=p.sub _ _ (U.ai _ _ _);refine aF (aM (U.ae r) (U.aI r) @aY @aZ) ?_;have x:=p.set (ob:=uH (a++b) o) (U.ai _ _ _);rw[U.set_set]at x;exact⟨_,U.a6,o,x⟩
def nu (c k:U) (a:Nat) (b:List UInt8) (d:UInt8) (h:cx c a b k) (o:b.length+1<=70368744177664):
  AC Tryz.prog 72 [.ptr a 0,.v (.int .u8 d.toNat)] k λ_ p=>cx c a (b++ [d]) p:=by
 refine bc hm MJ aaV ?_;refine aF (c2 @aY @aZ) ?_;refine sm U.a6 λr x y=> ?_;refine aF (c2 @aY @aZ) ?_;obtain⟨z,h⟩:=h;refine ah (uI c x a b [d] r ⟨z,h.mono y.sub⟩ o) ?_;intro E C D;refine aF (c2 @aY @aZ) ?_;exact⟨C,U.a6,D⟩
def cq (a:Int):Nat:=(BitVec.ofInt 64 a^^^BitVec.ofInt 64 9223372036854775808).toNat
def ia (a:Int):List UInt8:=cF (cq a)
theorem Dh (a:Int):br .xor (.int .u64 (IntKind.u64.wrap a)) (.int .u64 9223372036854775808)=some (.int .u64 (cq a)):=by
 have b:BitVec.ofInt 64 (IntKind.u64.wrap a)=BitVec.ofInt 64 a:=by rw[kt];apply BitVec.eq_of_toInt_eq;grind
 have c:br .xor (.int .u64 (IntKind.u64.wrap a)) (.int .u64 9223372036854775808)=some (.int .u64 (IntKind.u64.wrap (BitVec.ofInt 64 (IntKind.u64.wrap a)^^^BitVec.ofInt 64 9223372036854775808).toNat)):=rfl;rw[c,b];have d:=(BitVec.ofInt 64 a^^^BitVec.ofInt 64 9223372036854775808).isLt;rw[wrap_u64 aaU aaU];rfl
theorem YS (o C:U) (b:Nat) (p:List UInt8) (h:Int) (E:cx o b p C) (G:p.length+8<=70368744177664):
  AC Tryz.prog 184 [.ptr b 0,.v (.int .i64 h)] C λ_ c=>cx o b (p++ia h) c:=by
 refine bc hm Q7 aaV ?_;refine aF (aE @Dh @aY @aZ) ?_;generalize F:cq h=k;refine cm (λd c=> ∃a:Nat,a<=8/\cx o b (p++(cF k).take a) c/\d 0= .ptr b 0/\d 4= .v (.int .u64 k)/\d 5= .v (.int .i64 (56 - 8*(a))))
  (λd _=>match d 5 with| .v (.int _ h)=>(h+8).toNat| _=>0) ⟨0,aaU,by simpa using E,?_⟩ ?_
 .exact gJ (c2 @aY @aZ)
 .rintro d c ⟨a,L,D,r,x,y⟩;by_cases z:(0)<=56 - 8*(a:Int)
  .refine aF (c9 @r @x @y @z @iF @aY @aZ) ?_;refine ah (nu o c b _ _ D ?_) ?_
   .simp;omega
   intro P S T;refine aF (bx @r @x @y @z @aY @aZ) ?_;refine⟨⟨a+1,aaU,?_,aaW⟩,aaU⟩;have V:(cF k).take (a+1)=(cF k).take a++ [UInt8.ofNat (k>>>(56 - 8*(a:Int)).toNat)]:=by rcases(by omega:a=0\/a=1\/a=2\/a=3\/a=4\/a=5\/a=6\/a=7)with rfl|rfl|rfl|rfl|rfl|rfl|rfl|rfl<;>rfl
   grind
  .obtain rfl:a=8:=aaU;refine aF (bx @r @x @y @z @aY @aZ) ?_;refine⟨c,U.a6,?_⟩;rw[ia,F];exact D
end Go.Proofs.YtcfpcblgmmeioaaGreat
namespace Go.bD
open Go
def Di (a:Bool) (c:R) (b:R->Prop):Prop:=
 match c with
 | .J xs d=>match d with
  | .nil=>b (.v (.bool (!a)))
  | .buf _ _=>b (.v (.bool a))
  | _=>(xs= []->b (.v (.bool (!a))))/\b (.v (.bool a))
 | .ao _ _ _ _=>b (.v (.bool a))
 | _=>False
variable{t Z:R -> U -> Prop}{I:Bool}{K:Ctx}{j:Fr}{f s e0:U}{Y e9:Operand}
def oo:G K (.mQ I Y) j f t=Di I (al j Y) (c4 (λa=>t a f) ()):=rfl
variable{g B c0:List R}{N e5 h6:Own}
def oq {a:R->Prop}{b:cz a} (c:N= .nil->g= []) (d:g= []->a (.v (.bool (!I)))) (h:a (.v (.bool I))):Di I (.J g N) (c4 a b):=by
 cases N with
 |nil=>exact d (c rfl)
 |buf k o=>exact h
 |any=>trivial
 |zero=>trivial
end Go.bD
namespace Go.Proofs.YtcfpcblgmmeioaaGreat
open Go Go.bD
def xO (a:List UInt8) (d:Own) (b:U) (k:d= .nil->a= []) (C:a.length<=70368744177664):
  AC Tryz.prog 130 [.J (a.map ak) d] b λo p=> ∃h,bf b p 1 (a.map ak) h/\o= .J (a.map ak) h:=by
 refine bc hm OA aaV ?_;simp -dsimp -implicitDefEqProofs (disch:=first|omega|assumption|(simp only[bd,Nat.reduceAdd];try omega)) only[go_sem,simprocAttr,aY,aZ,↓oo];refine oq (λc=>by rw[k c];rfl) (λc=> ?_) ?_
 .have r:a= []:=by simpa using c
  subst r;refine aF (aE @a7u @aY @aZ) ?_;exact⟨b,U.a6,.nil,bf.nil U.a6,rfl⟩
 .refine aF (c2 @aY @aZ) ?_;refine dF U.a6 (by simp[aW]) λD E x=> ?_;refine aF (c2 @aY @aZ) ?_;refine ni (A:= []) x aaW λy z F=> ?_;refine aF (aE @a6T.{0} @aY @aZ) ?_;exact⟨z,U.a6,y,by trivial,rfl⟩
def Dj (k b:U) (d:Nat) (a:List UInt8) (c:cx k d a b) (o:a.length<=70368744177664):
  AC Tryz.prog 75 [.ptr d 0] b λp r=> ∃h,bf b r 1 (a.map ak) h/\p= .J (a.map ak) h:=by
 obtain⟨x,c⟩:=c;have y:=c.sub _ _ (U.ai _ _ _);refine bc hm MP aaV ?_;refine aF (aE (U.ae y) @aY @aZ) ?_;refine ah (xO a x b (λz=> ?_) o) ?_
 .subst z;have:=c.2;simpa using this
 rintro _ C ⟨D,E,rfl⟩;refine aF (c2 @aY @aZ) ?_;exact⟨C,U.a6,D,E,rfl⟩
end Go.Proofs.YtcfpcblgmmeioaaGreat
namespace Go.bD
open Go
end Go.bD
namespace Go.Proofs.YtcfpcblgmmeioaaGreat
open Go Go.bD
def xP (a:Int) (b c:List UInt8):List R:= .v (.int .i64 a)::(b.map ak++c.map ak)
def YT (a:Int) (b c:List UInt8):R:= .agg (xP a b c)
def YU (a:Int) (b c:List UInt8):List UInt8:=preB 68 [ia a,b,c]
end Go.Proofs.YtcfpcblgmmeioaaGreat
namespace Go.bD
open Go
variable{f s e0:U}{g B c0:List R}{e i v M b9 j2:Nat}
def YV (a:g.length=e):so 1 e (f.set i (.ro g)) (.ptr i 0)=some (.J g .any):=Wl (U.ai _ _ _) a
end Go.bD
namespace Go.Proofs.YtcfpcblgmmeioaaGreat
open Go Go.bD
structure iJ where
 n:Int
 h:List UInt8
 d:List UInt8
 deriving DecidableEq
def iJ.ok (a:iJ):Prop:=a.h.length=32/\a.d.length=32
def iJ.C (a:iJ):List R:=xP a.n a.h a.d
def iJ.V (a:iJ):R:=YT a.n a.h a.d
def iJ.sum (a:iJ):List UInt8:=fi (YU a.n a.h a.d)
def cx.mono {b c d:U}{h:Nat}{k:List UInt8} (a:cx b h k c) (o:c.sub d):cx b h k d:=by obtain⟨p,a⟩:=a;exact⟨p,a.mono o⟩
def cx.sub {a c:U}{d:Nat}{h:List UInt8} (b:cx a d h c) (k:a d=none):a.sub c:=by obtain⟨o,b⟩:=b;exact U.au (U.af U.a6 k) b.sub
theorem cx.base {b c d:U}{h:Nat}{k:List UInt8} (a:cx b h k d) (o:c.sub b):cx c h k d:=by obtain⟨p,a⟩:=a;exact⟨p,a.base (U.lp o)⟩
variable{f s e0:U}{A:List UInt8}{e i v M b9 j2:Nat}
def cx.cell (a:cx s e A f): ∃b,f e=some (uH A b):=by obtain⟨b,a⟩:=a;exact⟨b,a.sub _ _ (U.ai _ _ _)⟩
def cx.new {d h:U}{c a:Nat}{p:List UInt8}{ob:bs} (b:cx d c p h) (k:h a=none):a≠c/\d a=none/\cx (d.set a ob) c p (h.set a ob):=by
 obtain⟨r,x⟩:=b.cell;have o:a≠c:=by rintro rfl;rw[k]at x;cases x
 obtain⟨r,b⟩:=b;have y:=U.bI b.sub k;rw[U.an _ _ o]at y;refine⟨o,y,r,?_⟩;rw[U.ea _ o];exact b.new k
variable{X j8:bs}
def cx.get (a:cx f i A s) (b:e≠i) (c:f e=some X):s e=some X:=by obtain⟨d,a⟩:=a;exact a.sub _ _ (by rw[U.an _ _ b];exact c)
def Dk (d h:U) (a:Nat) (b c:List UInt8) (k:c.length=32) (o:cx d a b h) (y:b.length+32<=70368744177664):
  AC Tryz.prog 128 [.ptr a 0,bz c] h λ_ p=>cx d a (b++c) p:=by
 refine bc hm Ow aaV ?_;refine aF (aE @k @aY @aZ) ?_;refine aN λz r=> ?_;refine aF (aM @k @YV @aY @aZ) ?_;refine ah (uI d _ a b c .any (o.mono (U.af U.a6 r)) aaU) ?_;intro C D x;refine aF (c2 @aY @aZ) ?_;exact⟨_,U.a6,x⟩
def Dl (a:Int):(ia a).length=8:=rfl
structure Rd where
 b:List UInt8
 e:Int
def ib (a:Rd) (b:Own):bs:= .cells [.J (a.b.map ak) b,.v (.int .i64 a.e)]
def c6 (a:U) (b:Nat) (c:Rd) (d:U):Prop:= ∃h,(a.set b (ib c h)).sub d
def c6.cell {a:Rd} (b:c6 s e a f): ∃c,f e=some (.cells [.J (a.b.map ak) c,.v (.int .i64 a.e)]):=by obtain⟨c,b⟩:=b;exact⟨c,b _ _ (U.ai _ _ _)⟩
def c6.mono {b:Rd} (a:c6 f e b s) (c:s.sub e0):c6 f e b e0:=by obtain⟨d,a⟩:=a;exact⟨d,U.au a c⟩
theorem c6.base {b:Rd} (a:c6 f e b e0) (c:s.sub f):c6 s e b e0:=by obtain⟨d,a⟩:=a;exact⟨d,U.au (U.lp c) a⟩
theorem c6.set {c d:U}{a:Nat}{o:Rd} (b:c6 c a o d) (h:Rd) (k:Own):c6 c a h (d.set a (ib h k)):=by obtain⟨p,b⟩:=b;exact⟨k,U.Dd b⟩
def c6.get {b:Rd} (a:c6 f i b s) (c:e≠i) (d:f e=some X):s e=some X:=by obtain⟨h,a⟩:=a;exact a _ _ (by rw[U.an _ _ c];exact d)
def c6.new {c:Rd}{ob:bs} (a:c6 f i c s) (d:s e=none):e≠i/\f e=none/\c6 (f.set e ob) i c (s.set e ob):=by
 obtain⟨h,k⟩:=a.cell;have b:e≠i:=by rintro rfl;rw[d]at k;cases k
 obtain⟨h,a⟩:=a;have o:=U.bI a d;rw[U.an _ _ b]at o;refine⟨b,o,h,?_⟩;rw[U.ea _ b];exact U.lp a
def c6.other {b:Rd}{ob:bs} (a:c6 f e b s) (c:i≠e):c6 (f.set i ob) e b (s.set i ob):=by obtain⟨d,a⟩:=a;refine⟨d,?_⟩;rw[U.ea _ c];exact U.lp a
def Dm (a:List UInt8) (c:Own) (b:U) (p:c= .nil->a= []) (r:a.length<=70368744177664):
  AC Tryz.prog 77 [.J (a.map ak) c] b λx y=> ∃d,b d=none/\x= .ptr d 0/\c6 b d ⟨a,0⟩ y:=by
 refine bc hm MT aaV ?_;refine aF (c2 @aY @aZ) ?_;refine ah (xO a c b p r) ?_;rintro _ D ⟨h,k,rfl⟩;have o:putAt [R.J [] Own.nil,R.v (Value.int IntKind.i64 0)] 0 [R.J (a.map ak) h]= [R.J (a.map ak) h,R.v (Value.int IntKind.i64 0)]:=rfl;refine aF (aE @o @aY @aZ) ?_;refine aN λz C=> ?_;refine aF (aE @o @aY @aZ) ?_;exact⟨_,U.a6,z,U.bI k.sub C,rfl,h,U.lp k.sub⟩
def mu (a:Rd) (e:Int):Rd:=if a.e=0 then {a with e:=e}else a
variable{n b6:R}
def YW {a:R}:putAt [n,a] 1 [b6]= [n,b6]:=rfl
def YX {a:R}:putAt [a,n] 0 [b6]= [b6,n]:=rfl
def sG (k o:U) (c:Nat) (a:Rd) (e:Int) (d:c6 k c a o):
  AC Tryz.prog 134 [.ptr c 0,.v (.int .i64 e)] o λ_ p=>c6 k c (mu a e) p:=by
 obtain⟨r,h⟩:=d.cell;refine bc hm OI aaV ?_;by_cases b:a.e=0
 .refine aF (bx (U.ae h) (U.aI h) @b @YW @aY @aZ) ?_;refine⟨_,U.a6,?_⟩;rw[mu,if_pos b];exact d.set {a with e:=e} r
 .refine aF (aM (U.ae h) @b @aY @aZ) ?_;refine⟨_,U.a6,?_⟩;rw[mu,if_neg b];exact d
def dm (a:Rd) (c:Nat):Option (List UInt8)×Rd:=
 if a.e=0 then(if a.b.length<c then(none,{a with e:=20})else(some (a.b.take c),{a with b:=a.b.drop c}))else(none,a)
def Dn (p r:U) (k:Nat) (a:Rd) (c:Nat) (F:c<=100000000) (h:c6 p k a r):
  AC Tryz.prog 131 [.ptr k 0,.v (.int .i64 c)] r λC D=>c6 p k (dm a c).2 D/\
   (∃x,(x= .nil->(dm a c).1.getD []= [])/\C= .aJ [.J (((dm a c).1.getD []).map ak) x,.v (.bool (dm a c).1.isSome)]):=by
 obtain⟨x,o⟩:=h.cell;refine bc hm OC aaV ?_;by_cases d:a.e=0
 .by_cases c2:a.b.length<c
  .have y:(a.b.length:Int)<c:=aaU;have e:dm a c=(none,{a with e:=20}):=by rw[dm,if_pos d,if_pos c2]
   rw[e];refine aF (bh (U.ae o) @d @y @aY @aZ) ?_;refine ah (sG p r k a 20 h) ?_;intro C G z;rw[mu,if_pos d]at z;obtain⟨L,E⟩:=z.cell;refine aF (aE (U.ae E) @aY @aZ) ?_;exact⟨_,U.a6,z,.nil,λ_=>rfl,rfl⟩
  .have y: ¬(a.b.length:Int)<c:=aaU;have e:dm a c=(some (a.b.take c),{a with b:=a.b.drop c}):=by rw[dm,if_pos d,if_neg c2]
   rw[e];refine aF (c9 (U.ae o) (U.aI o) @d @y @YX @aY @aZ) ?_;exact⟨_,U.a6,h.set ⟨a.b.drop c,0⟩ .any,.any,(λh=>by cases h),rfl⟩
 .have e:dm a c=(none,a):=by rw[dm,if_neg d]
  rw[e];refine aF (aM (U.ae o) @d @aY @aZ) ?_;exact⟨_,U.a6,h,.nil,λ_=>rfl,rfl⟩
def uJ (d h:U) (c:Nat) (b:Rd) (a:Nat) (o:a<=100000000) (p:c6 d c b h):
  AC Tryz.prog 131 [.ptr c 0,.v (.int .i64 a)] h λr x=>c6 d c (dm b a).2 x/\
   (∃k,r= .aJ [.J (((dm b a).1.getD []).map ak) k,.v (.bool (dm b a).1.isSome)]):=
 (Dn d h c b a o p).mono λ_ _ ⟨y,k,_,z⟩=>⟨y,k,z⟩
def dw (a:Rd):UInt8×Rd:=((dm a 1).1.getD []|>.headD 0,(dm a 1).2)
theorem r2 {a:Rd} (b:(dm a e).1=some A):A.length=e:=by grind[dm,Option.some.injEq,List.length_take]
def pG (c d:U) (b:Nat) (a:Rd) (r:c6 c b a d):
  AC Tryz.prog 78 [.ptr b 0] d λk x=>c6 c b (dw a).2 x/\k= .v (.int .u8 (dw a).1.toNat):=by
 refine bc hm MV aaV ?_;refine aF (c2 @aY @aZ) ?_;refine ah (uJ c d b a 1 aaU r) ?_;rintro k C ⟨o,D,rfl⟩;unfold dw;have h:=λaV=>r2 (a:=a) (e:=1) (A:=aV);generalize dm a 1=y at*;obtain⟨aV,E⟩:=y;cases aV with
 |none=>simp only[a8t,a9I]at*;refine aF (c2 @aY @aZ) ?_;exact⟨_,U.a6,o,rfl⟩
 |some aV=>
  simp only[a8U,a8v]at*;have h:=h aV rfl
  match aV,h with
  | [p],_=>have z:eB 1 (some (ak p))=some (.bU [.v (.int .u8 p.toNat)]):=rfl;simp -dsimp -implicitDefEqProofs (disch:=first|omega|assumption|(simp only[bd,Nat.reduceAdd];try omega)) only[gj,z,go_sem,↓reduceIte,Nat.reduceEqDiff,Nat.reduceAdd,Nat.reduceSub,Nat.reduceMul,Nat.reduceLeDiff,Nat.reduceLT,Int.reduceNeg,Int.reduceToNat,Int.reduceAdd,Int.reduceSub,Int.reduceMul,Int.reduceLT,Int.reduceLE,Int.reduceEq,Int.reduceNe,aY,aZ,List.headD_cons];exact⟨_,U.a6,o⟩
def fj (a:List UInt8):Nat:=a.foldl (λb c=>b*256+c.toNat) 0
def iK (a:Rd):Int×Rd:=
 match(dm a 8).1 with
 |none=>(0,(dm a 8).2)
 |some aV=>((BitVec.ofNat 64 (fj aV)^^^9223372036854775808#64).toInt,(dm a 8).2)
def Dp: ∀(aV:List UInt8) (a:Nat),aV.foldl (λa b=>a*256+b.toNat) a+1<=(a+1)*256^aV.length
 | [],a=>by simp
 |b::aV,a=>by
  have c:=Dp aV (a*256+b.toNat);have d:=b.toNat_lt;rw[a7j,a6E,aac];refine a7y c ?_;rw[aaQ (256^aV.length) 256,<-Nat.mul_assoc];exact a6O _ aaU
def Dq (a:List UInt8):fj a<256^a.length:=by have:=Dp a 0;rw[fj];omega
def YY (a:List UInt8) (b:Nat) (c:b<a.length):fj (a.take (b+1))=fj (a.take b)*256+(a.getD b 0).toNat:=by rw[aaA,a6y c,fj,a8z];simp[fj,c]
theorem YZ (a b:Nat) (c:a<18446744073709551616) (d:b<18446744073709551616):br .or (.int .u64 a) (.int .u64 b)=some (.int .u64 ((a|||b:Nat):Int)):=by have h:br .or (.int .u64 a) (.int .u64 b)=some (.int .u64 (IntKind.u64.wrap (BitVec.ofInt 64 (a)|||BitVec.ofInt 64 (b)).toNat)):=rfl;have k:=(BitVec.ofInt 64 (a)|||BitVec.ofInt 64 (b)).isLt;grind[wrap_u64,BitVec.toNat_or,BitVec.toNat_ofNat,Nat.mod_eq_of_lt]
def Dr (a b:Nat) (d:b<256):a*256|||b=a*256+b:=by have c:=a9j (i:=8) aaU a;rw[a8Q]at c;exact c.symm
def Z0 (a:Nat) (c:a<72057594037927936):br .shl (.int .u64 a) (.int .u64 8)=some (.int .u64 ((a*256:Nat):Int)):=by have b:br .shl (.int .u64 a) (.int .u64 8)=some (.int .u64 (IntKind.u64.wrap ((a)*2^8))):=rfl;rw[b,wrap_u64 aaU aaU];simp
theorem Z1 (a:Nat) (b:a<18446744073709551616):br .xor (.int .u64 a) (.int .u64 9223372036854775808)=some (.int .u64 ((BitVec.ofNat 64 a^^^9223372036854775808#64).toNat:Int)):=by have c:br .xor (.int .u64 a) (.int .u64 9223372036854775808)=some (.int .u64 (IntKind.u64.wrap (BitVec.ofInt 64 (a)^^^BitVec.ofInt 64 9223372036854775808).toNat)):=rfl;grind[BitVec.ofNat,BitVec.ofInt,wrap_u64]
def Z2 (a:BitVec 64):IntKind.i64.wrap (a.toNat:Int)=a.toInt:=by have b:((2:Int)^IntKind.i64.bits)=18446744073709551616:=rfl;have c:((2:Int)^(IntKind.i64.bits - 1))=9223372036854775808:=rfl;have d:=a.isLt;simp only[IntKind.wrap,b,c,IntKind.signed,a8e,decide_eq_true_eq,BitVec.toInt_eq_toNat_cond];omega
theorem Z3 (k o:U) (h:Nat) (c:Rd) (S:c6 k h c o):
  AC Tryz.prog 244 [.ptr h 0] o λy p=>c6 k h (iK c).2 p/\y= .v (.int .i64 (iK c).1):=by
 refine bc hm RJ aaV ?_;refine aF (c2 @aY @aZ) ?_;refine ah (uJ k o h c 8 aaU S) ?_;rintro y T ⟨z,V,rfl⟩;unfold iK;have C:=λaV=>r2 (a:=c) (e:=8) (A:=aV);generalize dm c 8=W at*;obtain⟨aV,n⟩:=W;cases aV with
 |none=>simp only[a8t,a9I]at*;refine aF (c2 @aY @aZ) ?_;exact⟨_,U.a6,z⟩
 |some aV=>
  simp only[a8U,a8v]at*;have C:=C aV rfl;refine aF (c2 @aY @aZ) ?_;refine cm (λb p=> ∃a:Nat,a<=8/\p=T/\b 15= .J (aV.map ak) V/\b 16= .v (.int .i64 aV.length)/\b 17= .v (.int .i64 a)/\b 5= .v (.int .u64 (fj (aV.take a))))
   (λb _=>match b 17 with| .v (.int _ e)=>(8 - e).toNat| _=>0) ⟨0,aaU,rfl,?_⟩ ?_
  .refine aF (aE @a8w.{0} @aY @aZ) ?_;rfl
  .rintro b q ⟨a,s,rfl,D,E,F,r⟩;have x:=Dq (aV.take a);rw[a6C]at x;by_cases G:(a:Int)<aV.length
   .have L:a<aV.length:=aaU;have t:fj (aV.take a)<72057594037927936:=by refine a7L x ?_;refine a7y (a8o (j:=7) aaU aaU) aaY
    have f:=xi L;have g:=YY aV a L;generalize u:aV.getD a 0=d at*;have v:=d.toNat_lt;have i:IntKind.u64.wrap (d.toNat)=d.toNat:=wrap_u64 aaU aaU;generalize fj (aV.take a)=P at*;have j:br .or (.int .u64 ((P*256:Nat))) (.int .u64 (d.toNat))=some (.int .u64 ((P*256+d.toNat:Nat))):=by rw[YZ _ _ aaU aaU,Dr _ _ aaU]
    have l:eB 1 (aV.map ak)[a]? =some (.bU [.v (.int .u8 d.toNat)]):=by rw[f];rfl
    simp -dsimp -implicitDefEqProofs (disch:=first|omega|assumption|(simp only[bd,Nat.reduceAdd];try omega)) only[D,E,F,r,G,go_sem,↓reduceIte,Nat.reduceEqDiff,Nat.reduceAdd,Nat.reduceSub,Nat.reduceMul,Nat.reduceLeDiff,Nat.reduceLT,Int.reduceNeg,Int.reduceToNat,Int.reduceAdd,Int.reduceSub,Int.reduceMul,Int.reduceLT,Int.reduceLE,Int.reduceEq,Int.reduceNe,aY,aZ,gj,l,Z0,i,j];refine⟨⟨a+1,aaU,aaV,?_⟩,aaU⟩;rw[g]
   .obtain rfl:a=8:=aaU;have m:aV.take 8=aV:=a6z aaU;rw[m]at r x;have w:fj aV<18446744073709551616:=by simp_all
    simp -dsimp -implicitDefEqProofs (disch:=first|omega|assumption|(simp only[bd,Nat.reduceAdd];try omega)) only[D,E,F,r,G,go_sem,↓reduceIte,Nat.reduceEqDiff,Nat.reduceAdd,Nat.reduceSub,Nat.reduceMul,Nat.reduceLeDiff,Nat.reduceLT,Int.reduceNeg,Int.reduceToNat,Int.reduceAdd,Int.reduceSub,Int.reduceMul,Int.reduceLT,Int.reduceLE,Int.reduceEq,Int.reduceNe,aY,aZ,Z1,Z2];exact⟨_,U.a6,z⟩
def nv (a:Rd):List UInt8×Rd:=((dm a 32).1.getD uF,(dm a 32).2)
def Ds (a:Rd):(nv a).1.length=32:=by
 unfold nv;have b:=λaV=>r2 (a:=a) (e:=32) (A:=aV);cases c:(dm a 32).1 with
 |none=>rfl
 |some aV=>exact b aV c
def Dt (r D:U) (h:Nat) (b:Rd) (k:c6 r h b D):
  AC Tryz.prog 186 [.ptr h 0] D λc P=>c6 r h (nv b).2 P/\c=bz (nv b).1:=by
 refine bc hm Qb aaV ?_;have E:=Ds b;refine aF (c2 @aY @aZ) ?_;refine aN λS T=> ?_;obtain⟨F,V,k⟩:=k.new (ob:=fv) T;refine aF (c2 @aY @aZ) ?_;refine aN λW e=> ?_;obtain⟨G,x,k⟩:=k.new (ob:=fv) e;obtain⟨d,x⟩:=U.gI x;refine aF (c2 @aY @aZ) ?_;refine ah (uJ _ _ h b 32 aaU k) ?_;rintro c f ⟨y,i,rfl⟩;have o:=y.get F (by rw[U.an _ _ (a6I d)];exact U.ai _ _ _);have a:=y.get G (U.ai _ _ _);have L: ∀(c z),c6 r h (dm b 32).2 ((f.set W c).set S z):=λc z=>by
  have:=(y.other (ob:=c) G).other (ob:=z) F;rw[U.set_set]at this;refine this.base ?_;rw[U.ea _ d,U.set_set];exact U.af (U.af U.a6 V) x
 unfold nv at E|-;have p:=λaV=>r2 (a:=b) (e:=32) (A:=aV);generalize dm b 32=g at*;obtain⟨aV,j⟩:=g;unfold fv at o a;have l:(List.replicate 32 (R.v (Value.int IntKind.u8 0))).length=32:=rfl;cases aV with
 |none=>
  simp only[a8t,a9I]at*;simp -dsimp -implicitDefEqProofs (disch:=first|omega|assumption|(simp only[bd,Nat.reduceAdd];try omega)) only[go_sem,↓reduceIte,Nat.reduceEqDiff,Nat.reduceAdd,Nat.reduceSub,Nat.reduceMul,Nat.reduceLeDiff,Nat.reduceLT,Int.reduceNeg,Int.reduceToNat,Int.reduceAdd,Int.reduceSub,Int.reduceMul,Int.reduceLT,Int.reduceLE,Int.reduceEq,Int.reduceNe,aY,aZ,U.ae a,U.aI a,xm (U.ae a)];refine CE ?_ a ?_ ?_
  .simp[aW]
  .simp
  have C:putAt (List.replicate 32 (R.v (Value.int IntKind.u8 0))) 0 (flat (List.take 32 []))=uF.map ak:=rfl;rw[C];refine aF (c9 @E @d (a6I d) (U.ae o) (U.aI o) @aY @aZ) ?_;exact⟨_,U.a6,L _ _⟩
 |some aV=>
  simp only[a8U,a8v]at*;have p:=p aV rfl;simp -dsimp -implicitDefEqProofs (disch:=first|omega|assumption|(simp only[bd,Nat.reduceAdd];try omega)) only[go_sem,↓reduceIte,Nat.reduceEqDiff,Nat.reduceAdd,Nat.reduceSub,Nat.reduceMul,Nat.reduceLeDiff,Nat.reduceLT,Int.reduceNeg,Int.reduceToNat,Int.reduceAdd,Int.reduceSub,Int.reduceMul,Int.reduceLT,Int.reduceLE,Int.reduceEq,Int.reduceNe,aY,aZ,U.ae a,U.aI a,xm (U.ae a)];refine CE ?_ a ?_ ?_
  .rw[ue];trivial
  .simp
  have C:putAt (List.replicate 32 (R.v (Value.int IntKind.u8 0))) 0 (flat (List.take 32 (List.map ak aV)))=aV.map ak:=by rw[a6z (by simp[p]),rW,sl (by simp[p])]
  rw[C];refine aF (c9 @p @d (a6I d) (U.ae o) (U.aI o) @aY @aZ) ?_;exact⟨_,U.a6,L _ _⟩
def pH (a:Rd):Rd:=if 0<a.b.length then mu a 22 else a
def Du (c d:U) (b:Nat) (a:Rd) (h:c6 c b a d):
  AC Tryz.prog 80 [.ptr b 0] d λo y=>c6 c b (pH a) y/\o= .v (.int .i64 (pH a).e):=by
 obtain⟨C,p⟩:=h.cell;refine bc hm MZ aaV ?_;unfold pH;by_cases r:0<a.b.length
 .have k:(0:Int)<a.b.length:=aaU;refine aF (aM (U.ae p) @k @aY @aZ) ?_;refine ah (sG c d b a 22 h) ?_;intro o D x;obtain⟨E,z⟩:=x.cell;rw[if_pos r];refine aF (aE (U.ae z) @aY @aZ) ?_;exact⟨_,U.a6,x⟩
 .have k: ¬(0:Int)<a.b.length:=aaU;rw[if_neg r];refine aF (aM (U.ae p) @k @aY @aZ) ?_;exact⟨_,U.a6,h⟩
def fk (a:Nat):List UInt8:= [UInt8.ofNat (a>>>16),UInt8.ofNat (a>>>8),UInt8.ofNat a]
def ic (a:List UInt8):List UInt8:=fk a.length++a
def dz (a:List Int):List UInt8:=UInt8.ofNat a.length::a.flatMap ia
theorem ky (a:Nat):(fk a).length=3:=rfl
theorem xQ (a:List UInt8):(ic a).length=3+a.length:=by simp[ic,fk];omega
theorem ot (a:List Int):(a.flatMap ia).length=8*a.length:=by
 induction a with
 |nil=>rfl
 |cons b a ih=>rw[a7a,a6A,ih,Dl,a6E];omega
def xR (a:List Int):(dz a).length=1+8*a.length:=by rw[dz,a6E,ot];omega
theorem Dv (b a:Nat) (c:a<=64):br .shr (.int .i64 (b:Int)) (.int .u64 (a:Int))=some (.int .i64 ((b>>>a:Nat):Int)):=by
 have d:br .shr (.int .i64 (b)) (.int .u64 (a))=some (.int .i64 ((b:Int).fdiv (2^a))):=by have hm:min a IntKind.i64.bits=a:=a8k c;simp[br,ft,o0,hm]
 grind[Nat.shiftRight_eq_div_pow,Int.ofNat_fdiv]
def sH (d h:U) (b:Nat) (c:List UInt8) (a:Nat) (F:a<=1048576) (r:cx d b c h) (G:c.length<=1000000000000):
  AC Tryz.prog 127 [.ptr b 0,.v (.int .i64 a)] h λ_ x=>cx d b (c++fk a) x:=by
 refine bc hm Ou aaV ?_;have k:br .shr (.int .i64 (a)) (.int .u64 16)=some (.int .i64 ((a>>>16))):=Dv a 16 aaU;have o:br .shr (.int .i64 (a)) (.int .u64 8)=some (.int .i64 ((a>>>8))):=Dv a 8 aaU;have p:(0:Int)<=a:=aaU;have c2:(a:Int)<=1048576:=aaU;refine aF (bh @k @o @iF @p @c2) ?_;refine dF U.a6 (by simp[aW,R.cells]) λy z C=> ?_;refine aF (bh @k @o @iF @p @c2) ?_;refine ah (uI d z b c (fk a) y (r.mono C.sub) (by rw[ky];omega)) ?_;intro L D E;refine ei ?_;exact⟨D,U.a6,E⟩
def Dw (c h:U) (b:Nat) (d a:List UInt8) (k:Own) (o:a.length<=1048576) (p:cx c b d h) (r:d.length<=1000000000000):
  AC Tryz.prog 73 [.ptr b 0,.J (a.map ak) k] h λ_ x=>cx c b (d++ic a) x:=by
 refine bc hm ML aaV ?_;have c2: ¬(1048576:Int)<a.length:=aaU;simp -dsimp -implicitDefEqProofs (disch:=first|omega|assumption|(simp only[bd,Nat.reduceAdd];try omega)) only[go_sem,simprocAttr,c2];refine ah (sH c h b d a.length o p r) ?_;intro y z C;simp -dsimp -implicitDefEqProofs (disch:=first|omega|assumption|(simp only[bd,Nat.reduceAdd];try omega)) only[go_sem,simprocAttr];refine ah (uI c z b _ a k C (by rw[a6A,ky];omega)) ?_;intro y D E;simp -dsimp -implicitDefEqProofs (disch:=first|omega|assumption|(simp only[bd,Nat.reduceAdd];try omega)) only[go_sem,simprocAttr];refine⟨D,U.a6,?_⟩;rw[ic,<-a6N];exact E
def ad (a:List Int):List R:=a.map λb=> .v (.int .i64 b)
def dP {a:List Int}{b:Nat} (c:b<a.length):(ad a)[b]? =some (.v (.int .i64 (a.getD b 0))):=by simp[ad,c]
variable{q b8:List Int}
theorem bM:(ad q).length=q.length:=by simp[ad]
theorem sI (h o:U) (c:Nat) (k:List UInt8) (a:List Int) (D:Own) (W:a.length<=255) (L:cx h c k o) (e:k.length<=1000000000000):
  AC Tryz.prog 129 [.ptr c 0,.J (ad a) D] o λ_ p=>cx h c (k++dz a) p:=by
 refine bc hm Oy aaV ?_;have c2: ¬(255:Int)<a.length:=aaU;have E:=bM (q:=a);refine aF (aE @E @c2 @iF) ?_;refine ah (nu h o c k _ L aaU) ?_;intro P f g;refine aF @E ?_;refine cm (λd p=> ∃b:Nat,b<=a.length/\cx h c (k++(UInt8.ofNat a.length::(a.take b).flatMap ia)) p/\d 0= .ptr c 0/\d 17= .J (ad a) D/\d 18= .v (.int .i64 a.length)/\d 19= .v (.int .i64 b))
  (λd _=>match d 19 with| .v (.int _ S)=>(a.length - S).toNat| _=>0) ⟨0,aaU,by trivial,?_⟩ ?_
 .exact qT
 .rintro d F ⟨b,i,r,x,y,z,C⟩;by_cases G:(b:Int)<a.length
  .have T:b<a.length:=aaU;have V:=dP T;refine aF (c9 @x @y @z @C @G @gj @V) ?_;refine ah (YS h F c _ _ r ?_) ?_;grind[ot,List.length_append,List.length_cons,List.length_take];intro P j l;refine aF (aM @x @y @z @C) ?_;refine⟨⟨b+1,aaU,?_,aaV⟩,aaU⟩;grind[ia,List.take_succ,List.getElem?_eq_getElem,List.getD]
  .obtain rfl:b=a.length:=aaU;refine aF (bh @x @y @z @C @G) ?_;refine⟨F,U.a6,?_⟩;rw[a6V]at r;exact r
def Dx (h a:U) (b:Nat) (c:List UInt8) (k:cx h b c a):
  AC Tryz.prog 76 [.ptr b 0] a λo p=>p=a/\o= .v (.int .i64 0):=by
 obtain⟨r,d⟩:=k.cell;refine bc hm MR aaV ?_;have x:aL false 1 ([R.J (c.map ak) r,.v (.int .i64 0)].drop 1)= .v (.int .i64 0):=rfl;unfold uH at d;refine aF (c2 (U.ae d) @x) ?_;exact⟨a,U.a6,rfl⟩
def fB (b:Nat) (a:Rd):Nat×Rd:=
 match(dm a 3).1 with
 |none=>(0,(dm a 3).2)
 |some aV=>if min b 1048576<fj aV then(0,mu (dm a 3).2 10)else(fj aV,(dm a 3).2)
def r3 (a:Nat) (b:Rd):List UInt8×Rd:=((dm (fB a b).2 (fB a b).1).1.getD [],(dm (fB a b).2 (fB a b).1).2)
theorem Dy (a b:Nat) (c:a<4611686018427387904) (d:b<4611686018427387904):br .or (.int .i64 a) (.int .i64 b)=some (.int .i64 ((a|||b:Nat):Int)):=by
 have h:br .or (.int .i64 a) (.int .i64 b)=some (.int .i64 (IntKind.i64.wrap (BitVec.ofInt 64 (a)|||BitVec.ofInt 64 (b)).toNat)):=rfl;have k:a|||b<4611686018427387904:=Nat.or_lt_two_pow (n:=62) c d
 grind[BitVec.toNat_or,BitVec.toNat_ofNat,Nat.mod_eq_of_lt,wrap_i64]
theorem xj (b:UInt8) (a:Nat) (c:a<=16):br .shl (.int .i64 (b.toNat:Int)) (.int .u64 (a:Int))=some (.int .i64 ((b.toNat*2^a:Nat):Int)):=by
 have k:=b.toNat_lt;have o:br .shl (.int .i64 (b.toNat)) (.int .u64 (a))=some (.int .i64 (IntKind.i64.wrap ((b.toNat)*2^(min (a:Int).toNat 64)))):=by have d: ¬(a)<0:=aaU;simp only[br,ft,o0,d,if_false,if_true];rfl
 have hm:min (a:Int).toNat 64=a:=aaU;have h:2^a<=65536:=a8o aaU c;have p:b.toNat*2^a<=256*65536:=a9G aaU h;grind[wrap_i64]
theorem Z4 (a b c:UInt8):a.toNat*65536|||b.toNat*256|||c.toNat=fj [a,b,c]:=by
 have h:=a.toNat_lt;have k:=b.toNat_lt;have d:=c.toNat_lt;have o:a.toNat*65536|||b.toNat*256=a.toNat*65536+b.toNat*256:=by have:=a9j (a:=a.toNat) (i:=16) (b:=b.toNat*256) aaU;rw[a8Q]at this;exact this.symm
 have p:(a.toNat*256+b.toNat)*256|||c.toNat=(a.toNat*256+b.toNat)*256+c.toNat:=Dr _ _ d
 grind[fj]
def Z5 (a:A.length=3):fj A<16777216:=by have:=Dq A;rw[a]at this;exact this
def sJ (o r:U) (k:Nat) (d:Nat) (n:d<=1048576) (h:Rd) (E:c6 o k h r):
  AC Tryz.prog 185 [.ptr k 0,.v (.int .i64 d)] r λx F=>c6 o k (fB d h).2 F/\x= .v (.int .i64 (fB d h).1):=by
 refine bc hm Q9 aaV ?_;refine ei ?_;refine ah (uJ o r k h 3 aaU E) ?_;rintro x G ⟨y,q,rfl⟩;unfold fB;have p:=λaV=>r2 (a:=h) (e:=3) (A:=aV);generalize dm h 3=L at*;obtain⟨aV,P⟩:=L;cases aV with
 |none=>simp only[a8t,a9I]at*;refine ei ?_;exact⟨_,U.a6,y⟩
 |some aV=>
  simp only[a8U,a8v]at*;have p:=p aV rfl;have s:=Z5 p
  match aV,p with
  | [a,b,c],_=>
   have S:eB 1 (some (ak a))=some (.bU [.v (.int .u8 a.toNat)]):=rfl;have T:eB 1 (some (ak b))=some (.bU [.v (.int .u8 b.toNat)]):=rfl;have V:eB 1 (some (ak c))=some (.bU [.v (.int .u8 c.toNat)]):=rfl;have t:=a.toNat_lt;have u:=b.toNat_lt;have v:=c.toNat_lt;have W:IntKind.i64.wrap (a.toNat)=a.toNat:=wrap_i64 aaU aaU;have e:IntKind.i64.wrap (b.toNat)=b.toNat:=wrap_i64 aaU aaU;have f:IntKind.i64.wrap (c.toNat)=c.toNat:=wrap_i64 aaU aaU;have g:br .shl (.int .i64 (a.toNat)) (.int .u64 16)=some (.int .i64 ((a.toNat*65536:Nat))):=xj a 16 aaU;have i:br .shl (.int .i64 (b.toNat)) (.int .u64 8)=some (.int .i64 ((b.toNat*256:Nat))):=xj b 8 aaU;have j:br .or (.int .i64 ((a.toNat*65536:Nat))) (.int .i64 ((b.toNat*256:Nat)))=some (.int .i64 ((a.toNat*65536|||b.toNat*256))):=Dy _ _ aaU aaU;have w:a.toNat*65536|||b.toNat*256<16777216:=Nat.or_lt_two_pow (n:=24) aaU aaU
   have l:br .or (.int .i64 ((a.toNat*65536|||b.toNat*256))) (.int .i64 (c.toNat))=some (.int .i64 ((fj [a,b,c]))):=by rw[Dy _ _ aaU aaU,Z4]
   simp -dsimp -implicitDefEqProofs (disch:=first|omega|assumption|(simp only[bd,Nat.reduceAdd];try omega)) only[gj,S,T,V,↓hS,hT,al,ofConst,cw,simprocAttr,eJ,a7S,↓sr,ss,ne_eq,not_true_eq_false,not_false_eq_true,Int.reduceNe,a8m,a8x,↓CK,CL,W,e,f,g,i,j,l];have C:min (d:Int) 1048576=((min d 1048576)):=aaU;by_cases D:min d 1048576<fj [a,b,c]
   .have z:((min d 1048576))<(fj [a,b,c]:Int):=aaU;refine aF (c2 @C @z) ?_;refine ah (sG o G k P 10 y) ?_;intro x A m;refine ei ?_;rw[if_pos D];exact⟨_,U.a6,m,rfl⟩
   .have z: ¬((min d 1048576))<(fj [a,b,c]:Int):=aaU;refine aF (c2 @C @z) ?_;rw[if_neg D];exact⟨_,U.a6,y,rfl⟩
theorem xT (a:Nat) (b:Rd):(fB a b).1<=a/\(fB a b).1<=1048576:=by grind[fB]
theorem Dz (d k:U) (c:Nat) (a:Nat) (r:a<=1048576) (b:Rd) (x:c6 d c b k):
  AC Tryz.prog 132 [.ptr c 0,.v (.int .i64 a)] k λo y=>c6 d c (r3 a b).2 y/\ ∃h,(h= .nil->(r3 a b).1= [])/\o= .J ((r3 a b).1.map ak) h:=by
 refine bc hm OE aaV ?_;simp -dsimp -implicitDefEqProofs (disch:=first|omega|assumption|(simp only[bd,Nat.reduceAdd];try omega)) only[go_sem,simprocAttr];refine ah (sJ d k c a r b x) ?_;rintro o z ⟨C,rfl⟩;have P:=xT a b;simp -dsimp -implicitDefEqProofs (disch:=first|omega|assumption|(simp only[bd,Nat.reduceAdd];try omega)) only[go_sem,simprocAttr];refine ah (Dn d z c (fB a b).2 (fB a b).1 aaU C) ?_;rintro o D ⟨E,h,F,rfl⟩;simp -dsimp -implicitDefEqProofs (disch:=first|omega|assumption|(simp only[bd,Nat.reduceAdd];try omega)) only[go_sem,simprocAttr];have S:((dm (fB a b).2 (fB a b).1).1.getD []).length<=1048576:=by grind[dm,fB,r2]
 refine ah (xO _ h D F aaU) ?_;rintro _ G ⟨L,p,rfl⟩;simp -dsimp -implicitDefEqProofs (disch:=first|omega|assumption|(simp only[bd,Nat.reduceAdd];try omega)) only[go_sem,simprocAttr];refine⟨G,U.a6,E.mono p.sub,L,?_,rfl⟩;rintro rfl;have:=p.2;simpa[r3] using this
def jO:Nat->Rd->List Int->List Int×Rd
 |0,a,acc=>(acc,a)
 |b+1,a,acc=>jO b (iK a).2 (if(iK a).2.e=0 then acc++ [(iK a).1]else acc)
def ie (c:Nat) (d:Rd):List Int×Rd:=
 let a:=dw d
 let b:=jO a.1.toNat (if c<a.1.toNat then mu a.2 10 else a.2) []
 if b.2.e=0 then b else([],b.2)
theorem DA: ∀(c:Nat) (a:Rd) (b:List Int),(jO c a b).1.length<=b.length+c
 |0,a,b=>by simp[jO]
 |c+1,a,b=>by
  rw[jO];have:=DA c (iK a).2 (if(iK a).2.e=0 then b++ [(iK a).1]else b);grind
theorem xU (b:Nat) (a:Rd):(ie b a).1.length<=255:=by unfold ie;have c:=DA (dw a).1.toNat (if b<(dw a).1.toNat then mu (dw a).2 10 else(dw a).2) [];have d:=(dw a).1.toNat_lt;grind
def c6.full {c:Rd} (d:c6 s e c f):c6 (f.del e) e c f:=by
 obtain⟨h,k⟩:=d.cell;refine⟨h,λo p a=> ?_⟩;by_cases b:o=e
 .subst b;rw[U.ai]at a;rw[k];exact a
 .rw[U.an _ _ b,U.eH _ b]at a;exact a
def DB (d:(f.set e X).sub s) (h:f e=none):f.sub (s.del e):=λb k a=>by
 have c:b≠e:=by rintro rfl;rw[h]at a;cases a
 rw[U.eH _ c];exact d b k (by rw[U.an _ _ c];exact a)
def da.step {d o p:U}{a r:Nat}{E x:Rd}{F:Own}{y:List R}{h:Own} (z:bf (d.set a (ib E F)) o r y h) (G:d a=none) (L:c6 (o.del a) a x p): ∃k,bf (d.set a (ib x k)) p r y h:=by
 obtain⟨k,C⟩:=L;refine⟨k,?_,?_⟩
 .refine U.au ?_ C;exact U.lp (DB z.sub G)
 .have b:=z.2;cases h with
  |buf P S=>
   have c:P≠a:=by rintro rfl;have:=b.1;rw[U.ai]at this;cases this
   have D:=b.1;rw[U.an _ _ c]at D;exact⟨by rw[U.an _ _ c];exact D,C _ _ (by rw[U.an _ _ c,U.eH _ c];exact b.2)⟩
  | _=>exact b
variable{g B c0:List R}{N e5 h6:Own}
def da.rs {a:Rd} (b:bf (f.set e (ib a N)) s i g e5):c6 f e a s:=⟨N,b.sub⟩
theorem pI (r j:U) (b:Nat) (x:Nat) (k1:x<=1048576) (P:Rd) (H:r b=none) (I:c6 r b P j):
  AC Tryz.prog 187 [.ptr b 0,.v (.int .i64 x)] j λy S=>c6 r b (ie x P).2 S/\ ∃F,y= .J (ad (ie x P).1) F:=by
 refine bc hm Qd aaV ?_;refine ei ?_;refine ah (pG r j b P I) ?_;rintro y K ⟨l,rfl⟩;unfold ie;generalize dw P=M at*;obtain⟨o,m⟩:=M;simp only at l|-;have k2:=o.toNat_lt;have n:IntKind.i64.wrap (o.toNat)=o.toNat:=wrap_i64 aaU aaU;have N: ∃G,G=(if x<o.toNat then mu m 10 else m):=⟨_,rfl⟩;obtain⟨G,T⟩:=N;rw[<-T];refine aF @n ?_;refine sn (λp S=>p 0= .ptr b 0/\p 5= .v (.int .i64 o.toNat)/\c6 r b G S) ?_ ?_ ?_
 .intro d;have q:x<o.toNat:=by have:=of_decide_eq_true d;omega
  rw[if_pos q]at T;refine ei ?_;refine ah (sG r K b m 10 l) ?_;intro y O V;refine aF @n ?_;rw[T];exact V
 .intro d;have q: ¬x<o.toNat:=by have:=of_decide_eq_false d;omega
  rw[if_neg q]at T;refine aF @n ?_;rw[T];exact l
 rintro p O ⟨v,w,V⟩;generalize o.toNat=h at*;refine aF (c2 @v @w) ?_;refine cm (λp S=> ∃(c:Nat) (a:Rd) (k:List Int) (g F:Own),c<=h/\jO (h - c) a k=jO h G []/\k.length<=c/\bf (r.set b (ib a F)) S 1 (ad k) g/\p 0= .ptr b 0/\p 6= .J (ad k) g/\p 16= .v (.int .i64 h)/\p 17= .v (.int .i64 c))
  (λp _=>match p 17 with| .v (.int _ o)=>(h - o).toNat| _=>0) ?_ ?_
 .obtain⟨F,V⟩:=V;refine⟨0,G,[],.nil,F,aaU,rfl,aaV,bf.nil V,?_⟩;refine aF (c2 @v @w) ?_;rfl
 .rintro k3 A ⟨c,a,k,g,F,k4,L,k5,W,z,C,D,E⟩;by_cases s:(c:Int)<h
  .refine aF (bh @z @C @D @E @s) ?_;refine ah (Z3 (A.del b) A b a (da.rs W).full) ?_;rintro y k6 ⟨t,rfl⟩;have Q:jO (h - c) a k=jO (h -(c+1)) (iK a).2 (if(iK a).2.e=0 then k++ [(iK a).1]else k):=by rw[show h - c=(h -(c+1))+1 by omega];rfl
   rw[Q]at L;obtain⟨k7,B⟩:=da.step W H t;generalize iK a=X at*;obtain⟨y,i⟩:=X;simp only at t B L|-;obtain⟨u,e⟩:=t.cell;have f:aL false 1 ([R.J (i.b.map ak) u,.v (.int .i64 i.e)].drop 1)= .v (.int .i64 i.e):=rfl;by_cases d:i.e=0
   .rw[if_pos d]at L;refine aF (c9 @z @C @D @E (U.ae e) @f @d) ?_;refine dF U.a6 (by simp[aW,R.cells]) λk8 k9 Y=> ?_;refine aF (aM @z @C @D @E) ?_;refine eh (B.mono Y.sub) (by simp[aW,ad,R.cells]) (by simp[aW,R.cells]) (by simp[bM];omega) (by simp[bM];omega) λl0 l1 Z=> ?_;refine aF (aM @z @C @D @E) ?_;have j9:ad k++ [R.v (.int .i64 y)]=ad (k++ [y]):=by simp[ad]
    rw[j9]at Z|-;grind
   .rw[if_neg d]at L;refine aF (c9 @z @C @D @E (U.ae e) @f @d) ?_;grind
  .obtain rfl:c=h:=aaU;rw[a8T]at L;have k0:jO c G []=(k,a):=by rw[<-L];rfl
   rw[k0];obtain⟨u,e⟩:=(da.rs W).cell;have f:aL false 1 ([R.J (a.b.map ak) u,.v (.int .i64 a.e)].drop 1)= .v (.int .i64 a.e):=rfl;by_cases d:a.e=0
   .refine aF (bt @z @C @D @E @s (U.ae e) @f @d) ?_;exact⟨_,U.a6,da.rs W,g,rfl⟩
   .refine aF (bt @z @C @D @E @s (U.ae e) @f @d) ?_;exact⟨_,U.a6,da.rs W,.nil,rfl⟩
def headD (b:List (List UInt8)) (a:Nat):List UInt8:=if a=0 then uF else b.getD (a - 1) uF
def Z6 (a:Int) (b c:List UInt8) (d:Int) (h:R):List R:=xP a b c++ [.v (.int .i64 d),h]
structure xV where
 o:iJ
 st:Int
 xW:Option (iJ×iJ)
def xV.ok (a:xV):Prop:=a.o.ok/\ ∀b c,a.xW=some (b,c)->b.ok/\c.ok
def DC (a:iJ) (b:Int) (c:R):List R:=Z6 a.n a.h a.d b c
def FS (c:U) (d:Nat) (a:xV) (h:U):Prop:=
 match a.xW with
 |none=>(c.set d (.cells (DC a.o a.st (.v (.pointer none))))).sub h
 |some (k,o)=> ∃b,c b=none/\b≠d/\((c.set d (.cells (DC a.o a.st (.ptr b 0)))).set b (.cells (k.C++o.C))).sub h
def Z7 (c d:U) (a:Nat) (b:List UInt8) (h:Bool) (o:cx c a b d) (p:b.length+1<=70368744177664):
  AC Tryz.prog 206 [.ptr a 0,.v (.bool h)] d λ_ r=>cx c a (b++ [if h then 1 else 0]) r:=by
 refine bc hm QF aaV ?_;cases h
 .refine aF (c2 @aY @aZ) ?_;refine ah (nu c d a b 0 o p) ?_;intro x y k;refine aF (c2 @aY @aZ) ?_;exact⟨_,U.a6,k⟩
 .refine aF (c2 @aY @aZ) ?_;refine ah (nu c d a b 1 o p) ?_;intro x y k;refine aF (c2 @aY @aZ) ?_;exact⟨_,U.a6,k⟩
theorem DD (a c:List UInt8) (D E:Own) (h:U) (e:a.length<=70368744177664):
  AC Tryz.prog 81 [.J (a.map ak) D,.J (c.map ak) E] h λL z=>z=h/\L= .v (.bool (decide (a=c))):=by
 refine bc hm N1 aaV ?_;by_cases f:a.length=c.length
 .have k:(a.length:Int)=c.length:=aaU;refine aF (aE @k @aY @aZ) ?_;rw[<-k];refine cm (λd z=> ∃b:Nat,b<=a.length/\z=h/\d 0= .J (a.map ak) D/\d 1= .J (c.map ak) E/\d 12= .v (.int .i64 a.length)/\d 13= .v (.int .i64 b)/\a.take b=c.take b)
   (λd _=>match d 13 with| .v (.int _ P)=>(a.length - P).toNat| _=>0) ⟨0,aaU,rfl,?_⟩ ?_
  .exact gJ (aE @a8w.{0} @aY @aZ)
  .rintro d F ⟨b,g,rfl,o,p,r,x,i⟩;by_cases y:(b:Int)<a.length
   .have S:b<a.length:=aaU;have T:b<c.length:=aaU;have V:eB 1 (a.map ak)[b]? =some (.bU [.v (.int .u8 (a.getD b 0).toNat)]):=by rw[xi S];rfl
    have W:eB 1 (c.map ak)[b]? =some (.bU [.v (.int .u8 (c.getD b 0).toNat)]):=by rw[xi T];rfl
    simp -dsimp -implicitDefEqProofs (disch:=first|omega|assumption|(simp only[bd,Nat.reduceAdd];try omega)) only[o,p,r,x,y,gj,V,W,go_sem,simprocAttr,aY,aZ];by_cases G:a.getD b 0=c.getD b 0
    .have C:(((a.getD b 0).toNat:Int)=(c.getD b 0).toNat)=True:=by rw[G];simp
     simp -dsimp -implicitDefEqProofs (disch:=first|omega|assumption|(simp only[bd,Nat.reduceAdd];try omega)) only[o,p,r,x,y,C,go_sem,simprocAttr,aY,aZ];refine⟨⟨b+1,aaU,aaV,?_⟩,aaU⟩;grind[List.take_succ,List.getElem?_eq_getElem,List.getD]
    .have C:(((a.getD b 0).toNat:Int)=(c.getD b 0).toNat)=False:=by simp only[eq_iff_iff,iff_false];grind[UInt8.toNat_inj]
     simp -dsimp -implicitDefEqProofs (disch:=first|omega|assumption|(simp only[bd,Nat.reduceAdd];try omega)) only[o,p,r,x,y,C,go_sem,simprocAttr,aY,aZ];refine⟨F,U.a6,rfl,?_⟩;have:a≠c:=by rintro rfl;exact G rfl
     simp[this]
   .obtain rfl:b=a.length:=aaU;simp -dsimp -implicitDefEqProofs (disch:=first|omega|assumption|(simp only[bd,Nat.reduceAdd];try omega)) only[o,p,r,x,y,go_sem,simprocAttr,aY,aZ];refine⟨F,U.a6,rfl,?_⟩;grind
 .have k:((a.length:Int)=c.length)=False:=by grind
  refine aF (aE @k @aY @aZ) ?_;refine⟨h,U.a6,rfl,?_⟩;have:a≠c:=by rintro rfl;omega
  simp[this]
def nx (a:Rd):Bool×Rd:=(decide ((dw a).1=1),if 1<(dw a).1.toNat then mu (dw a).2 21 else(dw a).2)
theorem Z8 (d h:U) (b:Nat) (c:Rd) (y:c6 d b c h):
  AC Tryz.prog 241 [.ptr b 0] h λk z=>c6 d b (nx c).2 z/\k= .v (.bool (nx c).1):=by
 refine bc hm RD aaV ?_;refine aF (c2 @aY @aZ) ?_;refine ah (pG d h b c y) ?_;rintro k C ⟨o,rfl⟩;unfold nx;generalize dw c=D at*;obtain⟨a,E⟩:=D;simp only at o|-;have r:decide ((a.toNat:Int)=1)=decide (a=1):=by
  have:((a.toNat:Int)=1)↔a=1:=by rw[<-a7v];grind
  simp only[this]
 by_cases x:1<a.toNat
 .have p:(1:Int)<a.toNat:=aaU;refine aF (aE @p @aY @aZ) ?_;refine ah (sG d C b E 21 o) ?_;intro k G F;rw[if_pos x];refine aF (aE @r @aY @aZ) ?_;exact⟨_,U.a6,F⟩
 .have p: ¬(1:Int)<a.toNat:=aaU;rw[if_neg x];refine aF (aM @p @r @aY @aZ) ?_;exact⟨_,U.a6,o⟩
structure aq where
 sum:List UInt8
 aT:List Int
 aS:List Int
 live:Int
 size:Int
 key:List Int
 deriving DecidableEq
def az:aq:=⟨List.replicate 32 0,[],[],0,0,[]⟩
structure bY where
 kind:UInt8
 rows:List (List Int×Bool)
 kids:List aq
 deriving DecidableEq
def cO (b c:List Int) (a:Nat):Bool:=decide (1<=a)&&decide (a<=8)&&decide (b.length=a)&&decide (c.length=a)&&(List.range a).all λd=>decide (b.getD d 0<=c.getD d 0)
def fl (b:Nat) (a:aq):Bool:=
 decide (a=az)||(!(decide (a.size<1)||decide (1048576<a.size)||decide (a.live<0)||decide (a.size<a.live))&&
  if a.live=0 then decide (a.aT.length=0)&&decide (a.aS.length=0)else cO a.aT a.aS b)
def dQ (c:Nat) (a:bY):Bool:=
  a.rows.all (λd=>decide (d.1.length=c))&&a.kids.all (fl c)&&
  (if a.kind=1 then decide (a.rows.length=1)&&decide (a.kids.length=2)&&a.kids.all (λb=>decide (b.key.length=0))
   else if a.kind=2 then decide (1<=a.rows.length)&&decide (a.rows.length<=4)&&decide (a.kids.length=0)&&a.rows.all (λd=>d.2)
   else if a.kind=3 then decide (a.rows.length=0)&&decide (2<=a.kids.length)&&decide (a.kids.length<=4)&&a.kids.all (λb=>decide (b.key.length=c)&& !decide (b=az))
   else false)
def gp (a:List Int×Bool):List UInt8:=(if a.2=true then(1:UInt8)else 0)::dz a.1
def dW (a:aq):List UInt8:=a.sum++(fk a.live.toNat++(fk a.size.toNat++(dz a.aT++(dz a.aS++dz a.key))))
def cG (a:bY):List UInt8:=a.kind::UInt8.ofNat a.rows.length::(a.rows.flatMap gp++UInt8.ofNat a.kids.length::a.kids.flatMap dW)
def sK (b:Nat) (a:bY):Option (List UInt8):=if dQ b a=true then some (cG a)else none
def cP (b a:List Int×List Int):List Int×List Int:=
 if cO b.1 b.2 b.1.length=true then
  (if cO a.1 a.2 a.1.length=true then(if b.1.length=a.1.length then(List.zipWith min b.1 a.1,List.zipWith max b.2 a.2)else([],[]))else b)
 else if cO a.1 a.2 a.1.length=true then a else([],[])
def gq (a:List Int):List Int×List Int:=if 1<=a.length/\a.length<=8 then(a,a)else([],[])
structure gM where
 live:Int
 size:Int
 aR:List Int×List Int
def dR (a:gM) (b:List Int×Bool):gM:=if b.2=true then {a with live:=a.live+1,aR:=cP a.aR (gq b.1)}else a
def ev (b:gM) (a:aq):gM:=⟨b.live+a.live,b.size+a.size,cP b.aR (a.aT,a.aS)⟩
def eD (a:bY):gM:=a.kids.foldl ev (a.rows.foldl dR ⟨0,a.rows.length,([],[])⟩)
def keyOf (a:bY):List Int:=if a.kind=2 then(a.rows.headD ([],false)).1 else if a.kind=3 then(a.kids.headD az).key else []
def fZ (a:List UInt8):List UInt8:=fi (preB 80 [a])
def fm (a:bY):aq:=⟨fZ (cG a),(eD a).aR.1,(eD a).aR.2,(eD a).live,(eD a).size,keyOf a⟩
def fI (b:Nat) (a:bY):Option aq:=if dQ b a=true then(if 1048576<(eD a).size then none else some (fm a))else none
def iL (b:Nat) (a:Rd):(List Int×Bool)×Rd:=(((ie b (nx a).2).1,(nx a).1),(ie b (nx a).2).2)
def hC (a:Nat) (p:Rd):aq×Rd:=
 let b:=nv p
 let c:=fB 1048576 b.2
 let d:=fB 1048576 c.2
 let h:=ie a d.2
 let k:=ie a h.2
 let o:=ie a k.2
 (⟨b.1,h.1,k.1,(c.1:Int),(d.1:Int),o.1⟩,o.2)
def fC {b:Type} (c:Rd->b×Rd):Nat->Rd->List b->List b×Rd
 |0,a,acc=>(acc,a)
 |d+1,a,acc=>fC c d (c a).2 (acc++ [(c a).1])
def ny (a:Nat) (o:List UInt8):bY×Rd:=
 let b:=dw ⟨o,0⟩
 let c:=dw b.2
 let d:=fC (iL a) c.1.toNat c.2 []
 let h:=dw d.2
 let k:=fC (hC a) h.1.toNat h.2 []
 (⟨b.1,d.1,k.1⟩,pH k.2)
def ou (a:Nat) (b:List UInt8):Option bY:=
 if(ny a b).2.e=0/\dQ a (ny a b).1=true/\cG (ny a b).1=b then some (ny a b).1 else none
abbrev dj (b:List Int):Prop:= ∀a∈b,-9223372036854775808<=a/\a<9223372036854775808
theorem r4 (a b:List UInt8):dm ⟨a++b,0⟩ a.length=(some a,⟨b,0⟩):=by unfold dm;simp
def ov (a:UInt8) (b:List UInt8):dw ⟨a::b,0⟩=(a,⟨b,0⟩):=by have:=r4 [a] b;rfl
def Z9 (a:Nat) (b:a<18446744073709551616):fj (cF a)=a:=by simp only[fj,cF,a7j,a8S,a7A,a7q];omega
theorem Za (a:Int) (b: -9223372036854775808<=a) (c:a<9223372036854775808):(BitVec.ofNat 64 (cq a)^^^9223372036854775808#64).toInt=a:=by grind[BitVec.ofInt,cq,BitVec.setWidth_eq,BitVec.xor_assoc,BitVec.xor_self,BitVec.xor_zero,BitVec.toInt_ofInt]
def Zb (a:Int) (b:List UInt8) (d: -9223372036854775808<=a) (h:a<9223372036854775808):iK ⟨ia a++b,0⟩=(a,⟨b,0⟩):=by have c:=r4 (ia a) b;rw[Dl]at c;unfold iK;rw[c];simp only;rw[ia,Z9 _ (by exact(BitVec.ofInt 64 a^^^BitVec.ofInt 64 9223372036854775808).isLt),Za a d h]
theorem DE (a b:List UInt8) (c:a.length=32):nv ⟨a++b,0⟩=(a,⟨b,0⟩):=by grind[r4,nv]
def Zc (a:Bool) (b:List UInt8):nx ⟨(if a=true then(1:UInt8)else 0)::b,0⟩=(a,⟨b,0⟩):=by unfold nx;rw[ov];cases a<;>rfl
theorem uK (a:Nat) (c:a<=1048576) (b:List UInt8):fB 1048576 ⟨fk a++b,0⟩=(a,⟨b,0⟩):=by have d:=r4 (fk a) b;grind[ky,fB,fj,fk,UInt8.toNat_ofNat',Nat.shiftRight_eq_div_pow]
def DF: ∀(a c:List Int) (b:List UInt8),dj a->jO a.length ⟨a.flatMap ia++b,0⟩ c=(c++a,⟨b,0⟩)
 | [],c,b,_=>by simp[jO]
 |d::a,c,b,h=>by
  have k:=h d aaV;rw[a6E,jO,a7a,a6N,Zb d _ k.1 k.2];simp only[if_true];rw[DF a _ b (λo p=>h o (by simp[p]))];simp
def pJ (a:List Int) (b:Nat) (c:List UInt8) (o:a.length<=b) (p:a.length<=255) (d:dj a):ie b ⟨dz a++c,0⟩=(a,⟨c,0⟩):=by
 have h:(UInt8.ofNat a.length).toNat=a.length:=by rw[a7A];omega
 unfold ie;have k: ¬b<a.length:=aaU;rw[dz,a7M,ov];simp only[h,k,if_false,DF a [] c d];simp
def DG (a:List Int×Bool) (b:Nat) (c:List UInt8) (d:a.1.length<=b) (h:a.1.length<=255) (k:dj a.1):iL b ⟨gp a++c,0⟩=(a,⟨c,0⟩):=by unfold iL;rw[gp,a7M,Zc,pJ _ _ _ d h k]
structure aq.In (d:Nat) (k:aq):Prop where
 sum:k.sum.length=32
 aT:dj k.aT
 aS:dj k.aS
 key:dj k.key
 nz:k.aT.length<=d
 nA:k.aS.length<=d
 nB:k.key.length<=d
 mv:0<=k.live
 live:k.live<=1048576
 mw:0<=k.size
 size:k.size<=1048576
def DH (b:aq) (c:Nat) (x:c<=255) (d:List UInt8) (a:b.In c):hC c ⟨dW b++d,0⟩=(b,⟨d,0⟩):=by have y:=a.live;have h:=a.mv;have z:=a.size;have k:=a.mw;have o:=a.nz;have p:=a.nA;have r:=a.nB;unfold hC;simp only[dW,a6N];rw[DE _ _ a.sum];simp only[];rw[uK _ aaU];simp only[];rw[uK _ aaU];simp only[];rw[pJ _ _ _ o aaU a.aT];simp only[];rw[pJ _ _ _ p aaU a.aS];simp only[];rw[pJ _ _ _ r aaU a.key];rw[a8h h,a8h k]
def sL {d:Type} (k:Rd->d×Rd) (o:d->List UInt8) (p:d->Prop) (r: ∀a b,p a->k ⟨o a++b,0⟩=(a,⟨b,0⟩)): ∀(c h:List d) (b:List UInt8),(∀a∈c,p a)->fC k c.length ⟨c.flatMap o++b,0⟩ h=(h++c,⟨b,0⟩)
 | [],h,b,_=>by simp[fC]
 |a::c,h,b,x=>by
  rw[a6E,fC,a7a,a6N,r a _ (x a aaV)];rw[sL k o p r c _ b (λy z=>x y (by simp[z]))];simp
structure bY.In (d:Nat) (n:bY):Prop where
 ok:dQ d n=true
 rows: ∀r∈n.rows,dj r.1
 kids: ∀k∈n.kids,k.In d
variable{b4:bY}
theorem kz (a:dQ e b4=true):(∀b∈b4.rows,b.1.length=e)/\b4.rows.length<=4/\b4.kids.length<=4:=by unfold dQ at a;grind
def DI (k:e<=255) (b:b4.In e):ou e (cG b4)=some b4:=by
 obtain⟨o,z,C⟩:=kz b.ok;have p:(UInt8.ofNat b4.rows.length).toNat=b4.rows.length:=by rw[a7A];omega
 have r:(UInt8.ofNat b4.kids.length).toNat=b4.kids.length:=by rw[a7A];omega
 have x:ny e (cG b4)=(b4,⟨[],0⟩):=by unfold ny cG;simp only[ov,p];rw[sL (iL e) gp (λa=>a.1.length=e/\dj a.1) (λa d c=>DG a e d aaU aaU c.2) b4.rows [] _ (λa c=>⟨o a c,b.rows a c⟩)];simp only[ov,r];have:=sL (hC e) dW (λh=>h.In e) (λh d y=>DH h e k d y) b4.kids [] [] b.kids;rw[a7E]at this;rw[this];rfl
 unfold ou;rw[x];simp[b.ok]
def uL (a:List (List UInt8)) (b:Nat) (c:List UInt8):List Nat:=(List.range b).filter λd=>decide (fi (a.getD d [])=c)
def Zd (a:List Nat):List R:=a.map λb=> .v (.int .i64 ((b:Nat):Int))
abbrev pK:List (Nat×cb):= [(32,.int .u8)]
theorem ow (a:A.length=32):dk pK (A.map ak):=by
 refine⟨by simp[a],λc b=> ?_,?_⟩
 .rw[a6z (by simp[a])]at b;obtain⟨d,_,rfl⟩:=a6S.1 b;rfl
 .show List.drop 32 _= [];simp_all
structure PB (k p:U) (r:Nat) (b:List (List UInt8)) (n:Nat) (h:R->Option R):Prop where
 sub:k.sub p
 new:k r=none
 val: ∀d,d.length=32->(uL b n d= []/\h (bz d)=none)\/(uL b n d≠ []/\ ∃a c,h (bz d)=some (.J (Zd (uL b n d)) (.buf a c))/\k a=none/\a≠r/\p a=some (.buf 1 (uL b n d).length c))
 inj: ∀d o x y a c z,d.length=32->o.length=32->h (bz d)=some (.J x (.buf a c))->h (bz o)=some (.J y (.buf a z))->d=o
theorem sM (a:List UInt8) (d:Own) (b:U) (C:a.length<=70368744177664):
  AC Tryz.prog 40 [.J (a.map ak) d] b λk o=> ∃h,bf b o 1 (a.map ak) h/\k= .J (a.map ak) h:=by
 refine nm λD=> ?_;have p:d= .nil->a= []:=λE=>by simp_all
 refine bc hm LH aaV ?_;simp -dsimp -implicitDefEqProofs (disch:=first|omega|assumption|(simp only[bd,Nat.reduceAdd];try omega)) only[go_sem,simprocAttr,-List.reduceReplicate,↓oo];refine oq (λc=>by rw[p c];rfl) (λc=> ?_) ?_
 .have r:a= []:=by simpa using c
  subst r;refine aj @a7u ?_;exact⟨b,U.a6,.nil,bf.nil U.a6,rfl⟩
 .refine bT ?_;refine dF U.a6 (by simp[aW]) λF G x=> ?_;refine bT ?_;refine ni (A:= []) x aaW λy z L=> ?_;refine aj @a6T.{0} ?_;exact⟨z,U.a6,y,by trivial,rfl⟩
def Ze (a b:List UInt8) (d h:Own) (c:U):
  AC Tryz.prog 42 [.J (a.map ak) d,.J (b.map ak) h] c λk o=>o=c/\k= .v (.bool (decide (a=b))):=by
 refine bc hm LL aaV ?_;have p:nj (.J (a.map ak) d)=some (bn a):=px;have r:nj (.J (b.map ak) h)=some (bn b):=px;refine aj (aE @p @r @qR) ?_;exact⟨c,U.a6,rfl⟩
def Zf (a:List UInt8) (b:Own) (c:U) (C:a.length<=1000000000000):
  AC Tryz.prog 87 [.J (a.map ak) b] c λh k=> ∃d,bf c k 1 ((preB 80 [a]).map ak) d/\h= .J ((preB 80 [a]).map ak) d:=by
 refine bc hm Nc aaV ?_;refine bT ?_;refine dF U.a6 (by simp[aW,R.cells]) λo p r=> ?_;refine bT ?_;refine ah (YG 80 [(a,b)] o (by simp[preB,chunk,cF];omega) p) ?_;rintro _ x ⟨y,z,rfl⟩;refine bT ?_;exact⟨x,U.a6,y,z.base r.sub,rfl⟩
def ox (a:List UInt8):(fZ a).length=32:=sE _
def DJ (a:List UInt8) (d:Own) (c:U) (p:a.length<=1000000000000):
  AC Tryz.prog 41 [.J (a.map ak) d] c λr x=>x=c/\r=bz (fZ a):=by
 refine bc hm LJ aaV ?_;refine bT ?_;refine aN λE h=> ?_;refine bT ?_;refine ah (Zf a d _ p) ?_;rintro _ F ⟨y,k,rfl⟩;have z:=k.sub _ _ (U.ai _ _ _);refine bT ?_;refine ah (YL _ y (by simp[preB,chunk,cF];omega) _) ?_;rintro _ _ ⟨rfl,rfl⟩;have o:(fi (preB 80 [a])).length=32:=ox a;have C: ∀b,(bz b).cells=b.map ak:=λ_=>rfl;rw[show fZ a=fi (preB 80 [a])from rfl];generalize fi (preB 80 [a])=b at*;have D:(b.map ak).length=32:=by simp[o]
 refine aj (aM @C @D @o (U.aI z)) ?_;refine⟨c,U.af (U.au (U.af U.a6 h) k.sub) h,rfl,?_⟩;rw[a6z aaU];rfl
structure ag where
 m:List UInt8->Option (List UInt8)
 a:List UInt8
 b:List UInt8
 one:Bool
def ag.new:ag:=⟨λ_=>none,[],[],false⟩
def fc (c:ag) (b:List UInt8):ag:=
 match c.m (fZ b)with
 |none=> {c with m:=λd=>if d=fZ b then some b else c.m d}
 |some h=>if c.one=false/\h≠b then {c with a:=h,b:=b,one:=true}else c
abbrev DK (b:Nat) (a:ag) (c d:Own):List R:= [.eX b,.J (a.a.map ak) c,.J (a.b.map ak) d,.v (.bool a.one)]
structure bq (h:U) (l k:Nat) (a:ag):Prop where
 at_: ∃hD db,h l=some (.cells (DK k a hD db))
 mp: ∃c,nk h k pK c/\ ∀d,d.length=32->match a.m d with
  |none=>c (bz d)=none
  |some b=>b.length<=1000000000000/\ ∃o,c (bz d)=some (.J (b.map ak) o)
 r5:a.a.length<=1000000000000
 r6:a.b.length<=1000000000000
def Ext (c d:Nat) (h k:U):Prop:= ∀a b,a≠c->a≠d->h a=some b->k a=some b
def Ext.refl:Ext e i f f:=λ_ _ _ _ a=>a
theorem Ext.of {l lM:Nat}{s:U} (a:s.sub f):Ext l lM s f:=λb c _ _ d=>a b c d
theorem Ext.trans (h:Ext e i f s) (k:Ext e i s e0):Ext e i f e0:=λa b c d o=>k a b c d (h a b c d o)
variable{H:ag}
def bq.ne (a:bq f e i H):e≠i:=by obtain⟨d,h,c⟩:=a.at_;obtain⟨k,⟨o,p,b,_⟩,_⟩:=a.mp;rintro rfl;rw[c]at b;cases b
def bq.mono (a:bq f e i H) (b:f.sub s):bq s e i H:=by obtain⟨c,d,h⟩:=a.at_;obtain⟨k,⟨o,p,r,x⟩,y⟩:=a.mp;exact⟨⟨c,d,b _ _ h⟩,⟨k,⟨o,p,b _ _ r,x⟩,y⟩,a.r5,a.r6⟩
def bq.other (a:bq f e i H) (b:s e=f e) (c:s i=f i):bq s e i H:=by obtain⟨d,h,k⟩:=a.at_;obtain⟨o,⟨p,r,x,y⟩,z⟩:=a.mp;exact⟨⟨d,h,by rw[b];exact k⟩,⟨o,⟨p,r,by rw[c];exact x,y⟩,z⟩,a.r5,a.r6⟩
def Zg:(R.eX e).cells= [.eX e]:=rfl
def xX (b:U):AC Tryz.prog 18 [] b λE k=> ∃a c,b a=none/\b c=none/\E= .ptr a 0/\bq k a c ag.new/\b.sub k:=by
 refine bc hm L3 aaV ?_;refine bT ?_;refine aN λc o=> ?_;have F: ∀G p r h x:R,putAt [G,p,r,h] 0 [x]= [x,p,r,h]:=λ_ _ _ _ _=>rfl;have y: ∀z,(R.agg z).cells=z:=λ_=>rfl;refine aj (aE @Zg @F @y) ?_;refine aN λa d=> ?_;refine aj @y ?_;have C:a≠c:=by rintro rfl;rw[U.ai]at d;cases d
 have D:b a=none:=by rw[U.an _ _ C]at d;exact d
 refine⟨_,U.a6,a,c,D,o,rfl,⟨⟨.nil,.nil,by rw[U.ai];rfl⟩,⟨_,⟨[],0,by rw[U.an _ _ (a6I C),U.ai],ku.new⟩,λh _=>rfl⟩,by trivial,by trivial⟩,U.af (U.af U.a6 o) D⟩
def iM:(bz A).cells=A.map ak:=rfl
def Zh (d:U) (z C:Nat) (h:ag) (F:bq d z C h) (a:List UInt8) (k:a.length=32):
  AC Tryz.prog 19 [.ptr z 0,bz a] d λD G=>d.sub G/\match h.m a with
   |none=>D= .aJ [.J [] .nil,.v (.int .i64 9)]
   |some o=> ∃p,D= .aJ [.J (o.map ak) p,.v (.int .i64 0)]:=by
 obtain⟨⟨s,t,L⟩,⟨c,P,b⟩,_,_⟩:=F;have b:=b a k;have r:(a.map ak).length=32:=by simp[k]
 refine bc hm L5 aaV ?_;refine aj (c2 @iM @r) ?_;refine aN λS T=> ?_;have x:=U.af (X:= .cells (a.map ak)) (U.a6) T;have V:nk (d.set S (.cells (a.map ak))) C pK c:=by obtain⟨W,e,f,g⟩:=P;exact⟨W,e,x _ _ f,g⟩
 have i:=x _ _ L;have j:aL true 32 (a.map ak)=bz a:=by rw[aL,if_pos rfl,a6z aaU];rfl
 refine aj (bh @iM @r @k (U.ae i) @j) ?_;refine uj V (ow k) (λv y=> ?_) (λE=> ?_)
 .cases hm:h.m a with
  |none=>rw[hm]at b;rw[show c (.agg (a.map ak))=c (bz a)from rfl,b]at y;cases y
  |some o=>rw[hm]at b;obtain⟨l,p,b⟩:=b;rw[show c (.agg (a.map ak))=c (bz a)from rfl,b]at y;obtain rfl:=a6x y;refine aj (c2 @iM @r) ?_;refine ah (sM o p _ aaU) ?_;rintro _ m ⟨n,q,rfl⟩;refine bT ?_;exact⟨m,U.a6,U.au x q.sub,n,rfl⟩
 .cases hm:h.m a with
  |none=>refine aj (c2 @iM @r) ?_;exact⟨_,U.a6,x⟩
  |some o=>rw[hm]at b;obtain⟨l,p,b⟩:=b;rw[show c (.agg (a.map ak))=c (bz a)from rfl,b]at E;cases E
def Zi (b:U) (k y:Nat) (a:ag) (c:bq b k y a):
  AC Tryz.prog 29 [.ptr k 0] b λz C=>b.sub C/\ ∃d h,z= .aJ [.J (a.a.map ak) d,.J (a.b.map ak) h,.v (.bool a.one)]:=by
 have L:=c.r5;have P:=c.r6;obtain⟨d,h,o⟩:=c.at_;refine bc hm Ll aaV ?_;refine aj (U.ae o) ?_;refine ah (sM a.a d _ aaU) ?_;rintro _ S ⟨D,p,rfl⟩;have r:=p.sub _ _ o;refine aj (U.ae r) ?_;refine ah (sM a.b h _ aaU) ?_;rintro _ E ⟨F,x,rfl⟩;have G:=x.sub _ _ r;refine aj (U.ae G) ?_;exact⟨E,U.a6,U.au p.sub x.sub,D,F,rfl⟩
theorem Zj (C:U) (k d:Nat) (h:ag) (G:bq C k d h) (b:List UInt8) (V:Own) (Q:b.length<=1000000000000):
  AC Tryz.prog 20 [.ptr k 0,.J (b.map ak) V] C λl9 L=>l9=bz (fZ b)/\bq L k d (fc h b)/\Ext k d C L:=by
 have k8:=G.ne;refine bc hm L7 aaV ?_;refine bT ?_;refine aN λD i=> ?_;have u:=U.af (X:= .cells (List.replicate 32 (.v (.int .u8 0)))) (U.a6) i;have aM:(C.set D (.cells (List.replicate 32 (.v (.int .u8 0))))) D= _:=U.ai _ _ _;refine bT ?_;generalize C.set D (.cells (List.replicate 32 (.v (.int .u8 0))))=a08 at*;refine ah (DJ b V _ Q) ?_;rintro _ X ⟨rfl,rfl⟩;refine bT ?_;refine aN λW e=> ?_;have a09:D≠W:=by rintro rfl;rw[aM]at e;cases e
 have o:=ox b;have n0: ∀c,fc h b=fc h b->c=fZ b->c.length=32:=λc _ y=>by rw[y];exact o
 generalize Y:fZ b=c at*;have x:(c.map ak).length=32:=by simp[o]
 have j:putAt (List.replicate 32 (R.v (.int .u8 0))) 0 (c.map ak)=c.map ak:=by rw[putAt,a8w,a6T,x,a7n aaV,a7E]
 refine aj (bh @iM @x @o @j @U.set_set) ?_;have Z:=U.af (X:= .cells (c.map ak)) (U.a6) e;have bh:(X.set W (.cells (c.map ak))) W= _:=U.ai _ _ _;have k9:=Z _ _ aM;have l0:=G.mono (U.au u Z);have l1:Ext k d C (X.set W (.cells (c.map ak))):=Ext.of (U.au u Z);have n1:D≠k:=by rintro rfl;obtain⟨_,_,y⟩:=G.at_;rw[y]at i;cases i
 have n2:W≠k:=by rintro rfl;obtain⟨_,_,y⟩:=G.at_;rw[u _ _ y]at e;cases e
 have l2:D≠d:=by rintro rfl;obtain⟨_,⟨_,_,y,_⟩,_⟩:=G.mp;rw[y]at i;cases i
 have n3:W≠d:=by rintro rfl;obtain⟨_,⟨_,_,y,_⟩,_⟩:=G.mp;rw[u _ _ y]at e;cases e
 obtain⟨l3,l,n⟩:=l0.at_;obtain⟨P,w,j9⟩:=l0.mp;have E:=j9 c o;have F:aL true 32 (c.map ak)=bz c:=by rw[aL,if_pos rfl,a6z aaU];rfl
 clear n0;have l4: ∀L:U,bq L k d (fc h b)->Ext k d C L->bq (L.set D (.cells (c.map ak))) k d (fc h b)/\Ext k d C (L.set D (.cells (c.map ak))):=by
  intro L n4 n5;refine⟨n4.other (U.an _ _ (a6I n1)) (U.an _ _ (a6I l2)),λp V n r S=> ?_⟩;have n9:p≠D:=by rintro rfl;rw[i]at S;cases S
  rw[U.an _ _ n9];exact n5 p V n r S
 have f:X k=some (.cells (DK d h l3 l)):=by rw[U.an _ _ (a6I n2)]at n;exact n
 refine aj (bx @iM @x @o (U.ae f) (U.ae bh) @F) ?_;refine uj w (ow o) (λv A=> ?_) (λl5=> ?_)
 .cases hm:h.m c with
  |none=>rw[hm]at E;rw[show P (.agg (c.map ak))=P (bz c)from rfl,E]at A;cases A
  |some q=>
   rw[hm]at E;obtain⟨l6,B,E⟩:=E;rw[show P (.agg (c.map ak))=P (bz c)from rfl,E]at A;obtain rfl:=a6x A;have g:fc h b=if h.one=false/\q≠b then {h with a:=q,b:=b,one:=true}else h:=by unfold fc;rw[Y,hm]
   refine aj (bx @iM @x @o (U.ae f) (U.ae bh) @F) ?_;cases s:h.one with
   |true=>refine aj (cN @iM @x @o (U.ae f) (U.ae bh) (U.aI aM) @F @j @s) ?_;rw[s]at g;rw[if_neg aaV]at g;grind[U.a6]
   |false=>
    refine aj (c9 @iM @x @o (U.ae f) (U.ae bh) @F @s) ?_;refine ah (Ze q b B V _) ?_;rintro _ _ ⟨rfl,rfl⟩;by_cases H:q=b
    .refine aj (cd @iM @x @o (U.ae f) (U.ae bh) (U.aI aM) @F @j @s @H) ?_;rw[if_neg (by simp[H])]at g;grind[U.a6]
    .refine aj (cd @iM @x @o (U.ae f) (U.ae bh) (U.aI aM) @F @j @s @H) ?_;rw[if_pos ⟨s,H⟩]at g;refine ah (sM b V _ aaU) ?_;rintro _ T ⟨I,r,rfl⟩;have K:=r.sub _ _ n;have M:=r.sub _ _ k9;have t:=r.sub _ _ bh;have l7:=w;have a00: ∀a b z c p:R,putAt [a,b,z,c] 1 [p]= [a,p,z,c]:=λ_ _ _ _ _=>rfl;have a01: ∀a b z c p:R,putAt [a,b,z,c] 2 [p]= [a,b,p,c]:=λ_ _ _ _ _=>rfl;have a02: ∀a b z c p:R,putAt [a,b,z,c] 3 [p]= [a,b,z,p]:=λ_ _ _ _ _=>rfl;refine aj (gk @iM @x @o (U.aI K) (U.ae t) (U.aI M) @F @j @a00 @a01 @a02 @U.set_set) ?_;have a03: ∀k0,k0=bs.cells [.eX d,.J (q.map ak) B,.J (b.map ak) I,.v (.bool true)]->bq (T.set k k0) k d (fc h b)/\Ext k d C (T.set k k0):=by rintro _ rfl;obtain⟨k1,z,k2,k3⟩:=w;rw[g];refine⟨⟨⟨B,I,U.ai _ _ _⟩,⟨P,⟨k1,z,by rw[U.an _ _ (a6I k8)];exact r.sub _ _ k2,k3⟩,j9⟩,l6,Q⟩,λp l S N k4=> ?_⟩;rw[U.an _ _ S];exact r.sub _ _ (l1 p l S N k4)
     obtain⟨k5,k6⟩:=a03 _ rfl;exact⟨_,U.a6,l4 _ k5 k6⟩
 .cases hm:h.m c with
  |some q=>rw[hm]at E;obtain⟨l6,B,E⟩:=E;rw[show P (.agg (c.map ak))=P (bz c)from rfl,E]at l5;cases l5
  |none=>
   have g:fc h b= {h with m:=λc=>if c=fZ b then some b else h.m c}:=by unfold fc;rw[Y,hm]
   refine aj (bx @iM @x @o (U.ae f) (U.ae bh) @F) ?_;refine ah (sM b V _ aaU) ?_;rintro _ T ⟨I,r,rfl⟩;have K:=r.sub _ _ n;have M:=r.sub _ _ k9;have t:=r.sub _ _ bh;have l7:nk T d pK P:=by obtain⟨k1,z,k2,k3⟩:=w;exact⟨k1,z,r.sub _ _ k2,k3⟩
   refine aj (bx @iM @x @o (U.ae K) (U.ae t) @F) ?_;refine CO l7 (ow o) λO a04=> ?_;have a05:(T.set d O) W=some (.cells (c.map ak)):=by rw[U.an _ _ n3];exact t
   have a06:(T.set d O) D=some (.cells (List.replicate 32 (.v (.int .u8 0)))):=by rw[U.an _ _ l2];exact M
   refine aj (cN @iM @x @o (U.ae t) (U.ae a05) (U.aI M) (U.aI a06) @F @j) ?_;have k5:bq (T.set d O) k d (fc h b):=by
    rw[g];refine⟨⟨l3,l,by rw[U.an _ _ k8];exact K⟩,⟨_,a04,λl8 a07=> ?_⟩,G.r5,G.r6⟩;simp only[Y];by_cases k7:l8=c
    .subst k7;rw[if_pos rfl];exact⟨Q,I,sv⟩
    .rw[if_neg k7];rw[show(R.agg (c.map ak))=bz c from rfl,pw (λy=>k7 (uG y))];exact j9 l8 a07
   have k6:Ext k d C (T.set d O):=λp l S N k4=>by
    rw[U.an _ _ N];exact r.sub _ _ (l1 p l S N k4)
   exact⟨_,U.a6,l4 _ k5 k6⟩
structure eb (a b:U) (h c:Nat) (l:List (List UInt8)):Prop where
 db: ∃o,b h=some (.cells [.J (l.map bz) o,.eX c])/\bf a b 32 (l.map bz) o
 new:a h=none/\a c=none
 mp: ∃k,nk b c pK k/\ ∀d,d.length=32->k (bz d)=if d∈l then some (.v (.bool true))else none
 len: ∀d∈l,d.length=32
def DL:U.emp.sub f:=λ_ _ a=>by cases a
def jm (b c:Nat) (d:U):U:=λa=>if a=b\/a=c then none else match d a with
 |some (.buf _ _ _)=>none
 |h=>h
abbrev de (a b:Nat) (c d:U):Prop:=(jm a b c).sub d
def uM:(jm e i f).sub f:=λb c a=>by
 unfold jm at a;split at a
 .cases a
 .split at a
  .cases a
  .exact a
def xY (a:f e=some X) (o:e≠i) (p:e≠v) (b: ∀c d h,X≠ .buf c d h):jm i v f e=some X:=by
 unfold jm;rw[if_neg aaU,a];split
 .rename_i k;exact absurd (a6x k) (b _ _ _)
 .rfl
def r7 (a:f e=some (.cells g)) (b:e≠i) (c:e≠v):jm i v f e=some (.cells g):=xY a b c λ_ _ _ d=>by cases d
theorem de.of {X:Nat}{s:U} (a:s.sub f):de X e s f:=U.au uM a
theorem de.trans (d:de e i s e0) (h:de e i e0 f):de e i s f:=λb c a=>by
 refine h b c (xY (d b c a) ?_ ?_ ?_)
 .rintro rfl;simp[jm]at a
 .rintro rfl;simp[jm]at a
 .rintro o p f rfl;unfold jm at a;split at a
  .cases a
  .split at a
   .cases a
   .rename_i k;exact k _ _ _ a
def eb.sub {b c:U}{d h:Nat}{k:List (List UInt8)} (a:eb b c d h k):b.sub c:=by obtain⟨o,_,a⟩:=a.db;exact a.1
variable{e6:List (List UInt8)}
def eb.ne (a:eb f s e i e6):e≠i:=by obtain⟨d,c,_⟩:=a.db;obtain⟨h,⟨k,o,b,_⟩,_⟩:=a.mp;rintro rfl;rw[c]at b;cases b
def eb.mono {c d h:U}{k o:Nat}{p:List (List UInt8)} (a:eb c d k o p) (b:d.sub h):eb c h k o p:=by obtain⟨r,x,y⟩:=a.db;obtain⟨z,⟨C,D,E,F⟩,G⟩:=a.mp;exact⟨⟨r,b _ _ x,y.mono b⟩,a.new,⟨z,⟨C,D,b _ _ E,F⟩,G⟩,a.len⟩
theorem bq.fh (a:bq f v M H) (d:eb e0 f e i e6) (h:de e i f s) (p:M≠i):bq s v M H:=by
 obtain⟨r,x,c⟩:=a.at_;obtain⟨y,⟨z,C,k,D⟩,E⟩:=a.mp;obtain⟨P,b,_⟩:=d.db;obtain⟨_,⟨_,_,o,_⟩,_⟩:=d.mp;have F:v≠e:=by rintro rfl;rw[c]at b;cases b
 have G:v≠i:=by rintro rfl;rw[c]at o;cases o
 have a3:M≠e:=by rintro rfl;rw[k]at b;cases b
 exact⟨⟨r,x,h _ _ (r7 c F G)⟩,⟨y,⟨z,C,h _ _ (xY k a3 p λ_ _ _ L=>by cases L),D⟩,E⟩,a.r5,a.r6⟩
def DM (b:bf f s i g N) (h:f e=none) (c:s e=some X) (k: ∀o d,X≠ .buf i o d):bf f (s.set e j8) i g N:=by
 refine⟨U.af b.1 h,?_⟩;have a:=b.2;cases N with
 |buf p d=>
  have:p≠e:=by rintro rfl;rw[a.2]at c;exact k _ _ (a6x c).symm
  exact⟨a.1,by rw[U.an _ _ this];exact a.2⟩
 | _=>exact a
def xZ (b:U):AC Tryz.prog 30 [] b λy z=> ∃a c,b a=none/\b c=none/\y= .ptr a 0/\eb b z a c []:=by
 have F: ∀o:Nat,(R.eX o).cells= [.eX o]:=λ_=>rfl;have G: ∀p C r:R,putAt [p,C] 1 [r]= [p,r]:=λ_ _ _=>rfl;refine aK hm Ln ?_;refine aN λc h=> ?_;refine aa ?_;refine aN λa d=> ?_;have x:a≠c:=by rintro rfl;rw[U.ai]at d;cases d
 have k:b a=none:=by rw[U.an _ _ x]at d;exact d
 refine aa ?_;refine⟨_,U.a6,a,c,k,h,rfl,⟨.nil,U.ai _ _ _,bf.nil (U.af (U.af U.a6 h) k)⟩,⟨k,h⟩,⟨_,⟨[],0,by rw[U.an _ _ x.symm,U.ai],ku.new⟩,λD _=>rfl⟩,λD E=>by cases E⟩
def dS (a:List (List UInt8)) (b:List UInt8):List (List UInt8):=if b∈a then a else a++ [b]
def DN (g C:U) (D b:Nat) (c:List (List UInt8)) (y:eb g C D b c) (a:List UInt8) (L:a.length=32) (n0:c.length<=100000000):
  AC Tryz.prog 70 [.ptr D 0,bz a] C λk0 t=>de D b C t/\eb g t D b (dS c a)/\k0= .v (.bool (decide (a∉c))):=by
 have u:=y.ne;have k1:=y;obtain⟨⟨w,k2,k3⟩,⟨A,B⟩,⟨E,H,I⟩,K⟩:=y;have M:=I a L;have k4:(a.map ak).length=32:=by simp[L]
 have d:aL true 32 (a.map ak)=bz a:=by rw[aL,if_pos rfl,a6z aaU];rfl
 have k5:(bz a).cells=a.map ak:=rfl;refine aK hm MF ?_;refine aN λT i=> ?_;rw[k5];have aE:=U.ai C T (.cells (a.map ak));have F:=U.af (X:= .cells (a.map ak)) (U.a6 (f:=C)) i;have k6:T≠b:=by obtain⟨P,k,p,_⟩:=H;rintro rfl;rw[p]at i;cases i
 generalize C.set T _=z at*;have N:=F _ _ k2;have eJ:=U.ae N;have k7:=U.ae aE;have j:nk z b pK E:=by obtain⟨P,k,p,S⟩:=H;exact⟨P,k,F _ _ p,S⟩
 refine aa ?_;refine uj j (ow L) (λv r=> ?_) (λr=> ?_)
 .rw[show E (.agg (a.map ak))=E (bz a)from rfl,M]at r;by_cases G:a∈c
  .rw[if_pos G]at r;obtain rfl:=a6x r;refine aa ?_;exact⟨_,U.a6,de.of F,by rw[dS,if_pos G];exact k1.mono F⟩
  .rw[if_neg G]at r;cases r
 .rw[show E (.agg (a.map ak))=E (bz a)from rfl,M]at r;by_cases G:a∈c
  .rw[if_pos G]at r;cases r
  refine aa ?_;refine CO j (ow L) λaA k8=> ?_;have O:bf g (z.set b aA) 32 (c.map bz) w:=by obtain⟨P,k,p,_⟩:=j;exact DM (k3.mono F) B p λ_ _ d=>by cases d
  have Q:(z.set b aA) D=some (.cells [.J (c.map bz) w,.eX b]):=by rw[U.an _ _ u];exact N
  have c2:(z.set b aA) T=some (.cells (a.map ak)):=by rw[U.an _ _ k6];exact aE
  have k9: ∀h o,h≠b->z h=some o->(z.set b aA) h=some o:=λh o l V=>by rw[U.an _ _ l];exact V
  generalize z.set b aA=l0 at*;have eJ:=U.ae Q;have k7:=U.ae c2;obtain⟨l1,l2,n1,l3,l4⟩:=O.ns;have m: ∀h o,(∀W e k,o≠ .buf W e k)->l0 h=some o->l1 h=some o:=λh o l V=>by
   rw[l4 h (λn2 k d=>by rintro rfl;subst d;have:=O.2.2;rw[V]at this;exact l _ _ _ (a6x this))];exact V
  have n3:(bz a).cells.length=32:=k4;have n4:(c.map bz).length=c.length:=a6J _;refine aa ?_;refine hA l2 (λX n=>by obtain⟨Y,l5,rfl⟩:=a6S.1 n;show(Y.map ak).length=32;simp[K Y l5]) λ_ l6 n5 f _=> ?_;have q:=f.sub _ _ (m _ _ (λ_ _ _ d=>by cases d) Q);have eJ:=U.ae q;have n9:=U.aI q;refine aa ?_;have Z:c.map bz++ [bz a]=(c++ [a]).map bz:=aaV;refine⟨_,U.a6,λh o x=> ?_,?_⟩
  .have p:h≠D:=by rintro rfl;simp[jm]at x
   have S:h≠b:=by rintro rfl;simp[jm]at x
   have l7: ∀W e k,o≠ .buf W e k:=by
    rintro W e k rfl;unfold jm at x;split at x
    .cases x
    .split at x
     .cases x
     .rename_i l8;exact l8 _ _ _ x
   rw[U.an _ _ p];exact f.sub _ _ (m _ _ l7 (k9 _ _ S (F _ _ (uM _ _ x))))
  .rw[dS,if_neg G];refine⟨⟨l6,by rw[U.ai,<-Z],?_⟩,⟨A,B⟩,⟨jk E (bz a) (.v (.bool true)),?_,λj9 l9=> ?_⟩,λX n=> ?_⟩
   .rw[<-Z];exact DM (f.base l3) A q λ_ _ d=>by cases d
   .obtain⟨P,k,p,S⟩:=k8;exact⟨P,k,by rw[U.an _ _ u.symm];exact f.sub _ _ (m _ _ (λ_ _ _ d=>by cases d) p),S⟩
   .by_cases s:j9=a
    .subst s;rw[sv,if_pos aaV]
    .rw[pw (λd=>s (uG d)),I j9 l9];simp[s]
   .rcases a6L.1 n with y|y
    .exact K X y
    .obtain rfl:=a6U.1 y;exact L
def y0:ad (q++b8)=ad q++ad b8:=by simp[ad]
def gr {v:Int} (a:q[e]? =some v):cC 1 (.J (ad q) N) (.v (.int .i64 (e:Int)))=some (.bU [.v (.int .i64 v)]):=by
 have b:(0)<=(e:Int):=aaU;have c:(ad q)[e]? =some (.v (.int .i64 v)):=by simp[ad,a]
 simp only[cC,b,if_true,a6X,c];rw[iE (e:=1) rfl];rfl
def oy {v:Int}:cY false 1 f (.bU [.v (.int .i64 v)])=some (.v (.int .i64 v)):=rfl
theorem Zk:bV f 1 (.J (ad q) N)=some (q.length,ad q):=by
 have a:((ad q).all λb=>decide (b.cells.length=1))=true:=by simp[ad,R.cells]
 have c:flat (ad q)=ad q:=by induction q with
  |nil=>rfl
  |cons d q ih=>grind[ad,flat,R.cells]
 simp[bV,a,c,bM]
theorem y1 (a:List Int) (h:Own) (c:U) (r:a.length<=1000000000000):
  AC Tryz.prog 204 [.J (ad a) h] c λk d=>av c d 1 (ad a) k:=by
 refine nm λx=> ?_;have o:h= .nil->a= []:=λy=>by simp_all [ad]
 refine bc hm QB aaV ?_;simp -dsimp -implicitDefEqProofs (disch:=first|omega|assumption|(simp only[bd,Nat.reduceAdd];try omega)) only[go_sem,simprocAttr,-List.reduceReplicate,↓oo];refine oq (λb=>by rw[o b];rfl) (λb=> ?_) ?_
 .have p:a= []:=by simpa[ad] using b
  subst p;refine aa ?_;exact⟨c,U.a6,av.nil U.a6⟩
 .refine aj @oc ?_;refine fb (av.zero (U.a6)) aaU Zk (by rw[bM];omega) (by simp[bM];omega) (by simp[bM];omega) λk d b=> ?_;refine aa ?_;exact⟨d,U.a6,by trivial⟩
theorem sN (b:av f s 1 (ad q) n): ∃a,f.sub a/\View s n a (.J (ad q) .any):=by grind[View.dv,mm,List.take_of_length_le]
theorem sO (a:List Int) (c:Own) (b:U) (k:a.length<=1000000000000):
  AC Tryz.prog 204 [.J (ad a) c] b λd h=>b.sub h/\d= .J (ad a) .any:=
 (y1 a c b k).view λd h o=>by
  obtain⟨p,r,x⟩:=sN o;grind
theorem kA (a c:List Int) (G L:Own) (h:U) (l:a.length<=1000000000000):
  AC Tryz.prog 48 [.J (ad a) G,.J (ad c) L] h λp r=>r=h/\p= .v (.bool (decide (a=c))):=by
 refine bc hm LY aaV ?_;have V:=bM (q:=a);have W:=bM (q:=c);by_cases m:a.length=c.length
 .have x:(a.length:Int)=c.length:=aaU;refine aa ?_;rw[<-x];refine cm (λd r=> ∃b:Nat,b<=a.length/\r=h/\d 0= .J (ad a) G/\d 1= .J (ad c) L/\d 12= .v (.int .i64 a.length)/\d 13= .v (.int .i64 b)/\a.take b=c.take b)
   (λd _=>match d 13 with| .v (.int _ e)=>(a.length - e).toNat| _=>0) ⟨0,aaU,rfl,?_⟩ ?_
  .exact aO
  .rintro d n ⟨b,q,rfl,y,z,C,D,f⟩;by_cases E:(b:Int)<a.length
   .have k:a[b]? =some a[b]:=a6y aaU;have o:c[b]? =some c[b]:=a6y aaU;have P:a.take (b+1)=a.take b++ [a[b]]:=by rw[a7C,k];rfl
    have S:c.take (b+1)=c.take b++ [c[b]]:=by rw[a7C,o];rfl
    have T:a[b]'aaU≠c[b]'aaU->a≠c:=λg i=>g (by simp[i]);generalize a[b]'aaU=p at k P T;generalize c[b]'aaU=j at o S T;by_cases F:p=j
    .simp -dsimp -implicitDefEqProofs (disch:=first|omega|assumption|(simp only[bd,Nat.reduceAdd];try omega)) only[go_sem,simprocAttr,-List.reduceReplicate,y,z,C,D,E,gr k,gr o,oy,F];exact⟨⟨b+1,aaU,aaV,by rw[P,S,f,F]⟩,aaU⟩
    .simp -dsimp -implicitDefEqProofs (disch:=first|omega|assumption|(simp only[bd,Nat.reduceAdd];try omega)) only[go_sem,simprocAttr,-List.reduceReplicate,y,z,C,D,E,gr k,gr o,oy,F];grind[U.a6]
   .obtain rfl:b=a.length:=aaU;refine aj (bh @y @z @C @D @E) ?_;grind[List.take_length,U.a6]
 .have x: ¬(a.length:Int)=c.length:=aaU;refine aj (aE @V @W @x) ?_;have:a≠c:=by rintro rfl;omega
  exact⟨h,U.a6,by simp[this]⟩
abbrev eN (a b:List Int) (c d:Own):R:= .agg [.J (ad a) c,.J (ad b) d]
theorem y2 (b:Nat) (k:FuncId) (p r:List R) (d:U) (o:Nat->Bool) (S:b<=1000000000000) (F:fu Tryz.prog k=true)
  (G: ∀a:Nat,a<b->AC Tryz.prog k (p++ [.v (.int .i64 (a:Int))]++r) d λx h=>h=d/\x= .v (.bool (o a))):
  AC Tryz.prog 289 [.v (.int .i64 (b:Int)),.bG k p r] d λx h=>h=d/\x= .v (.bool ((List.range b).all o)):=by
 refine bc hm SO aaV ?_;refine aa ?_;refine cm (λc h=> ∃a:Nat,a<=b/\h=d/\(List.range a).all o=true/\c 0= .v (.int .i64 (b))/\c 1= .bG k p r/\c 6= .v (.int .i64 (b))/\c 7= .v (.int .i64 (a)))
  (λc _=>match c 7 with| .v (.int _ L)=>b - L.toNat| _=>0) ⟨0,aaU,rfl,rfl,?_⟩ ?_
 .exact aO
 rintro c T ⟨a,V,rfl,P,y,z,C,D⟩;by_cases E:(a:Int)<b
 .refine aa ?_;refine eL F (G a aaU) ?_;rintro _ _ ⟨rfl,rfl⟩;cases W:o a with
  |true=>refine aa ?_;grind
  |false=>refine aj (bx @y @z @C @D @E @a7u) ?_;refine⟨_,U.a6,rfl,?_⟩;grind
 .obtain rfl:a=b:=aaU;simp -dsimp -implicitDefEqProofs (disch:=first|omega|assumption|(simp only[bd,Nat.reduceAdd];try omega)) only[go_sem,simprocAttr,-List.reduceReplicate,y,z,C,D,E];exact⟨_,U.a6,rfl,by rw[P]⟩
theorem Zl (d:U) (h:Nat) (b c:List Int) (p r:Own) (a:Nat) (x:d.read h=some [.J (ad b) p,.J (ad c) r]) (C:a<b.length) (D:a<c.length):
  AC Tryz.prog 290 [.v (.int .i64 (a:Int)),.ptr h 0] d λy z=>z=d/\y= .v (.bool (decide (b.getD a 0<=c.getD a 0))):=by
 refine bc hm SQ aaV ?_;have k:b[a]? =some (b.getD a 0):=by simp_all
 have o:c[a]? =some (c.getD a 0):=by simp_all
 generalize b.getD a 0=E at k;generalize c.getD a 0=F at o;simp -dsimp -implicitDefEqProofs (disch:=first|omega|assumption|(simp only[bd,Nat.reduceAdd];try omega)) only[go_sem,simprocAttr,-List.reduceReplicate,x,gr k,gr o,oy];exact⟨d,U.a6,rfl⟩
theorem oz (d:U) (b c:List Int) (o p:Own) (a:Nat) (D:a<=1000000000000):
  AC Tryz.prog 243 [eN b c o p,.v (.int .i64 (a:Int))] d λE F=>F=d/\E= .v (.bool (cO b c a)):=by
 refine bc hm RH aaV ?_;have r:=bM (q:=b);have G:=bM (q:=c);refine aa ?_;refine aN λL h=> ?_;unfold cO;by_cases c1:(a:Int)<1
 .have x: ¬1<=a:=aaU;refine aj (c2 @c1 @x) ?_;exact⟨d,U.af U.a6 h,by rfl⟩
 have x:1<=a:=aaU;by_cases c2:(8:Int)<a
 .have y: ¬a<=8:=aaU;simp -dsimp -implicitDefEqProofs (disch:=first|omega|assumption|(simp only[bd,Nat.reduceAdd];try omega)) only[go_sem,simprocAttr,-List.reduceReplicate,c1,c2];exact⟨d,U.af U.a6 h,by simp[y]⟩
 have y:a<=8:=aaU;by_cases aE:(b.length:Int)=a
 .have z:b.length=a:=aaU;by_cases aM:(c.length:Int)=a
  .have C:c.length=a:=aaU;refine aa ?_;refine ah (y2 a _ _ _ _ (λk=>decide (b.getD k 0<=c.getD k 0)) D ab0 λk P=>Zl _ L b c o p k ?_ aaU aaU) ?_
   .simp[U.read,U.ai]
   rintro _ _ ⟨rfl,rfl⟩;refine bT ?_;exact⟨d,U.af U.a6 h,rfl,by simp_all⟩
  .have C: ¬c.length=a:=aaU;refine aj (bx @c1 @c2 @aE @aM @r @G) ?_;exact⟨d,U.af U.a6 h,by simp[C]⟩
 .have z: ¬b.length=a:=aaU;refine aj (aM @c1 @c2 @aE @r) ?_;exact⟨d,U.af U.a6 h,by simp[z]⟩
def Zm (y:U) (a:List Int) (h:Own) (z:a.length<=1000000000000):
  AC Tryz.prog 203 [.J (ad a) h] y λk L=>y.sub L/\ ∃P S,k=eN (gq a).1 (gq a).2 P S:=by
 refine bc hm Qz aaV ?_;have C:=bM (q:=a);refine aa ?_;refine aN λf o=> ?_;unfold gq;have p: ∀b c d D:R,putAt [b,c] 0 [d,D]= [d,D]:=λ_ _ _ _=>rfl;have r: ∀E,(R.agg E).cells=E:=λ_=>rfl;have x: ∀b c,aL true 2 [b,c]= .agg [b,c]:=λ_ _=>rfl;by_cases c1:(a.length:Int)<1
 .refine aj (bh @c1 @C @p @r @x) ?_;rw[if_neg aaU];exact⟨_,U.a6,U.af U.a6 o,.nil,.nil,rfl⟩
 by_cases c2:(8:Int)<a.length
 .refine aj (bx @c1 @c2 @C @p @r @x) ?_;rw[if_neg aaU];exact⟨_,U.a6,U.af U.a6 o,.nil,.nil,rfl⟩
 refine aa ?_;refine ah (sO a h _ z) ?_;rintro _ g ⟨F,rfl⟩;refine aa ?_;refine ah (sO a h _ z) ?_;rintro _ i ⟨G,rfl⟩;have T:=G _ _ (F _ _ (U.ai _ _ _));have V: ∀b c d:R,putAt [b,c] 0 [d]= [d,c]:=λ_ _ _=>rfl;have W: ∀b c d:R,putAt [b,c] 1 [d]= [b,d]:=λ_ _ _=>rfl;have e: ∀k h,(R.J k h).cells= [.J k h]:=λ_ _=>rfl;refine aj (c9 (U.aI T) @p @V @W @r @e @x) ?_;rw[if_pos aaU];exact⟨_,U.a6,U.af (U.au (U.af U.a6 o) (U.au F G)) o,.any,.any,rfl⟩
theorem Zn (h:U) (a b c k:List Int) (o p r x:Own) (C:a.length<=1000000000000) (D:b.length<=1000000000000):
  AC Tryz.prog 240 [eN a b o p,eN c k r x] h λE F=>F=h/\E= .v (.bool (decide (a=c)&&decide (b=k))):=by
 refine bc hm RB aaV ?_;refine aa ?_;refine aN λG S=> ?_;refine aa ?_;refine aN λy d=> ?_;have L:G≠y:=by rintro rfl;rw[U.ai]at d;cases d
 have P:=a6I L;have T:h y=none:=by rw[U.an _ _ P]at d;exact d
 refine aa ?_;refine ah (kA a c o r _ C) ?_;rintro _ _ ⟨rfl,rfl⟩;by_cases z:a=c
 .refine aa ?_;refine ah (kA b k p x _ D) ?_;rintro _ _ ⟨rfl,rfl⟩;refine aj @z ?_;grind[U.af,U.a6]
 .refine aj @z ?_;grind[U.af,U.a6]
def pL (b c:U) (d h:List Int) (k o:R):Prop:= ∃a,av b a 1 (ad d) k/\av a c 1 (ad h) o
def fJ (a:av f s e g n):n.cells= [n]:=by obtain⟨_,⟨_,rfl|rfl⟩|⟨_,_,_,_,rfl,_⟩⟩:=a<;>rfl
def jP (k:av f s i g n) (b:f e=some j8):av (f.set e X) (s.set e X) i g n:=by
 obtain⟨o,a⟩:=k;refine⟨U.lp o,?_⟩;rcases a with a|⟨c,p,r,x,y,d,z,C⟩
 .exact .inl a
 .have h:c≠e:=by rintro rfl;rw[d]at b;cases b
  exact .inr ⟨c,p,r,x,y,by rw[U.an _ _ h];exact d,by rw[U.an _ _ h];exact z,C⟩
def uN (x:U) (h k:List Int) (y z:Own) (S:h.length<=1000000000000) (T:k.length<=1000000000000):
  AC Tryz.prog 252 [eN h k y z] x λV W=> ∃a b,V= .agg [a,b]/\pL x W h k a b:=by
 refine bc hm RX aaV ?_;refine bT ?_;refine aN λe D=> ?_;refine bT ?_;refine aN λC o=> ?_;have d:e≠C:=by rintro rfl;rw[U.ai]at o;cases o
 have E:=a6I d;have F:x C=none:=by rw[U.an _ _ E]at o;exact o
 have G: ∀L,(R.agg L).cells=L:=λ_=>rfl;have q:=U.af (X:= .cells [.J [] .nil,.J [] .nil]) (U.af (X:= .cells [.J (ad h) y,.J (ad k) z]) (U.a6) D) F;refine aj (aM @G @U.an @d @E) ?_;refine ah (y1 h y _ S) ?_;intro a f p;have P:=p.1 _ _ (by rw[U.an _ _ d,U.ai]);have c2:=p.1 _ _ (U.ai _ _ _);refine aj (U.ae P) ?_;refine ah (y1 k z _ T) ?_;intro b s r;have g:=r.1 _ _ P;have i:=r.1 _ _ c2;have j: ∀a b c:R,putAt [a,b] 0 [c]= [c,b]:=λ_ _ _=>rfl;have l: ∀a b c:R,putAt [a,b] 1 [c]= [a,c]:=λ_ _ _=>rfl;have m: ∀a b c d:R,putAt [a,b] 0 [c,d]= [c,d]:=λ_ _ _ _=>rfl;have n: ∀a b,aL true 2 [a,b]= .agg [a,b]:=λ_ _=>rfl;refine aj (cN (U.ae g) (U.aI i) (fJ p) (fJ r) @j @l @m @G @n) ?_;refine⟨_,U.a6,a,b,rfl,f.set C (.cells [a,b]),?_,jP r c2⟩;have:=jP (X:= .cells [a,b]) p (U.ai _ _ _);rw[U.set_set]at this;exact this.base (U.af (U.af U.a6 D) F)
def mix (c:Int->Int->Int) (a d:List Int) (b:Nat):List Int:=(List.zipWith c a d).take b++a.drop b
def uO {a:Int->Int->Int} (b:q.length=b8.length) (c:e<=q.length):(mix a q b8 e).length=q.length:=by simp[mix,b];omega
theorem uP {a:Int->Int->Int} (d:q.length=b8.length) (h:e<q.length) (b:List R) {v:Int} (x:v=a (q.getD e 0) (b8.getD e 0)):
  putAt (ad (mix a q b8 e)++b) e [.v (.int .i64 v)]=ad (mix a q b8 (e+1))++b:=by
 have c:(ad ((List.zipWith a q b8).take e)).length=e:=by simp[ad,d];omega
 have k:(List.zipWith a q b8)[e]? =some v:=by simp_all
 have o:=a6Y h;have p:ad (mix a q b8 e)++b=ad ((List.zipWith a q b8).take e)++(.v (.int .i64 q[e])::(ad (q.drop (e+1))++b)):=by unfold mix;rw[y0,o];simp only[ad,a6Q,a6N,a7M]
 have r:ad (mix a q b8 (e+1))++b=ad ((List.zipWith a q b8).take e)++(.v (.int .i64 v)::(ad (q.drop (e+1))++b)):=by unfold mix;rw[a7C,k,y0,y0];simp[ad]
 rw[p,r];generalize ad ((List.zipWith a q b8).take e)=y at c;subst c;simp[putAt]
theorem Zo (D:U) (a d b h:List Int) (L P W e:Own) (l4:a.length<=1000000000000) (a07:d.length<=1000000000000) (a08:b.length<=1000000000000) (a65:h.length<=1000000000000):
  AC Tryz.prog 202 [eN a d L P,eN b h W e] D λa68 E=> ∃o y,a68= .agg [o,y]/\pL D E (cP (a,d) (b,h)).1 (cP (a,d) (b,h)).2 o y:=by
 refine bc hm Qx aaV ?_;have i: ∀a09,(R.agg a09).cells=a09:=λ_=>rfl;have n: ∀k p,aL true 2 [k,p]= .agg [k,p]:=λ_ _=>rfl;have Z: ∀k p S:R,putAt [k,p] 0 [S]= [S,p]:=λ_ _ _=>rfl;have j9: ∀k p S:R,putAt [k,p] 1 [S]= [k,S]:=λ_ _ _=>rfl;have M: ∀k p S N:R,putAt [k,p] 0 [S,N]= [S,N]:=λ_ _ _ _=>rfl;have q:=bM (q:=a);have u:=bM (q:=b);refine aj @i ?_;refine aN λF a69=> ?_;refine aj @i ?_;refine aN λz k0=> ?_;have k1:F≠z:=by rintro rfl;rw[U.ai]at k0;cases k0
 have a71:D z=none:=by rw[U.an _ _ (a6I k1)]at k0;exact k0
 have b19:=a6I k1;refine aj @i ?_;refine aN λr k2=> ?_;have a73:z≠r:=by rintro rfl;rw[U.ai]at k2;cases k2
 have a74:F≠r:=by rintro rfl;rw[U.an _ _ k1,U.ai]at k2;cases k2
 have l5:D r=none:=by simp_all [U.an,a6I]
 have k3:=U.af (X:= .cells [.J [] .nil,.J [] .nil]) (U.af (X:= .cells [.J (ad b) W,.J (ad h) e]) (U.af (X:= .cells [.J (ad a) L,.J (ad d) P]) (U.a6) a69) a71) l5;have f:(((D.set F (.cells [.J (ad a) L,.J (ad d) P])).set z (.cells [.J (ad b) W,.J (ad h) e])).set r (.cells [.J [] .nil,.J [] .nil])) F=some (.cells [.J (ad a) L,.J (ad d) P]):=by rw[U.an _ _ a74,U.an _ _ k1,U.ai]
 have g:(((D.set F (.cells [.J (ad a) L,.J (ad d) P])).set z (.cells [.J (ad b) W,.J (ad h) e])).set r (.cells [.J [] .nil,.J [] .nil])) z=some (.cells [.J (ad b) W,.J (ad h) e]):=by rw[U.an _ _ a73,U.ai]
 have aM:(((D.set F (.cells [.J (ad a) L,.J (ad d) P])).set z (.cells [.J (ad b) W,.J (ad h) e])).set r (.cells [.J [] .nil,.J [] .nil])) r=some (.cells [.J [] .nil,.J [] .nil]):=U.ai _ _ _;refine aj @i ?_;generalize ((D.set F (.cells [.J (ad a) L,.J (ad d) P])).set z (.cells [.J (ad b) W,.J (ad h) e])).set r (.cells [.J [] .nil,.J [] .nil])=j at*;have s: ∀k p:R,List.take 2 [k,p]= [k,p]:=λ_ _=>rfl;refine aj (aE @q @u @s) ?_;refine ah (oz j a d L P a.length l4) ?_;rintro _ j ⟨rfl,rfl⟩;refine aj (bx @q @u @s (U.ae f) (U.ae g) @n) ?_;refine ah (oz j b h W e b.length a08) ?_;rintro _ j ⟨rfl,rfl⟩;have O: ∀(w) (o y) (l6 l7),pL j w l6 l7 o y->pL D (w.set r (.cells [o,y])) l6 l7 o y:=by
  rintro w o y l6 l7 ⟨A,C,G⟩;refine⟨A.set r (.cells [o,y]),?_,jP G (C.1 _ _ aM)⟩;refine(jP C aM).base λa10 k4 l8=> ?_;have Q:a10≠r:=by rintro rfl;rw[l5]at l8;cases l8
  rw[U.an _ _ Q];exact k3 a10 k4 l8
 unfold cP;cases a81:cO a d a.length with
 |true=>
  cases a11:cO b h b.length with
  |false=>refine aj (c9 @q @u @s (U.ae f) (U.ae g) @n @a7u) ?_;refine ah (uN _ a d L P l4 a07) ?_;rintro _ w ⟨o,y,rfl,X⟩;obtain⟨A,C,G⟩:=X;have B:=G.1 _ _ (C.1 _ _ aM);refine aj (bx (U.aI B) @i @Z @j9 @M @n) ?_;exact⟨_,U.a6,o,y,rfl,O _ _ _ _ _ ⟨A,C,G⟩⟩
  |true=>
   by_cases a13:(a.length:Int)=b.length
   .have H:a.length=b.length:=aaU;refine aj (bt @q @u @s (U.ae f) (U.ae g) @n @a7o @a13) ?_;rw[if_pos H];have k5:=a81;have a14:=a11;simp only[cO,a6B,decide_eq_true_eq]at k5 a14;have b20:=k5.1.2;have b21:h.length=a.length:=by rw[H];omega
    have b22:=k5.1.1.1.1;clear k5 a14;refine ah (uN _ a d L P l4 a07) ?_;rintro _ w ⟨o,y,rfl,A,C,G⟩;have kx:=G.1 _ _ (C.1 _ _ f);have a15:=G.1 _ _ (C.1 _ _ g);have B:=G.1 _ _ (C.1 _ _ aM);obtain⟨I,⟨k6,_⟩|⟨T,a83,l9,a16,rfl,k7,a18,a84,n0,k8,a19,a86⟩⟩:=C
    .exfalso;grind
    obtain⟨n1,⟨k6,_⟩|⟨x,a88,n2,a27,rfl,l,a29,a89,n3,k9,a30,a90⟩⟩:=G
    .exfalso;have:=congrArg List.length k6;rw[bM,a6G]at this;omega
    have a92:a83=a.length:=by rw[q]at k8;omega
    have Y:a88=a.length:=by rw[bM]at k9;omega
    subst a92;subst Y;have n4:T≠x:=by rintro rfl;rw[a18]at l;cases l
    have a34:=n1 _ _ a18;simp only[a7s]at a84 a89 n0 n3 a19 a30;obtain⟨n5,rfl⟩: ∃n9,a16=ad a++n9:=⟨a16.drop a.length,by rw[<-n0,a7f]⟩;obtain⟨a00,rfl⟩: ∃n9,a27=ad d++n9:=⟨a27.drop a.length,by rw[<-n3,a7f]⟩;have a36:T≠r:=by rintro rfl;rw[k7]at aM;cases aM
    have a94:T≠F:=by rintro rfl;rw[k7]at f;cases f
    have a95:T≠z:=by rintro rfl;rw[k7]at g;cases g
    have a38:x≠r:=by rintro rfl;rw[I _ _ aM]at l;cases l
    have a96:x≠F:=by rintro rfl;rw[I _ _ f]at l;cases l
    have a97:x≠z:=by rintro rfl;rw[I _ _ g]at l;cases l
    have a98:=U.bI k3 k7;have a99:=U.bI (U.au k3 I) l;have a42:=U.au k3 (U.au I n1);clear n0 n3 I n1 k8 k9 O;refine bT ?_;refine aN λv V=> ?_;have a43:v≠r:=by rintro rfl;rw[B]at V;cases V
    have a47:v≠F:=by rintro rfl;rw[kx]at V;cases V
    have a48:v≠z:=by rintro rfl;rw[a15]at V;cases V
    have l0:v≠T:=by rintro rfl;rw[a34]at V;cases V
    have l1:v≠x:=by rintro rfl;rw[a29]at V;cases V
    have b00:=U.bI a42 V;have b23: ∀k p S N:Nat,(R.ao k p S N).cells= [.ao k p S N]:=λ_ _ _ _=>rfl;refine aj (c2 @i @M) ?_;refine cm (λm E=> ∃c:Nat,c<=a.length/\D.sub E/\E F=some (.cells [.J (ad a) L,.J (ad d) P])/\E z=some (.cells [.J (ad b) W,.J (ad h) e])/\E r=some (.cells [.J [] .nil,.J [] .nil])/\
      E v=some (.cells [.ao T a.length l9 1,.ao x a.length n2 1])/\E T=some (.cells (ad (mix min a b c)++n5))/\E x=some (.cells (ad (mix max d h c)++a00))/\
      m 2= .ptr F 0/\m 3= .ptr z 0/\m 4= .ptr r 0/\m 7= .ptr v 0/\m 52= .v (.int .i64 a.length)/\m 53= .v (.int .i64 c))
     (λm _=>match m 53 with| .v (.int _ X)=>a.length - X.toNat| _=>0) ⟨0,aaU,?_⟩ ?_
    .have a52: ∀(a56) (k p),mix a56 k p 0=k:=λa56 k p=>by rfl
     rw[a52,a52];refine aj (nn @U.an @a47 @a48 @a43 @l0 @l1 (a6I a47) (a6I a48) (a6I a43) (a6I l0) (a6I l1) @kx @a15 @B @a34 @a29 @U.ai) ?_;exact U.af a42 b00
    rintro m E ⟨c,b24,b01,c2,aE,aM,c9,l2,l3,Y,a01,a02,a03,a04,a05⟩;by_cases a06:(c:Int)<a.length
    .have b02:c<a.length:=aaU;have a57:a[c]? =some (a.getD c 0):=by simp_all
     have a61:b[c]? =some (b.getD c 0):=by simp_all
     have a62:d[c]? =some (d.getD c 0):=by simp_all
     have a63:h[c]? =some (h.getD c 0):=by simp_all
     have b03:=uP H b02 n5 (v:=min (a.getD c 0) (b.getD c 0)) rfl;have b04:=uP aaU aaU a00 (v:=max (d.getD c 0) (h.getD c 0)) rfl;generalize a.getD c 0=b25 at*;generalize b.getD c 0=b26 at*;generalize d.getD c 0=a3 at*;generalize h.getD c 0=a4 at*;simp -dsimp -implicitDefEqProofs (disch:=first|omega|assumption|(simp only[bd,Nat.reduceAdd];try omega)) only[go_sem,simprocAttr,-List.reduceReplicate,Y,a01,a02,a03,a04,a05,a06,U.ae c2,U.ae aE,U.ae c9,U.aI l2,U.aI l3,gr a57,gr a61,gr a62,gr a63,oy];have b05:c+1<=(ad (mix min a b c)++n5).length:=by rw[a6A,bM,uO H aaU];omega
     have b06:c+1<=(ad (mix max d h c)++a00).length:=by rw[a6A,bM,uO aaU aaU];omega
     have b07:=a6I a94;have b08:=a6I a95;have b09:=a6I n4;have b10:=a6I a36;have b11:=a6I a96;have b12:=a6I a97;have b13:=a6I a38;have b14:=a6I l0;have b15:=a6I l1;simp -dsimp -implicitDefEqProofs (disch:=first|omega|assumption|(simp only[bd,Nat.reduceAdd];try omega)) only[go_sem,simprocAttr,-List.reduceReplicate,Y,a01,a02,a03,a04,a05,a06,U.ae c2,U.ae aE,U.ae c9,U.aI l2,U.aI l3,gr a57,gr a61,gr a62,gr a63,oy,b05,b06,b03,b04,U.an,U.ai,n4,b09,b07,b08,b10,b11,b12,b13,b14,b15,l0,l1,c2,aE,aM,c9];grind[U.af]
    .obtain rfl:c=a.length:=aaU;refine aj (cd @Y @a01 @a02 @a03 @a04 @a05 @a06 (U.ae c9) (U.aI aM) @s) ?_;have k8:mix min a b a.length=List.zipWith min a b:=by unfold mix;grind
     have k9:mix max d h a.length=List.zipWith max d h:=by unfold mix;grind
     rw[k8]at l2;rw[k9]at l3;have b27:(ad (List.zipWith min a b)).length=a.length:=by rw[bM,a8q];omega
     have b28:(ad (List.zipWith max d h)).length=a.length:=by rw[bM,a8q];omega
     have b16: ∀K:U,K T=E T->K x=E x->D.sub K->pL D K (List.zipWith min a b) (List.zipWith max d h) (.ao T a.length l9 1) (.ao x a.length n2 1):=by
      intro K k6 b17 b18;refine⟨K.del x,⟨λo k4 t=> ?_,.inr ⟨T,a.length,l9,_,rfl,a98,by rw[U.eH _ n4,k6];exact l2,?_,?_,?_,a19,a86⟩⟩,⟨λo k4 t=> ?_,.inr ⟨x,a.length,n2,_,rfl,U.iB _ _,by rw[b17];exact l3,?_,?_,?_,a30,a90⟩⟩⟩
      .have Q:o≠x:=by rintro rfl;rw[a99]at t;cases t
       rw[U.eH _ Q];exact b18 o k4 t
      simp_all;simp_all
      .omega
      .have Q:o≠x:=by rintro rfl;rw[U.iB]at t;cases t
       rw[U.eH _ Q]at t;exact t
      grind[List.length_append,bM];simp_all
      .omega
     exact⟨_,U.a6,_,_,rfl,b16 _ (U.an _ _ a36) (U.an _ _ a38) (U.af b01 l5)⟩
   .have H: ¬a.length=b.length:=aaU;refine aj (lr @q @u @s (U.ae f) (U.ae g) (U.aI aM) @n @a7o @a13 @i @Z @j9 @M) ?_;rw[if_neg H];exact⟨_,U.a6,_,_,rfl,O j _ _ _ _ ⟨j,av.nil U.a6,av.nil U.a6⟩⟩
 |false=>
  cases a11:cO b h b.length with
  |false=>refine aj (gk @q @u @s (U.ae f) (U.ae g) (U.aI aM) @n @a7u @i @Z @j9 @M) ?_;exact⟨_,U.a6,_,_,rfl,O j _ _ _ _ ⟨j,av.nil U.a6,av.nil U.a6⟩⟩
  |true=>refine aj (c9 @q @u @s (U.ae f) (U.ae g) @n @a7u) ?_;refine ah (uN _ b h W e a08 a65) ?_;rintro _ w ⟨o,y,rfl,X⟩;obtain⟨A,C,G⟩:=X;have B:=G.1 _ _ (C.1 _ _ aM);refine aj (bx (U.aI B) @i @Z @j9 @M @n) ?_;exact⟨_,U.a6,o,y,rfl,O _ _ _ _ _ ⟨A,C,G⟩⟩
def DO (h:U) (a b c d:List Int) (k o p r:Own) (z:a.length<=1000000000000) (C:b.length<=1000000000000) (D:c.length<=1000000000000) (E:d.length<=1000000000000):
  AC Tryz.prog 202 [eN a b k o,eN c d p r] h λx y=>h.sub y/\x=eN (cP (a,b) (c,d)).1 (cP (a,b) (c,d)).2 .any .any:=
 (Zo h a b c d k o p r z C D E).view λx y F=>by
  obtain⟨G,g,rfl,i,L,P⟩:=F;obtain⟨j,S,T⟩:=sN P;have V:=L.mono S;obtain⟨W,e,f⟩:=sN V;exact⟨_,W,(View.agg (a:= [G]) rfl T).trans (View.agg (a:= []) rfl f),e,rfl⟩
theorem oA (b c:List Int×List Int) (a:Nat) (d:b.1.length<=a) (h:b.2.length<=a) (k:c.1.length<=a) (o:c.2.length<=a):(cP b c).1.length<=a/\(cP b c).2.length<=a:=by grind[cP]
def aB {a:Type} (b:a->R->Prop):List a->List R->Prop
 | [],[]=>True
 |c::xs,d::h=>b c d/\aB b xs h
 | _,_=>False
def aB.len {b:Type}{h:b->R->Prop}: ∀ {c:List b}{d:List R},aB h c d->d.length=c.length
 | [],[],_=>rfl
 | _:: _,_:: _,a=>by rw[a6E,a6E,a.2.len]
 | [],_:: _,a=>a.elim
 | _:: _,[],a=>a.elim
def aB.get {k:Type}{o:k->R->Prop}: ∀ {d:List k}{h:List R}{i:Nat}{x:k},aB o d h->d[i]? =some x-> ∃b,h[i]? =some b/\o x b
 | [],_,_,_,_,a=>by simp at a
 |x::d,b::h,0,p,a,c=>by simp only[a8m,a6K]at c|-;subst c;exact⟨b,rfl,a.1⟩
 |x::d,b::h,i+1,p,a,c=>by simp only[a8x]at c|-;exact a.2.get c
 | _:: _,[],_,_,a,_=>a.elim
def aB.append {c:Type}{b:c->R->Prop}: ∀ {d h:List c}{k o:List R},aB b d k->aB b h o->aB b (d++h) (k++o)
 | [],_,[],_,_,a=>a
 | _:: _,_,_:: _,_,a,p=>⟨a.1,a.2.append p⟩
 | [],_,_:: _,_,a,_=>a.elim
 | _:: _,_,[],_,a,_=>a.elim
variable{b0:Type}
def aB.snoc {a:b0->R->Prop}{b:List b0}{c:b0} (d:aB a b g) (h:a c n):aB a (b++ [c]) (g++ [n]):=d.append ⟨h,trivial⟩
def aB.take {c:Type}{d:c->R->Prop}: ∀ {h:List c}{k:List R} (b:Nat),aB d h k->aB d (h.take b) (k.take b)
 | [],[],b,_=>by simp[aB]
 | _:: _,_:: _,0,_=>by simp[aB]
 | _:: _,_:: _,b+1,a=>⟨a.1,a.2.take b⟩
 | [],_:: _,_,a=>a.elim
 | _:: _,[],_,a=>a.elim
def aB.drop {c:Type}{d:c->R->Prop}: ∀ {h:List c}{k:List R} (b:Nat),aB d h k->aB d (h.drop b) (k.drop b)
 | [],[],b,_=>by simp[aB]
 | _:: _,_:: _,0,a=>a
 | _:: _,_:: _,b+1,a=>a.2.drop b
 | [],_:: _,_,a=>a.elim
 | _:: _,[],_,a=>a.elim
def aB.mono {b:Type}{c d:b->R->Prop} (h: ∀k o,c k o->d k o): ∀ {p:List b}{r:List R},aB c p r->aB d p r
 | [],[],a=>a
 | _:: _,_:: _,a=>⟨h _ _ a.1,a.2.mono h⟩
 | [],_:: _,a=>a.elim
 | _:: _,[],a=>a.elim
theorem aB.cells {b:Type}{c:b->R->Prop}{d:Nat} (h: ∀p k,c p k->k.cells.length=d): ∀ {r:List b}{o:List R},aB c r o->aW d o
 | [],[],_=>by simp[aW]
 | _:: _,_:: _,a=>by rw[Cs];exact⟨h _ _ a.1,a.2.cells h⟩
 | [],_:: _,a=>a.elim
 | _:: _,[],a=>a.elim
def isRow (a:List Int) (b:R):Prop:= ∃c,b= .J (ad a) c
def cT (a:List Int×Bool) (b:R):Prop:= ∃c,b= .agg [.J (ad a.1) c,.v (.bool a.2)]
def ab (a:aq) (b c d:Own):List R:=a.sum.map ak++ [.J (ad a.aT) b,.J (ad a.aS) c,.v (.int .i64 a.live),.v (.int .i64 a.size),.J (ad a.key) d]
structure r8 (k:aq) (gN eE b:Own) (a:List R):Prop where
 len:a.length=37
 t37:a.take 37=a
 t32:a.take 32=k.sum.map ak
 d32:a.drop 32= [.J (ad k.aT) gN,.J (ad k.aS) eE,.v (.int .i64 k.live),.v (.int .i64 k.size),.J (ad k.key) b]
 d33:a.drop 33= [.J (ad k.aS) eE,.v (.int .i64 k.live),.v (.int .i64 k.size),.J (ad k.key) b]
 d34:a.drop 34= [.v (.int .i64 k.live),.v (.int .i64 k.size),.J (ad k.key) b]
 d35:a.drop 35= [.v (.int .i64 k.size),.J (ad k.key) b]
 d36:a.drop 36= [.J (ad k.key) b]
variable{w j3:aq}
theorem aP (b:w.sum.length=32):r8 w N e5 h6 (ab w N e5 h6):=by
 have d:(w.sum.map ak).length=32:=by simp[b]
 have a: ∀c,(ab w N e5 h6).drop (32+c)= [R.J (ad w.aT) N,.J (ad w.aS) e5,.v (.int .i64 w.live),.v (.int .i64 w.size),.J (ad w.key) h6].drop c:=λc=>by
  unfold ab;rw[a8b,a7n aaU,d];simp
 exact⟨by simp[ab,b],a6z (by simp[ab,b]),by unfold ab;simp_all,a 0,a 1,a 2,a 3,a 4⟩
theorem r8.all (a:r8 w N e5 h6 g):g.length=37/\g.take 37=g/\g.take 32=w.sum.map ak/\(g.drop 32).take 2= [.J (ad w.aT) N,.J (ad w.aS) e5]/\
  aL false 1 (g.drop 32)= .J (ad w.aT) N/\aL false 1 (g.drop 33)= .J (ad w.aS) e5/\aL false 1 (g.drop 34)= .v (.int .i64 w.live)/\aL false 1 (g.drop 35)= .v (.int .i64 w.size)/\aL false 1 (g.drop 36)= .J (ad w.key) h6:=
 ⟨a.len,a.t37,a.t32,by rw[a.d32];rfl,by rw[a.d32];rfl,by rw[a.d33];rfl,by rw[a.d34];rfl,by rw[a.d35];rfl,by rw[a.d36];rfl⟩
structure aq.cv (k:aq):Prop where
 aT:k.aT.length<=1000000000000
 aS:k.aS.length<=1000000000000
 key:k.key.length<=1000000000000
def pM:az.cv:=⟨by simp[az],by simp[az],by simp[az]⟩
def bB (a:aq) (b:R):Prop:=a.sum.length=32/\a.cv/\ ∃c d h,b= .agg (ab a c d h)
theorem cT.cells {b:List Int×Bool}{a:R} (c:cT b a):a.cells.length=2:=by obtain⟨d,rfl⟩:=c;rfl
theorem bB.cells {b:aq}{a:R} (c:bB b a):a.cells.length=37:=by obtain⟨d,_,h,k,o,rfl⟩:=c;exact(aP d).len
theorem isRow.cells {b:List Int}{a:R} (c:isRow b a):a.cells.length=1:=by obtain⟨d,rfl⟩:=c;rfl
structure mx (c:U) (p:R) (cells:List R):Prop where
 ld: ∀(a:U),c.sub a-> ∀agg n,0<n->n<=cells.length->cY agg n a p=some (aL agg n cells)
 lb: ∀(a:U),c.sub a-> ∀b agg n,0<n->b+n<=cells.length-> ∃d,sg b p=some d/\cY agg n a d=some (aL agg n (cells.drop b))
structure bJ (b:U) (k:Nat) (x:R) (a:List R):Prop where
 one:x.cells= [x]
 len:fa x=some (.v (.int .i64 a.length))
 get: ∀(i:Nat) e,a[i]? =some e-> ∃p,cC k x (.v (.int .i64 (i:Int)))=some p/\mx b p e.cells
def mx.mono (c:mx f n g) (d:f.sub s):mx s n g:=⟨λa b=>c.ld a (U.au d b),λa b=>c.lb a (U.au d b)⟩
def bJ.mono {b c:U}{d:Nat}{h:R}{k:List R} (a:bJ b d h k) (o:b.sub c):bJ c d h k:=⟨a.one,a.len,λp r x=>by
 obtain⟨y,z,C⟩:=a.get p r x;exact⟨y,z,C.mono o⟩⟩
theorem bJ.J {s:U}{c:Nat}{a:List R}{o:Own} (p:aW c a):bJ s c (.J a o) a:=⟨rfl,rfl,λr b d=>by
 have x:(0)<=(r:Int):=aaU;refine⟨.bU b.cells,?_,⟨λy _ z h _ k=>by simp[cY,k],λy _ C z h _ k=>⟨_,rfl,?_⟩⟩⟩
 .simp only[cC,x,if_true,a6X,d];exact iE (p b (a6D d))
 .have:h<=(b.cells.drop C).length:=by rw[a6R];omega
  simp only[cY];rw[if_pos this]⟩
theorem DP (a:aW e g) (c:g[i]? =some n):((flat g).drop (i*e)).take e=n.cells:=by obtain⟨b,rfl⟩:=a6H.1 c;rw[(fX i a).1,a6Y b];have d:=a _ (a6Z b);simp only[flat,a7a];simp_all
theorem bJ.ao {F:U}{p n cap k:Nat}{c o:List R} (x:aW k o) (G:F p=some (.cells c)) (L:o.length=n) (S:c.take (n*k)=flat o):bJ F k (.ao p n cap k) o:=by
 refine⟨rfl,by rw[L];rfl,λd r y=> ?_⟩;obtain⟨e,_⟩:=a6H.1 y;have f:(flat o).length=n*k:=by rw[cR x,L]
 have g:n*k<=c.length:=by grind
 have T:(d+1)*k<=n*k:=a6O _ aaU;rw[a7I,a9v]at T;have i:=x r (a6D y);have P: ∀a b,a+b<=k->((c.drop (d*k+a)).take b)=(r.cells.drop a).take b:=by intro a b hm;rw[<-DP x y,<-S];grind[List.drop_take,Nat.min_eq_left,List.drop_drop]
 have V: ∀h a b,a+b<=k->0<b->aL h b (c.drop (d*k+a))=aL h b (r.cells.drop a):=by
  intro h a b hm z;cases h with
  |true=>simp only[aL,if_true];rw[P a b hm]
  |false=>
   have j:=P a 1 aaU;simp only[aL,a7H,if_false];cases bZ:c.drop (d*k+a)with
   |nil=>simp_all
   |cons l m=>
    cases cr:r.cells.drop a with
    |nil=>simp_all
    |cons q s=>grind
 refine⟨.ptr p (d*k),?_,⟨λW C h b z hm=> ?_,λW C a h b z hm=>⟨.ptr p (d*k+a),rfl,?_⟩⟩⟩;grind[jJ,Int.toNat_natCast]
 .have D:=U.ae (C _ _ G);have E:d*k+b<=c.length:=aaU;simp only[cY,D,if_pos E];have:=V h 0 b aaU z;simp_all
 .have D:=U.ae (C _ _ G);have E:d*k+a+b<=c.length:=aaU;simp only[cY,D,if_pos E];grind
theorem bJ.dv (a:av s f e B n) (d:0<e) (b:B=flat g) (c:aW e g):bJ f e n g:=by subst b;have h:=cR c;obtain⟨k,⟨o,rfl|rfl⟩|⟨p,r,x,y,rfl,z,C,D,E,F,G,L⟩⟩:=a;grind[List.eq_nil_of_length_eq_zero,List.length_nil,Nat.mul_eq_zero,bJ.J];grind[List.eq_nil_of_length_eq_zero,List.length_nil,Nat.mul_eq_zero,bJ.J];grind[bJ.ao,Nat.eq_of_mul_eq_mul_right]
def hc (h:b0->R->Prop) (k:U) (b:FuncId) (o p:List R) (r:b0->Bool):Prop:=
 fu Tryz.prog b=true/\ ∀c d (a:U),h c d->k.sub a->AC Tryz.prog b (o++ [d]++p) a λx y=>y=a/\x= .v (.bool (r c))
variable{b5:FuncId}
theorem Zp (a:List (List Int×Bool)) (L:List R) (y:R) (d:U) (P:aB cT a L) (S:bJ d 2 y L) (w:a.length<=1000000000000) {h:(List Int×Bool)->Bool} (T:hc cT d b5 g B h):
  AC Tryz.prog 323 [y,.bG b5 g B] d λf z=>z=d/\ ∃V:Int,f= .v (.int .i64 V)/\decide (0<=V)=a.any h:=by
 refine bc hm TC aaV ?_;have i:=P.len;have C:=S.len;rw[i]at C;refine aj @C ?_;refine cm (λc z=> ∃b:Nat,b<=a.length/\z=d/\c 0=y/\c 1= .bG b5 g B/\c 7= .v (.int .i64 a.length)/\c 8= .v (.int .i64 b)/\(a.take b).any h=false)
  (λc _=>match c 8 with| .v (.int _ j)=>a.length - j.toNat| _=>0) ⟨0,aaU,rfl,?_⟩ ?_
 .refine aj @C ?_;simp
 rintro c D ⟨b,A,rfl,k,o,p,r,W⟩;by_cases x:(b)<(a.length:Int)
 .have E:a[b]? =some a[b]:=a6y aaU;have l:a.take (b+1)=a.take b++ [a[b]]:=by rw[a7C,E];rfl
  have m:a[b]'aaU∈a:=a6Z _;generalize a[b]'aaU=e at E l m;obtain⟨F,n,G⟩:=P.get E;obtain⟨q,s,t⟩:=S.get b F n;have u:cY true 2 D q=some F:=by have v:=t.ld D U.a6 true 2 aaU (by rw[cT.cells G];omega);rw[v];obtain⟨H,rfl⟩:=G;rfl
  refine aj (c9 @k @o @p @r @x @s @u) ?_;refine eL T.1 (T.2 e F _ G U.a6) ?_;rintro _ D ⟨rfl,rfl⟩;cases I:h e with
  |true=>refine aj (bh @k @o @p @r @x) ?_;refine⟨_,U.a6,rfl,_,rfl,?_⟩;grind
  |false=>refine aj (bh @k @o @p @r @x) ?_;grind
 .obtain rfl:b=a.length:=aaU;refine aj (bh @k @o @p @r @x) ?_;rw[a6V]at W;exact⟨_,U.a6,rfl,_,rfl,by rw[W];simp⟩
def Zq (b:List (List Int×Bool)) (c:List R) (d:R) (a:U) (k:aB cT b c) (o:bJ a 2 d c) (p:b.length<=1000000000000) {h:(List Int×Bool)->Bool} (r:hc cT a b5 g B h):
  AC Tryz.prog 292 [d,.bG b5 g B] a λx y=>y=a/\x= .v (.bool (b.any h)):=by
 refine bc hm SV aaV ?_;refine bT ?_;refine ah (Zp b c d a k o p r) ?_;rintro _ C ⟨rfl,D,rfl,z⟩;refine bT ?_;exact⟨_,U.a6,rfl,by rw[z]⟩
theorem DQ (h:List (List Int×Bool)) (p:List R) (r:R) (b:U) (P:aB cT h p) (S:bJ b 2 r p) (T:h.length<=1000000000000) {x:(List Int×Bool)->Bool} (z:hc cT b b5 g B x):
  AC Tryz.prog 253 [r,.bG b5 g B] b λV c=>c=b/\V= .v (.bool (h.all x)):=by
 refine bc hm RZ aaV ?_;refine bT ?_;refine aN λd W=> ?_;have C:=U.af (X:= .cells [.bG b5 g B]) (U.a6) W;have aE:(b.set d (.cells [.bG b5 g B])) d=some (.cells [.bG b5 g B]):=U.ai _ _ _;have e:(R.bG b5 g B).cells= [.bG b5 g B]:=rfl;refine aj @e ?_;generalize b.set d (.cells [.bG b5 g B])=D at*;refine ah (Zq h p r D P (S.mono C) T (b5:=293) (g:= []) (B:= [.ptr d 0]) (h:=λy=> !x y) ⟨aaZ,λy a c k E=> ?_⟩) ?_
 .change AC Tryz.prog _ [a,.ptr d 0] c _;refine bc hm SY aaV ?_;have f:=E _ _ aE;refine aj (cT.cells k) ?_;refine aN λo i=> ?_;have F:=U.af (X:= .cells a.cells) (U.a6) i;have c2:(c.set o (.cells a.cells)) o=some (.cells a.cells):=U.ai _ _ _;have aM:=F _ _ f;have G:aL true 2 (a.cells.drop 0)=a:=by obtain⟨n,rfl⟩:=k;rfl
  have j:aL true 2 a.cells=a:=G;have L:=cT.cells k;refine aj @L ?_;have l:=z.2 y a (c.set o (.cells a.cells)) k (U.au C (U.au E F));generalize c.set o (.cells a.cells)=m at*;refine aj (bh (U.ae aM) (U.ae c2) @L @G @j) ?_;refine eL z.1 l ?_;rintro _ m ⟨rfl,rfl⟩;refine bT ?_;simp_all
 rintro _ D ⟨rfl,rfl⟩;refine bT ?_;grind
theorem Zr (a:List aq) (L:List R) (y:R) (d:U) (P:aB bB a L) (S:bJ d 37 y L) (A:a.length<=1000000000000) {h:aq->Bool} (T:hc bB d b5 g B h):
  AC Tryz.prog 324 [y,.bG b5 g B] d λf z=>z=d/\ ∃V:Int,f= .v (.int .i64 V)/\decide (0<=V)=a.any h:=by
 refine bc hm TE aaV ?_;have i:=P.len;have C:=S.len;rw[i]at C;refine aj @C ?_;refine cm (λc z=> ∃b:Nat,b<=a.length/\z=d/\c 0=y/\c 1= .bG b5 g B/\c 7= .v (.int .i64 a.length)/\c 8= .v (.int .i64 b)/\(a.take b).any h=false)
  (λc _=>match c 8 with| .v (.int _ j)=>a.length - j.toNat| _=>0) ⟨0,aaU,rfl,?_⟩ ?_
 .refine aj @C ?_;simp
 rintro c D ⟨b,H,rfl,k,o,p,r,W⟩;by_cases x:(b)<(a.length:Int)
 .have E:a[b]? =some a[b]:=a6y aaU;have l:a.take (b+1)=a.take b++ [a[b]]:=by rw[a7C,E];rfl
  have m:a[b]'aaU∈a:=a6Z _;generalize a[b]'aaU=e at E l m;obtain⟨F,n,G⟩:=P.get E;obtain⟨q,s,t⟩:=S.get b F n;have u:cY true 37 D q=some F:=by have v:=t.ld D U.a6 true 37 aaU (by rw[bB.cells G];omega);rw[v];obtain⟨w,_,I,K,M,rfl⟩:=G;simp[R.cells,aL,(aP w).t37]
  refine aj (c9 @k @o @p @r @x @s @u) ?_;refine eL T.1 (T.2 e F _ G U.a6) ?_;rintro _ D ⟨rfl,rfl⟩;cases N:h e with
  |true=>refine aj (bh @k @o @p @r @x) ?_;refine⟨_,U.a6,rfl,_,rfl,?_⟩;grind
  |false=>refine aj (bh @k @o @p @r @x) ?_;grind
 .obtain rfl:b=a.length:=aaU;refine aj (bh @k @o @p @r @x) ?_;rw[a6V]at W;exact⟨_,U.a6,rfl,_,rfl,by rw[W];simp⟩
def Zs (b:List aq) (c:List R) (d:R) (a:U) (k:aB bB b c) (o:bJ a 37 d c) (p:b.length<=1000000000000) {h:aq->Bool} (r:hc bB a b5 g B h):
  AC Tryz.prog 294 [d,.bG b5 g B] a λx y=>y=a/\x= .v (.bool (b.any h)):=by
 refine bc hm T0 aaV ?_;refine bT ?_;refine ah (Zr b c d a k o p r) ?_;rintro _ C ⟨rfl,D,rfl,z⟩;refine bT ?_;exact⟨_,U.a6,rfl,by rw[z]⟩
theorem y3 (h:List aq) (r:List R) (x:R) (b:U) (P:aB bB h r) (S:bJ b 37 x r) (T:h.length<=1000000000000) {y:aq->Bool} (z:hc bB b b5 g B y):
  AC Tryz.prog 255 [x,.bG b5 g B] b λV c=>c=b/\V= .v (.bool (h.all y)):=by
 refine bc hm S3 aaV ?_;refine bT ?_;refine aN λd W=> ?_;have C:=U.af (X:= .cells [.bG b5 g B]) (U.a6) W;have aE:(b.set d (.cells [.bG b5 g B])) d=some (.cells [.bG b5 g B]):=U.ai _ _ _;have e:(R.bG b5 g B).cells= [.bG b5 g B]:=rfl;refine aj @e ?_;generalize b.set d (.cells [.bG b5 g B])=D at*;refine ah (Zs h r x D P (S.mono C) T (b5:=295) (g:= []) (B:= [.ptr d 0]) (h:=λk=> !y k) ⟨aaZ,λk a c o E=> ?_⟩) ?_
 .change AC Tryz.prog _ [a,.ptr d 0] c _;refine bc hm T2 aaV ?_;have f:=E _ _ aE;refine aj (bB.cells o) ?_;refine aN λp i=> ?_;have F:=U.af (X:= .cells a.cells) (U.a6) i;have c2:(c.set p (.cells a.cells)) p=some (.cells a.cells):=U.ai _ _ _;have aM:=F _ _ f;have G:aL true 37 (a.cells.drop 0)=a:=by obtain⟨j,_,l,m,n,rfl⟩:=o;show aL true 37 (ab k l m n)= _;rw[aL,if_pos rfl,(aP j).t37]
  have q:aL true 37 a.cells=a:=G;have L:=bB.cells o;refine aj @L ?_;have s:=z.2 k a (c.set p (.cells a.cells)) o (U.au C (U.au E F));generalize c.set p (.cells a.cells)=t at*;refine aj (bh (U.ae aM) (U.ae c2) @L @G @q) ?_;refine eL z.1 s ?_;rintro _ t ⟨rfl,rfl⟩;refine bT ?_;simp_all
 rintro _ D ⟨rfl,rfl⟩;refine bT ?_;grind
theorem Zt (a b:aq):(decide (a=b))=(decide (a.sum=b.sum)&&decide (a.live=b.live)&&decide (a.size=b.size)&&(decide (a.aT=b.aT)&&decide (a.aS=b.aS))&&decide (a.key=b.key)):=by obtain⟨c,d,h,k,o,p⟩:=a;obtain⟨r,x,y,z,C,D⟩:=b;grind
def uQ {b:List UInt8}:peq (.agg (A.map ak)) (.agg (b.map ak))=decide (A=b):=by rw[<-Bool.coe_iff_coe,qs,decide_eq_true_eq];exact⟨λa=>uG a,λa=>by rw[a]⟩
theorem DR (a b:aq) (d h k o p r:Own) (V:U) (g:a.sum.length=32) (i:b.sum.length=32) (W:a.cv):
  AC Tryz.prog 181 [.agg (ab a d h k),.agg (ab b o p r)] V λu v=>v=V/\u= .v (.bool (decide (a=b))):=by
 have j:=aP (N:=d) (e5:=h) (h6:=k) g;have l:=aP (N:=o) (e5:=p) (h6:=r) i;rw[Zt];generalize ab a d h k=w at j;generalize ab b o p r=A at l;obtain⟨x,O,a3,a4,_,di,y,Q⟩:=j;obtain⟨z,X,C,D,_,E,F,Y⟩:=l;refine bc hm Q1 aaV ?_;have c: ∀m,(R.agg m).cells=m:=λ_=>rfl;refine aa ?_;refine aN λB H=> ?_;refine aa ?_;refine aN λn G=> ?_;have e:B≠n:=by rintro rfl;rw[U.ai]at G;cases G
 have I:=a6I e;have K:V n=none:=by rw[U.an _ _ I]at G;exact G
 have Z:=U.af (X:= .cells A) (U.af (X:= .cells w) (U.a6) H) K;have L:dk [(32,.int .u8)] (a.sum.map ak):=ow g;have P:dk [(32,.int .u8)] (b.sum.map ak):=ow i;have S: ∀q s M e N:R,List.take 2 [q,s,M,e,N]= [q,s]:=λ_ _ _ _ _=>rfl;by_cases T:a.sum=b.sum
 .by_cases f:a.live=b.live
  .by_cases t:a.size=b.size
   .refine aj (CQ @c @a3 @C @L @P @uQ @T @f @t @x @z @di @E @y @F @a4 @D @S @a9l) ?_;refine ah (Zn _ a.aT a.aS b.aT b.aS d h o p W.aT W.aS) ?_;rintro _ _ ⟨rfl,rfl⟩;cases j9:(decide (a.aT=b.aT)&&decide (a.aS=b.aS))with
    |true=>refine aa ?_;refine ah (kA a.key b.key k r _ W.key) ?_;rintro _ _ ⟨rfl,rfl⟩;refine bT ?_;simp_all
    |false=>refine aj @c ?_;simp_all
   .refine aj (CQ @c @a3 @C @L @P @uQ @T @f @t @x @z @di @E @y @F @a4 @D @S @a9l) ?_;simp_all
  .refine aj (xv @c @a3 @C @L @P @uQ @T @f @x @z @di @E @y @F @a4 @D @S @a9l) ?_;simp_all
 .refine aj (nn @c @a3 @C @L @P @uQ @T @x @z @di @E @y @F @a4 @D @S @a9l) ?_;simp_all
def my (a:aq) (c d h:Own) (k:U) (o:a.sum.length=32) (x:a.cv):
  AC Tryz.prog 123 [.agg (ab a c d h)] k λy z=>z=k/\y= .v (.bool (decide (a=az))):=by
 have b:=aP (N:=c) (e5:=d) (h6:=h) o;refine bc hm Oi aaV ?_;have p: ∀r,(R.agg r).cells=r:=λ_=>rfl;have E:=b.len;have C:(List.replicate 32 (R.v (.int .u8 0))++ [R.J [] .nil,.J [] .nil]++ [R.v (.int .i64 0),.v (.int .i64 0)]++ [R.J [] .nil])=ab az .nil .nil .nil:=by rw[show List.replicate 32 (R.v (.int .u8 0))=(List.replicate 32 (0)).map ak by rw[List.map_replicate];rfl];simp only[a6N];rfl
 refine aj (c2 @p b.len) ?_;refine aN λF D=> ?_;refine aj (aM @p b.len b.t37 @C) ?_;refine ah (DR a az c d h .nil .nil .nil _ o rfl x) ?_;rintro _ _ ⟨rfl,rfl⟩;refine bT ?_;exact⟨k,U.af U.a6 D,rfl⟩
theorem y4 (a:aq) (p r y:Own) (c:Nat) (z:U) (g:c<=1000000000000) (E:a.sum.length=32) (i:a.cv):
  AC Tryz.prog 183 [.agg (ab a p r y),.v (.int .i64 (c:Int))] z λj l=>l=z/\j= .v (.bool (fl c a)):=by
 have F:=aP (N:=p) (e5:=r) (h6:=y) E;have G:=λz=>my a p r y z E i;generalize ab a p r y=m at F G;obtain⟨d,t,a3,a4,a5,di,h,u⟩:=F;refine bc hm Q5 aaV ?_;have k: ∀L,(R.agg L).cells=L:=λ_=>rfl;have P:=bM (q:=a.aT);have S:=bM (q:=a.aS);refine aa ?_;refine aN λv n=> ?_;have w:=U.af (X:= .cells m) (U.a6) n;refine aa ?_;refine ah (G _) ?_;rintro _ _ ⟨rfl,rfl⟩;have A: ∀T V q c s:R,List.take 2 [T,V,q,c,s]= [T,V]:=λ_ _ _ _ _=>rfl;unfold fl;by_cases b:a=az
 .refine aj @b ?_;simp_all
 by_cases o:a.size<1
 .refine aj (bx @b @o @k @d @di @h) ?_;simp_all
 by_cases x:(1048576)<a.size
 .refine aj (c9 @b @o @x @k @d @di @h) ?_;simp_all
 by_cases C:a.live<0
 .refine aj (bt @b @o @x @C @k @d @di @h) ?_;simp_all
 by_cases D:a.size<a.live
 .refine aj (cN @b @o @x @C @D @k @d @di @h) ?_;simp_all
 by_cases W:a.live=0
 .have e: ¬a.size<0:=aaU;by_cases f:(a.aT.length:Int)=0
  .refine aj (ml @b @o @x @C @D @W @f @e @k @d @a4 @a5 @di @h @P @S) ?_;simp_all
  .refine aj (ml @b @o @x @C @D @W @f @e @k @d @a4 @a5 @di @h @P @S) ?_;simp_all
 .refine aa ?_;refine ah (oz _ a.aT a.aS p r c g) ?_;rintro _ _ ⟨rfl,rfl⟩;refine bT ?_;simp_all
theorem Zu (b:Nat) (a:List Int×Bool) (h:R) (r:cT a h) (c:U) (d:Nat) (k:c.read d=some [.v (.int .i64 (b:Int))]):
  AC Tryz.prog 254 [h,.ptr d 0] c λx y=>y=c/\x= .v (.bool (decide (a.1.length=b))):=by
 obtain⟨F,rfl⟩:=r;refine bc hm S1 aaV ?_;have z: ∀o,(R.agg o).cells=o:=λ_=>rfl;have C:=bM (q:=a.1);refine aa ?_;refine aN λD p=> ?_;have G:d≠D:=by rintro rfl;simp[U.read,p]at k
 refine aj (aE @z @C @k) ?_;have E:decide ((a.1.length:Int)=b)=decide (a.1.length=b):=by grind
 exact⟨c,U.af U.a6 p,rfl,by rw[E]⟩
def Zv (a:Nat) (E:a<=1000000000000) (c:aq) (h:R) (F:bB c h) (b:U) (d:Nat) (k:b.read d=some [.v (.int .i64 (a:Int))]):
  AC Tryz.prog 256 [h,.ptr d 0] b λG L=>L=b/\G= .v (.bool (fl a c)):=by
 obtain⟨o,P,p,r,x,rfl⟩:=F;refine bc hm S5 aaV ?_;have y: ∀z,(R.agg z).cells=z:=λ_=>rfl;have C:=aP (N:=p) (e5:=r) (h6:=x) o;have T:=C.len;refine aj @y ?_;refine aN λS D=> ?_;have V:d≠S:=by rintro rfl;simp[U.read,D]at k
 refine aj (aE @y @k C.t37) ?_;refine ah (y4 c p r x a _ E o P) ?_;rintro _ _ ⟨rfl,rfl⟩;refine bT ?_;exact⟨b,U.af U.a6 D,rfl⟩
def Zw (a:aq) (c:R) (k:bB a c) (b:U):
  AC Tryz.prog 257 [c] b λo p=>p=b/\o= .v (.bool (decide (a.key.length=0))):=by
 obtain⟨r,G,x,y,z,rfl⟩:=k;refine bc hm S7 aaV ?_;have C: ∀d,(R.agg d).cells=d:=λ_=>rfl;have h:=aP (N:=x) (e5:=y) (h6:=z) r;have L:=h.len;have D:=bM (q:=a.key);refine aa ?_;refine aN λP E=> ?_;refine aj (aE @C h.d36 @D) ?_;have F:decide ((a.key.length:Int)=0)=decide (a.key.length=0):=by simp
 exact⟨b,U.af U.a6 E,rfl,by rw[F]⟩
def Zx (b:List Int×Bool) (c:R) (h:cT b c) (a:U):
  AC Tryz.prog 258 [c] a λk o=>o=a/\k= .v (.bool b.2):=by
 obtain⟨x,rfl⟩:=h;refine bc hm S9 aaV ?_;have p: ∀d,(R.agg d).cells=d:=λ_=>rfl;refine aa ?_;refine aN λy r=> ?_;refine aj @p ?_;exact⟨a,U.af U.a6 r,rfl⟩
def Zy (b:Nat) (a:aq) (r:R) (L:bB a r) (c:U) (h:Nat) (k:c.read h=some [.v (.int .i64 (b:Int))]):
  AC Tryz.prog 259 [r,.ptr h 0] c λP S=>S=c/\P= .v (.bool (decide (a.key.length=b)&& !decide (a=az))):=by
 obtain⟨x,T,y,z,C,rfl⟩:=L;refine bc hm Sb aaV ?_;have D: ∀E,(R.agg E).cells=E:=λ_=>rfl;have d:=aP (N:=y) (e5:=z) (h6:=C) x;have W:=d.len;have F:=bM (q:=a.key);refine aa ?_;refine aN λV o=> ?_;have e:h≠V:=by rintro rfl;simp[U.read,o]at k
 by_cases G:(a.key.length:Int)=b
 .have p:a.key.length=b:=aaU;refine aj (bx @D @k d.t37 d.d36 @F @G) ?_;refine ah (my a y z C _ x T) ?_;rintro _ _ ⟨rfl,rfl⟩;refine bT ?_;exact⟨c,U.af U.a6 o,rfl,by simp[p]⟩
 .have p: ¬a.key.length=b:=aaU;refine aj (bx @D @k d.t37 d.d36 @F @G) ?_;exact⟨c,U.af U.a6 o,rfl,by simp[p]⟩
structure fK (a:U) (n:bY) (x y:R) (b c:List R):Prop where
 rows:aB cT n.rows b
 kids:aB bB n.kids c
 mc:bJ a 2 x b
 gJ:bJ a 37 y c
 kB:n.rows.length<=100000
 hZ:n.kids.length<=100000
def fK.mono {b c:U}{d:bY}{h k:R}{o p:List R} (a:fK b d h k o p) (r:b.sub c):fK c d h k o p:=⟨a.rows,a.kids,a.mc.mono r,a.gJ.mono r,a.kB,a.hZ⟩
def fK.hd (a:fK f b4 n b6 g B):fa n=some (.v (.int .i64 b4.rows.length)):=by rw[a.mc.len,a.rows.len]
def fK.sP (a:fK f b4 b6 n g B):fa n=some (.v (.int .i64 b4.kids.length)):=by rw[a.gJ.len,a.kids.len]
abbrev gO (a:bY) (b c:R):R:= .agg [.v (.int .u8 (a.kind.toNat:Int)),b,c]
theorem iN (b:UInt8) (a:Nat) (c:a<256):(decide ((b.toNat:Int)=(a:Int)))=decide (b=UInt8.ofNat a):=by grind[UInt8.ofNat,UInt8.toNat_inj,UInt8.toNat_ofNat']
theorem DS (a:bY) (m g:List R) (c G:R) (b:Nat) (k1:1<=b) (k2:b<=8) (V:U) (p:fK V a c G m g):
  AC Tryz.prog 205 [gO a c G,.v (.int .i64 (b:Int))] V λC d=>d=V/\C= .v (.bool (dQ b a)):=by
 have D:=p.hd;have E:=p.sP;have k3:=p.kB;have k4:=p.hZ;refine bc hm QD aaV ?_;have k5: ∀q,(R.agg q).cells=q:=λ_=>rfl;refine aa ?_;refine aN λi O=> ?_;refine aa ?_;refine aN λh j=> ?_;have k:i≠h:=by rintro rfl;rw[U.ai]at j;cases j
 have o:=a6I k;have Q:V h=none:=by rw[U.an _ _ o]at j;exact j
 have W:=U.af (X:= .cells [.v (.int .i64 (b))]) (U.af (X:= .cells [.v (.int .u8 (a.kind.toNat)),c,G]) (U.a6) O) Q;have c2:((V.set i (.cells [.v (.int .u8 (a.kind.toNat)),c,G])).set h (.cells [.v (.int .i64 (b))])) i=some (.cells [.v (.int .u8 (a.kind.toNat)),c,G]):=by rw[U.an _ _ k,U.ai]
 have aE:((V.set i (.cells [.v (.int .u8 (a.kind.toNat)),c,G])).set h (.cells [.v (.int .i64 (b))])) h=some (.cells [.v (.int .i64 (b))]):=U.ai _ _ _;have r: ¬(b:Int)<1:=aaU;have x: ¬(8)<(b:Int):=aaU;refine aa ?_;have X: ∀y:U,y h=some (.cells [.v (.int .i64 (b:Int))])->(hc cT y 254 [] [.ptr h 0] λC=>decide (C.1.length=b))/\hc bB y 256 [] [.ptr h 0] (fl b)/\(hc bB y 257 [] [] λL=>decide (L.key.length=0))/\(hc cT y 258 [] [] λC=>C.2)/\(hc bB y 259 [] [.ptr h 0] λL=>decide (L.key.length=b)&& !decide (L=az)):=by intro y aE;have n: ∀d,y.sub d->d.read h=some [.v (.int .i64 (b))]:=λd P=>U.ae (P _ _ aE);have s:hc cT y 254 [] [.ptr h 0] λC=>decide (C.1.length=b):=⟨aaZ,λc S d T P=>Zu b c S T d h (n d P)⟩;have t:hc bB y 256 [] [.ptr h 0] (fl b):=⟨aaZ,λc S d T P=>Zv b aaU c S T d h (n d P)⟩;have u:hc bB y 257 [] [] λL=>decide (L.key.length=0):=⟨aaZ,λc S d T P=>Zw c S T d⟩;have v:hc cT y 258 [] [] λC=>C.2:=⟨aaZ,λc S d T P=>Zx c S T d⟩;have w:hc bB y 259 [] [.ptr h 0] λL=>decide (L.key.length=b)&& !decide (L=az):=⟨aaZ,λc S d T P=>Zy b c S T d h (n d P)⟩;simp_all
 obtain⟨s,t,u,v,w⟩:=X _ aE;refine aa ?_;refine ah (DQ a.rows m c _ p.rows (p.mc.mono W) aaU s) ?_;rintro _ _ ⟨rfl,rfl⟩;unfold dQ;cases k6:a.rows.all (λC=>decide (C.1.length=b))with
 |false=>refine aj (bt @r @x (U.ae c2) (U.ae aE) @U.an @k @o @a7u) ?_;simp_all
 |true=>
 refine aa ?_;refine ah (y3 a.kids g G _ p.kids (p.gJ.mono W) aaU t) ?_;rintro _ _ ⟨rfl,rfl⟩;cases k7:a.kids.all (fl b)with
 |false=>refine aj (bt @r @x (U.ae c2) (U.ae aE) @U.an @k @o @a7u) ?_;simp_all
 |true=>
 have Y:=iN a.kind 1 aaU;have Z:=iN a.kind 2 aaU;have j9:=iN a.kind 3 aaU;simp only[a9C]at Y Z j9;by_cases A:a.kind=1
 .have B:((a.kind.toNat:Int)=1)=True:=by rw[A];simp
  refine aa ?_;by_cases z:(a.rows.length:Int)=1
  .by_cases F:(a.kids.length:Int)=2
   .refine aj (gk @r @x (U.ae c2) (U.ae aE) @U.an @k @o @a7o @z @F @D @E) ?_;refine ah (y3 a.kids g G _ p.kids (p.gJ.mono W) aaU u) ?_;rintro _ _ ⟨rfl,rfl⟩;refine bT ?_;have e:a.rows.length=1:=aaU;have l:a.kids.length=2:=aaU;simp_all
   .have l: ¬a.kids.length=2:=aaU;refine aj (gk @r @x (U.ae c2) (U.ae aE) @U.an @k @o @a7o @z @F @D @E) ?_;simp_all
  .have e: ¬a.rows.length=1:=aaU;refine aj (fA @r @x (U.ae c2) (U.ae aE) @U.an @k @o @a7o @z @D @E) ?_;simp_all
 have B: ¬(a.kind.toNat:Int)=1:=λH=>A (by simp_all);by_cases I:a.kind=2
 .have K:((a.kind.toNat:Int)=2)=True:=by rw[I];simp
  refine aa ?_;by_cases z:(1:Int)<=a.rows.length
  .by_cases F:(a.rows.length:Int)<=4
   .by_cases f:(a.kids.length:Int)=0
    .refine aj (lr @r @x (U.ae c2) (U.ae aE) @U.an @k @o @a7o @D @E @z @F @f) ?_;refine ah (DQ a.rows m c _ p.rows (p.mc.mono W) aaU v) ?_;rintro _ _ ⟨rfl,rfl⟩;refine bT ?_;have e:1<=a.rows.length:=aaU;have l:a.rows.length<=4:=aaU;simp_all
    .have k0: ¬a.kids.length=0:=aaU;refine aj (lr @r @x (U.ae c2) (U.ae aE) @U.an @k @o @a7o @D @E @z @F @f) ?_;simp_all
   .have l: ¬a.rows.length<=4:=aaU;refine aj (gk @r @x (U.ae c2) (U.ae aE) @U.an @k @o @a7o @D @E @z @F) ?_;grind
  .have e: ¬1<=a.rows.length:=aaU;refine aj (fA @r @x (U.ae c2) (U.ae aE) @U.an @k @o @a7o @D @E @z) ?_;simp_all
 have K: ¬(a.kind.toNat:Int)=2:=λH=>I (by simp_all);by_cases M:a.kind=3
 .have N:((a.kind.toNat:Int)=3)=True:=by rw[M];simp
  refine aa ?_;by_cases z:(a.rows.length:Int)=0
  .by_cases F:(2:Int)<=a.kids.length
   .by_cases f:(a.kids.length:Int)<=4
    .refine aj (lr @r @x (U.ae c2) (U.ae aE) @U.an @k @o @a7o @D @E @z @F @f) ?_;refine ah (y3 a.kids g G _ p.kids (p.gJ.mono W) aaU w) ?_;rintro _ _ ⟨rfl,rfl⟩;refine bT ?_;have e:a.rows.length=0:=aaU;grind
    .have k0: ¬a.kids.length<=4:=aaU;refine aj (lr @r @x (U.ae c2) (U.ae aE) @U.an @k @o @a7o @D @E @z @F @f) ?_;grind
   .have l: ¬2<=a.kids.length:=aaU;refine aj (gk @r @x (U.ae c2) (U.ae aE) @U.an @k @o @a7o @D @E @z @F) ?_;grind
  .have e: ¬a.rows.length=0:=aaU;refine aj (fA @r @x (U.ae c2) (U.ae aE) @U.an @k @o @a7o @D @E @z) ?_;simp_all
 have N: ¬(a.kind.toNat:Int)=3:=λH=>M (by simp_all);refine aj (fA @r @x (U.ae c2) (U.ae aE) @U.an @k @o @a7o @B @K @N) ?_;simp_all
end Go.Proofs.YtcfpcblgmmeioaaGreat
