import Derived.Test.YtgchlmdfldnhnaaGreatMF
import Derived.Test.YtgchlmdfldnhnaaGreatME
import Derived.Test.YtgchlmdfldnhnaaGreatMD
set_option linter.all false
open Option renaming some->γ,none->η
open Go.Proofs.Tryz renaming prog->δ
open Bool renaming true->ζ,false->κ
open List renaming replicate->θ,range->ψ,length_append->Ζ,take_of_length_le->Λ,length->β
open Go.bw.U renaming a1->ι,ad->μ,ae->ν,ah->ξ,al->ο,ao->π,set_set->υ,aO->ω,bH->Ν
open Go.Proofs.YtgchlmdfldnhnaaGreat.isRow renaming cells->ρ
open Go.bw.R renaming cells->τ
open Go.Proofs.YtgchlmdfldnhnaaGreat.Ext renaming of->Γ
open Go.Proofs.YtgchlmdfldnhnaaGreat.af renaming le_refl->Ε
open Go.Proofs.YtgchlmdfldnhnaaGreat.bA renaming cells->Ξ
open Go.Proofs.YtgchlmdfldnhnaaGreat.aF renaming size->Ο
set_option maxRecDepth 100000
namespace Go.Proofs.YtgchlmdfldnhnaaGreat
open Go Go.bw
variable{N j2:Int}
theorem GN:iC N j2<0↔N<j2:=by unfold iC;omega
theorem GO:iC N j2=0↔N=j2:=by unfold iC;omega
def lu:Ω->Ω->Prop
 |a::c,b::d=>a<b\/a=b/\lu c d
 |_,_=>False
theorem rS:∀ {b c:Ω},β b=β c->(gh b c<0↔lu b c)
 |[],[],_=>by simp[gh,lu]
 |d::b,f::c,a=>by
  have ih:=rS (by simpa using a);grind[gh,lu,GO,GN]
 |[],_:: _,a=>by simp at a
 |_:: _,[],a=>by simp at a
def zN:∀ {b:Ω},¬lu b b
 |[],a=>a
 |c::b,a=>a.elim ε λa=>zN a.2
def zO:∀ {c d f:Ω},lu c d->lu d f->lu c f
 |h::c,k::d,o::f,a,b=>by
  rcases a with a|⟨rfl,a⟩<;>rcases b with b|⟨rfl,b⟩
  .exact .inl ε
  .exact .inl a
  .exact .inl b
  .exact .inr ⟨rfl,zO a b⟩
theorem zP:∀ {a b:Ω},β a=β b->lu a b\/a=b\/lu b a
 |[],[],_=>.inr (.inl rfl)
 |h::a,k::b,c=>by
  rcases Int.lt_trichotomy h k with d|rfl|d
  .exact .inl (.inl d)
  .rcases zP (by simpa using c)with f|rfl|f
   .exact .inl (.inr ⟨rfl,f⟩)
   .simp
   .exact .inr (.inr (.inr ⟨rfl,f⟩))
  .exact .inr (.inr (.inl d))
 |[],_:: _,c=>by simp at c
 |_:: _,[],c=>by simp at c
def zQ(a:Nat)(b c:Ω):Prop:=b.getD a 0<c.getD a 0\/b.getD a 0=c.getD a 0/\lu b c
variable{n b5:Ω}{e i t I b3 e5:Nat}
theorem vO(a:β n=β b5):cM e n b5<0↔zQ e n b5:=by grind[cM,zQ,GO,rS,GN]
structure oe(d:Nat)(a:Ω->Ω->Int):Prop where
 jH:∀x,β x=d->¬a x x<0
 tS:∀x y z,β x=d->β y=d->β z=d->a x y<0->a y z<0->a x z<0
 rT:∀x y,β x=d->β y=d->a x y<0\/x=y\/a y x<0
def oe.zR{a:Ω->Ω->Int}(c:oe e a)(b:β n=e)(d:β b5=e)(f:a n b5<0):¬a b5 n<0:=λh=>c.jH n b (c.tS n b5 n b d b f h)
def oe.GP{c:Ω->Ω->Int}(f:oe e c):∀a b d,β a=e->β b=e->β d=e->¬c a b<0->¬c b d<0->¬c a d<0:=λa b d h k p y r x=>by
 rcases f.rT a b h k with o|rfl|o
 .omega
 .omega
 .exact r (f.tS _ _ _ k h p o x)
theorem qm(h k:Nat):oe h (cM k) where
 jH d f a:=by
  rw[vO rfl]at a;rcases a with a|a
  .omega
  .exact zN a.2
 tS d o y f p z b c:=by
  rw[vO ε]at*;rcases b with b|⟨b,r⟩<;>rcases c with c|⟨c,x⟩
  .exact .inl ε
  .exact .inl ε
  .exact .inl ε
  .exact .inr ⟨ε,zO r x⟩
 rT d o f p:=by rw[vO ε,vO ε];grind[zQ,Int.lt_trichotomy,zP]
theorem a2I(d:Nat):oe d gh where
 jH a b c:=by rw[rS rfl]at c;exact zN c
 tS a f o b h p h1 k:=by rw[rS ε]at*;exact zO h1 k
 rT a f b h:=by simp_all [rS,zP]
theorem zS{y:Nat}{k:Ω->Ω->Int}(z:oe y k):∀ {c a:List Ω},(∀b∈c,β b=y)->a.Perm c->c.Pairwise (λo p=>¬k p o<0)->a.Pairwise (λo p=>¬k p o<0)->a=c
 |[],a,_,d,_,_=>d.eq_nil
 |b::c,a,r,d,h1,D=>by
  cases a with
  |nil=>simp_all
  |cons f a=>
   obtain⟨S,E⟩:=a7W.1 h1;obtain⟨T,F⟩:=a7W.1 D;have C:f∈b::c:=d.mem_iff.1 σ;have G:b∈f::a:=d.mem_iff.2 σ;have h:f=b:=by
    rcases a7S.1 C with h|V
    .exact h
    rcases a7S.1 G with h|W
    .exact h.symm
    rcases z.rT f b (r f C) (r b σ)with x|x|x
    .grind
    .exact x
    .grind
   subst h;rw[zS z (λL P=>r L (by simp[P])) (List.Perm.cons_inv d) E F]
theorem a2J(c:Nat)(a:Ω)(b:List Ω):(fq c a b).Perm (a::b):=by grind[List.takeWhile_append_dropWhile,decide,cM,fq,List.perm_middle]
def GQ{o c:Nat}{d:Ω}(p:β d=o):∀ {f:List Ω},(∀b∈f,β b=o)->f.Pairwise (λr x=>¬cM c x r<0)->(fq c d f).Pairwise (λr x=>¬cM c x r<0)
 |[],_,_=>by simp[fq]
 |b::f,y,C=>by
  obtain⟨D,G⟩:=a7W.1 C;have E:=qm o c;have F:=y b σ;by_cases k:cM c b d<0
  .have z:fq c d (b::f)=b::fq c d f:=by simp[fq,k]
   rw[z];refine a7W.2 ⟨λh a=>?_,GQ p (λh a=>y h (by simp[a])) G⟩;rcases zv.1 a with rfl|a
   .exact E.zR F p k
   .exact D h a
  .have z:fq c d (b::f)=d::b::f:=by simp[fq,k]
   rw[z];refine a7W.2 ⟨λh a=>?_,C⟩;rcases a7S.1 a with rfl|a
   .exact k
   .exact E.GP h b d (y h (by simp[a])) F p (D h a) k
theorem GR{k d:Nat}:∀(f a:List Ω),(∀b∈f,β b=k)->(∀b∈a,β b=k)->a.Pairwise (λo p=>¬cM d p o<0)->(f.foldl (λr c=>fq d c r) a).Perm (a++f)/\(f.foldl (λr c=>fq d c r) a).Pairwise (λo p=>¬cM d p o<0)
 |[],a,_,_,x=>by simpa using x
 |c::f,a,h1,y,x=>by
  have z:=h1 c σ;have C:∀b∈fq d c a,β b=k:=λb h=>by
   rcases zv.1 h with rfl|h
   .exact z
   .exact y b h
  obtain⟨D,E⟩:=GR f (fq d c a) (λb h=>h1 b (by simp[h])) C (GQ z y x);grind[a2J,trans]
variable{Q:List Ω}
def tT(a:∀b∈Q,β b=i):(ew e Q).Perm Q/\(ew e Q).Pairwise (λc d=>¬cM e d c<0):=by simpa[ew] using GR Q [] a σ .nil
variable{s b8:R}
def a2K(a:isRow n s):s.one=ζ/\s.cells=[s]:=by obtain⟨b,rfl⟩:=a;trivial
theorem aw.of{h:Type}{k:h->R->Prop}:∀ {b:List h}{aN:ύ},β aN=β b->(∀(c:Nat) d f,b[c]?=γ d->aN[c]?=γ f->k d f)->aw k b aN
 |[],[],_,_=>trivial
 |d::b,p::aN,a,o=>⟨o 0 d p rfl rfl,aw.of (by simpa using a) λc r f x y=>o (c+1) r f x y⟩
 |[],_:: _,a,_=>by simp at a
 |_:: _,[],a,_=>by simp at a
variable{b9:FuncId}{q:Program}
def a2L(a:gw q b9=ζ):∀b c,(callFunc b9 b).run q c=.ok (.enter b9 b) c:=by
 unfold gw at a;split at a
 .rename_i h d;rw[Κ]at a;obtain⟨k,f⟩:=a8i.1 a.1;exact enters_of d (by simpa using a.2) f
 .cases a
variable{g w h7:U}{j B b7:ύ}
theorem a2M{h:Ω->Ω->Int}(k:oe i h){r:List Ω}(V:g t=γ (.cells j))(E:aw isRow Q B)(F:β Q=e)(W:j.take e=B)(x:e<=4000000)(l:0<e)(G:∀a∈Q,β a=i)
  (L:r.Perm Q) (m:r.Pairwise (λy c=>¬h c y<0)) (o:FuncId) (z:ύ) (n:w.sub g) (q:∀c,w c=η\/∃s,w c=γ (.ro s)) (u:gw δ o=ζ)
  (v:∀b d C D,β b=i->β d=i->AC δ o ([.J (ab b) C,.J (ab d) D]++z) w λa _=>a=.v (.int .i64 (h b d))):
  AC δ 64 [.ar t e I 1,.bG o [] z] g λa P=>a=.aJ []/\∃p,aw isRow r p/\P=g.set t (.cells (p++j.drop e)):=by
 refine(a2j (q:=δ) Tryz.Gn isRow (λ_ _=>a2K) V E.len (λY b y f S=>?_) F W ε o z n q (λa=>β a=i) G l h k.jH k.tS k.GP (a2L u) λb d y c S x f A=>?_).mono λa P H=>?_
 .obtain⟨c,x,Z⟩:=E.get f;simp_all
 .obtain⟨C,rfl⟩:=S;obtain⟨D,rfl⟩:=x;exact v b d C D f A
 .obtain⟨K,p,k2,T,M,N,O,X⟩:=H;have:=zS k (λb f=>G b (L.mem_iff.1 f)) (T.trans L.symm) m O;subst this;exact⟨K,p,aw.of (by rw[M,T.length_eq,F]) N,X⟩
def fG(h k:U)(a:ύ)(c:R):Prop:=
 h.sub k/\(∀o∈a,β o.cells=41)/\((a=[]/\(c=.J [] .nil\/c=.J [] .zero))\/∃d f post b,h d=η/\k d=γ (.cells (f++flat a++post))/\β a<=b/\b<=maxLen/\β a*41+β post=b*41/\
  ((c=.ar d (β a) b 41/\f=[])\/c=.bC d (β f) (β a) b 41))
def fG.mono{a:R}(c:fG g w j a)(b:w.sub h7):fG g h7 j a:=by obtain⟨d,f,h⟩:=c;refine⟨π d b,f,h.imp_right ?_⟩;rintro⟨k,o,post,p,r,x,y⟩;exact⟨k,o,post,p,r,b _ _ x,y⟩
def fG.len(a:fG g w j s):gX s=γ (.v (.int .i64 (β j:Int)))/\s.cells=[s]:=by obtain⟨_,_,⟨rfl,rfl|rfl⟩|⟨b,c,post,d,_,_,_,_,_,⟨rfl,_⟩|rfl⟩⟩:=a<;>exact⟨rfl,rfl⟩
def fG.other{o:bq}(c:fG g w j s)(d:g e=η)(f:c5 s≠γ e):fG g (w.set e o) j s:=by
 obtain⟨h,k,p⟩:=c;refine⟨ν h d,k,p.imp_right ?_⟩;rintro⟨a,r,post,x,y,z,C,D,E,b⟩;have F:a≠e:=by rintro rfl;rcases b with⟨rfl,_⟩|rfl<;>exact f rfl
 exact⟨a,r,post,x,y,by rw[ο _ _ F];exact z,C,D,E,b⟩
def aq.other{o:bq}(b:aq g w i j s)(c:g e=η)(d:c5 s≠γ e):aq g (w.set e o) i j s:=by
 obtain⟨f,h⟩:=b;refine⟨ν f c,h.imp_right ?_⟩;rintro⟨a,k,p,r,rfl,x,y,z⟩;have C:a≠e:=by rintro rfl;exact d rfl
 exact⟨a,k,p,r,rfl,x,by rw[ο _ _ C];exact y,z⟩
variable{u b2:R -> U -> Prop}
theorem fG.app{D:R}{l:cK u}(m:fG w g j b8)(n:β s.cells=41)(q:c8 g 41 D=γ (1,s.cells))(Q:β j<=100000000)
  (E:∀c y,fG w y (j++[s]) c->(∀a,c5 c=γ a->c5 b8=γ a\/g a=η)->(∀a,c5 b8≠γ a->g a≠η->y a=g a)->u c y):mO 41 152 g b8 D (c7 u l):=by
 obtain⟨z,t,v⟩:=m;have F:∀G∈j++[s],β G.cells=41:=λG X=>by
  grind
 have L:flat (j++[s])=flat j++s.cells:=by simp[flat]
 have P:=dg t;unfold mO;rw[wX q];simp only[c7];have Y:∀(h k:Nat)(r:ύ),g h=η->β j+1<=k->k<=maxLen->β r=(k -(β j+1))*41->u (.ar h (β j+1) k 41) (g.set h (.cells (flat j++s.cells++r))):=λh k r S p hm Z=>by
  have T:=Ν z S;refine E _ _ ⟨ν z T,F,.inr ⟨h,[],r,k,T,?_,?_,hm,?_,.inl ⟨?_,rfl⟩⟩⟩ (λa o=>?_) λa o A=>?_
  .rw[ξ,L];rfl
  .simpa using p
  grind
  .rw[Ρ];rfl
  grind[c5,Option.some.injEq]
  .have:a≠h:=by rintro rfl;exact A S
   exact ο _ _ this
 rcases v with⟨rfl,B⟩|⟨d,b,post,f,V,W,k2,H,k3,I⟩
 .rcases B with rfl|rfl;simp_all;simp_all
 .have K:β j+1<=f->∃x,putAt (b++flat j++post) (β b+β j*41) s.cells=b++flat (j++[s])++x/\(β j+1)*41+β x=f*41:=λp=>by
   refine⟨post.drop 41,?_,by rw[a7F];omega⟩;have C:(b++flat j).length=β b+β j*41:=by simp_all
   rw[putAt,<-C,aal,<-a8p,aan,n,L];simp
  have e:∀c,c5 b8=γ d->c5 c=γ d->((c=.ar d (β j+1) f 41/\b=[])\/c=.bC d (β b) (β j+1) f 41)->β j+1<=f->u c (g.set d (.cells (putAt (b++flat j++post) (β b+β j*41) s.cells))):=λc i M N p=>by
   obtain⟨x,C,O⟩:=K p;rw[C];refine E _ _ ⟨ν z V,F,.inr ⟨d,b,x,f,V,ξ _ _ _,by simpa using p,H,by simpa using O,?_⟩⟩ (λa o=>.inl ?_) λa o _=>?_
   .simpa using N
   .rw[M]at o;rw[i];exact o
   .have:a≠d:=by rintro rfl;exact o i
    exact ο _ _ this
  rcases I with⟨rfl,rfl⟩|rfl
  .simp only[W];refine⟨trivial,by simp[P];omega,ε,ε,?_⟩;split
   .have:=e (.ar d (β j+1) f 41) rfl rfl (.inl ⟨rfl,rfl⟩) ‹_›;simpa using this
   simp_all
  .simp only[W];refine⟨trivial,by simp[P];omega,ε,ε,?_⟩;split
   .exact e (.bC d (β b) (β j+1) f 41) rfl rfl (.inr rfl) ‹_›
   simp_all
abbrev mj(a:Nat)(b c:Ω)(d f h:Own)(k:Nat)(o:R)(p r x:Int)(y:R):ύ:=
 [.ptr a 0,.J (ab b) d,.J (ab c) f,.v (.int .u8 0),.v (.int .i64 0),.J [] h,.v (.int .i64 1),.v (.bool κ),.v (.int .i64 (k:Int)),o,.v (.int .i64 p),.v (.int .i64 r),.v (.int .i64 x),y]
structure iD where
 eK:Nat
 az:Ω
 aE:Ω
 ff:Own
 dK:Own
 fe:Own
 d:Nat
structure dY(A:iD)(b c:U)(a:Nat)(us:ύ)(L:R)(es:ύ)(ib:R):Prop where
 dG:b a=η
 x:∃n kr d:Int,c a=γ (.cells (mj A.eK A.az A.aE A.ff A.dK A.fe A.d L n kr d ib))
 l:aq b c 1 us L
 w:fG b c es ib
 eg:c5 L≠γ a
 fg:c5 ib≠γ a
 lw:∀p,c5 L=γ p->c5 ib≠γ p
def dY.mono{c:iD}{d f h:U}{k:Nat}{o:ύ}{p:R}{r:ύ}{x:R}(a:dY c d f k o p r x)(b:f.sub h):dY c d h k o p r x:=
 ⟨a.dG,by obtain⟨y,z,C,a⟩:=a.x;exact⟨y,z,C,b _ _ a⟩,a.l.mono b,a.w.mono b,a.eg,a.fg,a.lw⟩
theorem dY.set{b:iD}{h k:U}{c:Nat}{o:ύ}{d:R}{p:ύ}{f:R}(a:dY b h k c o d p f)(r x y:Int):dY b h (k.set c (.cells (mj b.eK b.az b.aE b.ff b.dK b.fe b.d d r x y f))) c o d p f:=
 ⟨a.dG,⟨r,x,y,ξ _ _ _⟩,aq.other a.l a.dG a.eg,a.w.other a.dG a.fg,a.eg,a.fg,a.lw⟩
def aq.has(b:aq w g i j s)(a:c5 s=γ e):g e≠none:=by
 obtain⟨_,⟨_,rfl|rfl⟩|⟨d,f,h,k,rfl,_,c,_⟩⟩:=b
 .cases a
 .cases a
 .obtain rfl:=Δ a;rw[c];simp
def fG.has(a:fG w g j s)(b:c5 s=γ e):g e≠none:=by
 obtain⟨_,_,⟨_,rfl|rfl⟩|⟨d,f,post,h,_,c,_,_,_,⟨rfl,_⟩|rfl⟩⟩:=a
 .cases b
 .cases b
 all_goals (obtain rfl:=Δ b;rw[c];exact λa=>by cases a)
def aq.fW(c:aq g h7 e j s)(d:g.sub w)(f:∀a,c5 s=γ a->w a=h7 a):aq g w e j s:=by obtain⟨z,h⟩:=c;refine⟨d,h.imp_right ?_⟩;rintro⟨b,k,o,p,rfl,r,x,y⟩;exact⟨b,k,o,p,rfl,r,(f b rfl).trans x,y⟩
structure GS(A:iD)(a:U)(b:Nat)(L ib:R)(q:Nat):Prop where
 n:a q=η
 x:q≠b
 l:c5 L≠γ q
 w:c5 ib≠γ q
def dY.fresh{d:iD}(a:dY d g w e j s B b8)(b:w i=η):GS d g e s b8 i:=
 ⟨Ν a.l.1 b,(by obtain⟨_,_,_,f⟩:=a.x;rintro rfl;rw[b]at f;cases f),(λc=>aq.has a.l c b),λc=>a.w.has c b⟩
def dY.wr{c:iD}(a:dY c g w e j s B b8)(b:GS c g e s b8 i)(d:bq):dY c g (w.set i d) e j s B b8:=
 ⟨a.dG,(by obtain⟨f,h,k,o⟩:=a.x;exact⟨f,h,k,(ο _ _ b.x.symm).trans o⟩),aq.other a.l b.n b.l,a.w.other b.n b.w,a.eg,a.fg,a.lw⟩
def lv(o:β j=37)(a b c d:R):(j++[a,b,c,d]).length=41/\(j++[a,b,c,d]).take 41=j++[a,b,c,d]/\(∀f k,putAt (j++[a,b,c,d]) 37 [f,k]=j++[f,k,c,d])/\(∀f,putAt (j++[a,b,c,d]) 39 [f]=j++[a,b,f,d])/\∀f,putAt (j++[a,b,c,d]) 40 [f]=j++[a,b,c,f]:=by
 have p:∀h,(j++[a,b,c,d]).take (37+h)=j++[a,b,c,d].take h:=λh=>by rw[aaI,o,a7x ε,aac]
 have r:∀h,(j++[a,b,c,d]).drop (37+h)=[a,b,c,d].drop h:=λh=>by rw[a9m,o,a8k ε,a7T,aac]
 have x:(j++[a,b,c,d]).length=41:=by rw[Ρ,o];rfl
 refine⟨x,a7x ε,λf k=>?_,λf=>?_,λf=>?_⟩
 .show(j++[a,b,c,d]).take (37+0)++[f,k]++(j++[a,b,c,d]).drop (37+2)= _;rw[p,r];simp
 .show(j++[a,b,c,d]).take (37+2)++[f]++(j++[a,b,c,d]).drop (37+3)= _;rw[p,r];simp
 .show(j++[a,b,c,d]).take (37+3)++[f]++(j++[a,b,c,d]).drop (37+4)= _;rw[p,r];simp
abbrev zW:ύ:=θ 32 (R.v (.int .u8 0))++[.J [] .nil,.J [] .nil]++[.v (.int .i64 0),.v (.int .i64 0)]++[.J [] .nil]++[.v (.int .u64 0),.v (.int .u64 0)]++[.v (.int .i64 0),.v (.int .i64 0)]
def GU(a:β j=37):putAt zW 0 j=j++[.v (.int .u64 0),.v (.int .u64 0),.v (.int .i64 0),.v (.int .i64 0)]:=by rw[putAt,a];rfl
theorem GV(a:iD)(k3 W:U)(c:Nat)(k4:ύ)(e:R)(y:ύ)(u:R)(z:dY a k3 W c k4 e y u)(b:aj)(C D E:Own)(v:β b.sum=32)(a02:b.cL)(a61:β a.az<=8)(a62:β y<=100000000):
  AC δ 43 [.ptr c 0,.agg (ag b C D E)] W λ_ k5=>∃a03 w,dY a k3 k5 c k4 e w a03/\if dE a.az a.aE b=ζ then∃k6,nd b k6/\w=y++[k6]else w=y:=by
 obtain⟨g,i,f,A⟩:=z.x;have a04:=(aV (a7:=C) (h5:=D) (j1:=E) v).all;refine aM hm Cv ?_;refine bg λj a05=>?_;have k7:j≠c:=by rintro rfl;rw[a05]at A;cases A
 have a63:=k7.symm;rw[ft];generalize B:W.set j _=F;have k8:W.sub F:=by subst B;exact aK
 have cl:F j=γ (.cells (ag b C D E)):=by subst B;exact ξ _ _ _
 have k9:=z.mono k8;have H:=k8 _ _ A;clear B;generalize I:ag b C D E=G at*;have a06:=μ cl;have dV:=μ H;have a07:=ω H;refine aa ?_;rw[<-I];refine aP (a2F a.az a.aE _ _ _ _ _ _ b v ε F) ?_;rw[I];refine ay (λK=>?_) λK=>?_;grind;have a65:bj .add (.int .i64 f) (.int .i64 1)=γ (.int .i64 (IntKind.i64.wrap (f+1))):=rfl;obtain⟨a68,a69⟩:=z.w.len;have a71:=eG z.l;have p:=a04.1;have a08:=GU p;obtain⟨a09,_,_,_,M⟩:=lv p (.v (.int .u64 0)) (.v (.int .u64 0)) (.v (.int .i64 0)) (.v (.int .i64 0));have M:=M (.v (.int .i64 (IntKind.i64.wrap (f+1))));have a10:=(lv p (.v (.int .u64 0)) (.v (.int .u64 0)) (.v (.int .i64 0)) (.v (.int .i64 (IntKind.i64.wrap (f+1))))).1;have a73:=(lv p (.v (.int .u64 0)) (.v (.int .u64 0)) (.v (.int .i64 0)) (.v (.int .i64 (IntKind.i64.wrap (f+1))))).2.1;generalize l:R.v (.int .i64 (IntKind.i64.wrap (f+1)))=T at*;generalize a74:G++[R.v (.int .u64 0),.v (.int .u64 0),.v (.int .i64 0),.v (.int .i64 0)]=a81 at*;generalize a11:G++[R.v (.int .u64 0),.v (.int .u64 0),.v (.int .i64 0),T]=L at*;have a83:T.cells=[T]:=by subst l;rfl
 refine aa ?_;have m:=k9.set g i (IntKind.i64.wrap (f+1));simp only[mj,l]at m;refine aR λr k=>?_;have a13:=m.fresh k;have a14:j≠r:=by rintro rfl;rw[ο _ _ k7,cl]at k;cases k
 have a84:=a14.symm;have l0:c≠r:=by rintro rfl;rw[ξ]at k;cases k
 have a86:=l0.symm;refine aa ?_;have hm:gS a.az a.aE b.az b.aE=true:=by rw[dE,Κ]at K;exact K.2
 obtain⟨l1,a15⟩:=vN hm;have l2:=ξ F c (.cells [.ptr a.eK 0,.J (ab a.az) a.ff,.J (ab a.aE) a.dK,.v (.int .u8 0),.v (.int .i64 0),.J [] a.fe,.v (.int .i64 1),.v (.bool κ),.v (.int .i64 (a.d)),e,.v (.int .i64 g),.v (.int .i64 i),T,u]);generalize F.set c _=l3 at*;have l4:=m.mono (ν (b0:=.cells L) ι k);have l5:=ν (b0:=.cells L) ι k _ _ l2;have l6:=ξ l3 r (.cells L);generalize l3.set r _=a88 at*;clear l2 k m dV a07 H k9 cl a06 z a08 a09 M a10;refine gs (vI _ a.az a.aE b.az b.aE _ _ _ _ ε) λa16 n=>?_;refine aR λN o=>?_;have a18:=l4.mono (π n (ν (b0:=.cells [.J (ab (dD a.az a.aE b.az b.aE).1) .any,.J (ab (dD a.az a.aE b.az b.aE).2) .any]) ι o));have q:=n _ _ l5;have s:=n _ _ l6;have l7:c≠N:=by rintro rfl;rw[q]at o;cases o
 have a19:=l7.symm;have l8:r≠N:=by rintro rfl;rw[s]at o;cases o
 have a27:=l8.symm;have a29:=μ q;have a30:=μ s;refine aa ?_;generalize a89:(dD a.az a.aE b.az b.aE).1=P at*;generalize (dD a.az a.aE b.az b.aE).2=O at*;have l9:=ν (b0:=.cells [.J (ab P) .any,.J (ab O) .any]) ι o _ _ q;have a34:=ν (b0:=.cells [.J (ab P) .any,.J (ab O) .any]) ι o _ _ s;generalize a16.set N _=Q at*;refine aP (Gv a.fe _ _ P O Q l1) ?_;obtain⟨x,a36⟩:∃X,mi (P.getD 0 0)=X:=⟨_,rfl⟩;obtain⟨id,a38⟩:∃X,P.getD 0 0=X:=⟨_,rfl⟩;rw[a38]at a36;clear a29 a30 o l7 l8 a19 a27 q s n l5 l6 l4 l1 a15;have a90:=ω a34;have a92:=μ l9;have a94:β L=41:=by grind
 have a95:putAt L 37 [.v (.int .u64 0),.v (.int .u64 (x))]=G++[.v (.int .u64 0),.v (.int .u64 (x)),.v (.int .i64 0),T]:=by subst a11;exact(lv p _ _ _ _).2.2.1 _ _
 obtain⟨a96,_,_,n0,_⟩:=lv p (.v (.int .u64 0)) (.v (.int .u64 (x))) (.v (.int .i64 0)) T;have n0:=n0 (.v (.int .i64 id));obtain⟨n2,a97,_⟩:=lv p (.v (.int .u64 0)) (.v (.int .u64 (x))) (.v (.int .i64 id)) T;generalize G++[R.v (.int .u64 0),.v (.int .u64 (x)),.v (.int .i64 0),T]=a98 at*;generalize a42:G++[R.v (.int .u64 0),.v (.int .u64 (x)),.v (.int .i64 id),T]=h at*;refine aa ?_;have a43:=a18.wr a13 (.cells h);have a47:(Q.set r (.cells h)) c=γ (.cells [.ptr a.eK 0,.J (ab a.az) a.ff,.J (ab a.aE) a.dK,.v (.int .u8 0),.v (.int .i64 0),.J [] a.fe,.v (.int .i64 1),.v (.bool κ),.v (.int .i64 (a.d)),e,.v (.int .i64 g),.v (.int .i64 i),T,u]):=(ο _ _ l0).trans l9;generalize Q.set r _=n3 at*;refine gY (by simp[ba,ft,n2]) σ λY n4=>?_;have d:=a43.mono (ν (b0:=.cells (flat [R.agg h])) ι n4);have t:=ν (b0:=.cells (flat [R.agg h])) ι n4 _ _ a47;have a48:c8 (n3.set Y (.cells (flat [R.agg h]))) 41 (.ar Y 1 1 41)=γ (1,(R.agg h).cells):=by simp_all [flat,μ,ξ,ft,c8]
 generalize n3.set Y _=a52 at*;have dV:=μ t;refine aa ?_;refine fG.app (s:=.agg h) d.w n2 a48 ε λn5 k5 Z n9 a00=>?_;have a56:=(a00 c d.fg (by rw[t];simp)).trans t;have a99:=ω a56;have b00:=Z.len.2;refine aa ?_;have a57:a52 c≠none:=by rw[t];simp
 have a01:c5 n5≠γ c:=λk2=>(n9 c k2).elim d.fg a57;refine⟨_,ι,n5,y++[.agg h],⟨d.dG,⟨g,i,IntKind.i64.wrap (f+1),by subst l;exact ξ _ _ _⟩,aq.other (aq.fW d.l Z.1 λS V=>a00 S (d.lw S V) (aq.has d.l V)) d.dG d.eg,Z.other d.dG a01,d.eg,a01,λS V k2=>(n9 S k2).elim (d.lw S V) (aq.has d.l V)⟩,.agg h,⟨v,a02,C,D,E,0,x,id,IntKind.i64.wrap (f+1),?_⟩,rfl⟩;subst l;subst a42;subst I;rfl
def aq.wide(o:aq w g e j s):∃k,aq k g e j s/\w.sub k/\k.sub g/\∀h b,g h=γ b->c5 s≠γ h->k h=γ b:=by
 obtain⟨p,r|⟨d,x,y,z,rfl,C,D⟩⟩:=o
 .exact⟨g,⟨ι,.inl r⟩,p,ι,λ_ _ o _=>o⟩
 .refine⟨g.del d,⟨λf b a=>?_,.inr ⟨d,x,y,z,rfl,U.iI _ _,D⟩⟩,λf b a=>?_,λf b a=>?_,λh b E F=>?_⟩
  .have c:f≠d:=by rintro rfl;rw[U.iI]at a;cases a
   rwa[U.eX _ c]at a
  .have c:f≠d:=by rintro rfl;rw[C]at a;cases a
   rw[U.eX _ c];exact p f b a
  .have c:f≠d:=by rintro rfl;rw[U.iI]at a;cases a
   rwa[U.eX _ c]at a
  .have c:h≠d:=by rintro rfl;exact F rfl
   rw[U.eX _ c];exact E
def aq.fresh(b:aq g w i j s)(a:c5 s=γ e):g e=none:=by
 obtain⟨_,⟨_,rfl|rfl⟩|⟨d,f,h,k,rfl,c,_⟩⟩:=b
 .cases a
 .cases a
 .obtain rfl:=Δ a;exact c
def fG.fW(f:fG g h7 j s)(h:g.sub w)(k:∀a b,c5 s=γ a->h7 a=γ b->w a=γ b):fG g w j s:=by obtain⟨F,o,p⟩:=f;refine⟨h,o,p.imp_right ?_⟩;rintro⟨c,r,post,x,y,z,C,D,E,d⟩;refine⟨c,r,post,x,y,k c _ ?_ z,C,D,E,d⟩;rcases d with⟨rfl,_⟩|rfl<;>rfl
theorem aw.flat{b:List Ω}{a:ύ}(f:aw isRow b a):flat a=a:=by
 induction a generalizing b with
 |nil=>rfl
 |cons k a ih=>
  match b,f with
  |c::b,⟨⟨d,h1⟩,h⟩=>subst h1;rw[show Go.bw.flat (R.J (ab c) d::a)=[R.J (ab c) d]++Go.bw.flat a from rfl,ih h];rfl
theorem a2N(a:iD)(n E:U)(x:Nat)(T:ύ)(k:List Ω)(F:R)(q:ύ)(G:R)(p:dY a n E x T F q G)(s:aw isRow k T)(n9:∀b∈k,β b=a.d)(Q:1<=a.d)(X:a.d<=8)(a00:β a.az=a.d)(a01:β k<=1)(b:Ω)(L:Bool)(c:Own)(a02:β b=a.d):
  AC δ 48 [.ptr x 0,.agg [.J (ab b) c,.v (.bool L)]] E λ_ Y=>∃t C Z,dY a n Y x t Z q G/\aw isRow C t/\if(L&&ed a.az a.aE b)=ζ then∃f,C=[f]/\(f=b\/f∈k)else C=k:=by
 obtain⟨k2,k3,k4,P⟩:=p.x;refine aM hm Cx ?_;refine bg λV k5=>?_;rw[ft];have k6:V≠x:=by rintro rfl;rw[k5]at P;cases P
 have a03:=k6.symm;generalize W:E.set V _=D;have u:E.sub D:=by subst W;exact aK
 have cl:D V=γ (.cells [.J (ab b) c,.v (.bool L)]):=by subst W;exact ξ _ _ _
 have k7:=p.mono u;have e:=u _ _ P;clear W;have a04:=μ cl;have dV:=μ e;have a05:=ω e;cases L with
 |false=>refine aa ?_;grind
 |true=>
 refine aa ?_;refine aP (Gr D a.az a.aE b _ _ _ ε) ?_;refine ay (λk8=>?_) λk8=>?_;grind;refine gY (by simp[ba,τ]) σ λg v=>?_;have h:=k7.mono (ν (b0:=.cells (flat [R.J (ab b) c])) ι v);have w:=ν (b0:=.cells (flat [R.J (ab b) c])) ι v _ _ e;have k9:c8 (D.set g (.cells (flat [R.J (ab b) c]))) 1 (.ar g 1 1 1)=γ (1,[R.J (ab b) c]):=mU rfl;generalize D.set g _=A at*;have a06:=eG p.l;have B:=s.len;obtain⟨a07,l0,H,a08,i⟩:=aq.wide h.l;refine aa ?_;refine fN l0 ε k9 rfl (by simp[B];omega) (by simp[B];omega) λl1 I y=>?_;have j:=y.1 _ _ (i x _ w h.eg);have a09:=μ j;refine aa ?_;have l:aw isRow (k++[b]) (T++[.J (ab b) c]):=s.snoc ⟨c,rfl⟩;have l2:=bL.dq y ε l.flat.symm (l.cells λ_ _=>ρ);refine ak (a2D a.fe a.d Q X (k++[b]) _ l1 I l2 l (λa10 P=>?_) Ι σ) ?_;grind;rintro l3 l4⟨l5,C,o,K,M⟩;have l6:=M.1 _ _ j;have a11:=μ l6;refine aa ?_;refine ak (a2E a.az a.aE a.ff a.dK a.fe I l4 _ l3 M) ?_;rintro S l7 r;have a13:=eG r;have N:=r.1 _ _ j;have a14:=ω N;have a15:=μ N;refine aa ?_;rw[K.flat]at r;have l8:∀ {f c},A f=γ c->c5 F≠γ f->l7 f=γ c:=λp m=>r.1 _ _ (y.1 _ _ (i _ _ p m));have l9:=π H (π y.1 r.1);have n0:∀ {d},c5 S=γ d->∀ {c},A d=γ c->c5 F≠γ d->False:=λo _ p m=>by
  have:=aq.fresh r o;rw[y.1 _ _ (i _ _ p m)]at this;cases this
 have O:c5 S≠γ x:=λz=>n0 z w h.eg;have n2:∀d,c5 G=γ d->c5 F≠γ d:=λd o z=>h.lw d z o;have n3:∀d,c5 S=γ d->c5 G≠γ d:=λd o z=>by
  have a16:=h.w.has z;simp_all [ab1]
 have n4:C≠[]:=λz=>by simp_all
 obtain⟨f,a18,rfl⟩:=aaw n4;refine⟨_,ι,l5.take 1,[f],S,⟨h.dG,⟨k2,k3,k4,ξ _ _ _⟩,aq.other (r.base (π H y.1)) h.dG O,(fG.fW h.w l9 λd c o n5=>l8 n5 (n2 d o)).other h.dG h.fg,O,h.fg,n3⟩,K.take 1,f,rfl,?_⟩;have:f∈k++[b]:=o.mem_iff.1 σ;grind
theorem a2O(a:iD)(G o:U)(p:Nat)(y:ύ)(r:List Ω)(z:R)(L:ύ)(P:R)(C:dY a G o p y z L P)(x:aw isRow r y)(j:∀b∈r,β b=a.d)(H:a.d<=8)(I:β a.az=a.d)(c:aj)(d f h:Own)(S:β c.sum=32):
  AC δ 46 [.ptr p 0,.agg (ag c d f h)] o λb l=>dY a G l p y z L P/\∃T,b=.v (.bool T)/\(T=ζ->β r=1):=by
 obtain⟨K,M,N,D⟩:=C.x;have O:=(aV (a7:=d) (h5:=f) (j1:=h) S).all;have m:=x.len;obtain⟨Q,V,_,X⟩:=C.l.src;rw[a8m,m]at V;subst V;refine aM hm Cw ?_;refine bg λE n=>?_;rw[ft];have q:E≠p:=by rintro rfl;rw[n]at D;cases D
 have Y:=q.symm;generalize F:o.set E _=k;have W:o.sub k:=by subst F;exact aK
 have cl:k E=γ (.cells (ag c d f h)):=by subst F;exact ξ _ _ _
 have s:=C.mono W;have t:=W _ _ D;clear F;generalize u:ag c d f h=Z at*;have k2:=μ cl;have dV:=μ t;refine aa ?_;refine ay (λv=>?_) λv=>?_
 .obtain⟨b,rfl⟩:=a9C.1 (show β r=1 by omega);have w:=bL.dq s.l ε x.flat.symm (x.cells λ_ _=>ρ);obtain⟨_,A,e,rfl⟩:=x.get (i:=0) rfl;obtain⟨g,i,B⟩:=w.get 0 _ A;have i:cU 1 z (.v (.int .i64 0))=γ g:=i;have k3:cO κ 1 k g=γ (.J (ab b) e):=B.ld k ι κ 1 ε (by simp[τ]);have k4:=j b σ;have k5:((1:Nat):Int) - 1=0:=rfl;refine aa ?_;rw[<-u];refine aP (a2G a.az a.aE a.ff a.dK a.fe d f h e c b S ε ε k) ?_;grind
 grind
theorem dY.base{c:iD}{d f h:U}{k:Nat}{o:ύ}{p:R}{r:ύ}{x:R}(a:dY c f h k o p r x)(b:d.sub f):dY c d h k o p r x:=by refine⟨Ν b a.dG,a.x,a.l.base b,?_,a.eg,a.fg,a.lw⟩;obtain⟨y,z,C⟩:=a.w;refine⟨π b y,z,C.imp_right ?_⟩;rintro⟨D,E,post,F,G,L⟩;exact⟨D,E,post,F,Ν b G,L⟩
noncomputable def res (b:Nat->Prop) (c:U):U:=λa=>open Classical in if b a then η else c a
variable{k0:Nat -> Prop}
theorem nf(a:k0 e):res k0 g e=none:=if_pos a
theorem lx(a:¬k0 e):res k0 g e=g e:=if_neg a
theorem vP:(res k0 g).sub g:=λa b c=>by
 grind[nf,lx]
def zT(c:g.sub w):(res k0 g).sub (res k0 w):=λd f a=>by
 by_cases b:k0 d
 .rw[nf b]at a;cases a
 .rw[lx b]at a|-;exact c _ _ a
def aq.res{a:Nat->Prop}{c d:U}{f:Nat}{h:ύ}{b:R}(p:aq c d f h b)(r:∀k,c5 b=γ k->¬a k):aq (res a c) (res a d) f h b:=by obtain⟨x,y⟩:=p;refine⟨zT x,y.imp_right ?_⟩;rintro⟨o,z,C,D,rfl,E,F,G⟩;have:=r o rfl;exact⟨o,z,C,D,rfl,by rw[lx this];exact E,by rw[lx this];exact F,G⟩
def fr(b:Nat)(c d:R)(a:Nat):Prop:=a=b\/c5 c=γ a\/c5 d=γ a
def dY.wide{p:iD}(a:dY p w g e j s B b8):dY p (res (fr e s b8) g) g e j s B b8/\w.sub (res (fr e s b8) g):=by
 have y:w.sub (res (fr e s b8) g):=λz P b=>by
  have:¬fr e s b8 z:=by
   rintro(rfl|c|c)
   .rw[a.dG]at b;cases b
   .rw[aq.fresh a.l c]at b;cases b
   .obtain⟨_,_,⟨_,rfl|rfl⟩|⟨d,r,post,f,h,_,_,_,_,⟨rfl,_⟩|rfl⟩⟩:=a.w
    .cases c
    .cases c
    all_goals (obtain rfl:=Δ c;rw[h]at b;cases b)
  rw[lx this];exact a.l.1 _ _ b
 refine⟨⟨nf (.inl rfl),a.x,?_,?_,a.eg,a.fg,a.lw⟩,y⟩
 .obtain⟨_,k⟩:=a.l;refine⟨vP,k.imp_right ?_⟩;rintro⟨d,C,f,D,rfl,h,o⟩;exact⟨d,C,f,D,rfl,nf (.inr (.inl rfl)),o⟩
 .obtain⟨_,k,E⟩:=a.w;refine⟨vP,k,E.imp_right ?_⟩;rintro⟨d,r,post,f,h,o,F,G,L,x⟩;refine⟨d,r,post,f,nf (.inr (.inr ?_)),o,F,G,L,x⟩;rcases x with⟨rfl,_⟩|rfl<;>rfl
def dY.sort{p:iD}(a:dY p w g e B b8 j s)(n:j≠[]):∃b c post,g=W g b c post j/\jd 41 s b (β c) (β j)/\b≠e/\∀d,d.Perm j->dY p w (W g b c post d) e B b8 d s:=by
 obtain⟨D,E,⟨f,_⟩|⟨b,c,post,F,k,G,L,P,S,o⟩⟩:=a.w
 .trivial
 have r:c5 s=γ b:=by rcases o with⟨rfl,_⟩|rfl<;>rfl
 have x:b≠e:=by rintro rfl;exact a.fg r
 refine⟨b,c,post,(U.rC G).symm,⟨λy q=>?_,a.w.len.1,a.w.len.2⟩,x,λd h=>⟨a.dG,?_,?_,⟨ν D k,λf T=>E f (h.mem_iff.1 T),.inr ⟨b,c,post,F,k,ξ _ _ _,by rw[h.length_eq];exact L,P,by rw[h.length_eq];exact S,by rw[h.length_eq];exact o⟩⟩,a.eg,a.fg,a.lw⟩⟩
 .have z:(0)<=(y:Int):=ε;have C:(y:Int)<β j:=ε;rcases o with⟨rfl,rfl⟩|rfl
  .rw[iL z C,a8a,a7E,a7X]
  .rw[sT z C,a8a]
 .obtain⟨V,i,l,m⟩:=a.x;exact⟨V,i,l,(ο _ _ x.symm).trans m⟩
 .refine aq.other a.l k λf=>a.lw _ f r
theorem dY.tail{a:iD}{y:R}(f:dY a w g e B b8 (s::j) y):∃b,cc 41 y (γ (.v (.int .i64 1))) η η=γ b/\b.cells=[b]/\(∀o p r,dY a w (g.set e (.cells (mj a.eK a.az a.aE a.ff a.dK a.fe a.d b8 o p r b))) e B b8 j b)/\
  ∃c k,cU 41 y (.v (.int .i64 0))=γ (.ptr c k)/\cO ζ 37 g (.ptr c k)=γ (.agg (s.cells.take 37)):=by
 obtain⟨l,L,⟨m,_⟩|⟨c,h,post,d,n,P,S,M,q,D⟩⟩:=f.w
 .cases m
 have T:c5 y=γ c:=by rcases D with⟨rfl,_⟩|rfl<;>rfl
 have N:c≠e:=by rintro rfl;exact f.fg T
 have V:=L s σ;have t:flat (s::j)=s.cells++flat j:=rfl;rw[a7I]at S q D;have z:∀b:R,(c5 b=η\/c5 b=γ c)->((j=[]/\(b=.J [] .nil\/b=.J [] .zero))\/b=.bC c (h++s.cells).length (β j) (d - 1) 41)->∀o p r,dY a w (g.set e (.cells (mj a.eK a.az a.aE a.ff a.dK a.fe a.d b8 o p r b))) e B b8 j b:=λb u E o p r=>by
  have W:c5 b≠γ e:=λx=>by simp_all
  have v:fG w g j b:=by refine⟨l,λA H=>L A (by simp[H]),E.imp_right λE=>?_⟩;refine⟨c,h++s.cells,post,d - 1,n,?_,ε,ε,ε,.inr E⟩;rw[P,t];simp
  exact⟨f.dG,⟨o,p,r,ξ _ _ _⟩,aq.other f.l f.dG f.eg,v.other f.dG W,f.eg,W,λO I x=>by
   rcases u with F|F
   .rw[F]at x;cases x
   .rw[F]at x;obtain rfl:=Δ x;exact f.lw _ I T⟩
 have C:∀k,k=β h->cO ζ 37 g (.ptr c k)=γ (.agg (s.cells.take 37)):=λk K=>by
  subst K;have Q:=μ P;have X:β h+37<=(h++flat (s::j)++post).length:=by grind
  simp_all [cO,aX,a9f]
 rcases D with⟨rfl,rfl⟩|rfl
 .by_cases i:1<d
  .refine⟨.bC c (1*41) (β j+1 - 1) (d - 1) 41,gy (e:=1) ε S i,rfl,z _ (.inr rfl) (.inr ?_),c,0,?_,C 0 rfl⟩
   .simp[V]
   .exact iL ε ε
  .obtain rfl:d=1:=ε;have G:j=[]:=a7y ε;subst G;refine⟨.J [] .zero,td rfl,rfl,z _ (.inl rfl) (.inl ⟨rfl,.inr rfl⟩),c,0,?_,C 0 rfl⟩;rfl
 .by_cases i:1<d
  .refine⟨.bC c (β h+1*41) (β j+1 - 1) (d - 1) 41,?_,rfl,z _ (.inr rfl) (.inr ?_),c,β h,?_,C _ rfl⟩
   .have Y:(1)<=((β j+1:Nat):Int):=ε;have c2:((β j+1:Nat):Int)<=d:=ε;have aD:(1:Int)<d:=ε;simp_all [cc,cH,Go.bw.intOf]
   .simp[V]
   grind[sT]
  .obtain rfl:d=1:=ε;have G:j=[]:=a7y ε;subst G;refine⟨.J [] .zero,?_,rfl,z _ (.inl rfl) (.inl ⟨rfl,.inr rfl⟩),c,β h,?_,C _ rfl⟩
   .rfl
   rfl
section
variable(S:af)(d:Nat)(lo hi:Ω)
inductive ng:aj->aj->Prop
 |refl (k:aj):ng k k
 |step {k a b:aj}{n:bO} (h:di S d k=γ n) (hk:a∈n.kids) (c:dE lo hi a=ζ) (f:ng a b):ng k b
def og(f:aj)(a:Ω):Prop:=∃b c,ng S d lo hi f b/\di S d b=γ c/\(a,ζ)∈c.rows/\ed lo hi a=ζ
end
def cm(a:aj):Nat:=2*a.size.toNat - 1
theorem zU(d f:Ω)(c:Nat):∀(b:List aj),(∀a∈b,dE d f a=ζ->1<=a.size)->(∀a∈b,(c:Int)<=a.size)->c<=1->((((b.filter (dE d f)).map cm).sum:Nat):Int)+(β b:Int)*c<=2*(b.map aj.size).sum/\0<=(b.map aj.size).sum
 |[],_,_,_=>by simp
 |a::b,k,o,he=>by
  have ih:=zU d f c b (λa h=>k a (by simp[h])) (λa h=>o a (by simp[h])) he;have p:=k a σ;have r:=o a σ;rw[a9T,a7O,a8o,a7I];grind[Int.natCast_add,Int.add_mul,cm]
variable{A j6:aj}
theorem vQ(a:dE n b5 A=ζ):A.live≠0:=by rw[dE,Κ]at a;simp_all
variable{a7 h5 j1:Own}
def kv(a:β A.sum=32):putAt (θ 32 (R.v (.int .u8 0))++[R.J [] .nil,.J [] .nil]++[.v (.int .i64 0),.v (.int .i64 0)]++[.J [] .nil]) 0 (ag A a7 h5 j1)=ag A a7 h5 j1:=by have:=(aV (a7:=a7) (h5:=h5) (j1:=j1) a).len;rw[putAt,this];simp
variable{c0:bO}
def qn(a:ea e c0=ζ):∀b∈c0.kids,fl e b=true:=by simp only[ea,Κ,a7L]at a;exact a.1.2
def kx(b:fl e A=ζ):0<=A.size/\(A≠aG->1<=A.size)/\(A.live≠0->A≠aG):=by refine⟨(ry b).2.2.2.2.1,λa=>?_,λc a=>c (by rw[a];rfl)⟩;simp only[fl,decide_eq_false a,abC,Κ,a8V,abA,decide_eq_false_iff_not]at b;omega
variable{H:af}
theorem GW(k:di H e A=γ c0):((c0.kids.filter (dE n b5)).map cm).sum<cm A/\1<=A.size:=by
 have f:=o6 k;have y:A.size=β c0.rows+(c0.kids.map aj.size).sum:=f.size;have h:=f.ok;simp only[ea,Κ]at h;obtain⟨⟨_,c⟩,a⟩:=h;have c:=a7L.1 c;have d:∀A∈c0.kids,dE n b5 A=ζ->1<=A.size:=λA b d=>by
  obtain⟨_,o,p⟩:=kx (c A b);exact o (p (vQ d))
 have r:∀A∈c0.kids,((0:Nat))<=A.size:=λA b=>(kx (c A b)).1;have x:=zU n b5 0 c0.kids d r ε;rw[show(β c0.kids)*((0:Nat):Int)=0 from Int.mul_zero _]at x;have z:(cm A)=2*A.size - 1\/A.size<1:=by unfold cm;omega
 split at a;grind;split at a;grind;split at a
 .simp only[Κ,decide_eq_true_eq,a7L,a8V,decide_eq_false_iff_not]at a;have C:=zU n b5 1 c0.kids d (λA b=>(kx (c A b)).2.1 (a.2 A b).2) ε;omega
 .cases a
def zV(a:Nat)(f:a<=1):∀(b:List aj),(∀c∈b,(a:Int)<=c.size)->((b.map cm).sum:Int)+a*β b<=2*(b.map aj.size).sum
 |[],_=>by simp
 |c::b,d=>by
  have ih:=zV a f b λc h=>d c (by simp[h]);have k:=d c σ;rw[a7O,a7O,a8o,a8o,a7I];rcases(by omega:a=0\/a=1)with rfl|rfl<;>simp only[cm]at* <;>omega
theorem GX(h:di H e A=γ c0):(c0.kids.map cm).sum<cm A/\1<=A.size/\∀k∈c0.kids,fl e k=true:=by
 have f:=o6 h;have o:A.size=β c0.rows+(c0.kids.map aj.size).sum:=f.size;have c:=f.ok;have d:=qn c;simp only[ea,Κ]at c;obtain⟨⟨_,p⟩,a⟩:=c;have r:=zV 0 ε c0.kids λA b=>(kx (d A b)).1;have x:(cm A)=2*A.size - 1\/A.size<1:=by unfold cm;omega
 refine⟨?_,?_,d⟩
 all_goals
  split at a
  .grind
  split at a
  .grind
  split at a
  .simp only[Κ,decide_eq_true_eq,a7L,a8V,decide_eq_false_iff_not]at a;have y:=zV 1 ε c0.kids λA b=>(kx (d A b)).2.1 (a.2 A b).2;omega
  .cases a
def ey(a:af)(b:Nat):Nat->aj->Option (List Ω)
 |0,_=>η
 |c+1,d=>if d.live=0 then γ []else match lp a b d with
  |none=>η
  |some (f,bF)=>match ey a b c (bF.getD 0 aG),ey a b c (bF.getD 1 aG)with
   |some h,γ k=>γ ((if f.2=ζ then [f.1]else [])++h++k)
   |_,_=>η
def vR{d:Ω×Bool}{k:List aj}(a:lp H e A=γ (d,k)):∃b c,k=[b,c]/\di H e A=γ (cD d b c)/\A.size=1+b.size+c.size/\0<=b.size/\0<=c.size/\β d.1=e/\A.size<=1048576:=by
 unfold lp at a;split at a
 .cases a
 rename_i x f;split at a
 .rename_i o;simp only[a7G,a8Q]at a;obtain⟨rfl,rfl⟩:=a;have h:=Gj f;obtain⟨y,z,D⟩:=Gk h o;have p:=o6 f;obtain⟨E,rows,kids⟩:=x
  dsimp only at*
  obtain⟨d,rfl⟩:=a9C.1 y
  match kids,z with
  |[b,c],_=>have C:=p.size;have r:=qn h;subst o;simp only[a8M,a7O,a8R,a8o,aa6]at C;refine⟨b,c,rfl,f,ε,(kx (r b σ)).1,(kx (r c σ)).1,(iR h).1 _ σ,p.q0⟩
 .cases a
theorem rU{h:af}{d:Nat}:∀ {f:Nat}{c:aj}{b:List Ω},ey h d f c=γ b->(β b:Int)<=max 0 c.size/\∀k∈b,β k=d
 |0,_,_,a=>by cases a
 |f+1,c,b,a=>by
  rw[ey]at a;split at a;grind;split at a
  .cases a
  rename_i x y o;split at a
  .rename_i z C p r;obtain rfl:=Δ a;obtain⟨D,E,rfl,_,F,G,L,P,_⟩:=vR o;have S:=rU p;have T:=rU r;grind
  .cases a
theorem zX(G A:Nat)(f:af)(c:Nat)(k3:1<=c)(k4:c<=8):∀(d:Nat)(y:U)(_:bz y G A f)(o:aj)(L P S:Own),β o.sum=32->o.cL->o.size.toNat<d->
  AC δ 63 [ej G c,.agg (ag o L P S)] y λi z=>y.sub z/\match ey f c d o with
   |none=>i=.aJ [.J [] .nil,.v (.int .i64 21)]
   |some rows=>∃h p,i=.aJ [p,.v (.int .i64 0)]/\aq y z 1 h p/\aw isRow rows h
 |0,_,_,_,_,_,_,_,_,E=>by omega
 |d+1,y,k5,o,L,P,S,gT,n4,a38=>by
  have a42:=(aV (a7:=L) (h5:=P) (j1:=S) gT).all;refine aM hm O2 ?_;refine bg λj a43=>?_;refine cy λk6 a47 a48 a52=>?_;generalize l:(y.set j _).set k6 _=m;have C:y.sub m:=by subst l;exact aK
  have c2:m j=γ (.cells [.ptr G 0,.v (.int .i64 (c))]):=by subst l;exact aK
  have aD:m k6=γ (.cells (ag o L P S)):=by subst l;exact aK
  clear l;rw[ey];have a56:=μ c2;have a57:=μ aD;refine ay (λn=>?_) λn=>?_
  .exact⟨_,ι,C,[],.J [] .nil,rfl,aq.nil C,trivial⟩
  rw[if_neg n];refine ak (zt m G A f (k5.mono C) o L P S gT n4 c k3 k4) ?_;rintro i k7⟨F,q⟩;cases B:lp f c o with
  |none=>rw[B]at q;obtain rfl:=q;refine aa ?_;refine aR λs T=>?_;refine aa ?_;exact ν (π C F) (Ν (π C F) T)
  |some n5=>
   obtain⟨b,a61⟩:=n5;rw[B]at q;obtain⟨r,n9,rfl,a62,a63,k8,H⟩:=q;obtain⟨k,ct,rfl,a65,a68,a69,a71,a73,a74⟩:=vR B;have a81:=eG k8;have t:=bL.dq k8 ε rfl (H.cells λ_ _=>Ξ);have I:=t.len;rw[H.len]at I;have I:gX n9=γ (.v (.int .i64 2)):=I;refine aa ?_;refine aR λs T=>?_;have k9:=F _ _ c2;have a00:j≠s:=by rintro rfl;rw[k9]at T;cases T
   have a83:=a00.symm;have u:=ν (b0:=.cells [.J (ab b.1) r,.v (.bool b.2)]) (ι) T;have bt:=ξ k7 s (.cells [.J (ab b.1) r,.v (.bool b.2)]);refine aa ?_;rw[υ];have a01:=u _ _ k9;have t:=t.mono u;have K:=π C (π F u);have a02:=(k5.mono C).mono (π F u);generalize k7.set s _=M at*;have a84:=μ bt;refine nT [2,7] (λp:R=>[(9,p)]) (λp z=>M.sub z/\∃h,aq M z 1 h p/\aw isRow (if b.2=ζ then [b.1]else []) h) (λa03=>?_) (λa03=>?_) ?_
   .refine aa ?_;refine gY (by simp[ba,τ]) σ λa86 a04=>?_;refine aa ?_;refine fN (aq.nil (ν ι a04)) ε (mU rfl) rfl (by simp[flat,τ]) (by simp[flat,τ]) λa05 a06 l0=>?_;refine aa ?_;exact⟨a05,⟨l0.1,_,l0,⟨⟨r,rfl⟩,trivial⟩⟩,rfl⟩
   .refine aa ?_;exact⟨_,⟨[],aq.nil ι,trivial⟩,rfl⟩
   rintro p a06⟨a88,h,a07,l1⟩a89;refine aa ?_;obtain⟨own,l2⟩:∃own,(if b.2=ζ then [b.1]else [])=own:=⟨_,rfl⟩;have a90:β own<=1:=by subst l2;split<;>simp
   rw[l2]at l1
   let ac:Nat->List Ω:=λa=>own++(if 0<a then(ey f c d k).getD []else [])++(if 1<a then(ey f c d ct).getD []else []);refine ck [2,34,35] (λb:Nat×R=>[(36,.v (.int .i64 (b.1))),(9,b.2)]) (λb z=>b.1<=2/\(∃h,aq M z 1 h b.2/\aw isRow (ac b.1) h)/\(0<b.1->(ey f c d k).isSome=ζ)/\(1<b.1->(ey f c d ct).isSome=ζ)) (λb=>2 - b.1) (0,p) ⟨⟨ε,⟨h,a07,by simpa[ac] using l1⟩,λE=>absurd E (Nat.lt_irrefl 0),λE=>absurd E ε⟩,aK⟩ ?_;rintro⟨a,a08⟩ l3 ⟨a09,⟨a10,x,N⟩,O,l4⟩ a92
   dsimp only at a09 x N O l4
   refine aa ?_;refine ay (λn=>?_) λn=>?_
   .have a94:a<2:=ε;obtain⟨_,Q,v,l5,V,W,e,rfl⟩:=H.get (i:=a) (x:=[k,ct].getD a aG) (by simp_all);obtain⟨a11,a95,l6⟩:=t.get a _ Q;have l7:=(aV (a7:=V) (h5:=W) (j1:=e) v).all;have a13:cO ζ 37 l3 a11=γ (.agg (ag ([k,ct].getD a aG) V W e)):=by have:=l6.ld l3 x.1 ζ 37 ε (by rw[ft];omega);rw[this,aX,if_pos rfl,ft,l7.2.1]
    have a14:=kv (a7:=V) (h5:=W) (j1:=e) v;have l8:([k,ct].getD a aG).size.toNat<d:=by
     obtain rfl|rfl:a=0\/a=1:=ε
     .show k.size.toNat<d;omega
     .show ct.size.toNat<d;omega
    obtain⟨D,X⟩:∃D,[k,ct].getD a aG=D:=⟨_,rfl⟩;rw[X]at Q v l5 l7 a13 a14 l8;clear l6 Q;refine aa ?_;refine aR λa15 Y=>?_;have l9:=x.1 _ _ a01;have a16:j≠a15:=by rintro rfl;rw[l9]at Y;cases Y
    have a96:=a16.symm;have Z:=ν (b0:=.cells (ag D V W e)) (ι) Y;have a97:=μ l9;refine aa ?_;refine ak (zX G A f c k3 k4 d _ (a02.mono (π x.1 Z)) D V W e v l5 l8) ?_;rintro i a98⟨n0,w⟩;have a18:ey f c d D=if a=0 then ey f c d k else ey f c d ct:=by
     rw[<-X];obtain rfl|rfl:a=0\/a=1:=ε
     .rfl
     .rfl
    cases k2:ey f c d D with
    |none=>rw[k2]at w;obtain rfl:=w;refine aa ?_;refine⟨_,ι,π K (π x.1 (π Z n0)),?_⟩;grind
    |some iP=>
     rw[k2]at w a18;obtain⟨a99,b00,rfl,n2,n3⟩:=w;obtain⟨b01,a19,a27,b02⟩:=n2.src;have b03:=eG n2;have a29:=x.mono (π Z n0);have b04:=N.len;have b05:=n3.len;have b06:=(rU k2).1;have b07:(ac a).length<=3000000:=by
      have:∀r:Option (List Ω),(∀g,r=γ g->β g<=1048576)->(r.getD []).length<=1048576:=λr E=>by
       cases r with
       |none=>simp
       |some g=>exact E g rfl
      have F:=this (ey f c d k) λg a30=>by have:=(rU a30).1;omega
      grind
     have b08:D.size<=1048576:=by
      rw[<-X];obtain rfl|rfl:a=0\/a=1:=ε
      .show k.size<= _;omega
      .show ct.size<= _;omega
     refine aa ?_;refine fN a29 ε a27 a19 ε ε λa34 b09 a36=>?_;refine aa ?_;refine⟨(a+1,a34),⟨by dsimp only;omega,⟨_,a36,?_⟩,?_,?_⟩,⟨rfl,rfl⟩,by dsimp only;omega⟩
     .have:ac (a+1)=ac a++iP:=by grind
      rw[this];exact N.append n3
     .intro _;obtain rfl|rfl:a=0\/a=1:=ε;grind
      .exact O ε
     grind
   .obtain rfl:a=2:=ε;obtain⟨b10,b11⟩:=a8i.1 (O ε);obtain⟨b12,b13⟩:=a8i.1 (l4 ε);refine aa ?_;refine⟨_,ι,π K x.1,?_⟩;refine⟨a10,a08,rfl,x.base K,?_⟩;grind
end Go.Proofs.YtgchlmdfldnhnaaGreat
namespace Go.bw
open Go
def View.freeze{a:U}{b:R}{c:Nat}{d:ύ}(h:a c=γ (.cells d)):View a b (a.set c (.ro d)) b:=λr x v k o=>by
 obtain⟨p,f⟩:=Step.freeze k h;exact⟨p,f,o.mono f.le⟩
variable{g w h7:U}{j B b7:ύ}{e i t I b3 e5:Nat}
def View.GY(b:g t=γ (.ro j))(c:e*i<=β j):View g (.ar t e I i) g (.J (eZ i e j) .any):=λd h v a f=>⟨d,.refl a,aW.frozen a b c f⟩
variable{m j4:World}
theorem aW.frozenAt{b:bf}{v:Value}(h:Holds b g m)(k:g t=γ (.ro j))(S:e+i<=β j)(o:aW b v (.bC t e i I 1)):aW b v (.J ((j.drop e).take i) .any):=by
 obtain⟨p,r,T,V,W,f,l⟩:=h.dN t _ k;have n:=f.1;cases o with
 |bC t e i I q hk x=>
  have y:∀c∈j.drop e,c.one=true:=λc z=>p c (a7U z);obtain⟨C,D,E⟩:=x4 (i:=i) ε (by rw[a7F];omega) y;rw[ki,a8m]at*;by_cases F:i=0
  .subst F;rw[a9o];exact .dk _ _ _ (λG=>by cases G) trivial
  .refine .J t e i I 1 (λa=>r.getD (e+a) Go.undef) _ .any hk E.symm x C ?_ ?_ ?_ trivial;grind;grind
   .intro a L d;rw[D]at d;have P:a<i:=by grind
    rw[a8y P,aae]at d;exact f.2 (e+a) L d
def View.a2P(b:g t=γ (.ro j))(c:e+i<=β j):View g (.bC t e i I 1) g (.J ((j.drop e).take i) .any):=λd h v a f=>⟨d,.refl a,aW.frozenAt a b c f⟩
end Go.bw
namespace Go.Proofs.YtgchlmdfldnhnaaGreat
open Go Go.bw
theorem a2Q(o:List Ω)(a:ύ)(c:Own)(b:U)(d:aw isRow o a)(E:β o<=4000000):
  AC δ 253 [.J a c] b λp f=>aq b f 1 a p:=by
 have F:=d.len;refine oO λG=>?_;have r:c=.nil->a=[]:=λh=>by subst h;simp_all
 refine bh hm T7 σ ?_;simp -dsimp -implicitDefEqProofs (disch:=first|omega|assumption|(simp only[bd,Nat.reduceAdd];try omega)) only[go_sem,simprocAttr,↓oT];refine oU (λk=>by rw[r k]) (λk=>?_) ?_
 .have x:a=[]:=by trivial
  subst x;simp -dsimp -implicitDefEqProofs (disch:=first|omega|assumption|(simp only[bd,Nat.reduceAdd];try omega)) only[go_sem,simprocAttr,a8q];exact⟨b,ι,aq.nil ι⟩
 .simp -dsimp -implicitDefEqProofs (disch:=first|omega|assumption|(simp only[bd,Nat.reduceAdd];try omega)) only[go_sem,simprocAttr,tb];have y:c8 b 1 (.J a c)=γ (β a,a):=by have z:=d.flat;have C:=a7L.2 λh D=>decide_eq_true (d.cells (λ_ _=>ρ) h D);simp only[c8,C,if_true,z]
  refine fN (aq.zero (ι)) ε y ε Ι Ι λp f k=>?_;simp -dsimp -implicitDefEqProofs (disch:=first|omega|assumption|(simp only[bd,Nat.reduceAdd];try omega)) only[go_sem,simprocAttr];exact⟨f,ι,by trivial⟩
variable{s b8:R}{g w h7:U}{Q:List Ω}{j B b7:ύ}{e i t I b3 e5:Nat}
theorem GZ{x:Ω->Ω->Int}(l:oe e x){y:List Ω}(z:aq w h7 1 j s)(C:aw isRow Q j)(m:∀f∈Q,β f=e)(X:β Q<=4000000)(L:Q≠[])
  (P:y.Perm Q) (n:y.Pairwise (λs o=>¬x o s<0)) (p:FuncId) (D:ύ) (E:g.sub h7) (q:∀o,g o=η\/∃t,g o=γ (.ro t)) (u:gw δ p=ζ)
  (v:∀b F r A,β b=e->β F=e->AC δ p ([.J (ab b) r,.J (ab F) A]++D) g λf _=>f=.v (.int .i64 (x b F))):
  ∃c h,s=.ar c (β Q) h 1/\β Q<=h/\AC δ 64 [s,.bG p [] D] h7 λf k=>f=.aJ []/\w.sub k/\g.sub k/\∃d S,aw isRow y d/\k c=γ (.ro (d++S))/\aq w (k.set c (.cells (d++S))) 1 d s:=by
 obtain⟨c,B,h,T,rfl,G,H,I,V,K,W,M⟩:=z.ar (λY=>L (by have:=C.len;grind));rw[a8m]at I V K;have Z:=C.len;obtain rfl:B=β Q:=ε;have N:=a8l.2 L;refine⟨c,h,rfl,W,?_⟩;refine(a2M l H C rfl V ε N m P n p D E q u v).view λf k O=>?_;obtain⟨rfl,d,i,rfl⟩:=O;have k2:=i.len;have k3:=P.length_eq;refine⟨.aJ [],_,View.freeze (ξ _ _ _),rfl,?_,?_,d,T.drop (β Q),i,ξ _ _ _,?_⟩
 .rw[υ];intro b r a;have:b≠c:=by rintro rfl;rw[G]at a;cases a
  rw[ο _ _ this];exact z.1 _ _ a
 .rw[υ];intro b r a;have:b≠c:=by rintro rfl;have:=E _ _ a;grind
  rw[ο _ _ this];exact E _ _ a
 .rw[υ,υ];refine⟨λb r a=>?_,.inr ⟨c,β Q,h,d++T.drop (β Q),rfl,G,ξ _ _ _,?_,?_,?_,W,M⟩⟩
  .have:b≠c:=by rintro rfl;rw[G]at a;cases a
   rw[ο _ _ this];exact z.1 _ _ a
  simp_all;simp_all
  .omega
end Go.Proofs.YtgchlmdfldnhnaaGreat
namespace Go.bw
open Go
variable{u b2:R -> U -> Prop}{b9:FuncId}{g w h7:U}{j B b7:ύ}{e i t I b3 e5:Nat}{q:Program}
def AC.fz(b:g e=γ (.cells B))(c:AC q b9 j (g.set e (.ro B)) u):AC q b9 j g u:=
 c.pre λk o p d f=>by
  obtain⟨h,a⟩:=Step.freeze f b;exact⟨h,d.mono a.le,a⟩
def U.one(a:Nat)(b:bq):U:=λc=>if c=a then γ b else η
variable{b0:bq}
def U.a2R:U.one e b0 e=γ b0:=by simp[U.one]
theorem U.one_sub(b:g e=γ b0):(U.one e b0).sub g:=λc d a=>by
 unfold U.one at a;simp_all
theorem U.a2S:∀a,U.one e (.ro j) a=η\/∃b,U.one e (.ro j) a=γ (.ro b):=λa=>by
 unfold U.one;grind
end Go.bw
namespace Go.Proofs.YtgchlmdfldnhnaaGreat
open Go Go.bw
variable{s b8:R}{g w h7:U}{Q:List Ω}{j B b7:ύ}{e i t I b3 e5:Nat}
theorem a2T{h:List Ω}(k:aq w h7 1 j s)(x:h7.sub g)(y:aw isRow Q j)(z:∀a∈Q,β a=t)(C:β Q<=4000000)(D:Q≠[])(v:e<t)(A:t<=8)
  (E:h.Perm Q) (F:h.Pairwise (λs G=>¬cM e G s<0)) (L:g i=γ (.cells [.v (.int .i64 (e:Int))])) (o:h7 i=η):
  ∃b d,s=.ar b (β Q) d 1/\β Q<=d/\AC δ 64 [s,.bG 280 [] [.ptr i 0]] g λa c=>a=.aJ []/\w.sub c/\∃f p,aw isRow h f/\c b=γ (.ro (f++p))/\aq w (c.set b (.cells (f++p))) 1 f s:=by
 have P:=Ν k.1 o;have S:c5 s≠γ i:=λT=>aq.has k T o;have V:=aq.other (k.mono x) (o:=.ro [.v (.int .i64 (e))]) P S;obtain⟨b,d,rfl,W,l⟩:=GZ (qm t e) V y z C D E F 280 [.ptr i 0] (U.one_sub (ξ g i (.ro [.v (.int .i64 (e:Int))]))) U.a2S abY (λm n q u B H=>(Gb m n q u e _ i (by simp[U.read,U.a2R]) ε ε ε).mono λa c r=>r.2);refine⟨b,d,rfl,W,AC.fz L (l.mono λa c r=>?_)⟩;simp_all
def je(b:Nat):Nat->af->List Ω->Nat->Except Int aj×af
 |0,c,_,_=>(.ok aG,c)
 |k+1,c,a,dep=>if a=[]then(.ok aG,c)else
  match je b k c ((ew (dep%b) a).take (β a/2)) (dep+1)with
  |(.error d,f)=>(.error d,f)
  |(.ok o,f)=>match je b k f ((ew (dep%b) a).drop (β a/2+1)) (dep+1)with
   |(.error d,h)=>(.error d,h)
   |(.ok p,h)=>dL h b (cD ((ew (dep%b) a).getD (β a/2) [],ζ) o p)
def pg(f a:U)(b c:Nat)(d:Except Int aj×af)(h:R):Prop:=bz a b c d.2/\Ext b c f a/\hC d.1 h
theorem hC.z:hC (.ok aG) (.aJ [.agg (ag aG .nil .nil .nil),.v (.int .i64 0)]):=⟨bo,q9,_,_,_,rfl⟩
theorem pg.z{a b:U}{c d:Nat}{f:af}(k:bz a c d f)(h:a.sub b):pg a b c d (.ok aG,f) (.aJ [.agg (ag aG .nil .nil .nil),.v (.int .i64 0)]):=⟨k.mono h,Γ h,hC.z⟩
theorem H0(a c:Nat)(f:Nat)(h:Own)(k:Nat)(b:U)(d:af)(r:bz b a c d):
  AC δ 185 [ej a f,.J [] h,.v (.int .i64 (k:Int))] b λo p=>pg b p a c (.ok aG,d) o:=by
 refine aM hm CQ ?_;refine bg λx y=>?_;refine cy λz C D E=>?_;refine⟨_,ι,?_⟩;grind[cB,Λ,aV,bo,pg.z,ν,ι]
theorem zY(d z:Nat)(c:Nat)(i:1<=c)(j:c<=8):∀(h:Nat)(b:List Ω)(C:ύ)(F:Own)(dep:Nat)(p:U)(k:af),bz p d z k->aw isRow b C->(∀f∈b,β f=c)->β b<=h->h<=4000000->dep+h<=100000000->
  AC δ 185 [ej d c,.J C F,.v (.int .i64 (dep:Int))] p λf a29=>pg p a29 d z (je c h k b dep) f
 |0,b,C,F,dep,p,k,G,L,B,a30,_,_=>by
  obtain rfl:b=[]:=a7y ε;obtain rfl:C=[]:=a7y L.len;exact H0 d z c F dep p k G
 |h+1,b,C,F,dep,p,k,G,L,B,a30,b01,b02=>by
  have b03:=L.len;by_cases H:b=[]
  .subst H;obtain rfl:C=[]:=a7y L.len;rw[je,if_pos rfl];exact H0 d z c F dep p k G
  have b04:=a8l.2 H;have b05:¬(β b:Int)=0:=ε;have a34:=a9w dep i;have k2:=je.eq_2 c k b dep h;rw[if_neg H]at k2;generalize je c (h+1) k b dep=b06 at k2;obtain⟨l9,a36⟩:=tT (e:=dep%c) B;have b07:=qi (dep%c) b;have n0:=λf l=>B f (l9.mem_iff.1 l);generalize ew (dep%c) b=D at*;refine aM hm CQ ?_;refine bg λn2 a38=>?_;refine cy λm I b08 b09=>?_;generalize K:(p.set n2 _).set m _=M;have n3:p.sub M:=by subst K;exact aK
  have aD:M n2=γ (.cells [.ptr d 0,.v (.int .i64 (c))]):=by subst K;exact aK
  have bt:M m=γ (.cells (ag aG .nil .nil .nil)):=by subst K;rw[<-cB];exact aK
  clear K;have k3:=G.mono n3;refine ak (a2Q b C F M L ε) ?_;intro b10 a42 k4;refine aa ?_;have n4:=μ (k4.1 _ _ aD);refine aa ?_;refine ak (Gc d c dep i ε j a42) ?_;rintro _ b11⟨n5,b12,P,n9,rfl⟩;refine aa ?_;obtain⟨y,o,rfl,a43,a00⟩:=a2T k4 n5 L B ε H a34 j l9 a36 P n9;refine ak a00 ?_;rintro _ k5⟨rfl,n,E,k6,N,a01,a02⟩;have a03:=aq.fresh a02 rfl;clear a02;have b13:=N.len;have a47:=k3.mono n;have b14:=μ (n _ _ aD);clear a00 k4 P n9 n5 n4;have b15:(β b:Int).tdiv 2=((β b/2:Nat)):=rfl;have b16:cc 1 (.ar y (β b) o 1) η (γ (.v (.int .i64 ((β b/2:Nat))))) η=γ (.ar y (β b/2) o 1):=hQ ε;generalize b17:β b/2=a at*;have b18:a<β b:=ε;refine aa ?_;have b19:(E++k6).length=o\/True:=.inr trivial;have a48:(dep)+1=((dep+1:Nat):Int):=rfl;rw[a48];have a52:View k5 (.ar y a o 1) k5 (.J (E.take a) .any):=by have:=View.GY (e:=a) (I:=o) (i:=1) a01 (by rw[Ρ];omega);rwa[ki,a9f ε]at this
  refine ak (AC.o4 (j:=[ej d c]) a52 (zY d z c i j h (D.take a) (E.take a) .any (dep+1) k5 k a47 (N.take a) (λf l=>n0 f (a7J l)) (by rw[a7z];omega) ε ε)) ?_;rintro f a04⟨O,Q,k7⟩;generalize b20:je c h k (D.take a) (dep+1)=y1 at*;obtain⟨a56,a05⟩:=y1
  dsimp only at O k7
  have X:=G.cI a38;have r:=G.cI I;have Y:=k3.cI a03;have a06:=Q _ _ X.1 X.2 (n _ _ aD);have Z:=Q _ _ r.1 r.2 (n _ _ bt);have a57:=Q _ _ Y.1 Y.2 a01;have a07:=((Γ (π n3 n)).trans Q);cases a56 with
  |error a08=>
   obtain⟨k8,rfl⟩:=k7;refine aa ?_;refine aR λq x=>?_;have k9:q≠m:=by rintro rfl;rw[Z]at x;cases x
   have a61:=k9.symm;have a62:=(aV (a7:=.nil) (h5:=.nil) (j1:=.nil) bo).all;have a63:=kv (a7:=.nil) (h5:=.nil) (j1:=.nil) bo;refine aa ?_;have a65:=ω Z;have a68:=cT (a:=.nil) (b:=.nil) (c:=.nil) (a7:=.nil) (h5:=.nil) (j1:=.nil) bo bo;rw[cB];refine aa ?_;refine⟨_,ι,?_⟩;exact⟨(O.mono (ν ι x)).set r,(a07.trans (Γ (ν ι x))).ek I,k8,rfl⟩
  |ok l0=>
   obtain⟨l1,a69,s,t,u,rfl⟩:=k7;refine aa ?_;refine aR λq x=>?_;have k9:q≠m:=by rintro rfl;rw[Z]at x;cases x
   have a61:=k9.symm;have b21:=(aV (a7:=s) (h5:=t) (j1:=u) l1).all;have b22:=kv (a7:=s) (h5:=t) (j1:=u) l1;refine aa ?_;have S:=ν (b0:=.cells (ag l0 s t u)) (ι) x;have dz:=ξ a04 q (.cells (ag l0 s t u));have a71:=O.mono S;have n4:=μ (S _ _ a06);have a09:=S _ _ a57;have a73:=S _ _ Z;have a74:=S _ _ a06;have a81:=a07.trans (Γ S);rw[υ];generalize a04.set q _=l2 at*;have a10:∃v,cc 1 (.ar y (β b) o 1) (γ (.v (.int .i64 ((a:Int)+1)))) η η=γ v/\View l2 v l2 (.J (E.drop (a+1)) .any):=by
    by_cases P:a+1<o
    .refine⟨_,gy (e:=a+1) ε a43 P,?_⟩;rw[a8m];have:=View.a2P (e:=a+1) (i:=β b -(a+1)) (I:=o -(a+1)) a09 (by rw[Ρ];omega);grind
    .have a83:β b=o:=ε;have b23:a+1=β b:=ε;refine⟨_,by have:=td (i:=1) (I:=y) (e4:=.i64) a83;rw[show(a)+1=(β b:Int) by omega];exact this,?_⟩;rw[a8k ε];exact View.J
   obtain⟨l3,a10,a84⟩:=a10;refine aa ?_;refine ak (AC.o4 (j:=[ej d c]) a84 (zY d z c i j h (D.drop (a+1)) (E.drop (a+1)) .any (dep+1) l2 a05 a71 (N.drop (a+1)) (λf l=>n0 f (a7U l)) (by rw[a7F];omega) ε ε)) ?_;rintro f l4⟨l5,w,l6⟩;generalize b24:je c h a05 (D.drop (a+1)) (dep+1)=re at*;obtain⟨cG,yb⟩:=re
   dsimp only at l5 l6 k2
   have b25:=k3.cI a03;have a11:=O.cI x;have a86:=w _ _ X.1 X.2 a74;have l7:=w _ _ r.1 r.2 a73;have a88:=w _ _ Y.1 Y.2 a09;have a89:=w _ _ a11.1 a11.2 dz;have a13:=a81.trans w;cases cG with
   |error a08=>
    obtain⟨k8,rfl⟩:=l6;refine aa ?_;refine aR λA T=>?_;have a90:A≠m:=by rintro rfl;rw[l7]at T;cases T
    have b26:=a90.symm;have a62:=(aV (a7:=.nil) (h5:=.nil) (j1:=.nil) bo).all;have a63:=kv (a7:=.nil) (h5:=.nil) (j1:=.nil) bo;have a65:=ω l7;have a68:=cT (a:=.nil) (b:=.nil) (c:=.nil) (a7:=.nil) (h5:=.nil) (j1:=.nil) bo bo;refine aa ?_;rw[cB];refine aa ?_;refine⟨_,ι,?_⟩;exact⟨(l5.mono (ν ι T)).set r,(a13.trans (Γ (ν ι T))).ek I,k8,rfl⟩
   |ok ct=>
    obtain⟨l8,a92,V,W,e,rfl⟩:=l6;refine aa ?_;refine aR λA T=>?_;have b27:=(aV (a7:=V) (h5:=W) (j1:=e) l8).all;have b28:=kv (a7:=V) (h5:=W) (j1:=e) l8;refine aa ?_;rw[υ];have g:=ν (b0:=.cells (ag ct V W e)) (ι) T;have b29:=μ (ξ l4 A (.cells (ag ct V W e)));have a94:=l5.mono g;have b30:=μ (g _ _ a86);have b31:=μ (g _ _ a89);have b32:(l4.set A (.cells (ag ct V W e))).read y=γ (E++k6):=by have:=g _ _ a88;simp only[U.read,this]
    have a95:=g _ _ l7;have a96:=a13.trans (Γ g);generalize l4.set A _=a97 at*;obtain⟨_,a98,a14,rfl⟩:=N.get (i:=a) (x:=D.getD a []) (by simp_all);have b33:cU 1 (.ar y (β b) o 1) (.v (.int .i64 (a)))=γ (.ptr y (a*1)):=by grind[iL,Int.toNat_natCast]
    have b34:aX κ 1 (List.drop a (E++k6))=.J (ab (D.getD a [])) a14:=by obtain⟨a99,P⟩:=a7B.1 a98;rw[a9O ε,a8g a99,P];rfl
    refine aa ?_;refine ak (vB a97 d z yb a94 (D.getD a [],ζ) l0 ct a14 s t u V W e c i j l1 l8 a69 a92) ?_;rintro f b35⟨b00,a15,a16⟩;have b36:=ω (a15 _ _ r.1 r.2 a95);obtain⟨b37,a18,l3,a19,a08,a27,rfl⟩:=a16.shape;have b38:=(aV (a7:=a18) (h5:=l3) (j1:=a19) a27).all;have b39:=cT (a:=.nil) (b:=.nil) (c:=.nil) (a7:=a18) (h5:=l3) (j1:=a19) bo a27;have b40:=(aV (a7:=.nil) (h5:=.nil) (j1:=.nil) bo).len;refine aa ?_;refine⟨_,ι,?_⟩;exact⟨b00.set r,(a96.trans a15).ek I,a16⟩
def nh(a:af)(b:Nat)(c:aj)(f:Nat):Except Int aj×af:=
 match ey a b (c.size.toNat+1) c with
 |none=>(.error 21,a)
 |some d=>je b (β d) a d f
def H2(h:U)(d r:Nat)(c:af)(k:bz h d r c)(a:aj)(D E F:Own)(W:β a.sum=32)(A:a.cL)(b:Nat)(e:1<=b)(g:b<=8)(f:Nat)(Z:f<=10000000)(k2:a.size<=4000000):
  AC δ 114 [ej d b,.agg (ag a D E F),.v (.int .i64 (f:Int))] h λG B=>pg h B d r (nh c b a f) G:=by
 have k3:=(aV (a7:=D) (h5:=E) (j1:=F) W).all;have i:nh c b a f=match ey c b (a.size.toNat+1) a with
  |none=>(.error 21,c)
  |some o=>je b (β o) c o f:=rfl
 generalize nh c b a f=k4 at*;refine aM hm Pt ?_;refine bg λj k5=>?_;refine cy λH k6 k7 k8=>?_;refine gz λl x a3 a4 a5 dQ=>?_;generalize y:((h.set j _).set H _).set l _=z;have p:h.sub z:=by subst y;exact aK
 have aD:z j=γ (.cells [.ptr d 0,.v (.int .i64 (b))]):=by subst y;exact aK
 have aZ:z l=γ (.cells (ag aG .nil .nil .nil)):=by subst y;rw[<-cB];exact aK
 clear y;refine ak (zX d r c b e g (a.size.toNat+1) z (k.mono p) a D E F W A ε) ?_;rintro G k9⟨L,C⟩;cases P:ey c b (a.size.toNat+1) a with
 |none=>rw[P]at C i;obtain rfl:=C;have I:=(aV (a7:=.nil) (h5:=.nil) (j1:=.nil) bo).all;have l0:=cT (a:=.nil) (b:=.nil) (c:=.nil) (a7:=.nil) (h5:=.nil) (j1:=.nil) bo bo;have K:=ω (L _ _ aZ);refine aa ?_;refine⟨_,ι,?_⟩;rw[cB,a7x (by rw[I.1];omega)];exact⟨((k.mono p).mono L).set (k.cI x),((Γ p).trans (Γ L)).ek x,Μ,rfl⟩
 |some o=>rw[P]at C i;obtain⟨M,l1,rfl,m,S⟩:=C;have n:=m;have l2:=μ (m.1 _ _ aD);rw[<-S.flat]at n;obtain⟨N,O,T⟩:=aq.Fa n S;obtain⟨l3,Q⟩:=rU P;have V:=k.cI x;have l4:=(aV (a7:=.nil) (h5:=.nil) (j1:=.nil) bo).len;refine aa ?_;have X:=AC.o4 (q:=δ) (j:=[ej d b]) O (zY d r b e g (β o) o M .any f N c (((k.mono p)).mono T) S Q ε ε ε);refine ak X ?_;rintro G l5⟨Y,q,s⟩;obtain⟨l6,t,u,v,l7,w,rfl⟩:=s.shape;have K:=ω (q _ _ V.1 V.2 (T _ _ aZ));have l8:=(aV (a7:=t) (h5:=u) (j1:=v) w).all;have l9:=cT (a:=.nil) (b:=.nil) (c:=.nil) (a7:=t) (h5:=u) (j1:=v) bo w;refine aa ?_;refine⟨_,ι,?_⟩;exact⟨Y.set V,(((Γ p).trans (Γ T)).trans q).ek x,s⟩
end Go.Proofs.YtgchlmdfldnhnaaGreat
namespace Go.bw
open Go
section
end
end Go.bw
namespace Go.Proofs.YtgchlmdfldnhnaaGreat
open Go Go.bw
def ni(h:af)(c:Nat)(k:Ω×Bool)(d f:aj)(o:Nat):Except Int aj×af:=
 match dL h c (cD k d f)with
 |(.error p,a)=>(.error p,a)
 |(.ok b,a)=>if(2*b.size).tdiv 3+1<max d.size f.size then nh a c b o else(.ok b,a)
def jP(b:Nat)(f:Ω):Nat->af->aj->Nat->Except Int aj×af
 |0,a,_,_=>(.error 21,a)
 |p+1,a,h,dep=>if h=aG then dL a b (cD (f,ζ) h h)else match lp a b h with
  |none=>(.error 21,a)
  |some (d,bF)=>if d.1=f then(if d.2=ζ then(.error 8,a)else ni a b (d.1,ζ) (bF.getD 0 aG) (bF.getD 1 aG) dep)
   else if cM (dep%b) f d.1<0 then match jP b f p a (bF.getD 0 aG) (dep+1)with
    |(.error k,c)=>(.error k,c)
    |(.ok o,c)=>ni c b d o (bF.getD 1 aG) dep
   else match jP b f p a (bF.getD 1 aG) (dep+1)with
    |(.error k,c)=>(.error k,c)
    |(.ok o,c)=>ni c b d (bF.getD 0 aG) o dep
variable{A j6:aj}{e i t I b3 e5:Nat}{H:af}
theorem H3{f:af}{h:Ω×Bool}{b:aj}(a:dL H e (cD h A j6)=(.ok b,f)):b.size=1+A.size+j6.size/\0<=A.size/\0<=j6.size/\b.size<=1048576:=by
 unfold dL at a;split at a
 .simp_all
 .rename_i o k;simp only[a8Q,Except.ok.injEq]at a;obtain⟨rfl,_⟩:=a;have c:=vo k;have d:=qn c.ok;have:=c.size;simp only[cD,a8M,a7O,a8R,a8o,aa6]at this;exact⟨ε,(kx (d A (by simp[cD]))).1,(kx (d j6 (by simp[cD]))).1,c.q0⟩
structure jQ(cs:ύ)(a b:aj):Prop where
 len:74<=β cs
 bQ:β a.sum=32
 qo:a.cL
 bW:β b.sum=32
 qp:b.cL
 cs:∃oc od c d f h r,cs=ag a oc od c++(ag b d f h++r)
variable{s b8:R}{g w h7:U}{j B b7:ύ}
theorem jQ.of{s:U}(o:aq g s 37 (flat j) b8)(p:aw bA [A,j6] j):∃a k b,b8=.ar a 2 k 37/\g a=η/\s a=γ (.cells b)/\jQ b A j6:=by
 match j,p with
 |[_,_],⟨⟨bQ,qo,oc,od,c,rfl⟩,⟨bW,qp,d,f,h,rfl⟩,_⟩=>
  have E:=(aV (a7:=oc) (h5:=od) (j1:=c) bQ).len;have F:=(aV (a7:=d) (h5:=f) (j1:=h) bW).len;have r:flat [R.agg (ag A oc od c),.agg (ag j6 d f h)]=ag A oc od c++ag j6 d f h:=by simp[flat,τ]
  rw[r]at o;obtain⟨a,x,k,b,rfl,y,z,G,C,D,L,_⟩:=o.ar (λP=>by simp_all);rw[Ρ]at D;obtain rfl:x=2:=ε;refine⟨a,k,b,rfl,y,z,ε,bQ,qo,bW,qp,oc,od,c,d,f,h,b.drop 74,?_⟩;rw[<-a7P,<-C,a8d]
theorem jQ.ld(o:jQ j j6 A):∃f h k b c d,aX ζ 37 j=.agg (ag j6 f h k)/\aX ζ 37 (j.drop 37)=.agg (ag A b c d)/\aX κ 1 (j.drop 35)=.v (.int .i64 j6.size)/\aX κ 1 (j.drop 72)=.v (.int .i64 A.size):=by
 obtain⟨f,h,k,b,c,d,p,rfl⟩:=o.cs;have x:=(aV (a7:=f) (h5:=h) (j1:=k) o.bQ).len;have C:=(aV (a7:=b) (h5:=c) (j1:=d) o.bW).len;have y:∀a,a<=37->(ag j6 f h k++(ag A b c d++p)).drop a=(ag j6 f h k).drop a++(ag A b c d++p):=λa z=>a9O ε;have r:∀a,a<=37->(ag j6 f h k++(ag A b c d++p)).drop (37+a)=(ag A b c d).drop a++p:=λa z=>by
  rw[<-a8p,aaz x,a9O ε]
 refine⟨f,h,k,b,c,d,?_,?_,?_,?_⟩
 .simp only[aX,if_true];simp_all
 .rw[r 0 ε,a9F];simp only[aX,if_true];simp_all
 .rw[y 35 ε,(aV o.bQ).d35];rfl
 .rw[r 35 ε,(aV o.bW).d35];rfl
variable{a7 h5 j1:Own}
theorem jQ.H4{h:aj}(a:jQ j h j6)(k:β A.sum=32)(x:A.cL):jQ (putAt j 0 (ag A a7 h5 j1)) A j6:=by
 obtain⟨o,p,r,b,c,d,f,rfl⟩:=a.cs;have z:=(aV (a7:=o) (h5:=p) (j1:=r) a.bQ).len;have C:=(aV (a7:=b) (h5:=c) (j1:=d) a.bW).len;have D:=(aV (a7:=a7) (h5:=h5) (j1:=j1) k).len;have y:putAt (ag h o p r++(ag j6 b c d++f)) 0 (ag A a7 h5 j1)=ag A a7 h5 j1++(ag j6 b c d++f):=by simp_all [putAt]
 rw[y];exact⟨by simp only[Ρ];omega,k,x,a.bW,a.qp,_,_,_,_,_,_,f,rfl⟩
theorem jQ.H5{h:aj}(a:jQ j j6 h)(k:β A.sum=32)(x:A.cL):jQ (putAt j 37 (ag A a7 h5 j1)) j6 A:=by
 obtain⟨b,c,d,o,p,r,f,rfl⟩:=a.cs;have z:=(aV (a7:=b) (h5:=c) (j1:=d) a.bQ).len;have C:=(aV (a7:=o) (h5:=p) (j1:=r) a.bW).len;have D:=(aV (a7:=a7) (h5:=h5) (j1:=j1) k).len;have y:putAt (ag j6 b c d++(ag h o p r++f)) 37 (ag A a7 h5 j1)=ag j6 b c d++(ag A a7 h5 j1++f):=by grind[putAt,List.take_left',List.drop_drop,List.drop_left',List.append_assoc]
 rw[y];exact⟨by simp only[Ρ];omega,a.bQ,a.qo,k,x,_,_,_,_,_,_,f,rfl⟩
set_option maxHeartbeats 1600000 in
theorem H6(f z:Nat)(a:Nat)(k8:1<=a)(O:a<=8)(c:Ω)(j:Own)(a16:β c=a):∀(S:Nat)(l:U)(o:af)(_:bz l f z o)(h:aj)(p r x:Own)(dep:Nat),β h.sum=32->h.cL->h.size.toNat<S->dep+S<=4000000->
  AC δ 107 [ej f a,.agg (ag h p r x),.J (ab c) j,.v (.int .i64 (dep:Int))] l λQ C=>pg l C f z (jP a c S o h dep) Q
 |0,l,o,V,h,p,r,x,dep,gT,X,a99,b00=>by omega
 |S+1,l,o,V,h,p,r,x,dep,gT,X,a99,b00=>by
  have b01:=(aV (a7:=p) (h5:=r) (j1:=x) gT).all;have b:=(jP.eq_2 a c o h dep S).symm;generalize jP a c (S+1) o h dep=a18 at*;refine aM hm Pe ?_;refine bg λv b02=>?_;refine cy λy a00 b43 b44=>?_;refine gz λw m a3 a4 a5 dQ=>?_;generalize k9:((l.set v _).set y _).set w _=n;have Y:l.sub n:=by subst k9;exact aK
  have aL:n v=γ (.cells [.ptr f 0,.v (.int .i64 (a))]):=by subst k9;exact aK
  have aZ:n y=γ (.cells (ag h p r x)):=by subst k9;exact aK
  have bl:n w=γ (.cells (ag aG .nil .nil .nil)):=by subst k9;rw[<-cB];exact aK
  clear k9;have b45:=μ aL;have b46:=μ aZ;have l9:=V.mono Y;have Z:=V.cI b02;have k2:=V.cI a00;have d:=V.cI m;by_cases l0:h=aG
  .subst l0;refine aP (nZ aG p r x n gT λ_=>X) ?_;refine ak (vB n f z o l9 (c,ζ) aG aG j p r x p r x a k8 O gT gT X X) ?_;rintro Q b47⟨b03,a19,a27⟩;obtain⟨b04,l1,l2,l3,l4,l5,rfl⟩:=a27.shape;have n0:=ω (a19 _ _ d.1 d.2 bl);have b05:=(aV (a7:=l1) (h5:=l2) (j1:=l3) l5).all;have A:=(aV (a7:=.nil) (h5:=.nil) (j1:=.nil) bo).len;have B:=cT (a:=.nil) (b:=.nil) (c:=.nil) (a7:=l1) (h5:=l2) (j1:=l3) bo l5;rw[if_pos rfl]at b;refine aa ?_;refine⟨_,ι,?_⟩;rw[<-b];exact⟨b03.set d,((Γ Y).trans a19).ek m,a27⟩
  rw[if_neg l0]at b;refine aP (nZ h p r x n gT λ_=>X) ?_;generalize a29:bR (Ctx.of δ) (dv.seq (dv.block 0 _) _)=b48;refine ak (zt n f z o l9 h p r x gT X a k8 O) ?_;rintro Q a30⟨H,n2⟩;cases a01:lp o a h with
  |none=>
   rw[a01]at n2 b;obtain rfl:=n2
   dsimp only at b
   refine aa ?_;refine aR λW T=>?_;have b06:W≠w:=by rintro rfl;rw[H _ _ bl]at T;cases T
   have b49:=b06.symm;have n0:=ω (H _ _ bl);subst a29;have A:=(aV (a7:=.nil) (h5:=.nil) (j1:=.nil) bo).len;have B:=cT (a:=.nil) (b:=.nil) (c:=.nil) (a7:=.nil) (h5:=.nil) (j1:=.nil) bo bo;refine aa ?_;refine⟨_,ι,?_⟩;rw[<-b,cB,a7x (by rw[A];omega)];exact⟨((l9.mono H).mono (ν ι T)).set d,(((Γ Y).trans (Γ H)).trans (Γ (ν ι T))).ek m,Μ,rfl⟩
  |some b07=>
   obtain⟨k,b50⟩:=b07;rw[a01]at n2 b;obtain⟨D,b51,rfl,b52,b53,b08,b09⟩:=n2;obtain⟨n3,ct,rfl,b54,b55,b56,b57,b10,b58⟩:=vR a01;obtain⟨k3,b59,E,rfl,e,a34,g⟩:=jQ.of b08 b09;refine aa ?_;refine aR λW T=>?_;refine aa ?_;have a36:=ν (b0:=.cells [.J (ab k.1) D,.v (.bool k.2)]) (ι) T;have cw:=ξ a30 W (.cells [.J (ab k.1) D,.v (.bool k.2)]);have l6:=π H a36;have a02:=l6 _ _ aL;have a38:=l6 _ _ aZ;have a03:=l6 _ _ bl;have a42:=a36 _ _ a34;have a04:=l9.mono l6;have a05:=(Γ (l:=f) (lM:=z) Y).trans (Γ l6);have a06:=Ν Y (Ν H T);have n4:=Ν Y e;have b60:k3≠W:=by rintro rfl;rw[a34]at T;cases T
   generalize a30.set W _=k4 at*;subst a29;refine jy [2,3,4,5,8,10,11] (λ_:(Ω×Bool)×aj×aj×af=>[]) (λi C=>ni i.2.2.2 a i.1 i.2.1 i.2.2.1 dep=a18/\bz C f z i.2.2.2/\Ext f z l C/\(∃D,C W=γ (.cells [.J (ab i.1.1) D,.v (.bool i.1.2)]))/\(∃E,C k3=γ (.cells E)/\jQ E i.2.1 i.2.2.1)/\C v=γ (.cells [.ptr f 0,.v (.int .i64 (a))])/\C y=γ (.cells (ag h p r x))/\C w=γ (.cells (ag aG .nil .nil .nil))) ?_ ?_
   .have b11:=μ cw;have b12:=μ a02;refine aa ?_;simp only[a8C,a8U]at b;have b61:=cw;by_cases a07:k.1=c
    .rw[if_pos a07]at b;refine aP (lV k.1 c D j k4 ε) ?_;cases a43:k.2 with
     |true=>rw[if_pos a43]at b;have A:=(aV (a7:=.nil) (h5:=.nil) (j1:=.nil) bo).len;have B:=cT (a:=.nil) (b:=.nil) (c:=.nil) (a7:=.nil) (h5:=.nil) (j1:=.nil) bo bo;have n0:=ω a03;refine aa ?_;refine⟨_,ι,?_⟩;rw[<-b,cB,a7x (by rw[A];omega)];exact⟨a04.set d,a05.ek m,Μ,rfl⟩
     |false=>
      rw[if_neg (by rw[a43];decide)]at b;refine aa ?_;refine aP (lV c c D j k4 ε) ?_;have b62:=ω cw;refine aa ?_;have b13:v≠W:=by grind
      have b14:y≠W:=by grind
      have b15:w≠W:=by rintro rfl;exact absurd (H _ _ bl) (by rw[T];simp)
      refine⟨((k.1,ζ),n3,ct,o),b,a04.set (V.cI a06),a05.ek a06,⟨D,by rw[a07]⟩,⟨E,rfl,g⟩,?_,?_,?_⟩
      .rw[ο _ _ b13];exact a02
      .rw[ο _ _ b14];exact a38
      .rw[ο _ _ b15];exact a03
    .rw[if_neg a07]at b;refine aP (lV k.1 c D j k4 ε) ?_;refine aP (lV k.1 c D j k4 ε) ?_;obtain⟨F,q,b63,b16,a47,b17⟩:∃(F:Nat)(q:aj),F<2/\(if cM (dep%a) c k.1<0 then(0:Int)else 1)=(F:Int)/\(q.size.toNat<S/\β q.sum=32/\q.cL)/\
       (match jP a c S o q (dep+1)with
        |(.error l4,k5)=>(.error l4,k5)
        |(.ok l0,k5)=>ni k5 a k (if F=0 then l0 else n3) (if F=0 then ct else l0) dep)=a18/\∃I K M,aX ζ 37 (E.drop (F*37))=.agg (ag q I K M):=by
      obtain⟨I,K,M,a08,a09,a10,a48,a52,_⟩:=g.ld;by_cases E:cM (dep%a) c k.1<0
      .rw[if_pos E]at b;exact⟨0,n3,ε,by rw[if_pos E];rfl,⟨ε,g.bQ,g.qo⟩,b,I,K,M,a48⟩
      .rw[if_neg E]at b;exact⟨1,ct,ε,by rw[if_neg E];rfl,⟨ε,g.bW,g.qp⟩,b,a08,a09,a10,a52⟩
     obtain⟨b,I,K,M,b64⟩:=b17;obtain⟨b18,b19,b20⟩:=a47;have a56:=Gd c k.1 j D f a dep ε O ε a16 b10 k4;rw[b16]at a56;have b21:=μ a42;have b22:=g.len;refine aP a56 ?_;have b23:(dep)+1=((dep+1:Nat):Int):=rfl;rw[b23];refine ak (H6 f z a k8 O c j a16 S k4 o a04 q I K M (dep+1) b19 b20 b18 ε) ?_;rintro Q b65⟨n5,k6,a57⟩;have N:=V.cI n4;have a61:=V.cI a06;have b66:=k6 _ _ Z.1 Z.2 a02;have b67:=k6 _ _ k2.1 k2.2 a38;have b24:=k6 _ _ d.1 d.2 a03;have b25:=k6 _ _ N.1 N.2 a42;have b68:=k6 _ _ a61.1 a61.2 cw;have n0:=ω b24;have b69:=ω b25;have a62:=a05.trans k6;have b26:k3≠w:=by rintro rfl;rw[bl]at e;cases e
     have b70:=b26.symm;have b71:v≠k3:=by rintro rfl;rw[aL]at e;cases e
     have a63:y≠k3:=by rintro rfl;rw[aZ]at e;cases e
     have A:=(aV (a7:=.nil) (h5:=.nil) (j1:=.nil) bo).all;have b72:F*37+37<=β E:=ε;generalize b73:jP a c S o q (dep+1)=b27 at*;obtain⟨pL,b28⟩:=b27;cases pL with
     |error l4=>
      obtain⟨a11,rfl⟩:=a57
      dsimp only at b n5
      have B:=cT (a:=.nil) (b:=.nil) (c:=.nil) (a7:=.nil) (h5:=.nil) (j1:=.nil) bo bo;refine aa ?_;refine⟨_,ι,?_⟩;rw[<-b,cB,a7x (by rw[A.1];omega)];exact⟨(n5.set N).set d,(a62.ek n4).ek m,a11,rfl⟩
     |ok a65=>
      obtain⟨a13,a68,G,L,P,rfl⟩:=a57
      dsimp only at b n5
      have a47:=(aV (a7:=G) (h5:=L) (j1:=P) a13).all;refine aa ?_;refine⟨(k,(if F=0 then a65 else n3),(if F=0 then ct else a65),b28),b,n5.set N,a62.ek n4,⟨D,rfl⟩,_,rfl,?_⟩;obtain rfl|rfl:F=0\/F=1:=ε
      .exact g.H4 a13 a68
      .exact g.H5 a13 a68
   .rintro⟨a69,a71,a73,k5⟩ C ⟨s,b29,a74,⟨b30,b31⟩,⟨b74,a81,k7⟩,a14,b32,a83⟩ b75
    dsimp only at*
    have b11:=μ b31;have b12:=μ a14;have b21:=μ a81;obtain⟨I,K,M,a08,a09,a10,a48,a52,b76,b77⟩:=k7.ld;have b22:=k7.len;refine aa ?_;have a84:=vB C f z k5 b29 a69 a71 a73 b30 I K M a08 a09 a10 a k8 O k7.bQ k7.bW k7.qo k7.qp;refine ak a84 ?_;clear a84;rintro Q l7⟨n9,t,a86⟩;have b78:=μ (t _ _ Z.1 Z.2 a14);have b33:=t _ _ k2.1 k2.2 b32;have b79:=ω b33;have n0:=ω (t _ _ d.1 d.2 a83);have N:=V.cI n4;have b80:=μ (t _ _ N.1 N.2 a81);have b34:=dQ;have b35:=b34.symm;unfold ni at s;generalize b36:dL k5 a (cD a69 a71 a73)=b37 at*;obtain⟨qZ,a88⟩:=b37;have A:=(aV (a7:=.nil) (h5:=.nil) (j1:=.nil) bo).all;have b81:=b01;cases qZ with
    |error l4=>
     obtain⟨a11,rfl⟩:=a86
     dsimp only at s n9
     have B:=cT (a:=p) (b:=r) (c:=x) (a7:=.nil) (h5:=.nil) (j1:=.nil) gT bo;have b82:=cT (a:=.nil) (b:=.nil) (c:=.nil) (a7:=.nil) (h5:=.nil) (j1:=.nil) bo bo;refine aa ?_;refine⟨_,ι,?_⟩;rw[<-s];exact⟨(n9.set k2).set d,((a74.trans t).ek a00).ek m,a11,rfl⟩
    |ok u=>
     obtain⟨l8,a89,G,L,P,rfl⟩:=a86;obtain⟨a90,b83,b84,b85⟩:=H3 b36
     dsimp only at s n9
     have B:=cT (a:=p) (b:=r) (c:=x) (a7:=G) (h5:=L) (j1:=P) gT l8;have b86:=(aV (a7:=G) (h5:=L) (j1:=P) l8).all;have b87:0<=(2*u.size).tdiv 3/\(2*u.size).tdiv 3<=3000000:=by grind
     have a63:k3≠y:=by rintro rfl;rw[aZ]at e;cases e
     have b88:=a63.symm;have a92:v≠y:=abV;have b89:=a92.symm;have b90:=a90.symm;clear a90;refine aa ?_;have a94:bz (l7.set y (.cells (ag u G L P))) f z a88:=n9.set k2;have b38:=ξ l7 y (.cells (ag u G L P));have b39:(l7.set y (.cells (ag u G L P))) v=γ (.cells [.ptr f 0,.v (.int .i64 (a))]):=by rw[ο _ _ a92];exact t _ _ Z.1 Z.2 a14
     have a95:(l7.set y (.cells (ag u G L P))) w=γ (.cells (ag aG .nil .nil .nil)):=by rw[ο _ _ b35];exact t _ _ d.1 d.2 a83
     have a96:=(a74.trans t).ek (b0:=.cells (ag u G L P)) a00;generalize l7.set y _=b40 at*;have b91:=μ b39;have b92:=μ b38;have b41:=ω a95;refine ay (λa15=>?_) λa15=>?_
     .rw[if_pos a15]at s;refine ak (H2 b40 f z a88 a94 u G L P l8 a89 a k8 O dep ε ε) ?_;rintro Q b93⟨b42,a97,a98⟩;obtain⟨b04,l1,l2,l3,l4,l5,rfl⟩:=a98.shape;have b41:=ω (a97 _ _ d.1 d.2 a95);have b05:=(aV (a7:=l1) (h5:=l2) (j1:=l3) l5).all;have B:=cT (a:=.nil) (b:=.nil) (c:=.nil) (a7:=l1) (h5:=l2) (j1:=l3) bo l5;refine aa ?_;refine⟨_,ι,?_⟩;rw[<-s];exact⟨b42.set d,(a96.trans a97).ek m,a98⟩
     .rw[if_neg a15]at s;have B:=cT (a:=.nil) (b:=.nil) (c:=.nil) (a7:=G) (h5:=L) (j1:=P) bo l8;refine⟨_,ι,?_⟩;rw[<-s];exact⟨a94.set d,a96.ek m,l8,a89,_,_,_,rfl⟩
def H7(k:Except Int aj)(f:R):Prop:=
 match k with
 |.error h=>h≠0/\∃a b c d,β a.sum=32/\f=.aJ [.agg (ag a b c d),.v (.int .i64 h)]
 |.ok a=>β a.sum=32/\a.cL/\∃b c d,f=.aJ [.agg (ag a b c d),.v (.int .i64 0)]
def hC.x{a:Except Int aj}(b:hC a s):H7 a s:=by
 cases a with
 |error c=>exact⟨b.1,aG,_,_,_,bo,b.2⟩
 |ok d=>exact b
def zZ(f a:U)(b c:Nat)(d:Except Int aj×af)(h:R):Prop:=bz a b c d.2/\Ext b c f a/\H7 d.1 h
def gU(b:Nat)(f:Ω):Nat->af->aj->Nat->Except Int aj×af
 |0,a,_,_=>(.error 21,a)
 |o+1,a,p,dep=>if p=aG then(.error 9,a)else match lp a b p with
  |none=>(.error 21,a)
  |some (d,bF)=>if d.1=f then(if d.2=ζ then dL a b (cD (d.1,κ) (bF.getD 0 aG) (bF.getD 1 aG))else(.error 9,a))
   else if cM (dep%b) f d.1<0 then match gU b f o a (bF.getD 0 aG) (dep+1)with
    |(.error h,c)=>(.error h,c)
    |(.ok k,c)=>dL c b (cD d k (bF.getD 1 aG))
   else match gU b f o a (bF.getD 1 aG) (dep+1)with
    |(.error h,c)=>(.error h,c)
    |(.ok k,c)=>dL c b (cD d (bF.getD 0 aG) k)
set_option maxHeartbeats 1600000 in
theorem H8(h S:Nat)(b:Nat)(k8:1<=b)(Q:b<=8)(c:Ω)(e:Own)(n3:β c=b):∀(y:Nat)(T:U)(k:af)(_:bz T h S k)(d:aj)(z C D:Own)(dep:Nat),β d.sum=32->d.cL->d.size.toNat<y->dep+y<=4000000->
  AC δ 113 [ej h b,.agg (ag d z C D),.J (ab c) e,.v (.int .i64 (dep:Int))] T λX o=>zZ T o h S (gU b c y k d dep) X
 |0,T,k,V,d,z,C,D,dep,gT,Y,a38,a42=>by omega
 |y+1,T,k,V,d,z,C,D,dep,gT,Y,a38,a42=>by
  have b16:=(aV (a7:=z) (h5:=C) (j1:=D) gT).all;have a:=(gU.eq_2 b c k d dep y).symm;generalize gU b c (y+1) k d dep=n4 at*;refine aM hm Pr ?_;refine bg λB a43=>?_;refine cy λH a47 b17 b18=>?_;refine gz λs t a3 a4 a5 dQ=>?_;generalize I:((T.set B _).set H _).set s _=g;have u:T.sub g:=by subst I;exact aK
  have aL:g B=γ (.cells [.ptr h 0,.v (.int .i64 (b))]):=by subst I;exact aK
  have aZ:g H=γ (.cells (ag d z C D)):=by subst I;exact aK
  have bl:g s=γ (.cells (ag aG .nil .nil .nil)):=by subst I;rw[<-cB];exact aK
  clear I;have b19:=μ aL;have b20:=μ aZ;have Z:=V.mono u;have n5:=V.cI a43;have n9:=V.cI a47;have F:=V.cI t;by_cases K:d=aG
  .subst K;refine aP (nZ aG z C D g gT λ_=>Y) ?_;have k2:=ω bl;have k3:=cT (a:=.nil) (b:=.nil) (c:=.nil) (a7:=z) (h5:=C) (j1:=D) bo gT;have i:=(aV (a7:=.nil) (h5:=.nil) (j1:=.nil) bo).len;rw[if_pos rfl]at a;refine aa ?_;refine⟨_,ι,?_⟩;rw[<-a];exact⟨Z.set F,(Γ u).ek t,Μ,aG,_,_,_,gT,rfl⟩
  rw[if_neg K]at a;refine aP (nZ d z C D g gT λ_=>Y) ?_;generalize a00:bR (Ctx.of δ) (dv.seq (dv.block 0 _) _)=b21;refine ak (zt g h S k Z d z C D gT Y b k8 Q) ?_;rintro X a01⟨j,k4⟩;cases k9:lp k b d with
  |none=>
   rw[k9]at k4 a;obtain rfl:=k4
   dsimp only at a
   refine aa ?_;refine aR λG E=>?_;have a48:G≠s:=by rintro rfl;rw[j _ _ bl]at E;cases E
   have b22:=a48.symm;have k2:=ω (j _ _ bl);subst a00;have i:=(aV (a7:=.nil) (h5:=.nil) (j1:=.nil) bo).len;have k3:=cT (a:=.nil) (b:=.nil) (c:=.nil) (a7:=.nil) (h5:=.nil) (j1:=.nil) bo bo;refine aa ?_;refine⟨_,ι,?_⟩;rw[<-a,cB,a7x (by rw[i];omega)];exact⟨((Z.mono j).mono (ν ι E)).set F,(((Γ u).trans (Γ j)).trans (Γ (ν ι E))).ek t,Μ,aG,_,_,_,bo,rfl⟩
  |some a52=>
   obtain⟨f,b23⟩:=a52;rw[k9]at k4 a;obtain⟨p,b24,rfl,b25,b26,a56,a57⟩:=k4;obtain⟨k5,ct,rfl,b27,b28,b29,b30,a61,b31⟩:=vR k9;obtain⟨M,b32,r,rfl,l,a02,L⟩:=jQ.of a56 a57;refine aa ?_;refine aR λG E=>?_;refine aa ?_;have a03:=ν (b0:=.cells [.J (ab f.1) p,.v (.bool f.2)]) (ι) E;have cw:=ξ a01 G (.cells [.J (ab f.1) p,.v (.bool f.2)]);have N:=π j a03;have l0:=N _ _ aL;have a04:=N _ _ aZ;have l1:=N _ _ bl;have a05:=a03 _ _ a02;have l2:=Z.mono N;have l3:=(Γ (l:=h) (lM:=S) u).trans (Γ N);have l4:=Ν u (Ν j E);have l5:=Ν u l;have b33:M≠G:=by rintro rfl;rw[a02]at E;cases E
   generalize a01.set G _=v at*;subst a00;refine jy [2,3,4,5,8,10,11] (λ_:(Ω×Bool)×aj×aj×af=>[]) (λP o=>dL P.2.2.2 b (cD P.1 P.2.1 P.2.2.1)=n4/\bz o h S P.2.2.2/\Ext h S T o/\(∃p,o G=γ (.cells [.J (ab P.1.1) p,.v (.bool P.1.2)]))/\(∃r,o M=γ (.cells r)/\jQ r P.2.1 P.2.2.1)/\o B=γ (.cells [.ptr h 0,.v (.int .i64 (b))])/\o H=γ (.cells (ag d z C D))/\o s=γ (.cells (ag aG .nil .nil .nil))) ?_ ?_
   .have a62:=μ cw;have a63:=μ l0;refine aa ?_;simp only[a8C,a8U]at a;have b34:=cw;by_cases l6:f.1=c
    .rw[if_pos l6]at a;refine aP (lV f.1 c p e v ε) ?_;cases a06:f.2 with
     |false=>rw[if_neg (by rw[a06];decide)]at a;have i:=(aV (a7:=.nil) (h5:=.nil) (j1:=.nil) bo).len;have k3:=cT (a:=.nil) (b:=.nil) (c:=.nil) (a7:=.nil) (h5:=.nil) (j1:=.nil) bo bo;have k2:=ω l1;refine aa ?_;refine⟨_,ι,?_⟩;rw[<-a,cB,a7x (by rw[i];omega)];exact⟨l2.set F,l3.ek t,Μ,aG,_,_,_,bo,rfl⟩
     |true=>
      rw[if_pos a06]at a;refine aa ?_;refine aP (lV c c p e v ε) ?_;have b35:=ω cw;refine aa ?_;have a65:B≠G:=by grind
      have a68:H≠G:=by grind
      have a69:s≠G:=by rintro rfl;exact absurd (j _ _ bl) (by rw[E];simp)
      refine⟨((f.1,κ),k5,ct,k),a,l2.set (V.cI l4),l3.ek l4,⟨p,by rw[l6]⟩,⟨r,rfl,L⟩,?_,?_,?_⟩
      .rw[ο _ _ a65];exact l0
      .rw[ο _ _ a68];exact a04
      .rw[ο _ _ a69];exact l1
    .rw[if_neg l6]at a;refine aP (lV f.1 c p e v ε) ?_;refine aP (lV f.1 c p e v ε) ?_;obtain⟨x,W,b36,a71,a07,a73⟩:∃(x:Nat)(W:aj),x<2/\(if cM (dep%b) c f.1<0 then(0:Int)else 1)=(x:Int)/\(W.size.toNat<y/\β W.sum=32/\W.cL)/\
       (match gU b c y k W (dep+1)with
        |(.error l7,O)=>(.error l7,O)
        |(.ok K,O)=>dL O b (cD f (if x=0 then K else k5) (if x=0 then ct else K)))=n4/\∃m n q,aX ζ 37 (r.drop (x*37))=.agg (ag W m n q):=by
      obtain⟨m,n,q,l8,l9,n0,a08,a09,_⟩:=L.ld;by_cases r:cM (dep%b) c f.1<0
      .rw[if_pos r]at a;exact⟨0,k5,ε,by rw[if_pos r];rfl,⟨ε,L.bQ,L.qo⟩,a,m,n,q,a08⟩
      .rw[if_neg r]at a;exact⟨1,ct,ε,by rw[if_neg r];rfl,⟨ε,L.bW,L.qp⟩,a,l8,l9,n0,a09⟩
     obtain⟨a,m,n,q,b37⟩:=a73;obtain⟨a74,a81,a83⟩:=a07;have a10:=Gd c f.1 e p h b dep ε Q ε n3 a61 v;rw[a71]at a10;have a84:=μ a05;have a86:=L.len;refine aP a10 ?_;have a88:(dep)+1=((dep+1:Nat):Int):=rfl;rw[a88];refine ak (H8 h S b k8 Q c e n3 y v k l2 W m n q (dep+1) a81 a83 a74 ε) ?_;rintro X b38⟨k6,w,a11⟩;have k7:=V.cI l5;have a13:=V.cI l4;have b39:=w _ _ n5.1 n5.2 l0;have b40:=w _ _ n9.1 n9.2 a04;have a89:=w _ _ F.1 F.2 l1;have a90:=w _ _ k7.1 k7.2 a05;have b41:=w _ _ a13.1 a13.2 cw;have k2:=ω a89;have b42:=ω a90;have a14:=l3.trans w;have a92:M≠s:=by rintro rfl;rw[bl]at l;cases l
     have b43:=a92.symm;have b44:B≠M:=by rintro rfl;rw[aL]at l;cases l
     have b45:H≠M:=by rintro rfl;rw[aZ]at l;cases l
     have i:=(aV (a7:=.nil) (h5:=.nil) (j1:=.nil) bo).all;have b46:x*37+37<=β r:=ε;generalize b47:gU b c y k W (dep+1)=a94 at*;obtain⟨pL,a95⟩:=a94;cases pL with
     |error l7=>
      obtain⟨a96,b48,a97,a98,a99,b00,rfl⟩:=a11
      dsimp only at a k6
      have k3:=cT (a:=.nil) (b:=.nil) (c:=.nil) (a7:=.nil) (h5:=.nil) (j1:=.nil) bo bo;have b49:=(aV (a7:=a97) (h5:=a98) (j1:=a99) b00).all;refine aa ?_;refine⟨_,ι,?_⟩;rw[<-a,cB,a7x (by rw[i.1];omega)];exact⟨(k6.set k7).set F,(a14.ek l5).ek t,a96,aG,_,_,_,bo,rfl⟩
     |ok a15=>
      obtain⟨n2,a16,b01,b02,b03,rfl⟩:=a11
      dsimp only at a k6
      have a07:=(aV (a7:=b01) (h5:=b02) (j1:=b03) n2).all;refine aa ?_;refine⟨(f,(if x=0 then a15 else k5),(if x=0 then ct else a15),a95),a,k6.set k7,a14.ek l5,⟨p,rfl⟩,_,rfl,?_⟩;obtain rfl|rfl:x=0\/x=1:=ε
      .exact L.H4 n2 a16
      .exact L.H5 n2 a16
   .rintro⟨b04,b05,b06,O⟩ o ⟨b07,b08,b09,⟨b10,b11⟩,⟨b50,b12,A⟩,b13,b51,b14⟩ b52
    dsimp only at*
    have a62:=μ b11;have a63:=μ b13;have a84:=μ b12;obtain⟨m,n,q,l8,l9,n0,a08,a09,b53,b54⟩:=A.ld;have a86:=A.len;refine aa ?_;have a18:=vB o h S O b08 b04 b05 b06 b10 m n q l8 l9 n0 b k8 Q A.bQ A.bW A.qo A.qp;refine ak a18 ?_;clear a18;rintro X b55⟨b15,a19,a27⟩;have k2:=ω (a19 _ _ F.1 F.2 b14);obtain⟨b56,a29,a30,a34,l7,a36,rfl⟩:=a27.shape;have b57:=(aV (a7:=a29) (h5:=a30) (j1:=a34) a36).all;have i:=(aV (a7:=.nil) (h5:=.nil) (j1:=.nil) bo).len;have k3:=cT (a:=.nil) (b:=.nil) (c:=.nil) (a7:=a29) (h5:=a30) (j1:=a34) bo a36;refine aa ?_;refine⟨_,ι,?_⟩;rw[<-b07];exact⟨b15.set F,(b09.trans a19).ek t,a27.x⟩
def a2U(b:Int)(a:Ω)(d:R)(h:isRow a d)(c:U)(f:Nat)(p:c.read f=γ [.v (.int .i64 b)]):
  AC δ 118 [d,.ptr f 0] c λk o=>o=c/\k=.v (.bool (!decide ((β a:Int)=b))):=by
 obtain⟨r,rfl⟩:=h;have x:=bn (n:=a);by_cases y:(β a)=b
 .refine aM hm CL ?_
  repeat' first|refine ay (λ_=>?_) λ_=>?_|trivial
 .refine aM hm CL ?_
  repeat' first|refine ay (λ_=>?_) λ_=>?_|trivial
theorem A0(a:Nat)(b:List Ω)(d:ύ)(p:Own)(f:U)(k:aw isRow b d)(r:β b<=1000000000000)(E:1<=a)(F:a<=8)(G:∀c∈b,β c=a):
  AC δ 62 [.v (.int .i64 (a:Int)),.J d p] f λc h=>h=f/\c=.v (.bool ζ):=by
 have L:(1)<=(a:Int):=ε;have P:(a:Int)<=8:=ε;refine aM hm O0 ?_;refine bg λo x=>?_;have S:=ν (b0:=.cells [.v (.int .i64 (a))]) (ι) x;have c2:=ξ f o (.cells [.v (.int .i64 (a))]);refine ak (F3 b d _ _ k (bL.J (k.cells λ_ _=>ρ)) r (b9:=118) ⟨by rfl,λy z h C D=>a2U a y z C h o (μ (D _ _ c2))⟩) ?_;rintro _ _⟨rfl,rfl⟩;have:b.any (λc=> !decide ((β c)=(a:Int)))=false:=by simp_all
 rw[this];exact aK
def oh(b:Nat)(c:Ω)(d:af)(a:aj):Except Int aj×af:=jP b c (a.size.toNat+1) d a 0
def a2V(c:U)(h x:Nat)(y:af)(C:bz c h x y)(a:aj)(k o p:Own)(D:β a.sum=32)(n:a.cL)(v:a.size<=2000000)(d:Ω)(E:Own)(b:Nat)(F:1<=b)(G:b<=8)(L:β d=b):
  AC δ 58 [.ptr h 0,.agg (ag a k o p),.J (ab d) E,.v (.int .i64 (b:Int))] c λP q=>pg c q h x (oh b d y a) P:=by
 have w:=(aV (a7:=k) (h5:=o) (j1:=p) D).all;refine aM hm NS ?_;refine bg λS A=>?_;refine cy λT V B H=>?_;refine uO λs I _ _ _ _=>?_;generalize r:((c.set S _).set T _).set s _=f;have W:c.sub f:=by subst r;exact aK
 have aZ:f S=γ (.cells (ag a k o p)):=by subst r;exact aK
 have bl:f T=γ (.cells (ag aG .nil .nil .nil)):=by subst r;rw[<-cB];exact aK
 clear r;have t:=C.mono W;have z:=C.cI V;have K:=μ aZ;refine aP (A0 b [d] _ _ f ⟨⟨_,rfl⟩,trivial⟩ σ F G (by simp[L])) ?_;refine ak (H6 h x b F G d E L (a.size.toNat+1) f y t a k o p 0 D n ε ε) ?_;rintro P M⟨u,e,g⟩;obtain⟨N,i,j,l,O,m,rfl⟩:=g.shape;have Q:=ω (e _ _ z.1 z.2 bl);have X:=(aV (a7:=i) (h5:=j) (j1:=l) m).all;have Y:=(aV (a7:=.nil) (h5:=.nil) (j1:=.nil) bo).len;have Z:=cT (a:=.nil) (b:=.nil) (c:=.nil) (a7:=i) (h5:=j) (j1:=l) bo m;refine aa ?_;refine⟨_,ι,?_⟩;exact⟨u.set z,((Γ W).trans e).ek V,g⟩
theorem a2W{f:af}{h:Ω×Bool}{b:aj}(a:dL H e (cD h j6 b)=(.ok A,f)):0<=A.live/\A.live<=3000000:=by
 unfold dL at a;split at a
 .simp_all
 .rename_i o k;simp only[a8Q,Except.ok.injEq]at a;obtain⟨rfl,_⟩:=a;have c:=vo k;have d:=qn c.ok;have p:=ry (d j6 (by simp[cD]));have r:=ry (d b (by simp[cD]));rw[c.eq];grind[gA,fx,cD,fw,eu]
variable{n b5:Ω}
theorem a2X:∀ {f:Nat}{c a:af}{d b:aj}{dep:Nat},gU e n f c d dep=(.ok b,a)->∃k o p r,dL k e (cD o p r)=(.ok b,a)
 |0,c,a,d,b,dep,h=>by rw[gU]at h;simp_all
 |f+1,c,a,d,b,dep,h=>by
  grind[gU,Prod.mk.inj]
def jf(c:Nat)(f:Ω)(h:af)(d:aj):Except Int aj×af:=
 match gU c f (d.size.toNat+1) h d 0 with
 |(.error k,a)=>(.error k,a)
 |(.ok b,a)=>if 2*b.live<b.size then nh a c b 0 else(.ok b,a)
def a2Y(P:U)(f S:Nat)(r:af)(W:bz P f S r)(b:aj)(z C D:Own)(e:β b.sum=32)(n2:b.cL)(a18:b.size<=2000000)(h:Ω)(O:Own)(a:Nat)(t:1<=a)(u:a<=8)(Q:β h=a):
  AC δ 60 [.ptr f 0,.agg (ag b z C D),.J (ab h) O,.v (.int .i64 (a:Int))] P λv n3=>zZ P n3 f S (jf a h r b) v:=by
 have a19:=(aV (a7:=z) (h5:=C) (j1:=D) e).all;refine aM hm NW ?_;refine bg λd w=>?_;refine cy λE g a27 a29=>?_;refine uO λn4 a30 _ _ _ _=>?_;generalize i:((P.set d _).set E _).set n4 _=F;have X:P.sub F:=by subst i;exact aK
 have aZ:F d=γ (.cells (ag b z C D)):=by subst i;exact aK
 have bl:F E=γ (.cells (ag aG .nil .nil .nil)):=by subst i;rw[<-cB];exact aK
 clear i;refine aP (A0 a [h] _ _ F ⟨⟨_,rfl⟩,trivial⟩ σ t u (by simp[Q])) ?_;refine aR λx G=>?_;have Y:d≠x:=by rintro rfl;rw[aZ]at G;cases G
 have n5:=Y.symm;have Z:E≠x:=by rintro rfl;rw[bl]at G;cases G
 have a34:=Z.symm;have n9:=Ν X G;have a36:=μ aZ;refine aa ?_;have A:=ν (b0:=.cells [.ptr f 0,.v (.int .i64 (a))]) (ι) G;have k2:=π X A;have k3:=A _ _ aZ;have a00:=A _ _ bl;have k4:=ξ F x (.cells [.ptr f 0,.v (.int .i64 (a))]);generalize F.set x _=a01 at*;have a02:=W.mono k2;have a38:=μ k3;have a42:=μ k4;have j:=W.cI w;have y:=W.cI g;have k5:=W.cI n9;refine ak (H8 f S a t u h O Q (b.size.toNat+1) a01 r a02 b z C D 0 e n2 ε ε) ?_;rintro v T⟨l,m,k6⟩;have a03:=m _ _ j.1 j.2 k3;have k7:=m _ _ y.1 y.2 a00;have a04:=m _ _ k5.1 k5.2 k4;have a43:=ω a03;have a47:=ω k7;have a48:=(aV (a7:=.nil) (h5:=.nil) (j1:=.nil) bo).len;have c:jf a h r b=match gU a h (b.size.toNat+1) r b 0 with
  |(.error B,n)=>(.error B,n)
  |(.ok q,n)=>if 2*q.live<q.size then nh n a q 0 else(.ok q,n):=rfl
 generalize jf a h r b=a52 at c|-;have a05:d≠E:=abV;have a06:=a05.symm;have Y:d≠x:=abV;have Z:E≠x:=abV;generalize a07:gU a h (b.size.toNat+1) r b 0=a08 at*;obtain⟨pL,k8⟩:=a08;have k9:=(Γ k2).trans m;cases pL with
 |error B=>
  obtain⟨a09,a10,H,I,K,s,rfl⟩:=k6
  dsimp only at c l
  have M:=cT (a:=z) (b:=C) (c:=D) (a7:=H) (h5:=I) (j1:=K) e s;have a56:=cT (a:=.nil) (b:=.nil) (c:=.nil) (a7:=H) (h5:=I) (j1:=K) bo s;have a57:=(aV (a7:=H) (h5:=I) (j1:=K) s).all;replace c:=c.symm;refine aa ?_;refine⟨_,ι,?_⟩;rw[<-c];exact⟨(l.set j).set y,(k9.ek w).ek g,a09,a10,_,_,_,s,rfl⟩
 |ok L=>
  obtain⟨V,l0,k,o,p,rfl⟩:=k6
  dsimp only at c l
  obtain⟨_,_,_,_,l1⟩:=a2X a07;obtain⟨a61,a62⟩:=a2W l1;have a63:=(H3 l1).2.2.2;have M:=cT (a:=z) (b:=C) (c:=D) (a7:=k) (h5:=o) (j1:=p) e V;have a65:=(aV (a7:=k) (h5:=o) (j1:=p) V).all;replace c:=c.symm;refine aa ?_;have l2:bz (T.set d (.cells (ag L k o p))) f S k8:=l.set j;have a11:=ξ T d (.cells (ag L k o p));have l3:(T.set d (.cells (ag L k o p))) E=γ (.cells (ag aG .nil .nil .nil)):=by rw[ο _ _ a06];exact k7
  have a13:(T.set d (.cells (ag L k o p))) x=γ (.cells [.ptr f 0,.v (.int .i64 (a))]):=by rw[ο _ _ n5];exact a04
  have l4:=k9.ek (b0:=.cells (ag L k o p)) w;generalize T.set d _=a14 at*;have a68:=μ a11;have a69:=μ a13;have a15:=ω l3;refine ay (λN=>?_) λN=>?_
  .rw[if_pos N]at c;refine ak (H2 a14 f S k8 l2 L k o p V l0 a t u 0 ε ε) ?_;rintro v a71⟨a16,l5,l6⟩;obtain⟨a73,l7,l8,l9,B,n0,rfl⟩:=l6.shape;have a15:=ω (l5 _ _ y.1 y.2 l3);have a74:=(aV (a7:=l7) (h5:=l8) (j1:=l9) n0).all;have M:=cT (a:=.nil) (b:=.nil) (c:=.nil) (a7:=l7) (h5:=l8) (j1:=l9) bo n0;refine aa ?_;refine⟨_,ι,?_⟩;rw[<-c];exact⟨a16.set y,(l4.trans l5).ek g,l6.x⟩
  .rw[if_neg N]at c;have M:=cT (a:=.nil) (b:=.nil) (c:=.nil) (a7:=k) (h5:=o) (j1:=p) bo V;refine⟨_,ι,?_⟩;rw[<-c];exact⟨l2.set y,l4.ek g,V,l0,_,_,_,rfl⟩
end Go.Proofs.YtgchlmdfldnhnaaGreat
namespace Go.bw
open Go
variable{s b8:R}{g w h7:U}{q:Program}
theorem a2Z{o:Shelf.Ren}(z:Proofs.SlLaysF.n6 q o)(C:(∃p,s=.J [] p)\/∃r a f,s=.ar r 0 a f):AC q (o.f 6) [s,b8] g λD E=>E=g/\D=.aJ []:=by
 intro b F G h L;have k:=h.2 0 _ rfl;have P:b.size=2:=h.1;generalize S:b.getD 0 undef=T at k;generalize V:b.getD 1 undef=x;have W:∃c a,T=.slice c 0 a:=by
  rcases C with⟨p,rfl⟩|⟨r,a,f,rfl⟩
  .cases k with
   |dk s a du h e=>simp
   |J j off len a f l xs du hk hlen m n t hH u e=>simp_all
  .cases k;simp
 obtain⟨c,a,rfl⟩:=W;have ai:b=#[.slice c 0 a,x]:=by
  apply Array.ext
  .exact P
  .intro y d v
   match y,d with
   |0,d=>rw[<-S];simp_all
   |1,d=>rw[<-V];simp_all
   |y+2,d=>omega
 rw[ai];refine(Proofs.AnyF.slices_SortFunc_none {z with} c a x F).mono ?_;rintro w A⟨rfl,rfl⟩;exact⟨_,.aJ [],G,g,rfl,.refl L,.aJ #[] [] rfl (λB H i=>by simp at i),rfl,rfl⟩
end Go.bw
namespace Go.Proofs.YtgchlmdfldnhnaaGreat
open Go Go.bw
def a3a(a b:Ω)(d f:Own)(c:U)(h:β a<=1000000000000):AC δ 65 [.J (ab a) d,.J (ab b) f] c λk o=>o=c/\k=.v (.int .i64 (gh a b)):=by
 refine aM hm O4 ?_;refine aP (Ga a b d f c h) ?_
 repeat' first|refine ay (λ_=>?_) λ_=>?_|trivial
theorem a3b(f:U)(E j:Nat)(k:af)(I:bz f E j k)(a:aj)(o p r:Own)(l:β a.sum=32)(K:a.cL)(k8:a.size<=2000000)(b:Nat)(m:1<=b)(n:b<=8)(C:List Ω)(M:∀c,ey k b (a.size.toNat+1) a=γ c->C.Perm c/\C.Pairwise λN V=>¬gh V N<0):
  AC δ 34 [.ptr E 0,.agg (ag a o p r),.v (.int .i64 (b:Int))] f λh x=>f.sub x/\match ey k b (a.size.toNat+1) a with
   |none=>h=.aJ [.J [] .nil,.v (.int .i64 21)]
   |some _=>∃d,h=.aJ [.J d .any,.v (.int .i64 0)]/\aw isRow C d:=by
 have O:AC δ 34 [.ptr E 0,.agg (ag a o p r),.v (.int .i64 (b:Int))] f λh x=>match ey k b (a.size.toNat+1) a with
   |none=>f.sub x/\h=.aJ [.J [] .nil,.v (.int .i64 21)]
   |some _=>∃y d F,h=.aJ [y,.v (.int .i64 0)]/\View x y F (.J d .any)/\f.sub F/\aw isRow C d:=?_
 .refine O.view λh x G=>?_;cases z:ey k b (a.size.toNat+1) a with
  |none=>grind[View.refl]
  |some c=>rw[z]at G;obtain⟨y,d,F,rfl,Q,W,e⟩:=G;exact⟨_,_,View.aJ (a:=[]) Q,W,d,rfl,e⟩
 have k9:=(aV (a7:=o) (h5:=p) (j1:=r) l).all;refine aM hm Nc ?_;refine bg λq X=>?_;have L:=ν (b0:=.cells (ag a o p r)) (ι) X;have aL:=ξ f q (.cells (ag a o p r));generalize f.set q _=s at*;have l0:=μ aL;refine aP (A0 b [] [] _ s trivial σ m n σ) ?_;refine ak (zX E j k b m n (a.size.toNat+1) s (I.mono L) a o p r l K ε) ?_;rintro h F⟨W,P⟩;cases z:ey k b (a.size.toNat+1) a with
 |none=>rw[z]at P;obtain rfl:=P;refine aa ?_;exact π L W
 |some c=>
  rw[z]at P;obtain⟨d,y,rfl,g,t⟩:=P;obtain⟨i,Y⟩:=M c z;obtain⟨l1,Z⟩:=rU z;by_cases u:c=[]
  .subst u;obtain rfl:d=[]:=a7y t.len;obtain rfl:C=[]:=i.eq_nil;have k2:(∃S,y=.J [] S)\/∃c T a,y=.ar c 0 T a:=by
    rcases g.2 with⟨_,v|v⟩|⟨c,w,T,l2,v,_,_,_,_,l3,_⟩
    .simp_all
    .simp_all
    simp_all
   refine aa ?_;refine ak (a2Z Tryz.Gn k2) ?_;rintro _ _⟨rfl,rfl⟩;refine aa ?_;obtain⟨w,l4,l5,k3,D⟩:=View.dq g;have:eZ 1 w ([])=[]:=by rw[ki,abB]
   rw[this]at D;exact⟨_,ι,_,_,_,rfl,D,π L k3,trivial⟩
  .obtain⟨V,T,rfl,l6,k4⟩:=GZ (a2I b) g t Z ε u i Y 65 [] (λA S B=>by cases B) (λV=>.inl rfl) abY (λA k5 S k6 B l7=>(a3a A k5 S k6 _ ε).mono λh x G=>G.2);refine aa ?_;refine ak k4 ?_;rintro _ l8⟨rfl,e,_,l9,n0,H,k7,_⟩;have n2:=H.len;have n3:=i.length_eq;have D:=View.GY (e:=β c) (I:=T) (i:=1) k7 (by rw[Ρ];omega);rw[ki,a9M ε]at D;refine aa ?_;exact⟨_,ι,_,_,_,rfl,D,π L e,H⟩
def aF.rows:aF->List Ω
 |.nil=>[]
 |.node a _ b c=>a::(b.rows++c.rows)
theorem aF.gV:∀ {c:aF}{b:Ω},b∈c.all->b∈c.rows
 |.nil,b,a=>a
 |.node d live f h,b,a=>by
  simp only[aF.all,Ψ]at a;simp only[aF.rows,a7S,Ψ];rcases a with (a|a)|a
  .exact .inr (.inl (aF.gV a))
  .exact .inr (.inr (aF.gV a))
  .cases live<;>simp at a;exact .inl a
def aF.ca(a:Nat)(b:aF):Prop:=∀c∈b.rows,bJ a c
def aF.ca.a{a:Nat}{c:Ω}{d:Bool}{b f:aF}(h:(aF.node c d b f).ca a):b.ca a:=λk o=>h k (by simp[aF.rows,o])
def aF.ca.b{a:Nat}{c:Ω}{d:Bool}{f b:aF}(h:(aF.node c d f b).ca a):b.ca a:=λk o=>h k (by simp[aF.rows,o])
def aF.ca.r{b:Nat}{a:Ω}{c:Bool}{d f:aF}(h:(aF.node a c d f).ca b):bJ b a:=h a (by simp[aF.rows])
variable{M:Bool}{b4:aF}{n b5:Ω}{e i t I b3 e5:Nat}
def aF.ca.mk{b:aF}(d:bJ e n)(f:b4.ca e)(h:b.ca e):(aF.node n M b4 b).ca e:=λc a=>by
 simp only[aF.rows,a7S,Ψ]at a;rcases a with rfl|a|a
 .exact d
 .exact f c a
 .exact h c a
theorem aF.ca.ok{b:Nat}:∀ {c:aF},c.ca b->c.Ok b
 |.nil,_=>trivial
 |.node _ _ _ _,a=>⟨a.r.len,a.a.ok,a.b.ok⟩
def br:aF->aj
 |.nil=>aG
 |.node a live b c=>gA (cD (a,live) (br b) (br c))
structure ly(d:Nat)(t:aF)(k:aj):Prop where
 sum:β k.sum=32
 live:k.live=(β t.all:Int)
 size:k.size=(t.size:Int)
 aY:(β t.all=0/\k.az=[]/\k.aE=[])\/(0<β t.all/\gR d (k.az,k.aE))
 key:k.key=[]
 z:t=.nil->k=aG
theorem ly.ok{c:Nat}{a:aF}{d:aj}(b:ly c a d)(x:a.size<=1048576):fl c d=true:=by
 have y:=b.size;have z:=b.live;have C:=me a;unfold fl;cases a with
 |nil=>rw[decide_eq_true (b.z rfl),Bool.true_or]
 |node f h k o=>
  have D:1<=(aF.node f h k o).size:=by simp only[Ο];omega
  generalize aF.node f h k o=a at*;rw[a8Y];right;rw[Κ];refine⟨Ι,?_⟩;rcases b.aY with⟨r,p,E⟩|⟨r,p⟩;grind
  .rw[if_neg ε];exact p.ok
variable{A j6:aj}
theorem ly.o8(a:ly e b4 A)(o:b4.size<=1048576):A.In e:=by
 have p:=a.size;have r:=a.live;have x:=me b4;have b:bs A.az/\bs A.aE/\β A.az<=e/\β A.aE<=e:=by
  rcases a.aY with⟨f,c,y⟩|⟨f,c⟩;grind
  .have d:=iA.1 c.ok;have z:β A.az=e:=d.2.2.1;have C:β A.aE=e:=d.2.2.2.1;exact⟨c.az,c.aE,ε,ε⟩
 have h:bs A.key:=by rw[a.key];intro D k;cases k
 exact⟨a.sum,b.1,b.2.1,h,b.2.2.1,b.2.2.2,by rw[a.key];simp,ε,ε,ε,ε⟩
theorem A1{a:fY}(d:mY i e a)(h:ly i b4 A):mY i (e+β b4.all) (fw a A):=by
 have k:(fw a A).live=((e+β b4.all:Nat)):=by show a.live+A.live= _;rw[d.live,h.live];push_cast;rfl
 refine⟨k,?_⟩;show(e+β b4.all=0/\et a.aY (A.az,A.aE)=([],[]))\/(0<e+β b4.all/\gR i (et a.aY (A.az,A.aE)));rcases h.aY with⟨o,b,p⟩|⟨o,b⟩
 .rw[b,p];rcases d.aY with⟨f,c⟩|⟨f,c⟩;grind[a1K];grind[zc]
 .right;refine⟨ε,?_⟩;rcases d.aY with⟨f,c⟩|⟨f,c⟩
  .rw[c,p2 b];exact b
  .exact vx c b
def A2:ly e .nil aG:=⟨rfl,rfl,rfl,.inl ⟨rfl,rfl,rfl⟩,rfl,λ_=>rfl⟩
def vS(z:1<=e)(C:e<=8){a:aF}(h:bJ e n)(b:ly e b4 A)(c:ly e a j6)(S:b4.size+a.size<1048576):
  (cD (n,M) A j6).In e/\ly e (.node n M b4 a) (gA (cD (n,M) A j6))/\ga e (cD (n,M) A j6)=γ (gA (cD (n,M) A j6)):=by
 have o:ea e (cD (n,M) A j6)=true:=by unfold ea cD;simp[h.len,b.ok ε,c.ok ε,b.key,c.key]
 have p:=ze z C h;have D:mY e (if M=ζ then 1 else 0) (eu ⟨0,1,([],[])⟩ (n,M)):=by
  cases M with
  |false=>exact⟨rfl,.inl ⟨rfl,rfl⟩⟩
  |true=>refine⟨rfl,.inr ⟨Μ,?_⟩⟩;show gR e (et ([],[]) (gM n));rw[p2 p];exact p
 have k:=A1 (A1 D b) c;have r:fx (cD (n,M) A j6)=fw (fw (eu ⟨0,1,([],[])⟩ (n,M)) A) j6:=rfl;have E:(aF.node n M b4 a).all.length=(if M=ζ then 1 else 0)+β b4.all+β a.all:=by simp only[aF.all,Ρ];split<;>simp<;>omega
 rw[<-r,<-E]at k;have x:(fx (cD (n,M) A j6)).size=((aF.node n M b4 a).size):=by
  rw[r];have d:(eu ⟨0,1,([],[])⟩ (n,M)).size=1:=by cases M<;>rfl
  show(eu ⟨0,1,([],[])⟩ (n,M)).size+A.size+j6.size= _;rw[d,b.size,c.size,Ο];push_cast;rfl
 refine⟨⟨o,λF G=>?_,λy L=>?_⟩,⟨q7 _,k.live,x,?_,?_,λP=>by cases P⟩,?_⟩
 .obtain rfl:F=(n,M):=by simpa[cD] using G
  exact h.iY
 .have:y=A\/y=j6:=by simpa[cD] using L
  rcases this with rfl|rfl
  .exact b.o8 ε
  .exact c.o8 ε
 .rcases k.aY with⟨d,f⟩|⟨d,f⟩
  .left;refine⟨d,?_,?_⟩
   .show(fx _).aY.1=[];rw[f]
   .show(fx _).aY.2=[];rw[f]
  .exact .inr ⟨d,f⟩
 .show keyOf (cD (n,M) A j6)=[];unfold keyOf cD;rfl
 .unfold ga;rw[if_pos o,if_neg (by rw[x];simp only[Ο];omega)]
def fR{a:Nat}(c:1<=a)(d:a<=8):∀ {b:aF},b.ca a->b.size<=1048576->ly a b (br b)
 |.nil,_,_=>A2
 |.node k live o p,f,h=>by
  simp only[Ο]at h;exact(vS c d f.r (fR c d f.a ε) (fR c d f.b ε) ε).2.1
def dM(a:af):aF->Prop
 |.nil=>True
 |.node d live b c=>a.m (fZ (dX (cD (d,live) (br b) (br c))))=γ (dX (cD (d,live) (br b) (br c)))/\dM a b/\dM a c
def dM.mono{c d:af}(a:c.le d):∀ {f:aF},dM c f->dM d f
 |.nil,_=>trivial
 |.node _ _ _ _,b=>⟨a.m _ _ b.1,b.2.1.mono a,b.2.2.mono a⟩
def A3(c:1<=e)(d:e<=8){a:aF}(f:(aF.node n M b4 a).ca e)(h:(aF.node n M b4 a).size<=1048576):br (.node n M b4 a)≠aG:=λk=>by
 have b:=(fR c d f h).size;rw[k]at b;have:(aG).size=0:=rfl;simp only[Ο]at b;omega
variable{H:af}
def rV(b:1<=e)(c:e<=8){a:aF}(d:(aF.node n M b4 a).ca e)(f:(aF.node n M b4 a).size<=1048576)(h:dM H (.node n M b4 a)):di H e (br (.node n M b4 a))=γ (cD (n,M) (br b4) (br a)):=by have k:=f;simp only[Ο]at k;obtain⟨o,r,p⟩:=vS (M:=M) b c d.r (fR b c d.a ε) (fR b c d.b ε) ε;unfold di;rw[show H.m (br (.node n M b4 a)).sum=γ (dX (cD (n,M) (br b4) (br a)))from h.1];simp only;rw[Ep ε o];simp only;rw[p];exact if_pos rfl
def vT(b:1<=e)(c:e<=8){a:aF}(d:(aF.node n M b4 a).ca e)(f:(aF.node n M b4 a).size<=1048576)(h:dM H (.node n M b4 a)):lp H e (br (.node n M b4 a))=γ ((n,M),[br b4,br a]):=by unfold lp;rw[rV b c d f h];rfl
theorem A4{b:Nat}(c:1<=b)(d:b<=8){r:af}:∀ {a:aF}{z:Nat},a.ca b->a.size<=1048576->dM r a->a.size<z->∃x,ey r b z (br a)=γ x/\x.Perm a.all
 |a,0,_,_,_,y=>by omega
 |.nil,z+1,_,_,_,_=>⟨[],by rw[ey];rfl,.refl _⟩
 |.node D live f h,z+1,k,o,p,y=>by
  have E:=fR c d k o;have F:=o;simp only[Ο]at F y;rw[ey];by_cases C:(br (.node D live f h)).live=0
  .rw[if_pos C];have P:=E.live;simp_all
  .rw[if_neg C,vT c d k o p];obtain⟨S,G,T⟩:=A4 c d (z:=z) k.a ε p.2.1 ε;obtain⟨V,L,W⟩:=A4 c d (z:=z) k.b ε p.2.2 ε
   dsimp only
   rw[show [br f,br h].getD 0 aG=br f from rfl,show [br f,br h].getD 1 aG=br h from rfl,G,L];refine⟨_,rfl,?_⟩;grind[aF.all,List.append_assoc]
def H9(a:1<=e)(b:e<=8)(c:b4.ca e)(d:b4.size<=1048576)(h:dM H b4):∃f,ey H e ((br b4).size.toNat+1) (br b4)=γ f/\f.Perm b4.all:=by have k:=(fR a b c d).size;exact A4 a b c d h ε
structure gF(a:af)(t:aF)(r:Except Int aj×af):Prop where
 le:a.le r.2
 ins:r.2.one=κ->r.1=.ok (br t)/\dM r.2 t
def gF.bind{k:aF}{f:Except Int aj×af}{h:aj->af->Except Int aj×af}(c:gF H b4 f)(o:∀(b:aj) (a:af),a.le (h b a).2)(x:∀a,H.le a->a.one=κ->dM a b4->gF a k (h (br b4) a)):
  gF H k (match(generalizing:=false) f with
   |(.error p,a)=>(.error p,a)
   |(.ok b,a)=>h b a):=by
 obtain⟨y,a⟩:=f;cases y with
 |error p=>exact⟨c.le,λd=>by cases (c.ins d).1⟩
 |ok b=>refine⟨c.le.trans (o b a),λd=>?_⟩;have r:=(o b a).zero d;obtain⟨z,C⟩:=c.ins r;obtain rfl:=Except.ok.inj z;exact(x a c.le r C).ins d
theorem vU(c:Nat):∀(h:Nat)(d:af)(b:List Ω)(dep:Nat),d.le (je c h d b dep).2
 |0,d,_,_=>Ε
 |h+1,d,b,dep=>by
  rw[je];split
  .exact Ε
  have f:=vU c h d ((ew (dep%c) b).take (β b/2)) (dep+1);split
  .rename_i a;rw[a]at f;exact f
  rename_i p o a;rw[a]at f;have k:=vU c h o ((ew (dep%c) b).drop (β b/2+1)) (dep+1);split
  .rename_i a;rw[a]at k;exact f.trans k
  rename_i r x a;rw[a]at k;exact(f.trans k).trans (kt)
theorem vV(a:af)(b:Nat)(c:aj)(d:Nat):a.le (nh a b c d).2:=by grind[nh,Ε,vU]
theorem tU(b:af)(d:Nat)(f:Ω×Bool)(h k:aj)(o:Nat):b.le (ni b d f h k o).2:=by
 unfold ni;have a:=kt (H:=b) (e:=d) (c0:=cD f h k);split
 .rename_i c;rw[c]at a;exact a
 rename_i c;rw[c]at a;split
 .exact a.trans (vV _ _ _ _)
 .exact a
def rW(b:1<=e)(c:e<=8){a:aF}(d:(aF.node n M b4 a).ca e)(h:(aF.node n M b4 a).size<=1048576)(k:dM H b4)(o:dM H a):gF H (.node n M b4 a) (dL H e (cD (n,M) (br b4) (br a))):=by simp only[Ο]at h;obtain⟨x,y,p⟩:=vS (M:=M) b c d.r (fR b c d.a ε) (fR b c d.b ε) ε;rw[rI p];have f:=lZ H (dX (cD (n,M) (br b4) (br a)));exact⟨f,λr=>⟨rfl,rH r,k.mono f,o.mono f⟩⟩
theorem rX{f:Nat}:∀ {h:Nat}{b:List Ω}{dep:Nat}{c:Ω},c∈(gk f h b dep).rows->c∈b
 |0,_,_,_,a=>by trivial
 |h+1,b,dep,c,a=>by
  rw[gk]at a;by_cases d:b=[]
  .rw[if_pos d]at a;trivial
  rw[if_neg d]at a;have k:=a8l.2 d;have o:=qi (dep%f) b;simp only[aF.rows,a7S,Ψ]at a;rcases a with rfl|a|a
  .rw[a7V,Τ ε];exact rM.1 (a8b _)
  .exact rM.1 (a7J (rX a))
  .exact rM.1 (a7U (rX a))
def A5(b:Nat)(a:List Ω)(c:Nat)(d:∀f∈a,bJ e f):(gk e b a c).ca e:=λh k=>d h (rX k)
theorem A6{b:Nat}(D:1<=b)(E:b<=8):∀(d:Nat)(r:af)(a h:List Ω)(dep:Nat),h.Perm a->(∀c∈a,bJ b c)->β a<=d->β a<=1048576->gF r (gk b d a dep) (je b d r h dep)
 |0,r,a,h,dep,_,_,_,_=>⟨Ε,λ_=>⟨rfl,trivial⟩⟩
 |d+1,r,a,h,dep,z,x,s,t=>by
  have S:=z.length_eq;by_cases C:a=[]
  .subst C;obtain rfl:h=[]:=z.eq_nil;rw[je,if_pos rfl,gk,if_pos rfl];exact⟨Ε,λ_=>⟨rfl,trivial⟩⟩
  have T:h≠[]:=λV=>C (by subst V;simp_all);have u:=a8l.2 C;have W:ew (dep%b) h=ew (dep%b) a:=by obtain⟨F,e⟩:=tT λk y=>(x k y).len;obtain⟨g,i⟩:=tT λk y=>(x k (z.mem_iff.1 y)).len;exact zS (qm b _) (λk y=>(x k (F.mem_iff.1 y)).len) (g.trans (z.trans F.symm)) e i
  rw[je,if_neg T,gk,if_neg C,W,S];have v:=qi (dep%b) a;have hm:=λk=>rM (e:=dep%b) (Q:=a) (n:=k);generalize ew (dep%b) a=f at*;have G:∀c∈f.take (β a/2),bJ b c:=λc o=>x c ((hm c).1 (a7J o));have L:∀c∈f.drop (β a/2+1),bJ b c:=λc o=>x c ((hm c).1 (a7U o));have w:(f.take (β a/2)).length=β a/2:=by rw[a7z];omega
  have A:(f.drop (β a/2+1)).length=β a -(β a/2+1):=by rw[a7F];omega
  have B:=rN b d (f.take (β a/2)) (dep+1);have H:=rN b d (f.drop (β a/2+1)) (dep+1);have j:bJ b (f.getD (β a/2) []):=by grind
  refine gF.bind (A6 D E d r _ _ (dep+1) (.refl _) G ε ε) (λl P=>?_) λm I K n=>?_
  .have p:=vU b d P (f.drop (β a/2+1)) (dep+1);split
   .rename_i o;rw[o]at p;exact p
   .rename_i o;rw[o]at p;exact p.trans (kt)
  .refine gF.bind (A6 D E d m _ _ (dep+1) (.refl _) L ε ε) (λl P=>kt) λM p N q=>?_;exact rW D E (aF.ca.mk j (A5 _ _ _ G) (A5 _ _ _ L)) (by simp only[Ο];omega) (n.mono p) q
def Ha(b:1<=e)(c:e<=8)(d:b4.ca e)(h:b4.size<=1048576)(k:dM H b4)(a:Nat):gF H (gk e (β b4.all) b4.all a) (nh H e (br b4) a):=by
 obtain⟨x,o,f⟩:=H9 b c d h k;have y:=me b4;unfold nh;rw[o]
 dsimp only
 rw[f.length_eq];exact A6 b c _ H _ _ a f (λp r=>d p (aF.gV r)) (Χ _) ε
theorem A7(c:1<=e)(d:e<=8){a:aF}(b:(aF.node n M b4 a).ca e)(f:(aF.node n M b4 a).size<=1048576)(o:dM H b4)(p:dM H a)(h:Nat):gF H (hY e (.node n M b4 a) h) (ni H e (n,M) (br b4) (br a) h):=by
 have r:=f;simp only[Ο]at r;have z:=(fR c d b f).size;have C:=(fR c d b.a ε).size;have D:=(fR c d b.b ε).size;unfold ni;refine gF.bind (rW c d b f o p) (λE F=>?_) λG L P x=>?_;grind[vV,Ε]
 .have y:((2*(br (.node n M b4 a)).size).tdiv 3+1<max (br b4).size (br a).size)↔max b4.size a.size>2*(aF.node n M b4 a).size/3+1:=by grind
  unfold hY
  dsimp only
  by_cases k:max b4.size a.size>2*(aF.node n M b4 a).size/3+1;simp_all [Ha]
  .rw[if_neg (λb=>k (y.1 b)),if_neg k];exact⟨Ε,λ_=>⟨rfl,x⟩⟩
theorem A8(a:n∈(hY e b4 i).rows):n∈b4.rows:=by unfold hY at a;grind[aF.gV,rX]
theorem tV{f:Nat}{d:Ω}:∀ {p:aF}{dep:Nat}{c:Ω},c∈(dc f d p dep).1.rows->c=d\/c∈p.rows
 |.nil,dep,c,b=>by
  grind[dc,aF.rows,List.mem_singleton]
 |.node h live k o,dep,c,b=>by
  rw[dc]at b;split at b
  .have:=A8 (b4:=.node h ζ k o) b;exact .inr this
  split at b
  .have a:=A8 (b4:=.node h live (dc f d k (dep+1)).1 o) b;simp only[aF.rows,a7S,Ψ]at a|-;rcases a with a|a|a
   .simp_all
   .exact(tV a).imp_right λb=>.inr (.inl b)
   .simp_all
  .have a:=A8 (b4:=.node h live k (dc f d o (dep+1)).1) b;simp only[aF.rows,a7S,Ψ]at a|-;rcases a with a|a|a
   .simp_all
   .simp_all
   .exact(tV a).imp_right λb=>.inr (.inr b)
def qq(b:bJ e n)(c:b4.ca e):(dc e n b4 i).1.ca e:=λd a=>by
 rcases tV a with rfl|a
 .exact b
 .exact c d a
theorem A9{f:Nat}{h:Ω}:∀(d:Nat)(c:af)(k:aj)(dep:Nat),c.le (jP f h d c k dep).2
 |0,c,_,_=>Ε
 |d+1,c,k,dep=>by
  rw[jP];split
  .exact kt
  split
  .exact Ε
  rename_i p o r;split;grind[Ε,tU];split
  .have a:=A9 (f:=f) (h:=h) d c (o.getD 0 aG) (dep+1);split
   .rename_i b;rw[b]at a;exact a
   .rename_i b;rw[b]at a;exact a.trans (tU _ _ _ _ _ _)
  .have a:=A9 (f:=f) (h:=h) d c (o.getD 1 aG) (dep+1);split
   .rename_i b;rw[b]at a;exact a
   .rename_i b;rw[b]at a;exact a.trans (tU _ _ _ _ _ _)
def Aa{f:Nat}{h:Ω}:∀(d:Nat)(c:af)(k:aj)(dep:Nat),c.le (gU f h d c k dep).2
 |0,c,_,_=>Ε
 |d+1,c,k,dep=>by
  rw[gU];split
  .exact Ε
  split
  .exact Ε
  rename_i p o r;split
  .split
   .exact kt
   .exact Ε
  split
  .have a:=Aa (f:=f) (h:=h) d c (o.getD 0 aG) (dep+1);split
   .rename_i b;rw[b]at a;exact a
   .rename_i b;rw[b]at a;exact a.trans (kt)
  .have a:=Aa (f:=f) (h:=h) d c (o.getD 1 aG) (dep+1);split
   .rename_i b;rw[b]at a;exact a
   .rename_i b;rw[b]at a;exact a.trans (kt)
theorem a3c(b:af)(c:aj):b.le (jf e n b c).2:=by
 unfold jf;have a:=Aa (f:=e) (h:=n) (c.size.toNat+1) b c 0;split
 .rename_i d;rw[d]at a;exact a
 rename_i d;rw[d]at a;split
 .exact a.trans (vV _ _ _ _)
 .exact a
theorem Ab{b:Nat}(c:1<=b)(d:b<=8){f:Ω}(x:bJ b f):∀(h:aF)(k:af)(p dep:Nat),h.ca b->h.size+1<=1048576->dM k h->h.size<p->(dc b f h dep).2=ζ->gF k (dc b f h dep).1 (jP b f p k (br h) dep)
 |h,k,0,dep,_,_,_,G,_=>by omega
 |.nil,k,p+1,dep,_,_,_,_,_=>by
  rw[jP,if_pos (show br .nil=aG from rfl),dc];exact rW c d (aF.ca.mk x (λP C=>by cases C) (λP C=>by cases C)) (by trivial) trivial trivial
 |.node L live y z,k,p+1,dep,a,S,o,G,r=>by
  have T:=S;simp only[Ο]at T G;rw[jP,if_neg (A3 c d a ε),vT c d a ε o]
  dsimp only
  rw[show [br y,br z].getD 0 aG=br y from rfl,show [br y,br z].getD 1 aG=br z from rfl];rw[dc]at r|-;by_cases D:L=f
  .simp only[if_pos D]at r|-;have V:live=false:=by simp_all
   rw[if_neg (by rw[V];simp)];exact A7 c d (aF.ca.mk a.r a.a a.b) (by simp only[Ο];omega) o.2.1 o.2.2 dep
  .by_cases c2:cM (dep%b) f L<0
   .simp only[if_neg D,if_pos c2]at r|-;have W:=qj b f y (dep+1);exact gF.bind (Ab c d x y k p (dep+1) a.a ε o.2.1 ε r) (λe g=>tU _ _ _ _ _ _) λi E j F=>A7 c d (aF.ca.mk a.r (qq x a.a) a.b) (by simp only[Ο];omega) F (o.2.2.mono E) dep
   .simp only[if_neg D,if_neg c2]at r|-;have W:=qj b f z (dep+1);exact gF.bind (Ab c d x z k p (dep+1) a.b ε o.2.2 ε r) (λe g=>tU _ _ _ _ _ _) λi E j F=>A7 c d (aF.ca.mk a.r a.a (qq x a.b)) (by simp only[Ο];omega) (o.2.1.mono E) F dep
def tW{b:Nat}{c:Ω}:∀ {a:aF}{dep:Nat},(cp b c a dep).1.rows=a.rows
 |.nil,dep=>rfl
 |.node d live f h,dep=>by
  rw[cp];split
  .rfl
  split
  .show _::(_++ _)= _::(_++ _);rw[tW]
  .show _::(_++ _)= _::(_++ _);rw[tW]
def tX(a:b4.ca e):(cp e n b4 i).1.ca e:=λb c=>a b (by rwa[tW]at c)
def Ac{c:Nat}(h:1<=c)(k:c<=8){o:Ω}:∀(d:aF)(f:af)(r dep:Nat),d.ca c->d.size<=1048576->dM f d->d.size<r->(cp c o d dep).2=ζ->gF f (cp c o d dep).1 (gU c o r f (br d) dep)
 |d,f,0,dep,_,_,_,F,_=>by omega
 |.nil,f,r+1,dep,_,_,_,_,b=>by rw[cp]at b;cases b
 |.node G live x y,f,r+1,dep,a,z,p,F,b=>by
  have L:=z;simp only[Ο]at L F;rw[gU,if_neg (A3 h k a z),vT h k a z p]
  dsimp only
  rw[show [br x,br y].getD 0 aG=br x from rfl,show [br x,br y].getD 1 aG=br y from rfl];rw[cp]at b|-;by_cases C:G=o
  .simp only[if_pos C]at b|-;rw[if_pos b];exact rW h k (aF.ca.mk a.r a.a a.b) (by simp only[Ο];omega) p.2.1 p.2.2
  .by_cases c2:cM (dep%c) o G<0
   .simp only[if_neg C,if_pos c2]at b|-;have P:=qk c o x (dep+1);exact gF.bind (Ac h k x f r (dep+1) a.a ε p.2.1 ε b) (λS T=>kt) λV D W E=>rW h k (aF.ca.mk a.r (tX a.a) a.b) (by simp only[Ο];omega) E (p.2.2.mono D)
   .simp only[if_neg C,if_neg c2]at b|-;have P:=qk c o y (dep+1);exact gF.bind (Ac h k y f r (dep+1) a.b ε p.2.2 ε b) (λS T=>kt) λV D W E=>rW h k (aF.ca.mk a.r a.a (tX a.b)) (by simp only[Ο];omega) (p.2.1.mono D) E
theorem Ad{b:Nat}(f:1<=b)(h:b<=8){k:Ω}{x:af}:∀(a:aF)(c dep:Nat),a.ca b->a.size<=1048576->dM x a->a.size<c->(cp b k a dep).2=κ->gU b k c x (br a) dep=(.error 9,x)
 |a,0,dep,_,_,_,C,_=>by omega
 |.nil,c+1,dep,_,_,_,_,d=>by rw[gU];rfl
 |.node D live o p,c+1,dep,r,y,z,C,d=>by
  have F:=y;simp only[Ο]at F C;rw[gU,if_neg (A3 f h r y),vT f h r y z]
  dsimp only
  rw[show [br o,br p].getD 0 aG=br o from rfl,show [br o,br p].getD 1 aG=br p from rfl];rw[cp]at d;by_cases E:D=k;simp_all
  .by_cases c2:cM (dep%b) k D<0
   .simp only[if_neg E,if_pos c2]at d|-;rw[Ad f h o c (dep+1) r.a ε z.2.1 ε d]
   .simp only[if_neg E,if_neg c2]at d|-;rw[Ad f h p c (dep+1) r.b ε z.2.2 ε d]
def a3d(a:1<=e)(b:e<=8)(d:bJ e n)(c:b4.ca e)(f:b4.size+1<=1048576)(h:dM H b4)(k:(dc e n b4 0).2=ζ):gF H (dc e n b4 0).1 (oh e n H (br b4)):=by have:=(fR a b c ε).size;exact Ab a b d b4 H _ 0 c f h ε k
theorem Hb(a:1<=e)(b:e<=8)(c:b4.ca e)(d:b4.size<=1048576)(f:dM H b4)(h:(cp e n b4 0).2=κ):jf e n H (br b4)=(.error 9,H):=by have:=(fR a b c d).size;grind[jf,Ad]
theorem a3e(b:1<=e)(c:e<=8)(a:b4.ca e)(d:b4.size<=1048576)(r:dM H b4)(f:(cp e n b4 0).2=ζ):gF H (mf e n b4).1 (jf e n H (br b4)):=by
 have x:=(fR b c a d).size;have y:=qk e n b4 0;have h:=tX (n:=n) (i:=0) a;have k:=fR b c h ε;have z:=k.size;have C:=k.live;unfold jf;refine gF.bind (Ac b c b4 H _ 0 a d r ε f) (λD E=>?_) λF G L o=>?_;grind[vV,Ε]
 .unfold mf;by_cases p:2*(cp e n b4 0).1.all.length<(cp e n b4 0).1.size
  .rw[if_pos (show(cp e n b4 0).2=ζ/\2*(cp e n b4 0).1.all.length<(cp e n b4 0).1.size from⟨f,p⟩),if_pos (show 2*(br (cp e n b4 0).1).live<(br (cp e n b4 0).1).size by omega)];exact Ha b c h ε o 0
  .rw[if_neg (show¬((cp e n b4 0).2=ζ/\2*(cp e n b4 0).1.all.length<(cp e n b4 0).1.size)from λa=>p a.2),if_neg (show¬2*(br (cp e n b4 0).1).live<(br (cp e n b4 0).1).size by omega)];exact⟨Ε,λ_=>⟨rfl,o⟩⟩
def aF.lz(a:Nat):aF->Nat->Prop
 |.nil,_=>True
 |.node c _ d f,dep=>(∀b∈d.rows,cM (dep%a) b c<0)/\(∀b∈f.rows,cM (dep%a) c b<0)/\d.lz a (dep+1)/\f.lz a (dep+1)
def aF.rY{c:Nat}:∀ {h:aF}{dep:Nat},h.ca c->h.lz c dep->h.all.Pairwise (·≠ ·)
 |.nil,_,_,_=>.nil
 |.node x live C D,dep,b,⟨h1,p,y,z⟩=>by
  have k:=qm c (dep%c);rw[aF.all];refine a8t.2 ⟨a8t.2 ⟨aF.rY b.a y,aF.rY b.b z,λd a r f o=>?_⟩,by cases live<;>simp,λd a r f o=>?_⟩
  .subst o;exact k.zR (b.a d (aF.gV a)).len b.r.len (h1 d (aF.gV a)) (p d (aF.gV f))
  .obtain rfl:r=x:=by cases live<;>simp at f;exact f
   subst o;rcases Ψ.1 a with a|a
   .exact k.jH _ b.r.len (h1 _ (aF.gV a))
   .exact k.jH _ b.r.len (p _ (aF.gV a))
variable{Q:List Ω}
theorem Hc(a:e<β Q):Q=Q.take e++Q.getD e []::Q.drop (e+1):=by simp_all
theorem vW{f:Nat}:∀(c:Nat)(a:List Ω)(dep:Nat),β a<=c->(∀b∈a,β b=f)->(gk f c a dep).all.Perm a
 |0,a,dep,r,_=>by
  obtain rfl:a=[]:=a7y ε;rfl
 |c+1,a,dep,r,o=>by
  rw[gk];by_cases h:a=[]
  .rw[if_pos h,h];rfl
  rw[if_neg h];have x:=a8l.2 h;have p:=(tT (e:=dep%f) o).1;have y:=p.length_eq;have hm:=λb d=>o b (p.mem_iff.1 d);generalize ew (dep%f) a=k at*;have z:=Hc (Q:=k) (e:=β a/2) ε;have C:=vW c (k.take (β a/2)) (dep+1) (by rw[a7z];omega) λb d=>hm b (a7J d);have D:=vW c (k.drop (β a/2+1)) (dep+1) (by rw[a7F];omega) λb d=>hm b (a7U d);rw[aF.all,if_pos rfl];grind
def Ae(a:b4.ca e):(hY e b4 i).all.Perm b4.all:=by
 unfold hY;split
 .rfl
 .split
  .exact vW _ _ _ (Χ _) λb c=>(a b (aF.gV c)).len
  .rfl
theorem Af{d:Nat}{b:Ω}(f:bJ d b):∀ {h:aF}{dep:Nat},h.ca d->(dc d b h dep).2=ζ->(dc d b h dep).1.all.Perm (b::h.all)
 |.nil,dep,_,_=>.refl _
 |.node o live r x,dep,a,c=>by
  rw[dc]at c|-;by_cases k:o=b
  .simp only[if_pos k]at c|-;have p:live=false:=by simp_all
   refine(Ae (aF.ca.mk a.r a.a a.b)).trans ?_;simp only[aF.all,if_pos,p,k];grind
  .by_cases c2:cM (dep%d) b o<0
   .simp only[if_neg k,if_pos c2]at c|-;refine(Ae (aF.ca.mk a.r (qq f a.a) a.b)).trans ?_;exact((Af f a.a c).append_right _).append_right _
   .simp only[if_neg k,if_neg c2]at c|-;refine(Ae (aF.ca.mk a.r a.a (qq f a.b))).trans ?_;refine(((Af f a.b c).append_left _).append_right _).trans ?_;exact a9E.append_right _
theorem Ag{c:Nat}{b:Ω}:∀ {d:aF}{dep:Nat},(dc c b d dep).2=κ->b∈d.all
 |.nil,dep,a=>by rw[dc]at a;cases a
 |.node f live k o,dep,a=>by
  rw[dc]at a;simp only[aF.all,Ψ];by_cases h:f=b;simp_all
  .by_cases c2:cM (dep%c) b f<0
   .simp only[if_neg h,if_pos c2]at a;exact .inl (.inl (Ag a))
   .simp only[if_neg h,if_neg c2]at a;exact .inl (.inr (Ag a))
theorem vX{d:Nat}{b:Ω}:∀ {f:aF}{dep:Nat},(cp d b f dep).2=ζ->f.all.Perm (b::(cp d b f dep).1.all)
 |.nil,dep,a=>by rw[cp]at a;cases a
 |.node h live k o,dep,a=>by
  rw[cp]at a|-;by_cases c:h=b
  .simp only[if_pos c]at a|-;simp only[aF.all,if_pos a,c];grind
  .by_cases c2:cM (dep%d) b h<0
   .simp only[if_neg c,if_pos c2]at a|-;exact((vX a).append_right _).append_right _
   .simp only[if_neg c,if_neg c2]at a|-;refine(((vX a).append_left _).append_right _).trans ?_;exact a9E.append_right _
theorem Ah{b:Nat}{d:Ω}(h:β d=b):∀ {k:aF}{dep:Nat},k.ca b->k.lz b dep->(cp b d k dep).2=κ->d∉k.all
 |.nil,dep,_,_,_=>λf=>by cases f
 |.node p live D E,dep,f,⟨h1,x,z,C⟩,c=>by
  have r:=qm b (dep%b);intro a;rw[cp]at c;simp only[aF.all,Ψ]at a;by_cases o:p=d
  .simp only[if_pos o]at c;subst o;rcases a with (a|a)|a
   .exact r.jH _ h (h1 _ (aF.gV a))
   .exact r.jH _ h (x _ (aF.gV a))
   .rw[c]at a;simp at a
  .have y:d∉(if live=ζ then [p]else []):=λf=>by
    simp_all
   by_cases c2:cM (dep%b) d p<0
   .simp only[if_neg o,if_pos c2]at c;rcases a with (a|a)|a
    .exact Ah h f.a z c a
    .exact r.zR h f.r.len c2 (x _ (aF.gV a))
    .exact y a
   .simp only[if_neg o,if_neg c2]at c;rcases a with (a|a)|a
    .exact c2 (h1 _ (aF.gV a))
    .exact Ah h f.b C c a
    .exact y a
theorem vY{a:Nat}:∀(o:Nat)(c:List Ω)(dep:Nat),(∀b∈c,β b=a)->c.Pairwise (·≠ ·)->(gk a o c dep).lz a dep
 |0,_,_,_,_=>trivial
 |o+1,c,dep,y,C=>by
  rw[gk];by_cases p:c=[]
  .rw[if_pos p];trivial
  rw[if_neg p];have g:=a8l.2 p;obtain⟨r,D⟩:=tT (e:=dep%a) y;have i:=r.length_eq;have hm:=λb d=>y b (r.mem_iff.1 d);have x:(ew (dep%a) c).Pairwise (·≠ ·):=r.symm.pairwise C λh=>h.symm;have E:=qm a (dep%a);have z:(ew (dep%a) c).Pairwise (λF G=>cM (dep%a) F G<0):=by
   refine aaB ?_ (D.and x);intro f b k d j;rcases E.rT f b (hm f k) (hm b d)with h|h|h
   .exact h
   .simp_all
   .omega
  generalize ew (dep%a) c=L at*;have P:=Hc (Q:=L) (e:=β c/2) ε;rw[P]at z x;obtain⟨l,S,T⟩:=a8t.1 z;obtain⟨V,m⟩:=a7W.1 S;obtain⟨W,e,_⟩:=a8t.1 x;refine⟨λf k=>T f (rX k) _ σ,λf k=>V f (rX k),?_,?_⟩
  .exact vY o _ _ (λb d=>hm b (a7J d)) W
  .exact vY o _ _ (λb d=>hm b (a7U d)) (a7W.1 e).2
def Ai(a:b4.ca e)(b:b4.lz e i):(hY e b4 i).lz e i:=by
 unfold hY;split
 .trivial
 .split
  .exact vY _ _ _ (λc d=>(a c (aF.gV d)).len) (aF.rY a b)
  .exact b
theorem Aj{c:Nat}{h:Ω}(f:bJ c h):∀ {k:aF}{dep:Nat},k.ca c->k.lz c dep->(dc c h k dep).1.lz c dep
 |.nil,dep,_,_=>⟨λd b=>(by cases b),λd b=>(by cases b),trivial,trivial⟩
 |.node o live C D,dep,a,⟨h1,p,r,x⟩=>by
  have z:=qm c (dep%c);rw[dc];by_cases y:o=h
  .simp only[if_pos y];exact Ai (aF.ca.mk a.r a.a a.b) ⟨h1,p,r,x⟩
  .by_cases c2:cM (dep%c) h o<0
   .simp only[if_neg y,if_pos c2];refine Ai (aF.ca.mk a.r (qq f a.a) a.b) ⟨λd b=>?_,p,Aj f a.a r,x⟩;rcases tV b with rfl|b
    .exact c2
    .exact h1 d b
   .simp only[if_neg y,if_neg c2];refine Ai (aF.ca.mk a.r a.a (qq f a.b)) ⟨h1,λd b=>?_,r,Aj f a.b x⟩;rcases tV b with rfl|b
    .rcases z.rT d o f.len a.r.len with a|a|a
     .trivial
     .simp_all
     .exact a
    .exact p d b
def Ak{a:Nat}{h:Ω}:∀ {b:aF}{dep:Nat},b.lz a dep->(cp a h b dep).1.lz a dep
 |.nil,dep,_=>trivial
 |.node k live o p,dep,⟨h1,c,d,f⟩=>by
  rw[cp];split
  .trivial
  split
  .exact⟨by rw[tW];exact h1,c,Ak d,f⟩
  .exact⟨h1,by rw[tW];exact c,d,Ak f⟩
structure ml(d n:Nat)(t:aF):Prop where
 eV:t.ca d
 vZ:t.lz d 0
 ch:t.size<=n
theorem ml.nil{a n:Nat}:ml a n .nil:=⟨λc b=>(by cases b),trivial,a7Y _⟩
def ml.ins(a:ml e i b4)(b:bJ e n):ml e (i+1) (dc e n b4 0).1:=⟨qq b a.eV,Aj b a.eV a.vZ,by have:=qj e n b4 0;have:=a.ch;omega⟩
theorem ml.del(b:ml e i b4):ml e i (mf e n b4).1:=by
 have a:=tX (n:=n) (i:=0) b.eV;have c:=Ak (h:=n) b.vZ;have o:=qk e n b4 0;have p:=me (cp e n b4 0).1;have r:=b.ch;unfold mf;split
 .refine⟨A5 _ _ _ λd f=>a d (aF.gV f),vY _ _ _ (λh k=>(a h (aF.gV k)).len) (aF.rY a c),?_⟩;grind[rN,cp]
 .exact⟨a,c,ε⟩
def a3f(a:ml e i b4)(b:(cp e n b4 0).2=ζ):b4.all.Perm (n::(mf e n b4).1.all):=by
 have c:=tX (n:=n) (i:=0) a.eV;refine(vX b).trans (.cons _ ?_);unfold mf;split
 .exact(vW _ _ _ (Χ _) λd f=>(c d (aF.gV f)).len).symm
 .rfl
structure By(c:U)(x:R)(b:ϊ):Prop where
 one:x.cells=[x]
 len:gX x=γ (.v (.int .i64 (β b)))
 src:∀a,c.sub a->yb a x b
theorem Hd(c b:Ω)(o p:Own)(d:Nat)(h:U)(C:d<=1000000):
  AC δ 24 [eL c b o p,.v (.int .i64 (d:Int))] h λr x=>x=h/\r=.v (.bool (cV c b d)):=by
 have D:=bn (n:=c);have E:=bn (n:=b);have F:=@cP c;have G:=@cP b;refine aM hm MT ?_;refine bg λL P=>?_
 repeat' first|refine ay (λ_=>?_) λ_=>?_|trivial
 all_goals try (rw[cV];exact aY)
 refine fO [1,2] (λa:Nat=>[(5,.v (.int .i64 a))]) (λa=>a<=d/\∀f<a,decide (c.getD f 0<=b.getD f 0)=ζ) (λa=>d - a) 0 ⟨ε,λf y=>by omega⟩ aK ?_;rintro a⟨b,k⟩S;refine aa ?_;refine ay (λz=>?_) λz=>?_
 .repeat' first|refine ay (λ_=>?_) λ_=>?_|trivial
  grind[cV,r9,decide_eq_false_iff_not,aY]
  .exact⟨a+1,⟨ε,upto k (by simp only[decide_eq_true_eq];omega)⟩,rfl,ε⟩
 .rw[cV,ra λf y=>k f ε];exact aY
def bY:ϊ->ϊ->Bool
 |_,[]=>κ
 |[],_:: _=>ζ
 |a::c,b::d=>if a=b then bY c d else decide (a<b)
theorem a3g:∀b a:ϊ,Op.bytesLess b a=bY b a:=by
 intro b
 induction b with
 |nil=>intro a;cases a<;>simp[Op.bytesLess,bY]
 |cons c b ih=>
  intro a;cases a with
  |nil=>rfl
  |cons d a=>simp only[Op.bytesLess,bY,ih];split<;>simp_all
theorem Al(a:ϊ):bY a a=false:=by induction a<;>simp_all [bY]
theorem He:∀b a:ϊ,bY b a=κ->bY a b=κ->b=a:=by
 intro b
 induction b with
 |nil=>intro a;cases a<;>simp[bY]
 |cons c b ih=>
  intro a;cases a with
  |nil=>simp[bY]
  |cons d a=>simp only[bY];grind
theorem w0:∀c a b:ϊ,bY c a=ζ->bY a b=ζ->bY c b=true:=by
 intro c
 induction c with
 |nil=>intro a b;cases a<;>cases b<;>simp[bY]
 |cons d c ih=>
  intro a b;cases a with
  |nil=>simp[bY]
  |cons f a=>
   cases b with
   |nil=>simp[bY]
   |cons h b=>simp only[bY];grind
theorem w1(a b:ϊ):ju .lss (bm a) (bm b)=γ (.v (.bool (bY a b)))/\ju .geq (bm a) (bm b)=γ (.v (.bool (!bY a b)))/\
  ju .leq (bm a) (bm b)=γ (.v (.bool (bY a b||decide (a=b))))/\ju .gtr (bm a) (bm b)=γ (.v (.bool (!(bY a b||decide (a=b))))):=by
 grind[decide,bm,sU,bj,qI,toList_mk,a3g]
variable{j B b7:ύ}{h8:aT}
def eJ.at_(z:eJ h8 j):∃C D,aX κ 1 (j.drop 36)=.v (.int .i64 h8.bK.live)/\aX κ 1 (j.drop 38)=.J (ab h8.bK.key) C/\aX κ 1 (j.drop 73)=.v (.int .i64 h8.c9.live)/\aX κ 1 (j.drop 74)=.v (.int .i64 h8.c9.size)/\aX κ 1 (j.drop 75)=.J (ab h8.c9.key) D:=by
 obtain⟨⟨x,k,o,c,d,f,b,rfl⟩,⟨E,_⟩,⟨F,_⟩,_⟩:=z;have h:=aV (a7:=k) (h5:=o) (j1:=c) E;have p:=aV (a7:=d) (h5:=f) (j1:=b) F;have y:∀a,a<=37->(bm h8.name::.J (bX h8.aH) x::(ag h8.bK k o c++ag h8.c9 d f b)).drop (a+2)=(ag h8.bK k o c).drop a++ag h8.c9 d f b:=λa G=>by
  simp only[aa8];rw[a9O (by have:=h.len;omega)]
 have r:∀a,(bm h8.name::.J (bX h8.aH) x::(ag h8.bK k o c++ag h8.c9 d f b)).drop (a+37+2)=(ag h8.c9 d f b).drop a:=λa=>by
  simp only[aa8];rw[a9m,a9n (by rw[h.len];omega),h.len,a7T];congr 1
 refine⟨c,b,?_,?_,?_,?_,?_⟩
 .rw[y 34 ε,h.d34];rfl
 .rw[y 36 ε,h.d36];rfl
 .rw[r 34,p.d34];rfl
 .rw[r 35,p.d35];rfl
 .rw[r 36,p.d36];rfl
def gm(a:aT):Bool:=eO ⟨1,a.name,a.aH,[]⟩&&(fl (β a.aH+1) a.bK&&(fl (β a.aH+1) a.c9&&(decide (a.bK.live=a.c9.live)&&(decide (β a.bK.key=0)&&
 (decide (a.c9=aG)||(decide (β a.c9.key=β a.aH+1)&&decide (a.c9.size=a.c9.live)))))))
structure aT.Fit(t:aT):Prop where
 n:β t.name<=1000000
 c:β t.aH<=1000000
 cs:∀c∈t.aH,β c<=1000000
def rZ(a:aT)(b:ύ)(c:eJ a b)(d:U):AC δ 22 [.agg b] d λf h=>h=d/\f=.v (.int .i64 ((β a.aH+1:Nat):Int)):=by obtain⟨k,o,p,r,x,y,z,C,D,E,F,G,L⟩:=c.all;have P:=mb (a:=a.aH);have S:=c.c;refine aM hm MP ?_;refine bg λT V=>?_;trivial
theorem s0(a:aT)(c:ύ)(b:eJ a c)(k:a.Fit)(d:U):AC δ 101 [.agg c] d λo p=>p=d/\o=.v (.bool (gm a)):=by
 obtain⟨V,W,e,r,x,y,z,C,D,E,g,i,j⟩:=b.all;obtain⟨l,m,n,q,s,t,u⟩:=b.at_;have v:=mb (a:=a.aH);have w:=bn (n:=a.bK.key);have A:=bn (n:=a.c9.key);obtain⟨F,G,L⟩:=k;have B:∀f,fl f aG=true:=λf=>by rfl
 refine aM hm P3 ?_;refine bg λh H=>?_;refine aP (rZ a c b _) ?_;refine aP (Gh ⟨⟨1,a.name,a.aH,[]⟩,r,.nil⟩ ⟨F,G,L,σ⟩ _) ?_;have P:=yC a.bK x y z (β a.aH+1) (d.set h (.cells c)) ε b.k.1 b.k.2;have S:=yC a.c9 C D E (β a.aH+1) (d.set h (.cells c)) ε b.z.1 b.z.2;refine ay (λT=>?_) λT=>?_
 .rw[gm];exact aY
 refine aP P ?_
 repeat' first|refine ay (λ_=>?_) λ_=>?_|trivial
 all_goals try (rw[gm];exact aY)
 .refine aP S ?_
  repeat' first|refine ay (λ_=>?_) λ_=>?_|trivial
  all_goals try (rw[gm];exact aY)
  all_goals refine aP (nZ _ _ _ _ _ b.z.1 λ_=>b.z.2) ?_
  all_goals repeat' first|refine ay (λ_=>?_) λ_=>?_|trivial
  all_goals grind[gm,aY]
def cN(a:List aT):Bool:=(ψ (β a)).all (λb=>gm (a.getD b default)&&(decide (b=0)||bY (a.getD (b - 1) default).name (a.getD b default).name))&&decide (β a<=8)
theorem ph(a:List aT)(D:ύ)(W:Own)(x:aw gj a D)(e:∀d∈a,d.Fit)(s:β a<=1000000)(h:U):AC δ 100 [.J D W] h λg y=>y=h/\g=.v (.bool (cN a)):=by
 have t:=x.len;refine aM hm P1 ?_;refine ck [0,5,6] (λb:Nat=>[(7,.v (.int .i64 b))]) (λb y=>h.sub y/\b<=β a/\∀c<b,(gm (a.getD c default)&&(decide (c=0)||bY (a.getD (c - 1) default).name (a.getD c default).name))=ζ) (λb=>β a - b) 0 ⟨⟨ι,ε,λc z=>by omega⟩,aK⟩ ?_;rintro b E⟨F,u,i⟩v;refine aa ?_;refine ay (λj=>?_) λj=>?_
 .have G:a[b]?=γ (a.getD b default):=by simp_all
  obtain⟨_,w,T,rfl,k⟩:=x.get G;have L:=e _ (a7C G);generalize l:a.getD b default=d at*;have A:=pO (s:=.agg T) k.all.1;obtain⟨B,H,I,K,M,N,O,Q,X,Y,Z,k2,k3⟩:=k.all;obtain⟨o,p⟩:∃o,o=(gm d&&(decide (b=0)||bY (a.getD (b - 1) default).name d.name)):=⟨_,rfl⟩;have k4:o=κ->cN a=false:=λz=>by
   grind[cN,r9]
  have k5:o=ζ->∃r,(r<=β a/\∀c<r,(gm (a.getD c default)&&(decide (c=0)||bY (a.getD (c - 1) default).name (a.getD c default).name))=ζ)/\R.v (.int .i64 ((b)+1))=.v (.int .i64 (r))/\β a - r<β a - b:=λz=>
   ⟨b+1,⟨ε,upto i (by rw[l,<-p];exact z)⟩,rfl,ε⟩
  have k6:∀f P,E f=η->h.sub (E.set f P):=λf P C=>ν F (Ν F C);by_cases S:b=0
  .subst S;simp only[decide_true,Bool.true_or,aaE]at p;subst p;refine aa ?_;refine bg λf C=>?_;refine aP (s0 d T k L _) ?_
   repeat' first|refine ay (λ_=>?_) λ_=>?_|trivial
   simp_all
  .have m:a[b - 1]?=γ (a.getD (b - 1) default):=by grind
   obtain⟨_,k7,n,rfl,V⟩:=x.get m;generalize a.getD (b - 1) default=q at*;have k8:=pO (s:=.agg n) V.all.1;obtain⟨k9,l0,l1,_⟩:=V.all;have l2:(b) - 1=((b - 1:Nat):Int):=ε;have l3:=(w1 q.name d.name).2.1;simp only[decide_eq_false S,abC]at p;refine aa ?_;refine bg λf C=>?_;refine aP (s0 d T k L _) ?_
   repeat' first|refine ay (λ_=>?_) λ_=>?_|trivial
   all_goals simp_all
 grind[cN,ra,aY]
def om(a b:ϊ):Int:=if bY a b=ζ then -1 else if a=b then 0 else 1
def Hf(b:ϊ)(a:U):AC δ 278 [bm b] a λc d=>d=a/\c=.v (.bool κ):=by have h:=λf v=>@DG f v;refine aM hm TH ?_;trivial
theorem a3h(a b:ϊ)(c:U):AC δ 239 [bm a,bm b] c λf h=>h=c/\f=.v (.int .i64 (om a b)):=by
 obtain⟨o,p,r,x⟩:=w1 a b;refine aM hm SP ?_;refine aP (Hf a c) ?_;refine aP (Hf b c) ?_;refine ay (λd=>?_) λd=>?_
 .rw[om,if_pos d]
 .refine ay (λk=>?_) λk=>?_;simp_all [om];simp_all [om]
def a3i(a:aT)(b:ύ)(d:eJ a b)(c:U):AC δ 165 [.agg b] c λf h=>h=c/\f=bm a.name:=by obtain⟨k,o,p,_⟩:=d.all;refine aM hm QU ?_;refine bg λr x=>?_;trivial
def Hg(a:aT)(b:ύ)(f:eJ a b)(h:ϊ)(c:U)(d:Nat)(k:c.read d=γ [.bG 165 [] []]):AC δ 238 [.agg b,bm h,.ptr d 0] c λo p=>p=c/\o=.v (.int .i64 (om a.name h)):=by
 obtain⟨y,z,_⟩:=f.all;refine aM hm SN ?_;refine aR λr x=>?_;have C:d≠r:=by rintro rfl;simp[U.read,x]at k
 refine aa ?_;refine pY (a3i a b f _) ?_;refine aP (a3h _ _ _) ?_;trivial
def Place(a:List aT)(d:ϊ)(c:Nat):Prop:=c<=β a/\(∀b<c,bY (a.getD b default).name d=ζ)/\∀b<β a,c<=b->bY (a.getD b default).name d=κ
variable{O:ϊ}
theorem Hh{a:ϊ}:om O a<0↔bY O a=true:=by grind[om]
theorem a3j{a:ϊ}:om O a=0↔O=a:=by
 unfold om;split
 .rename_i b;simp;rintro rfl;rw[Al]at b;cases b
 .simp
theorem a3k(c:List aT)(x:ύ)(S:Own)(d:ϊ)(F:aw gj c x)(u:β c<=1000000)(V:∀a b,a<b->b<β c->bY (c.getD a default).name (c.getD b default).name=ζ)(o:U)(p:Nat)(G:o.read p=γ [.bG 165 [] []]):
  AC δ 237 [.J x S,bm d,.bG 238 [] [.ptr p 0]] o λW e=>e=o/\∃a,Place c d a/\W=.aJ [.v (.int .i64 (a:Int)),.v (.bool (decide (a<β c)&&decide ((c.getD a default).name=d)))]:=by
 have v:=F.len;have el:∀a,a<β c->∃T,x[a]?=γ (.agg T)/\eJ (c.getD a default) T/\fC 76 (γ (.agg T))=γ (.c4 T)/\β T=76/\T.take 76=T:=λa y=>by
  obtain⟨_,g,T,rfl,h⟩:=F.get (i:=a) (x:=c.getD a default) (by simp_all);exact⟨T,g,h,pO h.all.1,h.all.1,h.all.2.1⟩
 have i:∀a,a<β c->bY (c.getD a default).name d=ζ->∀b,b<a+1->bY (c.getD b default).name d=true:=λa y k b L=>by
  rcases Nat.lt_or_eq_of_le (Nat.le_of_lt_succ L)with z|rfl
  .exact w0 _ _ _ (V b a z y) k
  .exact k
 have j:∀a,a<β c->bY (c.getD a default).name d=κ->∀b,b<β c->a<=b->bY (c.getD b default).name d=false:=λa y k b L w=>by
  grind
 refine aM hm SL ?_;refine fO [0,1,2,8] (λf:Nat×Nat=>[(9,.v (.int .i64 f.1)),(10,.v (.int .i64 f.2))]) (λf=>f.1<=f.2/\f.2<=β c/\(∀b<f.1,bY (c.getD b default).name d=ζ)/\∀b<β c,f.2<=b->bY (c.getD b default).name d=κ) (λf=>f.2 - f.1) (0,β c) ⟨σ,σ,λb k=>by simp at k,λb k r=>by simp at r;omega⟩ aK ?_;rintro⟨a,b⟩ ⟨z,r,C,D⟩ A
 dsimp only at z r C D|-
 have B:bj .shr (.int .u64 ((a)+(b))) (.int .u64 1)=γ (.int .u64 (((a+b)/2:Nat))):=by rw[show(a)+(b)=((a+b:Nat):Int) by omega,sW _ _ _ ε ε];rfl
 by_cases H:(a:Int)<b
 .obtain⟨T,l,h,m,n,q⟩:=el ((a+b)/2) ε;have s:=i ((a+b)/2) ε;have t:=j ((a+b)/2) ε;generalize I:(a+b)/2=P at*;refine aa ?_;refine pY (Hg _ T h d o p G) ?_;refine ay (λE=>?_) λE=>?_
  .exact⟨(P+1,b),⟨by simp only;omega,by simp only;omega,s (Hh.1 E),D⟩,⟨rfl,rfl⟩,by simp only;omega⟩
  .exact⟨(a,P),⟨by simp only;omega,by simp only;omega,C,t (by simpa[Hh] using E)⟩,⟨rfl,rfl⟩,by simp only;omega⟩
 .obtain rfl:a=b:=ε;have K:Place c d a:=⟨r,C,D⟩;by_cases c2:(a:Int)<β c
  .obtain⟨T,l,h,m,n,q⟩:=el a ε;refine aa ?_;refine pY (Hg _ T h d o p G) ?_;grind[a3j]
  .refine aa ?_;grind
def a3l(b:List aT)(d:ύ)(r:Own)(c:ϊ)(x:aw gj b d)(y:β b<=1000000)(z:∀a f,a<f->f<β b->bY (b.getD a default).name (b.getD f default).name=ζ)(h:U):
  AC δ 102 [.J d r,bm c] h λk o=>o=h/\∃a,Place b c a/\k=.aJ [.v (.int .i64 (a:Int)),.v (.bool (decide (a<β b)&&decide ((b.getD a default).name=c)))]:=by
 refine aM hm P5 ?_;refine ak (b2:=λk o=>o=h/\∃a,Place b c a/\k=.aJ [.v (.int .i64 (a)),.v (.bool (decide (a<β b)&&decide ((b.getD a default).name=c)))]) ?_ ?_
 .refine aM hm QS ?_;refine bg λC D=>?_;refine ak (a3k b d r c x y z _ C (U.D0)) ?_;rintro _ _⟨rfl,a,p,rfl⟩;refine aa ?_;exact⟨a,p,rfl⟩
 .rintro _ _⟨rfl,a,p,rfl⟩;refine aa ?_;exact⟨a,p,rfl⟩
abbrev fS:ύ:=bm []::.J [] .nil::(ag aG .nil .nil .nil++ag aG .nil .nil .nil)
def mm:([R.v (.string ⟨#[]⟩)]++[R.J [] .nil]++θ 32 (R.v (.int .u8 0))++[R.J [] .nil,.J [] .nil]++[R.v (.int .i64 0),.v (.int .i64 0)]++[R.J [] .nil]++θ 32 (R.v (.int .u8 0))++[R.J [] .nil,.J [] .nil]++[R.v (.int .i64 0),.v (.int .i64 0)]++[R.J [] .nil])=fS:=by have:=cB;rfl
def gG:eJ ⟨[],[],aG,aG⟩ fS:=⟨⟨.nil,_,_,_,_,_,_,rfl⟩,⟨bo,q9⟩,⟨bo,q9⟩,σ⟩
theorem oo(a:eJ h8 j):β j=76/\j.take 76=j/\putAt fS 0 j=j/\(fS).length=76:=by have b:=a.all.1;have c:=gG.all.1;grind[uD]
theorem Hi{c:Type}{x:c}{d:c->Bool}:∀ {b:List c}{f:Nat}{a:c},b[f]?=γ a->d a=ζ->(∀k<f,d (b.getD k x)=κ)->b.find? d=γ a
 |[],f,a,h,_,_=>by simp at h
 |o::b,0,a,h,p,_=>by simp_all
 |o::b,f+1,a,h,p,r=>by
  have y:d o=false:=r 0 ε;rw[List.find?_cons,y];exact Hi (by trivial) p λk h=>r (k+1) ε
variable{K:Type}
theorem a3m{c:K}{b:K->Bool}{a:List K}(h:∀d<β a,b (a.getD d c)=κ):a.find? b=none:=by rw[List.find?_eq_none];intro k f;obtain⟨o,p,rfl⟩:=a8e f;simp_all
def Found(c:List aT)(d:ϊ)(b:R):Prop:=match c.find? (λa=>decide (a.name=d))with
 |some a=>∃T,eJ a T/\b=.aJ [.agg T,.v (.bool ζ)]
 |none=>b=.aJ [.agg fS,.v (.bool κ)]
theorem find_spec(b:List aT)(z:ύ)(L:Own)(k:ϊ)(C:aw gj b z)(m:β b<=1000000)(c:U):
  AC δ 20 [.J z L,bm k] c λP o=>o=c/\Found b k P:=by
 have n:=C.len;have q:=λS=>@r6 S k;have s:=mm;refine aM hm MM ?_;refine bg λf V=>?_;rw[mm];have p:c.sub (c.set f (.cells fS)):=ν ι V;have D:(c.set f (.cells fS)) f=γ (.cells fS):=ξ _ _ _;generalize c.set f (.cells fS)=W at*;obtain⟨_,_,_,t⟩:=oo gG;have u:=(oo gG).2.2.1;have v:=gG.all.2.1;refine ck [1,4,8,9] (λa:Nat=>[(10,.v (.int .i64 a))]) (λa o=>W.sub o/\a<=β b/\∀d<a,(b.getD d default).name≠k) (λa=>β b - a) 0 ⟨⟨ι,ε,λd w=>by omega⟩,aK⟩ ?_;rintro a A⟨h,B,r⟩H;have I:=ω (h _ _ D);refine aa ?_;refine ay (λe=>?_) λe=>?_
 .have E:b[a]?=γ (b.getD a default):=by simp_all
  obtain⟨_,K,T,rfl,F⟩:=C.get E;generalize g:b.getD a default=M at*;obtain⟨i,N,O,_⟩:=oo F;have Q:=F.all.2.2.1;have X:=pO (s:=.agg T) i;refine aa ?_;refine aR λj x=>?_;have l:f≠j:=by rintro rfl;rw[h _ _ D]at x;cases x
  have Y:=Θ l;refine aa ?_;refine ay (λy=>?_) λy=>?_
  .refine⟨ν (π p h) (Ν (π p h) x),?_⟩;rw[Found,Hi E (by simp[y]) λd G=>by simpa using r d G];simp_all
  .exact⟨a+1,⟨ε,upto r (by rw[g];exact y)⟩,rfl,ε⟩
 .refine⟨π p h,?_⟩;rw[Found,a3m λd G=>by simpa using r d ε]
theorem gj.cells{b:aT}{a:R}(c:gj b a):β a.cells=76:=by obtain⟨T,rfl,d⟩:=c;exact d.all.1
theorem Am(k:List aT)(a:ύ)(c:Own)(b:U)(o:aw gj k a)(E:β k<=1000):
  AC δ 104 [.J a c] b λp d=>aq b d 76 (flat a) p:=by
 have F:=o.len;refine oO λG=>?_;have x:c=.nil->a=[]:=λf=>by subst f;simp_all
 have r:=o.cells λ_ _=>gj.cells;have L:=dg r;refine bh hm P8 σ ?_;simp -dsimp -implicitDefEqProofs (disch:=first|omega|assumption|(simp only[bd,Nat.reduceAdd];try omega)) only[go_sem,simprocAttr,↓oT];refine oU (λh=>by rw[x h]) (λh=>?_) ?_
 .have y:a=[]:=by trivial
  subst y;refine aS @a8q ?_;exact⟨b,ι,aq.nil ι⟩
 .refine aS @tb ?_;have z:c8 b 76 (.J a c)=γ (β a,flat a):=by have C:=a7L.2 λf D=>decide_eq_true (r f D);simp only[c8,C,if_true]
  refine fN (aq.zero (ι)) ε z ε (by simp only[a7E];omega) (by simp only[a7E];omega) λp d h=>?_;refine eS ?_;exact⟨d,ι,by trivial⟩
theorem a3n(t h:U)(f:ύ)(e:R)(x:aq t h 76 f e)(F:Nat)(G:β f=F*76)(a:Nat)(n3:a<=F)(n4:F<=1000)(k:ύ)(u:β k=76)(y:Nat)(v:t y=γ (.cells k)):
  AC δ 103 [e,.v (.int .i64 (a:Int)),.ar y 1 1 76] h λk7 L=>aq t L 76 (f.take (a*76)++(k++f.drop (a*76))) k7:=by
 have P:=x.1 _ _ v;have g:((1:Nat):Int)=1:=rfl;have w:∀L:U,L y=γ (.cells k)->c8 L 76 (.ar y 1 1 76)=γ (1,k):=λL x=>by
  simp_all [c8,μ,a7x]
 by_cases c1:a=F
 .subst c1;obtain⟨W,D,wl⟩:∃W,cc 76 e (γ (.v (.int .i64 (a:Int)))) η η=γ W/\gX e=γ (.v (.int .i64 (a:Int))):=by
   rcases x.2 with⟨i,rfl|rfl⟩|⟨c,b,d,p,rfl,j,z,l,m,k8,A,X⟩
   .rw[i]at G;obtain rfl:a=0:=by rw[a7E]at G;omega
    exact⟨_,Y6,rfl⟩
   .rw[i]at G;obtain rfl:a=0:=by rw[a7E]at G;omega
    exact⟨_,Y5,rfl⟩
   .obtain rfl:b=a:=ε;obtain⟨W,D,_⟩:=p0 (i:=76) (b3:=c) (e4:=.i64) ε A;exact⟨W,D,rfl⟩
  refine bh hm CK σ ?_;simp -dsimp -implicitDefEqProofs (disch:=first|omega|assumption|(simp only[bd,Nat.reduceAdd];try omega)) only[go_sem,simprocAttr,↓fk,D,wl,g];refine fN x ε (w h P) ε ε ε λn5 L n9=>?_;refine DM ?_;grind[ι,Λ,List.drop_eq_nil_of_le]
 have a00:a<F:=ε;obtain⟨c,b,d,p,rfl,j,z,l,m,k8,A,X⟩:=x.ar (λi=>by rw[i]at G;simp at G;omega);obtain rfl:b=F:=ε;have Y:c≠y:=by rintro rfl;rw[j]at v;cases v
 have B:¬(a)=(b:Int):=ε;refine bh hm CK σ ?_;obtain⟨W,D,_,Z⟩:=p0 (i:=76) (b3:=c) (e4:=.i64) ε A;have a01:=Z h p f z ε m;have k2:(f.drop (a*76)).length=(b - a)*76:=by rw[a7F];omega
 have k9:p.take (a*76)=f.take (a*76):=by grind
 by_cases c2:(d)<(b:Int)+1
 .have n:cc 76 (.ar c b d 76) η (γ (.v (.int .i64 (a)))) η=γ (.ar c a d 76):=hQ ε;have k3:(b)+1 -(a)=((b+1 - a:Nat):Int):=ε;refine dH (bt @D @B @g @c2 @n @k3) ?_;refine y5 z l ε ε ε λo C l0 q s l1 k4=>?_;have l2:a+(b+1 - a)=b+1:=ε;rw[l2]at s k4|-;generalize l3:θ (b+1 - a) _=k5;have l4:β k5.flatten=(b+1 - a)*76:=by rw[<-l3,lL];rfl
  have l5:o≠c:=by rintro rfl;rw[q]at z;cases z
  have l6:o≠y:=by rintro rfl;rw[q]at P;cases P
  obtain⟨E,k6⟩:∃E,E=p.take (a*76)++k5.flatten++l0:=⟨_,rfl⟩;have l7:β E=C*76:=by rw[k6,Ρ,Ρ,l4,a7z,k4];omega
  have l8:E.take (a*76)=f.take (a*76):=by simp_all
  rw[<-k6];have H:cc 76 (.ar o (b+1) C 76) (γ (.v (.int .i64 (a)))) η η=γ (.bC o (a*76) (b+1 - a) (C - a) 76):=gy ε s ε;have I:cc 76 (.ar o (b+1) C 76) (γ (.v (.int .i64 ((a)+1)))) η η=γ (.bC o (a*76+76) (b - a) (C -(a+1)) 76):=by have:=gy (i:=76) (b3:=o) (e:=a+1) (e4:=.i64) ε s ε;grind
  have K:(h.set o (.cells E)) y=γ (.cells k):=by rw[ο _ _ (Θ l6)];exact P
  have S:=hR (I:=a*76) (e5:=C - a) (i:=b+1 - a) (w _ K) (ξ h o (.cells E)) ε;have M:k.take ((b+1 - a)*76)=k:=a7x ε;rw[M]at S;obtain⟨r,T⟩:∃r,r=putAt E (a*76) k:=⟨_,rfl⟩;have N:β r=C*76:=by rw[T,eY _ _ _ ε,l7]
  rw[<-T]at S;have l9:(h.set o (.cells r)) c=γ (.cells p):=by rw[ο _ _ (Θ l5)];exact z
  have O:=Z _ p f l9 ε m;have V:=hR (I:=a*76+76) (e5:=C -(a+1)) (i:=b - a) O (ξ h o (.cells r)) ε;have Q:(f.drop (a*76)).take ((b - a)*76)=f.drop (a*76):=a7x ε;rw[Q]at V;refine dH (gZ @D @B @g @c2 @n @k3 @H @I @S @V @υ) ?_;refine⟨_,ι,ν x.1 (Ν x.1 q),.inr ⟨o,b+1,C,_,rfl,Ν x.1 q,ξ _ _ _,?_,?_,?_,s,l1⟩⟩
  .rw[eY _ _ _ ε,N]
  .have:=(qc l8 u k2 ε).2;rw[show(b+1)*76=a*76+76+(b - a)*76 by omega,T];exact this
  grind
 .have n:cc 76 (.ar c b d 76) η (γ (.v (.int .i64 ((b)+1)))) η=γ (.ar c (b+1) d 76):=by rw[show(b)+1=((b+1:Nat):Int) by omega];exact hQ ε
  have H:cc 76 (.ar c (b+1) d 76) (γ (.v (.int .i64 (a)))) η η=γ (.bC c (a*76) (b+1 - a) (d - a) 76):=gy ε ε ε;have I:cc 76 (.ar c (b+1) d 76) (γ (.v (.int .i64 ((a)+1)))) η η=γ (.bC c (a*76+76) (b - a) (d -(a+1)) 76):=by have:=gy (i:=76) (b3:=c) (t:=b+1) (I:=d) (e:=a+1) (e4:=.i64) ε ε ε;grind
  have n0:p≠[]:=by rintro rfl;simp at l;omega
  have n2:lK (.ar y 1 1 76) (.bC c (a*76+76) (b - a) (d -(a+1)) 76) h=γ (.v (.bool κ)):=y4 rfl rfl (Θ Y) (r8 P (by rintro rfl;simp at u)) (r8 z n0);have O:c8 h 76 (.bC c (a*76) (b+1 - a) (d - a) 76)=γ (b+1 - a,(p.drop (a*76)).take ((b+1 - a)*76)):=by simp only[c8,μ z];grind
  have V:=hR (I:=a*76+76) (e5:=d -(a+1)) (i:=b - a) O z ε;have Q:((p.drop (a*76)).take ((b+1 - a)*76)).take ((b - a)*76)=f.drop (a*76):=by rw[a8G,<-m,a8T];congr 1;omega
  rw[Q]at V;obtain⟨r,T⟩:∃r,r=putAt p (a*76+76) (f.drop (a*76)):=⟨_,rfl⟩;rw[<-T]at V;have N:β r=β p:=by rw[T,eY _ _ _ ε]
  have K:(h.set c (.cells r)) y=γ (.cells k):=by rw[ο _ _ (Θ Y)];exact P
  have S:=hR (I:=a*76) (e5:=d - a) (i:=b+1 - a) (w _ K) (ξ h c (.cells r)) ε;have M:k.take ((b+1 - a)*76)=k:=a7x ε;rw[M]at S;refine dH (gZ @D @B @g @c2 @n @H @I @n2 @V @S @υ) ?_;refine⟨_,ι,ν x.1 j,.inr ⟨c,b+1,d,_,rfl,j,ξ _ _ _,?_,?_,?_,ε,X⟩⟩
  .rw[eY _ _ _ ε,N,l]
  .have:=(qc k9 u k2 ε).1;grind
  grind
variable{e7:List aT}
theorem a3o(c:aw gj e7 j):∀a∈j,∃b,a=.agg b/\β b=76:=λa d=>by
 obtain⟨h,_,T,rfl,f⟩:=c.mem d;exact⟨T,rfl,f.all.1⟩
variable{s b8:R}{g w h7:U}
theorem aq.a3p(b:aq g w 76 (flat j) s)(c:aw gj e7 j):∃a,View w s a (.J j .any)/\g.sub a:=by obtain⟨f,a,d,h,k⟩:=View.dq b;rw[dg (c.cells λ_ _=>gj.cells)]at d;grind[yR,a3o]
def dd(a:List aT)(b:ϊ):Nat:=(a.takeWhile λc=>bY c.name b).length
def Hj:∀ {c:List aT}{b:ϊ}{d:Nat},Place c b d->d=dd c b
 |[],b,d,a=>by have:=a.1;simpa[dd] using this
 |k::c,b,0,a=>by
  have:=a.2.2 0 σ ε;simp only[a8C]at this;simp[dd,this]
 |k::c,b,d+1,a=>by
  have h:=a.2.1 0 ε;simp only[a8C]at h;have:=Hj ⟨by have:=a.1;simpa using this,λf o=>by have:=a.2.1 (f+1) ε;trivial,λf o p=>by have:=a.2.2 (f+1) Ι ε;trivial⟩;simp only[dd,a8O,h,if_true,a7I];rw[this];rfl
def gW(a:List aT)(b:ϊ):Bool:=decide (dd a b<β a)&&decide ((a.getD (dd a b) default).name=b)
theorem An{c:List aT}(d:cN c=ζ):∀b a,b<a->a<β c->bY (c.getD b default).name (c.getD a default).name=ζ
 |b,0,h1,_=>by omega
 |b,a+1,h1,o=>by
  have f:=d;simp only[cN,Κ,a7L,a8B,a8Y,decide_eq_true_eq]at f;have h:=(f.1 (a+1) o).2.resolve_left ε;rw[Nat.add_sub_cancel]at h;rcases abM b a with k|k
  .exact w0 _ _ _ (An d b a k ε) h
  grind
def Ao(a:List aT)(c:ύ)(f:Own)(b:ϊ)(p:aw gj a c)(h:cN a=ζ)(d:U):
  AC δ 102 [.J c f,bm b] d λk o=>o=d/\k=.aJ [.v (.int .i64 (dd a b:Int)),.v (.bool (gW a b))]:=by
 have y:β a<=8:=by simp only[cN,Κ,decide_eq_true_eq]at h;omega
 refine(a3l a c f b p ε (An h) d).mono λk o r=>?_;obtain⟨z,C,x,rfl⟩:=r;obtain rfl:=Hj x;trivial
def w2(d:Except Int (List aT))(a:R):Prop:=
 match d with
 |.error b=>b≠0/\a=.aJ [.J [] .nil,.v (.int .i64 b)]
 |.ok f=>∃c,aw gj f c/\a=.aJ [.J c .any,.v (.int .i64 0)]
def ky(a:List aT)(b:aT):Except Int (List aT):=
 if(cN a&&gm b)=ζ then(if gW a b.name=ζ then .error 4 else if 8<=β a then .error 10 else .ok (a.take (dd a b.name)++b::a.drop (dd a b.name)))else .error 1
def kz(a:List aT)(b:aT):Except Int (List aT):=
 if(cN a&&gm b)=ζ then(if gW a b.name=ζ then .ok (a.set (dd a b.name) b)else .error 3)else .error 1
def tY(a b:U)(k:Except Int (List aT))(c:R):Prop:=
 match k with
 |.error d=>a.sub b/\d≠0/\c=.aJ [.J [] .nil,.v (.int .i64 d)]
 |.ok o=>∃f h,aw gj o h/\aq a b 76 (flat h) f/\c=.aJ [f,.v (.int .i64 0)]
def tY.Ap{a:Except Int (List aT)}(b:tY g w a s):∃c d,View w s d c/\g.sub d/\w2 a c:=by
 cases a with
 |error r=>exact⟨_,_,View.refl,b.1,b.2⟩
 |ok x=>obtain⟨y,h,f,k,rfl⟩:=b;obtain⟨z,o,p⟩:=aq.a3p k f;exact⟨_,_,View.aJ (a:=[]) o,p,h,f,rfl⟩
def a3q(a:List aT)(b:ϊ):dd a b<=β a:=by unfold dd;have:=congrArg β (a8h (p:=λc:aT=>bY c.name b) (l:=a));rw[Ρ]at this;omega
def a3r(a:List aT)(d:ύ)(p:Own)(b:aT)(c:ύ)(C:eJ b c)(T:b.Fit)(o:aw gj a d)(G:∀b∈a,b.Fit)(V:β a<=1000)(r:U):
  AC δ 53 [.J d p,.agg c] r λy D=>r.sub D/\w2 (ky a b) y:=by
 have q:AC δ 53 [.J d p,.agg c] r λy D=>tY r D (ky a b) y:=?_
 .exact q.view λy D s=>s.Ap
 have t:=o.len;obtain⟨W,Q,X,Y,Z,k2,k3,k4,k5,k6,k7,k8,k9⟩:=C.all;refine aM hm NI ?_;refine bg λe u=>?_;have z:=ν (b0:=.cells c) (ι) u;have aD:=ξ r e (.cells c);generalize r.set e _=k at*;have v:=μ aD;have f:(if(cN a&&gm b)=ζ then(if gW a b.name=ζ then .error 4 else if 8<=β a then .error 10 else .ok (a.take (dd a b.name)++b::a.drop (dd a b.name)))else .error 1)=ky a b:=rfl;generalize ky a b=l0 at*;cases L:cN a with
 |false=>rw[if_neg (by rw[L];simp)]at f;refine aP (ph a d p o G ε k) ?_;rw[<-f];exact⟨_,ι,z,Μ,rfl⟩
 |true=>
 cases g:gm b with
 |false=>rw[if_neg (by rw[g];simp)]at f;refine aP (ph a d p o G ε k) ?_;refine aP (s0 b c C T k) ?_;rw[<-f];exact⟨_,ι,z,Μ,rfl⟩
 |true=>
 rw[if_pos (by rw[L,g];rfl)]at f;refine aP (ph a d p o G ε k) ?_;refine aP (s0 b c C T k) ?_;have E:=Ao a d p b.name o L k;have w:=a3q a b.name;generalize dd a b.name=h at*;cases F:gW a b.name with
 |true=>rw[if_pos F]at f;rw[F]at E;refine aP E ?_;rw[<-f];exact⟨_,ι,z,Μ,rfl⟩
 |false=>
 rw[if_neg (by rw[F];simp)]at f;rw[F]at E;refine aP E ?_;refine ay (λA=>?_) λA=>?_
 .rw[if_pos ε]at f;rw[<-f];exact⟨_,ι,z,Μ,rfl⟩
 rw[if_neg ε]at f;have i:ba 76 [R.agg c]:=λj B=>by rw[a7H.1 B];exact W
 refine(CT (gY i σ λx l1=>trivial)).mpr ?_;have v:=μ aD;refine aa ?_;refine ak (Am a d p k o V) ?_;intro l m P;have l2:=μ (P.1 _ _ aD);refine aa ?_;have H:flat [R.agg c]=c:=by simp[flat,τ]
 refine gY i σ λx n=>?_;rw[H];have S:=o.cells λ_ _=>gj.cells;have I:aq (k.set x (.cells c)) (m.set x (.cells c)) 76 (flat d) l:=P.new n;have K:(flat d).length=β a*76:=by rw[dg S,t]
 have M:=a3n (k.set x (.cells c)) (m.set x (.cells c)) (flat d) l I (β a) K h w V c W x (ξ _ _ _);refine aa ?_;refine ak M ?_;intro y l3 N;refine aa ?_;refine⟨_,ι,?_⟩;rw[<-f];have O:r.sub (k.set x (.cells c)):=ν z (Ν z (Ν P.1 n));refine⟨y,d.take h++ .agg c::d.drop h,(o.take h).append ⟨⟨c,rfl,C⟩,o.drop h⟩,?_,rfl⟩;have j:flat (d.take h++ .agg c::d.drop h)=(flat d).take (h*76)++(c++(flat d).drop (h*76)):=by rw[(gx h S).1,(gx h S).2];simp[flat,τ]
 rw[j];exact N.base O
theorem aq.mx(c:aq w g e (flat j) s)(d:ba e j)(x:0<e)(k:i<β j)(o:β B=e):
  ∃b f a,s=.ar b (β j) f e/\g b=γ (.cells a)/\i*e+e<=β a/\aq w (g.set b (.cells (putAt a (i*e) B))) e (flat (j.set i (.agg B))) s:=by
 have y:=dg d;have z:(i+1)*e<=β j*e:=a7N _ k;rw[a8D,aax]at z;obtain⟨b,C,f,a,rfl,p,D,E,F,V,r,G⟩:=c.ar (λh=>by rw[h,a7E]at y;omega);obtain rfl:C=β j:=a9Z x ε;have W:=a7N e r;refine⟨b,f,a,rfl,D,ε,ν c.1 p,.inr ⟨b,β j,f,_,rfl,p,ξ _ _ _,?_,?_,?_,r,G⟩⟩
 .rw[eY _ _ _ ε,E]
 .have L:j.set i (.agg B)=j.take i++ .agg B::j.drop (i+1):=a8N .. |>.trans (by rw[if_pos k])
  have P:flat (j.take i++ .agg B::j.drop (i+1))=(flat j).take (i*e)++(B++(flat j).drop ((i+1)*e)):=by rw[(gx (i+1) d).1,(gx i d).2];simp[flat,τ]
  have l:(a.take (i*e)).length=i*e:=by rw[a7z];omega
  have S:(i+1)*e=i*e+e:=by grind
  rw[L,P,putAt,o,<-F,a8G,a8P ε,S,a8T];have m:(a.take (i*e)++B).length=i*e+e:=by simp_all
  have n:β j*e=(i*e+e)+(β j*e -(i*e+e)):=ε;grind
 .rw[dg (d:=e)]
  .simp
  .intro h T;rcases a9J T with c|rfl
   .exact d h c
   .exact o
theorem a3s(a:List aT)(c:ύ)(k:Own)(b:aT)(d:ύ)(y:eJ b d)(P:b.Fit)(h:aw gj a c)(G:∀b∈a,b.Fit)(g:β a<=1000)(p:U):
  AC δ 106 [.J c k,.agg d] p λz C=>p.sub C/\w2 (kz a b) z:=by
 have i:AC δ 106 [.J c k,.agg d] p λz C=>tY p C (kz a b) z:=?_
 .exact i.view λz C D=>D.Ap
 have j:=h.len;obtain⟨l,u,v,w,A,B,H,I,K,M,N,O,Q⟩:=y.all;refine aM hm Pc ?_;refine bg λS m=>?_;have E:=ν (b0:=.cells d) (ι) m;have aD:=ξ p S (.cells d);generalize p.set S _=o at*;have X:=μ aD;have f:(if(cN a&&gm b)=ζ then(if gW a b.name=ζ then .ok (a.set (dd a b.name) b)else .error 3)else .error 1)=kz a b:=rfl;generalize kz a b=Y at*;cases L:cN a with
 |false=>rw[if_neg (by rw[L];simp)]at f;refine aP (ph a c k h G ε o) ?_;rw[<-f];exact⟨_,ι,E,Μ,rfl⟩
 |true=>
 cases T:gm b with
 |false=>rw[if_neg (by rw[T];simp)]at f;refine aP (ph a c k h G ε o) ?_;refine aP (s0 b d y P o) ?_;rw[<-f];exact⟨_,ι,E,Μ,rfl⟩
 |true=>
 rw[if_pos (by rw[L,T];rfl)]at f;refine aP (ph a c k h G ε o) ?_;refine aP (s0 b d y P o) ?_;have F:=Ao a c k b.name h L o;have V:gW a b.name=ζ->dd a b.name<β a:=λD=>by
  simp only[gW,Κ,decide_eq_true_eq]at D;exact D.1
 generalize dd a b.name=r at*;cases x:gW a b.name with
 |false=>rw[if_neg (by rw[x];simp)]at f;rw[x]at F;refine aP F ?_;rw[<-f];exact⟨_,ι,E,Μ,rfl⟩
 |true=>
 rw[if_pos x]at f;rw[x]at F;have V:=V x;refine aP F ?_;refine ak (Am a c k o h g) ?_;intro Z k2 W;have n:=h.cells λ_ _=>gj.cells;obtain⟨e,q,k3,rfl,s,k4,t⟩:=aq.mx W n ε (i:=r) ε l;have k5:=μ (W.1 _ _ aD);have k6:cU 76 (.ar e (β c) q 76) (.v (.int .i64 (r)))=γ (.ptr e (r*76)):=by grind[iL,Int.toNat_natCast]
 have k7:=ω s;refine aa ?_;refine⟨_,ι,?_⟩;rw[<-f];exact⟨_,c.set r (.agg d),h.set r ⟨d,rfl,y⟩,t.base E,by rw[j]⟩
theorem a3t(E k:U)(d:ύ)(F:R)(G:aq E k 76 d F)(p:Nat)(L:β d=p*76)(a:Nat)(M:a<p)(N:p<=1000):
  AC δ 105 [F,.v (.int .i64 (a:Int)),.v (.int .i64 ((a:Int)+1))] k λi j=>aq E j 76 (d.take (a*76)++d.drop ((a+1)*76)) i:=by
 obtain⟨c,b,h,r,rfl,P,S,l,T,m,z,n⟩:=G.ar (λq=>by rw[q,a7E]at L;omega);obtain rfl:b=p:=ε;refine bh hm Pa σ ?_;have s:(a)+1=((a+1:Nat):Int):=ε;rw[s];obtain⟨O,t⟩:=Fi (t:=76) (e5:=c) (a:=b) (b3:=a) (e:=a+1) (e4:=.i64) (b:=.i64) (c:=.i64) ε ε z;have u:cc 76 (.ar c b h 76) η (γ (.v (.int .i64 (a)))) η=γ (.ar c a h 76):=hQ ε;obtain⟨Q,v,_,C⟩:=p0 (i:=76) (b3:=c) (e:=a+1) (e4:=.i64) ε z;have C:=C k r d S ε T;have w:¬(a)=((a+1:Nat):Int):=ε;simp -dsimp -implicitDefEqProofs (disch:=first|omega|assumption|(simp only[bd,Nat.reduceAdd];try omega)) only[go_sem,simprocAttr,↓fk,t,u,v,w];refine vm S l C ε ε ε ?_;have A:a+(b -(a+1))=b - 1:=ε;rw[A];have V:(d.drop ((a+1)*76)).length=(b -(a+1))*76:=by rw[a7F];omega
 obtain⟨f,x⟩:∃f,f=putAt r (a*76) (d.drop ((a+1)*76)):=⟨_,rfl⟩;have D:β f=h*76:=by rw[x,eY _ _ _ ε];omega
 have B:f.take ((b - 1)*76)=d.take (a*76)++d.drop ((a+1)*76):=by
  rw[x,putAt];have H:(r.take (a*76)).length=a*76:=by rw[a7z];omega
  rw[show(b - 1)*76=(r.take (a*76)++d.drop ((a+1)*76)).length by rw[Ρ,H,V];omega,aal];grind
 rw[<-x];have I:(k.set c (.cells f)) c=γ (.cells f):=ξ _ _ _;have X:cc 76 (.ar c (b - 1) h 76) (γ (.v (.int .i64 ((b - 1:Nat))))) (γ (.v (.int .i64 ((b))))) η=γ (.bC c ((b - 1)*76) (b -(b - 1)) (h -(b - 1)) 76):=DI ε z ε;have W:∀y:ύ,β y=76->lJ 76 y (.bC c ((b - 1)*76) (b -(b - 1)) (h -(b - 1)) 76) (k.set c (.cells f))=γ ((k.set c (.cells f)).set c (.cells (putAt f ((b - 1)*76) (θ (b -(b - 1)) y).flatten))):=λy Y=>y3 I (by rw[D];omega);have o:=gG.all.1;rw[<-mm]at o;have W:=(W _ o).trans abY;have K:(d.take (a*76)++d.drop ((a+1)*76)).length=(b - 1)*76:=by rw[Ρ,a7z,a7F];omega
 clear o x V T m L;refine aa ?_;have o:=gG.all.1;rw[<-mm]at o;refine⟨_,ι,?_⟩;generalize e:putAt f ((b - 1)*76) _=g;have c3:β g=h*76:=by rw[<-e,eY _ _ _ (by rw[lL,o,D];omega),D]
 have bS:g.take ((b - 1)*76)=f.take ((b - 1)*76):=by rw[<-e,putAt,a7P,a9f (by rw[a7z];omega),a8G,a9L]
 refine⟨ν G.1 P,.inr ⟨c,b - 1,h,_,rfl,P,ξ _ _ _,c3,by rw[bS,B],K,ε,n⟩⟩
def cQ(a:List aT)(b:ϊ):Except Int (List aT):=
 if cN a=ζ then(if gW a b=ζ then .ok (a.take (dd a b)++a.drop (dd a b+1))else .error 3)else .error 1
def a3u(a:List aT)(c:ύ)(o:Own)(b:ϊ)(f:aw gj a c)(F:∀P∈a,P.Fit)(G:β a<=1000)(d:U):
  AC δ 55 [.J c o,bm b] d λp x=>d.sub x/\w2 (cQ a b) p:=by
 have S:AC δ 55 [.J c o,bm b] d λp x=>tY d x (cQ a b) p:=?_
 .exact S.view λp x y=>y.Ap
 have T:=f.len;refine aM hm NM ?_;have h:(if cN a=ζ then(if gW a b=ζ then .ok (a.take (dd a b)++a.drop (dd a b+1))else .error 3)else .error 1)=cQ a b:=rfl;generalize cQ a b=i at*;cases C:cN a with
 |false=>rw[if_neg (by rw[C];simp)]at h;refine aP (ph a c o f F ε d) ?_;rw[<-h];exact⟨_,ι,ι,Μ,rfl⟩
 |true=>
 rw[if_pos C]at h;refine aP (ph a c o f F ε d) ?_;have z:=Ao a c o b f C d;have D:gW a b=ζ->dd a b<β a:=λy=>by
  simp only[gW,Κ,decide_eq_true_eq]at y;exact y.1
 generalize dd a b=k at*;cases r:gW a b with
 |false=>rw[if_neg (by rw[r];simp)]at h;rw[r]at z;refine aP z ?_;rw[<-h];exact⟨_,ι,ι,Μ,rfl⟩
 |true=>
 rw[if_pos r]at h;rw[r]at z;have D:=D r;refine aP z ?_;refine ak (Am a c o d f G) ?_;intro V W e;have E:=f.cells λ_ _=>gj.cells;have g:(flat c).length=β a*76:=by rw[dg E,T]
 refine aa ?_;refine ak (a3t d W (flat c) V e (β a) g k D G) ?_;intro p j L;refine aa ?_;refine⟨_,ι,?_⟩;rw[<-h];rw[(gx (k+1) E).1,(gx k E).2,<-pH]at L;exact⟨p,c.take k++c.drop (k+1),(f.take k).append (f.drop (k+1)),L,rfl⟩
theorem Hk(b:gm h8=ζ):h8.o0:=by
 simp only[gm,eO,o9,ku,Κ,decide_eq_true_eq,a8Y]at b;obtain⟨⟨⟨_,c⟩,a⟩,d,f,L,P,S⟩:=b;rw[if_pos Μ]at a;simp only[Κ,decide_eq_true_eq,a7L,a8B,mZ,ku]at a;obtain⟨h,k,o,p,r,x⟩:=ry d;obtain⟨y,z,C,D,E,F⟩:=ry f;refine⟨c.2,a.1.2.2,λT G=>?_,⟨h,k,ε,o,p,r,x⟩,⟨y,z,?_,C,D,E,F⟩⟩
 .obtain⟨V,W,rfl⟩:=a8e G;simp_all
 grind[aG]
theorem qs(a:cN e7=ζ):(∀b∈e7,b.o0)/\β e7<=8:=by simp only[cN,Κ,a7L,a8B,decide_eq_true_eq]at a;refine⟨λb c=>?_,a.2⟩;obtain⟨d,f,rfl⟩:=a8e c;grind[Hk,List.getD]
structure aT.In(t:aT):Prop where
 le:t.o0
 k:t.bK.In 8
 z:t.c9.In 8
def Hl{a:List ϊ}:ba 1 (bX a):=λc b=>by obtain⟨_,_,rfl⟩:=a7M.1 b;rfl
theorem a3v(a:List ϊ)(d:Own)(c:U)(z:β a<=1000000):
  AC δ 54 [.J (bX a) d] c λf h=>c.sub h/\∃k,f=.J (bX a) k:=by
 have C:=mb (a:=a);refine oO λD=>?_;have o:d=.nil->bX a=[]:=λE=>by simp_all
 refine bh hm NK σ ?_;simp -dsimp -implicitDefEqProofs (disch:=first|omega|assumption|(simp only[bd,Nat.reduceAdd];try omega)) only[go_sem,simprocAttr,↓oT];refine oU (λb=>by rw[o b]) (λb=>?_) ?_
 .have p:bX a=[]:=by trivial
  rw[p];simp -dsimp -implicitDefEqProofs (disch:=first|omega|assumption|(simp only[bd,Nat.reduceAdd];try omega)) only[go_sem,simprocAttr,a8q];exact⟨c,ι,ι,_,rfl⟩
 .simp -dsimp -implicitDefEqProofs (disch:=first|omega|assumption|(simp only[bd,Nat.reduceAdd];try omega)) only[go_sem,simprocAttr];refine eF ι (by simp[ba]) λF G r=>?_;simp -dsimp -implicitDefEqProofs (disch:=first|omega|assumption|(simp only[bd,Nat.reduceAdd];try omega)) only[go_sem,simprocAttr];refine ef r (λ_ b=>by cases b) Hl (by rw[a7E];omega) (by rw[a7E];omega) λL x y=>?_;simp -dsimp -implicitDefEqProofs (disch:=first|omega|assumption|(simp only[bd,Nat.reduceAdd];try omega)) only[go_sem,simprocAttr,a7T];exact⟨x,ι,y.sub,_,rfl⟩
structure dj(b:U)(a eK c:Nat)(f:af)(l:List aT):Prop where
 hg:bz b eK c f
 x:∃d o,b a=γ (.cells [.ptr eK 0,.J d o])/\aw gj l d
 oq:a≠eK
 ot:a≠c
def cE(c d f:Nat)(h k:U):Prop:=∀a b,a≠c->a≠d->a≠f->h a=γ b->k a=γ b
theorem cE.of{lM:Nat}{s:U}(a:s.sub g):cE e i lM s g:=λb c _ _ _ d=>a b c d
def cE.ext(a:Ext e i g w):cE t e i g w:=λb c _ d f h=>a b c d f h
theorem cE.trans(h:cE e i t g w)(k:cE e i t w h7):cE e i t g h7:=λa b c d f o=>k a b c d f (h a b c d f o)
variable{b0:bq}
def cE.Aq(b:cE e i t g w):cE e i t g (w.set e b0):=λc d a f h k=>by rw[ο _ _ a];exact b c d a f h k
def dj.sub(a:dj g e i t H e7)(b:g.sub w):dj w e i t H e7:=⟨a.hg.mono b,by obtain⟨c,d,f,h⟩:=a.x;exact⟨c,d,b _ _ f,h⟩,a.oq,a.ot⟩
variable{a7 h5 j1:Own}
def dj.put{b:List aT}(a:dj g e i t H b)(c:aw gj e7 j):dj (g.set e (.cells [.ptr i 0,.J j a7])) e i t H e7:=⟨a.hg.set ⟨a.oq,a.ot⟩,⟨j,a7,ξ _ _ _,c⟩,a.oq,a.ot⟩
def jg(a:Except Int (List aT))(b:List aT):Int×List aT:=match a with
 |.error c=>(c,b)
 |.ok d=>(0,d)
def a3w(d:U)(b p r:Nat)(z:af)(a:List aT)(C:dj d b p r z a)(e:∀c∈a,c.Fit)(g:β a<=1000)(f:cX):
  AC δ 31 [.ptr b 0,f.V] d λD E=>dj E b p r z (jg (cQ a f.d.table) a).2/\cE b p r d E/\D=.v (.int .i64 (jg (cQ a f.d.table) a).1):=by
 obtain⟨i,j,x,l⟩:=C.x;obtain⟨⟨F,c,G,L⟩,P,S⟩:=f
 dsimp only
 show AC δ _ [.ptr b 0,.agg [av F,bm c,.J (bX G) P,.J (ab L) S]] d _;refine aM hm N6 ?_;refine bg λT y=>?_;have h:=ν (b0:=.cells [av F,bm c,.J (bX G) P,.J (ab L) S]) (ι) y;have s:=μ x;have m:b≠T:=by rintro rfl;rw[x]at y;cases y
 have t:=m.symm;refine aa ?_;generalize d.set T _=n at*;refine ak (a3u a i j c l e g n) ?_;rintro D u⟨k,o⟩;have v:=ω (k _ _ (h _ _ x));have V:=C.sub (π h k);cases W:cQ a c with
 |error w=>rw[W]at o;obtain⟨A,rfl⟩:=o;refine aa ?_;exact⟨_,ι,V,cE.of (π h k),rfl⟩
 |ok B=>rw[W]at o;obtain⟨H,q,rfl⟩:=o;refine aa ?_;exact⟨_,ι,V.put q,(cE.of (π h k)).Aq,rfl⟩
def a3x(f:U)(h D E:Nat)(g:af)(a:List aT)(i:dj f h D E g a)(v:∀b∈a,b.Fit)(w:β a<=1000)(d:cX)(A:d.d.Fit):
  AC δ 30 [.ptr h 0,d.V] f λj l=>dj l h D E g (jg (ky a ⟨d.d.table,d.d.aH,aG,aG⟩) a).2/\cE h D E f l/\j=.v (.int .i64 (jg (ky a ⟨d.d.table,d.d.aH,aG,aG⟩) a).1):=by
 obtain⟨B,H,p,I⟩:=i.x;obtain⟨⟨F,b,c,G⟩,r,L⟩:=d;obtain⟨K,P,M,k2⟩:=A
 dsimp only at*
 show AC δ _ [.ptr h 0,.agg [av F,bm b,.J (bX c) r,.J (ab G) L]] f _;refine aM hm N4 ?_;refine bg λS T=>?_;have V:=ν (b0:=.cells [av F,bm b,.J (bX c) r,.J (ab G) L]) (ι) T;have k3:=μ p;have N:h≠S:=by rintro rfl;rw[p]at T;cases T
 have k4:=N.symm;refine aa ?_;have aD:=ξ f S (.cells [av F,bm b,.J (bX c) r,.J (ab G) L]);generalize f.set S _=O at*;refine ak (a3v c r O P) ?_;rintro _ Q⟨x,m,rfl⟩;have dV:=μ (x _ _ (V _ _ p));have k5:=μ (x _ _ aD);refine aa ?_;rw[mm];have W:eJ ⟨b,c,aG,aG⟩ (bm b::.J (bX c) m::(ag aG .nil .nil .nil++ag aG .nil .nil .nil)):=⟨⟨m,_,_,_,_,_,_,rfl⟩,⟨bo,q9⟩,⟨bo,q9⟩,P⟩;have n:fS=bm []::.J [] .nil::(ag aG .nil .nil .nil++ag aG .nil .nil .nil):=rfl;have X:∀y z k:R,∀o:ύ,putAt (y::z::o) 0 [k]=k::z::o:=λ_ _ _ _=>rfl;have k6:∀y z k:R,∀o:ύ,putAt (y::z::o) 1 [k]=y::k::o:=λ_ _ _ _=>rfl;rw[n,X];generalize ag aG .nil .nil .nil++ag aG .nil .nil .nil=k7 at*;have q:=a3r a B H ⟨b,c,aG,aG⟩ _ W ⟨K,P,M⟩ I v w Q;have k8:=W.all.1;clear n W;refine aa ?_;refine ak q ?_;clear q;rintro j k9⟨s,C⟩;have Y:=x _ _ (V _ _ p);have l0:=ω (s _ _ Y);have e:=π V (π x s);have t:=i.sub e;cases u:ky a ⟨b,c,aG,aG⟩with
 |error l1=>rw[u]at C;obtain⟨l2,rfl⟩:=C;refine aa ?_;exact⟨_,ι,t,cE.of e,rfl⟩
 |ok l3=>rw[u]at C;obtain⟨l4,Z,rfl⟩:=C;refine aa ?_;exact⟨_,ι,t.put Z,(cE.of e).Aq,rfl⟩
def nj(c:List aT)(b:cC):Int×Option aT:=match c.find? (λa=>decide (a.name=b.table))with
 |none=>(3,η)
 |some a=>if β b.row=β a.aH+1 then(0,γ a)else(6,γ a)
theorem Hm(b:U)(p n q:Nat)(s:af)(r:List aT)(t:dj b p n q s r)(Y:β r<=1000)(D:cX)(u:D.d.Fit):
  AC δ 56 [.ptr p 0,D.V] b λF v=>b.sub v/\match nj r D.d with
   |(G,η)=>F=.aJ [.agg fS,.v (.int .i64 G)]
   |(G,γ a)=>∃T,eJ a T/\F=.aJ [.agg T,.v (.int .i64 G)]:=by
 obtain⟨w,A,L,B⟩:=t.x;obtain⟨⟨x,a,y,c⟩,z,C⟩:=D;obtain⟨Z,k2,k3,k4⟩:=u
 dsimp only at*
 have k5:=bn (n:=c);show AC δ _ [.ptr p 0,.agg [av x,bm a,.J (bX y) z,.J (ab c) C]] b _;refine aM hm NO ?_;refine bg λd P=>?_;refine cy λf S k6 H=>?_;have k7:=μ L;have I:p≠d:=by rintro rfl;rw[L]at P;cases P
 have k8:=I.symm;have K:p≠f:=by rintro rfl;rw[L]at S;cases S
 have k9:=K.symm;refine aa ?_;rw[mm];have l0:=gG.all.1;have V:∀a T,eJ a T->putAt fS 0 T=T:=λa T M=>(oo M).2.2.1;have l1:=gG.all.2.1;have l2:=V _ _ gG;generalize i:fS=W at*;have l3:b.sub ((b.set d (.cells [av x,bm a,.J (bX y) z,.J (ab c) C])).set f (.cells W)):=ν (ν ι P) S;have aD:((b.set d (.cells [av x,bm a,.J (bX y) z,.J (ab c) C])).set f (.cells W)) d=γ (.cells [av x,bm a,.J (bX y) z,.J (ab c) C]):=by rw[ο _ _ H,ξ]
 have aL:=ξ (b.set d (.cells [av x,bm a,.J (bX y) z,.J (ab c) C])) f (.cells W);generalize (b.set d _).set f _=N at*;refine ak (find_spec r w A a B ε N) ?_;rintro F _⟨rfl,k⟩;have l4:=μ aD;have l5:=ω aL;unfold Found at k;rw[i]at k;clear i;unfold nj
 dsimp only
 cases j:r.find? (λo=>decide (o.name=a))with
 |none=>
  rw[j]at k;obtain rfl:=k;refine aa ?_;refine aR λE h=>?_;have e:E≠f:=by rintro rfl;rw[aL]at h;cases h
  have O:=e.symm;exact aK
 |some o=>
  rw[j]at k;obtain⟨T,g,rfl⟩:=k;obtain⟨l6,l7,l8,_⟩:=g.all;have l9:=V _ _ g;have l:=λb=>rZ o T g b;clear V;refine aa ?_;refine aR λE h=>?_;have e:E≠f:=by rintro rfl;rw[aL]at h;cases h
  have O:=e.symm;have Q:E≠d:=by rintro rfl;rw[aD]at h;cases h
  have n0:=Q.symm;refine aa ?_;by_cases m:β c=β o.aH+1
  .have X:(β c)=((β o.aH+1:Nat):Int):=ε
   dsimp only
   rw[if_pos m];refine aP (l _) ?_;simp_all
  .have X:¬(β c)=((β o.aH+1:Nat):Int):=ε
   dsimp only
   rw[if_neg m];refine aP (l _) ?_;simp_all
def a3y(a:U)(b c d:Nat)(f:af)(h:List aT)(k:dj a b c d f h):
  AC δ 40 [.ptr b 0] a λo p=>p=a/\o=.ptr c 0:=by
 obtain⟨x,y,r,z⟩:=k.x;have C:=μ r;refine aM hm No ?_
 repeat' first|refine ay (λ_=>?_) λ_=>?_|trivial
def Hn(a:U):AC δ 14 [] a λr o=>∃b c d,r=.ptr b 0/\a.sub o/\a b=η/\a c=η/\a d=η/\dj o b c d af.new []:=by refine aM hm Mz ?_;refine ak (a0a a) ?_;rintro _ z⟨c,d,x,y,rfl,p,f⟩;refine aa ?_;refine aR λb h=>?_;refine aa ?_;have k:=p.cI h;exact⟨_,ι,b,c,d,rfl,ν f (Ν f h),Ν f h,x,y,p.set k,⟨[],.nil,ξ _ _ _,trivial⟩,k.1,k.2⟩
theorem eJ.a3z(b:eJ h8 j)(a:β A.sum=32)(c:A.cL):eJ ⟨h8.name,h8.aH,A,h8.c9⟩ (putAt j 2 (ag A a7 h5 j1)):=by obtain⟨⟨d,f,h,k,o,p,r,rfl⟩,⟨x,C⟩,y,z⟩:=b;have D:=(aV (a7:=f) (h5:=h) (j1:=k) x).len;have E:=(aV (a7:=a7) (h5:=h5) (j1:=j1) a).len;refine⟨⟨d,a7,h5,j1,o,p,r,?_⟩,⟨a,c⟩,y,z⟩;grind[putAt,ag,List.drop_left']
theorem eJ.a3A(h:eJ h8 j)(a:β A.sum=32)(k:A.cL):eJ ⟨h8.name,h8.aH,h8.bK,A⟩ (putAt j 39 (ag A a7 h5 j1)):=by obtain⟨⟨o,b,c,d,p,r,x,rfl⟩,⟨f,y⟩,⟨z,D⟩,C⟩:=h;have E:=(aV (a7:=b) (h5:=c) (j1:=d) f).len;have F:=(aV (a7:=a7) (h5:=h5) (j1:=j1) a).len;have G:=(aV (a7:=p) (h5:=r) (j1:=x) z).len;refine⟨⟨o,b,c,d,a7,h5,j1,?_⟩,⟨f,y⟩,⟨a,k⟩,C⟩;grind[putAt,ag,List.take_left',List.drop_eq_nil_of_le,Ζ]
def fT(o p:af->Except Int aj×af)(r:af)(a:List aT)(b:aT):Int×List aT×af:=match o r with
 |(.error c,d)=>(c,a,d)
 |(.ok h,d)=>match p d with
  |(.error c,f)=>(c,a,f)
  |(.ok k,f)=>((jg (kz a ⟨b.name,b.aH,h,k⟩) a).1,(jg (kz a ⟨b.name,b.aH,h,k⟩) a).2,f)
def jR(a c:Nat)(f:FuncId)(h:af->Except Int aj×af)(k:aj)(o:Ω)(p:Nat):Prop:=
 ∀(b:U)(d:af)(r x y z:Own),bz b a c d->AC δ f [.ptr a 0,.agg (ag k r x y),.J (ab o) z,.v (.int .i64 (p:Int))] b λC D=>zZ b D a c (h d) C
theorem Ho(F:U)(f S T:Nat)(x:af)(b:List aT)(d:dj F f S T x b)(a03:∀a∈b,a.Fit)(a04:β b<=1000)(a:aT)(W:ύ)(O:eJ a W)(Q:a.Fit)(X:Ω)(Y:Own)(Z k2:FuncId)(G L:af->Except Int aj×af)
  (a05:gw δ Z=ζ) (a06:gw δ k2=ζ) (k3:jR S T Z G a.bK X (β a.aH+1)) (k4:jR S T k2 L a.c9 X (β a.aH+1)):
  AC δ 57 [.ptr f 0,.agg W,.J (ab X) Y,.bG Z [] [],.bG k2 [] []] F λu l3=>u=.v (.int .i64 (fT G L x b a).1)/\dj l3 f S T (fT G L x b a).2.2 (fT G L x b a).2.1/\cE f S T F l3:=by
 obtain⟨v,P,k5,w⟩:=d.x;have a86:=μ k5;obtain⟨a88,a89,a90,a92,a07,a08,a09,a10,a11,a13,a94,a95,a96⟩:=O.all;have a14:=λF=>rZ a W O F;have c:(match G x with
  |(.error e,g)=>(e,b,g)
  |(.ok A,g)=>match L g with
   |(.error e,j)=>(e,b,j)
   |(.ok B,j)=>((jg (kz b ⟨a.name,a.aH,A,B⟩) b).1,(jg (kz b ⟨a.name,a.aH,A,B⟩) b).2,j))=fT G L x b a:=rfl
 generalize fT G L x b a=a97 at*;refine aM hm NQ ?_;refine bg λy l=>?_;have l4:f≠y:=by rintro rfl;rw[k5]at l;cases l
 have a98:=l4.symm;have k6:=ν (b0:=.cells W) (ι) l;have bt:=ξ F y (.cells W);refine aP (a14 _) ?_;have m:=d.hg.cI l;generalize F.set y _=a15 at*;have a16:=d.hg.mono k6;have a18:=k6 _ _ k5;refine fa a05 (k3 a15 x a07 a08 a09 Y a16) ?_;rintro u l5⟨n,k7,l6⟩;have bS:=k7 _ _ d.oq d.ot a18;have k8:=k7 _ _ m.1 m.2 bt;have l7:=cE.trans (cE.of (e:=f) k6) (cE.ext k7);generalize G x=a19 at*;obtain⟨a27,g⟩:=a19;cases a27 with
 |error e=>
  obtain⟨l8,a29,z,C,D,q,rfl⟩:=l6
  dsimp only at c n
  have a30:=(aV (a7:=z) (h5:=C) (j1:=D) q).all;have H:=kv (a7:=z) (h5:=C) (j1:=D) q;refine aa ?_;refine aR λi h=>?_;refine aa ?_;refine⟨_,ι,by rw[<-c],?_,l7.trans (cE.of (ν ι h))⟩;rw[<-c];exact⟨n.mono (ν ι h),⟨v,P,ν ι h _ _ bS,w⟩,d.oq,d.ot⟩
 |ok s=>
  obtain⟨k9,a34,z,C,D,rfl⟩:=l6
  dsimp only at c n
  have a99:=(aV (a7:=z) (h5:=C) (j1:=D) k9).all;have H:=kv (a7:=z) (h5:=C) (j1:=D) k9;refine aa ?_;refine aR λi h=>?_;have a36:f≠i:=by rintro rfl;rw[bS]at h;cases h
  have b00:=a36.symm;have a38:y≠i:=by rintro rfl;rw[k8]at h;cases h
  have b01:=a38.symm;have dV:=μ bS;have a42:=μ k8;refine aa ?_;have I:=ν (b0:=.cells (ag s z C D)) (ι) h;have ha:=ξ l5 i (.cells (ag s z C D));have dB:=I _ _ bS;have a43:=I _ _ k8;have a47:=n.mono I;have l9:=n.cI h;have a48:=l7.trans (cE.of I);generalize l5.set i _=a52 at*;clear dV a42 H;refine fa a06 (k4 a52 g a10 a11 a13 Y a47) ?_;rintro u t⟨K,M,n0⟩;have eI:=M _ _ d.oq d.ot dB;have n2:=M _ _ m.1 m.2 a43;have a56:=M _ _ l9.1 l9.2 ha;have n3:=a48.trans (cE.ext M);generalize L g=a57 at*;obtain⟨cG,j⟩:=a57;cases cG with
  |error e=>
   obtain⟨l8,a29,k,o,p,q,rfl⟩:=n0
   dsimp only at c K
   have a30:=(aV (a7:=k) (h5:=o) (j1:=p) q).all;have H:=kv (a7:=k) (h5:=o) (j1:=p) q;refine aa ?_;refine aR λE r=>?_;refine aa ?_;refine⟨_,ι,by rw[<-c],?_,n3.trans (cE.of (ν ι r))⟩;rw[<-c];exact⟨K.mono (ν ι r),⟨v,P,ν ι r _ _ eI,w⟩,d.oq,d.ot⟩
  |ok ct=>
   obtain⟨l0,a61,k,o,p,rfl⟩:=n0
   dsimp only at c K
   have b02:=(aV (a7:=k) (h5:=o) (j1:=p) l0).all;have H:=kv (a7:=k) (h5:=o) (j1:=p) l0;refine aa ?_;refine aR λE r=>?_;have a62:y≠E:=by rintro rfl;rw[n2]at r;cases r
   have b03:=a62.symm;have a63:i≠E:=by grind
   have b04:=a63.symm;have a65:f≠E:=by rintro rfl;rw[eI]at r;cases r
   have b05:=a65.symm;have b06:=μ a56;have b07:=ω n2;have n4:=O.a3z (a7:=z) (h5:=C) (j1:=D) k9 a34;have l1:=n4.a3A (a7:=k) (h5:=o) (j1:=p) l0 a61;have b08:=n4.all.1;have b09:=l1.all.1;have b10:=l1.all.2.1;have n5:=a3s b v P ⟨a.name,a.aH,s,ct⟩ _ l1 ⟨Q.n,Q.c,Q.cs⟩ w a03 a04;have dV:=μ eI;have b11:∀V P,V≠E->t V=γ P->(t.set E (.cells (ag ct k o p))) V=γ P:=λV P a68 k4=>by rw[ο _ _ a68];exact k4
   refine aa ?_;generalize putAt (putAt W 2 (ag s z C D)) 39 (ag ct k o p)=n9 at*;have a69:dj ((t.set E (.cells (ag ct k o p))).set y (.cells n9)) f S T j b:=⟨(K.mono (ν ι r)).set m,⟨v,P,by rw[ο _ _ l4];simp_all,w⟩,d.oq,d.ot⟩;have a71:cE f S T F ((t.set E (.cells (ag ct k o p))).set y (.cells n9)):=λV a73 A B a74 l2=>by
    have k3:V≠y:=by rintro rfl;rw[l]at l2;cases l2
    rw[ο _ _ k3];exact ν ι r _ _ (n3 V a73 A B a74 l2)
   generalize (t.set E _).set y _=a81 at*;refine ak (n5 a81) ?_;clear n5;rintro u b12⟨a00,N⟩;have a01:=a69.sub a00;obtain⟨b13,b14,eH,b15⟩:=a01.x;have b16:=ω eH;have a83:=a71.trans (cE.of a00);cases a02:kz b ⟨a.name,a.aH,s,ct⟩with
   |error e=>
    rw[a02]at N c;obtain⟨l8,rfl⟩:=N
    dsimp only[jg]at c
    refine aa ?_;grind
   |ok b17=>
    rw[a02]at N c;obtain⟨b18,a84,rfl⟩:=N
    dsimp only[jg]at c
    refine aa ?_;exact⟨_,ι,by rw[<-c],by rw[<-c];exact a01.put a84,a83.Aq⟩
def w3(a:e7.find? (λh8=>decide (h8.name=O))=γ h8):h8∈e7:=List.mem_of_find?_eq_some a
def jR.a3B(c:β A.sum=32)(d:A.cL)(f:A.size<=2000000)(h:1<=e)(k:e<=8)(o:β n=e):jR i t 58 (λa=>oh e n a A) A n e:=
 λp a r x y z C=>(a2V p i t a C A r x y c d f n z e h k o).mono λD E b=>⟨b.1,b.2.1,b.2.2.x⟩
def jR.a3C(b:β A.sum=32)(c:A.cL)(d:A.size<=2000000)(f:1<=e)(h:e<=8)(k:β n=e):jR i t 60 (λa=>jf e n a A) A n e:=
 λo a p r x y z=>a2Y o i t a z A p r x b c d n y e f h k
def jR.a3D(c:β A.sum=32)(d:A.cL)(f:1<=e)(h:e<=8)(k:β n=e):jR i t 59 (λa=>jJ e n a A) A n e:=
 λo a p r x y z=>(a1e o i t a z A p r x c d n y e f h k).mono λC D b=>⟨b.1,b.2.1,b.2.2.x⟩
def jR.a3E(c:β A.sum=32)(d:A.cL)(f:1<=e)(h:e<=8)(k:β n=e):jR i t 61 (λa=>lY e n a A) A n e:=
 λo a p r x y z=>(a1m o i t a z A p r x c d n y e f h k).mono λC D b=>⟨b.1,b.2.1,b.2.2.x⟩
def jS(a:af)(c:List aT)(d:cC):Int×List aT×af:=match nj c d with
 |(_,η)=>(3,c,a)
 |(f,γ b)=>if f=0 then fT (λa=>jf (β b.aH+1) d.row a b.bK) (λa=>lY (β b.aH+1) d.row a b.c9) a c b else(f,c,a)
theorem a3F(r:U)(o x y:Nat)(c:af)(d:List aT)(W:dj r o x y c d)(e:∀b∈d,b.Fit)(s:cN d=ζ)(a:cX)(t:a.d.Fit):
  AC δ 33 [.ptr o 0,a.V] r λD z=>D=.v (.int .i64 (jS c d a.d).1)/\dj z o x y (jS c d a.d).2.2 (jS c d a.d).2.1/\cE o x y r z:=by
 obtain⟨u,k6⟩:=qs s;have f:(match nj d a.d with
  |(_,η)=>(3,d,c)
  |(g,γ b)=>if g=0 then fT (λc=>jf (β b.aH+1) a.d.row c b.bK) (λc=>lY (β b.aH+1) a.d.row c b.c9) c d b else(g,d,c))=jS c d a.d:=rfl
 generalize jS c d a.d=k7 at*;have i:=λz E=>Hm z o x y c d E ε a t;have j:a.V=.agg [av a.d.kind,bm a.d.table,.J (bX a.d.aH) a.gP,.J (ab a.d.row) a.du]:=rfl;obtain⟨k8,k9,v,l0⟩:=W.x;rw[j]at i|-;clear j;have l1:=μ v;have l2:=gG.all.1;refine aM hm Na ?_;refine bg λF w=>?_;have l:=ν (b0:=.cells [av a.d.kind,bm a.d.table,.J (bX a.d.aH) a.gP,.J (ab a.d.row) a.du]) (ι) w;have aD:=ξ r F (.cells [av a.d.kind,bm a.d.table,.J (bX a.d.aH) a.gP,.J (ab a.d.row) a.du]);generalize r.set F _=A at*;have m:=W.sub l;refine ak (i A m) ?_;rintro D l3⟨G,h⟩;have n:=G _ _ aD;have l4:=μ n;have B:=m.sub G;have H:=π l G;have L:∀b T,eJ b T->putAt fS 0 T=T:=λb T E=>(oo E).2.2.1;have l5:=gG.all.2.1;have l6:=L _ _ gG;have P:=mm;generalize fS=l7 at*;unfold nj at h f;cases S:d.find? (λb=>decide (b.name=a.d.table))with
 |none=>
  rw[S]at h f
  dsimp only at h f
  obtain rfl:=h;refine aa ?_;refine aR λV p=>?_;rw[P];refine aa ?_;grind[ι,ν,cE.of,π]
 |some b=>
  rw[S]at h f;have hm:=w3 S
  dsimp only at h f
  by_cases C:β a.d.row=β b.aH+1
  .rw[if_pos C]at h f;obtain⟨T,k,rfl⟩:=h;obtain⟨I,K,M,_⟩:=k.all;have N:=L _ _ k;refine aa ?_;refine aR λV p=>?_;rw[P]
   dsimp only at f
   rw[if_pos rfl]at f;have O:F≠V:=by rintro rfl;rw[n]at p;cases p
   have l8:=O.symm;obtain⟨Q,X⟩:=k.k;obtain⟨Y,Z⟩:=k.z;have q:=u b hm;have l9:=q.c;have n0:=q.k.size;have k2:=B.sub (ν (b0:=.cells T) ι p);have k3:=Ho _ o x y c d k2 e ε b T k (e b hm) a.d.row a.du 60 61 _ _ Φ Φ (jR.a3C Q X ε ε ε C) (jR.a3E Y Z ε ε C);refine aa ?_;refine ak k3 ?_;rintro D n2⟨rfl,k4,k5⟩;refine aa ?_;exact⟨_,ι,by rw[<-f];exact k4,(cE.of (π H (ν ι p))).trans k5⟩
  .rw[if_neg C]at h f;obtain⟨T,k,rfl⟩:=h;obtain⟨I,K,M,_⟩:=k.all;have N:=L _ _ k;refine aa ?_;refine aR λV p=>?_;rw[P];refine aa ?_
   dsimp only at f
   rw[if_neg Μ]at f;grind[ι,ν,cE.of,π]
end Go.Proofs.YtgchlmdfldnhnaaGreat
