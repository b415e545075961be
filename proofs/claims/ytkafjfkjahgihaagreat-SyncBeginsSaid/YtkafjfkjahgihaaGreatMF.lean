import Derived.Test.YtkafjfkjahgihaaGreatME
import Derived.Test.YtkafjfkjahgihaaGreatMD
import Derived.Test.YtkafjfkjahgihaaGreatMC
set_option linter.all false
open Option renaming some->β,none->ε
open Go.Proofs.Tryz renaming prog->γ
open Bool renaming true->ζ,false->θ
open Go.bD.U renaming a1->η,ad->ι,ae->κ,aj->μ,an->ξ,ao->ο,set_set->ς,aI->τ,bJ->Ι
open UInt8 renaming ofNat->ν
open BitVec renaming ofInt->π
open Go.bD.R renaming cells->ρ
open Go.Proofs.YtkafjfkjahgihaaGreat.isRow renaming cells->υ
open List renaming zipWith->φ,range->χ,length_append->ω,take_of_length_le->Γ,getElem?_eq_some_iff->Ε,length->α
open Go.Proofs.YtkafjfkjahgihaaGreat.Ext renaming of->ψ
open Prod renaming fst->Α
open Go.Proofs.YtkafjfkjahgihaaGreat.bC renaming cells->Κ
open Go.bD.bf renaming nil->Ν
set_option maxRecDepth 100000
namespace Go.bD
open Go
structure ke(c:U)(k:Nat)(a:R)(n:Nat)(us:Ψ):Prop where
 src:∀b,c.sub b->bT b k a=β (n,us)
 len:fk a=β (.v (.int .i64 (n:Int)))
 one:a.cells=[a]
 full:α us=n*k
variable{f s e5:U}{g B e1:Ψ}{e i v O e0 j6:Nat}
def ke.mono{a:R}(b:ke f e a i g)(c:f.sub s):ke s e a i g:=⟨λd h=>b.src d (ο c h),b.len,b.one,b.full⟩
theorem ke.J{s:U}{b:Nat}{a:Ψ}{o:Own}(c:aW b a):ke s b (.J a o) (α a) (flat a):=⟨λk _=>by
 have:=a8A.2 λd h=>decide_eq_true (c d h);simp only[bT,this,if_true],rfl,rfl,cW c⟩
variable{n b6:R}
theorem av.al(b:av s f e g n)(k:0<e):∃a,α g=a*e/\ke f e n a g:=by
 obtain⟨a,c,_,d⟩:=b.src;refine⟨a,c,λo h=>?_,d,?_,c⟩
 .obtain⟨p,r,x,_⟩:=(av.mono b h).src;grind
 .rcases b.2 with⟨_,rfl|rfl⟩|⟨y,a,z,C,rfl,_⟩<;>rfl
variable{q Y:R -> U -> Prop}{b5:FuncId}{m:Program}
theorem AC.lL(h:View f n s b6)(k:AC m b5 (g++b6::B) s q):AC m b5 (g++n::B) f q:=by
 refine k.pre λC o p a r=>?_;have x:=a.2 (α g) n acr;obtain⟨y,b,D⟩:=h p o _ r x;refine⟨y,?_,b⟩;have c:=a.mono b.le;refine⟨by rw[c.1];simp,λd z E=>?_⟩;by_cases F:d=α g;simp_all
 .refine c.2 d z ?_;grind
end Go.bD
namespace Go.Proofs.YtkafjfkjahgihaaGreat
open Go Go.bD
theorem a1l(a:Nat)(C:a<=100000000)(d:U):
  AC γ 367 [.J [] .nil,.v (.int .i64 (a:Int))] d λr x=>av d x 1 [] r:=by
 refine bg hm UD acr ?_;have h:¬(a:Int)<0:=acq;have k:(a:Int) -(0 - 0)=a:=acq;have o:ck 1 (.J [] .nil) ε (β (.v (.int .i64 0))) ε=β (.J [] .nil):=yb;by_cases c1:(0:Int)<a
 .refine dM (bl @h @k @c1 @o @abK) ?_;refine DK acq acq acq λb c D p E y F=>?_;have z:ck 1 (.aq b a c 1) ε (β (.v (.int .i64 0))) ε=β (.aq b 0 c 1):=hZ (v:=0) acq;refine dM @z ?_;refine⟨_,η,κ η p,.inr ⟨b,0,c,_,rfl,p,μ _ _ _,?_,acr,acr,acq,y⟩⟩;simp_all
 .refine dM (bl @h @k @c1 @o @abK) ?_;exact⟨_,η,av.nil η⟩
def a1m(d:U)(h k:R)(D:Own)(o r:Nat)(V i:Ψ)(z:ke d 1 h o V)(C:ke d 1 k r i)(k7:o<=100000)(k8:r<=100000):
  AC γ 347 [.J [h,k] D] d λB b=>av d b 1 (V++i) B:=by
 refine bg hm Uf acr ?_;have H:=z.len;have I:=C.len;have u:bS d 1 (.J [h,k] D) [h,k]:=bS.J λk9 v=>by
  simp only[a8E,a9n,or_false]at v;rcases v with rfl|rfl
  .rw[z.one];rfl
  .rw[C.one];rfl
 have W:(([h,k].length):Int)=2:=rfl;obtain⟨K,e,M⟩:=u.get 0 h rfl;obtain⟨N,f,O⟩:=u.get 1 k rfl;have w:∀b,d.sub b->du θ 1 b K=β h:=λb j=>by rw[M.ld b j θ 1 acq (by rw[z.one];simp),z.one];rfl
 have A:∀b,d.sub b->du θ 1 b N=β k:=λb j=>by rw[O.ld b j θ 1 acq (by rw[C.one];simp),C.one];rfl
 have Q:((0:Nat):Int)=0:=rfl;have X:((1:Nat):Int)=1:=rfl;rw[Q]at e;rw[X]at f;have Y:=w d η;have Z:=A d η;have bl:¬(o:Int)<0:=acq;have bx:¬(o)+(r:Int)<0:=acq;refine dM @W ?_;refine cv (λa b=>b=d/\a 0=.J [h,k] D/\a 9=.J [h,k] D/\a 10=.v (.int .i64 2)/\((a 11=.v (.int .i64 0)/\a 3=.v (.int .i64 0))\/(a 11=.v (.int .i64 1)/\a 3=.v (.int .i64 o))\/(a 11=.v (.int .i64 2)/\a 3=.v (.int .i64 ((o)+(r))))))
  (λa _=>match a 11 with|.v (.int _ l)=>2 - l.toNat|_=>0) ⟨rfl,?_⟩ ?_
 .refine dM @W ?_;simp
 rintro a m⟨rfl,E,F,G,n⟩;rcases n with⟨x,p⟩|⟨x,p⟩|⟨x,p⟩
 .refine dM (cj @E @F @G @x @p @e @Y @H @bl @abH) ?_;simp
 .refine dM (de @E @F @G @x @p @f @Z @I @bx) ?_;simp
 .have k3:(o)+(r)=((o+r:Nat):Int):=acq;rw[k3]at p;simp -dsimp -implicitDefEqProofs (disch:=first|omega|assumption|(simp only[aX,Nat.reduceAdd];try omega)) only[go_sem,simprocAttr,-List.reduceReplicate,↓eQ,E,F,G,x,p];refine ag (a1l (o+r) acq _) ?_;intro l0 l1 k4;simp -dsimp -implicitDefEqProofs (disch:=first|omega|assumption|(simp only[aX,Nat.reduceAdd];try omega)) only[go_sem,simprocAttr,-List.reduceReplicate,↓eQ,E,F,G,x,p,W];refine cv (λa b=>a 25=.J [h,k] D/\a 26=.v (.int .i64 2)/\((a 27=.v (.int .i64 0)/\av m b 1 [] (a 6))\/(a 27=.v (.int .i64 1)/\av m b 1 V (a 6))\/(a 27=.v (.int .i64 2)/\av m b 1 (V++i) (a 6))))
   (λa _=>match a 27 with|.v (.int _ l)=>2 - l.toNat|_=>0) ?_ ?_
  .simp -dsimp -implicitDefEqProofs (disch:=first|omega|assumption|(simp only[aX,Nat.reduceAdd];try omega)) only[go_sem,simprocAttr,-List.reduceReplicate,↓eQ,E,F,G,x,p,W];exact .inl k4
  rintro a g⟨L,P,n⟩;have S:=z.full;have q:=C.full;rcases n with⟨y,c⟩|⟨y,c⟩|⟨y,c⟩
  .have T:=w g c.1;generalize s:a 6=k5 at c;simp -dsimp -implicitDefEqProofs (disch:=first|omega|assumption|(simp only[aX,Nat.reduceAdd];try omega)) only[go_sem,simprocAttr,-List.reduceReplicate,↓eQ,L,P,y,e,T,s];refine eZ c acq (z.src g c.1) S (by rw[a8s,S];omega) (by rw[a8s,S];omega) λk6 b t=>?_;simp -dsimp -implicitDefEqProofs (disch:=first|omega|assumption|(simp only[aX,Nat.reduceAdd];try omega)) only[go_sem,simprocAttr,-List.reduceReplicate,↓eQ,L,P,y,e,T];exact .inr (.inl t)
  .have T:=A g c.1;generalize s:a 6=k5 at c;simp -dsimp -implicitDefEqProofs (disch:=first|omega|assumption|(simp only[aX,Nat.reduceAdd];try omega)) only[go_sem,simprocAttr,-List.reduceReplicate,↓eQ,L,P,y,f,T,s];refine eZ c acq (C.src g c.1) q (by rw[S,q];omega) (by rw[S,q];omega) λk6 b t=>?_;simp -dsimp -implicitDefEqProofs (disch:=first|omega|assumption|(simp only[aX,Nat.reduceAdd];try omega)) only[go_sem,simprocAttr,-List.reduceReplicate,↓eQ,L,P,y,f,T];exact .inr (.inr t)
  .refine dM (aD @L @P @y) ?_;exact⟨_,η,c⟩
def a1n(a:Nat)(D:a<=100000000)(d:U):
  AC γ 368 [.J [] .nil,.v (.int .i64 (a:Int))] d λr x=>av d x 37 [] r:=by
 refine bg hm UF acr ?_;have h:¬(a:Int)<0:=acq;have k:(a:Int) -(0 - 0)=a:=acq;have o:ck 37 (.J [] .nil) ε (β (.v (.int .i64 0))) ε=β (.J [] .nil):=yb;by_cases c1:(0:Int)<a
 .refine dM (bl @h @k @c1 @o @abK) ?_;refine DK acq acq acq λb c E p F y z=>?_;have C:ck 37 (.aq b a c 37) ε (β (.v (.int .i64 0))) ε=β (.aq b 0 c 37):=hZ (v:=0) acq;refine dM @C ?_;refine⟨_,η,κ η p,.inr ⟨b,0,c,_,rfl,p,μ _ _ _,?_,acr,acr,acq,y⟩⟩;rw[Ρ,ly,z];simp;omega
 .refine dM (bl @h @k @c1 @o @abK) ?_;exact⟨_,η,av.nil η⟩
def a1o(d:U)(h k:R)(D:Own)(o r:Nat)(V i:Ψ)(z:ke d 37 h o V)(C:ke d 37 k r i)(k7:o<=100000)(k8:r<=100000):
  AC γ 348 [.J [h,k] D] d λB b=>av d b 37 (V++i) B:=by
 refine bg hm Uh acr ?_;have H:=z.len;have I:=C.len;have u:bS d 1 (.J [h,k] D) [h,k]:=bS.J λk9 v=>by
  simp only[a8E,a9n,or_false]at v;rcases v with rfl|rfl
  .rw[z.one];rfl
  .rw[C.one];rfl
 have W:(([h,k].length):Int)=2:=rfl;obtain⟨K,e,M⟩:=u.get 0 h rfl;obtain⟨N,f,O⟩:=u.get 1 k rfl;have w:∀b,d.sub b->du θ 1 b K=β h:=λb j=>by rw[M.ld b j θ 1 acq (by rw[z.one];simp),z.one];rfl
 have A:∀b,d.sub b->du θ 1 b N=β k:=λb j=>by rw[O.ld b j θ 1 acq (by rw[C.one];simp),C.one];rfl
 have Q:((0:Nat):Int)=0:=rfl;have X:((1:Nat):Int)=1:=rfl;rw[Q]at e;rw[X]at f;have Y:=w d η;have Z:=A d η;have bl:¬(o:Int)<0:=acq;have bx:¬(o)+(r:Int)<0:=acq;refine dM @W ?_;refine cv (λa b=>b=d/\a 0=.J [h,k] D/\a 9=.J [h,k] D/\a 10=.v (.int .i64 2)/\((a 11=.v (.int .i64 0)/\a 3=.v (.int .i64 0))\/(a 11=.v (.int .i64 1)/\a 3=.v (.int .i64 o))\/(a 11=.v (.int .i64 2)/\a 3=.v (.int .i64 ((o)+(r))))))
  (λa _=>match a 11 with|.v (.int _ l)=>2 - l.toNat|_=>0) ⟨rfl,?_⟩ ?_
 .refine dM @W ?_;simp
 rintro a m⟨rfl,E,F,G,n⟩;rcases n with⟨x,p⟩|⟨x,p⟩|⟨x,p⟩
 .refine dM (cj @E @F @G @x @p @e @Y @H @bl @abH) ?_;simp
 .refine dM (de @E @F @G @x @p @f @Z @I @bx) ?_;simp
 .have k3:(o)+(r)=((o+r:Nat):Int):=acq;rw[k3]at p;simp -dsimp -implicitDefEqProofs (disch:=first|omega|assumption|(simp only[aX,Nat.reduceAdd];try omega)) only[go_sem,simprocAttr,-List.reduceReplicate,↓eQ,E,F,G,x,p];refine ag (a1n (o+r) acq _) ?_;intro l0 l1 k4;simp -dsimp -implicitDefEqProofs (disch:=first|omega|assumption|(simp only[aX,Nat.reduceAdd];try omega)) only[go_sem,simprocAttr,-List.reduceReplicate,↓eQ,E,F,G,x,p,W];refine cv (λa b=>a 25=.J [h,k] D/\a 26=.v (.int .i64 2)/\((a 27=.v (.int .i64 0)/\av m b 37 [] (a 6))\/(a 27=.v (.int .i64 1)/\av m b 37 V (a 6))\/(a 27=.v (.int .i64 2)/\av m b 37 (V++i) (a 6))))
   (λa _=>match a 27 with|.v (.int _ l)=>2 - l.toNat|_=>0) ?_ ?_
  .simp -dsimp -implicitDefEqProofs (disch:=first|omega|assumption|(simp only[aX,Nat.reduceAdd];try omega)) only[go_sem,simprocAttr,-List.reduceReplicate,↓eQ,E,F,G,x,p,W];exact .inl k4
  rintro a g⟨L,P,n⟩;have S:=z.full;have q:=C.full;rcases n with⟨y,c⟩|⟨y,c⟩|⟨y,c⟩
  .have T:=w g c.1;generalize s:a 6=k5 at c;simp -dsimp -implicitDefEqProofs (disch:=first|omega|assumption|(simp only[aX,Nat.reduceAdd];try omega)) only[go_sem,simprocAttr,-List.reduceReplicate,↓eQ,L,P,y,e,T,s];refine eZ c acq (z.src g c.1) S (by rw[a8s,S];omega) (by rw[a8s,S];omega) λk6 b t=>?_;simp -dsimp -implicitDefEqProofs (disch:=first|omega|assumption|(simp only[aX,Nat.reduceAdd];try omega)) only[go_sem,simprocAttr,-List.reduceReplicate,↓eQ,L,P,y,e,T];exact .inr (.inl t)
  .have T:=A g c.1;generalize s:a 6=k5 at c;simp -dsimp -implicitDefEqProofs (disch:=first|omega|assumption|(simp only[aX,Nat.reduceAdd];try omega)) only[go_sem,simprocAttr,-List.reduceReplicate,↓eQ,L,P,y,f,T,s];refine eZ c acq (C.src g c.1) q (by rw[S,q];omega) (by rw[S,q];omega) λk6 b t=>?_;simp -dsimp -implicitDefEqProofs (disch:=first|omega|assumption|(simp only[aX,Nat.reduceAdd];try omega)) only[go_sem,simprocAttr,-List.reduceReplicate,↓eQ,L,P,y,f,T];exact .inr (.inr t)
  .refine dM (aD @L @P @y) ?_;exact⟨_,η,c⟩
def fQ(k a:U)(b c:Nat)(d:Except Int (List au)×ai)(o:R):Prop:=
 match d.1 with
 |.error p=>bs a b c d.2/\Ext b c k a/\p≠0/\o=.aJ [.J [] .nil,.v (.int .i64 p)]
 |.ok bI=>∃r h,aB bC bI r/\o=.aJ [h,.v (.int .i64 0)]/\cR k a b c d.2 37 (flat r) h/\(bI=[]->h=.J [] .nil)
theorem fQ.base{d h k:U}{b c:Nat}{o:Except Int (List au)×ai}{p:R}(a:fQ h k b c o p)(r:Ext b c d h):fQ d k b c o p:=by
 unfold fQ at a|-;split at a
 .exact⟨a.1,r.trans a.2.1,a.2.2⟩
 grind[cR.base]
variable{n b6:R}{f s e5:U}{e i v O e0 j6:Nat}
theorem fQ.shape{a:Except Int (List au)×ai}(d:fQ f s e i a n):∃b c,n=.aJ [b,.v (.int .i64 c)]:=by grind[fQ]
def a1p(b:U)(d k:Nat)(h:ai)(E:bs b d k h)(a:List Τ)(o:Ψ)(p:Own)(c:Nat)(F:1<=c)(G:c<=8)(r:aB isRow a o)(L:α a<=100000):
  AC γ 248 [.J o p,.bL 114 [ee d c] []] b λx P=>fQ b P d k (pa h c a) x:=by
 refine bg hm RX acr ?_;have S:=r.len;refine al @S ?_;refine ag (yV (α a) acq b) ?_;rintro _ b⟨rfl,rfl⟩;refine bX ?_;have y:a6.bY (α a)<=100000:=by unfold a6.bY;omega
 refine ag (a1e a o p (a6.bY (α a)) b r L y) ?_;rintro _ T⟨z,gs,V,rfl,W⟩;refine bX ?_;have C:=nV (g:=a6.bY (α a)) (l:=a);refine ag (a1f T d k h (E.mono z) _ gs V c F G W (λe f=>by have:=C.2 e f;omega) (by rw[C.1];exact y)) ?_;intro x i g;have D:=fQ.base (o:=pa h c a) g (ψ z);obtain⟨j,l,rfl⟩:=D.shape;refine bX ?_;exact⟨_,η,D⟩
def Ff(d p:U)(b h:Nat)(k:ai)(D:bs d b h k)(c:List Τ)(o:Ψ)(r:R)(E:av d p 1 (flat o) r)(a:Nat)(F:1<=a)(G:a<=8)(x:aB isRow c o)(L:α c<=100000):
  AC γ 248 [r,.bL 114 [ee b a] []] p λy z=>fQ d z b h (pa k a c) y:=by
 obtain⟨P,S,C⟩:=av.F5 E x;refine AC.lL (g:=[]) S ?_;exact(a1p P b h k (D.mono C) c o .any a F G x L).mono λy z T=>fQ.base T (ψ C)
def a1q(b:U)(d k:Nat)(h:ai)(E:bs b d k h)(a:List (au))(o:Ψ)(p:Own)(c:Nat)(F:1<=c)(G:c<=8)(r:aB bC a o)(L:α a<=100000):
  AC γ 251 [.J o p,.bL 175 [ee d c] []] b λx P=>fQ b P d k (kd h c a) x:=by
 refine bg hm S3 acr ?_;have S:=r.len;refine al @S ?_;refine ag (yV (α a) acq b) ?_;rintro _ b⟨rfl,rfl⟩;refine bX ?_;have y:a6.bY (α a)<=100000:=by unfold a6.bY;omega
 refine ag (F9 a o p (a6.bY (α a)) b r L y) ?_;rintro _ T⟨z,gs,V,rfl,W⟩;refine bX ?_;have C:=nV (g:=a6.bY (α a)) (l:=a);refine ag (Fa T d k h (E.mono z) _ gs V c F G W (λe f=>by have:=C.2 e f;omega) (by rw[C.1];exact y)) ?_;intro x i g;have D:=fQ.base (o:=kd h c a) g (ψ z);obtain⟨j,l,rfl⟩:=D.shape;refine bX ?_;exact⟨_,η,D⟩
def Fg(d p:U)(b h:Nat)(k:ai)(D:bs d b h k)(c:List (au))(o:Ψ)(r:R)(E:av d p 37 (flat o) r)(a:Nat)(F:1<=a)(G:a<=8)(x:aB bC c o)(L:α c<=100000):
  AC γ 251 [r,.bL 175 [ee b a] []] p λy z=>fQ d z b h (kd k a c) y:=by
 obtain⟨P,S,C⟩:=av.vE E x;refine AC.lL (g:=[]) S ?_;exact(a1q P b h k (D.mono C) c o .any a F G x L).mono λy z T=>fQ.base T (ψ C)
def Fh:∀(a:List au)(b:gM),(a.foldl eA b).size=b.size+(a.map (·.size)).sum
 |[],b=>by simp
 |c::a,b=>by rw[a9e,Fh a];simp[eA];omega
def z8:∀(b:List (Τ×Bool))(a:gM),(b.foldl ea a).size=a.size
 |[],a=>rfl
 |c::b,a=>by rw[a9e,z8 b];unfold ea;split<;>rfl
def za(a:c4):(eJ a).size=α a.rows+(a.kids.map (·.size)).sum:=by unfold eJ;rw[Fh,z8]
structure qk(d:Nat)(k:au)(n:c4):Prop where
 ok:dZ d n=ζ
 eq:k=dF n
 size:k.size=α n.rows+(n.kids.map (·.size)).sum
 nJ:k.size<=1048576
variable{A j9:au}{c0:c4}
def vH(a:fL e c0=β A):qk e A c0:=by
 unfold fL at a;split at a
 .rename_i b;split at a
  .cases a
  .rename_i c;obtain rfl:=Β a;exact⟨b,rfl,za c0,by show(eJ c0).size<= _;omega⟩
 .cases a
variable{H:ai}
def tH(a:iR H e A=β c0):qk e A c0/\(c0.kind=2\/c0.kind=3):=by
 unfold iR at a;split at a
 .cases a
 .rename_i d hm;split at a
  .rename_i b;obtain rfl:=Β a;refine⟨?_,b⟩;unfold ei at hm;split at hm
   .cases hm
   .split at hm
    .cases hm
    .split at hm
     .rename_i c;obtain rfl:=Β hm;exact vH c
     .cases hm
  .cases a
theorem qk.leaf(b:qk e A c0)(c:c0.kind=2):1<=α c0.rows/\α c0.rows<=4/\c0.kids=[]/\(∀a∈c0.rows,α a.1=e/\a.2=ζ):=by have:=b.ok;simp_all [dZ]
theorem qk.inner(k:qk e A c0)(h:c0.kind=3):c0.rows=[]/\2<=α c0.kids/\α c0.kids<=4/\(∀a∈c0.kids,α a.key=e/\a≠aw/\fb e a=ζ/\1<=a.size/\a.size<A.size):=by
 have d:=k.ok;unfold dZ at d;have x:¬c0.kind=1:=by rw[h];decide
 have y:¬c0.kind=2:=by rw[h];decide
 rw[if_neg x,if_neg y,if_pos h]at d;simp only[Ξ,a8A,decide_eq_true_eq,a9M,decide_eq_false_iff_not]at d;obtain⟨⟨_,z⟩,⟨⟨C,D⟩,E⟩,o⟩:=d;have p:=a8q C;have F:∀a∈c0.kids,1<=a.size:=λa b=>by
  simp_all [fb]
 refine⟨p,D,E,λa b=>⟨(o a b).1,(o a b).2,z a b,F a b,?_⟩⟩;have r:=k.size;rw[p]at r;simp only[a8s]at r;have G:∀(c:List au),(∀a∈c,1<=a.size)->(α c:Int)<=(c.map (·.size)).sum:=by
  intro c
  induction c with
  |nil=>intro _;simp
  |cons L c ih=>grind
 obtain⟨P,S,T⟩:=aav b;grind
def gu(d:Nat)(b:Τ):Nat->ai->au->Except Int (List au)×ai
  |0,c,_=>(.error 21,c)
  |k+1,c,o=>match iR c d o with
    |none=>(.error 21,c)
    |some a=>
      if a.kind=2 then
        (if kP (a.rows.map Α) b=ζ then(.error 8,c)
         else pa c d ((a.rows.map Α).take (fg (a.rows.map Α) b)++b::(a.rows.map Α).drop (fg (a.rows.map Α) b)))
      else match a.kids[hB b a]? with
        |none=>(.error 21,c)
        |some p=>match gu d b k c p with
          |(.error r,h)=>(.error r,h)
          |(.ok x,h)=>kd h d (a.kids.take (hB b a)++(x++a.kids.drop (hB b a+1)))
theorem zb(b:Τ):∀(a:List Τ),a≠[]->a6.cU bF b a<α a
 |[],c=>absurd rfl c
 |[_],_=>by simp[a6.cU]
 |_::d::h,_=>by
  have:=zb b (d::h) acr;grind[a6.cU,List.length_cons]
theorem zc(p:Nat)(r:Τ):∀(d:Nat)(c h:ai)(k:au)(b:List au),gu p r d c k=(.ok b,h)->1<=α b/\α b<=3
 |0,c,h,k,b,a=>by rw[gu]at a;simp_all
 |d+1,c,h,k,b,a=>by
  rw[gu]at a;split at a
  .simp_all
  rename_i P y;obtain⟨x,z⟩:=tH y;split at a
  .rename_i o;obtain⟨C,D,_⟩:=x.leaf o;split at a
   .simp_all
   .have:=rM a;rw[this];simp only[a8s,a8J,a6.chunks,(nV).1,a6.bY,Ρ,a8m,a8l,a8z,a8o];omega
  .rename_i o;obtain⟨_,C,D,_⟩:=x.inner (z.resolve_left o);split at a
   .simp_all
   .rename_i E S;split at a
    .simp_all
    .rename_i F G L;have ih:=zc p r d c G E F L;have:=rM a;rw[this];simp only[a8s,a8J,a6.chunks,(nV).1,a6.bY,Ρ,a8l,a8z];omega
theorem a1r(D m:Nat)(p:Τ)(E:Own)(x:Nat)(n9:1<=x)(a00:x<=8):∀(S:Nat)(T:U)(F:ai)(z:au)(n q s:Own),bs T D m F->α z.sum=32->z.cE->0<S->z.size<S->
  AC γ 185 [ee D x,.agg (ab z n q s),.J (af p) E] T λZ b05=>fQ T b05 D m (gu x p S F z) Z:=by
 intro S
 induction S with
 |zero=>intro T F z n q s f a01 a36 b65 b06;omega
 |succ S ih=>
 intro T F z n q s f a01 a36 b66 b06;refine bg hm Qp acr ?_;have h:∀a38,(R.agg a38).cells=a38:=λ_=>rfl;have B:∀d b c C y a42:R,putAt [d,b,c] 0 [C,y,a42]=[C,y,a42]:=λ_ _ _ _ _ _=>rfl;have G:∀d b c,aQ ζ 3 [d,b,c]=.agg [d,b,c]:=λ_ _ _=>rfl;have g:∀d b,aQ ζ 2 [d,b]=.agg [d,b]:=λ_ _=>rfl;have i:∀d b:R,List.take 2 [d,b]=[d,b]:=λ_ _=>rfl;have V:∀d b c:R,List.take 3 [d,b,c]=[d,b,c]:=λ_ _ _=>rfl;have H:∀d b c:R,[d,b,c].length=3:=λ_ _ _=>rfl;have b07:∀d b c:R,aQ θ 1 [d,b,c]=d:=λ_ _ _=>rfl;have a43:∀d b c:R,aQ θ 1 ([d,b,c].drop 2)=c:=λ_ _ _=>rfl;have a47:=aT (M:=n) (e7:=q) (j0:=s) a01;have a48:=a47.len;refine al @h ?_;refine aN λk3 a52=>?_;refine al (c2 @h @a48) ?_;refine aN λl2 l3=>?_;have a02:k3≠l2:=by rintro rfl;rw[μ]at l3;cases l3
 have b08:T l2=none:=by rw[ξ _ _ (Δ a02)]at l3;exact l3
 obtain⟨I,l4⟩:∃I:U,I=(T.set k3 (.cells [.ptr D 0,.v (.int .i64 (x))])).set l2 (.cells (ab z n q s)):=⟨_,rfl⟩;have k4:T.sub I:=by rw[l4];exact κ (κ η a52) b08
 have aP:I l2=β (.cells (ab z n q s)):=by rw[l4,μ]
 have aD:I k3=β (.cells [.ptr D 0,.v (.int .i64 (x))]):=by rw[l4,ξ _ _ a02,μ]
 refine al (bz @h @a48 @ξ @a02 @μ a47.t37 @i @g) ?_;rw[<-l4];refine ag (yZ I D m F (f.mono k4) z n q s a01 a36 x n9 a00) ?_;rintro Z a03⟨l5,l6⟩;obtain⟨a56,k⟩:∃a56,a56=gu x p (S+1) F z:=⟨_,rfl⟩;rw[<-k];rw[gu]at k;cases a04:iR F x z with
 |none=>rw[a04]at l6 k;obtain rfl:=l6;simp only at k;subst k;simp -dsimp -implicitDefEqProofs (disch:=first|omega|assumption|(simp only[aX,Nat.reduceAdd];try omega)) only[go_sem,simprocAttr,-List.reduceReplicate,h,B,H];refine aN λK M=>?_;refine al (bl @h @B @H @G @ς) ?_;have a57:=ο (ο k4 l5) (κ (Z:=.cells [.v (.int .u8 0),.J [] .nil,.J [] .nil]) η M);exact⟨_,η,f.mono a57,ψ a57,acv,rfl⟩
 |some a=>
  rw[a04]at l6 k;simp only at k;obtain⟨C,y,rfl,b09⟩:=l6;obtain⟨a61,b10⟩:=tH a04;simp -dsimp -implicitDefEqProofs (disch:=first|omega|assumption|(simp only[aX,Nat.reduceAdd];try omega)) only[go_sem,simprocAttr,-List.reduceReplicate,h,B,H];refine aN λK M=>?_;obtain⟨L,l7⟩:∃L:U,L=a03.set K (.cells [.v (.int .u8 (a.kind.toNat)),C,y]):=⟨_,rfl⟩;have a05:a03.sub L:=by rw[l7];exact κ η M
  have bz:L K=β (.cells [.v (.int .u8 (a.kind.toNat)),C,y]):=by rw[l7,μ]
  have a62:=iP a.kind 2 acq;simp only[ab2]at a62;rw[show ν 2=2 from rfl]at a62;refine al (cb @h @B @H @G @ς @μ @b07) ?_;rw[ς,<-l7];obtain⟨b11,l8,P,a06,l9,a63,j,b12,b13⟩:=b09;have b14:fM a03 a C y l8 P:=⟨a63,j,(bS.dA a06 acq rfl (a63.cells λ_ _=>cZ.cells)).mono l9.1,bS.dA l9 acq rfl (j.cells λ_ _=>Κ),b12,b13⟩;have k5:=b14.mono a05;have a65:=(f.mono (ο k4 l5)).cG M;have a68:=f.cG a52;have n0:=ο k4 (ο l5 a05);have a69:=a05 _ _ (l5 _ _ aD);have a71:=f.mono n0;by_cases N:a.kind=2
  .rw[if_pos N]at k;have a07:((a.kind.toNat:Int)=2)=True:=by rw[N];simp
   refine al (cb @h @B @H @G (ι bz) @a07 @V) ?_;refine ag (yY a l8 P C y L k5) ?_;rintro d t⟨b15,a73,u⟩;have b16:=bS.dA u acq rfl (a73.cells λ_ _=>υ);refine al @h ?_;have b67:(a.rows.map Α).length=α a.rows:=a8o _;obtain⟨b17,b18,_,_⟩:=a61.leaf N;generalize b19:a.rows.map Α=k6 at*;refine ag (F3 k6 b15 d p E t a73 b16 acq) ?_;rintro _ t⟨rfl,b68,rfl⟩;have b20:=u.1 _ _ bz;have a08:=u.1 _ _ a69;generalize fg k6 p=o at*;cases a74:kP k6 p with
   |true=>rw[if_pos a74]at k;subst k;refine al @h ?_;exact⟨_,η,a71.mono u.1,ψ (ο n0 u.1),acv,rfl⟩
   |false=>
    rw[if_neg (by simp[a74])]at k;have b21:oQ 1 U.emp [R.J (af p) E] (bR (λ_ _=>True) ())=True:=eq_true (eP (by simp[aW,ρ]) acr λ_ _=>trivial);refine al (de @h (ι b20) (ι a08) @G @g @i @V @b21 @sK) ?_;refine ag (yY a l8 P C y t (k5.mono u.1)) ?_;rintro a4 b69⟨a09,k7,k8⟩;have b22:=k8.1 _ _ a08;refine al (bx @h (ι b22) @G @g @i @V) ?_;rw[b19]at k7;refine eP (by simp[aW,ρ]) acr λa10 a81=>?_;have b23:flat [R.J (af p) E]=[R.J (af p) E]:=rfl;rw[b23,a9L];have W:=av.new (ob:=.cells [R.J (af p) E]) k8 a81;have b24:=Ι k8.1 a81;rw[nU k7]at W;obtain⟨r,l⟩:∃r:U,r=t.set a10 (.cells [R.J (af p) E]):=⟨_,rfl⟩;have a83:t.sub r:=by rw[l];exact κ η b24
    have b25:r a10=β (.cells [R.J (af p) E]):=by rw[l,μ]
    rw[<-l]at W;have b70:=k7.len;have n1:=a83 _ _ a08;have a11:=W.1 _ _ n1;refine al (bx @h (ι a11) @G @g @i @V) ?_;refine ag (a1j r _ a09 a4 W (by grind) o acq acq _ a10 b25) ?_;intro dB a13 v;have b26:=v.1 _ _ n1;have n2:aB isRow (k6.take o++p::k6.drop o) (a09.take o++R.J (af p) E::a09.drop o):=(k7.take o).append ⟨⟨E,rfl⟩,k7.drop o⟩;rw[<-nU n2]at v;refine al (bx @h (ι b26) @G @g @i @V) ?_;have a84:=ο n0 (ο u.1 a83);refine ag (Ff r a13 D m F (f.mono a84) _ _ dB v x n9 a00 n2 acs) ?_;intro Z b27 w;rw[<-k]at w;obtain⟨b28,b29,rfl⟩:=w.shape;refine al @h ?_;exact⟨_,η,fQ.base w (ψ a84)⟩
  .have n1:=b10.resolve_left N;rw[if_neg N]at k;have a07:¬(a.kind.toNat:Int)=2:=λe=>N (by simp_all);refine al (cb @h @B @H @G (ι bz) @a07 @V) ?_;refine ag (F2 a l8 P C y p E L k5) ?_;rintro _ L⟨rfl,rfl⟩;obtain⟨b71,b17,b18,b30⟩:=a61.inner n1;have a14:hB p a<α a.kids:=by grind[zb,List.length_map]
   generalize hB p a=o at*;have a15:=Μ a14;have a86:a.kids[o]'a14∈a.kids:=a8L _;rw[a15]at k;simp only at k;generalize a.kids[o]'a14=c at a15 a86 k;obtain⟨b72,b31,a88,b32,O,Q,X,rfl⟩:=k5.kids.get a15;obtain⟨_,_,_,b73,b74⟩:=b30 c a86;obtain⟨Y,n3⟩:∃Y:U,Y=b11.set K (.cells [.v (.int .u8 (a.kind.toNat)),C,y]):=⟨_,rfl⟩;have n4:=av.new (ob:=.cells [.v (.int .u8 (a.kind.toNat)),C,y]) l9 M;rw[<-l7,<-n3]at n4;have b33:=Ι l9.1 M;have a89:=ο k4 a06.1;have a90:T.sub Y:=by rw[n3];exact κ a89 (Ι a89 b33)
   have b34:Y K=β (.cells [.v (.int .u8 (a.kind.toNat)),C,y]):=by rw[n3,μ]
   have a11:Y k3=β (.cells [.ptr D 0,.v (.int .i64 (x))]):=by
    have:k3≠K:=by grind
    rw[n3,ξ _ _ this];exact a06.1 _ _ aD
   have b35:=cR.of n4 (f.mono a90) Ext.refl;obtain⟨b75,b36,a92⟩:=k5.gH.get o _ b31;have a94:=aT (M:=O) (e7:=Q) (j0:=X) a88;have b37:(R.agg (ab c O Q X)).cells=ab c O Q X:=rfl;rw[b37]at a92;have a95:=a92.ld L η ζ 37 acq (by rw[a94.len];omega);rw[show aQ ζ 37 (ab c O Q X)=.agg (ab c O Q X) by rw[aQ,if_pos rfl,a94.t37]]at a95;refine al (cj @h (ι bz) (ι a69) @G @g @i @V @a43 @b36 @a95) ?_;refine ag (ih L F c O Q X a71 a88 b32 acq acq) ?_;intro Z t a16;have a96:=λk9 l0 e=>zc x p S F k9 c l0 e;generalize gu x p S F c=b38 at k a16 a96;obtain⟨res,k9⟩:=b38;cases res with
   |error b76=>obtain⟨n5,b39,a97,rfl⟩:=a16;simp only at k n5;subst k;refine al (c2 @h @a97) ?_;exact⟨_,η,n5,(ψ n0).trans b39,a97,rfl⟩
   |ok l0=>
    obtain⟨l1,b77,a18,rfl,⟨b78,a19,a27,a98⟩,_⟩:=a16;obtain⟨b79,b80⟩:=a96 k9 l0 rfl;simp only at k a27;have b40:=a18.len;have b41:(flat l1).length=α l0*37:=by rw[cW (a18.cells λ_ _=>Κ),b40]
    have b42:(flat P).length=α a.kids*37:=by rw[cW (j.cells λ_ _=>Κ),j.len]
    obtain⟨A,a99,b00,a29,rfl,b01,b43,b44,b45,b46,b47,b48⟩:=av.aq a19 (by grind);have b49:=a98.trans (ψ a19.1);have n5:=a27.mono a19.1;obtain⟨b50,k8,b51,b52⟩:=b35.step b49 n5;have a30:=a27.cG b01;have b53:L A=none:=by
     cases b54:L A with
     |none=>rfl
     |some b81=>have:=a98 _ _ a30.1 a30.2 b54;rw[b01]at this;cases this
    have b55:∀b b02 b03,y=.aq b b02 b03 37->b≠A:=by
     rintro b b02 b03 rfl rfl;rcases n4.2 with⟨_,e|e⟩|⟨b82,_,_,_,e,_,b83,_⟩
     .cases e
     .cases e
     simp_all
    obtain⟨r,l⟩:∃r:U,r=b50.set A (.cells a29):=⟨_,rfl⟩;have W:=av.add k8 b43 b55;rw[<-l]at W;have b56:r A=β (.cells a29):=by rw[l,μ]
    have b57:av (λ_=>ε) r 37 (flat l1) (.aq A a99 b00 37):=⟨(λ_ _ e=>by cases e),.inr ⟨A,a99,b00,a29,rfl,rfl,b56,b44,b45,b46,b47,b48⟩⟩;have b58:bs r D m k9:=by rw[l];exact b51.set a30
    have b59:=Ι n4.1 b53;have a34:Ext D m Y r:=by rw[l];exact b52.set b59
    have b60:=a34 _ _ a65.1 a65.2 b34;have b04:=a34 _ _ a68.1 a68.2 a11;have b61:=W.1 _ _ b60;have b62:=W.1 _ _ b04;simp -dsimp -implicitDefEqProofs (disch:=first|omega|assumption|(simp only[aX,Nat.reduceAdd];try omega)) only[go_sem,simprocAttr,-List.reduceReplicate,h,ι b61,ι b62,G,g,i,V,a43];refine ag (Fe _ r t (flat P) (flat l1) y _ (α a.kids) (α l0) o (o+1) _ rfl W b42 b57 b41 acq acq acq acq acq) ?_;intro dB a13 v;have b63:=v.1 _ _ b04;have b64:(flat P).take (o*37)++(flat l1++(flat P).drop ((o+1)*37))=flat (P.take o++(l1++P.drop (o+1))):=by rw[(ga o (j.cells λ_ _=>Κ)).2,(ga (o+1) (j.cells λ_ _=>Κ)).1];simp[flat]
    rw[b64]at v;have n2:=(j.take o).append (a18.append (j.drop (o+1)));refine al (bx @h (ι b63) @G @g @i @V) ?_;refine ag (Fg r a13 D m k9 b58 _ _ dB v x n9 a00 n2 acs) ?_;intro Z b27 w;rw[<-k]at w;obtain⟨b28,b29,rfl⟩:=w.shape;refine al @h ?_;exact⟨_,η,fQ.base w ((ψ a90).trans a34)⟩
def jt(a:Nat)(d:Τ)(h:ai)(b:au):Except Int au×ai:=
 if b=aw then dG h a (dO [d])
 else match gu a d (b.size.toNat+1) h b with
  |(.error k,c)=>(.error k,c)
  |(.ok bI,c)=>iS a (α bI+1) c bI
variable{g B e1:Ψ}{M e7 j0:Own}
def rE.lt(a:rE A M e7 j0 g):α g=37/\g.take 37=g:=⟨a.len,a.t37⟩
def a1s(C:U)(d h:Nat)(x:ai)(W:bs C d h x)(b:au)(G L P:Own)(n:α b.sum=32)(M:b.cE)(c:Τ)(S:Own)(a:Nat)(q:1<=a)(s:a<=8)(a09:α c=a):
  AC γ 127 [.ptr d 0,.agg (ab b G L P),.J (af c) S,.v (.int .i64 (a:Int))] C λk N=>bs N d h (jt a c x b).2/\Ext d h C N/\hf (jt a c x b).1 k:=by
 have a10:=(aT (M:=G) (e7:=L) (j0:=P) n).lt;have a11:=(aT (M:=.nil) (e7:=.nil) (j0:=.nil) bm).lt;have a13:=cr;have t:=λO Q X Y u=>cF (a:=.nil) (b:=.nil) (c:=.nil) (A:=O) (M:=Q) (e7:=X) (j0:=Y) bm u;have a14:=t aw .nil .nil .nil bm;generalize l5:ab aw .nil .nil .nil=v at*;obtain⟨Z,p⟩:∃Z,jt a c x b=Z:=⟨_,rfl⟩;rw[p];unfold jt at p;have a15:rL (a) [c]=true:=by simp[rL];omega
 have k3:aB isRow [c] [R.J (af c) S]:=⟨⟨S,rfl⟩,trivial⟩;have k4:aW 1 [R.J (af c) S]:=by simp[aW,ρ]
 refine aL hm OP ?_;refine bp λk5 l6=>?_;refine dk λT w _ _=>?_;refine vf λl7 l8 _ _ _ _=>?_;generalize e:((C.set k5 _).set T _).set l7 _=D;have k6:C.sub D:=by subst e;exact aR
 have bl:D k5=β (.cells (ab b G L P)):=by subst e;exact aR
 have bz:D T=β (.cells v):=by subst e;exact aR
 clear e;have E:=W.cG w;have a16:=@ς;refine nG (EZ a [c] _ _ D k3 (bS.J k4) acr) ?_;refine bp λk7 f=>?_;have a18:=U.gY f bl;obtain⟨z,A⟩:∃z,D.set k7 (.cells [.ptr d 0,.v (.int .i64 (a))])=z:=⟨_,rfl⟩;have g:D.sub z:=by rw[<-A];exact κ η f
 have cj:z k7=β (.cells [.ptr d 0,.v (.int .i64 (a))]):=by rw[<-A,μ]
 have l9:=ι cj;have a19:=rd g bl;have i:=ο k6 g;have k8:=W.cG (Ι k6 f);have k9:∀(y)(r)(res)(k),bs r d h y->Ext d h z r->hf res k->∃o F,α o=37/\o.take 37=o/\putAt v 0 o=o/\k=.aJ [.agg o,.v (.int .i64 F)]/\ep r T=β v/\bs (r.set T (.cells o)) d h y/\Ext d h C (r.set T (.cells o)):=by intro y r res k j l0 n0;obtain⟨O,Q,X,Y,F,B,rfl⟩:=n0.shape;exact⟨_,F,(aT B).len,(aT B).t37,t _ _ _ _ B,rfl,τ (l0 _ _ E.1 E.2 (g _ _ bz)),j.set E,((ψ i).trans l0).set w⟩
 refine nG (mL b G L P z n λ_=>M) ?_;clear l6 f l8 A t;refine aG (λH=>?_) λH=>?_
 .rw[if_pos H]at p;refine ic λa27 n1=>?_;have j:=κ (Z:=.buf 1 1 1) (η) n1;refine cl (yX _ d h x (W.mono (ο i j)) [c] _ _ a q s k3 (bS.J k4) acr) ?_;rintro k r⟨l,m,V⟩;rw[p]at l V;obtain⟨o,F,n2,n3,n4,rfl,n5,I,tI⟩:=k9 _ r _ k l ((ψ j).trans m) V;refine aa ?_;exact⟨_,η,I,tI⟩
 rw[if_neg H]at p;refine cl (a1r d h c S a q s (b.size.toNat+1) z x b G L P (W.mono i) n M acq acq) ?_;intro k r K;have l1:=λy n9 u=>zc a c (b.size.toNat+1) x y b n9 u;generalize gu a c (b.size.toNat+1) x b=a00 at K l1 p;obtain⟨res,y⟩:=a00;cases res with
 |error F=>obtain⟨l,m,a01,rfl⟩:=K;subst p;have a29:=τ (m _ _ E.1 E.2 (g _ _ bz));refine aa ?_;exact⟨_,η,l.set E,((ψ i).trans m).set w,a01,by rw[l5]⟩
 |ok bI=>
  obtain⟨a02,a30,l2,rfl,l3,_⟩:=K;obtain⟨_,a34⟩:=l1 y bI rfl;have l9:=ι (l3.ext _ _ k8.1 k8.2 cj);obtain⟨a03,a04,a05,a06⟩:=l3.vE l2;refine cl (AC.lL (g:=[_]) a04 (a1h a03 d h y a05 bI a02 .any a q s l2 acq)) ?_;rintro k a07⟨l4,a08,V⟩
  dsimp only at p
  rw[p]at l4 V;obtain⟨o,F,n2,n3,n4,rfl,n5,I,tI⟩:=k9 _ a07 _ k l4 (a06.trans a08) V;refine aa ?_;exact⟨_,η,I,tI⟩
end Go.Proofs.YtkafjfkjahgihaaGreat
namespace Go.bD
open Go
variable{n b6:R}{f s e5:U}{g B e1:Ψ}{e i v O e0 j6:Nat}
theorem av.emp(b:av e5 f e g n)(k:∀a c d,n=.aq a c d e->s a=f a):av (λ_=>ε) s e g n:=by
 refine⟨(λ_ _ b=>by cases b),?_⟩;rcases b.2 with h|⟨a,c,d,o,rfl,p,r,x⟩
 .exact .inl h
 grind
theorem av.put{a:R}(h:av s f e (flat g) (.aq v O e0 e))(z:0<e)(d:aW e g)(C:g[i]?=β n)(o:α a.cells=e):
  ∃b,f v=β (.cells b)/\i*e+e<=α b/\O=α g/\av s (f.set v (.cells (putAt b (i*e) a.cells))) e (flat (g.set i a)) (.aq v O e0 e):=by
 obtain⟨D,c⟩:=h;rcases c with⟨_,c|c⟩|⟨W,j,l,b,p,r,E,F,G,m,x,L⟩
 .cases c
 .cases c
 simp only[R.aq.injEq,and_true]at p;obtain⟨rfl,rfl,rfl⟩:=p;have y:=(a8p.1 C).1;have q:=cW d;have P:O=α g:=aay z acq;subst P;have t:i*e+e<=α g*e:=by rw[<-abl];exact a8x _ y
 have u:α g*e<=e0*e:=a8x _ x;refine⟨b,E,acq,rfl,κ D r,.inr ⟨v,α g,e0,_,rfl,r,μ _ _ _,by rw[eF _ _ _ acq];exact F,?_,?_,x,L⟩⟩
 .have k:g.set i a=g.take i++a::g.drop (i+1):=by rw[a9t,if_pos y]
  have S:flat (g.take i++a::g.drop (i+1))=(flat g).take (i*e)++a.cells++(flat g).drop ((i+1)*e):=by rw[(ga i d).2,(ga (i+1) d).1];simp[flat]
  rw[k,S,putAt,o,<-G];have w:(b.take (i*e)++a.cells).length=i*e+e:=by grind
  grind[List.take_append,Γ,Nat.min_eq_left,List.drop_take,Nat.succ_mul]
 .have T:aW e (g.set i a):=λk V=>by
   rcases aai V with h|rfl
   .exact d k h
   .exact o
  rw[cW T,aaI]
end Go.bD
namespace Go.Proofs.YtkafjfkjahgihaaGreat
open Go Go.bD
structure im where
 leaf:Bool
 rows:List Τ
 kids:List au
structure iT(a:U)(x:im)(d h:R)(b c:Ψ):Prop where
 r:aB isRow x.rows b
 k:aB bC x.kids c
 al:bS a 1 d b
 vI:bS a 37 h c
 pc:ke a 1 d (α x.rows) b
 kf:ke a 37 h (α x.kids) (flat c)
 kM:α x.rows<=1000
 ig:α x.kids<=1000
def iT.mono{c d:U}{h:im}{k o:R}{p r:Ψ}(a:iT c h k o p r)(b:c.sub d):iT d h k o p r:=⟨a.r,a.k,a.al.mono b,a.vI.mono b,a.pc.mono b,a.kf.mono b,a.kM,a.ig⟩
variable{n b6:R}{f s e5:U}{g B e1:Ψ}
theorem iT.of{s:U}{a:im}(b:aB isRow a.rows g)(c:aB bC a.kids B)(d:av f s 1 (flat g) n)(h:av e5 s 37 (flat B) b6)(o:α a.rows<=1000)(p:α a.kids<=1000):iT s a n b6 g B:=by obtain⟨r,x,k⟩:=d.al acq;obtain⟨y,z,C⟩:=h.al acq;rw[nU b]at x k;rw[cW (c.cells λ_ _=>Κ)]at z;have:=b.len;have:=c.len;obtain rfl:r=α a.rows:=acq;obtain rfl:y=α a.kids:=acq;exact⟨b,c,bS.dA d acq rfl (b.cells λ_ _=>υ),bS.dA h acq rfl (c.cells λ_ _=>Κ),k,C,o,p⟩
def hh(a:c4):im:=⟨decide (a.kind=2),a.rows.map Α,a.kids⟩
def kQ(b:ai)(c:Nat)(a d:im):Except Int (List au)×ai:=if a.leaf=ζ then pa b c (a.rows++d.rows)else kd b c (a.kids++d.kids)
theorem a1t(d:U)(r W:Nat)(e:ai)(K:bs d r W e)(a b:im)(f g D i j:R)(k3 k4 k5 k6:Ψ)(k:iT d a f g k3 k4)(o:iT d b i j k5 k6)(l2:D.cells=[D])(p:Nat)(M:1<=p)(N:p<=8):
  AC γ 307 [ee r p,.agg [.v (.bool a.leaf),f,g],.agg [D,i,j]] d λv k7=>fQ d k7 r W (kQ e p a b) v:=by
 refine bg hm Tn acr ?_;have c:∀O,(R.agg O).cells=O:=λ_=>rfl;have l:∀a b:R,List.take 2 [a,b]=[a,b]:=λ_ _=>rfl;have m:∀a b,aQ ζ 2 [a,b]=.agg [a,b]:=λ_ _=>rfl;have Q:∀a b z:R,aQ θ 1 [a,b,z]=a:=λ_ _ _=>rfl;have X:∀a b z:R,aQ θ 1 ([a,b,z].drop 1)=b:=λ_ _ _=>rfl;have Y:∀a b z:R,aQ θ 1 ([a,b,z].drop 2)=z:=λ_ _ _=>rfl;refine al @c ?_;refine aN λn l3=>?_;refine al @c ?_;refine aN λE q=>?_;have F:n≠E:=by rintro rfl;rw[μ]at q;cases q
 have l4:d E=none:=by rw[ξ _ _ (Δ F)]at q;exact q
 refine al @c ?_;refine aN λG s=>?_;have w:E≠G:=by rintro rfl;rw[μ]at s;cases s
 have A:n≠G:=by rintro rfl;rw[ξ _ _ F,μ]at s;cases s
 have l5:d G=none:=by simp_all [ξ,Δ]
 obtain⟨C,x⟩:∃C:U,C=((d.set n (.cells [.ptr r 0,.v (.int .i64 (p))])).set E (.cells [.v (.bool a.leaf),f,g])).set G (.cells [D,i,j]):=⟨_,rfl⟩;have Z:d.sub C:=by grind[κ,η]
 have aD:C n=β (.cells [.ptr r 0,.v (.int .i64 (p))]):=by rw[x,ξ _ _ A,ξ _ _ F,μ]
 have aP:C E=β (.cells [.v (.bool a.leaf),f,g]):=by rw[x,ξ _ _ w,μ]
 have bl:C G=β (.cells [D,i,j]):=by rw[x,μ]
 unfold kQ;have l6:=k.kM;have l7:=o.kM;have l8:=k.ig;have l9:=o.ig;cases t:a.leaf with
 |true=>rw[t]at aP x;refine al (cj @c @ξ @F @A @w @μ @Q @X @Y @t) ?_;rw[<-x];refine dD η (by intro k8 L;simp only[a8E,a9n,or_false]at L;rcases L with rfl|rfl;(·rw[k.pc.one];rfl);(·rw[o.pc.one];rfl)) λB P S=>?_;have h:=ο Z S.sub;have T:=S.sub _ _ aD;simp -dsimp -implicitDefEqProofs (disch:=first|omega|assumption|(simp only[aX,Nat.reduceAdd];try omega)) only[go_sem,simprocAttr,-List.reduceReplicate,c,ι T,m,l];refine ag (a1m P _ _ B _ _ _ _ (k.pc.mono h) (o.pc.mono h) acq acq) ?_;intro dB H y;have I:=y.1 _ _ T;have u:=k.r.append o.r;rw[<-nU u]at y;simp -dsimp -implicitDefEqProofs (disch:=first|omega|assumption|(simp only[aX,Nat.reduceAdd];try omega)) only[go_sem,simprocAttr,-List.reduceReplicate,c,ι I,m,l];refine ag (Ff P H r W e (K.mono h) _ _ dB y p M N u (by rw[Ρ];omega)) ?_;intro v k9 V;obtain⟨l0,l1,rfl⟩:=V.shape;refine al @c ?_;exact⟨_,η,fQ.base V (ψ h)⟩
 |false=>rw[t]at aP x;refine al (cj @c @ξ @F @A @w @μ @Q @X @Y @t) ?_;rw[<-x];refine dD η (by intro k8 L;simp only[a8E,a9n,or_false]at L;rcases L with rfl|rfl;(·rw[k.kf.one];rfl);(·rw[o.kf.one];rfl)) λB P S=>?_;have h:=ο Z S.sub;have T:=S.sub _ _ aD;simp -dsimp -implicitDefEqProofs (disch:=first|omega|assumption|(simp only[aX,Nat.reduceAdd];try omega)) only[go_sem,simprocAttr,-List.reduceReplicate,c,ι T,m,l];refine ag (a1o P _ _ B _ _ _ _ (k.kf.mono h) (o.kf.mono h) acq acq) ?_;intro dB H y;have I:=y.1 _ _ T;have u:=k.k.append o.k;rw[<-pO]at y;simp -dsimp -implicitDefEqProofs (disch:=first|omega|assumption|(simp only[aX,Nat.reduceAdd];try omega)) only[go_sem,simprocAttr,-List.reduceReplicate,c,ι I,m,l];refine ag (Fg P H r W e (K.mono h) _ _ dB y p M N u (by rw[Ρ];omega)) ?_;intro v k9 V;obtain⟨l0,l1,rfl⟩:=V.shape;refine al @c ?_;exact⟨_,η,fQ.base V (ψ h)⟩
def kg(d:ai)(k:Nat)(h:List au)(a:Nat)(b:im):Except Int (List au)×ai:=
 if 2<=α b.rows+α b.kids then
  match mN d k b.leaf b.rows b.kids with
  |(.error o,c)=>(.error o,c)
  |(.ok r,c)=>(.ok (h.set a r),c)
 else match h[if a=0 then 1 else a - 1]? with
  |none=>(.error 21,d)
  |some x=>match iR d k x with
   |none=>(.error 21,d)
   |some p=>match kQ d k (if a=0 then b else hh p) (if a=0 then hh p else b)with
    |(.error o,c)=>(.error o,c)
    |(.ok y,c)=>(.ok (h.take (a - 1)++(y++h.drop (a - 1+2))),c)
def a1u(k b:U)(c d:Nat)(h:Except Int (List au)×ai)(o:R):Prop:=
 match h.1 with
 |.error p=>bs b c d h.2/\Ext c d k b/\p≠0/\∃a,o=.aJ [a,.v (.int .i64 p)]/\a.cells=[a]
 |.ok bI=>∃r a,aB bC bI r/\o=.aJ [a,.v (.int .i64 0)]/\cR k b c d h.2 37 (flat r) a
theorem aB.set{c:Type}{d:c->R->Prop}:∀ {k:List c}{o:Ψ}{p:c}{r:R} (b:Nat),aB d k o->d p r->aB d (k.set b p) (o.set b r)
 |[],[],_,_,_,a,_=>a
 |_:: _,_:: _,_,_,0,a,h=>⟨h,a.2⟩
 |_:: _,_:: _,_,_,b+1,a,h=>⟨a.1,aB.set b a.2 h⟩
variable{e i v O e0 j6:Nat}{H:ai}
theorem Fi{h:ai}{b c:im}{d:List au}(a:kQ H e b c=(.ok d,h))(o:α b.rows<=1000/\α c.rows<=1000/\α b.kids<=1000/\α c.kids<=1000):α d<=501:=by
 unfold kQ at a;split at a
 .rename_i k;have:=rM a;rw[this];simp only[a8s,a8J,a6.chunks,(nV).1,a6.bY,Ρ];omega
 .rename_i k;have:=rM a;rw[this];simp only[a8s,a8J,a6.chunks,(nV).1,a6.bY,Ρ];omega
def bC.c{a:List au}(b:aB bC a g):aW 37 g:=b.cells λ_ _=>Κ
def Ext.no(b:Ext i v f s)(a:e≠i/\e≠v)(c:s e=ε):f e=none:=by
 cases d:f e with
 |none=>rfl
 |some h=>have:=b _ _ a.1 a.2 d;rw[c]at this;cases this
theorem a1v(V C r:U)(D E:Nat)(I W:ai)(d k:List au)(h:Ψ)(x e:Nat)(F:R)(G:cR V C D E I 37 (flat h) (.aq x (α d) e 37))(c:aB bC d h)(K:fQ C r D E (.ok k,W) (.aJ [F,.v (.int .i64 0)]))(b a:Nat)(y:Int)(f:y=(a:Int))(g:b<a)(i:a<=α d)(l5:α d<=1000)(l6:α k<=501):
  AC γ 252 [.aq x (α d) e 37,.v (.int .i64 (b:Int)),.v (.int .i64 y),F] r λM N=>∃j,aB bC (d.take b++(k++d.drop a)) j/\cR V N D E W 37 (flat j) M:=by
 obtain⟨o,F,L,P,⟨l7,S,l,m⟩,O⟩:=K;simp only[R.aJ.injEq,aax,and_true]at P;subst P;have l8:=c.len;have Q:=L.len;have l9:=cW (bC.c c);have X:(flat o).length=α k*37:=by rw[cW (bC.c L),Q]
 have Y:∃n,C x=β (.cells n):=by obtain⟨_,Z,_⟩:=G;obtain⟨_,_,_,n,P,_,q,_⟩:=Z.aq (by grind);simp_all
 obtain⟨k3,s,t,u⟩:=G.step (m.trans (ψ S.1)) (l.mono S.1);by_cases v:k=[]
 .subst v;obtain rfl:=O rfl;refine(a1k _ r (flat h) _ (α d) b a y f s acq g i acq).mono λdB k4 p=>?_;rw[(ga b (bC.c c)).2,(ga a (bC.c c)).1,<-pO]at p;exact⟨_,(c.take b).append (c.drop a),_,p,t,u⟩
 have n0:=a9h.2 v;obtain⟨z,w,A,B,rfl,H,k5,k6,k7,k8,k9,l0⟩:=av.aq S (by grind);have T:=l.cG H;have l1:=m.no T H;obtain⟨n1,n2⟩:=Y;have n3:x≠z:=by grind
 have l2:=av.add s k5 (by simp_all);have l3:av (λ_=>ε) (k3.set z (.cells B)) 37 (flat o) (.aq z w A 37):=⟨(λ_ _ q=>by cases q),.inr ⟨z,w,A,B,rfl,rfl,μ _ _ _,k6,k7,k8,k9,l0⟩⟩;refine(Fe _ _ r (flat h) (flat o) _ _ (α d) (α k) b a y f l2 acq l3 X acq g i acq acq).mono λdB k4 p=>?_;have l4:(flat h).take (b*37)++(flat o++(flat h).drop (a*37))=flat (h.take b++(o++h.drop a)):=by rw[(ga b (bC.c c)).2,(ga a (bC.c c)).1];simp[flat]
 rw[l4]at p;exact⟨_,(c.take b).append (L.append (c.drop a)),_,p,t.set T,u.set (G.ext.no T l1)⟩
theorem a1w(H I:U)(D W:Nat)(y:ai)(l2:bs H D W y)(z:List au)(K:Ψ)(a16:R)(l3:av H I 37 (flat K) a16)(S:aB bC z K)(b:im)(E F:R)(a18 a19:Ψ)(T:iT I b E F a18 a19)(b45:2<=α z)(a98:α z<=1000)(a:Nat)(b46:a<α z)(d:Nat)(l4:1<=d)(l5:d<=8):
  AC γ 256 [ee D d,a16,.v (.int .i64 (a:Int)),.agg [.v (.bool b.leaf),E,F]] I λl l6=>a1u H l6 D W (kg y d z a b) l:=by
 have b47:=S.len;have a99:=l2.mono l3.1;have b48:=cW (bC.c S);obtain⟨l7,b00,a27,b49,rfl,b50,b51,a29,b01,b02,m,b52⟩:=av.aq l3 (by grind);obtain rfl:b00=α z:=acq;have b53:=T.kM;have b54:=T.ig;have b55:=(aT (M:=.nil) (e7:=.nil) (j0:=.nil) bm).len;obtain⟨a30,h⟩:∃a30,kg y d z a b=a30:=⟨_,rfl⟩;rw[h];rw[kg]at h;clear a29 b01 b02;refine aL hm Sc ?_;refine bp λa34 a36=>?_;refine dk λa38 a42 _ _=>?_;have M:=κ (Z:=.cells [.v (.bool b.leaf),E,F]) (κ (Z:=.cells [.ptr D 0,.v (.int .i64 (d))]) (η) a36) a42;obtain⟨C,N⟩:∃C:U,(I.set a34 (.cells [.ptr D 0,.v (.int .i64 (d))])).set a38 (.cells [.v (.bool b.leaf),E,F])=C:=⟨_,rfl⟩;rw[N]at M|-;have aP:C a34=β (.cells [.ptr D 0,.v (.int .i64 (d))]):=by rw[<-N,ξ _ _ acu,μ]
 have cb:C a38=β (.cells [.v (.bool b.leaf),E,F]):=by rw[<-N,μ]
 have b03:=ι aP;have b04:=ι cb;clear N a36 a42;have l8:=av.mono l3 M;have a43:=cR.of l8 l2 Ext.refl;have n:=T.mono M;have l9:=a99.mono M;refine nG (a1b (.v (.bool b.leaf)) E F _ _ T.pc.one T.kf.one rfl T.pc.len T.kf.len acq acq C) ?_;refine aG (λa47=>?_) λa47=>?_
 .rw[if_pos acq]at h;refine cl (F1 C D W y l9 b.leaf b.rows a18 E b.kids a19 F d l4 l5 n.r n.al acq n.k n.vI acq) ?_;rintro l n0⟨a48,b05,O⟩;generalize mN y d b.leaf b.rows b.kids=n1 at*;obtain⟨res,q⟩:=n1
  dsimp only at a48 O
  obtain⟨Q,o,p,r,b06,n2,rfl⟩:=O.shape;have b07:=(aT (M:=o) (e7:=p) (j0:=r) n2).len;have b56:=(aT (M:=o) (e7:=p) (j0:=r) n2).t37;have b57:putAt (ab aw .nil .nil .nil) 0 (ab Q o p r)=ab Q o p r:=cF bm n2;have b58:=cr;generalize ab aw .nil .nil .nil=b59 at*;refine aa ?_;refine bp λb60 b08=>?_;obtain⟨b09,b10,a52,a56⟩:=cR.mono (a43.step b05 a48) (κ (Z:=.cells (ab Q o p r)) η b08);obtain⟨b61,b11,b62,-,n3⟩:=av.put (a:=.agg (ab Q o p r)) b10 acq (bC.c S) (Μ (show a<α K by omega)) b07;have b63:cO 37 (.aq l7 (α z) a27 37) (.v (.int .i64 (a)))=β (.ptr l7 (a*37)):=by simp_all [jj]
  have b64:=τ b11;have b12:=a56.trans (ψ n3.1);refine aa ?_;refine⟨_,η,?_⟩;subst h;cases res with
  |error b65=>obtain⟨n4,x⟩:=O;simp only[R.aJ.injEq,aax,R.v.injEq,Value.int.injEq,true_and,and_true]at x;obtain⟨_,rfl⟩:=x;exact⟨a52.mono n3.1,b12,n4,_,rfl,rfl⟩
  |ok b66=>obtain⟨b13,b14,b15,b16,b17,x⟩:=O;simp only[R.aJ.injEq,aax,R.v.injEq,Value.int.injEq,true_and,and_true,R.agg.injEq]at x;obtain⟨x,rfl⟩:=x;exact⟨_,_,aB.set a S ⟨b13,b14,b15,b16,b17,by rw[x]⟩,rfl,⟨b09,n3,a52,a56⟩⟩
 rw[if_neg acq]at h;have b67:max ((a:Int) - 1) 0=((a - 1:Nat)):=acq;obtain⟨e,f⟩:∃e,(if a=0 then 1 else a - 1)=e:=⟨_,rfl⟩;rw[f]at h;refine oX [1,2,4,7,12] (λ_:Unit=>[(13,.v (.int .i64 (e)))]) (λ_ l6=>l6=C) (λk=>?_) (λk=>?_) ?_
 .rw[if_pos (by have:=of_decide_eq_true k;omega)]at f;subst f;exact aR
 .rw[if_neg (by have:=of_decide_eq_false k;omega)]at f;subst f;exact aR
 rintro _ C rfl b18;have b19:e<α z:=by rw[<-f];split<;>omega
 have n5:=Μ b19;rw[n5]at h
 dsimp only at h
 generalize z[e]=G at*;obtain⟨b68,a57,a61,b20,o,p,r,rfl⟩:=S.get n5;obtain⟨b21,b22,n9⟩:=(bS.dA l8 acq rfl (bC.c S)).get e _ a57;have a62:=aT (M:=o) (e7:=p) (j0:=r) a61;change mK C b21 (ab G o p r)at n9;have a63:=n9.ld C η ζ 37 acq (by rw[a62.len];omega);rw[show aQ ζ 37 (ab G o p r)=.agg (ab G o p r) by rw[aQ,if_pos rfl,a62.t37]]at a63;refine cl (yZ C D W y l9 G o p r a61 b20 d l4 l5) ?_;rintro l a65⟨a68,x⟩;cases a00:iR y d G with
 |none=>rw[a00]at x h;obtain rfl:=x;subst h;refine aa ?_;refine bp λa01 X=>?_;have a69:=λG=>ο l8.1 (ο a68 (κ (Z:=G) η X));exact⟨_,η,l2.mono (a69 _),ψ (a69 _),acv,_,rfl,rfl⟩
 |some c=>
 rw[a00]at x h
 dsimp only at h
 obtain⟨Y,g,rfl,b23⟩:=x;obtain⟨b24,b69⟩:=tH a00;obtain⟨b70,b71,b72⟩:=lG b24.ok;clear a63 b22 n9 b03 b04 a47 a57 n5;refine aa ?_;refine bp λa01 X=>?_;obtain⟨s,a02⟩:∃s,a65.set a01 (.cells [.v (.int .u8 (c.kind.toNat)),Y,g])=s:=⟨_,rfl⟩;have a03:a65.sub s:=by rw[<-a02];exact κ η X
 have gl:s a01=β (.cells [.v (.int .u8 (c.kind.toNat)),Y,g]):=by rw[<-a02,μ]
 have a04:=ο a68 a03;obtain⟨b73,a71,a73,b25,a05,a74,Z,b26,b27⟩:=b23;have a81:=fM.mono ⟨a74,Z,(bS.dA b25 acq rfl (a74.cells λ_ _=>cZ.cells)).mono a05.1,bS.dA a05 acq rfl (bC.c Z),b26,b27⟩ a03;have m:=rd a04 cb;have b28:=ι gl;have b74:=@sK;refine cl (z1 c a71 a73 Y g s a81) ?_;rintro _ k3⟨a83,b75,rfl,b29,a84⟩;clear a02 X;have t:=a84.1;have u:=t _ _ (a04 _ _ cb);have m:=ι u;refine aa ?_;refine bp λw a06=>?_;have b76:=U.gY a06 u;refine dk λA a07 _ _=>?_;have b77:=U.gY a07 u;have b30:=@ς;obtain⟨V,k4⟩:∃V,(k3.set w (.cells [.v (.bool (decide (c.kind=2))),a83,g])).set A (.cells [.v (.bool b.leaf),E,F])=V:=⟨_,rfl⟩;have L:k3.sub V:=by rw[<-k4];exact κ (κ η a06) a07
 have oR:V w=β (.cells [.v (.bool (decide (c.kind=2))),a83,g]):=by rw[<-k4,ξ _ _ acu,μ]
 have oS:V A=β (.cells [.v (.bool b.leaf),E,F]):=by rw[<-k4,μ]
 have a86:=ο a04 t;have a88:=n.mono a86;have a89:=av.mono a05 (ο a03 t);have k5:(hh c).rows.length<=1000/\(hh c).kids.length<=1000:=by simp[hh];omega
 refine aa ?_;clear b30 m;refine oX [1,4,12,16,17] (λ_:Unit=>[]) (λ_ P=>k3.sub P/\∃k6 k7 B k8 k9 a08 a09 a10 a11,P w=β (.cells [.v (.bool (if a=0 then b else hh c).leaf),k6,k7])/\P A=β (.cells [B,k8,k9])/\B.cells=[B]/\iT P (if a=0 then b else hh c) k6 k7 a08 a09/\iT P (if a=0 then hh c else b) k8 k9 a10 a11) (λk=>?_) (λk=>?_) ?_
 .have k:=of_decide_eq_true k;have k:a=0:=acq;simp only[if_pos k];have m:=rd L u;have b28:=rd (ο t L) gl;refine cl (z1 c a71 a73 Y g V (a81.mono (ο t L))) ?_;rintro _ n0⟨b78,b79,rfl,b31,i⟩;have m:=rd i.1 (L _ _ u);have b80:=τ (i.1 _ _ oR);have b81:∀a90,ep (n0.set w a90) A=β [.v (.bool b.leaf),E,F]:=λa90=>τ (by rw[ξ _ _ acu];exact i.1 _ _ oS);have l0:∀G a92,k3.sub ((n0.set w G).set A a92):=λG a92 b82 v a13=>by
   rw[ξ _ _ (U.gY a07 a13),ξ _ _ (U.gY a06 a13)];exact i.1 _ _ (L _ _ a13)
  refine aa ?_;refine⟨(),_,_,_,_,_,_,_,_,_,rfl,rfl,rfl,a88.mono (l0 _ _),iT.of b31 Z (av.emp i ?_) (av.mono a89 (l0 _ _)) k5.1 k5.2⟩;rintro b32 b83 b84 rfl;have a94:V b32=none:=by
   rcases i.2 with⟨_,j|j⟩|⟨b85,_,_,_,j,b86,_⟩
   .cases j
   .cases j
   simp_all
  rw[ξ _ _ (U.gY a94 oS).symm,ξ _ _ (U.gY a94 oR).symm]
 .have k:=of_decide_eq_false k;have k:¬a=0:=acq;simp only[if_neg k];refine aa ?_;subst k4;exact⟨(),_,_,_,_,_,_,_,_,_,rfl,rfl,rfl,iT.of b29 Z (a84.mono L) (a89.mono L) k5.1 k5.2,a88.mono L⟩
 rintro _ P⟨l0,k6,k7,B,k8,k9,a08,a09,a10,a11,oR,oS,b33,b34,b35⟩b18;have b36:(if a=0 then b else hh c).rows.length<=1000/\(if a=0 then hh c else b).rows.length<=1000/\(if a=0 then b else hh c).kids.length<=1000/\(if a=0 then hh c else b).kids.length<=1000:=by split<;>omega
 have b37:=λq l1 j=>Fi (H:=y) (h:=q) (e:=d) (d:=l1) j b36;generalize (if a=0 then b else hh c)=a95 at*;generalize (if a=0 then hh c else b)=a96 at*;have a14:=ο a86 l0;have a29:=rd a14 aP;have b87:=ι oR;have b88:=ι oS;refine cl (a1t P D W y (l9.mono a14) a95 a96 k6 k7 B k8 k9 a08 a09 a10 a11 b34 b35 b33 d l4 l5) ?_;intro l b38 a15;generalize kQ y d a95 a96=n1 at*;obtain⟨res,q⟩:=n1;have a97:=cR.mono a43 a14;cases res with
 |error b06=>obtain⟨b39,b40,n4,rfl⟩:=a15;subst h;refine aa ?_;exact⟨_,η,b39,a97.ext.trans b40,n4,_,rfl,rfl⟩
 |ok l1=>obtain⟨_,a3,_,rfl,_⟩:=id a15;have b41:=b37 q l1 rfl;have b42:((a - 1:Nat))+2=((a - 1+2:Nat):Int):=rfl;refine cl (a1v H P b38 D W y q z l1 K l7 a27 a3 a97 S a15 (a - 1) (a - 1+2) _ b42 acq acq a98 b41) ?_;rintro l b89⟨b90,b43,b44⟩;subst h;refine aa ?_;exact⟨_,η,_,_,b43,rfl,b44⟩
end Go.Proofs.YtkafjfkjahgihaaGreat
set_option maxHeartbeats 1000000
namespace Go.bD
open Go
variable{n b6:R}{f s e5:U}{g B e1:Ψ}{e i v O e0 j6:Nat}
theorem av.nJ(x:av s f e g n):∃d:U,av d f e g n/\d.sub f/\s.sub d/\∀a,(∀b h k,n=.aq b h k e->b≠a)->d a=f a:=by
 obtain⟨p,o⟩:=x;rcases o with o|⟨b,h,k,y,rfl,z,C,D⟩
 .exact⟨f,⟨η,.inl o⟩,η,p,λ_ _=>rfl⟩
 .have r:(f.del b).sub f:=λa E c=>by
   grind[U.iD,U.eO]
  refine⟨f.del b,⟨r,.inr ⟨b,h,k,y,rfl,U.iD _ _,C,D⟩⟩,r,λa E c=>?_,λa c=>U.eO _ (Δ (c _ _ _ rfl))⟩;have F:a≠b:=by rintro rfl;rw[z]at c;cases c
  rw[U.eO _ F];exact p _ _ c
theorem av.own(c:av f s i g (.aq e v O i)):f e=ε/\∃b,s e=β (.cells b):=by
 rcases c.2 with⟨_,a|a⟩|⟨d,h,k,b,o,p,r,_⟩
 .cases a
 .cases a
 simp_all
end Go.bD
namespace Go.Proofs.YtkafjfkjahgihaaGreat
open Go Go.bD
def iq(d:Nat)(c:Τ):Nat->ai->au->Except Int im×ai
  |0,b,_=>(.error 21,b)
  |p+1,b,r=>match iR b d r with
    |none=>(.error 21,b)
    |some a=>
      if a.kind=2 then
        (if kP (a.rows.map Α) c=ζ then(.ok ⟨ζ,(a.rows.map Α).take (fg (a.rows.map Α) c)++(a.rows.map Α).drop (fg (a.rows.map Α) c+1),a.kids⟩,b)
         else(.error 9,b))
      else match a.kids[hB c a]? with
        |none=>(.error 21,b)
        |some x=>match iq d c p b x with
          |(.error h,k)=>(.error h,k)
          |(.ok y,k)=>match kg k d a.kids (hB c a) y with
            |(.error h,o)=>(.error h,o)
            |(.ok bI,o)=>(.ok ⟨θ,a.rows.map Α,bI⟩,o)
def a1x(x c:U)(d h:Nat)(k:Except Int im×ai)(o:R):Prop:=
 bs c d h k.2/\Ext d h x c/\match k.1 with
 |.error p=>p≠0/\∃y a b,o=.aJ [.agg [y,a,b],.v (.int .i64 p)]
 |.ok r=>∃a b z C,o=.aJ [.agg [.v (.bool r.leaf),a,b],.v (.int .i64 0)]/\iT c r a b z C
variable{e i v O e0 j6:Nat}{H:ai}
theorem a1y{h:ai}{c d:List au}{b:im}(a:kg H e c i b=(.ok d,h))(o:α c<=4)(p:α b.rows<=1000/\α b.kids<=1000):α d<=1000:=by
 unfold kg at a;split at a;grind
 .rename_i r;split at a
  .simp_all
  .split at a
   .simp_all
   .rename_i x k;obtain⟨y,z,C⟩:=lG (tH k).1.ok;grind[Prod.mk.inj,Except.ok.inj,Fi,hh,ω,List.length_take,List.length_drop]
theorem a1z(E T:Nat)(L:Τ)(a52:Own)(F:Nat)(b02:1<=F)(b03:F<=8):∀(m:Nat)(f:U)(n:ai)(g:au)(n0 n1 n2:Own),bs f E T n->α g.sum=32->g.cE->0<m->g.size<m->
  AC γ 188 [ee E F,.agg (ab g n0 n1 n2),.J (af L) a52] f λn3 b31=>a1x f b31 E T (iq F L m n g) n3:=by
 intro m
 induction m with
 |zero=>intros;omega
 |succ m ih=>
 intro f n g n0 n1 n2 P b04 b32 b68 b69;have n4:=(aT (M:=n0) (e7:=n1) (j0:=n2) b04).lt;have b33:=@ς;have b70:=@sK;obtain⟨b05,b⟩:∃b05,iq F L (m+1) n g=b05:=⟨_,rfl⟩;rw[b];rw[iq]at b;refine aL hm Qv ?_;refine bp λa56 b06=>?_;refine dk λb34 b35 _ _=>?_;refine gZ λx Q _ _ _ _=>?_;generalize A:((f.set a56 _).set b34 _).set x _=n5;have n9:f.sub n5:=by subst A;exact aR
 have aD:n5 a56=β (.cells [.ptr E 0,.v (.int .i64 (F))]):=by subst A;exact aR
 have bx:n5 x=β (.cells [.v (.bool θ),.J [] .nil,.J [] .nil]):=by subst A;exact aR
 clear A;have b07:=P.cG b06;have C:=P.cG Q;refine cl (yZ n5 E T n (P.mono n9) g n0 n1 n2 b04 b32 F b02 b03) ?_;rintro n3 a57⟨a61,a00⟩;have k7:=a61 _ _ bx;have b08:=ο n9 a61;clear b06 b35;cases a62:iR n F g with
 |none=>rw[a62]at a00 b;obtain rfl:=a00;subst b;refine aa ?_;refine bp λa01 k8=>?_;have b09:=λb36=>ο b08 (κ (Z:=b36) η k8);have b37:=U.gY k8 k7;have k9:∀k,ep (a57.set a01 k) x=β [.v (.bool θ),.J [] .nil,.J [] .nil]:=λk=>τ (by rw[ξ _ _ b37];exact k7);refine aa ?_;exact⟨_,η,(P.mono (b09 _)).set C,(ψ (b09 _)).set Q,acv,_,_,_,rfl⟩
 |some p=>
  rw[a62]at a00 b
  dsimp only at b
  obtain⟨a02,y,rfl,b71,b10,a03,l0,q,b11,X,b38,b39⟩:=a00;obtain⟨b12,b40⟩:=tH a62;obtain⟨b72,b73,b74⟩:=lG b12.ok;refine aa ?_;refine bp λa01 k8=>?_;obtain⟨l1,a63⟩:∃l1,a57.set a01 (.cells [.v (.int .u8 (p.kind.toNat)),a02,y])=l1:=⟨_,rfl⟩;have B:a57.sub l1:=by rw[<-a63];exact κ η k8
  have bz:l1 a01=β (.cells [.v (.int .u8 (p.kind.toNat)),a02,y]):=by rw[<-a63,μ]
  have b13:=fM.mono ⟨b11,X,(bS.dA l0 acq rfl (b11.cells λ_ _=>cZ.cells)).mono q.1,bS.dA q acq rfl (bC.c X),b38,b39⟩ B;have a65:=ι bz;refine cl (z1 p b10 a03 a02 y l1 b13) ?_;rintro _ b14⟨S,a68,rfl,s,H⟩;clear a63 k8 a65;refine aa ?_;refine bp λG l2=>?_;obtain⟨D,a04⟩:∃D,b14.set G (.cells [.v (.bool (decide (p.kind=2))),S,y])=D:=⟨_,rfl⟩;rw[b33,a04];have i:b14.sub D:=by rw[<-a04];exact κ η l2
  have cj:D G=β (.cells [.v (.bool (decide (p.kind=2))),S,y]):=by rw[<-a04,μ]
  clear a04;have I:=H.1;have a05:=ο b08 B;have Y:=ο a05 (ο I i);have a06:=ο B (ο I i);have a69:=Ι (ο a05 I) l2;have V:=P.cG a69;have a07:=a06 _ _ k7;have a71:=a06 _ _ (a61 _ _ aD);have a73:=U.gY l2 (I _ _ (B _ _ k7));have l3:=ι cj;have k9:=τ a07;have a08:∀a c d,y=.aq a c d 37->a≠E/\a≠T/\a≠x/\a≠G/\a≠a56:=by
   rintro a c d rfl;obtain⟨h,a74,z⟩:=q.own;have a81:=l0.1 _ _ bx;have a83:=l0.1 _ _ aD;have K:=(P.mono (ο n9 l0.1)).cG h;refine⟨K.1,K.2,?_,?_,?_⟩
   .rintro rfl;rw[a81]at h;cases h
   .rintro rfl;rw[I _ _ (B _ _ z)]at l2;cases l2
   .rintro rfl;rw[a83]at h;cases h
  have a09:∀a c d,S=.aq a c d 1->a≠E/\a≠T/\a≠x/\a≠G/\∀M Z k3,y=.aq M Z k3 37->M≠a:=by
   rintro a c d rfl;obtain⟨h,a74,z⟩:=H.own;have K:=(P.mono a05).cG h;refine⟨K.1,K.2,?_,?_,?_⟩
   .rintro rfl;rw[B _ _ k7]at h;cases h
   grind
   .rintro M Z k3 rfl rfl;obtain⟨_,b75,r⟩:=q.own;rw[B _ _ r]at h;cases h
  refine aG (λl4=>?_) λl4=>?_
  .rw[if_pos l4]at b;have b76:(p.rows.map Α).length=α p.rows:=a8o _;generalize b41:p.rows.map Α=l5 at*;refine cl (F3 l5 a68 S L a52 D s ((bS.dA H acq rfl (s.cells λ_ _=>υ)).mono i) acq) ?_;rintro _ D⟨rfl,b77,rfl⟩;have b42:kP l5 L=ζ->fg l5 L<α l5:=λo=>by
    grind[kP,Ε]
   generalize fg l5 L=W at*;refine aa ?_;refine aG (λa10=>?_) λa10=>?_
   .rw[if_neg (by simp[a10])]at b;subst b;exact⟨_,η,(P.mono Y).set C,(ψ Y).set Q,acv,_,_,_,rfl⟩
   .rw[if_pos a10]at b;have b78:=b42 a10;obtain⟨b43,b15,b79,_,b44⟩:=av.nJ (av.mono H i);rw[nU s]at b15;have b80:=s.len;refine cl (a1i b43 D a68 S b15 W acq acq) ?_;intro a5 t N;have b16:=(s.take W).append (s.drop (W+1));rw[<-nU b16]at N;have a11:∀j k,D j=β k->(∀a c d,S=.aq a c d 1->a≠j)->t j=β k:=λj k o b45=>N.1 _ _ (by rw[b44 j b45];exact o);have a13:=a11 _ _ cj λa c d o=>(a09 a c d o).2.2.2.1;have a14:=a11 _ _ a07 λa c d o=>(a09 a c d o).2.2.1;have u:f.sub t:=λj k l6=>a11 j k (Y _ _ l6) (by
     rintro a c d rfl rfl;have:=H.own.1;rw[a05 _ _ l6]at this;cases this)
    have b81:=fv N;obtain⟨e,l⟩:∃e,(t.set G (.cells [.v (.bool ζ),a5,y])).set x (.cells [.v (.bool ζ),a5,y])=e:=⟨_,rfl⟩;have k9:∀k,ep (t.set G k) x=β [.v (.bool θ),.J [] .nil,.J [] .nil]:=λk=>τ (by rw[ξ _ _ a73];exact a14);have b17:=τ a13;have b18:e.read x=β [.v (.bool ζ),a5,y]:=ι (by rw[<-l,μ]);clear b41 l3;refine aa ?_;refine⟨e,η,?_⟩;subst b;refine⟨by rw[<-l];exact((P.mono u).set V).set C,by rw[<-l];exact((ψ u).set a69).set Q,a5,y,_,a03,rfl,iT.of b16 X (av.emp N ?_) (av.emp q ?_) acs acs⟩
    .rintro a c d rfl;have l7:=N.own.1;have h:a≠G:=by grind
     have z:a≠x:=by grind
     rw[<-l,ξ _ _ z,ξ _ _ h]
    .rintro a c d rfl;obtain⟨_,a74,r⟩:=q.own;have v:=a08 _ _ _ rfl;rw[<-l,ξ _ _ v.2.2.1,ξ _ _ v.2.2.2.1,r];exact a11 _ _ (a06 _ _ r) λM Z k3 o=>Δ ((a09 M Z k3 o).2.2.2.2 _ _ _ rfl)
  .rw[if_neg l4]at b;rw[decide_eq_false l4]at cj l3;have b82:=s.len;have a65:=rd (ο I i) bz;refine cl (F2 p b10 a03 a02 y L a52 D (b13.mono (ο I i))) ?_;rintro _ D⟨rfl,rfl⟩;obtain⟨-,a81,a83,K⟩:=b12.inner (b40.resolve_left l4);have a15:hB L p<α p.kids:=by grind[zb,List.length_map]
   generalize hB L p=W at*;have a84:=Μ a15;have b19:p.kids[W]'a15∈p.kids:=a8L _;rw[a84]at b;simp only at b;generalize p.kids[W]'a15=k4 at a84 b19 b;obtain⟨b83,b46,b20,b47,h,z,r,rfl⟩:=X.get a84;obtain⟨_,_,_,b84,b85⟩:=K k4 b19;have b21:=av.mono q a06;obtain⟨b48,b49,b86,_,l8⟩:=b21.nJ;have b22:f.sub b48:=λj k l6=>by
    rw[l8 j (by
     rintro a c d rfl rfl;have:=q.own.1;rw[l0.1 _ _ (n9 _ _ l6)]at this;cases this)]
    exact Y _ _ l6
   have b23:=(l8 _ λa c d o=>(a08 a c d o).2.2.2.1).trans cj;have b24:=(l8 _ λa c d o=>(a08 a c d o).2.2.1).trans a07;have b87:=(l8 _ λa c d o=>(a08 a c d o).2.2.2.2).trans a71;have b50:=P.mono Y;have a86:=ι a71;obtain⟨b51,b52,a88⟩:=(bS.dA b21 acq rfl (bC.c X)).get W _ b46;have b25:=aT (M:=h) (e7:=z) (j0:=r) b20;change mK D b51 (ab k4 h z r)at a88;have b26:=a88.ld D η ζ 37 acq (by rw[b25.len];omega);rw[show aQ ζ 37 (ab k4 h z r)=.agg (ab k4 h z r) by rw[aQ,if_pos rfl,b25.t37]]at b26;refine aa ?_;refine cl (ih D n k4 h z r b50 b20 b47 acq acq) ?_;intro n3 t k5;generalize iq F L m n k4=a89 at k5 b;obtain⟨res,a90⟩:=a89;obtain⟨a16,u,k5⟩:=k5
   dsimp only at a16 k5 b
   have a14:=u _ _ C.1 C.2 a07;have a13:=u _ _ V.1 V.2 cj;have b27:=u _ _ b07.1 b07.2 a71;clear a86 a65 l3 b26 b52 a88;cases res with
   |error b53=>obtain⟨a92,a,a18,a19,rfl⟩:=k5;subst b;refine aa ?_;refine bp λa27 w=>?_;have b54:=U.gY w a14;have k9:∀k,ep (t.set a27 k) x=β [.v (.bool θ),.J [] .nil,.J [] .nil]:=λk=>τ (by rw[ξ _ _ b54];exact a14);have b28:=a16.cG w;have A:=(ψ Y).trans u;refine aa ?_;exact⟨_,η,(a16.set b28).set C,(A.set (A.no b28 w)).set Q,a92,_,_,_,rfl⟩
   |ok a29=>
    obtain⟨a18,a19,b55,b56,rfl,a94⟩:=k5
    dsimp only at b
    refine aa ?_;refine bp λa27 w=>?_;obtain⟨e,l⟩:∃e,t.set a27 (.cells [.v (.bool a29.leaf),a18,a19])=e:=⟨_,rfl⟩;have a30:t.sub e:=by rw[<-l];exact κ η w
    have b57:e.read a27=β [.v (.bool a29.leaf),a18,a19]:=ι (by rw[<-l,μ]);have l3:=rd a30 a13;have a86:=rd a30 b27;have b88:=U.gY w a13;have b89:=U.gY w b27;have b58:=cR.mono ((cR.of b49 (P.mono b22) Ext.refl).step u a16) a30;obtain⟨b29,N,b59,a34⟩:=b58;refine cl (a1w b29 e E T a90 b59 p.kids a03 y N X a29 a18 a19 b55 b56 (a94.mono a30) a81 acq W a15 F b02 b03) ?_;intro n3 O n4;clear l w b57 l3 a86;have a36:=λl9 a95 o=>a1y (H:=a90) (h:=l9) (e:=F) (i:=W) (d:=a95) o a83 ⟨a94.kM,a94.ig⟩;generalize kg a90 F p.kids W a29=a89 at b n4 a36;obtain⟨res,l9⟩:=a89;have a38:∀(a42),bs O E T l9->Ext E T b29 O->O x=β (.cells [.v (.bool θ),.J [] .nil,.J [] .nil])/\O G=β (.cells [.v (.bool θ),S,y])/\
      ∃k6:U,(O.set G (.cells [.v (.bool θ),S,a42])).set x (.cells [.v (.bool θ),S,a42])=k6/\k6.read x=β [.v (.bool θ),S,a42]/\bs k6 E T l9/\Ext E T f k6:=by
     intro a42 h z;have r:=a34.trans z;exact⟨r _ _ C.1 C.2 b24,r _ _ V.1 V.2 b23,_,rfl,ι (μ _ _ _),(h.set V).set C,((((ψ b22).trans r).set a69).set Q)⟩
    cases res with
    |error b53=>
     obtain⟨b30,b60,a92,a43,rfl,b61⟩:=n4
     dsimp only at b b30
     subst b;obtain⟨a96,a97,k6,a98,b18,a99,b00⟩:=a38 a43 b30 b60;have k9:∀k,ep (O.set G k) x=β [.v (.bool θ),.J [] .nil,.J [] .nil]:=λk=>τ (by rw[ξ _ _ a73];exact a96);have b17:=τ a97;clear a36 a38;refine aa ?_;exact⟨_,η,a99,b00,a92,_,_,_,rfl⟩
    |ok a95=>
     obtain⟨b62,a43,b63,rfl,a47⟩:=n4;have b64:=a36 l9 a95 rfl
     dsimp only at b a47
     subst b;obtain⟨a96,a97,k6,a98,b18,a99,b00⟩:=a38 a43 a47.hg a47.ext;have k9:∀k,ep (O.set G k) x=β [.v (.bool θ),.J [] .nil,.J [] .nil]:=λk=>τ (by rw[ξ _ _ a73];exact a96);have b17:=τ a97;obtain⟨b90,a48,b91,b01⟩:=a47;have b61:=fv a48;clear a36 a38;refine aa ?_;have b65:=a34.trans (b01.trans (ψ a48.1));refine⟨_,η,a99,b00,S,a43,a68,b62,rfl,iT.of s b63 (av.emp (av.mono H i) ?_) (av.emp a48 ?_) acs b64⟩
     .rintro a c d rfl;have v:=a09 _ _ _ rfl;obtain⟨_,a74,r⟩:=H.own;rw[<-a98,ξ _ _ v.2.2.1,ξ _ _ v.2.2.2.1,i _ _ r];exact b65 _ _ v.1 v.2.1 (by rw[l8 _ (λM Z k3 o=>v.2.2.2.2 M Z k3 o)];exact i _ _ r)
     .rintro a c d rfl;have l7:=a48.own.1;have b66:=b01 _ _ V.1 V.2 (a34 _ _ V.1 V.2 b23);have b67:=b01 _ _ C.1 C.2 (a34 _ _ C.1 C.2 b24);have h:a≠G:=by rintro rfl;rw[b66]at l7;cases l7
      have z:a≠x:=by rintro rfl;rw[b67]at l7;cases l7
      rw[<-a98,ξ _ _ z,ξ _ _ h]
def lM(d:Nat)(k:Τ)(h:ai)(c:au):Except Int au×ai:=
 if c=aw then(.error 9,h)
 else match iq d k (c.size.toNat+1) h c with
  |(.error o,b)=>(.error o,b)
  |(.ok a,b)=>
   if a.leaf=ζ/\α a.rows=0 then(.ok aw,b)
   else if a.leaf=θ/\α a.kids=1 then(.ok (a.kids.headD aw),b)
   else mN b d a.leaf a.rows a.kids
def a1A(V:U)(x W:Nat)(L:ai)(H:bs V x W L)(c:au)(e f g:Own)(I:α c.sum=32)(k7:c.cE)(o:Τ)(n:Own)(b:Nat)(k8:1<=b)(k9:b<=8)(a19:α o=b):
  AC γ 129 [.ptr x 0,.agg (ab c e f g),.J (af o) n,.v (.int .i64 (b:Int))] V λK l0=>bs l0 x W (lM b o L c).2/\Ext x W V l0/\hf (lM b o L c).1 K:=by
 have a27:=(aT (M:=e) (e7:=f) (j0:=g) I).lt;have a29:=(aT (M:=.nil) (e7:=.nil) (j0:=.nil) bm).lt;have a30:=cr;have M:=λN d h k i=>cF (a:=.nil) (b:=.nil) (c:=.nil) (A:=N) (M:=d) (e7:=h) (j0:=k) bm i;have a34:=M aw .nil .nil .nil bm;generalize O:ab aw .nil .nil .nil=l1 at*;obtain⟨l2,a⟩:∃l2,lM b o L c=l2:=⟨_,rfl⟩;rw[a];unfold lM at a;have a36:rL (b) [o]=true:=by simp[rL];omega
 refine aL hm OT ?_;refine bp λl3 a00=>?_;refine dk λQ P _ _=>?_;refine vf λa01 a38 _ _ _ _=>?_;generalize y:((V.set l3 _).set Q _).set a01 _=E;have q:V.sub E:=by subst y;exact aR
 have bl:E l3=β (.cells (ab c e f g)):=by subst y;exact aR
 have bz:E Q=β (.cells l1):=by subst y;exact aR
 clear y;have l4:=H.mono q;have r:=H.cG P;have l5:=ι bl;have X:=τ bz;have a02:=@ς;refine nG (EZ b [o] [.J (af o) n] _ E ⟨⟨n,rfl⟩,trivial⟩ (bS.J (by simp[aW,ρ])) acr) ?_;refine nG (mL c e f g E I λ_=>k7) ?_;refine aG (λY=>?_) λY=>?_
 .rw[if_pos Y]at a;subst a;exact⟨_,η,l4.set r,(ψ q).set P,acv,by rw[O]⟩
 rw[if_neg Y]at a;refine bp λl6 s=>?_;have a42:=U.gY s bl;obtain⟨j,z⟩:∃j,E.set l6 (.cells [.ptr x 0,.v (.int .i64 (b))])=j:=⟨_,rfl⟩;have t:E.sub j:=by rw[<-z];exact κ η s
 have cj:j l6=β (.cells [.ptr x 0,.v (.int .i64 (b))]):=by rw[<-z,μ]
 have l7:=ι cj;have l5:=rd t bl;refine cl (a1z x W o n b k8 k9 (c.size.toNat+1) j L c e f g (l4.mono t) I k7 acq acq) ?_;intro K Z C;generalize iq b o (c.size.toNat+1) L c=a03 at C a;obtain⟨res,a04⟩:=a03;obtain⟨u,k3,C⟩:=C
 dsimp only at u C a
 have v:=k3 _ _ r.1 r.2 (t _ _ bz);have l8:=H.cG (Ι q s);have a05:=k3 _ _ l8.1 l8.2 cj;have y:=(ψ (ο q t)).trans k3;clear z l7 l5;cases res with
 |error a06=>obtain⟨a07,a43,w,l,rfl⟩:=C;subst a;refine aa ?_;refine bp λA S=>?_;have l9:=u.cG S;have a08:=U.gY S v;have X:∀n0,ep (Z.set A n0) Q=β l1:=λn0=>τ (by rw[ξ _ _ a08];exact v);refine aa ?_;exact⟨_,η,(u.set l9).set r,(y.set (y.no l9 S)).set P,a07,by rw[O]⟩
 |ok T=>
  obtain⟨w,l,a09,a10,rfl,p⟩:=C
  dsimp only at a
  refine aa ?_;refine bp λA S=>?_;obtain⟨F,B⟩:∃F,Z.set A (.cells [.v (.bool T.leaf),w,l])=F:=⟨_,rfl⟩;have D:Z.sub F:=by rw[<-B];exact κ η S
  have a47:F.read A=β [.v (.bool T.leaf),w,l]:=ι (by rw[<-B,μ]);have l7:=rd D a05;have X:=τ (D _ _ v);have k4:=u.mono D;have k5:=y.trans (ψ D);have a48:=p.pc.len;have a52:=p.kf.len;have a56:=p.kM;have a57:=p.ig;rw[a02,B];clear S s a00 B;refine aG (λG=>?_) λG=>?_
  all_goals refine aG (λc2=>?_) λc2=>?_
  .rw[if_pos ⟨G,acq⟩]at a;subst a;exact⟨_,η,k4.set r,k5.set P,bm,qg,.nil,.nil,.nil,by rw[O]⟩
  rotate_left
  .obtain⟨m,n1⟩:=aac.1 (show α T.kids=1 by omega);rw[if_neg (by simp[G]),if_pos ⟨G,acq⟩,n1]at a;subst a;obtain⟨a61,a11,k6,a13,d,h,k,rfl⟩:=p.k.get (show T.kids[0]?=β m by rw[n1];rfl);obtain⟨n2,n3,n4⟩:=(p.vI.mono D).get 0 _ a11;have z:=aT (M:=d) (e7:=h) (j0:=k) k6;change mK F n2 (ab m d h k)at n4;have n3:cO 37 l (.v (.int .i64 0))=β n2:=n3;have a14:=n4.ld F η ζ 37 acq (by rw[z.len];omega);rw[show aQ ζ 37 (ab m d h k)=.agg (ab m d h k) by rw[aQ,if_pos rfl,z.t37]]at a14;have a15:=M m d h k k6;have z:=z.lt;refine aa ?_;exact⟨_,η,k4.set r,k5.set P,k6,a13,d,h,k,rfl⟩
  all_goals
   rw[if_neg (by rintro⟨i,a16⟩;first|omega|simp[G]at i),if_neg (by rintro⟨i,a16⟩;first|omega|simp[G]at i),G]at a;subst a;refine cl (F1 F x W a04 k4 _ T.rows a09 w T.kids a10 l b k8 k9 p.r (p.al.mono D) acq p.k (p.vI.mono D) acq) ?_;rintro K a62⟨a18,n5,C⟩;have X:=τ (n5 _ _ r.1 r.2 (D _ _ v));obtain⟨N,d,h,k,a06,n9,rfl⟩:=C.shape;have a63:=(aT (M:=d) (e7:=h) (j0:=k) n9).lt;have a15:=M N d h k n9;refine aa ?_;exact⟨_,η,a18.set r,(k5.trans n5).set P⟩
end Go.Proofs.YtkafjfkjahgihaaGreat
namespace Go.bD
open Go
end Go.bD
namespace Go.Proofs.YtkafjfkjahgihaaGreat
open Go Go.bD
inductive ql where
 |row (r:Τ)
 |gv (k:au)
def a1B(h:ql)(b:R):Prop:=
 match h with
 |.row c=>c≠[]/\∃d,d≠.nil/\b=.agg (.J (af c) d::ab aw .nil .nil .nil)
 |.gv a=>α a.sum=32/\a.cE/\∃k o p,b=.agg (.J [] .nil::ab a k o p)
abbrev a1C(a b:Nat)(c:Ψ)(d:Own):Ψ:=[.ptr a 0,.v (.int .i64 (b:Int)),.J c d]
def Fj(b:U)(c d h:Nat)(k:List ql):Prop:=∃a o,b c=β (.cells (a1C d h a o))/\aB a1B k a
structure tJ where
 A:List ql
 B:List ql
 gone:List Τ
 tK:List Τ
 nY:Int
abbrev a1D(a b:Nat)(c d:Ψ)(h k:Own)(o:Int):Ψ:=[.ptr a 0,.ptr b 0,.J c h,.J d k,.v (.int .i64 o)]
structure a7S(h k:U)(W o p z C d:Nat)(w:tJ):Prop where
 sub:h.sub k
 nW:h W=ε
 na:h o=ε
 nb:h p=ε
 a7T:o≠p
 a:Fj k o z d w.A
 b:Fj k p C d w.B
 w:∃mB fj r gw,k W=β (.cells (a1D o p mB r fj gw w.nY))/\aB isRow w.gone mB/\aB isRow w.tK r/\bf h k 1 mB fj/\bf h k 1 r gw/\∀x c y D,fj=.buf x c->gw=.buf y D->x≠y
end Go.Proofs.YtkafjfkjahgihaaGreat
namespace Go.bD
open Go
end Go.bD
namespace Go.Proofs.YtkafjfkjahgihaaGreat
open Go Go.bD
variable{A j9:au}{e i v O e0 j6:Nat}{c0:c4}{H:ai}
def vJ(a:ei H e A=β c0):qk e A c0:=by
 unfold ei at a;split at a
 .cases a
 .split at a
  .cases a
  .split at a
   .rename_i b;obtain rfl:=Β a;exact vH b
   .cases a
end Go.Proofs.YtkafjfkjahgihaaGreat
namespace Go.bD
open Go
end Go.bD
namespace Go.Proofs.YtkafjfkjahgihaaGreat
open Go Go.bD
def wt:ql->Nat
 |.row _=>1
 |.gv a=>if 1<=a.size/\a.size<=1048576 then 3*a.size.toNat - 1 else 1
def kR(a:List ql):Nat:=(a.map wt).sum
structure Bd(w a:tJ):Prop where
 wt:kR a.A+kR a.B<kR w.A+kR w.B
 rows:α a.gone+α a.tK+(kR a.A+kR a.B)<=α w.gone+α w.tK+(kR w.A+kR w.B)
 nY:w.nY<=a.nY/\a.nY+2*(kR a.A+kR a.B:Nat)<=w.nY+2*(kR w.A+kR w.B:Nat)
end Go.Proofs.YtkafjfkjahgihaaGreat
namespace Go.bD
open Go
theorem a1E(a:Nat)(c:a<18446744073709551616):a^^^9223372036854775808=(a+9223372036854775808)%18446744073709551616:=by
 have h:(9223372036854775808)=2^63:=acv;have d:(18446744073709551616)=2^64:=acv;rw[d]at c;rw[h,d];apply aaA;intro b;rw[abn,acg,abO,abG];by_cases h1:b<63
 .rw[abx h1];grind
 .by_cases k:b=63;grind
  .have o:¬b<64:=acq;have p:a.testBit b=false:=aad (a9y c (a9X acq acq));grind
end Go.bD
namespace Go.Proofs.YtkafjfkjahgihaaGreat
open Go Go.bD
theorem Fk(a:Int):(cq a:Int)=(a+9223372036854775808)%18446744073709551616:=by grind[π,BitVec.toNat_ofInt,cq,BitVec.toNat_xor,a1E]
def a1F(a:Int):IntKind.u64.wrap (IntKind.u64.wrap a+9223372036854775808)=(cq a:Int):=by rw[Fk,kG,kG];omega
variable{b3:Int}
theorem Fl(a: -9223372036854775808<=b3)(b:b3<9223372036854775808):(cq b3:Int)=b3+9223372036854775808:=by rw[Fk];omega
variable{b2:Type}
theorem a1G{a b:List b2}{d:b2}(h:α a=α b)(k:∀c<α a,a.getD c d=b.getD c d):a=b:=
 abJ h λc o p=>by grind
theorem tL(a c:Τ)(o p:Own)(h:U)(D:α a<=1000000000000):
  AC γ 65 [.J (af a) o,.J (af c) p] h λr x=>x=h/\r=.v (.bool (decide (a=c))):=by
 have E:=bM (t:=a);have F:=bM (t:=c);have G:=@dY a;have L:=@dY c;refine aL hm N7 ?_;refine aG (λy=>?_) λy=>?_
 .exact aO (by grind)
 refine gX [0,1] (λb:Nat=>[(5,.v (.int .i64 b))]) (λb=>b<=α a/\∀d<b,a.getD d 0=c.getD d 0) (λb=>α a - b) 0 ⟨acq,λd z=>by omega⟩ aR ?_;rintro b⟨P,k⟩S;refine aa ?_;refine aG (λC=>?_) λC=>?_;rotate_left
 .exact aO (by simp[a1G acq (λd z=>k d acq)])
 refine aG (λc2=>?_) λc2=>?_
 .exact aO (by grind)
 .exact⟨b+1,⟨acq,upto k c2⟩,rfl,acq⟩
variable{g B e1:Ψ}{e i v O e0 j6:Nat}
theorem aB.at{b:b2->R->Prop}{a:List b2}(d:b2)(h:aB b a g)(k:e<α a):∃c,g[e]?=β c/\b (a.getD e d) c:=h.get (by simp_all)
def ir(a:Bool):UInt8:=if a=ζ then 1 else 0
def tM(a:Τ):Υ:=(a6.cf (a.map cq) 64).map ir
theorem nZ(a:Τ)(b:Nat):(a6.cf (a.map cq) b).length=α a*b:=by rw[a6.EG,a8o]
theorem a1H(c:Τ)(P:Own)(o:U)(n:α c<=1000):
  AC γ 350 [.J (af c) P] o λS k=>∃C,bf o k 1 ((tM c).map ah) C/\S=.J ((tM c).map ah) C:=by
 have q:=bM (t:=c);have D:=@dY c;have T:(tM c).length=α c*64:=by rw[tM,a8o,nZ]
 refine aL hm Ul ?_;refine cd [0] (λa:Nat×Υ×Own=>[(3,.J (a.2.1.map ah) a.2.2),(4,.v (.int .i64 ((a.1) - 1)))]) (λa k=>a.1<=64/\a.2.1++(a6.cf (c.map cq) a.1).map ir=tM c/\bf o k 1 (a.2.1.map ah) a.2.2) (λa=>a.1) (64,[],.nil) ⟨⟨acv,rfl,Ν η⟩,aR⟩ ?_;rintro⟨x,E,V⟩ s ⟨y,p,h⟩ W
 dsimp only at y p h|-
 refine aa ?_;refine aG (λF=>?_) λF=>?_
 .obtain⟨b,rfl⟩:∃b,x=b+1:=⟨x - 1,acq⟩;have e:=congrArg α p;rw[Ρ,T]at e;rw[a6.cf,a9i,<-a8w]at p;have f:((b+1:Nat)) - 1=(b:Int):=acq;have t:IntKind.u64.wrap (b)=(b):=wrap_u64 acq acq;rw[f]at F|-;refine cd [0,4] (λa:Nat×Υ×Own=>[(3,.J (a.2.1.map ah) a.2.2),(5,.v (.int .i64 (a.1)))]) (λa k=>a.1<=α c/\E++((c.take a.1).map λg=>ir ((cq g).testBit b))=a.2.1/\bf o k 1 (a.2.1.map ah) a.2.2) (λa=>α c - a.1) (0,E,V) ⟨⟨acr,acr,h⟩,aR⟩ ?_;clear h;rintro⟨r,G,i⟩ u ⟨j,z,h⟩ W
  dsimp only at j z h|-
  have v:α G<=65000:=by grind
  refine aa ?_;refine aG (λl=>?_) λl=>?_
  .have w:=fa (a:=c) (b:=0) (e:=r) acq;have A:=D (b:=r) acq;clear D;generalize c.getD r 0=d at*;have B:br .shr (.int .u64 (cq d)) (.int .u64 (b))=β (.int .u64 ((cq d>>>b))):=by rw[sS _ _ _ acq acq];simp
   have H:br .rem (.int .u64 ((cq d>>>b))) (.int .u64 2)=β (.int .u64 (((cq d>>>b)%2:Nat))):=by simp only[br,fB,hR,a9m,if_false,if_true];rfl
   have I:IntKind.u8.wrap (((cq d>>>b)%2:Nat))=((ir ((cq d).testBit b)).toNat):=by
    rw[wrap_u8 acq acq];have:(cq d).testBit b=decide ((cq d>>>b)%2=1):=by simp
    rw[this,ir];rcases Nat.mod_two_eq_zero_or_one (cq d>>>b)with L|L<;>simp[L]
   have K:=a1F d;refine Zx h λM m N y _=>?_;exact⟨(r+1,_,m),⟨by simp only;omega,by grind,y⟩,⟨rfl,rfl⟩,by simp only;omega⟩
  .rw[Ο acq]at z;refine⟨(b,G,i),⟨by simp only;omega,by simp only[<-z,<-p,a6.fO,aae];rfl,h⟩,⟨rfl,rfl⟩,acr⟩
 .obtain rfl:x=0:=acq;grind[a6.cf,η]
def a1I(b:Nat)(c:List Bool)(a:Nat)(d:a<b):a6.iQ (b - a) (c.drop (8*a))=ν (a6.val ((c.drop (8*a)).take 8))::a6.iQ (b -(a+1)) (c.drop (8*(a+1))):=by rw[show b - a=(b -(a+1))+1 by omega,a6.iQ,a8T,show 8*(a+1)=8*a+8 by omega]
theorem zd:∀(b:List Bool)(a:Bool),a6.val (b++[a])=2*a6.val b+(if a=ζ then 1 else 0)
 |[],a=>by simp[a6.val]
 |c::b,a=>by
  simp only[a9v,a6.val,Ρ,a8m,a8s,zd b a,abI];split<;>omega
theorem a1J(b:List Bool)(h:Nat)(l:α b=8*h)(D:Own)(G:U)(O:h<=100000):
  AC γ 349 [.J ((b.map ir).map ah) D] G λm z=>∃W,bf G z 1 ((a6.iQ h b).map ah) W/\m=.J ((a6.iQ h b).map ah) W:=by
 refine bg hm Uj acr ?_;have e:((b.map ir).map ah).length=8*h:=by simp[l]
 refine bX ?_;refine cv (λd z=>∃(a:Nat)(x:Υ)(C:Own),a<=h/\x++a6.iQ (h - a) (b.drop (8*a))=a6.iQ h b/\α x=a/\bf G z 1 (x.map ah) C/\d 0=.J ((b.map ir).map ah) D/\d 3=.J (x.map ah) C/\d 4=.v (.int .i64 ((8*a:Nat))))
  (λd _=>match d 4 with|.v (.int _ L)=>8*h - L.toNat|_=>0) ⟨0,[],.nil,acq,rfl,rfl,Ν η,?_⟩ ?_
 .exact nF
 rintro d n⟨a,x,C,Q,P,X,f,p,r,o⟩;by_cases g:((8*a:Nat))+7<((8*h:Nat):Int)
 .rw[a1I h b a acq]at P;refine al (bl @p @r @o @e @g) ?_;refine cv (λd z=>∃c:Nat,c<=8/\z=n/\d 0=.J ((b.map ir).map ah) D/\d 3=.J (x.map ah) C/\d 4=.v (.int .i64 ((8*a:Nat)))/\d 5=.v (.int .u8 (a6.val ((b.drop (8*a)).take c)))/\d 6=.v (.int .i64 c))
   (λd _=>match d 6 with|.v (.int _ L)=>8 - L.toNat|_=>0) ⟨0,acq,rfl,?_⟩ ?_
  .refine al (aD @p @r @o) ?_;rfl
  have q:=o;clear p r o;rintro Y s⟨c,Z,rfl,p,r,o,E,F⟩;by_cases i:(c:Int)<8
  .have S:b[8*a+c]?=β b[8*a+c]:=Μ acq;have j:(b.drop (8*a)).take (c+1)=(b.drop (8*a)).take c++[b[8*a+c]]:=by rw[a9x,ab0,S];rfl
   generalize b[8*a+c]'acq=k at S j;have T:=a6.nT ((b.drop (8*a)).take (c+1));have V:a6.val ((b.drop (8*a)).take (c+1))<256:=a9y T (by
    have:((b.drop (8*a)).take (c+1)).length<=8:=by rw[a8l];omega
    exact a9X acq this)
   rw[j,zd]at V;have t:cO 1 (.J ((b.map ir).map ah) D) (.v (.int .i64 (((8*a:Nat))+(c))))=β (.bZ [.v (.int .u8 ((ir k).toNat))]):=by rw[show((8*a:Nat))+(c)=((8*a+c:Nat):Int) by omega,hX acq];rw[a8N,a8H,a8H,S];rfl
   have u:du θ 1 s (.bZ [.v (.int .u8 ((ir k).toNat))])=β (.v (.int .u8 ((ir k).toNat))):=rfl;have k3:((ir k).toNat:Int)=if k=ζ then 1 else 0:=by cases k<;>rfl
   generalize k4:a6.val ((b.drop (8*a)).take c)=y at*;have k5:(if k=ζ then 1 else 0)<=1:=by split<;>omega
   have v:IntKind.u8.wrap (2*(y))=((2*y:Nat)):=by rw[wrap_u8 acq acq];omega
   have w:IntKind.u8.wrap (((2*y:Nat))+((ir k).toNat))=((2*y+(if k=ζ then 1 else 0):Nat)):=by grind[wrap_u8]
   have A:br .mul (.int .u8 2) (.int .u8 (y))=β (.int .u8 ((2*y:Nat))):=by rw[<-v];rfl
   have B:br .add (.int .u8 ((2*y:Nat))) (.int .u8 ((ir k).toNat))=β (.int .u8 ((2*y+(if k=ζ then 1 else 0):Nat))):=by rw[<-w];rfl
   refine al (cj @p @r @o @E @F @i @t @u @A @B) ?_;grind[zd]
  .obtain rfl:c=8:=acq;refine al (bx @p @r @o @E @F @i) ?_;refine dD η (by simp[aW,ρ]) λk6 k7 H=>?_;refine al (bl @p @r @o @E @F) ?_;refine dW (f.mono H.sub) (by intro k8 I;obtain⟨k9,_,rfl⟩:=a8D.1 I;rfl) (by simp[aW,ρ]) (by grind) (by grind) λl0 l1 K=>?_;have T:=a6.nT ((b.drop (8*a)).take 8);have V:a6.val ((b.drop (8*a)).take 8)<256:=a9y T (by
    grind)
   have M:R.v (.int .u8 (a6.val ((b.drop (8*a)).take 8)))=ah (ν (a6.val ((b.drop (8*a)).take 8))):=by show _=R.v (.int .u8 ((ν (a6.val ((b.drop (8*a)).take 8))).toNat));rw[a9k,a9K V]
   have N:x.map ah++[R.v (.int .u8 (a6.val ((b.drop (8*a)).take 8)))]=(x++[ν (a6.val ((b.drop (8*a)).take 8))]).map ah:=by rw[M,a9i];rfl
   rw[N]at K|-;refine al (bx @p @r @o @E @F @q) ?_;grind
 .obtain rfl:a=h:=acq;rw[aat,a6.iQ,a9p]at P;subst P;refine al (bl @p @r @o @e @g) ?_;exact⟨_,η,C,f,rfl⟩
def codeF(a:Τ):Υ:=a6.iQ (8*α a) (a6.cf (a.map cq) 64)
def vK(a:Τ):(codeF a).length=8*α a:=a6.EL _ _
def Fm(a:Τ)(c:Own)(b:U)(d:α a<=1000):
  AC γ 309 [.J (af a) c] b λh k=>b.sub k/\∃o,h=.J ((codeF a).map ah) o:=by
 refine bg hm Tr acr ?_;refine bX ?_;refine ag (a1H a c b d) ?_;rintro _ p⟨r,x,rfl⟩;refine bX ?_;refine ag (a1J (a6.cf (a.map cq) 64) (8*α a) (by rw[nZ];omega) r p acq) ?_;rintro _ C⟨y,z,rfl⟩;refine bX ?_;exact⟨_,η,ο x.sub z.sub,y,rfl⟩
def kS(a b:Τ):Bool:=if α a=α b then Op.bytesLess (codeF a) (codeF b)else decide (α a<α b)
def a1K(a b:Υ):jk .lss (bc a) (bc b)=β (.v (.bool (Op.bytesLess a b))):=by show(br .lss (.string ⟨a.toArray⟩) (.string ⟨b.toArray⟩)).map R.v= _;simp only[br,qQ,toList_mk,a9q]
theorem a1L(a b:Τ)(d h:Own)(k:U):
  AC γ 308 [.J ((codeF a).map ah) d,.J ((codeF b).map ah) h] k λy z=>z=k/\y=.v (.bool (kS a b)):=by
 refine bg hm Tp acr ?_;have o:((codeF a).map ah).length=8*α a:=by rw[a8o,vK]
 have p:((codeF b).map ah).length=8*α b:=by rw[a8o,vK]
 have r:nB (.J ((codeF a).map ah) d)=β (bc (codeF a)):=nE;have x:nB (.J ((codeF b).map ah) h)=β (bc (codeF b)):=nE;unfold kS;by_cases C:α a=α b
 .have c:((8*α a:Nat))=((8*α b:Nat):Int):=acq;refine al (bx @o @p @c @r @x @a1K) ?_;exact⟨_,η,rfl,by rw[if_pos C]⟩
 .have c:¬((8*α a:Nat))=((8*α b:Nat):Int):=acq;refine al (bl @o @p @c @r @x) ?_;refine⟨_,η,rfl,?_⟩;simp_all
theorem Fo(a b:Τ)(d h:Own)(c:U)(o:α a<=1000)(p:α b<=1000):
  AC γ 257 [.J (af a) d,.J (af b) h] c λr x=>c.sub x/\r=.v (.bool (kS a b)):=by
 refine bg hm Se acr ?_;refine bX ?_;refine ag (Fm a d c o) ?_;rintro _ y⟨D,z,rfl⟩;refine bX ?_;refine ag (Fm b h y p) ?_;rintro _ k⟨E,C,rfl⟩;refine bX ?_;refine ag (a1L a b z C k) ?_;rintro _ k⟨rfl,rfl⟩;refine bX ?_;grind
theorem Fp:∀ {a b:Υ},α a=α b->Op.bytesLess a b=a6.tD a b
 |[],[],_=>rfl
 |h::a,k::b,c=>by
  have d:α a=α b:=by simpa using c
  simp only[Op.bytesLess,a6.tD,Fp d];grind
theorem Fq(d h:Τ):∀(b:List (Int×Int))(a:(Int×Int)×Nat),(b.map λc=>(cq c.1,cq c.2)).foldl a6.pick ((cq a.1.1,cq a.1.2),a.2)=((cq (b.foldl gQ a).1.1,cq (b.foldl gQ a).1.2),(b.foldl gQ a).2)
 |[],a=>rfl
 |c::b,a=>by
  simp only[a8C,a9e];rw[<-Fq d h b];grind[a6.pick,gQ]
structure bU(d:Nat)(p:Τ):Prop where
 len:α p=d
 kh:dm p
def Fs(a b:Τ):(a.map cq).zip (b.map cq)=(a.zip b).map λc=>(cq c.1,cq c.2):=by rw[List.zip_map];rfl
theorem a1M{b:(Int×Int)×Nat}:∀(a:List (Int×Int)),(a.foldl gQ b).1=b.1\/(a.foldl gQ b).1∈a:=by
 intro a
 induction a generalizing b with
 |nil=>simp
 |cons d a ih=>
  rw[a9e];rcases ih (b:=gQ b d)with c|c
  .rw[c];unfold gQ;split
   .simp
   .simp
  .simp_all
variable{t b8:Τ}
theorem rN(z:1<=e)(C:e<=8)(h:bU e t)(k:bU e b8):bF t b8=a6.lexB (a6.cf (t.map cq) 64) (a6.cf (b8.map cq) 64):=by
 unfold bF;have D:=h.len;have E:=k.len;rw[if_pos ⟨acq,acq,acq⟩];have F:t.zip b8≠[]:=by intro c;have:=congrArg α c;simp_all
 obtain⟨a,d,b⟩:∃a d,t.zip b8=a::d:=by
  cases G:t.zip b8 with
  |nil=>trivial
  |cons a d=>simp
 have y:(t.zip b8).headD (0,0)=a:=by rw[b];rfl
 rw[y];have o:=a6.EK 64 (t.map cq) (b8.map cq) acs (λa b=>by
  obtain⟨L,P⟩:=a;have hm:=List.of_mem_zip b;obtain⟨p,_,rfl⟩:=a8D.1 hm.1;obtain⟨r,_,rfl⟩:=a8D.1 hm.2;exact aaw (p8 _) (p8 _)) (cq a.1,cq a.2) (by rw[Fs,b];simp)
 rw[Fs,Fq t b8 (t.zip b8) (a,0)]at o;rw[<-Bool.coe_iff_coe,decide_eq_true_eq];rw[<-o];simp only;have x:((t.zip b8).foldl gQ (a,0)).1∈t.zip b8:=by grind[a1M]
 generalize ((t.zip b8).foldl gQ (a,0)).1=c at x;obtain⟨p,r⟩:=c;have hm:=List.of_mem_zip x;have S:=h.kh p hm.1;have T:=k.kh r hm.2;grind[Fl]
theorem Ft(c:1<=e)(d:e<=8)(a:bU e t)(b:bU e b8):kS t b8=bF t b8:=by have h:=a.len;have k:=b.len;rw[rN c d a b];unfold kS;rw[if_pos acq,Fp (by rw[vK,vK];omega)];grind[codeF,a6.EM,nZ]
def Fu:∀(c:Τ),∀b∈c.zip c,b.1=b.2
 |[],b,a=>by cases a
 |d::c,b,a=>by
  rw[List.zip_cons_cons]at a;rcases a8E.1 a with rfl|a
  .rfl
  .exact Fu c b a
theorem tN(a:Τ):bF a a=false:=by
 unfold bF;split
 .have:∀(b:List (Int×Int))(c),(∀d∈b,d.1=d.2)->c.1.1=c.1.2->(b.foldl gQ c).1.1=(b.foldl gQ c).1.2:=by
   intro b
   induction b with
   |nil=>intro c _ h;exact h
   |cons d b ih=>grind[gQ]
  have k:=Fu a;have o:((a.zip a).headD (0,0)).1=((a.zip a).headD (0,0)).2:=by
   cases h:a.zip a with
   |nil=>rfl
   |cons d b=>simp_all
  grind
 .rfl
theorem gx(d:1<=e)(h:e<=8):a6.Ord bF (bU e) where
 kc:=tN
 trans C D L b a p h1 k:=by rw[rN d h b a]at h1;rw[rN d h a p]at k;rw[rN d h b p];exact a6.a0U (by rw[nZ,nZ,b.len,a.len]) (by rw[nZ,nZ,a.len,p.len]) h1 k
 total C D b a h1 k:=by
  rw[rN d h b a]at h1;rw[rN d h a b]at k;have:=a6.a0V (by rw[nZ,nZ,b.len,a.len]) h1 k;have F:=a6.a0S (by simp[b.len,a.len]) 64 this (λr x=>by obtain⟨o,_,rfl⟩:=a8D.1 x;exact p8 o) (λr x=>by obtain⟨o,_,rfl⟩:=a8D.1 x;exact p8 o);refine abB λy=>?_;have c:=congrArg (λG=>G[y]?) F;simp only[a8H]at c;cases E:C[y]? with
  |none=>grind
  |some r=>rw[E]at c;cases z:D[y]? with
   |none=>rw[z]at c;cases c
   |some o=>rw[z]at c;simp only[a9q,a8t]at c;have P:=b.kh r (a8r E);have S:=a.kh o (a8r z);grind[Fl]
variable{X:List Τ}
def iU(a:aB isRow X g):aW 1 g:=a.cells λ_ _=>υ
theorem Fv{a:Τ->Τ->Bool}(d:∀b<e,a (X.getD b []) t=ζ)(c:e<=α X)(h:e<α X->a (X.getD e []) t=θ):a6.ec a X t=X.take e++[t]++X.drop e:=by
 rw[a8w];change _=X.take e++t::X.drop e
 induction X generalizing e with
 |nil=>simp at c;subst c;rfl
 |cons k X ih=>
  cases e with
  |zero=>grind[a6.ec,List.takeWhile_cons,List.dropWhile_cons]
  |succ e=>have p:a k t=true:=d 0 acq;have:=ih (λb r=>d (b+1) acq) (by simpa using c) (λo=>h (by simpa using o));simp_all [a6.ec]
theorem a1N(b:List Τ)(L:Ψ)(W o:Own)(k:Τ)(y:U)(h:aB isRow b L)(t:α b<=1000)(e:∀z∈b,α z<=1000)(f:α k<=1000):
  AC γ 196 [.J L W,.J (af k) o] y λz p=>y.sub p/\∃P C,z=.J P C/\aB isRow (a6.ec kS b k) P:=by
 have u:=h.len;have v:=iU h;refine aL hm QL ?_;refine cd [0,1] (λa:Nat×Ψ×Own=>[(5,.J a.2.1 a.2.2),(6,.v (.int .i64 (a.1)))]) (λa p=>a.1<=α b/\(∀S<a.1,kS (b.getD S []) k=ζ)/\aB isRow (b.take a.1) a.2.1/\bf y p 1 a.2.1 a.2.2) (λa=>α b - a.1) (0,[],.nil) ⟨⟨acr,λS w=>by omega,trivial,Ν η⟩,aR⟩ ?_;rintro⟨d,A,on⟩ g ⟨D,r,c,x⟩ B
 dsimp only at D r c x|-
 have i:=c.len;rw[a8l]at i;refine aa ?_;refine aG (λj=>?_) λj=>?_
 .obtain⟨_,H,T,rfl⟩:=h.at [] (e:=d) acq;have l:=fa (a:=b) (b:=[]) (e:=d) acq;refine cl (Fo (b.getD d []) k T o g (e _ (by grind)) f) ?_;rintro _ I⟨V,rfl⟩;refine aa ?_;refine aG (λc2=>?_) λc2=>?_
  .refine hx (x.mono V) (iU c) λ_ C p m _=>?_;exact⟨(d+1,_,C),⟨by simp only;omega,upto r c2,by simp only[l];exact c.snoc ⟨T,rfl⟩,m⟩,⟨rfl,rfl⟩,by simp only;omega⟩
  .rw[Fv r D λ_=>c2];refine hx (x.mono V) (iU c) λ_ n q E _=>?_;refine kK E (DS (iU c) rfl) (iU (h.drop d)) λF s G _=>?_;exact⟨G.sub,_,F,rfl,(c.snoc ⟨o,rfl⟩).append (h.drop d)⟩
 .rw[Fv r D λ_=>by omega];refine hx x (iU c) λ_ n q E _=>?_;refine kK E (DS (iU c) rfl) (iU (h.drop d)) λF s G _=>?_;exact⟨G.sub,_,F,rfl,(c.snoc ⟨o,rfl⟩).append (h.drop d)⟩
def hi(a:Nat):Φ:=(χ (a6.bY a)).map λb=>a/a6.bY a+if b<a%a6.bY a then 1 else 0
def iV(a:Φ):Ψ:=a.map λ(b:Nat)=>R.v (.int .i64 (b:Int))
def ze{a:Nat}:a6.bY a<=a:=by unfold a6.bY;omega
def vL{a:Φ}:(iV a).length=α a:=by simp[iV]
def Fw{a:Φ}:aW 1 (iV a):=λc b=>by obtain⟨_,_,rfl⟩:=a8D.1 b;rfl
def vM{a:Nat}:(hi a).length=a6.bY a:=by simp[hi]
def zf{a b:Nat}(c:b<a6.bY a):(hi a).getD b 0=a/a6.bY a+if b<a%a6.bY a then 1 else 0:=by simp[hi,c]
def Fx(a:Nat)(g:a<=1000)(o:U):
  AC γ 259 [.v (.int .i64 (a:Int))] o λG d=>o.sub d/\∃L,G=.J (iV (hi a)) L:=by
 have P:(a:Int).tdiv 4=((a/4:Nat)):=rfl;have x:a6.bY a=if 4*(a/4)<a then a/4+1 else a/4:=by unfold a6.bY;split<;>omega
 refine aL hm Si ?_;refine oX [0] (λ_:Unit=>[(3,.v (.int .i64 (a6.bY a)))]) (λ_ d=>d=o) (λh=>?_) (λh=>?_) ?_
 .have h:=of_decide_eq_true h;rw[if_pos acq]at x;have b:((a/4:Nat))+1=(a6.bY a:Int):=acq;exact aR
 .have h:=of_decide_eq_false h;rw[if_neg acq]at x;have b:((a/4:Nat))=(a6.bY a:Int):=acq;exact aR
 rintro _ o rfl S;have i:iV []=[]:=rfl;clear x P;have j:=@ze a;have T:=@vM a;have E:=@zf a;refine aa ?_;refine cd [0,3] (λc:Nat×Own=>[(4,.J (iV ((hi a).take c.1)) c.2),(5,.v (.int .i64 (c.1)))]) (λc d=>c.1<=a6.bY a/\bf o d 1 (iV ((hi a).take c.1)) c.2) (λc=>a6.bY a - c.1) (0,.nil) ⟨⟨acr,Ν η⟩,aR⟩ ?_;rintro⟨k,V⟩ l ⟨W,p⟩ S
 dsimp only at W p|-
 have m:=aaY a (a6.bY a);have n:(a:Int).tdiv (a6.bY a:Int)=((a/a6.bY a:Nat)):=rfl;have q:(a:Int).tmod (a6.bY a:Int)=((a%a6.bY a:Nat)):=rfl;refine aa ?_;refine aG (λh=>?_) λh=>?_
 .have F:=E (b:=k) acq;have y:=fa (a:=hi a) (b:=0) (e:=k) acq;rw[F]at y;have z:∀r:Nat,(if k<a%a6.bY a then 1 else 0)=r->iV ((hi a).take k)++[R.v (.int .i64 ((a/a6.bY a+r:Nat)))]=iV ((hi a).take (k+1)):=λr b=>by
   rw[y,b,iV,iV,a9i];rfl
  have e:=z 0;have f:=z 1;clear E F y z T;generalize a/a6.bY a=r at*;generalize a%a6.bY a=s at*;generalize hi a=t at*;refine aG (λc2=>?_) λc2=>?_
  .have b:=f (if_pos acq);refine hx p Fw (λ_ C d D _=>?_) (P:=by rw[vL,a8l];omega);exact⟨(k+1,C),⟨by simp only;omega,b▸D⟩,⟨by simp only[<-b];rfl,rfl⟩,by simp only;omega⟩
  .have b:=e (if_neg acq);refine hx p Fw (λ_ C d D _=>?_) (P:=by rw[vL,a8l];omega);exact⟨(k+1,C),⟨by simp only;omega,b▸D⟩,⟨by simp only[<-b];rfl,rfl⟩,by simp only;omega⟩
 .rw[Ο acq]at p|-;exact⟨p.sub,V,rfl⟩
def bA(c:U):(d:Nat)->a6.T d->R->Prop
 |0,a,h=>∃b p k o,h=.ptr b 0/\c b=β (.cells [.J p k,.J [] o])/\aB isRow (a6.rows a) p
 |d+1,a,h=>∃b r k o,h=.ptr b 0/\c b=β (.cells [.J [] o,.J r k])/\aB (bA c d) (a6.kids a) r/\a6.kids a≠[]/\(a6.kids a).length<=1000
def bA.gh{r x:U}(d:iI r x):∀ {a:Nat}{b:a6.T a}{c:R},bA r a b c->bA x a b c
 |0,b,c,⟨h,y,k,ev,h1,o,p⟩=>⟨h,y,k,ev,h1,d _ _ o,p⟩
 |a+1,b,c,⟨h,z,k,ev,h1,o,p,C⟩=>⟨h,z,k,ev,h1,d _ _ o,p.mono λ_ _=>bA.gh d,C⟩
variable{f s e5:U}
def bA.mono(b:f.sub s){t:a6.T e}{a:R}(c:bA f e t a):bA s e t a:=c.gh (U.tg b)
theorem bA.cells{d:U}{a:Nat}{h:a6.T a}{b:R}(c:bA d a h b):α b.cells=1:=by
 cases a with
 |zero=>obtain⟨k,_,_,_,rfl,_⟩:=c;rfl
 |succ a=>obtain⟨k,_,_,_,rfl,_⟩:=c;rfl
theorem bA.ptr{c:U}{a:Nat}{k:a6.T a}{d:R}(h:bA c a k d):∃b o p,d=.ptr b 0/\c b=β (.cells [o,p]):=by
 cases a with
 |zero=>obtain⟨b,_,_,_,rfl,r,_⟩:=h;simp_all
 |succ a=>obtain⟨b,_,_,_,rfl,r,_⟩:=h;simp_all
theorem Fy{k:Type}:∀(a:Nat)(b:List k),a<=α b->∀d∈a6.fe a b,d≠[]
 |0,b,_,d,c=>by cases c
 |a+1,b,p,d,c=>by
  have r:=aaX (α b) (a+1);have hm:=aa7 (α b) (ack a);have x:1<=α b/(a+1):=(Nat.le_div_iff_mul_le (ack a)).2 acq;rw[a6.fe]at c;generalize (α b)/(a+1)=h at*;generalize (α b)%(a+1)=y at*;have z:(a+1)*h=a*h+h:=by rw[a9s];omega
  have C:a<=a*h:=abN _ acq;rcases a8E.1 c with rfl|c
  .intro o;have:=congrArg α o;grind
  .exact Fy a _ (by rw[a8z];split<;>omega) d c
def a1O(a:List b2):a6.chunks a=(χ (a6.bY (α a))).map λb=>(a.drop (b*(α a/a6.bY (α a))+min b (α a%a6.bY (α a)))).take (α a/a6.bY (α a)+if b<α a%a6.bY (α a) then 1 else 0):=a6.ER _ _
def fx(a b:Nat):Nat:=b*(a/a6.bY a)+min b (a%a6.bY a)
def zg(a:i<a6.bY e):fx e (i+1)=fx e i+(hi e).getD i 0:=by rw[zf a];unfold fx;rw[a9s];split<;>omega
def Fz(a:i<=a6.bY e):fx e i<=e:=by have:=aaX e (a6.bY e);have:=a8x (e/a6.bY e) a;unfold fx;omega
def vN{a:List b2}:(a6.chunks a).length=a6.bY (α a):=nV.1
def FA{a:List b2}(b:e<a6.bY (α a)):(a6.chunks a).take (e+1)=(a6.chunks a).take e++[(a.take (fx (α a) (e+1))).drop (fx (α a) e)]:=by rw[a9x,a1O,a8H,aao b,zg b,zf b,a9F];simp[fx]
def FB(a:i<a6.bY e):(iV (hi e))[i]?=β (.v (.int .i64 ((hi e).getD i 0:Nat))):=by simp[iV,vM,a]
def bA.c{a:List (a6.T e)}(b:aB (bA f e) a g):aW 1 g:=b.cells λ_ _=>bA.cells
def FC(a:List Τ)(o:Ψ)(G:Own)(p:U)(r:aB isRow a o)(L:α a<=1000):
  AC γ 192 [.J o G] p λP d=>p.sub d/\∃k x,P=.J k x/\aB (bA d 0) ((a6.chunks a).map a6.leaf) k:=by
 have s:=r.len;have t:=iU r;have u:=ze (a:=α a);have v:(iV (hi (α a))).length=a6.bY (α a):=vL.trans vM;refine aL hm QD ?_;refine cl (Fx (α a) L p) ?_;rintro _ S⟨T,w,rfl⟩;have A:fx (α a) 0=0:=by simp[fx]
 refine aa ?_;refine cd [0,5] (λb:Nat×Ψ×Own=>[(3,.J b.2.1 b.2.2),(4,.v (.int .i64 (fx (α a) b.1))),(6,.v (.int .i64 (b.1)))]) (λb d=>b.1<=a6.bY (α a)/\aB (bA d 0) (((a6.chunks a).take b.1).map a6.leaf) b.2.1/\bf S d 1 b.2.1 b.2.2) (λb=>a6.bY (α a) - b.1) (0,[],.nil) ⟨⟨acr,trivial,Ν η⟩,aR⟩ ?_;rintro⟨c,k,V⟩ W ⟨e,h,y⟩ B
 dsimp only at e h y|-
 have f:=h.len;rw[a8o,a8l,vN]at f;refine aa ?_;refine aG (λg=>?_) λg=>?_
 .have H:=zg (e:=α a) (i:=c) acq;have I:=Fz (e:=α a) (i:=c+1) acq;have K:=FB (e:=α a) (i:=c) acq;have i:=FA (a:=a) (e:=c) acq;have z:=(r.take (fx (α a) (c+1))).drop (fx (α a) c);generalize M:fx (α a) (c+1)=C at*;generalize fx (α a) c=D at*;generalize (hi (α a)).getD c 0=j at*;have N:(D)+(j)=(C:Int):=acq;refine ti (iU z) (λE l O=>?_);refine bp λF Q=>?_;have m:=rr (f:=W) (s:=l.set F (.cells [.J ((o.take C).drop D) E,.J [] .nil]));refine hx (y.mono m) (bA.c h) λ_ x d n q=>?_;refine⟨(c+1,_,x),⟨by simp only;omega,?_,n⟩,⟨rfl,by simp only;congr 3;omega,rfl⟩,by simp only;omega⟩;simp only[i,a9i];exact(h.mono λ_ _=>bA.gh eW).snoc ⟨F,_,E,.nil,rfl,q _ _ (μ _ _ _),z⟩
 .rw[Ο (by rw[vN];omega)]at h;exact⟨_,η,ο T y.sub,k,V,rfl,h⟩
theorem zh(z:U)(a:List (a6.T e))(r:Ψ)(P:Own)(k:U)(x:aB (bA z e) a r)(S:α a<=1000)(T:z.sub k):
  AC γ 193 [.J r P] k λV d=>k.sub d/\∃o y,V=.J o y/\aB (bA d (e+1)) ((a6.chunks a).map a6.node) o:=by
 have A:=x.len;have B:=bA.c x;have W:=ze (a:=α a);have H:(iV (hi (α a))).length=a6.bY (α a):=vL.trans vM;refine aL hm QF ?_;refine cl (Fx (α a) S k) ?_;rintro _ f⟨C,I,rfl⟩;have K:fx (α a) 0=0:=by simp[fx]
 refine aa ?_;refine cd [0,5] (λc:Nat×Ψ×Own=>[(3,.J c.2.1 c.2.2),(4,.v (.int .i64 (fx (α a) c.1))),(6,.v (.int .i64 (c.1)))]) (λc d=>c.1<=a6.bY (α a)/\aB (bA d (e+1)) (((a6.chunks a).take c.1).map a6.node) c.2.1/\bf f d 1 c.2.1 c.2.2) (λc=>a6.bY (α a) - c.1) (0,[],.nil) ⟨⟨acr,trivial,Ν η⟩,aR⟩ ?_;rintro⟨b,o,g⟩ i ⟨j,h,p⟩ M
 dsimp only at j h p|-
 have l:=h.len;rw[a8o,a8l,vN]at l;refine aa ?_;refine aG (λm=>?_) λm=>?_
 .have N:=zg (e:=α a) (i:=b) acq;have O:=Fz (e:=α a) (i:=b+1) acq;have Q:=FB (e:=α a) (i:=b) acq;have n:=FA (a:=a) (e:=b) acq;have q:(a.take (fx (α a) (b+1))).drop (fx (α a) b)≠[]:=Fy (a6.bY (α a)) a W _ (a8v (i:=b+1) (by grind[a6.chunks]));have D:=(x.take (fx (α a) (b+1))).drop (fx (α a) b);generalize X:fx (α a) (b+1)=E at*;generalize fx (α a) b=F at*;generalize (hi (α a)).getD b 0=s at*;have Y:(F)+(s)=(E:Int):=acq;refine ti (bA.c D) (λG t Z=>?_);refine bp λL k3=>?_;have u:=rr (f:=i) (s:=t.set L (.cells [.J [] .nil,.J ((r.take E).drop F) G]));have k4:=ο T (ο C p.sub);refine hx (p.mono u) (bA.c h) λ_ y d v w=>?_;refine⟨(b+1,_,y),⟨by simp only;omega,?_,v⟩,⟨rfl,by simp only;congr 3;omega,rfl⟩,by simp only;omega⟩;simp only[n,a9i];exact(h.mono λ_ _=>bA.gh eW).snoc ⟨L,_,G,.nil,rfl,w _ _ (μ _ _ _),D.mono λ_ _=>bA.gh eW,q,by simp[a6.fw];omega⟩
 .rw[Ο (by rw[vN];omega)]at h;exact⟨_,η,ο C p.sub,o,g,rfl,h⟩
end Go.Proofs.YtkafjfkjahgihaaGreat
namespace Go.a6
variable{lt:Row->Row->Bool}{ok:Row->Prop}
variable{e i v O e0 j6:Nat}{b2:Type}
def rO{a:List b2}{b:b2}(c:a[e]?=β b):a=a.take e++b::a.drop (e+1):=by obtain⟨d,rfl⟩:=a8p.1 c;simp
variable{h8:Row}
def vO(y:Ord lt ok)(z:ok h8){a:List (T e)}(C:a≠[])(k:∀b∈a,1<=len b/\lJ e b)(o:js lt (a.flatMap (bd e)))(p:∀c∈a.flatMap (bd e),ok c):
  ∃b,a[cU lt h8 (a.map (cQ e))]?=β b/\(∀c∈(a.take (cU lt h8 (a.map (cQ e)))).flatMap (bd e),lt c h8=ζ)/\(∀c∈(a.drop (cU lt h8 (a.map (cQ e))+1)).flatMap (bd e),lt h8 c=ζ):=by
 have D:a.map (cQ e)=(a.map (bd e)).map (·.headD []):=by rw[aae];rfl
 rw[abd]at o p;obtain⟨r,d,h⟩:=EX y z (a.map (bd e)) (by simpa using C) (λF E=>by
  obtain⟨b,x,rfl⟩:=a8D.1 E;exact yT (k b x).1 (k b x).2) o p
 rw[<-D]at r d h;rw[<-ab8,<-abd]at d;rw[<-aaV,<-abd]at h;exact⟨_,Μ (by simpa using r),d,h⟩
theorem rP(C:Ord lt ok)(P:ok h8):∀(a:Nat)(b:T a),kb a b->js lt (bd a b)->(∀d∈bd a b,ok d)->h8∉bd a b->
  (ff lt h8 a b).flatMap (bd a)=ec lt (bd a b) h8/\(∀c∈ff lt h8 a b,WF a c)/\1<=(ff lt h8 a b).length/\(ff lt h8 a b).length<=2:=by
 intro a
 induction a with
 |zero=>intro b D p o x;obtain⟨e,rfl⟩:=ik b;obtain⟨y,E,_,_⟩:=D;rw[il]at y E;obtain⟨F,G,c,_⟩:=EV (j5:=ec lt e h8) (by rw[p9];omega) (by rw[p9];omega);exact⟨ET _,F,by simpa[ff,rK] using G,by simpa[ff,rK] using c⟩
 |succ a ih=>
  intro b D p o x;obtain⟨h,rfl⟩:=gr b;obtain⟨y,E,f,L⟩:=D;rw[dR]at y E L;have L:=L acq;rw[fP]at p o x|-;have g:∀c∈h,WF a c:=f;obtain⟨c,r,S,V⟩:=vO C P (by intro i;subst i;simp at y) (λc r=>by grind[hd]) p o;simp only[ff,fw];generalize cU lt h8 (h.map (cQ a))=z at r S V;rw[r];have s:=rO r;have j:h.flatMap (bd a)=(h.take z).flatMap (bd a)++(bd a c++(h.drop (z+1)).flatMap (bd a)):=by grind
  rw[j]at p o x|-;have l:=(a9r.1 (a9r.1 p).2.1).1;obtain⟨m,t,u,v⟩:=ih c (kb.of (g c (a8r r))) l (λd k=>o d (by simp[k])) (λk=>x (by simp[k]));have W:(h.take z++ff lt h8 a c++h.drop (z+1)).length=α h - 1+(ff lt h8 a c).length:=by grind
  obtain⟨F,G,n,_⟩:=EW (by rw[W];omega) (by rw[W];omega) (λd k=>by
   grind)
  refine⟨?_,F,by simpa using G,by simpa using n⟩;simp only[];rw[EU,a9a,a9a,m,yU S,a0X,a8w];intro d k;cases q:lt d h8 with
  |false=>rfl
  |true=>have:=C.trans d h8 d (o d (by simp[k])) P (o d (by simp[k])) q (V d k);rw[C.kc]at this;cases this
theorem FD{a b:T e}(k:lJ e a)(o:lJ e b)(d:2<=len a+len b)(h:len a+len b<=5):
  (kO a b).flatMap (bd e)=bd e a++bd e b/\(∀c∈kO a b,WF e c)/\1<=(kO a b).length/\(kO a b).length<=2:=by
 cases e with
 |zero=>obtain⟨a,rfl⟩:=ik a;obtain⟨b,rfl⟩:=ik b;grind[il,EV,kO,rK,kN,ET]
 |succ e=>obtain⟨a,rfl⟩:=gr a;obtain⟨b,rfl⟩:=gr b;rw[dR,dR]at d h;obtain⟨r,x,y,_⟩:=EW (a:=a++b) (by simpa using d) (by simpa using h) (λc p=>(a8u.1 p).elim (k c) (o c));grind[kO,fw,fP,EU]
variable{j5:List Row}
theorem filter_none(b:h8∉j5):j5.filter (λa=>decide (a≠h8))=j5:=by rw[abq];grind
theorem a1P(b:js lt j5)(d:∀h8,lt h8 h8=θ):α j5 - 1<=(j5.filter λc=>decide (c≠h8)).length:=by
 induction j5 with
 |nil=>simp
 |cons a j5 ih=>
  have h:=a8R.1 b;by_cases c3:a=h8
  .subst c3;have:a∉j5:=λk=>by grind
   rw[abP acr,filter_none this];simp
  simp_all
theorem qm(E:Ord lt ok)(v:ok h8):∀(a:Nat)(d:T a),kb a d->js lt (bd a d)->(∀h∈bd a d,ok h)->
  bd a (cL lt h8 a d)=(bd a d).filter (λh=>decide (h≠h8))/\lJ a (cL lt h8 a d)/\len d - 1<=len (cL lt h8 a d)/\len (cL lt h8 a d)<=4:=by
 intro a
 induction a with
 |zero=>intro d P o r;obtain⟨Q,rfl⟩:=ik d;obtain⟨F,G,_,_⟩:=P;rw[il]at F G;simp only[cL,rK,kN,il]at o|-;exact⟨trivial,trivial,a1P o E.kc,by grind⟩
 |succ a ih=>
  intro d P o r;obtain⟨b,rfl⟩:=gr d;obtain⟨F,G,w,S⟩:=P;rw[dR]at F G S;have S:=S acq;rw[fP]at o r|-;have V:∀p∈b,WF a p:=w;obtain⟨p,x,i,j⟩:=vO E v (by intro y;subst y;simp at F) (λp x=>by grind[hd]) o r;simp only[cL,fw,dR];generalize cU lt h8 (b.map (cQ a))=c at x i j;rw[x];simp only[dR,fP];have X:=rO x;obtain⟨A,_⟩:=a8p.1 x;have B:b.flatMap (bd a)=(b.take c).flatMap (bd a)++(bd a p++(b.drop (c+1)).flatMap (bd a)):=by grind
  have Y:=o;have Z:=r;rw[B]at o r;have l:=V p (a8r x);have k3:=hd.1 l;obtain⟨H,L,I,m⟩:=ih p (kb.of l) (a9r.1 (a9r.1 o).2.1).1 (λh z=>r h (by simp[z]));generalize cL lt h8 a p=h at H L I m;have k4:=filter_none λz=>by
   have:=i h8 z;rw[E.kc]at this;cases this
  have k5:=filter_none λz=>by
   have:=j h8 z;rw[E.kc]at this;cases this
  have n:(b.flatMap (bd a)).filter (λh=>decide (h≠h8))=(b.take c).flatMap (bd a)++(bd a h++(b.drop (c+1)).flatMap (bd a)):=by grind
  rw[n];unfold lK;by_cases W:2<=len h
  .rw[if_pos W];have y:b.set c h=b.take c++h::b.drop (c+1):=by rw[a9t,if_pos A]
   refine⟨by grind,λq C=>?_,acr,by simpa using G⟩;rw[fw,y]at C;simp only[a8u,a8E]at C;rcases C with C|rfl|C;grind
   .exact hd.2 ⟨W,m,L⟩
   grind
  .rw[if_neg W];have k6:len h=1:=acq;by_cases e:c=0
   .subst e;have k:b[1]?=β b[1]:=Μ acq;simp only[if_true];rw[k];simp only[Nat.zero_sub,a9Y,a8y,a8J,aaR]at n|-;generalize b[1]=D at k;have f:=V D (a8r k);have g:=hd.1 f;obtain⟨s,K,q,y⟩:=FD L g.2.2 acq acq;have t:b.drop 1=D::b.drop 2:=by obtain⟨M,rfl⟩:=a8p.1 k;simp
    refine⟨by grind,λN u=>?_,acs,acs⟩;grind[fw,List.mem_of_mem_drop]
   .rw[if_neg e];have k:b[c - 1]?=β b[c - 1]:=Μ acq;rw[k];simp only[if_neg e];generalize b[c - 1]=D at k;have f:=V D (a8r k);have g:=hd.1 f;obtain⟨s,K,q,y⟩:=FD g.2.2 L acq acq;have t:b.take c=b.take (c - 1)++[D]:=by
     obtain⟨M,rfl⟩:=a8p.1 k
     conv=>lhs;rw[show c=c - 1+1 by omega]
     simp
    have O:c - 1+2=c+1:=acq;rw[O];refine⟨by rw[a9a,a9a,s,t,a9a];simp,λN u=>?_,acs,acs⟩;simp only[fw,a8u]at u;grind
end Go.a6
namespace Go.Proofs.YtkafjfkjahgihaaGreat
open Go Go.bD
abbrev dP:=Option ((a:Nat)×a6.T a)
def fF(c:U)(a:dP)(b:R):Prop:=
 match a with
 |none=>b=.v (.pointer ε)
 |some ⟨d,a⟩=>bA c d a b
def fF.gh{b c:U}(k:iI b c){a:dP}{d:R}(h:fF b a d):fF c a d:=by
 match a with
 |none=>exact h
 |some ⟨_,_⟩=>exact bA.gh k h
variable{e i v O e0 j6:Nat}
def qn:List (a6.T e)->dP
 |[]=>ε
 |[a]=>β ⟨e,a⟩
 |b=>β ⟨e+1,a6.node b⟩
variable{n b6:R}{f s e5:U}
def bA.fit{a:a6.T e}(b:bA f e a n):n.cells=[n]:=by obtain⟨_,_,_,rfl,_⟩:=b.ptr;rfl
variable{b2:Type}
def a1Q{a:List b2}(b:α a=1):∃c,a=[c]:=aac.1 b
theorem a1R(c:List (a6.T e))(x:Ψ)(E:Own)(p:U)(F:aB (bA p e) c x)(G:α c<=4):
  AC γ 142 [.J x E] p λL h=>p.sub h/\fF h (qn c) L:=by
 refine aL hm Pd ?_;refine cd [] (λd:Ψ×Own=>[(0,.J d.1 d.2)]) (λd h=>p.sub h/\(aB (bA h e) c d.1\/2<=α c/\∃a,d.1=[a]/\bA h (e+1) (a6.node c) a)) (λd=>α d.1) (x,E) ⟨⟨η,.inl F⟩,aR⟩ ?_;rintro⟨r,P⟩ y ⟨z,b⟩ g
 dsimp only at b|-
 refine aa ?_;refine aG (λk=>?_) λk=>?_
 .rcases b with b|⟨_,a,rfl,_⟩
  .have i:=b.len;refine cl (zh y c r P y b acq η) ?_;rintro _ j⟨S,l,T,rfl,C⟩;rw[a6.qi acq G]at C;obtain⟨a,rfl⟩:=a1Q C.len;refine aa ?_;exact⟨([a],T),⟨ο z S,.inr ⟨acq,a,rfl,C.1⟩⟩,rfl,acs⟩
  .simp at k
 .have V:(r=[]/\c=[])\/∃a,r=[a]/\fF y (qn c) a:=by
   rcases b with b|⟨W,a,rfl,b⟩
   .match c,r,b,k with
    |[],[],_,_=>simp
    |[m],[a],b,_=>exact .inr ⟨a,rfl,b.1⟩
    |_:: _:: _,_:: _:: _,_,k=>simp at k;omega
   .match c,W with
    |_:: _:: _,_=>exact .inr ⟨a,rfl,b⟩
  clear b;rcases V with⟨rfl,rfl⟩|⟨a,rfl,o⟩
  .refine aa ?_;exact⟨_,η,z,rfl⟩
  .have f:(∃D,a=.ptr D 0)\/a=.v (.pointer ε):=by
    unfold fF at o;split at o
    .exact .inr o
    .obtain⟨D,_,_,n,_⟩:=o.ptr;simp_all
   rcases f with⟨D,rfl⟩|rfl
   all_goals refine aa ?_;exact⟨_,η,z,o⟩
theorem zi:∀(b:Nat)(d:a6.T b)(T:R)(p:U),bA p b d T->(a6.bd b d).length<=100000->
  AC γ 136 [T] p λW F=>p.sub F/\∃h G,W=.J h G/\aB isRow (a6.bd b d) h:=by
 intro b
 induction b with
 |zero=>rintro d _ p⟨e,h,G,f,rfl,k,o⟩L;have P:=ι k;have g:=o.len;have w:(a6.rows d).length<=100000:=L;refine aL hm xO ?_;refine ti (iU o) λC i D=>?_;have P:=rd D.sub k;refine gX [0] (λc:Nat=>[(3,.J h C),(4,.v (.int .i64 (c)))]) (λc=>c=0) (λ_=>0) 0 rfl aR ?_;rintro _ rfl j;refine aa ?_;exact⟨D.sub,h,C,rfl,o⟩
 |succ b ih=>
  rintro d _ p⟨e,A,G,f,rfl,k,o,B,l⟩L;obtain⟨r,rfl⟩:=a6.gr d;rw[a6.fw]at o l;rw[a6.fP]at L|-;have P:=ι k;have g:=o.len;refine aL hm xO ?_;refine ti DT λC i D=>?_;refine cd [0] (λa:Nat×Ψ×Own=>[(3,.J a.2.1 a.2.2),(4,.v (.int .i64 (a.1)))]) (λa F=>a.1<=α r/\aB isRow ((r.take a.1).flatMap (a6.bd b)) a.2.1/\bf p F 1 a.2.1 a.2.2) (λa=>α r - a.1) (0,[],C) ⟨⟨acr,trivial,D⟩,aR⟩ ?_;rintro⟨c,h,m⟩ n ⟨y,x,z⟩ j
  dsimp only at y x z|-
  have P:=rd z.sub k;refine aa ?_;refine aG (λE=>?_) λE=>?_
  .have y:c<α r:=acq;obtain⟨H,aL,V⟩:=o.get (Μ y);have q:=a6.rO (Μ y);have s:=a9w y;have t:=bA.mono z.sub V;obtain⟨I,_,_,rfl,_⟩:=V.ptr;generalize r[c]=E at*;have K:((r.take c).flatMap (a6.bd b)).length+(a6.bd b E).length<=100000:=by grind
   clear q;have M:=x.len;refine cl (ih E _ n t acq) ?_;rintro _ N⟨u,O,Q,rfl,S⟩;have X:=S.len;refine kK (z.mono u) (iU x) (iU S) λv Y k _=>?_;refine⟨(c+1,_,v),⟨by simp only;omega,?_,k⟩,⟨rfl,rfl⟩,by simp only;omega⟩;simp only[s,a9a,a8I,aaR,a9p];exact x.append S
  .rw[Ο acq]at x;exact⟨z.sub,h,m,rfl,x⟩
def a1S(a:U):AC γ 136 [.v (.pointer ε)] a λb c=>c=a/\b=.J [] .nil:=by refine aL hm xO ?_;trivial
def a1T(a:Nat)(b:a6.T a)(d:R)(c:U)(r:bA c a b d)(x:(a6.bd a b).length<=100000)(y:a6.bd a b≠[]):
  AC γ 258 [d] c λh z=>c.sub z/\∃k,h=.J (af (a6.cQ a b)) k:=by
 refine aL hm Sg ?_;refine cl (zi a b d c r x) ?_;rintro _ C⟨D,E,k,rfl,o⟩;unfold a6.cQ;cases p:a6.bd a b with
 |nil=>exact absurd p y
 |cons F h=>rw[p]at o;obtain⟨G,aL,L,rfl⟩:=o.get (i:=0) rfl;refine aa ?_;simp
theorem zj(b:List Τ)(k:Ψ)(x o:Own)(c:Τ)(d:U)(p:aB isRow b k)(E:α b<=100000)(F:∀h∈b,α h<=1000):
  AC γ 135 [.J k x,.J (af c) o] d λh y=>y=d/\h=.v (.bool (decide (c∈b))):=by
 have G:=p.len;refine aL hm P1 ?_;refine gX [0,1] (λa:Nat=>[(5,.v (.int .i64 (a)))]) (λa=>a<=α b/\∀r<a,b.getD r []≠c) (λa=>α b - a) 0 ⟨acq,λr L=>by omega⟩ aR ?_;rintro a⟨P,z⟩S;refine aa ?_;refine aG (λC=>?_) λC=>?_
 .obtain⟨_,T,D,rfl⟩:=p.at [] (e:=a) acq;refine nG (tL (b.getD a []) c D o d (by grind)) ?_;refine aG (λc2=>?_) λc2=>?_
  .exact aO (by grind)
  .exact⟨a+1,⟨acq,upto z c2⟩,rfl,acq⟩
 grind[aO,List.getElem_of_mem,List.getD]
def gR(a:Τ->Τ->Bool)(b:Τ):Nat->Nat->List Τ->Nat
 |_,at_,[]=>at_
 |c,at_,d::bI=>gR a b (c+1) (if a b d=ζ then at_ else c) bI
def FE{d:Τ->Τ->Bool}{h:Τ}:∀(b:List Τ)(k c:Nat),(∀a∈b,d h a=ζ)->gR d h k c b=c
 |[],_,_,_=>rfl
 |a::b,k,c,o=>by
  rw[gR,if_pos (o a acr)];exact FE b _ _ λa p=>o a (by simp[p])
theorem FF{a:Τ->Τ->Bool}{b:Τ}:∀(c:List Τ)(k:Τ)(d:Nat),c.Pairwise (λo p=>a b o=ζ->a b p=ζ)->gR a b (d+1) d c=d+a6.cU a b (k::c)
 |[],k,d,_=>rfl
 |h::c,k,d,r=>by
  have x:=a8R.1 r;rw[gR];have y:a6.cU a b (k::h::c)=if a b h=ζ then 0 else a6.cU a b (h::c)+1:=rfl;rw[y];by_cases hk:a b h=ζ;simp_all [FE]
  .rw[if_neg hk,if_neg hk,FF c h (d+1) x.2];omega
variable{X:List Τ}{t b8:Τ}
theorem a1U{a:Τ->Τ->Bool}(d:X.Pairwise (λb c=>a t b=ζ->a t c=ζ)):gR a t 0 0 X=a6.cU a t X:=by
 cases X with
 |nil=>rfl
 |cons h X=>grind[gR,FF,List.pairwise_cons]
def FG{k o:Τ->Τ->Bool}{c:Τ}:∀(b:List Τ)(d h:Nat),(∀a∈b,k c a=o c a)->gR k c d h b=gR o c d h b
 |[],_,_,_=>rfl
 |a::b,d,h,p=>by
  rw[gR,gR,p a acr];exact FG b _ _ λa r=>p a (by simp[r])
def FH{d:Τ->Τ->Bool}{h k:Τ}:∀(a:List Τ)(b c:Nat),gR d h b c (a++[k])=if d h k=ζ then gR d h b c a else b+α a
 |[],b,c=>by rfl
 |o::a,b,c=>by
  rw[a9v,gR,FH a,gR,a8m];split<;>omega
theorem FI(b:List (a6.T e))(y:R)(c:Τ)(z:Own)(h:U)(E:bA h (e+1) (a6.node b) y)(F:α c<=1000)(G:∀d∈b,(a6.bd e d).length<=100000/\a6.bd e d≠[]/\(a6.cQ e d).length<=1000):
  AC γ 191 [y,.J (af c) z] h λL o=>h.sub o/\L=.v (.int .i64 (gR kS c 0 0 (b.map (a6.cQ e)):Int)):=by
 obtain⟨j,l,m,n,rfl,P,p,_,S⟩:=E;rw[a6.fw]at p S;have q:=p.len;have s:gR kS c 0 0 []=0:=rfl;refine aL hm QB ?_;refine cd [0,1] (λa:Nat=>[(5,.v (.int .i64 (gR kS c 0 0 ((b.map (a6.cQ e)).take a)))),(6,.v (.int .i64 (a)))]) (λa o=>a<=α b/\h.sub o) (λa=>α b - a) 0 ⟨⟨acq,η⟩,aR⟩ ?_;rintro a T⟨k,r⟩t;have u:=rd r P;refine aa ?_;refine aG (λd=>?_) λd=>?_
 .have k:a<α b:=acq;have V:=FH (d:=kS) (h:=c) (k:=a6.cQ e b[a]) ((b.map (a6.cQ e)).take a) 0 0;rw[a8l,a8o,a9T acq,show(b.map (a6.cQ e)).take a++[a6.cQ e b[a]]=(b.map (a6.cQ e)).take (a+1) by simp[a9w,k]]at V;have x:=G _ (a8L k);obtain⟨v,aL,C⟩:=p.get (Μ k);obtain⟨w,_,_,rfl,_⟩:=C.ptr;generalize b[a]=D at*;refine cl (a1T e D _ T (bA.mono r C) x.1 x.2.1) ?_;rintro _ W⟨f,g,rfl⟩;refine cl (Fo c (a6.cQ e D) z g W F x.2.2) ?_;rintro _ A⟨i,rfl⟩;have B:=ο r (ο f i);refine aa ?_;refine aG (λc2=>?_) λc2=>?_;grind;grind
 .rw[Ο (by rw[a8o];omega)]
theorem a1V{b c:Τ->Τ->Bool}(d:∀a∈X,b a t=c a t):a6.ec b X t=a6.ec c X t:=by
 unfold a6.ec;have r:∀X:List Τ,(∀a∈X,b a t=c a t)->X.takeWhile (λa=>b a t)=X.takeWhile (λa=>c a t)/\X.dropWhile (λa=>b a t)=X.dropWhile (λa=>c a t):=by
  intro X
  induction X with
  |nil=>intro _;trivial
  |cons h X ih=>intro d;obtain⟨k,o⟩:=ih λa p=>d a (by simp[p]);simp only[a9G,aaE,d h acr];rw[k,o];trivial
 simp_all
structure GT(d h:Nat)(t:a6.T h):Prop where
 wf:a6.kb h t
 ej:a6.js bF (a6.bd h t)
 ok:∀x∈a6.bd h t,bU d x
 dQ:(a6.bd h t).length<=1000
def zk{a:a6.T e}(b:a6.bd e a≠[]):a6.cQ e a∈a6.bd e a:=by
 unfold a6.cQ;cases c:a6.bd e a with
 |nil=>trivial
 |cons d h=>simp
structure a1W(d:Nat){h:Nat}(bI:List (a6.T h))(p:Τ):Prop where
 ne:bI≠[]
 two:2<=α bI/\α bI<=4
 gv:∀c∈bI,GT d h c/\a6.WF h c/\a6.bd h c≠[]/\bU d (a6.cQ h c)
 FJ:gR kS p 0 0 (bI.map (a6.cQ h))=a6.cU bF p (bI.map (a6.cQ h))
 at_:∃c,bI[a6.cU bF p (bI.map (a6.cQ h))]?=β c
theorem GT.kids(x:1<=e)(y:e<=8){d:List (a6.T i)}(p:GT e (i+1) (a6.node d))(z:bU e t):a1W e d t:=by
 obtain⟨D,E,T,r⟩:=p.wf;rw[a6.dR]at D E r;have r:=r acq;have V:∀a∈d,a6.WF i a:=T;have h:=p.ej;have k:=p.ok;have F:=p.dQ;rw[a6.fP]at h k F;have o:d≠[]:=by intro W;subst W;simp at D
 have c:∀a∈d,GT e i a/\a6.WF i a/\a6.bd i a≠[]/\bU e (a6.cQ i a):=by intro a b;have C:=V a b;have f:=a6.hd.1 C;have o:=a6.yT acq f.2.2;obtain⟨v,w,g⟩:=aav b;rw[g,a9a,a8I]at h k F;have j:=(a9r.1 (a9r.1 h).2.1).1;refine⟨⟨a6.kb.of C,j,λl m=>k l (by simp[m]),by grind⟩,C,o,k _ (by simp[zk o])⟩
 refine⟨o,⟨r,E⟩,c,?_,?_⟩
 .rw[FG _ _ _ λA n=>by
   obtain⟨a,b,rfl⟩:=a8D.1 n;exact Ft x y z (c a b).2.2.2]
  refine a1U ?_;rw[aaz];have q:=(List.pairwise_flatMap.1 h).2;refine abL (λ{G L} P S s=>?_) q;intro u;exact(gx x y).trans t _ _ z (c G P).2.2.2 (c L S).2.2.2 u (s _ (zk (c G P).2.2.1) _ (zk (c L S).2.2.1))
 .obtain⟨a,b,_⟩:=a6.vO (gx x y) z o (λa b=>by grind[a6.hd]) h k;exact⟨a,b⟩
theorem a1X(P:1<=e)(S:e<=8)(b:Τ)(T:Own)(D:bU e b):∀(a:Nat)(d:a6.T a)(E:R)(k:U),bA k a d E->GT e a d->b∉a6.bd a d->
  AC γ 143 [E,.J (af b) T] k λV i=>k.sub i/\∃x F,V=.J x F/\aB (bA i a) (a6.ff bF b a d) x:=by
 have n0:=D.len;intro a
 induction a with
 |zero=>rintro d _ k⟨j,M,F,N,rfl,y,c⟩G l;obtain⟨O,rfl⟩:=a6.ik d;rw[a6.rK]at c;obtain⟨_,Q,_,_⟩:=G.wf;have W:=G.ok;rw[a6.il]at Q;rw[a6.kN]at W;have m:=ι y;refine aL hm CL ?_;refine cl (a1N O M F T b k c acq (λV X=>by have:=(W V X).len;omega) acq) ?_;rintro _ n⟨z,Y,Z,rfl,q⟩;rw[a1V (c:=bF) λk3 s=>Ft P S (W k3 s) D]at q;refine cl (FC _ Y Z n q (by rw[a6.p9];omega)) ?_;rintro _ n1⟨k4,x,k5,rfl,L⟩;refine aa ?_;exact⟨_,η,ο z k4,x,k5,rfl,L⟩
 |succ a ih=>
  intro d E k L G l;obtain⟨h,rfl⟩:=a6.gr d;have C:=G.kids P S D;have t:=FI h E b T k L acq λo p=>by
   obtain⟨r,_,n2,k6⟩:=C.gv o p;have:=r.dQ;have:=k6.len;grind
  obtain⟨j,n3,F,N,rfl,y,c,_,_⟩:=L;rw[a6.fw]at c;have n4:=c.len;obtain⟨n5,n9⟩:=C.two;have a00:¬(α h:Int)=0:=acq;have m:=ι y;obtain⟨o,p⟩:=C.at_;have u:a6.ff bF b (a+1) (a6.node h)=(a6.chunks (h.take (a6.cU bF b (h.map (a6.cQ a)))++a6.ff bF b a o++h.drop (a6.cU bF b (h.map (a6.cQ a))+1))).map a6.node:=by simp only[a6.ff,a6.fw];rw[p]
  rw[u];rw[C.FJ]at t;clear u;generalize a6.cU bF b (h.map (a6.cQ a))=v at*;have a01:=(a8p.1 p).1;obtain⟨r,_,_,_⟩:=C.gv o (a8r p);have w:b∉a6.bd a o:=λs=>l (by rw[a6.fP];grind);obtain⟨_,_,a02,a03⟩:=a6.rP (gx P S) D a o r.wf r.ej r.ok w;have a04:=bA.c c;obtain⟨_,a05,A⟩:=c.get p;obtain⟨a06,_,_,rfl,_⟩:=A.ptr;refine aL hm CL ?_;refine cl t ?_;rintro _ n⟨z,rfl⟩;have m:=rd z y;have f:=c.take v;refine ti (bA.c f) λa07 k7 B=>?_;have a08:=rd (ο z B.sub) y;refine cl (ih o _ k7 (A.gh eW) r w) ?_;rintro _ a09⟨k8,x,a10,rfl,g⟩;have a11:=g.len;refine kK (B.mono k8) (bA.c f) (bA.c g) (λa13 k9 l0 l1=>?_);have a14:k9.read j= _:=ι dB;have H:=(f.mono λ_ _ a=>bA.gh (eW) a).append (g.mono λ_ _=>bA.gh l1);have I:=c.drop (v+1);refine kK l0 (bA.c H) (bA.c I) (λl2 K l3 l4=>?_);have l5:=(H.mono λ_ _=>bA.gh l4).append (I.mono λ_ _ a=>bA.gh (eW) a);refine cl (zh K _ _ l2 K l5 (by grind) η) ?_;rintro _ a15⟨l6,l7,l8,rfl,l9⟩;refine aa ?_;exact⟨_,η,ο z (ο l3.sub l6),l7,l8,rfl,l9⟩
def ek:dP->List Τ
 |none=>[]
 |some ⟨a,b⟩=>a6.bd a b
def hj(a:Nat):dP->Prop
 |none=>True
 |some ⟨b,c⟩=>GT a b c
def kT(a:dP)(b:Τ):dP:=
 match a with
 |none=>β ⟨0,a6.leaf [b]⟩
 |some ⟨c,a⟩=>if b∈a6.bd c a then β ⟨c,a⟩else qn (a6.ff bF b c a)
def a1Y(z:1<=e)(C:e<=8)(c:Τ)(k:Own)(D:bU e c)(a:dP)(E:R)(o:U)(d:fF o a E)(S:hj e a):
  AC γ 70 [E,.J (af c) k] o λp F=>o.sub F/\∃G r,p=.aJ [G,.v (.bool r)]/\fF F (kT a c) G:=by
 match a with
 |none=>obtain rfl:=d;refine aL hm CE ?_;refine dD η (by simp[aW,ρ]) λT v V=>?_;refine aa ?_;refine bp λL W=>?_;exact⟨_,η,ο V.sub (κ η W),_,_,rfl,L,_,T,.nil,rfl,μ _ _ _,⟨k,rfl⟩,trivial⟩
 |some ⟨x,a⟩=>
  obtain⟨r,L,w,rfl,A⟩:=bA.ptr d;have b:GT e x a:=S;have B:=b.dQ;refine aL hm CE ?_;refine cl (zi x a (.ptr r 0) o d acq) ?_;rintro _ P⟨y,f,g,rfl,i⟩;refine nG (zj _ f g k c P i acq λp j=>by have:=(b.ok p j).len;omega) ?_;refine aG (λh=>?_) λh=>?_
  .refine⟨_,η,y,_,_,rfl,?_⟩;simp only[kT,if_pos h];exact bA.mono y d
  .refine cl (a1X z C c k D x a (.ptr r 0) P (bA.mono y d) b h) ?_;rintro _ l⟨m,n,q,rfl,s⟩;obtain⟨_,_,H,I⟩:=a6.rP (gx z C) D x a b.wf b.ej b.ok h;refine cl (a1R _ n q l s acq) ?_;rintro p K⟨t,u⟩;refine aa ?_;refine⟨_,η,ο y (ο m t),_,_,rfl,?_⟩;simp only[kT,if_neg h];exact u
structure hl(d:Nat)(b:Τ×Τ):Prop where
 ok:cS b.1 b.2 d=ζ
 aV:dm b.1
 aU:dm b.2
theorem lN:cS t b8 e=ζ↔1<=e/\e<=8/\α t=e/\α b8=e/\∀a,a<e->t.getD a 0<=b8.getD a 0:=by unfold cS;grind
theorem FK{b:Int->Int->Int}(h:∀a c,b a c=a\/b a c=c)(k:dm t)(o:dm b8):dm (φ b t b8):=by intro a d;obtain⟨p,r,rfl⟩:=a8S d;grind[List.length_zipWith,List.getElem_mem]
theorem FL{a:Int->Int->Int}(b:e<α t)(c:e<α b8):(φ a t b8).getD e 0=a (t.getD e 0) (b8.getD e 0):=by grind
theorem zl{d h:Τ×Τ}(a:hl e d)(b:hl e h):hl e (cT d h):=by
 have c:=lN.1 a.ok;have k:=lN.1 b.ok;unfold cT;rw[c.2.2.1,k.2.2.1,if_pos a.ok,if_pos b.ok,if_pos rfl];refine⟨lN.2 ⟨c.1,c.2.1,by simp_all,by simp_all,λr x=>?_⟩,?_,?_⟩;grind
 .exact FK (λo p=>by omega) a.aV b.aV
 .exact FK (λo p=>by omega) a.aU b.aU
theorem qo{a:Τ×Τ}(b:hl e a):cT ([],[]) a=a:=by have c:=lN.1 b.ok;unfold cT;have:cS ([]) [] ([]:Τ).length=false:=rfl;rw[if_neg (by rw[this];simp),c.2.2.1,if_pos b.ok]
theorem a1Z:cT ([],[]) ([],[])=(([],[]):Τ×Τ):=rfl
theorem FM{a:Τ×Τ}(b:hl e a):cT a ([],[])=a:=by have c:=lN.1 b.ok;have d:cS ([]) [] ([]:Τ).length=false:=rfl;unfold cT;rw[c.2.2.1,if_pos b.ok,if_neg (by rw[d];simp)]
def ju(d:Nat)(b:Τ×Τ)(c:Τ):Prop:=∀a,a<d->b.1.getD a 0<=c.getD a 0/\c.getD a 0<=b.2.getD a 0
def FN{a b:Τ×Τ}(h:hl e a)(k:hl e b)(c:ju e a t\/ju e b t):ju e (cT a b) t:=by
 have o:=lN.1 h.ok;have p:=lN.1 k.ok;unfold cT;rw[o.2.2.1,p.2.2.1,if_pos h.ok,if_pos k.ok,if_pos rfl];intro d r;have x:=FL (a:=min) (t:=a.1) (b8:=b.1) (e:=d) acq acq;have y:=FL (a:=max) (t:=a.2) (b8:=b.2) (e:=d) acq acq
 dsimp only
 rw[x,y];rcases c with c|c<;>have:=c d r<;>omega
def zm(c:1<=e)(d:e<=8)(a:bU e t):hl e (gp t):=by have b:=a.len;unfold gp;rw[if_pos acq];exact⟨lN.2 ⟨c,d,b,b,λ_ _=>abU _⟩,a.kh,a.kh⟩
structure mP(d:Nat)(n:Nat)(y:gM):Prop where
 live:y.live=n
 aS:(n=0/\y.aS=([],[]))\/(0<n/\hl d y.aS)
theorem FO{h:Nat}(o:1<=h)(p:h<=8):∀(b:List Τ)(c:Nat)(a:gM),(∀d∈b,bU h d)->mP h c a->mP h (c+α b) ((b.map λd=>(d,ζ)).foldl ea a)
 |[],c,a,_,k=>by trivial
 |d::b,c,a,r,k=>by
  rw[a8C,a9e,a8m,show c+(α b+1)=(c+1)+α b by omega];refine FO o p b (c+1) _ (λy z=>r y (by simp[z])) ?_;have C:=zm o p (r d acr);rw[ea,if_pos rfl];refine⟨by rw[show(({a with live:=a.live+1,aS:=cT a.aS (gp d)}:gM)).live=a.live+1 from rfl,k.live];omega,.inr ⟨acq,?_⟩⟩;rcases k.aS with⟨_,x⟩|⟨_,x⟩;grind[cT,gp,qo]
  .exact zl x C
structure jv(d n:Nat)(k:au):Prop where
 sum:α k.sum=32
 live:k.live=n
 size:k.size=n
 pos:1<=n
 aS:hl d (k.aV,k.aU)
 key:bU d k.key
def FP{k:Nat}:∀(a:List (au×Nat))(b:Nat)(d:gM),(∀c∈a,jv k c.2 c.1)->mP k b d->mP k (b+(a.map Prod.snd).sum) ((a.map Α).foldl eA d)
 |[],b,d,_,o=>by trivial
 |(c,h)::a,b,d,y,o=>by
  have p:=y (c,h) acr;simp only[a8C,a9e,a9D];rw[show b+(h+(a.map Prod.snd).sum)=(b+h)+(a.map Prod.snd).sum by omega];refine FP a (b+h) _ (λz C=>y z (by simp[C])) ?_;have r:=p.aS;have D:=p.pos;refine⟨?_,.inr ⟨by have:1<=h:=D;omega,?_⟩⟩
  .show d.live+c.live= _;rw[o.live,p.live];push_cast;rfl
  .show hl k (cT d.aS (c.aV,c.aU));rcases o.aS with⟨_,x⟩|⟨_,x⟩
   .rw[x,qo r];exact r
   .exact zl x r
def bQ:(a:Nat)->a6.T a->au
 |0,b=>dF (dO (a6.rows b))
 |a+1,b=>dF (ew ((a6.kids b).map (bQ a)))
def dH:(a:Nat)->a6.T a->c4
 |0,b=>dO (a6.rows b)
 |a+1,b=>ew ((a6.kids b).map (bQ a))
def tO:∀ {a:Nat}{b:a6.T a},bQ a b=dF (dH a b)
 |0,_=>rfl
 |_+1,_=>rfl
def a2a:dH 0 (a6.leaf X)=dO X:=rfl
def zn{a:List (a6.T e)}:dH (e+1) (a6.node a)=ew (a.map (bQ e)):=rfl
structure dI(d h:Nat)(t:a6.T h):Prop where
 wf:a6.kb h t
 ok:∀x∈a6.bd h t,bU d x
 dQ:(a6.bd h t).length<=1048576
def GT.iW{b:a6.T e}(a:GT i e b):dI i e b:=⟨a.wf,a.ok,by have:=a.dQ;omega⟩
theorem dI.gv{d:List (a6.T e)}(b:dI i (e+1) (a6.node d)):∀a∈d,dI i e a/\a6.WF e a:=by obtain⟨z,C,p,D⟩:=b.wf;have c:=b.ok;have h:=b.dQ;rw[a6.fP]at c h;intro a k;have o:=p a k;obtain⟨E,F,r⟩:=aav k;rw[r,a9a,a8I]at c h;exact⟨⟨a6.kb.of o,λx y=>c x (by simp[y]),by grind⟩,o⟩
def dI.ne{a:a6.T e}(b:dI i e a):a6.bd e a≠[]:=a6.yT b.wf.1 b.wf.2.2.1
structure zo(d n:Nat)(x:c4):Prop where
 zp:x.In d
 kU:jv d n (dF x)
 pd:fL d x=β (dF x)
variable{A j9:au}
def jv.ne(a:jv e i A):A≠aw:=by rintro rfl;have:=a.size;have:=a.pos;simp[aw]at*;omega
theorem jv.ok{b c:Nat}{d:au}(a:jv b c d)(h:c<=1048576):fb b d=true:=by have k:=a.size;have o:=a.live;have p:=a.pos;unfold fb;rw[decide_eq_false a.ne,acb,Ξ];refine⟨acs,?_⟩;rw[if_neg acq];exact a.aS.ok
def jv.kU(a:jv e i A)(c:i<=1048576):A.In e:=by have d:=a.size;have h:=a.live;have k:=a.pos;have b:=lN.1 a.aS.ok;have o:α A.aV=e:=b.2.2.1;have p:α A.aU=e:=b.2.2.2.1;have r:=a.key.len;exact⟨a.sum,a.aS.aV,a.aS.aU,a.key.kh,acq,acq,acq,acq,acq,acq,acq⟩
theorem vP(o:1<=e)(p:e<=8)(c:1<=α X)(r:α X<=4)(b:∀a∈X,bU e a):zo e (α X) (dO X):=by
 have x:dZ e (dO X)=true:=by unfold dZ dO;simp only[acm,a8o,List.all_nil,aca,a8s,decide_true,Ξ,a8A,decide_eq_true_eq,Function.comp];refine⟨λa d=>(b a d).len,?_⟩;simp[c,r]
 have h:=FO o p X 0 ⟨0,(dO X).rows.length,([],[])⟩ b ⟨rfl,.inl ⟨rfl,rfl⟩⟩;have y:eJ (dO X)=(X.map λa=>(a,ζ)).foldl ea ⟨0,(dO X).rows.length,([],[])⟩:=rfl;rw[<-y,a8J]at h;have z:(eJ (dO X)).size=α X:=by rw[za];simp[dO]
 have C:hl e (eJ (dO X)).aS:=by
  rcases h.aS with⟨k,_⟩|⟨_,k⟩
  .omega
  .exact k
 refine⟨⟨x,λa d=>?_,λF G=>by trivial⟩,⟨p4 _,h.live,z,c,C,?_⟩,?_⟩
 .obtain⟨D,E,rfl⟩:=a8D.1 d;exact(b D E).kh
 .show bU e (keyOf (dO X))
  match X,c with
  |a::X,_=>exact b a acr
 .unfold fL;grind
def a2b:(dF (dO X)).key=X.headD []:=by show keyOf (dO X)= _;cases X<;>rfl
theorem a2c{a:List (au×Nat)}(o:2<=α a)(z:α a<=4)(c:∀b∈a,jv e b.2 b.1)(p:(a.map Prod.snd).sum=i)(L:i<=1048576):zo e i (ew (a.map Α)):=by
 have r:∀b∈a,b.2<=i:=λb c=>by
  rw[<-p];obtain⟨P,S,rfl⟩:=aav c;simp;omega
 have C:dZ e (ew (a.map Α))=true:=by unfold dZ ew;simp only[acm,a8o,List.all_nil,a9N,a8s,decide_true,Ξ,a8A,Function.comp];refine⟨λb d=>(c b d).ok (by have:=r b d;omega),?_⟩;simp[o,z];exact λT V d=>⟨(c _ d).key.len,(c _ d).ne⟩
 have x:=FP a 0 ⟨0,0,([],[])⟩ c ⟨rfl,.inl ⟨rfl,rfl⟩⟩;have D:eJ (ew (a.map Α))=(a.map Α).foldl eA ⟨0,0,([],[])⟩:=rfl;rw[<-D,a8J,p]at x;have E:1<=i:=by
  match a,o with
  |b::a,_=>have:=(c b acr).pos;have:=r b acr;omega
 have F:(eJ (ew (a.map Α))).size=i:=by
  rw[za,<-p];have:∀(a:List (au×Nat)),(∀b∈a,jv e b.2 b.1)->(((a.map Α).map (·.size)).sum:Int)=(((a.map Prod.snd).sum:Nat):Int):=by
   intro a
   induction a with
   |nil=>intro _;rfl
   |cons b a ih=>intro d;simp only[a8C,a9D];rw[ih λh k=>d h (by simp[k]),(d b acr).size];push_cast;rfl
  simp only[ew,a8s];rw[this a c];simp
 have G:hl e (eJ (ew (a.map Α))).aS:=by
  rcases x.aS with⟨y,_⟩|⟨_,y⟩
  .omega
  .exact y
 refine⟨⟨C,λW f=>by trivial,λb d=>?_⟩,⟨p4 _,x.live,F,E,G,?_⟩,?_⟩
 .obtain⟨h,k,rfl⟩:=a8D.1 d;exact(c h k).kU (by have:=r h k;omega)
 .show bU e (keyOf (ew (a.map Α)))
  match a,o with
  |b::a,_=>exact(c b acr).key
 .unfold fL;grind
def o0{r:Nat}(y:1<=r)(z:r<=8):∀(a:Nat)(c:a6.T a),dI r a c->zo r (a6.bd a c).length (dH a c)/\(bQ a c).key=a6.cQ a c
 |0,c,d=>by
  obtain⟨E,rfl⟩:=a6.ik c;obtain⟨x,k,_⟩:=d.wf;rw[a6.il]at x k;have C:=d.ok;rw[a6.kN]at C;exact⟨vP y z x k C,a2b⟩
 |a+1,c,d=>by
  obtain⟨h,rfl⟩:=a6.gr c;obtain⟨x,k,S,o⟩:=d.wf;rw[a6.dR]at x k o;have o:=o acq;have D:=d.gv;have F:=d.dQ;have ih:=λb p=>o0 y z a b (D b p).1;have G:(h.map λb=>(bQ a b,(a6.bd a b).length)).map Α=h.map (bQ a):=by rw[aae];rfl
  have L:((h.map λb=>(bQ a b,(a6.bd a b).length)).map Prod.snd).sum=(a6.bd (a+1) (a6.node h)).length:=by rw[aae,a6.fP,List.length_flatMap];rfl
  have:=a2c (by simpa using o) (by simpa using k) (λT P=>by
   obtain⟨b,p,rfl⟩:=a8D.1 P;simp only[tO];exact(ih b p).1.kU) L F
  rw[G]at this;refine⟨this,?_⟩
  match h,o with
  |b::h,_=>
   show(bQ a b).key= _;have p:=ih b acr;rw[p.2];unfold a6.cQ;rw[a6.fP,a8I];have:=(D b acr).1.ne;cases V:a6.bd a b with
   |nil=>trivial
   |cons W E=>rfl
def o1(b:1<=i)(c:i<=8){a:a6.T e}(d:dI i e a):jv i (a6.bd e a).length (bQ e a):=by rw[tO];exact(o0 b c e a d).1.kU
def a2d(b:1<=i)(c:i<=8){a:a6.T e}(d:dI i e a):(bQ e a).key=a6.cQ e a:=(o0 b c e a d).2
theorem dI.high{r:Nat}:∀(a:Nat)(b:a6.T a),dI r a b->a+1<=(a6.bd a b).length
 |0,b,c=>by
  have:=c.ne;grind
 |a+1,b,c=>by
  obtain⟨h,rfl⟩:=a6.gr b;obtain⟨x,y,z,d⟩:=c.wf;rw[a6.dR]at x y d;have d:=d acq;have k:=c.gv
  match h,d with
  |o::p::h,_=>have C:=dI.high a o (k o acr).1;have D:=dI.high a p (k p acr).1;rw[a6.fP,a8I,a8I];simp only[Ρ];omega
def iu(a b:Int):Int:=if a<b then -1 else if b<a then 1 else 0
def hD:Τ->Τ->Int
 |[],[]=>0
 |[],_:: _=> -1
 |_:: _,[]=>1
 |a::c,b::d=>if iu a b=0 then hD c d else iu a b
def FQ(b:Int)(a:U):AC γ 314 [.v (.int .i64 b)] a λc d=>d=a/\c=.v (.bool θ):=by
 refine aL hm Tx ?_
 repeat' first|refine aG (λ_=>?_) λ_=>?_|trivial
def FR(b c:Int)(a:U):AC γ 263 [.v (.int .i64 b),.v (.int .i64 c)] a λd h=>h=a/\d=.v (.int .i64 (iu b c)):=by
 refine aL hm Sm ?_;refine bh (FQ b a) ?_;refine bh (FQ c a) ?_
 repeat' first|refine aG (λ_=>?_) λ_=>?_|trivial
 .rw[iu,if_pos ‹_›]
 .rw[iu,if_neg ‹_›,if_pos ‹_›]
 .rw[iu,if_neg ‹_›,if_neg ‹_›]
theorem drop_cons{a:List b2}{b:b2}(c:e<α a):a.drop e=a.getD e b::a.drop (e+1):=by simp_all
theorem tP{a:List b2}(b:α a<=e):a.drop e=[]:=a8Z b
theorem a2e(b c:Τ)(h k:Own)(d:U)(y:α b<=1000000000000):AC γ 201 [.J (af b) h,.J (af c) k] d λo p=>p=d/\o=.v (.int .i64 (hD b c)):=by
 have z:=bM (t:=b);have C:=bM (t:=c);have D:=@dY b;have E:=@dY c;refine aL hm QR ?_;refine gX [0,1,9,10] (λa:Nat=>[(11,.v (.int .i64 a))]) (λa=>a<=α b/\a<=α c/\hD b c=hD (b.drop a) (c.drop a)) (λa=>α b - a) 0 ⟨acq,acq,rfl⟩ aR ?_;rintro a⟨F,G,L⟩P;refine aa ?_;refine aG (λr=>?_) λr=>?_
 .refine aG (λx=>?_) λx=>?_
  .rw[drop_cons (b:=0) acq,tP (a:=c) acq,hD]
  .have S:=drop_cons (a:=b) (b:=0) (e:=a) acq;have T:=drop_cons (a:=c) (b:=0) (e:=a) acq;refine bh (FR _ _ _) ?_;refine aG (λc2=>?_) λc2=>?_
   .rw[hD,if_neg c2]
   .rw[hD,if_pos acq];grind
 .repeat' first|refine aG (λ_=>?_) λ_=>?_|trivial
  .rw[tP acq,drop_cons (b:=0) acq,hD]
  grind[tP,hD]
def cK(a:Nat)(b c:Τ):Int:=if iu (b.getD a 0) (c.getD a 0)=0 then hD b c else iu (b.getD a 0) (c.getD a 0)
def FT(a b:Τ)(o p:Own)(c:Nat)(d:U)(h:Nat)(z:d.read h=β [.v (.int .i64 (c:Int))])(C:c<α a)(D:c<α b)(r:α a<=1000000000000):
  AC γ 344 [.J (af a) o,.J (af b) p,.ptr h 0] d λx y=>y=d/\x=.v (.int .i64 (cK c a b)):=by
 have E:=@dY a;have F:=@dY b;refine aL hm Ud ?_;refine bh (FR _ _ _) ?_;refine aG (λk=>?_) λk=>?_
 .rw[cK,if_neg k]
 .refine bh (a2e _ _ _ _ _ r) ?_;rw[cK,if_pos acq]
def FU(o a b:Nat)(y:0<a)(z:b<=1000000000000)(C:a<=8)(d:U):
  AC γ 299 [ee o a,.v (.int .i64 (b:Int))] d λp h=>d.sub h/\∃c,h c=β (.cells [.v (.int .i64 ((b%a:Nat):Int))])/\d c=ε/\p=.bL 344 [] [.ptr c 0]:=by
 have D:(b:Int).tmod (a:Int)=((b%a:Nat)):=rfl;have E:¬(a:Int)=0:=acq;refine aL hm Tj ?_;refine bp λc r=>?_;refine dk λx k F G=>?_;refine⟨_,η,?_,x,μ _ _ _,k,rfl⟩;exact κ (κ η r) k
def FV(c d:Τ)(h k:Own)(o a b:Nat)(p:0<a)(x:a<=8)(y:b<=1000000000000)(P:α c=a)(S:α d=a)(r:U):
  AC γ 244 [ee o a,.J (af c) h,.J (af d) k,.v (.int .i64 (b:Int))] r λz C=>C=r/\z=.v (.int .i64 (if cK (b%a) c d<0 then 0 else 1)):=by
 have T:=aa7 b p;refine aL hm RP ?_;refine bp λV D=>?_;refine ag (FU o a b p y x _) ?_;rintro _ E⟨F,G,L,_,rfl⟩;refine aa ?_;refine fm acx (FT c d h k (b%a) E G (ι L) acq acq acq) ?_;rintro _ _⟨rfl,rfl⟩;refine aa ?_
 repeat' first|refine aG (λ_=>?_) λ_=>?_|trivial
 all_goals exact ο (κ η D) F
theorem zq(a c:Τ)(r x:Own)(k:Nat)(p:U)(F:k<α a)(G:α c=α a)(L:α a<=1000000000000):
  AC γ 141 [.J (af a) r,.J (af c) x,.v (.int .i64 (k:Int))] p λy z=>z=p/\y=.v (.bool (decide (cK k a c<0))):=by
 have P:=bM (t:=a);have S:=@dY a;have T:=@dY c;have C:∀d h:Int,iu d h=0↔d=h:=λd h=>by unfold iu;omega
 have V:∀d h:Int,iu d h<0↔d<h:=λd h=>by unfold iu;omega
 refine aL hm Pb ?_;refine aG (λD=>?_) λD=>?_;simp_all [cK];have W:cK k a c=hD a c:=by rw[cK,if_pos (by rw[C];omega)]
 refine gX [0,1] (λb:Nat=>[(7,.v (.int .i64 b))]) (λb=>b<=α a/\hD (a.drop b) (c.drop b)=hD a c) (λb=>α a - b) 0 ⟨acq,rfl⟩ aR ?_;rintro b⟨e,o⟩f;refine aa ?_;refine aG (λE=>?_) λE=>?_
 .rw[drop_cons (b:=0) acq,drop_cons (b:=0) (e:=b) acq,hD]at o;refine aG (λc2=>?_) λc2=>?_;grind;grind
 .rw[tP acq,tP acq]at o;exact aO (by rw[<-o];rfl)
def fh(c:Nat)(a:Τ)(d:List Τ):List Τ:=d.takeWhile (λb=>decide (cK c b a<0))++a::d.dropWhile (λb=>decide (cK c b a<0))
def en(a:Nat)(b:List Τ):List Τ:=b.foldl (λc d=>fh a d c) []
theorem a2f(b:Nat)(c:Τ)(a:List Τ):(fh b c a).length=α a+1:=by have:=congrArg α (a9b (p:=λd=>decide (cK b d c<0)) (l:=a));grind[ω,fh,List.length_cons]
theorem zr:t∈fh e b8 X↔t=b8\/t∈X:=by have:=congrArg (λX=>t∈X) (a9b (p:=λt=>decide (cK e t b8<0)) (l:=X));simp only[a8u,eq_iff_iff]at this;grind[fh]
theorem a2g(c:∀a<e,cK i (X.getD a []) t<0)(b:e<=α X)(d:e<α X->¬cK i (X.getD e []) t<0):fh i t X=X.take e++t::X.drop e:=by
 induction X generalizing e with
 |nil=>simp at b;subst b;rfl
 |cons h X ih=>
  cases e with
  |zero=>grind[cK,fh,List.takeWhile_cons,List.dropWhile_cons]
  |succ e=>have o:cK i h t<0:=c 0 acq;have:=ih (λa p=>c (a+1) acq) (by simpa using b) (λk=>d (by simpa using k));simp_all [fh]
theorem a2h(h:List Τ)(l:Ψ)(H:Own)(y F:Nat)(e:U)(m:aB isRow h l)(I:∀G∈h,α G=F)(k7:y<F)(k8:F<=8)(k9:α h<=100000):
  AC γ 190 [.J l H,.v (.int .i64 (y:Int))] e λG L=>e.sub L/\∃n K,aB isRow (en y h) n/\G=.J n K:=by
 have l0:=m.len;refine aL hm Qz ?_;refine cd [0,1] (λb:Nat×Ψ×Own=>[(6,.v (.int .i64 b.1)),(5,.J b.2.1 b.2.2)]) (λb L=>e.sub L/\b.1<=α h/\∃c,(h.take b.1).foldl (λc x=>fh y x c) []=c/\α c=b.1/\(∀G∈c,α G=F)/\aB isRow c b.2.1) (λb=>α h - b.1) (0,[],.nil) ⟨⟨η,acq,[],rfl,rfl,acr,trivial⟩,aR⟩ ?_;rintro⟨z,C,bH⟩ M ⟨q,N,c,P,O,Q,p⟩ X
 dsimp only at N P O p|-
 have l1:=p.len;refine aa ?_;refine aG (λY=>?_) λY=>?_
 .have s:h[z]?=β (h.getD z []):=by simp_all
  obtain⟨_,l2,f,rfl⟩:=m.get s;have l3:=I _ (a8r s);have t:=fa (a:=h) (b:=[]) (e:=z) acq;generalize h.getD z []=x at*;have el:∀a,a<α c->∃E,C[a]?=β (.J (af (c.getD a [])) E):=λa T=>by
   obtain⟨_,k,E,rfl⟩:=p.get (i:=a) (x:=c.getD a []) (by simp_all);exact⟨E,k⟩
  have Z:∀a,a<α c->(c.getD a []).length=F:=λa T=>Q _ (by simp_all);refine cd [0,1,5,6] (λb:Nat×Ψ×Own=>[(8,.v (.int .i64 b.1)),(7,.J b.2.1 b.2.2)]) (λb L=>b.1<=α c/\(∀u<b.1,cK y (c.getD u []) x<0)/\aB isRow (c.take b.1) b.2.1/\bf M L 1 b.2.1 b.2.2) (λb=>α c - b.1) (0,[],.nil) ⟨⟨acq,λu d=>by simp at d,trivial,Ν η⟩,aR⟩ ?_;rintro⟨a,V,on⟩ l4 ⟨T,v,r,W⟩ X
  dsimp only at T v r W|-
  have l5:α V=a:=by rw[r.len,a8l];omega
  have w:¬(a<α c/\cK y (c.getD a []) x<0)->fh y x c=c.take a++x::c.drop a:=λd=>a2g v T λk3 D=>d ⟨k3,D⟩;by_cases kf:(a)<(z:Int)
  .obtain⟨E,l6⟩:=el a acq;have l7:=Z a acq;have k4:=fa (a:=c) (b:=[]) (e:=a) acq;generalize l8:c.getD a []=b at*;refine aa ?_;refine bh (zq b x E f y _ acq acq acq) ?_;refine aG (λc2=>?_) λc2=>?_
   .refine ic (λA S=>?_);refine dW (W.mono (κ η S)) (r.cells λ_ _=>υ) (λk o=>by rw[a8B]at o;subst o;rfl) acs acs λg B D=>?_;refine aa ?_;refine⟨(a+1,V++[.J (af b) E],g),⟨by simp only;omega,?_,?_,D⟩,⟨rfl,rfl⟩,by simp only;omega⟩;grind
    .simp only[k4];exact r.snoc ⟨_,rfl⟩
   .have k:=w acq;refine ic (λA S=>?_);refine dW (W.mono (κ η S)) (r.cells λ_ _=>υ) (λk o=>by rw[a8B]at o;subst o;rfl) acs acs λg B D=>?_;have k5:dX 1 (.J C bH) (β (.v (.int .i64 (a)))) ε=β (.J (C.drop a) .any):=q0 acq (p.cells λ_ _=>υ);refine aa ?_;refine dW D (λk o=>by rcases a8u.1 o with d|d;exact r.cells (λ_ _=>υ) k d;rw[a8B]at d;subst d;rfl) ((p.drop a).cells λ_ _=>υ) acs acs λi k6 j=>?_;refine aa ?_;refine⟨(z+1,V++[.J (af x) f]++C.drop a,i),⟨ο q j.sub,by simp only;omega,_,rfl,?_,?_,?_⟩,⟨rfl,rfl⟩,by simp only;omega⟩;grind;grind
    .simp only[t,aaa,P,a9e,aas,k];rw[abe];exact(r.snoc ⟨_,rfl⟩).append (p.drop a)
  .have k:=w acq;refine aa ?_;refine ic (λA S=>?_);refine dW (W.mono (κ η S)) (r.cells λ_ _=>υ) (λk o=>by rw[a8B]at o;subst o;rfl) acs acs λg B D=>?_;have k5:dX 1 (.J C bH) (β (.v (.int .i64 (a)))) ε=β (.J (C.drop a) .any):=q0 acq (p.cells λ_ _=>υ);refine aa ?_;refine dW D (λk o=>by rcases a8u.1 o with d|d;exact r.cells (λ_ _=>υ) k d;rw[a8B]at d;subst d;rfl) ((p.drop a).cells λ_ _=>υ) acs acs λi k6 j=>?_;refine aa ?_;refine⟨(z+1,V++[.J (af x) f]++C.drop a,i),⟨ο q j.sub,by simp only;omega,_,rfl,?_,?_,?_⟩,⟨rfl,rfl⟩,by simp only;omega⟩;grind;grind
   .simp only[t,aaa,P,a9e,aas,k];rw[abe];exact(r.snoc ⟨_,rfl⟩).append (p.drop a)
 .obtain rfl:z=α h:=acq;rw[a8F]at P;exact⟨C,bH,by rw[en,P];exact p,rfl⟩
inductive aC where
 |nil
 |node (r:Τ) (live:Bool) (a b:aC)
def dS(a:U):aC->R->Prop
 |.nil,b=>b=.v (.pointer ε)
 |.node k live o p,b=>∃c r d h,b=.ptr c 0/\a c=β (.cells [.J (af k) r,.v (.bool live),d,h])/\dS a o d/\dS a p h
def dS.mono{b c:U}(a:b.sub c):∀ {d:aC}{h:R},dS b d h->dS c d h
 |.nil,_,k=>k
 |.node _ _ _ _,_,⟨o,p,r,x,h1,y,z,C⟩=>⟨o,p,r,x,h1,a _ _ y,z.mono a,C.mono a⟩
theorem dS.cells{b:U}:∀ {c:aC}{a:R},dS b c a->a.cells=[a]
 |.nil,_,rfl=>rfl
 |.node _ _ _ _,_,⟨_,_,_,_,rfl,_⟩=>rfl
def _root_.Go.bD.U.part(b c d:U):U:=λa=>if c a=ε\/d a≠ε then b a else ε
def FX:U:=λ_=>ε
theorem rQ:(f.part s e5).sub f:=λa b c=>by
 grind[U.part]
def FY{c d:U}(h:f.sub s)(k:e5.sub c):(e5.part s d).sub (c.part f d):=λo p a=>by
 rw[U.part]at a|-;split at a
 .rename_i b;rw[if_pos (b.imp_left λb=>Ι h b)];exact k _ _ a
 .cases a
def a2i{c:U}(b:f.sub s):(e5.part s FX).sub (e5.part f c):=λh k a=>by
 rw[U.part]at a|-;split at a
 .rename_i d;rw[if_pos (.inl (Ι b (d.resolve_right λb=>b rfl)))];exact a
 .cases a
def qp(b:f.sub s):f.sub (s.part e5 f):=λc d a=>by rw[U.part,if_pos (.inr (by rw[a];simp))];exact b _ _ a
theorem vQ(a:f e=ε):s.part f e5 e=s e:=if_pos (.inl a)
def aC.size:aC->Nat
 |.nil=>0
 |.node _ _ a b=>1+a.size+b.size
def aC.all:aC->List Τ
 |.nil=>[]
 |.node a live b c=>b.all++c.all++(if live=ζ then [a]else [])
def rR:∀(c:aC)(b:R)(a:U),dS a c b->c.size<=1000000->AC γ 133 [b] a λd h=>h=a/\d=.v (.int .i64 (c.size:Int))
 |.nil,b,a,k,_=>by
  obtain rfl:b=.v (.pointer ε):=k;refine aL hm CJ ?_;trivial
 |.node d live o p,b,a,⟨E,F,r,x,h1,y,z,C⟩,D=>by
  subst h1;have G:=ι y;simp only[aC.size]at D;refine aL hm CJ ?_;refine bh (rR o r a z acq) ?_;refine bh (rR p x a C acq) ?_;rfl
def lO:∀a:aC,α a.all<=a.size
 |.nil=>by trivial
 |.node d live b c=>by
  have:=lO b;have:=lO c;simp only[aC.all,aC.size,Ρ];split<;>simp<;>omega
def tQ:∀(r:aC)(b:R)(a:U),dS a r b->r.size<=1000000->AC γ 132 [b] a λz G=>∃x k,bf a G 1 x k/\aB isRow r.all x/\z=.J x k
 |.nil,b,a,L,_=>by
  obtain rfl:b=.v (.pointer ε):=L;refine aL hm CI ?_;exact⟨_,η,[],.nil,Ν η,trivial,rfl⟩
 |.node z live C D,b,a,⟨g,k,P,S,h1,o,c,y⟩,T=>by
  subst h1;have i:=ι o;simp only[aC.size]at T;have j:=lO C;have l:=lO D;refine aL hm CI ?_;refine ag (tQ C P a c acq) ?_;rintro _ V⟨m,n,p,d,rfl⟩;have q:=ι (p.sub _ _ o);refine aa ?_;refine ag (tQ D S V (y.mono p.sub) acq) ?_;rintro _ s⟨t,u,E,h,rfl⟩;have v:=ι (E.sub _ _ (p.sub _ _ o));have w:=d.len;have A:=h.len;refine aa ?_;refine dW (p.mono E.sub) (d.cells λ_ _=>υ) (h.cells λ_ _=>υ) acq acq λW B c=>?_;have H:=ι (c.sub _ _ o);refine aa ?_;cases live with
  |true=>refine aa ?_;refine ic (λI e=>?_);refine dW (c.mono (κ η e)) ((d.append h).cells λ_ _=>υ) (λK F=>by rw[a8B]at F;subst F;rfl) acs acs λf M y=>?_;refine aa ?_;exact⟨_,η,_,f,y,(d.append h).append ⟨⟨k,rfl⟩,trivial⟩,rfl⟩
  |false=>refine aa ?_;exact⟨_,η,_,W,c,by simpa[aC.all] using d.append h,rfl⟩
def fR(b:Nat):Nat->List Τ->Nat->aC
 |0,_,_=>.nil
 |c+1,a,dep=>if a=[]then .nil else
  .node ((en (dep%b) a).getD (α a/2) []) ζ (fR b c ((en (dep%b) a).take (α a/2)) (dep+1)) (fR b c ((en (dep%b) a).drop (α a/2+1)) (dep+1))
theorem zs{h:Nat}:∀(b a:List Τ),(b.foldl (λk c=>fh h c k) a).length=α a+α b/\∀d,d∈b.foldl (λk c=>fh h c k) a↔d∈a\/d∈b
 |[],a=>by simp
 |c::b,a=>by
  obtain⟨o,p⟩:=zs b (fh h c a);refine⟨by rw[a9e,o,a2f,a8m];omega,λd=>?_⟩;grind[zr]
theorem qq(b:Nat)(a:List Τ):(en b a).length=α a:=by rw[en,(zs a []).1];simp
def rS:t∈en e X↔t∈X:=by rw[en,(zs X []).2];simp
theorem vR(b:Nat)(E:0<b)(F:b<=8):∀(h:Nat)(a:List Τ)(d:Ψ)(k:Own)(dep:Nat)(r:U),aB isRow a d->(∀o∈a,α o=b)->α a<=h->h<=100000->dep+h<=1000000->
  AC γ 134 [.J d k,.v (.int .i64 (dep:Int))] r λo g=>r.sub g/\dS (g.part r FX) (fR b h a dep) o
 |0,a,d,k,dep,r,x,C,v,_,_=>by
  obtain rfl:a=[]:=a8q acq;obtain rfl:d=[]:=a8q x.len;refine aL hm xN ?_;exact⟨_,η,η,rfl⟩
 |h+1,a,d,k,dep,r,x,C,v,N,O=>by
  have Q:=x.len;by_cases G:a=[]
  .subst G;obtain rfl:d=[]:=a8q x.len;refine aL hm xN ?_;rw[fR,if_pos rfl];exact⟨_,η,η,rfl⟩
  have X:=a9h.2 G;have Y:¬(α a:Int)=0:=acq;obtain⟨_,Z,k3,rfl⟩:=x.get (i:=0) (x:=a.getD 0 []) (by simp_all);have k4:=C (a.getD 0 []) (by simp_all);have k5:=bM (t:=a.getD 0 []);have w:(dep:Int).tmod (b:Int)=((dep%b:Nat)):=rfl;have k6:¬(b:Int)=0:=acq;have A:(α a:Int).tdiv 2=((α a/2:Nat)):=rfl;have k7:∀L k,cO L (.J d k) (.v (.int .i64 0))=eG L d[0]? :=λL k=>oV;refine aL hm xN ?_;refine ag (a2h a d k (dep%b) b r x C (aa7 _ E) F acq) ?_;rintro _ B⟨D,y,P,p,rfl⟩;have i:=p.len;rw[qq]at i;have j:=qq (dep%b) a;have S:∀T∈en (dep%b) a,α T=b:=λT H=>C T (rS.1 H);obtain⟨z,l⟩:∃z,en (dep%b) a=z:=⟨_,rfl⟩;rw[fR,if_neg G];rw[l]at j S p|-;generalize I:α a/2=c at*;obtain⟨_,k8,m,rfl⟩:=p.get (i:=c) (x:=z.getD c []) (by grind);have k9:dX 1 (.J y P) ε (β (.v (.int .i64 (c))))=β (.J (y.take c) .any):=by have:=oO (e2:=.i64) (M:=P) (b3:=(c)) acq acq (p.cells λ_ _=>υ);trivial
  have l0:dX 1 (.J y P) (β (.v (.int .i64 ((c)+1)))) ε=β (.J (y.drop (c+1)) .any):=q0 (e:=c+1) acq (p.cells λ_ _=>υ);refine aa ?_;refine ag (vR b E F h (z.take c) (y.take c) .any (dep+1) B (p.take c) (λo V=>S o (a8v V)) (by rw[a8l];omega) acq acq) ?_;rintro n K⟨W,q⟩;refine aa ?_;refine ag (vR b E F h (z.drop (c+1)) (y.drop (c+1)) .any (dep+1) K (p.drop (c+1)) (λo V=>S o (a8O V)) (by rw[a8z];omega) acq acq) ?_;rintro s l1⟨e,t⟩;clear l j i w A I;have l2:=q.cells;have l3:=t.cells;refine aa ?_;refine aN λM u=>?_;refine aa ?_;have f:=κ (Z:=.cells [.J (af (z.getD c [])) m,.v (.bool ζ),n,s]) η u;exact⟨_,η,ο D (ο W (ο e f)),M,m,n,s,rfl,(vQ (Ι D (Ι W (Ι e u)))).trans (μ _ _ _),q.mono (FY D (ο e f)),t.mono (FY (ο D W) f)⟩
theorem a2j{b c:U}(h:∀a,s a=ε->f a=ε)(k:∀a,c a≠ε->f a=ε\/b a≠ε):(e5.part s c).sub (e5.part f b):=λa o d=>by
 rw[U.part]at d|-;grind
variable{Z:bt}
def zt(c:f.sub s):(f.set e Z).sub (s.set e Z):=λd h a=>by
 by_cases b:d=e
 .subst b;rw[μ]at a|-;exact a
 .rw[ξ _ _ b]at a|-;exact c _ _ a
theorem zu{d h:U}{o:bt}(p:f.sub s)(r:e5=f.set e o)(k:f e=ε):
  (d.part (s.set e Z) ((s.part e5 h).set e Z)).sub (d.part f h):=a2j (λc a=>by
   by_cases b:c=e
   .subst b;exact k
   .rw[ξ _ _ b]at a;exact Ι p a) λc a=>by
   by_cases b:c=e
   .subst b;exact .inl k
   .rw[ξ _ _ b,U.part]at a;split at a;simp_all [ξ]
    .trivial
theorem vS{a:U}(b:f=e5.set e Z)(c:s e=ε):a.part f s e=none:=by simp_all [U.part,μ]
def aC.Ok(a:Nat):aC->Prop
 |.nil=>True
 |.node b _ c d=>α b=a/\c.Ok a/\d.Ok a
theorem aC.Ok.all{c:Nat}:∀ {d:aC},d.Ok c->∀b∈d.all,α b=c
 |.nil,_,b,a=>by trivial
 |.node o live p r,⟨h1,h,k⟩,b,a=>by
  simp only[aC.all,a8u]at a;rcases a with (a|a)|a
  .exact h.all b a
  .exact k.all b a
  simp_all
def hE(d:Nat)(h:aC)(k:Nat):aC:=
 match h with
 |.nil=>.nil
 |.node c live a b=>if max a.size b.size>2*(aC.node c live a b).size/3+1 then fR d (aC.node c live a b).all.length (aC.node c live a b).all k else .node c live a b
theorem zv(o:Nat)(j:0<o)(l:o<=8)(d:Τ)(h:Bool)(a b:aC)(F:R)(p:Nat)(k r:U)(G:dS r (.node d h a b) F)(L:r.sub k)(m:(aC.node d h a b).Ok o)(x:(aC.node d h a b).size<=100000)(k5:p<=100000):
  AC γ 140 [F,.v (.int .i64 (p:Int))] k λy P=>k.sub P/\dS (P.part k r) (hE o (.node d h a b) p) y:=by
 have z:=G.mono L;obtain⟨k6,k7,y,n,rfl,q,s,t⟩:=id z;have k8:=ι q;have u:a.size<=100000:=by simp only[aC.size]at x;omega
 have w:b.size<=100000:=by simp only[aC.size]at x;omega
 refine aL hm P9 ?_;refine bh (rR a y k s acq) ?_;refine bh (rR b n k t acq) ?_;have A:=lO (aC.node d h a b);have S:=rR _ _ k z acq;rw[hE];have B:=vR o j l (aC.node d h a b).all.length (aC.node d h a b).all;have H:=tQ _ _ k z acq;have I:=m.all;generalize aC.node d h a b=K at*;obtain⟨c,T⟩:∃c,K.size=c:=⟨_,rfl⟩;obtain⟨C,V⟩:∃c,a.size=c:=⟨_,rfl⟩;obtain⟨D,W⟩:∃c,b.size=c:=⟨_,rfl⟩;rw[T]at S x A|-;rw[V]at u|-;rw[W]at w|-;clear T V W;have M:(2*(c:Int)).tdiv 3=((2*c/3:Nat)):=by grind
 obtain⟨E,e⟩:∃E,2*c/3=E:=⟨_,rfl⟩;rw[e]at M|-;have N:max (C:Int) (D)=((max C D)):=acq;obtain⟨f,g⟩:∃f,max C D=f:=⟨_,rfl⟩;rw[g]at N|-;have hm:E<=100000:=acq;clear e g;refine bh S ?_;refine aG (λO=>?_) λO=>?_
 .rw[if_pos acq];refine ag H ?_;rintro _ Q⟨X,Y,i,Z,rfl⟩;refine aa ?_;refine ag (B X Y p Q Z I acq acq acq) ?_;rintro v k9⟨k3,k4⟩;refine aa ?_;exact⟨_,η,ο i.sub k3,k4.mono (a2i i.sub)⟩
 .rw[if_neg acq];exact⟨_,η,η,G.mono (qp L)⟩
theorem rT(b:Nat):∀(c:Nat)(a:List Τ)(dep:Nat),(fR b c a dep).size<=α a
 |0,_,_=>a8M _
 |c+1,a,dep=>by
  rw[fR];split
  .exact a8M _
  .rename_i d;have:=a9h.2 d;have h:=rT b c ((en (dep%b) a).take (α a/2)) (dep+1);have k:=rT b c ((en (dep%b) a).drop (α a/2+1)) (dep+1);grind[List.length_take,qq,List.length_drop,aC.size]
theorem zw(b:Nat):∀(d:Nat)(h:List Τ)(dep:Nat),(∀a∈h,α a=b)->(fR b d h dep).Ok b
 |0,_,_,_=>trivial
 |d+1,h,dep,o=>by
  rw[fR];split
  .trivial
  .rename_i p;have:=a9h.2 p;have k:∀a∈en (dep%b) h,α a=b:=λa c=>o a (rS.1 c);refine⟨?_,zw b d _ _ λa c=>k a (a8v c),zw b d _ _ λa c=>k a (a8O c)⟩;grind[en,qq,List.getD,List.getElem?_eq_getElem,List.getElem_mem]
theorem a2k(b:Nat)(a:aC)(c:Nat):(hE b a c).size<=a.size:=by
 unfold hE;split
 .trivial
 .split
  .exact a8W (rT _ _ _ _) (lO _)
  .omega
variable{a7:aC}
def zx(b:Nat)(a:a7.Ok e):(hE e a7 b).Ok e:=by
 unfold hE;split
 .trivial
 .split
  .exact zw _ _ _ _ a.all
  .exact a
def da(a:Nat)(b:Τ):aC->Nat->aC×Bool
 |.nil,_=>(.node b ζ .nil .nil,ζ)
 |.node c live d h,dep=>
  if c=b then(hE a (.node c ζ d h) dep,!live)
  else if cK (dep%a) b c<0 then(hE a (.node c live (da a b d (dep+1)).1 h) dep,(da a b d (dep+1)).2)
  else(hE a (.node c live d (da a b h (dep+1)).1) dep,(da a b h (dep+1)).2)
theorem qs(a:Nat)(b:Τ):∀(c:aC)(dep:Nat),(da a b c dep).1.size<=c.size+1
 |.nil,_=>a8P _
 |.node k live d h,dep=>by
  have o:=qs a b d (dep+1);have p:=qs a b h (dep+1);grind[da,Nat.le_trans,a2k,aC.size]
def vT{a:Nat}{b:Τ}(c:α b=a):∀ {r:aC} (dep:Nat),r.Ok a->(da a b r dep).1.Ok a
 |.nil,_,_=>⟨c,trivial,trivial⟩
 |.node d live h k,dep,⟨h1,o,p⟩=>by
  rw[da];split
  .exact zx (a7:=.node d ζ h k) _ ⟨h1,o,p⟩
  .split
   .exact zx (a7:=.node d live (da a b h (dep+1)).1 k) _ ⟨h1,vT c _ o,p⟩
   .exact zx (a7:=.node d live h (da a b k (dep+1)).1) _ ⟨h1,o,vT c _ p⟩
def zy(a:Nat)(E:0<a)(P:a<=8)(o:Τ)(g:Own)(S:α o=a):∀(T:aC)(V:R)(dep:Nat)(x y:U),dS y T V->y.sub x->T.Ok a->T.size+1+dep<=100000->
  AC γ 69 [V,.J (af o) g,.v (.int .i64 (dep:Int))] x λk H=>x.sub H/\∃d,k=.aJ [d,.v (.bool (da a o T dep).2)]/\dS (H.part x y) (da a o T dep).1 d
 |.nil,V,dep,x,y,q,z,I,K=>by
  obtain rfl:V=.v (.pointer ε):=q;refine aL hm CD ?_;refine aN λb h=>?_;refine aa ?_;exact⟨_,η,κ η h,_,rfl,b,g,_,_,rfl,(vQ h).trans (μ _ _ _),rfl,rfl⟩
 |.node c live F G,V,dep,x,y,q,z,I,K=>by
  obtain⟨M,p,k,d,rfl,N,i,j⟩:=q;have W:=z _ _ N;have O:=i.mono z;have Q:=j.mono z;obtain⟨s,l,m⟩:=id I;have k8:=ι W;have k9:=bM (t:=o);have l0:=O.cells;have l1:=Q.cells;refine aL hm CD ?_;refine bp λb h=>?_;have X:=κ (Z:=.cells [.J (af c) p,.v (.bool live),k,d]) η h;have l2:=ι (X _ _ W);have l3:M≠b:=by rintro rfl;rw[h]at W;cases W
  have C:=Ι z h;obtain⟨n,Y⟩:∃n,n=x.set b (.cells [.J (af c) p,.v (.bool live),k,d]):=⟨_,rfl⟩;simp only[aC.size]at K;refine aa ?_;refine ag (tL c o _ _ _ acq) ?_;rintro _ _⟨rfl,rfl⟩;refine aa ?_;refine aG (λt=>?_) λt=>?_
  .subst t;have Z:dS ((x.part n y).set b (.cells [.J (af c) p,.v (.bool ζ),k,d])) (.node c ζ F G) (.ptr b 0):=by have r:=κ (Z:=.cells [.J (af c) p,.v (.bool ζ),k,d]) (qp (e5:=n) z) C;exact⟨b,p,k,d,rfl,μ _ _ _,i.mono r,j.mono r⟩
   refine ag (zv a E P c ζ F G _ dep _ _ Z (zt rQ) ⟨s,l,m⟩ (by simp only[aC.size];omega) acq) ?_;rintro v L⟨r,D⟩;have l4:=ι (r _ _ (κ η h _ _ W));refine aa ?_;rw[da,if_pos rfl];exact⟨_,η,ο (κ η h) r,_,rfl,D.mono (zu η Y h)⟩
  rw[da,if_neg t];have l5:(dep:Int).tmod (a:Int)=((dep%a:Nat)):=rfl;refine ag (zq o c _ _ (dep%a) _ (by rw[S];exact aa7 _ E) acq acq) ?_;rintro _ _⟨rfl,rfl⟩;refine aa ?_;refine aG (λc2=>?_) λc2=>?_
  .refine ag (zy a E P o g S F k (dep+1) _ y i (κ z C) l acq) ?_;rintro _ L⟨r,v,rfl,D⟩;have u:=r _ _ (μ _ _ _);have k3:ep L b=β [.J (af c) p,.v (.bool live),k,d]:=by simp[ep,u]
   have k4:=D.cells;have e:=ο (κ η h) r;rw[if_pos c2];refine aa ?_;have f:=κ (Z:=.cells [.J (af c) p,.v (.bool live),v,d]) η (vS rfl C:L.part (x.set b (.cells [.J (af c) p,.v (.bool live),k,d])) y b=ε);have w:dS _ (.node c live (da a o F (dep+1)).1 G) (.ptr b 0):=⟨b,p,v,d,rfl,μ _ _ _,D.mono f,j.mono (ο (qp (ο (κ z C) r)) f)⟩;have k5:=qs a o F (dep+1);refine ag (zv a E P _ _ _ _ _ dep _ _ w (zt rQ) ⟨s,vT S _ l,m⟩ (by simp only[aC.size];omega) acq) ?_;rintro k6 k7⟨A,B⟩;refine aa ?_;exact⟨_,η,ο (κ e h) A,_,rfl,B.mono (zu e rfl h)⟩
  .refine ag (zy a E P o g S G d (dep+1) _ y j (κ z C) m acq) ?_;rintro _ L⟨r,v,rfl,D⟩;have u:=r _ _ (μ _ _ _);have k3:ep L b=β [.J (af c) p,.v (.bool live),k,d]:=by simp[ep,u]
   have k4:=D.cells;have e:=ο (κ η h) r;rw[if_neg c2];refine aa ?_;have f:=κ (Z:=.cells [.J (af c) p,.v (.bool live),k,v]) η (vS rfl C:L.part (x.set b (.cells [.J (af c) p,.v (.bool live),k,d])) y b=ε);have w:dS _ (.node c live F (da a o G (dep+1)).1) (.ptr b 0):=⟨b,p,k,v,rfl,μ _ _ _,i.mono (ο (qp (ο (κ z C) r)) f),D.mono f⟩;have k5:=qs a o G (dep+1);refine ag (zv a E P _ _ _ _ _ dep _ _ w (zt rQ) ⟨s,l,vT S _ m⟩ (by simp only[aC.size];omega) acq) ?_;rintro k6 k7⟨A,B⟩;refine aa ?_;exact⟨_,η,ο (κ e h) A,_,rfl,B.mono (zu e rfl h)⟩
theorem vU{a:U}{b:bt}(d:s=f.set e b)(h:f e=ε):((e5.part s a).set e Z).sub ((e5.set e Z).part f a):=λc k o=>by
 by_cases p:c=e;grind[μ,vQ];simp_all [ξ,U.part]
def cn(b:Nat)(a:Τ):aC->Nat->aC×Bool
 |.nil,_=>(.nil,θ)
 |.node c live d h,dep=>
  if c=a then(.node c θ d h,live)
  else if cK (dep%b) a c<0 then(.node c live (cn b a d (dep+1)).1 h,(cn b a d (dep+1)).2)
  else(.node c live d (cn b a h (dep+1)).1,(cn b a h (dep+1)).2)
theorem qt(a:Nat)(b:Τ):∀(c:aC)(dep:Nat),(cn a b c dep).1.size=c.size
 |.nil,_=>rfl
 |.node k live d h,dep=>by
  have o:=qt a b d (dep+1);have p:=qt a b h (dep+1);grind[cn,aC.size]
def zz{a:Nat}{h:Τ}:∀ {b:aC} (dep:Nat),b.Ok a->(cn a h b dep).1.Ok a
 |.nil,_,_=>trivial
 |.node k live o p,dep,⟨h1,c,d⟩=>by
  rw[cn];split
  .trivial
  .split
   .exact⟨h1,zz _ c,d⟩
   .exact⟨h1,c,zz _ d⟩
def zA(b:Nat)(V:0<b)(s:b<=8)(p:Τ)(W:Own)(e:α p=b):∀(D:aC)(E:R)(dep:Nat)(y z:U),dS z D E->z.sub y->D.Ok b->D.size+1+dep<=1000000->
  AC γ 131 [E,.J (af p) W,.v (.int .i64 (dep:Int))] y λc t=>y.sub t/\∃a,c=.aJ [a,.v (.bool (cn b p D dep).2)]/\dS (t.part y z) (cn b p D dep).1 a
 |.nil,E,dep,y,z,f,r,u,w=>by
  obtain rfl:E=.v (.pointer ε):=f;refine aL hm CH ?_;exact⟨_,η,η,_,rfl,rfl⟩
 |.node d live g i,E,dep,y,z,f,r,u,w=>by
  obtain⟨B,o,c,a,rfl,H,P,S⟩:=f;have T:=r _ _ H;have I:=P.mono r;have K:=S.mono r;obtain⟨Y,M,N⟩:=id u;have Z:=ι T;have k3:=bM (t:=p);have k4:=I.cells;have k5:=K.cells;refine aL hm CH ?_;refine bp λh k=>?_;have O:=κ (Z:=.cells [.J (af d) o,.v (.bool live),c,a]) η k;have k6:=ι (O _ _ T);have k7:B≠h:=by rintro rfl;rw[k]at T;cases T
  have C:=Ι r k;obtain⟨j,A⟩:∃j,j=y.set h (.cells [.J (af d) o,.v (.bool live),c,a]):=⟨_,rfl⟩;simp only[aC.size]at w;refine aa ?_;refine ag (tL d p _ _ _ acq) ?_;rintro _ _⟨rfl,rfl⟩;refine aa ?_;refine aG (λl=>?_) λl=>?_
  .subst l;rw[cn,if_pos rfl];have x:=κ (Z:=.cells [.J (af d) o,.v (.bool θ),c,a]) (qp (e5:=j) r) C;exact⟨_,η,κ η k,_,rfl,h,o,c,a,rfl,(vQ k).trans (μ _ _ _),P.mono (ο x (vU A k)),S.mono (ο x (vU A k))⟩
  rw[cn,if_neg l];have k8:(dep:Int).tmod (b:Int)=((dep%b:Nat)):=rfl;refine ag (zq p d _ _ (dep%b) _ (by rw[e];exact aa7 _ V) acq acq) ?_;rintro _ _⟨rfl,rfl⟩;refine aa ?_;refine aG (λc2=>?_) λc2=>?_
  .refine ag (zA b V s p W e g c (dep+1) _ z P (κ r C) M acq) ?_;rintro _ F⟨x,v,rfl,G⟩;have m:=x _ _ (μ _ _ _);have Q:ep F h=β [.J (af d) o,.v (.bool live),c,a]:=by simp[ep,m]
   have X:=G.cells;have n:=ο (κ η k) x;rw[if_pos c2];refine aa ?_;have L:=κ (Z:=.cells [.J (af d) o,.v (.bool live),v,a]) η (vS rfl C:F.part (y.set h (.cells [.J (af d) o,.v (.bool live),c,a])) z h=ε);have q:dS _ (.node d live (cn b p g (dep+1)).1 i) (.ptr h 0):=⟨h,o,v,a,rfl,μ _ _ _,G.mono L,S.mono (ο (qp (ο (κ r C) x)) L)⟩;exact⟨_,η,κ n k,_,rfl,q.mono (vU rfl k)⟩
  .refine ag (zA b V s p W e i a (dep+1) _ z S (κ r C) N acq) ?_;rintro _ F⟨x,v,rfl,G⟩;have m:=x _ _ (μ _ _ _);have Q:ep F h=β [.J (af d) o,.v (.bool live),c,a]:=by simp[ep,m]
   have X:=G.cells;have n:=ο (κ η k) x;rw[if_neg c2];refine aa ?_;have L:=κ (Z:=.cells [.J (af d) o,.v (.bool live),c,v]) η (vS rfl C:F.part (y.set h (.cells [.J (af d) o,.v (.bool live),c,a])) z h=ε);have q:dS _ (.node d live g (cn b p i (dep+1)).1) (.ptr h 0):=⟨h,o,c,v,rfl,μ _ _ _,P.mono (ο (qp (ο (κ r C) x)) L),G.mono L⟩;exact⟨_,η,κ n k,_,rfl,q.mono (vU rfl k)⟩
def lP(a:Nat)(b:Τ)(c:aC):aC×Bool:=
 if(cn a b c 0).2=ζ/\2*(cn a b c 0).1.all.length<(cn a b c 0).1.size then(fR a (cn a b c 0).1.all.length (cn a b c 0).1.all 0,ζ)else cn a b c 0
def a2l(a:Nat)(z:0<a)(C:a<=8)(b:Τ)(D:Own)(L:α b=a)(c:aC)(o:R)(k:U)(P:dS k c o)(E:c.Ok a)(u:c.size+1<=100000):
  AC γ 66 [o,.J (af b) D] k λS F=>k.sub F/\∃d,S=.aJ [d,.v (.bool (lP a b c).2)]/\dS F (lP a b c).1 d:=by
 refine aL hm N9 ?_;refine ag (zA a z C b D L c o 0 k k P η E acq) ?_;rintro _ T⟨p,d,rfl,V⟩;have r:=V.mono rQ;have W:=zz (h:=b) 0 E;have ch:=qt a b c 0;rw[lP];generalize cn a b c 0=e at*;obtain⟨h,f⟩:=e
 dsimp only at*
 have w:=lO h;cases f with
 |false=>refine aa ?_;rw[if_neg acr];exact⟨_,η,p,d,rfl,r⟩
 |true=>
  refine aa ?_;refine ag (tQ h d T r acq) ?_;rintro _ G⟨A,B,x,g,rfl⟩;have y:=r.mono x.sub;have H:=g.len;refine aa ?_;refine bh (rR h d G y acq) ?_;refine aG (λi=>?_) λi=>?_
  .rw[if_pos ⟨rfl,acq⟩];refine ag (tQ h d G y acq) ?_;rintro _ j⟨l,m,n,q,rfl⟩;refine aa ?_;refine ag (vR a z C (α h.all) h.all l m 0 j q W.all acq acq acq) ?_;rintro v I⟨s,t⟩;refine aa ?_;exact⟨_,η,ο p (ο x.sub (ο n.sub s)),v,rfl,t.mono rQ⟩
  .rw[if_neg acq];exact⟨_,η,ο p x.sub,d,rfl,y⟩
structure pe where
 prev:Υ
 num:Int
 ops:Υ
 FZ:Υ
 deriving DecidableEq
def pe.ok(a:pe):Prop:=α a.prev=32/\α a.ops=32/\α a.FZ=32
def a2m(a:Υ)(b:Int)(c d:Υ):Ψ:=a.map ah++(.v (.int .i64 b)::(c.map ah++d.map ah))
def pe.C(a:pe):Ψ:=a2m a.prev a.num a.ops a.FZ
def pe.V(a:pe):R:=.agg a.C
def pe.may(a:pe):Bool:=decide (0<=a.num)&&decide (a.num<=1099511627776)
theorem zB(a:Υ)(b:Nat)(c:b<α a):(⟨a.toArray⟩:ByteArray).get! b=a[b]:=by simp[ByteArray.get!,c]
theorem G0(a:Υ)(b:Nat)(c:b<α a)(d:a[b].toNat<128):Utf8.decode ⟨a.toArray⟩ b=(a[b].toNat,1):=by simp[Utf8.decode,zB a b c,d]
theorem decode_high(b:Υ)(a:Nat)(E:a<α b)(F:128<=b[a].toNat):
  128<=(Utf8.decode ⟨b.toArray⟩ a).1/\(Utf8.decode ⟨b.toArray⟩ a).1<=1114111/\1<=(Utf8.decode ⟨b.toArray⟩ a).2/\a+(Utf8.decode ⟨b.toArray⟩ a).2<=α b/\
   ∀c,(r:c<α b)->a<=c->c<a+(Utf8.decode ⟨b.toArray⟩ a).2->128<=b[c].toNat:=by
 have f:∀c,(r:c<α b)->a<=c->c<a+1->128<=b[c].toNat:=λc r G x=>by
  grind
 have h:∀k,(a+k<α b/\((⟨b.toArray⟩:ByteArray).get! (a+k)).toNat/64=2)->∃E:a+k<α b,128<=b[a+k].toNat:=λk g=>by
  grind[zB]
 have S:=oP b;have T:((⟨b.toArray⟩:ByteArray).get! (a+0)).toNat=b[a].toNat:=by rw[aab,zB b a E]
 have i:b[a].toNat<256:=b[a].toNat_lt;unfold Utf8.decode;simp only[T,S];rw[if_neg acq];have v:∀z:Nat,Utf8.valid (z)=ζ->z<=1114111:=λz d=>by
  simp only[Utf8.valid,a9U,Ξ,decide_eq_true_eq]at d;omega
 split
 .rename_i d;simp only[Ξ,decide_eq_true_eq,beq_iff_eq]at d;obtain⟨L,o⟩:=d;obtain⟨P,y⟩:=h 1 o;split;grind;trivial
 .split
  .rename_i d;simp only[Ξ,decide_eq_true_eq,beq_iff_eq]at d;obtain⟨⟨L,o⟩,C⟩:=d;obtain⟨P,y⟩:=h 1 o;obtain⟨V,D⟩:=h 2 C;split
   .rename_i p;simp only[Ξ,decide_eq_true_eq]at p;refine⟨by simp only;omega,v _ p.2,acr,acs,λc r G x=>?_⟩;rcases(by simp only at x;omega:c=a\/c=a+1\/c=a+2)with rfl|rfl|rfl
    .exact F
    .exact y
    .exact D
   trivial
  .split
   .rename_i d;simp only[Ξ,decide_eq_true_eq,beq_iff_eq]at d;obtain⟨⟨⟨L,o⟩,C⟩,W⟩:=d;obtain⟨P,y⟩:=h 1 o;obtain⟨V,D⟩:=h 2 C;obtain⟨j,e⟩:=h 3 W;split
    .rename_i p;simp only[Ξ,decide_eq_true_eq]at p;refine⟨by simp only;omega,v _ p.2,acr,acs,λc r G x=>?_⟩;rcases(by simp only at x;omega:c=a\/c=a+1\/c=a+2\/c=a+3)with rfl|rfl|rfl|rfl
     .exact F
     .exact y
     .exact D
     .exact e
    trivial
   trivial
def fS(b:Nat)(a:Int):Bool:=(decide (97<=a)&&decide (a<=122))||(!decide (b=0)&&((decide (48<=a)&&decide (a<=57))||decide (a=95)))
def lQ(b:ByteArray):Nat->Nat->Bool
 |0,_=>ζ
 |c+1,a=>if a<b.size then fS a (Utf8.decode b a).1&&lQ b c (a+(Utf8.decode b a).2)else ζ
def ki(a:Υ):Bool:=lQ ⟨a.toArray⟩ (α a+1) 0&&decide (1<=α a/\α a<=16)
theorem a2n(a:Υ)(b:Nat)(c:b<α a):1<=(Utf8.decode ⟨a.toArray⟩ b).2/\b+(Utf8.decode ⟨a.toArray⟩ b).2<=α a/\(Utf8.decode ⟨a.toArray⟩ b).1<=1114111:=by grind[G0,decode_high]
variable{w j8:Υ}
def tR:sY (bc w)=β (.v (.int .i64 (α w))):=y0
theorem G1(a:Υ)(l:α a<=1000000)(k:U):
  AC γ 118 [bc a] k λe o=>o=k/\e=.v (.bool (ki a)):=by
 refine bg hm Ox acr ?_;have f:∀(L)(V),y7 (bc a) k (bR L V)=ji k (bV (λg=>L g ⟨a.toArray⟩) ()):=λL V=>Dx;refine aF @f ?_;refine aN λr y=>?_;refine eH ?_;refine cv (λP o=>∃x b:Nat,b<=α a/\α a<x+b/\lQ ⟨a.toArray⟩ x b=lQ ⟨a.toArray⟩ (α a+1) 0/\k.sub o/\o r=β (.it ⟨a.toArray⟩ b)/\P 0=bc a/\P 7=.ptr r 0)
  (λ_ o=>match o r with|some (.it _ b)=>α a - b|_=>0) ⟨α a+1,0,acq,acq,rfl,κ η y,μ _ _ _,?_⟩ ?_
 .exact rn
 .rintro P o⟨x,b,m,n,z,C,S,p,h⟩;refine aF @h ?_;by_cases D:b<α a
  .obtain⟨x,rfl⟩:∃i,x=i+1:=⟨x - 1,acq⟩;obtain⟨q,s,t⟩:=a2n a b D;have j:=oP a;rw[lQ,if_pos (by rw[j];exact D)]at z;refine XW S D ?_;generalize (Utf8.decode ⟨a.toArray⟩ b).1=c at*;generalize (Utf8.decode ⟨a.toArray⟩ b).2=E at*;have F (d:fS b c=θ):ki a=false:=by rw[d,aar]at z;rw[ki,<-z];rfl
   have u (d:fS b c=ζ):(∃W G:Nat,G<=α a/\α a<W+G/\lQ ⟨a.toArray⟩ W G=lQ ⟨a.toArray⟩ (α a+1) 0/\k.sub (o.set r (.it ⟨a.toArray⟩ (b+E)))/\(o.set r (.it ⟨a.toArray⟩ (b+E))) r=β (.it ⟨a.toArray⟩ G)):=by rw[d,a9N]at z;grind[κ,μ]
   have T:((b:Int)=0)=(b=0):=acr;have v:(match o r with|some (.it _ b)=>α a - b|_=>0)=α a - b:=by rw[S]
   have w:(match(o.set r (.it ⟨a.toArray⟩ (b+E))) r with|some (.it _ b)=>α a - b|_=>0)=α a -(b+E):=by rw[μ]
   have A:α a -(b+E)<α a - b:=acq;by_cases jw:(97)<=(c:Int)
   .by_cases a2:(c:Int)<=122
    .have d:fS b c=true:=by simp[fS,jw,a2]
     refine aF (aP @p @h @jw @a2) ?_;simp_all
    .by_cases a0:(b:Int)=0
     .have d:fS b c=false:=by simp[fS,a2];omega
      refine aF (bl @p @h @jw @a2 @a0) ?_;exact⟨k,κ C y,rfl,by rw[F d]⟩
     .have d:fS b c=false:=by simp[fS,a2];omega
      have a3:¬(c:Int)<48:=acq;have a4:(57:Int)<c:=acq;have a5:¬(c:Int)=95:=acq;refine aF (bz @p @h @jw @a2 @a0 @a3 @a4 @a5) ?_;exact⟨k,κ C y,rfl,by rw[F d]⟩
   .by_cases a0:(b:Int)=0
    .have d:fS b c=false:=by simp[fS,jw];omega
     refine aF (aP @p @h @jw @a0) ?_;exact⟨k,κ C y,rfl,by rw[F d]⟩
    .have T:¬b=0:=acq;by_cases a3:(c:Int)<48
     .have d:fS b c=false:=by simp[fS,jw];omega
      have a5:¬(c:Int)=95:=acq;refine aF (bx @p @h @jw @a0 @a3 @a5) ?_;exact⟨k,κ C y,rfl,by rw[F d]⟩
     .by_cases a4:(57:Int)<c
      .by_cases a5:(c:Int)=95
       .have d:fS b c=true:=by simp[fS,a5,T]
        refine aF (cb @p @h @jw @a0 @a3 @a4 @a5) ?_;simp_all
       .have d:fS b c=false:=by simp[fS,jw,a5];omega
        refine aF (cb @p @h @jw @a0 @a3 @a4 @a5) ?_;exact⟨k,κ C y,rfl,by rw[F d]⟩
      .have d:fS b c=true:=by simp[fS,jw,T];omega
       refine aF (bx @p @h @jw @a0 @a3 @a4) ?_;simp_all
  .have B:ki a=decide (1<=α a/\α a<=16):=by
    have:lQ ⟨a.toArray⟩ x b=true:=by
     cases x with
     |zero=>rfl
     |succ x=>rw[lQ,if_neg (by rw[oP];exact D)]
    rw[ki,<-z,this,a9N]
   refine XX S D ?_;by_cases d1:(1:Int)<=α a
   .by_cases d2:(α a:Int)<=16
    .refine aF (bl @p @h @tR @d1 @d2) ?_;grind
    .refine aF (bl @p @h @tR @d1 @d2) ?_;grind
   .refine aF (aP @p @h @tR @d1) ?_;grind
def bB(a:List Υ):Ψ:=a.map bc
variable{h5:List Υ}
def hn:(bB h5).length=α h5:=by simp[bB]
def tS{a:List Υ}{b:Nat}(c:b<α a):(bB a)[b]?=β (bc (a.getD b [])):=by simp[bB,c]
def zC:eG 1 (β (bc w))=β (.bZ [bc w]):=rfl
theorem a2o(a:List Υ)(C:Own)(h:Υ)(T:α a<=1000000)(d:U):
  AC γ 235 [.J (bB a) C,bc h] d λF o=>o=d/\∃k:Int,F=.v (.int .i64 k)/\decide (0<=k)=decide (h∈a):=by
 refine bg hm RC acr ?_;have G:=hn (h5:=a);refine aF @G ?_;refine cv (λc o=>∃b:Nat,b<=α a/\o=d/\h∉a.take b/\c 0=.J (bB a) C/\c 1=bc h/\c 7=.v (.int .i64 (α a))/\c 8=.v (.int .i64 b))
  (λc _=>match c 8 with|.v (.int _ k)=>(α a - k).toNat|_=>0) ⟨0,acq,rfl,acr,?_⟩ ?_
 .exact rn
 .rintro c d⟨b,V,rfl,W,p,r,x,y⟩;by_cases z:(b:Int)<α a
  .have L:b<α a:=acq;have D:=tS L;have P:a.getD b []∈a:=by simp_all
   have e:a.take (b+1)=a.take b++[a.getD b []]:=by simp_all
   generalize a.getD b []=S at*;by_cases E:h=S
   .refine aF (de @p @r @x @y @z @hX @D @zC @E) ?_;refine⟨d,η,rfl,b,rfl,?_⟩;simp[P]
   .refine aF (de @p @r @x @y @z @hX @D @zC @E) ?_;grind
  .obtain rfl:b=α a:=acq;refine aF (bl @p @r @x @y @z) ?_;refine⟨d,η,rfl,-1,rfl,?_⟩;simp_all
def a2p(b:List Υ)(d:Own)(c:Υ)(h:α b<=1000000)(a:U):
  AC γ 177 [.J (bB b) d,bc c] a λk o=>o=a/\k=.v (.bool (decide (c∈b))):=by
 refine bg hm Qa acr ?_;refine eH ?_;refine ag (a2o b d c h a) ?_;rintro _ a⟨rfl,r,rfl,p⟩;refine aF @p ?_
 all_goals exact⟨a,η,rfl⟩
def mQ(a:List Υ)(b:Nat):Bool:=ki (a.getD b [])&&(!decide (a.getD b []=[105,100])&& !decide (a.getD b []∈a.take b))
def o2(a:List Υ):Bool:=(χ (α a)).all (mQ a)&&decide (1<=α a/\α a<=7)
theorem zD(a:e<α h5)(b:mQ h5 e=θ):o2 h5=false:=by grind[o2,Bool.and_eq_false_iff,List.all_eq_false]
theorem a2q(b:∀a,a<α h5->mQ h5 a=ζ):o2 h5=decide (1<=α h5/\α h5<=7):=by
 have:(χ (α h5)).all (mQ h5)=true:=by simp_all
 rw[o2,this,a9N]
theorem a2r(a:List Υ)(x:Own)(n:α a<=1000000)(V:∀W∈a,α W<=1000000)(c:U):
  AC γ 119 [.J (bB a) x] c λe E=>E=c/\e=.v (.bool (o2 a)):=by
 refine bg hm Oz acr ?_;have y:=hn (h5:=a);refine aF @y ?_;refine cv (λr E=>∃b:Nat,b<=α a/\E=c/\(∀z,z<b->mQ a z=ζ)/\r 0=.J (bB a) x/\r 5=.J (bB a) x/\r 6=.v (.int .i64 (α a))/\r 7=.v (.int .i64 b))
  (λr _=>match r 7 with|.v (.int _ f)=>(α a - f).toNat|_=>0) ⟨0,acq,rfl,λz g=>by omega,?_⟩ ?_
 .exact rn
 .rintro r c⟨b,q,rfl,i,h,k,o,p⟩;by_cases C:(b:Int)<α a
  .have D:b<α a:=acq;have j:=tS D;have l:a.getD b []∈a:=by simp_all
   have P:mQ a b=(ki (a.getD b [])&&(!decide (a.getD b []=[105,100])&& !decide (a.getD b []∈a.take b))):=rfl;generalize a.getD b []=d at*;refine aF (bz @h @k @o @p @C @hX @j @zC) ?_;refine ag (G1 d (V d l) c) ?_;rintro _ c⟨rfl,rfl⟩;cases S:ki d
   .refine aF (aP @h @k @o @p) ?_;exact⟨c,η,rfl,by rw[zD D (by rw[P,S];rfl)]⟩
   .have s:(bB a).take b=bB (a.take b):=by simp[bB]
    by_cases F:d=[105,100]
    .have G:jk .eql (bc d) (.v (.string ⟨#[105,100]⟩))=β (.v (.bool ζ)):=by have:=rl (a:=d) (b:=[105,100]);rw[decide_eq_true F]at this;exact this
     refine aF (bl @h @k @o @p @G) ?_;exact⟨c,η,rfl,by rw[zD D (by rw[P,S,decide_eq_true F];rfl)]⟩
    .have G:jk .eql (bc d) (.v (.string ⟨#[105,100]⟩))=β (.v (.bool θ)):=by have:=rl (a:=d) (b:=[105,100]);rw[decide_eq_false F]at this;exact this
     have m:dX 1 (.J (bB a) x) ε (β (.v (.int .i64 (b))))=β (.J (bB (a.take b)) .any):=by grind[oO,aW,bB,bc,ρ,Int.toNat_natCast]
     refine aF (bx @h @k @o @p @G @m) ?_;refine ag (a2p (a.take b) _ d (by rw[a8l];omega) c) ?_;rintro _ c⟨rfl,rfl⟩;by_cases T:d∈a.take b
     .refine aF (bl @h @k @o @p @T) ?_;exact⟨c,η,rfl,by rw[zD D (by simp_all)]⟩
     .refine aF (bl @h @k @o @p @T) ?_;refine⟨⟨b+1,acq,λz g=>?_,acr⟩,acq⟩;grind
  .obtain rfl:b=α a:=acq;have L:=a2q i;by_cases d1:(1:Int)<=α a
   .by_cases d2:(α a:Int)<=7
    .refine aF (bz @h @k @o @p @C @y @d1 @d2) ?_;exact⟨c,η,rfl,by rw[L];simp;omega⟩
    .refine aF (bz @h @k @o @p @C @y @d1 @d2) ?_;exact⟨c,η,rfl,by rw[L];simp;omega⟩
   .refine aF (cb @h @k @o @p @C @y @d1) ?_;exact⟨c,η,rfl,by rw[L];simp;omega⟩
structure db where
 kind:UInt8
 table:Υ
 aE:List Υ
 row:Τ
structure df where
 d:db
 gw:Own
 dy:Own
def df.C(a:df):Ψ:=[ah a.d.kind,bc a.d.table,.J (bB a.d.aE) a.gw,.J (af a.d.row) a.dy]
def df.V(a:df):R:=.agg a.C
def df.a2s{a:df}:α a.C=4:=rfl
def df.m1{a:df}:aQ θ 1 (a.C.drop 1)=bc a.d.table:=rfl
def df.m2{a:df}:aQ θ 1 (a.C.drop 2)=.J (bB a.d.aE) a.gw:=rfl
def df.m3{a:df}:aQ θ 1 (a.C.drop 3)=.J (af a.d.row) a.dy:=rfl
def db.ok(a:db):Prop:=α a.table<=16/\α a.aE<=8/\(∀b∈a.aE,α b<=16)/\α a.row<=255
def eU(a:db):Bool:=ki a.table&&
  (if a.kind.toNat=1 then o2 a.aE&&decide (α a.row=0)
   else if a.kind.toNat=2 then decide (α a.aE=0)&&decide (α a.row=0)
   else if a.kind.toNat=3\/a.kind.toNat=4 then decide (α a.aE=0)&&(decide (2<=α a.row)&&decide (α a.row<=8))
   else θ)
structure db.Fit(d:db):Prop where
 t:α d.table<=1000000
 c:α d.aE<=1000000
 cs:∀c∈d.aE,α c<=1000000
 r:α d.row<=1000000
def G2(a:df)(k:a.d.Fit)(b:U):
  AC γ 58 [a.V] b λo p=>p=b/\o=.v (.bool (eU a.d)):=by
 obtain⟨⟨r,d,c,h⟩,x,y⟩:=a;obtain⟨z,C,D,G⟩:=k;have L:=hn (h5:=c);have P:=bM (t:=h);show AC _ _ [.agg [ah r,bc d,.J (bB c) x,.J (af h) y]] b _;refine aL hm MT ?_;refine bp λS T=>?_;refine bh (G1 d z _) ?_;refine aG (λE=>?_) λE=>?_
 .rw[eU];exact aS
 refine aG (λF=>?_) λF=>?_
 .refine bh (a2r c _ C D _) ?_
  repeat' first|refine aG (λ_=>?_) λ_=>?_|trivial
  all_goals (rw[eU];exact aS)
 repeat' first|refine aG (λ_=>?_) λ_=>?_|trivial
 all_goals (rw[eU];exact aS)
def o3(b:Nat)(a:UInt8):Bool:=(decide (97<=a.toNat)&&decide (a.toNat<=122))||(!decide (b=0)&&((decide (48<=a.toNat)&&decide (a.toNat<=57))||decide (a.toNat=95)))
def o4(a:Υ):Bool:=(χ (α a)).all (λb=>o3 b (a.getD b 0))&&(decide (0<α a)&&decide (α a<17))
def G3(a:Υ)(d:U)(y:α a<=1000000):
  AC γ 130 [bc a] d λp h=>h=d/\p=.v (.bool (o4 a)):=by
 refine aL hm OV ?_;refine cd [0] (λb:Nat=>[(3,.v (.int .i64 b))]) (λb h=>h=d/\b<=α a/\∀c<b,o3 c (a.getD c 0)=ζ) (λb=>α a - b) 0 ?_ ?_
 .refine aa ?_;simp
 rintro b _⟨rfl,z,k⟩C;refine aa ?_;refine aG (λr=>?_) λr=>?_
 .have x:o3 b (a.getD b 0)=θ->o4 a=false:=λo=>by rw[o4,te acq o];rfl
  repeat' first|refine aG (λ_=>?_) λ_=>?_|trivial
  all_goals first
   |omega
   |(rw[x (by rw[o3];exact rq)])
   |exact⟨b+1,⟨acq,upto k (by rw[o3];exact rq)⟩,rfl,acq⟩
 have D:o4 a=(decide (0<α a)&&decide (α a<17)):=by rw[o4,tf λc o=>k c acq];rfl
 repeat' first|refine aG (λ_=>?_) λ_=>?_|trivial
 all_goals exact aS
def lR(a:List Υ)(b:Nat):Bool:=o4 (a.getD b [])&&(!decide (a.getD b []=[105,100])&&(χ b).all λc=> !decide (a.getD c []=a.getD b []))
def zE(a:List Υ):Bool:=(χ (α a)).all (lR a)
def pf(a:db):Bool:=o4 a.table&&
  (if a.kind.toNat=1 then zE a.aE&&(decide (0<α a.aE)&&(decide (α a.aE<8)&&decide (α a.row=0)))
   else if a.kind.toNat=2 then decide (α a.aE+α a.row=0)
   else(decide (a.kind.toNat=3)||decide (a.kind.toNat=4))&&(decide (α a.aE=0)&&(decide (1<α a.row)&&decide (α a.row<9))))
theorem a2t(h:df)(E:h.d.Fit)(k:U):
  AC γ 63 [h.V] k λF G=>G=k/\F=.v (.bool (pf h.d)):=by
 obtain⟨⟨x,o,b,p⟩,L,P⟩:=h;obtain⟨y,S,z,T⟩:=E
 dsimp only at y S z T|-
 have l:=hn (h5:=b);have m:=bM (t:=p);show AC _ _ [.agg [.v (.int .u8 x.toNat),bc o,.J (bB b) L,.J (af p) P]] k _;refine aL hm N3 ?_;refine bp λn q=>?_;refine bh (G3 o _ y) ?_;refine aG (λV=>?_) λV=>?_
 .rw[pf];exact aS
 refine aG (λW=>?_) λW=>?_
 .have s:zE b=(χ (α b)).all (lR b):=rfl;have t:=@tS b;have u:∀r,jk .eql (bc r) (.v (.string ⟨#[105,100]⟩))=β (.v (.bool (decide (r=[105,100])))):=λr=>rl;have e:∀a,a<α b->(b.getD a []).length<=1000000:=λa f=>z _ (by simp_all);refine gX [1] (λa:Nat=>[(3,.v (.int .i64 a))]) (λa=>a<=α b/\∀d<a,lR b d=ζ) (λa=>α b - a) 0 ⟨acq,λd C=>by omega⟩ (aR) ?_;rintro a⟨f,g⟩i;refine aa ?_;refine aG (λc2=>?_) λc2=>?_
  .have D:lR b a=θ->pf ⟨x,o,b,p⟩=false:=λC=>by grind[pf,te]
   refine bh (G3 _ _ (e a acq)) ?_
   repeat' first|refine aG (λ_=>?_) λ_=>?_|trivial
   .exact aO (D (by rw[lR];simp_all)).symm
   .refine gX [1,3] (λc:Nat=>[(4,.v (.int .i64 c))]) (λc=>c<=a/\∀d<c,b.getD d []≠b.getD a []) (λc=>a - c) 0 ⟨acq,λd C=>by omega⟩ (aR) ?_;rintro c⟨v,j⟩i;refine aa ?_;refine aG (λaD=>?_) λaD=>?_
    .refine aG (λaP=>?_) λaP=>?_;grind[aO,lR,te]
     .exact⟨c+1,⟨acq,upto j aP⟩,rfl,acq⟩
    .refine⟨a+1,⟨acq,upto g ?_⟩,rfl,acq⟩;grind[lR,tf]
   .exact aO (D (by rw[lR];simp_all)).symm
  repeat' first|refine aG (λ_=>?_) λ_=>?_|trivial
  all_goals grind[pf,tf,aS]
 repeat' first|refine aG (λ_=>?_) λ_=>?_|trivial
 all_goals (rw[pf];exact aS)
theorem a2u(b a:Nat)(h:b<18446744073709551616)(k:0<a):br .quo (.int .u64 b) (.int .u64 (a:Int))=β (.int .u64 ((b/a:Nat):Int)):=by have c:br .quo (.int .u64 b) (.int .u64 (a))=(if(a:Int)=0 then ε else β (.int .u64 (IntKind.u64.wrap ((b:Int).tdiv (a:Int))))):=rfl;have d:((b:Int).tdiv (a:Int))=((b/a:Nat)):=rfl;have o:=aaY b a;rw[c,if_neg acq,d];grind[wrap_u64]
def zF(b a:Nat)(d:0<a):br .rem (.int .u64 b) (.int .u64 (a:Int))=β (.int .u64 ((b%a:Nat):Int)):=by have c:br .rem (.int .u64 b) (.int .u64 (a))=(if(a:Int)=0 then ε else β (.int .u64 ((b:Int).tmod (a:Int)))):=rfl;rw[c,if_neg acq];rfl
variable{q Y:R -> U -> Prop}
theorem rU{h:cC q}(p:av s f 1 (j8.map ah) n)(a:bT f 1 b6=β (e,w.map ah))(r:α j8+α w<=70368744177664)
  (x:∀c d,av s d 1 ((j8++w).map ah) c->q c d):jW 1 1 f n b6 (bR q h):=by
 have y:α w=e:=by
  unfold bT at a;split at a
  .split at a
   .rename_i z _ C;simp only[a8t,a9u]at a;have b:=congrArg α a.2;rw[cW (d:=1) (by simp_all)]at b;simp at b;omega
   .cases a
  .split at a
   .split at a
    .rename_i k _ o;simp only[a8t,a9u]at a;have b:=congrArg α a.2;simp at b;omega
    .cases a
   .cases a
  .split at a
   .split at a
    .rename_i k _ o;simp only[a8t,a9u]at a;have b:=congrArg α a.2;simp at b;omega
    .cases a
   .cases a
  .cases a
 grind[eZ]
end Go.Proofs.YtkafjfkjahgihaaGreat
