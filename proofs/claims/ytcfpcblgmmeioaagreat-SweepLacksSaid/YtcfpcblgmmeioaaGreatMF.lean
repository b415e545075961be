import Derived.Test.YtcfpcblgmmeioaaGreatME
import Derived.Test.YtcfpcblgmmeioaaGreatMD
import Derived.Test.YtcfpcblgmmeioaaGreatMC
set_option linter.all false
open Option renaming some->β,none->ζ
open Go.Proofs.Tryz renaming prog->γ
open Bool renaming true->η,false->ι
open Go.bD.U renaming a6->θ,ae->κ,ag->μ,ai->ξ,an->ο,au->π,set_set->τ,aI->χ,bK->Ο
open UInt8 renaming ofNat->ν
open BitVec renaming ofInt->ρ
open Go.bD.R renaming cells->σ
open Go.Proofs.YtcfpcblgmmeioaaGreat.isRow renaming cells->φ
open List renaming zipWith->ψ,range->ω,length_append->Β,take_of_length_le->Ε,getElem?_eq_some_iff->Ζ,length->α
open Go.Proofs.YtcfpcblgmmeioaaGreat.Ext renaming of->Α
open Prod renaming fst->Γ
open Go.Proofs.YtcfpcblgmmeioaaGreat.bB renaming cells->Ξ
open Go.bD.bj renaming nil->Τ
set_option maxRecDepth 100000
namespace Go.bD
open Go
structure ka(c:U)(k:Nat)(a:R)(n:Nat)(us:ύ):Prop where
 src:∀b,c.sub b->bW b k a=β (n,us)
 len:fi a=β (.v (.int .i64 (n:Int)))
 one:a.cells=[a]
 full:α us=n*k
variable{f s e0:U}{g H c0:ύ}{e i v M b9 j1:Nat}
def ka.mono{a:R}(b:ka f e a i g)(c:f.sub s):ka s e a i g:=⟨λd h=>b.src d (π c h),b.len,b.one,b.full⟩
theorem ka.J{s:U}{b:Nat}{a:ύ}{o:Own}(c:aY b a):ka s b (.J a o) (α a) (flat a):=⟨λk _=>by
 have:=a7E.2 λd h=>decide_eq_true (c d h);simp only[bW,this,if_true],rfl,rfl,cU c⟩
variable{n b5:R}
theorem av.ak(b:av s f e g n)(k:0<e):∃a,α g=a*e/\ka f e n a g:=by
 obtain⟨a,c,_,d⟩:=b.src;refine⟨a,c,λo h=>?_,d,?_,c⟩
 .obtain⟨p,r,x,_⟩:=(av.mono b h).src;grind
 .rcases b.2 with⟨_,rfl|rfl⟩|⟨y,a,z,C,rfl,_⟩<;>rfl
variable{t Z:R -> U -> Prop}{b4:FuncId}{m:Program}
theorem AC.nI(h:View f n s b5)(k:AC m b4 (g++b5::H) s t):AC m b4 (g++n::H) f t:=by
 refine k.pre λC o p a r=>?_;have x:=a.2 (α g) n ς;obtain⟨y,b,D⟩:=h p o _ r x;refine⟨y,?_,b⟩;have c:=a.mono b.le;refine⟨by rw[c.1];simp,λd z E=>?_⟩;by_cases F:d=α g;simp_all
 .refine c.2 d z ?_;grind
end Go.bD
namespace Go.Proofs.YtcfpcblgmmeioaaGreat
open Go Go.bD
theorem a0B(a:Nat)(C:a<=100000000)(d:U):
  AC γ 337 [.J [] .nil,.v (.int .i64 (a:Int))] d λr x=>av d x 1 [] r:=by
 refine bd hm Uk ς ?_;have h:¬(a:Int)<0:=δ;have k:(a:Int) -(0 - 0)=a:=δ;have o:cn 1 (.J [] .nil) ζ (β (.v (.int .i64 0))) ζ=β (.J [] .nil):=xG;by_cases c1:(0:Int)<a
 .refine dL (bh @h @k @c1 @o @aaV) ?_;refine Dd δ δ δ λb c D p E y F=>?_;have z:cn 1 (.aq b a c 1) ζ (β (.v (.int .i64 0))) ζ=β (.aq b 0 c 1):=ib (v:=0) δ;refine dL @z ?_;refine⟨_,θ,μ θ p,.inr ⟨b,0,c,_,rfl,p,ξ _ _ _,?_,ς,ς,δ,y⟩⟩;simp_all
 .refine dL (bh @h @k @c1 @o @aaV) ?_;exact⟨_,θ,av.nil θ⟩
def a0C(d:U)(h k:R)(D:Own)(o r:Nat)(V i:ύ)(z:ka d 1 h o V)(C:ka d 1 k r i)(k3:o<=100000)(k4:r<=100000):
  AC γ 318 [.J [h,k] D] d λB b=>av d b 1 (V++i) B:=by
 refine bd hm TY ς ?_;have H:=z.len;have I:=C.len;have u:bO d 1 (.J [h,k] D) [h,k]:=bO.J λk5 v=>by
  simp only[a7J,a8J,or_false]at v;rcases v with rfl|rfl
  .rw[z.one];rfl
  .rw[C.one];rfl
 have W:(([h,k].length):Int)=2:=rfl;obtain⟨K,e,M⟩:=u.get 0 h rfl;obtain⟨N,f,O⟩:=u.get 1 k rfl;have w:∀b,d.sub b->cW ι 1 b K=β h:=λb j=>by rw[M.ld b j ι 1 δ (by rw[z.one];simp),z.one];rfl
 have A:∀b,d.sub b->cW ι 1 b N=β k:=λb j=>by rw[O.ld b j ι 1 δ (by rw[C.one];simp),C.one];rfl
 have Q:((0:Nat):Int)=0:=rfl;have X:((1:Nat):Int)=1:=rfl;rw[Q]at e;rw[X]at f;have Y:=w d θ;have Z:=A d θ;have bh:¬(o:Int)<0:=δ;have bz:¬(o)+(r:Int)<0:=δ;refine dL @W ?_;refine cm (λa b=>b=d/\a 0=.J [h,k] D/\a 9=.J [h,k] D/\a 10=.v (.int .i64 2)/\((a 11=.v (.int .i64 0)/\a 3=.v (.int .i64 0))\/(a 11=.v (.int .i64 1)/\a 3=.v (.int .i64 o))\/(a 11=.v (.int .i64 2)/\a 3=.v (.int .i64 ((o)+(r))))))
  (λa _=>match a 11 with|.v (.int _ l)=>2 - l.toNat|_=>0) ⟨rfl,?_⟩ ?_
 .refine dL @W ?_;simp
 rintro a m⟨rfl,E,F,G,n⟩;rcases n with⟨x,p⟩|⟨x,p⟩|⟨x,p⟩
 .refine dL (cg @E @F @G @x @p @e @Y @H @bh @aaR) ?_;simp
 .refine dL (cO @E @F @G @x @p @f @Z @I @bz) ?_;simp
 .have j9:(o)+(r)=((o+r:Nat):Int):=δ;rw[j9]at p;simp -dsimp -implicitDefEqProofs (disch:=first|omega|assumption|(simp only[aW,Nat.reduceAdd];try omega)) only[go_sem,simprocAttr,-List.reduceReplicate,↓eS,E,F,G,x,p];refine ah (a0B (o+r) δ _) ?_;intro k6 k7 k0;simp -dsimp -implicitDefEqProofs (disch:=first|omega|assumption|(simp only[aW,Nat.reduceAdd];try omega)) only[go_sem,simprocAttr,-List.reduceReplicate,↓eS,E,F,G,x,p,W];refine cm (λa b=>a 25=.J [h,k] D/\a 26=.v (.int .i64 2)/\((a 27=.v (.int .i64 0)/\av m b 1 [] (a 6))\/(a 27=.v (.int .i64 1)/\av m b 1 V (a 6))\/(a 27=.v (.int .i64 2)/\av m b 1 (V++i) (a 6))))
   (λa _=>match a 27 with|.v (.int _ l)=>2 - l.toNat|_=>0) ?_ ?_
  .simp -dsimp -implicitDefEqProofs (disch:=first|omega|assumption|(simp only[aW,Nat.reduceAdd];try omega)) only[go_sem,simprocAttr,-List.reduceReplicate,↓eS,E,F,G,x,p,W];exact .inl k0
  rintro a g⟨L,P,n⟩;have S:=z.full;have q:=C.full;rcases n with⟨y,c⟩|⟨y,c⟩|⟨y,c⟩
  .have T:=w g c.1;generalize s:a 6=k1 at c;simp -dsimp -implicitDefEqProofs (disch:=first|omega|assumption|(simp only[aW,Nat.reduceAdd];try omega)) only[go_sem,simprocAttr,-List.reduceReplicate,↓eS,L,P,y,e,T,s];refine fj c δ (z.src g c.1) S (by rw[a7x,S];omega) (by rw[a7x,S];omega) λk2 b t=>?_;simp -dsimp -implicitDefEqProofs (disch:=first|omega|assumption|(simp only[aW,Nat.reduceAdd];try omega)) only[go_sem,simprocAttr,-List.reduceReplicate,↓eS,L,P,y,e,T];exact .inr (.inl t)
  .have T:=A g c.1;generalize s:a 6=k1 at c;simp -dsimp -implicitDefEqProofs (disch:=first|omega|assumption|(simp only[aW,Nat.reduceAdd];try omega)) only[go_sem,simprocAttr,-List.reduceReplicate,↓eS,L,P,y,f,T,s];refine fj c δ (C.src g c.1) q (by rw[S,q];omega) (by rw[S,q];omega) λk2 b t=>?_;simp -dsimp -implicitDefEqProofs (disch:=first|omega|assumption|(simp only[aW,Nat.reduceAdd];try omega)) only[go_sem,simprocAttr,-List.reduceReplicate,↓eS,L,P,y,f,T];exact .inr (.inr t)
  .refine dL (aE @L @P @y) ?_;exact⟨_,θ,c⟩
def a0D(a:Nat)(D:a<=100000000)(d:U):
  AC γ 338 [.J [] .nil,.v (.int .i64 (a:Int))] d λr x=>av d x 37 [] r:=by
 refine bd hm Um ς ?_;have h:¬(a:Int)<0:=δ;have k:(a:Int) -(0 - 0)=a:=δ;have o:cn 37 (.J [] .nil) ζ (β (.v (.int .i64 0))) ζ=β (.J [] .nil):=xG;by_cases c1:(0:Int)<a
 .refine dL (bh @h @k @c1 @o @aaV) ?_;refine Dd δ δ δ λb c E p F y z=>?_;have C:cn 37 (.aq b a c 37) ζ (β (.v (.int .i64 0))) ζ=β (.aq b 0 c 37):=ib (v:=0) δ;refine dL @C ?_;refine⟨_,θ,μ θ p,.inr ⟨b,0,c,_,rfl,p,ξ _ _ _,?_,ς,ς,δ,y⟩⟩;rw[Ψ,lu,z];simp;omega
 .refine dL (bh @h @k @c1 @o @aaV) ?_;exact⟨_,θ,av.nil θ⟩
def a0E(d:U)(h k:R)(D:Own)(o r:Nat)(V i:ύ)(z:ka d 37 h o V)(C:ka d 37 k r i)(k3:o<=100000)(k4:r<=100000):
  AC γ 319 [.J [h,k] D] d λB b=>av d b 37 (V++i) B:=by
 refine bd hm U0 ς ?_;have H:=z.len;have I:=C.len;have u:bO d 1 (.J [h,k] D) [h,k]:=bO.J λk5 v=>by
  simp only[a7J,a8J,or_false]at v;rcases v with rfl|rfl
  .rw[z.one];rfl
  .rw[C.one];rfl
 have W:(([h,k].length):Int)=2:=rfl;obtain⟨K,e,M⟩:=u.get 0 h rfl;obtain⟨N,f,O⟩:=u.get 1 k rfl;have w:∀b,d.sub b->cW ι 1 b K=β h:=λb j=>by rw[M.ld b j ι 1 δ (by rw[z.one];simp),z.one];rfl
 have A:∀b,d.sub b->cW ι 1 b N=β k:=λb j=>by rw[O.ld b j ι 1 δ (by rw[C.one];simp),C.one];rfl
 have Q:((0:Nat):Int)=0:=rfl;have X:((1:Nat):Int)=1:=rfl;rw[Q]at e;rw[X]at f;have Y:=w d θ;have Z:=A d θ;have bh:¬(o:Int)<0:=δ;have bz:¬(o)+(r:Int)<0:=δ;refine dL @W ?_;refine cm (λa b=>b=d/\a 0=.J [h,k] D/\a 9=.J [h,k] D/\a 10=.v (.int .i64 2)/\((a 11=.v (.int .i64 0)/\a 3=.v (.int .i64 0))\/(a 11=.v (.int .i64 1)/\a 3=.v (.int .i64 o))\/(a 11=.v (.int .i64 2)/\a 3=.v (.int .i64 ((o)+(r))))))
  (λa _=>match a 11 with|.v (.int _ l)=>2 - l.toNat|_=>0) ⟨rfl,?_⟩ ?_
 .refine dL @W ?_;simp
 rintro a m⟨rfl,E,F,G,n⟩;rcases n with⟨x,p⟩|⟨x,p⟩|⟨x,p⟩
 .refine dL (cg @E @F @G @x @p @e @Y @H @bh @aaR) ?_;simp
 .refine dL (cO @E @F @G @x @p @f @Z @I @bz) ?_;simp
 .have j9:(o)+(r)=((o+r:Nat):Int):=δ;rw[j9]at p;simp -dsimp -implicitDefEqProofs (disch:=first|omega|assumption|(simp only[aW,Nat.reduceAdd];try omega)) only[go_sem,simprocAttr,-List.reduceReplicate,↓eS,E,F,G,x,p];refine ah (a0D (o+r) δ _) ?_;intro k6 k7 k0;simp -dsimp -implicitDefEqProofs (disch:=first|omega|assumption|(simp only[aW,Nat.reduceAdd];try omega)) only[go_sem,simprocAttr,-List.reduceReplicate,↓eS,E,F,G,x,p,W];refine cm (λa b=>a 25=.J [h,k] D/\a 26=.v (.int .i64 2)/\((a 27=.v (.int .i64 0)/\av m b 37 [] (a 6))\/(a 27=.v (.int .i64 1)/\av m b 37 V (a 6))\/(a 27=.v (.int .i64 2)/\av m b 37 (V++i) (a 6))))
   (λa _=>match a 27 with|.v (.int _ l)=>2 - l.toNat|_=>0) ?_ ?_
  .simp -dsimp -implicitDefEqProofs (disch:=first|omega|assumption|(simp only[aW,Nat.reduceAdd];try omega)) only[go_sem,simprocAttr,-List.reduceReplicate,↓eS,E,F,G,x,p,W];exact .inl k0
  rintro a g⟨L,P,n⟩;have S:=z.full;have q:=C.full;rcases n with⟨y,c⟩|⟨y,c⟩|⟨y,c⟩
  .have T:=w g c.1;generalize s:a 6=k1 at c;simp -dsimp -implicitDefEqProofs (disch:=first|omega|assumption|(simp only[aW,Nat.reduceAdd];try omega)) only[go_sem,simprocAttr,-List.reduceReplicate,↓eS,L,P,y,e,T,s];refine fj c δ (z.src g c.1) S (by rw[a7x,S];omega) (by rw[a7x,S];omega) λk2 b t=>?_;simp -dsimp -implicitDefEqProofs (disch:=first|omega|assumption|(simp only[aW,Nat.reduceAdd];try omega)) only[go_sem,simprocAttr,-List.reduceReplicate,↓eS,L,P,y,e,T];exact .inr (.inl t)
  .have T:=A g c.1;generalize s:a 6=k1 at c;simp -dsimp -implicitDefEqProofs (disch:=first|omega|assumption|(simp only[aW,Nat.reduceAdd];try omega)) only[go_sem,simprocAttr,-List.reduceReplicate,↓eS,L,P,y,f,T,s];refine fj c δ (C.src g c.1) q (by rw[S,q];omega) (by rw[S,q];omega) λk2 b t=>?_;simp -dsimp -implicitDefEqProofs (disch:=first|omega|assumption|(simp only[aW,Nat.reduceAdd];try omega)) only[go_sem,simprocAttr,-List.reduceReplicate,↓eS,L,P,y,f,T];exact .inr (.inr t)
  .refine dL (aE @L @P @y) ?_;exact⟨_,θ,c⟩
def fW(k a:U)(b c:Nat)(d:Except Int (List ao)×af)(o:R):Prop:=
 match d.1 with
 |.error p=>bq a b c d.2/\Ext b c k a/\p≠0/\o=.aJ [.J [] .nil,.v (.int .i64 p)]
 |.ok bF=>∃r h,aB bB bF r/\o=.aJ [h,.v (.int .i64 0)]/\dr k a b c d.2 37 (flat r) h/\(bF=[]->h=.J [] .nil)
theorem fW.base{d h k:U}{b c:Nat}{o:Except Int (List ao)×af}{p:R}(a:fW h k b c o p)(r:Ext b c d h):fW d k b c o p:=by
 unfold fW at a|-;split at a
 .exact⟨a.1,r.trans a.2.1,a.2.2⟩
 grind[dr.base]
variable{n b5:R}{f s e0:U}{e i v M b9 j1:Nat}
theorem fW.shape{a:Except Int (List ao)×af}(d:fW f s e i a n):∃b c,n=.aJ [b,.v (.int .i64 c)]:=by grind[fW]
def a0F(b:U)(d k:Nat)(h:af)(E:bq b d k h)(a:List Ω)(o:ύ)(p:Own)(c:Nat)(F:1<=c)(G:c<=8)(r:aB isRow a o)(L:α a<=100000):
  AC γ 226 [.J o p,.bG 52 [dO d c] []] b λx P=>fW b P d k (oN h c a) x:=by
 refine bd hm RJ ς ?_;have S:=r.len;refine ak @S ?_;refine ah (vi (α a) δ b) ?_;rintro _ b⟨rfl,rfl⟩;refine bU ?_;have y:a1.bT (α a)<=100000:=by unfold a1.bT;omega
 refine ah (EL a o p (a1.bT (α a)) b r L y) ?_;rintro _ T⟨z,gs,V,rfl,W⟩;refine bU ?_;have C:=mE (g:=a1.bT (α a)) (l:=a);refine ah (EO T d k h (E.mono z) _ gs V c F G W (λe f=>by have:=C.2 e f;omega) (by rw[C.1];exact y)) ?_;intro x i g;have D:=fW.base (o:=oN h c a) g (Α z);obtain⟨j,l,rfl⟩:=D.shape;refine bU ?_;exact⟨_,θ,D⟩
def EV(d p:U)(b h:Nat)(k:af)(D:bq d b h k)(c:List Ω)(o:ύ)(r:R)(E:av d p 1 (flat o) r)(a:Nat)(F:1<=a)(G:a<=8)(x:aB isRow c o)(L:α c<=100000):
  AC γ 226 [r,.bG 52 [dO b a] []] p λy z=>fW d z b h (oN k a c) y:=by
 obtain⟨P,S,C⟩:=av.EI E x;refine AC.nI (g:=[]) S ?_;exact(a0F P b h k (D.mono C) c o .any a F G x L).mono λy z T=>fW.base T (Α C)
def a0G(b:U)(d k:Nat)(h:af)(E:bq b d k h)(a:List (ao))(o:ύ)(p:Own)(c:Nat)(F:1<=c)(G:c<=8)(r:aB bB a o)(L:α a<=100000):
  AC γ 229 [.J o p,.bG 96 [dO d c] []] b λx P=>fW b P d k (jZ h c a) x:=by
 refine bd hm RP ς ?_;have S:=r.len;refine ak @S ?_;refine ah (vi (α a) δ b) ?_;rintro _ b⟨rfl,rfl⟩;refine bU ?_;have y:a1.bT (α a)<=100000:=by unfold a1.bT;omega
 refine ah (EN a o p (a1.bT (α a)) b r L y) ?_;rintro _ T⟨z,gs,V,rfl,W⟩;refine bU ?_;have C:=mE (g:=a1.bT (α a)) (l:=a);refine ah (EP T d k h (E.mono z) _ gs V c F G W (λe f=>by have:=C.2 e f;omega) (by rw[C.1];exact y)) ?_;intro x i g;have D:=fW.base (o:=jZ h c a) g (Α z);obtain⟨j,l,rfl⟩:=D.shape;refine bU ?_;exact⟨_,θ,D⟩
def EW(d p:U)(b h:Nat)(k:af)(D:bq d b h k)(c:List (ao))(o:ύ)(r:R)(E:av d p 37 (flat o) r)(a:Nat)(F:1<=a)(G:a<=8)(x:aB bB c o)(L:α c<=100000):
  AC γ 229 [r,.bG 96 [dO b a] []] p λy z=>fW d z b h (jZ k a c) y:=by
 obtain⟨P,S,C⟩:=av.te E x;refine AC.nI (g:=[]) S ?_;exact(a0G P b h k (D.mono C) c o .any a F G x L).mono λy z T=>fW.base T (Α C)
def EX:∀(a:List ao)(b:gS),(a.foldl eD b).size=b.size+(a.map (·.size)).sum
 |[],b=>by simp
 |c::a,b=>by rw[a7S,EX a];simp[eD];omega
def yz:∀(b:List (Ω×Bool))(a:gS),(b.foldl dW a).size=a.size
 |[],a=>rfl
 |c::b,a=>by rw[a7S,yz b];unfold dW;split<;>rfl
def yA(a:bY):(eJ a).size=α a.rows+(a.kids.map (·.size)).sum:=by unfold eJ;rw[EX,yz]
structure pZ(d:Nat)(k:ao)(n:bY):Prop where
 ok:dV d n=η
 eq:k=fr n
 size:k.size=α n.rows+(n.kids.map (·.size)).sum
 nv:k.size<=1048576
variable{A j2:ao}{b3:bY}
def vl(a:fP e b3=β A):pZ e A b3:=by
 unfold fP at a;split at a
 .rename_i b;split at a
  .cases a
  .rename_i c;obtain rfl:=Δ a;exact⟨b,rfl,yA b3,by show(eJ b3).size<= _;omega⟩
 .cases a
variable{B:af}
def tg(a:iU B e A=β b3):pZ e A b3/\(b3.kind=2\/b3.kind=3):=by
 unfold iU at a;split at a
 .cases a
 .rename_i d hm;split at a
  .rename_i b;obtain rfl:=Δ a;refine⟨?_,b⟩;unfold de at hm;split at hm
   .cases hm
   .split at hm
    .cases hm
    .split at hm
     .rename_i c;obtain rfl:=Δ hm;exact vl c
     .cases hm
  .cases a
theorem pZ.leaf(b:pZ e A b3)(c:b3.kind=2):1<=α b3.rows/\α b3.rows<=4/\b3.kids=[]/\(∀a∈b3.rows,α a.1=e/\a.2=η):=by have:=b.ok;simp_all [dV]
theorem pZ.inner(k:pZ e A b3)(h:b3.kind=3):b3.rows=[]/\2<=α b3.kids/\α b3.kids<=4/\(∀a∈b3.kids,α a.key=e/\a≠az/\fq e a=η/\1<=a.size/\a.size<A.size):=by
 have d:=k.ok;unfold dV at d;have x:¬b3.kind=1:=by rw[h];decide
 have y:¬b3.kind=2:=by rw[h];decide
 rw[if_neg x,if_neg y,if_pos h]at d;simp only[Υ,a7E,decide_eq_true_eq,a8R,decide_eq_false_iff_not]at d;obtain⟨⟨_,z⟩,⟨⟨C,D⟩,E⟩,o⟩:=d;have p:=a7t C;have F:∀a∈b3.kids,1<=a.size:=λa b=>by
  simp_all [fq]
 refine⟨p,D,E,λa b=>⟨(o a b).1,(o a b).2,z a b,F a b,?_⟩⟩;have r:=k.size;rw[p]at r;simp only[a7x]at r;have G:∀(c:List ao),(∀a∈c,1<=a.size)->(α c:Int)<=(c.map (·.size)).sum:=by
  intro c
  induction c with
  |nil=>intro _;simp
  |cons L c ih=>grind
 obtain⟨P,S,T⟩:=a9b b;grind
def gB(d:Nat)(b:Ω):Nat->af->ao->Except Int (List ao)×af
  |0,c,_=>(.error 21,c)
  |k+1,c,o=>match iU c d o with
    |none=>(.error 21,c)
    |some a=>
      if a.kind=2 then
        (if kL (a.rows.map Γ) b=η then(.error 8,c)
         else oN c d ((a.rows.map Γ).take (eZ (a.rows.map Γ) b)++b::(a.rows.map Γ).drop (eZ (a.rows.map Γ) b)))
      else match a.kids[hN b a]? with
        |none=>(.error 21,c)
        |some p=>match gB d b k c p with
          |(.error r,h)=>(.error r,h)
          |(.ok x,h)=>jZ h d (a.kids.take (hN b a)++(x++a.kids.drop (hN b a+1)))
theorem yB(b:Ω):∀(a:List Ω),a≠[]->a1.cS bC b a<α a
 |[],c=>absurd rfl c
 |[_],_=>by simp[a1.cS]
 |_::d::h,_=>by
  have:=yB b (d::h) ς;grind[a1.cS,List.length_cons]
theorem yC(p:Nat)(r:Ω):∀(d:Nat)(c h:af)(k:ao)(b:List ao),gB p r d c k=(.ok b,h)->1<=α b/\α b<=3
 |0,c,h,k,b,a=>by rw[gB]at a;simp_all
 |d+1,c,h,k,b,a=>by
  rw[gB]at a;split at a
  .simp_all
  rename_i P y;obtain⟨x,z⟩:=tg y;split at a
  .rename_i o;obtain⟨C,D,_⟩:=x.leaf o;split at a
   .simp_all
   .have:=pX a;rw[this];simp only[a7x,a7Q,a1.chunks,(mE).1,a1.bT,Ψ,a7s,a7q,a7F,a7w];omega
  .rename_i o;obtain⟨_,C,D,_⟩:=x.inner (z.resolve_left o);split at a
   .simp_all
   .rename_i E S;split at a
    .simp_all
    .rename_i F G L;have ih:=yC p r d c G E F L;have:=pX a;rw[this];simp only[a7x,a7Q,a1.chunks,(mE).1,a1.bT,Ψ,a7q,a7F];omega
theorem a0H(D m:Nat)(p:Ω)(E:Own)(x:Nat)(n2:1<=x)(n3:x<=8):∀(S:Nat)(T:U)(F:af)(z:ao)(n q s:Own),bq T D m F->α z.sum=32->z.cC->0<S->z.size<S->
  AC γ 169 [dO D x,.agg (ab z n q s),.J (ad p) E] T λZ b01=>fW T b01 D m (gB x p S F z) Z:=by
 intro S
 induction S with
 |zero=>intro T F z n q s f n4 a27 b61 b02;omega
 |succ S ih=>
 intro T F z n q s f n4 a27 b62 b02;refine bd hm Q9 ς ?_;have h:∀a29,(R.agg a29).cells=a29:=λ_=>rfl;have B:∀d b c C y a30:R,putAt [d,b,c] 0 [C,y,a30]=[C,y,a30]:=λ_ _ _ _ _ _=>rfl;have G:∀d b c,aM η 3 [d,b,c]=.agg [d,b,c]:=λ_ _ _=>rfl;have g:∀d b,aM η 2 [d,b]=.agg [d,b]:=λ_ _=>rfl;have i:∀d b:R,List.take 2 [d,b]=[d,b]:=λ_ _=>rfl;have V:∀d b c:R,List.take 3 [d,b,c]=[d,b,c]:=λ_ _ _=>rfl;have H:∀d b c:R,[d,b,c].length=3:=λ_ _ _=>rfl;have b03:∀d b c:R,aM ι 1 [d,b,c]=d:=λ_ _ _=>rfl;have a34:∀d b c:R,aM ι 1 ([d,b,c].drop 2)=c:=λ_ _ _=>rfl;have a36:=aP (N:=n) (e6:=q) (h6:=s) n4;have a38:=a36.len;refine ak @h ?_;refine aN λj9 a42=>?_;refine ak (c2 @h @a38) ?_;refine aN λk8 k9=>?_;have n5:j9≠k8:=by rintro rfl;rw[ξ]at k9;cases k9
 have b04:T k8=none:=by rw[ο _ _ (Ι n5)]at k9;exact k9
 obtain⟨I,l0⟩:∃I:U,I=(T.set j9 (.cells [.ptr D 0,.v (.int .i64 (x))])).set k8 (.cells (ab z n q s)):=⟨_,rfl⟩;have k0:T.sub I:=by rw[l0];exact μ (μ θ a42) b04
 have aL:I k8=β (.cells (ab z n q s)):=by rw[l0,ξ]
 have aE:I j9=β (.cells [.ptr D 0,.v (.int .i64 (x))]):=by rw[l0,ο _ _ n5,ξ]
 refine ak (bw @h @a38 @ο @n5 @ξ a36.t37 @i @g) ?_;rw[<-l0];refine ah (yu I D m F (f.mono k0) z n q s n4 a27 x n2 n3) ?_;rintro Z n9⟨l1,l2⟩;obtain⟨a43,k⟩:∃a43,a43=gB x p (S+1) F z:=⟨_,rfl⟩;rw[<-k];rw[gB]at k;cases a00:iU F x z with
 |none=>rw[a00]at l2 k;obtain rfl:=l2;simp only at k;subst k;simp -dsimp -implicitDefEqProofs (disch:=first|omega|assumption|(simp only[aW,Nat.reduceAdd];try omega)) only[go_sem,simprocAttr,-List.reduceReplicate,h,B,H];refine aN λK M=>?_;refine ak (bh @h @B @H @G @τ) ?_;have a47:=π (π k0 l1) (μ (Y:=.cells [.v (.int .u8 0),.J [] .nil,.J [] .nil]) θ M);exact⟨_,θ,f.mono a47,Α a47,Θ,rfl⟩
 |some a=>
  rw[a00]at l2 k;simp only at k;obtain⟨C,y,rfl,b05⟩:=l2;obtain⟨a48,b06⟩:=tg a00;simp -dsimp -implicitDefEqProofs (disch:=first|omega|assumption|(simp only[aW,Nat.reduceAdd];try omega)) only[go_sem,simprocAttr,-List.reduceReplicate,h,B,H];refine aN λK M=>?_;obtain⟨L,l3⟩:∃L:U,L=n9.set K (.cells [.v (.int .u8 (a.kind.toNat)),C,y]):=⟨_,rfl⟩;have a01:n9.sub L:=by rw[l3];exact μ θ M
  have bw:L K=β (.cells [.v (.int .u8 (a.kind.toNat)),C,y]):=by rw[l3,ξ]
  have a52:=iS a.kind 2 δ;simp only[aag]at a52;rw[show ν 2=2 from rfl]at a52;refine ak (c7 @h @B @H @G @τ @ξ @b03) ?_;rw[τ,<-l3];obtain⟨b07,l4,P,a02,l5,a56,j,b08,b09⟩:=b05;have b10:fR n9 a C y l4 P:=⟨a56,j,(bO.dK a02 δ rfl (a56.cells λ_ _=>cY.cells)).mono l5.1,bO.dK l5 δ rfl (j.cells λ_ _=>Ξ),b08,b09⟩;have k1:=b10.mono a01;have a57:=(f.mono (π k0 l1)).cA M;have a61:=f.cA a42;have l6:=π k0 (π l1 a01);have a62:=a01 _ _ (l1 _ _ aE);have a63:=f.mono l6;by_cases N:a.kind=2
  .rw[if_pos N]at k;have a03:((a.kind.toNat:Int)=2)=True:=by rw[N];simp
   refine ak (c7 @h @B @H @G (κ bw) @a03 @V) ?_;refine ah (yt a l4 P C y L k1) ?_;rintro d t⟨b11,a65,u⟩;have b12:=bO.dK u δ rfl (a65.cells λ_ _=>φ);refine ak @h ?_;have b63:(a.rows.map Γ).length=α a.rows:=a7w _;obtain⟨b13,b14,_,_⟩:=a48.leaf N;generalize b15:a.rows.map Γ=k2 at*;refine ah (EG k2 b11 d p E t a65 b12 δ) ?_;rintro _ t⟨rfl,b64,rfl⟩;have b16:=u.1 _ _ bw;have a04:=u.1 _ _ a62;generalize eZ k2 p=o at*;cases a68:kL k2 p with
   |true=>rw[if_pos a68]at k;subst k;refine ak @h ?_;exact⟨_,θ,a63.mono u.1,Α (π l6 u.1),Θ,rfl⟩
   |false=>
    rw[if_neg (by simp[a68])]at k;have b17:om 1 U.emp [R.J (ad p) E] (bX (λ_ _=>True) ())=True:=eq_true (eQ (by simp[aY,σ]) ς λ_ _=>trivial);refine ak (cO @h (κ b16) (κ a04) @G @g @i @V @b17 @sg) ?_;refine ah (yt a l4 P C y t (k1.mono u.1)) ?_;rintro a4 b65⟨a05,k3,k4⟩;have b18:=k4.1 _ _ a04;refine ak (bz @h (κ b18) @G @g @i @V) ?_;rw[b15]at k3;refine eQ (by simp[aY,σ]) ς λa06 a69=>?_;have b19:flat [R.J (ad p) E]=[R.J (ad p) E]:=rfl;rw[b19,a8Q];have W:=av.new (ob:=.cells [R.J (ad p) E]) k4 a69;have b20:=Ο k4.1 a69;rw[nH k3]at W;obtain⟨r,l⟩:∃r:U,r=t.set a06 (.cells [R.J (ad p) E]):=⟨_,rfl⟩;have a71:t.sub r:=by rw[l];exact μ θ b20
    have b21:r a06=β (.cells [R.J (ad p) E]):=by rw[l,ξ]
    rw[<-l]at W;have b66:=k3.len;have l7:=a71 _ _ a04;have a07:=W.1 _ _ l7;refine ak (bz @h (κ a07) @G @g @i @V) ?_;refine ah (a0z r _ a05 a4 W (by grind) o δ δ _ a06 b21) ?_;intro dy a08 v;have b22:=v.1 _ _ l7;have l8:aB isRow (k2.take o++p::k2.drop o) (a05.take o++R.J (ad p) E::a05.drop o):=(k3.take o).append ⟨⟨E,rfl⟩,k3.drop o⟩;rw[<-nH l8]at v;refine ak (bz @h (κ b22) @G @g @i @V) ?_;have a73:=π l6 (π u.1 a71);refine ah (EV r a08 D m F (f.mono a73) _ _ dy v x n2 n3 l8 Μ) ?_;intro Z b23 w;rw[<-k]at w;obtain⟨b24,b25,rfl⟩:=w.shape;refine ak @h ?_;exact⟨_,θ,fW.base w (Α a73)⟩
  .have l7:=b06.resolve_left N;rw[if_neg N]at k;have a03:¬(a.kind.toNat:Int)=2:=λe=>N (by simp_all);refine ak (c7 @h @B @H @G (κ bw) @a03 @V) ?_;refine ah (EF a l4 P C y p E L k1) ?_;rintro _ L⟨rfl,rfl⟩;obtain⟨b67,b13,b14,b26⟩:=a48.inner l7;have a09:hN p a<α a.kids:=by grind[yB,List.length_map]
   generalize hN p a=o at*;have a10:=Ρ a09;have a74:a.kids[o]'a09∈a.kids:=a7O _;rw[a10]at k;simp only at k;generalize a.kids[o]'a09=c at a10 a74 k;obtain⟨b68,b27,a81,b28,O,Q,X,rfl⟩:=k1.kids.get a10;obtain⟨_,_,_,b69,b70⟩:=b26 c a74;obtain⟨Y,l9⟩:∃Y:U,Y=b07.set K (.cells [.v (.int .u8 (a.kind.toNat)),C,y]):=⟨_,rfl⟩;have n0:=av.new (ob:=.cells [.v (.int .u8 (a.kind.toNat)),C,y]) l5 M;rw[<-l3,<-l9]at n0;have b29:=Ο l5.1 M;have a83:=π k0 a02.1;have a84:T.sub Y:=by rw[l9];exact μ a83 (Ο a83 b29)
   have b30:Y K=β (.cells [.v (.int .u8 (a.kind.toNat)),C,y]):=by rw[l9,ξ]
   have a07:Y j9=β (.cells [.ptr D 0,.v (.int .i64 (x))]):=by
    have:j9≠K:=by grind
    rw[l9,ο _ _ this];exact a02.1 _ _ aE
   have b31:=dr.of n0 (f.mono a84) Ext.refl;obtain⟨b71,b32,a86⟩:=k1.gQ.get o _ b27;have a88:=aP (N:=O) (e6:=Q) (h6:=X) a81;have b33:(R.agg (ab c O Q X)).cells=ab c O Q X:=rfl;rw[b33]at a86;have a89:=a86.ld L θ η 37 δ (by rw[a88.len];omega);rw[show aM η 37 (ab c O Q X)=.agg (ab c O Q X) by rw[aM,if_pos rfl,a88.t37]]at a89;refine ak (cg @h (κ bw) (κ a62) @G @g @i @V @a34 @b32 @a89) ?_;refine ah (ih L F c O Q X a63 a81 b28 δ δ) ?_;intro Z t a11;have a90:=λk5 k6 e=>yC x p S F k5 c k6 e;generalize gB x p S F c=b34 at k a11 a90;obtain⟨res,k5⟩:=b34;cases res with
   |error b72=>obtain⟨n1,b35,a92,rfl⟩:=a11;simp only at k n1;subst k;refine ak (c2 @h @a92) ?_;exact⟨_,θ,n1,(Α l6).trans b35,a92,rfl⟩
   |ok k6=>
    obtain⟨k7,b73,a13,rfl,⟨b74,a14,a15,a94⟩,_⟩:=a11;obtain⟨b75,b76⟩:=a90 k5 k6 rfl;simp only at k a15;have b36:=a13.len;have b37:(flat k7).length=α k6*37:=by rw[cU (a13.cells λ_ _=>Ξ),b36]
    have b38:(flat P).length=α a.kids*37:=by rw[cU (j.cells λ_ _=>Ξ),j.len]
    obtain⟨A,a95,a96,a16,rfl,a97,b39,b40,b41,b42,b43,b44⟩:=av.aq a14 (by grind);have b45:=a94.trans (Α a14.1);have n1:=a15.mono a14.1;obtain⟨b46,k4,b47,b48⟩:=b31.step b45 n1;have a18:=a15.cA a97;have b49:L A=none:=by
     cases b50:L A with
     |none=>rfl
     |some b77=>have:=a94 _ _ a18.1 a18.2 b50;rw[a97]at this;cases this
    have b51:∀b a98 a99,y=.aq b a98 a99 37->b≠A:=by
     rintro b a98 a99 rfl rfl;rcases n0.2 with⟨_,e|e⟩|⟨b78,_,_,_,e,_,b79,_⟩
     .cases e
     .cases e
     simp_all
    obtain⟨r,l⟩:∃r:U,r=b46.set A (.cells a16):=⟨_,rfl⟩;have W:=av.add k4 b39 b51;rw[<-l]at W;have b52:r A=β (.cells a16):=by rw[l,ξ]
    have b53:av (λ_=>ζ) r 37 (flat k7) (.aq A a95 a96 37):=⟨(λ_ _ e=>by cases e),.inr ⟨A,a95,a96,a16,rfl,rfl,b52,b40,b41,b42,b43,b44⟩⟩;have b54:bq r D m k5:=by rw[l];exact b47.set a18
    have b55:=Ο n0.1 b49;have a19:Ext D m Y r:=by rw[l];exact b48.set b55
    have b56:=a19 _ _ a57.1 a57.2 b30;have b00:=a19 _ _ a61.1 a61.2 a07;have b57:=W.1 _ _ b56;have b58:=W.1 _ _ b00;simp -dsimp -implicitDefEqProofs (disch:=first|omega|assumption|(simp only[aW,Nat.reduceAdd];try omega)) only[go_sem,simprocAttr,-List.reduceReplicate,h,κ b57,κ b58,G,g,i,V,a34];refine ah (EU _ r t (flat P) (flat k7) y _ (α a.kids) (α k6) o (o+1) _ rfl W b38 b53 b37 δ δ δ δ δ) ?_;intro dy a08 v;have b59:=v.1 _ _ b00;have b60:(flat P).take (o*37)++(flat k7++(flat P).drop ((o+1)*37))=flat (P.take o++(k7++P.drop (o+1))):=by rw[(gh o (j.cells λ_ _=>Ξ)).2,(gh (o+1) (j.cells λ_ _=>Ξ)).1];simp[flat]
    rw[b60]at v;have l8:=(j.take o).append (a13.append (j.drop (o+1)));refine ak (bz @h (κ b59) @G @g @i @V) ?_;refine ah (EW r a08 D m k5 b54 _ _ dy v x n2 n3 l8 Μ) ?_;intro Z b23 w;rw[<-k]at w;obtain⟨b24,b25,rfl⟩:=w.shape;refine ak @h ?_;exact⟨_,θ,fW.base w ((Α a84).trans a19)⟩
def lG(a:Nat)(d:Ω)(h:af)(b:ao):Except Int ao×af:=
 if b=az then dF h a (cZ [d])
 else match gB a d (b.size.toNat+1) h b with
  |(.error k,c)=>(.error k,c)
  |(.ok bF,c)=>hn a (α bF+1) c bF
variable{g H c0:ύ}{N e6 h6:Own}
def re.lt(a:re A N e6 h6 g):α g=37/\g.take 37=g:=⟨a.len,a.t37⟩
def a0I(C:U)(d h:Nat)(x:af)(W:bq C d h x)(b:ao)(G L P:Own)(n:α b.sum=32)(M:b.cC)(c:Ω)(S:Own)(a:Nat)(q:1<=a)(s:a<=8)(a05:α c=a):
  AC γ 106 [.ptr d 0,.agg (ab b G L P),.J (ad c) S,.v (.int .i64 (a:Int))] C λk N=>bq N d h (lG a c x b).2/\Ext d h C N/\gX (lG a c x b).1 k:=by
 have a06:=(aP (N:=G) (e6:=L) (h6:=P) n).lt;have a07:=(aP (N:=.nil) (e6:=.nil) (h6:=.nil) bl).lt;have a08:=ch;have t:=λO Q X Y u=>cx (a:=.nil) (b:=.nil) (c:=.nil) (A:=O) (N:=Q) (e6:=X) (h6:=Y) bl u;have a09:=t az .nil .nil .nil bl;generalize l1:ab az .nil .nil .nil=v at*;obtain⟨Z,p⟩:∃Z,lG a c x b=Z:=⟨_,rfl⟩;rw[p];unfold lG at p;have a10:oM (a) [c]=true:=by simp[oM];omega
 have j9:aB isRow [c] [R.J (ad c) S]:=⟨⟨S,rfl⟩,trivial⟩;have k0:aY 1 [R.J (ad c) S]:=by simp[aY,σ]
 refine aK hm Oo ?_;refine bs λk1 l2=>?_;refine dd λT w _ _=>?_;refine uJ λl3 l4 _ _ _ _=>?_;generalize e:((C.set k1 _).set T _).set l3 _=D;have k2:C.sub D:=by subst e;exact aO
 have bh:D k1=β (.cells (ab b G L P)):=by subst e;exact aO
 have bw:D T=β (.cells v):=by subst e;exact aO
 clear e;have E:=W.cA w;have a11:=@τ;refine ns (yq a [c] _ _ D j9 (bO.J k0) ς) ?_;refine bs λk3 f=>?_;have a13:=U.hc f bh;obtain⟨z,A⟩:∃z,D.set k3 (.cells [.ptr d 0,.v (.int .i64 (a))])=z:=⟨_,rfl⟩;have g:D.sub z:=by rw[<-A];exact μ θ f
 have cg:z k3=β (.cells [.ptr d 0,.v (.int .i64 (a))]):=by rw[<-A,ξ]
 have l5:=κ cg;have a14:=rd g bh;have i:=π k2 g;have k4:=W.cA (Ο k2 f);have k5:∀(y)(r)(res)(k),bq r d h y->Ext d h z r->gX res k->∃o F,α o=37/\o.take 37=o/\putAt v 0 o=o/\k=.aJ [.agg o,.v (.int .i64 F)]/\en r T=β v/\bq (r.set T (.cells o)) d h y/\Ext d h C (r.set T (.cells o)):=by intro y r res k j k6 l6;obtain⟨O,Q,X,Y,F,B,rfl⟩:=l6.shape;exact⟨_,F,(aP B).len,(aP B).t37,t _ _ _ _ B,rfl,χ (k6 _ _ E.1 E.2 (g _ _ bw)),j.set E,((Α i).trans k6).set w⟩
 refine ns (mB b G L P z n λ_=>M) ?_;clear l2 f l4 A t;refine aF (λH=>?_) λH=>?_
 .rw[if_pos H]at p;refine jT λa15 l7=>?_;have j:=μ (Y:=.buf 1 1 1) (θ) l7;refine cl (ys _ d h x (W.mono (π i j)) [c] _ _ a q s j9 (bO.J k0) ς) ?_;rintro k r⟨l,m,V⟩;rw[p]at l V;obtain⟨o,F,l8,l9,n0,rfl,n1,I,th⟩:=k5 _ r _ k l ((Α j).trans m) V;refine aa ?_;exact⟨_,θ,I,th⟩
 rw[if_neg H]at p;refine cl (a0H d h c S a q s (b.size.toNat+1) z x b G L P (W.mono i) n M δ δ) ?_;intro k r K;have k7:=λy n2 u=>yC a c (b.size.toNat+1) x y b n2 u;generalize gB a c (b.size.toNat+1) x b=n3 at K k7 p;obtain⟨res,y⟩:=n3;cases res with
 |error F=>obtain⟨l,m,n4,rfl⟩:=K;subst p;have a16:=χ (m _ _ E.1 E.2 (g _ _ bw));refine aa ?_;exact⟨_,θ,l.set E,((Α i).trans m).set w,n4,by rw[l1]⟩
 |ok bF=>
  obtain⟨n5,a18,k8,rfl,k9,_⟩:=K;obtain⟨_,a19⟩:=k7 y bF rfl;have l5:=κ (k9.ext _ _ k4.1 k4.2 cg);obtain⟨n9,a00,a01,a02⟩:=k9.te k8;refine cl (AC.nI (g:=[_]) a00 (ER n9 d h y a01 bF n5 .any a q s k8 δ)) ?_;rintro k a03⟨l0,a04,V⟩
  dsimp only at p
  rw[p]at l0 V;obtain⟨o,F,l8,l9,n0,rfl,n1,I,th⟩:=k5 _ a03 _ k l0 (a02.trans a04) V;refine aa ?_;exact⟨_,θ,I,th⟩
end Go.Proofs.YtcfpcblgmmeioaaGreat
namespace Go.bD
open Go
variable{n b5:R}{f s e0:U}{g H c0:ύ}{e i v M b9 j1:Nat}
theorem av.emp(b:av e0 f e g n)(k:∀a c d,n=.aq a c d e->s a=f a):av (λ_=>ζ) s e g n:=by
 refine⟨(λ_ _ b=>by cases b),?_⟩;rcases b.2 with h|⟨a,c,d,o,rfl,p,r,x⟩
 .exact .inl h
 grind
theorem av.put{a:R}(h:av s f e (flat g) (.aq v M b9 e))(z:0<e)(d:aY e g)(C:g[i]?=β n)(o:α a.cells=e):
  ∃b,f v=β (.cells b)/\i*e+e<=α b/\M=α g/\av s (f.set v (.cells (putAt b (i*e) a.cells))) e (flat (g.set i a)) (.aq v M b9 e):=by
 obtain⟨D,c⟩:=h;rcases c with⟨_,c|c⟩|⟨W,j,l,b,p,r,E,F,G,m,x,L⟩
 .cases c
 .cases c
 simp only[R.aq.injEq,and_true]at p;obtain⟨rfl,rfl,rfl⟩:=p;have y:=(a7u.1 C).1;have q:=cU d;have P:M=α g:=a9M z δ;subst P;have t:i*e+e<=α g*e:=by rw[<-aav];exact a7D _ y
 have u:α g*e<=b9*e:=a7D _ x;refine⟨b,E,δ,rfl,μ D r,.inr ⟨v,α g,b9,_,rfl,r,ξ _ _ _,by rw[eO _ _ _ δ];exact F,?_,?_,x,L⟩⟩
 .have k:g.set i a=g.take i++a::g.drop (i+1):=by rw[a8F,if_pos y]
  have S:flat (g.take i++a::g.drop (i+1))=(flat g).take (i*e)++a.cells++(flat g).drop ((i+1)*e):=by rw[(gh i d).2,(gh (i+1) d).1];simp[flat]
  rw[k,S,putAt,o,<-G];have w:(b.take (i*e)++a.cells).length=i*e+e:=by grind
  grind[List.take_append,Ε,Nat.min_eq_left,List.drop_take,Nat.succ_mul]
 .have T:aY e (g.set i a):=λk V=>by
   rcases a9y V with h|rfl
   .exact d k h
   .exact o
  rw[cU T,aad]
end Go.bD
namespace Go.Proofs.YtcfpcblgmmeioaaGreat
open Go Go.bD
structure iu where
 leaf:Bool
 rows:List Ω
 kids:List ao
structure iV(a:U)(x:iu)(d h:R)(b c:ύ):Prop where
 r:aB isRow x.rows b
 k:aB bB x.kids c
 ak:bO a 1 d b
 vm:bO a 37 h c
 oP:ka a 1 d (α x.rows) b
 kb:ka a 37 h (α x.kids) (flat c)
 kI:α x.rows<=1000
 ij:α x.kids<=1000
def iV.mono{c d:U}{h:iu}{k o:R}{p r:ύ}(a:iV c h k o p r)(b:c.sub d):iV d h k o p r:=⟨a.r,a.k,a.ak.mono b,a.vm.mono b,a.oP.mono b,a.kb.mono b,a.kI,a.ij⟩
variable{n b5:R}{f s e0:U}{g H c0:ύ}
theorem iV.of{s:U}{a:iu}(b:aB isRow a.rows g)(c:aB bB a.kids H)(d:av f s 1 (flat g) n)(h:av e0 s 37 (flat H) b5)(o:α a.rows<=1000)(p:α a.kids<=1000):iV s a n b5 g H:=by obtain⟨r,x,k⟩:=d.ak δ;obtain⟨y,z,C⟩:=h.ak δ;rw[nH b]at x k;rw[cU (c.cells λ_ _=>Ξ)]at z;have:=b.len;have:=c.len;obtain rfl:r=α a.rows:=δ;obtain rfl:y=α a.kids:=δ;exact⟨b,c,bO.dK d δ rfl (b.cells λ_ _=>φ),bO.dK h δ rfl (c.cells λ_ _=>Ξ),k,C,o,p⟩
def ho(a:bY):iu:=⟨decide (a.kind=2),a.rows.map Γ,a.kids⟩
def kM(b:af)(c:Nat)(a d:iu):Except Int (List ao)×af:=if a.leaf=η then oN b c (a.rows++d.rows)else jZ b c (a.kids++d.kids)
theorem a0J(d:U)(r W:Nat)(e:af)(K:bq d r W e)(a b:iu)(f g D i j:R)(j9 k0 k1 k2:ύ)(k:iV d a f g j9 k0)(o:iV d b i j k1 k2)(k8:D.cells=[D])(p:Nat)(M:1<=p)(N:p<=8):
  AC γ 284 [dO r p,.agg [.v (.bool a.leaf),f,g],.agg [D,i,j]] d λv k3=>fW d k3 r W (kM e p a b) v:=by
 refine bd hm Tg ς ?_;have c:∀O,(R.agg O).cells=O:=λ_=>rfl;have l:∀a b:R,List.take 2 [a,b]=[a,b]:=λ_ _=>rfl;have m:∀a b,aM η 2 [a,b]=.agg [a,b]:=λ_ _=>rfl;have Q:∀a b z:R,aM ι 1 [a,b,z]=a:=λ_ _ _=>rfl;have X:∀a b z:R,aM ι 1 ([a,b,z].drop 1)=b:=λ_ _ _=>rfl;have Y:∀a b z:R,aM ι 1 ([a,b,z].drop 2)=z:=λ_ _ _=>rfl;refine ak @c ?_;refine aN λn k9=>?_;refine ak @c ?_;refine aN λE q=>?_;have F:n≠E:=by rintro rfl;rw[ξ]at q;cases q
 have l0:d E=none:=by rw[ο _ _ (Ι F)]at q;exact q
 refine ak @c ?_;refine aN λG s=>?_;have w:E≠G:=by rintro rfl;rw[ξ]at s;cases s
 have A:n≠G:=by rintro rfl;rw[ο _ _ F,ξ]at s;cases s
 have l1:d G=none:=by simp_all [ο,Ι]
 obtain⟨C,x⟩:∃C:U,C=((d.set n (.cells [.ptr r 0,.v (.int .i64 (p))])).set E (.cells [.v (.bool a.leaf),f,g])).set G (.cells [D,i,j]):=⟨_,rfl⟩;have Z:d.sub C:=by grind[μ,θ]
 have aE:C n=β (.cells [.ptr r 0,.v (.int .i64 (p))]):=by rw[x,ο _ _ A,ο _ _ F,ξ]
 have aL:C E=β (.cells [.v (.bool a.leaf),f,g]):=by rw[x,ο _ _ w,ξ]
 have bh:C G=β (.cells [D,i,j]):=by rw[x,ξ]
 unfold kM;have l2:=k.kI;have l3:=o.kI;have l4:=k.ij;have l5:=o.ij;cases t:a.leaf with
 |true=>rw[t]at aL x;refine ak (cg @c @ο @F @A @w @ξ @Q @X @Y @t) ?_;rw[<-x];refine dJ θ (by intro k4 L;simp only[a7J,a8J,or_false]at L;rcases L with rfl|rfl;(·rw[k.oP.one];rfl);(·rw[o.oP.one];rfl)) λB P S=>?_;have h:=π Z S.sub;have T:=S.sub _ _ aE;simp -dsimp -implicitDefEqProofs (disch:=first|omega|assumption|(simp only[aW,Nat.reduceAdd];try omega)) only[go_sem,simprocAttr,-List.reduceReplicate,c,κ T,m,l];refine ah (a0C P _ _ B _ _ _ _ (k.oP.mono h) (o.oP.mono h) δ δ) ?_;intro dy H y;have I:=y.1 _ _ T;have u:=k.r.append o.r;rw[<-nH u]at y;simp -dsimp -implicitDefEqProofs (disch:=first|omega|assumption|(simp only[aW,Nat.reduceAdd];try omega)) only[go_sem,simprocAttr,-List.reduceReplicate,c,κ I,m,l];refine ah (EV P H r W e (K.mono h) _ _ dy y p M N u (by rw[Ψ];omega)) ?_;intro v k5 V;obtain⟨k6,k7,rfl⟩:=V.shape;refine ak @c ?_;exact⟨_,θ,fW.base V (Α h)⟩
 |false=>rw[t]at aL x;refine ak (cg @c @ο @F @A @w @ξ @Q @X @Y @t) ?_;rw[<-x];refine dJ θ (by intro k4 L;simp only[a7J,a8J,or_false]at L;rcases L with rfl|rfl;(·rw[k.kb.one];rfl);(·rw[o.kb.one];rfl)) λB P S=>?_;have h:=π Z S.sub;have T:=S.sub _ _ aE;simp -dsimp -implicitDefEqProofs (disch:=first|omega|assumption|(simp only[aW,Nat.reduceAdd];try omega)) only[go_sem,simprocAttr,-List.reduceReplicate,c,κ T,m,l];refine ah (a0E P _ _ B _ _ _ _ (k.kb.mono h) (o.kb.mono h) δ δ) ?_;intro dy H y;have I:=y.1 _ _ T;have u:=k.k.append o.k;rw[<-pt]at y;simp -dsimp -implicitDefEqProofs (disch:=first|omega|assumption|(simp only[aW,Nat.reduceAdd];try omega)) only[go_sem,simprocAttr,-List.reduceReplicate,c,κ I,m,l];refine ah (EW P H r W e (K.mono h) _ _ dy y p M N u (by rw[Ψ];omega)) ?_;intro v k5 V;obtain⟨k6,k7,rfl⟩:=V.shape;refine ak @c ?_;exact⟨_,θ,fW.base V (Α h)⟩
def kc(d:af)(k:Nat)(h:List ao)(a:Nat)(b:iu):Except Int (List ao)×af:=
 if 2<=α b.rows+α b.kids then
  match mC d k b.leaf b.rows b.kids with
  |(.error o,c)=>(.error o,c)
  |(.ok r,c)=>(.ok (h.set a r),c)
 else match h[if a=0 then 1 else a - 1]? with
  |none=>(.error 21,d)
  |some x=>match iU d k x with
   |none=>(.error 21,d)
   |some p=>match kM d k (if a=0 then b else ho p) (if a=0 then ho p else b)with
    |(.error o,c)=>(.error o,c)
    |(.ok y,c)=>(.ok (h.take (a - 1)++(y++h.drop (a - 1+2))),c)
def a0K(k b:U)(c d:Nat)(h:Except Int (List ao)×af)(o:R):Prop:=
 match h.1 with
 |.error p=>bq b c d h.2/\Ext c d k b/\p≠0/\∃a,o=.aJ [a,.v (.int .i64 p)]/\a.cells=[a]
 |.ok bF=>∃r a,aB bB bF r/\o=.aJ [a,.v (.int .i64 0)]/\dr k b c d h.2 37 (flat r) a
theorem aB.set{c:Type}{d:c->R->Prop}:∀ {k:List c}{o:ύ}{p:c}{r:R} (b:Nat),aB d k o->d p r->aB d (k.set b p) (o.set b r)
 |[],[],_,_,_,a,_=>a
 |_:: _,_:: _,_,_,0,a,h=>⟨h,a.2⟩
 |_:: _,_:: _,_,_,b+1,a,h=>⟨a.1,aB.set b a.2 h⟩
variable{e i v M b9 j1:Nat}{B:af}
theorem EY{h:af}{b c:iu}{d:List ao}(a:kM B e b c=(.ok d,h))(o:α b.rows<=1000/\α c.rows<=1000/\α b.kids<=1000/\α c.kids<=1000):α d<=501:=by
 unfold kM at a;split at a
 .rename_i k;have:=pX a;rw[this];simp only[a7x,a7Q,a1.chunks,(mE).1,a1.bT,Ψ];omega
 .rename_i k;have:=pX a;rw[this];simp only[a7x,a7Q,a1.chunks,(mE).1,a1.bT,Ψ];omega
def bB.c{a:List ao}(b:aB bB a g):aY 37 g:=b.cells λ_ _=>Ξ
def Ext.no(b:Ext i v f s)(a:e≠i/\e≠v)(c:s e=ζ):f e=none:=by
 cases d:f e with
 |none=>rfl
 |some h=>have:=b _ _ a.1 a.2 d;rw[c]at this;cases this
theorem a0L(V C r:U)(D E:Nat)(I W:af)(d k:List ao)(h:ύ)(x e:Nat)(F:R)(G:dr V C D E I 37 (flat h) (.aq x (α d) e 37))(c:aB bB d h)(K:fW C r D E (.ok k,W) (.aJ [F,.v (.int .i64 0)]))(b a:Nat)(y:Int)(f:y=(a:Int))(g:b<a)(i:a<=α d)(l1:α d<=1000)(l2:α k<=501):
  AC γ 230 [.aq x (α d) e 37,.v (.int .i64 (b:Int)),.v (.int .i64 y),F] r λM N=>∃j,aB bB (d.take b++(k++d.drop a)) j/\dr V N D E W 37 (flat j) M:=by
 obtain⟨o,F,L,P,⟨l3,S,l,m⟩,O⟩:=K;simp only[R.aJ.injEq,a9L,and_true]at P;subst P;have l4:=c.len;have Q:=L.len;have l5:=cU (bB.c c);have X:(flat o).length=α k*37:=by rw[cU (bB.c L),Q]
 have Y:∃n,C x=β (.cells n):=by obtain⟨_,Z,_⟩:=G;obtain⟨_,_,_,n,P,_,q,_⟩:=Z.aq (by grind);simp_all
 obtain⟨j9,s,t,u⟩:=G.step (m.trans (Α S.1)) (l.mono S.1);by_cases v:k=[]
 .subst v;obtain rfl:=O rfl;refine(a0A _ r (flat h) _ (α d) b a y f s δ g i δ).mono λdy k0 p=>?_;rw[(gh b (bB.c c)).2,(gh a (bB.c c)).1,<-pt]at p;exact⟨_,(c.take b).append (c.drop a),_,p,t,u⟩
 have l6:=a8q.2 v;obtain⟨z,w,A,B,rfl,H,k1,k2,k3,k4,k5,k6⟩:=av.aq S (by grind);have T:=l.cA H;have k7:=m.no T H;obtain⟨l7,l8⟩:=Y;have l9:x≠z:=by grind
 have k8:=av.add s k1 (by simp_all);have k9:av (λ_=>ζ) (j9.set z (.cells B)) 37 (flat o) (.aq z w A 37):=⟨(λ_ _ q=>by cases q),.inr ⟨z,w,A,B,rfl,rfl,ξ _ _ _,k2,k3,k4,k5,k6⟩⟩;refine(EU _ _ r (flat h) (flat o) _ _ (α d) (α k) b a y f k8 δ k9 X δ g i δ δ).mono λdy k0 p=>?_;have l0:(flat h).take (b*37)++(flat o++(flat h).drop (a*37))=flat (h.take b++(o++h.drop a)):=by rw[(gh b (bB.c c)).2,(gh a (bB.c c)).1];simp[flat]
 rw[l0]at p;exact⟨_,(c.take b).append (L.append (c.drop a)),_,p,t.set T,u.set (G.ext.no T k7)⟩
theorem a0M(H I:U)(D W:Nat)(y:af)(k8:bq H D W y)(z:List ao)(K:ύ)(a11:R)(k9:av H I 37 (flat K) a11)(S:aB bB z K)(b:iu)(E F:R)(a13 a14:ύ)(T:iV I b E F a13 a14)(b41:2<=α z)(a94:α z<=1000)(a:Nat)(b42:a<α z)(d:Nat)(l0:1<=d)(l1:d<=8):
  AC γ 235 [dO D d,a11,.v (.int .i64 (a:Int)),.agg [.v (.bool b.leaf),E,F]] I λl l2=>a0K H l2 D W (kc y d z a b) l:=by
 have b43:=S.len;have a95:=k8.mono k9.1;have b44:=cU (bB.c S);obtain⟨l3,a96,a15,b45,rfl,b46,b47,a16,a97,a98,m,b48⟩:=av.aq k9 (by grind);obtain rfl:a96=α z:=δ;have b49:=T.kI;have b50:=T.ij;have b51:=(aP (N:=.nil) (e6:=.nil) (h6:=.nil) bl).len;obtain⟨a18,h⟩:∃a18,kc y d z a b=a18:=⟨_,rfl⟩;rw[h];rw[kc]at h;clear a16 a97 a98;refine aK hm RZ ?_;refine bs λa19 a27=>?_;refine dd λa29 a30 _ _=>?_;have M:=μ (Y:=.cells [.v (.bool b.leaf),E,F]) (μ (Y:=.cells [.ptr D 0,.v (.int .i64 (d))]) (θ) a27) a30;obtain⟨C,N⟩:∃C:U,(I.set a19 (.cells [.ptr D 0,.v (.int .i64 (d))])).set a29 (.cells [.v (.bool b.leaf),E,F])=C:=⟨_,rfl⟩;rw[N]at M|-;have aL:C a19=β (.cells [.ptr D 0,.v (.int .i64 (d))]):=by rw[<-N,ο _ _ abE,ξ]
 have c7:C a29=β (.cells [.v (.bool b.leaf),E,F]):=by rw[<-N,ξ]
 have a99:=κ aL;have b00:=κ c7;clear N a27 a30;have l4:=av.mono k9 M;have a34:=dr.of l4 k8 Ext.refl;have n:=T.mono M;have l5:=a95.mono M;refine ns (a0u (.v (.bool b.leaf)) E F _ _ T.oP.one T.kb.one rfl T.oP.len T.kb.len δ δ C) ?_;refine aF (λa36=>?_) λa36=>?_
 .rw[if_pos δ]at h;refine cl (EE C D W y l5 b.leaf b.rows a13 E b.kids a14 F d l0 l1 n.r n.ak δ n.k n.vm δ) ?_;rintro l l6⟨a38,b01,O⟩;generalize mC y d b.leaf b.rows b.kids=l7 at*;obtain⟨res,q⟩:=l7
  dsimp only at a38 O
  obtain⟨Q,o,p,r,b02,l8,rfl⟩:=O.shape;have b03:=(aP (N:=o) (e6:=p) (h6:=r) l8).len;have b52:=(aP (N:=o) (e6:=p) (h6:=r) l8).t37;have b53:putAt (ab az .nil .nil .nil) 0 (ab Q o p r)=ab Q o p r:=cx bl l8;have b54:=ch;generalize ab az .nil .nil .nil=b55 at*;refine aa ?_;refine bs λb56 b04=>?_;obtain⟨b05,b06,a42,a43⟩:=dr.mono (a34.step b01 a38) (μ (Y:=.cells (ab Q o p r)) θ b04);obtain⟨b57,b07,b58,-,l9⟩:=av.put (a:=.agg (ab Q o p r)) b06 δ (bB.c S) (Ρ (show a<α K by omega)) b03;have b59:cz 37 (.aq l3 (α z) a15 37) (.v (.int .i64 (a)))=β (.ptr l3 (a*37)):=by simp_all [jQ]
  have b60:=χ b07;have b08:=a43.trans (Α l9.1);refine aa ?_;refine⟨_,θ,?_⟩;subst h;cases res with
  |error b61=>obtain⟨n0,x⟩:=O;simp only[R.aJ.injEq,a9L,R.v.injEq,Value.int.injEq,true_and,and_true]at x;obtain⟨_,rfl⟩:=x;exact⟨a42.mono l9.1,b08,n0,_,rfl,rfl⟩
  |ok b62=>obtain⟨b09,b10,b11,b12,b13,x⟩:=O;simp only[R.aJ.injEq,a9L,R.v.injEq,Value.int.injEq,true_and,and_true,R.agg.injEq]at x;obtain⟨x,rfl⟩:=x;exact⟨_,_,aB.set a S ⟨b09,b10,b11,b12,b13,by rw[x]⟩,rfl,⟨b05,l9,a42,a43⟩⟩
 rw[if_neg δ]at h;have b63:max ((a:Int) - 1) 0=((a - 1:Nat)):=δ;obtain⟨e,f⟩:∃e,(if a=0 then 1 else a - 1)=e:=⟨_,rfl⟩;rw[f]at h;refine oy [1,2,4,7,12] (λ_:Unit=>[(13,.v (.int .i64 (e)))]) (λ_ l2=>l2=C) (λk=>?_) (λk=>?_) ?_
 .rw[if_pos (by have:=of_decide_eq_true k;omega)]at f;subst f;exact aO
 .rw[if_neg (by have:=of_decide_eq_false k;omega)]at f;subst f;exact aO
 rintro _ C rfl b14;have b15:e<α z:=by rw[<-f];split<;>omega
 have n1:=Ρ b15;rw[n1]at h
 dsimp only at h
 generalize z[e]=G at*;obtain⟨b64,a47,a48,b16,o,p,r,rfl⟩:=S.get n1;obtain⟨b17,b18,n2⟩:=(bO.dK l4 δ rfl (bB.c S)).get e _ a47;have a52:=aP (N:=o) (e6:=p) (h6:=r) a48;change mA C b17 (ab G o p r)at n2;have a56:=n2.ld C θ η 37 δ (by rw[a52.len];omega);rw[show aM η 37 (ab G o p r)=.agg (ab G o p r) by rw[aM,if_pos rfl,a52.t37]]at a56;refine cl (yu C D W y l5 G o p r a48 b16 d l0 l1) ?_;rintro l a57⟨a61,x⟩;cases n3:iU y d G with
 |none=>rw[n3]at x h;obtain rfl:=x;subst h;refine aa ?_;refine bs λn4 X=>?_;have a62:=λG=>π l4.1 (π a61 (μ (Y:=G) θ X));exact⟨_,θ,k8.mono (a62 _),Α (a62 _),Θ,_,rfl,rfl⟩
 |some c=>
 rw[n3]at x h
 dsimp only at h
 obtain⟨Y,g,rfl,b19⟩:=x;obtain⟨b20,b65⟩:=tg n3;obtain⟨b66,b67,b68⟩:=kG b20.ok;clear a56 b18 n2 a99 b00 a36 a47 n1;refine aa ?_;refine bs λn4 X=>?_;obtain⟨s,n5⟩:∃s,a57.set n4 (.cells [.v (.int .u8 (c.kind.toNat)),Y,g])=s:=⟨_,rfl⟩;have n9:a57.sub s:=by rw[<-n5];exact μ θ X
 have gr:s n4=β (.cells [.v (.int .u8 (c.kind.toNat)),Y,g]):=by rw[<-n5,ξ]
 have a00:=π a61 n9;obtain⟨b69,a63,a65,b21,a01,a68,Z,b22,b23⟩:=b19;have a69:=fR.mono ⟨a68,Z,(bO.dK b21 δ rfl (a68.cells λ_ _=>cY.cells)).mono a01.1,bO.dK a01 δ rfl (bB.c Z),b22,b23⟩ n9;have m:=rd a00 c7;have b24:=κ gr;have b70:=@sg;refine cl (yv c a63 a65 Y g s a69) ?_;rintro _ j9⟨a71,b71,rfl,b25,a73⟩;clear n5 X;have t:=a73.1;have u:=t _ _ (a00 _ _ c7);have m:=κ u;refine aa ?_;refine bs λw a02=>?_;have b72:=U.hc a02 u;refine dd λA a03 _ _=>?_;have b73:=U.hc a03 u;have b26:=@τ;obtain⟨V,k0⟩:∃V,(j9.set w (.cells [.v (.bool (decide (c.kind=2))),a71,g])).set A (.cells [.v (.bool b.leaf),E,F])=V:=⟨_,rfl⟩;have L:j9.sub V:=by rw[<-k0];exact μ (μ θ a02) a03
 have oq:V w=β (.cells [.v (.bool (decide (c.kind=2))),a71,g]):=by rw[<-k0,ο _ _ abE,ξ]
 have ot:V A=β (.cells [.v (.bool b.leaf),E,F]):=by rw[<-k0,ξ]
 have a74:=π a00 t;have a81:=n.mono a74;have a83:=av.mono a01 (π n9 t);have k1:(ho c).rows.length<=1000/\(ho c).kids.length<=1000:=by simp[ho];omega
 refine aa ?_;clear b26 m;refine oy [1,4,12,16,17] (λ_:Unit=>[]) (λ_ P=>j9.sub P/\∃k2 k3 B k4 k5 a04 a05 a06 a07,P w=β (.cells [.v (.bool (if a=0 then b else ho c).leaf),k2,k3])/\P A=β (.cells [B,k4,k5])/\B.cells=[B]/\iV P (if a=0 then b else ho c) k2 k3 a04 a05/\iV P (if a=0 then ho c else b) k4 k5 a06 a07) (λk=>?_) (λk=>?_) ?_
 .have k:=of_decide_eq_true k;have k:a=0:=δ;simp only[if_pos k];have m:=rd L u;have b24:=rd (π t L) gr;refine cl (yv c a63 a65 Y g V (a69.mono (π t L))) ?_;rintro _ l6⟨b74,b75,rfl,b27,i⟩;have m:=rd i.1 (L _ _ u);have b76:=χ (i.1 _ _ oq);have b77:∀a84,en (l6.set w a84) A=β [.v (.bool b.leaf),E,F]:=λa84=>χ (by rw[ο _ _ abE];exact i.1 _ _ ot);have k6:∀G a86,j9.sub ((l6.set w G).set A a86):=λG a86 b78 v a08=>by
   rw[ο _ _ (U.hc a03 a08),ο _ _ (U.hc a02 a08)];exact i.1 _ _ (L _ _ a08)
  refine aa ?_;refine⟨(),_,_,_,_,_,_,_,_,_,rfl,rfl,rfl,a81.mono (k6 _ _),iV.of b27 Z (av.emp i ?_) (av.mono a83 (k6 _ _)) k1.1 k1.2⟩;rintro b28 b79 b80 rfl;have a88:V b28=none:=by
   rcases i.2 with⟨_,j|j⟩|⟨b81,_,_,_,j,b82,_⟩
   .cases j
   .cases j
   simp_all
  rw[ο _ _ (U.hc a88 ot).symm,ο _ _ (U.hc a88 oq).symm]
 .have k:=of_decide_eq_false k;have k:¬a=0:=δ;simp only[if_neg k];refine aa ?_;subst k0;exact⟨(),_,_,_,_,_,_,_,_,_,rfl,rfl,rfl,iV.of b25 Z (a73.mono L) (a83.mono L) k1.1 k1.2,a81.mono L⟩
 rintro _ P⟨k6,k2,k3,B,k4,k5,a04,a05,a06,a07,oq,ot,b29,b30,b31⟩b14;have b32:(if a=0 then b else ho c).rows.length<=1000/\(if a=0 then ho c else b).rows.length<=1000/\(if a=0 then b else ho c).kids.length<=1000/\(if a=0 then ho c else b).kids.length<=1000:=by split<;>omega
 have b33:=λq k7 j=>EY (B:=y) (h:=q) (e:=d) (d:=k7) j b32;generalize (if a=0 then b else ho c)=a89 at*;generalize (if a=0 then ho c else b)=a90 at*;have a09:=π a74 k6;have a16:=rd a09 aL;have b83:=κ oq;have b84:=κ ot;refine cl (a0J P D W y (l5.mono a09) a89 a90 k2 k3 B k4 k5 a04 a05 a06 a07 b30 b31 b29 d l0 l1) ?_;intro l b34 a10;generalize kM y d a89 a90=l7 at*;obtain⟨res,q⟩:=l7;have a92:=dr.mono a34 a09;cases res with
 |error b02=>obtain⟨b35,b36,n0,rfl⟩:=a10;subst h;refine aa ?_;exact⟨_,θ,b35,a92.ext.trans b36,n0,_,rfl,rfl⟩
 |ok k7=>obtain⟨_,a3,_,rfl,_⟩:=id a10;have b37:=b33 q k7 rfl;have b38:((a - 1:Nat))+2=((a - 1+2:Nat):Int):=rfl;refine cl (a0L H P b34 D W y q z k7 K l3 a15 a3 a92 S a10 (a - 1) (a - 1+2) _ b38 δ δ a94 b37) ?_;rintro l b85⟨b86,b39,b40⟩;subst h;refine aa ?_;exact⟨_,θ,_,_,b39,rfl,b40⟩
end Go.Proofs.YtcfpcblgmmeioaaGreat
set_option maxHeartbeats 1000000
namespace Go.bD
open Go
variable{n b5:R}{f s e0:U}{g H c0:ύ}{e i v M b9 j1:Nat}
theorem av.nv(x:av s f e g n):∃d:U,av d f e g n/\d.sub f/\s.sub d/\∀a,(∀b h k,n=.aq b h k e->b≠a)->d a=f a:=by
 obtain⟨p,o⟩:=x;rcases o with o|⟨b,h,k,y,rfl,z,C,D⟩
 .exact⟨f,⟨θ,.inl o⟩,θ,p,λ_ _=>rfl⟩
 .have r:(f.del b).sub f:=λa E c=>by
   grind[U.iH,U.eN]
  refine⟨f.del b,⟨r,.inr ⟨b,h,k,y,rfl,U.iH _ _,C,D⟩⟩,r,λa E c=>?_,λa c=>U.eN _ (Ι (c _ _ _ rfl))⟩;have F:a≠b:=by rintro rfl;rw[z]at c;cases c
  rw[U.eN _ F];exact p _ _ c
theorem av.own(c:av f s i g (.aq e v M i)):f e=ζ/\∃b,s e=β (.cells b):=by
 rcases c.2 with⟨_,a|a⟩|⟨d,h,k,b,o,p,r,_⟩
 .cases a
 .cases a
 simp_all
end Go.bD
namespace Go.Proofs.YtcfpcblgmmeioaaGreat
open Go Go.bD
def iv(d:Nat)(c:Ω):Nat->af->ao->Except Int iu×af
  |0,b,_=>(.error 21,b)
  |p+1,b,r=>match iU b d r with
    |none=>(.error 21,b)
    |some a=>
      if a.kind=2 then
        (if kL (a.rows.map Γ) c=η then(.ok ⟨η,(a.rows.map Γ).take (eZ (a.rows.map Γ) c)++(a.rows.map Γ).drop (eZ (a.rows.map Γ) c+1),a.kids⟩,b)
         else(.error 9,b))
      else match a.kids[hN c a]? with
        |none=>(.error 21,b)
        |some x=>match iv d c p b x with
          |(.error h,k)=>(.error h,k)
          |(.ok y,k)=>match kc k d a.kids (hN c a) y with
            |(.error h,o)=>(.error h,o)
            |(.ok bF,o)=>(.ok ⟨ι,a.rows.map Γ,bF⟩,o)
def a0N(x c:U)(d h:Nat)(k:Except Int iu×af)(o:R):Prop:=
 bq c d h k.2/\Ext d h x c/\match k.1 with
 |.error p=>p≠0/\∃y a b,o=.aJ [.agg [y,a,b],.v (.int .i64 p)]
 |.ok r=>∃a b z C,o=.aJ [.agg [.v (.bool r.leaf),a,b],.v (.int .i64 0)]/\iV c r a b z C
variable{e i v M b9 j1:Nat}{B:af}
theorem a0O{h:af}{c d:List ao}{b:iu}(a:kc B e c i b=(.ok d,h))(o:α c<=4)(p:α b.rows<=1000/\α b.kids<=1000):α d<=1000:=by
 unfold kc at a;split at a;grind
 .rename_i r;split at a
  .simp_all
  .split at a
   .simp_all
   .rename_i x k;obtain⟨y,z,C⟩:=kG (tg k).1.ok;grind[Prod.mk.inj,Except.ok.inj,EY,ho,Β,List.length_take,List.length_drop]
theorem a0P(E T:Nat)(L:Ω)(a42:Own)(F:Nat)(a98:1<=F)(a99:F<=8):∀(m:Nat)(f:U)(n:af)(g:ao)(l6 l7 l8:Own),bq f E T n->α g.sum=32->g.cC->0<m->g.size<m->
  AC γ 172 [dO E F,.agg (ab g l6 l7 l8),.J (ad L) a42] f λl9 b27=>a0N f b27 E T (iv F L m n g) l9:=by
 intro m
 induction m with
 |zero=>intros;omega
 |succ m ih=>
 intro f n g l6 l7 l8 P b00 b28 b64 b65;have n0:=(aP (N:=l6) (e6:=l7) (h6:=l8) b00).lt;have b29:=@τ;have b66:=@sg;obtain⟨b01,b⟩:∃b01,iv F L (m+1) n g=b01:=⟨_,rfl⟩;rw[b];rw[iv]at b;refine aK hm Qf ?_;refine bs λa43 b02=>?_;refine dd λb30 b31 _ _=>?_;refine hd λx Q _ _ _ _=>?_;generalize A:((f.set a43 _).set b30 _).set x _=n1;have n2:f.sub n1:=by subst A;exact aO
 have aE:n1 a43=β (.cells [.ptr E 0,.v (.int .i64 (F))]):=by subst A;exact aO
 have bz:n1 x=β (.cells [.v (.bool ι),.J [] .nil,.J [] .nil]):=by subst A;exact aO
 clear A;have b03:=P.cA b02;have C:=P.cA Q;refine cl (yu n1 E T n (P.mono n2) g l6 l7 l8 b00 b28 F a98 a99) ?_;rintro l9 a47⟨a48,n3⟩;have k3:=a48 _ _ bz;have b04:=π n2 a48;clear b02 b31;cases a52:iU n F g with
 |none=>rw[a52]at n3 b;obtain rfl:=n3;subst b;refine aa ?_;refine bs λn4 k4=>?_;have b05:=λb32=>π b04 (μ (Y:=b32) θ k4);have b33:=U.hc k4 k3;have k5:∀k,en (a47.set n4 k) x=β [.v (.bool ι),.J [] .nil,.J [] .nil]:=λk=>χ (by rw[ο _ _ b33];exact k3);refine aa ?_;exact⟨_,θ,(P.mono (b05 _)).set C,(Α (b05 _)).set Q,Θ,_,_,_,rfl⟩
 |some p=>
  rw[a52]at n3 b
  dsimp only at b
  obtain⟨n5,y,rfl,b67,b06,n9,k6,q,b07,X,b34,b35⟩:=n3;obtain⟨b08,b36⟩:=tg a52;obtain⟨b68,b69,b70⟩:=kG b08.ok;refine aa ?_;refine bs λn4 k4=>?_;obtain⟨k7,a56⟩:∃k7,a47.set n4 (.cells [.v (.int .u8 (p.kind.toNat)),n5,y])=k7:=⟨_,rfl⟩;have B:a47.sub k7:=by rw[<-a56];exact μ θ k4
  have bw:k7 n4=β (.cells [.v (.int .u8 (p.kind.toNat)),n5,y]):=by rw[<-a56,ξ]
  have b09:=fR.mono ⟨b07,X,(bO.dK k6 δ rfl (b07.cells λ_ _=>cY.cells)).mono q.1,bO.dK q δ rfl (bB.c X),b34,b35⟩ B;have a57:=κ bw;refine cl (yv p b06 n9 n5 y k7 b09) ?_;rintro _ b10⟨S,a61,rfl,s,H⟩;clear a56 k4 a57;refine aa ?_;refine bs λG k8=>?_;obtain⟨D,a00⟩:∃D,b10.set G (.cells [.v (.bool (decide (p.kind=2))),S,y])=D:=⟨_,rfl⟩;rw[b29,a00];have i:b10.sub D:=by rw[<-a00];exact μ θ k8
  have cg:D G=β (.cells [.v (.bool (decide (p.kind=2))),S,y]):=by rw[<-a00,ξ]
  clear a00;have I:=H.1;have a01:=π b04 B;have Y:=π a01 (π I i);have a02:=π B (π I i);have a62:=Ο (π a01 I) k8;have V:=P.cA a62;have a03:=a02 _ _ k3;have a63:=a02 _ _ (a48 _ _ aE);have a65:=U.hc k8 (I _ _ (B _ _ k3));have k9:=κ cg;have k5:=χ a03;have a04:∀a c d,y=.aq a c d 37->a≠E/\a≠T/\a≠x/\a≠G/\a≠a43:=by
   rintro a c d rfl;obtain⟨h,a68,z⟩:=q.own;have a69:=k6.1 _ _ bz;have a71:=k6.1 _ _ aE;have K:=(P.mono (π n2 k6.1)).cA h;refine⟨K.1,K.2,?_,?_,?_⟩
   .rintro rfl;rw[a69]at h;cases h
   .rintro rfl;rw[I _ _ (B _ _ z)]at k8;cases k8
   .rintro rfl;rw[a71]at h;cases h
  have a05:∀a c d,S=.aq a c d 1->a≠E/\a≠T/\a≠x/\a≠G/\∀M Z j9,y=.aq M Z j9 37->M≠a:=by
   rintro a c d rfl;obtain⟨h,a68,z⟩:=H.own;have K:=(P.mono a01).cA h;refine⟨K.1,K.2,?_,?_,?_⟩
   .rintro rfl;rw[B _ _ k3]at h;cases h
   grind
   .rintro M Z j9 rfl rfl;obtain⟨_,b71,r⟩:=q.own;rw[B _ _ r]at h;cases h
  refine aF (λl0=>?_) λl0=>?_
  .rw[if_pos l0]at b;have b72:(p.rows.map Γ).length=α p.rows:=a7w _;generalize b37:p.rows.map Γ=l1 at*;refine cl (EG l1 a61 S L a42 D s ((bO.dK H δ rfl (s.cells λ_ _=>φ)).mono i) δ) ?_;rintro _ D⟨rfl,b73,rfl⟩;have b38:kL l1 L=η->eZ l1 L<α l1:=λo=>by
    grind[kL,Ζ]
   generalize eZ l1 L=W at*;refine aa ?_;refine aF (λa06=>?_) λa06=>?_
   .rw[if_neg (by simp[a06])]at b;subst b;exact⟨_,θ,(P.mono Y).set C,(Α Y).set Q,Θ,_,_,_,rfl⟩
   .rw[if_pos a06]at b;have b74:=b38 a06;obtain⟨b39,b11,b75,_,b40⟩:=av.nv (av.mono H i);rw[nH s]at b11;have b76:=s.len;refine cl (a0y b39 D a61 S b11 W δ δ) ?_;intro a5 t N;have b12:=(s.take W).append (s.drop (W+1));rw[<-nH b12]at N;have a07:∀j k,D j=β k->(∀a c d,S=.aq a c d 1->a≠j)->t j=β k:=λj k o b41=>N.1 _ _ (by rw[b40 j b41];exact o);have a08:=a07 _ _ cg λa c d o=>(a05 a c d o).2.2.2.1;have a09:=a07 _ _ a03 λa c d o=>(a05 a c d o).2.2.1;have u:f.sub t:=λj k l2=>a07 j k (Y _ _ l2) (by
     rintro a c d rfl rfl;have:=H.own.1;rw[a01 _ _ l2]at this;cases this)
    have b77:=fQ N;obtain⟨e,l⟩:∃e,(t.set G (.cells [.v (.bool η),a5,y])).set x (.cells [.v (.bool η),a5,y])=e:=⟨_,rfl⟩;have k5:∀k,en (t.set G k) x=β [.v (.bool ι),.J [] .nil,.J [] .nil]:=λk=>χ (by rw[ο _ _ a65];exact a09);have b13:=χ a08;have b14:e.read x=β [.v (.bool η),a5,y]:=κ (by rw[<-l,ξ]);clear b37 k9;refine aa ?_;refine⟨e,θ,?_⟩;subst b;refine⟨by rw[<-l];exact((P.mono u).set V).set C,by rw[<-l];exact((Α u).set a62).set Q,a5,y,_,n9,rfl,iV.of b12 X (av.emp N ?_) (av.emp q ?_) Μ Μ⟩
    .rintro a c d rfl;have l3:=N.own.1;have h:a≠G:=by grind
     have z:a≠x:=by grind
     rw[<-l,ο _ _ z,ο _ _ h]
    .rintro a c d rfl;obtain⟨_,a68,r⟩:=q.own;have v:=a04 _ _ _ rfl;rw[<-l,ο _ _ v.2.2.1,ο _ _ v.2.2.2.1,r];exact a07 _ _ (a02 _ _ r) λM Z j9 o=>Ι ((a05 M Z j9 o).2.2.2.2 _ _ _ rfl)
  .rw[if_neg l0]at b;rw[decide_eq_false l0]at cg k9;have b78:=s.len;have a57:=rd (π I i) bw;refine cl (EF p b06 n9 n5 y L a42 D (b09.mono (π I i))) ?_;rintro _ D⟨rfl,rfl⟩;obtain⟨-,a69,a71,K⟩:=b08.inner (b36.resolve_left l0);have a10:hN L p<α p.kids:=by grind[yB,List.length_map]
   generalize hN L p=W at*;have a73:=Ρ a10;have b15:p.kids[W]'a10∈p.kids:=a7O _;rw[a73]at b;simp only at b;generalize p.kids[W]'a10=k0 at a73 b15 b;obtain⟨b79,b42,b16,b43,h,z,r,rfl⟩:=X.get a73;obtain⟨_,_,_,b80,b81⟩:=K k0 b15;have b17:=av.mono q a02;obtain⟨b44,b45,b82,_,l4⟩:=b17.nv;have b18:f.sub b44:=λj k l2=>by
    rw[l4 j (by
     rintro a c d rfl rfl;have:=q.own.1;rw[k6.1 _ _ (n2 _ _ l2)]at this;cases this)]
    exact Y _ _ l2
   have b19:=(l4 _ λa c d o=>(a04 a c d o).2.2.2.1).trans cg;have b20:=(l4 _ λa c d o=>(a04 a c d o).2.2.1).trans a03;have b83:=(l4 _ λa c d o=>(a04 a c d o).2.2.2.2).trans a63;have b46:=P.mono Y;have a74:=κ a63;obtain⟨b47,b48,a81⟩:=(bO.dK b17 δ rfl (bB.c X)).get W _ b42;have b21:=aP (N:=h) (e6:=z) (h6:=r) b16;change mA D b47 (ab k0 h z r)at a81;have b22:=a81.ld D θ η 37 δ (by rw[b21.len];omega);rw[show aM η 37 (ab k0 h z r)=.agg (ab k0 h z r) by rw[aM,if_pos rfl,b21.t37]]at b22;refine aa ?_;refine cl (ih D n k0 h z r b46 b16 b43 δ δ) ?_;intro l9 t k1;generalize iv F L m n k0=a83 at k1 b;obtain⟨res,a84⟩:=a83;obtain⟨a11,u,k1⟩:=k1
   dsimp only at a11 k1 b
   have a09:=u _ _ C.1 C.2 a03;have a08:=u _ _ V.1 V.2 cg;have b23:=u _ _ b03.1 b03.2 a63;clear a74 a57 k9 b22 b48 a81;cases res with
   |error b49=>obtain⟨a86,a,a13,a14,rfl⟩:=k1;subst b;refine aa ?_;refine bs λa15 w=>?_;have b50:=U.hc w a09;have k5:∀k,en (t.set a15 k) x=β [.v (.bool ι),.J [] .nil,.J [] .nil]:=λk=>χ (by rw[ο _ _ b50];exact a09);have b24:=a11.cA w;have A:=(Α Y).trans u;refine aa ?_;exact⟨_,θ,(a11.set b24).set C,(A.set (A.no b24 w)).set Q,a86,_,_,_,rfl⟩
   |ok a16=>
    obtain⟨a13,a14,b51,b52,rfl,a88⟩:=k1
    dsimp only at b
    refine aa ?_;refine bs λa15 w=>?_;obtain⟨e,l⟩:∃e,t.set a15 (.cells [.v (.bool a16.leaf),a13,a14])=e:=⟨_,rfl⟩;have a18:t.sub e:=by rw[<-l];exact μ θ w
    have b53:e.read a15=β [.v (.bool a16.leaf),a13,a14]:=κ (by rw[<-l,ξ]);have k9:=rd a18 a08;have a74:=rd a18 b23;have b84:=U.hc w a08;have b85:=U.hc w b23;have b54:=dr.mono ((dr.of b45 (P.mono b18) Ext.refl).step u a11) a18;obtain⟨b25,N,b55,a19⟩:=b54;refine cl (a0M b25 e E T a84 b55 p.kids n9 y N X a16 a13 a14 b51 b52 (a88.mono a18) a69 δ W a10 F a98 a99) ?_;intro l9 O n0;clear l w b53 k9 a74;have a27:=λl5 a89 o=>a0O (B:=a84) (h:=l5) (e:=F) (i:=W) (d:=a89) o a71 ⟨a88.kI,a88.ij⟩;generalize kc a84 F p.kids W a16=a83 at b n0 a27;obtain⟨res,l5⟩:=a83;have a29:∀(a30),bq O E T l5->Ext E T b25 O->O x=β (.cells [.v (.bool ι),.J [] .nil,.J [] .nil])/\O G=β (.cells [.v (.bool ι),S,y])/\
      ∃k2:U,(O.set G (.cells [.v (.bool ι),S,a30])).set x (.cells [.v (.bool ι),S,a30])=k2/\k2.read x=β [.v (.bool ι),S,a30]/\bq k2 E T l5/\Ext E T f k2:=by
     intro a30 h z;have r:=a19.trans z;exact⟨r _ _ C.1 C.2 b20,r _ _ V.1 V.2 b19,_,rfl,κ (ξ _ _ _),(h.set V).set C,((((Α b18).trans r).set a62).set Q)⟩
    cases res with
    |error b49=>
     obtain⟨b26,b56,a86,a34,rfl,b57⟩:=n0
     dsimp only at b b26
     subst b;obtain⟨a90,a92,k2,a94,b14,a95,a96⟩:=a29 a34 b26 b56;have k5:∀k,en (O.set G k) x=β [.v (.bool ι),.J [] .nil,.J [] .nil]:=λk=>χ (by rw[ο _ _ a65];exact a90);have b13:=χ a92;clear a27 a29;refine aa ?_;exact⟨_,θ,a95,a96,a86,_,_,_,rfl⟩
    |ok a89=>
     obtain⟨b58,a34,b59,rfl,a36⟩:=n0;have b60:=a27 l5 a89 rfl
     dsimp only at b a36
     subst b;obtain⟨a90,a92,k2,a94,b14,a95,a96⟩:=a29 a34 a36.fV a36.ext;have k5:∀k,en (O.set G k) x=β [.v (.bool ι),.J [] .nil,.J [] .nil]:=λk=>χ (by rw[ο _ _ a65];exact a90);have b13:=χ a92;obtain⟨b86,a38,b87,a97⟩:=a36;have b57:=fQ a38;clear a27 a29;refine aa ?_;have b61:=a19.trans (a97.trans (Α a38.1));refine⟨_,θ,a95,a96,S,a34,a61,b58,rfl,iV.of s b59 (av.emp (av.mono H i) ?_) (av.emp a38 ?_) Μ b60⟩
     .rintro a c d rfl;have v:=a05 _ _ _ rfl;obtain⟨_,a68,r⟩:=H.own;rw[<-a94,ο _ _ v.2.2.1,ο _ _ v.2.2.2.1,i _ _ r];exact b61 _ _ v.1 v.2.1 (by rw[l4 _ (λM Z j9 o=>v.2.2.2.2 M Z j9 o)];exact i _ _ r)
     .rintro a c d rfl;have l3:=a38.own.1;have b62:=a97 _ _ V.1 V.2 (a19 _ _ V.1 V.2 b19);have b63:=a97 _ _ C.1 C.2 (a19 _ _ C.1 C.2 b20);have h:a≠G:=by rintro rfl;rw[b62]at l3;cases l3
      have z:a≠x:=by rintro rfl;rw[b63]at l3;cases l3
      rw[<-a94,ο _ _ z,ο _ _ h]
def lH(d:Nat)(k:Ω)(h:af)(c:ao):Except Int ao×af:=
 if c=az then(.error 9,h)
 else match iv d k (c.size.toNat+1) h c with
  |(.error o,b)=>(.error o,b)
  |(.ok a,b)=>
   if a.leaf=η/\α a.rows=0 then(.ok az,b)
   else if a.leaf=ι/\α a.kids=1 then(.ok (a.kids.headD az),b)
   else mC b d a.leaf a.rows a.kids
def a0Q(V:U)(x W:Nat)(L:af)(H:bq V x W L)(c:ao)(e f g:Own)(I:α c.sum=32)(k3:c.cC)(o:Ω)(n:Own)(b:Nat)(k4:1<=b)(k5:b<=8)(a14:α o=b):
  AC γ 108 [.ptr x 0,.agg (ab c e f g),.J (ad o) n,.v (.int .i64 (b:Int))] V λK k6=>bq k6 x W (lH b o L c).2/\Ext x W V k6/\gX (lH b o L c).1 K:=by
 have a15:=(aP (N:=e) (e6:=f) (h6:=g) I).lt;have a16:=(aP (N:=.nil) (e6:=.nil) (h6:=.nil) bl).lt;have a18:=ch;have M:=λN d h k i=>cx (a:=.nil) (b:=.nil) (c:=.nil) (A:=N) (N:=d) (e6:=h) (h6:=k) bl i;have a19:=M az .nil .nil .nil bl;generalize O:ab az .nil .nil .nil=k7 at*;obtain⟨k8,a⟩:∃k8,lH b o L c=k8:=⟨_,rfl⟩;rw[a];unfold lH at a;have a27:oM (b) [o]=true:=by simp[oM];omega
 refine aK hm Ov ?_;refine bs λk9 n3=>?_;refine dd λQ P _ _=>?_;refine uJ λn4 a29 _ _ _ _=>?_;generalize y:((V.set k9 _).set Q _).set n4 _=E;have q:V.sub E:=by subst y;exact aO
 have bh:E k9=β (.cells (ab c e f g)):=by subst y;exact aO
 have bw:E Q=β (.cells k7):=by subst y;exact aO
 clear y;have l0:=H.mono q;have r:=H.cA P;have l1:=κ bh;have X:=χ bw;have n5:=@τ;refine ns (yq b [o] [.J (ad o) n] _ E ⟨⟨n,rfl⟩,trivial⟩ (bO.J (by simp[aY,σ])) ς) ?_;refine ns (mB c e f g E I λ_=>k3) ?_;refine aF (λY=>?_) λY=>?_
 .rw[if_pos Y]at a;subst a;exact⟨_,θ,l0.set r,(Α q).set P,Θ,by rw[O]⟩
 rw[if_neg Y]at a;refine bs λl2 s=>?_;have a30:=U.hc s bh;obtain⟨j,z⟩:∃j,E.set l2 (.cells [.ptr x 0,.v (.int .i64 (b))])=j:=⟨_,rfl⟩;have t:E.sub j:=by rw[<-z];exact μ θ s
 have cg:j l2=β (.cells [.ptr x 0,.v (.int .i64 (b))]):=by rw[<-z,ξ]
 have l3:=κ cg;have l1:=rd t bh;refine cl (a0P x W o n b k4 k5 (c.size.toNat+1) j L c e f g (l0.mono t) I k3 δ δ) ?_;intro K Z C;generalize iv b o (c.size.toNat+1) L c=n9 at C a;obtain⟨res,a00⟩:=n9;obtain⟨u,j9,C⟩:=C
 dsimp only at u C a
 have v:=j9 _ _ r.1 r.2 (t _ _ bw);have l4:=H.cA (Ο q s);have a01:=j9 _ _ l4.1 l4.2 cg;have y:=(Α (π q t)).trans j9;clear z l3 l1;cases res with
 |error a02=>obtain⟨a03,a34,w,l,rfl⟩:=C;subst a;refine aa ?_;refine bs λA S=>?_;have l5:=u.cA S;have a04:=U.hc S v;have X:∀l6,en (Z.set A l6) Q=β k7:=λl6=>χ (by rw[ο _ _ a04];exact v);refine aa ?_;exact⟨_,θ,(u.set l5).set r,(y.set (y.no l5 S)).set P,a03,by rw[O]⟩
 |ok T=>
  obtain⟨w,l,a05,a06,rfl,p⟩:=C
  dsimp only at a
  refine aa ?_;refine bs λA S=>?_;obtain⟨F,B⟩:∃F,Z.set A (.cells [.v (.bool T.leaf),w,l])=F:=⟨_,rfl⟩;have D:Z.sub F:=by rw[<-B];exact μ θ S
  have a36:F.read A=β [.v (.bool T.leaf),w,l]:=κ (by rw[<-B,ξ]);have l3:=rd D a01;have X:=χ (D _ _ v);have k0:=u.mono D;have k1:=y.trans (Α D);have a38:=p.oP.len;have a42:=p.kb.len;have a43:=p.kI;have a47:=p.ij;rw[n5,B];clear S s n3 B;refine aF (λG=>?_) λG=>?_
  all_goals refine aF (λc2=>?_) λc2=>?_
  .rw[if_pos ⟨G,δ⟩]at a;subst a;exact⟨_,θ,k0.set r,k1.set P,bl,pV,.nil,.nil,.nil,by rw[O]⟩
  rotate_left
  .obtain⟨m,l7⟩:=a9q.1 (show α T.kids=1 by omega);rw[if_neg (by simp[G]),if_pos ⟨G,δ⟩,l7]at a;subst a;obtain⟨a48,a07,k2,a08,d,h,k,rfl⟩:=p.k.get (show T.kids[0]?=β m by rw[l7];rfl);obtain⟨l8,l9,n0⟩:=(p.vm.mono D).get 0 _ a07;have z:=aP (N:=d) (e6:=h) (h6:=k) k2;change mA F l8 (ab m d h k)at n0;have l9:cz 37 l (.v (.int .i64 0))=β l8:=l9;have a09:=n0.ld F θ η 37 δ (by rw[z.len];omega);rw[show aM η 37 (ab m d h k)=.agg (ab m d h k) by rw[aM,if_pos rfl,z.t37]]at a09;have a10:=M m d h k k2;have z:=z.lt;refine aa ?_;exact⟨_,θ,k0.set r,k1.set P,k2,a08,d,h,k,rfl⟩
  all_goals
   rw[if_neg (by rintro⟨i,a11⟩;first|omega|simp[G]at i),if_neg (by rintro⟨i,a11⟩;first|omega|simp[G]at i),G]at a;subst a;refine cl (EE F x W a00 k0 _ T.rows a05 w T.kids a06 l b k4 k5 p.r (p.ak.mono D) δ p.k (p.vm.mono D) δ) ?_;rintro K a52⟨a13,n1,C⟩;have X:=χ (n1 _ _ r.1 r.2 (D _ _ v));obtain⟨N,d,h,k,a02,n2,rfl⟩:=C.shape;have a56:=(aP (N:=d) (e6:=h) (h6:=k) n2).lt;have a10:=M N d h k n2;refine aa ?_;exact⟨_,θ,a13.set r,(k1.trans n1).set P⟩
end Go.Proofs.YtcfpcblgmmeioaaGreat
namespace Go.bD
open Go
end Go.bD
namespace Go.Proofs.YtcfpcblgmmeioaaGreat
open Go Go.bD
inductive q0 where
 |row (r:Ω)
 |gC (k:ao)
def a0R(h:q0)(b:R):Prop:=
 match h with
 |.row c=>c≠[]/\∃d,d≠.nil/\b=.agg (.J (ad c) d::ab az .nil .nil .nil)
 |.gC a=>α a.sum=32/\a.cC/\∃k o p,b=.agg (.J [] .nil::ab a k o p)
abbrev a0S(a b:Nat)(c:ύ)(d:Own):ύ:=[.ptr a 0,.v (.int .i64 (b:Int)),.J c d]
def EZ(b:U)(c d h:Nat)(k:List q0):Prop:=∃a o,b c=β (.cells (a0S d h a o))/\aB a0R k a
structure ti where
 A:List q0
 B:List q0
 gone:List Ω
 tj:List Ω
 nJ:Int
abbrev a0T(a b:Nat)(c d:ύ)(h k:Own)(o:Int):ύ:=[.ptr a 0,.ptr b 0,.J c h,.J d k,.v (.int .i64 o)]
structure a6X(h k:U)(W o p z C d:Nat)(w:ti):Prop where
 sub:h.sub k
 vn:h W=ζ
 na:h o=ζ
 nb:h p=ζ
 a6Y:o≠p
 a:EZ k o z d w.A
 b:EZ k p C d w.B
 w:∃mu fh r gD,k W=β (.cells (a0T o p mu r fh gD w.nJ))/\aB isRow w.gone mu/\aB isRow w.tj r/\bj h k 1 mu fh/\bj h k 1 r gD/\∀x c y D,fh=.buf x c->gD=.buf y D->x≠y
end Go.Proofs.YtcfpcblgmmeioaaGreat
namespace Go.bD
open Go
end Go.bD
namespace Go.Proofs.YtcfpcblgmmeioaaGreat
open Go Go.bD
variable{A j2:ao}{e i v M b9 j1:Nat}{b3:bY}{B:af}
def rj(a:de B e A=β b3):pZ e A b3:=by
 unfold de at a;split at a
 .cases a
 .split at a
  .cases a
  .split at a
   .rename_i b;obtain rfl:=Δ a;exact vl b
   .cases a
end Go.Proofs.YtcfpcblgmmeioaaGreat
namespace Go.bD
open Go
end Go.bD
namespace Go.Proofs.YtcfpcblgmmeioaaGreat
open Go Go.bD
def wt:q0->Nat
 |.row _=>1
 |.gC a=>if 1<=a.size/\a.size<=1048576 then 3*a.size.toNat - 1 else 1
def kN(a:List q0):Nat:=(a.map wt).sum
structure Bd(w a:ti):Prop where
 wt:kN a.A+kN a.B<kN w.A+kN w.B
 rows:α a.gone+α a.tj+(kN a.A+kN a.B)<=α w.gone+α w.tj+(kN w.A+kN w.B)
 nJ:w.nJ<=a.nJ/\a.nJ+2*(kN a.A+kN a.B:Nat)<=w.nJ+2*(kN w.A+kN w.B:Nat)
end Go.Proofs.YtcfpcblgmmeioaaGreat
namespace Go.bD
open Go
theorem a0U(a:Nat)(c:a<18446744073709551616):a^^^9223372036854775808=(a+9223372036854775808)%18446744073709551616:=by
 have h:(9223372036854775808)=2^63:=Θ;have d:(18446744073709551616)=2^64:=Θ;rw[d]at c;rw[h,d];apply a9O;intro b;rw[aax,abu,aaZ,aaQ];by_cases h1:b<63
 .rw[aaG h1];grind
 .by_cases k:b=63;grind
  .have o:¬b<64:=δ;have p:a.testBit b=false:=a9r (a8z c (a9e δ δ));grind
end Go.bD
namespace Go.Proofs.YtcfpcblgmmeioaaGreat
open Go Go.bD
theorem F0(a:Int):(cq a:Int)=(a+9223372036854775808)%18446744073709551616:=by grind[ρ,BitVec.toNat_ofInt,cq,BitVec.toNat_xor,a0U]
def a0V(a:Int):IntKind.u64.wrap (IntKind.u64.wrap a+9223372036854775808)=(cq a:Int):=by rw[F0,kB,kB];omega
variable{b1:Int}
theorem F1(a: -9223372036854775808<=b1)(b:b1<9223372036854775808):(cq b1:Int)=b1+9223372036854775808:=by rw[F0];omega
variable{b0:Type}
theorem a0W{a b:List b0}{d:b0}(h:α a=α b)(k:∀c<α a,a.getD c d=b.getD c d):a=b:=
 aaT h λc o p=>by grind
theorem tk(a c:Ω)(o p:Own)(h:U)(D:α a<=1000000000000):
  AC γ 61 [.J (ad a) o,.J (ad c) p] h λr x=>x=h/\r=.v (.bool (decide (a=c))):=by
 have E:=bN (q:=a);have F:=bN (q:=c);have G:=@dU a;have L:=@dU c;refine aK hm MV ?_;refine aF (λy=>?_) λy=>?_
 .exact aV (by grind)
 refine gv [0,1] (λb:Nat=>[(5,.v (.int .i64 b))]) (λb=>b<=α a/\∀d<b,a.getD d 0=c.getD d 0) (λb=>α a - b) 0 ⟨δ,λd z=>by omega⟩ aO ?_;rintro b⟨P,k⟩S;refine aa ?_;refine aF (λC=>?_) λC=>?_;rotate_left
 .exact aV (by simp[a0W δ (λd z=>k d δ)])
 refine aF (λc2=>?_) λc2=>?_
 .exact aV (by grind)
 .exact⟨b+1,⟨δ,upto k c2⟩,rfl,δ⟩
variable{g H c0:ύ}{e i v M b9 j1:Nat}
theorem aB.at{b:b0->R->Prop}{a:List b0}(d:b0)(h:aB b a g)(k:e<α a):∃c,g[e]?=β c/\b (a.getD e d) c:=h.get (by simp_all)
def iw(a:Bool):UInt8:=if a=η then 1 else 0
def tl(a:Ω):ϊ:=(a1.cj (a.map cq) 64).map iw
theorem nK(a:Ω)(b:Nat):(a1.cj (a.map cq) b).length=α a*b:=by rw[a1.El,a7w]
theorem a0X(c:Ω)(P:Own)(o:U)(n:α c<=1000):
  AC γ 321 [.J (ad c) P] o λS k=>∃C,bj o k 1 ((tl c).map aj) C/\S=.J ((tl c).map aj) C:=by
 have q:=bN (q:=c);have D:=@dU c;have T:(tl c).length=α c*64:=by rw[tl,a7w,nK]
 refine aK hm U4 ?_;refine cc [0] (λa:Nat×ϊ×Own=>[(3,.J (a.2.1.map aj) a.2.2),(4,.v (.int .i64 ((a.1) - 1)))]) (λa k=>a.1<=64/\a.2.1++(a1.cj (c.map cq) a.1).map iw=tl c/\bj o k 1 (a.2.1.map aj) a.2.2) (λa=>a.1) (64,[],.nil) ⟨⟨Θ,rfl,Τ θ⟩,aO⟩ ?_;rintro⟨x,E,V⟩ s ⟨y,p,h⟩ W
 dsimp only at y p h|-
 refine aa ?_;refine aF (λF=>?_) λF=>?_
 .obtain⟨b,rfl⟩:∃b,x=b+1:=⟨x - 1,δ⟩;have e:=congrArg α p;rw[Ψ,T]at e;rw[a1.cj,a8l,<-a7B]at p;have f:((b+1:Nat)) - 1=(b:Int):=δ;have t:IntKind.u64.wrap (b)=(b):=wrap_u64 δ δ;rw[f]at F|-;refine cc [0,4] (λa:Nat×ϊ×Own=>[(3,.J (a.2.1.map aj) a.2.2),(5,.v (.int .i64 (a.1)))]) (λa k=>a.1<=α c/\E++((c.take a.1).map λg=>iw ((cq g).testBit b))=a.2.1/\bj o k 1 (a.2.1.map aj) a.2.2) (λa=>α c - a.1) (0,E,V) ⟨⟨ς,ς,h⟩,aO⟩ ?_;clear h;rintro⟨r,G,i⟩ u ⟨j,z,h⟩ W
  dsimp only at j z h|-
  have v:α G<=65000:=by grind
  refine aa ?_;refine aF (λl=>?_) λl=>?_
  .have w:=eX (a:=c) (b:=0) (e:=r) δ;have A:=D (b:=r) δ;clear D;generalize c.getD r 0=d at*;have B:bt .shr (.int .u64 (cq d)) (.int .u64 (b))=β (.int .u64 ((cq d>>>b))):=by rw[so _ _ _ δ δ];simp
   have H:bt .rem (.int .u64 ((cq d>>>b))) (.int .u64 2)=β (.int .u64 (((cq d>>>b)%2:Nat))):=by simp only[bt,fy,hT,a8o,if_false,if_true];rfl
   have I:IntKind.u8.wrap (((cq d>>>b)%2:Nat))=((iw ((cq d).testBit b)).toNat):=by
    rw[wrap_u8 δ δ];have:(cq d).testBit b=decide ((cq d>>>b)%2=1):=by simp
    rw[this,iw];rcases Nat.mod_two_eq_zero_or_one (cq d>>>b)with L|L<;>simp[L]
   have K:=a0V d;refine YZ h λM m N y _=>?_;exact⟨(r+1,_,m),⟨by simp only;omega,by grind,y⟩,⟨rfl,rfl⟩,by simp only;omega⟩
  .rw[Φ δ]at z;refine⟨(b,G,i),⟨by simp only;omega,by simp only[<-z,<-p,a1.fT,a9s];rfl,h⟩,⟨rfl,rfl⟩,ς⟩
 .obtain rfl:x=0:=δ;grind[a1.cj,θ]
def a0Y(b:Nat)(c:List Bool)(a:Nat)(d:a<b):a1.iT (b - a) (c.drop (8*a))=ν (a1.val ((c.drop (8*a)).take 8))::a1.iT (b -(a+1)) (c.drop (8*(a+1))):=by rw[show b - a=(b -(a+1))+1 by omega,a1.iT,a8d,show 8*(a+1)=8*a+8 by omega]
theorem yD:∀(b:List Bool)(a:Bool),a1.val (b++[a])=2*a1.val b+(if a=η then 1 else 0)
 |[],a=>by simp[a1.val]
 |c::b,a=>by
  simp only[a8A,a1.val,Ψ,a7s,a7x,yD b a,aaS];split<;>omega
theorem a0Z(b:List Bool)(h:Nat)(l:α b=8*h)(D:Own)(G:U)(O:h<=100000):
  AC γ 320 [.J ((b.map iw).map aj) D] G λm z=>∃W,bj G z 1 ((a1.iT h b).map aj) W/\m=.J ((a1.iT h b).map aj) W:=by
 refine bd hm U2 ς ?_;have e:((b.map iw).map aj).length=8*h:=by simp[l]
 refine bU ?_;refine cm (λd z=>∃(a:Nat)(x:ϊ)(C:Own),a<=h/\x++a1.iT (h - a) (b.drop (8*a))=a1.iT h b/\α x=a/\bj G z 1 (x.map aj) C/\d 0=.J ((b.map iw).map aj) D/\d 3=.J (x.map aj) C/\d 4=.v (.int .i64 ((8*a:Nat))))
  (λd _=>match d 4 with|.v (.int _ L)=>8*h - L.toNat|_=>0) ⟨0,[],.nil,δ,rfl,rfl,Τ θ,?_⟩ ?_
 .exact kD
 rintro d n⟨a,x,C,Q,P,X,f,p,r,o⟩;by_cases g:((8*a:Nat))+7<((8*h:Nat):Int)
 .rw[a0Y h b a δ]at P;refine ak (bh @p @r @o @e @g) ?_;refine cm (λd z=>∃c:Nat,c<=8/\z=n/\d 0=.J ((b.map iw).map aj) D/\d 3=.J (x.map aj) C/\d 4=.v (.int .i64 ((8*a:Nat)))/\d 5=.v (.int .u8 (a1.val ((b.drop (8*a)).take c)))/\d 6=.v (.int .i64 c))
   (λd _=>match d 6 with|.v (.int _ L)=>8 - L.toNat|_=>0) ⟨0,δ,rfl,?_⟩ ?_
  .refine ak (aE @p @r @o) ?_;rfl
  have q:=o;clear p r o;rintro Y s⟨c,Z,rfl,p,r,o,E,F⟩;by_cases i:(c:Int)<8
  .have S:b[8*a+c]?=β b[8*a+c]:=Ρ δ;have j:(b.drop (8*a)).take (c+1)=(b.drop (8*a)).take c++[b[8*a+c]]:=by rw[a8r,aaf,S];rfl
   generalize b[8*a+c]'δ=k at S j;have T:=a1.nG ((b.drop (8*a)).take (c+1));have V:a1.val ((b.drop (8*a)).take (c+1))<256:=a8z T (by
    have:((b.drop (8*a)).take (c+1)).length<=8:=by rw[a7q];omega
    exact a9e δ this)
   rw[j,yD]at V;have t:cz 1 (.J ((b.map iw).map aj) D) (.v (.int .i64 (((8*a:Nat))+(c))))=β (.bS [.v (.int .u8 ((iw k).toNat))]):=by rw[show((8*a:Nat))+(c)=((8*a+c:Nat):Int) by omega,gp δ];rw[a7L,a7R,a7R,S];rfl
   have u:cW ι 1 s (.bS [.v (.int .u8 ((iw k).toNat))])=β (.v (.int .u8 ((iw k).toNat))):=rfl;have j9:((iw k).toNat:Int)=if k=η then 1 else 0:=by cases k<;>rfl
   generalize k0:a1.val ((b.drop (8*a)).take c)=y at*;have k1:(if k=η then 1 else 0)<=1:=by split<;>omega
   have v:IntKind.u8.wrap (2*(y))=((2*y:Nat)):=by rw[wrap_u8 δ δ];omega
   have w:IntKind.u8.wrap (((2*y:Nat))+((iw k).toNat))=((2*y+(if k=η then 1 else 0):Nat)):=by grind[wrap_u8]
   have A:bt .mul (.int .u8 2) (.int .u8 (y))=β (.int .u8 ((2*y:Nat))):=by rw[<-v];rfl
   have B:bt .add (.int .u8 ((2*y:Nat))) (.int .u8 ((iw k).toNat))=β (.int .u8 ((2*y+(if k=η then 1 else 0):Nat))):=by rw[<-w];rfl
   refine ak (cg @p @r @o @E @F @i @t @u @A @B) ?_;grind[yD]
  .obtain rfl:c=8:=δ;refine ak (bz @p @r @o @E @F @i) ?_;refine dJ θ (by simp[aY,σ]) λk2 k3 H=>?_;refine ak (bh @p @r @o @E @F) ?_;refine ep (f.mono H.sub) (by intro k4 I;obtain⟨k5,_,rfl⟩:=a7G.1 I;rfl) (by simp[aY,σ]) (by grind) (by grind) λk6 k7 K=>?_;have T:=a1.nG ((b.drop (8*a)).take 8);have V:a1.val ((b.drop (8*a)).take 8)<256:=a8z T (by
    grind)
   have M:R.v (.int .u8 (a1.val ((b.drop (8*a)).take 8)))=aj (ν (a1.val ((b.drop (8*a)).take 8))):=by show _=R.v (.int .u8 ((ν (a1.val ((b.drop (8*a)).take 8))).toNat));rw[a8p,a9d V]
   have N:x.map aj++[R.v (.int .u8 (a1.val ((b.drop (8*a)).take 8)))]=(x++[ν (a1.val ((b.drop (8*a)).take 8))]).map aj:=by rw[M,a8l];rfl
   rw[N]at K|-;refine ak (bz @p @r @o @E @F @q) ?_;grind
 .obtain rfl:a=h:=δ;rw[a9J,a1.iT,a8t]at P;subst P;refine ak (bh @p @r @o @e @g) ?_;exact⟨_,θ,C,f,rfl⟩
def codeF(a:Ω):ϊ:=a1.iT (8*α a) (a1.cj (a.map cq) 64)
def vo(a:Ω):(codeF a).length=8*α a:=a1.Er _ _
def F2(a:Ω)(c:Own)(b:U)(d:α a<=1000):
  AC γ 286 [.J (ad a) c] b λh k=>b.sub k/\∃o,h=.J ((codeF a).map aj) o:=by
 refine bd hm Tk ς ?_;refine bU ?_;refine ah (a0X a c b d) ?_;rintro _ p⟨r,x,rfl⟩;refine bU ?_;refine ah (a0Z (a1.cj (a.map cq) 64) (8*α a) (by rw[nK];omega) r p δ) ?_;rintro _ C⟨y,z,rfl⟩;refine bU ?_;exact⟨_,θ,π x.sub z.sub,y,rfl⟩
def kO(a b:Ω):Bool:=if α a=α b then Op.bytesLess (codeF a) (codeF b)else decide (α a<α b)
def a1a(a b:ϊ):jn .lss (bo a) (bo b)=β (.v (.bool (Op.bytesLess a b))):=by show(bt .lss (.string ⟨a.toArray⟩) (.string ⟨b.toArray⟩)).map R.v= _;simp only[bt,qx,toList_mk,a8u]
theorem a1b(a b:Ω)(d h:Own)(k:U):
  AC γ 285 [.J ((codeF a).map aj) d,.J ((codeF b).map aj) h] k λy z=>z=k/\y=.v (.bool (kO a b)):=by
 refine bd hm Ti ς ?_;have o:((codeF a).map aj).length=8*α a:=by rw[a7w,vo]
 have p:((codeF b).map aj).length=8*α b:=by rw[a7w,vo]
 have r:np (.J ((codeF a).map aj) d)=β (bo (codeF a)):=pG;have x:np (.J ((codeF b).map aj) h)=β (bo (codeF b)):=pG;unfold kO;by_cases C:α a=α b
 .have c:((8*α a:Nat))=((8*α b:Nat):Int):=δ;refine ak (bz @o @p @c @r @x @a1a) ?_;exact⟨_,θ,rfl,by rw[if_pos C]⟩
 .have c:¬((8*α a:Nat))=((8*α b:Nat):Int):=δ;refine ak (bh @o @p @c @r @x) ?_;refine⟨_,θ,rfl,?_⟩;simp_all
theorem F3(a b:Ω)(d h:Own)(c:U)(o:α a<=1000)(p:α b<=1000):
  AC γ 236 [.J (ad a) d,.J (ad b) h] c λr x=>c.sub x/\r=.v (.bool (kO a b)):=by
 refine bd hm S1 ς ?_;refine bU ?_;refine ah (F2 a d c o) ?_;rintro _ y⟨D,z,rfl⟩;refine bU ?_;refine ah (F2 b h y p) ?_;rintro _ k⟨E,C,rfl⟩;refine bU ?_;refine ah (a1b a b z C k) ?_;rintro _ k⟨rfl,rfl⟩;refine bU ?_;grind
theorem F4:∀ {a b:ϊ},α a=α b->Op.bytesLess a b=a1.tb a b
 |[],[],_=>rfl
 |h::a,k::b,c=>by
  have d:α a=α b:=by simpa using c
  simp only[Op.bytesLess,a1.tb,F4 d];grind
theorem F5(d h:Ω):∀(b:List (Int×Int))(a:(Int×Int)×Nat),(b.map λc=>(cq c.1,cq c.2)).foldl a1.pick ((cq a.1.1,cq a.1.2),a.2)=((cq (b.foldl gW a).1.1,cq (b.foldl gW a).1.2),(b.foldl gW a).2)
 |[],a=>rfl
 |c::b,a=>by
  simp only[a7C,a7S];rw[<-F5 d h b];grind[a1.pick,gW]
structure bQ(d:Nat)(p:Ω):Prop where
 len:α p=d
 kP:dk p
def F6(a b:Ω):(a.map cq).zip (b.map cq)=(a.zip b).map λc=>(cq c.1,cq c.2):=by rw[List.zip_map];rfl
theorem a1c{b:(Int×Int)×Nat}:∀(a:List (Int×Int)),(a.foldl gW b).1=b.1\/(a.foldl gW b).1∈a:=by
 intro a
 induction a generalizing b with
 |nil=>simp
 |cons d a ih=>
  rw[a7S];rcases ih (b:=gW b d)with c|c
  .rw[c];unfold gW;split
   .simp
   .simp
  .simp_all
variable{q b7:Ω}
theorem rk(z:1<=e)(C:e<=8)(h:bQ e q)(k:bQ e b7):bC q b7=a1.lexB (a1.cj (q.map cq) 64) (a1.cj (b7.map cq) 64):=by
 unfold bC;have D:=h.len;have E:=k.len;rw[if_pos ⟨δ,δ,δ⟩];have F:q.zip b7≠[]:=by intro c;have:=congrArg α c;simp_all
 obtain⟨a,d,b⟩:∃a d,q.zip b7=a::d:=by
  cases G:q.zip b7 with
  |nil=>trivial
  |cons a d=>simp
 have y:(q.zip b7).headD (0,0)=a:=by rw[b];rfl
 rw[y];have o:=a1.Ep 64 (q.map cq) (b7.map cq) Μ (λa b=>by
  obtain⟨L,P⟩:=a;have hm:=List.of_mem_zip b;obtain⟨p,_,rfl⟩:=a7G.1 hm.1;obtain⟨r,_,rfl⟩:=a7G.1 hm.2;exact a9U (oJ _) (oJ _)) (cq a.1,cq a.2) (by rw[F6,b];simp)
 rw[F6,F5 q b7 (q.zip b7) (a,0)]at o;rw[<-Bool.coe_iff_coe,decide_eq_true_eq];rw[<-o];simp only;have x:((q.zip b7).foldl gW (a,0)).1∈q.zip b7:=by grind[a1c]
 generalize ((q.zip b7).foldl gW (a,0)).1=c at x;obtain⟨p,r⟩:=c;have hm:=List.of_mem_zip x;have S:=h.kP p hm.1;have T:=k.kP r hm.2;grind[F1]
theorem F7(c:1<=e)(d:e<=8)(a:bQ e q)(b:bQ e b7):kO q b7=bC q b7:=by have h:=a.len;have k:=b.len;rw[rk c d a b];unfold kO;rw[if_pos δ,F4 (by rw[vo,vo];omega)];grind[codeF,a1.Es,nK]
def F8:∀(c:Ω),∀b∈c.zip c,b.1=b.2
 |[],b,a=>by cases a
 |d::c,b,a=>by
  rw[List.zip_cons_cons]at a;rcases a7J.1 a with rfl|a
  .rfl
  .exact F8 c b a
theorem q1(a:Ω):bC a a=false:=by
 unfold bC;split
 .have:∀(b:List (Int×Int))(c),(∀d∈b,d.1=d.2)->c.1.1=c.1.2->(b.foldl gW c).1.1=(b.foldl gW c).1.2:=by
   intro b
   induction b with
   |nil=>intro c _ h;exact h
   |cons d b ih=>grind[gW]
  have k:=F8 a;have o:((a.zip a).headD (0,0)).1=((a.zip a).headD (0,0)).2:=by
   cases h:a.zip a with
   |nil=>rfl
   |cons d b=>simp_all
  grind
 .rfl
theorem gi(d:1<=e)(h:e<=8):a1.Ord bC (bQ e) where
 jY:=q1
 trans C D L b a p h1 k:=by rw[rk d h b a]at h1;rw[rk d h a p]at k;rw[rk d h b p];exact a1.a0n (by rw[nK,nK,b.len,a.len]) (by rw[nK,nK,a.len,p.len]) h1 k
 total C D b a h1 k:=by
  rw[rk d h b a]at h1;rw[rk d h a b]at k;have:=a1.a0o (by rw[nK,nK,b.len,a.len]) h1 k;have F:=a1.a0l (by simp[b.len,a.len]) 64 this (λr x=>by obtain⟨o,_,rfl⟩:=a7G.1 x;exact oJ o) (λr x=>by obtain⟨o,_,rfl⟩:=a7G.1 x;exact oJ o);refine aaL λy=>?_;have c:=congrArg (λG=>G[y]?) F;simp only[a7R]at c;cases E:C[y]? with
  |none=>grind
  |some r=>rw[E]at c;cases z:D[y]? with
   |none=>rw[z]at c;cases c
   |some o=>rw[z]at c;simp only[a8u,a7y]at c;have P:=b.kP r (a7r E);have S:=a.kP o (a7r z);grind[F1]
variable{O:List Ω}
def iW(a:aB isRow O g):aY 1 g:=a.cells λ_ _=>φ
theorem F9{a:Ω->Ω->Bool}(d:∀b<e,a (O.getD b []) q=η)(c:e<=α O)(h:e<α O->a (O.getD e []) q=ι):a1.dX a O q=O.take e++[q]++O.drop e:=by
 rw[a7B];change _=O.take e++q::O.drop e
 induction O generalizing e with
 |nil=>simp at c;subst c;rfl
 |cons k O ih=>
  cases e with
  |zero=>grind[a1.dX,List.takeWhile_cons,List.dropWhile_cons]
  |succ e=>have p:a k q=true:=d 0 δ;have:=ih (λb r=>d (b+1) δ) (by simpa using c) (λo=>h (by simpa using o));simp_all [a1.dX]
theorem a1d(b:List Ω)(L:ύ)(W o:Own)(k:Ω)(y:U)(h:aB isRow b L)(t:α b<=1000)(e:∀z∈b,α z<=1000)(f:α k<=1000):
  AC γ 180 [.J L W,.J (ad k) o] y λz p=>y.sub p/\∃P C,z=.J P C/\aB isRow (a1.dX kO b k) P:=by
 have u:=h.len;have v:=iW h;refine aK hm Qv ?_;refine cc [0,1] (λa:Nat×ύ×Own=>[(5,.J a.2.1 a.2.2),(6,.v (.int .i64 (a.1)))]) (λa p=>a.1<=α b/\(∀S<a.1,kO (b.getD S []) k=η)/\aB isRow (b.take a.1) a.2.1/\bj y p 1 a.2.1 a.2.2) (λa=>α b - a.1) (0,[],.nil) ⟨⟨ς,λS w=>by omega,trivial,Τ θ⟩,aO⟩ ?_;rintro⟨d,A,on⟩ g ⟨D,r,c,x⟩ B
 dsimp only at D r c x|-
 have i:=c.len;rw[a7q]at i;refine aa ?_;refine aF (λj=>?_) λj=>?_
 .obtain⟨_,H,T,rfl⟩:=h.at [] (e:=d) δ;have l:=eX (a:=b) (b:=[]) (e:=d) δ;refine cl (F3 (b.getD d []) k T o g (e _ (by grind)) f) ?_;rintro _ I⟨V,rfl⟩;refine aa ?_;refine aF (λc2=>?_) λc2=>?_
  .refine hG (x.mono V) (iW c) λ_ C p m _=>?_;exact⟨(d+1,_,C),⟨by simp only;omega,upto r c2,by simp only[l];exact c.snoc ⟨T,rfl⟩,m⟩,⟨rfl,rfl⟩,by simp only;omega⟩
  .rw[F9 r D λ_=>c2];refine hG (x.mono V) (iW c) λ_ n q E _=>?_;refine kE E (Dl (iW c) rfl) (iW (h.drop d)) λF s G _=>?_;exact⟨G.sub,_,F,rfl,(c.snoc ⟨o,rfl⟩).append (h.drop d)⟩
 .rw[F9 r D λ_=>by omega];refine hG x (iW c) λ_ n q E _=>?_;refine kE E (Dl (iW c) rfl) (iW (h.drop d)) λF s G _=>?_;exact⟨G.sub,_,F,rfl,(c.snoc ⟨o,rfl⟩).append (h.drop d)⟩
def hp(a:Nat):ϋ:=(ω (a1.bT a)).map λb=>a/a1.bT a+if b<a%a1.bT a then 1 else 0
def iX(a:ϋ):ύ:=a.map λ(b:Nat)=>R.v (.int .i64 (b:Int))
def yE{a:Nat}:a1.bT a<=a:=by unfold a1.bT;omega
def vp{a:ϋ}:(iX a).length=α a:=by simp[iX]
def Fa{a:ϋ}:aY 1 (iX a):=λc b=>by obtain⟨_,_,rfl⟩:=a7G.1 b;rfl
def vq{a:Nat}:(hp a).length=a1.bT a:=by simp[hp]
def yF{a b:Nat}(c:b<a1.bT a):(hp a).getD b 0=a/a1.bT a+if b<a%a1.bT a then 1 else 0:=by simp[hp,c]
def Fb(a:Nat)(g:a<=1000)(o:U):
  AC γ 238 [.v (.int .i64 (a:Int))] o λG d=>o.sub d/\∃L,G=.J (iX (hp a)) L:=by
 have P:(a:Int).tdiv 4=((a/4:Nat)):=rfl;have x:a1.bT a=if 4*(a/4)<a then a/4+1 else a/4:=by unfold a1.bT;split<;>omega
 refine aK hm S5 ?_;refine oy [0] (λ_:Unit=>[(3,.v (.int .i64 (a1.bT a)))]) (λ_ d=>d=o) (λh=>?_) (λh=>?_) ?_
 .have h:=of_decide_eq_true h;rw[if_pos δ]at x;have b:((a/4:Nat))+1=(a1.bT a:Int):=δ;exact aO
 .have h:=of_decide_eq_false h;rw[if_neg δ]at x;have b:((a/4:Nat))=(a1.bT a:Int):=δ;exact aO
 rintro _ o rfl S;have i:iX []=[]:=rfl;clear x P;have j:=@yE a;have T:=@vq a;have E:=@yF a;refine aa ?_;refine cc [0,3] (λc:Nat×Own=>[(4,.J (iX ((hp a).take c.1)) c.2),(5,.v (.int .i64 (c.1)))]) (λc d=>c.1<=a1.bT a/\bj o d 1 (iX ((hp a).take c.1)) c.2) (λc=>a1.bT a - c.1) (0,.nil) ⟨⟨ς,Τ θ⟩,aO⟩ ?_;rintro⟨k,V⟩ l ⟨W,p⟩ S
 dsimp only at W p|-
 have m:=aac a (a1.bT a);have n:(a:Int).tdiv (a1.bT a:Int)=((a/a1.bT a:Nat)):=rfl;have q:(a:Int).tmod (a1.bT a:Int)=((a%a1.bT a:Nat)):=rfl;refine aa ?_;refine aF (λh=>?_) λh=>?_
 .have F:=E (b:=k) δ;have y:=eX (a:=hp a) (b:=0) (e:=k) δ;rw[F]at y;have z:∀r:Nat,(if k<a%a1.bT a then 1 else 0)=r->iX ((hp a).take k)++[R.v (.int .i64 ((a/a1.bT a+r:Nat)))]=iX ((hp a).take (k+1)):=λr b=>by
   rw[y,b,iX,iX,a8l];rfl
  have e:=z 0;have f:=z 1;clear E F y z T;generalize a/a1.bT a=r at*;generalize a%a1.bT a=s at*;generalize hp a=t at*;refine aF (λc2=>?_) λc2=>?_
  .have b:=f (if_pos δ);refine hG p Fa (λ_ C d D _=>?_) (P:=by rw[vp,a7q];omega);exact⟨(k+1,C),⟨by simp only;omega,b▸D⟩,⟨by simp only[<-b];rfl,rfl⟩,by simp only;omega⟩
  .have b:=e (if_neg δ);refine hG p Fa (λ_ C d D _=>?_) (P:=by rw[vp,a7q];omega);exact⟨(k+1,C),⟨by simp only;omega,b▸D⟩,⟨by simp only[<-b];rfl,rfl⟩,by simp only;omega⟩
 .rw[Φ δ]at p|-;exact⟨p.sub,V,rfl⟩
def bA(c:U):(d:Nat)->a1.T d->R->Prop
 |0,a,h=>∃b p k o,h=.ptr b 0/\c b=β (.cells [.J p k,.J [] o])/\aB isRow (a1.rows a) p
 |d+1,a,h=>∃b r k o,h=.ptr b 0/\c b=β (.cells [.J [] o,.J r k])/\aB (bA c d) (a1.kids a) r/\a1.kids a≠[]/\(a1.kids a).length<=1000
def bA.gl{r x:U}(d:iL r x):∀ {a:Nat}{b:a1.T a}{c:R},bA r a b c->bA x a b c
 |0,b,c,⟨h,y,k,eK,h1,o,p⟩=>⟨h,y,k,eK,h1,d _ _ o,p⟩
 |a+1,b,c,⟨h,z,k,eK,h1,o,p,C⟩=>⟨h,z,k,eK,h1,d _ _ o,p.mono λ_ _=>bA.gl d,C⟩
variable{f s e0:U}
def bA.mono(b:f.sub s){t:a1.T e}{a:R}(c:bA f e t a):bA s e t a:=c.gl (U.sD b)
theorem bA.cells{d:U}{a:Nat}{h:a1.T a}{b:R}(c:bA d a h b):α b.cells=1:=by
 cases a with
 |zero=>obtain⟨k,_,_,_,rfl,_⟩:=c;rfl
 |succ a=>obtain⟨k,_,_,_,rfl,_⟩:=c;rfl
theorem bA.ptr{c:U}{a:Nat}{k:a1.T a}{d:R}(h:bA c a k d):∃b o p,d=.ptr b 0/\c b=β (.cells [o,p]):=by
 cases a with
 |zero=>obtain⟨b,_,_,_,rfl,r,_⟩:=h;simp_all
 |succ a=>obtain⟨b,_,_,_,rfl,r,_⟩:=h;simp_all
theorem Fc{k:Type}:∀(a:Nat)(b:List k),a<=α b->∀d∈a1.eE a b,d≠[]
 |0,b,_,d,c=>by cases c
 |a+1,b,p,d,c=>by
  have r:=aab (α b) (a+1);have hm:=a9t (α b) (aby a);have x:1<=α b/(a+1):=(abf (aby a)).2 δ;rw[a1.eE]at c;generalize (α b)/(a+1)=h at*;generalize (α b)%(a+1)=y at*;have z:(a+1)*h=a*h+h:=by rw[a8w];omega
  have C:a<=a*h:=aaY _ δ;rcases a7J.1 c with rfl|c
  .intro o;have:=congrArg α o;grind
  .exact Fc a _ (by rw[a7F];split<;>omega) d c
def a1e(a:List b0):a1.chunks a=(ω (a1.bT (α a))).map λb=>(a.drop (b*(α a/a1.bT (α a))+min b (α a%a1.bT (α a)))).take (α a/a1.bT (α a)+if b<α a%a1.bT (α a) then 1 else 0):=a1.Ev _ _
def ft(a b:Nat):Nat:=b*(a/a1.bT a)+min b (a%a1.bT a)
def yG(a:i<a1.bT e):ft e (i+1)=ft e i+(hp e).getD i 0:=by rw[yF a];unfold ft;rw[a8w];split<;>omega
def Fe(a:i<=a1.bT e):ft e i<=e:=by have:=aab e (a1.bT e);have:=a7D (e/a1.bT e) a;unfold ft;omega
def vr{a:List b0}:(a1.chunks a).length=a1.bT (α a):=mE.1
def Ff{a:List b0}(b:e<a1.bT (α a)):(a1.chunks a).take (e+1)=(a1.chunks a).take e++[(a.take (ft (α a) (e+1))).drop (ft (α a) e)]:=by rw[a8r,a1e,a7R,a9E b,yG b,yF b,a8H];simp[ft]
def Fg(a:i<a1.bT e):(iX (hp e))[i]?=β (.v (.int .i64 ((hp e).getD i 0:Nat))):=by simp[iX,vq,a]
def bA.c{a:List (a1.T e)}(b:aB (bA f e) a g):aY 1 g:=b.cells λ_ _=>bA.cells
def Fh(a:List Ω)(o:ύ)(G:Own)(p:U)(r:aB isRow a o)(L:α a<=1000):
  AC γ 176 [.J o G] p λP d=>p.sub d/\∃k x,P=.J k x/\aB (bA d 0) ((a1.chunks a).map a1.leaf) k:=by
 have s:=r.len;have t:=iW r;have u:=yE (a:=α a);have v:(iX (hp (α a))).length=a1.bT (α a):=vp.trans vq;refine aK hm Qn ?_;refine cl (Fb (α a) L p) ?_;rintro _ S⟨T,w,rfl⟩;have A:ft (α a) 0=0:=by simp[ft]
 refine aa ?_;refine cc [0,5] (λb:Nat×ύ×Own=>[(3,.J b.2.1 b.2.2),(4,.v (.int .i64 (ft (α a) b.1))),(6,.v (.int .i64 (b.1)))]) (λb d=>b.1<=a1.bT (α a)/\aB (bA d 0) (((a1.chunks a).take b.1).map a1.leaf) b.2.1/\bj S d 1 b.2.1 b.2.2) (λb=>a1.bT (α a) - b.1) (0,[],.nil) ⟨⟨ς,trivial,Τ θ⟩,aO⟩ ?_;rintro⟨c,k,V⟩ W ⟨e,h,y⟩ B
 dsimp only at e h y|-
 have f:=h.len;rw[a7w,a7q,vr]at f;refine aa ?_;refine aF (λg=>?_) λg=>?_
 .have H:=yG (e:=α a) (i:=c) δ;have I:=Fe (e:=α a) (i:=c+1) δ;have K:=Fg (e:=α a) (i:=c) δ;have i:=Ff (a:=a) (e:=c) δ;have z:=(r.take (ft (α a) (c+1))).drop (ft (α a) c);generalize M:ft (α a) (c+1)=C at*;generalize ft (α a) c=D at*;generalize (hp (α a)).getD c 0=j at*;have N:(D)+(j)=(C:Int):=δ;refine sF (iW z) (λE l O=>?_);refine bs λF Q=>?_;have m:=r1 (f:=W) (s:=l.set F (.cells [.J ((o.take C).drop D) E,.J [] .nil]));refine hG (y.mono m) (bA.c h) λ_ x d n q=>?_;refine⟨(c+1,_,x),⟨by simp only;omega,?_,n⟩,⟨rfl,by simp only;congr 3;omega,rfl⟩,by simp only;omega⟩;simp only[i,a8l];exact(h.mono λ_ _=>bA.gl fL).snoc ⟨F,_,E,.nil,rfl,q _ _ (ξ _ _ _),z⟩
 .rw[Φ (by rw[vr];omega)]at h;exact⟨_,θ,π T y.sub,k,V,rfl,h⟩
theorem yH(z:U)(a:List (a1.T e))(r:ύ)(P:Own)(k:U)(x:aB (bA z e) a r)(S:α a<=1000)(T:z.sub k):
  AC γ 177 [.J r P] k λV d=>k.sub d/\∃o y,V=.J o y/\aB (bA d (e+1)) ((a1.chunks a).map a1.node) o:=by
 have A:=x.len;have B:=bA.c x;have W:=yE (a:=α a);have H:(iX (hp (α a))).length=a1.bT (α a):=vp.trans vq;refine aK hm Qp ?_;refine cl (Fb (α a) S k) ?_;rintro _ f⟨C,I,rfl⟩;have K:ft (α a) 0=0:=by simp[ft]
 refine aa ?_;refine cc [0,5] (λc:Nat×ύ×Own=>[(3,.J c.2.1 c.2.2),(4,.v (.int .i64 (ft (α a) c.1))),(6,.v (.int .i64 (c.1)))]) (λc d=>c.1<=a1.bT (α a)/\aB (bA d (e+1)) (((a1.chunks a).take c.1).map a1.node) c.2.1/\bj f d 1 c.2.1 c.2.2) (λc=>a1.bT (α a) - c.1) (0,[],.nil) ⟨⟨ς,trivial,Τ θ⟩,aO⟩ ?_;rintro⟨b,o,g⟩ i ⟨j,h,p⟩ M
 dsimp only at j h p|-
 have l:=h.len;rw[a7w,a7q,vr]at l;refine aa ?_;refine aF (λm=>?_) λm=>?_
 .have N:=yG (e:=α a) (i:=b) δ;have O:=Fe (e:=α a) (i:=b+1) δ;have Q:=Fg (e:=α a) (i:=b) δ;have n:=Ff (a:=a) (e:=b) δ;have q:(a.take (ft (α a) (b+1))).drop (ft (α a) b)≠[]:=Fc (a1.bT (α a)) a W _ (a7A (i:=b+1) (by grind[a1.chunks]));have D:=(x.take (ft (α a) (b+1))).drop (ft (α a) b);generalize X:ft (α a) (b+1)=E at*;generalize ft (α a) b=F at*;generalize (hp (α a)).getD b 0=s at*;have Y:(F)+(s)=(E:Int):=δ;refine sF (bA.c D) (λG t Z=>?_);refine bs λL j9=>?_;have u:=r1 (f:=i) (s:=t.set L (.cells [.J [] .nil,.J ((r.take E).drop F) G]));have k0:=π T (π C p.sub);refine hG (p.mono u) (bA.c h) λ_ y d v w=>?_;refine⟨(b+1,_,y),⟨by simp only;omega,?_,v⟩,⟨rfl,by simp only;congr 3;omega,rfl⟩,by simp only;omega⟩;simp only[n,a8l];exact(h.mono λ_ _=>bA.gl fL).snoc ⟨L,_,G,.nil,rfl,w _ _ (ξ _ _ _),D.mono λ_ _=>bA.gl fL,q,by simp[a1.fs];omega⟩
 .rw[Φ (by rw[vr];omega)]at h;exact⟨_,θ,π C p.sub,o,g,rfl,h⟩
end Go.Proofs.YtcfpcblgmmeioaaGreat
namespace Go.a1
variable{lt:Row->Row->Bool}{ok:Row->Prop}
variable{e i v M b9 j1:Nat}{b0:Type}
def rl{a:List b0}{b:b0}(c:a[e]?=β b):a=a.take e++b::a.drop (e+1):=by obtain⟨d,rfl⟩:=a7u.1 c;simp
variable{h4:Row}
def vs(y:Ord lt ok)(z:ok h4){a:List (T e)}(C:a≠[])(k:∀b∈a,1<=len b/\lE e b)(o:hj lt (a.flatMap (bc e)))(p:∀c∈a.flatMap (bc e),ok c):
  ∃b,a[cS lt h4 (a.map (cP e))]?=β b/\(∀c∈(a.take (cS lt h4 (a.map (cP e)))).flatMap (bc e),lt c h4=η)/\(∀c∈(a.drop (cS lt h4 (a.map (cP e))+1)).flatMap (bc e),lt h4 c=η):=by
 have D:a.map (cP e)=(a.map (bc e)).map (·.headD []):=by rw[a9s];rfl
 rw[aan]at o p;obtain⟨r,d,h⟩:=EB y z (a.map (bc e)) (by simpa using C) (λF E=>by
  obtain⟨b,x,rfl⟩:=a7G.1 E;exact yo (k b x).1 (k b x).2) o p
 rw[<-D]at r d h;rw[<-aaF,<-aan]at d;rw[<-aa8,<-aan]at h;exact⟨_,Ρ (by simpa using r),d,h⟩
theorem rm(C:Ord lt ok)(P:ok h4):∀(a:Nat)(b:T a),jX a b->hj lt (bc a b)->(∀d∈bc a b,ok d)->h4∉bc a b->
  (eY lt h4 a b).flatMap (bc a)=dX lt (bc a b) h4/\(∀c∈eY lt h4 a b,WF a c)/\1<=(eY lt h4 a b).length/\(eY lt h4 a b).length<=2:=by
 intro a
 induction a with
 |zero=>intro b D p o x;obtain⟨e,rfl⟩:=ir b;obtain⟨y,E,_,_⟩:=D;rw[hM]at y E;obtain⟨F,G,c,_⟩:=Ez (j0:=dX lt e h4) (by rw[oL];omega) (by rw[oL];omega);exact⟨Ex _,F,by simpa[eY,ri] using G,by simpa[eY,ri] using c⟩
 |succ a ih=>
  intro b D p o x;obtain⟨h,rfl⟩:=gA b;obtain⟨y,E,f,L⟩:=D;rw[dN]at y E L;have L:=L δ;rw[fU]at p o x|-;have g:∀c∈h,WF a c:=f;obtain⟨c,r,S,V⟩:=vs C P (by intro i;subst i;simp at y) (λc r=>by grind[hi]) p o;simp only[eY,fs];generalize cS lt h4 (h.map (cP a))=z at r S V;rw[r];have s:=rl r;have j:h.flatMap (bc a)=(h.take z).flatMap (bc a)++(bc a c++(h.drop (z+1)).flatMap (bc a)):=by grind
  rw[j]at p o x|-;have l:=(a8v.1 (a8v.1 p).2.1).1;obtain⟨m,t,u,v⟩:=ih c (jX.of (g c (a7r r))) l (λd k=>o d (by simp[k])) (λk=>x (by simp[k]));have W:(h.take z++eY lt h4 a c++h.drop (z+1)).length=α h - 1+(eY lt h4 a c).length:=by grind
  obtain⟨F,G,n,_⟩:=EA (by rw[W];omega) (by rw[W];omega) (λd k=>by
   grind)
  refine⟨?_,F,by simpa using G,by simpa using n⟩;simp only[];rw[Ey,a8f,a8f,m,yp S,a0q,a7B];intro d k;cases q:lt d h4 with
  |false=>rfl
  |true=>have:=C.trans d h4 d (o d (by simp[k])) P (o d (by simp[k])) q (V d k);rw[C.jY]at this;cases this
theorem Fi{a b:T e}(k:lE e a)(o:lE e b)(d:2<=len a+len b)(h:len a+len b<=5):
  (kK a b).flatMap (bc e)=bc e a++bc e b/\(∀c∈kK a b,WF e c)/\1<=(kK a b).length/\(kK a b).length<=2:=by
 cases e with
 |zero=>obtain⟨a,rfl⟩:=ir a;obtain⟨b,rfl⟩:=ir b;grind[hM,Ez,kK,ri,jt,Ex]
 |succ e=>obtain⟨a,rfl⟩:=gA a;obtain⟨b,rfl⟩:=gA b;rw[dN,dN]at d h;obtain⟨r,x,y,_⟩:=EA (a:=a++b) (by simpa using d) (by simpa using h) (λc p=>(a7z.1 p).elim (k c) (o c));grind[kK,fs,fU,Ey]
variable{j0:List Row}
theorem filter_none(b:h4∉j0):j0.filter (λa=>decide (a≠h4))=j0:=by rw[aaA];grind
theorem a1f(b:hj lt j0)(d:∀h4,lt h4 h4=ι):α j0 - 1<=(j0.filter λc=>decide (c≠h4)).length:=by
 induction j0 with
 |nil=>simp
 |cons a j0 ih=>
  have h:=a7X.1 b;by_cases bZ:a=h4
  .subst bZ;have:a∉j0:=λk=>by grind
   rw[ab0 ς,filter_none this];simp
  simp_all
theorem q2(E:Ord lt ok)(v:ok h4):∀(a:Nat)(d:T a),jX a d->hj lt (bc a d)->(∀h∈bc a d,ok h)->
  bc a (cK lt h4 a d)=(bc a d).filter (λh=>decide (h≠h4))/\lE a (cK lt h4 a d)/\len d - 1<=len (cK lt h4 a d)/\len (cK lt h4 a d)<=4:=by
 intro a
 induction a with
 |zero=>intro d P o r;obtain⟨Q,rfl⟩:=ir d;obtain⟨F,G,_,_⟩:=P;rw[hM]at F G;simp only[cK,ri,jt,hM]at o|-;exact⟨trivial,trivial,a1f o E.jY,by grind⟩
 |succ a ih=>
  intro d P o r;obtain⟨b,rfl⟩:=gA d;obtain⟨F,G,w,S⟩:=P;rw[dN]at F G S;have S:=S δ;rw[fU]at o r|-;have V:∀p∈b,WF a p:=w;obtain⟨p,x,i,j⟩:=vs E v (by intro y;subst y;simp at F) (λp x=>by grind[hi]) o r;simp only[cK,fs,dN];generalize cS lt h4 (b.map (cP a))=c at x i j;rw[x];simp only[dN,fU];have X:=rl x;obtain⟨A,_⟩:=a7u.1 x;have B:b.flatMap (bc a)=(b.take c).flatMap (bc a)++(bc a p++(b.drop (c+1)).flatMap (bc a)):=by grind
  have Y:=o;have Z:=r;rw[B]at o r;have l:=V p (a7r x);have j9:=hi.1 l;obtain⟨H,L,I,m⟩:=ih p (jX.of l) (a8v.1 (a8v.1 o).2.1).1 (λh z=>r h (by simp[z]));generalize cK lt h4 a p=h at H L I m;have k0:=filter_none λz=>by
   have:=i h4 z;rw[E.jY]at this;cases this
  have k1:=filter_none λz=>by
   have:=j h4 z;rw[E.jY]at this;cases this
  have n:(b.flatMap (bc a)).filter (λh=>decide (h≠h4))=(b.take c).flatMap (bc a)++(bc a h++(b.drop (c+1)).flatMap (bc a)):=by grind
  rw[n];unfold lF;by_cases W:2<=len h
  .rw[if_pos W];have y:b.set c h=b.take c++h::b.drop (c+1):=by rw[a8F,if_pos A]
   refine⟨by grind,λq C=>?_,ς,by simpa using G⟩;rw[fs,y]at C;simp only[a7z,a7J]at C;rcases C with C|rfl|C;grind
   .exact hi.2 ⟨W,m,L⟩
   grind
  .rw[if_neg W];have k2:len h=1:=δ;by_cases e:c=0
   .subst e;have k:b[1]?=β b[1]:=Ρ δ;simp only[if_true];rw[k];simp only[Nat.zero_sub,a9m,a7H,a7Q,aa4]at n|-;generalize b[1]=D at k;have f:=V D (a7r k);have g:=hi.1 f;obtain⟨s,K,q,y⟩:=Fi L g.2.2 δ δ;have t:b.drop 1=D::b.drop 2:=by obtain⟨M,rfl⟩:=a7u.1 k;simp
    refine⟨by grind,λN u=>?_,Μ,Μ⟩;grind[fs,List.mem_of_mem_drop]
   .rw[if_neg e];have k:b[c - 1]?=β b[c - 1]:=Ρ δ;rw[k];simp only[if_neg e];generalize b[c - 1]=D at k;have f:=V D (a7r k);have g:=hi.1 f;obtain⟨s,K,q,y⟩:=Fi g.2.2 L δ δ;have t:b.take c=b.take (c - 1)++[D]:=by
     obtain⟨M,rfl⟩:=a7u.1 k
     conv=>lhs;rw[show c=c - 1+1 by omega]
     simp
    have O:c - 1+2=c+1:=δ;rw[O];refine⟨by rw[a8f,a8f,s,t,a8f];simp,λN u=>?_,Μ,Μ⟩;simp only[fs,a7z]at u;grind
end Go.a1
namespace Go.Proofs.YtcfpcblgmmeioaaGreat
open Go Go.bD
abbrev dG:=Option ((a:Nat)×a1.T a)
def fI(c:U)(a:dG)(b:R):Prop:=
 match a with
 |none=>b=.v (.pointer ζ)
 |some ⟨d,a⟩=>bA c d a b
def fI.gl{b c:U}(k:iL b c){a:dG}{d:R}(h:fI b a d):fI c a d:=by
 match a with
 |none=>exact h
 |some ⟨_,_⟩=>exact bA.gl k h
variable{e i v M b9 j1:Nat}
def q3:List (a1.T e)->dG
 |[]=>ζ
 |[a]=>β ⟨e,a⟩
 |b=>β ⟨e+1,a1.node b⟩
variable{n b5:R}{f s e0:U}
def bA.fit{a:a1.T e}(b:bA f e a n):n.cells=[n]:=by obtain⟨_,_,_,rfl,_⟩:=b.ptr;rfl
variable{b0:Type}
def a1g{a:List b0}(b:α a=1):∃c,a=[c]:=a9q.1 b
theorem a1h(c:List (a1.T e))(x:ύ)(E:Own)(p:U)(F:aB (bA p e) c x)(G:α c<=4):
  AC γ 121 [.J x E] p λL h=>p.sub h/\fI h (q3 c) L:=by
 refine aK hm OP ?_;refine cc [] (λd:ύ×Own=>[(0,.J d.1 d.2)]) (λd h=>p.sub h/\(aB (bA h e) c d.1\/2<=α c/\∃a,d.1=[a]/\bA h (e+1) (a1.node c) a)) (λd=>α d.1) (x,E) ⟨⟨θ,.inl F⟩,aO⟩ ?_;rintro⟨r,P⟩ y ⟨z,b⟩ g
 dsimp only at b|-
 refine aa ?_;refine aF (λk=>?_) λk=>?_
 .rcases b with b|⟨_,a,rfl,_⟩
  .have i:=b.len;refine cl (yH y c r P y b δ θ) ?_;rintro _ j⟨S,l,T,rfl,C⟩;rw[a1.oK δ G]at C;obtain⟨a,rfl⟩:=a1g C.len;refine aa ?_;exact⟨([a],T),⟨π z S,.inr ⟨δ,a,rfl,C.1⟩⟩,rfl,Μ⟩
  .simp at k
 .have V:(r=[]/\c=[])\/∃a,r=[a]/\fI y (q3 c) a:=by
   rcases b with b|⟨W,a,rfl,b⟩
   .match c,r,b,k with
    |[],[],_,_=>simp
    |[m],[a],b,_=>exact .inr ⟨a,rfl,b.1⟩
    |_:: _:: _,_:: _:: _,_,k=>simp at k;omega
   .match c,W with
    |_:: _:: _,_=>exact .inr ⟨a,rfl,b⟩
  clear b;rcases V with⟨rfl,rfl⟩|⟨a,rfl,o⟩
  .refine aa ?_;exact⟨_,θ,z,rfl⟩
  .have f:(∃D,a=.ptr D 0)\/a=.v (.pointer ζ):=by
    unfold fI at o;split at o
    .exact .inr o
    .obtain⟨D,_,_,n,_⟩:=o.ptr;simp_all
   rcases f with⟨D,rfl⟩|rfl
   all_goals refine aa ?_;exact⟨_,θ,z,o⟩
theorem yI:∀(b:Nat)(d:a1.T b)(T:R)(p:U),bA p b d T->(a1.bc b d).length<=100000->
  AC γ 115 [T] p λW F=>p.sub F/\∃h G,W=.J h G/\aB isRow (a1.bc b d) h:=by
 intro b
 induction b with
 |zero=>rintro d _ p⟨e,h,G,f,rfl,k,o⟩L;have P:=κ k;have g:=o.len;have w:(a1.rows d).length<=100000:=L;refine aK hm xk ?_;refine sF (iW o) λC i D=>?_;have P:=rd D.sub k;refine gv [0] (λc:Nat=>[(3,.J h C),(4,.v (.int .i64 (c)))]) (λc=>c=0) (λ_=>0) 0 rfl aO ?_;rintro _ rfl j;refine aa ?_;exact⟨D.sub,h,C,rfl,o⟩
 |succ b ih=>
  rintro d _ p⟨e,A,G,f,rfl,k,o,B,l⟩L;obtain⟨r,rfl⟩:=a1.gA d;rw[a1.fs]at o l;rw[a1.fU]at L|-;have P:=κ k;have g:=o.len;refine aK hm xk ?_;refine sF Dm λC i D=>?_;refine cc [0] (λa:Nat×ύ×Own=>[(3,.J a.2.1 a.2.2),(4,.v (.int .i64 (a.1)))]) (λa F=>a.1<=α r/\aB isRow ((r.take a.1).flatMap (a1.bc b)) a.2.1/\bj p F 1 a.2.1 a.2.2) (λa=>α r - a.1) (0,[],C) ⟨⟨ς,trivial,D⟩,aO⟩ ?_;rintro⟨c,h,m⟩ n ⟨y,x,z⟩ j
  dsimp only at y x z|-
  have P:=rd z.sub k;refine aa ?_;refine aF (λE=>?_) λE=>?_
  .have y:c<α r:=δ;obtain⟨H,aK,V⟩:=o.get (Ρ y);have q:=a1.rl (Ρ y);have s:=a8y y;have t:=bA.mono z.sub V;obtain⟨I,_,_,rfl,_⟩:=V.ptr;generalize r[c]=E at*;have K:((r.take c).flatMap (a1.bc b)).length+(a1.bc b E).length<=100000:=by grind
   clear q;have M:=x.len;refine cl (ih E _ n t δ) ?_;rintro _ N⟨u,O,Q,rfl,S⟩;have X:=S.len;refine kE (z.mono u) (iW x) (iW S) λv Y k _=>?_;refine⟨(c+1,_,v),⟨by simp only;omega,?_,k⟩,⟨rfl,rfl⟩,by simp only;omega⟩;simp only[s,a8f,a7P,aa4,a8t];exact x.append S
  .rw[Φ δ]at x;exact⟨z.sub,h,m,rfl,x⟩
def a1i(a:U):AC γ 115 [.v (.pointer ζ)] a λb c=>c=a/\b=.J [] .nil:=by refine aK hm xk ?_;trivial
def a1j(a:Nat)(b:a1.T a)(d:R)(c:U)(r:bA c a b d)(x:(a1.bc a b).length<=100000)(y:a1.bc a b≠[]):
  AC γ 237 [d] c λh z=>c.sub z/\∃k,h=.J (ad (a1.cP a b)) k:=by
 refine aK hm S3 ?_;refine cl (yI a b d c r x) ?_;rintro _ C⟨D,E,k,rfl,o⟩;unfold a1.cP;cases p:a1.bc a b with
 |nil=>exact absurd p y
 |cons F h=>rw[p]at o;obtain⟨G,aK,L,rfl⟩:=o.get (i:=0) rfl;refine aa ?_;simp
theorem yJ(b:List Ω)(k:ύ)(x o:Own)(c:Ω)(d:U)(p:aB isRow b k)(E:α b<=100000)(F:∀h∈b,α h<=1000):
  AC γ 114 [.J k x,.J (ad c) o] d λh y=>y=d/\h=.v (.bool (decide (c∈b))):=by
 have G:=p.len;refine aK hm OD ?_;refine gv [0,1] (λa:Nat=>[(5,.v (.int .i64 (a)))]) (λa=>a<=α b/\∀r<a,b.getD r []≠c) (λa=>α b - a) 0 ⟨δ,λr L=>by omega⟩ aO ?_;rintro a⟨P,z⟩S;refine aa ?_;refine aF (λC=>?_) λC=>?_
 .obtain⟨_,T,D,rfl⟩:=p.at [] (e:=a) δ;refine ns (tk (b.getD a []) c D o d (by grind)) ?_;refine aF (λc2=>?_) λc2=>?_
  .exact aV (by grind)
  .exact⟨a+1,⟨δ,upto z c2⟩,rfl,δ⟩
 grind[aV,List.getElem_of_mem,List.getD]
def gY(a:Ω->Ω->Bool)(b:Ω):Nat->Nat->List Ω->Nat
 |_,at_,[]=>at_
 |c,at_,d::bF=>gY a b (c+1) (if a b d=η then at_ else c) bF
def Fj{d:Ω->Ω->Bool}{h:Ω}:∀(b:List Ω)(k c:Nat),(∀a∈b,d h a=η)->gY d h k c b=c
 |[],_,_,_=>rfl
 |a::b,k,c,o=>by
  rw[gY,if_pos (o a ς)];exact Fj b _ _ λa p=>o a (by simp[p])
theorem Fk{a:Ω->Ω->Bool}{b:Ω}:∀(c:List Ω)(k:Ω)(d:Nat),c.Pairwise (λo p=>a b o=η->a b p=η)->gY a b (d+1) d c=d+a1.cS a b (k::c)
 |[],k,d,_=>rfl
 |h::c,k,d,r=>by
  have x:=a7X.1 r;rw[gY];have y:a1.cS a b (k::h::c)=if a b h=η then 0 else a1.cS a b (h::c)+1:=rfl;rw[y];by_cases hk:a b h=η;simp_all [Fj]
  .rw[if_neg hk,if_neg hk,Fk c h (d+1) x.2];omega
variable{O:List Ω}{q b7:Ω}
theorem a1k{a:Ω->Ω->Bool}(d:O.Pairwise (λb c=>a q b=η->a q c=η)):gY a q 0 0 O=a1.cS a q O:=by
 cases O with
 |nil=>rfl
 |cons h O=>grind[gY,Fk,List.pairwise_cons]
def Fl{k o:Ω->Ω->Bool}{c:Ω}:∀(b:List Ω)(d h:Nat),(∀a∈b,k c a=o c a)->gY k c d h b=gY o c d h b
 |[],_,_,_=>rfl
 |a::b,d,h,p=>by
  rw[gY,gY,p a ς];exact Fl b _ _ λa r=>p a (by simp[r])
def Fm{d:Ω->Ω->Bool}{h k:Ω}:∀(a:List Ω)(b c:Nat),gY d h b c (a++[k])=if d h k=η then gY d h b c a else b+α a
 |[],b,c=>by rfl
 |o::a,b,c=>by
  rw[a8A,gY,Fm a,gY,a7s];split<;>omega
theorem Fo(b:List (a1.T e))(y:R)(c:Ω)(z:Own)(h:U)(E:bA h (e+1) (a1.node b) y)(F:α c<=1000)(G:∀d∈b,(a1.bc e d).length<=100000/\a1.bc e d≠[]/\(a1.cP e d).length<=1000):
  AC γ 175 [y,.J (ad c) z] h λL o=>h.sub o/\L=.v (.int .i64 (gY kO c 0 0 (b.map (a1.cP e)):Int)):=by
 obtain⟨j,l,m,n,rfl,P,p,_,S⟩:=E;rw[a1.fs]at p S;have q:=p.len;have s:gY kO c 0 0 []=0:=rfl;refine aK hm Ql ?_;refine cc [0,1] (λa:Nat=>[(5,.v (.int .i64 (gY kO c 0 0 ((b.map (a1.cP e)).take a)))),(6,.v (.int .i64 (a)))]) (λa o=>a<=α b/\h.sub o) (λa=>α b - a) 0 ⟨⟨δ,θ⟩,aO⟩ ?_;rintro a T⟨k,r⟩t;have u:=rd r P;refine aa ?_;refine aF (λd=>?_) λd=>?_
 .have k:a<α b:=δ;have V:=Fm (d:=kO) (h:=c) (k:=a1.cP e b[a]) ((b.map (a1.cP e)).take a) 0 0;rw[a7q,a7w,a8Y δ,show(b.map (a1.cP e)).take a++[a1.cP e b[a]]=(b.map (a1.cP e)).take (a+1) by simp[a8y,k]]at V;have x:=G _ (a7O k);obtain⟨v,aK,C⟩:=p.get (Ρ k);obtain⟨w,_,_,rfl,_⟩:=C.ptr;generalize b[a]=D at*;refine cl (a1j e D _ T (bA.mono r C) x.1 x.2.1) ?_;rintro _ W⟨f,g,rfl⟩;refine cl (F3 c (a1.cP e D) z g W F x.2.2) ?_;rintro _ A⟨i,rfl⟩;have B:=π r (π f i);refine aa ?_;refine aF (λc2=>?_) λc2=>?_;grind;grind
 .rw[Φ (by rw[a7w];omega)]
theorem a1l{b c:Ω->Ω->Bool}(d:∀a∈O,b a q=c a q):a1.dX b O q=a1.dX c O q:=by
 unfold a1.dX;have r:∀O:List Ω,(∀a∈O,b a q=c a q)->O.takeWhile (λa=>b a q)=O.takeWhile (λa=>c a q)/\O.dropWhile (λa=>b a q)=O.dropWhile (λa=>c a q):=by
  intro O
  induction O with
  |nil=>intro _;trivial
  |cons h O ih=>intro d;obtain⟨k,o⟩:=ih λa p=>d a (by simp[p]);simp only[a8I,a9R,d h ς];rw[k,o];trivial
 simp_all
structure GT(d h:Nat)(t:a1.T h):Prop where
 wf:a1.jX h t
 ec:a1.hj bC (a1.bc h t)
 ok:∀x∈a1.bc h t,bQ d x
 dP:(a1.bc h t).length<=1000
def yK{a:a1.T e}(b:a1.bc e a≠[]):a1.cP e a∈a1.bc e a:=by
 unfold a1.cP;cases c:a1.bc e a with
 |nil=>trivial
 |cons d h=>simp
structure a1m(d:Nat){h:Nat}(bF:List (a1.T h))(p:Ω):Prop where
 ne:bF≠[]
 two:2<=α bF/\α bF<=4
 gC:∀c∈bF,GT d h c/\a1.WF h c/\a1.bc h c≠[]/\bQ d (a1.cP h c)
 Fp:gY kO p 0 0 (bF.map (a1.cP h))=a1.cS bC p (bF.map (a1.cP h))
 at_:∃c,bF[a1.cS bC p (bF.map (a1.cP h))]?=β c
theorem GT.kids(x:1<=e)(y:e<=8){d:List (a1.T i)}(p:GT e (i+1) (a1.node d))(z:bQ e q):a1m e d q:=by
 obtain⟨D,E,T,r⟩:=p.wf;rw[a1.dN]at D E r;have r:=r δ;have V:∀a∈d,a1.WF i a:=T;have h:=p.ec;have k:=p.ok;have F:=p.dP;rw[a1.fU]at h k F;have o:d≠[]:=by intro W;subst W;simp at D
 have c:∀a∈d,GT e i a/\a1.WF i a/\a1.bc i a≠[]/\bQ e (a1.cP i a):=by intro a b;have C:=V a b;have f:=a1.hi.1 C;have o:=a1.yo δ f.2.2;obtain⟨v,w,g⟩:=a9b b;rw[g,a8f,a7P]at h k F;have j:=(a8v.1 (a8v.1 h).2.1).1;refine⟨⟨a1.jX.of C,j,λl m=>k l (by simp[m]),by grind⟩,C,o,k _ (by simp[yK o])⟩
 refine⟨o,⟨r,E⟩,c,?_,?_⟩
 .rw[Fl _ _ _ λA n=>by
   obtain⟨a,b,rfl⟩:=a7G.1 n;exact F7 x y z (c a b).2.2.2]
  refine a1k ?_;rw[a9N];have s:=(List.pairwise_flatMap.1 h).2;refine aaW (λ{G L} P S t=>?_) s;intro u;exact(gi x y).trans q _ _ z (c G P).2.2.2 (c L S).2.2.2 u (t _ (yK (c G P).2.2.1) _ (yK (c L S).2.2.1))
 .obtain⟨a,b,_⟩:=a1.vs (gi x y) z o (λa b=>by grind[a1.hi]) h k;exact⟨a,b⟩
theorem a1n(P:1<=e)(S:e<=8)(b:Ω)(T:Own)(D:bQ e b):∀(a:Nat)(d:a1.T a)(E:R)(k:U),bA k a d E->GT e a d->b∉a1.bc a d->
  AC γ 122 [E,.J (ad b) T] k λV i=>k.sub i/\∃x F,V=.J x F/\aB (bA i a) (a1.eY bC b a d) x:=by
 have l6:=D.len;intro a
 induction a with
 |zero=>rintro d _ k⟨j,M,F,N,rfl,y,c⟩G l;obtain⟨O,rfl⟩:=a1.ir d;rw[a1.ri]at c;obtain⟨_,Q,_,_⟩:=G.wf;have W:=G.ok;rw[a1.hM]at Q;rw[a1.jt]at W;have m:=κ y;refine aK hm Cj ?_;refine cl (a1d O M F T b k c δ (λV X=>by have:=(W V X).len;omega) δ) ?_;rintro _ n⟨z,Y,Z,rfl,q⟩;rw[a1l (c:=bC) λj9 s=>F7 P S (W j9 s) D]at q;refine cl (Fh _ Y Z n q (by rw[a1.oL];omega)) ?_;rintro _ l7⟨k0,x,k1,rfl,L⟩;refine aa ?_;exact⟨_,θ,π z k0,x,k1,rfl,L⟩
 |succ a ih=>
  intro d E k L G l;obtain⟨h,rfl⟩:=a1.gA d;have C:=G.kids P S D;have t:=Fo h E b T k L δ λo p=>by
   obtain⟨r,_,l8,k2⟩:=C.gC o p;have:=r.dP;have:=k2.len;grind
  obtain⟨j,l9,F,N,rfl,y,c,_,_⟩:=L;rw[a1.fs]at c;have n0:=c.len;obtain⟨n1,n2⟩:=C.two;have n3:¬(α h:Int)=0:=δ;have m:=κ y;obtain⟨o,p⟩:=C.at_;have u:a1.eY bC b (a+1) (a1.node h)=(a1.chunks (h.take (a1.cS bC b (h.map (a1.cP a)))++a1.eY bC b a o++h.drop (a1.cS bC b (h.map (a1.cP a))+1))).map a1.node:=by simp only[a1.eY,a1.fs];rw[p]
  rw[u];rw[C.Fp]at t;clear u;generalize a1.cS bC b (h.map (a1.cP a))=v at*;have n4:=(a7u.1 p).1;obtain⟨r,_,_,_⟩:=C.gC o (a7r p);have w:b∉a1.bc a o:=λs=>l (by rw[a1.fU];grind);obtain⟨_,_,n5,n9⟩:=a1.rm (gi P S) D a o r.wf r.ec r.ok w;have a00:=bA.c c;obtain⟨_,a01,A⟩:=c.get p;obtain⟨a02,_,_,rfl,_⟩:=A.ptr;refine aK hm Cj ?_;refine cl t ?_;rintro _ n⟨z,rfl⟩;have m:=rd z y;have f:=c.take v;refine sF (bA.c f) λa03 k3 B=>?_;have a04:=rd (π z B.sub) y;refine cl (ih o _ k3 (A.gl fL) r w) ?_;rintro _ a05⟨k4,x,a06,rfl,g⟩;have a07:=g.len;refine kE (B.mono k4) (bA.c f) (bA.c g) (λa08 k5 k6 k7=>?_);have a09:k5.read j= _:=κ dy;have H:=(f.mono λ_ _ a=>bA.gl (fL) a).append (g.mono λ_ _=>bA.gl k7);have I:=c.drop (v+1);refine kE k6 (bA.c H) (bA.c I) (λk8 K k9 l0=>?_);have l1:=(H.mono λ_ _=>bA.gl l0).append (I.mono λ_ _ a=>bA.gl (fL) a);refine cl (yH K _ _ k8 K l1 (by grind) θ) ?_;rintro _ a10⟨l2,l3,l4,rfl,l5⟩;refine aa ?_;exact⟨_,θ,π z (π k9.sub l2),l3,l4,rfl,l5⟩
def eh:dG->List Ω
 |none=>[]
 |some ⟨a,b⟩=>a1.bc a b
def hq(a:Nat):dG->Prop
 |none=>True
 |some ⟨b,c⟩=>GT a b c
def kQ(a:dG)(b:Ω):dG:=
 match a with
 |none=>β ⟨0,a1.leaf [b]⟩
 |some ⟨c,a⟩=>if b∈a1.bc c a then β ⟨c,a⟩else q3 (a1.eY bC b c a)
def a1o(z:1<=e)(C:e<=8)(c:Ω)(k:Own)(D:bQ e c)(a:dG)(E:R)(o:U)(d:fI o a E)(S:hq e a):
  AC γ 66 [E,.J (ad c) k] o λp F=>o.sub F/\∃G r,p=.aJ [G,.v (.bool r)]/\fI F (kQ a c) G:=by
 match a with
 |none=>obtain rfl:=d;refine aK hm Cd ?_;refine dJ θ (by simp[aY,σ]) λT v V=>?_;refine aa ?_;refine bs λL W=>?_;exact⟨_,θ,π V.sub (μ θ W),_,_,rfl,L,_,T,.nil,rfl,ξ _ _ _,⟨k,rfl⟩,trivial⟩
 |some ⟨x,a⟩=>
  obtain⟨r,L,w,rfl,A⟩:=bA.ptr d;have b:GT e x a:=S;have B:=b.dP;refine aK hm Cd ?_;refine cl (yI x a (.ptr r 0) o d δ) ?_;rintro _ P⟨y,f,g,rfl,i⟩;refine ns (yJ _ f g k c P i δ λp j=>by have:=(b.ok p j).len;omega) ?_;refine aF (λh=>?_) λh=>?_
  .refine⟨_,θ,y,_,_,rfl,?_⟩;simp only[kQ,if_pos h];exact bA.mono y d
  .refine cl (a1n z C c k D x a (.ptr r 0) P (bA.mono y d) b h) ?_;rintro _ l⟨m,n,q,rfl,s⟩;obtain⟨_,_,H,I⟩:=a1.rm (gi z C) D x a b.wf b.ec b.ok h;refine cl (a1h _ n q l s δ) ?_;rintro p K⟨t,u⟩;refine aa ?_;refine⟨_,θ,π y (π m t),_,_,rfl,?_⟩;simp only[kQ,if_neg h];exact u
structure hr(d:Nat)(b:Ω×Ω):Prop where
 ok:cQ b.1 b.2 d=η
 aT:dk b.1
 aS:dk b.2
theorem lI:cQ q b7 e=η↔1<=e/\e<=8/\α q=e/\α b7=e/\∀a,a<e->q.getD a 0<=b7.getD a 0:=by unfold cQ;grind
theorem Fq{b:Int->Int->Int}(h:∀a c,b a c=a\/b a c=c)(k:dk q)(o:dk b7):dk (ψ b q b7):=by intro a d;obtain⟨p,r,rfl⟩:=a8a d;grind[List.length_zipWith,List.getElem_mem]
theorem Fs{a:Int->Int->Int}(b:e<α q)(c:e<α b7):(ψ a q b7).getD e 0=a (q.getD e 0) (b7.getD e 0):=by grind
theorem yL{d h:Ω×Ω}(a:hr e d)(b:hr e h):hr e (cR d h):=by
 have c:=lI.1 a.ok;have k:=lI.1 b.ok;unfold cR;rw[c.2.2.1,k.2.2.1,if_pos a.ok,if_pos b.ok,if_pos rfl];refine⟨lI.2 ⟨c.1,c.2.1,by simp_all,by simp_all,λr x=>?_⟩,?_,?_⟩;grind
 .exact Fq (λo p=>by omega) a.aT b.aT
 .exact Fq (λo p=>by omega) a.aS b.aS
theorem q4{a:Ω×Ω}(b:hr e a):cR ([],[]) a=a:=by have c:=lI.1 b.ok;unfold cR;have:cQ ([]) [] ([]:Ω).length=false:=rfl;rw[if_neg (by rw[this];simp),c.2.2.1,if_pos b.ok]
def yM(c:1<=e)(d:e<=8)(a:bQ e q):hr e (gy q):=by have b:=a.len;unfold gy;rw[if_pos δ];exact⟨lI.2 ⟨c,d,b,b,λ_ _=>ab6 _⟩,a.kP,a.kP⟩
structure mF(d:Nat)(n:Nat)(y:gS):Prop where
 live:y.live=n
 aR:(n=0/\y.aR=([],[]))\/(0<n/\hr d y.aR)
theorem Ft{h:Nat}(o:1<=h)(p:h<=8):∀(b:List Ω)(c:Nat)(a:gS),(∀d∈b,bQ h d)->mF h c a->mF h (c+α b) ((b.map λd=>(d,η)).foldl dW a)
 |[],c,a,_,k=>by trivial
 |d::b,c,a,r,k=>by
  rw[a7C,a7S,a7s,show c+(α b+1)=(c+1)+α b by omega];refine Ft o p b (c+1) _ (λy z=>r y (by simp[z])) ?_;have C:=yM o p (r d ς);rw[dW,if_pos rfl];refine⟨by rw[show(({a with live:=a.live+1,aR:=cR a.aR (gy d)}:gS)).live=a.live+1 from rfl,k.live];omega,.inr ⟨δ,?_⟩⟩;rcases k.aR with⟨_,x⟩|⟨_,x⟩;grind[cR,gy,q4]
  .exact yL x C
structure iY(d n:Nat)(k:ao):Prop where
 sum:α k.sum=32
 live:k.live=n
 size:k.size=n
 pos:1<=n
 aR:hr d (k.aT,k.aS)
 key:bQ d k.key
def Fu{k:Nat}:∀(a:List (ao×Nat))(b:Nat)(d:gS),(∀c∈a,iY k c.2 c.1)->mF k b d->mF k (b+(a.map Prod.snd).sum) ((a.map Γ).foldl eD d)
 |[],b,d,_,o=>by trivial
 |(c,h)::a,b,d,y,o=>by
  have p:=y (c,h) ς;simp only[a7C,a7S,a8E];rw[show b+(h+(a.map Prod.snd).sum)=(b+h)+(a.map Prod.snd).sum by omega];refine Fu a (b+h) _ (λz C=>y z (by simp[C])) ?_;have r:=p.aR;have D:=p.pos;refine⟨?_,.inr ⟨by have:1<=h:=D;omega,?_⟩⟩
  .show d.live+c.live= _;rw[o.live,p.live];push_cast;rfl
  .show hr k (cR d.aR (c.aT,c.aS));rcases o.aR with⟨_,x⟩|⟨_,x⟩
   .rw[x,q4 r];exact r
   .exact yL x r
def bL:(a:Nat)->a1.T a->ao
 |0,b=>fr (cZ (a1.rows b))
 |a+1,b=>fr (ew ((a1.kids b).map (bL a)))
def dH:(a:Nat)->a1.T a->bY
 |0,b=>cZ (a1.rows b)
 |a+1,b=>ew ((a1.kids b).map (bL a))
def tm:∀ {a:Nat}{b:a1.T a},bL a b=fr (dH a b)
 |0,_=>rfl
 |_+1,_=>rfl
def a1p:dH 0 (a1.leaf O)=cZ O:=rfl
def yN{a:List (a1.T e)}:dH (e+1) (a1.node a)=ew (a.map (bL e)):=rfl
structure ds(d h:Nat)(t:a1.T h):Prop where
 wf:a1.jX h t
 ok:∀x∈a1.bc h t,bQ d x
 dP:(a1.bc h t).length<=1048576
def GT.fX{b:a1.T e}(a:GT i e b):ds i e b:=⟨a.wf,a.ok,by have:=a.dP;omega⟩
theorem ds.gC{d:List (a1.T e)}(b:ds i (e+1) (a1.node d)):∀a∈d,ds i e a/\a1.WF e a:=by obtain⟨z,C,p,D⟩:=b.wf;have c:=b.ok;have h:=b.dP;rw[a1.fU]at c h;intro a k;have o:=p a k;obtain⟨E,F,r⟩:=a9b k;rw[r,a8f,a7P]at c h;exact⟨⟨a1.jX.of o,λx y=>c x (by simp[y]),by grind⟩,o⟩
def ds.ne{a:a1.T e}(b:ds i e a):a1.bc e a≠[]:=a1.yo b.wf.1 b.wf.2.2.1
structure yO(d n:Nat)(x:bY):Prop where
 tn:x.In d
 kR:iY d n (fr x)
 oQ:fP d x=β (fr x)
variable{A j2:ao}
def iY.ne(a:iY e i A):A≠az:=by rintro rfl;have:=a.size;have:=a.pos;simp[az]at*;omega
theorem iY.ok{b c:Nat}{d:ao}(a:iY b c d)(h:c<=1048576):fq b d=true:=by have k:=a.size;have o:=a.live;have p:=a.pos;unfold fq;rw[decide_eq_false a.ne,abp,Υ];refine⟨Μ,?_⟩;rw[if_neg δ];exact a.aR.ok
def iY.kR(a:iY e i A)(c:i<=1048576):A.In e:=by have d:=a.size;have h:=a.live;have k:=a.pos;have b:=lI.1 a.aR.ok;have o:α A.aT=e:=b.2.2.1;have p:α A.aS=e:=b.2.2.2.1;have r:=a.key.len;exact⟨a.sum,a.aR.aT,a.aR.aS,a.key.kP,δ,δ,δ,δ,δ,δ,δ⟩
theorem vt(o:1<=e)(p:e<=8)(c:1<=α O)(r:α O<=4)(b:∀a∈O,bQ e a):yO e (α O) (cZ O):=by
 have x:dV e (cZ O)=true:=by unfold dV cZ;simp only[abz,a7w,List.all_nil,abo,a7x,decide_true,Υ,a7E,decide_eq_true_eq,Function.comp];refine⟨λa d=>(b a d).len,?_⟩;simp[c,r]
 have h:=Ft o p O 0 ⟨0,(cZ O).rows.length,([],[])⟩ b ⟨rfl,.inl ⟨rfl,rfl⟩⟩;have y:eJ (cZ O)=(O.map λa=>(a,η)).foldl dW ⟨0,(cZ O).rows.length,([],[])⟩:=rfl;rw[<-y,a7Q]at h;have z:(eJ (cZ O)).size=α O:=by rw[yA];simp[cZ]
 have C:hr e (eJ (cZ O)).aR:=by
  rcases h.aR with⟨k,_⟩|⟨_,k⟩
  .omega
  .exact k
 refine⟨⟨x,λa d=>?_,λF G=>by trivial⟩,⟨oF _,h.live,z,c,C,?_⟩,?_⟩
 .obtain⟨D,E,rfl⟩:=a7G.1 d;exact(b D E).kP
 .show bQ e (keyOf (cZ O))
  match O,c with
  |a::O,_=>exact b a ς
 .unfold fP;grind
def a1q:(fr (cZ O)).key=O.headD []:=by show keyOf (cZ O)= _;cases O<;>rfl
theorem a1r{a:List (ao×Nat)}(o:2<=α a)(z:α a<=4)(c:∀b∈a,iY e b.2 b.1)(p:(a.map Prod.snd).sum=i)(L:i<=1048576):yO e i (ew (a.map Γ)):=by
 have r:∀b∈a,b.2<=i:=λb c=>by
  rw[<-p];obtain⟨P,S,rfl⟩:=a9b c;simp;omega
 have C:dV e (ew (a.map Γ))=true:=by unfold dV ew;simp only[abz,a7w,List.all_nil,a8S,a7x,decide_true,Υ,a7E,Function.comp];refine⟨λb d=>(c b d).ok (by have:=r b d;omega),?_⟩;simp[o,z];exact λT V d=>⟨(c _ d).key.len,(c _ d).ne⟩
 have x:=Fu a 0 ⟨0,0,([],[])⟩ c ⟨rfl,.inl ⟨rfl,rfl⟩⟩;have D:eJ (ew (a.map Γ))=(a.map Γ).foldl eD ⟨0,0,([],[])⟩:=rfl;rw[<-D,a7Q,p]at x;have E:1<=i:=by
  match a,o with
  |b::a,_=>have:=(c b ς).pos;have:=r b ς;omega
 have F:(eJ (ew (a.map Γ))).size=i:=by
  rw[yA,<-p];have:∀(a:List (ao×Nat)),(∀b∈a,iY e b.2 b.1)->(((a.map Γ).map (·.size)).sum:Int)=(((a.map Prod.snd).sum:Nat):Int):=by
   intro a
   induction a with
   |nil=>intro _;rfl
   |cons b a ih=>intro d;simp only[a7C,a8E];rw[ih λh k=>d h (by simp[k]),(d b ς).size];push_cast;rfl
  simp only[ew,a7x];rw[this a c];simp
 have G:hr e (eJ (ew (a.map Γ))).aR:=by
  rcases x.aR with⟨y,_⟩|⟨_,y⟩
  .omega
  .exact y
 refine⟨⟨C,λW f=>by trivial,λb d=>?_⟩,⟨oF _,x.live,F,E,G,?_⟩,?_⟩
 .obtain⟨h,k,rfl⟩:=a7G.1 d;exact(c h k).kR (by have:=r h k;omega)
 .show bQ e (keyOf (ew (a.map Γ)))
  match a,o with
  |b::a,_=>exact(c b ς).key
 .unfold fP;grind
def lJ{r:Nat}(y:1<=r)(z:r<=8):∀(a:Nat)(c:a1.T a),ds r a c->yO r (a1.bc a c).length (dH a c)/\(bL a c).key=a1.cP a c
 |0,c,d=>by
  obtain⟨E,rfl⟩:=a1.ir c;obtain⟨x,k,_⟩:=d.wf;rw[a1.hM]at x k;have C:=d.ok;rw[a1.jt]at C;exact⟨vt y z x k C,a1q⟩
 |a+1,c,d=>by
  obtain⟨h,rfl⟩:=a1.gA c;obtain⟨x,k,S,o⟩:=d.wf;rw[a1.dN]at x k o;have o:=o δ;have D:=d.gC;have F:=d.dP;have ih:=λb p=>lJ y z a b (D b p).1;have G:(h.map λb=>(bL a b,(a1.bc a b).length)).map Γ=h.map (bL a):=by rw[a9s];rfl
  have L:((h.map λb=>(bL a b,(a1.bc a b).length)).map Prod.snd).sum=(a1.bc (a+1) (a1.node h)).length:=by rw[a9s,a1.fU,List.length_flatMap];rfl
  have:=a1r (by simpa using o) (by simpa using k) (λT P=>by
   obtain⟨b,p,rfl⟩:=a7G.1 P;simp only[tm];exact(ih b p).1.kR) L F
  rw[G]at this;refine⟨this,?_⟩
  match h,o with
  |b::h,_=>
   show(bL a b).key= _;have p:=ih b ς;rw[p.2];unfold a1.cP;rw[a1.fU,a7P];have:=(D b ς).1.ne;cases V:a1.bc a b with
   |nil=>trivial
   |cons W E=>rfl
def kS(b:1<=i)(c:i<=8){a:a1.T e}(d:ds i e a):iY i (a1.bc e a).length (bL e a):=by rw[tm];exact(lJ b c e a d).1.kR
def a1s(b:1<=i)(c:i<=8){a:a1.T e}(d:ds i e a):(bL e a).key=a1.cP e a:=(lJ b c e a d).2
theorem ds.high{r:Nat}:∀(a:Nat)(b:a1.T a),ds r a b->a+1<=(a1.bc a b).length
 |0,b,c=>by
  have:=c.ne;grind
 |a+1,b,c=>by
  obtain⟨h,rfl⟩:=a1.gA b;obtain⟨x,y,z,d⟩:=c.wf;rw[a1.dN]at x y d;have d:=d δ;have k:=c.gC
  match h,d with
  |o::p::h,_=>have C:=ds.high a o (k o ς).1;have D:=ds.high a p (k p ς).1;rw[a1.fU,a7P,a7P];simp only[Ψ];omega
def ix(a b:Int):Int:=if a<b then -1 else if b<a then 1 else 0
def hP:Ω->Ω->Int
 |[],[]=>0
 |[],_:: _=> -1
 |_:: _,[]=>1
 |a::c,b::d=>if ix a b=0 then hP c d else ix a b
def Fv(b:Int)(a:U):AC γ 334 [.v (.int .i64 b)] a λc d=>d=a/\c=.v (.bool ι):=by
 refine aK hm Ui ?_
 repeat' first|refine aF (λ_=>?_) λ_=>?_|trivial
def Fw(b c:Int)(a:U):AC γ 314 [.v (.int .i64 b),.v (.int .i64 c)] a λd h=>h=a/\d=.v (.int .i64 (ix b c)):=by
 refine aK hm TU ?_;refine bp (Fv b a) ?_;refine bp (Fv c a) ?_
 repeat' first|refine aF (λ_=>?_) λ_=>?_|trivial
 .rw[ix,if_pos ‹_›]
 .rw[ix,if_neg ‹_›,if_pos ‹_›]
 .rw[ix,if_neg ‹_›,if_neg ‹_›]
theorem drop_cons{a:List b0}{b:b0}(c:e<α a):a.drop e=a.getD e b::a.drop (e+1):=by simp_all
theorem tp{a:List b0}(b:α a<=e):a.drop e=[]:=a8b b
theorem a1t(b c:Ω)(h k:Own)(d:U)(y:α b<=1000000000000):AC γ 315 [.J (ad b) h,.J (ad c) k] d λo p=>p=d/\o=.v (.int .i64 (hP b c)):=by
 have z:=bN (q:=b);have C:=bN (q:=c);have D:=@dU b;have E:=@dU c;refine aK hm TW ?_;refine gv [0,1,9,10] (λa:Nat=>[(11,.v (.int .i64 a))]) (λa=>a<=α b/\a<=α c/\hP b c=hP (b.drop a) (c.drop a)) (λa=>α b - a) 0 ⟨δ,δ,rfl⟩ aO ?_;rintro a⟨F,G,L⟩P;refine aa ?_;refine aF (λr=>?_) λr=>?_
 .refine aF (λx=>?_) λx=>?_
  .rw[drop_cons (b:=0) δ,tp (a:=c) δ,hP]
  .have S:=drop_cons (a:=b) (b:=0) (e:=a) δ;have T:=drop_cons (a:=c) (b:=0) (e:=a) δ;refine bp (Fw _ _ _) ?_;refine aF (λc2=>?_) λc2=>?_
   .rw[hP,if_neg c2]
   .rw[hP,if_pos δ];grind
 .repeat' first|refine aF (λ_=>?_) λ_=>?_|trivial
  .rw[tp δ,drop_cons (b:=0) δ,hP]
  grind[tp,hP]
def cI(a:Nat)(b c:Ω):Int:=if ix (b.getD a 0) (c.getD a 0)=0 then hP b c else ix (b.getD a 0) (c.getD a 0)
def Fx(a b:Ω)(o p:Own)(c:Nat)(d:U)(h:Nat)(z:d.read h=β [.v (.int .i64 (c:Int))])(C:c<α a)(D:c<α b)(r:α a<=1000000000000):
  AC γ 313 [.J (ad a) o,.J (ad b) p,.ptr h 0] d λx y=>y=d/\x=.v (.int .i64 (cI c a b)):=by
 have E:=@dU a;have F:=@dU b;refine aK hm TS ?_;refine bp (Fw _ _ _) ?_;refine aF (λk=>?_) λk=>?_
 .rw[cI,if_neg k]
 .refine bp (a1t _ _ _ _ _ r) ?_;rw[cI,if_pos δ]
def Fy(o a b:Nat)(y:0<a)(z:b<=1000000000000)(C:a<=8)(d:U):
  AC γ 276 [dO o a,.v (.int .i64 (b:Int))] d λp h=>d.sub h/\∃c,h c=β (.cells [.v (.int .i64 ((b%a:Nat):Int))])/\d c=ζ/\p=.bG 313 [] [.ptr c 0]:=by
 have D:(b:Int).tmod (a:Int)=((b%a:Nat)):=rfl;have E:¬(a:Int)=0:=δ;refine aK hm Tc ?_;refine bs λc r=>?_;refine dd λx k F G=>?_;refine⟨_,θ,?_,x,ξ _ _ _,k,rfl⟩;exact μ (μ θ r) k
def Fz(c d:Ω)(h k:Own)(o a b:Nat)(p:0<a)(x:a<=8)(y:b<=1000000000000)(P:α c=a)(S:α d=a)(r:U):
  AC γ 222 [dO o a,.J (ad c) h,.J (ad d) k,.v (.int .i64 (b:Int))] r λz C=>C=r/\z=.v (.int .i64 (if cI (b%a) c d<0 then 0 else 1)):=by
 have T:=a9t b p;refine aK hm RB ?_;refine bs λV D=>?_;refine ah (Fy o a b p y x _) ?_;rintro _ E⟨F,G,L,_,rfl⟩;refine aa ?_;refine eR abH (Fx c d h k (b%a) E G (κ L) δ δ δ) ?_;rintro _ _⟨rfl,rfl⟩;refine aa ?_
 repeat' first|refine aF (λ_=>?_) λ_=>?_|trivial
 all_goals exact π (μ θ D) F
theorem yP(a c:Ω)(r x:Own)(k:Nat)(p:U)(F:k<α a)(G:α c=α a)(L:α a<=1000000000000):
  AC γ 120 [.J (ad a) r,.J (ad c) x,.v (.int .i64 (k:Int))] p λy z=>z=p/\y=.v (.bool (decide (cI k a c<0))):=by
 have P:=bN (q:=a);have S:=@dU a;have T:=@dU c;have C:∀d h:Int,ix d h=0↔d=h:=λd h=>by unfold ix;omega
 have V:∀d h:Int,ix d h<0↔d<h:=λd h=>by unfold ix;omega
 refine aK hm ON ?_;refine aF (λD=>?_) λD=>?_;simp_all [cI];have W:cI k a c=hP a c:=by rw[cI,if_pos (by rw[C];omega)]
 refine gv [0,1] (λb:Nat=>[(7,.v (.int .i64 b))]) (λb=>b<=α a/\hP (a.drop b) (c.drop b)=hP a c) (λb=>α a - b) 0 ⟨δ,rfl⟩ aO ?_;rintro b⟨e,o⟩f;refine aa ?_;refine aF (λE=>?_) λE=>?_
 .rw[drop_cons (b:=0) δ,drop_cons (b:=0) (e:=b) δ,hP]at o;refine aF (λc2=>?_) λc2=>?_;grind;grind
 .rw[tp δ,tp δ]at o;exact aV (by rw[<-o];rfl)
def fa(c:Nat)(a:Ω)(d:List Ω):List Ω:=d.takeWhile (λb=>decide (cI c b a<0))++a::d.dropWhile (λb=>decide (cI c b a<0))
def ei(a:Nat)(b:List Ω):List Ω:=b.foldl (λc d=>fa a d c) []
theorem a1u(b:Nat)(c:Ω)(a:List Ω):(fa b c a).length=α a+1:=by have:=congrArg α (a8h (p:=λd=>decide (cI b d c<0)) (l:=a));grind[Β,fa,List.length_cons]
theorem yQ:q∈fa e b7 O↔q=b7\/q∈O:=by have:=congrArg (λO=>q∈O) (a8h (p:=λq=>decide (cI e q b7<0)) (l:=O));simp only[a7z,eq_iff_iff]at this;grind[fa]
theorem a1v(c:∀a<e,cI i (O.getD a []) q<0)(b:e<=α O)(d:e<α O->¬cI i (O.getD e []) q<0):fa i q O=O.take e++q::O.drop e:=by
 induction O generalizing e with
 |nil=>simp at b;subst b;rfl
 |cons h O ih=>
  cases e with
  |zero=>grind[cI,fa,List.takeWhile_cons,List.dropWhile_cons]
  |succ e=>have o:cI i h q<0:=c 0 δ;have:=ih (λa p=>c (a+1) δ) (by simpa using b) (λk=>d (by simpa using k));simp_all [fa]
theorem a1w(h:List Ω)(l:ύ)(H:Own)(y F:Nat)(e:U)(m:aB isRow h l)(I:∀G∈h,α G=F)(k3:y<F)(k4:F<=8)(k5:α h<=100000):
  AC γ 174 [.J l H,.v (.int .i64 (y:Int))] e λG L=>e.sub L/\∃n K,aB isRow (ei y h) n/\G=.J n K:=by
 have k6:=m.len;refine aK hm Qj ?_;refine cc [0,1] (λb:Nat×ύ×Own=>[(6,.v (.int .i64 b.1)),(5,.J b.2.1 b.2.2)]) (λb L=>e.sub L/\b.1<=α h/\∃c,(h.take b.1).foldl (λc x=>fa y x c) []=c/\α c=b.1/\(∀G∈c,α G=F)/\aB isRow c b.2.1) (λb=>α h - b.1) (0,[],.nil) ⟨⟨θ,δ,[],rfl,rfl,ς,trivial⟩,aO⟩ ?_;rintro⟨z,C,bH⟩ M ⟨q,N,c,P,O,Q,p⟩ X
 dsimp only at N P O p|-
 have k7:=p.len;refine aa ?_;refine aF (λY=>?_) λY=>?_
 .have s:h[z]?=β (h.getD z []):=by simp_all
  obtain⟨_,k8,f,rfl⟩:=m.get s;have k9:=I _ (a7r s);have t:=eX (a:=h) (b:=[]) (e:=z) δ;generalize h.getD z []=x at*;have el:∀a,a<α c->∃E,C[a]?=β (.J (ad (c.getD a [])) E):=λa T=>by
   obtain⟨_,k,E,rfl⟩:=p.get (i:=a) (x:=c.getD a []) (by simp_all);exact⟨E,k⟩
  have Z:∀a,a<α c->(c.getD a []).length=F:=λa T=>Q _ (by simp_all);refine cc [0,1,5,6] (λb:Nat×ύ×Own=>[(8,.v (.int .i64 b.1)),(7,.J b.2.1 b.2.2)]) (λb L=>b.1<=α c/\(∀u<b.1,cI y (c.getD u []) x<0)/\aB isRow (c.take b.1) b.2.1/\bj M L 1 b.2.1 b.2.2) (λb=>α c - b.1) (0,[],.nil) ⟨⟨δ,λu d=>by simp at d,trivial,Τ θ⟩,aO⟩ ?_;rintro⟨a,V,on⟩ l0 ⟨T,v,r,W⟩ X
  dsimp only at T v r W|-
  have l1:α V=a:=by rw[r.len,a7q];omega
  have w:¬(a<α c/\cI y (c.getD a []) x<0)->fa y x c=c.take a++x::c.drop a:=λd=>a1v v T λj9 D=>d ⟨j9,D⟩;by_cases kb:(a)<(z:Int)
  .obtain⟨E,l2⟩:=el a δ;have l3:=Z a δ;have k0:=eX (a:=c) (b:=[]) (e:=a) δ;generalize l4:c.getD a []=b at*;refine aa ?_;refine bp (yP b x E f y _ δ δ δ) ?_;refine aF (λc2=>?_) λc2=>?_
   .refine jT (λA S=>?_);refine ep (W.mono (μ θ S)) (r.cells λ_ _=>φ) (λk o=>by rw[a7I]at o;subst o;rfl) Μ Μ λg B D=>?_;refine aa ?_;refine⟨(a+1,V++[.J (ad b) E],g),⟨by simp only;omega,?_,?_,D⟩,⟨rfl,rfl⟩,by simp only;omega⟩;grind
    .simp only[k0];exact r.snoc ⟨_,rfl⟩
   .have k:=w δ;refine jT (λA S=>?_);refine ep (W.mono (μ θ S)) (r.cells λ_ _=>φ) (λk o=>by rw[a7I]at o;subst o;rfl) Μ Μ λg B D=>?_;have k1:dT 1 (.J C bH) (β (.v (.int .i64 (a)))) ζ=β (.J (C.drop a) .any):=pI δ (p.cells λ_ _=>φ);refine aa ?_;refine ep D (λk o=>by rcases a7z.1 o with d|d;exact r.cells (λ_ _=>φ) k d;rw[a7I]at d;subst d;rfl) ((p.drop a).cells λ_ _=>φ) Μ Μ λi k2 j=>?_;refine aa ?_;refine⟨(z+1,V++[.J (ad x) f]++C.drop a,i),⟨π q j.sub,by simp only;omega,_,rfl,?_,?_,?_⟩,⟨rfl,rfl⟩,by simp only;omega⟩;grind;grind
    .simp only[t,a9g,P,a7S,a9I,k];rw[aao];exact(r.snoc ⟨_,rfl⟩).append (p.drop a)
  .have k:=w δ;refine aa ?_;refine jT (λA S=>?_);refine ep (W.mono (μ θ S)) (r.cells λ_ _=>φ) (λk o=>by rw[a7I]at o;subst o;rfl) Μ Μ λg B D=>?_;have k1:dT 1 (.J C bH) (β (.v (.int .i64 (a)))) ζ=β (.J (C.drop a) .any):=pI δ (p.cells λ_ _=>φ);refine aa ?_;refine ep D (λk o=>by rcases a7z.1 o with d|d;exact r.cells (λ_ _=>φ) k d;rw[a7I]at d;subst d;rfl) ((p.drop a).cells λ_ _=>φ) Μ Μ λi k2 j=>?_;refine aa ?_;refine⟨(z+1,V++[.J (ad x) f]++C.drop a,i),⟨π q j.sub,by simp only;omega,_,rfl,?_,?_,?_⟩,⟨rfl,rfl⟩,by simp only;omega⟩;grind;grind
   .simp only[t,a9g,P,a7S,a9I,k];rw[aao];exact(r.snoc ⟨_,rfl⟩).append (p.drop a)
 .obtain rfl:z=α h:=δ;rw[a7K]at P;exact⟨C,bH,by rw[ei,P];exact p,rfl⟩
inductive aC where
 |nil
 |node (r:Ω) (live:Bool) (a b:aC)
def dQ(a:U):aC->R->Prop
 |.nil,b=>b=.v (.pointer ζ)
 |.node k live o p,b=>∃c r d h,b=.ptr c 0/\a c=β (.cells [.J (ad k) r,.v (.bool live),d,h])/\dQ a o d/\dQ a p h
def dQ.mono{b c:U}(a:b.sub c):∀ {d:aC}{h:R},dQ b d h->dQ c d h
 |.nil,_,k=>k
 |.node _ _ _ _,_,⟨o,p,r,x,h1,y,z,C⟩=>⟨o,p,r,x,h1,a _ _ y,z.mono a,C.mono a⟩
theorem dQ.cells{b:U}:∀ {c:aC}{a:R},dQ b c a->a.cells=[a]
 |.nil,_,rfl=>rfl
 |.node _ _ _ _,_,⟨_,_,_,_,rfl,_⟩=>rfl
def _root_.Go.bD.U.part(b c d:U):U:=λa=>if c a=ζ\/d a≠ζ then b a else ζ
def FA:U:=λ_=>ζ
theorem rn:(f.part s e0).sub f:=λa b c=>by
 grind[U.part]
def FB{c d:U}(h:f.sub s)(k:e0.sub c):(e0.part s d).sub (c.part f d):=λo p a=>by
 rw[U.part]at a|-;split at a
 .rename_i b;rw[if_pos (b.imp_left λb=>Ο h b)];exact k _ _ a
 .cases a
def a1x{c:U}(b:f.sub s):(e0.part s FA).sub (e0.part f c):=λh k a=>by
 rw[U.part]at a|-;split at a
 .rename_i d;rw[if_pos (.inl (Ο b (d.resolve_right λb=>b rfl)))];exact a
 .cases a
def q5(b:f.sub s):f.sub (s.part e0 f):=λc d a=>by rw[U.part,if_pos (.inr (by rw[a];simp))];exact b _ _ a
theorem vu(a:f e=ζ):s.part f e0 e=s e:=if_pos (.inl a)
def aC.size:aC->Nat
 |.nil=>0
 |.node _ _ a b=>1+a.size+b.size
def aC.all:aC->List Ω
 |.nil=>[]
 |.node a live b c=>b.all++c.all++(if live=η then [a]else [])
def rp:∀(c:aC)(b:R)(a:U),dQ a c b->c.size<=1000000->AC γ 112 [b] a λd h=>h=a/\d=.v (.int .i64 (c.size:Int))
 |.nil,b,a,k,_=>by
  obtain rfl:b=.v (.pointer ζ):=k;refine aK hm Ch ?_;trivial
 |.node d live o p,b,a,⟨E,F,r,x,h1,y,z,C⟩,D=>by
  subst h1;have G:=κ y;simp only[aC.size]at D;refine aK hm Ch ?_;refine bp (rp o r a z δ) ?_;refine bp (rp p x a C δ) ?_;rfl
def lK:∀a:aC,α a.all<=a.size
 |.nil=>by trivial
 |.node d live b c=>by
  have:=lK b;have:=lK c;simp only[aC.all,aC.size,Ψ];split<;>simp<;>omega
def tq:∀(r:aC)(b:R)(a:U),dQ a r b->r.size<=1000000->AC γ 111 [b] a λz G=>∃x k,bj a G 1 x k/\aB isRow r.all x/\z=.J x k
 |.nil,b,a,L,_=>by
  obtain rfl:b=.v (.pointer ζ):=L;refine aK hm Cg ?_;exact⟨_,θ,[],.nil,Τ θ,trivial,rfl⟩
 |.node z live C D,b,a,⟨g,k,P,S,h1,o,c,y⟩,T=>by
  subst h1;have i:=κ o;simp only[aC.size]at T;have j:=lK C;have l:=lK D;refine aK hm Cg ?_;refine ah (tq C P a c δ) ?_;rintro _ V⟨m,n,p,d,rfl⟩;have q:=κ (p.sub _ _ o);refine aa ?_;refine ah (tq D S V (y.mono p.sub) δ) ?_;rintro _ s⟨t,u,E,h,rfl⟩;have v:=κ (E.sub _ _ (p.sub _ _ o));have w:=d.len;have A:=h.len;refine aa ?_;refine ep (p.mono E.sub) (d.cells λ_ _=>φ) (h.cells λ_ _=>φ) δ δ λW B c=>?_;have H:=κ (c.sub _ _ o);refine aa ?_;cases live with
  |true=>refine aa ?_;refine jT (λI e=>?_);refine ep (c.mono (μ θ e)) ((d.append h).cells λ_ _=>φ) (λK F=>by rw[a7I]at F;subst F;rfl) Μ Μ λf M y=>?_;refine aa ?_;exact⟨_,θ,_,f,y,(d.append h).append ⟨⟨k,rfl⟩,trivial⟩,rfl⟩
  |false=>refine aa ?_;exact⟨_,θ,_,W,c,by simpa[aC.all] using d.append h,rfl⟩
def fY(b:Nat):Nat->List Ω->Nat->aC
 |0,_,_=>.nil
 |c+1,a,dep=>if a=[]then .nil else
  .node ((ei (dep%b) a).getD (α a/2) []) η (fY b c ((ei (dep%b) a).take (α a/2)) (dep+1)) (fY b c ((ei (dep%b) a).drop (α a/2+1)) (dep+1))
theorem yR{h:Nat}:∀(b a:List Ω),(b.foldl (λk c=>fa h c k) a).length=α a+α b/\∀d,d∈b.foldl (λk c=>fa h c k) a↔d∈a\/d∈b
 |[],a=>by simp
 |c::b,a=>by
  obtain⟨o,p⟩:=yR b (fa h c a);refine⟨by rw[a7S,o,a1u,a7s];omega,λd=>?_⟩;grind[yQ]
theorem q6(b:Nat)(a:List Ω):(ei b a).length=α a:=by rw[ei,(yR a []).1];simp
def rq:q∈ei e O↔q∈O:=by rw[ei,(yR O []).2];simp
theorem vv(b:Nat)(E:0<b)(F:b<=8):∀(h:Nat)(a:List Ω)(d:ύ)(k:Own)(dep:Nat)(r:U),aB isRow a d->(∀o∈a,α o=b)->α a<=h->h<=100000->dep+h<=1000000->
  AC γ 113 [.J d k,.v (.int .i64 (dep:Int))] r λo g=>r.sub g/\dQ (g.part r FA) (fY b h a dep) o
 |0,a,d,k,dep,r,x,C,v,_,_=>by
  obtain rfl:a=[]:=a7t δ;obtain rfl:d=[]:=a7t x.len;refine aK hm xj ?_;exact⟨_,θ,θ,rfl⟩
 |h+1,a,d,k,dep,r,x,C,v,N,O=>by
  have Q:=x.len;by_cases G:a=[]
  .subst G;obtain rfl:d=[]:=a7t x.len;refine aK hm xj ?_;rw[fY,if_pos rfl];exact⟨_,θ,θ,rfl⟩
  have X:=a8q.2 G;have Y:¬(α a:Int)=0:=δ;obtain⟨_,Z,j9,rfl⟩:=x.get (i:=0) (x:=a.getD 0 []) (by simp_all);have k0:=C (a.getD 0 []) (by simp_all);have k1:=bN (q:=a.getD 0 []);have w:(dep:Int).tmod (b:Int)=((dep%b:Nat)):=rfl;have k2:¬(b:Int)=0:=δ;have A:(α a:Int).tdiv 2=((α a/2:Nat)):=rfl;have k3:∀L k,cz L (.J d k) (.v (.int .i64 0))=eo L d[0]? :=λL k=>ow;refine aK hm xj ?_;refine ah (a1w a d k (dep%b) b r x C (a9t _ E) F δ) ?_;rintro _ B⟨D,y,P,p,rfl⟩;have i:=p.len;rw[q6]at i;have j:=q6 (dep%b) a;have S:∀T∈ei (dep%b) a,α T=b:=λT H=>C T (rq.1 H);obtain⟨z,l⟩:∃z,ei (dep%b) a=z:=⟨_,rfl⟩;rw[fY,if_neg G];rw[l]at j S p|-;generalize I:α a/2=c at*;obtain⟨_,k4,m,rfl⟩:=p.get (i:=c) (x:=z.getD c []) (by grind);have k5:dT 1 (.J y P) ζ (β (.v (.int .i64 (c))))=β (.J (y.take c) .any):=by have:=og (e1:=.i64) (N:=P) (b1:=(c)) δ δ (p.cells λ_ _=>φ);trivial
  have k6:dT 1 (.J y P) (β (.v (.int .i64 ((c)+1)))) ζ=β (.J (y.drop (c+1)) .any):=pI (e:=c+1) δ (p.cells λ_ _=>φ);refine aa ?_;refine ah (vv b E F h (z.take c) (y.take c) .any (dep+1) B (p.take c) (λo V=>S o (a7A V)) (by rw[a7q];omega) δ δ) ?_;rintro n K⟨W,q⟩;refine aa ?_;refine ah (vv b E F h (z.drop (c+1)) (y.drop (c+1)) .any (dep+1) K (p.drop (c+1)) (λo V=>S o (a7U V)) (by rw[a7F];omega) δ δ) ?_;rintro s k7⟨e,t⟩;clear l j i w A I;have k8:=q.cells;have k9:=t.cells;refine aa ?_;refine aN λM u=>?_;refine aa ?_;have f:=μ (Y:=.cells [.J (ad (z.getD c [])) m,.v (.bool η),n,s]) θ u;exact⟨_,θ,π D (π W (π e f)),M,m,n,s,rfl,(vu (Ο D (Ο W (Ο e u)))).trans (ξ _ _ _),q.mono (FB D (π e f)),t.mono (FB (π D W) f)⟩
theorem a1y{b c:U}(h:∀a,s a=ζ->f a=ζ)(k:∀a,c a≠ζ->f a=ζ\/b a≠ζ):(e0.part s c).sub (e0.part f b):=λa o d=>by
 rw[U.part]at d|-;grind
variable{Y:bu}
def yS(c:f.sub s):(f.set e Y).sub (s.set e Y):=λd h a=>by
 by_cases b:d=e
 .subst b;rw[ξ]at a|-;exact a
 .rw[ο _ _ b]at a|-;exact c _ _ a
theorem yT{d h:U}{o:bu}(p:f.sub s)(r:e0=f.set e o)(k:f e=ζ):
  (d.part (s.set e Y) ((s.part e0 h).set e Y)).sub (d.part f h):=a1y (λc a=>by
   by_cases b:c=e
   .subst b;exact k
   .rw[ο _ _ b]at a;exact Ο p a) λc a=>by
   by_cases b:c=e
   .subst b;exact .inl k
   .rw[ο _ _ b,U.part]at a;split at a;simp_all [ο]
    .trivial
theorem vw{a:U}(b:f=e0.set e Y)(c:s e=ζ):a.part f s e=none:=by simp_all [U.part,ξ]
def aC.Ok(a:Nat):aC->Prop
 |.nil=>True
 |.node b _ c d=>α b=a/\c.Ok a/\d.Ok a
theorem aC.Ok.all{c:Nat}:∀ {d:aC},d.Ok c->∀b∈d.all,α b=c
 |.nil,_,b,a=>by trivial
 |.node o live p r,⟨h1,h,k⟩,b,a=>by
  simp only[aC.all,a7z]at a;rcases a with (a|a)|a
  .exact h.all b a
  .exact k.all b a
  simp_all
def hQ(d:Nat)(h:aC)(k:Nat):aC:=
 match h with
 |.nil=>.nil
 |.node c live a b=>if max a.size b.size>2*(aC.node c live a b).size/3+1 then fY d (aC.node c live a b).all.length (aC.node c live a b).all k else .node c live a b
theorem yU(o:Nat)(j:0<o)(l:o<=8)(d:Ω)(h:Bool)(a b:aC)(F:R)(p:Nat)(k r:U)(G:dQ r (.node d h a b) F)(L:r.sub k)(m:(aC.node d h a b).Ok o)(x:(aC.node d h a b).size<=100000)(k1:p<=100000):
  AC γ 119 [F,.v (.int .i64 (p:Int))] k λy P=>k.sub P/\dQ (P.part k r) (hQ o (.node d h a b) p) y:=by
 have z:=G.mono L;obtain⟨k2,k3,y,n,rfl,q,s,t⟩:=id z;have k4:=κ q;have u:a.size<=100000:=by simp only[aC.size]at x;omega
 have w:b.size<=100000:=by simp only[aC.size]at x;omega
 refine aK hm OL ?_;refine bp (rp a y k s δ) ?_;refine bp (rp b n k t δ) ?_;have A:=lK (aC.node d h a b);have S:=rp _ _ k z δ;rw[hQ];have B:=vv o j l (aC.node d h a b).all.length (aC.node d h a b).all;have H:=tq _ _ k z δ;have I:=m.all;generalize aC.node d h a b=K at*;obtain⟨c,T⟩:∃c,K.size=c:=⟨_,rfl⟩;obtain⟨C,V⟩:∃c,a.size=c:=⟨_,rfl⟩;obtain⟨D,W⟩:∃c,b.size=c:=⟨_,rfl⟩;rw[T]at S x A|-;rw[V]at u|-;rw[W]at w|-;clear T V W;have M:(2*(c:Int)).tdiv 3=((2*c/3:Nat)):=by grind
 obtain⟨E,e⟩:∃E,2*c/3=E:=⟨_,rfl⟩;rw[e]at M|-;have N:max (C:Int) (D)=((max C D)):=δ;obtain⟨f,g⟩:∃f,max C D=f:=⟨_,rfl⟩;rw[g]at N|-;have hm:E<=100000:=δ;clear e g;refine bp S ?_;refine aF (λO=>?_) λO=>?_
 .rw[if_pos δ];refine ah H ?_;rintro _ Q⟨X,Y,i,Z,rfl⟩;refine aa ?_;refine ah (B X Y p Q Z I δ δ δ) ?_;rintro v k5⟨j9,k0⟩;refine aa ?_;exact⟨_,θ,π i.sub j9,k0.mono (a1x i.sub)⟩
 .rw[if_neg δ];exact⟨_,θ,θ,G.mono (q5 L)⟩
theorem rr(b:Nat):∀(c:Nat)(a:List Ω)(dep:Nat),(fY b c a dep).size<=α a
 |0,_,_=>a7N _
 |c+1,a,dep=>by
  rw[fY];split
  .exact a7N _
  .rename_i d;have:=a8q.2 d;have h:=rr b c ((ei (dep%b) a).take (α a/2)) (dep+1);have k:=rr b c ((ei (dep%b) a).drop (α a/2+1)) (dep+1);grind[List.length_take,q6,List.length_drop,aC.size]
theorem yV(b:Nat):∀(d:Nat)(h:List Ω)(dep:Nat),(∀a∈h,α a=b)->(fY b d h dep).Ok b
 |0,_,_,_=>trivial
 |d+1,h,dep,o=>by
  rw[fY];split
  .trivial
  .rename_i p;have:=a8q.2 p;have k:∀a∈ei (dep%b) h,α a=b:=λa c=>o a (rq.1 c);refine⟨?_,yV b d _ _ λa c=>k a (a7A c),yV b d _ _ λa c=>k a (a7U c)⟩;grind[ei,q6,List.getD,List.getElem?_eq_getElem,List.getElem_mem]
theorem a1z(b:Nat)(a:aC)(c:Nat):(hQ b a c).size<=a.size:=by
 unfold hQ;split
 .trivial
 .split
  .exact a8m (rr _ _ _ _) (lK _)
  .omega
variable{a8:aC}
def yW(b:Nat)(a:a8.Ok e):(hQ e a8 b).Ok e:=by
 unfold hQ;split
 .trivial
 .split
  .exact yV _ _ _ _ a.all
  .exact a
def da(a:Nat)(b:Ω):aC->Nat->aC×Bool
 |.nil,_=>(.node b η .nil .nil,η)
 |.node c live d h,dep=>
  if c=b then(hQ a (.node c η d h) dep,!live)
  else if cI (dep%a) b c<0 then(hQ a (.node c live (da a b d (dep+1)).1 h) dep,(da a b d (dep+1)).2)
  else(hQ a (.node c live d (da a b h (dep+1)).1) dep,(da a b h (dep+1)).2)
theorem q7(a:Nat)(b:Ω):∀(c:aC)(dep:Nat),(da a b c dep).1.size<=c.size+1
 |.nil,_=>a7T _
 |.node k live d h,dep=>by
  have o:=q7 a b d (dep+1);have p:=q7 a b h (dep+1);grind[da,Nat.le_trans,a1z,aC.size]
def vx{a:Nat}{b:Ω}(c:α b=a):∀ {r:aC} (dep:Nat),r.Ok a->(da a b r dep).1.Ok a
 |.nil,_,_=>⟨c,trivial,trivial⟩
 |.node d live h k,dep,⟨h1,o,p⟩=>by
  rw[da];split
  .exact yW (a8:=.node d η h k) _ ⟨h1,o,p⟩
  .split
   .exact yW (a8:=.node d live (da a b h (dep+1)).1 k) _ ⟨h1,vx c _ o,p⟩
   .exact yW (a8:=.node d live h (da a b k (dep+1)).1) _ ⟨h1,o,vx c _ p⟩
def yX(a:Nat)(E:0<a)(P:a<=8)(o:Ω)(g:Own)(S:α o=a):∀(T:aC)(V:R)(dep:Nat)(x y:U),dQ y T V->y.sub x->T.Ok a->T.size+1+dep<=100000->
  AC γ 65 [V,.J (ad o) g,.v (.int .i64 (dep:Int))] x λk H=>x.sub H/\∃d,k=.aJ [d,.v (.bool (da a o T dep).2)]/\dQ (H.part x y) (da a o T dep).1 d
 |.nil,V,dep,x,y,q,z,I,K=>by
  obtain rfl:V=.v (.pointer ζ):=q;refine aK hm Cc ?_;refine aN λb h=>?_;refine aa ?_;exact⟨_,θ,μ θ h,_,rfl,b,g,_,_,rfl,(vu h).trans (ξ _ _ _),rfl,rfl⟩
 |.node c live F G,V,dep,x,y,q,z,I,K=>by
  obtain⟨M,p,k,d,rfl,N,i,j⟩:=q;have W:=z _ _ N;have O:=i.mono z;have Q:=j.mono z;obtain⟨s,l,m⟩:=id I;have k4:=κ W;have k5:=bN (q:=o);have k6:=O.cells;have k7:=Q.cells;refine aK hm Cc ?_;refine bs λb h=>?_;have X:=μ (Y:=.cells [.J (ad c) p,.v (.bool live),k,d]) θ h;have k8:=κ (X _ _ W);have k9:M≠b:=by rintro rfl;rw[h]at W;cases W
  have C:=Ο z h;obtain⟨n,Y⟩:∃n,n=x.set b (.cells [.J (ad c) p,.v (.bool live),k,d]):=⟨_,rfl⟩;simp only[aC.size]at K;refine aa ?_;refine ah (tk c o _ _ _ δ) ?_;rintro _ _⟨rfl,rfl⟩;refine aa ?_;refine aF (λt=>?_) λt=>?_
  .subst t;have Z:dQ ((x.part n y).set b (.cells [.J (ad c) p,.v (.bool η),k,d])) (.node c η F G) (.ptr b 0):=by have r:=μ (Y:=.cells [.J (ad c) p,.v (.bool η),k,d]) (q5 (e0:=n) z) C;exact⟨b,p,k,d,rfl,ξ _ _ _,i.mono r,j.mono r⟩
   refine ah (yU a E P c η F G _ dep _ _ Z (yS rn) ⟨s,l,m⟩ (by simp only[aC.size];omega) δ) ?_;rintro v L⟨r,D⟩;have l0:=κ (r _ _ (μ θ h _ _ W));refine aa ?_;rw[da,if_pos rfl];exact⟨_,θ,π (μ θ h) r,_,rfl,D.mono (yT θ Y h)⟩
  rw[da,if_neg t];have l1:(dep:Int).tmod (a:Int)=((dep%a:Nat)):=rfl;refine ah (yP o c _ _ (dep%a) _ (by rw[S];exact a9t _ E) δ δ) ?_;rintro _ _⟨rfl,rfl⟩;refine aa ?_;refine aF (λc2=>?_) λc2=>?_
  .refine ah (yX a E P o g S F k (dep+1) _ y i (μ z C) l δ) ?_;rintro _ L⟨r,v,rfl,D⟩;have u:=r _ _ (ξ _ _ _);have j9:en L b=β [.J (ad c) p,.v (.bool live),k,d]:=by simp[en,u]
   have k0:=D.cells;have e:=π (μ θ h) r;rw[if_pos c2];refine aa ?_;have f:=μ (Y:=.cells [.J (ad c) p,.v (.bool live),v,d]) θ (vw rfl C:L.part (x.set b (.cells [.J (ad c) p,.v (.bool live),k,d])) y b=ζ);have w:dQ _ (.node c live (da a o F (dep+1)).1 G) (.ptr b 0):=⟨b,p,v,d,rfl,ξ _ _ _,D.mono f,j.mono (π (q5 (π (μ z C) r)) f)⟩;have k1:=q7 a o F (dep+1);refine ah (yU a E P _ _ _ _ _ dep _ _ w (yS rn) ⟨s,vx S _ l,m⟩ (by simp only[aC.size];omega) δ) ?_;rintro k2 k3⟨A,B⟩;refine aa ?_;exact⟨_,θ,π (μ e h) A,_,rfl,B.mono (yT e rfl h)⟩
  .refine ah (yX a E P o g S G d (dep+1) _ y j (μ z C) m δ) ?_;rintro _ L⟨r,v,rfl,D⟩;have u:=r _ _ (ξ _ _ _);have j9:en L b=β [.J (ad c) p,.v (.bool live),k,d]:=by simp[en,u]
   have k0:=D.cells;have e:=π (μ θ h) r;rw[if_neg c2];refine aa ?_;have f:=μ (Y:=.cells [.J (ad c) p,.v (.bool live),k,v]) θ (vw rfl C:L.part (x.set b (.cells [.J (ad c) p,.v (.bool live),k,d])) y b=ζ);have w:dQ _ (.node c live F (da a o G (dep+1)).1) (.ptr b 0):=⟨b,p,k,v,rfl,ξ _ _ _,i.mono (π (q5 (π (μ z C) r)) f),D.mono f⟩;have k1:=q7 a o G (dep+1);refine ah (yU a E P _ _ _ _ _ dep _ _ w (yS rn) ⟨s,l,vx S _ m⟩ (by simp only[aC.size];omega) δ) ?_;rintro k2 k3⟨A,B⟩;refine aa ?_;exact⟨_,θ,π (μ e h) A,_,rfl,B.mono (yT e rfl h)⟩
theorem vy{a:U}{b:bu}(d:s=f.set e b)(h:f e=ζ):((e0.part s a).set e Y).sub ((e0.set e Y).part f a):=λc k o=>by
 by_cases p:c=e;grind[ξ,vu];simp_all [ο,U.part]
def cp(b:Nat)(a:Ω):aC->Nat->aC×Bool
 |.nil,_=>(.nil,ι)
 |.node c live d h,dep=>
  if c=a then(.node c ι d h,live)
  else if cI (dep%b) a c<0 then(.node c live (cp b a d (dep+1)).1 h,(cp b a d (dep+1)).2)
  else(.node c live d (cp b a h (dep+1)).1,(cp b a h (dep+1)).2)
theorem q8(a:Nat)(b:Ω):∀(c:aC)(dep:Nat),(cp a b c dep).1.size=c.size
 |.nil,_=>rfl
 |.node k live d h,dep=>by
  have o:=q8 a b d (dep+1);have p:=q8 a b h (dep+1);grind[cp,aC.size]
def yY{a:Nat}{h:Ω}:∀ {b:aC} (dep:Nat),b.Ok a->(cp a h b dep).1.Ok a
 |.nil,_,_=>trivial
 |.node k live o p,dep,⟨h1,c,d⟩=>by
  rw[cp];split
  .trivial
  .split
   .exact⟨h1,yY _ c,d⟩
   .exact⟨h1,c,yY _ d⟩
def yZ(b:Nat)(V:0<b)(s:b<=8)(p:Ω)(W:Own)(e:α p=b):∀(D:aC)(E:R)(dep:Nat)(y z:U),dQ z D E->z.sub y->D.Ok b->D.size+1+dep<=1000000->
  AC γ 110 [E,.J (ad p) W,.v (.int .i64 (dep:Int))] y λc t=>y.sub t/\∃a,c=.aJ [a,.v (.bool (cp b p D dep).2)]/\dQ (t.part y z) (cp b p D dep).1 a
 |.nil,E,dep,y,z,f,r,u,w=>by
  obtain rfl:E=.v (.pointer ζ):=f;refine aK hm Cf ?_;exact⟨_,θ,θ,_,rfl,rfl⟩
 |.node d live g i,E,dep,y,z,f,r,u,w=>by
  obtain⟨B,o,c,a,rfl,H,P,S⟩:=f;have T:=r _ _ H;have I:=P.mono r;have K:=S.mono r;obtain⟨Y,M,N⟩:=id u;have Z:=κ T;have j9:=bN (q:=p);have k0:=I.cells;have k1:=K.cells;refine aK hm Cf ?_;refine bs λh k=>?_;have O:=μ (Y:=.cells [.J (ad d) o,.v (.bool live),c,a]) θ k;have k2:=κ (O _ _ T);have k3:B≠h:=by rintro rfl;rw[k]at T;cases T
  have C:=Ο r k;obtain⟨j,A⟩:∃j,j=y.set h (.cells [.J (ad d) o,.v (.bool live),c,a]):=⟨_,rfl⟩;simp only[aC.size]at w;refine aa ?_;refine ah (tk d p _ _ _ δ) ?_;rintro _ _⟨rfl,rfl⟩;refine aa ?_;refine aF (λl=>?_) λl=>?_
  .subst l;rw[cp,if_pos rfl];have x:=μ (Y:=.cells [.J (ad d) o,.v (.bool ι),c,a]) (q5 (e0:=j) r) C;exact⟨_,θ,μ θ k,_,rfl,h,o,c,a,rfl,(vu k).trans (ξ _ _ _),P.mono (π x (vy A k)),S.mono (π x (vy A k))⟩
  rw[cp,if_neg l];have k4:(dep:Int).tmod (b:Int)=((dep%b:Nat)):=rfl;refine ah (yP p d _ _ (dep%b) _ (by rw[e];exact a9t _ V) δ δ) ?_;rintro _ _⟨rfl,rfl⟩;refine aa ?_;refine aF (λc2=>?_) λc2=>?_
  .refine ah (yZ b V s p W e g c (dep+1) _ z P (μ r C) M δ) ?_;rintro _ F⟨x,v,rfl,G⟩;have m:=x _ _ (ξ _ _ _);have Q:en F h=β [.J (ad d) o,.v (.bool live),c,a]:=by simp[en,m]
   have X:=G.cells;have n:=π (μ θ k) x;rw[if_pos c2];refine aa ?_;have L:=μ (Y:=.cells [.J (ad d) o,.v (.bool live),v,a]) θ (vw rfl C:F.part (y.set h (.cells [.J (ad d) o,.v (.bool live),c,a])) z h=ζ);have q:dQ _ (.node d live (cp b p g (dep+1)).1 i) (.ptr h 0):=⟨h,o,v,a,rfl,ξ _ _ _,G.mono L,S.mono (π (q5 (π (μ r C) x)) L)⟩;exact⟨_,θ,μ n k,_,rfl,q.mono (vy rfl k)⟩
  .refine ah (yZ b V s p W e i a (dep+1) _ z S (μ r C) N δ) ?_;rintro _ F⟨x,v,rfl,G⟩;have m:=x _ _ (ξ _ _ _);have Q:en F h=β [.J (ad d) o,.v (.bool live),c,a]:=by simp[en,m]
   have X:=G.cells;have n:=π (μ θ k) x;rw[if_neg c2];refine aa ?_;have L:=μ (Y:=.cells [.J (ad d) o,.v (.bool live),c,v]) θ (vw rfl C:F.part (y.set h (.cells [.J (ad d) o,.v (.bool live),c,a])) z h=ζ);have q:dQ _ (.node d live g (cp b p i (dep+1)).1) (.ptr h 0):=⟨h,o,c,v,rfl,ξ _ _ _,P.mono (π (q5 (π (μ r C) x)) L),G.mono L⟩;exact⟨_,θ,μ n k,_,rfl,q.mono (vy rfl k)⟩
def lL(a:Nat)(b:Ω)(c:aC):aC×Bool:=
 if(cp a b c 0).2=η/\2*(cp a b c 0).1.all.length<(cp a b c 0).1.size then(fY a (cp a b c 0).1.all.length (cp a b c 0).1.all 0,η)else cp a b c 0
def a1A(a:Nat)(z:0<a)(C:a<=8)(b:Ω)(D:Own)(L:α b=a)(c:aC)(o:R)(k:U)(P:dQ k c o)(E:c.Ok a)(u:c.size+1<=100000):
  AC γ 62 [o,.J (ad b) D] k λS F=>k.sub F/\∃d,S=.aJ [d,.v (.bool (lL a b c).2)]/\dQ F (lL a b c).1 d:=by
 refine aK hm MX ?_;refine ah (yZ a z C b D L c o 0 k k P θ E δ) ?_;rintro _ T⟨p,d,rfl,V⟩;have r:=V.mono rn;have W:=yY (h:=b) 0 E;have cf:=q8 a b c 0;rw[lL];generalize cp a b c 0=e at*;obtain⟨h,f⟩:=e
 dsimp only at*
 have w:=lK h;cases f with
 |false=>refine aa ?_;rw[if_neg ς];exact⟨_,θ,p,d,rfl,r⟩
 |true=>
  refine aa ?_;refine ah (tq h d T r δ) ?_;rintro _ G⟨A,B,x,g,rfl⟩;have y:=r.mono x.sub;have H:=g.len;refine aa ?_;refine bp (rp h d G y δ) ?_;refine aF (λi=>?_) λi=>?_
  .rw[if_pos ⟨rfl,δ⟩];refine ah (tq h d G y δ) ?_;rintro _ j⟨l,m,n,q,rfl⟩;refine aa ?_;refine ah (vv a z C (α h.all) h.all l m 0 j q W.all δ δ δ) ?_;rintro v I⟨s,t⟩;refine aa ?_;exact⟨_,θ,π p (π x.sub (π n.sub s)),v,rfl,t.mono rn⟩
  .rw[if_neg δ];exact⟨_,θ,π p x.sub,d,rfl,y⟩
structure oR where
 prev:ϊ
 num:Int
 ops:ϊ
 FC:ϊ
 deriving DecidableEq
def oR.ok(a:oR):Prop:=α a.prev=32/\α a.ops=32/\α a.FC=32
def a1B(a:ϊ)(b:Int)(c d:ϊ):ύ:=a.map aj++(.v (.int .i64 b)::(c.map aj++d.map aj))
def oR.C(a:oR):ύ:=a1B a.prev a.num a.ops a.FC
def oR.V(a:oR):R:=.agg a.C
def oR.may(a:oR):Bool:=decide (0<=a.num)&&decide (a.num<=1099511627776)
theorem z1(a:ϊ)(b:Nat)(c:b<α a):(⟨a.toArray⟩:ByteArray).get! b=a[b]:=by simp[ByteArray.get!,c]
theorem FD(a:ϊ)(b:Nat)(c:b<α a)(d:a[b].toNat<128):Utf8.decode ⟨a.toArray⟩ b=(a[b].toNat,1):=by simp[Utf8.decode,z1 a b c,d]
theorem decode_high(b:ϊ)(a:Nat)(E:a<α b)(F:128<=b[a].toNat):
  128<=(Utf8.decode ⟨b.toArray⟩ a).1/\(Utf8.decode ⟨b.toArray⟩ a).1<=1114111/\1<=(Utf8.decode ⟨b.toArray⟩ a).2/\a+(Utf8.decode ⟨b.toArray⟩ a).2<=α b/\
   ∀c,(r:c<α b)->a<=c->c<a+(Utf8.decode ⟨b.toArray⟩ a).2->128<=b[c].toNat:=by
 have f:∀c,(r:c<α b)->a<=c->c<a+1->128<=b[c].toNat:=λc r G x=>by
  grind
 have h:∀k,(a+k<α b/\((⟨b.toArray⟩:ByteArray).get! (a+k)).toNat/64=2)->∃E:a+k<α b,128<=b[a+k].toNat:=λk g=>by
  grind[z1]
 have S:=oh b;have T:((⟨b.toArray⟩:ByteArray).get! (a+0)).toNat=b[a].toNat:=by rw[a9p,z1 b a E]
 have i:b[a].toNat<256:=b[a].toNat_lt;unfold Utf8.decode;simp only[T,S];rw[if_neg δ];have v:∀z:Nat,Utf8.valid (z)=η->z<=1114111:=λz d=>by
  simp only[Utf8.valid,a8Z,Υ,decide_eq_true_eq]at d;omega
 split
 .rename_i d;simp only[Υ,decide_eq_true_eq,beq_iff_eq]at d;obtain⟨L,o⟩:=d;obtain⟨P,y⟩:=h 1 o;split;grind;trivial
 .split
  .rename_i d;simp only[Υ,decide_eq_true_eq,beq_iff_eq]at d;obtain⟨⟨L,o⟩,C⟩:=d;obtain⟨P,y⟩:=h 1 o;obtain⟨V,D⟩:=h 2 C;split
   .rename_i p;simp only[Υ,decide_eq_true_eq]at p;refine⟨by simp only;omega,v _ p.2,ς,Μ,λc r G x=>?_⟩;rcases(by simp only at x;omega:c=a\/c=a+1\/c=a+2)with rfl|rfl|rfl
    .exact F
    .exact y
    .exact D
   trivial
  .split
   .rename_i d;simp only[Υ,decide_eq_true_eq,beq_iff_eq]at d;obtain⟨⟨⟨L,o⟩,C⟩,W⟩:=d;obtain⟨P,y⟩:=h 1 o;obtain⟨V,D⟩:=h 2 C;obtain⟨j,e⟩:=h 3 W;split
    .rename_i p;simp only[Υ,decide_eq_true_eq]at p;refine⟨by simp only;omega,v _ p.2,ς,Μ,λc r G x=>?_⟩;rcases(by simp only at x;omega:c=a\/c=a+1\/c=a+2\/c=a+3)with rfl|rfl|rfl|rfl
     .exact F
     .exact y
     .exact D
     .exact e
    trivial
   trivial
def fZ(b:Nat)(a:Int):Bool:=(decide (97<=a)&&decide (a<=122))||(!decide (b=0)&&((decide (48<=a)&&decide (a<=57))||decide (a=95)))
def lM(b:ByteArray):Nat->Nat->Bool
 |0,_=>η
 |c+1,a=>if a<b.size then fZ a (Utf8.decode b a).1&&lM b c (a+(Utf8.decode b a).2)else η
def kd(a:ϊ):Bool:=lM ⟨a.toArray⟩ (α a+1) 0&&decide (1<=α a/\α a<=16)
theorem a1C(a:ϊ)(b:Nat)(c:b<α a):1<=(Utf8.decode ⟨a.toArray⟩ b).2/\b+(Utf8.decode ⟨a.toArray⟩ b).2<=α a/\(Utf8.decode ⟨a.toArray⟩ b).1<=1114111:=by grind[FD,decode_high]
variable{w j4:ϊ}
def tr:sv (bo w)=β (.v (.int .i64 (α w))):=xw
theorem FE(a:ϊ)(l:α a<=1000000)(k:U):
  AC γ 97 [bo a] k λe o=>o=k/\e=.v (.bool (kd a)):=by
 refine bd hm O5 ς ?_;have f:∀(L)(V),xC (bo a) k (bX L V)=jm k (c4 (λg=>L g ⟨a.toArray⟩) ()):=λL V=>D2;refine aG @f ?_;refine aN λr y=>?_;refine er ?_;refine cm (λP o=>∃x b:Nat,b<=α a/\α a<x+b/\lM ⟨a.toArray⟩ x b=lM ⟨a.toArray⟩ (α a+1) 0/\k.sub o/\o r=β (.it ⟨a.toArray⟩ b)/\P 0=bo a/\P 7=.ptr r 0)
  (λ_ o=>match o r with|some (.it _ b)=>α a - b|_=>0) ⟨α a+1,0,δ,δ,rfl,μ θ y,ξ _ _ _,?_⟩ ?_
 .exact qY
 .rintro P o⟨x,b,m,n,z,C,S,p,h⟩;refine aG @h ?_;by_cases D:b<α a
  .obtain⟨x,rfl⟩:∃i,x=i+1:=⟨x - 1,δ⟩;obtain⟨q,s,t⟩:=a1C a b D;have j:=oh a;rw[lM,if_pos (by rw[j];exact D)]at z;refine Xx S D ?_;generalize (Utf8.decode ⟨a.toArray⟩ b).1=c at*;generalize (Utf8.decode ⟨a.toArray⟩ b).2=E at*;have F (d:fZ b c=ι):kd a=false:=by rw[d,a9H]at z;rw[kd,<-z];rfl
   have u (d:fZ b c=η):(∃W G:Nat,G<=α a/\α a<W+G/\lM ⟨a.toArray⟩ W G=lM ⟨a.toArray⟩ (α a+1) 0/\k.sub (o.set r (.it ⟨a.toArray⟩ (b+E)))/\(o.set r (.it ⟨a.toArray⟩ (b+E))) r=β (.it ⟨a.toArray⟩ G)):=by rw[d,a8S]at z;grind[μ,ξ]
   have T:((b:Int)=0)=(b=0):=ς;have v:(match o r with|some (.it _ b)=>α a - b|_=>0)=α a - b:=by rw[S]
   have w:(match(o.set r (.it ⟨a.toArray⟩ (b+E))) r with|some (.it _ b)=>α a - b|_=>0)=α a -(b+E):=by rw[ξ]
   have A:α a -(b+E)<α a - b:=δ;by_cases ju:(97)<=(c:Int)
   .by_cases a2:(c:Int)<=122
    .have d:fZ b c=true:=by simp[fZ,ju,a2]
     refine aG (aL @p @h @ju @a2) ?_;simp_all
    .by_cases a0:(b:Int)=0
     .have d:fZ b c=false:=by simp[fZ,a2];omega
      refine aG (bh @p @h @ju @a2 @a0) ?_;exact⟨k,μ C y,rfl,by rw[F d]⟩
     .have d:fZ b c=false:=by simp[fZ,a2];omega
      have a3:¬(c:Int)<48:=δ;have a4:(57:Int)<c:=δ;have a5:¬(c:Int)=95:=δ;refine aG (bw @p @h @ju @a2 @a0 @a3 @a4 @a5) ?_;exact⟨k,μ C y,rfl,by rw[F d]⟩
   .by_cases a0:(b:Int)=0
    .have d:fZ b c=false:=by simp[fZ,ju];omega
     refine aG (aL @p @h @ju @a0) ?_;exact⟨k,μ C y,rfl,by rw[F d]⟩
    .have T:¬b=0:=δ;by_cases a3:(c:Int)<48
     .have d:fZ b c=false:=by simp[fZ,ju];omega
      have a5:¬(c:Int)=95:=δ;refine aG (bz @p @h @ju @a0 @a3 @a5) ?_;exact⟨k,μ C y,rfl,by rw[F d]⟩
     .by_cases a4:(57:Int)<c
      .by_cases a5:(c:Int)=95
       .have d:fZ b c=true:=by simp[fZ,a5,T]
        refine aG (c7 @p @h @ju @a0 @a3 @a4 @a5) ?_;simp_all
       .have d:fZ b c=false:=by simp[fZ,ju,a5];omega
        refine aG (c7 @p @h @ju @a0 @a3 @a4 @a5) ?_;exact⟨k,μ C y,rfl,by rw[F d]⟩
      .have d:fZ b c=true:=by simp[fZ,ju,T];omega
       refine aG (bz @p @h @ju @a0 @a3 @a4) ?_;simp_all
  .have B:kd a=decide (1<=α a/\α a<=16):=by
    have:lM ⟨a.toArray⟩ x b=true:=by
     cases x with
     |zero=>rfl
     |succ x=>rw[lM,if_neg (by rw[oh];exact D)]
    rw[kd,<-z,this,a8S]
   refine Xy S D ?_;by_cases d1:(1:Int)<=α a
   .by_cases d2:(α a:Int)<=16
    .refine aG (bh @p @h @tr @d1 @d2) ?_;grind
    .refine aG (bh @p @h @tr @d1 @d2) ?_;grind
   .refine aG (aL @p @h @tr @d1) ?_;grind
def bM(a:List ϊ):ύ:=a.map bo
variable{e4:List ϊ}
def iZ:(bM e4).length=α e4:=by simp[bM]
def ts{a:List ϊ}{b:Nat}(c:b<α a):(bM a)[b]?=β (bo (a.getD b [])):=by simp[bM,c]
def z6:eo 1 (β (bo w))=β (.bS [bo w]):=rfl
theorem a1D(a:List ϊ)(C:Own)(h:ϊ)(T:α a<=1000000)(d:U):
  AC γ 207 [.J (bM a) C,bo h] d λF o=>o=d/\∃k:Int,F=.v (.int .i64 k)/\decide (0<=k)=decide (h∈a):=by
 refine bd hm Re ς ?_;have G:=iZ (e4:=a);refine aG @G ?_;refine cm (λc o=>∃b:Nat,b<=α a/\o=d/\h∉a.take b/\c 0=.J (bM a) C/\c 1=bo h/\c 7=.v (.int .i64 (α a))/\c 8=.v (.int .i64 b))
  (λc _=>match c 8 with|.v (.int _ k)=>(α a - k).toNat|_=>0) ⟨0,δ,rfl,ς,?_⟩ ?_
 .exact qY
 .rintro c d⟨b,V,rfl,W,p,r,x,y⟩;by_cases z:(b:Int)<α a
  .have L:b<α a:=δ;have D:=ts L;have P:a.getD b []∈a:=by simp_all
   have e:a.take (b+1)=a.take b++[a.getD b []]:=by simp_all
   generalize a.getD b []=S at*;by_cases E:h=S
   .refine aG (cO @p @r @x @y @z @gp @D @z6 @E) ?_;refine⟨d,θ,rfl,b,rfl,?_⟩;simp[P]
   .refine aG (cO @p @r @x @y @z @gp @D @z6 @E) ?_;grind
  .obtain rfl:b=α a:=δ;refine aG (bh @p @r @x @y @z) ?_;refine⟨d,θ,rfl,-1,rfl,?_⟩;simp_all
def a1E(b:List ϊ)(d:Own)(c:ϊ)(h:α b<=1000000)(a:U):
  AC γ 158 [.J (bM b) d,bo c] a λk o=>o=a/\k=.v (.bool (decide (c∈b))):=by
 refine bd hm PM ς ?_;refine er ?_;refine ah (a1D b d c h a) ?_;rintro _ a⟨rfl,r,rfl,p⟩;refine aG @p ?_
 all_goals exact⟨a,θ,rfl⟩
def mG(a:List ϊ)(b:Nat):Bool:=kd (a.getD b [])&&(!decide (a.getD b []=[105,100])&& !decide (a.getD b []∈a.take b))
def nL(a:List ϊ):Bool:=(ω (α a)).all (mG a)&&decide (1<=α a/\α a<=7)
theorem z7(a:e<α e4)(b:mG e4 e=ι):nL e4=false:=by grind[nL,Bool.and_eq_false_iff,List.all_eq_false]
theorem a1F(b:∀a,a<α e4->mG e4 a=η):nL e4=decide (1<=α e4/\α e4<=7):=by
 have:(ω (α e4)).all (mG e4)=true:=by simp_all
 rw[nL,this,a8S]
theorem a1G(a:List ϊ)(x:Own)(n:α a<=1000000)(V:∀W∈a,α W<=1000000)(c:U):
  AC γ 98 [.J (bM a) x] c λe E=>E=c/\e=.v (.bool (nL a)):=by
 refine bd hm O7 ς ?_;have y:=iZ (e4:=a);refine aG @y ?_;refine cm (λr E=>∃b:Nat,b<=α a/\E=c/\(∀z,z<b->mG a z=η)/\r 0=.J (bM a) x/\r 5=.J (bM a) x/\r 6=.v (.int .i64 (α a))/\r 7=.v (.int .i64 b))
  (λr _=>match r 7 with|.v (.int _ f)=>(α a - f).toNat|_=>0) ⟨0,δ,rfl,λz g=>by omega,?_⟩ ?_
 .exact qY
 .rintro r c⟨b,q,rfl,i,h,k,o,p⟩;by_cases C:(b:Int)<α a
  .have D:b<α a:=δ;have j:=ts D;have l:a.getD b []∈a:=by simp_all
   have P:mG a b=(kd (a.getD b [])&&(!decide (a.getD b []=[105,100])&& !decide (a.getD b []∈a.take b))):=rfl;generalize a.getD b []=d at*;refine aG (bw @h @k @o @p @C @gp @j @z6) ?_;refine ah (FE d (V d l) c) ?_;rintro _ c⟨rfl,rfl⟩;cases S:kd d
   .refine aG (aL @h @k @o @p) ?_;exact⟨c,θ,rfl,by rw[z7 D (by rw[P,S];rfl)]⟩
   .have s:(bM a).take b=bM (a.take b):=by simp[bM]
    by_cases F:d=[105,100]
    .have G:jn .eql (bo d) (.v (.string ⟨#[105,100]⟩))=β (.v (.bool η)):=by have:=qW (a:=d) (b:=[105,100]);rw[decide_eq_true F]at this;exact this
     refine aG (bh @h @k @o @p @G) ?_;exact⟨c,θ,rfl,by rw[z7 D (by rw[P,S,decide_eq_true F];rfl)]⟩
    .have G:jn .eql (bo d) (.v (.string ⟨#[105,100]⟩))=β (.v (.bool ι)):=by have:=qW (a:=d) (b:=[105,100]);rw[decide_eq_false F]at this;exact this
     have m:dT 1 (.J (bM a) x) ζ (β (.v (.int .i64 (b))))=β (.J (bM (a.take b)) .any):=by grind[og,aY,bM,bo,σ,Int.toNat_natCast]
     refine aG (bz @h @k @o @p @G @m) ?_;refine ah (a1E (a.take b) _ d (by rw[a7q];omega) c) ?_;rintro _ c⟨rfl,rfl⟩;by_cases T:d∈a.take b
     .refine aG (bh @h @k @o @p @T) ?_;exact⟨c,θ,rfl,by rw[z7 D (by simp_all)]⟩
     .refine aG (bh @h @k @o @p @T) ?_;refine⟨⟨b+1,δ,λz g=>?_,ς⟩,δ⟩;grind
  .obtain rfl:b=α a:=δ;have L:=a1F i;by_cases d1:(1:Int)<=α a
   .by_cases d2:(α a:Int)<=7
    .refine aG (bw @h @k @o @p @C @y @d1 @d2) ?_;exact⟨c,θ,rfl,by rw[L];simp;omega⟩
    .refine aG (bw @h @k @o @p @C @y @d1 @d2) ?_;exact⟨c,θ,rfl,by rw[L];simp;omega⟩
   .refine aG (c7 @h @k @o @p @C @y @d1) ?_;exact⟨c,θ,rfl,by rw[L];simp;omega⟩
structure dt where
 kind:UInt8
 table:ϊ
 aD:List ϊ
 row:Ω
structure du where
 d:dt
 gD:Own
 dv:Own
def du.C(a:du):ύ:=[aj a.d.kind,bo a.d.table,.J (bM a.d.aD) a.gD,.J (ad a.d.row) a.dv]
def du.V(a:du):R:=.agg a.C
def du.a1H{a:du}:α a.C=4:=rfl
def du.m1{a:du}:aM ι 1 (a.C.drop 1)=bo a.d.table:=rfl
def du.m2{a:du}:aM ι 1 (a.C.drop 2)=.J (bM a.d.aD) a.gD:=rfl
def du.m3{a:du}:aM ι 1 (a.C.drop 3)=.J (ad a.d.row) a.dv:=rfl
def dt.ok(a:dt):Prop:=α a.table<=16/\α a.aD<=8/\(∀b∈a.aD,α b<=16)/\α a.row<=255
def fb(a:dt):Bool:=kd a.table&&
  (if a.kind.toNat=1 then nL a.aD&&decide (α a.row=0)
   else if a.kind.toNat=2 then decide (α a.aD=0)&&decide (α a.row=0)
   else if a.kind.toNat=3\/a.kind.toNat=4 then decide (α a.aD=0)&&(decide (2<=α a.row)&&decide (α a.row<=8))
   else ι)
structure dt.Fit(d:dt):Prop where
 t:α d.table<=1000000
 c:α d.aD<=1000000
 cs:∀c∈d.aD,α c<=1000000
 r:α d.row<=1000000
def FF(a:du)(k:a.d.Fit)(b:U):
  AC γ 54 [a.V] b λo p=>p=b/\o=.v (.bool (fb a.d)):=by
 obtain⟨⟨r,d,c,h⟩,x,y⟩:=a;obtain⟨z,C,D,G⟩:=k;have L:=iZ (e4:=c);have P:=bN (q:=h);show AC _ _ [.agg [aj r,bo d,.J (bM c) x,.J (ad h) y]] b _;refine aK hm MH ?_;refine bs λS T=>?_;refine bp (FE d z _) ?_;refine aF (λE=>?_) λE=>?_
 .rw[fb];exact aR
 refine aF (λF=>?_) λF=>?_
 .refine bp (a1G c _ C D _) ?_
  repeat' first|refine aF (λ_=>?_) λ_=>?_|trivial
  all_goals (rw[fb];exact aR)
 repeat' first|refine aF (λ_=>?_) λ_=>?_|trivial
 all_goals (rw[fb];exact aR)
def nM(b:Nat)(a:UInt8):Bool:=(decide (97<=a.toNat)&&decide (a.toNat<=122))||(!decide (b=0)&&((decide (48<=a.toNat)&&decide (a.toNat<=57))||decide (a.toNat=95)))
def nN(a:ϊ):Bool:=(ω (α a)).all (λb=>nM b (a.getD b 0))&&(decide (0<α a)&&decide (α a<17))
def FG(a:ϊ)(d:U)(y:α a<=1000000):
  AC γ 109 [bo a] d λp h=>h=d/\p=.v (.bool (nN a)):=by
 refine aK hm Ox ?_;refine cc [0] (λb:Nat=>[(3,.v (.int .i64 b))]) (λb h=>h=d/\b<=α a/\∀c<b,nM c (a.getD c 0)=η) (λb=>α a - b) 0 ?_ ?_
 .refine aa ?_;simp
 rintro b _⟨rfl,z,k⟩C;refine aa ?_;refine aF (λr=>?_) λr=>?_
 .have x:nM b (a.getD b 0)=ι->nN a=false:=λo=>by rw[nN,sB δ o];rfl
  repeat' first|refine aF (λ_=>?_) λ_=>?_|trivial
  all_goals first
   |omega
   |(rw[x (by rw[nM];exact r0)])
   |exact⟨b+1,⟨δ,upto k (by rw[nM];exact r0)⟩,rfl,δ⟩
 have D:nN a=(decide (0<α a)&&decide (α a<17)):=by rw[nN,sC λc o=>k c δ];rfl
 repeat' first|refine aF (λ_=>?_) λ_=>?_|trivial
 all_goals exact aR
def lN(a:List ϊ)(b:Nat):Bool:=nN (a.getD b [])&&(!decide (a.getD b []=[105,100])&&(ω b).all λc=> !decide (a.getD c []=a.getD b []))
def z8(a:List ϊ):Bool:=(ω (α a)).all (lN a)
def oS(a:dt):Bool:=nN a.table&&
  (if a.kind.toNat=1 then z8 a.aD&&(decide (0<α a.aD)&&(decide (α a.aD<8)&&decide (α a.row=0)))
   else if a.kind.toNat=2 then decide (α a.aD+α a.row=0)
   else(decide (a.kind.toNat=3)||decide (a.kind.toNat=4))&&(decide (α a.aD=0)&&(decide (1<α a.row)&&decide (α a.row<9))))
theorem a1I(h:du)(E:h.d.Fit)(k:U):
  AC γ 59 [h.V] k λF G=>G=k/\F=.v (.bool (oS h.d)):=by
 obtain⟨⟨x,o,b,p⟩,L,P⟩:=h;obtain⟨y,S,z,T⟩:=E
 dsimp only at y S z T|-
 have l:=iZ (e4:=b);have m:=bN (q:=p);show AC _ _ [.agg [.v (.int .u8 x.toNat),bo o,.J (bM b) L,.J (ad p) P]] k _;refine aK hm MR ?_;refine bs λn q=>?_;refine bp (FG o _ y) ?_;refine aF (λV=>?_) λV=>?_
 .rw[oS];exact aR
 refine aF (λW=>?_) λW=>?_
 .have s:z8 b=(ω (α b)).all (lN b):=rfl;have t:=@ts b;have u:∀r,jn .eql (bo r) (.v (.string ⟨#[105,100]⟩))=β (.v (.bool (decide (r=[105,100])))):=λr=>qW;have e:∀a,a<α b->(b.getD a []).length<=1000000:=λa f=>z _ (by simp_all);refine gv [1] (λa:Nat=>[(3,.v (.int .i64 a))]) (λa=>a<=α b/\∀d<a,lN b d=η) (λa=>α b - a) 0 ⟨δ,λd C=>by omega⟩ (aO) ?_;rintro a⟨f,g⟩i;refine aa ?_;refine aF (λc2=>?_) λc2=>?_
  .have D:lN b a=ι->oS ⟨x,o,b,p⟩=false:=λC=>by grind[oS,sB]
   refine bp (FG _ _ (e a δ)) ?_
   repeat' first|refine aF (λ_=>?_) λ_=>?_|trivial
   .exact aV (D (by rw[lN];simp_all)).symm
   .refine gv [1,3] (λc:Nat=>[(4,.v (.int .i64 c))]) (λc=>c<=a/\∀d<c,b.getD d []≠b.getD a []) (λc=>a - c) 0 ⟨δ,λd C=>by omega⟩ (aO) ?_;rintro c⟨v,j⟩i;refine aa ?_;refine aF (λaE=>?_) λaE=>?_
    .refine aF (λaL=>?_) λaL=>?_;grind[aV,lN,sB]
     .exact⟨c+1,⟨δ,upto j aL⟩,rfl,δ⟩
    .refine⟨a+1,⟨δ,upto g ?_⟩,rfl,δ⟩;grind[lN,sC]
   .exact aV (D (by rw[lN];simp_all)).symm
  repeat' first|refine aF (λ_=>?_) λ_=>?_|trivial
  all_goals grind[oS,sC,aR]
 repeat' first|refine aF (λ_=>?_) λ_=>?_|trivial
 all_goals (rw[oS];exact aR)
theorem a1J(b a:Nat)(h:b<18446744073709551616)(k:0<a):bt .quo (.int .u64 b) (.int .u64 (a:Int))=β (.int .u64 ((b/a:Nat):Int)):=by have c:bt .quo (.int .u64 b) (.int .u64 (a))=(if(a:Int)=0 then ζ else β (.int .u64 (IntKind.u64.wrap ((b:Int).tdiv (a:Int))))):=rfl;have d:((b:Int).tdiv (a:Int))=((b/a:Nat)):=rfl;have o:=aac b a;rw[c,if_neg δ,d];grind[wrap_u64]
def za(b a:Nat)(d:0<a):bt .rem (.int .u64 b) (.int .u64 (a:Int))=β (.int .u64 ((b%a:Nat):Int)):=by have c:bt .rem (.int .u64 b) (.int .u64 (a))=(if(a:Int)=0 then ζ else β (.int .u64 ((b:Int).tmod (a:Int)))):=rfl;rw[c,if_neg δ];rfl
variable{t Z:R -> U -> Prop}
theorem ru{h:cy t}(p:av s f 1 (j4.map aj) n)(a:bW f 1 b5=β (e,w.map aj))(r:α j4+α w<=70368744177664)
  (x:∀c d,av s d 1 ((j4++w).map aj) c->t c d):jS 1 1 f n b5 (bX t h):=by
 have y:α w=e:=by
  unfold bW at a;split at a
  .split at a
   .rename_i z _ C;simp only[a7y,a8x]at a;have b:=congrArg α a.2;rw[cU (d:=1) (by simp_all)]at b;simp at b;omega
   .cases a
  .split at a
   .split at a
    .rename_i k _ o;simp only[a7y,a8x]at a;have b:=congrArg α a.2;simp at b;omega
    .cases a
   .cases a
  .split at a
   .split at a
    .rename_i k _ o;simp only[a7y,a8x]at a;have b:=congrArg α a.2;simp at b;omega
    .cases a
   .cases a
  .cases a
 grind[fj]
end Go.Proofs.YtcfpcblgmmeioaaGreat
