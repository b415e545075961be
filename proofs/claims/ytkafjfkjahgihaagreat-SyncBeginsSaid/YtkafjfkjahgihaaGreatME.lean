import Derived.Test.YtkafjfkjahgihaaGreatMD
set_option linter.all false
open Option renaming some->β,none->ε
open Go.Proofs.Tryz renaming prog->γ
open List renaming replicate->δ,range->χ,length_append->ω,take_of_length_le->Γ,drop_eq_getElem_cons->Θ,length->α
open Bool renaming true->ζ,false->θ
open Go.bD.U renaming a1->η,ad->ι,ae->κ,aj->μ,an->ξ,ao->ο,set_set->ς,aI->τ,bJ->Ι
open UInt8 renaming ofNat->ν
open BitVec renaming ofInt->π
open Go.bD.R renaming cells->ρ
open Go.Proofs.YtkafjfkjahgihaaGreat.isRow renaming cells->υ
open Go.Proofs.YtkafjfkjahgihaaGreat.Ext renaming of->ψ
open Prod renaming fst->Α
open Go.Proofs.YtkafjfkjahgihaaGreat.bC renaming cells->Κ
open Go.bD.bf renaming nil->Ν
set_option maxRecDepth 100000
namespace Go.Proofs.YtkafjfkjahgihaaGreat
open Go Go.bD
theorem a0E(a b:au):(decide (a=b))=(decide (a.sum=b.sum)&&decide (a.live=b.live)&&decide (a.size=b.size)&&(decide (a.aV=b.aV)&&decide (a.aU=b.aU))&&decide (a.key=b.key)):=by obtain⟨c,d,h,k,o,p⟩:=a;obtain⟨r,x,y,z,C,D⟩:=b;grind
variable{w j8:Υ}
def vy:peq (.agg (w.map ah)) (.agg (j8.map ah))=decide (w=j8):=by rw[<-Bool.coe_iff_coe,qR,decide_eq_true_eq];exact⟨λa=>vm a,λa=>by rw[a]⟩
theorem Ex(a b:au)(h k o p r x:Own)(e:U)(g:α a.sum=32)(i:α b.sum=32)(c:a.live=b.live->a.cE):
  AC γ 218 [.agg (ab a h k o),.agg (ab b p r x)] e λu v=>v=e/\u=.v (.bool (decide (a=b))):=by
 have j:=aT (M:=h) (e7:=k) (j0:=o) g;have l:=aT (M:=p) (e7:=r) (j0:=x) i;rw[a0E];generalize ab a h k o=w at j;generalize ab b p r x=A at l;obtain⟨y,O,a3,a4,_,dB,z,Q⟩:=j;obtain⟨C,X,D,E,_,F,G,Y⟩:=l;refine bg hm Ro acr ?_;have d:∀m,(R.agg m).cells=m:=λ_=>rfl;refine aa ?_;refine aN λB H=>?_;refine aa ?_;refine aN λn L=>?_;have f:B≠n:=by rintro rfl;rw[μ]at L;cases L
 have I:=Δ f;have K:e n=none:=by rw[ξ _ _ I]at L;exact L
 have Z:=κ (Z:=.cells A) (κ (Z:=.cells w) (η) H) K;have P:di [(32,.int .u8)] (a.sum.map ah):=p3 g;have S:di [(32,.int .u8)] (b.sum.map ah):=p3 i;have T:∀q s M f N:R,List.take 2 [q,s,M,f,N]=[q,s]:=λ_ _ _ _ _=>rfl;by_cases V:a.sum=b.sum
 .by_cases W:a.live=b.live
  .by_cases t:a.size=b.size
   .have c:=c W;simp -dsimp -implicitDefEqProofs (disch:=first|omega|assumption|(simp only[aX,Nat.reduceAdd];try omega)) only[go_sem,simprocAttr,-List.reduceReplicate,d,a3,D,P,S,vy,V,W,t,y,C,dB,F,z,G,a4,E,T,aaM];refine ag (a0y _ a.aV a.aU b.aV b.aU h k p r c.aV c.aU) ?_;rintro _ _⟨rfl,rfl⟩;cases k3:(decide (a.aV=b.aV)&&decide (a.aU=b.aU))with
    |true=>refine aa ?_;refine ag (lH a.key b.key o x _ c.key) ?_;rintro _ _⟨rfl,rfl⟩;refine bX ?_;simp_all
    |false=>refine al @d ?_;simp_all
   .simp -dsimp -implicitDefEqProofs (disch:=first|omega|assumption|(simp only[aX,Nat.reduceAdd];try omega)) only[go_sem,simprocAttr,-List.reduceReplicate,d,a3,D,P,S,vy,V,W,t,y,C,dB,F,z,G,a4,E,T,aaM];simp_all
  .simp -dsimp -implicitDefEqProofs (disch:=first|omega|assumption|(simp only[aX,Nat.reduceAdd];try omega)) only[go_sem,simprocAttr,-List.reduceReplicate,d,a3,D,P,S,vy,V,W,y,C,dB,F,z,G,a4,E,T,aaM];simp_all
 .simp -dsimp -implicitDefEqProofs (disch:=first|omega|assumption|(simp only[aX,Nat.reduceAdd];try omega)) only[go_sem,simprocAttr,-List.reduceReplicate,d,a3,D,P,S,vy,V,y,C,dB,F,z,G,a4,E,T,aaM];simp_all
def mL(a:au)(c d h:Own)(k:U)(o:α a.sum=32)(x:a.live=0->a.cE):
  AC γ 165 [.agg (ab a c d h)] k λy z=>z=k/\y=.v (.bool (decide (a=aw))):=by
 have b:=aT (M:=c) (e7:=d) (j0:=h) o;refine bg hm PO acr ?_;have p:∀r,(R.agg r).cells=r:=λ_=>rfl;have E:=b.len;have C:(δ 32 (R.v (.int .u8 0))++[R.J [] .nil,.J [] .nil]++[R.v (.int .i64 0),.v (.int .i64 0)]++[R.J [] .nil])=ab aw .nil .nil .nil:=by rw[show δ 32 (R.v (.int .u8 0))=(δ 32 (0)).map ah by rw[abu];rfl];simp only[a8w];rfl
 refine al (c2 @p b.len) ?_;refine aN λF D=>?_;refine al (aP @p b.len b.t37 @C) ?_;refine ag (Ex a aw c d h .nil .nil .nil _ o rfl x) ?_;rintro _ _⟨rfl,rfl⟩;refine bX ?_;exact⟨k,κ η D,rfl⟩
theorem yI(a:au)(p r y:Own)(c:Nat)(z:U)(g:c<=1000000000000)(E:α a.sum=32)(i:a.cE):
  AC γ 164 [.agg (ab a p r y),.v (.int .i64 (c:Int))] z λj l=>l=z/\j=.v (.bool (fb c a)):=by
 have F:=aT (M:=p) (e7:=r) (j0:=y) E;have G:=λz=>mL a p r y z E λ_=>i;generalize ab a p r y=m at F G;obtain⟨d,t,a3,a4,a5,dB,h,u⟩:=F;refine bg hm PM acr ?_;have k:∀L,(R.agg L).cells=L:=λ_=>rfl;have P:=bM (t:=a.aV);have S:=bM (t:=a.aU);refine aa ?_;refine aN λv n=>?_;have w:=κ (Z:=.cells m) (η) n;refine aa ?_;refine ag (G _) ?_;rintro _ _⟨rfl,rfl⟩;have A:∀T V q c s:R,List.take 2 [T,V,q,c,s]=[T,V]:=λ_ _ _ _ _=>rfl;unfold fb;by_cases b:a=aw
 .refine al @b ?_;simp_all
 by_cases o:a.size<1
 .simp -dsimp -implicitDefEqProofs (disch:=first|omega|assumption|(simp only[aX,Nat.reduceAdd];try omega)) only[go_sem,simprocAttr,-List.reduceReplicate,b,o,k,d,dB,h];simp_all
 by_cases x:(1048576)<a.size
 .simp -dsimp -implicitDefEqProofs (disch:=first|omega|assumption|(simp only[aX,Nat.reduceAdd];try omega)) only[go_sem,simprocAttr,-List.reduceReplicate,b,o,x,k,d,dB,h];simp_all
 by_cases C:a.live<0
 .simp -dsimp -implicitDefEqProofs (disch:=first|omega|assumption|(simp only[aX,Nat.reduceAdd];try omega)) only[go_sem,simprocAttr,-List.reduceReplicate,b,o,x,C,k,d,dB,h];simp_all
 by_cases D:a.size<a.live
 .simp -dsimp -implicitDefEqProofs (disch:=first|omega|assumption|(simp only[aX,Nat.reduceAdd];try omega)) only[go_sem,simprocAttr,-List.reduceReplicate,b,o,x,C,D,k,d,dB,h];simp_all
 by_cases W:a.live=0
 .have e:¬a.size<0:=acq;by_cases f:(α a.aV:Int)=0
  .simp -dsimp -implicitDefEqProofs (disch:=first|omega|assumption|(simp only[aX,Nat.reduceAdd];try omega)) only[go_sem,simprocAttr,-List.reduceReplicate,b,o,x,C,D,W,f,e,k,d,a4,a5,dB,h,P,S];simp_all
  .simp -dsimp -implicitDefEqProofs (disch:=first|omega|assumption|(simp only[aX,Nat.reduceAdd];try omega)) only[go_sem,simprocAttr,-List.reduceReplicate,b,o,x,C,D,W,f,e,k,d,a4,a5,dB,h,P,S];simp_all
 .refine aa ?_;refine ag (p6 _ a.aV a.aU p r c g) ?_;rintro _ _⟨rfl,rfl⟩;refine bX ?_;simp_all
theorem a0F(b:Nat)(a:Τ×Bool)(h:R)(r:cZ a h)(c:U)(d:Nat)(k:c.read d=β [.v (.int .i64 (b:Int))]):
  AC γ 334 [h,.ptr d 0] c λx y=>y=c/\x=.v (.bool (decide (α a.1=b))):=by
 obtain⟨F,rfl⟩:=r;refine bg hm TX acr ?_;have z:∀o,(R.agg o).cells=o:=λ_=>rfl;have C:=bM (t:=a.1);refine aa ?_;refine aN λD p=>?_;have G:d≠D:=by rintro rfl;simp[U.read,p]at k
 refine al (aD @z @C @k) ?_;have E:decide ((α a.1:Int)=b)=decide (α a.1=b):=by grind
 exact⟨c,κ η p,rfl,by rw[E]⟩
def a0G(a:Nat)(E:a<=1000000000000)(c:au)(h:R)(F:bC c h)(b:U)(d:Nat)(k:b.read d=β [.v (.int .i64 (a:Int))]):
  AC γ 336 [h,.ptr d 0] b λG L=>L=b/\G=.v (.bool (fb a c)):=by
 obtain⟨o,P,p,r,x,rfl⟩:=F;refine bg hm U1 acr ?_;have y:∀z,(R.agg z).cells=z:=λ_=>rfl;have C:=aT (M:=p) (e7:=r) (j0:=x) o;have T:=C.len;refine al @y ?_;refine aN λS D=>?_;have V:d≠S:=by rintro rfl;simp[U.read,D]at k
 refine al (aD @y @k C.t37) ?_;refine ag (yI c p r x a _ E o P) ?_;rintro _ _⟨rfl,rfl⟩;refine bX ?_;exact⟨b,κ η D,rfl⟩
def a0H(a:au)(c:R)(k:bC a c)(b:U):
  AC γ 337 [c] b λo p=>p=b/\o=.v (.bool (decide (α a.key=0))):=by
 obtain⟨r,G,x,y,z,rfl⟩:=k;refine bg hm U3 acr ?_;have C:∀d,(R.agg d).cells=d:=λ_=>rfl;have h:=aT (M:=x) (e7:=y) (j0:=z) r;have L:=h.len;have D:=bM (t:=a.key);refine aa ?_;refine aN λP E=>?_;refine al (aD @C h.d36 @D) ?_;have F:decide ((α a.key:Int)=0)=decide (α a.key=0):=by simp
 exact⟨b,κ η E,rfl,by rw[F]⟩
def a0I(b:Τ×Bool)(c:R)(h:cZ b c)(a:U):
  AC γ 338 [c] a λk o=>o=a/\k=.v (.bool b.2):=by
 obtain⟨x,rfl⟩:=h;refine bg hm U5 acr ?_;have p:∀d,(R.agg d).cells=d:=λ_=>rfl;refine aa ?_;refine aN λy r=>?_;refine al @p ?_;exact⟨a,κ η r,rfl⟩
def a0J(b:Nat)(a:au)(r:R)(L:bC a r)(c:U)(h:Nat)(k:c.read h=β [.v (.int .i64 (b:Int))]):
  AC γ 339 [r,.ptr h 0] c λP S=>S=c/\P=.v (.bool (decide (α a.key=b)&& !decide (a=aw))):=by
 obtain⟨x,T,y,z,C,rfl⟩:=L;refine bg hm U7 acr ?_;have D:∀E,(R.agg E).cells=E:=λ_=>rfl;have d:=aT (M:=y) (e7:=z) (j0:=C) x;have W:=d.len;have F:=bM (t:=a.key);refine aa ?_;refine aN λV o=>?_;have e:h≠V:=by rintro rfl;simp[U.read,o]at k
 by_cases G:(α a.key:Int)=b
 .have p:α a.key=b:=acq;simp -dsimp -implicitDefEqProofs (disch:=first|omega|assumption|(simp only[aX,Nat.reduceAdd];try omega)) only[go_sem,simprocAttr,-List.reduceReplicate,D,k,d.t37,d.d36,F,G];refine ag (mL a y z C _ x λ_=>T) ?_;rintro _ _⟨rfl,rfl⟩;refine bX ?_;exact⟨c,κ η o,rfl,by simp[p]⟩
 .have p:¬α a.key=b:=acq;simp -dsimp -implicitDefEqProofs (disch:=first|omega|assumption|(simp only[aX,Nat.reduceAdd];try omega)) only[go_sem,simprocAttr,-List.reduceReplicate,D,k,d.t37,d.d36,F,G];exact⟨c,κ η o,rfl,by simp[p]⟩
structure fM(a:U)(n:c4)(x y:R)(b c:Ψ):Prop where
 rows:aB cZ n.rows b
 kids:aB bC n.kids c
 mr:bS a 2 x b
 gH:bS a 37 y c
 kM:α n.rows<=100000
 ig:α n.kids<=100000
def fM.mono{b c:U}{d:c4}{h k:R}{o p:Ψ}(a:fM b d h k o p)(r:b.sub c):fM c d h k o p:=⟨a.rows,a.kids,a.mr.mono r,a.gH.mono r,a.kM,a.ig⟩
variable{n b6:R}{f s e5:U}{g B e1:Ψ}{c0:c4}
def fM.hc(a:fM f c0 n b6 g B):fk n=β (.v (.int .i64 (α c0.rows))):=by rw[a.mr.len,a.rows.len]
def fM.tw(a:fM f c0 b6 n g B):fk n=β (.v (.int .i64 (α c0.kids))):=by rw[a.gH.len,a.kids.len]
abbrev gO(a:c4)(b c:R):R:=.agg [.v (.int .u8 (a.kind.toNat:Int)),b,c]
theorem iP(b:UInt8)(a:Nat)(c:a<256):(decide ((b.toNat:Int)=(a:Int)))=decide (b=ν a):=by grind[ν,UInt8.toNat_inj,UInt8.toNat_ofNat']
theorem Ey(a:c4)(m g:Ψ)(c G:R)(b:Nat)(k5:1<=b)(k6:b<=8)(V:U)(p:fM V a c G m g):
  AC γ 292 [gO a c G,.v (.int .i64 (b:Int))] V λC d=>d=V/\C=.v (.bool (dZ b a)):=by
 have D:=p.hc;have E:=p.tw;have k7:=p.kM;have k8:=p.ig;refine bg hm T7 acr ?_;have k9:∀q,(R.agg q).cells=q:=λ_=>rfl;refine aa ?_;refine aN λi O=>?_;refine aa ?_;refine aN λh j=>?_;have k:i≠h:=by rintro rfl;rw[μ]at j;cases j
 have o:=Δ k;have Q:V h=none:=by rw[ξ _ _ o]at j;exact j
 have W:=κ (Z:=.cells [.v (.int .i64 (b))]) (κ (Z:=.cells [.v (.int .u8 (a.kind.toNat)),c,G]) (η) O) Q;have c2:((V.set i (.cells [.v (.int .u8 (a.kind.toNat)),c,G])).set h (.cells [.v (.int .i64 (b))])) i=β (.cells [.v (.int .u8 (a.kind.toNat)),c,G]):=by rw[ξ _ _ k,μ]
 have aD:((V.set i (.cells [.v (.int .u8 (a.kind.toNat)),c,G])).set h (.cells [.v (.int .i64 (b))])) h=β (.cells [.v (.int .i64 (b))]):=μ _ _ _;have r:¬(b:Int)<1:=acq;have x:¬(8)<(b:Int):=acq;refine aa ?_;have X:∀y:U,y h=β (.cells [.v (.int .i64 (b:Int))])->(hb cZ y 334 [] [.ptr h 0] λC=>decide (α C.1=b))/\hb bC y 336 [] [.ptr h 0] (fb b)/\(hb bC y 337 [] [] λL=>decide (α L.key=0))/\(hb cZ y 338 [] [] λC=>C.2)/\(hb bC y 339 [] [.ptr h 0] λL=>decide (α L.key=b)&& !decide (L=aw)):=by intro y aD;have n:∀d,y.sub d->d.read h=β [.v (.int .i64 (b))]:=λd P=>ι (P _ _ aD);have s:hb cZ y 334 [] [.ptr h 0] λC=>decide (α C.1=b):=⟨acw,λc S d T P=>a0F b c S T d h (n d P)⟩;have t:hb bC y 336 [] [.ptr h 0] (fb b):=⟨acw,λc S d T P=>a0G b acq c S T d h (n d P)⟩;have u:hb bC y 337 [] [] λL=>decide (α L.key=0):=⟨acw,λc S d T P=>a0H c S T d⟩;have v:hb cZ y 338 [] [] λC=>C.2:=⟨acw,λc S d T P=>a0I c S T d⟩;have w:hb bC y 339 [] [.ptr h 0] λL=>decide (α L.key=b)&& !decide (L=aw):=⟨acw,λc S d T P=>a0J b c S T d h (n d P)⟩;simp_all
 obtain⟨s,t,u,v,w⟩:=X _ aD;refine aa ?_;refine ag (Ew a.rows m c _ p.rows (p.mr.mono W) acq s) ?_;rintro _ _⟨rfl,rfl⟩;unfold dZ;cases l0:a.rows.all (λC=>decide (α C.1=b))with
 |false=>refine al (bz @r @x (ι c2) (ι aD) @ξ @k @o @a8U) ?_;simp_all
 |true=>
 refine aa ?_;refine ag (yH a.kids g G _ p.kids (p.gH.mono W) acq t) ?_;rintro _ _⟨rfl,rfl⟩;cases l1:a.kids.all (fb b)with
 |false=>refine al (bz @r @x (ι c2) (ι aD) @ξ @k @o @a8U) ?_;simp_all
 |true=>
 have Y:=iP a.kind 1 acq;have Z:=iP a.kind 2 acq;have k3:=iP a.kind 3 acq;simp only[ab2]at Y Z k3;by_cases A:a.kind=1
 .have B:((a.kind.toNat:Int)=1)=True:=by rw[A];simp
  refine aa ?_;by_cases z:(α a.rows:Int)=1
  .by_cases F:(α a.kids:Int)=2
   .refine al (gV @r @x (ι c2) (ι aD) @ξ @k @o @a9d @z @F @D @E) ?_;refine ag (yH a.kids g G _ p.kids (p.gH.mono W) acq u) ?_;rintro _ _⟨rfl,rfl⟩;refine bX ?_;have e:α a.rows=1:=acq;have l:α a.kids=2:=acq;simp_all
   .have l:¬α a.kids=2:=acq;refine al (gV @r @x (ι c2) (ι aD) @ξ @k @o @a9d @z @F @D @E) ?_;simp_all
  .have e:¬α a.rows=1:=acq;refine al (gk @r @x (ι c2) (ι aD) @ξ @k @o @a9d @z @D @E) ?_;simp_all
 have B:¬(a.kind.toNat:Int)=1:=λH=>A (by simp_all);by_cases I:a.kind=2
 .have K:((a.kind.toNat:Int)=2)=True:=by rw[I];simp
  refine aa ?_;by_cases z:(1:Int)<=α a.rows
  .by_cases F:(α a.rows:Int)<=4
   .by_cases f:(α a.kids:Int)=0
    .refine al (lE @r @x (ι c2) (ι aD) @ξ @k @o @a9d @D @E @z @F @f) ?_;refine ag (Ew a.rows m c _ p.rows (p.mr.mono W) acq v) ?_;rintro _ _⟨rfl,rfl⟩;refine bX ?_;have e:1<=α a.rows:=acq;have l:α a.rows<=4:=acq;simp_all
    .have k4:¬α a.kids=0:=acq;refine al (lE @r @x (ι c2) (ι aD) @ξ @k @o @a9d @D @E @z @F @f) ?_;simp_all
   .have l:¬α a.rows<=4:=acq;refine al (gV @r @x (ι c2) (ι aD) @ξ @k @o @a9d @D @E @z @F) ?_;grind
  .have e:¬1<=α a.rows:=acq;refine al (gk @r @x (ι c2) (ι aD) @ξ @k @o @a9d @D @E @z) ?_;simp_all
 have K:¬(a.kind.toNat:Int)=2:=λH=>I (by simp_all);by_cases M:a.kind=3
 .have N:((a.kind.toNat:Int)=3)=True:=by rw[M];simp
  refine aa ?_;by_cases z:(α a.rows:Int)=0
  .by_cases F:(2:Int)<=α a.kids
   .by_cases f:(α a.kids:Int)<=4
    .refine al (lE @r @x (ι c2) (ι aD) @ξ @k @o @a9d @D @E @z @F @f) ?_;refine ag (yH a.kids g G _ p.kids (p.gH.mono W) acq w) ?_;rintro _ _⟨rfl,rfl⟩;refine bX ?_;have e:α a.rows=0:=acq;grind
    .have k4:¬α a.kids<=4:=acq;refine al (lE @r @x (ι c2) (ι aD) @ξ @k @o @a9d @D @E @z @F @f) ?_;grind
   .have l:¬2<=α a.kids:=acq;refine al (gV @r @x (ι c2) (ι aD) @ξ @k @o @a9d @D @E @z @F) ?_;grind
  .have e:¬α a.rows=0:=acq;refine al (gk @r @x (ι c2) (ι aD) @ξ @k @o @a9d @D @E @z) ?_;simp_all
 have N:¬(a.kind.toNat:Int)=3:=λH=>M (by simp_all);refine al (gk @r @x (ι c2) (ι aD) @ξ @k @o @a9d @B @K @N) ?_;simp_all
def rF{b k:Type}{c:b->List k}{d:Nat}:∀ {l:List b},(∀a∈l,(c a).length<=d)->(l.flatMap c).length<=α l*d
 |[],_=>by simp
 |a::l,h=>by
  have r:=h a acr;have x:=rF (l:=l) λo p=>h o (by simp[p]);rw[a8I,Ρ,a8m,a9s];omega
structure au.hA(k:au):Prop where
 aV:α k.aV<=8
 aU:α k.aU<=8
 key:α k.key<=8
 nP:0<=k.live
 live:k.live<=1048576
 nQ:0<=k.size
 size:k.size<=1048576
variable{t b8:Τ}{e i v O e0 j6:Nat}
theorem lI(a:cS t b8 e=ζ):α t=e/\α b8=e/\1<=e/\e<=8:=by simp_all [cS]
variable{A j9:au}
theorem rG(a:fb e A=ζ):α A.aV<=8/\α A.aU<=8/\0<=A.live/\A.live<=1048576/\0<=A.size/\A.size<=1048576:=by
 unfold fb at a;rw[a9U]at a;rcases a with a|a
 .have:=of_decide_eq_true a;subst this;simp[aw]
 .simp only[Ξ,a9M,ac9,decide_eq_false_iff_not]at a;obtain⟨c,b⟩:=a;have:α A.aV<=8/\α A.aU<=8:=by
   split at b;simp_all
   .have:=lI b;omega
  omega
theorem vz(o:e<=8)(a:dZ e c0=ζ):∀b∈c0.kids,b.hA:=by intro b c;unfold dZ at a;simp only[Ξ,a8A]at a;obtain⟨⟨_,d⟩,p⟩:=a;obtain⟨h,k,a3,a4,a5,dB⟩:=rG (d b c);refine⟨h,k,?_,a3,a4,a5,dB⟩;grind
def yJ{a:Τ×Bool}(b:α a.1<=8):(gL a).length<=100:=by simp[gL,yx];omega
def tx(b:α A.sum=32)(a:A.hA):(dN A).length<=300:=by have c:=a.aV;have d:=a.aU;have h:=a.key;simp[dN,yx,kL,b];omega
theorem yK(a:c4)(l3 l4:Ψ)(z C:R)(D:Nat)(a08:1<=D)(l5:D<=8)(s:U)(E:fM s a z C l3 l4):
  AC γ 233 [gO a z C,.v (.int .i64 (D:Int))] s λh o=>s.sub o/\match tq D a with
   |none=>h=.aJ [.J [] .nil,.v (.int .i64 1)]
   |some F=>∃a09,h=.aJ [.J (F.map ah) a09,.v (.int .i64 0)]:=by
 have l6:=E.hc;have l7:=E.tw;have a94:=E.kM;have a95:=E.ig;refine bg hm Ry acr ?_;have K:∀k4,(R.agg k4).cells=k4:=λ_=>rfl;have a96:∀y F S,aQ ζ 3 [y,F,S]=.agg [y,F,S]:=λ_ _ _=>rfl;have a10:∀y F S:R,List.take 3 [y,F,S]=[y,F,S]:=λ_ _ _=>rfl;refine al @K ?_;refine aN λj a11=>?_;have t:=κ (Z:=.cells [.v (.int .u8 (a.kind.toNat)),z,C]) (η) a11;have c2:(s.set j (.cells [.v (.int .u8 (a.kind.toNat)),z,C])) j=β (.cells [.v (.int .u8 (a.kind.toNat)),z,C]):=μ _ _ _;simp -dsimp -implicitDefEqProofs (disch:=first|omega|assumption|(simp only[aX,Nat.reduceAdd];try omega)) only[go_sem,simprocAttr,-List.reduceReplicate,K,a10];refine ag (Ey a l3 l4 z C D a08 l5 _ (E.mono t)) ?_;rintro _ _⟨rfl,rfl⟩;unfold tq;cases l8:dZ D a with
 |false=>refine al @a8U ?_;exact⟨_,η,t⟩
 |true=>
 obtain⟨a13,a97,a98⟩:=lG l8;have l9:=vz l5 l8;refine al @a9d ?_;refine aN λc a14=>?_;have n0:j≠c:=by grind
 obtain⟨p,k5⟩:∃p:U,p=s.set j (.cells [.v (.int .u8 (a.kind.toNat)),z,C]):=⟨_,rfl⟩;rw[<-k5]at t c2;have n1:p c=none:=by rw[k5];exact a14
 have a15:cz p c [] (p.set c (.cells [.J [] .nil,.v (.int .i64 0)])):=⟨.nil,Ν η⟩;have n2:=E.mono t;have a16:=n2.mr;have a18:=n2.gH;have M:∀aO o,cz p c aO o->o j=β (.cells [.v (.int .u8 (a.kind.toNat)),z,C]):=λaO o u=>u.get n0 c2;have n3:∀aO o,cz p c aO o->p.sub o:=λaO o u=>u.sub n1;have a19:cY a=([a.kind]++[ν (α a.rows)]++a.rows.flatMap gL++[ν (α a.kids)])++a.kids.flatMap dN:=by simp[cY]
 have n4:∀b,((a.rows.take b).flatMap gL).length<=400:=λb=>by
  have:=rF (l:=a.rows.take b) λh a99=>yJ (a:=h) (by grind);grind
 rw[<-k5];simp -dsimp -implicitDefEqProofs (disch:=first|omega|assumption|(simp only[aX,Nat.reduceAdd];try omega)) only[go_sem,simprocAttr,-List.reduceReplicate,ι c2,n0];refine ag (nL p _ c [] a.kind a15 acr) ?_;intro _ a27 n5;simp -dsimp -implicitDefEqProofs (disch:=first|omega|assumption|(simp only[aX,Nat.reduceAdd];try omega)) only[go_sem,simprocAttr,-List.reduceReplicate,ι (M _ _ n5),l6,iH];refine ag (nL p a27 c _ (ν (α a.rows)) n5 acr) ?_;intro _ b00 a29;simp -dsimp -implicitDefEqProofs (disch:=first|omega|assumption|(simp only[aX,Nat.reduceAdd];try omega)) only[go_sem,simprocAttr,-List.reduceReplicate,ι (M _ _ a29),l6];refine cv (λr o=>∃b:Nat,b<=α a.rows/\cz p c ([a.kind]++[ν (α a.rows)]++(a.rows.take b).flatMap gL) o/\r 2=.ptr j 0/\r 6=.ptr c 0/\r 28=z/\r 29=.v (.int .i64 (α a.rows))/\r 30=.v (.int .i64 b))
  (λr _=>match r 30 with|.v (.int _ k6)=>α a.rows - k6.toNat|_=>0) ⟨0,acq,by trivial,?_⟩ ?_
 .exact nF
 rintro r v⟨b,a30,x,T,k,l,m,n⟩;by_cases w:(b:Int)<α a.rows
 .have W:a.rows[b]?=β a.rows[b]:=Μ acq;have N:a.rows.take (b+1)=a.rows.take b++[a.rows[b]]:=by rw[a9x,W];rfl
  have a34:=a13 _ (a8L (n:=b) acq);generalize a.rows[b]'acq=h at W N a34;obtain⟨y,k7,q,rfl⟩:=E.rows.get W;obtain⟨a36,k8,O⟩:=a16.get b _ k7;have A:=O.ld v (n3 _ _ x) ζ 2 acq (by simp[ρ]);have n9:=n4 b;have a38:aQ ζ 2 (R.agg [.J (af h.1) q,.v (.bool h.2)]).cells=.agg [.J (af h.1) q,.v (.bool h.2)]:=rfl;rw[a38]at A;refine al (bz @T @k @l @m @n @w @k8 @A) ?_;refine aN λa00 a42=>?_;have a43:∀y F S D:R,putAt [y,F] 0 [S,D]=[S,D]:=λ_ _ _ _=>rfl;obtain⟨a47,a48,Q⟩:=x.new (ob:=.cells [.J (af h.1) q,.v (.bool h.2)]) a42;have a52:(p.set a00 (.cells [.J (af h.1) q,.v (.bool h.2)])) a00=β (.cells [.J (af h.1) q,.v (.bool h.2)]):=μ _ _ _;refine al (bz @T @k @l @m @n @K @a43 @ς) ?_;refine ag (a0g _ _ c _ h.2 Q (by grind)) ?_;intro _ a56 B;refine al (bx @T @k @l @m @n (ι (B.get a47 a52))) ?_;refine ag (tp _ _ c _ h.1 q acq B (by grind)) ?_;intro _ a57 X;refine al (bl @T @k @l @m @n) ?_;refine⟨⟨b+1,acq,?_,acr⟩,acq⟩;have H:=X.base (κ (η) a48);rw[N,a9a];simpa[gL] using H
 .obtain rfl:b=α a.rows:=acq;rw[a8F]at x;have n9:=n4 (α a.rows);rw[a8F]at n9;simp -dsimp -implicitDefEqProofs (disch:=first|omega|assumption|(simp only[aX,Nat.reduceAdd];try omega)) only[go_sem,simprocAttr,-List.reduceReplicate,T,k,l,m,n,w,ι (M _ _ x),l7,iH];refine ag (nL p v c _ (ν (α a.kids)) x (by grind)) ?_;intro _ b01 a01;have b02:([a.kind]++[ν (α a.rows)]++a.rows.flatMap gL++[ν (α a.kids)]).length<=500:=by grind
  generalize [a.kind]++[ν (α a.rows)]++a.rows.flatMap gL++[ν (α a.kids)]=k9 at*;have a02:∀b,((a.kids.take b).flatMap dN).length<=1200:=λb=>by
   have:=rF (l:=a.kids.take b) λd a61=>by
    have hm:=a8v a61;obtain⟨b03,a62,rfl⟩:=a8S hm;obtain⟨y,_,Y,_⟩:=E.kids.get (Μ a62);exact tx Y (l9 _ hm)
   grind
  simp -dsimp -implicitDefEqProofs (disch:=first|omega|assumption|(simp only[aX,Nat.reduceAdd];try omega)) only[go_sem,simprocAttr,-List.reduceReplicate,T,k,ι (M _ _ a01),l7];refine cv (λr o=>∃b:Nat,b<=α a.kids/\cz p c (k9++(a.kids.take b).flatMap dN) o/\r 6=.ptr c 0/\r 50=C/\r 51=.v (.int .i64 (α a.kids))/\r 52=.v (.int .i64 b))
   (λr _=>match r 52 with|.v (.int _ k6)=>α a.kids - k6.toNat|_=>0) ⟨0,acq,by simpa using a01,?_⟩ ?_
  .simp -dsimp -implicitDefEqProofs (disch:=first|omega|assumption|(simp only[aX,Nat.reduceAdd];try omega)) only[go_sem,simprocAttr,-List.reduceReplicate,T,k]
  clear T k l m n;rintro r v⟨b,a30,x,k,G,L,P⟩;by_cases w:(b:Int)<α a.kids
  .have W:a.kids[b]?=β a.kids[b]:=Μ acq;have N:a.kids.take (b+1)=a.kids.take b++[a.kids[b]]:=by rw[a9x,W];rfl
   have V:=l9 _ (a8L (n:=b) acq);generalize a.kids[b]'acq=d at W N V;obtain⟨y,k7,Y,_,e,f,g,rfl⟩:=E.kids.get W;obtain⟨a36,k8,O⟩:=a18.get b _ k7;have Z:=aT (M:=e) (e7:=f) (j0:=g) Y;have a63:(R.agg (ab d e f g)).cells=ab d e f g:=rfl;rw[a63]at O;have A:=O.ld v (n3 _ _ x) ζ 37 acq (by rw[Z.len];omega);rw[show aQ ζ 37 (ab d e f g)=.agg (ab d e f g) by rw[aQ,if_pos rfl,Z.t37]]at A;have l0:=Z.len;generalize ab d e f g=i at*;obtain⟨b04,b05,a3,a4,a5,dB,a65,a68⟩:=Z;have b06:=a02 b;refine al (cb @k @G @L @P @w @k8 @A) ?_;refine aN λk3 a69=>?_;obtain⟨a71,a73,Q⟩:=x.new (ob:=.cells i) a69;have a74:(p.set k3 (.cells i)) k3=β (.cells i):=μ _ _ _;have b07:=l0;have b08:=V.nP;have ch:=V.nQ;have b09:=V.live;have b10:=V.size;have b11:=V.aV;have b12:=V.aU;have b13:=V.key;have a81:∀l1:Ψ,α l1=37->putAt l1 0 i=i:=λl1 a83=>by rw[putAt];simp[a83,l0]
   refine al (cj @k @G @L @P @K @a81 @l0 @ς @Ρ.{0} @aa4.{0}) ?_;have a84:d.live=(d.live.toNat):=acq;have a86:d.size=(d.size.toNat):=acq;have I:∀aO o,cz (p.set k3 (.cells i)) c aO o->o k3=β (.cells i):=λaO o u=>u.get a71 a74;rw[a3];have l2:(k9++(a.kids.take b).flatMap dN).length<=1700:=by grind
   obtain⟨b14,a88⟩:∃a89,a89=k9++(a.kids.take b).flatMap dN:=⟨_,rfl⟩;rw[<-a88]at Q l2;refine ag (E9 _ _ c _ d.sum Y Q acq) ?_;intro _ a56 B;simp -dsimp -implicitDefEqProofs (disch:=first|omega|assumption|(simp only[aX,Nat.reduceAdd];try omega)) only[go_sem,simprocAttr,-List.reduceReplicate,k,G,L,P,ι (I _ _ B),dB];rw[a84];refine ag (tn _ _ c _ d.live.toNat acq B (by grind)) ?_;intro _ a57 X;simp -dsimp -implicitDefEqProofs (disch:=first|omega|assumption|(simp only[aX,Nat.reduceAdd];try omega)) only[go_sem,simprocAttr,-List.reduceReplicate,k,G,L,P,ι (I _ _ X),a65];rw[a86];have cl:=kL d.live.toNat;have k4:=kL d.size.toNat;refine ag (tn _ _ c _ d.size.toNat acq X (by grind)) ?_;intro _ b15 H;simp -dsimp -implicitDefEqProofs (disch:=first|omega|assumption|(simp only[aX,Nat.reduceAdd];try omega)) only[go_sem,simprocAttr,-List.reduceReplicate,k,G,L,P,ι (I _ _ H),a4];have a03:=λh=>yx (a:=h);have b16:=a03 d.aV;have b17:=a03 d.aU;refine ag (tp _ _ c _ d.aV e acq H (by grind)) ?_;intro _ b18 a04;simp -dsimp -implicitDefEqProofs (disch:=first|omega|assumption|(simp only[aX,Nat.reduceAdd];try omega)) only[go_sem,simprocAttr,-List.reduceReplicate,k,G,L,P,ι (I _ _ a04),a5];refine ag (tp _ _ c _ d.aU f acq a04 (by grind)) ?_;intro _ b19 a05;simp -dsimp -implicitDefEqProofs (disch:=first|omega|assumption|(simp only[aX,Nat.reduceAdd];try omega)) only[go_sem,simprocAttr,-List.reduceReplicate,k,G,L,P,ι (I _ _ a05),a68];refine ag (tp _ _ c _ d.key g acq a05 (by grind)) ?_;intro _ b20 a90;refine al (aP @k @G @L @P) ?_;refine⟨⟨b+1,acq,?_,acr⟩,acq⟩;have H:=a90.base (κ (η) a73);grind[List.append_assoc,dN]
  .obtain rfl:b=α a.kids:=acq;rw[a8F]at x;have l2:=a02 (α a.kids);rw[a8F]at l2;refine al (bl @k @G @L @P @w) ?_;refine ag (ZS _ v c _ x (by grind)) ?_;rintro _ a06⟨a92,a07,rfl⟩;refine al @k ?_;refine ag (Eh _ a06 c _ (x.mono a07.sub)) ?_;rintro _ a06⟨rfl,rfl⟩;refine bX ?_;refine⟨_,η,ο t (ο (x.sub n1) a07.sub),a92,?_⟩;rw[a19]
end Go.Proofs.YtkafjfkjahgihaaGreat
set_option maxHeartbeats 1000000
namespace Go.Proofs.YtkafjfkjahgihaaGreat
open Go Go.bD
theorem cr:(δ 32 (R.v (.int .u8 0))++[R.J [] .nil,.J [] .nil]++[R.v (.int .i64 0),.v (.int .i64 0)]++[R.J [] .nil])=ab aw .nil .nil .nil:=by rw[show δ 32 (R.v (.int .u8 0))=(δ 32 (0)).map ah by rw[abu];rfl];simp only[a8w];rfl
variable{A j9:au}{w j8:Υ}{M e7 j0:Own}
theorem tz(a:α A.sum=32)(b:α w=32):putAt (ab A M e7 j0) 0 (w.map ah)=ab {A with sum:=w} M e7 j0:=by grind[ah,ab,putAt,List.length_map,List.drop_append,List.drop_eq_nil_of_le]
variable{n b6:R}{g B e1:Ψ}
theorem vA{b c d:R}(r:α g=32):(∀a x,putAt (g++[n,b6,b,c,d]) 32 [a,x]=g++[a,x,b,c,d])/\(∀a,putAt (g++[n,b6,b,c,d]) 34 [a]=g++[n,b6,a,c,d])/\
  (∀a,putAt (g++[n,b6,b,c,d]) 35 [a]=g++[n,b6,b,a,d])/\∀a,putAt (g++[n,b6,b,c,d]) 36 [a]=g++[n,b6,b,c,a]:=by
 have o:∀h (k),(g++k).take (32+h)=g++k.take h:=λh k=>by rw[<-r,aaO]
 have p:∀h (k),(g++k).drop (32+h)=k.drop h:=λh k=>by rw[<-r,aaP]
 have y:=o 0;have z:=o 2;have C:=o 3;have D:=o 4;have E:=p 2;have F:=p 3;have G:=p 4;simp_all [Nat.reduceAdd,putAt]
variable{b3:Int}
theorem rH(a:α A.sum=32):putAt (ab A M e7 j0) 34 [.v (.int .i64 b3)]=ab {A with live:=b3} M e7 j0:=(vA (by simp[a])).2.1 _
theorem rI(a:α A.sum=32):putAt (ab A M e7 j0) 35 [.v (.int .i64 b3)]=ab {A with size:=b3} M e7 j0:=(vA (by simp[a])).2.2.1 _
variable{t b8:Τ}
theorem rJ{a:Own}(b:α A.sum=32):putAt (ab A M e7 a) 36 [.J (af t) j0]=ab {A with key:=t} M e7 j0:=(vA (by simp[b])).2.2.2 _
theorem yL{a b:Own}(c:α A.sum=32):putAt (ab A a b M) 32 [.J (af t) e7,.J (af b8) j0]=ab {A with aV:=t,aU:=b8} e7 j0 M:=(vA (by simp[c])).1 _ _
theorem cF{a b c:Own}(d:α j9.sum=32)(h:α A.sum=32):putAt (ab j9 a b c) 0 (ab A M e7 j0)=ab A M e7 j0:=by have o:=(aT (M:=a) (e7:=b) (j0:=c) d).len;have k:=(aT (M:=M) (e7:=e7) (j0:=j0) h).len;rw[putAt,a9Y,a8y,k,a8Z acq,a9p]
theorem bm:α aw.sum=32:=by rfl
theorem tA:(gp t).1.length<=8/\(gp t).2.length<=8:=by grind[gp]
variable{e i v O e0 j6:Nat}{c0:c4}
theorem yM(b:e<=8)(c:dZ e c0=ζ)(k:∀a∈c0.kids,α a.sum=32):(cY c0).length<=2000:=by obtain⟨o,p,r⟩:=lG c;have x:=vz b c;have z:=rF λd y=>yJ (a:=d) (by rw[o d y];exact b);have C:=rF λa h=>tx (k a h) (x a h);have a3:α c0.rows*100<=4*100:=a8x _ p;have a4:α c0.kids*300<=4*300:=a8x _ r;unfold cY;grind
theorem aB.all(b:aB bC c0.kids g):∀a∈c0.kids,α a.sum=32/\a.cE:=by intro a c;obtain⟨h,d,rfl⟩:=a8S c;obtain⟨k,_,o,p,_⟩:=b.get (Μ d);trivial
abbrev fN(b:Υ)(a:gM):au:=⟨b,a.aS.1,a.aS.2,a.live,a.size,[]⟩
theorem a0K(z:α w=32):∃p:Τ->Τ->Int->Int->Τ->Own->Own->Own->Ψ,(∀(x:au) a b c,x.sum=w->ab x a b c=p x.aV x.aU x.live x.size x.key a b c)/\putAt (ab aw .nil .nil .nil) 0 (w.map ah)=p [] [] 0 0 [] .nil .nil .nil/\
  ∀d h k ch o a b c,(p d h k ch o a b c).length=37/\(p d h k ch o a b c).take 37=p d h k ch o a b c/\((p d h k ch o a b c).drop 32).take 2=[.J (af d) a,.J (af h) b]/\aQ θ 1 ((p d h k ch o a b c).drop 34)=.v (.int .i64 k)/\aQ θ 1 ((p d h k ch o a b c).drop 35)=.v (.int .i64 ch)/\putAt (ab aw .nil .nil .nil) 0 (p d h k ch o a b c)=p d h k ch o a b c/\
   (∀r,putAt (p d h k ch o a b c) 34 [.v (.int .i64 r)]=p d h r ch o a b c)/\(∀r,putAt (p d h k ch o a b c) 35 [.v (.int .i64 r)]=p d h k r o a b c)/\(∀r y,putAt (p d h k ch o a b c) 36 [.J (af r) y]=p d h k ch r a b y)/\∀r C y D,putAt (p d h k ch o a b c) 32 [.J (af r) y,.J (af C) D]=p r C k ch o y D c:=by
 refine⟨λd h k ch o a b c=>ab ⟨w,d,h,k,ch,o⟩ a b c,λx _ _ _ E=>by subst E;rfl,tz bm z,λd h k ch o a b c=>?_⟩;have F:=(aT (A:=⟨w,d,h,k,ch,o⟩) (M:=a) (e7:=b) (j0:=c) z).all;grind[cF,bm,rH,rI,rJ,yL]
theorem Ez(b:c4)(a03 a04:Ψ)(X Y:R)(w:Nat)(a43:1<=w)(l7:w<=8)(O:U)(x:fM O b X Y a03 a04):
  AC γ 232 [gO b X Y,.v (.int .i64 (w:Int))] O λc F=>O.sub F/\match fL w b with
   |none=>c=.aJ [.agg (ab aw .nil .nil .nil),.v (.int .i64 1)]
   |some d=>∃k o l8,c=.aJ [.agg (ab d k o l8),.v (.int .i64 0)]:=by
 have a90:=x.hc;have a92:=x.tw;have a94:=x.kM;have a95:=x.ig;have a05:=p4 (cY b);obtain⟨k9,a96,a97,a47⟩:=a0K a05;have A:=λa48 l0 Z ch a52 k o l8=>(a47 a48 l0 Z ch a52 k o l8).1;have a98:(bo (eb (cY b))).cells=(eb (cY b)).map ah:=rfl;have a99:((eb (cY b)).map ah).length=32:=by simp[a05]
 have b00:=cr;have b01:=(aT (M:=.nil) (e7:=.nil) (j0:=.nil) bm).all;have a06:=λd y z E B=>cF (a:=.nil) (b:=.nil) (c:=.nil) (A:=d) (M:=y) (e7:=z) (j0:=E) bm B;have b02:=a06 aw .nil .nil .nil bm;generalize b03:ab aw .nil .nil .nil=l9 at*;obtain⟨a07,L⟩:∃a07,fL w b=a07:=⟨_,rfl⟩;rw[L];unfold fL dF at L;have a56:=@ς;have b04:=@sK;refine aL hm Rw ?_;refine bp λa08 a57=>?_;refine dk λk3 a61 _ _=>?_;generalize C:(O.set a08 _).set k3 _=n0;have a09:O.sub n0:=by subst C;exact aR
 have c2:n0 a08=β (.cells [.v (.int .u8 (b.kind.toNat)),X,Y]):=by subst C;exact aR
 have aP:n0 k3=β (.cells l9):=by subst C;exact aR
 clear C a57;refine cl (yK b a03 a04 X Y w a43 l7 _ (x.mono a09)) ?_;rintro c k4⟨n1,k5⟩;replace c2:=n1 _ _ c2;replace aP:=n1 _ _ aP;have H:=ο a09 n1;have k6:=ι c2;have n2:=τ aP;have b05:∀F i,k4.sub F->O.sub (F.set k3 i):=λF i B=>κ (ο H B) a61;unfold tq at k5;cases S:dZ w b with
 |false=>rw[S]at k5 L;rw[if_neg acr]at L;obtain rfl:=k5;subst L;exact aR
 |true=>
  rw[S]at k5 L;rw[if_pos rfl]at L;obtain⟨a62,rfl⟩:=k5;obtain⟨a10,b06,b07⟩:=lG S;have a11:=vz l7 S;have a63:=x.kids.all;have b08:=yM l7 S λd a65=>(a63 d a65).1;obtain⟨h,j⟩:∃h:Nat->gM,h=λa=>(b.rows.take a).foldl ea ⟨0,α b.rows,([],[])⟩:=⟨_,rfl⟩;obtain⟨T,I⟩:∃T:Nat->gM,T=λa=>(b.kids.take a).foldl eA (h (α b.rows)):=⟨_,rfl⟩;have a13:h 0=⟨0,α b.rows,([],[])⟩:=by subst j;rfl
  have a14:T 0=h (α b.rows):=by subst I;rfl
  have a68:∀a c,b.rows[a]?=β c->h (a+1)=ea (h a) c:=λa c B=>by subst j;simp[a9x,B]
  have a15:∀a d,b.kids[a]?=β d->T (a+1)=eA (T a) d:=λa d B=>by subst I;simp[a9x,B]
  have a16:eJ b=T (α b.kids):=by subst I;subst j;simp[eJ]
  rw[a16]at L;clear j I a16;refine aa ?_;refine nG (Ep (cY b) a62 _ acq) ?_;refine bp λl Q=>?_;have b09:=U.gY Q c2;have b10:=U.gY Q aP;refine aa ?_;refine cd [2,4,8,30,31] (λa:Nat=>[(32,.v (.int .i64 (a)))]) (λa F=>a<=α b.rows/\k4.sub F/\(0<=(h a).live/\(h a).live<=a/\(h a).size=α b.rows/\(h a).aS.1.length<=8/\(h a).aS.2.length<=8)/\∃k o,F l=β (.cells (k9 (h a).aS.1 (h a).aS.2 (h a).live (α b.rows) [] k o .nil))) (λa=>α b.rows - a) 0 ⟨⟨acq,κ (κ η Q) Q,by simp[a13],.nil,.nil,by rw[a13];exact μ _ _ _⟩,aR⟩ ?_;rintro a D⟨l0,p,⟨a18,a19,n3,l1,l2⟩,k,o,bz⟩a69;have a27:=A (h a).aS.1 (h a).aS.2 (h a).live (α b.rows) [] k o .nil;have l3:=A (h a).aS.1 (h a).aS.2 ((h a).live+1) (α b.rows) [] k o .nil;have m:=ι bz;have V:=τ bz;have k6:=rd p c2;refine aa ?_;refine aG (λP=>?_) λP=>?_
  .have K:=Μ (show a<α b.rows by omega);have j:=a68 a _ K;have n4:=a10 _ (a8L (n:=a) acq);generalize b.rows[a]'acq=c at K j n4;obtain⟨_,M,n,rfl⟩:=x.rows.get K;obtain⟨q,W,G⟩:=(x.mr.mono (ο H p)).get a _ M;have e:du ζ 2 D q=β (.agg [.J (af c.1) n,.v (.bool c.2)]):=G.ld D η ζ 2 acq (by simp[ρ]);obtain⟨c,Z⟩:=c;refine aa ?_;refine bp λn5 a29=>?_;have a71:=U.gY a29 bz;obtain⟨r,s⟩:∃r,D.set n5 (.cells [.J (af c) n,.v (.bool Z)])=r:=⟨_,rfl⟩;have f:D.sub r:=by rw[<-s];exact κ η a29
   have cj:r n5=β (.cells [.J (af c) n,.v (.bool Z)]):=by rw[<-s,μ]
   rw[a56,s];have m:=rd f bz;have V:=τ (f _ _ bz);have a73:=ι cj;clear s e W G k6;refine aG (λP=>?_) λP=>?_<;>subst P
   .generalize C:r.set l _=t;have bz:t l=β (.cells (k9 (h a).aS.1 (h a).aS.2 ((h a).live+1) (α b.rows) [] k o .nil)):=by subst C;exact μ _ _ _
    have cj:t n5=β (.cells [.J (af c) n,.v (.bool ζ)]):=by subst C;rw[ξ _ _ a71.symm];exact cj
    have n9:k4.sub t:=by subst C;exact κ (ο p f) Q
    clear C;refine cl (a0x t c n (by dsimp only at n4;omega)) ?_;rintro _ a74⟨l4,y,z,rfl⟩;have m:=rd l4 bz;have a73:=rd l4 cj;have a30:=tA (t:=c);refine cl (Eu a74 (h a).aS.1 (h a).aS.2 (gp c).1 (gp c).2 k o y z acq acq acq acq) ?_;rintro _ a81⟨k7,rfl⟩;have V:=τ (k7 _ _ (l4 _ _ bz));have a00:=p7 (h a).aS (gp c) 8 l1 l2 a30.1 a30.2;refine aa ?_;refine⟨a+1,⟨acq,ο n9 (ο l4 k7),?_,.any,.any,?_⟩,rfl,acq⟩<;>rw[j,ea,if_pos rfl];grind
   .refine⟨a+1,⟨acq,ο p f,?_,k,o,?_⟩,rfl,acq⟩<;>rw[j,ea,if_neg acr];omega
    .exact f _ _ bz
  obtain rfl:a=α b.rows:=acq;refine cd [2,4,8,51,52] (λa:Nat=>[(53,.v (.int .i64 (a)))]) (λa F=>a<=α b.kids/\k4.sub F/\(0<=(T a).live/\(T a).live<=4+a*1048576/\0<=(T a).size/\(T a).size<=4+a*1048576/\(T a).aS.1.length<=8/\(T a).aS.2.length<=8)/\∃k o,F l=β (.cells (k9 (T a).aS.1 (T a).aS.2 (T a).live (T a).size [] k o .nil))) (λa=>α b.kids - a) 0 ⟨⟨acq,p,by grind,k,o,by rw[a14,n3];exact bz⟩,aR⟩ ?_;clear a27 l3 bz m V k6 p P a18 a19 n3 l1 l2 l0;rintro a D⟨l0,p,⟨a18,a19,n3,b11,l1,l2⟩,k,o,bz⟩a69;have a27:=A (T a).aS.1 (T a).aS.2 (T a).live (T a).size [] k o .nil;have m:=ι bz;have V:=τ bz;have k6:=rd p c2;have n2:=τ (p _ _ aP);refine aa ?_;refine aG (λP=>?_) λP=>?_
  .have K:=Μ (show a<α b.kids by omega);have I:=a15 a _ K;have u:=a11 _ (a8L (n:=a) acq);generalize b.kids[a]'acq=d at K I u;obtain⟨_,M,l5,a83,y,z,E,rfl⟩:=x.kids.get K;obtain⟨q,W,G⟩:=(x.gH.mono (ο H p)).get a _ M;have N:=aT (M:=y) (e7:=z) (j0:=E) l5;change mK D q (ab d y z E)at G;have e:=G.ld D η ζ 37 acq (by rw[N.len];omega);rw[show aQ ζ 37 (ab d y z E)=.agg (ab d y z E) by rw[aQ,if_pos rfl,N.t37]]at e;have N:=N.all;have b12:=a06 d y z E l5;generalize ab d y z E=a34 at*;have Z:=u.nP;have ch:=u.nQ;have b13:=u.live;have b14:=u.size;have a84:=u.aV;have a86:=u.aU;refine aa ?_;have l3:=A (T a).aS.1 (T a).aS.2 ((T a).live+d.live) (T a).size [] k o .nil;have b15:=A (T a).aS.1 (T a).aS.2 ((T a).live+d.live) ((T a).size+d.size) [] k o .nil;refine bp λa36 a38=>?_;have b16:=U.gY a38 bz;obtain⟨r,s⟩:∃r,D.set a36 (.cells a34)=r:=⟨_,rfl⟩;have f:D.sub r:=by rw[<-s];exact κ η a38
   have a88:r.read a36=β a34:=ι (by rw[<-s,μ]);have m:=rd f bz;have V:=τ (f _ _ bz);clear e W G k6;refine aa ?_;generalize C:r.set l _=t;have bz:t l=β (.cells (k9 (T a).aS.1 (T a).aS.2 ((T a).live+d.live) ((T a).size+d.size) [] k o .nil)):=by subst C;exact μ _ _ _
   have n9:k4.sub t:=by subst C;exact κ (ο p f) Q
   clear C s m V a88;refine cl (Eu t (T a).aS.1 (T a).aS.2 d.aV d.aU k o y z acq acq acq acq) ?_;rintro _ a81⟨k7,rfl⟩;have V:=τ (k7 _ _ bz);have a00:=p7 (T a).aS (d.aV,d.aU) 8 l1 l2 a84 a86;refine aa ?_;refine⟨a+1,⟨acq,ο n9 k7,?_,.any,.any,?_⟩,rfl,acq⟩<;>rw[I,eA];exact⟨by dsimp only;omega,by dsimp only;omega,by dsimp only;omega,by dsimp only;omega,a00.1,a00.2⟩
  obtain rfl:a=α b.kids:=acq;clear a15 a14;generalize T (α b.kids)=v at*;refine aG (λP=>?_) λP=>?_;grind;rw[if_neg P]at L;subst L;by_cases g2:b.kind=2
  .have bp:(b.kind.toNat:Int)=2:=by rw[g2];rfl
   obtain⟨c,l6,a01⟩:∃c l6,b.rows=c::l6:=aaf (by rintro k8;unfold dZ at S;simp[g2,k8]at S);have n4:=a10 c (by simp[a01]);obtain⟨_,M,n,rfl⟩:=x.rows.get (i:=0) (by rw[a01];rfl);obtain⟨q,W,G⟩:=(x.mr.mono (ο H p)).get 0 _ M;obtain⟨a42,a89,e⟩:=G.lq D η 0 θ 1 acq (by simp[ρ]);have W:cO 2 X (.v (.int .i64 0))=β q:=W;have e:du θ 1 D a42=β (.J (af c.1) n):=e;have l3:=A v.aS.1 v.aS.2 v.live v.size c.1 k o .any;refine iJ ?_;refine cl (tv c.1 n _ acq) ?_;rintro _ r⟨g,rfl⟩;have m:=rd g bz;have V:=τ (g _ _ bz);have n2:∀i,ep (r.set l i) k3=β l9:=λi=>τ (by rw[ξ _ _ acu];exact g _ _ (p _ _ aP));refine aa ?_;exact⟨ο H (ο p g),k,o,.any,by simp[keyOf,g2,a01]⟩
  have bp:¬(b.kind.toNat:Int)=2:=λk8=>g2 (a9f.1 (by grind));refine iJ ?_;by_cases g3:b.kind=3
  .have gZ:(b.kind.toNat:Int)=3:=by rw[g3];rfl
   obtain⟨d,b17,a02⟩:∃c l6,b.kids=c::l6:=aaf (by rintro k8;unfold dZ at S;simp[g3,k8]at S);have u:=(a11 d (by simp[a02])).key;obtain⟨_,M,l5,a83,y,z,E,rfl⟩:=x.kids.get (i:=0) (by rw[a02];rfl);obtain⟨q,W,G⟩:=(x.gH.mono (ο H p)).get 0 _ M;have N:=aT (M:=y) (e7:=z) (j0:=E) l5;change mK D q (ab d y z E)at G;obtain⟨a42,a89,e⟩:=G.lq D η 36 θ 1 acq (by rw[N.len];omega);have W:cO 37 Y (.v (.int .i64 0))=β q:=W;rw[N.all.2.2.2.2.2.2.2.2]at e;have l3:=A v.aS.1 v.aS.2 v.live v.size d.key k o .any;refine iJ ?_;refine cl (tv d.key E _ acq) ?_;rintro _ r⟨g,rfl⟩;have m:=rd g bz;have V:=τ (g _ _ bz);have n2:∀i,ep (r.set l i) k3=β l9:=λi=>τ (by rw[ξ _ _ acu];exact g _ _ (p _ _ aP));refine aa ?_;exact⟨ο H (ο p g),k,o,.any,by simp[keyOf,g3,a02]⟩
  have gZ:¬(b.kind.toNat:Int)=3:=λk8=>g3 (a9f.1 (by grind));refine iJ ?_;grind[keyOf]
theorem EA{h k d:R}(o:α g=32):(∀c,putAt (g++[h,k,n,b6,d]) 32 [c]=g++[c,k,n,b6,d])/\∀c,putAt (g++[h,k,n,b6,d]) 33 [c]=g++[h,c,n,b6,d]:=by
 have p:∀a (b),(g++b).take (32+a)=g++b.take a:=λa b=>by rw[<-o,aaO]
 have r:∀a (b),(g++b).drop (32+a)=b.drop a:=λa b=>by rw[<-o,aaP]
 have x:=p 0;have y:=p 1;have z:=r 1;have C:=r 2;simp_all [Nat.reduceAdd,putAt]
def yN{a:Own}(b:α A.sum=32):putAt (ab A a M e7) 32 [.J (af t) j0]=ab {A with aV:=t} j0 M e7:=(EA (by simp[b])).1 _
def yO{a:Own}(b:α A.sum=32):putAt (ab A M a e7) 33 [.J (af t) j0]=ab {A with aU:=t} M j0 e7:=(EA (by simp[b])).2 _
variable{f s e5:U}{Z:bt}
def bP.put{b:Rd}(a:bt)(c:bP (f.set e Z) i b s)(d:e≠i):bP (f.set e a) i b (s.set e a):=by have:=c.other (ob:=a) d;rwa[ς]at this
theorem a0L(L H:U)(x:Nat)(r:Nat)(a08:r<=8)(C:Rd)(l4:L x=ε)(P:bP L x C H):
  AC γ 313 [.ptr x 0,.v (.int .i64 (r:Int))] H λD V=>bP L x (fc r C).2 V/\(fc r C).1.sum.length=32/\(fc r C).1.cE/\∃b h o,D=.agg (ab (fc r C).1 b h o):=by
 have eX:=aT (M:=.nil) (e7:=.nil) (j0:=.nil) bm;have n:=eX.len;have a09:=eX.t37;refine bg hm Tv acr ?_;have q:∀I,(R.agg I).cells=I:=λ_=>rfl;have K:∀c:Int,(R.v (.int .i64 c)).cells=[.v (.int .i64 c)]:=λ_=>rfl;have s:∀(c)(M),(R.J (af c) M).cells=[.J (af c) M]:=λ_ _=>rfl;refine al @cr ?_;refine aN λE l5=>?_;obtain⟨t,N,P⟩:=P.new (ob:=.cells (ab aw .nil .nil .nil)) l5;have l6:L.sub (L.set E (.cells (ab aw .nil .nil .nil))):=κ η N;have O:(L.set E (.cells (ab aw .nil .nil .nil))) x=none:=by rw[ξ _ _ (Δ t)];exact l4
 have u:(L.set E (.cells (ab aw .nil .nil .nil))) E=β (.cells (ab aw .nil .nil .nil)):=μ _ _ _;obtain⟨l,l7⟩:∃l:U,l=L.set E (.cells (ab aw .nil .nil .nil)):=⟨_,rfl⟩;rw[<-l7]at P l6 O u;refine bX ?_;refine ag (yu _ _ x C P) ?_;rintro D a10⟨Q,rfl⟩;unfold fc;have z:=vq C;generalize mH C=p at*;obtain⟨a,X⟩:=p;simp only at Q z|-;have Y:(bo a).cells=a.map ah:=rfl;have Z:(a.map ah).length=32:=by simp[z]
 have k3:putAt (ab aw .nil .nil .nil) 0 (a.map ah)=ab ⟨a,[],[],0,0,[]⟩ .nil .nil .nil:=tz bm z;have k4:∀(p)(b h o),α p.sum=32->putAt (ab aw .nil .nil .nil) 0 (ab p b h o)=ab p b h o:=λp b h o l8=>cF bm l8;have cl:∀(k y)(v w)(F)(b h o),rE ⟨a,k,y,v,w,F⟩ b h o (ab ⟨a,k,y,v,w,F⟩ b h o):=λk y v w F b h o=>aT z;have A:=(cl [] [] 0 0 [] .nil .nil .nil).len;have k5:=k4 ⟨a,[],[],0,0,[]⟩ .nil .nil .nil z;refine al (bz @q @Y @Z @cr @k3 @n @A @k5) ?_;refine aN λW l9=>?_;obtain⟨S,k6,n0⟩:=Q.new (ob:=.cells (ab ⟨a,[],[],0,0,[]⟩ .nil .nil .nil)) l9;have m:E≠W:=by rintro rfl;rw[u]at k6;cases k6
 have B:∀e,(l.set W e) x=none:=λe=>by rw[ξ _ _ (Δ S)];exact O
 have aa:∀ {e C V},bP (l.set W e) x C V->V W=β e/\V E=β (.cells (ab aw .nil .nil .nil)):=λP=>⟨P.get S (μ _ _ _),P.get t (by rw[ξ _ _ m];exact u)⟩;refine al (de @q @Y @Z @cr @k3 @n @A @k5 @ς) ?_;refine ag (q9 _ _ x 1048576 acq _ n0) ?_;rintro D a11⟨f,rfl⟩;have n1:=yy 1048576 X;generalize ez 1048576 X=p at*;obtain⟨d,k7⟩:=p;simp only at f n1|-;have G:=(aa f).1;have c2:=(cl [] [] d 0 [] .nil .nil .nil).len;have n2:putAt (ab ⟨a,[],[],0,0,[]⟩ .nil .nil .nil) 34 [.v (.int .i64 (d))]=ab ⟨a,[],[],d,0,[]⟩ .nil .nil .nil:=rH z;replace f:=f.put (.cells (ab ⟨a,[],[],d,0,[]⟩ .nil .nil .nil)) S;refine al (aP @K (τ G) @A @n2) ?_;refine ag (q9 _ _ x 1048576 acq _ f) ?_;rintro D a13⟨g,rfl⟩;have n3:=yy 1048576 k7;generalize ez 1048576 k7=p at*;obtain⟨c,k8⟩:=p;simp only at g n3|-;replace G:=(aa g).1;have aD:=(cl [] [] d c [] .nil .nil .nil).len;have n4:putAt (ab ⟨a,[],[],d,0,[]⟩ .nil .nil .nil) 35 [.v (.int .i64 (c))]=ab ⟨a,[],[],d,c,[]⟩ .nil .nil .nil:=rI z;replace g:=g.put (.cells (ab ⟨a,[],[],d,c,[]⟩ .nil .nil .nil)) S;refine al (aP @K (τ G) @c2 @n4) ?_;refine ag (mJ _ _ x r acq _ (B _) g) ?_;rintro D a14⟨i,b,rfl⟩;have n5:=rA r k8;generalize gK r k8=p at*;obtain⟨k,k9⟩:=p;simp only at i n5|-;replace G:=(aa i).1;have aP:=(cl k [] d c [] b .nil .nil).len;have n9:putAt (ab ⟨a,[],[],d,c,[]⟩ .nil .nil .nil) 32 [.J (af k) b]=ab ⟨a,k,[],d,c,[]⟩ b .nil .nil:=yN z;replace i:=i.put (.cells (ab ⟨a,k,[],d,c,[]⟩ b .nil .nil)) S;simp -dsimp -implicitDefEqProofs (disch:=first|omega|assumption|(simp only[aX,Nat.reduceAdd];try omega)) only[go_sem,simprocAttr,-List.reduceReplicate,s,τ G,aD,n9];refine ag (mJ _ _ x r acq _ (B _) i) ?_;rintro D a15⟨j,h,rfl⟩;have a00:=rA r k9;generalize gK r k9=p at*;obtain⟨y,l0⟩:=p;simp only at j a00|-;replace G:=(aa j).1;have bl:=(cl k y d c [] b h .nil).len;have a01:putAt (ab ⟨a,k,[],d,c,[]⟩ b .nil .nil) 33 [.J (af y) h]=ab ⟨a,k,y,d,c,[]⟩ b h .nil:=yO z;replace j:=j.put (.cells (ab ⟨a,k,y,d,c,[]⟩ b h .nil)) S;simp -dsimp -implicitDefEqProofs (disch:=first|omega|assumption|(simp only[aX,Nat.reduceAdd];try omega)) only[go_sem,simprocAttr,-List.reduceReplicate,s,τ G,aP,a01];refine ag (mJ _ _ x r acq _ (B _) j) ?_;rintro D a02⟨T,o,rfl⟩;have a03:=rA r l0;generalize gK r l0=p at*;obtain⟨F,a16⟩:=p;simp only at T a03|-;replace G:=(aa T).1;have l1:=cl k y d c F b h o;have bx:=l1.len;have a04:putAt (ab ⟨a,k,y,d,c,[]⟩ b h .nil) 36 [.J (af F) o]=ab ⟨a,k,y,d,c,F⟩ b h o:=rJ z;replace T:=T.put (.cells (ab ⟨a,k,y,d,c,F⟩ b h o)) S;have l2:=(aa T).2;have a18:=(aa T).1;have a05:=Δ m;have a06:=k4 ⟨a,k,y,d,c,F⟩ b h o z;have a07:a02 E=β (.cells (ab aw .nil .nil .nil)):=by rw[ξ _ _ m]at l2;exact l2
 refine al (gl @s (τ G) @bl @a04 @μ @ξ @m @a05 (τ a07) l1.t37 @n @bx @a06 @q) ?_;refine⟨_,η,?_,z,⟨by simp only;omega,by simp only;omega,by simp only;omega⟩,b,h,o,rfl⟩;refine(T.other t).base ?_;intro D a19 l3;have a27:D≠E:=by rintro rfl;rw[N]at l3;cases l3
 have a29:D≠W:=by rintro rfl;simp_all [ξ]
 simp_all [ξ]
def nR(a:α g=e*i):bT (f.set v (.cells g)) i (.aq v e e i)=β (e,g):=by simp[bT,ι (μ _ _ _),<-a]
def av.rs{a:Rd}(b:av (f.set e (ha a M)) s i g n):bP f e a s:=⟨M,b.1⟩
def av.tB{p h:Rd}(r:av (f.set e (ha p M)) s i g n)(x:f e=ε)(y:bP (s.del e) e h e5):∃c,av (f.set e (ha h c)) e5 i g n:=by
 obtain⟨c,k⟩:=y;obtain⟨z,d⟩:=r;refine⟨c,ο (U.lD (Ek z x)) k,?_⟩;rcases d with d|⟨o,C,D,E,F,a,G,L⟩
 .exact .inl d
 .have b:o≠e:=by rintro rfl;rw[μ]at a;cases a
  rw[ξ _ _ b]at a;exact .inr ⟨o,C,D,E,F,by rw[ξ _ _ b];exact a,k _ _ (by rw[ξ _ _ b,U.eO _ b];exact G),L⟩
def gP(h k:U)(a:c4)(o p:R):Prop:=∃b c d,av h b 2 (flat c) o/\av b k 37 (flat d) p/\aB cZ a.rows c/\aB bC a.kids d/\α a.rows<=100000/\α a.kids<=100000
def gP.sub{a b:U}{c:c4}{d h:R}(k:gP a b c d h):a.sub b:=by obtain⟨r,x,y,o,p,_⟩:=k;exact ο o.1 p.1
def gP.L(k:gP s f c0 n b6):∃a b,fM f c0 n b6 a b:=by obtain⟨x,a,b,o,c,d,h,p,r⟩:=k;exact⟨a,b,d,h,(bS.dA o acq rfl (d.cells λ_ _=>cZ.cells)).mono c.1,bS.dA c acq rfl (h.cells λ_ _=>Κ),p,r⟩
theorem gP.base{a b c:U}{d:c4}{h k:R}(o:gP b c d h k)(p:a.sub b):gP a c d h k:=by obtain⟨r,x,y,z,C,D⟩:=o;exact⟨r,x,y,z.base p,C,D⟩
def gP.mono{a b c:U}{d:c4}{h k:R}(o:gP a b d h k)(p:b.sub c):gP a c d h k:=by obtain⟨r,x,y,z,C,D⟩:=o;exact⟨r,x,y,z,C.mono p,D⟩
theorem gP.set{b c:U}{a:Nat}{r ob:bt}{d:c4}{h k:R}(x:gP b c d h k)(o:b a=β r):gP (b.set a ob) (c.set a ob) d h k:=by obtain⟨y,z,C,p,D,E⟩:=x;exact⟨y.set a ob,z,C,ka p o,ka D (p.1 _ _ o),E⟩
variable{b2:Type}
def EB{a:Rd->b2×Rd}{b:Rd}{c:List b2}(d:i<e):dv a (e - i) b c=dv a (e -(i+1)) (a b).2 (c++[(a b).1]):=by rw[show e - i=(e -(i+1))+1 by omega];rfl
abbrev yP:R:=.agg [.v (.int .u8 0),.J [] .nil,.J [] .nil]
theorem a0M(e:Υ)(u:Own)(k:Nat)(a56:1<=k)(n9:k<=8)(n:U)(b26:α e<=1000000000000):
  AC γ 261 [.J (e.map ah) u,.v (.int .i64 (k:Int))] n λq D=>n.sub D/\match qb k e with
   |none=>q=.aJ [yP,.v (.int .i64 21)]
   |some v=>∃c P,q=.aJ [gO v c P,.v (.int .i64 0)]/\gP n D v c P:=by
 refine kJ λb27=>?_;have a95:u=.nil->e=[]:=λa57=>by simp_all
 refine bg hm Sk acr ?_;have w:∀a00,(R.agg a00).cells=a00:=λ_=>rfl;have k4:∀a d b c P l3:R,putAt [a,d,b] 0 [c,P,l3]=[c,P,l3]:=λ_ _ _ _ _ _=>rfl;have k5:∀a d b,aQ ζ 3 [a,d,b]=.agg [a,d,b]:=λ_ _ _=>rfl;have a61:∀a d b:R,aQ θ 1 ([a,d,b].drop 1)=d:=λ_ _ _=>rfl;have a62:∀a d b:R,aQ θ 1 ([a,d,b].drop 2)=b:=λ_ _ _=>rfl;have a96:∀a d b c:R,putAt [a,d,b] 0 [c]=[c,d,b]:=λ_ _ _ _=>rfl;have N:∀a d b:R,[a,d,b].length=3:=λ_ _ _=>rfl;have a97:∀a d c:R,putAt [a,d] 0 [c]=[c,d]:=λ_ _ _=>rfl;have a98:∀a d c:R,putAt [a,d] 1 [c]=[a,c]:=λ_ _ _=>rfl;have a99:∀a d:R,[a,d].length=2:=λ_ _=>rfl;have b00:∀d:Bool,(R.v (.bool d)).cells=[.v (.bool d)]:=λ_=>rfl;have b01:∀(l3)(a63),(R.J (af l3) a63).cells=[.J (af l3) a63]:=λ_ _=>rfl;have b02:∀a d b c:R,putAt [a,d,b] 1 [c]=[a,c,b]:=λ_ _ _ _=>rfl;have b03:∀a d b c:R,putAt [a,d,b] 2 [c]=[a,d,c]:=λ_ _ _ _=>rfl;refine bX ?_;refine aN λg a65=>?_;have a13:n.sub (n.set g (.cells [.v (.int .u8 0),.J [] .nil,.J [] .nil])):=κ η a65;have a01:(n.set g (.cells [.v (.int .u8 0),.J [] .nil,.J [] .nil])) g=β (.cells [.v (.int .u8 0),.J [] .nil,.J [] .nil]):=μ _ _ _;obtain⟨O,a68⟩:∃O:U,O=n.set g (.cells [.v (.int .u8 0),.J [] .nil,.J [] .nil]):=⟨_,rfl⟩;rw[<-a68]at a13 a01;have a69:∀(D)(A),n.sub D->n.sub (D.set g A):=λD A j=>κ j a65;refine bX ?_;rw[<-a68];refine ag (yt e u O a95 acq) ?_;rintro _ b28⟨o,a02,rfl,b04⟩;have b29:g≠o:=by rintro rfl;rw[a01]at a02;cases a02
 refine bX ?_;refine ag (nN _ _ o _ b04) ?_;rintro c b30⟨a71,rfl⟩;have a73:∀h:UInt8×Rd,h=cP ⟨e,0⟩->qa k e=(⟨h.1,(dv (jq k) (cP h.2).1.toNat (cP h.2).2 []).1,(dv (fc k) (cP (dv (jq k) (cP h.2).1.toNat (cP h.2).2 []).2).1.toNat (cP (dv (jq k) (cP h.2).1.toNat (cP h.2).2 []).2).2 []).1⟩,
   mI (dv (fc k) (cP (dv (jq k) (cP h.2).1.toNat (cP h.2).2 []).2).1.toNat (cP (dv (jq k) (cP h.2).1.toNat (cP h.2).2 []).2).2 []).2):=by rintro h rfl;rfl
 have a74:=a73 _ rfl;clear a73;unfold qb;rw[a74];clear a74;generalize cP ⟨e,0⟩=h at*;obtain⟨V,b05⟩:=h;simp only at a71|-;refine al (c2 @k4 @w) ?_;refine aN λG b06=>?_;obtain⟨B,a14,b07⟩:=a71.new (ob:=.cells [.v (.int .u8 V.toNat),.J [] .nil,.J [] .nil]) b06;have b31:g≠G:=by rintro rfl;rw[a01]at a14;cases a14
 have a15:∀A,(O.set G A) o=none:=λA=>by rw[ξ _ _ (Δ B)];exact a02
 refine al (bl @k4 @w @a96 @N @ς) ?_;refine ag (nN _ _ o _ b07) ?_;rintro c b32⟨a03,rfl⟩;generalize cP b05=h at*;obtain⟨s,a04⟩:=h;simp only at a03|-;have b08:=s.toNat_lt;have a16:IntKind.i64.wrap (s.toNat)=s.toNat:=wrap_i64 acq acq;refine al @a16 ?_;generalize s.toNat=Q at*;have l4:∀E b q D h l5 a,av ((O.set G (.cells b)).set o (ha q E)) D h l5 a->D G=β (.cells b)/\D g=β (.cells [.v (.int .u8 0),.J [] .nil,.J [] .nil]):=λE b q D h l5 a j=>⟨j.1 _ _ (by rw[ξ _ _ B,μ]),j.1 _ _ (by grind[ξ])⟩;refine cv (λC D=>∃(L:Nat)(F:Rd)(S:List (Τ×Bool))(H:Ψ)(a:R)(E:Own),L<=Q/\dv (jq k) (Q - L) F S=dv (jq k) Q a04 []/\α S=L/\aB cZ S H/\av ((O.set G (.cells [.v (.int .u8 V.toNat),a,.J [] .nil])).set o (ha F E)) D 2 (flat H) a/\
   C 0=.J (e.map ah) u/\C 1=.v (.int .i64 k)/\C 4=.ptr g 0/\C 6=.ptr o 0/\C 7=.ptr G 0/\C 18=.v (.int .i64 Q)/\C 19=.v (.int .i64 L))
  (λC _=>match C 19 with|.v (.int _ v)=>(Q - v).toNat|_=>0) ?_ ?_
 .obtain⟨E,a03⟩:=a03;refine⟨0,a04,[],[],.J [] .nil,E,acq,rfl,rfl,trivial,av.nil a03,?_⟩;exact nF
 rintro C b09⟨L,F,S,H,a,E,b33,W,b10,a05,f,p,r,x,y,z,X,Y⟩;by_cases I:(L:Int)<Q
 .refine al (bz @p @r @x @y @z @X @Y @I) ?_;refine ag (a0h _ _ o F (av.rs f).full) ?_;rintro c k6⟨a18,rfl⟩;rw[EB acq]at W;unfold jq at W;obtain⟨b11,l⟩:=av.tB f (a15 _) a18;generalize nO F=h at*;obtain⟨k7,K⟩:=h;simp only at l W|-;have cb:=(l4 _ _ _ _ _ _ _ l).1;refine al (cj @p @r @x @y @z @X @Y @I (ι cb) @a61) ?_;refine ag (mJ _ _ o k acq K (U.iD _ _) (av.rs l).full) ?_;rintro c k8⟨l6,a06,rfl⟩;obtain⟨a07,i⟩:=av.tB l (a15 _) l6;generalize gK k K=h at*;obtain⟨k9,a19⟩:=h;simp only at i W|-;have bz:=(l4 _ _ _ _ _ _ _ i).1;refine al (oR @p @r @x @y @z @X @Y @I (ι bz) @a61 @w @a97 @a98 @a99 @b00 @b01) ?_;refine eP (by simp[aW,ρ]) acr λb12 a27=>?_;have a29:=av.mono i (κ (Z:=.cells (flat [R.agg [.J (af k9) a06,.v (.bool k7)]])) η a27);have a30:aB cZ (S++[(k9,k7)]) (H++[R.agg [.J (af k9) a06,.v (.bool k7)]]):=a05.snoc ⟨_,rfl⟩;have l7:(flat H).length=α S*2:=by rw[cW (a05.cells λ_ _=>cZ.cells),a05.len]
  simp -dsimp -implicitDefEqProofs (disch:=first|omega|assumption|(simp only[aX,Nat.reduceAdd];try omega)) only[go_sem,simprocAttr,-List.reduceReplicate,p,r,x,y,z,X,Y];refine eZ a29 acq (nR rfl) rfl (by rw[l7];simp[flat,ρ];omega) (by rw[l7];simp[flat,ρ];omega) λl8 b13 t=>?_;have a34:flat H++flat [R.agg [.J (af k9) a06,.v (.bool k7)]]=flat (H++[R.agg [.J (af k9) a06,.v (.bool k7)]]):=by simp[flat]
  rw[a34]at t;have de:=(l4 _ _ _ _ _ _ _ t).1;have a36:=fv t;refine al (gk @p @r @x @y @z @X @Y (τ de) @a36 @b02 @N) ?_;refine⟨⟨L+1,a19,S++[(k9,k7)],_,l8,a07,acq,W,by simp[b10],a30,?_,acr⟩,acq⟩;have:=ka (Z:=.cells [.v (.int .u8 V.toNat),l8,.J [] .nil]) t (by rw[ξ _ _ B,μ]);rw[U.dL _ (Δ B),ς]at this;exact this
 .obtain rfl:L=Q:=acq;rw[aat]at W;obtain⟨b14,b15⟩:S=(dv (jq k) L a04 []).1/\F=(dv (jq k) L a04 []).2:=by rw[<-W];trivial
  rw[<-b14,<-b15];refine al (bz @p @r @x @y @z @X @Y @I) ?_;refine ag (nN _ _ o F (av.rs f).full) ?_;rintro c k6⟨a18,rfl⟩;obtain⟨b11,l⟩:=av.tB f (a15 _) a18;clear f;generalize cP F=h at*;obtain⟨s,K⟩:=h;simp only at l|-;have b08:=s.toNat_lt;have a16:IntKind.i64.wrap (s.toNat)=s.toNat:=wrap_i64 acq acq;refine al (bx @p @r @x @y @z @a16) ?_;have cb:=(l4 _ _ _ _ _ _ _ l).1;have aP:=(l4 _ _ _ _ _ _ _ l).2;have a81:∀A,((k6.del o).set G A) o=none:=λA=>by rw[ξ _ _ (Δ B),U.iD]
  have l9:∀E b q D h l5 a,av (((k6.del o).set G (.cells b)).set o (ha q E)) D h l5 a->D G=β (.cells b)/\D g=β (.cells [.v (.int .u8 0),.J [] .nil,.J [] .nil]):=λE b q D h l5 a j=>⟨j.1 _ _ (by rw[ξ _ _ B,μ]),j.1 _ _ (by grind[ξ,U.eO])⟩;obtain⟨b16,b17⟩:∃E,(((k6.del o).set G (.cells [.v (.int .u8 V.toNat),a,.J [] .nil])).set o (ha K E)).sub k6:=by
   obtain⟨E,j⟩:=(av.rs l).full;refine⟨E,λc u m=>?_⟩;by_cases a57:c=G;grind[ξ,μ,Option.some.inj]
   .by_cases a38:c=o
    .subst a38;rw[μ]at m;exact j _ _ (by rw[μ];exact m)
    .rw[ξ _ _ a38,ξ _ _ a57]at m;exact j _ _ (by rw[ξ _ _ a38];exact m)
  generalize s.toNat=Z at*;refine cv (λC D=>∃(L:Nat)(F:Rd)(T:List au)(M:Ψ)(P:R)(E:Own),L<=Z/\dv (fc k) (Z - L) F T=dv (fc k) Z K []/\α T=L/\aB bC T M/\av (((k6.del o).set G (.cells [.v (.int .u8 V.toNat),a,P])).set o (ha F E)) D 37 (flat M) P/\
    C 0=.J (e.map ah) u/\C 1=.v (.int .i64 k)/\C 4=.ptr g 0/\C 6=.ptr o 0/\C 7=.ptr G 0/\C 36=.v (.int .i64 Z)/\C 37=.v (.int .i64 L))
   (λC _=>match C 37 with|.v (.int _ v)=>(Z - v).toNat|_=>0) ?_ ?_
  .refine⟨0,K,[],[],.J [] .nil,b16,acq,rfl,rfl,trivial,av.nil b17,?_⟩;exact ch (bl @p @r @x @y @z)
  clear p r x y z X Y;rintro C b09⟨n0,F,T,M,P,E,b34,W,a83,a08,f,p,r,x,y,z,n1,n2⟩;by_cases I:(n0:Int)<Z
  .have bz:=(l9 _ _ _ _ _ _ _ f).1;refine al (cj @p @r @x @y @z @n1 @n2 @I (ι bz) @a62) ?_;refine ag (a0L _ _ o k n9 F (U.iD _ _) (av.rs f).full) ?_;rintro c k8⟨l6,a42,a84,l0,l1,l2,rfl⟩;rw[EB acq]at W;obtain⟨a07,i⟩:=av.tB f (a81 _) l6;have a43:=(aT (M:=l0) (e7:=l1) (j0:=l2) a42).len;generalize fc k F=h at*;obtain⟨k3,a19⟩:=h;simp only at i W a42 a84 a43|-;have de:=(l9 _ _ _ _ _ _ _ i).1;refine al (gk @p @r @x @y @z @n1 @n2 @I (ι de) @a62 @w) ?_;refine eP (by simp[aW,ρ,a43]) acr λb12 a27=>?_;have a29:=av.mono i (κ (Z:=.cells (flat [R.agg (ab k3 l0 l1 l2)])) η a27);have a30:aB bC (T++[k3]) (M++[R.agg (ab k3 l0 l1 l2)]):=a08.snoc ⟨a42,a84,_,_,_,rfl⟩;have l7:(flat M).length=α T*37:=by rw[cW (a08.cells λ_ _=>Κ),a08.len]
   have a09:(flat [R.agg (ab k3 l0 l1 l2)]).length=1*37:=by simp[flat,ρ,a43]
   simp -dsimp -implicitDefEqProofs (disch:=first|omega|assumption|(simp only[aX,Nat.reduceAdd];try omega)) only[go_sem,simprocAttr,-List.reduceReplicate,p,r,x,y,z,n1,n2];refine eZ a29 acq (nR a09) a09 (by rw[l7,a09];omega) (by rw[l7,a09];omega) λl8 b13 t=>?_;have a34:flat M++flat [R.agg (ab k3 l0 l1 l2)]=flat (M++[R.agg (ab k3 l0 l1 l2)]):=by simp[flat]
   rw[a34]at t;have de:=(l9 _ _ _ _ _ _ _ t).1;have a36:=fv t;refine al (gk @p @r @x @y @z @n1 @n2 (τ de) @a36 @b03 @N) ?_;refine⟨⟨n0+1,a19,T++[k3],_,l8,a07,acq,W,by simp[a83],a30,?_,acr⟩,acq⟩;have:=ka (Z:=.cells [.v (.int .u8 V.toNat),a,l8]) t (by rw[ξ _ _ B,μ]);rw[U.dL _ (Δ B),ς]at this;exact this
  .obtain rfl:n0=Z:=acq;rw[aat]at W;obtain⟨b18,b19⟩:T=(dv (fc k) n0 K []).1/\F=(dv (fc k) n0 K []).2:=by rw[<-W];trivial
   rw[<-b18,<-b19];refine al (bz @p @r @x @y @z @n1 @n2 @I) ?_;refine ag (yv _ _ o F (av.rs f).full) ?_;rintro c k8⟨l6,rfl⟩;obtain⟨a07,i⟩:=av.tB f (a81 _) l6;clear f;have bz:=(l9 _ _ _ _ _ _ _ i).1;have aP:=(l9 _ _ _ _ _ _ _ i).2;have n3:gP O k8 ⟨V,S,T⟩ a P:=by
    refine⟨_,H,M,?_,i,a05,a08,by simp only;omega,by simp only;omega⟩;obtain⟨b20,a47⟩:=l;refine⟨λc u m=>?_,?_⟩
    .have n4:c≠o:=by rintro rfl;rw[a02]at m;cases m
     have a10:c≠G:=by rintro rfl;rw[a14]at m;cases m
     rw[ξ _ _ n4,ξ _ _ a10,U.eO _ n4];exact b20 _ _ (by rw[ξ _ _ n4,ξ _ _ a10];exact m)
    .rcases a47 with a47|⟨d,v,b21,a00,b22,n5,b35,b23⟩
     .exact .inl a47
     .have n4:d≠o:=by rintro rfl;rw[μ]at n5;cases n5
      rw[ξ _ _ n4]at n5;have a10:d≠G:=by grind
      rw[ξ _ _ a10]at n5;exact .inr ⟨d,v,b21,a00,b22,n5,by grind[ξ,U.eO],b23⟩
   have a48:=ο a13 n3.sub;by_cases b:(mI F).e=0
   .simp -dsimp -implicitDefEqProofs (disch:=first|omega|assumption|(simp only[aX,Nat.reduceAdd];try omega)) only[go_sem,simprocAttr,-List.reduceReplicate,p,r,x,y,z,b,ι bz,k5];obtain⟨a86,a88,a52⟩:=n3.L;refine ag (Ey ⟨V,S,T⟩ a86 a88 a P k a56 n9 k8 a52) ?_;rintro _ k8⟨rfl,rfl⟩;cases a89:dZ k ⟨V,S,T⟩with
    |false=>refine al (gV @p @r @x @y @z @b (τ aP) @k4 @k5 @N @w @a8U) ?_;grind[η]
    |true=>
     refine al (de @p @r @x @y @z @b (ι bz) @k5 @a9d) ?_;refine ag (yK ⟨V,S,T⟩ a86 a88 a P k a56 n9 k8 a52) ?_;rintro q a90⟨a11,a92⟩;rw[tq,if_pos a89]at a92;obtain⟨b24,rfl⟩:=a92;replace n3:=n3.mono a11;replace a48:=ο a48 a11;replace bz:=a11 _ _ bz;replace aP:=a11 _ _ aP;refine al (bx @p @r @x @y @z @b) ?_;have a83:=yM n9 a89 λh b25=>(a52.kids.all h b25).1;refine ag (yB (cY ⟨V,S,T⟩) e b24 u a90 acq) ?_;rintro _ a90⟨rfl,rfl⟩;by_cases a94:cY ⟨V,S,T⟩=e
     .refine al (gl @p @r @x @y @z @b @a94 (ι bz) (τ aP) @k4 @k5 @N @w @a9d) ?_;have:=n3.set (ob:=.cells [.v (.int .u8 V.toNat),a,P]) a01;refine⟨_,η,a69 _ _ a48,?_⟩;exact⟨a,P,rfl,this.base (a69 _ _ a13)⟩
     .refine al (gl @p @r @x @y @z @b @a94 (ι bz) (τ aP) @k4 @k5 @N @w @a8U) ?_;grind[η]
   .refine al (gk @p @r @x @y @z @b (τ aP) @k4 @k5 @N @w) ?_;grind[η]
def EC:∀(c:List (Τ×Bool))(a:gM),α a.aS.1<=8->α a.aS.2<=8->(c.foldl ea a).aS.1.length<=8/\(c.foldl ea a).aS.2.length<=8
 |[],a,h1,b=>⟨h1,b⟩
 |d::c,a,h1,b=>by
  rw[a9e];refine EC c _ ?_ ?_<;>unfold ea<;>split
  .exact(p7 _ _ 8 h1 b tA.1 tA.2).1
  .exact h1
  .exact(p7 _ _ 8 h1 b tA.1 tA.2).2
  .exact b
def ED:∀(b:List au)(a:gM),(∀d∈b,d.hA)->α a.aS.1<=8->α a.aS.2<=8->(b.foldl eA a).aS.1.length<=8/\(b.foldl eA a).aS.2.length<=8
 |[],a,_,h1,c=>⟨h1,c⟩
 |d::b,a,hk,h1,c=>by
  rw[a9e];have:=hk d acr;exact ED b _ (λh k=>hk h (by simp[k])) (p7 _ _ 8 h1 c this.aV this.aU).1 (p7 _ _ 8 h1 c this.aV this.aU).2
theorem vB(p:e<=8)(a:fL e c0=β A):α A.sum=32/\α A.aV<=8/\α A.aU<=8/\α A.key<=8:=by
 unfold fL at a;split at a
 .rename_i b;split at a
  .cases a
  .obtain rfl:=Β a;obtain⟨x,_,_⟩:=lG b;have c:=vz p b;have d:=EC c0.rows ⟨0,α c0.rows,([],[])⟩ acr acr;have h:=ED c0.kids _ c d.1 d.2;refine⟨p4 _,h.1,h.2,?_⟩;simp only[dF,keyOf];split
   .cases k:c0.rows with
    |nil=>simp
    |cons o r=>simp_all
   .split
    .cases k:c0.kids with
     |nil=>simp[aw]
     |cons o r=>exact(c o (by rw[k];simp)).key
    .simp
 .cases a
def EE(a:e<=8)(b:fL e c0=β A):A.cE:=by obtain⟨_,c,d,h⟩:=vB a b;exact⟨acq,acq,acq⟩
variable{H:ai}
theorem bs.len(a:bs f e i H)(b:α w=32)(c:H.m w=β j8):α j8<=1000000000000:=by obtain⟨d,_,h⟩:=a.mp;grind
def ei(d:ai)(a:Nat)(b:au):Option c4:=
 match d.m b.sum with
 |none=>ε
 |some h=>match qb a h with
  |none=>ε
  |some c=>if fL a c=β b then β c else ε
theorem vC(x:U)(X l1:Nat)(W:ai)(l2:bs x X l1 W)(c:au)(e f g:Own)(v:α c.sum=32)(a36:W.m c.sum≠ε->c.cE)(C:Nat)(l3:1<=C)(w:C<=8):
  AC γ 197 [.ptr X 0,.agg (ab c e f g),.v (.int .i64 (C:Int))] x λi G=>x.sub G/\match ei W C c with
   |none=>i=.aJ [yP,.v (.int .i64 21)]
   |some D=>∃d h,i=.aJ [gO D d h,.v (.int .i64 0)]/\gP x G D d h:=by
 refine bg hm QN acr ?_;have a:∀l4,(R.agg l4).cells=l4:=λ_=>rfl;have k:∀L y P d h l5:R,putAt [L,y,P] 0 [d,h,l5]=[d,h,l5]:=λ_ _ _ _ _ _=>rfl;have p:∀L y P,aQ ζ 3 [L,y,P]=.agg [L,y,P]:=λ_ _ _=>rfl;have o:∀L y P:R,[L,y,P].length=3:=λ_ _ _=>rfl;have Y:=aT (M:=e) (e7:=f) (j0:=g) v;have A:=Y.len;have B:=(aT (M:=.nil) (e7:=.nil) (j0:=.nil) bm).len;refine al (c2 @a @A) ?_;refine aN λj a06=>?_;refine al (c2 @a @A) ?_;refine aN λz H=>?_;have I:j≠z:=by rintro rfl;rw[μ]at H;cases H
 have l6:x z=none:=by rw[ξ _ _ (Δ I)]at H;exact H
 have a38:=Δ I;obtain⟨S,K⟩:∃S:U,S=(x.set j (.cells (ab c e f g))).set z (.cells [.v (.int .u8 0),.J [] .nil,.J [] .nil]):=⟨_,rfl⟩;have l7:x.sub S:=by rw[K];exact κ (κ η a06) l6
 have aP:S j=β (.cells (ab c e f g)):=by rw[K,ξ _ _ I,μ]
 have bx:S z=β (.cells [.v (.int .u8 0),.J [] .nil,.J [] .nil]):=by rw[K,μ]
 have Z:∀(G)(M),x.sub G->x.sub (G.set z M):=λG M a07=>κ a07 l6;have a08:R.agg (c.sum.map ah)=bo c.sum:=rfl;simp -dsimp -implicitDefEqProofs (disch:=first|omega|assumption|(simp only[aX,Nat.reduceAdd];try omega)) only[go_sem,simprocAttr,-List.reduceReplicate,a,A,ξ,I,μ,Y.t32];rw[<-K,a08];refine ag (a0q S X l1 W (l2.mono l7) c.sum v) ?_;rintro i a09⟨k3,b⟩;have k4:=ο l7 k3;have k5:=k3 _ _ bx;have a10:=k3 _ _ aP;unfold ei;cases hm:W.m c.sum with
 |none=>rw[hm]at b;obtain rfl:=b;refine al (bl @a (τ k5) @k @o @p) ?_;exact⟨_,η,Z _ _ k4⟩
 |some y=>
  rw[hm]at b;obtain⟨M,rfl⟩:=b;refine al @a ?_;refine ag (a0M y M C l3 w a09 (l2.len v hm)) ?_;rintro i l8⟨k6,b⟩;have a11:=ο k4 k6;have l9:=k6 _ _ k5;have a13:=k6 _ _ a10;simp only;cases n0:qb C y with
  |none=>
   rw[n0]at b;obtain rfl:=b;refine al (aD @a @k @o) ?_;refine aN λE n1=>?_;have k7:z≠E:=by grind
   have a14:=Δ k7;refine al (de @a @k @o @p @ς @ξ @k7 @a14 (τ l9)) ?_;grind[η,ο,κ]
  |some D=>
   rw[n0]at b;obtain⟨d,h,rfl,T⟩:=b;simp -dsimp -implicitDefEqProofs (disch:=first|omega|assumption|(simp only[aX,Nat.reduceAdd];try omega)) only[go_sem,simprocAttr,-List.reduceReplicate,a,k,o,p];refine aN λE n1=>?_;have k7:z≠E:=by grind
   have a42:j≠E:=by grind
   obtain⟨l,k8⟩:∃l:U,l=l8.set E (.cells [.v (.int .u8 (D.kind.toNat)),d,h]):=⟨_,rfl⟩;have F:l8.sub l:=by rw[k8];exact κ η n1
   have cj:l E=β (.cells [.v (.int .u8 (D.kind.toNat)),d,h]):=by rw[k8,μ]
   refine al (bl @a @k @o @p @ς) ?_;rw[<-k8];obtain⟨a15,a16,a18⟩:=(T.mono F).L;refine ag (Ez D a15 a16 d h C l3 w l a18) ?_;rintro i n2⟨n3,b⟩;replace F:=ο F n3;replace T:=T.mono F;have N:=F _ _ l9;have n4:=F _ _ a13;have n5:=n3 _ _ cj;have a19:=ο a11 F;cases m:fL C D with
   |none=>
    rw[m]at b;obtain rfl:=b;have a27:putAt (ab aw .nil .nil .nil) 0 (ab aw .nil .nil .nil)=ab aw .nil .nil .nil:=cF bm bm;simp -dsimp -implicitDefEqProofs (disch:=first|omega|assumption|(simp only[aX,Nat.reduceAdd];try omega)) only[go_sem,simprocAttr,-List.reduceReplicate,a,k,o,p,cr,B];refine aN λV r=>?_;have O:z≠V:=by rintro rfl;rw[N]at r;cases r
    have n9:=Δ O;refine al (gV @a @k @o @p @cr @B @a27 @ς @ξ @O @n9 (τ N)) ?_;grind[η,ο,κ]
   |some n=>
    rw[m]at b;obtain⟨q,s,t,rfl⟩:=b;have k9:=(vB w m).1;have a29:=EE w m;have a00:=aT (M:=q) (e7:=s) (j0:=t) k9;have a01:=a00.len;have a02:putAt (ab aw .nil .nil .nil) 0 (ab n q s t)=ab n q s t:=cF bm k9;refine al (bz @a @k @o @p @cr @B @a01 @a02) ?_;refine aN λV r=>?_;have O:z≠V:=by rintro rfl;rw[N]at r;cases r
    have n9:=Δ O;have a30:j≠V:=by rintro rfl;rw[n4]at r;cases r
    have a43:E≠V:=by rintro rfl;rw[n5]at r;cases r
    obtain⟨u,a03⟩:∃u:U,u=n2.set V (.cells (ab n q s t)):=⟨_,rfl⟩;have Q:n2.sub u:=by rw[a03];exact κ η r
    refine al (oR @a @k @o @p @cr @B @a01 @a02 @ς @μ @ξ @a30 a00.t37 Y.t37 (ι n4) @A) ?_;rw[<-a03];have a04:=Q _ _ N;have a05:=Q _ _ n5;have a34:=ο a19 Q;replace T:=T.mono Q;refine ag (Ex n c q s t e f g u k9 v λ_=>a29) ?_;rintro _ u⟨rfl,rfl⟩;by_cases l0:n=c
    .refine al (bz @a @k @o @p @l0 @a9d (ι a05) (τ a04)) ?_;have:=T.set (ob:=.cells [.v (.int .u8 (D.kind.toNat)),d,h]) k5;refine⟨_,η,Z _ _ a34,?_⟩;simp only[m,l0,if_true];exact⟨d,h,rfl,this.base (Z _ _ k4)⟩
    .refine al (bz @a @k @o @p @l0 @a8U (ι a05) (τ a04)) ?_;grind[η]
theorem Ext.set{d h a:Nat}{b k:U}{ob:bt}(p:Ext d h b k)(r:b a=ε):Ext d h b (k.set a ob):=λo x y z c=>by
 have C:o≠a:=by rintro rfl;rw[r]at c;cases c
 rw[ξ _ _ C];exact p o x y z c
theorem a0N(b:U)(r G:Nat)(t:ai)(e:bs b r G t)(a:c4)(u v:Ψ)(L P:R)(o:Nat)(Y:1<=o)(g:o<=8)(w:fM b a L P u v):
  AC γ 172 [.ptr r 0,gO a L P,.v (.int .i64 (o:Int))] b λi x=>match fL o a with
   |none=>b.sub x/\i=.aJ [.agg (ab aw .nil .nil .nil),.v (.int .i64 1)]
   |some A=>bs x r G (eS t (cY a))/\Ext r G b x/\∃n0 n1 n2,i=.aJ [.agg (ab A n0 n1 n2),.v (.int .i64 0)]:=by
 refine bg hm Q0 acr ?_;have c:∀Z,(R.agg Z).cells=Z:=λ_=>rfl;have k3:∀y z C,aQ ζ 3 [y,z,C]=.agg [y,z,C]:=λ_ _ _=>rfl;have B:∀y z C:R,[y,z,C].length=3:=λ_ _ _=>rfl;have k4:∀y z C:R,List.take 3 [y,z,C]=[y,z,C]:=λ_ _ _=>rfl;have D:=(aT (M:=.nil) (e7:=.nil) (j0:=.nil) bm).len;have n3:=(aT (M:=.nil) (e7:=.nil) (j0:=.nil) bm).t37;have k5:putAt (ab aw .nil .nil .nil) 0 (ab aw .nil .nil .nil)=ab aw .nil .nil .nil:=cF bm bm;refine al (c2 @c @B) ?_;refine aN λj n4=>?_;refine al (aD @c @cr @D) ?_;refine aN λd l=>?_;have H:j≠d:=by rintro rfl;rw[μ]at l;cases l
 have E:b d=none:=by rw[ξ _ _ (Δ H)]at l;exact l
 obtain⟨S,m⟩:∃S:U,S=(b.set j (.cells [.v (.int .u8 (a.kind.toNat)),L,P])).set d (.cells (ab aw .nil .nil .nil)):=⟨_,rfl⟩;have k6:b.sub S:=by rw[m];exact κ (κ η n4) E
 have aP:S j=β (.cells [.v (.int .u8 (a.kind.toNat)),L,P]):=by rw[m,ξ _ _ H,μ]
 have bx:S d=β (.cells (ab aw .nil .nil .nil)):=by rw[m,μ]
 have a08:∀(x)(k7),b.sub x->b.sub (x.set d k7):=λx k7 h=>κ h E;refine al (de @c @cr @D @B @k3 @k4 @ξ @H @μ) ?_;rw[<-m];refine ag (Ez a u v L P o Y g S (w.mono k6)) ?_;rintro i k8⟨I,F⟩;have k9:=ο k6 I;have l0:=I _ _ aP;have n:=I _ _ bx;cases K:fL o a with
 |none=>
  rw[K]at F;obtain rfl:=F;simp -dsimp -implicitDefEqProofs (disch:=first|omega|assumption|(simp only[aX,Nat.reduceAdd];try omega)) only[go_sem,simprocAttr,-List.reduceReplicate,c,cr,D,k5];refine aN λp k=>?_;have l1:d≠p:=by rintro rfl;rw[n]at k;cases k
  have n5:=Δ l1;refine al (cj @c @cr @D @k5 @n3 @ς @ξ @l1 @n5 (τ n)) ?_;grind[η,ο,κ]
 |some q=>
  rw[K]at F;obtain⟨T,V,W,rfl⟩:=F;have l2:dZ o a=true:=by grind[fL]
  have l3:=(vB g K).1;have l4:=aT (M:=T) (e7:=V) (j0:=W) l3;have M:=l4.len;have N:putAt (ab aw .nil .nil .nil) 0 (ab q T V W)=ab q T V W:=cF bm l3;refine al (bl @c @cr @D @M @N) ?_;refine aN λp k=>?_;have n9:j≠p:=by rintro rfl;rw[l0]at k;cases k
  have s:=Ι k9 k;have a09:d≠p:=by rintro rfl;rw[n]at k;cases k
  obtain⟨f,O⟩:∃f:U,f=k8.set p (.cells (ab q T V W)):=⟨_,rfl⟩;have l5:k8.sub f:=by rw[O];exact κ η k
  have bz:f p=β (.cells (ab q T V W)):=by rw[O,μ]
  refine al (gV @c @cr @D @M @N @ς @ξ @n9 (ι l0) @k3 @B @k4) ?_;rw[<-O];have l6:=ο k9 l5;refine ag (yK a u v L P o Y g f (w.mono l6)) ?_;rintro i a00⟨Q,F⟩;rw[tq,if_pos l2]at F;obtain⟨a01,rfl⟩:=F;have l7:=ο l6 Q;have a10:=yM g l2 λA a02=>(w.kids.all A a02).1;refine al @c ?_;refine ag (a0s a00 r G t (e.mono l7) (cY a) a01 acq) ?_;rintro _ a11⟨rfl,a03,X⟩;have l8:d≠r:=by rintro rfl;obtain⟨_,_,h⟩:=e.at_;rw[h]at E;cases E
  have l9:d≠G:=by rintro rfl;obtain⟨_,⟨_,_,h,_⟩,_⟩:=e.mp;rw[h]at E;cases E
  have a04:p≠r:=by rintro rfl;obtain⟨_,_,h⟩:=e.at_;rw[h]at s;cases s
  have a05:p≠G:=by rintro rfl;obtain⟨_,⟨_,_,h,_⟩,_⟩:=e.mp;rw[h]at s;cases s
  have a06:=X _ _ l8 l9 (Q _ _ (l5 _ _ n));have a07:=X _ _ a04 a05 (Q _ _ bz);refine al (cb @c (ι a07) (τ a06) l4.t37 @M @D @N) ?_;refine⟨_,η,a03.other (ξ _ _ (Δ l8)) (ξ _ _ (Δ l9)),?_,T,V,W,rfl⟩;exact((ψ l7).trans X).set E
end Go.Proofs.YtkafjfkjahgihaaGreat
namespace Go.a6
def val:List Bool->Nat
 |[]=>0
 |b::a=>(if b then 2^α a else 0)+val a
theorem nT:∀a:List Bool,val a<2^α a
 |[]=>by simp[val]
 |b::a=>by
  have:=nT a;simp only[val,a8m,abI];split<;>omega
def lexB:List Bool->List Bool->Bool
 |b::c,a::d=>if b=a then lexB c d else a
 |_,_=>θ
def qh:∀ {a b:List Bool},α a=α b->(val a<val b↔lexB a b=ζ)
 |[],[],_=>by trivial
 |d::a,h::b,k=>by
  have c:α a=α b:=by simpa using k
  have o:=nT a;have p:=nT b;simp only[val,lexB];rw[c]at o|-;cases d<;>cases h<;>simp[<-qh c]<;>omega
theorem val_inj:∀ {a b:List Bool},α a=α b->val a=val b->a=b
 |[],[],_,_=>rfl
 |h::a,k::b,o,c=>by
  have d:α a=α b:=by simpa using o
  have p:=nT a;have r:=nT b;simp only[val]at c;rw[d]at p c;have:h=k:=by grind
  subst this;rw[val_inj d acq]
theorem EF{b c a d:List Bool}(h:α b=α a):lexB (b++c) (a++d)=if b=a then lexB c d else lexB b a:=by
 induction b generalizing a with
 |nil=>grind
 |cons k b ih=>
  match a,h with
  |o::a,h=>grind[lexB]
def fO(a:Φ)(b:Nat):List Bool:=a.map (·.testBit b)
def cf(a:Φ):Nat->List Bool
 |0=>[]
 |b+1=>fO a b++cf a b
def EG(b:Φ):∀a,(cf b a).length=α b*a
 |0=>by rfl
 |a+1=>by simp[cf,fO,EG b a,Nat.mul_succ];omega
def pick(b:(Nat×Nat)×Nat)(a:Nat×Nat):(Nat×Nat)×Nat:=
 if b.2<a.1^^^a.2/\b.2<b.2^^^(a.1^^^a.2)then(a,a.1^^^a.2)else b
variable{e i v O e0 j6:Nat}
def a0O(a:i<2^e)(b:v<2^e):i^^^v<2^e:=aaw a b
def vD(a:e.testBit i=ζ):2^i<=e:=Nat.ge_two_pow_of_testBit a
theorem tC(a:e<2^(i+1))(b:e.testBit i=θ):e<2^i:=by grind[Nat.lt_pow_two_of_testBit,Nat.testBit_lt_two_pow,Nat.lt_of_lt_of_le,Nat.pow_le_pow_right]
def EH{c:Nat}:∀(d:List (Nat×Nat))(b:(Nat×Nat)×Nat),b.2.testBit c=ζ->b.2<2^(c+1)->(∀a∈d,a.1^^^a.2<2^(c+1))->d.foldl pick b=b
 |[],b,_,_,_=>rfl
 |a::d,b,k,o,p=>by
  have h:=p a acr;have:pick b a=b:=by
   simp only[pick];rw[if_neg];rintro⟨x,y⟩;have z:=vD k;cases cm:(a.1^^^a.2).testBit c with
   |false=>have:=tC h cm;omega
   |true=>
    have r:(b.2^^^(a.1^^^a.2)).testBit c=false:=by rw[abn,k,cm];rfl
    have:=tC (a0O o h) r;omega
  rw[a9e,this];exact EH d b k o (λa h=>p a (by simp[h]))
theorem a0P{b:(Nat×Nat)×Nat}{a:Nat×Nat}(c:b.2<2^e)(d:(a.1^^^a.2).testBit e=ζ):pick b a=(a,a.1^^^a.2):=by simp only[pick];refine if_pos ⟨a9y c (vD d),a9y c (vD ?_)⟩;grind[Nat.testBit_lt_two_pow]
theorem EI(b:i.testBit e=θ)(c:v.testBit e=ζ)(d:∀a,e<a->i.testBit a=v.testBit a):i<v:=by
 have h:i>>>(e+1)=v>>>(e+1):=aaA λa=>by
  grind
 have k:i%2^(e+1)<2^e:=tC (aa7 _ (Nat.two_pow_pos _)) (by grind);have o:2^e<=v%2^(e+1):=vD (by grind);grind[Nat.div_add_mod,Nat.shiftRight_eq_div_pow]
theorem a0Q(o:i^^^v<2^(e+1))(b:i.testBit e≠v.testBit e):i<v↔v.testBit e=true:=by
 have h:∀a,e<a->i.testBit a=v.testBit a:=λa k=>by
  have p:(i^^^v).testBit a=false:=aad (a9y o (a9X acq acq));simp_all
 cases c:v.testBit e with
 |true=>
  have d:i.testBit e=false:=by rw[c]at b;simpa using b
  simp only[iff_true];exact EI d c h
 |false=>
  have d:i.testBit e=true:=by rw[c]at b;simpa using b
  have:=EI c d (λa k=>(h a k).symm);grind
theorem EJ(a:Nat):∀(b c:Φ),α b=α c->(∀h∈b.zip c,h.1^^^h.2<2^(a+1))->fO b a≠fO c a->∀o:(Nat×Nat)×Nat,o.2<2^a->
  (((b.zip c).foldl pick o).1.1<((b.zip c).foldl pick o).1.2↔lexB (fO b a) (fO c a)=ζ)
 |[],[],_,_,x,_,_=>absurd rfl x
 |p::b,r::c,E,y,z,o,C=>by
  have F:α b=α c:=by simpa using E
  have d:=y (p,r) acr;simp only[List.zip_cons_cons,a9e,fO,a8C,lexB]at z|-;by_cases k:p.testBit a=r.testBit a
  .rw[if_pos k];have G:(p^^^r).testBit a=false:=by rw[abn,k];simp
   refine EJ a b c F (λh d=>y h (by simp[d])) (λx=>z ?_) _ ?_
   .rw[k];exact congrArg _ x
   .simp only[pick];split
    .exact tC d G
    .exact C
  .rw[if_neg k];have D:(p^^^r).testBit a=true:=by simp_all
   rw[a0P C D,EH _ _ D d (λh d=>y h (by simp[d]))];exact a0Q d k
theorem a0R{b c:Φ}(r:α b=α c)(k:∀a∈b.zip c,a.1^^^a.2<2^(e+1))(o:fO b e=fO c e):∀a∈b.zip c,a.1^^^a.2<2^e:=by
 intro a d;refine tC (k a d) ?_;obtain⟨h,p,rfl⟩:=a8S d;simp only[List.length_zip]at p;have x:(fO b e)[h]?=(fO c e)[h]? :=by rw[o]
 grind[fO,List.getElem?_eq_getElem,Option.some.injEq]
theorem EK:∀(d:Nat)(b c:Φ),α b=α c->(∀h∈b.zip c,h.1^^^h.2<2^d)->∀a:Nat×Nat,a∈b.zip c->
  (((b.zip c).foldl pick (a,0)).1.1<((b.zip c).foldl pick (a,0)).1.2↔lexB (cf b d) (cf c d)=ζ)
 |0,b,c,o,p,a,r=>by
  have:∀(k:List (Nat×Nat)),(∀h∈k,h.1^^^h.2<2^0)->k.foldl pick (a,0)=(a,0):=by
   intro k
   induction k with
   |nil=>intro _;rfl
   |cons h k ih=>simp_all [pick]
  rw[this _ p];have z:=p a r;have x:a.1=a.2:=aaA λy=>by
   have C:(a.1^^^a.2).testBit y=false:=by simp_all
   grind
  simp[cf,lexB,x]
 |d+1,b,c,o,p,a,r=>by
  simp only[cf];rw[EF (by simp[fO,o])];by_cases he:fO b d=fO c d
  .rw[if_pos he];exact EK d b c o (a0R o p he) a r
  .rw[if_neg he];grind[EJ,Nat.two_pow_pos]
theorem a0S{c d:Φ}(p:α c=α d):∀a,cf c a=cf d a->(∀h∈c,h<2^a)->(∀h∈d,h<2^a)->c=d:=by
 intro a r y z;have x:∀a,cf c a=cf d a->∀b,b<a->fO c b=fO d b:=by
  intro a
  induction a with
  |zero=>intro _ b k;omega
  |succ a ih=>grind[cf,List.append_inj,fO]
 refine abJ p λo C D=>aaA λb=>?_;by_cases k:b<a
 .have E:(fO c b)[o]?=(fO d b)[o]? :=by rw[x a r b k]
  grind[fO,List.getElem?_eq_getElem]
 grind[Nat.lt_of_lt_of_le,List.getElem_mem,Nat.pow_le_pow_right,Nat.testBit_lt_two_pow]
def iQ:Nat->List Bool->Υ
 |0,_=>[]
 |b+1,a=>ν (val (a.take 8))::iQ b (a.drop 8)
def EL:∀(a:Nat)(b:List Bool),(iQ a b).length=a
 |0,_=>rfl
 |a+1,b=>by simp[iQ,EL a]
def tD:Υ->Υ->Bool
 |a::c,b::d=>if a=b then tD c d else decide (a<b)
 |_,_=>θ
theorem a0T(b:e<256)(c:i<256)(a:ν e=ν i):e=i:=by have:=congrArg UInt8.toNat a;grind[UInt8.toNat_ofNat',Nat.mod_eq_of_lt]
theorem EM:∀(c:Nat)(a b:List Bool),α a=8*c->α b=8*c->tD (iQ c a) (iQ c b)=lexB a b
 |0,a,b,d,r=>by
  obtain rfl:=a8q (by simpa using d);obtain rfl:=a8q (by simpa using r);rfl
 |c+1,a,b,x,hm=>by
  have h:(a.take 8).length=8:=acs;have k:(b.take 8).length=8:=acs;have o:val (a.take 8)<256:=by grind[nT]
  have p:val (b.take 8)<256:=by grind[nT]
  have ih:=EM c (a.drop 8) (b.drop 8) acs acs
  conv=>rhs;rw[<-a8K 8 a,<-a8K 8 b]
  rw[EF (h.trans k.symm)];simp only[iQ,tD];by_cases he:a.take 8=b.take 8
  .rw[he];simp[ih]
  .rw[if_neg he,if_neg (λd=>he (val_inj (h.trans k.symm) (a0T o p d)))];have:=qh (h.trans k.symm);have y:ν (val (a.take 8))<ν (val (b.take 8))↔val (a.take 8)<val (b.take 8):=by rw[UInt8.lt_iff_toNat_lt];simp[a9K o,a9K p]
   simp_all
def a0U{b a c:List Bool}(d:α b=α a)(h:α a=α c)(k:lexB b a=ζ)(o:lexB a c=ζ):lexB b c=true:=by rw[<-qh d]at k;rw[<-qh h]at o;rw[<-qh (d.trans h)];omega
theorem a0V{a b:List Bool}(c:α a=α b)(d:lexB a b=θ)(h:lexB b a=θ):a=b:=by refine val_inj c ?_;have k:=qh c;have o:=qh c.symm;grind
end Go.a6
namespace Go.Proofs.YtkafjfkjahgihaaGreat
open Go Go.bD
variable{e i v O e0 j6:Nat}
theorem EN(b:e<18446744073709551616)(c:i<18446744073709551616):br .xor (.int .u64 (e:Int)) (.int .u64 (i:Int))=β (.int .u64 ((e^^^i:Nat):Int)):=by
 have d:br .xor (.int .u64 (e)) (.int .u64 (i))=β (.int .u64 (IntKind.u64.wrap (π 64 (e)^^^π 64 (i)).toNat)):=rfl;have h:∀a:Nat,a<18446744073709551616->(π 64 (a)).toNat=a:=λa k=>by simp;omega
 grind[Nat.xor_lt_two_pow,BitVec.toNat_xor,wrap_u64]
def p8(a:Int):cq a<18446744073709551616:=(π 64 a^^^π 64 9223372036854775808).isLt
def EO(b:Int)(a:U):AC γ 231 [.v (.int .i64 b)] a λc d=>d=a/\c=.v (.int .u64 (cq b:Int)):=by refine bg hm Ru acr ?_;refine al @E7 ?_;exact⟨a,η,rfl⟩
def a0W(a:Int)(b:U):AC γ 230 [.v (.int .i64 a)] b λd h=>h=b/\d=.v (.bool (decide (1<=a)&&decide (a<=8))):=by
 refine bg hm Rs acr ?_;by_cases c:1<=a
 .refine al @c ?_;exact⟨b,η,by simp[]⟩
 .refine al @c ?_;exact⟨b,η,by simp[]⟩
def gQ(b:(Int×Int)×Nat)(a:Int×Int):(Int×Int)×Nat:=
 if b.2<cq a.1^^^cq a.2/\b.2<b.2^^^(cq a.1^^^cq a.2)then(a,cq a.1^^^cq a.2)else b
def bF(a b:Τ):Bool:=
 if 1<=α a/\α a<=8/\α b=α a then
  decide (((a.zip b).foldl gQ ((a.zip b).headD (0,0),0)).1.1<((a.zip b).foldl gQ ((a.zip b).headD (0,0),0)).1.2)
 else θ
theorem yQ(a c:Τ)(i j:Own)(E:U):
  AC γ 171 [.J (af a) i,.J (af c) j] E λI P=>P=E/\I=.v (.bool (bF a c)):=by
 refine bg hm PY acr ?_;have D:=bM (t:=a);have S:=bM (t:=c);refine al @D ?_;refine ag (a0W _ _) ?_;rintro _ E⟨rfl,rfl⟩;unfold bF;by_cases h1:1<=α a/\α a<=8
 .have l:(1:Int)<=α a:=acq;have m:(α a:Int)<=8:=acq;by_cases n:(α c:Int)=α a
  .have T:α c=α a:=acq;rw[if_pos ⟨h1.1,h1.2,T⟩];refine al (bx @D @S @l @m @n @a9d) ?_;have Z:(a.zip c).length=α a:=by simp[T]
   have q:∀b,b<α a->∃d,(a.zip c)[b]?=β d/\a[b]?=β d.1/\c[b]?=β d.2:=λb K=>by
    simp_all
   obtain⟨F,G,M,N⟩:=q 0 acq;have O:(a.zip c).headD (0,0)=F:=by
    cases s:a.zip c with
    |nil=>rw[s]at G;cases G
    |cons k3 k4=>rw[s]at G;simpa using G
   rw[O];refine cv (λk P=>∃(b o:Nat)(h:(Int×Int)×Nat),b<=α a/\o<α a/\P=E/\h=((a.zip c).take b).foldl gQ (F,0)/\h.2<18446744073709551616/\a[o]?=β h.1.1/\c[o]?=β h.1.2/\
     k 0=.J (af a) i/\k 1=.J (af c) j/\k 5=.v (.int .i64 o)/\k 6=.v (.int .u64 h.2)/\k 21=.v (.int .i64 (α a))/\k 22=.v (.int .i64 b))
    (λk _=>match k 22 with|.v (.int _ Q)=>α a - Q.toNat|_=>0) ⟨0,0,(F,0),acq,acq,rfl,acr,acr,M,N,?_⟩ ?_
   .exact ch @D
   rintro k t⟨b,o,h,K,u,rfl,V,L,W,e,p,r,x,y,z,C⟩;by_cases f:(b:Int)<α a
   .obtain⟨d,X,v,w⟩:=q b acq;have Y:((a.zip c).take (b+1)).foldl gQ (F,0)=gQ h d:=by rw[a9x,X,aaa,<-V];rfl
    simp -dsimp -implicitDefEqProofs (disch:=first|omega|assumption|(simp only[aX,Nat.reduceAdd];try omega)) only[go_sem,simprocAttr,-List.reduceReplicate,p,r,x,y,z,C,f,gq v,gq w,p5];refine ag (EO d.1 _) ?_;rintro _ t⟨rfl,rfl⟩;simp -dsimp -implicitDefEqProofs (disch:=first|omega|assumption|(simp only[aX,Nat.reduceAdd];try omega)) only[go_sem,simprocAttr,-List.reduceReplicate,p,r,x,y,z,C,f,gq v,gq w,p5];refine ag (EO d.2 _) ?_;rintro _ t⟨rfl,rfl⟩;have A:cq d.1^^^cq d.2<18446744073709551616:=aaw (n:=64) (p8 _) (p8 _);have k5:h.2^^^(cq d.1^^^cq d.2)<18446744073709551616:=aaw (n:=64) L A;have cu:=EN (p8 d.1) (p8 d.2);have cp:=EN L A;rw[gQ]at Y;generalize cq d.1^^^cq d.2=B at*;by_cases g:(h.2)<(B:Int)
    .by_cases H:(h.2)<((h.2^^^B):Int)
     .simp -dsimp -implicitDefEqProofs (disch:=first|omega|assumption|(simp only[aX,Nat.reduceAdd];try omega)) only[go_sem,simprocAttr,-List.reduceReplicate,p,r,x,y,z,C,cu,cp,g,H];grind
     .simp -dsimp -implicitDefEqProofs (disch:=first|omega|assumption|(simp only[aX,Nat.reduceAdd];try omega)) only[go_sem,simprocAttr,-List.reduceReplicate,p,r,x,y,z,C,cu,cp,g,H];refine⟨⟨b+1,o,h,acq,u,?_,L,W,e,?_⟩,acq⟩
      .grind
      .simp
    .simp -dsimp -implicitDefEqProofs (disch:=first|omega|assumption|(simp only[aX,Nat.reduceAdd];try omega)) only[go_sem,simprocAttr,-List.reduceReplicate,p,r,x,y,z,C,cu,cp,g];refine⟨⟨b+1,o,h,acq,u,?_,L,W,e,?_⟩,acq⟩
     .grind
     .simp
   .obtain rfl:b=α a:=acq;rw[Ο acq]at V;simp -dsimp -implicitDefEqProofs (disch:=first|omega|assumption|(simp only[aX,Nat.reduceAdd];try omega)) only[go_sem,simprocAttr,-List.reduceReplicate,p,r,x,y,z,C,f,gq W,gq e,p5];exact⟨_,η,rfl,by rw[V]⟩
  .have T:¬α c=α a:=acq;refine al (bx @D @S @l @m @n @a9d) ?_;exact⟨_,η,rfl,by simp_all⟩
 .have:(decide ((1:Int)<=α a)&&decide ((α a:Int)<=8))=false:=by grind
  refine al (aP @D @S @this @a8U) ?_;exact⟨_,η,rfl,by grind⟩
def mM(a b:Τ):Int:=if bF a b=ζ then -1 else if bF b a=ζ then 1 else 0
def EP(a b:Τ)(d h:Own)(c:U):
  AC γ 109 [.J (af a) d,.J (af b) h] c λk o=>o=c/\k=.v (.int .i64 (mM a b)):=by
 refine bg hm Od acr ?_;refine bX ?_;refine ag (yQ a b d h c) ?_;rintro _ c⟨rfl,rfl⟩;unfold mM;cases h1:bF a b with
 |true=>refine bX ?_;exact⟨_,η,rfl⟩
 |false=>
  refine bX ?_;refine ag (yQ b a h d c) ?_;rintro _ c⟨rfl,rfl⟩;cases p:bF b a with
  |true=>refine bX ?_;exact⟨_,η,rfl⟩
  |false=>refine bX ?_;exact⟨_,η,rfl⟩
end Go.Proofs.YtkafjfkjahgihaaGreat
namespace Go.a6
variable{b2:Type}
def fe:Nat->List b2->List (List b2)
 |0,_=>[]
 |b+1,a=>a.take (α a/(b+1)+if 0<α a%(b+1)then 1 else 0)::fe b (a.drop (α a/(b+1)+if 0<α a%(b+1)then 1 else 0))
def bY(a:Nat):Nat:=(a+3)/4
def chunks(a:List b2):List (List b2):=fe (bY (α a)) a
theorem ER:∀(a:Nat)(b:List b2),fe a b=(χ a).map λh=>(b.drop (h*(α b/a)+min h (α b%a))).take (α b/a+if h<α b%a then 1 else 0)
 |0,b=>rfl
 |a+1,b=>by
  have y:=aaX (α b) (a+1);have z:=aa7 (α b) (ack a);simp only[fe];generalize C:α b/(a+1)=d at*;generalize D:α b%(a+1)=c at*;rw[ER a,abW,a8C,aae];congr 1
  .simp
  .by_cases p:a=0
   .subst p;simp
   have k:(b.drop (d+if 0<c then 1 else 0)).length=d*a+(c - if 0<c then 1 else 0):=by grind
   have o:c -(if 0<c then 1 else 0)<a:=by split<;>omega
   have r:(b.drop (d+if 0<c then 1 else 0)).length/a=d:=by rw[k,acj,Nat.mul_add_div acq,Nat.div_eq_of_lt o];rfl
   have x:(b.drop (d+if 0<c then 1 else 0)).length%a=c - if 0<c then 1 else 0:=by rw[k,acj,Nat.mul_add_mod,a9K o]
   rw[r,x];refine a9R λh E=>?_;simp only[Function.comp,a8T];grind
def ES:∀(a:Nat)(b:List b2),(0<a\/b=[])->(fe a b).flatten=b
 |0,b,c=>by rcases c with c|c;(·omega);(·subst c;rfl)
 |a+1,b,_=>by
  simp only[fe,a9Z];rw[ES a,a8K];by_cases d:a=0
  .right;subst d;simp
  .left;omega
def chunks_flatten(a:List b2):(chunks a).flatten=a:=ES _ _ (by
 cases a with
 |nil=>simp
 |cons b a=>left;simp only[bY,a8m];omega)
theorem qi{a:List b2}(b:1<=α a)(c:α a<=4):chunks a=[a]:=by
 have:bY (α a)=1:=by unfold bY;omega
 simp[chunks,this,fe,Nat.mod_one]
theorem tE{a:List b2}(b:α a=5):chunks a=[a.take 3,a.drop 3]:=by simp_all [bY,chunks,fe,Ο]
abbrev Row:=Τ
structure yR where
 rows:List Row
structure yS(a:Type) where
 kids:List a
def T:Nat->Type
 |0=>yR
 |a+1=>yS (T a)
def leaf(a:List Row):T 0:=yR.mk a
variable{e i v O e0 j6:Nat}
def node(a:List (T e)):T (e+1):=yS.mk a
def rows(a:T 0):List Row:=yR.rows a
def kids{a:Nat}(b:T (a+1)):List (T a):=yS.kids b
variable{j5:List Row}
theorem rK:rows (leaf j5)=j5:=rfl
theorem fw{a:List (T e)}:kids (node a)=a:=rfl
def ik(a:T 0):∃b,a=leaf b:=⟨rows a,rfl⟩
def gr(a:T (e+1)):∃b,a=node b:=⟨kids a,rfl⟩
def len: {b:Nat}->T b->Nat
 |0,a=>(rows a).length
 |_+1,a=>(kids a).length
def bd:(a:Nat)->T a->List Row
 |0,b=>rows b
 |a+1,b=>(kids b).flatMap (bd a)
theorem il:len (leaf j5)=α j5:=rfl
def dR{a:List (T e)}:len (node a)=α a:=rfl
theorem kN:bd 0 (leaf j5)=j5:=rfl
theorem fP{a:List (T e)}:bd (e+1) (node a)=a.flatMap (bd e):=rfl
theorem ET(a:List Row):((chunks a).map leaf).flatMap (bd 0)=a:=by
 conv=>rhs;rw[<-chunks_flatten a]
 rw[abd,aae];congr 1;exact List.map_id _
theorem EU(a:List (T e)):((chunks a).map node).flatMap (bd (e+1))=a.flatMap (bd e):=by
 conv=>rhs;rw[<-chunks_flatten a]
 induction chunks a with
 |nil=>rfl
 |cons b c ih=>rw[a8C,a8I,ih,a9Z,a9a];rfl
def WF:(b:Nat)->T b->Prop
 |0,a=>2<=len a/\len a<=4
 |b+1,a=>2<=len a/\len a<=4/\∀c∈kids a,WF b c
def lJ:(a:Nat)->T a->Prop
 |0,_=>True
 |a+1,b=>∀c∈kids b,WF a c
theorem hd{a:T e}:WF e a↔2<=len a/\len a<=4/\lJ e a:=by
 cases e with
 |zero=>simp[WF,lJ]
 |succ e=>rfl
def kb(b:Nat)(a:T b):Prop:=1<=len a/\len a<=4/\lJ b a/\(0<b->2<=len a)
theorem kb.of{a:T e}(b:WF e a):kb e a:=by have:=hd.1 b;exact⟨acq,this.2.1,this.2.2,λ_=>this.1⟩
def yT:∀ {a:T e},1<=len a->lJ e a->bd e a≠[]:=by
 induction e with
 |zero=>intro a c _ b;obtain⟨d,rfl⟩:=ik a;rw[kN]at b;subst b;trivial
 |succ e ih=>
  intro a c h b;obtain⟨d,rfl⟩:=gr a;rw[dR]at c
  match d,c with
  |k::d,_=>rw[fP,a8I]at b;have o:=hd.1 (h k aa6);exact ih acq o.2.2 (List.append_eq_nil_iff.1 b).1
def cQ(a:Nat)(b:T a):Row:=(bd a b).headD []
section
variable(lt:Row->Row->Bool)
structure Ord(ok:Row->Prop):Prop where
 kc:∀p,lt p p=θ
 trans:∀p a r,ok p->ok a->ok r->lt p a=ζ->lt a r=ζ->lt p r=ζ
 total:∀p a,ok p->ok a->lt p a=θ->lt a p=θ->p=a
def cU(a:Row):List Row->Nat
 |_::b::c=>if lt a b then 0 else cU a (b::c)+1
 |_=>0
def ec(c:List Row)(a:Row):List Row:=c.takeWhile (λb=>lt b a)++a::c.dropWhile (λb=>lt b a)
def ff(c:Row):(b:Nat)->T b->List (T b)
 |0,a=>(chunks (ec lt (rows a) c)).map leaf
 |b+1,a=>
  match(kids a)[cU lt c ((kids a).map (cQ b))]? with
  |some d=>(chunks ((kids a).take (cU lt c ((kids a).map (cQ b)))++ff c b d++(kids a).drop (cU lt c ((kids a).map (cQ b))+1))).map node
  |none=>[]
def kO: {a:Nat}->T a->T a->List (T a)
 |0,b,c=>(chunks (rows b++rows c)).map leaf
 |_+1,b,c=>(chunks (kids b++kids c)).map node
def lK(b:List (T e))(a:Nat)(c:T e):List (T e):=
 if 2<=len c then b.set a c
 else match b[if a=0 then 1 else a - 1]? with
  |some d=>b.take (a - 1)++(if a=0 then kO c d else kO d c)++b.drop (a - 1+2)
  |none=>[]
def cL(c:Row):(b:Nat)->T b->T b
 |0,a=>leaf ((rows a).filter λd=>decide (d≠c))
 |b+1,a=>
  match(kids a)[cU lt c ((kids a).map (cQ b))]? with
  |some h=>node (lK (kids a) (cU lt c ((kids a).map (cQ b))) (cL c b h))
  |none=>a
end
theorem EV(c:2<=α j5)(d:α j5<=5):(∀b∈(chunks j5).map leaf,WF 0 b)/\1<=(chunks j5).length/\(chunks j5).length<=2/\(α j5<=4->(chunks j5).length=1):=by
 by_cases a:α j5=5
 .rw[tE a];simp[WF,a,il]
 .rw[qi acq acq];simp only[a8C,a9z,a8B,forall_eq,a9L,WF,il];grind
theorem EW{a:List (T e)}(d:2<=α a)(h:α a<=5)(k:∀b∈a,WF e b):(∀b∈(chunks a).map node,WF (e+1) b)/\1<=(chunks a).length/\(chunks a).length<=2/\(α a<=4->(chunks a).length=1):=by
 by_cases c:α a=5
 .rw[tE c];simp only[a8C,a9z,a8E,a9n,or_false,forall_eq_or_imp,forall_eq,a8m,a8s,WF,dR,fw];grind
 .rw[qi acq acq];simp only[a8C,a9z,a8B,forall_eq,a9L,WF,dR,fw];grind
variable{h8:Row}
section
variable{lt:Row->Row->Bool}{ok:Row->Prop}
abbrev js(a:Row->Row->Bool)(b:List Row):Prop:=b.Pairwise λc d=>a c d=ζ
theorem yU{a:List Row}(c:∀b∈j5,lt b h8=ζ):ec lt (j5++a) h8=j5++ec lt a h8:=by unfold ec;simp_all
theorem a0X{b:List Row}(h:∀a∈j5,lt a h8=θ):ec lt (b++j5) h8=ec lt b h8++j5:=by
 have c:j5.takeWhile (λa=>lt a h8)=[]/\j5.dropWhile (λa=>lt a h8)=j5:=by
  cases j5 with
  |nil=>trivial
  |cons k j5=>simp_all
 induction b with
 |nil=>simp[ec,c.1,c.2]
 |cons d b ih=>unfold ec at ih|-;by_cases c3:lt d h8=ζ;simp_all;simp_all
theorem tF{a:Row}:h8∈ec lt j5 a↔h8=a\/h8∈j5:=by grind[ec,List.takeWhile_append_dropWhile]
theorem p9:(ec lt j5 h8).length=α j5+1:=by unfold ec;have:=congrArg α (a9b (p:=λa=>lt a h8) (l:=j5));grind
def a0Y(p:Ord lt ok)(r:js lt j5)(h:∀c∈j5,ok c)(x:ok h8)(y:h8∉j5):js lt (ec lt j5 h8):=by
 induction j5 with
 |nil=>simp[ec]
 |cons a j5 ih=>
  have k:=a8R.1 r;have ih:=ih k.2 (λc b=>h c (by simp[b])) (λo=>y (by simp[o]));by_cases c3:lt a h8=ζ
  .have d:ec lt (a::j5) h8=a::ec lt j5 h8:=yU (j5:=[a]) (by simpa using c3);rw[d];refine a8R.2 ⟨λc b=>?_,ih⟩;rcases tF.1 b with rfl|b
   .exact c3
   .exact k.1 c b
  .have d:ec lt (a::j5) h8=h8::a::j5:=by simp[ec,c3]
   rw[d];have z:lt h8 a=true:=by
    cases o:lt h8 a with
    |true=>rfl
    |false=>exact absurd (p.total h8 a x (h a acr) o (by simpa using c3)) (λd=>y (by simp[d]))
   refine a8R.2 ⟨λc b=>?_,r⟩;rcases a8E.1 b with rfl|b
   .exact z
   .exact p.trans h8 a c x (h a acr) (h c (by simp[b])) z (k.1 c b)
theorem EX(p:Ord lt ok){d:Row}(r:ok d):∀(h:List (List Row)),h≠[]->(∀D∈h,D≠[])->js lt h.flatten->(∀a∈h.flatten,ok a)->
  cU lt d (h.map (·.headD []))<α h/\(∀a∈(h.take (cU lt d (h.map (·.headD [])))).flatten,lt a d=ζ)/\(∀a∈(h.drop (cU lt d (h.map (·.headD []))+1)).flatten,lt d a=ζ)
 |[],V,_,_,_=>absurd rfl V
 |[W],_,_,_,_=>by simp[cU]
 |W::k::x,_,e,m,y=>by
  simp only[a8C,cU];obtain⟨c,z,C⟩:∃c z,k=c::z:=by
   cases C:k with
   |nil=>simp_all
   |cons c z=>simp
  have G:k.headD []=c:=by rw[C];rfl
  have E:=y c (by simp[C]);have F:js lt (k::x).flatten:=by grind
  rw[G];by_cases o:lt d c=ζ
  .rw[if_pos o];refine⟨acr,acr,λa b=>?_⟩;simp only[a9A,a9I]at b;have f:(k::x).flatten=c::(z++x.flatten):=by rw[C];rfl
   rw[f]at b F;rcases a8E.1 b with rfl|b
   .exact o
   .refine p.trans d c a r E (y a ?_) o ((a8R.1 F).1 a b);simp_all
  .rw[if_neg o];have ih:=EX p r (k::x) acr (λD L=>e D (by simp at L|-;exact .inr L)) F (λa b=>y a (by simp_all));simp only[a8C,G]at ih;obtain⟨g,i,j⟩:=ih;refine⟨by simp at g|-;omega,λa b=>?_,λa b=>j a (by trivial)⟩;simp only[aaD,a9Z,a8u]at b;rcases b with b|b
   .
    have P:lt a c=true:=by grind
    by_cases S:c=d
    .rw[<-S];exact P
    .have l:=y a (by simp[b]);cases T:lt c d with
     |true=>exact p.trans a c d l E r P T
     |false=>exact absurd (p.total c d E r T (by simpa using o)) S
   .exact i a b
end
end Go.a6
namespace Go.Proofs.YtkafjfkjahgihaaGreat
open Go Go.bD
variable{b5:FuncId}{g B e1:Ψ}
theorem a0Z(a:List Τ)(z:Ψ)(k:R)(d:U)(C:aB isRow a z)(D:bS d 1 k z)(u:α a<=1000000000000){h:Τ->Bool}(E:hb isRow d b5 g B h):
  AC γ 219 [k,.bL b5 g B] d λe o=>o=d/\∃F:Int,e=.v (.int .i64 F)/\decide (0<=F)=a.any h:=by
 refine bg hm Rq acr ?_;have f:=C.len;have i:=D.len;rw[f]at i;refine aa ?_;refine cv (λc o=>∃b:Nat,b<=α a/\o=d/\c 0=k/\c 1=.bL b5 g B/\c 7=.v (.int .i64 (α a))/\c 8=.v (.int .i64 b)/\(a.take b).any h=θ)
  (λc _=>match c 8 with|.v (.int _ j)=>α a - j.toNat|_=>0) ⟨0,acq,rfl,?_⟩ ?_
 .refine aa ?_;simp
 rintro c p⟨b,v,rfl,G,L,P,S,T⟩;by_cases V:(b)<(α a:Int)
 .have r:a[b]?=β a[b]:=Μ acq;have l:a.take (b+1)=a.take b++[a[b]]:=by rw[a9x,r];rfl
  have m:a[b]'acq∈a:=a8L _;generalize a[b]'acq=W at r l m;obtain⟨x,n,y⟩:=C.get r;obtain⟨q,w,s⟩:=D.get b x n;have A:du θ 1 p q=β x:=by have t:=s.ld p η θ 1 acq (by rw[υ y];omega);rw[t];obtain⟨H,rfl⟩:=y;rfl
  refine aa ?_;refine fm E.1 (E.2 W x _ y η) ?_;rintro _ p⟨rfl,rfl⟩;cases I:h W with
  |true=>refine al (bl @G @L @P @S @V) ?_;refine⟨_,η,rfl,_,rfl,?_⟩;grind
  |false=>refine aa ?_;grind
 .obtain rfl:b=α a:=acq;refine al (bl @G @L @P @S @V) ?_;rw[a8F]at T;exact⟨_,η,rfl,_,rfl,by rw[T];simp⟩
def EY(b:List Τ)(c:Ψ)(d:R)(a:U)(k:aB isRow b c)(o:bS a 1 d c)(p:α b<=1000000000000){h:Τ->Bool}(r:hb isRow a b5 g B h):
  AC γ 167 [d,.bL b5 g B] a λx y=>y=a/\x=.v (.bool (b.any h)):=by
 refine bg hm PU acr ?_;refine aa ?_;refine ag (a0Z b c d a k o p r) ?_;rintro _ C⟨rfl,D,rfl,z⟩;refine bX ?_;exact⟨_,η,rfl,by rw[z]⟩
def a1a(c:Int)(b:Τ)(d:R)(r:isRow b d)(a:U)(h:Nat)(k:a.read h=β [.v (.int .i64 c)]):
  AC γ 168 [d,.ptr h 0] a λx y=>y=a/\x=.v (.bool (!decide ((α b:Int)=c))):=by
 obtain⟨z,rfl⟩:=r;refine bg hm PW acr ?_;have o:=bM (t:=b);by_cases p:(α b)=c
 .refine al (aD @o @k @p) ?_;exact⟨a,η,by simp[]⟩
 .refine al (aD @o @k @p) ?_;exact⟨a,η,by simp[]⟩
def rL(a:Int)(b:List Τ):Bool:=decide (1<=a)&&decide (a<=8)&&b.all λc=>decide ((α c:Int)=a)
theorem EZ(a:Int)(c:List Τ)(d:Ψ)(h:R)(b:U)(x:aB isRow c d)(y:bS b 1 h d)(z:α c<=1000000000000):
  AC γ 106 [.v (.int .i64 a),h] b λC k=>k=b/\C=.v (.bool (rL a c)):=by
 refine bg hm O7 acr ?_;refine aa ?_;refine aN λo D=>?_;have p:=κ (Z:=.cells [.v (.int .i64 a)]) (η) D;have c2:(b.set o (.cells [.v (.int .i64 a)])) o=β (.cells [.v (.int .i64 a)]):=μ _ _ _;unfold rL;by_cases h1:1<=a
 .by_cases r:a<=8
  .refine aa ?_;refine ag (EY c d h _ x (y.mono p) z (b5:=168) ⟨by rfl,λE F k G L=>a1a a E F G k o (ι (L _ _ c2))⟩) ?_;rintro _ _⟨rfl,rfl⟩;refine bX ?_;refine⟨b,p,rfl,?_⟩;rw[List.any_eq_not_all_not];simp[h1,r]
  .simp -dsimp -implicitDefEqProofs (disch:=first|omega|assumption|(simp only[aX,Nat.reduceAdd];try omega)) only[go_sem,simprocAttr,-List.reduceReplicate,h1,r];simp_all
 .refine al @h1 ?_;simp_all
theorem yV(a:Nat)(h:a<=1000000000000)(b:U):AC γ 113 [.v (.int .i64 (a:Int))] b λc d=>d=b/\c=.v (.int .i64 (a6.bY a:Int)):=by refine bg hm Om acr ?_;refine bX ?_;refine⟨b,η,rfl,?_⟩;grind[a6.bY,wrap_i64]
def dG(a:ai)(c:Nat)(b:c4):Except Int au×ai:=
 match fL c b with
 |none=>(.error 1,a)
 |some d=>(.ok d,eS a (cY b))
def dO(a:List Τ):c4:=⟨2,a.map λb=>(b,ζ),[]⟩
def ew(a:List au):c4:=⟨3,[],a⟩
abbrev ee(a b:Nat):R:=.agg [.ptr a 0,.v (.int .i64 (b:Int))]
def hf(d:Except Int au)(b:R):Prop:=
 match d with
 |.error c=>c≠0/\b=.aJ [.agg (ab aw .nil .nil .nil),.v (.int .i64 c)]
 |.ok a=>α a.sum=32/\a.cE/\∃h k o,b=.aJ [.agg (ab a h k o),.v (.int .i64 0)]
variable{n b6:R}
theorem hf.shape{c:Except Int au}(d:hf c n):∃a h k o b,α a.sum=32/\n=.aJ [.agg (ab a h k o),.v (.int .i64 b)]:=by
 cases c with
 |error b=>exact⟨aw,_,_,_,b,bm,d.2⟩
 |ok a=>obtain⟨p,_,h,k,o,r⟩:=d;grind
variable{f s e5:U}{e i v O e0 j6:Nat}{H:ai}
def bs.cG(a:bs f i v H)(b:f e=ε):e≠i/\e≠v:=by
 refine⟨?_,?_⟩
 .rintro rfl;obtain⟨_,_,a⟩:=a.at_;rw[a]at b;cases b
 .rintro rfl;obtain⟨_,⟨_,_,a,_⟩,_⟩:=a.mp;rw[a]at b;cases b
theorem bs.set{d:U}{a b c:Nat}{h:ai}{ob:bt}(o:bs d a b h)(k:c≠a/\c≠b):bs (d.set c ob) a b h:=o.other (ξ _ _ (Δ k.1)) (ξ _ _ (Δ k.2))
def yW(d:U)(h k:Nat)(o:ai)(C:bs d h k o)(c:c4)(D E:Ψ)(r x:R)(b:Nat)(G:1<=b)(y:b<=8)(L:fM d c r x D E):
  AC γ 172 [.ptr h 0,gO c r x,.v (.int .i64 (b:Int))] d λF z=>bs z h k (dG o b c).2/\Ext h k d z/\hf (dG o b c).1 F:=by
 refine(a0N d h k o C c D E r x b G y L).mono λF z a=>?_;unfold dG;cases p:fL b c with
 |none=>rw[p]at a;exact⟨C.mono a.1,ψ a.1,acv,a.2⟩
 |some P=>rw[p]at a;exact⟨a.1,a.2.1,(vB y p).1,EE y p,a.2.2⟩
theorem yX(D:U)(E e:Nat)(f:ai)(X:bs D E e f)(c:List Τ)(h:Ψ)(q:R)(x:Nat)(n9:1<=x)(a00:x<=8)(g:aB isRow c h)(Y:bS D 1 q h)(a01:α c<=100000):
  AC γ 114 [ee E x,q] D λr y=>bs y E e (dG f x (dO c)).2/\Ext E e D y/\hf (dG f x (dO c)).1 r:=by
 refine bg hm Oo acr ?_;have s:∀Z,(R.agg Z).cells=Z:=λ_=>rfl;have a02:∀a b k o k3 T:R,putAt [a,b,k] 0 [o,k3,T]=[o,k3,T]:=λ_ _ _ _ _ _=>rfl;have a03:∀a b k o:R,putAt [a,b,k] 0 [o]=[o,b,k]:=λ_ _ _ _=>rfl;have a04:∀a b k o:R,putAt [a,b,k] 1 [o]=[a,o,k]:=λ_ _ _ _=>rfl;have k4:∀a b k:R,[a,b,k].length=3:=λ_ _ _=>rfl;have a56:∀a b k:R,List.take 3 [a,b,k]=[a,b,k]:=λ_ _ _=>rfl;have k5:=Y.len;rw[g.len]at k5;refine aa ?_;refine aN λS a05=>?_;refine aa ?_;refine aN λP i=>?_;refine aa ?_;refine aN λF V=>?_;have t:S≠P:=by rintro rfl;rw[μ]at i;cases i
 have a06:P≠F:=by rintro rfl;rw[μ]at V;cases V
 have a07:S≠F:=by rintro rfl;rw[ξ _ _ t,μ]at V;cases V
 have u:D P=none:=by rw[ξ _ _ (Δ t)]at i;exact i
 have a57:D F=none:=by simp_all [ξ,Δ]
 obtain⟨G,W⟩:∃G:U,G=(D.set S (.cells [.ptr E 0,.v (.int .i64 (x))])).set P (.cells (ab aw .nil .nil .nil)):=⟨_,rfl⟩;have k6:D.sub G:=by rw[W];exact κ (κ η a05) u
 have c2:G S=β (.cells [.ptr E 0,.v (.int .i64 (x))]):=by rw[W,ξ _ _ t,μ]
 have aP:G P=β (.cells (ab aw .nil .nil .nil)):=by rw[W,μ]
 have k7:G F=none:=by rw[W];exact V
 have a08:=(aT (M:=.nil) (e7:=.nil) (j0:=.nil) bm).len;refine al (cb @s @cr @a03 @k4 @a02 @ς @k5) ?_;rw[<-W]
 let p:R->R:=λa=>.agg [a,.v (.bool ζ)];have k8:∀d,aB cZ ((c.take d).map λr=>(r,ζ)) ((h.take d).map p):=by
  have:∀(c)(h),aB isRow c h->aB cZ (c.map λr=>(r,ζ)) (h.map p):=by
   intro c
   induction c with
   |nil=>intro h z;cases h with
    |nil=>trivial
    |cons=>exact z.elim
   |cons o c ih=>intro h z;cases h with
    |nil=>exact z.elim
    |cons a h=>exact⟨by obtain⟨L,rfl⟩:=z.1;exact⟨L,rfl⟩,ih h z.2⟩
  exact λd=>this _ _ (g.take d)
 have a61:∀d,((h.take d).map p).length<=100000:=λd=>by rw[a8o,a8l,g.len];omega
 have k9:∀ {y:U}{k c L},bf (G.set F (.cells k)) y 2 c L->y S=β (.cells [.ptr E 0,.v (.int .i64 (x))])/\y P=β (.cells (ab aw .nil .nil .nil))/\y F=β (.cells k):=λz=>⟨z.sub _ _ (by rw[ξ _ _ a07];exact c2),z.sub _ _ (by rw[ξ _ _ a06];exact aP),z.sub _ _ (μ _ _ _)⟩;refine cv (λC y=>∃(d:Nat)(L:Own),d<=α c/\bf (G.set F (.cells [.v (.int .u8 2),.J ((h.take d).map p) L,.J [] .nil])) y 2 ((h.take d).map p) L/\
   C 2=.ptr S 0/\C 4=.ptr P 0/\C 6=.ptr F 0/\C 10=q/\C 11=.v (.int .i64 (α c))/\C 12=.v (.int .i64 d))
  (λC _=>match C 12 with|.v (.int _ a09)=>α c - a09.toNat|_=>0) ⟨0,.nil,acq,?_,?_⟩ ?_
 .rw[show(h.take 0).map p=[]from rfl,ς];exact Ν η
 .exact aR
 rintro C v⟨d,L,a62,j,l,m,n,w,A,B⟩;obtain⟨a10,a11,l0⟩:=k9 j;by_cases l1:(d:Int)<α c
 .have l2:c[d]?=β c[d]:=Μ acq;generalize c[d]'acq=r at l2;obtain⟨a,l3,H,rfl⟩:=g.get l2;obtain⟨a63,a13,a14⟩:=(Y.mono (ο k6 (ο (κ η k7) j.sub))).get d _ l3;have l4:=a14.ld v η θ 1 acq (by simp[ρ]);have a15:aQ θ 1 (R.J (af r) H).cells=.J (af r) H:=rfl;rw[a15]at l4;have a16:(h.take (d+1)).map p=(h.take d).map p++[.agg [.J (af r) H,.v (.bool ζ)]]:=by rw[a9x,l3,a9i];rfl
  have a18:∀a b k:R,aQ θ 1 ([a,b,k].drop 1)=b:=λ_ _ _=>rfl;have a19:∀a b o:R,putAt [a,b] 0 [o]=[o,b]:=λ_ _ _=>rfl;have a27:∀a b o:R,putAt [a,b] 1 [o]=[a,o]:=λ_ _ _=>rfl;have a29:∀a b:R,[a,b].length=2:=λ_ _=>rfl;have a30:∀b:Bool,(R.v (.bool b)).cells=[.v (.bool b)]:=λ_=>rfl;have l5:∀(T)(l6),(R.J T l6).cells=[.J T l6]:=λ_ _=>rfl;refine al (oR @l @m @n @w @A @B @l1 @a13 @l4 (ι l0) @a18 @a19 @a27 @a29 @a30 @l5) ?_;refine dD η (by simp[aW,ρ]) λa65 a68 a34=>?_;refine aa ?_;refine dW (j.mono a34.sub) ((k8 d).cells λ_ _=>cZ.cells) (by simp[aW,ρ]) (by grind) (by grind) λl7 a69 I=>?_;rw[<-a16]at I|-;obtain⟨a71,l8,a36⟩:=k9 I;refine al (cj @l @m @n @w @A @B (τ a36) @l5 @a04 @k4) ?_;have l9:=I.set (ob:=.cells [.v (.int .u8 2),.J ((h.take (d+1)).map p) l7,.J [] .nil]) (μ _ _ _);rw[ς]at l9;exact⟨⟨d+1,l7,acq,l9,acr⟩,acq⟩
 .obtain rfl:d=α c:=acq;have a38:∀a b k,aQ ζ 3 [a,b,k]=.agg [a,b,k]:=λ_ _ _=>rfl;have K:=k8 (α c);rw[a8F]at K;have n0:=ο k6 (ο (κ η k7) j.sub);have a42:fM v (dO c) (.J ((h.take (α c)).map p) L) (.J [] .nil) ((h.take (α c)).map p) []:=by
   refine⟨K,trivial,bS.J (K.cells λ_ _=>cZ.cells),bS.J (by simp[aW]),?_,?_⟩
   .simp only[dO,a8o];exact a01
   .simp[dO]
  refine al (gk @l @m @n @w @A @B @l1 (ι a10) (ι l0) @a38 @s) ?_;have a43:=yW v E e f (X.mono n0) (dO c) _ _ _ _ x n9 a00 a42;refine ag a43 ?_;rintro r a73⟨a47,n1,n2⟩;have M:=X.cG u;have l8:=n1 _ _ M.1 M.2 a11;obtain⟨n3,N,O,Q,a74,n4,rfl⟩:=n2.shape;have n5:=aT (M:=N) (e7:=O) (j0:=Q) n4;have a48:=n5.len;have a52:putAt (ab aw .nil .nil .nil) 0 (ab n3 N O Q)=ab n3 N O Q:=cF bm n4;refine al (de @l @m @n @s (τ l8) @a52 @a48 @a08 n5.t37) ?_;exact⟨_,η,a47.set M,((ψ n0).trans n1).set u,n2⟩
def F0(a:U)(d x:Nat)(y:ai)(W:bs a d x y)(h:List au)(D:Ψ)(E:R)(b:Nat)(v:1<=b)(w:b<=8)(A:aB bC h D)(e:bS a 37 E D)(B:α h<=100000):
  AC γ 175 [ee d b,E] a λf g=>bs g d x (dG y b (ew h)).2/\Ext d x a g/\hf (dG y b (ew h)).1 f:=by
 refine bg hm Q6 acr ?_;have i:∀j,(R.agg j).cells=j:=λ_=>rfl;have H:∀k c o r:R,putAt [k,c,o] 0 [r]=[r,c,o]:=λ_ _ _ _=>rfl;have I:∀k c o r:R,putAt [k,c,o] 2 [r]=[k,c,r]:=λ_ _ _ _=>rfl;have K:∀k c o:R,[k,c,o].length=3:=λ_ _ _=>rfl;have M:=(aT (M:=.nil) (e7:=.nil) (j0:=.nil) bm).len;refine aa ?_;refine aN λl N=>?_;refine aa ?_;refine aN λz C=>?_;have m:l≠z:=by rintro rfl;rw[μ]at C;cases C
 have F:a z=none:=by rw[ξ _ _ (Δ m)]at C;exact C
 obtain⟨p,G⟩:∃p:U,p=(a.set l (.cells [.ptr d 0,.v (.int .i64 (b))])).set z (.cells (ab aw .nil .nil .nil)):=⟨_,rfl⟩;have L:a.sub p:=by rw[G];exact κ (κ η N) F
 have aP:p z=β (.cells (ab aw .nil .nil .nil)):=by rw[G,μ]
 refine al (de @i @cr @H @I @K e.one @ξ @m @μ) ?_;rw[<-G];have O:fM p (ew h) (.J [] .nil) E [] D:=⟨trivial,A,bS.J (by simp[aW]),e.mono L,by simp[ew],B⟩;refine ag (yW p d x y (W.mono L) (ew h) _ _ _ _ b v w O) ?_;rintro f k3⟨Q,n,q⟩;have P:=W.cG F;have X:=n _ _ P.1 P.2 aP;obtain⟨s,S,T,V,k4,t,rfl⟩:=q.shape;have u:=aT (M:=S) (e7:=T) (j0:=V) t;have Y:=u.len;have Z:putAt (ab aw .nil .nil .nil) 0 (ab s S T V)=ab s S T V:=cF bm t;refine al (bx @i (τ X) @Z @Y @M u.t37) ?_;exact⟨_,η,Q.set P,((ψ L).trans n).set F,q⟩
def yY(a:c4)(w A:Ψ)(p z:R)(r:U)(P:fM r a p z w A):
  AC γ 247 [gO a p z] r λc V=>∃d,aB isRow (a.rows.map Α) d/\av r V 1 (flat d) c:=by
 refine bg hm RV acr ?_;have S:∀g,(R.agg g).cells=g:=λ_=>rfl;have B:=P.hc;have k9:=P.kM;refine al @S ?_;refine aN λT H=>?_;obtain⟨x,W⟩:∃x:U,x=r.set T (.cells [.v (.int .u8 (a.kind.toNat)),p,z]):=⟨_,rfl⟩;have i:r.sub x:=by rw[W];exact κ η H
 have l0:x T=β (.cells [.v (.int .u8 (a.kind.toNat)),p,z]):=by rw[W,μ]
 have I:=P.mr.mono i;refine al (aD @S @μ @B) ?_;rw[show r.set T (.cells (gO a p z).cells)=x from W.symm];refine cv (λk V=>∃(b:Nat)(c:R)(d:Ψ),b<=α a.rows/\aB isRow ((a.rows.take b).map Α) d/\av x V 1 (flat d) c/\k 1=.ptr T 0/\k 3=c/\k 7=p/\k 8=.v (.int .i64 (α a.rows))/\k 9=.v (.int .i64 b))
  (λk _=>match k 9 with|.v (.int _ K)=>α a.rows - K.toNat|_=>0) ⟨0,.J [] .nil,[],acq,trivial,av.nil η,?_⟩ ?_
 .exact nF
 rintro k M⟨b,c,d,l1,C,e,D,E,F,G,L⟩;by_cases j:(b:Int)<α a.rows
 .have f:a.rows[b]?=β a.rows[b]:=Μ acq;have l:a.rows.take (b+1)=a.rows.take b++[a.rows[b]]:=by rw[a9x,f];rfl
  generalize a.rows[b]'acq=h at f l;obtain⟨y,N,o,rfl⟩:=P.rows.get f;obtain⟨l2,O,Q⟩:=I.get b _ N;have m:=Q.ld M e.1 ζ 2 acq (by simp[ρ]);have X:aQ ζ 2 (R.agg [.J (af h.1) o,.v (.bool h.2)]).cells=.agg [.J (af h.1) o,.v (.bool h.2)]:=rfl;have n:∀c y q s:R,putAt [c,y] 0 [q,s]=[q,s]:=λ_ _ _ _=>rfl;have t:∀c y:R,[c,y].length=2:=λ_ _=>rfl;have Y:∀c y:R,aQ θ 1 [c,y]=c:=λ_ _=>rfl;rw[X]at m;refine al (gk @D @E @F @G @L @j @O @m @S @n @t) ?_;refine aN λl3 Z=>?_;have k3:=av.mono e (κ (Z:=.cells [.J (af h.1) o,.v (.bool h.2)]) η Z);refine al (gk @D @E @F @G @L @S @n @t @Y @ς @μ) ?_;refine eP (by simp[aW,ρ]) acr λl4 k4=>?_;have k5:=av.mono k3 (κ (Z:=.cells (flat [R.J (af h.1) o])) η k4);have k6:aB isRow ((a.rows.take b).map Α++[h.1]) (d++[R.J (af h.1) o]):=C.snoc ⟨_,rfl⟩;have u:(flat d).length=b:=by rw[cW (C.cells λ_ _=>υ),C.len];simp;omega
  refine al (bl @D @E @F @G @L) ?_;refine eZ k5 acq (nR rfl) rfl (by rw[u];simp[flat,ρ];omega) (by rw[u];simp[flat,ρ];omega) λk7 l5 v=>?_;have k8:flat d++flat [R.J (af h.1) o]=flat (d++[R.J (af h.1) o]):=by simp[flat]
  rw[k8]at v;refine al (bl @D @E @F @G @L) ?_;refine⟨⟨b+1,k7,_,acq,?_,v,acr⟩,acq⟩;rw[l,a9i];exact k6
 .obtain rfl:b=α a.rows:=acq;rw[a8F]at C;refine al (bx @D @E @F @G @L @j) ?_;exact⟨_,η,d,C,e.base i⟩
def iR(b:ai)(c:Nat)(d:au):Option c4:=
 match ei b c d with
 |none=>ε
 |some a=>if a.kind=2\/a.kind=3 then β a else ε
theorem yZ(b:U)(T I:Nat)(V:ai)(k5:bs b T I V)(o:au)(W e f:Own)(K:α o.sum=32)(k6:o.cE)(p:Nat)(k7:1<=p)(k8:p<=8):
  AC γ 245 [ee T p,.agg (ab o W e f)] b λq y=>b.sub y/\match iR V p o with
   |none=>q=.aJ [yP,.v (.int .i64 21)]
   |some a=>∃d h,q=.aJ [gO a d h,.v (.int .i64 0)]/\gP b y a d h:=by
 refine bg hm RR acr ?_;have c:∀M,(R.agg M).cells=M:=λ_=>rfl;have z:∀C D E d h N:R,putAt [C,D,E] 0 [d,h,N]=[d,h,N]:=λ_ _ _ _ _ _=>rfl;have L:∀C D E,aQ ζ 3 [C,D,E]=.agg [C,D,E]:=λ_ _ _=>rfl;have F:∀C D E:R,[C,D,E].length=3:=λ_ _ _=>rfl;have O:=aT (M:=W) (e7:=e) (j0:=f) K;have s:=O.len;refine al @c ?_;refine aN λt l7=>?_;refine al (c2 @c @s) ?_;refine aN λg i=>?_;have u:t≠g:=by rintro rfl;rw[μ]at i;cases i
 have l8:b g=none:=by rw[ξ _ _ (Δ u)]at i;exact i
 refine al (c2 @c @s) ?_;refine aN λk j=>?_;have k9:g≠k:=by rintro rfl;rw[μ]at j;cases j
 have l0:t≠k:=by rintro rfl;rw[ξ _ _ u,μ]at j;cases j
 have l1:b k=none:=by simp_all [ξ,Δ]
 obtain⟨P,Q⟩:∃P:U,P=((b.set t (.cells [.ptr T 0,.v (.int .i64 (p))])).set g (.cells (ab o W e f))).set k (.cells [.v (.int .u8 0),.J [] .nil,.J [] .nil]):=⟨_,rfl⟩;have v:b.sub P:=by grind[κ,η]
 have aP:P k=β (.cells [.v (.int .u8 0),.J [] .nil,.J [] .nil]):=by rw[Q,μ]
 have l:∀(y)(X),b.sub y->b.sub (y.set k X):=λy X w=>κ w l1;refine al (bz @c @s @ξ @u @l0 @k9 @μ O.t37) ?_;rw[<-Q];refine ag (vC P T I V (k5.mono v) o W e f K (λ_=>k6) p k7 k8) ?_;rintro q l9⟨Y,m⟩;have l2:=ο v Y;have G:=Y _ _ aP;unfold iR;cases Z:ei V p o with
 |none=>
  rw[Z]at m;obtain rfl:=m;refine al (aD @c @z @F) ?_;refine aN λA r=>?_;have x:k≠A:=by rintro rfl;rw[G]at r;cases r
  have S:=Δ x;refine al (de @c @z @F @L @ς @ξ @x @S (τ G)) ?_;grind[η,ο,κ]
 |some a=>
  rw[Z]at m;obtain⟨d,h,rfl,l3⟩:=m;simp -dsimp -implicitDefEqProofs (disch:=first|omega|assumption|(simp only[aX,Nat.reduceAdd];try omega)) only[go_sem,simprocAttr,-List.reduceReplicate,c,z,F,L];refine aN λA r=>?_;have x:k≠A:=by rintro rfl;rw[G]at r;cases r
  have S:=Δ x;have l4:=(l3.mono (κ (Z:=.cells [.v (.int .u8 (a.kind.toNat)),d,h]) η r)).set (ob:=.cells [.v (.int .u8 (a.kind.toNat)),d,h]) aP;have n0:=l4.base (l _ _ v);have B:=ο l2 (κ (Z:=.cells [.v (.int .u8 (a.kind.toNat)),d,h]) η r);have l5:=iP a.kind 2 acq;have l6:=iP a.kind 3 acq;simp only[ab2]at l5 l6;simp only;by_cases k3:a.kind=2
  .have n:((a.kind.toNat:Int)=2)=True:=by rw[k3];simp
   refine al (gk @c @z @F @L @ς @μ @ξ @x @S (τ G) @n) ?_;refine⟨_,η,l _ _ B,?_⟩;grind
  .have n:¬(a.kind.toNat:Int)=2:=λw=>k3 (by simp_all);by_cases k4:a.kind=3
   .have H:((a.kind.toNat:Int)=3)=True:=by rw[k4];simp
    refine al (gV @c @z @F @L @ς @μ @ξ @x @S (τ G) @n @H) ?_;refine⟨_,η,l _ _ B,?_⟩;grind
   .have H:¬(a.kind.toNat:Int)=3:=λw=>k4 (by simp_all);refine al (gV @c @z @F @L @ς @μ @ξ @x @S (τ G) @n @H) ?_;refine⟨_,η,l _ _ B,?_⟩;simp_all
def z1(k:c4)(L P:Ψ)(d h:R)(o:U)(S:fM o k d h L P):
  AC γ 254 [gO k d h] o λi j=>∃a r,i=.agg [.v (.bool (decide (k.kind=2))),a,h]/\aB isRow (k.rows.map Α) r/\av o j 1 (flat r) a:=by
 refine bg hm S7 acr ?_;have x:∀T,(R.agg T).cells=T:=λ_=>rfl;have V:∀a b c,aQ ζ 3 [a,b,c]=.agg [a,b,c]:=λ_ _ _=>rfl;have l:∀a b c:R,[a,b,c].length=3:=λ_ _ _=>rfl;have m:∀a b c d h W:R,putAt [a,b,c] 0 [d,h,W]=[d,h,W]:=λ_ _ _ _ _ _=>rfl;have n:∀a b c d:R,putAt [a,b,c] 0 [d]=[d,b,c]:=λ_ _ _ _=>rfl;have q:∀a b c d:R,putAt [a,b,c] 1 [d]=[a,d,c]:=λ_ _ _ _=>rfl;have s:∀a b c d:R,putAt [a,b,c] 2 [d]=[a,b,d]:=λ_ _ _ _=>rfl;have t:∀b:Bool,(R.v (.bool b)).cells=[.v (.bool b)]:=λ_=>rfl;have u:∀a b c:R,aQ θ 1 ([a,b,c].drop 2)=c:=λ_ _ _=>rfl;have e:∀a b c:R,List.take 3 [a,b,c]=[a,b,c]:=λ_ _ _=>rfl;refine al @x ?_;refine aN λE v=>?_;refine al @x ?_;refine aN λy z=>?_;have F:E≠y:=by rintro rfl;rw[μ]at z;cases z
 have f:o y=none:=by rw[ξ _ _ (Δ F)]at z;exact z
 obtain⟨p,C⟩:∃p:U,p=(o.set E (.cells [.v (.int .u8 (k.kind.toNat)),d,h])).set y (.cells [.v (.bool θ),.J [] .nil,.J [] .nil]):=⟨_,rfl⟩;have g:o.sub p:=by rw[C];exact κ (κ η v) f
 have w:p E=β (.cells [.v (.int .u8 (k.kind.toNat)),d,h]):=by rw[C,ξ _ _ F,μ]
 have c2:p y=β (.cells [.v (.bool θ),.J [] .nil,.J [] .nil]):=by rw[C,μ]
 have G:=iP k.kind 2 acq;simp only[ab2]at G;have A:ν 2=2:=rfl;rw[A]at G;refine al (bx @x @ξ @F @μ @V @e) ?_;rw[<-C];refine ag (yY k L P d h p (S.mono g)) ?_;rintro a N⟨r,B,D⟩;have H:=D.1 _ _ w;have I:=D.1 _ _ c2;have K:=fv D;have M:=S.gH.one;refine al (pZ @x (ι H) (τ I) @V @e @u @t @K @M @n @q @s @l @m @G) ?_;refine⟨_,η,a,r,rfl,B,?_⟩;exact(ka D c2).base (κ g f)
theorem a1b(h:R)(c d:R)(a b:Nat)(E:c.cells=[c])(F:d.cells=[d])(G:h.cells=[h])(r:fk c=β (.v (.int .i64 (a:Int))))(x:fk d=β (.v (.int .i64 (b:Int))))(L:a<=1000000000000)(P:b<=1000000000000)(k:U):
  AC γ 306 [.agg [h,c,d]] k λy z=>z=k/\y=.v (.bool (decide (a+b<2))):=by
 refine bg hm Tl acr ?_;have o:∀p,(R.agg p).cells=p:=λ_=>rfl;refine al @o ?_;refine aN λS C=>?_;refine al (aD @o @r @x) ?_;have D:decide ((a:Int)+b<2)=decide (a+b<2):=by grind
 exact⟨k,κ η C,rfl,by rw[D]⟩
def mN(a:ai)(b:Nat)(c:Bool)(d:List Τ)(h:List au):Except Int au×ai:=if c=ζ then dG a b (dO d)else dG a b (ew h)
theorem F1(a:U)(b d:Nat)(E:ai)(s:bs a b d E)(F:Bool)(G:List Τ)(t:Ψ)(g:R)(L:List au)(u:Ψ)(i:R)(c:Nat)(K:1<=c)(M:c<=8)(k7:aB isRow G t)(k8:bS a 1 g t)(k9:α G<=100000)(l0:aB bC L u)(l1:bS a 37 i u)(l2:α L<=100000):
  AC γ 189 [ee b c,.agg [.v (.bool F),g,i]] a λy N=>bs N b d (mN E c F G L).2/\Ext b d a N/\hf (mN E c F G L).1 y:=by
 refine bg hm Qx acr ?_;have h:∀O,(R.agg O).cells=O:=λ_=>rfl;have Q:=(aT (M:=.nil) (e7:=.nil) (j0:=.nil) bm).len;have X:∀P S:R,List.take 2 [P,S]=[P,S]:=λ_ _=>rfl;have Y:∀P S,aQ ζ 2 [P,S]=.agg [P,S]:=λ_ _=>rfl;refine al @h ?_;refine aN λv l5=>?_;refine al @h ?_;refine aN λj l=>?_;have m:v≠j:=by rintro rfl;rw[μ]at l;cases l
 have l6:a j=none:=by rw[ξ _ _ (Δ m)]at l;exact l
 refine al (c2 @h @cr) ?_;refine aN λz n=>?_;have Z:j≠z:=by rintro rfl;rw[μ]at n;cases n
 have k3:v≠z:=by rintro rfl;rw[ξ _ _ m,μ]at n;cases n
 have w:a z=none:=by simp_all [ξ,Δ]
 obtain⟨k,A⟩:∃k:U,k=((a.set v (.cells [.ptr b 0,.v (.int .i64 (c))])).set j (.cells [.v (.bool F),g,i])).set z (.cells (ab aw .nil .nil .nil)):=⟨_,rfl⟩;have C:a.sub k:=by grind[κ,η]
 have aP:k z=β (.cells (ab aw .nil .nil .nil)):=by rw[A,μ]
 have q:=s.cG w;unfold mN;have k4:∀(k5)(k6)(y)(D),bs D b d k6->Ext b d k D->hf k5 y->D z=β (.cells (ab aw .nil .nil .nil)):=λk5 k6 y D _ l3 _=>l3 _ _ q.1 q.2 aP;cases F with
 |true=>refine al (de @h @cr @ξ @m @k3 @Z @μ @X @Y) ?_;rw[<-A];refine ag (yX k b d E (s.mono C) G t g c K M k7 (k8.mono C) k9) ?_;rintro y D⟨T,V,o⟩;have B:=k4 _ _ _ _ T V o;obtain⟨W,p,r,x,l4,e,rfl⟩:=o.shape;have f:=aT (M:=p) (e7:=r) (j0:=x) e;have H:=f.len;have I:putAt (ab aw .nil .nil .nil) 0 (ab W p r x)=ab W p r x:=cF bm e;refine al (bx @h (τ B) @I @H @Q f.t37) ?_;exact⟨_,η,T.set q,((ψ C).trans V).set w,o⟩
 |false=>refine al (de @h @cr @ξ @m @k3 @Z @μ @X @Y) ?_;rw[<-A];refine ag (F0 k b d E (s.mono C) L u i c K M l0 (l1.mono C) l2) ?_;rintro y D⟨T,V,o⟩;have B:=k4 _ _ _ _ T V o;obtain⟨W,p,r,x,l4,e,rfl⟩:=o.shape;have f:=aT (M:=p) (e7:=r) (j0:=x) e;have H:=f.len;have I:putAt (ab aw .nil .nil .nil) 0 (ab W p r x)=ab W p r x:=cF bm e;refine al (bx @h (τ B) @I @H @Q f.t37) ?_;exact⟨_,η,T.set q,((ψ C).trans V).set w,o⟩
abbrev hB(a:Τ)(b:c4):Nat:=a6.cU bF a (b.kids.map (·.key))
variable{X:List Τ}{t b8:Τ}
def a1c{a:Τ}:a6.cU bF t (a::b8::X)=if bF t b8=ζ then 0 else a6.cU bF t (b8::X)+1:=rfl
theorem F2(a:c4)(B H:Ψ)(r x:R)(c:Τ)(P:Own)(d:U)(z:fM d a r x B H):
  AC γ 250 [gO a r x,.J (af c) P] d λI S=>S=d/\I=.v (.int .i64 (hB c a:Int)):=by
 refine bg hm S1 acr ?_;have V:∀W,(R.agg W).cells=W:=λ_=>rfl;have e:=z.tw;have k8:=z.ig;refine al @V ?_;refine aN λC K=>?_;obtain⟨h,T⟩:∃h:U,h=d.set C (.cells [.v (.int .u8 (a.kind.toNat)),r,x]):=⟨_,rfl⟩;have M:d.sub h:=by rw[T];exact κ η K
 have c2:h C=β (.cells [.v (.int .u8 (a.kind.toNat)),r,x]):=by rw[T,μ]
 have N:=z.gH.mono M;refine al @V ?_;rw[show d.set C (.cells (gO a r x).cells)=h from T.symm];refine cv (λk S=>∃b:Nat,S=h/\hB c a=b+a6.cU bF c ((a.kids.map (·.key)).drop b)/\b<=α a.kids/\k 1=.J (af c) P/\k 2=.ptr C 0/\k 5=.v (.int .i64 b))
  (λk _=>match k 5 with|.v (.int _ O)=>α a.kids - O.toNat|_=>0) ⟨0,rfl,acr,acq,?_⟩ ?_
 .exact nF
 rintro k f⟨b,rfl,y,k9,D,E,F⟩;have g:∀i Q j:R,aQ θ 1 ([i,Q,j].drop 2)=j:=λ_ _ _=>rfl;by_cases l:(b:Int)+1<α a.kids
 .have m:a.kids[b+1]?=β a.kids[b+1]:=Μ acq;have n:(a.kids.map (·.key)).drop b=(a.kids[b]'acq).key::(a.kids[b+1]'acq).key::(a.kids.map (·.key)).drop (b+2):=by grind[Θ,List.length_map]
  have q:(a.kids.map (·.key)).drop (b+1)=(a.kids[b+1]'acq).key::(a.kids.map (·.key)).drop (b+2):=by rw[a8G (by rw[a8o];omega)];simp
  rw[n,a1c,<-q]at y;clear n q;generalize a.kids[b+1]'acq=o at m y;obtain⟨i,X,Y,l0,G,L,p,rfl⟩:=z.kids.get m;obtain⟨l1,s,t⟩:=N.get (b+1) _ X;have u:=aT (M:=G) (e7:=L) (j0:=p) Y;have Z:(R.agg (ab o G L p)).cells=ab o G L p:=rfl;rw[Z]at t;obtain⟨l2,k3,v⟩:=t.lq f η 36 θ 1 acq (by rw[u.len];omega);have k4:aQ θ 1 ((ab o G L p).drop 36)=.J (af o.key) p:=by rw[u.d36];rfl
  rw[k4]at v;have k5:((b+1:Nat))=(b:Int)+1:=acq;rw[k5]at s;refine al (cj @D @E @F (ι c2) @g @e @l @s @k3 @v) ?_;refine ag (yQ c o.key P p _) ?_;rintro _ f⟨rfl,rfl⟩;cases w:bF c o.key with
  |true=>rw[if_pos w]at y;refine al (aP @D @E @F @a9d) ?_;simp_all
  |false=>rw[if_neg (by simp[w])]at y;refine al (aP @D @E @F @a8U) ?_;grind
 .have k6:a6.cU bF c ((a.kids.map (·.key)).drop b)=0:=by
   have A:((a.kids.map (·.key)).drop b).length<=1:=by grind
   generalize (a.kids.map (·.key)).drop b=k7 at A
   match k7,A with
   |[],_=>rfl
   |[_],_=>rfl
  rw[k6]at y;refine al (cb @D @E @F (ι c2) @g @e @l) ?_;simp_all
def mO(c:List Τ)(d:Τ):Nat->Nat->Nat->Nat
 |0,a,_=>a
 |h+1,a,b=>if a<b then(match c[(a+b)/2]? with
  |some k=>if mM k d<0 then mO c d h ((a+b)/2+1) b else mO c d h a ((a+b)/2)
  |none=>a)else a
def fg(a:List Τ)(b:Τ):Nat:=mO a b (α a) 0 (α a)
def kP(a:List Τ)(b:Τ):Bool:=match a[fg a b]? with|some c=>decide (mM c b=0)|none=>θ
theorem F3(b:List Τ)(n:Ψ)(V:R)(d:Τ)(L:Own)(P:U)(W:aB isRow b n)(e:bS P 1 V n)(N:α b<=1000000000000):
  AC γ 246 [V,.J (af d) L,.bL 109 [] []] P λh f=>f=P/\fg b d<=α b/\h=.aJ [.v (.int .i64 (fg b d:Int)),.v (.bool (kP b d))]:=by
 refine bg hm RT acr ?_;have q:=e.len;rw[W.len]at q;refine al @q ?_;have s:fH γ 109=true:=by rfl
 refine cv (λk f=>∃(r a c:Nat),f=P/\fg b d=mO b d r a c/\a<=c/\c<=α b/\c - a<=r/\k 0=V/\k 1=.J (af d) L/\k 2=.bL 109 [] []/\k 8=.v (.int .i64 (α b))/\k 9=.v (.int .i64 a)/\k 10=.v (.int .i64 c))
  (λk _=>match k 9,k 10 with|.v (.int _ a),.v (.int _ c)=>(c - a).toNat|_,_=>0) ⟨α b,0,α b,rfl,rfl,acq,acq,acq,?_⟩ ?_
 .exact nF
 rintro k S⟨r,a,c,rfl,x,O,Q,X,y,z,C,D,E,F⟩;by_cases g:(a)<(c:Int)
 .obtain⟨Y,rfl⟩:∃v,r=v+1:=⟨r - 1,acq⟩;have w:a<c:=acq;have t:(a+c)/2<α b:=acq;have o:=Μ t;rw[mO,if_pos w,o]at x;simp only at x;generalize b[(a+c)/2]'t=h at o x;obtain⟨A,i,p,rfl⟩:=W.get o;obtain⟨B,j,l⟩:=e.get _ _ i;have G:=l.ld S η θ 1 acq (by simp[ρ]);have m:aQ θ 1 (R.J (af h) p).cells=.J (af h) p:=rfl;rw[m]at G;have H:IntKind.u64.wrap ((a)+c)=((a+c:Nat)):=by rw[wrap_u64 acq acq];omega
  have I:br .shr (.int .u64 ((a+c:Nat))) (.int .u64 1)=β (.int .u64 (((a+c)/2:Nat))):=by rw[sS _ _ _ acq acq];rfl
  have K:IntKind.i64.wrap (((a+c)/2:Nat))=(((a+c)/2:Nat)):=wrap_i64 acq acq;generalize Z:(a+c)/2=k3 at*;refine al (gV @y @z @C @D @E @F @g @H @I @K @j @G) ?_;refine fm s (EP h d p L _) ?_;rintro _ S⟨rfl,rfl⟩;by_cases T:mM h d<0
  .rw[if_pos T]at x;refine al (cb @y @z @C @D @E @F @T) ?_;grind
  .rw[if_neg T]at x;refine al (cb @y @z @C @D @E @F @T) ?_;grind
 .obtain rfl:a=c:=acq;have M:fg b d=a:=by rw[x];cases r<;>simp[mO]
  unfold kP;rw[M];by_cases u:(a:Int)<α b
  .have o:b[a]?=β b[a]:=Μ acq;rw[o];generalize b[a]'acq=h at o;obtain⟨A,i,p,rfl⟩:=W.get o;obtain⟨B,j,l⟩:=e.get _ _ i;have G:=l.ld S η θ 1 acq (by simp[ρ]);have m:aQ θ 1 (R.J (af h) p).cells=.J (af h) p:=rfl;rw[m]at G;refine al (cj @y @z @C @D @E @F @g @u @j @G) ?_;refine fm s (EP h d p L _) ?_;rintro _ S⟨rfl,rfl⟩;refine al (bx @y @z @C @D @E @F) ?_;exact⟨_,η,rfl,acq⟩
  .have o:b[a]?=none:=ac3 acq;rw[o];refine al (bz @y @z @C @D @E @F @g @u) ?_;exact⟨_,η,rfl,acq⟩
def cR(d h:U)(b c:Nat)(k:ai)(o:Nat)(p:Ψ)(r:R):Prop:=∃a,av a h o p r/\bs a b c k/\Ext b c d a
theorem cR.nil{a:U}{b c h:Nat}{d:ai}(k:bs a b c d):cR a a b c d h [] (.J [] .nil):=⟨a,av.nil η,k,Ext.refl⟩
def cR.hg(a:cR s f e i H v g n):bs f e i H:=by obtain⟨d,b,c,_⟩:=a;exact c.mono b.1
def cR.ext(a:cR f s e i H v g n):Ext e i f s:=by obtain⟨d,b,_,c⟩:=a;exact c.trans (ψ b.1)
theorem cR.of{s:U}{l lM:Nat}(a:av f s e g n)(b:bs f l lM H)(c:Ext l lM e5 f):cR e5 s l lM H e g n:=⟨f,a,b,c⟩
def cR.mono{b c d:U}{h k:Nat}{o:ai}{p:Nat}{r:Ψ}{a:R}(x:cR b c h k o p r a)(y:c.sub d):cR b d h k o p r a:=by obtain⟨z,C,D⟩:=x;exact⟨z,C.mono y,D⟩
theorem cR.base(a:cR f e5 e i H v g n)(b:Ext e i s f):cR s e5 e i H v g n:=by obtain⟨c,d,h,k⟩:=a;exact⟨c,d,h,b.trans k⟩
theorem cR.step{r x h:U}{a b:Nat}{L y:ai}{z:Nat}{C:Ψ}{D:R}(P:cR r x a b L z C D)(E:Ext a b x h)(F:bs h a b y):cR r h a b y z C D:=by
 obtain⟨S,⟨T,o⟩,V,W⟩:=P;have e:=F.ne;refine⟨λc=>if c=a then h a else if c=b then h b else S c,⟨λc f d=>?_,?_⟩,F.other acr (by simp[Δ e]),λc f cu cp d=>?_⟩
 .by_cases k:c=a
  .subst k;simpa using d
  .by_cases p:c=b
   .subst p;simpa[k] using d
   .simp only[k,p,if_false]at d;exact E _ _ k p (T _ _ d)
 .rcases o with o|⟨g,i,j,l,m,n,q,s⟩
  .exact .inl o
  .have G:=V.cG n;exact .inr ⟨g,i,j,l,m,by grind,E _ _ G.1 G.2 q,s⟩
 .simp only[cu,cp,if_false];exact W _ _ cu cp d
theorem z6(k:e≠1):∀ {a:Ψ},(∀c∈a,∃b,c=.agg b/\α b=e)->eo e (α a) (flat a)=a:=by
 intro a d;have o:aW e a:=λc p=>by obtain⟨b,rfl,r⟩:=d c p;exact r
 unfold eo;rw[if_neg k];refine abB λx=>?_;rw[a8H];by_cases aU:x<α a
 .rw[aao aU];have h:=Μ aU;have:=Ev o h;obtain⟨b,y,_⟩:=d _ (a8L aU);rw[h,a9q,this,y];rfl
 simp_all
theorem F4{h:List au}(a:aB bC h g):∀b∈g,∃c,b=.agg c/\α c=37:=by intro b k;obtain⟨o,p,rfl⟩:=a8S k;have z:=a.len;obtain⟨C,d,r⟩:=a.get (Μ (i:=o) acq);rw[Μ p]at d;obtain rfl:=Β d;obtain⟨x,_,D,E,F,y⟩:=r;exact⟨_,y,(aT x).len⟩
def cR.view(d:cR f s e i H v g n):∃b a,α g=b*v/\View s n a (.J (eo v b g) .any)/\bs a e i H/\Ext e i f a:=by obtain⟨x,h,k,o⟩:=d;obtain⟨b,a,p,c,r⟩:=View.dA h;exact⟨b,a,p,r,k.mono c,o.trans (ψ c)⟩
theorem cR.vE{b:List au}(c:cR f s e i H 37 (flat g) n)(d:aB bC b g):∃a,View s n a (.J g .any)/\bs a e i H/\Ext e i f a:=by obtain⟨k,a,h,o,p⟩:=c.view;rw[cW (d.cells λ_ _=>Κ)]at h;grind[z6,F4]
theorem av.vE{b:List au}(c:av f s 37 (flat g) n)(d:aB bC b g):∃a,View s n a (.J g .any)/\f.sub a:=by obtain⟨k,a,h,o,p⟩:=View.dA c;rw[cW (d.cells λ_ _=>Κ)]at h;grind[z6,F4]
theorem nU(a:aB isRow X g):flat g=g:=by
 induction X generalizing g with
 |nil=>cases g with
  |nil=>rfl
  |cons=>exact a.elim
 |cons b X ih=>cases g with
  |nil=>rfl
  |cons c g=>obtain⟨d,rfl⟩:=a.1;have:=ih a.2;simp only[flat,a8I]at this|-;rw[this];rfl
theorem av.F5(b:av f s 1 (flat g) n)(c:aB isRow X g):∃a,View s n a (.J g .any)/\f.sub a:=by grind[View.dA,nU,jX,Γ]
def eC{c:Type}(d:List c->c4)(h:Nat):ai->List (List c)->List au->Except Int (List au)×ai
 |a,[],acc=>(.ok acc,a)
 |a,k::gs,acc=>
  match dG a h (d k)with
  |(.error o,b)=>(.error o,b)
  |(.ok p,b)=>eC d h b gs (acc++[p])
def a1d(d:Except Int (List au))(a:R):Prop:=
 match d with
 |.error b=>b≠0/\a=.aJ [.J [] .nil,.v (.int .i64 b)]
 |.ok bI=>∃c h,aB bC bI c/\a=.aJ [.J c h,.v (.int .i64 0)]
variable{b2:Type}
def hC(b:b2->R->Prop)(c:List b2)(d:R):Prop:=∃a h,d=.J a h/\aB b c a
theorem hC.cells{a:Type}{c:a->R->Prop}{d:List a}{b:R}(h:hC c d b):α b.cells=1:=by obtain⟨_,_,rfl,_⟩:=h;rfl
theorem aB.z7{b:b2->R->Prop}{a:List b2}(c:aB b a []):a=[]:=by cases a with|nil=>rfl|cons=>exact c.elim
def F6(a:0<e)(c:i<=100000):i/e+(if 0<i%e then 1 else 0)<=i:=by
 have d:=aaX i e;by_cases b:0<i%e
 .rw[if_pos b];have:i/e<=e*(i/e):=abX _ a;omega
 .rw[if_neg b];have:i/e<=e*(i/e):=abX _ a;omega
theorem F7(d:List Τ)(a:Ψ)(h:Own)(c:U)(k:aB isRow d a)(F:α d<=100000):
  AC γ 107 [.J a h] c λp r=>∃o,bf c r 1 a o/\p=.J a o:=by
 refine kJ λG=>?_;have x:h=.nil->a=[]:=λy=>by subst y;simp_all
 refine bg hm O9 acr ?_;simp -dsimp -implicitDefEqProofs (disch:=first|omega|assumption|(simp only[aX,Nat.reduceAdd];try omega)) only[go_sem,simprocAttr,-List.reduceReplicate,↓mE];refine mF (λb=>by rw[x b]) (λb=>?_) ?_
 .have z:a=[]:=by trivial
  subst z;refine al @a8U ?_;exact⟨c,η,.nil,Ν η,rfl⟩
 .refine bX ?_;refine dD η (by simp[aW]) λL P C=>?_;refine bX ?_;have S:=k.len;refine dW C (λ_ b=>by cases b) (k.cells λ_ _=>υ) (by rw[a8s];omega) (by rw[a8s];omega) λD E T=>?_;refine al @a8y.{0} ?_;exact⟨E,η,D,by trivial,rfl⟩
theorem a1e(L:List Τ)(S:Ψ)(u:Own)(c:Nat)(T:U)(M:aB isRow L S)(N:α L<=100000)(k8:c<=100000):
  AC γ 112 [.J S u,.v (.int .i64 (c:Int))] T λO V=>T.sub V/\∃gs Q,O=.J gs Q/\aB (hC isRow) (a6.fe c L) gs:=by
 refine bg hm Oj acr ?_;refine bX ?_;refine cv (λz V=>∃(d:Nat)(b:List Τ)(h:Ψ)(E:Own)(gs:Ψ)(P:Own)(F:List (List Τ)),d<=c/\F++a6.fe (c - d) b=a6.fe c L/\aB isRow b h/\α b<=100000/\α F=d/\aB (hC isRow) F gs/\bf T V 1 gs P/\
   z 0=.J h E/\z 1=.v (.int .i64 c)/\z 5=.J gs P/\z 8=.v (.int .i64 c)/\z 9=.v (.int .i64 d))
  (λz _=>match z 9 with|.v (.int _ X)=>c - X.toNat|_=>0) ⟨0,L,S,u,[],.nil,[],acq,rfl,M,N,rfl,trivial,Ν η,?_⟩ ?_
 .exact nF
 rintro z k9⟨d,b,h,E,gs,P,F,l0,C,k,Y,v,D,W,o,p,r,x,y⟩;by_cases e:(d)<(c:Int)
 .have w:=k.len;have Z:=F6 (e:=c - d) acq Y;have A:(c) -(d)=((c - d:Nat):Int):=acq;rw[show c - d=(c -(d+1))+1 by omega,a6.fe]at C;rw[show c -(d+1)+1=c - d by omega]at C;generalize l1:c - d=G at*;have B:¬(G:Int)=0:=acq;have l2:=aaY (α b) G;have H:(α b:Int).tdiv (G:Int)=((α b/G:Nat)):=rfl;have I:(α b:Int).tmod (G:Int)=((α b%G:Nat)):=rfl;obtain⟨a,f⟩:∃a,a=α b/G+(if 0<α b%G then 1 else 0):=⟨_,rfl⟩;rw[<-f]at Z C;by_cases K:0<α b%G
  .have g:((0)<((α b%G:Nat):Int))=True:=eq_true acq;have i:((α b/G:Nat))+1=(a:Int):=by rw[f,if_pos K];omega
   have j:dX 1 (.J h E) ε (β (.v (.int .i64 (a))))=β (.J (h.take a) .any):=oO acq acq (k.cells λ_ _=>υ);have l:dX 1 (.J h E) (β (.v (.int .i64 (a)))) ε=β (.J (h.drop a) .any):=ri acq acq (k.cells λ_ _=>υ);refine al (gl @o @p @r @x @y @e @w @A @H @I @B @g @i @j) ?_;refine ag (F7 (b.take a) (h.take a) .any _ (k.take a) (by rw[a8l];omega)) ?_;rintro _ k3⟨m,n,rfl⟩;refine al (bl @o @p @r @x @y) ?_;refine dD η (by simp[aW,ρ]) λk4 k5 q=>?_;refine al (bl @o @p @r @x @y) ?_;have k6:=D.len;refine dW (W.mono (ο n.sub q.sub)) (D.cells λ_ _=>hC.cells) (by simp[aW,ρ]) (by grind) (by grind) λs k7 t=>?_;refine al (bx @o @p @r @x @y @l) ?_;refine⟨⟨d+1,b.drop a,h.drop a,.any,gs++[.J (h.take a) m],s,F++[b.take a],acq,?_,k.drop a,by rw[a8z];omega,by simp[v],D.snoc ⟨_,_,rfl,k.take a⟩,t,acr⟩,acq⟩;rw[<-C,a8w];rfl
  .have g:((0)<((α b%G:Nat):Int))=False:=eq_false acq;have i:((α b/G:Nat))=(a:Int):=by rw[f,if_neg K];omega
   have j:dX 1 (.J h E) ε (β (.v (.int .i64 (a))))=β (.J (h.take a) .any):=oO acq acq (k.cells λ_ _=>υ);have l:dX 1 (.J h E) (β (.v (.int .i64 (a)))) ε=β (.J (h.drop a) .any):=ri acq acq (k.cells λ_ _=>υ);refine al (gl @o @p @r @x @y @e @w @A @H @I @B @g @i @j) ?_;refine ag (F7 (b.take a) (h.take a) .any _ (k.take a) (by rw[a8l];omega)) ?_;rintro _ k3⟨m,n,rfl⟩;refine al (bl @o @p @r @x @y) ?_;refine dD η (by simp[aW,ρ]) λk4 k5 q=>?_;refine al (bl @o @p @r @x @y) ?_;have k6:=D.len;refine dW (W.mono (ο n.sub q.sub)) (D.cells λ_ _=>hC.cells) (by simp[aW,ρ]) (by grind) (by grind) λs k7 t=>?_;refine al (bx @o @p @r @x @y @l) ?_;refine⟨⟨d+1,b.drop a,h.drop a,.any,gs++[.J (h.take a) m],s,F++[b.take a],acq,?_,k.drop a,by rw[a8z];omega,by simp[v],D.snoc ⟨_,_,rfl,k.take a⟩,t,acr⟩,acq⟩;rw[<-C,a8w];rfl
 .obtain rfl:d=c:=acq;rw[aat,a6.fe,a9p]at C;refine al (bx @o @p @r @x @y @e) ?_;exact⟨_,η,W.sub,gs,P,rfl,by rw[<-C];exact D⟩
theorem F8(d:List (au))(a:Ψ)(h:Own)(c:U)(k:aB bC d a)(F:α d<=100000):
  AC γ 234 [.J a h] c λp r=>∃o,bf c r 37 a o/\p=.J a o:=by
 refine kJ λG=>?_;have x:h=.nil->a=[]:=λy=>by subst y;simp_all
 refine bg hm RA acr ?_;simp -dsimp -implicitDefEqProofs (disch:=first|omega|assumption|(simp only[aX,Nat.reduceAdd];try omega)) only[go_sem,simprocAttr,-List.reduceReplicate,↓mE];refine mF (λb=>by rw[x b]) (λb=>?_) ?_
 .have z:a=[]:=by trivial
  subst z;refine al @a8U ?_;exact⟨c,η,.nil,Ν η,rfl⟩
 .refine bX ?_;refine dD η (by simp[aW]) λL P C=>?_;refine bX ?_;have S:=k.len;refine dW C (λ_ b=>by cases b) (k.cells λ_ _=>Κ) (by rw[a8s];omega) (by rw[a8s];omega) λD E T=>?_;refine al @a8y.{0} ?_;exact⟨E,η,D,by trivial,rfl⟩
theorem F9(L:List (au))(S:Ψ)(u:Own)(c:Nat)(T:U)(M:aB bC L S)(N:α L<=100000)(k8:c<=100000):
  AC γ 174 [.J S u,.v (.int .i64 (c:Int))] T λO V=>T.sub V/\∃gs Q,O=.J gs Q/\aB (hC bC) (a6.fe c L) gs:=by
 refine bg hm Q4 acr ?_;refine bX ?_;refine cv (λz V=>∃(d:Nat)(b:List (au))(h:Ψ)(E:Own)(gs:Ψ)(P:Own)(F:List (List (au))),d<=c/\F++a6.fe (c - d) b=a6.fe c L/\aB bC b h/\α b<=100000/\α F=d/\aB (hC bC) F gs/\bf T V 1 gs P/\
   z 0=.J h E/\z 1=.v (.int .i64 c)/\z 5=.J gs P/\z 8=.v (.int .i64 c)/\z 9=.v (.int .i64 d))
  (λz _=>match z 9 with|.v (.int _ X)=>c - X.toNat|_=>0) ⟨0,L,S,u,[],.nil,[],acq,rfl,M,N,rfl,trivial,Ν η,?_⟩ ?_
 .exact nF
 rintro z k9⟨d,b,h,E,gs,P,F,l0,C,k,Y,v,D,W,o,p,r,x,y⟩;by_cases e:(d)<(c:Int)
 .have w:=k.len;have Z:=F6 (e:=c - d) acq Y;have A:(c) -(d)=((c - d:Nat):Int):=acq;rw[show c - d=(c -(d+1))+1 by omega,a6.fe]at C;rw[show c -(d+1)+1=c - d by omega]at C;generalize l1:c - d=G at*;have B:¬(G:Int)=0:=acq;have l2:=aaY (α b) G;have H:(α b:Int).tdiv (G:Int)=((α b/G:Nat)):=rfl;have I:(α b:Int).tmod (G:Int)=((α b%G:Nat)):=rfl;obtain⟨a,f⟩:∃a,a=α b/G+(if 0<α b%G then 1 else 0):=⟨_,rfl⟩;rw[<-f]at Z C;by_cases K:0<α b%G
  .have g:((0)<((α b%G:Nat):Int))=True:=eq_true acq;have i:((α b/G:Nat))+1=(a:Int):=by rw[f,if_pos K];omega
   have j:dX 37 (.J h E) ε (β (.v (.int .i64 (a))))=β (.J (h.take a) .any):=oO acq acq (k.cells λ_ _=>Κ);have l:dX 37 (.J h E) (β (.v (.int .i64 (a)))) ε=β (.J (h.drop a) .any):=ri acq acq (k.cells λ_ _=>Κ);refine al (gl @o @p @r @x @y @e @w @A @H @I @B @g @i @j) ?_;refine ag (F8 (b.take a) (h.take a) .any _ (k.take a) (by rw[a8l];omega)) ?_;rintro _ k3⟨m,n,rfl⟩;refine al (bl @o @p @r @x @y) ?_;refine dD η (by simp[aW,ρ]) λk4 k5 q=>?_;refine al (bl @o @p @r @x @y) ?_;have k6:=D.len;refine dW (W.mono (ο n.sub q.sub)) (D.cells λ_ _=>hC.cells) (by simp[aW,ρ]) (by grind) (by grind) λs k7 t=>?_;refine al (bx @o @p @r @x @y @l) ?_;refine⟨⟨d+1,b.drop a,h.drop a,.any,gs++[.J (h.take a) m],s,F++[b.take a],acq,?_,k.drop a,by rw[a8z];omega,by simp[v],D.snoc ⟨_,_,rfl,k.take a⟩,t,acr⟩,acq⟩;rw[<-C,a8w];rfl
  .have g:((0)<((α b%G:Nat):Int))=False:=eq_false acq;have i:((α b/G:Nat))=(a:Int):=by rw[f,if_neg K];omega
   have j:dX 37 (.J h E) ε (β (.v (.int .i64 (a))))=β (.J (h.take a) .any):=oO acq acq (k.cells λ_ _=>Κ);have l:dX 37 (.J h E) (β (.v (.int .i64 (a)))) ε=β (.J (h.drop a) .any):=ri acq acq (k.cells λ_ _=>Κ);refine al (gl @o @p @r @x @y @e @w @A @H @I @B @g @i @j) ?_;refine ag (F8 (b.take a) (h.take a) .any _ (k.take a) (by rw[a8l];omega)) ?_;rintro _ k3⟨m,n,rfl⟩;refine al (bl @o @p @r @x @y) ?_;refine dD η (by simp[aW,ρ]) λk4 k5 q=>?_;refine al (bl @o @p @r @x @y) ?_;have k6:=D.len;refine dW (W.mono (ο n.sub q.sub)) (D.cells λ_ _=>hC.cells) (by simp[aW,ρ]) (by grind) (by grind) λs k7 t=>?_;refine al (bx @o @p @r @x @y @l) ?_;refine⟨⟨d+1,b.drop a,h.drop a,.any,gs++[.J (h.take a) m],s,F++[b.take a],acq,?_,k.drop a,by rw[a8z];omega,by simp[v],D.snoc ⟨_,_,rfl,k.take a⟩,t,acr⟩,acq⟩;rw[<-C,a8w];rfl
 .obtain rfl:d=c:=acq;rw[aat,a6.fe,a9p]at C;refine al (bx @o @p @r @x @y @e) ?_;exact⟨_,η,W.sub,gs,P,rfl,by rw[<-C];exact D⟩
theorem nV{b:Type}:∀ {g:Nat}{l:List b},(a6.fe g l).length=g/\∀a∈a6.fe g l,α a<=α l
 |0,l=>⟨rfl,λa c=>by cases c⟩
 |g+1,l=>by
  have ih:=nV (g:=g) (l:=l.drop (α l/(g+1)+if 0<α l%(g+1)then 1 else 0));refine⟨by rw[a6.fe,a8m,ih.1],λa d=>?_⟩;rw[a6.fe]at d;grind
def a1f(T:U)(y V:Nat)(W:ai)(l2:bs T y V W)(a:List (List Τ))(j:Ψ)(e:Own)(c:Nat)(l3:1<=c)(l4:c<=8)(l:aB (hC isRow) a j)(l5:∀m∈a,α m<=100000)(a19:α a<=100000):
  AC γ 111 [.J j e,.bL 114 [ee y c] []] T λu f=>match(eC dO c W a []).1 with
   |.error v=>bs f y V (eC dO c W a []).2/\Ext y V T f/\v≠0/\u=.aJ [.J [] .nil,.v (.int .i64 v)]
   |.ok bI=>∃d h,aB bC bI d/\u=.aJ [h,.v (.int .i64 0)]/\cR T f y V (eC dO c W a []).2 37 (flat d) h/\(bI=[]->h=.J [] .nil):=by
 refine bg hm Oh acr ?_;have w:∀N,(R.agg N).cells=N:=λ_=>rfl;have A:=(aT (M:=.nil) (e7:=.nil) (j0:=.nil) bm).len;have O:=l.len;have l6:fH γ 114=true:=acw;have a27:=bS.J (s:=T) (o:=e) (l.cells λ_ _=>hC.cells);refine al @O ?_;refine cv (λk f=>∃(b:Nat)(g:ai)(z:List au)(d:Ψ)(h:R),b<=α a/\eC dO c g (a.drop b) z=eC dO c W a []/\aB bC z d/\α z=b/\cR T f y V g 37 (flat d) h/\(z=[]->h=.J [] .nil)/\
   k 0=.J j e/\k 1=.bL 114 [ee y c] []/\k 6=h/\k 11=.J j e/\k 12=.v (.int .i64 (α a))/\k 13=.v (.int .i64 b))
  (λk _=>match k 13 with|.v (.int _ l7)=>α a - l7.toNat|_=>0) ⟨0,W,[],[],.J [] .nil,acq,rfl,trivial,rfl,cR.nil l2,λ_=>rfl,?_⟩ ?_
 .exact ch @O
 rintro k B⟨b,g,z,d,h,a29,D,n,l8,H,l9,E,F,G,L,P,S⟩;by_cases Q:(b:Int)<α a
 .have X:a[b]?=β a[b]:=Μ acq;have Y:a.drop b=a[b]::a.drop (b+1):=a8G acq;have Z:=l5 _ (a8L (n:=b) acq);rw[Y,eC]at D;clear Y;generalize a[b]'acq=m at X D Z;obtain⟨a30,n0,q,I,rfl,k3⟩:=l.get X;obtain⟨a34,n1,n2⟩:=(bS.J (s:=B) (o:=e) (l.cells λ_ _=>hC.cells)).get b _ n0;have k4:=n2.ld B η θ 1 acq (by simp[ρ]);have n3:aQ θ 1 (R.J q I).cells=.J q I:=rfl;rw[n3]at k4;refine al (de @E @F @G @L @P @S @Q @n1 @k4) ?_;refine fm l6 (yX B y V g H.hg m q (.J q I) c l3 l4 k3 (bS.J (k3.cells λ_ _=>υ)) Z) ?_;rintro u a36⟨k5,n4,s⟩;have k6:=H.step n4 k5;generalize a38:dG g c (dO m)=n5 at*;obtain⟨res,n9⟩:=n5;simp only at D k5 s k6;obtain⟨C,o,p,r,v,k7,x⟩:=s.shape;have k8:=aT (M:=o) (e7:=p) (j0:=r) k7;have i:=k8.len;have K:putAt (ab aw .nil .nil .nil) 0 (ab C o p r)=ab C o p r:=cF bm k7;subst x;refine al (gk @E @F @G @L @P @S @cr @w @A @i @K) ?_;refine aN λa42 a00=>?_;have M:=k6.mono (κ (Z:=.cells (ab C o p r)) η a00);cases res with
  |error a43=>obtain⟨a01,x⟩:=s;simp only[R.aJ.injEq,aax,R.v.injEq,Value.int.injEq,true_and,and_true]at x;obtain⟨_,rfl⟩:=x;rw[<-D];refine al (lE @E @F @G @L @P @S @cr @w @A @i @K @ς @a01) ?_;exact⟨_,η,M.hg,M.ext⟩
  |ok k9=>
   obtain⟨a02,a03,a04,a05,a06,x⟩:=s;simp only[R.aJ.injEq,aax,R.v.injEq,Value.int.injEq,true_and,and_true,R.agg.injEq]at x;obtain⟨x,rfl⟩:=x;obtain⟨a07,a08,a09,a10⟩:=M;refine al (gl @E @F @G @L @P @S @cr @w @A @i @K @ς @μ k8.t37) ?_;refine eP (by simp[aW,ρ,i]) acr λa47 a11=>?_;have a13:=av.mono a08 (κ (Z:=.cells (flat [R.agg (ab C o p r)])) η a11);have a14:aB bC (z++[k9]) (d++[R.agg (ab C o p r)]):=n.snoc ⟨a02,a03,a04,a05,a06,by rw[x]⟩;have l0:(flat d).length=α z*37:=by rw[cW (n.cells λ_ _=>Κ),n.len]
   have t:(flat [R.agg (ab C o p r)]).length=1*37:=by simp[flat,ρ,i]
   refine al (bx @E @F @G @L @P @S) ?_;refine eZ a13 acq (nR t) t (by rw[l0,t];omega) (by rw[l0,t];omega) λa15 a48 l1=>?_;have a16:flat d++flat [R.agg (ab C o p r)]=flat (d++[R.agg (ab C o p r)]):=by simp[flat]
   rw[a16]at l1;refine al (bx @E @F @G @L @P @S) ?_;exact⟨⟨b+1,n9,z++[k9],_,a15,acq,D,a14,by simp[l8],⟨a07,l1,a09,a10⟩,(λa18=>by simp at a18),acr⟩,acq⟩
 .obtain rfl:b=α a:=acq;rw[aag,eC]at D;rw[<-D];refine al (cb @E @F @G @L @P @S @Q) ?_;exact⟨_,η,d,h,n,rfl,H,l9⟩
def pa(a:ai)(b:Nat)(c:List Τ):Except Int (List au)×ai:=eC dO b a (a6.chunks c) []
def Fa(T:U)(y V:Nat)(W:ai)(l2:bs T y V W)(a:List (List (au)))(j:Ψ)(e:Own)(c:Nat)(l3:1<=c)(l4:c<=8)(l:aB (hC bC) a j)(l5:∀m∈a,α m<=100000)(a19:α a<=100000):
  AC γ 173 [.J j e,.bL 175 [ee y c] []] T λu f=>match(eC ew c W a []).1 with
   |.error v=>bs f y V (eC ew c W a []).2/\Ext y V T f/\v≠0/\u=.aJ [.J [] .nil,.v (.int .i64 v)]
   |.ok bI=>∃d h,aB bC bI d/\u=.aJ [h,.v (.int .i64 0)]/\cR T f y V (eC ew c W a []).2 37 (flat d) h/\(bI=[]->h=.J [] .nil):=by
 refine bg hm Q2 acr ?_;have w:∀N,(R.agg N).cells=N:=λ_=>rfl;have A:=(aT (M:=.nil) (e7:=.nil) (j0:=.nil) bm).len;have O:=l.len;have l6:fH γ 175=true:=acw;have a27:=bS.J (s:=T) (o:=e) (l.cells λ_ _=>hC.cells);refine al @O ?_;refine cv (λk f=>∃(b:Nat)(g:ai)(z:List au)(d:Ψ)(h:R),b<=α a/\eC ew c g (a.drop b) z=eC ew c W a []/\aB bC z d/\α z=b/\cR T f y V g 37 (flat d) h/\(z=[]->h=.J [] .nil)/\
   k 0=.J j e/\k 1=.bL 175 [ee y c] []/\k 6=h/\k 11=.J j e/\k 12=.v (.int .i64 (α a))/\k 13=.v (.int .i64 b))
  (λk _=>match k 13 with|.v (.int _ l7)=>α a - l7.toNat|_=>0) ⟨0,W,[],[],.J [] .nil,acq,rfl,trivial,rfl,cR.nil l2,λ_=>rfl,?_⟩ ?_
 .exact ch @O
 rintro k B⟨b,g,z,d,h,a29,D,n,l8,H,l9,E,F,G,L,P,S⟩;by_cases Q:(b:Int)<α a
 .have X:a[b]?=β a[b]:=Μ acq;have Y:a.drop b=a[b]::a.drop (b+1):=a8G acq;have Z:=l5 _ (a8L (n:=b) acq);rw[Y,eC]at D;clear Y;generalize a[b]'acq=m at X D Z;obtain⟨a30,n0,q,I,rfl,k3⟩:=l.get X;obtain⟨a34,n1,n2⟩:=(bS.J (s:=B) (o:=e) (l.cells λ_ _=>hC.cells)).get b _ n0;have k4:=n2.ld B η θ 1 acq (by simp[ρ]);have n3:aQ θ 1 (R.J q I).cells=.J q I:=rfl;rw[n3]at k4;refine al (de @E @F @G @L @P @S @Q @n1 @k4) ?_;refine fm l6 (F0 B y V g H.hg m q (.J q I) c l3 l4 k3 (bS.J (k3.cells λ_ _=>Κ)) Z) ?_;rintro u a36⟨k5,n4,s⟩;have k6:=H.step n4 k5;generalize a38:dG g c (ew m)=n5 at*;obtain⟨res,n9⟩:=n5;simp only at D k5 s k6;obtain⟨C,o,p,r,v,k7,x⟩:=s.shape;have k8:=aT (M:=o) (e7:=p) (j0:=r) k7;have i:=k8.len;have K:putAt (ab aw .nil .nil .nil) 0 (ab C o p r)=ab C o p r:=cF bm k7;subst x;refine al (gk @E @F @G @L @P @S @cr @w @A @i @K) ?_;refine aN λa42 a00=>?_;have M:=k6.mono (κ (Z:=.cells (ab C o p r)) η a00);cases res with
  |error a43=>obtain⟨a01,x⟩:=s;simp only[R.aJ.injEq,aax,R.v.injEq,Value.int.injEq,true_and,and_true]at x;obtain⟨_,rfl⟩:=x;rw[<-D];refine al (lE @E @F @G @L @P @S @cr @w @A @i @K @ς @a01) ?_;exact⟨_,η,M.hg,M.ext⟩
  |ok k9=>
   obtain⟨a02,a03,a04,a05,a06,x⟩:=s;simp only[R.aJ.injEq,aax,R.v.injEq,Value.int.injEq,true_and,and_true,R.agg.injEq]at x;obtain⟨x,rfl⟩:=x;obtain⟨a07,a08,a09,a10⟩:=M;refine al (gl @E @F @G @L @P @S @cr @w @A @i @K @ς @μ k8.t37) ?_;refine eP (by simp[aW,ρ,i]) acr λa47 a11=>?_;have a13:=av.mono a08 (κ (Z:=.cells (flat [R.agg (ab C o p r)])) η a11);have a14:aB bC (z++[k9]) (d++[R.agg (ab C o p r)]):=n.snoc ⟨a02,a03,a04,a05,a06,by rw[x]⟩;have l0:(flat d).length=α z*37:=by rw[cW (n.cells λ_ _=>Κ),n.len]
   have t:(flat [R.agg (ab C o p r)]).length=1*37:=by simp[flat,ρ,i]
   refine al (bx @E @F @G @L @P @S) ?_;refine eZ a13 acq (nR t) t (by rw[l0,t];omega) (by rw[l0,t];omega) λa15 a48 l1=>?_;have a16:flat d++flat [R.agg (ab C o p r)]=flat (d++[R.agg (ab C o p r)]):=by simp[flat]
   rw[a16]at l1;refine al (bx @E @F @G @L @P @S) ?_;exact⟨⟨b+1,n9,z++[k9],_,a15,acq,D,a14,by simp[l8],⟨a07,l1,a09,a10⟩,(λa18=>by simp at a18),acr⟩,acq⟩
 .obtain rfl:b=α a:=acq;rw[aag,eC]at D;rw[<-D];refine al (cb @E @F @G @L @P @S @Q) ?_;exact⟨_,η,d,h,n,rfl,H,l9⟩
def a1g(h:U)(c k:Nat)(d:ai)(C:bs h c k d)(a:List (List (au)))(p:Ψ)(r:Own)(b:Nat)(D:1<=b)(E:b<=8)(F:aB (hC bC) a p)(G:∀L∈a,α L<=100000)(P:α a<=100000):
  AC γ 173 [.J p r,.bL 175 [ee c b] []] h λx o=>bs o c k (eC ew b d a []).2/\Ext c k h o/\a1d (eC ew b d a []).1 x:=by
 refine(Fa h c k d C a p r b D E F G P).view λx o y=>?_;generalize eC ew b d a []=S at*;obtain⟨res,m⟩:=S;cases res with
 |error n=>obtain⟨T,V,W,rfl⟩:=y;exact⟨_,o,View.refl,T,V,W,rfl⟩
 |ok bI=>obtain⟨e,q,z,rfl,f,_⟩:=y;obtain⟨g,i,j,l⟩:=f.vE z;exact⟨_,g,View.aJ (a:=[]) i,j,l,e,.any,z,rfl⟩
def kd(a:ai)(b:Nat)(c:List (au)):Except Int (List au)×ai:=eC ew b a (a6.chunks c) []
theorem rM{b:Type}{c:List b->c4}{d:Nat}:∀ {gs:List (List b)}{S S':ai}{acc ks:List au},eC c d S gs acc=(.ok ks,S')->α ks=α acc+α gs
 |[],S,S',acc,ks,a=>by
  grind[eC,Prod.mk.inj,Except.ok.inj]
 |h::gs,S,S',acc,ks,a=>by
  rw[eC]at a;split at a
  .simp_all
  .have:=rM a;rw[this];simp;omega
def iS(c:Nat):Nat->ai->List au->Except Int au×ai
 |0,a,_=>(.error 1,a)
 |d+1,a,bI=>
  if 1<α bI then match kd a c bI with
   |(.error h,b)=>(.error h,b)
   |(.ok up,b)=>iS c d b up
  else(.ok (bI.headD aw),a)
def a1h(k:U)(c o:Nat)(g:ai)(H:bs k c o g)(d:List au)(i:Ψ)(k8:Own)(b:Nat)(a02:1<=b)(a03:b<=8)(a04:aB bC d i)(a42:α d<=100000):
  AC γ 115 [ee c b,.J i k8] k λk9 h=>bs h c o (iS b (α d+1) g d).2/\Ext c o k h/\hf (iS b (α d+1) g d).1 k9:=by
 refine bg hm Ot acr ?_;have T:∀l0,(R.agg l0).cells=l0:=λ_=>rfl;have I:=(aT (M:=.nil) (e7:=.nil) (j0:=.nil) bm).len;have K:∀E V:R,List.take 2 [E,V]=[E,V]:=λ_ _=>rfl;have M:∀E V,aQ ζ 2 [E,V]=.agg [E,V]:=λ_ _=>rfl;refine al @T ?_;refine aN λj l1=>?_;refine al (c2 @T @cr) ?_;refine aN λF q=>?_;have l2:j≠F:=by rintro rfl;rw[μ]at q;cases q
 have N:k F=none:=by rw[ξ _ _ (Δ l2)]at q;exact q
 obtain⟨p,s⟩:∃p:U,p=(k.set j (.cells [.ptr c 0,.v (.int .i64 (b))])).set F (.cells (ab aw .nil .nil .nil)):=⟨_,rfl⟩;have l3:k.sub p:=by rw[s];exact κ (κ η l1) N
 have aP:p F=β (.cells (ab aw .nil .nil .nil)):=by rw[s,μ]
 have c2:p j=β (.cells [.ptr c 0,.v (.int .i64 (b))]):=by rw[s,ξ _ _ l2,μ]
 have G:=H.cG N;have l4:=H.cG l1;have l5:=(aT (M:=.nil) (e7:=.nil) (j0:=.nil) bm).t37;have l6:putAt (ab aw .nil .nil .nil) 0 (ab aw .nil .nil .nil)=ab aw .nil .nil .nil:=cF bm bm;have O:∀(h)(l7),Ext c o p h->Ext c o k (h.set F l7):=λh l7 Q=>((ψ l3).trans Q).set N;simp -dsimp -implicitDefEqProofs (disch:=first|omega|assumption|(simp only[aX,Nat.reduceAdd];try omega)) only[go_sem,simprocAttr,-List.reduceReplicate,T,cr];rw[show(k.set j (.cells (ee c b).cells)).set F (.cells (δ 32 (R.v (.int .u8 0))++[R.J [] .nil,.J [] .nil]++[R.v (.int .i64 0),.v (.int .i64 0)]++[R.J [] .nil]))=p by rw[s,<-cr];rfl];refine cv (λW h=>∃(e:Nat)(r:ai)(a:List au)(t:Ψ)(u:Own),iS b e r a=iS b (α d+1) g d/\α a<e/\e<=100001/\aB bC a t/\bs h c o r/\Ext c o p h/\W 1=.J t u/\W 2=.ptr j 0/\W 4=.ptr F 0)
  (λW _=>match W 1 with|.J i _=>α i|_=>0) ⟨α d+1,g,d,i,k8,rfl,acq,acq,a04,H.mono l3,Ext.refl,?_⟩ ?_
 .exact nF
 rintro W l⟨e,r,a,t,u,x,a43,a47,v,X,m,L,P,S⟩;have w:=v.len;have Y:=m _ _ l4.1 l4.2 c2;have l8:=m _ _ G.1 G.2 aP;obtain⟨Z,rfl⟩:∃Z,e=Z+1:=⟨e - 1,acq⟩;rw[iS]at x;by_cases A:(1:Int)<α a
 .rw[if_pos acq]at x;refine al (bz @L @P @S @w @A (ι Y) @K @M) ?_;refine ag (yV (α a) acq l) ?_;rintro _ l⟨rfl,rfl⟩;refine al (bz @L @P @S @w @A (ι Y) @K @M) ?_;have l9:a6.bY (α a)<=100000:=by unfold a6.bY;omega
  refine ag (F9 a t u (a6.bY (α a)) l v acq l9) ?_;rintro _ a05⟨k3,gs,a06,rfl,a07⟩;have a08:=k3 _ _ Y;refine al (bx @L @P @S (ι a08) @K @M) ?_;have k4:=nV (g:=a6.bY (α a)) (l:=a);refine ag (a1g a05 c o r (X.mono k3) _ gs a06 b a02 a03 a07 (λa09 a10=>by have:=k4.2 a09 a10;omega) (by rw[k4.1];exact l9)) ?_;rintro k9 a48⟨n,a11,y⟩;have n0:kd r b a=eC ew b r (a6.fe (a6.bY (α a)) a) []:=rfl;rw[<-n0]at n y;have n1:=λB a13 Q=>rM (c:=ew) (d:=b) (gs:=a6.fe (a6.bY (α a)) a) (S:=r) (S':=B) (acc:=[]) (ks:=a13) Q;rw[<-n0]at n1;have k5:=m.trans ((ψ k3).trans a11);have a14:=k5 _ _ G.1 G.2 aP;generalize kd r b a=a15 at*;obtain⟨res,B⟩:=a15;cases res with
  |error a52=>obtain⟨n2,rfl⟩:=y;simp only at x n;rw[<-x];refine al (cj @L @P @S @n2 @cr @T (τ a14) @I @l5 @l6) ?_;exact⟨_,η,n.set G,O _ _ k5,n2,rfl⟩
  |ok up=>
   obtain⟨a16,a18,n3,rfl⟩:=y;have n4:=n1 B up rfl;rw[k4.1]at n4;have a56:α up<α a:=by rw[n4];unfold a6.bY;simp;omega
   have a57:=n3.len;simp only at x n;refine al (aD @L @P @S) ?_;exact⟨⟨Z,B,up,a16,a18,x,acq,acq,n3,n,k5,rfl⟩,acq⟩
 .rw[if_neg acq]at x;rw[<-x];by_cases k6:(α a:Int)=0
  .have:a=[]:=a8q acq;subst this;refine al (gV @L @P @S @w @A @k6 @cr @T (τ l8) @I @l5 @l6) ?_;exact⟨_,η,X.set G,O _ _ m,bm,qg,.nil,.nil,.nil,rfl⟩
  .have n5:a[0]?=β a[0]:=Μ acq;have a19:a.headD aw=a[0]'acq:=by cases a with|nil=>simp at k6|cons E V=>rfl
   rw[a19];generalize a[0]'acq=f at n5;obtain⟨E,a27,k7,a29,z,C,D,rfl⟩:=v.get n5;obtain⟨a61,n9,a00⟩:=(bS.J (s:=l) (o:=u) (v.cells λ_ _=>Κ)).get 0 _ a27;have y:=aT (M:=z) (e7:=C) (j0:=D) k7;have a30:=y.len;have a34:(R.agg (ab f z C D)).cells=ab f z C D:=rfl;rw[a34]at a00;have a01:=a00.ld l η ζ 37 acq (by rw[y.len];omega);rw[show aQ ζ 37 (ab f z C D)=.agg (ab f z C D) by rw[aQ,if_pos rfl,y.t37]]at a01;have a36:((0:Nat):Int)=0:=rfl;rw[a36]at n9;have a38:putAt (ab aw .nil .nil .nil) 0 (ab f z C D)=ab f z C D:=cF bm k7;refine al (gl @L @P @S @w @A @k6 @n9 @a01 @T (τ l8) @I @a30 @a38 y.t37) ?_;exact⟨_,η,X.set G,O _ _ m,k7,a29,z,C,D,rfl⟩
end Go.Proofs.YtkafjfkjahgihaaGreat
namespace Go.bD
open Go
variable{g B e1:Ψ}{e i v O e0 j6:Nat}
theorem qj{a:Ψ}{v:Nat}(b:g.take e=a)(c:α B=v)(d:α e1=i)(h:e+v+i<=α g):
  (putAt (putAt g (e+v) e1) e B).take (e+v+i)=a++(B++e1)/\(putAt (putAt g e B) (e+v) e1).take (e+v+i)=a++(B++e1):=by
 have k:α a=e:=by rw[<-b,a8l];omega
 constructor
 .have o:(g.take (e+v)).length=e+v:=by rw[a8l];omega
  grind[putAt,List.append_assoc,Nat.min_eq_left,List.drop_left',List.take_left',ω]
 grind[putAt,List.take_left',ω,List.append_assoc]
variable{e2:IntKind}
theorem pb(k:e<=O)(o:O<=e0):∃v,ck i (.aq j6 O e0 i) (β (.v (.int e2 (e:Int)))) ε ε=β v/\fk v=β (.v (.int .i64 ((O - e:Nat):Int)))/\
  ∀(c:U)(a b:Ψ),c j6=β (.cells a)->O*i<=α a->a.take (O*i)=b->bT c i v=β (O - e,b.drop (e*i)):=by
 by_cases p:e<e0
 .refine⟨_,gm k o p,rfl,λc a b d r h=>?_⟩;have x:e*i+(O - e)*i=O*i:=by rw[<-a9s];congr 1;omega
  simp only[bT,ι d];grind
 .obtain rfl:e=O:=acq;obtain rfl:e=e0:=acq;refine⟨_,uY rfl,by simp[fk],λc a b d r h=>?_⟩;have:b.drop (e*i)=[]:=a8Z (by rw[<-h,a8l];omega);rw[this,aat];rfl
theorem Fb{a:Nat}{b:IntKind}(c:e0<=e)(d:e<=O):∃v,ck i (.aq j6 a O i) (β (.v (.int e2 (e0:Int)))) (β (.v (.int b (e:Int)))) ε=β v:=by simp_all [ck,cJ,Go.bD.intOf]
theorem Fc{a b:Nat}{c d:IntKind}(h:j6<=e)(k:e<=i)(o:i<=e0):∃v,ck O (.aq a b e0 O) (β (.v (.int e2 (j6:Int)))) (β (.v (.int c (e:Int)))) (β (.v (.int d (i:Int))))=β v:=by simp_all [ck,cJ,Go.bD.intOf]
variable{f s e5:U}
theorem av.first(c:av f s e g (.aq v O e0 e))(d:i<=O):av f s e (g.take (i*e)) (.aq v i e0 e):=by
 obtain⟨h,a⟩:=c;rcases a with⟨_,a|a⟩|⟨y,z,C,k,b,o,p,r,D,E,F,x⟩
 .cases a
 .cases a
 simp only[R.aq.injEq,and_true]at b;obtain⟨rfl,rfl,rfl⟩:=b;have G:i*e<=O*e:=a8x _ d;exact⟨h,.inr ⟨v,i,e0,k,rfl,o,p,r,by grind,by simp_all,acq,x⟩⟩
theorem av.aq{o p:U}{k:Nat}{a:Ψ}{r:R}(y:av o p k a r)(z:a≠[]):∃d b c h,r=.aq d b c k/\o d=ε/\p d=β (.cells h)/\α h=c*k/\h.take (b*k)=a/\α a=b*k/\b<=c/\c<=maxLen:=by
 rcases y.2 with⟨x,_⟩|x
 .trivial
 .exact x
variable{n b6:R}{Z:bt}
theorem av.add(o:av s f i g n)(E:f e=β Z)(p:∀a b c,n=.aq a b c i->a≠e):av (s.set e Z) f i g n:=by
 obtain⟨r,d⟩:=o;refine⟨λx F h=>?_,?_⟩
 .by_cases y:x=e;grind[μ]
  .rw[ξ _ _ y]at h;exact r _ _ h
 .rcases d with d|⟨a,b,c,z,k,C,D⟩
  .exact .inl d
  .exact .inr ⟨a,b,c,z,k,by rw[ξ _ _ (p _ _ _ k)];exact C,D⟩
variable{q Y:R -> U -> Prop}
theorem vF{a:cC q}(b:f O=β (.cells g))(c:α g=e0*e)(d:bT f e n=β (v,B))(h:i+v<=e0)(k:(i+v)*j6<=140737488355328)(o:i+v<=9223372036854775807)
  (p:q (.aq O (i+v) e0 e) (f.set O (.cells (putAt g (i*e) B)))):jW e j6 f (.aq O i e0 e) n (bR q a):=by
 simp_all [jW,x7,bR]
end Go.bD
namespace Go.Proofs.YtkafjfkjahgihaaGreat
open Go Go.bD
theorem a1i(z o:U)(c:Ψ)(C:R)(D:av z o 1 c C)(a:Nat)(E:a<α c)(u:α c<=100000):
  AC γ 255 [C,.v (.int .i64 (a:Int)),.v (.int .i64 ((a:Int)+1))] o λT V=>av z V 1 (c.take a++c.drop (a+1)) T:=by
 obtain⟨d,b,h,F,rfl,G,L,P,W,v,p,e⟩:=D.aq (λf=>by rw[f]at E;simp at E);refine bg hm S9 acr ?_;have w:b=α c:=acq;have g:(a)+1=((a+1:Nat):Int):=acq;rw[g];obtain⟨A,i⟩:=Fc (O:=1) (a:=d) (b:=b) (j6:=a) (e:=a+1) (e2:=.i64) (c:=.i64) (d:=.i64) acq acq p;have j:ck 1 (.aq d b h 1) ε (β (.v (.int .i64 (a)))) ε=β (.aq d a h 1):=hZ acq;obtain⟨B,l,_,r⟩:=pb (i:=1) (j6:=d) (e:=a+1) (e2:=.i64) acq p;have r:=r o F c L (by rw[P];omega) W;have m:¬(a)=((a+1:Nat):Int):=acq;refine dM (aP @i @j @l @m) ?_;refine vF L P r acq acq acq ?_;have n:a+(b -(a+1))=b - 1:=acq;rw[n,a8Y];have H:(c.drop ((a+1)*1)).length=b -(a+1):=by rw[a8z];omega
 obtain⟨k,x⟩:∃k,k=putAt F a (c.drop ((a+1)*1)):=⟨_,rfl⟩;have y:α k=h:=by rw[x,eF _ _ _ acq];omega
 have q:k.take (b - 1)=c.take a++c.drop (a+1):=by rw[x,putAt];grind
 rw[<-x];have s:(o.set d (.cells k)) d=β (.cells k):=μ _ _ _;have S:ck 1 (.aq d (b - 1) h 1) (β (.v (.int .i64 ((b - 1:Nat))))) (β (.v (.int .i64 ((b))))) ε=β (.bE d ((b - 1)*1) (b -(b - 1)) (h -(b - 1)) 1):=DH acq p acq;have t:=yc (e:=1) (O:=b -(b - 1)) (v:=b - 1) (e0:=h -(b - 1)) (B:=[R.J [] .nil]) s (by rw[y];omega);rw[a8Y]at S;refine dM (aD @S @t @ς) ?_;refine⟨_,η,κ D.1 G,.inr ⟨d,b - 1,h,_,rfl,G,μ _ _ _,?_,?_,?_,acq,e⟩⟩
 .rw[eF _ _ _ (by rw[ly,y];simp;omega),y,a8Y]
 .rw[putAt,a8Y,a8w,a9O (by rw[a8l];omega),a9B,aak,q]
 grind
theorem a1j(l o:U)(d:Ψ)(H:R)(y:av l o 1 d H)(O:d≠[])(a:Nat)(l5:a<=α d)(l6:α d<=100000)(k:R)(z:Nat)(m:l z=β (.cells [k])):
  AC γ 249 [H,.v (.int .i64 (a:Int)),.aq z 1 1 1] o λQ G=>av l G 1 (d.take a++k::d.drop a) Q:=by
 obtain⟨c,b,h,x,rfl,n,D,q,s,l7,X,Y⟩:=y.aq O;refine bg hm RZ acr ?_;have l8:b=α d:=acq;have L:=y.1 _ _ m;have I:c≠z:=by rintro rfl;rw[n]at m;cases m
 have W:((1:Nat):Int)=1:=rfl;obtain⟨l9,e,_,K⟩:=pb (i:=1) (j6:=c) (e:=a) (e2:=.i64) acq X;have t:∀G:U,G z=β (.cells [k])->bT G 1 (.aq z 1 1 1)=β (1,[k]):=λG y=>by simp[bT,ι y]
 by_cases c1:(a:Int)=b
 .have Z:=eq_true c1;refine dM (aD @e @Z @W) ?_;refine eZ y acq (t o L) rfl (by grind) (by grind) λn0 G n1=>?_;refine DL ?_;grind[η,Γ,List.drop_eq_nil_of_le]
 have n2:a<b:=acq;have k3:=K o x d D acq s;rw[a8Y]at k3;have M:(d.drop a).length=b - a:=by rw[a8z];omega
 by_cases c2:(h)<(b:Int)+1
 .have f:ck 1 (.aq c b h 1) ε (β (.v (.int .i64 (a)))) ε=β (.aq c a h 1):=hZ acq;have N:(b)+1 -(a)=((b+1 - a:Nat):Int):=acq;refine dM (bx @e @c1 @W @c2 @f @N) ?_;refine ye D q acq acq acq λp C k4 g i k5 k6=>?_;have k7:a+(b+1 - a)=b+1:=acq;rw[k7]at i k6|-;have k8:p≠c:=by rintro rfl;rw[g]at D;cases D
  have k9:p≠z:=by rintro rfl;rw[g]at L;cases L
  obtain⟨E,l0⟩:∃E,E=x.take (a*1)++(δ (b+1 - a) [R.J [] .nil]).flatten++k4:=⟨_,rfl⟩;have l1:α E=C:=by grind[ω,ly,List.length_take]
  have u:E.take a=d.take a:=by grind
  rw[<-l0];have V:ck 1 (.aq p (b+1) C 1) (β (.v (.int .i64 (a)))) ε ε=β (.bE p (a*1) (b+1 - a) (C - a) 1):=gm acq i acq;have F:ck 1 (.aq p (b+1) C 1) (β (.v (.int .i64 ((a)+1)))) ε ε=β (.bE p ((a+1)*1) (b+1 -(a+1)) (C -(a+1)) 1):=by rw[show(a)+1=((a+1:Nat):Int) by omega];exact gm acq i acq
  rw[a8Y]at V F;rw[ac4]at F;have v:(o.set p (.cells E)) z=β (.cells [k]):=by rw[ξ _ _ (Δ k9)];exact L
  have P:=ht (O:=a) (j6:=C - a) (i:=b+1 - a) (t _ v) (μ o p (.cells E)) acq;have w:[k].take ((b+1 - a)*1)=[k]:=Ο acs;rw[w]at P;obtain⟨r,S⟩:∃r,r=putAt E a [k]:=⟨_,rfl⟩;have A:α r=C:=by rw[S,eF _ _ _ acs,l1]
  rw[<-S]at P;have l2:(o.set p (.cells r)) c=β (.cells x):=by rw[ξ _ _ (Δ k8)];exact D
  have j:=K _ x d l2 acq s;rw[a8Y]at j;have T:=ht (O:=a+1) (j6:=C -(a+1)) (i:=b - a) j (μ o p (.cells r)) acq;have B:(d.drop a).take ((b - a)*1)=d.drop a:=Ο acq;rw[B]at T;refine dM (gk @e @c1 @W @c2 @f @N @V @F @P @T @ς) ?_;refine⟨_,η,κ y.1 (Ι y.1 g),.inr ⟨p,b+1,C,_,rfl,Ι y.1 g,μ _ _ _,?_,?_,?_,i,k5⟩⟩
  .rw[eF _ _ _ acq,A,a8Y]
  .have:=(qj (B:=[k]) (v:=1) u rfl M acq).2;rw[show(b+1)*1=a+1+(b - a) by omega,S];exact this
  grind
 .have f:ck 1 (.aq c b h 1) ε (β (.v (.int .i64 ((b)+1)))) ε=β (.aq c (b+1) h 1):=by rw[show(b)+1=((b+1:Nat):Int) by omega];exact hZ acq
  have V:ck 1 (.aq c (b+1) h 1) (β (.v (.int .i64 (a)))) ε ε=β (.bE c (a*1) (b+1 - a) (h - a) 1):=gm acq acq acq;have F:ck 1 (.aq c (b+1) h 1) (β (.v (.int .i64 ((a)+1)))) ε ε=β (.bE c ((a+1)*1) (b+1 -(a+1)) (h -(a+1)) 1):=by rw[show(a)+1=((a+1:Nat):Int) by omega];exact gm acq acq acq
  rw[a8Y]at V F;rw[ac4]at F;have l3:x≠[]:=by rintro rfl;simp at q;omega
  have l4:lx (.aq z 1 1 1) (.bE c (a+1) (b - a) (h -(a+1)) 1) o=β (.v (.bool θ)):=yd rfl rfl (Δ I) (rp L acr) (rp D l3);have j:bT o 1 (.bE c a (b+1 - a) (h - a) 1)=β (b+1 - a,(x.drop a).take (b+1 - a)):=by simp only[bT,ι D,a8Y];grind
  have T:=ht (O:=a+1) (j6:=h -(a+1)) (i:=b - a) j D acq;have B:((x.drop a).take (b+1 - a)).take ((b - a)*1)=d.drop a:=by rw[a9B,<-s,a9F];congr 1;omega
  rw[B]at T;obtain⟨r,S⟩:∃r,r=putAt x (a+1) (d.drop a):=⟨_,rfl⟩;rw[<-S]at T;have A:α r=α x:=by rw[S,eF _ _ _ acq]
  have v:(o.set c (.cells r)) z=β (.cells [k]):=by rw[ξ _ _ (Δ I)];exact L
  have P:=ht (O:=a) (j6:=h - a) (i:=b+1 - a) (t _ v) (μ o c (.cells r)) acq;have w:[k].take ((b+1 - a)*1)=[k]:=Ο acs;rw[w]at P;refine dM (gk @e @c1 @W @c2 @f @V @F @l4 @T @P @ς) ?_;refine⟨_,η,κ y.1 n,.inr ⟨c,b+1,h,_,rfl,n,μ _ _ _,?_,?_,?_,acq,Y⟩⟩
  .rw[eF _ _ _ acs,A,q]
  .have u:x.take a=d.take a:=by grind
   have:=(qj (B:=[k]) (v:=1) u rfl M acq).1;grind
  grind
end Go.Proofs.YtkafjfkjahgihaaGreat
namespace Go.bD
open Go
variable{f s e5:U}{e i v O e0 j6:Nat}{Z:bt}
theorem U.tG(a:f e=β Z):f.set e Z=f:=by grind[μ,ξ]
variable{e2:IntKind}{g B e1:Ψ}
def vG(k:i<=O)(h:O<=e0)(o:α g=e):∃v,ck e (.aq j6 O e0 e) (β (.v (.int e2 (i:Int)))) ε ε=β v/\
  ∀(b:U)(a:Ψ),b j6=β (.cells a)->α a=e0*e->∃c,lv e g v b=β (b.set j6 (.cells c))/\α c=α a/\c.take (i*e)=a.take (i*e):=by
 by_cases p:i<e0
 .refine⟨_,gm k h p,λb a d r=>?_⟩;have x:i*e+(O - i)*e=O*e:=by rw[<-a9s];congr 1;omega
  have y:O*e<=e0*e:=a8x _ h;have z:i*e<=α a:=acq;refine⟨_,yc d acq,?_,?_⟩
  .rw[eF _ _ _ (by rw[ly,o];omega)]
  .rw[putAt,a8w,a9O (by rw[a8l];omega),a9B,aak]
 .obtain rfl:i=O:=acq;obtain rfl:i=e0:=acq;exact⟨_,uY rfl,λb a d r=>⟨a,by rw[YG,U.tG d],rfl,rfl⟩⟩
end Go.bD
namespace Go.Proofs.YtkafjfkjahgihaaGreat
open Go Go.bD
theorem Fe(n0 O r:U)(x F:Ψ)(k9 v:R)(o b a c:Nat)(l0:Int)(n1:l0=(c:Int))(C:av O r 37 x k9)(l1:α x=o*37)(n2:av n0 O 37 F v)(S:α F=b*37)(a47:0<b)(a48:a<c)(a52:c<=o)(a56:o<=100000)(a57:b<=100000):
  AC γ 252 [k9,.v (.int .i64 (a:Int)),.v (.int .i64 l0),v] r λn3 e=>av O e 37 (x.take (a*37)++(F++x.drop (c*37))) n3:=by
 subst n1;obtain⟨h,n4,p,z,rfl,T,E,q,Q,a61,X,Y⟩:=C.aq (λZ=>by rw[Z]at l1;simp at l1;omega);obtain⟨V,n5,l2,s,rfl,a62,k3,n9,a63,a65,a68,a69⟩:=n2.aq (λZ=>by rw[Z]at S;simp at S;omega);obtain rfl:o=n4:=acq;obtain rfl:b=n5:=acq;have G:=C.1 _ _ k3;have l3:h≠V:=by rintro rfl;rw[T]at k3;cases k3
 have j:∀e:U,e V=β (.cells s)->bT e 37 (.aq V b l2 37)=β (b,F):=λe C=>by
  simp only[bT,ι C];grind
 refine bg hm CQ acr ?_;obtain⟨a71,l⟩:=Fb (i:=37) (j6:=h) (a:=o) (O:=p) (e0:=a) (e:=c) (e2:=.i64) (b:=.i64) acq acq;have m:¬(a:Int)=c:=acq;have n:ck 37 (.aq h o p 37) ε (β (.v (.int .i64 (a)))) ε=β (.aq h a p 37):=hZ acq;have l4:(δ 32 (R.v (.int .u8 0))++[R.J [] .nil,.J [] .nil]++[R.v (.int .i64 0),.v (.int .i64 0)]++[R.J [] .nil]).length=37:=acr;have t:(x.take (a*37)).length=a*37:=by rw[a8l];omega
 by_cases c1:(c:Int)=o
 .have a00:=eq_true c1;obtain rfl:c=o:=acq;have a01:x.drop (c*37)=[]:=a8Z acq;rw[a01,a9p];refine dM (aP @l @m @a00 @n) ?_;by_cases aD:a+b<c
  .refine vF E q (j r G) acq acq acq ?_;obtain⟨k,y⟩:∃k,k=putAt z (a*37) F:=⟨_,rfl⟩;have f:α k=α z:=by rw[y,eF _ _ _ acq]
   rw[<-y];obtain⟨a02,cu,cp⟩:=vG (j6:=h) (i:=a+b) (e2:=.i64) acq X l4;obtain⟨g,k4,a03,l5⟩:=cp (r.set h (.cells k)) k (μ _ _ _) acq;have k5:((a+b:Nat))<(c:Int):=acq;refine dM (aP @k5 @cu @k4 @ς) ?_;refine⟨_,η,κ C.1 T,.inr ⟨h,a+b,p,_,rfl,T,μ _ _ _,acq,?_,by rw[Ρ,t];omega,acq,Y⟩⟩;grind[putAt,List.take_left',ω,List.length_take]
  .refine eZ (C.first acq) acq (j r G) S (by rw[t];omega) (by rw[t];omega) λa73 e l6=>?_;obtain⟨a04,a05,a74,a06⟩:=l6.src;rw[Ρ,t,S]at a05;obtain rfl:a04=a+b:=acq;have k5:¬((a+b:Nat))<(c:Int):=acq;refine dM (c2 @a06 @k5) ?_;exact⟨_,η,l6⟩
 have a81:c<o:=acq;obtain⟨a07,u,w,l7⟩:=pb (i:=37) (j6:=h) (e2:=.i64) acq X;have k6:(x.drop (c*37)).length=(o - c)*37:=by rw[a8z];omega
 obtain⟨d,a83⟩:∃a08,a08=a+b+(o - c):=⟨_,rfl⟩;have a84:(a)+(b)+((o - c:Nat))=(d:Int):=acq;have A:(a)+(b)=((a+b:Nat):Int):=acq;have B:((a+b:Nat))+((o - c:Nat))=(d:Int):=acq;by_cases c2:(p)<(d:Int)
 .have l8:(d) -(a)=((d - a:Nat):Int):=acq;refine dM (cj @l @m @c1 @n @u @w @A @B @c2 @l8) ?_;refine ye E q acq acq acq λD L a09 H I a10 a11=>?_;have a13:a+(d - a)=d:=acq;rw[a13]at I a11|-;have a14:D≠h:=by rintro rfl;rw[H]at E;cases E
  have a15:D≠V:=by rintro rfl;rw[H]at G;cases G
  obtain⟨P,a16⟩:∃P,P=z.take (a*37)++(δ (d - a) (δ 32 (R.v (.int .u8 0))++[R.J [] .nil,.J [] .nil]++[R.v (.int .i64 0),.v (.int .i64 0)]++[R.J [] .nil])).flatten++a09:=⟨_,rfl⟩;have a18:α P=L*37:=by grind[ω,ly,List.length_take]
  have K:P.take (a*37)=x.take (a*37):=by grind
  rw[<-a16];have M:ck 37 (.aq D d L 37) (β (.v (.int .i64 (a)))) ε ε=β (.bE D (a*37) (d - a) (L - a) 37):=gm acq I acq;have N:ck 37 (.aq D d L 37) (β (.v (.int .i64 ((a+b:Nat))))) ε ε=β (.bE D ((a+b)*37) (d -(a+b)) (L -(a+b)) 37):=gm acq I acq;have k7:(r.set D (.cells P)) V=β (.cells s):=by rw[ξ _ _ (Δ a15)];exact G
  have i:=ht (O:=a*37) (j6:=L - a) (i:=d - a) (j _ k7) (μ r D (.cells P)) acq;rw[Ο acq]at i;obtain⟨k,y⟩:∃k,k=putAt P (a*37) F:=⟨_,rfl⟩;have f:α k=α P:=by rw[y,eF _ _ _ acq]
  rw[<-y]at i;have a19:(r.set D (.cells k)) h=β (.cells z):=by rw[ξ _ _ (Δ a14)];exact E
  have l9:=ht (O:=(a+b)*37) (j6:=L -(a+b)) (i:=d -(a+b)) (l7 _ z x a19 acq Q) (μ r D (.cells k)) acq;rw[Ο acq]at l9;refine dM (pZ @l @m @c1 @n @u @w @A @B @c2 @l8 @M @N @i @l9 @ς) ?_;refine⟨_,η,κ C.1 (Ι C.1 H),.inr ⟨D,d,L,_,rfl,Ι C.1 H,μ _ _ _,?_,?_,?_,I,a10⟩⟩
  .rw[eF _ _ _ acq,f,a18]
  .have:=(qj K S k6 acq).2;rw[show d*37=a*37+b*37+(o - c)*37 by omega,y,show(a+b)*37=a*37+b*37 by omega];exact this
  grind
 have M:ck 37 (.aq h o p 37) ε (β (.v (.int .i64 (d)))) ε=β (.aq h d p 37):=hZ acq;have N:ck 37 (.aq h d p 37) (β (.v (.int .i64 (a)))) ε ε=β (.bE h (a*37) (d - a) (p - a) 37):=gm acq acq acq;have i:ck 37 (.aq h d p 37) (β (.v (.int .i64 ((a+b:Nat))))) ε ε=β (.bE h ((a+b)*37) (d -(a+b)) (p -(a+b)) 37):=gm acq acq acq;have K:z.take (a*37)=x.take (a*37):=by grind
 by_cases aD:((a+b:Nat))<=(c:Int)
 .have cu:=ht (O:=a*37) (j6:=p - a) (i:=d - a) (j r G) E acq;rw[Ο acq]at cu;obtain⟨k,y⟩:∃k,k=putAt z (a*37) F:=⟨_,rfl⟩;have f:α k=α z:=by rw[y,eF _ _ _ acq]
  have a86:(k.drop (c*37)).take ((o - c)*37)=x.drop (c*37):=by
   have a27:(z.take (a*37)++F).length=(a+b)*37:=by grind
   rw[y,putAt,show c*37=(a+b)*37+(c*37 -(a+b)*37) by omega,<-a8T,aaH a27,a8T,<-Q,a9F];congr 1
   .omega
   .congr 1;omega
  rw[<-y]at cu;have a88:ck 37 (.aq h o p 37) (β (.v (.int .i64 (c)))) ε ε=β (.bE h (c*37) (o - c) (p - c) 37):=gm acq acq acq;have a29:bT (r.set h (.cells k)) 37 (.bE h (c*37) (o - c) (p - c) 37)=β (o - c,x.drop (c*37)):=by simp only[bT,ι (μ r h (.cells k))];grind
  have cp:=ht (O:=(a+b)*37) (j6:=p -(a+b)) (i:=d -(a+b)) a29 (μ r h (.cells k)) acq;rw[Ο acq,ς]at cp;obtain⟨g,k8⟩:∃g,g=putAt k ((a+b)*37) (x.drop (c*37)):=⟨_,rfl⟩;have a89:α g=α z:=by rw[k8,eF _ _ _ acq,f]
  rw[<-k8]at cp;obtain⟨a02,a30,a34⟩:=vG (j6:=h) (i:=d) (e2:=.i64) acq X l4;obtain⟨W,k4,a03,l5⟩:=a34 (r.set h (.cells g)) g (μ _ _ _) acq;have a36:a07=.bE h (c*37) (o - c) (p - c) 37:=by grind
  subst a36;refine dM (DG @l @m @c1 @n @u @w @A @B @c2 @aD @M @N @i @cu @cp @a30 @k4 @ς) ?_;refine⟨_,η,κ C.1 T,.inr ⟨h,d,p,_,rfl,T,μ _ _ _,acq,?_,?_,acq,Y⟩⟩
  .rw[l5,k8,y,show d*37=a*37+b*37+(o - c)*37 by omega,show(a+b)*37=a*37+b*37 by omega];exact(qj K S k6 acq).2
  grind
 .have a38:z≠[]:=by rintro rfl;simp at q;omega
  have a42:s≠[]:=by rintro rfl;simp at n9;omega
  have a43:lx (.bE h ((a+b)*37) (d -(a+b)) (p -(a+b)) 37) (.aq V b l2 37) r=β (.v (.bool θ)):=yd rfl rfl l3 (rp E a38) (rp G a42);have cu:=ht (O:=(a+b)*37) (j6:=p -(a+b)) (i:=d -(a+b)) (l7 r z x E acq Q) E acq;rw[Ο acq]at cu;obtain⟨k,y⟩:∃k,k=putAt z ((a+b)*37) (x.drop (c*37)):=⟨_,rfl⟩;have f:α k=α z:=by rw[y,eF _ _ _ acq]
  rw[<-y]at cu;have k7:(r.set h (.cells k)) V=β (.cells s):=by rw[ξ _ _ (Δ l3)];exact G
  have cp:=ht (O:=a*37) (j6:=p - a) (i:=d - a) (j _ k7) (μ r h (.cells k)) acq;rw[Ο acq,ς]at cp;refine dM (oS @l @m @c1 @n @u @w @A @B @c2 @aD @M @N @i @a43 @cu @cp @ς) ?_;refine⟨_,η,κ C.1 T,.inr ⟨h,d,p,_,rfl,T,μ _ _ _,?_,?_,?_,acq,Y⟩⟩
  .rw[eF _ _ _ acq,f,q]
  .rw[y,show d*37=a*37+b*37+(o - c)*37 by omega,show(a+b)*37=a*37+b*37 by omega];exact(qj K S k6 acq).1
  grind
theorem a1k(L r:U)(k:Ψ)(P:R)(c a b:Nat)(S:Int)(n:S=(b:Int))(D:av L r 37 k P)(T:α k=c*37)(k7:a<b)(k8:b<=c)(k9:c<=100000):
  AC γ 252 [P,.v (.int .i64 (a:Int)),.v (.int .i64 S),.J [] .nil] r λq z=>av L z 37 (k.take (a*37)++k.drop (b*37)) q:=by
 subst n;obtain⟨d,s,h,p,rfl,C,x,V,t,l0,E,e⟩:=D.aq (λu=>by rw[u]at T;simp at T;omega);obtain rfl:c=s:=acq;have f:∀z:U,bT z 37 (.J [] .nil)=β (0,[]):=λz=>rfl;refine bg hm CQ acr ?_;obtain⟨l1,g⟩:=Fb (i:=37) (j6:=d) (a:=c) (O:=h) (e0:=a) (e:=b) (e2:=.i64) (b:=.i64) acq acq;have i:¬(a:Int)=b:=acq;have j:ck 37 (.aq d c h 37) ε (β (.v (.int .i64 (a)))) ε=β (.aq d a h 37):=hZ acq;have l:(δ 32 (R.v (.int .u8 0))++[R.J [] .nil,.J [] .nil]++[R.v (.int .i64 0),.v (.int .i64 0)]++[R.J [] .nil]).length=37:=acr;have v:(k.take (a*37)).length=a*37:=by rw[a8l];omega
 by_cases c1:(b:Int)=c
 .have w:=eq_true c1;obtain rfl:b=c:=acq;have A:k.drop (b*37)=[]:=a8Z acq;rw[A,a9p];refine dM (aP @g @i @w @j) ?_;refine vF x V (f r) acq acq acq ?_;have F:putAt p (a*37) []=p:=by simp[putAt]
  rw[F,U.tG x];obtain⟨B,cu,cp⟩:=vG (j6:=d) (i:=a) (e2:=.i64) acq E l;obtain⟨y,G,H,I⟩:=cp r p x V;have K:(a)<(b:Int):=acq;refine dM (aP @aab @K @cu @G) ?_;refine⟨_,η,κ D.1 C,.inr ⟨d,a,h,_,rfl,C,μ _ _ _,acq,?_,v,acq,e⟩⟩;grind
 have l2:b<c:=acq;obtain⟨M,N,O,Q⟩:=pb (i:=37) (j6:=d) (e2:=.i64) acq E;have l3:(k.drop (b*37)).length=(c - b)*37:=by rw[a8z];omega
 obtain⟨o,l4⟩:∃X,X=a+(c - b):=⟨_,rfl⟩;have Y:(a)+((c - b:Nat))=(o:Int):=acq;have c2:¬(h)<(o:Int):=acq;have Z:ck 37 (.aq d c h 37) ε (β (.v (.int .i64 (o)))) ε=β (.aq d o h 37):=hZ acq;have k3:ck 37 (.aq d o h 37) (β (.v (.int .i64 (a)))) ε ε=β (.bE d (a*37) (o - a) (h - a) 37):=gm acq acq acq;have l5:p.take (a*37)=k.take (a*37):=by grind
 have aD:(a)<=(b:Int):=acq;have F:putAt p (a*37) ([])=p:=by simp[putAt]
 have cu:=ht (O:=a*37) (j6:=h - a) (i:=o - a) (f r) x acq;rw[List.take_nil,F,U.tG x]at cu;have l6:ck 37 (.aq d c h 37) (β (.v (.int .i64 (b)))) ε ε=β (.bE d (b*37) (c - b) (h - b) 37):=gm acq acq acq;have k4:M=.bE d (b*37) (c - b) (h - b) 37:=by simp_all
 subst k4;have cp:=ht (O:=a*37) (j6:=h - a) (i:=o - a) (Q r p k x acq t) x acq;rw[Ο acq]at cp;obtain⟨y,m⟩:∃y,y=putAt p (a*37) (k.drop (b*37)):=⟨_,rfl⟩;have l7:α y=α p:=by rw[m,eF _ _ _ acq]
 rw[<-m]at cp;obtain⟨B,k5,k6⟩:=vG (j6:=d) (i:=o) (e2:=.i64) acq E l;obtain⟨W,G,H,I⟩:=k6 (r.set d (.cells y)) y (μ _ _ _) acq;have l8:(([]:Ψ).length:Int)=0:=rfl;refine dM (oS @g @i @c1 @j @N @O @Int.add_zero @Y @c2 @aD @Z @k3 @cu @cp @k5 @G @ς) ?_;refine⟨_,η,κ D.1 C,.inr ⟨d,o,h,_,rfl,C,μ _ _ _,acq,?_,?_,acq,e⟩⟩;grind[putAt,List.take_left',ω];grind
end Go.Proofs.YtkafjfkjahgihaaGreat
