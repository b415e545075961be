import Derived.Test.YtcfpcblgmmeioaaGreatMD
set_option linter.all false
open Option renaming some->β,none->ζ
open Go.Proofs.Tryz renaming prog->γ
open List renaming replicate->ε,range->ω,length_append->Β,take_of_length_le->Ε,drop_eq_getElem_cons->Ν,length->α
open Bool renaming true->η,false->ι
open Go.bD.U renaming a6->θ,ae->κ,ag->μ,ai->ξ,an->ο,au->π,set_set->τ,aI->χ,bK->Ο
open UInt8 renaming ofNat->ν
open BitVec renaming ofInt->ρ
open Go.bD.R renaming cells->σ
open Go.Proofs.YtcfpcblgmmeioaaGreat.isRow renaming cells->φ
open Go.Proofs.YtcfpcblgmmeioaaGreat.Ext renaming of->Α
open Prod renaming fst->Γ
open Go.Proofs.YtcfpcblgmmeioaaGreat.bB renaming cells->Ξ
open Go.bD.bj renaming nil->Τ
set_option maxRecDepth 100000
namespace Go.Proofs.YtcfpcblgmmeioaaGreat
open Go Go.bD
theorem ZX(a b:ao):(decide (a=b))=(decide (a.sum=b.sum)&&decide (a.live=b.live)&&decide (a.size=b.size)&&(decide (a.aT=b.aT)&&decide (a.aS=b.aS))&&decide (a.key=b.key)):=by obtain⟨c,d,h,k,o,p⟩:=a;obtain⟨r,x,y,z,C,D⟩:=b;grind
variable{w j4:ϊ}
def vb:peq (.agg (w.map aj)) (.agg (j4.map aj))=decide (w=j4):=by rw[<-Bool.coe_iff_coe,qy,decide_eq_true_eq];exact⟨λa=>uQ a,λa=>by rw[a]⟩
theorem Ea(a b:ao)(h k o p r x:Own)(e:U)(g:α a.sum=32)(i:α b.sum=32)(c:a.live=b.live->a.cC):
  AC γ 181 [.agg (ab a h k o),.agg (ab b p r x)] e λu v=>v=e/\u=.v (.bool (decide (a=b))):=by
 have j:=aP (N:=h) (e6:=k) (h6:=o) g;have l:=aP (N:=p) (e6:=r) (h6:=x) i;rw[ZX];generalize ab a h k o=w at j;generalize ab b p r x=A at l;obtain⟨y,O,a3,a4,_,dy,z,Q⟩:=j;obtain⟨C,X,D,E,_,F,G,Y⟩:=l;refine bd hm Qx ς ?_;have d:∀m,(R.agg m).cells=m:=λ_=>rfl;refine aa ?_;refine aN λB H=>?_;refine aa ?_;refine aN λn L=>?_;have f:B≠n:=by rintro rfl;rw[ξ]at L;cases L
 have I:=Ι f;have K:e n=none:=by rw[ο _ _ I]at L;exact L
 have Z:=μ (Y:=.cells A) (μ (Y:=.cells w) (θ) H) K;have P:dp [(32,.int .u8)] (a.sum.map aj):=oE g;have S:dp [(32,.int .u8)] (b.sum.map aj):=oE i;have T:∀q s M f N:R,List.take 2 [q,s,M,f,N]=[q,s]:=λ_ _ _ _ _=>rfl;by_cases V:a.sum=b.sum
 .by_cases W:a.live=b.live
  .by_cases t:a.size=b.size
   .have c:=c W;simp -dsimp -implicitDefEqProofs (disch:=first|omega|assumption|(simp only[aW,Nat.reduceAdd];try omega)) only[go_sem,simprocAttr,-List.reduceReplicate,d,a3,D,P,S,vb,V,W,t,y,C,dy,F,z,G,a4,E,T,a9Z];refine ah (ZR _ a.aT a.aS b.aT b.aS h k p r c.aT c.aS) ?_;rintro _ _⟨rfl,rfl⟩;cases j9:(decide (a.aT=b.aT)&&decide (a.aS=b.aS))with
    |true=>refine aa ?_;refine ah (kH a.key b.key o x _ c.key) ?_;rintro _ _⟨rfl,rfl⟩;refine bU ?_;simp_all
    |false=>refine ak @d ?_;simp_all
   .simp -dsimp -implicitDefEqProofs (disch:=first|omega|assumption|(simp only[aW,Nat.reduceAdd];try omega)) only[go_sem,simprocAttr,-List.reduceReplicate,d,a3,D,P,S,vb,V,W,t,y,C,dy,F,z,G,a4,E,T,a9Z];simp_all
  .simp -dsimp -implicitDefEqProofs (disch:=first|omega|assumption|(simp only[aW,Nat.reduceAdd];try omega)) only[go_sem,simprocAttr,-List.reduceReplicate,d,a3,D,P,S,vb,V,W,y,C,dy,F,z,G,a4,E,T,a9Z];simp_all
 .simp -dsimp -implicitDefEqProofs (disch:=first|omega|assumption|(simp only[aW,Nat.reduceAdd];try omega)) only[go_sem,simprocAttr,-List.reduceReplicate,d,a3,D,P,S,vb,V,y,C,dy,F,z,G,a4,E,T,a9Z];simp_all
def mB(a:ao)(c d h:Own)(k:U)(o:α a.sum=32)(x:a.live=0->a.cC):
  AC γ 123 [.agg (ab a c d h)] k λy z=>z=k/\y=.v (.bool (decide (a=az))):=by
 have b:=aP (N:=c) (e6:=d) (h6:=h) o;refine bd hm OS ς ?_;have p:∀r,(R.agg r).cells=r:=λ_=>rfl;have E:=b.len;have C:(ε 32 (R.v (.int .u8 0))++[R.J [] .nil,.J [] .nil]++[R.v (.int .i64 0),.v (.int .i64 0)]++[R.J [] .nil])=ab az .nil .nil .nil:=by rw[show ε 32 (R.v (.int .u8 0))=(ε 32 (0)).map aj by rw[List.map_replicate];rfl];simp only[a7B];rfl
 refine ak (c2 @p b.len) ?_;refine aN λF D=>?_;refine ak (aL @p b.len b.t37 @C) ?_;refine ah (Ea a az c d h .nil .nil .nil _ o rfl x) ?_;rintro _ _⟨rfl,rfl⟩;refine bU ?_;exact⟨k,μ θ D,rfl⟩
theorem ye(a:ao)(p r y:Own)(c:Nat)(z:U)(g:c<=1000000000000)(E:α a.sum=32)(i:a.cC):
  AC γ 183 [.agg (ab a p r y),.v (.int .i64 (c:Int))] z λj l=>l=z/\j=.v (.bool (fq c a)):=by
 have F:=aP (N:=p) (e6:=r) (h6:=y) E;have G:=λz=>mB a p r y z E λ_=>i;generalize ab a p r y=m at F G;obtain⟨d,t,a3,a4,a5,dy,h,u⟩:=F;refine bd hm QB ς ?_;have k:∀L,(R.agg L).cells=L:=λ_=>rfl;have P:=bN (q:=a.aT);have S:=bN (q:=a.aS);refine aa ?_;refine aN λv n=>?_;have w:=μ (Y:=.cells m) (θ) n;refine aa ?_;refine ah (G _) ?_;rintro _ _⟨rfl,rfl⟩;have A:∀T V q c s:R,List.take 2 [T,V,q,c,s]=[T,V]:=λ_ _ _ _ _=>rfl;unfold fq;by_cases b:a=az
 .refine ak @b ?_;simp_all
 by_cases o:a.size<1
 .simp -dsimp -implicitDefEqProofs (disch:=first|omega|assumption|(simp only[aW,Nat.reduceAdd];try omega)) only[go_sem,simprocAttr,-List.reduceReplicate,b,o,k,d,dy,h];simp_all
 by_cases x:(1048576)<a.size
 .simp -dsimp -implicitDefEqProofs (disch:=first|omega|assumption|(simp only[aW,Nat.reduceAdd];try omega)) only[go_sem,simprocAttr,-List.reduceReplicate,b,o,x,k,d,dy,h];simp_all
 by_cases C:a.live<0
 .simp -dsimp -implicitDefEqProofs (disch:=first|omega|assumption|(simp only[aW,Nat.reduceAdd];try omega)) only[go_sem,simprocAttr,-List.reduceReplicate,b,o,x,C,k,d,dy,h];simp_all
 by_cases D:a.size<a.live
 .simp -dsimp -implicitDefEqProofs (disch:=first|omega|assumption|(simp only[aW,Nat.reduceAdd];try omega)) only[go_sem,simprocAttr,-List.reduceReplicate,b,o,x,C,D,k,d,dy,h];simp_all
 by_cases W:a.live=0
 .have e:¬a.size<0:=δ;by_cases f:(α a.aT:Int)=0
  .simp -dsimp -implicitDefEqProofs (disch:=first|omega|assumption|(simp only[aW,Nat.reduceAdd];try omega)) only[go_sem,simprocAttr,-List.reduceReplicate,b,o,x,C,D,W,f,e,k,d,a4,a5,dy,h,P,S];simp_all
  .simp -dsimp -implicitDefEqProofs (disch:=first|omega|assumption|(simp only[aW,Nat.reduceAdd];try omega)) only[go_sem,simprocAttr,-List.reduceReplicate,b,o,x,C,D,W,f,e,k,d,a4,a5,dy,h,P,S];simp_all
 .refine aa ?_;refine ah (oH _ a.aT a.aS p r c g) ?_;rintro _ _⟨rfl,rfl⟩;refine bU ?_;simp_all
theorem ZY(b:Nat)(a:Ω×Bool)(h:R)(r:cY a h)(c:U)(d:Nat)(k:c.read d=β [.v (.int .i64 (b:Int))]):
  AC γ 254 [h,.ptr d 0] c λx y=>y=c/\x=.v (.bool (decide (α a.1=b))):=by
 obtain⟨F,rfl⟩:=r;refine bd hm Sy ς ?_;have z:∀o,(R.agg o).cells=o:=λ_=>rfl;have C:=bN (q:=a.1);refine aa ?_;refine aN λD p=>?_;have G:d≠D:=by rintro rfl;simp[U.read,p]at k
 refine ak (aE @z @C @k) ?_;have E:decide ((α a.1:Int)=b)=decide (α a.1=b):=by grind
 exact⟨c,μ θ p,rfl,by rw[E]⟩
def ZZ(a:Nat)(E:a<=1000000000000)(c:ao)(h:R)(F:bB c h)(b:U)(d:Nat)(k:b.read d=β [.v (.int .i64 (a:Int))]):
  AC γ 256 [h,.ptr d 0] b λG L=>L=b/\G=.v (.bool (fq a c)):=by
 obtain⟨o,P,p,r,x,rfl⟩:=F;refine bd hm SC ς ?_;have y:∀z,(R.agg z).cells=z:=λ_=>rfl;have C:=aP (N:=p) (e6:=r) (h6:=x) o;have T:=C.len;refine ak @y ?_;refine aN λS D=>?_;have V:d≠S:=by rintro rfl;simp[U.read,D]at k
 refine ak (aE @y @k C.t37) ?_;refine ah (ye c p r x a _ E o P) ?_;rintro _ _⟨rfl,rfl⟩;refine bU ?_;exact⟨b,μ θ D,rfl⟩
def a0a(a:ao)(c:R)(k:bB a c)(b:U):
  AC γ 257 [c] b λo p=>p=b/\o=.v (.bool (decide (α a.key=0))):=by
 obtain⟨r,G,x,y,z,rfl⟩:=k;refine bd hm SE ς ?_;have C:∀d,(R.agg d).cells=d:=λ_=>rfl;have h:=aP (N:=x) (e6:=y) (h6:=z) r;have L:=h.len;have D:=bN (q:=a.key);refine aa ?_;refine aN λP E=>?_;refine ak (aE @C h.d36 @D) ?_;have F:decide ((α a.key:Int)=0)=decide (α a.key=0):=by simp
 exact⟨b,μ θ E,rfl,by rw[F]⟩
def a0b(b:Ω×Bool)(c:R)(h:cY b c)(a:U):
  AC γ 258 [c] a λk o=>o=a/\k=.v (.bool b.2):=by
 obtain⟨x,rfl⟩:=h;refine bd hm SG ς ?_;have p:∀d,(R.agg d).cells=d:=λ_=>rfl;refine aa ?_;refine aN λy r=>?_;refine ak @p ?_;exact⟨a,μ θ r,rfl⟩
def a0c(b:Nat)(a:ao)(r:R)(L:bB a r)(c:U)(h:Nat)(k:c.read h=β [.v (.int .i64 (b:Int))]):
  AC γ 259 [r,.ptr h 0] c λP S=>S=c/\P=.v (.bool (decide (α a.key=b)&& !decide (a=az))):=by
 obtain⟨x,T,y,z,C,rfl⟩:=L;refine bd hm SI ς ?_;have D:∀E,(R.agg E).cells=E:=λ_=>rfl;have d:=aP (N:=y) (e6:=z) (h6:=C) x;have W:=d.len;have F:=bN (q:=a.key);refine aa ?_;refine aN λV o=>?_;have e:h≠V:=by rintro rfl;simp[U.read,o]at k
 by_cases G:(α a.key:Int)=b
 .have p:α a.key=b:=δ;simp -dsimp -implicitDefEqProofs (disch:=first|omega|assumption|(simp only[aW,Nat.reduceAdd];try omega)) only[go_sem,simprocAttr,-List.reduceReplicate,D,k,d.t37,d.d36,F,G];refine ah (mB a y z C _ x λ_=>T) ?_;rintro _ _⟨rfl,rfl⟩;refine bU ?_;exact⟨c,μ θ o,rfl,by simp[p]⟩
 .have p:¬α a.key=b:=δ;simp -dsimp -implicitDefEqProofs (disch:=first|omega|assumption|(simp only[aW,Nat.reduceAdd];try omega)) only[go_sem,simprocAttr,-List.reduceReplicate,D,k,d.t37,d.d36,F,G];exact⟨c,μ θ o,rfl,by simp[p]⟩
structure fR(a:U)(n:bY)(x y:R)(b c:ύ):Prop where
 rows:aB cY n.rows b
 kids:aB bB n.kids c
 mi:bO a 2 x b
 gQ:bO a 37 y c
 kI:α n.rows<=100000
 ij:α n.kids<=100000
def fR.mono{b c:U}{d:bY}{h k:R}{o p:ύ}(a:fR b d h k o p)(r:b.sub c):fR c d h k o p:=⟨a.rows,a.kids,a.mi.mono r,a.gQ.mono r,a.kI,a.ij⟩
variable{n b5:R}{f s e0:U}{g H c0:ύ}{b3:bY}
def fR.hh(a:fR f b3 n b5 g H):fi n=β (.v (.int .i64 (α b3.rows))):=by rw[a.mi.len,a.rows.len]
def fR.sT(a:fR f b3 b5 n g H):fi n=β (.v (.int .i64 (α b3.kids))):=by rw[a.gQ.len,a.kids.len]
abbrev gU(a:bY)(b c:R):R:=.agg [.v (.int .u8 (a.kind.toNat:Int)),b,c]
theorem iS(b:UInt8)(a:Nat)(c:a<256):(decide ((b.toNat:Int)=(a:Int)))=decide (b=ν a):=by grind[ν,UInt8.toNat_inj,UInt8.toNat_ofNat']
theorem Eb(a:bY)(m g:ύ)(c G:R)(b:Nat)(k1:1<=b)(k2:b<=8)(V:U)(p:fR V a c G m g):
  AC γ 205 [gU a c G,.v (.int .i64 (b:Int))] V λC d=>d=V/\C=.v (.bool (dV b a)):=by
 have D:=p.hh;have E:=p.sT;have k3:=p.kI;have k4:=p.ij;refine bd hm R9 ς ?_;have k5:∀q,(R.agg q).cells=q:=λ_=>rfl;refine aa ?_;refine aN λi O=>?_;refine aa ?_;refine aN λh j=>?_;have k:i≠h:=by rintro rfl;rw[ξ]at j;cases j
 have o:=Ι k;have Q:V h=none:=by rw[ο _ _ o]at j;exact j
 have W:=μ (Y:=.cells [.v (.int .i64 (b))]) (μ (Y:=.cells [.v (.int .u8 (a.kind.toNat)),c,G]) (θ) O) Q;have c2:((V.set i (.cells [.v (.int .u8 (a.kind.toNat)),c,G])).set h (.cells [.v (.int .i64 (b))])) i=β (.cells [.v (.int .u8 (a.kind.toNat)),c,G]):=by rw[ο _ _ k,ξ]
 have aE:((V.set i (.cells [.v (.int .u8 (a.kind.toNat)),c,G])).set h (.cells [.v (.int .i64 (b))])) h=β (.cells [.v (.int .i64 (b))]):=ξ _ _ _;have r:¬(b:Int)<1:=δ;have x:¬(8)<(b:Int):=δ;refine aa ?_;have X:∀y:U,y h=β (.cells [.v (.int .i64 (b:Int))])->(hg cY y 254 [] [.ptr h 0] λC=>decide (α C.1=b))/\hg bB y 256 [] [.ptr h 0] (fq b)/\(hg bB y 257 [] [] λL=>decide (α L.key=0))/\(hg cY y 258 [] [] λC=>C.2)/\(hg bB y 259 [] [.ptr h 0] λL=>decide (α L.key=b)&& !decide (L=az)):=by intro y aE;have n:∀d,y.sub d->d.read h=β [.v (.int .i64 (b))]:=λd P=>κ (P _ _ aE);have s:hg cY y 254 [] [.ptr h 0] λC=>decide (α C.1=b):=⟨Χ,λc S d T P=>ZY b c S T d h (n d P)⟩;have t:hg bB y 256 [] [.ptr h 0] (fq b):=⟨Χ,λc S d T P=>ZZ b δ c S T d h (n d P)⟩;have u:hg bB y 257 [] [] λL=>decide (α L.key=0):=⟨Χ,λc S d T P=>a0a c S T d⟩;have v:hg cY y 258 [] [] λC=>C.2:=⟨Χ,λc S d T P=>a0b c S T d⟩;have w:hg bB y 259 [] [.ptr h 0] λL=>decide (α L.key=b)&& !decide (L=az):=⟨Χ,λc S d T P=>a0c b c S T d h (n d P)⟩;simp_all
 obtain⟨s,t,u,v,w⟩:=X _ aE;refine aa ?_;refine ah (E9 a.rows m c _ p.rows (p.mi.mono W) δ s) ?_;rintro _ _⟨rfl,rfl⟩;unfold dV;cases k6:a.rows.all (λC=>decide (α C.1=b))with
 |false=>refine ak (bw @r @x (κ c2) (κ aE) @ο @k @o @a8i) ?_;simp_all
 |true=>
 refine aa ?_;refine ah (yd a.kids g G _ p.kids (p.gQ.mono W) δ t) ?_;rintro _ _⟨rfl,rfl⟩;cases k7:a.kids.all (fq b)with
 |false=>refine ak (bw @r @x (κ c2) (κ aE) @ο @k @o @a8i) ?_;simp_all
 |true=>
 have Y:=iS a.kind 1 δ;have Z:=iS a.kind 2 δ;have j9:=iS a.kind 3 δ;simp only[aag]at Y Z j9;by_cases A:a.kind=1
 .have B:((a.kind.toNat:Int)=1)=True:=by rw[A];simp
  refine aa ?_;by_cases z:(α a.rows:Int)=1
  .by_cases F:(α a.kids:Int)=2
   .refine ak (gq @r @x (κ c2) (κ aE) @ο @k @o @a8c @z @F @D @E) ?_;refine ah (yd a.kids g G _ p.kids (p.gQ.mono W) δ u) ?_;rintro _ _⟨rfl,rfl⟩;refine bU ?_;have e:α a.rows=1:=δ;have l:α a.kids=2:=δ;simp_all
   .have l:¬α a.kids=2:=δ;refine ak (gq @r @x (κ c2) (κ aE) @ο @k @o @a8c @z @F @D @E) ?_;simp_all
  .have e:¬α a.rows=1:=δ;refine ak (fF @r @x (κ c2) (κ aE) @ο @k @o @a8c @z @D @E) ?_;simp_all
 have B:¬(a.kind.toNat:Int)=1:=λH=>A (by simp_all);by_cases I:a.kind=2
 .have K:((a.kind.toNat:Int)=2)=True:=by rw[I];simp
  refine aa ?_;by_cases z:(1:Int)<=α a.rows
  .by_cases F:(α a.rows:Int)<=4
   .by_cases f:(α a.kids:Int)=0
    .refine ak (lB @r @x (κ c2) (κ aE) @ο @k @o @a8c @D @E @z @F @f) ?_;refine ah (E9 a.rows m c _ p.rows (p.mi.mono W) δ v) ?_;rintro _ _⟨rfl,rfl⟩;refine bU ?_;have e:1<=α a.rows:=δ;have l:α a.rows<=4:=δ;simp_all
    .have k0:¬α a.kids=0:=δ;refine ak (lB @r @x (κ c2) (κ aE) @ο @k @o @a8c @D @E @z @F @f) ?_;simp_all
   .have l:¬α a.rows<=4:=δ;refine ak (gq @r @x (κ c2) (κ aE) @ο @k @o @a8c @D @E @z @F) ?_;grind
  .have e:¬1<=α a.rows:=δ;refine ak (fF @r @x (κ c2) (κ aE) @ο @k @o @a8c @D @E @z) ?_;simp_all
 have K:¬(a.kind.toNat:Int)=2:=λH=>I (by simp_all);by_cases M:a.kind=3
 .have N:((a.kind.toNat:Int)=3)=True:=by rw[M];simp
  refine aa ?_;by_cases z:(α a.rows:Int)=0
  .by_cases F:(2:Int)<=α a.kids
   .by_cases f:(α a.kids:Int)<=4
    .refine ak (lB @r @x (κ c2) (κ aE) @ο @k @o @a8c @D @E @z @F @f) ?_;refine ah (yd a.kids g G _ p.kids (p.gQ.mono W) δ w) ?_;rintro _ _⟨rfl,rfl⟩;refine bU ?_;have e:α a.rows=0:=δ;grind
    .have k0:¬α a.kids<=4:=δ;refine ak (lB @r @x (κ c2) (κ aE) @ο @k @o @a8c @D @E @z @F @f) ?_;grind
   .have l:¬2<=α a.kids:=δ;refine ak (gq @r @x (κ c2) (κ aE) @ο @k @o @a8c @D @E @z @F) ?_;grind
  .have e:¬α a.rows=0:=δ;refine ak (fF @r @x (κ c2) (κ aE) @ο @k @o @a8c @D @E @z) ?_;simp_all
 have N:¬(a.kind.toNat:Int)=3:=λH=>M (by simp_all);refine ak (fF @r @x (κ c2) (κ aE) @ο @k @o @a8c @B @K @N) ?_;simp_all
def rf{b k:Type}{c:b->List k}{d:Nat}:∀ {l:List b},(∀a∈l,(c a).length<=d)->(l.flatMap c).length<=α l*d
 |[],_=>by simp
 |a::l,h=>by
  have r:=h a ς;have x:=rf (l:=l) λo p=>h o (by simp[p]);rw[a7P,Ψ,a7s,a8w];omega
structure ao.hL(k:ao):Prop where
 aT:α k.aT<=8
 aS:α k.aS<=8
 key:α k.key<=8
 my:0<=k.live
 live:k.live<=1048576
 mz:0<=k.size
 size:k.size<=1048576
variable{q b7:Ω}{e i v M b9 j1:Nat}
theorem lD(a:cQ q b7 e=η):α q=e/\α b7=e/\1<=e/\e<=8:=by simp_all [cQ]
variable{A j2:ao}
theorem rh(a:fq e A=η):α A.aT<=8/\α A.aS<=8/\0<=A.live/\A.live<=1048576/\0<=A.size/\A.size<=1048576:=by
 unfold fq at a;rw[a8Z]at a;rcases a with a|a
 .have:=of_decide_eq_true a;subst this;simp[az]
 .simp only[Υ,a8R,abn,decide_eq_false_iff_not]at a;obtain⟨c,b⟩:=a;have:α A.aT<=8/\α A.aS<=8:=by
   split at b;simp_all
   .have:=lD b;omega
  omega
theorem vc(o:e<=8)(a:dV e b3=η):∀b∈b3.kids,b.hL:=by intro b c;unfold dV at a;simp only[Υ,a7E]at a;obtain⟨⟨_,d⟩,p⟩:=a;obtain⟨h,k,a3,a4,a5,dy⟩:=rh (d b c);refine⟨h,k,?_,a3,a4,a5,dy⟩;grind
def yf{a:Ω×Bool}(b:α a.1<=8):(gx a).length<=100:=by simp[gx,y2];omega
def sU(b:α A.sum=32)(a:A.hL):(ea A).length<=300:=by have c:=a.aT;have d:=a.aS;have h:=a.key;simp[ea,y2,kF,b];omega
theorem yg(a:bY)(k9 l0:ύ)(z C:R)(D:Nat)(a04:1<=D)(l1:D<=8)(s:U)(E:fR s a z C k9 l0):
  AC γ 156 [gU a z C,.v (.int .i64 (D:Int))] s λh o=>s.sub o/\match sO D a with
   |none=>h=.aJ [.J [] .nil,.v (.int .i64 1)]
   |some F=>∃a05,h=.aJ [.J (F.map aj) a05,.v (.int .i64 0)]:=by
 have l2:=E.hh;have l3:=E.sT;have a88:=E.kI;have a89:=E.ij;refine bd hm PI ς ?_;have K:∀k0,(R.agg k0).cells=k0:=λ_=>rfl;have a90:∀y F S,aM η 3 [y,F,S]=.agg [y,F,S]:=λ_ _ _=>rfl;have a06:∀y F S:R,List.take 3 [y,F,S]=[y,F,S]:=λ_ _ _=>rfl;refine ak @K ?_;refine aN λj a07=>?_;have t:=μ (Y:=.cells [.v (.int .u8 (a.kind.toNat)),z,C]) (θ) a07;have c2:(s.set j (.cells [.v (.int .u8 (a.kind.toNat)),z,C])) j=β (.cells [.v (.int .u8 (a.kind.toNat)),z,C]):=ξ _ _ _;simp -dsimp -implicitDefEqProofs (disch:=first|omega|assumption|(simp only[aW,Nat.reduceAdd];try omega)) only[go_sem,simprocAttr,-List.reduceReplicate,K,a06];refine ah (Eb a k9 l0 z C D a04 l1 _ (E.mono t)) ?_;rintro _ _⟨rfl,rfl⟩;unfold sO;cases l4:dV D a with
 |false=>refine ak @a8i ?_;exact⟨_,θ,t⟩
 |true=>
 obtain⟨a08,a92,a94⟩:=kG l4;have l5:=vc l1 l4;refine ak @a8c ?_;refine aN λc a09=>?_;have l6:j≠c:=by grind
 obtain⟨p,k1⟩:∃p:U,p=s.set j (.cells [.v (.int .u8 (a.kind.toNat)),z,C]):=⟨_,rfl⟩;rw[<-k1]at t c2;have l7:p c=none:=by rw[k1];exact a09
 have a10:cw p c [] (p.set c (.cells [.J [] .nil,.v (.int .i64 0)])):=⟨.nil,Τ θ⟩;have l8:=E.mono t;have a11:=l8.mi;have a13:=l8.gQ;have M:∀aV o,cw p c aV o->o j=β (.cells [.v (.int .u8 (a.kind.toNat)),z,C]):=λaV o u=>u.get l6 c2;have l9:∀aV o,cw p c aV o->p.sub o:=λaV o u=>u.sub l7;have a14:cH a=([a.kind]++[ν (α a.rows)]++a.rows.flatMap gx++[ν (α a.kids)])++a.kids.flatMap ea:=by simp[cH]
 have n0:∀b,((a.rows.take b).flatMap gx).length<=400:=λb=>by
  have:=rf (l:=a.rows.take b) λh a95=>yf (a:=h) (by grind);grind
 rw[<-k1];simp -dsimp -implicitDefEqProofs (disch:=first|omega|assumption|(simp only[aW,Nat.reduceAdd];try omega)) only[go_sem,simprocAttr,-List.reduceReplicate,κ c2,l6];refine ah (ny p _ c [] a.kind a10 ς) ?_;intro _ a15 n1;simp -dsimp -implicitDefEqProofs (disch:=first|omega|assumption|(simp only[aW,Nat.reduceAdd];try omega)) only[go_sem,simprocAttr,-List.reduceReplicate,κ (M _ _ n1),l2,iK];refine ah (ny p a15 c _ (ν (α a.rows)) n1 ς) ?_;intro _ a96 a16;simp -dsimp -implicitDefEqProofs (disch:=first|omega|assumption|(simp only[aW,Nat.reduceAdd];try omega)) only[go_sem,simprocAttr,-List.reduceReplicate,κ (M _ _ a16),l2];refine cm (λr o=>∃b:Nat,b<=α a.rows/\cw p c ([a.kind]++[ν (α a.rows)]++(a.rows.take b).flatMap gx) o/\r 2=.ptr j 0/\r 6=.ptr c 0/\r 28=z/\r 29=.v (.int .i64 (α a.rows))/\r 30=.v (.int .i64 b))
  (λr _=>match r 30 with|.v (.int _ k2)=>α a.rows - k2.toNat|_=>0) ⟨0,δ,by trivial,?_⟩ ?_
 .exact kD
 rintro r v⟨b,a18,x,T,k,l,m,n⟩;by_cases w:(b:Int)<α a.rows
 .have W:a.rows[b]?=β a.rows[b]:=Ρ δ;have N:a.rows.take (b+1)=a.rows.take b++[a.rows[b]]:=by rw[a8r,W];rfl
  have a19:=a08 _ (a7O (n:=b) δ);generalize a.rows[b]'δ=h at W N a19;obtain⟨y,k3,q,rfl⟩:=E.rows.get W;obtain⟨a27,k4,O⟩:=a11.get b _ k3;have A:=O.ld v (l9 _ _ x) η 2 δ (by simp[σ]);have n2:=n0 b;have a29:aM η 2 (R.agg [.J (ad h.1) q,.v (.bool h.2)]).cells=.agg [.J (ad h.1) q,.v (.bool h.2)]:=rfl;rw[a29]at A;refine ak (bw @T @k @l @m @n @w @k4 @A) ?_;refine aN λn3 a30=>?_;have a34:∀y F S D:R,putAt [y,F] 0 [S,D]=[S,D]:=λ_ _ _ _=>rfl;obtain⟨a36,a38,Q⟩:=x.new (ob:=.cells [.J (ad h.1) q,.v (.bool h.2)]) a30;have a42:(p.set n3 (.cells [.J (ad h.1) q,.v (.bool h.2)])) n3=β (.cells [.J (ad h.1) q,.v (.bool h.2)]):=ξ _ _ _;refine ak (bw @T @k @l @m @n @K @a34 @τ) ?_;refine ah (ZD _ _ c _ h.2 Q (by grind)) ?_;intro _ a43 B;refine ak (bz @T @k @l @m @n (κ (B.get a36 a42))) ?_;refine ah (sM _ _ c _ h.1 q δ B (by grind)) ?_;intro _ a47 X;refine ak (bh @T @k @l @m @n) ?_;refine⟨⟨b+1,δ,?_,ς⟩,δ⟩;have H:=X.base (μ (θ) a38);rw[N,a8f];simpa[gx] using H
 .obtain rfl:b=α a.rows:=δ;rw[a7K]at x;have n2:=n0 (α a.rows);rw[a7K]at n2;simp -dsimp -implicitDefEqProofs (disch:=first|omega|assumption|(simp only[aW,Nat.reduceAdd];try omega)) only[go_sem,simprocAttr,-List.reduceReplicate,T,k,l,m,n,w,κ (M _ _ x),l3,iK];refine ah (ny p v c _ (ν (α a.kids)) x (by grind)) ?_;intro _ a97 n4;have a98:([a.kind]++[ν (α a.rows)]++a.rows.flatMap gx++[ν (α a.kids)]).length<=500:=by grind
  generalize [a.kind]++[ν (α a.rows)]++a.rows.flatMap gx++[ν (α a.kids)]=k5 at*;have n5:∀b,((a.kids.take b).flatMap ea).length<=1200:=λb=>by
   have:=rf (l:=a.kids.take b) λd a48=>by
    have hm:=a7A a48;obtain⟨a99,a52,rfl⟩:=a8a hm;obtain⟨y,_,Y,_⟩:=E.kids.get (Ρ a52);exact sU Y (l5 _ hm)
   grind
  simp -dsimp -implicitDefEqProofs (disch:=first|omega|assumption|(simp only[aW,Nat.reduceAdd];try omega)) only[go_sem,simprocAttr,-List.reduceReplicate,T,k,κ (M _ _ n4),l3];refine cm (λr o=>∃b:Nat,b<=α a.kids/\cw p c (k5++(a.kids.take b).flatMap ea) o/\r 6=.ptr c 0/\r 50=C/\r 51=.v (.int .i64 (α a.kids))/\r 52=.v (.int .i64 b))
   (λr _=>match r 52 with|.v (.int _ k2)=>α a.kids - k2.toNat|_=>0) ⟨0,δ,by simpa using n4,?_⟩ ?_
  .simp -dsimp -implicitDefEqProofs (disch:=first|omega|assumption|(simp only[aW,Nat.reduceAdd];try omega)) only[go_sem,simprocAttr,-List.reduceReplicate,T,k]
  clear T k l m n;rintro r v⟨b,a18,x,k,G,L,P⟩;by_cases w:(b:Int)<α a.kids
  .have W:a.kids[b]?=β a.kids[b]:=Ρ δ;have N:a.kids.take (b+1)=a.kids.take b++[a.kids[b]]:=by rw[a8r,W];rfl
   have V:=l5 _ (a7O (n:=b) δ);generalize a.kids[b]'δ=d at W N V;obtain⟨y,k3,Y,_,e,f,g,rfl⟩:=E.kids.get W;obtain⟨a27,k4,O⟩:=a13.get b _ k3;have Z:=aP (N:=e) (e6:=f) (h6:=g) Y;have a56:(R.agg (ab d e f g)).cells=ab d e f g:=rfl;rw[a56]at O;have A:=O.ld v (l9 _ _ x) η 37 δ (by rw[Z.len];omega);rw[show aM η 37 (ab d e f g)=.agg (ab d e f g) by rw[aM,if_pos rfl,Z.t37]]at A;have k6:=Z.len;generalize ab d e f g=i at*;obtain⟨b00,b01,a3,a4,a5,dy,a57,a61⟩:=Z;have b02:=n5 b;refine ak (c7 @k @G @L @P @w @k4 @A) ?_;refine aN λj9 a62=>?_;obtain⟨a63,a65,Q⟩:=x.new (ob:=.cells i) a62;have a68:(p.set j9 (.cells i)) j9=β (.cells i):=ξ _ _ _;have b03:=k6;have b04:=V.my;have cf:=V.mz;have b05:=V.live;have b06:=V.size;have b07:=V.aT;have b08:=V.aS;have b09:=V.key;have a69:∀k7:ύ,α k7=37->putAt k7 0 i=i:=λk7 a71=>by rw[putAt];simp[a71,k6]
   refine ak (cg @k @G @L @P @K @a69 @k6 @τ @Ψ.{0} @a9j.{0}) ?_;have a73:d.live=(d.live.toNat):=δ;have a74:d.size=(d.size.toNat):=δ;have I:∀aV o,cw (p.set j9 (.cells i)) c aV o->o j9=β (.cells i):=λaV o u=>u.get a63 a68;rw[a3];have k8:(k5++(a.kids.take b).flatMap ea).length<=1700:=by grind
   obtain⟨b10,a81⟩:∃a83,a83=k5++(a.kids.take b).flatMap ea:=⟨_,rfl⟩;rw[<-a81]at Q k8;refine ah (DE _ _ c _ d.sum Y Q δ) ?_;intro _ a43 B;simp -dsimp -implicitDefEqProofs (disch:=first|omega|assumption|(simp only[aW,Nat.reduceAdd];try omega)) only[go_sem,simprocAttr,-List.reduceReplicate,k,G,L,P,κ (I _ _ B),dy];rw[a73];refine ah (sL _ _ c _ d.live.toNat δ B (by grind)) ?_;intro _ a47 X;simp -dsimp -implicitDefEqProofs (disch:=first|omega|assumption|(simp only[aW,Nat.reduceAdd];try omega)) only[go_sem,simprocAttr,-List.reduceReplicate,k,G,L,P,κ (I _ _ X),a57];rw[a74];have cl:=kF d.live.toNat;have k0:=kF d.size.toNat;refine ah (sL _ _ c _ d.size.toNat δ X (by grind)) ?_;intro _ b11 H;simp -dsimp -implicitDefEqProofs (disch:=first|omega|assumption|(simp only[aW,Nat.reduceAdd];try omega)) only[go_sem,simprocAttr,-List.reduceReplicate,k,G,L,P,κ (I _ _ H),a4];have n9:=λh=>y2 (a:=h);have b12:=n9 d.aT;have b13:=n9 d.aS;refine ah (sM _ _ c _ d.aT e δ H (by grind)) ?_;intro _ b14 a00;simp -dsimp -implicitDefEqProofs (disch:=first|omega|assumption|(simp only[aW,Nat.reduceAdd];try omega)) only[go_sem,simprocAttr,-List.reduceReplicate,k,G,L,P,κ (I _ _ a00),a5];refine ah (sM _ _ c _ d.aS f δ a00 (by grind)) ?_;intro _ b15 a01;simp -dsimp -implicitDefEqProofs (disch:=first|omega|assumption|(simp only[aW,Nat.reduceAdd];try omega)) only[go_sem,simprocAttr,-List.reduceReplicate,k,G,L,P,κ (I _ _ a01),a61];refine ah (sM _ _ c _ d.key g δ a01 (by grind)) ?_;intro _ b16 a84;refine ak (aL @k @G @L @P) ?_;refine⟨⟨b+1,δ,?_,ς⟩,δ⟩;have H:=a84.base (μ (θ) a65);grind[List.append_assoc,ea]
  .obtain rfl:b=α a.kids:=δ;rw[a7K]at x;have k8:=n5 (α a.kids);rw[a7K]at k8;refine ak (bh @k @G @L @P @w) ?_;refine ah (DD _ v c _ x (by grind)) ?_;rintro _ a02⟨a86,a03,rfl⟩;refine ak @k ?_;refine ah (DQ _ a02 c _ (x.mono a03.sub)) ?_;rintro _ a02⟨rfl,rfl⟩;refine bU ?_;refine⟨_,θ,π t (π (x.sub l7) a03.sub),a86,?_⟩;rw[a14]
end Go.Proofs.YtcfpcblgmmeioaaGreat
set_option maxHeartbeats 1000000
namespace Go.Proofs.YtcfpcblgmmeioaaGreat
open Go Go.bD
theorem ch:(ε 32 (R.v (.int .u8 0))++[R.J [] .nil,.J [] .nil]++[R.v (.int .i64 0),.v (.int .i64 0)]++[R.J [] .nil])=ab az .nil .nil .nil:=by rw[show ε 32 (R.v (.int .u8 0))=(ε 32 (0)).map aj by rw[List.map_replicate];rfl];simp only[a7B];rfl
variable{A j2:ao}{w j4:ϊ}{N e6 h6:Own}
theorem vd(a:α A.sum=32)(b:α w=32):putAt (ab A N e6 h6) 0 (w.map aj)=ab {A with sum:=w} N e6 h6:=by grind[aj,ab,putAt,List.length_map,List.drop_append,List.drop_eq_nil_of_le]
variable{n b5:R}{g H c0:ύ}
theorem ve{b c d:R}(r:α g=32):(∀a x,putAt (g++[n,b5,b,c,d]) 32 [a,x]=g++[a,x,b,c,d])/\(∀a,putAt (g++[n,b5,b,c,d]) 34 [a]=g++[n,b5,a,c,d])/\
  (∀a,putAt (g++[n,b5,b,c,d]) 35 [a]=g++[n,b5,b,a,d])/\∀a,putAt (g++[n,b5,b,c,d]) 36 [a]=g++[n,b5,b,c,a]:=by
 have o:∀h (k),(g++k).take (32+h)=g++k.take h:=λh k=>by rw[<-r,aa1]
 have p:∀h (k),(g++k).drop (32+h)=k.drop h:=λh k=>by rw[<-r,aa2]
 have y:=o 0;have z:=o 2;have C:=o 3;have D:=o 4;have E:=p 2;have F:=p 3;have G:=p 4;simp_all [Nat.reduceAdd,putAt]
variable{b1:Int}
theorem sV(a:α A.sum=32):putAt (ab A N e6 h6) 34 [.v (.int .i64 b1)]=ab {A with live:=b1} N e6 h6:=(ve (by simp[a])).2.1 _
theorem sW(a:α A.sum=32):putAt (ab A N e6 h6) 35 [.v (.int .i64 b1)]=ab {A with size:=b1} N e6 h6:=(ve (by simp[a])).2.2.1 _
variable{q b7:Ω}
theorem sX{a:Own}(b:α A.sum=32):putAt (ab A N e6 a) 36 [.J (ad q) h6]=ab {A with key:=q} N e6 h6:=(ve (by simp[b])).2.2.2 _
theorem yh{a b:Own}(c:α A.sum=32):putAt (ab A a b N) 32 [.J (ad q) e6,.J (ad b7) h6]=ab {A with aT:=q,aS:=b7} e6 h6 N:=(ve (by simp[c])).1 _ _
theorem cx{a b c:Own}(d:α j2.sum=32)(h:α A.sum=32):putAt (ab j2 a b c) 0 (ab A N e6 h6)=ab A N e6 h6:=by have o:=(aP (N:=a) (e6:=b) (h6:=c) d).len;have k:=(aP (N:=N) (e6:=e6) (h6:=h6) h).len;rw[putAt,a9m,a7H,k,a8b δ,a8t]
theorem bl:α az.sum=32:=by rfl
theorem sY:(gy q).1.length<=8/\(gy q).2.length<=8:=by grind[gy]
variable{e i v M b9 j1:Nat}{b3:bY}
theorem yi(b:e<=8)(c:dV e b3=η)(k:∀a∈b3.kids,α a.sum=32):(cH b3).length<=2000:=by obtain⟨o,p,r⟩:=kG c;have x:=vc b c;have z:=rf λd y=>yf (a:=d) (by rw[o d y];exact b);have C:=rf λa h=>sU (k a h) (x a h);have a3:α b3.rows*100<=4*100:=a7D _ p;have a4:α b3.kids*300<=4*300:=a7D _ r;unfold cH;grind
theorem aB.all(b:aB bB b3.kids g):∀a∈b3.kids,α a.sum=32/\a.cC:=by intro a c;obtain⟨h,d,rfl⟩:=a8a c;obtain⟨k,_,o,p,_⟩:=b.get (Ρ d);trivial
abbrev fS(b:ϊ)(a:gS):ao:=⟨b,a.aR.1,a.aR.2,a.live,a.size,[]⟩
theorem a0d(z:α w=32):∃p:Ω->Ω->Int->Int->Ω->Own->Own->Own->ύ,(∀(x:ao) a b c,x.sum=w->ab x a b c=p x.aT x.aS x.live x.size x.key a b c)/\putAt (ab az .nil .nil .nil) 0 (w.map aj)=p [] [] 0 0 [] .nil .nil .nil/\
  ∀d h k cf o a b c,(p d h k cf o a b c).length=37/\(p d h k cf o a b c).take 37=p d h k cf o a b c/\((p d h k cf o a b c).drop 32).take 2=[.J (ad d) a,.J (ad h) b]/\aM ι 1 ((p d h k cf o a b c).drop 34)=.v (.int .i64 k)/\aM ι 1 ((p d h k cf o a b c).drop 35)=.v (.int .i64 cf)/\putAt (ab az .nil .nil .nil) 0 (p d h k cf o a b c)=p d h k cf o a b c/\
   (∀r,putAt (p d h k cf o a b c) 34 [.v (.int .i64 r)]=p d h r cf o a b c)/\(∀r,putAt (p d h k cf o a b c) 35 [.v (.int .i64 r)]=p d h k r o a b c)/\(∀r y,putAt (p d h k cf o a b c) 36 [.J (ad r) y]=p d h k cf r a b y)/\∀r C y D,putAt (p d h k cf o a b c) 32 [.J (ad r) y,.J (ad C) D]=p r C k cf o y D c:=by
 refine⟨λd h k cf o a b c=>ab ⟨w,d,h,k,cf,o⟩ a b c,λx _ _ _ E=>by subst E;rfl,vd bl z,λd h k cf o a b c=>?_⟩;have F:=(aP (A:=⟨w,d,h,k,cf,o⟩) (N:=a) (e6:=b) (h6:=c) z).all;grind[cx,bl,sV,sW,sX,yh]
theorem Ec(b:bY)(n9 a00:ύ)(X Y:R)(w:Nat)(a34:1<=w)(l3:w<=8)(O:U)(x:fR O b X Y n9 a00):
  AC γ 155 [gU b X Y,.v (.int .i64 (w:Int))] O λc F=>O.sub F/\match fP w b with
   |none=>c=.aJ [.agg (ab az .nil .nil .nil),.v (.int .i64 1)]
   |some d=>∃k o l4,c=.aJ [.agg (ab d k o l4),.v (.int .i64 0)]:=by
 have a84:=x.hh;have a86:=x.sT;have a88:=x.kI;have a89:=x.ij;have a01:=oF (cH b);obtain⟨k5,a90,a92,a36⟩:=a0d a01;have A:=λa38 k6 Z cf a42 k o l4=>(a36 a38 k6 Z cf a42 k o l4).1;have a94:(br (eb (cH b))).cells=(eb (cH b)).map aj:=rfl;have a95:((eb (cH b)).map aj).length=32:=by simp[a01]
 have a96:=ch;have a97:=(aP (N:=.nil) (e6:=.nil) (h6:=.nil) bl).all;have a02:=λd y z E B=>cx (a:=.nil) (b:=.nil) (c:=.nil) (A:=d) (N:=y) (e6:=z) (h6:=E) bl B;have a98:=a02 az .nil .nil .nil bl;generalize a99:ab az .nil .nil .nil=l5 at*;obtain⟨a03,L⟩:∃a03,fP w b=a03:=⟨_,rfl⟩;rw[L];unfold fP fr at L;have a43:=@τ;have b00:=@sg;refine aK hm PG ?_;refine bs λa04 a47=>?_;refine dd λj9 a48 _ _=>?_;generalize C:(O.set a04 _).set j9 _=l6;have a05:O.sub l6:=by subst C;exact aO
 have c2:l6 a04=β (.cells [.v (.int .u8 (b.kind.toNat)),X,Y]):=by subst C;exact aO
 have aL:l6 j9=β (.cells l5):=by subst C;exact aO
 clear C a47;refine cl (yg b n9 a00 X Y w a34 l3 _ (x.mono a05)) ?_;rintro c k0⟨l7,k1⟩;replace c2:=l7 _ _ c2;replace aL:=l7 _ _ aL;have H:=π a05 l7;have k2:=κ c2;have l8:=χ aL;have b01:∀F i,k0.sub F->O.sub (F.set j9 i):=λF i B=>μ (π H B) a48;unfold sO at k1;cases S:dV w b with
 |false=>rw[S]at k1 L;rw[if_neg ς]at L;obtain rfl:=k1;subst L;exact aO
 |true=>
  rw[S]at k1 L;rw[if_pos rfl]at L;obtain⟨a52,rfl⟩:=k1;obtain⟨a06,b02,b03⟩:=kG S;have a07:=vc l3 S;have a56:=x.kids.all;have b04:=yi l3 S λd a57=>(a56 d a57).1;obtain⟨h,j⟩:∃h:Nat->gS,h=λa=>(b.rows.take a).foldl dW ⟨0,α b.rows,([],[])⟩:=⟨_,rfl⟩;obtain⟨T,I⟩:∃T:Nat->gS,T=λa=>(b.kids.take a).foldl eD (h (α b.rows)):=⟨_,rfl⟩;have a08:h 0=⟨0,α b.rows,([],[])⟩:=by subst j;rfl
  have a09:T 0=h (α b.rows):=by subst I;rfl
  have a61:∀a c,b.rows[a]?=β c->h (a+1)=dW (h a) c:=λa c B=>by subst j;simp[a8r,B]
  have a10:∀a d,b.kids[a]?=β d->T (a+1)=eD (T a) d:=λa d B=>by subst I;simp[a8r,B]
  have a11:eJ b=T (α b.kids):=by subst I;subst j;simp[eJ]
  rw[a11]at L;clear j I a11;refine aa ?_;refine ns (E2 (cH b) a52 _ δ) ?_;refine bs λl Q=>?_;have b05:=U.hc Q c2;have b06:=U.hc Q aL;refine aa ?_;refine cc [2,4,8,30,31] (λa:Nat=>[(32,.v (.int .i64 (a)))]) (λa F=>a<=α b.rows/\k0.sub F/\(0<=(h a).live/\(h a).live<=a/\(h a).size=α b.rows/\(h a).aR.1.length<=8/\(h a).aR.2.length<=8)/\∃k o,F l=β (.cells (k5 (h a).aR.1 (h a).aR.2 (h a).live (α b.rows) [] k o .nil))) (λa=>α b.rows - a) 0 ⟨⟨δ,μ (μ θ Q) Q,by simp[a08],.nil,.nil,by rw[a08];exact ξ _ _ _⟩,aO⟩ ?_;rintro a D⟨k6,p,⟨a13,a14,l9,k7,k8⟩,k,o,bw⟩a62;have a15:=A (h a).aR.1 (h a).aR.2 (h a).live (α b.rows) [] k o .nil;have k9:=A (h a).aR.1 (h a).aR.2 ((h a).live+1) (α b.rows) [] k o .nil;have m:=κ bw;have V:=χ bw;have k2:=rd p c2;refine aa ?_;refine aF (λP=>?_) λP=>?_
  .have K:=Ρ (show a<α b.rows by omega);have j:=a61 a _ K;have n0:=a06 _ (a7O (n:=a) δ);generalize b.rows[a]'δ=c at K j n0;obtain⟨_,M,n,rfl⟩:=x.rows.get K;obtain⟨q,W,G⟩:=(x.mi.mono (π H p)).get a _ M;have e:cW η 2 D q=β (.agg [.J (ad c.1) n,.v (.bool c.2)]):=G.ld D θ η 2 δ (by simp[σ]);obtain⟨c,Z⟩:=c;refine aa ?_;refine bs λn1 a16=>?_;have a63:=U.hc a16 bw;obtain⟨r,s⟩:∃r,D.set n1 (.cells [.J (ad c) n,.v (.bool Z)])=r:=⟨_,rfl⟩;have f:D.sub r:=by rw[<-s];exact μ θ a16
   have cg:r n1=β (.cells [.J (ad c) n,.v (.bool Z)]):=by rw[<-s,ξ]
   rw[a43,s];have m:=rd f bw;have V:=χ (f _ _ bw);have a65:=κ cg;clear s e W G k2;refine aF (λP=>?_) λP=>?_<;>subst P
   .generalize C:r.set l _=t;have bw:t l=β (.cells (k5 (h a).aR.1 (h a).aR.2 ((h a).live+1) (α b.rows) [] k o .nil)):=by subst C;exact ξ _ _ _
    have cg:t n1=β (.cells [.J (ad c) n,.v (.bool η)]):=by subst C;rw[ο _ _ a63.symm];exact cg
    have n2:k0.sub t:=by subst C;exact μ (π p f) Q
    clear C;refine cl (ZQ t c n (by dsimp only at n0;omega)) ?_;rintro _ a68⟨l0,y,z,rfl⟩;have m:=rd l0 bw;have a65:=rd l0 cg;have a18:=sY (q:=c);refine cl (E7 a68 (h a).aR.1 (h a).aR.2 (gy c).1 (gy c).2 k o y z δ δ δ δ) ?_;rintro _ a69⟨k3,rfl⟩;have V:=χ (k3 _ _ (l0 _ _ bw));have n3:=oI (h a).aR (gy c) 8 k7 k8 a18.1 a18.2;refine aa ?_;refine⟨a+1,⟨δ,π n2 (π l0 k3),?_,.any,.any,?_⟩,rfl,δ⟩<;>rw[j,dW,if_pos rfl];grind
   .refine⟨a+1,⟨δ,π p f,?_,k,o,?_⟩,rfl,δ⟩<;>rw[j,dW,if_neg ς];omega
    .exact f _ _ bw
  obtain rfl:a=α b.rows:=δ;refine cc [2,4,8,51,52] (λa:Nat=>[(53,.v (.int .i64 (a)))]) (λa F=>a<=α b.kids/\k0.sub F/\(0<=(T a).live/\(T a).live<=4+a*1048576/\0<=(T a).size/\(T a).size<=4+a*1048576/\(T a).aR.1.length<=8/\(T a).aR.2.length<=8)/\∃k o,F l=β (.cells (k5 (T a).aR.1 (T a).aR.2 (T a).live (T a).size [] k o .nil))) (λa=>α b.kids - a) 0 ⟨⟨δ,p,by grind,k,o,by rw[a09,l9];exact bw⟩,aO⟩ ?_;clear a15 k9 bw m V k2 p P a13 a14 l9 k7 k8 k6;rintro a D⟨k6,p,⟨a13,a14,l9,b07,k7,k8⟩,k,o,bw⟩a62;have a15:=A (T a).aR.1 (T a).aR.2 (T a).live (T a).size [] k o .nil;have m:=κ bw;have V:=χ bw;have k2:=rd p c2;have l8:=χ (p _ _ aL);refine aa ?_;refine aF (λP=>?_) λP=>?_
  .have K:=Ρ (show a<α b.kids by omega);have I:=a10 a _ K;have u:=a07 _ (a7O (n:=a) δ);generalize b.kids[a]'δ=d at K I u;obtain⟨_,M,l1,a71,y,z,E,rfl⟩:=x.kids.get K;obtain⟨q,W,G⟩:=(x.gQ.mono (π H p)).get a _ M;have N:=aP (N:=y) (e6:=z) (h6:=E) l1;change mA D q (ab d y z E)at G;have e:=G.ld D θ η 37 δ (by rw[N.len];omega);rw[show aM η 37 (ab d y z E)=.agg (ab d y z E) by rw[aM,if_pos rfl,N.t37]]at e;have N:=N.all;have b08:=a02 d y z E l1;generalize ab d y z E=a19 at*;have Z:=u.my;have cf:=u.mz;have b09:=u.live;have b10:=u.size;have a73:=u.aT;have a74:=u.aS;refine aa ?_;have k9:=A (T a).aR.1 (T a).aR.2 ((T a).live+d.live) (T a).size [] k o .nil;have b11:=A (T a).aR.1 (T a).aR.2 ((T a).live+d.live) ((T a).size+d.size) [] k o .nil;refine bs λa27 a29=>?_;have b12:=U.hc a29 bw;obtain⟨r,s⟩:∃r,D.set a27 (.cells a19)=r:=⟨_,rfl⟩;have f:D.sub r:=by rw[<-s];exact μ θ a29
   have a81:r.read a27=β a19:=κ (by rw[<-s,ξ]);have m:=rd f bw;have V:=χ (f _ _ bw);clear e W G k2;refine aa ?_;generalize C:r.set l _=t;have bw:t l=β (.cells (k5 (T a).aR.1 (T a).aR.2 ((T a).live+d.live) ((T a).size+d.size) [] k o .nil)):=by subst C;exact ξ _ _ _
   have n2:k0.sub t:=by subst C;exact μ (π p f) Q
   clear C s m V a81;refine cl (E7 t (T a).aR.1 (T a).aR.2 d.aT d.aS k o y z δ δ δ δ) ?_;rintro _ a69⟨k3,rfl⟩;have V:=χ (k3 _ _ bw);have n3:=oI (T a).aR (d.aT,d.aS) 8 k7 k8 a73 a74;refine aa ?_;refine⟨a+1,⟨δ,π n2 k3,?_,.any,.any,?_⟩,rfl,δ⟩<;>rw[I,eD];exact⟨by dsimp only;omega,by dsimp only;omega,by dsimp only;omega,by dsimp only;omega,n3.1,n3.2⟩
  obtain rfl:a=α b.kids:=δ;clear a10 a09;generalize T (α b.kids)=v at*;refine aF (λP=>?_) λP=>?_;grind;rw[if_neg P]at L;subst L;by_cases g2:b.kind=2
  .have bs:(b.kind.toNat:Int)=2:=by rw[g2];rfl
   obtain⟨c,l2,n4⟩:∃c l2,b.rows=c::l2:=a9u (by rintro k4;unfold dV at S;simp[g2,k4]at S);have n0:=a06 c (by simp[n4]);obtain⟨_,M,n,rfl⟩:=x.rows.get (i:=0) (by rw[n4];rfl);obtain⟨q,W,G⟩:=(x.mi.mono (π H p)).get 0 _ M;obtain⟨a30,a83,e⟩:=G.ln D θ 0 ι 1 δ (by simp[σ]);have W:cz 2 X (.v (.int .i64 0))=β q:=W;have e:cW ι 1 D a30=β (.J (ad c.1) n):=e;have k9:=A v.aR.1 v.aR.2 v.live v.size c.1 k o .any;refine iM ?_;refine cl (sS c.1 n _ δ) ?_;rintro _ r⟨g,rfl⟩;have m:=rd g bw;have V:=χ (g _ _ bw);have l8:∀i,en (r.set l i) j9=β l5:=λi=>χ (by rw[ο _ _ abE];exact g _ _ (p _ _ aL));refine aa ?_;exact⟨π H (π p g),k,o,.any,by simp[keyOf,g2,n4]⟩
  have bs:¬(b.kind.toNat:Int)=2:=λk4=>g2 (a8j.1 (by grind));refine iM ?_;by_cases g3:b.kind=3
  .have hd:(b.kind.toNat:Int)=3:=by rw[g3];rfl
   obtain⟨d,b13,n5⟩:∃c l2,b.kids=c::l2:=a9u (by rintro k4;unfold dV at S;simp[g3,k4]at S);have u:=(a07 d (by simp[n5])).key;obtain⟨_,M,l1,a71,y,z,E,rfl⟩:=x.kids.get (i:=0) (by rw[n5];rfl);obtain⟨q,W,G⟩:=(x.gQ.mono (π H p)).get 0 _ M;have N:=aP (N:=y) (e6:=z) (h6:=E) l1;change mA D q (ab d y z E)at G;obtain⟨a30,a83,e⟩:=G.ln D θ 36 ι 1 δ (by rw[N.len];omega);have W:cz 37 Y (.v (.int .i64 0))=β q:=W;rw[N.all.2.2.2.2.2.2.2.2]at e;have k9:=A v.aR.1 v.aR.2 v.live v.size d.key k o .any;refine iM ?_;refine cl (sS d.key E _ δ) ?_;rintro _ r⟨g,rfl⟩;have m:=rd g bw;have V:=χ (g _ _ bw);have l8:∀i,en (r.set l i) j9=β l5:=λi=>χ (by rw[ο _ _ abE];exact g _ _ (p _ _ aL));refine aa ?_;exact⟨π H (π p g),k,o,.any,by simp[keyOf,g3,n5]⟩
  have hd:¬(b.kind.toNat:Int)=3:=λk4=>g3 (a8j.1 (by grind));refine iM ?_;grind[keyOf]
theorem Ed{h k d:R}(o:α g=32):(∀c,putAt (g++[h,k,n,b5,d]) 32 [c]=g++[c,k,n,b5,d])/\∀c,putAt (g++[h,k,n,b5,d]) 33 [c]=g++[h,c,n,b5,d]:=by
 have p:∀a (b),(g++b).take (32+a)=g++b.take a:=λa b=>by rw[<-o,aa1]
 have r:∀a (b),(g++b).drop (32+a)=b.drop a:=λa b=>by rw[<-o,aa2]
 have x:=p 0;have y:=p 1;have z:=r 1;have C:=r 2;simp_all [Nat.reduceAdd,putAt]
def Ee{a:Own}(b:α A.sum=32):putAt (ab A a N e6) 32 [.J (ad q) h6]=ab {A with aT:=q} h6 N e6:=(Ed (by simp[b])).1 _
def Ef{a:Own}(b:α A.sum=32):putAt (ab A N a e6) 33 [.J (ad q) h6]=ab {A with aS:=q} N h6 e6:=(Ed (by simp[b])).2 _
variable{f s e0:U}{Y:bu}
def c6.put{b:Rd}(a:bu)(c:c6 (f.set e Y) i b s)(d:e≠i):c6 (f.set e a) i b (s.set e a):=by have:=c.other (ob:=a) d;rwa[τ]at this
theorem a0e(L H:U)(x:Nat)(r:Nat)(a04:r<=8)(C:Rd)(l0:L x=ζ)(P:c6 L x C H):
  AC γ 242 [.ptr x 0,.v (.int .i64 (r:Int))] H λD V=>c6 L x (hJ r C).2 V/\(hJ r C).1.sum.length=32/\(hJ r C).1.cC/\∃b h o,D=.agg (ab (hJ r C).1 b h o):=by
 have fB:=aP (N:=.nil) (e6:=.nil) (h6:=.nil) bl;have n:=fB.len;have a05:=fB.t37;refine bd hm Sb ς ?_;have q:∀I,(R.agg I).cells=I:=λ_=>rfl;have K:∀c:Int,(R.v (.int .i64 c)).cells=[.v (.int .i64 c)]:=λ_=>rfl;have s:∀(c)(M),(R.J (ad c) M).cells=[.J (ad c) M]:=λ_ _=>rfl;refine ak @ch ?_;refine aN λE l1=>?_;obtain⟨t,N,P⟩:=P.new (ob:=.cells (ab az .nil .nil .nil)) l1;have l2:L.sub (L.set E (.cells (ab az .nil .nil .nil))):=μ θ N;have O:(L.set E (.cells (ab az .nil .nil .nil))) x=none:=by rw[ο _ _ (Ι t)];exact l0
 have u:(L.set E (.cells (ab az .nil .nil .nil))) E=β (.cells (ab az .nil .nil .nil)):=ξ _ _ _;obtain⟨l,l3⟩:∃l:U,l=L.set E (.cells (ab az .nil .nil .nil)):=⟨_,rfl⟩;rw[<-l3]at P l2 O u;refine bU ?_;refine ah (DM _ _ x C P) ?_;rintro D a06⟨Q,rfl⟩;unfold hJ;have z:=DL C;generalize nz C=p at*;obtain⟨a,X⟩:=p;simp only at Q z|-;have Y:(br a).cells=a.map aj:=rfl;have Z:(a.map aj).length=32:=by simp[z]
 have j9:putAt (ab az .nil .nil .nil) 0 (a.map aj)=ab ⟨a,[],[],0,0,[]⟩ .nil .nil .nil:=vd bl z;have k0:∀(p)(b h o),α p.sum=32->putAt (ab az .nil .nil .nil) 0 (ab p b h o)=ab p b h o:=λp b h o l4=>cx bl l4;have cl:∀(k y)(v w)(F)(b h o),re ⟨a,k,y,v,w,F⟩ b h o (ab ⟨a,k,y,v,w,F⟩ b h o):=λk y v w F b h o=>aP z;have A:=(cl [] [] 0 0 [] .nil .nil .nil).len;have k1:=k0 ⟨a,[],[],0,0,[]⟩ .nil .nil .nil z;refine ak (bw @q @Y @Z @ch @j9 @n @A @k1) ?_;refine aN λW l5=>?_;obtain⟨S,k2,l6⟩:=Q.new (ob:=.cells (ab ⟨a,[],[],0,0,[]⟩ .nil .nil .nil)) l5;have m:E≠W:=by rintro rfl;rw[u]at k2;cases k2
 have B:∀e,(l.set W e) x=none:=λe=>by rw[ο _ _ (Ι S)];exact O
 have aa:∀ {e C V},c6 (l.set W e) x C V->V W=β e/\V E=β (.cells (ab az .nil .nil .nil)):=λP=>⟨P.get S (ξ _ _ _),P.get t (by rw[ο _ _ m];exact u)⟩;refine ak (cO @q @Y @Z @ch @j9 @n @A @k1 @τ) ?_;refine ah (sN _ _ x 1048576 δ _ l6) ?_;rintro D a07⟨f,rfl⟩;have l7:=y3 1048576 X;generalize fG 1048576 X=p at*;obtain⟨d,k3⟩:=p;simp only at f l7|-;have G:=(aa f).1;have c2:=(cl [] [] d 0 [] .nil .nil .nil).len;have l8:putAt (ab ⟨a,[],[],0,0,[]⟩ .nil .nil .nil) 34 [.v (.int .i64 (d))]=ab ⟨a,[],[],d,0,[]⟩ .nil .nil .nil:=sV z;replace f:=f.put (.cells (ab ⟨a,[],[],d,0,[]⟩ .nil .nil .nil)) S;refine ak (aL @K (χ G) @A @l8) ?_;refine ah (sN _ _ x 1048576 δ _ f) ?_;rintro D a08⟨g,rfl⟩;have l9:=y3 1048576 k3;generalize fG 1048576 k3=p at*;obtain⟨c,k4⟩:=p;simp only at g l9|-;replace G:=(aa g).1;have aE:=(cl [] [] d c [] .nil .nil .nil).len;have n0:putAt (ab ⟨a,[],[],d,0,[]⟩ .nil .nil .nil) 35 [.v (.int .i64 (c))]=ab ⟨a,[],[],d,c,[]⟩ .nil .nil .nil:=sW z;replace g:=g.put (.cells (ab ⟨a,[],[],d,c,[]⟩ .nil .nil .nil)) S;refine ak (aL @K (χ G) @c2 @n0) ?_;refine ah (pR _ _ x r δ _ (B _) g) ?_;rintro D a09⟨i,b,rfl⟩;have n1:=y4 r k4;generalize iq r k4=p at*;obtain⟨k,k5⟩:=p;simp only at i n1|-;replace G:=(aa i).1;have aL:=(cl k [] d c [] b .nil .nil).len;have n2:putAt (ab ⟨a,[],[],d,c,[]⟩ .nil .nil .nil) 32 [.J (ad k) b]=ab ⟨a,k,[],d,c,[]⟩ b .nil .nil:=Ee z;replace i:=i.put (.cells (ab ⟨a,k,[],d,c,[]⟩ b .nil .nil)) S;simp -dsimp -implicitDefEqProofs (disch:=first|omega|assumption|(simp only[aW,Nat.reduceAdd];try omega)) only[go_sem,simprocAttr,-List.reduceReplicate,s,χ G,aE,n2];refine ah (pR _ _ x r δ _ (B _) i) ?_;rintro D a10⟨j,h,rfl⟩;have n3:=y4 r k5;generalize iq r k5=p at*;obtain⟨y,k6⟩:=p;simp only at j n3|-;replace G:=(aa j).1;have bh:=(cl k y d c [] b h .nil).len;have n4:putAt (ab ⟨a,k,[],d,c,[]⟩ b .nil .nil) 33 [.J (ad y) h]=ab ⟨a,k,y,d,c,[]⟩ b h .nil:=Ef z;replace j:=j.put (.cells (ab ⟨a,k,y,d,c,[]⟩ b h .nil)) S;simp -dsimp -implicitDefEqProofs (disch:=first|omega|assumption|(simp only[aW,Nat.reduceAdd];try omega)) only[go_sem,simprocAttr,-List.reduceReplicate,s,χ G,aL,n4];refine ah (pR _ _ x r δ _ (B _) j) ?_;rintro D n5⟨T,o,rfl⟩;have n9:=y4 r k6;generalize iq r k6=p at*;obtain⟨F,a11⟩:=p;simp only at T n9|-;replace G:=(aa T).1;have k7:=cl k y d c F b h o;have bz:=k7.len;have a00:putAt (ab ⟨a,k,y,d,c,[]⟩ b h .nil) 36 [.J (ad F) o]=ab ⟨a,k,y,d,c,F⟩ b h o:=sX z;replace T:=T.put (.cells (ab ⟨a,k,y,d,c,F⟩ b h o)) S;have k8:=(aa T).2;have a13:=(aa T).1;have a01:=Ι m;have a02:=k0 ⟨a,k,y,d,c,F⟩ b h o z;have a03:n5 E=β (.cells (ab az .nil .nil .nil)):=by rw[ο _ _ m]at k8;exact k8
 refine ak (gr @s (χ G) @bh @a00 @ξ @ο @m @a01 (χ a03) k7.t37 @n @bz @a02 @q) ?_;refine⟨_,θ,?_,z,⟨by simp only;omega,by simp only;omega,by simp only;omega⟩,b,h,o,rfl⟩;refine(T.other t).base ?_;intro D a14 k9;have a15:D≠E:=by rintro rfl;rw[N]at k9;cases k9
 have a16:D≠W:=by rintro rfl;simp_all [ο]
 simp_all [ο]
def nF(a:α g=e*i):bW (f.set v (.cells g)) i (.aq v e e i)=β (e,g):=by simp[bW,κ (ξ _ _ _),<-a]
def av.rs{a:Rd}(b:av (f.set e (il a N)) s i g n):c6 f e a s:=⟨N,b.1⟩
def av.sZ{p h:Rd}(r:av (f.set e (il p N)) s i g n)(x:f e=ζ)(y:c6 (s.del e) e h e0):∃c,av (f.set e (il h c)) e0 i g n:=by
 obtain⟨c,k⟩:=y;obtain⟨z,d⟩:=r;refine⟨c,π (U.lz (DU z x)) k,?_⟩;rcases d with d|⟨o,C,D,E,F,a,G,L⟩
 .exact .inl d
 .have b:o≠e:=by rintro rfl;rw[ξ]at a;cases a
  rw[ο _ _ b]at a;exact .inr ⟨o,C,D,E,F,by rw[ο _ _ b];exact a,k _ _ (by rw[ο _ _ b,U.eN _ b];exact G),L⟩
def gV(h k:U)(a:bY)(o p:R):Prop:=∃b c d,av h b 2 (flat c) o/\av b k 37 (flat d) p/\aB cY a.rows c/\aB bB a.kids d/\α a.rows<=100000/\α a.kids<=100000
def gV.sub{a b:U}{c:bY}{d h:R}(k:gV a b c d h):a.sub b:=by obtain⟨r,x,y,o,p,_⟩:=k;exact π o.1 p.1
def gV.L(k:gV s f b3 n b5):∃a b,fR f b3 n b5 a b:=by obtain⟨x,a,b,o,c,d,h,p,r⟩:=k;exact⟨a,b,d,h,(bO.dK o δ rfl (d.cells λ_ _=>cY.cells)).mono c.1,bO.dK c δ rfl (h.cells λ_ _=>Ξ),p,r⟩
theorem gV.base{a b c:U}{d:bY}{h k:R}(o:gV b c d h k)(p:a.sub b):gV a c d h k:=by obtain⟨r,x,y,z,C,D⟩:=o;exact⟨r,x,y,z.base p,C,D⟩
def gV.mono{a b c:U}{d:bY}{h k:R}(o:gV a b d h k)(p:b.sub c):gV a c d h k:=by obtain⟨r,x,y,z,C,D⟩:=o;exact⟨r,x,y,z,C.mono p,D⟩
theorem gV.set{b c:U}{a:Nat}{r ob:bu}{d:bY}{h k:R}(x:gV b c d h k)(o:b a=β r):gV (b.set a ob) (c.set a ob) d h k:=by obtain⟨y,z,C,p,D,E⟩:=x;exact⟨y.set a ob,z,C,jW p o,jW D (p.1 _ _ o),E⟩
variable{b0:Type}
def Eg{a:Rd->b0×Rd}{b:Rd}{c:List b0}(d:i<e):fH a (e - i) b c=fH a (e -(i+1)) (a b).2 (c++[(a b).1]):=by rw[show e - i=(e -(i+1))+1 by omega];rfl
abbrev yj:R:=.agg [.v (.int .u8 0),.J [] .nil,.J [] .nil]
theorem a0f(e:ϊ)(u:Own)(k:Nat)(a43:1<=k)(n2:k<=8)(n:U)(b22:α e<=1000000000000):
  AC γ 182 [.J (e.map aj) u,.v (.int .i64 (k:Int))] n λq D=>n.sub D/\match oC k e with
   |none=>q=.aJ [yj,.v (.int .i64 21)]
   |some v=>∃c P,q=.aJ [gU v c P,.v (.int .i64 0)]/\gV n D v c P:=by
 refine nr λb23=>?_;have a89:u=.nil->e=[]:=λa47=>by simp_all
 refine bd hm Qz ς ?_;have w:∀n3,(R.agg n3).cells=n3:=λ_=>rfl;have k0:∀a d b c P k9:R,putAt [a,d,b] 0 [c,P,k9]=[c,P,k9]:=λ_ _ _ _ _ _=>rfl;have k1:∀a d b,aM η 3 [a,d,b]=.agg [a,d,b]:=λ_ _ _=>rfl;have a48:∀a d b:R,aM ι 1 ([a,d,b].drop 1)=d:=λ_ _ _=>rfl;have a52:∀a d b:R,aM ι 1 ([a,d,b].drop 2)=b:=λ_ _ _=>rfl;have a90:∀a d b c:R,putAt [a,d,b] 0 [c]=[c,d,b]:=λ_ _ _ _=>rfl;have N:∀a d b:R,[a,d,b].length=3:=λ_ _ _=>rfl;have a92:∀a d c:R,putAt [a,d] 0 [c]=[c,d]:=λ_ _ _=>rfl;have a94:∀a d c:R,putAt [a,d] 1 [c]=[a,c]:=λ_ _ _=>rfl;have a95:∀a d:R,[a,d].length=2:=λ_ _=>rfl;have a96:∀d:Bool,(R.v (.bool d)).cells=[.v (.bool d)]:=λ_=>rfl;have a97:∀(k9)(a56),(R.J (ad k9) a56).cells=[.J (ad k9) a56]:=λ_ _=>rfl;have a98:∀a d b c:R,putAt [a,d,b] 1 [c]=[a,c,b]:=λ_ _ _ _=>rfl;have a99:∀a d b c:R,putAt [a,d,b] 2 [c]=[a,d,c]:=λ_ _ _ _=>rfl;refine bU ?_;refine aN λg a57=>?_;have a08:n.sub (n.set g (.cells [.v (.int .u8 0),.J [] .nil,.J [] .nil])):=μ θ a57;have n4:(n.set g (.cells [.v (.int .u8 0),.J [] .nil,.J [] .nil])) g=β (.cells [.v (.int .u8 0),.J [] .nil,.J [] .nil]):=ξ _ _ _;obtain⟨O,a61⟩:∃O:U,O=n.set g (.cells [.v (.int .u8 0),.J [] .nil,.J [] .nil]):=⟨_,rfl⟩;rw[<-a61]at a08 n4;have a62:∀(D)(A),n.sub D->n.sub (D.set g A):=λD A j=>μ j a57;refine bU ?_;rw[<-a61];refine ah (DG e u O a89 δ) ?_;rintro _ b24⟨o,n5,rfl,b00⟩;have b25:g≠o:=by rintro rfl;rw[n4]at n5;cases n5
 refine bU ?_;refine ah (pP _ _ o _ b00) ?_;rintro c b26⟨a63,rfl⟩;have a65:∀h:UInt8×Rd,h=dz ⟨e,0⟩->nB k e=(⟨h.1,(fH (iQ k) (dz h.2).1.toNat (dz h.2).2 []).1,(fH (hJ k) (dz (fH (iQ k) (dz h.2).1.toNat (dz h.2).2 []).2).1.toNat (dz (fH (iQ k) (dz h.2).1.toNat (dz h.2).2 []).2).2 []).1⟩,
   pQ (fH (hJ k) (dz (fH (iQ k) (dz h.2).1.toNat (dz h.2).2 []).2).1.toNat (dz (fH (iQ k) (dz h.2).1.toNat (dz h.2).2 []).2).2 []).2):=by rintro h rfl;rfl
 have a68:=a65 _ rfl;clear a65;unfold oC;rw[a68];clear a68;generalize dz ⟨e,0⟩=h at*;obtain⟨V,b01⟩:=h;simp only at a63|-;refine ak (c2 @k0 @w) ?_;refine aN λG b02=>?_;obtain⟨B,a09,b03⟩:=a63.new (ob:=.cells [.v (.int .u8 V.toNat),.J [] .nil,.J [] .nil]) b02;have b27:g≠G:=by rintro rfl;rw[n4]at a09;cases a09
 have a10:∀A,(O.set G A) o=none:=λA=>by rw[ο _ _ (Ι B)];exact n5
 refine ak (bh @k0 @w @a90 @N @τ) ?_;refine ah (pP _ _ o _ b03) ?_;rintro c b28⟨n9,rfl⟩;generalize dz b01=h at*;obtain⟨s,a00⟩:=h;simp only at n9|-;have b04:=s.toNat_lt;have a11:IntKind.i64.wrap (s.toNat)=s.toNat:=wrap_i64 δ δ;refine ak @a11 ?_;generalize s.toNat=Q at*;have l0:∀E b q D h l1 a,av ((O.set G (.cells b)).set o (il q E)) D h l1 a->D G=β (.cells b)/\D g=β (.cells [.v (.int .u8 0),.J [] .nil,.J [] .nil]):=λE b q D h l1 a j=>⟨j.1 _ _ (by rw[ο _ _ B,ξ]),j.1 _ _ (by grind[ο])⟩;refine cm (λC D=>∃(L:Nat)(F:Rd)(S:List (Ω×Bool))(H:ύ)(a:R)(E:Own),L<=Q/\fH (iQ k) (Q - L) F S=fH (iQ k) Q a00 []/\α S=L/\aB cY S H/\av ((O.set G (.cells [.v (.int .u8 V.toNat),a,.J [] .nil])).set o (il F E)) D 2 (flat H) a/\
   C 0=.J (e.map aj) u/\C 1=.v (.int .i64 k)/\C 4=.ptr g 0/\C 6=.ptr o 0/\C 7=.ptr G 0/\C 18=.v (.int .i64 Q)/\C 19=.v (.int .i64 L))
  (λC _=>match C 19 with|.v (.int _ v)=>(Q - v).toNat|_=>0) ?_ ?_
 .obtain⟨E,n9⟩:=n9;refine⟨0,a00,[],[],.J [] .nil,E,δ,rfl,rfl,trivial,av.nil n9,?_⟩;exact kD
 rintro C b05⟨L,F,S,H,a,E,b29,W,b06,a01,f,p,r,x,y,z,X,Y⟩;by_cases I:(L:Int)<Q
 .refine ak (bw @p @r @x @y @z @X @Y @I) ?_;refine ah (ZE _ _ o F (av.rs f).full) ?_;rintro c k2⟨a13,rfl⟩;rw[Eg δ]at W;unfold iQ at W;obtain⟨b07,l⟩:=av.sZ f (a10 _) a13;generalize nA F=h at*;obtain⟨k3,K⟩:=h;simp only at l W|-;have c7:=(l0 _ _ _ _ _ _ _ l).1;refine ak (cg @p @r @x @y @z @X @Y @I (κ c7) @a48) ?_;refine ah (pR _ _ o k δ K (U.iH _ _) (av.rs l).full) ?_;rintro c k4⟨l2,a02,rfl⟩;obtain⟨a03,i⟩:=av.sZ l (a10 _) l2;generalize iq k K=h at*;obtain⟨k5,a14⟩:=h;simp only at i W|-;have bw:=(l0 _ _ _ _ _ _ _ i).1;refine ak (oq @p @r @x @y @z @X @Y @I (κ bw) @a48 @w @a92 @a94 @a95 @a96 @a97) ?_;refine eQ (by simp[aY,σ]) ς λb08 a15=>?_;have a16:=av.mono i (μ (Y:=.cells (flat [R.agg [.J (ad k5) a02,.v (.bool k3)]])) θ a15);have a18:aB cY (S++[(k5,k3)]) (H++[R.agg [.J (ad k5) a02,.v (.bool k3)]]):=a01.snoc ⟨_,rfl⟩;have l3:(flat H).length=α S*2:=by rw[cU (a01.cells λ_ _=>cY.cells),a01.len]
  simp -dsimp -implicitDefEqProofs (disch:=first|omega|assumption|(simp only[aW,Nat.reduceAdd];try omega)) only[go_sem,simprocAttr,-List.reduceReplicate,p,r,x,y,z,X,Y];refine fj a16 δ (nF rfl) rfl (by rw[l3];simp[flat,σ];omega) (by rw[l3];simp[flat,σ];omega) λl4 b09 t=>?_;have a19:flat H++flat [R.agg [.J (ad k5) a02,.v (.bool k3)]]=flat (H++[R.agg [.J (ad k5) a02,.v (.bool k3)]]):=by simp[flat]
  rw[a19]at t;have cO:=(l0 _ _ _ _ _ _ _ t).1;have a27:=fQ t;refine ak (fF @p @r @x @y @z @X @Y (χ cO) @a27 @a98 @N) ?_;refine⟨⟨L+1,a14,S++[(k5,k3)],_,l4,a03,δ,W,by simp[b06],a18,?_,ς⟩,δ⟩;have:=jW (Y:=.cells [.v (.int .u8 V.toNat),l4,.J [] .nil]) t (by rw[ο _ _ B,ξ]);rw[U.ef _ (Ι B),τ]at this;exact this
 .obtain rfl:L=Q:=δ;rw[a9J]at W;obtain⟨b10,b11⟩:S=(fH (iQ k) L a00 []).1/\F=(fH (iQ k) L a00 []).2:=by rw[<-W];trivial
  rw[<-b10,<-b11];refine ak (bw @p @r @x @y @z @X @Y @I) ?_;refine ah (pP _ _ o F (av.rs f).full) ?_;rintro c k2⟨a13,rfl⟩;obtain⟨b07,l⟩:=av.sZ f (a10 _) a13;clear f;generalize dz F=h at*;obtain⟨s,K⟩:=h;simp only at l|-;have b04:=s.toNat_lt;have a11:IntKind.i64.wrap (s.toNat)=s.toNat:=wrap_i64 δ δ;refine ak (bz @p @r @x @y @z @a11) ?_;have c7:=(l0 _ _ _ _ _ _ _ l).1;have aL:=(l0 _ _ _ _ _ _ _ l).2;have a69:∀A,((k2.del o).set G A) o=none:=λA=>by rw[ο _ _ (Ι B),U.iH]
  have l5:∀E b q D h l1 a,av (((k2.del o).set G (.cells b)).set o (il q E)) D h l1 a->D G=β (.cells b)/\D g=β (.cells [.v (.int .u8 0),.J [] .nil,.J [] .nil]):=λE b q D h l1 a j=>⟨j.1 _ _ (by rw[ο _ _ B,ξ]),j.1 _ _ (by grind[ο,U.eN])⟩;obtain⟨b12,b13⟩:∃E,(((k2.del o).set G (.cells [.v (.int .u8 V.toNat),a,.J [] .nil])).set o (il K E)).sub k2:=by
   obtain⟨E,j⟩:=(av.rs l).full;refine⟨E,λc u m=>?_⟩;by_cases a47:c=G;grind[ο,ξ,Option.some.inj]
   .by_cases a29:c=o
    .subst a29;rw[ξ]at m;exact j _ _ (by rw[ξ];exact m)
    .rw[ο _ _ a29,ο _ _ a47]at m;exact j _ _ (by rw[ο _ _ a29];exact m)
  generalize s.toNat=Z at*;refine cm (λC D=>∃(L:Nat)(F:Rd)(T:List ao)(M:ύ)(P:R)(E:Own),L<=Z/\fH (hJ k) (Z - L) F T=fH (hJ k) Z K []/\α T=L/\aB bB T M/\av (((k2.del o).set G (.cells [.v (.int .u8 V.toNat),a,P])).set o (il F E)) D 37 (flat M) P/\
    C 0=.J (e.map aj) u/\C 1=.v (.int .i64 k)/\C 4=.ptr g 0/\C 6=.ptr o 0/\C 7=.ptr G 0/\C 36=.v (.int .i64 Z)/\C 37=.v (.int .i64 L))
   (λC _=>match C 37 with|.v (.int _ v)=>(Z - v).toNat|_=>0) ?_ ?_
  .refine⟨0,K,[],[],.J [] .nil,b12,δ,rfl,rfl,trivial,av.nil b13,?_⟩;exact cf (bh @p @r @x @y @z)
  clear p r x y z X Y;rintro C b05⟨l6,F,T,M,P,E,b30,W,a71,a04,f,p,r,x,y,z,l7,l8⟩;by_cases I:(l6:Int)<Z
  .have bw:=(l5 _ _ _ _ _ _ _ f).1;refine ak (cg @p @r @x @y @z @l7 @l8 @I (κ bw) @a52) ?_;refine ah (a0e _ _ o k n2 F (U.iH _ _) (av.rs f).full) ?_;rintro c k4⟨l2,a30,a73,k6,k7,k8,rfl⟩;rw[Eg δ]at W;obtain⟨a03,i⟩:=av.sZ f (a69 _) l2;have a34:=(aP (N:=k6) (e6:=k7) (h6:=k8) a30).len;generalize hJ k F=h at*;obtain⟨j9,a14⟩:=h;simp only at i W a30 a73 a34|-;have cO:=(l5 _ _ _ _ _ _ _ i).1;refine ak (fF @p @r @x @y @z @l7 @l8 @I (κ cO) @a52 @w) ?_;refine eQ (by simp[aY,σ,a34]) ς λb08 a15=>?_;have a16:=av.mono i (μ (Y:=.cells (flat [R.agg (ab j9 k6 k7 k8)])) θ a15);have a18:aB bB (T++[j9]) (M++[R.agg (ab j9 k6 k7 k8)]):=a04.snoc ⟨a30,a73,_,_,_,rfl⟩;have l3:(flat M).length=α T*37:=by rw[cU (a04.cells λ_ _=>Ξ),a04.len]
   have a05:(flat [R.agg (ab j9 k6 k7 k8)]).length=1*37:=by simp[flat,σ,a34]
   simp -dsimp -implicitDefEqProofs (disch:=first|omega|assumption|(simp only[aW,Nat.reduceAdd];try omega)) only[go_sem,simprocAttr,-List.reduceReplicate,p,r,x,y,z,l7,l8];refine fj a16 δ (nF a05) a05 (by rw[l3,a05];omega) (by rw[l3,a05];omega) λl4 b09 t=>?_;have a19:flat M++flat [R.agg (ab j9 k6 k7 k8)]=flat (M++[R.agg (ab j9 k6 k7 k8)]):=by simp[flat]
   rw[a19]at t;have cO:=(l5 _ _ _ _ _ _ _ t).1;have a27:=fQ t;refine ak (fF @p @r @x @y @z @l7 @l8 (χ cO) @a27 @a99 @N) ?_;refine⟨⟨l6+1,a14,T++[j9],_,l4,a03,δ,W,by simp[a71],a18,?_,ς⟩,δ⟩;have:=jW (Y:=.cells [.v (.int .u8 V.toNat),a,l4]) t (by rw[ο _ _ B,ξ]);rw[U.ef _ (Ι B),τ]at this;exact this
  .obtain rfl:l6=Z:=δ;rw[a9J]at W;obtain⟨b14,b15⟩:T=(fH (hJ k) l6 K []).1/\F=(fH (hJ k) l6 K []).2:=by rw[<-W];trivial
   rw[<-b14,<-b15];refine ak (bw @p @r @x @y @z @l7 @l8 @I) ?_;refine ah (DN _ _ o F (av.rs f).full) ?_;rintro c k4⟨l2,rfl⟩;obtain⟨a03,i⟩:=av.sZ f (a69 _) l2;clear f;have bw:=(l5 _ _ _ _ _ _ _ i).1;have aL:=(l5 _ _ _ _ _ _ _ i).2;have l9:gV O k4 ⟨V,S,T⟩ a P:=by
    refine⟨_,H,M,?_,i,a01,a04,by simp only;omega,by simp only;omega⟩;obtain⟨b16,a36⟩:=l;refine⟨λc u m=>?_,?_⟩
    .have n0:c≠o:=by rintro rfl;rw[n5]at m;cases m
     have a06:c≠G:=by rintro rfl;rw[a09]at m;cases m
     rw[ο _ _ n0,ο _ _ a06,U.eN _ n0];exact b16 _ _ (by rw[ο _ _ n0,ο _ _ a06];exact m)
    .rcases a36 with a36|⟨d,v,b17,n3,b18,n1,b31,b19⟩
     .exact .inl a36
     .have n0:d≠o:=by rintro rfl;rw[ξ]at n1;cases n1
      rw[ο _ _ n0]at n1;have a06:d≠G:=by grind
      rw[ο _ _ a06]at n1;exact .inr ⟨d,v,b17,n3,b18,n1,by grind[ο,U.eN],b19⟩
   have a38:=π a08 l9.sub;by_cases b:(pQ F).e=0
   .simp -dsimp -implicitDefEqProofs (disch:=first|omega|assumption|(simp only[aW,Nat.reduceAdd];try omega)) only[go_sem,simprocAttr,-List.reduceReplicate,p,r,x,y,z,b,κ bw,k1];obtain⟨a74,a81,a42⟩:=l9.L;refine ah (Eb ⟨V,S,T⟩ a74 a81 a P k a43 n2 k4 a42) ?_;rintro _ k4⟨rfl,rfl⟩;cases a83:dV k ⟨V,S,T⟩with
    |false=>refine ak (gq @p @r @x @y @z @b (χ aL) @k0 @k1 @N @w @a8i) ?_;grind[θ]
    |true=>
     refine ak (cO @p @r @x @y @z @b (κ bw) @k1 @a8c) ?_;refine ah (yg ⟨V,S,T⟩ a74 a81 a P k a43 n2 k4 a42) ?_;rintro q a84⟨a07,a86⟩;rw[sO,if_pos a83]at a86;obtain⟨b20,rfl⟩:=a86;replace l9:=l9.mono a07;replace a38:=π a38 a07;replace bw:=a07 _ _ bw;replace aL:=a07 _ _ aL;refine ak (bz @p @r @x @y @z @b) ?_;have a71:=yi n2 a83 λh b21=>(a42.kids.all h b21).1;refine ah (DW (cH ⟨V,S,T⟩) e b20 u a84 δ) ?_;rintro _ a84⟨rfl,rfl⟩;by_cases a88:cH ⟨V,S,T⟩=e
     .refine ak (gr @p @r @x @y @z @b @a88 (κ bw) (χ aL) @k0 @k1 @N @w @a8c) ?_;have:=l9.set (ob:=.cells [.v (.int .u8 V.toNat),a,P]) n4;refine⟨_,θ,a62 _ _ a38,?_⟩;exact⟨a,P,rfl,this.base (a62 _ _ a08)⟩
     .refine ak (gr @p @r @x @y @z @b @a88 (κ bw) (χ aL) @k0 @k1 @N @w @a8i) ?_;grind[θ]
   .refine ak (fF @p @r @x @y @z @b (χ aL) @k0 @k1 @N @w) ?_;grind[θ]
def Eh:∀(c:List (Ω×Bool))(a:gS),α a.aR.1<=8->α a.aR.2<=8->(c.foldl dW a).aR.1.length<=8/\(c.foldl dW a).aR.2.length<=8
 |[],a,h1,b=>⟨h1,b⟩
 |d::c,a,h1,b=>by
  rw[a7S];refine Eh c _ ?_ ?_<;>unfold dW<;>split
  .exact(oI _ _ 8 h1 b sY.1 sY.2).1
  .exact h1
  .exact(oI _ _ 8 h1 b sY.1 sY.2).2
  .exact b
def Ei:∀(b:List ao)(a:gS),(∀d∈b,d.hL)->α a.aR.1<=8->α a.aR.2<=8->(b.foldl eD a).aR.1.length<=8/\(b.foldl eD a).aR.2.length<=8
 |[],a,_,h1,c=>⟨h1,c⟩
 |d::b,a,hk,h1,c=>by
  rw[a7S];have:=hk d ς;exact Ei b _ (λh k=>hk h (by simp[k])) (oI _ _ 8 h1 c this.aT this.aS).1 (oI _ _ 8 h1 c this.aT this.aS).2
theorem vf(p:e<=8)(a:fP e b3=β A):α A.sum=32/\α A.aT<=8/\α A.aS<=8/\α A.key<=8:=by
 unfold fP at a;split at a
 .rename_i b;split at a
  .cases a
  .obtain rfl:=Δ a;obtain⟨x,_,_⟩:=kG b;have c:=vc p b;have d:=Eh b3.rows ⟨0,α b3.rows,([],[])⟩ ς ς;have h:=Ei b3.kids _ c d.1 d.2;refine⟨oF _,h.1,h.2,?_⟩;simp only[fr,keyOf];split
   .cases k:b3.rows with
    |nil=>simp
    |cons o r=>simp_all
   .split
    .cases k:b3.kids with
     |nil=>simp[az]
     |cons o r=>exact(c o (by rw[k];simp)).key
    .simp
 .cases a
def Ej(a:e<=8)(b:fP e b3=β A):A.cC:=by obtain⟨_,c,d,h⟩:=vf a b;exact⟨δ,δ,δ⟩
variable{B:af}
theorem bq.len(a:bq f e i B)(b:α w=32)(c:B.m w=β j4):α j4<=1000000000000:=by obtain⟨d,_,h⟩:=a.mp;grind
def de(d:af)(a:Nat)(b:ao):Option bY:=
 match d.m b.sum with
 |none=>ζ
 |some h=>match oC a h with
  |none=>ζ
  |some c=>if fP a c=β b then β c else ζ
theorem vg(x:U)(X k7:Nat)(W:af)(k8:bq x X k7 W)(c:ao)(e f g:Own)(v:α c.sum=32)(a27:W.m c.sum≠ζ->c.cC)(C:Nat)(k9:1<=C)(w:C<=8):
  AC γ 124 [.ptr X 0,.agg (ab c e f g),.v (.int .i64 (C:Int))] x λi G=>x.sub G/\match de W C c with
   |none=>i=.aJ [yj,.v (.int .i64 21)]
   |some D=>∃d h,i=.aJ [gU D d h,.v (.int .i64 0)]/\gV x G D d h:=by
 refine bd hm OU ς ?_;have a:∀l0,(R.agg l0).cells=l0:=λ_=>rfl;have k:∀L y P d h l1:R,putAt [L,y,P] 0 [d,h,l1]=[d,h,l1]:=λ_ _ _ _ _ _=>rfl;have p:∀L y P,aM η 3 [L,y,P]=.agg [L,y,P]:=λ_ _ _=>rfl;have o:∀L y P:R,[L,y,P].length=3:=λ_ _ _=>rfl;have Y:=aP (N:=e) (e6:=f) (h6:=g) v;have A:=Y.len;have B:=(aP (N:=.nil) (e6:=.nil) (h6:=.nil) bl).len;refine ak (c2 @a @A) ?_;refine aN λj a02=>?_;refine ak (c2 @a @A) ?_;refine aN λz H=>?_;have I:j≠z:=by rintro rfl;rw[ξ]at H;cases H
 have l2:x z=none:=by rw[ο _ _ (Ι I)]at H;exact H
 have a29:=Ι I;obtain⟨S,K⟩:∃S:U,S=(x.set j (.cells (ab c e f g))).set z (.cells [.v (.int .u8 0),.J [] .nil,.J [] .nil]):=⟨_,rfl⟩;have l3:x.sub S:=by rw[K];exact μ (μ θ a02) l2
 have aL:S j=β (.cells (ab c e f g)):=by rw[K,ο _ _ I,ξ]
 have bz:S z=β (.cells [.v (.int .u8 0),.J [] .nil,.J [] .nil]):=by rw[K,ξ]
 have Z:∀(G)(M),x.sub G->x.sub (G.set z M):=λG M a03=>μ a03 l2;have a04:R.agg (c.sum.map aj)=br c.sum:=rfl;simp -dsimp -implicitDefEqProofs (disch:=first|omega|assumption|(simp only[aW,Nat.reduceAdd];try omega)) only[go_sem,simprocAttr,-List.reduceReplicate,a,A,ο,I,ξ,Y.t32];rw[<-K,a04];refine ah (y7 S X k7 W (k8.mono l3) c.sum v) ?_;rintro i a05⟨j9,b⟩;have k0:=π l3 j9;have k1:=j9 _ _ bz;have a06:=j9 _ _ aL;unfold de;cases hm:W.m c.sum with
 |none=>rw[hm]at b;obtain rfl:=b;refine ak (bh @a (χ k1) @k @o @p) ?_;exact⟨_,θ,Z _ _ k0⟩
 |some y=>
  rw[hm]at b;obtain⟨M,rfl⟩:=b;refine ak @a ?_;refine ah (a0f y M C k9 w a05 (k8.len v hm)) ?_;rintro i l4⟨k2,b⟩;have a07:=π k0 k2;have l5:=k2 _ _ k1;have a08:=k2 _ _ a06;simp only;cases l6:oC C y with
  |none=>
   rw[l6]at b;obtain rfl:=b;refine ak (aE @a @k @o) ?_;refine aN λE l7=>?_;have k3:z≠E:=by grind
   have a09:=Ι k3;refine ak (cO @a @k @o @p @τ @ο @k3 @a09 (χ l5)) ?_;grind[θ,π,μ]
  |some D=>
   rw[l6]at b;obtain⟨d,h,rfl,T⟩:=b;simp -dsimp -implicitDefEqProofs (disch:=first|omega|assumption|(simp only[aW,Nat.reduceAdd];try omega)) only[go_sem,simprocAttr,-List.reduceReplicate,a,k,o,p];refine aN λE l7=>?_;have k3:z≠E:=by grind
   have a30:j≠E:=by grind
   obtain⟨l,k4⟩:∃l:U,l=l4.set E (.cells [.v (.int .u8 (D.kind.toNat)),d,h]):=⟨_,rfl⟩;have F:l4.sub l:=by rw[k4];exact μ θ l7
   have cg:l E=β (.cells [.v (.int .u8 (D.kind.toNat)),d,h]):=by rw[k4,ξ]
   refine ak (bh @a @k @o @p @τ) ?_;rw[<-k4];obtain⟨a10,a11,a13⟩:=(T.mono F).L;refine ah (Ec D a10 a11 d h C k9 w l a13) ?_;rintro i l8⟨l9,b⟩;replace F:=π F l9;replace T:=T.mono F;have N:=F _ _ l5;have n0:=F _ _ a08;have n1:=l9 _ _ cg;have a14:=π a07 F;cases m:fP C D with
   |none=>
    rw[m]at b;obtain rfl:=b;have a15:putAt (ab az .nil .nil .nil) 0 (ab az .nil .nil .nil)=ab az .nil .nil .nil:=cx bl bl;simp -dsimp -implicitDefEqProofs (disch:=first|omega|assumption|(simp only[aW,Nat.reduceAdd];try omega)) only[go_sem,simprocAttr,-List.reduceReplicate,a,k,o,p,ch,B];refine aN λV r=>?_;have O:z≠V:=by rintro rfl;rw[N]at r;cases r
    have n2:=Ι O;refine ak (gq @a @k @o @p @ch @B @a15 @τ @ο @O @n2 (χ N)) ?_;grind[θ,π,μ]
   |some n=>
    rw[m]at b;obtain⟨q,s,t,rfl⟩:=b;have k5:=(vf w m).1;have a16:=Ej w m;have n3:=aP (N:=q) (e6:=s) (h6:=t) k5;have n4:=n3.len;have n5:putAt (ab az .nil .nil .nil) 0 (ab n q s t)=ab n q s t:=cx bl k5;refine ak (bw @a @k @o @p @ch @B @n4 @n5) ?_;refine aN λV r=>?_;have O:z≠V:=by rintro rfl;rw[N]at r;cases r
    have n2:=Ι O;have a18:j≠V:=by rintro rfl;rw[n0]at r;cases r
    have a34:E≠V:=by rintro rfl;rw[n1]at r;cases r
    obtain⟨u,n9⟩:∃u:U,u=l8.set V (.cells (ab n q s t)):=⟨_,rfl⟩;have Q:l8.sub u:=by rw[n9];exact μ θ r
    refine ak (oq @a @k @o @p @ch @B @n4 @n5 @τ @ξ @ο @a18 n3.t37 Y.t37 (κ n0) @A) ?_;rw[<-n9];have a00:=Q _ _ N;have a01:=Q _ _ n1;have a19:=π a14 Q;replace T:=T.mono Q;refine ah (Ea n c q s t e f g u k5 v λ_=>a16) ?_;rintro _ u⟨rfl,rfl⟩;by_cases k6:n=c
    .refine ak (bw @a @k @o @p @k6 @a8c (κ a01) (χ a00)) ?_;have:=T.set (ob:=.cells [.v (.int .u8 (D.kind.toNat)),d,h]) k1;refine⟨_,θ,Z _ _ a19,?_⟩;simp only[m,k6,if_true];exact⟨d,h,rfl,this.base (Z _ _ k0)⟩
    .refine ak (bw @a @k @o @p @k6 @a8i (κ a01) (χ a00)) ?_;grind[θ]
theorem Ext.set{d h a:Nat}{b k:U}{ob:bu}(p:Ext d h b k)(r:b a=ζ):Ext d h b (k.set a ob):=λo x y z c=>by
 have C:o≠a:=by rintro rfl;rw[r]at c;cases c
 rw[ο _ _ C];exact p o x y z c
theorem a0g(b:U)(r G:Nat)(t:af)(e:bq b r G t)(a:bY)(u v:ύ)(L P:R)(o:Nat)(Y:1<=o)(g:o<=8)(w:fR b a L P u v):
  AC γ 93 [.ptr r 0,gU a L P,.v (.int .i64 (o:Int))] b λi x=>match fP o a with
   |none=>b.sub x/\i=.aJ [.agg (ab az .nil .nil .nil),.v (.int .i64 1)]
   |some A=>bq x r G (dA t (cH a))/\Ext r G b x/\∃l6 l7 l8,i=.aJ [.agg (ab A l6 l7 l8),.v (.int .i64 0)]:=by
 refine bd hm NX ς ?_;have c:∀Z,(R.agg Z).cells=Z:=λ_=>rfl;have j9:∀y z C,aM η 3 [y,z,C]=.agg [y,z,C]:=λ_ _ _=>rfl;have B:∀y z C:R,[y,z,C].length=3:=λ_ _ _=>rfl;have k0:∀y z C:R,List.take 3 [y,z,C]=[y,z,C]:=λ_ _ _=>rfl;have D:=(aP (N:=.nil) (e6:=.nil) (h6:=.nil) bl).len;have l9:=(aP (N:=.nil) (e6:=.nil) (h6:=.nil) bl).t37;have k1:putAt (ab az .nil .nil .nil) 0 (ab az .nil .nil .nil)=ab az .nil .nil .nil:=cx bl bl;refine ak (c2 @c @B) ?_;refine aN λj n0=>?_;refine ak (aE @c @ch @D) ?_;refine aN λd l=>?_;have H:j≠d:=by rintro rfl;rw[ξ]at l;cases l
 have E:b d=none:=by rw[ο _ _ (Ι H)]at l;exact l
 obtain⟨S,m⟩:∃S:U,S=(b.set j (.cells [.v (.int .u8 (a.kind.toNat)),L,P])).set d (.cells (ab az .nil .nil .nil)):=⟨_,rfl⟩;have k2:b.sub S:=by rw[m];exact μ (μ θ n0) E
 have aL:S j=β (.cells [.v (.int .u8 (a.kind.toNat)),L,P]):=by rw[m,ο _ _ H,ξ]
 have bz:S d=β (.cells (ab az .nil .nil .nil)):=by rw[m,ξ]
 have a04:∀(x)(k3),b.sub x->b.sub (x.set d k3):=λx k3 h=>μ h E;refine ak (cO @c @ch @D @B @j9 @k0 @ο @H @ξ) ?_;rw[<-m];refine ah (Ec a u v L P o Y g S (w.mono k2)) ?_;rintro i k4⟨I,F⟩;have k5:=π k2 I;have k6:=I _ _ aL;have n:=I _ _ bz;cases K:fP o a with
 |none=>
  rw[K]at F;obtain rfl:=F;simp -dsimp -implicitDefEqProofs (disch:=first|omega|assumption|(simp only[aW,Nat.reduceAdd];try omega)) only[go_sem,simprocAttr,-List.reduceReplicate,c,ch,D,k1];refine aN λp k=>?_;have k7:d≠p:=by rintro rfl;rw[n]at k;cases k
  have n1:=Ι k7;refine ak (cg @c @ch @D @k1 @l9 @τ @ο @k7 @n1 (χ n)) ?_;grind[θ,π,μ]
 |some q=>
  rw[K]at F;obtain⟨T,V,W,rfl⟩:=F;have k8:dV o a=true:=by grind[fP]
  have k9:=(vf g K).1;have l0:=aP (N:=T) (e6:=V) (h6:=W) k9;have M:=l0.len;have N:putAt (ab az .nil .nil .nil) 0 (ab q T V W)=ab q T V W:=cx bl k9;refine ak (bh @c @ch @D @M @N) ?_;refine aN λp k=>?_;have n2:j≠p:=by rintro rfl;rw[k6]at k;cases k
  have s:=Ο k5 k;have a05:d≠p:=by rintro rfl;rw[n]at k;cases k
  obtain⟨f,O⟩:∃f:U,f=k4.set p (.cells (ab q T V W)):=⟨_,rfl⟩;have l1:k4.sub f:=by rw[O];exact μ θ k
  have bw:f p=β (.cells (ab q T V W)):=by rw[O,ξ]
  refine ak (gq @c @ch @D @M @N @τ @ο @n2 (κ k6) @j9 @B @k0) ?_;rw[<-O];have l2:=π k5 l1;refine ah (yg a u v L P o Y g f (w.mono l2)) ?_;rintro i n3⟨Q,F⟩;rw[sO,if_pos k8]at F;obtain⟨n4,rfl⟩:=F;have l3:=π l2 Q;have a06:=yi g k8 λA n5=>(w.kids.all A n5).1;refine ak @c ?_;refine ah (uY n3 r G t (e.mono l3) (cH a) n4 δ) ?_;rintro _ a07⟨rfl,n9,X⟩;have l4:d≠r:=by rintro rfl;obtain⟨_,_,h⟩:=e.at_;rw[h]at E;cases E
  have l5:d≠G:=by rintro rfl;obtain⟨_,⟨_,_,h,_⟩,_⟩:=e.mp;rw[h]at E;cases E
  have a00:p≠r:=by rintro rfl;obtain⟨_,_,h⟩:=e.at_;rw[h]at s;cases s
  have a01:p≠G:=by rintro rfl;obtain⟨_,⟨_,_,h,_⟩,_⟩:=e.mp;rw[h]at s;cases s
  have a02:=X _ _ l4 l5 (Q _ _ (l1 _ _ n));have a03:=X _ _ a00 a01 (Q _ _ bw);refine ak (c7 @c (κ a03) (χ a02) l0.t37 @M @D @N) ?_;refine⟨_,θ,n9.other (ο _ _ (Ι l4)) (ο _ _ (Ι l5)),?_,T,V,W,rfl⟩;exact((Α l3).trans X).set E
end Go.Proofs.YtcfpcblgmmeioaaGreat
namespace Go.a1
def val:List Bool->Nat
 |[]=>0
 |b::a=>(if b then 2^α a else 0)+val a
theorem nG:∀a:List Bool,val a<2^α a
 |[]=>by simp[val]
 |b::a=>by
  have:=nG a;simp only[val,a7s,aaS];split<;>omega
def lexB:List Bool->List Bool->Bool
 |b::c,a::d=>if b=a then lexB c d else a
 |_,_=>ι
def pW:∀ {a b:List Bool},α a=α b->(val a<val b↔lexB a b=η)
 |[],[],_=>by trivial
 |d::a,h::b,k=>by
  have c:α a=α b:=by simpa using k
  have o:=nG a;have p:=nG b;simp only[val,lexB];rw[c]at o|-;cases d<;>cases h<;>simp[<-pW c]<;>omega
theorem val_inj:∀ {a b:List Bool},α a=α b->val a=val b->a=b
 |[],[],_,_=>rfl
 |h::a,k::b,o,c=>by
  have d:α a=α b:=by simpa using o
  have p:=nG a;have r:=nG b;simp only[val]at c;rw[d]at p c;have:h=k:=by grind
  subst this;rw[val_inj d δ]
theorem Ek{b c a d:List Bool}(h:α b=α a):lexB (b++c) (a++d)=if b=a then lexB c d else lexB b a:=by
 induction b generalizing a with
 |nil=>grind
 |cons k b ih=>
  match a,h with
  |o::a,h=>grind[lexB]
def fT(a:ϋ)(b:Nat):List Bool:=a.map (·.testBit b)
def cj(a:ϋ):Nat->List Bool
 |0=>[]
 |b+1=>fT a b++cj a b
def El(b:ϋ):∀a,(cj b a).length=α b*a
 |0=>by rfl
 |a+1=>by simp[cj,fT,El b a,Nat.mul_succ];omega
def pick(b:(Nat×Nat)×Nat)(a:Nat×Nat):(Nat×Nat)×Nat:=
 if b.2<a.1^^^a.2/\b.2<b.2^^^(a.1^^^a.2)then(a,a.1^^^a.2)else b
variable{e i v M b9 j1:Nat}
def a0h(a:i<2^e)(b:v<2^e):i^^^v<2^e:=a9U a b
def vh(a:e.testBit i=η):2^i<=e:=Nat.ge_two_pow_of_testBit a
theorem ta(a:e<2^(i+1))(b:e.testBit i=ι):e<2^i:=by grind[Nat.lt_pow_two_of_testBit,Nat.testBit_lt_two_pow,Nat.lt_of_lt_of_le,Nat.pow_le_pow_right]
def Em{c:Nat}:∀(d:List (Nat×Nat))(b:(Nat×Nat)×Nat),b.2.testBit c=η->b.2<2^(c+1)->(∀a∈d,a.1^^^a.2<2^(c+1))->d.foldl pick b=b
 |[],b,_,_,_=>rfl
 |a::d,b,k,o,p=>by
  have h:=p a ς;have:pick b a=b:=by
   simp only[pick];rw[if_neg];rintro⟨x,y⟩;have z:=vh k;cases cr:(a.1^^^a.2).testBit c with
   |false=>have:=ta h cr;omega
   |true=>
    have r:(b.2^^^(a.1^^^a.2)).testBit c=false:=by rw[aax,k,cr];rfl
    have:=ta (a0h o h) r;omega
  rw[a7S,this];exact Em d b k o (λa h=>p a (by simp[h]))
theorem a0i{b:(Nat×Nat)×Nat}{a:Nat×Nat}(c:b.2<2^e)(d:(a.1^^^a.2).testBit e=η):pick b a=(a,a.1^^^a.2):=by simp only[pick];refine if_pos ⟨a8z c (vh d),a8z c (vh ?_)⟩;grind[Nat.testBit_lt_two_pow]
theorem En(b:i.testBit e=ι)(c:v.testBit e=η)(d:∀a,e<a->i.testBit a=v.testBit a):i<v:=by
 have h:i>>>(e+1)=v>>>(e+1):=a9O λa=>by
  grind
 have k:i%2^(e+1)<2^e:=ta (a9t _ (Nat.two_pow_pos _)) (by grind);have o:2^e<=v%2^(e+1):=vh (by grind);grind[Nat.div_add_mod,Nat.shiftRight_eq_div_pow]
theorem a0j(o:i^^^v<2^(e+1))(b:i.testBit e≠v.testBit e):i<v↔v.testBit e=true:=by
 have h:∀a,e<a->i.testBit a=v.testBit a:=λa k=>by
  have p:(i^^^v).testBit a=false:=a9r (a8z o (a9e δ δ));simp_all
 cases c:v.testBit e with
 |true=>
  have d:i.testBit e=false:=by rw[c]at b;simpa using b
  simp only[iff_true];exact En d c h
 |false=>
  have d:i.testBit e=true:=by rw[c]at b;simpa using b
  have:=En c d (λa k=>(h a k).symm);grind
theorem Eo(a:Nat):∀(b c:ϋ),α b=α c->(∀h∈b.zip c,h.1^^^h.2<2^(a+1))->fT b a≠fT c a->∀o:(Nat×Nat)×Nat,o.2<2^a->
  (((b.zip c).foldl pick o).1.1<((b.zip c).foldl pick o).1.2↔lexB (fT b a) (fT c a)=η)
 |[],[],_,_,x,_,_=>absurd rfl x
 |p::b,r::c,E,y,z,o,C=>by
  have F:α b=α c:=by simpa using E
  have d:=y (p,r) ς;simp only[List.zip_cons_cons,a7S,fT,a7C,lexB]at z|-;by_cases k:p.testBit a=r.testBit a
  .rw[if_pos k];have G:(p^^^r).testBit a=false:=by rw[aax,k];simp
   refine Eo a b c F (λh d=>y h (by simp[d])) (λx=>z ?_) _ ?_
   .rw[k];exact congrArg _ x
   .simp only[pick];split
    .exact ta d G
    .exact C
  .rw[if_neg k];have D:(p^^^r).testBit a=true:=by simp_all
   rw[a0i C D,Em _ _ D d (λh d=>y h (by simp[d]))];exact a0j d k
theorem a0k{b c:ϋ}(r:α b=α c)(k:∀a∈b.zip c,a.1^^^a.2<2^(e+1))(o:fT b e=fT c e):∀a∈b.zip c,a.1^^^a.2<2^e:=by
 intro a d;refine ta (k a d) ?_;obtain⟨h,p,rfl⟩:=a8a d;simp only[List.length_zip]at p;have x:(fT b e)[h]?=(fT c e)[h]? :=by rw[o]
 grind[fT,List.getElem?_eq_getElem,Option.some.injEq]
theorem Ep:∀(d:Nat)(b c:ϋ),α b=α c->(∀h∈b.zip c,h.1^^^h.2<2^d)->∀a:Nat×Nat,a∈b.zip c->
  (((b.zip c).foldl pick (a,0)).1.1<((b.zip c).foldl pick (a,0)).1.2↔lexB (cj b d) (cj c d)=η)
 |0,b,c,o,p,a,r=>by
  have:∀(k:List (Nat×Nat)),(∀h∈k,h.1^^^h.2<2^0)->k.foldl pick (a,0)=(a,0):=by
   intro k
   induction k with
   |nil=>intro _;rfl
   |cons h k ih=>simp_all [pick]
  rw[this _ p];have z:=p a r;have x:a.1=a.2:=a9O λy=>by
   have C:(a.1^^^a.2).testBit y=false:=by simp_all
   grind
  simp[cj,lexB,x]
 |d+1,b,c,o,p,a,r=>by
  simp only[cj];rw[Ek (by simp[fT,o])];by_cases he:fT b d=fT c d
  .rw[if_pos he];exact Ep d b c o (a0k o p he) a r
  .rw[if_neg he];grind[Eo,Nat.two_pow_pos]
theorem a0l{c d:ϋ}(p:α c=α d):∀a,cj c a=cj d a->(∀h∈c,h<2^a)->(∀h∈d,h<2^a)->c=d:=by
 intro a r y z;have x:∀a,cj c a=cj d a->∀b,b<a->fT c b=fT d b:=by
  intro a
  induction a with
  |zero=>intro _ b k;omega
  |succ a ih=>grind[cj,List.append_inj,fT]
 refine aaT p λo C D=>a9O λb=>?_;by_cases k:b<a
 .have E:(fT c b)[o]?=(fT d b)[o]? :=by rw[x a r b k]
  grind[fT,List.getElem?_eq_getElem]
 grind[Nat.lt_of_lt_of_le,List.getElem_mem,Nat.pow_le_pow_right,Nat.testBit_lt_two_pow]
def iT:Nat->List Bool->ϊ
 |0,_=>[]
 |b+1,a=>ν (val (a.take 8))::iT b (a.drop 8)
def Er:∀(a:Nat)(b:List Bool),(iT a b).length=a
 |0,_=>rfl
 |a+1,b=>by simp[iT,Er a]
def tb:ϊ->ϊ->Bool
 |a::c,b::d=>if a=b then tb c d else decide (a<b)
 |_,_=>ι
theorem a0m(b:e<256)(c:i<256)(a:ν e=ν i):e=i:=by have:=congrArg UInt8.toNat a;grind[UInt8.toNat_ofNat',Nat.mod_eq_of_lt]
theorem Es:∀(c:Nat)(a b:List Bool),α a=8*c->α b=8*c->tb (iT c a) (iT c b)=lexB a b
 |0,a,b,d,r=>by
  obtain rfl:=a7t (by simpa using d);obtain rfl:=a7t (by simpa using r);rfl
 |c+1,a,b,x,hm=>by
  have h:(a.take 8).length=8:=Μ;have k:(b.take 8).length=8:=Μ;have o:val (a.take 8)<256:=by grind[nG]
  have p:val (b.take 8)<256:=by grind[nG]
  have ih:=Es c (a.drop 8) (b.drop 8) Μ Μ
  conv=>rhs;rw[<-a7V 8 a,<-a7V 8 b]
  rw[Ek (h.trans k.symm)];simp only[iT,tb];by_cases he:a.take 8=b.take 8
  .rw[he];simp[ih]
  .rw[if_neg he,if_neg (λd=>he (val_inj (h.trans k.symm) (a0m o p d)))];have:=pW (h.trans k.symm);have y:ν (val (a.take 8))<ν (val (b.take 8))↔val (a.take 8)<val (b.take 8):=by rw[UInt8.lt_iff_toNat_lt];simp[a9d o,a9d p]
   simp_all
def a0n{b a c:List Bool}(d:α b=α a)(h:α a=α c)(k:lexB b a=η)(o:lexB a c=η):lexB b c=true:=by rw[<-pW d]at k;rw[<-pW h]at o;rw[<-pW (d.trans h)];omega
theorem a0o{a b:List Bool}(c:α a=α b)(d:lexB a b=ι)(h:lexB b a=ι):a=b:=by refine val_inj c ?_;have k:=pW c;have o:=pW c.symm;grind
end Go.a1
namespace Go.Proofs.YtcfpcblgmmeioaaGreat
open Go Go.bD
variable{e i v M b9 j1:Nat}
theorem Et(b:e<18446744073709551616)(c:i<18446744073709551616):bt .xor (.int .u64 (e:Int)) (.int .u64 (i:Int))=β (.int .u64 ((e^^^i:Nat):Int)):=by
 have d:bt .xor (.int .u64 (e)) (.int .u64 (i))=β (.int .u64 (IntKind.u64.wrap (ρ 64 (e)^^^ρ 64 (i)).toNat)):=rfl;have h:∀a:Nat,a<18446744073709551616->(ρ 64 (a)).toNat=a:=λa k=>by simp;omega
 grind[Nat.xor_lt_two_pow,BitVec.toNat_xor,wrap_u64]
def oJ(a:Int):cq a<18446744073709551616:=(ρ 64 a^^^ρ 64 9223372036854775808).isLt
def Eu(b:Int)(a:U):AC γ 154 [.v (.int .i64 b)] a λc d=>d=a/\c=.v (.int .u64 (cq b:Int)):=by refine bd hm PE ς ?_;refine ak @DB ?_;exact⟨a,θ,rfl⟩
def a0p(a:Int)(b:U):AC γ 153 [.v (.int .i64 a)] b λd h=>h=b/\d=.v (.bool (decide (1<=a)&&decide (a<=8))):=by
 refine bd hm PC ς ?_;by_cases c:1<=a
 .refine ak @c ?_;exact⟨b,θ,by simp[]⟩
 .refine ak @c ?_;exact⟨b,θ,by simp[]⟩
def gW(b:(Int×Int)×Nat)(a:Int×Int):(Int×Int)×Nat:=
 if b.2<cq a.1^^^cq a.2/\b.2<b.2^^^(cq a.1^^^cq a.2)then(a,cq a.1^^^cq a.2)else b
def bC(a b:Ω):Bool:=
 if 1<=α a/\α a<=8/\α b=α a then
  decide (((a.zip b).foldl gW ((a.zip b).headD (0,0),0)).1.1<((a.zip b).foldl gW ((a.zip b).headD (0,0),0)).1.2)
 else ι
theorem yk(a c:Ω)(l m:Own)(E:U):
  AC γ 92 [.J (ad a) l,.J (ad c) m] E λM P=>P=E/\M=.v (.bool (bC a c)):=by
 refine bd hm NV ς ?_;have D:=bN (q:=a);have S:=bN (q:=c);refine ak @D ?_;refine ah (a0p _ _) ?_;rintro _ E⟨rfl,rfl⟩;unfold bC;by_cases h1:1<=α a/\α a<=8
 .have n:(1:Int)<=α a:=δ;have q:(α a:Int)<=8:=δ;by_cases s:(α c:Int)=α a
  .have T:α c=α a:=δ;rw[if_pos ⟨h1.1,h1.2,T⟩];refine ak (bz @D @S @n @q @s @a8c) ?_;have k0:(a.zip c).length=α a:=by simp[T]
   have t:∀b,b<α a->∃d,(a.zip c)[b]?=β d/\a[b]?=β d.1/\c[b]?=β d.2:=λb N=>by
    simp_all
   obtain⟨F,G,O,Q⟩:=t 0 δ;have X:(a.zip c).headD (0,0)=F:=by
    cases u:a.zip c with
    |nil=>rw[u]at G;cases G
    |cons k1 k2=>rw[u]at G;simpa using G
   rw[X];refine cm (λk P=>∃(b o:Nat)(h:(Int×Int)×Nat),b<=α a/\o<α a/\P=E/\h=((a.zip c).take b).foldl gW (F,0)/\h.2<18446744073709551616/\a[o]?=β h.1.1/\c[o]?=β h.1.2/\
     k 0=.J (ad a) l/\k 1=.J (ad c) m/\k 5=.v (.int .i64 o)/\k 6=.v (.int .u64 h.2)/\k 21=.v (.int .i64 (α a))/\k 22=.v (.int .i64 b))
    (λk _=>match k 22 with|.v (.int _ Y)=>α a - Y.toNat|_=>0) ⟨0,0,(F,0),δ,δ,rfl,ς,ς,O,Q,?_⟩ ?_
   .exact cf @D
   rintro k v⟨b,o,h,N,w,rfl,V,L,W,e,p,r,x,y,z,C⟩;by_cases f:(b:Int)<α a
   .obtain⟨d,Z,A,B⟩:=t b δ;have j9:((a.zip c).take (b+1)).foldl gW (F,0)=gW h d:=by rw[a8r,Z,a9g,<-V];rfl
    simp -dsimp -implicitDefEqProofs (disch:=first|omega|assumption|(simp only[aW,Nat.reduceAdd];try omega)) only[go_sem,simprocAttr,-List.reduceReplicate,p,r,x,y,z,C,f,gz A,gz B,oG];refine ah (Eu d.1 _) ?_;rintro _ v⟨rfl,rfl⟩;simp -dsimp -implicitDefEqProofs (disch:=first|omega|assumption|(simp only[aW,Nat.reduceAdd];try omega)) only[go_sem,simprocAttr,-List.reduceReplicate,p,r,x,y,z,C,f,gz A,gz B,oG];refine ah (Eu d.2 _) ?_;rintro _ v⟨rfl,rfl⟩;have H:cq d.1^^^cq d.2<18446744073709551616:=a9U (n:=64) (oJ _) (oJ _);have k3:h.2^^^(cq d.1^^^cq d.2)<18446744073709551616:=a9U (n:=64) L H;have g:=Et (oJ d.1) (oJ d.2);have i:=Et L H;rw[gW]at j9;generalize cq d.1^^^cq d.2=I at*;by_cases j:(h.2)<(I:Int)
    .by_cases K:(h.2)<((h.2^^^I):Int)
     .simp -dsimp -implicitDefEqProofs (disch:=first|omega|assumption|(simp only[aW,Nat.reduceAdd];try omega)) only[go_sem,simprocAttr,-List.reduceReplicate,p,r,x,y,z,C,g,i,j,K];grind
     .simp -dsimp -implicitDefEqProofs (disch:=first|omega|assumption|(simp only[aW,Nat.reduceAdd];try omega)) only[go_sem,simprocAttr,-List.reduceReplicate,p,r,x,y,z,C,g,i,j,K];refine⟨⟨b+1,o,h,δ,w,?_,L,W,e,?_⟩,δ⟩
      .grind
      .simp
    .simp -dsimp -implicitDefEqProofs (disch:=first|omega|assumption|(simp only[aW,Nat.reduceAdd];try omega)) only[go_sem,simprocAttr,-List.reduceReplicate,p,r,x,y,z,C,g,i,j];refine⟨⟨b+1,o,h,δ,w,?_,L,W,e,?_⟩,δ⟩
     .grind
     .simp
   .obtain rfl:b=α a:=δ;rw[Φ δ]at V;simp -dsimp -implicitDefEqProofs (disch:=first|omega|assumption|(simp only[aW,Nat.reduceAdd];try omega)) only[go_sem,simprocAttr,-List.reduceReplicate,p,r,x,y,z,C,f,gz W,gz e,oG];exact⟨_,θ,rfl,by rw[V]⟩
  .have T:¬α c=α a:=δ;refine ak (bz @D @S @n @q @s @a8c) ?_;exact⟨_,θ,rfl,by simp_all⟩
 .have:(decide ((1:Int)<=α a)&&decide ((α a:Int)<=8))=false:=by grind
  refine ak (aL @D @S @this @a8i) ?_;exact⟨_,θ,rfl,by grind⟩
def kJ(a b:Ω):Int:=if bC a b=η then -1 else if bC b a=η then 1 else 0
def yl(a b:Ω)(d h:Own)(c:U):
  AC γ 47 [.J (ad a) d,.J (ad b) h] c λk o=>o=c/\k=.v (.int .i64 (kJ a b)):=by
 refine bd hm Mt ς ?_;refine bU ?_;refine ah (yk a b d h c) ?_;rintro _ c⟨rfl,rfl⟩;unfold kJ;cases h1:bC a b with
 |true=>refine bU ?_;exact⟨_,θ,rfl⟩
 |false=>
  refine bU ?_;refine ah (yk b a h d c) ?_;rintro _ c⟨rfl,rfl⟩;cases p:bC b a with
  |true=>refine bU ?_;exact⟨_,θ,rfl⟩
  |false=>refine bU ?_;exact⟨_,θ,rfl⟩
end Go.Proofs.YtcfpcblgmmeioaaGreat
namespace Go.a1
variable{b0:Type}
def eE:Nat->List b0->List (List b0)
 |0,_=>[]
 |b+1,a=>a.take (α a/(b+1)+if 0<α a%(b+1)then 1 else 0)::eE b (a.drop (α a/(b+1)+if 0<α a%(b+1)then 1 else 0))
def bT(a:Nat):Nat:=(a+3)/4
def chunks(a:List b0):List (List b0):=eE (bT (α a)) a
theorem Ev:∀(a:Nat)(b:List b0),eE a b=(ω a).map λh=>(b.drop (h*(α b/a)+min h (α b%a))).take (α b/a+if h<α b%a then 1 else 0)
 |0,b=>rfl
 |a+1,b=>by
  have y:=aab (α b) (a+1);have z:=a9t (α b) (aby a);simp only[eE];generalize C:α b/(a+1)=d at*;generalize D:α b%(a+1)=c at*;rw[Ev a,ab8,a7C,a9s];congr 1
  .simp
  .by_cases p:a=0
   .subst p;simp
   have k:(b.drop (d+if 0<c then 1 else 0)).length=d*a+(c - if 0<c then 1 else 0):=by grind
   have o:c -(if 0<c then 1 else 0)<a:=by split<;>omega
   have r:(b.drop (d+if 0<c then 1 else 0)).length/a=d:=by rw[k,abx,Nat.mul_add_div δ,Nat.div_eq_of_lt o];rfl
   have x:(b.drop (d+if 0<c then 1 else 0)).length%a=c - if 0<c then 1 else 0:=by rw[k,abx,Nat.mul_add_mod,a9d o]
   rw[r,x];refine a8W λh E=>?_;simp only[Function.comp,a8d];grind
def Ew:∀(a:Nat)(b:List b0),(0<a\/b=[])->(eE a b).flatten=b
 |0,b,c=>by rcases c with c|c;(·omega);(·subst c;rfl)
 |a+1,b,_=>by
  simp only[eE,a9f];rw[Ew a,a7V];by_cases d:a=0
  .right;subst d;simp
  .left;omega
def chunks_flatten(a:List b0):(chunks a).flatten=a:=Ew _ _ (by
 cases a with
 |nil=>simp
 |cons b a=>left;simp only[bT,a7s];omega)
theorem oK{a:List b0}(b:1<=α a)(c:α a<=4):chunks a=[a]:=by
 have:bT (α a)=1:=by unfold bT;omega
 simp[chunks,this,eE,Nat.mod_one]
theorem tc{a:List b0}(b:α a=5):chunks a=[a.take 3,a.drop 3]:=by simp_all [bT,chunks,eE,Φ]
abbrev Row:=Ω
structure ym where
 rows:List Row
structure yn(a:Type) where
 kids:List a
def T:Nat->Type
 |0=>ym
 |a+1=>yn (T a)
def leaf(a:List Row):T 0:=ym.mk a
variable{e i v M b9 j1:Nat}
def node(a:List (T e)):T (e+1):=yn.mk a
def rows(a:T 0):List Row:=ym.rows a
def kids{a:Nat}(b:T (a+1)):List (T a):=yn.kids b
variable{j0:List Row}
theorem ri:rows (leaf j0)=j0:=rfl
theorem fs{a:List (T e)}:kids (node a)=a:=rfl
def ir(a:T 0):∃b,a=leaf b:=⟨rows a,rfl⟩
def gA(a:T (e+1)):∃b,a=node b:=⟨kids a,rfl⟩
def len: {b:Nat}->T b->Nat
 |0,a=>(rows a).length
 |_+1,a=>(kids a).length
def bc:(a:Nat)->T a->List Row
 |0,b=>rows b
 |a+1,b=>(kids b).flatMap (bc a)
theorem hM:len (leaf j0)=α j0:=rfl
def dN{a:List (T e)}:len (node a)=α a:=rfl
theorem jt:bc 0 (leaf j0)=j0:=rfl
theorem fU{a:List (T e)}:bc (e+1) (node a)=a.flatMap (bc e):=rfl
theorem Ex(a:List Row):((chunks a).map leaf).flatMap (bc 0)=a:=by
 conv=>rhs;rw[<-chunks_flatten a]
 rw[aan,a9s];congr 1;exact List.map_id _
theorem Ey(a:List (T e)):((chunks a).map node).flatMap (bc (e+1))=a.flatMap (bc e):=by
 conv=>rhs;rw[<-chunks_flatten a]
 induction chunks a with
 |nil=>rfl
 |cons b c ih=>rw[a7C,a7P,ih,a9f,a8f];rfl
def WF:(b:Nat)->T b->Prop
 |0,a=>2<=len a/\len a<=4
 |b+1,a=>2<=len a/\len a<=4/\∀c∈kids a,WF b c
def lE:(a:Nat)->T a->Prop
 |0,_=>True
 |a+1,b=>∀c∈kids b,WF a c
theorem hi{a:T e}:WF e a↔2<=len a/\len a<=4/\lE e a:=by
 cases e with
 |zero=>simp[WF,lE]
 |succ e=>rfl
def jX(b:Nat)(a:T b):Prop:=1<=len a/\len a<=4/\lE b a/\(0<b->2<=len a)
theorem jX.of{a:T e}(b:WF e a):jX e a:=by have:=hi.1 b;exact⟨δ,this.2.1,this.2.2,λ_=>this.1⟩
def yo:∀ {a:T e},1<=len a->lE e a->bc e a≠[]:=by
 induction e with
 |zero=>intro a c _ b;obtain⟨d,rfl⟩:=ir a;rw[jt]at b;subst b;trivial
 |succ e ih=>
  intro a c h b;obtain⟨d,rfl⟩:=gA a;rw[dN]at c
  match d,c with
  |k::d,_=>rw[fU,a7P]at b;have o:=hi.1 (h k a9k);exact ih δ o.2.2 (List.append_eq_nil_iff.1 b).1
def cP(a:Nat)(b:T a):Row:=(bc a b).headD []
section
variable(lt:Row->Row->Bool)
structure Ord(ok:Row->Prop):Prop where
 jY:∀p,lt p p=ι
 trans:∀p a r,ok p->ok a->ok r->lt p a=η->lt a r=η->lt p r=η
 total:∀p a,ok p->ok a->lt p a=ι->lt a p=ι->p=a
def cS(a:Row):List Row->Nat
 |_::b::c=>if lt a b then 0 else cS a (b::c)+1
 |_=>0
def dX(c:List Row)(a:Row):List Row:=c.takeWhile (λb=>lt b a)++a::c.dropWhile (λb=>lt b a)
def eY(c:Row):(b:Nat)->T b->List (T b)
 |0,a=>(chunks (dX lt (rows a) c)).map leaf
 |b+1,a=>
  match(kids a)[cS lt c ((kids a).map (cP b))]? with
  |some d=>(chunks ((kids a).take (cS lt c ((kids a).map (cP b)))++eY c b d++(kids a).drop (cS lt c ((kids a).map (cP b))+1))).map node
  |none=>[]
def kK: {a:Nat}->T a->T a->List (T a)
 |0,b,c=>(chunks (rows b++rows c)).map leaf
 |_+1,b,c=>(chunks (kids b++kids c)).map node
def lF(b:List (T e))(a:Nat)(c:T e):List (T e):=
 if 2<=len c then b.set a c
 else match b[if a=0 then 1 else a - 1]? with
  |some d=>b.take (a - 1)++(if a=0 then kK c d else kK d c)++b.drop (a - 1+2)
  |none=>[]
def cK(c:Row):(b:Nat)->T b->T b
 |0,a=>leaf ((rows a).filter λd=>decide (d≠c))
 |b+1,a=>
  match(kids a)[cS lt c ((kids a).map (cP b))]? with
  |some h=>node (lF (kids a) (cS lt c ((kids a).map (cP b))) (cK c b h))
  |none=>a
end
theorem Ez(c:2<=α j0)(d:α j0<=5):(∀b∈(chunks j0).map leaf,WF 0 b)/\1<=(chunks j0).length/\(chunks j0).length<=2/\(α j0<=4->(chunks j0).length=1):=by
 by_cases a:α j0=5
 .rw[tc a];simp[WF,a,hM]
 .rw[oK δ δ];simp only[a7C,a8K,a7I,forall_eq,a8Q,WF,hM];grind
theorem EA{a:List (T e)}(d:2<=α a)(h:α a<=5)(k:∀b∈a,WF e b):(∀b∈(chunks a).map node,WF (e+1) b)/\1<=(chunks a).length/\(chunks a).length<=2/\(α a<=4->(chunks a).length=1):=by
 by_cases c:α a=5
 .rw[tc c];simp only[a7C,a8K,a7J,a8J,or_false,forall_eq_or_imp,forall_eq,a7s,a7x,WF,dN,fs];grind
 .rw[oK δ δ];simp only[a7C,a8K,a7I,forall_eq,a8Q,WF,dN,fs];grind
variable{h4:Row}
section
variable{lt:Row->Row->Bool}{ok:Row->Prop}
abbrev hj(a:Row->Row->Bool)(b:List Row):Prop:=b.Pairwise λc d=>a c d=η
theorem yp{a:List Row}(c:∀b∈j0,lt b h4=η):dX lt (j0++a) h4=j0++dX lt a h4:=by unfold dX;simp_all
theorem a0q{b:List Row}(h:∀a∈j0,lt a h4=ι):dX lt (b++j0) h4=dX lt b h4++j0:=by
 have c:j0.takeWhile (λa=>lt a h4)=[]/\j0.dropWhile (λa=>lt a h4)=j0:=by
  cases j0 with
  |nil=>trivial
  |cons k j0=>simp_all
 induction b with
 |nil=>simp[dX,c.1,c.2]
 |cons d b ih=>unfold dX at ih|-;by_cases bZ:lt d h4=η;simp_all;simp_all
theorem td{a:Row}:h4∈dX lt j0 a↔h4=a\/h4∈j0:=by grind[dX,List.takeWhile_append_dropWhile]
theorem oL:(dX lt j0 h4).length=α j0+1:=by unfold dX;have:=congrArg α (a8h (p:=λa=>lt a h4) (l:=j0));grind
def a0r(p:Ord lt ok)(r:hj lt j0)(h:∀c∈j0,ok c)(x:ok h4)(y:h4∉j0):hj lt (dX lt j0 h4):=by
 induction j0 with
 |nil=>simp[dX]
 |cons a j0 ih=>
  have k:=a7X.1 r;have ih:=ih k.2 (λc b=>h c (by simp[b])) (λo=>y (by simp[o]));by_cases bZ:lt a h4=η
  .have d:dX lt (a::j0) h4=a::dX lt j0 h4:=yp (j0:=[a]) (by simpa using bZ);rw[d];refine a7X.2 ⟨λc b=>?_,ih⟩;rcases td.1 b with rfl|b
   .exact bZ
   .exact k.1 c b
  .have d:dX lt (a::j0) h4=h4::a::j0:=by simp[dX,bZ]
   rw[d];have z:lt h4 a=true:=by
    cases o:lt h4 a with
    |true=>rfl
    |false=>exact absurd (p.total h4 a x (h a ς) o (by simpa using bZ)) (λd=>y (by simp[d]))
   refine a7X.2 ⟨λc b=>?_,r⟩;rcases a7J.1 b with rfl|b
   .exact z
   .exact p.trans h4 a c x (h a ς) (h c (by simp[b])) z (k.1 c b)
theorem EB(p:Ord lt ok){d:Row}(r:ok d):∀(h:List (List Row)),h≠[]->(∀D∈h,D≠[])->hj lt h.flatten->(∀a∈h.flatten,ok a)->
  cS lt d (h.map (·.headD []))<α h/\(∀a∈(h.take (cS lt d (h.map (·.headD [])))).flatten,lt a d=η)/\(∀a∈(h.drop (cS lt d (h.map (·.headD []))+1)).flatten,lt d a=η)
 |[],V,_,_,_=>absurd rfl V
 |[W],_,_,_,_=>by simp[cS]
 |W::k::x,_,e,m,y=>by
  simp only[a7C,cS];obtain⟨c,z,C⟩:∃c z,k=c::z:=by
   cases C:k with
   |nil=>simp_all
   |cons c z=>simp
  have G:k.headD []=c:=by rw[C];rfl
  have E:=y c (by simp[C]);have F:hj lt (k::x).flatten:=by grind
  rw[G];by_cases o:lt d c=η
  .rw[if_pos o];refine⟨ς,ς,λa b=>?_⟩;simp only[a8G,a8O]at b;have f:(k::x).flatten=c::(z++x.flatten):=by rw[C];rfl
   rw[f]at b F;rcases a7J.1 b with rfl|b
   .exact o
   .refine p.trans d c a r E (y a ?_) o ((a7X.1 F).1 a b);simp_all
  .rw[if_neg o];have ih:=EB p r (k::x) ς (λD L=>e D (by simp at L|-;exact .inr L)) F (λa b=>y a (by simp_all));simp only[a7C,G]at ih;obtain⟨g,i,j⟩:=ih;refine⟨by simp at g|-;omega,λa b=>?_,λa b=>j a (by trivial)⟩;simp only[aaa,a9f,a7z]at b;rcases b with b|b
   .
    have P:lt a c=true:=by grind
    by_cases S:c=d
    .rw[<-S];exact P
    .have l:=y a (by simp[b]);cases T:lt c d with
     |true=>exact p.trans a c d l E r P T
     |false=>exact absurd (p.total c d E r T (by simpa using o)) S
   .exact i a b
end
end Go.a1
namespace Go.Proofs.YtcfpcblgmmeioaaGreat
open Go Go.bD
variable{b4:FuncId}{g H c0:ύ}
theorem a0s(a:List Ω)(z:ύ)(k:R)(d:U)(C:aB isRow a z)(D:bO d 1 k z)(u:α a<=1000000000000){h:Ω->Bool}(E:hg isRow d b4 g H h):
  AC γ 142 [k,.bG b4 g H] d λe o=>o=d/\∃F:Int,e=.v (.int .i64 F)/\decide (0<=F)=a.any h:=by
 refine bd hm Pv ς ?_;have f:=C.len;have i:=D.len;rw[f]at i;refine aa ?_;refine cm (λc o=>∃b:Nat,b<=α a/\o=d/\c 0=k/\c 1=.bG b4 g H/\c 7=.v (.int .i64 (α a))/\c 8=.v (.int .i64 b)/\(a.take b).any h=ι)
  (λc _=>match c 8 with|.v (.int _ j)=>α a - j.toNat|_=>0) ⟨0,δ,rfl,?_⟩ ?_
 .refine aa ?_;simp
 rintro c p⟨b,v,rfl,G,L,P,S,T⟩;by_cases V:(b)<(α a:Int)
 .have r:a[b]?=β a[b]:=Ρ δ;have l:a.take (b+1)=a.take b++[a[b]]:=by rw[a8r,r];rfl
  have m:a[b]'δ∈a:=a7O _;generalize a[b]'δ=W at r l m;obtain⟨x,n,y⟩:=C.get r;obtain⟨q,w,s⟩:=D.get b x n;have A:cW ι 1 p q=β x:=by have t:=s.ld p θ ι 1 δ (by rw[φ y];omega);rw[t];obtain⟨B,rfl⟩:=y;rfl
  refine aa ?_;refine eR E.1 (E.2 W x _ y θ) ?_;rintro _ p⟨rfl,rfl⟩;cases I:h W with
  |true=>refine ak (bh @G @L @P @S @V) ?_;refine⟨_,θ,rfl,_,rfl,?_⟩;grind
  |false=>refine aa ?_;grind
 .obtain rfl:b=α a:=δ;refine ak (bh @G @L @P @S @V) ?_;rw[a7K]at T;exact⟨_,θ,rfl,_,rfl,by rw[T];simp⟩
def EC(b:List Ω)(c:ύ)(d:R)(a:U)(k:aB isRow b c)(o:bO a 1 d c)(p:α b<=1000000000000){h:Ω->Bool}(r:hg isRow a b4 g H h):
  AC γ 88 [d,.bG b4 g H] a λx y=>y=a/\x=.v (.bool (b.any h)):=by
 refine bd hm NN ς ?_;refine aa ?_;refine ah (a0s b c d a k o p r) ?_;rintro _ C⟨rfl,D,rfl,z⟩;refine bU ?_;exact⟨_,θ,rfl,by rw[z]⟩
def a0t(c:Int)(b:Ω)(d:R)(r:isRow b d)(a:U)(h:Nat)(k:a.read h=β [.v (.int .i64 c)]):
  AC γ 89 [d,.ptr h 0] a λx y=>y=a/\x=.v (.bool (!decide ((α b:Int)=c))):=by
 obtain⟨z,rfl⟩:=r;refine bd hm NP ς ?_;have o:=bN (q:=b);by_cases p:(α b)=c
 .refine ak (aE @o @k @p) ?_;exact⟨a,θ,by simp[]⟩
 .refine ak (aE @o @k @p) ?_;exact⟨a,θ,by simp[]⟩
def oM(a:Int)(b:List Ω):Bool:=decide (1<=a)&&decide (a<=8)&&b.all λc=>decide ((α c:Int)=a)
theorem yq(a:Int)(c:List Ω)(d:ύ)(h:R)(b:U)(x:aB isRow c d)(y:bO b 1 h d)(z:α c<=1000000000000):
  AC γ 44 [.v (.int .i64 a),h] b λC k=>k=b/\C=.v (.bool (oM a c)):=by
 refine bd hm Ml ς ?_;refine aa ?_;refine aN λo D=>?_;have p:=μ (Y:=.cells [.v (.int .i64 a)]) (θ) D;have c2:(b.set o (.cells [.v (.int .i64 a)])) o=β (.cells [.v (.int .i64 a)]):=ξ _ _ _;unfold oM;by_cases h1:1<=a
 .by_cases r:a<=8
  .refine aa ?_;refine ah (EC c d h _ x (y.mono p) z (b4:=89) ⟨by rfl,λE F k G L=>a0t a E F G k o (κ (L _ _ c2))⟩) ?_;rintro _ _⟨rfl,rfl⟩;refine bU ?_;refine⟨b,p,rfl,?_⟩;rw[List.any_eq_not_all_not];simp[h1,r]
  .simp -dsimp -implicitDefEqProofs (disch:=first|omega|assumption|(simp only[aW,Nat.reduceAdd];try omega)) only[go_sem,simprocAttr,-List.reduceReplicate,h1,r];simp_all
 .refine ak @h1 ?_;simp_all
theorem vi(a:Nat)(h:a<=1000000000000)(b:U):AC γ 51 [.v (.int .i64 (a:Int))] b λc d=>d=b/\c=.v (.int .i64 (a1.bT a:Int)):=by refine bd hm MB ς ?_;refine bU ?_;refine⟨b,θ,rfl,?_⟩;grind[a1.bT,wrap_i64]
def dF(a:af)(c:Nat)(b:bY):Except Int ao×af:=
 match fP c b with
 |none=>(.error 1,a)
 |some d=>(.ok d,dA a (cH b))
def cZ(a:List Ω):bY:=⟨2,a.map λb=>(b,η),[]⟩
def ew(a:List ao):bY:=⟨3,[],a⟩
abbrev dO(a b:Nat):R:=.agg [.ptr a 0,.v (.int .i64 (b:Int))]
def gX(d:Except Int ao)(b:R):Prop:=
 match d with
 |.error c=>c≠0/\b=.aJ [.agg (ab az .nil .nil .nil),.v (.int .i64 c)]
 |.ok a=>α a.sum=32/\a.cC/\∃h k o,b=.aJ [.agg (ab a h k o),.v (.int .i64 0)]
variable{n b5:R}
theorem gX.shape{c:Except Int ao}(d:gX c n):∃a h k o b,α a.sum=32/\n=.aJ [.agg (ab a h k o),.v (.int .i64 b)]:=by
 cases c with
 |error b=>exact⟨az,_,_,_,b,bl,d.2⟩
 |ok a=>obtain⟨p,_,h,k,o,r⟩:=d;grind
variable{f s e0:U}{e i v M b9 j1:Nat}{B:af}
def bq.cA(a:bq f i v B)(b:f e=ζ):e≠i/\e≠v:=by
 refine⟨?_,?_⟩
 .rintro rfl;obtain⟨_,_,a⟩:=a.at_;rw[a]at b;cases b
 .rintro rfl;obtain⟨_,⟨_,_,a,_⟩,_⟩:=a.mp;rw[a]at b;cases b
theorem bq.set{d:U}{a b c:Nat}{h:af}{ob:bu}(o:bq d a b h)(k:c≠a/\c≠b):bq (d.set c ob) a b h:=o.other (ο _ _ (Ι k.1)) (ο _ _ (Ι k.2))
def yr(d:U)(h k:Nat)(o:af)(C:bq d h k o)(c:bY)(D E:ύ)(r x:R)(b:Nat)(G:1<=b)(y:b<=8)(L:fR d c r x D E):
  AC γ 93 [.ptr h 0,gU c r x,.v (.int .i64 (b:Int))] d λF z=>bq z h k (dF o b c).2/\Ext h k d z/\gX (dF o b c).1 F:=by
 refine(a0g d h k o C c D E r x b G y L).mono λF z a=>?_;unfold dF;cases p:fP b c with
 |none=>rw[p]at a;exact⟨C.mono a.1,Α a.1,Θ,a.2⟩
 |some P=>rw[p]at a;exact⟨a.1,a.2.1,(vf y p).1,Ej y p,a.2.2⟩
theorem ys(D:U)(E e:Nat)(f:af)(X:bq D E e f)(c:List Ω)(h:ύ)(q:R)(x:Nat)(n2:1<=x)(n3:x<=8)(g:aB isRow c h)(Y:bO D 1 q h)(n4:α c<=100000):
  AC γ 52 [dO E x,q] D λr y=>bq y E e (dF f x (cZ c)).2/\Ext E e D y/\gX (dF f x (cZ c)).1 r:=by
 refine bd hm MD ς ?_;have s:∀Z,(R.agg Z).cells=Z:=λ_=>rfl;have n5:∀a b k o j9 T:R,putAt [a,b,k] 0 [o,j9,T]=[o,j9,T]:=λ_ _ _ _ _ _=>rfl;have n9:∀a b k o:R,putAt [a,b,k] 0 [o]=[o,b,k]:=λ_ _ _ _=>rfl;have a00:∀a b k o:R,putAt [a,b,k] 1 [o]=[a,o,k]:=λ_ _ _ _=>rfl;have k0:∀a b k:R,[a,b,k].length=3:=λ_ _ _=>rfl;have a43:∀a b k:R,List.take 3 [a,b,k]=[a,b,k]:=λ_ _ _=>rfl;have k1:=Y.len;rw[g.len]at k1;refine aa ?_;refine aN λS a01=>?_;refine aa ?_;refine aN λP i=>?_;refine aa ?_;refine aN λF V=>?_;have t:S≠P:=by rintro rfl;rw[ξ]at i;cases i
 have a02:P≠F:=by rintro rfl;rw[ξ]at V;cases V
 have a03:S≠F:=by rintro rfl;rw[ο _ _ t,ξ]at V;cases V
 have u:D P=none:=by rw[ο _ _ (Ι t)]at i;exact i
 have a47:D F=none:=by simp_all [ο,Ι]
 obtain⟨G,W⟩:∃G:U,G=(D.set S (.cells [.ptr E 0,.v (.int .i64 (x))])).set P (.cells (ab az .nil .nil .nil)):=⟨_,rfl⟩;have k2:D.sub G:=by rw[W];exact μ (μ θ a01) u
 have c2:G S=β (.cells [.ptr E 0,.v (.int .i64 (x))]):=by rw[W,ο _ _ t,ξ]
 have aL:G P=β (.cells (ab az .nil .nil .nil)):=by rw[W,ξ]
 have k3:G F=none:=by rw[W];exact V
 have a04:=(aP (N:=.nil) (e6:=.nil) (h6:=.nil) bl).len;refine ak (c7 @s @ch @n9 @k0 @n5 @τ @k1) ?_;rw[<-W]
 let p:R->R:=λa=>.agg [a,.v (.bool η)];have k4:∀d,aB cY ((c.take d).map λr=>(r,η)) ((h.take d).map p):=by
  have:∀(c)(h),aB isRow c h->aB cY (c.map λr=>(r,η)) (h.map p):=by
   intro c
   induction c with
   |nil=>intro h z;cases h with
    |nil=>trivial
    |cons=>exact z.elim
   |cons o c ih=>intro h z;cases h with
    |nil=>exact z.elim
    |cons a h=>exact⟨by obtain⟨L,rfl⟩:=z.1;exact⟨L,rfl⟩,ih h z.2⟩
  exact λd=>this _ _ (g.take d)
 have a48:∀d,((h.take d).map p).length<=100000:=λd=>by rw[a7w,a7q,g.len];omega
 have k5:∀ {y:U}{k c L},bj (G.set F (.cells k)) y 2 c L->y S=β (.cells [.ptr E 0,.v (.int .i64 (x))])/\y P=β (.cells (ab az .nil .nil .nil))/\y F=β (.cells k):=λz=>⟨z.sub _ _ (by rw[ο _ _ a03];exact c2),z.sub _ _ (by rw[ο _ _ a02];exact aL),z.sub _ _ (ξ _ _ _)⟩;refine cm (λC y=>∃(d:Nat)(L:Own),d<=α c/\bj (G.set F (.cells [.v (.int .u8 2),.J ((h.take d).map p) L,.J [] .nil])) y 2 ((h.take d).map p) L/\
   C 2=.ptr S 0/\C 4=.ptr P 0/\C 6=.ptr F 0/\C 10=q/\C 11=.v (.int .i64 (α c))/\C 12=.v (.int .i64 d))
  (λC _=>match C 12 with|.v (.int _ a05)=>α c - a05.toNat|_=>0) ⟨0,.nil,δ,?_,?_⟩ ?_
 .rw[show(h.take 0).map p=[]from rfl,τ];exact Τ θ
 .exact aO
 rintro C v⟨d,L,a52,j,l,m,n,w,A,B⟩;obtain⟨a06,a07,k6⟩:=k5 j;by_cases k7:(d:Int)<α c
 .have k8:c[d]?=β c[d]:=Ρ δ;generalize c[d]'δ=r at k8;obtain⟨a,k9,H,rfl⟩:=g.get k8;obtain⟨a56,a08,a09⟩:=(Y.mono (π k2 (π (μ θ k3) j.sub))).get d _ k9;have l0:=a09.ld v θ ι 1 δ (by simp[σ]);have a10:aM ι 1 (R.J (ad r) H).cells=.J (ad r) H:=rfl;rw[a10]at l0;have a11:(h.take (d+1)).map p=(h.take d).map p++[.agg [.J (ad r) H,.v (.bool η)]]:=by rw[a8r,k9,a8l];rfl
  have a13:∀a b k:R,aM ι 1 ([a,b,k].drop 1)=b:=λ_ _ _=>rfl;have a14:∀a b o:R,putAt [a,b] 0 [o]=[o,b]:=λ_ _ _=>rfl;have a15:∀a b o:R,putAt [a,b] 1 [o]=[a,o]:=λ_ _ _=>rfl;have a16:∀a b:R,[a,b].length=2:=λ_ _=>rfl;have a18:∀b:Bool,(R.v (.bool b)).cells=[.v (.bool b)]:=λ_=>rfl;have l1:∀(T)(l2),(R.J T l2).cells=[.J T l2]:=λ_ _=>rfl;refine ak (oq @l @m @n @w @A @B @k7 @a08 @l0 (κ k6) @a13 @a14 @a15 @a16 @a18 @l1) ?_;refine dJ θ (by simp[aY,σ]) λa57 a61 a19=>?_;refine aa ?_;refine ep (j.mono a19.sub) ((k4 d).cells λ_ _=>cY.cells) (by simp[aY,σ]) (by grind) (by grind) λl3 a62 I=>?_;rw[<-a11]at I|-;obtain⟨a63,l4,a27⟩:=k5 I;refine ak (cg @l @m @n @w @A @B (χ a27) @l1 @a00 @k0) ?_;have l5:=I.set (ob:=.cells [.v (.int .u8 2),.J ((h.take (d+1)).map p) l3,.J [] .nil]) (ξ _ _ _);rw[τ]at l5;exact⟨⟨d+1,l3,δ,l5,ς⟩,δ⟩
 .obtain rfl:d=α c:=δ;have a29:∀a b k,aM η 3 [a,b,k]=.agg [a,b,k]:=λ_ _ _=>rfl;have K:=k4 (α c);rw[a7K]at K;have l6:=π k2 (π (μ θ k3) j.sub);have a30:fR v (cZ c) (.J ((h.take (α c)).map p) L) (.J [] .nil) ((h.take (α c)).map p) []:=by
   refine⟨K,trivial,bO.J (K.cells λ_ _=>cY.cells),bO.J (by simp[aY]),?_,?_⟩
   .simp only[cZ,a7w];exact n4
   .simp[cZ]
  refine ak (fF @l @m @n @w @A @B @k7 (κ a06) (κ k6) @a29 @s) ?_;have a34:=yr v E e f (X.mono l6) (cZ c) _ _ _ _ x n2 n3 a30;refine ah a34 ?_;rintro r a65⟨a36,l7,l8⟩;have M:=X.cA u;have l4:=l7 _ _ M.1 M.2 a07;obtain⟨l9,N,O,Q,a68,n0,rfl⟩:=l8.shape;have n1:=aP (N:=N) (e6:=O) (h6:=Q) n0;have a38:=n1.len;have a42:putAt (ab az .nil .nil .nil) 0 (ab l9 N O Q)=ab l9 N O Q:=cx bl n0;refine ak (cO @l @m @n @s (χ l4) @a42 @a38 @a04 n1.t37) ?_;exact⟨_,θ,a36.set M,((Α l6).trans l7).set u,l8⟩
def ED(a:U)(d x:Nat)(y:af)(W:bq a d x y)(h:List ao)(D:ύ)(E:R)(b:Nat)(v:1<=b)(w:b<=8)(A:aB bB h D)(e:bO a 37 E D)(B:α h<=100000):
  AC γ 96 [dO d b,E] a λf g=>bq g d x (dF y b (ew h)).2/\Ext d x a g/\gX (dF y b (ew h)).1 f:=by
 refine bd hm O3 ς ?_;have i:∀j,(R.agg j).cells=j:=λ_=>rfl;have H:∀k c o r:R,putAt [k,c,o] 0 [r]=[r,c,o]:=λ_ _ _ _=>rfl;have I:∀k c o r:R,putAt [k,c,o] 2 [r]=[k,c,r]:=λ_ _ _ _=>rfl;have K:∀k c o:R,[k,c,o].length=3:=λ_ _ _=>rfl;have M:=(aP (N:=.nil) (e6:=.nil) (h6:=.nil) bl).len;refine aa ?_;refine aN λl N=>?_;refine aa ?_;refine aN λz C=>?_;have m:l≠z:=by rintro rfl;rw[ξ]at C;cases C
 have F:a z=none:=by rw[ο _ _ (Ι m)]at C;exact C
 obtain⟨p,G⟩:∃p:U,p=(a.set l (.cells [.ptr d 0,.v (.int .i64 (b))])).set z (.cells (ab az .nil .nil .nil)):=⟨_,rfl⟩;have L:a.sub p:=by rw[G];exact μ (μ θ N) F
 have aL:p z=β (.cells (ab az .nil .nil .nil)):=by rw[G,ξ]
 refine ak (cO @i @ch @H @I @K e.one @ο @m @ξ) ?_;rw[<-G];have O:fR p (ew h) (.J [] .nil) E [] D:=⟨trivial,A,bO.J (by simp[aY]),e.mono L,by simp[ew],B⟩;refine ah (yr p d x y (W.mono L) (ew h) _ _ _ _ b v w O) ?_;rintro f j9⟨Q,n,q⟩;have P:=W.cA F;have X:=n _ _ P.1 P.2 aL;obtain⟨s,S,T,V,k0,t,rfl⟩:=q.shape;have u:=aP (N:=S) (e6:=T) (h6:=V) t;have Y:=u.len;have Z:putAt (ab az .nil .nil .nil) 0 (ab s S T V)=ab s S T V:=cx bl t;refine ak (bz @i (χ X) @Z @Y @M u.t37) ?_;exact⟨_,θ,Q.set P,((Α L).trans n).set F,q⟩
def yt(a:bY)(w A:ύ)(p z:R)(r:U)(P:fR r a p z w A):
  AC γ 225 [gU a p z] r λc V=>∃d,aB isRow (a.rows.map Γ) d/\av r V 1 (flat d) c:=by
 refine bd hm RH ς ?_;have S:∀g,(R.agg g).cells=g:=λ_=>rfl;have B:=P.hh;have k5:=P.kI;refine ak @S ?_;refine aN λT H=>?_;obtain⟨x,W⟩:∃x:U,x=r.set T (.cells [.v (.int .u8 (a.kind.toNat)),p,z]):=⟨_,rfl⟩;have i:r.sub x:=by rw[W];exact μ θ H
 have k6:x T=β (.cells [.v (.int .u8 (a.kind.toNat)),p,z]):=by rw[W,ξ]
 have I:=P.mi.mono i;refine ak (aE @S @ξ @B) ?_;rw[show r.set T (.cells (gU a p z).cells)=x from W.symm];refine cm (λk V=>∃(b:Nat)(c:R)(d:ύ),b<=α a.rows/\aB isRow ((a.rows.take b).map Γ) d/\av x V 1 (flat d) c/\k 1=.ptr T 0/\k 3=c/\k 7=p/\k 8=.v (.int .i64 (α a.rows))/\k 9=.v (.int .i64 b))
  (λk _=>match k 9 with|.v (.int _ K)=>α a.rows - K.toNat|_=>0) ⟨0,.J [] .nil,[],δ,trivial,av.nil θ,?_⟩ ?_
 .exact kD
 rintro k M⟨b,c,d,k7,C,e,D,E,F,G,L⟩;by_cases j:(b:Int)<α a.rows
 .have f:a.rows[b]?=β a.rows[b]:=Ρ δ;have l:a.rows.take (b+1)=a.rows.take b++[a.rows[b]]:=by rw[a8r,f];rfl
  generalize a.rows[b]'δ=h at f l;obtain⟨y,N,o,rfl⟩:=P.rows.get f;obtain⟨k8,O,Q⟩:=I.get b _ N;have m:=Q.ld M e.1 η 2 δ (by simp[σ]);have X:aM η 2 (R.agg [.J (ad h.1) o,.v (.bool h.2)]).cells=.agg [.J (ad h.1) o,.v (.bool h.2)]:=rfl;have n:∀c y q s:R,putAt [c,y] 0 [q,s]=[q,s]:=λ_ _ _ _=>rfl;have t:∀c y:R,[c,y].length=2:=λ_ _=>rfl;have Y:∀c y:R,aM ι 1 [c,y]=c:=λ_ _=>rfl;rw[X]at m;refine ak (fF @D @E @F @G @L @j @O @m @S @n @t) ?_;refine aN λk9 Z=>?_;have j9:=av.mono e (μ (Y:=.cells [.J (ad h.1) o,.v (.bool h.2)]) θ Z);refine ak (fF @D @E @F @G @L @S @n @t @Y @τ @ξ) ?_;refine eQ (by simp[aY,σ]) ς λl0 k0=>?_;have k1:=av.mono j9 (μ (Y:=.cells (flat [R.J (ad h.1) o])) θ k0);have k2:aB isRow ((a.rows.take b).map Γ++[h.1]) (d++[R.J (ad h.1) o]):=C.snoc ⟨_,rfl⟩;have u:(flat d).length=b:=by rw[cU (C.cells λ_ _=>φ),C.len];simp;omega
  refine ak (bh @D @E @F @G @L) ?_;refine fj k1 δ (nF rfl) rfl (by rw[u];simp[flat,σ];omega) (by rw[u];simp[flat,σ];omega) λk3 l1 v=>?_;have k4:flat d++flat [R.J (ad h.1) o]=flat (d++[R.J (ad h.1) o]):=by simp[flat]
  rw[k4]at v;refine ak (bh @D @E @F @G @L) ?_;refine⟨⟨b+1,k3,_,δ,?_,v,ς⟩,δ⟩;rw[l,a8l];exact k2
 .obtain rfl:b=α a.rows:=δ;rw[a7K]at C;refine ak (bz @D @E @F @G @L @j) ?_;exact⟨_,θ,d,C,e.base i⟩
def iU(b:af)(c:Nat)(d:ao):Option bY:=
 match de b c d with
 |none=>ζ
 |some a=>if a.kind=2\/a.kind=3 then β a else ζ
theorem yu(b:U)(T I:Nat)(V:af)(k1:bq b T I V)(o:ao)(W e f:Own)(K:α o.sum=32)(k2:o.cC)(p:Nat)(k3:1<=p)(k4:p<=8):
  AC γ 223 [dO T p,.agg (ab o W e f)] b λq y=>b.sub y/\match iU V p o with
   |none=>q=.aJ [yj,.v (.int .i64 21)]
   |some a=>∃d h,q=.aJ [gU a d h,.v (.int .i64 0)]/\gV b y a d h:=by
 refine bd hm RD ς ?_;have c:∀M,(R.agg M).cells=M:=λ_=>rfl;have z:∀C D E d h N:R,putAt [C,D,E] 0 [d,h,N]=[d,h,N]:=λ_ _ _ _ _ _=>rfl;have L:∀C D E,aM η 3 [C,D,E]=.agg [C,D,E]:=λ_ _ _=>rfl;have F:∀C D E:R,[C,D,E].length=3:=λ_ _ _=>rfl;have O:=aP (N:=W) (e6:=e) (h6:=f) K;have s:=O.len;refine ak @c ?_;refine aN λt l3=>?_;refine ak (c2 @c @s) ?_;refine aN λg i=>?_;have u:t≠g:=by rintro rfl;rw[ξ]at i;cases i
 have l4:b g=none:=by rw[ο _ _ (Ι u)]at i;exact i
 refine ak (c2 @c @s) ?_;refine aN λk j=>?_;have k5:g≠k:=by rintro rfl;rw[ξ]at j;cases j
 have k6:t≠k:=by rintro rfl;rw[ο _ _ u,ξ]at j;cases j
 have k7:b k=none:=by simp_all [ο,Ι]
 obtain⟨P,Q⟩:∃P:U,P=((b.set t (.cells [.ptr T 0,.v (.int .i64 (p))])).set g (.cells (ab o W e f))).set k (.cells [.v (.int .u8 0),.J [] .nil,.J [] .nil]):=⟨_,rfl⟩;have v:b.sub P:=by grind[μ,θ]
 have aL:P k=β (.cells [.v (.int .u8 0),.J [] .nil,.J [] .nil]):=by rw[Q,ξ]
 have l:∀(y)(X),b.sub y->b.sub (y.set k X):=λy X w=>μ w k7;refine ak (bw @c @s @ο @u @k6 @k5 @ξ O.t37) ?_;rw[<-Q];refine ah (vg P T I V (k1.mono v) o W e f K (λ_=>k2) p k3 k4) ?_;rintro q l5⟨Y,m⟩;have k8:=π v Y;have G:=Y _ _ aL;unfold iU;cases Z:de V p o with
 |none=>
  rw[Z]at m;obtain rfl:=m;refine ak (aE @c @z @F) ?_;refine aN λA r=>?_;have x:k≠A:=by rintro rfl;rw[G]at r;cases r
  have S:=Ι x;refine ak (cO @c @z @F @L @τ @ο @x @S (χ G)) ?_;grind[θ,π,μ]
 |some a=>
  rw[Z]at m;obtain⟨d,h,rfl,k9⟩:=m;simp -dsimp -implicitDefEqProofs (disch:=first|omega|assumption|(simp only[aW,Nat.reduceAdd];try omega)) only[go_sem,simprocAttr,-List.reduceReplicate,c,z,F,L];refine aN λA r=>?_;have x:k≠A:=by rintro rfl;rw[G]at r;cases r
  have S:=Ι x;have l0:=(k9.mono (μ (Y:=.cells [.v (.int .u8 (a.kind.toNat)),d,h]) θ r)).set (ob:=.cells [.v (.int .u8 (a.kind.toNat)),d,h]) aL;have l6:=l0.base (l _ _ v);have B:=π k8 (μ (Y:=.cells [.v (.int .u8 (a.kind.toNat)),d,h]) θ r);have l1:=iS a.kind 2 δ;have l2:=iS a.kind 3 δ;simp only[aag]at l1 l2;simp only;by_cases j9:a.kind=2
  .have n:((a.kind.toNat:Int)=2)=True:=by rw[j9];simp
   refine ak (fF @c @z @F @L @τ @ξ @ο @x @S (χ G) @n) ?_;refine⟨_,θ,l _ _ B,?_⟩;grind
  .have n:¬(a.kind.toNat:Int)=2:=λw=>j9 (by simp_all);by_cases k0:a.kind=3
   .have H:((a.kind.toNat:Int)=3)=True:=by rw[k0];simp
    refine ak (gq @c @z @F @L @τ @ξ @ο @x @S (χ G) @n @H) ?_;refine⟨_,θ,l _ _ B,?_⟩;grind
   .have H:¬(a.kind.toNat:Int)=3:=λw=>k0 (by simp_all);refine ak (gq @c @z @F @L @τ @ξ @ο @x @S (χ G) @n @H) ?_;refine⟨_,θ,l _ _ B,?_⟩;simp_all
def yv(k:bY)(L P:ύ)(d h:R)(o:U)(S:fR o k d h L P):
  AC γ 233 [gU k d h] o λi j=>∃a r,i=.agg [.v (.bool (decide (k.kind=2))),a,h]/\aB isRow (k.rows.map Γ) r/\av o j 1 (flat r) a:=by
 refine bd hm RV ς ?_;have x:∀T,(R.agg T).cells=T:=λ_=>rfl;have V:∀a b c,aM η 3 [a,b,c]=.agg [a,b,c]:=λ_ _ _=>rfl;have l:∀a b c:R,[a,b,c].length=3:=λ_ _ _=>rfl;have m:∀a b c d h W:R,putAt [a,b,c] 0 [d,h,W]=[d,h,W]:=λ_ _ _ _ _ _=>rfl;have n:∀a b c d:R,putAt [a,b,c] 0 [d]=[d,b,c]:=λ_ _ _ _=>rfl;have q:∀a b c d:R,putAt [a,b,c] 1 [d]=[a,d,c]:=λ_ _ _ _=>rfl;have s:∀a b c d:R,putAt [a,b,c] 2 [d]=[a,b,d]:=λ_ _ _ _=>rfl;have t:∀b:Bool,(R.v (.bool b)).cells=[.v (.bool b)]:=λ_=>rfl;have u:∀a b c:R,aM ι 1 ([a,b,c].drop 2)=c:=λ_ _ _=>rfl;have e:∀a b c:R,List.take 3 [a,b,c]=[a,b,c]:=λ_ _ _=>rfl;refine ak @x ?_;refine aN λE v=>?_;refine ak @x ?_;refine aN λy z=>?_;have F:E≠y:=by rintro rfl;rw[ξ]at z;cases z
 have f:o y=none:=by rw[ο _ _ (Ι F)]at z;exact z
 obtain⟨p,C⟩:∃p:U,p=(o.set E (.cells [.v (.int .u8 (k.kind.toNat)),d,h])).set y (.cells [.v (.bool ι),.J [] .nil,.J [] .nil]):=⟨_,rfl⟩;have g:o.sub p:=by rw[C];exact μ (μ θ v) f
 have w:p E=β (.cells [.v (.int .u8 (k.kind.toNat)),d,h]):=by rw[C,ο _ _ F,ξ]
 have c2:p y=β (.cells [.v (.bool ι),.J [] .nil,.J [] .nil]):=by rw[C,ξ]
 have G:=iS k.kind 2 δ;simp only[aag]at G;have A:ν 2=2:=rfl;rw[A]at G;refine ak (bz @x @ο @F @ξ @V @e) ?_;rw[<-C];refine ah (yt k L P d h p (S.mono g)) ?_;rintro a N⟨r,B,D⟩;have H:=D.1 _ _ w;have I:=D.1 _ _ c2;have K:=fQ D;have M:=S.gQ.one;refine ak (pH @x (κ H) (χ I) @V @e @u @t @K @M @n @q @s @l @m @G) ?_;refine⟨_,θ,a,r,rfl,B,?_⟩;exact(jW D c2).base (μ g f)
theorem a0u(h:R)(c d:R)(a b:Nat)(E:c.cells=[c])(F:d.cells=[d])(G:h.cells=[h])(r:fi c=β (.v (.int .i64 (a:Int))))(x:fi d=β (.v (.int .i64 (b:Int))))(L:a<=1000000000000)(P:b<=1000000000000)(k:U):
  AC γ 283 [.agg [h,c,d]] k λy z=>z=k/\y=.v (.bool (decide (a+b<2))):=by
 refine bd hm Te ς ?_;have o:∀p,(R.agg p).cells=p:=λ_=>rfl;refine ak @o ?_;refine aN λS C=>?_;refine ak (aE @o @r @x) ?_;have D:decide ((a:Int)+b<2)=decide (a+b<2):=by grind
 exact⟨k,μ θ C,rfl,by rw[D]⟩
def mC(a:af)(b:Nat)(c:Bool)(d:List Ω)(h:List ao):Except Int ao×af:=if c=η then dF a b (cZ d)else dF a b (ew h)
theorem EE(a:U)(b d:Nat)(E:af)(s:bq a b d E)(F:Bool)(G:List Ω)(t:ύ)(g:R)(L:List ao)(u:ύ)(i:R)(c:Nat)(K:1<=c)(M:c<=8)(k3:aB isRow G t)(k4:bO a 1 g t)(k5:α G<=100000)(k6:aB bB L u)(k7:bO a 37 i u)(k8:α L<=100000):
  AC γ 173 [dO b c,.agg [.v (.bool F),g,i]] a λy N=>bq N b d (mC E c F G L).2/\Ext b d a N/\gX (mC E c F G L).1 y:=by
 refine bd hm Qh ς ?_;have h:∀O,(R.agg O).cells=O:=λ_=>rfl;have Q:=(aP (N:=.nil) (e6:=.nil) (h6:=.nil) bl).len;have X:∀P S:R,List.take 2 [P,S]=[P,S]:=λ_ _=>rfl;have Y:∀P S,aM η 2 [P,S]=.agg [P,S]:=λ_ _=>rfl;refine ak @h ?_;refine aN λv l1=>?_;refine ak @h ?_;refine aN λj l=>?_;have m:v≠j:=by rintro rfl;rw[ξ]at l;cases l
 have l2:a j=none:=by rw[ο _ _ (Ι m)]at l;exact l
 refine ak (c2 @h @ch) ?_;refine aN λz n=>?_;have Z:j≠z:=by rintro rfl;rw[ξ]at n;cases n
 have j9:v≠z:=by rintro rfl;rw[ο _ _ m,ξ]at n;cases n
 have w:a z=none:=by simp_all [ο,Ι]
 obtain⟨k,A⟩:∃k:U,k=((a.set v (.cells [.ptr b 0,.v (.int .i64 (c))])).set j (.cells [.v (.bool F),g,i])).set z (.cells (ab az .nil .nil .nil)):=⟨_,rfl⟩;have C:a.sub k:=by grind[μ,θ]
 have aL:k z=β (.cells (ab az .nil .nil .nil)):=by rw[A,ξ]
 have q:=s.cA w;unfold mC;have k0:∀(k1)(k2)(y)(D),bq D b d k2->Ext b d k D->gX k1 y->D z=β (.cells (ab az .nil .nil .nil)):=λk1 k2 y D _ k9 _=>k9 _ _ q.1 q.2 aL;cases F with
 |true=>refine ak (cO @h @ch @ο @m @j9 @Z @ξ @X @Y) ?_;rw[<-A];refine ah (ys k b d E (s.mono C) G t g c K M k3 (k4.mono C) k5) ?_;rintro y D⟨T,V,o⟩;have B:=k0 _ _ _ _ T V o;obtain⟨W,p,r,x,l0,e,rfl⟩:=o.shape;have f:=aP (N:=p) (e6:=r) (h6:=x) e;have H:=f.len;have I:putAt (ab az .nil .nil .nil) 0 (ab W p r x)=ab W p r x:=cx bl e;refine ak (bz @h (χ B) @I @H @Q f.t37) ?_;exact⟨_,θ,T.set q,((Α C).trans V).set w,o⟩
 |false=>refine ak (cO @h @ch @ο @m @j9 @Z @ξ @X @Y) ?_;rw[<-A];refine ah (ED k b d E (s.mono C) L u i c K M k6 (k7.mono C) k8) ?_;rintro y D⟨T,V,o⟩;have B:=k0 _ _ _ _ T V o;obtain⟨W,p,r,x,l0,e,rfl⟩:=o.shape;have f:=aP (N:=p) (e6:=r) (h6:=x) e;have H:=f.len;have I:putAt (ab az .nil .nil .nil) 0 (ab W p r x)=ab W p r x:=cx bl e;refine ak (bz @h (χ B) @I @H @Q f.t37) ?_;exact⟨_,θ,T.set q,((Α C).trans V).set w,o⟩
abbrev hN(a:Ω)(b:bY):Nat:=a1.cS bC a (b.kids.map (·.key))
variable{O:List Ω}{q b7:Ω}
def a0v{a:Ω}:a1.cS bC q (a::b7::O)=if bC q b7=η then 0 else a1.cS bC q (b7::O)+1:=rfl
theorem EF(a:bY)(B H:ύ)(r x:R)(c:Ω)(P:Own)(d:U)(z:fR d a r x B H):
  AC γ 228 [gU a r x,.J (ad c) P] d λI S=>S=d/\I=.v (.int .i64 (hN c a:Int)):=by
 refine bd hm RN ς ?_;have V:∀W,(R.agg W).cells=W:=λ_=>rfl;have e:=z.sT;have k4:=z.ij;refine ak @V ?_;refine aN λC K=>?_;obtain⟨h,T⟩:∃h:U,h=d.set C (.cells [.v (.int .u8 (a.kind.toNat)),r,x]):=⟨_,rfl⟩;have M:d.sub h:=by rw[T];exact μ θ K
 have c2:h C=β (.cells [.v (.int .u8 (a.kind.toNat)),r,x]):=by rw[T,ξ]
 have N:=z.gQ.mono M;refine ak @V ?_;rw[show d.set C (.cells (gU a r x).cells)=h from T.symm];refine cm (λk S=>∃b:Nat,S=h/\hN c a=b+a1.cS bC c ((a.kids.map (·.key)).drop b)/\b<=α a.kids/\k 1=.J (ad c) P/\k 2=.ptr C 0/\k 5=.v (.int .i64 b))
  (λk _=>match k 5 with|.v (.int _ O)=>α a.kids - O.toNat|_=>0) ⟨0,rfl,ς,δ,?_⟩ ?_
 .exact kD
 rintro k f⟨b,rfl,y,k5,D,E,F⟩;have g:∀i Q j:R,aM ι 1 ([i,Q,j].drop 2)=j:=λ_ _ _=>rfl;by_cases l:(b:Int)+1<α a.kids
 .have m:a.kids[b+1]?=β a.kids[b+1]:=Ρ δ;have n:(a.kids.map (·.key)).drop b=(a.kids[b]'δ).key::(a.kids[b+1]'δ).key::(a.kids.map (·.key)).drop (b+2):=by grind[Ν,List.length_map]
  have q:(a.kids.map (·.key)).drop (b+1)=(a.kids[b+1]'δ).key::(a.kids.map (·.key)).drop (b+2):=by rw[a7M (by rw[a7w];omega)];simp
  rw[n,a0v,<-q]at y;clear n q;generalize a.kids[b+1]'δ=o at m y;obtain⟨i,X,Y,k6,G,L,p,rfl⟩:=z.kids.get m;obtain⟨k7,s,t⟩:=N.get (b+1) _ X;have u:=aP (N:=G) (e6:=L) (h6:=p) Y;have Z:(R.agg (ab o G L p)).cells=ab o G L p:=rfl;rw[Z]at t;obtain⟨k8,j9,v⟩:=t.ln f θ 36 ι 1 δ (by rw[u.len];omega);have k0:aM ι 1 ((ab o G L p).drop 36)=.J (ad o.key) p:=by rw[u.d36];rfl
  rw[k0]at v;have k1:((b+1:Nat))=(b:Int)+1:=δ;rw[k1]at s;refine ak (cg @D @E @F (κ c2) @g @e @l @s @j9 @v) ?_;refine ah (yk c o.key P p _) ?_;rintro _ f⟨rfl,rfl⟩;cases w:bC c o.key with
  |true=>rw[if_pos w]at y;refine ak (aL @D @E @F @a8c) ?_;simp_all
  |false=>rw[if_neg (by simp[w])]at y;refine ak (aL @D @E @F @a8i) ?_;grind
 .have k2:a1.cS bC c ((a.kids.map (·.key)).drop b)=0:=by
   have A:((a.kids.map (·.key)).drop b).length<=1:=by grind
   generalize (a.kids.map (·.key)).drop b=k3 at A
   match k3,A with
   |[],_=>rfl
   |[_],_=>rfl
  rw[k2]at y;refine ak (c7 @D @E @F (κ c2) @g @e @l) ?_;simp_all
def mD(c:List Ω)(d:Ω):Nat->Nat->Nat->Nat
 |0,a,_=>a
 |h+1,a,b=>if a<b then(match c[(a+b)/2]? with
  |some k=>if kJ k d<0 then mD c d h ((a+b)/2+1) b else mD c d h a ((a+b)/2)
  |none=>a)else a
def eZ(a:List Ω)(b:Ω):Nat:=mD a b (α a) 0 (α a)
def kL(a:List Ω)(b:Ω):Bool:=match a[eZ a b]? with|some c=>decide (kJ c b=0)|none=>ι
theorem EG(b:List Ω)(n:ύ)(V:R)(d:Ω)(L:Own)(P:U)(W:aB isRow b n)(e:bO P 1 V n)(N:α b<=1000000000000):
  AC γ 224 [V,.J (ad d) L,.bG 47 [] []] P λh f=>f=P/\eZ b d<=α b/\h=.aJ [.v (.int .i64 (eZ b d:Int)),.v (.bool (kL b d))]:=by
 refine bd hm RF ς ?_;have q:=e.len;rw[W.len]at q;refine ak @q ?_;have s:fA γ 47=true:=by rfl
 refine cm (λk f=>∃(r a c:Nat),f=P/\eZ b d=mD b d r a c/\a<=c/\c<=α b/\c - a<=r/\k 0=V/\k 1=.J (ad d) L/\k 2=.bG 47 [] []/\k 8=.v (.int .i64 (α b))/\k 9=.v (.int .i64 a)/\k 10=.v (.int .i64 c))
  (λk _=>match k 9,k 10 with|.v (.int _ a),.v (.int _ c)=>(c - a).toNat|_,_=>0) ⟨α b,0,α b,rfl,rfl,δ,δ,δ,?_⟩ ?_
 .exact kD
 rintro k S⟨r,a,c,rfl,x,O,Q,X,y,z,C,D,E,F⟩;by_cases g:(a)<(c:Int)
 .obtain⟨Y,rfl⟩:∃v,r=v+1:=⟨r - 1,δ⟩;have w:a<c:=δ;have t:(a+c)/2<α b:=δ;have o:=Ρ t;rw[mD,if_pos w,o]at x;simp only at x;generalize b[(a+c)/2]'t=h at o x;obtain⟨A,i,p,rfl⟩:=W.get o;obtain⟨B,j,l⟩:=e.get _ _ i;have G:=l.ld S θ ι 1 δ (by simp[σ]);have m:aM ι 1 (R.J (ad h) p).cells=.J (ad h) p:=rfl;rw[m]at G;have H:IntKind.u64.wrap ((a)+c)=((a+c:Nat)):=by rw[wrap_u64 δ δ];omega
  have I:bt .shr (.int .u64 ((a+c:Nat))) (.int .u64 1)=β (.int .u64 (((a+c)/2:Nat))):=by rw[so _ _ _ δ δ];rfl
  have K:IntKind.i64.wrap (((a+c)/2:Nat))=(((a+c)/2:Nat)):=wrap_i64 δ δ;generalize Z:(a+c)/2=j9 at*;refine ak (gq @y @z @C @D @E @F @g @H @I @K @j @G) ?_;refine eR s (yl h d p L _) ?_;rintro _ S⟨rfl,rfl⟩;by_cases T:kJ h d<0
  .rw[if_pos T]at x;refine ak (c7 @y @z @C @D @E @F @T) ?_;grind
  .rw[if_neg T]at x;refine ak (c7 @y @z @C @D @E @F @T) ?_;grind
 .obtain rfl:a=c:=δ;have M:eZ b d=a:=by rw[x];cases r<;>simp[mD]
  unfold kL;rw[M];by_cases u:(a:Int)<α b
  .have o:b[a]?=β b[a]:=Ρ δ;rw[o];generalize b[a]'δ=h at o;obtain⟨A,i,p,rfl⟩:=W.get o;obtain⟨B,j,l⟩:=e.get _ _ i;have G:=l.ld S θ ι 1 δ (by simp[σ]);have m:aM ι 1 (R.J (ad h) p).cells=.J (ad h) p:=rfl;rw[m]at G;refine ak (cg @y @z @C @D @E @F @g @u @j @G) ?_;refine eR s (yl h d p L _) ?_;rintro _ S⟨rfl,rfl⟩;refine ak (bz @y @z @C @D @E @F) ?_;exact⟨_,θ,rfl,δ⟩
  .have o:b[a]?=none:=abh δ;rw[o];refine ak (bw @y @z @C @D @E @F @g @u) ?_;exact⟨_,θ,rfl,δ⟩
def dr(d h:U)(b c:Nat)(k:af)(o:Nat)(p:ύ)(r:R):Prop:=∃a,av a h o p r/\bq a b c k/\Ext b c d a
theorem dr.nil{a:U}{b c h:Nat}{d:af}(k:bq a b c d):dr a a b c d h [] (.J [] .nil):=⟨a,av.nil θ,k,Ext.refl⟩
def dr.fV(a:dr s f e i B v g n):bq f e i B:=by obtain⟨d,b,c,_⟩:=a;exact c.mono b.1
def dr.ext(a:dr f s e i B v g n):Ext e i f s:=by obtain⟨d,b,_,c⟩:=a;exact c.trans (Α b.1)
theorem dr.of{s:U}{l lM:Nat}(a:av f s e g n)(b:bq f l lM B)(c:Ext l lM e0 f):dr e0 s l lM B e g n:=⟨f,a,b,c⟩
def dr.mono{b c d:U}{h k:Nat}{o:af}{p:Nat}{r:ύ}{a:R}(x:dr b c h k o p r a)(y:c.sub d):dr b d h k o p r a:=by obtain⟨z,C,D⟩:=x;exact⟨z,C.mono y,D⟩
theorem dr.base(a:dr f e0 e i B v g n)(b:Ext e i s f):dr s e0 e i B v g n:=by obtain⟨c,d,h,k⟩:=a;exact⟨c,d,h,b.trans k⟩
theorem dr.step{r x h:U}{a b:Nat}{S y:af}{z:Nat}{C:ύ}{D:R}(T:dr r x a b S z C D)(E:Ext a b x h)(F:bq h a b y):dr r h a b y z C D:=by
 obtain⟨V,⟨W,o⟩,e,f⟩:=T;have g:=F.ne;refine⟨λc=>if c=a then h a else if c=b then h b else V c,⟨λc i d=>?_,?_⟩,F.other ς (by simp[Ι g]),λc i G L d=>?_⟩
 .by_cases k:c=a
  .subst k;simpa using d
  .by_cases p:c=b
   .subst p;simpa[k] using d
   .simp only[k,p,if_false]at d;exact E _ _ k p (W _ _ d)
 .rcases o with o|⟨j,l,m,n,q,s,t,u⟩
  .exact .inl o
  .have P:=e.cA s;exact .inr ⟨j,l,m,n,q,by grind,E _ _ P.1 P.2 t,u⟩
 .simp only[G,L,if_false];exact f _ _ G L d
theorem yw(k:e≠1):∀ {a:ύ},(∀c∈a,∃b,c=.agg b/\α b=e)->eB e (α a) (flat a)=a:=by
 intro a d;have o:aY e a:=λc p=>by obtain⟨b,rfl,r⟩:=d c p;exact r
 unfold eB;rw[if_neg k];refine aaL λx=>?_;rw[a7R];by_cases aS:x<α a
 .rw[a9E aS];have h:=Ρ aS;have:=E8 o h;obtain⟨b,y,_⟩:=d _ (a7O aS);rw[h,a8u,this,y];rfl
 simp_all
theorem EH{h:List ao}(a:aB bB h g):∀b∈g,∃c,b=.agg c/\α c=37:=by intro b k;obtain⟨o,p,rfl⟩:=a8a k;have z:=a.len;obtain⟨C,d,r⟩:=a.get (Ρ (i:=o) δ);rw[Ρ p]at d;obtain rfl:=Δ d;obtain⟨x,_,D,E,F,y⟩:=r;exact⟨_,y,(aP x).len⟩
def dr.view(d:dr f s e i B v g n):∃b a,α g=b*v/\View s n a (.J (eB v b g) .any)/\bq a e i B/\Ext e i f a:=by obtain⟨x,h,k,o⟩:=d;obtain⟨b,a,p,c,r⟩:=View.dK h;exact⟨b,a,p,r,k.mono c,o.trans (Α c)⟩
theorem dr.te{b:List ao}(c:dr f s e i B 37 (flat g) n)(d:aB bB b g):∃a,View s n a (.J g .any)/\bq a e i B/\Ext e i f a:=by obtain⟨k,a,h,o,p⟩:=c.view;rw[cU (d.cells λ_ _=>Ξ)]at h;grind[yw,EH]
theorem av.te{b:List ao}(c:av f s 37 (flat g) n)(d:aB bB b g):∃a,View s n a (.J g .any)/\f.sub a:=by obtain⟨k,a,h,o,p⟩:=View.dK c;rw[cU (d.cells λ_ _=>Ξ)]at h;grind[yw,EH]
theorem nH(a:aB isRow O g):flat g=g:=by
 induction O generalizing g with
 |nil=>cases g with
  |nil=>rfl
  |cons=>exact a.elim
 |cons b O ih=>cases g with
  |nil=>rfl
  |cons c g=>obtain⟨d,rfl⟩:=a.1;have:=ih a.2;simp only[flat,a7P]at this|-;rw[this];rfl
theorem av.EI(b:av f s 1 (flat g) n)(c:aB isRow O g):∃a,View s n a (.J g .any)/\f.sub a:=by grind[View.dK,nH,mr,Ε]
def dB{c:Type}(d:List c->bY)(h:Nat):af->List (List c)->List ao->Except Int (List ao)×af
 |a,[],acc=>(.ok acc,a)
 |a,k::gs,acc=>
  match dF a h (d k)with
  |(.error o,b)=>(.error o,b)
  |(.ok p,b)=>dB d h b gs (acc++[p])
def EJ(d:Except Int (List ao))(a:R):Prop:=
 match d with
 |.error b=>b≠0/\a=.aJ [.J [] .nil,.v (.int .i64 b)]
 |.ok bF=>∃c h,aB bB bF c/\a=.aJ [.J c h,.v (.int .i64 0)]
variable{b0:Type}
def hl(b:b0->R->Prop)(c:List b0)(d:R):Prop:=∃a h,d=.J a h/\aB b c a
theorem hl.cells{a:Type}{c:a->R->Prop}{d:List a}{b:R}(h:hl c d b):α b.cells=1:=by obtain⟨_,_,rfl,_⟩:=h;rfl
theorem aB.yx{b:b0->R->Prop}{a:List b0}(c:aB b a []):a=[]:=by cases a with|nil=>rfl|cons=>exact c.elim
def EK(a:0<e)(c:i<=100000):i/e+(if 0<i%e then 1 else 0)<=i:=by
 have d:=aab i e;by_cases b:0<i%e
 .rw[if_pos b];have:i/e<=e*(i/e):=ab9 _ a;omega
 .rw[if_neg b];have:i/e<=e*(i/e):=ab9 _ a;omega
theorem yy(d:List Ω)(a:ύ)(h:Own)(c:U)(k:aB isRow d a)(F:α d<=100000):
  AC γ 45 [.J a h] c λp r=>∃o,bj c r 1 a o/\p=.J a o:=by
 refine nr λG=>?_;have x:h=.nil->a=[]:=λy=>by subst y;simp_all
 refine bd hm Mn ς ?_;simp -dsimp -implicitDefEqProofs (disch:=first|omega|assumption|(simp only[aW,Nat.reduceAdd];try omega)) only[go_sem,simprocAttr,-List.reduceReplicate,↓oz];refine oA (λb=>by rw[x b]) (λb=>?_) ?_
 .have z:a=[]:=by trivial
  subst z;refine ak @a8i ?_;exact⟨c,θ,.nil,Τ θ,rfl⟩
 .refine bU ?_;refine dJ θ (by simp[aY]) λL P C=>?_;refine bU ?_;have S:=k.len;refine ep C (λ_ b=>by cases b) (k.cells λ_ _=>φ) (by rw[a7x];omega) (by rw[a7x];omega) λD E T=>?_;refine ak @a7H.{0} ?_;exact⟨E,θ,D,by trivial,rfl⟩
theorem EL(L:List Ω)(S:ύ)(u:Own)(c:Nat)(T:U)(M:aB isRow L S)(N:α L<=100000)(k4:c<=100000):
  AC γ 50 [.J S u,.v (.int .i64 (c:Int))] T λO V=>T.sub V/\∃gs Q,O=.J gs Q/\aB (hl isRow) (a1.eE c L) gs:=by
 refine bd hm Mz ς ?_;refine bU ?_;refine cm (λz V=>∃(d:Nat)(b:List Ω)(h:ύ)(E:Own)(gs:ύ)(P:Own)(F:List (List Ω)),d<=c/\F++a1.eE (c - d) b=a1.eE c L/\aB isRow b h/\α b<=100000/\α F=d/\aB (hl isRow) F gs/\bj T V 1 gs P/\
   z 0=.J h E/\z 1=.v (.int .i64 c)/\z 5=.J gs P/\z 8=.v (.int .i64 c)/\z 9=.v (.int .i64 d))
  (λz _=>match z 9 with|.v (.int _ X)=>c - X.toNat|_=>0) ⟨0,L,S,u,[],.nil,[],δ,rfl,M,N,rfl,trivial,Τ θ,?_⟩ ?_
 .exact kD
 rintro z k5⟨d,b,h,E,gs,P,F,k6,C,k,Y,v,D,W,o,p,r,x,y⟩;by_cases e:(d)<(c:Int)
 .have w:=k.len;have Z:=EK (e:=c - d) δ Y;have A:(c) -(d)=((c - d:Nat):Int):=δ;rw[show c - d=(c -(d+1))+1 by omega,a1.eE]at C;rw[show c -(d+1)+1=c - d by omega]at C;generalize k7:c - d=G at*;have B:¬(G:Int)=0:=δ;have k8:=aac (α b) G;have H:(α b:Int).tdiv (G:Int)=((α b/G:Nat)):=rfl;have I:(α b:Int).tmod (G:Int)=((α b%G:Nat)):=rfl;obtain⟨a,f⟩:∃a,a=α b/G+(if 0<α b%G then 1 else 0):=⟨_,rfl⟩;rw[<-f]at Z C;by_cases K:0<α b%G
  .have g:((0)<((α b%G:Nat):Int))=True:=eq_true δ;have i:((α b/G:Nat))+1=(a:Int):=by rw[f,if_pos K];omega
   have j:dT 1 (.J h E) ζ (β (.v (.int .i64 (a))))=β (.J (h.take a) .any):=og δ δ (k.cells λ_ _=>φ);have l:dT 1 (.J h E) (β (.v (.int .i64 (a)))) ζ=β (.J (h.drop a) .any):=qT δ δ (k.cells λ_ _=>φ);refine ak (gr @o @p @r @x @y @e @w @A @H @I @B @g @i @j) ?_;refine ah (yy (b.take a) (h.take a) .any _ (k.take a) (by rw[a7q];omega)) ?_;rintro _ j9⟨m,n,rfl⟩;refine ak (bh @o @p @r @x @y) ?_;refine dJ θ (by simp[aY,σ]) λk0 k1 q=>?_;refine ak (bh @o @p @r @x @y) ?_;have k2:=D.len;refine ep (W.mono (π n.sub q.sub)) (D.cells λ_ _=>hl.cells) (by simp[aY,σ]) (by grind) (by grind) λs k3 t=>?_;refine ak (bz @o @p @r @x @y @l) ?_;refine⟨⟨d+1,b.drop a,h.drop a,.any,gs++[.J (h.take a) m],s,F++[b.take a],δ,?_,k.drop a,by rw[a7F];omega,by simp[v],D.snoc ⟨_,_,rfl,k.take a⟩,t,ς⟩,δ⟩;rw[<-C,a7B];rfl
  .have g:((0)<((α b%G:Nat):Int))=False:=eq_false δ;have i:((α b/G:Nat))=(a:Int):=by rw[f,if_neg K];omega
   have j:dT 1 (.J h E) ζ (β (.v (.int .i64 (a))))=β (.J (h.take a) .any):=og δ δ (k.cells λ_ _=>φ);have l:dT 1 (.J h E) (β (.v (.int .i64 (a)))) ζ=β (.J (h.drop a) .any):=qT δ δ (k.cells λ_ _=>φ);refine ak (gr @o @p @r @x @y @e @w @A @H @I @B @g @i @j) ?_;refine ah (yy (b.take a) (h.take a) .any _ (k.take a) (by rw[a7q];omega)) ?_;rintro _ j9⟨m,n,rfl⟩;refine ak (bh @o @p @r @x @y) ?_;refine dJ θ (by simp[aY,σ]) λk0 k1 q=>?_;refine ak (bh @o @p @r @x @y) ?_;have k2:=D.len;refine ep (W.mono (π n.sub q.sub)) (D.cells λ_ _=>hl.cells) (by simp[aY,σ]) (by grind) (by grind) λs k3 t=>?_;refine ak (bz @o @p @r @x @y @l) ?_;refine⟨⟨d+1,b.drop a,h.drop a,.any,gs++[.J (h.take a) m],s,F++[b.take a],δ,?_,k.drop a,by rw[a7F];omega,by simp[v],D.snoc ⟨_,_,rfl,k.take a⟩,t,ς⟩,δ⟩;rw[<-C,a7B];rfl
 .obtain rfl:d=c:=δ;rw[a9J,a1.eE,a8t]at C;refine ak (bz @o @p @r @x @y @e) ?_;exact⟨_,θ,W.sub,gs,P,rfl,by rw[<-C];exact D⟩
theorem EM(d:List (ao))(a:ύ)(h:Own)(c:U)(k:aB bB d a)(F:α d<=100000):
  AC γ 157 [.J a h] c λp r=>∃o,bj c r 37 a o/\p=.J a o:=by
 refine nr λG=>?_;have x:h=.nil->a=[]:=λy=>by subst y;simp_all
 refine bd hm PK ς ?_;simp -dsimp -implicitDefEqProofs (disch:=first|omega|assumption|(simp only[aW,Nat.reduceAdd];try omega)) only[go_sem,simprocAttr,-List.reduceReplicate,↓oz];refine oA (λb=>by rw[x b]) (λb=>?_) ?_
 .have z:a=[]:=by trivial
  subst z;refine ak @a8i ?_;exact⟨c,θ,.nil,Τ θ,rfl⟩
 .refine bU ?_;refine dJ θ (by simp[aY]) λL P C=>?_;refine bU ?_;have S:=k.len;refine ep C (λ_ b=>by cases b) (k.cells λ_ _=>Ξ) (by rw[a7x];omega) (by rw[a7x];omega) λD E T=>?_;refine ak @a7H.{0} ?_;exact⟨E,θ,D,by trivial,rfl⟩
theorem EN(L:List (ao))(S:ύ)(u:Own)(c:Nat)(T:U)(M:aB bB L S)(N:α L<=100000)(k4:c<=100000):
  AC γ 95 [.J S u,.v (.int .i64 (c:Int))] T λO V=>T.sub V/\∃gs Q,O=.J gs Q/\aB (hl bB) (a1.eE c L) gs:=by
 refine bd hm O1 ς ?_;refine bU ?_;refine cm (λz V=>∃(d:Nat)(b:List (ao))(h:ύ)(E:Own)(gs:ύ)(P:Own)(F:List (List (ao))),d<=c/\F++a1.eE (c - d) b=a1.eE c L/\aB bB b h/\α b<=100000/\α F=d/\aB (hl bB) F gs/\bj T V 1 gs P/\
   z 0=.J h E/\z 1=.v (.int .i64 c)/\z 5=.J gs P/\z 8=.v (.int .i64 c)/\z 9=.v (.int .i64 d))
  (λz _=>match z 9 with|.v (.int _ X)=>c - X.toNat|_=>0) ⟨0,L,S,u,[],.nil,[],δ,rfl,M,N,rfl,trivial,Τ θ,?_⟩ ?_
 .exact kD
 rintro z k5⟨d,b,h,E,gs,P,F,k6,C,k,Y,v,D,W,o,p,r,x,y⟩;by_cases e:(d)<(c:Int)
 .have w:=k.len;have Z:=EK (e:=c - d) δ Y;have A:(c) -(d)=((c - d:Nat):Int):=δ;rw[show c - d=(c -(d+1))+1 by omega,a1.eE]at C;rw[show c -(d+1)+1=c - d by omega]at C;generalize k7:c - d=G at*;have B:¬(G:Int)=0:=δ;have k8:=aac (α b) G;have H:(α b:Int).tdiv (G:Int)=((α b/G:Nat)):=rfl;have I:(α b:Int).tmod (G:Int)=((α b%G:Nat)):=rfl;obtain⟨a,f⟩:∃a,a=α b/G+(if 0<α b%G then 1 else 0):=⟨_,rfl⟩;rw[<-f]at Z C;by_cases K:0<α b%G
  .have g:((0)<((α b%G:Nat):Int))=True:=eq_true δ;have i:((α b/G:Nat))+1=(a:Int):=by rw[f,if_pos K];omega
   have j:dT 37 (.J h E) ζ (β (.v (.int .i64 (a))))=β (.J (h.take a) .any):=og δ δ (k.cells λ_ _=>Ξ);have l:dT 37 (.J h E) (β (.v (.int .i64 (a)))) ζ=β (.J (h.drop a) .any):=qT δ δ (k.cells λ_ _=>Ξ);refine ak (gr @o @p @r @x @y @e @w @A @H @I @B @g @i @j) ?_;refine ah (EM (b.take a) (h.take a) .any _ (k.take a) (by rw[a7q];omega)) ?_;rintro _ j9⟨m,n,rfl⟩;refine ak (bh @o @p @r @x @y) ?_;refine dJ θ (by simp[aY,σ]) λk0 k1 q=>?_;refine ak (bh @o @p @r @x @y) ?_;have k2:=D.len;refine ep (W.mono (π n.sub q.sub)) (D.cells λ_ _=>hl.cells) (by simp[aY,σ]) (by grind) (by grind) λs k3 t=>?_;refine ak (bz @o @p @r @x @y @l) ?_;refine⟨⟨d+1,b.drop a,h.drop a,.any,gs++[.J (h.take a) m],s,F++[b.take a],δ,?_,k.drop a,by rw[a7F];omega,by simp[v],D.snoc ⟨_,_,rfl,k.take a⟩,t,ς⟩,δ⟩;rw[<-C,a7B];rfl
  .have g:((0)<((α b%G:Nat):Int))=False:=eq_false δ;have i:((α b/G:Nat))=(a:Int):=by rw[f,if_neg K];omega
   have j:dT 37 (.J h E) ζ (β (.v (.int .i64 (a))))=β (.J (h.take a) .any):=og δ δ (k.cells λ_ _=>Ξ);have l:dT 37 (.J h E) (β (.v (.int .i64 (a)))) ζ=β (.J (h.drop a) .any):=qT δ δ (k.cells λ_ _=>Ξ);refine ak (gr @o @p @r @x @y @e @w @A @H @I @B @g @i @j) ?_;refine ah (EM (b.take a) (h.take a) .any _ (k.take a) (by rw[a7q];omega)) ?_;rintro _ j9⟨m,n,rfl⟩;refine ak (bh @o @p @r @x @y) ?_;refine dJ θ (by simp[aY,σ]) λk0 k1 q=>?_;refine ak (bh @o @p @r @x @y) ?_;have k2:=D.len;refine ep (W.mono (π n.sub q.sub)) (D.cells λ_ _=>hl.cells) (by simp[aY,σ]) (by grind) (by grind) λs k3 t=>?_;refine ak (bz @o @p @r @x @y @l) ?_;refine⟨⟨d+1,b.drop a,h.drop a,.any,gs++[.J (h.take a) m],s,F++[b.take a],δ,?_,k.drop a,by rw[a7F];omega,by simp[v],D.snoc ⟨_,_,rfl,k.take a⟩,t,ς⟩,δ⟩;rw[<-C,a7B];rfl
 .obtain rfl:d=c:=δ;rw[a9J,a1.eE,a8t]at C;refine ak (bz @o @p @r @x @y @e) ?_;exact⟨_,θ,W.sub,gs,P,rfl,by rw[<-C];exact D⟩
theorem mE{b:Type}:∀ {g:Nat}{l:List b},(a1.eE g l).length=g/\∀a∈a1.eE g l,α a<=α l
 |0,l=>⟨rfl,λa c=>by cases c⟩
 |g+1,l=>by
  have ih:=mE (g:=g) (l:=l.drop (α l/(g+1)+if 0<α l%(g+1)then 1 else 0));refine⟨by rw[a1.eE,a7s,ih.1],λa d=>?_⟩;rw[a1.eE]at d;grind
def EO(T:U)(y V:Nat)(W:af)(k8:bq T y V W)(a:List (List Ω))(j:ύ)(e:Own)(c:Nat)(k9:1<=c)(l0:c<=8)(l:aB (hl isRow) a j)(l1:∀m∈a,α m<=100000)(a14:α a<=100000):
  AC γ 49 [.J j e,.bG 52 [dO y c] []] T λu f=>match(dB cZ c W a []).1 with
   |.error v=>bq f y V (dB cZ c W a []).2/\Ext y V T f/\v≠0/\u=.aJ [.J [] .nil,.v (.int .i64 v)]
   |.ok bF=>∃d h,aB bB bF d/\u=.aJ [h,.v (.int .i64 0)]/\dr T f y V (dB cZ c W a []).2 37 (flat d) h/\(bF=[]->h=.J [] .nil):=by
 refine bd hm Mx ς ?_;have w:∀N,(R.agg N).cells=N:=λ_=>rfl;have A:=(aP (N:=.nil) (e6:=.nil) (h6:=.nil) bl).len;have O:=l.len;have l2:fA γ 52=true:=Χ;have a15:=bO.J (s:=T) (o:=e) (l.cells λ_ _=>hl.cells);refine ak @O ?_;refine cm (λk f=>∃(b:Nat)(g:af)(z:List ao)(d:ύ)(h:R),b<=α a/\dB cZ c g (a.drop b) z=dB cZ c W a []/\aB bB z d/\α z=b/\dr T f y V g 37 (flat d) h/\(z=[]->h=.J [] .nil)/\
   k 0=.J j e/\k 1=.bG 52 [dO y c] []/\k 6=h/\k 11=.J j e/\k 12=.v (.int .i64 (α a))/\k 13=.v (.int .i64 b))
  (λk _=>match k 13 with|.v (.int _ l3)=>α a - l3.toNat|_=>0) ⟨0,W,[],[],.J [] .nil,δ,rfl,trivial,rfl,dr.nil k8,λ_=>rfl,?_⟩ ?_
 .exact cf @O
 rintro k B⟨b,g,z,d,h,a16,D,n,l4,H,l5,E,F,G,L,P,S⟩;by_cases Q:(b:Int)<α a
 .have X:a[b]?=β a[b]:=Ρ δ;have Y:a.drop b=a[b]::a.drop (b+1):=a7M δ;have Z:=l1 _ (a7O (n:=b) δ);rw[Y,dB]at D;clear Y;generalize a[b]'δ=m at X D Z;obtain⟨a18,l6,q,I,rfl,j9⟩:=l.get X;obtain⟨a19,l7,l8⟩:=(bO.J (s:=B) (o:=e) (l.cells λ_ _=>hl.cells)).get b _ l6;have k0:=l8.ld B θ ι 1 δ (by simp[σ]);have l9:aM ι 1 (R.J q I).cells=.J q I:=rfl;rw[l9]at k0;refine ak (cO @E @F @G @L @P @S @Q @l7 @k0) ?_;refine eR l2 (ys B y V g H.fV m q (.J q I) c k9 l0 j9 (bO.J (j9.cells λ_ _=>φ)) Z) ?_;rintro u a27⟨k1,n0,s⟩;have k2:=H.step n0 k1;generalize a29:dF g c (cZ m)=n1 at*;obtain⟨res,n2⟩:=n1;simp only at D k1 s k2;obtain⟨C,o,p,r,v,k3,x⟩:=s.shape;have k4:=aP (N:=o) (e6:=p) (h6:=r) k3;have i:=k4.len;have K:putAt (ab az .nil .nil .nil) 0 (ab C o p r)=ab C o p r:=cx bl k3;subst x;refine ak (fF @E @F @G @L @P @S @ch @w @A @i @K) ?_;refine aN λa30 n3=>?_;have M:=k2.mono (μ (Y:=.cells (ab C o p r)) θ n3);cases res with
  |error a34=>obtain⟨n4,x⟩:=s;simp only[R.aJ.injEq,a9L,R.v.injEq,Value.int.injEq,true_and,and_true]at x;obtain⟨_,rfl⟩:=x;rw[<-D];refine ak (lB @E @F @G @L @P @S @ch @w @A @i @K @τ @n4) ?_;exact⟨_,θ,M.fV,M.ext⟩
  |ok k5=>
   obtain⟨n5,n9,a00,a01,a02,x⟩:=s;simp only[R.aJ.injEq,a9L,R.v.injEq,Value.int.injEq,true_and,and_true,R.agg.injEq]at x;obtain⟨x,rfl⟩:=x;obtain⟨a03,a04,a05,a06⟩:=M;refine ak (gr @E @F @G @L @P @S @ch @w @A @i @K @τ @ξ k4.t37) ?_;refine eQ (by simp[aY,σ,i]) ς λa36 a07=>?_;have a08:=av.mono a04 (μ (Y:=.cells (flat [R.agg (ab C o p r)])) θ a07);have a09:aB bB (z++[k5]) (d++[R.agg (ab C o p r)]):=n.snoc ⟨n5,n9,a00,a01,a02,by rw[x]⟩;have k6:(flat d).length=α z*37:=by rw[cU (n.cells λ_ _=>Ξ),n.len]
   have t:(flat [R.agg (ab C o p r)]).length=1*37:=by simp[flat,σ,i]
   refine ak (bz @E @F @G @L @P @S) ?_;refine fj a08 δ (nF t) t (by rw[k6,t];omega) (by rw[k6,t];omega) λa10 a38 k7=>?_;have a11:flat d++flat [R.agg (ab C o p r)]=flat (d++[R.agg (ab C o p r)]):=by simp[flat]
   rw[a11]at k7;refine ak (bz @E @F @G @L @P @S) ?_;exact⟨⟨b+1,n2,z++[k5],_,a10,δ,D,a09,by simp[l4],⟨a03,k7,a05,a06⟩,(λa13=>by simp at a13),ς⟩,δ⟩
 .obtain rfl:b=α a:=δ;rw[a9v,dB]at D;rw[<-D];refine ak (c7 @E @F @G @L @P @S @Q) ?_;exact⟨_,θ,d,h,n,rfl,H,l5⟩
def a0w(h:U)(c k:Nat)(d:af)(C:bq h c k d)(a:List (List Ω))(p:ύ)(r:Own)(b:Nat)(D:1<=b)(E:b<=8)(F:aB (hl isRow) a p)(G:∀L∈a,α L<=100000)(P:α a<=100000):
  AC γ 49 [.J p r,.bG 52 [dO c b] []] h λx o=>bq o c k (dB cZ b d a []).2/\Ext c k h o/\EJ (dB cZ b d a []).1 x:=by
 refine(EO h c k d C a p r b D E F G P).view λx o y=>?_;generalize dB cZ b d a []=S at*;obtain⟨res,m⟩:=S;cases res with
 |error n=>obtain⟨T,V,W,rfl⟩:=y;exact⟨_,o,View.refl,T,V,W,rfl⟩
 |ok bF=>obtain⟨e,q,z,rfl,f,_⟩:=y;obtain⟨g,i,j,l⟩:=f.te z;exact⟨_,g,View.aJ (a:=[]) i,j,l,e,.any,z,rfl⟩
def oN(a:af)(b:Nat)(c:List Ω):Except Int (List ao)×af:=dB cZ b a (a1.chunks c) []
def EP(T:U)(y V:Nat)(W:af)(k8:bq T y V W)(a:List (List (ao)))(j:ύ)(e:Own)(c:Nat)(k9:1<=c)(l0:c<=8)(l:aB (hl bB) a j)(l1:∀m∈a,α m<=100000)(a14:α a<=100000):
  AC γ 94 [.J j e,.bG 96 [dO y c] []] T λu f=>match(dB ew c W a []).1 with
   |.error v=>bq f y V (dB ew c W a []).2/\Ext y V T f/\v≠0/\u=.aJ [.J [] .nil,.v (.int .i64 v)]
   |.ok bF=>∃d h,aB bB bF d/\u=.aJ [h,.v (.int .i64 0)]/\dr T f y V (dB ew c W a []).2 37 (flat d) h/\(bF=[]->h=.J [] .nil):=by
 refine bd hm NZ ς ?_;have w:∀N,(R.agg N).cells=N:=λ_=>rfl;have A:=(aP (N:=.nil) (e6:=.nil) (h6:=.nil) bl).len;have O:=l.len;have l2:fA γ 96=true:=Χ;have a15:=bO.J (s:=T) (o:=e) (l.cells λ_ _=>hl.cells);refine ak @O ?_;refine cm (λk f=>∃(b:Nat)(g:af)(z:List ao)(d:ύ)(h:R),b<=α a/\dB ew c g (a.drop b) z=dB ew c W a []/\aB bB z d/\α z=b/\dr T f y V g 37 (flat d) h/\(z=[]->h=.J [] .nil)/\
   k 0=.J j e/\k 1=.bG 96 [dO y c] []/\k 6=h/\k 11=.J j e/\k 12=.v (.int .i64 (α a))/\k 13=.v (.int .i64 b))
  (λk _=>match k 13 with|.v (.int _ l3)=>α a - l3.toNat|_=>0) ⟨0,W,[],[],.J [] .nil,δ,rfl,trivial,rfl,dr.nil k8,λ_=>rfl,?_⟩ ?_
 .exact cf @O
 rintro k B⟨b,g,z,d,h,a16,D,n,l4,H,l5,E,F,G,L,P,S⟩;by_cases Q:(b:Int)<α a
 .have X:a[b]?=β a[b]:=Ρ δ;have Y:a.drop b=a[b]::a.drop (b+1):=a7M δ;have Z:=l1 _ (a7O (n:=b) δ);rw[Y,dB]at D;clear Y;generalize a[b]'δ=m at X D Z;obtain⟨a18,l6,q,I,rfl,j9⟩:=l.get X;obtain⟨a19,l7,l8⟩:=(bO.J (s:=B) (o:=e) (l.cells λ_ _=>hl.cells)).get b _ l6;have k0:=l8.ld B θ ι 1 δ (by simp[σ]);have l9:aM ι 1 (R.J q I).cells=.J q I:=rfl;rw[l9]at k0;refine ak (cO @E @F @G @L @P @S @Q @l7 @k0) ?_;refine eR l2 (ED B y V g H.fV m q (.J q I) c k9 l0 j9 (bO.J (j9.cells λ_ _=>Ξ)) Z) ?_;rintro u a27⟨k1,n0,s⟩;have k2:=H.step n0 k1;generalize a29:dF g c (ew m)=n1 at*;obtain⟨res,n2⟩:=n1;simp only at D k1 s k2;obtain⟨C,o,p,r,v,k3,x⟩:=s.shape;have k4:=aP (N:=o) (e6:=p) (h6:=r) k3;have i:=k4.len;have K:putAt (ab az .nil .nil .nil) 0 (ab C o p r)=ab C o p r:=cx bl k3;subst x;refine ak (fF @E @F @G @L @P @S @ch @w @A @i @K) ?_;refine aN λa30 n3=>?_;have M:=k2.mono (μ (Y:=.cells (ab C o p r)) θ n3);cases res with
  |error a34=>obtain⟨n4,x⟩:=s;simp only[R.aJ.injEq,a9L,R.v.injEq,Value.int.injEq,true_and,and_true]at x;obtain⟨_,rfl⟩:=x;rw[<-D];refine ak (lB @E @F @G @L @P @S @ch @w @A @i @K @τ @n4) ?_;exact⟨_,θ,M.fV,M.ext⟩
  |ok k5=>
   obtain⟨n5,n9,a00,a01,a02,x⟩:=s;simp only[R.aJ.injEq,a9L,R.v.injEq,Value.int.injEq,true_and,and_true,R.agg.injEq]at x;obtain⟨x,rfl⟩:=x;obtain⟨a03,a04,a05,a06⟩:=M;refine ak (gr @E @F @G @L @P @S @ch @w @A @i @K @τ @ξ k4.t37) ?_;refine eQ (by simp[aY,σ,i]) ς λa36 a07=>?_;have a08:=av.mono a04 (μ (Y:=.cells (flat [R.agg (ab C o p r)])) θ a07);have a09:aB bB (z++[k5]) (d++[R.agg (ab C o p r)]):=n.snoc ⟨n5,n9,a00,a01,a02,by rw[x]⟩;have k6:(flat d).length=α z*37:=by rw[cU (n.cells λ_ _=>Ξ),n.len]
   have t:(flat [R.agg (ab C o p r)]).length=1*37:=by simp[flat,σ,i]
   refine ak (bz @E @F @G @L @P @S) ?_;refine fj a08 δ (nF t) t (by rw[k6,t];omega) (by rw[k6,t];omega) λa10 a38 k7=>?_;have a11:flat d++flat [R.agg (ab C o p r)]=flat (d++[R.agg (ab C o p r)]):=by simp[flat]
   rw[a11]at k7;refine ak (bz @E @F @G @L @P @S) ?_;exact⟨⟨b+1,n2,z++[k5],_,a10,δ,D,a09,by simp[l4],⟨a03,k7,a05,a06⟩,(λa13=>by simp at a13),ς⟩,δ⟩
 .obtain rfl:b=α a:=δ;rw[a9v,dB]at D;rw[<-D];refine ak (c7 @E @F @G @L @P @S @Q) ?_;exact⟨_,θ,d,h,n,rfl,H,l5⟩
def a0x(h:U)(c k:Nat)(d:af)(C:bq h c k d)(a:List (List (ao)))(p:ύ)(r:Own)(b:Nat)(D:1<=b)(E:b<=8)(F:aB (hl bB) a p)(G:∀L∈a,α L<=100000)(P:α a<=100000):
  AC γ 94 [.J p r,.bG 96 [dO c b] []] h λx o=>bq o c k (dB ew b d a []).2/\Ext c k h o/\EJ (dB ew b d a []).1 x:=by
 refine(EP h c k d C a p r b D E F G P).view λx o y=>?_;generalize dB ew b d a []=S at*;obtain⟨res,m⟩:=S;cases res with
 |error n=>obtain⟨T,V,W,rfl⟩:=y;exact⟨_,o,View.refl,T,V,W,rfl⟩
 |ok bF=>obtain⟨e,q,z,rfl,f,_⟩:=y;obtain⟨g,i,j,l⟩:=f.te z;exact⟨_,g,View.aJ (a:=[]) i,j,l,e,.any,z,rfl⟩
def jZ(a:af)(b:Nat)(c:List (ao)):Except Int (List ao)×af:=dB ew b a (a1.chunks c) []
theorem pX{b:Type}{c:List b->bY}{d:Nat}:∀ {gs:List (List b)}{S S':af}{acc ks:List ao},dB c d S gs acc=(.ok ks,S')->α ks=α acc+α gs
 |[],S,S',acc,ks,a=>by
  grind[dB,Prod.mk.inj,Except.ok.inj]
 |h::gs,S,S',acc,ks,a=>by
  rw[dB]at a;split at a
  .simp_all
  .have:=pX a;rw[this];simp;omega
def hn(c:Nat):Nat->af->List ao->Except Int ao×af
 |0,a,_=>(.error 1,a)
 |d+1,a,bF=>
  if 1<α bF then match jZ a c bF with
   |(.error h,b)=>(.error h,b)
   |(.ok up,b)=>hn c d b up
  else(.ok (bF.headD az),a)
def ER(k:U)(c o:Nat)(g:af)(H:bq k c o g)(d:List ao)(i:ύ)(k4:Own)(b:Nat)(n5:1<=b)(n9:b<=8)(a00:aB bB d i)(a30:α d<=100000):
  AC γ 53 [dO c b,.J i k4] k λk5 h=>bq h c o (hn b (α d+1) g d).2/\Ext c o k h/\gX (hn b (α d+1) g d).1 k5:=by
 refine bd hm MF ς ?_;have T:∀k6,(R.agg k6).cells=k6:=λ_=>rfl;have I:=(aP (N:=.nil) (e6:=.nil) (h6:=.nil) bl).len;have K:∀E V:R,List.take 2 [E,V]=[E,V]:=λ_ _=>rfl;have M:∀E V,aM η 2 [E,V]=.agg [E,V]:=λ_ _=>rfl;refine ak @T ?_;refine aN λj k7=>?_;refine ak (c2 @T @ch) ?_;refine aN λF q=>?_;have k8:j≠F:=by rintro rfl;rw[ξ]at q;cases q
 have N:k F=none:=by rw[ο _ _ (Ι k8)]at q;exact q
 obtain⟨p,s⟩:∃p:U,p=(k.set j (.cells [.ptr c 0,.v (.int .i64 (b))])).set F (.cells (ab az .nil .nil .nil)):=⟨_,rfl⟩;have k9:k.sub p:=by rw[s];exact μ (μ θ k7) N
 have aL:p F=β (.cells (ab az .nil .nil .nil)):=by rw[s,ξ]
 have c2:p j=β (.cells [.ptr c 0,.v (.int .i64 (b))]):=by rw[s,ο _ _ k8,ξ]
 have G:=H.cA N;have l0:=H.cA k7;have l1:=(aP (N:=.nil) (e6:=.nil) (h6:=.nil) bl).t37;have l2:putAt (ab az .nil .nil .nil) 0 (ab az .nil .nil .nil)=ab az .nil .nil .nil:=cx bl bl;have O:∀(h)(l3),Ext c o p h->Ext c o k (h.set F l3):=λh l3 Q=>((Α k9).trans Q).set N;simp -dsimp -implicitDefEqProofs (disch:=first|omega|assumption|(simp only[aW,Nat.reduceAdd];try omega)) only[go_sem,simprocAttr,-List.reduceReplicate,T,ch];rw[show(k.set j (.cells (dO c b).cells)).set F (.cells (ε 32 (R.v (.int .u8 0))++[R.J [] .nil,.J [] .nil]++[R.v (.int .i64 0),.v (.int .i64 0)]++[R.J [] .nil]))=p by rw[s,<-ch];rfl];refine cm (λW h=>∃(e:Nat)(r:af)(a:List ao)(t:ύ)(u:Own),hn b e r a=hn b (α d+1) g d/\α a<e/\e<=100001/\aB bB a t/\bq h c o r/\Ext c o p h/\W 1=.J t u/\W 2=.ptr j 0/\W 4=.ptr F 0)
  (λW _=>match W 1 with|.J i _=>α i|_=>0) ⟨α d+1,g,d,i,k4,rfl,δ,δ,a00,H.mono k9,Ext.refl,?_⟩ ?_
 .exact kD
 rintro W l⟨e,r,a,t,u,x,a34,a36,v,X,m,L,P,S⟩;have w:=v.len;have Y:=m _ _ l0.1 l0.2 c2;have l4:=m _ _ G.1 G.2 aL;obtain⟨Z,rfl⟩:∃Z,e=Z+1:=⟨e - 1,δ⟩;rw[hn]at x;by_cases A:(1:Int)<α a
 .rw[if_pos δ]at x;refine ak (bw @L @P @S @w @A (κ Y) @K @M) ?_;refine ah (vi (α a) δ l) ?_;rintro _ l⟨rfl,rfl⟩;refine ak (bw @L @P @S @w @A (κ Y) @K @M) ?_;have l5:a1.bT (α a)<=100000:=by unfold a1.bT;omega
  refine ah (EN a t u (a1.bT (α a)) l v δ l5) ?_;rintro _ a01⟨j9,gs,a02,rfl,a03⟩;have a04:=j9 _ _ Y;refine ak (bz @L @P @S (κ a04) @K @M) ?_;have k0:=mE (g:=a1.bT (α a)) (l:=a);refine ah (a0x a01 c o r (X.mono j9) _ gs a02 b n5 n9 a03 (λa05 a06=>by have:=k0.2 a05 a06;omega) (by rw[k0.1];exact l5)) ?_;rintro k5 a38⟨n,a07,y⟩;have l6:jZ r b a=dB ew b r (a1.eE (a1.bT (α a)) a) []:=rfl;rw[<-l6]at n y;have l7:=λB a08 Q=>pX (c:=ew) (d:=b) (gs:=a1.eE (a1.bT (α a)) a) (S:=r) (S':=B) (acc:=[]) (ks:=a08) Q;rw[<-l6]at l7;have k1:=m.trans ((Α j9).trans a07);have a09:=k1 _ _ G.1 G.2 aL;generalize jZ r b a=a10 at*;obtain⟨res,B⟩:=a10;cases res with
  |error a42=>obtain⟨l8,rfl⟩:=y;simp only at x n;rw[<-x];refine ak (cg @L @P @S @l8 @ch @T (χ a09) @I @l1 @l2) ?_;exact⟨_,θ,n.set G,O _ _ k1,l8,rfl⟩
  |ok up=>
   obtain⟨a11,a13,l9,rfl⟩:=y;have n0:=l7 B up rfl;rw[k0.1]at n0;have a43:α up<α a:=by rw[n0];unfold a1.bT;simp;omega
   have a47:=l9.len;simp only at x n;refine ak (aE @L @P @S) ?_;exact⟨⟨Z,B,up,a11,a13,x,δ,δ,l9,n,k1,rfl⟩,δ⟩
 .rw[if_neg δ]at x;rw[<-x];by_cases k2:(α a:Int)=0
  .have:a=[]:=a7t δ;subst this;refine ak (gq @L @P @S @w @A @k2 @ch @T (χ l4) @I @l1 @l2) ?_;exact⟨_,θ,X.set G,O _ _ m,bl,pV,.nil,.nil,.nil,rfl⟩
  .have n1:a[0]?=β a[0]:=Ρ δ;have a14:a.headD az=a[0]'δ:=by cases a with|nil=>simp at k2|cons E V=>rfl
   rw[a14];generalize a[0]'δ=f at n1;obtain⟨E,a15,k3,a16,z,C,D,rfl⟩:=v.get n1;obtain⟨a48,n2,n3⟩:=(bO.J (s:=l) (o:=u) (v.cells λ_ _=>Ξ)).get 0 _ a15;have y:=aP (N:=z) (e6:=C) (h6:=D) k3;have a18:=y.len;have a19:(R.agg (ab f z C D)).cells=ab f z C D:=rfl;rw[a19]at n3;have n4:=n3.ld l θ η 37 δ (by rw[y.len];omega);rw[show aM η 37 (ab f z C D)=.agg (ab f z C D) by rw[aM,if_pos rfl,y.t37]]at n4;have a27:((0:Nat):Int)=0:=rfl;rw[a27]at n2;have a29:putAt (ab az .nil .nil .nil) 0 (ab f z C D)=ab f z C D:=cx bl k3;refine ak (gr @L @P @S @w @A @k2 @n2 @n4 @T (χ l4) @I @a18 @a29 y.t37) ?_;exact⟨_,θ,X.set G,O _ _ m,k3,a16,z,C,D,rfl⟩
end Go.Proofs.YtcfpcblgmmeioaaGreat
namespace Go.bD
open Go
variable{g H c0:ύ}{e i v M b9 j1:Nat}
theorem pY{a:ύ}{v:Nat}(b:g.take e=a)(c:α H=v)(d:α c0=i)(h:e+v+i<=α g):
  (putAt (putAt g (e+v) c0) e H).take (e+v+i)=a++(H++c0)/\(putAt (putAt g e H) (e+v) c0).take (e+v+i)=a++(H++c0):=by
 have k:α a=e:=by rw[<-b,a7q];omega
 constructor
 .have o:(g.take (e+v)).length=e+v:=by rw[a7q];omega
  grind[putAt,List.append_assoc,Nat.min_eq_left,List.drop_left',List.take_left',Β]
 grind[putAt,List.take_left',Β,List.append_assoc]
variable{e1:IntKind}
theorem oO(k:e<=M)(o:M<=b9):∃v,cn i (.aq j1 M b9 i) (β (.v (.int e1 (e:Int)))) ζ ζ=β v/\fi v=β (.v (.int .i64 ((M - e:Nat):Int)))/\
  ∀(c:U)(a b:ύ),c j1=β (.cells a)->M*i<=α a->a.take (M*i)=b->bW c i v=β (M - e,b.drop (e*i)):=by
 by_cases p:e<b9
 .refine⟨_,gu k o p,rfl,λc a b d r h=>?_⟩;have x:e*i+(M - e)*i=M*i:=by rw[<-a8w];congr 1;omega
  simp only[bW,κ d];grind
 .obtain rfl:e=M:=δ;obtain rfl:e=b9:=δ;refine⟨_,uA rfl,by simp[fi],λc a b d r h=>?_⟩;have:b.drop (e*i)=[]:=a8b (by rw[<-h,a7q];omega);rw[this,a9J];rfl
theorem ES{a:Nat}{b:IntKind}(c:b9<=e)(d:e<=M):∃v,cn i (.aq j1 a M i) (β (.v (.int e1 (b9:Int)))) (β (.v (.int b (e:Int)))) ζ=β v:=by simp_all [cn,cF,Go.bD.intOf]
theorem ET{a b:Nat}{c d:IntKind}(h:j1<=e)(k:e<=i)(o:i<=b9):∃v,cn M (.aq a b b9 M) (β (.v (.int e1 (j1:Int)))) (β (.v (.int c (e:Int)))) (β (.v (.int d (i:Int))))=β v:=by simp_all [cn,cF,Go.bD.intOf]
variable{f s e0:U}
theorem av.first(c:av f s e g (.aq v M b9 e))(d:i<=M):av f s e (g.take (i*e)) (.aq v i b9 e):=by
 obtain⟨h,a⟩:=c;rcases a with⟨_,a|a⟩|⟨y,z,C,k,b,o,p,r,D,E,F,x⟩
 .cases a
 .cases a
 simp only[R.aq.injEq,and_true]at b;obtain⟨rfl,rfl,rfl⟩:=b;have G:i*e<=M*e:=a7D _ d;exact⟨h,.inr ⟨v,i,b9,k,rfl,o,p,r,by grind,by simp_all,δ,x⟩⟩
theorem av.aq{o p:U}{k:Nat}{a:ύ}{r:R}(y:av o p k a r)(z:a≠[]):∃d b c h,r=.aq d b c k/\o d=ζ/\p d=β (.cells h)/\α h=c*k/\h.take (b*k)=a/\α a=b*k/\b<=c/\c<=maxLen:=by
 rcases y.2 with⟨x,_⟩|x
 .trivial
 .exact x
variable{n b5:R}{Y:bu}
theorem av.add(o:av s f i g n)(E:f e=β Y)(p:∀a b c,n=.aq a b c i->a≠e):av (s.set e Y) f i g n:=by
 obtain⟨r,d⟩:=o;refine⟨λx F h=>?_,?_⟩
 .by_cases y:x=e;grind[ξ]
  .rw[ο _ _ y]at h;exact r _ _ h
 .rcases d with d|⟨a,b,c,z,k,C,D⟩
  .exact .inl d
  .exact .inr ⟨a,b,c,z,k,by rw[ο _ _ (p _ _ _ k)];exact C,D⟩
variable{t Z:R -> U -> Prop}
theorem vj{a:cy t}(b:f M=β (.cells g))(c:α g=b9*e)(d:bW f e n=β (v,H))(h:i+v<=b9)(k:(i+v)*j1<=140737488355328)(o:i+v<=9223372036854775807)
  (p:t (.aq M (i+v) b9 e) (f.set M (.cells (putAt g (i*e) H)))):jS e j1 f (.aq M i b9 e) n (bX t a):=by
 simp_all [jS,wD,bX]
end Go.bD
namespace Go.Proofs.YtcfpcblgmmeioaaGreat
open Go Go.bD
theorem a0y(z o:U)(c:ύ)(C:R)(D:av z o 1 c C)(a:Nat)(E:a<α c)(u:α c<=100000):
  AC γ 234 [C,.v (.int .i64 (a:Int)),.v (.int .i64 ((a:Int)+1))] o λT V=>av z V 1 (c.take a++c.drop (a+1)) T:=by
 obtain⟨d,b,h,F,rfl,G,L,P,W,v,p,e⟩:=D.aq (λf=>by rw[f]at E;simp at E);refine bd hm RX ς ?_;have w:b=α c:=δ;have g:(a)+1=((a+1:Nat):Int):=δ;rw[g];obtain⟨A,i⟩:=ET (M:=1) (a:=d) (b:=b) (j1:=a) (e:=a+1) (e1:=.i64) (c:=.i64) (d:=.i64) δ δ p;have j:cn 1 (.aq d b h 1) ζ (β (.v (.int .i64 (a)))) ζ=β (.aq d a h 1):=ib δ;obtain⟨B,l,_,r⟩:=oO (i:=1) (j1:=d) (e:=a+1) (e1:=.i64) δ p;have r:=r o F c L (by rw[P];omega) W;have m:¬(a)=((a+1:Nat):Int):=δ;refine dL (aL @i @j @l @m) ?_;refine vj L P r δ δ δ ?_;have n:a+(b -(a+1))=b - 1:=δ;rw[n,a8g];have H:(c.drop ((a+1)*1)).length=b -(a+1):=by rw[a7F];omega
 obtain⟨k,x⟩:∃k,k=putAt F a (c.drop ((a+1)*1)):=⟨_,rfl⟩;have y:α k=h:=by rw[x,eO _ _ _ δ];omega
 have q:k.take (b - 1)=c.take a++c.drop (a+1):=by rw[x,putAt];grind
 rw[<-x];have s:(o.set d (.cells k)) d=β (.cells k):=ξ _ _ _;have S:cn 1 (.aq d (b - 1) h 1) (β (.v (.int .i64 ((b - 1:Nat))))) (β (.v (.int .i64 ((b))))) ζ=β (.bE d ((b - 1)*1) (b -(b - 1)) (h -(b - 1)) 1):=Da δ p δ;have t:=xH (e:=1) (M:=b -(b - 1)) (v:=b - 1) (b9:=h -(b - 1)) (H:=[R.J [] .nil]) s (by rw[y];omega);rw[a8g]at S;refine dL (aE @S @t @τ) ?_;refine⟨_,θ,μ D.1 G,.inr ⟨d,b - 1,h,_,rfl,G,ξ _ _ _,?_,?_,?_,δ,e⟩⟩
 .rw[eO _ _ _ (by rw[lu,y];simp;omega),y,a8g]
 .rw[putAt,a8g,a7B,a8T (by rw[a7q];omega),a8B,a9A,q]
 grind
theorem a0z(l o:U)(d:ύ)(H:R)(y:av l o 1 d H)(O:d≠[])(a:Nat)(l1:a<=α d)(l2:α d<=100000)(k:R)(z:Nat)(m:l z=β (.cells [k])):
  AC γ 227 [H,.v (.int .i64 (a:Int)),.aq z 1 1 1] o λQ G=>av l G 1 (d.take a++k::d.drop a) Q:=by
 obtain⟨c,b,h,x,rfl,n,D,q,s,l3,X,Y⟩:=y.aq O;refine bd hm RL ς ?_;have l4:b=α d:=δ;have L:=y.1 _ _ m;have I:c≠z:=by rintro rfl;rw[n]at m;cases m
 have W:((1:Nat):Int)=1:=rfl;obtain⟨l5,e,_,K⟩:=oO (i:=1) (j1:=c) (e:=a) (e1:=.i64) δ X;have t:∀G:U,G z=β (.cells [k])->bW G 1 (.aq z 1 1 1)=β (1,[k]):=λG y=>by simp[bW,κ y]
 by_cases c1:(a:Int)=b
 .have Z:=eq_true c1;refine dL (aE @e @Z @W) ?_;refine fj y δ (t o L) rfl (by grind) (by grind) λl6 G l7=>?_;refine De ?_;grind[θ,Ε,List.drop_eq_nil_of_le]
 have l8:a<b:=δ;have j9:=K o x d D δ s;rw[a8g]at j9;have M:(d.drop a).length=b - a:=by rw[a7F];omega
 by_cases c2:(h)<(b:Int)+1
 .have f:cn 1 (.aq c b h 1) ζ (β (.v (.int .i64 (a)))) ζ=β (.aq c a h 1):=ib δ;have N:(b)+1 -(a)=((b+1 - a:Nat):Int):=δ;refine dL (bz @e @c1 @W @c2 @f @N) ?_;refine xJ D q δ δ δ λp C k0 g i k1 k2=>?_;have k3:a+(b+1 - a)=b+1:=δ;rw[k3]at i k2|-;have k4:p≠c:=by rintro rfl;rw[g]at D;cases D
  have k5:p≠z:=by rintro rfl;rw[g]at L;cases L
  obtain⟨E,k6⟩:∃E,E=x.take (a*1)++(ε (b+1 - a) [R.J [] .nil]).flatten++k0:=⟨_,rfl⟩;have k7:α E=C:=by grind[Β,lu,List.length_take]
  have u:E.take a=d.take a:=by grind
  rw[<-k6];have V:cn 1 (.aq p (b+1) C 1) (β (.v (.int .i64 (a)))) ζ ζ=β (.bE p (a*1) (b+1 - a) (C - a) 1):=gu δ i δ;have F:cn 1 (.aq p (b+1) C 1) (β (.v (.int .i64 ((a)+1)))) ζ ζ=β (.bE p ((a+1)*1) (b+1 -(a+1)) (C -(a+1)) 1):=by rw[show(a)+1=((a+1:Nat):Int) by omega];exact gu δ i δ
  rw[a8g]at V F;rw[abi]at F;have v:(o.set p (.cells E)) z=β (.cells [k]):=by rw[ο _ _ (Ι k5)];exact L
  have P:=hD (M:=a) (j1:=C - a) (i:=b+1 - a) (t _ v) (ξ o p (.cells E)) δ;have w:[k].take ((b+1 - a)*1)=[k]:=Φ Μ;rw[w]at P;obtain⟨r,S⟩:∃r,r=putAt E a [k]:=⟨_,rfl⟩;have A:α r=C:=by rw[S,eO _ _ _ Μ,k7]
  rw[<-S]at P;have k8:(o.set p (.cells r)) c=β (.cells x):=by rw[ο _ _ (Ι k4)];exact D
  have j:=K _ x d k8 δ s;rw[a8g]at j;have T:=hD (M:=a+1) (j1:=C -(a+1)) (i:=b - a) j (ξ o p (.cells r)) δ;have B:(d.drop a).take ((b - a)*1)=d.drop a:=Φ δ;rw[B]at T;refine dL (fF @e @c1 @W @c2 @f @N @V @F @P @T @τ) ?_;refine⟨_,θ,μ y.1 (Ο y.1 g),.inr ⟨p,b+1,C,_,rfl,Ο y.1 g,ξ _ _ _,?_,?_,?_,i,k1⟩⟩
  .rw[eO _ _ _ δ,A,a8g]
  .have:=(pY (H:=[k]) (v:=1) u rfl M δ).2;rw[show(b+1)*1=a+1+(b - a) by omega,S];exact this
  grind
 .have f:cn 1 (.aq c b h 1) ζ (β (.v (.int .i64 ((b)+1)))) ζ=β (.aq c (b+1) h 1):=by rw[show(b)+1=((b+1:Nat):Int) by omega];exact ib δ
  have V:cn 1 (.aq c (b+1) h 1) (β (.v (.int .i64 (a)))) ζ ζ=β (.bE c (a*1) (b+1 - a) (h - a) 1):=gu δ δ δ;have F:cn 1 (.aq c (b+1) h 1) (β (.v (.int .i64 ((a)+1)))) ζ ζ=β (.bE c ((a+1)*1) (b+1 -(a+1)) (h -(a+1)) 1):=by rw[show(a)+1=((a+1:Nat):Int) by omega];exact gu δ δ δ
  rw[a8g]at V F;rw[abi]at F;have k9:x≠[]:=by rintro rfl;simp at q;omega
  have l0:lr (.aq z 1 1 1) (.bE c (a+1) (b - a) (h -(a+1)) 1) o=β (.v (.bool ι)):=xI rfl rfl (Ι I) (qZ L ς) (qZ D k9);have j:bW o 1 (.bE c a (b+1 - a) (h - a) 1)=β (b+1 - a,(x.drop a).take (b+1 - a)):=by simp only[bW,κ D,a8g];grind
  have T:=hD (M:=a+1) (j1:=h -(a+1)) (i:=b - a) j D δ;have B:((x.drop a).take (b+1 - a)).take ((b - a)*1)=d.drop a:=by rw[a8B,<-s,a8H];congr 1;omega
  rw[B]at T;obtain⟨r,S⟩:∃r,r=putAt x (a+1) (d.drop a):=⟨_,rfl⟩;rw[<-S]at T;have A:α r=α x:=by rw[S,eO _ _ _ δ]
  have v:(o.set c (.cells r)) z=β (.cells [k]):=by rw[ο _ _ (Ι I)];exact L
  have P:=hD (M:=a) (j1:=h - a) (i:=b+1 - a) (t _ v) (ξ o c (.cells r)) δ;have w:[k].take ((b+1 - a)*1)=[k]:=Φ Μ;rw[w]at P;refine dL (fF @e @c1 @W @c2 @f @V @F @l0 @T @P @τ) ?_;refine⟨_,θ,μ y.1 n,.inr ⟨c,b+1,h,_,rfl,n,ξ _ _ _,?_,?_,?_,δ,Y⟩⟩
  .rw[eO _ _ _ Μ,A,q]
  .have u:x.take a=d.take a:=by grind
   have:=(pY (H:=[k]) (v:=1) u rfl M δ).1;grind
  grind
end Go.Proofs.YtcfpcblgmmeioaaGreat
namespace Go.bD
open Go
variable{f s e0:U}{e i v M b9 j1:Nat}{Y:bu}
theorem U.tf(a:f e=β Y):f.set e Y=f:=by grind[ξ,ο]
variable{e1:IntKind}{g H c0:ύ}
def vk(k:i<=M)(h:M<=b9)(o:α g=e):∃v,cn e (.aq j1 M b9 e) (β (.v (.int e1 (i:Int)))) ζ ζ=β v/\
  ∀(b:U)(a:ύ),b j1=β (.cells a)->α a=b9*e->∃c,lq e g v b=β (b.set j1 (.cells c))/\α c=α a/\c.take (i*e)=a.take (i*e):=by
 by_cases p:i<b9
 .refine⟨_,gu k h p,λb a d r=>?_⟩;have x:i*e+(M - i)*e=M*e:=by rw[<-a8w];congr 1;omega
  have y:M*e<=b9*e:=a7D _ h;have z:i*e<=α a:=δ;refine⟨_,xH d δ,?_,?_⟩
  .rw[eO _ _ _ (by rw[lu,o];omega)]
  .rw[putAt,a7B,a8T (by rw[a7q];omega),a8B,a9A]
 .obtain rfl:i=M:=δ;obtain rfl:i=b9:=δ;exact⟨_,uA rfl,λb a d r=>⟨a,by rw[Y8,U.tf d],rfl,rfl⟩⟩
end Go.bD
namespace Go.Proofs.YtcfpcblgmmeioaaGreat
open Go Go.bD
theorem EU(l8 X r:U)(x G:ύ)(k7 v:R)(o b a c:Nat)(k8:Int)(l9:k8=(c:Int))(C:av X r 37 x k7)(k9:α x=o*37)(n0:av l8 X 37 G v)(V:α G=b*37)(a42:0<b)(a43:a<c)(a47:c<=o)(a48:o<=100000)(a52:b<=100000):
  AC γ 230 [k7,.v (.int .i64 (a:Int)),.v (.int .i64 k8),v] r λn1 g=>av X g 37 (x.take (a*37)++(G++x.drop (c*37))) n1:=by
 subst l9;obtain⟨h,n2,p,z,rfl,e,E,t,Y,a56,Z,j9⟩:=C.aq (λk0=>by rw[k0]at k9;simp at k9;omega);obtain⟨f,n3,l0,u,rfl,a57,k1,n4,a61,a62,a63,a65⟩:=n0.aq (λk0=>by rw[k0]at V;simp at V;omega);obtain rfl:o=n2:=δ;obtain rfl:b=n3:=δ;have L:=C.1 _ _ k1;have l1:h≠f:=by rintro rfl;rw[e]at k1;cases k1
 have m:∀g:U,g f=β (.cells u)->bW g 37 (.aq f b l0 37)=β (b,G):=λg C=>by
  simp only[bW,κ C];grind
 refine bd hm Cm ς ?_;obtain⟨a68,n⟩:=ES (i:=37) (j1:=h) (a:=o) (M:=p) (b9:=a) (e:=c) (e1:=.i64) (b:=.i64) δ δ;have q:¬(a:Int)=c:=δ;have s:cn 37 (.aq h o p 37) ζ (β (.v (.int .i64 (a)))) ζ=β (.aq h a p 37):=ib δ;have l2:(ε 32 (R.v (.int .u8 0))++[R.J [] .nil,.J [] .nil]++[R.v (.int .i64 0),.v (.int .i64 0)]++[R.J [] .nil]).length=37:=ς;have w:(x.take (a*37)).length=a*37:=by rw[a7q];omega
 by_cases c1:(c:Int)=o
 .have n5:=eq_true c1;obtain rfl:c=o:=δ;have n9:x.drop (c*37)=[]:=a8b δ;rw[n9,a8t];refine dL (aL @n @q @n5 @s) ?_;by_cases aE:a+b<c
  .refine vj E t (m r L) δ δ δ ?_;obtain⟨k,y⟩:∃k,k=putAt z (a*37) G:=⟨_,rfl⟩;have i:α k=α z:=by rw[y,eO _ _ _ δ]
   rw[<-y];obtain⟨a00,F,P⟩:=vk (j1:=h) (i:=a+b) (e1:=.i64) δ Z l2;obtain⟨j,k2,a01,l3⟩:=P (r.set h (.cells k)) k (ξ _ _ _) δ;have k3:((a+b:Nat))<(c:Int):=δ;refine dL (aL @k3 @F @k2 @τ) ?_;refine⟨_,θ,μ C.1 e,.inr ⟨h,a+b,p,_,rfl,e,ξ _ _ _,δ,?_,by rw[Ψ,w];omega,δ,j9⟩⟩;grind[putAt,List.take_left',Β,List.length_take]
  .refine fj (C.first δ) δ (m r L) V (by rw[w];omega) (by rw[w];omega) λa69 g l4=>?_;obtain⟨a02,a03,a71,a04⟩:=l4.src;rw[Ψ,w,V]at a03;obtain rfl:a02=a+b:=δ;have k3:¬((a+b:Nat))<(c:Int):=δ;refine dL (c2 @a04 @k3) ?_;exact⟨_,θ,l4⟩
 have a73:c<o:=δ;obtain⟨a05,A,B,l5⟩:=oO (i:=37) (j1:=h) (e1:=.i64) δ Z;have k4:(x.drop (c*37)).length=(o - c)*37:=by rw[a7F];omega
 obtain⟨d,a74⟩:∃a06,a06=a+b+(o - c):=⟨_,rfl⟩;have a81:(a)+(b)+((o - c:Nat))=(d:Int):=δ;have H:(a)+(b)=((a+b:Nat):Int):=δ;have I:((a+b:Nat))+((o - c:Nat))=(d:Int):=δ;by_cases c2:(p)<(d:Int)
 .have l6:(d) -(a)=((d - a:Nat):Int):=δ;refine dL (cg @n @q @c1 @s @A @B @H @I @c2 @l6) ?_;refine xJ E t δ δ δ λD S a07 K M a08 a09=>?_;have a10:a+(d - a)=d:=δ;rw[a10]at M a09|-;have a11:D≠h:=by rintro rfl;rw[K]at E;cases E
  have a13:D≠f:=by rintro rfl;rw[K]at L;cases L
  obtain⟨T,a14⟩:∃T,T=z.take (a*37)++(ε (d - a) (ε 32 (R.v (.int .u8 0))++[R.J [] .nil,.J [] .nil]++[R.v (.int .i64 0),.v (.int .i64 0)]++[R.J [] .nil])).flatten++a07:=⟨_,rfl⟩;have a15:α T=S*37:=by grind[Β,lu,List.length_take]
  have N:T.take (a*37)=x.take (a*37):=by grind
  rw[<-a14];have O:cn 37 (.aq D d S 37) (β (.v (.int .i64 (a)))) ζ ζ=β (.bE D (a*37) (d - a) (S - a) 37):=gu δ M δ;have Q:cn 37 (.aq D d S 37) (β (.v (.int .i64 ((a+b:Nat))))) ζ ζ=β (.bE D ((a+b)*37) (d -(a+b)) (S -(a+b)) 37):=gu δ M δ;have k5:(r.set D (.cells T)) f=β (.cells u):=by rw[ο _ _ (Ι a13)];exact L
  have l:=hD (M:=a*37) (j1:=S - a) (i:=d - a) (m _ k5) (ξ r D (.cells T)) δ;rw[Φ δ]at l;obtain⟨k,y⟩:∃k,k=putAt T (a*37) G:=⟨_,rfl⟩;have i:α k=α T:=by rw[y,eO _ _ _ δ]
  rw[<-y]at l;have a16:(r.set D (.cells k)) h=β (.cells z):=by rw[ο _ _ (Ι a11)];exact E
  have l7:=hD (M:=(a+b)*37) (j1:=S -(a+b)) (i:=d -(a+b)) (l5 _ z x a16 δ Y) (ξ r D (.cells k)) δ;rw[Φ δ]at l7;refine dL (pH @n @q @c1 @s @A @B @H @I @c2 @l6 @O @Q @l @l7 @τ) ?_;refine⟨_,θ,μ C.1 (Ο C.1 K),.inr ⟨D,d,S,_,rfl,Ο C.1 K,ξ _ _ _,?_,?_,?_,M,a08⟩⟩
  .rw[eO _ _ _ δ,i,a15]
  .have:=(pY N V k4 δ).2;rw[show d*37=a*37+b*37+(o - c)*37 by omega,y,show(a+b)*37=a*37+b*37 by omega];exact this
  grind
 have O:cn 37 (.aq h o p 37) ζ (β (.v (.int .i64 (d)))) ζ=β (.aq h d p 37):=ib δ;have Q:cn 37 (.aq h d p 37) (β (.v (.int .i64 (a)))) ζ ζ=β (.bE h (a*37) (d - a) (p - a) 37):=gu δ δ δ;have l:cn 37 (.aq h d p 37) (β (.v (.int .i64 ((a+b:Nat))))) ζ ζ=β (.bE h ((a+b)*37) (d -(a+b)) (p -(a+b)) 37):=gu δ δ δ;have N:z.take (a*37)=x.take (a*37):=by grind
 by_cases aE:((a+b:Nat))<=(c:Int)
 .have F:=hD (M:=a*37) (j1:=p - a) (i:=d - a) (m r L) E δ;rw[Φ δ]at F;obtain⟨k,y⟩:∃k,k=putAt z (a*37) G:=⟨_,rfl⟩;have i:α k=α z:=by rw[y,eO _ _ _ δ]
  have a83:(k.drop (c*37)).take ((o - c)*37)=x.drop (c*37):=by
   have a18:(z.take (a*37)++G).length=(a+b)*37:=by grind
   rw[y,putAt,show c*37=(a+b)*37+(c*37 -(a+b)*37) by omega,<-a8d,a9V a18,a8d,<-Y,a8H];congr 1
   .omega
   .congr 1;omega
  rw[<-y]at F;have a84:cn 37 (.aq h o p 37) (β (.v (.int .i64 (c)))) ζ ζ=β (.bE h (c*37) (o - c) (p - c) 37):=gu δ δ δ;have a19:bW (r.set h (.cells k)) 37 (.bE h (c*37) (o - c) (p - c) 37)=β (o - c,x.drop (c*37)):=by simp only[bW,κ (ξ r h (.cells k))];grind
  have P:=hD (M:=(a+b)*37) (j1:=p -(a+b)) (i:=d -(a+b)) a19 (ξ r h (.cells k)) δ;rw[Φ δ,τ]at P;obtain⟨j,k6⟩:∃j,j=putAt k ((a+b)*37) (x.drop (c*37)):=⟨_,rfl⟩;have a86:α j=α z:=by rw[k6,eO _ _ _ δ,i]
  rw[<-k6]at P;obtain⟨a00,a27,a29⟩:=vk (j1:=h) (i:=d) (e1:=.i64) δ Z l2;obtain⟨W,k2,a01,l3⟩:=a29 (r.set h (.cells j)) j (ξ _ _ _) δ;have a30:a05=.bE h (c*37) (o - c) (p - c) 37:=by grind
  subst a30;refine dL (D9 @n @q @c1 @s @A @B @H @I @c2 @aE @O @Q @l @F @P @a27 @k2 @τ) ?_;refine⟨_,θ,μ C.1 e,.inr ⟨h,d,p,_,rfl,e,ξ _ _ _,δ,?_,?_,δ,j9⟩⟩
  .rw[l3,k6,y,show d*37=a*37+b*37+(o - c)*37 by omega,show(a+b)*37=a*37+b*37 by omega];exact(pY N V k4 δ).2
  grind
 .have a34:z≠[]:=by rintro rfl;simp at t;omega
  have a36:u≠[]:=by rintro rfl;simp at n4;omega
  have a38:lr (.bE h ((a+b)*37) (d -(a+b)) (p -(a+b)) 37) (.aq f b l0 37) r=β (.v (.bool ι)):=xI rfl rfl l1 (qZ E a34) (qZ L a36);have F:=hD (M:=(a+b)*37) (j1:=p -(a+b)) (i:=d -(a+b)) (l5 r z x E δ Y) E δ;rw[Φ δ]at F;obtain⟨k,y⟩:∃k,k=putAt z ((a+b)*37) (x.drop (c*37)):=⟨_,rfl⟩;have i:α k=α z:=by rw[y,eO _ _ _ δ]
  rw[<-y]at F;have k5:(r.set h (.cells k)) f=β (.cells u):=by rw[ο _ _ (Ι l1)];exact L
  have P:=hD (M:=a*37) (j1:=p - a) (i:=d - a) (m _ k5) (ξ r h (.cells k)) δ;rw[Φ δ,τ]at P;refine dL (ot @n @q @c1 @s @A @B @H @I @c2 @aE @O @Q @l @a38 @F @P @τ) ?_;refine⟨_,θ,μ C.1 e,.inr ⟨h,d,p,_,rfl,e,ξ _ _ _,?_,?_,?_,δ,j9⟩⟩
  .rw[eO _ _ _ δ,i,t]
  .rw[y,show d*37=a*37+b*37+(o - c)*37 by omega,show(a+b)*37=a*37+b*37 by omega];exact(pY N V k4 δ).1
  grind
theorem a0A(S r:U)(k:ύ)(T:R)(c a b:Nat)(V:Int)(s:V=(b:Int))(F:av S r 37 k T)(e:α k=c*37)(k5:a<b)(k6:b<=c)(k7:c<=100000):
  AC γ 230 [T,.v (.int .i64 (a:Int)),.v (.int .i64 V),.J [] .nil] r λt C=>av S C 37 (k.take (a*37)++k.drop (b*37)) t:=by
 subst s;obtain⟨d,u,h,p,rfl,D,x,f,v,k8,G,g⟩:=F.aq (λw=>by rw[w]at e;simp at e;omega);obtain rfl:c=u:=δ;have i:∀C:U,bW C 37 (.J [] .nil)=β (0,[]):=λC=>rfl;refine bd hm Cm ς ?_;obtain⟨k9,j⟩:=ES (i:=37) (j1:=d) (a:=c) (M:=h) (b9:=a) (e:=b) (e1:=.i64) (b:=.i64) δ δ;have l:¬(a:Int)=b:=δ;have m:cn 37 (.aq d c h 37) ζ (β (.v (.int .i64 (a)))) ζ=β (.aq d a h 37):=ib δ;have n:(ε 32 (R.v (.int .u8 0))++[R.J [] .nil,.J [] .nil]++[R.v (.int .i64 0),.v (.int .i64 0)]++[R.J [] .nil]).length=37:=ς;have A:(k.take (a*37)).length=a*37:=by rw[a7q];omega
 by_cases c1:(b:Int)=c
 .have B:=eq_true c1;obtain rfl:b=c:=δ;have H:k.drop (b*37)=[]:=a8b δ;rw[H,a8t];refine dL (aL @j @l @B @m) ?_;refine vj x f (i r) δ δ δ ?_;have L:putAt p (a*37) []=p:=by simp[putAt]
  rw[L,U.tf x];obtain⟨I,E,z⟩:=vk (j1:=d) (i:=a) (e1:=.i64) δ G n;obtain⟨y,P,K,M⟩:=z r p x f;have N:(a)<(b:Int):=δ;refine dL (aL @a9p @N @E @P) ?_;refine⟨_,θ,μ F.1 D,.inr ⟨d,a,h,_,rfl,D,ξ _ _ _,δ,?_,A,δ,g⟩⟩;grind
 have l0:b<c:=δ;obtain⟨O,Q,X,Y⟩:=oO (i:=37) (j1:=d) (e1:=.i64) δ G;have l1:(k.drop (b*37)).length=(c - b)*37:=by rw[a7F];omega
 obtain⟨o,l2⟩:∃Z,Z=a+(c - b):=⟨_,rfl⟩;have j9:(a)+((c - b:Nat))=(o:Int):=δ;have c2:¬(h)<(o:Int):=δ;have k0:cn 37 (.aq d c h 37) ζ (β (.v (.int .i64 (o)))) ζ=β (.aq d o h 37):=ib δ;have k1:cn 37 (.aq d o h 37) (β (.v (.int .i64 (a)))) ζ ζ=β (.bE d (a*37) (o - a) (h - a) 37):=gu δ δ δ;have l3:p.take (a*37)=k.take (a*37):=by grind
 have aE:(a)<=(b:Int):=δ;have L:putAt p (a*37) ([])=p:=by simp[putAt]
 have E:=hD (M:=a*37) (j1:=h - a) (i:=o - a) (i r) x δ;rw[List.take_nil,L,U.tf x]at E;have l4:cn 37 (.aq d c h 37) (β (.v (.int .i64 (b)))) ζ ζ=β (.bE d (b*37) (c - b) (h - b) 37):=gu δ δ δ;have k2:O=.bE d (b*37) (c - b) (h - b) 37:=by simp_all
 subst k2;have z:=hD (M:=a*37) (j1:=h - a) (i:=o - a) (Y r p k x δ v) x δ;rw[Φ δ]at z;obtain⟨y,q⟩:∃y,y=putAt p (a*37) (k.drop (b*37)):=⟨_,rfl⟩;have l5:α y=α p:=by rw[q,eO _ _ _ δ]
 rw[<-q]at z;obtain⟨I,k3,k4⟩:=vk (j1:=d) (i:=o) (e1:=.i64) δ G n;obtain⟨W,P,K,M⟩:=k4 (r.set d (.cells y)) y (ξ _ _ _) δ;have l6:(([]:ύ).length:Int)=0:=rfl;refine dL (ot @j @l @c1 @m @Q @X @Int.add_zero @j9 @c2 @aE @k0 @k1 @E @z @k3 @P @τ) ?_;refine⟨_,θ,μ F.1 D,.inr ⟨d,o,h,_,rfl,D,ξ _ _ _,δ,?_,?_,δ,g⟩⟩;grind[putAt,List.take_left',Β];grind
end Go.Proofs.YtcfpcblgmmeioaaGreat
