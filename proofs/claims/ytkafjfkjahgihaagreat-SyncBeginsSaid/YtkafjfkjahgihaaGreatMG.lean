import Derived.Test.YtkafjfkjahgihaaGreatMF
import Derived.Test.YtkafjfkjahgihaaGreatMD
import Derived.Test.YtkafjfkjahgihaaGreatME
import Derived.Test.YtkafjfkjahgihaaGreatMC
set_option linter.all false
open Option renaming some->β,none->ε
open Go.Proofs.Tryz renaming prog->γ
open List renaming replicate->δ,zipWith->φ,range->χ,length_append->ω,take_of_length_le->Γ,drop_eq_getElem_cons->Θ,length->α
open Bool renaming true->ζ,false->θ
open Go.bD.U renaming a1->η,ad->ι,ae->κ,aj->μ,an->ξ,ao->ο,set_set->ς,aI->τ,bJ->Ι
open UInt8 renaming ofNat->ν
open BitVec renaming ofInt->π
open Go.bD.R renaming cells->ρ
open Go.Proofs.YtkafjfkjahgihaaGreat.isRow renaming cells->υ
open Go.Proofs.YtkafjfkjahgihaaGreat.Ext renaming of->ψ
open Go.Proofs.YtkafjfkjahgihaaGreat.bC renaming cells->Κ
set_option maxRecDepth 100000
namespace Go.bD
open Go
theorem a2v(a:Nat)(c:a<18446744073709551616):a^^^9223372036854775808=(a+9223372036854775808)%18446744073709551616:=by
 have h:(9223372036854775808)=2^63:=acv;have d:(18446744073709551616)=2^64:=acv;rw[d]at c;rw[h,d];apply aaA;intro b;rw[abn,acg,abO,abG];by_cases h1:b<63
 .rw[abx h1];grind
 .by_cases k:b=63;grind
  .have o:¬b<64:=acq;have p:a.testBit b=false:=aad (a9y c (a9X acq acq));grind
end Go.bD
namespace Go.Proofs.YtkafjfkjahgihaaGreat
open Go Go.bD
theorem a2w(a:Int):IntKind.u64.wrap (IntKind.u64.wrap a+9223372036854775808)=(cq a:Int):=by grind[kG,π,BitVec.toNat_ofInt,cq,BitVec.toNat_xor,a2v]
theorem a2x(b:Int)(k:U):
  AC γ 331 [.v (.int .i64 b)] k λE h=>av k h 1 ((ij b).map ah) E:=by
 refine bg hm TT acr ?_;refine aF (aD @a2w @aY @aZ) ?_;have F:cq b<18446744073709551616:=(π 64 b^^^π 64 9223372036854775808).isLt;have G:ij b=cD (cq b):=rfl;rw[G];generalize cq b=c at*;refine y3 (e:=8) acq acq λo p=>?_;refine aF (c2 @aY @aZ) ?_;refine cv (λd h=>∃a:Nat,a<=8/\h=k.set o (.cells (δ (8 - a) (ah 0)++((cD c).drop (8 - a)).map ah))/\d 4=.aq o 8 8 1/\d 3=.v (.int .u64 ((c/256^a:Nat)))/\d 5=.v (.int .i64 (7 -(a))))
  (λd _=>match d 5 with|.v (.int _ b)=>(b+8).toNat|_=>0) ⟨0,acq,?_⟩ ?_
 .refine aF (c2 @aY @aZ) ?_
  try (simp;try rfl)
 .rintro d h⟨a,T,rfl,r,x,y⟩;by_cases z:(0)<=7 -(a:Int)
  .have L:c/256^a<18446744073709551616:=Nat.lt_of_le_of_lt (aaY _ _) F;have C:=a2u (c/256^a) 256 L acq;have D:=zF (c/256^a) 256 acq;have P:((256:Nat):Int)=256:=rfl;rw[P]at C D;have S:(δ (8 - a) (ah 0)++((cD c).drop (8 - a)).map ah).length=8:=by
    have:(cD c).length=8:=rfl;simp[this]
    try omega
   refine aF (cj @x @r @y @z @C @D @iH @S @aY @aZ) ?_;refine⟨⟨a+1,acq,?_,?_,by(congr 2;try omega)⟩,acq⟩
   .congr 2;have zG:ν (c/256^a%256)=ν (c>>>(8*a)):=by grind[UInt8.toNat_inj,UInt8.toNat_ofNat',Nat.shiftRight_eq_div_pow,Nat.pow_mul]
    rw[zG];rcases(by omega:a=0\/a=1\/a=2\/a=3\/a=4\/a=5\/a=6\/a=7)with rfl|rfl|rfl|rfl|rfl|rfl|rfl|rfl<;>rfl
   .rw[Nat.div_div_eq_div_mul,<-abI]
  .obtain rfl:a=8:=acq;refine aF (bx @x @r @y @z @aY @aZ) ?_;refine⟨_,η,κ η p,.inr ⟨o,8,8,_,rfl,p,μ _ _ _,rfl,rfl,rfl,acq,acv⟩⟩
def a2y(b:Bool)(d:U):
  AC γ 278 [.v (.bool b)] d λh k=>av d k 1 ([if b then(1:UInt8)else 0].map ah) h:=by
 refine bg hm SN acr ?_;cases b
 .refine aF (c2 @aY @aZ) ?_;refine eP (by simp[aW,ρ]) acr λc a=>?_;refine aF (c2 @aY @aZ) ?_;exact⟨_,η,κ η a,.inr ⟨c,1,1,_,rfl,a,μ _ _ _,rfl,rfl,rfl,acq,acv⟩⟩
 .refine aF (c2 @aY @aZ) ?_;refine eP (by simp[aW,ρ]) acr λc a=>?_;refine aF (c2 @aY @aZ) ?_;exact⟨_,η,κ η a,.inr ⟨c,1,1,_,rfl,a,μ _ _ _,rfl,rfl,rfl,acq,acv⟩⟩
structure zH where
 o:iM
 st:Int
 yA:Bool
 a:iM
 b:iM
def zH.ok(a:zH):Prop:=a.o.ok/\a.a.ok/\a.b.ok
section
variable{F:zH}(h:F.ok)
include h
end
def G4(b:Nat)(d:U)(r:b<=1000000000000):AC γ 280 [.v (.int .i64 (b:Int))] d λk h=>fK d h (ft b) k:=by
 have x:∀a:Nat,(a:Int).tdiv 65536=((a/65536:Nat)):=λ_=>rfl;have y:∀a:Nat,(a:Int).tdiv 256=((a/256:Nat)):=λ_=>rfl;have z:∀a:Nat,(a:Int).tmod 256=((a%256:Nat)):=λ_=>rfl;have C:=λa=>iH a;refine aL hm SR ?_;have o:ft b=[ν (b/65536%256),ν (b/256%256),ν (b%256)]:=by have a:∀c,ν (c%256)=ν c:=λc=>a9f.1 acr;simp only[ft,a9l,a]
 rw[o];refine ve [_,_,_] (λD h p _=>?_);exact⟨_,η,p⟩
theorem vV(a:Τ)(p:Own)(k:U)(D:α a<=1000000):AC γ 279 [.J (af a) p] k λd o=>fK k o (dE a) d:=by
 have E:=λr=>iH r;have F:=bM (t:=a);refine aL hm SP ?_;refine ve [ν (α a)] (λd G L _=>?_);refine cd [0] (λb:Nat×R=>[(4,.v (.int .i64 b.1)),(3,b.2)]) (λb o=>b.1<=α a/\fK k o (ν (α a)::(a.take b.1).flatMap ij) b.2) (λb=>α a - b.1) (0,d) ⟨⟨acq,by trivial⟩,aR⟩ ?_;rintro⟨c,d⟩ P ⟨x,h⟩ S
 dsimp only at x h|-
 have T:=@dY a;refine aa ?_;refine aG (λy=>?_) λy=>?_
 .refine ib (a2x _ _) λV W z=>?_;have e:=oY (a.take c);have f:(a.take c).length=c:=acs;have g:∀C,(ij C).length=8:=λ_=>rfl;refine nI h z λa4 i j _=>?_;refine⟨(c+1,a4),⟨by simp only;omega,?_⟩,⟨rfl,rfl⟩,by simp only;omega⟩;grind[fa]
 .obtain rfl:c=α a:=acq;rw[a8F]at h;exact⟨_,η,h⟩
structure aK where
 name:Υ
 aE:List Υ
 bq:au
 bu:au
 deriving DecidableEq
instance:Inhabited aK:=⟨⟨[],[],aw,aw⟩⟩
structure eL(t:aK)(T:Ψ):Prop where
 e:∃gw gN ev a o5 o6 b,T=bc t.name::.J (bB t.aE) gw::(ab t.bq gN ev a++ab t.bu o5 o6 b)
 k:α t.bq.sum=32/\t.bq.cE
 z:α t.bu.sum=32/\t.bu.cE
 c:α t.aE<=1000000
def dJ(a:aK)(b:R):Prop:=∃T,b=.agg T/\eL a T
variable{g B e1:Ψ}{e8:aK}
theorem eL.all(x:eL e8 g):α g=76/\g.take 76=g/\aQ θ 1 g=bc e8.name/\∃o a b c d h k,aQ θ 1 (g.drop 1)=.J (bB e8.aE) o/\(g.drop 2).take 37=ab e8.bq a b c/\(g.drop 39).take 37=ab e8.bu d h k:=by obtain⟨⟨o,a,b,c,d,h,k,rfl⟩,⟨y,_⟩,⟨z,_⟩,_⟩:=x;have p:=(aT (M:=a) (e7:=b) (j0:=c) y).len;have r:=(aT (M:=d) (e7:=h) (j0:=k) z).len;refine⟨by simp[p,r],Ο (by simp[p,r]),rfl,o,a,b,c,d,h,k,rfl,?_,?_⟩;simp_all;grind
def a2z(a:UInt32):br .mul (.int .u32 256) (.int .u32 a.toNat)=β (.int .u32 (256*a).toNat):=De (x:=256) (y:=a)
def qu(a:UInt32):br .sub (.int .u32 4294967295) (.int .u32 a.toNat)=β (.int .u32 (~~~a).toNat):=by
 have b:=Dd (x:=4294967295) (y:=a);have c:(4294967295) - a= ~~~a:=by apply UInt32.toNat_inj.1;rw[UInt32.toNat_sub,UInt32.toNat_not];have:=a.toNat_lt;simp;omega
 rw[c]at b;exact b
theorem tT(a:UInt32):br .quo (.int .u32 a.toNat) (.int .u32 8)=β (.int .u32 (a>>>3).toNat):=by have b:=a.toNat_lt;grind[Int.tdiv,Int.tdiv_eq_ediv_of_nonneg,UInt32.toNat_shiftRight,Nat.shiftRight_eq_div_pow,br,fB,hR,rh]
theorem tU(a:UInt32):br .quo (.int .u32 a.toNat) (.int .u32 1024)=β (.int .u32 (a>>>10).toNat):=by have b:=a.toNat_lt;grind[Int.tdiv,Int.tdiv_eq_ediv_of_nonneg,UInt32.toNat_shiftRight,Nat.shiftRight_eq_div_pow,br,fB,hR,rh]
theorem mR(c:UInt32)(d:Int)(a:Nat)(r:0<a/\a<32)(h:d=((32 - a:Nat):Int))(b:U):AC γ 374 [.v (.int .u32 c.toNat),.v (.int .u64 d)] b λk o=>o=b/\k=.v (.int .u32 (rotl c a).toNat):=by
 subst h;have p:br .sub (.int .u64 32) (.int .u64 ((32 - a:Nat)))=β (.int .u64 (a)):=by grind[br,fB,hR,kG]
 refine bg hm UH acr ?_;simp -dsimp -implicitDefEqProofs (disch:=first|omega|assumption|(simp only[aX,Nat.reduceAdd];try omega)) only[↓sW,sX,ak,ofConst,cV,simprocAttr,fl,aY,aZ,a9A,↓sZ,ta,ne_eq,not_true_eq_false,not_false_eq_true,Int.reduceNe,a9V,aa8,p];refine⟨b,η,rfl,?_⟩;simp only[rotl];rw[UInt32.or_comm]
def a2A(a:U):AC γ 330 [] a λc d=>∃b,a b=ε/\c=.aq b 64 64 1/\d=a.set b (.cells (wl nK)):=by refine bg hm TR acr ?_;simp -dsimp -implicitDefEqProofs (disch:=first|omega|assumption|(simp only[aX,Nat.reduceAdd];try omega)) only[↓sW,sX,ak,ofConst,cV,simprocAttr,fl,aY,aZ,a9A,↓sZ,ta,ne_eq,not_true_eq_false,not_false_eq_true,Int.reduceNe,a9V,aa8];refine eP (by simp[aW,ρ]) acr λh k=>?_;simp -dsimp -implicitDefEqProofs (disch:=first|omega|assumption|(simp only[aX,Nat.reduceAdd];try omega)) only[↓sW,sX,ak,ofConst,cV,simprocAttr,fl,aY,aZ,a9A,↓sZ,ta,ne_eq,not_true_eq_false,not_false_eq_true,Int.reduceNe,a9V,aa8];refine⟨_,η,h,k,rfl,?_⟩;rfl
variable{j1:Χ}
def vW:(wl j1++g).length=α j1+α g:=by simp[wl]
variable{e i v O e0 j6:Nat}
theorem mS(a:e<α j1):aQ θ 1 ((wl j1++g).drop e)=.v (.int .u32 (j1.getD e 0).toNat):=by grind[wl,aQ,List.map_drop,Θ,List.getD]
def qv(a:0<α j1):aQ θ 1 (wl j1++g)=.v (.int .u32 (j1.getD 0 0).toNat):=mS (e:=0) a
theorem a2B(a:UInt32)(b:e<α j1):putAt (wl j1++g) e [.v (.int .u32 a.toNat)]=wl (j1.set e a)++g:=by rw[<-DU a b,putAt,putAt];grind[wl,eR,List.length_singleton]
def rV(a:Υ)(b:Nat):Nat->UInt32
 |0=>0
 |c+1=>256*rV a b c+(a.getD (4*b+c) 0).toUInt32
def zI(a b c:Nat)(d:b<2^c):a*2^c|||b=a*2^c+b:=by have:=aaK (a:=a) d;rw[aaq]at this;omega
def a2C(b a c d:Nat)(h:a<256)(k:c<256)(o:d<256):b*2^24|||a*2^16|||c*2^8|||d=((b*256+a)*256+c)*256+d:=by
 rw[zI b (a*2^16) 24 acq,show b*2^24+a*2^16=(b*256+a)*2^16 by omega,zI (b*256+a) (c*2^8) 16 acq,
  show(b*256+a)*2^16+c*2^8=((b*256+a)*256+c)*2^8 by omega,zI _ d 8 acq]
 all_goals omega
def a2D(a b c d:UInt8):(256:UInt32)*((256:UInt32)*((256:UInt32)*((256:UInt32)*(0:UInt32)+a.toUInt32)+b.toUInt32)+c.toUInt32)+d.toUInt32=a.toUInt32<<<24|||b.toUInt32<<<16|||c.toUInt32<<<8|||d.toUInt32:=by
 have z:=a.toNat_lt;have h:=b.toNat_lt;have k:=c.toNat_lt;have o:=d.toNat_lt;apply UInt32.toNat_inj.1;have p:(a.toUInt32<<<24).toNat=a.toNat*2^24:=by rw[UInt32.toNat_shiftLeft];simp[aaq];omega
 have r:(b.toUInt32<<<16).toNat=b.toNat*2^16:=by rw[UInt32.toNat_shiftLeft];simp[aaq];omega
 have x:(c.toUInt32<<<8).toNat=c.toNat*2^8:=by rw[UInt32.toNat_shiftLeft];simp[aaq];omega
 have y:d.toUInt32.toNat=d.toNat:=acr;rw[UInt32.toNat_or,UInt32.toNat_or,UInt32.toNat_or,p,r,x,y,a2C _ _ _ _ h k o];simp only[UInt32.toNat_add,UInt32.toNat_mul,UInt8.toNat_toUInt32,UInt32.reduceToNat];omega
def a2E(a:Υ)(b:Nat):rV a b 4=word a b:=a2D _ _ _ _
def a2F(b:α j1<64):er (j1++[0])=er j1:=by have a:64 - α j1=(64 -(α j1+1))+1:=acq;simp only[er,a,aan];simp
def a2G{b:UInt32}(a:UInt32)(c:e=α j1)(d:α j1<64):putAt (er (j1++[b])) e [.v (.int .u32 a.toNat)]=er (j1++[a]):=by subst c;simp[putAt,er,a9J]
variable{n b6:R}{f s e5:U}
def G5{v:Χ}(c:av f s 1 (wl v) n)(o:v≠[]):∃a b d,n=.aq a (α v) b 1/\f a=ε/\s a=β (.cells (wl v++d))/\α v+α d=b/\b<=maxLen:=by
 obtain⟨_,c|⟨a,C,b,p,rfl,r,x,y,h,k,D,z⟩⟩:=c
 .exact absurd (by simpa[wl] using c.1) o
 .simp only[a8Y,eR]at y h k;subst k;refine⟨a,b,p.drop (α v),rfl,r,?_,?_,z⟩
  .rw[<-h,a8K];exact x
  .simp;omega
theorem a2H(r F:Χ)(y:Υ)(n:α r=8)(a08:α F=64)(D S:Nat)(k5:Ψ)(w A:Nat)(l0:Ψ)(L:Nat)(z:U)
  (l1:z D=β (.cells (wl r++k5))) (l2:z w=β (.cells l0)) (a62:A+64<=α l0) (a09:∀l3,l3<64->aQ θ 1 (l0.drop (A+l3))=.v (.int .u8 (y.getD l3 0).toNat)) (l4:z L=β (.cells (wl F))):
  AC γ 360 [.aq D 8 S 1,.bE w A 64 e 1,.aq L 64 64 1] z λa10 E=>av z E 1 (wl (φ (·+ ·) (iK F (sched y) r) r)) a10:=by
 refine bg hm Ut acr ?_;refine aF (c2 @aY @aZ) ?_;refine y3 (e:=64) acq acq λx k6=>?_;have a11:D≠x:=by rintro rfl;rw[k6]at l1;cases l1
 have l9:w≠x:=by rintro rfl;rw[k6]at l2;cases l2
 have a13:L≠x:=by rintro rfl;rw[k6]at l4;cases l4
 have a14:(δ 64 [R.v (.int .u32 0)]).flatten=er (first y 0):=rfl;rw[a14];refine aF (c2 @aY @aZ) ?_;refine cv (λb E=>∃a:Nat,a<=16/\E=z.set x (.cells (er (first y a)))/\b 0=.aq D 8 S 1/\b 1=.bE w A 64 e 1/\b 2=.aq L 64 64 1/\b 7=.aq x 64 64 1/\b 8=.v (.int .i64 a))
  (λb _=>match b 8 with|.v (.int _ d)=>(16 - d).toNat|_=>0) ⟨0,acq,?_⟩ ?_
 .exact gH (c2 @aY @aZ)
 .rintro b _⟨a,l5,rfl,c,k7,h,k,k8⟩;have l6:(first y a).length=a:=by simp[first]
  by_cases o:(a:Int)<16
  .rw[<-a2F acq];refine aF (bz @c @k7 @h @k @k8 @o @aY @aZ) ?_;refine cv (λb E=>∃d:Nat,d<=4/\E=z.set x (.cells (er (first y a++[rV y a d])))/\b 0=.aq D 8 S 1/\b 1=.bE w A 64 e 1/\b 2=.aq L 64 64 1/\b 7=.aq x 64 64 1/\b 8=.v (.int .i64 a)/\b 9=.v (.int .i64 d))
    (λb _=>match b 9 with|.v (.int _ d)=>(4 - d).toNat|_=>0) ⟨0,acq,?_⟩ ?_
   .refine aF (cb @c @k7 @h @k @k8 @aY @aZ) ?_;rfl
   .rintro q _⟨d,a63,rfl,n0,n1,n2,n3,n4,n5⟩;by_cases n9:(d:Int)<4
    .have T:(er (first y a++[rV y a d])).length=64:=tj (by simp[l6];omega);have a15:aQ θ 1 ((er (first y a++[rV y a d])).drop a)=.v (.int .u32 (rV y a d).toNat):=by grind[lF,List.getD]
     have l7:(4*(a)+(d:Int)).toNat=4*a+d:=acq;have a16:=a09 (4*a+d) acq;refine aF (DG @n0 @n1 @n2 @n3 @n4 @n5 @n9 @T @a15 @uL @l7 (ι l2) (Δ l9) @l9 @a16 @a2z @aY @aZ) ?_;rw[a2G _ l6.symm acq];exact⟨⟨d+1,acq,rfl,acr⟩,acq⟩
    .obtain rfl:d=4:=acq;refine aF (cj @n0 @n1 @n2 @n3 @n4 @n5 @k8 @n9 @aY @aZ) ?_;refine⟨⟨a+1,acq,?_,acr⟩,acq⟩;rw[a2E];simp only[first,abS,a9i,a8C,a9z]
  .obtain rfl:a=16:=acq;refine aF (bz @c @k7 @h @k @k8 @o @aY @aZ) ?_;refine cv (λb E=>∃(p:Χ)(a:Nat),a<=48/\α p=16+a/\grow (48 - a) p=sched y/\b 0=.aq D 8 S 1/\b 2=.aq L 64 64 1/\b 7=.aq x 64 64 1/\b 10=.v (.int .i64 ((16+a:Nat)))/\E=z.set x (.cells (er p)))
    (λb _=>match b 10 with|.v (.int _ d)=>(64 - d).toNat|_=>0) ⟨first y 16,0,acq,l6,rfl,?_⟩ ?_
   .exact gH (bx @c @k7 @h @k @aY @aZ)
    all_goals rfl
   .rintro b _⟨p,a,l5,B,H,c,h,k,s,rfl⟩;by_cases o:((16+a:Nat):Int)<64
    .have T:(er p).length=64:=tj acq;have I:(((16+a:Nat):Int) - 15).toNat=a+1:=acq;have K:(((16+a:Nat):Int) - 2).toNat=a+14:=acq;have M:(((16+a:Nat):Int) - 16).toNat=a:=acq;have N:(((16+a:Nat):Int) - 7).toNat=a+9:=acq;refine aF (pZ @c @h @k @s @o @I @K @M @N @T @lF @tT @tU @aY @aZ) ?_;refine ag (mR _ _ 25 acv acv _) ?_;rintro _ _⟨rfl,rfl⟩;refine aF (pZ @c @h @k @s @o @I @K @M @N @T @lF @tT @tU @aY @aZ) ?_;refine ag (mR _ _ 14 acv acv _) ?_;rintro _ _⟨rfl,rfl⟩;refine aF (pZ @c @h @k @s @o @I @K @M @N @T @lF @tT @tU @aY @aZ) ?_;refine ag (mR _ _ 15 acv acv _) ?_;rintro _ _⟨rfl,rfl⟩;refine aF (pZ @c @h @k @s @o @I @K @M @N @T @lF @tT @tU @aY @aZ) ?_;refine ag (mR _ _ 13 acv acv _) ?_;rintro _ _⟨rfl,rfl⟩;refine aF (pZ @c @h @k @s @o @I @K @M @N @T @lF @tT @tU @aY @aZ) ?_;rw[yj _ B.symm acq];refine⟨⟨_,a+1,acq,by simp[B];omega,?_,?_,rfl⟩,acq⟩
     .rw[<-H,show 48 - a=(48 -(a+1))+1 by omega,grow,more,B];rw[show 16+a - 16=a by omega,show 16+a - 15=a+1 by omega,show 16+a - 7=a+9 by omega,show 16+a - 2=a+14 by omega];rfl
     .simp;omega
    .obtain rfl:a=48:=acq;have a18:p=sched y:=H;have a19:er p=wl p:=by simp[er,B,wl]
     rw[a19];clear H;generalize sched y=a65 at*;subst a18;have a27:bT (z.set x (.cells (wl p))) 1 (.aq D 8 S 1)=β (8,wl r):=by simp_all [ξ,eR,bT,ι]
     refine aF (bz @c @h @k @s @o @nC @aY @aZ) ?_;refine eZ (av.zero η) acq a27 (by rw[eR,n]) (by rw[eR,n];simp) (by rw[eR,n];simp) λa68 P t=>?_;rw[a8y]at t;refine aF (bl @c @h @k @aY @aZ) ?_;have V:(wl F).length=64:=by rw[eR,a08]
     have W:(wl p).length=64:=by rw[eR,B]
     have a29:(z.set x (.cells (wl p))) L=β (.cells (wl F)):=by rw[ξ _ _ a13];exact l4
     have a30:(z.set x (.cells (wl p))) x=β (.cells (wl p)):=μ _ _ _;have l8:(z.set x (.cells (wl p))) D=β (.cells (wl r++k5)):=by rw[ξ _ _ a11];exact l1
     have a00:z.sub (z.set x (.cells (wl p))):=κ η k6;generalize z.set x (.cells (wl p))=a34 at*;refine cv (λb E=>∃(a:Nat)(v:Χ),a<=64/\α v=8/\iK (F.drop a) (p.drop a) v=iK F p r/\av a34 E 1 (wl v) (b 13)/\b 0=.aq D 8 S 1/\b 2=.aq L 64 64 1/\b 7=.aq x 64 64 1/\b 14=.v (.int .i64 a))
      (λb _=>match b 14 with|.v (.int _ d)=>(64 - d).toNat|_=>0) ⟨0,r,acq,n,rfl,?_⟩ ?_
     .refine aF (bl @c @h @k @aY @aZ) ?_;exact t
     clear t;rintro b P⟨a,v,l5,u,H,t,c,h,k,G⟩;have f:=t.1;obtain⟨k9,a01,O,C,a02,mB,a36,a38⟩:=G5 t (by intro g;rw[g]at u;cases u);rw[u]at C a36;by_cases o:(a:Int)<64
     .obtain⟨Q,X,Y,Z,g,k3,q,k4,rfl⟩:∃Q X Y Z g k3 q k4,v=[Q,X,Y,Z,g,k3,q,k4]:=by
       match v,u with
       |[Q,X,Y,Z,g,k3,q,k4],_=>simp
      have i:(wl [Q,X,Y,Z,g,k3,q,k4]++O).length=8+α O:=by rw[vW,u]
      have j:=ι mB;have l:=ι (f _ _ a30);have m:=ι (f _ _ a29);refine aF (oT @c @h @k @C @G @o @i @j @l @m @mS @qv @hy @V @W @qu @a8Q.{0} @a8V.{0} @aY @aZ) ?_;refine ag (mR _ _ 26 acv acv _) ?_;rintro _ P⟨rfl,rfl⟩;refine aF (oT @c @h @k @C @G @o @i @j @l @m @mS @qv @hy @V @W @qu @a8Q.{0} @a8V.{0} @aY @aZ) ?_;refine ag (mR _ _ 21 acv acv _) ?_;rintro _ P⟨rfl,rfl⟩;refine aF (oT @c @h @k @C @G @o @i @j @l @m @mS @qv @hy @V @W @qu @a8Q.{0} @a8V.{0} @aY @aZ) ?_;refine ag (mR _ _ 7 acv acv _) ?_;rintro _ P⟨rfl,rfl⟩;refine aF (oT @c @h @k @C @G @o @i @j @l @m @mS @qv @hy @V @W @qu @a8Q.{0} @a8V.{0} @aY @aZ) ?_;refine ag (mR _ _ 30 acv acv _) ?_;rintro _ P⟨rfl,rfl⟩;refine aF (oT @c @h @k @C @G @o @i @j @l @m @mS @qv @hy @V @W @qu @a8Q.{0} @a8V.{0} @aY @aZ) ?_;refine ag (mR _ _ 19 acv acv _) ?_;rintro _ P⟨rfl,rfl⟩;refine aF (oT @c @h @k @C @G @o @i @j @l @m @mS @qv @hy @V @W @qu @a8Q.{0} @a8V.{0} @aY @aZ) ?_;refine ag (mR _ _ 10 acv acv _) ?_;rintro _ P⟨rfl,rfl⟩;refine aF (oT @c @h @k @C @G @o @i @j @l @m @mS @qv @hy @V @W @qu @a8Q.{0} @a8V.{0} @aY @aZ) ?_;refine eP (by simp[aW,ρ]) acr λa42 a03=>?_;refine aF (bx @c @h @k @G @aY @aZ) ?_;refine⟨⟨a+1,tk (F.getD a 0) (p.getD a 0) [Q,X,Y,Z,g,k3,q,k4],acq,rfl,?_,?_,acr⟩,acq⟩;grind[DY]
      .exact⟨κ f (Ι f a03),.inr ⟨a42,8,8,_,rfl,Ι f a03,μ _ _ _,rfl,rfl,rfl,acq,acv⟩⟩
     .obtain rfl:a=64:=acq;have a43:iK F p r=v:=by rw[<-H,a9E acq];rfl
      refine aF (bz @c @h @k @C @G @o @aY @aZ) ?_;have a04:D≠k9:=by rintro rfl;rw[a02]at l8;cases l8
      have a05:=Ι a00 a02;have a47:=f _ _ l8;refine cv (λb E=>∃a:Nat,a<=8/\b 0=.aq D 8 S 1/\b 13=.aq k9 8 a01 1/\b 19=.v (.int .i64 a)/\E=P.set k9 (.cells (wl (jY a v r)++O)))
       (λb _=>match b 19 with|.v (.int _ d)=>(8 - d).toNat|_=>0) ⟨0,acq,?_⟩ ?_
      .have l7:jY 0 v r=v:=rfl;rw[l7,U.q6 mB];exact gH (aP @c @C @aY @aZ)
      .rintro b _⟨a,l5,c,C,a06,rfl⟩;by_cases o:(a:Int)<8
       .obtain⟨a48,a52⟩:=DW v r u n a acq;have a56:(wl (jY a v r)++O).length=8+α O:=by rw[vW,a48]
        have a57:(wl r++k5).length=8+α k5:=by rw[vW,n]
        refine aF (gl @c @C @a06 @o @a56 @a57 @mS @a2B @a52 (ι a47) @a04 (Δ a04) @aY @aZ) ?_;grind
       .obtain rfl:a=8:=acq;have a61:jY 8 v r=φ (·+ ·) v r:=by grind[jY,Γ,List.drop_of_length_le]
        have a07:(wl (φ (·+ ·) v r)).length=8:=by rw[eR];simp;omega
        rw[a61];refine aF (bx @c @C @a06 @o @aY @aZ) ?_;rw[a43];refine⟨_,η,κ (ο a00 f) a05,.inr ⟨k9,8,a01,_,rfl,a05,μ _ _ _,?_,?_,by rw[a07],acq,a38⟩⟩
        .rw[Ρ,a07];omega
        simp_all
def a2I(b:Χ)(h:Υ)(z:α b=8)(k x:Nat)(y:Ψ)(o c:Nat)(d:Ψ)(p:Nat)(a:U)
  (C:a k=β (.cells (wl b++y))) (D:a o=β (.cells d)) (E:c+64<=α d) (F:∀r,r<64->aQ θ 1 (d.drop (c+r))=.v (.int .u8 (h.getD r 0).toNat)) (G:a p=β (.cells (wl nK))):
  AC γ 360 [.aq k 8 x 1,.bE o c 64 e 1,.aq p 64 64 1] a λL P=>av a P 1 (wl (comp b h)) L:=
 a2H b nK h z rfl k x y o c d p a C D E F G
end Go.Proofs.YtkafjfkjahgihaaGreat
namespace Go.bD
open Go
variable{n b6:R}{f s e5:U}{e i v O e0 j6:Nat}
theorem zJ{h:Nat×Ψ}(k:f.sub s)(o:bT f e n=β h):bT s e n=β h:=by
 have p:∀b c,f.read b=β c->s.read b=β c:=by
  intro b c a;unfold U.read at a|-;cases d:f b with
  |none=>rw[d]at a;cases a
  |some r=>rw[k _ _ d];rw[d]at a;exact a
 unfold bT at o|-;grind
end Go.bD
namespace Go.Proofs.YtkafjfkjahgihaaGreat
open Go Go.bD
def kV(a:Υ):Υ:=a++128::δ (et (α a)) 0++cD (8*α a)
def zK(a:Υ):(kV a).length=α a+9+et (α a):=by simp[kV,cD];omega
def a2J(a:Υ):(kV a).length%64=0:=by rw[zK];unfold et;omega
theorem a2K(a:Υ):fo a=eu (blocks ((kV a).length/64) gn (kV a)):=by
 have c:=zK a;have d:et (α a)<64:=by unfold et;omega
 have b:kV a=a++(128::δ (et (α a)) 0++cD (8*α a)):=by simp[kV]
 have h:jo (α a) (a.drop (64*(α a/64)))=(kV a).drop (64*(α a/64)):=by rw[b,a9P acq];simp[jo]
 have k:(kV a).length/64=α a/64+((kV a).drop (64*(α a/64))).length/64:=by rw[a8z];omega
 grind[fo,E2,E3]
theorem G6(b a:Nat)(d:a<8):(cD b).take a++[ν (b>>>(56 - 8*a)%256)]=(cD b).take (a+1):=by
 have c:ν (b>>>(56 - 8*a)%256)=ν (b>>>(56 - 8*a)):=by grind[UInt8.toNat_inj,UInt8.toNat_ofNat']
 rw[c];rcases(by omega:a=0\/a=1\/a=2\/a=3\/a=4\/a=5\/a=6\/a=7)with rfl|rfl|rfl|rfl|rfl|rfl|rfl|rfl<;>rfl
def zG(a:UInt32)(b:Nat):ν ((a>>>UInt32.ofNat b).toNat%256)=(a>>>UInt32.ofNat b).toUInt8:=by apply a9f.1;rw[a9k];simp
theorem a2L(c:Χ)(k:α c=8)(d:Nat)(p:d<32):(eu c).take d++[ν ((c.getD (d/4) 0>>>UInt32.ofNat (24 - 8*(d%4))).toNat%256)]=(eu c).take (d+1):=by
 rw[zG];have o:∀h:UInt32,(h>>>UInt32.ofNat 0).toUInt8=h.toUInt8:=by intro h;simp
 have r:∀a:Nat,a<8->∀b:Nat,b<4->(eu c).take (4*a+b)++[(c.getD a 0>>>UInt32.ofNat (24 - 8*b)).toUInt8]=(eu c).take (4*a+b+1):=by
  match c,k with
  |[x,y,z,C,D,E,F,G],_=>
   intro a L b P;rcases(by omega:a=0\/a=1\/a=2\/a=3\/a=4\/a=5\/a=6\/a=7)with rfl|rfl|rfl|rfl|rfl|rfl|rfl|rfl<;>
    rcases(by omega:b=0\/b=1\/b=2\/b=3)with rfl|rfl|rfl|rfl<;>first|rfl|(simp only[a8Q,a8V,Nat.reduceMul,Nat.reduceSub,o];rfl)
 grind
variable{f s e5:U}{e i v O e0 j6:Nat}
def vX{a:UInt8}:bT (f.set e (.cells (flat [.v (.int .u8 (a.toNat:Int))]))) 1 (.aq e 1 1 1)=β ([a].length,[a].map ah):=by simp[bT,ι (μ _ _ _),flat,ρ,ah]
variable{g B e1:Ψ}{w j8:Υ}
theorem a2M(a:g.take (α w)=w.map ah)(b:e<α w):aQ θ 1 (g.drop e)=.v (.int .u8 (w.getD e 0).toNat):=by grind[ah,List.take_append_drop,Θ,aQ,List.getD]
def a2N(a:UInt32):br .rem (.int .u32 (a.toNat:Int)) (.int .u32 256)=β (.int .u32 ((a.toNat%256:Nat):Int)):=by have b:br .rem (.int .u32 (a.toNat)) (.int .u32 256)=(if(256:Int)=0 then ε else β (.int .u32 ((a.toNat:Int).tmod 256))):=rfl;rw[b,if_neg acv];rfl
variable{n b6:R}
theorem zL{v:Υ}(d:av f s 1 (v.map ah) n)(h:v≠[]):∃a b c,n=.aq a (α v) b 1/\f a=ε/\s a=β (.cells c)/\α c=b/\c.take (α v)=v.map ah/\α v<=b:=by
 obtain⟨_,d|⟨a,k,b,c,rfl,o,p,r,x,y,z,C⟩⟩:=d
 .simp_all
 grind
theorem a2O(F:Χ)(k4:F=gn)(a:Υ)(a52:α a<=1000000000)(W:R)(V:Nat)(G:U)(a02:bT G 1 W=β (α a,a.map ah))(a03:fk W=β (.v (.int .i64 (α a))))(a04:G V=β (.cells (wl nK))):
  AC γ 329 [W,.aq V 64 64 1] G λa05 D=>D=G/\a05=bo (fo a):=by
 refine bg hm TP acr ?_;refine al (c2 @aY @aZ) ?_;refine aN λE m=>?_;have a06:=zJ (κ (η) m) a02 (s:=G.set E (.cells (δ 32 (.v (.int .u8 0)))));have a07:=κ (η) m (Z:=.cells (δ 32 (.v (.int .u8 0)))) _ _ a04;have a08:=κ (η) m (Z:=.cells (δ 32 (.v (.int .u8 0))));have a09:(G.set E (.cells (δ 32 (.v (.int .u8 0))))) E=β (.cells (δ 32 (.v (.int .u8 0)))):=μ _ _ _;refine al (aD @nC @aY @aZ) ?_;generalize G.set E (.cells (δ 32 (.v (.int .u8 0))))=w at*;refine rU (j8:=[]) (av.zero η) a06 acs λcu a56 A=>?_;rw[a8y]at A;refine al (c2 @aY @aZ) ?_;refine eP (by simp[aW,ρ]) acr λk5 e=>?_;refine al (c2 @aY @aZ) ?_;refine rU (A.mono (κ η e)) (vX (a:=128)) acs λcp P y=>?_;refine al (c2 @aY @aZ) ?_;have a57:et (α a)<64:=by unfold et;omega
 refine cv (λb D=>∃c:Nat,c<=et (α a)/\av w D 1 ((a++128::δ c 0).map ah) (b 5)/\b 0=W/\b 1=.aq V 64 64 1/\b 4=.ptr E 0)
  (λb _=>match b 5 with|.aq _ S _ _=>et (α a)+α a+1 - S|_=>0) ⟨0,acq,?_⟩ ?_
 .refine al (c2 @aY @aZ) ?_;exact y
 .clear y A;rintro b P⟨c,k6,y,x,h,d⟩;obtain⟨f,n,k7,p,k8,B,k9,H,l0⟩:=zL y acr;have I:(a++128::δ c 0).length=α a+1+c:=acs;rw[I]at p;by_cases L:c<et (α a)
  .have q:¬(Int.tmod ((α a+1+c:Nat):Int) 64=56):=by have:Int.tmod ((α a+1+c:Nat)) 64=(((α a+1+c)%64)):=rfl;rw[this];unfold et at L;omega
   refine al (cb @x @h @d @p @q @aY @aZ) ?_;refine eP (by simp[aW,ρ]) acr λk5 e=>?_;refine al (cb @x @h @d @p @q @aY @aZ) ?_;rw[<-p];refine rU (y.mono (κ η e)) (vX (a:=0)) acs λa10 l1 K=>?_;refine al (bx @x @h @d @p @aY @aZ) ?_;have M:a++128::δ c 0++[0]=a++128::δ (c+1) 0:=by rw[ac8];simp
   rw[M]at K;obtain⟨a61,a62,a63,rfl,_⟩:=zL K acr;grind
  .obtain rfl:c=et (α a):=acq;have q:(Int.tmod ((α a+1+et (α a):Nat):Int) 64=56):=by have:Int.tmod ((α a+1+et (α a):Nat)) 64=(((α a+1+et (α a))%64)):=rfl;rw[this];unfold et;omega
   have a11:IntKind.u64.wrap (8*IntKind.u64.wrap (α a))=((8*α a:Nat)):=by rw[kG,kG];omega
   rw[<-I]at p;refine al (cj @x @h @d @p @I @q @a03 @a11 @aY @aZ) ?_;rw[<-p]at*;refine cv (λb D=>∃c:Nat,c<=8/\av w D 1 ((a++128::δ (et (α a)) 0++(cD (8*α a)).take c).map ah) (b 5)/\b 0=W/\b 1=.aq V 64 64 1/\b 4=.ptr E 0/\b 6=.v (.int .u64 ((8*α a:Nat)))/\b 7=.v (.int .i64 c))
    (λb _=>match b 7 with|.v (.int _ S)=>(8 - S).toNat|_=>0) ⟨0,acq,?_⟩ ?_
   .refine al (bl @x @h @d @aY @aZ) ?_;simp_all
   .clear k8 B k9 H l0 x h d p y;rintro b P⟨c,k6,y,x,h,d,g,i⟩;have a65:=G6 (8*α a) c;by_cases L:(c:Int)<8
    .have a13:IntKind.u64.wrap (56 - 8*(c))=((56 - 8*c:Nat)):=by rw[kG];omega
     have l2:=zF ((8*α a)>>>(56 - 8*c)) 256 acq;have a14:((256:Nat):Int)=256:=rfl;rw[a14]at l2;refine al (gk @x @h @d @g @i @L @a13 @l2 @iH @aY @aZ) ?_;refine eP (by simp[aW,ρ]) acr λk5 e=>?_;refine al (cb @x @h @d @g @i @aY @aZ) ?_;refine rU (y.mono (κ η e)) vX (by simp[cD];omega) λa10 l1 K=>?_;refine al (cb @x @h @d @g @i @aY @aZ) ?_;grind
    .obtain rfl:c=8:=acq;have a15:(cD (8*α a)).take 8=cD (8*α a):=rfl;rw[a15]at y;refine al (bz @x @h @d @g @i @L @aY @aZ) ?_;refine eP (by simp[aW,ρ]) acr λs l3=>?_;have l4:flat [R.v (Value.int IntKind.u32 1779033703),R.v (Value.int IntKind.u32 3144134277),R.v (Value.int IntKind.u32 1013904242),R.v (Value.int IntKind.u32 2773480762),R.v (Value.int IntKind.u32 1359893119),R.v (Value.int IntKind.u32 2600822924),R.v (Value.int IntKind.u32 528734635),R.v (Value.int IntKind.u32 1541459225)]=wl gn:=rfl;rw[l4];have a68:=zK a;have a69:=a2J a;have l5:av w P 1 ((kV a).map ah) (b 5):=y;obtain⟨f,n,k7,p,k8,B,k9,H,l0⟩:=zL l5 (by grind);have N:=y.1;have O:=a2K a;have l6:av P (P.set s (.cells (wl gn))) 1 (wl gn) (.aq s 8 8 1):=⟨κ η l3,.inr ⟨s,8,8,_,rfl,l3,μ _ _ _,rfl,rfl,rfl,acq,acv⟩⟩;have l7:α gn=8:=rfl;generalize P.set s (.cells (wl gn))=l1 at*;rw[<-k4]at l6 O l7;clear k4 l4;generalize a16:kV a=r at*;clear y l5 a16;refine al (bx @x @h @d @p @aY @aZ) ?_;refine cv (λb D=>∃k:Nat,k<=α r/64/\av P D 1 (wl (blocks k F r)) (b 8)/\b 1=.aq V 64 64 1/\b 4=.ptr E 0/\b 5=.aq f (α r) n 1/\b 9=.v (.int .i64 ((64*k:Nat))))
      (λb _=>match b 9 with|.v (.int _ S)=>(α r - S).toNat|_=>0) ⟨0,acq,?_⟩ ?_
     .refine al (bl @h @d @p @aY @aZ) ?_;exact l6
     .clear x h d p g i;rintro b l8⟨k,a71,Q,h,d,p,j⟩;have T:(blocks k F r).length=8:=q5 _ _ _ l7;obtain⟨X,l9,Y,z,a73,t,a74,a81⟩:=G5 Q (by intro M;rw[M]at T;cases T);rw[T]at z;have l:=Q.1;by_cases L:k<α r/64
      .have Z:((64*k:Nat))<(α r:Int):=acq;have a18:dX 1 (.aq f (α r) n 1) (β (.v (.int .i64 ((64*k:Nat))))) (β (.v (.int .i64 (((64*k:Nat))+64))))=β (.bE f (64*k) 64 (n - 64*k) 1):=by have n0:(((64*k):Int)+64).toNat=64*k+64:=acq;simp only[dX,cJ,Go.bD.intOf,qZ];grind
       refine al (de @h @d @p @z @j @Z @a18 @aY @aZ) ?_;have a19:=vh k F r;refine ag (a2I (blocks k F r) ((r.drop (64*k)).take 64) T X l9 Y f (64*k) k7 V l8 t (l _ _ B) acq ?_ (l _ _ (N _ _ a07))) ?_
       .intro c k6;rw[a2M H acq];simp_all
       rintro a83 a84 n1;refine al (cb @h @d @p @z @j @aY @aZ) ?_;rw[<-a19]at n1;exact⟨⟨k+1,acq,n1.base l,acs⟩,acq⟩
      .have Z:¬((64*k:Nat))<(α r:Int):=acq;obtain rfl:k=α r/64:=acq;refine al (bz @h @d @p @z @j @Z @aY @aZ) ?_;refine aN λu k3=>?_;have n2:X≠u:=by rintro rfl;rw[k3]at t;cases t
       have v:=l _ _ (N _ _ a09);have n3:E≠u:=by rintro rfl;rw[k3]at v;cases v
       have a27:=a2L (blocks (α r/64) F r) T;have a29:(eu (blocks (α r/64) F r)).length=32:=by rw[vk,T]
       rw[O];clear O Q;generalize blocks (α r/64) F r=C at*;have a30:(wl C++Y).length=8+α Y:=by rw[vW,T]
       refine al (cb @h @d @p @z @j @aY @aZ) ?_;refine cv (λb D=>∃o:Nat,o<=32/\D=l8.set u (.cells (ie ((eu C).take o)))/\b 8=.aq X 8 l9 1/\b 10=.ptr u 0/\b 4=.ptr E 0/\b 11=.v (.int .i64 o))
        (λb _=>match b 11 with|.v (.int _ S)=>(32 - S).toNat|_=>0) ⟨0,acq,?_⟩ ?_
       .refine al (aP @d @z @aY @aZ) ?_;rfl
       .clear h d p z j;rintro b _⟨o,a86,rfl,z,n4,d,n5⟩;have a34:((eu C).take o).length=o:=acs;have n9:(ie ((eu C).take o)).length=32:=vj acq;by_cases L:(o:Int)<32
        .have n0:IntKind.i64.wrap ((o:Int).tdiv 4)=((o/4:Nat)):=by have:(o:Int).tdiv 4=((o/4:Nat)):=rfl;rw[this,wrap_i64 acq acq]
         have a36:(o:Int).tmod 4=((o%4:Nat)):=rfl;have a38:IntKind.u64.wrap (24 - 8*((o%4:Nat)))=((24 - 8*(o%4):Nat)):=by rw[kG];omega
         have a42:o/4<8:=acq;have a43:((o/4:Nat))<((8:Nat):Int):=acq;refine al (oT @z @n4 @d @n5 @L @n0 @a36 @a38 @a43 @a42 @a30 @n9 (ι t) @n2 (Δ n2) @mS @a2N @iH @aY @aZ) ?_;rw[yq _ a34.symm acq,a27 o acq];grind
        .obtain rfl:o=32:=acq;refine al (gV @z @n4 @d @n5 @L @n9 @n3 (Δ n3) (ι v) (τ v) @aY @aZ) ?_;have a47:(eu C).take 32=eu C:=Ο acq;have a48:ie (eu C)=(eu C).map ah:=by simp[ie,a29]
         have a00:((eu C).map ah).take 32=(eu C).map ah:=Ο acs;rw[a47,a48,a00,a00];refine⟨G,?_,rfl,rfl⟩;have a01:=ο a08 (ο N l);exact κ (κ a01 (Ι a01 k3)) m
def a2P(a:Υ)(h:α a<=1000000000)(c:R)(d:Nat)(b:U)(k:bT b 1 c=β (α a,a.map ah))(o:fk c=β (.v (.int .i64 (α a))))(p:b d=β (.cells (wl nK))):
  AC γ 329 [c,.aq d 64 64 1] b λr x=>x=b/\r=bo (fo a):=a2O gn rfl a h c d b k o p
def a2Q(a:Υ)(r:α a<=1000000000)(c:R)(b:U)(x:bT b 1 c=β (α a,a.map ah))(y:fk c=β (.v (.int .i64 (α a)))):
  AC γ 276 [c] b λz C=>C=b/\z=bo (fo a):=by
 refine bg hm SJ acr ?_;refine al (c2 @aY @aZ) ?_;refine aN λD d=>?_;refine al (c2 @aY @aZ) ?_;refine ag (a2A _) ?_;rintro _ _⟨h,E,rfl,rfl⟩;obtain⟨k,o⟩:=U.gG E;refine al (c2 @aY @aZ) ?_;have F:b.sub ((b.set D (.cells (δ 32 (.v (.int .u8 0))))).set h (.cells (wl nK))):=κ (κ η d) o;refine ag (a2P a r c h _ (zJ F x) y (μ _ _ _)) ?_;rintro _ _⟨rfl,rfl⟩;have p:((fo a).map ah).length=32:=by rw[a8o,iL]
 have G:bo (fo a)=.agg ((fo a).map ah):=rfl;have L:((fo a).map ah).take 32=(fo a).map ah:=Ο acq;rw[G];have P:putAt (δ 32 (R.v (.int .u8 0))) 0 ((fo a).map ah)=(fo a).map ah:=by rw[putAt,p];simp
 refine al (cb @p @L @P @k (Δ k) @aY @aZ) ?_;exact⟨b,κ (κ η d) o,rfl⟩
def a2R{a:UInt8}(b:f e=ε):av f (f.set e (.cells (flat [.v (.int .u8 (a.toNat:Int))]))) 1 ([a].map ah) (.aq e 1 1 1):=
 ⟨κ η b,.inr ⟨e,1,1,_,rfl,b,μ _ _ _,rfl,rfl,rfl,acq,acv⟩⟩
theorem a2S(k:UInt8)(b:List (R×Υ))(x:R)(i:Nat)(r:U)(j:fk x=β (.v (.int .i64 (α b))))
  (l:∀o:Nat,o<α b->cO 1 x (.v (.int .i64 o))=β (.ptr i o))
  (B:∀o (k6:o<α b),∃y,r i=β (.cells y)/\o<α y/\aQ θ 1 (y.drop o)=b[o].1)
  (H:∀a∈b,bT r 1 a.1=β (α a.2,a.2.map ah)/\fk a.1=β (.v (.int .i64 (α a.2))))
  (I:(preB k (b.map (·.2))).length<=1000000):
  AC γ 277 [.v (.int .u8 (k.toNat:Int)),x] r λK z=>av r z 1 ((preB k (b.map (·.2))).map ah) K:=by
 refine bg hm SL acr ?_;refine aF (c2 @aY @aZ) ?_;refine eP (by simp[aW,ρ]) acr λM T=>?_;refine aF (c2 @aY @aZ) ?_;have m:=a2R (a:=k) T;refine cv (λc z=>∃a C:List (R×Υ),b=a++C/\av r z 1 ((preB k (a.map (·.2))).map ah) (c 5)/\c 1=x/\c 6=.v (.int .i64 (α a)))
  (λc _=>match c 6 with|.v (.int _ V)=>(α b - V).toNat|_=>0) ⟨[],b,rfl,?_⟩ ?_
 .refine aF (c2 @aY @aZ) ?_;exact m
 .clear m;rintro c k7⟨a,C,p,W,e,D⟩;cases C with
  |nil=>
   have P:α b=α a:=by rw[p];simp
   rw[a9p]at p;have f:¬(α a)<(α b:Int):=acq;refine aF (bx @e @D @j @f @aY @aZ) ?_;rw[p];exact⟨_,η,W⟩
  |cons N C=>
   obtain⟨g,d⟩:=N;have P:α a<α b:=by rw[p];simp
   have f:(α a)<(α b:Int):=acq;have O:b[α a]=(g,d):=by subst p;simp
   obtain⟨y,n,c2,aD⟩:=B (α a) P;rw[O]at aD;obtain⟨q,s⟩:=H (g,d) (by rw[p];simp);simp only at q s aD;have k8:(preB k (a.map (·.2))).length+8+α d<=1000000:=by refine a8W ?_ I;rw[p];simp[preB,chunk,cD];omega
   have Q:=ym k (b.map (·.2));rw[a8o]at Q;have t:α a+1<=α y:=acq;have u:=W.1;simp -dsimp -implicitDefEqProofs (disch:=first|omega|assumption|(simp only[aX,Nat.reduceAdd];try omega)) only[go_sem,simprocAttr,aY,aZ,e,D,j,f,l _ P,ι (u _ _ n),t,aD,s];refine cv (λc z=>∃h:Nat,h<=8/\av r z 1 ((preB k (a.map (·.2))++(cD (α d)).take h).map ah) (c 5)/\c 1=x/\c 6=.v (.int .i64 (α a))/\c 7=.v (.int .u64 (α d:Int))/\c 8=.v (.int .i64 h))
    (λc _=>match c 8 with|.v (.int _ V)=>(8 - V).toNat|_=>0) ⟨0,acq,?_⟩ ?_
   .refine aF (aP @e @D @aY @aZ) ?_;simp_all
   .clear W u;rintro k9 l0⟨h,l1,S,E,F,G,L⟩;have l2:=G6 (α d) h;by_cases v:(h:Int)<8
    .have X:IntKind.u64.wrap (56 - 8*(h))=((56 - 8*h:Nat)):=by rw[kG];omega
     have w:=zF (α d>>>(56 - 8*h)) 256 acq;have Y:((256:Nat):Int)=256:=rfl;rw[Y]at w;refine aF (cj @E @F @G @L @v @X @w @iH @aY @aZ) ?_;refine eP (by simp[aW,ρ]) acr λM T=>?_;refine aF (bx @E @F @G @L @aY @aZ) ?_;refine rU (S.mono (κ η T)) vX (by simp[cD];omega) λZ k3 k4=>?_;refine aF (bx @E @F @G @L @aY @aZ) ?_;grind
    .obtain rfl:h=8:=acq;have k5:(cD (α d)).take 8=cD (α d):=rfl;rw[k5]at S;have A:=S.1;simp -dsimp -implicitDefEqProofs (disch:=first|omega|assumption|(simp only[aX,Nat.reduceAdd];try omega)) only[go_sem,simprocAttr,aY,aZ,E,F,G,L,D,v,l _ P,ι (A _ _ n),t,aD];refine rU S (zJ A q) (by simp[cD];omega) λZ k3 k4=>?_;refine aF (cb @E @F @G @L @D @aY @aZ) ?_;refine⟨⟨a++[(g,d)],C,by simp[p],?_,acr⟩,acq⟩;grind[preB,cD,chunk]
theorem a2T(h:UInt8)(b:List (R×Υ))(k:Nat)(c:U)(o:c k=β (.cells (b.map (·.1))))
  (p:∀a∈b,av c c 1 (a.2.map ah) a.1\/(bT c 1 a.1=β (α a.2,a.2.map ah)/\fk a.1=β (.v (.int .i64 (α a.2)))))
  (r:(preB h (b.map (·.2))).length<=1000000):
  AC γ 277 [.v (.int .u8 (h.toNat:Int)),.aq k (α b) (α b) 1] c λx y=>av c y 1 ((preB h (b.map (·.2))).map ah) x:=by
 refine a2S h b _ k c rfl ?_ ?_ ?_ r;grind[jj]
 .intro C d;refine⟨_,o,by simpa using d,?_⟩;rw[a8G (by simpa using d),abM];rfl
 .intro a z;rcases p a z with d|d
  .obtain⟨D,E,F,G⟩:=d.src;simp_all
  .exact d
def fT(a:aK):Υ:=gJ a.name++(ν (α a.aE)::(a.aE.flatMap gJ++(dN a.bq++dN a.bu)))
def cA(a:List aK):Υ:=ν (α a)::a.flatMap fT
structure aK.hA(t:aK):Prop where
 n:α t.name<=16
 c:α t.aE<=7
 cs:∀c∈t.aE,α c<=16
 k:t.bq.hA
 z:t.bu.hA
variable{h5:List Υ}
theorem G7(b:∀a∈h5,α a<=16):(h5.flatMap gJ).length<=19*α h5:=by
 induction h5 with
 |nil=>simp
 |cons c h5 ih=>grind[ω,yw,List.length_cons]
variable{e8:aK}
def zM(a:e8.hA)(b:α e8.bq.sum=32)(c:α e8.bu.sum=32):(fT e8).length<=1000:=by have:=G7 a.cs;have:=a.n;have:=a.c;have:=tx b a.k;have:=tx c a.z;simp only[fT,Ρ,yw,a8m];omega
variable{b4:List aK}
theorem G8(b:aB dJ b4 g)(d:∀h∈b4,h.hA)(a:Nat):((b4.take a).flatMap fT).length<=1000*a:=by
 induction b4 generalizing g a with
 |nil=>simp
 |cons k b4 ih=>
  cases g with
  |nil=>trivial
  |cons v g=>
   obtain⟨⟨_,_,c⟩,b⟩:=b;cases a with
   |zero=>simp
   |succ a=>have:=zM (d k acr) c.k.1 c.z.1;grind
def vY(a b:Nat)(c:U)(h:R)(k:R->U->Prop):Prop:=
 match h with
 |.ptr d off=>match c.read d with
  |some cs=>off+b*a<=α cs/\k (.J (eo a b (cs.drop off)) .any) (c.set d (.ro cs))
  |none=>False
 |_=>False
variable{q Y:R -> U -> Prop}
def a2U{a:cC q}(b:f.read v=β g)(c:O+i*e<=α g)(d:q (.J (eo e i (g.drop O)) .any) (f.set v (.ro g))):vY e i f (.ptr v O) (bR q a):=by simp only[vY,b];trivial
variable{K:Ctx}{j:Fr}{N e4:Operand}
theorem a2V:G K (.ku e i N ε ε ζ) j f q=vY e i f (ak j N) (bR (λa b=>q a b) ()):=by grind[G,vY,dd,ak,bR]
theorem zN:∀ {rows:List (Τ×Bool)},(∀a∈rows,α a.1<=8)->(rows.flatMap gL).length<=66*α rows
 |[],_=>by simp
 |a::rows,b=>by
  have d:=b a acr;have:=zN λa c=>b a (a9H _ c);grind[ω,gL,List.length_cons,dE,oY]
theorem zO:∀ {kids:List au},(∀a∈kids,a.hA/\α a.sum=32/\a.cE)->(kids.flatMap dN).length<=300*α kids
 |[],_=>by simp
 |a::kids,b=>by
  obtain⟨⟨d,h,k,_,_,_,_⟩,o,_⟩:=b a acr;have:=zO λa c=>b a (a9H _ c);grind[kL,dE,List.length_cons,oY,ω,dN]
theorem a2W(o:c4)(P S:Ψ)(e f:Own)(g:U)(w:aB cZ o.rows P)(A:aB bC o.kids S)(n9:α o.rows<=5)(a00:α o.kids<=5)
  (i:∀p∈o.rows,α p.1<=8) (B:∀r∈o.kids,r.hA/\α r.sum=32/\r.cE):
  AC γ 212 [gO o (.J P e) (.J S f)] g λp d=>fK g d (cY o) p:=by
 have a01:=w.len;have a02:=A.len;obtain⟨T,rows,kids⟩:=o
 dsimp only at*
 refine aL hm Rb ?_;have a03:=λx=>iH x;refine aN λH X=>?_;refine aa ?_;generalize j:g.set H (.cells [R.v (.int .u8 (T.toNat)),.J P e,.J S f])=G;have Y:=j▸κ η X;have Z:=j▸μ _ _ _;have L:∀d,G.sub d->d.read H=β [R.v (.int .u8 (T.toNat)),.J P e,.J S f]:=λd C=>ι (C _ _ Z);clear j;have k3:=L _ η;refine ve [T,ν (α rows)] (λk a04 k4 _=>?_);clear k3;have k5:=L _ k4.sub;refine cd [0,1] (λb:Nat×R=>[(4,.v (.int .i64 b.1)),(3,b.2)]) (λb d=>b.1<=α rows/\fK G d (T::ν (α rows)::(rows.take b.1).flatMap gL) b.2) (λb=>α rows - b.1) (0,k) ⟨⟨acq,by trivial⟩,aR⟩ ?_;rintro⟨a,k⟩ D ⟨l,c⟩ k6
 dsimp only at l c|-
 clear k5;have k7:=L _ c.sub;refine aa ?_;refine aG (λm=>?_) λm=>?_
 .obtain⟨_,V,k8,rfl⟩:=w.get (i:=a) (x:=rows.getD a ([],θ)) (by simp_all);have k9:eG 2 P[a]?=β (.bZ [.J (af (rows.getD a ([],θ)).1) k8,.v (.bool (rows.getD a ([],θ)).2)]):=by rw[V];rfl
  have a05:(rows.getD a ([],θ)).1.length<=8:=i _ (by simp_all);have n:=fa (a:=rows) (e:=a) (b:=([],θ)) acq;have I:=zN (rows:=rows.take a) λp C=>i p (a8v C);rw[a8l]at I;generalize rows.getD a ([],θ)=b at*;have K:(dE b.1).length=8*α b.1+1:=by rw[dE,a8m,oY]
  clear V;have a06:(gL b).length=8*α b.1+2:=by rw[gL,a8m,K]
  refine aa ?_;refine ib (a2y _ _) λE F h=>?_;refine nI c (show fK D F [if b.2=ζ then(1)else 0] E from h) λa4 l0 W _=>?_;have M:=L _ W.sub;refine ib (vV _ _ _ acq) λa07 q z=>?_;refine nI W z λdB a08 l1 _=>?_;refine⟨(a+1,dB),⟨by simp only;omega,?_⟩,⟨rfl,rfl⟩,by simp only;omega⟩;simp only[n,a9a,a8I,aaR,a9p,gL];simpa using l1
 obtain rfl:a=α rows:=acq;rw[a8F]at c;have I:=zN i;generalize a09:T::ν (α rows)::rows.flatMap gL=s at*;have a10:α s<=400:=by grind
 refine ve [ν (α kids)] (λE F h _=>?_);refine nI c h λa3 l0 W _=>?_;clear k7;have M:=L _ W.sub;refine cd [0,1] (λb:Nat×R=>[(5,.v (.int .i64 b.1)),(3,b.2)]) (λb d=>b.1<=α kids/\fK G d (s++[ν (α kids)]++(kids.take b.1).flatMap dN) b.2) (λb=>α kids - b.1) (0,a3) ⟨⟨acq,by simpa using W⟩,aR⟩ ?_;clear M;rintro⟨a,k⟩ q ⟨l,z⟩ k6
 dsimp only at l z|-
 have a11:=L _ z.sub;refine aa ?_;refine aG (λm=>?_) λm=>?_
 .obtain⟨_,V,l2,l3,t,u,v,rfl⟩:=A.get (i:=a) (x:=kids.getD a aw) (by simp_all);have l4:=(B (kids.getD a aw) (by simp_all)).1;have n:=fa (a:=kids) (e:=a) (b:=aw) acq;generalize kids.getD a aw=r at*;have N:=(aT (M:=t) (e7:=u) (j0:=v) l2).all;have k9:eG 37 S[a]?=β (.bZ (ab r t u v)):=by rw[V];exact lC N.1
  generalize ab r t u v=y at*;clear V;refine aa ?_;refine aN λx O=>?_;refine aa ?_;rw[a2V];refine aa ?_;refine a2U (ι (μ _ _ _)) acq ?_;rw[ς];have l5:fK (G.set x (.ro y)) (q.set x (.ro y)) _ k:=z.new O;have l6:=Ι z.sub O;have l7:=κ (Z:=.ro y) η l6;have l8:(G.set x (.ro y)) x=β (.ro y):=μ _ _ _;generalize G.set x (.ro y)=l9 at*;generalize q.set x (.ro y)=a13 at*;have a14:∀d,l9.sub d->d.read x=β y:=λd C=>U.Wu (C _ _ l8);have Q:eo 1 32 (y.drop 0)=r.sum.map ah:=by simp[eo,N.2.2.1]
  rw[Q];obtain⟨a15,a16,a18⟩:=l3;obtain⟨a19,a27,a29,n0,a30,n1,a34⟩:=l4;obtain⟨n2,a36⟩:=aa9 n0;obtain⟨n3,a38⟩:=aa9 n1;have a42:=kL n2;have a43:=kL n3;have K:∀p:Τ,(dE p).length=8*α p+1:=λp=>by rw[dE,a8m,oY]
  have n4:((kids.take a).flatMap dN).length<=300*a:=by have:=zO (kids:=kids.take a) λr C=>B r (a8v C);rw[a8l]at this;omega
  generalize a47:s++[ν (α kids)]++(kids.take a).flatMap dN=n5 at*;have a48:α n5<=3000:=by grind
  clear Q n4;refine DQ l5 oW.J λk D c _=>?_;refine ib (G4 _ _ acq) λE F h=>?_;refine nI c h λk D c _=>?_;refine ib (G4 _ _ acq) λE F h=>?_;refine nI c h λk D c _=>?_;refine ib (vV _ _ _ acq) λE F h=>?_;refine nI c h λk D c _=>?_;refine ib (vV _ _ _ acq) λE F h=>?_;refine nI c h λk D c _=>?_;refine ib (vV _ _ _ acq) λE F h=>?_;refine nI c h λk D c _=>?_;refine⟨(a+1,k),⟨by simp only;omega,?_⟩,⟨rfl,rfl⟩,by simp only;omega⟩;have a52:=c.base l7;simp only[n,a9a,a8I,aaR,a9p];grind[dN,List.append_assoc,Int.toNat_natCast]
 obtain rfl:a=α kids:=acq;rw[a8F]at z;refine⟨_,η,?_⟩;have:=z.base Y;grind[cY,List.append_assoc]
structure kW where
 kind:UInt8
 rW:Int
 at_:Τ
abbrev kW.V(a:kW)(b:Own):R:=.agg [.v (.int .u8 (a.kind.toNat:Int)),.v (.int .i64 a.rW),.J (af a.at_) b]
def kW.ok(a:kW)(b:Nat):Bool:=
 decide (1<=b/\b<=8)&&(if a.kind=0 then decide (a.rW=0)&&decide (α a.at_=0)
  else if a.kind=1\/a.kind=2 then(decide (0<a.rW)||decide (a.rW=0)&&decide (a.kind=2))&&decide (a.rW<=(b:Int) - 1)&&decide (α a.at_=0)
  else decide (a.kind=3)&&decide (a.rW=0)&&decide (1<b)&&decide (α a.at_=b - 1))
theorem G9(a:kW)(h:Own)(c:Nat)(d:U)(r:c<=1000000000000)(x:α a.at_<=1000000000000):
  AC γ 138 [a.V h,.v (.int .i64 (c:Int))] d λk o=>o=d/\k=.v (.bool (a.ok c)):=by
 obtain⟨b,y,p⟩:=a
 dsimp only at*
 have z:=bM (t:=p);have C:=iP b 0 acq;have D:=iP b 1 acq;have E:=iP b 2 acq;have F:=iP b 3 acq;refine aL hm P5 ?_;refine bp λG L=>?_
 repeat' first|refine aG (λ_=>?_) λ_=>?_|trivial
 all_goals grind[kW.ok,aS,aO]
theorem vZ(b:kW)(h:Own)(c:Nat)(d:U)(r:c<=1000000000000)(x:α b.at_<=1000000000000):
  AC γ 264 [b.V h,.v (.int .i64 (c:Int))] d λk o=>o=d/\k=.v (.bool (b.ok c)):=by
 obtain⟨a,y,p⟩:=b
 dsimp only at*
 have z:=bM (t:=p);have C:=iP a 0 acq;have D:=iP a 1 acq;have E:=iP a 2 acq;have F:=iP a 3 acq;refine aL hm Sp ?_;refine bp λG L=>?_
 repeat' first|refine aG (λ_=>?_) λ_=>?_|trivial
 all_goals try first
  |(rw[kW.ok];exact aS)
  |(refine aO ?_;simp only[kW.ok]at*;grind)
 rename_i P S T;obtain rfl:a=2:=a9f.1 (by simp_all);refine aO ?_;rw[aaG];simp[kW.ok,-List.length_eq_zero_iff];omega
abbrev iv(a b:Nat):R:=.agg [.v (.int .u64 (a:Int)),.v (.int .u64 (b:Int))]
def a2X(a c b d:Nat)(h:U):AC γ 195 [iv a c,iv b d] h λk o=>o=h/\k=.v (.bool (decide (a<b\/a=b/\c<d))):=by
 refine aL hm QJ ?_;refine bp λp r=>?_;refine dk λx y z C=>?_
 repeat' first|refine aG (λ_=>?_) λ_=>?_|trivial
 all_goals exact aS
def rX(a c b d:Nat):Int:=if a=b/\c=d then 0 else if a<b\/a=b/\c<d then -1 else 1
theorem Ga(a b c d:Nat)(h:U):AC γ 270 [iv a b,iv c d] h λk o=>o=h/\k=.v (.int .i64 (rX a b c d)):=by
 have p:∀a b:Nat,di [(2,c6.int IntKind.u64)] [R.v (.int .u64 (a)),R.v (.int .u64 (b))]:=λa b=>by simp[di,c6.uw]
 have r:peq (iv a b) (iv c d)=decide ((a:Int)=c/\(b:Int)=d):=by rw[aaG];simp[peq]
 refine aL hm Sx ?_;refine bp λx y=>?_;refine dk λz C D E=>?_
 repeat' first|refine aG (λ_=>?_) λ_=>?_|trivial
 all_goals grind[rX]
abbrev hF(a:Τ)(b:Nat):Int:=a.getD b 0
def jx(c d a:Τ):Bool:=cS c d (α a)&&(χ (α a)).all λb=>decide (hF c b<=hF a b)&&decide (hF a b<=hF d b)
def pg(a b c d:Τ):Bool:=cS a b (α a)&&cS c d (α a)
def kj(b c d h:Τ):Bool:=pg b c d h&&(χ (α b)).all λa=>decide (hF b a<=hF h a)&&decide (hF d a<=hF c a)
def a2Y(c:U)(k o:Nat)(d h b:Τ)(p r x:Own)(a:Nat)(C:c.read k=β [.J (af d) p,.J (af h) r])(D:c.read o=β [.J (af b) x])(E:a<α d)(F:a<α h)(G:a<α b):
  AC γ 325 [.v (.int .i64 (a:Int)),.ptr k 0,.ptr o 0] c λy z=>z=c/\y=.v (.bool (decide (hF d a<=hF b a)&&decide (hF b a<=hF h a))):=by
 have L:=@dY d;have P:=@dY h;have S:=@dY b;refine aL hm TJ ?_
 repeat' first|refine aG (λ_=>?_) λ_=>?_|trivial
 all_goals exact aS
def a2Z(h:U)(b c a:Τ)(k o p:Own)(r:α a<=1000000000000):
  AC γ 272 [eT b c k o,.J (af a) p] h λx y=>y=h/\x=.v (.bool (jx b c a)):=by
 have G:=bM (t:=a);refine aL hm SB ?_;refine bp λz L=>?_;refine dk λC P S D=>?_;refine bh (p6 _ b c _ _ _ r) ?_;refine aG (λd=>?_) λd=>?_
 .obtain⟨T,V,W,e⟩:=lI d;refine bh (yG (α a) _ _ _ _ _ r acx λE F=>a2Y _ z C b c a k o p E (by simp[U.read,μ,ξ,D]) (by simp[U.read,μ]) acq acq F) ?_;refine aO ?_;rw[jx,d,a9N]
 .refine aO ?_;rw[jx,d,aar]
def a3a(b:U)(o p:Nat)(c d h k:Τ)(r x y z:Own)(a:Nat)(E:b.read o=β [.J (af c) r,.J (af d) x])(F:b.read p=β [.J (af h) y,.J (af k) z])(G:a<α c)(L:a<α d)(P:a<α h)(S:a<α k):
  AC γ 351 [.v (.int .i64 (a:Int)),.ptr o 0,.ptr p 0] b λC D=>D=b/\C=.v (.bool (decide (hF c a<=hF k a)&&decide (hF h a<=hF d a))):=by
 have T:=@dY c;have V:=@dY d;have W:=@dY h;have e:=@dY k;refine aL hm Un ?_
 repeat' first|refine aG (λ_=>?_) λ_=>?_|trivial
 all_goals exact aS
def a3b(d:U)(b c a h:Τ)(o p r x:Own)(k:α b<=1000000000000):
  AC γ 315 [eT b c o p,eT a h r x] d λy z=>z=d/\y=.v (.bool (pg b c a h)):=by
 have C:=bM (t:=b);refine aL hm Tz ?_;refine bp λD E=>?_;refine dk λF G L P=>?_;refine bh (p6 _ b c _ _ _ k) ?_;refine aG (λa=>?_) λa=>?_
 .refine bh (p6 _ _ _ _ _ _ k) ?_;refine aO ?_;rw[pg,a,a9N]
 .refine aO ?_;rw[pg,a,aar]
variable{t b8:Τ}
theorem zP{a b:Τ}(c:pg t b8 a b=ζ):α b8=α t/\α a=α t/\α b=α t/\1<=α t/\α t<=8:=by rw[pg,Ξ]at c;obtain⟨d,h⟩:=c;have d:=lI d;grind[lI]
def Gb(k:U)(a b c d:Τ)(o p r x:Own)(y:α a<=1000000000000):
  AC γ 317 [eT a b o p,eT c d r x] k λz C=>C=k/\z=.v (.bool (kj a b c d)):=by
 have P:=bM (t:=a);refine aL hm TB ?_;refine bp λD S=>?_;refine dk λE T V F=>?_;refine bh (a3b _ a b c d _ _ _ _ y) ?_;refine aG (λh=>?_) λh=>?_
 .obtain⟨W,e,f,g⟩:=zP h;refine bh (yG (α a) _ _ _ _ _ y acx λG L=>a3a _ D E a b c d o p r x G (by simp[U.read,μ,ξ,F]) (by simp[U.read,μ]) L acq acq acq) ?_;refine aO ?_;rw[kj,h,a9N]
 .refine aO ?_;rw[kj,h,aar]
def gy(a b c d:Τ):Τ×Τ:=if kj a b c d=ζ then(φ max a c,φ min b d)else([],[])
set_option maxHeartbeats 1000000 in
theorem a3c(C:U)(a c h d:Τ)(m n q s:Own)(E:α a<=1000000000000):
  AC γ 267 [eT a c m n,eT h d q s] C λl9 o=>∃r t,l9=.aJ [.agg [r,t],.v (.bool (kj a c h d))]/\qf C o (gy a c h d).1 (gy a c h d).2 r t:=by
 have k5:=bM (t:=a);have u:=@dY a;have v:=@dY c;have w:=@dY h;have A:=@dY d;refine aL hm St ?_;refine bp λB a16=>?_;refine dk λH a18 I n0=>?_;refine gZ λF n1 n2 n3 n4 n5=>?_;refine bh (Gb _ a c h d _ _ _ _ E) ?_;refine aG (λG=>?_) λG=>?_
 .rw[gy,if_neg (by simp[G])];exact⟨_,η,_,_,rfl,C,av.nil η,av.nil aR⟩
 .rw[gy,if_pos G];obtain⟨a19,a27,a29,a30,a34⟩:=zP (by rw[kj,Ξ]at G;exact G.1);generalize L:((C.set B _).set H _).set F _=P;have W:C.sub P:=by subst L;exact aR
  have K:P B=β (.cells [.J (af a) m,.J (af c) n]):=by subst L;exact aR
  have M:P H=β (.cells [.J (af h) q,.J (af d) s]):=by subst L;exact aR
  have aP:P F=β (.cells [.J [] .nil,.J [] .nil]):=by subst L;exact aR
  clear L;refine ag (vv P a c _ _ E acq) ?_;rintro _ n9⟨r,t,rfl,a36,a00,a01⟩;obtain⟨x,⟨I,_⟩|⟨e,a02,N,k6,rfl,f,k7,a03,O,S,k8,cu⟩⟩:=a00
  .exfalso;grind
  obtain⟨D,⟨I,_⟩|⟨y,a04,Q,k9,rfl,T,l0,a05,X,V,l1,cp⟩⟩:=a01
  .exfalso;grind
  obtain rfl:a02=α a:=by rw[k5]at S;omega
  obtain rfl:a04=α a:=by rw[bM]at V;omega
  have l2:=D _ _ k7;simp only[a8Y]at a03 a05 O X k8 l1;obtain⟨g,rfl⟩:∃Y,k6=af a++Y:=⟨k6.drop (α a),by rw[<-O,a8K]⟩;obtain⟨i,rfl⟩:∃Y,k9=af c++Y:=⟨k9.drop (α a),by rw[<-X,a8K]⟩;have k:∀ {l3:U}{b Z:Nat}{j:bt},l3 b=ε->l3 Z=β j->b≠Z/\Z≠b:=λE l=>⟨(by rintro rfl;rw[E]at l;cases l),(by rintro rfl;rw[E]at l;cases l)⟩;have kK:=D _ _ (x _ _ K);have l4:=D _ _ (x _ _ M);have l5:=D _ _ (x _ _ aP);obtain⟨a38,a06⟩:=k T k7;obtain⟨a42,a43⟩:=k f K;obtain⟨a47,a48⟩:=k f M;obtain⟨a07,a52⟩:=k f aP;obtain⟨a56,a57⟩:=k T (x _ _ K);obtain⟨a61,a62⟩:=k T (x _ _ M);obtain⟨a08,a63⟩:=k T (x _ _ aP);have a09:=Ι W f;have a10:=Ι (ο W x) T;have k3:=ο W (ο x D);clear O X S V x D;have a65:∀a c k4 d:Nat,(R.aq a c k4 d).cells=[.aq a c k4 d]:=λ_ _ _ _=>rfl;refine aa ?_;refine aN λa11 z=>?_;obtain⟨a68,a69⟩:=k z kK;obtain⟨a71,a73⟩:=k z l4;obtain⟨a74,a81⟩:=k z l5;obtain⟨a83,a84⟩:=k z l2;obtain⟨ZP,a86⟩:=k z l0;have l6:=Ι k3 z;refine aa ?_;refine cd [2,3,4,6,17] (λb:Nat=>[(18,.v (.int .i64 (b)))]) (λb o=>b<=α a/\C.sub o/\o B=β (.cells [.J (af a) m,.J (af c) n])/\o H=β (.cells [.J (af h) q,.J (af d) s])/\o F=β (.cells [.J [] .nil,.J [] .nil])/\
      o a11=β (.cells [.aq e (α a) N 1,.aq y (α a) Q 1])/\o e=β (.cells (af (mix max a h b)++g))/\o y=β (.cells (af (mix min c d b)++i))) (λb=>α a - b) 0 ⟨⟨a8M _,κ (κ k3 l6) l6,aR,aR,aR,aR,?_,?_⟩,aR⟩ ?_
  .have a13:mix max a h 0=a:=by rfl
   exact aR
  .have a13:mix min c d 0=c:=by rfl
   exact aR
  clear kK l4 l5 l2 l0 z k5;rintro b o⟨a88,a14,c2,aD,aP,cb,l7,l8⟩a89;have a90:=ι c2;have a92:=ι aD;have a94:=ι cb;have n9:=τ l7;have a95:=τ l8;clear I n0 n2 n3 n4 n5 k3 W;by_cases a96:b<α a
  .have k4:(b)<(α a:Int):=acq;have a97:=u acq;have a98:=v (b:=b) acq;have a99:=w (b:=b) acq;have b00:=A (b:=b) acq;clear u v w A;have b01:=vx acq acq g (v:=max (a.getD b 0) (h.getD b 0)) rfl;have b02:=vx acq acq i (v:=min (c.getD b 0) (d.getD b 0)) rfl;have b03:b+1<=(af (mix max a h b)++g).length:=by rw[Ρ,bM,vw acq acq];omega
   have b04:b+1<=(af (mix min c d b)++i).length:=by rw[Ρ,bM,vw acq acq];omega
   generalize a.getD b 0=b05 at*;generalize h.getD b 0=b06 at*;generalize c.getD b 0=a3 at*;generalize d.getD b 0=a4 at*;generalize af (mix max a h b)++g=b07 at*;generalize af (mix min c d b)++i=b08 at*;refine aa ?_;grind
  .obtain rfl:b=α a:=acq;clear u v w A;have S:mix max a h (α a)=φ max a h:=by unfold mix;grind
   have V:mix min c d (α a)=φ min c d:=by unfold mix;grind
   have b09:(af (mix max a h (α a))).length=α a:=by rw[S,bM,aa0];omega
   have b10:(af (mix min c d (α a))).length=α a:=by rw[V,bM,aa0];omega
   have b11:=τ aP;have b12:¬(α a:Int)<α a:=acq;refine aa ?_;refine⟨_,η,_,_,rfl,?_⟩;rw[<-S,<-V];refine⟨(o.set F (.cells [.aq e (α a) N 1,.aq y (α a) Q 1])).del y,⟨λr j p=>?_,.inr ⟨e,α a,N,_,rfl,a09,by rw[U.eO _ a06,ξ _ _ a07];exact l7,?_,?_,?_,k8,cu⟩⟩,⟨λr j p=>?_,.inr ⟨y,α a,Q,_,rfl,U.iD _ _,by rw[ξ _ _ a08];exact l8,?_,?_,?_,l1,cp⟩⟩⟩
   .have k:r≠y:=by rintro rfl;rw[a10]at p;cases p
    have a15:r≠F:=by rintro rfl;rw[n1]at p;cases p
    rw[U.eO _ k,ξ _ _ a15];exact a14 r j p
   .rw[Ρ,bM]at*;omega
   simp_all
   .omega
   .have k:r≠y:=by rintro rfl;rw[U.iD]at p;cases p
    rw[U.eO _ k]at p;exact p
   .rw[Ρ,bM]at*;omega
   simp_all
   .omega
def Gc(h:U)(a b c d:Τ)(k o p r:Own)(z:α a<=1000000000000):
  AC γ 267 [eT a b k o,eT c d p r] h λx y=>h.sub y/\x=.aJ [eT (gy a b c d).1 (gy a b c d).2 .any .any,.v (.bool (kj a b c d))]:=
 (a3c h a b c d k o p r z).view λx y C=>by
  obtain⟨D,W,rfl,e,E,F⟩:=C;obtain⟨f,G,L⟩:=tu F;have P:=E.mono G;obtain⟨S,T,V⟩:=tu P;exact⟨_,S,View.aJ (a:=[]) ((View.agg (a:=[D]) rfl L).trans (View.agg (a:=[]) rfl V)),T,rfl⟩
abbrev fU:kW:=⟨0,0,[]⟩
def rY(a:Nat):fU.ok a=decide (1<=a/\a<=8):=by simp[kW.ok]
def o7(a:Int):Nat:=(IntKind.u64.wrap ((π 64 (IntKind.u64.wrap a)^^^π 64 9223372036854775808).toNat:Int)).toNat
def a3d(a:Int):br .xor (.int .u64 (IntKind.u64.wrap a)) (.int .u64 9223372036854775808)=β (.int .u64 (o7 a:Int)):=by have b:br .xor (.int .u64 (IntKind.u64.wrap a)) (.int .u64 9223372036854775808)=β (.int .u64 (IntKind.u64.wrap ((π 64 (IntKind.u64.wrap a)^^^π 64 9223372036854775808).toNat))):=rfl;rw[b,o7,a9Q];exact Int.emod_nonneg _ acv
def Gd(a:Int)(b:U):AC γ 319 [.v (.int .i64 a)] b λc d=>d=b/\c=iv 0 (o7 a):=by have h:=a3d a;refine aL hm TF ?_;refine bp λk o=>?_;rfl
def mT(b:0<α t)(a:Own):cO 1 (.J (af t) a) (.v (.int .i64 0))=β (.bZ [.v (.int .i64 (t.getD 0 0))]):=by have:=oV (e:=1) (g:=af t) (M:=a) (e2:=.i64) (i:=0);rw[dY b]at this;exact this
def zQ(a:Τ):R:=if 1<=α a/\α a<=8 then .aJ [iv 0 (o7 (a.getD 0 0)),.v (.int .i64 0)]else .aJ [iv 0 0,.v (.int .i64 1)]
def zR(c d:Own)(a:Τ)(b:U)(k:α a<=1000000000000):AC γ 357 [fU.V c,.J (af a) d] b λo p=>p=b/\o=zQ a:=by
 have x:=bM (t:=a);have y:=@dY a;have h:=λb=>vZ fU c (α a) b k acr;simp only[rY]at h;refine aL hm Up ?_;refine bp λz C=>?_;refine dk λD E F G=>?_;refine bh (h _) ?_;rw[zQ];refine aG (λr=>?_) λr=>?_
 .rfl
 .have L:=mT (t:=a) acq d;refine aa ?_;refine bh (Gd _ _) ?_;rfl
def zS(a b:Nat)(h:Int)(c d:Nat)(k:Int):Bool:=if rX a b c d=0 then decide (h<k)else decide (rX a b c d<0)
theorem Ge(a b c d:Nat)(h k:Int)(o:U):AC γ 358 [iv a b,.v (.int .i64 h),iv c d,.v (.int .i64 k)] o λp r=>r=o/\p=.v (.bool (zS a b h c d k)):=by
 refine aL hm Ur ?_;refine bp λx y=>?_;refine dk λz C D E=>?_;refine bh (Ga _ _ _ _ _) ?_
 repeat' first|refine aG (λ_=>?_) λ_=>?_|trivial
 all_goals simp_all [zS,if_pos,if_neg]
def ph(a:Τ):Prop:=1<=α a/\α a<=8
def zT(a:ph t):zQ t=.aJ [iv 0 (o7 (t.getD 0 0)),.v (.int .i64 0)]:=if_pos a
def tV(a b:Τ):Bool:=zS 0 (o7 (a.getD 0 0)) (a.getD 0 0) 0 (o7 (b.getD 0 0)) (b.getD 0 0)
def Gf(o c d:Own)(a b:Τ)(h:U)(k:ph a)(y:α b=α a):AC γ 328 [fU.V o,.J (af a) c,.J (af b) d] h λp r=>r=h/\p=.v (.bool (tV a b)):=by have z:=bM (t:=a);have C:=bM (t:=b);have D:=@dY a;have E:=@dY b;have x:=id k;obtain⟨F,G⟩:=k;have L:=zT x;have P:=zT (t:=b) ⟨acq,acq⟩;refine aL hm TN ?_;refine bp λS T=>?_;refine bh (zR _ _ a _ acq) ?_;have V:=mT (t:=a) acq c;have W:=mT (t:=b) acq d;refine dk λe f g i=>?_;refine bh (zR _ _ b _ acq) ?_;refine gZ λj l _ _ _ _=>?_;refine bh (Ge _ _ _ _ _ _ _) ?_;rfl
abbrev a3e:=tV
def tW(a b:Τ):Int:=if tV a b=ζ then -1 else if tV b a=ζ then 1 else 0
theorem a3f(d r x:Own)(a b:Τ)(h:U)(p:Nat)(C:h.read p=β [.v (.int .u8 0),.v (.int .i64 0),.J (af []) d])(k:ph a)(c:α b=α a):AC γ 327 [.J (af a) r,.J (af b) x,.ptr p 0] h λy z=>z=h/\y=.v (.int .i64 (tW a b)):=by
 refine aL hm TL ?_;refine bh (Gf d _ _ a b _ k c) ?_;refine aG (λo=>?_) λo=>?_
 .rw[tW,if_pos o]
 .refine bh (Gf d _ _ b a _ ⟨by rw[c];exact k.1,by rw[c];exact k.2⟩ c.symm) ?_;refine aG (λc2=>?_) λc2=>?_
  .rw[tW,if_neg (by simp[o]),if_pos c2]
  simp_all [tW]
theorem Gg(h c k:Own)(a b:Τ)(d:U)(o:cS a b (α a)=ζ):AC γ 268 [fU.V h,eT a b c k] d λp r=>r=d/\p=.aJ [iv 0 (o7 (a.getD 0 0)),.v (.int .i64 (a.getD 0 0)),.v (.int .i64 0)]:=by
 obtain⟨x,y,z,C⟩:=lI o;have D:=bM (t:=a);have E:fU.ok (α a)=true:=by rw[rY];simp_all
 have F:=mT (t:=a) acq c;refine aL hm Sv ?_;refine bp λG L=>?_;refine dk λP S T V=>?_;refine gZ λW e f g a3 a4=>?_;refine bh (p6 _ a b _ _ _ acq) ?_;refine bh (vZ fU _ _ _ acq acr) ?_;refine bh (Gd _ _) ?_;refine yh λi j l m n q s t=>?_;rfl
def a3g(d p r h:Own)(a c b:Τ)(k:U)(o:cS a c (α a)=ζ)(z:α b=α a):AC γ 324 [fU.V d,eT a c p r,.J (af b) h] k λx y=>y=k/\x=.v (.bool (a3e b a)):=by obtain⟨C,D,E,F⟩:=lI o;have G:=bM (t:=a);have L:=bM (t:=b);have P:=mT (t:=b) acq h;have S:=zT (t:=b) ⟨acq,acq⟩;refine aL hm TH ?_;refine bp λT V=>?_;refine dk λW e f g=>?_;refine bh (Gg d _ _ a c _ o) ?_;refine gZ λi j l m a3 a4=>?_;refine bh (zR _ _ b _ acq) ?_;refine yh λn q s t u v w A=>?_;refine bh (Ge _ _ _ _ _ _ _) ?_;rfl
def a3h(a:Nat)(k:a<=8)(b:U):AC γ 298 [.v (.int .u64 1),.v (.int .u64 (a:Int))] b λc d=>d=b/\c=.aJ [.v (.int .u64 0),.v (.int .u64 (a:Int))]:=by
 have h:AC γ 343 [.v (.int .u64 1),.v (.int .u64 (a:Int))] b λc d=>d=b/\c=.aJ [.v (.int .u64 0),.v (.int .u64 (a:Int))]:=by
  have o:br .and (.int .u64 1) (.int .u64 4294967295)=β (.int .u64 1):=by rfl
  have p:br .shr (.int .u64 1) (.int .u64 32)=β (.int .u64 0):=by rfl
  obtain⟨r,x⟩:br .and (.int .u64 (a)) (.int .u64 4294967295)=β (.int .u64 (a))/\br .shr (.int .u64 (a)) (.int .u64 32)=β (.int .u64 0):=by
   obtain rfl|rfl|rfl|rfl|rfl|rfl|rfl|rfl|rfl:a=0\/a=1\/a=2\/a=3\/a=4\/a=5\/a=6\/a=7\/a=8:=acq
   all_goals exact⟨acw,acw⟩
  have y:br .shr (.int .u64 0) (.int .u64 32)=β (.int .u64 0):=by rfl
  have z:br .and (.int .u64 0) (.int .u64 4294967295)=β (.int .u64 0):=by rfl
  have C:(1)*(a:Int)=a:=Int.one_mul _;have D:(0)*(a:Int)=0:=Int.zero_mul _;exact aL hm Ub trivial
 refine aL hm Th ?_;exact bh h trivial
def a3i:∀ {a:Nat},(δ a [n]).flatten=δ a n
 |0=>rfl
 |a+1=>by simp
theorem Gh(b:Nat)(z:1<=b)(C:b<=8)(d:Int)(r:Own)(h:U):AC γ 240 [.J [.v (.int .i64 d)] r,.v (.int .i64 (b:Int))] h λD p=>av h p 1 (af (δ b d)) D:=by
 refine aL hm RI ?_;refine iJ ?_;refine bh (a3h b C h) ?_;refine iJ ?_;refine y3 acq acq λc x=>?_;rw[a3i];have T:mm 1 (.aq c b b 1) (.J [.v (.int .i64 d)] r) (h.set c (.cells (δ b (.v (.int .i64 0)))))=β (.v (.int .i64 1),h.set c (.cells (δ 1 (.v (.int .i64 d))++δ (b - 1) (.v (.int .i64 0))))):=by obtain⟨o,rfl⟩:∃o,b=o+1:=⟨b - 1,acq⟩;simp[mm,bT,μ,ς,flat,ρ,putAt]
 refine aa ?_;refine cd [7] (λa:Nat=>[(8,.v (.int .i64 (a)))]) (λa p=>1<=a/\a<=b/\p=h.set c (.cells (δ a (.v (.int .i64 d))++δ (b - a) (.v (.int .i64 0))))) (λa=>b - a) 1 ⟨⟨a8P _,z,rfl⟩,aR⟩ ?_;rintro a _⟨V,E,rfl⟩W;refine aa ?_;refine aG (λF=>?_) λF=>?_
 .have e:ck 1 (.aq c b b 1) (β (.v (.int .i64 (a)))) ε ε=β (.bE c a (b - a) (b - a) 1):=by simp_all [gm]
  have f:ck 1 (.aq c b b 1) ε (β (.v (.int .i64 (a)))) ε=β (.aq c a b 1):=hZ E;generalize y:δ a (R.v (.int .i64 d))++δ (b - a) (.v (.int .i64 0))=k;have G:α k=b:=by subst y;simp;omega
  have L:bT (h.set c (.cells k)) 1 (.aq c a b 1)=β (a,δ a (.v (.int .i64 d))):=by have P:(h.set c (.cells k)).read c=β k:=ι (μ _ _ _);simp only[bT,P,G,a8Y];grind
  have S:=ht (O:=a) (i:=b - a) (j6:=b - a) L (μ h c (.cells k)) acq;have o:putAt k a ((δ a (R.v (.int .i64 d))).take ((b - a)*1))=δ (a+min a (b - a)) (.v (.int .i64 d))++δ (b -(a+min a (b - a))) (.v (.int .i64 0)):=by subst y;rw[a8Y,List.take_replicate,putAt,aam acr,aa4,Nat.min_comm (b - a) a,<-List.replicate_append_replicate,a9J,aa4,a8Z acr,a8y,List.drop_replicate];congr 2;omega
  rw[o,ς]at S;refine aa ?_;exact⟨a+min a (b - a),⟨acq,acq,rfl⟩,by congr 2,acq⟩
 .obtain rfl:a=b:=acq;refine⟨_,η,κ η x,.inr ⟨c,a,a,_,rfl,x,μ _ _ _,?_,?_,?_,a8P _,by unfold maxLen;omega⟩⟩
  .simp
  .simp[af]
  .simp[af]
def iX:Int:= -9223372036854775808
def jy:Int:=9223372036854775807
def a3j(a:Nat)(p:1<=a)(r:a<=8)(h:U):AC γ 181 [.v (.int .i64 (a:Int))] h λC D=>∃b c,C=.agg [b,c]/\qf h D (δ a iX) (δ a jy) b c:=by have L:¬(a:Int)<1:=acq;have P:¬8<(a:Int):=acq;refine aL hm Qh ?_;refine bp λx k=>?_;have S:=k;refine Zt λT E V y=>?_;refine ib (Gh a p r iX _ _) λb W o=>?_;have z:=o.1 _ _ ((ξ _ _ y).trans (μ h x (.cells [.J [] .nil,.J [] .nil])));refine ic λe F=>?_;refine ib (Gh a p r jy _ _) λc f d=>?_;have d:=d.base (κ η F);have c2:=τ (d.1 _ _ z);have g:=fv o;have i:=fv d;refine aa ?_;have G:=(ka (Z:=.cells [b,c]) o ((ξ _ _ y).trans (μ h x (.cells [.J [] .nil,.J [] .nil])))).base (κ (κ (κ η k) E) k);exact⟨_,η,b,c,rfl,_,G,ka d z⟩
def qw(a:Nat)(b:Bool):ar:=⟨38,5,
(.seq
(.plain (bH 10 (.fi (mw 0))::[]))
(.block 0
(.loop
(.seq
(.seq
(.plain (aA 11 10::aA 12 3::cI 13 .lss 11 12::[]))
(.cond (aH 13)
.skip
(.exit 0)))
(.seq
(.block 1
(.draw (aA 16 0::aA 17 1::aA 18 10::cI 19 .add 17 18::aA 20 0::aA 21 2::aA 22 10::cI 23 .add 21 22::aA 24 0::aA 25 2::aA 26 10::cI 27 .add 25 26::bH 28 (.dU a (aH 24) (aH 27))::bH 29 (.load b a (aH 28))::aA 30 0::aA 31 1::aA 32 10::cI 33 .add 31 32::bH 34 (.dU a (aH 30) (aH 33))::bH 35 (.load b a (aH 34))::bH 36 (.dU a (aH 16) (aH 19))::on (.store a (aH 36) (aH 29))::bH 37 (.dU a (aH 20) (aH 23))::on (.store a (aH 37) (aH 35))::[])
(bj 0::bj 1::bj 2::bj 3::bj 4::bj 5::bj 6::bj 7::bj 8::bj 9::bj 10::bj 11::bj 12::bj 13::bj 14::bj 15::bj 16::bj 17::bj 18::bj 19::bj 20::bj 21::bj 22::bj 23::[])))
(.plain (aA 14 10::fD 15 .add 14 1::aA 10 15::[]))))))),[]⟩
def a3k:dz γ 0 371=β (qw 41 ζ):=acw
def a3l:dz γ 0 381=β (qw 1 θ):=acw
def rZ(b:Nat)(c:Bool)(a:FuncId):ar:=⟨58,5,
(.seq
(.plain (aA 12 2::aA 13 1::cI 14 .sub 12 13::aA 10 14::[]))
(.seq
(.plain (aA 15 3::aA 16 2::cI 17 .sub 15 16::aA 11 17::[]))
(.seq
(.block 0
(.loop
(.seq
(.seq
(.plain (aA 18 10::aA 19 11::cI 20 .neq 18 19::[]))
(.cond (aH 20)
.skip
(.exit 0)))
(.block 1
(.seq
(.plain (aA 21 10::aA 22 11::cI 23 .gtr 21 22::[]))
(.cond (aH 23)
(.seq
(.plain (aA 24 0::aA 25 2::aA 26 10::cI 27 .sub 25 26::aA 28 2::aA 29 11::aA 30 4::bH 31 (.fZ a [(aH 24),(aH 27),(aH 28),(aH 29),(aH 30)])::[]))
(.plain (aA 32 10::aA 33 11::cI 34 .sub 32 33::aA 10 34::[])))
(.seq
(.plain (aA 35 0::aA 36 2::aA 37 10::cI 38 .sub 36 37::aA 39 2::aA 40 11::cI 41 .add 39 40::aA 42 10::cI 43 .sub 41 42::aA 44 10::aA 45 4::bH 46 (.fZ a [(aH 35),(aH 38),(aH 43),(aH 44),(aH 45)])::[]))
(.plain (aA 47 11::aA 48 10::cI 49 .sub 47 48::aA 11 49::[])))))))))
(.plain (aA 50 0::aA 51 2::aA 52 10::cI 53 .sub 51 52::aA 54 2::aA 55 10::aA 56 4::bH 57 (.fZ a [(aH 50),(aH 53),(aH 54),(aH 55),(aH 56)])::[]))))),[]⟩
def a3m:dz γ 0 356=β (rZ 41 ζ 371):=acw
def a3n:dz γ 0 379=β (rZ 1 θ 381):=acw
def tX(a:Nat)(b:Bool):ar:=⟨53,4,
(.seq
(.plain (aA 10 1::fD 11 .add 10 1::aA 8 11::[]))
(.block 0
(.loop
(.seq
(.seq
(.plain (aA 12 8::aA 13 2::cI 14 .lss 12 13::[]))
(.cond (aH 14)
.skip
(.exit 0)))
(.seq
(.block 1
(.seq
(.plain (aA 17 8::aA 9 17::[]))
(.block 2
(.loop
(.seq
(.seq
(.draw (aA 18 9::aA 19 1::cI 20 .gtr 18 19::aA 21 20::fj 21 ζ 22 (.fi (aH 3))::fj 21 ζ 23 (.fi (aH 0))::fj 21 ζ 24 (.fi (aH 9))::fj 21 ζ 25 (.dU a (aH 23) (aH 24))::fj 21 ζ 26 (.load b a (aH 25))::fj 21 ζ 27 (.fi (aH 0))::fj 21 ζ 28 (.fi (aH 9))::fj 21 ζ 29 (.bin .sub (aH 28) (mw 1))::fj 21 ζ 30 (.dU a (aH 27) (aH 29))::fj 21 ζ 31 (.load b a (aH 30))::fj 21 ζ 32 (.jc (aH 22) [(aH 26),(aH 31)])::fj 21 ζ 33 (.bin .lss (aH 32) (mw 0))::bH 34 (.pick (aH 21) (aH 33) r9)::[])
(bj 0::bj 1::bj 2::bj 3::bj 4::bj 5::bj 6::bj 7::bj 8::bj 9::bj 10::bj 11::bj 12::bj 13::bj 14::bj 15::bj 16::[]))
(.cond (aH 34)
.skip
(.exit 2)))
(.seq
(.block 3
(.draw (aA 37 0::aA 38 9::aA 39 0::aA 40 9::fD 41 .sub 40 1::aA 42 0::aA 43 9::fD 44 .sub 43 1::bH 45 (.dU a (aH 42) (aH 44))::bH 46 (.load b a (aH 45))::aA 47 0::aA 48 9::bH 49 (.dU a (aH 47) (aH 48))::bH 50 (.load b a (aH 49))::bH 51 (.dU a (aH 37) (aH 38))::on (.store a (aH 51) (aH 46))::bH 52 (.dU a (aH 39) (aH 41))::on (.store a (aH 52) (aH 50))::[])
(bj 0::bj 1::bj 2::bj 3::bj 4::bj 5::bj 6::bj 7::bj 8::bj 9::bj 10::bj 11::bj 12::bj 13::bj 14::bj 15::bj 16::bj 17::[])))
(.plain (aA 35 9::fD 36 .sub 35 1::aA 9 36::[]))))))))
(.plain (aA 15 8::fD 16 .add 15 1::aA 8 16::[]))))))),[]⟩
def a3o:dz γ 0 322=β (tX 41 ζ):=acw
def a3p:dz γ 0 220=β (tX 1 θ):=acw
def tY(a:Nat)(b:Bool)(c d:FuncId):ar:=⟨220,5,
(.seq
(.seq
(.plain (aA 25 2::aA 26 1::cI 27 .sub 25 26::fD 28 .eql 27 1::[]))
(.cond (aH 28)
(.seq
(.plain (aA 29 2::aA 10 29::[]))
(.seq
(.plain (aA 30 3::aA 11 30::[]))
(.seq
(.block 0
(.loop
(.seq
(.seq
(.plain (aA 31 10::aA 32 11::cI 33 .lss 31 32::[]))
(.cond (aH 33)
.skip
(.exit 0)))
(.block 1
(.seq
(.plain (aA 34 10::aA 35 11::cI 36 .add 34 35::bH 37 (.jb .u64 (aH 36))::bH 38 (.bin .shr (aH 37) (.const (.int .u64 1)))::bH 39 (.jb .i64 (aH 38))::aA 12 39::[]))
(.seq
(.draw (aA 40 4::aA 41 0::aA 42 12::bH 43 (.dU a (aH 41) (aH 42))::bH 44 (.load b a (aH 43))::aA 45 0::aA 46 1::bH 47 (.dU a (aH 45) (aH 46))::bH 48 (.load b a (aH 47))::bH 49 (.jc (aH 40) [(aH 44),(aH 48)])::fD 50 .lss 49 0::[])
(bj 0::bj 1::bj 2::bj 3::bj 4::bj 5::bj 6::bj 7::bj 8::bj 9::bj 10::[]))
(.cond (aH 50)
(.plain (aA 51 12::fD 52 .add 51 1::aA 10 52::[]))
(.plain (aA 53 12::aA 11 53::[])))))))))
(.seq
(.seq
(.plain (aA 54 1::aA 13 54::[]))
(.block 2
(.loop
(.seq
(.seq
(.plain (aA 55 13::aA 56 10::fD 57 .sub 56 1::cI 58 .lss 55 57::[]))
(.cond (aH 58)
.skip
(.exit 2)))
(.seq
(.block 3
(.draw (aA 61 0::aA 62 13::aA 63 0::aA 64 13::fD 65 .add 64 1::aA 66 0::aA 67 13::fD 68 .add 67 1::bH 69 (.dU a (aH 66) (aH 68))::bH 70 (.load b a (aH 69))::aA 71 0::aA 72 13::bH 73 (.dU a (aH 71) (aH 72))::bH 74 (.load b a (aH 73))::bH 75 (.dU a (aH 61) (aH 62))::on (.store a (aH 75) (aH 70))::bH 76 (.dU a (aH 63) (aH 65))::on (.store a (aH 76) (aH 74))::[])
(bj 0::bj 1::bj 2::bj 3::bj 4::bj 5::bj 6::bj 7::bj 8::bj 9::bj 10::bj 11::bj 12::bj 13::bj 14::bj 15::bj 16::bj 17::[])))
(.plain (aA 59 13::fD 60 .add 59 1::aA 13 60::[])))))))
.ret))))
.skip))
(.seq
(.seq
(.plain (aA 77 3::aA 78 2::cI 79 .sub 77 78::fD 80 .eql 79 1::[]))
(.cond (aH 80)
(.seq
(.plain (aA 81 1::aA 14 81::[]))
(.seq
(.plain (aA 82 2::aA 15 82::[]))
(.seq
(.block 4
(.loop
(.seq
(.seq
(.plain (aA 83 14::aA 84 15::cI 85 .lss 83 84::[]))
(.cond (aH 85)
.skip
(.exit 4)))
(.block 5
(.seq
(.plain (aA 86 14::aA 87 15::cI 88 .add 86 87::bH 89 (.jb .u64 (aH 88))::bH 90 (.bin .shr (aH 89) (.const (.int .u64 1)))::bH 91 (.jb .i64 (aH 90))::aA 16 91::[]))
(.seq
(.draw (aA 92 4::aA 93 0::aA 94 2::bH 95 (.dU a (aH 93) (aH 94))::bH 96 (.load b a (aH 95))::aA 97 0::aA 98 16::bH 99 (.dU a (aH 97) (aH 98))::bH 100 (.load b a (aH 99))::bH 101 (.jc (aH 92) [(aH 96),(aH 100)])::fD 102 .lss 101 0::bH 103 (.un .not (aH 102))::[])
(bj 0::bj 1::bj 2::bj 3::bj 4::bj 5::bj 6::bj 7::bj 8::bj 9::bj 10::bj 11::[]))
(.cond (aH 103)
(.plain (aA 104 16::fD 105 .add 104 1::aA 14 105::[]))
(.plain (aA 106 16::aA 15 106::[])))))))))
(.seq
(.seq
(.plain (aA 107 2::aA 17 107::[]))
(.block 6
(.loop
(.seq
(.seq
(.plain (aA 108 17::aA 109 14::cI 110 .gtr 108 109::[]))
(.cond (aH 110)
.skip
(.exit 6)))
(.seq
(.block 7
(.draw (aA 113 0::aA 114 17::aA 115 0::aA 116 17::fD 117 .sub 116 1::aA 118 0::aA 119 17::fD 120 .sub 119 1::bH 121 (.dU a (aH 118) (aH 120))::bH 122 (.load b a (aH 121))::aA 123 0::aA 124 17::bH 125 (.dU a (aH 123) (aH 124))::bH 126 (.load b a (aH 125))::bH 127 (.dU a (aH 113) (aH 114))::on (.store a (aH 127) (aH 122))::bH 128 (.dU a (aH 115) (aH 117))::on (.store a (aH 128) (aH 126))::[])
(bj 0::bj 1::bj 2::bj 3::bj 4::bj 5::bj 6::bj 7::bj 8::bj 9::bj 10::bj 11::bj 12::bj 13::bj 14::bj 15::bj 16::bj 17::[])))
(.plain (aA 111 17::fD 112 .sub 111 1::aA 17 112::[])))))))
.ret))))
.skip))
(.seq
(.plain (aA 129 1::aA 130 3::cI 131 .add 129 130::bH 132 (.jb .u64 (aH 131))::bH 133 (.bin .shr (aH 132) (.const (.int .u64 1)))::bH 134 (.jb .i64 (aH 133))::aA 18 134::[]))
(.seq
(.plain (aA 135 18::aA 136 2::cI 137 .add 135 136::aA 19 137::[]))
(.seq
(.plain (bH 20 (.fi (mw 0))::bH 21 (.fi (mw 0))::[]))
(.seq
(.seq
(.plain (aA 138 2::aA 139 18::cI 140 .gtr 138 139::[]))
(.cond (aH 140)
(.seq
(.plain (aA 141 19::aA 142 3::cI 143 .sub 141 142::aA 20 143::[]))
(.plain (aA 144 18::aA 21 144::[])))
(.seq
(.plain (aA 145 1::aA 20 145::[]))
(.plain (aA 146 2::aA 21 146::[])))))
(.seq
(.plain (aA 147 19::fD 148 .sub 147 1::aA 22 148::[]))
(.seq
(.block 8
(.loop
(.seq
(.seq
(.plain (aA 149 20::aA 150 21::cI 151 .lss 149 150::[]))
(.cond (aH 151)
.skip
(.exit 8)))
(.block 9
(.seq
(.plain (aA 152 20::aA 153 21::cI 154 .add 152 153::bH 155 (.jb .u64 (aH 154))::bH 156 (.bin .shr (aH 155) (.const (.int .u64 1)))::bH 157 (.jb .i64 (aH 156))::aA 23 157::[]))
(.seq
(.draw (aA 158 4::aA 159 0::aA 160 22::aA 161 23::cI 162 .sub 160 161::bH 163 (.dU a (aH 159) (aH 162))::bH 164 (.load b a (aH 163))::aA 165 0::aA 166 23::bH 167 (.dU a (aH 165) (aH 166))::bH 168 (.load b a (aH 167))::bH 169 (.jc (aH 158) [(aH 164),(aH 168)])::fD 170 .lss 169 0::bH 171 (.un .not (aH 170))::[])
(bj 0::bj 1::bj 2::bj 3::bj 4::bj 5::bj 6::bj 7::bj 8::bj 9::bj 10::bj 11::bj 12::bj 13::[]))
(.cond (aH 171)
(.plain (aA 172 23::fD 173 .add 172 1::aA 20 173::[]))
(.plain (aA 174 23::aA 21 174::[])))))))))
(.seq
(.plain (aA 175 19::aA 176 20::cI 177 .sub 175 176::aA 24 177::[]))
(.seq
(.seq
(.plain (aA 178 20::aA 179 2::cI 180 .lss 178 179::aA 181 180::fj 181 ζ 182 (.fi (aH 2))::fj 181 ζ 183 (.fi (aH 24))::fj 181 ζ 184 (.bin .lss (aH 182) (aH 183))::bH 185 (.pick (aH 181) (aH 184) r9)::[]))
(.cond (aH 185)
(.plain (aA 186 0::aA 187 20::aA 188 2::aA 189 24::aA 190 4::bH 191 (.fZ d [(aH 186),(aH 187),(aH 188),(aH 189),(aH 190)])::[]))
.skip))
(.seq
(.seq
(.plain (aA 192 1::aA 193 20::cI 194 .lss 192 193::aA 195 194::fj 195 ζ 196 (.fi (aH 20))::fj 195 ζ 197 (.fi (aH 18))::fj 195 ζ 198 (.bin .lss (aH 196) (aH 197))::bH 199 (.pick (aH 195) (aH 198) r9)::[]))
(.cond (aH 199)
(.plain (aA 200 0::aA 201 1::aA 202 20::aA 203 18::aA 204 4::bH 205 (.fZ c [(aH 200),(aH 201),(aH 202),(aH 203),(aH 204)])::[]))
.skip))
(.seq
(.plain (aA 206 18::aA 207 24::cI 208 .lss 206 207::aA 209 208::fj 209 ζ 210 (.fi (aH 24))::fj 209 ζ 211 (.fi (aH 3))::fj 209 ζ 212 (.bin .lss (aH 210) (aH 211))::bH 213 (.pick (aH 209) (aH 212) r9)::[]))
(.cond (aH 213)
(.plain (aA 214 0::aA 215 18::aA 216 24::aA 217 3::aA 218 4::bH 219 (.fZ c [(aH 214),(aH 215),(aH 216),(aH 217),(aH 218)])::[]))
.skip))))))))))))),[]⟩
def a3q:dz γ 0 323=β (tY 41 ζ 323 356):=acw
def a3r:dz γ 0 373=β (tY 1 θ 373 379):=acw
def w0(c:Nat)(d:Bool)(a b:FuncId):ar:=⟨63,3,
(.seq
(.plain (bH 6 (.fi (mw 20))::[]))
(.seq
(.plain (aA 10 6::bH 7 (.fi (mw 0))::aA 8 10::[]))
(.seq
(.block 0
(.loop
(.seq
(.seq
(.plain (aA 11 8::aA 12 1::cI 13 .leq 11 12::[]))
(.cond (aH 13)
.skip
(.exit 0)))
(.block 1
(.seq
(.plain (aA 14 0::aA 15 7::aA 16 8::aA 17 2::bH 18 (.fZ a [(aH 14),(aH 15),(aH 16),(aH 17)])::[]))
(.seq
(.plain (aA 19 8::aA 7 19::[]))
(.plain (aA 20 8::aA 21 6::cI 22 .add 20 21::aA 8 22::[]))))))))
(.seq
(.plain (aA 23 0::aA 24 7::aA 25 1::aA 26 2::bH 27 (.fZ a [(aH 23),(aH 24),(aH 25),(aH 26)])::[]))
(.block 2
(.loop
(.seq
(.seq
(.plain (aA 28 6::aA 29 1::cI 30 .lss 28 29::[]))
(.cond (aH 30)
.skip
(.exit 2)))
(.block 3
(.seq
(.plain (aA 31 6::bH 32 (.bin .mul (mw 2) (aH 31))::bH 7 (.fi (mw 0))::aA 8 32::[]))
(.seq
(.block 4
(.loop
(.seq
(.seq
(.plain (aA 33 8::aA 34 1::cI 35 .leq 33 34::[]))
(.cond (aH 35)
.skip
(.exit 4)))
(.block 5
(.seq
(.plain (aA 36 0::aA 37 7::aA 38 7::aA 39 6::cI 40 .add 38 39::aA 41 8::aA 42 2::bH 43 (.fZ b [(aH 36),(aH 37),(aH 40),(aH 41),(aH 42)])::[]))
(.seq
(.plain (aA 44 8::aA 7 44::[]))
(.plain (aA 45 8::aA 46 6::bH 47 (.bin .mul (mw 2) (aH 46))::cI 48 .add 45 47::aA 8 48::[]))))))))
(.seq
(.seq
(.plain (aA 49 7::aA 50 6::cI 51 .add 49 50::aA 9 51::[]))
(.seq
(.plain (aA 52 9::aA 53 1::cI 54 .lss 52 53::[]))
(.cond (aH 54)
(.plain (aA 55 0::aA 56 7::aA 57 9::aA 58 1::aA 59 2::bH 60 (.fZ b [(aH 55),(aH 56),(aH 57),(aH 58),(aH 59)])::[]))
.skip)))
(.plain (aA 61 6::fD 62 .mul 61 2::aA 6 62::[]))))))))))))),[]⟩
def a3s:dz γ 0 269=β (w0 41 ζ 322 323):=acw
def a3t:dz γ 0 359=β (w0 1 θ 220 373):=acw
structure pj(k:Nat)(a:R)(l b n:Nat):Prop where
 jz:∀i,i<n->cO k a (.v (.int .i64 ((i:Nat):Int)))=β (.ptr l (b+i*k))
 len:fk a=β (.v (.int .i64 (n:Int)))
 cl:a.cells=[a]
def pk(b:Nat)(c:Bool)(a:R):Prop:=α a.cells=b/\aQ c b a.cells=a
def el(a:Ψ)(b:Nat):R:=a.getD b (.aJ [])
def w1(a:Ψ)(b c:Nat):Ψ:=(a.set b (el a c)).set c (el a b)
def W(a:U)(b:Nat)(c d h:Ψ):U:=a.set b (.cells (c++flat h++d))
def a3u(a:e<α g):g[e]?=β (el g e):=by simp[el,a]
theorem kk(a:e<α g):el g e∈g:=a8r (a3u a)
theorem w2(a:e<α g)(b:i<α g):(w1 g e i).Perm g:=by have c:=Array.swap_perm (xs:=g.toArray) (i:=e) (j:=i) (by trivial) (by trivial);grind[Array.perm_iff_toList_perm,w1,Array.swap,el,List.getD]
theorem zU(b:∀a∈g,α a.cells=i)(d:e<α g):(B++flat g++e1).drop (α B+e*i)=(el g e).cells++(flat (g.drop (e+1))++e1):=by
 have h:g=g.take e++el g e::g.drop (e+1):=by grind[List.take_append_drop,Θ,el,List.getD]
 have k:(flat (g.take e)).length=e*i:=by rw[cW (λa c=>b a (a8v c)),a8l,a9T acq]
 grind[flat,el,List.append_assoc,List.drop_drop,List.drop_left]
theorem Gi(a:∀b∈g,α b.cells=i)(c:e<α g)(d:α n.cells=i):putAt (B++flat g++e1) (α B+e*i) n.cells=B++flat (g.set e n)++e1:=by
 have y:(flat (g.take e)).length=e*i:=by rw[cW (λb h=>a b (a8v h)),a8l,a9T acq]
 have k:g=g.take e++el g e::g.drop (e+1):=by grind[List.take_append_drop,Θ,el,List.getD]
 have z:flat g=flat (g.take e)++((el g e).cells++flat (g.drop (e+1))):=by
  conv=>lhs;rw[k]
  simp[flat]
 have o:flat (g.set e n)=flat (g.take e)++(n.cells++flat (g.drop (e+1))):=by rw[a9t,if_pos c];simp[flat]
 have p:=a _ (kk c);have r:(B++flat g++e1).take (α B+e*i)=B++flat (g.take e):=by grind
 have x:(B++flat g++e1).drop (α B+e*i+α n.cells)=flat (g.drop (e+1))++e1:=by rw[<-a8T,zU a c,d,<-p,aaN]
 rw[putAt,r,x,o];simp
structure a3v(k:Nat)(p:Bool)(d:U)(l c:Nat)(pre post es:Ψ)(i h:Nat)(a b:R)(cs o r:Ψ):Prop where
 st:ep (W d l pre post es) l=β cs
 rC:du p k (W d l pre post es) (.ptr l (c+i*k))=β a
 rD:du p k (W d l pre post es) (.ptr l (c+h*k))=β b
 qx:α a.cells=k
 iw:α b.cells=k
 oi:c+i*k+k<=α cs
 oj:c+h*k+k<=α o
 o5:putAt cs (c+i*k) b.cells=o
 o6:putAt o (c+h*k) a.cells=r
 fin:(W d l pre post es).set l (.cells r)=W d l pre post (w1 es i h)
variable{I:Bool}
theorem o8(D:0<e)(o:α B=O)(c:∀a∈g,pk e I a)(d:i<α g):du I e (W f v B e1 g) (.ptr v (O+i*e))=β (el g i):=by
 subst o;have p:=λa r=>(c a r).1;have x:=c _ (kk d);have y:(W f v B e1 g).read v=β (B++flat g++e1):=ι (μ _ _ _);have h:=zU p d (B:=B) (e1:=e1);have z:α B+i*e+e<=(B++flat g++e1).length:=by have:=congrArg α h;grind[ω,el,flat,List.length_drop]
 simp only[du,y,if_pos z,h];obtain⟨k,b⟩:=x;rw[<-b]
 conv=>rhs;rw[b]
 generalize el g i=a at*;cases I
 .simp only[aQ,a9m,if_false]at b|-;cases C:a.cells with
  |nil=>rw[C]at k;simp at k;omega
  |cons E F=>simp_all
 simp_all [Ο,aQ]
theorem w3(E:0<e)(o:α B=e0)(p:∀a∈g,pk e I a)(b:i<α g)(c:v<α g):
  ∃F G L,a3v e I f O e0 B e1 g i v (el g i) (el g v) F G L:=by
 have d:=λa r=>(p a r).1;have x:=d _ (kk b);have y:=d _ (kk c);have z:∀a∈g.set i (el g v),α a.cells=e:=λa r=>by
  grind
 have P:=Gi d b (B:=B) (e1:=e1) y;have S:=Gi z (by simpa using c) (B:=B) (e1:=e1) x;have C:=λ{i} b=>o8 E (f:=f) (v:=O) (e1:=e1) o p (i:=i) b;have D:∀(h)(k),(∀a∈h,α a.cells=e)->k<α h->α B+k*e+e<=(B++flat h++e1).length:=λh k T V=>by
  have:=congrArg α (zU T V (B:=B) (e1:=e1));grind[ω,el,flat,List.length_drop,kk]
 subst o;refine⟨_,_,_,?_,C b,C c,x,y,D g i d b,D _ v z (by simpa using c),P,S,?_⟩
 .simp[ep,W,μ]
 .simp only[W,ς,w1]
variable{b5:FuncId}
section
def zV(x:dz γ 0 b5=β (qw e I))(y:0<e)(z:α g=v)(h:pj e n i v (α e1))(T:α e1<=1000000000000)(V:O+j6<=α e1)(j:e0+j6<=α e1)(C:R)(k:Ψ)(D:k.Perm e1)(E:∀o∈e1,pk e I o):
  AC γ b5 [n,.v (.int .i64 (O:Int)),.v (.int .i64 (e0:Int)),.v (.int .i64 (j6:Int)),C] (W f i g B k) λl p=>∃r,r.Perm e1/\p=W f i g B r:=by
 have m:=h.cl;refine aL hm x ?_;refine cd [0,1,2,3] (λb:Nat×Ψ=>[(10,.v (.int .i64 (b.1)))]) (λb p=>p=W f i g B b.2/\b.2.Perm e1/\b.1<=j6) (λb=>j6 - b.1) (0,k) ⟨⟨rfl,D,acq⟩,aR⟩ ?_;rintro⟨a,d⟩ _ ⟨rfl,c,F⟩ q
 dsimp only at c F|-
 refine aa ?_;refine aG (λG=>?_) λG=>?_
 .have s:=c.length_eq;obtain⟨t,u,w,L⟩:=w3 y (f:=f) (O:=i) (e1:=B) z (λo P=>E o (c.mem_iff.1 P)) (i:=O+a) (v:=e0+a) acq acq;have S:=w2 (g:=d) (e:=O+a) (i:=e0+a) acq acq;obtain⟨A,H,K,M,N,Q,X,Y,Z,k3⟩:=L;have k4:=h.jz (O+a) acq;have k5:=h.jz (e0+a) acq;generalize W f i g B d=k6 at*;generalize el d (O+a)=b at*;generalize el d (e0+a)=k7 at*;have k8:(O)+(a)=((O+a:Nat):Int):=rfl;have k9:(e0)+(a)=((e0+a:Nat):Int):=rfl;refine aa ?_;exact⟨(a+1,_),⟨rfl,S.trans c,by show a+1<=j6;omega⟩,rfl,by show j6 -(a+1)<j6 - a;omega⟩
 .exact⟨_,η,_,c,rfl⟩
theorem a3w{L:FuncId}(T:dz γ 0 b5=β (rZ e I L))(r:dz γ 0 L=β (qw e I))(x:0<e)(y:α g=v)(o:pj e n i v (α e1))(z:α e1<=1000000000000)(u:j6<O)(w:O<e0)(A:e0<=α e1)(p:R)(C:Ψ)(V:C.Perm e1)(D:∀j∈e1,pk e I j):
  AC γ b5 [n,.v (.int .i64 (j6:Int)),.v (.int .i64 (O:Int)),.v (.int .i64 (e0:Int)),p] (W f i g B C) λE F=>∃P,P.Perm e1/\F=W f i g B P:=by
 have H:=o.cl;have S:(O) -(j6)=((O - j6:Nat):Int):=acq;have d:(e0) -(O)=((e0 - O:Nat):Int):=acq;refine aL hm T ?_;refine cd [0,1,2,3,4] (λc:(Nat×Nat)×Ψ=>[(10,.v (.int .i64 (c.1.1))),(11,.v (.int .i64 (c.1.2)))]) (λc F=>F=W f i g B c.2/\c.2.Perm e1/\0<c.1.1/\0<c.1.2/\c.1.1<=O - j6/\c.1.2<=e0 - O) (λc=>c.1.1+c.1.2) ((O - j6,e0 - O),C) ⟨⟨rfl,V,by show 0<O - j6;omega,by show 0<e0 - O;omega,a8P _,a8P _⟩,aR⟩ ?_;clear S d;rintro⟨⟨a,b⟩,d⟩ _ ⟨rfl,G,l,m,q,s⟩ K
 dsimp only at*
 have S:(O) -(a)=((O - a:Nat):Int):=acq;refine aa ?_;refine aG (λt=>?_) λt=>?_
 .refine aG (λc2=>?_) λc2=>?_
  .refine ag (zV r x y o z acq acq p d G D) ?_;rintro E _⟨h,k,rfl⟩;refine aa ?_;exact⟨((a - b,b),h),⟨rfl,k,by show 0<a - b;omega,m,by show a - b<=O - j6;omega,s⟩,⟨by grind,rfl⟩,by show a - b+b<a+b;omega⟩
  .have h:(O)+(b) -(a)=((O+b - a:Nat):Int):=acq;refine aa ?_;refine ag (zV r x y o z acq acq p d G D) ?_;rintro E _⟨h,k,rfl⟩;refine aa ?_;exact⟨((a,b - a),h),⟨rfl,k,l,by show 0<b - a;omega,q,by show b - a<=e0 - O;omega⟩,⟨rfl,by grind⟩,by show a+(b - a)<a+b;omega⟩
 .obtain rfl:a=b:=acq;refine aa ?_;refine ag (zV r x y o z acq acq p d G D) ?_;rintro E _⟨h,k,rfl⟩;refine aa ?_;exact⟨_,η,_,k,rfl⟩
def pn(c:U)(d:Nat)(h k a:Ψ)(o:FuncId)(x y:Ψ)(z:R->R->Int):Prop:=
 fH γ o=ζ/\∀b,b.Perm a->∀p∈a,∀r∈a,AC γ o (x++[p,r]++y) (W c d h k b) λC D=>D=W c d h k b/\C=.v (.int .i64 (z p r))
def Gj(P:dz γ 0 b5=β (tX e I))(o:0<e)(p:α g=v)(r:pj e n i v (α e1))(t:α e1<=1000000000000)(u:O<=e0)(w:e0<=α e1){C:FuncId}{D E:Ψ}{S:R->R->Int}(F:pn f i g B e1 C D E S)(x:Ψ)(T:x.Perm e1)(V:∀y∈e1,pk e I y):
  AC γ b5 [n,.v (.int .i64 (O:Int)),.v (.int .i64 (e0:Int)),.bL C D E] (W f i g B x) λA h=>∃G,G.Perm e1/\h=W f i g B G:=by
 have H:=r.cl;refine aL hm P ?_;refine cd [0,1,2,3] (λa:Nat×Ψ=>[(8,.v (.int .i64 (a.1)))]) (λa h=>h=W f i g B a.2/\a.2.Perm e1/\O<a.1/\a.1<=e0+1) (λa=>e0+1 - a.1) (O+1,x) ⟨⟨rfl,T,by show O<O+1;omega,by show O+1<=e0+1;omega⟩,aa Zn⟩ ?_;rintro⟨c,j⟩ _ ⟨rfl,L,K,M⟩ N
 dsimp only at*
 refine aa ?_;refine aG (λl=>?_) λl=>?_
 .refine cd [0,1,2,3,8] (λa:Nat×Ψ=>[(9,.v (.int .i64 (a.1)))]) (λa h=>h=W f i g B a.2/\a.2.Perm e1/\O<=a.1/\a.1<=c) (λa=>a.1) (c,j) ⟨⟨rfl,L,by show O<=c;omega,a8P _⟩,aR⟩ ?_;rintro⟨b,k⟩ _ ⟨rfl,d,Q,X⟩ Y
  dsimp only at*
  have Z:=d.length_eq;refine aa ?_;refine aG (λm=>?_) λm=>?_
  .have k3:=r.jz b acq;have k4:=r.jz (b - 1) acq;have k5:(b) - 1=((b - 1:Nat):Int):=acq;have z:=λy q=>V y (d.mem_iff.1 q);have k6:=o8 o (f:=f) (v:=i) (e1:=B) p z (i:=b) acq;have k7:=o8 o (f:=f) (v:=i) (e1:=B) p z (i:=b - 1) acq;refine aa ?_;refine fm F.1 (F.2 k d _ (d.mem_iff.1 (kk acq)) _ (d.mem_iff.1 (kk acq))) ?_;rintro _ _⟨rfl,rfl⟩;refine aa ?_;refine aG (λc2=>?_) λc2=>?_
   .obtain⟨k8,k9,l0,l1,l2,l3,l4,l5,l6,l7,l8,l9,n0⟩:=w3 o (f:=f) (O:=i) (e1:=B) p z (i:=b) (v:=b - 1) acq acq;have s:=w2 (g:=k) (e:=b) (i:=b - 1) acq acq;generalize W f i g B k=n1 at*;generalize el k b=a at*;generalize el k (b - 1)=n2 at*;refine aa ?_;exact⟨(b - 1,_),⟨rfl,s.trans d,by show O<=b - 1;omega,by show b - 1<=c;omega⟩,rfl,by show b - 1<b;omega⟩
   .exact⟨(c+1,_),⟨rfl,d,by show O<c+1;omega,by show c+1<=e0+1;omega⟩,rfl,acq⟩
  .exact⟨(c+1,_),⟨rfl,d,by show O<c+1;omega,by show c+1<=e0+1;omega⟩,rfl,acq⟩
 .exact⟨_,η,_,L,rfl⟩
def w4(a b:Nat):br .shr (.int .u64 ((a:Int)+(b:Int))) (.int .u64 1)=β (.int .u64 (((a+b)/2:Nat):Int)):=by have:=sS (a+b) .u64 1 acq acq;rw[a9l]at this;exact this
theorem w5{O A k9:FuncId}(Q:dz γ 0 O=β (tY e I O A))(X:dz γ 0 A=β (rZ e I k9))(Y:dz γ 0 k9=β (qw e I))(P:0<e)(S:α g=v)(F:pj e n i v (α e1))(Z:α e1<=1000000000000){l0:FuncId}{l1 l2:Ψ}{l8:R->R->Int}(V:pn f i g B e1 l0 l1 l2 l8)(j:∀D∈e1,pk e I D):∀(H h c k:Nat),k - h<=H->h<c->c<k->k<=α e1->∀(E:Ψ),E.Perm e1->
  AC γ O [n,.v (.int .i64 (h:Int)),.v (.int .i64 (c:Int)),.v (.int .i64 (k:Int)),.bL l0 l1 l2] (W f i g B E) λa13 C=>∃l3,l3.Perm e1/\C=W f i g B l3
 |0,h,c,k,l9,n0,n1,n2,E,y=>by omega
 |H+1,h,c,k,l9,n0,n1,n2,E,y=>by
  have a14:=F.cl;refine aL hm Q ?_;refine aG (λn3=>?_) λn3=>?_
  .refine gX [0,1,2,3,4] (λa:Nat×Nat=>[(10,.v (.int .i64 (a.1))),(11,.v (.int .i64 (a.2)))]) (λa=>c<=a.1/\a.1<=a.2/\a.2<=k) (λa=>a.2 - a.1) (c,k) ⟨a8P _,by show c<=k;omega,a8P _⟩ aR ?_;rintro⟨b,d⟩ ⟨G,l,L⟩ m
   dsimp only at G l L|-
   refine aa ?_;have k3:=w4 b d;have K:=y.length_eq;have q:=λD T=>j D (y.mem_iff.1 T);refine aG (λc2=>?_) λc2=>?_
   .have M:=F.jz ((b+d)/2) acq;have N:=F.jz h acq;have l4:=o8 P (f:=f) (v:=i) (e1:=B) S q (i:=(b+d)/2) acq;have l5:=o8 P (f:=f) (v:=i) (e1:=B) S q (i:=h) acq;have l6:(b+d)/2<=1000000000000:=acq;obtain⟨s,k4⟩:b<=(b+d)/2/\(b+d)/2<d:=acq;have w:=V.2 E y _ (y.mem_iff.1 (kk (e:=(b+d)/2) acq)) _ (y.mem_iff.1 (kk (e:=h) acq));generalize (b+d)/2=o at*;refine aa ?_;refine fm V.1 w ?_;rintro _ _⟨rfl,rfl⟩;refine aa ?_;refine aG (λaD=>?_) λaD=>?_
    .exact⟨(o+1,d),⟨by show c<=o+1;omega,by show o+1<=d;omega,L⟩,⟨rfl,rfl⟩,by show d -(o+1)<d - b;omega⟩
    .exact⟨(b,o),⟨G,s,by show o<=k;omega⟩,⟨rfl,rfl⟩,by show o - b<d - b;omega⟩
   .refine cd [0,1,2,3,4,10] (λa:Nat×Ψ=>[(13,.v (.int .i64 (a.1)))]) (λa C=>C=W f i g B a.2/\a.2.Perm e1/\h<=a.1) (λa=>b - a.1) (h,E) ⟨⟨rfl,y,a8P _⟩,aR⟩ ?_;rintro⟨p,z⟩ _ ⟨rfl,x,k5⟩ A
    dsimp only at x k5|-
    refine aa ?_;refine aG (λaD=>?_) λaD=>?_
    .have K:=x.length_eq;have k6:=λD T=>j D (x.mem_iff.1 T);have M:=F.jz p acq;have N:=F.jz (p+1) acq;have l7:(p)+1=((p+1:Nat):Int):=acq;obtain⟨n4,n5,n9,a00,a01,a02,a03,a04,a05,a06,a07,a08,a09⟩:=w3 P (f:=f) (O:=i) (e1:=B) S k6 (i:=p) (v:=p+1) acq acq;have k7:=w2 (g:=z) (e:=p) (i:=p+1) acq acq;generalize W f i g B z=a10 at*;generalize el z p=a at*;generalize el z (p+1)=a11 at*;refine aa ?_;exact⟨(p+1,_),⟨rfl,k7.trans x,by show h<=p+1;omega⟩,rfl,by show b -(p+1)<b - p;omega⟩
    .exact⟨_,η,_,x,rfl⟩
  .refine aG (λc2=>?_) λc2=>?_
   .refine gX [0,1,2,3,4] (λa:Nat×Nat=>[(14,.v (.int .i64 (a.1))),(15,.v (.int .i64 (a.2)))]) (λa=>h<=a.1/\a.1<=a.2/\a.2<=c) (λa=>a.2 - a.1) (h,c) ⟨a8P _,by show h<=c;omega,a8P _⟩ aR ?_;rintro⟨b,d⟩ ⟨G,l,L⟩ m
    dsimp only at G l L|-
    refine aa ?_;have k3:=w4 b d;have K:=y.length_eq;have q:=λD T=>j D (y.mem_iff.1 T);refine aG (λaD=>?_) λaD=>?_
    .have M:=F.jz ((b+d)/2) acq;have N:=F.jz c acq;have l4:=o8 P (f:=f) (v:=i) (e1:=B) S q (i:=(b+d)/2) acq;have l5:=o8 P (f:=f) (v:=i) (e1:=B) S q (i:=c) acq;obtain⟨s,k4⟩:b<=(b+d)/2/\(b+d)/2<d:=acq;have w:=V.2 E y _ (y.mem_iff.1 (kk (e:=c) acq)) _ (y.mem_iff.1 (kk (e:=(b+d)/2) acq));have l6:(b+d)/2<=1000000000000:=acq;generalize (b+d)/2=o at*;refine aa ?_;refine fm V.1 w ?_;rintro _ _⟨rfl,rfl⟩;refine aa ?_;refine aG (λaD=>?_) λaD=>?_
     .exact⟨(o+1,d),⟨by show h<=o+1;omega,by show o+1<=d;omega,L⟩,⟨rfl,rfl⟩,by show d -(o+1)<d - b;omega⟩
     .exact⟨(b,o),⟨G,s,by show o<=c;omega⟩,⟨rfl,rfl⟩,by show o - b<d - b;omega⟩
    .refine cd [0,1,2,3,4,14] (λa:Nat×Ψ=>[(17,.v (.int .i64 (a.1)))]) (λa C=>C=W f i g B a.2/\a.2.Perm e1/\a.1<=c) (λa=>a.1) (c,E) ⟨⟨rfl,y,a8P _⟩,aR⟩ ?_;rintro⟨p,z⟩ _ ⟨rfl,x,k5⟩ A
     dsimp only at x k5|-
     refine aa ?_;refine aG (λaP=>?_) λaP=>?_
     .have K:=x.length_eq;have k6:=λD T=>j D (x.mem_iff.1 T);have M:=F.jz p acq;have N:=F.jz (p - 1) acq;have l7:(p) - 1=((p - 1:Nat):Int):=acq;obtain⟨n4,n5,n9,a00,a01,a02,a03,a04,a05,a06,a07,a08,a09⟩:=w3 P (f:=f) (O:=i) (e1:=B) S k6 (i:=p) (v:=p - 1) acq acq;have k7:=w2 (g:=z) (e:=p) (i:=p - 1) acq acq;generalize W f i g B z=a10 at*;generalize el z p=a at*;generalize el z (p - 1)=a11 at*;refine aa ?_;exact⟨(p - 1,_),⟨rfl,k7.trans x,by show p - 1<=c;omega⟩,rfl,by show p - 1<p;omega⟩
     .exact⟨_,η,_,x,rfl⟩
   .have k3:=w4 h k;have a15:(h+k)/2<=1000000000000:=acq;obtain⟨s,k4⟩:h<(h+k)/2/\(h+k)/2<k:=acq;have a16:(h+k)/2 - h<=k -(h+k)/2:=acq;have a18:k -(h+k)/2<=(h+k)/2 - h+1:=acq;generalize (h+k)/2=r at*;refine aa ?_;refine oX [0,1,2,3,4,18,19] (λa:Nat×Nat=>[(20,.v (.int .i64 (a.1))),(21,.v (.int .i64 (a.2)))]) (λa C=>C=W f i g B E/\h<=a.1/\a.1<=a.2/\r+c<=k+a.1/\a.2<=r/\a.2<=c) (λaD=>?_) (λaD=>?_) ?_
    .have aD:=of_decide_eq_true aD;have a19:(r)+(c) -(k)=((r+c - k:Nat):Int):=acq;refine aa ?_;exact⟨(r+c - k,r),⟨by show h<=r+c - k;omega,by show r+c - k<=r;omega,acq,a8P _,by show r<=c;omega⟩,rfl,rfl⟩
    .have aD:=of_decide_eq_false aD;refine aa ?_;exact⟨(h,c),⟨a8P _,by show h<=c;omega,by show r+c<=k+h;omega,by show c<=r;omega,a8P _⟩,rfl,rfl⟩
    rintro⟨b,d⟩ _ ⟨rfl,G,l,t,L,u⟩ m
    dsimp only at G l t L u|-
    refine q1 [0,1,2,3,4,18,19,20,21] (λ_:Unit=>[(22,.v (.int .i64 ((r+c - 1:Nat))))]) (λ_ C=>C=W f i g B E) ?_ ?_
    .refine aa ?_;exact⟨(),by congr 2;omega⟩
    rintro _ _ rfl m;refine q1 [0,1,2,3,4,18,19] (λb:Nat=>[(20,.v (.int .i64 (b)))]) (λb C=>C=W f i g B E/\h<=b/\r+c<=k+b/\b<=r/\b<=c) ?_ ?_
    .refine aa ?_;refine gX [0,1,2,3,4,18,19,22] (λa:Nat×Nat=>[(20,.v (.int .i64 (a.1))),(21,.v (.int .i64 (a.2)))]) (λa=>h<=a.1/\a.1<=a.2/\r+c<=k+a.1/\a.2<=r/\a.2<=c) (λa=>a.2 - a.1) (b,d) ⟨G,l,t,L,u⟩ aR ?_;rintro⟨b,d⟩ ⟨G,l,t,L,u⟩ m
     dsimp only at G l t L u|-
     have k3:=w4 b d;have K:=y.length_eq;have q:=λD T=>j D (y.mem_iff.1 T);refine aa ?_;refine aG (λaP=>?_) λaP=>?_
     .obtain⟨s,k4⟩:b<=(b+d)/2/\(b+d)/2<d:=acq;have l6:(b+d)/2<=1000000000000:=acq;generalize (b+d)/2=o at*;have l7:((r+c - 1:Nat)) -(o)=((r+c - 1 - o:Nat):Int):=acq;have M:=F.jz o acq;have N:=F.jz (r+c - 1 - o) acq;have l4:=o8 P (f:=f) (v:=i) (e1:=B) S q (i:=o) acq;have l5:=o8 P (f:=f) (v:=i) (e1:=B) S q (i:=r+c - 1 - o) acq;have w:=V.2 E y _ (y.mem_iff.1 (kk (e:=r+c - 1 - o) acq)) _ (y.mem_iff.1 (kk (e:=o) acq));refine aa ?_;refine fm V.1 w ?_;rintro _ _⟨rfl,rfl⟩;refine aa ?_;refine aG (λbl=>?_) λbl=>?_
      .exact⟨(o+1,d),⟨by show h<=o+1;omega,by show o+1<=d;omega,by show r+c<=k+(o+1);omega,L,u⟩,⟨rfl,rfl⟩,by show d -(o+1)<d - b;omega⟩
      .exact⟨(b,o),⟨G,s,t,by show o<=r;omega,by show o<=c;omega⟩,⟨rfl,rfl⟩,by show o - b<d - b;omega⟩
     grind
    rintro b _⟨rfl,G,t,L,u⟩m;refine q1 [0,1,2,3,4,18,20] (λ_:Unit=>[(24,.v (.int .i64 ((r+c - b:Nat))))]) (λ_ C=>C=W f i g B E) ?_ ?_
    .refine aa ?_;exact⟨(),by congr 2;omega⟩
    rintro _ _ rfl m;obtain⟨D,T⟩:∃D,r+c - b=D:=⟨_,rfl⟩;have a27:D<=k:=acq;rw[T];refine q1 [0,1,2,3,4,18,20,24] (λ_:Ψ=>[]) (λa C=>C=W f i g B a/\a.Perm e1) ?_ ?_
    .refine aa ?_;refine aG (λaP=>?_) λaP=>?_
     .refine aG (λbl=>?_) λbl=>?_
      .refine ag (a3w X Y P S F Z acq acq acq _ E y j) ?_;rintro _ _⟨z,x,rfl⟩;refine aa ?_;exact⟨z,rfl,x⟩
      .exact⟨E,rfl,y⟩
     .exact⟨E,rfl,y⟩
    rintro z _⟨rfl,x⟩m;refine q1 [0,1,2,3,4,18,20,24] (λ_:Ψ=>[]) (λa C=>C=W f i g B a/\a.Perm e1) ?_ ?_
    .refine aa ?_;refine aG (λaP=>?_) λaP=>?_
     .refine aG (λbl=>?_) λbl=>?_
      .refine ag (w5 Q X Y P S F Z V j H h b r acq acq acq acq z x) ?_;rintro _ _⟨k8,x,rfl⟩;refine aa ?_;exact⟨k8,rfl,x⟩
      .exact⟨z,rfl,x⟩
     .exact⟨z,rfl,x⟩
    rintro z _⟨rfl,x⟩m;refine aa ?_;refine aG (λaP=>?_) λaP=>?_
    .refine aG (λbl=>?_) λbl=>?_
     .refine ag (w5 Q X Y P S F Z V j H r D k acq acq acq acq z x) ?_;rintro _ _⟨k8,x,rfl⟩;refine aa ?_;exact⟨_,η,k8,x,rfl⟩
     .exact⟨_,η,z,x,rfl⟩
    .exact⟨_,η,z,x,rfl⟩
def a3x{T V D j:FuncId}(O:dz γ 0 T=β (w0 e I V b5))(l:dz γ 0 V=β (tX e I))(m:dz γ 0 b5=β (tY e I b5 D))(q:dz γ 0 D=β (rZ e I j))(s:dz γ 0 j=β (qw e I))(p:0<e)(r:α g=v)(E:pj e n i v (α e1))(Q:α e1<=1000000000){t:FuncId}{u w:Ψ}{X:R->R->Int}(x:pn f i g B e1 t u w X)(y:∀Y∈e1,pk e I Y):
  AC γ T [n,.v (.int .i64 (α e1:Int)),.bL t u w] (W f i g B e1) λk8 h=>∃A,A.Perm e1/\h=W f i g B A:=by
 have k9:=E.cl;have H:α e1<=1000000000000:=acq;have z:=E;have C:=H;obtain⟨b,Z⟩:∃b,α e1=b:=⟨_,rfl⟩;rw[Z]at Q H E|-;refine aL hm O ?_;refine cd [0,1,2,6] (λa:Nat×Ψ=>[(7,.v (.int .i64 (a.1))),(8,.v (.int .i64 ((a.1+20:Nat))))]) (λa h=>h=W f i g B a.2/\a.2.Perm e1/\a.1<=b) (λa=>b - a.1) (0,e1) ⟨⟨rfl,.refl _,a8M _⟩,aR⟩ ?_;rintro⟨c,K⟩ _ ⟨rfl,F,G⟩ l0
 dsimp only at F G|-
 refine aa ?_;refine aG (λk3=>?_) λk3=>?_
 .refine ag (Gj l p r z C acq acq x K F y) ?_;rintro _ _⟨L,k,rfl⟩;refine aa ?_;exact⟨(c+20,L),⟨rfl,k,by show c+20<=b;omega⟩,⟨rfl,rfl⟩,by show b -(c+20)<b - c;omega⟩
 .refine ag (Gj l p r z C acq acq x K F y) ?_;rintro _ _⟨L,k,rfl⟩;refine aa ?_;refine cd [0,1,2] (λa:Nat×Ψ=>[(6,.v (.int .i64 (a.1)))]) (λa h=>h=W f i g B a.2/\a.2.Perm e1/\0<a.1/\a.1<=20+2*b) (λa=>b - a.1) (20,L) ⟨⟨rfl,k,by show 0<20;omega,by show 20<=20+2*b;omega⟩,aR⟩ ?_;rintro⟨aO,M⟩ _ ⟨rfl,P,k4,k5⟩ b5
  dsimp only at P k4 k5|-
  refine aa ?_;refine aG (λc2=>?_) λc2=>?_
  .have l1:2*(aO)=((2*aO:Nat):Int):=acq;refine cd [0,1,2,6] (λa:Nat×Ψ=>[(7,.v (.int .i64 (a.1))),(8,.v (.int .i64 ((a.1+2*aO:Nat))))]) (λa h=>h=W f i g B a.2/\a.2.Perm e1/\a.1<=b) (λa=>b - a.1) (0,M) ⟨⟨rfl,P,a8M _⟩,by rw[a8J];exact aR⟩ ?_;rintro⟨c,N⟩ _ ⟨rfl,S,G⟩ D
   dsimp only at S G|-
   have l2:(c)+(aO)=((c+aO:Nat):Int):=rfl;refine aa ?_;refine aG (λaD=>?_) λaD=>?_
   .refine ag (w5 m q s p r z C x y _ c (c+aO) (c+2*aO) (a8P _) acq acq acq N S) ?_;rintro _ _⟨d,k,rfl⟩;refine aa ?_;exact⟨(c+2*aO,d),⟨rfl,k,by show c+2*aO<=b;omega⟩,⟨rfl,acr⟩,by show b -(c+2*aO)<b - c;omega⟩
   .have k6:∀d:Ψ,d.Perm e1->∃o:Nat×Ψ,(W f i g B d=W f i g B o.2/\o.2.Perm e1/\0<o.1/\o.1<=20+2*b)/\R.v (.int .i64 ((aO)*2))=.v (.int .i64 (o.1))/\b - o.1<b - aO:=λd k7=>⟨(aO*2,d),⟨rfl,k7,by show 0<aO*2;omega,by show aO*2<= _;omega⟩,rfl,by show b - aO*2<b - aO;omega⟩;refine aG (λaP=>?_) λaP=>?_
    .refine ag (w5 m q s p r z C x y _ c (c+aO) b (a8P _) acq acq acq N S) ?_;rintro _ _⟨d,k,rfl⟩;have:=k6 d k;exact aR
    .trivial
  .exact⟨_,η,M,P,rfl⟩
def zX(a:FuncId):ar:=⟨9,2,.plain (aA 4 0::aA 5 0::pS 6 5::aA 7 1::bH 8 (.fZ a [aH 4,aH 6,aH 7])::[]),[]⟩
def Gk{b c d h k:FuncId}(y:dz γ 0 b=β (zX c))(z:dz γ 0 c=β (w0 e I d b5))(C:dz γ 0 d=β (tX e I))(D:dz γ 0 b5=β (tY e I b5 h))(E:dz γ 0 h=β (rZ e I k))(F:dz γ 0 k=β (qw e I))(G:0<e)(L:α g=v)(a:pj e n i v (α e1))(P:α e1<=1000000000){o:FuncId}{p r:Ψ}{S:R->R->Int}(T:pn f i g B e1 o p r S)(V:∀j∈e1,pk e I j):
  AC γ b [n,.bL o p r] (W f i g B e1) λs l=>∃x,x.Perm e1/\l=W f i g B x:=by
 have t:=a.cl;have u:=a.len;refine aL hm y ?_;refine ag (a3x z C D E F G L a P T V) ?_;rintro _ _⟨m,q,rfl⟩;refine aa ?_;exact⟨_,η,m,q,rfl⟩
end
def a3y:dz γ 0 204=β (zX 269):=acw
def a3z:dz γ 0 326=β (zX 359):=acw
theorem av.wr(d:av s f e B n)(h:0<e)(k:B=flat g)(o:∀c∈g,α c.cells=e)(E:g≠[]):
  ∃a post b,s a=ε/\n=.aq a (α g) b e/\f=W f a [] post g/\pj e n a 0 (α g)/\α g<=b/\b<=maxLen/\(α g*e+α post=b*e):=by
 subst k;have F:=cW o;obtain⟨G,⟨c,_⟩|⟨a,p,b,r,rfl,x,y,L,z,P,C,D⟩⟩:=d;grind[List.length_nil,List.length_pos_iff,Nat.mul_pos]
 .obtain rfl:p=α g:=aay h acq;refine⟨a,r.drop (α g*e),b,x,rfl,?_,⟨λS T=>?_,rfl,rfl⟩,C,D,?_⟩
  .rw[W,a8y,<-z,a8K];exact(U.tG y).symm
  simp_all [jj];grind
theorem W.dA(d:f.sub s)(b:f v=ε)(h:∀a∈g,α a.cells=e)(c:B.Perm g)(k:α g<=i)(o:i<=maxLen)(x:α g*e+α e1=i*e):
  av f (W s v [] e1 B) e (flat B) (.aq v (α g) i e):=by
 have p:(flat B).length=α g*e:=by rw[cW λa r=>h a (c.mem_iff.1 r),c.length_eq]
 refine⟨κ d b,.inr ⟨v,_,i,_,rfl,b,μ _ _ _,?_,?_,p,k,o⟩⟩;simp_all;simp_all
theorem aB.mem{h:Type}{k:h->R->Prop}:∀ {c:List h}{aO:Ψ},aB k c aO->∀ {b:R},b∈aO->∃d,d∈c/\k d b
 |[],[],_,b,a=>by cases a
 |d::c,p::aO,⟨h1,o⟩,b,a=>by
  rcases a8E.1 a with rfl|a
  .simp_all
  .obtain⟨r,x,y⟩:=aB.mem o a;grind
 |[],_:: _,a,_,_=>a.elim
 |_:: _,[],a,_,_=>a.elim
variable{b2:Type}
def aB.perm{p:b2->R->Prop}(r:g.Perm B):∀ {a:List b2},aB p a B->∃c,c.Perm a/\aB p c g:=by
 induction r with
 |nil=>exact λ{a} b=>⟨a,.refl _,b⟩
 |cons x _ ih=>
  intro a b
  match a,b with
  |h::a,⟨h1,k⟩=>obtain⟨c,d,o⟩:=ih k;exact⟨h::c,d.cons _,h1,o⟩
 |swap x G L=>
  intro a b
  match a,b with
  |h::y::a,⟨h1,k,d⟩=>exact⟨y::h::a,.swap _ _ _,k,h1,d⟩
 |trans _ _ z C=>intro a b;obtain⟨c,d,o⟩:=C b;obtain⟨D,E,F⟩:=z o;exact⟨D,E.trans d,F⟩
theorem pn.of{s:U}{l:Nat}{ds d:Ψ}(r:fH γ b5=ζ)(x:∀b∈e1,∀c∈e1,∃h:Int,∀a,a.Perm e1->AC γ b5 (ds++[b,c]++d) (W s l g B a) λk o=>o=W s l g B a/\k=.v (.int .i64 h)):
  ∃y,pn s l g B e1 b5 ds d y:=by
 classical
 exact⟨λb c=>if z:∃h:Int,∀a,a.Perm e1->AC γ b5 (ds++[b,c]++d) (W s l g B a) λk o=>o=W s l g B a/\k=.v (.int .i64 h)then z.choose else 0,r,λa C b D c E=>by
  have p:=x b D c E;simp only[dif_pos p];exact p.choose_spec a C⟩
theorem a3A(E:Own)(p:Nat)(a00:1<=p)(a01:p<=8)(a:List Τ)(q:Ψ)(V:R)(x:U)(F:bS x 1 V q)(e:aB isRow a q)(s:∀k∈a,α k=p)(a02:α a<=100000)(k3:a≠[]):
  AC γ 274 [fU.V E,V] x λk f=>∃t g,g.Perm a/\aB isRow g t/\av x f 1 (flat t) k:=by
 have k4:=e.len;have a03:=F.one;have k5:=F.len;rw[k4]at k5;refine aL hm SF ?_;refine bp λy a04=>?_;generalize i:x.set y _=j;have u:x.sub j:=by subst i;exact aR
 have G:j y=β (.cells [.v (.int .u8 0),.v (.int .i64 0),.J (af []) E]):=by subst i;exact aR
 clear i;refine cd [1,2,8,9] (λd:Nat×R=>[(10,.v (.int .i64 (d.1))),(5,d.2)]) (λd f=>d.1<=α a/\∃h,av j f 1 h d.2/\h=flat h/\aB isRow (a.take d.1) h) (λd=>α a - d.1) (0,.J [] .nil) ⟨⟨a8M _,[],av.nil η,rfl,trivial⟩,aR⟩ ?_;rintro⟨b,d⟩ r ⟨k6,h,o,z,c⟩ a05
 dsimp only at k6 o c|-
 have a06:=ι (o.1 _ _ G);refine aa ?_;refine aG (λk7=>?_) λk7=>?_
 .have k8:=a9h.2 k3;obtain⟨_,L,v,rfl⟩:=e.get (i:=b) (x:=a.getD b []) (by grind);obtain⟨_,k9,l0,rfl⟩:=e.get (i:=0) (x:=a.getD 0 []) (by simp[k8]);obtain⟨C,a07,l⟩:=F.get b _ L;obtain⟨w,A,l1⟩:=F.get 0 _ k9;have A:cO 1 V (.v (.int .i64 0))=β w:=A;have B:=ο u o.1;have a08:du θ 1 r C=β (.J (af (a.getD b [])) v):=l.ld r B θ 1 acq (by simp[ρ]);have a09:du θ 1 r w=β (.J (af (a.getD 0 [])) l0):=l1.ld r B θ 1 acq (by simp[ρ]);have l2:(af (a.getD b [])).length=p:=by grind[bM,List.getD]
  have a10:(af (a.getD 0 [])).length=p:=by rw[bM];grind
  have D:=fa (a:=a) (e:=b) (b:=[]) acq;have a11:fU.ok p=true:=by rw[rY];grind
  generalize a.getD b []=k at*;generalize a.getD 0 []=a13 at*;refine aa ?_;refine bh (vZ fU _ _ _ acq acr) ?_;refine ag (tv k v r (by rw[bM]at l2;omega)) ?_;rintro _ a14⟨l3,rfl⟩;have l4:=o.mono l3;refine aa ?_;refine eP (by simp[aW,ρ]) acr λa15 l5=>?_;have H:=l4.mono (κ (Z:=.cells (flat [R.J (af k) .any])) η l5);have m:(flat h).length=b:=by rw[cW (c.cells λ_ _=>υ),c.len,a8l];omega
  rw[z]at H;refine aa ?_;refine eZ H acq (nR rfl) rfl (by rw[m];simp[flat,ρ];omega) (by rw[m];simp[flat,ρ];omega) λl6 a16 I=>?_;refine aa ?_;refine⟨(b+1,l6),⟨by show b+1<=α a;omega,h++[.J (af k) .any],?_,?_,?_⟩,⟨rfl,rfl⟩,acq⟩
  .rw[<-z]at I;exact I
  .conv=>lhs;rw[z]
   simp[flat,ρ]
  .show aB isRow (a.take (b+1)) _;rw[D];exact c.snoc ⟨_,rfl⟩
 .obtain rfl:b=α a:=acq;rw[a8F]at c;have P:∀D∈h,α D.cells=1:=c.cells λ_ _=>υ;have m:=c.len;have l7:h≠[]:=by grind
  obtain⟨K,post,a18,M,rfl,N,O,l8,l9,Q⟩:=av.wr o acq z P l7;have n0:K≠y:=by rintro rfl;rw[M]at G;cases G
  have X:∀Y,(W r K [] post Y).read y=β [.v (.int .u8 0),.v (.int .i64 0),.J (af []) E]:=λY=>ι ((ξ _ _ n0.symm).trans (o.1 _ _ G));have n1:=λS T=>W.dA (B:=S) o.1 M P T l8 l9 Q;obtain⟨a19,n2⟩:=pn.of (b5:=327) (ds:=[]) acx λa27 n3 a29 n4=>by
   obtain⟨C,l,Z,rfl⟩:=c.mem n3;obtain⟨n,n5,n9,rfl⟩:=c.mem n4;have Q:=s C l;have a30:=s n n5;exact⟨tW C n,λS _=>a3f E Z n9 C n _ y (X S) ⟨acq,acq⟩ acq⟩
  rw[N];clear N;refine ag (Gk a3z a3t a3p a3r a3n a3l acq rfl O acq n2 λD L=>⟨P D L,?_⟩) ?_
  .obtain⟨k,_,Z,rfl⟩:=c.mem L;rfl
  rintro _ _⟨S,T,rfl⟩;clear z X P O;refine aa ?_;obtain⟨g,a34,a36⟩:=c.perm T;have a38:=(n1 _ T).base u;grind[η]
abbrev po(a b:Τ)(c d h:Own):Ψ:=[.J (af a) c,.J (af b) d,.v (.int .u8 0),.v (.int .i64 0),.J [] h,.v (.int .i64 1),.v (.bool θ)]
theorem a3B(y z:Τ)(C D E:Own)(d h:U)(k:Ψ)(o:R)(a:av d h 1 k o):AC γ 273 [o,.agg (po y z C D E)] h λF G=>av d G 1 (k.take 1) F:=by
 have g:=fv a;obtain⟨L,P,_,i⟩:=a.src;refine aL hm SD ?_;refine bp λj p=>?_;refine aG (λS=>?_) λS=>?_
 .obtain⟨r,⟨rfl,_⟩|⟨b,x,c,T,rfl,V,W,e,l,m,n,f⟩⟩:=a
  .simp at P;omega
  .obtain rfl:x=L:=acq;have q:ck 1 (.aq b x c 1) ε (β (.v (.int .i64 1))) ε=β (.aq b 1 c 1):=hZ (v:=1) acq;refine aa ?_;refine⟨_,η,κ r (Ι r p),.inr ⟨b,1,c,T,rfl,V,κ η p _ _ W,e,?_,?_,acq,f⟩⟩;grind
   .rw[a8l];omega
 grind[Γ,η,κ]
def eD(b c:Τ)(a:au):Bool:=decide (a.live≠0)&&kj b c a.aV a.aU
theorem a3C(b c:Τ)(p r x d h k:Own)(a:au)(y:α a.sum=32)(z:α b<=1000000000000)(o:U):AC γ 266 [.agg (po b c p r x),.agg (ab a d h k)] o λC D=>D=o/\C=.v (.bool (eD b c a)):=by
 have F:=(aT (M:=d) (e7:=h) (j0:=k) y).all;refine aL hm Sr ?_;refine bp λG L=>?_;refine dk λP S T V=>?_;generalize W:ab a d h k=e at*;refine aG (λE=>?_) λE=>?_
 .refine bh (Gb _ b c a.aV a.aU _ _ _ _ z) ?_;refine aG (λc2=>?_) λc2=>?_
  .refine aO ?_;rw[eD,c2,Bool.and_false]
  simp_all [eD]
 .refine aO ?_;rw[eD,decide_eq_false acq,aar]
theorem Gl{a b:Τ}(c:kj t b8 a b=ζ):cS (gy t b8 a b).1 (gy t b8 a b).2 (gy t b8 a b).1.length=ζ/\(gy t b8 a b).1.length=α t:=by
 have d:=id c;rw[kj,Ξ]at c;obtain⟨h,hm⟩:=c;obtain⟨y,z,C,D,E⟩:=zP h;rw[pg,Ξ]at h;obtain⟨r,x⟩:=h;simp only[cS,Ξ,decide_eq_true_eq,a8A,a9C]at r x hm;have k:(gy t b8 a b).1.length=α t:=by rw[gy,if_pos d];simp[z]
 have F:(gy t b8 a b).2.length=α t:=by rw[gy,if_pos d];simp[y,C]
 refine⟨?_,k⟩;rw[k];simp only[cS,Ξ,decide_eq_true_eq,a8A,a9C];refine⟨⟨⟨⟨D,E⟩,k⟩,F⟩,λo p=>?_⟩;have G:=r.2 o p;have L:=x.2 o p;obtain⟨P,S⟩:=hm o p;rw[gy,if_pos d];grind
def zY(b c:Τ)(a:au)(d:Τ):Bool:=kj b c a.aV a.aU&&tV d (gy b c a.aV a.aU).1
def a3D(a d:Τ)(G L r x y z S:Own)(b:au)(h:Τ)(T:α b.sum=32)(j:α h=α a)(l:α a<=8)(k:U):AC γ 271 [.agg (po a d G L r),.agg (ab b x y z),.J (af h) S] k λV W=>W=k/\V=.v (.bool (zY a d b h)):=by
 have m:=(aT (M:=x) (e7:=y) (j0:=z) T).all;refine aL hm Sz ?_;refine bp λC n=>?_;refine dk λP q s t=>?_;generalize u:ab b x y z=e at*;generalize o:(k.set C _).set P _=D;have E:k.sub D:=by subst o;exact aR
 have cl:D C=β (.cells (po a d G L r)):=by subst o;exact aR
 have v:D P=β (.cells e):=by subst o;exact aR
 clear o;refine gs (Gc _ a d b.aV b.aU _ _ _ _ acq) λw c=>?_;have A:=ι (c _ _ cl);refine aN λf F=>?_;have g:C≠f:=by rintro rfl;rw[c _ _ cl]at F;cases F
 have B:=g.symm;have H:=Ι (ο E c) F;refine aa ?_;refine aG (λp=>?_) λp=>?_
 .obtain⟨i,c2⟩:=Gl p;refine bh (a3g r _ _ _ _ _ h _ i acq) ?_;refine⟨ο E c,aO ?_⟩;rw[zY,p,a9N]
 .refine⟨ο E c,aO ?_⟩;rw[zY,p,aar]
abbrev kX(a:au)(b c d:Own)(h k:Nat)(id o:Int):Ψ:=ab a b c d++[.v (.int .u64 (h:Int)),.v (.int .u64 (k:Int)),.v (.int .i64 id),.v (.int .i64 o)]
def s0(a:au)(b:R):Prop:=α a.sum=32/\a.cE/\∃c d h k o id p,b=.agg (kX a c d h k o id p)
variable{b3:Int}{A j9:au}{M e7 j0:Own}
theorem w6{id:Int}(d:α A.sum=32):(kX A M e7 j0 e i id b3).length=41/\(kX A M e7 j0 e i id b3).take 41=kX A M e7 j0 e i id b3/\(kX A M e7 j0 e i id b3).take 37=ab A M e7 j0/\
  ((kX A M e7 j0 e i id b3).drop 37).take 2=[.v (.int .u64 (e:Int)),.v (.int .u64 (i:Int))]/\aQ θ 1 ((kX A M e7 j0 e i id b3).drop 39)=.v (.int .i64 id)/\aQ θ 1 ((kX A M e7 j0 e i id b3).drop 40)=.v (.int .i64 b3):=by
 have c:=(aT (M:=M) (e7:=e7) (j0:=j0) d).len;have a:∀b,(kX A M e7 j0 e i id b3).drop (37+b)=[R.v (.int .u64 (e)),.v (.int .u64 (i)),.v (.int .i64 id),.v (.int .i64 b3)].drop b:=λb=>by
  rw[a9J,a8Z acq,c,aaF,a8y]
 have h:(kX A M e7 j0 e i id b3).length=41:=by rw[Ρ,c];rfl
 refine⟨h,Ο acq,?_,?_,?_,?_⟩;simp_all
 .rw[a 0];rfl
 .rw[a 2];rfl
 .rw[a 3];rfl
theorem a3E(E:s0 A n)(F:s0 j9 b6):∃G:Int,∀k,AC γ 205 [n,b6] k λL P=>P=k/\L=.v (.int .i64 G):=by
 obtain⟨S,_,r,x,y,a,b,id,o,rfl⟩:=E;obtain⟨T,_,z,C,D,c,d,h,p,rfl⟩:=F;have V:=w6 (M:=r) (e7:=x) (j0:=y) (e:=a) (i:=b) (id:=id) (b3:=o) S;have W:=w6 (M:=z) (e7:=C) (j0:=D) (e:=c) (i:=d) (id:=h) (b3:=p) T;refine⟨if rX a b c d=0 then(if id=h then IntKind.i64.wrap (o - p)else if id<h then -1 else 1)else rX a b c d,λk=>?_⟩;generalize kX A r x y a b id o=e at*;generalize kX j9 z C D c d h p=f at*;refine aL hm QX ?_;refine bp λg i=>?_;refine dk λj l a b=>?_;refine bh (Ga _ _ _ _ _) ?_
 repeat' first|refine aG (λ_=>?_) λ_=>?_|trivial
 all_goals simp_all
theorem a3F(c d:Τ)(k o h:Own)(a:Nat)(p:a<=1000000000000)(b:U):AC γ 202 [.agg (po c d k o h),.v (.int .i64 (a:Int))] b λy z=>z=b/\y=.v (.bool (cS c d a)):=by
 have r:=λb=>vZ fU h a b p acr;simp only[rY]at r;refine aL hm QT ?_;refine bp λC F=>?_;refine aG (λD=>?_) λD=>?_
 .refine aG (λc2=>?_) λc2=>?_
  .refine bh (p6 _ c d _ _ _ p) ?_;refine aG (λaD=>?_) λaD=>?_
   .trivial
   .have E:decide (1<=a/\a<=8)=true:=decide_eq_true acq;have x:=r (b.set C (.cells (po c d k o h)));rw[E]at x;exact bh x trivial
  grind[cS,lI]
 grind[cS,lI]
def gz(k o:U)(a:Ψ)(c:R):Prop:=
 k.sub o/\(∀p∈a,α p.cells=41)/\((a=[]/\(c=.J [] .nil\/c=.J [] .zero))\/∃d h post b,k d=ε/\o d=β (.cells (h++flat a++post))/\α a<=b/\b<=maxLen/\α a*41+α post=b*41/\
  ((c=.aq d (α a) b 41/\h=[])\/c=.bE d (α h) (α a) b 41))
def gz.mono{a:R}(c:gz f s g a)(b:s.sub e5):gz f e5 g a:=by obtain⟨d,h,k⟩:=c;refine⟨ο d b,h,k.imp_right ?_⟩;rintro⟨o,p,post,r,x,y,z⟩;exact⟨o,p,post,r,x,b _ _ y,z⟩
def gz.len(a:gz f s g n):fk n=β (.v (.int .i64 (α g:Int)))/\n.cells=[n]:=by obtain⟨_,_,⟨rfl,rfl|rfl⟩|⟨b,c,post,d,_,_,_,_,_,⟨rfl,_⟩|rfl⟩⟩:=a<;>exact⟨rfl,rfl⟩
def gz.other{o:bt}(c:gz f s g n)(d:f e=ε)(h:cN n≠β e):gz f (s.set e o) g n:=by
 obtain⟨k,p,r⟩:=c;refine⟨κ k d,p,r.imp_right ?_⟩;rintro⟨a,x,post,y,z,C,D,E,F,b⟩;have G:a≠e:=by rintro rfl;rcases b with⟨rfl,_⟩|rfl<;>exact h rfl
 exact⟨a,x,post,y,z,by rw[ξ _ _ G];exact C,D,E,F,b⟩
def av.other{o:bt}(b:av f s i g n)(c:f e=ε)(d:cN n≠β e):av f (s.set e o) i g n:=by
 obtain⟨h,k⟩:=b;refine⟨κ h c,k.imp_right ?_⟩;rintro⟨a,p,r,x,rfl,y,z,C⟩;have D:a≠e:=by rintro rfl;exact d rfl
 exact⟨a,p,r,x,rfl,y,by rw[ξ _ _ D];exact z,C⟩
theorem gz.app{E:R}{l:cC q}(m:gz s f g b6)(t:α n.cells=41)(u:bT f 41 E=β (1,n.cells))(Q:α g<=100000000)
  (F:∀c z,gz s z (g++[n]) c->(∀a,cN c=β a->cN b6=β a\/f a=ε)->(∀a,cN b6≠β a->f a≠ε->z a=f a)->q c z):jW 41 152 f b6 E (bR q l):=by
 obtain⟨C,v,w⟩:=m;have G:∀L∈g++[n],α L.cells=41:=λL X=>by
  grind
 have P:flat (g++[n])=flat g++n.cells:=by simp[flat]
 have S:=cW v;unfold jW;rw[x7 u];simp only[bR];have Y:∀(k o:Nat)(x:Ψ),f k=ε->α g+1<=o->o<=maxLen->α x=(o -(α g+1))*41->q (.aq k (α g+1) o 41) (f.set k (.cells (flat g++n.cells++x))):=λk o x T r hm Z=>by
  have V:=Ι C T;refine F _ _ ⟨κ C V,G,.inr ⟨k,[],x,o,V,?_,?_,hm,?_,.inl ⟨?_,rfl⟩⟩⟩ (λa p=>?_) λa p A=>?_
  .rw[μ,P];rfl
  .simpa using r
  grind
  .rw[Ρ];rfl
  grind[cN,Option.some.injEq]
  .have:a≠k:=by rintro rfl;exact A T
   exact ξ _ _ this
 rcases w with⟨rfl,B⟩|⟨d,b,post,h,W,e,k3,H,k4,I⟩
 .rcases B with rfl|rfl;simp_all;simp_all
 .have K:α g+1<=h->∃y,putAt (b++flat g++post) (α b+α g*41) n.cells=b++flat (g++[n])++y/\(α g+1)*41+α y=h*41:=λr=>by
   refine⟨post.drop 41,?_,by rw[a8z];omega⟩;have D:(b++flat g).length=α b+α g*41:=by simp_all
   rw[putAt,<-D,aaL,<-a8T,aaN,t,P];simp
  have i:∀c,cN b6=β d->cN c=β d->((c=.aq d (α g+1) h 41/\b=[])\/c=.bE d (α b) (α g+1) h 41)->α g+1<=h->q c (f.set d (.cells (putAt (b++flat g++post) (α b+α g*41) n.cells))):=λc j M N r=>by
   obtain⟨y,D,O⟩:=K r;rw[D];refine F _ _ ⟨κ C W,G,.inr ⟨d,b,y,h,W,μ _ _ _,by simpa using r,H,by simpa using O,?_⟩⟩ (λa p=>.inl ?_) λa p _=>?_
   .simpa using N
   .rw[M]at p;rw[j];exact p
   .have:a≠d:=by rintro rfl;exact p j
    exact ξ _ _ this
  rcases I with⟨rfl,rfl⟩|rfl
  .simp only[e];refine⟨trivial,by simp[S];omega,acq,acq,?_⟩;split
   .have:=i (.aq d (α g+1) h 41) rfl rfl (.inl ⟨rfl,rfl⟩) ‹_›;simpa using this
   simp_all
  .simp only[e];refine⟨trivial,by simp[S];omega,acq,acq,?_⟩;split
   .exact i (.bE d (α b) (α g+1) h 41) rfl rfl (.inr rfl) ‹_›
   simp_all
abbrev lS(a:Nat)(b c:Τ)(d h k:Own)(o:Nat)(p:R)(r x y:Int)(z:R):Ψ:=
 [.ptr a 0,.J (af b) d,.J (af c) h,.v (.int .u8 0),.v (.int .i64 0),.J [] k,.v (.int .i64 1),.v (.bool θ),.v (.int .i64 (o:Int)),p,.v (.int .i64 r),.v (.int .i64 x),.v (.int .i64 y),z]
structure ix where
 fV:Nat
 aV:Τ
 aU:Τ
 gN:Own
 ev:Own
 hz:Own
 d:Nat
structure dT(A:ix)(b c:U)(a:Nat)(us:Ψ)(L:R)(es:Ψ)(pq:R):Prop where
 gF:b a=ε
 x:∃n nY d:Int,c a=β (.cells (lS A.fV A.aV A.aU A.gN A.ev A.hz A.d L n nY d pq))
 l:av b c 1 us L
 w:gz b c es pq
 hc:cN L≠β a
 kl:cN pq≠β a
 lw:∀p,cN L=β p->cN pq≠β p
def dT.mono{c:ix}{d h k:U}{o:Nat}{p:Ψ}{r:R}{x:Ψ}{y:R}(a:dT c d h o p r x y)(b:h.sub k):dT c d k o p r x y:=
 ⟨a.gF,by obtain⟨z,C,D,a⟩:=a.x;exact⟨z,C,D,b _ _ a⟩,a.l.mono b,a.w.mono b,a.hc,a.kl,a.lw⟩
theorem dT.set{b:ix}{k o:U}{c:Nat}{p:Ψ}{d:R}{r:Ψ}{h:R}(a:dT b k o c p d r h)(x y z:Int):dT b k (o.set c (.cells (lS b.fV b.aV b.aU b.gN b.ev b.hz b.d d x y z h))) c p d r h:=
 ⟨a.gF,⟨x,y,z,μ _ _ _⟩,av.other a.l a.gF a.hc,a.w.other a.gF a.kl,a.hc,a.kl,a.lw⟩
def av.has(b:av s f i g n)(a:cN n=β e):f e≠none:=by
 obtain⟨_,⟨_,rfl|rfl⟩|⟨d,h,k,o,rfl,_,c,_⟩⟩:=b
 .cases a
 .cases a
 .obtain rfl:=Β a;rw[c];simp
def gz.has(a:gz s f g n)(b:cN n=β e):f e≠none:=by
 obtain⟨_,_,⟨_,rfl|rfl⟩|⟨d,h,post,k,_,c,_,_,_,⟨rfl,_⟩|rfl⟩⟩:=a
 .cases b
 .cases b
 all_goals (obtain rfl:=Β b;rw[c];exact λa=>by cases a)
def av.gh(c:av f e5 e g n)(d:f.sub s)(h:∀a,cN n=β a->s a=e5 a):av f s e g n:=by obtain⟨C,k⟩:=c;refine⟨d,k.imp_right ?_⟩;rintro⟨b,o,p,r,rfl,x,y,z⟩;exact⟨b,o,p,r,rfl,x,(h b rfl).trans y,z⟩
structure Gm(A:ix)(b:U)(c:Nat)(L pq:R)(a:Nat):Prop where
 n:b a=ε
 x:a≠c
 l:cN L≠β a
 w:cN pq≠β a
def dT.fresh{d:ix}(a:dT d f s e g n B b6)(b:s i=ε):Gm d f e n b6 i:=
 ⟨Ι a.l.1 b,(by obtain⟨_,_,_,h⟩:=a.x;rintro rfl;rw[b]at h;cases h),(λc=>av.has a.l c b),λc=>a.w.has c b⟩
def dT.wr{c:ix}(a:dT c f s e g n B b6)(b:Gm c f e n b6 i)(d:bt):dT c f (s.set i d) e g n B b6:=
 ⟨a.gF,(by obtain⟨h,k,o,p⟩:=a.x;exact⟨h,k,o,(ξ _ _ b.x.symm).trans p⟩),av.other a.l b.n b.l,a.w.other b.n b.w,a.hc,a.kl,a.lw⟩
def s3(p:α g=37)(a b c d:R):(g++[a,b,c,d]).length=41/\(g++[a,b,c,d]).take 41=g++[a,b,c,d]/\(∀h o,putAt (g++[a,b,c,d]) 37 [h,o]=g++[h,o,c,d])/\(∀h,putAt (g++[a,b,c,d]) 39 [h]=g++[a,b,h,d])/\∀h,putAt (g++[a,b,c,d]) 40 [h]=g++[a,b,c,h]:=by
 have r:∀k,(g++[a,b,c,d]).take (37+k)=g++[a,b,c,d].take k:=λk=>by rw[aaS,p,Ο acq,aaF]
 have x:∀k,(g++[a,b,c,d]).drop (37+k)=[a,b,c,d].drop k:=λk=>by rw[a9J,p,a8Z acq,a8y,aaF]
 have y:(g++[a,b,c,d]).length=41:=by rw[Ρ,p];rfl
 refine⟨y,Ο acq,λh o=>?_,λh=>?_,λh=>?_⟩
 .show(g++[a,b,c,d]).take (37+0)++[h,o]++(g++[a,b,c,d]).drop (37+2)= _;rw[r,x];simp
 .show(g++[a,b,c,d]).take (37+2)++[h]++(g++[a,b,c,d]).drop (37+3)= _;rw[r,x];simp
 .show(g++[a,b,c,d]).take (37+3)++[h]++(g++[a,b,c,d]).drop (37+4)= _;rw[r,x];simp
abbrev zW:Ψ:=δ 32 (R.v (.int .u8 0))++[.J [] .nil,.J [] .nil]++[.v (.int .i64 0),.v (.int .i64 0)]++[.J [] .nil]++[.v (.int .u64 0),.v (.int .u64 0)]++[.v (.int .i64 0),.v (.int .i64 0)]
def a3G(a:α g=37):putAt zW 0 g=g++[.v (.int .u64 0),.v (.int .u64 0),.v (.int .i64 0),.v (.int .i64 0)]:=by rw[putAt,a];rfl
theorem Gn(a:ix)(k4 e:U)(c:Nat)(k5:Ψ)(f:R)(z:Ψ)(u:R)(C:dT a k4 e c k5 f z u)(b:au)(D E F:Own)(v:α b.sum=32)(a02:b.cE)(a61:α a.aV<=8)(a62:α z<=100000000):
  AC γ 203 [.ptr c 0,.agg (ab b D E F)] e λ_ k6=>∃a03 w,dT a k4 k6 c k5 f w a03/\if eD a.aV a.aU b=ζ then∃k7,s0 b k7/\w=z++[k7]else w=z:=by
 obtain⟨g,i,h,A⟩:=C.x;have a04:=(aT (M:=D) (e7:=E) (j0:=F) v).all;refine aL hm QV ?_;refine bp λj a05=>?_;have k8:j≠c:=by rintro rfl;rw[a05]at A;cases A
 have a63:=k8.symm;rw[hY];generalize B:e.set j _=G;have k9:e.sub G:=by subst B;exact aR
 have cl:G j=β (.cells (ab b D E F)):=by subst B;exact μ _ _ _
 have l0:=C.mono k9;have H:=k9 _ _ A;clear B;generalize I:ab b D E F=L at*;have a06:=ι cl;have fl:=ι H;have a07:=τ H;refine aa ?_;rw[<-I];refine bh (a3C a.aV a.aU _ _ _ _ _ _ b v acq G) ?_;rw[I];refine aG (λK=>?_) λK=>?_;grind;have a65:br .add (.int .i64 h) (.int .i64 1)=β (.int .i64 (IntKind.i64.wrap (h+1))):=rfl;obtain⟨a68,a69⟩:=C.w.len;have a71:=fv C.l;have r:=a04.1;have a08:=a3G r;obtain⟨a09,_,_,_,M⟩:=s3 r (.v (.int .u64 0)) (.v (.int .u64 0)) (.v (.int .i64 0)) (.v (.int .i64 0));have M:=M (.v (.int .i64 (IntKind.i64.wrap (h+1))));have a10:=(s3 r (.v (.int .u64 0)) (.v (.int .u64 0)) (.v (.int .i64 0)) (.v (.int .i64 (IntKind.i64.wrap (h+1))))).1;have a73:=(s3 r (.v (.int .u64 0)) (.v (.int .u64 0)) (.v (.int .i64 0)) (.v (.int .i64 (IntKind.i64.wrap (h+1))))).2.1;generalize l:R.v (.int .i64 (IntKind.i64.wrap (h+1)))=T at*;generalize a74:L++[R.v (.int .u64 0),.v (.int .u64 0),.v (.int .i64 0),.v (.int .i64 0)]=a81 at*;generalize a11:L++[R.v (.int .u64 0),.v (.int .u64 0),.v (.int .i64 0),T]=P at*;have a83:T.cells=[T]:=by subst l;rfl
 refine aa ?_;have m:=l0.set g i (IntKind.i64.wrap (h+1));simp only[lS,l]at m;refine aN λx o=>?_;have a13:=m.fresh o;have a14:j≠x:=by rintro rfl;rw[ξ _ _ k8,cl]at o;cases o
 have a84:=a14.symm;have l1:c≠x:=by rintro rfl;rw[μ]at o;cases o
 have a86:=l1.symm;refine aa ?_;have hm:kj a.aV a.aU b.aV b.aU=true:=by rw[eD,Ξ]at K;exact K.2
 obtain⟨l2,a15⟩:=Gl hm;have l3:=μ G c (.cells [.ptr a.fV 0,.J (af a.aV) a.gN,.J (af a.aU) a.ev,.v (.int .u8 0),.v (.int .i64 0),.J [] a.hz,.v (.int .i64 1),.v (.bool θ),.v (.int .i64 (a.d)),f,.v (.int .i64 g),.v (.int .i64 i),T,u]);generalize G.set c _=l4 at*;have l5:=m.mono (κ (Z:=.cells P) η o);have l6:=κ (Z:=.cells P) η o _ _ l3;have l7:=μ l4 x (.cells P);generalize l4.set x _=a88 at*;clear l3 o m fl a07 H l0 cl a06 C a08 a09 M a10;refine gs (Gc _ a.aV a.aU b.aV b.aU _ _ _ _ acq) λa16 n=>?_;refine aN λN p=>?_;have a18:=l5.mono (ο n (κ (Z:=.cells [.J (af (gy a.aV a.aU b.aV b.aU).1) .any,.J (af (gy a.aV a.aU b.aV b.aU).2) .any]) η p));have q:=n _ _ l6;have s:=n _ _ l7;have l8:c≠N:=by rintro rfl;rw[q]at p;cases p
 have a19:=l8.symm;have l9:x≠N:=by rintro rfl;rw[s]at p;cases p
 have a27:=l9.symm;have a29:=ι q;have a30:=ι s;refine aa ?_;generalize a89:(gy a.aV a.aU b.aV b.aU).1=S at*;generalize (gy a.aV a.aU b.aV b.aU).2=O at*;have n0:=κ (Z:=.cells [.J (af S) .any,.J (af O) .any]) η p _ _ q;have a34:=κ (Z:=.cells [.J (af S) .any,.J (af O) .any]) η p _ _ s;generalize a16.set N _=Q at*;refine bh (Gg a.hz _ _ S O Q l2) ?_;obtain⟨y,a36⟩:∃X,o7 (S.getD 0 0)=X:=⟨_,rfl⟩;obtain⟨id,a38⟩:∃X,S.getD 0 0=X:=⟨_,rfl⟩;rw[a38]at a36;clear a29 a30 p l8 l9 a19 a27 q s n l6 l7 l5 l2 a15;have a90:=τ a34;have a92:=ι n0;have a94:α P=41:=by grind
 have a95:putAt P 37 [.v (.int .u64 0),.v (.int .u64 (y))]=L++[.v (.int .u64 0),.v (.int .u64 (y)),.v (.int .i64 0),T]:=by subst a11;exact(s3 r _ _ _ _).2.2.1 _ _
 obtain⟨a96,_,_,n1,_⟩:=s3 r (.v (.int .u64 0)) (.v (.int .u64 (y))) (.v (.int .i64 0)) T;have n1:=n1 (.v (.int .i64 id));obtain⟨n2,a97,_⟩:=s3 r (.v (.int .u64 0)) (.v (.int .u64 (y))) (.v (.int .i64 id)) T;generalize L++[R.v (.int .u64 0),.v (.int .u64 (y)),.v (.int .i64 0),T]=a98 at*;generalize a42:L++[R.v (.int .u64 0),.v (.int .u64 (y)),.v (.int .i64 id),T]=k at*;refine aa ?_;have a43:=a18.wr a13 (.cells k);have a47:(Q.set x (.cells k)) c=β (.cells [.ptr a.fV 0,.J (af a.aV) a.gN,.J (af a.aU) a.ev,.v (.int .u8 0),.v (.int .i64 0),.J [] a.hz,.v (.int .i64 1),.v (.bool θ),.v (.int .i64 (a.d)),f,.v (.int .i64 g),.v (.int .i64 i),T,u]):=(ξ _ _ l1).trans n0;generalize Q.set x _=n3 at*;refine eP (by simp[aW,hY,n2]) acr λY n4=>?_;have d:=a43.mono (κ (Z:=.cells (flat [R.agg k])) η n4);have t:=κ (Z:=.cells (flat [R.agg k])) η n4 _ _ a47;have a48:bT (n3.set Y (.cells (flat [R.agg k]))) 41 (.aq Y 1 1 41)=β (1,(R.agg k).cells):=by simp_all [flat,ι,μ,hY,bT]
 generalize n3.set Y _=a52 at*;have fl:=ι t;refine aa ?_;refine gz.app (n:=.agg k) d.w n2 a48 acq λn5 k6 Z n9 a00=>?_;have a56:=(a00 c d.kl (by rw[t];simp)).trans t;have a99:=τ a56;have b00:=Z.len.2;refine aa ?_;have a57:a52 c≠none:=by rw[t];simp
 have a01:cN n5≠β c:=λk3=>(n9 c k3).elim d.kl a57;refine⟨_,η,n5,z++[.agg k],⟨d.gF,⟨g,i,IntKind.i64.wrap (h+1),by subst l;exact μ _ _ _⟩,av.other (av.gh d.l Z.1 λV W=>a00 V (d.lw V W) (av.has d.l W)) d.gF d.hc,Z.other d.gF a01,d.hc,a01,λV W k3=>(n9 V k3).elim (d.lw V W) (av.has d.l W)⟩,.agg k,⟨v,a02,D,E,F,0,y,id,IntKind.i64.wrap (h+1),?_⟩,rfl⟩;subst l;subst a42;subst I;rfl
def av.wide(p:av s f e g n):∃o,av o f e g n/\s.sub o/\o.sub f/\∀k b,f k=β b->cN n≠β k->o k=β b:=by
 obtain⟨r,x|⟨d,y,z,C,rfl,D,E⟩⟩:=p
 .exact⟨f,⟨η,.inl x⟩,r,η,λ_ _ p _=>p⟩
 .refine⟨f.del d,⟨λh b a=>?_,.inr ⟨d,y,z,C,rfl,U.iD _ _,E⟩⟩,λh b a=>?_,λh b a=>?_,λk b F G=>?_⟩
  .have c:h≠d:=by rintro rfl;rw[U.iD]at a;cases a
   rwa[U.eO _ c]at a
  .have c:h≠d:=by rintro rfl;rw[D]at a;cases a
   rw[U.eO _ c];exact r h b a
  .have c:h≠d:=by rintro rfl;rw[U.iD]at a;cases a
   rwa[U.eO _ c]at a
  .have c:k≠d:=by rintro rfl;exact G rfl
   rw[U.eO _ c];exact F
def av.fresh(b:av f s i g n)(a:cN n=β e):f e=none:=by
 obtain⟨_,⟨_,rfl|rfl⟩|⟨d,h,k,o,rfl,c,_⟩⟩:=b
 .cases a
 .cases a
 .obtain rfl:=Β a;exact c
def gz.gh(h:gz f e5 g n)(k:f.sub s)(o:∀a b,cN n=β a->e5 a=β b->s a=β b):gz f s g n:=by obtain⟨G,p,r⟩:=h;refine⟨k,p,r.imp_right ?_⟩;rintro⟨c,x,post,y,z,C,D,E,F,d⟩;refine⟨c,x,post,y,z,o c _ ?_ C,D,E,F,d⟩;rcases d with⟨rfl,_⟩|rfl<;>rfl
theorem aB.flat{b:List Τ}{a:Ψ}(h:aB isRow b a):flat a=a:=by
 induction a generalizing b with
 |nil=>rfl
 |cons o a ih=>
  match b,h with
  |c::b,⟨⟨d,h1⟩,k⟩=>subst h1;rw[show Go.bD.flat (R.J (af c) d::a)=[R.J (af c) d]++Go.bD.flat a from rfl,ih k];rfl
theorem a3H(a:ix)(n F:U)(y:Nat)(V:Ψ)(o:List Τ)(G:R)(q:Ψ)(L:R)(r:dT a n F y V G q L)(s:aB isRow o V)(n9:∀b∈o,α b=a.d)(Q:1<=a.d)(X:a.d<=8)(a00:α a.aV=a.d)(a01:α o<=1)(b:Τ)(P:Bool)(c:Own)(a02:α b=a.d):
  AC γ 207 [.ptr y 0,.agg [.J (af b) c,.v (.bool P)]] F λ_ Y=>∃t D Z,dT a n Y y t Z q L/\aB isRow D t/\if(P&&jx a.aV a.aU b)=ζ then∃h,D=[h]/\(h=b\/h∈o)else D=o:=by
 obtain⟨k3,k4,k5,S⟩:=r.x;refine aL hm R1 ?_;refine bp λW k6=>?_;rw[hY];have k7:W≠y:=by rintro rfl;rw[k6]at S;cases S
 have a03:=k7.symm;generalize e:F.set W _=E;have u:F.sub E:=by subst e;exact aR
 have cl:E W=β (.cells [.J (af b) c,.v (.bool P)]):=by subst e;exact μ _ _ _
 have k8:=r.mono u;have f:=u _ _ S;clear e;have a04:=ι cl;have fl:=ι f;have a05:=τ f;cases P with
 |false=>refine aa ?_;grind
 |true=>
 refine aa ?_;refine bh (a2Z E a.aV a.aU b _ _ _ acq) ?_;refine aG (λk9=>?_) λk9=>?_;grind;refine eP (by simp[aW,ρ]) acr λg v=>?_;have k:=k8.mono (κ (Z:=.cells (flat [R.J (af b) c])) η v);have w:=κ (Z:=.cells (flat [R.J (af b) c])) η v _ _ f;have l0:bT (E.set g (.cells (flat [R.J (af b) c]))) 1 (.aq g 1 1 1)=β (1,[R.J (af b) c]):=nR rfl;generalize E.set g _=A at*;have a06:=fv r.l;have B:=s.len;obtain⟨a07,l1,H,a08,i⟩:=av.wide k.l;refine aa ?_;refine eZ l1 acq l0 rfl (by simp[B];omega) (by simp[B];omega) λl2 I z=>?_;have j:=z.1 _ _ (i y _ w k.hc);have a09:=ι j;refine aa ?_;have l:aB isRow (o++[b]) (V++[.J (af b) c]):=s.snoc ⟨c,rfl⟩;have l3:=bS.dA z acq l.flat.symm (l.cells λ_ _=>υ);refine ag (a3A a.hz a.d Q X (o++[b]) _ l2 I l3 l (λa10 S=>?_) acs acr) ?_;grind;rintro l4 l5⟨l6,D,p,K,M⟩;have l7:=M.1 _ _ j;have a11:=ι l7;refine aa ?_;refine ag (a3B a.aV a.aU a.gN a.ev a.hz I l5 _ l4 M) ?_;rintro T l8 x;have a13:=fv x;have N:=x.1 _ _ j;have a14:=τ N;have a15:=ι N;refine aa ?_;rw[K.flat]at x;have l9:∀ {h c},A h=β c->cN G≠β h->l8 h=β c:=λr m=>x.1 _ _ (z.1 _ _ (i _ _ r m));have n0:=ο H (ο z.1 x.1);have n1:∀ {d},cN T=β d->∀ {c},A d=β c->cN G≠β d->False:=λp _ r m=>by
  have:=av.fresh x p;rw[z.1 _ _ (i _ _ r m)]at this;cases this
 have O:cN T≠β y:=λC=>n1 C w k.hc;have n2:∀d,cN L=β d->cN G≠β d:=λd p C=>k.lw d C p;have n3:∀d,cN T=β d->cN L≠β d:=λd p C=>by
  have a16:=k.w.has C;simp_all [Option.ne_none_iff_exists']
 have n4:D≠[]:=λC=>by simp_all
 obtain⟨h,a18,rfl⟩:=aaf n4;refine⟨_,η,l6.take 1,[h],T,⟨k.gF,⟨k3,k4,k5,μ _ _ _⟩,av.other (x.base (ο H z.1)) k.gF O,(gz.gh k.w n0 λd c p n5=>l9 n5 (n2 d p)).other k.gF k.kl,O,k.kl,n3⟩,K.take 1,h,rfl,?_⟩;have:h∈o++[b]:=p.mem_iff.1 acr;grind
theorem a3I(a:ix)(L p:U)(r:Nat)(z:Ψ)(x:List Τ)(C:R)(P:Ψ)(S:R)(D:dT a L p r z C P S)(y:aB isRow x z)(j:∀b∈x,α b=a.d)(H:a.d<=8)(I:α a.aV=a.d)(c:au)(d h k:Own)(T:α c.sum=32):
  AC γ 206 [.ptr r 0,.agg (ab c d h k)] p λb l=>dT a L l r z C P S/\∃V,b=.v (.bool V)/\(V=ζ->α x=1):=by
 obtain⟨K,M,N,E⟩:=D.x;have O:=(aT (M:=d) (e7:=h) (j0:=k) T).all;have m:=y.len;obtain⟨Q,W,_,X⟩:=D.l.src;rw[a8Y,m]at W;subst W;refine aL hm QZ ?_;refine bp λF n=>?_;rw[hY];have q:F≠r:=by rintro rfl;rw[n]at E;cases E
 have Y:=q.symm;generalize G:p.set F _=o;have e:p.sub o:=by subst G;exact aR
 have cl:o F=β (.cells (ab c d h k)):=by subst G;exact μ _ _ _
 have s:=D.mono e;have t:=e _ _ E;clear G;generalize u:ab c d h k=Z at*;have k3:=ι cl;have fl:=ι t;refine aa ?_;refine aG (λv=>?_) λv=>?_
 .obtain⟨b,rfl⟩:=aac.1 (show α x=1 by omega);have w:=bS.dA s.l acq y.flat.symm (y.cells λ_ _=>υ);obtain⟨_,A,f,rfl⟩:=y.get (i:=0) rfl;obtain⟨g,i,B⟩:=w.get 0 _ A;have i:cO 1 C (.v (.int .i64 0))=β g:=i;have k4:du θ 1 o g=β (.J (af b) f):=B.ld o η θ 1 acq (by simp[ρ]);have k5:=j b acr;have k6:((1:Nat):Int) - 1=0:=rfl;refine aa ?_;rw[<-u];refine bh (a3D a.aV a.aU a.gN a.ev a.hz d h k f c b T acq acq o) ?_;grind
 grind
variable{Z:bt}
def Ext.ef(c:Ext i v f s)(d:f e=ε):Ext i v f (s.set e Z):=λb h k o a=>by
 have p:b≠e:=by rintro rfl;rw[d]at a;cases a
 rw[ξ _ _ p];exact c b h k o a
def cg(a:Τ×Bool)(b c:au):c4:=⟨1,[a],[b,c]⟩
def w7(h:U)(k o:Nat)(p:ai)(V:bs h k o p)(c:Τ×Bool)(a b:au)(W r x y z C D:Own)(d:Nat)(s:1<=d)(t:d<=8)(e:α a.sum=32)(f:α b.sum=32)(u:a.cE)(v:b.cE):
  AC γ 242 [ee k d,.agg [.J (af c.1) W,.v (.bool c.2)],.agg (ab a r x y),.agg (ab b z C D)] h λg i=>bs i k o (dG p d (cg c a b)).2/\Ext k o h i/\hf (dG p d (cg c a b)).1 g:=by
 have w:=(aT (M:=r) (e7:=x) (j0:=y) e).all;have A:=(aT (M:=z) (e7:=C) (j0:=D) f).all;have B:bC a (.agg (ab a r x y)):=⟨e,u,_,_,_,rfl⟩;have H:bC b (.agg (ab b z C D)):=⟨f,v,_,_,_,rfl⟩;generalize ab a r x y=I at*;generalize ab b z C D=K at*;refine aL hm RL ?_;refine bp λcu k3=>?_;refine dk λcp k4 k5 k6=>?_;refine gZ λM k7 k8 k9 l0 l1=>?_;refine yh λN l2 _ _ _ _ _ _=>?_;refine Zs λE j _ _ _ _ _ _ _ _=>?_;refine Zu λO l3 _ _ _ _ _ _ _ _ _ _=>?_;refine Zv λQ l4 _ _ _ _ _ _ _ _ _ _ _ _=>?_;generalize F:((((((h.set cu _).set cp _).set M _).set N _).set E _).set O _).set Q _=G;have l:h.sub G:=by subst F;exact aR
 have X:G E=β (.cells (ab aw .nil .nil .nil)):=by subst F;rw[<-cr];exact aR
 clear F;have l5:=(aT (M:=.nil) (e7:=.nil) (j0:=.nil) bm).len;refine ag (yW G k o p (V.mono l) (cg c a b) [.agg [.J (af c.1) W,.v (.bool c.2)]] [.agg I,.agg K] _ _ d s t ⟨⟨⟨_,rfl⟩,trivial⟩,⟨B,H,trivial⟩,bS.J (by simp[aW,ρ]),bS.J (by simp[aW,ρ,w.1,A.1]),by simp[cg],by simp[cg]⟩) ?_;rintro g l6⟨Y,m,Z⟩;have L:=(V.cG j);have l7:=τ (m E _ L.1 L.2 X);obtain⟨n,P,S,T,l8,q,rfl⟩:=Z.shape;have l9:=(aT (M:=P) (e7:=S) (j0:=T) q).all;have n0:putAt (ab aw .nil .nil .nil) 0 (ab n P S T)=ab n P S T:=cF bm q;refine aa ?_;exact⟨_,η,Y.set L,((ψ l).trans m).ef j⟩
def kY(b:ai)(c:Nat)(d:au):Option ((Τ×Bool)×List au):=
 match ei b c d with
 |none=>ε
 |some a=>if a.kind=1 then β (a.rows.headD ([],θ),a.kids)else ε
variable{c0:c4}{H:ai}
theorem Gp(a:ei H e A=β c0):dZ e c0=true:=by
 unfold ei at a;split at a
 .cases a
 split at a
 .cases a
 rename_i c d b;split at a
 .obtain rfl:=Β a;unfold qb at b;grind
 .cases a
theorem Gq(b:dZ e c0=ζ)(c:c0.kind=1):α c0.rows=1/\α c0.kids=2/\∀a∈c0.kids,α a.key=0:=by simp_all [dZ]
def a3J(b c:U)(d:List au)(h:R):Prop:=∃a,av b c 37 (flat a) h/\aB bC d a
def zZ(d:U)(G l:Nat)(y:ai)(A:bs d G l y)(h:au)(L P S:Own)(m:α h.sum=32)(B:h.cE)(a:Nat)(H:1<=a)(I:a<=8):
  AC γ 243 [ee G a,.agg (ab h L P S)] d λT b=>d.sub b/\match kY y a h with
   |none=>T=.aJ [.agg [.J [] .nil,.v (.bool θ)],.J [] .nil,.v (.int .i64 21)]
   |some (k,bI)=>∃K z,T=.aJ [.agg [.J (af k.1) K,.v (.bool k.2)],z,.v (.int .i64 0)]/\α bI=2/\a3J d b bI z:=by
 have k9:=(aT (M:=L) (e7:=P) (j0:=S) m).all;refine aL hm RN ?_;refine bp λcu l0=>?_;refine dk λcp l1 _ _=>?_;refine gZ λC n _ _ _ _=>?_;generalize V:((d.set cu _).set cp _).set C _=W;have o:d.sub W:=by subst V;exact aR
 have p:W C=β (.cells [.J [] .nil,.v (.bool θ)]):=by subst V;exact aR
 clear V;refine ag (vC W G l y (A.mono o) h L P S m (λ_=>B) a H I) ?_;rintro T M⟨D,E⟩;have N:=τ (D _ _ p);rw[kY];cases e:ei y a h with
 |none=>
  rw[e]at E;obtain rfl:=E;refine aa ?_;refine aN λf c=>?_;have a:C≠f:=by rintro rfl;rw[D _ _ p]at c;cases c
  have O:=Δ a;refine aa ?_;exact κ (ο o D) (Ι (ο o D) c)
 |some r=>
  rw[e]at E;obtain⟨k,z,rfl,F⟩:=E;refine aa ?_;refine aN λf c=>?_;have a:C≠f:=by rintro rfl;rw[F.sub _ _ p]at c;cases c
  have O:=Δ a;have N:=τ (F.sub _ _ p);have q:=ο o F.sub;have g:(r.kind=1)↔(r.kind.toNat:Int)=1:=by rw[<-a9f];show r.kind.toNat=1↔ _;omega
  by_cases x:¬r.kind=1
  .have:=mt g.2 x;exact aR
  have x:=Decidable.not_not.1 x;have l2:=g.1 x;clear g;obtain⟨Q,l3,_⟩:=Gq (Gp e) x;obtain⟨l4,l5,X,i,s,t,Y,_⟩:=F;obtain⟨l6,l7,l8⟩:=r
  dsimp only at*
  obtain⟨u,rfl⟩:=aac.1 Q;have Z:=(bS.dA i acq rfl (t.cells λ_ _=>cZ.cells)).mono s.1;obtain⟨l9,k3,k4,rfl⟩:=t.get (i:=0) rfl;obtain⟨v,w,k5⟩:=Z.get 0 _ k3;have k6:=λb j=>k5.ld b j ζ 2 acq (by simp[ρ]);have w:cO 2 k (.v (.int .i64 0))=β v:=w;have k7:∀b,M.sub b->du ζ 2 b v=β (.agg [.J (af u.1) k4,.v (.bool u.2)]):=λb j=>k6 b j;have n0:=k7 _ (κ (Z:=.cells [.v (.int .u8 1),k,z]) η c);refine aa ?_;refine⟨_,η,κ (κ q (Ι q c)) n,?_⟩;have k8:=ο o i.1;exact⟨_,_,rfl,X,(ka (s.mono (κ η c)) (i.1 _ _ p)).base (κ k8 n),Y⟩
theorem dT.base{c:ix}{d h k:U}{o:Nat}{p:Ψ}{r:R}{x:Ψ}{y:R}(a:dT c h k o p r x y)(b:d.sub h):dT c d k o p r x y:=by refine⟨Ι b a.gF,a.x,a.l.base b,?_,a.hc,a.kl,a.lw⟩;obtain⟨z,C,D⟩:=a.w;refine⟨ο b z,C,D.imp_right ?_⟩;rintro⟨E,F,post,G,L,P⟩;exact⟨E,F,post,G,Ι b L,P⟩
noncomputable def res (b:Nat->Prop) (c:U):U:=λa=>open Classical in if b a then ε else c a
variable{k0:Nat -> Prop}
theorem s4(a:k0 e):res k0 f e=none:=if_pos a
theorem pr(a:¬k0 e):res k0 f e=f e:=if_neg a
theorem Gr:(res k0 f).sub f:=λa b c=>by
 grind[s4,pr]
def Gs(c:f.sub s):(res k0 f).sub (res k0 s):=λd h a=>by
 by_cases b:k0 d
 .rw[s4 b]at a;cases a
 .rw[pr b]at a|-;exact c _ _ a
def av.res{a:Nat->Prop}{c d:U}{h:Nat}{k:Ψ}{b:R}(r:av c d h k b)(x:∀o,cN b=β o->¬a o):av (res a c) (res a d) h k b:=by obtain⟨y,z⟩:=r;refine⟨Gs y,z.imp_right ?_⟩;rintro⟨p,C,D,E,rfl,F,G,L⟩;have:=x p rfl;exact⟨p,C,D,E,rfl,by rw[pr this];exact F,by rw[pr this];exact G,L⟩
def km(b:Nat)(c d:R)(a:Nat):Prop:=a=b\/cN c=β a\/cN d=β a
def dT.wide{r:ix}(a:dT r s f e g n B b6):dT r (res (km e n b6) f) f e g n B b6/\s.sub (res (km e n b6) f):=by
 have z:s.sub (res (km e n b6) f):=λC S b=>by
  have:¬km e n b6 C:=by
   rintro(rfl|c|c)
   .rw[a.gF]at b;cases b
   .rw[av.fresh a.l c]at b;cases b
   .obtain⟨_,_,⟨_,rfl|rfl⟩|⟨d,x,post,h,k,_,_,_,_,⟨rfl,_⟩|rfl⟩⟩:=a.w
    .cases c
    .cases c
    all_goals (obtain rfl:=Β c;rw[k]at b;cases b)
  rw[pr this];exact a.l.1 _ _ b
 refine⟨⟨s4 (.inl rfl),a.x,?_,?_,a.hc,a.kl,a.lw⟩,z⟩
 .obtain⟨_,o⟩:=a.l;refine⟨Gr,o.imp_right ?_⟩;rintro⟨d,D,h,E,rfl,k,p⟩;exact⟨d,D,h,E,rfl,s4 (.inr (.inl rfl)),p⟩
 .obtain⟨_,o,F⟩:=a.w;refine⟨Gr,o,F.imp_right ?_⟩;rintro⟨d,x,post,h,k,p,G,L,P,y⟩;refine⟨d,x,post,h,s4 (.inr (.inr ?_)),p,G,L,P,y⟩;rcases y with⟨rfl,_⟩|rfl<;>rfl
def dT.sort{r:ix}(a:dT r s f e B b6 g n)(q:g≠[]):∃b c post,f=W f b c post g/\pj 41 n b (α c) (α g)/\b≠e/\∀d,d.Perm g->dT r s (W f b c post d) e B b6 d n:=by
 obtain⟨E,F,⟨h,_⟩|⟨b,c,post,G,o,L,P,S,T,p⟩⟩:=a.w
 .trivial
 have x:cN n=β b:=by rcases p with⟨rfl,_⟩|rfl<;>rfl
 have y:b≠e:=by rintro rfl;exact a.kl x
 refine⟨b,c,post,(U.tG L).symm,⟨λz t=>?_,a.w.len.1,a.w.len.2⟩,y,λd k=>⟨a.gF,?_,?_,⟨κ E o,λh V=>F h (k.mem_iff.1 V),.inr ⟨b,c,post,G,o,μ _ _ _,by rw[k.length_eq];exact P,S,by rw[k.length_eq];exact T,by rw[k.length_eq];exact p⟩⟩,a.hc,a.kl,a.lw⟩⟩
 .have C:(0)<=(z:Int):=acq;have D:(z:Int)<α g:=acq;rcases p with⟨rfl,rfl⟩|rfl
  .rw[jj C D,a8N,a8s,a8J]
  .rw[uL C D,a8N]
 .obtain⟨i,j,l,m⟩:=a.x;exact⟨i,j,l,(ξ _ _ y.symm).trans m⟩
 .refine av.other a.l o λh=>a.lw _ h x
theorem dT.tail{a:ix}{z:R}(h:dT a s f e B b6 (n::g) z):∃b,ck 41 z (β (.v (.int .i64 1))) ε ε=β b/\b.cells=[b]/\(∀p r x,dT a s (f.set e (.cells (lS a.fV a.aV a.aU a.gN a.ev a.hz a.d b6 p r x b))) e B b6 g b)/\
  ∃c o,cO 41 z (.v (.int .i64 0))=β (.ptr c o)/\du ζ 37 f (.ptr c o)=β (.agg (n.cells.take 37)):=by
 obtain⟨l,P,⟨m,_⟩|⟨c,k,post,d,q,S,T,M,t,E⟩⟩:=h.w
 .cases m
 have V:cN z=β c:=by rcases E with⟨rfl,_⟩|rfl<;>rfl
 have N:c≠e:=by rintro rfl;exact h.kl V
 have W:=P n acr;have u:flat (n::g)=n.cells++flat g:=rfl;rw[a8m]at T t E;have C:∀b:R,(cN b=ε\/cN b=β c)->((g=[]/\(b=.J [] .nil\/b=.J [] .zero))\/b=.bE c (k++n.cells).length (α g) (d - 1) 41)->∀p r x,dT a s (f.set e (.cells (lS a.fV a.aV a.aU a.gN a.ev a.hz a.d b6 p r x b))) e B b6 g b:=λb v F p r x=>by
  have i:cN b≠β e:=λy=>by simp_all
  have w:gz s f g b:=by refine⟨l,λA H=>P A (by simp[H]),F.imp_right λF=>?_⟩;refine⟨c,k++n.cells,post,d - 1,q,?_,acq,acq,acq,.inr F⟩;rw[S,u];simp
  exact⟨h.gF,⟨p,r,x,μ _ _ _⟩,av.other h.l h.gF h.hc,w.other h.gF i,h.hc,i,λO I y=>by
   rcases v with G|G
   .rw[G]at y;cases y
   .rw[G]at y;obtain rfl:=Β y;exact h.lw _ I V⟩
 have D:∀o,o=α k->du ζ 37 f (.ptr c o)=β (.agg (n.cells.take 37)):=λo K=>by
  subst K;have Q:=ι S;have X:α k+37<=(k++flat (n::g)++post).length:=by grind
  simp_all [du,aQ,a9O]
 rcases E with⟨rfl,rfl⟩|rfl
 .by_cases j:1<d
  .refine⟨.bE c (1*41) (α g+1 - 1) (d - 1) 41,gm (e:=1) acq T j,rfl,C _ (.inr rfl) (.inr ?_),c,0,?_,D 0 rfl⟩
   .simp[W]
   .exact jj acq acq
  .obtain rfl:d=1:=acq;have L:g=[]:=a8q acq;subst L;refine⟨.J [] .zero,uY rfl,rfl,C _ (.inl rfl) (.inl ⟨rfl,.inr rfl⟩),c,0,?_,D 0 rfl⟩;rfl
 .by_cases j:1<d
  .refine⟨.bE c (α k+1*41) (α g+1 - 1) (d - 1) 41,?_,rfl,C _ (.inr rfl) (.inr ?_),c,α k,?_,D _ rfl⟩
   .have Y:(1)<=((α g+1:Nat):Int):=acq;have c2:((α g+1:Nat):Int)<=d:=acq;have aD:(1:Int)<d:=acq;simp_all [ck,cJ,Go.bD.intOf]
   .simp[W]
   grind[uL]
  .obtain rfl:d=1:=acq;have L:g=[]:=a8q acq;subst L;refine⟨.J [] .zero,?_,rfl,C _ (.inl rfl) (.inl ⟨rfl,.inr rfl⟩),c,α k,?_,D _ rfl⟩
   .rfl
   rfl
section
variable(S:ai)(d:Nat)(lo hi:Τ)
inductive mU:au->au->Prop
 |refl (k:au):mU k k
 |step {k a b:au}{n:c4} (h:ei S d k=β n) (hk:a∈n.kids) (c:eD lo hi a=ζ) (o:mU a b):mU k b
def o9(h:au)(a:Τ):Prop:=∃b c,mU S d lo hi h b/\ei S d b=β c/\(a,ζ)∈c.rows/\jx lo hi a=ζ
end
def cB(a:au):Nat:=2*a.size.toNat - 1
theorem A0(d h:Τ)(c:Nat):∀(b:List au),(∀a∈b,eD d h a=ζ->1<=a.size)->(∀a∈b,(c:Int)<=a.size)->c<=1->((((b.filter (eD d h)).map cB).sum:Nat):Int)+(α b:Int)*c<=2*(b.map au.size).sum/\0<=(b.map au.size).sum
 |[],_,_,_=>by simp
 |a::b,o,p,he=>by
  have ih:=A0 d h c b (λa k=>o a (by simp[k])) (λa k=>p a (by simp[k])) he;have r:=o a acr;have x:=p a acr;rw[abf,a8C,a9D,a8m];grind[Int.natCast_add,Int.add_mul,cB]
theorem A1(a:eD t b8 A=ζ):A.live≠0:=by rw[eD,Ξ]at a;simp_all
def lT(a:α A.sum=32):putAt (δ 32 (R.v (.int .u8 0))++[R.J [] .nil,.J [] .nil]++[.v (.int .i64 0),.v (.int .i64 0)]++[.J [] .nil]) 0 (ab A M e7 j0)=ab A M e7 j0:=by have:=(aT (M:=M) (e7:=e7) (j0:=j0) a).len;rw[putAt,this];simp
def tZ(a:dZ e c0=ζ):∀b∈c0.kids,fb e b=true:=by simp only[dZ,Ξ,a8A]at a;exact a.1.2
def jE(b:fb e A=ζ):0<=A.size/\(A≠aw->1<=A.size)/\(A.live≠0->A≠aw):=by refine⟨(rG b).2.2.2.2.1,λa=>?_,λc a=>c (by rw[a];rfl)⟩;simp only[fb,decide_eq_false a,acb,Ξ,a9M,ac9,decide_eq_false_iff_not]at b;omega
theorem Gt(o:ei H e A=β c0):((c0.kids.filter (eD t b8)).map cB).sum<cB A/\1<=A.size:=by
 have h:=vJ o;have z:A.size=α c0.rows+(c0.kids.map au.size).sum:=h.size;have k:=h.ok;simp only[dZ,Ξ]at k;obtain⟨⟨_,c⟩,a⟩:=k;have c:=a8A.1 c;have d:∀A∈c0.kids,eD t b8 A=ζ->1<=A.size:=λA b d=>by
  obtain⟨_,p,r⟩:=jE (c A b);exact p (r (A1 d))
 have x:∀A∈c0.kids,((0:Nat))<=A.size:=λA b=>(jE (c A b)).1;have y:=A0 t b8 0 c0.kids d x acq;rw[show(α c0.kids)*((0:Nat):Int)=0 from Int.mul_zero _]at y;have C:(cB A)=2*A.size - 1\/A.size<1:=by unfold cB;omega
 split at a;grind;split at a;grind;split at a
 .simp only[Ξ,decide_eq_true_eq,a8A,a9M,decide_eq_false_iff_not]at a;have D:=A0 t b8 1 c0.kids d (λA b=>(jE (c A b)).2.1 (a.2 A b).2) acq;omega
 .cases a
def A2(a:Nat)(h:a<=1):∀(b:List au),(∀c∈b,(a:Int)<=c.size)->((b.map cB).sum:Int)+a*α b<=2*(b.map au.size).sum
 |[],_=>by simp
 |c::b,d=>by
  have ih:=A2 a h b λc k=>d c (by simp[k]);have o:=d c acr;rw[a8C,a8C,a9D,a9D,a8m];rcases(by omega:a=0\/a=1)with rfl|rfl<;>simp only[cB]at* <;>omega
theorem a3K(k:ei H e A=β c0):(c0.kids.map cB).sum<cB A/\1<=A.size/\∀o∈c0.kids,fb e o=true:=by
 have h:=vJ k;have p:A.size=α c0.rows+(c0.kids.map au.size).sum:=h.size;have c:=h.ok;have d:=tZ c;simp only[dZ,Ξ]at c;obtain⟨⟨_,r⟩,a⟩:=c;have x:=A2 0 acq c0.kids λA b=>(jE (d A b)).1;have y:(cB A)=2*A.size - 1\/A.size<1:=by unfold cB;omega
 refine⟨?_,?_,d⟩
 all_goals
  split at a
  .grind
  split at a
  .grind
  split at a
  .simp only[Ξ,decide_eq_true_eq,a8A,a9M,decide_eq_false_iff_not]at a;have z:=A2 1 acq c0.kids λA b=>(jE (d A b)).2.1 (a.2 A b).2;omega
  .cases a
def iy(b:au->List Υ->Int×List Υ):List au->List Υ->Int×List Υ
 |[],a=>(0,a)
 |c::bI,a=>if(b c a).1=0 then iy b bI (b c a).2 else b c a
abbrev Gu(b:ai)(a:au):Prop:=a.live=0\/b.m a.sum≠ε->a.cE
def lU(d:ai)(h:Nat)(c:List Υ->au->Bool×List Υ):Nat->au->List Υ->Int×List Υ
 |0,_,a=>(0,a)
 |k+1,b,a=>if b=aw then(0,a)else if(c a b).1=ζ then(match ei d h b with
   |none=>(21,(c a b).2)
   |some o=>iy (lU d h c k) o.kids (c a b).2)else(0,(c a b).2)
def av.w8{h:bt}(a:av f s e g n)(k:s.sub e5)(b:f i=β Z)(c:f v=β h):av U.emp (jr i v e5) e g n:=by
 obtain⟨_,a|⟨o,p,r,x,y,d,z,C⟩⟩:=a
 .exact⟨Es,.inl a⟩
 .refine⟨Es,.inr ⟨o,p,r,x,y,rfl,tt (k _ _ z) ?_ ?_,C⟩⟩
  .rintro rfl;rw[d]at b;cases b
  .rintro rfl;rw[d]at c;cases c
def gP.w8{a h:U}{k o:Nat}{p:c4}{r x:R}{F G:bt}(L:gP a h p r x)(y:a k=β F)(z:a o=β G):∃b c,fM (jr k o h) p r x b c:=by obtain⟨W,b,c,d,C,D,E,P,S⟩:=L;have T:=av.w8 d C.1 y z;have V:=av.w8 C η (d.1 _ _ y) (d.1 _ _ z);exact⟨b,c,D,E,bS.dA T acq rfl (D.cells λ_ _=>cZ.cells),bS.dA V acq rfl (E.cells λ_ _=>Κ),P,S⟩
def Gv(P:U)(n k3:Nat)(p:ai)(h:Nat)(l3:1<=h)(l4:h<=8)(k o:Nat)(q:Nat)(k4:Ψ)(r:List Υ->au->Bool×List Υ)(T:U->Prop)
  (l5:fH γ q=ζ) (l6:∀b,T b->bs b n k3 p) (V:∀b x c,T b->eB P b k o c->dC k o b x->T x)
  (l7:∀b c a z C D,α a.sum=32->T b->eB P b k o c->α c<=1000000000->AC γ q (.agg (ab a z C D)::k4) b λs x=>dC k o b x/\eB P x k o (r c a).2/\s=.v (.bool (r c a).1))
  (l8:∀c a,(r c a).2.length<=α c+1):∀(E:Nat)(b:U)(_:T b)(c:List Υ)(_:eB P b k o c)(a:au)(z C D:Own),α a.sum=32->Gu p a->(a≠aw->1<=a.size)->cB a<E->α c+cB a<=1000000000->
  AC γ 145 [.ptr n 0,.agg (ab a z C D),.v (.int .i64 (h:Int)),.bL q [] k4] b λs x=>dC k o b x/\eB P x k o (lU p h r E a c).2/\(lU p h r E a c).2.length<=α c+cB a/\s=.v (.int .i64 (lU p h r E a c).1)
 |0,_,_,_,_,_,_,_,_,_,_,_,t,_=>by omega
 |E+1,b,a02,c,u,a,z,C,D,fp,l9,a03,a71,a73=>by
  have a74:=(aT (M:=z) (e7:=C) (j0:=D) fp).all;refine aL hm Pj ?_;refine bp λv i=>?_;have w:=κ (Z:=.cells (ab a z C D)) (η (f:=b)) i;have bl:=μ b v (.cells (ab a z C D));generalize b.set v _=a04 at*;have n0:=V _ _ _ a02 u (dC.of w);have k5:=u.mono w;have n1:v≠k/\v≠o:=by obtain⟨_,a05,_⟩:=u.cx;obtain⟨_,⟨_,_,a06,_⟩,_⟩:=u.mp;exact⟨λA=>by rw[A,a05]at i;(cases i),λA=>by rw[A,a06]at i;(cases i)⟩
  have a07:=ι bl;have a81:=(aT (M:=.nil) (e7:=.nil) (j0:=.nil) bm).all;rw[lU];refine aa ?_;refine bh (mL a z C D _ fp λt=>l9 (.inl t)) ?_;refine aG (λF=>?_) λF=>?_;rotate_left
  .exact⟨_,η,dC.of w,k5,acq⟩
  rw[if_neg F];refine fm l5 (l7 a04 c a z C D fp n0 k5 acq) ?_;rintro _ a08⟨j,l,rfl⟩;have a09:=l8 c a;have n2:=V _ _ _ n0 k5 j;have B:=(dC.of w).trans j;generalize r c a=a10 at*;obtain⟨a11,k6⟩:=a10
  dsimp only at l a09|-
  have a83:1<=cB a:=by have:=a03 F;unfold cB;omega
  cases a11 with
  |false=>refine aa ?_;exact⟨_,η,B,l,acq⟩
  |true=>
   have a07:=ι (j _ _ (tt bl n1.1 n1.2));rw[if_pos rfl];refine aa ?_;refine ag (vC a08 n k3 p (l6 _ n2) a z C D fp (λt=>l9 (.inr t)) h l3 l4) ?_;rintro s k7⟨W,H⟩;have k8:=l.mono W;cases k9:ei p h a with
   |none=>rw[k9]at H;obtain rfl:=H;refine aa ?_;refine bp λl0 m=>?_;exact⟨_,η,B.trans (dC.of (κ W (Ι W m))),k8.mono (κ η m),acq⟩
   |some d=>
    rw[k9]at H;obtain⟨y,a84,rfl,a13⟩:=H;obtain⟨a86,a88,a14⟩:=a3K k9;obtain⟨⟨a89,a15,_⟩,_,⟨_,⟨_,_,a16,_⟩,_⟩,_⟩:=id l;obtain⟨a90,a92,I⟩:=a13.w8 a15 a16;have a94:=I.tw;have a95:=I.ig;have a18:=V _ _ _ n2 l (dC.of W);refine aa ?_;refine bp λl0 m=>?_;generalize K:(k7.set l0 _).set l0 _=a19;have n3:k7.sub a19:=by subst K;exact κ (κ η m) m
    clear K;refine cd [0,2,3,33,34] (λy:Nat×List Υ=>[(35,.v (.int .i64 (y.1:Int)))]) (λy x=>y.1<=α d.kids/\eB P x k o y.2/\dC k o k7 x/\α y.2<=α k6+((d.kids.take y.1).map cB).sum/\iy (lU p h r E) (d.kids.drop y.1) y.2=iy (lU p h r E) d.kids k6) (λy=>α d.kids - y.1) (0,k6) ⟨⟨a8M _,k8.mono n3,dC.of n3,acr,rfl⟩,aR⟩ ?_;rintro⟨G,n4⟩ M ⟨a27,N,O,n5,L⟩ a96
    dsimp only at a27 N n5 L|-
    have a29:=V _ _ _ a18 k8 O;have a30:((d.kids.take G).map cB).sum+((d.kids.drop G).map cB).sum=(d.kids.map cB).sum:=by rw[<-List.sum_append,<-a9i,a8K]
    refine aa ?_;refine aG (λF=>?_) λF=>?_
    .have Q:G<α d.kids:=acq;have n9:=drop_cons (a:=d.kids) (b:=aw) Q;have a34:=fa (a:=d.kids) (b:=aw) Q;have a00:d.kids[G]?=β (d.kids.getD G aw):=by simp[List.getD,Q]
     have a36:=a8r a00;generalize d.kids.getD G aw=S at*;obtain⟨_,a38,a01,a42,e,f,g,rfl⟩:=I.kids.get a00;obtain⟨a43,a97,X⟩:=I.gH.get G _ a38;have X:=X.mono O;have Y:=aT (M:=e) (e7:=f) (j0:=g) a01;change mK M a43 (ab S e f g)at X;have a47:=X.ld M η ζ 37 acq (by rw[Y.len];omega);rw[show aQ ζ 37 (ab S e f g)=.agg (ab S e f g) by rw[aQ,if_pos rfl,Y.t37]]at a47;have a48:=jE (a14 S a36);rw[n9,iy]at L;rw[n9,a8C,a9D]at a30;have Y:=Y.all;have ih:=Gv P n k3 p h l3 l4 k o q k4 r T l5 l6 V l7 l8 E;have a52:=λZ a56 j=>ih Z a56 n4 j S e f g a01 (λ_=>a42) a48.2.1 acq acq;generalize ab S e f g=a98 at*;refine aa ?_;refine bp λa57 a61=>?_;generalize K:M.set a57 _=Z;have l1:M.sub Z:=by subst K;exact κ η a61
     have a62:=V _ _ _ a29 N (dC.of l1);refine ag (a52 Z a62 (N.mono l1)) ?_;rintro _ a99⟨a63,l2,a65,rfl⟩;have a68:=O.trans ((dC.of l1).trans a63);generalize lU p h r E S n4=res at*;obtain⟨A,a69⟩:=res
     dsimp only at l2 a65 L|-
     refine aa ?_;refine aG (λF=>?_) λF=>?_
     .rw[if_neg F]at L;rw[<-L];exact⟨_,η,B.trans ((dC.of W).trans a68),l2,by dsimp only;omega,rfl⟩
     .rw[if_pos F]at L;exact⟨(G+1,a69),⟨Q,l2,by rw[a34,a9i,List.sum_append,List.map_singleton,List.sum_singleton];dsimp only;omega,L⟩,rfl,by dsimp only;omega⟩
    .obtain rfl:G=α d.kids:=acq;rw[aag,iy]at L;rw[a8F]at n5;rw[<-L];exact⟨_,η,B.trans ((dC.of W).trans O),N,by dsimp only;omega,rfl⟩
def a3L(c:U)(o p:Nat)(h:ai)(C:bs c o p h)(a:Υ)(k:α a=32):
  AC γ 34 [.ptr o 0,bo a] c λD E=>c.sub E/\D=.v (.bool (h.m a).isSome):=by
 obtain⟨⟨i,j,F⟩,⟨d,G,b⟩,_,_⟩:=C;have b:=b a k;have l:(a.map ah).length=32:=by simp[k]
 have m:aQ ζ 32 (a.map ah)=bo a:=by rw[aQ,if_pos rfl,Ο acq];rfl
 have L:(bo a).cells=a.map ah:=rfl;refine aL hm Ml ?_;refine aN λr P=>?_;rw[L];have aD:=μ c r (.cells (a.map ah));have x:=κ (Z:=.cells (a.map ah)) (η (f:=c)) P;generalize c.set r _=S at*;have n:=ι (x _ _ F);have q:=ι aD;have T:nD S p qd d:=by obtain⟨V,W,e,f⟩:=G;exact⟨V,W,x _ _ e,f⟩
 refine aa ?_;refine uW T (p3 k) (λv y=>?_) (λz=>?_)
 .cases hm:h.m a with
  |none=>rw[hm]at b;rw[show d (.agg (a.map ah))=d (bo a)from rfl,b]at y;cases y
  |some g=>refine aa ?_;rfl
 .cases hm:h.m a with
  |none=>refine aa ?_;rfl
  |some g=>rw[hm]at b;obtain⟨s,t,b⟩:=b;rw[show d (.agg (a.map ah))=d (bo a)from rfl,b]at z;cases z
def a3M(a:List Υ)(b:au):Bool×List Υ:=(decide (b.sum∉a),eK a b.sum)
def qy(c:ai)(a:List Υ)(b:au):Bool×List Υ:=if(c.m b.sum).isSome=ζ then(ζ,a)else(θ,eK a b.sum)
def qz:(eK h5 w).length<=α h5+1:=by
 unfold eK;split
 .omega
 .simp
def eB.at(a:eB s f e i h5):∃b aA,f e=β b/\f i=β aA:=by obtain⟨_,c,_⟩:=a.cx;obtain⟨_,⟨_,_,d,_⟩,_⟩:=a.mp;exact⟨_,_,c,d⟩
def a3N(z b:U)(c x F G C L:Nat)(d:ai)(h:List Υ)(a:au)(k o p:Own)(D:α a.sum=32)(P:eB z b c x h)(S:b F=β (.cells [.ptr c 0]))(V:b G=β (.cells [.ptr C 0]))(W:bs b C L d)(e:α h<=1000000000):
  AC γ 176 [.agg (ab a k o p),.ptr G 0,.ptr F 0] b λf T=>dC c x b T/\eB z T c x (qy d h a).2/\f=.v (.bool (qy d h a).1):=by
 have g:=(aT (M:=k) (e7:=o) (j0:=p) D).all;have t:aQ ζ 32 (ab a k o p)=bo a.sum:=by rw[aQ,if_pos rfl,g.2.2.1];rfl
 refine aL hm Q8 ?_;refine bp λi j=>?_;have r:=κ (Z:=.cells (ab a k o p)) (η (f:=b)) j;have c2:=μ b i (.cells (ab a k o p));have l:=ι (r _ _ S);have u:=ι (r _ _ V);have m:=ι c2;unfold qy;refine aa ?_;refine ag (a3L _ C L d (W.mono r) a.sum D) ?_;rintro _ n⟨E,rfl⟩;have y:=ο r E;have l:=ι (E _ _ (r _ _ S));have m:=ι (E _ _ c2);cases cm:(d.m a.sum).isSome with
 |true=>refine aa ?_;exact⟨_,η,dC.of y,P.mono y⟩
 |false=>refine aa ?_;refine ag (a0u z n c x h (P.mono y) a.sum D e) ?_;rintro _ v⟨q,s,rfl⟩;refine aa ?_;exact⟨_,η,(dC.of y).trans q,s⟩
def kn(a:ai)(c:Nat)(b:au)(d:List Υ):Int×List Υ:=lU a c (qy a) (cB b+1) b d
def Gw(C:Nat)(p:ai->Nat->au->List Υ->Int×List Υ):Prop:=∀(r h:U)(k o x y:Nat)(d:ai)(b:Nat)(c:List Υ)(a:au)(D E F:Own),1<=b->b<=8->bs h x y d->y≠o->eB r h k o c->α a.sum=32->Gu d a->(a≠aw->1<=a.size)->α c+cB a<=1000000000->
  AC γ C [.ptr k 0,.ptr x 0,.agg (ab a D E F),.v (.int .i64 (b:Int))] h λG z=>dC k o h z/\eB r z k o (p d b a c).2/\(p d b a c).2.length<=α c+cB a/\G=.v (.int .i64 (p d b a c).1)
def a3O:Gw 117 kn:=λf a b D k S E m o c p r x n q s t F G u v T=>by
 have Q:=(aT (M:=p) (e7:=r) (j0:=x) G).all;obtain⟨X,aA,g,i⟩:=F.at;refine aL hm Ov ?_;refine bp λd L=>?_;refine dk λh P _ _=>?_;refine gZ λj Y _ _ _ _=>?_;generalize y:((a.set d _).set h _).set j _=z;have V:a.sub z:=by subst y;exact aR
 have c2:z j=β (.cells (ab c p r x)):=by subst y;exact aR
 have w:z d=β (.cells [.ptr b 0]):=by subst y;exact aR
 have l:z h=β (.cells [.ptr k 0]):=by subst y;exact aR
 clear y;have A:d≠b:=by rintro rfl;rw[g]at L;cases L
 have B:d≠D:=by rintro rfl;rw[i]at L;cases L
 have H:h≠b:=by rintro rfl;rw[g]at P;cases P
 have I:h≠D:=by rintro rfl;rw[i]at P;cases P
 have Z:=ι c2;have k3:=ι l;refine aa ?_;refine ag (Gv f k S E m n q b D _ _ (qy E) (λa=>bs a k S E/\a d=β (.cells [.ptr b 0])/\a h=β (.cells [.ptr k 0])) acw (λa C=>C.1) (λa k4 o C K W=>⟨C.1.fE K W t,W _ _ (tt C.2.1 A B),W _ _ (tt C.2.2 H I)⟩)
  (λa o c p r x G e F T=>a3N f a b D d h k S E o c p r x G F e.2.1 e.2.2 e.1 T) (λo c=>by unfold qy;split;(·dsimp only;omega);exact qz) (cB c+1) z ⟨s.mono V,w,l⟩ o (F.mono V) c p r x G u v acq T) ?_
 rintro _ k5⟨M,N,O,rfl⟩;refine aa ?_;exact⟨_,η,(dC.of V).trans M,N,O,rfl⟩
structure oa(c:U)(x:R)(b:Υ):Prop where
 one:x.cells=[x]
 len:fk x=β (.v (.int .i64 (α b)))
 src:∀a,c.sub a->oW a x b
theorem oa.aq(a:fK s f w n):oa f n w:=by obtain⟨h,b,k,c⟩:=a.src;simp only[a8o,a8Y]at b;subst b;refine⟨?_,c,λo d=>fK.mA (a.mono d)⟩;rcases a.2 with⟨_,rfl|rfl⟩|⟨_,_,_,_,rfl,_⟩<;>rfl
def oa.mono(a:oa f n w)(b:f.sub s):oa s n w:=⟨a.one,a.len,λd c=>a.src _ (ο b c)⟩
def a3P(c:UInt8)(b:Υ)(d:R)(h:Nat)(a:U)(k:oa a d b)(y:α b<=900000)(p:a h=β (.cells [d])):
  AC γ 277 [.v (.int .u8 (c.toNat:Int)),.aq h 1 1 1] a λr x=>fK a x (preB c [b]) r:=
 a2T c [(d,b)] h a p (λz o=>by rw[a8B]at o;subst o;exact .inr ⟨k.src _ η,k.len⟩) (by simp[preB,chunk,cD];omega)
theorem A3(b:α w=32)(a:R):(bo w).cells.length=32/\putAt (δ 32 a) 0 (bo w).cells=(bo w).cells/\(.agg ((bo w).cells.take 32):R)=bo w:=by grind[bo,ρ,putAt,Γ]
def gb(a:Υ):Υ:=fo (preB 67 [a])
def a3Q(b:Υ)(a:R)(c:U)(k:oa c a b)(y:α b<=900000):
  AC γ 211 [a] c λo z=>z=c/\o=bo (eb b):=by
 have p:=k.one;refine aL hm R9 ?_;refine bp λF C=>?_;refine eP (by simp[aW,p]) acr λD E=>?_;rw[show flat [a]=[a] by simp[flat,p]];have r:=κ (Z:=.cells (δ 32 (.v (.int .u8 0)))) (η) C;have d:=κ (Z:=.cells [a]) (η) E;refine aa ?_;refine ib (a3P 80 b a D _ (k.mono (ο r d)) y (μ _ _ _)) λo G h=>?_;have x:=oa.aq h;have L:=τ (h.sub _ _ (d _ _ (μ _ _ _)));have P:=A3 (iL (preB 80 [b])) (.v (.int .u8 0));refine bh (a2Q _ (by simp[preB,chunk,cD];omega) _ _ (x.src _ η) x.len) ?_;exact⟨ο (ο r d) h.sub,rfl⟩
def a3R(a:Υ)(b:Own)(c:U)(z:α a<=1000000000000):
  AC γ 43 [.J (a.map ah) b] c λd h=>c.sub h/\∃k,d=.J ((preB 67 [a]).map ah) k:=by
 refine aL hm My ?_;refine dD η (by simp[aW,ρ]) λo p r=>?_;refine aa ?_;refine ag (E1 67 [(a,b)] o (by simp[preB,chunk,cD];omega) p) ?_;rintro _ C⟨x,y,rfl⟩;refine aa ?_;exact⟨ο r.sub y.sub,x,rfl⟩
def u0(a:Υ)(b:Own)(c:U)(r:α a<=1000000000):
  AC γ 17 [.J (a.map ah) b] c λh k=>k=c/\h=bo (gb a):=by
 refine aL hm M5 ?_;refine bp λx o=>?_;refine ag (a3R a b _ acq) ?_;rintro _ y⟨d,p,rfl⟩;have z:=τ (d _ _ (μ _ _ _));have C:=A3 (iL (preB 67 [a])) (.v (.int .u8 0));refine aa ?_;refine bh (E5 _ p (by simp[preB,chunk,cD];omega) _) ?_;exact⟨ο (κ η o) d,rfl⟩
theorem Gx(c b:Τ)(p r:Own)(d:Nat)(k:U)(D:d<=1000000):
  AC γ 151 [eT c b p r,.v (.int .i64 (d:Int))] k λx y=>y=k/\x=.v (.bool (cS c b d)):=by
 have E:=bM (t:=c);have F:=bM (t:=b);have G:=@dY c;have L:=@dY b;refine aL hm Pp ?_;refine bp λP S=>?_
 repeat' first|refine aG (λ_=>?_) λ_=>?_|trivial
 all_goals try (rw[cS];exact aS)
 refine gX [1,2] (λa:Nat=>[(5,.v (.int .i64 a))]) (λa=>a<=d/\∀h<a,decide (c.getD h 0<=b.getD h 0)=ζ) (λa=>d - a) 0 ⟨acq,λh z=>by omega⟩ aR ?_;rintro a⟨b,o⟩T;refine aa ?_;refine aG (λC=>?_) λC=>?_
 .repeat' first|refine aG (λ_=>?_) λ_=>?_|trivial
  grind[cS,te,decide_eq_false_iff_not,aS]
  .exact⟨a+1,⟨acq,upto o (by simp only[decide_eq_true_eq];omega)⟩,rfl,acq⟩
 .rw[cS,tf λh z=>o h acq];exact aS
def c7:Υ->Υ->Bool
 |_,[]=>θ
 |[],_:: _=>ζ
 |a::c,b::d=>if a=b then c7 c d else decide (a<b)
theorem a3S:∀b a:Υ,Op.bytesLess b a=c7 b a:=by
 intro b
 induction b with
 |nil=>intro a;cases a<;>simp[Op.bytesLess,c7]
 |cons c b ih=>
  intro a;cases a with
  |nil=>rfl
  |cons d a=>simp only[Op.bytesLess,c7,ih];split<;>simp_all
theorem A4(a:Υ):c7 a a=false:=by induction a<;>simp_all [c7]
theorem Gy:∀b a:Υ,c7 b a=θ->c7 a b=θ->b=a:=by
 intro b
 induction b with
 |nil=>intro a;cases a<;>simp[c7]
 |cons c b ih=>
  intro a;cases a with
  |nil=>simp[c7]
  |cons d a=>simp only[c7];grind
theorem w9:∀c a b:Υ,c7 c a=ζ->c7 a b=ζ->c7 c b=true:=by
 intro c
 induction c with
 |nil=>intro a b;cases a<;>cases b<;>simp[c7]
 |cons d c ih=>
  intro a b;cases a with
  |nil=>simp[c7]
  |cons h a=>
   cases b with
   |nil=>simp[c7]
   |cons k b=>simp only[c7];grind
theorem wa(a b:Υ):jk .lss (bc a) (bc b)=β (.v (.bool (c7 a b)))/\jk .geq (bc a) (bc b)=β (.v (.bool (!c7 a b)))/\
  jk .leq (bc a) (bc b)=β (.v (.bool (c7 a b||decide (a=b))))/\jk .gtr (bc a) (bc b)=β (.v (.bool (!(c7 a b||decide (a=b))))):=by
 grind[decide,bc,sP,br,qQ,toList_mk,a3S]
def eL.at_(C:eL e8 g):∃D E,aQ θ 1 (g.drop 36)=.v (.int .i64 e8.bq.live)/\aQ θ 1 (g.drop 38)=.J (af e8.bq.key) D/\aQ θ 1 (g.drop 73)=.v (.int .i64 e8.bu.live)/\aQ θ 1 (g.drop 74)=.v (.int .i64 e8.bu.size)/\aQ θ 1 (g.drop 75)=.J (af e8.bu.key) E:=by
 obtain⟨⟨y,o,p,c,d,h,b,rfl⟩,⟨F,_⟩,⟨G,_⟩,_⟩:=C;have k:=aT (M:=o) (e7:=p) (j0:=c) F;have r:=aT (M:=d) (e7:=h) (j0:=b) G;have z:∀a,a<=37->(bc e8.name::.J (bB e8.aE) y::(ab e8.bq o p c++ab e8.bu d h b)).drop (a+2)=(ab e8.bq o p c).drop a++ab e8.bu d h b:=λa L=>by
  simp only[a9A];rw[a9P (by have:=k.len;omega)]
 have x:∀a,(bc e8.name::.J (bB e8.aE) y::(ab e8.bq o p c++ab e8.bu d h b)).drop (a+37+2)=(ab e8.bu d h b).drop a:=λa=>by
  simp only[a9A];rw[a9J,a9E (by rw[k.len];omega),k.len,a8y];congr 1
 refine⟨c,b,?_,?_,?_,?_,?_⟩
 .rw[z 34 acq,k.d34];rfl
 .rw[z 36 acq,k.d36];rfl
 .rw[x 34,r.d34];rfl
 .rw[x 35,r.d35];rfl
 .rw[x 36,r.d36];rfl
def fG(a:aK):Bool:=eU ⟨1,a.name,a.aE,[]⟩&&(fb (α a.aE+1) a.bq&&(fb (α a.aE+1) a.bu&&(decide (a.bq.live=a.bu.live)&&(decide (α a.bq.key=0)&&
 (decide (a.bu=aw)||(decide (α a.bu.key=α a.aE+1)&&decide (a.bu.size=a.bu.live)))))))
structure aK.Fit(t:aK):Prop where
 n:α t.name<=1000000
 c:α t.aE<=1000000
 cs:∀c∈t.aE,α c<=1000000
def u1(a:aK)(b:Ψ)(c:eL a b)(d:U):AC γ 144 [.agg b] d λh k=>k=d/\h=.v (.int .i64 ((α a.aE+1:Nat):Int)):=by obtain⟨o,p,r,x,y,z,C,D,E,F,G,L,P⟩:=c.all;have S:=hn (h5:=a.aE);have T:=c.c;refine aL hm Pg ?_;refine bp λV W=>?_;trivial
theorem s5(a:aK)(c:Ψ)(b:eL a c)(o:a.Fit)(d:U):AC γ 97 [.agg c] d λp r=>r=d/\p=.v (.bool (fG a)):=by
 obtain⟨W,e,f,x,y,z,C,D,E,F,g,i,j⟩:=b.all;obtain⟨l,m,n,q,s,t,u⟩:=b.at_;have v:=hn (h5:=a.aE);have w:=bM (t:=a.bq.key);have A:=bM (t:=a.bu.key);obtain⟨G,L,P⟩:=o;have B:∀h,fb h aw=true:=λh=>by rfl
 refine aL hm NP ?_;refine bp λk H=>?_;refine bh (u1 a c b _) ?_;refine bh (G2 ⟨⟨1,a.name,a.aE,[]⟩,x,.nil⟩ ⟨G,L,P,acr⟩ _) ?_;have S:=yI a.bq y z C (α a.aE+1) (d.set k (.cells c)) acq b.k.1 b.k.2;have T:=yI a.bu D E F (α a.aE+1) (d.set k (.cells c)) acq b.z.1 b.z.2;refine aG (λV=>?_) λV=>?_
 .rw[fG];exact aS
 refine bh S ?_
 repeat' first|refine aG (λ_=>?_) λ_=>?_|trivial
 all_goals try (rw[fG];exact aS)
 .refine bh T ?_
  repeat' first|refine aG (λ_=>?_) λ_=>?_|trivial
  all_goals try (rw[fG];exact aS)
  all_goals refine bh (mL _ _ _ _ _ b.z.1 λ_=>b.z.2) ?_
  all_goals repeat' first|refine aG (λ_=>?_) λ_=>?_|trivial
  all_goals grind[fG,aS]
def c8(a:List aK):Bool:=(χ (α a)).all (λb=>fG (a.getD b default)&&(decide (b=0)||c7 (a.getD (b - 1) default).name (a.getD b default).name))&&decide (α a<=8)
theorem ob(a:List aK)(E:Ψ)(e:Own)(y:aB dJ a E)(f:∀d∈a,d.Fit)(s:α a<=1000000)(k:U):AC γ 44 [.J E e] k λg z=>z=k/\g=.v (.bool (c8 a)):=by
 have t:=y.len;refine aL hm MA ?_;refine cd [0,5,6] (λb:Nat=>[(7,.v (.int .i64 b))]) (λb z=>k.sub z/\b<=α a/\∀c<b,(fG (a.getD c default)&&(decide (c=0)||c7 (a.getD (c - 1) default).name (a.getD c default).name))=ζ) (λb=>α a - b) 0 ⟨⟨η,acq,λc C=>by omega⟩,aR⟩ ?_;rintro b F⟨G,u,i⟩v;refine aa ?_;refine aG (λj=>?_) λj=>?_
 .have L:a[b]?=β (a.getD b default):=by simp_all
  obtain⟨_,w,T,rfl,o⟩:=y.get L;have P:=f _ (a8r L);generalize l:a.getD b default=d at*;have A:=lC (n:=.agg T) o.all.1;obtain⟨B,H,I,K,M,N,O,Q,X,Y,Z,k3,k4⟩:=o.all;obtain⟨p,r⟩:∃p,p=(fG d&&(decide (b=0)||c7 (a.getD (b - 1) default).name d.name)):=⟨_,rfl⟩;have k5:p=θ->c8 a=false:=λC=>by
   grind[c8,te]
  have k6:p=ζ->∃x,(x<=α a/\∀c<x,(fG (a.getD c default)&&(decide (c=0)||c7 (a.getD (c - 1) default).name (a.getD c default).name))=ζ)/\R.v (.int .i64 ((b)+1))=.v (.int .i64 (x))/\α a - x<α a - b:=λC=>
   ⟨b+1,⟨acq,upto i (by rw[l,<-r];exact C)⟩,rfl,acq⟩
  have k7:∀h S,F h=ε->k.sub (F.set h S):=λh S D=>κ G (Ι G D);by_cases V:b=0
  .subst V;simp only[decide_true,Bool.true_or,aca]at r;subst r;refine aa ?_;refine bp λh D=>?_;refine bh (s5 d T o P _) ?_
   repeat' first|refine aG (λ_=>?_) λ_=>?_|trivial
   simp_all
  .have m:a[b - 1]?=β (a.getD (b - 1) default):=by grind
   obtain⟨_,k8,n,rfl,W⟩:=y.get m;generalize a.getD (b - 1) default=q at*;have k9:=lC (n:=.agg n) W.all.1;obtain⟨l0,l1,l2,_⟩:=W.all;have l3:(b) - 1=((b - 1:Nat):Int):=acq;have l4:=(wa q.name d.name).2.1;simp only[decide_eq_false V,acb]at r;refine aa ?_;refine bp λh D=>?_;refine bh (s5 d T o P _) ?_
   repeat' first|refine aG (λ_=>?_) λ_=>?_|trivial
   all_goals simp_all
 grind[c8,tf,aS]
def oc(a b:Υ):Int:=if c7 a b=ζ then -1 else if a=b then 0 else 1
def Gz(b:Υ)(a:U):AC γ 340 [bc b] a λc d=>d=a/\c=.v (.bool θ):=by have k:=λh v=>@DF h v;refine aL hm U9 ?_;trivial
theorem a3T(a b:Υ)(c:U):AC γ 296 [bc a,bc b] c λh k=>k=c/\h=.v (.int .i64 (oc a b)):=by
 obtain⟨p,r,x,y⟩:=wa a b;refine aL hm Tf ?_;refine bh (Gz a c) ?_;refine bh (Gz b c) ?_;refine aG (λd=>?_) λd=>?_
 .rw[oc,if_pos d]
 .refine aG (λo=>?_) λo=>?_;simp_all [oc];simp_all [oc]
def a3U(a:aK)(b:Ψ)(d:eL a b)(c:U):AC γ 237 [.agg b] c λh k=>k=c/\h=bc a.name:=by obtain⟨o,p,r,_⟩:=d.all;refine aL hm RG ?_;refine bp λx y=>?_;trivial
def GA(a:aK)(b:Ψ)(h:eL a b)(k:Υ)(c:U)(d:Nat)(o:c.read d=β [.bL 237 [] []]):AC γ 295 [.agg b,bc k,.ptr d 0] c λp r=>r=c/\p=.v (.int .i64 (oc a.name k)):=by
 obtain⟨z,C,_⟩:=h.all;refine aL hm Td ?_;refine aN λx y=>?_;have D:d≠x:=by rintro rfl;simp[U.read,y]at o
 refine aa ?_;refine mB (a3U a b h _) ?_;refine bh (a3T _ _ _) ?_;trivial
def Place(a:List aK)(d:Υ)(c:Nat):Prop:=c<=α a/\(∀b<c,c7 (a.getD b default).name d=ζ)/\∀b<α a,c<=b->c7 (a.getD b default).name d=θ
theorem GB:oc w j8<0↔c7 w j8=true:=by grind[oc]
theorem a3V:oc w j8=0↔w=j8:=by
 unfold oc;split
 .rename_i a;simp;rintro rfl;rw[A4]at a;cases a
 .simp
theorem a3W(c:List aK)(y:Ψ)(V:Own)(d:Υ)(G:aB dJ c y)(u:α c<=1000000)(W:∀a b,a<b->b<α c->c7 (c.getD a default).name (c.getD b default).name=ζ)(p:U)(r:Nat)(L:p.read r=β [.bL 237 [] []]):
  AC γ 294 [.J y V,bc d,.bL 295 [] [.ptr r 0]] p λe f=>f=p/\∃a,Place c d a/\e=.aJ [.v (.int .i64 (a:Int)),.v (.bool (decide (a<α c)&&decide ((c.getD a default).name=d)))]:=by
 have v:=G.len;have el:∀a,a<α c->∃T,y[a]?=β (.agg T)/\eL (c.getD a default) T/\eG 76 (β (.agg T))=β (.bZ T)/\α T=76/\T.take 76=T:=λa z=>by
  obtain⟨_,g,T,rfl,k⟩:=G.get (i:=a) (x:=c.getD a default) (by simp_all);exact⟨T,g,k,lC k.all.1,k.all.1,k.all.2.1⟩
 have i:∀a,a<α c->c7 (c.getD a default).name d=ζ->∀b,b<a+1->c7 (c.getD b default).name d=true:=λa z o b P=>by
  rcases Nat.lt_or_eq_of_le (Nat.le_of_lt_succ P)with C|rfl
  .exact w9 _ _ _ (W b a C z) o
  .exact o
 have j:∀a,a<α c->c7 (c.getD a default).name d=θ->∀b,b<α c->a<=b->c7 (c.getD b default).name d=false:=λa z o b P w=>by
  grind
 refine aL hm Tb ?_;refine gX [0,1,2,8] (λh:Nat×Nat=>[(9,.v (.int .i64 h.1)),(10,.v (.int .i64 h.2))]) (λh=>h.1<=h.2/\h.2<=α c/\(∀b<h.1,c7 (c.getD b default).name d=ζ)/\∀b<α c,h.2<=b->c7 (c.getD b default).name d=θ) (λh=>h.2 - h.1) (0,α c) ⟨acr,acr,λb o=>by simp at o,λb o x=>by simp at x;omega⟩ aR ?_;rintro⟨a,b⟩ ⟨C,x,D,E⟩ A
 dsimp only at C x D E|-
 have B:br .shr (.int .u64 ((a)+(b))) (.int .u64 1)=β (.int .u64 (((a+b)/2:Nat))):=by rw[show(a)+(b)=((a+b:Nat):Int) by omega,sS _ _ _ acq acq];rfl
 by_cases H:(a:Int)<b
 .obtain⟨T,l,k,m,n,q⟩:=el ((a+b)/2) acq;have s:=i ((a+b)/2) acq;have t:=j ((a+b)/2) acq;generalize I:(a+b)/2=S at*;refine aa ?_;refine mB (GA _ T k d p r L) ?_;refine aG (λF=>?_) λF=>?_
  .exact⟨(S+1,b),⟨by simp only;omega,by simp only;omega,s (GB.1 F),E⟩,⟨rfl,rfl⟩,by simp only;omega⟩
  .exact⟨(a,S),⟨by simp only;omega,by simp only;omega,D,t (by simpa[GB] using F)⟩,⟨rfl,rfl⟩,by simp only;omega⟩
 .obtain rfl:a=b:=acq;have K:Place c d a:=⟨x,D,E⟩;by_cases c2:(a:Int)<α c
  .obtain⟨T,l,k,m,n,q⟩:=el a acq;refine aa ?_;refine mB (GA _ T k d p r L) ?_;grind[a3V]
  .refine aa ?_;grind
def a3X(b:List aK)(d:Ψ)(x:Own)(c:Υ)(y:aB dJ b d)(z:α b<=1000000)(C:∀a h,a<h->h<α b->c7 (b.getD a default).name (b.getD h default).name=ζ)(k:U):
  AC γ 178 [.J d x,bc c] k λo p=>p=k/\∃a,Place b c a/\o=.aJ [.v (.int .i64 (a:Int)),.v (.bool (decide (a<α b)&&decide ((b.getD a default).name=c)))]:=by
 refine aL hm Qc ?_;refine ag (Y:=λo p=>p=k/\∃a,Place b c a/\o=.aJ [.v (.int .i64 (a)),.v (.bool (decide (a<α b)&&decide ((b.getD a default).name=c)))]) ?_ ?_
 .refine aL hm RE ?_;refine bp λD E=>?_;refine ag (a3W b d x c y z C _ D (U.CZ)) ?_;rintro _ _⟨rfl,a,r,rfl⟩;refine aa ?_;exact⟨a,r,rfl⟩
 .rintro _ _⟨rfl,a,r,rfl⟩;refine aa ?_;exact⟨a,r,rfl⟩
abbrev eV:Ψ:=bc []::.J [] .nil::(ab aw .nil .nil .nil++ab aw .nil .nil .nil)
def jG:([R.v (.string ⟨#[]⟩)]++[R.J [] .nil]++δ 32 (R.v (.int .u8 0))++[R.J [] .nil,.J [] .nil]++[R.v (.int .i64 0),.v (.int .i64 0)]++[R.J [] .nil]++δ 32 (R.v (.int .u8 0))++[R.J [] .nil,.J [] .nil]++[R.v (.int .i64 0),.v (.int .i64 0)]++[R.J [] .nil])=eV:=by have:=cr;rfl
def gS:eL ⟨[],[],aw,aw⟩ eV:=⟨⟨.nil,_,_,_,_,_,_,rfl⟩,⟨bm,qg⟩,⟨bm,qg⟩,acr⟩
theorem ps(a:eL e8 g):α g=76/\g.take 76=g/\putAt eV 0 g=g/\(eV).length=76:=by have b:=a.all.1;have c:=gS.all.1;grind[rf]
theorem GC{c:Type}{y:c}{d:c->Bool}:∀ {b:List c}{h:Nat}{a:c},b[h]?=β a->d a=ζ->(∀o<h,d (b.getD o y)=θ)->b.find? d=β a
 |[],h,a,k,_,_=>by simp at k
 |p::b,0,a,k,r,_=>by simp_all
 |p::b,h+1,a,k,r,x=>by
  have z:d p=false:=x 0 acq;rw[List.find?_cons,z];exact GC (by trivial) r λo k=>x (o+1) acq
theorem a3Y{c:b2}{b:b2->Bool}{a:List b2}(k:∀d<α a,b (a.getD d c)=θ):a.find? b=none:=by rw[List.find?_eq_none];intro o h;obtain⟨p,r,rfl⟩:=a8S h;simp_all
def Found(c:List aK)(d:Υ)(b:R):Prop:=match c.find? (λa=>decide (a.name=d))with
 |some a=>∃T,eL a T/\b=.aJ [.agg T,.v (.bool ζ)]
 |none=>b=.aJ [.agg eV,.v (.bool θ)]
theorem find_spec(b:List aK)(C:Ψ)(P:Own)(o:Υ)(D:aB dJ b C)(m:α b<=1000000)(c:U):
  AC γ 149 [.J C P,bc o] c λS p=>p=c/\Found b o S:=by
 have n:=D.len;have q:=λV=>@rl V o;have s:=jG;refine aL hm Pn ?_;refine bp λh W=>?_;rw[jG];have r:c.sub (c.set h (.cells eV)):=κ η W;have E:(c.set h (.cells eV)) h=β (.cells eV):=μ _ _ _;generalize c.set h (.cells eV)=e at*;obtain⟨_,_,_,t⟩:=ps gS;have u:=(ps gS).2.2.1;have v:=gS.all.2.1;refine cd [1,4,8,9] (λa:Nat=>[(10,.v (.int .i64 a))]) (λa p=>e.sub p/\a<=α b/\∀d<a,(b.getD d default).name≠o) (λa=>α b - a) 0 ⟨⟨η,acq,λd w=>by omega⟩,aR⟩ ?_;rintro a A⟨k,B,x⟩H;have I:=τ (k _ _ E);refine aa ?_;refine aG (λf=>?_) λf=>?_
 .have F:b[a]?=β (b.getD a default):=by simp_all
  obtain⟨_,K,T,rfl,G⟩:=D.get F;generalize g:b.getD a default=M at*;obtain⟨i,N,O,_⟩:=ps G;have Q:=G.all.2.2.1;have X:=lC (n:=.agg T) i;refine aa ?_;refine aN λj y=>?_;have l:h≠j:=by rintro rfl;rw[k _ _ E]at y;cases y
  have Y:=Δ l;refine aa ?_;refine aG (λz=>?_) λz=>?_
  .refine⟨κ (ο r k) (Ι (ο r k) y),?_⟩;rw[Found,GC F (by simp[z]) λd L=>by simpa using x d L];simp_all
  .exact⟨a+1,⟨acq,upto x (by rw[g];exact z)⟩,rfl,acq⟩
 .refine⟨ο r k,?_⟩;rw[Found,a3Y λd L=>by simpa using x d acq]
end Go.Proofs.YtkafjfkjahgihaaGreat
