import Derived.Test.YtcfpcblgmmeioaaGreatMF
import Derived.Test.YtcfpcblgmmeioaaGreatMD
import Derived.Test.YtcfpcblgmmeioaaGreatME
import Derived.Test.YtcfpcblgmmeioaaGreatMC
set_option linter.all false
open Option renaming some->β,none->ζ
open Go.Proofs.Tryz renaming prog->γ
open List renaming replicate->ε,zipWith->ψ,range->ω,length_append->Β,take_of_length_le->Ε,drop_eq_getElem_cons->Ν,length->α
open Bool renaming true->η,false->ι
open Go.bD.U renaming a6->θ,ae->κ,ag->μ,ai->ξ,an->ο,au->π,set_set->τ,aI->χ,bK->Ο
open UInt8 renaming ofNat->ν
open BitVec renaming ofInt->ρ
open Go.bD.R renaming cells->σ
open Go.Proofs.YtcfpcblgmmeioaaGreat.isRow renaming cells->φ
open Go.Proofs.YtcfpcblgmmeioaaGreat.Ext renaming of->Α
open Go.Proofs.YtcfpcblgmmeioaaGreat.bB renaming cells->Ξ
set_option maxRecDepth 100000
namespace Go.bD
open Go
theorem a1K(a:Nat)(c:a<18446744073709551616):a^^^9223372036854775808=(a+9223372036854775808)%18446744073709551616:=by
 have h:(9223372036854775808)=2^63:=Θ;have d:(18446744073709551616)=2^64:=Θ;rw[d]at c;rw[h,d];apply a9O;intro b;rw[aax,abu,aaZ,aaQ];by_cases h1:b<63
 .rw[aaG h1];grind
 .by_cases k:b=63;grind
  .have o:¬b<64:=δ;have p:a.testBit b=false:=a9r (a8z c (a9e δ δ));grind
end Go.bD
namespace Go.Proofs.YtcfpcblgmmeioaaGreat
open Go Go.bD
theorem a1L(a:Int):IntKind.u64.wrap (IntKind.u64.wrap a+9223372036854775808)=(cq a:Int):=by grind[kB,ρ,BitVec.toNat_ofInt,cq,BitVec.toNat_xor,a1K]
theorem a1M(b:Int)(k:U):
  AC γ 247 [.v (.int .i64 b)] k λE h=>av k h 1 ((ik b).map aj) E:=by
 refine bd hm Sl ς ?_;refine aG (aE @a1L @ba @bb) ?_;have F:cq b<18446744073709551616:=(ρ 64 b^^^ρ 64 9223372036854775808).isLt;have G:ik b=cG (cq b):=rfl;rw[G];generalize cq b=c at*;refine xz (e:=8) δ δ λo p=>?_;refine aG (c2 @ba @bb) ?_;refine cm (λd h=>∃a:Nat,a<=8/\h=k.set o (.cells (ε (8 - a) (aj 0)++((cG c).drop (8 - a)).map aj))/\d 4=.aq o 8 8 1/\d 3=.v (.int .u64 ((c/256^a:Nat)))/\d 5=.v (.int .i64 (7 -(a))))
  (λd _=>match d 5 with|.v (.int _ b)=>(b+8).toNat|_=>0) ⟨0,δ,?_⟩ ?_
 .refine aG (c2 @ba @bb) ?_
  try (simp;try rfl)
 .rintro d h⟨a,T,rfl,r,x,y⟩;by_cases z:(0)<=7 -(a:Int)
  .have L:c/256^a<18446744073709551616:=Nat.lt_of_le_of_lt (aac _ _) F;have C:=a1J (c/256^a) 256 L δ;have D:=za (c/256^a) 256 δ;have P:((256:Nat):Int)=256:=rfl;rw[P]at C D;have S:(ε (8 - a) (aj 0)++((cG c).drop (8 - a)).map aj).length=8:=by
    have:(cG c).length=8:=rfl;simp[this]
    try omega
   refine aG (cg @x @r @y @z @C @D @iK @S @ba @bb) ?_;refine⟨⟨a+1,δ,?_,?_,by(congr 2;try omega)⟩,δ⟩
   .congr 2;have zb:ν (c/256^a%256)=ν (c>>>(8*a)):=by grind[UInt8.toNat_inj,UInt8.toNat_ofNat',Nat.shiftRight_eq_div_pow,Nat.pow_mul]
    rw[zb];rcases(by omega:a=0\/a=1\/a=2\/a=3\/a=4\/a=5\/a=6\/a=7)with rfl|rfl|rfl|rfl|rfl|rfl|rfl|rfl<;>rfl
   .rw[Nat.div_div_eq_div_mul,<-aaS]
  .obtain rfl:a=8:=δ;refine aG (bz @x @r @y @z @ba @bb) ?_;refine⟨_,θ,μ θ p,.inr ⟨o,8,8,_,rfl,p,ξ _ _ _,rfl,rfl,rfl,δ,Θ⟩⟩
def a1N(b:Bool)(d:U):
  AC γ 190 [.v (.bool b)] d λh k=>av d k 1 ([if b then(1:UInt8)else 0].map aj) h:=by
 refine bd hm QP ς ?_;cases b
 .refine aG (c2 @ba @bb) ?_;refine eQ (by simp[aY,σ]) ς λc a=>?_;refine aG (c2 @ba @bb) ?_;exact⟨_,θ,μ θ a,.inr ⟨c,1,1,_,rfl,a,ξ _ _ _,rfl,rfl,rfl,δ,Θ⟩⟩
 .refine aG (c2 @ba @bb) ?_;refine eQ (by simp[aY,σ]) ς λc a=>?_;refine aG (c2 @ba @bb) ?_;exact⟨_,θ,μ θ a,.inr ⟨c,1,1,_,rfl,a,ξ _ _ _,rfl,rfl,rfl,δ,Θ⟩⟩
structure zc where
 o:iO
 st:Int
 y6:Bool
 a:iO
 b:iO
def zc.ok(a:zc):Prop:=a.o.ok/\a.a.ok/\a.b.ok
section
variable{F:zc}(h:F.ok)
include h
end
def FH(b:Nat)(d:U)(r:b<=1000000000000):AC γ 192 [.v (.int .i64 (b:Int))] d λk h=>fO d h (fp b) k:=by
 have x:∀a:Nat,(a:Int).tdiv 65536=((a/65536:Nat)):=λ_=>rfl;have y:∀a:Nat,(a:Int).tdiv 256=((a/256:Nat)):=λ_=>rfl;have z:∀a:Nat,(a:Int).tmod 256=((a%256:Nat)):=λ_=>rfl;have C:=λa=>iK a;refine aK hm QT ?_;have o:fp b=[ν (b/65536%256),ν (b/256%256),ν (b%256)]:=by have a:∀c,ν (c%256)=ν c:=λc=>a8j.1 ς;simp only[fp,a8e,a]
 rw[o];refine uI [_,_,_] (λD h p _=>?_);exact⟨_,θ,p⟩
theorem vz(a:Ω)(p:Own)(k:U)(D:α a<=1000000):AC γ 191 [.J (ad a) p] k λd o=>fO k o (dE a) d:=by
 have E:=λr=>iK r;have F:=bN (q:=a);refine aK hm QR ?_;refine uI [ν (α a)] (λd G L _=>?_);refine cc [0] (λb:Nat×R=>[(4,.v (.int .i64 b.1)),(3,b.2)]) (λb o=>b.1<=α a/\fO k o (ν (α a)::(a.take b.1).flatMap ik) b.2) (λb=>α a - b.1) (0,d) ⟨⟨δ,by trivial⟩,aO⟩ ?_;rintro⟨c,d⟩ P ⟨x,h⟩ S
 dsimp only at x h|-
 have T:=@dU a;refine aa ?_;refine aF (λy=>?_) λy=>?_
 .refine ie (a1M _ _) λV W z=>?_;have e:=oB (a.take c);have f:(a.take c).length=c:=Μ;have g:∀C,(ik C).length=8:=λ_=>rfl;refine nu h z λa4 i j _=>?_;refine⟨(c+1,a4),⟨by simp only;omega,?_⟩,⟨rfl,rfl⟩,by simp only;omega⟩;grind[eX]
 .obtain rfl:c=α a:=δ;rw[a7K]at h;exact⟨_,θ,h⟩
structure aU where
 name:ϊ
 aD:List ϊ
 bf:ao
 bm:ao
 deriving DecidableEq
instance:Inhabited aU:=⟨⟨[],[],az,az⟩⟩
structure eL(t:aU)(T:ύ):Prop where
 e:∃gD gT eK a nO nP b,T=bo t.name::.J (bM t.aD) gD::(ab t.bf gT eK a++ab t.bm nO nP b)
 k:α t.bf.sum=32/\t.bf.cC
 z:α t.bm.sum=32/\t.bm.cC
 c:α t.aD<=1000000
def ed(a:aU)(b:R):Prop:=∃T,b=.agg T/\eL a T
variable{g H c0:ύ}{e9:aU}
theorem eL.all(x:eL e9 g):α g=76/\g.take 76=g/\aM ι 1 g=bo e9.name/\∃o a b c d h k,aM ι 1 (g.drop 1)=.J (bM e9.aD) o/\(g.drop 2).take 37=ab e9.bf a b c/\(g.drop 39).take 37=ab e9.bm d h k:=by obtain⟨⟨o,a,b,c,d,h,k,rfl⟩,⟨y,_⟩,⟨z,_⟩,_⟩:=x;have p:=(aP (N:=a) (e6:=b) (h6:=c) y).len;have r:=(aP (N:=d) (e6:=h) (h6:=k) z).len;refine⟨by simp[p,r],Φ (by simp[p,r]),rfl,o,a,b,c,d,h,k,rfl,?_,?_⟩;simp_all;grind
def a1O(a:UInt32):bt .mul (.int .u32 256) (.int .u32 a.toNat)=β (.int .u32 (256*a).toNat):=CK (x:=256) (y:=a)
def q9(a:UInt32):bt .sub (.int .u32 4294967295) (.int .u32 a.toNat)=β (.int .u32 (~~~a).toNat):=by
 have b:=CJ (x:=4294967295) (y:=a);have c:(4294967295) - a= ~~~a:=by apply UInt32.toNat_inj.1;rw[UInt32.toNat_sub,UInt32.toNat_not];have:=a.toNat_lt;simp;omega
 rw[c]at b;exact b
theorem tt(a:UInt32):bt .quo (.int .u32 a.toNat) (.int .u32 8)=β (.int .u32 (a>>>3).toNat):=by have b:=a.toNat_lt;grind[Int.tdiv,Int.tdiv_eq_ediv_of_nonneg,UInt32.toNat_shiftRight,Nat.shiftRight_eq_div_pow,bt,fy,hT,qS]
theorem tu(a:UInt32):bt .quo (.int .u32 a.toNat) (.int .u32 1024)=β (.int .u32 (a>>>10).toNat):=by have b:=a.toNat_lt;grind[Int.tdiv,Int.tdiv_eq_ediv_of_nonneg,UInt32.toNat_shiftRight,Nat.shiftRight_eq_div_pow,bt,fy,hT,qS]
theorem mH(c:UInt32)(d:Int)(a:Nat)(r:0<a/\a<32)(h:d=((32 - a:Nat):Int))(b:U):AC γ 322 [.v (.int .u32 c.toNat),.v (.int .u64 d)] b λk o=>o=b/\k=.v (.int .u32 (rotl c a).toNat):=by
 subst h;have p:bt .sub (.int .u64 32) (.int .u64 ((32 - a:Nat)))=β (.int .u64 (a)):=by grind[bt,fy,hT,kB]
 refine bd hm U6 ς ?_;simp -dsimp -implicitDefEqProofs (disch:=first|omega|assumption|(simp only[aW,Nat.reduceAdd];try omega)) only[↓hZ,ia,al,ofConst,cv,simprocAttr,eP,ba,bb,a8G,↓sw,sx,ne_eq,not_true_eq_false,not_false_eq_true,Int.reduceNe,a9c,a9n,p];refine⟨b,θ,rfl,?_⟩;simp only[rotl];rw[UInt32.or_comm]
def a1P(a:U):AC γ 246 [] a λc d=>∃b,a b=ζ/\c=.aq b 64 64 1/\d=a.set b (.cells (wl nx)):=by refine bd hm Sj ς ?_;simp -dsimp -implicitDefEqProofs (disch:=first|omega|assumption|(simp only[aW,Nat.reduceAdd];try omega)) only[↓hZ,ia,al,ofConst,cv,simprocAttr,eP,ba,bb,a8G,↓sw,sx,ne_eq,not_true_eq_false,not_false_eq_true,Int.reduceNe,a9c,a9n];refine eQ (by simp[aY,σ]) ς λh k=>?_;simp -dsimp -implicitDefEqProofs (disch:=first|omega|assumption|(simp only[aW,Nat.reduceAdd];try omega)) only[↓hZ,ia,al,ofConst,cv,simprocAttr,eP,ba,bb,a8G,↓sw,sx,ne_eq,not_true_eq_false,not_false_eq_true,Int.reduceNe,a9c,a9n];refine⟨_,θ,h,k,rfl,?_⟩;rfl
variable{h7:ό}
def vA:(wl h7++g).length=α h7+α g:=by simp[wl]
variable{e i v M b9 j1:Nat}
theorem mI(a:e<α h7):aM ι 1 ((wl h7++g).drop e)=.v (.int .u32 (h7.getD e 0).toNat):=by grind[wl,aM,List.map_drop,Ν,List.getD]
def qa(a:0<α h7):aM ι 1 (wl h7++g)=.v (.int .u32 (h7.getD 0 0).toNat):=mI (e:=0) a
theorem a1Q(a:UInt32)(b:e<α h7):putAt (wl h7++g) e [.v (.int .u32 a.toNat)]=wl (h7.set e a)++g:=by rw[<-Dn a b,putAt,putAt];grind[wl,eT,List.length_singleton]
def rv(a:ϊ)(b:Nat):Nat->UInt32
 |0=>0
 |c+1=>256*rv a b c+(a.getD (4*b+c) 0).toUInt32
def zd(a b c:Nat)(d:b<2^c):a*2^c|||b=a*2^c+b:=by have:=a9X (a:=a) d;rw[a9G]at this;omega
def a1R(b a c d:Nat)(h:a<256)(k:c<256)(o:d<256):b*2^24|||a*2^16|||c*2^8|||d=((b*256+a)*256+c)*256+d:=by
 rw[zd b (a*2^16) 24 δ,show b*2^24+a*2^16=(b*256+a)*2^16 by omega,zd (b*256+a) (c*2^8) 16 δ,
  show(b*256+a)*2^16+c*2^8=((b*256+a)*256+c)*2^8 by omega,zd _ d 8 δ]
 all_goals omega
def a1S(a b c d:UInt8):(256:UInt32)*((256:UInt32)*((256:UInt32)*((256:UInt32)*(0:UInt32)+a.toUInt32)+b.toUInt32)+c.toUInt32)+d.toUInt32=a.toUInt32<<<24|||b.toUInt32<<<16|||c.toUInt32<<<8|||d.toUInt32:=by
 have z:=a.toNat_lt;have h:=b.toNat_lt;have k:=c.toNat_lt;have o:=d.toNat_lt;apply UInt32.toNat_inj.1;have p:(a.toUInt32<<<24).toNat=a.toNat*2^24:=by rw[UInt32.toNat_shiftLeft];simp[a9G];omega
 have r:(b.toUInt32<<<16).toNat=b.toNat*2^16:=by rw[UInt32.toNat_shiftLeft];simp[a9G];omega
 have x:(c.toUInt32<<<8).toNat=c.toNat*2^8:=by rw[UInt32.toNat_shiftLeft];simp[a9G];omega
 have y:d.toUInt32.toNat=d.toNat:=ς;rw[UInt32.toNat_or,UInt32.toNat_or,UInt32.toNat_or,p,r,x,y,a1R _ _ _ _ h k o];simp only[UInt32.toNat_add,UInt32.toNat_mul,UInt8.toNat_toUInt32,UInt32.reduceToNat];omega
def a1T(a:ϊ)(b:Nat):rv a b 4=word a b:=a1S _ _ _ _
def a1U(b:α h7<64):et (h7++[0])=et h7:=by have a:64 - α h7=(64 -(α h7+1))+1:=δ;simp only[et,a,a9D];simp
def a1V{b:UInt32}(a:UInt32)(c:e=α h7)(d:α h7<64):putAt (et (h7++[b])) e [.v (.int .u32 a.toNat)]=et (h7++[a]):=by subst c;simp[putAt,et,a8P]
variable{n b5:R}{f s e0:U}
def FI{v:ό}(c:av f s 1 (wl v) n)(o:v≠[]):∃a b d,n=.aq a (α v) b 1/\f a=ζ/\s a=β (.cells (wl v++d))/\α v+α d=b/\b<=maxLen:=by
 obtain⟨_,c|⟨a,C,b,p,rfl,r,x,y,h,k,D,z⟩⟩:=c
 .exact absurd (by simpa[wl] using c.1) o
 .simp only[a8g,eT]at y h k;subst k;refine⟨a,b,p.drop (α v),rfl,r,?_,?_,z⟩
  .rw[<-h,a7V];exact x
  .simp;omega
theorem a1W(r F:ό)(y:ϊ)(n:α r=8)(a04:α F=64)(D S:Nat)(k1:ύ)(w A:Nat)(k6:ύ)(L:Nat)(z:U)
  (k7:z D=β (.cells (wl r++k1))) (k8:z w=β (.cells k6)) (a52:A+64<=α k6) (a05:∀k9,k9<64->aM ι 1 (k6.drop (A+k9))=.v (.int .u8 (y.getD k9 0).toNat)) (l0:z L=β (.cells (wl F))):
  AC γ 291 [.aq D 8 S 1,.bE w A 64 e 1,.aq L 64 64 1] z λa06 E=>av z E 1 (wl (ψ (·+ ·) (iN F (sched y) r) r)) a06:=by
 refine bd hm Tq ς ?_;refine aG (c2 @ba @bb) ?_;refine xz (e:=64) δ δ λx k2=>?_;have a07:D≠x:=by rintro rfl;rw[k2]at k7;cases k7
 have l5:w≠x:=by rintro rfl;rw[k2]at k8;cases k8
 have a08:L≠x:=by rintro rfl;rw[k2]at l0;cases l0
 have a09:(ε 64 [R.v (.int .u32 0)]).flatten=et (first y 0):=rfl;rw[a09];refine aG (c2 @ba @bb) ?_;refine cm (λb E=>∃a:Nat,a<=16/\E=z.set x (.cells (et (first y a)))/\b 0=.aq D 8 S 1/\b 1=.bE w A 64 e 1/\b 2=.aq L 64 64 1/\b 7=.aq x 64 64 1/\b 8=.v (.int .i64 a))
  (λb _=>match b 8 with|.v (.int _ d)=>(16 - d).toNat|_=>0) ⟨0,δ,?_⟩ ?_
 .exact gQ (c2 @ba @bb)
 .rintro b _⟨a,l1,rfl,c,k3,h,k,k4⟩;have l2:(first y a).length=a:=by simp[first]
  by_cases o:(a:Int)<16
  .rw[<-a1U δ];refine aG (bw @c @k3 @h @k @k4 @o @ba @bb) ?_;refine cm (λb E=>∃d:Nat,d<=4/\E=z.set x (.cells (et (first y a++[rv y a d])))/\b 0=.aq D 8 S 1/\b 1=.bE w A 64 e 1/\b 2=.aq L 64 64 1/\b 7=.aq x 64 64 1/\b 8=.v (.int .i64 a)/\b 9=.v (.int .i64 d))
    (λb _=>match b 9 with|.v (.int _ d)=>(4 - d).toNat|_=>0) ⟨0,δ,?_⟩ ?_
   .refine aG (c7 @c @k3 @h @k @k4 @ba @bb) ?_;rfl
   .rintro q _⟨d,a56,rfl,l6,l7,l8,l9,n0,n1⟩;by_cases n2:(d:Int)<4
    .have T:(et (first y a++[rv y a d])).length=64:=sG (by simp[l2];omega);have a10:aM ι 1 ((et (first y a++[rv y a d])).drop a)=.v (.int .u32 (rv y a d).toNat):=by grind[lC,List.getD]
     have l3:(4*(a)+(d:Int)).toNat=4*a+d:=δ;have a11:=a05 (4*a+d) δ;refine aG (D9 @l6 @l7 @l8 @l9 @n0 @n1 @n2 @T @a10 @ui @l3 (κ k8) (Ι l5) @l5 @a11 @a1O @ba @bb) ?_;rw[a1V _ l2.symm δ];exact⟨⟨d+1,δ,rfl,ς⟩,δ⟩
    .obtain rfl:d=4:=δ;refine aG (cg @l6 @l7 @l8 @l9 @n0 @n1 @k4 @n2 @ba @bb) ?_;refine⟨⟨a+1,δ,?_,ς⟩,δ⟩;rw[a1T];simp only[first,ab3,a8l,a7C,a8K]
  .obtain rfl:a=16:=δ;refine aG (bw @c @k3 @h @k @k4 @o @ba @bb) ?_;refine cm (λb E=>∃(p:ό)(a:Nat),a<=48/\α p=16+a/\grow (48 - a) p=sched y/\b 0=.aq D 8 S 1/\b 2=.aq L 64 64 1/\b 7=.aq x 64 64 1/\b 10=.v (.int .i64 ((16+a:Nat)))/\E=z.set x (.cells (et p)))
    (λb _=>match b 10 with|.v (.int _ d)=>(64 - d).toNat|_=>0) ⟨first y 16,0,δ,l2,rfl,?_⟩ ?_
   .exact gQ (bz @c @k3 @h @k @ba @bb)
    all_goals rfl
   .rintro b _⟨p,a,l1,B,H,c,h,k,s,rfl⟩;by_cases o:((16+a:Nat):Int)<64
    .have T:(et p).length=64:=sG δ;have I:(((16+a:Nat):Int) - 15).toNat=a+1:=δ;have K:(((16+a:Nat):Int) - 2).toNat=a+14:=δ;have M:(((16+a:Nat):Int) - 16).toNat=a:=δ;have N:(((16+a:Nat):Int) - 7).toNat=a+9:=δ;refine aG (pH @c @h @k @s @o @I @K @M @N @T @lC @tt @tu @ba @bb) ?_;refine ah (mH _ _ 25 Θ Θ _) ?_;rintro _ _⟨rfl,rfl⟩;refine aG (pH @c @h @k @s @o @I @K @M @N @T @lC @tt @tu @ba @bb) ?_;refine ah (mH _ _ 14 Θ Θ _) ?_;rintro _ _⟨rfl,rfl⟩;refine aG (pH @c @h @k @s @o @I @K @M @N @T @lC @tt @tu @ba @bb) ?_;refine ah (mH _ _ 15 Θ Θ _) ?_;rintro _ _⟨rfl,rfl⟩;refine aG (pH @c @h @k @s @o @I @K @M @N @T @lC @tt @tu @ba @bb) ?_;refine ah (mH _ _ 13 Θ Θ _) ?_;rintro _ _⟨rfl,rfl⟩;refine aG (pH @c @h @k @s @o @I @K @M @N @T @lC @tt @tu @ba @bb) ?_;rw[xO _ B.symm δ];refine⟨⟨_,a+1,δ,by simp[B];omega,?_,?_,rfl⟩,δ⟩
     .rw[<-H,show 48 - a=(48 -(a+1))+1 by omega,grow,more,B];rw[show 16+a - 16=a by omega,show 16+a - 15=a+1 by omega,show 16+a - 7=a+9 by omega,show 16+a - 2=a+14 by omega];rfl
     .simp;omega
    .obtain rfl:a=48:=δ;have a13:p=sched y:=H;have a14:et p=wl p:=by simp[et,B,wl]
     rw[a14];clear H;generalize sched y=a57 at*;subst a13;have a15:bW (z.set x (.cells (wl p))) 1 (.aq D 8 S 1)=β (8,wl r):=by simp_all [ο,eT,bW,κ]
     refine aG (bw @c @h @k @s @o @oo @ba @bb) ?_;refine fj (av.zero θ) δ a15 (by rw[eT,n]) (by rw[eT,n];simp) (by rw[eT,n];simp) λa61 P t=>?_;rw[a7H]at t;refine aG (bh @c @h @k @ba @bb) ?_;have V:(wl F).length=64:=by rw[eT,a04]
     have W:(wl p).length=64:=by rw[eT,B]
     have a16:(z.set x (.cells (wl p))) L=β (.cells (wl F)):=by rw[ο _ _ a08];exact l0
     have a18:(z.set x (.cells (wl p))) x=β (.cells (wl p)):=ξ _ _ _;have l4:(z.set x (.cells (wl p))) D=β (.cells (wl r++k1)):=by rw[ο _ _ a07];exact k7
     have n3:z.sub (z.set x (.cells (wl p))):=μ θ k2;generalize z.set x (.cells (wl p))=a19 at*;refine cm (λb E=>∃(a:Nat)(v:ό),a<=64/\α v=8/\iN (F.drop a) (p.drop a) v=iN F p r/\av a19 E 1 (wl v) (b 13)/\b 0=.aq D 8 S 1/\b 2=.aq L 64 64 1/\b 7=.aq x 64 64 1/\b 14=.v (.int .i64 a))
      (λb _=>match b 14 with|.v (.int _ d)=>(64 - d).toNat|_=>0) ⟨0,r,δ,n,rfl,?_⟩ ?_
     .refine aG (bh @c @h @k @ba @bb) ?_;exact t
     clear t;rintro b P⟨a,v,l1,u,H,t,c,h,k,G⟩;have f:=t.1;obtain⟨k5,n4,O,C,n5,mu,a27,a29⟩:=FI t (by intro g;rw[g]at u;cases u);rw[u]at C a27;by_cases o:(a:Int)<64
     .obtain⟨Q,X,Y,Z,g,j9,q,k0,rfl⟩:∃Q X Y Z g j9 q k0,v=[Q,X,Y,Z,g,j9,q,k0]:=by
       match v,u with
       |[Q,X,Y,Z,g,j9,q,k0],_=>simp
      have i:(wl [Q,X,Y,Z,g,j9,q,k0]++O).length=8+α O:=by rw[vA,u]
      have j:=κ mu;have l:=κ (f _ _ a18);have m:=κ (f _ _ a16);refine aG (ou @c @h @k @C @G @o @i @j @l @m @mI @qa @hI @V @W @q9 @a7W.{0} @a7Z.{0} @ba @bb) ?_;refine ah (mH _ _ 26 Θ Θ _) ?_;rintro _ P⟨rfl,rfl⟩;refine aG (ou @c @h @k @C @G @o @i @j @l @m @mI @qa @hI @V @W @q9 @a7W.{0} @a7Z.{0} @ba @bb) ?_;refine ah (mH _ _ 21 Θ Θ _) ?_;rintro _ P⟨rfl,rfl⟩;refine aG (ou @c @h @k @C @G @o @i @j @l @m @mI @qa @hI @V @W @q9 @a7W.{0} @a7Z.{0} @ba @bb) ?_;refine ah (mH _ _ 7 Θ Θ _) ?_;rintro _ P⟨rfl,rfl⟩;refine aG (ou @c @h @k @C @G @o @i @j @l @m @mI @qa @hI @V @W @q9 @a7W.{0} @a7Z.{0} @ba @bb) ?_;refine ah (mH _ _ 30 Θ Θ _) ?_;rintro _ P⟨rfl,rfl⟩;refine aG (ou @c @h @k @C @G @o @i @j @l @m @mI @qa @hI @V @W @q9 @a7W.{0} @a7Z.{0} @ba @bb) ?_;refine ah (mH _ _ 19 Θ Θ _) ?_;rintro _ P⟨rfl,rfl⟩;refine aG (ou @c @h @k @C @G @o @i @j @l @m @mI @qa @hI @V @W @q9 @a7W.{0} @a7Z.{0} @ba @bb) ?_;refine ah (mH _ _ 10 Θ Θ _) ?_;rintro _ P⟨rfl,rfl⟩;refine aG (ou @c @h @k @C @G @o @i @j @l @m @mI @qa @hI @V @W @q9 @a7W.{0} @a7Z.{0} @ba @bb) ?_;refine eQ (by simp[aY,σ]) ς λa30 n9=>?_;refine aG (bz @c @h @k @G @ba @bb) ?_;refine⟨⟨a+1,sH (F.getD a 0) (p.getD a 0) [Q,X,Y,Z,g,j9,q,k0],δ,rfl,?_,?_,ς⟩,δ⟩;grind[Ds]
      .exact⟨μ f (Ο f n9),.inr ⟨a30,8,8,_,rfl,Ο f n9,ξ _ _ _,rfl,rfl,rfl,δ,Θ⟩⟩
     .obtain rfl:a=64:=δ;have a34:iN F p r=v:=by rw[<-H,a8N δ];rfl
      refine aG (bw @c @h @k @C @G @o @ba @bb) ?_;have a00:D≠k5:=by rintro rfl;rw[n5]at l4;cases l4
      have a01:=Ο n3 n5;have a36:=f _ _ l4;refine cm (λb E=>∃a:Nat,a<=8/\b 0=.aq D 8 S 1/\b 13=.aq k5 8 n4 1/\b 19=.v (.int .i64 a)/\E=P.set k5 (.cells (wl (jU a v r)++O)))
       (λb _=>match b 19 with|.v (.int _ d)=>(8 - d).toNat|_=>0) ⟨0,δ,?_⟩ ?_
      .have l3:jU 0 v r=v:=rfl;rw[l3,U.pO mu];exact gQ (aL @c @C @ba @bb)
      .rintro b _⟨a,l1,c,C,a02,rfl⟩;by_cases o:(a:Int)<8
       .obtain⟨a38,a42⟩:=Dq v r u n a δ;have a43:(wl (jU a v r)++O).length=8+α O:=by rw[vA,a38]
        have a47:(wl r++k1).length=8+α k1:=by rw[vA,n]
        refine aG (gr @c @C @a02 @o @a43 @a47 @mI @a1Q @a42 (κ a36) @a00 (Ι a00) @ba @bb) ?_;grind
       .obtain rfl:a=8:=δ;have a48:jU 8 v r=ψ (·+ ·) v r:=by grind[jU,Ε,List.drop_of_length_le]
        have a03:(wl (ψ (·+ ·) v r)).length=8:=by rw[eT];simp;omega
        rw[a48];refine aG (bz @c @C @a02 @o @ba @bb) ?_;rw[a34];refine⟨_,θ,μ (π n3 f) a01,.inr ⟨k5,8,n4,_,rfl,a01,ξ _ _ _,?_,?_,by rw[a03],δ,a29⟩⟩
        .rw[Ψ,a03];omega
        simp_all
def a1X(b:ό)(h:ϊ)(z:α b=8)(k x:Nat)(y:ύ)(o c:Nat)(d:ύ)(p:Nat)(a:U)
  (C:a k=β (.cells (wl b++y))) (D:a o=β (.cells d)) (E:c+64<=α d) (F:∀r,r<64->aM ι 1 (d.drop (c+r))=.v (.int .u8 (h.getD r 0).toNat)) (G:a p=β (.cells (wl nx))):
  AC γ 291 [.aq k 8 x 1,.bE o c 64 e 1,.aq p 64 64 1] a λL P=>av a P 1 (wl (comp b h)) L:=
 a1W b nx h z rfl k x y o c d p a C D E F G
end Go.Proofs.YtcfpcblgmmeioaaGreat
namespace Go.bD
open Go
variable{n b5:R}{f s e0:U}{e i v M b9 j1:Nat}
theorem ze{h:Nat×ύ}(k:f.sub s)(o:bW f e n=β h):bW s e n=β h:=by
 have p:∀b c,f.read b=β c->s.read b=β c:=by
  intro b c a;unfold U.read at a|-;cases d:f b with
  |none=>rw[d]at a;cases a
  |some r=>rw[k _ _ d];rw[d]at a;exact a
 unfold bW at o|-;grind
end Go.bD
namespace Go.Proofs.YtcfpcblgmmeioaaGreat
open Go Go.bD
def kT(a:ϊ):ϊ:=a++128::ε (eu (α a)) 0++cG (8*α a)
def zf(a:ϊ):(kT a).length=α a+9+eu (α a):=by simp[kT,cG];omega
def a1Y(a:ϊ):(kT a).length%64=0:=by rw[zf];unfold eu;omega
theorem a1Z(a:ϊ):fm a=ev (blocks ((kT a).length/64) gw (kT a)):=by
 have c:=zf a;have d:eu (α a)<64:=by unfold eu;omega
 have b:kT a=a++(128::ε (eu (α a)) 0++cG (8*α a)):=by simp[kT]
 have h:jr (α a) (a.drop (64*(α a/64)))=(kT a).drop (64*(α a/64)):=by rw[b,a8U δ];simp[jr]
 have k:(kT a).length/64=α a/64+((kT a).drop (64*(α a/64))).length/64:=by rw[a7F];omega
 grind[fm,Dv,Dw]
theorem FJ(b a:Nat)(d:a<8):(cG b).take a++[ν (b>>>(56 - 8*a)%256)]=(cG b).take (a+1):=by
 have c:ν (b>>>(56 - 8*a)%256)=ν (b>>>(56 - 8*a)):=by grind[UInt8.toNat_inj,UInt8.toNat_ofNat']
 rw[c];rcases(by omega:a=0\/a=1\/a=2\/a=3\/a=4\/a=5\/a=6\/a=7)with rfl|rfl|rfl|rfl|rfl|rfl|rfl|rfl<;>rfl
def zb(a:UInt32)(b:Nat):ν ((a>>>UInt32.ofNat b).toNat%256)=(a>>>UInt32.ofNat b).toUInt8:=by apply a8j.1;rw[a8p];simp
theorem a2a(c:ό)(k:α c=8)(d:Nat)(p:d<32):(ev c).take d++[ν ((c.getD (d/4) 0>>>UInt32.ofNat (24 - 8*(d%4))).toNat%256)]=(ev c).take (d+1):=by
 rw[zb];have o:∀h:UInt32,(h>>>UInt32.ofNat 0).toUInt8=h.toUInt8:=by intro h;simp
 have r:∀a:Nat,a<8->∀b:Nat,b<4->(ev c).take (4*a+b)++[(c.getD a 0>>>UInt32.ofNat (24 - 8*b)).toUInt8]=(ev c).take (4*a+b+1):=by
  match c,k with
  |[x,y,z,C,D,E,F,G],_=>
   intro a L b P;rcases(by omega:a=0\/a=1\/a=2\/a=3\/a=4\/a=5\/a=6\/a=7)with rfl|rfl|rfl|rfl|rfl|rfl|rfl|rfl<;>
    rcases(by omega:b=0\/b=1\/b=2\/b=3)with rfl|rfl|rfl|rfl<;>first|rfl|(simp only[a7W,a7Z,Nat.reduceMul,Nat.reduceSub,o];rfl)
 grind
variable{f s e0:U}{e i v M b9 j1:Nat}
def vB{a:UInt8}:bW (f.set e (.cells (flat [.v (.int .u8 (a.toNat:Int))]))) 1 (.aq e 1 1 1)=β ([a].length,[a].map aj):=by simp[bW,κ (ξ _ _ _),flat,σ,aj]
variable{g H c0:ύ}{w j4:ϊ}
theorem a2b(a:g.take (α w)=w.map aj)(b:e<α w):aM ι 1 (g.drop e)=.v (.int .u8 (w.getD e 0).toNat):=by grind[aj,List.take_append_drop,Ν,aM,List.getD]
def a2c(a:UInt32):bt .rem (.int .u32 (a.toNat:Int)) (.int .u32 256)=β (.int .u32 ((a.toNat%256:Nat):Int)):=by have b:bt .rem (.int .u32 (a.toNat)) (.int .u32 256)=(if(256:Int)=0 then ζ else β (.int .u32 ((a.toNat:Int).tmod 256))):=rfl;rw[b,if_neg Θ];rfl
variable{n b5:R}
theorem zg{v:ϊ}(d:av f s 1 (v.map aj) n)(h:v≠[]):∃a b c,n=.aq a (α v) b 1/\f a=ζ/\s a=β (.cells c)/\α c=b/\c.take (α v)=v.map aj/\α v<=b:=by
 obtain⟨_,d|⟨a,k,b,c,rfl,o,p,r,x,y,z,C⟩⟩:=d
 .simp_all
 grind
theorem a2d(F:ό)(k0:F=gw)(a:ϊ)(a42:α a<=1000000000)(W:R)(V:Nat)(G:U)(n5:bW G 1 W=β (α a,a.map aj))(n9:fi W=β (.v (.int .i64 (α a))))(a00:G V=β (.cells (wl nx))):
  AC γ 245 [W,.aq V 64 64 1] G λa01 D=>D=G/\a01=br (fm a):=by
 refine bd hm Sh ς ?_;refine ak (c2 @ba @bb) ?_;refine aN λE m=>?_;have a02:=ze (μ (θ) m) n5 (s:=G.set E (.cells (ε 32 (.v (.int .u8 0)))));have a03:=μ (θ) m (Y:=.cells (ε 32 (.v (.int .u8 0)))) _ _ a00;have a04:=μ (θ) m (Y:=.cells (ε 32 (.v (.int .u8 0))));have a05:(G.set E (.cells (ε 32 (.v (.int .u8 0))))) E=β (.cells (ε 32 (.v (.int .u8 0)))):=ξ _ _ _;refine ak (aE @oo @ba @bb) ?_;generalize G.set E (.cells (ε 32 (.v (.int .u8 0))))=w at*;refine ru (j4:=[]) (av.zero θ) a02 Μ λa43 a47 A=>?_;rw[a7H]at A;refine ak (c2 @ba @bb) ?_;refine eQ (by simp[aY,σ]) ς λk1 e=>?_;refine ak (c2 @ba @bb) ?_;refine ru (A.mono (μ θ e)) (vB (a:=128)) Μ λa48 P y=>?_;refine ak (c2 @ba @bb) ?_;have a52:eu (α a)<64:=by unfold eu;omega
 refine cm (λb D=>∃c:Nat,c<=eu (α a)/\av w D 1 ((a++128::ε c 0).map aj) (b 5)/\b 0=W/\b 1=.aq V 64 64 1/\b 4=.ptr E 0)
  (λb _=>match b 5 with|.aq _ S _ _=>eu (α a)+α a+1 - S|_=>0) ⟨0,δ,?_⟩ ?_
 .refine ak (c2 @ba @bb) ?_;exact y
 .clear y A;rintro b P⟨c,k2,y,x,h,d⟩;obtain⟨f,n,k3,p,k4,B,k5,H,k6⟩:=zg y ς;have I:(a++128::ε c 0).length=α a+1+c:=Μ;rw[I]at p;by_cases L:c<eu (α a)
  .have q:¬(Int.tmod ((α a+1+c:Nat):Int) 64=56):=by have:Int.tmod ((α a+1+c:Nat)) 64=(((α a+1+c)%64)):=rfl;rw[this];unfold eu at L;omega
   refine ak (c7 @x @h @d @p @q @ba @bb) ?_;refine eQ (by simp[aY,σ]) ς λk1 e=>?_;refine ak (c7 @x @h @d @p @q @ba @bb) ?_;rw[<-p];refine ru (y.mono (μ θ e)) (vB (a:=0)) Μ λa06 k7 K=>?_;refine ak (bz @x @h @d @p @ba @bb) ?_;have M:a++128::ε c 0++[0]=a++128::ε (c+1) 0:=by rw[abm];simp
   rw[M]at K;obtain⟨a56,a57,a61,rfl,_⟩:=zg K ς;grind
  .obtain rfl:c=eu (α a):=δ;have q:(Int.tmod ((α a+1+eu (α a):Nat):Int) 64=56):=by have:Int.tmod ((α a+1+eu (α a):Nat)) 64=(((α a+1+eu (α a))%64)):=rfl;rw[this];unfold eu;omega
   have a07:IntKind.u64.wrap (8*IntKind.u64.wrap (α a))=((8*α a:Nat)):=by rw[kB,kB];omega
   rw[<-I]at p;refine ak (cg @x @h @d @p @I @q @n9 @a07 @ba @bb) ?_;rw[<-p]at*;refine cm (λb D=>∃c:Nat,c<=8/\av w D 1 ((a++128::ε (eu (α a)) 0++(cG (8*α a)).take c).map aj) (b 5)/\b 0=W/\b 1=.aq V 64 64 1/\b 4=.ptr E 0/\b 6=.v (.int .u64 ((8*α a:Nat)))/\b 7=.v (.int .i64 c))
    (λb _=>match b 7 with|.v (.int _ S)=>(8 - S).toNat|_=>0) ⟨0,δ,?_⟩ ?_
   .refine ak (bh @x @h @d @ba @bb) ?_;simp_all
   .clear k4 B k5 H k6 x h d p y;rintro b P⟨c,k2,y,x,h,d,g,i⟩;have a62:=FJ (8*α a) c;by_cases L:(c:Int)<8
    .have a08:IntKind.u64.wrap (56 - 8*(c))=((56 - 8*c:Nat)):=by rw[kB];omega
     have k8:=za ((8*α a)>>>(56 - 8*c)) 256 δ;have a09:((256:Nat):Int)=256:=rfl;rw[a09]at k8;refine ak (fF @x @h @d @g @i @L @a08 @k8 @iK @ba @bb) ?_;refine eQ (by simp[aY,σ]) ς λk1 e=>?_;refine ak (c7 @x @h @d @g @i @ba @bb) ?_;refine ru (y.mono (μ θ e)) vB (by simp[cG];omega) λa06 k7 K=>?_;refine ak (c7 @x @h @d @g @i @ba @bb) ?_;grind
    .obtain rfl:c=8:=δ;have a10:(cG (8*α a)).take 8=cG (8*α a):=rfl;rw[a10]at y;refine ak (bw @x @h @d @g @i @L @ba @bb) ?_;refine eQ (by simp[aY,σ]) ς λs k9=>?_;have l0:flat [R.v (Value.int IntKind.u32 1779033703),R.v (Value.int IntKind.u32 3144134277),R.v (Value.int IntKind.u32 1013904242),R.v (Value.int IntKind.u32 2773480762),R.v (Value.int IntKind.u32 1359893119),R.v (Value.int IntKind.u32 2600822924),R.v (Value.int IntKind.u32 528734635),R.v (Value.int IntKind.u32 1541459225)]=wl gw:=rfl;rw[l0];have a63:=zf a;have a65:=a1Y a;have l1:av w P 1 ((kT a).map aj) (b 5):=y;obtain⟨f,n,k3,p,k4,B,k5,H,k6⟩:=zg l1 (by grind);have N:=y.1;have O:=a1Z a;have l2:av P (P.set s (.cells (wl gw))) 1 (wl gw) (.aq s 8 8 1):=⟨μ θ k9,.inr ⟨s,8,8,_,rfl,k9,ξ _ _ _,rfl,rfl,rfl,δ,Θ⟩⟩;have l3:α gw=8:=rfl;generalize P.set s (.cells (wl gw))=k7 at*;rw[<-k0]at l2 O l3;clear k0 l0;generalize a11:kT a=r at*;clear y l1 a11;refine ak (bz @x @h @d @p @ba @bb) ?_;refine cm (λb D=>∃k:Nat,k<=α r/64/\av P D 1 (wl (blocks k F r)) (b 8)/\b 1=.aq V 64 64 1/\b 4=.ptr E 0/\b 5=.aq f (α r) n 1/\b 9=.v (.int .i64 ((64*k:Nat))))
      (λb _=>match b 9 with|.v (.int _ S)=>(α r - S).toNat|_=>0) ⟨0,δ,?_⟩ ?_
     .refine ak (bh @h @d @p @ba @bb) ?_;exact l2
     .clear x h d p g i;rintro b l4⟨k,a68,Q,h,d,p,j⟩;have T:(blocks k F r).length=8:=pN _ _ _ l3;obtain⟨X,l5,Y,z,a69,t,a71,a73⟩:=FI Q (by intro M;rw[M]at T;cases T);rw[T]at z;have l:=Q.1;by_cases L:k<α r/64
      .have Z:((64*k:Nat))<(α r:Int):=δ;have a13:dT 1 (.aq f (α r) n 1) (β (.v (.int .i64 ((64*k:Nat))))) (β (.v (.int .i64 (((64*k:Nat))+64))))=β (.bE f (64*k) 64 (n - 64*k) 1):=by have l6:(((64*k):Int)+64).toNat=64*k+64:=δ;simp only[dT,cF,Go.bD.intOf,qF];grind
       refine ak (cO @h @d @p @z @j @Z @a13 @ba @bb) ?_;have a14:=uL k F r;refine ah (a1X (blocks k F r) ((r.drop (64*k)).take 64) T X l5 Y f (64*k) k3 V l4 t (l _ _ B) δ ?_ (l _ _ (N _ _ a03))) ?_
       .intro c k2;rw[a2b H δ];simp_all
       rintro a74 a81 l7;refine ak (c7 @h @d @p @z @j @ba @bb) ?_;rw[<-a14]at l7;exact⟨⟨k+1,δ,l7.base l,Μ⟩,δ⟩
      .have Z:¬((64*k:Nat))<(α r:Int):=δ;obtain rfl:k=α r/64:=δ;refine ak (bw @h @d @p @z @j @Z @ba @bb) ?_;refine aN λu j9=>?_;have l8:X≠u:=by rintro rfl;rw[j9]at t;cases t
       have v:=l _ _ (N _ _ a05);have l9:E≠u:=by rintro rfl;rw[j9]at v;cases v
       have a15:=a2a (blocks (α r/64) F r) T;have a16:(ev (blocks (α r/64) F r)).length=32:=by rw[uO,T]
       rw[O];clear O Q;generalize blocks (α r/64) F r=C at*;have a18:(wl C++Y).length=8+α Y:=by rw[vA,T]
       refine ak (c7 @h @d @p @z @j @ba @bb) ?_;refine cm (λb D=>∃o:Nat,o<=32/\D=l4.set u (.cells (ig ((ev C).take o)))/\b 8=.aq X 8 l5 1/\b 10=.ptr u 0/\b 4=.ptr E 0/\b 11=.v (.int .i64 o))
        (λb _=>match b 11 with|.v (.int _ S)=>(32 - S).toNat|_=>0) ⟨0,δ,?_⟩ ?_
       .refine ak (aL @d @z @ba @bb) ?_;rfl
       .clear h d p z j;rintro b _⟨o,a83,rfl,z,n0,d,n1⟩;have a19:((ev C).take o).length=o:=Μ;have n2:(ig ((ev C).take o)).length=32:=uN δ;by_cases L:(o:Int)<32
        .have l6:IntKind.i64.wrap ((o:Int).tdiv 4)=((o/4:Nat)):=by have:(o:Int).tdiv 4=((o/4:Nat)):=rfl;rw[this,wrap_i64 δ δ]
         have a27:(o:Int).tmod 4=((o%4:Nat)):=rfl;have a29:IntKind.u64.wrap (24 - 8*((o%4:Nat)))=((24 - 8*(o%4):Nat)):=by rw[kB];omega
         have a30:o/4<8:=δ;have a34:((o/4:Nat))<((8:Nat):Int):=δ;refine ak (ou @z @n0 @d @n1 @L @l6 @a27 @a29 @a34 @a30 @a18 @n2 (κ t) @l8 (Ι l8) @mI @a2c @iK @ba @bb) ?_;rw[xW _ a19.symm δ,a15 o δ];grind
        .obtain rfl:o=32:=δ;refine ak (gq @z @n0 @d @n1 @L @n2 @l9 (Ι l9) (κ v) (χ v) @ba @bb) ?_;have a36:(ev C).take 32=ev C:=Φ δ;have a38:ig (ev C)=(ev C).map aj:=by simp[ig,a16]
         have n3:((ev C).map aj).take 32=(ev C).map aj:=Φ Μ;rw[a36,a38,n3,n3];refine⟨G,?_,rfl,rfl⟩;have n4:=π a04 (π N l);exact μ (μ n4 (Ο n4 j9)) m
def a2e(a:ϊ)(h:α a<=1000000000)(c:R)(d:Nat)(b:U)(k:bW b 1 c=β (α a,a.map aj))(o:fi c=β (.v (.int .i64 (α a))))(p:b d=β (.cells (wl nx))):
  AC γ 245 [c,.aq d 64 64 1] b λr x=>x=b/\r=br (fm a):=a2d gw rfl a h c d b k o p
def a2f(a:ϊ)(r:α a<=1000000000)(c:R)(b:U)(x:bW b 1 c=β (α a,a.map aj))(y:fi c=β (.v (.int .i64 (α a)))):
  AC γ 188 [c] b λz C=>C=b/\z=br (fm a):=by
 refine bd hm QL ς ?_;refine ak (c2 @ba @bb) ?_;refine aN λD d=>?_;refine ak (c2 @ba @bb) ?_;refine ah (a1P _) ?_;rintro _ _⟨h,E,rfl,rfl⟩;obtain⟨k,o⟩:=U.gP E;refine ak (c2 @ba @bb) ?_;have F:b.sub ((b.set D (.cells (ε 32 (.v (.int .u8 0))))).set h (.cells (wl nx))):=μ (μ θ d) o;refine ah (a2e a r c h _ (ze F x) y (ξ _ _ _)) ?_;rintro _ _⟨rfl,rfl⟩;have p:((fm a).map aj).length=32:=by rw[a7w,sI]
 have G:br (fm a)=.agg ((fm a).map aj):=rfl;have L:((fm a).map aj).take 32=(fm a).map aj:=Φ δ;rw[G];have P:putAt (ε 32 (R.v (.int .u8 0))) 0 ((fm a).map aj)=(fm a).map aj:=by rw[putAt,p];simp
 refine ak (c7 @p @L @P @k (Ι k) @ba @bb) ?_;exact⟨b,μ (μ θ d) o,rfl⟩
def a2g{a:UInt8}(b:f e=ζ):av f (f.set e (.cells (flat [.v (.int .u8 (a.toNat:Int))]))) 1 ([a].map aj) (.aq e 1 1 1):=
 ⟨μ θ b,.inr ⟨e,1,1,_,rfl,b,ξ _ _ _,rfl,rfl,rfl,δ,Θ⟩⟩
theorem a2h(k:UInt8)(b:List (R×ϊ))(x:R)(i:Nat)(r:U)(j:fi x=β (.v (.int .i64 (α b))))
  (l:∀o:Nat,o<α b->cz 1 x (.v (.int .i64 o))=β (.ptr i o))
  (B:∀o (k2:o<α b),∃y,r i=β (.cells y)/\o<α y/\aM ι 1 (y.drop o)=b[o].1)
  (H:∀a∈b,bW r 1 a.1=β (α a.2,a.2.map aj)/\fi a.1=β (.v (.int .i64 (α a.2))))
  (I:(preB k (b.map (·.2))).length<=1000000):
  AC γ 189 [.v (.int .u8 (k.toNat:Int)),x] r λK z=>av r z 1 ((preB k (b.map (·.2))).map aj) K:=by
 refine bd hm QN ς ?_;refine aG (c2 @ba @bb) ?_;refine eQ (by simp[aY,σ]) ς λM T=>?_;refine aG (c2 @ba @bb) ?_;have m:=a2g (a:=k) T;refine cm (λc z=>∃a C:List (R×ϊ),b=a++C/\av r z 1 ((preB k (a.map (·.2))).map aj) (c 5)/\c 1=x/\c 6=.v (.int .i64 (α a)))
  (λc _=>match c 6 with|.v (.int _ V)=>(α b - V).toNat|_=>0) ⟨[],b,rfl,?_⟩ ?_
 .refine aG (c2 @ba @bb) ?_;exact m
 .clear m;rintro c k3⟨a,C,p,W,e,D⟩;cases C with
  |nil=>
   have P:α b=α a:=by rw[p];simp
   rw[a8t]at p;have f:¬(α a)<(α b:Int):=δ;refine aG (bz @e @D @j @f @ba @bb) ?_;rw[p];exact⟨_,θ,W⟩
  |cons N C=>
   obtain⟨g,d⟩:=N;have P:α a<α b:=by rw[p];simp
   have f:(α a)<(α b:Int):=δ;have O:b[α a]=(g,d):=by subst p;simp
   obtain⟨y,n,c2,aE⟩:=B (α a) P;rw[O]at aE;obtain⟨q,s⟩:=H (g,d) (by rw[p];simp);simp only at q s aE;have k4:(preB k (a.map (·.2))).length+8+α d<=1000000:=by refine a8m ?_ I;rw[p];simp[preB,chunk,cG];omega
   have Q:=xR k (b.map (·.2));rw[a7w]at Q;have t:α a+1<=α y:=δ;have u:=W.1;simp -dsimp -implicitDefEqProofs (disch:=first|omega|assumption|(simp only[aW,Nat.reduceAdd];try omega)) only[go_sem,simprocAttr,ba,bb,e,D,j,f,l _ P,κ (u _ _ n),t,aE,s];refine cm (λc z=>∃h:Nat,h<=8/\av r z 1 ((preB k (a.map (·.2))++(cG (α d)).take h).map aj) (c 5)/\c 1=x/\c 6=.v (.int .i64 (α a))/\c 7=.v (.int .u64 (α d:Int))/\c 8=.v (.int .i64 h))
    (λc _=>match c 8 with|.v (.int _ V)=>(8 - V).toNat|_=>0) ⟨0,δ,?_⟩ ?_
   .refine aG (aL @e @D @ba @bb) ?_;simp_all
   .clear W u;rintro k5 k6⟨h,k7,S,E,F,G,L⟩;have k8:=FJ (α d) h;by_cases v:(h:Int)<8
    .have X:IntKind.u64.wrap (56 - 8*(h))=((56 - 8*h:Nat)):=by rw[kB];omega
     have w:=za (α d>>>(56 - 8*h)) 256 δ;have Y:((256:Nat):Int)=256:=rfl;rw[Y]at w;refine aG (cg @E @F @G @L @v @X @w @iK @ba @bb) ?_;refine eQ (by simp[aY,σ]) ς λM T=>?_;refine aG (bz @E @F @G @L @ba @bb) ?_;refine ru (S.mono (μ θ T)) vB (by simp[cG];omega) λZ j9 k0=>?_;refine aG (bz @E @F @G @L @ba @bb) ?_;grind
    .obtain rfl:h=8:=δ;have k1:(cG (α d)).take 8=cG (α d):=rfl;rw[k1]at S;have A:=S.1;simp -dsimp -implicitDefEqProofs (disch:=first|omega|assumption|(simp only[aW,Nat.reduceAdd];try omega)) only[go_sem,simprocAttr,ba,bb,E,F,G,L,D,v,l _ P,κ (A _ _ n),t,aE];refine ru S (ze A q) (by simp[cG];omega) λZ j9 k0=>?_;refine aG (c7 @E @F @G @L @D @ba @bb) ?_;refine⟨⟨a++[(g,d)],C,by simp[p],?_,ς⟩,δ⟩;grind[preB,cG,chunk]
theorem a2i(h:UInt8)(b:List (R×ϊ))(k:Nat)(c:U)(o:c k=β (.cells (b.map (·.1))))
  (p:∀a∈b,av c c 1 (a.2.map aj) a.1\/(bW c 1 a.1=β (α a.2,a.2.map aj)/\fi a.1=β (.v (.int .i64 (α a.2)))))
  (r:(preB h (b.map (·.2))).length<=1000000):
  AC γ 189 [.v (.int .u8 (h.toNat:Int)),.aq k (α b) (α b) 1] c λx y=>av c y 1 ((preB h (b.map (·.2))).map aj) x:=by
 refine a2h h b _ k c rfl ?_ ?_ ?_ r;grind[jQ]
 .intro C d;refine⟨_,o,by simpa using d,?_⟩;rw[a7M (by simpa using d),aaX];rfl
 .intro a z;rcases p a z with d|d
  .obtain⟨D,E,F,G⟩:=d.src;simp_all
  .exact d
def hs(a:aU):ϊ:=im a.name++(ν (α a.aD)::(a.aD.flatMap im++(ea a.bf++ea a.bm)))
def qb(a:List aU):ϊ:=ν (α a)::a.flatMap hs
structure aU.hL(t:aU):Prop where
 n:α t.name<=16
 c:α t.aD<=7
 cs:∀c∈t.aD,α c<=16
 k:t.bf.hL
 z:t.bm.hL
variable{e4:List ϊ}
theorem FK(b:∀a∈e4,α a<=16):(e4.flatMap im).length<=19*α e4:=by
 induction e4 with
 |nil=>simp
 |cons c e4 ih=>grind[Β,y0,List.length_cons]
variable{e9:aU}
def zh(a:e9.hL)(b:α e9.bf.sum=32)(c:α e9.bm.sum=32):(hs e9).length<=1000:=by have:=FK a.cs;have:=a.n;have:=a.c;have:=sU b a.k;have:=sU c a.z;simp only[hs,Ψ,y0,a7s];omega
variable{e3:List aU}
theorem a2j(b:aB ed e3 g)(d:∀h∈e3,h.hL)(a:Nat):((e3.take a).flatMap hs).length<=1000*a:=by
 induction e3 generalizing g a with
 |nil=>simp
 |cons k e3 ih=>
  cases g with
  |nil=>trivial
  |cons v g=>
   obtain⟨⟨_,_,c⟩,b⟩:=b;cases a with
   |zero=>simp
   |succ a=>have:=zh (d k ς) c.k.1 c.z.1;grind
def vC(a b:Nat)(c:U)(h:R)(k:R->U->Prop):Prop:=
 match h with
 |.ptr d off=>match c.read d with
  |some cs=>off+b*a<=α cs/\k (.J (eB a b (cs.drop off)) .any) (c.set d (.ro cs))
  |none=>False
 |_=>False
variable{t Z:R -> U -> Prop}
def a2k{a:cy t}(b:f.read v=β g)(c:M+i*e<=α g)(d:t (.J (eB e i (g.drop M)) .any) (f.set v (.ro g))):vC e i f (.ptr v M) (bX t a):=by simp only[vC,b];trivial
variable{K:Ctx}{j:Fr}{X e7:Operand}
theorem a2l:G K (.kp e i X ζ ζ η) j f t=vC e i f (al j X) (bX (λa b=>t a b) ()):=by grind[G,vC,dc,al,bX]
theorem zi:∀ {rows:List (Ω×Bool)},(∀a∈rows,α a.1<=8)->(rows.flatMap gx).length<=66*α rows
 |[],_=>by simp
 |a::rows,b=>by
  have d:=b a ς;have:=zi λa c=>b a (a8L _ c);grind[Β,gx,List.length_cons,dE,oB]
theorem zj:∀ {kids:List ao},(∀a∈kids,a.hL/\α a.sum=32/\a.cC)->(kids.flatMap ea).length<=300*α kids
 |[],_=>by simp
 |a::kids,b=>by
  obtain⟨⟨d,h,k,_,_,_,_⟩,o,_⟩:=b a ς;have:=zj λa c=>b a (a8L _ c);grind[kF,dE,List.length_cons,oB,Β,ea]
theorem a2m(o:bY)(P S:ύ)(e f:Own)(g:U)(w:aB cY o.rows P)(A:aB bB o.kids S)(n2:α o.rows<=5)(n3:α o.kids<=5)
  (i:∀p∈o.rows,α p.1<=8) (B:∀r∈o.kids,r.hL/\α r.sum=32/\r.cC):
  AC γ 136 [gU o (.J P e) (.J S f)] g λp d=>fO g d (cH o) p:=by
 have n4:=w.len;have n5:=A.len;obtain⟨T,rows,kids⟩:=o
 dsimp only at*
 refine aK hm Pj ?_;have n9:=λx=>iK x;refine aN λH X=>?_;refine aa ?_;generalize j:g.set H (.cells [R.v (.int .u8 (T.toNat)),.J P e,.J S f])=G;have Y:=j▸μ θ X;have Z:=j▸ξ _ _ _;have L:∀d,G.sub d->d.read H=β [R.v (.int .u8 (T.toNat)),.J P e,.J S f]:=λd C=>κ (C _ _ Z);clear j;have j9:=L _ θ;refine uI [T,ν (α rows)] (λk a00 k0 _=>?_);clear j9;have k1:=L _ k0.sub;refine cc [0,1] (λb:Nat×R=>[(4,.v (.int .i64 b.1)),(3,b.2)]) (λb d=>b.1<=α rows/\fO G d (T::ν (α rows)::(rows.take b.1).flatMap gx) b.2) (λb=>α rows - b.1) (0,k) ⟨⟨δ,by trivial⟩,aO⟩ ?_;rintro⟨a,k⟩ D ⟨l,c⟩ k2
 dsimp only at l c|-
 clear k1;have k3:=L _ c.sub;refine aa ?_;refine aF (λm=>?_) λm=>?_
 .obtain⟨_,V,k4,rfl⟩:=w.get (i:=a) (x:=rows.getD a ([],ι)) (by simp_all);have k5:eo 2 P[a]?=β (.bS [.J (ad (rows.getD a ([],ι)).1) k4,.v (.bool (rows.getD a ([],ι)).2)]):=by rw[V];rfl
  have a01:(rows.getD a ([],ι)).1.length<=8:=i _ (by simp_all);have n:=eX (a:=rows) (e:=a) (b:=([],ι)) δ;have I:=zi (rows:=rows.take a) λp C=>i p (a7A C);rw[a7q]at I;generalize rows.getD a ([],ι)=b at*;have K:(dE b.1).length=8*α b.1+1:=by rw[dE,a7s,oB]
  clear V;have a02:(gx b).length=8*α b.1+2:=by rw[gx,a7s,K]
  refine aa ?_;refine ie (a1N _ _) λE F h=>?_;refine nu c (show fO D F [if b.2=η then(1)else 0] E from h) λa4 k6 W _=>?_;have M:=L _ W.sub;refine ie (vz _ _ _ δ) λa03 q z=>?_;refine nu W z λdy a04 k7 _=>?_;refine⟨(a+1,dy),⟨by simp only;omega,?_⟩,⟨rfl,rfl⟩,by simp only;omega⟩;simp only[n,a8f,a7P,aa4,a8t,gx];simpa using k7
 obtain rfl:a=α rows:=δ;rw[a7K]at c;have I:=zi i;generalize a05:T::ν (α rows)::rows.flatMap gx=s at*;have a06:α s<=400:=by grind
 refine uI [ν (α kids)] (λE F h _=>?_);refine nu c h λa3 k6 W _=>?_;clear k3;have M:=L _ W.sub;refine cc [0,1] (λb:Nat×R=>[(5,.v (.int .i64 b.1)),(3,b.2)]) (λb d=>b.1<=α kids/\fO G d (s++[ν (α kids)]++(kids.take b.1).flatMap ea) b.2) (λb=>α kids - b.1) (0,a3) ⟨⟨δ,by simpa using W⟩,aO⟩ ?_;clear M;rintro⟨a,k⟩ q ⟨l,z⟩ k2
 dsimp only at l z|-
 have a07:=L _ z.sub;refine aa ?_;refine aF (λm=>?_) λm=>?_
 .obtain⟨_,V,k8,k9,t,u,v,rfl⟩:=A.get (i:=a) (x:=kids.getD a az) (by simp_all);have l0:=(B (kids.getD a az) (by simp_all)).1;have n:=eX (a:=kids) (e:=a) (b:=az) δ;generalize kids.getD a az=r at*;have N:=(aP (N:=t) (e6:=u) (h6:=v) k8).all;have k5:eo 37 S[a]?=β (.bS (ab r t u v)):=by rw[V];exact hC N.1
  generalize ab r t u v=y at*;clear V;refine aa ?_;refine aN λx O=>?_;refine aa ?_;rw[a2l];refine aa ?_;refine a2k (κ (ξ _ _ _)) δ ?_;rw[τ];have l1:fO (G.set x (.ro y)) (q.set x (.ro y)) _ k:=z.new O;have l2:=Ο z.sub O;have l3:=μ (Y:=.ro y) θ l2;have l4:(G.set x (.ro y)) x=β (.ro y):=ξ _ _ _;generalize G.set x (.ro y)=l5 at*;generalize q.set x (.ro y)=a08 at*;have a09:∀d,l5.sub d->d.read x=β y:=λd C=>U.W5 (C _ _ l4);have Q:eB 1 32 (y.drop 0)=r.sum.map aj:=by simp[eB,N.2.2.1]
  rw[Q];obtain⟨a10,a11,a13⟩:=k9;obtain⟨a14,a15,a16,l6,a18,l7,a19⟩:=l0;obtain⟨l8,a27⟩:=a9o l6;obtain⟨l9,a29⟩:=a9o l7;have a30:=kF l8;have a34:=kF l9;have K:∀p:Ω,(dE p).length=8*α p+1:=λp=>by rw[dE,a7s,oB]
  have n0:((kids.take a).flatMap ea).length<=300*a:=by have:=zj (kids:=kids.take a) λr C=>B r (a7A C);rw[a7q]at this;omega
  generalize a36:s++[ν (α kids)]++(kids.take a).flatMap ea=n1 at*;have a38:α n1<=3000:=by grind
  clear Q n0;refine Dj l1 ox.J λk D c _=>?_;refine ie (FH _ _ δ) λE F h=>?_;refine nu c h λk D c _=>?_;refine ie (FH _ _ δ) λE F h=>?_;refine nu c h λk D c _=>?_;refine ie (vz _ _ _ δ) λE F h=>?_;refine nu c h λk D c _=>?_;refine ie (vz _ _ _ δ) λE F h=>?_;refine nu c h λk D c _=>?_;refine ie (vz _ _ _ δ) λE F h=>?_;refine nu c h λk D c _=>?_;refine⟨(a+1,k),⟨by simp only;omega,?_⟩,⟨rfl,rfl⟩,by simp only;omega⟩;have a42:=c.base l3;simp only[n,a8f,a7P,aa4,a8t];grind[ea,List.append_assoc,Int.toNat_natCast]
 obtain rfl:a=α kids:=δ;rw[a7K]at z;refine⟨_,θ,?_⟩;have:=z.base Y;grind[cH,List.append_assoc]
structure kU where
 kind:UInt8
 ry:Int
 at_:Ω
abbrev kU.V(a:kU)(b:Own):R:=.agg [.v (.int .u8 (a.kind.toNat:Int)),.v (.int .i64 a.ry),.J (ad a.at_) b]
def kU.ok(a:kU)(b:Nat):Bool:=
 decide (1<=b/\b<=8)&&(if a.kind=0 then decide (a.ry=0)&&decide (α a.at_=0)
  else if a.kind=1\/a.kind=2 then(decide (0<a.ry)||decide (a.ry=0)&&decide (a.kind=2))&&decide (a.ry<=(b:Int) - 1)&&decide (α a.at_=0)
  else decide (a.kind=3)&&decide (a.ry=0)&&decide (1<b)&&decide (α a.at_=b - 1))
theorem FL(a:kU)(h:Own)(c:Nat)(d:U)(r:c<=1000000000000)(x:α a.at_<=1000000000000):
  AC γ 117 [a.V h,.v (.int .i64 (c:Int))] d λk o=>o=d/\k=.v (.bool (a.ok c)):=by
 obtain⟨b,y,p⟩:=a
 dsimp only at*
 have z:=bN (q:=p);have C:=iS b 0 δ;have D:=iS b 1 δ;have E:=iS b 2 δ;have F:=iS b 3 δ;refine aK hm OH ?_;refine bs λG L=>?_
 repeat' first|refine aF (λ_=>?_) λ_=>?_|trivial
 all_goals grind[kU.ok,aR,aV]
theorem vD(b:kU)(h:Own)(c:Nat)(d:U)(r:c<=1000000000000)(x:α b.at_<=1000000000000):
  AC γ 265 [b.V h,.v (.int .i64 (c:Int))] d λk o=>o=d/\k=.v (.bool (b.ok c)):=by
 obtain⟨a,y,p⟩:=b
 dsimp only at*
 have z:=bN (q:=p);have C:=iS a 0 δ;have D:=iS a 1 δ;have E:=iS a 2 δ;have F:=iS a 3 δ;refine aK hm SS ?_;refine bs λG L=>?_
 repeat' first|refine aF (λ_=>?_) λ_=>?_|trivial
 all_goals try first
  |(rw[kU.ok];exact aR)
  |(refine aV ?_;simp only[kU.ok]at*;grind)
 rename_i P S T;obtain rfl:a=2:=a8j.1 (by simp_all);refine aV ?_;rw[a9T];simp[kU.ok,-List.length_eq_zero_iff];omega
abbrev iy(a b:Nat):R:=.agg [.v (.int .u64 (a:Int)),.v (.int .u64 (b:Int))]
def a2n(a c b d:Nat)(h:U):AC γ 179 [iy a c,iy b d] h λk o=>o=h/\k=.v (.bool (decide (a<b\/a=b/\c<d))):=by
 refine aK hm Qt ?_;refine bs λp r=>?_;refine dd λx y z C=>?_
 repeat' first|refine aF (λ_=>?_) λ_=>?_|trivial
 all_goals exact aR
def rz(a c b d:Nat):Int:=if a=b/\c=d then 0 else if a<b\/a=b/\c<d then -1 else 1
theorem FM(a b c d:Nat)(h:U):AC γ 271 [iy a b,iy c d] h λk o=>o=h/\k=.v (.int .i64 (rz a b c d)):=by
 have p:∀a b:Nat,dp [(2,cb.int IntKind.u64)] [R.v (.int .u64 (a)),R.v (.int .u64 (b))]:=λa b=>by simp[dp,cb.u3]
 have r:peq (iy a b) (iy c d)=decide ((a:Int)=c/\(b:Int)=d):=by rw[a9T];simp[peq]
 refine aK hm T2 ?_;refine bs λx y=>?_;refine dd λz C D E=>?_
 repeat' first|refine aF (λ_=>?_) λ_=>?_|trivial
 all_goals grind[rz]
abbrev hR(a:Ω)(b:Nat):Int:=a.getD b 0
def jv(c d a:Ω):Bool:=cQ c d (α a)&&(ω (α a)).all λb=>decide (hR c b<=hR a b)&&decide (hR a b<=hR d b)
def oT(a b c d:Ω):Bool:=cQ a b (α a)&&cQ c d (α a)
def ke(b c d h:Ω):Bool:=oT b c d h&&(ω (α b)).all λa=>decide (hR b a<=hR h a)&&decide (hR d a<=hR c a)
def a2o(c:U)(k o:Nat)(d h b:Ω)(p r x:Own)(a:Nat)(C:c.read k=β [.J (ad d) p,.J (ad h) r])(D:c.read o=β [.J (ad b) x])(E:a<α d)(F:a<α h)(G:a<α b):
  AC γ 309 [.v (.int .i64 (a:Int)),.ptr k 0,.ptr o 0] c λy z=>z=c/\y=.v (.bool (decide (hR d a<=hR b a)&&decide (hR b a<=hR h a))):=by
 have L:=@dU d;have P:=@dU h;have S:=@dU b;refine aK hm TM ?_
 repeat' first|refine aF (λ_=>?_) λ_=>?_|trivial
 all_goals exact aR
def a2p(h:U)(b c a:Ω)(k o p:Own)(r:α a<=1000000000000):
  AC γ 273 [eU b c k o,.J (ad a) p] h λx y=>y=h/\x=.v (.bool (jv b c a)):=by
 have G:=bN (q:=a);refine aK hm T6 ?_;refine bs λz L=>?_;refine dd λC P S D=>?_;refine bp (oH _ b c _ _ _ r) ?_;refine aF (λd=>?_) λd=>?_
 .obtain⟨T,V,W,e⟩:=lD d;refine bp (yc (α a) _ _ _ _ _ r abH λE F=>a2o _ z C b c a k o p E (by simp[U.read,ξ,ο,D]) (by simp[U.read,ξ]) δ δ F) ?_;refine aV ?_;rw[jv,d,a8S]
 .refine aV ?_;rw[jv,d,a9H]
def a2q(b:U)(o p:Nat)(c d h k:Ω)(r x y z:Own)(a:Nat)(E:b.read o=β [.J (ad c) r,.J (ad d) x])(F:b.read p=β [.J (ad h) y,.J (ad k) z])(G:a<α c)(L:a<α d)(P:a<α h)(S:a<α k):
  AC γ 325 [.v (.int .i64 (a:Int)),.ptr o 0,.ptr p 0] b λC D=>D=b/\C=.v (.bool (decide (hR c a<=hR k a)&&decide (hR h a<=hR d a))):=by
 have T:=@dU c;have V:=@dU d;have W:=@dU h;have e:=@dU k;refine aK hm Uc ?_
 repeat' first|refine aF (λ_=>?_) λ_=>?_|trivial
 all_goals exact aR
def a2r(d:U)(b c a h:Ω)(o p r x:Own)(k:α b<=1000000000000):
  AC γ 300 [eU b c o p,eU a h r x] d λy z=>z=d/\y=.v (.bool (oT b c a h)):=by
 have C:=bN (q:=b);refine aK hm TE ?_;refine bs λD E=>?_;refine dd λF G L P=>?_;refine bp (oH _ b c _ _ _ k) ?_;refine aF (λa=>?_) λa=>?_
 .refine bp (oH _ _ _ _ _ _ k) ?_;refine aV ?_;rw[oT,a,a8S]
 .refine aV ?_;rw[oT,a,a9H]
variable{q b7:Ω}
theorem zk{a b:Ω}(c:oT q b7 a b=η):α b7=α q/\α a=α q/\α b=α q/\1<=α q/\α q<=8:=by rw[oT,Υ]at c;obtain⟨d,h⟩:=c;have d:=lD d;grind[lD]
def FN(k:U)(a b c d:Ω)(o p r x:Own)(y:α a<=1000000000000):
  AC γ 302 [eU a b o p,eU c d r x] k λz C=>C=k/\z=.v (.bool (ke a b c d)):=by
 have P:=bN (q:=a);refine aK hm TG ?_;refine bs λD S=>?_;refine dd λE T V F=>?_;refine bp (a2r _ a b c d _ _ _ _ y) ?_;refine aF (λh=>?_) λh=>?_
 .obtain⟨W,e,f,g⟩:=zk h;refine bp (yc (α a) _ _ _ _ _ y abH λG L=>a2q _ D E a b c d o p r x G (by simp[U.read,ξ,ο,F]) (by simp[U.read,ξ]) L δ δ δ) ?_;refine aV ?_;rw[ke,h,a8S]
 .refine aV ?_;rw[ke,h,a9H]
def gE(a b c d:Ω):Ω×Ω:=if ke a b c d=η then(ψ max a c,ψ min b d)else([],[])
set_option maxHeartbeats 1000000 in
theorem a2s(C:U)(a c h d:Ω)(m n q s:Own)(E:α a<=1000000000000):
  AC γ 268 [eU a c m n,eU h d q s] C λl5 o=>∃r t,l5=.aJ [.agg [r,t],.v (.bool (ke a c h d))]/\pU C o (gE a c h d).1 (gE a c h d).2 r t:=by
 have k1:=bN (q:=a);have u:=@dU a;have v:=@dU c;have w:=@dU h;have A:=@dU d;refine aK hm SY ?_;refine bs λB a14=>?_;refine dd λH a15 I l6=>?_;refine hd λF l7 l8 l9 n0 n1=>?_;refine bp (FN _ a c h d _ _ _ _ E) ?_;refine aF (λG=>?_) λG=>?_
 .rw[gE,if_neg (by simp[G])];exact⟨_,θ,_,_,rfl,C,av.nil θ,av.nil aO⟩
 .rw[gE,if_pos G];obtain⟨a16,a18,a19,a27,a29⟩:=zk (by rw[ke,Υ]at G;exact G.1);generalize L:((C.set B _).set H _).set F _=P;have W:C.sub P:=by subst L;exact aO
  have K:P B=β (.cells [.J (ad a) m,.J (ad c) n]):=by subst L;exact aO
  have M:P H=β (.cells [.J (ad h) q,.J (ad d) s]):=by subst L;exact aO
  have aL:P F=β (.cells [.J [] .nil,.J [] .nil]):=by subst L;exact aO
  clear L;refine ah (v7 P a c _ _ E δ) ?_;rintro _ n2⟨r,t,rfl,a30,n3,n4⟩;obtain⟨x,⟨I,_⟩|⟨e,n5,N,k2,rfl,f,k3,n9,O,S,k4,a00⟩⟩:=n3
  .exfalso;grind
  obtain⟨D,⟨I,_⟩|⟨y,a01,Q,k5,rfl,T,k6,a02,X,V,k7,a03⟩⟩:=n4
  .exfalso;grind
  obtain rfl:n5=α a:=by rw[k1]at S;omega
  obtain rfl:a01=α a:=by rw[bN]at V;omega
  have k8:=D _ _ k3;simp only[a8g]at n9 a02 O X k4 k7;obtain⟨g,rfl⟩:∃Y,k2=ad a++Y:=⟨k2.drop (α a),by rw[<-O,a7V]⟩;obtain⟨i,rfl⟩:∃Y,k5=ad c++Y:=⟨k5.drop (α a),by rw[<-X,a7V]⟩;have k:∀ {k9:U}{b Z:Nat}{j:bu},k9 b=ζ->k9 Z=β j->b≠Z/\Z≠b:=λE l=>⟨(by rintro rfl;rw[E]at l;cases l),(by rintro rfl;rw[E]at l;cases l)⟩;have kE:=D _ _ (x _ _ K);have l0:=D _ _ (x _ _ M);have l1:=D _ _ (x _ _ aL);obtain⟨a34,a04⟩:=k T k3;obtain⟨a36,a38⟩:=k f K;obtain⟨a42,a43⟩:=k f M;obtain⟨a05,a47⟩:=k f aL;obtain⟨a48,a52⟩:=k T (x _ _ K);obtain⟨a56,a57⟩:=k T (x _ _ M);obtain⟨a06,a61⟩:=k T (x _ _ aL);have a07:=Ο W f;have a08:=Ο (π W x) T;have j9:=π W (π x D);clear O X S V x D;have a62:∀a c k0 d:Nat,(R.aq a c k0 d).cells=[.aq a c k0 d]:=λ_ _ _ _=>rfl;refine aa ?_;refine aN λa09 z=>?_;obtain⟨a63,a65⟩:=k z kE;obtain⟨a68,a69⟩:=k z l0;obtain⟨a71,a73⟩:=k z l1;obtain⟨a74,a81⟩:=k z k8;obtain⟨Zm,a83⟩:=k z k6;have l2:=Ο j9 z;refine aa ?_;refine cc [2,3,4,6,17] (λb:Nat=>[(18,.v (.int .i64 (b)))]) (λb o=>b<=α a/\C.sub o/\o B=β (.cells [.J (ad a) m,.J (ad c) n])/\o H=β (.cells [.J (ad h) q,.J (ad d) s])/\o F=β (.cells [.J [] .nil,.J [] .nil])/\
      o a09=β (.cells [.aq e (α a) N 1,.aq y (α a) Q 1])/\o e=β (.cells (ad (mix max a h b)++g))/\o y=β (.cells (ad (mix min c d b)++i))) (λb=>α a - b) 0 ⟨⟨a7N _,μ (μ j9 l2) l2,aO,aO,aO,aO,?_,?_⟩,aO⟩ ?_
  .have a10:mix max a h 0=a:=by rfl
   exact aO
  .have a10:mix min c d 0=c:=by rfl
   exact aO
  clear kE l0 l1 k8 k6 z k1;rintro b o⟨a84,a11,c2,aE,aL,c7,l3,l4⟩a86;have a88:=κ c2;have a89:=κ aE;have a90:=κ c7;have n2:=χ l3;have a92:=χ l4;clear I l6 l8 l9 n0 n1 j9 W;by_cases a94:b<α a
  .have k0:(b)<(α a:Int):=δ;have a95:=u δ;have a96:=v (b:=b) δ;have a97:=w (b:=b) δ;have a98:=A (b:=b) δ;clear u v w A;have a99:=va δ δ g (v:=max (a.getD b 0) (h.getD b 0)) rfl;have b00:=va δ δ i (v:=min (c.getD b 0) (d.getD b 0)) rfl;have b01:b+1<=(ad (mix max a h b)++g).length:=by rw[Ψ,bN,v8 δ δ];omega
   have b02:b+1<=(ad (mix min c d b)++i).length:=by rw[Ψ,bN,v8 δ δ];omega
   generalize a.getD b 0=b03 at*;generalize h.getD b 0=b04 at*;generalize c.getD b 0=a3 at*;generalize d.getD b 0=a4 at*;generalize ad (mix max a h b)++g=b05 at*;generalize ad (mix min c d b)++i=b06 at*;refine aa ?_;grind
  .obtain rfl:b=α a:=δ;clear u v w A;have S:mix max a h (α a)=ψ max a h:=by unfold mix;grind
   have V:mix min c d (α a)=ψ min c d:=by unfold mix;grind
   have b07:(ad (mix max a h (α a))).length=α a:=by rw[S,bN,a9h];omega
   have b08:(ad (mix min c d (α a))).length=α a:=by rw[V,bN,a9h];omega
   have b09:=χ aL;have b10:¬(α a:Int)<α a:=δ;refine aa ?_;refine⟨_,θ,_,_,rfl,?_⟩;rw[<-S,<-V];refine⟨(o.set F (.cells [.aq e (α a) N 1,.aq y (α a) Q 1])).del y,⟨λr j p=>?_,.inr ⟨e,α a,N,_,rfl,a07,by rw[U.eN _ a04,ο _ _ a05];exact l3,?_,?_,?_,k4,a00⟩⟩,⟨λr j p=>?_,.inr ⟨y,α a,Q,_,rfl,U.iH _ _,by rw[ο _ _ a06];exact l4,?_,?_,?_,k7,a03⟩⟩⟩
   .have k:r≠y:=by rintro rfl;rw[a08]at p;cases p
    have a13:r≠F:=by rintro rfl;rw[l7]at p;cases p
    rw[U.eN _ k,ο _ _ a13];exact a11 r j p
   .rw[Ψ,bN]at*;omega
   simp_all
   .omega
   .have k:r≠y:=by rintro rfl;rw[U.iH]at p;cases p
    rw[U.eN _ k]at p;exact p
   .rw[Ψ,bN]at*;omega
   simp_all
   .omega
def FO(h:U)(a b c d:Ω)(k o p r:Own)(z:α a<=1000000000000):
  AC γ 268 [eU a b k o,eU c d p r] h λx y=>h.sub y/\x=.aJ [eU (gE a b c d).1 (gE a b c d).2 .any .any,.v (.bool (ke a b c d))]:=
 (a2s h a b c d k o p r z).view λx y C=>by
  obtain⟨D,W,rfl,e,E,F⟩:=C;obtain⟨f,G,L⟩:=sR F;have P:=E.mono G;obtain⟨S,T,V⟩:=sR P;exact⟨_,S,View.aJ (a:=[]) ((View.agg (a:=[D]) rfl L).trans (View.agg (a:=[]) rfl V)),T,rfl⟩
abbrev ga:kU:=⟨0,0,[]⟩
def rA(a:Nat):ga.ok a=decide (1<=a/\a<=8):=by simp[kU.ok]
def nQ(a:Int):Nat:=(IntKind.u64.wrap ((ρ 64 (IntKind.u64.wrap a)^^^ρ 64 9223372036854775808).toNat:Int)).toNat
def a2t(a:Int):bt .xor (.int .u64 (IntKind.u64.wrap a)) (.int .u64 9223372036854775808)=β (.int .u64 (nQ a:Int)):=by have b:bt .xor (.int .u64 (IntKind.u64.wrap a)) (.int .u64 9223372036854775808)=β (.int .u64 (IntKind.u64.wrap ((ρ 64 (IntKind.u64.wrap a)^^^ρ 64 9223372036854775808).toNat))):=rfl;rw[b,nQ,a8V];exact Int.emod_nonneg _ Θ
def FP(a:Int)(b:U):AC γ 303 [.v (.int .i64 a)] b λc d=>d=b/\c=iy 0 (nQ a):=by have h:=a2t a;refine aK hm TI ?_;refine bs λk o=>?_;rfl
def mJ(b:0<α q)(a:Own):cz 1 (.J (ad q) a) (.v (.int .i64 0))=β (.bS [.v (.int .i64 (q.getD 0 0))]):=by have:=ow (e:=1) (g:=ad q) (N:=a) (e1:=.i64) (i:=0);rw[dU b]at this;exact this
def zl(a:Ω):R:=if 1<=α a/\α a<=8 then .aJ [iy 0 (nQ (a.getD 0 0)),.v (.int .i64 0)]else .aJ [iy 0 0,.v (.int .i64 1)]
def zm(c d:Own)(a:Ω)(b:U)(k:α a<=1000000000000):AC γ 331 [ga.V c,.J (ad a) d] b λo p=>p=b/\o=zl a:=by
 have x:=bN (q:=a);have y:=@dU a;have h:=λb=>vD ga c (α a) b k ς;simp only[rA]at h;refine aK hm Ue ?_;refine bs λz C=>?_;refine dd λD E F G=>?_;refine bp (h _) ?_;rw[zl];refine aF (λr=>?_) λr=>?_
 .rfl
 .have L:=mJ (q:=a) δ d;refine aa ?_;refine bp (FP _ _) ?_;rfl
def zn(a b:Nat)(h:Int)(c d:Nat)(k:Int):Bool:=if rz a b c d=0 then decide (h<k)else decide (rz a b c d<0)
theorem FQ(a b c d:Nat)(h k:Int)(o:U):AC γ 332 [iy a b,.v (.int .i64 h),iy c d,.v (.int .i64 k)] o λp r=>r=o/\p=.v (.bool (zn a b h c d k)):=by
 refine aK hm Ug ?_;refine bs λx y=>?_;refine dd λz C D E=>?_;refine bp (FM _ _ _ _ _) ?_
 repeat' first|refine aF (λ_=>?_) λ_=>?_|trivial
 all_goals simp_all [zn,if_pos,if_neg]
def oU(a:Ω):Prop:=1<=α a/\α a<=8
def zo(a:oU q):zl q=.aJ [iy 0 (nQ (q.getD 0 0)),.v (.int .i64 0)]:=if_pos a
def tv(a b:Ω):Bool:=zn 0 (nQ (a.getD 0 0)) (a.getD 0 0) 0 (nQ (b.getD 0 0)) (b.getD 0 0)
def FR(o c d:Own)(a b:Ω)(h:U)(k:oU a)(y:α b=α a):AC γ 312 [ga.V o,.J (ad a) c,.J (ad b) d] h λp r=>r=h/\p=.v (.bool (tv a b)):=by have z:=bN (q:=a);have C:=bN (q:=b);have D:=@dU a;have E:=@dU b;have x:=id k;obtain⟨F,G⟩:=k;have L:=zo x;have P:=zo (q:=b) ⟨δ,δ⟩;refine aK hm TQ ?_;refine bs λS T=>?_;refine bp (zm _ _ a _ δ) ?_;have V:=mJ (q:=a) δ c;have W:=mJ (q:=b) δ d;refine dd λe f g i=>?_;refine bp (zm _ _ b _ δ) ?_;refine hd λj l _ _ _ _=>?_;refine bp (FQ _ _ _ _ _ _ _) ?_;rfl
abbrev a2u:=tv
def tw(a b:Ω):Int:=if tv a b=η then -1 else if tv b a=η then 1 else 0
theorem a2v(d r x:Own)(a b:Ω)(h:U)(p:Nat)(C:h.read p=β [.v (.int .u8 0),.v (.int .i64 0),.J (ad []) d])(k:oU a)(c:α b=α a):AC γ 311 [.J (ad a) r,.J (ad b) x,.ptr p 0] h λy z=>z=h/\y=.v (.int .i64 (tw a b)):=by
 refine aK hm TO ?_;refine bp (FR d _ _ a b _ k c) ?_;refine aF (λo=>?_) λo=>?_
 .rw[tw,if_pos o]
 .refine bp (FR d _ _ b a _ ⟨by rw[c];exact k.1,by rw[c];exact k.2⟩ c.symm) ?_;refine aF (λc2=>?_) λc2=>?_
  .rw[tw,if_neg (by simp[o]),if_pos c2]
  simp_all [tw]
theorem FT(h c k:Own)(a b:Ω)(d:U)(o:cQ a b (α a)=η):AC γ 269 [ga.V h,eU a b c k] d λp r=>r=d/\p=.aJ [iy 0 (nQ (a.getD 0 0)),.v (.int .i64 (a.getD 0 0)),.v (.int .i64 0)]:=by
 obtain⟨x,y,z,C⟩:=lD o;have D:=bN (q:=a);have E:ga.ok (α a)=true:=by rw[rA];simp_all
 have F:=mJ (q:=a) δ c;refine aK hm T0 ?_;refine bs λG L=>?_;refine dd λP S T V=>?_;refine hd λW e f g a3 a4=>?_;refine bp (oH _ a b _ _ _ δ) ?_;refine bp (vD ga _ _ _ δ ς) ?_;refine bp (FP _ _) ?_;refine xM λi j l m n q s t=>?_;rfl
def a2w(d p r h:Own)(a c b:Ω)(k:U)(o:cQ a c (α a)=η)(z:α b=α a):AC γ 308 [ga.V d,eU a c p r,.J (ad b) h] k λx y=>y=k/\x=.v (.bool (a2u b a)):=by obtain⟨C,D,E,F⟩:=lD o;have G:=bN (q:=a);have L:=bN (q:=b);have P:=mJ (q:=b) δ h;have S:=zo (q:=b) ⟨δ,δ⟩;refine aK hm TK ?_;refine bs λT V=>?_;refine dd λW e f g=>?_;refine bp (FT d _ _ a c _ o) ?_;refine hd λi j l m a3 a4=>?_;refine bp (zm _ _ b _ δ) ?_;refine xM λn q s t u v w A=>?_;refine bp (FQ _ _ _ _ _ _ _) ?_;rfl
def a2x(a:Nat)(k:a<=8)(b:U):AC γ 264 [.v (.int .u64 1),.v (.int .u64 (a:Int))] b λc d=>d=b/\c=.aJ [.v (.int .u64 0),.v (.int .u64 (a:Int))]:=by
 have h:AC γ 299 [.v (.int .u64 1),.v (.int .u64 (a:Int))] b λc d=>d=b/\c=.aJ [.v (.int .u64 0),.v (.int .u64 (a:Int))]:=by
  have o:bt .and (.int .u64 1) (.int .u64 4294967295)=β (.int .u64 1):=by rfl
  have p:bt .shr (.int .u64 1) (.int .u64 32)=β (.int .u64 0):=by rfl
  obtain⟨r,x⟩:bt .and (.int .u64 (a)) (.int .u64 4294967295)=β (.int .u64 (a))/\bt .shr (.int .u64 (a)) (.int .u64 32)=β (.int .u64 0):=by
   obtain rfl|rfl|rfl|rfl|rfl|rfl|rfl|rfl|rfl:a=0\/a=1\/a=2\/a=3\/a=4\/a=5\/a=6\/a=7\/a=8:=δ
   all_goals exact⟨Χ,Χ⟩
  have y:bt .shr (.int .u64 0) (.int .u64 32)=β (.int .u64 0):=by rfl
  have z:bt .and (.int .u64 0) (.int .u64 4294967295)=β (.int .u64 0):=by rfl
  have C:(1)*(a:Int)=a:=Int.one_mul _;have D:(0)*(a:Int)=0:=Int.zero_mul _;exact aK hm TC trivial
 refine aK hm SQ ?_;exact bp h trivial
def a2y:∀ {a:Nat},(ε a [n]).flatten=ε a n
 |0=>rfl
 |a+1=>by simp
theorem FU(b:Nat)(z:1<=b)(C:b<=8)(d:Int)(r:Own)(h:U):AC γ 212 [.J [.v (.int .i64 d)] r,.v (.int .i64 (b:Int))] h λD p=>av h p 1 (ad (ε b d)) D:=by
 refine aK hm Rk ?_;refine iM ?_;refine bp (a2x b C h) ?_;refine iM ?_;refine xz δ δ λc x=>?_;rw[a2y];have T:mg 1 (.aq c b b 1) (.J [.v (.int .i64 d)] r) (h.set c (.cells (ε b (.v (.int .i64 0)))))=β (.v (.int .i64 1),h.set c (.cells (ε 1 (.v (.int .i64 d))++ε (b - 1) (.v (.int .i64 0))))):=by obtain⟨o,rfl⟩:∃o,b=o+1:=⟨b - 1,δ⟩;simp[mg,bW,ξ,τ,flat,σ,putAt]
 refine aa ?_;refine cc [7] (λa:Nat=>[(8,.v (.int .i64 (a)))]) (λa p=>1<=a/\a<=b/\p=h.set c (.cells (ε a (.v (.int .i64 d))++ε (b - a) (.v (.int .i64 0))))) (λa=>b - a) 1 ⟨⟨a7T _,z,rfl⟩,aO⟩ ?_;rintro a _⟨V,E,rfl⟩W;refine aa ?_;refine aF (λF=>?_) λF=>?_
 .have e:cn 1 (.aq c b b 1) (β (.v (.int .i64 (a)))) ζ ζ=β (.bE c a (b - a) (b - a) 1):=by simp_all [gu]
  have f:cn 1 (.aq c b b 1) ζ (β (.v (.int .i64 (a)))) ζ=β (.aq c a b 1):=ib E;generalize y:ε a (R.v (.int .i64 d))++ε (b - a) (.v (.int .i64 0))=k;have G:α k=b:=by subst y;simp;omega
  have L:bW (h.set c (.cells k)) 1 (.aq c a b 1)=β (a,ε a (.v (.int .i64 d))):=by have P:(h.set c (.cells k)).read c=β k:=κ (ξ _ _ _);simp only[bW,P,G,a8g];grind
  have S:=hD (M:=a) (i:=b - a) (j1:=b - a) L (ξ h c (.cells k)) δ;have o:putAt k a ((ε a (R.v (.int .i64 d))).take ((b - a)*1))=ε (a+min a (b - a)) (.v (.int .i64 d))++ε (b -(a+min a (b - a))) (.v (.int .i64 0)):=by subst y;rw[a8g,List.take_replicate,putAt,a9C ς,a9j,Nat.min_comm (b - a) a,<-List.replicate_append_replicate,a8P,a9j,a8b ς,a7H,List.drop_replicate];congr 2;omega
  rw[o,τ]at S;refine aa ?_;exact⟨a+min a (b - a),⟨δ,δ,rfl⟩,by congr 2,δ⟩
 .obtain rfl:a=b:=δ;refine⟨_,θ,μ θ x,.inr ⟨c,a,a,_,rfl,x,ξ _ _ _,?_,?_,?_,a7T _,by unfold maxLen;omega⟩⟩
  .simp
  .simp[ad]
  .simp[ad]
def ja:Int:= -9223372036854775808
def jw:Int:=9223372036854775807
def a2z(a:Nat)(p:1<=a)(r:a<=8)(h:U):AC γ 164 [.v (.int .i64 (a:Int))] h λC D=>∃b c,C=.agg [b,c]/\pU h D (ε a ja) (ε a jw) b c:=by have L:¬(a:Int)<1:=δ;have P:¬8<(a:Int):=δ;refine aK hm PZ ?_;refine bs λx k=>?_;have S:=k;refine YV λT E V y=>?_;refine ie (FU a p r ja _ _) λb W o=>?_;have z:=o.1 _ _ ((ο _ _ y).trans (ξ h x (.cells [.J [] .nil,.J [] .nil])));refine jT λe F=>?_;refine ie (FU a p r jw _ _) λc f d=>?_;have d:=d.base (μ θ F);have c2:=χ (d.1 _ _ z);have g:=fQ o;have i:=fQ d;refine aa ?_;have G:=(jW (Y:=.cells [b,c]) o ((ο _ _ y).trans (ξ h x (.cells [.J [] .nil,.J [] .nil])))).base (μ (μ (μ θ k) E) k);exact⟨_,θ,b,c,rfl,_,G,jW d z⟩
def qc(a:Nat)(b:Bool):ar:=⟨38,5,
(.seq
(.plain (bH 10 (.fg (mm 0))::[]))
(.block 0
(.loop
(.seq
(.seq
(.plain (aA 11 10::aA 12 3::cE 13 .lss 11 12::[]))
(.cond (aH 13)
.skip
(.exit 0)))
(.seq
(.block 1
(.draw (aA 16 0::aA 17 1::aA 18 10::cE 19 .add 17 18::aA 20 0::aA 21 2::aA 22 10::cE 23 .add 21 22::aA 24 0::aA 25 2::aA 26 10::cE 27 .add 25 26::bH 28 (.dS a (aH 24) (aH 27))::bH 29 (.load b a (aH 28))::aA 30 0::aA 31 1::aA 32 10::cE 33 .add 31 32::bH 34 (.dS a (aH 30) (aH 33))::bH 35 (.load b a (aH 34))::bH 36 (.dS a (aH 16) (aH 19))::on (.store a (aH 36) (aH 29))::bH 37 (.dS a (aH 20) (aH 23))::on (.store a (aH 37) (aH 35))::[])
(bk 0::bk 1::bk 2::bk 3::bk 4::bk 5::bk 6::bk 7::bk 8::bk 9::bk 10::bk 11::bk 12::bk 13::bk 14::bk 15::bk 16::bk 17::bk 18::bk 19::bk 20::bk 21::bk 22::bk 23::[])))
(.plain (aA 14 10::fE 15 .add 14 1::aA 10 15::[]))))))),[]⟩
def a2A:dw γ 0 341=β (qc 41 η):=Χ
def a2B:dw γ 0 348=β (qc 1 ι):=Χ
def rB(b:Nat)(c:Bool)(a:FuncId):ar:=⟨58,5,
(.seq
(.plain (aA 12 2::aA 13 1::cE 14 .sub 12 13::aA 10 14::[]))
(.seq
(.plain (aA 15 3::aA 16 2::cE 17 .sub 15 16::aA 11 17::[]))
(.seq
(.block 0
(.loop
(.seq
(.seq
(.plain (aA 18 10::aA 19 11::cE 20 .neq 18 19::[]))
(.cond (aH 20)
.skip
(.exit 0)))
(.block 1
(.seq
(.plain (aA 21 10::aA 22 11::cE 23 .gtr 21 22::[]))
(.cond (aH 23)
(.seq
(.plain (aA 24 0::aA 25 2::aA 26 10::cE 27 .sub 25 26::aA 28 2::aA 29 11::aA 30 4::bH 31 (.gg a [(aH 24),(aH 27),(aH 28),(aH 29),(aH 30)])::[]))
(.plain (aA 32 10::aA 33 11::cE 34 .sub 32 33::aA 10 34::[])))
(.seq
(.plain (aA 35 0::aA 36 2::aA 37 10::cE 38 .sub 36 37::aA 39 2::aA 40 11::cE 41 .add 39 40::aA 42 10::cE 43 .sub 41 42::aA 44 10::aA 45 4::bH 46 (.gg a [(aH 35),(aH 38),(aH 43),(aH 44),(aH 45)])::[]))
(.plain (aA 47 11::aA 48 10::cE 49 .sub 47 48::aA 11 49::[])))))))))
(.plain (aA 50 0::aA 51 2::aA 52 10::cE 53 .sub 51 52::aA 54 2::aA 55 10::aA 56 4::bH 57 (.gg a [(aH 50),(aH 53),(aH 54),(aH 55),(aH 56)])::[]))))),[]⟩
def a2C:dw γ 0 330=β (rB 41 η 341):=Χ
def a2D:dw γ 0 346=β (rB 1 ι 348):=Χ
def tx(a:Nat)(b:Bool):ar:=⟨53,4,
(.seq
(.plain (aA 10 1::fE 11 .add 10 1::aA 8 11::[]))
(.block 0
(.loop
(.seq
(.seq
(.plain (aA 12 8::aA 13 2::cE 14 .lss 12 13::[]))
(.cond (aH 14)
.skip
(.exit 0)))
(.seq
(.block 1
(.seq
(.plain (aA 17 8::aA 9 17::[]))
(.block 2
(.loop
(.seq
(.seq
(.draw (aA 18 9::aA 19 1::cE 20 .gtr 18 19::aA 21 20::fh 21 η 22 (.fg (aH 3))::fh 21 η 23 (.fg (aH 0))::fh 21 η 24 (.fg (aH 9))::fh 21 η 25 (.dS a (aH 23) (aH 24))::fh 21 η 26 (.load b a (aH 25))::fh 21 η 27 (.fg (aH 0))::fh 21 η 28 (.fg (aH 9))::fh 21 η 29 (.bin .sub (aH 28) (mm 1))::fh 21 η 30 (.dS a (aH 27) (aH 29))::fh 21 η 31 (.load b a (aH 30))::fh 21 η 32 (.jf (aH 22) [(aH 26),(aH 31)])::fh 21 η 33 (.bin .lss (aH 32) (mm 0))::bH 34 (.pick (aH 21) (aH 33) qO)::[])
(bk 0::bk 1::bk 2::bk 3::bk 4::bk 5::bk 6::bk 7::bk 8::bk 9::bk 10::bk 11::bk 12::bk 13::bk 14::bk 15::bk 16::[]))
(.cond (aH 34)
.skip
(.exit 2)))
(.seq
(.block 3
(.draw (aA 37 0::aA 38 9::aA 39 0::aA 40 9::fE 41 .sub 40 1::aA 42 0::aA 43 9::fE 44 .sub 43 1::bH 45 (.dS a (aH 42) (aH 44))::bH 46 (.load b a (aH 45))::aA 47 0::aA 48 9::bH 49 (.dS a (aH 47) (aH 48))::bH 50 (.load b a (aH 49))::bH 51 (.dS a (aH 37) (aH 38))::on (.store a (aH 51) (aH 46))::bH 52 (.dS a (aH 39) (aH 41))::on (.store a (aH 52) (aH 50))::[])
(bk 0::bk 1::bk 2::bk 3::bk 4::bk 5::bk 6::bk 7::bk 8::bk 9::bk 10::bk 11::bk 12::bk 13::bk 14::bk 15::bk 16::bk 17::[])))
(.plain (aA 35 9::fE 36 .sub 35 1::aA 9 36::[]))))))))
(.plain (aA 15 8::fE 16 .add 15 1::aA 8 16::[]))))))),[]⟩
def a2E:dw γ 0 306=β (tx 41 η):=Χ
def a2F:dw γ 0 143=β (tx 1 ι):=Χ
def tz(a:Nat)(b:Bool)(c d:FuncId):ar:=⟨220,5,
(.seq
(.seq
(.plain (aA 25 2::aA 26 1::cE 27 .sub 25 26::fE 28 .eql 27 1::[]))
(.cond (aH 28)
(.seq
(.plain (aA 29 2::aA 10 29::[]))
(.seq
(.plain (aA 30 3::aA 11 30::[]))
(.seq
(.block 0
(.loop
(.seq
(.seq
(.plain (aA 31 10::aA 32 11::cE 33 .lss 31 32::[]))
(.cond (aH 33)
.skip
(.exit 0)))
(.block 1
(.seq
(.plain (aA 34 10::aA 35 11::cE 36 .add 34 35::bH 37 (.je .u64 (aH 36))::bH 38 (.bin .shr (aH 37) (.const (.int .u64 1)))::bH 39 (.je .i64 (aH 38))::aA 12 39::[]))
(.seq
(.draw (aA 40 4::aA 41 0::aA 42 12::bH 43 (.dS a (aH 41) (aH 42))::bH 44 (.load b a (aH 43))::aA 45 0::aA 46 1::bH 47 (.dS a (aH 45) (aH 46))::bH 48 (.load b a (aH 47))::bH 49 (.jf (aH 40) [(aH 44),(aH 48)])::fE 50 .lss 49 0::[])
(bk 0::bk 1::bk 2::bk 3::bk 4::bk 5::bk 6::bk 7::bk 8::bk 9::bk 10::[]))
(.cond (aH 50)
(.plain (aA 51 12::fE 52 .add 51 1::aA 10 52::[]))
(.plain (aA 53 12::aA 11 53::[])))))))))
(.seq
(.seq
(.plain (aA 54 1::aA 13 54::[]))
(.block 2
(.loop
(.seq
(.seq
(.plain (aA 55 13::aA 56 10::fE 57 .sub 56 1::cE 58 .lss 55 57::[]))
(.cond (aH 58)
.skip
(.exit 2)))
(.seq
(.block 3
(.draw (aA 61 0::aA 62 13::aA 63 0::aA 64 13::fE 65 .add 64 1::aA 66 0::aA 67 13::fE 68 .add 67 1::bH 69 (.dS a (aH 66) (aH 68))::bH 70 (.load b a (aH 69))::aA 71 0::aA 72 13::bH 73 (.dS a (aH 71) (aH 72))::bH 74 (.load b a (aH 73))::bH 75 (.dS a (aH 61) (aH 62))::on (.store a (aH 75) (aH 70))::bH 76 (.dS a (aH 63) (aH 65))::on (.store a (aH 76) (aH 74))::[])
(bk 0::bk 1::bk 2::bk 3::bk 4::bk 5::bk 6::bk 7::bk 8::bk 9::bk 10::bk 11::bk 12::bk 13::bk 14::bk 15::bk 16::bk 17::[])))
(.plain (aA 59 13::fE 60 .add 59 1::aA 13 60::[])))))))
.ret))))
.skip))
(.seq
(.seq
(.plain (aA 77 3::aA 78 2::cE 79 .sub 77 78::fE 80 .eql 79 1::[]))
(.cond (aH 80)
(.seq
(.plain (aA 81 1::aA 14 81::[]))
(.seq
(.plain (aA 82 2::aA 15 82::[]))
(.seq
(.block 4
(.loop
(.seq
(.seq
(.plain (aA 83 14::aA 84 15::cE 85 .lss 83 84::[]))
(.cond (aH 85)
.skip
(.exit 4)))
(.block 5
(.seq
(.plain (aA 86 14::aA 87 15::cE 88 .add 86 87::bH 89 (.je .u64 (aH 88))::bH 90 (.bin .shr (aH 89) (.const (.int .u64 1)))::bH 91 (.je .i64 (aH 90))::aA 16 91::[]))
(.seq
(.draw (aA 92 4::aA 93 0::aA 94 2::bH 95 (.dS a (aH 93) (aH 94))::bH 96 (.load b a (aH 95))::aA 97 0::aA 98 16::bH 99 (.dS a (aH 97) (aH 98))::bH 100 (.load b a (aH 99))::bH 101 (.jf (aH 92) [(aH 96),(aH 100)])::fE 102 .lss 101 0::bH 103 (.un .not (aH 102))::[])
(bk 0::bk 1::bk 2::bk 3::bk 4::bk 5::bk 6::bk 7::bk 8::bk 9::bk 10::bk 11::[]))
(.cond (aH 103)
(.plain (aA 104 16::fE 105 .add 104 1::aA 14 105::[]))
(.plain (aA 106 16::aA 15 106::[])))))))))
(.seq
(.seq
(.plain (aA 107 2::aA 17 107::[]))
(.block 6
(.loop
(.seq
(.seq
(.plain (aA 108 17::aA 109 14::cE 110 .gtr 108 109::[]))
(.cond (aH 110)
.skip
(.exit 6)))
(.seq
(.block 7
(.draw (aA 113 0::aA 114 17::aA 115 0::aA 116 17::fE 117 .sub 116 1::aA 118 0::aA 119 17::fE 120 .sub 119 1::bH 121 (.dS a (aH 118) (aH 120))::bH 122 (.load b a (aH 121))::aA 123 0::aA 124 17::bH 125 (.dS a (aH 123) (aH 124))::bH 126 (.load b a (aH 125))::bH 127 (.dS a (aH 113) (aH 114))::on (.store a (aH 127) (aH 122))::bH 128 (.dS a (aH 115) (aH 117))::on (.store a (aH 128) (aH 126))::[])
(bk 0::bk 1::bk 2::bk 3::bk 4::bk 5::bk 6::bk 7::bk 8::bk 9::bk 10::bk 11::bk 12::bk 13::bk 14::bk 15::bk 16::bk 17::[])))
(.plain (aA 111 17::fE 112 .sub 111 1::aA 17 112::[])))))))
.ret))))
.skip))
(.seq
(.plain (aA 129 1::aA 130 3::cE 131 .add 129 130::bH 132 (.je .u64 (aH 131))::bH 133 (.bin .shr (aH 132) (.const (.int .u64 1)))::bH 134 (.je .i64 (aH 133))::aA 18 134::[]))
(.seq
(.plain (aA 135 18::aA 136 2::cE 137 .add 135 136::aA 19 137::[]))
(.seq
(.plain (bH 20 (.fg (mm 0))::bH 21 (.fg (mm 0))::[]))
(.seq
(.seq
(.plain (aA 138 2::aA 139 18::cE 140 .gtr 138 139::[]))
(.cond (aH 140)
(.seq
(.plain (aA 141 19::aA 142 3::cE 143 .sub 141 142::aA 20 143::[]))
(.plain (aA 144 18::aA 21 144::[])))
(.seq
(.plain (aA 145 1::aA 20 145::[]))
(.plain (aA 146 2::aA 21 146::[])))))
(.seq
(.plain (aA 147 19::fE 148 .sub 147 1::aA 22 148::[]))
(.seq
(.block 8
(.loop
(.seq
(.seq
(.plain (aA 149 20::aA 150 21::cE 151 .lss 149 150::[]))
(.cond (aH 151)
.skip
(.exit 8)))
(.block 9
(.seq
(.plain (aA 152 20::aA 153 21::cE 154 .add 152 153::bH 155 (.je .u64 (aH 154))::bH 156 (.bin .shr (aH 155) (.const (.int .u64 1)))::bH 157 (.je .i64 (aH 156))::aA 23 157::[]))
(.seq
(.draw (aA 158 4::aA 159 0::aA 160 22::aA 161 23::cE 162 .sub 160 161::bH 163 (.dS a (aH 159) (aH 162))::bH 164 (.load b a (aH 163))::aA 165 0::aA 166 23::bH 167 (.dS a (aH 165) (aH 166))::bH 168 (.load b a (aH 167))::bH 169 (.jf (aH 158) [(aH 164),(aH 168)])::fE 170 .lss 169 0::bH 171 (.un .not (aH 170))::[])
(bk 0::bk 1::bk 2::bk 3::bk 4::bk 5::bk 6::bk 7::bk 8::bk 9::bk 10::bk 11::bk 12::bk 13::[]))
(.cond (aH 171)
(.plain (aA 172 23::fE 173 .add 172 1::aA 20 173::[]))
(.plain (aA 174 23::aA 21 174::[])))))))))
(.seq
(.plain (aA 175 19::aA 176 20::cE 177 .sub 175 176::aA 24 177::[]))
(.seq
(.seq
(.plain (aA 178 20::aA 179 2::cE 180 .lss 178 179::aA 181 180::fh 181 η 182 (.fg (aH 2))::fh 181 η 183 (.fg (aH 24))::fh 181 η 184 (.bin .lss (aH 182) (aH 183))::bH 185 (.pick (aH 181) (aH 184) qO)::[]))
(.cond (aH 185)
(.plain (aA 186 0::aA 187 20::aA 188 2::aA 189 24::aA 190 4::bH 191 (.gg d [(aH 186),(aH 187),(aH 188),(aH 189),(aH 190)])::[]))
.skip))
(.seq
(.seq
(.plain (aA 192 1::aA 193 20::cE 194 .lss 192 193::aA 195 194::fh 195 η 196 (.fg (aH 20))::fh 195 η 197 (.fg (aH 18))::fh 195 η 198 (.bin .lss (aH 196) (aH 197))::bH 199 (.pick (aH 195) (aH 198) qO)::[]))
(.cond (aH 199)
(.plain (aA 200 0::aA 201 1::aA 202 20::aA 203 18::aA 204 4::bH 205 (.gg c [(aH 200),(aH 201),(aH 202),(aH 203),(aH 204)])::[]))
.skip))
(.seq
(.plain (aA 206 18::aA 207 24::cE 208 .lss 206 207::aA 209 208::fh 209 η 210 (.fg (aH 24))::fh 209 η 211 (.fg (aH 3))::fh 209 η 212 (.bin .lss (aH 210) (aH 211))::bH 213 (.pick (aH 209) (aH 212) qO)::[]))
(.cond (aH 213)
(.plain (aA 214 0::aA 215 18::aA 216 24::aA 217 3::aA 218 4::bH 219 (.gg c [(aH 214),(aH 215),(aH 216),(aH 217),(aH 218)])::[]))
.skip))))))))))))),[]⟩
def a2G:dw γ 0 307=β (tz 41 η 307 330):=Χ
def a2H:dw γ 0 343=β (tz 1 ι 343 346):=Χ
def vE(c:Nat)(d:Bool)(a b:FuncId):ar:=⟨63,3,
(.seq
(.plain (bH 6 (.fg (mm 20))::[]))
(.seq
(.plain (aA 10 6::bH 7 (.fg (mm 0))::aA 8 10::[]))
(.seq
(.block 0
(.loop
(.seq
(.seq
(.plain (aA 11 8::aA 12 1::cE 13 .leq 11 12::[]))
(.cond (aH 13)
.skip
(.exit 0)))
(.block 1
(.seq
(.plain (aA 14 0::aA 15 7::aA 16 8::aA 17 2::bH 18 (.gg a [(aH 14),(aH 15),(aH 16),(aH 17)])::[]))
(.seq
(.plain (aA 19 8::aA 7 19::[]))
(.plain (aA 20 8::aA 21 6::cE 22 .add 20 21::aA 8 22::[]))))))))
(.seq
(.plain (aA 23 0::aA 24 7::aA 25 1::aA 26 2::bH 27 (.gg a [(aH 23),(aH 24),(aH 25),(aH 26)])::[]))
(.block 2
(.loop
(.seq
(.seq
(.plain (aA 28 6::aA 29 1::cE 30 .lss 28 29::[]))
(.cond (aH 30)
.skip
(.exit 2)))
(.block 3
(.seq
(.plain (aA 31 6::bH 32 (.bin .mul (mm 2) (aH 31))::bH 7 (.fg (mm 0))::aA 8 32::[]))
(.seq
(.block 4
(.loop
(.seq
(.seq
(.plain (aA 33 8::aA 34 1::cE 35 .leq 33 34::[]))
(.cond (aH 35)
.skip
(.exit 4)))
(.block 5
(.seq
(.plain (aA 36 0::aA 37 7::aA 38 7::aA 39 6::cE 40 .add 38 39::aA 41 8::aA 42 2::bH 43 (.gg b [(aH 36),(aH 37),(aH 40),(aH 41),(aH 42)])::[]))
(.seq
(.plain (aA 44 8::aA 7 44::[]))
(.plain (aA 45 8::aA 46 6::bH 47 (.bin .mul (mm 2) (aH 46))::cE 48 .add 45 47::aA 8 48::[]))))))))
(.seq
(.seq
(.plain (aA 49 7::aA 50 6::cE 51 .add 49 50::aA 9 51::[]))
(.seq
(.plain (aA 52 9::aA 53 1::cE 54 .lss 52 53::[]))
(.cond (aH 54)
(.plain (aA 55 0::aA 56 7::aA 57 9::aA 58 1::aA 59 2::bH 60 (.gg b [(aH 55),(aH 56),(aH 57),(aH 58),(aH 59)])::[]))
.skip)))
(.plain (aA 61 6::fE 62 .mul 61 2::aA 6 62::[]))))))))))))),[]⟩
def a2I:dw γ 0 270=β (vE 41 η 306 307):=Χ
def a2J:dw γ 0 333=β (vE 1 ι 143 343):=Χ
structure oV(k:Nat)(a:R)(l b n:Nat):Prop where
 jx:∀i,i<n->cz k a (.v (.int .i64 ((i:Nat):Int)))=β (.ptr l (b+i*k))
 len:fi a=β (.v (.int .i64 (n:Int)))
 cl:a.cells=[a]
def oW(b:Nat)(c:Bool)(a:R):Prop:=α a.cells=b/\aM c b a.cells=a
def el(a:ύ)(b:Nat):R:=a.getD b (.aJ [])
def vF(a:ύ)(b c:Nat):ύ:=(a.set b (el a c)).set c (el a b)
def W(a:U)(b:Nat)(c d h:ύ):U:=a.set b (.cells (c++flat h++d))
def a2K(a:e<α g):g[e]?=β (el g e):=by simp[el,a]
theorem kf(a:e<α g):el g e∈g:=a7r (a2K a)
theorem vG(a:e<α g)(b:i<α g):(vF g e i).Perm g:=by have c:=Array.swap_perm (xs:=g.toArray) (i:=e) (j:=i) (by trivial) (by trivial);grind[Array.perm_iff_toList_perm,vF,Array.swap,el,List.getD]
theorem zp(b:∀a∈g,α a.cells=i)(d:e<α g):(H++flat g++c0).drop (α H+e*i)=(el g e).cells++(flat (g.drop (e+1))++c0):=by
 have h:g=g.take e++el g e::g.drop (e+1):=by grind[List.take_append_drop,Ν,el,List.getD]
 have k:(flat (g.take e)).length=e*i:=by rw[cU (λa c=>b a (a7A c)),a7q,a8Y δ]
 grind[flat,el,List.append_assoc,List.drop_drop,List.drop_left]
theorem FV(a:∀b∈g,α b.cells=i)(c:e<α g)(d:α n.cells=i):putAt (H++flat g++c0) (α H+e*i) n.cells=H++flat (g.set e n)++c0:=by
 have y:(flat (g.take e)).length=e*i:=by rw[cU (λb h=>a b (a7A h)),a7q,a8Y δ]
 have k:g=g.take e++el g e::g.drop (e+1):=by grind[List.take_append_drop,Ν,el,List.getD]
 have z:flat g=flat (g.take e)++((el g e).cells++flat (g.drop (e+1))):=by
  conv=>lhs;rw[k]
  simp[flat]
 have o:flat (g.set e n)=flat (g.take e)++(n.cells++flat (g.drop (e+1))):=by rw[a8F,if_pos c];simp[flat]
 have p:=a _ (kf c);have r:(H++flat g++c0).take (α H+e*i)=H++flat (g.take e):=by grind
 have x:(H++flat g++c0).drop (α H+e*i+α n.cells)=flat (g.drop (e+1))++c0:=by rw[<-a8d,zp a c,d,<-p,aa0]
 rw[putAt,r,x,o];simp
structure a2L(k:Nat)(p:Bool)(d:U)(l c:Nat)(pre post es:ύ)(i h:Nat)(a b:R)(cs o r:ύ):Prop where
 st:en (W d l pre post es) l=β cs
 r9:cW p k (W d l pre post es) (.ptr l (c+i*k))=β a
 ra:cW p k (W d l pre post es) (.ptr l (c+h*k))=β b
 qd:α a.cells=k
 iz:α b.cells=k
 oi:c+i*k+k<=α cs
 oj:c+h*k+k<=α o
 nO:putAt cs (c+i*k) b.cells=o
 nP:putAt o (c+h*k) a.cells=r
 fin:(W d l pre post es).set l (.cells r)=W d l pre post (vF es i h)
variable{I:Bool}
theorem nR(D:0<e)(o:α H=M)(c:∀a∈g,oW e I a)(d:i<α g):cW I e (W f v H c0 g) (.ptr v (M+i*e))=β (el g i):=by
 subst o;have p:=λa r=>(c a r).1;have x:=c _ (kf d);have y:(W f v H c0 g).read v=β (H++flat g++c0):=κ (ξ _ _ _);have h:=zp p d (H:=H) (c0:=c0);have z:α H+i*e+e<=(H++flat g++c0).length:=by have:=congrArg α h;grind[Β,el,flat,List.length_drop]
 simp only[cW,y,if_pos z,h];obtain⟨k,b⟩:=x;rw[<-b]
 conv=>rhs;rw[b]
 generalize el g i=a at*;cases I
 .simp only[aM,a8o,if_false]at b|-;cases C:a.cells with
  |nil=>rw[C]at k;simp at k;omega
  |cons E F=>simp_all
 simp_all [Φ,aM]
theorem vH(E:0<e)(o:α H=b9)(p:∀a∈g,oW e I a)(b:i<α g)(c:v<α g):
  ∃F G L,a2L e I f M b9 H c0 g i v (el g i) (el g v) F G L:=by
 have d:=λa r=>(p a r).1;have x:=d _ (kf b);have y:=d _ (kf c);have z:∀a∈g.set i (el g v),α a.cells=e:=λa r=>by
  grind
 have P:=FV d b (H:=H) (c0:=c0) y;have S:=FV z (by simpa using c) (H:=H) (c0:=c0) x;have C:=λ{i} b=>nR E (f:=f) (v:=M) (c0:=c0) o p (i:=i) b;have D:∀(h)(k),(∀a∈h,α a.cells=e)->k<α h->α H+k*e+e<=(H++flat h++c0).length:=λh k T V=>by
  have:=congrArg α (zp T V (H:=H) (c0:=c0));grind[Β,el,flat,List.length_drop,kf]
 subst o;refine⟨_,_,_,?_,C b,C c,x,y,D g i d b,D _ v z (by simpa using c),P,S,?_⟩
 .simp[en,W,ξ]
 .simp only[W,τ,vF]
variable{b4:FuncId}
section
def zq(x:dw γ 0 b4=β (qc e I))(y:0<e)(z:α g=v)(h:oV e n i v (α c0))(T:α c0<=1000000000000)(V:M+j1<=α c0)(j:b9+j1<=α c0)(C:R)(k:ύ)(D:k.Perm c0)(E:∀o∈c0,oW e I o):
  AC γ b4 [n,.v (.int .i64 (M:Int)),.v (.int .i64 (b9:Int)),.v (.int .i64 (j1:Int)),C] (W f i g H k) λl p=>∃r,r.Perm c0/\p=W f i g H r:=by
 have m:=h.cl;refine aK hm x ?_;refine cc [0,1,2,3] (λb:Nat×ύ=>[(10,.v (.int .i64 (b.1)))]) (λb p=>p=W f i g H b.2/\b.2.Perm c0/\b.1<=j1) (λb=>j1 - b.1) (0,k) ⟨⟨rfl,D,δ⟩,aO⟩ ?_;rintro⟨a,d⟩ _ ⟨rfl,c,F⟩ q
 dsimp only at c F|-
 refine aa ?_;refine aF (λG=>?_) λG=>?_
 .have s:=c.length_eq;obtain⟨t,u,w,L⟩:=vH y (f:=f) (M:=i) (c0:=H) z (λo P=>E o (c.mem_iff.1 P)) (i:=M+a) (v:=b9+a) δ δ;have S:=vG (g:=d) (e:=M+a) (i:=b9+a) δ δ;obtain⟨A,B,K,N,O,Q,X,Y,Z,j9⟩:=L;have k0:=h.jx (M+a) δ;have k1:=h.jx (b9+a) δ;generalize W f i g H d=k2 at*;generalize el d (M+a)=b at*;generalize el d (b9+a)=k3 at*;have k4:(M)+(a)=((M+a:Nat):Int):=rfl;have k5:(b9)+(a)=((b9+a:Nat):Int):=rfl;refine aa ?_;exact⟨(a+1,_),⟨rfl,S.trans c,by show a+1<=j1;omega⟩,rfl,by show j1 -(a+1)<j1 - a;omega⟩
 .exact⟨_,θ,_,c,rfl⟩
theorem a2M{L:FuncId}(T:dw γ 0 b4=β (rB e I L))(r:dw γ 0 L=β (qc e I))(x:0<e)(y:α g=v)(o:oV e n i v (α c0))(z:α c0<=1000000000000)(u:j1<M)(w:M<b9)(A:b9<=α c0)(p:R)(C:ύ)(V:C.Perm c0)(D:∀j∈c0,oW e I j):
  AC γ b4 [n,.v (.int .i64 (j1:Int)),.v (.int .i64 (M:Int)),.v (.int .i64 (b9:Int)),p] (W f i g H C) λE F=>∃P,P.Perm c0/\F=W f i g H P:=by
 have B:=o.cl;have S:(M) -(j1)=((M - j1:Nat):Int):=δ;have d:(b9) -(M)=((b9 - M:Nat):Int):=δ;refine aK hm T ?_;refine cc [0,1,2,3,4] (λc:(Nat×Nat)×ύ=>[(10,.v (.int .i64 (c.1.1))),(11,.v (.int .i64 (c.1.2)))]) (λc F=>F=W f i g H c.2/\c.2.Perm c0/\0<c.1.1/\0<c.1.2/\c.1.1<=M - j1/\c.1.2<=b9 - M) (λc=>c.1.1+c.1.2) ((M - j1,b9 - M),C) ⟨⟨rfl,V,by show 0<M - j1;omega,by show 0<b9 - M;omega,a7T _,a7T _⟩,aO⟩ ?_;clear S d;rintro⟨⟨a,b⟩,d⟩ _ ⟨rfl,G,l,m,q,s⟩ K
 dsimp only at*
 have S:(M) -(a)=((M - a:Nat):Int):=δ;refine aa ?_;refine aF (λt=>?_) λt=>?_
 .refine aF (λc2=>?_) λc2=>?_
  .refine ah (zq r x y o z δ δ p d G D) ?_;rintro E _⟨h,k,rfl⟩;refine aa ?_;exact⟨((a - b,b),h),⟨rfl,k,by show 0<a - b;omega,m,by show a - b<=M - j1;omega,s⟩,⟨by grind,rfl⟩,by show a - b+b<a+b;omega⟩
  .have h:(M)+(b) -(a)=((M+b - a:Nat):Int):=δ;refine aa ?_;refine ah (zq r x y o z δ δ p d G D) ?_;rintro E _⟨h,k,rfl⟩;refine aa ?_;exact⟨((a,b - a),h),⟨rfl,k,l,by show 0<b - a;omega,q,by show b - a<=b9 - M;omega⟩,⟨rfl,by grind⟩,by show a+(b - a)<a+b;omega⟩
 .obtain rfl:a=b:=δ;refine aa ?_;refine ah (zq r x y o z δ δ p d G D) ?_;rintro E _⟨h,k,rfl⟩;refine aa ?_;exact⟨_,θ,_,k,rfl⟩
def oX(c:U)(d:Nat)(h k a:ύ)(o:FuncId)(x y:ύ)(z:R->R->Int):Prop:=
 fA γ o=η/\∀b,b.Perm a->∀p∈a,∀r∈a,AC γ o (x++[p,r]++y) (W c d h k b) λC D=>D=W c d h k b/\C=.v (.int .i64 (z p r))
def FW(P:dw γ 0 b4=β (tx e I))(o:0<e)(p:α g=v)(r:oV e n i v (α c0))(t:α c0<=1000000000000)(u:M<=b9)(w:b9<=α c0){C:FuncId}{D E:ύ}{S:R->R->Int}(F:oX f i g H c0 C D E S)(x:ύ)(T:x.Perm c0)(V:∀y∈c0,oW e I y):
  AC γ b4 [n,.v (.int .i64 (M:Int)),.v (.int .i64 (b9:Int)),.bG C D E] (W f i g H x) λA h=>∃G,G.Perm c0/\h=W f i g H G:=by
 have B:=r.cl;refine aK hm P ?_;refine cc [0,1,2,3] (λa:Nat×ύ=>[(8,.v (.int .i64 (a.1)))]) (λa h=>h=W f i g H a.2/\a.2.Perm c0/\M<a.1/\a.1<=b9+1) (λa=>b9+1 - a.1) (M+1,x) ⟨⟨rfl,T,by show M<M+1;omega,by show M+1<=b9+1;omega⟩,aa YP⟩ ?_;rintro⟨c,j⟩ _ ⟨rfl,L,K,N⟩ O
 dsimp only at*
 refine aa ?_;refine aF (λl=>?_) λl=>?_
 .refine cc [0,1,2,3,8] (λa:Nat×ύ=>[(9,.v (.int .i64 (a.1)))]) (λa h=>h=W f i g H a.2/\a.2.Perm c0/\M<=a.1/\a.1<=c) (λa=>a.1) (c,j) ⟨⟨rfl,L,by show M<=c;omega,a7T _⟩,aO⟩ ?_;rintro⟨b,k⟩ _ ⟨rfl,d,Q,X⟩ Y
  dsimp only at*
  have Z:=d.length_eq;refine aa ?_;refine aF (λm=>?_) λm=>?_
  .have j9:=r.jx b δ;have k0:=r.jx (b - 1) δ;have k1:(b) - 1=((b - 1:Nat):Int):=δ;have z:=λy q=>V y (d.mem_iff.1 q);have k2:=nR o (f:=f) (v:=i) (c0:=H) p z (i:=b) δ;have k3:=nR o (f:=f) (v:=i) (c0:=H) p z (i:=b - 1) δ;refine aa ?_;refine eR F.1 (F.2 k d _ (d.mem_iff.1 (kf δ)) _ (d.mem_iff.1 (kf δ))) ?_;rintro _ _⟨rfl,rfl⟩;refine aa ?_;refine aF (λc2=>?_) λc2=>?_
   .obtain⟨k4,k5,k6,k7,k8,k9,l0,l1,l2,l3,l4,l5,l6⟩:=vH o (f:=f) (M:=i) (c0:=H) p z (i:=b) (v:=b - 1) δ δ;have s:=vG (g:=k) (e:=b) (i:=b - 1) δ δ;generalize W f i g H k=l7 at*;generalize el k b=a at*;generalize el k (b - 1)=l8 at*;refine aa ?_;exact⟨(b - 1,_),⟨rfl,s.trans d,by show M<=b - 1;omega,by show b - 1<=c;omega⟩,rfl,by show b - 1<b;omega⟩
   .exact⟨(c+1,_),⟨rfl,d,by show M<c+1;omega,by show c+1<=b9+1;omega⟩,rfl,δ⟩
  .exact⟨(c+1,_),⟨rfl,d,by show M<c+1;omega,by show c+1<=b9+1;omega⟩,rfl,δ⟩
 .exact⟨_,θ,_,L,rfl⟩
def vI(a b:Nat):bt .shr (.int .u64 ((a:Int)+(b:Int))) (.int .u64 1)=β (.int .u64 (((a+b)/2:Nat):Int)):=by have:=so (a+b) .u64 1 δ δ;rw[a8e]at this;exact this
theorem vJ{O A k5:FuncId}(Q:dw γ 0 O=β (tz e I O A))(X:dw γ 0 A=β (rB e I k5))(Y:dw γ 0 k5=β (qc e I))(P:0<e)(S:α g=v)(F:oV e n i v (α c0))(Z:α c0<=1000000000000){k6:FuncId}{k7 k8:ύ}{l4:R->R->Int}(V:oX f i g H c0 k6 k7 k8 l4)(j:∀D∈c0,oW e I D):∀(B h c k:Nat),k - h<=B->h<c->c<k->k<=α c0->∀(E:ύ),E.Perm c0->
  AC γ O [n,.v (.int .i64 (h:Int)),.v (.int .i64 (c:Int)),.v (.int .i64 (k:Int)),.bG k6 k7 k8] (W f i g H E) λa08 C=>∃k9,k9.Perm c0/\C=W f i g H k9
 |0,h,c,k,l5,l6,l7,l8,E,y=>by omega
 |B+1,h,c,k,l5,l6,l7,l8,E,y=>by
  have a09:=F.cl;refine aK hm Q ?_;refine aF (λl9=>?_) λl9=>?_
  .refine gv [0,1,2,3,4] (λa:Nat×Nat=>[(10,.v (.int .i64 (a.1))),(11,.v (.int .i64 (a.2)))]) (λa=>c<=a.1/\a.1<=a.2/\a.2<=k) (λa=>a.2 - a.1) (c,k) ⟨a7T _,by show c<=k;omega,a7T _⟩ aO ?_;rintro⟨b,d⟩ ⟨G,l,L⟩ m
   dsimp only at G l L|-
   refine aa ?_;have j9:=vI b d;have K:=y.length_eq;have q:=λD T=>j D (y.mem_iff.1 T);refine aF (λc2=>?_) λc2=>?_
   .have M:=F.jx ((b+d)/2) δ;have N:=F.jx h δ;have l0:=nR P (f:=f) (v:=i) (c0:=H) S q (i:=(b+d)/2) δ;have l1:=nR P (f:=f) (v:=i) (c0:=H) S q (i:=h) δ;have l2:(b+d)/2<=1000000000000:=δ;obtain⟨s,k0⟩:b<=(b+d)/2/\(b+d)/2<d:=δ;have w:=V.2 E y _ (y.mem_iff.1 (kf (e:=(b+d)/2) δ)) _ (y.mem_iff.1 (kf (e:=h) δ));generalize (b+d)/2=o at*;refine aa ?_;refine eR V.1 w ?_;rintro _ _⟨rfl,rfl⟩;refine aa ?_;refine aF (λaE=>?_) λaE=>?_
    .exact⟨(o+1,d),⟨by show c<=o+1;omega,by show o+1<=d;omega,L⟩,⟨rfl,rfl⟩,by show d -(o+1)<d - b;omega⟩
    .exact⟨(b,o),⟨G,s,by show o<=k;omega⟩,⟨rfl,rfl⟩,by show o - b<d - b;omega⟩
   .refine cc [0,1,2,3,4,10] (λa:Nat×ύ=>[(13,.v (.int .i64 (a.1)))]) (λa C=>C=W f i g H a.2/\a.2.Perm c0/\h<=a.1) (λa=>b - a.1) (h,E) ⟨⟨rfl,y,a7T _⟩,aO⟩ ?_;rintro⟨p,z⟩ _ ⟨rfl,x,k1⟩ A
    dsimp only at x k1|-
    refine aa ?_;refine aF (λaE=>?_) λaE=>?_
    .have K:=x.length_eq;have k2:=λD T=>j D (x.mem_iff.1 T);have M:=F.jx p δ;have N:=F.jx (p+1) δ;have l3:(p)+1=((p+1:Nat):Int):=δ;obtain⟨n0,n1,n2,n3,n4,n5,n9,a00,a01,a02,a03,a04,a05⟩:=vH P (f:=f) (M:=i) (c0:=H) S k2 (i:=p) (v:=p+1) δ δ;have k3:=vG (g:=z) (e:=p) (i:=p+1) δ δ;generalize W f i g H z=a06 at*;generalize el z p=a at*;generalize el z (p+1)=a07 at*;refine aa ?_;exact⟨(p+1,_),⟨rfl,k3.trans x,by show h<=p+1;omega⟩,rfl,by show b -(p+1)<b - p;omega⟩
    .exact⟨_,θ,_,x,rfl⟩
  .refine aF (λc2=>?_) λc2=>?_
   .refine gv [0,1,2,3,4] (λa:Nat×Nat=>[(14,.v (.int .i64 (a.1))),(15,.v (.int .i64 (a.2)))]) (λa=>h<=a.1/\a.1<=a.2/\a.2<=c) (λa=>a.2 - a.1) (h,c) ⟨a7T _,by show h<=c;omega,a7T _⟩ aO ?_;rintro⟨b,d⟩ ⟨G,l,L⟩ m
    dsimp only at G l L|-
    refine aa ?_;have j9:=vI b d;have K:=y.length_eq;have q:=λD T=>j D (y.mem_iff.1 T);refine aF (λaE=>?_) λaE=>?_
    .have M:=F.jx ((b+d)/2) δ;have N:=F.jx c δ;have l0:=nR P (f:=f) (v:=i) (c0:=H) S q (i:=(b+d)/2) δ;have l1:=nR P (f:=f) (v:=i) (c0:=H) S q (i:=c) δ;obtain⟨s,k0⟩:b<=(b+d)/2/\(b+d)/2<d:=δ;have w:=V.2 E y _ (y.mem_iff.1 (kf (e:=c) δ)) _ (y.mem_iff.1 (kf (e:=(b+d)/2) δ));have l2:(b+d)/2<=1000000000000:=δ;generalize (b+d)/2=o at*;refine aa ?_;refine eR V.1 w ?_;rintro _ _⟨rfl,rfl⟩;refine aa ?_;refine aF (λaE=>?_) λaE=>?_
     .exact⟨(o+1,d),⟨by show h<=o+1;omega,by show o+1<=d;omega,L⟩,⟨rfl,rfl⟩,by show d -(o+1)<d - b;omega⟩
     .exact⟨(b,o),⟨G,s,by show o<=c;omega⟩,⟨rfl,rfl⟩,by show o - b<d - b;omega⟩
    .refine cc [0,1,2,3,4,14] (λa:Nat×ύ=>[(17,.v (.int .i64 (a.1)))]) (λa C=>C=W f i g H a.2/\a.2.Perm c0/\a.1<=c) (λa=>a.1) (c,E) ⟨⟨rfl,y,a7T _⟩,aO⟩ ?_;rintro⟨p,z⟩ _ ⟨rfl,x,k1⟩ A
     dsimp only at x k1|-
     refine aa ?_;refine aF (λaL=>?_) λaL=>?_
     .have K:=x.length_eq;have k2:=λD T=>j D (x.mem_iff.1 T);have M:=F.jx p δ;have N:=F.jx (p - 1) δ;have l3:(p) - 1=((p - 1:Nat):Int):=δ;obtain⟨n0,n1,n2,n3,n4,n5,n9,a00,a01,a02,a03,a04,a05⟩:=vH P (f:=f) (M:=i) (c0:=H) S k2 (i:=p) (v:=p - 1) δ δ;have k3:=vG (g:=z) (e:=p) (i:=p - 1) δ δ;generalize W f i g H z=a06 at*;generalize el z p=a at*;generalize el z (p - 1)=a07 at*;refine aa ?_;exact⟨(p - 1,_),⟨rfl,k3.trans x,by show p - 1<=c;omega⟩,rfl,by show p - 1<p;omega⟩
     .exact⟨_,θ,_,x,rfl⟩
   .have j9:=vI h k;have a10:(h+k)/2<=1000000000000:=δ;obtain⟨s,k0⟩:h<(h+k)/2/\(h+k)/2<k:=δ;have a11:(h+k)/2 - h<=k -(h+k)/2:=δ;have a13:k -(h+k)/2<=(h+k)/2 - h+1:=δ;generalize (h+k)/2=r at*;refine aa ?_;refine oy [0,1,2,3,4,18,19] (λa:Nat×Nat=>[(20,.v (.int .i64 (a.1))),(21,.v (.int .i64 (a.2)))]) (λa C=>C=W f i g H E/\h<=a.1/\a.1<=a.2/\r+c<=k+a.1/\a.2<=r/\a.2<=c) (λaE=>?_) (λaE=>?_) ?_
    .have aE:=of_decide_eq_true aE;have a14:(r)+(c) -(k)=((r+c - k:Nat):Int):=δ;refine aa ?_;exact⟨(r+c - k,r),⟨by show h<=r+c - k;omega,by show r+c - k<=r;omega,δ,a7T _,by show r<=c;omega⟩,rfl,rfl⟩
    .have aE:=of_decide_eq_false aE;refine aa ?_;exact⟨(h,c),⟨a7T _,by show h<=c;omega,by show r+c<=k+h;omega,by show c<=r;omega,a7T _⟩,rfl,rfl⟩
    rintro⟨b,d⟩ _ ⟨rfl,G,l,t,L,u⟩ m
    dsimp only at G l t L u|-
    refine pJ [0,1,2,3,4,18,19,20,21] (λ_:Unit=>[(22,.v (.int .i64 ((r+c - 1:Nat))))]) (λ_ C=>C=W f i g H E) ?_ ?_
    .refine aa ?_;exact⟨(),by congr 2;omega⟩
    rintro _ _ rfl m;refine pJ [0,1,2,3,4,18,19] (λb:Nat=>[(20,.v (.int .i64 (b)))]) (λb C=>C=W f i g H E/\h<=b/\r+c<=k+b/\b<=r/\b<=c) ?_ ?_
    .refine aa ?_;refine gv [0,1,2,3,4,18,19,22] (λa:Nat×Nat=>[(20,.v (.int .i64 (a.1))),(21,.v (.int .i64 (a.2)))]) (λa=>h<=a.1/\a.1<=a.2/\r+c<=k+a.1/\a.2<=r/\a.2<=c) (λa=>a.2 - a.1) (b,d) ⟨G,l,t,L,u⟩ aO ?_;rintro⟨b,d⟩ ⟨G,l,t,L,u⟩ m
     dsimp only at G l t L u|-
     have j9:=vI b d;have K:=y.length_eq;have q:=λD T=>j D (y.mem_iff.1 T);refine aa ?_;refine aF (λaL=>?_) λaL=>?_
     .obtain⟨s,k0⟩:b<=(b+d)/2/\(b+d)/2<d:=δ;have l2:(b+d)/2<=1000000000000:=δ;generalize (b+d)/2=o at*;have l3:((r+c - 1:Nat)) -(o)=((r+c - 1 - o:Nat):Int):=δ;have M:=F.jx o δ;have N:=F.jx (r+c - 1 - o) δ;have l0:=nR P (f:=f) (v:=i) (c0:=H) S q (i:=o) δ;have l1:=nR P (f:=f) (v:=i) (c0:=H) S q (i:=r+c - 1 - o) δ;have w:=V.2 E y _ (y.mem_iff.1 (kf (e:=r+c - 1 - o) δ)) _ (y.mem_iff.1 (kf (e:=o) δ));refine aa ?_;refine eR V.1 w ?_;rintro _ _⟨rfl,rfl⟩;refine aa ?_;refine aF (λbh=>?_) λbh=>?_
      .exact⟨(o+1,d),⟨by show h<=o+1;omega,by show o+1<=d;omega,by show r+c<=k+(o+1);omega,L,u⟩,⟨rfl,rfl⟩,by show d -(o+1)<d - b;omega⟩
      .exact⟨(b,o),⟨G,s,t,by show o<=r;omega,by show o<=c;omega⟩,⟨rfl,rfl⟩,by show o - b<d - b;omega⟩
     grind
    rintro b _⟨rfl,G,t,L,u⟩m;refine pJ [0,1,2,3,4,18,20] (λ_:Unit=>[(24,.v (.int .i64 ((r+c - b:Nat))))]) (λ_ C=>C=W f i g H E) ?_ ?_
    .refine aa ?_;exact⟨(),by congr 2;omega⟩
    rintro _ _ rfl m;obtain⟨D,T⟩:∃D,r+c - b=D:=⟨_,rfl⟩;have a15:D<=k:=δ;rw[T];refine pJ [0,1,2,3,4,18,20,24] (λ_:ύ=>[]) (λa C=>C=W f i g H a/\a.Perm c0) ?_ ?_
    .refine aa ?_;refine aF (λaL=>?_) λaL=>?_
     .refine aF (λbh=>?_) λbh=>?_
      .refine ah (a2M X Y P S F Z δ δ δ _ E y j) ?_;rintro _ _⟨z,x,rfl⟩;refine aa ?_;exact⟨z,rfl,x⟩
      .exact⟨E,rfl,y⟩
     .exact⟨E,rfl,y⟩
    rintro z _⟨rfl,x⟩m;refine pJ [0,1,2,3,4,18,20,24] (λ_:ύ=>[]) (λa C=>C=W f i g H a/\a.Perm c0) ?_ ?_
    .refine aa ?_;refine aF (λaL=>?_) λaL=>?_
     .refine aF (λbh=>?_) λbh=>?_
      .refine ah (vJ Q X Y P S F Z V j B h b r δ δ δ δ z x) ?_;rintro _ _⟨k4,x,rfl⟩;refine aa ?_;exact⟨k4,rfl,x⟩
      .exact⟨z,rfl,x⟩
     .exact⟨z,rfl,x⟩
    rintro z _⟨rfl,x⟩m;refine aa ?_;refine aF (λaL=>?_) λaL=>?_
    .refine aF (λbh=>?_) λbh=>?_
     .refine ah (vJ Q X Y P S F Z V j B r D k δ δ δ δ z x) ?_;rintro _ _⟨k4,x,rfl⟩;refine aa ?_;exact⟨_,θ,k4,x,rfl⟩
     .exact⟨_,θ,z,x,rfl⟩
    .exact⟨_,θ,z,x,rfl⟩
def a2N{T V D j:FuncId}(O:dw γ 0 T=β (vE e I V b4))(l:dw γ 0 V=β (tx e I))(m:dw γ 0 b4=β (tz e I b4 D))(q:dw γ 0 D=β (rB e I j))(s:dw γ 0 j=β (qc e I))(p:0<e)(r:α g=v)(E:oV e n i v (α c0))(Q:α c0<=1000000000){t:FuncId}{u w:ύ}{X:R->R->Int}(x:oX f i g H c0 t u w X)(y:∀Y∈c0,oW e I Y):
  AC γ T [n,.v (.int .i64 (α c0:Int)),.bG t u w] (W f i g H c0) λk4 h=>∃A,A.Perm c0/\h=W f i g H A:=by
 have k5:=E.cl;have B:α c0<=1000000000000:=δ;have z:=E;have C:=B;obtain⟨b,Z⟩:∃b,α c0=b:=⟨_,rfl⟩;rw[Z]at Q B E|-;refine aK hm O ?_;refine cc [0,1,2,6] (λa:Nat×ύ=>[(7,.v (.int .i64 (a.1))),(8,.v (.int .i64 ((a.1+20:Nat))))]) (λa h=>h=W f i g H a.2/\a.2.Perm c0/\a.1<=b) (λa=>b - a.1) (0,c0) ⟨⟨rfl,.refl _,a7N _⟩,aO⟩ ?_;rintro⟨c,K⟩ _ ⟨rfl,F,G⟩ k6
 dsimp only at F G|-
 refine aa ?_;refine aF (λj9=>?_) λj9=>?_
 .refine ah (FW l p r z C δ δ x K F y) ?_;rintro _ _⟨L,k,rfl⟩;refine aa ?_;exact⟨(c+20,L),⟨rfl,k,by show c+20<=b;omega⟩,⟨rfl,rfl⟩,by show b -(c+20)<b - c;omega⟩
 .refine ah (FW l p r z C δ δ x K F y) ?_;rintro _ _⟨L,k,rfl⟩;refine aa ?_;refine cc [0,1,2] (λa:Nat×ύ=>[(6,.v (.int .i64 (a.1)))]) (λa h=>h=W f i g H a.2/\a.2.Perm c0/\0<a.1/\a.1<=20+2*b) (λa=>b - a.1) (20,L) ⟨⟨rfl,k,by show 0<20;omega,by show 20<=20+2*b;omega⟩,aO⟩ ?_;rintro⟨aV,M⟩ _ ⟨rfl,P,k0,k1⟩ b4
  dsimp only at P k0 k1|-
  refine aa ?_;refine aF (λc2=>?_) λc2=>?_
  .have k7:2*(aV)=((2*aV:Nat):Int):=δ;refine cc [0,1,2,6] (λa:Nat×ύ=>[(7,.v (.int .i64 (a.1))),(8,.v (.int .i64 ((a.1+2*aV:Nat))))]) (λa h=>h=W f i g H a.2/\a.2.Perm c0/\a.1<=b) (λa=>b - a.1) (0,M) ⟨⟨rfl,P,a7N _⟩,by rw[a7Q];exact aO⟩ ?_;rintro⟨c,N⟩ _ ⟨rfl,S,G⟩ D
   dsimp only at S G|-
   have k8:(c)+(aV)=((c+aV:Nat):Int):=rfl;refine aa ?_;refine aF (λaE=>?_) λaE=>?_
   .refine ah (vJ m q s p r z C x y _ c (c+aV) (c+2*aV) (a7T _) δ δ δ N S) ?_;rintro _ _⟨d,k,rfl⟩;refine aa ?_;exact⟨(c+2*aV,d),⟨rfl,k,by show c+2*aV<=b;omega⟩,⟨rfl,ς⟩,by show b -(c+2*aV)<b - c;omega⟩
   .have k2:∀d:ύ,d.Perm c0->∃o:Nat×ύ,(W f i g H d=W f i g H o.2/\o.2.Perm c0/\0<o.1/\o.1<=20+2*b)/\R.v (.int .i64 ((aV)*2))=.v (.int .i64 (o.1))/\b - o.1<b - aV:=λd k3=>⟨(aV*2,d),⟨rfl,k3,by show 0<aV*2;omega,by show aV*2<= _;omega⟩,rfl,by show b - aV*2<b - aV;omega⟩;refine aF (λaL=>?_) λaL=>?_
    .refine ah (vJ m q s p r z C x y _ c (c+aV) b (a7T _) δ δ δ N S) ?_;rintro _ _⟨d,k,rfl⟩;have:=k2 d k;exact aO
    .trivial
  .exact⟨_,θ,M,P,rfl⟩
def zr(a:FuncId):ar:=⟨9,2,.plain (aA 4 0::aA 5 0::py 6 5::aA 7 1::bH 8 (.gg a [aH 4,aH 6,aH 7])::[]),[]⟩
def FX{b c d h k:FuncId}(y:dw γ 0 b=β (zr c))(z:dw γ 0 c=β (vE e I d b4))(C:dw γ 0 d=β (tx e I))(D:dw γ 0 b4=β (tz e I b4 h))(E:dw γ 0 h=β (rB e I k))(F:dw γ 0 k=β (qc e I))(G:0<e)(L:α g=v)(a:oV e n i v (α c0))(P:α c0<=1000000000){o:FuncId}{p r:ύ}{S:R->R->Int}(T:oX f i g H c0 o p r S)(V:∀j∈c0,oW e I j):
  AC γ b [n,.bG o p r] (W f i g H c0) λs l=>∃x,x.Perm c0/\l=W f i g H x:=by
 have t:=a.cl;have u:=a.len;refine aK hm y ?_;refine ah (a2N z C D E F G L a P T V) ?_;rintro _ _⟨m,q,rfl⟩;refine aa ?_;exact⟨_,θ,m,q,rfl⟩
end
def a2O:dw γ 0 215=β (zr 270):=Χ
def a2P:dw γ 0 310=β (zr 333):=Χ
theorem av.wr(d:av s f e H n)(h:0<e)(k:H=flat g)(o:∀c∈g,α c.cells=e)(E:g≠[]):
  ∃a post b,s a=ζ/\n=.aq a (α g) b e/\f=W f a [] post g/\oV e n a 0 (α g)/\α g<=b/\b<=maxLen/\(α g*e+α post=b*e):=by
 subst k;have F:=cU o;obtain⟨G,⟨c,_⟩|⟨a,p,b,r,rfl,x,y,L,z,P,C,D⟩⟩:=d;grind[List.length_nil,List.length_pos_iff,Nat.mul_pos]
 .obtain rfl:p=α g:=a9M h δ;refine⟨a,r.drop (α g*e),b,x,rfl,?_,⟨λS T=>?_,rfl,rfl⟩,C,D,?_⟩
  .rw[W,a7H,<-z,a7V];exact(U.tf y).symm
  simp_all [jQ];grind
theorem W.dK(d:f.sub s)(b:f v=ζ)(h:∀a∈g,α a.cells=e)(c:H.Perm g)(k:α g<=i)(o:i<=maxLen)(x:α g*e+α c0=i*e):
  av f (W s v [] c0 H) e (flat H) (.aq v (α g) i e):=by
 have p:(flat H).length=α g*e:=by rw[cU λa r=>h a (c.mem_iff.1 r),c.length_eq]
 refine⟨μ d b,.inr ⟨v,_,i,_,rfl,b,ξ _ _ _,?_,?_,p,k,o⟩⟩;simp_all;simp_all
theorem aB.mem{h:Type}{k:h->R->Prop}:∀ {c:List h}{aV:ύ},aB k c aV->∀ {b:R},b∈aV->∃d,d∈c/\k d b
 |[],[],_,b,a=>by cases a
 |d::c,p::aV,⟨h1,o⟩,b,a=>by
  rcases a7J.1 a with rfl|a
  .simp_all
  .obtain⟨r,x,y⟩:=aB.mem o a;grind
 |[],_:: _,a,_,_=>a.elim
 |_:: _,[],a,_,_=>a.elim
variable{b0:Type}
def aB.perm{p:b0->R->Prop}(r:g.Perm H):∀ {a:List b0},aB p a H->∃c,c.Perm a/\aB p c g:=by
 induction r with
 |nil=>exact λ{a} b=>⟨a,.refl _,b⟩
 |cons x _ ih=>
  intro a b
  match a,b with
  |h::a,⟨h1,k⟩=>obtain⟨c,d,o⟩:=ih k;exact⟨h::c,d.cons _,h1,o⟩
 |swap x G L=>
  intro a b
  match a,b with
  |h::y::a,⟨h1,k,d⟩=>exact⟨y::h::a,.swap _ _ _,k,h1,d⟩
 |trans _ _ z C=>intro a b;obtain⟨c,d,o⟩:=C b;obtain⟨D,E,F⟩:=z o;exact⟨D,E.trans d,F⟩
theorem oX.of{s:U}{l:Nat}{ds d:ύ}(r:fA γ b4=η)(x:∀b∈c0,∀c∈c0,∃h:Int,∀a,a.Perm c0->AC γ b4 (ds++[b,c]++d) (W s l g H a) λk o=>o=W s l g H a/\k=.v (.int .i64 h)):
  ∃y,oX s l g H c0 b4 ds d y:=by
 classical
 exact⟨λb c=>if z:∃h:Int,∀a,a.Perm c0->AC γ b4 (ds++[b,c]++d) (W s l g H a) λk o=>o=W s l g H a/\k=.v (.int .i64 h)then z.choose else 0,r,λa C b D c E=>by
  have p:=x b D c E;simp only[dif_pos p];exact p.choose_spec a C⟩
theorem a2Q(E:Own)(p:Nat)(n3:1<=p)(n4:p<=8)(a:List Ω)(q:ύ)(V:R)(x:U)(F:bO x 1 V q)(e:aB isRow a q)(s:∀k∈a,α k=p)(n5:α a<=100000)(j9:a≠[]):
  AC γ 275 [ga.V E,V] x λk f=>∃t g,g.Perm a/\aB isRow g t/\av x f 1 (flat t) k:=by
 have k0:=e.len;have n9:=F.one;have k1:=F.len;rw[k0]at k1;refine aK hm Ta ?_;refine bs λy a00=>?_;generalize i:x.set y _=j;have u:x.sub j:=by subst i;exact aO
 have G:j y=β (.cells [.v (.int .u8 0),.v (.int .i64 0),.J (ad []) E]):=by subst i;exact aO
 clear i;refine cc [1,2,8,9] (λd:Nat×R=>[(10,.v (.int .i64 (d.1))),(5,d.2)]) (λd f=>d.1<=α a/\∃h,av j f 1 h d.2/\h=flat h/\aB isRow (a.take d.1) h) (λd=>α a - d.1) (0,.J [] .nil) ⟨⟨a7N _,[],av.nil θ,rfl,trivial⟩,aO⟩ ?_;rintro⟨b,d⟩ r ⟨k2,h,o,z,c⟩ a01
 dsimp only at k2 o c|-
 have a02:=κ (o.1 _ _ G);refine aa ?_;refine aF (λk3=>?_) λk3=>?_
 .have k4:=a8q.2 j9;obtain⟨_,L,v,rfl⟩:=e.get (i:=b) (x:=a.getD b []) (by grind);obtain⟨_,k5,k6,rfl⟩:=e.get (i:=0) (x:=a.getD 0 []) (by simp[k4]);obtain⟨C,a03,l⟩:=F.get b _ L;obtain⟨w,A,k7⟩:=F.get 0 _ k5;have A:cz 1 V (.v (.int .i64 0))=β w:=A;have B:=π u o.1;have a04:cW ι 1 r C=β (.J (ad (a.getD b [])) v):=l.ld r B ι 1 δ (by simp[σ]);have a05:cW ι 1 r w=β (.J (ad (a.getD 0 [])) k6):=k7.ld r B ι 1 δ (by simp[σ]);have k8:(ad (a.getD b [])).length=p:=by grind[bN,List.getD]
  have a06:(ad (a.getD 0 [])).length=p:=by rw[bN];grind
  have D:=eX (a:=a) (e:=b) (b:=[]) δ;have a07:ga.ok p=true:=by rw[rA];grind
  generalize a.getD b []=k at*;generalize a.getD 0 []=a08 at*;refine aa ?_;refine bp (vD ga _ _ _ δ ς) ?_;refine ah (sS k v r (by rw[bN]at k8;omega)) ?_;rintro _ a09⟨k9,rfl⟩;have l0:=o.mono k9;refine aa ?_;refine eQ (by simp[aY,σ]) ς λa10 l1=>?_;have H:=l0.mono (μ (Y:=.cells (flat [R.J (ad k) .any])) θ l1);have m:(flat h).length=b:=by rw[cU (c.cells λ_ _=>φ),c.len,a7q];omega
  rw[z]at H;refine aa ?_;refine fj H δ (nF rfl) rfl (by rw[m];simp[flat,σ];omega) (by rw[m];simp[flat,σ];omega) λl2 a11 I=>?_;refine aa ?_;refine⟨(b+1,l2),⟨by show b+1<=α a;omega,h++[.J (ad k) .any],?_,?_,?_⟩,⟨rfl,rfl⟩,δ⟩
  .rw[<-z]at I;exact I
  .conv=>lhs;rw[z]
   simp[flat,σ]
  .show aB isRow (a.take (b+1)) _;rw[D];exact c.snoc ⟨_,rfl⟩
 .obtain rfl:b=α a:=δ;rw[a7K]at c;have P:∀D∈h,α D.cells=1:=c.cells λ_ _=>φ;have m:=c.len;have l3:h≠[]:=by grind
  obtain⟨K,post,a13,M,rfl,N,O,l4,l5,Q⟩:=av.wr o δ z P l3;have l6:K≠y:=by rintro rfl;rw[M]at G;cases G
  have X:∀Y,(W r K [] post Y).read y=β [.v (.int .u8 0),.v (.int .i64 0),.J (ad []) E]:=λY=>κ ((ο _ _ l6.symm).trans (o.1 _ _ G));have l7:=λS T=>W.dK (H:=S) o.1 M P T l4 l5 Q;obtain⟨a14,l8⟩:=oX.of (b4:=311) (ds:=[]) abH λa15 l9 a16 n0=>by
   obtain⟨C,l,Z,rfl⟩:=c.mem l9;obtain⟨n,n1,n2,rfl⟩:=c.mem n0;have Q:=s C l;have a18:=s n n1;exact⟨tw C n,λS _=>a2v E Z n2 C n _ y (X S) ⟨δ,δ⟩ δ⟩
  rw[N];clear N;refine ah (FX a2P a2J a2F a2H a2D a2B δ rfl O δ l8 λD L=>⟨P D L,?_⟩) ?_
  .obtain⟨k,_,Z,rfl⟩:=c.mem L;rfl
  rintro _ _⟨S,T,rfl⟩;clear z X P O;refine aa ?_;obtain⟨g,a19,a27⟩:=c.perm T;have a29:=(l7 _ T).base u;grind[θ]
abbrev oY(a b:Ω)(c d h:Own):ύ:=[.J (ad a) c,.J (ad b) d,.v (.int .u8 0),.v (.int .i64 0),.J [] h,.v (.int .i64 1),.v (.bool ι)]
theorem a2R(y z:Ω)(C D E:Own)(d h:U)(k:ύ)(o:R)(a:av d h 1 k o):AC γ 274 [o,.agg (oY y z C D E)] h λF G=>av d G 1 (k.take 1) F:=by
 have g:=fQ a;obtain⟨L,P,_,i⟩:=a.src;refine aK hm T8 ?_;refine bs λj p=>?_;refine aF (λS=>?_) λS=>?_
 .obtain⟨r,⟨rfl,_⟩|⟨b,x,c,T,rfl,V,W,e,l,m,n,f⟩⟩:=a
  .simp at P;omega
  .obtain rfl:x=L:=δ;have q:cn 1 (.aq b x c 1) ζ (β (.v (.int .i64 1))) ζ=β (.aq b 1 c 1):=ib (v:=1) δ;refine aa ?_;refine⟨_,θ,μ r (Ο r p),.inr ⟨b,1,c,T,rfl,V,μ θ p _ _ W,e,?_,?_,δ,f⟩⟩;grind
   .rw[a7q];omega
 grind[Ε,θ,μ]
def eF(b c:Ω)(a:ao):Bool:=decide (a.live≠0)&&ke b c a.aT a.aS
theorem a2S(b c:Ω)(p r x d h k:Own)(a:ao)(y:α a.sum=32)(z:α b<=1000000000000)(o:U):AC γ 267 [.agg (oY b c p r x),.agg (ab a d h k)] o λC D=>D=o/\C=.v (.bool (eF b c a)):=by
 have F:=(aP (N:=d) (e6:=h) (h6:=k) y).all;refine aK hm SV ?_;refine bs λG L=>?_;refine dd λP S T V=>?_;generalize W:ab a d h k=e at*;refine aF (λE=>?_) λE=>?_
 .refine bp (FN _ b c a.aT a.aS _ _ _ _ z) ?_;refine aF (λc2=>?_) λc2=>?_
  .refine aV ?_;rw[eF,c2,Bool.and_false]
  simp_all [eF]
 .refine aV ?_;rw[eF,decide_eq_false δ,a9H]
theorem FY{a b:Ω}(c:ke q b7 a b=η):cQ (gE q b7 a b).1 (gE q b7 a b).2 (gE q b7 a b).1.length=η/\(gE q b7 a b).1.length=α q:=by
 have d:=id c;rw[ke,Υ]at c;obtain⟨h,hm⟩:=c;obtain⟨y,z,C,D,E⟩:=zk h;rw[oT,Υ]at h;obtain⟨r,x⟩:=h;simp only[cQ,Υ,decide_eq_true_eq,a7E,a8C]at r x hm;have k:(gE q b7 a b).1.length=α q:=by rw[gE,if_pos d];simp[z]
 have F:(gE q b7 a b).2.length=α q:=by rw[gE,if_pos d];simp[y,C]
 refine⟨?_,k⟩;rw[k];simp only[cQ,Υ,decide_eq_true_eq,a7E,a8C];refine⟨⟨⟨⟨D,E⟩,k⟩,F⟩,λo p=>?_⟩;have G:=r.2 o p;have L:=x.2 o p;obtain⟨P,S⟩:=hm o p;rw[gE,if_pos d];grind
def zs(b c:Ω)(a:ao)(d:Ω):Bool:=ke b c a.aT a.aS&&tv d (gE b c a.aT a.aS).1
def a2T(a d:Ω)(G L r x y z S:Own)(b:ao)(h:Ω)(T:α b.sum=32)(j:α h=α a)(l:α a<=8)(k:U):AC γ 272 [.agg (oY a d G L r),.agg (ab b x y z),.J (ad h) S] k λV W=>W=k/\V=.v (.bool (zs a d b h)):=by
 have m:=(aP (N:=x) (e6:=y) (h6:=z) T).all;refine aK hm T4 ?_;refine bs λC n=>?_;refine dd λP q s t=>?_;generalize u:ab b x y z=e at*;generalize o:(k.set C _).set P _=D;have E:k.sub D:=by subst o;exact aO
 have cl:D C=β (.cells (oY a d G L r)):=by subst o;exact aO
 have v:D P=β (.cells e):=by subst o;exact aO
 clear o;refine gs (FO _ a d b.aT b.aS _ _ _ _ δ) λw c=>?_;have A:=κ (c _ _ cl);refine aN λf F=>?_;have g:C≠f:=by rintro rfl;rw[c _ _ cl]at F;cases F
 have B:=g.symm;have H:=Ο (π E c) F;refine aa ?_;refine aF (λp=>?_) λp=>?_
 .obtain⟨i,c2⟩:=FY p;refine bp (a2w r _ _ _ _ _ h _ i δ) ?_;refine⟨π E c,aV ?_⟩;rw[zs,p,a8S]
 .refine⟨π E c,aV ?_⟩;rw[zs,p,a9H]
abbrev kV(a:ao)(b c d:Own)(h k:Nat)(id o:Int):ύ:=ab a b c d++[.v (.int .u64 (h:Int)),.v (.int .u64 (k:Int)),.v (.int .i64 id),.v (.int .i64 o)]
def rC(a:ao)(b:R):Prop:=α a.sum=32/\a.cC/\∃c d h k o id p,b=.agg (kV a c d h k o id p)
variable{b1:Int}{A j2:ao}{N e6 h6:Own}
theorem vK{id:Int}(d:α A.sum=32):(kV A N e6 h6 e i id b1).length=41/\(kV A N e6 h6 e i id b1).take 41=kV A N e6 h6 e i id b1/\(kV A N e6 h6 e i id b1).take 37=ab A N e6 h6/\
  ((kV A N e6 h6 e i id b1).drop 37).take 2=[.v (.int .u64 (e:Int)),.v (.int .u64 (i:Int))]/\aM ι 1 ((kV A N e6 h6 e i id b1).drop 39)=.v (.int .i64 id)/\aM ι 1 ((kV A N e6 h6 e i id b1).drop 40)=.v (.int .i64 b1):=by
 have c:=(aP (N:=N) (e6:=e6) (h6:=h6) d).len;have a:∀b,(kV A N e6 h6 e i id b1).drop (37+b)=[R.v (.int .u64 (e)),.v (.int .u64 (i)),.v (.int .i64 id),.v (.int .i64 b1)].drop b:=λb=>by
  rw[a8P,a8b δ,c,a9S,a7H]
 have h:(kV A N e6 h6 e i id b1).length=41:=by rw[Ψ,c];rfl
 refine⟨h,Φ δ,?_,?_,?_,?_⟩;simp_all
 .rw[a 0];rfl
 .rw[a 2];rfl
 .rw[a 3];rfl
theorem a2U(E:rC A n)(F:rC j2 b5):∃G:Int,∀k,AC γ 216 [n,b5] k λL P=>P=k/\L=.v (.int .i64 G):=by
 obtain⟨S,_,r,x,y,a,b,id,o,rfl⟩:=E;obtain⟨T,_,z,C,D,c,d,h,p,rfl⟩:=F;have V:=vK (N:=r) (e6:=x) (h6:=y) (e:=a) (i:=b) (id:=id) (b1:=o) S;have W:=vK (N:=z) (e6:=C) (h6:=D) (e:=c) (i:=d) (id:=h) (b1:=p) T;refine⟨if rz a b c d=0 then(if id=h then IntKind.i64.wrap (o - p)else if id<h then -1 else 1)else rz a b c d,λk=>?_⟩;generalize kV A r x y a b id o=e at*;generalize kV j2 z C D c d h p=f at*;refine aK hm Rq ?_;refine bs λg i=>?_;refine dd λj l a b=>?_;refine bp (FM _ _ _ _ _) ?_
 repeat' first|refine aF (λ_=>?_) λ_=>?_|trivial
 all_goals simp_all
theorem a2V(c d:Ω)(k o h:Own)(a:Nat)(p:a<=1000000000000)(b:U):AC γ 213 [.agg (oY c d k o h),.v (.int .i64 (a:Int))] b λy z=>z=b/\y=.v (.bool (cQ c d a)):=by
 have r:=λb=>vD ga h a b p ς;simp only[rA]at r;refine aK hm Rm ?_;refine bs λC F=>?_;refine aF (λD=>?_) λD=>?_
 .refine aF (λc2=>?_) λc2=>?_
  .refine bp (oH _ c d _ _ _ p) ?_;refine aF (λaE=>?_) λaE=>?_
   .trivial
   .have E:decide (1<=a/\a<=8)=true:=decide_eq_true δ;have x:=r (b.set C (.cells (oY c d k o h)));rw[E]at x;exact bp x trivial
  grind[cQ,lD]
 grind[cQ,lD]
def gF(k o:U)(a:ύ)(c:R):Prop:=
 k.sub o/\(∀p∈a,α p.cells=41)/\((a=[]/\(c=.J [] .nil\/c=.J [] .zero))\/∃d h post b,k d=ζ/\o d=β (.cells (h++flat a++post))/\α a<=b/\b<=maxLen/\α a*41+α post=b*41/\
  ((c=.aq d (α a) b 41/\h=[])\/c=.bE d (α h) (α a) b 41))
def gF.mono{a:R}(c:gF f s g a)(b:s.sub e0):gF f e0 g a:=by obtain⟨d,h,k⟩:=c;refine⟨π d b,h,k.imp_right ?_⟩;rintro⟨o,p,post,r,x,y,z⟩;exact⟨o,p,post,r,x,b _ _ y,z⟩
def gF.len(a:gF f s g n):fi n=β (.v (.int .i64 (α g:Int)))/\n.cells=[n]:=by obtain⟨_,_,⟨rfl,rfl|rfl⟩|⟨b,c,post,d,_,_,_,_,_,⟨rfl,_⟩|rfl⟩⟩:=a<;>exact⟨rfl,rfl⟩
def gF.other{o:bu}(c:gF f s g n)(d:f e=ζ)(h:cN n≠β e):gF f (s.set e o) g n:=by
 obtain⟨k,p,r⟩:=c;refine⟨μ k d,p,r.imp_right ?_⟩;rintro⟨a,x,post,y,z,C,D,E,F,b⟩;have G:a≠e:=by rintro rfl;rcases b with⟨rfl,_⟩|rfl<;>exact h rfl
 exact⟨a,x,post,y,z,by rw[ο _ _ G];exact C,D,E,F,b⟩
def av.other{o:bu}(b:av f s i g n)(c:f e=ζ)(d:cN n≠β e):av f (s.set e o) i g n:=by
 obtain⟨h,k⟩:=b;refine⟨μ h c,k.imp_right ?_⟩;rintro⟨a,p,r,x,rfl,y,z,C⟩;have D:a≠e:=by rintro rfl;exact d rfl
 exact⟨a,p,r,x,rfl,y,by rw[ο _ _ D];exact z,C⟩
theorem gF.app{E:R}{l:cy t}(m:gF s f g b5)(q:α n.cells=41)(u:bW f 41 E=β (1,n.cells))(Q:α g<=100000000)
  (F:∀c z,gF s z (g++[n]) c->(∀a,cN c=β a->cN b5=β a\/f a=ζ)->(∀a,cN b5≠β a->f a≠ζ->z a=f a)->t c z):jS 41 152 f b5 E (bX t l):=by
 obtain⟨C,v,w⟩:=m;have G:∀L∈g++[n],α L.cells=41:=λL X=>by
  grind
 have P:flat (g++[n])=flat g++n.cells:=by simp[flat]
 have S:=cU v;unfold jS;rw[wD u];simp only[bX];have Y:∀(k o:Nat)(x:ύ),f k=ζ->α g+1<=o->o<=maxLen->α x=(o -(α g+1))*41->t (.aq k (α g+1) o 41) (f.set k (.cells (flat g++n.cells++x))):=λk o x T r hm Z=>by
  have V:=Ο C T;refine F _ _ ⟨μ C V,G,.inr ⟨k,[],x,o,V,?_,?_,hm,?_,.inl ⟨?_,rfl⟩⟩⟩ (λa p=>?_) λa p A=>?_
  .rw[ξ,P];rfl
  .simpa using r
  grind
  .rw[Ψ];rfl
  grind[cN,Option.some.injEq]
  .have:a≠k:=by rintro rfl;exact A T
   exact ο _ _ this
 rcases w with⟨rfl,B⟩|⟨d,b,post,h,W,e,j9,H,k0,I⟩
 .rcases B with rfl|rfl;simp_all;simp_all
 .have K:α g+1<=h->∃y,putAt (b++flat g++post) (α b+α g*41) n.cells=b++flat (g++[n])++y/\(α g+1)*41+α y=h*41:=λr=>by
   refine⟨post.drop 41,?_,by rw[a7F];omega⟩;have D:(b++flat g).length=α b+α g*41:=by simp_all
   rw[putAt,<-D,a9Y,<-a8d,aa0,q,P];simp
  have i:∀c,cN b5=β d->cN c=β d->((c=.aq d (α g+1) h 41/\b=[])\/c=.bE d (α b) (α g+1) h 41)->α g+1<=h->t c (f.set d (.cells (putAt (b++flat g++post) (α b+α g*41) n.cells))):=λc j M N r=>by
   obtain⟨y,D,O⟩:=K r;rw[D];refine F _ _ ⟨μ C W,G,.inr ⟨d,b,y,h,W,ξ _ _ _,by simpa using r,H,by simpa using O,?_⟩⟩ (λa p=>.inl ?_) λa p _=>?_
   .simpa using N
   .rw[M]at p;rw[j];exact p
   .have:a≠d:=by rintro rfl;exact p j
    exact ο _ _ this
  rcases I with⟨rfl,rfl⟩|rfl
  .simp only[e];refine⟨trivial,by simp[S];omega,δ,δ,?_⟩;split
   .have:=i (.aq d (α g+1) h 41) rfl rfl (.inl ⟨rfl,rfl⟩) ‹_›;simpa using this
   simp_all
  .simp only[e];refine⟨trivial,by simp[S];omega,δ,δ,?_⟩;split
   .exact i (.bE d (α b) (α g+1) h 41) rfl rfl (.inr rfl) ‹_›
   simp_all
abbrev lO(a:Nat)(b c:Ω)(d h k:Own)(o:Nat)(p:R)(r x y:Int)(z:R):ύ:=
 [.ptr a 0,.J (ad b) d,.J (ad c) h,.v (.int .u8 0),.v (.int .i64 0),.J [] k,.v (.int .i64 1),.v (.bool ι),.v (.int .i64 (o:Int)),p,.v (.int .i64 r),.v (.int .i64 x),.v (.int .i64 y),z]
structure iA where
 gG:Nat
 aT:Ω
 aS:Ω
 gT:Own
 eK:Own
 hK:Own
 d:Nat
structure dR(A:iA)(b c:U)(a:Nat)(us:ύ)(L:R)(es:ύ)(oZ:R):Prop where
 gO:b a=ζ
 x:∃n nJ d:Int,c a=β (.cells (lO A.gG A.aT A.aS A.gT A.eK A.hK A.d L n nJ d oZ))
 l:av b c 1 us L
 w:gF b c es oZ
 hh:cN L≠β a
 kg:cN oZ≠β a
 lw:∀p,cN L=β p->cN oZ≠β p
def dR.mono{c:iA}{d h k:U}{o:Nat}{p:ύ}{r:R}{x:ύ}{y:R}(a:dR c d h o p r x y)(b:h.sub k):dR c d k o p r x y:=
 ⟨a.gO,by obtain⟨z,C,D,a⟩:=a.x;exact⟨z,C,D,b _ _ a⟩,a.l.mono b,a.w.mono b,a.hh,a.kg,a.lw⟩
theorem dR.set{b:iA}{k o:U}{c:Nat}{p:ύ}{d:R}{r:ύ}{h:R}(a:dR b k o c p d r h)(x y z:Int):dR b k (o.set c (.cells (lO b.gG b.aT b.aS b.gT b.eK b.hK b.d d x y z h))) c p d r h:=
 ⟨a.gO,⟨x,y,z,ξ _ _ _⟩,av.other a.l a.gO a.hh,a.w.other a.gO a.kg,a.hh,a.kg,a.lw⟩
def av.has(b:av s f i g n)(a:cN n=β e):f e≠none:=by
 obtain⟨_,⟨_,rfl|rfl⟩|⟨d,h,k,o,rfl,_,c,_⟩⟩:=b
 .cases a
 .cases a
 .obtain rfl:=Δ a;rw[c];simp
def gF.has(a:gF s f g n)(b:cN n=β e):f e≠none:=by
 obtain⟨_,_,⟨_,rfl|rfl⟩|⟨d,h,post,k,_,c,_,_,_,⟨rfl,_⟩|rfl⟩⟩:=a
 .cases b
 .cases b
 all_goals (obtain rfl:=Δ b;rw[c];exact λa=>by cases a)
def av.gl(c:av f e0 e g n)(d:f.sub s)(h:∀a,cN n=β a->s a=e0 a):av f s e g n:=by obtain⟨C,k⟩:=c;refine⟨d,k.imp_right ?_⟩;rintro⟨b,o,p,r,rfl,x,y,z⟩;exact⟨b,o,p,r,rfl,x,(h b rfl).trans y,z⟩
structure FZ(A:iA)(b:U)(c:Nat)(L oZ:R)(a:Nat):Prop where
 n:b a=ζ
 x:a≠c
 l:cN L≠β a
 w:cN oZ≠β a
def dR.fresh{d:iA}(a:dR d f s e g n H b5)(b:s i=ζ):FZ d f e n b5 i:=
 ⟨Ο a.l.1 b,(by obtain⟨_,_,_,h⟩:=a.x;rintro rfl;rw[b]at h;cases h),(λc=>av.has a.l c b),λc=>a.w.has c b⟩
def dR.wr{c:iA}(a:dR c f s e g n H b5)(b:FZ c f e n b5 i)(d:bu):dR c f (s.set i d) e g n H b5:=
 ⟨a.gO,(by obtain⟨h,k,o,p⟩:=a.x;exact⟨h,k,o,(ο _ _ b.x.symm).trans p⟩),av.other a.l b.n b.l,a.w.other b.n b.w,a.hh,a.kg,a.lw⟩
def rD(p:α g=37)(a b c d:R):(g++[a,b,c,d]).length=41/\(g++[a,b,c,d]).take 41=g++[a,b,c,d]/\(∀h o,putAt (g++[a,b,c,d]) 37 [h,o]=g++[h,o,c,d])/\(∀h,putAt (g++[a,b,c,d]) 39 [h]=g++[a,b,h,d])/\∀h,putAt (g++[a,b,c,d]) 40 [h]=g++[a,b,c,h]:=by
 have r:∀k,(g++[a,b,c,d]).take (37+k)=g++[a,b,c,d].take k:=λk=>by rw[aa5,p,Φ δ,a9S]
 have x:∀k,(g++[a,b,c,d]).drop (37+k)=[a,b,c,d].drop k:=λk=>by rw[a8P,p,a8b δ,a7H,a9S]
 have y:(g++[a,b,c,d]).length=41:=by rw[Ψ,p];rfl
 refine⟨y,Φ δ,λh o=>?_,λh=>?_,λh=>?_⟩
 .show(g++[a,b,c,d]).take (37+0)++[h,o]++(g++[a,b,c,d]).drop (37+2)= _;rw[r,x];simp
 .show(g++[a,b,c,d]).take (37+2)++[h]++(g++[a,b,c,d]).drop (37+3)= _;rw[r,x];simp
 .show(g++[a,b,c,d]).take (37+3)++[h]++(g++[a,b,c,d]).drop (37+4)= _;rw[r,x];simp
abbrev zW:ύ:=ε 32 (R.v (.int .u8 0))++[.J [] .nil,.J [] .nil]++[.v (.int .i64 0),.v (.int .i64 0)]++[.J [] .nil]++[.v (.int .u64 0),.v (.int .u64 0)]++[.v (.int .i64 0),.v (.int .i64 0)]
def a2W(a:α g=37):putAt zW 0 g=g++[.v (.int .u64 0),.v (.int .u64 0),.v (.int .i64 0),.v (.int .i64 0)]:=by rw[putAt,a];rfl
theorem G0(a:iA)(k0 e:U)(c:Nat)(k1:ύ)(f:R)(z:ύ)(u:R)(C:dR a k0 e c k1 f z u)(b:ao)(D E F:Own)(v:α b.sum=32)(n5:b.cC)(a48:α a.aT<=8)(a52:α z<=100000000):
  AC γ 214 [.ptr c 0,.agg (ab b D E F)] e λ_ k2=>∃n9 w,dR a k0 k2 c k1 f w n9/\if eF a.aT a.aS b=η then∃k3,rC b k3/\w=z++[k3]else w=z:=by
 obtain⟨g,i,h,A⟩:=C.x;have a00:=(aP (N:=D) (e6:=E) (h6:=F) v).all;refine aK hm Ro ?_;refine bs λj a01=>?_;have k4:j≠c:=by rintro rfl;rw[a01]at A;cases A
 have a56:=k4.symm;rw[hY];generalize B:e.set j _=G;have k5:e.sub G:=by subst B;exact aO
 have cl:G j=β (.cells (ab b D E F)):=by subst B;exact ξ _ _ _
 have k6:=C.mono k5;have H:=k5 _ _ A;clear B;generalize I:ab b D E F=L at*;have a02:=κ cl;have eP:=κ H;have a03:=χ H;refine aa ?_;rw[<-I];refine bp (a2S a.aT a.aS _ _ _ _ _ _ b v δ G) ?_;rw[I];refine aF (λK=>?_) λK=>?_;grind;have a57:bt .add (.int .i64 h) (.int .i64 1)=β (.int .i64 (IntKind.i64.wrap (h+1))):=rfl;obtain⟨a61,a62⟩:=C.w.len;have a63:=fQ C.l;have r:=a00.1;have a04:=a2W r;obtain⟨a05,_,_,_,M⟩:=rD r (.v (.int .u64 0)) (.v (.int .u64 0)) (.v (.int .i64 0)) (.v (.int .i64 0));have M:=M (.v (.int .i64 (IntKind.i64.wrap (h+1))));have a06:=(rD r (.v (.int .u64 0)) (.v (.int .u64 0)) (.v (.int .i64 0)) (.v (.int .i64 (IntKind.i64.wrap (h+1))))).1;have a65:=(rD r (.v (.int .u64 0)) (.v (.int .u64 0)) (.v (.int .i64 0)) (.v (.int .i64 (IntKind.i64.wrap (h+1))))).2.1;generalize l:R.v (.int .i64 (IntKind.i64.wrap (h+1)))=T at*;generalize a68:L++[R.v (.int .u64 0),.v (.int .u64 0),.v (.int .i64 0),.v (.int .i64 0)]=a69 at*;generalize a07:L++[R.v (.int .u64 0),.v (.int .u64 0),.v (.int .i64 0),T]=P at*;have a71:T.cells=[T]:=by subst l;rfl
 refine aa ?_;have m:=k6.set g i (IntKind.i64.wrap (h+1));simp only[lO,l]at m;refine aN λx o=>?_;have a08:=m.fresh o;have a09:j≠x:=by rintro rfl;rw[ο _ _ k4,cl]at o;cases o
 have a73:=a09.symm;have k7:c≠x:=by rintro rfl;rw[ξ]at o;cases o
 have a74:=k7.symm;refine aa ?_;have hm:ke a.aT a.aS b.aT b.aS=true:=by rw[eF,Υ]at K;exact K.2
 obtain⟨k8,a10⟩:=FY hm;have k9:=ξ G c (.cells [.ptr a.gG 0,.J (ad a.aT) a.gT,.J (ad a.aS) a.eK,.v (.int .u8 0),.v (.int .i64 0),.J [] a.hK,.v (.int .i64 1),.v (.bool ι),.v (.int .i64 (a.d)),f,.v (.int .i64 g),.v (.int .i64 i),T,u]);generalize G.set c _=l0 at*;have l1:=m.mono (μ (Y:=.cells P) θ o);have l2:=μ (Y:=.cells P) θ o _ _ k9;have l3:=ξ l0 x (.cells P);generalize l0.set x _=a81 at*;clear k9 o m eP a03 H k6 cl a02 C a04 a05 M a06;refine gs (FO _ a.aT a.aS b.aT b.aS _ _ _ _ δ) λa11 n=>?_;refine aN λN p=>?_;have a13:=l1.mono (π n (μ (Y:=.cells [.J (ad (gE a.aT a.aS b.aT b.aS).1) .any,.J (ad (gE a.aT a.aS b.aT b.aS).2) .any]) θ p));have q:=n _ _ l2;have s:=n _ _ l3;have l4:c≠N:=by rintro rfl;rw[q]at p;cases p
 have a14:=l4.symm;have l5:x≠N:=by rintro rfl;rw[s]at p;cases p
 have a15:=l5.symm;have a16:=κ q;have a18:=κ s;refine aa ?_;generalize a83:(gE a.aT a.aS b.aT b.aS).1=S at*;generalize (gE a.aT a.aS b.aT b.aS).2=O at*;have l6:=μ (Y:=.cells [.J (ad S) .any,.J (ad O) .any]) θ p _ _ q;have a19:=μ (Y:=.cells [.J (ad S) .any,.J (ad O) .any]) θ p _ _ s;generalize a11.set N _=Q at*;refine bp (FT a.hK _ _ S O Q k8) ?_;obtain⟨y,a27⟩:∃X,nQ (S.getD 0 0)=X:=⟨_,rfl⟩;obtain⟨id,a29⟩:∃X,S.getD 0 0=X:=⟨_,rfl⟩;rw[a29]at a27;clear a16 a18 p l4 l5 a14 a15 q s n l2 l3 l1 k8 a10;have a84:=χ a19;have a86:=κ l6;have a88:α P=41:=by grind
 have a89:putAt P 37 [.v (.int .u64 0),.v (.int .u64 (y))]=L++[.v (.int .u64 0),.v (.int .u64 (y)),.v (.int .i64 0),T]:=by subst a07;exact(rD r _ _ _ _).2.2.1 _ _
 obtain⟨a90,_,_,l7,_⟩:=rD r (.v (.int .u64 0)) (.v (.int .u64 (y))) (.v (.int .i64 0)) T;have l7:=l7 (.v (.int .i64 id));obtain⟨l8,a92,_⟩:=rD r (.v (.int .u64 0)) (.v (.int .u64 (y))) (.v (.int .i64 id)) T;generalize L++[R.v (.int .u64 0),.v (.int .u64 (y)),.v (.int .i64 0),T]=a94 at*;generalize a30:L++[R.v (.int .u64 0),.v (.int .u64 (y)),.v (.int .i64 id),T]=k at*;refine aa ?_;have a34:=a13.wr a08 (.cells k);have a36:(Q.set x (.cells k)) c=β (.cells [.ptr a.gG 0,.J (ad a.aT) a.gT,.J (ad a.aS) a.eK,.v (.int .u8 0),.v (.int .i64 0),.J [] a.hK,.v (.int .i64 1),.v (.bool ι),.v (.int .i64 (a.d)),f,.v (.int .i64 g),.v (.int .i64 i),T,u]):=(ο _ _ k7).trans l6;generalize Q.set x _=l9 at*;refine eQ (by simp[aY,hY,l8]) ς λY n0=>?_;have d:=a34.mono (μ (Y:=.cells (flat [R.agg k])) θ n0);have t:=μ (Y:=.cells (flat [R.agg k])) θ n0 _ _ a36;have a38:bW (l9.set Y (.cells (flat [R.agg k]))) 41 (.aq Y 1 1 41)=β (1,(R.agg k).cells):=by simp_all [flat,κ,ξ,hY,bW]
 generalize l9.set Y _=a42 at*;have eP:=κ t;refine aa ?_;refine gF.app (n:=.agg k) d.w l8 a38 δ λn1 k2 Z n2 n3=>?_;have a43:=(n3 c d.kg (by rw[t];simp)).trans t;have a95:=χ a43;have a96:=Z.len.2;refine aa ?_;have a47:a42 c≠none:=by rw[t];simp
 have n4:cN n1≠β c:=λj9=>(n2 c j9).elim d.kg a47;refine⟨_,θ,n1,z++[.agg k],⟨d.gO,⟨g,i,IntKind.i64.wrap (h+1),by subst l;exact ξ _ _ _⟩,av.other (av.gl d.l Z.1 λV W=>n3 V (d.lw V W) (av.has d.l W)) d.gO d.hh,Z.other d.gO n4,d.hh,n4,λV W j9=>(n2 V j9).elim (d.lw V W) (av.has d.l W)⟩,.agg k,⟨v,n5,D,E,F,0,y,id,IntKind.i64.wrap (h+1),?_⟩,rfl⟩;subst l;subst a30;subst I;rfl
def av.wide(p:av s f e g n):∃o,av o f e g n/\s.sub o/\o.sub f/\∀k b,f k=β b->cN n≠β k->o k=β b:=by
 obtain⟨r,x|⟨d,y,z,C,rfl,D,E⟩⟩:=p
 .exact⟨f,⟨θ,.inl x⟩,r,θ,λ_ _ p _=>p⟩
 .refine⟨f.del d,⟨λh b a=>?_,.inr ⟨d,y,z,C,rfl,U.iH _ _,E⟩⟩,λh b a=>?_,λh b a=>?_,λk b F G=>?_⟩
  .have c:h≠d:=by rintro rfl;rw[U.iH]at a;cases a
   rwa[U.eN _ c]at a
  .have c:h≠d:=by rintro rfl;rw[D]at a;cases a
   rw[U.eN _ c];exact r h b a
  .have c:h≠d:=by rintro rfl;rw[U.iH]at a;cases a
   rwa[U.eN _ c]at a
  .have c:k≠d:=by rintro rfl;exact G rfl
   rw[U.eN _ c];exact F
def av.fresh(b:av f s i g n)(a:cN n=β e):f e=none:=by
 obtain⟨_,⟨_,rfl|rfl⟩|⟨d,h,k,o,rfl,c,_⟩⟩:=b
 .cases a
 .cases a
 .obtain rfl:=Δ a;exact c
def gF.gl(h:gF f e0 g n)(k:f.sub s)(o:∀a b,cN n=β a->e0 a=β b->s a=β b):gF f s g n:=by obtain⟨G,p,r⟩:=h;refine⟨k,p,r.imp_right ?_⟩;rintro⟨c,x,post,y,z,C,D,E,F,d⟩;refine⟨c,x,post,y,z,o c _ ?_ C,D,E,F,d⟩;rcases d with⟨rfl,_⟩|rfl<;>rfl
theorem aB.flat{b:List Ω}{a:ύ}(h:aB isRow b a):flat a=a:=by
 induction a generalizing b with
 |nil=>rfl
 |cons o a ih=>
  match b,h with
  |c::b,⟨⟨d,h1⟩,k⟩=>subst h1;rw[show Go.bD.flat (R.J (ad c) d::a)=[R.J (ad c) d]++Go.bD.flat a from rfl,ih k];rfl
theorem a2X(a:iA)(n F:U)(y:Nat)(V:ύ)(o:List Ω)(G:R)(q:ύ)(L:R)(r:dR a n F y V G q L)(s:aB isRow o V)(n2:∀b∈o,α b=a.d)(Q:1<=a.d)(X:a.d<=8)(n3:α a.aT=a.d)(n4:α o<=1)(b:Ω)(P:Bool)(c:Own)(n5:α b=a.d):
  AC γ 218 [.ptr y 0,.agg [.J (ad b) c,.v (.bool P)]] F λ_ Y=>∃t D Z,dR a n Y y t Z q L/\aB isRow D t/\if(P&&jv a.aT a.aS b)=η then∃h,D=[h]/\(h=b\/h∈o)else D=o:=by
 obtain⟨j9,k0,k1,S⟩:=r.x;refine aK hm Ru ?_;refine bs λW k2=>?_;rw[hY];have k3:W≠y:=by rintro rfl;rw[k2]at S;cases S
 have n9:=k3.symm;generalize e:F.set W _=E;have u:F.sub E:=by subst e;exact aO
 have cl:E W=β (.cells [.J (ad b) c,.v (.bool P)]):=by subst e;exact ξ _ _ _
 have k4:=r.mono u;have f:=u _ _ S;clear e;have a00:=κ cl;have eP:=κ f;have a01:=χ f;cases P with
 |false=>refine aa ?_;grind
 |true=>
 refine aa ?_;refine bp (a2p E a.aT a.aS b _ _ _ δ) ?_;refine aF (λk5=>?_) λk5=>?_;grind;refine eQ (by simp[aY,σ]) ς λg v=>?_;have k:=k4.mono (μ (Y:=.cells (flat [R.J (ad b) c])) θ v);have w:=μ (Y:=.cells (flat [R.J (ad b) c])) θ v _ _ f;have k6:bW (E.set g (.cells (flat [R.J (ad b) c]))) 1 (.aq g 1 1 1)=β (1,[R.J (ad b) c]):=nF rfl;generalize E.set g _=A at*;have a02:=fQ r.l;have B:=s.len;obtain⟨a03,k7,H,a04,i⟩:=av.wide k.l;refine aa ?_;refine fj k7 δ k6 rfl (by simp[B];omega) (by simp[B];omega) λk8 I z=>?_;have j:=z.1 _ _ (i y _ w k.hh);have a05:=κ j;refine aa ?_;have l:aB isRow (o++[b]) (V++[.J (ad b) c]):=s.snoc ⟨c,rfl⟩;have k9:=bO.dK z δ l.flat.symm (l.cells λ_ _=>φ);refine ah (a2Q a.hK a.d Q X (o++[b]) _ k8 I k9 l (λa06 S=>?_) Μ ς) ?_;grind;rintro l0 l1⟨l2,D,p,K,M⟩;have l3:=M.1 _ _ j;have a07:=κ l3;refine aa ?_;refine ah (a2R a.aT a.aS a.gT a.eK a.hK I l1 _ l0 M) ?_;rintro T l4 x;have a08:=fQ x;have N:=x.1 _ _ j;have a09:=χ N;have a10:=κ N;refine aa ?_;rw[K.flat]at x;have l5:∀ {h c},A h=β c->cN G≠β h->l4 h=β c:=λr m=>x.1 _ _ (z.1 _ _ (i _ _ r m));have l6:=π H (π z.1 x.1);have l7:∀ {d},cN T=β d->∀ {c},A d=β c->cN G≠β d->False:=λp _ r m=>by
  have:=av.fresh x p;rw[z.1 _ _ (i _ _ r m)]at this;cases this
 have O:cN T≠β y:=λC=>l7 C w k.hh;have l8:∀d,cN L=β d->cN G≠β d:=λd p C=>k.lw d C p;have l9:∀d,cN T=β d->cN L≠β d:=λd p C=>by
  have a11:=k.w.has C;simp_all [Option.ne_none_iff_exists']
 have n0:D≠[]:=λC=>by simp_all
 obtain⟨h,a13,rfl⟩:=a9u n0;refine⟨_,θ,l2.take 1,[h],T,⟨k.gO,⟨j9,k0,k1,ξ _ _ _⟩,av.other (x.base (π H z.1)) k.gO O,(gF.gl k.w l6 λd c p n1=>l5 n1 (l8 d p)).other k.gO k.kg,O,k.kg,l9⟩,K.take 1,h,rfl,?_⟩;have:h∈o++[b]:=p.mem_iff.1 ς;grind
theorem a2Y(a:iA)(L p:U)(r:Nat)(z:ύ)(x:List Ω)(C:R)(P:ύ)(S:R)(D:dR a L p r z C P S)(y:aB isRow x z)(j:∀b∈x,α b=a.d)(H:a.d<=8)(I:α a.aT=a.d)(c:ao)(d h k:Own)(T:α c.sum=32):
  AC γ 217 [.ptr r 0,.agg (ab c d h k)] p λb l=>dR a L l r z C P S/\∃V,b=.v (.bool V)/\(V=η->α x=1):=by
 obtain⟨K,M,N,E⟩:=D.x;have O:=(aP (N:=d) (e6:=h) (h6:=k) T).all;have m:=y.len;obtain⟨Q,W,_,X⟩:=D.l.src;rw[a8g,m]at W;subst W;refine aK hm Rs ?_;refine bs λF n=>?_;rw[hY];have q:F≠r:=by rintro rfl;rw[n]at E;cases E
 have Y:=q.symm;generalize G:p.set F _=o;have e:p.sub o:=by subst G;exact aO
 have cl:o F=β (.cells (ab c d h k)):=by subst G;exact ξ _ _ _
 have s:=D.mono e;have t:=e _ _ E;clear G;generalize u:ab c d h k=Z at*;have j9:=κ cl;have eP:=κ t;refine aa ?_;refine aF (λv=>?_) λv=>?_
 .obtain⟨b,rfl⟩:=a9q.1 (show α x=1 by omega);have w:=bO.dK s.l δ y.flat.symm (y.cells λ_ _=>φ);obtain⟨_,A,f,rfl⟩:=y.get (i:=0) rfl;obtain⟨g,i,B⟩:=w.get 0 _ A;have i:cz 1 C (.v (.int .i64 0))=β g:=i;have k0:cW ι 1 o g=β (.J (ad b) f):=B.ld o θ ι 1 δ (by simp[σ]);have k1:=j b ς;have k2:((1:Nat):Int) - 1=0:=rfl;refine aa ?_;rw[<-u];refine bp (a2T a.aT a.aS a.gT a.eK a.hK d h k f c b T δ δ o) ?_;grind
 grind
variable{Y:bu}
def Ext.ee(c:Ext i v f s)(d:f e=ζ):Ext i v f (s.set e Y):=λb h k o a=>by
 have p:b≠e:=by rintro rfl;rw[d]at a;cases a
 rw[ο _ _ p];exact c b h k o a
def ck(a:Ω×Bool)(b c:ao):bY:=⟨1,[a],[b,c]⟩
def vL(h:U)(k o:Nat)(p:af)(V:bq h k o p)(c:Ω×Bool)(a b:ao)(W r x y z C D:Own)(d:Nat)(s:1<=d)(t:d<=8)(e:α a.sum=32)(f:α b.sum=32)(u:a.cC)(v:b.cC):
  AC γ 220 [dO k d,.agg [.J (ad c.1) W,.v (.bool c.2)],.agg (ab a r x y),.agg (ab b z C D)] h λg i=>bq i k o (dF p d (ck c a b)).2/\Ext k o h i/\gX (dF p d (ck c a b)).1 g:=by
 have w:=(aP (N:=r) (e6:=x) (h6:=y) e).all;have A:=(aP (N:=z) (e6:=C) (h6:=D) f).all;have B:bB a (.agg (ab a r x y)):=⟨e,u,_,_,_,rfl⟩;have H:bB b (.agg (ab b z C D)):=⟨f,v,_,_,_,rfl⟩;generalize ab a r x y=I at*;generalize ab b z C D=K at*;refine aK hm Rx ?_;refine bs λM k1=>?_;refine dd λN k2 k3 k4=>?_;refine hd λO k5 k6 k7 k8 k9=>?_;refine xM λQ l0 _ _ _ _ _ _=>?_;refine YU λE j _ _ _ _ _ _ _ _=>?_;refine YW λX l1 _ _ _ _ _ _ _ _ _ _=>?_;refine YX λY l2 _ _ _ _ _ _ _ _ _ _ _ _=>?_;generalize F:((((((h.set M _).set N _).set O _).set Q _).set E _).set X _).set Y _=G;have l:h.sub G:=by subst F;exact aO
 have Z:G E=β (.cells (ab az .nil .nil .nil)):=by subst F;rw[<-ch];exact aO
 clear F;have l3:=(aP (N:=.nil) (e6:=.nil) (h6:=.nil) bl).len;refine ah (yr G k o p (V.mono l) (ck c a b) [.agg [.J (ad c.1) W,.v (.bool c.2)]] [.agg I,.agg K] _ _ d s t ⟨⟨⟨_,rfl⟩,trivial⟩,⟨B,H,trivial⟩,bO.J (by simp[aY,σ]),bO.J (by simp[aY,σ,w.1,A.1]),by simp[ck],by simp[ck]⟩) ?_;rintro g l4⟨j9,m,k0⟩;have L:=(V.cA j);have l5:=χ (m E _ L.1 L.2 Z);obtain⟨n,P,S,T,l6,q,rfl⟩:=k0.shape;have l7:=(aP (N:=P) (e6:=S) (h6:=T) q).all;have l8:putAt (ab az .nil .nil .nil) 0 (ab n P S T)=ab n P S T:=cx bl q;refine aa ?_;exact⟨_,θ,j9.set L,((Α l).trans m).ee j⟩
def kW(b:af)(c:Nat)(d:ao):Option ((Ω×Bool)×List ao):=
 match de b c d with
 |none=>ζ
 |some a=>if a.kind=1 then β (a.rows.headD ([],ι),a.kids)else ζ
variable{b3:bY}{B:af}
theorem G1(a:de B e A=β b3):dV e b3=true:=by
 unfold de at a;split at a
 .cases a
 split at a
 .cases a
 rename_i c d b;split at a
 .obtain rfl:=Δ a;unfold oC at b;grind
 .cases a
theorem G2(b:dV e b3=η)(c:b3.kind=1):α b3.rows=1/\α b3.kids=2/\∀a∈b3.kids,α a.key=0:=by simp_all [dV]
def a2Z(b c:U)(d:List ao)(h:R):Prop:=∃a,av b c 37 (flat a) h/\aB bB d a
def zt(d:U)(G l:Nat)(y:af)(A:bq d G l y)(h:ao)(L P S:Own)(m:α h.sum=32)(B:h.cC)(a:Nat)(H:1<=a)(I:a<=8):
  AC γ 221 [dO G a,.agg (ab h L P S)] d λT b=>d.sub b/\match kW y a h with
   |none=>T=.aJ [.agg [.J [] .nil,.v (.bool ι)],.J [] .nil,.v (.int .i64 21)]
   |some (k,bF)=>∃K z,T=.aJ [.agg [.J (ad k.1) K,.v (.bool k.2)],z,.v (.int .i64 0)]/\α bF=2/\a2Z d b bF z:=by
 have k7:=(aP (N:=L) (e6:=P) (h6:=S) m).all;refine aK hm Rz ?_;refine bs λM k8=>?_;refine dd λN k9 _ _=>?_;refine hd λC n _ _ _ _=>?_;generalize V:((d.set M _).set N _).set C _=W;have o:d.sub W:=by subst V;exact aO
 have p:W C=β (.cells [.J [] .nil,.v (.bool ι)]):=by subst V;exact aO
 clear V;refine ah (vg W G l y (A.mono o) h L P S m (λ_=>B) a H I) ?_;rintro T O⟨D,E⟩;have Q:=χ (D _ _ p);rw[kW];cases e:de y a h with
 |none=>
  rw[e]at E;obtain rfl:=E;refine aa ?_;refine aN λf c=>?_;have a:C≠f:=by rintro rfl;rw[D _ _ p]at c;cases c
  have X:=Ι a;refine aa ?_;exact μ (π o D) (Ο (π o D) c)
 |some r=>
  rw[e]at E;obtain⟨k,z,rfl,F⟩:=E;refine aa ?_;refine aN λf c=>?_;have a:C≠f:=by rintro rfl;rw[F.sub _ _ p]at c;cases c
  have X:=Ι a;have Q:=χ (F.sub _ _ p);have q:=π o F.sub;have g:(r.kind=1)↔(r.kind.toNat:Int)=1:=by rw[<-a8j];show r.kind.toNat=1↔ _;omega
  by_cases x:¬r.kind=1
  .have:=mt g.2 x;exact aO
  have x:=Decidable.not_not.1 x;have l0:=g.1 x;clear g;obtain⟨Y,l1,_⟩:=G2 (G1 e) x;obtain⟨l2,l3,Z,i,s,t,j9,_⟩:=F;obtain⟨l4,l5,l6⟩:=r
  dsimp only at*
  obtain⟨u,rfl⟩:=a9q.1 Y;have k0:=(bO.dK i δ rfl (t.cells λ_ _=>cY.cells)).mono s.1;obtain⟨l7,k1,k2,rfl⟩:=t.get (i:=0) rfl;obtain⟨v,w,k3⟩:=k0.get 0 _ k1;have k4:=λb j=>k3.ld b j η 2 δ (by simp[σ]);have w:cz 2 k (.v (.int .i64 0))=β v:=w;have k5:∀b,O.sub b->cW η 2 b v=β (.agg [.J (ad u.1) k2,.v (.bool u.2)]):=λb j=>k4 b j;have l8:=k5 _ (μ (Y:=.cells [.v (.int .u8 1),k,z]) θ c);refine aa ?_;refine⟨_,θ,μ (μ q (Ο q c)) n,?_⟩;have k6:=π o i.1;exact⟨_,_,rfl,Z,(jW (s.mono (μ θ c)) (i.1 _ _ p)).base (μ k6 n),j9⟩
theorem dR.base{c:iA}{d h k:U}{o:Nat}{p:ύ}{r:R}{x:ύ}{y:R}(a:dR c h k o p r x y)(b:d.sub h):dR c d k o p r x y:=by refine⟨Ο b a.gO,a.x,a.l.base b,?_,a.hh,a.kg,a.lw⟩;obtain⟨z,C,D⟩:=a.w;refine⟨π b z,C,D.imp_right ?_⟩;rintro⟨E,F,post,G,L,P⟩;exact⟨E,F,post,G,Ο b L,P⟩
noncomputable def res (b:Nat->Prop) (c:U):U:=λa=>open Classical in if b a then ζ else c a
variable{j6:Nat -> Prop}
theorem rE(a:j6 e):res j6 f e=none:=if_pos a
theorem p0(a:¬j6 e):res j6 f e=f e:=if_neg a
theorem G3:(res j6 f).sub f:=λa b c=>by
 grind[rE,p0]
def G4(c:f.sub s):(res j6 f).sub (res j6 s):=λd h a=>by
 by_cases b:j6 d
 .rw[rE b]at a;cases a
 .rw[p0 b]at a|-;exact c _ _ a
def av.res{a:Nat->Prop}{c d:U}{h:Nat}{k:ύ}{b:R}(r:av c d h k b)(x:∀o,cN b=β o->¬a o):av (res a c) (res a d) h k b:=by obtain⟨y,z⟩:=r;refine⟨G4 y,z.imp_right ?_⟩;rintro⟨p,C,D,E,rfl,F,G,L⟩;have:=x p rfl;exact⟨p,C,D,E,rfl,by rw[p0 this];exact F,by rw[p0 this];exact G,L⟩
def kh(b:Nat)(c d:R)(a:Nat):Prop:=a=b\/cN c=β a\/cN d=β a
def dR.wide{r:iA}(a:dR r s f e g n H b5):dR r (res (kh e n b5) f) f e g n H b5/\s.sub (res (kh e n b5) f):=by
 have z:s.sub (res (kh e n b5) f):=λC S b=>by
  have:¬kh e n b5 C:=by
   rintro(rfl|c|c)
   .rw[a.gO]at b;cases b
   .rw[av.fresh a.l c]at b;cases b
   .obtain⟨_,_,⟨_,rfl|rfl⟩|⟨d,x,post,h,k,_,_,_,_,⟨rfl,_⟩|rfl⟩⟩:=a.w
    .cases c
    .cases c
    all_goals (obtain rfl:=Δ c;rw[k]at b;cases b)
  rw[p0 this];exact a.l.1 _ _ b
 refine⟨⟨rE (.inl rfl),a.x,?_,?_,a.hh,a.kg,a.lw⟩,z⟩
 .obtain⟨_,o⟩:=a.l;refine⟨G3,o.imp_right ?_⟩;rintro⟨d,D,h,E,rfl,k,p⟩;exact⟨d,D,h,E,rfl,rE (.inr (.inl rfl)),p⟩
 .obtain⟨_,o,F⟩:=a.w;refine⟨G3,o,F.imp_right ?_⟩;rintro⟨d,x,post,h,k,p,G,L,P,y⟩;refine⟨d,x,post,h,rE (.inr (.inr ?_)),p,G,L,P,y⟩;rcases y with⟨rfl,_⟩|rfl<;>rfl
def dR.sort{r:iA}(a:dR r s f e H b5 g n)(q:g≠[]):∃b c post,f=W f b c post g/\oV 41 n b (α c) (α g)/\b≠e/\∀d,d.Perm g->dR r s (W f b c post d) e H b5 d n:=by
 obtain⟨E,F,⟨h,_⟩|⟨b,c,post,G,o,L,P,S,T,p⟩⟩:=a.w
 .trivial
 have x:cN n=β b:=by rcases p with⟨rfl,_⟩|rfl<;>rfl
 have y:b≠e:=by rintro rfl;exact a.kg x
 refine⟨b,c,post,(U.tf L).symm,⟨λz t=>?_,a.w.len.1,a.w.len.2⟩,y,λd k=>⟨a.gO,?_,?_,⟨μ E o,λh V=>F h (k.mem_iff.1 V),.inr ⟨b,c,post,G,o,ξ _ _ _,by rw[k.length_eq];exact P,S,by rw[k.length_eq];exact T,by rw[k.length_eq];exact p⟩⟩,a.hh,a.kg,a.lw⟩⟩
 .have C:(0)<=(z:Int):=δ;have D:(z:Int)<α g:=δ;rcases p with⟨rfl,rfl⟩|rfl
  .rw[jQ C D,a7L,a7x,a7Q]
  .rw[ui C D,a7L]
 .obtain⟨i,j,l,m⟩:=a.x;exact⟨i,j,l,(ο _ _ y.symm).trans m⟩
 .refine av.other a.l o λh=>a.lw _ h x
theorem dR.tail{a:iA}{z:R}(h:dR a s f e H b5 (n::g) z):∃b,cn 41 z (β (.v (.int .i64 1))) ζ ζ=β b/\b.cells=[b]/\(∀p r x,dR a s (f.set e (.cells (lO a.gG a.aT a.aS a.gT a.eK a.hK a.d b5 p r x b))) e H b5 g b)/\
  ∃c o,cz 41 z (.v (.int .i64 0))=β (.ptr c o)/\cW η 37 f (.ptr c o)=β (.agg (n.cells.take 37)):=by
 obtain⟨l,P,⟨m,_⟩|⟨c,k,post,d,q,S,T,M,t,E⟩⟩:=h.w
 .cases m
 have V:cN z=β c:=by rcases E with⟨rfl,_⟩|rfl<;>rfl
 have N:c≠e:=by rintro rfl;exact h.kg V
 have W:=P n ς;have u:flat (n::g)=n.cells++flat g:=rfl;rw[a7s]at T t E;have C:∀b:R,(cN b=ζ\/cN b=β c)->((g=[]/\(b=.J [] .nil\/b=.J [] .zero))\/b=.bE c (k++n.cells).length (α g) (d - 1) 41)->∀p r x,dR a s (f.set e (.cells (lO a.gG a.aT a.aS a.gT a.eK a.hK a.d b5 p r x b))) e H b5 g b:=λb v F p r x=>by
  have i:cN b≠β e:=λy=>by simp_all
  have w:gF s f g b:=by refine⟨l,λA B=>P A (by simp[B]),F.imp_right λF=>?_⟩;refine⟨c,k++n.cells,post,d - 1,q,?_,δ,δ,δ,.inr F⟩;rw[S,u];simp
  exact⟨h.gO,⟨p,r,x,ξ _ _ _⟩,av.other h.l h.gO h.hh,w.other h.gO i,h.hh,i,λO I y=>by
   rcases v with G|G
   .rw[G]at y;cases y
   .rw[G]at y;obtain rfl:=Δ y;exact h.lw _ I V⟩
 have D:∀o,o=α k->cW η 37 f (.ptr c o)=β (.agg (n.cells.take 37)):=λo K=>by
  subst K;have Q:=κ S;have X:α k+37<=(k++flat (n::g)++post).length:=by grind
  simp_all [cW,aM,a8T]
 rcases E with⟨rfl,rfl⟩|rfl
 .by_cases j:1<d
  .refine⟨.bE c (1*41) (α g+1 - 1) (d - 1) 41,gu (e:=1) δ T j,rfl,C _ (.inr rfl) (.inr ?_),c,0,?_,D 0 rfl⟩
   .simp[W]
   .exact jQ δ δ
  .obtain rfl:d=1:=δ;have L:g=[]:=a7t δ;subst L;refine⟨.J [] .zero,uA rfl,rfl,C _ (.inl rfl) (.inl ⟨rfl,.inr rfl⟩),c,0,?_,D 0 rfl⟩;rfl
 .by_cases j:1<d
  .refine⟨.bE c (α k+1*41) (α g+1 - 1) (d - 1) 41,?_,rfl,C _ (.inr rfl) (.inr ?_),c,α k,?_,D _ rfl⟩
   .have Y:(1)<=((α g+1:Nat):Int):=δ;have c2:((α g+1:Nat):Int)<=d:=δ;have aE:(1:Int)<d:=δ;simp_all [cn,cF,Go.bD.intOf]
   .simp[W]
   grind[ui]
  .obtain rfl:d=1:=δ;have L:g=[]:=a7t δ;subst L;refine⟨.J [] .zero,?_,rfl,C _ (.inl rfl) (.inl ⟨rfl,.inr rfl⟩),c,α k,?_,D _ rfl⟩
   .rfl
   rfl
section
variable(S:af)(d:Nat)(lo hi:Ω)
inductive mK:ao->ao->Prop
 |refl (k:ao):mK k k
 |step {k a b:ao}{n:bY} (h:de S d k=β n) (hk:a∈n.kids) (c:eF lo hi a=η) (o:mK a b):mK k b
def nS(h:ao)(a:Ω):Prop:=∃b c,mK S d lo hi h b/\de S d b=β c/\(a,η)∈c.rows/\jv lo hi a=η
end
def bJ(a:ao):Nat:=2*a.size.toNat - 1
theorem zu(d h:Ω)(c:Nat):∀(b:List ao),(∀a∈b,eF d h a=η->1<=a.size)->(∀a∈b,(c:Int)<=a.size)->c<=1->((((b.filter (eF d h)).map bJ).sum:Nat):Int)+(α b:Int)*c<=2*(b.map ao.size).sum/\0<=(b.map ao.size).sum
 |[],_,_,_=>by simp
 |a::b,o,p,he=>by
  have ih:=zu d h c b (λa k=>o a (by simp[k])) (λa k=>p a (by simp[k])) he;have r:=o a ς;have x:=p a ς;rw[aap,a7C,a8E,a7s];grind[Int.natCast_add,Int.add_mul,bJ]
theorem zv(a:eF q b7 A=η):A.live≠0:=by rw[eF,Υ]at a;simp_all
def lP(a:α A.sum=32):putAt (ε 32 (R.v (.int .u8 0))++[R.J [] .nil,.J [] .nil]++[.v (.int .i64 0),.v (.int .i64 0)]++[.J [] .nil]) 0 (ab A N e6 h6)=ab A N e6 h6:=by have:=(aP (N:=N) (e6:=e6) (h6:=h6) a).len;rw[putAt,this];simp
def tA(a:dV e b3=η):∀b∈b3.kids,fq e b=true:=by simp only[dV,Υ,a7E]at a;exact a.1.2
def kX(b:fq e A=η):0<=A.size/\(A≠az->1<=A.size)/\(A.live≠0->A≠az):=by refine⟨(rh b).2.2.2.2.1,λa=>?_,λc a=>c (by rw[a];rfl)⟩;simp only[fq,decide_eq_false a,abp,Υ,a8R,abn,decide_eq_false_iff_not]at b;omega
theorem G5(o:de B e A=β b3):((b3.kids.filter (eF q b7)).map bJ).sum<bJ A/\1<=A.size:=by
 have h:=rj o;have z:A.size=α b3.rows+(b3.kids.map ao.size).sum:=h.size;have k:=h.ok;simp only[dV,Υ]at k;obtain⟨⟨_,c⟩,a⟩:=k;have c:=a7E.1 c;have d:∀A∈b3.kids,eF q b7 A=η->1<=A.size:=λA b d=>by
  obtain⟨_,p,r⟩:=kX (c A b);exact p (r (zv d))
 have x:∀A∈b3.kids,((0:Nat))<=A.size:=λA b=>(kX (c A b)).1;have y:=zu q b7 0 b3.kids d x δ;rw[show(α b3.kids)*((0:Nat):Int)=0 from Int.mul_zero _]at y;have C:(bJ A)=2*A.size - 1\/A.size<1:=by unfold bJ;omega
 split at a;grind;split at a;grind;split at a
 .simp only[Υ,decide_eq_true_eq,a7E,a8R,decide_eq_false_iff_not]at a;have D:=zu q b7 1 b3.kids d (λA b=>(kX (c A b)).2.1 (a.2 A b).2) δ;omega
 .cases a
def ey(b:ao->List ϊ->Int×List ϊ):List ao->List ϊ->Int×List ϊ
 |[],a=>(0,a)
 |c::bF,a=>if(b c a).1=0 then ey b bF (b c a).2 else b c a
abbrev tB(b:af)(a:ao):Prop:=a.live=0\/b.m a.sum≠ζ->a.cC
def ez(d:af)(h:Nat)(c:List ϊ->ao->Bool×List ϊ):Nat->ao->List ϊ->Int×List ϊ
 |0,_,a=>(0,a)
 |k+1,b,a=>if b=az then(0,a)else if(c a b).1=η then(match de d h b with
   |none=>(21,(c a b).2)
   |some o=>ey (ez d h c k) o.kids (c a b).2)else(0,(c a b).2)
def av.vM{h:bu}(a:av f s e g n)(k:s.sub e0)(b:f i=β Y)(c:f v=β h):av U.emp (js i v e0) e g n:=by
 obtain⟨_,a|⟨o,p,r,x,y,d,z,C⟩⟩:=a
 .exact⟨E4,.inl a⟩
 .refine⟨E4,.inr ⟨o,p,r,x,y,rfl,rb (k _ _ z) ?_ ?_,C⟩⟩
  .rintro rfl;rw[d]at b;cases b
  .rintro rfl;rw[d]at c;cases c
def gV.vM{a h:U}{k o:Nat}{p:bY}{r x:R}{F G:bu}(L:gV a h p r x)(y:a k=β F)(z:a o=β G):∃b c,fR (js k o h) p r x b c:=by obtain⟨W,b,c,d,C,D,E,P,S⟩:=L;have T:=av.vM d C.1 y z;have V:=av.vM C θ (d.1 _ _ y) (d.1 _ _ z);exact⟨b,c,D,E,bO.dK T δ rfl (D.cells λ_ _=>cY.cells),bO.dK V δ rfl (E.cells λ_ _=>Ξ),P,S⟩
def zw(a:Nat)(h:a<=1):∀(b:List ao),(∀c∈b,(a:Int)<=c.size)->((b.map bJ).sum:Int)+a*α b<=2*(b.map ao.size).sum
 |[],_=>by simp
 |c::b,d=>by
  have ih:=zw a h b λc k=>d c (by simp[k]);have o:=d c ς;rw[a7C,a7C,a8E,a8E,a7s];rcases(by omega:a=0\/a=1)with rfl|rfl<;>simp only[bJ]at* <;>omega
theorem G6(k:de B e A=β b3):(b3.kids.map bJ).sum<bJ A/\1<=A.size/\∀o∈b3.kids,fq e o=true:=by
 have h:=rj k;have p:A.size=α b3.rows+(b3.kids.map ao.size).sum:=h.size;have c:=h.ok;have d:=tA c;simp only[dV,Υ]at c;obtain⟨⟨_,r⟩,a⟩:=c;have x:=zw 0 δ b3.kids λA b=>(kX (d A b)).1;have y:(bJ A)=2*A.size - 1\/A.size<1:=by unfold bJ;omega
 refine⟨?_,?_,d⟩
 all_goals
  split at a
  .grind
  split at a
  .grind
  split at a
  .simp only[Υ,decide_eq_true_eq,a7E,a8R,decide_eq_false_iff_not]at a;have z:=zw 1 δ b3.kids λA b=>(kX (d A b)).2.1 (a.2 A b).2;omega
  .cases a
def zx(P:U)(n j9:Nat)(p:af)(h:Nat)(k9:1<=h)(l0:h<=8)(k o:Nat)(q:Nat)(k0:ύ)(r:List ϊ->ao->Bool×List ϊ)(T:U->Prop)
  (l1:fA γ q=η) (l2:∀b,T b->bq b n j9 p) (V:∀b x c,T b->eg P b k o c->dh k o b x->T x)
  (l3:∀b c a z C D,α a.sum=32->T b->eg P b k o c->α c<=1000000000->AC γ q (.agg (ab a z C D)::k0) b λs x=>dh k o b x/\eg P x k o (r c a).2/\s=.v (.bool (r c a).1))
  (l4:∀c a,(r c a).2.length<=α c+1):∀(E:Nat)(b:U)(_:T b)(c:List ϊ)(_:eg P b k o c)(a:ao)(z C D:Own),α a.sum=32->tB p a->(a≠az->1<=a.size)->bJ a<E->α c+bJ a<=1000000000->
  AC γ 68 [.ptr n 0,.agg (ab a z C D),.v (.int .i64 (h:Int)),.bG q [] k0] b λs x=>dh k o b x/\eg P x k o (ez p h r E a c).2/\(ez p h r E a c).2.length<=α c+bJ a/\s=.v (.int .i64 (ez p h r E a c).1)
 |0,_,_,_,_,_,_,_,_,_,_,_,t,_=>by omega
 |E+1,b,n5,c,u,a,z,C,D,fk,l5,n9,a63,a65=>by
  have a68:=(aP (N:=z) (e6:=C) (h6:=D) fk).all;refine aK hm N7 ?_;refine bs λv i=>?_;have w:=μ (Y:=.cells (ab a z C D)) (θ (f:=b)) i;have bh:=ξ b v (.cells (ab a z C D));generalize b.set v _=a00 at*;have l6:=V _ _ _ n5 u (dh.of w);have k1:=u.mono w;have l7:v≠k/\v≠o:=by obtain⟨_,a01,_⟩:=u.cT;obtain⟨_,⟨_,_,a02,_⟩,_⟩:=u.mp;exact⟨λA=>by rw[A,a01]at i;(cases i),λA=>by rw[A,a02]at i;(cases i)⟩
  have a03:=κ bh;have a69:=(aP (N:=.nil) (e6:=.nil) (h6:=.nil) bl).all;rw[ez];refine aa ?_;refine bp (mB a z C D _ fk λt=>l5 (.inl t)) ?_;refine aF (λF=>?_) λF=>?_;rotate_left
  .exact⟨_,θ,dh.of w,k1,δ⟩
  rw[if_neg F];refine eR l1 (l3 a00 c a z C D fk l6 k1 δ) ?_;rintro _ a04⟨j,l,rfl⟩;have a05:=l4 c a;have l8:=V _ _ _ l6 k1 j;have B:=(dh.of w).trans j;generalize r c a=a06 at*;obtain⟨a07,k2⟩:=a06
  dsimp only at l a05|-
  have a71:1<=bJ a:=by have:=n9 F;unfold bJ;omega
  cases a07 with
  |false=>refine aa ?_;exact⟨_,θ,B,l,δ⟩
  |true=>
   have a03:=κ (j _ _ (rb bh l7.1 l7.2));rw[if_pos rfl];refine aa ?_;refine ah (vg a04 n j9 p (l2 _ l8) a z C D fk (λt=>l5 (.inr t)) h k9 l0) ?_;rintro s k3⟨W,H⟩;have k4:=l.mono W;cases k5:de p h a with
   |none=>rw[k5]at H;obtain rfl:=H;refine aa ?_;refine bs λk6 m=>?_;exact⟨_,θ,B.trans (dh.of (μ W (Ο W m))),k4.mono (μ θ m),δ⟩
   |some d=>
    rw[k5]at H;obtain⟨y,a73,rfl,a08⟩:=H;obtain⟨a74,a81,a09⟩:=G6 k5;obtain⟨⟨a83,a10,_⟩,_,⟨_,⟨_,_,a11,_⟩,_⟩,_⟩:=id l;obtain⟨a84,a86,I⟩:=a08.vM a10 a11;have a88:=I.sT;have a89:=I.ij;have a13:=V _ _ _ l8 l (dh.of W);refine aa ?_;refine bs λk6 m=>?_;generalize K:(k3.set k6 _).set k6 _=a14;have l9:k3.sub a14:=by subst K;exact μ (μ θ m) m
    clear K;refine cc [0,2,3,33,34] (λy:Nat×List ϊ=>[(35,.v (.int .i64 (y.1:Int)))]) (λy x=>y.1<=α d.kids/\eg P x k o y.2/\dh k o k3 x/\α y.2<=α k2+((d.kids.take y.1).map bJ).sum/\ey (ez p h r E) (d.kids.drop y.1) y.2=ey (ez p h r E) d.kids k2) (λy=>α d.kids - y.1) (0,k2) ⟨⟨a7N _,k4.mono l9,dh.of l9,ς,rfl⟩,aO⟩ ?_;rintro⟨G,n0⟩ M ⟨a15,N,O,n1,L⟩ a90
    dsimp only at a15 N n1 L|-
    have a16:=V _ _ _ a13 k4 O;have a18:((d.kids.take G).map bJ).sum+((d.kids.drop G).map bJ).sum=(d.kids.map bJ).sum:=by rw[<-ab4,<-a8l,a7V]
    refine aa ?_;refine aF (λF=>?_) λF=>?_
    .have Q:G<α d.kids:=δ;have n2:=drop_cons (a:=d.kids) (b:=az) Q;have a19:=eX (a:=d.kids) (b:=az) Q;have n3:d.kids[G]?=β (d.kids.getD G az):=by simp[List.getD,Q]
     have a27:=a7r n3;generalize d.kids.getD G az=S at*;obtain⟨_,a29,n4,a30,e,f,g,rfl⟩:=I.kids.get n3;obtain⟨a34,a92,X⟩:=I.gQ.get G _ a29;have X:=X.mono O;have Y:=aP (N:=e) (e6:=f) (h6:=g) n4;change mA M a34 (ab S e f g)at X;have a36:=X.ld M θ η 37 δ (by rw[Y.len];omega);rw[show aM η 37 (ab S e f g)=.agg (ab S e f g) by rw[aM,if_pos rfl,Y.t37]]at a36;have a38:=kX (a09 S a27);rw[n2,ey]at L;rw[n2,a7C,a8E]at a18;have Y:=Y.all;have ih:=zx P n j9 p h k9 l0 k o q k0 r T l1 l2 V l3 l4 E;have a42:=λZ a43 j=>ih Z a43 n0 j S e f g n4 (λ_=>a30) a38.2.1 δ δ;generalize ab S e f g=a94 at*;refine aa ?_;refine bs λa47 a48=>?_;generalize K:M.set a47 _=Z;have k7:M.sub Z:=by subst K;exact μ θ a48
     have a52:=V _ _ _ a16 N (dh.of k7);refine ah (a42 Z a52 (N.mono k7)) ?_;rintro _ a95⟨a56,k8,a57,rfl⟩;have a61:=O.trans ((dh.of k7).trans a56);generalize ez p h r E S n0=res at*;obtain⟨A,a62⟩:=res
     dsimp only at k8 a57 L|-
     refine aa ?_;refine aF (λF=>?_) λF=>?_
     .rw[if_neg F]at L;rw[<-L];exact⟨_,θ,B.trans ((dh.of W).trans a61),k8,by dsimp only;omega,rfl⟩
     .rw[if_pos F]at L;exact⟨(G+1,a62),⟨Q,k8,by rw[a19,a8l,ab4,List.map_singleton,List.sum_singleton];dsimp only;omega,L⟩,rfl,by dsimp only;omega⟩
    .obtain rfl:G=α d.kids:=δ;rw[a9v,ey]at L;rw[a7K]at n1;rw[<-L];exact⟨_,θ,B.trans ((dh.of W).trans O),N,by dsimp only;omega,rfl⟩
def G7(c:U)(o p:Nat)(h:af)(C:bq c o p h)(a:ϊ)(k:α a=32):
  AC γ 21 [.ptr o 0,br a] c λD E=>c.sub E/\D=.v (.bool (h.m a).isSome):=by
 obtain⟨⟨i,j,F⟩,⟨d,G,b⟩,_,_⟩:=C;have b:=b a k;have l:(a.map aj).length=32:=by simp[k]
 have m:aM η 32 (a.map aj)=br a:=by rw[aM,if_pos rfl,Φ δ];rfl
 have L:(br a).cells=a.map aj:=rfl;refine aK hm LG ?_;refine aN λr P=>?_;rw[L];have aE:=ξ c r (.cells (a.map aj));have x:=μ (Y:=.cells (a.map aj)) (θ (f:=c)) P;generalize c.set r _=S at*;have n:=κ (x _ _ F);have q:=κ aE;have T:nq S p pT d:=by obtain⟨V,W,e,f⟩:=G;exact⟨V,W,x _ _ e,f⟩
 refine aa ?_;refine uy T (oE k) (λv y=>?_) (λz=>?_)
 .cases hm:h.m a with
  |none=>rw[hm]at b;rw[show d (.agg (a.map aj))=d (br a)from rfl,b]at y;cases y
  |some g=>refine aa ?_;rfl
 .cases hm:h.m a with
  |none=>refine aa ?_;rfl
  |some g=>rw[hm]at b;obtain⟨s,t,b⟩:=b;rw[show d (.agg (a.map aj))=d (br a)from rfl,b]at z;cases z
def p1(a:List ϊ)(b:ao):Bool×List ϊ:=(decide (b.sum∉a),cX a b.sum)
def gb(c:af)(a:List ϊ)(b:ao):Bool×List ϊ:=if(c.m b.sum).isSome=η then(η,a)else(ι,cX a b.sum)
def qe:(cX e4 w).length<=α e4+1:=by
 unfold cX;split
 .omega
 .simp
def eg.at(a:eg s f e i e4):∃b aA,f e=β b/\f i=β aA:=by obtain⟨_,c,_⟩:=a.cT;obtain⟨_,⟨_,_,d,_⟩,_⟩:=a.mp;exact⟨_,_,c,d⟩
def a3a(r b:U)(c p y:Nat)(d:List ϊ)(a:ao)(h k o:Own)(z:α a.sum=32)(D:eg r b c p d)(E:b y=β (.cells [.ptr c 0]))(F:α d<=1000000000):
  AC γ 69 [.agg (ab a h k o),.ptr y 0] b λG C=>dh c p b C/\eg r C c p (p1 d a).2/\G=.v (.bool (p1 d a).1):=by
 have L:=(aP (N:=h) (e6:=k) (h6:=o) z).all;have W:aM η 32 (ab a h k o)=br a.sum:=by rw[aM,if_pos rfl,L.2.2.1];rfl
 refine aK hm N9 ?_;refine bs λP S=>?_;have x:=μ (Y:=.cells (ab a h k o)) (θ (f:=b)) S;have c2:=ξ b P (.cells (ab a h k o));have e:=κ (x _ _ E);have f:=κ c2;refine aa ?_;refine ah (E6 r _ c p d (D.mono x) a.sum z F) ?_;rintro _ g⟨T,V,rfl⟩;refine aa ?_;exact⟨_,θ,(dh.of x).trans T,V,rfl⟩
def a3b(z b:U)(c x F G C L:Nat)(d:af)(h:List ϊ)(a:ao)(k o p:Own)(D:α a.sum=32)(P:eg z b c x h)(S:b F=β (.cells [.ptr c 0]))(V:b G=β (.cells [.ptr C 0]))(W:bq b C L d)(e:α h<=1000000000):
  AC γ 85 [.agg (ab a k o p),.ptr G 0,.ptr F 0] b λf T=>dh c x b T/\eg z T c x (gb d h a).2/\f=.v (.bool (gb d h a).1):=by
 have g:=(aP (N:=k) (e6:=o) (h6:=p) D).all;have t:aM η 32 (ab a k o p)=br a.sum:=by rw[aM,if_pos rfl,g.2.2.1];rfl
 refine aK hm NH ?_;refine bs λi j=>?_;have r:=μ (Y:=.cells (ab a k o p)) (θ (f:=b)) j;have c2:=ξ b i (.cells (ab a k o p));have l:=κ (r _ _ S);have u:=κ (r _ _ V);have m:=κ c2;unfold gb;refine aa ?_;refine ah (G7 _ C L d (W.mono r) a.sum D) ?_;rintro _ n⟨E,rfl⟩;have y:=π r E;have l:=κ (E _ _ (r _ _ S));have m:=κ (E _ _ c2);cases cr:(d.m a.sum).isSome with
 |true=>refine aa ?_;exact⟨_,θ,dh.of y,P.mono y⟩
 |false=>refine aa ?_;refine ah (E6 z n c x h (P.mono y) a.sum D e) ?_;rintro _ v⟨q,s,rfl⟩;refine aa ?_;exact⟨_,θ,(dh.of y).trans q,s⟩
def iB(b:af)(c:Nat)(a:ao)(d:List ϊ):Int×List ϊ:=ez b c p1 (bJ a+1) a d
def dm(a:af)(c:Nat)(b:ao)(d:List ϊ):Int×List ϊ:=ez a c (gb a) (bJ b+1) b d
def vN(C:Nat)(p:af->Nat->ao->List ϊ->Int×List ϊ):Prop:=∀(r h:U)(k o x y:Nat)(d:af)(b:Nat)(c:List ϊ)(a:ao)(D E F:Own),1<=b->b<=8->bq h x y d->y≠o->eg r h k o c->α a.sum=32->tB d a->(a≠az->1<=a.size)->α c+bJ a<=1000000000->
  AC γ C [.ptr k 0,.ptr x 0,.agg (ab a D E F),.v (.int .i64 (b:Int))] h λG z=>dh k o h z/\eg r z k o (p d b a c).2/\(p d b a c).2.length<=α c+bJ a/\G=.v (.int .i64 (p d b a c).1)
def G8:vN 32 iB:=λL a d E P S T e h b k o p f g i j r x l m F=>by
 have I:=(aP (N:=k) (e6:=o) (h6:=p) x).all;obtain⟨K,aA,n,q⟩:=r.at;refine aK hm LZ ?_;refine bs λc y=>?_;refine dd λV M _ _=>?_;generalize z:(a.set c _).set V _=C;have G:a.sub C:=by subst z;exact aO
 have c2:C V=β (.cells (ab b k o p)):=by subst z;exact aO
 have s:C c=β (.cells [.ptr d 0]):=by subst z;exact aO
 clear z;have t:c≠d:=by rintro rfl;rw[n]at y;cases y
 have u:c≠E:=by rintro rfl;rw[q]at y;cases y
 have N:=κ c2;refine aa ?_;refine ah (zx L P S T e f g d E _ _ p1 (λa=>bq a P S T/\a c=β (.cells [.ptr d 0])) Χ (λa D=>D.1) (λa O h D v W=>⟨D.1.fl v W j,W _ _ (rb D.2 t u)⟩)
  (λa h b k o p x w r F=>a3a L a d E c h b k o p x r w.2 F) (λh b=>qe) (bJ b+1) C ⟨i.mono G,s⟩ h (r.mono G) b k o p x l m δ F) ?_
 rintro _ Q⟨A,B,H,rfl⟩;refine aa ?_;exact⟨_,θ,(dh.of G).trans A,B,H,rfl⟩
def G9:vN 39 dm:=λf a b D k S E m o c p r x n q s t F G u v T=>by
 have Q:=(aP (N:=p) (e6:=r) (h6:=x) G).all;obtain⟨X,aA,g,i⟩:=F.at;refine aK hm Md ?_;refine bs λd L=>?_;refine dd λh P _ _=>?_;refine hd λj Y _ _ _ _=>?_;generalize y:((a.set d _).set h _).set j _=z;have V:a.sub z:=by subst y;exact aO
 have c2:z j=β (.cells (ab c p r x)):=by subst y;exact aO
 have w:z d=β (.cells [.ptr b 0]):=by subst y;exact aO
 have l:z h=β (.cells [.ptr k 0]):=by subst y;exact aO
 clear y;have A:d≠b:=by rintro rfl;rw[g]at L;cases L
 have B:d≠D:=by rintro rfl;rw[i]at L;cases L
 have H:h≠b:=by rintro rfl;rw[g]at P;cases P
 have I:h≠D:=by rintro rfl;rw[i]at P;cases P
 have Z:=κ c2;have j9:=κ l;refine aa ?_;refine ah (zx f k S E m n q b D _ _ (gb E) (λa=>bq a k S E/\a d=β (.cells [.ptr b 0])/\a h=β (.cells [.ptr k 0])) Χ (λa C=>C.1) (λa k0 o C K W=>⟨C.1.fl K W t,W _ _ (rb C.2.1 A B),W _ _ (rb C.2.2 H I)⟩)
  (λa o c p r x G e F T=>a3b f a b D d h k S E o c p r x G F e.2.1 e.2.2 e.1 T) (λo c=>by unfold gb;split;(·dsimp only;omega);exact qe) (bJ c+1) z ⟨s.mono V,w,l⟩ o (F.mono V) c p r x G u v δ T) ?_
 rintro _ k1⟨M,N,O,rfl⟩;refine aa ?_;exact⟨_,θ,(dh.of V).trans M,N,O,rfl⟩
def Ga(r:Nat)(d:af->Nat->ao->List ϊ->Int×List ϊ)(W:vN r d)(e:fA γ r=η)(h:U)(x y:Nat)(c:af)(E:bq h x y c)(a:ao)(k o p:Own)(F:α a.sum=32)(f:tB c a)(g:a≠az->1<=a.size)(i:bJ a<=1000000000)(b:Nat)(j:1<=b)(l:b<=8):
  AC γ 35 [.ptr x 0,.agg (ab a k o p),.v (.int .i64 (b:Int)),.bG r [] []] h λG m=>h.sub m/\((d c b a []).1=0->∃z,G=.aJ [.J ((d c b a []).2.map br) z,.v (.int .i64 0)])/\((d c b a []).1≠0->G=.aJ [.J [] .nil,.v (.int .i64 (d c b a []).1)]):=by
 have H:=(aP (N:=k) (e6:=o) (h6:=p) F).all;have I:¬(b:Int)<1:=δ;have K:¬(8:Int)<(b:Int):=δ;refine aK hm M6 ?_;refine bs λn q=>?_;have C:=μ (Y:=.cells (ab a k o p)) (θ (f:=h)) q;have bh:=ξ h n (.cells (ab a k o p));refine aa ?_;refine ah (y9 _) ?_;rintro _ s⟨t,L,M,P,rfl,S⟩;have T:=S.sub;have N:=κ (T _ _ bh);have u:=E.mono (π C T);have v:y≠L:=by obtain⟨_,⟨_,_,w,_⟩,_⟩:=E.mp;rintro rfl;rw[C _ _ w]at P;cases P
 refine aa ?_;refine eR e (W _ s t L x y c b [] a k o p j l u v S F f g (by simpa using i)) ?_;rintro _ O⟨Q,V,X,rfl⟩;have Y:=π C V.sub;obtain⟨⟨z,A,_⟩,_⟩:=id V;have eP:=κ A;generalize d c b a []=res at*;obtain⟨Z,j9⟩:=res
 dsimp only at*
 refine aa ?_;refine aF (λB=>?_) λB=>?_
 .exact⟨λD=>D.elim,λ_=>trivial⟩
 .exact⟨λ_=>⟨z,rfl⟩,λD=>D.elim⟩
def a3c(d:U)(p y:Nat)(c:af)(G:bq d p y c)(a:ao)(h k o:Own)(z:α a.sum=32)(L:tB c a)(P:a≠az->1<=a.size)(S:bJ a<=1000000000)(b:Nat)(T:1<=b)(V:b<=8):
  AC γ 14 [.ptr p 0,.agg (ab a h k o),.v (.int .i64 (b:Int))] d λC W=>d.sub W/\((iB c b a []).1=0->∃D,C=.aJ [.J ((iB c b a []).2.map br) D,.v (.int .i64 0)])/\((iB c b a []).1≠0->C=.aJ [.J [] .nil,.v (.int .i64 (iB c b a []).1)]):=by
 have i:=(aP (N:=h) (e6:=k) (h6:=o) z).all;refine aK hm Lt ?_;refine bs λj e=>?_;have r:=μ (Y:=.cells (ab a h k o)) (θ (f:=d)) e;refine ah (Ga _ _ G8 Χ _ p y c (G.mono r) a h k o z L P S b T V) ?_;rintro _ l⟨E,f,g⟩;by_cases F:(iB c b a []).1=0
 .obtain⟨D,rfl⟩:=f F;refine aa ?_;exact⟨π r E,λ_=>trivial,λx=>x.elim⟩
 .obtain rfl:=g F;refine aa ?_;exact⟨π r E,λx=>x.elim,λ_=>trivial⟩
def Gb(d:U)(p y:Nat)(c:af)(G:bq d p y c)(a:ao)(h k o:Own)(z:α a.sum=32)(L:tB c a)(P:a≠az->1<=a.size)(S:bJ a<=1000000000)(b:Nat)(T:1<=b)(V:b<=8):
  AC γ 22 [.ptr p 0,.agg (ab a h k o),.v (.int .i64 (b:Int))] d λC W=>d.sub W/\((dm c b a []).1=0->∃D,C=.aJ [.J ((dm c b a []).2.map br) D,.v (.int .i64 0)])/\((dm c b a []).1≠0->C=.aJ [.J [] .nil,.v (.int .i64 (dm c b a []).1)]):=by
 have i:=(aP (N:=h) (e6:=k) (h6:=o) z).all;refine aK hm LI ?_;refine bs λj e=>?_;have r:=μ (Y:=.cells (ab a h k o)) (θ (f:=d)) e;refine ah (Ga _ _ G9 Χ _ p y c (G.mono r) a h k o z L P S b T V) ?_;rintro _ l⟨E,f,g⟩;by_cases F:(dm c b a []).1=0
 .obtain⟨D,rfl⟩:=f F;refine aa ?_;exact⟨π r E,λ_=>trivial,λx=>x.elim⟩
 .obtain rfl:=g F;refine aa ?_;exact⟨π r E,λx=>x.elim,λ_=>trivial⟩
structure nT(c:U)(x:R)(b:ϊ):Prop where
 one:x.cells=[x]
 len:fi x=β (.v (.int .i64 (α b)))
 src:∀a,c.sub a->ox a x b
theorem nT.aq(a:fO s f w n):nT f n w:=by obtain⟨h,b,k,c⟩:=a.src;simp only[a7w,a8g]at b;subst b;refine⟨?_,c,λo d=>fO.hF (a.mono d)⟩;rcases a.2 with⟨_,rfl|rfl⟩|⟨_,_,_,_,rfl,_⟩<;>rfl
def nT.mono(a:nT f n w)(b:f.sub s):nT s n w:=⟨a.one,a.len,λd c=>a.src _ (π b c)⟩
def a3d(c:UInt8)(b:ϊ)(d:R)(h:Nat)(a:U)(k:nT a d b)(y:α b<=900000)(p:a h=β (.cells [d])):
  AC γ 189 [.v (.int .u8 (c.toNat:Int)),.aq h 1 1 1] a λr x=>fO a x (preB c [b]) r:=
 a2i c [(d,b)] h a p (λz o=>by rw[a7I]at o;subst o;exact .inr ⟨k.src _ θ,k.len⟩) (by simp[preB,chunk,cG];omega)
theorem a3e(b:α w=32)(a:R):(br w).cells.length=32/\putAt (ε 32 a) 0 (br w).cells=(br w).cells/\(.agg ((br w).cells.take 32):R)=br w:=by grind[br,σ,putAt,Ε]
def a3f(b:ϊ)(a:R)(c:U)(k:nT c a b)(y:α b<=900000):
  AC γ 135 [a] c λo z=>z=c/\o=br (eb b):=by
 have p:=k.one;refine aK hm Pg ?_;refine bs λF C=>?_;refine eQ (by simp[aY,p]) ς λD E=>?_;rw[show flat [a]=[a] by simp[flat,p]];have r:=μ (Y:=.cells (ε 32 (.v (.int .u8 0)))) (θ) C;have d:=μ (Y:=.cells [a]) (θ) E;refine aa ?_;refine ie (a3d 80 b a D _ (k.mono (π r d)) y (ξ _ _ _)) λo G h=>?_;have x:=nT.aq h;have L:=χ (h.sub _ _ (d _ _ (ξ _ _ _)));have P:=a3e (sI (preB 80 [b])) (.v (.int .u8 0));refine bp (a2f _ (by simp[preB,chunk,cG];omega) _ _ (x.src _ θ) x.len) ?_;exact⟨π (π r d) h.sub,rfl⟩
theorem Gc(c b:Ω)(p r:Own)(d:Nat)(k:U)(D:d<=1000000):
  AC γ 193 [eU c b p r,.v (.int .i64 (d:Int))] k λx y=>y=k/\x=.v (.bool (cQ c b d)):=by
 have E:=bN (q:=c);have F:=bN (q:=b);have G:=@dU c;have L:=@dU b;refine aK hm QV ?_;refine bs λP S=>?_
 repeat' first|refine aF (λ_=>?_) λ_=>?_|trivial
 all_goals try (rw[cQ];exact aR)
 refine gv [1,2] (λa:Nat=>[(5,.v (.int .i64 a))]) (λa=>a<=d/\∀h<a,decide (c.getD h 0<=b.getD h 0)=η) (λa=>d - a) 0 ⟨δ,λh z=>by omega⟩ aO ?_;rintro a⟨b,o⟩T;refine aa ?_;refine aF (λC=>?_) λC=>?_
 .repeat' first|refine aF (λ_=>?_) λ_=>?_|trivial
  grind[cQ,sB,decide_eq_false_iff_not,aR]
  .exact⟨a+1,⟨δ,upto o (by simp only[decide_eq_true_eq];omega)⟩,rfl,δ⟩
 .rw[cQ,sC λh z=>o h δ];exact aR
def c8:ϊ->ϊ->Bool
 |_,[]=>ι
 |[],_:: _=>η
 |a::c,b::d=>if a=b then c8 c d else decide (a<b)
theorem a3g:∀b a:ϊ,Op.bytesLess b a=c8 b a:=by
 intro b
 induction b with
 |nil=>intro a;cases a<;>simp[Op.bytesLess,c8]
 |cons c b ih=>
  intro a;cases a with
  |nil=>rfl
  |cons d a=>simp only[Op.bytesLess,c8,ih];split<;>simp_all
theorem zy(a:ϊ):c8 a a=false:=by induction a<;>simp_all [c8]
theorem Gd:∀b a:ϊ,c8 b a=ι->c8 a b=ι->b=a:=by
 intro b
 induction b with
 |nil=>intro a;cases a<;>simp[c8]
 |cons c b ih=>
  intro a;cases a with
  |nil=>simp[c8]
  |cons d a=>simp only[c8];grind
theorem vO:∀c a b:ϊ,c8 c a=η->c8 a b=η->c8 c b=true:=by
 intro c
 induction c with
 |nil=>intro a b;cases a<;>cases b<;>simp[c8]
 |cons d c ih=>
  intro a b;cases a with
  |nil=>simp[c8]
  |cons h a=>
   cases b with
   |nil=>simp[c8]
   |cons k b=>simp only[c8];grind
theorem vP(a b:ϊ):jn .lss (bo a) (bo b)=β (.v (.bool (c8 a b)))/\jn .geq (bo a) (bo b)=β (.v (.bool (!c8 a b)))/\
  jn .leq (bo a) (bo b)=β (.v (.bool (c8 a b||decide (a=b))))/\jn .gtr (bo a) (bo b)=β (.v (.bool (!(c8 a b||decide (a=b))))):=by
 grind[decide,bo,sm,bt,qx,toList_mk,a3g]
def eL.at_(C:eL e9 g):∃D E,aM ι 1 (g.drop 36)=.v (.int .i64 e9.bf.live)/\aM ι 1 (g.drop 38)=.J (ad e9.bf.key) D/\aM ι 1 (g.drop 73)=.v (.int .i64 e9.bm.live)/\aM ι 1 (g.drop 74)=.v (.int .i64 e9.bm.size)/\aM ι 1 (g.drop 75)=.J (ad e9.bm.key) E:=by
 obtain⟨⟨y,o,p,c,d,h,b,rfl⟩,⟨F,_⟩,⟨G,_⟩,_⟩:=C;have k:=aP (N:=o) (e6:=p) (h6:=c) F;have r:=aP (N:=d) (e6:=h) (h6:=b) G;have z:∀a,a<=37->(bo e9.name::.J (bM e9.aD) y::(ab e9.bf o p c++ab e9.bm d h b)).drop (a+2)=(ab e9.bf o p c).drop a++ab e9.bm d h b:=λa L=>by
  simp only[a8G];rw[a8U (by have:=k.len;omega)]
 have x:∀a,(bo e9.name::.J (bM e9.aD) y::(ab e9.bf o p c++ab e9.bm d h b)).drop (a+37+2)=(ab e9.bm d h b).drop a:=λa=>by
  simp only[a8G];rw[a8P,a8N (by rw[k.len];omega),k.len,a7H];congr 1
 refine⟨c,b,?_,?_,?_,?_,?_⟩
 .rw[z 34 δ,k.d34];rfl
 .rw[z 36 δ,k.d36];rfl
 .rw[x 34,r.d34];rfl
 .rw[x 35,r.d35];rfl
 .rw[x 36,r.d36];rfl
def gd(a:aU):Bool:=fb ⟨1,a.name,a.aD,[]⟩&&(fq (α a.aD+1) a.bf&&(fq (α a.aD+1) a.bm&&(decide (a.bf.live=a.bm.live)&&(decide (α a.bf.key=0)&&
 (decide (a.bm=az)||(decide (α a.bm.key=α a.aD+1)&&decide (a.bm.size=a.bm.live)))))))
structure aU.Fit(t:aU):Prop where
 n:α t.name<=1000000
 c:α t.aD<=1000000
 cs:∀c∈t.aD,α c<=1000000
def tC(a:aU)(b:ύ)(c:eL a b)(d:U):AC γ 67 [.agg b] d λh k=>k=d/\h=.v (.int .i64 ((α a.aD+1:Nat):Int)):=by obtain⟨o,p,r,x,y,z,C,D,E,F,G,L,P⟩:=c.all;have S:=iZ (e4:=a.aD);have T:=c.c;refine aK hm N5 ?_;refine bs λV W=>?_;trivial
theorem rF(a:aU)(c:ύ)(b:eL a c)(o:a.Fit)(d:U):AC γ 125 [.agg c] d λp r=>r=d/\p=.v (.bool (gd a)):=by
 obtain⟨W,e,f,x,y,z,C,D,E,F,g,i,j⟩:=b.all;obtain⟨l,m,n,q,s,t,u⟩:=b.at_;have v:=iZ (e4:=a.aD);have w:=bN (q:=a.bf.key);have A:=bN (q:=a.bm.key);obtain⟨G,L,P⟩:=o;have B:∀h,fq h az=true:=λh=>by rfl
 refine aK hm OW ?_;refine bs λk H=>?_;refine bp (tC a c b _) ?_;refine bp (FF ⟨⟨1,a.name,a.aD,[]⟩,x,.nil⟩ ⟨G,L,P,ς⟩ _) ?_;have S:=ye a.bf y z C (α a.aD+1) (d.set k (.cells c)) δ b.k.1 b.k.2;have T:=ye a.bm D E F (α a.aD+1) (d.set k (.cells c)) δ b.z.1 b.z.2;refine aF (λV=>?_) λV=>?_
 .rw[gd];exact aR
 refine bp S ?_
 repeat' first|refine aF (λ_=>?_) λ_=>?_|trivial
 all_goals try (rw[gd];exact aR)
 .refine bp T ?_
  repeat' first|refine aF (λ_=>?_) λ_=>?_|trivial
  all_goals try (rw[gd];exact aR)
  all_goals refine bp (mB _ _ _ _ _ b.z.1 λ_=>b.z.2) ?_
  all_goals repeat' first|refine aF (λ_=>?_) λ_=>?_|trivial
  all_goals grind[gd,aR]
def cJ(a:List aU):Bool:=(ω (α a)).all (λb=>gd (a.getD b default)&&(decide (b=0)||c8 (a.getD (b - 1) default).name (a.getD b default).name))&&decide (α a<=8)
theorem nU(a:List aU)(E:ύ)(e:Own)(y:aB ed a E)(f:∀d∈a,d.Fit)(s:α a<=1000000)(k:U):AC γ 71 [.J E e] k λg z=>z=k/\g=.v (.bool (cJ a)):=by
 have t:=y.len;refine aK hm Nd ?_;refine cc [0,5,6] (λb:Nat=>[(7,.v (.int .i64 b))]) (λb z=>k.sub z/\b<=α a/\∀c<b,(gd (a.getD c default)&&(decide (c=0)||c8 (a.getD (c - 1) default).name (a.getD c default).name))=η) (λb=>α a - b) 0 ⟨⟨θ,δ,λc C=>by omega⟩,aO⟩ ?_;rintro b F⟨G,u,i⟩v;refine aa ?_;refine aF (λj=>?_) λj=>?_
 .have L:a[b]?=β (a.getD b default):=by simp_all
  obtain⟨_,w,T,rfl,o⟩:=y.get L;have P:=f _ (a7r L);generalize l:a.getD b default=d at*;have A:=hC (n:=.agg T) o.all.1;obtain⟨B,H,I,K,M,N,O,Q,X,Y,Z,j9,k0⟩:=o.all;obtain⟨p,r⟩:∃p,p=(gd d&&(decide (b=0)||c8 (a.getD (b - 1) default).name d.name)):=⟨_,rfl⟩;have k1:p=ι->cJ a=false:=λC=>by
   grind[cJ,sB]
  have k2:p=η->∃x,(x<=α a/\∀c<x,(gd (a.getD c default)&&(decide (c=0)||c8 (a.getD (c - 1) default).name (a.getD c default).name))=η)/\R.v (.int .i64 ((b)+1))=.v (.int .i64 (x))/\α a - x<α a - b:=λC=>
   ⟨b+1,⟨δ,upto i (by rw[l,<-r];exact C)⟩,rfl,δ⟩
  have k3:∀h S,F h=ζ->k.sub (F.set h S):=λh S D=>μ G (Ο G D);by_cases V:b=0
  .subst V;simp only[decide_true,Bool.true_or,abo]at r;subst r;refine aa ?_;refine bs λh D=>?_;refine bp (rF d T o P _) ?_
   repeat' first|refine aF (λ_=>?_) λ_=>?_|trivial
   simp_all
  .have m:a[b - 1]?=β (a.getD (b - 1) default):=by grind
   obtain⟨_,k4,n,rfl,W⟩:=y.get m;generalize a.getD (b - 1) default=q at*;have k5:=hC (n:=.agg n) W.all.1;obtain⟨k6,k7,k8,_⟩:=W.all;have k9:(b) - 1=((b - 1:Nat):Int):=δ;have l0:=(vP q.name d.name).2.1;simp only[decide_eq_false V,abp]at r;refine aa ?_;refine bs λh D=>?_;refine bp (rF d T o P _) ?_
   repeat' first|refine aF (λ_=>?_) λ_=>?_|trivial
   all_goals simp_all
 grind[cJ,sC,aR]
def nV(a b:ϊ):Int:=if c8 a b=η then -1 else if a=b then 0 else 1
def Ge(b:ϊ)(a:U):AC γ 296 [bo b] a λc d=>d=a/\c=.v (.bool ι):=by have k:=λh v=>@D8 h v;refine aK hm TA ?_;trivial
theorem a3h(a b:ϊ)(c:U):AC γ 262 [bo a,bo b] c λh k=>k=c/\h=.v (.int .i64 (nV a b)):=by
 obtain⟨p,r,x,y⟩:=vP a b;refine aK hm SO ?_;refine bp (Ge a c) ?_;refine bp (Ge b c) ?_;refine aF (λd=>?_) λd=>?_
 .rw[nV,if_pos d]
 .refine aF (λo=>?_) λo=>?_;simp_all [nV];simp_all [nV]
def a3i(a:aU)(b:ύ)(d:eL a b)(c:U):AC γ 209 [.agg b] c λh k=>k=c/\h=bo a.name:=by obtain⟨o,p,r,_⟩:=d.all;refine aK hm Ri ?_;refine bs λx y=>?_;trivial
def Gf(a:aU)(b:ύ)(h:eL a b)(k:ϊ)(c:U)(d:Nat)(o:c.read d=β [.bG 209 [] []]):AC γ 261 [.agg b,bo k,.ptr d 0] c λp r=>r=c/\p=.v (.int .i64 (nV a.name k)):=by
 obtain⟨z,C,_⟩:=h.all;refine aK hm SM ?_;refine aN λx y=>?_;have D:d≠x:=by rintro rfl;simp[U.read,y]at o
 refine aa ?_;refine mu (a3i a b h _) ?_;refine bp (a3h _ _ _) ?_;trivial
def Place(a:List aU)(d:ϊ)(c:Nat):Prop:=c<=α a/\(∀b<c,c8 (a.getD b default).name d=η)/\∀b<α a,c<=b->c8 (a.getD b default).name d=ι
theorem Gg:nV w j4<0↔c8 w j4=true:=by grind[nV]
theorem a3j:nV w j4=0↔w=j4:=by
 unfold nV;split
 .rename_i a;simp;rintro rfl;rw[zy]at a;cases a
 .simp
theorem a3k(c:List aU)(y:ύ)(V:Own)(d:ϊ)(G:aB ed c y)(u:α c<=1000000)(W:∀a b,a<b->b<α c->c8 (c.getD a default).name (c.getD b default).name=η)(p:U)(r:Nat)(L:p.read r=β [.bG 209 [] []]):
  AC γ 260 [.J y V,bo d,.bG 261 [] [.ptr r 0]] p λe f=>f=p/\∃a,Place c d a/\e=.aJ [.v (.int .i64 (a:Int)),.v (.bool (decide (a<α c)&&decide ((c.getD a default).name=d)))]:=by
 have v:=G.len;have el:∀a,a<α c->∃T,y[a]?=β (.agg T)/\eL (c.getD a default) T/\eo 76 (β (.agg T))=β (.bS T)/\α T=76/\T.take 76=T:=λa z=>by
  obtain⟨_,g,T,rfl,k⟩:=G.get (i:=a) (x:=c.getD a default) (by simp_all);exact⟨T,g,k,hC k.all.1,k.all.1,k.all.2.1⟩
 have i:∀a,a<α c->c8 (c.getD a default).name d=η->∀b,b<a+1->c8 (c.getD b default).name d=true:=λa z o b P=>by
  rcases Nat.lt_or_eq_of_le (Nat.le_of_lt_succ P)with C|rfl
  .exact vO _ _ _ (W b a C z) o
  .exact o
 have j:∀a,a<α c->c8 (c.getD a default).name d=ι->∀b,b<α c->a<=b->c8 (c.getD b default).name d=false:=λa z o b P w=>by
  grind
 refine aK hm SK ?_;refine gv [0,1,2,8] (λh:Nat×Nat=>[(9,.v (.int .i64 h.1)),(10,.v (.int .i64 h.2))]) (λh=>h.1<=h.2/\h.2<=α c/\(∀b<h.1,c8 (c.getD b default).name d=η)/\∀b<α c,h.2<=b->c8 (c.getD b default).name d=ι) (λh=>h.2 - h.1) (0,α c) ⟨ς,ς,λb o=>by simp at o,λb o x=>by simp at x;omega⟩ aO ?_;rintro⟨a,b⟩ ⟨C,x,D,E⟩ A
 dsimp only at C x D E|-
 have B:bt .shr (.int .u64 ((a)+(b))) (.int .u64 1)=β (.int .u64 (((a+b)/2:Nat))):=by rw[show(a)+(b)=((a+b:Nat):Int) by omega,so _ _ _ δ δ];rfl
 by_cases H:(a:Int)<b
 .obtain⟨T,l,k,m,n,q⟩:=el ((a+b)/2) δ;have s:=i ((a+b)/2) δ;have t:=j ((a+b)/2) δ;generalize I:(a+b)/2=S at*;refine aa ?_;refine mu (Gf _ T k d p r L) ?_;refine aF (λF=>?_) λF=>?_
  .exact⟨(S+1,b),⟨by simp only;omega,by simp only;omega,s (Gg.1 F),E⟩,⟨rfl,rfl⟩,by simp only;omega⟩
  .exact⟨(a,S),⟨by simp only;omega,by simp only;omega,D,t (by simpa[Gg] using F)⟩,⟨rfl,rfl⟩,by simp only;omega⟩
 .obtain rfl:a=b:=δ;have K:Place c d a:=⟨x,D,E⟩;by_cases c2:(a:Int)<α c
  .obtain⟨T,l,k,m,n,q⟩:=el a δ;refine aa ?_;refine mu (Gf _ T k d p r L) ?_;grind[a3j]
  .refine aa ?_;grind
def a3l(b:List aU)(d:ύ)(x:Own)(c:ϊ)(y:aB ed b d)(z:α b<=1000000)(C:∀a h,a<h->h<α b->c8 (b.getD a default).name (b.getD h default).name=η)(k:U):
  AC γ 159 [.J d x,bo c] k λo p=>p=k/\∃a,Place b c a/\o=.aJ [.v (.int .i64 (a:Int)),.v (.bool (decide (a<α b)&&decide ((b.getD a default).name=c)))]:=by
 refine aK hm PO ?_;refine ah (Z:=λo p=>p=k/\∃a,Place b c a/\o=.aJ [.v (.int .i64 (a)),.v (.bool (decide (a<α b)&&decide ((b.getD a default).name=c)))]) ?_ ?_
 .refine aK hm Rg ?_;refine bs λD E=>?_;refine ah (a3k b d x c y z C _ D (U.Cv)) ?_;rintro _ _⟨rfl,a,r,rfl⟩;refine aa ?_;exact⟨a,r,rfl⟩
 .rintro _ _⟨rfl,a,r,rfl⟩;refine aa ?_;exact⟨a,r,rfl⟩
abbrev fJ:ύ:=bo []::.J [] .nil::(ab az .nil .nil .nil++ab az .nil .nil .nil)
def kY:([R.v (.string ⟨#[]⟩)]++[R.J [] .nil]++ε 32 (R.v (.int .u8 0))++[R.J [] .nil,.J [] .nil]++[R.v (.int .i64 0),.v (.int .i64 0)]++[R.J [] .nil]++ε 32 (R.v (.int .u8 0))++[R.J [] .nil,.J [] .nil]++[R.v (.int .i64 0),.v (.int .i64 0)]++[R.J [] .nil])=fJ:=by have:=ch;rfl
def ht:eL ⟨[],[],az,az⟩ fJ:=⟨⟨.nil,_,_,_,_,_,_,rfl⟩,⟨bl,pV⟩,⟨bl,pV⟩,ς⟩
theorem p2(a:eL e9 g):α g=76/\g.take 76=g/\putAt fJ 0 g=g/\(fJ).length=76:=by have b:=a.all.1;have c:=ht.all.1;grind[sq]
theorem Gh{c:Type}{y:c}{d:c->Bool}:∀ {b:List c}{h:Nat}{a:c},b[h]?=β a->d a=η->(∀o<h,d (b.getD o y)=ι)->b.find? d=β a
 |[],h,a,k,_,_=>by simp at k
 |p::b,0,a,k,r,_=>by simp_all
 |p::b,h+1,a,k,r,x=>by
  have z:d p=false:=x 0 δ;rw[List.find?_cons,z];exact Gh (by trivial) r λo k=>x (o+1) δ
theorem a3m{c:b0}{b:b0->Bool}{a:List b0}(k:∀d<α a,b (a.getD d c)=ι):a.find? b=none:=by rw[List.find?_eq_none];intro o h;obtain⟨p,r,rfl⟩:=a8a h;simp_all
def Found(c:List aU)(d:ϊ)(b:R):Prop:=match c.find? (λa=>decide (a.name=d))with
 |some a=>∃T,eL a T/\b=.aJ [.agg T,.v (.bool η)]
 |none=>b=.aJ [.agg fJ,.v (.bool ι)]
theorem find_spec(b:List aU)(C:ύ)(P:Own)(o:ϊ)(D:aB ed b C)(m:α b<=1000000)(c:U):
  AC γ 163 [.J C P,bo o] c λS p=>p=c/\Found b o S:=by
 have n:=D.len;have q:=λV=>@qW V o;have s:=kY;refine aK hm PX ?_;refine bs λh W=>?_;rw[kY];have r:c.sub (c.set h (.cells fJ)):=μ θ W;have E:(c.set h (.cells fJ)) h=β (.cells fJ):=ξ _ _ _;generalize c.set h (.cells fJ)=e at*;obtain⟨_,_,_,t⟩:=p2 ht;have u:=(p2 ht).2.2.1;have v:=ht.all.2.1;refine cc [1,4,8,9] (λa:Nat=>[(10,.v (.int .i64 a))]) (λa p=>e.sub p/\a<=α b/\∀d<a,(b.getD d default).name≠o) (λa=>α b - a) 0 ⟨⟨θ,δ,λd w=>by omega⟩,aO⟩ ?_;rintro a A⟨k,B,x⟩H;have I:=χ (k _ _ E);refine aa ?_;refine aF (λf=>?_) λf=>?_
 .have F:b[a]?=β (b.getD a default):=by simp_all
  obtain⟨_,K,T,rfl,G⟩:=D.get F;generalize g:b.getD a default=M at*;obtain⟨i,N,O,_⟩:=p2 G;have Q:=G.all.2.2.1;have X:=hC (n:=.agg T) i;refine aa ?_;refine aN λj y=>?_;have l:h≠j:=by rintro rfl;rw[k _ _ E]at y;cases y
  have Y:=Ι l;refine aa ?_;refine aF (λz=>?_) λz=>?_
  .refine⟨μ (π r k) (Ο (π r k) y),?_⟩;rw[Found,Gh F (by simp[z]) λd L=>by simpa using x d L];simp_all
  .exact⟨a+1,⟨δ,upto x (by rw[g];exact z)⟩,rfl,δ⟩
 .refine⟨π r k,?_⟩;rw[Found,a3m λd L=>by simpa using x d δ]
end Go.Proofs.YtcfpcblgmmeioaaGreat
