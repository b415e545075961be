import Derived.Test.YtcfpcblgmmeioaaGreatMF
import Derived.Test.YtcfpcblgmmeioaaGreatME
import Derived.Test.YtcfpcblgmmeioaaGreatMD
import Derived.Test.YtcfpcblgmmeioaaGreatMC
set_option linter.all false
set_option maxRecDepth 100000
namespace Go.Proofs.YtcfpcblgmmeioaaGreat
open Go Go.bD
variable{n b6:R}{f s e0:U}
def Fo {v:List UInt32} (c:av f s 1 (wl v) n) (o:v≠ []): ∃a b d,n= .ao a v.length b 1/\f a=none/\s a=some (.cells (wl v++d))/\v.length+d.length=b/\b<=maxLen:=by
 obtain⟨_,c|⟨a,C,b,p,rfl,r,x,y,h,k,D,z⟩⟩:=c
 .exact absurd (by simpa[wl] using c.1) o
 .simp only[a7s,eM]at y h k;subst k;refine⟨a,b,p.drop v.length,rfl,r,?_,?_,z⟩
  .rw[<-h,a7f];exact x
  .simp;omega
variable{e i v M b9 j2:Nat}
theorem a1s (r F:List UInt32) (y:List UInt8) (n:r.length=8) (a04:F.length=64) (D S:Nat) (k1:List R) (w A:Nat) (k6:List R) (L:Nat) (z:U)
  (k7:z D=some (.cells (wl r++k1))) (k8:z w=some (.cells k6)) (a52:A+64<=k6.length) (a05: ∀k9,k9<64->aL false 1 (k6.drop (A+k9))= .v (.int .u8 (y.getD k9 0).toNat)) (l0:z L=some (.cells (wl F))):
  AC Tryz.prog 291 [.ao D 8 S 1,.bE w A 64 e 1,.ao L 64 64 1] z λa06 E=>av z E 1 (wl (List.zipWith (·+ ·) (iI F (sched y) r) r)) a06:=by
 refine bc hm SS aaV ?_;refine aF (c2 @aY @aZ) ?_;refine xn (e:=64) aaU aaU λx k2=> ?_;have a07:D≠x:=by rintro rfl;rw[k2]at k7;cases k7
 have l5:w≠x:=by rintro rfl;rw[k2]at k8;cases k8
 have a08:L≠x:=by rintro rfl;rw[k2]at l0;cases l0
 have a09:(List.replicate 64 [R.v (.int .u32 0)]).flatten=ej (first y 0):=rfl;rw[a09];refine aF (c2 @aY @aZ) ?_;refine cm (λb E=> ∃a:Nat,a<=16/\E=z.set x (.cells (ej (first y a)))/\b 0= .ao D 8 S 1/\b 1= .bE w A 64 e 1/\b 2= .ao L 64 64 1/\b 7= .ao x 64 64 1/\b 8= .v (.int .i64 a))
  (λb _=>match b 8 with| .v (.int _ d)=>(16 - d).toNat| _=>0) ⟨0,aaU,?_⟩ ?_
 .exact gJ (c2 @aY @aZ)
 .rintro b _ ⟨a,l1,rfl,c,k3,h,k,k4⟩;have l2:(first y a).length=a:=by simp[first]
  by_cases o:(a:Int)<16
  .rw[<-a1q aaU];refine aF (bt @c @k3 @h @k @k4 @o @aY @aZ) ?_;refine cm (λb E=> ∃d:Nat,d<=4/\E=z.set x (.cells (ej (first y a++ [rp y a d])))/\b 0= .ao D 8 S 1/\b 1= .bE w A 64 e 1/\b 2= .ao L 64 64 1/\b 7= .ao x 64 64 1/\b 8= .v (.int .i64 a)/\b 9= .v (.int .i64 d))
    (λb _=>match b 9 with| .v (.int _ d)=>(4 - d).toNat| _=>0) ⟨0,aaU,?_⟩ ?_
   .refine aF (c9 @c @k3 @h @k @k4 @aY @aZ) ?_;rfl
   .rintro q _ ⟨d,a56,rfl,l6,l7,l8,l9,n0,n1⟩;by_cases n2:(d:Int)<4
    .have T:(ej (first y a++ [rp y a d])).length=64:=sC (by simp[l2];omega);have a10:aL false 1 ((ej (first y a++ [rp y a d])).drop a)= .v (.int .u32 (rp y a d).toNat):=by grind[lu,List.getD]
     have l3:(4*(a)+(d:Int)).toNat=4*a+d:=aaU;have a11:=a05 (4*a+d) aaU;refine aF (xv @l6 @l7 @l8 @l9 @n0 @n1 @n2 @T @a10 @u7 @l3 (U.ae k8) (a6I l5) @l5 @a11 @a1k @aY @aZ) ?_;rw[a1r _ l2.symm aaU];exact⟨⟨d+1,aaU,rfl,aaV⟩,aaU⟩
    .obtain rfl:d=4:=aaU;refine aF (cd @l6 @l7 @l8 @l9 @n0 @n1 @k4 @n2 @aY @aZ) ?_;refine⟨⟨a+1,aaU,?_,aaV⟩,aaU⟩;rw[a1p];simp only[first,aan,a7x,a6Q,a7W]
  .obtain rfl:a=16:=aaU;refine aF (bt @c @k3 @h @k @k4 @o @aY @aZ) ?_;refine cm (λb E=> ∃(p:List UInt32) (a:Nat),a<=48/\p.length=16+a/\grow (48 - a) p=sched y/\b 0= .ao D 8 S 1/\b 2= .ao L 64 64 1/\b 7= .ao x 64 64 1/\b 10= .v (.int .i64 ((16+a:Nat)))/\E=z.set x (.cells (ej p)))
    (λb _=>match b 10 with| .v (.int _ d)=>(64 - d).toNat| _=>0) ⟨first y 16,0,aaU,l2,rfl,?_⟩ ?_
   .exact gJ (bx @c @k3 @h @k @aY @aZ)
    all_goals rfl
   .rintro b _ ⟨p,a,l1,B,H,c,h,k,s,rfl⟩;by_cases o:((16+a:Nat):Int)<64
    .have T:(ej p).length=64:=sC aaU;have I:(((16+a:Nat):Int) - 15).toNat=a+1:=aaU;have K:(((16+a:Nat):Int) - 2).toNat=a+14:=aaU;have M:(((16+a:Nat):Int) - 16).toNat=a:=aaU;have N:(((16+a:Nat):Int) - 7).toNat=a+9:=aaU;refine aF (py @c @h @k @s @o @I @K @M @N @T @lu @tp @tq @aY @aZ) ?_;refine ah (mE _ _ 25 aaY aaY _) ?_;rintro _ _ ⟨rfl,rfl⟩;refine aF (py @c @h @k @s @o @I @K @M @N @T @lu @tp @tq @aY @aZ) ?_;refine ah (mE _ _ 14 aaY aaY _) ?_;rintro _ _ ⟨rfl,rfl⟩;refine aF (py @c @h @k @s @o @I @K @M @N @T @lu @tp @tq @aY @aZ) ?_;refine ah (mE _ _ 15 aaY aaY _) ?_;rintro _ _ ⟨rfl,rfl⟩;refine aF (py @c @h @k @s @o @I @K @M @N @T @lu @tp @tq @aY @aZ) ?_;refine ah (mE _ _ 13 aaY aaY _) ?_;rintro _ _ ⟨rfl,rfl⟩;refine aF (py @c @h @k @s @o @I @K @M @N @T @lu @tp @tq @aY @aZ) ?_;rw[xE _ B.symm aaU];refine⟨⟨_,a+1,aaU,by simp[B];omega,?_,?_,rfl⟩,aaU⟩
     .rw[<-H,show 48 - a=(48 -(a+1))+1 by omega,grow,more,B];rw[show 16+a - 16=a by omega,show 16+a - 15=a+1 by omega,show 16+a - 7=a+9 by omega,show 16+a - 2=a+14 by omega];rfl
     .simp;omega
    .obtain rfl:a=48:=aaU;have a13:p=sched y:=H;have a14:ej p=wl p:=by simp[ej,B,wl]
     rw[a14];clear H;generalize sched y=a57 at*;subst a13;have a15:bV (z.set x (.cells (wl p))) 1 (.ao D 8 S 1)=some (8,wl r):=by simp_all [U.an,eM,bV,U.ae]
     refine aF (bt @c @h @k @s @o @oc @aY @aZ) ?_;refine fb (av.zero U.a6) aaU a15 (by rw[eM,n]) (by rw[eM,n];simp) (by rw[eM,n];simp) λa61 P t=> ?_;rw[a6T]at t;refine aF (bh @c @h @k @aY @aZ) ?_;have V:(wl F).length=64:=by rw[eM,a04]
     have W:(wl p).length=64:=by rw[eM,B]
     have a16:(z.set x (.cells (wl p))) L=some (.cells (wl F)):=by rw[U.an _ _ a08];exact l0
     have a18:(z.set x (.cells (wl p))) x=some (.cells (wl p)):=U.ai _ _ _;have l4:(z.set x (.cells (wl p))) D=some (.cells (wl r++k1)):=by rw[U.an _ _ a07];exact k7
     have n3:z.sub (z.set x (.cells (wl p))):=U.af U.a6 k2;generalize z.set x (.cells (wl p))=a19 at*;refine cm (λb E=> ∃(a:Nat) (v:List UInt32),a<=64/\v.length=8/\iI (F.drop a) (p.drop a) v=iI F p r/\av a19 E 1 (wl v) (b 13)/\b 0= .ao D 8 S 1/\b 2= .ao L 64 64 1/\b 7= .ao x 64 64 1/\b 14= .v (.int .i64 a))
      (λb _=>match b 14 with| .v (.int _ d)=>(64 - d).toNat| _=>0) ⟨0,r,aaU,n,rfl,?_⟩ ?_
     .refine aF (bh @c @h @k @aY @aZ) ?_;exact t
     clear t;rintro b P ⟨a,v,l1,u,H,t,c,h,k,G⟩;have f:=t.1;obtain⟨k5,n4,O,C,n5,mo,a27,a29⟩:=Fo t (by intro g;rw[g]at u;cases u);rw[u]at C a27;by_cases o:(a:Int)<64
     .obtain⟨Q,X,Y,Z,g,j9,q,k0,rfl⟩: ∃Q X Y Z g j9 q k0,v= [Q,X,Y,Z,g,j9,q,k0]:=by
       match v,u with
       | [Q,X,Y,Z,g,j9,q,k0],_=>simp
      have i:(wl [Q,X,Y,Z,g,j9,q,k0]++O).length=8+O.length:=by rw[vn,u]
      have j:=U.ae mo;have l:=U.ae (f _ _ a18);have m:=U.ae (f _ _ a16);refine aF (od @c @h @k @C @G @o @i @j @l @m @mF @q1 @hB @V @W @q0 @a7h.{0} @a7k.{0} @aY @aZ) ?_;refine ah (mE _ _ 26 aaY aaY _) ?_;rintro _ P ⟨rfl,rfl⟩;refine aF (od @c @h @k @C @G @o @i @j @l @m @mF @q1 @hB @V @W @q0 @a7h.{0} @a7k.{0} @aY @aZ) ?_;refine ah (mE _ _ 21 aaY aaY _) ?_;rintro _ P ⟨rfl,rfl⟩;refine aF (od @c @h @k @C @G @o @i @j @l @m @mF @q1 @hB @V @W @q0 @a7h.{0} @a7k.{0} @aY @aZ) ?_;refine ah (mE _ _ 7 aaY aaY _) ?_;rintro _ P ⟨rfl,rfl⟩;refine aF (od @c @h @k @C @G @o @i @j @l @m @mF @q1 @hB @V @W @q0 @a7h.{0} @a7k.{0} @aY @aZ) ?_;refine ah (mE _ _ 30 aaY aaY _) ?_;rintro _ P ⟨rfl,rfl⟩;refine aF (od @c @h @k @C @G @o @i @j @l @m @mF @q1 @hB @V @W @q0 @a7h.{0} @a7k.{0} @aY @aZ) ?_;refine ah (mE _ _ 19 aaY aaY _) ?_;rintro _ P ⟨rfl,rfl⟩;refine aF (od @c @h @k @C @G @o @i @j @l @m @mF @q1 @hB @V @W @q0 @a7h.{0} @a7k.{0} @aY @aZ) ?_;refine ah (mE _ _ 10 aaY aaY _) ?_;rintro _ P ⟨rfl,rfl⟩;refine aF (od @c @h @k @C @G @o @i @j @l @m @mF @q1 @hB @V @W @q0 @a7h.{0} @a7k.{0} @aY @aZ) ?_;refine eK (by simp[aW,R.cells]) aaV λa30 n9=> ?_;refine aF (bx @c @h @k @G @aY @aZ) ?_;refine⟨⟨a+1,sD (F.getD a 0) (p.getD a 0) [Q,X,Y,Z,g,j9,q,k0],aaU,rfl,?_,?_,aaV⟩,aaU⟩;grind[D8]
      .exact⟨U.af f (U.bI f n9),.inr ⟨a30,8,8,_,rfl,U.bI f n9,U.ai _ _ _,rfl,rfl,rfl,aaU,aaY⟩⟩
     .obtain rfl:a=64:=aaU;have a34:iI F p r=v:=by rw[<-H,a7Z aaU];rfl
      refine aF (bt @c @h @k @C @G @o @aY @aZ) ?_;have a00:D≠k5:=by rintro rfl;rw[n5]at l4;cases l4
      have a01:=U.bI n3 n5;have a36:=f _ _ l4;refine cm (λb E=> ∃a:Nat,a<=8/\b 0= .ao D 8 S 1/\b 13= .ao k5 8 n4 1/\b 19= .v (.int .i64 a)/\E=P.set k5 (.cells (wl (jN a v r)++O)))
       (λb _=>match b 19 with| .v (.int _ d)=>(8 - d).toNat| _=>0) ⟨0,aaU,?_⟩ ?_
      .have l3:jN 0 v r=v:=rfl;rw[l3,U.pF mo];exact gJ (aM @c @C @aY @aZ)
      .rintro b _ ⟨a,l1,c,C,a02,rfl⟩;by_cases o:(a:Int)<8
       .obtain⟨a38,a42⟩:=D6 v r u n a aaU;have a43:(wl (jN a v r)++O).length=8+O.length:=by rw[vn,a38]
        have a47:(wl r++k1).length=8+k1.length:=by rw[vn,n]
        refine aF (gl @c @C @a02 @o @a43 @a47 @mF @a1m @a42 (U.ae a36) @a00 (a6I a00) @aY @aZ) ?_;grind
       .obtain rfl:a=8:=aaU;have a48:jN 8 v r=List.zipWith (·+ ·) v r:=by grind[jN,List.take_of_length_le,List.drop_of_length_le]
        have a03:(wl (List.zipWith (·+ ·) v r)).length=8:=by rw[eM];simp;omega
        rw[a48];refine aF (bx @c @C @a02 @o @aY @aZ) ?_;rw[a34];refine⟨_,U.a6,U.af (U.au n3 f) a01,.inr ⟨k5,8,n4,_,rfl,a01,U.ai _ _ _,?_,?_,by rw[a03],aaU,a29⟩⟩
        .rw[a6A,a03];omega
        simp_all
def a1t (b:List UInt32) (h:List UInt8) (z:b.length=8) (k x:Nat) (y:List R) (o c:Nat) (d:List R) (p:Nat) (a:U)
  (C:a k=some (.cells (wl b++y))) (D:a o=some (.cells d)) (E:c+64<=d.length) (F: ∀r,r<64->aL false 1 (d.drop (c+r))= .v (.int .u8 (h.getD r 0).toNat)) (G:a p=some (.cells (wl nt))):
  AC Tryz.prog 291 [.ao k 8 x 1,.bE o c 64 e 1,.ao p 64 64 1] a λL P=>av a P 1 (wl (comp b h)) L:=
 a1s b nt h z rfl k x y o c d p a C D E F G
end Go.Proofs.YtcfpcblgmmeioaaGreat
namespace Go.bD
open Go
variable{n b6:R}{f s e0:U}{e i v M b9 j2:Nat}
theorem yY {h:Nat×List R} (k:f.sub s) (o:bV f e n=some h):bV s e n=some h:=by
 have p: ∀b c,f.read b=some c->s.read b=some c:=by
  intro b c a;unfold U.read at a|-;cases d:f b with
  |none=>rw[d]at a;cases a
  |some r=>rw[k _ _ d];rw[d]at a;exact a
 unfold bV at o|-;grind
end Go.bD
namespace Go.Proofs.YtcfpcblgmmeioaaGreat
open Go Go.bD
def kM (a:List UInt8):List UInt8:=a++128::List.replicate (ek a.length) 0++cF (8*a.length)
def yZ (a:List UInt8):(kM a).length=a.length+9+ek a.length:=by simp[kM,cF];omega
def a1u (a:List UInt8):(kM a).length%64=0:=by rw[yZ];unfold ek;omega
theorem a1v (a:List UInt8):fi a=en (blocks ((kM a).length/64) gn (kM a)):=by
 have c:=yZ a;have d:ek a.length<64:=by unfold ek;omega
 have b:kM a=a++(128::List.replicate (ek a.length) 0++cF (8*a.length)):=by simp[kM]
 have h:jl a.length (a.drop (64*(a.length/64)))=(kM a).drop (64*(a.length/64)):=by rw[b,a8g aaU];simp[jl]
 have k:(kM a).length/64=a.length/64+((kM a).drop (64*(a.length/64))).length/64:=by rw[a6R];omega
 grind[fi,Db,Dc]
theorem Fp (b a:Nat) (d:a<8):(cF b).take a++ [UInt8.ofNat (b>>>(56 - 8*a)%256)]=(cF b).take (a+1):=by
 have c:UInt8.ofNat (b>>>(56 - 8*a)%256)=UInt8.ofNat (b>>>(56 - 8*a)):=by grind[UInt8.toNat_inj,UInt8.toNat_ofNat']
 rw[c];rcases(by omega:a=0\/a=1\/a=2\/a=3\/a=4\/a=5\/a=6\/a=7)with rfl|rfl|rfl|rfl|rfl|rfl|rfl|rfl<;>rfl
def yV (a:UInt32) (b:Nat):UInt8.ofNat ((a>>>UInt32.ofNat b).toNat%256)=(a>>>UInt32.ofNat b).toUInt8:=by apply a7v.1;rw[a7A];simp
theorem a1w (c:List UInt32) (k:c.length=8) (d:Nat) (p:d<32):(en c).take d++ [UInt8.ofNat ((c.getD (d/4) 0>>>UInt32.ofNat (24 - 8*(d%4))).toNat%256)]=(en c).take (d+1):=by
 rw[yV];have o: ∀h:UInt32,(h>>>UInt32.ofNat 0).toUInt8=h.toUInt8:=by intro h;simp
 have r: ∀a:Nat,a<8-> ∀b:Nat,b<4->(en c).take (4*a+b)++ [(c.getD a 0>>>UInt32.ofNat (24 - 8*b)).toUInt8]=(en c).take (4*a+b+1):=by
  match c,k with
  | [x,y,z,C,D,E,F,G],_=>
   intro a L b P;rcases(by omega:a=0\/a=1\/a=2\/a=3\/a=4\/a=5\/a=6\/a=7)with rfl|rfl|rfl|rfl|rfl|rfl|rfl|rfl<;>
    rcases(by omega:b=0\/b=1\/b=2\/b=3)with rfl|rfl|rfl|rfl<;>first|rfl|(simp only[a7h,a7k,Nat.reduceMul,Nat.reduceSub,o];rfl)
 grind
variable{f s e0:U}{e i v M b9 j2:Nat}
def vo {a:UInt8}:bV (f.set e (.cells (flat [.v (.int .u8 (a.toNat:Int))]))) 1 (.ao e 1 1 1)=some ([a].length,[a].map ak):=by simp[bV,U.ae (U.ai _ _ _),flat,R.cells,ak]
variable{g B c0:List R}{A:List UInt8}
theorem a1x (a:g.take A.length=A.map ak) (b:e<A.length):aL false 1 (g.drop e)= .v (.int .u8 (A.getD e 0).toNat):=by grind[ak,List.take_append_drop,List.drop_eq_getElem_cons,aL,List.getD]
def a1y (a:UInt32):br .rem (.int .u32 (a.toNat:Int)) (.int .u32 256)=some (.int .u32 ((a.toNat%256:Nat):Int)):=by have b:br .rem (.int .u32 (a.toNat)) (.int .u32 256)=(if(256:Int)=0 then none else some (.int .u32 ((a.toNat:Int).tmod 256))):=rfl;rw[b,if_neg aaY];rfl
variable{n b6:R}
theorem z1 {v:List UInt8} (d:av f s 1 (v.map ak) n) (h:v≠ []): ∃a b c,n= .ao a v.length b 1/\f a=none/\s a=some (.cells c)/\c.length=b/\c.take v.length=v.map ak/\v.length<=b:=by
 obtain⟨_,d|⟨a,k,b,c,rfl,o,p,r,x,y,z,C⟩⟩:=d
 .simp_all
 grind
theorem a1z (F:List UInt32) (k0:F=gn) (a:List UInt8) (a42:a.length<=1000000000) (W:R) (V:Nat) (G:U) (n5:bV G 1 W=some (a.length,a.map ak)) (n9:fa W=some (.v (.int .i64 a.length))) (a00:G V=some (.cells (wl nt))):
  AC Tryz.prog 245 [W,.ao V 64 64 1] G λa01 D=>D=G/\a01=bz (fi a):=by
 refine bc hm RL aaV ?_;refine aj (c2 @aY @aZ) ?_;refine aN λE m=> ?_;have a02:=yY (U.af (U.a6) m) n5 (s:=G.set E (.cells (List.replicate 32 (.v (.int .u8 0)))));have a03:=U.af (U.a6) m (X:= .cells (List.replicate 32 (.v (.int .u8 0)))) _ _ a00;have a04:=U.af (U.a6) m (X:= .cells (List.replicate 32 (.v (.int .u8 0))));have a05:(G.set E (.cells (List.replicate 32 (.v (.int .u8 0))))) E=some (.cells (List.replicate 32 (.v (.int .u8 0)))):=U.ai _ _ _;refine aj (aE @oc @aY @aZ) ?_;generalize G.set E (.cells (List.replicate 32 (.v (.int .u8 0))))=w at*;refine rn (c:= []) (av.zero U.a6) a02 aaW λa43 a47 A=> ?_;rw[a6T]at A;refine aj (c2 @aY @aZ) ?_;refine eK (by simp[aW,R.cells]) aaV λk1 e=> ?_;refine aj (c2 @aY @aZ) ?_;refine rn (A.mono (U.af U.a6 e)) (vo (a:=128)) aaW λa48 P y=> ?_;refine aj (c2 @aY @aZ) ?_;have a52:ek a.length<64:=by unfold ek;omega
 refine cm (λb D=> ∃c:Nat,c<=ek a.length/\av w D 1 ((a++128::List.replicate c 0).map ak) (b 5)/\b 0=W/\b 1= .ao V 64 64 1/\b 4= .ptr E 0)
  (λb _=>match b 5 with| .ao _ S _ _=>ek a.length+a.length+1 - S| _=>0) ⟨0,aaU,?_⟩ ?_
 .refine aj (c2 @aY @aZ) ?_;exact y
 .clear y A;rintro b P ⟨c,k2,y,x,h,d⟩;obtain⟨f,n,k3,p,k4,B,k5,H,k6⟩:=z1 y aaV;have I:(a++128::List.replicate c 0).length=a.length+1+c:=aaW;rw[I]at p;by_cases L:c<ek a.length
  .have q: ¬(Int.tmod ((a.length+1+c:Nat):Int) 64=56):=by have:Int.tmod ((a.length+1+c:Nat)) 64=(((a.length+1+c)%64)):=rfl;rw[this];unfold ek at L;omega
   refine aj (c9 @x @h @d @p @q @aY @aZ) ?_;refine eK (by simp[aW,R.cells]) aaV λk1 e=> ?_;refine aj (c9 @x @h @d @p @q @aY @aZ) ?_;rw[<-p];refine rn (y.mono (U.af U.a6 e)) (vo (a:=0)) aaW λa06 k7 K=> ?_;refine aj (bx @x @h @d @p @aY @aZ) ?_;have M:a++128::List.replicate c 0++ [0]=a++128::List.replicate (c+1) 0:=by rw[aaG];simp
   rw[M]at K;obtain⟨a56,a57,a61,rfl,_⟩:=z1 K aaV;grind
  .obtain rfl:c=ek a.length:=aaU;have q:(Int.tmod ((a.length+1+ek a.length:Nat):Int) 64=56):=by have:Int.tmod ((a.length+1+ek a.length:Nat)) 64=(((a.length+1+ek a.length)%64)):=rfl;rw[this];unfold ek;omega
   have a07:IntKind.u64.wrap (8*IntKind.u64.wrap (a.length))=((8*a.length:Nat)):=by rw[kt,kt];omega
   rw[<-I]at p;refine aj (cd @x @h @d @p @I @q @n9 @a07 @aY @aZ) ?_;rw[<-p]at*;refine cm (λb D=> ∃c:Nat,c<=8/\av w D 1 ((a++128::List.replicate (ek a.length) 0++(cF (8*a.length)).take c).map ak) (b 5)/\b 0=W/\b 1= .ao V 64 64 1/\b 4= .ptr E 0/\b 6= .v (.int .u64 ((8*a.length:Nat)))/\b 7= .v (.int .i64 c))
    (λb _=>match b 7 with| .v (.int _ S)=>(8 - S).toNat| _=>0) ⟨0,aaU,?_⟩ ?_
   .refine aj (bh @x @h @d @aY @aZ) ?_;simp_all
   .clear k4 B k5 H k6 x h d p y;rintro b P ⟨c,k2,y,x,h,d,g,i⟩;have a62:=Fp (8*a.length) c;by_cases L:(c:Int)<8
    .have a08:IntKind.u64.wrap (56 - 8*(c))=((56 - 8*c:Nat)):=by rw[kt];omega
     have k8:=yU ((8*a.length)>>>(56 - 8*c)) 256 aaU;have a09:((256:Nat):Int)=256:=rfl;rw[a09]at k8;refine aj (fA @x @h @d @g @i @L @a08 @k8 @iF @aY @aZ) ?_;refine eK (by simp[aW,R.cells]) aaV λk1 e=> ?_;refine aj (c9 @x @h @d @g @i @aY @aZ) ?_;refine rn (y.mono (U.af U.a6 e)) vo (by simp[cF];omega) λa06 k7 K=> ?_;refine aj (c9 @x @h @d @g @i @aY @aZ) ?_;grind
    .obtain rfl:c=8:=aaU;have a10:(cF (8*a.length)).take 8=cF (8*a.length):=rfl;rw[a10]at y;refine aj (bt @x @h @d @g @i @L @aY @aZ) ?_;refine eK (by simp[aW,R.cells]) aaV λs k9=> ?_;have l0:flat [R.v (Value.int IntKind.u32 1779033703),R.v (Value.int IntKind.u32 3144134277),R.v (Value.int IntKind.u32 1013904242),R.v (Value.int IntKind.u32 2773480762),R.v (Value.int IntKind.u32 1359893119),R.v (Value.int IntKind.u32 2600822924),R.v (Value.int IntKind.u32 528734635),R.v (Value.int IntKind.u32 1541459225)]=wl gn:=rfl;rw[l0];have a63:=yZ a;have a65:=a1u a;have l1:av w P 1 ((kM a).map ak) (b 5):=y;obtain⟨f,n,k3,p,k4,B,k5,H,k6⟩:=z1 l1 (by grind);have N:=y.1;have O:=a1v a;have l2:av P (P.set s (.cells (wl gn))) 1 (wl gn) (.ao s 8 8 1):=⟨U.af U.a6 k9,.inr ⟨s,8,8,_,rfl,k9,U.ai _ _ _,rfl,rfl,rfl,aaU,aaY⟩⟩;have l3:gn.length=8:=rfl;generalize P.set s (.cells (wl gn))=k7 at*;rw[<-k0]at l2 O l3;clear k0 l0;generalize a11:kM a=r at*;clear y l1 a11;refine aj (bx @x @h @d @p @aY @aZ) ?_;refine cm (λb D=> ∃k:Nat,k<=r.length/64/\av P D 1 (wl (blocks k F r)) (b 8)/\b 1= .ao V 64 64 1/\b 4= .ptr E 0/\b 5= .ao f r.length n 1/\b 9= .v (.int .i64 ((64*k:Nat))))
      (λb _=>match b 9 with| .v (.int _ S)=>(r.length - S).toNat| _=>0) ⟨0,aaU,?_⟩ ?_
     .refine aj (bh @h @d @p @aY @aZ) ?_;exact l2
     .clear x h d p g i;rintro b l4 ⟨k,a68,Q,h,d,p,j⟩;have T:(blocks k F r).length=8:=pE _ _ _ l3;obtain⟨X,l5,Y,z,a69,t,a71,a73⟩:=Fo Q (by intro M;rw[M]at T;cases T);rw[T]at z;have l:=Q.1;by_cases L:k<r.length/64
      .have Z:((64*k:Nat))<(r.length:Int):=aaU;have a13:dO 1 (.ao f r.length n 1) (some (.v (.int .i64 ((64*k:Nat))))) (some (.v (.int .i64 (((64*k:Nat))+64))))=some (.bE f (64*k) 64 (n - 64*k) 1):=by have l6:(((64*k):Int)+64).toNat=64*k+64:=aaU;simp only[dO,cE,Go.bD.intOf,qz];grind
       refine aj (cN @h @d @p @z @j @Z @a13 @aY @aZ) ?_;have a14:=uB k F r;refine ah (a1t (blocks k F r) ((r.drop (64*k)).take 64) T X l5 Y f (64*k) k3 V l4 t (l _ _ B) aaU ?_ (l _ _ (N _ _ a03))) ?_
       .intro c k2;rw[a1x H aaU];simp_all
       rintro a74 a81 l7;refine aj (c9 @h @d @p @z @j @aY @aZ) ?_;rw[<-a14]at l7;exact⟨⟨k+1,aaU,l7.base l,aaW⟩,aaU⟩
      .have Z: ¬((64*k:Nat))<(r.length:Int):=aaU;obtain rfl:k=r.length/64:=aaU;refine aj (bt @h @d @p @z @j @Z @aY @aZ) ?_;refine aN λu j9=> ?_;have l8:X≠u:=by rintro rfl;rw[j9]at t;cases t
       have v:=l _ _ (N _ _ a05);have l9:E≠u:=by rintro rfl;rw[j9]at v;cases v
       have a15:=a1w (blocks (r.length/64) F r) T;have a16:(en (blocks (r.length/64) F r)).length=32:=by rw[uE,T]
       rw[O];clear O Q;generalize blocks (r.length/64) F r=C at*;have a18:(wl C++Y).length=8+Y.length:=by rw[vn,T]
       refine aj (c9 @h @d @p @z @j @aY @aZ) ?_;refine cm (λb D=> ∃o:Nat,o<=32/\D=l4.set u (.cells (hY ((en C).take o)))/\b 8= .ao X 8 l5 1/\b 10= .ptr u 0/\b 4= .ptr E 0/\b 11= .v (.int .i64 o))
        (λb _=>match b 11 with| .v (.int _ S)=>(32 - S).toNat| _=>0) ⟨0,aaU,?_⟩ ?_
       .refine aj (aM @d @z @aY @aZ) ?_;rfl
       .clear h d p z j;rintro b _ ⟨o,a83,rfl,z,n0,d,n1⟩;have a19:((en C).take o).length=o:=aaW;have n2:(hY ((en C).take o)).length=32:=uD aaU;by_cases L:(o:Int)<32
        .have l6:IntKind.i64.wrap ((o:Int).tdiv 4)=((o/4:Nat)):=by have:(o:Int).tdiv 4=((o/4:Nat)):=rfl;rw[this,wrap_i64 aaU aaU]
         have a27:(o:Int).tmod 4=((o%4:Nat)):=rfl;have a29:IntKind.u64.wrap (24 - 8*((o%4:Nat)))=((24 - 8*(o%4):Nat)):=by rw[kt];omega
         have a30:o/4<8:=aaU;have a34:((o/4:Nat))<((8:Nat):Int):=aaU;refine aj (od @z @n0 @d @n1 @L @l6 @a27 @a29 @a34 @a30 @a18 @n2 (U.ae t) @l8 (a6I l8) @mF @a1y @iF @aY @aZ) ?_;rw[xL _ a19.symm aaU,a15 o aaU];grind
        .obtain rfl:o=32:=aaU;refine aj (gk @z @n0 @d @n1 @L @n2 @l9 (a6I l9) (U.ae v) (U.aI v) @aY @aZ) ?_;have a36:(en C).take 32=en C:=a6z aaU;have a38:hY (en C)=(en C).map ak:=by simp[hY,a16]
         have n3:((en C).map ak).take 32=(en C).map ak:=a6z aaW;rw[a36,a38,n3,n3];refine⟨G,?_,rfl,rfl⟩;have n4:=U.au a04 (U.au N l);exact U.af (U.af n4 (U.bI n4 j9)) m
def a1A (a:List UInt8) (h:a.length<=1000000000) (c:R) (d:Nat) (b:U) (k:bV b 1 c=some (a.length,a.map ak)) (o:fa c=some (.v (.int .i64 a.length))) (p:b d=some (.cells (wl nt))):
  AC Tryz.prog 245 [c,.ao d 64 64 1] b λr x=>x=b/\r=bz (fi a):=a1z gn rfl a h c d b k o p
def a1B (a:List UInt8) (r:a.length<=1000000000) (c:R) (b:U) (x:bV b 1 c=some (a.length,a.map ak)) (y:fa c=some (.v (.int .i64 a.length))):
  AC Tryz.prog 188 [c] b λz C=>C=b/\z=bz (fi a):=by
 refine bc hm Qf aaV ?_;refine aj (c2 @aY @aZ) ?_;refine aN λD d=> ?_;refine aj (c2 @aY @aZ) ?_;refine ah (a1l _) ?_;rintro _ _ ⟨h,E,rfl,rfl⟩;obtain⟨k,o⟩:=U.gI E;refine aj (c2 @aY @aZ) ?_;have F:b.sub ((b.set D (.cells (List.replicate 32 (.v (.int .u8 0))))).set h (.cells (wl nt))):=U.af (U.af U.a6 d) o;refine ah (a1A a r c h _ (yY F x) y (U.ai _ _ _)) ?_;rintro _ _ ⟨rfl,rfl⟩;have p:((fi a).map ak).length=32:=by rw[a6J,sE]
 have G:bz (fi a)= .agg ((fi a).map ak):=rfl;have L:((fi a).map ak).take 32=(fi a).map ak:=a6z aaU;rw[G];have P:putAt (List.replicate 32 (R.v (.int .u8 0))) 0 ((fi a).map ak)=(fi a).map ak:=by rw[putAt,p];simp
 refine aj (c9 @p @L @P @k (a6I k) @aY @aZ) ?_;exact⟨b,U.af (U.af U.a6 d) o,rfl⟩
def a1C {a:UInt8} (b:f e=none):av f (f.set e (.cells (flat [.v (.int .u8 (a.toNat:Int))]))) 1 ([a].map ak) (.ao e 1 1 1):=
 ⟨U.af U.a6 b,.inr ⟨e,1,1,_,rfl,b,U.ai _ _ _,rfl,rfl,rfl,aaU,aaY⟩⟩
theorem a1D (k:UInt8) (b:List (R×List UInt8)) (x:R) (i:Nat) (r:U) (j:fa x=some (.v (.int .i64 b.length)))
  (l: ∀o:Nat,o<b.length->cC 1 x (.v (.int .i64 o))=some (.ptr i o))
  (B: ∀o (k2:o<b.length),∃y,r i=some (.cells y)/\o<y.length/\aL false 1 (y.drop o)=b[o].1)
  (H: ∀a∈b,bV r 1 a.1=some (a.2.length,a.2.map ak)/\fa a.1=some (.v (.int .i64 a.2.length)))
  (I:(preB k (b.map (·.2))).length<=1000000):
  AC Tryz.prog 189 [.v (.int .u8 (k.toNat:Int)),x] r λK z=>av r z 1 ((preB k (b.map (·.2))).map ak) K:=by
 refine bc hm Qh aaV ?_;refine aF (c2 @aY @aZ) ?_;refine eK (by simp[aW,R.cells]) aaV λM T=> ?_;refine aF (c2 @aY @aZ) ?_;have m:=a1C (a:=k) T;refine cm (λc z=> ∃a C:List (R×List UInt8),b=a++C/\av r z 1 ((preB k (a.map (·.2))).map ak) (c 5)/\c 1=x/\c 6= .v (.int .i64 a.length))
  (λc _=>match c 6 with| .v (.int _ V)=>(b.length - V).toNat| _=>0) ⟨[],b,rfl,?_⟩ ?_
 .refine aF (c2 @aY @aZ) ?_;exact m
 .clear m;rintro c k3 ⟨a,C,p,W,e,D⟩;cases C with
  |nil=>
   have P:b.length=a.length:=by rw[p];simp
   rw[a7E]at p;have f: ¬(a.length)<(b.length:Int):=aaU;refine aF (bx @e @D @j @f @aY @aZ) ?_;rw[p];exact⟨_,U.a6,W⟩
  |cons N C=>
   obtain⟨g,d⟩:=N;have P:a.length<b.length:=by rw[p];simp
   have f:(a.length)<(b.length:Int):=aaU;have O:b[a.length]=(g,d):=by subst p;simp
   obtain⟨y,n,c2,aE⟩:=B a.length P;rw[O]at aE;obtain⟨q,s⟩:=H (g,d) (by rw[p];simp);simp only at q s aE;have k4:(preB k (a.map (·.2))).length+8+d.length<=1000000:=by refine a7y ?_ I;rw[p];simp[preB,chunk,cF];omega
   have Q:=xH k (b.map (·.2));rw[a6J]at Q;have t:a.length+1<=y.length:=aaU;have u:=W.1;simp -dsimp -implicitDefEqProofs (disch:=first|omega|assumption|(simp only[bd,Nat.reduceAdd];try omega)) only[go_sem,simprocAttr,aY,aZ,e,D,j,f,l _ P,U.ae (u _ _ n),t,aE,s];refine cm (λc z=> ∃h:Nat,h<=8/\av r z 1 ((preB k (a.map (·.2))++(cF d.length).take h).map ak) (c 5)/\c 1=x/\c 6= .v (.int .i64 a.length)/\c 7= .v (.int .u64 (d.length:Int))/\c 8= .v (.int .i64 h))
    (λc _=>match c 8 with| .v (.int _ V)=>(8 - V).toNat| _=>0) ⟨0,aaU,?_⟩ ?_
   .refine aF (aM @e @D @aY @aZ) ?_;simp_all
   .clear W u;rintro k5 k6 ⟨h,k7,S,E,F,G,L⟩;have k8:=Fp d.length h;by_cases v:(h:Int)<8
    .have X:IntKind.u64.wrap (56 - 8*(h))=((56 - 8*h:Nat)):=by rw[kt];omega
     have w:=yU (d.length>>>(56 - 8*h)) 256 aaU;have Y:((256:Nat):Int)=256:=rfl;rw[Y]at w;refine aF (cd @E @F @G @L @v @X @w @iF @aY @aZ) ?_;refine eK (by simp[aW,R.cells]) aaV λM T=> ?_;refine aF (bx @E @F @G @L @aY @aZ) ?_;refine rn (S.mono (U.af U.a6 T)) vo (by simp[cF];omega) λZ j9 k0=> ?_;refine aF (bx @E @F @G @L @aY @aZ) ?_;grind
    .obtain rfl:h=8:=aaU;have k1:(cF d.length).take 8=cF d.length:=rfl;rw[k1]at S;have A:=S.1;simp -dsimp -implicitDefEqProofs (disch:=first|omega|assumption|(simp only[bd,Nat.reduceAdd];try omega)) only[go_sem,simprocAttr,aY,aZ,E,F,G,L,D,v,l _ P,U.ae (A _ _ n),t,aE];refine rn S (yY A q) (by simp[cF];omega) λZ j9 k0=> ?_;refine aF (c9 @E @F @G @L @D @aY @aZ) ?_;refine⟨⟨a++ [(g,d)],C,by simp[p],?_,aaV⟩,aaU⟩;grind[preB,cF,chunk]
theorem a1E (h:UInt8) (b:List (R×List UInt8)) (k:Nat) (c:U) (o:c k=some (.cells (b.map (·.1))))
  (p: ∀a∈b,av c c 1 (a.2.map ak) a.1\/(bV c 1 a.1=some (a.2.length,a.2.map ak)/\fa a.1=some (.v (.int .i64 a.2.length))))
  (r:(preB h (b.map (·.2))).length<=1000000):
  AC Tryz.prog 189 [.v (.int .u8 (h.toNat:Int)),.ao k b.length b.length 1] c λx y=>av c y 1 ((preB h (b.map (·.2))).map ak) x:=by
 refine a1D h b _ k c rfl ?_ ?_ ?_ r;grind[jJ]
 .intro C d;refine⟨_,o,by simpa using d,?_⟩;rw[a6Y (by simpa using d),aah];rfl
 .intro a z;rcases p a z with d|d
  .obtain⟨D,E,F,G⟩:=d.src;simp_all
  .exact d
def ho (a:aU):List UInt8:=ic a.name++(UInt8.ofNat a.aD.length::(a.aD.flatMap ic++(dW a.bo++dW a.bu)))
def q2 (a:List aU):List UInt8:=UInt8.ofNat a.length::a.flatMap ho
structure aU.hE (t:aU):Prop where
 n:t.name.length<=16
 c:t.aD.length<=7
 cs: ∀c∈t.aD,c.length<=16
 k:t.bo.hE
 z:t.bu.hE
variable{e6:List (List UInt8)}
theorem Fq (b: ∀a∈e6,a.length<=16):(e6.flatMap ic).length<=19*e6.length:=by
 induction e6 with
 |nil=>simp
 |cons c e6 ih=>grind[List.length_append,xQ,List.length_cons]
variable{e8:aU}
def z6 (a:e8.hE) (b:e8.bo.sum.length=32) (c:e8.bu.sum.length=32):(ho e8).length<=1000:=by have:=Fq a.cs;have:=a.n;have:=a.c;have:=sQ b a.k;have:=sQ c a.z;simp only[ho,a6A,xQ,a6E];omega
variable{e3:List aU}
theorem a1F (b:aB dY e3 g) (d: ∀h∈e3,h.hE) (a:Nat):((e3.take a).flatMap ho).length<=1000*a:=by
 induction e3 generalizing g a with
 |nil=>simp
 |cons k e3 ih=>
  cases g with
  |nil=>trivial
  |cons v g=>
   obtain⟨⟨_,_,c⟩,b⟩:=b;cases a with
   |zero=>simp
   |succ a=>have:=z6 (d k aaV) c.k.1 c.z.1;grind
def vp (a b:Nat) (c:U) (h:R) (k:R->U->Prop):Prop:=
 match h with
 | .ptr d off=>match c.read d with
  |some cs=>off+b*a<=cs.length/\k (.J (er a b (cs.drop off)) .any) (c.set d (.ro cs))
  |none=>False
 | _=>False
variable{t Z:R -> U -> Prop}
def a1G {a:cz t} (b:f.read v=some g) (c:M+i*e<=g.length) (d:t (.J (er e i (g.drop M)) .any) (f.set v (.ro g))):vp e i f (.ptr v M) (bX t a):=by simp only[vp,b];trivial
variable{K:Ctx}{j:Fr}{Y e9:Operand}
theorem a1H:G K (.ki e i Y none none true) j f t=vp e i f (al j Y) (bX (λa b=>t a b) ()):=by grind[G,vp,cX,al,bX]
theorem z7: ∀ {rows:List (List Int×Bool)},(∀a∈rows,a.1.length<=8)->(rows.flatMap gp).length<=66*rows.length
 | [],_=>by simp
 |a::rows,b=>by
  have d:=b a aaV;have:=z7 λa c=>b a (a7X _ c);grind[List.length_append,gp,List.length_cons,dz,ot]
theorem z8: ∀ {kids:List aq},(∀a∈kids,a.hE/\a.sum.length=32/\a.cv)->(kids.flatMap dW).length<=300*kids.length
 | [],_=>by simp
 |a::kids,b=>by
  obtain⟨⟨d,h,k,_,_,_,_⟩,o,_⟩:=b a aaV;have:=z8 λa c=>b a (a7X _ c);grind[ky,dz,List.length_cons,ot,List.length_append,dW]
theorem a1I (o:bY) (P S:List R) (e f:Own) (g:U) (w:aB cT o.rows P) (A:aB bB o.kids S) (n2:o.rows.length<=5) (n3:o.kids.length<=5)
  (i: ∀p∈o.rows,p.1.length<=8) (B: ∀r∈o.kids,r.hE/\r.sum.length=32/\r.cv):
  AC Tryz.prog 136 [gO o (.J P e) (.J S f)] g λp d=>fH g d (cG o) p:=by
 have n4:=w.len;have n5:=A.len;obtain⟨T,rows,kids⟩:=o
 dsimp only at*
 refine aK hm OM ?_;have n9:=λx=>iF x;refine aN λH X=> ?_;refine aa ?_;generalize j:g.set H (.cells [R.v (.int .u8 (T.toNat)),.J P e,.J S f])=G;have Y:=j▸U.af U.a6 X;have Z:=j▸U.ai _ _ _;have L: ∀d,G.sub d->d.read H=some [R.v (.int .u8 (T.toNat)),.J P e,.J S f]:=λd C=>U.ae (C _ _ Z);clear j;have j9:=L _ U.a6;refine uy [T,UInt8.ofNat rows.length] (λk a00 k0 _=> ?_);clear j9;have k1:=L _ k0.sub;refine cg [0,1] (λb:Nat×R=> [(4,.v (.int .i64 b.1)),(3,b.2)]) (λb d=>b.1<=rows.length/\fH G d (T::UInt8.ofNat rows.length::(rows.take b.1).flatMap gp) b.2) (λb=>rows.length - b.1) (0,k) ⟨⟨aaU,by trivial⟩,aO⟩ ?_;rintro⟨a,k⟩ D ⟨l,c⟩ k2
 dsimp only at l c|-
 clear k1;have k3:=L _ c.sub;refine aa ?_;refine aH (λm=> ?_) λm=> ?_
 .obtain⟨_,V,k4,rfl⟩:=w.get (i:=a) (x:=rows.getD a ([],false)) (by simp_all);have k5:eB 2 P[a]? =some (.bU [.J (ad (rows.getD a ([],false)).1) k4,.v (.bool (rows.getD a ([],false)).2)]):=by rw[V];rfl
  have a01:(rows.getD a ([],false)).1.length<=8:=i _ (by simp_all);have n:=eR (a:=rows) (e:=a) (b:=([],false)) aaU;have I:=z7 (rows:=rows.take a) λp C=>i p (a6M C);rw[a6C]at I;generalize rows.getD a ([],false)=b at*;have K:(dz b.1).length=8*b.1.length+1:=by rw[dz,a6E,ot]
  clear V;have a02:(gp b).length=8*b.1.length+2:=by rw[gp,a6E,K]
  refine aa ?_;refine hX (a1j _ _) λE F h=> ?_;refine nr c (show fH D F [if b.2=true then(1)else 0] E from h) λa4 k6 W _=> ?_;have M:=L _ W.sub;refine hX (vm _ _ _ aaU) λa03 q z=> ?_;refine nr W z λdi a04 k7 _=> ?_;refine⟨(a+1,di),⟨by simp only;omega,?_⟩,⟨rfl,rfl⟩,by simp only;omega⟩;simp only[n,a7r,a7a,a9q,a7E,gp];simpa using k7
 obtain rfl:a=rows.length:=aaU;rw[a6V]at c;have I:=z7 i;generalize a05:T::UInt8.ofNat rows.length::rows.flatMap gp=s at*;have a06:s.length<=400:=by grind
 refine uy [UInt8.ofNat kids.length] (λE F h _=> ?_);refine nr c h λa3 k6 W _=> ?_;clear k3;have M:=L _ W.sub;refine cg [0,1] (λb:Nat×R=> [(5,.v (.int .i64 b.1)),(3,b.2)]) (λb d=>b.1<=kids.length/\fH G d (s++ [UInt8.ofNat kids.length]++(kids.take b.1).flatMap dW) b.2) (λb=>kids.length - b.1) (0,a3) ⟨⟨aaU,by simpa using W⟩,aO⟩ ?_;clear M;rintro⟨a,k⟩ q ⟨l,z⟩ k2
 dsimp only at l z|-
 have a07:=L _ z.sub;refine aa ?_;refine aH (λm=> ?_) λm=> ?_
 .obtain⟨_,V,k8,k9,t,u,v,rfl⟩:=A.get (i:=a) (x:=kids.getD a az) (by simp_all);have l0:=(B (kids.getD a az) (by simp_all)).1;have n:=eR (a:=kids) (e:=a) (b:=az) aaU;generalize kids.getD a az=r at*;have N:=(aP (N:=t) (e5:=u) (h6:=v) k8).all;have k5:eB 37 S[a]? =some (.bU (ab r t u v)):=by rw[V];exact iE N.1
  generalize ab r t u v=y at*;clear V;refine aa ?_;refine aN λx O=> ?_;refine aa ?_;rw[a1H];refine aa ?_;refine a1G (U.ae (U.ai _ _ _)) aaU ?_;rw[U.set_set];have l1:fH (G.set x (.ro y)) (q.set x (.ro y)) _ k:=z.new O;have l2:=U.bI z.sub O;have l3:=U.af (X:= .ro y) U.a6 l2;have l4:(G.set x (.ro y)) x=some (.ro y):=U.ai _ _ _;generalize G.set x (.ro y)=l5 at*;generalize q.set x (.ro y)=a08 at*;have a09: ∀d,l5.sub d->d.read x=some y:=λd C=>U.VA (C _ _ l4);have Q:er 1 32 (y.drop 0)=r.sum.map ak:=by simp[er,N.2.2.1]
  rw[Q];obtain⟨a10,a11,a13⟩:=k9;obtain⟨a14,a15,a16,l6,a18,l7,a19⟩:=l0;obtain⟨l8,a27⟩:=a8y l6;obtain⟨l9,a29⟩:=a8y l7;have a30:=ky l8;have a34:=ky l9;have K: ∀p:List Int,(dz p).length=8*p.length+1:=λp=>by rw[dz,a6E,ot]
  have n0:((kids.take a).flatMap dW).length<=300*a:=by have:=z8 (kids:=kids.take a) λr C=>B r (a6M C);rw[a6C]at this;omega
  generalize a36:s++ [UInt8.ofNat kids.length]++(kids.take a).flatMap dW=n1 at*;have a38:n1.length<=3000:=by grind
  clear Q n0;refine D0 l1 oh.J λk D c _=> ?_;refine hX (Fm _ _ aaU) λE F h=> ?_;refine nr c h λk D c _=> ?_;refine hX (Fm _ _ aaU) λE F h=> ?_;refine nr c h λk D c _=> ?_;refine hX (vm _ _ _ aaU) λE F h=> ?_;refine nr c h λk D c _=> ?_;refine hX (vm _ _ _ aaU) λE F h=> ?_;refine nr c h λk D c _=> ?_;refine hX (vm _ _ _ aaU) λE F h=> ?_;refine nr c h λk D c _=> ?_;refine⟨(a+1,k),⟨by simp only;omega,?_⟩,⟨rfl,rfl⟩,by simp only;omega⟩;have a42:=c.base l3;simp only[n,a7r,a7a,a9q,a7E];grind[dW,List.append_assoc,Int.toNat_natCast]
 obtain rfl:a=kids.length:=aaU;rw[a6V]at z;refine⟨_,U.a6,?_⟩;have:=z.base Y;grind[cG,List.append_assoc]
structure kN where
 kind:UInt8
 rq:Int
 at_:List Int
abbrev kN.V (a:kN) (b:Own):R:= .agg [.v (.int .u8 (a.kind.toNat:Int)),.v (.int .i64 a.rq),.J (ad a.at_) b]
def kN.ok (a:kN) (b:Nat):Bool:=
 decide (1<=b/\b<=8)&&(if a.kind=0 then decide (a.rq=0)&&decide (a.at_.length=0)
  else if a.kind=1\/a.kind=2 then(decide (0<a.rq)||decide (a.rq=0)&&decide (a.kind=2))&&decide (a.rq<=(b:Int) - 1)&&decide (a.at_.length=0)
  else decide (a.kind=3)&&decide (a.rq=0)&&decide (1<b)&&decide (a.at_.length=b - 1))
theorem Fs (a:kN) (h:Own) (c:Nat) (d:U) (r:c<=1000000000000) (x:a.at_.length<=1000000000000):
  AC Tryz.prog 117 [a.V h,.v (.int .i64 (c:Int))] d λk o=>o=d/\k= .v (.bool (a.ok c)):=by
 obtain⟨b,y,p⟩:=a
 dsimp only at*
 have z:=bM (q:=p);have C:=iN b 0 aaU;have D:=iN b 1 aaU;have E:=iN b 2 aaU;have F:=iN b 3 aaU;refine aK hm O7 ?_;refine bp λG L=> ?_
 repeat' first|refine aH (λ_=> ?_) λ_=> ?_|trivial
 all_goals grind[kN.ok,aR,aV]
theorem vq (b:kN) (h:Own) (c:Nat) (d:U) (r:c<=1000000000000) (x:b.at_.length<=1000000000000):
  AC Tryz.prog 265 [b.V h,.v (.int .i64 (c:Int))] d λk o=>o=d/\k= .v (.bool (b.ok c)):=by
 obtain⟨a,y,p⟩:=b
 dsimp only at*
 have z:=bM (q:=p);have C:=iN a 0 aaU;have D:=iN a 1 aaU;have E:=iN a 2 aaU;have F:=iN a 3 aaU;refine aK hm Sl ?_;refine bp λG L=> ?_
 repeat' first|refine aH (λ_=> ?_) λ_=> ?_|trivial
 all_goals try first
  |(rw[kN.ok];exact aR)
  |(refine aV ?_;simp only[kN.ok]at*;grind)
 rename_i P S T;obtain rfl:a=2:=a7v.1 (by simp_all);refine aV ?_;rw[a9f];simp[kN.ok,-List.length_eq_zero_iff];omega
abbrev ir (a b:Nat):R:= .agg [.v (.int .u64 (a:Int)),.v (.int .u64 (b:Int))]
def a1J (a c b d:Nat) (h:U):AC Tryz.prog 179 [ir a c,ir b d] h λk o=>o=h/\k= .v (.bool (decide (a<b\/a=b/\c<d))):=by
 refine aK hm PX ?_;refine bp λp r=> ?_;refine cZ λx y z C=> ?_
 repeat' first|refine aH (λ_=> ?_) λ_=> ?_|trivial
 all_goals exact aR
def rr (a c b d:Nat):Int:=if a=b/\c=d then 0 else if a<b\/a=b/\c<d then -1 else 1
theorem Ft (a b c d:Nat) (h:U):AC Tryz.prog 271 [ir a b,ir c d] h λk o=>o=h/\k= .v (.int .i64 (rr a b c d)):=by
 have p: ∀a b:Nat,dk [(2,cb.int IntKind.u64)] [R.v (.int .u64 (a)),R.v (.int .u64 (b))]:=λa b=>by simp[dk,cb.tT]
 have r:peq (ir a b) (ir c d)=decide ((a:Int)=c/\(b:Int)=d):=by rw[a9f];simp[peq]
 refine aK hm Su ?_;refine bp λx y=> ?_;refine cZ λz C D E=> ?_
 repeat' first|refine aH (λ_=> ?_) λ_=> ?_|trivial
 all_goals grind[rr]
abbrev hK (a:List Int) (b:Nat):Int:=a.getD b 0
def jo (c d a:List Int):Bool:=cO c d a.length&&(List.range a.length).all λb=>decide (hK c b<=hK a b)&&decide (hK a b<=hK d b)
def oL (a b c d:List Int):Bool:=cO a b a.length&&cO c d a.length
def jY (b c d h:List Int):Bool:=oL b c d h&&(List.range b.length).all λa=>decide (hK b a<=hK h a)&&decide (hK d a<=hK c a)
def a1K (c:U) (k o:Nat) (d h b:List Int) (p r x:Own) (a:Nat) (C:c.read k=some [.J (ad d) p,.J (ad h) r]) (D:c.read o=some [.J (ad b) x]) (E:a<d.length) (F:a<h.length) (G:a<b.length):
  AC Tryz.prog 309 [.v (.int .i64 (a:Int)),.ptr k 0,.ptr o 0] c λy z=>z=c/\y= .v (.bool (decide (hK d a<=hK b a)&&decide (hK b a<=hK h a))):=by
 have L:= @dP d;have P:= @dP h;have S:= @dP b;refine aK hm Tg ?_
 repeat' first|refine aH (λ_=> ?_) λ_=> ?_|trivial
 all_goals exact aR
def a1L (h:U) (b c a:List Int) (k o p:Own) (r:a.length<=1000000000000):
  AC Tryz.prog 273 [eN b c k o,.J (ad a) p] h λx y=>y=h/\x= .v (.bool (jo b c a)):=by
 have G:=bM (q:=a);refine aK hm Sy ?_;refine bp λz L=> ?_;refine cZ λC P S D=> ?_;refine bk (oz _ b c _ _ _ r) ?_;refine aH (λd=> ?_) λd=> ?_
 .obtain⟨T,V,W,e⟩:=lv d;refine bk (y2 a.length _ _ _ _ _ r ab0 λE F=>a1K _ z C b c a k o p E (by simp[U.read,U.ai,U.an,D]) (by simp[U.read,U.ai]) aaU aaU F) ?_;refine aV ?_;rw[jo,d,a8e]
 .refine aV ?_;rw[jo,d,a8R]
def a1M (b:U) (o p:Nat) (c d h k:List Int) (r x y z:Own) (a:Nat) (E:b.read o=some [.J (ad c) r,.J (ad d) x]) (F:b.read p=some [.J (ad h) y,.J (ad k) z]) (G:a<c.length) (L:a<d.length) (P:a<h.length) (S:a<k.length):
  AC Tryz.prog 325 [.v (.int .i64 (a:Int)),.ptr o 0,.ptr p 0] b λC D=>D=b/\C= .v (.bool (decide (hK c a<=hK k a)&&decide (hK h a<=hK d a))):=by
 have T:= @dP c;have V:= @dP d;have W:= @dP h;have e:= @dP k;refine aK hm TG ?_
 repeat' first|refine aH (λ_=> ?_) λ_=> ?_|trivial
 all_goals exact aR
def a1N (d:U) (b c a h:List Int) (o p r x:Own) (k:b.length<=1000000000000):
  AC Tryz.prog 300 [eN b c o p,eN a h r x] d λy z=>z=d/\y= .v (.bool (oL b c a h)):=by
 have C:=bM (q:=b);refine aK hm T8 ?_;refine bp λD E=> ?_;refine cZ λF G L P=> ?_;refine bk (oz _ b c _ _ _ k) ?_;refine aH (λa=> ?_) λa=> ?_
 .refine bk (oz _ _ _ _ _ _ k) ?_;refine aV ?_;rw[oL,a,a8e]
 .refine aV ?_;rw[oL,a,a8R]
variable{q b8:List Int}
theorem za {a b:List Int} (c:oL q b8 a b=true):b8.length=q.length/\a.length=q.length/\b.length=q.length/\1<=q.length/\q.length<=8:=by rw[oL,a6B]at c;obtain⟨d,h⟩:=c;have d:=lv d;grind[lv]
def Fu (k:U) (a b c d:List Int) (o p r x:Own) (y:a.length<=1000000000000):
  AC Tryz.prog 302 [eN a b o p,eN c d r x] k λz C=>C=k/\z= .v (.bool (jY a b c d)):=by
 have P:=bM (q:=a);refine aK hm Ta ?_;refine bp λD S=> ?_;refine cZ λE T V F=> ?_;refine bk (a1N _ a b c d _ _ _ _ y) ?_;refine aH (λh=> ?_) λh=> ?_
 .obtain⟨W,e,f,g⟩:=za h;refine bk (y2 a.length _ _ _ _ _ y ab0 λG L=>a1M _ D E a b c d o p r x G (by simp[U.read,U.ai,U.an,F]) (by simp[U.read,U.ai]) L aaU aaU aaU) ?_;refine aV ?_;rw[jY,h,a8e]
 .refine aV ?_;rw[jY,h,a8R]
def gy (a b c d:List Int):List Int×List Int:=if jY a b c d=true then(List.zipWith max a c,List.zipWith min b d)else([],[])
set_option maxHeartbeats 1000000 in
theorem a1O (C:U) (a c h d:List Int) (m n q s:Own) (E:a.length<=1000000000000):
  AC Tryz.prog 268 [eN a c m n,eN h d q s] C λl5 o=> ∃r t,l5= .aJ [.agg [r,t],.v (.bool (jY a c h d))]/\pL C o (gy a c h d).1 (gy a c h d).2 r t:=by
 have k1:=bM (q:=a);have u:= @dP a;have v:= @dP c;have w:= @dP h;have A:= @dP d;refine aK hm Sq ?_;refine bp λB a14=> ?_;refine cZ λH a15 I l6=> ?_;refine ha λF l7 l8 l9 n0 n1=> ?_;refine bk (Fu _ a c h d _ _ _ _ E) ?_;refine aH (λG=> ?_) λG=> ?_
 .rw[gy,if_neg (by simp[G])];exact⟨_,U.a6,_,_,rfl,C,av.nil U.a6,av.nil aO⟩
 .rw[gy,if_pos G];obtain⟨a16,a18,a19,a27,a29⟩:=za (by rw[jY,a6B]at G;exact G.1);generalize L:((C.set B _).set H _).set F _=P;have W:C.sub P:=by subst L;exact aO
  have K:P B=some (.cells [.J (ad a) m,.J (ad c) n]):=by subst L;exact aO
  have M:P H=some (.cells [.J (ad h) q,.J (ad d) s]):=by subst L;exact aO
  have aM:P F=some (.cells [.J [] .nil,.J [] .nil]):=by subst L;exact aO
  clear L;refine ah (uN P a c _ _ E aaU) ?_;rintro _ n2 ⟨r,t,rfl,a30,n3,n4⟩;obtain⟨x,⟨I,_⟩|⟨e,n5,N,k2,rfl,f,k3,n9,O,S,k4,a00⟩⟩:=n3
  .exfalso;grind
  obtain⟨D,⟨I,_⟩|⟨y,a01,Q,k5,rfl,T,k6,a02,X,V,k7,a03⟩⟩:=n4
  .exfalso;grind
  obtain rfl:n5=a.length:=by rw[k1]at S;omega
  obtain rfl:a01=a.length:=by rw[bM]at V;omega
  have k8:=D _ _ k3;simp only[a7s]at n9 a02 O X k4 k7;obtain⟨g,rfl⟩: ∃Y,k2=ad a++Y:=⟨k2.drop a.length,by rw[<-O,a7f]⟩;obtain⟨i,rfl⟩: ∃Y,k5=ad c++Y:=⟨k5.drop a.length,by rw[<-X,a7f]⟩;have k: ∀ {k9:U}{b Z:Nat}{j:bs},k9 b=none->k9 Z=some j->b≠Z/\Z≠b:=λE l=>⟨(by rintro rfl;rw[E]at l;cases l),(by rintro rfl;rw[E]at l;cases l)⟩;have kx:=D _ _ (x _ _ K);have l0:=D _ _ (x _ _ M);have l1:=D _ _ (x _ _ aM);obtain⟨a34,a04⟩:=k T k3;obtain⟨a36,a38⟩:=k f K;obtain⟨a42,a43⟩:=k f M;obtain⟨a05,a47⟩:=k f aM;obtain⟨a48,a52⟩:=k T (x _ _ K);obtain⟨a56,a57⟩:=k T (x _ _ M);obtain⟨a06,a61⟩:=k T (x _ _ aM);have a07:=U.bI W f;have a08:=U.bI (U.au W x) T;have j9:=U.au W (U.au x D);clear O X S V x D;have a62: ∀a c k0 d:Nat,(R.ao a c k0 d).cells= [.ao a c k0 d]:=λ_ _ _ _=>rfl;refine aa ?_;refine aN λa09 z=> ?_;obtain⟨a63,a65⟩:=k z kx;obtain⟨a68,a69⟩:=k z l0;obtain⟨a71,a73⟩:=k z l1;obtain⟨a74,a81⟩:=k z k8;obtain⟨YQ,a83⟩:=k z k6;have l2:=U.bI j9 z;refine aa ?_;refine cg [2,3,4,6,17] (λb:Nat=> [(18,.v (.int .i64 (b)))]) (λb o=>b<=a.length/\C.sub o/\o B=some (.cells [.J (ad a) m,.J (ad c) n])/\o H=some (.cells [.J (ad h) q,.J (ad d) s])/\o F=some (.cells [.J [] .nil,.J [] .nil])/\
      o a09=some (.cells [.ao e a.length N 1,.ao y a.length Q 1])/\o e=some (.cells (ad (mix max a h b)++g))/\o y=some (.cells (ad (mix min c d b)++i))) (λb=>a.length - b) 0 ⟨⟨a7b _,U.af (U.af j9 l2) l2,aO,aO,aO,aO,?_,?_⟩,aO⟩ ?_
  .have a10:mix max a h 0=a:=by rfl
   exact aO
  .have a10:mix min c d 0=c:=by rfl
   exact aO
  clear kx l0 l1 k8 k6 z k1;rintro b o ⟨a84,a11,c2,aE,aM,c9,l3,l4⟩ a86;have a88:=U.ae c2;have a89:=U.ae aE;have a90:=U.ae c9;have n2:=U.aI l3;have a92:=U.aI l4;clear I l6 l8 l9 n0 n1 j9 W;by_cases a94:b<a.length
  .have k0:(b)<(a.length:Int):=aaU;have a95:=u aaU;have a96:=v (b:=b) aaU;have a97:=w (b:=b) aaU;have a98:=A (b:=b) aaU;clear u v w A;have a99:=uP aaU aaU g (v:=max (a.getD b 0) (h.getD b 0)) rfl;have b00:=uP aaU aaU i (v:=min (c.getD b 0) (d.getD b 0)) rfl;have b01:b+1<=(ad (mix max a h b)++g).length:=by rw[a6A,bM,uO aaU aaU];omega
   have b02:b+1<=(ad (mix min c d b)++i).length:=by rw[a6A,bM,uO aaU aaU];omega
   generalize a.getD b 0=b03 at*;generalize h.getD b 0=b04 at*;generalize c.getD b 0=a3 at*;generalize d.getD b 0=a4 at*;generalize ad (mix max a h b)++g=b05 at*;generalize ad (mix min c d b)++i=b06 at*;refine aa ?_;grind
  .obtain rfl:b=a.length:=aaU;clear u v w A;have S:mix max a h a.length=List.zipWith max a h:=by unfold mix;grind
   have V:mix min c d a.length=List.zipWith min c d:=by unfold mix;grind
   have b07:(ad (mix max a h a.length)).length=a.length:=by rw[S,bM,a8q];omega
   have b08:(ad (mix min c d a.length)).length=a.length:=by rw[V,bM,a8q];omega
   have b09:=U.aI aM;have b10: ¬(a.length:Int)<a.length:=aaU;refine aa ?_;refine⟨_,U.a6,_,_,rfl,?_⟩;rw[<-S,<-V];refine⟨(o.set F (.cells [.ao e a.length N 1,.ao y a.length Q 1])).del y,⟨λr j p=> ?_,.inr ⟨e,a.length,N,_,rfl,a07,by rw[U.eH _ a04,U.an _ _ a05];exact l3,?_,?_,?_,k4,a00⟩⟩,⟨λr j p=> ?_,.inr ⟨y,a.length,Q,_,rfl,U.iB _ _,by rw[U.an _ _ a06];exact l4,?_,?_,?_,k7,a03⟩⟩⟩
   .have k:r≠y:=by rintro rfl;rw[a08]at p;cases p
    have a13:r≠F:=by rintro rfl;rw[l7]at p;cases p
    rw[U.eH _ k,U.an _ _ a13];exact a11 r j p
   .rw[a6A,bM]at*;omega
   simp_all
   .omega
   .have k:r≠y:=by rintro rfl;rw[U.iB]at p;cases p
    rw[U.eH _ k]at p;exact p
   .rw[a6A,bM]at*;omega
   simp_all
   .omega
def Fv (h:U) (a b c d:List Int) (k o p r:Own) (z:a.length<=1000000000000):
  AC Tryz.prog 268 [eN a b k o,eN c d p r] h λx y=>h.sub y/\x= .aJ [eN (gy a b c d).1 (gy a b c d).2 .any .any,.v (.bool (jY a b c d))]:=
 (a1O h a b c d k o p r z).view λx y C=>by
  obtain⟨D,W,rfl,e,E,F⟩:=C;obtain⟨f,G,L⟩:=sN F;have P:=E.mono G;obtain⟨S,T,V⟩:=sN P;exact⟨_,S,View.aJ (a:= []) ((View.agg (a:= [D]) rfl L).trans (View.agg (a:= []) rfl V)),T,rfl⟩
abbrev fT:kN:=⟨0,0,[]⟩
def ru (a:Nat):fT.ok a=decide (1<=a/\a<=8):=by simp[kN.ok]
def nN (a:Int):Nat:=(IntKind.u64.wrap ((BitVec.ofInt 64 (IntKind.u64.wrap a)^^^BitVec.ofInt 64 9223372036854775808).toNat:Int)).toNat
def a1P (a:Int):br .xor (.int .u64 (IntKind.u64.wrap a)) (.int .u64 9223372036854775808)=some (.int .u64 (nN a:Int)):=by have b:br .xor (.int .u64 (IntKind.u64.wrap a)) (.int .u64 9223372036854775808)=some (.int .u64 (IntKind.u64.wrap ((BitVec.ofInt 64 (IntKind.u64.wrap a)^^^BitVec.ofInt 64 9223372036854775808).toNat))):=rfl;rw[b,nN,a8h];exact Int.emod_nonneg _ aaY
def Fw (a:Int) (b:U):AC Tryz.prog 303 [.v (.int .i64 a)] b λc d=>d=b/\c=ir 0 (nN a):=by have h:=a1P a;refine aK hm Tc ?_;refine bp λk o=> ?_;rfl
def mG (b:0<q.length) (a:Own):cC 1 (.J (ad q) a) (.v (.int .i64 0))=some (.bU [.v (.int .i64 (q.getD 0 0))]):=by have:=og (e:=1) (g:=ad q) (N:=a) (e1:= .i64) (i:=0);rw[dP b]at this;exact this
def zb (a:List Int):R:=if 1<=a.length/\a.length<=8 then .aJ [ir 0 (nN (a.getD 0 0)),.v (.int .i64 0)]else .aJ [ir 0 0,.v (.int .i64 1)]
def zc (c d:Own) (a:List Int) (b:U) (k:a.length<=1000000000000):AC Tryz.prog 331 [fT.V c,.J (ad a) d] b λo p=>p=b/\o=zb a:=by
 have x:=bM (q:=a);have y:= @dP a;have h:=λb=>vq fT c a.length b k aaV;simp only[ru]at h;refine aK hm TI ?_;refine bp λz C=> ?_;refine cZ λD E F G=> ?_;refine bk (h _) ?_;rw[zb];refine aH (λr=> ?_) λr=> ?_
 .rfl
 .have L:=mG (q:=a) aaU d;refine aa ?_;refine bk (Fw _ _) ?_;rfl
def zd (a b:Nat) (h:Int) (c d:Nat) (k:Int):Bool:=if rr a b c d=0 then decide (h<k)else decide (rr a b c d<0)
theorem Fx (a b c d:Nat) (h k:Int) (o:U):AC Tryz.prog 332 [ir a b,.v (.int .i64 h),ir c d,.v (.int .i64 k)] o λp r=>r=o/\p= .v (.bool (zd a b h c d k)):=by
 refine aK hm TK ?_;refine bp λx y=> ?_;refine cZ λz C D E=> ?_;refine bk (Ft _ _ _ _ _) ?_
 repeat' first|refine aH (λ_=> ?_) λ_=> ?_|trivial
 all_goals simp_all [zd,if_pos,if_neg]
def oM (a:List Int):Prop:=1<=a.length/\a.length<=8
def ze (a:oM q):zb q= .aJ [ir 0 (nN (q.getD 0 0)),.v (.int .i64 0)]:=if_pos a
def tr (a b:List Int):Bool:=zd 0 (nN (a.getD 0 0)) (a.getD 0 0) 0 (nN (b.getD 0 0)) (b.getD 0 0)
def Fy (o c d:Own) (a b:List Int) (h:U) (k:oM a) (y:b.length=a.length):AC Tryz.prog 312 [fT.V o,.J (ad a) c,.J (ad b) d] h λp r=>r=h/\p= .v (.bool (tr a b)):=by have z:=bM (q:=a);have C:=bM (q:=b);have D:= @dP a;have E:= @dP b;have x:=id k;obtain⟨F,G⟩:=k;have L:=ze x;have P:=ze (q:=b) ⟨aaU,aaU⟩;refine aK hm Tk ?_;refine bp λS T=> ?_;refine bk (zc _ _ a _ aaU) ?_;have V:=mG (q:=a) aaU c;have W:=mG (q:=b) aaU d;refine cZ λe f g i=> ?_;refine bk (zc _ _ b _ aaU) ?_;refine ha λj l _ _ _ _=> ?_;refine bk (Fx _ _ _ _ _ _ _) ?_;rfl
abbrev a1Q:=tr
def ts (a b:List Int):Int:=if tr a b=true then -1 else if tr b a=true then 1 else 0
theorem a1R (d r x:Own) (a b:List Int) (h:U) (p:Nat) (C:h.read p=some [.v (.int .u8 0),.v (.int .i64 0),.J (ad []) d]) (k:oM a) (c:b.length=a.length):AC Tryz.prog 311 [.J (ad a) r,.J (ad b) x,.ptr p 0] h λy z=>z=h/\y= .v (.int .i64 (ts a b)):=by
 refine aK hm Ti ?_;refine bk (Fy d _ _ a b _ k c) ?_;refine aH (λo=> ?_) λo=> ?_
 .rw[ts,if_pos o]
 .refine bk (Fy d _ _ b a _ ⟨by rw[c];exact k.1,by rw[c];exact k.2⟩ c.symm) ?_;refine aH (λc2=> ?_) λc2=> ?_
  .rw[ts,if_neg (by simp[o]),if_pos c2]
  simp_all [ts]
theorem Fz (h c k:Own) (a b:List Int) (d:U) (o:cO a b a.length=true):AC Tryz.prog 269 [fT.V h,eN a b c k] d λp r=>r=d/\p= .aJ [ir 0 (nN (a.getD 0 0)),.v (.int .i64 (a.getD 0 0)),.v (.int .i64 0)]:=by
 obtain⟨x,y,z,C⟩:=lv o;have D:=bM (q:=a);have E:fT.ok a.length=true:=by rw[ru];simp_all
 have F:=mG (q:=a) aaU c;refine aK hm Ss ?_;refine bp λG L=> ?_;refine cZ λP S T V=> ?_;refine ha λW e f g a3 a4=> ?_;refine bk (oz _ a b _ _ _ aaU) ?_;refine bk (vq fT _ _ _ aaU aaV) ?_;refine bk (Fw _ _) ?_;refine xC λi j l m n q s t=> ?_;rfl
def a1S (d p r h:Own) (a c b:List Int) (k:U) (o:cO a c a.length=true) (z:b.length=a.length):AC Tryz.prog 308 [fT.V d,eN a c p r,.J (ad b) h] k λx y=>y=k/\x= .v (.bool (a1Q b a)):=by obtain⟨C,D,E,F⟩:=lv o;have G:=bM (q:=a);have L:=bM (q:=b);have P:=mG (q:=b) aaU h;have S:=ze (q:=b) ⟨aaU,aaU⟩;refine aK hm Te ?_;refine bp λT V=> ?_;refine cZ λW e f g=> ?_;refine bk (Fz d _ _ a c _ o) ?_;refine ha λi j l m a3 a4=> ?_;refine bk (zc _ _ b _ aaU) ?_;refine xC λn q s t u v w A=> ?_;refine bk (Fx _ _ _ _ _ _ _) ?_;rfl
def a1T (a:Nat) (k:a<=8) (b:U):AC Tryz.prog 264 [.v (.int .u64 1),.v (.int .u64 (a:Int))] b λc d=>d=b/\c= .aJ [.v (.int .u64 0),.v (.int .u64 (a:Int))]:=by
 have h:AC Tryz.prog 299 [.v (.int .u64 1),.v (.int .u64 (a:Int))] b λc d=>d=b/\c= .aJ [.v (.int .u64 0),.v (.int .u64 (a:Int))]:=by
  have o:br .and (.int .u64 1) (.int .u64 4294967295)=some (.int .u64 1):=by rfl
  have p:br .shr (.int .u64 1) (.int .u64 32)=some (.int .u64 0):=by rfl
  obtain⟨r,x⟩:br .and (.int .u64 (a)) (.int .u64 4294967295)=some (.int .u64 (a))/\br .shr (.int .u64 (a)) (.int .u64 32)=some (.int .u64 0):=by
   obtain rfl|rfl|rfl|rfl|rfl|rfl|rfl|rfl|rfl:a=0\/a=1\/a=2\/a=3\/a=4\/a=5\/a=6\/a=7\/a=8:=aaU
   all_goals exact⟨aaZ,aaZ⟩
  have y:br .shr (.int .u64 0) (.int .u64 32)=some (.int .u64 0):=by rfl
  have z:br .and (.int .u64 0) (.int .u64 4294967295)=some (.int .u64 0):=by rfl
  have C:(1)*(a:Int)=a:=Int.one_mul _;have D:(0)*(a:Int)=0:=Int.zero_mul _;exact aK hm T6 trivial
 refine aK hm Sj ?_;exact bk h trivial
def a1U: ∀ {a:Nat},(List.replicate a [n]).flatten=List.replicate a n
 |0=>rfl
 |a+1=>by simp
theorem FA (b:Nat) (z:1<=b) (C:b<=8) (d:Int) (r:Own) (h:U):AC Tryz.prog 212 [.J [.v (.int .i64 d)] r,.v (.int .i64 (b:Int))] h λD p=>av h p 1 (ad (List.replicate b d)) D:=by
 refine aK hm QN ?_;refine iH ?_;refine bk (a1T b C h) ?_;refine iH ?_;refine xn aaU aaU λc x=> ?_;rw[a1U];have T:ma 1 (.ao c b b 1) (.J [.v (.int .i64 d)] r) (h.set c (.cells (List.replicate b (.v (.int .i64 0)))))=some (.v (.int .i64 1),h.set c (.cells (List.replicate 1 (.v (.int .i64 d))++List.replicate (b - 1) (.v (.int .i64 0))))):=by obtain⟨o,rfl⟩: ∃o,b=o+1:=⟨b - 1,aaU⟩;simp[ma,bV,U.ai,U.set_set,flat,R.cells,putAt]
 refine aa ?_;refine cg [7] (λa:Nat=> [(8,.v (.int .i64 (a)))]) (λa p=>1<=a/\a<=b/\p=h.set c (.cells (List.replicate a (.v (.int .i64 d))++List.replicate (b - a) (.v (.int .i64 0))))) (λa=>b - a) 1 ⟨⟨a7g _,z,rfl⟩,aO⟩ ?_;rintro a _ ⟨V,E,rfl⟩ W;refine aa ?_;refine aH (λF=> ?_) λF=> ?_
 .have e:cn 1 (.ao c b b 1) (some (.v (.int .i64 (a)))) none none=some (.bE c a (b - a) (b - a) 1):=by simp_all [gm]
  have f:cn 1 (.ao c b b 1) none (some (.v (.int .i64 (a)))) none=some (.ao c a b 1):=hU E;generalize y:List.replicate a (R.v (.int .i64 d))++List.replicate (b - a) (.v (.int .i64 0))=k;have G:k.length=b:=by subst y;simp;omega
  have L:bV (h.set c (.cells k)) 1 (.ao c a b 1)=some (a,List.replicate a (.v (.int .i64 d))):=by have P:(h.set c (.cells k)).read c=some k:=U.ae (U.ai _ _ _);simp only[bV,P,G,a7s];grind
  have S:=hy (M:=a) (i:=b - a) (j2:=b - a) L (U.ai h c (.cells k)) aaU;have o:putAt k a ((List.replicate a (R.v (.int .i64 d))).take ((b - a)*1))=List.replicate (a+min a (b - a)) (.v (.int .i64 d))++List.replicate (b -(a+min a (b - a))) (.v (.int .i64 0)):=by subst y;rw[a7s,List.take_replicate,putAt,a8N aaV,a8s,Nat.min_comm (b - a) a,<-List.replicate_append_replicate,a8b,a8s,a7n aaV,a6T,List.drop_replicate];congr 2;omega
  rw[o,U.set_set]at S;refine aa ?_;exact⟨a+min a (b - a),⟨aaU,aaU,rfl⟩,by congr 2,aaU⟩
 .obtain rfl:a=b:=aaU;refine⟨_,U.a6,U.af U.a6 x,.inr ⟨c,a,a,_,rfl,x,U.ai _ _ _,?_,?_,?_,a7g _,by unfold maxLen;omega⟩⟩
  .simp
  .simp[ad]
  .simp[ad]
def iU:Int:= -9223372036854775808
def jq:Int:=9223372036854775807
def a1V (a:Nat) (p:1<=a) (r:a<=8) (h:U):AC Tryz.prog 164 [.v (.int .i64 (a:Int))] h λC D=> ∃b c,C= .agg [b,c]/\pL h D (List.replicate a iU) (List.replicate a jq) b c:=by have L: ¬(a:Int)<1:=aaU;have P: ¬8<(a:Int):=aaU;refine aK hm Pq ?_;refine bp λx k=> ?_;have S:=k;refine Yp λT E V y=> ?_;refine hX (FA a p r iU _ _) λb W o=> ?_;have z:=o.1 _ _ ((U.an _ _ y).trans (U.ai h x (.cells [.J [] .nil,.J [] .nil])));refine jM λe F=> ?_;refine hX (FA a p r jq _ _) λc f d=> ?_;have d:=d.base (U.af U.a6 F);have c2:=U.aI (d.1 _ _ z);have g:=fJ o;have i:=fJ d;refine aa ?_;have G:=(jP (X:= .cells [b,c]) o ((U.an _ _ y).trans (U.ai h x (.cells [.J [] .nil,.J [] .nil])))).base (U.af (U.af (U.af U.a6 k) E) k);exact⟨_,U.a6,b,c,rfl,_,G,jP d z⟩
def q3 (a:Nat) (b:Bool):ar:=⟨38,5,
(.seq
(.plain (bH 10 (.eY (mg 0))::[]))
(.block 0
(.loop
(.seq
(.seq
(.plain (aA 11 10::aA 12 3::cD 13 .lss 11 12::[]))
(.cond (aG 13)
.skip
(.exit 0)))
(.seq
(.block 1
(.draw (aA 16 0::aA 17 1::aA 18 10::cD 19 .add 17 18::aA 20 0::aA 21 2::aA 22 10::cD 23 .add 21 22::aA 24 0::aA 25 2::aA 26 10::cD 27 .add 25 26::bH 28 (.dN a (aG 24) (aG 27))::bH 29 (.load b a (aG 28))::aA 30 0::aA 31 1::aA 32 10::cD 33 .add 31 32::bH 34 (.dN a (aG 30) (aG 33))::bH 35 (.load b a (aG 34))::bH 36 (.dN a (aG 16) (aG 19))::on (.store a (aG 36) (aG 29))::bH 37 (.dN a (aG 20) (aG 23))::on (.store a (aG 37) (aG 35))::[])
(bg 0::bg 1::bg 2::bg 3::bg 4::bg 5::bg 6::bg 7::bg 8::bg 9::bg 10::bg 11::bg 12::bg 13::bg 14::bg 15::bg 16::bg 17::bg 18::bg 19::bg 20::bg 21::bg 22::bg 23:: [])))
(.plain (aA 14 10::fy 15 .add 14 1::aA 10 15::[]))))))),[]⟩
def a1W:du Tryz.prog 0 341=some (q3 41 true):=aaZ
def a1X:du Tryz.prog 0 348=some (q3 1 false):=aaZ
def rv (b:Nat) (c:Bool) (a:FuncId):ar:=⟨58,5,
(.seq
(.plain (aA 12 2::aA 13 1::cD 14 .sub 12 13::aA 10 14::[]))
(.seq
(.plain (aA 15 3::aA 16 2::cD 17 .sub 15 16::aA 11 17::[]))
(.seq
(.block 0
(.loop
(.seq
(.seq
(.plain (aA 18 10::aA 19 11::cD 20 .neq 18 19::[]))
(.cond (aG 20)
.skip
(.exit 0)))
(.block 1
(.seq
(.plain (aA 21 10::aA 22 11::cD 23 .gtr 21 22::[]))
(.cond (aG 23)
(.seq
(.plain (aA 24 0::aA 25 2::aA 26 10::cD 27 .sub 25 26::aA 28 2::aA 29 11::aA 30 4::bH 31 (.fW a [(aG 24),(aG 27),(aG 28),(aG 29),(aG 30)])::[]))
(.plain (aA 32 10::aA 33 11::cD 34 .sub 32 33::aA 10 34::[])))
(.seq
(.plain (aA 35 0::aA 36 2::aA 37 10::cD 38 .sub 36 37::aA 39 2::aA 40 11::cD 41 .add 39 40::aA 42 10::cD 43 .sub 41 42::aA 44 10::aA 45 4::bH 46 (.fW a [(aG 35),(aG 38),(aG 43),(aG 44),(aG 45)])::[]))
(.plain (aA 47 11::aA 48 10::cD 49 .sub 47 48::aA 11 49::[])))))))))
(.plain (aA 50 0::aA 51 2::aA 52 10::cD 53 .sub 51 52::aA 54 2::aA 55 10::aA 56 4::bH 57 (.fW a [(aG 50),(aG 53),(aG 54),(aG 55),(aG 56)])::[]))))),[]⟩
def a1Y:du Tryz.prog 0 330=some (rv 41 true 341):=aaZ
def a1Z:du Tryz.prog 0 346=some (rv 1 false 348):=aaZ
def tt (a:Nat) (b:Bool):ar:=⟨53,4,
(.seq
(.plain (aA 10 1::fy 11 .add 10 1::aA 8 11::[]))
(.block 0
(.loop
(.seq
(.seq
(.plain (aA 12 8::aA 13 2::cD 14 .lss 12 13::[]))
(.cond (aG 14)
.skip
(.exit 0)))
(.seq
(.block 1
(.seq
(.plain (aA 17 8::aA 9 17::[]))
(.block 2
(.loop
(.seq
(.seq
(.draw (aA 18 9::aA 19 1::cD 20 .gtr 18 19::aA 21 20::eZ 21 true 22 (.eY (aG 3))::eZ 21 true 23 (.eY (aG 0))::eZ 21 true 24 (.eY (aG 9))::eZ 21 true 25 (.dN a (aG 23) (aG 24))::eZ 21 true 26 (.load b a (aG 25))::eZ 21 true 27 (.eY (aG 0))::eZ 21 true 28 (.eY (aG 9))::eZ 21 true 29 (.bin .sub (aG 28) (mg 1))::eZ 21 true 30 (.dN a (aG 27) (aG 29))::eZ 21 true 31 (.load b a (aG 30))::eZ 21 true 32 (.iZ (aG 22) [(aG 26),(aG 31)])::eZ 21 true 33 (.bin .lss (aG 32) (mg 0))::bH 34 (.pick (aG 21) (aG 33) qI)::[])
(bg 0::bg 1::bg 2::bg 3::bg 4::bg 5::bg 6::bg 7::bg 8::bg 9::bg 10::bg 11::bg 12::bg 13::bg 14::bg 15::bg 16:: []))
(.cond (aG 34)
.skip
(.exit 2)))
(.seq
(.block 3
(.draw (aA 37 0::aA 38 9::aA 39 0::aA 40 9::fy 41 .sub 40 1::aA 42 0::aA 43 9::fy 44 .sub 43 1::bH 45 (.dN a (aG 42) (aG 44))::bH 46 (.load b a (aG 45))::aA 47 0::aA 48 9::bH 49 (.dN a (aG 47) (aG 48))::bH 50 (.load b a (aG 49))::bH 51 (.dN a (aG 37) (aG 38))::on (.store a (aG 51) (aG 46))::bH 52 (.dN a (aG 39) (aG 41))::on (.store a (aG 52) (aG 50))::[])
(bg 0::bg 1::bg 2::bg 3::bg 4::bg 5::bg 6::bg 7::bg 8::bg 9::bg 10::bg 11::bg 12::bg 13::bg 14::bg 15::bg 16::bg 17:: [])))
(.plain (aA 35 9::fy 36 .sub 35 1::aA 9 36::[]))))))))
(.plain (aA 15 8::fy 16 .add 15 1::aA 8 16::[]))))))),[]⟩
def a2a:du Tryz.prog 0 306=some (tt 41 true):=aaZ
def a2b:du Tryz.prog 0 143=some (tt 1 false):=aaZ
def tu (a:Nat) (b:Bool) (c d:FuncId):ar:=⟨220,5,
(.seq
(.seq
(.plain (aA 25 2::aA 26 1::cD 27 .sub 25 26::fy 28 .eql 27 1::[]))
(.cond (aG 28)
(.seq
(.plain (aA 29 2::aA 10 29::[]))
(.seq
(.plain (aA 30 3::aA 11 30::[]))
(.seq
(.block 0
(.loop
(.seq
(.seq
(.plain (aA 31 10::aA 32 11::cD 33 .lss 31 32::[]))
(.cond (aG 33)
.skip
(.exit 0)))
(.block 1
(.seq
(.plain (aA 34 10::aA 35 11::cD 36 .add 34 35::bH 37 (.iY .u64 (aG 36))::bH 38 (.bin .shr (aG 37) (.const (.int .u64 1)))::bH 39 (.iY .i64 (aG 38))::aA 12 39::[]))
(.seq
(.draw (aA 40 4::aA 41 0::aA 42 12::bH 43 (.dN a (aG 41) (aG 42))::bH 44 (.load b a (aG 43))::aA 45 0::aA 46 1::bH 47 (.dN a (aG 45) (aG 46))::bH 48 (.load b a (aG 47))::bH 49 (.iZ (aG 40) [(aG 44),(aG 48)])::fy 50 .lss 49 0::[])
(bg 0::bg 1::bg 2::bg 3::bg 4::bg 5::bg 6::bg 7::bg 8::bg 9::bg 10:: []))
(.cond (aG 50)
(.plain (aA 51 12::fy 52 .add 51 1::aA 10 52::[]))
(.plain (aA 53 12::aA 11 53::[])))))))))
(.seq
(.seq
(.plain (aA 54 1::aA 13 54::[]))
(.block 2
(.loop
(.seq
(.seq
(.plain (aA 55 13::aA 56 10::fy 57 .sub 56 1::cD 58 .lss 55 57::[]))
(.cond (aG 58)
.skip
(.exit 2)))
(.seq
(.block 3
(.draw (aA 61 0::aA 62 13::aA 63 0::aA 64 13::fy 65 .add 64 1::aA 66 0::aA 67 13::fy 68 .add 67 1::bH 69 (.dN a (aG 66) (aG 68))::bH 70 (.load b a (aG 69))::aA 71 0::aA 72 13::bH 73 (.dN a (aG 71) (aG 72))::bH 74 (.load b a (aG 73))::bH 75 (.dN a (aG 61) (aG 62))::on (.store a (aG 75) (aG 70))::bH 76 (.dN a (aG 63) (aG 65))::on (.store a (aG 76) (aG 74))::[])
(bg 0::bg 1::bg 2::bg 3::bg 4::bg 5::bg 6::bg 7::bg 8::bg 9::bg 10::bg 11::bg 12::bg 13::bg 14::bg 15::bg 16::bg 17:: [])))
(.plain (aA 59 13::fy 60 .add 59 1::aA 13 60::[])))))))
.ret))))
.skip))
(.seq
(.seq
(.plain (aA 77 3::aA 78 2::cD 79 .sub 77 78::fy 80 .eql 79 1::[]))
(.cond (aG 80)
(.seq
(.plain (aA 81 1::aA 14 81::[]))
(.seq
(.plain (aA 82 2::aA 15 82::[]))
(.seq
(.block 4
(.loop
(.seq
(.seq
(.plain (aA 83 14::aA 84 15::cD 85 .lss 83 84::[]))
(.cond (aG 85)
.skip
(.exit 4)))
(.block 5
(.seq
(.plain (aA 86 14::aA 87 15::cD 88 .add 86 87::bH 89 (.iY .u64 (aG 88))::bH 90 (.bin .shr (aG 89) (.const (.int .u64 1)))::bH 91 (.iY .i64 (aG 90))::aA 16 91::[]))
(.seq
(.draw (aA 92 4::aA 93 0::aA 94 2::bH 95 (.dN a (aG 93) (aG 94))::bH 96 (.load b a (aG 95))::aA 97 0::aA 98 16::bH 99 (.dN a (aG 97) (aG 98))::bH 100 (.load b a (aG 99))::bH 101 (.iZ (aG 92) [(aG 96),(aG 100)])::fy 102 .lss 101 0::bH 103 (.un .not (aG 102))::[])
(bg 0::bg 1::bg 2::bg 3::bg 4::bg 5::bg 6::bg 7::bg 8::bg 9::bg 10::bg 11:: []))
(.cond (aG 103)
(.plain (aA 104 16::fy 105 .add 104 1::aA 14 105::[]))
(.plain (aA 106 16::aA 15 106::[])))))))))
(.seq
(.seq
(.plain (aA 107 2::aA 17 107::[]))
(.block 6
(.loop
(.seq
(.seq
(.plain (aA 108 17::aA 109 14::cD 110 .gtr 108 109::[]))
(.cond (aG 110)
.skip
(.exit 6)))
(.seq
(.block 7
(.draw (aA 113 0::aA 114 17::aA 115 0::aA 116 17::fy 117 .sub 116 1::aA 118 0::aA 119 17::fy 120 .sub 119 1::bH 121 (.dN a (aG 118) (aG 120))::bH 122 (.load b a (aG 121))::aA 123 0::aA 124 17::bH 125 (.dN a (aG 123) (aG 124))::bH 126 (.load b a (aG 125))::bH 127 (.dN a (aG 113) (aG 114))::on (.store a (aG 127) (aG 122))::bH 128 (.dN a (aG 115) (aG 117))::on (.store a (aG 128) (aG 126))::[])
(bg 0::bg 1::bg 2::bg 3::bg 4::bg 5::bg 6::bg 7::bg 8::bg 9::bg 10::bg 11::bg 12::bg 13::bg 14::bg 15::bg 16::bg 17:: [])))
(.plain (aA 111 17::fy 112 .sub 111 1::aA 17 112::[])))))))
.ret))))
.skip))
(.seq
(.plain (aA 129 1::aA 130 3::cD 131 .add 129 130::bH 132 (.iY .u64 (aG 131))::bH 133 (.bin .shr (aG 132) (.const (.int .u64 1)))::bH 134 (.iY .i64 (aG 133))::aA 18 134::[]))
(.seq
(.plain (aA 135 18::aA 136 2::cD 137 .add 135 136::aA 19 137::[]))
(.seq
(.plain (bH 20 (.eY (mg 0))::bH 21 (.eY (mg 0))::[]))
(.seq
(.seq
(.plain (aA 138 2::aA 139 18::cD 140 .gtr 138 139::[]))
(.cond (aG 140)
(.seq
(.plain (aA 141 19::aA 142 3::cD 143 .sub 141 142::aA 20 143::[]))
(.plain (aA 144 18::aA 21 144::[])))
(.seq
(.plain (aA 145 1::aA 20 145::[]))
(.plain (aA 146 2::aA 21 146::[])))))
(.seq
(.plain (aA 147 19::fy 148 .sub 147 1::aA 22 148::[]))
(.seq
(.block 8
(.loop
(.seq
(.seq
(.plain (aA 149 20::aA 150 21::cD 151 .lss 149 150::[]))
(.cond (aG 151)
.skip
(.exit 8)))
(.block 9
(.seq
(.plain (aA 152 20::aA 153 21::cD 154 .add 152 153::bH 155 (.iY .u64 (aG 154))::bH 156 (.bin .shr (aG 155) (.const (.int .u64 1)))::bH 157 (.iY .i64 (aG 156))::aA 23 157::[]))
(.seq
(.draw (aA 158 4::aA 159 0::aA 160 22::aA 161 23::cD 162 .sub 160 161::bH 163 (.dN a (aG 159) (aG 162))::bH 164 (.load b a (aG 163))::aA 165 0::aA 166 23::bH 167 (.dN a (aG 165) (aG 166))::bH 168 (.load b a (aG 167))::bH 169 (.iZ (aG 158) [(aG 164),(aG 168)])::fy 170 .lss 169 0::bH 171 (.un .not (aG 170))::[])
(bg 0::bg 1::bg 2::bg 3::bg 4::bg 5::bg 6::bg 7::bg 8::bg 9::bg 10::bg 11::bg 12::bg 13:: []))
(.cond (aG 171)
(.plain (aA 172 23::fy 173 .add 172 1::aA 20 173::[]))
(.plain (aA 174 23::aA 21 174::[])))))))))
(.seq
(.plain (aA 175 19::aA 176 20::cD 177 .sub 175 176::aA 24 177::[]))
(.seq
(.seq
(.plain (aA 178 20::aA 179 2::cD 180 .lss 178 179::aA 181 180::eZ 181 true 182 (.eY (aG 2))::eZ 181 true 183 (.eY (aG 24))::eZ 181 true 184 (.bin .lss (aG 182) (aG 183))::bH 185 (.pick (aG 181) (aG 184) qI)::[]))
(.cond (aG 185)
(.plain (aA 186 0::aA 187 20::aA 188 2::aA 189 24::aA 190 4::bH 191 (.fW d [(aG 186),(aG 187),(aG 188),(aG 189),(aG 190)])::[]))
.skip))
(.seq
(.seq
(.plain (aA 192 1::aA 193 20::cD 194 .lss 192 193::aA 195 194::eZ 195 true 196 (.eY (aG 20))::eZ 195 true 197 (.eY (aG 18))::eZ 195 true 198 (.bin .lss (aG 196) (aG 197))::bH 199 (.pick (aG 195) (aG 198) qI)::[]))
(.cond (aG 199)
(.plain (aA 200 0::aA 201 1::aA 202 20::aA 203 18::aA 204 4::bH 205 (.fW c [(aG 200),(aG 201),(aG 202),(aG 203),(aG 204)])::[]))
.skip))
(.seq
(.plain (aA 206 18::aA 207 24::cD 208 .lss 206 207::aA 209 208::eZ 209 true 210 (.eY (aG 24))::eZ 209 true 211 (.eY (aG 3))::eZ 209 true 212 (.bin .lss (aG 210) (aG 211))::bH 213 (.pick (aG 209) (aG 212) qI)::[]))
(.cond (aG 213)
(.plain (aA 214 0::aA 215 18::aA 216 24::aA 217 3::aA 218 4::bH 219 (.fW c [(aG 214),(aG 215),(aG 216),(aG 217),(aG 218)])::[]))
.skip))))))))))))),[]⟩
def a2c:du Tryz.prog 0 307=some (tu 41 true 307 330):=aaZ
def a2d:du Tryz.prog 0 343=some (tu 1 false 343 346):=aaZ
def vr (c:Nat) (d:Bool) (a b:FuncId):ar:=⟨63,3,
(.seq
(.plain (bH 6 (.eY (mg 20))::[]))
(.seq
(.plain (aA 10 6::bH 7 (.eY (mg 0))::aA 8 10::[]))
(.seq
(.block 0
(.loop
(.seq
(.seq
(.plain (aA 11 8::aA 12 1::cD 13 .leq 11 12::[]))
(.cond (aG 13)
.skip
(.exit 0)))
(.block 1
(.seq
(.plain (aA 14 0::aA 15 7::aA 16 8::aA 17 2::bH 18 (.fW a [(aG 14),(aG 15),(aG 16),(aG 17)])::[]))
(.seq
(.plain (aA 19 8::aA 7 19::[]))
(.plain (aA 20 8::aA 21 6::cD 22 .add 20 21::aA 8 22::[]))))))))
(.seq
(.plain (aA 23 0::aA 24 7::aA 25 1::aA 26 2::bH 27 (.fW a [(aG 23),(aG 24),(aG 25),(aG 26)])::[]))
(.block 2
(.loop
(.seq
(.seq
(.plain (aA 28 6::aA 29 1::cD 30 .lss 28 29::[]))
(.cond (aG 30)
.skip
(.exit 2)))
(.block 3
(.seq
(.plain (aA 31 6::bH 32 (.bin .mul (mg 2) (aG 31))::bH 7 (.eY (mg 0))::aA 8 32::[]))
(.seq
(.block 4
(.loop
(.seq
(.seq
(.plain (aA 33 8::aA 34 1::cD 35 .leq 33 34::[]))
(.cond (aG 35)
.skip
(.exit 4)))
(.block 5
(.seq
(.plain (aA 36 0::aA 37 7::aA 38 7::aA 39 6::cD 40 .add 38 39::aA 41 8::aA 42 2::bH 43 (.fW b [(aG 36),(aG 37),(aG 40),(aG 41),(aG 42)])::[]))
(.seq
(.plain (aA 44 8::aA 7 44::[]))
(.plain (aA 45 8::aA 46 6::bH 47 (.bin .mul (mg 2) (aG 46))::cD 48 .add 45 47::aA 8 48::[]))))))))
(.seq
(.seq
(.plain (aA 49 7::aA 50 6::cD 51 .add 49 50::aA 9 51::[]))
(.seq
(.plain (aA 52 9::aA 53 1::cD 54 .lss 52 53::[]))
(.cond (aG 54)
(.plain (aA 55 0::aA 56 7::aA 57 9::aA 58 1::aA 59 2::bH 60 (.fW b [(aG 55),(aG 56),(aG 57),(aG 58),(aG 59)])::[]))
.skip)))
(.plain (aA 61 6::fy 62 .mul 61 2::aA 6 62::[]))))))))))))),[]⟩
def a2e:du Tryz.prog 0 270=some (vr 41 true 306 307):=aaZ
def a2f:du Tryz.prog 0 333=some (vr 1 false 143 343):=aaZ
structure oN (k:Nat) (a:R) (l b n:Nat):Prop where
 jr: ∀i,i<n->cC k a (.v (.int .i64 ((i:Nat):Int)))=some (.ptr l (b+i*k))
 len:fa a=some (.v (.int .i64 (n:Int)))
 cl:a.cells= [a]
def oO (b:Nat) (c:Bool) (a:R):Prop:=a.cells.length=b/\aL c b a.cells=a
def el (a:List R) (b:Nat):R:=a.getD b (.aJ [])
def vs (a:List R) (b c:Nat):List R:=(a.set b (el a c)).set c (el a b)
def W (a:U) (b:Nat) (c d h:List R):U:=a.set b (.cells (c++flat h++d))
def a2g (a:e<g.length):g[e]? =some (el g e):=by simp[el,a]
theorem jZ (a:e<g.length):el g e∈g:=a6D (a2g a)
theorem vt (a:e<g.length) (b:i<g.length):(vs g e i).Perm g:=by have c:=Array.swap_perm (xs:=g.toArray) (i:=e) (j:=i) (by trivial) (by trivial);grind[Array.perm_iff_toList_perm,vs,Array.swap,el,List.getD]
theorem zf (b: ∀a∈g,a.cells.length=i) (d:e<g.length):(B++flat g++c0).drop (B.length+e*i)=(el g e).cells++(flat (g.drop (e+1))++c0):=by
 have h:g=g.take e++el g e::g.drop (e+1):=by grind[List.take_append_drop,List.drop_eq_getElem_cons,el,List.getD]
 have k:(flat (g.take e)).length=e*i:=by rw[cR (λa c=>b a (a6M c)),a6C,a8k aaU]
 grind[flat,el,List.append_assoc,List.drop_drop,List.drop_left]
theorem FB (a: ∀b∈g,b.cells.length=i) (c:e<g.length) (d:n.cells.length=i):putAt (B++flat g++c0) (B.length+e*i) n.cells=B++flat (g.set e n)++c0:=by
 have y:(flat (g.take e)).length=e*i:=by rw[cR (λb h=>a b (a6M h)),a6C,a8k aaU]
 have k:g=g.take e++el g e::g.drop (e+1):=by grind[List.take_append_drop,List.drop_eq_getElem_cons,el,List.getD]
 have z:flat g=flat (g.take e)++((el g e).cells++flat (g.drop (e+1))):=by
  conv=>lhs;rw[k]
  simp[flat]
 have o:flat (g.set e n)=flat (g.take e)++(n.cells++flat (g.drop (e+1))):=by rw[a7R,if_pos c];simp[flat]
 have p:=a _ (jZ c);have r:(B++flat g++c0).take (B.length+e*i)=B++flat (g.take e):=by grind
 have x:(B++flat g++c0).drop (B.length+e*i+n.cells.length)=flat (g.drop (e+1))++c0:=by rw[<-a7p,zf a c,d,<-p,a9m]
 rw[putAt,r,x,o];simp
structure a2h (k:Nat) (p:Bool) (d:U) (l c:Nat) (pre post es:List R) (i h:Nat) (a b:R) (cs o r:List R):Prop where
 st:eg (W d l pre post es) l=some cs
 r5:cY p k (W d l pre post es) (.ptr l (c+i*k))=some a
 r6:cY p k (W d l pre post es) (.ptr l (c+h*k))=some b
 q4:a.cells.length=k
 iu:b.cells.length=k
 oi:c+i*k+k<=cs.length
 oj:c+h*k+k<=o.length
 nL:putAt cs (c+i*k) b.cells=o
 nM:putAt o (c+h*k) a.cells=r
 fin:(W d l pre post es).set l (.cells r)=W d l pre post (vs es i h)
variable{I:Bool}
theorem nO (D:0<e) (o:B.length=M) (c: ∀a∈g,oO e I a) (d:i<g.length):cY I e (W f v B c0 g) (.ptr v (M+i*e))=some (el g i):=by
 subst o;have p:=λa r=>(c a r).1;have x:=c _ (jZ d);have y:(W f v B c0 g).read v=some (B++flat g++c0):=U.ae (U.ai _ _ _);have h:=zf p d (B:=B) (c0:=c0);have z:B.length+i*e+e<=(B++flat g++c0).length:=by have:=congrArg List.length h;grind[List.length_append,el,flat,List.length_drop]
 simp only[cY,y,if_pos z,h];obtain⟨k,b⟩:=x;rw[<-b]
 conv=>rhs;rw[b]
 generalize el g i=a at*;cases I
 .simp only[aL,a7H,if_false]at b|-;cases C:a.cells with
  |nil=>rw[C]at k;simp at k;omega
  |cons E F=>simp_all
 simp_all [a6z,aL]
theorem vu (E:0<e) (o:B.length=b9) (p: ∀a∈g,oO e I a) (b:i<g.length) (c:v<g.length):
  ∃F G L,a2h e I f M b9 B c0 g i v (el g i) (el g v) F G L:=by
 have d:=λa r=>(p a r).1;have x:=d _ (jZ b);have y:=d _ (jZ c);have z: ∀a∈g.set i (el g v),a.cells.length=e:=λa r=>by
  grind
 have P:=FB d b (B:=B) (c0:=c0) y;have S:=FB z (by simpa using c) (B:=B) (c0:=c0) x;have C:=λ{i} b=>nO E (f:=f) (v:=M) (c0:=c0) o p (i:=i) b;have D: ∀(h) (k),(∀a∈h,a.cells.length=e)->k<h.length->B.length+k*e+e<=(B++flat h++c0).length:=λh k T V=>by
  have:=congrArg List.length (zf T V (B:=B) (c0:=c0));grind[List.length_append,el,flat,List.length_drop,jZ]
 subst o;refine⟨_,_,_,?_,C b,C c,x,y,D g i d b,D _ v z (by simpa using c),P,S,?_⟩
 .simp[eg,W,U.ai]
 .simp only[W,U.set_set,vs]
variable{b5:FuncId}
section
def zg (x:du Tryz.prog 0 b5=some (q3 e I)) (y:0<e) (z:g.length=v) (h:oN e n i v c0.length) (T:c0.length<=1000000000000) (V:M+j2<=c0.length) (j:b9+j2<=c0.length) (C:R) (k:List R) (D:k.Perm c0) (E: ∀o∈c0,oO e I o):
  AC Tryz.prog b5 [n,.v (.int .i64 (M:Int)),.v (.int .i64 (b9:Int)),.v (.int .i64 (j2:Int)),C] (W f i g B k) λl p=> ∃r,r.Perm c0/\p=W f i g B r:=by
 have m:=h.cl;refine aK hm x ?_;refine cg [0,1,2,3] (λb:Nat×List R=> [(10,.v (.int .i64 (b.1)))]) (λb p=>p=W f i g B b.2/\b.2.Perm c0/\b.1<=j2) (λb=>j2 - b.1) (0,k) ⟨⟨rfl,D,aaU⟩,aO⟩ ?_;rintro⟨a,d⟩ _ ⟨rfl,c,F⟩ q
 dsimp only at c F|-
 refine aa ?_;refine aH (λG=> ?_) λG=> ?_
 .have s:=c.length_eq;obtain⟨t,u,w,L⟩:=vu y (f:=f) (M:=i) (c0:=B) z (λo P=>E o (c.mem_iff.1 P)) (i:=M+a) (v:=b9+a) aaU aaU;have S:=vt (g:=d) (e:=M+a) (i:=b9+a) aaU aaU;obtain⟨A,H,K,N,O,Q,X,Y,Z,j9⟩:=L;have k0:=h.jr (M+a) aaU;have k1:=h.jr (b9+a) aaU;generalize W f i g B d=k2 at*;generalize el d (M+a)=b at*;generalize el d (b9+a)=k3 at*;have k4:(M)+(a)=((M+a:Nat):Int):=rfl;have k5:(b9)+(a)=((b9+a:Nat):Int):=rfl;refine aa ?_;exact⟨(a+1,_),⟨rfl,S.trans c,by show a+1<=j2;omega⟩,rfl,by show j2 -(a+1)<j2 - a;omega⟩
 .exact⟨_,U.a6,_,c,rfl⟩
theorem a2i {L:FuncId} (T:du Tryz.prog 0 b5=some (rv e I L)) (r:du Tryz.prog 0 L=some (q3 e I)) (x:0<e) (y:g.length=v) (o:oN e n i v c0.length) (z:c0.length<=1000000000000) (u:j2<M) (w:M<b9) (A:b9<=c0.length) (p:R) (C:List R) (V:C.Perm c0) (D: ∀j∈c0,oO e I j):
  AC Tryz.prog b5 [n,.v (.int .i64 (j2:Int)),.v (.int .i64 (M:Int)),.v (.int .i64 (b9:Int)),p] (W f i g B C) λE F=> ∃P,P.Perm c0/\F=W f i g B P:=by
 have H:=o.cl;have S:(M) -(j2)=((M - j2:Nat):Int):=aaU;have d:(b9) -(M)=((b9 - M:Nat):Int):=aaU;refine aK hm T ?_;refine cg [0,1,2,3,4] (λc:(Nat×Nat)×List R=> [(10,.v (.int .i64 (c.1.1))),(11,.v (.int .i64 (c.1.2)))]) (λc F=>F=W f i g B c.2/\c.2.Perm c0/\0<c.1.1/\0<c.1.2/\c.1.1<=M - j2/\c.1.2<=b9 - M) (λc=>c.1.1+c.1.2) ((M - j2,b9 - M),C) ⟨⟨rfl,V,by show 0<M - j2;omega,by show 0<b9 - M;omega,a7g _,a7g _⟩,aO⟩ ?_;clear S d;rintro⟨⟨a,b⟩,d⟩ _ ⟨rfl,G,l,m,q,s⟩ K
 dsimp only at*
 have S:(M) -(a)=((M - a:Nat):Int):=aaU;refine aa ?_;refine aH (λt=> ?_) λt=> ?_
 .refine aH (λc2=> ?_) λc2=> ?_
  .refine ah (zg r x y o z aaU aaU p d G D) ?_;rintro E _ ⟨h,k,rfl⟩;refine aa ?_;exact⟨((a - b,b),h),⟨rfl,k,by show 0<a - b;omega,m,by show a - b<=M - j2;omega,s⟩,⟨by grind,rfl⟩,by show a - b+b<a+b;omega⟩
  .have h:(M)+(b) -(a)=((M+b - a:Nat):Int):=aaU;refine aa ?_;refine ah (zg r x y o z aaU aaU p d G D) ?_;rintro E _ ⟨h,k,rfl⟩;refine aa ?_;exact⟨((a,b - a),h),⟨rfl,k,l,by show 0<b - a;omega,q,by show b - a<=b9 - M;omega⟩,⟨rfl,by grind⟩,by show a+(b - a)<a+b;omega⟩
 .obtain rfl:a=b:=aaU;refine aa ?_;refine ah (zg r x y o z aaU aaU p d G D) ?_;rintro E _ ⟨h,k,rfl⟩;refine aa ?_;exact⟨_,U.a6,_,k,rfl⟩
def oP (c:U) (d:Nat) (h k a:List R) (o:FuncId) (x y:List R) (z:R->R->Int):Prop:=
 fu Tryz.prog o=true/\ ∀b,b.Perm a-> ∀p∈a,∀r∈a,AC Tryz.prog o (x++ [p,r]++y) (W c d h k b) λC D=>D=W c d h k b/\C= .v (.int .i64 (z p r))
def FC (P:du Tryz.prog 0 b5=some (tt e I)) (o:0<e) (p:g.length=v) (r:oN e n i v c0.length) (t:c0.length<=1000000000000) (u:M<=b9) (w:b9<=c0.length) {C:FuncId}{D E:List R}{S:R->R->Int} (F:oP f i g B c0 C D E S) (x:List R) (T:x.Perm c0) (V: ∀y∈c0,oO e I y):
  AC Tryz.prog b5 [n,.v (.int .i64 (M:Int)),.v (.int .i64 (b9:Int)),.bG C D E] (W f i g B x) λA h=> ∃G,G.Perm c0/\h=W f i g B G:=by
 have H:=r.cl;refine aK hm P ?_;refine cg [0,1,2,3] (λa:Nat×List R=> [(8,.v (.int .i64 (a.1)))]) (λa h=>h=W f i g B a.2/\a.2.Perm c0/\M<a.1/\a.1<=b9+1) (λa=>b9+1 - a.1) (M+1,x) ⟨⟨rfl,T,by show M<M+1;omega,by show M+1<=b9+1;omega⟩,aa Yj⟩ ?_;rintro⟨c,j⟩ _ ⟨rfl,L,K,N⟩ O
 dsimp only at*
 refine aa ?_;refine aH (λl=> ?_) λl=> ?_
 .refine cg [0,1,2,3,8] (λa:Nat×List R=> [(9,.v (.int .i64 (a.1)))]) (λa h=>h=W f i g B a.2/\a.2.Perm c0/\M<=a.1/\a.1<=c) (λa=>a.1) (c,j) ⟨⟨rfl,L,by show M<=c;omega,a7g _⟩,aO⟩ ?_;rintro⟨b,k⟩ _ ⟨rfl,d,Q,X⟩ Y
  dsimp only at*
  have Z:=d.length_eq;refine aa ?_;refine aH (λm=> ?_) λm=> ?_
  .have j9:=r.jr b aaU;have k0:=r.jr (b - 1) aaU;have k1:(b) - 1=((b - 1:Nat):Int):=aaU;have z:=λy q=>V y (d.mem_iff.1 q);have k2:=nO o (f:=f) (v:=i) (c0:=B) p z (i:=b) aaU;have k3:=nO o (f:=f) (v:=i) (c0:=B) p z (i:=b - 1) aaU;refine aa ?_;refine eL F.1 (F.2 k d _ (d.mem_iff.1 (jZ aaU)) _ (d.mem_iff.1 (jZ aaU))) ?_;rintro _ _ ⟨rfl,rfl⟩;refine aa ?_;refine aH (λc2=> ?_) λc2=> ?_
   .obtain⟨k4,k5,k6,k7,k8,k9,l0,l1,l2,l3,l4,l5,l6⟩:=vu o (f:=f) (M:=i) (c0:=B) p z (i:=b) (v:=b - 1) aaU aaU;have s:=vt (g:=k) (e:=b) (i:=b - 1) aaU aaU;generalize W f i g B k=l7 at*;generalize el k b=a at*;generalize el k (b - 1)=l8 at*;refine aa ?_;exact⟨(b - 1,_),⟨rfl,s.trans d,by show M<=b - 1;omega,by show b - 1<=c;omega⟩,rfl,by show b - 1<b;omega⟩
   .exact⟨(c+1,_),⟨rfl,d,by show M<c+1;omega,by show c+1<=b9+1;omega⟩,rfl,aaU⟩
  .exact⟨(c+1,_),⟨rfl,d,by show M<c+1;omega,by show c+1<=b9+1;omega⟩,rfl,aaU⟩
 .exact⟨_,U.a6,_,L,rfl⟩
def vv (a b:Nat):br .shr (.int .u64 ((a:Int)+(b:Int))) (.int .u64 1)=some (.int .u64 (((a+b)/2:Nat):Int)):=by have:=sk (a+b) .u64 1 aaU aaU;rw[a7q]at this;exact this
theorem vw {O A k5:FuncId} (Q:du Tryz.prog 0 O=some (tu e I O A)) (X:du Tryz.prog 0 A=some (rv e I k5)) (Y:du Tryz.prog 0 k5=some (q3 e I)) (P:0<e) (S:g.length=v) (F:oN e n i v c0.length) (Z:c0.length<=1000000000000) {k6:FuncId}{k7 k8:List R}{l4:R->R->Int} (V:oP f i g B c0 k6 k7 k8 l4) (j: ∀D∈c0,oO e I D): ∀(H h c k:Nat),k - h<=H->h<c->c<k->k<=c0.length-> ∀(E:List R),E.Perm c0->
  AC Tryz.prog O [n,.v (.int .i64 (h:Int)),.v (.int .i64 (c:Int)),.v (.int .i64 (k:Int)),.bG k6 k7 k8] (W f i g B E) λa08 C=> ∃k9,k9.Perm c0/\C=W f i g B k9
 |0,h,c,k,l5,l6,l7,l8,E,y=>by omega
 |H+1,h,c,k,l5,l6,l7,l8,E,y=>by
  have a09:=F.cl;refine aK hm Q ?_;refine aH (λl9=> ?_) λl9=> ?_
  .refine gL [0,1,2,3,4] (λa:Nat×Nat=> [(10,.v (.int .i64 (a.1))),(11,.v (.int .i64 (a.2)))]) (λa=>c<=a.1/\a.1<=a.2/\a.2<=k) (λa=>a.2 - a.1) (c,k) ⟨a7g _,by show c<=k;omega,a7g _⟩ aO ?_;rintro⟨b,d⟩ ⟨G,l,L⟩ m
   dsimp only at G l L|-
   refine aa ?_;have j9:=vv b d;have K:=y.length_eq;have q:=λD T=>j D (y.mem_iff.1 T);refine aH (λc2=> ?_) λc2=> ?_
   .have M:=F.jr ((b+d)/2) aaU;have N:=F.jr h aaU;have l0:=nO P (f:=f) (v:=i) (c0:=B) S q (i:=(b+d)/2) aaU;have l1:=nO P (f:=f) (v:=i) (c0:=B) S q (i:=h) aaU;have l2:(b+d)/2<=1000000000000:=aaU;obtain⟨s,k0⟩:b<=(b+d)/2/\(b+d)/2<d:=aaU;have w:=V.2 E y _ (y.mem_iff.1 (jZ (e:=(b+d)/2) aaU)) _ (y.mem_iff.1 (jZ (e:=h) aaU));generalize (b+d)/2=o at*;refine aa ?_;refine eL V.1 w ?_;rintro _ _ ⟨rfl,rfl⟩;refine aa ?_;refine aH (λaE=> ?_) λaE=> ?_
    .exact⟨(o+1,d),⟨by show c<=o+1;omega,by show o+1<=d;omega,L⟩,⟨rfl,rfl⟩,by show d -(o+1)<d - b;omega⟩
    .exact⟨(b,o),⟨G,s,by show o<=k;omega⟩,⟨rfl,rfl⟩,by show o - b<d - b;omega⟩
   .refine cg [0,1,2,3,4,10] (λa:Nat×List R=> [(13,.v (.int .i64 (a.1)))]) (λa C=>C=W f i g B a.2/\a.2.Perm c0/\h<=a.1) (λa=>b - a.1) (h,E) ⟨⟨rfl,y,a7g _⟩,aO⟩ ?_;rintro⟨p,z⟩ _ ⟨rfl,x,k1⟩ A
    dsimp only at x k1|-
    refine aa ?_;refine aH (λaE=> ?_) λaE=> ?_
    .have K:=x.length_eq;have k2:=λD T=>j D (x.mem_iff.1 T);have M:=F.jr p aaU;have N:=F.jr (p+1) aaU;have l3:(p)+1=((p+1:Nat):Int):=aaU;obtain⟨n0,n1,n2,n3,n4,n5,n9,a00,a01,a02,a03,a04,a05⟩:=vu P (f:=f) (M:=i) (c0:=B) S k2 (i:=p) (v:=p+1) aaU aaU;have k3:=vt (g:=z) (e:=p) (i:=p+1) aaU aaU;generalize W f i g B z=a06 at*;generalize el z p=a at*;generalize el z (p+1)=a07 at*;refine aa ?_;exact⟨(p+1,_),⟨rfl,k3.trans x,by show h<=p+1;omega⟩,rfl,by show b -(p+1)<b - p;omega⟩
    .exact⟨_,U.a6,_,x,rfl⟩
  .refine aH (λc2=> ?_) λc2=> ?_
   .refine gL [0,1,2,3,4] (λa:Nat×Nat=> [(14,.v (.int .i64 (a.1))),(15,.v (.int .i64 (a.2)))]) (λa=>h<=a.1/\a.1<=a.2/\a.2<=c) (λa=>a.2 - a.1) (h,c) ⟨a7g _,by show h<=c;omega,a7g _⟩ aO ?_;rintro⟨b,d⟩ ⟨G,l,L⟩ m
    dsimp only at G l L|-
    refine aa ?_;have j9:=vv b d;have K:=y.length_eq;have q:=λD T=>j D (y.mem_iff.1 T);refine aH (λaE=> ?_) λaE=> ?_
    .have M:=F.jr ((b+d)/2) aaU;have N:=F.jr c aaU;have l0:=nO P (f:=f) (v:=i) (c0:=B) S q (i:=(b+d)/2) aaU;have l1:=nO P (f:=f) (v:=i) (c0:=B) S q (i:=c) aaU;obtain⟨s,k0⟩:b<=(b+d)/2/\(b+d)/2<d:=aaU;have w:=V.2 E y _ (y.mem_iff.1 (jZ (e:=c) aaU)) _ (y.mem_iff.1 (jZ (e:=(b+d)/2) aaU));have l2:(b+d)/2<=1000000000000:=aaU;generalize (b+d)/2=o at*;refine aa ?_;refine eL V.1 w ?_;rintro _ _ ⟨rfl,rfl⟩;refine aa ?_;refine aH (λaE=> ?_) λaE=> ?_
     .exact⟨(o+1,d),⟨by show h<=o+1;omega,by show o+1<=d;omega,L⟩,⟨rfl,rfl⟩,by show d -(o+1)<d - b;omega⟩
     .exact⟨(b,o),⟨G,s,by show o<=c;omega⟩,⟨rfl,rfl⟩,by show o - b<d - b;omega⟩
    .refine cg [0,1,2,3,4,14] (λa:Nat×List R=> [(17,.v (.int .i64 (a.1)))]) (λa C=>C=W f i g B a.2/\a.2.Perm c0/\a.1<=c) (λa=>a.1) (c,E) ⟨⟨rfl,y,a7g _⟩,aO⟩ ?_;rintro⟨p,z⟩ _ ⟨rfl,x,k1⟩ A
     dsimp only at x k1|-
     refine aa ?_;refine aH (λaM=> ?_) λaM=> ?_
     .have K:=x.length_eq;have k2:=λD T=>j D (x.mem_iff.1 T);have M:=F.jr p aaU;have N:=F.jr (p - 1) aaU;have l3:(p) - 1=((p - 1:Nat):Int):=aaU;obtain⟨n0,n1,n2,n3,n4,n5,n9,a00,a01,a02,a03,a04,a05⟩:=vu P (f:=f) (M:=i) (c0:=B) S k2 (i:=p) (v:=p - 1) aaU aaU;have k3:=vt (g:=z) (e:=p) (i:=p - 1) aaU aaU;generalize W f i g B z=a06 at*;generalize el z p=a at*;generalize el z (p - 1)=a07 at*;refine aa ?_;exact⟨(p - 1,_),⟨rfl,k3.trans x,by show p - 1<=c;omega⟩,rfl,by show p - 1<p;omega⟩
     .exact⟨_,U.a6,_,x,rfl⟩
   .have j9:=vv h k;have a10:(h+k)/2<=1000000000000:=aaU;obtain⟨s,k0⟩:h<(h+k)/2/\(h+k)/2<k:=aaU;have a11:(h+k)/2 - h<=k -(h+k)/2:=aaU;have a13:k -(h+k)/2<=(h+k)/2 - h+1:=aaU;generalize (h+k)/2=r at*;refine aa ?_;refine om [0,1,2,3,4,18,19] (λa:Nat×Nat=> [(20,.v (.int .i64 (a.1))),(21,.v (.int .i64 (a.2)))]) (λa C=>C=W f i g B E/\h<=a.1/\a.1<=a.2/\r+c<=k+a.1/\a.2<=r/\a.2<=c) (λaE=> ?_) (λaE=> ?_) ?_
    .have aE:=of_decide_eq_true aE;have a14:(r)+(c) -(k)=((r+c - k:Nat):Int):=aaU;refine aa ?_;exact⟨(r+c - k,r),⟨by show h<=r+c - k;omega,by show r+c - k<=r;omega,aaU,a7g _,by show r<=c;omega⟩,rfl,rfl⟩
    .have aE:=of_decide_eq_false aE;refine aa ?_;exact⟨(h,c),⟨a7g _,by show h<=c;omega,by show r+c<=k+h;omega,by show c<=r;omega,a7g _⟩,rfl,rfl⟩
    rintro⟨b,d⟩ _ ⟨rfl,G,l,t,L,u⟩ m
    dsimp only at G l t L u|-
    refine pA [0,1,2,3,4,18,19,20,21] (λ_:Unit=> [(22,.v (.int .i64 ((r+c - 1:Nat))))]) (λ_ C=>C=W f i g B E) ?_ ?_
    .refine aa ?_;exact⟨(),by congr 2;omega⟩
    rintro _ _ rfl m;refine pA [0,1,2,3,4,18,19] (λb:Nat=> [(20,.v (.int .i64 (b)))]) (λb C=>C=W f i g B E/\h<=b/\r+c<=k+b/\b<=r/\b<=c) ?_ ?_
    .refine aa ?_;refine gL [0,1,2,3,4,18,19,22] (λa:Nat×Nat=> [(20,.v (.int .i64 (a.1))),(21,.v (.int .i64 (a.2)))]) (λa=>h<=a.1/\a.1<=a.2/\r+c<=k+a.1/\a.2<=r/\a.2<=c) (λa=>a.2 - a.1) (b,d) ⟨G,l,t,L,u⟩ aO ?_;rintro⟨b,d⟩ ⟨G,l,t,L,u⟩ m
     dsimp only at G l t L u|-
     have j9:=vv b d;have K:=y.length_eq;have q:=λD T=>j D (y.mem_iff.1 T);refine aa ?_;refine aH (λaM=> ?_) λaM=> ?_
     .obtain⟨s,k0⟩:b<=(b+d)/2/\(b+d)/2<d:=aaU;have l2:(b+d)/2<=1000000000000:=aaU;generalize (b+d)/2=o at*;have l3:((r+c - 1:Nat)) -(o)=((r+c - 1 - o:Nat):Int):=aaU;have M:=F.jr o aaU;have N:=F.jr (r+c - 1 - o) aaU;have l0:=nO P (f:=f) (v:=i) (c0:=B) S q (i:=o) aaU;have l1:=nO P (f:=f) (v:=i) (c0:=B) S q (i:=r+c - 1 - o) aaU;have w:=V.2 E y _ (y.mem_iff.1 (jZ (e:=r+c - 1 - o) aaU)) _ (y.mem_iff.1 (jZ (e:=o) aaU));refine aa ?_;refine eL V.1 w ?_;rintro _ _ ⟨rfl,rfl⟩;refine aa ?_;refine aH (λbh=> ?_) λbh=> ?_
      .exact⟨(o+1,d),⟨by show h<=o+1;omega,by show o+1<=d;omega,by show r+c<=k+(o+1);omega,L,u⟩,⟨rfl,rfl⟩,by show d -(o+1)<d - b;omega⟩
      .exact⟨(b,o),⟨G,s,t,by show o<=r;omega,by show o<=c;omega⟩,⟨rfl,rfl⟩,by show o - b<d - b;omega⟩
     grind
    rintro b _ ⟨rfl,G,t,L,u⟩ m;refine pA [0,1,2,3,4,18,20] (λ_:Unit=> [(24,.v (.int .i64 ((r+c - b:Nat))))]) (λ_ C=>C=W f i g B E) ?_ ?_
    .refine aa ?_;exact⟨(),by congr 2;omega⟩
    rintro _ _ rfl m;obtain⟨D,T⟩: ∃D,r+c - b=D:=⟨_,rfl⟩;have a15:D<=k:=aaU;rw[T];refine pA [0,1,2,3,4,18,20,24] (λ_:List R=> []) (λa C=>C=W f i g B a/\a.Perm c0) ?_ ?_
    .refine aa ?_;refine aH (λaM=> ?_) λaM=> ?_
     .refine aH (λbh=> ?_) λbh=> ?_
      .refine ah (a2i X Y P S F Z aaU aaU aaU _ E y j) ?_;rintro _ _ ⟨z,x,rfl⟩;refine aa ?_;exact⟨z,rfl,x⟩
      .exact⟨E,rfl,y⟩
     .exact⟨E,rfl,y⟩
    rintro z _ ⟨rfl,x⟩ m;refine pA [0,1,2,3,4,18,20,24] (λ_:List R=> []) (λa C=>C=W f i g B a/\a.Perm c0) ?_ ?_
    .refine aa ?_;refine aH (λaM=> ?_) λaM=> ?_
     .refine aH (λbh=> ?_) λbh=> ?_
      .refine ah (vw Q X Y P S F Z V j H h b r aaU aaU aaU aaU z x) ?_;rintro _ _ ⟨k4,x,rfl⟩;refine aa ?_;exact⟨k4,rfl,x⟩
      .exact⟨z,rfl,x⟩
     .exact⟨z,rfl,x⟩
    rintro z _ ⟨rfl,x⟩ m;refine aa ?_;refine aH (λaM=> ?_) λaM=> ?_
    .refine aH (λbh=> ?_) λbh=> ?_
     .refine ah (vw Q X Y P S F Z V j H r D k aaU aaU aaU aaU z x) ?_;rintro _ _ ⟨k4,x,rfl⟩;refine aa ?_;exact⟨_,U.a6,k4,x,rfl⟩
     .exact⟨_,U.a6,z,x,rfl⟩
    .exact⟨_,U.a6,z,x,rfl⟩
def a2j {T V D j:FuncId} (O:du Tryz.prog 0 T=some (vr e I V b5)) (l:du Tryz.prog 0 V=some (tt e I)) (m:du Tryz.prog 0 b5=some (tu e I b5 D)) (q:du Tryz.prog 0 D=some (rv e I j)) (s:du Tryz.prog 0 j=some (q3 e I)) (p:0<e) (r:g.length=v) (E:oN e n i v c0.length) (Q:c0.length<=1000000000) {t:FuncId}{u w:List R}{X:R->R->Int} (x:oP f i g B c0 t u w X) (y: ∀Y∈c0,oO e I Y):
  AC Tryz.prog T [n,.v (.int .i64 (c0.length:Int)),.bG t u w] (W f i g B c0) λk4 h=> ∃A,A.Perm c0/\h=W f i g B A:=by
 have k5:=E.cl;have H:c0.length<=1000000000000:=aaU;have z:=E;have C:=H;obtain⟨b,Z⟩: ∃b,c0.length=b:=⟨_,rfl⟩;rw[Z]at Q H E|-;refine aK hm O ?_;refine cg [0,1,2,6] (λa:Nat×List R=> [(7,.v (.int .i64 (a.1))),(8,.v (.int .i64 ((a.1+20:Nat))))]) (λa h=>h=W f i g B a.2/\a.2.Perm c0/\a.1<=b) (λa=>b - a.1) (0,c0) ⟨⟨rfl,.refl _,a7b _⟩,aO⟩ ?_;rintro⟨c,K⟩ _ ⟨rfl,F,G⟩ k6
 dsimp only at F G|-
 refine aa ?_;refine aH (λj9=> ?_) λj9=> ?_
 .refine ah (FC l p r z C aaU aaU x K F y) ?_;rintro _ _ ⟨L,k,rfl⟩;refine aa ?_;exact⟨(c+20,L),⟨rfl,k,by show c+20<=b;omega⟩,⟨rfl,rfl⟩,by show b -(c+20)<b - c;omega⟩
 .refine ah (FC l p r z C aaU aaU x K F y) ?_;rintro _ _ ⟨L,k,rfl⟩;refine aa ?_;refine cg [0,1,2] (λa:Nat×List R=> [(6,.v (.int .i64 (a.1)))]) (λa h=>h=W f i g B a.2/\a.2.Perm c0/\0<a.1/\a.1<=20+2*b) (λa=>b - a.1) (20,L) ⟨⟨rfl,k,by show 0<20;omega,by show 20<=20+2*b;omega⟩,aO⟩ ?_;rintro⟨aV,M⟩ _ ⟨rfl,P,k0,k1⟩ b5
  dsimp only at P k0 k1|-
  refine aa ?_;refine aH (λc2=> ?_) λc2=> ?_
  .have k7:2*(aV)=((2*aV:Nat):Int):=aaU;refine cg [0,1,2,6] (λa:Nat×List R=> [(7,.v (.int .i64 (a.1))),(8,.v (.int .i64 ((a.1+2*aV:Nat))))]) (λa h=>h=W f i g B a.2/\a.2.Perm c0/\a.1<=b) (λa=>b - a.1) (0,M) ⟨⟨rfl,P,a7b _⟩,by rw[a7c];exact aO⟩ ?_;rintro⟨c,N⟩ _ ⟨rfl,S,G⟩ D
   dsimp only at S G|-
   have k8:(c)+(aV)=((c+aV:Nat):Int):=rfl;refine aa ?_;refine aH (λaE=> ?_) λaE=> ?_
   .refine ah (vw m q s p r z C x y _ c (c+aV) (c+2*aV) (a7g _) aaU aaU aaU N S) ?_;rintro _ _ ⟨d,k,rfl⟩;refine aa ?_;exact⟨(c+2*aV,d),⟨rfl,k,by show c+2*aV<=b;omega⟩,⟨rfl,aaV⟩,by show b -(c+2*aV)<b - c;omega⟩
   .have k2: ∀d:List R,d.Perm c0-> ∃o:Nat×List R,(W f i g B d=W f i g B o.2/\o.2.Perm c0/\0<o.1/\o.1<=20+2*b)/\R.v (.int .i64 ((aV)*2))= .v (.int .i64 (o.1))/\b - o.1<b - aV:=λd k3=>⟨(aV*2,d),⟨rfl,k3,by show 0<aV*2;omega,by show aV*2<= _;omega⟩,rfl,by show b - aV*2<b - aV;omega⟩;refine aH (λaM=> ?_) λaM=> ?_
    .refine ah (vw m q s p r z C x y _ c (c+aV) b (a7g _) aaU aaU aaU N S) ?_;rintro _ _ ⟨d,k,rfl⟩;have:=k2 d k;exact aO
    .trivial
  .exact⟨_,U.a6,M,P,rfl⟩
def zh (a:FuncId):ar:=⟨9,2,.plain (aA 4 0::aA 5 0::po 6 5::aA 7 1::bH 8 (.fW a [aG 4,aG 6,aG 7]):: []),[]⟩
def FD {b c d h k:FuncId} (y:du Tryz.prog 0 b=some (zh c)) (z:du Tryz.prog 0 c=some (vr e I d b5)) (C:du Tryz.prog 0 d=some (tt e I)) (D:du Tryz.prog 0 b5=some (tu e I b5 h)) (E:du Tryz.prog 0 h=some (rv e I k)) (F:du Tryz.prog 0 k=some (q3 e I)) (G:0<e) (L:g.length=v) (a:oN e n i v c0.length) (P:c0.length<=1000000000) {o:FuncId}{p r:List R}{S:R->R->Int} (T:oP f i g B c0 o p r S) (V: ∀j∈c0,oO e I j):
  AC Tryz.prog b [n,.bG o p r] (W f i g B c0) λs l=> ∃x,x.Perm c0/\l=W f i g B x:=by
 have t:=a.cl;have u:=a.len;refine aK hm y ?_;refine ah (a2j z C D E F G L a P T V) ?_;rintro _ _ ⟨m,q,rfl⟩;refine aa ?_;exact⟨_,U.a6,m,q,rfl⟩
end
def a2k:du Tryz.prog 0 215=some (zh 270):=aaZ
def a2l:du Tryz.prog 0 310=some (zh 333):=aaZ
theorem av.wr (d:av s f e B n) (h:0<e) (k:B=flat g) (o: ∀c∈g,c.cells.length=e) (E:g≠ []):
  ∃a post b,s a=none/\n= .ao a g.length b e/\f=W f a [] post g/\oN e n a 0 g.length/\g.length<=b/\b<=maxLen/\(g.length*e+post.length=b*e):=by
 subst k;have F:=cR o;obtain⟨G,⟨c,_⟩|⟨a,p,b,r,rfl,x,y,L,z,P,C,D⟩⟩:=d;grind[List.length_nil,List.length_pos_iff,Nat.mul_pos]
 .obtain rfl:p=g.length:=a8Y h aaU;refine⟨a,r.drop (g.length*e),b,x,rfl,?_,⟨λS T=> ?_,rfl,rfl⟩,C,D,?_⟩
  .rw[W,a6T,<-z,a7f];exact(U.tb y).symm
  simp_all [jJ];grind
theorem W.dv (d:f.sub s) (b:f v=none) (h: ∀a∈g,a.cells.length=e) (c:B.Perm g) (k:g.length<=i) (o:i<=maxLen) (x:g.length*e+c0.length=i*e):
  av f (W s v [] c0 B) e (flat B) (.ao v g.length i e):=by
 have p:(flat B).length=g.length*e:=by rw[cR λa r=>h a (c.mem_iff.1 r),c.length_eq]
 refine⟨U.af d b,.inr ⟨v,_,i,_,rfl,b,U.ai _ _ _,?_,?_,p,k,o⟩⟩;simp_all;simp_all
theorem aB.mem {h:Type}{k:h->R->Prop}: ∀ {c:List h}{aV:List R},aB k c aV-> ∀ {b:R},b∈aV-> ∃d,d∈c/\k d b
 | [],[],_,b,a=>by cases a
 |d::c,p::aV,⟨h1,o⟩,b,a=>by
  rcases a6W.1 a with rfl|a
  .simp_all
  .obtain⟨r,x,y⟩:=aB.mem o a;grind
 | [],_:: _,a,_,_=>a.elim
 | _:: _,[],a,_,_=>a.elim
variable{b0:Type}
def aB.perm {p:b0->R->Prop} (r:g.Perm B): ∀ {a:List b0},aB p a B-> ∃c,c.Perm a/\aB p c g:=by
 induction r with
 |nil=>exact λ{a} b=>⟨a,.refl _,b⟩
 |cons x _ ih=>
  intro a b
  match a,b with
  |h::a,⟨h1,k⟩=>obtain⟨c,d,o⟩:=ih k;exact⟨h::c,d.cons _,h1,o⟩
 |swap x G L=>
  intro a b
  match a,b with
  |h::y::a,⟨h1,k,d⟩=>exact⟨y::h::a,.swap _ _ _,k,h1,d⟩
 |trans _ _ z C=>intro a b;obtain⟨c,d,o⟩:=C b;obtain⟨D,E,F⟩:=z o;exact⟨D,E.trans d,F⟩
theorem oP.of {s:U}{l:Nat}{ds d:List R} (r:fu Tryz.prog b5=true) (x: ∀b∈c0,∀c∈c0,∃h:Int,∀a,a.Perm c0->AC Tryz.prog b5 (ds++ [b,c]++d) (W s l g B a) λk o=>o=W s l g B a/\k= .v (.int .i64 h)):
  ∃y,oP s l g B c0 b5 ds d y:=by
 classical
 exact⟨λb c=>if z: ∃h:Int,∀a,a.Perm c0->AC Tryz.prog b5 (ds++ [b,c]++d) (W s l g B a) λk o=>o=W s l g B a/\k= .v (.int .i64 h)then z.choose else 0,r,λa C b D c E=>by
  have p:=x b D c E;simp only[dif_pos p];exact p.choose_spec a C⟩
theorem a2m (E:Own) (p:Nat) (n3:1<=p) (n4:p<=8) (a:List (List Int)) (q:List R) (V:R) (x:U) (F:bJ x 1 V q) (e:aB isRow a q) (s: ∀k∈a,k.length=p) (n5:a.length<=100000) (j9:a≠ []):
  AC Tryz.prog 275 [fT.V E,V] x λk f=> ∃t g,g.Perm a/\aB isRow g t/\av x f 1 (flat t) k:=by
 have k0:=e.len;have n9:=F.one;have k1:=F.len;rw[k0]at k1;refine aK hm SC ?_;refine bp λy a00=> ?_;generalize i:x.set y _=j;have u:x.sub j:=by subst i;exact aO
 have G:j y=some (.cells [.v (.int .u8 0),.v (.int .i64 0),.J (ad []) E]):=by subst i;exact aO
 clear i;refine cg [1,2,8,9] (λd:Nat×R=> [(10,.v (.int .i64 (d.1))),(5,d.2)]) (λd f=>d.1<=a.length/\ ∃h,av j f 1 h d.2/\h=flat h/\aB isRow (a.take d.1) h) (λd=>a.length - d.1) (0,.J [] .nil) ⟨⟨a7b _,[],av.nil U.a6,rfl,trivial⟩,aO⟩ ?_;rintro⟨b,d⟩ r ⟨k2,h,o,z,c⟩ a01
 dsimp only at k2 o c|-
 have a02:=U.ae (o.1 _ _ G);refine aa ?_;refine aH (λk3=> ?_) λk3=> ?_
 .have k4:=a7B.2 j9;obtain⟨_,L,v,rfl⟩:=e.get (i:=b) (x:=a.getD b []) (by grind);obtain⟨_,k5,k6,rfl⟩:=e.get (i:=0) (x:=a.getD 0 []) (by simp[k4]);obtain⟨C,a03,l⟩:=F.get b _ L;obtain⟨w,A,k7⟩:=F.get 0 _ k5;have A:cC 1 V (.v (.int .i64 0))=some w:=A;have B:=U.au u o.1;have a04:cY false 1 r C=some (.J (ad (a.getD b [])) v):=l.ld r B false 1 aaU (by simp[R.cells]);have a05:cY false 1 r w=some (.J (ad (a.getD 0 [])) k6):=k7.ld r B false 1 aaU (by simp[R.cells]);have k8:(ad (a.getD b [])).length=p:=by grind[bM,List.getD]
  have a06:(ad (a.getD 0 [])).length=p:=by rw[bM];grind
  have D:=eR (a:=a) (e:=b) (b:= []) aaU;have a07:fT.ok p=true:=by rw[ru];grind
  generalize a.getD b []=k at*;generalize a.getD 0 []=a08 at*;refine aa ?_;refine bk (vq fT _ _ _ aaU aaV) ?_;refine ah (sO k v r (by rw[bM]at k8;omega)) ?_;rintro _ a09 ⟨k9,rfl⟩;have l0:=o.mono k9;refine aa ?_;refine eK (by simp[aW,R.cells]) aaV λa10 l1=> ?_;have H:=l0.mono (U.af (X:= .cells (flat [R.J (ad k) .any])) U.a6 l1);have m:(flat h).length=b:=by rw[cR (c.cells λ_ _=>isRow.cells),c.len,a6C];omega
  rw[z]at H;refine aa ?_;refine fb H aaU (nC rfl) rfl (by rw[m];simp[flat,R.cells];omega) (by rw[m];simp[flat,R.cells];omega) λl2 a11 I=> ?_;refine aa ?_;refine⟨(b+1,l2),⟨by show b+1<=a.length;omega,h++ [.J (ad k) .any],?_,?_,?_⟩,⟨rfl,rfl⟩,aaU⟩
  .rw[<-z]at I;exact I
  .conv=>lhs;rw[z]
   simp[flat,R.cells]
  .show aB isRow (a.take (b+1)) _;rw[D];exact c.snoc ⟨_,rfl⟩
 .obtain rfl:b=a.length:=aaU;rw[a6V]at c;have P: ∀D∈h,D.cells.length=1:=c.cells λ_ _=>isRow.cells;have m:=c.len;have l3:h≠ []:=by grind
  obtain⟨K,post,a13,M,rfl,N,O,l4,l5,Q⟩:=av.wr o aaU z P l3;have l6:K≠y:=by rintro rfl;rw[M]at G;cases G
  have X: ∀Y,(W r K [] post Y).read y=some [.v (.int .u8 0),.v (.int .i64 0),.J (ad []) E]:=λY=>U.ae ((U.an _ _ l6.symm).trans (o.1 _ _ G));have l7:=λS T=>W.dv (B:=S) o.1 M P T l4 l5 Q;obtain⟨a14,l8⟩:=oP.of (b5:=311) (ds:= []) ab0 λa15 l9 a16 n0=>by
   obtain⟨C,l,Z,rfl⟩:=c.mem l9;obtain⟨n,n1,n2,rfl⟩:=c.mem n0;have Q:=s C l;have a18:=s n n1;exact⟨ts C n,λS _=>a1R E Z n2 C n _ y (X S) ⟨aaU,aaU⟩ aaU⟩
  rw[N];clear N;refine ah (FD a2l a2f a2b a2d a1Z a1X aaU rfl O aaU l8 λD L=>⟨P D L,?_⟩) ?_
  .obtain⟨k,_,Z,rfl⟩:=c.mem L;rfl
  rintro _ _ ⟨S,T,rfl⟩;clear z X P O;refine aa ?_;obtain⟨g,a19,a27⟩:=c.perm T;have a29:=(l7 _ T).base u;grind[U.a6]
abbrev oQ (a b:List Int) (c d h:Own):List R:= [.J (ad a) c,.J (ad b) d,.v (.int .u8 0),.v (.int .i64 0),.J [] h,.v (.int .i64 1),.v (.bool false)]
theorem a2n (y z:List Int) (C D E:Own) (d h:U) (k:List R) (o:R) (a:av d h 1 k o):AC Tryz.prog 274 [o,.agg (oQ y z C D E)] h λF G=>av d G 1 (k.take 1) F:=by
 have g:=fJ a;obtain⟨L,P,_,i⟩:=a.src;refine aK hm SA ?_;refine bp λj p=> ?_;refine aH (λS=> ?_) λS=> ?_
 .obtain⟨r,⟨rfl,_⟩|⟨b,x,c,T,rfl,V,W,e,l,m,n,f⟩⟩:=a
  .simp at P;omega
  .obtain rfl:x=L:=aaU;have q:cn 1 (.ao b x c 1) none (some (.v (.int .i64 1))) none=some (.ao b 1 c 1):=hU (v:=1) aaU;refine aa ?_;refine⟨_,U.a6,U.af r (U.bI r p),.inr ⟨b,1,c,T,rfl,V,U.af U.a6 p _ _ W,e,?_,?_,aaU,f⟩⟩;grind
   .rw[a6C];omega
 grind[List.take_of_length_le,U.a6,U.af]
def ey (b c:List Int) (a:aq):Bool:=decide (a.live≠0)&&jY b c a.aT a.aS
theorem a2o (b c:List Int) (p r x d h k:Own) (a:aq) (y:a.sum.length=32) (z:b.length<=1000000000000) (o:U):AC Tryz.prog 267 [.agg (oQ b c p r x),.agg (ab a d h k)] o λC D=>D=o/\C= .v (.bool (ey b c a)):=by
 have F:=(aP (N:=d) (e5:=h) (h6:=k) y).all;refine aK hm Sn ?_;refine bp λG L=> ?_;refine cZ λP S T V=> ?_;generalize W:ab a d h k=e at*;refine aH (λE=> ?_) λE=> ?_
 .refine bk (Fu _ b c a.aT a.aS _ _ _ _ z) ?_;refine aH (λc2=> ?_) λc2=> ?_
  .refine aV ?_;rw[ey,c2,Bool.and_false]
  simp_all [ey]
 .refine aV ?_;rw[ey,decide_eq_false aaU,a8R]
theorem FE {a b:List Int} (c:jY q b8 a b=true):cO (gy q b8 a b).1 (gy q b8 a b).2 (gy q b8 a b).1.length=true/\(gy q b8 a b).1.length=q.length:=by
 have d:=id c;rw[jY,a6B]at c;obtain⟨h,hm⟩:=c;obtain⟨y,z,C,D,E⟩:=za h;rw[oL,a6B]at h;obtain⟨r,x⟩:=h;simp only[cO,a6B,decide_eq_true_eq,a6P,a7O]at r x hm;have k:(gy q b8 a b).1.length=q.length:=by rw[gy,if_pos d];simp[z]
 have F:(gy q b8 a b).2.length=q.length:=by rw[gy,if_pos d];simp[y,C]
 refine⟨?_,k⟩;rw[k];simp only[cO,a6B,decide_eq_true_eq,a6P,a7O];refine⟨⟨⟨⟨D,E⟩,k⟩,F⟩,λo p=> ?_⟩;have G:=r.2 o p;have L:=x.2 o p;obtain⟨P,S⟩:=hm o p;rw[gy,if_pos d];grind
def zi (b c:List Int) (a:aq) (d:List Int):Bool:=jY b c a.aT a.aS&&tr d (gy b c a.aT a.aS).1
def a2p (a d:List Int) (G L r x y z S:Own) (b:aq) (h:List Int) (T:b.sum.length=32) (j:h.length=a.length) (l:a.length<=8) (k:U):AC Tryz.prog 272 [.agg (oQ a d G L r),.agg (ab b x y z),.J (ad h) S] k λV W=>W=k/\V= .v (.bool (zi a d b h)):=by
 have m:=(aP (N:=x) (e5:=y) (h6:=z) T).all;refine aK hm Sw ?_;refine bp λC n=> ?_;refine cZ λP q s t=> ?_;generalize u:ab b x y z=e at*;generalize o:(k.set C _).set P _=D;have E:k.sub D:=by subst o;exact aO
 have cl:D C=some (.cells (oQ a d G L r)):=by subst o;exact aO
 have v:D P=some (.cells e):=by subst o;exact aO
 clear o;refine gs (Fv _ a d b.aT b.aS _ _ _ _ aaU) λw c=> ?_;have A:=U.ae (c _ _ cl);refine aN λf F=> ?_;have g:C≠f:=by rintro rfl;rw[c _ _ cl]at F;cases F
 have B:=g.symm;have H:=U.bI (U.au E c) F;refine aa ?_;refine aH (λp=> ?_) λp=> ?_
 .obtain⟨i,c2⟩:=FE p;refine bk (a1S r _ _ _ _ _ h _ i aaU) ?_;refine⟨U.au E c,aV ?_⟩;rw[zi,p,a8e]
 .refine⟨U.au E c,aV ?_⟩;rw[zi,p,a8R]
abbrev kO (a:aq) (b c d:Own) (h k:Nat) (id o:Int):List R:=ab a b c d++ [.v (.int .u64 (h:Int)),.v (.int .u64 (k:Int)),.v (.int .i64 id),.v (.int .i64 o)]
def ry (a:aq) (b:R):Prop:=a.sum.length=32/\a.cv/\ ∃c d h k o id p,b= .agg (kO a c d h k o id p)
variable{b1:Int}{w j3:aq}{N e5 h6:Own}
theorem vx {id:Int} (d:w.sum.length=32):(kO w N e5 h6 e i id b1).length=41/\(kO w N e5 h6 e i id b1).take 41=kO w N e5 h6 e i id b1/\(kO w N e5 h6 e i id b1).take 37=ab w N e5 h6/\
  ((kO w N e5 h6 e i id b1).drop 37).take 2= [.v (.int .u64 (e:Int)),.v (.int .u64 (i:Int))]/\aL false 1 ((kO w N e5 h6 e i id b1).drop 39)= .v (.int .i64 id)/\aL false 1 ((kO w N e5 h6 e i id b1).drop 40)= .v (.int .i64 b1):=by
 have c:=(aP (N:=N) (e5:=e5) (h6:=h6) d).len;have a: ∀b,(kO w N e5 h6 e i id b1).drop (37+b)= [R.v (.int .u64 (e)),.v (.int .u64 (i)),.v (.int .i64 id),.v (.int .i64 b1)].drop b:=λb=>by
  rw[a8b,a7n aaU,c,a9e,a6T]
 have h:(kO w N e5 h6 e i id b1).length=41:=by rw[a6A,c];rfl
 refine⟨h,a6z aaU,?_,?_,?_,?_⟩;simp_all
 .rw[a 0];rfl
 .rw[a 2];rfl
 .rw[a 3];rfl
theorem a2q (E:ry w n) (F:ry j3 b6): ∃G:Int,∀k,AC Tryz.prog 216 [n,b6] k λL P=>P=k/\L= .v (.int .i64 G):=by
 obtain⟨S,_,r,x,y,a,b,id,o,rfl⟩:=E;obtain⟨T,_,z,C,D,c,d,h,p,rfl⟩:=F;have V:=vx (N:=r) (e5:=x) (h6:=y) (e:=a) (i:=b) (id:=id) (b1:=o) S;have W:=vx (N:=z) (e5:=C) (h6:=D) (e:=c) (i:=d) (id:=h) (b1:=p) T;refine⟨if rr a b c d=0 then(if id=h then IntKind.i64.wrap (o - p)else if id<h then -1 else 1)else rr a b c d,λk=> ?_⟩;generalize kO w r x y a b id o=e at*;generalize kO j3 z C D c d h p=f at*;refine aK hm QT ?_;refine bp λg i=> ?_;refine cZ λj l a b=> ?_;refine bk (Ft _ _ _ _ _) ?_
 repeat' first|refine aH (λ_=> ?_) λ_=> ?_|trivial
 all_goals simp_all
theorem a2r (c d:List Int) (k o h:Own) (a:Nat) (p:a<=1000000000000) (b:U):AC Tryz.prog 213 [.agg (oQ c d k o h),.v (.int .i64 (a:Int))] b λy z=>z=b/\y= .v (.bool (cO c d a)):=by
 have r:=λb=>vq fT h a b p aaV;simp only[ru]at r;refine aK hm QP ?_;refine bp λC F=> ?_;refine aH (λD=> ?_) λD=> ?_
 .refine aH (λc2=> ?_) λc2=> ?_
  .refine bk (oz _ c d _ _ _ p) ?_;refine aH (λaE=> ?_) λaE=> ?_
   .trivial
   .have E:decide (1<=a/\a<=8)=true:=decide_eq_true aaU;have x:=r (b.set C (.cells (oQ c d k o h)));rw[E]at x;exact bk x trivial
  grind[cO,lv]
 grind[cO,lv]
def gz (k o:U) (a:List R) (c:R):Prop:=
 k.sub o/\(∀p∈a,p.cells.length=41)/\((a= []/\(c= .J [] .nil\/c= .J [] .zero))\/ ∃d h post b,k d=none/\o d=some (.cells (h++flat a++post))/\a.length<=b/\b<=maxLen/\a.length*41+post.length=b*41/\
  ((c= .ao d a.length b 41/\h= [])\/c= .bE d h.length a.length b 41))
def gz.mono {a:R} (c:gz f s g a) (b:s.sub e0):gz f e0 g a:=by obtain⟨d,h,k⟩:=c;refine⟨U.au d b,h,k.imp_right ?_⟩;rintro⟨o,p,post,r,x,y,z⟩;exact⟨o,p,post,r,x,b _ _ y,z⟩
def gz.len (a:gz f s g n):fa n=some (.v (.int .i64 (g.length:Int)))/\n.cells= [n]:=by obtain⟨_,_,⟨rfl,rfl|rfl⟩|⟨b,c,post,d,_,_,_,_,_,⟨rfl,_⟩|rfl⟩⟩:=a<;>exact⟨rfl,rfl⟩
def gz.other {o:bs} (c:gz f s g n) (d:f e=none) (h:cL n≠some e):gz f (s.set e o) g n:=by
 obtain⟨k,p,r⟩:=c;refine⟨U.af k d,p,r.imp_right ?_⟩;rintro⟨a,x,post,y,z,C,D,E,F,b⟩;have G:a≠e:=by rintro rfl;rcases b with ⟨rfl,_⟩|rfl<;>exact h rfl
 exact⟨a,x,post,y,z,by rw[U.an _ _ G];exact C,D,E,F,b⟩
def av.other {o:bs} (b:av f s i g n) (c:f e=none) (d:cL n≠some e):av f (s.set e o) i g n:=by
 obtain⟨h,k⟩:=b;refine⟨U.af h c,k.imp_right ?_⟩;rintro⟨a,p,r,x,rfl,y,z,C⟩;have D:a≠e:=by rintro rfl;exact d rfl
 exact⟨a,p,r,x,rfl,y,by rw[U.an _ _ D];exact z,C⟩
theorem gz.app {E:R}{l:cz t} (m:gz s f g b6) (q:n.cells.length=41) (u:bV f 41 E=some (1,n.cells)) (Q:g.length<=100000000)
  (F: ∀c z,gz s z (g++ [n]) c->(∀a,cL c=some a->cL b6=some a\/f a=none)->(∀a,cL b6≠some a->f a≠none->z a=f a)->t c z):jL 41 152 f b6 E (bX t l):=by
 obtain⟨C,v,w⟩:=m;have G: ∀L∈g++ [n],L.cells.length=41:=λL X=>by
  grind
 have P:flat (g++ [n])=flat g++n.cells:=by simp[flat]
 have S:=cR v;unfold jL;rw[wk u];simp only[bX];have Y: ∀(k o:Nat) (x:List R),f k=none->g.length+1<=o->o<=maxLen->x.length=(o -(g.length+1))*41->t (.ao k (g.length+1) o 41) (f.set k (.cells (flat g++n.cells++x))):=λk o x T r hm Z=>by
  have V:=U.bI C T;refine F _ _ ⟨U.af C V,G,.inr ⟨k,[],x,o,V,?_,?_,hm,?_,.inl ⟨?_,rfl⟩⟩⟩ (λa p=> ?_) λa p A=> ?_
  .rw[U.ai,P];rfl
  .simpa using r
  grind
  .rw[a6A];rfl
  grind[cL,Option.some.injEq]
  .have:a≠k:=by rintro rfl;exact A T
   exact U.an _ _ this
 rcases w with ⟨rfl,B⟩|⟨d,b,post,h,W,e,j9,H,k0,I⟩
 .rcases B with rfl|rfl;simp_all;simp_all
 .have K:g.length+1<=h-> ∃y,putAt (b++flat g++post) (b.length+g.length*41) n.cells=b++flat (g++ [n])++y/\(g.length+1)*41+y.length=h*41:=λr=>by
   refine⟨post.drop 41,?_,by rw[a6R];omega⟩;have D:(b++flat g).length=b.length+g.length*41:=by simp_all
   rw[putAt,<-D,a9k,<-a7p,a9m,q,P];simp
  have i: ∀c,cL b6=some d->cL c=some d->((c= .ao d (g.length+1) h 41/\b= [])\/c= .bE d b.length (g.length+1) h 41)->g.length+1<=h->t c (f.set d (.cells (putAt (b++flat g++post) (b.length+g.length*41) n.cells))):=λc j M N r=>by
   obtain⟨y,D,O⟩:=K r;rw[D];refine F _ _ ⟨U.af C W,G,.inr ⟨d,b,y,h,W,U.ai _ _ _,by simpa using r,H,by simpa using O,?_⟩⟩ (λa p=> .inl ?_) λa p _=> ?_
   .simpa using N
   .rw[M]at p;rw[j];exact p
   .have:a≠d:=by rintro rfl;exact p j
    exact U.an _ _ this
  rcases I with ⟨rfl,rfl⟩|rfl
  .simp only[e];refine⟨trivial,by simp[S];omega,aaU,aaU,?_⟩;split
   .have:=i (.ao d (g.length+1) h 41) rfl rfl (.inl ⟨rfl,rfl⟩) ‹_›;simpa using this
   simp_all
  .simp only[e];refine⟨trivial,by simp[S];omega,aaU,aaU,?_⟩;split
   .exact i (.bE d b.length (g.length+1) h 41) rfl rfl (.inr rfl) ‹_›
   simp_all
abbrev lH (a:Nat) (b c:List Int) (d h k:Own) (o:Nat) (p:R) (r x y:Int) (z:R):List R:=
 [.ptr a 0,.J (ad b) d,.J (ad c) h,.v (.int .u8 0),.v (.int .i64 0),.J [] k,.v (.int .i64 1),.v (.bool false),.v (.int .i64 (o:Int)),p,.v (.int .i64 r),.v (.int .i64 x),.v (.int .i64 y),z]
structure iv where
 gA:Nat
 aT:List Int
 aS:List Int
 gN:Own
 eE:Own
 hD:Own
 d:Nat
structure dM (A:iv) (b c:U) (a:Nat) (us:List R) (L:R) (es:List R) (oR:R):Prop where
 gH:b a=none
 x: ∃n nG d:Int,c a=some (.cells (lH A.gA A.aT A.aS A.gN A.eE A.hD A.d L n nG d oR))
 l:av b c 1 us L
 w:gz b c es oR
 hd:cL L≠some a
 ka:cL oR≠some a
 lw: ∀p,cL L=some p->cL oR≠some p
def dM.mono {c:iv}{d h k:U}{o:Nat}{p:List R}{r:R}{x:List R}{y:R} (a:dM c d h o p r x y) (b:h.sub k):dM c d k o p r x y:=
 ⟨a.gH,by obtain⟨z,C,D,a⟩:=a.x;exact⟨z,C,D,b _ _ a⟩,a.l.mono b,a.w.mono b,a.hd,a.ka,a.lw⟩
theorem dM.set {b:iv}{k o:U}{c:Nat}{p:List R}{d:R}{r:List R}{h:R} (a:dM b k o c p d r h) (x y z:Int):dM b k (o.set c (.cells (lH b.gA b.aT b.aS b.gN b.eE b.hD b.d d x y z h))) c p d r h:=
 ⟨a.gH,⟨x,y,z,U.ai _ _ _⟩,av.other a.l a.gH a.hd,a.w.other a.gH a.ka,a.hd,a.ka,a.lw⟩
def av.has (b:av s f i g n) (a:cL n=some e):f e≠none:=by
 obtain⟨_,⟨_,rfl|rfl⟩|⟨d,h,k,o,rfl,_,c,_⟩⟩:=b
 .cases a
 .cases a
 .obtain rfl:=a6x a;rw[c];simp
def gz.has (a:gz s f g n) (b:cL n=some e):f e≠none:=by
 obtain⟨_,_,⟨_,rfl|rfl⟩|⟨d,h,post,k,_,c,_,_,_,⟨rfl,_⟩|rfl⟩⟩:=a
 .cases b
 .cases b
 all_goals (obtain rfl:=a6x b;rw[c];exact λa=>by cases a)
def av.fY (c:av f e0 e g n) (d:f.sub s) (h: ∀a,cL n=some a->s a=e0 a):av f s e g n:=by obtain⟨C,k⟩:=c;refine⟨d,k.imp_right ?_⟩;rintro⟨b,o,p,r,rfl,x,y,z⟩;exact⟨b,o,p,r,rfl,x,(h b rfl).trans y,z⟩
structure FF (A:iv) (b:U) (c:Nat) (L oR:R) (a:Nat):Prop where
 n:b a=none
 x:a≠c
 l:cL L≠some a
 w:cL oR≠some a
def dM.fresh {d:iv} (a:dM d f s e g n B b6) (b:s i=none):FF d f e n b6 i:=
 ⟨U.bI a.l.1 b,(by obtain⟨_,_,_,h⟩:=a.x;rintro rfl;rw[b]at h;cases h),(λc=>av.has a.l c b),λc=>a.w.has c b⟩
def dM.wr {c:iv} (a:dM c f s e g n B b6) (b:FF c f e n b6 i) (d:bs):dM c f (s.set i d) e g n B b6:=
 ⟨a.gH,(by obtain⟨h,k,o,p⟩:=a.x;exact⟨h,k,o,(U.an _ _ b.x.symm).trans p⟩),av.other a.l b.n b.l,a.w.other b.n b.w,a.hd,a.ka,a.lw⟩
def rz (p:g.length=37) (a b c d:R):(g++ [a,b,c,d]).length=41/\(g++ [a,b,c,d]).take 41=g++ [a,b,c,d]/\(∀h o,putAt (g++ [a,b,c,d]) 37 [h,o]=g++ [h,o,c,d])/\(∀h,putAt (g++ [a,b,c,d]) 39 [h]=g++ [a,b,h,d])/\ ∀h,putAt (g++ [a,b,c,d]) 40 [h]=g++ [a,b,c,h]:=by
 have r: ∀k,(g++ [a,b,c,d]).take (37+k)=g++ [a,b,c,d].take k:=λk=>by rw[a9r,p,a6z aaU,a9e]
 have x: ∀k,(g++ [a,b,c,d]).drop (37+k)= [a,b,c,d].drop k:=λk=>by rw[a8b,p,a7n aaU,a6T,a9e]
 have y:(g++ [a,b,c,d]).length=41:=by rw[a6A,p];rfl
 refine⟨y,a6z aaU,λh o=> ?_,λh=> ?_,λh=> ?_⟩
 .show(g++ [a,b,c,d]).take (37+0)++ [h,o]++(g++ [a,b,c,d]).drop (37+2)= _;rw[r,x];simp
 .show(g++ [a,b,c,d]).take (37+2)++ [h]++(g++ [a,b,c,d]).drop (37+3)= _;rw[r,x];simp
 .show(g++ [a,b,c,d]).take (37+3)++ [h]++(g++ [a,b,c,d]).drop (37+4)= _;rw[r,x];simp
abbrev zW:List R:=List.replicate 32 (R.v (.int .u8 0))++ [.J [] .nil,.J [] .nil]++ [.v (.int .i64 0),.v (.int .i64 0)]++ [.J [] .nil]++ [.v (.int .u64 0),.v (.int .u64 0)]++ [.v (.int .i64 0),.v (.int .i64 0)]
def a2s (a:g.length=37):putAt zW 0 g=g++ [.v (.int .u64 0),.v (.int .u64 0),.v (.int .i64 0),.v (.int .i64 0)]:=by rw[putAt,a];rfl
theorem FG (a:iv) (k0 e:U) (c:Nat) (k1:List R) (f:R) (z:List R) (u:R) (C:dM a k0 e c k1 f z u) (b:aq) (D E F:Own) (v:b.sum.length=32) (n5:b.cv) (a48:a.aT.length<=8) (a52:z.length<=100000000):
  AC Tryz.prog 214 [.ptr c 0,.agg (ab b D E F)] e λ_ k2=> ∃n9 w,dM a k0 k2 c k1 f w n9/\if ey a.aT a.aS b=true then∃k3,ry b k3/\w=z++ [k3]else w=z:=by
 obtain⟨g,i,h,A⟩:=C.x;have a00:=(aP (N:=D) (e5:=E) (h6:=F) v).all;refine aK hm QR ?_;refine bp λj a01=> ?_;have k4:j≠c:=by rintro rfl;rw[a01]at A;cases A
 have a56:=k4.symm;rw[hR];generalize B:e.set j _=G;have k5:e.sub G:=by subst B;exact aO
 have cl:G j=some (.cells (ab b D E F)):=by subst B;exact U.ai _ _ _
 have k6:=C.mono k5;have H:=k5 _ _ A;clear B;generalize I:ab b D E F=L at*;have a02:=U.ae cl;have eJ:=U.ae H;have a03:=U.aI H;refine aa ?_;rw[<-I];refine bk (a2o a.aT a.aS _ _ _ _ _ _ b v aaU G) ?_;rw[I];refine aH (λK=> ?_) λK=> ?_;grind;have a57:br .add (.int .i64 h) (.int .i64 1)=some (.int .i64 (IntKind.i64.wrap (h+1))):=rfl;obtain⟨a61,a62⟩:=C.w.len;have a63:=fJ C.l;have r:=a00.1;have a04:=a2s r;obtain⟨a05,_,_,_,M⟩:=rz r (.v (.int .u64 0)) (.v (.int .u64 0)) (.v (.int .i64 0)) (.v (.int .i64 0));have M:=M (.v (.int .i64 (IntKind.i64.wrap (h+1))));have a06:=(rz r (.v (.int .u64 0)) (.v (.int .u64 0)) (.v (.int .i64 0)) (.v (.int .i64 (IntKind.i64.wrap (h+1))))).1;have a65:=(rz r (.v (.int .u64 0)) (.v (.int .u64 0)) (.v (.int .i64 0)) (.v (.int .i64 (IntKind.i64.wrap (h+1))))).2.1;generalize l:R.v (.int .i64 (IntKind.i64.wrap (h+1)))=T at*;generalize a68:L++ [R.v (.int .u64 0),.v (.int .u64 0),.v (.int .i64 0),.v (.int .i64 0)]=a69 at*;generalize a07:L++ [R.v (.int .u64 0),.v (.int .u64 0),.v (.int .i64 0),T]=P at*;have a71:T.cells= [T]:=by subst l;rfl
 refine aa ?_;have m:=k6.set g i (IntKind.i64.wrap (h+1));simp only[lH,l]at m;refine aN λx o=> ?_;have a08:=m.fresh o;have a09:j≠x:=by rintro rfl;rw[U.an _ _ k4,cl]at o;cases o
 have a73:=a09.symm;have k7:c≠x:=by rintro rfl;rw[U.ai]at o;cases o
 have a74:=k7.symm;refine aa ?_;have hm:jY a.aT a.aS b.aT b.aS=true:=by rw[ey,a6B]at K;exact K.2
 obtain⟨k8,a10⟩:=FE hm;have k9:=U.ai G c (.cells [.ptr a.gA 0,.J (ad a.aT) a.gN,.J (ad a.aS) a.eE,.v (.int .u8 0),.v (.int .i64 0),.J [] a.hD,.v (.int .i64 1),.v (.bool false),.v (.int .i64 (a.d)),f,.v (.int .i64 g),.v (.int .i64 i),T,u]);generalize G.set c _=l0 at*;have l1:=m.mono (U.af (X:= .cells P) U.a6 o);have l2:=U.af (X:= .cells P) U.a6 o _ _ k9;have l3:=U.ai l0 x (.cells P);generalize l0.set x _=a81 at*;clear k9 o m eJ a03 H k6 cl a02 C a04 a05 M a06;refine gs (Fv _ a.aT a.aS b.aT b.aS _ _ _ _ aaU) λa11 n=> ?_;refine aN λN p=> ?_;have a13:=l1.mono (U.au n (U.af (X:= .cells [.J (ad (gy a.aT a.aS b.aT b.aS).1) .any,.J (ad (gy a.aT a.aS b.aT b.aS).2) .any]) U.a6 p));have q:=n _ _ l2;have s:=n _ _ l3;have l4:c≠N:=by rintro rfl;rw[q]at p;cases p
 have a14:=l4.symm;have l5:x≠N:=by rintro rfl;rw[s]at p;cases p
 have a15:=l5.symm;have a16:=U.ae q;have a18:=U.ae s;refine aa ?_;generalize a83:(gy a.aT a.aS b.aT b.aS).1=S at*;generalize (gy a.aT a.aS b.aT b.aS).2=O at*;have l6:=U.af (X:= .cells [.J (ad S) .any,.J (ad O) .any]) U.a6 p _ _ q;have a19:=U.af (X:= .cells [.J (ad S) .any,.J (ad O) .any]) U.a6 p _ _ s;generalize a11.set N _=Q at*;refine bk (Fz a.hD _ _ S O Q k8) ?_;obtain⟨y,a27⟩: ∃X,nN (S.getD 0 0)=X:=⟨_,rfl⟩;obtain⟨id,a29⟩: ∃X,S.getD 0 0=X:=⟨_,rfl⟩;rw[a29]at a27;clear a16 a18 p l4 l5 a14 a15 q s n l2 l3 l1 k8 a10;have a84:=U.aI a19;have a86:=U.ae l6;have a88:P.length=41:=by grind
 have a89:putAt P 37 [.v (.int .u64 0),.v (.int .u64 (y))]=L++ [.v (.int .u64 0),.v (.int .u64 (y)),.v (.int .i64 0),T]:=by subst a07;exact(rz r _ _ _ _).2.2.1 _ _
 obtain⟨a90,_,_,l7,_⟩:=rz r (.v (.int .u64 0)) (.v (.int .u64 (y))) (.v (.int .i64 0)) T;have l7:=l7 (.v (.int .i64 id));obtain⟨l8,a92,_⟩:=rz r (.v (.int .u64 0)) (.v (.int .u64 (y))) (.v (.int .i64 id)) T;generalize L++ [R.v (.int .u64 0),.v (.int .u64 (y)),.v (.int .i64 0),T]=a94 at*;generalize a30:L++ [R.v (.int .u64 0),.v (.int .u64 (y)),.v (.int .i64 id),T]=k at*;refine aa ?_;have a34:=a13.wr a08 (.cells k);have a36:(Q.set x (.cells k)) c=some (.cells [.ptr a.gA 0,.J (ad a.aT) a.gN,.J (ad a.aS) a.eE,.v (.int .u8 0),.v (.int .i64 0),.J [] a.hD,.v (.int .i64 1),.v (.bool false),.v (.int .i64 (a.d)),f,.v (.int .i64 g),.v (.int .i64 i),T,u]):=(U.an _ _ k7).trans l6;generalize Q.set x _=l9 at*;refine eK (by simp[aW,hR,l8]) aaV λY n0=> ?_;have d:=a34.mono (U.af (X:= .cells (flat [R.agg k])) U.a6 n0);have t:=U.af (X:= .cells (flat [R.agg k])) U.a6 n0 _ _ a36;have a38:bV (l9.set Y (.cells (flat [R.agg k]))) 41 (.ao Y 1 1 41)=some (1,(R.agg k).cells):=by simp_all [flat,U.ae,U.ai,hR,bV]
 generalize l9.set Y _=a42 at*;have eJ:=U.ae t;refine aa ?_;refine gz.app (n:= .agg k) d.w l8 a38 aaU λn1 k2 Z n2 n3=> ?_;have a43:=(n3 c d.ka (by rw[t];simp)).trans t;have a95:=U.aI a43;have a96:=Z.len.2;refine aa ?_;have a47:a42 c≠none:=by rw[t];simp
 have n4:cL n1≠some c:=λj9=>(n2 c j9).elim d.ka a47;refine⟨_,U.a6,n1,z++ [.agg k],⟨d.gH,⟨g,i,IntKind.i64.wrap (h+1),by subst l;exact U.ai _ _ _⟩,av.other (av.fY d.l Z.1 λV W=>n3 V (d.lw V W) (av.has d.l W)) d.gH d.hd,Z.other d.gH n4,d.hd,n4,λV W j9=>(n2 V j9).elim (d.lw V W) (av.has d.l W)⟩,.agg k,⟨v,n5,D,E,F,0,y,id,IntKind.i64.wrap (h+1),?_⟩,rfl⟩;subst l;subst a30;subst I;rfl
def av.wide (p:av s f e g n): ∃o,av o f e g n/\s.sub o/\o.sub f/\ ∀k b,f k=some b->cL n≠some k->o k=some b:=by
 obtain⟨r,x|⟨d,y,z,C,rfl,D,E⟩⟩:=p
 .exact⟨f,⟨U.a6,.inl x⟩,r,U.a6,λ_ _ p _=>p⟩
 .refine⟨f.del d,⟨λh b a=> ?_,.inr ⟨d,y,z,C,rfl,U.iB _ _,E⟩⟩,λh b a=> ?_,λh b a=> ?_,λk b F G=> ?_⟩
  .have c:h≠d:=by rintro rfl;rw[U.iB]at a;cases a
   rwa[U.eH _ c]at a
  .have c:h≠d:=by rintro rfl;rw[D]at a;cases a
   rw[U.eH _ c];exact r h b a
  .have c:h≠d:=by rintro rfl;rw[U.iB]at a;cases a
   rwa[U.eH _ c]at a
  .have c:k≠d:=by rintro rfl;exact G rfl
   rw[U.eH _ c];exact F
def av.fresh (b:av f s i g n) (a:cL n=some e):f e=none:=by
 obtain⟨_,⟨_,rfl|rfl⟩|⟨d,h,k,o,rfl,c,_⟩⟩:=b
 .cases a
 .cases a
 .obtain rfl:=a6x a;exact c
def gz.fY (h:gz f e0 g n) (k:f.sub s) (o: ∀a b,cL n=some a->e0 a=some b->s a=some b):gz f s g n:=by obtain⟨G,p,r⟩:=h;refine⟨k,p,r.imp_right ?_⟩;rintro⟨c,x,post,y,z,C,D,E,F,d⟩;refine⟨c,x,post,y,z,o c _ ?_ C,D,E,F,d⟩;rcases d with ⟨rfl,_⟩|rfl<;>rfl
theorem aB.flat {b:List (List Int)}{a:List R} (h:aB isRow b a):flat a=a:=by
 induction a generalizing b with
 |nil=>rfl
 |cons o a ih=>
  match b,h with
  |c::b,⟨⟨d,h1⟩,k⟩=>subst h1;rw[show Go.bD.flat (R.J (ad c) d::a)= [R.J (ad c) d]++Go.bD.flat a from rfl,ih k];rfl
theorem a2t (a:iv) (n F:U) (y:Nat) (V:List R) (o:List (List Int)) (G:R) (q:List R) (L:R) (r:dM a n F y V G q L) (s:aB isRow o V) (n2: ∀b∈o,b.length=a.d) (Q:1<=a.d) (X:a.d<=8) (n3:a.aT.length=a.d) (n4:o.length<=1) (b:List Int) (P:Bool) (c:Own) (n5:b.length=a.d):
  AC Tryz.prog 218 [.ptr y 0,.agg [.J (ad b) c,.v (.bool P)]] F λ_ Y=> ∃t D Z,dM a n Y y t Z q L/\aB isRow D t/\if(P&&jo a.aT a.aS b)=true then∃h,D= [h]/\(h=b\/h∈o)else D=o:=by
 obtain⟨j9,k0,k1,S⟩:=r.x;refine aK hm QX ?_;refine bp λW k2=> ?_;rw[hR];have k3:W≠y:=by rintro rfl;rw[k2]at S;cases S
 have n9:=k3.symm;generalize e:F.set W _=E;have u:F.sub E:=by subst e;exact aO
 have cl:E W=some (.cells [.J (ad b) c,.v (.bool P)]):=by subst e;exact U.ai _ _ _
 have k4:=r.mono u;have f:=u _ _ S;clear e;have a00:=U.ae cl;have eJ:=U.ae f;have a01:=U.aI f;cases P with
 |false=>refine aa ?_;grind
 |true=>
 refine aa ?_;refine bk (a1L E a.aT a.aS b _ _ _ aaU) ?_;refine aH (λk5=> ?_) λk5=> ?_;grind;refine eK (by simp[aW,R.cells]) aaV λg v=> ?_;have k:=k4.mono (U.af (X:= .cells (flat [R.J (ad b) c])) U.a6 v);have w:=U.af (X:= .cells (flat [R.J (ad b) c])) U.a6 v _ _ f;have k6:bV (E.set g (.cells (flat [R.J (ad b) c]))) 1 (.ao g 1 1 1)=some (1,[R.J (ad b) c]):=nC rfl;generalize E.set g _=A at*;have a02:=fJ r.l;have B:=s.len;obtain⟨a03,k7,H,a04,i⟩:=av.wide k.l;refine aa ?_;refine fb k7 aaU k6 rfl (by simp[B];omega) (by simp[B];omega) λk8 I z=> ?_;have j:=z.1 _ _ (i y _ w k.hd);have a05:=U.ae j;refine aa ?_;have l:aB isRow (o++ [b]) (V++ [.J (ad b) c]):=s.snoc ⟨c,rfl⟩;have k9:=bJ.dv z aaU l.flat.symm (l.cells λ_ _=>isRow.cells);refine ah (a2m a.hD a.d Q X (o++ [b]) _ k8 I k9 l (λa06 S=> ?_) aaW aaV) ?_;grind;rintro l0 l1 ⟨l2,D,p,K,M⟩;have l3:=M.1 _ _ j;have a07:=U.ae l3;refine aa ?_;refine ah (a2n a.aT a.aS a.gN a.eE a.hD I l1 _ l0 M) ?_;rintro T l4 x;have a08:=fJ x;have N:=x.1 _ _ j;have a09:=U.aI N;have a10:=U.ae N;refine aa ?_;rw[K.flat]at x;have l5: ∀ {h c},A h=some c->cL G≠some h->l4 h=some c:=λr m=>x.1 _ _ (z.1 _ _ (i _ _ r m));have l6:=U.au H (U.au z.1 x.1);have l7: ∀ {d},cL T=some d-> ∀ {c},A d=some c->cL G≠some d->False:=λp _ r m=>by
  have:=av.fresh x p;rw[z.1 _ _ (i _ _ r m)]at this;cases this
 have O:cL T≠some y:=λC=>l7 C w k.hd;have l8: ∀d,cL L=some d->cL G≠some d:=λd p C=>k.lw d C p;have l9: ∀d,cL T=some d->cL L≠some d:=λd p C=>by
  have a11:=k.w.has C;simp_all [Option.ne_none_iff_exists']
 have n0:D≠ []:=λC=>by simp_all
 obtain⟨h,a13,rfl⟩:=a8F n0;refine⟨_,U.a6,l2.take 1,[h],T,⟨k.gH,⟨j9,k0,k1,U.ai _ _ _⟩,av.other (x.base (U.au H z.1)) k.gH O,(gz.fY k.w l6 λd c p n1=>l5 n1 (l8 d p)).other k.gH k.ka,O,k.ka,l9⟩,K.take 1,h,rfl,?_⟩;have:h∈o++ [b]:=p.mem_iff.1 aaV;grind
theorem a2u (a:iv) (L p:U) (r:Nat) (z:List R) (x:List (List Int)) (C:R) (P:List R) (S:R) (D:dM a L p r z C P S) (y:aB isRow x z) (j: ∀b∈x,b.length=a.d) (H:a.d<=8) (I:a.aT.length=a.d) (c:aq) (d h k:Own) (T:c.sum.length=32):
  AC Tryz.prog 217 [.ptr r 0,.agg (ab c d h k)] p λb l=>dM a L l r z C P S/\ ∃V,b= .v (.bool V)/\(V=true->x.length=1):=by
 obtain⟨K,M,N,E⟩:=D.x;have O:=(aP (N:=d) (e5:=h) (h6:=k) T).all;have m:=y.len;obtain⟨Q,W,_,X⟩:=D.l.src;rw[a7s,m]at W;subst W;refine aK hm QV ?_;refine bp λF n=> ?_;rw[hR];have q:F≠r:=by rintro rfl;rw[n]at E;cases E
 have Y:=q.symm;generalize G:p.set F _=o;have e:p.sub o:=by subst G;exact aO
 have cl:o F=some (.cells (ab c d h k)):=by subst G;exact U.ai _ _ _
 have s:=D.mono e;have t:=e _ _ E;clear G;generalize u:ab c d h k=Z at*;have j9:=U.ae cl;have eJ:=U.ae t;refine aa ?_;refine aH (λv=> ?_) λv=> ?_
 .obtain⟨b,rfl⟩:=a8B.1 (show x.length=1 by omega);have w:=bJ.dv s.l aaU y.flat.symm (y.cells λ_ _=>isRow.cells);obtain⟨_,A,f,rfl⟩:=y.get (i:=0) rfl;obtain⟨g,i,B⟩:=w.get 0 _ A;have i:cC 1 C (.v (.int .i64 0))=some g:=i;have k0:cY false 1 o g=some (.J (ad b) f):=B.ld o U.a6 false 1 aaU (by simp[R.cells]);have k1:=j b aaV;have k2:((1:Nat):Int) - 1=0:=rfl;refine aa ?_;rw[<-u];refine bk (a2p a.aT a.aS a.gN a.eE a.hD d h k f c b T aaU aaU o) ?_;grind
 grind
variable{X j8:bs}
def Ext.dZ (c:Ext i v f s) (d:f e=none):Ext i v f (s.set e X):=λb h k o a=>by
 have p:b≠e:=by rintro rfl;rw[d]at a;cases a
 rw[U.an _ _ p];exact c b h k o a
def ck (a:List Int×Bool) (b c:aq):bY:=⟨1,[a],[b,c]⟩
def vy (h:U) (k o:Nat) (p:ag) (V:bq h k o p) (c:List Int×Bool) (a b:aq) (W r x y z C D:Own) (d:Nat) (s:1<=d) (t:d<=8) (e:a.sum.length=32) (f:b.sum.length=32) (u:a.cv) (v:b.cv):
  AC Tryz.prog 220 [dJ k d,.agg [.J (ad c.1) W,.v (.bool c.2)],.agg (ab a r x y),.agg (ab b z C D)] h λg i=>bq i k o (dB p d (ck c a b)).2/\Ext k o h i/\gR (dB p d (ck c a b)).1 g:=by
 have w:=(aP (N:=r) (e5:=x) (h6:=y) e).all;have A:=(aP (N:=z) (e5:=C) (h6:=D) f).all;have B:bB a (.agg (ab a r x y)):=⟨e,u,_,_,_,rfl⟩;have H:bB b (.agg (ab b z C D)):=⟨f,v,_,_,_,rfl⟩;generalize ab a r x y=I at*;generalize ab b z C D=K at*;refine aK hm R0 ?_;refine bp λM k1=> ?_;refine cZ λN k2 k3 k4=> ?_;refine ha λO k5 k6 k7 k8 k9=> ?_;refine xC λQ l0 _ _ _ _ _ _=> ?_;refine Yo λE j _ _ _ _ _ _ _ _=> ?_;refine Yq λX l1 _ _ _ _ _ _ _ _ _ _=> ?_;refine Yr λY l2 _ _ _ _ _ _ _ _ _ _ _ _=> ?_;generalize F:((((((h.set M _).set N _).set O _).set Q _).set E _).set X _).set Y _=G;have l:h.sub G:=by subst F;exact aO
 have Z:G E=some (.cells (ab az .nil .nil .nil)):=by subst F;rw[<-ch];exact aO
 clear F;have l3:=(aP (N:= .nil) (e5:= .nil) (h6:= .nil) bj).len;refine ah (yh G k o p (V.mono l) (ck c a b) [.agg [.J (ad c.1) W,.v (.bool c.2)]] [.agg I,.agg K] _ _ d s t ⟨⟨⟨_,rfl⟩,trivial⟩,⟨B,H,trivial⟩,bJ.J (by simp[aW,R.cells]),bJ.J (by simp[aW,R.cells,w.1,A.1]),by simp[ck],by simp[ck]⟩) ?_;rintro g l4 ⟨j9,m,k0⟩;have L:=(V.cA j);have l5:=U.aI (m E _ L.1 L.2 Z);obtain⟨n,P,S,T,l6,q,rfl⟩:=k0.shape;have l7:=(aP (N:=P) (e5:=S) (h6:=T) q).all;have l8:putAt (ab az .nil .nil .nil) 0 (ab n P S T)=ab n P S T:=cy bj q;refine aa ?_;exact⟨_,U.a6,j9.set L,((Ext.of l).trans m).dZ j⟩
def kP (b:ag) (c:Nat) (d:aq):Option ((List Int×Bool)×List aq):=
 match dA b c d with
 |none=>none
 |some a=>if a.kind=1 then some (a.rows.headD ([],false),a.kids)else none
variable{b4:bY}{H:ag}
theorem FH (a:dA H e w=some b4):dQ e b4=true:=by
 unfold dA at a;split at a
 .cases a
 split at a
 .cases a
 rename_i c d b;split at a
 .obtain rfl:=a6x a;unfold ou at b;grind
 .cases a
theorem FI (b:dQ e b4=true) (c:b4.kind=1):b4.rows.length=1/\b4.kids.length=2/\ ∀a∈b4.kids,a.key.length=0:=by simp_all [dQ]
def a2v (b c:U) (d:List aq) (h:R):Prop:= ∃a,av b c 37 (flat a) h/\aB bB d a
def zj (d:U) (G l:Nat) (y:ag) (A:bq d G l y) (h:aq) (L P S:Own) (m:h.sum.length=32) (B:h.cv) (a:Nat) (H:1<=a) (I:a<=8):
  AC Tryz.prog 221 [dJ G a,.agg (ab h L P S)] d λT b=>d.sub b/\match kP y a h with
   |none=>T= .aJ [.agg [.J [] .nil,.v (.bool false)],.J [] .nil,.v (.int .i64 21)]
   |some (k,bF)=> ∃K z,T= .aJ [.agg [.J (ad k.1) K,.v (.bool k.2)],z,.v (.int .i64 0)]/\bF.length=2/\a2v d b bF z:=by
 have k7:=(aP (N:=L) (e5:=P) (h6:=S) m).all;refine aK hm R2 ?_;refine bp λM k8=> ?_;refine cZ λN k9 _ _=> ?_;refine ha λC n _ _ _ _=> ?_;generalize V:((d.set M _).set N _).set C _=W;have o:d.sub W:=by subst V;exact aO
 have p:W C=some (.cells [.J [] .nil,.v (.bool false)]):=by subst V;exact aO
 clear V;refine ah (uV W G l y (A.mono o) h L P S m B a H I) ?_;rintro T O ⟨D,E⟩;have Q:=U.aI (D _ _ p);rw[kP];cases e:dA y a h with
 |none=>
  rw[e]at E;obtain rfl:=E;refine aa ?_;refine aN λf c=> ?_;have a:C≠f:=by rintro rfl;rw[D _ _ p]at c;cases c
  have X:=a6I a;refine aa ?_;exact U.af (U.au o D) (U.bI (U.au o D) c)
 |some r=>
  rw[e]at E;obtain⟨k,z,rfl,F⟩:=E;refine aa ?_;refine aN λf c=> ?_;have a:C≠f:=by rintro rfl;rw[F.sub _ _ p]at c;cases c
  have X:=a6I a;have Q:=U.aI (F.sub _ _ p);have q:=U.au o F.sub;have g:(r.kind=1)↔(r.kind.toNat:Int)=1:=by rw[<-a7v];show r.kind.toNat=1↔ _;omega
  by_cases x: ¬r.kind=1
  .have:=mt g.2 x;exact aO
  have x:=Decidable.not_not.1 x;have l0:=g.1 x;clear g;obtain⟨Y,l1,_⟩:=FI (FH e) x;obtain⟨l2,l3,Z,i,s,t,j9,_⟩:=F;obtain⟨l4,l5,l6⟩:=r
  dsimp only at*
  obtain⟨u,rfl⟩:=a8B.1 Y;have k0:=(bJ.dv i aaU rfl (t.cells λ_ _=>cT.cells)).mono s.1;obtain⟨l7,k1,k2,rfl⟩:=t.get (i:=0) rfl;obtain⟨v,w,k3⟩:=k0.get 0 _ k1;have k4:=λb j=>k3.ld b j true 2 aaU (by simp[R.cells]);have w:cC 2 k (.v (.int .i64 0))=some v:=w;have k5: ∀b,O.sub b->cY true 2 b v=some (.agg [.J (ad u.1) k2,.v (.bool u.2)]):=λb j=>k4 b j;have l8:=k5 _ (U.af (X:= .cells [.v (.int .u8 1),k,z]) U.a6 c);refine aa ?_;refine⟨_,U.a6,U.af (U.af q (U.bI q c)) n,?_⟩;have k6:=U.au o i.1;exact⟨_,_,rfl,Z,(jP (s.mono (U.af U.a6 c)) (i.1 _ _ p)).base (U.af k6 n),j9⟩
theorem dM.base {c:iv}{d h k:U}{o:Nat}{p:List R}{r:R}{x:List R}{y:R} (a:dM c h k o p r x y) (b:d.sub h):dM c d k o p r x y:=by refine⟨U.bI b a.gH,a.x,a.l.base b,?_,a.hd,a.ka,a.lw⟩;obtain⟨z,C,D⟩:=a.w;refine⟨U.au b z,C,D.imp_right ?_⟩;rintro⟨E,F,post,G,L,P⟩;exact⟨E,F,post,G,U.bI b L,P⟩
noncomputable def res (b:Nat->Prop) (c:U):U:=λa=>open Classical in if b a then none else c a
variable{j6:Nat -> Prop}
theorem rA (a:j6 e):res j6 f e=none:=if_pos a
theorem oS (a: ¬j6 e):res j6 f e=f e:=if_neg a
theorem FJ:(res j6 f).sub f:=λa b c=>by
 grind[rA,oS]
def FK (c:f.sub s):(res j6 f).sub (res j6 s):=λd h a=>by
 by_cases b:j6 d
 .rw[rA b]at a;cases a
 .rw[oS b]at a|-;exact c _ _ a
def av.res {a:Nat->Prop}{c d:U}{h:Nat}{k:List R}{b:R} (r:av c d h k b) (x: ∀o,cL b=some o-> ¬a o):av (res a c) (res a d) h k b:=by obtain⟨y,z⟩:=r;refine⟨FK y,z.imp_right ?_⟩;rintro⟨p,C,D,E,rfl,F,G,L⟩;have:=x p rfl;exact⟨p,C,D,E,rfl,by rw[oS this];exact F,by rw[oS this];exact G,L⟩
def kb (b:Nat) (c d:R) (a:Nat):Prop:=a=b\/cL c=some a\/cL d=some a
def dM.wide {r:iv} (a:dM r s f e g n B b6):dM r (res (kb e n b6) f) f e g n B b6/\s.sub (res (kb e n b6) f):=by
 have z:s.sub (res (kb e n b6) f):=λC S b=>by
  have: ¬kb e n b6 C:=by
   rintro(rfl|c|c)
   .rw[a.gH]at b;cases b
   .rw[av.fresh a.l c]at b;cases b
   .obtain⟨_,_,⟨_,rfl|rfl⟩|⟨d,x,post,h,k,_,_,_,_,⟨rfl,_⟩|rfl⟩⟩:=a.w
    .cases c
    .cases c
    all_goals (obtain rfl:=a6x c;rw[k]at b;cases b)
  rw[oS this];exact a.l.1 _ _ b
 refine⟨⟨rA (.inl rfl),a.x,?_,?_,a.hd,a.ka,a.lw⟩,z⟩
 .obtain⟨_,o⟩:=a.l;refine⟨FJ,o.imp_right ?_⟩;rintro⟨d,D,h,E,rfl,k,p⟩;exact⟨d,D,h,E,rfl,rA (.inr (.inl rfl)),p⟩
 .obtain⟨_,o,F⟩:=a.w;refine⟨FJ,o,F.imp_right ?_⟩;rintro⟨d,x,post,h,k,p,G,L,P,y⟩;refine⟨d,x,post,h,rA (.inr (.inr ?_)),p,G,L,P,y⟩;rcases y with ⟨rfl,_⟩|rfl<;>rfl
def dM.sort {r:iv} (a:dM r s f e B b6 g n) (q:g≠ []): ∃b c post,f=W f b c post g/\oN 41 n b c.length g.length/\b≠e/\ ∀d,d.Perm g->dM r s (W f b c post d) e B b6 d n:=by
 obtain⟨E,F,⟨h,_⟩|⟨b,c,post,G,o,L,P,S,T,p⟩⟩:=a.w
 .trivial
 have x:cL n=some b:=by rcases p with ⟨rfl,_⟩|rfl<;>rfl
 have y:b≠e:=by rintro rfl;exact a.ka x
 refine⟨b,c,post,(U.tb L).symm,⟨λz t=> ?_,a.w.len.1,a.w.len.2⟩,y,λd k=>⟨a.gH,?_,?_,⟨U.af E o,λh V=>F h (k.mem_iff.1 V),.inr ⟨b,c,post,G,o,U.ai _ _ _,by rw[k.length_eq];exact P,S,by rw[k.length_eq];exact T,by rw[k.length_eq];exact p⟩⟩,a.hd,a.ka,a.lw⟩⟩
 .have C:(0)<=(z:Int):=aaU;have D:(z:Int)<g.length:=aaU;rcases p with ⟨rfl,rfl⟩|rfl
  .rw[jJ C D,a6X,a6G,a7c]
  .rw[u7 C D,a6X]
 .obtain⟨i,j,l,m⟩:=a.x;exact⟨i,j,l,(U.an _ _ y.symm).trans m⟩
 .refine av.other a.l o λh=>a.lw _ h x
theorem dM.tail {a:iv}{z:R} (h:dM a s f e B b6 (n::g) z): ∃b,cn 41 z (some (.v (.int .i64 1))) none none=some b/\b.cells= [b]/\(∀p r x,dM a s (f.set e (.cells (lH a.gA a.aT a.aS a.gN a.eE a.hD a.d b6 p r x b))) e B b6 g b)/\
  ∃c o,cC 41 z (.v (.int .i64 0))=some (.ptr c o)/\cY true 37 f (.ptr c o)=some (.agg (n.cells.take 37)):=by
 obtain⟨l,P,⟨m,_⟩|⟨c,k,post,d,q,S,T,M,t,E⟩⟩:=h.w
 .cases m
 have V:cL z=some c:=by rcases E with ⟨rfl,_⟩|rfl<;>rfl
 have N:c≠e:=by rintro rfl;exact h.ka V
 have W:=P n aaV;have u:flat (n::g)=n.cells++flat g:=rfl;rw[a6E]at T t E;have C: ∀b:R,(cL b=none\/cL b=some c)->((g= []/\(b= .J [] .nil\/b= .J [] .zero))\/b= .bE c (k++n.cells).length g.length (d - 1) 41)-> ∀p r x,dM a s (f.set e (.cells (lH a.gA a.aT a.aS a.gN a.eE a.hD a.d b6 p r x b))) e B b6 g b:=λb v F p r x=>by
  have i:cL b≠some e:=λy=>by simp_all
  have w:gz s f g b:=by refine⟨l,λA H=>P A (by simp[H]),F.imp_right λF=> ?_⟩;refine⟨c,k++n.cells,post,d - 1,q,?_,aaU,aaU,aaU,.inr F⟩;rw[S,u];simp
  exact⟨h.gH,⟨p,r,x,U.ai _ _ _⟩,av.other h.l h.gH h.hd,w.other h.gH i,h.hd,i,λO I y=>by
   rcases v with G|G
   .rw[G]at y;cases y
   .rw[G]at y;obtain rfl:=a6x y;exact h.lw _ I V⟩
 have D: ∀o,o=k.length->cY true 37 f (.ptr c o)=some (.agg (n.cells.take 37)):=λo K=>by
  subst K;have Q:=U.ae S;have X:k.length+37<=(k++flat (n::g)++post).length:=by grind
  simp_all [cY,aL,a8f]
 rcases E with ⟨rfl,rfl⟩|rfl
 .by_cases j:1<d
  .refine⟨.bE c (1*41) (g.length+1 - 1) (d - 1) 41,gm (e:=1) aaU T j,rfl,C _ (.inr rfl) (.inr ?_),c,0,?_,D 0 rfl⟩
   .simp[W]
   .exact jJ aaU aaU
  .obtain rfl:d=1:=aaU;have L:g= []:=a6F aaU;subst L;refine⟨.J [] .zero,um rfl,rfl,C _ (.inl rfl) (.inl ⟨rfl,.inr rfl⟩),c,0,?_,D 0 rfl⟩;rfl
 .by_cases j:1<d
  .refine⟨.bE c (k.length+1*41) (g.length+1 - 1) (d - 1) 41,?_,rfl,C _ (.inr rfl) (.inr ?_),c,k.length,?_,D _ rfl⟩
   .have Y:(1)<=((g.length+1:Nat):Int):=aaU;have c2:((g.length+1:Nat):Int)<=d:=aaU;have aE:(1:Int)<d:=aaU;simp_all [cn,cE,Go.bD.intOf]
   .simp[W]
   grind[u7]
  .obtain rfl:d=1:=aaU;have L:g= []:=a6F aaU;subst L;refine⟨.J [] .zero,?_,rfl,C _ (.inl rfl) (.inl ⟨rfl,.inr rfl⟩),c,k.length,?_,D _ rfl⟩
   .rfl
   rfl
section
variable (S:ag) (d:Nat) (lo hi:List Int)
inductive mH:aq->aq->Prop
 |refl (k:aq):mH k k
 |step {k a b:aq}{n:bY} (h:dA S d k=some n) (hk:a∈n.kids) (c:ey lo hi a=true) (o:mH a b):mH k b
def nP (h:aq) (a:List Int):Prop:= ∃b c,mH S d lo hi h b/\dA S d b=some c/\(a,true)∈c.rows/\jo lo hi a=true
end
def bQ (a:aq):Nat:=2*a.size.toNat - 1
theorem zk (d h:List Int) (c:Nat): ∀(b:List aq),(∀a∈b,ey d h a=true->1<=a.size)->(∀a∈b,(c:Int)<=a.size)->c<=1->((((b.filter (ey d h)).map bQ).sum:Nat):Int)+(b.length:Int)*c<=2*(b.map aq.size).sum/\0<=(b.map aq.size).sum
 | [],_,_,_=>by simp
 |a::b,o,p,he=>by
  have ih:=zk d h c b (λa k=>o a (by simp[k])) (λa k=>p a (by simp[k])) he;have r:=o a aaV;have x:=p a aaV;rw[a9L,a6Q,a7Q,a6E];grind[Int.natCast_add,Int.add_mul,bQ]
theorem zl (a:ey q b8 w=true):w.live≠0:=by rw[ey,a6B]at a;simp_all
def lI (a:w.sum.length=32):putAt (List.replicate 32 (R.v (.int .u8 0))++ [R.J [] .nil,.J [] .nil]++ [.v (.int .i64 0),.v (.int .i64 0)]++ [.J [] .nil]) 0 (ab w N e5 h6)=ab w N e5 h6:=by have:=(aP (N:=N) (e5:=e5) (h6:=h6) a).len;rw[putAt,this];simp
def tv (a:dQ e b4=true): ∀b∈b4.kids,fl e b=true:=by simp only[dQ,a6B,a6P]at a;exact a.1.2
def kQ (b:fl e w=true):0<=w.size/\(w≠az->1<=w.size)/\(w.live≠0->w≠az):=by refine⟨(ra b).2.2.2.2.1,λa=> ?_,λc a=>c (by rw[a];rfl)⟩;simp only[fl,decide_eq_false a,aaJ,a6B,a8d,aaH,decide_eq_false_iff_not]at b;omega
theorem FL (o:dA H e w=some b4):((b4.kids.filter (ey q b8)).map bQ).sum<bQ w/\1<=w.size:=by
 have h:=re o;have z:w.size=b4.rows.length+(b4.kids.map aq.size).sum:=h.size;have k:=h.ok;simp only[dQ,a6B]at k;obtain⟨⟨_,c⟩,a⟩:=k;have c:=a6P.1 c;have d: ∀w∈b4.kids,ey q b8 w=true->1<=w.size:=λw b d=>by
  obtain⟨_,p,r⟩:=kQ (c w b);exact p (r (zl d))
 have x: ∀w∈b4.kids,((0:Nat))<=w.size:=λw b=>(kQ (c w b)).1;have y:=zk q b8 0 b4.kids d x aaU;rw[show(b4.kids.length)*((0:Nat):Int)=0 from Int.mul_zero _]at y;have C:(bQ w)=2*w.size - 1\/w.size<1:=by unfold bQ;omega
 split at a;grind;split at a;grind;split at a
 .simp only[a6B,decide_eq_true_eq,a6P,a8d,decide_eq_false_iff_not]at a;have D:=zk q b8 1 b4.kids d (λw b=>(kQ (c w b)).2.1 (a.2 w b).2) aaU;omega
 .cases a
def gb (b:aq->List (List UInt8)->Int×List (List UInt8)):List aq->List (List UInt8)->Int×List (List UInt8)
 | [],a=>(0,a)
 |c::bF,a=>if(b c a).1=0 then gb b bF (b c a).2 else b c a
def gB (d:ag) (h:Nat) (c:List (List UInt8)->aq->Bool×List (List UInt8)):Nat->aq->List (List UInt8)->Int×List (List UInt8)
 |0,_,a=>(0,a)
 |k+1,b,a=>if b=az then(0,a)else if(c a b).1=true then(match dA d h b with
   |none=>(21,(c a b).2)
   |some o=>gb (gB d h c k) o.kids (c a b).2)else(0,(c a b).2)
def av.vz (a:av f s e g n) (h:s.sub e0) (b:f i=some X) (c:f v=some j8):av U.emp (jm i v e0) e g n:=by
 obtain⟨_,a|⟨k,o,p,r,x,d,y,z⟩⟩:=a
 .exact⟨DL,.inl a⟩
 .refine⟨DL,.inr ⟨k,o,p,r,x,rfl,r7 (h _ _ y) ?_ ?_,z⟩⟩
  .rintro rfl;rw[d]at b;cases b
  .rintro rfl;rw[d]at c;cases c
def gP.vz {a h:U}{k o:Nat}{p:bY}{r x:R}{F G:bs} (L:gP a h p r x) (y:a k=some F) (z:a o=some G): ∃b c,fK (jm k o h) p r x b c:=by obtain⟨W,b,c,d,C,D,E,P,S⟩:=L;have T:=av.vz d C.1 y z;have V:=av.vz C U.a6 (d.1 _ _ y) (d.1 _ _ z);exact⟨b,c,D,E,bJ.dv T aaU rfl (D.cells λ_ _=>cT.cells),bJ.dv V aaU rfl (E.cells λ_ _=>bB.cells),P,S⟩
def zm (a:Nat) (h:a<=1): ∀(b:List aq),(∀c∈b,(a:Int)<=c.size)->((b.map bQ).sum:Int)+a*b.length<=2*(b.map aq.size).sum
 | [],_=>by simp
 |c::b,d=>by
  have ih:=zm a h b λc k=>d c (by simp[k]);have o:=d c aaV;rw[a6Q,a6Q,a7Q,a7Q,a6E];rcases(by omega:a=0\/a=1)with rfl|rfl<;>simp only[bQ]at* <;>omega
theorem FM (k:dA H e w=some b4):(b4.kids.map bQ).sum<bQ w/\1<=w.size/\ ∀o∈b4.kids,fl e o=true:=by
 have h:=re k;have p:w.size=b4.rows.length+(b4.kids.map aq.size).sum:=h.size;have c:=h.ok;have d:=tv c;simp only[dQ,a6B]at c;obtain⟨⟨_,r⟩,a⟩:=c;have x:=zm 0 aaU b4.kids λw b=>(kQ (d w b)).1;have y:(bQ w)=2*w.size - 1\/w.size<1:=by unfold bQ;omega
 refine⟨?_,?_,d⟩
 all_goals
  split at a
  .grind
  split at a
  .grind
  split at a
  .simp only[a6B,decide_eq_true_eq,a6P,a8d,decide_eq_false_iff_not]at a;have z:=zm 1 aaU b4.kids λw b=>(kQ (d w b)).2.1 (a.2 w b).2;omega
  .cases a
def zn (P:U) (n Z:Nat) (y:ag) (h:Nat) (k8:1<=h) (k9:h<=8) (k o:Nat) (q:Nat) (j9:List R) (p:List (List UInt8)->aq->Bool×List (List UInt8)) (T:U->Prop)
  (l0:fu Tryz.prog q=true) (l1: ∀b,T b->bq b n Z y) (V: ∀b r c,T b->eb P b k o c->de k o b r->T r)
  (l2: ∀b c a z C D,a.sum.length=32->T b->eb P b k o c->c.length<=100000000->AC Tryz.prog q (.agg (ab a z C D)::j9) b λs r=>de k o b r/\eb P r k o (p c a).2/\s= .v (.bool (p c a).1))
  (l3: ∀c a,(p c a).2.length<=c.length+1): ∀(E:Nat) (b:U) (_:T b) (c:List (List UInt8)) (_:eb P b k o c) (a:aq) (z C D:Own),a.sum.length=32->a.cv->(a≠az->1<=a.size)->bQ a<E->c.length+bQ a<=100000000->
  AC Tryz.prog 68 [.ptr n 0,.agg (ab a z C D),.v (.int .i64 (h:Int)),.bG q [] j9] b λs r=>de k o b r/\eb P r k o (gB y h p E a c).2/\(gB y h p E a c).2.length<=c.length+bQ a/\s= .v (.int .i64 (gB y h p E a c).1)
 |0,_,_,_,_,_,_,_,_,_,_,_,a62,_=>by omega
 |E+1,b,n4,c,t,a,z,C,D,ff,l4,n5,a63,a65=>by
  have a68:=(aP (N:=z) (e5:=C) (h6:=D) ff).all;refine aK hm MB ?_;refine bp λu i=> ?_;have v:=U.af (X:= .cells (ab a z C D)) (U.a6 (f:=b)) i;have bh:=U.ai b u (.cells (ab a z C D));generalize b.set u _=n9 at*;have l5:=V _ _ _ n4 t (de.of v);have k0:=t.mono v;have l6:u≠k/\u≠o:=by obtain⟨_,a00,_⟩:=t.db;obtain⟨_,⟨_,_,a01,_⟩,_⟩:=t.mp;exact⟨λw=>by rw[w,a00]at i;(cases i),λw=>by rw[w,a01]at i;(cases i)⟩
  have a02:=U.ae bh;have a69:=(aP (N:= .nil) (e5:= .nil) (h6:= .nil) bj).all;rw[gB];refine aa ?_;refine bk (my a z C D _ ff l4) ?_;refine aH (λF=> ?_) λF=> ?_;rotate_left
  .exact⟨_,U.a6,de.of v,k0,aaU⟩
  rw[if_neg F];refine eL l0 (l2 n9 c a z C D ff l5 k0 aaU) ?_;rintro _ a03 ⟨j,l,rfl⟩;have a04:=l3 c a;have l7:=V _ _ _ l5 k0 j;have A:=(de.of v).trans j;generalize p c a=a05 at*;obtain⟨a06,k1⟩:=a05
  dsimp only at l a04|-
  have a71:1<=bQ a:=by have:=n5 F;unfold bQ;omega
  cases a06 with
  |false=>refine aa ?_;exact⟨_,U.a6,A,l,aaU⟩
  |true=>
   have a02:=U.ae (j _ _ (r7 bh l6.1 l6.2));rw[if_pos rfl];refine aa ?_;refine ah (uV a03 n Z y (l1 _ l7) a z C D ff l4 h k8 k9) ?_;rintro s k2 ⟨W,B⟩;have k3:=l.mono W;cases k4:dA y h a with
   |none=>rw[k4]at B;obtain rfl:=B;refine aa ?_;refine bp λk5 m=> ?_;exact⟨_,U.a6,A.trans (de.of (U.af W (U.bI W m))),k3.mono (U.af U.a6 m),aaU⟩
   |some d=>
    rw[k4]at B;obtain⟨x,a73,rfl,a07⟩:=B;obtain⟨a74,a81,a08⟩:=FM k4;obtain⟨⟨a83,a09,_⟩,_,⟨_,⟨_,_,a10,_⟩,_⟩,_⟩:=id l;obtain⟨a84,a86,H⟩:=a07.vz a09 a10;have a88:=H.sP;have a89:=H.hZ;have a11:=V _ _ _ l7 l (de.of W);refine aa ?_;refine bp λk5 m=> ?_;generalize I:(k2.set k5 _).set k5 _=a13;have l8:k2.sub a13:=by subst I;exact U.af (U.af U.a6 m) m
    clear I;refine cg [0,2,3,33,34] (λx:Nat×List (List UInt8)=> [(35,.v (.int .i64 (x.1:Int)))]) (λx r=>x.1<=d.kids.length/\eb P r k o x.2/\de k o k2 r/\x.2.length<=k1.length+((d.kids.take x.1).map bQ).sum/\gb (gB y h p E) (d.kids.drop x.1) x.2=gb (gB y h p E) d.kids k1) (λx=>d.kids.length - x.1) (0,k1) ⟨⟨a7b _,k3.mono l8,de.of l8,aaV,rfl⟩,aO⟩ ?_;rintro⟨G,l9⟩ K ⟨a14,M,N,n0,L⟩ a90
    dsimp only at a14 M n0 L|-
    have a15:=V _ _ _ a11 k3 N;have a16:((d.kids.take G).map bQ).sum+((d.kids.drop G).map bQ).sum=(d.kids.map bQ).sum:=by rw[<-aao,<-a7x,a7f]
    refine aa ?_;refine aH (λF=> ?_) λF=> ?_
    .have O:G<d.kids.length:=aaU;have n1:=drop_cons (a:=d.kids) (b:=az) O;have a18:=eR (a:=d.kids) (b:=az) O;have n2:d.kids[G]? =some (d.kids.getD G az):=by simp[List.getD,O]
     have a19:=a6D n2;generalize d.kids.getD G az=S at*;obtain⟨_,a27,n3,a29,e,f,g,rfl⟩:=H.kids.get n2;obtain⟨a30,a92,Q⟩:=H.gJ.get G _ a27;have Q:=Q.mono N;have X:=aP (N:=e) (e5:=f) (h6:=g) n3;change mx K a30 (ab S e f g)at Q;have a34:=Q.ld K U.a6 true 37 aaU (by rw[X.len];omega);rw[show aL true 37 (ab S e f g)= .agg (ab S e f g) by rw[aL,if_pos rfl,X.t37]]at a34;have a36:=kQ (a08 S a19);rw[n1,gb]at L;rw[n1,a6Q,a7Q]at a16;have X:=X.all;have ih:=zn P n Z y h k8 k9 k o q j9 p T l0 l1 V l2 l3 E;have a38:=λY a42 j=>ih Y a42 l9 j S e f g n3 a29 a36.2.1 aaU aaU;generalize ab S e f g=a94 at*;refine aa ?_;refine bp λa43 a47=> ?_;generalize I:K.set a43 _=Y;have k6:K.sub Y:=by subst I;exact U.af U.a6 a47
     have a48:=V _ _ _ a15 M (de.of k6);refine ah (a38 Y a48 (M.mono k6)) ?_;rintro _ a95 ⟨a52,k7,a56,rfl⟩;have a57:=N.trans ((de.of k6).trans a52);generalize gB y h p E S l9=res at*;obtain⟨w,a61⟩:=res
     dsimp only at k7 a56 L|-
     refine aa ?_;refine aH (λF=> ?_) λF=> ?_
     .rw[if_neg F]at L;rw[<-L];exact⟨_,U.a6,A.trans ((de.of W).trans a57),k7,by dsimp only;omega,rfl⟩
     .rw[if_pos F]at L;exact⟨(G+1,a61),⟨O,k7,by rw[a18,a7x,aao,List.map_singleton,List.sum_singleton];dsimp only;omega,L⟩,rfl,by dsimp only;omega⟩
    .obtain rfl:G=d.kids.length:=aaU;rw[a8G,gb]at L;rw[a6V]at n0;rw[<-L];exact⟨_,U.a6,A.trans ((de.of W).trans N),M,by dsimp only;omega,rfl⟩
def a2w (c:U) (o p:Nat) (h:ag) (C:bq c o p h) (a:List UInt8) (k:a.length=32):
  AC Tryz.prog 21 [.ptr o 0,bz a] c λD E=>c.sub E/\D= .v (.bool (h.m a).isSome):=by
 obtain⟨⟨i,j,F⟩,⟨d,G,b⟩,_,_⟩:=C;have b:=b a k;have l:(a.map ak).length=32:=by simp[k]
 have m:aL true 32 (a.map ak)=bz a:=by rw[aL,if_pos rfl,a6z aaU];rfl
 have L:(bz a).cells=a.map ak:=rfl;refine aK hm L9 ?_;refine aN λr P=> ?_;rw[L];have aE:=U.ai c r (.cells (a.map ak));have x:=U.af (X:= .cells (a.map ak)) (U.a6 (f:=c)) P;generalize c.set r _=S at*;have n:=U.ae (x _ _ F);have q:=U.ae aE;have T:nk S p pK d:=by obtain⟨V,W,e,f⟩:=G;exact⟨V,W,x _ _ e,f⟩
 refine aa ?_;refine uj T (ow k) (λv y=> ?_) (λz=> ?_)
 .cases hm:h.m a with
  |none=>rw[hm]at b;rw[show d (.agg (a.map ak))=d (bz a)from rfl,b]at y;cases y
  |some g=>refine aa ?_;rfl
 .cases hm:h.m a with
  |none=>refine aa ?_;rfl
  |some g=>rw[hm]at b;obtain⟨s,t,b⟩:=b;rw[show d (.agg (a.map ak))=d (bz a)from rfl,b]at z;cases z
def oT (a:List (List UInt8)) (b:aq):Bool×List (List UInt8):=(decide (b.sum∉a),dS a b.sum)
def mI (c:ag) (a:List (List UInt8)) (b:aq):Bool×List (List UInt8):=if(c.m b.sum).isSome=true then(true,a)else(false,dS a b.sum)
def q5:(dS e6 A).length<=e6.length+1:=by
 unfold dS;split
 .omega
 .simp
def eb.at (a:eb s f e i e6): ∃b aA,f e=some b/\f i=some aA:=by obtain⟨_,c,_⟩:=a.db;obtain⟨_,⟨_,_,d,_⟩,_⟩:=a.mp;exact⟨_,_,c,d⟩
def a2x (r b:U) (c p y:Nat) (d:List (List UInt8)) (a:aq) (h k o:Own) (z:a.sum.length=32) (D:eb r b c p d) (E:b y=some (.cells [.ptr c 0])) (F:d.length<=100000000):
  AC Tryz.prog 69 [.agg (ab a h k o),.ptr y 0] b λG C=>de c p b C/\eb r C c p (oT d a).2/\G= .v (.bool (oT d a).1):=by
 have L:=(aP (N:=h) (e5:=k) (h6:=o) z).all;have W:aL true 32 (ab a h k o)=bz a.sum:=by rw[aL,if_pos rfl,L.2.2.1];rfl
 refine aK hm MD ?_;refine bp λP S=> ?_;have x:=U.af (X:= .cells (ab a h k o)) (U.a6 (f:=b)) S;have c2:=U.ai b P (.cells (ab a h k o));have e:=U.ae (x _ _ E);have f:=U.ae c2;refine aa ?_;refine ah (DN r _ c p d (D.mono x) a.sum z F) ?_;rintro _ g ⟨T,V,rfl⟩;refine aa ?_;exact⟨_,U.a6,(de.of x).trans T,V,rfl⟩
def a2y (z b:U) (c x F G C L:Nat) (d:ag) (h:List (List UInt8)) (a:aq) (k o p:Own) (D:a.sum.length=32) (P:eb z b c x h) (S:b F=some (.cells [.ptr c 0])) (V:b G=some (.cells [.ptr C 0])) (W:bq b C L d) (e:h.length<=100000000):
  AC Tryz.prog 85 [.agg (ab a k o p),.ptr G 0,.ptr F 0] b λf T=>de c x b T/\eb z T c x (mI d h a).2/\f= .v (.bool (mI d h a).1):=by
 have g:=(aP (N:=k) (e5:=o) (h6:=p) D).all;have t:aL true 32 (ab a k o p)=bz a.sum:=by rw[aL,if_pos rfl,g.2.2.1];rfl
 refine aK hm N8 ?_;refine bp λi j=> ?_;have r:=U.af (X:= .cells (ab a k o p)) (U.a6 (f:=b)) j;have c2:=U.ai b i (.cells (ab a k o p));have l:=U.ae (r _ _ S);have u:=U.ae (r _ _ V);have m:=U.ae c2;unfold mI;refine aa ?_;refine ah (a2w _ C L d (W.mono r) a.sum D) ?_;rintro _ n ⟨E,rfl⟩;have y:=U.au r E;have l:=U.ae (E _ _ (r _ _ S));have m:=U.ae (E _ _ c2);cases cr:(d.m a.sum).isSome with
 |true=>refine aa ?_;exact⟨_,U.a6,de.of y,P.mono y⟩
 |false=>refine aa ?_;refine ah (DN z n c x h (P.mono y) a.sum D e) ?_;rintro _ v ⟨q,s,rfl⟩;refine aa ?_;exact⟨_,U.a6,(de.of y).trans q,s⟩
def gU (b:ag) (c:Nat) (a:aq) (d:List (List UInt8)):Int×List (List UInt8):=gB b c oT (bQ a+1) a d
def hL (a:ag) (c:Nat) (b:aq) (d:List (List UInt8)):Int×List (List UInt8):=gB a c (mI a) (bQ b+1) b d
def vA (C:Nat) (p:ag->Nat->aq->List (List UInt8)->Int×List (List UInt8)):Prop:= ∀(r d:U) (h k x y:Nat) (o:ag) (b:Nat) (c:List (List UInt8)) (a:aq) (D E F:Own),1<=b->b<=8->bq d x y o->y≠k->eb r d h k c->a.sum.length=32->a.cv->(a≠az->1<=a.size)->c.length+bQ a<=100000000->
  AC Tryz.prog C [.ptr h 0,.ptr x 0,.agg (ab a D E F),.v (.int .i64 (b:Int))] d λG z=>de h k d z/\eb r z h k (p o b a c).2/\(p o b a c).2.length<=c.length+bQ a/\G= .v (.int .i64 (p o b a c).1)
def FN:vA 32 gU:=λL a d E P S T e h b k o p f g i j r x l m F=>by
 have I:=(aP (N:=k) (e5:=o) (h6:=p) x).all;obtain⟨K,aA,n,q⟩:=r.at;refine aK hm Lr ?_;refine bp λc y=> ?_;refine cZ λV M _ _=> ?_;generalize z:(a.set c _).set V _=C;have G:a.sub C:=by subst z;exact aO
 have c2:C V=some (.cells (ab b k o p)):=by subst z;exact aO
 have s:C c=some (.cells [.ptr d 0]):=by subst z;exact aO
 clear z;have t:c≠d:=by rintro rfl;rw[n]at y;cases y
 have u:c≠E:=by rintro rfl;rw[q]at y;cases y
 have N:=U.ae c2;refine aa ?_;refine ah (zn L P S T e f g d E _ _ oT (λa=>bq a P S T/\a c=some (.cells [.ptr d 0])) aaZ (λa D=>D.1) (λa O h D v W=>⟨D.1.fh v W j,W _ _ (r7 D.2 t u)⟩)
  (λa h b k o p x w r F=>a2x L a d E c h b k o p x r w.2 F) (λh b=>q5) (bQ b+1) C ⟨i.mono G,s⟩ h (r.mono G) b k o p x l m aaU F) ?_
 rintro _ Q ⟨A,B,H,rfl⟩;refine aa ?_;exact⟨_,U.a6,(de.of G).trans A,B,H,rfl⟩
def FO:vA 39 hL:=λf a b D k S E m o c p r x n q s t F G u v T=>by
 have Q:=(aP (N:=p) (e5:=r) (h6:=x) G).all;obtain⟨X,aA,g,i⟩:=F.at;refine aK hm LF ?_;refine bp λd L=> ?_;refine cZ λh P _ _=> ?_;refine ha λj Y _ _ _ _=> ?_;generalize y:((a.set d _).set h _).set j _=z;have V:a.sub z:=by subst y;exact aO
 have c2:z j=some (.cells (ab c p r x)):=by subst y;exact aO
 have w:z d=some (.cells [.ptr b 0]):=by subst y;exact aO
 have l:z h=some (.cells [.ptr k 0]):=by subst y;exact aO
 clear y;have A:d≠b:=by rintro rfl;rw[g]at L;cases L
 have B:d≠D:=by rintro rfl;rw[i]at L;cases L
 have H:h≠b:=by rintro rfl;rw[g]at P;cases P
 have I:h≠D:=by rintro rfl;rw[i]at P;cases P
 have Z:=U.ae c2;have j9:=U.ae l;refine aa ?_;refine ah (zn f k S E m n q b D _ _ (mI E) (λa=>bq a k S E/\a d=some (.cells [.ptr b 0])/\a h=some (.cells [.ptr k 0])) aaZ (λa C=>C.1) (λa k0 o C K W=>⟨C.1.fh K W t,W _ _ (r7 C.2.1 A B),W _ _ (r7 C.2.2 H I)⟩)
  (λa o c p r x G e F T=>a2y f a b D d h k S E o c p r x G F e.2.1 e.2.2 e.1 T) (λo c=>by unfold mI;split;(·dsimp only;omega);exact q5) (bQ c+1) z ⟨s.mono V,w,l⟩ o (F.mono V) c p r x G u v aaU T) ?_
 rintro _ k1 ⟨M,N,O,rfl⟩;refine aa ?_;exact⟨_,U.a6,(de.of V).trans M,N,O,rfl⟩
def FP (r:Nat) (d:ag->Nat->aq->List (List UInt8)->Int×List (List UInt8)) (W:vA r d) (e:fu Tryz.prog r=true) (h:U) (x y:Nat) (c:ag) (E:bq h x y c) (a:aq) (k o p:Own) (F:a.sum.length=32) (f:a.cv) (g:a≠az->1<=a.size) (i:bQ a<=100000000) (b:Nat) (j:1<=b) (l:b<=8):
  AC Tryz.prog 35 [.ptr x 0,.agg (ab a k o p),.v (.int .i64 (b:Int)),.bG r [] []] h λG m=>h.sub m/\((d c b a []).1=0-> ∃z,G= .aJ [.J ((d c b a []).2.map bz) z,.v (.int .i64 0)])/\((d c b a []).1≠0->G= .aJ [.J [] .nil,.v (.int .i64 (d c b a []).1)]):=by
 have H:=(aP (N:=k) (e5:=o) (h6:=p) F).all;have I: ¬(b:Int)<1:=aaU;have K: ¬(8:Int)<(b:Int):=aaU;refine aK hm Lx ?_;refine bp λn q=> ?_;have C:=U.af (X:= .cells (ab a k o p)) (U.a6 (f:=h)) q;have bh:=U.ai h n (.cells (ab a k o p));refine aa ?_;refine ah (xZ _) ?_;rintro _ s ⟨t,L,M,P,rfl,S⟩;have T:=S.sub;have N:=U.ae (T _ _ bh);have u:=E.mono (U.au C T);have v:y≠L:=by obtain⟨_,⟨_,_,w,_⟩,_⟩:=E.mp;rintro rfl;rw[C _ _ w]at P;cases P
 refine aa ?_;refine eL e (W _ s t L x y c b [] a k o p j l u v S F f g (by simpa using i)) ?_;rintro _ O ⟨Q,V,X,rfl⟩;have Y:=U.au C V.sub;obtain⟨⟨z,A,_⟩,_⟩:=id V;have eJ:=U.ae A;generalize d c b a []=res at*;obtain⟨Z,j9⟩:=res
 dsimp only at*
 refine aa ?_;refine aH (λB=> ?_) λB=> ?_
 .exact⟨λD=>D.elim,λ_=>trivial⟩
 .exact⟨λ_=>⟨z,rfl⟩,λD=>D.elim⟩
def zo (d:U) (p y:Nat) (c:ag) (G:bq d p y c) (a:aq) (h k o:Own) (z:a.sum.length=32) (L:a.cv) (P:a≠az->1<=a.size) (S:bQ a<=100000000) (b:Nat) (T:1<=b) (V:b<=8):
  AC Tryz.prog 14 [.ptr p 0,.agg (ab a h k o),.v (.int .i64 (b:Int))] d λC W=>d.sub W/\((gU c b a []).1=0-> ∃D,C= .aJ [.J ((gU c b a []).2.map bz) D,.v (.int .i64 0)])/\((gU c b a []).1≠0->C= .aJ [.J [] .nil,.v (.int .i64 (gU c b a []).1)]):=by
 have i:=(aP (N:=h) (e5:=k) (h6:=o) z).all;refine aK hm KX ?_;refine bp λj e=> ?_;have r:=U.af (X:= .cells (ab a h k o)) (U.a6 (f:=d)) e;refine ah (FP _ _ FN aaZ _ p y c (G.mono r) a h k o z L P S b T V) ?_;rintro _ l ⟨E,f,g⟩;by_cases F:(gU c b a []).1=0
 .obtain⟨D,rfl⟩:=f F;refine aa ?_;exact⟨U.au r E,λ_=>trivial,λx=>x.elim⟩
 .obtain rfl:=g F;refine aa ?_;exact⟨U.au r E,λx=>x.elim,λ_=>trivial⟩
def FQ (d:U) (p y:Nat) (c:ag) (G:bq d p y c) (a:aq) (h k o:Own) (z:a.sum.length=32) (L:a.cv) (P:a≠az->1<=a.size) (S:bQ a<=100000000) (b:Nat) (T:1<=b) (V:b<=8):
  AC Tryz.prog 22 [.ptr p 0,.agg (ab a h k o),.v (.int .i64 (b:Int))] d λC W=>d.sub W/\((hL c b a []).1=0-> ∃D,C= .aJ [.J ((hL c b a []).2.map bz) D,.v (.int .i64 0)])/\((hL c b a []).1≠0->C= .aJ [.J [] .nil,.v (.int .i64 (hL c b a []).1)]):=by
 have i:=(aP (N:=h) (e5:=k) (h6:=o) z).all;refine aK hm Lb ?_;refine bp λj e=> ?_;have r:=U.af (X:= .cells (ab a h k o)) (U.a6 (f:=d)) e;refine ah (FP _ _ FO aaZ _ p y c (G.mono r) a h k o z L P S b T V) ?_;rintro _ l ⟨E,f,g⟩;by_cases F:(hL c b a []).1=0
 .obtain⟨D,rfl⟩:=f F;refine aa ?_;exact⟨U.au r E,λ_=>trivial,λx=>x.elim⟩
 .obtain rfl:=g F;refine aa ?_;exact⟨U.au r E,λx=>x.elim,λ_=>trivial⟩
structure nQ (c:U) (x:R) (b:List UInt8):Prop where
 one:x.cells= [x]
 len:fa x=some (.v (.int .i64 b.length))
 src: ∀a,c.sub a->oh a x b
theorem nQ.ao (a:fH s f A n):nQ f n A:=by obtain⟨h,b,k,c⟩:=a.src;simp only[a6J,a7s]at b;subst b;refine⟨?_,c,λo d=>fH.mn (a.mono d)⟩;rcases a.2 with ⟨_,rfl|rfl⟩|⟨_,_,_,_,rfl,_⟩<;>rfl
def nQ.mono (a:nQ f n A) (b:f.sub s):nQ s n A:=⟨a.one,a.len,λd c=>a.src _ (U.au b c)⟩
def a2z (c:UInt8) (b:List UInt8) (d:R) (h:Nat) (a:U) (k:nQ a d b) (y:b.length<=900000) (p:a h=some (.cells [d])):
  AC Tryz.prog 189 [.v (.int .u8 (c.toNat:Int)),.ao h 1 1 1] a λr x=>fH a x (preB c [b]) r:=
 a1E c [(d,b)] h a p (λz o=>by rw[a6U]at o;subst o;exact .inr ⟨k.src _ U.a6,k.len⟩) (by simp[preB,chunk,cF];omega)
theorem a2A (b:A.length=32) (a:R):(bz A).cells.length=32/\putAt (List.replicate 32 a) 0 (bz A).cells=(bz A).cells/\(.agg ((bz A).cells.take 32):R)=bz A:=by grind[bz,R.cells,putAt,List.take_of_length_le]
def a2B (b:List UInt8) (a:R) (c:U) (k:nQ c a b) (y:b.length<=900000):
  AC Tryz.prog 135 [a] c λo z=>z=c/\o=bz (fZ b):=by
 have p:=k.one;refine aK hm OK ?_;refine bp λF C=> ?_;refine eK (by simp[aW,p]) aaV λD E=> ?_;rw[show flat [a]= [a] by simp[flat,p]];have r:=U.af (X:= .cells (List.replicate 32 (.v (.int .u8 0)))) (U.a6) C;have d:=U.af (X:= .cells [a]) (U.a6) E;refine aa ?_;refine hX (a2z 80 b a D _ (k.mono (U.au r d)) y (U.ai _ _ _)) λo G h=> ?_;have x:=nQ.ao h;have L:=U.aI (h.sub _ _ (d _ _ (U.ai _ _ _)));have P:=a2A (sE (preB 80 [b])) (.v (.int .u8 0));refine bk (a1B _ (by simp[preB,chunk,cF];omega) _ _ (x.src _ U.a6) x.len) ?_;exact⟨U.au (U.au r d) h.sub,rfl⟩
theorem FR (c b:List Int) (p r:Own) (d:Nat) (k:U) (D:d<=1000000):
  AC Tryz.prog 193 [eN c b p r,.v (.int .i64 (d:Int))] k λx y=>y=k/\x= .v (.bool (cO c b d)):=by
 have E:=bM (q:=c);have F:=bM (q:=b);have G:= @dP c;have L:= @dP b;refine aK hm Qp ?_;refine bp λP S=> ?_
 repeat' first|refine aH (λ_=> ?_) λ_=> ?_|trivial
 all_goals try (rw[cO];exact aR)
 refine gL [1,2] (λa:Nat=> [(5,.v (.int .i64 a))]) (λa=>a<=d/\ ∀h<a,decide (c.getD h 0<=b.getD h 0)=true) (λa=>d - a) 0 ⟨aaU,λh z=>by omega⟩ aO ?_;rintro a ⟨b,o⟩ T;refine aa ?_;refine aH (λC=> ?_) λC=> ?_
 .repeat' first|refine aH (λ_=> ?_) λ_=> ?_|trivial
  grind[cO,sy,decide_eq_false_iff_not,aR]
  .exact⟨a+1,⟨aaU,upto o (by simp only[decide_eq_true_eq];omega)⟩,rfl,aaU⟩
 .rw[cO,sz λh z=>o h aaU];exact aR
def c8:List UInt8->List UInt8->Bool
 | _,[]=>false
 | [],_:: _=>true
 |a::c,b::d=>if a=b then c8 c d else decide (a<b)
theorem a2C: ∀b a:List UInt8,Op.bytesLess b a=c8 b a:=by
 intro b
 induction b with
 |nil=>intro a;cases a<;>simp[Op.bytesLess,c8]
 |cons c b ih=>
  intro a;cases a with
  |nil=>rfl
  |cons d a=>simp only[Op.bytesLess,c8,ih];split<;>simp_all
theorem zp (a:List UInt8):c8 a a=false:=by induction a<;>simp_all [c8]
theorem FT: ∀b a:List UInt8,c8 b a=false->c8 a b=false->b=a:=by
 intro b
 induction b with
 |nil=>intro a;cases a<;>simp[c8]
 |cons c b ih=>
  intro a;cases a with
  |nil=>simp[c8]
  |cons d a=>simp only[c8];grind
theorem vB: ∀c a b:List UInt8,c8 c a=true->c8 a b=true->c8 c b=true:=by
 intro c
 induction c with
 |nil=>intro a b;cases a<;>cases b<;>simp[c8]
 |cons d c ih=>
  intro a b;cases a with
  |nil=>simp[c8]
  |cons h a=>
   cases b with
   |nil=>simp[c8]
   |cons k b=>simp only[c8];grind
theorem vC (a b:List UInt8):ji .lss (bn a) (bn b)=some (.v (.bool (c8 a b)))/\ji .geq (bn a) (bn b)=some (.v (.bool (!c8 a b)))/\
  ji .leq (bn a) (bn b)=some (.v (.bool (c8 a b||decide (a=b))))/\ji .gtr (bn a) (bn b)=some (.v (.bool (!(c8 a b||decide (a=b))))):=by
 grind[decide,bn,sj,br,qq,toList_mk,a2C]
def eF.at_ (C:eF e8 g): ∃D E,aL false 1 (g.drop 36)= .v (.int .i64 e8.bo.live)/\aL false 1 (g.drop 38)= .J (ad e8.bo.key) D/\aL false 1 (g.drop 73)= .v (.int .i64 e8.bu.live)/\aL false 1 (g.drop 74)= .v (.int .i64 e8.bu.size)/\aL false 1 (g.drop 75)= .J (ad e8.bu.key) E:=by
 obtain⟨⟨y,o,p,c,d,h,b,rfl⟩,⟨F,_⟩,⟨G,_⟩,_⟩:=C;have k:=aP (N:=o) (e5:=p) (h6:=c) F;have r:=aP (N:=d) (e5:=h) (h6:=b) G;have z: ∀a,a<=37->(bn e8.name:: .J (bL e8.aD) y::(ab e8.bo o p c++ab e8.bu d h b)).drop (a+2)=(ab e8.bo o p c).drop a++ab e8.bu d h b:=λa L=>by
  simp only[a7S];rw[a8g (by have:=k.len;omega)]
 have x: ∀a,(bn e8.name:: .J (bL e8.aD) y::(ab e8.bo o p c++ab e8.bu d h b)).drop (a+37+2)=(ab e8.bu d h b).drop a:=λa=>by
  simp only[a7S];rw[a8b,a7Z (by rw[k.len];omega),k.len,a6T];congr 1
 refine⟨c,b,?_,?_,?_,?_,?_⟩
 .rw[z 34 aaU,k.d34];rfl
 .rw[z 36 aaU,k.d36];rfl
 .rw[x 34,r.d34];rfl
 .rw[x 35,r.d35];rfl
 .rw[x 36,r.d36];rfl
def fU (a:aU):Bool:=eV ⟨1,a.name,a.aD,[]⟩&&(fl (a.aD.length+1) a.bo&&(fl (a.aD.length+1) a.bu&&(decide (a.bo.live=a.bu.live)&&(decide (a.bo.key.length=0)&&
 (decide (a.bu=az)||(decide (a.bu.key.length=a.aD.length+1)&&decide (a.bu.size=a.bu.live)))))))
structure aU.Fit (t:aU):Prop where
 n:t.name.length<=1000000
 c:t.aD.length<=1000000
 cs: ∀c∈t.aD,c.length<=1000000
def tw (a:aU) (b:List R) (c:eF a b) (d:U):AC Tryz.prog 67 [.agg b] d λh k=>k=d/\h= .v (.int .i64 ((a.aD.length+1:Nat):Int)):=by obtain⟨o,p,r,x,y,z,C,D,E,F,G,L,P⟩:=c.all;have S:=iq (e6:=a.aD);have T:=c.c;refine aK hm Mz ?_;refine bp λV W=> ?_;trivial
theorem rB (a:aU) (c:List R) (b:eF a c) (o:a.Fit) (d:U):AC Tryz.prog 125 [.agg c] d λp r=>r=d/\p= .v (.bool (fU a)):=by
 obtain⟨W,e,f,x,y,z,C,D,E,F,g,i,j⟩:=b.all;obtain⟨l,m,n,q,s,t,u⟩:=b.at_;have v:=iq (e6:=a.aD);have w:=bM (q:=a.bo.key);have A:=bM (q:=a.bu.key);obtain⟨G,L,P⟩:=o;have B: ∀h,fl h az=true:=λh=>by rfl
 refine aK hm On ?_;refine bp λk H=> ?_;refine bk (tw a c b _) ?_;refine bk (Fk ⟨⟨1,a.name,a.aD,[]⟩,x,.nil⟩ ⟨G,L,P,aaV⟩ _) ?_;have S:=y4 a.bo y z C (a.aD.length+1) (d.set k (.cells c)) aaU b.k.1 b.k.2;have T:=y4 a.bu D E F (a.aD.length+1) (d.set k (.cells c)) aaU b.z.1 b.z.2;refine aH (λV=> ?_) λV=> ?_
 .rw[fU];exact aR
 refine bk S ?_
 repeat' first|refine aH (λ_=> ?_) λ_=> ?_|trivial
 all_goals try (rw[fU];exact aR)
 .refine bk T ?_
  repeat' first|refine aH (λ_=> ?_) λ_=> ?_|trivial
  all_goals try (rw[fU];exact aR)
  all_goals refine bk (my _ _ _ _ _ b.z.1 b.z.2) ?_
  all_goals repeat' first|refine aH (λ_=> ?_) λ_=> ?_|trivial
  all_goals grind[fU,aR]
def cI (a:List aU):Bool:=(List.range a.length).all (λb=>fU (a.getD b default)&&(decide (b=0)||c8 (a.getD (b - 1) default).name (a.getD b default).name))&&decide (a.length<=8)
theorem nR (a:List aU) (E:List R) (e:Own) (y:aB dY a E) (f: ∀d∈a,d.Fit) (s:a.length<=1000000) (k:U):AC Tryz.prog 71 [.J E e] k λg z=>z=k/\g= .v (.bool (cI a)):=by
 have t:=y.len;refine aK hm MH ?_;refine cg [0,5,6] (λb:Nat=> [(7,.v (.int .i64 b))]) (λb z=>k.sub z/\b<=a.length/\ ∀c<b,(fU (a.getD c default)&&(decide (c=0)||c8 (a.getD (c - 1) default).name (a.getD c default).name))=true) (λb=>a.length - b) 0 ⟨⟨U.a6,aaU,λc C=>by omega⟩,aO⟩ ?_;rintro b F ⟨G,u,i⟩ v;refine aa ?_;refine aH (λj=> ?_) λj=> ?_
 .have L:a[b]? =some (a.getD b default):=by simp_all
  obtain⟨_,w,T,rfl,o⟩:=y.get L;have P:=f _ (a6D L);generalize l:a.getD b default=d at*;have A:=iE (n:= .agg T) o.all.1;obtain⟨B,H,I,K,M,N,O,Q,X,Y,Z,j9,k0⟩:=o.all;obtain⟨p,r⟩: ∃p,p=(fU d&&(decide (b=0)||c8 (a.getD (b - 1) default).name d.name)):=⟨_,rfl⟩;have k1:p=false->cI a=false:=λC=>by
   grind[cI,sy]
  have k2:p=true-> ∃x,(x<=a.length/\ ∀c<x,(fU (a.getD c default)&&(decide (c=0)||c8 (a.getD (c - 1) default).name (a.getD c default).name))=true)/\R.v (.int .i64 ((b)+1))= .v (.int .i64 (x))/\a.length - x<a.length - b:=λC=>
   ⟨b+1,⟨aaU,upto i (by rw[l,<-r];exact C)⟩,rfl,aaU⟩
  have k3: ∀h S,F h=none->k.sub (F.set h S):=λh S D=>U.af G (U.bI G D);by_cases V:b=0
  .subst V;simp only[decide_true,Bool.true_or,aaI]at r;subst r;refine aa ?_;refine bp λh D=> ?_;refine bk (rB d T o P _) ?_
   repeat' first|refine aH (λ_=> ?_) λ_=> ?_|trivial
   simp_all
  .have m:a[b - 1]? =some (a.getD (b - 1) default):=by grind
   obtain⟨_,k4,n,rfl,W⟩:=y.get m;generalize a.getD (b - 1) default=q at*;have k5:=iE (n:= .agg n) W.all.1;obtain⟨k6,k7,k8,_⟩:=W.all;have k9:(b) - 1=((b - 1:Nat):Int):=aaU;have l0:=(vC q.name d.name).2.1;simp only[decide_eq_false V,aaJ]at r;refine aa ?_;refine bp λh D=> ?_;refine bk (rB d T o P _) ?_
   repeat' first|refine aH (λ_=> ?_) λ_=> ?_|trivial
   all_goals simp_all
 grind[cI,sz,aR]
def nS (a b:List UInt8):Int:=if c8 a b=true then -1 else if a=b then 0 else 1
def FU (b:List UInt8) (a:U):AC Tryz.prog 296 [bn b] a λc d=>d=a/\c= .v (.bool false):=by have k:=λh v=> @CP h v;refine aK hm T4 ?_;trivial
theorem a2D (a b:List UInt8) (c:U):AC Tryz.prog 262 [bn a,bn b] c λh k=>k=c/\h= .v (.int .i64 (nS a b)):=by
 obtain⟨p,r,x,y⟩:=vC a b;refine aK hm Sh ?_;refine bk (FU a c) ?_;refine bk (FU b c) ?_;refine aH (λd=> ?_) λd=> ?_
 .rw[nS,if_pos d]
 .refine aH (λo=> ?_) λo=> ?_;simp_all [nS];simp_all [nS]
def a2E (a:aU) (b:List R) (d:eF a b) (c:U):AC Tryz.prog 209 [.agg b] c λh k=>k=c/\h=bn a.name:=by obtain⟨o,p,r,_⟩:=d.all;refine aK hm QL ?_;refine bp λx y=> ?_;trivial
def FV (a:aU) (b:List R) (h:eF a b) (k:List UInt8) (c:U) (d:Nat) (o:c.read d=some [.bG 209 [] []]):AC Tryz.prog 261 [.agg b,bn k,.ptr d 0] c λp r=>r=c/\p= .v (.int .i64 (nS a.name k)):=by
 obtain⟨z,C,_⟩:=h.all;refine aK hm Sf ?_;refine aN λx y=> ?_;have D:d≠x:=by rintro rfl;simp[U.read,y]at o
 refine aa ?_;refine mo (a2E a b h _) ?_;refine bk (a2D _ _ _) ?_;trivial
def Place (a:List aU) (d:List UInt8) (c:Nat):Prop:=c<=a.length/\(∀b<c,c8 (a.getD b default).name d=true)/\ ∀b<a.length,c<=b->c8 (a.getD b default).name d=false
theorem FW {a:List UInt8}:nS A a<0↔c8 A a=true:=by grind[nS]
theorem a2F {a:List UInt8}:nS A a=0↔A=a:=by
 unfold nS;split
 .rename_i b;simp;rintro rfl;rw[zp]at b;cases b
 .simp
theorem a2G (c:List aU) (y:List R) (V:Own) (d:List UInt8) (G:aB dY c y) (u:c.length<=1000000) (W: ∀a b,a<b->b<c.length->c8 (c.getD a default).name (c.getD b default).name=true) (p:U) (r:Nat) (L:p.read r=some [.bG 209 [] []]):
  AC Tryz.prog 260 [.J y V,bn d,.bG 261 [] [.ptr r 0]] p λe f=>f=p/\ ∃a,Place c d a/\e= .aJ [.v (.int .i64 (a:Int)),.v (.bool (decide (a<c.length)&&decide ((c.getD a default).name=d)))]:=by
 have v:=G.len;have el: ∀a,a<c.length-> ∃T,y[a]? =some (.agg T)/\eF (c.getD a default) T/\eB 76 (some (.agg T))=some (.bU T)/\T.length=76/\T.take 76=T:=λa z=>by
  obtain⟨_,g,T,rfl,k⟩:=G.get (i:=a) (x:=c.getD a default) (by simp_all);exact⟨T,g,k,iE k.all.1,k.all.1,k.all.2.1⟩
 have i: ∀a,a<c.length->c8 (c.getD a default).name d=true-> ∀b,b<a+1->c8 (c.getD b default).name d=true:=λa z o b P=>by
  rcases Nat.lt_or_eq_of_le (Nat.le_of_lt_succ P)with C|rfl
  .exact vB _ _ _ (W b a C z) o
  .exact o
 have j: ∀a,a<c.length->c8 (c.getD a default).name d=false-> ∀b,b<c.length->a<=b->c8 (c.getD b default).name d=false:=λa z o b P w=>by
  grind
 refine aK hm Sd ?_;refine gL [0,1,2,8] (λh:Nat×Nat=> [(9,.v (.int .i64 h.1)),(10,.v (.int .i64 h.2))]) (λh=>h.1<=h.2/\h.2<=c.length/\(∀b<h.1,c8 (c.getD b default).name d=true)/\ ∀b<c.length,h.2<=b->c8 (c.getD b default).name d=false) (λh=>h.2 - h.1) (0,c.length) ⟨aaV,aaV,λb o=>by simp at o,λb o x=>by simp at x;omega⟩ aO ?_;rintro⟨a,b⟩ ⟨C,x,D,E⟩ A
 dsimp only at C x D E|-
 have B:br .shr (.int .u64 ((a)+(b))) (.int .u64 1)=some (.int .u64 (((a+b)/2:Nat))):=by rw[show(a)+(b)=((a+b:Nat):Int) by omega,sk _ _ _ aaU aaU];rfl
 by_cases H:(a:Int)<b
 .obtain⟨T,l,k,m,n,q⟩:=el ((a+b)/2) aaU;have s:=i ((a+b)/2) aaU;have t:=j ((a+b)/2) aaU;generalize I:(a+b)/2=S at*;refine aa ?_;refine mo (FV _ T k d p r L) ?_;refine aH (λF=> ?_) λF=> ?_
  .exact⟨(S+1,b),⟨by simp only;omega,by simp only;omega,s (FW.1 F),E⟩,⟨rfl,rfl⟩,by simp only;omega⟩
  .exact⟨(a,S),⟨by simp only;omega,by simp only;omega,D,t (by simpa[FW] using F)⟩,⟨rfl,rfl⟩,by simp only;omega⟩
 .obtain rfl:a=b:=aaU;have K:Place c d a:=⟨x,D,E⟩;by_cases c2:(a:Int)<c.length
  .obtain⟨T,l,k,m,n,q⟩:=el a aaU;refine aa ?_;refine mo (FV _ T k d p r L) ?_;grind[a2F]
  .refine aa ?_;grind
def a2H (b:List aU) (d:List R) (x:Own) (c:List UInt8) (y:aB dY b d) (z:b.length<=1000000) (C: ∀a h,a<h->h<b.length->c8 (b.getD a default).name (b.getD h default).name=true) (k:U):
  AC Tryz.prog 159 [.J d x,bn c] k λo p=>p=k/\ ∃a,Place b c a/\o= .aJ [.v (.int .i64 (a:Int)),.v (.bool (decide (a<b.length)&&decide ((b.getD a default).name=c)))]:=by
 refine aK hm Pg ?_;refine ah (Z:=λo p=>p=k/\ ∃a,Place b c a/\o= .aJ [.v (.int .i64 (a)),.v (.bool (decide (a<b.length)&&decide ((b.getD a default).name=c)))]) ?_ ?_
 .refine aK hm QJ ?_;refine bp λD E=> ?_;refine ah (a2G b d x c y z C _ D (U.Cc)) ?_;rintro _ _ ⟨rfl,a,r,rfl⟩;refine aa ?_;exact⟨a,r,rfl⟩
 .rintro _ _ ⟨rfl,a,r,rfl⟩;refine aa ?_;exact⟨a,r,rfl⟩
abbrev fD:List R:=bn []:: .J [] .nil::(ab az .nil .nil .nil++ab az .nil .nil .nil)
def kR:([R.v (.string ⟨#[]⟩)]++ [R.J [] .nil]++List.replicate 32 (R.v (.int .u8 0))++ [R.J [] .nil,.J [] .nil]++ [R.v (.int .i64 0),.v (.int .i64 0)]++ [R.J [] .nil]++List.replicate 32 (R.v (.int .u8 0))++ [R.J [] .nil,.J [] .nil]++ [R.v (.int .i64 0),.v (.int .i64 0)]++ [R.J [] .nil])=fD:=by have:=ch;rfl
def hp:eF ⟨[],[],az,az⟩ fD:=⟨⟨.nil,_,_,_,_,_,_,rfl⟩,⟨bj,pM⟩,⟨bj,pM⟩,aaV⟩
theorem oU (a:eF e8 g):g.length=76/\g.take 76=g/\putAt fD 0 g=g/\(fD).length=76:=by have b:=a.all.1;have c:=hp.all.1;grind[sl]
theorem FX {c:Type}{y:c}{d:c->Bool}: ∀ {b:List c}{h:Nat}{a:c},b[h]? =some a->d a=true->(∀o<h,d (b.getD o y)=false)->b.find? d=some a
 | [],h,a,k,_,_=>by simp at k
 |p::b,0,a,k,r,_=>by simp_all
 |p::b,h+1,a,k,r,x=>by
  have z:d p=false:=x 0 aaU;rw[List.find?_cons,z];exact FX (by trivial) r λo k=>x (o+1) aaU
theorem a2I {c:b0}{b:b0->Bool}{a:List b0} (k: ∀d<a.length,b (a.getD d c)=false):a.find? b=none:=by rw[List.find?_eq_none];intro o h;obtain⟨p,r,rfl⟩:=a7l h;simp_all
def Found (c:List aU) (d:List UInt8) (b:R):Prop:=match c.find? (λa=>decide (a.name=d))with
 |some a=> ∃T,eF a T/\b= .aJ [.agg T,.v (.bool true)]
 |none=>b= .aJ [.agg fD,.v (.bool false)]
theorem find_spec (b:List aU) (C:List R) (P:Own) (o:List UInt8) (D:aB dY b C) (m:b.length<=1000000) (c:U):
  AC Tryz.prog 163 [.J C P,bn o] c λS p=>p=c/\Found b o S:=by
 have n:=D.len;have q:=λV=> @qR V o;have s:=kR;refine aK hm Po ?_;refine bp λh W=> ?_;rw[kR];have r:c.sub (c.set h (.cells fD)):=U.af U.a6 W;have E:(c.set h (.cells fD)) h=some (.cells fD):=U.ai _ _ _;generalize c.set h (.cells fD)=e at*;obtain⟨_,_,_,t⟩:=oU hp;have u:=(oU hp).2.2.1;have v:=hp.all.2.1;refine cg [1,4,8,9] (λa:Nat=> [(10,.v (.int .i64 a))]) (λa p=>e.sub p/\a<=b.length/\ ∀d<a,(b.getD d default).name≠o) (λa=>b.length - a) 0 ⟨⟨U.a6,aaU,λd w=>by omega⟩,aO⟩ ?_;rintro a A ⟨k,B,x⟩ H;have I:=U.aI (k _ _ E);refine aa ?_;refine aH (λf=> ?_) λf=> ?_
 .have F:b[a]? =some (b.getD a default):=by simp_all
  obtain⟨_,K,T,rfl,G⟩:=D.get F;generalize g:b.getD a default=M at*;obtain⟨i,N,O,_⟩:=oU G;have Q:=G.all.2.2.1;have X:=iE (n:= .agg T) i;refine aa ?_;refine aN λj y=> ?_;have l:h≠j:=by rintro rfl;rw[k _ _ E]at y;cases y
  have Y:=a6I l;refine aa ?_;refine aH (λz=> ?_) λz=> ?_
  .refine⟨U.af (U.au r k) (U.bI (U.au r k) y),?_⟩;rw[Found,FX F (by simp[z]) λd L=>by simpa using x d L];simp_all
  .exact⟨a+1,⟨aaU,upto x (by rw[g];exact z)⟩,rfl,aaU⟩
 .refine⟨U.au r k,?_⟩;rw[Found,a2I λd L=>by simpa using x d aaU]
def gd (c:ag->Nat->aq->List (List UInt8)->Int×List (List UInt8)) (d:ag):List aU->List (List UInt8)->Int×List (List UInt8)
 | [],b=>(0,b)
 |a::h,b=>if 8<a.aD.length+1 then(1,b)else if(gb (c d (a.aD.length+1)) [a.bo,a.bu] b).1=0 then gd c d h (gb (c d (a.aD.length+1)) [a.bo,a.bu] b).2 else gb (c d (a.aD.length+1)) [a.bo,a.bu] b
def lJ (a:aU):Nat:=bQ a.bo+bQ a.bu
def a2J:(List.replicate 32 (R.v (.int .u8 0))++ [R.J [] .nil,.J [] .nil]++ [R.v (.int .i64 0),.v (.int .i64 0)]++ [R.J [] .nil]++List.replicate 32 (R.v (.int .u8 0))++ [R.J [] .nil,.J [] .nil]++ [R.v (.int .i64 0),.v (.int .i64 0)]++ [R.J [] .nil]).length=74:=aaV
def FY (M:Nat) (D:ag->Nat->aq->List (List UInt8)->Int×List (List UInt8)) (k3:vA M D) (k4:fu Tryz.prog M=true) (E g:U) (p r F G:Nat) (h:ag) (i:bq g F G h) (q:G≠r) (W:List (List UInt8)) (j:eb E g p r W) (c:List aU) (k5:List R) (n0:Own) (k6:aB dY c k5) (a34:c.length<=1000)
  (s: ∀a∈c,(a.bo≠az->1<=a.bo.size)/\(a.bu≠az->1<=a.bu.size)) (n1:W.length+(c.map lJ).sum<=100000000):
  AC Tryz.prog 31 [.ptr p 0,.ptr F 0,.J k5 n0,.bG M [] []] g λn2 d=>de p r g d/\eb E d p r (gd D h c W).2/\n2= .v (.int .i64 (gd D h c W).1):=by
 have a36:=k6.len;refine aK hm Lp ?_;refine cg [0,1,3,15,16] (λb:Nat×List (List UInt8)=> [(17,.v (.int .i64 (b.1:Int)))]) (λb d=>b.1<=c.length/\eb E d p r b.2/\de p r g d/\bq d F G h/\b.2.length+((c.drop b.1).map lJ).sum<=100000000/\gd D h (c.drop b.1) b.2=gd D h c W) (λb=>c.length - b.1) (0,W) ⟨⟨a7b _,j,uM,i,n1,rfl⟩,aO⟩ ?_;rintro⟨L,y⟩ N ⟨n3,t,l,n4,k7,o⟩ n5
 dsimp only at n3 t k7 o|-
 refine aa ?_;refine aH (λn9=> ?_) λn9=> ?_
 .have O:L<c.length:=aaU;have k8:=drop_cons (a:=c) (b:=default) O;have k9:c[L]? =some (c.getD L default):=by simp[List.getD,O]
  have a00:=a6D k9;generalize c.getD L default=a at*;obtain⟨_,a38,T,rfl,u⟩:=k6.get k9;rw[k8,gd]at o;rw[k8,a6Q,a7Q,lJ]at k7;have a01:=u.all;have s:=s a a00;obtain⟨a42,a02,_,a43,v,w,A,B,H,I,_,l0,l1⟩:=a01;obtain⟨l2,a03⟩:=u.k;obtain⟨l3,a04⟩:=u.z;have m:=(aP (N:=v) (e5:=w) (h6:=A) l2).len;have l4:=(aP (N:=B) (e5:=H) (h6:=I) l3).len;have a05:aL true 37 (T.drop 2)= .agg (ab a.bo v w A):=by rw[aL,if_pos rfl,l0]
  have a06:aL true 37 (T.drop 39)= .agg (ab a.bu B H I):=by rw[aL,if_pos rfl,l1]
  have a47:aL true 76 T= .agg T:=by rw[aL,if_pos rfl,a02]
  have a48:= @U.set_set;refine aa ?_;refine bp λl5 a07=> ?_;have P:=U.af (X:= .cells T) (U.a6 (f:=N)) a07;have cd:=U.ai N l5 (.cells T);have a52:=U.ae cd;generalize N.set l5 (.cells T)=l6 at*;refine bk (tw a T u l6) ?_;refine aH (λbt=> ?_) λbt=> ?_
  .rw[if_pos aaU]at o;rw[<-o];exact⟨_,U.a6,l.trans (de.of P),t.mono P,rfl⟩
  rw[if_neg aaU]at o;have l7:=a2J;have a08:=λd y (i:bq d F G h) (j:eb E d p r y) (Q:y.length+bQ a.bo<=100000000)=>k3 E d p r F G h (a.aD.length+1) y a.bo v w A aaU aaU i q j l2 a03 s.1 Q;have a09:=λd y (i:bq d F G h) (j:eb E d p r y) (Q:y.length+bQ a.bu<=100000000)=>k3 E d p r F G h (a.aD.length+1) y a.bu B H I aaU aaU i q j l3 a04 s.2 Q;generalize a10:ab a.bo v w A=x at*;generalize a11:ab a.bu B H I=z at*;generalize List.replicate 32 (R.v (.int .u8 0))++ [R.J [] .nil,.J [] .nil]++ [R.v (.int .i64 0),.v (.int .i64 0)]++ [R.J [] .nil]++List.replicate 32 (R.v (.int .u8 0))++ [R.J [] .nil,.J [] .nil]++ [R.v (.int .i64 0),.v (.int .i64 0)]++ [R.J [] .nil]=l8 at*;have a13:(putAt l8 0 x).length=74:=by simp[putAt,m,l7]
  have a14:putAt (putAt l8 0 x) 37 z=x++z:=by simp[putAt,m,l4,l7,a8b,a9r]
  have a56:(R.agg z).cells=z:=rfl;have a57:(R.agg x).cells=x:=rfl;have a61:(x++z).length=74:=by simp[m,l4]
  have a62:(x++z).take 37=x:=a8N m;have a63:(x++z).drop 37=z:=a9h m;have a65:x.take 37=x:=a6z aaU;have a68:z.take 37=z:=a6z aaU;have a15:=n4.mono P;have a16:=t.mono P;refine aa ?_;clear a10 a11 a05 a06 l0 l1 a13 a14;refine cg [0,1,3,11,15,16,17,29] (λb:Nat×List (List UInt8)=> [(30,.v (.int .i64 (b.1:Int)))]) (λb d=>b.1<=2/\eb E d p r b.2/\de p r l6 d/\bq d F G h/\b.2.length+(([a.bo,a.bu].drop b.1).map bQ).sum+((c.drop (L+1)).map lJ).sum<=100000000/\gb (D h (a.aD.length+1)) ([a.bo,a.bu].drop b.1) b.2=gb (D h (a.aD.length+1)) [a.bo,a.bu] y) (λb=>2 - b.1) (0,y) ⟨⟨aaU,a16,uM,a15,by simp only[a8a,a6Q,a7W,a7Q,a9D];omega,rfl⟩,aO⟩ ?_;rintro⟨X,S⟩ l9 ⟨a18,e,Y,K,f,k⟩ n5
  dsimp only at a18 e f k|-
  generalize gb (D h (a.aD.length+1)) [a.bo,a.bu] y=a69 at*;refine aa ?_;refine aH (λc2=> ?_) λc2=> ?_
  .rcases(by omega:X=0\/X=1)with rfl|rfl
   .have Z:S.length+bQ a.bo<=100000000:=by simp at f;omega
    refine aa ?_;refine bp λa19 j9=> ?_;have C:=U.af (X:= .cells x) (U.a6 (f:=l9)) j9;refine eL k4 (a08 _ S (K.mono C) (e.mono C) Z) ?_;rintro _ a27 ⟨n,V,k0,rfl⟩;have a29:=(K.mono C).fh (e.mono C) n q;have k1:=Y.trans ((de.of C).trans n);rw[show [a.bo,a.bu].drop 0=a.bo:: [a.bu]from rfl,gb]at k;generalize D h (a.aD.length+1) a.bo S=res at*;obtain⟨a30,k2⟩:=res
    dsimp only at V k0 k|-
    refine aa ?_;refine aH (λaE=> ?_) λaE=> ?_
    .rw[if_neg aE]at k;subst k;rw[if_neg aE]at o;rw[<-o];exact⟨_,U.a6,l.trans ((de.of P).trans k1),V,rfl⟩
    .rw[if_pos aE]at k;exact⟨(1,k2),⟨aaU,V,by have:=f;simp only[a8a,a7S,aaK,a6Q,a7W,a7Q,a9D]at this|-;omega,k⟩,rfl,aaU⟩
   .have Z:S.length+bQ a.bu<=100000000:=by simp at f;omega
    refine aa ?_;refine bp λa19 j9=> ?_;have C:=U.af (X:= .cells z) (U.a6 (f:=l9)) j9;refine eL k4 (a09 _ S (K.mono C) (e.mono C) Z) ?_;rintro _ a27 ⟨n,V,k0,rfl⟩;have a29:=(K.mono C).fh (e.mono C) n q;have k1:=Y.trans ((de.of C).trans n);rw[show [a.bo,a.bu].drop 1=a.bu:: []from rfl,gb]at k;generalize D h (a.aD.length+1) a.bu S=res at*;obtain⟨a30,k2⟩:=res
    dsimp only at V k0 k|-
    refine aa ?_;refine aH (λaE=> ?_) λaE=> ?_
    .rw[if_neg aE]at k;subst k;rw[if_neg aE]at o;rw[<-o];exact⟨_,U.a6,l.trans ((de.of P).trans k1),V,rfl⟩
    .rw[if_pos aE]at k;exact⟨(2,k2),⟨aaU,V,by have:=f;simp only[a8a,a7S,aaK,a6Q,a7W,a7Q,a9D]at this|-;omega,k⟩,rfl,aaU⟩
  .obtain rfl:X=2:=aaU;rw[show [a.bo,a.bu].drop 2= []from rfl,gb]at k;subst k;rw[if_pos rfl]at o;exact⟨(L+1,S),⟨O,e,l.trans ((de.of P).trans Y),by have:=f;simp only[a8a,a7S,aaK,a7W,a9D]at this|-;omega,o⟩,rfl,by dsimp only;omega⟩
 .obtain rfl:L=c.length:=aaU;rw[a8G,gd]at o;rw[<-o];exact⟨_,U.a6,l,t,rfl⟩
def a2K (h:U) (k o:Nat) (b:ag) (x:bq h k o b) (a:List aU) (p:List R) (c:Own) (F:aB dY a p) (G:a.length<=1000) (L: ∀d∈a,(d.bo≠az->1<=d.bo.size)/\(d.bu≠az->1<=d.bu.size)) (P:(a.map lJ).sum<=100000000):
  AC Tryz.prog 9 [.ptr k 0,.J p c] h λy S=>h.sub S/\((gd gU b a []).1=0-> ∃c,y= .aJ [.J ((gd gU b a []).2.map bz) c,.v (.int .i64 0)])/\((gd gU b a []).1≠0->y= .aJ [.J [] .nil,.v (.int .i64 (gd gU b a []).1)]):=by
 refine aK hm KN ?_;refine ah (xZ _) ?_;rintro _ T ⟨V,z,j,C,rfl,D⟩;have W:=x.mono D.sub;have e:o≠z:=by obtain⟨_,⟨_,_,f,_⟩,_⟩:=x.mp;rintro rfl;rw[f]at C;cases C
 refine aa ?_;refine ah (FY _ _ FN aaZ _ T V z k o b W e [] D a p c F G L (by simpa using P)) ?_;rintro _ l ⟨m,E,rfl⟩;have n:=E.sub;obtain⟨⟨c,g,_⟩,_⟩:=id E;have eJ:=U.ae g;generalize gd gU b a []=res at*;obtain⟨q,s⟩:=res
 dsimp only at*
 refine aa ?_;refine aH (λi=> ?_) λi=> ?_
 .exact⟨λr=>r.elim,λ_=>trivial⟩
 .exact⟨λ_=>⟨c,rfl⟩,λr=>r.elim⟩
def a2L (h:U) (k o:Nat) (b:ag) (x:bq h k o b) (a:List aU) (p:List R) (c:Own) (F:aB dY a p) (G:a.length<=1000) (L: ∀d∈a,(d.bo≠az->1<=d.bo.size)/\(d.bu≠az->1<=d.bu.size)) (P:(a.map lJ).sum<=100000000):
  AC Tryz.prog 17 [.ptr k 0,.J p c] h λy S=>h.sub S/\((gd hL b a []).1=0-> ∃c,y= .aJ [.J ((gd hL b a []).2.map bz) c,.v (.int .i64 0)])/\((gd hL b a []).1≠0->y= .aJ [.J [] .nil,.v (.int .i64 (gd hL b a []).1)]):=by
 refine aK hm L1 ?_;refine ah (xZ _) ?_;rintro _ T ⟨V,z,j,C,rfl,D⟩;have W:=x.mono D.sub;have e:o≠z:=by obtain⟨_,⟨_,_,f,_⟩,_⟩:=x.mp;rintro rfl;rw[f]at C;cases C
 refine aa ?_;refine ah (FY _ _ FO aaZ _ T V z k o b W e [] D a p c F G L (by simpa using P)) ?_;rintro _ l ⟨m,E,rfl⟩;have n:=E.sub;obtain⟨⟨c,g,_⟩,_⟩:=id E;have eJ:=U.ae g;generalize gd hL b a []=res at*;obtain⟨q,s⟩:=res
 dsimp only at*
 refine aa ?_;refine aH (λi=> ?_) λi=> ?_
 .exact⟨λr=>r.elim,λ_=>trivial⟩
 .exact⟨λ_=>⟨c,rfl⟩,λr=>r.elim⟩
abbrev kS (a b:U) (c:List (List UInt8)) (d:R):Prop:=av a b 32 (flat (c.map bz)) d
def oV (c: ∀a∈e6,a.length=32):aW 32 (e6.map bz):=λa d=>by
 obtain⟨b,h,rfl⟩:=a6S.1 d;show(b.map ak).length=32;simp[c b h]
def tx (c: ∀a∈e6,a.length=32) (d:A.length=32): ∀a∈dS e6 A,a.length=32:=by
 unfold dS;split
 .exact c
 .intro a h;rcases a6L.1 h with b|b
  .exact c a b
  .obtain rfl:=a6U.1 b;exact d
def zq (E o:U) (a:List (List UInt8)) (F:R) (h:kS E o a F) (x: ∀d∈a,d.length=32) (b:List UInt8) (p:b.length=32) (v:a.length<=100000000):
  AC Tryz.prog 36 [F,bz b] o λW e=>kS E e (dS a b) W:=by
 have w:(b.map ak).length=32:=by simp[p]
 have A:aL true 32 (b.map ak)=bz b:=by rw[aL,if_pos rfl,a6z aaU];rfl
 have G:(bz b).cells=b.map ak:=rfl;refine aK hm Lz ?_;refine bp λf g=> ?_;have i:=U.af (X:= .cells (b.map ak)) (U.a6 (f:=o)) g;have aE:=U.ai o f (.cells (b.map ak));have B:=U.ae aE;have h:=h.mono i;have L:=bJ.dv h aaU rfl (oV x);have j:=L.len;rw[a6J]at j;refine gL [0,3] (λc:Nat=> [(5,.v (.int .i64 (c:Int)))]) (λc=>c<=a.length/\b∉a.take c) (λc=>a.length - c) 0 ⟨a7b _,aaV⟩ aO ?_;rintro c ⟨H,y⟩ I;refine aa ?_;refine aH (λk=> ?_) λk=> ?_
 .have z:c<a.length:=aaU;have l:=eR (a:=a) (b:= []) z;have P:a[c]? =some (a.getD c []):=by simp[List.getD,z]
  have S:=a6D P;generalize a.getD c []=d at*;have C:=x d S;obtain⟨K,M,m⟩:=L.get c (bz d) (by simp[P]);have n:=m.ld _ U.a6 true 32 aaU (by show 32<=(d.map ak).length;simp[C]);rw[show aL true 32 (bz d).cells=bz d by rw[aL,if_pos rfl,a6z (by show(d.map ak).length<=32;simp[C])];rfl]at n;have N:=λq=>xN (I:=false) (b:=q) C p;refine aa ?_;refine aH (λk=> ?_) λk=> ?_
  .subst k;exact⟨_,U.a6,by rw[dS,if_pos S];exact h⟩
  .exact⟨c+1,⟨z,by rw[l,a6L,a6U];exact λD=>D.elim y λD=>k D.symm⟩,rfl,aaU⟩
 .obtain rfl:c=a.length:=aaU;rw[a6V]at y;refine aa ?_;refine eK (by simp[aW,G,p]) aaV λO s=> ?_;have t:=h.mono (U.af (X:= .cells (flat [bz b])) U.a6 s);have T:(flat (a.map bz)).length=a.length*32:=by rw[cR (oV x),a6J]
  have r:(flat [bz b]).length=1*32:=by simp[flat,G,p]
  have u:flat (a.map bz)++flat [bz b]=flat ((a++ [b]).map bz):=by simp[flat]
  refine aa ?_;refine fb t aaU (nC r) r (by rw[T,r];omega) (by rw[T,r];omega) λQ X V=> ?_;rw[u]at V;refine aa ?_;rw[dS,if_neg y];exact⟨_,U.a6,V⟩
end Go.Proofs.YtcfpcblgmmeioaaGreat
