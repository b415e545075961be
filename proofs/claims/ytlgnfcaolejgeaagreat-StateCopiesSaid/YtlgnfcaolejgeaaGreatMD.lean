import Derived.Test.YtlgnfcaolejgeaaGreatMC
set_option linter.all false
set_option maxRecDepth 100000
namespace Go.Proofs.YtlgnfcaolejgeaaGreat
open Go Go.bx
structure Rd where
 b:List UInt8
 e:Int
def hS (a:Rd) (b:Own):bq:= .cells [.J (a.b.map al) b,.v (.int .i64 a.e)]
def bY (a:U) (b:Nat) (c:Rd) (d:U):Prop:= ∃h,(a.set b (hS c h)).sub d
variable{f t e4:U}{e i v O b8 j0:Nat}
def bY.cell {a:Rd} (b:bY t e a f): ∃c,f e=some (.cells [.J (a.b.map al) c,.v (.int .i64 a.e)]):=by obtain⟨c,b⟩:=b;exact⟨c,b _ _ (U.ah _ _ _)⟩
def bY.mono {b:Rd} (a:bY f e b t) (c:t.sub e4):bY f e b e4:=by obtain⟨d,a⟩:=a;exact⟨d,U.ar a c⟩
theorem bY.base {b:Rd} (a:bY f e b e4) (c:t.sub f):bY t e b e4:=by obtain⟨d,a⟩:=a;exact⟨d,U.ar (U.kW c) a⟩
theorem bY.set {c d:U}{a:Nat}{o:Rd} (b:bY c a o d) (h:Rd) (k:Own):bY c a h (d.set a (hS h k)):=by obtain⟨p,b⟩:=b;exact⟨k,U.CA b⟩
variable{Y:bq}
def bY.get {b:Rd} (a:bY f i b t) (c:e≠i) (d:f e=some Y):t e=some Y:=by obtain⟨h,a⟩:=a;exact a _ _ (by rw[U.ao _ _ c];exact d)
def bY.new {c:Rd}{ob:bq} (a:bY f i c t) (d:t e=none):e≠i/\f e=none/\bY (f.set e ob) i c (t.set e ob):=by
 obtain⟨h,k⟩:=a.cell;have b:e≠i:=by rintro rfl;rw[d]at k;cases k
 obtain⟨h,a⟩:=a;have o:=U.bF a d;rw[U.ao _ _ b]at o;refine⟨b,o,h,?_⟩;rw[U.dX _ b];exact U.kW a
def bY.other {b:Rd}{ob:bq} (a:bY f e b t) (c:i≠e):bY (f.set i ob) e b (t.set i ob):=by obtain⟨d,a⟩:=a;refine⟨d,?_⟩;rw[U.dX _ c];exact U.kW a
def CH (a:List UInt8) (c:Own) (b:U) (p:c= .nil->a= []) (r:a.length<=70368744177664):
  AC Tryz.prog 108 [.J (a.map al) c] b λx y=> ∃d,b d=none/\x= .ptr d 0/\bY b d ⟨a,0⟩ y:=by
 refine bd hm Mm a9a ?_;refine aE (c2 @aZ @ba) ?_;refine ai (xb a c b p r) ?_;rintro _ D ⟨h,k,rfl⟩;have o:putAt [R.J [] Own.nil,R.v (Value.int IntKind.i64 0)] 0 [R.J (a.map al) h]= [R.J (a.map al) h,R.v (Value.int IntKind.i64 0)]:=rfl;refine aE (aH @o @aZ @ba) ?_;refine aM λz C=> ?_;refine aE (aH @o @aZ @ba) ?_;exact⟨_,U.a1,z,U.bF k.sub C,rfl,h,U.kW k.sub⟩
def mc (a:Rd) (e:Int):Rd:=if a.e=0 then {a with e:=e}else a
variable{n b3:R}
def Xy {a:R}:putAt [n,a] 1 [b3]= [n,b3]:=rfl
def Xz {a:R}:putAt [a,n] 0 [b3]= [b3,n]:=rfl
def sd (k o:U) (c:Nat) (a:Rd) (e:Int) (d:bY k c a o):
  AC Tryz.prog 176 [.ptr c 0,.v (.int .i64 e)] o λ_ p=>bY k c (mc a e) p:=by
 obtain⟨r,h⟩:=d.cell;refine bd hm Ot a9a ?_;by_cases b:a.e=0
 .refine aE (bs (U.ae h) (U.aJ h) @b @Xy @aZ @ba) ?_;refine⟨_,U.a1,?_⟩;rw[mc,if_pos b];exact d.set {a with e:=e} r
 .refine aE (aI (U.ae h) @b @aZ @ba) ?_;refine⟨_,U.a1,?_⟩;rw[mc,if_neg b];exact d
def dp (a:Rd) (c:Nat):Option (List UInt8)×Rd:=
 if a.e=0 then(if a.b.length<c then(none,{a with e:=20})else(some (a.b.take c),{a with b:=a.b.drop c}))else(none,a)
def CI (p r:U) (k:Nat) (a:Rd) (c:Nat) (F:c<=100000000) (h:bY p k a r):
  AC Tryz.prog 173 [.ptr k 0,.v (.int .i64 c)] r λC D=>bY p k (dp a c).2 D/\
   (∃x,(x= .nil->(dp a c).1.getD []= [])/\C= .aK [.J (((dp a c).1.getD []).map al) x,.v (.bool (dp a c).1.isSome)]):=by
 obtain⟨x,o⟩:=h.cell;refine bd hm Oj a9a ?_;by_cases d:a.e=0
 .by_cases c2:a.b.length<c
  .have y:(a.b.length:Int)<c:=a8Z;have e:dp a c=(none,{a with e:=20}):=by rw[dp,if_pos d,if_pos c2]
   rw[e];refine aE (bm (U.ae o) @d @y @aZ @ba) ?_;refine ai (sd p r k a 20 h) ?_;intro C G z;rw[mc,if_pos d]at z;obtain⟨L,E⟩:=z.cell;refine aE (aH (U.ae E) @aZ @ba) ?_;exact⟨_,U.a1,z,.nil,λ_=>rfl,rfl⟩
  .have y: ¬(a.b.length:Int)<c:=a8Z;have e:dp a c=(some (a.b.take c),{a with b:=a.b.drop c}):=by rw[dp,if_pos d,if_neg c2]
   rw[e];refine aE (c6 (U.ae o) (U.aJ o) @d @y @Xz @aZ @ba) ?_;exact⟨_,U.a1,h.set ⟨a.b.drop c,0⟩ .any,.any,(λh=>by cases h),rfl⟩
 .have e:dp a c=(none,a):=by rw[dp,if_neg d]
  rw[e];refine aE (aI (U.ae o) @d @aZ @ba) ?_;exact⟨_,U.a1,h,.nil,λ_=>rfl,rfl⟩
def u4 (d h:U) (c:Nat) (b:Rd) (a:Nat) (o:a<=100000000) (p:bY d c b h):
  AC Tryz.prog 173 [.ptr c 0,.v (.int .i64 a)] h λr x=>bY d c (dp b a).2 x/\
   (∃k,r= .aK [.J (((dp b a).1.getD []).map al) k,.v (.bool (dp b a).1.isSome)]):=
 (CI d h c b a o p).mono λ_ _ ⟨y,k,_,z⟩=>⟨y,k,z⟩
def dt (a:Rd):UInt8×Rd:=((dp a 1).1.getD []|>.headD 0,(dp a 1).2)
variable{B:List UInt8}
theorem qx {a:Rd} (b:(dp a e).1=some B):B.length=e:=by grind[dp,Option.some.injEq,List.length_take]
def pa (c d:U) (b:Nat) (a:Rd) (r:bY c b a d):
  AC Tryz.prog 109 [.ptr b 0] d λk x=>bY c b (dt a).2 x/\k= .v (.int .u8 (dt a).1.toNat):=by
 refine bd hm Mo a9a ?_;refine aE (c2 @aZ @ba) ?_;refine ai (u4 c d b a 1 a8Z r) ?_;rintro k C ⟨o,D,rfl⟩;unfold dt;have h:=λaP=>qx (a:=a) (e:=1) (B:=aP);generalize dp a 1=y at*;obtain⟨aP,E⟩:=y;cases aP with
 |none=>simp only[a6p,a7G]at*;refine aE (c2 @aZ @ba) ?_;exact⟨_,U.a1,o,rfl⟩
 |some aP=>
  simp only[a6P,a6r]at*;have h:=h aP rfl
  match aP,h with
  | [p],_=>have z:ez 1 (some (al p))=some (.bV [.v (.int .u8 p.toNat)]):=rfl;simp -dsimp -implicitDefEqProofs (disch:=first|omega|assumption|(simp only[bk,Nat.reduceAdd];try omega)) only[hJ,z,go_sem,↓reduceIte,Nat.reduceEqDiff,Nat.reduceAdd,Nat.reduceSub,Nat.reduceMul,Nat.reduceLeDiff,Nat.reduceLT,Int.reduceNeg,Int.reduceToNat,Int.reduceAdd,Int.reduceSub,Int.reduceMul,Int.reduceLT,Int.reduceLE,Int.reduceEq,Int.reduceNe,aZ,ba,List.headD_cons];exact⟨_,U.a1,o⟩
def fi (a:List UInt8):Nat:=a.foldl (λb c=>b*256+c.toNat) 0
def iy (a:Rd):Int×Rd:=
 match(dp a 8).1 with
 |none=>(0,(dp a 8).2)
 |some aP=>((BitVec.ofNat 64 (fi aP)^^^9223372036854775808#64).toInt,(dp a 8).2)
def CJ: ∀(aP:List UInt8) (a:Nat),aP.foldl (λa b=>a*256+b.toNat) a+1<=(a+1)*256^aP.length
 | [],a=>by simp
 |b::aP,a=>by
  have c:=CJ aP (a*256+b.toNat);have d:=b.toNat_lt;rw[a5C,a4C,a8k];refine a5u c ?_;rw[a8U (256^aP.length) 256,<-Nat.mul_assoc];exact a4L _ a8Z
def CK (a:List UInt8):fi a<256^a.length:=by have:=CJ a 0;rw[fi];omega
def XA (a:List UInt8) (b:Nat) (c:b<a.length):fi (a.take (b+1))=fi (a.take b)*256+(a.getD b 0).toNat:=by rw[a8E,a4w c,fi,a6v];simp[fi,c]
theorem XB (a b:Nat) (c:a<18446744073709551616) (d:b<18446744073709551616):bn .or (.int .u64 a) (.int .u64 b)=some (.int .u64 ((a|||b:Nat):Int)):=by have h:bn .or (.int .u64 a) (.int .u64 b)=some (.int .u64 (IntKind.u64.wrap (BitVec.ofInt 64 (a)|||BitVec.ofInt 64 (b)).toNat)):=rfl;have k:=(BitVec.ofInt 64 (a)|||BitVec.ofInt 64 (b)).isLt;grind[wrap_u64,BitVec.toNat_or,BitVec.toNat_ofNat,Nat.mod_eq_of_lt]
def CL (a b:Nat) (d:b<256):a*256|||b=a*256+b:=by have c:=a7d (i:=8) a8Z a;rw[a6M]at c;exact c.symm
def XC (a:Nat) (c:a<72057594037927936):bn .shl (.int .u64 a) (.int .u64 8)=some (.int .u64 ((a*256:Nat):Int)):=by have b:bn .shl (.int .u64 a) (.int .u64 8)=some (.int .u64 (IntKind.u64.wrap ((a)*2^8))):=rfl;rw[b,wrap_u64 a8Z a8Z];simp
theorem XD (a:Nat) (b:a<18446744073709551616):bn .xor (.int .u64 a) (.int .u64 9223372036854775808)=some (.int .u64 ((BitVec.ofNat 64 a^^^9223372036854775808#64).toNat:Int)):=by have c:bn .xor (.int .u64 a) (.int .u64 9223372036854775808)=some (.int .u64 (IntKind.u64.wrap (BitVec.ofInt 64 (a)^^^BitVec.ofInt 64 9223372036854775808).toNat)):=rfl;grind[BitVec.ofNat,BitVec.ofInt,wrap_u64]
def XE (a:BitVec 64):IntKind.i64.wrap (a.toNat:Int)=a.toInt:=by have b:((2:Int)^IntKind.i64.bits)=18446744073709551616:=rfl;have c:((2:Int)^(IntKind.i64.bits - 1))=9223372036854775808:=rfl;have d:=a.isLt;simp only[IntKind.wrap,b,c,IntKind.signed,a5U,decide_eq_true_eq,BitVec.toInt_eq_toNat_cond];omega
theorem XF (k o:U) (h:Nat) (c:Rd) (S:bY k h c o):
  AC Tryz.prog 282 [.ptr h 0] o λy p=>bY k h (iy c).2 p/\y= .v (.int .i64 (iy c).1):=by
 refine bd hm R2 a9a ?_;refine aE (c2 @aZ @ba) ?_;refine ai (u4 k o h c 8 a8Z S) ?_;rintro y T ⟨z,V,rfl⟩;unfold iy;have C:=λaP=>qx (a:=c) (e:=8) (B:=aP);generalize dp c 8=W at*;obtain⟨aP,n⟩:=W;cases aP with
 |none=>simp only[a6p,a7G]at*;refine aE (c2 @aZ @ba) ?_;exact⟨_,U.a1,z⟩
 |some aP=>
  simp only[a6P,a6r]at*;have C:=C aP rfl;refine aE (c2 @aZ @ba) ?_;refine cr (λb p=> ∃a:Nat,a<=8/\p=T/\b 15= .J (aP.map al) V/\b 16= .v (.int .i64 aP.length)/\b 17= .v (.int .i64 a)/\b 5= .v (.int .u64 (fi (aP.take a))))
   (λb _=>match b 17 with| .v (.int _ e)=>(8 - e).toNat| _=>0) ⟨0,a8Z,rfl,?_⟩ ?_
  .refine aE (aH @a6s.{0} @aZ @ba) ?_;rfl
  .rintro b q ⟨a,s,rfl,D,E,F,r⟩;have x:=CK (aP.take a);rw[a4z]at x;by_cases G:(a:Int)<aP.length
   .have L:a<aP.length:=a8Z;have t:fi (aP.take a)<72057594037927936:=by refine a5J x ?_;refine a5u (a6j (j:=7) a8Z a8Z) a9d
    have f:=wH L;have g:=XA aP a L;generalize u:aP.getD a 0=d at*;have v:=d.toNat_lt;have i:IntKind.u64.wrap (d.toNat)=d.toNat:=wrap_u64 a8Z a8Z;generalize fi (aP.take a)=P at*;have j:bn .or (.int .u64 ((P*256:Nat))) (.int .u64 (d.toNat))=some (.int .u64 ((P*256+d.toNat:Nat))):=by rw[XB _ _ a8Z a8Z,CL _ _ a8Z]
    have l:ez 1 (aP.map al)[a]? =some (.bV [.v (.int .u8 d.toNat)]):=by rw[f];rfl
    simp -dsimp -implicitDefEqProofs (disch:=first|omega|assumption|(simp only[bk,Nat.reduceAdd];try omega)) only[D,E,F,r,G,go_sem,↓reduceIte,Nat.reduceEqDiff,Nat.reduceAdd,Nat.reduceSub,Nat.reduceMul,Nat.reduceLeDiff,Nat.reduceLT,Int.reduceNeg,Int.reduceToNat,Int.reduceAdd,Int.reduceSub,Int.reduceMul,Int.reduceLT,Int.reduceLE,Int.reduceEq,Int.reduceNe,aZ,ba,hJ,l,XC,i,j];refine⟨⟨a+1,a8Z,a9a,?_⟩,a8Z⟩;rw[g]
   .obtain rfl:a=8:=a8Z;have m:aP.take 8=aP:=a4x a8Z;rw[m]at r x;have w:fi aP<18446744073709551616:=by simp_all
    simp -dsimp -implicitDefEqProofs (disch:=first|omega|assumption|(simp only[bk,Nat.reduceAdd];try omega)) only[D,E,F,r,G,go_sem,↓reduceIte,Nat.reduceEqDiff,Nat.reduceAdd,Nat.reduceSub,Nat.reduceMul,Nat.reduceLeDiff,Nat.reduceLT,Int.reduceNeg,Int.reduceToNat,Int.reduceAdd,Int.reduceSub,Int.reduceMul,Int.reduceLT,Int.reduceLE,Int.reduceEq,Int.reduceNe,aZ,ba,XD,XE];exact⟨_,U.a1,z⟩
def mZ (a:Rd):List UInt8×Rd:=((dp a 32).1.getD u1,(dp a 32).2)
def CM (a:Rd):(mZ a).1.length=32:=by
 unfold mZ;have b:=λaP=>qx (a:=a) (e:=32) (B:=aP);cases c:(dp a 32).1 with
 |none=>rfl
 |some aP=>exact b aP c
def CN (r D:U) (h:Nat) (b:Rd) (k:bY r h b D):
  AC Tryz.prog 256 [.ptr h 0] D λc P=>bY r h (mZ b).2 P/\c=cG (mZ b).1:=by
 refine bd hm QG a9a ?_;have E:=CM b;refine aE (c2 @aZ @ba) ?_;refine aM λS T=> ?_;obtain⟨F,V,k⟩:=k.new (ob:=eN) T;refine aE (c2 @aZ @ba) ?_;refine aM λW e=> ?_;obtain⟨G,x,k⟩:=k.new (ob:=eN) e;obtain⟨d,x⟩:=U.gH x;refine aE (c2 @aZ @ba) ?_;refine ai (u4 _ _ h b 32 a8Z k) ?_;rintro c f ⟨y,i,rfl⟩;have o:=y.get F (by rw[U.ao _ _ (a4F d)];exact U.ah _ _ _);have a:=y.get G (U.ah _ _ _);have L: ∀(c z),bY r h (dp b 32).2 ((f.set W c).set S z):=λc z=>by
  have:=(y.other (ob:=c) G).other (ob:=z) F;rw[U.set_set]at this;refine this.base ?_;rw[U.dX _ d,U.set_set];exact U.af (U.af U.a1 V) x
 unfold mZ at E|-;have p:=λaP=>qx (a:=b) (e:=32) (B:=aP);generalize dp b 32=g at*;obtain⟨aP,j⟩:=g;unfold eN at o a;have l:(List.replicate 32 (R.v (Value.int IntKind.u8 0))).length=32:=rfl;cases aP with
 |none=>
  simp only[a6p,a7G]at*;simp -dsimp -implicitDefEqProofs (disch:=first|omega|assumption|(simp only[bk,Nat.reduceAdd];try omega)) only[go_sem,↓reduceIte,Nat.reduceEqDiff,Nat.reduceAdd,Nat.reduceSub,Nat.reduceMul,Nat.reduceLeDiff,Nat.reduceLT,Int.reduceNeg,Int.reduceToNat,Int.reduceAdd,Int.reduceSub,Int.reduceMul,Int.reduceLT,Int.reduceLE,Int.reduceEq,Int.reduceNe,aZ,ba,U.ae a,U.aJ a,wL (U.ae a)];refine C2 ?_ a ?_ ?_
  .simp[aS]
  .simp
  have C:putAt (List.replicate 32 (R.v (Value.int IntKind.u8 0))) 0 (flat (List.take 32 []))=u1.map al:=rfl;rw[C];refine aE (c6 @E @d (a4F d) (U.ae o) (U.aJ o) @aZ @ba) ?_;exact⟨_,U.a1,L _ _⟩
 |some aP=>
  simp only[a6P,a6r]at*;have p:=p aP rfl;simp -dsimp -implicitDefEqProofs (disch:=first|omega|assumption|(simp only[bk,Nat.reduceAdd];try omega)) only[go_sem,↓reduceIte,Nat.reduceEqDiff,Nat.reduceAdd,Nat.reduceSub,Nat.reduceMul,Nat.reduceLeDiff,Nat.reduceLT,Int.reduceNeg,Int.reduceToNat,Int.reduceAdd,Int.reduceSub,Int.reduceMul,Int.reduceLT,Int.reduceLE,Int.reduceEq,Int.reduceNe,aZ,ba,U.ae a,U.aJ a,wL (U.ae a)];refine C2 ?_ a ?_ ?_
  .rw[tG];trivial
  .simp
  have C:putAt (List.replicate 32 (R.v (Value.int IntKind.u8 0))) 0 (flat (List.take 32 (List.map al aP)))=aP.map al:=by rw[a4x (by simp[p]),ru,rS (by simp[p])]
  rw[C];refine aE (c6 @p @d (a4F d) (U.ae o) (U.aJ o) @aZ @ba) ?_;exact⟨_,U.a1,L _ _⟩
def pb (a:Rd):Rd:=if 0<a.b.length then mc a 22 else a
def CO (c d:U) (b:Nat) (a:Rd) (h:bY c b a d):
  AC Tryz.prog 111 [.ptr b 0] d λo y=>bY c b (pb a) y/\o= .v (.int .i64 (pb a).e):=by
 obtain⟨C,p⟩:=h.cell;refine bd hm Ms a9a ?_;unfold pb;by_cases r:0<a.b.length
 .have k:(0:Int)<a.b.length:=a8Z;refine aE (aI (U.ae p) @k @aZ @ba) ?_;refine ai (sd c d b a 22 h) ?_;intro o D x;obtain⟨E,z⟩:=x.cell;rw[if_pos r];refine aE (aH (U.ae z) @aZ @ba) ?_;exact⟨_,U.a1,x⟩
 .have k: ¬(0:Int)<a.b.length:=a8Z;rw[if_neg r];refine aE (aI (U.ae p) @k @aZ @ba) ?_;exact⟨_,U.a1,h⟩
def fj (a:Nat):List UInt8:= [UInt8.ofNat (a>>>16),UInt8.ofNat (a>>>8),UInt8.ofNat a]
def hT (a:List UInt8):List UInt8:=fj a.length++a
def du (a:List Int):List UInt8:=UInt8.ofNat a.length::a.flatMap hR
theorem ks (a:Nat):(fj a).length=3:=rfl
theorem xd (a:List UInt8):(hT a).length=3+a.length:=by simp[hT,fj];omega
theorem o7 (a:List Int):(a.flatMap hR).length=8*a.length:=by
 induction a with
 |nil=>rfl
 |cons b a ih=>rw[a4Y,a4y,ih,CG,a4C];omega
def xe (a:List Int):(du a).length=1+8*a.length:=by rw[du,a4C,o7];omega
theorem CP (b a:Nat) (c:a<=64):bn .shr (.int .i64 (b:Int)) (.int .u64 (a:Int))=some (.int .i64 ((b>>>a:Nat):Int)):=by
 have d:bn .shr (.int .i64 (b)) (.int .u64 (a))=some (.int .i64 ((b:Int).fdiv (2^a))):=by have hm:min a IntKind.i64.bits=a:=a6f c;simp[bn,fq,nL,hm]
 grind[Nat.shiftRight_eq_div_pow,Int.ofNat_fdiv]
def se (d h:U) (b:Nat) (c:List UInt8) (a:Nat) (F:a<=1048576) (r:cv d b c h) (G:c.length<=1000000000000):
  AC Tryz.prog 169 [.ptr b 0,.v (.int .i64 a)] h λ_ x=>cv d b (c++fj a) x:=by
 refine bd hm Ob a9a ?_;have k:bn .shr (.int .i64 (a)) (.int .u64 16)=some (.int .i64 ((a>>>16))):=CP a 16 a8Z;have o:bn .shr (.int .i64 (a)) (.int .u64 8)=some (.int .i64 ((a>>>8))):=CP a 8 a8Z;have p:(0:Int)<=a:=a8Z;have c2:(a:Int)<=1048576:=a8Z;refine aE (bm @k @o @iq @p @c2) ?_;refine dc U.a1 (by simp[aS,R.cells]) λy z C=> ?_;refine aE (bm @k @o @iq @p @c2) ?_;refine ai (u3 d z b c (fj a) y (r.mono C.sub) (by rw[ks];omega)) ?_;intro L D E;refine eA ?_;exact⟨D,U.a1,E⟩
def CQ (c h:U) (b:Nat) (d a:List UInt8) (k:Own) (o:a.length<=1048576) (p:cv c b d h) (r:d.length<=1000000000000):
  AC Tryz.prog 104 [.ptr b 0,.J (a.map al) k] h λ_ x=>cv c b (d++hT a) x:=by
 refine bd hm Me a9a ?_;have c2: ¬(1048576:Int)<a.length:=a8Z;simp -dsimp -implicitDefEqProofs (disch:=first|omega|assumption|(simp only[bk,Nat.reduceAdd];try omega)) only[go_sem,simprocAttr,c2];refine ai (se c h b d a.length o p r) ?_;intro y z C;simp -dsimp -implicitDefEqProofs (disch:=first|omega|assumption|(simp only[bk,Nat.reduceAdd];try omega)) only[go_sem,simprocAttr];refine ai (u3 c z b _ a k C (by rw[a4y,ks];omega)) ?_;intro y D E;simp -dsimp -implicitDefEqProofs (disch:=first|omega|assumption|(simp only[bk,Nat.reduceAdd];try omega)) only[go_sem,simprocAttr];refine⟨D,U.a1,?_⟩;rw[hT,<-a4J];exact E
def ad (a:List Int):List R:=a.map λb=> .v (.int .i64 b)
def dJ {a:List Int}{b:Nat} (c:b<a.length):(ad a)[b]? =some (.v (.int .i64 (a.getD b 0))):=by simp[ad,c]
variable{q b6:List Int}
theorem bH:(ad q).length=q.length:=by simp[ad]
theorem sf (h o:U) (c:Nat) (k:List UInt8) (a:List Int) (D:Own) (W:a.length<=255) (L:cv h c k o) (e:k.length<=1000000000000):
  AC Tryz.prog 171 [.ptr c 0,.J (ad a) D] o λ_ p=>cv h c (k++du a) p:=by
 refine bd hm Of a9a ?_;have c2: ¬(255:Int)<a.length:=a8Z;have E:=bH (q:=a);refine aE (aH @E @c2 @iq) ?_;refine ai (mY h o c k _ L a8Z) ?_;intro P f g;refine aE @E ?_;refine cr (λd p=> ∃b:Nat,b<=a.length/\cv h c (k++(UInt8.ofNat a.length::(a.take b).flatMap hR)) p/\d 0= .ptr c 0/\d 17= .J (ad a) D/\d 18= .v (.int .i64 a.length)/\d 19= .v (.int .i64 b))
  (λd _=>match d 19 with| .v (.int _ S)=>(a.length - S).toNat| _=>0) ⟨0,a8Z,by trivial,?_⟩ ?_
 .exact qn
 .rintro d F ⟨b,i,r,x,y,z,C⟩;by_cases G:(b:Int)<a.length
  .have T:b<a.length:=a8Z;have V:=dJ T;refine aE (c6 @x @y @z @C @G @hJ @V) ?_;refine ai (Xu h F c _ _ r ?_) ?_;grind[o7,List.length_append,List.length_cons,List.length_take];intro P j l;refine aE (aI @x @y @z @C) ?_;refine⟨⟨b+1,a8Z,?_,a9a⟩,a8Z⟩;grind[hR,List.take_succ,List.getElem?_eq_getElem,List.getD]
  .obtain rfl:b=a.length:=a8Z;refine aE (bm @x @y @z @C @G) ?_;refine⟨F,U.a1,?_⟩;rw[a4S]at r;exact r
def CR (h a:U) (b:Nat) (c:List UInt8) (k:cv h b c a):
  AC Tryz.prog 107 [.ptr b 0] a λo p=>p=a/\o= .v (.int .i64 0):=by
 obtain⟨r,d⟩:=k.cell;refine bd hm Mk a9a ?_;have x:aX false 1 ([R.J (c.map al) r,.v (.int .i64 0)].drop 1)= .v (.int .i64 0):=rfl;unfold u2 at d;refine aE (c2 (U.ae d) @x) ?_;exact⟨a,U.a1,rfl⟩
def fv (b:Nat) (a:Rd):Nat×Rd:=
 match(dp a 3).1 with
 |none=>(0,(dp a 3).2)
 |some aP=>if min b 1048576<fi aP then(0,mc (dp a 3).2 10)else(fi aP,(dp a 3).2)
def qy (a:Nat) (b:Rd):List UInt8×Rd:=((dp (fv a b).2 (fv a b).1).1.getD [],(dp (fv a b).2 (fv a b).1).2)
theorem CS (a b:Nat) (c:a<4611686018427387904) (d:b<4611686018427387904):bn .or (.int .i64 a) (.int .i64 b)=some (.int .i64 ((a|||b:Nat):Int)):=by
 have h:bn .or (.int .i64 a) (.int .i64 b)=some (.int .i64 (IntKind.i64.wrap (BitVec.ofInt 64 (a)|||BitVec.ofInt 64 (b)).toNat)):=rfl;have k:a|||b<4611686018427387904:=Nat.or_lt_two_pow (n:=62) c d
 grind[BitVec.toNat_or,BitVec.toNat_ofNat,Nat.mod_eq_of_lt,wrap_i64]
theorem wI (b:UInt8) (a:Nat) (c:a<=16):bn .shl (.int .i64 (b.toNat:Int)) (.int .u64 (a:Int))=some (.int .i64 ((b.toNat*2^a:Nat):Int)):=by
 have k:=b.toNat_lt;have o:bn .shl (.int .i64 (b.toNat)) (.int .u64 (a))=some (.int .i64 (IntKind.i64.wrap ((b.toNat)*2^(min (a:Int).toNat 64)))):=by have d: ¬(a)<0:=a8Z;simp only[bn,fq,nL,d,if_false,if_true];rfl
 have hm:min (a:Int).toNat 64=a:=a8Z;have h:2^a<=65536:=a6j a8Z c;have p:b.toNat*2^a<=256*65536:=a7V a8Z h;grind[wrap_i64]
theorem XG (a b c:UInt8):a.toNat*65536|||b.toNat*256|||c.toNat=fi [a,b,c]:=by
 have h:=a.toNat_lt;have k:=b.toNat_lt;have d:=c.toNat_lt;have o:a.toNat*65536|||b.toNat*256=a.toNat*65536+b.toNat*256:=by have:=a7d (a:=a.toNat) (i:=16) (b:=b.toNat*256) a8Z;rw[a6M]at this;exact this.symm
 have p:(a.toNat*256+b.toNat)*256|||c.toNat=(a.toNat*256+b.toNat)*256+c.toNat:=CL _ _ d
 grind[fi]
def XH (a:B.length=3):fi B<16777216:=by have:=CK B;rw[a]at this;exact this
def sg (o r:U) (k:Nat) (d:Nat) (n:d<=1048576) (h:Rd) (E:bY o k h r):
  AC Tryz.prog 255 [.ptr k 0,.v (.int .i64 d)] r λx F=>bY o k (fv d h).2 F/\x= .v (.int .i64 (fv d h).1):=by
 refine bd hm QE a9a ?_;refine eA ?_;refine ai (u4 o r k h 3 a8Z E) ?_;rintro x G ⟨y,q,rfl⟩;unfold fv;have p:=λaP=>qx (a:=h) (e:=3) (B:=aP);generalize dp h 3=L at*;obtain⟨aP,P⟩:=L;cases aP with
 |none=>simp only[a6p,a7G]at*;refine eA ?_;exact⟨_,U.a1,y⟩
 |some aP=>
  simp only[a6P,a6r]at*;have p:=p aP rfl;have s:=XH p
  match aP,p with
  | [a,b,c],_=>
   have S:ez 1 (some (al a))=some (.bV [.v (.int .u8 a.toNat)]):=rfl;have T:ez 1 (some (al b))=some (.bV [.v (.int .u8 b.toNat)]):=rfl;have V:ez 1 (some (al c))=some (.bV [.v (.int .u8 c.toNat)]):=rfl;have t:=a.toNat_lt;have u:=b.toNat_lt;have v:=c.toNat_lt;have W:IntKind.i64.wrap (a.toNat)=a.toNat:=wrap_i64 a8Z a8Z;have e:IntKind.i64.wrap (b.toNat)=b.toNat:=wrap_i64 a8Z a8Z;have f:IntKind.i64.wrap (c.toNat)=c.toNat:=wrap_i64 a8Z a8Z;have g:bn .shl (.int .i64 (a.toNat)) (.int .u64 16)=some (.int .i64 ((a.toNat*65536:Nat))):=wI a 16 a8Z;have i:bn .shl (.int .i64 (b.toNat)) (.int .u64 8)=some (.int .i64 ((b.toNat*256:Nat))):=wI b 8 a8Z;have j:bn .or (.int .i64 ((a.toNat*65536:Nat))) (.int .i64 ((b.toNat*256:Nat)))=some (.int .i64 ((a.toNat*65536|||b.toNat*256))):=CS _ _ a8Z a8Z;have w:a.toNat*65536|||b.toNat*256<16777216:=Nat.or_lt_two_pow (n:=24) a8Z a8Z
   have l:bn .or (.int .i64 ((a.toNat*65536|||b.toNat*256))) (.int .i64 (c.toNat))=some (.int .i64 ((fi [a,b,c]))):=by rw[CS _ _ a8Z a8Z,XG]
   simp -dsimp -implicitDefEqProofs (disch:=first|omega|assumption|(simp only[bk,Nat.reduceAdd];try omega)) only[hJ,S,T,V,↓rW,rX,ak,ofConst,cT,simprocAttr,fW,a6c,↓rZ,s0,ne_eq,not_true_eq_false,not_false_eq_true,Int.reduceNe,a6h,a6t,↓C8,C9,W,e,f,g,i,j,l];have C:min (d:Int) 1048576=((min d 1048576)):=a8Z;by_cases D:min d 1048576<fi [a,b,c]
   .have z:((min d 1048576))<(fi [a,b,c]:Int):=a8Z;refine aE (c2 @C @z) ?_;refine ai (sd o G k P 10 y) ?_;intro x A m;refine eA ?_;rw[if_pos D];exact⟨_,U.a1,m,rfl⟩
   .have z: ¬((min d 1048576))<(fi [a,b,c]:Int):=a8Z;refine aE (c2 @C @z) ?_;rw[if_neg D];exact⟨_,U.a1,y,rfl⟩
theorem xf (a:Nat) (b:Rd):(fv a b).1<=a/\(fv a b).1<=1048576:=by grind[fv]
theorem CT (d k:U) (c:Nat) (a:Nat) (r:a<=1048576) (b:Rd) (x:bY d c b k):
  AC Tryz.prog 174 [.ptr c 0,.v (.int .i64 a)] k λo y=>bY d c (qy a b).2 y/\ ∃h,(h= .nil->(qy a b).1= [])/\o= .J ((qy a b).1.map al) h:=by
 refine bd hm Om a9a ?_;simp -dsimp -implicitDefEqProofs (disch:=first|omega|assumption|(simp only[bk,Nat.reduceAdd];try omega)) only[go_sem,simprocAttr];refine ai (sg d k c a r b x) ?_;rintro o z ⟨C,rfl⟩;have P:=xf a b;simp -dsimp -implicitDefEqProofs (disch:=first|omega|assumption|(simp only[bk,Nat.reduceAdd];try omega)) only[go_sem,simprocAttr];refine ai (CI d z c (fv a b).2 (fv a b).1 a8Z C) ?_;rintro o D ⟨E,h,F,rfl⟩;simp -dsimp -implicitDefEqProofs (disch:=first|omega|assumption|(simp only[bk,Nat.reduceAdd];try omega)) only[go_sem,simprocAttr];have S:((dp (fv a b).2 (fv a b).1).1.getD []).length<=1048576:=by grind[dp,fv,qx]
 refine ai (xb _ h D F a8Z) ?_;rintro _ G ⟨L,p,rfl⟩;simp -dsimp -implicitDefEqProofs (disch:=first|omega|assumption|(simp only[bk,Nat.reduceAdd];try omega)) only[go_sem,simprocAttr];refine⟨G,U.a1,E.mono p.sub,L,?_,rfl⟩;rintro rfl;have:=p.2;simpa[qy] using this
def jK:Nat->Rd->List Int->List Int×Rd
 |0,a,acc=>(acc,a)
 |b+1,a,acc=>jK b (iy a).2 (if(iy a).2.e=0 then acc++ [(iy a).1]else acc)
def hU (c:Nat) (d:Rd):List Int×Rd:=
 let a:=dt d
 let b:=jK a.1.toNat (if c<a.1.toNat then mc a.2 10 else a.2) []
 if b.2.e=0 then b else([],b.2)
theorem CU: ∀(c:Nat) (a:Rd) (b:List Int),(jK c a b).1.length<=b.length+c
 |0,a,b=>by simp[jK]
 |c+1,a,b=>by
  rw[jK];have:=CU c (iy a).2 (if(iy a).2.e=0 then b++ [(iy a).1]else b);grind
theorem xg (b:Nat) (a:Rd):(hU b a).1.length<=255:=by unfold hU;have c:=CU (dt a).1.toNat (if b<(dt a).1.toNat then mc (dt a).2 10 else(dt a).2) [];have d:=(dt a).1.toNat_lt;grind
def bY.full {c:Rd} (d:bY t e c f):bY (f.del e) e c f:=by
 obtain⟨h,k⟩:=d.cell;refine⟨h,λo p a=> ?_⟩;by_cases b:o=e
 .subst b;rw[U.ah]at a;rw[k];exact a
 .rw[U.ao _ _ b,U.eG _ b]at a;exact a
def CV (d:(f.set e Y).sub t) (h:f e=none):f.sub (t.del e):=λb k a=>by
 have c:b≠e:=by rintro rfl;rw[h]at a;cases a
 rw[U.eG _ c];exact d b k (by rw[U.ao _ _ c];exact a)
def dd.step {d o p:U}{a r:Nat}{E x:Rd}{F:Own}{y:List R}{h:Own} (z:bg (d.set a (hS E F)) o r y h) (G:d a=none) (L:bY (o.del a) a x p): ∃k,bg (d.set a (hS x k)) p r y h:=by
 obtain⟨k,C⟩:=L;refine⟨k,?_,?_⟩
 .refine U.ar ?_ C;exact U.kW (CV z.sub G)
 .have b:=z.2;cases h with
  |buf P S=>
   have c:P≠a:=by rintro rfl;have:=b.1;rw[U.ah]at this;cases this
   have D:=b.1;rw[U.ao _ _ c]at D;exact⟨by rw[U.ao _ _ c];exact D,C _ _ (by rw[U.ao _ _ c,U.eG _ c];exact b.2)⟩
  | _=>exact b
variable{g A e0:List R}{M e6 h4:Own}
def dd.rs {a:Rd} (b:bg (f.set e (hS a M)) t i g e6):bY f e a t:=⟨M,b.sub⟩
theorem pc (r j:U) (b:Nat) (x:Nat) (k1:x<=1048576) (P:Rd) (H:r b=none) (I:bY r b P j):
  AC Tryz.prog 207 [.ptr b 0,.v (.int .i64 x)] j λy S=>bY r b (hU x P).2 S/\ ∃F,y= .J (ad (hU x P).1) F:=by
 refine bd hm Pe a9a ?_;refine eA ?_;refine ai (pa r j b P I) ?_;rintro y K ⟨l,rfl⟩;unfold hU;generalize dt P=M at*;obtain⟨o,m⟩:=M;simp only at l|-;have k2:=o.toNat_lt;have n:IntKind.i64.wrap (o.toNat)=o.toNat:=wrap_i64 a8Z a8Z;have N: ∃G,G=(if x<o.toNat then mc m 10 else m):=⟨_,rfl⟩;obtain⟨G,T⟩:=N;rw[<-T];refine aE @n ?_;refine BT (λp S=>p 0= .ptr b 0/\p 5= .v (.int .i64 o.toNat)/\bY r b G S) ?_ ?_ ?_
 .intro d;have q:x<o.toNat:=by have:=of_decide_eq_true d;omega
  rw[if_pos q]at T;refine eA ?_;refine ai (sd r K b m 10 l) ?_;intro y O V;refine aE @n ?_;rw[T];exact V
 .intro d;have q: ¬x<o.toNat:=by have:=of_decide_eq_false d;omega
  rw[if_neg q]at T;refine aE @n ?_;rw[T];exact l
 rintro p O ⟨v,w,V⟩;generalize o.toNat=h at*;refine aE (c2 @v @w) ?_;refine cr (λp S=> ∃(c:Nat) (a:Rd) (k:List Int) (g F:Own),c<=h/\jK (h - c) a k=jK h G []/\k.length<=c/\bg (r.set b (hS a F)) S 1 (ad k) g/\p 0= .ptr b 0/\p 6= .J (ad k) g/\p 16= .v (.int .i64 h)/\p 17= .v (.int .i64 c))
  (λp _=>match p 17 with| .v (.int _ o)=>(h - o).toNat| _=>0) ?_ ?_
 .obtain⟨F,V⟩:=V;refine⟨0,G,[],.nil,F,a8Z,rfl,a9a,bg.nil V,?_⟩;refine aE (c2 @v @w) ?_;rfl
 .rintro k3 A ⟨c,a,k,g,F,k4,L,k5,W,z,C,D,E⟩;by_cases s:(c:Int)<h
  .refine aE (bm @z @C @D @E @s) ?_;refine ai (XF (A.del b) A b a (dd.rs W).full) ?_;rintro y k6 ⟨t,rfl⟩;have Q:jK (h - c) a k=jK (h -(c+1)) (iy a).2 (if(iy a).2.e=0 then k++ [(iy a).1]else k):=by rw[show h - c=(h -(c+1))+1 by omega];rfl
   rw[Q]at L;obtain⟨k7,B⟩:=dd.step W H t;generalize iy a=X at*;obtain⟨y,i⟩:=X;simp only at t B L|-;obtain⟨u,e⟩:=t.cell;have f:aX false 1 ([R.J (i.b.map al) u,.v (.int .i64 i.e)].drop 1)= .v (.int .i64 i.e):=rfl;by_cases d:i.e=0
   .rw[if_pos d]at L;refine aE (c6 @z @C @D @E (U.ae e) @f @d) ?_;refine dc U.a1 (by simp[aS,R.cells]) λk8 k9 Y=> ?_;refine aE (aI @z @C @D @E) ?_;refine dY (B.mono Y.sub) (by simp[aS,ad,R.cells]) (by simp[aS,R.cells]) (by simp[bH];omega) (by simp[bH];omega) λl0 l1 Z=> ?_;refine aE (aI @z @C @D @E) ?_;have j9:ad k++ [R.v (.int .i64 y)]=ad (k++ [y]):=by simp[ad]
    rw[j9]at Z|-;grind
   .rw[if_neg d]at L;refine aE (c6 @z @C @D @E (U.ae e) @f @d) ?_;grind
  .obtain rfl:c=h:=a8Z;rw[a6O]at L;have k0:jK c G []=(k,a):=by rw[<-L];rfl
   rw[k0];obtain⟨u,e⟩:=(dd.rs W).cell;have f:aX false 1 ([R.J (a.b.map al) u,.v (.int .i64 a.e)].drop 1)= .v (.int .i64 a.e):=rfl;by_cases d:a.e=0
   .refine aE (bt @z @C @D @E @s (U.ae e) @f @d) ?_;exact⟨_,U.a1,dd.rs W,g,rfl⟩
   .refine aE (bt @z @C @D @E @s (U.ae e) @f @d) ?_;exact⟨_,U.a1,dd.rs W,.nil,rfl⟩
def headD (b:List (List UInt8)) (a:Nat):List UInt8:=if a=0 then u1 else b.getD (a - 1) u1
def XI (a:Int) (b c:List UInt8) (d:Int) (h:R):List R:=xc a b c++ [.v (.int .i64 d),h]
structure xh where
 o:ix
 st:Int
 xi:Option (ix×ix)
def xh.ok (a:xh):Prop:=a.o.ok/\ ∀b c,a.xi=some (b,c)->b.ok/\c.ok
def CW (a:ix) (b:Int) (c:R):List R:=XI a.n a.h a.d b c
def FS (c:U) (d:Nat) (a:xh) (h:U):Prop:=
 match a.xi with
 |none=>(c.set d (.cells (CW a.o a.st (.v (.pointer none))))).sub h
 |some (k,o)=> ∃b,c b=none/\b≠d/\((c.set d (.cells (CW a.o a.st (.ptr b 0)))).set b (.cells (k.C++o.C))).sub h
def XJ (c d:U) (a:Nat) (b:List UInt8) (h:Bool) (o:cv c a b d) (p:b.length+1<=70368744177664):
  AC Tryz.prog 290 [.ptr a 0,.v (.bool h)] d λ_ r=>cv c a (b++ [if h then 1 else 0]) r:=by
 refine bd hm Rj a9a ?_;cases h
 .refine aE (c2 @aZ @ba) ?_;refine ai (mY c d a b 0 o p) ?_;intro x y k;refine aE (c2 @aZ @ba) ?_;exact⟨_,U.a1,k⟩
 .refine aE (c2 @aZ @ba) ?_;refine ai (mY c d a b 1 o p) ?_;intro x y k;refine aE (c2 @aZ @ba) ?_;exact⟨_,U.a1,k⟩
theorem CX (a c:List UInt8) (D E:Own) (h:U) (e:a.length<=70368744177664):
  AC Tryz.prog 112 [.J (a.map al) D,.J (c.map al) E] h λL z=>z=h/\L= .v (.bool (decide (a=c))):=by
 refine bd hm Mu a9a ?_;by_cases f:a.length=c.length
 .have k:(a.length:Int)=c.length:=a8Z;refine aE (aH @k @aZ @ba) ?_;rw[<-k];refine cr (λd z=> ∃b:Nat,b<=a.length/\z=h/\d 0= .J (a.map al) D/\d 1= .J (c.map al) E/\d 12= .v (.int .i64 a.length)/\d 13= .v (.int .i64 b)/\a.take b=c.take b)
   (λd _=>match d 13 with| .v (.int _ P)=>(a.length - P).toNat| _=>0) ⟨0,a8Z,rfl,?_⟩ ?_
  .exact gT (aH @a6s.{0} @aZ @ba)
  .rintro d F ⟨b,g,rfl,o,p,r,x,i⟩;by_cases y:(b:Int)<a.length
   .have S:b<a.length:=a8Z;have T:b<c.length:=a8Z;have V:ez 1 (a.map al)[b]? =some (.bV [.v (.int .u8 (a.getD b 0).toNat)]):=by rw[wH S];rfl
    have W:ez 1 (c.map al)[b]? =some (.bV [.v (.int .u8 (c.getD b 0).toNat)]):=by rw[wH T];rfl
    simp -dsimp -implicitDefEqProofs (disch:=first|omega|assumption|(simp only[bk,Nat.reduceAdd];try omega)) only[o,p,r,x,y,hJ,V,W,go_sem,simprocAttr,aZ,ba];by_cases G:a.getD b 0=c.getD b 0
    .have C:(((a.getD b 0).toNat:Int)=(c.getD b 0).toNat)=True:=by rw[G];simp
     simp -dsimp -implicitDefEqProofs (disch:=first|omega|assumption|(simp only[bk,Nat.reduceAdd];try omega)) only[o,p,r,x,y,C,go_sem,simprocAttr,aZ,ba];refine⟨⟨b+1,a8Z,a9a,?_⟩,a8Z⟩;grind[List.take_succ,List.getElem?_eq_getElem,List.getD]
    .have C:(((a.getD b 0).toNat:Int)=(c.getD b 0).toNat)=False:=by simp only[eq_iff_iff,iff_false];grind[UInt8.toNat_inj]
     simp -dsimp -implicitDefEqProofs (disch:=first|omega|assumption|(simp only[bk,Nat.reduceAdd];try omega)) only[o,p,r,x,y,C,go_sem,simprocAttr,aZ,ba];refine⟨F,U.a1,rfl,?_⟩;have:a≠c:=by rintro rfl;exact G rfl
     simp[this]
   .obtain rfl:b=a.length:=a8Z;simp -dsimp -implicitDefEqProofs (disch:=first|omega|assumption|(simp only[bk,Nat.reduceAdd];try omega)) only[o,p,r,x,y,go_sem,simprocAttr,aZ,ba];refine⟨F,U.a1,rfl,?_⟩;grind
 .have k:((a.length:Int)=c.length)=False:=by grind
  refine aE (aH @k @aZ @ba) ?_;refine⟨h,U.a1,rfl,?_⟩;have:a≠c:=by rintro rfl;omega
  simp[this]
def nc (a:Rd):Bool×Rd:=(decide ((dt a).1=1),if 1<(dt a).1.toNat then mc (dt a).2 21 else(dt a).2)
theorem XK (d h:U) (b:Nat) (c:Rd) (y:bY d b c h):
  AC Tryz.prog 206 [.ptr b 0] h λk z=>bY d b (nc c).2 z/\k= .v (.bool (nc c).1):=by
 refine bd hm Pc a9a ?_;refine aE (c2 @aZ @ba) ?_;refine ai (pa d h b c y) ?_;rintro k C ⟨o,rfl⟩;unfold nc;generalize dt c=D at*;obtain⟨a,E⟩:=D;simp only at o|-;have r:decide ((a.toNat:Int)=1)=decide (a=1):=by
  have:((a.toNat:Int)=1)↔a=1:=by rw[<-a5s];grind
  simp only[this]
 by_cases x:1<a.toNat
 .have p:(1:Int)<a.toNat:=a8Z;refine aE (aH @p @aZ @ba) ?_;refine ai (sd d C b E 21 o) ?_;intro k G F;rw[if_pos x];refine aE (aH @r @aZ @ba) ?_;exact⟨_,U.a1,F⟩
 .have p: ¬(1:Int)<a.toNat:=a8Z;rw[if_neg x];refine aE (aI @p @r @aZ @ba) ?_;exact⟨_,U.a1,o⟩
structure ay where
 sum:List UInt8
 aU:List Int
 aV:List Int
 live:Int
 size:Int
 key:List Int
 deriving DecidableEq
def aA:ay:=⟨List.replicate 32 0,[],[],0,0,[]⟩
structure c3 where
 kind:UInt8
 rows:List (List Int×Bool)
 kids:List ay
 deriving DecidableEq
def cP (b c:List Int) (a:Nat):Bool:=decide (1<=a)&&decide (a<=8)&&decide (b.length=a)&&decide (c.length=a)&&(List.range a).all λd=>decide (b.getD d 0<=c.getD d 0)
def fw (b:Nat) (a:ay):Bool:=
 decide (a=aA)||(!(decide (a.size<1)||decide (1048576<a.size)||decide (a.live<0)||decide (a.size<a.live))&&
  if a.live=0 then decide (a.aU.length=0)&&decide (a.aV.length=0)else cP a.aU a.aV b)
def dS (c:Nat) (a:c3):Bool:=
  a.rows.all (λd=>decide (d.1.length=c))&&a.kids.all (fw c)&&
  (if a.kind=1 then decide (a.rows.length=1)&&decide (a.kids.length=2)&&a.kids.all (λb=>decide (b.key.length=0))
   else if a.kind=2 then decide (1<=a.rows.length)&&decide (a.rows.length<=4)&&decide (a.kids.length=0)&&a.rows.all (λd=>d.2)
   else if a.kind=3 then decide (a.rows.length=0)&&decide (2<=a.kids.length)&&decide (a.kids.length<=4)&&a.kids.all (λb=>decide (b.key.length=c)&& !decide (b=aA))
   else false)
def gK (a:List Int×Bool):List UInt8:=(if a.2=true then(1:UInt8)else 0)::du a.1
def dZ (a:ay):List UInt8:=a.sum++(fj a.live.toNat++(fj a.size.toNat++(du a.aU++(du a.aV++du a.key))))
def cX (a:c3):List UInt8:=a.kind::UInt8.ofNat a.rows.length::(a.rows.flatMap gK++UInt8.ofNat a.kids.length::a.kids.flatMap dZ)
def sh (b:Nat) (a:c3):Option (List UInt8):=if dS b a=true then some (cX a)else none
def cQ (b a:List Int×List Int):List Int×List Int:=
 if cP b.1 b.2 b.1.length=true then
  (if cP a.1 a.2 a.1.length=true then(if b.1.length=a.1.length then(List.zipWith min b.1 a.1,List.zipWith max b.2 a.2)else([],[]))else b)
 else if cP a.1 a.2 a.1.length=true then a else([],[])
def gm (a:List Int):List Int×List Int:=if 1<=a.length/\a.length<=8 then(a,a)else([],[])
structure gL where
 live:Int
 size:Int
 aO:List Int×List Int
def dK (a:gL) (b:List Int×Bool):gL:=if b.2=true then {a with live:=a.live+1,aO:=cQ a.aO (gm b.1)}else a
def ep (b:gL) (a:ay):gL:=⟨b.live+a.live,b.size+a.size,cQ b.aO (a.aU,a.aV)⟩
def eC (a:c3):gL:=a.kids.foldl ep (a.rows.foldl dK ⟨0,a.rows.length,([],[])⟩)
def keyOf (a:c3):List Int:=if a.kind=2 then(a.rows.headD ([],false)).1 else if a.kind=3 then(a.kids.headD aA).key else []
def eR (a:List UInt8):List UInt8:=fh (preB 80 [a])
def eS (a:c3):ay:=⟨eR (cX a),(eC a).aO.1,(eC a).aO.2,(eC a).live,(eC a).size,keyOf a⟩
def fH (b:Nat) (a:c3):Option ay:=if dS b a=true then(if 1048576<(eC a).size then none else some (eS a))else none
def ja (b:Nat) (a:Rd):(List Int×Bool)×Rd:=(((hU b (nc a).2).1,(nc a).1),(hU b (nc a).2).2)
def hV (a:Nat) (p:Rd):ay×Rd:=
 let b:=mZ p
 let c:=fv 1048576 b.2
 let d:=fv 1048576 c.2
 let h:=hU a d.2
 let k:=hU a h.2
 let o:=hU a k.2
 (⟨b.1,h.1,k.1,(c.1:Int),(d.1:Int),o.1⟩,o.2)
def fx {b:Type} (c:Rd->b×Rd):Nat->Rd->List b->List b×Rd
 |0,a,acc=>(acc,a)
 |d+1,a,acc=>fx c d (c a).2 (acc++ [(c a).1])
def pd (a:Nat) (o:List UInt8):c3×Rd:=
 let b:=dt ⟨o,0⟩
 let c:=dt b.2
 let d:=fx (ja a) c.1.toNat c.2 []
 let h:=dt d.2
 let k:=fx (hV a) h.1.toNat h.2 []
 (⟨b.1,d.1,k.1⟩,pb k.2)
def pe (a:Nat) (b:List UInt8):Option c3:=
 if(pd a b).2.e=0/\dS a (pd a b).1=true/\cX (pd a b).1=b then some (pd a b).1 else none
abbrev cR (b:List Int):Prop:= ∀a∈b,-9223372036854775808<=a/\a<9223372036854775808
theorem qz (a b:List UInt8):dp ⟨a++b,0⟩ a.length=(some a,⟨b,0⟩):=by unfold dp;simp
def qA (a:UInt8) (b:List UInt8):dt ⟨a::b,0⟩=(a,⟨b,0⟩):=by have:=qz [a] b;rfl
def XL (a:Nat) (b:a<18446744073709551616):fi (cF a)=a:=by simp only[fi,cF,a5C,a7C,a5D,a5v];omega
theorem XM (a:Int) (b: -9223372036854775808<=a) (c:a<9223372036854775808):(BitVec.ofNat 64 (ck a)^^^9223372036854775808#64).toInt=a:=by grind[BitVec.ofInt,ck,BitVec.setWidth_eq,BitVec.xor_assoc,BitVec.xor_self,BitVec.xor_zero,BitVec.toInt_ofInt]
def XN (a:Int) (b:List UInt8) (d: -9223372036854775808<=a) (h:a<9223372036854775808):iy ⟨hR a++b,0⟩=(a,⟨b,0⟩):=by have c:=qz (hR a) b;rw[CG]at c;unfold iy;rw[c];simp only;rw[hR,XL _ (by exact(BitVec.ofInt 64 a^^^BitVec.ofInt 64 9223372036854775808).isLt),XM a d h]
theorem CY (a b:List UInt8) (c:a.length=32):mZ ⟨a++b,0⟩=(a,⟨b,0⟩):=by grind[qz,mZ]
def XO (a:Bool) (b:List UInt8):nc ⟨(if a=true then(1:UInt8)else 0)::b,0⟩=(a,⟨b,0⟩):=by unfold nc;rw[qA];cases a<;>rfl
theorem u5 (a:Nat) (c:a<=1048576) (b:List UInt8):fv 1048576 ⟨fj a++b,0⟩=(a,⟨b,0⟩):=by have d:=qz (fj a) b;grind[ks,fv,fi,fj,UInt8.toNat_ofNat',Nat.shiftRight_eq_div_pow]
def CZ: ∀(a c:List Int) (b:List UInt8),cR a->jK a.length ⟨a.flatMap hR++b,0⟩ c=(c++a,⟨b,0⟩)
 | [],c,b,_=>by simp[jK]
 |d::a,c,b,h=>by
  have k:=h d a9a;rw[a4C,jK,a4Y,a4J,XN d _ k.1 k.2];simp only[if_true];rw[CZ a _ b (λo p=>h o (by simp[p]))];simp
def pf (a:List Int) (b:Nat) (c:List UInt8) (o:a.length<=b) (p:a.length<=255) (d:cR a):hU b ⟨du a++c,0⟩=(a,⟨c,0⟩):=by
 have h:(UInt8.ofNat a.length).toNat=a.length:=by rw[a5D];omega
 unfold hU;have k: ¬b<a.length:=a8Z;rw[du,a5K,qA];simp only[h,k,if_false,CZ a [] c d];simp
def XP (a:List Int×Bool) (b:Nat) (c:List UInt8) (d:a.1.length<=b) (h:a.1.length<=255) (k:cR a.1):ja b ⟨gK a++c,0⟩=(a,⟨c,0⟩):=by unfold ja;rw[gK,a5K,XO,pf _ _ _ d h k]
structure ay.In (d:Nat) (k:ay):Prop where
 sum:k.sum.length=32
 aU:cR k.aU
 aV:cR k.aV
 key:cR k.key
 o8:k.aU.length<=d
 o9:k.aV.length<=d
 oa:k.key.length<=d
 nd:0<=k.live
 live:k.live<=1048576
 nf:0<=k.size
 size:k.size<=1048576
def XQ (b:ay) (c:Nat) (x:c<=255) (d:List UInt8) (a:b.In c):hV c ⟨dZ b++d,0⟩=(b,⟨d,0⟩):=by have y:=a.live;have h:=a.nd;have z:=a.size;have k:=a.nf;have o:=a.o8;have p:=a.o9;have r:=a.oa;unfold hV;simp only[dZ,a4J];rw[CY _ _ a.sum];simp only[];rw[u5 _ a8Z];simp only[];rw[u5 _ a8Z];simp only[];rw[pf _ _ _ o a8Z a.aU];simp only[];rw[pf _ _ _ p a8Z a.aV];simp only[];rw[pf _ _ _ r a8Z a.key];rw[a6a h,a6a k]
def xj {d:Type} (k:Rd->d×Rd) (o:d->List UInt8) (p:d->Prop) (r: ∀a b,p a->k ⟨o a++b,0⟩=(a,⟨b,0⟩)): ∀(c h:List d) (b:List UInt8),(∀a∈c,p a)->fx k c.length ⟨c.flatMap o++b,0⟩ h=(h++c,⟨b,0⟩)
 | [],h,b,_=>by simp[fx]
 |a::c,h,b,x=>by
  rw[a4C,fx,a4Y,a4J,r a _ (x a a9a)];rw[xj k o p r c _ b (λy z=>x y (by simp[z]))];simp
structure c3.In (d:Nat) (n:c3):Prop where
 ok:dS d n=true
 rows: ∀r∈n.rows,cR r.1
 kids: ∀k∈n.kids,k.In d
variable{b9:c3}
theorem lb (a:dS e b9=true):(∀b∈b9.rows,b.1.length=e)/\b9.rows.length<=4/\b9.kids.length<=4:=by unfold dS at a;grind
def D0 (k:e<=255) (b:b9.In e):pe e (cX b9)=some b9:=by
 obtain⟨o,z,C⟩:=lb b.ok;have p:(UInt8.ofNat b9.rows.length).toNat=b9.rows.length:=by rw[a5D];omega
 have r:(UInt8.ofNat b9.kids.length).toNat=b9.kids.length:=by rw[a5D];omega
 have x:pd e (cX b9)=(b9,⟨[],0⟩):=by unfold pd cX;simp only[qA,p];rw[xj (ja e) gK (λa=>a.1.length=e/\cR a.1) (λa d c=>XP a e d a8Z a8Z c.2) b9.rows [] _ (λa c=>⟨o a c,b.rows a c⟩)];simp only[qA,r];have:=xj (hV e) dZ (λh=>h.In e) (λh d y=>XQ h e k d y) b9.kids [] [] b.kids;rw[a5B]at this;rw[this];rfl
 unfold pe;rw[x];simp[b.ok]
def u6 (a:List (List UInt8)) (b:Nat) (c:List UInt8):List Nat:=(List.range b).filter λd=>decide (fh (a.getD d [])=c)
def XR (a:List Nat):List R:=a.map λb=> .v (.int .i64 ((b:Nat):Int))
abbrev u7:List (Nat×c8):= [(32,.int .u8)]
theorem pg (a:B.length=32):dA u7 (B.map al):=by
 refine⟨by simp[a],λc b=> ?_,?_⟩
 .rw[a4x (by simp[a])]at b;obtain⟨d,_,rfl⟩:=a4R.1 b;rfl
 .show List.drop 32 _= [];simp_all
structure PB (k p:U) (r:Nat) (b:List (List UInt8)) (n:Nat) (h:R->Option R):Prop where
 sub:k.sub p
 new:k r=none
 val: ∀d,d.length=32->(u6 b n d= []/\h (cG d)=none)\/(u6 b n d≠ []/\ ∃a c,h (cG d)=some (.J (XR (u6 b n d)) (.buf a c))/\k a=none/\a≠r/\p a=some (.buf 1 (u6 b n d).length c))
 inj: ∀d o x y a c z,d.length=32->o.length=32->h (cG d)=some (.J x (.buf a c))->h (cG o)=some (.J y (.buf a z))->d=o
theorem si (a:List UInt8) (d:Own) (b:U) (C:a.length<=70368744177664):
  AC Tryz.prog 100 [.J (a.map al) d] b λk o=> ∃h,bg b o 1 (a.map al) h/\k= .J (a.map al) h:=by
 refine mS λD=> ?_;have p:d= .nil->a= []:=λE=>by simp_all
 refine bd hm M6 a9a ?_;simp -dsimp -implicitDefEqProofs (disch:=first|omega|assumption|(simp only[bk,Nat.reduceAdd];try omega)) only[go_sem,simprocAttr,-List.reduceReplicate,↓o5];refine o6 (λc=>by rw[p c];rfl) (λc=> ?_) ?_
 .have r:a= []:=by simpa using c
  subst r;refine aj @a5r ?_;exact⟨b,U.a1,.nil,bg.nil U.a1,rfl⟩
 .refine bT ?_;refine dc U.a1 (by simp[aS]) λF G x=> ?_;refine bT ?_;refine mQ (B:= []) x a9b λy z L=> ?_;refine aj @a4P.{0} ?_;exact⟨z,U.a1,y,by trivial,rfl⟩
def XS (a b:List UInt8) (d h:Own) (c:U):
  AC Tryz.prog 337 [.J (a.map al) d,.J (b.map al) h] c λk o=>o=c/\k= .v (.bool (decide (a=b))):=by
 refine bd hm Sb a9a ?_;have p:mR (.J (a.map al) d)=some (bb a):=p1;have r:mR (.J (b.map al) h)=some (bb b):=p1;refine aj (aH @p @r @ql) ?_;exact⟨c,U.a1,rfl⟩
def XT (a:List UInt8) (b:Own) (c:U) (C:a.length<=1000000000000):
  AC Tryz.prog 291 [.J (a.map al) b] c λh k=> ∃d,bg c k 1 ((preB 80 [a]).map al) d/\h= .J ((preB 80 [a]).map al) d:=by
 refine bd hm Rl a9a ?_;refine bT ?_;refine dc U.a1 (by simp[aS,R.cells]) λo p r=> ?_;refine bT ?_;refine ai (Xm 80 [(a,b)] o (by simp[preB,chunk,cF];omega) p) ?_;rintro _ x ⟨y,z,rfl⟩;refine bT ?_;exact⟨x,U.a1,y,z.base r.sub,rfl⟩
def ob (a:List UInt8):(eR a).length=32:=sb _
def D1 (a:List UInt8) (d:Own) (c:U) (p:a.length<=1000000000000):
  AC Tryz.prog 211 [.J (a.map al) d] c λr x=>x=c/\r=cG (eR a):=by
 refine bd hm Pn a9a ?_;refine bT ?_;refine aM λE h=> ?_;refine bT ?_;refine ai (XT a d _ p) ?_;rintro _ F ⟨y,k,rfl⟩;have z:=k.sub _ _ (U.ah _ _ _);refine bT ?_;refine ai (Xr _ y (by simp[preB,chunk,cF];omega) _) ?_;rintro _ _ ⟨rfl,rfl⟩;have o:(fh (preB 80 [a])).length=32:=ob a;have C: ∀b,(cG b).cells=b.map al:=λ_=>rfl;rw[show eR a=fh (preB 80 [a])from rfl];generalize fh (preB 80 [a])=b at*;have D:(b.map al).length=32:=by simp[o]
 refine aj (aI @C @D @o (U.aJ z)) ?_;refine⟨c,U.af (U.ar (U.af U.a1 h) k.sub) h,rfl,?_⟩;rw[a4x a8Z];rfl
structure ag where
 m:List UInt8->Option (List UInt8)
 a:List UInt8
 b:List UInt8
 one:Bool
def ag.new:ag:=⟨λ_=>none,[],[],false⟩
def eK (c:ag) (b:List UInt8):ag:=
 match c.m (eR b)with
 |none=> {c with m:=λd=>if d=eR b then some b else c.m d}
 |some h=>if c.one=false/\h≠b then {c with a:=h,b:=b,one:=true}else c
abbrev D2 (b:Nat) (a:ag) (c d:Own):List R:= [.gQ b,.J (a.a.map al) c,.J (a.b.map al) d,.v (.bool a.one)]
structure bB (h:U) (l k:Nat) (a:ag):Prop where
 at_: ∃hr dO,h l=some (.cells (D2 k a hr dO))
 mp: ∃c,qk h k u7 c/\ ∀d,d.length=32->match a.m d with
  |none=>c (cG d)=none
  |some b=>b.length<=1000000000000/\ ∃o,c (cG d)=some (.J (b.map al) o)
 sj:a.a.length<=1000000000000
 sk:a.b.length<=1000000000000
def Ext (c d:Nat) (h k:U):Prop:= ∀a b,a≠c->a≠d->h a=some b->k a=some b
theorem Ext.refl:Ext e i f f:=λ_ _ _ _ a=>a
theorem Ext.of {l lM:Nat}{s:U} (a:s.sub f):Ext l lM s f:=λb c _ _ d=>a b c d
theorem Ext.trans (h:Ext e i f t) (k:Ext e i t e4):Ext e i f e4:=λa b c d o=>k a b c d (h a b c d o)
variable{H:ag}
def bB.ne (a:bB f e i H):e≠i:=by obtain⟨d,h,c⟩:=a.at_;obtain⟨k,⟨o,p,b,_⟩,_⟩:=a.mp;rintro rfl;rw[c]at b;cases b
def bB.mono (a:bB f e i H) (b:f.sub t):bB t e i H:=by obtain⟨c,d,h⟩:=a.at_;obtain⟨k,⟨o,p,r,x⟩,y⟩:=a.mp;exact⟨⟨c,d,b _ _ h⟩,⟨k,⟨o,p,b _ _ r,x⟩,y⟩,a.sj,a.sk⟩
def bB.other (a:bB f e i H) (b:t e=f e) (c:t i=f i):bB t e i H:=by obtain⟨d,h,k⟩:=a.at_;obtain⟨o,⟨p,r,x,y⟩,z⟩:=a.mp;exact⟨⟨d,h,by rw[b];exact k⟩,⟨o,⟨p,r,by rw[c];exact x,y⟩,z⟩,a.sj,a.sk⟩
def XU:(R.gQ e).cells= [.gQ e]:=rfl
def XV (b:U):AC Tryz.prog 63 [] b λE k=> ∃a c,b a=none/\b c=none/\E= .ptr a 0/\bB k a c ag.new/\b.sub k:=by
 refine bd hm L8 a9a ?_;refine bT ?_;refine aM λc o=> ?_;have F: ∀G p r h x:R,putAt [G,p,r,h] 0 [x]= [x,p,r,h]:=λ_ _ _ _ _=>rfl;have y: ∀z,(R.agg z).cells=z:=λ_=>rfl;refine aj (aH @XU @F @y) ?_;refine aM λa d=> ?_;refine aj @y ?_;have C:a≠c:=by rintro rfl;rw[U.ah]at d;cases d
 have D:b a=none:=by rw[U.ao _ _ C]at d;exact d
 refine⟨_,U.a1,a,c,D,o,rfl,⟨⟨.nil,.nil,by rw[U.ah];rfl⟩,⟨_,⟨[],0,by rw[U.ao _ _ (a4F C),U.ah],kY.new⟩,λh _=>rfl⟩,by trivial,by trivial⟩,U.af (U.af U.a1 o) D⟩
def iz:(cG B).cells=B.map al:=rfl
def XW (d:U) (z C:Nat) (h:ag) (F:bB d z C h) (a:List UInt8) (k:a.length=32):
  AC Tryz.prog 136 [.ptr z 0,cG a] d λD G=>d.sub G/\match h.m a with
   |none=>D= .aK [.J [] .nil,.v (.int .i64 9)]
   |some o=> ∃p,D= .aK [.J (o.map al) p,.v (.int .i64 0)]:=by
 obtain⟨⟨s,t,L⟩,⟨c,P,b⟩,_,_⟩:=F;have b:=b a k;have r:(a.map al).length=32:=by simp[k]
 refine bd hm N5 a9a ?_;refine aj (c2 @iz @r) ?_;refine aM λS T=> ?_;have x:=U.af (Y:= .cells (a.map al)) (U.a1) T;have V:qk (d.set S (.cells (a.map al))) C u7 c:=by obtain⟨W,e,f,g⟩:=P;exact⟨W,e,x _ _ f,g⟩
 have i:=x _ _ L;have j:aX true 32 (a.map al)=cG a:=by rw[aX,if_pos rfl,a4x a8Z];rfl
 refine aj (bm @iz @r @k (U.ae i) @j) ?_;refine Cc V (pg k) (λv y=> ?_) (λE=> ?_)
 .cases hm:h.m a with
  |none=>rw[hm]at b;rw[show c (.agg (a.map al))=c (cG a)from rfl,b]at y;cases y
  |some o=>rw[hm]at b;obtain⟨l,p,b⟩:=b;rw[show c (.agg (a.map al))=c (cG a)from rfl,b]at y;obtain rfl:=a4v y;refine aj (c2 @iz @r) ?_;refine ai (si o p _ a8Z) ?_;rintro _ m ⟨n,q,rfl⟩;refine bT ?_;exact⟨m,U.a1,U.ar x q.sub,n,rfl⟩
 .cases hm:h.m a with
  |none=>refine aj (c2 @iz @r) ?_;exact⟨_,U.a1,x⟩
  |some o=>rw[hm]at b;obtain⟨l,p,b⟩:=b;rw[show c (.agg (a.map al))=c (cG a)from rfl,b]at E;cases E
def XX (b:U) (k y:Nat) (a:ag) (c:bB b k y a):
  AC Tryz.prog 56 [.ptr k 0] b λz C=>b.sub C/\ ∃d h,z= .aK [.J (a.a.map al) d,.J (a.b.map al) h,.v (.bool a.one)]:=by
 have L:=c.sj;have P:=c.sk;obtain⟨d,h,o⟩:=c.at_;refine bd hm KW a9a ?_;refine aj (U.ae o) ?_;refine ai (si a.a d _ a8Z) ?_;rintro _ S ⟨D,p,rfl⟩;have r:=p.sub _ _ o;refine aj (U.ae r) ?_;refine ai (si a.b h _ a8Z) ?_;rintro _ E ⟨F,x,rfl⟩;have G:=x.sub _ _ r;refine aj (U.ae G) ?_;exact⟨E,U.a1,U.ar p.sub x.sub,D,F,rfl⟩
theorem XY (C:U) (k d:Nat) (h:ag) (G:bB C k d h) (b:List UInt8) (V:Own) (Q:b.length<=1000000000000):
  AC Tryz.prog 300 [.ptr k 0,.J (b.map al) V] C λl9 L=>l9=cG (eR b)/\bB L k d (eK h b)/\Ext k d C L:=by
 have k8:=G.ne;refine bd hm Rv a9a ?_;refine bT ?_;refine aM λD i=> ?_;have u:=U.af (Y:= .cells (List.replicate 32 (.v (.int .u8 0)))) (U.a1) i;have aI:(C.set D (.cells (List.replicate 32 (.v (.int .u8 0))))) D= _:=U.ah _ _ _;refine bT ?_;generalize C.set D (.cells (List.replicate 32 (.v (.int .u8 0))))=a08 at*;refine ai (D1 b V _ Q) ?_;rintro _ X ⟨rfl,rfl⟩;refine bT ?_;refine aM λW e=> ?_;have a09:D≠W:=by rintro rfl;rw[aI]at e;cases e
 have o:=ob b;have n0: ∀c,eK h b=eK h b->c=eR b->c.length=32:=λc _ y=>by rw[y];exact o
 generalize Y:eR b=c at*;have x:(c.map al).length=32:=by simp[o]
 have j:putAt (List.replicate 32 (R.v (.int .u8 0))) 0 (c.map al)=c.map al:=by rw[putAt,a6s,a4P,x,a5k a9a,a5B]
 refine aj (bm @iz @x @o @j @U.set_set) ?_;have Z:=U.af (Y:= .cells (c.map al)) (U.a1) e;have bm:(X.set W (.cells (c.map al))) W= _:=U.ah _ _ _;have k9:=Z _ _ aI;have l0:=G.mono (U.ar u Z);have l1:Ext k d C (X.set W (.cells (c.map al))):=Ext.of (U.ar u Z);have n1:D≠k:=by rintro rfl;obtain⟨_,_,y⟩:=G.at_;rw[y]at i;cases i
 have n2:W≠k:=by rintro rfl;obtain⟨_,_,y⟩:=G.at_;rw[u _ _ y]at e;cases e
 have l2:D≠d:=by rintro rfl;obtain⟨_,⟨_,_,y,_⟩,_⟩:=G.mp;rw[y]at i;cases i
 have n3:W≠d:=by rintro rfl;obtain⟨_,⟨_,_,y,_⟩,_⟩:=G.mp;rw[u _ _ y]at e;cases e
 obtain⟨l3,l,n⟩:=l0.at_;obtain⟨P,w,j9⟩:=l0.mp;have E:=j9 c o;have F:aX true 32 (c.map al)=cG c:=by rw[aX,if_pos rfl,a4x a8Z];rfl
 clear n0;have l4: ∀L:U,bB L k d (eK h b)->Ext k d C L->bB (L.set D (.cells (c.map al))) k d (eK h b)/\Ext k d C (L.set D (.cells (c.map al))):=by
  intro L n4 n5;refine⟨n4.other (U.ao _ _ (a4F n1)) (U.ao _ _ (a4F l2)),λp V n r S=> ?_⟩;have n9:p≠D:=by rintro rfl;rw[i]at S;cases S
  rw[U.ao _ _ n9];exact n5 p V n r S
 have f:X k=some (.cells (D2 d h l3 l)):=by rw[U.ao _ _ (a4F n2)]at n;exact n
 refine aj (bs @iz @x @o (U.ae f) (U.ae bm) @F) ?_;refine Cc w (pg o) (λv A=> ?_) (λl5=> ?_)
 .cases hm:h.m c with
  |none=>rw[hm]at E;rw[show P (.agg (c.map al))=P (cG c)from rfl,E]at A;cases A
  |some q=>
   rw[hm]at E;obtain⟨l6,B,E⟩:=E;rw[show P (.agg (c.map al))=P (cG c)from rfl,E]at A;obtain rfl:=a4v A;have g:eK h b=if h.one=false/\q≠b then {h with a:=q,b:=b,one:=true}else h:=by unfold eK;rw[Y,hm]
   refine aj (bs @iz @x @o (U.ae f) (U.ae bm) @F) ?_;cases s:h.one with
   |true=>refine aj (cV @iz @x @o (U.ae f) (U.ae bm) (U.aJ aI) @F @j @s) ?_;rw[s]at g;rw[if_neg a9a]at g;grind[U.a1]
   |false=>
    refine aj (c6 @iz @x @o (U.ae f) (U.ae bm) @F @s) ?_;refine ai (XS q b B V _) ?_;rintro _ _ ⟨rfl,rfl⟩;by_cases H:q=b
    .refine aj (cf @iz @x @o (U.ae f) (U.ae bm) (U.aJ aI) @F @j @s @H) ?_;rw[if_neg (by simp[H])]at g;grind[U.a1]
    .refine aj (cf @iz @x @o (U.ae f) (U.ae bm) (U.aJ aI) @F @j @s @H) ?_;rw[if_pos ⟨s,H⟩]at g;refine ai (si b V _ a8Z) ?_;rintro _ T ⟨I,r,rfl⟩;have K:=r.sub _ _ n;have M:=r.sub _ _ k9;have t:=r.sub _ _ bm;have l7:=w;have a00: ∀a b z c p:R,putAt [a,b,z,c] 1 [p]= [a,p,z,c]:=λ_ _ _ _ _=>rfl;have a01: ∀a b z c p:R,putAt [a,b,z,c] 2 [p]= [a,b,p,c]:=λ_ _ _ _ _=>rfl;have a02: ∀a b z c p:R,putAt [a,b,z,c] 3 [p]= [a,b,z,p]:=λ_ _ _ _ _=>rfl;refine aj (gU @iz @x @o (U.aJ K) (U.ae t) (U.aJ M) @F @j @a00 @a01 @a02 @U.set_set) ?_;have a03: ∀k0,k0=bq.cells [.gQ d,.J (q.map al) B,.J (b.map al) I,.v (.bool true)]->bB (T.set k k0) k d (eK h b)/\Ext k d C (T.set k k0):=by rintro _ rfl;obtain⟨k1,z,k2,k3⟩:=w;rw[g];refine⟨⟨⟨B,I,U.ah _ _ _⟩,⟨P,⟨k1,z,by rw[U.ao _ _ (a4F k8)];exact r.sub _ _ k2,k3⟩,j9⟩,l6,Q⟩,λp l S N k4=> ?_⟩;rw[U.ao _ _ S];exact r.sub _ _ (l1 p l S N k4)
     obtain⟨k5,k6⟩:=a03 _ rfl;exact⟨_,U.a1,l4 _ k5 k6⟩
 .cases hm:h.m c with
  |some q=>rw[hm]at E;obtain⟨l6,B,E⟩:=E;rw[show P (.agg (c.map al))=P (cG c)from rfl,E]at l5;cases l5
  |none=>
   have g:eK h b= {h with m:=λc=>if c=eR b then some b else h.m c}:=by unfold eK;rw[Y,hm]
   refine aj (bs @iz @x @o (U.ae f) (U.ae bm) @F) ?_;refine ai (si b V _ a8Z) ?_;rintro _ T ⟨I,r,rfl⟩;have K:=r.sub _ _ n;have M:=r.sub _ _ k9;have t:=r.sub _ _ bm;have l7:qk T d u7 P:=by obtain⟨k1,z,k2,k3⟩:=w;exact⟨k1,z,r.sub _ _ k2,k3⟩
   refine aj (bs @iz @x @o (U.ae K) (U.ae t) @F) ?_;refine VZ l7 (pg o) λO a04=> ?_;have a05:(T.set d O) W=some (.cells (c.map al)):=by rw[U.ao _ _ n3];exact t
   have a06:(T.set d O) D=some (.cells (List.replicate 32 (.v (.int .u8 0)))):=by rw[U.ao _ _ l2];exact M
   refine aj (cV @iz @x @o (U.ae t) (U.ae a05) (U.aJ M) (U.aJ a06) @F @j) ?_;have k5:bB (T.set d O) k d (eK h b):=by
    rw[g];refine⟨⟨l3,l,by rw[U.ao _ _ k8];exact K⟩,⟨_,a04,λl8 a07=> ?_⟩,G.sj,G.sk⟩;simp only[Y];by_cases k7:l8=c
    .subst k7;rw[if_pos rfl];exact⟨Q,I,tJ⟩
    .rw[if_neg k7];rw[show(R.agg (c.map al))=cG c from rfl,qj (λy=>k7 (CB y))];exact j9 l8 a07
   have k6:Ext k d C (T.set d O):=λp l S N k4=>by
    rw[U.ao _ _ N];exact r.sub _ _ (l1 p l S N k4)
   exact⟨_,U.a1,l4 _ k5 k6⟩
def xk:ad (q++b6)=ad q++ad b6:=by simp[ad]
def gn {v:Int} (a:q[e]? =some v):cL 1 (.J (ad q) M) (.v (.int .i64 (e:Int)))=some (.bV [.v (.int .i64 v)]):=by
 have b:(0)<=(e:Int):=a8Z;have c:(ad q)[e]? =some (.v (.int .i64 v)):=by simp[ad,a]
 simp only[cL,b,if_true,a5a,c];rw[jy (e:=1) rfl];rfl
def oc {v:Int}:dn false 1 f (.bV [.v (.int .i64 v)])=some (.v (.int .i64 v)):=rfl
theorem XZ:bN f 1 (.J (ad q) M)=some (q.length,ad q):=by
 have a:((ad q).all λb=>decide (b.cells.length=1))=true:=by simp[ad,R.cells]
 have c:flat (ad q)=ad q:=by induction q with
  |nil=>rfl
  |cons d q ih=>grind[ad,flat,R.cells]
 simp[bN,a,c,bH]
theorem xl (a:List Int) (h:Own) (c:U) (r:a.length<=1000000000000):
  AC Tryz.prog 214 [.J (ad a) h] c λk d=>au c d 1 (ad a) k:=by
 refine mS λx=> ?_;have o:h= .nil->a= []:=λy=>by simp_all [ad]
 refine bd hm Pt a9a ?_;simp -dsimp -implicitDefEqProofs (disch:=first|omega|assumption|(simp only[bk,Nat.reduceAdd];try omega)) only[go_sem,simprocAttr,-List.reduceReplicate,↓o5];refine o6 (λb=>by rw[o b];rfl) (λb=> ?_) ?_
 .have p:a= []:=by simpa[ad] using b
  subst p;refine aa ?_;exact⟨c,U.a1,au.nil U.a1⟩
 .refine aj @nX ?_;refine fg (au.zero (U.a1)) a8Z XZ (by rw[bH];omega) (by simp[bH];omega) (by simp[bH];omega) λk d b=> ?_;refine aa ?_;exact⟨d,U.a1,by trivial⟩
theorem sl (b:au f t 1 (ad q) n): ∃a,f.sub a/\View t n a (.J (ad q) .any):=by grind[View.dR,kq,List.take_of_length_le]
theorem sm (a:List Int) (c:Own) (b:U) (k:a.length<=1000000000000):
  AC Tryz.prog 214 [.J (ad a) c] b λd h=>b.sub h/\d= .J (ad a) .any:=
 (xl a c b k).view λd h o=>by
  obtain⟨p,r,x⟩:=sl o;grind
theorem lf (a c:List Int) (G L:Own) (h:U) (l:a.length<=1000000000000):
  AC Tryz.prog 216 [.J (ad a) G,.J (ad c) L] h λp r=>r=h/\p= .v (.bool (decide (a=c))):=by
 refine bd hm Px a9a ?_;have V:=bH (q:=a);have W:=bH (q:=c);by_cases m:a.length=c.length
 .have x:(a.length:Int)=c.length:=a8Z;refine aa ?_;rw[<-x];refine cr (λd r=> ∃b:Nat,b<=a.length/\r=h/\d 0= .J (ad a) G/\d 1= .J (ad c) L/\d 12= .v (.int .i64 a.length)/\d 13= .v (.int .i64 b)/\a.take b=c.take b)
   (λd _=>match d 13 with| .v (.int _ e)=>(a.length - e).toNat| _=>0) ⟨0,a8Z,rfl,?_⟩ ?_
  .exact aR
  .rintro d n ⟨b,q,rfl,y,z,C,D,f⟩;by_cases E:(b:Int)<a.length
   .have k:a[b]? =some a[b]:=a4w a8Z;have o:c[b]? =some c[b]:=a4w a8Z;have P:a.take (b+1)=a.take b++ [a[b]]:=by rw[a5I,k];rfl
    have S:c.take (b+1)=c.take b++ [c[b]]:=by rw[a5I,o];rfl
    have T:a[b]'a8Z≠c[b]'a8Z->a≠c:=λg i=>g (by simp[i]);generalize a[b]'a8Z=p at k P T;generalize c[b]'a8Z=j at o S T;by_cases F:p=j
    .simp -dsimp -implicitDefEqProofs (disch:=first|omega|assumption|(simp only[bk,Nat.reduceAdd];try omega)) only[go_sem,simprocAttr,-List.reduceReplicate,y,z,C,D,E,gn k,gn o,oc,F];exact⟨⟨b+1,a8Z,a9a,by rw[P,S,f,F]⟩,a8Z⟩
    .simp -dsimp -implicitDefEqProofs (disch:=first|omega|assumption|(simp only[bk,Nat.reduceAdd];try omega)) only[go_sem,simprocAttr,-List.reduceReplicate,y,z,C,D,E,gn k,gn o,oc,F];grind[U.a1]
   .obtain rfl:b=a.length:=a8Z;refine aj (bm @y @z @C @D @E) ?_;grind[List.take_length,U.a1]
 .have x: ¬(a.length:Int)=c.length:=a8Z;refine aj (aH @V @W @x) ?_;have:a≠c:=by rintro rfl;omega
  exact⟨h,U.a1,by simp[this]⟩
abbrev er (a b:List Int) (c d:Own):R:= .agg [.J (ad a) c,.J (ad b) d]
theorem xm (b:Nat) (k:FuncId) (p r:List R) (d:U) (o:Nat->Bool) (S:b<=1000000000000) (F:gf Tryz.prog k=true)
  (G: ∀a:Nat,a<b->AC Tryz.prog k (p++ [.v (.int .i64 (a:Int))]++r) d λx h=>h=d/\x= .v (.bool (o a))):
  AC Tryz.prog 194 [.v (.int .i64 (b:Int)),.bG k p r] d λx h=>h=d/\x= .v (.bool ((List.range b).all o)):=by
 refine bd hm OY a9a ?_;refine aa ?_;refine cr (λc h=> ∃a:Nat,a<=b/\h=d/\(List.range a).all o=true/\c 0= .v (.int .i64 (b))/\c 1= .bG k p r/\c 6= .v (.int .i64 (b))/\c 7= .v (.int .i64 (a)))
  (λc _=>match c 7 with| .v (.int _ L)=>b - L.toNat| _=>0) ⟨0,a8Z,rfl,rfl,?_⟩ ?_
 .exact aR
 rintro c T ⟨a,V,rfl,P,y,z,C,D⟩;by_cases E:(a:Int)<b
 .refine aa ?_;refine fF F (G a a8Z) ?_;rintro _ _ ⟨rfl,rfl⟩;cases W:o a with
  |true=>refine aa ?_;grind
  |false=>refine aj (bs @y @z @C @D @E @a5r) ?_;refine⟨_,U.a1,rfl,?_⟩;grind
 .obtain rfl:a=b:=a8Z;simp -dsimp -implicitDefEqProofs (disch:=first|omega|assumption|(simp only[bk,Nat.reduceAdd];try omega)) only[go_sem,simprocAttr,-List.reduceReplicate,y,z,C,D,E];exact⟨_,U.a1,rfl,by rw[P]⟩
theorem Y0 (d:U) (h:Nat) (b c:List Int) (p r:Own) (a:Nat) (x:d.read h=some [.J (ad b) p,.J (ad c) r]) (C:a<b.length) (D:a<c.length):
  AC Tryz.prog 195 [.v (.int .i64 (a:Int)),.ptr h 0] d λy z=>z=d/\y= .v (.bool (decide (b.getD a 0<=c.getD a 0))):=by
 refine bd hm P0 a9a ?_;have k:b[a]? =some (b.getD a 0):=by simp_all
 have o:c[a]? =some (c.getD a 0):=by simp_all
 generalize b.getD a 0=E at k;generalize c.getD a 0=F at o;simp -dsimp -implicitDefEqProofs (disch:=first|omega|assumption|(simp only[bk,Nat.reduceAdd];try omega)) only[go_sem,simprocAttr,-List.reduceReplicate,x,gn k,gn o,oc];exact⟨d,U.a1,rfl⟩
theorem od (d:U) (b c:List Int) (o p:Own) (a:Nat) (D:a<=1000000000000):
  AC Tryz.prog 127 [er b c o p,.v (.int .i64 (a:Int))] d λE F=>F=d/\E= .v (.bool (cP b c a)):=by
 refine bd hm MR a9a ?_;have r:=bH (q:=b);have G:=bH (q:=c);refine aa ?_;refine aM λL h=> ?_;unfold cP;by_cases c1:(a:Int)<1
 .have x: ¬1<=a:=a8Z;refine aj (c2 @c1 @x) ?_;exact⟨d,U.af U.a1 h,by rfl⟩
 have x:1<=a:=a8Z;by_cases c2:(8:Int)<a
 .have y: ¬a<=8:=a8Z;simp -dsimp -implicitDefEqProofs (disch:=first|omega|assumption|(simp only[bk,Nat.reduceAdd];try omega)) only[go_sem,simprocAttr,-List.reduceReplicate,c1,c2];exact⟨d,U.af U.a1 h,by simp[y]⟩
 have y:a<=8:=a8Z;by_cases aH:(b.length:Int)=a
 .have z:b.length=a:=a8Z;by_cases aI:(c.length:Int)=a
  .have C:c.length=a:=a8Z;refine aa ?_;refine ai (xm a _ _ _ _ (λk=>decide (b.getD k 0<=c.getD k 0)) D a9f λk P=>Y0 _ L b c o p k ?_ a8Z a8Z) ?_
   .simp[U.read,U.ah]
   rintro _ _ ⟨rfl,rfl⟩;refine bT ?_;exact⟨d,U.af U.a1 h,rfl,by simp_all⟩
  .have C: ¬c.length=a:=a8Z;refine aj (bs @c1 @c2 @aH @aI @r @G) ?_;exact⟨d,U.af U.a1 h,by simp[C]⟩
 .have z: ¬b.length=a:=a8Z;refine aj (aI @c1 @c2 @aH @r) ?_;exact⟨d,U.af U.a1 h,by simp[z]⟩
def Y1 (y:U) (a:List Int) (h:Own) (z:a.length<=1000000000000):
  AC Tryz.prog 213 [.J (ad a) h] y λk L=>y.sub L/\ ∃P S,k=er (gm a).1 (gm a).2 P S:=by
 refine bd hm Pr a9a ?_;have C:=bH (q:=a);refine aa ?_;refine aM λf o=> ?_;unfold gm;have p: ∀b c d D:R,putAt [b,c] 0 [d,D]= [d,D]:=λ_ _ _ _=>rfl;have r: ∀E,(R.agg E).cells=E:=λ_=>rfl;have x: ∀b c,aX true 2 [b,c]= .agg [b,c]:=λ_ _=>rfl;by_cases c1:(a.length:Int)<1
 .refine aj (bm @c1 @C @p @r @x) ?_;rw[if_neg a8Z];exact⟨_,U.a1,U.af U.a1 o,.nil,.nil,rfl⟩
 by_cases c2:(8:Int)<a.length
 .refine aj (bs @c1 @c2 @C @p @r @x) ?_;rw[if_neg a8Z];exact⟨_,U.a1,U.af U.a1 o,.nil,.nil,rfl⟩
 refine aa ?_;refine ai (sm a h _ z) ?_;rintro _ g ⟨F,rfl⟩;refine aa ?_;refine ai (sm a h _ z) ?_;rintro _ i ⟨G,rfl⟩;have T:=G _ _ (F _ _ (U.ah _ _ _));have V: ∀b c d:R,putAt [b,c] 0 [d]= [d,c]:=λ_ _ _=>rfl;have W: ∀b c d:R,putAt [b,c] 1 [d]= [b,d]:=λ_ _ _=>rfl;have e: ∀k h,(R.J k h).cells= [.J k h]:=λ_ _=>rfl;refine aj (c6 (U.aJ T) @p @V @W @r @e @x) ?_;rw[if_pos a8Z];exact⟨_,U.a1,U.af (U.ar (U.af U.a1 o) (U.ar F G)) o,.any,.any,rfl⟩
theorem Y2 (h:U) (a b c k:List Int) (o p r x:Own) (C:a.length<=1000000000000) (D:b.length<=1000000000000):
  AC Tryz.prog 215 [er a b o p,er c k r x] h λE F=>F=h/\E= .v (.bool (decide (a=c)&&decide (b=k))):=by
 refine bd hm Pv a9a ?_;refine aa ?_;refine aM λG S=> ?_;refine aa ?_;refine aM λy d=> ?_;have L:G≠y:=by rintro rfl;rw[U.ah]at d;cases d
 have P:=a4F L;have T:h y=none:=by rw[U.ao _ _ P]at d;exact d
 refine aa ?_;refine ai (lf a c o r _ C) ?_;rintro _ _ ⟨rfl,rfl⟩;by_cases z:a=c
 .refine aa ?_;refine ai (lf b k p x _ D) ?_;rintro _ _ ⟨rfl,rfl⟩;refine aj @z ?_;grind[U.af,U.a1]
 .refine aj @z ?_;grind[U.af,U.a1]
def ph (b c:U) (d h:List Int) (k o:R):Prop:= ∃a,au b a 1 (ad d) k/\au a c 1 (ad h) o
def fI (a:au f t e g n):n.cells= [n]:=by obtain⟨_,⟨_,rfl|rfl⟩|⟨_,_,_,_,rfl,_⟩⟩:=a<;>rfl
def jL {k:bq} (o:au f t i g n) (b:f e=some k):au (f.set e Y) (t.set e Y) i g n:=by
 obtain⟨p,a⟩:=o;refine⟨U.kW p,?_⟩;rcases a with a|⟨c,r,x,y,z,d,C,D⟩
 .exact .inl a
 .have h:c≠e:=by rintro rfl;rw[d]at b;cases b
  exact .inr ⟨c,r,x,y,z,by rw[U.ao _ _ h];exact d,by rw[U.ao _ _ h];exact C,D⟩
def u9 (x:U) (h k:List Int) (y z:Own) (S:h.length<=1000000000000) (T:k.length<=1000000000000):
  AC Tryz.prog 199 [er h k y z] x λV W=> ∃a b,V= .agg [a,b]/\ph x W h k a b:=by
 refine bd hm P6 a9a ?_;refine bT ?_;refine aM λe D=> ?_;refine bT ?_;refine aM λC o=> ?_;have d:e≠C:=by rintro rfl;rw[U.ah]at o;cases o
 have E:=a4F d;have F:x C=none:=by rw[U.ao _ _ E]at o;exact o
 have G: ∀L,(R.agg L).cells=L:=λ_=>rfl;have q:=U.af (Y:= .cells [.J [] .nil,.J [] .nil]) (U.af (Y:= .cells [.J (ad h) y,.J (ad k) z]) (U.a1) D) F;refine aj (aI @G @U.ao @d @E) ?_;refine ai (xl h y _ S) ?_;intro a f p;have P:=p.1 _ _ (by rw[U.ao _ _ d,U.ah]);have c2:=p.1 _ _ (U.ah _ _ _);refine aj (U.ae P) ?_;refine ai (xl k z _ T) ?_;intro b s r;have g:=r.1 _ _ P;have i:=r.1 _ _ c2;have j: ∀a b c:R,putAt [a,b] 0 [c]= [c,b]:=λ_ _ _=>rfl;have l: ∀a b c:R,putAt [a,b] 1 [c]= [a,c]:=λ_ _ _=>rfl;have m: ∀a b c d:R,putAt [a,b] 0 [c,d]= [c,d]:=λ_ _ _ _=>rfl;have n: ∀a b,aX true 2 [a,b]= .agg [a,b]:=λ_ _=>rfl;refine aj (cV (U.ae g) (U.aJ i) (fI p) (fI r) @j @l @m @G @n) ?_;refine⟨_,U.a1,a,b,rfl,f.set C (.cells [a,b]),?_,jL r c2⟩;have:=jL (Y:= .cells [a,b]) p (U.ah _ _ _);rw[U.set_set]at this;exact this.base (U.af (U.af U.a1 D) F)
def mix (c:Int->Int->Int) (a d:List Int) (b:Nat):List Int:=(List.zipWith c a d).take b++a.drop b
def ua {a:Int->Int->Int} (b:q.length=b6.length) (c:e<=q.length):(mix a q b6 e).length=q.length:=by simp[mix,b];omega
theorem ub {a:Int->Int->Int} (d:q.length=b6.length) (h:e<q.length) (b:List R) {v:Int} (x:v=a (q.getD e 0) (b6.getD e 0)):
  putAt (ad (mix a q b6 e)++b) e [.v (.int .i64 v)]=ad (mix a q b6 (e+1))++b:=by
 have c:(ad ((List.zipWith a q b6).take e)).length=e:=by simp[ad,d];omega
 have k:(List.zipWith a q b6)[e]? =some v:=by simp_all
 have o:=a4V h;have p:ad (mix a q b6 e)++b=ad ((List.zipWith a q b6).take e)++(.v (.int .i64 q[e])::(ad (q.drop (e+1))++b)):=by unfold mix;rw[xk,o];simp only[ad,a4U,a4J,a5K]
 have r:ad (mix a q b6 (e+1))++b=ad ((List.zipWith a q b6).take e)++(.v (.int .i64 v)::(ad (q.drop (e+1))++b)):=by unfold mix;rw[a5I,k,xk,xk];simp[ad]
 rw[p,r];generalize ad ((List.zipWith a q b6).take e)=y at c;subst c;simp[putAt]
theorem Y3 (D:U) (a d b h:List Int) (L P W e:Own) (l4:a.length<=1000000000000) (a07:d.length<=1000000000000) (a08:b.length<=1000000000000) (a65:h.length<=1000000000000):
  AC Tryz.prog 212 [er a d L P,er b h W e] D λa68 E=> ∃o y,a68= .agg [o,y]/\ph D E (cQ (a,d) (b,h)).1 (cQ (a,d) (b,h)).2 o y:=by
 refine bd hm Pp a9a ?_;have i: ∀a09,(R.agg a09).cells=a09:=λ_=>rfl;have n: ∀k p,aX true 2 [k,p]= .agg [k,p]:=λ_ _=>rfl;have Z: ∀k p S:R,putAt [k,p] 0 [S]= [S,p]:=λ_ _ _=>rfl;have j9: ∀k p S:R,putAt [k,p] 1 [S]= [k,S]:=λ_ _ _=>rfl;have M: ∀k p S N:R,putAt [k,p] 0 [S,N]= [S,N]:=λ_ _ _ _=>rfl;have q:=bH (q:=a);have u:=bH (q:=b);refine aj @i ?_;refine aM λF a69=> ?_;refine aj @i ?_;refine aM λz k0=> ?_;have k1:F≠z:=by rintro rfl;rw[U.ah]at k0;cases k0
 have a71:D z=none:=by rw[U.ao _ _ (a4F k1)]at k0;exact k0
 have b17:=a4F k1;refine aj @i ?_;refine aM λr k2=> ?_;have a73:z≠r:=by rintro rfl;rw[U.ah]at k2;cases k2
 have a74:F≠r:=by rintro rfl;rw[U.ao _ _ k1,U.ah]at k2;cases k2
 have l5:D r=none:=by simp_all [U.ao,a4F]
 have k3:=U.af (Y:= .cells [.J [] .nil,.J [] .nil]) (U.af (Y:= .cells [.J (ad b) W,.J (ad h) e]) (U.af (Y:= .cells [.J (ad a) L,.J (ad d) P]) (U.a1) a69) a71) l5;have f:(((D.set F (.cells [.J (ad a) L,.J (ad d) P])).set z (.cells [.J (ad b) W,.J (ad h) e])).set r (.cells [.J [] .nil,.J [] .nil])) F=some (.cells [.J (ad a) L,.J (ad d) P]):=by rw[U.ao _ _ a74,U.ao _ _ k1,U.ah]
 have g:(((D.set F (.cells [.J (ad a) L,.J (ad d) P])).set z (.cells [.J (ad b) W,.J (ad h) e])).set r (.cells [.J [] .nil,.J [] .nil])) z=some (.cells [.J (ad b) W,.J (ad h) e]):=by rw[U.ao _ _ a73,U.ah]
 have aI:(((D.set F (.cells [.J (ad a) L,.J (ad d) P])).set z (.cells [.J (ad b) W,.J (ad h) e])).set r (.cells [.J [] .nil,.J [] .nil])) r=some (.cells [.J [] .nil,.J [] .nil]):=U.ah _ _ _;refine aj @i ?_;generalize ((D.set F (.cells [.J (ad a) L,.J (ad d) P])).set z (.cells [.J (ad b) W,.J (ad h) e])).set r (.cells [.J [] .nil,.J [] .nil])=j at*;have s: ∀k p:R,List.take 2 [k,p]= [k,p]:=λ_ _=>rfl;refine aj (aH @q @u @s) ?_;refine ai (od j a d L P a.length l4) ?_;rintro _ j ⟨rfl,rfl⟩;refine aj (bs @q @u @s (U.ae f) (U.ae g) @n) ?_;refine ai (od j b h W e b.length a08) ?_;rintro _ j ⟨rfl,rfl⟩;have O: ∀(w) (o y) (l6 l7),ph j w l6 l7 o y->ph D (w.set r (.cells [o,y])) l6 l7 o y:=by
  rintro w o y l6 l7 ⟨A,C,G⟩;refine⟨A.set r (.cells [o,y]),?_,jL G (C.1 _ _ aI)⟩;refine(jL C aI).base λa10 k4 l8=> ?_;have Q:a10≠r:=by rintro rfl;rw[l5]at l8;cases l8
  rw[U.ao _ _ Q];exact k3 a10 k4 l8
 unfold cQ;cases a81:cP a d a.length with
 |true=>
  cases a11:cP b h b.length with
  |false=>refine aj (c6 @q @u @s (U.ae f) (U.ae g) @n @a5r) ?_;refine ai (u9 _ a d L P l4 a07) ?_;rintro _ w ⟨o,y,rfl,X⟩;obtain⟨A,C,G⟩:=X;have B:=G.1 _ _ (C.1 _ _ aI);refine aj (bs (U.aJ B) @i @Z @j9 @M @n) ?_;exact⟨_,U.a1,o,y,rfl,O _ _ _ _ _ ⟨A,C,G⟩⟩
  |true=>
   by_cases a13:(a.length:Int)=b.length
   .have H:a.length=b.length:=a8Z;refine aj (bt @q @u @s (U.ae f) (U.ae g) @n @a5q @a13) ?_;rw[if_pos H];have k5:=a81;have a14:=a11;simp only[cP,a4A,decide_eq_true_eq]at k5 a14;have b18:=k5.1.2;have b19:h.length=a.length:=by rw[H];omega
    have b20:=k5.1.1.1.1;clear k5 a14;refine ai (u9 _ a d L P l4 a07) ?_;rintro _ w ⟨o,y,rfl,A,C,G⟩;have kr:=G.1 _ _ (C.1 _ _ f);have a15:=G.1 _ _ (C.1 _ _ g);have B:=G.1 _ _ (C.1 _ _ aI);obtain⟨I,⟨k6,_⟩|⟨T,a83,l9,a16,rfl,k7,a18,a84,n0,k8,a19,cd⟩⟩:=C
    .exfalso;grind
    obtain⟨n1,⟨k6,_⟩|⟨x,a86,n2,a27,rfl,l,a29,a88,n3,k9,a30,ca⟩⟩:=G
    .exfalso;have:=congrArg List.length k6;rw[bH,a4G]at this;omega
    have a89:a83=a.length:=by rw[q]at k8;omega
    have Y:a86=a.length:=by rw[bH]at k9;omega
    subst a89;subst Y;have n4:T≠x:=by rintro rfl;rw[a18]at l;cases l
    have a34:=n1 _ _ a18;simp only[a5n]at a84 a88 n0 n3 a19 a30;obtain⟨n5,rfl⟩: ∃n9,a16=ad a++n9:=⟨a16.drop a.length,by rw[<-n0,a5e]⟩;obtain⟨a00,rfl⟩: ∃n9,a27=ad d++n9:=⟨a27.drop a.length,by rw[<-n3,a5e]⟩;have a36:T≠r:=by rintro rfl;rw[k7]at aI;cases aI
    have a90:T≠F:=by rintro rfl;rw[k7]at f;cases f
    have a92:T≠z:=by rintro rfl;rw[k7]at g;cases g
    have a38:x≠r:=by rintro rfl;rw[I _ _ aI]at l;cases l
    have a94:x≠F:=by rintro rfl;rw[I _ _ f]at l;cases l
    have a95:x≠z:=by rintro rfl;rw[I _ _ g]at l;cases l
    have a96:=U.bF k3 k7;have a97:=U.bF (U.ar k3 I) l;have a42:=U.ar k3 (U.ar I n1);clear n0 n3 I n1 k8 k9 O;refine bT ?_;refine aM λv V=> ?_;have a43:v≠r:=by rintro rfl;rw[B]at V;cases V
    have a47:v≠F:=by rintro rfl;rw[kr]at V;cases V
    have a48:v≠z:=by rintro rfl;rw[a15]at V;cases V
    have l0:v≠T:=by rintro rfl;rw[a34]at V;cases V
    have l1:v≠x:=by rintro rfl;rw[a29]at V;cases V
    have a98:=U.bF a42 V;have b21: ∀k p S N:Nat,(R.an k p S N).cells= [.an k p S N]:=λ_ _ _ _=>rfl;refine aj (c2 @i @M) ?_;refine cr (λm E=> ∃c:Nat,c<=a.length/\D.sub E/\E F=some (.cells [.J (ad a) L,.J (ad d) P])/\E z=some (.cells [.J (ad b) W,.J (ad h) e])/\E r=some (.cells [.J [] .nil,.J [] .nil])/\
      E v=some (.cells [.an T a.length l9 1,.an x a.length n2 1])/\E T=some (.cells (ad (mix min a b c)++n5))/\E x=some (.cells (ad (mix max d h c)++a00))/\
      m 2= .ptr F 0/\m 3= .ptr z 0/\m 4= .ptr r 0/\m 7= .ptr v 0/\m 52= .v (.int .i64 a.length)/\m 53= .v (.int .i64 c))
     (λm _=>match m 53 with| .v (.int _ X)=>a.length - X.toNat| _=>0) ⟨0,a8Z,?_⟩ ?_
    .have a52: ∀(a56) (k p),mix a56 k p 0=k:=λa56 k p=>by rfl
     rw[a52,a52];refine aj (mU @U.ao @a47 @a48 @a43 @l0 @l1 (a4F a47) (a4F a48) (a4F a43) (a4F l0) (a4F l1) @kr @a15 @B @a34 @a29 @U.ah) ?_;exact U.af a42 a98
    rintro m E ⟨c,b22,a99,c2,aH,aI,c6,l2,l3,Y,a01,a02,a03,a04,a05⟩;by_cases a06:(c:Int)<a.length
    .have b00:c<a.length:=a8Z;have a57:a[c]? =some (a.getD c 0):=by simp_all
     have a61:b[c]? =some (b.getD c 0):=by simp_all
     have a62:d[c]? =some (d.getD c 0):=by simp_all
     have a63:h[c]? =some (h.getD c 0):=by simp_all
     have b01:=ub H b00 n5 (v:=min (a.getD c 0) (b.getD c 0)) rfl;have b02:=ub a8Z a8Z a00 (v:=max (d.getD c 0) (h.getD c 0)) rfl;generalize a.getD c 0=b23 at*;generalize b.getD c 0=b24 at*;generalize d.getD c 0=a3 at*;generalize h.getD c 0=a4 at*;simp -dsimp -implicitDefEqProofs (disch:=first|omega|assumption|(simp only[bk,Nat.reduceAdd];try omega)) only[go_sem,simprocAttr,-List.reduceReplicate,Y,a01,a02,a03,a04,a05,a06,U.ae c2,U.ae aH,U.ae c6,U.aJ l2,U.aJ l3,gn a57,gn a61,gn a62,gn a63,oc];have b03:c+1<=(ad (mix min a b c)++n5).length:=by rw[a4y,bH,ua H a8Z];omega
     have b04:c+1<=(ad (mix max d h c)++a00).length:=by rw[a4y,bH,ua a8Z a8Z];omega
     have b05:=a4F a90;have b06:=a4F a92;have b07:=a4F n4;have b08:=a4F a36;have b09:=a4F a94;have b10:=a4F a95;have b11:=a4F a38;have b12:=a4F l0;have b13:=a4F l1;simp -dsimp -implicitDefEqProofs (disch:=first|omega|assumption|(simp only[bk,Nat.reduceAdd];try omega)) only[go_sem,simprocAttr,-List.reduceReplicate,Y,a01,a02,a03,a04,a05,a06,U.ae c2,U.ae aH,U.ae c6,U.aJ l2,U.aJ l3,gn a57,gn a61,gn a62,gn a63,oc,b03,b04,b01,b02,U.ao,U.ah,n4,b07,b05,b06,b08,b09,b10,b11,b12,b13,l0,l1,c2,aH,aI,c6];grind[U.af]
    .obtain rfl:c=a.length:=a8Z;refine aj (cf @Y @a01 @a02 @a03 @a04 @a05 @a06 (U.ae c6) (U.aJ aI) @s) ?_;have k8:mix min a b a.length=List.zipWith min a b:=by unfold mix;grind
     have k9:mix max d h a.length=List.zipWith max d h:=by unfold mix;grind
     rw[k8]at l2;rw[k9]at l3;have b25:(ad (List.zipWith min a b)).length=a.length:=by rw[bH,a6m];omega
     have b26:(ad (List.zipWith max d h)).length=a.length:=by rw[bH,a6m];omega
     have b14: ∀K:U,K T=E T->K x=E x->D.sub K->ph D K (List.zipWith min a b) (List.zipWith max d h) (.an T a.length l9 1) (.an x a.length n2 1):=by
      intro K k6 b15 b16;refine⟨K.del x,⟨λo k4 t=> ?_,.inr ⟨T,a.length,l9,_,rfl,a96,by rw[U.eG _ n4,k6];exact l2,?_,?_,?_,a19,cd⟩⟩,⟨λo k4 t=> ?_,.inr ⟨x,a.length,n2,_,rfl,U.il _ _,by rw[b15];exact l3,?_,?_,?_,a30,ca⟩⟩⟩
      .have Q:o≠x:=by rintro rfl;rw[a97]at t;cases t
       rw[U.eG _ Q];exact b16 o k4 t
      simp_all;simp_all
      .omega
      .have Q:o≠x:=by rintro rfl;rw[U.il]at t;cases t
       rw[U.eG _ Q]at t;exact t
      grind[List.length_append,bH];simp_all
      .omega
     exact⟨_,U.a1,_,_,rfl,b14 _ (U.ao _ _ a36) (U.ao _ _ a38) (U.af a99 l5)⟩
   .have H: ¬a.length=b.length:=a8Z;refine aj (kZ @q @u @s (U.ae f) (U.ae g) (U.aJ aI) @n @a5q @a13 @i @Z @j9 @M) ?_;rw[if_neg H];exact⟨_,U.a1,_,_,rfl,O j _ _ _ _ ⟨j,au.nil U.a1,au.nil U.a1⟩⟩
 |false=>
  cases a11:cP b h b.length with
  |false=>refine aj (gU @q @u @s (U.ae f) (U.ae g) (U.aJ aI) @n @a5r @i @Z @j9 @M) ?_;exact⟨_,U.a1,_,_,rfl,O j _ _ _ _ ⟨j,au.nil U.a1,au.nil U.a1⟩⟩
  |true=>refine aj (c6 @q @u @s (U.ae f) (U.ae g) @n @a5r) ?_;refine ai (u9 _ b h W e a08 a65) ?_;rintro _ w ⟨o,y,rfl,X⟩;obtain⟨A,C,G⟩:=X;have B:=G.1 _ _ (C.1 _ _ aI);refine aj (bs (U.aJ B) @i @Z @j9 @M @n) ?_;exact⟨_,U.a1,o,y,rfl,O _ _ _ _ _ ⟨A,C,G⟩⟩
def D3 (h:U) (a b c d:List Int) (k o p r:Own) (z:a.length<=1000000000000) (C:b.length<=1000000000000) (D:c.length<=1000000000000) (E:d.length<=1000000000000):
  AC Tryz.prog 212 [er a b k o,er c d p r] h λx y=>h.sub y/\x=er (cQ (a,b) (c,d)).1 (cQ (a,b) (c,d)).2 .any .any:=
 (Y3 h a b c d k o p r z C D E).view λx y F=>by
  obtain⟨G,g,rfl,i,L,P⟩:=F;obtain⟨j,S,T⟩:=sl P;have V:=L.mono S;obtain⟨W,e,f⟩:=sl V;exact⟨_,W,(View.agg (a:= [G]) rfl T).trans (View.agg (a:= []) rfl f),e,rfl⟩
theorem oe (b c:List Int×List Int) (a:Nat) (d:b.1.length<=a) (h:b.2.length<=a) (k:c.1.length<=a) (o:c.2.length<=a):(cQ b c).1.length<=a/\(cQ b c).2.length<=a:=by grind[cQ]
def az {a:Type} (b:a->R->Prop):List a->List R->Prop
 | [],[]=>True
 |c::xs,d::h=>b c d/\az b xs h
 | _,_=>False
def az.len {b:Type}{h:b->R->Prop}: ∀ {c:List b}{d:List R},az h c d->d.length=c.length
 | [],[],_=>rfl
 | _:: _,_:: _,a=>by rw[a4C,a4C,a.2.len]
 | [],_:: _,a=>a.elim
 | _:: _,[],a=>a.elim
def az.get {k:Type}{o:k->R->Prop}: ∀ {d:List k}{h:List R}{i:Nat}{x:k},az o d h->d[i]? =some x-> ∃b,h[i]? =some b/\o x b
 | [],_,_,_,_,a=>by simp at a
 |x::d,b::h,0,p,a,c=>by simp only[a6h,a4H]at c|-;subst c;exact⟨b,rfl,a.1⟩
 |x::d,b::h,i+1,p,a,c=>by simp only[a6t]at c|-;exact a.2.get c
 | _:: _,[],_,_,a,_=>a.elim
def az.append {c:Type}{b:c->R->Prop}: ∀ {d h:List c}{k o:List R},az b d k->az b h o->az b (d++h) (k++o)
 | [],_,[],_,_,a=>a
 | _:: _,_,_:: _,_,a,p=>⟨a.1,a.2.append p⟩
 | [],_,_:: _,_,a,_=>a.elim
 | _:: _,_,[],_,a,_=>a.elim
variable{b0:Type}
def az.snoc {a:b0->R->Prop}{b:List b0}{c:b0} (d:az a b g) (h:a c n):az a (b++ [c]) (g++ [n]):=d.append ⟨h,trivial⟩
def az.take {c:Type}{d:c->R->Prop}: ∀ {h:List c}{k:List R} (b:Nat),az d h k->az d (h.take b) (k.take b)
 | [],[],b,_=>by simp[az]
 | _:: _,_:: _,0,_=>by simp[az]
 | _:: _,_:: _,b+1,a=>⟨a.1,a.2.take b⟩
 | [],_:: _,_,a=>a.elim
 | _:: _,[],_,a=>a.elim
def az.drop {c:Type}{d:c->R->Prop}: ∀ {h:List c}{k:List R} (b:Nat),az d h k->az d (h.drop b) (k.drop b)
 | [],[],b,_=>by simp[az]
 | _:: _,_:: _,0,a=>a
 | _:: _,_:: _,b+1,a=>a.2.drop b
 | [],_:: _,_,a=>a.elim
 | _:: _,[],_,a=>a.elim
def az.mono {b:Type}{c d:b->R->Prop} (h: ∀k o,c k o->d k o): ∀ {p:List b}{r:List R},az c p r->az d p r
 | [],[],a=>a
 | _:: _,_:: _,a=>⟨h _ _ a.1,a.2.mono h⟩
 | [],_:: _,a=>a.elim
 | _:: _,[],a=>a.elim
theorem az.cells {b:Type}{c:b->R->Prop}{d:Nat} (h: ∀p k,c p k->k.cells.length=d): ∀ {r:List b}{o:List R},az c r o->aS d o
 | [],[],_=>by simp[aS]
 | _:: _,_:: _,a=>by rw[BP];exact⟨h _ _ a.1,a.2.cells h⟩
 | [],_:: _,a=>a.elim
 | _:: _,[],a=>a.elim
def isRow (a:List Int) (b:R):Prop:= ∃c,b= .J (ad a) c
def de (a:List Int×Bool) (b:R):Prop:= ∃c,b= .agg [.J (ad a.1) c,.v (.bool a.2)]
def ab (a:ay) (b c d:Own):List R:=a.sum.map al++ [.J (ad a.aU) b,.J (ad a.aV) c,.v (.int .i64 a.live),.v (.int .i64 a.size),.J (ad a.key) d]
structure qB (k:ay) (hs eT b:Own) (a:List R):Prop where
 len:a.length=37
 t37:a.take 37=a
 t32:a.take 32=k.sum.map al
 d32:a.drop 32= [.J (ad k.aU) hs,.J (ad k.aV) eT,.v (.int .i64 k.live),.v (.int .i64 k.size),.J (ad k.key) b]
 d33:a.drop 33= [.J (ad k.aV) eT,.v (.int .i64 k.live),.v (.int .i64 k.size),.J (ad k.key) b]
 d34:a.drop 34= [.v (.int .i64 k.live),.v (.int .i64 k.size),.J (ad k.key) b]
 d35:a.drop 35= [.v (.int .i64 k.size),.J (ad k.key) b]
 d36:a.drop 36= [.J (ad k.key) b]
variable{w j2:ay}
theorem aW (b:w.sum.length=32):qB w M e6 h4 (ab w M e6 h4):=by
 have d:(w.sum.map al).length=32:=by simp[b]
 have a: ∀c,(ab w M e6 h4).drop (32+c)= [R.J (ad w.aU) M,.J (ad w.aV) e6,.v (.int .i64 w.live),.v (.int .i64 w.size),.J (ad w.key) h4].drop c:=λc=>by
  unfold ab;rw[a5V,a5k a8Z,d];simp
 exact⟨by simp[ab,b],a4x (by simp[ab,b]),by unfold ab;simp_all,a 0,a 1,a 2,a 3,a 4⟩
theorem qB.all (a:qB w M e6 h4 g):g.length=37/\g.take 37=g/\g.take 32=w.sum.map al/\(g.drop 32).take 2= [.J (ad w.aU) M,.J (ad w.aV) e6]/\
  aX false 1 (g.drop 32)= .J (ad w.aU) M/\aX false 1 (g.drop 33)= .J (ad w.aV) e6/\aX false 1 (g.drop 34)= .v (.int .i64 w.live)/\aX false 1 (g.drop 35)= .v (.int .i64 w.size)/\aX false 1 (g.drop 36)= .J (ad w.key) h4:=
 ⟨a.len,a.t37,a.t32,by rw[a.d32];rfl,by rw[a.d32];rfl,by rw[a.d33];rfl,by rw[a.d34];rfl,by rw[a.d35];rfl,by rw[a.d36];rfl⟩
structure ay.cz (k:ay):Prop where
 aU:k.aU.length<=1000000000000
 aV:k.aV.length<=1000000000000
 key:k.key.length<=1000000000000
def me:aA.cz:=⟨by simp[aA],by simp[aA],by simp[aA]⟩
def bu (a:ay) (b:R):Prop:=a.sum.length=32/\a.cz/\ ∃c d h,b= .agg (ab a c d h)
theorem de.cells {b:List Int×Bool}{a:R} (c:de b a):a.cells.length=2:=by obtain⟨d,rfl⟩:=c;rfl
theorem bu.cells {b:ay}{a:R} (c:bu b a):a.cells.length=37:=by obtain⟨d,_,h,k,o,rfl⟩:=c;exact(aW d).len
theorem isRow.cells {b:List Int}{a:R} (c:isRow b a):a.cells.length=1:=by obtain⟨d,rfl⟩:=c;rfl
structure ng (c:U) (p:R) (cells:List R):Prop where
 ld: ∀(a:U),c.sub a-> ∀agg n,0<n->n<=cells.length->dn agg n a p=some (aX agg n cells)
 kO: ∀(a:U),c.sub a-> ∀b agg n,0<n->b+n<=cells.length-> ∃d,rO b p=some d/\dn agg n a d=some (aX agg n (cells.drop b))
structure bR (b:U) (k:Nat) (x:R) (a:List R):Prop where
 one:x.cells= [x]
 len:fb x=some (.v (.int .i64 a.length))
 get: ∀(i:Nat) e,a[i]? =some e-> ∃p,cL k x (.v (.int .i64 (i:Int)))=some p/\ng b p e.cells
def ng.mono (c:ng f n g) (d:f.sub t):ng t n g:=⟨λa b=>c.ld a (U.ar d b),λa b=>c.kO a (U.ar d b)⟩
def bR.mono {b c:U}{d:Nat}{h:R}{k:List R} (a:bR b d h k) (o:b.sub c):bR c d h k:=⟨a.one,a.len,λp r x=>by
 obtain⟨y,z,C⟩:=a.get p r x;exact⟨y,z,C.mono o⟩⟩
theorem bR.J {s:U}{c:Nat}{a:List R}{o:Own} (p:aS c a):bR s c (.J a o) a:=⟨rfl,rfl,λr b d=>by
 have x:(0)<=(r:Int):=a8Z;refine⟨.bV b.cells,?_,⟨λy _ z h _ k=>by simp[dn,k],λy _ C z h _ k=>⟨_,rfl,?_⟩⟩⟩
 .simp only[cL,x,if_true,a5a,d];exact jy (p b (a4D d))
 .have:h<=(b.cells.drop C).length:=by rw[a4N];omega
  simp only[dn];rw[if_pos this]⟩
theorem D4 (a:aS e g) (c:g[i]? =some n):((flat g).drop (i*e)).take e=n.cells:=by obtain⟨b,rfl⟩:=a4E.1 c;rw[(fU i a).1,a4V b];have d:=a _ (a4Z b);simp only[flat,a4Y];simp_all
theorem bR.an {F:U}{p n cap k:Nat}{c o:List R} (x:aS k o) (G:F p=some (.cells c)) (L:o.length=n) (S:c.take (n*k)=flat o):bR F k (.an p n cap k) o:=by
 refine⟨rfl,by rw[L];rfl,λd r y=> ?_⟩;obtain⟨e,_⟩:=a4E.1 y;have f:(flat o).length=n*k:=by rw[db x,L]
 have g:n*k<=c.length:=by grind
 have T:(d+1)*k<=n*k:=a4L _ a8Z;rw[a5F,a7q]at T;have i:=x r (a4D y);have P: ∀a b,a+b<=k->((c.drop (d*k+a)).take b)=(r.cells.drop a).take b:=by intro a b hm;rw[<-D4 x y,<-S];grind[List.drop_take,Nat.min_eq_left,List.drop_drop]
 have V: ∀h a b,a+b<=k->0<b->aX h b (c.drop (d*k+a))=aX h b (r.cells.drop a):=by
  intro h a b hm z;cases h with
  |true=>simp only[aX,if_true];rw[P a b hm]
  |false=>
   have j:=P a 1 a8Z;simp only[aX,a5A,if_false];cases bW:c.drop (d*k+a)with
   |nil=>simp_all
   |cons l m=>
    cases ct:r.cells.drop a with
    |nil=>simp_all
    |cons q s=>grind
 refine⟨.ptr p (d*k),?_,⟨λW C h b z hm=> ?_,λW C a h b z hm=>⟨.ptr p (d*k+a),rfl,?_⟩⟩⟩;grind[jz,Int.toNat_natCast]
 .have D:=U.ae (C _ _ G);have E:d*k+b<=c.length:=a8Z;simp only[dn,D,if_pos E];have:=V h 0 b a8Z z;simp_all
 .have D:=U.ae (C _ _ G);have E:d*k+a+b<=c.length:=a8Z;simp only[dn,D,if_pos E];grind
theorem bR.dR (a:au t f e A n) (d:0<e) (b:A=flat g) (c:aS e g):bR f e n g:=by subst b;have h:=db c;obtain⟨k,⟨o,rfl|rfl⟩|⟨p,r,x,y,rfl,z,C,D,E,F,G,L⟩⟩:=a;grind[List.eq_nil_of_length_eq_zero,List.length_nil,Nat.mul_eq_zero,bR.J];grind[List.eq_nil_of_length_eq_zero,List.length_nil,Nat.mul_eq_zero,bR.J];grind[bR.an,Nat.eq_of_mul_eq_mul_right]
def gX (h:b0->R->Prop) (k:U) (b:FuncId) (o p:List R) (r:b0->Bool):Prop:=
 gf Tryz.prog b=true/\ ∀c d (a:U),h c d->k.sub a->AC Tryz.prog b (o++ [d]++p) a λx y=>y=a/\x= .v (.bool (r c))
variable{b5:FuncId}
theorem Y4 (a:List (List Int×Bool)) (L:List R) (y:R) (d:U) (P:az de a L) (S:bR d 2 y L) (w:a.length<=1000000000000) {h:(List Int×Bool)->Bool} (T:gX de d b5 g A h):
  AC Tryz.prog 349 [y,.bG b5 g A] d λf z=>z=d/\ ∃V:Int,f= .v (.int .i64 V)/\decide (0<=V)=a.any h:=by
 refine bd hm Sq a9a ?_;have i:=P.len;have C:=S.len;rw[i]at C;refine aj @C ?_;refine cr (λc z=> ∃b:Nat,b<=a.length/\z=d/\c 0=y/\c 1= .bG b5 g A/\c 7= .v (.int .i64 a.length)/\c 8= .v (.int .i64 b)/\(a.take b).any h=false)
  (λc _=>match c 8 with| .v (.int _ j)=>a.length - j.toNat| _=>0) ⟨0,a8Z,rfl,?_⟩ ?_
 .refine aj @C ?_;simp
 rintro c D ⟨b,B,rfl,k,o,p,r,W⟩;by_cases x:(b)<(a.length:Int)
 .have E:a[b]? =some a[b]:=a4w a8Z;have l:a.take (b+1)=a.take b++ [a[b]]:=by rw[a5I,E];rfl
  have m:a[b]'a8Z∈a:=a4Z _;generalize a[b]'a8Z=e at E l m;obtain⟨F,n,G⟩:=P.get E;obtain⟨q,s,t⟩:=S.get b F n;have u:dn true 2 D q=some F:=by have v:=t.ld D U.a1 true 2 a8Z (by rw[de.cells G];omega);rw[v];obtain⟨H,rfl⟩:=G;rfl
  refine aj (c6 @k @o @p @r @x @s @u) ?_;refine fF T.1 (T.2 e F _ G U.a1) ?_;rintro _ D ⟨rfl,rfl⟩;cases I:h e with
  |true=>refine aj (bm @k @o @p @r @x) ?_;refine⟨_,U.a1,rfl,_,rfl,?_⟩;grind
  |false=>refine aj (bm @k @o @p @r @x) ?_;grind
 .obtain rfl:b=a.length:=a8Z;refine aj (bm @k @o @p @r @x) ?_;rw[a4S]at W;exact⟨_,U.a1,rfl,_,rfl,by rw[W];simp⟩
def Y5 (b:List (List Int×Bool)) (c:List R) (d:R) (a:U) (k:az de b c) (o:bR a 2 d c) (p:b.length<=1000000000000) {h:(List Int×Bool)->Bool} (r:gX de a b5 g A h):
  AC Tryz.prog 329 [d,.bG b5 g A] a λx y=>y=a/\x= .v (.bool (b.any h)):=by
 refine bd hm RZ a9a ?_;refine bT ?_;refine ai (Y4 b c d a k o p r) ?_;rintro _ C ⟨rfl,D,rfl,z⟩;refine bT ?_;exact⟨_,U.a1,rfl,by rw[z]⟩
theorem D5 (h:List (List Int×Bool)) (p:List R) (r:R) (b:U) (P:az de h p) (S:bR b 2 r p) (T:h.length<=1000000000000) {x:(List Int×Bool)->Bool} (z:gX de b b5 g A x):
  AC Tryz.prog 283 [r,.bG b5 g A] b λV c=>c=b/\V= .v (.bool (h.all x)):=by
 refine bd hm R4 a9a ?_;refine bT ?_;refine aM λd W=> ?_;have C:=U.af (Y:= .cells [.bG b5 g A]) (U.a1) W;have aH:(b.set d (.cells [.bG b5 g A])) d=some (.cells [.bG b5 g A]):=U.ah _ _ _;have e:(R.bG b5 g A).cells= [.bG b5 g A]:=rfl;refine aj @e ?_;generalize b.set d (.cells [.bG b5 g A])=D at*;refine ai (Y5 h p r D P (S.mono C) T (b5:=330) (g:= []) (A:= [.ptr d 0]) (h:=λy=> !x y) ⟨a9e,λy a c k E=> ?_⟩) ?_
 .change AC Tryz.prog _ [a,.ptr d 0] c _;refine bd hm S1 a9a ?_;have f:=E _ _ aH;refine aj (de.cells k) ?_;refine aM λo i=> ?_;have F:=U.af (Y:= .cells a.cells) (U.a1) i;have c2:(c.set o (.cells a.cells)) o=some (.cells a.cells):=U.ah _ _ _;have aI:=F _ _ f;have G:aX true 2 (a.cells.drop 0)=a:=by obtain⟨n,rfl⟩:=k;rfl
  have j:aX true 2 a.cells=a:=G;have L:=de.cells k;refine aj @L ?_;have l:=z.2 y a (c.set o (.cells a.cells)) k (U.ar C (U.ar E F));generalize c.set o (.cells a.cells)=m at*;refine aj (bm (U.ae aI) (U.ae c2) @L @G @j) ?_;refine fF z.1 l ?_;rintro _ m ⟨rfl,rfl⟩;refine bT ?_;simp_all
 rintro _ D ⟨rfl,rfl⟩;refine bT ?_;grind
theorem Y6 (a:List ay) (L:List R) (y:R) (d:U) (P:az bu a L) (S:bR d 37 y L) (B:a.length<=1000000000000) {h:ay->Bool} (T:gX bu d b5 g A h):
  AC Tryz.prog 350 [y,.bG b5 g A] d λf z=>z=d/\ ∃V:Int,f= .v (.int .i64 V)/\decide (0<=V)=a.any h:=by
 refine bd hm Ss a9a ?_;have i:=P.len;have C:=S.len;rw[i]at C;refine aj @C ?_;refine cr (λc z=> ∃b:Nat,b<=a.length/\z=d/\c 0=y/\c 1= .bG b5 g A/\c 7= .v (.int .i64 a.length)/\c 8= .v (.int .i64 b)/\(a.take b).any h=false)
  (λc _=>match c 8 with| .v (.int _ j)=>a.length - j.toNat| _=>0) ⟨0,a8Z,rfl,?_⟩ ?_
 .refine aj @C ?_;simp
 rintro c D ⟨b,H,rfl,k,o,p,r,W⟩;by_cases x:(b)<(a.length:Int)
 .have E:a[b]? =some a[b]:=a4w a8Z;have l:a.take (b+1)=a.take b++ [a[b]]:=by rw[a5I,E];rfl
  have m:a[b]'a8Z∈a:=a4Z _;generalize a[b]'a8Z=e at E l m;obtain⟨F,n,G⟩:=P.get E;obtain⟨q,s,t⟩:=S.get b F n;have u:dn true 37 D q=some F:=by have v:=t.ld D U.a1 true 37 a8Z (by rw[bu.cells G];omega);rw[v];obtain⟨w,_,I,K,M,rfl⟩:=G;simp[R.cells,aX,(aW w).t37]
  refine aj (c6 @k @o @p @r @x @s @u) ?_;refine fF T.1 (T.2 e F _ G U.a1) ?_;rintro _ D ⟨rfl,rfl⟩;cases N:h e with
  |true=>refine aj (bm @k @o @p @r @x) ?_;refine⟨_,U.a1,rfl,_,rfl,?_⟩;grind
  |false=>refine aj (bm @k @o @p @r @x) ?_;grind
 .obtain rfl:b=a.length:=a8Z;refine aj (bm @k @o @p @r @x) ?_;rw[a4S]at W;exact⟨_,U.a1,rfl,_,rfl,by rw[W];simp⟩
def Y7 (b:List ay) (c:List R) (d:R) (a:U) (k:az bu b c) (o:bR a 37 d c) (p:b.length<=1000000000000) {h:ay->Bool} (r:gX bu a b5 g A h):
  AC Tryz.prog 331 [d,.bG b5 g A] a λx y=>y=a/\x= .v (.bool (b.any h)):=by
 refine bd hm S3 a9a ?_;refine bT ?_;refine ai (Y6 b c d a k o p r) ?_;rintro _ C ⟨rfl,D,rfl,z⟩;refine bT ?_;exact⟨_,U.a1,rfl,by rw[z]⟩
theorem xn (h:List ay) (r:List R) (x:R) (b:U) (P:az bu h r) (S:bR b 37 x r) (T:h.length<=1000000000000) {y:ay->Bool} (z:gX bu b b5 g A y):
  AC Tryz.prog 285 [x,.bG b5 g A] b λV c=>c=b/\V= .v (.bool (h.all y)):=by
 refine bd hm R8 a9a ?_;refine bT ?_;refine aM λd W=> ?_;have C:=U.af (Y:= .cells [.bG b5 g A]) (U.a1) W;have aH:(b.set d (.cells [.bG b5 g A])) d=some (.cells [.bG b5 g A]):=U.ah _ _ _;have e:(R.bG b5 g A).cells= [.bG b5 g A]:=rfl;refine aj @e ?_;generalize b.set d (.cells [.bG b5 g A])=D at*;refine ai (Y7 h r x D P (S.mono C) T (b5:=332) (g:= []) (A:= [.ptr d 0]) (h:=λk=> !y k) ⟨a9e,λk a c o E=> ?_⟩) ?_
 .change AC Tryz.prog _ [a,.ptr d 0] c _;refine bd hm S5 a9a ?_;have f:=E _ _ aH;refine aj (bu.cells o) ?_;refine aM λp i=> ?_;have F:=U.af (Y:= .cells a.cells) (U.a1) i;have c2:(c.set p (.cells a.cells)) p=some (.cells a.cells):=U.ah _ _ _;have aI:=F _ _ f;have G:aX true 37 (a.cells.drop 0)=a:=by obtain⟨j,_,l,m,n,rfl⟩:=o;show aX true 37 (ab k l m n)= _;rw[aX,if_pos rfl,(aW j).t37]
  have q:aX true 37 a.cells=a:=G;have L:=bu.cells o;refine aj @L ?_;have s:=z.2 k a (c.set p (.cells a.cells)) o (U.ar C (U.ar E F));generalize c.set p (.cells a.cells)=t at*;refine aj (bm (U.ae aI) (U.ae c2) @L @G @q) ?_;refine fF z.1 s ?_;rintro _ t ⟨rfl,rfl⟩;refine bT ?_;simp_all
 rintro _ D ⟨rfl,rfl⟩;refine bT ?_;grind
theorem D6 (a b:ay):(decide (a=b))=(decide (a.sum=b.sum)&&decide (a.live=b.live)&&decide (a.size=b.size)&&(decide (a.aU=b.aU)&&decide (a.aV=b.aV))&&decide (a.key=b.key)):=by obtain⟨c,d,h,k,o,p⟩:=a;obtain⟨r,x,y,z,C,D⟩:=b;grind
def sn {b c:List UInt8}:peq (.agg (b.map al)) (.agg (c.map al))=decide (b=c):=by rw[<-Bool.coe_iff_coe,rm,decide_eq_true_eq];exact⟨λa=>CB a,λa=>by rw[a]⟩
theorem D7 (a b:ay) (d h k o p r:Own) (V:U) (g:a.sum.length=32) (i:b.sum.length=32) (W:a.cz):
  AC Tryz.prog 139 [.agg (ab a d h k),.agg (ab b o p r)] V λu v=>v=V/\u= .v (.bool (decide (a=b))):=by
 have j:=aW (M:=d) (e6:=h) (h4:=k) g;have l:=aW (M:=o) (e6:=p) (h4:=r) i;rw[D6];generalize ab a d h k=w at j;generalize ab b o p r=A at l;obtain⟨x,O,a3,a4,_,ds,y,Q⟩:=j;obtain⟨z,X,C,D,_,E,F,Y⟩:=l;refine bd hm Nb a9a ?_;have c: ∀m,(R.agg m).cells=m:=λ_=>rfl;refine aa ?_;refine aM λB H=> ?_;refine aa ?_;refine aM λn G=> ?_;have e:B≠n:=by rintro rfl;rw[U.ah]at G;cases G
 have I:=a4F e;have K:V n=none:=by rw[U.ao _ _ I]at G;exact G
 have Z:=U.af (Y:= .cells A) (U.af (Y:= .cells w) (U.a1) H) K;have L:dA [(32,.int .u8)] (a.sum.map al):=pg g;have P:dA [(32,.int .u8)] (b.sum.map al):=pg i;have S: ∀q s M e N:R,List.take 2 [q,s,M,e,N]= [q,s]:=λ_ _ _ _ _=>rfl;by_cases T:a.sum=b.sum
 .by_cases f:a.live=b.live
  .by_cases t:a.size=b.size
   .refine aj (Cd @c @a3 @C @L @P @sn @T @f @t @x @z @ds @E @y @F @a4 @D @S @a7f) ?_;refine ai (Y2 _ a.aU a.aV b.aU b.aV d h o p W.aU W.aV) ?_;rintro _ _ ⟨rfl,rfl⟩;cases j9:(decide (a.aU=b.aU)&&decide (a.aV=b.aV))with
    |true=>refine aa ?_;refine ai (lf a.key b.key k r _ W.key) ?_;rintro _ _ ⟨rfl,rfl⟩;refine bT ?_;simp_all
    |false=>refine aj @c ?_;simp_all
   .refine aj (Cd @c @a3 @C @L @P @sn @T @f @t @x @z @ds @E @y @F @a4 @D @S @a7f) ?_;simp_all
  .refine aj (wU @c @a3 @C @L @P @sn @T @f @x @z @ds @E @y @F @a4 @D @S @a7f) ?_;simp_all
 .refine aj (mU @c @a3 @C @L @P @sn @T @x @z @ds @E @y @F @a4 @D @S @a7f) ?_;simp_all
def nh (a:ay) (c d h:Own) (k:U) (o:a.sum.length=32) (x:a.cz):
  AC Tryz.prog 154 [.agg (ab a c d h)] k λy z=>z=k/\y= .v (.bool (decide (a=aA))):=by
 have b:=aW (M:=c) (e6:=d) (h4:=h) o;refine bd hm NH a9a ?_;have p: ∀r,(R.agg r).cells=r:=λ_=>rfl;have E:=b.len;have C:(List.replicate 32 (R.v (.int .u8 0))++ [R.J [] .nil,.J [] .nil]++ [R.v (.int .i64 0),.v (.int .i64 0)]++ [R.J [] .nil])=ab aA .nil .nil .nil:=by rw[show List.replicate 32 (R.v (.int .u8 0))=(List.replicate 32 (0)).map al by rw[List.map_replicate];rfl];simp only[a4J];rfl
 refine aj (c2 @p b.len) ?_;refine aM λF D=> ?_;refine aj (aI @p b.len b.t37 @C) ?_;refine ai (D7 a aA c d h .nil .nil .nil _ o rfl x) ?_;rintro _ _ ⟨rfl,rfl⟩;refine bT ?_;exact⟨k,U.af U.a1 D,rfl⟩
theorem xo (a:ay) (p r y:Own) (c:Nat) (z:U) (g:c<=1000000000000) (E:a.sum.length=32) (i:a.cz):
  AC Tryz.prog 225 [.agg (ab a p r y),.v (.int .i64 (c:Int))] z λj l=>l=z/\j= .v (.bool (fw c a)):=by
 have F:=aW (M:=p) (e6:=r) (h4:=y) E;have G:=λz=>nh a p r y z E i;generalize ab a p r y=m at F G;obtain⟨d,t,a3,a4,a5,ds,h,u⟩:=F;refine bd hm PK a9a ?_;have k: ∀L,(R.agg L).cells=L:=λ_=>rfl;have P:=bH (q:=a.aU);have S:=bH (q:=a.aV);refine aa ?_;refine aM λv n=> ?_;have w:=U.af (Y:= .cells m) (U.a1) n;refine aa ?_;refine ai (G _) ?_;rintro _ _ ⟨rfl,rfl⟩;have A: ∀T V q c s:R,List.take 2 [T,V,q,c,s]= [T,V]:=λ_ _ _ _ _=>rfl;unfold fw;by_cases b:a=aA
 .refine aj @b ?_;simp_all
 by_cases o:a.size<1
 .refine aj (bs @b @o @k @d @ds @h) ?_;simp_all
 by_cases x:(1048576)<a.size
 .refine aj (c6 @b @o @x @k @d @ds @h) ?_;simp_all
 by_cases C:a.live<0
 .refine aj (bt @b @o @x @C @k @d @ds @h) ?_;simp_all
 by_cases D:a.size<a.live
 .refine aj (cV @b @o @x @C @D @k @d @ds @h) ?_;simp_all
 by_cases W:a.live=0
 .have e: ¬a.size<0:=a8Z;by_cases f:(a.aU.length:Int)=0
  .refine aj (lW @b @o @x @C @D @W @f @e @k @d @a4 @a5 @ds @h @P @S) ?_;simp_all
  .refine aj (lW @b @o @x @C @D @W @f @e @k @d @a4 @a5 @ds @h @P @S) ?_;simp_all
 .refine aa ?_;refine ai (od _ a.aU a.aV p r c g) ?_;rintro _ _ ⟨rfl,rfl⟩;refine bT ?_;simp_all
theorem Y8 (b:Nat) (a:List Int×Bool) (h:R) (r:de a h) (c:U) (d:Nat) (k:c.read d=some [.v (.int .i64 (b:Int))]):
  AC Tryz.prog 284 [h,.ptr d 0] c λx y=>y=c/\x= .v (.bool (decide (a.1.length=b))):=by
 obtain⟨F,rfl⟩:=r;refine bd hm R6 a9a ?_;have z: ∀o,(R.agg o).cells=o:=λ_=>rfl;have C:=bH (q:=a.1);refine aa ?_;refine aM λD p=> ?_;have G:d≠D:=by rintro rfl;simp[U.read,p]at k
 refine aj (aH @z @C @k) ?_;have E:decide ((a.1.length:Int)=b)=decide (a.1.length=b):=by grind
 exact⟨c,U.af U.a1 p,rfl,by rw[E]⟩
def Y9 (a:Nat) (E:a<=1000000000000) (c:ay) (h:R) (F:bu c h) (b:U) (d:Nat) (k:b.read d=some [.v (.int .i64 (a:Int))]):
  AC Tryz.prog 286 [h,.ptr d 0] b λG L=>L=b/\G= .v (.bool (fw a c)):=by
 obtain⟨o,P,p,r,x,rfl⟩:=F;refine bd hm Ra a9a ?_;have y: ∀z,(R.agg z).cells=z:=λ_=>rfl;have C:=aW (M:=p) (e6:=r) (h4:=x) o;have T:=C.len;refine aj @y ?_;refine aM λS D=> ?_;have V:d≠S:=by rintro rfl;simp[U.read,D]at k
 refine aj (aH @y @k C.t37) ?_;refine ai (xo c p r x a _ E o P) ?_;rintro _ _ ⟨rfl,rfl⟩;refine bT ?_;exact⟨b,U.af U.a1 D,rfl⟩
def Ya (a:ay) (c:R) (k:bu a c) (b:U):
  AC Tryz.prog 287 [c] b λo p=>p=b/\o= .v (.bool (decide (a.key.length=0))):=by
 obtain⟨r,G,x,y,z,rfl⟩:=k;refine bd hm Rc a9a ?_;have C: ∀d,(R.agg d).cells=d:=λ_=>rfl;have h:=aW (M:=x) (e6:=y) (h4:=z) r;have L:=h.len;have D:=bH (q:=a.key);refine aa ?_;refine aM λP E=> ?_;refine aj (aH @C h.d36 @D) ?_;have F:decide ((a.key.length:Int)=0)=decide (a.key.length=0):=by simp
 exact⟨b,U.af U.a1 E,rfl,by rw[F]⟩
def Yb (b:List Int×Bool) (c:R) (h:de b c) (a:U):
  AC Tryz.prog 288 [c] a λk o=>o=a/\k= .v (.bool b.2):=by
 obtain⟨x,rfl⟩:=h;refine bd hm Rf a9a ?_;have p: ∀d,(R.agg d).cells=d:=λ_=>rfl;refine aa ?_;refine aM λy r=> ?_;refine aj @p ?_;exact⟨a,U.af U.a1 r,rfl⟩
def Yc (b:Nat) (a:ay) (r:R) (L:bu a r) (c:U) (h:Nat) (k:c.read h=some [.v (.int .i64 (b:Int))]):
  AC Tryz.prog 289 [r,.ptr h 0] c λP S=>S=c/\P= .v (.bool (decide (a.key.length=b)&& !decide (a=aA))):=by
 obtain⟨x,T,y,z,C,rfl⟩:=L;refine bd hm Rh a9a ?_;have D: ∀E,(R.agg E).cells=E:=λ_=>rfl;have d:=aW (M:=y) (e6:=z) (h4:=C) x;have W:=d.len;have F:=bH (q:=a.key);refine aa ?_;refine aM λV o=> ?_;have e:h≠V:=by rintro rfl;simp[U.read,o]at k
 by_cases G:(a.key.length:Int)=b
 .have p:a.key.length=b:=a8Z;refine aj (bs @D @k d.t37 d.d36 @F @G) ?_;refine ai (nh a y z C _ x T) ?_;rintro _ _ ⟨rfl,rfl⟩;refine bT ?_;exact⟨c,U.af U.a1 o,rfl,by simp[p]⟩
 .have p: ¬a.key.length=b:=a8Z;refine aj (bs @D @k d.t37 d.d36 @F @G) ?_;exact⟨c,U.af U.a1 o,rfl,by simp[p]⟩
structure fX (a:U) (n:c3) (x y:R) (b c:List R):Prop where
 rows:az de n.rows b
 kids:az bu n.kids c
 lP:bR a 2 x b
 gT:bR a 37 y c
 kt:n.rows.length<=100000
 iw:n.kids.length<=100000
def fX.mono {b c:U}{d:c3}{h k:R}{o p:List R} (a:fX b d h k o p) (r:b.sub c):fX c d h k o p:=⟨a.rows,a.kids,a.lP.mono r,a.gT.mono r,a.kt,a.iw⟩
def fX.gY (a:fX f b9 n b3 g A):fb n=some (.v (.int .i64 b9.rows.length)):=by rw[a.lP.len,a.rows.len]
def fX.uc (a:fX f b9 b3 n g A):fb n=some (.v (.int .i64 b9.kids.length)):=by rw[a.gT.len,a.kids.len]
abbrev gM (a:c3) (b c:R):R:= .agg [.v (.int .u8 (a.kind.toNat:Int)),b,c]
theorem iA (b:UInt8) (a:Nat) (c:a<256):(decide ((b.toNat:Int)=(a:Int)))=decide (b=UInt8.ofNat a):=by grind[UInt8.ofNat,UInt8.toNat_inj,UInt8.toNat_ofNat']
theorem D8 (a:c3) (m g:List R) (c G:R) (b:Nat) (k1:1<=b) (k2:b<=8) (V:U) (p:fX V a c G m g):
  AC Tryz.prog 209 [gM a c G,.v (.int .i64 (b:Int))] V λC d=>d=V/\C= .v (.bool (dS b a)):=by
 have D:=p.gY;have E:=p.uc;have k3:=p.kt;have k4:=p.iw;refine bd hm Pj a9a ?_;have k5: ∀q,(R.agg q).cells=q:=λ_=>rfl;refine aa ?_;refine aM λi O=> ?_;refine aa ?_;refine aM λh j=> ?_;have k:i≠h:=by rintro rfl;rw[U.ah]at j;cases j
 have o:=a4F k;have Q:V h=none:=by rw[U.ao _ _ o]at j;exact j
 have W:=U.af (Y:= .cells [.v (.int .i64 (b))]) (U.af (Y:= .cells [.v (.int .u8 (a.kind.toNat)),c,G]) (U.a1) O) Q;have c2:((V.set i (.cells [.v (.int .u8 (a.kind.toNat)),c,G])).set h (.cells [.v (.int .i64 (b))])) i=some (.cells [.v (.int .u8 (a.kind.toNat)),c,G]):=by rw[U.ao _ _ k,U.ah]
 have aH:((V.set i (.cells [.v (.int .u8 (a.kind.toNat)),c,G])).set h (.cells [.v (.int .i64 (b))])) h=some (.cells [.v (.int .i64 (b))]):=U.ah _ _ _;have r: ¬(b:Int)<1:=a8Z;have x: ¬(8)<(b:Int):=a8Z;refine aa ?_;have X: ∀y:U,y h=some (.cells [.v (.int .i64 (b:Int))])->(gX de y 284 [] [.ptr h 0] λC=>decide (C.1.length=b))/\gX bu y 286 [] [.ptr h 0] (fw b)/\(gX bu y 287 [] [] λL=>decide (L.key.length=0))/\(gX de y 288 [] [] λC=>C.2)/\(gX bu y 289 [] [.ptr h 0] λL=>decide (L.key.length=b)&& !decide (L=aA)):=by intro y aH;have n: ∀d,y.sub d->d.read h=some [.v (.int .i64 (b))]:=λd P=>U.ae (P _ _ aH);have s:gX de y 284 [] [.ptr h 0] λC=>decide (C.1.length=b):=⟨a9e,λc S d T P=>Y8 b c S T d h (n d P)⟩;have t:gX bu y 286 [] [.ptr h 0] (fw b):=⟨a9e,λc S d T P=>Y9 b a8Z c S T d h (n d P)⟩;have u:gX bu y 287 [] [] λL=>decide (L.key.length=0):=⟨a9e,λc S d T P=>Ya c S T d⟩;have v:gX de y 288 [] [] λC=>C.2:=⟨a9e,λc S d T P=>Yb c S T d⟩;have w:gX bu y 289 [] [.ptr h 0] λL=>decide (L.key.length=b)&& !decide (L=aA):=⟨a9e,λc S d T P=>Yc b c S T d h (n d P)⟩;simp_all
 obtain⟨s,t,u,v,w⟩:=X _ aH;refine aa ?_;refine ai (D5 a.rows m c _ p.rows (p.lP.mono W) a8Z s) ?_;rintro _ _ ⟨rfl,rfl⟩;unfold dS;cases k6:a.rows.all (λC=>decide (C.1.length=b))with
 |false=>refine aj (bt @r @x (U.ae c2) (U.ae aH) @U.ao @k @o @a5r) ?_;simp_all
 |true=>
 refine aa ?_;refine ai (xn a.kids g G _ p.kids (p.gT.mono W) a8Z t) ?_;rintro _ _ ⟨rfl,rfl⟩;cases k7:a.kids.all (fw b)with
 |false=>refine aj (bt @r @x (U.ae c2) (U.ae aH) @U.ao @k @o @a5r) ?_;simp_all
 |true=>
 have Y:=iA a.kind 1 a8Z;have Z:=iA a.kind 2 a8Z;have j9:=iA a.kind 3 a8Z;simp only[a7y]at Y Z j9;by_cases A:a.kind=1
 .have B:((a.kind.toNat:Int)=1)=True:=by rw[A];simp
  refine aa ?_;by_cases z:(a.rows.length:Int)=1
  .by_cases F:(a.kids.length:Int)=2
   .refine aj (gU @r @x (U.ae c2) (U.ae aH) @U.ao @k @o @a5q @z @F @D @E) ?_;refine ai (xn a.kids g G _ p.kids (p.gT.mono W) a8Z u) ?_;rintro _ _ ⟨rfl,rfl⟩;refine bT ?_;have e:a.rows.length=1:=a8Z;have l:a.kids.length=2:=a8Z;simp_all
   .have l: ¬a.kids.length=2:=a8Z;refine aj (gU @r @x (U.ae c2) (U.ae aH) @U.ao @k @o @a5q @z @F @D @E) ?_;simp_all
  .have e: ¬a.rows.length=1:=a8Z;refine aj (gj @r @x (U.ae c2) (U.ae aH) @U.ao @k @o @a5q @z @D @E) ?_;simp_all
 have B: ¬(a.kind.toNat:Int)=1:=λH=>A (by simp_all);by_cases I:a.kind=2
 .have K:((a.kind.toNat:Int)=2)=True:=by rw[I];simp
  refine aa ?_;by_cases z:(1:Int)<=a.rows.length
  .by_cases F:(a.rows.length:Int)<=4
   .by_cases f:(a.kids.length:Int)=0
    .refine aj (kZ @r @x (U.ae c2) (U.ae aH) @U.ao @k @o @a5q @D @E @z @F @f) ?_;refine ai (D5 a.rows m c _ p.rows (p.lP.mono W) a8Z v) ?_;rintro _ _ ⟨rfl,rfl⟩;refine bT ?_;have e:1<=a.rows.length:=a8Z;have l:a.rows.length<=4:=a8Z;simp_all
    .have k0: ¬a.kids.length=0:=a8Z;refine aj (kZ @r @x (U.ae c2) (U.ae aH) @U.ao @k @o @a5q @D @E @z @F @f) ?_;simp_all
   .have l: ¬a.rows.length<=4:=a8Z;refine aj (gU @r @x (U.ae c2) (U.ae aH) @U.ao @k @o @a5q @D @E @z @F) ?_;grind
  .have e: ¬1<=a.rows.length:=a8Z;refine aj (gj @r @x (U.ae c2) (U.ae aH) @U.ao @k @o @a5q @D @E @z) ?_;simp_all
 have K: ¬(a.kind.toNat:Int)=2:=λH=>I (by simp_all);by_cases M:a.kind=3
 .have N:((a.kind.toNat:Int)=3)=True:=by rw[M];simp
  refine aa ?_;by_cases z:(a.rows.length:Int)=0
  .by_cases F:(2:Int)<=a.kids.length
   .by_cases f:(a.kids.length:Int)<=4
    .refine aj (kZ @r @x (U.ae c2) (U.ae aH) @U.ao @k @o @a5q @D @E @z @F @f) ?_;refine ai (xn a.kids g G _ p.kids (p.gT.mono W) a8Z w) ?_;rintro _ _ ⟨rfl,rfl⟩;refine bT ?_;have e:a.rows.length=0:=a8Z;grind
    .have k0: ¬a.kids.length<=4:=a8Z;refine aj (kZ @r @x (U.ae c2) (U.ae aH) @U.ao @k @o @a5q @D @E @z @F @f) ?_;grind
   .have l: ¬2<=a.kids.length:=a8Z;refine aj (gU @r @x (U.ae c2) (U.ae aH) @U.ao @k @o @a5q @D @E @z @F) ?_;grind
  .have e: ¬a.rows.length=0:=a8Z;refine aj (gj @r @x (U.ae c2) (U.ae aH) @U.ao @k @o @a5q @D @E @z) ?_;simp_all
 have N: ¬(a.kind.toNat:Int)=3:=λH=>M (by simp_all);refine aj (gj @r @x (U.ae c2) (U.ae aH) @U.ao @k @o @a5q @B @K @N) ?_;simp_all
def qC {b k:Type}{c:b->List k}{d:Nat}: ∀ {l:List b},(∀a∈l,(c a).length<=d)->(l.flatMap c).length<=l.length*d
 | [],_=>by simp
 |a::l,h=>by
  have r:=h a a9a;have x:=qC (l:=l) λo p=>h o (by simp[p]);rw[a4Y,a4y,a4C,a5F];omega
structure ay.ht (k:ay):Prop where
 aU:k.aU.length<=8
 aV:k.aV.length<=8
 key:k.key.length<=8
 nd:0<=k.live
 live:k.live<=1048576
 nf:0<=k.size
 size:k.size<=1048576
theorem lg (a:cP q b6 e=true):q.length=e/\b6.length=e/\1<=e/\e<=8:=by simp_all [cP]
theorem qD (a:fw e w=true):w.aU.length<=8/\w.aV.length<=8/\0<=w.live/\w.live<=1048576/\0<=w.size/\w.size<=1048576:=by
 unfold fw at a;rw[a6g]at a;rcases a with a|a
 .have:=of_decide_eq_true a;subst this;simp[aA]
 .simp only[a4A,a6d,a8K,decide_eq_false_iff_not]at a;obtain⟨c,b⟩:=a;have:w.aU.length<=8/\w.aV.length<=8:=by
   split at b;simp_all
   .have:=lg b;omega
  omega
theorem ud (o:e<=8) (a:dS e b9=true): ∀b∈b9.kids,b.ht:=by intro b c;unfold dS at a;simp only[a4A,a4O]at a;obtain⟨⟨_,d⟩,p⟩:=a;obtain⟨h,k,a3,a4,a5,ds⟩:=qD (d b c);refine⟨h,k,?_,a3,a4,a5,ds⟩;grind
def xp {a:List Int×Bool} (b:a.1.length<=8):(gK a).length<=100:=by simp[gK,xe];omega
def so (b:w.sum.length=32) (a:w.ht):(dZ w).length<=300:=by have c:=a.aU;have d:=a.aV;have h:=a.key;simp[dZ,xe,ks,b];omega
theorem xq (a:c3) (k9 l0:List R) (z C:R) (D:Nat) (a04:1<=D) (l1:D<=8) (s:U) (E:fX s a z C k9 l0):
  AC Tryz.prog 210 [gM a z C,.v (.int .i64 (D:Int))] s λh o=>s.sub o/\match sh D a with
   |none=>h= .aK [.J [] .nil,.v (.int .i64 1)]
   |some F=> ∃a05,h= .aK [.J (F.map al) a05,.v (.int .i64 0)]:=by
 have l2:=E.gY;have l3:=E.uc;have a88:=E.kt;have a89:=E.iw;refine bd hm Pl a9a ?_;have K: ∀k0,(R.agg k0).cells=k0:=λ_=>rfl;have a90: ∀y F S,aX true 3 [y,F,S]= .agg [y,F,S]:=λ_ _ _=>rfl;have a06: ∀y F S:R,List.take 3 [y,F,S]= [y,F,S]:=λ_ _ _=>rfl;refine aj @K ?_;refine aM λj a07=> ?_;have t:=U.af (Y:= .cells [.v (.int .u8 (a.kind.toNat)),z,C]) (U.a1) a07;have c2:(s.set j (.cells [.v (.int .u8 (a.kind.toNat)),z,C])) j=some (.cells [.v (.int .u8 (a.kind.toNat)),z,C]):=U.ah _ _ _;simp -dsimp -implicitDefEqProofs (disch:=first|omega|assumption|(simp only[bk,Nat.reduceAdd];try omega)) only[go_sem,simprocAttr,-List.reduceReplicate,K,a06];refine ai (D8 a k9 l0 z C D a04 l1 _ (E.mono t)) ?_;rintro _ _ ⟨rfl,rfl⟩;unfold sh;cases l4:dS D a with
 |false=>refine aj @a5r ?_;exact⟨_,U.a1,t⟩
 |true=>
 obtain⟨a08,a92,a94⟩:=lb l4;have l5:=ud l1 l4;refine aj @a5q ?_;refine aM λc a09=> ?_;have l6:j≠c:=by grind
 obtain⟨p,k1⟩: ∃p:U,p=s.set j (.cells [.v (.int .u8 (a.kind.toNat)),z,C]):=⟨_,rfl⟩;rw[<-k1]at t c2;have l7:p c=none:=by rw[k1];exact a09
 have a10:cv p c [] (p.set c (.cells [.J [] .nil,.v (.int .i64 0)])):=⟨.nil,bg.nil U.a1⟩;have l8:=E.mono t;have a11:=l8.lP;have a13:=l8.gT;have M: ∀aP o,cv p c aP o->o j=some (.cells [.v (.int .u8 (a.kind.toNat)),z,C]):=λaP o u=>u.get l6 c2;have l9: ∀aP o,cv p c aP o->p.sub o:=λaP o u=>u.sub l7;have a14:cX a=([a.kind]++ [UInt8.ofNat a.rows.length]++a.rows.flatMap gK++ [UInt8.ofNat a.kids.length])++a.kids.flatMap dZ:=by simp[cX]
 have n0: ∀b,((a.rows.take b).flatMap gK).length<=400:=λb=>by
  have:=qC (l:=a.rows.take b) λh a95=>xp (a:=h) (by grind);grind
 rw[<-k1];simp -dsimp -implicitDefEqProofs (disch:=first|omega|assumption|(simp only[bk,Nat.reduceAdd];try omega)) only[go_sem,simprocAttr,-List.reduceReplicate,U.ae c2,l6];refine ai (mY p _ c [] a.kind a10 a9a) ?_;intro _ a15 n1;simp -dsimp -implicitDefEqProofs (disch:=first|omega|assumption|(simp only[bk,Nat.reduceAdd];try omega)) only[go_sem,simprocAttr,-List.reduceReplicate,U.ae (M _ _ n1),l2,iq];refine ai (mY p a15 c _ (UInt8.ofNat a.rows.length) n1 a9a) ?_;intro _ a96 a16;simp -dsimp -implicitDefEqProofs (disch:=first|omega|assumption|(simp only[bk,Nat.reduceAdd];try omega)) only[go_sem,simprocAttr,-List.reduceReplicate,U.ae (M _ _ a16),l2];refine cr (λr o=> ∃b:Nat,b<=a.rows.length/\cv p c ([a.kind]++ [UInt8.ofNat a.rows.length]++(a.rows.take b).flatMap gK) o/\r 2= .ptr j 0/\r 6= .ptr c 0/\r 28=z/\r 29= .v (.int .i64 a.rows.length)/\r 30= .v (.int .i64 b))
  (λr _=>match r 30 with| .v (.int _ k2)=>a.rows.length - k2.toNat| _=>0) ⟨0,a8Z,by trivial,?_⟩ ?_
 .exact mT
 rintro r v ⟨b,a18,x,T,k,l,m,n⟩;by_cases w:(b:Int)<a.rows.length
 .have W:a.rows[b]? =some a.rows[b]:=a4w a8Z;have N:a.rows.take (b+1)=a.rows.take b++ [a.rows[b]]:=by rw[a5I,W];rfl
  have a19:=a08 _ (a4Z (n:=b) a8Z);generalize a.rows[b]'a8Z=h at W N a19;obtain⟨y,k3,q,rfl⟩:=E.rows.get W;obtain⟨a27,k4,O⟩:=a11.get b _ k3;have A:=O.ld v (l9 _ _ x) true 2 a8Z (by simp[R.cells]);have n2:=n0 b;have a29:aX true 2 (R.agg [.J (ad h.1) q,.v (.bool h.2)]).cells= .agg [.J (ad h.1) q,.v (.bool h.2)]:=rfl;rw[a29]at A;refine aj (bt @T @k @l @m @n @w @k4 @A) ?_;refine aM λn3 a30=> ?_;have a34: ∀y F S D:R,putAt [y,F] 0 [S,D]= [S,D]:=λ_ _ _ _=>rfl;obtain⟨a36,a38,Q⟩:=x.new (ob:= .cells [.J (ad h.1) q,.v (.bool h.2)]) a30;have a42:(p.set n3 (.cells [.J (ad h.1) q,.v (.bool h.2)])) n3=some (.cells [.J (ad h.1) q,.v (.bool h.2)]):=U.ah _ _ _;refine aj (bt @T @k @l @m @n @K @a34 @U.set_set) ?_;refine ai (XJ _ _ c _ h.2 Q (by grind)) ?_;intro _ a43 B;refine aj (bs @T @k @l @m @n (U.ae (B.get a36 a42))) ?_;refine ai (sf _ _ c _ h.1 q a8Z B (by grind)) ?_;intro _ a47 X;refine aj (bm @T @k @l @m @n) ?_;refine⟨⟨b+1,a8Z,?_,a9a⟩,a8Z⟩;have H:=X.base (U.af (U.a1) a38);rw[N,a5m];simpa[gK] using H
 .obtain rfl:b=a.rows.length:=a8Z;rw[a4S]at x;have n2:=n0 a.rows.length;rw[a4S]at n2;simp -dsimp -implicitDefEqProofs (disch:=first|omega|assumption|(simp only[bk,Nat.reduceAdd];try omega)) only[go_sem,simprocAttr,-List.reduceReplicate,T,k,l,m,n,w,U.ae (M _ _ x),l3,iq];refine ai (mY p v c _ (UInt8.ofNat a.kids.length) x (by grind)) ?_;intro _ a97 n4;have a98:([a.kind]++ [UInt8.ofNat a.rows.length]++a.rows.flatMap gK++ [UInt8.ofNat a.kids.length]).length<=500:=by grind
  generalize [a.kind]++ [UInt8.ofNat a.rows.length]++a.rows.flatMap gK++ [UInt8.ofNat a.kids.length]=k5 at*;have n5: ∀b,((a.kids.take b).flatMap dZ).length<=1200:=λb=>by
   have:=qC (l:=a.kids.take b) λd a48=>by
    have hm:=a4K a48;obtain⟨a99,a52,rfl⟩:=a5i hm;obtain⟨y,_,Y,_⟩:=E.kids.get (a4w a52);exact so Y (l5 _ hm)
   grind
  simp -dsimp -implicitDefEqProofs (disch:=first|omega|assumption|(simp only[bk,Nat.reduceAdd];try omega)) only[go_sem,simprocAttr,-List.reduceReplicate,T,k,U.ae (M _ _ n4),l3];refine cr (λr o=> ∃b:Nat,b<=a.kids.length/\cv p c (k5++(a.kids.take b).flatMap dZ) o/\r 6= .ptr c 0/\r 50=C/\r 51= .v (.int .i64 a.kids.length)/\r 52= .v (.int .i64 b))
   (λr _=>match r 52 with| .v (.int _ k2)=>a.kids.length - k2.toNat| _=>0) ⟨0,a8Z,by simpa using n4,?_⟩ ?_
  .simp -dsimp -implicitDefEqProofs (disch:=first|omega|assumption|(simp only[bk,Nat.reduceAdd];try omega)) only[go_sem,simprocAttr,-List.reduceReplicate,T,k]
  clear T k l m n;rintro r v ⟨b,a18,x,k,G,L,P⟩;by_cases w:(b:Int)<a.kids.length
  .have W:a.kids[b]? =some a.kids[b]:=a4w a8Z;have N:a.kids.take (b+1)=a.kids.take b++ [a.kids[b]]:=by rw[a5I,W];rfl
   have V:=l5 _ (a4Z (n:=b) a8Z);generalize a.kids[b]'a8Z=d at W N V;obtain⟨y,k3,Y,_,e,f,g,rfl⟩:=E.kids.get W;obtain⟨a27,k4,O⟩:=a13.get b _ k3;have Z:=aW (M:=e) (e6:=f) (h4:=g) Y;have a56:(R.agg (ab d e f g)).cells=ab d e f g:=rfl;rw[a56]at O;have A:=O.ld v (l9 _ _ x) true 37 a8Z (by rw[Z.len];omega);rw[show aX true 37 (ab d e f g)= .agg (ab d e f g) by rw[aX,if_pos rfl,Z.t37]]at A;have k6:=Z.len;generalize ab d e f g=i at*;obtain⟨b00,b01,a3,a4,a5,ds,a57,a61⟩:=Z;have b02:=n5 b;refine aj (c6 @k @G @L @P @w @k4 @A) ?_;refine aM λj9 a62=> ?_;obtain⟨a63,a65,Q⟩:=x.new (ob:= .cells i) a62;have a68:(p.set j9 (.cells i)) j9=some (.cells i):=U.ah _ _ _;have b03:=k6;have b04:=V.nd;have cm:=V.nf;have b05:=V.live;have b06:=V.size;have b07:=V.aU;have b08:=V.aV;have b09:=V.key;have a69: ∀k7:List R,k7.length=37->putAt k7 0 i=i:=λk7 a71=>by rw[putAt];simp[a71,k6]
   refine aj (cf @k @G @L @P @K @a69 @k6 @U.set_set @a4y.{0} @a6o.{0}) ?_;have a73:d.live=(d.live.toNat):=a8Z;have a74:d.size=(d.size.toNat):=a8Z;have I: ∀aP o,cv (p.set j9 (.cells i)) c aP o->o j9=some (.cells i):=λaP o u=>u.get a63 a68;rw[a3];have k8:(k5++(a.kids.take b).flatMap dZ).length<=1700:=by grind
   obtain⟨b10,a81⟩: ∃a83,a83=k5++(a.kids.take b).flatMap dZ:=⟨_,rfl⟩;rw[<-a81]at Q k8;refine ai (CF _ _ c _ d.sum Y Q a8Z) ?_;intro _ a43 B;simp -dsimp -implicitDefEqProofs (disch:=first|omega|assumption|(simp only[bk,Nat.reduceAdd];try omega)) only[go_sem,simprocAttr,-List.reduceReplicate,k,G,L,P,U.ae (I _ _ B),ds];rw[a73];refine ai (se _ _ c _ d.live.toNat a8Z B (by grind)) ?_;intro _ a47 X;simp -dsimp -implicitDefEqProofs (disch:=first|omega|assumption|(simp only[bk,Nat.reduceAdd];try omega)) only[go_sem,simprocAttr,-List.reduceReplicate,k,G,L,P,U.ae (I _ _ X),a57];rw[a74];have cl:=ks d.live.toNat;have k0:=ks d.size.toNat;refine ai (se _ _ c _ d.size.toNat a8Z X (by grind)) ?_;intro _ b11 H;simp -dsimp -implicitDefEqProofs (disch:=first|omega|assumption|(simp only[bk,Nat.reduceAdd];try omega)) only[go_sem,simprocAttr,-List.reduceReplicate,k,G,L,P,U.ae (I _ _ H),a4];have n9:=λh=>xe (a:=h);have b12:=n9 d.aU;have b13:=n9 d.aV;refine ai (sf _ _ c _ d.aU e a8Z H (by grind)) ?_;intro _ b14 a00;simp -dsimp -implicitDefEqProofs (disch:=first|omega|assumption|(simp only[bk,Nat.reduceAdd];try omega)) only[go_sem,simprocAttr,-List.reduceReplicate,k,G,L,P,U.ae (I _ _ a00),a5];refine ai (sf _ _ c _ d.aV f a8Z a00 (by grind)) ?_;intro _ b15 a01;simp -dsimp -implicitDefEqProofs (disch:=first|omega|assumption|(simp only[bk,Nat.reduceAdd];try omega)) only[go_sem,simprocAttr,-List.reduceReplicate,k,G,L,P,U.ae (I _ _ a01),a61];refine ai (sf _ _ c _ d.key g a8Z a01 (by grind)) ?_;intro _ b16 a84;refine aj (aI @k @G @L @P) ?_;refine⟨⟨b+1,a8Z,?_,a9a⟩,a8Z⟩;have H:=a84.base (U.af (U.a1) a65);grind[List.append_assoc,dZ]
  .obtain rfl:b=a.kids.length:=a8Z;rw[a4S]at x;have k8:=n5 a.kids.length;rw[a4S]at k8;refine aj (bm @k @G @L @P @w) ?_;refine ai (CE _ v c _ x (by grind)) ?_;rintro _ a02 ⟨a86,a03,rfl⟩;refine aj @k ?_;refine ai (CR _ a02 c _ (x.mono a03.sub)) ?_;rintro _ a02 ⟨rfl,rfl⟩;refine bT ?_;refine⟨_,U.a1,U.ar t (U.ar (x.sub l7) a03.sub),a86,?_⟩;rw[a14]
end Go.Proofs.YtlgnfcaolejgeaaGreat
set_option maxHeartbeats 1000000
namespace Go.Proofs.YtlgnfcaolejgeaaGreat
open Go Go.bx
theorem cn:(List.replicate 32 (R.v (.int .u8 0))++ [R.J [] .nil,.J [] .nil]++ [R.v (.int .i64 0),.v (.int .i64 0)]++ [R.J [] .nil])=ab aA .nil .nil .nil:=by rw[show List.replicate 32 (R.v (.int .u8 0))=(List.replicate 32 (0)).map al by rw[List.map_replicate];rfl];simp only[a4J];rfl
variable{w j2:ay}{B:List UInt8}{M e6 h4:Own}
theorem ue (a:w.sum.length=32) (b:B.length=32):putAt (ab w M e6 h4) 0 (B.map al)=ab {w with sum:=B} M e6 h4:=by grind[al,ab,putAt,List.length_map,List.drop_append,List.drop_eq_nil_of_le]
variable{n b3:R}{g A e0:List R}
theorem uf {b c d:R} (r:g.length=32):(∀a x,putAt (g++ [n,b3,b,c,d]) 32 [a,x]=g++ [a,x,b,c,d])/\(∀a,putAt (g++ [n,b3,b,c,d]) 34 [a]=g++ [n,b3,a,c,d])/\
  (∀a,putAt (g++ [n,b3,b,c,d]) 35 [a]=g++ [n,b3,b,a,d])/\ ∀a,putAt (g++ [n,b3,b,c,d]) 36 [a]=g++ [n,b3,b,c,a]:=by
 have o: ∀h (k),(g++k).take (32+h)=g++k.take h:=λh k=>by rw[<-r,a7i]
 have p: ∀h (k),(g++k).drop (32+h)=k.drop h:=λh k=>by rw[<-r,a7j]
 have y:=o 0;have z:=o 2;have C:=o 3;have D:=o 4;have E:=p 2;have F:=p 3;have G:=p 4;simp_all [Nat.reduceAdd,putAt]
variable{b1:Int}
theorem sq (a:w.sum.length=32):putAt (ab w M e6 h4) 34 [.v (.int .i64 b1)]=ab {w with live:=b1} M e6 h4:=(uf (by simp[a])).2.1 _
theorem sr (a:w.sum.length=32):putAt (ab w M e6 h4) 35 [.v (.int .i64 b1)]=ab {w with size:=b1} M e6 h4:=(uf (by simp[a])).2.2.1 _
variable{q b6:List Int}
theorem ss {a:Own} (b:w.sum.length=32):putAt (ab w M e6 a) 36 [.J (ad q) h4]=ab {w with key:=q} M e6 h4:=(uf (by simp[b])).2.2.2 _
theorem xr {a b:Own} (c:w.sum.length=32):putAt (ab w a b M) 32 [.J (ad q) e6,.J (ad b6) h4]=ab {w with aU:=q,aV:=b6} e6 h4 M:=(uf (by simp[c])).1 _ _
theorem cB {a b c:Own} (d:j2.sum.length=32) (h:w.sum.length=32):putAt (ab j2 a b c) 0 (ab w M e6 h4)=ab w M e6 h4:=by have o:=(aW (M:=a) (e6:=b) (h4:=c) d).len;have k:=(aW (M:=M) (e6:=e6) (h4:=h4) h).len;rw[putAt,a6s,a4P,k,a5k a8Z,a5B]
theorem bj:aA.sum.length=32:=by rfl
theorem su:(gm q).1.length<=8/\(gm q).2.length<=8:=by grind[gm]
variable{e i v O b8 j0:Nat}{b9:c3}
theorem xt (b:e<=8) (c:dS e b9=true) (k: ∀a∈b9.kids,a.sum.length=32):(cX b9).length<=2000:=by obtain⟨o,p,r⟩:=lb c;have x:=ud b c;have z:=qC λd y=>xp (a:=d) (by rw[o d y];exact b);have C:=qC λa h=>so (k a h) (x a h);have a3:b9.rows.length*100<=4*100:=a4L _ p;have a4:b9.kids.length*300<=4*300:=a4L _ r;unfold cX;grind
theorem az.all (b:az bu b9.kids g): ∀a∈b9.kids,a.sum.length=32/\a.cz:=by intro a c;obtain⟨h,d,rfl⟩:=a5i c;obtain⟨k,_,o,p,_⟩:=b.get (a4w d);trivial
abbrev fJ (b:List UInt8) (a:gL):ay:=⟨b,a.aO.1,a.aO.2,a.live,a.size,[]⟩
theorem Yd (z:B.length=32): ∃p:List Int->List Int->Int->Int->List Int->Own->Own->Own->List R,(∀(x:ay) a b c,x.sum=B->ab x a b c=p x.aU x.aV x.live x.size x.key a b c)/\putAt (ab aA .nil .nil .nil) 0 (B.map al)=p [] [] 0 0 [] .nil .nil .nil/\
  ∀d h k cm o a b c,(p d h k cm o a b c).length=37/\(p d h k cm o a b c).take 37=p d h k cm o a b c/\((p d h k cm o a b c).drop 32).take 2= [.J (ad d) a,.J (ad h) b]/\aX false 1 ((p d h k cm o a b c).drop 34)= .v (.int .i64 k)/\aX false 1 ((p d h k cm o a b c).drop 35)= .v (.int .i64 cm)/\putAt (ab aA .nil .nil .nil) 0 (p d h k cm o a b c)=p d h k cm o a b c/\
   (∀r,putAt (p d h k cm o a b c) 34 [.v (.int .i64 r)]=p d h r cm o a b c)/\(∀r,putAt (p d h k cm o a b c) 35 [.v (.int .i64 r)]=p d h k r o a b c)/\(∀r y,putAt (p d h k cm o a b c) 36 [.J (ad r) y]=p d h k cm r a b y)/\ ∀r C y D,putAt (p d h k cm o a b c) 32 [.J (ad r) y,.J (ad C) D]=p r C k cm o y D c:=by
 refine⟨λd h k cm o a b c=>ab ⟨B,d,h,k,cm,o⟩ a b c,λx _ _ _ E=>by subst E;rfl,ue bj z,λd h k cm o a b c=> ?_⟩;have F:=(aW (w:=⟨B,d,h,k,cm,o⟩) (M:=a) (e6:=b) (h4:=c) z).all;grind[cB,bj,sq,sr,ss,xr]
theorem D9 (b:c3) (n9 a00:List R) (X Y:R) (w:Nat) (a34:1<=w) (l3:w<=8) (O:U) (x:fX O b X Y n9 a00):
  AC Tryz.prog 138 [gM b X Y,.v (.int .i64 (w:Int))] O λc F=>O.sub F/\match fH w b with
   |none=>c= .aK [.agg (ab aA .nil .nil .nil),.v (.int .i64 1)]
   |some d=> ∃k o l4,c= .aK [.agg (ab d k o l4),.v (.int .i64 0)]:=by
 have a84:=x.gY;have a86:=x.uc;have a88:=x.kt;have a89:=x.iw;have a01:=ob (cX b);obtain⟨k5,a90,a92,a36⟩:=Yd a01;have A:=λa38 k6 Z cm a42 k o l4=>(a36 a38 k6 Z cm a42 k o l4).1;have a94:(cG (eR (cX b))).cells=(eR (cX b)).map al:=rfl;have a95:((eR (cX b)).map al).length=32:=by simp[a01]
 have a96:=cn;have a97:=(aW (M:= .nil) (e6:= .nil) (h4:= .nil) bj).all;have a02:=λd y z E B=>cB (a:= .nil) (b:= .nil) (c:= .nil) (w:=d) (M:=y) (e6:=z) (h4:=E) bj B;have a98:=a02 aA .nil .nil .nil bj;generalize a99:ab aA .nil .nil .nil=l5 at*;obtain⟨a03,L⟩: ∃a03,fH w b=a03:=⟨_,rfl⟩;rw[L];unfold fH eS at L;have a43:= @U.set_set;have b00:= @rL;refine aN hm N9 ?_;refine bp λa04 a47=> ?_;refine cW λj9 a48 _ _=> ?_;generalize C:(O.set a04 _).set j9 _=l6;have a05:O.sub l6:=by subst C;exact aR
 have c2:l6 a04=some (.cells [.v (.int .u8 (b.kind.toNat)),X,Y]):=by subst C;exact aR
 have aI:l6 j9=some (.cells l5):=by subst C;exact aR
 clear C a47;refine cl (xq b n9 a00 X Y w a34 l3 _ (x.mono a05)) ?_;rintro c k0 ⟨l7,k1⟩;replace c2:=l7 _ _ c2;replace aI:=l7 _ _ aI;have H:=U.ar a05 l7;have k2:=U.ae c2;have l8:=U.aJ aI;have b01: ∀F i,k0.sub F->O.sub (F.set j9 i):=λF i B=>U.af (U.ar H B) a48;unfold sh at k1;cases S:dS w b with
 |false=>rw[S]at k1 L;rw[if_neg a9a]at L;obtain rfl:=k1;subst L;exact aR
 |true=>
  rw[S]at k1 L;rw[if_pos rfl]at L;obtain⟨a52,rfl⟩:=k1;obtain⟨a06,b02,b03⟩:=lb S;have a07:=ud l3 S;have a56:=x.kids.all;have b04:=xt l3 S λd a57=>(a56 d a57).1;obtain⟨h,j⟩: ∃h:Nat->gL,h=λa=>(b.rows.take a).foldl dK ⟨0,b.rows.length,([],[])⟩:=⟨_,rfl⟩;obtain⟨T,I⟩: ∃T:Nat->gL,T=λa=>(b.kids.take a).foldl ep (h b.rows.length):=⟨_,rfl⟩;have a08:h 0=⟨0,b.rows.length,([],[])⟩:=by subst j;rfl
  have a09:T 0=h b.rows.length:=by subst I;rfl
  have a61: ∀a c,b.rows[a]? =some c->h (a+1)=dK (h a) c:=λa c B=>by subst j;simp[a5I,B]
  have a10: ∀a d,b.kids[a]? =some d->T (a+1)=ep (T a) d:=λa d B=>by subst I;simp[a5I,B]
  have a11:eC b=T b.kids.length:=by subst I;subst j;simp[eC]
  rw[a11]at L;clear j I a11;refine aa ?_;refine lX (D1 (cX b) a52 _ a8Z) ?_;refine bp λl Q=> ?_;have b05:=U.gW Q c2;have b06:=U.gW Q aI;refine aa ?_;refine ch [2,4,8,30,31] (λa:Nat=> [(32,.v (.int .i64 (a)))]) (λa F=>a<=b.rows.length/\k0.sub F/\(0<=(h a).live/\(h a).live<=a/\(h a).size=b.rows.length/\(h a).aO.1.length<=8/\(h a).aO.2.length<=8)/\ ∃k o,F l=some (.cells (k5 (h a).aO.1 (h a).aO.2 (h a).live b.rows.length [] k o .nil))) (λa=>b.rows.length - a) 0 ⟨⟨a8Z,U.af (U.af U.a1 Q) Q,by simp[a08],.nil,.nil,by rw[a08];exact U.ah _ _ _⟩,aR⟩ ?_;rintro a D ⟨k6,p,⟨a13,a14,l9,k7,k8⟩,k,o,bt⟩ a62;have a15:=A (h a).aO.1 (h a).aO.2 (h a).live b.rows.length [] k o .nil;have k9:=A (h a).aO.1 (h a).aO.2 ((h a).live+1) b.rows.length [] k o .nil;have m:=U.ae bt;have V:=U.aJ bt;have k2:=rd p c2;refine aa ?_;refine aG (λP=> ?_) λP=> ?_
  .have K:=a4w (show a<b.rows.length by omega);have j:=a61 a _ K;have n0:=a06 _ (a4Z (n:=a) a8Z);generalize b.rows[a]'a8Z=c at K j n0;obtain⟨_,M,n,rfl⟩:=x.rows.get K;obtain⟨q,W,G⟩:=(x.lP.mono (U.ar H p)).get a _ M;have e:dn true 2 D q=some (.agg [.J (ad c.1) n,.v (.bool c.2)]):=G.ld D U.a1 true 2 a8Z (by simp[R.cells]);obtain⟨c,Z⟩:=c;refine aa ?_;refine bp λn1 a16=> ?_;have a63:=U.gW a16 bt;obtain⟨r,s⟩: ∃r,D.set n1 (.cells [.J (ad c) n,.v (.bool Z)])=r:=⟨_,rfl⟩;have f:D.sub r:=by rw[<-s];exact U.af U.a1 a16
   have cf:r n1=some (.cells [.J (ad c) n,.v (.bool Z)]):=by rw[<-s,U.ah]
   rw[a43,s];have m:=rd f bt;have V:=U.aJ (f _ _ bt);have a65:=U.ae cf;clear s e W G k2;refine aG (λP=> ?_) λP=> ?_<;>subst P
   .generalize C:r.set l _=t;have bt:t l=some (.cells (k5 (h a).aO.1 (h a).aO.2 ((h a).live+1) b.rows.length [] k o .nil)):=by subst C;exact U.ah _ _ _
    have cf:t n1=some (.cells [.J (ad c) n,.v (.bool true)]):=by subst C;rw[U.ao _ _ a63.symm];exact cf
    have n2:k0.sub t:=by subst C;exact U.af (U.ar p f) Q
    clear C;refine cl (Y1 t c n (by dsimp only at n0;omega)) ?_;rintro _ a68 ⟨l0,y,z,rfl⟩;have m:=rd l0 bt;have a65:=rd l0 cf;have a18:=su (q:=c);refine cl (D3 a68 (h a).aO.1 (h a).aO.2 (gm c).1 (gm c).2 k o y z a8Z a8Z a8Z a8Z) ?_;rintro _ a69 ⟨k3,rfl⟩;have V:=U.aJ (k3 _ _ (l0 _ _ bt));have n3:=oe (h a).aO (gm c) 8 k7 k8 a18.1 a18.2;refine aa ?_;refine⟨a+1,⟨a8Z,U.ar n2 (U.ar l0 k3),?_,.any,.any,?_⟩,rfl,a8Z⟩<;>rw[j,dK,if_pos rfl];grind
   .refine⟨a+1,⟨a8Z,U.ar p f,?_,k,o,?_⟩,rfl,a8Z⟩<;>rw[j,dK,if_neg a9a];omega
    .exact f _ _ bt
  obtain rfl:a=b.rows.length:=a8Z;refine ch [2,4,8,51,52] (λa:Nat=> [(53,.v (.int .i64 (a)))]) (λa F=>a<=b.kids.length/\k0.sub F/\(0<=(T a).live/\(T a).live<=4+a*1048576/\0<=(T a).size/\(T a).size<=4+a*1048576/\(T a).aO.1.length<=8/\(T a).aO.2.length<=8)/\ ∃k o,F l=some (.cells (k5 (T a).aO.1 (T a).aO.2 (T a).live (T a).size [] k o .nil))) (λa=>b.kids.length - a) 0 ⟨⟨a8Z,p,by grind,k,o,by rw[a09,l9];exact bt⟩,aR⟩ ?_;clear a15 k9 bt m V k2 p P a13 a14 l9 k7 k8 k6;rintro a D ⟨k6,p,⟨a13,a14,l9,b07,k7,k8⟩,k,o,bt⟩ a62;have a15:=A (T a).aO.1 (T a).aO.2 (T a).live (T a).size [] k o .nil;have m:=U.ae bt;have V:=U.aJ bt;have k2:=rd p c2;have l8:=U.aJ (p _ _ aI);refine aa ?_;refine aG (λP=> ?_) λP=> ?_
  .have K:=a4w (show a<b.kids.length by omega);have I:=a10 a _ K;have u:=a07 _ (a4Z (n:=a) a8Z);generalize b.kids[a]'a8Z=d at K I u;obtain⟨_,M,l1,a71,y,z,E,rfl⟩:=x.kids.get K;obtain⟨q,W,G⟩:=(x.gT.mono (U.ar H p)).get a _ M;have N:=aW (M:=y) (e6:=z) (h4:=E) l1;change ng D q (ab d y z E)at G;have e:=G.ld D U.a1 true 37 a8Z (by rw[N.len];omega);rw[show aX true 37 (ab d y z E)= .agg (ab d y z E) by rw[aX,if_pos rfl,N.t37]]at e;have N:=N.all;have b08:=a02 d y z E l1;generalize ab d y z E=a19 at*;have Z:=u.nd;have cm:=u.nf;have b09:=u.live;have b10:=u.size;have a73:=u.aU;have a74:=u.aV;refine aa ?_;have k9:=A (T a).aO.1 (T a).aO.2 ((T a).live+d.live) (T a).size [] k o .nil;have b11:=A (T a).aO.1 (T a).aO.2 ((T a).live+d.live) ((T a).size+d.size) [] k o .nil;refine bp λa27 a29=> ?_;have b12:=U.gW a29 bt;obtain⟨r,s⟩: ∃r,D.set a27 (.cells a19)=r:=⟨_,rfl⟩;have f:D.sub r:=by rw[<-s];exact U.af U.a1 a29
   have a81:r.read a27=some a19:=U.ae (by rw[<-s,U.ah]);have m:=rd f bt;have V:=U.aJ (f _ _ bt);clear e W G k2;refine aa ?_;generalize C:r.set l _=t;have bt:t l=some (.cells (k5 (T a).aO.1 (T a).aO.2 ((T a).live+d.live) ((T a).size+d.size) [] k o .nil)):=by subst C;exact U.ah _ _ _
   have n2:k0.sub t:=by subst C;exact U.af (U.ar p f) Q
   clear C s m V a81;refine cl (D3 t (T a).aO.1 (T a).aO.2 d.aU d.aV k o y z a8Z a8Z a8Z a8Z) ?_;rintro _ a69 ⟨k3,rfl⟩;have V:=U.aJ (k3 _ _ bt);have n3:=oe (T a).aO (d.aU,d.aV) 8 k7 k8 a73 a74;refine aa ?_;refine⟨a+1,⟨a8Z,U.ar n2 k3,?_,.any,.any,?_⟩,rfl,a8Z⟩<;>rw[I,ep];exact⟨by dsimp only;omega,by dsimp only;omega,by dsimp only;omega,by dsimp only;omega,n3.1,n3.2⟩
  obtain rfl:a=b.kids.length:=a8Z;clear a10 a09;generalize T b.kids.length=v at*;refine aG (λP=> ?_) λP=> ?_;grind;rw[if_neg P]at L;subst L;by_cases g2:b.kind=2
  .have bp:(b.kind.toNat:Int)=2:=by rw[g2];rfl
   obtain⟨c,l2,n4⟩: ∃c l2,b.rows=c::l2:=a6B (by rintro k4;unfold dS at S;simp[g2,k4]at S);have n0:=a06 c (by simp[n4]);obtain⟨_,M,n,rfl⟩:=x.rows.get (i:=0) (by rw[n4];rfl);obtain⟨q,W,G⟩:=(x.lP.mono (U.ar H p)).get 0 _ M;obtain⟨a30,a83,e⟩:=G.kO D U.a1 0 false 1 a8Z (by simp[R.cells]);have W:cL 2 X (.v (.int .i64 0))=some q:=W;have e:dn false 1 D a30=some (.J (ad c.1) n):=e;have k9:=A v.aO.1 v.aO.2 v.live v.size c.1 k o .any;refine iu ?_;refine cl (sm c.1 n _ a8Z) ?_;rintro _ r ⟨g,rfl⟩;have m:=rd g bt;have V:=U.aJ (g _ _ bt);have l8: ∀i,ee (r.set l i) j9=some l5:=λi=>U.aJ (by rw[U.ao _ _ a9c];exact g _ _ (p _ _ aI));refine aa ?_;exact⟨U.ar H (U.ar p g),k,o,.any,by simp[keyOf,g2,n4]⟩
  have bp: ¬(b.kind.toNat:Int)=2:=λk4=>g2 (a5s.1 (by grind));refine iu ?_;by_cases g3:b.kind=3
  .have hp:(b.kind.toNat:Int)=3:=by rw[g3];rfl
   obtain⟨d,b13,n5⟩: ∃c l2,b.kids=c::l2:=a6B (by rintro k4;unfold dS at S;simp[g3,k4]at S);have u:=(a07 d (by simp[n5])).key;obtain⟨_,M,l1,a71,y,z,E,rfl⟩:=x.kids.get (i:=0) (by rw[n5];rfl);obtain⟨q,W,G⟩:=(x.gT.mono (U.ar H p)).get 0 _ M;have N:=aW (M:=y) (e6:=z) (h4:=E) l1;change ng D q (ab d y z E)at G;obtain⟨a30,a83,e⟩:=G.kO D U.a1 36 false 1 a8Z (by rw[N.len];omega);have W:cL 37 Y (.v (.int .i64 0))=some q:=W;rw[N.all.2.2.2.2.2.2.2.2]at e;have k9:=A v.aO.1 v.aO.2 v.live v.size d.key k o .any;refine iu ?_;refine cl (sm d.key E _ a8Z) ?_;rintro _ r ⟨g,rfl⟩;have m:=rd g bt;have V:=U.aJ (g _ _ bt);have l8: ∀i,ee (r.set l i) j9=some l5:=λi=>U.aJ (by rw[U.ao _ _ a9c];exact g _ _ (p _ _ aI));refine aa ?_;exact⟨U.ar H (U.ar p g),k,o,.any,by simp[keyOf,g3,n5]⟩
  have hp: ¬(b.kind.toNat:Int)=3:=λk4=>g3 (a5s.1 (by grind));refine iu ?_;grind[keyOf]
theorem Da {h k d:R} (o:g.length=32):(∀c,putAt (g++ [h,k,n,b3,d]) 32 [c]=g++ [c,k,n,b3,d])/\ ∀c,putAt (g++ [h,k,n,b3,d]) 33 [c]=g++ [h,c,n,b3,d]:=by
 have p: ∀a (b),(g++b).take (32+a)=g++b.take a:=λa b=>by rw[<-o,a7i]
 have r: ∀a (b),(g++b).drop (32+a)=b.drop a:=λa b=>by rw[<-o,a7j]
 have x:=p 0;have y:=p 1;have z:=r 1;have C:=r 2;simp_all [Nat.reduceAdd,putAt]
def Db {a:Own} (b:w.sum.length=32):putAt (ab w a M e6) 32 [.J (ad q) h4]=ab {w with aU:=q} h4 M e6:=(Da (by simp[b])).1 _
def Dc {a:Own} (b:w.sum.length=32):putAt (ab w M a e6) 33 [.J (ad q) h4]=ab {w with aV:=q} M h4 e6:=(Da (by simp[b])).2 _
variable{f t e4:U}{Y:bq}
def bY.put {b:Rd} (a:bq) (c:bY (f.set e Y) i b t) (d:e≠i):bY (f.set e a) i b (t.set e a):=by have:=c.other (ob:=a) d;rwa[U.set_set]at this
theorem Ye (L H:U) (x:Nat) (r:Nat) (a04:r<=8) (C:Rd) (l0:L x=none) (P:bY L x C H):
  AC Tryz.prog 208 [.ptr x 0,.v (.int .i64 (r:Int))] H λD V=>bY L x (hV r C).2 V/\(hV r C).1.sum.length=32/\(hV r C).1.cz/\ ∃b h o,D= .agg (ab (hV r C).1 b h o):=by
 have eN:=aW (M:= .nil) (e6:= .nil) (h4:= .nil) bj;have n:=eN.len;have a05:=eN.t37;refine bd hm Pg a9a ?_;have q: ∀I,(R.agg I).cells=I:=λ_=>rfl;have K: ∀c:Int,(R.v (.int .i64 c)).cells= [.v (.int .i64 c)]:=λ_=>rfl;have s: ∀(c) (M),(R.J (ad c) M).cells= [.J (ad c) M]:=λ_ _=>rfl;refine aj @cn ?_;refine aM λE l1=> ?_;obtain⟨t,N,P⟩:=P.new (ob:= .cells (ab aA .nil .nil .nil)) l1;have l2:L.sub (L.set E (.cells (ab aA .nil .nil .nil))):=U.af U.a1 N;have O:(L.set E (.cells (ab aA .nil .nil .nil))) x=none:=by rw[U.ao _ _ (a4F t)];exact l0
 have u:(L.set E (.cells (ab aA .nil .nil .nil))) E=some (.cells (ab aA .nil .nil .nil)):=U.ah _ _ _;obtain⟨l,l3⟩: ∃l:U,l=L.set E (.cells (ab aA .nil .nil .nil)):=⟨_,rfl⟩;rw[<-l3]at P l2 O u;refine bT ?_;refine ai (CN _ _ x C P) ?_;rintro D a06 ⟨Q,rfl⟩;unfold hV;have z:=CM C;generalize mZ C=p at*;obtain⟨a,X⟩:=p;simp only at Q z|-;have Y:(cG a).cells=a.map al:=rfl;have Z:(a.map al).length=32:=by simp[z]
 have j9:putAt (ab aA .nil .nil .nil) 0 (a.map al)=ab ⟨a,[],[],0,0,[]⟩ .nil .nil .nil:=ue bj z;have k0: ∀(p) (b h o),p.sum.length=32->putAt (ab aA .nil .nil .nil) 0 (ab p b h o)=ab p b h o:=λp b h o l4=>cB bj l4;have cl: ∀(k y) (v w) (F) (b h o),qB ⟨a,k,y,v,w,F⟩ b h o (ab ⟨a,k,y,v,w,F⟩ b h o):=λk y v w F b h o=>aW z;have A:=(cl [] [] 0 0 [] .nil .nil .nil).len;have k1:=k0 ⟨a,[],[],0,0,[]⟩ .nil .nil .nil z;refine aj (bt @q @Y @Z @cn @j9 @n @A @k1) ?_;refine aM λW l5=> ?_;obtain⟨S,k2,l6⟩:=Q.new (ob:= .cells (ab ⟨a,[],[],0,0,[]⟩ .nil .nil .nil)) l5;have m:E≠W:=by rintro rfl;rw[u]at k2;cases k2
 have B: ∀e,(l.set W e) x=none:=λe=>by rw[U.ao _ _ (a4F S)];exact O
 have aa: ∀ {e C V},bY (l.set W e) x C V->V W=some e/\V E=some (.cells (ab aA .nil .nil .nil)):=λP=>⟨P.get S (U.ah _ _ _),P.get t (by rw[U.ao _ _ m];exact u)⟩;refine aj (cV @q @Y @Z @cn @j9 @n @A @k1 @U.set_set) ?_;refine ai (sg _ _ x 1048576 a8Z _ l6) ?_;rintro D a07 ⟨f,rfl⟩;have l7:=xf 1048576 X;generalize fv 1048576 X=p at*;obtain⟨d,k3⟩:=p;simp only at f l7|-;have G:=(aa f).1;have c2:=(cl [] [] d 0 [] .nil .nil .nil).len;have l8:putAt (ab ⟨a,[],[],0,0,[]⟩ .nil .nil .nil) 34 [.v (.int .i64 (d))]=ab ⟨a,[],[],d,0,[]⟩ .nil .nil .nil:=sq z;replace f:=f.put (.cells (ab ⟨a,[],[],d,0,[]⟩ .nil .nil .nil)) S;refine aj (aI @K (U.aJ G) @A @l8) ?_;refine ai (sg _ _ x 1048576 a8Z _ f) ?_;rintro D a08 ⟨g,rfl⟩;have l9:=xf 1048576 k3;generalize fv 1048576 k3=p at*;obtain⟨c,k4⟩:=p;simp only at g l9|-;replace G:=(aa g).1;have aH:=(cl [] [] d c [] .nil .nil .nil).len;have n0:putAt (ab ⟨a,[],[],d,0,[]⟩ .nil .nil .nil) 35 [.v (.int .i64 (c))]=ab ⟨a,[],[],d,c,[]⟩ .nil .nil .nil:=sr z;replace g:=g.put (.cells (ab ⟨a,[],[],d,c,[]⟩ .nil .nil .nil)) S;refine aj (aI @K (U.aJ G) @c2 @n0) ?_;refine ai (pc _ _ x r a8Z _ (B _) g) ?_;rintro D a09 ⟨i,b,rfl⟩;have n1:=xg r k4;generalize hU r k4=p at*;obtain⟨k,k5⟩:=p;simp only at i n1|-;replace G:=(aa i).1;have aI:=(cl k [] d c [] b .nil .nil).len;have n2:putAt (ab ⟨a,[],[],d,c,[]⟩ .nil .nil .nil) 32 [.J (ad k) b]=ab ⟨a,k,[],d,c,[]⟩ b .nil .nil:=Db z;replace i:=i.put (.cells (ab ⟨a,k,[],d,c,[]⟩ b .nil .nil)) S;simp -dsimp -implicitDefEqProofs (disch:=first|omega|assumption|(simp only[bk,Nat.reduceAdd];try omega)) only[go_sem,simprocAttr,-List.reduceReplicate,s,U.aJ G,aH,n2];refine ai (pc _ _ x r a8Z _ (B _) i) ?_;rintro D a10 ⟨j,h,rfl⟩;have n3:=xg r k5;generalize hU r k5=p at*;obtain⟨y,k6⟩:=p;simp only at j n3|-;replace G:=(aa j).1;have bm:=(cl k y d c [] b h .nil).len;have n4:putAt (ab ⟨a,k,[],d,c,[]⟩ b .nil .nil) 33 [.J (ad y) h]=ab ⟨a,k,y,d,c,[]⟩ b h .nil:=Dc z;replace j:=j.put (.cells (ab ⟨a,k,y,d,c,[]⟩ b h .nil)) S;simp -dsimp -implicitDefEqProofs (disch:=first|omega|assumption|(simp only[bk,Nat.reduceAdd];try omega)) only[go_sem,simprocAttr,-List.reduceReplicate,s,U.aJ G,aI,n4];refine ai (pc _ _ x r a8Z _ (B _) j) ?_;rintro D n5 ⟨T,o,rfl⟩;have n9:=xg r k6;generalize hU r k6=p at*;obtain⟨F,a11⟩:=p;simp only at T n9|-;replace G:=(aa T).1;have k7:=cl k y d c F b h o;have bs:=k7.len;have a00:putAt (ab ⟨a,k,y,d,c,[]⟩ b h .nil) 36 [.J (ad F) o]=ab ⟨a,k,y,d,c,F⟩ b h o:=ss z;replace T:=T.put (.cells (ab ⟨a,k,y,d,c,F⟩ b h o)) S;have k8:=(aa T).2;have a13:=(aa T).1;have a01:=a4F m;have a02:=k0 ⟨a,k,y,d,c,F⟩ b h o z;have a03:n5 E=some (.cells (ab aA .nil .nil .nil)):=by rw[U.ao _ _ m]at k8;exact k8
 refine aj (fu @s (U.aJ G) @bm @a00 @U.ah @U.ao @m @a01 (U.aJ a03) k7.t37 @n @bs @a02 @q) ?_;refine⟨_,U.a1,?_,z,⟨by simp only;omega,by simp only;omega,by simp only;omega⟩,b,h,o,rfl⟩;refine(T.other t).base ?_;intro D a14 k9;have a15:D≠E:=by rintro rfl;rw[N]at k9;cases k9
 have a16:D≠W:=by rintro rfl;simp_all [U.ao]
 simp_all [U.ao]
def og (a:g.length=e*i):bN (f.set v (.cells g)) i (.an v e e i)=some (e,g):=by simp[bN,U.ae (U.ah _ _ _),<-a]
def au.rs {a:Rd} (b:au (f.set e (hS a M)) t i g n):bY f e a t:=⟨M,b.1⟩
def au.sv {p h:Rd} (r:au (f.set e (hS p M)) t i g n) (x:f e=none) (y:bY (t.del e) e h e4): ∃c,au (f.set e (hS h c)) e4 i g n:=by
 obtain⟨c,k⟩:=y;obtain⟨z,d⟩:=r;refine⟨c,U.ar (U.kW (CV z x)) k,?_⟩;rcases d with d|⟨o,C,D,E,F,a,G,L⟩
 .exact .inl d
 .have b:o≠e:=by rintro rfl;rw[U.ah]at a;cases a
  rw[U.ao _ _ b]at a;exact .inr ⟨o,C,D,E,F,by rw[U.ao _ _ b];exact a,k _ _ (by rw[U.ao _ _ b,U.eG _ b];exact G),L⟩
def hv (h k:U) (a:c3) (o p:R):Prop:= ∃b c d,au h b 2 (flat c) o/\au b k 37 (flat d) p/\az de a.rows c/\az bu a.kids d/\a.rows.length<=100000/\a.kids.length<=100000
def hv.sub {a b:U}{c:c3}{d h:R} (k:hv a b c d h):a.sub b:=by obtain⟨r,x,y,o,p,_⟩:=k;exact U.ar o.1 p.1
def hv.L (k:hv t f b9 n b3): ∃a b,fX f b9 n b3 a b:=by obtain⟨x,a,b,o,c,d,h,p,r⟩:=k;exact⟨a,b,d,h,(bR.dR o a8Z rfl (d.cells λ_ _=>de.cells)).mono c.1,bR.dR c a8Z rfl (h.cells λ_ _=>bu.cells),p,r⟩
theorem hv.base {a b c:U}{d:c3}{h k:R} (o:hv b c d h k) (p:a.sub b):hv a c d h k:=by obtain⟨r,x,y,z,C,D⟩:=o;exact⟨r,x,y,z.base p,C,D⟩
def hv.mono {a b c:U}{d:c3}{h k:R} (o:hv a b d h k) (p:b.sub c):hv a c d h k:=by obtain⟨r,x,y,z,C,D⟩:=o;exact⟨r,x,y,z,C.mono p,D⟩
theorem hv.set {b c:U}{a:Nat}{r ob:bq}{d:c3}{h k:R} (x:hv b c d h k) (o:b a=some r):hv (b.set a ob) (c.set a ob) d h k:=by obtain⟨y,z,C,p,D,E⟩:=x;exact⟨y.set a ob,z,C,jL p o,jL D (p.1 _ _ o),E⟩
variable{b0:Type}
def Dd {a:Rd->b0×Rd}{b:Rd}{c:List b0} (d:i<e):fx a (e - i) b c=fx a (e -(i+1)) (a b).2 (c++ [(a b).1]):=by rw[show e - i=(e -(i+1))+1 by omega];rfl
abbrev xu:R:= .agg [.v (.int .u8 0),.J [] .nil,.J [] .nil]
theorem Yf (e:List UInt8) (u:Own) (k:Nat) (a42:1<=k) (n1:k<=8) (n:U) (b21:e.length<=1000000000000):
  AC Tryz.prog 137 [.J (e.map al) u,.v (.int .i64 (k:Int))] n λq D=>n.sub D/\match pe k e with
   |none=>q= .aK [xu,.v (.int .i64 21)]
   |some v=> ∃c P,q= .aK [gM v c P,.v (.int .i64 0)]/\hv n D v c P:=by
 refine mS λb22=> ?_;have a88:u= .nil->e= []:=λa43=>by simp_all
 refine bd hm N7 a9a ?_;have w: ∀n2,(R.agg n2).cells=n2:=λ_=>rfl;have k0: ∀a d b c P k9:R,putAt [a,d,b] 0 [c,P,k9]= [c,P,k9]:=λ_ _ _ _ _ _=>rfl;have k1: ∀a d b,aX true 3 [a,d,b]= .agg [a,d,b]:=λ_ _ _=>rfl;have a47: ∀a d b:R,aX false 1 ([a,d,b].drop 1)=d:=λ_ _ _=>rfl;have a48: ∀a d b:R,aX false 1 ([a,d,b].drop 2)=b:=λ_ _ _=>rfl;have a89: ∀a d b c:R,putAt [a,d,b] 0 [c]= [c,d,b]:=λ_ _ _ _=>rfl;have N: ∀a d b:R,[a,d,b].length=3:=λ_ _ _=>rfl;have a90: ∀a d c:R,putAt [a,d] 0 [c]= [c,d]:=λ_ _ _=>rfl;have a92: ∀a d c:R,putAt [a,d] 1 [c]= [a,c]:=λ_ _ _=>rfl;have a94: ∀a d:R,[a,d].length=2:=λ_ _=>rfl;have a95: ∀d:Bool,(R.v (.bool d)).cells= [.v (.bool d)]:=λ_=>rfl;have a96: ∀(k9) (a52),(R.J (ad k9) a52).cells= [.J (ad k9) a52]:=λ_ _=>rfl;have a97: ∀a d b c:R,putAt [a,d,b] 1 [c]= [a,c,b]:=λ_ _ _ _=>rfl;have a98: ∀a d b c:R,putAt [a,d,b] 2 [c]= [a,d,c]:=λ_ _ _ _=>rfl;refine bT ?_;refine aM λg a56=> ?_;have a07:n.sub (n.set g (.cells [.v (.int .u8 0),.J [] .nil,.J [] .nil])):=U.af U.a1 a56;have n3:(n.set g (.cells [.v (.int .u8 0),.J [] .nil,.J [] .nil])) g=some (.cells [.v (.int .u8 0),.J [] .nil,.J [] .nil]):=U.ah _ _ _;obtain⟨O,a57⟩: ∃O:U,O=n.set g (.cells [.v (.int .u8 0),.J [] .nil,.J [] .nil]):=⟨_,rfl⟩;rw[<-a57]at a07 n3;have a61: ∀(D) (A),n.sub D->n.sub (D.set g A):=λD A j=>U.af j a56;refine bT ?_;rw[<-a57];refine ai (CH e u O a88 a8Z) ?_;rintro _ b23 ⟨o,n4,rfl,a99⟩;have b24:g≠o:=by rintro rfl;rw[n3]at n4;cases n4
 refine bT ?_;refine ai (pa _ _ o _ a99) ?_;rintro c b25 ⟨a62,rfl⟩;have a63: ∀h:UInt8×Rd,h=dt ⟨e,0⟩->pd k e=(⟨h.1,(fx (ja k) (dt h.2).1.toNat (dt h.2).2 []).1,(fx (hV k) (dt (fx (ja k) (dt h.2).1.toNat (dt h.2).2 []).2).1.toNat (dt (fx (ja k) (dt h.2).1.toNat (dt h.2).2 []).2).2 []).1⟩,
   pb (fx (hV k) (dt (fx (ja k) (dt h.2).1.toNat (dt h.2).2 []).2).1.toNat (dt (fx (ja k) (dt h.2).1.toNat (dt h.2).2 []).2).2 []).2):=by rintro h rfl;rfl
 have a65:=a63 _ rfl;clear a63;unfold pe;rw[a65];clear a65;generalize dt ⟨e,0⟩=h at*;obtain⟨V,b00⟩:=h;simp only at a62|-;refine aj (c2 @k0 @w) ?_;refine aM λG b01=> ?_;obtain⟨B,a08,b02⟩:=a62.new (ob:= .cells [.v (.int .u8 V.toNat),.J [] .nil,.J [] .nil]) b01;have b26:g≠G:=by rintro rfl;rw[n3]at a08;cases a08
 have a09: ∀A,(O.set G A) o=none:=λA=>by rw[U.ao _ _ (a4F B)];exact n4
 refine aj (bm @k0 @w @a89 @N @U.set_set) ?_;refine ai (pa _ _ o _ b02) ?_;rintro c b27 ⟨n5,rfl⟩;generalize dt b00=h at*;obtain⟨s,n9⟩:=h;simp only at n5|-;have b03:=s.toNat_lt;have a10:IntKind.i64.wrap (s.toNat)=s.toNat:=wrap_i64 a8Z a8Z;refine aj @a10 ?_;generalize s.toNat=Q at*;have l0: ∀E b q D h l1 a,au ((O.set G (.cells b)).set o (hS q E)) D h l1 a->D G=some (.cells b)/\D g=some (.cells [.v (.int .u8 0),.J [] .nil,.J [] .nil]):=λE b q D h l1 a j=>⟨j.1 _ _ (by rw[U.ao _ _ B,U.ah]),j.1 _ _ (by grind[U.ao])⟩;refine cr (λC D=> ∃(L:Nat) (F:Rd) (S:List (List Int×Bool)) (H:List R) (a:R) (E:Own),L<=Q/\fx (ja k) (Q - L) F S=fx (ja k) Q n9 []/\S.length=L/\az de S H/\au ((O.set G (.cells [.v (.int .u8 V.toNat),a,.J [] .nil])).set o (hS F E)) D 2 (flat H) a/\
   C 0= .J (e.map al) u/\C 1= .v (.int .i64 k)/\C 4= .ptr g 0/\C 6= .ptr o 0/\C 7= .ptr G 0/\C 18= .v (.int .i64 Q)/\C 19= .v (.int .i64 L))
  (λC _=>match C 19 with| .v (.int _ v)=>(Q - v).toNat| _=>0) ?_ ?_
 .obtain⟨E,n5⟩:=n5;refine⟨0,n9,[],[],.J [] .nil,E,a8Z,rfl,rfl,trivial,au.nil n5,?_⟩;exact mT
 rintro C b04 ⟨L,F,S,H,a,E,b28,W,b05,a00,f,p,r,x,y,z,X,Y⟩;by_cases I:(L:Int)<Q
 .refine aj (bt @p @r @x @y @z @X @Y @I) ?_;refine ai (XK _ _ o F (au.rs f).full) ?_;rintro c k2 ⟨a11,rfl⟩;rw[Dd a8Z]at W;unfold ja at W;obtain⟨b06,l⟩:=au.sv f (a09 _) a11;generalize nc F=h at*;obtain⟨k3,K⟩:=h;simp only at l W|-;have c6:=(l0 _ _ _ _ _ _ _ l).1;refine aj (cf @p @r @x @y @z @X @Y @I (U.ae c6) @a47) ?_;refine ai (pc _ _ o k a8Z K (U.il _ _) (au.rs l).full) ?_;rintro c k4 ⟨l2,a01,rfl⟩;obtain⟨a02,i⟩:=au.sv l (a09 _) l2;generalize hU k K=h at*;obtain⟨k5,a13⟩:=h;simp only at i W|-;have bt:=(l0 _ _ _ _ _ _ _ i).1;refine aj (lW @p @r @x @y @z @X @Y @I (U.ae bt) @a47 @w @a90 @a92 @a94 @a95 @a96) ?_;refine eP (by simp[aS,R.cells]) a9a λb07 a14=> ?_;have a15:=au.mono i (U.af (Y:= .cells (flat [R.agg [.J (ad k5) a01,.v (.bool k3)]])) U.a1 a14);have a16:az de (S++ [(k5,k3)]) (H++ [R.agg [.J (ad k5) a01,.v (.bool k3)]]):=a00.snoc ⟨_,rfl⟩;have l3:(flat H).length=S.length*2:=by rw[db (a00.cells λ_ _=>de.cells),a00.len]
  simp -dsimp -implicitDefEqProofs (disch:=first|omega|assumption|(simp only[bk,Nat.reduceAdd];try omega)) only[go_sem,simprocAttr,-List.reduceReplicate,p,r,x,y,z,X,Y];refine fg a15 a8Z (og rfl) rfl (by rw[l3];simp[flat,R.cells];omega) (by rw[l3];simp[flat,R.cells];omega) λl4 b08 t=> ?_;have a18:flat H++flat [R.agg [.J (ad k5) a01,.v (.bool k3)]]=flat (H++ [R.agg [.J (ad k5) a01,.v (.bool k3)]]):=by simp[flat]
  rw[a18]at t;have cV:=(l0 _ _ _ _ _ _ _ t).1;have a19:=fI t;refine aj (gj @p @r @x @y @z @X @Y (U.aJ cV) @a19 @a97 @N) ?_;refine⟨⟨L+1,a13,S++ [(k5,k3)],_,l4,a02,a8Z,W,by simp[b05],a16,?_,a9a⟩,a8Z⟩;have:=jL (Y:= .cells [.v (.int .u8 V.toNat),l4,.J [] .nil]) t (by rw[U.ao _ _ B,U.ah]);rw[U.dX _ (a4F B),U.set_set]at this;exact this
 .obtain rfl:L=Q:=a8Z;rw[a6O]at W;obtain⟨b09,b10⟩:S=(fx (ja k) L n9 []).1/\F=(fx (ja k) L n9 []).2:=by rw[<-W];trivial
  rw[<-b09,<-b10];refine aj (bt @p @r @x @y @z @X @Y @I) ?_;refine ai (pa _ _ o F (au.rs f).full) ?_;rintro c k2 ⟨a11,rfl⟩;obtain⟨b06,l⟩:=au.sv f (a09 _) a11;clear f;generalize dt F=h at*;obtain⟨s,K⟩:=h;simp only at l|-;have b03:=s.toNat_lt;have a10:IntKind.i64.wrap (s.toNat)=s.toNat:=wrap_i64 a8Z a8Z;refine aj (bs @p @r @x @y @z @a10) ?_;have c6:=(l0 _ _ _ _ _ _ _ l).1;have aI:=(l0 _ _ _ _ _ _ _ l).2;have a68: ∀A,((k2.del o).set G A) o=none:=λA=>by rw[U.ao _ _ (a4F B),U.il]
  have l5: ∀E b q D h l1 a,au (((k2.del o).set G (.cells b)).set o (hS q E)) D h l1 a->D G=some (.cells b)/\D g=some (.cells [.v (.int .u8 0),.J [] .nil,.J [] .nil]):=λE b q D h l1 a j=>⟨j.1 _ _ (by rw[U.ao _ _ B,U.ah]),j.1 _ _ (by grind[U.ao,U.eG])⟩;obtain⟨b11,b12⟩: ∃E,(((k2.del o).set G (.cells [.v (.int .u8 V.toNat),a,.J [] .nil])).set o (hS K E)).sub k2:=by
   obtain⟨E,j⟩:=(au.rs l).full;refine⟨E,λc u m=> ?_⟩;by_cases a43:c=G;grind[U.ao,U.ah,Option.some.inj]
   .by_cases a27:c=o
    .subst a27;rw[U.ah]at m;exact j _ _ (by rw[U.ah];exact m)
    .rw[U.ao _ _ a27,U.ao _ _ a43]at m;exact j _ _ (by rw[U.ao _ _ a27];exact m)
  generalize s.toNat=Z at*;refine cr (λC D=> ∃(L:Nat) (F:Rd) (T:List ay) (M:List R) (P:R) (E:Own),L<=Z/\fx (hV k) (Z - L) F T=fx (hV k) Z K []/\T.length=L/\az bu T M/\au (((k2.del o).set G (.cells [.v (.int .u8 V.toNat),a,P])).set o (hS F E)) D 37 (flat M) P/\
    C 0= .J (e.map al) u/\C 1= .v (.int .i64 k)/\C 4= .ptr g 0/\C 6= .ptr o 0/\C 7= .ptr G 0/\C 36= .v (.int .i64 Z)/\C 37= .v (.int .i64 L))
   (λC _=>match C 37 with| .v (.int _ v)=>(Z - v).toNat| _=>0) ?_ ?_
  .refine⟨0,K,[],[],.J [] .nil,b11,a8Z,rfl,rfl,trivial,au.nil b12,?_⟩;exact cm (bm @p @r @x @y @z)
  clear p r x y z X Y;rintro C b04 ⟨l6,F,T,M,P,E,b29,W,a69,a03,f,p,r,x,y,z,l7,l8⟩;by_cases I:(l6:Int)<Z
  .have bt:=(l5 _ _ _ _ _ _ _ f).1;refine aj (cf @p @r @x @y @z @l7 @l8 @I (U.ae bt) @a48) ?_;refine ai (Ye _ _ o k n1 F (U.il _ _) (au.rs f).full) ?_;rintro c k4 ⟨l2,a29,a71,k6,k7,k8,rfl⟩;rw[Dd a8Z]at W;obtain⟨a02,i⟩:=au.sv f (a68 _) l2;have a30:=(aW (M:=k6) (e6:=k7) (h4:=k8) a29).len;generalize hV k F=h at*;obtain⟨j9,a13⟩:=h;simp only at i W a29 a71 a30|-;have cV:=(l5 _ _ _ _ _ _ _ i).1;refine aj (gj @p @r @x @y @z @l7 @l8 @I (U.ae cV) @a48 @w) ?_;refine eP (by simp[aS,R.cells,a30]) a9a λb07 a14=> ?_;have a15:=au.mono i (U.af (Y:= .cells (flat [R.agg (ab j9 k6 k7 k8)])) U.a1 a14);have a16:az bu (T++ [j9]) (M++ [R.agg (ab j9 k6 k7 k8)]):=a03.snoc ⟨a29,a71,_,_,_,rfl⟩;have l3:(flat M).length=T.length*37:=by rw[db (a03.cells λ_ _=>bu.cells),a03.len]
   have a04:(flat [R.agg (ab j9 k6 k7 k8)]).length=1*37:=by simp[flat,R.cells,a30]
   simp -dsimp -implicitDefEqProofs (disch:=first|omega|assumption|(simp only[bk,Nat.reduceAdd];try omega)) only[go_sem,simprocAttr,-List.reduceReplicate,p,r,x,y,z,l7,l8];refine fg a15 a8Z (og a04) a04 (by rw[l3,a04];omega) (by rw[l3,a04];omega) λl4 b08 t=> ?_;have a18:flat M++flat [R.agg (ab j9 k6 k7 k8)]=flat (M++ [R.agg (ab j9 k6 k7 k8)]):=by simp[flat]
   rw[a18]at t;have cV:=(l5 _ _ _ _ _ _ _ t).1;have a19:=fI t;refine aj (gj @p @r @x @y @z @l7 @l8 (U.aJ cV) @a19 @a98 @N) ?_;refine⟨⟨l6+1,a13,T++ [j9],_,l4,a02,a8Z,W,by simp[a69],a16,?_,a9a⟩,a8Z⟩;have:=jL (Y:= .cells [.v (.int .u8 V.toNat),a,l4]) t (by rw[U.ao _ _ B,U.ah]);rw[U.dX _ (a4F B),U.set_set]at this;exact this
  .obtain rfl:l6=Z:=a8Z;rw[a6O]at W;obtain⟨b13,b14⟩:T=(fx (hV k) l6 K []).1/\F=(fx (hV k) l6 K []).2:=by rw[<-W];trivial
   rw[<-b13,<-b14];refine aj (bt @p @r @x @y @z @l7 @l8 @I) ?_;refine ai (CO _ _ o F (au.rs f).full) ?_;rintro c k4 ⟨l2,rfl⟩;obtain⟨a02,i⟩:=au.sv f (a68 _) l2;clear f;have bt:=(l5 _ _ _ _ _ _ _ i).1;have aI:=(l5 _ _ _ _ _ _ _ i).2;have l9:hv O k4 ⟨V,S,T⟩ a P:=by
    refine⟨_,H,M,?_,i,a00,a03,by simp only;omega,by simp only;omega⟩;obtain⟨b15,a34⟩:=l;refine⟨λc u m=> ?_,?_⟩
    .have ei:c≠o:=by rintro rfl;rw[n4]at m;cases m
     have a05:c≠G:=by rintro rfl;rw[a08]at m;cases m
     rw[U.ao _ _ ei,U.ao _ _ a05,U.eG _ ei];exact b15 _ _ (by rw[U.ao _ _ ei,U.ao _ _ a05];exact m)
    .rcases a34 with a34|⟨d,v,b16,n2,b17,n0,b30,b18⟩
     .exact .inl a34
     .have ei:d≠o:=by rintro rfl;rw[U.ah]at n0;cases n0
      rw[U.ao _ _ ei]at n0;have a05:d≠G:=by grind
      rw[U.ao _ _ a05]at n0;exact .inr ⟨d,v,b16,n2,b17,n0,by grind[U.ao,U.eG],b18⟩
   have a36:=U.ar a07 l9.sub;by_cases b:(pb F).e=0
   .simp -dsimp -implicitDefEqProofs (disch:=first|omega|assumption|(simp only[bk,Nat.reduceAdd];try omega)) only[go_sem,simprocAttr,-List.reduceReplicate,p,r,x,y,z,b,U.ae bt,k1];obtain⟨a73,a74,a38⟩:=l9.L;refine ai (D8 ⟨V,S,T⟩ a73 a74 a P k a42 n1 k4 a38) ?_;rintro _ k4 ⟨rfl,rfl⟩;cases a81:dS k ⟨V,S,T⟩with
    |false=>refine aj (gU @p @r @x @y @z @b (U.aJ aI) @k0 @k1 @N @w @a5r) ?_;grind[U.a1]
    |true=>
     refine aj (cV @p @r @x @y @z @b (U.ae bt) @k1 @a5q) ?_;refine ai (xq ⟨V,S,T⟩ a73 a74 a P k a42 n1 k4 a38) ?_;rintro q a83 ⟨a06,a84⟩;rw[sh,if_pos a81]at a84;obtain⟨b19,rfl⟩:=a84;replace l9:=l9.mono a06;replace a36:=U.ar a36 a06;replace bt:=a06 _ _ bt;replace aI:=a06 _ _ aI;refine aj (bs @p @r @x @y @z @b) ?_;have a69:=xt n1 a81 λh b20=>(a38.kids.all h b20).1;refine ai (CX (cX ⟨V,S,T⟩) e b19 u a83 a8Z) ?_;rintro _ a83 ⟨rfl,rfl⟩;by_cases a86:cX ⟨V,S,T⟩=e
     .refine aj (fu @p @r @x @y @z @b @a86 (U.ae bt) (U.aJ aI) @k0 @k1 @N @w @a5q) ?_;have:=l9.set (ob:= .cells [.v (.int .u8 V.toNat),a,P]) n3;refine⟨_,U.a1,a61 _ _ a36,?_⟩;exact⟨a,P,rfl,this.base (a61 _ _ a07)⟩
     .refine aj (fu @p @r @x @y @z @b @a86 (U.ae bt) (U.aJ aI) @k0 @k1 @N @w @a5r) ?_;grind[U.a1]
   .refine aj (gj @p @r @x @y @z @b (U.aJ aI) @k0 @k1 @N @w) ?_;grind[U.a1]
def De: ∀(c:List (List Int×Bool)) (a:gL),a.aO.1.length<=8->a.aO.2.length<=8->(c.foldl dK a).aO.1.length<=8/\(c.foldl dK a).aO.2.length<=8
 | [],a,h1,b=>⟨h1,b⟩
 |d::c,a,h1,b=>by
  rw[a5C];refine De c _ ?_ ?_<;>unfold dK<;>split
  .exact(oe _ _ 8 h1 b su.1 su.2).1
  .exact h1
  .exact(oe _ _ 8 h1 b su.1 su.2).2
  .exact b
def Df: ∀(b:List ay) (a:gL),(∀d∈b,d.ht)->a.aO.1.length<=8->a.aO.2.length<=8->(b.foldl ep a).aO.1.length<=8/\(b.foldl ep a).aO.2.length<=8
 | [],a,_,h1,c=>⟨h1,c⟩
 |d::b,a,hk,h1,c=>by
  rw[a5C];have:=hk d a9a;exact Df b _ (λh k=>hk h (by simp[k])) (oe _ _ 8 h1 c this.aU this.aV).1 (oe _ _ 8 h1 c this.aU this.aV).2
theorem ug (p:e<=8) (a:fH e b9=some w):w.sum.length=32/\w.aU.length<=8/\w.aV.length<=8/\w.key.length<=8:=by
 unfold fH at a;split at a
 .rename_i b;split at a
  .cases a
  .obtain rfl:=a4v a;obtain⟨x,_,_⟩:=lb b;have c:=ud p b;have d:=De b9.rows ⟨0,b9.rows.length,([],[])⟩ a9a a9a;have h:=Df b9.kids _ c d.1 d.2;refine⟨ob _,h.1,h.2,?_⟩;simp only[eS,keyOf];split
   .cases k:b9.rows with
    |nil=>simp
    |cons o r=>simp_all
   .split
    .cases k:b9.kids with
     |nil=>simp[aA]
     |cons o r=>exact(c o (by rw[k];simp)).key
    .simp
 .cases a
def Dg (a:e<=8) (b:fH e b9=some w):w.cz:=by obtain⟨_,c,d,h⟩:=ug a b;exact⟨a8Z,a8Z,a8Z⟩
variable{H:ag}
theorem bB.len (b:bB f e i H) {a:List UInt8} (c:B.length=32) (d:H.m B=some a):a.length<=1000000000000:=by obtain⟨h,_,k⟩:=b.mp;grind
def fk (d:ag) (a:Nat) (b:ay):Option c3:=
 match d.m b.sum with
 |none=>none
 |some h=>match pe a h with
  |none=>none
  |some c=>if fH a c=some b then some c else none
theorem xv (x:U) (X k7:Nat) (u:ag) (k8:bB x X k7 u) (c:ay) (W e f:Own) (v:c.sum.length=32) (a27:c.cz) (C:Nat) (k9:1<=C) (w:C<=8):
  AC Tryz.prog 73 [.ptr X 0,.agg (ab c W e f),.v (.int .i64 (C:Int))] x λg G=>x.sub G/\match fk u C c with
   |none=>g= .aK [xu,.v (.int .i64 21)]
   |some D=> ∃d h,g= .aK [gM D d h,.v (.int .i64 0)]/\hv x G D d h:=by
 refine bd hm Li a9a ?_;have a: ∀l0,(R.agg l0).cells=l0:=λ_=>rfl;have k: ∀L y P d h l1:R,putAt [L,y,P] 0 [d,h,l1]= [d,h,l1]:=λ_ _ _ _ _ _=>rfl;have p: ∀L y P,aX true 3 [L,y,P]= .agg [L,y,P]:=λ_ _ _=>rfl;have o: ∀L y P:R,[L,y,P].length=3:=λ_ _ _=>rfl;have Y:=aW (M:=W) (e6:=e) (h4:=f) v;have A:=Y.len;have B:=(aW (M:= .nil) (e6:= .nil) (h4:= .nil) bj).len;refine aj (c2 @a @A) ?_;refine aM λi a02=> ?_;refine aj (c2 @a @A) ?_;refine aM λz H=> ?_;have I:i≠z:=by rintro rfl;rw[U.ah]at H;cases H
 have l2:x z=none:=by rw[U.ao _ _ (a4F I)]at H;exact H
 have a29:=a4F I;obtain⟨S,K⟩: ∃S:U,S=(x.set i (.cells (ab c W e f))).set z (.cells [.v (.int .u8 0),.J [] .nil,.J [] .nil]):=⟨_,rfl⟩;have l3:x.sub S:=by rw[K];exact U.af (U.af U.a1 a02) l2
 have aI:S i=some (.cells (ab c W e f)):=by rw[K,U.ao _ _ I,U.ah]
 have bs:S z=some (.cells [.v (.int .u8 0),.J [] .nil,.J [] .nil]):=by rw[K,U.ah]
 have Z: ∀(G) (M),x.sub G->x.sub (G.set z M):=λG M a03=>U.af a03 l2;have a04:R.agg (c.sum.map al)=cG c.sum:=rfl;simp -dsimp -implicitDefEqProofs (disch:=first|omega|assumption|(simp only[bk,Nat.reduceAdd];try omega)) only[go_sem,simprocAttr,-List.reduceReplicate,a,A,U.ao,I,U.ah,Y.t32];rw[<-K,a04];refine ai (XW S X k7 u (k8.mono l3) c.sum v) ?_;rintro g a05 ⟨j9,b⟩;have k0:=U.ar l3 j9;have k1:=j9 _ _ bs;have a06:=j9 _ _ aI;unfold fk;cases hm:u.m c.sum with
 |none=>rw[hm]at b;obtain rfl:=b;refine aj (bm @a (U.aJ k1) @k @o @p) ?_;exact⟨_,U.a1,Z _ _ k0⟩
 |some y=>
  rw[hm]at b;obtain⟨M,rfl⟩:=b;refine aj @a ?_;refine ai (Yf y M C k9 w a05 (k8.len v hm)) ?_;rintro g l4 ⟨k2,b⟩;have a07:=U.ar k0 k2;have l5:=k2 _ _ k1;have a08:=k2 _ _ a06;simp only;cases l6:pe C y with
  |none=>
   rw[l6]at b;obtain rfl:=b;refine aj (aH @a @k @o) ?_;refine aM λE l7=> ?_;have k3:z≠E:=by grind
   have a09:=a4F k3;refine aj (cV @a @k @o @p @U.set_set @U.ao @k3 @a09 (U.aJ l5)) ?_;grind[U.a1,U.ar,U.af]
  |some D=>
   rw[l6]at b;obtain⟨d,h,rfl,T⟩:=b;simp -dsimp -implicitDefEqProofs (disch:=first|omega|assumption|(simp only[bk,Nat.reduceAdd];try omega)) only[go_sem,simprocAttr,-List.reduceReplicate,a,k,o,p];refine aM λE l7=> ?_;have k3:z≠E:=by grind
   have a30:i≠E:=by grind
   obtain⟨j,k4⟩: ∃j:U,j=l4.set E (.cells [.v (.int .u8 (D.kind.toNat)),d,h]):=⟨_,rfl⟩;have F:l4.sub j:=by rw[k4];exact U.af U.a1 l7
   have cf:j E=some (.cells [.v (.int .u8 (D.kind.toNat)),d,h]):=by rw[k4,U.ah]
   refine aj (bm @a @k @o @p @U.set_set) ?_;rw[<-k4];obtain⟨a10,a11,a13⟩:=(T.mono F).L;refine ai (D9 D a10 a11 d h C k9 w j a13) ?_;rintro g l8 ⟨l9,b⟩;replace F:=U.ar F l9;replace T:=T.mono F;have N:=F _ _ l5;have n0:=F _ _ a08;have n1:=l9 _ _ cf;have a14:=U.ar a07 F;cases l:fH C D with
   |none=>
    rw[l]at b;obtain rfl:=b;have a15:putAt (ab aA .nil .nil .nil) 0 (ab aA .nil .nil .nil)=ab aA .nil .nil .nil:=cB bj bj;simp -dsimp -implicitDefEqProofs (disch:=first|omega|assumption|(simp only[bk,Nat.reduceAdd];try omega)) only[go_sem,simprocAttr,-List.reduceReplicate,a,k,o,p,cn,B];refine aM λV r=> ?_;have O:z≠V:=by rintro rfl;rw[N]at r;cases r
    have n2:=a4F O;refine aj (gU @a @k @o @p @cn @B @a15 @U.set_set @U.ao @O @n2 (U.aJ N)) ?_;grind[U.a1,U.ar,U.af]
   |some m=>
    rw[l]at b;obtain⟨n,q,s,rfl⟩:=b;have k5:=(ug w l).1;have a16:=Dg w l;have n3:=aW (M:=n) (e6:=q) (h4:=s) k5;have n4:=n3.len;have n5:putAt (ab aA .nil .nil .nil) 0 (ab m n q s)=ab m n q s:=cB bj k5;refine aj (bt @a @k @o @p @cn @B @n4 @n5) ?_;refine aM λV r=> ?_;have O:z≠V:=by rintro rfl;rw[N]at r;cases r
    have n2:=a4F O;have a18:i≠V:=by rintro rfl;rw[n0]at r;cases r
    have a34:E≠V:=by rintro rfl;rw[n1]at r;cases r
    obtain⟨t,n9⟩: ∃t:U,t=l8.set V (.cells (ab m n q s)):=⟨_,rfl⟩;have Q:l8.sub t:=by rw[n9];exact U.af U.a1 r
    refine aj (lW @a @k @o @p @cn @B @n4 @n5 @U.set_set @U.ah @U.ao @a18 n3.t37 Y.t37 (U.ae n0) @A) ?_;rw[<-n9];have a00:=Q _ _ N;have a01:=Q _ _ n1;have a19:=U.ar a14 Q;replace T:=T.mono Q;refine ai (D7 m c n q s W e f t k5 v a16) ?_;rintro _ t ⟨rfl,rfl⟩;by_cases k6:m=c
    .refine aj (bt @a @k @o @p @k6 @a5q (U.ae a01) (U.aJ a00)) ?_;have:=T.set (ob:= .cells [.v (.int .u8 (D.kind.toNat)),d,h]) k1;refine⟨_,U.a1,Z _ _ a19,?_⟩;simp only[l,k6,if_true];exact⟨d,h,rfl,this.base (Z _ _ k0)⟩
    .refine aj (bt @a @k @o @p @k6 @a5r (U.ae a01) (U.aJ a00)) ?_;grind[U.a1]
theorem Ext.set {d h a:Nat}{b k:U}{ob:bq} (p:Ext d h b k) (r:b a=none):Ext d h b (k.set a ob):=λo x y z c=>by
 have C:o≠a:=by rintro rfl;rw[r]at c;cases c
 rw[U.ao _ _ C];exact p o x y z c
theorem Yg (b:U) (r G:Nat) (t:ag) (e:bB b r G t) (a:c3) (u v:List R) (L P:R) (o:Nat) (Y:1<=o) (g:o<=8) (w:fX b a L P u v):
  AC Tryz.prog 233 [.ptr r 0,gM a L P,.v (.int .i64 (o:Int))] b λi x=>match fH o a with
   |none=>b.sub x/\i= .aK [.agg (ab aA .nil .nil .nil),.v (.int .i64 1)]
   |some A=>bB x r G (eK t (cX a))/\Ext r G b x/\ ∃l6 l7 l8,i= .aK [.agg (ab A l6 l7 l8),.v (.int .i64 0)]:=by
 refine bd hm PY a9a ?_;have c: ∀Z,(R.agg Z).cells=Z:=λ_=>rfl;have j9: ∀y z C,aX true 3 [y,z,C]= .agg [y,z,C]:=λ_ _ _=>rfl;have B: ∀y z C:R,[y,z,C].length=3:=λ_ _ _=>rfl;have k0: ∀y z C:R,List.take 3 [y,z,C]= [y,z,C]:=λ_ _ _=>rfl;have D:=(aW (M:= .nil) (e6:= .nil) (h4:= .nil) bj).len;have l9:=(aW (M:= .nil) (e6:= .nil) (h4:= .nil) bj).t37;have k1:putAt (ab aA .nil .nil .nil) 0 (ab aA .nil .nil .nil)=ab aA .nil .nil .nil:=cB bj bj;refine aj (c2 @c @B) ?_;refine aM λj n0=> ?_;refine aj (aH @c @cn @D) ?_;refine aM λd l=> ?_;have H:j≠d:=by rintro rfl;rw[U.ah]at l;cases l
 have E:b d=none:=by rw[U.ao _ _ (a4F H)]at l;exact l
 obtain⟨S,m⟩: ∃S:U,S=(b.set j (.cells [.v (.int .u8 (a.kind.toNat)),L,P])).set d (.cells (ab aA .nil .nil .nil)):=⟨_,rfl⟩;have k2:b.sub S:=by rw[m];exact U.af (U.af U.a1 n0) E
 have aI:S j=some (.cells [.v (.int .u8 (a.kind.toNat)),L,P]):=by rw[m,U.ao _ _ H,U.ah]
 have bs:S d=some (.cells (ab aA .nil .nil .nil)):=by rw[m,U.ah]
 have a04: ∀(x) (k3),b.sub x->b.sub (x.set d k3):=λx k3 h=>U.af h E;refine aj (cV @c @cn @D @B @j9 @k0 @U.ao @H @U.ah) ?_;rw[<-m];refine ai (D9 a u v L P o Y g S (w.mono k2)) ?_;rintro i k4 ⟨I,F⟩;have k5:=U.ar k2 I;have k6:=I _ _ aI;have n:=I _ _ bs;cases K:fH o a with
 |none=>
  rw[K]at F;obtain rfl:=F;simp -dsimp -implicitDefEqProofs (disch:=first|omega|assumption|(simp only[bk,Nat.reduceAdd];try omega)) only[go_sem,simprocAttr,-List.reduceReplicate,c,cn,D,k1];refine aM λp k=> ?_;have k7:d≠p:=by rintro rfl;rw[n]at k;cases k
  have n1:=a4F k7;refine aj (cf @c @cn @D @k1 @l9 @U.set_set @U.ao @k7 @n1 (U.aJ n)) ?_;grind[U.a1,U.ar,U.af]
 |some q=>
  rw[K]at F;obtain⟨T,V,W,rfl⟩:=F;have k8:dS o a=true:=by grind[fH]
  have k9:=(ug g K).1;have l0:=aW (M:=T) (e6:=V) (h4:=W) k9;have M:=l0.len;have N:putAt (ab aA .nil .nil .nil) 0 (ab q T V W)=ab q T V W:=cB bj k9;refine aj (bm @c @cn @D @M @N) ?_;refine aM λp k=> ?_;have n2:j≠p:=by rintro rfl;rw[k6]at k;cases k
  have s:=U.bF k5 k;have a05:d≠p:=by rintro rfl;rw[n]at k;cases k
  obtain⟨f,O⟩: ∃f:U,f=k4.set p (.cells (ab q T V W)):=⟨_,rfl⟩;have l1:k4.sub f:=by rw[O];exact U.af U.a1 k
  have bt:f p=some (.cells (ab q T V W)):=by rw[O,U.ah]
  refine aj (gU @c @cn @D @M @N @U.set_set @U.ao @n2 (U.ae k6) @j9 @B @k0) ?_;rw[<-O];have l2:=U.ar k5 l1;refine ai (xq a u v L P o Y g f (w.mono l2)) ?_;rintro i n3 ⟨Q,F⟩;rw[sh,if_pos k8]at F;obtain⟨n4,rfl⟩:=F;have l3:=U.ar l2 Q;have a06:=xt g k8 λA n5=>(w.kids.all A n5).1;refine aj @c ?_;refine ai (XY n3 r G t (e.mono l3) (cX a) n4 a8Z) ?_;rintro _ a07 ⟨rfl,n9,X⟩;have l4:d≠r:=by rintro rfl;obtain⟨_,_,h⟩:=e.at_;rw[h]at E;cases E
  have l5:d≠G:=by rintro rfl;obtain⟨_,⟨_,_,h,_⟩,_⟩:=e.mp;rw[h]at E;cases E
  have a00:p≠r:=by rintro rfl;obtain⟨_,_,h⟩:=e.at_;rw[h]at s;cases s
  have a01:p≠G:=by rintro rfl;obtain⟨_,⟨_,_,h,_⟩,_⟩:=e.mp;rw[h]at s;cases s
  have a02:=X _ _ l4 l5 (Q _ _ (l1 _ _ n));have a03:=X _ _ a00 a01 (Q _ _ bt);refine aj (c6 @c (U.ae a03) (U.aJ a02) l0.t37 @M @D @N) ?_;refine⟨_,U.a1,n9.other (U.ao _ _ (a4F l4)) (U.ao _ _ (a4F l5)),?_,T,V,W,rfl⟩;exact((Ext.of l3).trans X).set E
end Go.Proofs.YtlgnfcaolejgeaaGreat
namespace Go.a6
def val:List Bool->Nat
 | []=>0
 |b::a=>(if b then 2^a.length else 0)+val a
theorem ni: ∀a:List Bool,val a<2^a.length
 | []=>by simp[val]
 |b::a=>by
  have:=ni a;simp only[val,a4C,a8k];split<;>omega
def lexB:List Bool->List Bool->Bool
 |b::c,a::d=>if b=a then lexB c d else a
 | _,_=>false
def pj: ∀ {a b:List Bool},a.length=b.length->(val a<val b↔lexB a b=true)
 | [],[],_=>by trivial
 |d::a,h::b,k=>by
  have c:a.length=b.length:=by simpa using k
  have o:=ni a;have p:=ni b;simp only[val,lexB];rw[c]at o|-;cases d<;>cases h<;>simp[<-pj c]<;>omega
theorem val_inj: ∀ {a b:List Bool},a.length=b.length->val a=val b->a=b
 | [],[],_,_=>rfl
 |h::a,k::b,o,c=>by
  have d:a.length=b.length:=by simpa using o
  have p:=ni a;have r:=ni b;simp only[val]at c;rw[d]at p c;have:h=k:=by grind
  subst this;rw[val_inj d a8Z]
theorem Dh {b c a d:List Bool} (h:b.length=a.length):lexB (b++c) (a++d)=if b=a then lexB c d else lexB b a:=by
 induction b generalizing a with
 |nil=>grind
 |cons k b ih=>
  match a,h with
  |o::a,h=>grind[lexB]
def fK (a:List Nat) (b:Nat):List Bool:=a.map (·.testBit b)
def cc (a:List Nat):Nat->List Bool
 |0=> []
 |b+1=>fK a b++cc a b
def Di (b:List Nat): ∀a,(cc b a).length=b.length*a
 |0=>by rfl
 |a+1=>by simp[cc,fK,Di b a,Nat.mul_succ];omega
def pick (b:(Nat×Nat)×Nat) (a:Nat×Nat):(Nat×Nat)×Nat:=
 if b.2<a.1^^^a.2/\b.2<b.2^^^(a.1^^^a.2)then(a,a.1^^^a.2)else b
variable{e i v O b8 j0:Nat}
def Yh (a:i<2^e) (b:v<2^e):i^^^v<2^e:=a7b a b
def uh (a:e.testBit i=true):2^i<=e:=Nat.ge_two_pow_of_testBit a
theorem sw (a:e<2^(i+1)) (b:e.testBit i=false):e<2^i:=by grind[Nat.lt_pow_two_of_testBit,Nat.testBit_lt_two_pow,Nat.lt_of_lt_of_le,Nat.pow_le_pow_right]
def Dj {c:Nat}: ∀(d:List (Nat×Nat)) (b:(Nat×Nat)×Nat),b.2.testBit c=true->b.2<2^(c+1)->(∀a∈d,a.1^^^a.2<2^(c+1))->d.foldl pick b=b
 | [],b,_,_,_=>rfl
 |a::d,b,k,o,p=>by
  have h:=p a a9a;have:pick b a=b:=by
   simp only[pick];rw[if_neg];rintro⟨x,y⟩;have z:=uh k;cases ct:(a.1^^^a.2).testBit c with
   |false=>have:=sw h ct;omega
   |true=>
    have r:(b.2^^^(a.1^^^a.2)).testBit c=false:=by rw[a7Q,k,ct];rfl
    have:=sw (Yh o h) r;omega
  rw[a5C,this];exact Dj d b k o (λa h=>p a (by simp[h]))
theorem Yi {b:(Nat×Nat)×Nat}{a:Nat×Nat} (c:b.2<2^e) (d:(a.1^^^a.2).testBit e=true):pick b a=(a,a.1^^^a.2):=by simp only[pick];refine if_pos ⟨a5J c (uh d),a5J c (uh ?_)⟩;grind[Nat.testBit_lt_two_pow]
theorem Dk (b:i.testBit e=false) (c:v.testBit e=true) (d: ∀a,e<a->i.testBit a=v.testBit a):i<v:=by
 have h:i>>>(e+1)=v>>>(e+1):=a6U λa=>by
  grind
 have k:i%2^(e+1)<2^e:=sw (a6A _ (Nat.two_pow_pos _)) (by grind);have o:2^e<=v%2^(e+1):=uh (by grind);grind[Nat.div_add_mod,Nat.shiftRight_eq_div_pow]
theorem Yj (o:i^^^v<2^(e+1)) (b:i.testBit e≠v.testBit e):i<v↔v.testBit e=true:=by
 have h: ∀a,e<a->i.testBit a=v.testBit a:=λa k=>by
  have p:(i^^^v).testBit a=false:=a6y (a5J o (a6j a8Z a8Z));simp_all
 cases c:v.testBit e with
 |true=>
  have d:i.testBit e=false:=by rw[c]at b;simpa using b
  simp only[iff_true];exact Dk d c h
 |false=>
  have d:i.testBit e=true:=by rw[c]at b;simpa using b
  have:=Dk c d (λa k=>(h a k).symm);grind
theorem Dl (a:Nat): ∀(b c:List Nat),b.length=c.length->(∀h∈b.zip c,h.1^^^h.2<2^(a+1))->fK b a≠fK c a-> ∀o:(Nat×Nat)×Nat,o.2<2^a->
  (((b.zip c).foldl pick o).1.1<((b.zip c).foldl pick o).1.2↔lexB (fK b a) (fK c a)=true)
 | [],[],_,_,x,_,_=>absurd rfl x
 |p::b,r::c,E,y,z,o,C=>by
  have F:b.length=c.length:=by simpa using E
  have d:=y (p,r) a9a;simp only[List.zip_cons_cons,a5C,fK,a4U,lexB]at z|-;by_cases k:p.testBit a=r.testBit a
  .rw[if_pos k];have G:(p^^^r).testBit a=false:=by rw[a7Q,k];simp
   refine Dl a b c F (λh d=>y h (by simp[d])) (λx=>z ?_) _ ?_
   .rw[k];exact congrArg _ x
   .simp only[pick];split
    .exact sw d G
    .exact C
  .rw[if_neg k];have D:(p^^^r).testBit a=true:=by simp_all
   rw[Yi C D,Dj _ _ D d (λh d=>y h (by simp[d]))];exact Yj d k
theorem Yk {b c:List Nat} (r:b.length=c.length) (k: ∀a∈b.zip c,a.1^^^a.2<2^(e+1)) (o:fK b e=fK c e): ∀a∈b.zip c,a.1^^^a.2<2^e:=by
 intro a d;refine sw (k a d) ?_;obtain⟨h,p,rfl⟩:=a5i d;simp only[List.length_zip]at p;have x:(fK b e)[h]? =(fK c e)[h]? :=by rw[o]
 grind[fK,List.getElem?_eq_getElem,Option.some.injEq]
theorem Dm: ∀(d:Nat) (b c:List Nat),b.length=c.length->(∀h∈b.zip c,h.1^^^h.2<2^d)-> ∀a:Nat×Nat,a∈b.zip c->
  (((b.zip c).foldl pick (a,0)).1.1<((b.zip c).foldl pick (a,0)).1.2↔lexB (cc b d) (cc c d)=true)
 |0,b,c,o,p,a,r=>by
  have: ∀(k:List (Nat×Nat)),(∀h∈k,h.1^^^h.2<2^0)->k.foldl pick (a,0)=(a,0):=by
   intro k
   induction k with
   |nil=>intro _;rfl
   |cons h k ih=>simp_all [pick]
  rw[this _ p];have z:=p a r;have x:a.1=a.2:=a6U λy=>by
   have C:(a.1^^^a.2).testBit y=false:=by simp_all
   grind
  simp[cc,lexB,x]
 |d+1,b,c,o,p,a,r=>by
  simp only[cc];rw[Dh (by simp[fK,o])];by_cases he:fK b d=fK c d
  .rw[if_pos he];exact Dm d b c o (Yk o p he) a r
  .rw[if_neg he];grind[Dl,Nat.two_pow_pos]
theorem Yl {c d:List Nat} (p:c.length=d.length): ∀a,cc c a=cc d a->(∀h∈c,h<2^a)->(∀h∈d,h<2^a)->c=d:=by
 intro a r y z;have x: ∀a,cc c a=cc d a-> ∀b,b<a->fK c b=fK d b:=by
  intro a
  induction a with
  |zero=>intro _ b k;omega
  |succ a ih=>grind[cc,List.append_inj,fK]
 refine a8l p λo C D=>a6U λb=> ?_;by_cases k:b<a
 .have E:(fK c b)[o]? =(fK d b)[o]? :=by rw[x a r b k]
  grind[fK,List.getElem?_eq_getElem]
 grind[Nat.lt_of_lt_of_le,List.getElem_mem,Nat.pow_le_pow_right,Nat.testBit_lt_two_pow]
def iB:Nat->List Bool->List UInt8
 |0,_=> []
 |b+1,a=>UInt8.ofNat (val (a.take 8))::iB b (a.drop 8)
def Dn: ∀(a:Nat) (b:List Bool),(iB a b).length=a
 |0,_=>rfl
 |a+1,b=>by simp[iB,Dn a]
def sx:List UInt8->List UInt8->Bool
 |a::c,b::d=>if a=b then sx c d else decide (a<b)
 | _,_=>false
theorem Ym (b:e<256) (c:i<256) (a:UInt8.ofNat e=UInt8.ofNat i):e=i:=by have:=congrArg UInt8.toNat a;grind[UInt8.toNat_ofNat',Nat.mod_eq_of_lt]
theorem Dp: ∀(c:Nat) (a b:List Bool),a.length=8*c->b.length=8*c->sx (iB c a) (iB c b)=lexB a b
 |0,a,b,d,r=>by
  obtain rfl:=a4B (by simpa using d);obtain rfl:=a4B (by simpa using r);rfl
 |c+1,a,b,x,hm=>by
  have h:(a.take 8).length=8:=a9b;have k:(b.take 8).length=8:=a9b;have o:val (a.take 8)<256:=by grind[ni]
  have p:val (b.take 8)<256:=by grind[ni]
  have ih:=Dp c (a.drop 8) (b.drop 8) a9b a9b
  conv=>rhs;rw[<-a5e 8 a,<-a5e 8 b]
  rw[Dh (h.trans k.symm)];simp only[iB,sx];by_cases he:a.take 8=b.take 8
  .rw[he];simp[ih]
  .rw[if_neg he,if_neg (λd=>he (val_inj (h.trans k.symm) (Ym o p d)))];have:=pj (h.trans k.symm);have y:UInt8.ofNat (val (a.take 8))<UInt8.ofNat (val (b.take 8))↔val (a.take 8)<val (b.take 8):=by rw[UInt8.lt_iff_toNat_lt];simp[a6i o,a6i p]
   simp_all
def Yn {b a c:List Bool} (d:b.length=a.length) (h:a.length=c.length) (k:lexB b a=true) (o:lexB a c=true):lexB b c=true:=by rw[<-pj d]at k;rw[<-pj h]at o;rw[<-pj (d.trans h)];omega
theorem Yo {a b:List Bool} (c:a.length=b.length) (d:lexB a b=false) (h:lexB b a=false):a=b:=by refine val_inj c ?_;have k:=pj c;have o:=pj c.symm;grind
end Go.a6
namespace Go.Proofs.YtlgnfcaolejgeaaGreat
open Go Go.bx
variable{e i v O b8 j0:Nat}
theorem Dq (b:e<18446744073709551616) (c:i<18446744073709551616):bn .xor (.int .u64 (e:Int)) (.int .u64 (i:Int))=some (.int .u64 ((e^^^i:Nat):Int)):=by
 have d:bn .xor (.int .u64 (e)) (.int .u64 (i))=some (.int .u64 (IntKind.u64.wrap (BitVec.ofInt 64 (e)^^^BitVec.ofInt 64 (i)).toNat)):=rfl;have h: ∀a:Nat,a<18446744073709551616->(BitVec.ofInt 64 (a)).toNat=a:=λa k=>by simp;omega
 grind[Nat.xor_lt_two_pow,BitVec.toNat_xor,wrap_u64]
def oh (a:Int):ck a<18446744073709551616:=(BitVec.ofInt 64 a^^^BitVec.ofInt 64 9223372036854775808).isLt
def Dr (b:Int) (a:U):AC Tryz.prog 339 [.v (.int .i64 b)] a λc d=>d=a/\c= .v (.int .u64 (ck b:Int)):=by refine bd hm Sf a9a ?_;refine aj @CC ?_;exact⟨a,U.a1,rfl⟩
def Yp (a:Int) (b:U):AC Tryz.prog 338 [.v (.int .i64 a)] b λd h=>h=b/\d= .v (.bool (decide (1<=a)&&decide (a<=8))):=by
 refine bd hm Sd a9a ?_;by_cases c:1<=a
 .refine aj @c ?_;exact⟨b,U.a1,by simp[]⟩
 .refine aj @c ?_;exact⟨b,U.a1,by simp[]⟩
def gN (b:(Int×Int)×Nat) (a:Int×Int):(Int×Int)×Nat:=
 if b.2<ck a.1^^^ck a.2/\b.2<b.2^^^(ck a.1^^^ck a.2)then(a,ck a.1^^^ck a.2)else b
def bC (a b:List Int):Bool:=
 if 1<=a.length/\a.length<=8/\b.length=a.length then
  decide (((a.zip b).foldl gN ((a.zip b).headD (0,0),0)).1.1<((a.zip b).foldl gN ((a.zip b).headD (0,0),0)).1.2)
 else false
theorem xw (a c:List Int) (i j:Own) (E:U):
  AC Tryz.prog 301 [.J (ad a) i,.J (ad c) j] E λI P=>P=E/\I= .v (.bool (bC a c)):=by
 refine bd hm Rx a9a ?_;have D:=bH (q:=a);have S:=bH (q:=c);refine aj @D ?_;refine ai (Yp _ _) ?_;rintro _ E ⟨rfl,rfl⟩;unfold bC;by_cases h1:1<=a.length/\a.length<=8
 .have l:(1:Int)<=a.length:=a8Z;have m:(a.length:Int)<=8:=a8Z;by_cases n:(c.length:Int)=a.length
  .have T:c.length=a.length:=a8Z;rw[if_pos ⟨h1.1,h1.2,T⟩];refine aj (bs @D @S @l @m @n @a5q) ?_;have Z:(a.zip c).length=a.length:=by simp[T]
   have q: ∀b,b<a.length-> ∃d,(a.zip c)[b]? =some d/\a[b]? =some d.1/\c[b]? =some d.2:=λb K=>by
    simp_all
   obtain⟨F,G,M,N⟩:=q 0 a8Z;have O:(a.zip c).headD (0,0)=F:=by
    cases s:a.zip c with
    |nil=>rw[s]at G;cases G
    |cons j9 k0=>rw[s]at G;simpa using G
   rw[O];refine cr (λk P=> ∃(b o:Nat) (h:(Int×Int)×Nat),b<=a.length/\o<a.length/\P=E/\h=((a.zip c).take b).foldl gN (F,0)/\h.2<18446744073709551616/\a[o]? =some h.1.1/\c[o]? =some h.1.2/\
     k 0= .J (ad a) i/\k 1= .J (ad c) j/\k 5= .v (.int .i64 o)/\k 6= .v (.int .u64 h.2)/\k 21= .v (.int .i64 a.length)/\k 22= .v (.int .i64 b))
    (λk _=>match k 22 with| .v (.int _ Q)=>a.length - Q.toNat| _=>0) ⟨0,0,(F,0),a8Z,a8Z,rfl,a9a,a9a,M,N,?_⟩ ?_
   .exact cm @D
   rintro k t ⟨b,o,h,K,u,rfl,V,L,W,e,p,r,x,y,z,C⟩;by_cases f:(b:Int)<a.length
   .obtain⟨d,X,v,w⟩:=q b a8Z;have Y:((a.zip c).take (b+1)).foldl gN (F,0)=gN h d:=by rw[a5I,X,a6v,<-V];rfl
    simp -dsimp -implicitDefEqProofs (disch:=first|omega|assumption|(simp only[bk,Nat.reduceAdd];try omega)) only[go_sem,simprocAttr,-List.reduceReplicate,p,r,x,y,z,C,f,gn v,gn w,oc];refine ai (Dr d.1 _) ?_;rintro _ t ⟨rfl,rfl⟩;simp -dsimp -implicitDefEqProofs (disch:=first|omega|assumption|(simp only[bk,Nat.reduceAdd];try omega)) only[go_sem,simprocAttr,-List.reduceReplicate,p,r,x,y,z,C,f,gn v,gn w,oc];refine ai (Dr d.2 _) ?_;rintro _ t ⟨rfl,rfl⟩;have A:ck d.1^^^ck d.2<18446744073709551616:=a7b (n:=64) (oh _) (oh _);have k1:h.2^^^(ck d.1^^^ck d.2)<18446744073709551616:=a7b (n:=64) L A;have cd:=Dq (oh d.1) (oh d.2);have ca:=Dq L A;rw[gN]at Y;generalize ck d.1^^^ck d.2=B at*;by_cases g:(h.2)<(B:Int)
    .by_cases H:(h.2)<((h.2^^^B):Int)
     .refine aj (cf @p @r @x @y @z @C @cd @ca @g @H) ?_;grind
     .refine aj (cf @p @r @x @y @z @C @cd @ca @g @H) ?_;refine⟨⟨b+1,o,h,a8Z,u,?_,L,W,e,?_⟩,a8Z⟩
      .grind
      .simp
    .refine aj (cV @p @r @x @y @z @C @cd @ca @g) ?_;refine⟨⟨b+1,o,h,a8Z,u,?_,L,W,e,?_⟩,a8Z⟩
     .grind
     .simp
   .obtain rfl:b=a.length:=a8Z;rw[a4x a8Z]at V;simp -dsimp -implicitDefEqProofs (disch:=first|omega|assumption|(simp only[bk,Nat.reduceAdd];try omega)) only[go_sem,simprocAttr,-List.reduceReplicate,p,r,x,y,z,C,f,gn W,gn e,oc];exact⟨_,U.a1,rfl,by rw[V]⟩
  .have T: ¬c.length=a.length:=a8Z;refine aj (bs @D @S @l @m @n @a5q) ?_;exact⟨_,U.a1,rfl,by simp_all⟩
 .have:(decide ((1:Int)<=a.length)&&decide ((a.length:Int)<=8))=false:=by grind
  refine aj (aI @D @S @this @a5r) ?_;exact⟨_,U.a1,rfl,by grind⟩
def mf (a b:List Int):Int:=if bC a b=true then -1 else if bC b a=true then 1 else 0
def Ds (a b:List Int) (d h:Own) (c:U):
  AC Tryz.prog 237 [.J (ad a) d,.J (ad b) h] c λk o=>o=c/\k= .v (.int .i64 (mf a b)):=by
 refine bd hm Q6 a9a ?_;refine bT ?_;refine ai (xw a b d h c) ?_;rintro _ c ⟨rfl,rfl⟩;unfold mf;cases h1:bC a b with
 |true=>refine bT ?_;exact⟨_,U.a1,rfl⟩
 |false=>
  refine bT ?_;refine ai (xw b a h d c) ?_;rintro _ c ⟨rfl,rfl⟩;cases p:bC b a with
  |true=>refine bT ?_;exact⟨_,U.a1,rfl⟩
  |false=>refine bT ?_;exact⟨_,U.a1,rfl⟩
end Go.Proofs.YtlgnfcaolejgeaaGreat
