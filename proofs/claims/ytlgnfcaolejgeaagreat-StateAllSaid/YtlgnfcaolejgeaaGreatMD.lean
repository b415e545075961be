import Derived.Test.YtlgnfcaolejgeaaGreatMC
set_option linter.all false
set_option maxRecDepth 100000
namespace Go.Proofs.YtlgnfcaolejgeaaGreat
open Go Go.bB
structure Rd where
 b:List UInt8
 e:Int
def hV (a:Rd) (b:Own):bq:= .cells [.J (a.b.map ak) b,.v (.int .i64 a.e)]
def bX (a:U) (b:Nat) (c:Rd) (d:U):Prop:= ∃h,(a.set b (hV c h)).sub d
variable{f t e7:U}{e i v M c0 j0:Nat}
def bX.cell {a:Rd} (b:bX t e a f): ∃c,f e=some (.cells [.J (a.b.map ak) c,.v (.int .i64 a.e)]):=by obtain⟨c,b⟩:=b;exact⟨c,b _ _ (U.ah _ _ _)⟩
def bX.mono {b:Rd} (a:bX f e b t) (c:t.sub e7):bX f e b e7:=by obtain⟨d,a⟩:=a;exact⟨d,U.aq a c⟩
theorem bX.base {b:Rd} (a:bX f e b e7) (c:t.sub f):bX t e b e7:=by obtain⟨d,a⟩:=a;exact⟨d,U.aq (U.lh c) a⟩
def bX.sub {a c:U}{d:Nat}{h:Rd} (b:bX a d h c) (k:a d=none):a.sub c:=by obtain⟨o,b⟩:=b;exact U.aq (U.ae U.a1 k) b
theorem bX.set {b c:U}{l:Nat}{k:Rd} (a:bX b l k c) (d:Rd) (h:Own):bX b l d (c.set l (hV d h)):=by obtain⟨o,a⟩:=a;exact⟨h,U.CD a⟩
variable{Y:bq}
def bX.get {b:Rd} (a:bX f i b t) (c:e≠i) (d:f e=some Y):t e=some Y:=by obtain⟨h,a⟩:=a;exact a _ _ (by rw[U.an _ _ c];exact d)
def bX.new {c:Rd}{ob:bq} (a:bX f i c t) (d:t e=none):e≠i/\f e=none/\bX (f.set e ob) i c (t.set e ob):=by
 obtain⟨h,k⟩:=a.cell;have b:e≠i:=by rintro rfl;rw[d]at k;cases k
 obtain⟨h,a⟩:=a;have o:=U.bG a d;rw[U.an _ _ b]at o;refine⟨b,o,h,?_⟩;rw[U.eg _ b];exact U.lh a
def bX.other {b:Rd}{ob:bq} (a:bX f e b t) (c:i≠e):bX (f.set i ob) e b (t.set i ob):=by obtain⟨d,a⟩:=a;refine⟨d,?_⟩;rw[U.eg _ c];exact U.lh a
def CK (a:List UInt8) (c:Own) (b:U) (p:c= .nil->a= []) (r:a.length<=70368744177664):
  AC Tryz.prog 108 [.J (a.map ak) c] b λx y=> ∃d,b d=none/\x= .ptr d 0/\bX b d ⟨a,0⟩ y:=by
 refine bf hm Mr a9s ?_;refine aF (c2 @ba @bb) ?_;refine ai (xg a c b p r) ?_;rintro _ D ⟨h,k,rfl⟩;have o:putAt [R.J [] Own.nil,R.v (Value.int IntKind.i64 0)] 0 [R.J (a.map ak) h]= [R.J (a.map ak) h,R.v (Value.int IntKind.i64 0)]:=rfl;refine aF (aI @o @ba @bb) ?_;refine aP λz C=> ?_;refine aF (aI @o @ba @bb) ?_;exact⟨_,U.a1,z,U.bG k.sub C,rfl,h,U.lh k.sub⟩
def me (a:Rd) (e:Int):Rd:=if a.e=0 then {a with e:=e}else a
variable{n b3:R}
def XC {a:R}:putAt [n,a] 1 [b3]= [n,b3]:=rfl
def XD {a:R}:putAt [a,n] 0 [b3]= [b3,n]:=rfl
def sn (k o:U) (c:Nat) (a:Rd) (e:Int) (d:bX k c a o):
  AC Tryz.prog 176 [.ptr c 0,.v (.int .i64 e)] o λ_ p=>bX k c (me a e) p:=by
 obtain⟨r,h⟩:=d.cell;refine bf hm Oy a9s ?_;by_cases b:a.e=0
 .refine aF (bD (U.af h) (U.aJ h) @b @XC @ba @bb) ?_;refine⟨_,U.a1,?_⟩;rw[me,if_pos b];exact d.set {a with e:=e} r
 .refine aF (aM (U.af h) @b @ba @bb) ?_;refine⟨_,U.a1,?_⟩;rw[me,if_neg b];exact d
def dt (a:Rd) (c:Nat):Option (List UInt8)×Rd:=
 if a.e=0 then(if a.b.length<c then(none,{a with e:=20})else(some (a.b.take c),{a with b:=a.b.drop c}))else(none,a)
def CL (p r:U) (k:Nat) (a:Rd) (c:Nat) (F:c<=100000000) (h:bX p k a r):
  AC Tryz.prog 173 [.ptr k 0,.v (.int .i64 c)] r λC D=>bX p k (dt a c).2 D/\
   (∃x,(x= .nil->(dt a c).1.getD []= [])/\C= .aL [.J (((dt a c).1.getD []).map ak) x,.v (.bool (dt a c).1.isSome)]):=by
 obtain⟨x,o⟩:=h.cell;refine bf hm Oq a9s ?_;by_cases d:a.e=0
 .by_cases c2:a.b.length<c
  .have y:(a.b.length:Int)<c:=a9r;have e:dt a c=(none,{a with e:=20}):=by rw[dt,if_pos d,if_pos c2]
   rw[e];refine aF (bp (U.af o) @d @y @ba @bb) ?_;refine ai (sn p r k a 20 h) ?_;intro C G z;rw[me,if_pos d]at z;obtain⟨L,E⟩:=z.cell;refine aF (aI (U.af E) @ba @bb) ?_;exact⟨_,U.a1,z,.nil,λ_=>rfl,rfl⟩
  .have y: ¬(a.b.length:Int)<c:=a9r;have e:dt a c=(some (a.b.take c),{a with b:=a.b.drop c}):=by rw[dt,if_pos d,if_neg c2]
   rw[e];refine aF (cd (U.af o) (U.aJ o) @d @y @XD @ba @bb) ?_;exact⟨_,U.a1,h.set ⟨a.b.drop c,0⟩ .any,.any,(λh=>by cases h),rfl⟩
 .have e:dt a c=(none,a):=by rw[dt,if_neg d]
  rw[e];refine aF (aM (U.af o) @d @ba @bb) ?_;exact⟨_,U.a1,h,.nil,λ_=>rfl,rfl⟩
def uc (d h:U) (c:Nat) (b:Rd) (a:Nat) (o:a<=100000000) (p:bX d c b h):
  AC Tryz.prog 173 [.ptr c 0,.v (.int .i64 a)] h λr x=>bX d c (dt b a).2 x/\
   (∃k,r= .aL [.J (((dt b a).1.getD []).map ak) k,.v (.bool (dt b a).1.isSome)]):=
 (CL d h c b a o p).mono λ_ _ ⟨y,k,_,z⟩=>⟨y,k,z⟩
def du (a:Rd):UInt8×Rd:=((dt a 1).1.getD []|>.headD 0,(dt a 1).2)
variable{B:List UInt8}
theorem qG {a:Rd} (b:(dt a e).1=some B):B.length=e:=by grind[dt,Option.some.injEq,List.length_take]
def ph (c d:U) (b:Nat) (a:Rd) (r:bX c b a d):
  AC Tryz.prog 109 [.ptr b 0] d λk x=>bX c b (du a).2 x/\k= .v (.int .u8 (du a).1.toNat):=by
 refine bf hm Mt a9s ?_;refine aF (c2 @ba @bb) ?_;refine ai (uc c d b a 1 a9r r) ?_;rintro k C ⟨o,D,rfl⟩;unfold du;have h:=λaR=>qG (a:=a) (e:=1) (B:=aR);generalize dt a 1=y at*;obtain⟨aR,E⟩:=y;cases aR with
 |none=>simp only[a6K,a8b]at*;refine aF (c2 @ba @bb) ?_;exact⟨_,U.a1,o,rfl⟩
 |some aR=>
  simp only[a7k,a6M]at*;have h:=h aR rfl
  match aR,h with
  | [p],_=>have z:eD 1 (some (ak p))=some (.bW [.v (.int .u8 p.toNat)]):=rfl;simp -dsimp -implicitDefEqProofs (disch:=first|omega|assumption|(simp only[aE,Nat.reduceAdd];try omega)) only[hn,z,go_sem,↓reduceIte,Nat.reduceEqDiff,Nat.reduceAdd,Nat.reduceSub,Nat.reduceMul,Nat.reduceLeDiff,Nat.reduceLT,Int.reduceNeg,Int.reduceToNat,Int.reduceAdd,Int.reduceSub,Int.reduceMul,Int.reduceLT,Int.reduceLE,Int.reduceEq,Int.reduceNe,ba,bb,List.headD_cons];exact⟨_,U.a1,o⟩
def fm (a:List UInt8):Nat:=a.foldl (λb c=>b*256+c.toNat) 0
def iE (a:Rd):Int×Rd:=
 match(dt a 8).1 with
 |none=>(0,(dt a 8).2)
 |some aR=>((BitVec.ofNat 64 (fm aR)^^^9223372036854775808#64).toInt,(dt a 8).2)
def CM: ∀(aR:List UInt8) (a:Nat),aR.foldl (λa b=>a*256+b.toNat) a+1<=(a+1)*256^aR.length
 | [],a=>by simp
 |b::aR,a=>by
  have c:=CM aR (a*256+b.toNat);have d:=b.toNat_lt;rw[a5Q,a4O,a8F];refine a5J c ?_;rw[a9m (256^aR.length) 256,<-Nat.mul_assoc];exact a5a _ a9r
def CN (a:List UInt8):fm a<256^a.length:=by have:=CM a 0;rw[fm];omega
def XE (a:List UInt8) (b:Nat) (c:b<a.length):fm (a.take (b+1))=fm (a.take b)*256+(a.getD b 0).toNat:=by rw[a8Y,a4J c,fm,a6P];simp[fm,List.getD,c]
theorem XF (a b:Nat) (c:a<18446744073709551616) (d:b<18446744073709551616):bo .or (.int .u64 a) (.int .u64 b)=some (.int .u64 ((a|||b:Nat):Int)):=by have h:bo .or (.int .u64 a) (.int .u64 b)=some (.int .u64 (IntKind.u64.wrap (BitVec.ofInt 64 (a:Int)|||BitVec.ofInt 64 (b:Int)).toNat)):=rfl;have k:=(BitVec.ofInt 64 (a:Int)|||BitVec.ofInt 64 (b:Int)).isLt;grind[wrap_u64,BitVec.toNat_or,BitVec.toNat_ofNat,Nat.mod_eq_of_lt]
def CO (b a:Nat) (d:a<256):b*256|||a=b*256+a:=by have c:=a7B (i:=8) (b:=a) a9r b;rw[a7d]at c;exact c.symm
def XG (a:Nat) (c:a<72057594037927936):bo .shl (.int .u64 a) (.int .u64 8)=some (.int .u64 ((a*256:Nat):Int)):=by have b:bo .shl (.int .u64 a) (.int .u64 8)=some (.int .u64 (IntKind.u64.wrap ((a:Int)*2^8))):=rfl;rw[b,wrap_u64 a9r a9r];simp
theorem XH (a:Nat) (b:a<18446744073709551616):bo .xor (.int .u64 a) (.int .u64 9223372036854775808)=some (.int .u64 ((BitVec.ofNat 64 a^^^9223372036854775808#64).toNat:Int)):=by have c:bo .xor (.int .u64 a) (.int .u64 9223372036854775808)=some (.int .u64 (IntKind.u64.wrap (BitVec.ofInt 64 (a:Int)^^^BitVec.ofInt 64 9223372036854775808).toNat)):=rfl;grind[BitVec.ofNat,BitVec.ofInt,wrap_u64]
def XI (a:BitVec 64):IntKind.i64.wrap (a.toNat:Int)=a.toInt:=by have b:((2:Int)^IntKind.i64.bits)=18446744073709551616:=rfl;have c:((2:Int)^(IntKind.i64.bits - 1))=9223372036854775808:=rfl;have d:=a.isLt;simp only[IntKind.wrap,b,c,IntKind.signed,a6o,decide_eq_true_eq,BitVec.toInt_eq_toNat_cond];omega
theorem XJ (k o:U) (h:Nat) (c:Rd) (S:bX k h c o):
  AC Tryz.prog 282 [.ptr h 0] o λy p=>bX k h (iE c).2 p/\y= .v (.int .i64 (iE c).1):=by
 refine bf hm R7 a9s ?_;refine aF (c2 @ba @bb) ?_;refine ai (uc k o h c 8 a9r S) ?_;rintro y T ⟨z,V,rfl⟩;unfold iE;have C:=λaR=>qG (a:=c) (e:=8) (B:=aR);generalize dt c 8=W at*;obtain⟨aR,n⟩:=W;cases aR with
 |none=>simp only[a6K,a8b]at*;refine aF (c2 @ba @bb) ?_;exact⟨_,U.a1,z⟩
 |some aR=>
  simp only[a7k,a6M]at*;have C:=C aR rfl;refine aF (c2 @ba @bb) ?_;refine cv (λb p=> ∃a:Nat,a<=8/\p=T/\b 15= .J (aR.map ak) V/\b 16= .v (.int .i64 aR.length)/\b 17= .v (.int .i64 a)/\b 5= .v (.int .u64 (fm (aR.take a))))
   (λb _=>match b 17 with| .v (.int _ e)=>(8 - e).toNat| _=>0) ⟨0,a9r,rfl,?_⟩ ?_
  .refine aF (aI @a6s.{0} @ba @bb) ?_;rfl
  .rintro b q ⟨a,s,rfl,D,E,F,r⟩;have x:=CN (aR.take a);rw[a4N]at x;by_cases G:(a:Int)<aR.length
   .have L:a<aR.length:=a9r;have t:fm (aR.take a)<72057594037927936:=by refine a5Z x ?_;refine a5J (a6y (n:=256) (i:=min a aR.length) (j:=7) a9r a9r) a9v
    have f:=wN (B:=aR) L;have g:=XE aR a L;generalize u:aR.getD a 0=d at*;have v:=d.toNat_lt;have i:IntKind.u64.wrap (d.toNat:Int)=d.toNat:=wrap_u64 a9r a9r;generalize fm (aR.take a)=P at*;have j:bo .or (.int .u64 ((P*256:Nat):Int)) (.int .u64 (d.toNat:Int))=some (.int .u64 ((P*256+d.toNat:Nat):Int)):=by rw[XF _ _ a9r a9r,CO _ _ a9r]
    have l:eD 1 (aR.map ak)[a]? =some (.bW [.v (.int .u8 d.toNat)]):=by rw[f];rfl
    simp -dsimp -implicitDefEqProofs (disch:=first|omega|assumption|(simp only[aE,Nat.reduceAdd];try omega)) only[D,E,F,r,G,go_sem,↓reduceIte,Nat.reduceEqDiff,Nat.reduceAdd,Nat.reduceSub,Nat.reduceMul,Nat.reduceLeDiff,Nat.reduceLT,Int.reduceNeg,Int.reduceToNat,Int.reduceAdd,Int.reduceSub,Int.reduceMul,Int.reduceLT,Int.reduceLE,Int.reduceEq,Int.reduceNe,ba,bb,hn,l,XG,i,j];refine⟨⟨a+1,a9r,a9s,?_⟩,a9r⟩;rw[g]
   .obtain rfl:a=8:=a9r;have m:aR.take 8=aR:=a4K a9r;rw[m]at r x;have w:fm aR<18446744073709551616:=by simp_all
    simp -dsimp -implicitDefEqProofs (disch:=first|omega|assumption|(simp only[aE,Nat.reduceAdd];try omega)) only[D,E,F,r,G,go_sem,↓reduceIte,Nat.reduceEqDiff,Nat.reduceAdd,Nat.reduceSub,Nat.reduceMul,Nat.reduceLeDiff,Nat.reduceLT,Int.reduceNeg,Int.reduceToNat,Int.reduceAdd,Int.reduceSub,Int.reduceMul,Int.reduceLT,Int.reduceLE,Int.reduceEq,Int.reduceNe,ba,bb,XH,XI];exact⟨_,U.a1,z⟩
def mZ (a:Rd):List UInt8×Rd:=((dt a 32).1.getD u9,(dt a 32).2)
def CP (a:Rd):(mZ a).1.length=32:=by
 unfold mZ;have b:=λaR=>qG (a:=a) (e:=32) (B:=aR);cases c:(dt a 32).1 with
 |none=>rfl
 |some aR=>exact b aR c
def CQ (r D:U) (h:Nat) (b:Rd) (k:bX r h b D):
  AC Tryz.prog 256 [.ptr h 0] D λc P=>bX r h (mZ b).2 P/\c=cM (mZ b).1:=by
 refine bf hm QL a9s ?_;have E:=CP b;refine aF (c2 @ba @bb) ?_;refine aP λS T=> ?_;obtain⟨F,V,k⟩:=k.new (ob:=eR) T;refine aF (c2 @ba @bb) ?_;refine aP λW e=> ?_;obtain⟨G,x,k⟩:=k.new (ob:=eR) e;obtain⟨d,x⟩:=U.gN x;refine aF (c2 @ba @bb) ?_;refine ai (uc _ _ h b 32 a9r k) ?_;rintro c f ⟨y,i,rfl⟩;have o:=y.get F (by rw[U.an _ _ (a4S d)];exact U.ah _ _ _);have a:=y.get G (U.ah _ _ _);have L: ∀(c z:bq),bX r h (dt b 32).2 ((f.set W c).set S z):=λc z=>by
  have:=(y.other (ob:=c) G).other (ob:=z) F;rw[U.set_set]at this;refine this.base ?_;rw[U.eg _ d,U.set_set];exact U.ae (U.ae U.a1 V) x
 unfold mZ at E|-;have p:=λaR=>qG (a:=b) (e:=32) (B:=aR);generalize dt b 32=g at*;obtain⟨aR,j⟩:=g;unfold eR at o a;have l:(List.replicate 32 (R.v (Value.int IntKind.u8 0))).length=32:=rfl;cases aR with
 |none=>
  simp only[a6K,a8b]at*;simp -dsimp -implicitDefEqProofs (disch:=first|omega|assumption|(simp only[aE,Nat.reduceAdd];try omega)) only[go_sem,↓reduceIte,Nat.reduceEqDiff,Nat.reduceAdd,Nat.reduceSub,Nat.reduceMul,Nat.reduceLeDiff,Nat.reduceLT,Int.reduceNeg,Int.reduceToNat,Int.reduceAdd,Int.reduceSub,Int.reduceMul,Int.reduceLT,Int.reduceLE,Int.reduceEq,Int.reduceNe,ba,bb,U.af a,U.aJ a,wR (U.af a)];refine C5 ?_ a ?_ ?_
  .simp[aN]
  .simp
  have C:putAt (List.replicate 32 (R.v (Value.int IntKind.u8 0))) 0 (flat (List.take 32 []))=u9.map ak:=rfl;rw[C];refine aF (cd @E @d (a4S d) (U.af o) (U.aJ o) @ba @bb) ?_;exact⟨_,U.a1,L _ _⟩
 |some aR=>
  simp only[a7k,a6M]at*;have p:=p aR rfl;simp -dsimp -implicitDefEqProofs (disch:=first|omega|assumption|(simp only[aE,Nat.reduceAdd];try omega)) only[go_sem,↓reduceIte,Nat.reduceEqDiff,Nat.reduceAdd,Nat.reduceSub,Nat.reduceMul,Nat.reduceLeDiff,Nat.reduceLT,Int.reduceNeg,Int.reduceToNat,Int.reduceAdd,Int.reduceSub,Int.reduceMul,Int.reduceLT,Int.reduceLE,Int.reduceEq,Int.reduceNe,ba,bb,U.af a,U.aJ a,wR (U.af a)];refine C5 ?_ a ?_ ?_
  .rw[tO];trivial
  .simp
  have C:putAt (List.replicate 32 (R.v (Value.int IntKind.u8 0))) 0 (flat (List.take 32 (List.map ak aR)))=aR.map ak:=by rw[a4K (by simp[p]),rF,qm (by simp[p])]
  rw[C];refine aF (cd @p @d (a4S d) (U.af o) (U.aJ o) @ba @bb) ?_;exact⟨_,U.a1,L _ _⟩
def ob (a:Rd):Rd:=if 0<a.b.length then me a 22 else a
def CR (c d:U) (b:Nat) (a:Rd) (h:bX c b a d):
  AC Tryz.prog 111 [.ptr b 0] d λo y=>bX c b (ob a) y/\o= .v (.int .i64 (ob a).e):=by
 obtain⟨C,p⟩:=h.cell;refine bf hm Mx a9s ?_;unfold ob;by_cases r:0<a.b.length
 .have k:(0:Int)<a.b.length:=a9r;refine aF (aM (U.af p) @k @ba @bb) ?_;refine ai (sn c d b a 22 h) ?_;intro o D x;obtain⟨E,z⟩:=x.cell;rw[if_pos r];refine aF (aI (U.af z) @ba @bb) ?_;exact⟨_,U.a1,x⟩
 .have k: ¬(0:Int)<a.b.length:=a9r;rw[if_neg r];refine aF (aM (U.af p) @k @ba @bb) ?_;exact⟨_,U.a1,h⟩
def fo (a:Nat):List UInt8:= [UInt8.ofNat (a>>>16),UInt8.ofNat (a>>>8),UInt8.ofNat a]
def hX (a:List UInt8):List UInt8:=fo a.length++a
def dz (a:List Int):List UInt8:=UInt8.ofNat a.length::a.flatMap hU
theorem kB (a:Nat):(fo a).length=3:=rfl
theorem xi (a:List UInt8):(hX a).length=3+a.length:=by simp[hX,fo];omega
theorem oc (a:List Int):(a.flatMap hU).length=8*a.length:=by
 induction a with
 |nil=>rfl
 |cons b a ih=>rw[a5n,a4L,ih,CJ,a4O];omega
def xj (a:List Int):(dz a).length=1+8*a.length:=by rw[dz,a4O,oc];omega
theorem CS (b a:Nat) (c:a<=64):bo .shr (.int .i64 (b:Int)) (.int .u64 (a:Int))=some (.int .i64 ((b>>>a:Nat):Int)):=by
 have d:bo .shr (.int .i64 (b:Int)) (.int .u64 (a:Int))=some (.int .i64 ((b:Int).fdiv (2^a))):=by have hm:min a IntKind.i64.bits=a:=a6t c;simp[bo,eL,nM,hm]
 grind[Nat.shiftRight_eq_div_pow,Int.ofNat_fdiv]
def so (d h:U) (b:Nat) (c:List UInt8) (a:Nat) (F:a<=1048576) (r:cE d b c h) (G:c.length<=1000000000000):
  AC Tryz.prog 169 [.ptr b 0,.v (.int .i64 a)] h λ_ x=>cE d b (c++fo a) x:=by
 refine bf hm Og a9s ?_;have k:bo .shr (.int .i64 (a:Int)) (.int .u64 16)=some (.int .i64 ((a>>>16:Nat):Int)):=CS a 16 a9r;have o:bo .shr (.int .i64 (a:Int)) (.int .u64 8)=some (.int .i64 ((a>>>8:Nat):Int)):=CS a 8 a9r;have p:(0:Int)<=a:=a9r;have c2:(a:Int)<=1048576:=a9r;refine aF (bp @k @o @iy @p @c2) ?_;refine cJ U.a1 (by simp[aN,R.cells]) λy z C=> ?_;refine aF (bp @k @o @iy @p @c2) ?_;refine ai (ub d z b c (fo a) y (r.mono C.sub) (by rw[kB];omega)) ?_;intro L D E;refine eE ?_;exact⟨D,U.a1,E⟩
def CT (c h:U) (b:Nat) (d a:List UInt8) (k:Own) (o:a.length<=1048576) (p:cE c b d h) (r:d.length<=1000000000000):
  AC Tryz.prog 104 [.ptr b 0,.J (a.map ak) k] h λ_ x=>cE c b (d++hX a) x:=by
 refine bf hm Mj a9s ?_;have c2: ¬(1048576:Int)<a.length:=a9r;simp -dsimp -implicitDefEqProofs (disch:=first|omega|assumption|(simp only[aE,Nat.reduceAdd];try omega)) only[go_sem,simprocAttr,c2];refine ai (so c h b d a.length o p r) ?_;intro y z C;simp -dsimp -implicitDefEqProofs (disch:=first|omega|assumption|(simp only[aE,Nat.reduceAdd];try omega)) only[go_sem,simprocAttr];refine ai (ub c z b _ a k C (by rw[a4L,kB];omega)) ?_;intro y D E;simp -dsimp -implicitDefEqProofs (disch:=first|omega|assumption|(simp only[aE,Nat.reduceAdd];try omega)) only[go_sem,simprocAttr];refine⟨D,U.a1,?_⟩;rw[hX,<-a4W];exact E
def ad (a:List Int):List R:=a.map λb=> .v (.int .i64 b)
def dP {a:List Int}{b:Nat} (c:b<a.length):(ad a)[b]? =some (.v (.int .i64 (a.getD b 0))):=by simp[ad,c,List.getD]
variable{q b6:List Int}
theorem bI:(ad q).length=q.length:=by simp[ad]
theorem sq (h o:U) (c:Nat) (k:List UInt8) (a:List Int) (D:Own) (e:a.length<=255) (L:cE h c k o) (f:k.length<=1000000000000):
  AC Tryz.prog 171 [.ptr c 0,.J (ad a) D] o λ_ p=>cE h c (k++dz a) p:=by
 refine bf hm Ol a9s ?_;have c2: ¬(255:Int)<a.length:=a9r;have E:=bI (q:=a);refine aF (aI @E @c2 @iy) ?_;refine ai (mY h o c k _ L a9r) ?_;intro P g S;refine aF @E ?_;refine cv (λd p=> ∃b:Nat,b<=a.length/\cE h c (k++(UInt8.ofNat a.length::(a.take b).flatMap hU)) p/\d 0= .ptr c 0/\d 17= .J (ad a) D/\d 18= .v (.int .i64 a.length)/\d 19= .v (.int .i64 b))
  (λd _=>match d 19 with| .v (.int _ T)=>(a.length - T).toNat| _=>0) ⟨0,a9r,by simpa using S,?_⟩ ?_
 .exact qx
 .rintro d F ⟨b,i,r,x,y,z,C⟩;by_cases G:(b:Int)<a.length
  .have V:b<a.length:=a9r;have W:=dP V;refine aF (cd @x @y @z @C @G @hn @W) ?_;refine ai (Xy h F c _ _ r ?_) ?_;grind[oc,List.length_append,List.length_cons,List.length_take];intro P j l;refine aF (aM @x @y @z @C) ?_;refine⟨⟨b+1,a9r,?_,a9s⟩,a9r⟩;grind[hU,List.take_succ,List.getElem?_eq_getElem,List.getD]
  .obtain rfl:b=a.length:=a9r;refine aF (bp @x @y @z @C @G) ?_;refine⟨F,U.a1,?_⟩;rw[a5h]at r;exact r
def CU (h a:U) (b:Nat) (c:List UInt8) (k:cE h b c a):
  AC Tryz.prog 107 [.ptr b 0] a λo p=>p=a/\o= .v (.int .i64 0):=by
 obtain⟨r,d⟩:=k.cell;refine bf hm Mp a9s ?_;have x:aY false 1 ([R.J (c.map ak) r,.v (.int .i64 0)].drop 1)= .v (.int .i64 0):=rfl;unfold ua at d;refine aF (c2 (U.af d) @x) ?_;exact⟨a,U.a1,rfl⟩
def fA (b:Nat) (a:Rd):Nat×Rd:=
 match(dt a 3).1 with
 |none=>(0,(dt a 3).2)
 |some aR=>if min b 1048576<fm aR then(0,me (dt a 3).2 10)else(fm aR,(dt a 3).2)
def qH (a:Nat) (b:Rd):List UInt8×Rd:=((dt (fA a b).2 (fA a b).1).1.getD [],(dt (fA a b).2 (fA a b).1).2)
theorem CV (a b:Nat) (c:a<4611686018427387904) (d:b<4611686018427387904):bo .or (.int .i64 a) (.int .i64 b)=some (.int .i64 ((a|||b:Nat):Int)):=by
 have h:bo .or (.int .i64 a) (.int .i64 b)=some (.int .i64 (IntKind.i64.wrap (BitVec.ofInt 64 (a:Int)|||BitVec.ofInt 64 (b:Int)).toNat)):=rfl;have k:a|||b<4611686018427387904:=Nat.or_lt_two_pow (n:=62) c d
 grind[BitVec.toNat_or,BitVec.toNat_ofNat,Nat.mod_eq_of_lt,wrap_i64]
theorem wO (b:UInt8) (a:Nat) (c:a<=16):bo .shl (.int .i64 (b.toNat:Int)) (.int .u64 (a:Int))=some (.int .i64 ((b.toNat*2^a:Nat):Int)):=by
 have k:=b.toNat_lt;have o:bo .shl (.int .i64 (b.toNat:Int)) (.int .u64 (a:Int))=some (.int .i64 (IntKind.i64.wrap ((b.toNat:Int)*2^(min (a:Int).toNat 64)))):=by have d: ¬(a:Int)<0:=a9r;simp only[bo,eL,nM,d,if_false,if_true];rfl
 have hm:min (a:Int).toNat 64=a:=a9r;have h:2^a<=65536:=a6y (n:=2) a9r c;have p:b.toNat*2^a<=256*65536:=a8o a9r h;grind[wrap_i64]
theorem XK (a b c:UInt8):a.toNat*65536|||b.toNat*256|||c.toNat=fm [a,b,c]:=by
 have h:=a.toNat_lt;have k:=b.toNat_lt;have d:=c.toNat_lt;have o:a.toNat*65536|||b.toNat*256=a.toNat*65536+b.toNat*256:=by have:=a7B (a:=a.toNat) (i:=16) (b:=b.toNat*256) a9r;rw[a7d]at this;exact this.symm
 have p:(a.toNat*256+b.toNat)*256|||c.toNat=(a.toNat*256+b.toNat)*256+c.toNat:=CO _ _ d
 grind[fm]
def XL (a:B.length=3):fm B<16777216:=by have:=CN B;rw[a]at this;exact this
def sr (o r:U) (k:Nat) (d:Nat) (n:d<=1048576) (h:Rd) (E:bX o k h r):
  AC Tryz.prog 255 [.ptr k 0,.v (.int .i64 d)] r λx F=>bX o k (fA d h).2 F/\x= .v (.int .i64 (fA d h).1):=by
 refine bf hm QJ a9s ?_;refine eE ?_;refine ai (uc o r k h 3 a9r E) ?_;rintro x G ⟨y,q,rfl⟩;unfold fA;have p:=λaR=>qG (a:=h) (e:=3) (B:=aR);generalize dt h 3=L at*;obtain⟨aR,P⟩:=L;cases aR with
 |none=>simp only[a6K,a8b]at*;refine eE ?_;exact⟨_,U.a1,y⟩
 |some aR=>
  simp only[a7k,a6M]at*;have p:=p aR rfl;have s:=XL p
  match aR,p with
  | [a,b,c],_=>
   have S:eD 1 (some (ak a))=some (.bW [.v (.int .u8 a.toNat)]):=rfl;have T:eD 1 (some (ak b))=some (.bW [.v (.int .u8 b.toNat)]):=rfl;have V:eD 1 (some (ak c))=some (.bW [.v (.int .u8 c.toNat)]):=rfl;have t:=a.toNat_lt;have u:=b.toNat_lt;have v:=c.toNat_lt;have W:IntKind.i64.wrap (a.toNat:Int)=a.toNat:=wrap_i64 a9r a9r;have e:IntKind.i64.wrap (b.toNat:Int)=b.toNat:=wrap_i64 a9r a9r;have f:IntKind.i64.wrap (c.toNat:Int)=c.toNat:=wrap_i64 a9r a9r;have g:bo .shl (.int .i64 (a.toNat:Int)) (.int .u64 16)=some (.int .i64 ((a.toNat*65536:Nat):Int)):=wO a 16 a9r;have i:bo .shl (.int .i64 (b.toNat:Int)) (.int .u64 8)=some (.int .i64 ((b.toNat*256:Nat):Int)):=wO b 8 a9r;have j:bo .or (.int .i64 ((a.toNat*65536:Nat):Int)) (.int .i64 ((b.toNat*256:Nat):Int))=some (.int .i64 ((a.toNat*65536|||b.toNat*256:Nat):Int)):=CV _ _ a9r a9r;have w:a.toNat*65536|||b.toNat*256<16777216:=Nat.or_lt_two_pow (n:=24) a9r a9r
   have l:bo .or (.int .i64 ((a.toNat*65536|||b.toNat*256:Nat):Int)) (.int .i64 (c.toNat:Int))=some (.int .i64 ((fm [a,b,c]:Nat):Int)):=by rw[CV _ _ a9r a9r,XK]
   simp -dsimp -implicitDefEqProofs (disch:=first|omega|assumption|(simp only[aE,Nat.reduceAdd];try omega)) only[hn,S,T,V,↓s8,s9,aj,ofConst,cZ,simprocAttr,gf,a6e,↓sb,sc,ne_eq,not_true_eq_false,not_false_eq_true,Int.reduceNe,a6w,a6N,↓Cb,Cc,W,e,f,g,i,j,l];have C:min (d:Int) 1048576=((min d 1048576:Nat):Int):=a9r;by_cases D:min d 1048576<fm [a,b,c]
   .have z:((min d 1048576:Nat):Int)<(fm [a,b,c]:Int):=a9r;refine aF (c2 @C @z) ?_;refine ai (sn o G k P 10 y) ?_;intro x A m;refine eE ?_;rw[if_pos D];exact⟨_,U.a1,m,rfl⟩
   .have z: ¬((min d 1048576:Nat):Int)<(fm [a,b,c]:Int):=a9r;refine aF (c2 @C @z) ?_;rw[if_neg D];exact⟨_,U.a1,y,rfl⟩
theorem xk (a:Nat) (b:Rd):(fA a b).1<=a/\(fA a b).1<=1048576:=by grind[fA]
theorem CW (d k:U) (c:Nat) (a:Nat) (r:a<=1048576) (b:Rd) (x:bX d c b k):
  AC Tryz.prog 174 [.ptr c 0,.v (.int .i64 a)] k λo y=>bX d c (qH a b).2 y/\ ∃h,(h= .nil->(qH a b).1= [])/\o= .J ((qH a b).1.map ak) h:=by
 refine bf hm Ou a9s ?_;simp -dsimp -implicitDefEqProofs (disch:=first|omega|assumption|(simp only[aE,Nat.reduceAdd];try omega)) only[go_sem,simprocAttr];refine ai (sr d k c a r b x) ?_;rintro o z ⟨C,rfl⟩;have P:=xk a b;simp -dsimp -implicitDefEqProofs (disch:=first|omega|assumption|(simp only[aE,Nat.reduceAdd];try omega)) only[go_sem,simprocAttr];refine ai (CL d z c (fA a b).2 (fA a b).1 a9r C) ?_;rintro o D ⟨E,h,F,rfl⟩;simp -dsimp -implicitDefEqProofs (disch:=first|omega|assumption|(simp only[aE,Nat.reduceAdd];try omega)) only[go_sem,simprocAttr];have S:((dt (fA a b).2 (fA a b).1).1.getD []).length<=1048576:=by grind[dt,fA,qG]
 refine ai (xg _ h D F a9r) ?_;rintro _ G ⟨L,p,rfl⟩;simp -dsimp -implicitDefEqProofs (disch:=first|omega|assumption|(simp only[aE,Nat.reduceAdd];try omega)) only[go_sem,simprocAttr];refine⟨G,U.a1,E.mono p.sub,L,?_,rfl⟩;rintro rfl;have:=p.2;simpa[qH] using this
def jP:Nat->Rd->List Int->List Int×Rd
 |0,a,acc=>(acc,a)
 |b+1,a,acc=>jP b (iE a).2 (if(iE a).2.e=0 then acc++ [(iE a).1]else acc)
def hY (c:Nat) (d:Rd):List Int×Rd:=
 let a:=du d
 let b:=jP a.1.toNat (if c<a.1.toNat then me a.2 10 else a.2) []
 if b.2.e=0 then b else([],b.2)
theorem CX: ∀(c:Nat) (a:Rd) (b:List Int),(jP c a b).1.length<=b.length+c
 |0,a,b=>by simp[jP]
 |c+1,a,b=>by
  rw[jP];have:=CX c (iE a).2 (if(iE a).2.e=0 then b++ [(iE a).1]else b);grind
theorem xl (b:Nat) (a:Rd):(hY b a).1.length<=255:=by unfold hY;have c:=CX (du a).1.toNat (if b<(du a).1.toNat then me (du a).2 10 else(du a).2) [];have d:=(du a).1.toNat_lt;grind
def bX.full {c:Rd} (d:bX t e c f):bX (f.del e) e c f:=by
 obtain⟨h,k⟩:=d.cell;refine⟨h,λo p a=> ?_⟩;by_cases b:o=e
 .subst b;rw[U.ah]at a;rw[k];exact a
 .rw[U.an _ _ b,U.eJ _ b]at a;exact a
def CY (d:(f.set e Y).sub t) (h:f e=none):f.sub (t.del e):=λb k a=>by
 have c:b≠e:=by rintro rfl;rw[h]at a;cases a
 rw[U.eJ _ c];exact d b k (by rw[U.an _ _ c];exact a)
def dm.step {d o p:U}{a r:Nat}{E x:Rd}{F:Own}{y:List R}{h:Own} (z:bj (d.set a (hV E F)) o r y h) (G:d a=none) (L:bX (o.del a) a x p): ∃k,bj (d.set a (hV x k)) p r y h:=by
 obtain⟨k,C⟩:=L;refine⟨k,?_,?_⟩
 .refine U.aq ?_ C;exact U.lh (CY z.sub G)
 .have b:=z.2;cases h with
  |buf P S=>
   have c:P≠a:=by rintro rfl;have:=b.1;rw[U.ah]at this;cases this
   have D:=b.1;rw[U.an _ _ c]at D;exact⟨by rw[U.an _ _ c];exact D,C _ _ (by rw[U.an _ _ c,U.eJ _ c];exact b.2)⟩
  | _=>exact b
variable{g A e1:List R}{N e5 h5:Own}
def dm.rs {a:Rd} (b:bj (f.set e (hV a N)) t i g e5):bX f e a t:=⟨N,b.sub⟩
theorem pj (j d:U) (c:Nat) (a:Nat) (f:a<=1048576) (b:Rd) (s:j c=none) (e:bX j c b d):
  AC Tryz.prog 207 [.ptr c 0,.v (.int .i64 a)] d λi l=>bX j c (hY a b).2 l/\ ∃k,i= .J (ad (hY a b).1) k:=by
 refine bf hm Pk a9s ?_;refine eE ?_;refine ai (ph j d c b e) ?_;rintro i n ⟨d,rfl⟩;unfold hY;generalize du b=b at*;obtain⟨g,f⟩:=b;simp only at d|-;have b:=g.toNat_lt;have o:IntKind.i64.wrap (g.toNat:Int)=g.toNat:=wrap_i64 a9r a9r;have e: ∃m,m=(if a<g.toNat then me f 10 else f):=⟨_,rfl⟩;obtain⟨m,b⟩:=e;rw[<-b];refine aF @o ?_;refine BV (λh l=>h 0= .ptr c 0/\h 5= .v (.int .i64 g.toNat)/\bX j c m l) ?_ ?_ ?_
 .intro e;have p:a<g.toNat:=by have:=of_decide_eq_true e;omega
  rw[if_pos p]at b;refine eE ?_;refine ai (sn j n c f 10 d) ?_;intro i f n;refine aF @o ?_;rw[b];exact n
 .intro e;have p: ¬a<g.toNat:=by have:=of_decide_eq_false e;omega
  rw[if_neg p]at b;refine aF @o ?_;rw[b];exact d
 rintro h f ⟨o,p,n⟩;generalize g.toNat=f at*;refine aF (c2 @o @p) ?_;refine cv (λh l=> ∃(b:Nat) (a:Rd) (d:List Int) (q k:Own),b<=f/\jP (f - b) a d=jP f m []/\d.length<=b/\bj (j.set c (hV a k)) l 1 (ad d) q/\h 0= .ptr c 0/\h 6= .J (ad d) q/\h 16= .v (.int .i64 f)/\h 17= .v (.int .i64 b))
  (λh _=>match h 17 with| .v (.int _ g)=>(f - g).toNat| _=>0) ?_ ?_
 .obtain⟨k,n⟩:=n;refine⟨0,m,[],.nil,k,a9r,rfl,a9s,bj.nil n,?_⟩;refine aF (c2 @o @p) ?_;rfl
 .rintro g o ⟨b,a,d,q,k,g,g,h,n,h,j,k,l⟩;by_cases r:(b:Int)<f
  .refine aF (bp @h @j @k @l @r) ?_;refine ai (XJ (o.del c) o c a (dm.rs n).full) ?_;rintro i c ⟨p,rfl⟩;have c:jP (f - b) a d=jP (f -(b+1)) (iE a).2 (if(iE a).2.e=0 then d++ [(iE a).1]else d):=by rw[show f - b=(f -(b+1))+1 by omega];rfl
   rw[c]at g;obtain⟨u,t⟩:=dm.step n s p;generalize iE a=o at*;obtain⟨i,c⟩:=o;simp only at p t g|-;obtain⟨s,o⟩:=p.cell;have p:aY false 1 ([R.J (c.b.map ak) s,.v (.int .i64 c.e)].drop 1)= .v (.int .i64 c.e):=rfl;by_cases e:c.e=0
   .rw[if_pos e]at g;refine aF (cd @h @j @k @l (U.af o) @p @e) ?_;refine cJ U.a1 (by simp[aN,R.cells]) λv v v=> ?_;refine aF (aM @h @j @k @l) ?_;refine dq (t.mono v.sub) (by simp[aN,ad,R.cells]) (by simp[aN,R.cells]) (by simp[bI];omega) (by simp[bI];omega) λv t t=> ?_;refine aF (aM @h @j @k @l) ?_;have w:ad d++ [R.v (.int .i64 i)]=ad (d++ [i]):=by simp[ad]
    rw[w]at t|-;exact⟨⟨b+1,c,d++ [i],v,u,a9r,g,a9t,t,rfl,a9s⟩,a9r⟩
   .rw[if_neg e]at g;refine aF (cd @h @j @k @l (U.af o) @p @e) ?_;grind
  .obtain rfl:b=f:=a9r;rw[a7j]at g;have c:jP b m []=(d,a):=by rw[<-g];rfl
   rw[c];obtain⟨s,o⟩:=(dm.rs n).cell;have p:aY false 1 ([R.J (a.b.map ak) s,.v (.int .i64 a.e)].drop 1)= .v (.int .i64 a.e):=rfl;by_cases e:a.e=0
   .refine aF (bw @h @j @k @l @r (U.af o) @p @e) ?_;exact⟨_,U.a1,dm.rs n,q,rfl⟩
   .refine aF (bw @h @j @k @l @r (U.af o) @p @e) ?_;exact⟨_,U.a1,dm.rs n,.nil,rfl⟩
def headD (b:List (List UInt8)) (a:Nat):List UInt8:=if a=0 then u9 else b.getD (a - 1) u9
def XM (a:Int) (b c:List UInt8) (d:Int) (h:R):List R:=xh a b c++ [.v (.int .i64 d),h]
structure xm where
 o:iD
 st:Int
 xn:Option (iD×iD)
def xm.ok (a:xm):Prop:=a.o.ok/\ ∀b c,a.xn=some (b,c)->b.ok/\c.ok
def CZ (a:iD) (b:Int) (c:R):List R:=XM a.n a.h a.d b c
def FS (c:U) (d:Nat) (a:xm) (h:U):Prop:=
 match a.xn with
 |none=>(c.set d (.cells (CZ a.o a.st (.v (.pointer none))))).sub h
 |some (k,o)=> ∃b,c b=none/\b≠d/\((c.set d (.cells (CZ a.o a.st (.ptr b 0)))).set b (.cells (k.C++o.C))).sub h
def XN (c d:U) (a:Nat) (b:List UInt8) (h:Bool) (o:cE c a b d) (p:b.length+1<=70368744177664):
  AC Tryz.prog 290 [.ptr a 0,.v (.bool h)] d λ_ r=>cE c a (b++ [if h then 1 else 0]) r:=by
 refine bf hm Ro a9s ?_;cases h
 .refine aF (c2 @ba @bb) ?_;refine ai (mY c d a b 0 o p) ?_;intro x y k;refine aF (c2 @ba @bb) ?_;exact⟨_,U.a1,k⟩
 .refine aF (c2 @ba @bb) ?_;refine ai (mY c d a b 1 o p) ?_;intro x y k;refine aF (c2 @ba @bb) ?_;exact⟨_,U.a1,k⟩
theorem D0 (a c:List UInt8) (D E:Own) (h:U) (f:a.length<=70368744177664):
  AC Tryz.prog 112 [.J (a.map ak) D,.J (c.map ak) E] h λL z=>z=h/\L= .v (.bool (decide (a=c))):=by
 refine bf hm Mz a9s ?_;by_cases P:a.length=c.length
 .have k:(a.length:Int)=c.length:=a9r;refine aF (aI @k @ba @bb) ?_;rw[<-k];refine cv (λd z=> ∃b:Nat,b<=a.length/\z=h/\d 0= .J (a.map ak) D/\d 1= .J (c.map ak) E/\d 12= .v (.int .i64 a.length)/\d 13= .v (.int .i64 b)/\a.take b=c.take b)
   (λd _=>match d 13 with| .v (.int _ S)=>(a.length - S).toNat| _=>0) ⟨0,a9r,rfl,?_⟩ ?_
  .exact gX (aI @a6s.{0} @ba @bb)
  .rintro d F ⟨b,g,rfl,o,p,r,x,i⟩;by_cases y:(b:Int)<a.length
   .have T:b<a.length:=a9r;have V:b<c.length:=a9r;have W:eD 1 (a.map ak)[b]? =some (.bW [.v (.int .u8 (a.getD b 0).toNat)]):=by rw[wN T];rfl
    have e:eD 1 (c.map ak)[b]? =some (.bW [.v (.int .u8 (c.getD b 0).toNat)]):=by rw[wN V];rfl
    simp -dsimp -implicitDefEqProofs (disch:=first|omega|assumption|(simp only[aE,Nat.reduceAdd];try omega)) only[o,p,r,x,y,hn,W,e,go_sem,simprocAttr,ba,bb];by_cases G:a.getD b 0=c.getD b 0
    .have C:(((a.getD b 0).toNat:Int)=(c.getD b 0).toNat)=True:=by rw[G];simp
     simp -dsimp -implicitDefEqProofs (disch:=first|omega|assumption|(simp only[aE,Nat.reduceAdd];try omega)) only[o,p,r,x,y,C,go_sem,simprocAttr,ba,bb];refine⟨⟨b+1,a9r,a9s,?_⟩,a9r⟩;grind[List.take_succ,List.getElem?_eq_getElem,List.getD]
    .have C:(((a.getD b 0).toNat:Int)=(c.getD b 0).toNat)=False:=by simp only[eq_iff_iff,iff_false];grind[UInt8.toNat_inj]
     simp -dsimp -implicitDefEqProofs (disch:=first|omega|assumption|(simp only[aE,Nat.reduceAdd];try omega)) only[o,p,r,x,y,C,go_sem,simprocAttr,ba,bb];refine⟨F,U.a1,rfl,?_⟩;have:a≠c:=by rintro rfl;exact G rfl
     simp[this]
   .obtain rfl:b=a.length:=a9r;simp -dsimp -implicitDefEqProofs (disch:=first|omega|assumption|(simp only[aE,Nat.reduceAdd];try omega)) only[o,p,r,x,y,go_sem,simprocAttr,ba,bb];refine⟨F,U.a1,rfl,?_⟩;grind
 .have k:((a.length:Int)=c.length)=False:=by grind
  refine aF (aI @k @ba @bb) ?_;refine⟨h,U.a1,rfl,?_⟩;have:a≠c:=by rintro rfl;exact P rfl
  simp[this]
def nc (a:Rd):Bool×Rd:=(decide ((du a).1=1),if 1<(du a).1.toNat then me (du a).2 21 else(du a).2)
theorem XO (d h:U) (b:Nat) (c:Rd) (y:bX d b c h):
  AC Tryz.prog 206 [.ptr b 0] h λk z=>bX d b (nc c).2 z/\k= .v (.bool (nc c).1):=by
 refine bf hm Ph a9s ?_;refine aF (c2 @ba @bb) ?_;refine ai (ph d h b c y) ?_;rintro k C ⟨o,rfl⟩;unfold nc;generalize du c=D at*;obtain⟨a,E⟩:=D;simp only at o|-;have r:decide ((a.toNat:Int)=1)=decide (a=1):=by
  have:((a.toNat:Int)=1)↔a=1:=by rw[<-a5I];grind
  simp only[this]
 by_cases x:1<a.toNat
 .have p:(1:Int)<a.toNat:=a9r;refine aF (aI @p @ba @bb) ?_;refine ai (sn d C b E 21 o) ?_;intro k G F;rw[if_pos x];refine aF (aI @r @ba @bb) ?_;exact⟨_,U.a1,F⟩
 .have p: ¬(1:Int)<a.toNat:=a9r;rw[if_neg x];refine aF (aM @p @r @ba @bb) ?_;exact⟨_,U.a1,o⟩
structure ay where
 sum:List UInt8
 aV:List Int
 aW:List Int
 live:Int
 size:Int
 key:List Int
 deriving DecidableEq
def aA:ay:=⟨List.replicate 32 0,[],[],0,0,[]⟩
structure c5 where
 kind:UInt8
 rows:List (List Int×Bool)
 kids:List ay
 deriving DecidableEq
def cU (b c:List Int) (a:Nat):Bool:=decide (1<=a)&&decide (a<=8)&&decide (b.length=a)&&decide (c.length=a)&&(List.range a).all λd=>decide (b.getD d 0<=c.getD d 0)
def fp (b:Nat) (a:ay):Bool:=
 decide (a=aA)||(!(decide (a.size<1)||decide (1048576<a.size)||decide (a.live<0)||decide (a.size<a.live))&&
  if a.live=0 then decide (a.aV.length=0)&&decide (a.aW.length=0)else cU a.aV a.aW b)
def dX (c:Nat) (a:c5):Bool:=
  a.rows.all (λd=>decide (d.1.length=c))&&a.kids.all (fp c)&&
  (if a.kind=1 then decide (a.rows.length=1)&&decide (a.kids.length=2)&&a.kids.all (λb=>decide (b.key.length=0))
   else if a.kind=2 then decide (1<=a.rows.length)&&decide (a.rows.length<=4)&&decide (a.kids.length=0)&&a.rows.all (λd=>d.2)
   else if a.kind=3 then decide (a.rows.length=0)&&decide (2<=a.kids.length)&&decide (a.kids.length<=4)&&a.kids.all (λb=>decide (b.key.length=c)&& !decide (b=aA))
   else false)
def gr (a:List Int×Bool):List UInt8:=(if a.2=true then(1:UInt8)else 0)::dz a.1
def ei (a:ay):List UInt8:=a.sum++(fo a.live.toNat++(fo a.size.toNat++(dz a.aV++(dz a.aW++dz a.key))))
def dc (a:c5):List UInt8:=a.kind::UInt8.ofNat a.rows.length::(a.rows.flatMap gr++UInt8.ofNat a.kids.length::a.kids.flatMap ei)
def ss (b:Nat) (a:c5):Option (List UInt8):=if dX b a=true then some (dc a)else none
def cV (b a:List Int×List Int):List Int×List Int:=
 if cU b.1 b.2 b.1.length=true then
  (if cU a.1 a.2 a.1.length=true then(if b.1.length=a.1.length then(List.zipWith min b.1 a.1,List.zipWith max b.2 a.2)else([],[]))else b)
 else if cU a.1 a.2 a.1.length=true then a else([],[])
def gu (a:List Int):List Int×List Int:=if 1<=a.length/\a.length<=8 then(a,a)else([],[])
structure gg where
 live:Int
 size:Int
 aQ:List Int×List Int
def dQ (a:gg) (b:List Int×Bool):gg:=if b.2=true then {a with live:=a.live+1,aQ:=cV a.aQ (gu b.1)}else a
def ew (b:gg) (a:ay):gg:=⟨b.live+a.live,b.size+a.size,cV b.aQ (a.aV,a.aW)⟩
def eG (a:c5):gg:=a.kids.foldl ew (a.rows.foldl dQ ⟨0,a.rows.length,([],[])⟩)
def keyOf (a:c5):List Int:=if a.kind=2 then(a.rows.headD ([],false)).1 else if a.kind=3 then(a.kids.headD aA).key else []
def eV (a:List UInt8):List UInt8:=fl (preB 80 [a])
def eW (a:c5):ay:=⟨eV (dc a),(eG a).aQ.1,(eG a).aQ.2,(eG a).live,(eG a).size,keyOf a⟩
def fK (b:Nat) (a:c5):Option ay:=if dX b a=true then(if 1048576<(eG a).size then none else some (eW a))else none
def jf (b:Nat) (a:Rd):(List Int×Bool)×Rd:=(((hY b (nc a).2).1,(nc a).1),(hY b (nc a).2).2)
def hZ (a:Nat) (p:Rd):ay×Rd:=
 let b:=mZ p
 let c:=fA 1048576 b.2
 let d:=fA 1048576 c.2
 let h:=hY a d.2
 let k:=hY a h.2
 let o:=hY a k.2
 (⟨b.1,h.1,k.1,(c.1:Int),(d.1:Int),o.1⟩,o.2)
def fB {b:Type} (c:Rd->b×Rd):Nat->Rd->List b->List b×Rd
 |0,a,acc=>(acc,a)
 |d+1,a,acc=>fB c d (c a).2 (acc++ [(c a).1])
def pk (a:Nat) (o:List UInt8):c5×Rd:=
 let b:=du ⟨o,0⟩
 let c:=du b.2
 let d:=fB (jf a) c.1.toNat c.2 []
 let h:=du d.2
 let k:=fB (hZ a) h.1.toNat h.2 []
 (⟨b.1,d.1,k.1⟩,ob k.2)
def pn (a:Nat) (b:List UInt8):Option c5:=
 if(pk a b).2.e=0/\dX a (pk a b).1=true/\dc (pk a b).1=b then some (pk a b).1 else none
abbrev cL (b:List Int):Prop:= ∀a∈b,-9223372036854775808<=a/\a<9223372036854775808
theorem qI (a b:List UInt8):dt ⟨a++b,0⟩ a.length=(some a,⟨b,0⟩):=by unfold dt;simp
theorem qJ (a:UInt8) (b:List UInt8):du ⟨a::b,0⟩=(a,⟨b,0⟩):=by have:=qI [a] b;grind[List.length_singleton,List.singleton_append,du]
def XP (a:Nat) (b:a<18446744073709551616):fm (cK a)=a:=by simp only[fm,cK,a5Q,a7W,a5N,a5E];omega
theorem XQ (a:Int) (b: -9223372036854775808<=a) (c:a<9223372036854775808):(BitVec.ofNat 64 (cf a)^^^9223372036854775808#64).toInt=a:=by grind[BitVec.ofInt,cf,BitVec.setWidth_eq,BitVec.xor_assoc,BitVec.xor_self,BitVec.xor_zero,BitVec.toInt_ofInt]
def XR (a:Int) (b:List UInt8) (d: -9223372036854775808<=a) (h:a<9223372036854775808):iE ⟨hU a++b,0⟩=(a,⟨b,0⟩):=by have c:=qI (hU a) b;rw[CJ]at c;unfold iE;rw[c];simp only;rw[hU,XP _ (by exact(BitVec.ofInt 64 a^^^BitVec.ofInt 64 9223372036854775808).isLt),XQ a d h]
theorem D1 (a b:List UInt8) (c:a.length=32):mZ ⟨a++b,0⟩=(a,⟨b,0⟩):=by grind[qI,mZ]
def XS (a:Bool) (b:List UInt8):nc ⟨(if a=true then(1:UInt8)else 0)::b,0⟩=(a,⟨b,0⟩):=by unfold nc;rw[qJ];cases a<;>rfl
theorem ud (a:Nat) (c:a<=1048576) (b:List UInt8):fA 1048576 ⟨fo a++b,0⟩=(a,⟨b,0⟩):=by have d:=qI (fo a) b;grind[kB,fA,fm,fo,UInt8.toNat_ofNat',Nat.shiftRight_eq_div_pow]
def D2: ∀(a c:List Int) (b:List UInt8),cL a->jP a.length ⟨a.flatMap hU++b,0⟩ c=(c++a,⟨b,0⟩)
 | [],c,b,_=>by simp[jP]
 |d::a,c,b,h=>by
  have k:=h d a9s;rw[a4O,jP,a5n,a4W,XR d _ k.1 k.2];simp only[if_true];rw[D2 a _ b (λo p=>h o (by simp[p]))];simp
def po (a:List Int) (b:Nat) (c:List UInt8) (o:a.length<=b) (p:a.length<=255) (d:cL a):hY b ⟨dz a++c,0⟩=(a,⟨c,0⟩):=by
 have h:(UInt8.ofNat a.length).toNat=a.length:=by rw[a5N];omega
 unfold hY;have k: ¬b<a.length:=a9r;rw[dz,a5K,qJ];simp only[h,k,if_false,D2 a [] c d];simp
def XT (a:List Int×Bool) (b:Nat) (c:List UInt8) (d:a.1.length<=b) (h:a.1.length<=255) (k:cL a.1):jf b ⟨gr a++c,0⟩=(a,⟨c,0⟩):=by unfold jf;rw[gr,a5K,XS,po _ _ _ d h k]
structure ay.In (d:Nat) (k:ay):Prop where
 sum:k.sum.length=32
 aV:cL k.aV
 aW:cL k.aW
 key:cL k.key
 od:k.aV.length<=d
 oe:k.aW.length<=d
 og:k.key.length<=d
 nd:0<=k.live
 live:k.live<=1048576
 nf:0<=k.size
 size:k.size<=1048576
def XU (b:ay) (c:Nat) (x:c<=255) (d:List UInt8) (a:b.In c):hZ c ⟨ei b++d,0⟩=(b,⟨d,0⟩):=by have y:=a.live;have h:=a.nd;have z:=a.size;have k:=a.nf;have o:=a.od;have p:=a.oe;have r:=a.og;unfold hZ;simp only[ei,a4W];rw[D1 _ _ a.sum];simp only[];rw[ud _ a9r];simp only[];rw[ud _ a9r];simp only[];rw[po _ _ _ o a9r a.aV];simp only[];rw[po _ _ _ p a9r a.aW];simp only[];rw[po _ _ _ r a9r a.key];rw[a6q h,a6q k]
def xo {d:Type} (k:Rd->d×Rd) (o:d->List UInt8) (p:d->Prop) (r: ∀a b,p a->k ⟨o a++b,0⟩=(a,⟨b,0⟩)): ∀(c h:List d) (b:List UInt8),(∀a∈c,p a)->fB k c.length ⟨c.flatMap o++b,0⟩ h=(h++c,⟨b,0⟩)
 | [],h,b,_=>by simp[fB]
 |a::c,h,b,x=>by
  rw[a4O,fB,a5n,a4W,r a _ (x a a9s)];rw[xo k o p r c _ b (λy z=>x y (by simp[z]))];simp
structure c5.In (d:Nat) (n:c5):Prop where
 ok:dX d n=true
 rows: ∀r∈n.rows,cL r.1
 kids: ∀k∈n.kids,k.In d
variable{e0:c5}
theorem ln (a:dX e e0=true):(∀b∈e0.rows,b.1.length=e)/\e0.rows.length<=4/\e0.kids.length<=4:=by unfold dX at a;grind
def D3 (k:e<=255) (b:e0.In e):pn e (dc e0)=some e0:=by
 obtain⟨o,z,C⟩:=ln b.ok;have p:(UInt8.ofNat e0.rows.length).toNat=e0.rows.length:=by rw[a5N];omega
 have r:(UInt8.ofNat e0.kids.length).toNat=e0.kids.length:=by rw[a5N];omega
 have x:pk e (dc e0)=(e0,⟨[],0⟩):=by unfold pk dc;simp only[qJ,p];rw[xo (jf e) gr (λa=>a.1.length=e/\cL a.1) (λa d c=>XT a e d a9r a9r c.2) e0.rows [] _ (λa c=>⟨o a c,b.rows a c⟩)];simp only[qJ,r];have:=xo (hZ e) ei (λh=>h.In e) (λh d y=>XU h e k d y) e0.kids [] [] b.kids;rw[a5T]at this;rw[this];simp[ob]
 unfold pn;rw[x];simp[b.ok]
def ue (a:List (List UInt8)) (b:Nat) (c:List UInt8):List Nat:=(List.range b).filter λd=>decide (fl (a.getD d [])=c)
def XV (a:List Nat):List R:=a.map λb=> .v (.int .i64 ((b:Nat):Int))
abbrev uf:List (Nat×c6):= [(32,.int .u8)]
theorem pq (a:B.length=32):dC uf (B.map ak):=by
 refine⟨by simp[a],λc b=> ?_,?_⟩
 .rw[a4K (by simp[a])]at b;obtain⟨d,_,rfl⟩:=a5f.1 b;rfl
 .show List.drop 32 _= [];simp_all
structure PB (k p:U) (r:Nat) (b:List (List UInt8)) (n:Nat) (h:R->Option R):Prop where
 sub:k.sub p
 new:k r=none
 val: ∀d,d.length=32->(ue b n d= []/\h (cM d)=none)\/(ue b n d≠ []/\ ∃a c,h (cM d)=some (.J (XV (ue b n d)) (.buf a c))/\k a=none/\a≠r/\p a=some (.buf 1 (ue b n d).length c))
 inj: ∀d o x y a c z,d.length=32->o.length=32->h (cM d)=some (.J x (.buf a c))->h (cM o)=some (.J y (.buf a z))->d=o
theorem su (a:List UInt8) (d:Own) (b:U) (D:a.length<=70368744177664):
  AC Tryz.prog 100 [.J (a.map ak) d] b λk o=> ∃h,bj b o 1 (a.map ak) h/\k= .J (a.map ak) h:=by
 refine mU λE=> ?_;have p:d= .nil->a= []:=λF=>by simp_all
 refine bf hm Mb a9s ?_;simp -dsimp -implicitDefEqProofs (disch:=first|omega|assumption|(simp only[aE,Nat.reduceAdd];try omega)) only[go_sem,simprocAttr,-List.reduceReplicate,↓o9];refine oa (λc=>by rw[p c];rfl) (λc=> ?_) ?_
 .have r:a= []:=by simpa using c
  subst r;refine ax @a5y ?_;exact⟨b,U.a1,.nil,bj.nil U.a1,rfl⟩
 .refine cp ?_;refine cJ U.a1 (by simp[aN]) λG L x=> ?_;refine cp ?_;refine mR (B:= []) x a9t λy z C=> ?_;refine ax @a5d.{0} ?_;exact⟨z,U.a1,y,by simpa using C,rfl⟩
def XW (a b:List UInt8) (d h:Own) (c:U):
  AC Tryz.prog 337 [.J (a.map ak) d,.J (b.map ak) h] c λk o=>o=c/\k= .v (.bool (decide (a=b))):=by
 refine bf hm Sg a9s ?_;have p:mT (.J (a.map ak) d)=some (bd a):=p6;have r:mT (.J (b.map ak) h)=some (bd b):=p6;refine ax (aI @p @r @qv) ?_;exact⟨c,U.a1,rfl⟩
def XX (a:List UInt8) (b:Own) (c:U) (C:a.length<=1000000000000):
  AC Tryz.prog 291 [.J (a.map ak) b] c λh k=> ∃d,bj c k 1 ((preB 80 [a]).map ak) d/\h= .J ((preB 80 [a]).map ak) d:=by
 refine bf hm Rq a9s ?_;refine cp ?_;refine cJ U.a1 (by simp[aN,R.cells]) λo p r=> ?_;refine cp ?_;refine ai (Xq 80 [(a,b)] o (by simp[preB,chunk,cK];omega) p) ?_;rintro _ x ⟨y,z,rfl⟩;refine cp ?_;exact⟨x,U.a1,y,z.base r.sub,rfl⟩
def oh (a:List UInt8):(eV a).length=32:=sl _
def D4 (a:List UInt8) (d:Own) (c:U) (p:a.length<=1000000000000):
  AC Tryz.prog 211 [.J (a.map ak) d] c λr x=>x=c/\r=cM (eV a):=by
 refine bf hm Ps a9s ?_;refine cp ?_;refine aP λE h=> ?_;refine cp ?_;refine ai (XX a d _ p) ?_;rintro _ F ⟨y,k,rfl⟩;have z:=k.sub _ _ (U.ah _ _ _);refine cp ?_;refine ai (Xv _ y (by simp[preB,chunk,cK];omega) _) ?_;rintro _ _ ⟨rfl,rfl⟩;have o:(fl (preB 80 [a])).length=32:=oh a;have C: ∀b,(cM b).cells=b.map ak:=λ_=>rfl;rw[show eV a=fl (preB 80 [a])from rfl];generalize fl (preB 80 [a])=b at*;have D:(b.map ak).length=32:=by simp[o]
 refine ax (aM @C @D @o (U.aJ z)) ?_;refine⟨c,U.ae (U.aq (U.ae U.a1 h) k.sub) h,rfl,?_⟩;rw[a4K a9r];rfl
structure ag where
 m:List UInt8->Option (List UInt8)
 a:List UInt8
 b:List UInt8
 one:Bool
def ag.new:ag:=⟨λ_=>none,[],[],false⟩
def eO (c:ag) (b:List UInt8):ag:=
 match c.m (eV b)with
 |none=> {c with m:=λd=>if d=eV b then some b else c.m d}
 |some h=>if c.one=false/\h≠b then {c with a:=h,b:=b,one:=true}else c
abbrev D5 (b:Nat) (a:ag) (c d:Own):List R:= [.gU b,.J (a.a.map ak) c,.J (a.b.map ak) d,.v (.bool a.one)]
structure bC (h:U) (l k:Nat) (a:ag):Prop where
 at_: ∃ht dT,h l=some (.cells (D5 k a ht dT))
 mp: ∃c,qu h k uf c/\ ∀d,d.length=32->match a.m d with
  |none=>c (cM d)=none
  |some b=>b.length<=1000000000000/\ ∃o,c (cM d)=some (.J (b.map ak) o)
 sv:a.a.length<=1000000000000
 sw:a.b.length<=1000000000000
def Ext (c d:Nat) (h k:U):Prop:= ∀a b,a≠c->a≠d->h a=some b->k a=some b
theorem Ext.refl:Ext e i f f:=λ_ _ _ _ a=>a
theorem Ext.of {l lM:Nat}{s:U} (a:s.sub f):Ext l lM s f:=λb c _ _ d=>a b c d
theorem Ext.trans (h:Ext e i f t) (k:Ext e i t e7):Ext e i f e7:=λa b c d o=>k a b c d (h a b c d o)
variable{H:ag}
def bC.ne (a:bC f e i H):e≠i:=by obtain⟨d,h,c⟩:=a.at_;obtain⟨k,⟨o,p,b,_⟩,_⟩:=a.mp;rintro rfl;rw[c]at b;cases b
def bC.mono (a:bC f e i H) (b:f.sub t):bC t e i H:=by obtain⟨c,d,h⟩:=a.at_;obtain⟨k,⟨o,p,r,x⟩,y⟩:=a.mp;exact⟨⟨c,d,b _ _ h⟩,⟨k,⟨o,p,b _ _ r,x⟩,y⟩,a.sv,a.sw⟩
def bC.other (a:bC f e i H) (b:t e=f e) (c:t i=f i):bC t e i H:=by obtain⟨d,h,k⟩:=a.at_;obtain⟨o,⟨p,r,x,y⟩,z⟩:=a.mp;exact⟨⟨d,h,by rw[b];exact k⟩,⟨o,⟨p,r,by rw[c];exact x,y⟩,z⟩,a.sv,a.sw⟩
def XY:(R.gU e).cells= [.gU e]:=rfl
def XZ (b:U):AC Tryz.prog 63 [] b λE k=> ∃a c,b a=none/\b c=none/\E= .ptr a 0/\bC k a c ag.new/\b.sub k:=by
 refine bf hm Ld a9s ?_;refine cp ?_;refine aP λc o=> ?_;have F: ∀G p r h x:R,putAt [G,p,r,h] 0 [x]= [x,p,r,h]:=λ_ _ _ _ _=>rfl;have y: ∀z,(R.agg z).cells=z:=λ_=>rfl;refine ax (aI @XY @F @y) ?_;refine aP λa d=> ?_;refine ax @y ?_;have C:a≠c:=by rintro rfl;rw[U.ah]at d;cases d
 have D:b a=none:=by rw[U.an _ _ C]at d;exact d
 refine⟨_,U.a1,a,c,D,o,rfl,⟨⟨.nil,.nil,by rw[U.ah];rfl⟩,⟨_,⟨[],0,by rw[U.an _ _ (a4S C),U.ah],lk.new⟩,λh _=>rfl⟩,by simp[ag.new],by simp[ag.new]⟩,U.ae (U.ae U.a1 o) D⟩
def iF:(cM B).cells=B.map ak:=rfl
def Y0 (d:U) (z C:Nat) (h:ag) (F:bC d z C h) (a:List UInt8) (k:a.length=32):
  AC Tryz.prog 136 [.ptr z 0,cM a] d λD G=>d.sub G/\match h.m a with
   |none=>D= .aL [.J [] .nil,.v (.int .i64 9)]
   |some o=> ∃p,D= .aL [.J (o.map ak) p,.v (.int .i64 0)]:=by
 obtain⟨⟨s,t,L⟩,⟨c,P,b⟩,_,_⟩:=F;have b:=b a k;have r:(a.map ak).length=32:=by simp[k]
 refine bf hm Na a9s ?_;refine ax (c2 @iF @r) ?_;refine aP λS T=> ?_;have x:=U.ae (Y:= .cells (a.map ak)) (U.a1 (f:=d)) T;have V:qu (d.set S (.cells (a.map ak))) C uf c:=by obtain⟨W,e,f,g⟩:=P;exact⟨W,e,x _ _ f,g⟩
 have i:=x _ _ L;have j:aY true 32 (a.map ak)=cM a:=by rw[aY,if_pos rfl,a4K a9r];rfl
 refine ax (bp @iF @r @k (U.af i) @j) ?_;refine Cf V (pq k) (λv y=> ?_) (λE=> ?_)
 .cases hm:h.m a with
  |none=>rw[hm]at b;rw[show c (.agg (a.map ak))=c (cM a)from rfl,b]at y;cases y
  |some o=>rw[hm]at b;obtain⟨l,p,b⟩:=b;rw[show c (.agg (a.map ak))=c (cM a)from rfl,b]at y;obtain rfl:=a4I y;refine ax (c2 @iF @r) ?_;refine ai (su o p _ a9r) ?_;rintro _ m ⟨n,q,rfl⟩;refine cp ?_;exact⟨m,U.a1,U.aq x q.sub,n,rfl⟩
 .cases hm:h.m a with
  |none=>refine ax (c2 @iF @r) ?_;exact⟨_,U.a1,x⟩
  |some o=>rw[hm]at b;obtain⟨l,p,b⟩:=b;rw[show c (.agg (a.map ak))=c (cM a)from rfl,b]at E;cases E
def Y1 (b:U) (k y:Nat) (a:ag) (c:bC b k y a):
  AC Tryz.prog 56 [.ptr k 0] b λz C=>b.sub C/\ ∃d h,z= .aL [.J (a.a.map ak) d,.J (a.b.map ak) h,.v (.bool a.one)]:=by
 have L:=c.sv;have P:=c.sw;obtain⟨d,h,o⟩:=c.at_;refine bf hm L1 a9s ?_;refine ax (U.af o) ?_;refine ai (su a.a d _ a9r) ?_;rintro _ S ⟨D,p,rfl⟩;have r:=p.sub _ _ o;refine ax (U.af r) ?_;refine ai (su a.b h _ a9r) ?_;rintro _ E ⟨F,x,rfl⟩;have G:=x.sub _ _ r;refine ax (U.af G) ?_;exact⟨E,U.a1,U.aq p.sub x.sub,D,F,rfl⟩
theorem Y2 (k:U) (f d:Nat) (e:ag) (r:bC k f d e) (b:List UInt8) (w:Own) (M:b.length<=1000000000000):
  AC Tryz.prog 300 [.ptr f 0,.J (b.map ak) w] k λc h=>c=cM (eV b)/\bC h f d (eO e b)/\Ext f d k h:=by
 have X:=r.ne;refine bf hm RA a9s ?_;refine cp ?_;refine aP λo n=> ?_;have p:=U.ae (Y:= .cells (List.replicate 32 (.v (.int .u8 0)))) (U.a1 (f:=k)) n;have aM:(k.set o (.cells (List.replicate 32 (.v (.int .u8 0))))) o= _:=U.ah _ _ _;refine cp ?_;generalize k.set o (.cells (List.replicate 32 (.v (.int .u8 0))))=c at*;refine ai (D4 b w _ M) ?_;rintro _ u ⟨rfl,rfl⟩;refine cp ?_;refine aP λx i=> ?_;have c:o≠x:=by rintro rfl;rw[aM]at i;cases i
 have g:=oh b;have y: ∀c,eO e b=eO e b->c=eV b->c.length=32:=λc _ l=>by rw[l];exact g
 generalize N:eV b=c at*;have j:(c.map ak).length=32:=by simp[g]
 have A:putAt (List.replicate 32 (R.v (.int .u8 0))) 0 (c.map ak)=c.map ak:=by rw[putAt,a6s,a5d,j,a5x a9s,a5T]
 refine ax (bp @iF @j @g @A @U.set_set) ?_;have q:=U.ae (Y:= .cells (c.map ak)) (U.a1 (f:=u)) i;have bp:(u.set x (.cells (c.map ak))) x= _:=U.ah _ _ _;have Y:=q _ _ aM;have t:=r.mono (U.aq p q);have Z:Ext f d k (u.set x (.cells (c.map ak))):=Ext.of (U.aq p q);have z:o≠f:=by rintro rfl;obtain⟨_,_,l⟩:=r.at_;rw[l]at n;cases n
 have D:x≠f:=by rintro rfl;obtain⟨_,_,l⟩:=r.at_;rw[p _ _ l]at i;cases i
 have j9:o≠d:=by rintro rfl;obtain⟨_,⟨_,_,l,_⟩,_⟩:=r.mp;rw[l]at n;cases n
 have k5:x≠d:=by rintro rfl;obtain⟨_,⟨_,_,l,_⟩,_⟩:=r.mp;rw[p _ _ l]at i;cases i
 obtain⟨k0,B,C⟩:=t.at_;obtain⟨s,F,O⟩:=t.mp;have p:=O c g;have q:aY true 32 (c.map ak)=cM c:=by rw[aY,if_pos rfl,a4K a9r];rfl
 clear y;have k1: ∀h:U,bC h f d (eO e b)->Ext f d k h->bC (h.set o (.cells (c.map ak))) f d (eO e b)/\Ext f d k (h.set o (.cells (c.map ak))):=by
  intro h h y;refine⟨h.other (U.an _ _ (a4S z)) (U.an _ _ (a4S j9)),λh w C i t=> ?_⟩;have z:h≠o:=by rintro rfl;rw[n]at t;cases t
  rw[U.an _ _ z];exact y h w C i t
 have y:u f=some (.cells (D5 d e k0 B)):=by rw[U.an _ _ (a4S D)]at C;exact C
 refine ax (bD @iF @j @g (U.af y) (U.af bp) @q) ?_;refine Cf F (pq g) (λv n=> ?_) (λk2=> ?_)
 .cases hm:e.m c with
  |none=>rw[hm]at p;rw[show s (.agg (c.map ak))=s (cM c)from rfl,p]at n;cases n
  |some D=>
   rw[hm]at p;obtain⟨k3,G,p⟩:=p;rw[show s (.agg (c.map ak))=s (cM c)from rfl,p]at n;obtain rfl:=a4I n;have z:eO e b=if e.one=false/\D≠b then {e with a:=D,b:=b,one:=true}else e:=by unfold eO;rw[N,hm]
   refine ax (bD @iF @j @g (U.af y) (U.af bp) @q) ?_;cases n:e.one with
   |true=>refine ax (ds @iF @j @g (U.af y) (U.af bp) (U.aJ aM) @q @A @n) ?_;rw[n]at z;rw[if_neg a9s]at z;grind[U.a1]
   |false=>
    refine ax (cd @iF @j @g (U.af y) (U.af bp) @q @n) ?_;refine ai (XW D b G w _) ?_;rintro _ _ ⟨rfl,rfl⟩;by_cases u:D=b
    .refine ax (cu @iF @j @g (U.af y) (U.af bp) (U.aJ aM) @q @A @n @u) ?_;rw[if_neg (by simp[u])]at z;grind[U.a1]
    .refine ax (cu @iF @j @g (U.af y) (U.af bp) (U.aJ aM) @q @A @n @u) ?_;rw[if_pos ⟨n,u⟩]at z;refine ai (su b w _ a9r) ?_;rintro _ u ⟨H,i,rfl⟩;have I:=i.sub _ _ C;have K:=i.sub _ _ Y;have E:=i.sub _ _ bp;have k4:=F;have L: ∀a b n c h:R,putAt [a,b,n,c] 1 [h]= [a,h,n,c]:=λ_ _ _ _ _=>rfl;have P: ∀a b n c h:R,putAt [a,b,n,c] 2 [h]= [a,b,h,c]:=λ_ _ _ _ _=>rfl;have Q: ∀a b n c h:R,putAt [a,b,n,c] 3 [h]= [a,b,n,h]:=λ_ _ _ _ _=>rfl;refine ax (jd @iF @j @g (U.aJ I) (U.af E) (U.aJ K) @q @A @L @P @Q @U.set_set) ?_;have k6: ∀L,L=bq.cells [.gU d,.J (D.map ak) G,.J (b.map ak) H,.v (.bool true)]->bC (u.set f L) f d (eO e b)/\Ext f d k (u.set f L):=by rintro _ rfl;obtain⟨P,n,Q,S⟩:=F;rw[z];refine⟨⟨⟨G,H,U.ah _ _ _⟩,⟨s,⟨P,n,by rw[U.an _ _ (a4S X)];exact i.sub _ _ Q,S⟩,O⟩,k3,M⟩,λh B t L T=> ?_⟩;rw[U.an _ _ t];exact i.sub _ _ (Z h B t L T)
     obtain⟨V,W⟩:=k6 _ rfl;exact⟨_,U.a1,k1 _ V W⟩
 .cases hm:e.m c with
  |some D=>rw[hm]at p;obtain⟨k3,G,p⟩:=p;rw[show s (.agg (c.map ak))=s (cM c)from rfl,p]at k2;cases k2
  |none=>
   have z:eO e b= {e with m:=λc=>if c=eV b then some b else e.m c}:=by unfold eO;rw[N,hm]
   refine ax (bD @iF @j @g (U.af y) (U.af bp) @q) ?_;refine ai (su b w _ a9r) ?_;rintro _ u ⟨H,i,rfl⟩;have I:=i.sub _ _ C;have K:=i.sub _ _ Y;have E:=i.sub _ _ bp;have k4:qu u d uf s:=by obtain⟨P,n,Q,S⟩:=F;exact⟨P,n,i.sub _ _ Q,S⟩
   refine ax (bD @iF @j @g (U.af I) (U.af E) @q) ?_;refine W3 k4 (pq g) λn p=> ?_;have s:(u.set d n) x=some (.cells (c.map ak)):=by rw[U.an _ _ k5];exact E
   have w:(u.set d n) o=some (.cells (List.replicate 32 (.v (.int .u8 0)))):=by rw[U.an _ _ j9];exact K
   refine ax (ds @iF @j @g (U.af E) (U.af s) (U.aJ K) (U.aJ w) @q @A) ?_;have V:bC (u.set d n) f d (eO e b):=by
    rw[z];refine⟨⟨k0,B,by rw[U.an _ _ X];exact I⟩,⟨_,p,λg j=> ?_⟩,r.sv,r.sw⟩;simp only[N];by_cases e:g=c
    .subst e;rw[if_pos rfl];exact⟨M,H,tQ⟩
    .rw[if_neg e];rw[show(R.agg (c.map ak))=cM c from rfl,qt (λl=>e (CE l))];exact O g j
   have W:Ext f d k (u.set d n):=λh B t L T=>by
    rw[U.an _ _ L];exact i.sub _ _ (Z h B t L T)
   exact⟨_,U.a1,k1 _ V W⟩
def xp:ad (q++b6)=ad q++ad b6:=by simp[ad]
def gv {v:Int} (a:q[e]? =some v):cS 1 (.J (ad q) N) (.v (.int .i64 (e:Int)))=some (.bW [.v (.int .i64 v)]):=by
 have b:(0:Int)<=(e:Int):=a9r;have c:(ad q)[e]? =some (.v (.int .i64 v)):=by simp[ad,a]
 simp only[cS,b,if_true,a5i,c];rw[ix (e:=1) rfl];rfl
def om {v:Int}:dr false 1 f (.bW [.v (.int .i64 v)])=some (.v (.int .i64 v)):=rfl
theorem Y3:bN f 1 (.J (ad q) N)=some (q.length,ad q):=by
 have a:((ad q).all λb=>decide (b.cells.length=1))=true:=by simp[ad,R.cells]
 have c:flat (ad q)=ad q:=by induction q with
  |nil=>rfl
  |cons d q ih=>grind[ad,flat,R.cells]
 simp[bN,a,c,bI]
theorem xq (a:List Int) (h:Own) (c:U) (r:a.length<=1000000000000):
  AC Tryz.prog 214 [.J (ad a) h] c λk d=>ar c d 1 (ad a) k:=by
 refine mU λx=> ?_;have o:h= .nil->a= []:=λy=>by simp_all [ad]
 refine bf hm Py a9s ?_;simp -dsimp -implicitDefEqProofs (disch:=first|omega|assumption|(simp only[aE,Nat.reduceAdd];try omega)) only[go_sem,simprocAttr,-List.reduceReplicate,↓o9];refine oa (λb=>by rw[o b];rfl) (λb=> ?_) ?_
 .have p:a= []:=by simpa[ad] using b
  subst p;refine aa ?_;exact⟨c,U.a1,ar.nil U.a1⟩
 .simp -dsimp -implicitDefEqProofs (disch:=first|omega|assumption|(simp only[aE,Nat.reduceAdd];try omega)) only[go_sem,simprocAttr,-List.reduceReplicate,nX];refine fk (ar.zero (U.a1 (f:=c))) a9r Y3 (by rw[bI];omega) (by simp[bI];omega) (by simp[bI];omega) λk d b=> ?_;refine aa ?_;exact⟨d,U.a1,by simpa using b⟩
theorem sx (b:ar f t 1 (ad q) n): ∃a,f.sub a/\View t n a (.J (ad q) .any):=by grind[View.dW,kz,List.take_of_length_le]
def sy (a:List Int) (c:Own) (b:U) (k:a.length<=1000000000000):
  AC Tryz.prog 214 [.J (ad a) c] b λd h=>b.sub h/\d= .J (ad a) .any:=
 (xq a c b k).view λd h o=>by
  obtain⟨p,r,x⟩:=sx o;exact⟨_,p,x,r,rfl⟩
theorem lo (a c:List Int) (G L:Own) (h:U) (m:a.length<=1000000000000):
  AC Tryz.prog 216 [.J (ad a) G,.J (ad c) L] h λp r=>r=h/\p= .v (.bool (decide (a=c))):=by
 refine bf hm PD a9s ?_;have V:=bI (q:=a);have W:=bI (q:=c);by_cases e:a.length=c.length
 .have x:(a.length:Int)=c.length:=a9r;refine aa ?_;rw[<-x];refine cv (λd r=> ∃b:Nat,b<=a.length/\r=h/\d 0= .J (ad a) G/\d 1= .J (ad c) L/\d 12= .v (.int .i64 a.length)/\d 13= .v (.int .i64 b)/\a.take b=c.take b)
   (λd _=>match d 13 with| .v (.int _ f)=>(a.length - f).toNat| _=>0) ⟨0,a9r,rfl,?_⟩ ?_
  .exact aU
  .rintro d n ⟨b,q,rfl,y,z,C,D,g⟩;by_cases E:(b:Int)<a.length
   .have k:a[b]? =some a[b]:=a4J a9r;have o:c[b]? =some c[b]:=a4J a9r;have P:a.take (b+1)=a.take b++ [a[b]]:=by rw[a5Y,k];rfl
    have S:c.take (b+1)=c.take b++ [c[b]]:=by rw[a5Y,o];rfl
    have T:a[b]'a9r≠c[b]'a9r->a≠c:=λi j=>i (by simp[j]);generalize a[b]'a9r=p at k P T;generalize c[b]'a9r=l at o S T;by_cases F:p=l
    .simp -dsimp -implicitDefEqProofs (disch:=first|omega|assumption|(simp only[aE,Nat.reduceAdd];try omega)) only[go_sem,simprocAttr,-List.reduceReplicate,y,z,C,D,E,gv k,gv o,om,F];exact⟨⟨b+1,a9r,a9s,by rw[P,S,g,F]⟩,a9r⟩
    .simp -dsimp -implicitDefEqProofs (disch:=first|omega|assumption|(simp only[aE,Nat.reduceAdd];try omega)) only[go_sem,simprocAttr,-List.reduceReplicate,y,z,C,D,E,gv k,gv o,om,F];grind[U.a1]
   .obtain rfl:b=a.length:=a9r;simp -dsimp -implicitDefEqProofs (disch:=first|omega|assumption|(simp only[aE,Nat.reduceAdd];try omega)) only[go_sem,simprocAttr,-List.reduceReplicate,y,z,C,D,E];grind[List.take_length,U.a1]
 .have x: ¬(a.length:Int)=c.length:=a9r;simp -dsimp -implicitDefEqProofs (disch:=first|omega|assumption|(simp only[aE,Nat.reduceAdd];try omega)) only[go_sem,simprocAttr,-List.reduceReplicate,V,W,x];have:a≠c:=by rintro rfl;exact e rfl
  exact⟨h,U.a1,by simp[this]⟩
abbrev ey (a b:List Int) (c d:Own):R:= .agg [.J (ad a) c,.J (ad b) d]
theorem xr (b:Nat) (k:FuncId) (p r:List R) (d:U) (o:Nat->Bool) (S:b<=1000000000000) (F:gl Tryz.prog k=true)
  (G: ∀a:Nat,a<b->AC Tryz.prog k (p++ [.v (.int .i64 (a:Int))]++r) d λx h=>h=d/\x= .v (.bool (o a))):
  AC Tryz.prog 194 [.v (.int .i64 (b:Int)),.bH k p r] d λx h=>h=d/\x= .v (.bool ((List.range b).all o)):=by
 refine bf hm P3 a9s ?_;refine aa ?_;refine cv (λc h=> ∃a:Nat,a<=b/\h=d/\(List.range a).all o=true/\c 0= .v (.int .i64 (b:Int))/\c 1= .bH k p r/\c 6= .v (.int .i64 (b:Int))/\c 7= .v (.int .i64 (a:Int)))
  (λc _=>match c 7 with| .v (.int _ L)=>b - L.toNat| _=>0) ⟨0,a9r,rfl,rfl,?_⟩ ?_
 .exact aU
 rintro c T ⟨a,V,rfl,P,y,z,C,D⟩;by_cases E:(a:Int)<b
 .refine aa ?_;refine fJ F (G a a9r) ?_;rintro _ _ ⟨rfl,rfl⟩;cases W:o a with
  |true=>refine aa ?_;grind
  |false=>simp -dsimp -implicitDefEqProofs (disch:=first|omega|assumption|(simp only[aE,Nat.reduceAdd];try omega)) only[go_sem,simprocAttr,-List.reduceReplicate,y,z,C,D,E,a5y];refine⟨_,U.a1,rfl,?_⟩;grind
 .obtain rfl:a=b:=a9r;simp -dsimp -implicitDefEqProofs (disch:=first|omega|assumption|(simp only[aE,Nat.reduceAdd];try omega)) only[go_sem,simprocAttr,-List.reduceReplicate,y,z,C,D,E];exact⟨_,U.a1,rfl,by rw[P]⟩
def Y4 (d:U) (h:Nat) (b c:List Int) (p r:Own) (a:Nat) (x:d.read h=some [.J (ad b) p,.J (ad c) r]) (y:a<b.length) (z:a<c.length):
  AC Tryz.prog 195 [.v (.int .i64 (a:Int)),.ptr h 0] d λC D=>D=d/\C= .v (.bool (decide (b.getD a 0<=c.getD a 0))):=by
 refine bf hm P5 a9s ?_;have k:b[a]? =some (b.getD a 0):=by simp[List.getD,y]
 have o:c[a]? =some (c.getD a 0):=by simp[List.getD,z]
 generalize b.getD a 0=E at k;generalize c.getD a 0=F at o;simp -dsimp -implicitDefEqProofs (disch:=first|omega|assumption|(simp only[aE,Nat.reduceAdd];try omega)) only[go_sem,simprocAttr,-List.reduceReplicate,x,gv k,gv o,om];exact⟨d,U.a1,rfl⟩
def oo (d:U) (b c:List Int) (y z:Own) (a:Nat) (D:a<=1000000000000):
  AC Tryz.prog 127 [ey b c y z,.v (.int .i64 (a:Int))] d λE F=>F=d/\E= .v (.bool (cU b c a)):=by
 refine bf hm MW a9s ?_;have C:=bI (q:=b);have G:=bI (q:=c);refine aa ?_;refine aP λL h=> ?_;unfold cU;by_cases c1:(a:Int)<1
 .have k: ¬1<=a:=a9r;simp -dsimp -implicitDefEqProofs (disch:=first|omega|assumption|(simp only[aE,Nat.reduceAdd];try omega)) only[go_sem,simprocAttr,-List.reduceReplicate,c1,k];exact⟨d,U.ae U.a1 h,by simp[k]⟩
 have k:1<=a:=a9r;by_cases c2:(8:Int)<a
 .have p: ¬a<=8:=a9r;simp -dsimp -implicitDefEqProofs (disch:=first|omega|assumption|(simp only[aE,Nat.reduceAdd];try omega)) only[go_sem,simprocAttr,-List.reduceReplicate,c1,c2];exact⟨d,U.ae U.a1 h,by simp[p]⟩
 have p:a<=8:=a9r;by_cases aI:(b.length:Int)=a
 .have r:b.length=a:=a9r;by_cases aM:(c.length:Int)=a
  .have x:c.length=a:=a9r;refine aa ?_;refine ai (xr a _ _ _ _ (λo=>decide (b.getD o 0<=c.getD o 0)) D a9w λo P=>Y4 _ L b c y z o ?_ a9r a9r) ?_
   .simp[U.read,U.ah]
   rintro _ _ ⟨rfl,rfl⟩;simp -dsimp -implicitDefEqProofs (disch:=first|omega|assumption|(simp only[aE,Nat.reduceAdd];try omega)) only[go_sem,simprocAttr,-List.reduceReplicate];exact⟨d,U.ae U.a1 h,rfl,by simp[k,p,r,x]⟩
  .have x: ¬c.length=a:=a9r;simp -dsimp -implicitDefEqProofs (disch:=first|omega|assumption|(simp only[aE,Nat.reduceAdd];try omega)) only[go_sem,simprocAttr,-List.reduceReplicate,c1,c2,aI,aM,C,G];exact⟨d,U.ae U.a1 h,by simp[x]⟩
 .have r: ¬b.length=a:=a9r;simp -dsimp -implicitDefEqProofs (disch:=first|omega|assumption|(simp only[aE,Nat.reduceAdd];try omega)) only[go_sem,simprocAttr,-List.reduceReplicate,c1,c2,aI,C];exact⟨d,U.ae U.a1 h,by simp[r]⟩
def Y5 (y:U) (a:List Int) (h:Own) (z:a.length<=1000000000000):
  AC Tryz.prog 213 [.J (ad a) h] y λk L=>y.sub L/\ ∃P S,k=ey (gu a).1 (gu a).2 P S:=by
 refine bf hm Pw a9s ?_;have C:=bI (q:=a);refine aa ?_;refine aP λf o=> ?_;unfold gu;have p: ∀b c d D:R,putAt [b,c] 0 [d,D]= [d,D]:=λ_ _ _ _=>rfl;have r: ∀E,(R.agg E).cells=E:=λ_=>rfl;have x: ∀b c,aY true 2 [b,c]= .agg [b,c]:=λ_ _=>rfl;by_cases c1:(a.length:Int)<1
 .simp -dsimp -implicitDefEqProofs (disch:=first|omega|assumption|(simp only[aE,Nat.reduceAdd];try omega)) only[go_sem,simprocAttr,-List.reduceReplicate,c1,C,p,r,x];rw[if_neg a9r];exact⟨_,U.a1,U.ae U.a1 o,.nil,.nil,rfl⟩
 by_cases c2:(8:Int)<a.length
 .simp -dsimp -implicitDefEqProofs (disch:=first|omega|assumption|(simp only[aE,Nat.reduceAdd];try omega)) only[go_sem,simprocAttr,-List.reduceReplicate,c1,c2,C,p,r,x];rw[if_neg a9r];exact⟨_,U.a1,U.ae U.a1 o,.nil,.nil,rfl⟩
 refine aa ?_;refine ai (sy a h _ z) ?_;rintro _ g ⟨F,rfl⟩;refine aa ?_;refine ai (sy a h _ z) ?_;rintro _ i ⟨G,rfl⟩;have T:=G _ _ (F _ _ (U.ah _ _ _));have V: ∀b c d:R,putAt [b,c] 0 [d]= [d,c]:=λ_ _ _=>rfl;have W: ∀b c d:R,putAt [b,c] 1 [d]= [b,d]:=λ_ _ _=>rfl;have e: ∀k h,(R.J k h).cells= [.J k h]:=λ_ _=>rfl;simp -dsimp -implicitDefEqProofs (disch:=first|omega|assumption|(simp only[aE,Nat.reduceAdd];try omega)) only[go_sem,simprocAttr,-List.reduceReplicate,U.aJ T,p,V,W,r,e,x];rw[if_pos a9r];exact⟨_,U.a1,U.ae (U.aq (U.ae U.a1 o) (U.aq F G)) o,.any,.any,rfl⟩
theorem Y6 (h:U) (a b c k:List Int) (o p r x:Own) (C:a.length<=1000000000000) (D:b.length<=1000000000000):
  AC Tryz.prog 215 [ey a b o p,ey c k r x] h λE F=>F=h/\E= .v (.bool (decide (a=c)&&decide (b=k))):=by
 refine bf hm PA a9s ?_;refine aa ?_;refine aP λG S=> ?_;refine aa ?_;refine aP λy d=> ?_;have L:G≠y:=by rintro rfl;rw[U.ah]at d;cases d
 have P:=a4S L;have T:h y=none:=by rw[U.an _ _ P]at d;exact d
 refine aa ?_;refine ai (lo a c o r _ C) ?_;rintro _ _ ⟨rfl,rfl⟩;by_cases z:a=c
 .refine aa ?_;refine ai (lo b k p x _ D) ?_;rintro _ _ ⟨rfl,rfl⟩;simp -dsimp -implicitDefEqProofs (disch:=first|omega|assumption|(simp only[aE,Nat.reduceAdd];try omega)) only[go_sem,simprocAttr,-List.reduceReplicate,z];grind[U.ae,U.a1]
 .simp -dsimp -implicitDefEqProofs (disch:=first|omega|assumption|(simp only[aE,Nat.reduceAdd];try omega)) only[go_sem,simprocAttr,-List.reduceReplicate,z];grind[U.ae,U.a1]
def pr (b c:U) (d h:List Int) (k o:R):Prop:= ∃a,ar b a 1 (ad d) k/\ar a c 1 (ad h) o
def fL (a:ar f t e g n):n.cells= [n]:=by obtain⟨_,⟨_,rfl|rfl⟩|⟨_,_,_,_,rfl,_⟩⟩:=a<;>rfl
def jQ {k:bq} (o:ar f t i g n) (b:f e=some k):ar (f.set e Y) (t.set e Y) i g n:=by
 obtain⟨p,a⟩:=o;refine⟨U.lh p,?_⟩;rcases a with a|⟨c,r,x,y,z,d,C,D⟩
 .exact .inl a
 .have h:c≠e:=by rintro rfl;rw[d]at b;cases b
  exact .inr ⟨c,r,x,y,z,by rw[U.an _ _ h];exact d,by rw[U.an _ _ h];exact C,D⟩
def ug (o:U) (d h:List Int) (p r:Own) (V:d.length<=1000000000000) (W:h.length<=1000000000000):
  AC Tryz.prog 199 [ey d h p r] o λe f=> ∃a b,e= .agg [a,b]/\pr o f d h a b:=by
 refine bf hm Pb a9s ?_;refine cp ?_;refine aP λE F=> ?_;refine cp ?_;refine aP λx y=> ?_;have k:E≠x:=by rintro rfl;rw[U.ah]at y;cases y
 have G:=a4S k;have L:o x=none:=by rw[U.an _ _ G]at y;exact y
 have P: ∀S,(R.agg S).cells=S:=λ_=>rfl;have q:=U.ae (Y:= .cells [.J [] .nil,.J [] .nil]) (U.ae (Y:= .cells [.J (ad d) p,.J (ad h) r]) (U.a1 (f:=o)) F) L;refine ax (aM @P @U.an @k @G) ?_;refine ai (xq d p _ V) ?_;intro a D z;have T:D E=some (.cells [.J (ad d) p,.J (ad h) r]):=z.1 _ _ (by rw[U.an _ _ k,U.ah]);have c2:D x=some (.cells [.J [] .nil,.J [] .nil]):=z.1 _ _ (U.ah _ _ _);refine ax (U.af T) ?_;refine ai (xq h r _ W) ?_;intro b s C;have g:=C.1 _ _ T;have i:=C.1 _ _ c2;have j: ∀a b c:R,putAt [a,b] 0 [c]= [c,b]:=λ_ _ _=>rfl;have l: ∀a b c:R,putAt [a,b] 1 [c]= [a,c]:=λ_ _ _=>rfl;have m: ∀a b c k:R,putAt [a,b] 0 [c,k]= [c,k]:=λ_ _ _ _=>rfl;have n: ∀a b,aY true 2 [a,b]= .agg [a,b]:=λ_ _=>rfl;refine ax (ds (U.af g) (U.aJ i) (fL z) (fL C) @j @l @m @P @n) ?_;refine⟨_,U.a1,a,b,rfl,D.set x (.cells [a,b]),?_,jQ C c2⟩;have:=jQ (Y:= .cells [a,b]) z (U.ah _ _ _);rw[U.set_set]at this;exact this.base (U.ae (U.ae U.a1 F) L)
def mix (c:Int->Int->Int) (a d:List Int) (b:Nat):List Int:=(List.zipWith c a d).take b++a.drop b
def uh {a:Int->Int->Int} (b:q.length=b6.length) (c:e<=q.length):(mix a q b6 e).length=q.length:=by simp[mix,b];omega
theorem ui {a:Int->Int->Int} (d:q.length=b6.length) (h:e<q.length) (b:List R) {v:Int} (x:v=a (q.getD e 0) (b6.getD e 0)):
  putAt (ad (mix a q b6 e)++b) e [.v (.int .i64 v)]=ad (mix a q b6 (e+1))++b:=by
 have c:(ad ((List.zipWith a q b6).take e)).length=e:=by simp[ad,d];omega
 have k:(List.zipWith a q b6)[e]? =some v:=by simp_all
 have o:q.drop e=q[e]::q.drop (e+1):=a5e h;have p:ad (mix a q b6 e)++b=ad ((List.zipWith a q b6).take e)++(.v (.int .i64 q[e])::(ad (q.drop (e+1))++b)):=by unfold mix;rw[xp,o];simp only[ad,a5j,a4W,a5K]
 have r:ad (mix a q b6 (e+1))++b=ad ((List.zipWith a q b6).take e)++(.v (.int .i64 v)::(ad (q.drop (e+1))++b)):=by unfold mix;rw[a5Y,k,xp,xp];simp[ad]
 rw[p,r];generalize ad ((List.zipWith a q b6).take e)=y at c;subst c;simp[putAt]
theorem Y7 (i:U) (a d b e:List Int) (s t v w:Own) (r:a.length<=1000000000000) (E:d.length<=1000000000000) (l0:b.length<=1000000000000) (n0:e.length<=1000000000000):
  AC Tryz.prog 212 [ey a d s t,ey b e v w] i λc o=> ∃f l,c= .agg [f,l]/\pr i o (cV (a,d) (b,e)).1 (cV (a,d) (b,e)).2 f l:=by
 refine bf hm Pu a9s ?_;have z: ∀c,(R.agg c).cells=c:=λ_=>rfl;have B: ∀g h,aY true 2 [g,h]= .agg [g,h]:=λ_ _=>rfl;have S: ∀g h c:R,putAt [g,h] 0 [c]= [c,h]:=λ_ _ _=>rfl;have T: ∀g h c:R,putAt [g,h] 1 [c]= [g,c]:=λ_ _ _=>rfl;have L: ∀g h c M:R,putAt [g,h] 0 [c,M]= [c,M]:=λ_ _ _ _=>rfl;have C:=bI (q:=a);have F:=bI (q:=b);refine ax @z ?_;refine aP λp q=> ?_;refine ax @z ?_;refine aP λm j=> ?_;have k:p≠m:=by rintro rfl;rw[U.ah]at j;cases j
 have u:i m=none:=by rw[U.an _ _ (a4S k)]at j;exact j
 have j:=a4S k;refine ax @z ?_;refine aP λj n=> ?_;have A:m≠j:=by rintro rfl;rw[U.ah]at n;cases n
 have y:p≠j:=by rintro rfl;rw[U.an _ _ k,U.ah]at n;cases n
 have k0:i j=none:=by simp_all [U.an,a4S]
 have V:=U.ae (Y:= .cells [.J [] .nil,.J [] .nil]) (U.ae (Y:= .cells [.J (ad b) v,.J (ad e) w]) (U.ae (Y:= .cells [.J (ad a) s,.J (ad d) t]) (U.a1 (f:=i)) q) u) k0;have x:(((i.set p (.cells [.J (ad a) s,.J (ad d) t])).set m (.cells [.J (ad b) v,.J (ad e) w])).set j (.cells [.J [] .nil,.J [] .nil])) p=some (.cells [.J (ad a) s,.J (ad d) t]):=by rw[U.an _ _ y,U.an _ _ k,U.ah]
 have y:(((i.set p (.cells [.J (ad a) s,.J (ad d) t])).set m (.cells [.J (ad b) v,.J (ad e) w])).set j (.cells [.J [] .nil,.J [] .nil])) m=some (.cells [.J (ad b) v,.J (ad e) w]):=by rw[U.an _ _ A,U.ah]
 have aM:(((i.set p (.cells [.J (ad a) s,.J (ad d) t])).set m (.cells [.J (ad b) v,.J (ad e) w])).set j (.cells [.J [] .nil,.J [] .nil])) j=some (.cells [.J [] .nil,.J [] .nil]):=U.ah _ _ _;refine ax @z ?_;generalize ((i.set p (.cells [.J (ad a) s,.J (ad d) t])).set m (.cells [.J (ad b) v,.J (ad e) w])).set j (.cells [.J [] .nil,.J [] .nil])=A at*;have D: ∀g h:R,List.take 2 [g,h]= [g,h]:=λ_ _=>rfl;refine ax (aI @C @F @D) ?_;refine ai (oo A a d s t a.length r) ?_;rintro _ A ⟨rfl,rfl⟩;refine ax (bD @C @F @D (U.af x) (U.af y) @B) ?_;refine ai (oo A b e v w b.length l0) ?_;rintro _ A ⟨rfl,rfl⟩;have N: ∀(G:U) (f l:R) (k n:List Int),pr A G k n f l->pr i (G.set j (.cells [f,l])) k n f l:=by
  rintro G f l k n ⟨H,n,q⟩;refine⟨H.set j (.cells [f,l]),?_,jQ q (n.1 _ _ aM)⟩;refine(jQ (Y:= .cells [f,l]) n aM).base λu W k=> ?_;have O:u≠j:=by rintro rfl;rw[k0]at k;cases k
  rw[U.an _ _ O];exact V u W k
 unfold cV;cases u:cU a d a.length with
 |true=>
  cases l1:cU b e b.length with
  |false=>refine ax (cd @C @F @D (U.af x) (U.af y) @B @a5y) ?_;refine ai (ug _ a d s t r E) ?_;rintro _ G ⟨f,l,rfl,P⟩;obtain⟨H,n,q⟩:=P;have I:=q.1 _ _ (n.1 _ _ aM);refine ax (bD (U.aJ I) @z @S @T @L @B) ?_;exact⟨_,U.a1,f,l,rfl,N _ _ _ _ _ ⟨H,n,q⟩⟩
  |true=>
   by_cases l2:(a.length:Int)=b.length
   .have K:a.length=b.length:=a9r;refine ax (bw @C @F @D (U.af x) (U.af y) @B @a5H @l2) ?_;rw[if_pos K];have k:=u;have u:=l1;simp only[cU,a4M,decide_eq_true_eq]at k u;have Q:d.length=a.length:=k.1.2;have Q:e.length=a.length:=by rw[K];exact u.1.2
    have Q:1<=a.length:=k.1.1.1.1;clear k u;refine ai (ug _ a d s t r E) ?_;rintro _ G ⟨f,l,rfl,H,n,q⟩;have kA:=q.1 _ _ (n.1 _ _ x);have l3:=q.1 _ _ (n.1 _ _ y);have I:=q.1 _ _ (n.1 _ _ aM);obtain⟨E,⟨X,_⟩|⟨r,Q,k1,k9,rfl,Y,k7,k8,k2,Z,l4,ch⟩⟩:=n
    .exfalso;grind
    obtain⟨k3,⟨X,_⟩|⟨k,k6,k4,l5,rfl,u,l6,l9,k5,j9,l7,ca⟩⟩:=q
    .exfalso;have:=congrArg List.length X;rw[bI,a4T]at this;omega
    have l8:Q=a.length:=by rw[C]at Z;omega
    have Q:k6=a.length:=by rw[bI]at j9;omega
    subst l8;subst Q;have k6:r≠k:=by rintro rfl;rw[k7]at u;cases u
    have l8:=k3 _ _ k7;simp only[a5v]at k8 l9 k2 k5 l4 l7;obtain⟨k7,rfl⟩: ∃k8,k9=ad a++k8:=⟨k9.drop a.length,by rw[<-k2,a5r]⟩;obtain⟨k9,rfl⟩: ∃k8,l5=ad d++k8:=⟨l5.drop a.length,by rw[<-k5,a5r]⟩;have k8:r≠j:=by rintro rfl;rw[Y]at aM;cases aM
    have n1:r≠p:=by rintro rfl;rw[Y]at x;cases x
    have n2:r≠m:=by rintro rfl;rw[Y]at y;cases y
    have l5:k≠j:=by rintro rfl;rw[E _ _ aM]at u;cases u
    have n3:k≠p:=by rintro rfl;rw[E _ _ x]at u;cases u
    have n4:k≠m:=by rintro rfl;rw[E _ _ y]at u;cases u
    have n5:i r=none:=U.bG V Y;have n9:i k=none:=U.bG (U.aq V E) u;have l9:=U.aq V (U.aq E k3);clear k2 k5 E k3 Z j9 N;refine cp ?_;refine aP λE u=> ?_;have k2:E≠j:=by rintro rfl;rw[I]at u;cases u
    have k3:E≠p:=by rintro rfl;rw[kA]at u;cases u
    have k5:E≠m:=by rintro rfl;rw[l3]at u;cases u
    have V:E≠r:=by rintro rfl;rw[l8]at u;cases u
    have Y:E≠k:=by rintro rfl;rw[l6]at u;cases u
    have a00:i E=none:=U.bG l9 u;have u: ∀g h c M:Nat,(R.al g h c M).cells= [.al g h c M]:=λ_ _ _ _=>rfl;refine ax (c2 @z @L) ?_;refine cv (λu o=> ∃c:Nat,c<=a.length/\i.sub o/\o p=some (.cells [.J (ad a) s,.J (ad d) t])/\o m=some (.cells [.J (ad b) v,.J (ad e) w])/\o j=some (.cells [.J [] .nil,.J [] .nil])/\
      o E=some (.cells [.al r a.length k1 1,.al k a.length k4 1])/\o r=some (.cells (ad (mix min a b c)++k7))/\o k=some (.cells (ad (mix max d e c)++k9))/\
      u 2= .ptr p 0/\u 3= .ptr m 0/\u 4= .ptr j 0/\u 7= .ptr E 0/\u 52= .v (.int .i64 a.length)/\u 53= .v (.int .i64 c))
     (λu _=>match u 53 with| .v (.int _ P)=>a.length - P.toNat| _=>0) ⟨0,a9r,?_⟩ ?_
    .have j: ∀(m:Int->Int->Int) (g h:List Int),mix m g h 0=g:=λm g h=>by simp[mix]
     rw[j,j];refine ax (o0 @U.an @k3 @k5 @k2 @V @Y (a4S k3) (a4S k5) (a4S k2) (a4S V) (a4S Y) @kA @l3 @I @l8 @l6 @U.ah) ?_;exact U.ae l9 a00
    rintro u o ⟨c,g,l3,c2,aI,aM,cd,g,h,Q,j,m,p,s,t⟩;by_cases u:(c:Int)<a.length
    .have E:c<a.length:=a9r;have M:a[c]? =some (a.getD c 0):=by simp[List.getD,E]
     have k2:b[c]? =some (b.getD c 0):=by simp_all
     have k3:d[c]? =some (d.getD c 0):=by simp_all
     have k5:e[c]? =some (e.getD c 0):=by simp_all
     have l6:=ui (a:=min) K E k7 (v:=min (a.getD c 0) (b.getD c 0)) rfl;have E:=ui (a:=max) (q:=d) (b6:=e) (e:=c) a9r a9r k9 (v:=max (d.getD c 0) (e.getD c 0)) rfl;generalize a.getD c 0=l8 at*;generalize b.getD c 0=l8 at*;generalize d.getD c 0=a3 at*;generalize e.getD c 0=a4 at*;simp -dsimp -implicitDefEqProofs (disch:=first|omega|assumption|(simp only[aE,Nat.reduceAdd];try omega)) only[go_sem,simprocAttr,-List.reduceReplicate,Q,j,m,p,s,t,u,U.af c2,U.af aI,U.af cd,U.aJ g,U.aJ h,gv M,gv k2,gv k3,gv k5,om];have l8:c+1<=(ad (mix min a b c)++k7).length:=by rw[a4L,bI,uh K a9r];omega
     have k7:c+1<=(ad (mix max d e c)++k9).length:=by rw[a4L,bI,uh a9r a9r];omega
     have k9:=a4S n1;have l9:=a4S n2;have n1:=a4S k6;have n2:=a4S k8;have a01:=a4S n3;have n3:=a4S n4;have n4:=a4S l5;have a02:=a4S V;have a03:=a4S Y;simp -dsimp -implicitDefEqProofs (disch:=first|omega|assumption|(simp only[aE,Nat.reduceAdd];try omega)) only[go_sem,simprocAttr,-List.reduceReplicate,Q,j,m,p,s,t,u,U.af c2,U.af aI,U.af cd,U.aJ g,U.aJ h,gv M,gv k2,gv k3,gv k5,om,l8,k7,l6,E,U.an,U.ah,k6,n1,k9,l9,n2,a01,n3,n4,a02,a03,V,Y,c2,aI,aM,cd];grind[U.ae]
    .obtain rfl:c=a.length:=a9r;refine ax (cu @Q @j @m @p @s @t @u (U.af cd) (U.aJ aM) @D) ?_;have Z:mix min a b a.length=List.zipWith min a b:=by unfold mix;grind
     have j9:mix max d e a.length=List.zipWith max d e:=by unfold mix;grind
     rw[Z]at g;rw[j9]at h;have c:(ad (List.zipWith min a b)).length=a.length:=by rw[bI,a6D];omega
     have c:(ad (List.zipWith max d e)).length=a.length:=by rw[bI,a6D];omega
     have j: ∀c:U,c r=o r->c k=o k->i.sub c->pr i c (List.zipWith min a b) (List.zipWith max d e) (.al r a.length k1 1) (.al k a.length k4 1):=by
      intro c X d i;refine⟨c.del k,⟨λf W c=> ?_,.inr ⟨r,a.length,k1,_,rfl,n5,by rw[U.eJ _ k6,X];exact g,?_,?_,?_,l4,ch⟩⟩,⟨λf W c=> ?_,.inr ⟨k,a.length,k4,_,rfl,U.iu _ _,by rw[d];exact h,?_,?_,?_,l7,ca⟩⟩⟩
      .have O:f≠k:=by rintro rfl;rw[n9]at c;cases c
       rw[U.eJ _ O];exact i f W c
      simp_all;simp_all
      .omega
      .have O:f≠k:=by rintro rfl;rw[U.iu]at c;cases c
       rw[U.eJ _ O]at c;exact c
      grind[List.length_append,bI];simp_all
      .omega
     exact⟨_,U.a1,_,_,rfl,j _ (U.an _ _ k8) (U.an _ _ l5) (U.ae l3 k0)⟩
   .have K: ¬a.length=b.length:=a9r;refine ax (p7 @C @F @D (U.af x) (U.af y) (U.aJ aM) @B @a5H @l2 @z @S @T @L) ?_;rw[if_neg K];exact⟨_,U.a1,_,_,rfl,N A _ _ _ _ ⟨A,ar.nil U.a1,ar.nil U.a1⟩⟩
 |false=>
  cases l1:cU b e b.length with
  |false=>refine ax (jd @C @F @D (U.af x) (U.af y) (U.aJ aM) @B @a5y @z @S @T @L) ?_;exact⟨_,U.a1,_,_,rfl,N A _ _ _ _ ⟨A,ar.nil U.a1,ar.nil U.a1⟩⟩
  |true=>refine ax (cd @C @F @D (U.af x) (U.af y) @B @a5y) ?_;refine ai (ug _ b e v w l0 n0) ?_;rintro _ G ⟨f,l,rfl,P⟩;obtain⟨H,n,q⟩:=P;have I:=q.1 _ _ (n.1 _ _ aM);refine ax (bD (U.aJ I) @z @S @T @L @B) ?_;exact⟨_,U.a1,f,l,rfl,N _ _ _ _ _ ⟨H,n,q⟩⟩
def D6 (h:U) (a b c d:List Int) (k o p r:Own) (z:a.length<=1000000000000) (C:b.length<=1000000000000) (D:c.length<=1000000000000) (E:d.length<=1000000000000):
  AC Tryz.prog 212 [ey a b k o,ey c d p r] h λx y=>h.sub y/\x=ey (cV (a,b) (c,d)).1 (cV (a,b) (c,d)).2 .any .any:=
 (Y7 h a b c d k o p r z C D E).view λx y F=>by
  obtain⟨G,g,rfl,i,L,P⟩:=F;obtain⟨j,S,T⟩:=sx P;have V:=L.mono S;obtain⟨W,e,f⟩:=sx V;exact⟨_,W,(View.agg (a:= [G]) (k:= []) rfl T).trans (View.agg (a:= []) (k:= [_]) rfl f),e,rfl⟩
theorem oq (b c:List Int×List Int) (a:Nat) (d:b.1.length<=a) (h:b.2.length<=a) (k:c.1.length<=a) (o:c.2.length<=a):(cV b c).1.length<=a/\(cV b c).2.length<=a:=by grind[cV]
def az {a:Type} (b:a->R->Prop):List a->List R->Prop
 | [],[]=>True
 |c::xs,d::h=>b c d/\az b xs h
 | _,_=>False
def az.len {b:Type}{h:b->R->Prop}: ∀ {c:List b}{d:List R},az h c d->d.length=c.length
 | [],[],_=>rfl
 | _:: _,_:: _,a=>by rw[a4O,a4O,a.2.len]
 | [],_:: _,a=>a.elim
 | _:: _,[],a=>a.elim
def az.get {k:Type}{o:k->R->Prop}: ∀ {d:List k}{h:List R}{i:Nat}{x:k},az o d h->d[i]? =some x-> ∃b,h[i]? =some b/\o x b
 | [],_,_,_,_,a=>by simp at a
 |x::d,b::h,0,p,a,c=>by simp only[a6w,a4U]at c|-;subst c;exact⟨b,rfl,a.1⟩
 |x::d,b::h,i+1,p,a,c=>by simp only[a6N]at c|-;exact a.2.get c
 | _:: _,[],_,_,a,_=>a.elim
def az.append {c:Type}{b:c->R->Prop}: ∀ {d h:List c}{k o:List R},az b d k->az b h o->az b (d++h) (k++o)
 | [],_,[],_,_,a=>a
 | _:: _,_,_:: _,_,a,p=>⟨a.1,a.2.append p⟩
 | [],_,_:: _,_,a,_=>a.elim
 | _:: _,_,[],_,a,_=>a.elim
variable{b0:Type}
def az.snoc {a:b0->R->Prop}{b:List b0}{c:b0} (d:az a b g) (h:a c n):az a (b++ [c]) (g++ [n]):=d.append ⟨h,trivial⟩
def az.take {c:Type}{d:c->R->Prop}: ∀ {h:List c}{k:List R} (b:Nat),az d h k->az d (h.take b) (k.take b)
 | [],[],b,_=>by simp[az]
 | _:: _,_:: _,0,_=>by simp[az]
 | _:: _,_:: _,b+1,a=>⟨a.1,a.2.take b⟩
 | [],_:: _,_,a=>a.elim
 | _:: _,[],_,a=>a.elim
def az.drop {c:Type}{d:c->R->Prop}: ∀ {h:List c}{k:List R} (b:Nat),az d h k->az d (h.drop b) (k.drop b)
 | [],[],b,_=>by simp[az]
 | _:: _,_:: _,0,a=>a
 | _:: _,_:: _,b+1,a=>a.2.drop b
 | [],_:: _,_,a=>a.elim
 | _:: _,[],_,a=>a.elim
def az.mono {b:Type}{c d:b->R->Prop} (h: ∀k o,c k o->d k o): ∀ {p:List b}{r:List R},az c p r->az d p r
 | [],[],a=>a
 | _:: _,_:: _,a=>⟨h _ _ a.1,a.2.mono h⟩
 | [],_:: _,a=>a.elim
 | _:: _,[],a=>a.elim
theorem az.cells {b:Type}{c:b->R->Prop}{d:Nat} (h: ∀p k,c p k->k.cells.length=d): ∀ {r:List b}{o:List R},az c r o->aN d o
 | [],[],_=>by simp[aN]
 | _:: _,_:: _,a=>by rw[BR];exact⟨h _ _ a.1,a.2.cells h⟩
 | [],_:: _,a=>a.elim
 | _:: _,[],a=>a.elim
def isRow (a:List Int) (b:R):Prop:= ∃c,b= .J (ad a) c
def di (a:List Int×Bool) (b:R):Prop:= ∃c,b= .agg [.J (ad a.1) c,.v (.bool a.2)]
def ab (a:ay) (b c d:Own):List R:=a.sum.map ak++ [.J (ad a.aV) b,.J (ad a.aW) c,.v (.int .i64 a.live),.v (.int .i64 a.size),.J (ad a.key) d]
structure qK (k:ay) (hv eX b:Own) (a:List R):Prop where
 len:a.length=37
 t37:a.take 37=a
 t32:a.take 32=k.sum.map ak
 d32:a.drop 32= [.J (ad k.aV) hv,.J (ad k.aW) eX,.v (.int .i64 k.live),.v (.int .i64 k.size),.J (ad k.key) b]
 d33:a.drop 33= [.J (ad k.aW) eX,.v (.int .i64 k.live),.v (.int .i64 k.size),.J (ad k.key) b]
 d34:a.drop 34= [.v (.int .i64 k.live),.v (.int .i64 k.size),.J (ad k.key) b]
 d35:a.drop 35= [.v (.int .i64 k.size),.J (ad k.key) b]
 d36:a.drop 36= [.J (ad k.key) b]
variable{w j2:ay}
theorem aX (b:w.sum.length=32):qK w N e5 h5 (ab w N e5 h5):=by
 have d:(w.sum.map ak).length=32:=by simp[b]
 have a: ∀c,(ab w N e5 h5).drop (32+c)= [R.J (ad w.aV) N,.J (ad w.aW) e5,.v (.int .i64 w.live),.v (.int .i64 w.size),.J (ad w.key) h5].drop c:=λc=>by
  unfold ab;rw[a6m,a5x a9r,d];simp
 exact⟨by simp[ab,b],a4K (by simp[ab,b]),by unfold ab;simp_all,a 0,a 1,a 2,a 3,a 4⟩
theorem qK.all (a:qK w N e5 h5 g):g.length=37/\g.take 37=g/\g.take 32=w.sum.map ak/\(g.drop 32).take 2= [.J (ad w.aV) N,.J (ad w.aW) e5]/\
  aY false 1 (g.drop 32)= .J (ad w.aV) N/\aY false 1 (g.drop 33)= .J (ad w.aW) e5/\aY false 1 (g.drop 34)= .v (.int .i64 w.live)/\aY false 1 (g.drop 35)= .v (.int .i64 w.size)/\aY false 1 (g.drop 36)= .J (ad w.key) h5:=
 ⟨a.len,a.t37,a.t32,by rw[a.d32];rfl,by rw[a.d32];rfl,by rw[a.d33];rfl,by rw[a.d34];rfl,by rw[a.d35];rfl,by rw[a.d36];rfl⟩
structure ay.cF (k:ay):Prop where
 aV:k.aV.length<=1000000000000
 aW:k.aW.length<=1000000000000
 key:k.key.length<=1000000000000
def mf:aA.cF:=⟨by simp[aA],by simp[aA],by simp[aA]⟩
def bt (a:ay) (b:R):Prop:=a.sum.length=32/\a.cF/\ ∃c d h,b= .agg (ab a c d h)
theorem di.cells {b:List Int×Bool}{a:R} (c:di b a):a.cells.length=2:=by obtain⟨d,rfl⟩:=c;rfl
theorem bt.cells {b:ay}{a:R} (c:bt b a):a.cells.length=37:=by obtain⟨d,_,h,k,o,rfl⟩:=c;exact(aX d).len
theorem isRow.cells {b:List Int}{a:R} (c:isRow b a):a.cells.length=1:=by obtain⟨d,rfl⟩:=c;rfl
structure ng (c:U) (p:R) (cells:List R):Prop where
 ld: ∀(a:U),c.sub a-> ∀agg n,0<n->n<=cells.length->dr agg n a p=some (aY agg n cells)
 kZ: ∀(a:U),c.sub a-> ∀b agg n,0<n->b+n<=cells.length-> ∃d,rW b p=some d/\dr agg n a d=some (aY agg n (cells.drop b))
structure bT (b:U) (k:Nat) (x:R) (a:List R):Prop where
 one:x.cells= [x]
 len:fg x=some (.v (.int .i64 a.length))
 get: ∀(i:Nat) e,a[i]? =some e-> ∃p,cS k x (.v (.int .i64 (i:Int)))=some p/\ng b p e.cells
def ng.mono (c:ng f n g) (d:f.sub t):ng t n g:=⟨λa b=>c.ld a (U.aq d b),λa b=>c.kZ a (U.aq d b)⟩
def bT.mono {b c:U}{d:Nat}{h:R}{k:List R} (a:bT b d h k) (o:b.sub c):bT c d h k:=⟨a.one,a.len,λp r x=>by
 obtain⟨y,z,C⟩:=a.get p r x;exact⟨y,z,C.mono o⟩⟩
theorem bT.J {s:U}{c:Nat}{a:List R}{o:Own} (p:aN c a):bT s c (.J a o) a:=⟨rfl,rfl,λr b d=>by
 have x:(0:Int)<=(r:Int):=a9r;refine⟨.bW b.cells,?_,⟨λy _ z h _ k=>by simp[dr,k],λy _ C z h _ k=>⟨_,rfl,?_⟩⟩⟩
 .simp only[cS,x,if_true,a5i,d];exact ix (p b (a4Q d))
 .have:h<=(b.cells.drop C).length:=by rw[a4X];omega
  simp only[dr];rw[if_pos this]⟩
theorem D7 (a:aN e g) (c:g[i]? =some n):((flat g).drop (i*e)).take e=n.cells:=by obtain⟨b,rfl⟩:=a4R.1 c;rw[(ga i a).1,a5e b];have d:(g[i]).cells.length=e:=a _ (a5o b);simp only[flat,a5n];simp_all
theorem bT.al {F:U}{r n cap k:Nat}{c o:List R} (y:aN k o) (G:F r=some (.cells c)) (L:o.length=n) (T:c.take (n*k)=flat o):bT F k (.al r n cap k) o:=by
 refine⟨rfl,by rw[L];rfl,λd p z=> ?_⟩;obtain⟨e,_⟩:=a4R.1 z;have f:(flat o).length=n*k:=by rw[dh y,L]
 have g:n*k<=c.length:=by grind
 have V:(d+1)*k<=n*k:=a5a _ a9r;rw[a5L,a7i]at V;have i:p.cells.length=k:=y p (a4Q z);have P: ∀a b,a+b<=k->((c.drop (d*k+a)).take b)=(p.cells.drop a).take b:=by intro a b hm;rw[<-D7 y z,<-T];grind[List.drop_take,Nat.min_eq_left,List.drop_drop]
 have S: ∀h a b,a+b<=k->0<b->aY h b (c.drop (d*k+a))=aY h b (p.cells.drop a):=by
  intro h a b hm x;cases h with
  |true=>simp only[aY,if_true];rw[P a b hm]
  |false=>
   have j:=P a 1 a9r;simp only[aY,a5S,if_false];cases bQ:c.drop (d*k+a)with
   |nil=>simp_all
   |cons l m=>
    cases cw:p.cells.drop a with
    |nil=>simp_all
    |cons q s=>grind
 refine⟨.ptr r (d*k),?_,⟨λW C h b x hm=> ?_,λW C a h b x hm=>⟨.ptr r (d*k+a),rfl,?_⟩⟩⟩;grind[ja,Int.toNat_natCast]
 .have D:=U.af (C _ _ G);have E:d*k+b<=c.length:=a9r;simp only[dr,D,if_pos E];have:=S h 0 b a9r x;simp_all
 .have D:=U.af (C _ _ G);have E:d*k+a+b<=c.length:=a9r;simp only[dr,D,if_pos E];rw[S h a b a9r x]
theorem bT.dW (a:ar t f e A n) (d:0<e) (b:A=flat g) (c:aN e g):bT f e n g:=by subst b;have h:=dh c;obtain⟨k,⟨o,rfl|rfl⟩|⟨p,r,x,y,rfl,z,C,D,E,F,G,L⟩⟩:=a;grind[List.eq_nil_of_length_eq_zero,List.length_nil,Nat.mul_eq_zero,bT.J];grind[List.eq_nil_of_length_eq_zero,List.length_nil,Nat.mul_eq_zero,bT.J];grind[bT.al,Nat.eq_of_mul_eq_mul_right]
def ha (h:b0->R->Prop) (k:U) (b:FuncId) (o p:List R) (r:b0->Bool):Prop:=
 gl Tryz.prog b=true/\ ∀c d (a:U),h c d->k.sub a->AC Tryz.prog b (o++ [d]++p) a λx y=>y=a/\x= .v (.bool (r c))
variable{b4:FuncId}
theorem Y8 (a:List (List Int×Bool)) (L:List R) (y:R) (d:U) (P:az di a L) (S:bT d 2 y L) (w:a.length<=1000000000000) {h:(List Int×Bool)->Bool} (T:ha di d b4 g A h):
  AC Tryz.prog 349 [y,.bH b4 g A] d λf z=>z=d/\ ∃V:Int,f= .v (.int .i64 V)/\decide (0<=V)=a.any h:=by
 refine bf hm Sv a9s ?_;have i:=P.len;have C:=S.len;rw[i]at C;refine ax @C ?_;refine cv (λc z=> ∃b:Nat,b<=a.length/\z=d/\c 0=y/\c 1= .bH b4 g A/\c 7= .v (.int .i64 a.length)/\c 8= .v (.int .i64 b)/\(a.take b).any h=false)
  (λc _=>match c 8 with| .v (.int _ j)=>a.length - j.toNat| _=>0) ⟨0,a9r,rfl,?_⟩ ?_
 .refine ax @C ?_;simp
 rintro c D ⟨b,B,rfl,k,o,p,r,W⟩;by_cases x:(b:Int)<(a.length:Int)
 .have E:a[b]? =some a[b]:=a4J a9r;have l:a.take (b+1)=a.take b++ [a[b]]:=by rw[a5Y,E];rfl
  have m:a[b]'a9r∈a:=a5o _;generalize a[b]'a9r=e at E l m;obtain⟨F,n,G⟩:=P.get E;obtain⟨q,s,t⟩:=S.get b F n;have u:dr true 2 D q=some F:=by have v:=t.ld D U.a1 true 2 a9r (by rw[di.cells G];omega);rw[v];obtain⟨H,rfl⟩:=G;rfl
  refine ax (cd @k @o @p @r @x @s @u) ?_;refine fJ T.1 (T.2 e F _ G U.a1) ?_;rintro _ D ⟨rfl,rfl⟩;cases I:h e with
  |true=>refine ax (bp @k @o @p @r @x) ?_;refine⟨_,U.a1,rfl,_,rfl,?_⟩;grind
  |false=>refine ax (bp @k @o @p @r @x) ?_;grind
 .obtain rfl:b=a.length:=a9r;refine ax (bp @k @o @p @r @x) ?_;rw[a5h]at W;exact⟨_,U.a1,rfl,_,rfl,by rw[W];simp⟩
def Y9 (b:List (List Int×Bool)) (c:List R) (d:R) (a:U) (k:az di b c) (o:bT a 2 d c) (p:b.length<=1000000000000) {h:(List Int×Bool)->Bool} (r:ha di a b4 g A h):
  AC Tryz.prog 329 [d,.bH b4 g A] a λx y=>y=a/\x= .v (.bool (b.any h)):=by
 refine bf hm S4 a9s ?_;refine cp ?_;refine ai (Y8 b c d a k o p r) ?_;rintro _ C ⟨rfl,D,rfl,z⟩;refine cp ?_;exact⟨_,U.a1,rfl,by rw[z]⟩
theorem D8 (h:List (List Int×Bool)) (p:List R) (r:R) (c:U) (P:az di h p) (S:bT c 2 r p) (T:h.length<=1000000000000) {x:(List Int×Bool)->Bool} (C:ha di c b4 g A x):
  AC Tryz.prog 283 [r,.bH b4 g A] c λV b=>b=c/\V= .v (.bool (h.all x)):=by
 refine bf hm R9 a9s ?_;refine cp ?_;refine aP λd W=> ?_;have D:=U.ae (Y:= .cells [.bH b4 g A]) (U.a1 (f:=c)) W;have aI:(c.set d (.cells [.bH b4 g A])) d=some (.cells [.bH b4 g A]):=U.ah _ _ _;have e:(R.bH b4 g A).cells= [.bH b4 g A]:=rfl;refine ax @e ?_;generalize c.set d (.cells [.bH b4 g A])=E at*;refine ai (Y9 h p r E P (S.mono D) T (b4:=330) (g:= []) (A:= [.ptr d 0]) (h:=λy=> !x y) ⟨a9w,λy a b k F=> ?_⟩) ?_
 .change AC Tryz.prog _ [a,.ptr d 0] b _;refine bf hm S6 a9s ?_;have f:=F _ _ aI;refine ax (di.cells k) ?_;refine aP λo i=> ?_;have z:=U.ae (Y:= .cells a.cells) (U.a1 (f:=b)) i;have c2:(b.set o (.cells a.cells)) o=some (.cells a.cells):=U.ah _ _ _;have aM:=z _ _ f;have G:aY true 2 (a.cells.drop 0)=a:=by obtain⟨n,rfl⟩:=k;rfl
  have j:aY true 2 a.cells=a:=G;have L:=di.cells k;refine ax @L ?_;have l:=C.2 y a (b.set o (.cells a.cells)) k (U.aq D (U.aq F z));generalize b.set o (.cells a.cells)=m at*;refine ax (bp (U.af aM) (U.af c2) @L @G @j) ?_;refine fJ C.1 l ?_;rintro _ m ⟨rfl,rfl⟩;refine cp ?_;exact⟨b,z,rfl⟩
 rintro _ E ⟨rfl,rfl⟩;refine cp ?_;grind
theorem Ya (a:List ay) (L:List R) (y:R) (d:U) (P:az bt a L) (S:bT d 37 y L) (K:a.length<=1000000000000) {h:ay->Bool} (T:ha bt d b4 g A h):
  AC Tryz.prog 350 [y,.bH b4 g A] d λf z=>z=d/\ ∃V:Int,f= .v (.int .i64 V)/\decide (0<=V)=a.any h:=by
 refine bf hm Sx a9s ?_;have i:=P.len;have C:=S.len;rw[i]at C;refine ax @C ?_;refine cv (λc z=> ∃b:Nat,b<=a.length/\z=d/\c 0=y/\c 1= .bH b4 g A/\c 7= .v (.int .i64 a.length)/\c 8= .v (.int .i64 b)/\(a.take b).any h=false)
  (λc _=>match c 8 with| .v (.int _ j)=>a.length - j.toNat| _=>0) ⟨0,a9r,rfl,?_⟩ ?_
 .refine ax @C ?_;simp
 rintro c D ⟨b,M,rfl,k,o,p,r,W⟩;by_cases x:(b:Int)<(a.length:Int)
 .have E:a[b]? =some a[b]:=a4J a9r;have l:a.take (b+1)=a.take b++ [a[b]]:=by rw[a5Y,E];rfl
  have m:a[b]'a9r∈a:=a5o _;generalize a[b]'a9r=e at E l m;obtain⟨F,n,G⟩:=P.get E;obtain⟨q,s,t⟩:=S.get b F n;have u:dr true 37 D q=some F:=by have v:=t.ld D U.a1 true 37 a9r (by rw[bt.cells G];omega);rw[v];obtain⟨w,_,B,H,I,rfl⟩:=G;simp[R.cells,aY,(aX (N:=B) (e5:=H) (h5:=I) w).t37]
  refine ax (cd @k @o @p @r @x @s @u) ?_;refine fJ T.1 (T.2 e F _ G U.a1) ?_;rintro _ D ⟨rfl,rfl⟩;cases N:h e with
  |true=>refine ax (bp @k @o @p @r @x) ?_;refine⟨_,U.a1,rfl,_,rfl,?_⟩;grind
  |false=>refine ax (bp @k @o @p @r @x) ?_;grind
 .obtain rfl:b=a.length:=a9r;refine ax (bp @k @o @p @r @x) ?_;rw[a5h]at W;exact⟨_,U.a1,rfl,_,rfl,by rw[W];simp⟩
def Yb (b:List ay) (c:List R) (d:R) (a:U) (k:az bt b c) (o:bT a 37 d c) (p:b.length<=1000000000000) {h:ay->Bool} (r:ha bt a b4 g A h):
  AC Tryz.prog 331 [d,.bH b4 g A] a λx y=>y=a/\x= .v (.bool (b.any h)):=by
 refine bf hm S8 a9s ?_;refine cp ?_;refine ai (Ya b c d a k o p r) ?_;rintro _ C ⟨rfl,D,rfl,z⟩;refine cp ?_;exact⟨_,U.a1,rfl,by rw[z]⟩
theorem xt (h:List ay) (r:List R) (x:R) (c:U) (P:az bt h r) (S:bT c 37 x r) (T:h.length<=1000000000000) {y:ay->Bool} (C:ha bt c b4 g A y):
  AC Tryz.prog 285 [x,.bH b4 g A] c λV b=>b=c/\V= .v (.bool (h.all y)):=by
 refine bf hm Re a9s ?_;refine cp ?_;refine aP λd W=> ?_;have D:=U.ae (Y:= .cells [.bH b4 g A]) (U.a1 (f:=c)) W;have aI:(c.set d (.cells [.bH b4 g A])) d=some (.cells [.bH b4 g A]):=U.ah _ _ _;have e:(R.bH b4 g A).cells= [.bH b4 g A]:=rfl;refine ax @e ?_;generalize c.set d (.cells [.bH b4 g A])=E at*;refine ai (Yb h r x E P (S.mono D) T (b4:=332) (g:= []) (A:= [.ptr d 0]) (h:=λk=> !y k) ⟨a9w,λk a b o F=> ?_⟩) ?_
 .change AC Tryz.prog _ [a,.ptr d 0] b _;refine bf hm Sa a9s ?_;have f:=F _ _ aI;refine ax (bt.cells o) ?_;refine aP λp i=> ?_;have z:=U.ae (Y:= .cells a.cells) (U.a1 (f:=b)) i;have c2:(b.set p (.cells a.cells)) p=some (.cells a.cells):=U.ah _ _ _;have aM:=z _ _ f;have G:aY true 37 (a.cells.drop 0)=a:=by obtain⟨j,_,l,m,n,rfl⟩:=o;show aY true 37 (ab k l m n)= _;rw[aY,if_pos rfl,(aX j).t37]
  have q:aY true 37 a.cells=a:=G;have L:=bt.cells o;refine ax @L ?_;have s:=C.2 k a (b.set p (.cells a.cells)) o (U.aq D (U.aq F z));generalize b.set p (.cells a.cells)=t at*;refine ax (bp (U.af aM) (U.af c2) @L @G @q) ?_;refine fJ C.1 s ?_;rintro _ t ⟨rfl,rfl⟩;refine cp ?_;exact⟨b,z,rfl⟩
 rintro _ E ⟨rfl,rfl⟩;refine cp ?_;grind
theorem D9 (a b:ay):(decide (a=b))=(decide (a.sum=b.sum)&&decide (a.live=b.live)&&decide (a.size=b.size)&&(decide (a.aV=b.aV)&&decide (a.aW=b.aW))&&decide (a.key=b.key)):=by obtain⟨c,d,h,k,o,p⟩:=a;obtain⟨r,x,y,z,C,D⟩:=b;grind
def sz {b c:List UInt8}:peq (.agg (b.map ak)) (.agg (c.map ak))=decide (b=c):=by rw[<-Bool.coe_iff_coe,rA,decide_eq_true_eq];exact⟨λa=>CE a,λa=>by rw[a]⟩
def Da (a b:ay) (f g h i j k:Own) (c:U) (t:a.sum.length=32) (u:b.sum.length=32) (w:a.cF):
  AC Tryz.prog 139 [.agg (ab a f g h),.agg (ab b i j k)] c λd e=>e=c/\d= .v (.bool (decide (a=b))):=by
 have d:=aX (N:=f) (e5:=g) (h5:=h) t;have e:=aX (N:=i) (e5:=j) (h5:=k) u;rw[D9];generalize ab a f g h=x at d;generalize ab b i j k=y at e;obtain⟨l,m,a3,a4,_,dx,m,n⟩:=d;obtain⟨n,d,o,p,_,q,r,d⟩:=e;refine bf hm Nh a9s ?_;have d: ∀e,(R.agg e).cells=e:=λ_=>rfl;refine aa ?_;refine aP λz A=> ?_;refine aa ?_;refine aP λs e=> ?_;have v:z≠s:=by rintro rfl;rw[U.ah]at e;cases e
 have z:=a4S v;have B:c s=none:=by rw[U.an _ _ z]at e;exact e
 have e:=U.ae (Y:= .cells y) (U.ae (Y:= .cells x) (U.a1 (f:=c)) A) B;have s:dC [(32,.int .u8)] (a.sum.map ak):=pq t;have t:dC [(32,.int .u8)] (b.sum.map ak):=pq u;have u: ∀x y z v A:R,List.take 2 [x,y,z,v,A]= [x,y]:=λ_ _ _ _ _=>rfl;by_cases v:a.sum=b.sum
 .by_cases x:a.live=b.live
  .by_cases y:a.size=b.size
   .simp -dsimp -implicitDefEqProofs (disch:=first|omega|assumption|(simp only[aE,Nat.reduceAdd];try omega)) only[go_sem,simprocAttr,-List.reduceReplicate,d,a3,o,s,t,sz,v,x,y,l,n,dx,q,m,r,a4,p,u,a7C];refine ai (Y6 _ a.aV a.aW b.aV b.aW f g i j w.aV w.aW) ?_;rintro _ _ ⟨rfl,rfl⟩;cases f:(decide (a.aV=b.aV)&&decide (a.aW=b.aW))with
    |true=>refine aa ?_;refine ai (lo a.key b.key h k _ w.key) ?_;rintro _ _ ⟨rfl,rfl⟩;simp -dsimp -implicitDefEqProofs (disch:=first|omega|assumption|(simp only[aE,Nat.reduceAdd];try omega)) only[go_sem,simprocAttr,-List.reduceReplicate];exact⟨c,e,by simp[*]⟩
    |false=>simp -dsimp -implicitDefEqProofs (disch:=first|omega|assumption|(simp only[aE,Nat.reduceAdd];try omega)) only[go_sem,simprocAttr,-List.reduceReplicate,d];exact⟨c,e,by simp[*]⟩
   .simp -dsimp -implicitDefEqProofs (disch:=first|omega|assumption|(simp only[aE,Nat.reduceAdd];try omega)) only[go_sem,simprocAttr,-List.reduceReplicate,d,a3,o,s,t,sz,v,x,y,l,n,dx,q,m,r,a4,p,u,a7C];exact⟨c,e,by simp[*]⟩
  .simp -dsimp -implicitDefEqProofs (disch:=first|omega|assumption|(simp only[aE,Nat.reduceAdd];try omega)) only[go_sem,simprocAttr,-List.reduceReplicate,d,a3,o,s,t,sz,v,x,l,n,dx,q,m,r,a4,p,u,a7C];exact⟨c,e,by simp[*]⟩
 .simp -dsimp -implicitDefEqProofs (disch:=first|omega|assumption|(simp only[aE,Nat.reduceAdd];try omega)) only[go_sem,simprocAttr,-List.reduceReplicate,d,a3,o,s,t,sz,v,l,n,dx,q,m,r,a4,p,u,a7C];exact⟨c,e,by simp[*]⟩
def nh (a:ay) (c d h:Own) (k:U) (o:a.sum.length=32) (x:a.cF):
  AC Tryz.prog 154 [.agg (ab a c d h)] k λy z=>z=k/\y= .v (.bool (decide (a=aA))):=by
 have b:=aX (N:=c) (e5:=d) (h5:=h) o;refine bf hm NM a9s ?_;have p: ∀r,(R.agg r).cells=r:=λ_=>rfl;have E:=b.len;have C:(List.replicate 32 (R.v (.int .u8 0))++ [R.J [] .nil,.J [] .nil]++ [R.v (.int .i64 0),.v (.int .i64 0)]++ [R.J [] .nil])=ab aA .nil .nil .nil:=by rw[show List.replicate 32 (R.v (.int .u8 0))=(List.replicate 32 (0:UInt8)).map ak by rw[List.map_replicate];rfl];simp only[a4W];rfl
 simp -dsimp -implicitDefEqProofs (disch:=first|omega|assumption|(simp only[aE,Nat.reduceAdd];try omega)) only[go_sem,simprocAttr,-List.reduceReplicate,p,b.len];refine aP λF D=> ?_;simp -dsimp -implicitDefEqProofs (disch:=first|omega|assumption|(simp only[aE,Nat.reduceAdd];try omega)) only[go_sem,simprocAttr,-List.reduceReplicate,p,b.len,b.t37,C];refine ai (Da a aA c d h .nil .nil .nil _ o rfl x) ?_;rintro _ _ ⟨rfl,rfl⟩;simp -dsimp -implicitDefEqProofs (disch:=first|omega|assumption|(simp only[aE,Nat.reduceAdd];try omega)) only[go_sem,simprocAttr,-List.reduceReplicate];exact⟨k,U.ae U.a1 D,rfl⟩
theorem xu (a:ay) (r x C:Own) (d:Nat) (b:U) (i:d<=1000000000000) (F:a.sum.length=32) (j:a.cF):
  AC Tryz.prog 225 [.agg (ab a r x C),.v (.int .i64 (d:Int))] b λl m=>m=b/\l= .v (.bool (fp d a)):=by
 have G:=aX (N:=r) (e5:=x) (h5:=C) F;have L:=λb=>nh a r x C b F j;generalize ab a r x C=n at G L;obtain⟨h,u,a3,a4,a5,dx,k,v⟩:=G;refine bf hm PQ a9s ?_;have o: ∀P,(R.agg P).cells=P:=λ_=>rfl;have S:=bI (q:=a.aV);have T:=bI (q:=a.aW);refine aa ?_;refine aP λw q=> ?_;have y:=U.ae (Y:= .cells n) (U.a1 (f:=b)) q;refine aa ?_;refine ai (L _) ?_;rintro _ _ ⟨rfl,rfl⟩;have A: ∀V W s d t:R,List.take 2 [V,W,s,d,t]= [V,W]:=λ_ _ _ _ _=>rfl;unfold fp;by_cases c:a=aA
 .simp -dsimp -implicitDefEqProofs (disch:=first|omega|assumption|(simp only[aE,Nat.reduceAdd];try omega)) only[go_sem,simprocAttr,-List.reduceReplicate,c];exact⟨b,y,rfl,a9s⟩
 by_cases p:a.size<1
 .simp -dsimp -implicitDefEqProofs (disch:=first|omega|assumption|(simp only[aE,Nat.reduceAdd];try omega)) only[go_sem,simprocAttr,-List.reduceReplicate,c,p,o,h,dx,k];exact⟨b,y,by simp[*]⟩
 by_cases z:(1048576:Int)<a.size
 .simp -dsimp -implicitDefEqProofs (disch:=first|omega|assumption|(simp only[aE,Nat.reduceAdd];try omega)) only[go_sem,simprocAttr,-List.reduceReplicate,c,p,z,o,h,dx,k];exact⟨b,y,by simp[*]⟩
 by_cases D:a.live<0
 .simp -dsimp -implicitDefEqProofs (disch:=first|omega|assumption|(simp only[aE,Nat.reduceAdd];try omega)) only[go_sem,simprocAttr,-List.reduceReplicate,c,p,z,D,o,h,dx,k];exact⟨b,y,by simp[*]⟩
 by_cases E:a.size<a.live
 .simp -dsimp -implicitDefEqProofs (disch:=first|omega|assumption|(simp only[aE,Nat.reduceAdd];try omega)) only[go_sem,simprocAttr,-List.reduceReplicate,c,p,z,D,E,o,h,dx,k];exact⟨b,y,by simp[*]⟩
 by_cases e:a.live=0
 .have f: ¬a.size<0:=a9r;by_cases g:(a.aV.length:Int)=0
  .simp -dsimp -implicitDefEqProofs (disch:=first|omega|assumption|(simp only[aE,Nat.reduceAdd];try omega)) only[go_sem,simprocAttr,-List.reduceReplicate,c,p,z,D,E,e,g,f,o,h,a4,a5,dx,k,S,T];simp_all
  .simp -dsimp -implicitDefEqProofs (disch:=first|omega|assumption|(simp only[aE,Nat.reduceAdd];try omega)) only[go_sem,simprocAttr,-List.reduceReplicate,c,p,z,D,E,e,g,f,o,h,a4,a5,dx,k,S,T];simp_all
 .refine aa ?_;refine ai (oo _ a.aV a.aW r x d i) ?_;rintro _ _ ⟨rfl,rfl⟩;simp -dsimp -implicitDefEqProofs (disch:=first|omega|assumption|(simp only[aE,Nat.reduceAdd];try omega)) only[go_sem,simprocAttr,-List.reduceReplicate];simp_all
theorem Yc (b:Nat) (a:List Int×Bool) (h:R) (r:di a h) (c:U) (d:Nat) (k:c.read d=some [.v (.int .i64 (b:Int))]):
  AC Tryz.prog 284 [h,.ptr d 0] c λx y=>y=c/\x= .v (.bool (decide (a.1.length=b))):=by
 obtain⟨F,rfl⟩:=r;refine bf hm Rb a9s ?_;have z: ∀o,(R.agg o).cells=o:=λ_=>rfl;have C:=bI (q:=a.1);refine aa ?_;refine aP λD p=> ?_;have G:d≠D:=by rintro rfl;simp[U.read,p]at k
 simp -dsimp -implicitDefEqProofs (disch:=first|omega|assumption|(simp only[aE,Nat.reduceAdd];try omega)) only[go_sem,simprocAttr,-List.reduceReplicate,z,C,k];have E:decide ((a.1.length:Int)=b)=decide (a.1.length=b):=by grind
 exact⟨c,U.ae U.a1 p,rfl,by rw[E]⟩
def Yd (a:Nat) (E:a<=1000000000000) (c:ay) (h:R) (F:bt c h) (b:U) (d:Nat) (k:b.read d=some [.v (.int .i64 (a:Int))]):
  AC Tryz.prog 286 [h,.ptr d 0] b λG L=>L=b/\G= .v (.bool (fp a c)):=by
 obtain⟨o,P,p,r,x,rfl⟩:=F;refine bf hm Rg a9s ?_;have y: ∀z,(R.agg z).cells=z:=λ_=>rfl;have C:=aX (N:=p) (e5:=r) (h5:=x) o;have T:=C.len;simp -dsimp -implicitDefEqProofs (disch:=first|omega|assumption|(simp only[aE,Nat.reduceAdd];try omega)) only[go_sem,simprocAttr,-List.reduceReplicate,y];refine aP λS D=> ?_;have V:d≠S:=by rintro rfl;simp[U.read,D]at k
 simp -dsimp -implicitDefEqProofs (disch:=first|omega|assumption|(simp only[aE,Nat.reduceAdd];try omega)) only[go_sem,simprocAttr,-List.reduceReplicate,y,k,C.t37];refine ai (xu c p r x a _ E o P) ?_;rintro _ _ ⟨rfl,rfl⟩;simp -dsimp -implicitDefEqProofs (disch:=first|omega|assumption|(simp only[aE,Nat.reduceAdd];try omega)) only[go_sem,simprocAttr,-List.reduceReplicate];exact⟨b,U.ae U.a1 D,rfl⟩
def Ye (a:ay) (c:R) (k:bt a c) (b:U):
  AC Tryz.prog 287 [c] b λo p=>p=b/\o= .v (.bool (decide (a.key.length=0))):=by
 obtain⟨r,G,x,y,z,rfl⟩:=k;refine bf hm Ri a9s ?_;have C: ∀d,(R.agg d).cells=d:=λ_=>rfl;have h:=aX (N:=x) (e5:=y) (h5:=z) r;have L:=h.len;have D:=bI (q:=a.key);refine aa ?_;refine aP λP E=> ?_;simp -dsimp -implicitDefEqProofs (disch:=first|omega|assumption|(simp only[aE,Nat.reduceAdd];try omega)) only[go_sem,simprocAttr,-List.reduceReplicate,C,h.d36,D];have F:decide ((a.key.length:Int)=0)=decide (a.key.length=0):=by simp
 exact⟨b,U.ae U.a1 E,rfl,by rw[F]⟩
def Yf (b:List Int×Bool) (c:R) (h:di b c) (a:U):
  AC Tryz.prog 288 [c] a λk o=>o=a/\k= .v (.bool b.2):=by
 obtain⟨x,rfl⟩:=h;refine bf hm Rk a9s ?_;have p: ∀d,(R.agg d).cells=d:=λ_=>rfl;refine aa ?_;refine aP λy r=> ?_;simp -dsimp -implicitDefEqProofs (disch:=first|omega|assumption|(simp only[aE,Nat.reduceAdd];try omega)) only[go_sem,simprocAttr,-List.reduceReplicate,p];exact⟨a,U.ae U.a1 r,rfl⟩
def Yg (b:Nat) (a:ay) (r:R) (L:bt a r) (c:U) (h:Nat) (k:c.read h=some [.v (.int .i64 (b:Int))]):
  AC Tryz.prog 289 [r,.ptr h 0] c λP S=>S=c/\P= .v (.bool (decide (a.key.length=b)&& !decide (a=aA))):=by
 obtain⟨x,T,y,z,C,rfl⟩:=L;refine bf hm Rm a9s ?_;have D: ∀E,(R.agg E).cells=E:=λ_=>rfl;have d:=aX (N:=y) (e5:=z) (h5:=C) x;have W:=d.len;have F:=bI (q:=a.key);refine aa ?_;refine aP λV o=> ?_;have e:h≠V:=by rintro rfl;simp[U.read,o]at k
 by_cases G:(a.key.length:Int)=b
 .have p:a.key.length=b:=a9r;simp -dsimp -implicitDefEqProofs (disch:=first|omega|assumption|(simp only[aE,Nat.reduceAdd];try omega)) only[go_sem,simprocAttr,-List.reduceReplicate,D,k,d.t37,d.d36,F,G];refine ai (nh a y z C _ x T) ?_;rintro _ _ ⟨rfl,rfl⟩;simp -dsimp -implicitDefEqProofs (disch:=first|omega|assumption|(simp only[aE,Nat.reduceAdd];try omega)) only[go_sem,simprocAttr,-List.reduceReplicate];exact⟨c,U.ae U.a1 o,rfl,by simp[p]⟩
 .have p: ¬a.key.length=b:=a9r;simp -dsimp -implicitDefEqProofs (disch:=first|omega|assumption|(simp only[aE,Nat.reduceAdd];try omega)) only[go_sem,simprocAttr,-List.reduceReplicate,D,k,d.t37,d.d36,F,G];exact⟨c,U.ae U.a1 o,rfl,by simp[p]⟩
structure fC (a:U) (n:c5) (x y:R) (b c:List R):Prop where
 rows:az di n.rows b
 kids:az bt n.kids c
 lR:bT a 2 x b
 gX:bT a 37 y c
 kC:n.rows.length<=100000
 iC:n.kids.length<=100000
def fC.mono {b c:U}{d:c5}{h k:R}{o p:List R} (a:fC b d h k o p) (r:b.sub c):fC c d h k o p:=⟨a.rows,a.kids,a.lR.mono r,a.gX.mono r,a.kC,a.iC⟩
def fC.hb (a:fC f e0 n b3 g A):fg n=some (.v (.int .i64 e0.rows.length)):=by rw[a.lR.len,a.rows.len]
def fC.uj (a:fC f e0 b3 n g A):fg n=some (.v (.int .i64 e0.kids.length)):=by rw[a.gX.len,a.kids.len]
abbrev gQ (a:c5) (b c:R):R:= .agg [.v (.int .u8 (a.kind.toNat:Int)),b,c]
theorem iG (b:UInt8) (a:Nat) (c:a<256):(decide ((b.toNat:Int)=(a:Int)))=decide (b=UInt8.ofNat a):=by grind[UInt8.ofNat,UInt8.toNat_inj,UInt8.toNat_ofNat']
theorem Db (a:c5) (w v:List R) (c o:R) (b:Nat) (d:1<=b) (e:b<=8) (p:U) (h:fC p a c o w v):
  AC Tryz.prog 209 [gQ a c o,.v (.int .i64 (b:Int))] p λl d=>d=p/\l= .v (.bool (dX b a)):=by
 have m:=h.hb;have n:=h.uj;have e:=h.kC;have e:=h.iC;refine bf hm Po a9s ?_;have e: ∀e,(R.agg e).cells=e:=λ_=>rfl;refine aa ?_;refine aP λi k=> ?_;refine aa ?_;refine aP λe j=> ?_;have f:i≠e:=by rintro rfl;rw[U.ah]at j;cases j
 have g:=a4S f;have q:p e=none:=by rw[U.an _ _ g]at j;exact j
 have u:=U.ae (Y:= .cells [.v (.int .i64 (b:Int))]) (U.ae (Y:= .cells [.v (.int .u8 (a.kind.toNat:Int)),c,o]) (U.a1 (f:=p)) k) q;have c2:((p.set i (.cells [.v (.int .u8 (a.kind.toNat:Int)),c,o])).set e (.cells [.v (.int .i64 (b:Int))])) i=some (.cells [.v (.int .u8 (a.kind.toNat:Int)),c,o]):=by rw[U.an _ _ f,U.ah]
 have aI:((p.set i (.cells [.v (.int .u8 (a.kind.toNat:Int)),c,o])).set e (.cells [.v (.int .i64 (b:Int))])) e=some (.cells [.v (.int .i64 (b:Int))]):=U.ah _ _ _;have i: ¬(b:Int)<1:=a9r;have j: ¬(8:Int)<(b:Int):=a9r;refine aa ?_;have D: ∀k:U,k e=some (.cells [.v (.int .i64 (b:Int))])->(ha di k 284 [] [.ptr e 0] λl=>decide (l.1.length=b))/\ha bt k 286 [] [.ptr e 0] (fp b)/\(ha bt k 287 [] [] λq=>decide (q.key.length=0))/\(ha di k 288 [] [] λl=>l.2)/\(ha bt k 289 [] [.ptr e 0] λq=>decide (q.key.length=b)&& !decide (q=aA)):=by intro k aI;have x: ∀d,k.sub d->d.read e=some [.v (.int .i64 (b:Int))]:=λd r=>U.af (r _ _ aI);have y:ha di k 284 [] [.ptr e 0] λl=>decide (l.1.length=b):=⟨a9w,λc s d t r=>Yc b c s t d e (x d r)⟩;have z:ha bt k 286 [] [.ptr e 0] (fp b):=⟨a9w,λc s d t r=>Yd b a9r c s t d e (x d r)⟩;have A:ha bt k 287 [] [] λq=>decide (q.key.length=0):=⟨a9w,λc s d t r=>Ye c s t d⟩;have B:ha di k 288 [] [] λl=>l.2:=⟨a9w,λc s d t r=>Yf c s t d⟩;have C:ha bt k 289 [] [.ptr e 0] λq=>decide (q.key.length=b)&& !decide (q=aA):=⟨a9w,λc s d t r=>Yg b c s t d e (x d r)⟩;exact⟨y,z,A,B,C⟩
 obtain⟨y,z,A,B,C⟩:=D _ aI;refine aa ?_;refine ai (D8 a.rows w c _ h.rows (h.lR.mono u) a9r y) ?_;rintro _ _ ⟨rfl,rfl⟩;unfold dX;cases d:a.rows.all (λl=>decide (l.1.length=b))with
 |false=>simp -dsimp -implicitDefEqProofs (disch:=first|omega|assumption|(simp only[aE,Nat.reduceAdd];try omega)) only[go_sem,simprocAttr,-List.reduceReplicate,i,j,U.af c2,U.af aI,U.an,f,g,a5y];exact⟨p,u,a9s⟩
 |true=>
 refine aa ?_;refine ai (xt a.kids v o _ h.kids (h.gX.mono u) a9r z) ?_;rintro _ _ ⟨rfl,rfl⟩;cases d:a.kids.all (fp b)with
 |false=>simp -dsimp -implicitDefEqProofs (disch:=first|omega|assumption|(simp only[aE,Nat.reduceAdd];try omega)) only[go_sem,simprocAttr,-List.reduceReplicate,i,j,U.af c2,U.af aI,U.an,f,g,a5y];exact⟨p,u,a9s⟩
 |true=>
 have b:=iG a.kind 1 a9r;have d:=iG a.kind 2 a9r;have e:=iG a.kind 3 a9r;simp only[Int.natCast_one,a7R]at b d e;by_cases k:a.kind=1
 .have p:((a.kind.toNat:Int)=1)=True:=by rw[k];simp
  refine aa ?_;by_cases b:(a.rows.length:Int)=1
  .by_cases d:(a.kids.length:Int)=2
   .simp -dsimp -implicitDefEqProofs (disch:=first|omega|assumption|(simp only[aE,Nat.reduceAdd];try omega)) only[go_sem,simprocAttr,-List.reduceReplicate,i,j,U.af c2,U.af aI,U.an,f,g,a5H,b,d,m,n];refine ai (xt a.kids v o _ h.kids (h.gX.mono u) a9r A) ?_;rintro _ _ ⟨rfl,rfl⟩;simp -dsimp -implicitDefEqProofs (disch:=first|omega|assumption|(simp only[aE,Nat.reduceAdd];try omega)) only[go_sem,simprocAttr,-List.reduceReplicate];have e:a.rows.length=1:=a9r;have l:a.kids.length=2:=a9r;simp_all
   .have l: ¬a.kids.length=2:=a9r;simp -dsimp -implicitDefEqProofs (disch:=first|omega|assumption|(simp only[aE,Nat.reduceAdd];try omega)) only[go_sem,simprocAttr,-List.reduceReplicate,i,j,U.af c2,U.af aI,U.an,f,g,a5H,b,d,m,n];simp_all
  .have e: ¬a.rows.length=1:=a9r;simp -dsimp -implicitDefEqProofs (disch:=first|omega|assumption|(simp only[aE,Nat.reduceAdd];try omega)) only[go_sem,simprocAttr,-List.reduceReplicate,i,j,U.af c2,U.af aI,U.an,f,g,a5H,b,m,n];simp_all
 have p: ¬(a.kind.toNat:Int)=1:=λq=>k (by simp_all);by_cases r:a.kind=2
 .have s:((a.kind.toNat:Int)=2)=True:=by rw[r];simp
  refine aa ?_;by_cases b:(1:Int)<=a.rows.length
  .by_cases d:(a.rows.length:Int)<=4
   .by_cases k:(a.kids.length:Int)=0
    .simp -dsimp -implicitDefEqProofs (disch:=first|omega|assumption|(simp only[aE,Nat.reduceAdd];try omega)) only[go_sem,simprocAttr,-List.reduceReplicate,i,j,U.af c2,U.af aI,U.an,f,g,a5H,m,n,b,d,k];refine ai (D8 a.rows w c _ h.rows (h.lR.mono u) a9r B) ?_;rintro _ _ ⟨rfl,rfl⟩;simp -dsimp -implicitDefEqProofs (disch:=first|omega|assumption|(simp only[aE,Nat.reduceAdd];try omega)) only[go_sem,simprocAttr,-List.reduceReplicate];have e:1<=a.rows.length:=a9r;have l:a.rows.length<=4:=a9r;simp_all
    .have t: ¬a.kids.length=0:=a9r;simp -dsimp -implicitDefEqProofs (disch:=first|omega|assumption|(simp only[aE,Nat.reduceAdd];try omega)) only[go_sem,simprocAttr,-List.reduceReplicate,i,j,U.af c2,U.af aI,U.an,f,g,a5H,m,n,b,d,k];simp_all
   .have l: ¬a.rows.length<=4:=a9r;simp -dsimp -implicitDefEqProofs (disch:=first|omega|assumption|(simp only[aE,Nat.reduceAdd];try omega)) only[go_sem,simprocAttr,-List.reduceReplicate,i,j,U.af c2,U.af aI,U.an,f,g,a5H,m,n,b,d];grind
  .have e: ¬1<=a.rows.length:=a9r;simp -dsimp -implicitDefEqProofs (disch:=first|omega|assumption|(simp only[aE,Nat.reduceAdd];try omega)) only[go_sem,simprocAttr,-List.reduceReplicate,i,j,U.af c2,U.af aI,U.an,f,g,a5H,m,n,b];simp_all
 have s: ¬(a.kind.toNat:Int)=2:=λq=>r (by simp_all);by_cases c:a.kind=3
 .have r:((a.kind.toNat:Int)=3)=True:=by rw[c];simp
  refine aa ?_;by_cases b:(a.rows.length:Int)=0
  .by_cases d:(2:Int)<=a.kids.length
   .by_cases k:(a.kids.length:Int)<=4
    .simp -dsimp -implicitDefEqProofs (disch:=first|omega|assumption|(simp only[aE,Nat.reduceAdd];try omega)) only[go_sem,simprocAttr,-List.reduceReplicate,i,j,U.af c2,U.af aI,U.an,f,g,a5H,m,n,b,d,k];refine ai (xt a.kids v o _ h.kids (h.gX.mono u) a9r C) ?_;rintro _ _ ⟨rfl,rfl⟩;simp -dsimp -implicitDefEqProofs (disch:=first|omega|assumption|(simp only[aE,Nat.reduceAdd];try omega)) only[go_sem,simprocAttr,-List.reduceReplicate];have e:a.rows.length=0:=a9r;grind
    .have t: ¬a.kids.length<=4:=a9r;simp -dsimp -implicitDefEqProofs (disch:=first|omega|assumption|(simp only[aE,Nat.reduceAdd];try omega)) only[go_sem,simprocAttr,-List.reduceReplicate,i,j,U.af c2,U.af aI,U.an,f,g,a5H,m,n,b,d,k];grind
   .have l: ¬2<=a.kids.length:=a9r;simp -dsimp -implicitDefEqProofs (disch:=first|omega|assumption|(simp only[aE,Nat.reduceAdd];try omega)) only[go_sem,simprocAttr,-List.reduceReplicate,i,j,U.af c2,U.af aI,U.an,f,g,a5H,m,n,b,d];grind
  .have e: ¬a.rows.length=0:=a9r;simp -dsimp -implicitDefEqProofs (disch:=first|omega|assumption|(simp only[aE,Nat.reduceAdd];try omega)) only[go_sem,simprocAttr,-List.reduceReplicate,i,j,U.af c2,U.af aI,U.an,f,g,a5H,m,n,b];simp_all
 have r: ¬(a.kind.toNat:Int)=3:=λq=>c (by simp_all);simp -dsimp -implicitDefEqProofs (disch:=first|omega|assumption|(simp only[aE,Nat.reduceAdd];try omega)) only[go_sem,simprocAttr,-List.reduceReplicate,i,j,U.af c2,U.af aI,U.an,f,g,a5H,p,s,r];simp_all
def qL {b k:Type}{c:b->List k}{d:Nat}: ∀ {l:List b},(∀a∈l,(c a).length<=d)->(l.flatMap c).length<=l.length*d
 | [],_=>by simp
 |a::l,h=>by
  have r:=h a a9s;have x:=qL (l:=l) λo p=>h o (by simp[p]);rw[a5n,a4L,a4O,a5L];omega
structure ay.hx (k:ay):Prop where
 aV:k.aV.length<=8
 aW:k.aW.length<=8
 key:k.key.length<=8
 nd:0<=k.live
 live:k.live<=1048576
 nf:0<=k.size
 size:k.size<=1048576
theorem lp (a:cU q b6 e=true):q.length=e/\b6.length=e/\1<=e/\e<=8:=by simp_all [cU,a4M,decide_eq_true_eq]
theorem qM (a:fp e w=true):w.aV.length<=8/\w.aW.length<=8/\0<=w.live/\w.live<=1048576/\0<=w.size/\w.size<=1048576:=by
 unfold fp at a;rw[a6u]at a;rcases a with a|a
 .have:w=aA:=of_decide_eq_true a;subst this;simp[aA]
 .simp only[a4M,a6n,a8k,decide_eq_false_iff_not]at a;obtain⟨c,b⟩:=a;have:w.aV.length<=8/\w.aW.length<=8:=by
   split at b;simp_all
   .have:=lp b;omega
  omega
theorem uk (o:e<=8) (a:dX e e0=true): ∀b∈e0.kids,b.hx:=by intro b c;unfold dX at a;simp only[a4M,a4Y]at a;obtain⟨⟨_,d⟩,p⟩:=a;obtain⟨h,k,a3,a4,a5,dx⟩:=qM (d b c);refine⟨h,k,?_,a3,a4,a5,dx⟩;grind
def xv {a:List Int×Bool} (b:a.1.length<=8):(gr a).length<=100:=by simp[gr,xj];omega
def sA (b:w.sum.length=32) (a:w.hx):(ei w).length<=300:=by have c:=a.aV;have d:=a.aW;have h:=a.key;simp[ei,xj,kB,b];omega
theorem xw (a:c5) (c g:List R) (e l:R) (m:Nat) (q:1<=m) (i:m<=8) (b:U) (n:fC b a e l c g):
  AC Tryz.prog 210 [gQ a e l,.v (.int .i64 (m:Int))] b λd h=>b.sub h/\match ss m a with
   |none=>d= .aL [.J [] .nil,.v (.int .i64 1)]
   |some o=> ∃f,d= .aL [.J (o.map ak) f,.v (.int .i64 0)]:=by
 have j:=n.hb;have P:=n.uj;have f:=n.kC;have f:=n.iC;refine bf hm Pq a9s ?_;have C: ∀K,(R.agg K).cells=K:=λ_=>rfl;have f: ∀k o p,aY true 3 [k,o,p]= .agg [k,o,p]:=λ_ _ _=>rfl;have r: ∀k o p:R,List.take 3 [k,o,p]= [k,o,p]:=λ_ _ _=>rfl;refine ax @C ?_;refine aP λf s=> ?_;have v:=U.ae (Y:= .cells [.v (.int .u8 (a.kind.toNat:Int)),e,l]) (U.a1 (f:=b)) s;have c2:(b.set f (.cells [.v (.int .u8 (a.kind.toNat:Int)),e,l])) f=some (.cells [.v (.int .u8 (a.kind.toNat:Int)),e,l]):=U.ah _ _ _;simp -dsimp -implicitDefEqProofs (disch:=first|omega|assumption|(simp only[aE,Nat.reduceAdd];try omega)) only[go_sem,simprocAttr,-List.reduceReplicate,C,r];refine ai (Db a c g e l m q i _ (n.mono v)) ?_;rintro _ _ ⟨rfl,rfl⟩;unfold ss;cases c:dX m a with
 |false=>refine ax @a5y ?_;exact⟨_,U.a1,v⟩
 |true=>
 obtain⟨z,g,g⟩:=ln c;have Q:=uk i c;refine ax @a5H ?_;refine aP λc r=> ?_;have q:f≠c:=by grind
 obtain⟨g,i⟩: ∃g:U,g=b.set f (.cells [.v (.int .u8 (a.kind.toNat:Int)),e,l]):=⟨_,rfl⟩;rw[<-i]at v c2;have S:g c=none:=by rw[i];exact r
 have r:cE g c [] (g.set c (.cells [.J [] .nil,.v (.int .i64 0)])):=⟨.nil,bj.nil U.a1⟩;have b:=n.mono v;have A:=b.lR;have W:=b.gX;have D: ∀aR h,cE g c aR h->h f=some (.cells [.v (.int .u8 (a.kind.toNat:Int)),e,l]):=λaR h w=>w.get q c2;have T: ∀aR h,cE g c aR h->g.sub h:=λaR h w=>w.sub S;have X:dc a=([a.kind]++ [UInt8.ofNat a.rows.length]++a.rows.flatMap gr++ [UInt8.ofNat a.kids.length])++a.kids.flatMap ei:=by simp[dc]
 have I: ∀b,((a.rows.take b).flatMap gr).length<=400:=λb=>by
  have:=qL (l:=a.rows.take b) (d:=100) λd s=>xv (a:=d) (by grind);grind
 rw[<-i];simp -dsimp -implicitDefEqProofs (disch:=first|omega|assumption|(simp only[aE,Nat.reduceAdd];try omega)) only[go_sem,simprocAttr,-List.reduceReplicate,U.af c2,q];refine ai (mY g _ c [] a.kind r a9s) ?_;intro _ q i;simp -dsimp -implicitDefEqProofs (disch:=first|omega|assumption|(simp only[aE,Nat.reduceAdd];try omega)) only[go_sem,simprocAttr,-List.reduceReplicate,U.af (D _ _ i),j,iy];refine ai (mY g q c _ (UInt8.ofNat a.rows.length) i a9s) ?_;intro _ i q;simp -dsimp -implicitDefEqProofs (disch:=first|omega|assumption|(simp only[aE,Nat.reduceAdd];try omega)) only[go_sem,simprocAttr,-List.reduceReplicate,U.af (D _ _ q),j];refine cv (λi h=> ∃b:Nat,b<=a.rows.length/\cE g c ([a.kind]++ [UInt8.ofNat a.rows.length]++(a.rows.take b).flatMap gr) h/\i 2= .ptr f 0/\i 6= .ptr c 0/\i 28=e/\i 29= .v (.int .i64 a.rows.length)/\i 30= .v (.int .i64 b))
  (λi _=>match i 30 with| .v (.int _ L)=>a.rows.length - L.toNat| _=>0) ⟨0,a9r,by simpa using q,?_⟩ ?_
 .exact nZ
 rintro i x ⟨b,Y,j,q,f,s,t,u⟩;by_cases y:(b:Int)<a.rows.length
 .have r:a.rows[b]? =some a.rows[b]:=a4J a9r;have E:a.rows.take (b+1)=a.rows.take b++ [a.rows[b]]:=by rw[a5Y,r];rfl
  have e:=z _ (a5o (l:=a.rows) (n:=b) a9r);generalize a.rows[b]'a9r=d at r E e;obtain⟨k,M,e,rfl⟩:=n.rows.get r;obtain⟨Z,N,F⟩:=A.get b _ M;have z:=F.ld x (T _ _ j) true 2 a9r (by simp[R.cells]);have O:=I b;have A:aY true 2 (R.agg [.J (ad d.1) e,.v (.bool d.2)]).cells= .agg [.J (ad d.1) e,.v (.bool d.2)]:=rfl;rw[A]at z;refine ax (bw @q @f @s @t @u @y @N @z) ?_;refine aP λA B=> ?_;have H: ∀k o p m:R,putAt [k,o] 0 [p,m]= [p,m]:=λ_ _ _ _=>rfl;obtain⟨m,o,G⟩:=j.new (ob:= .cells [.J (ad d.1) e,.v (.bool d.2)]) B;have p:(g.set A (.cells [.J (ad d.1) e,.v (.bool d.2)])) A=some (.cells [.J (ad d.1) e,.v (.bool d.2)]):=U.ah _ _ _;refine ax (bw @q @f @s @t @u @C @H @U.set_set) ?_;refine ai (XN _ _ c _ d.2 G (by grind)) ?_;intro _ j9 A;refine ax (bD @q @f @s @t @u (U.af (A.get m p))) ?_;refine ai (sq _ _ c _ d.1 e a9r A (by grind)) ?_;intro _ k0 H;refine ax (bp @q @f @s @t @u) ?_;refine⟨⟨b+1,a9r,?_,a9s⟩,a9r⟩;have B:=H.base (U.ae (Y:= .cells [.J (ad d.1) e,.v (.bool d.2)]) (U.a1 (f:=g)) o);rw[E,a5F];simpa[gr] using B
 .obtain rfl:b=a.rows.length:=a9r;rw[a5h]at j;have O:=I a.rows.length;rw[a5h]at O;simp -dsimp -implicitDefEqProofs (disch:=first|omega|assumption|(simp only[aE,Nat.reduceAdd];try omega)) only[go_sem,simprocAttr,-List.reduceReplicate,q,f,s,t,u,y,U.af (D _ _ j),P,iy];refine ai (mY g x c _ (UInt8.ofNat a.kids.length) j (by grind)) ?_;intro _ e m;have e:([a.kind]++ [UInt8.ofNat a.rows.length]++a.rows.flatMap gr++ [UInt8.ofNat a.kids.length]).length<=500:=by grind
  generalize [a.kind]++ [UInt8.ofNat a.rows.length]++a.rows.flatMap gr++ [UInt8.ofNat a.kids.length]=O at*;have V: ∀b,((a.kids.take b).flatMap ei).length<=1200:=λb=>by
   have:=qL (l:=a.kids.take b) (d:=300) λe o=>by
    have hm:=a5b o;obtain⟨o,o,rfl⟩:=a5A hm;obtain⟨k,_,I,_⟩:=n.kids.get (a4J o);exact sA I (Q _ hm)
   grind
  simp -dsimp -implicitDefEqProofs (disch:=first|omega|assumption|(simp only[aE,Nat.reduceAdd];try omega)) only[go_sem,simprocAttr,-List.reduceReplicate,q,f,U.af (D _ _ m),P];refine cv (λi h=> ∃b:Nat,b<=a.kids.length/\cE g c (O++(a.kids.take b).flatMap ei) h/\i 6= .ptr c 0/\i 50=l/\i 51= .v (.int .i64 a.kids.length)/\i 52= .v (.int .i64 b))
   (λi _=>match i 52 with| .v (.int _ L)=>a.kids.length - L.toNat| _=>0) ⟨0,a9r,by simpa using m,?_⟩ ?_
  .simp -dsimp -implicitDefEqProofs (disch:=first|omega|assumption|(simp only[aE,Nat.reduceAdd];try omega)) only[go_sem,simprocAttr,-List.reduceReplicate,q,f]
  clear q f s t u;rintro i x ⟨b,Y,j,f,i,l,m⟩;by_cases y:(b:Int)<a.kids.length
  .have r:a.kids[b]? =some a.kids[b]:=a4J a9r;have E:a.kids.take (b+1)=a.kids.take b++ [a.kids[b]]:=by rw[a5Y,r];rfl
   have o:=Q _ (a5o (l:=a.kids) (n:=b) a9r);generalize a.kids[b]'a9r=e at r E o;obtain⟨k,M,I,_,p,q,s,rfl⟩:=n.kids.get r;obtain⟨Z,N,F⟩:=W.get b _ M;have n:=aX (N:=p) (e5:=q) (h5:=s) I;have k:(R.agg (ab e p q s)).cells=ab e p q s:=rfl;rw[k]at F;have z:=F.ld x (T _ _ j) true 37 a9r (by rw[n.len];omega);rw[show aY true 37 (ab e p q s)= .agg (ab e p q s) by rw[aY,if_pos rfl,n.t37]]at z;have t:=n.len;generalize ab e p q s=k at*;obtain⟨r,r,a3,a4,a5,dx,u,D⟩:=n;have n:=V b;refine ax (cd @f @i @l @m @y @N @z) ?_;refine aP λr n=> ?_;obtain⟨z,E,G⟩:=j.new (ob:= .cells k) n;have F:(g.set r (.cells k)) r=some (.cells k):=U.ah _ _ _;have n:=t;have n:=o.nd;have cr:=o.nf;have n:=o.live;have n:=o.size;have n:=o.aV;have n:=o.aW;have n:=o.key;have o: ∀n:List R,n.length=37->putAt n 0 k=k:=λn n=>by rw[putAt];simp[n,t]
   refine ax (cu @f @i @l @m @C @o @t @U.set_set @a4L.{0} @a6J.{0}) ?_;have o:e.live=(e.live.toNat:Int):=a9r;have t:e.size=(e.size.toNat:Int):=a9r;have n: ∀aR h,cE (g.set r (.cells k)) c aR h->h r=some (.cells k):=λaR h w=>w.get z F;rw[a3];have h:(O++(a.kids.take b).flatMap ei).length<=1700:=by grind
   obtain⟨r,r⟩: ∃w,w=O++(a.kids.take b).flatMap ei:=⟨_,rfl⟩;rw[<-r]at G h;refine ai (CI _ _ c _ e.sum I G a9r) ?_;intro _ j9 A;simp -dsimp -implicitDefEqProofs (disch:=first|omega|assumption|(simp only[aE,Nat.reduceAdd];try omega)) only[go_sem,simprocAttr,-List.reduceReplicate,f,i,l,m,U.af (n _ _ A),dx];rw[o];refine ai (so _ _ c _ e.live.toNat a9r A (by grind)) ?_;intro _ k0 H;simp -dsimp -implicitDefEqProofs (disch:=first|omega|assumption|(simp only[aE,Nat.reduceAdd];try omega)) only[go_sem,simprocAttr,-List.reduceReplicate,f,i,l,m,U.af (n _ _ H),u];rw[t];have cl:=kB e.live.toNat;have K:=kB e.size.toNat;refine ai (so _ _ c _ e.size.toNat a9r H (by grind)) ?_;intro _ o B;simp -dsimp -implicitDefEqProofs (disch:=first|omega|assumption|(simp only[aE,Nat.reduceAdd];try omega)) only[go_sem,simprocAttr,-List.reduceReplicate,f,i,l,m,U.af (n _ _ B),a4];have o:=λd=>xj (a:=d);have d:=o e.aV;have d:=o e.aW;refine ai (sq _ _ c _ e.aV p a9r B (by grind)) ?_;intro _ d d;simp -dsimp -implicitDefEqProofs (disch:=first|omega|assumption|(simp only[aE,Nat.reduceAdd];try omega)) only[go_sem,simprocAttr,-List.reduceReplicate,f,i,l,m,U.af (n _ _ d),a5];refine ai (sq _ _ c _ e.aW q a9r d (by grind)) ?_;intro _ d d;simp -dsimp -implicitDefEqProofs (disch:=first|omega|assumption|(simp only[aE,Nat.reduceAdd];try omega)) only[go_sem,simprocAttr,-List.reduceReplicate,f,i,l,m,U.af (n _ _ d),D];refine ai (sq _ _ c _ e.key s a9r d (by grind)) ?_;intro _ d d;refine ax (aM @f @i @l @m) ?_;refine⟨⟨b+1,a9r,?_,a9s⟩,a9r⟩;have B:=d.base (U.ae (Y:= .cells k) (U.a1 (f:=g)) E);grind[List.append_assoc,ei]
  .obtain rfl:b=a.kids.length:=a9r;rw[a5h]at j;have h:=V a.kids.length;rw[a5h]at h;refine ax (bp @f @i @l @m @y) ?_;refine ai (CH _ x c _ j (by grind)) ?_;rintro _ a ⟨d,b,rfl⟩;refine ax @f ?_;refine ai (CU _ a c _ (j.mono b.sub)) ?_;rintro _ a ⟨rfl,rfl⟩;refine cp ?_;refine⟨_,U.a1,U.aq v (U.aq (j.sub S) b.sub),d,?_⟩;rw[X]
end Go.Proofs.YtlgnfcaolejgeaaGreat
set_option maxHeartbeats 1000000
namespace Go.Proofs.YtlgnfcaolejgeaaGreat
open Go Go.bB
theorem ct:(List.replicate 32 (R.v (.int .u8 0))++ [R.J [] .nil,.J [] .nil]++ [R.v (.int .i64 0),.v (.int .i64 0)]++ [R.J [] .nil])=ab aA .nil .nil .nil:=by rw[show List.replicate 32 (R.v (.int .u8 0))=(List.replicate 32 (0:UInt8)).map ak by rw[List.map_replicate];rfl];simp only[a4W];rfl
variable{w j2:ay}{B:List UInt8}{N e5 h5:Own}
theorem um (a:w.sum.length=32) (b:B.length=32):putAt (ab w N e5 h5) 0 (B.map ak)=ab {w with sum:=B} N e5 h5:=by grind[ak,ab,putAt,List.length_map,List.drop_append,List.drop_eq_nil_of_le]
variable{n b3:R}{g A e1:List R}
theorem uo {b c d:R} (r:g.length=32):(∀a x,putAt (g++ [n,b3,b,c,d]) 32 [a,x]=g++ [a,x,b,c,d])/\(∀a,putAt (g++ [n,b3,b,c,d]) 34 [a]=g++ [n,b3,a,c,d])/\
  (∀a,putAt (g++ [n,b3,b,c,d]) 35 [a]=g++ [n,b3,b,a,d])/\ ∀a,putAt (g++ [n,b3,b,c,d]) 36 [a]=g++ [n,b3,b,c,a]:=by
 have o: ∀h (k:List R),(g++k).take (32+h)=g++k.take h:=λh k=>by rw[<-r,a7E]
 have p: ∀h (k:List R),(g++k).drop (32+h)=k.drop h:=λh k=>by rw[<-r,a7F]
 have y:=o 0;have z:=o 2;have C:=o 3;have D:=o 4;have E:=p 2;have F:=p 3;have G:=p 4;simp_all [a6z,Nat.reduceAdd,putAt,a4O,a4T,a5g]
variable{b1:Int}
theorem sB (a:w.sum.length=32):putAt (ab w N e5 h5) 34 [.v (.int .i64 b1)]=ab {w with live:=b1} N e5 h5:=(uo (by simp[a])).2.1 _
theorem sC (a:w.sum.length=32):putAt (ab w N e5 h5) 35 [.v (.int .i64 b1)]=ab {w with size:=b1} N e5 h5:=(uo (by simp[a])).2.2.1 _
variable{q b6:List Int}
theorem sD {a:Own} (b:w.sum.length=32):putAt (ab w N e5 a) 36 [.J (ad q) h5]=ab {w with key:=q} N e5 h5:=(uo (by simp[b])).2.2.2 _
theorem xx {a b:Own} (c:w.sum.length=32):putAt (ab w a b N) 32 [.J (ad q) e5,.J (ad b6) h5]=ab {w with aV:=q,aW:=b6} e5 h5 N:=(uo (by simp[c])).1 _ _
theorem cG {a b c:Own} (d:j2.sum.length=32) (h:w.sum.length=32):putAt (ab j2 a b c) 0 (ab w N e5 h5)=ab w N e5 h5:=by have o:=(aX (N:=a) (e5:=b) (h5:=c) d).len;have k:=(aX (N:=N) (e5:=e5) (h5:=h5) h).len;rw[putAt,a6s,a5d,k,a5x a9r,a5T]
theorem bl:aA.sum.length=32:=by simp[aA]
theorem sE:(gu q).1.length<=8/\(gu q).2.length<=8:=by grind[gu]
variable{e i v M c0 j0:Nat}{e0:c5}
theorem xy (b:e<=8) (c:dX e e0=true) (k: ∀a∈e0.kids,a.sum.length=32):(dc e0).length<=2000:=by obtain⟨o,p,r⟩:=ln c;have x:=uk b c;have z:=qL (l:=e0.rows) (d:=100) λd y=>xv (a:=d) (by rw[o d y];exact b);have C:=qL (l:=e0.kids) (d:=300) λa h=>sA (k a h) (x a h);have a3:e0.rows.length*100<=4*100:=a5a _ p;have a4:e0.kids.length*300<=4*300:=a5a _ r;unfold dc;grind
theorem az.all (b:az bt e0.kids g): ∀a∈e0.kids,a.sum.length=32/\a.cF:=by intro a c;obtain⟨o,d,rfl⟩:=a5A c;obtain⟨p,_,h,k,_⟩:=b.get (a4J d);exact⟨h,k⟩
abbrev fM (b:List UInt8) (a:gg):ay:=⟨b,a.aQ.1,a.aQ.2,a.live,a.size,[]⟩
theorem Yh (z:B.length=32): ∃p:List Int->List Int->Int->Int->List Int->Own->Own->Own->List R,(∀(x:ay) a b c,x.sum=B->ab x a b c=p x.aV x.aW x.live x.size x.key a b c)/\putAt (ab aA .nil .nil .nil) 0 (B.map ak)=p [] [] 0 0 [] .nil .nil .nil/\
  ∀d h k cr o a b c,(p d h k cr o a b c).length=37/\(p d h k cr o a b c).take 37=p d h k cr o a b c/\((p d h k cr o a b c).drop 32).take 2= [.J (ad d) a,.J (ad h) b]/\aY false 1 ((p d h k cr o a b c).drop 34)= .v (.int .i64 k)/\aY false 1 ((p d h k cr o a b c).drop 35)= .v (.int .i64 cr)/\putAt (ab aA .nil .nil .nil) 0 (p d h k cr o a b c)=p d h k cr o a b c/\
   (∀r,putAt (p d h k cr o a b c) 34 [.v (.int .i64 r)]=p d h r cr o a b c)/\(∀r,putAt (p d h k cr o a b c) 35 [.v (.int .i64 r)]=p d h k r o a b c)/\(∀r y,putAt (p d h k cr o a b c) 36 [.J (ad r) y]=p d h k cr r a b y)/\ ∀r C y D,putAt (p d h k cr o a b c) 32 [.J (ad r) y,.J (ad C) D]=p r C k cr o y D c:=by
 refine⟨λd h k cr o a b c=>ab ⟨B,d,h,k,cr,o⟩ a b c,λx _ _ _ E=>by subst E;rfl,um bl z,λd h k cr o a b c=> ?_⟩;have F:=(aX (w:=⟨B,d,h,k,cr,o⟩) (N:=a) (e5:=b) (h5:=c) z).all;grind[cG,bl,sB,sC,sD,xx]
theorem Dc (b:c5) (q s:List R) (N O:R) (a:Nat) (v:1<=a) (n:a<=8) (e:U) (j:fC e b N O q s):
  AC Tryz.prog 138 [gQ b N O,.v (.int .i64 (a:Int))] e λc p=>e.sub p/\match fK a b with
   |none=>c= .aL [.agg (ab aA .nil .nil .nil),.v (.int .i64 1)]
   |some d=> ∃f g h,c= .aL [.agg (ab d f g h),.v (.int .i64 0)]:=by
 have i:=j.hb;have i:=j.uj;have i:=j.kC;have i:=j.iC;have i:=oh (dc b);obtain⟨X,k,k,k⟩:=Yh i;have G:=λl Y P cr m f g h=>(k l Y P cr m f g h).1;have h:(cM (eV (dc b))).cells=(eV (dc b)).map ak:=rfl;have h:((eV (dc b)).map ak).length=32:=by simp[i]
 have h:=ct;have h:=(aX (N:= .nil) (e5:= .nil) (h5:= .nil) bl).all;have k8:=λd (k l o:Own) h=>cG (a:= .nil) (b:= .nil) (c:= .nil) (w:=d) (N:=k) (e5:=l) (h5:=o) bl h;have i:=k8 aA .nil .nil .nil bl;generalize i:ab aA .nil .nil .nil=k2 at*;obtain⟨i,r⟩: ∃i,fK a b=i:=⟨_,rfl⟩;rw[r];unfold fK eW at r;have k1:= @U.set_set;have i:= @rT;refine aO hm Nf ?_;refine br λt w=> ?_;refine db λQ x _ _=> ?_;generalize m:(e.set t _).set Q _=i;have u:e.sub i:=by subst m;exact aU
 have c2:i t=some (.cells [.v (.int .u8 (b.kind.toNat:Int)),N,O]):=by subst m;exact aU
 have aM:i Q=some (.cells k2):=by subst m;exact aU
 clear m w;refine cl (xw b q s N O a v n _ (j.mono u)) ?_;rintro c S ⟨q,i⟩;replace c2:=q _ _ c2;replace aM:=q _ _ aM;have H:=U.aq u q;have V:=U.af c2;have k3:=U.aJ aM;have q: ∀p y,S.sub p->e.sub (p.set Q y):=λp y h=>U.ae (U.aq H h) x;unfold ss at i;cases t:dX a b with
 |false=>rw[t]at i r;rw[if_neg a9s]at r;obtain rfl:=i;subst r;exact aU
 |true=>
  rw[t]at i r;rw[if_pos rfl]at r;obtain⟨q,rfl⟩:=i;obtain⟨k9,a,a⟩:=ln t;have l0:=uk n t;have a:=j.kids.all;have e:=xy n t λd e=>(a d e).1;obtain⟨e,z⟩: ∃e:Nat->gg,e=λa=>(b.rows.take a).foldl dQ ⟨0,b.rows.length,([],[])⟩:=⟨_,rfl⟩;obtain⟨T,I⟩: ∃T:Nat->gg,T=λa=>(b.kids.take a).foldl ew (e b.rows.length):=⟨_,rfl⟩;have i:e 0=⟨0,b.rows.length,([],[])⟩:=by subst z;rfl
  have l1:T 0=e b.rows.length:=by subst I;rfl
  have v: ∀a c,b.rows[a]? =some c->e (a+1)=dQ (e a) c:=λa c h=>by subst z;simp[a5Y,h]
  have l2: ∀a d,b.kids[a]? =some d->T (a+1)=ew (T a) d:=λa d h=>by subst I;simp[a5Y,h]
  have h:eG b=T b.kids.length:=by subst I;subst z;simp[eG]
  rw[h]at r;clear z I h;refine aa ?_;refine lY (D4 (dc b) q _ a9r) ?_;refine br λA M=> ?_;have h:=U.gZ M c2;have h:=U.gZ M aM;refine aa ?_;refine cj [2,4,8,30,31] (λa:Nat=> [(32,.v (.int .i64 (a:Int)))]) (λa p=>a<=b.rows.length/\S.sub p/\(0<=(e a).live/\(e a).live<=a/\(e a).size=b.rows.length/\(e a).aQ.1.length<=8/\(e a).aQ.2.length<=8)/\ ∃f g,p A=some (.cells (X (e a).aQ.1 (e a).aQ.2 (e a).live b.rows.length [] f g .nil))) (λa=>b.rows.length - a) 0 ⟨⟨a9r,U.ae (U.ae U.a1 M) M,by simp[i],.nil,.nil,by rw[i];exact U.ah _ _ _⟩,aU⟩ ?_;rintro a n ⟨Y,h,⟨l3,l4,k4,Z,j9⟩,f,g,bw⟩ l7;have l5:=G (e a).aQ.1 (e a).aQ.2 (e a).live b.rows.length [] f g .nil;have k0:=G (e a).aQ.1 (e a).aQ.2 ((e a).live+1) b.rows.length [] f g .nil;have B:=U.af bw;have u:=U.aJ bw;have V:=rd h c2;refine aa ?_;refine aH (λs=> ?_) λs=> ?_
  .have K:=a4J (show a<b.rows.length by omega);have z:=v a _ K;have k5:=k9 _ (a5o (l:=b.rows) (n:=a) a9r);generalize b.rows[a]'a9r=c at K z k5;obtain⟨_,L,C,rfl⟩:=j.rows.get K;obtain⟨D,v,q⟩:=(j.lR.mono (U.aq H h)).get a _ L;have w:dr true 2 n D=some (.agg [.J (ad c.1) C,.v (.bool c.2)]):=q.ld n U.a1 true 2 a9r (by simp[R.cells]);obtain⟨c,P⟩:=c;refine aa ?_;refine br λW F=> ?_;have k6:=U.gZ F bw;obtain⟨i,E⟩: ∃i,n.set W (.cells [.J (ad c) C,.v (.bool P)])=i:=⟨_,rfl⟩;have x:n.sub i:=by rw[<-E];exact U.ae U.a1 F
   have cu:i W=some (.cells [.J (ad c) C,.v (.bool P)]):=by rw[<-E,U.ah]
   rw[k1,E];have B:=rd x bw;have u:=U.aJ (x _ _ bw);have k7:=U.af cu;clear E w v q V;refine aH (λs=> ?_) λs=> ?_<;>subst s
   .generalize m:i.set A _=F;have bw:F A=some (.cells (X (e a).aQ.1 (e a).aQ.2 ((e a).live+1) b.rows.length [] f g .nil)):=by subst m;exact U.ah _ _ _
    have cu:F W=some (.cells [.J (ad c) C,.v (.bool true)]):=by subst m;rw[U.an _ _ k6.symm];exact cu
    have k6:S.sub F:=by subst m;exact U.ae (U.aq h x) M
    clear m;refine cl (Y5 F c C (by dsimp only at k5;omega)) ?_;rintro _ W ⟨k1,k,l,rfl⟩;have B:=rd k1 bw;have k7:=rd k1 cu;have l6:=sE (q:=c);refine cl (D6 W (e a).aQ.1 (e a).aQ.2 (gu c).1 (gu c).2 f g k l a9r a9r a9r a9r) ?_;rintro _ l8 ⟨W,rfl⟩;have u:=U.aJ (W _ _ (k1 _ _ bw));have k7:=oq (e a).aQ (gu c) 8 Z j9 l6.1 l6.2;refine aa ?_;refine⟨a+1,⟨a9r,U.aq k6 (U.aq k1 W),?_,.any,.any,?_⟩,rfl,a9r⟩<;>rw[z,dQ,if_pos rfl];grind
   .refine⟨a+1,⟨a9r,U.aq h x,?_,f,g,?_⟩,rfl,a9r⟩<;>rw[z,dQ,if_neg a9s];omega
    .exact x _ _ bw
  obtain rfl:a=b.rows.length:=a9r;refine cj [2,4,8,51,52] (λa:Nat=> [(53,.v (.int .i64 (a:Int)))]) (λa p=>a<=b.kids.length/\S.sub p/\(0<=(T a).live/\(T a).live<=4+a*1048576/\0<=(T a).size/\(T a).size<=4+a*1048576/\(T a).aQ.1.length<=8/\(T a).aQ.2.length<=8)/\ ∃f g,p A=some (.cells (X (T a).aQ.1 (T a).aQ.2 (T a).live (T a).size [] f g .nil))) (λa=>b.kids.length - a) 0 ⟨⟨a9r,h,by grind,f,g,by rw[l1,k4];exact bw⟩,aU⟩ ?_;clear l5 k0 bw B u V h s l3 l4 k4 Z j9 Y;rintro a n ⟨Y,h,⟨l3,l4,k4,e,Z,j9⟩,f,g,bw⟩ l7;have l5:=G (T a).aQ.1 (T a).aQ.2 (T a).live (T a).size [] f g .nil;have B:=U.af bw;have u:=U.aJ bw;have V:=rd h c2;have k3:=U.aJ (h _ _ aM);refine aa ?_;refine aH (λs=> ?_) λs=> ?_
  .have K:=a4J (show a<b.kids.length by omega);have I:=l2 a _ K;have e:=l0 _ (a5o (l:=b.kids) (n:=a) a9r);generalize b.kids[a]'a9r=d at K I e;obtain⟨_,L,z,k1,k,l,o,rfl⟩:=j.kids.get K;obtain⟨D,v,q⟩:=(j.gX.mono (U.aq H h)).get a _ L;have p:=aX (N:=k) (e5:=l) (h5:=o) z;change ng n D (ab d k l o)at q;have w:=q.ld n U.a1 true 37 a9r (by rw[p.len];omega);rw[show aY true 37 (ab d k l o)= .agg (ab d k l o) by rw[aY,if_pos rfl,p.t37]]at w;have p:=p.all;have K:=k8 d k l o z;generalize ab d k l o=K at*;have P:=e.nd;have cr:=e.nf;have P:=e.live;have P:=e.size;have k4:=e.aV;have k8:=e.aW;refine aa ?_;have k0:=G (T a).aQ.1 (T a).aQ.2 ((T a).live+d.live) (T a).size [] f g .nil;have P:=G (T a).aQ.1 (T a).aQ.2 ((T a).live+d.live) ((T a).size+d.size) [] f g .nil;refine br λP Y=> ?_;have l3:=U.gZ Y bw;obtain⟨i,E⟩: ∃i,n.set P (.cells K)=i:=⟨_,rfl⟩;have x:n.sub i:=by rw[<-E];exact U.ae U.a1 Y
   have Y:i.read P=some K:=U.af (by rw[<-E,U.ah]);have B:=rd x bw;have u:=U.aJ (x _ _ bw);clear w v q V;refine aa ?_;generalize m:i.set A _=F;have bw:F A=some (.cells (X (T a).aQ.1 (T a).aQ.2 ((T a).live+d.live) ((T a).size+d.size) [] f g .nil)):=by subst m;exact U.ah _ _ _
   have k6:S.sub F:=by subst m;exact U.ae (U.aq h x) M
   clear m E B u Y;refine cl (D6 F (T a).aQ.1 (T a).aQ.2 d.aV d.aW f g k l a9r a9r a9r a9r) ?_;rintro _ l8 ⟨W,rfl⟩;have u:=U.aJ (W _ _ bw);have k7:=oq (T a).aQ (d.aV,d.aW) 8 Z j9 k4 k8;refine aa ?_;refine⟨a+1,⟨a9r,U.aq k6 W,?_,.any,.any,?_⟩,rfl,a9r⟩<;>rw[I,ew];exact⟨by dsimp only;omega,by dsimp only;omega,by dsimp only;omega,by dsimp only;omega,k7.1,k7.2⟩
  obtain rfl:a=b.kids.length:=a9r;clear l2 l1;generalize T b.kids.length=m at*;refine aH (λs=> ?_) λs=> ?_;grind;rw[if_neg s]at r;subst r;by_cases g2:b.kind=2
  .have br:(b.kind.toNat:Int)=2:=by rw[g2];rfl
   obtain⟨c,s,x⟩: ∃c s,b.rows=c::s:=a6V (by rintro r;unfold dX at t;simp[g2,r]at t);have k5:=k9 c (by simp[x]);obtain⟨_,L,C,rfl⟩:=j.rows.get (i:=0) (x:=c) (by rw[x];rfl);obtain⟨D,v,q⟩:=(j.lR.mono (U.aq H h)).get 0 _ L;obtain⟨E,F,w⟩:=q.kZ n U.a1 0 false 1 a9r (by simp[R.cells]);have v:cS 2 N (.v (.int .i64 0))=some D:=v;have w:dr false 1 n E=some (.J (ad c.1) C):=w;have k0:=G m.aQ.1 m.aQ.2 m.live m.size c.1 f g .any;refine iB ?_;refine cl (sy c.1 C _ a9r) ?_;rintro _ i ⟨a,rfl⟩;have B:=rd a bw;have u:=U.aJ (a _ _ bw);have k3: ∀y,ep (i.set A y) Q=some k2:=λy=>U.aJ (by rw[U.an _ _ a9u];exact a _ _ (h _ _ aM));refine aa ?_;exact⟨U.aq H (U.aq h a),f,g,.any,by simp[keyOf,g2,x]⟩
  have br: ¬(b.kind.toNat:Int)=2:=λr=>g2 (a5I.1 (by grind));refine iB ?_;by_cases g3:b.kind=3
  .have hq:(b.kind.toNat:Int)=3:=by rw[g3];rfl
   obtain⟨d,x,x⟩: ∃c s,b.kids=c::s:=a6V (by rintro r;unfold dX at t;simp[g3,r]at t);have e:=(l0 d (by simp[x])).key;obtain⟨_,L,z,k1,k,l,o,rfl⟩:=j.kids.get (i:=0) (x:=d) (by rw[x];rfl);obtain⟨D,v,q⟩:=(j.gX.mono (U.aq H h)).get 0 _ L;have p:=aX (N:=k) (e5:=l) (h5:=o) z;change ng n D (ab d k l o)at q;obtain⟨E,F,w⟩:=q.kZ n U.a1 36 false 1 a9r (by rw[p.len];omega);have v:cS 37 O (.v (.int .i64 0))=some D:=v;rw[p.all.2.2.2.2.2.2.2.2]at w;have k0:=G m.aQ.1 m.aQ.2 m.live m.size d.key f g .any;refine iB ?_;refine cl (sy d.key o _ a9r) ?_;rintro _ i ⟨a,rfl⟩;have B:=rd a bw;have u:=U.aJ (a _ _ bw);have k3: ∀y,ep (i.set A y) Q=some k2:=λy=>U.aJ (by rw[U.an _ _ a9u];exact a _ _ (h _ _ aM));refine aa ?_;exact⟨U.aq H (U.aq h a),f,g,.any,by simp[keyOf,g3,x]⟩
  have hq: ¬(b.kind.toNat:Int)=3:=λr=>g3 (a5I.1 (by grind));refine iB ?_;grind[keyOf]
theorem Dd {h k d:R} (o:g.length=32):(∀c,putAt (g++ [h,k,n,b3,d]) 32 [c]=g++ [c,k,n,b3,d])/\ ∀c,putAt (g++ [h,k,n,b3,d]) 33 [c]=g++ [h,c,n,b3,d]:=by
 have p: ∀a (b:List R),(g++b).take (32+a)=g++b.take a:=λa b=>by rw[<-o,a7E]
 have r: ∀a (b:List R),(g++b).drop (32+a)=b.drop a:=λa b=>by rw[<-o,a7F]
 have x:=p 0;have y:=p 1;have z:=r 1;have C:=r 2;simp_all [a6z,Nat.reduceAdd,putAt,a4O,a4T,a5g]
def De {a:Own} (b:w.sum.length=32):putAt (ab w a N e5) 32 [.J (ad q) h5]=ab {w with aV:=q} h5 N e5:=(Dd (by simp[b])).1 _
def Df {a:Own} (b:w.sum.length=32):putAt (ab w N a e5) 33 [.J (ad q) h5]=ab {w with aW:=q} N h5 e5:=(Dd (by simp[b])).2 _
variable{f t e7:U}{Y:bq}
def bX.put {b:Rd} (a:bq) (c:bX (f.set e Y) i b t) (d:e≠i):bX (f.set e a) i b (t.set e a):=by have:=c.other (ob:=a) d;rwa[U.set_set]at this
theorem Yi (a b:U) (k:Nat) (i:Nat) (c:i<=8) (d:Rd) (h:a k=none) (p:bX a k d b):
  AC Tryz.prog 208 [.ptr k 0,.v (.int .i64 (i:Int))] b λm r=>bX a k (hZ i d).2 r/\(hZ i d).1.sum.length=32/\(hZ i d).1.cF/\ ∃b e g,m= .agg (ab (hZ i d).1 b e g):=by
 have eR:=aX (N:= .nil) (e5:= .nil) (h5:= .nil) bl;have w:=eR.len;have c:=eR.t37;refine bf hm Pm a9s ?_;have x: ∀c,(R.agg c).cells=c:=λ_=>rfl;have D: ∀c:Int,(R.v (.int .i64 c)).cells= [.v (.int .i64 c)]:=λ_=>rfl;have y: ∀(c:List Int) (f:Own),(R.J (ad c) f).cells= [.J (ad c) f]:=λ_ _=>rfl;refine ax @ct ?_;refine aP λo f=> ?_;obtain⟨z,E,p⟩:=p.new (ob:= .cells (ab aA .nil .nil .nil)) f;have f:a.sub (a.set o (.cells (ab aA .nil .nil .nil))):=U.ae U.a1 E;have F:(a.set o (.cells (ab aA .nil .nil .nil))) k=none:=by rw[U.an _ _ (a4S z)];exact h
 have A:(a.set o (.cells (ab aA .nil .nil .nil))) o=some (.cells (ab aA .nil .nil .nil)):=U.ah _ _ _;obtain⟨u,h⟩: ∃u:U,u=a.set o (.cells (ab aA .nil .nil .nil)):=⟨_,rfl⟩;rw[<-h]at p f F A;refine cp ?_;refine ai (CQ _ _ k d p) ?_;rintro m a ⟨t,rfl⟩;unfold hZ;have l:=CP d;generalize mZ d=h at*;obtain⟨a,G⟩:=h;simp only at t l|-;have H:(cM a).cells=a.map ak:=rfl;have I:(a.map ak).length=32:=by simp[l]
 have K:putAt (ab aA .nil .nil .nil) 0 (a.map ak)=ab ⟨a,[],[],0,0,[]⟩ .nil .nil .nil:=um bl l;have L: ∀(h:ay) (b e g:Own),h.sum.length=32->putAt (ab aA .nil .nil .nil) 0 (ab h b e g)=ab h b e g:=λh b e g f=>cG bl f;have cl: ∀(f j:List Int) (q s:Int) (n:List Int) (b e g:Own),qK ⟨a,f,j,q,s,n⟩ b e g (ab ⟨a,f,j,q,s,n⟩ b e g):=λf j q s n b e g=>aX l;have B:=(cl [] [] 0 0 [] .nil .nil .nil).len;have M:=L ⟨a,[],[],0,0,[]⟩ .nil .nil .nil l;refine ax (bw @x @H @I @ct @K @w @B @M) ?_;refine aP λs v=> ?_;obtain⟨q,C,N⟩:=t.new (ob:= .cells (ab ⟨a,[],[],0,0,[]⟩ .nil .nil .nil)) v;have v:o≠s:=by rintro rfl;rw[A]at C;cases C
 have C: ∀t,(u.set s t) k=none:=λt=>by rw[U.an _ _ (a4S q)];exact F
 have aa: ∀ {t d r},bX (u.set s t) k d r->r s=some t/\r o=some (.cells (ab aA .nil .nil .nil)):=λp=>⟨p.get q (U.ah _ _ _),p.get z (by rw[U.an _ _ v];exact A)⟩;refine ax (ds @x @H @I @ct @K @w @B @M @U.set_set) ?_;refine ai (sr _ _ k 1048576 a9r _ N) ?_;rintro m d ⟨r,rfl⟩;have p:=xk 1048576 G;generalize fA 1048576 G=h at*;obtain⟨d,t⟩:=h;simp only at r p|-;have p:=(aa r).1;have c2:=(cl [] [] d 0 [] .nil .nil .nil).len;have u:putAt (ab ⟨a,[],[],0,0,[]⟩ .nil .nil .nil) 34 [.v (.int .i64 (d:Int))]=ab ⟨a,[],[],d,0,[]⟩ .nil .nil .nil:=sB l;replace r:=r.put (.cells (ab ⟨a,[],[],d,0,[]⟩ .nil .nil .nil)) q;refine ax (aM @D (U.aJ p) @B @u) ?_;refine ai (sr _ _ k 1048576 a9r _ r) ?_;rintro m r ⟨r,rfl⟩;have u:=xk 1048576 t;generalize fA 1048576 t=h at*;obtain⟨c,t⟩:=h;simp only at r u|-;replace p:=(aa r).1;have aI:=(cl [] [] d c [] .nil .nil .nil).len;have u:putAt (ab ⟨a,[],[],d,0,[]⟩ .nil .nil .nil) 35 [.v (.int .i64 (c:Int))]=ab ⟨a,[],[],d,c,[]⟩ .nil .nil .nil:=sC l;replace r:=r.put (.cells (ab ⟨a,[],[],d,c,[]⟩ .nil .nil .nil)) q;refine ax (aM @D (U.aJ p) @c2 @u) ?_;refine ai (pj _ _ k i a9r _ (C _) r) ?_;rintro m r ⟨r,b,rfl⟩;have u:=xl i t;generalize hY i t=h at*;obtain⟨f,t⟩:=h;simp only at r u|-;replace p:=(aa r).1;have aM:=(cl f [] d c [] b .nil .nil).len;have u:putAt (ab ⟨a,[],[],d,c,[]⟩ .nil .nil .nil) 32 [.J (ad f) b]=ab ⟨a,f,[],d,c,[]⟩ b .nil .nil:=De l;replace r:=r.put (.cells (ab ⟨a,f,[],d,c,[]⟩ b .nil .nil)) q;simp -dsimp -implicitDefEqProofs (disch:=first|omega|assumption|(simp only[aE,Nat.reduceAdd];try omega)) only[go_sem,simprocAttr,-List.reduceReplicate,y,U.aJ p,aI,u];refine ai (pj _ _ k i a9r _ (C _) r) ?_;rintro m r ⟨r,e,rfl⟩;have u:=xl i t;generalize hY i t=h at*;obtain⟨j,t⟩:=h;simp only at r u|-;replace p:=(aa r).1;have bp:=(cl f j d c [] b e .nil).len;have u:putAt (ab ⟨a,f,[],d,c,[]⟩ b .nil .nil) 33 [.J (ad j) e]=ab ⟨a,f,j,d,c,[]⟩ b e .nil:=Df l;replace r:=r.put (.cells (ab ⟨a,f,j,d,c,[]⟩ b e .nil)) q;simp -dsimp -implicitDefEqProofs (disch:=first|omega|assumption|(simp only[aE,Nat.reduceAdd];try omega)) only[go_sem,simprocAttr,-List.reduceReplicate,y,U.aJ p,aM,u];refine ai (pj _ _ k i a9r _ (C _) r) ?_;rintro m r ⟨k,g,rfl⟩;have u:=xl i t;generalize hY i t=h at*;obtain⟨n,i⟩:=h;simp only at k u|-;replace p:=(aa k).1;have h:=cl f j d c n b e g;have bD:=h.len;have t:putAt (ab ⟨a,f,j,d,c,[]⟩ b e .nil) 36 [.J (ad n) g]=ab ⟨a,f,j,d,c,n⟩ b e g:=sD l;replace k:=k.put (.cells (ab ⟨a,f,j,d,c,n⟩ b e g)) q;have i:=(aa k).2;have q:=(aa k).1;have q:=a4S v;have u:=L ⟨a,f,j,d,c,n⟩ b e g l;have A:r o=some (.cells (ab aA .nil .nil .nil)):=by rw[U.an _ _ v]at i;exact i
 refine ax (fx @y (U.aJ p) @bp @t @U.ah @U.an @v @q (U.aJ A) h.t37 @w @bD @u @x) ?_;refine⟨_,U.a1,?_,l,⟨by simp only;omega,by simp only;omega,by simp only;omega⟩,b,e,g,rfl⟩;refine(k.other (ob:= .cells (ab ⟨a,f,j,d,c,n⟩ b e g)) z).base ?_;intro m a a;have b:m≠o:=by rintro rfl;rw[E]at a;cases a
 have a:m≠s:=by rintro rfl;simp_all [U.an]
 simp_all [U.an]
def ot (a:g.length=e*i):bN (f.set v (.cells g)) i (.al v e e i)=some (e,g):=by simp[bN,U.af (U.ah _ _ _),<-a]
def ar.rs {a:Rd} (b:ar (f.set e (hV a N)) t i g n):bX f e a t:=⟨N,b.1⟩
def ar.sF {p h:Rd} (r:ar (f.set e (hV p N)) t i g n) (x:f e=none) (y:bX (t.del e) e h e7): ∃c,ar (f.set e (hV h c)) e7 i g n:=by
 obtain⟨c,k⟩:=y;obtain⟨z,d⟩:=r;refine⟨c,U.aq (U.lh (CY z x)) k,?_⟩;rcases d with d|⟨o,C,D,E,F,a,G,L⟩
 .exact .inl d
 .have b:o≠e:=by rintro rfl;rw[U.ah]at a;cases a
  rw[U.an _ _ b]at a;exact .inr ⟨o,C,D,E,F,by rw[U.an _ _ b];exact a,k _ _ (by rw[U.an _ _ b,U.eJ _ b];exact G),L⟩
def hy (h k:U) (a:c5) (o p:R):Prop:= ∃b c d,ar h b 2 (flat c) o/\ar b k 37 (flat d) p/\az di a.rows c/\az bt a.kids d/\a.rows.length<=100000/\a.kids.length<=100000
def hy.sub {a b:U}{c:c5}{d h:R} (k:hy a b c d h):a.sub b:=by obtain⟨r,x,y,o,p,_⟩:=k;exact U.aq o.1 p.1
def hy.L (k:hy t f e0 n b3): ∃a b,fC f e0 n b3 a b:=by obtain⟨x,a,b,o,c,d,h,p,r⟩:=k;exact⟨a,b,d,h,(bT.dW o a9r rfl (d.cells λ_ _=>di.cells)).mono c.1,bT.dW c a9r rfl (h.cells λ_ _=>bt.cells),p,r⟩
theorem hy.base {a b c:U}{d:c5}{h k:R} (o:hy b c d h k) (p:a.sub b):hy a c d h k:=by obtain⟨r,x,y,z,C,D⟩:=o;exact⟨r,x,y,z.base p,C,D⟩
def hy.mono {a b c:U}{d:c5}{h k:R} (o:hy a b d h k) (p:b.sub c):hy a c d h k:=by obtain⟨r,x,y,z,C,D⟩:=o;exact⟨r,x,y,z,C.mono p,D⟩
theorem hy.set {b c:U}{a:Nat}{r ob:bq}{d:c5}{h k:R} (x:hy b c d h k) (o:b a=some r):hy (b.set a ob) (c.set a ob) d h k:=by obtain⟨y,z,C,p,D,E⟩:=x;exact⟨y.set a ob,z,C,jQ p o,jQ D (p.1 _ _ o),E⟩
variable{b0:Type}
def Dg {a:Rd->b0×Rd}{b:Rd}{c:List b0} (d:i<e):fB a (e - i) b c=fB a (e -(i+1)) (a b).2 (c++ [(a b).1]):=by rw[show e - i=(e -(i+1))+1 by omega];rfl
abbrev xz:R:= .agg [.v (.int .u8 0),.J [] .nil,.J [] .nil]
theorem Yj (x:List UInt8) (H:Own) (f:Nat) (n3:1<=f) (k5:f<=8) (e:U) (a:x.length<=1000000000000):
  AC Tryz.prog 137 [.J (x.map ak) H,.v (.int .i64 (f:Int))] e λD n=>e.sub n/\match pn f x with
   |none=>D= .aL [xz,.v (.int .i64 21)]
   |some I=> ∃c s,D= .aL [gQ I c s,.v (.int .i64 0)]/\hy e n I c s:=by
 refine mU λa=> ?_;have i:H= .nil->x= []:=λn4=>by simp_all
 refine bf hm Nc a9s ?_;have K: ∀k6,(R.agg k6).cells=k6:=λ_=>rfl;have W: ∀a d b c s g:R,putAt [a,d,b] 0 [c,s,g]= [c,s,g]:=λ_ _ _ _ _ _=>rfl;have X: ∀a d b,aY true 3 [a,d,b]= .agg [a,d,b]:=λ_ _ _=>rfl;have F: ∀a d b:R,aY false 1 ([a,d,b].drop 1)=d:=λ_ _ _=>rfl;have n5: ∀a d b:R,aY false 1 ([a,d,b].drop 2)=b:=λ_ _ _=>rfl;have k: ∀a d b c:R,putAt [a,d,b] 0 [c]= [c,d,b]:=λ_ _ _ _=>rfl;have P: ∀a d b:R,[a,d,b].length=3:=λ_ _ _=>rfl;have G: ∀a d c:R,putAt [a,d] 0 [c]= [c,d]:=λ_ _ _=>rfl;have k4: ∀a d c:R,putAt [a,d] 1 [c]= [a,c]:=λ_ _ _=>rfl;have l9: ∀a d:R,[a,d].length=2:=λ_ _=>rfl;have n0: ∀d:Bool,(R.v (.bool d)).cells= [.v (.bool d)]:=λ_=>rfl;have n1: ∀(g:List Int) (h:Own),(R.J (ad g) h).cells= [.J (ad g) h]:=λ_ _=>rfl;have a00: ∀a d b c:R,putAt [a,d,b] 1 [c]= [a,c,b]:=λ_ _ _ _=>rfl;have a01: ∀a d b c:R,putAt [a,d,b] 2 [c]= [a,d,c]:=λ_ _ _ _=>rfl;refine cp ?_;refine aP λz g=> ?_;have l3:e.sub (e.set z (.cells [.v (.int .u8 0),.J [] .nil,.J [] .nil])):=U.ae U.a1 g;have k7:(e.set z (.cells [.v (.int .u8 0),.J [] .nil,.J [] .nil])) z=some (.cells [.v (.int .u8 0),.J [] .nil,.J [] .nil]):=U.ah _ _ _;obtain⟨Q,h⟩: ∃Q:U,Q=e.set z (.cells [.v (.int .u8 0),.J [] .nil,.J [] .nil]):=⟨_,rfl⟩;rw[<-h]at l3 k7;have n9: ∀(n:U) (C:bq),e.sub n->e.sub (n.set z C):=λn C u=>U.ae u g;refine cp ?_;rw[<-h];refine ai (CK x H Q i a9r) ?_;rintro _ e ⟨g,k8,rfl,e⟩;have h:z≠g:=by rintro rfl;rw[k7]at k8;cases k8
 refine cp ?_;refine ai (ph _ _ g _ e) ?_;rintro c e ⟨h,rfl⟩;have i: ∀e:UInt8×Rd,e=du ⟨x,0⟩->pk f x=(⟨e.1,(fB (jf f) (du e.2).1.toNat (du e.2).2 []).1,(fB (hZ f) (du (fB (jf f) (du e.2).1.toNat (du e.2).2 []).2).1.toNat (du (fB (jf f) (du e.2).1.toNat (du e.2).2 []).2).2 []).1⟩,
   ob (fB (hZ f) (du (fB (jf f) (du e.2).1.toNat (du e.2).2 []).2).1.toNat (du (fB (jf f) (du e.2).1.toNat (du e.2).2 []).2).2 []).2):=by rintro e rfl;rfl
 have j:=i _ rfl;clear i;unfold pn;rw[j];clear j;generalize du ⟨x,0⟩=e at*;obtain⟨v,i⟩:=e;simp only at h|-;refine ax (c2 @W @K) ?_;refine aP λo j=> ?_;obtain⟨L,l4,l⟩:=h.new (ob:= .cells [.v (.int .u8 v.toNat),.J [] .nil,.J [] .nil]) j;have h:z≠o:=by rintro rfl;rw[k7]at l4;cases l4
 have l5: ∀C,(Q.set o C) g=none:=λC=>by rw[U.an _ _ (a4S L)];exact k8
 refine ax (bp @W @K @k @P @U.set_set) ?_;refine ai (ph _ _ g _ l) ?_;rintro c h ⟨h,rfl⟩;generalize du i=e at*;obtain⟨E,k9⟩:=e;simp only at h|-;have a02:=E.toNat_lt;have l6:IntKind.i64.wrap (E.toNat:Int)=E.toNat:=wrap_i64 a9r a9r;refine ax @l6 ?_;generalize E.toNat=S at*;have k1: ∀p b D n e k2 a,ar ((Q.set o (.cells b)).set g (hV D p)) n e k2 a->n o=some (.cells b)/\n z=some (.cells [.v (.int .u8 0),.J [] .nil,.J [] .nil]):=λp b D n e k2 a u=>⟨u.1 _ _ (by rw[U.an _ _ L,U.ah]),u.1 _ _ (by grind[U.an])⟩;refine cv (λm n=> ∃(r:Nat) (q:Rd) (t:List (List Int×Bool)) (M:List R) (a:R) (p:Own),r<=S/\fB (jf f) (S - r) q t=fB (jf f) S k9 []/\t.length=r/\az di t M/\ar ((Q.set o (.cells [.v (.int .u8 v.toNat),a,.J [] .nil])).set g (hV q p)) n 2 (flat M) a/\
   m 0= .J (x.map ak) H/\m 1= .v (.int .i64 f)/\m 4= .ptr z 0/\m 6= .ptr g 0/\m 7= .ptr o 0/\m 18= .v (.int .i64 S)/\m 19= .v (.int .i64 r))
  (λm _=>match m 19 with| .v (.int _ I)=>(S - I).toNat| _=>0) ?_ ?_
 .obtain⟨p,h⟩:=h;refine⟨0,k9,[],[],.J [] .nil,p,a9r,rfl,rfl,trivial,ar.nil h,?_⟩;exact nZ
 rintro m a03 ⟨r,q,t,M,a,p,h,w,a04,l0,y,h,i,j,k,l,T,V⟩;by_cases N:(r:Int)<S
 .refine ax (bw @h @i @j @k @l @T @V @N) ?_;refine ai (XO _ _ g q (ar.rs y).full) ?_;rintro c Y ⟨l7,rfl⟩;rw[Dg a9r]at w;unfold jf at w;obtain⟨a05,B⟩:=ar.sF y (l5 _) l7;generalize nc q=e at*;obtain⟨Z,O⟩:=e;simp only at B w|-;have cd:=(k1 _ _ _ _ _ _ _ B).1;refine ax (cu @h @i @j @k @l @T @V @N (U.af cd) @F) ?_;refine ai (pj _ _ g f a9r O (U.iu _ _) (ar.rs B).full) ?_;rintro c j9 ⟨k3,l1,rfl⟩;obtain⟨l2,A⟩:=ar.sF B (l5 _) k3;generalize hY f O=e at*;obtain⟨k0,l8⟩:=e;simp only at A w|-;have bw:=(k1 _ _ _ _ _ _ _ A).1;refine ax (p9 @h @i @j @k @l @T @V @N (U.af bw) @F @K @G @k4 @l9 @n0 @n1) ?_;refine eT (by simp[aN,R.cells]) a9s λa06 l9=> ?_;have n0:=ar.mono A (U.ae (Y:= .cells (flat [R.agg [.J (ad k0) l1,.v (.bool Z)]])) U.a1 l9);have n1:az di (t++ [(k0,Z)]) (M++ [R.agg [.J (ad k0) l1,.v (.bool Z)]]):=l0.snoc ⟨_,rfl⟩;have k4:(flat M).length=t.length*2:=by rw[dh (l0.cells λ_ _=>di.cells),l0.len]
  simp -dsimp -implicitDefEqProofs (disch:=first|omega|assumption|(simp only[aE,Nat.reduceAdd];try omega)) only[go_sem,simprocAttr,-List.reduceReplicate,h,i,j,k,l,T,V];refine fk n0 a9r (ot rfl) rfl (by rw[k4];simp[flat,R.cells];omega) (by rw[k4];simp[flat,R.cells];omega) λF a07 G=> ?_;have n2:flat M++flat [R.agg [.J (ad k0) l1,.v (.bool Z)]]=flat (M++ [R.agg [.J (ad k0) l1,.v (.bool Z)]]):=by simp[flat]
  rw[n2]at G;have ds:=(k1 _ _ _ _ _ _ _ G).1;have l1:F.cells= [F]:=fL G;refine ax (iz @h @i @j @k @l @T @V (U.aJ ds) @l1 @a00 @P) ?_;refine⟨⟨r+1,l8,t++ [(k0,Z)],_,F,l2,a9r,w,by simp[a04],n1,?_,a9s⟩,a9r⟩;have:=jQ (e:=o) (Y:= .cells [.v (.int .u8 v.toNat),F,.J [] .nil]) G (by rw[U.an _ _ L,U.ah]);rw[U.eg _ (a4S L),U.set_set]at this;exact this
 .obtain rfl:r=S:=a9r;rw[a7j]at w;obtain⟨S,Z⟩:t=(fB (jf f) r k9 []).1/\q=(fB (jf f) r k9 []).2:=by rw[<-w];exact⟨rfl,rfl⟩
  rw[<-S,<-Z];refine ax (bw @h @i @j @k @l @T @V @N) ?_;refine ai (ph _ _ g q (ar.rs y).full) ?_;rintro c Y ⟨l7,rfl⟩;obtain⟨a05,B⟩:=ar.sF y (l5 _) l7;clear y;generalize du q=e at*;obtain⟨E,O⟩:=e;simp only at B|-;have a02:=E.toNat_lt;have l6:IntKind.i64.wrap (E.toNat:Int)=E.toNat:=wrap_i64 a9r a9r;refine ax (bD @h @i @j @k @l @l6) ?_;have cd:=(k1 _ _ _ _ _ _ _ B).1;have aM:=(k1 _ _ _ _ _ _ _ B).2;have k9: ∀C,((Y.del g).set o C) g=none:=λC=>by rw[U.an _ _ (a4S L),U.iu]
  have Z: ∀p b D n e k2 a,ar (((Y.del g).set o (.cells b)).set g (hV D p)) n e k2 a->n o=some (.cells b)/\n z=some (.cells [.v (.int .u8 0),.J [] .nil,.J [] .nil]):=λp b D n e k2 a u=>⟨u.1 _ _ (by rw[U.an _ _ L,U.ah]),u.1 _ _ (by grind[U.an,U.eJ])⟩;obtain⟨k0,k1⟩: ∃p,(((Y.del g).set o (.cells [.v (.int .u8 v.toNat),a,.J [] .nil])).set g (hV O p)).sub Y:=by
   obtain⟨p,u⟩:=(ar.rs B).full;refine⟨p,λc H C=> ?_⟩;by_cases n4:c=o;grind[U.an,U.ah,Option.some.inj]
   .by_cases S:c=g
    .subst S;rw[U.ah]at C;exact u _ _ (by rw[U.ah];exact C)
    .rw[U.an _ _ S,U.an _ _ n4]at C;exact u _ _ (by rw[U.an _ _ S];exact C)
  generalize E.toNat=S at*;refine cv (λm n=> ∃(r:Nat) (q:Rd) (u:List ay) (E:List R) (s:R) (p:Own),r<=S/\fB (hZ f) (S - r) q u=fB (hZ f) S O []/\u.length=r/\az bt u E/\ar (((Y.del g).set o (.cells [.v (.int .u8 v.toNat),a,s])).set g (hV q p)) n 37 (flat E) s/\
    m 0= .J (x.map ak) H/\m 1= .v (.int .i64 f)/\m 4= .ptr z 0/\m 6= .ptr g 0/\m 7= .ptr o 0/\m 36= .v (.int .i64 S)/\m 37= .v (.int .i64 r))
   (λm _=>match m 37 with| .v (.int _ I)=>(S - I).toNat| _=>0) ?_ ?_
  .refine⟨0,O,[],[],.J [] .nil,k0,a9r,rfl,rfl,trivial,ar.nil k1,?_⟩;exact cr (bp @h @i @j @k @l)
  clear h i j k l T V;rintro m a03 ⟨z,q,u,E,s,p,m,w,k2,Y,y,h,i,j,k,l,T,V⟩;by_cases N:(z:Int)<S
  .have bw:=(Z _ _ _ _ _ _ _ y).1;refine ax (cu @h @i @j @k @l @T @V @N (U.af bw) @n5) ?_;refine ai (Yi _ _ g f k5 q (U.iu _ _) (ar.rs y).full) ?_;rintro c j9 ⟨k3,k0,l5,n,p,r,rfl⟩;rw[Dg a9r]at w;obtain⟨l2,A⟩:=ar.sF y (k9 _) k3;have k1:=(aX (N:=n) (e5:=p) (h5:=r) k0).len;generalize hZ f q=e at*;obtain⟨m,l8⟩:=e;simp only at A w k0 l5 k1|-;have ds:=(Z _ _ _ _ _ _ _ A).1;refine ax (iz @h @i @j @k @l @T @V @N (U.af ds) @n5 @K) ?_;refine eT (by simp[aN,R.cells,k1]) a9s λa06 l9=> ?_;have n0:=ar.mono A (U.ae (Y:= .cells (flat [R.agg (ab m n p r)])) U.a1 l9);have n1:az bt (u++ [m]) (E++ [R.agg (ab m n p r)]):=Y.snoc ⟨k0,l5,_,_,_,rfl⟩;have k4:(flat E).length=u.length*37:=by rw[dh (Y.cells λ_ _=>bt.cells),Y.len]
   have k0:(flat [R.agg (ab m n p r)]).length=1*37:=by simp[flat,R.cells,k1]
   simp -dsimp -implicitDefEqProofs (disch:=first|omega|assumption|(simp only[aE,Nat.reduceAdd];try omega)) only[go_sem,simprocAttr,-List.reduceReplicate,h,i,j,k,l,T,V];refine fk n0 a9r (ot k0) k0 (by rw[k4,k0];omega) (by rw[k4,k0];omega) λF a07 G=> ?_;have n2:flat E++flat [R.agg (ab m n p r)]=flat (E++ [R.agg (ab m n p r)]):=by simp[flat]
   rw[n2]at G;have ds:=(Z _ _ _ _ _ _ _ G).1;have l1:F.cells= [F]:=fL G;refine ax (iz @h @i @j @k @l @T @V (U.aJ ds) @l1 @a01 @P) ?_;refine⟨⟨z+1,l8,u++ [m],_,F,l2,a9r,w,by simp[k2],n1,?_,a9s⟩,a9r⟩;have:=jQ (e:=o) (Y:= .cells [.v (.int .u8 v.toNat),a,F]) G (by rw[U.an _ _ L,U.ah]);rw[U.eg _ (a4S L),U.set_set]at this;exact this
  .obtain rfl:z=S:=a9r;rw[a7j]at w;obtain⟨m,n⟩:u=(fB (hZ f) z O []).1/\q=(fB (hZ f) z O []).2:=by rw[<-w];exact⟨rfl,rfl⟩
   rw[<-m,<-n];refine ax (bw @h @i @j @k @l @T @V @N) ?_;refine ai (CR _ _ g q (ar.rs y).full) ?_;rintro c j9 ⟨k3,rfl⟩;obtain⟨l2,A⟩:=ar.sF y (k9 _) k3;clear y;have bw:=(Z _ _ _ _ _ _ _ A).1;have aM:=(Z _ _ _ _ _ _ _ A).2;have m:hy Q j9 ⟨v,t,u⟩ a s:=by
    refine⟨_,M,E,?_,A,l0,Y,by simp only;omega,by simp only;omega⟩;obtain⟨r,p⟩:=B;refine⟨λc H C=> ?_,?_⟩
    .have ej:c≠g:=by rintro rfl;rw[k8]at C;cases C
     have n:c≠o:=by rintro rfl;rw[l4]at C;cases C
     rw[U.an _ _ ej,U.an _ _ n,U.eJ _ ej];exact r _ _ (by rw[U.an _ _ ej,U.an _ _ n];exact C)
    .rcases p with p|⟨d,I,r,k6,w,c,y,y⟩
     .exact .inl p
     .have ej:d≠g:=by rintro rfl;rw[U.ah]at c;cases c
      rw[U.an _ _ ej]at c;have n:d≠o:=by grind
      rw[U.an _ _ n]at c;exact .inr ⟨d,I,r,k6,w,c,by grind[U.an,U.eJ],y⟩
   have d:=U.aq l3 m.sub;by_cases b:(ob q).e=0
   .simp -dsimp -implicitDefEqProofs (disch:=first|omega|assumption|(simp only[aE,Nat.reduceAdd];try omega)) only[go_sem,simprocAttr,-List.reduceReplicate,h,i,j,k,l,b,U.af bw,X];obtain⟨c,n,g⟩:=m.L;refine ai (Db ⟨v,t,u⟩ c n a s f n3 k5 j9 g) ?_;rintro _ j9 ⟨rfl,rfl⟩;cases o:dX f ⟨v,t,u⟩with
    |false=>refine ax (jd @h @i @j @k @l @b (U.aJ aM) @W @X @P @K @a5y) ?_;grind[U.a1]
    |true=>
     refine ax (ds @h @i @j @k @l @b (U.af bw) @X @a5H) ?_;refine ai (xw ⟨v,t,u⟩ c n a s f n3 k5 j9 g) ?_;rintro D f ⟨c,n⟩;rw[ss,if_pos o]at n;obtain⟨p,rfl⟩:=n;replace m:=m.mono c;replace d:=U.aq d c;replace bw:=c _ _ bw;replace aM:=c _ _ aM;refine ax (bD @h @i @j @k @l @b) ?_;have k2:=xy k5 o λe c=>(g.kids.all e c).1;refine ai (D0 (dc ⟨v,t,u⟩) x p H f a9r) ?_;rintro _ f ⟨rfl,rfl⟩;by_cases c:dc ⟨v,t,u⟩=x
     .refine ax (fx @h @i @j @k @l @b @c (U.af bw) (U.aJ aM) @W @X @P @K @a5H) ?_;have:=m.set (ob:= .cells [.v (.int .u8 v.toNat),a,s]) k7;refine⟨_,U.a1,n9 _ _ d,?_⟩;exact⟨a,s,rfl,this.base (n9 _ _ l3)⟩
     .refine ax (fx @h @i @j @k @l @b @c (U.af bw) (U.aJ aM) @W @X @P @K @a5y) ?_;grind[U.a1]
   .refine ax (iz @h @i @j @k @l @b (U.aJ aM) @W @X @P @K) ?_;grind[U.a1]
def Dh: ∀(c:List (List Int×Bool)) (a:gg),a.aQ.1.length<=8->a.aQ.2.length<=8->(c.foldl dQ a).aQ.1.length<=8/\(c.foldl dQ a).aQ.2.length<=8
 | [],a,h1,b=>⟨h1,b⟩
 |d::c,a,h1,b=>by
  rw[a5Q];refine Dh c _ ?_ ?_<;>unfold dQ<;>split
  .exact(oq _ _ 8 h1 b sE.1 sE.2).1
  .exact h1
  .exact(oq _ _ 8 h1 b sE.1 sE.2).2
  .exact b
def Di: ∀(b:List ay) (a:gg),(∀d∈b,d.hx)->a.aQ.1.length<=8->a.aQ.2.length<=8->(b.foldl ew a).aQ.1.length<=8/\(b.foldl ew a).aQ.2.length<=8
 | [],a,_,h1,c=>⟨h1,c⟩
 |d::b,a,hk,h1,c=>by
  rw[a5Q];have:=hk d a9s;exact Di b _ (λh k=>hk h (by simp[k])) (oq _ _ 8 h1 c this.aV this.aW).1 (oq _ _ 8 h1 c this.aV this.aW).2
theorem uq (p:e<=8) (a:fK e e0=some w):w.sum.length=32/\w.aV.length<=8/\w.aW.length<=8/\w.key.length<=8:=by
 unfold fK at a;split at a
 .rename_i b;split at a
  .cases a
  .obtain rfl:=a4I a;obtain⟨x,_,_⟩:=ln b;have c:=uk p b;have d:=Dh e0.rows ⟨0,e0.rows.length,([],[])⟩ a9s a9s;have h:=Di e0.kids _ c d.1 d.2;refine⟨oh _,h.1,h.2,?_⟩;simp only[eW,keyOf];split
   .cases k:e0.rows with
    |nil=>simp
    |cons o r=>simp_all
   .split
    .cases k:e0.kids with
     |nil=>simp[aA]
     |cons o r=>exact(c o (by rw[k];simp)).key
    .simp
 .cases a
def Dj (a:e<=8) (b:fK e e0=some w):w.cF:=by obtain⟨_,c,d,h⟩:=uq a b;exact⟨a9r,a9r,a9r⟩
variable{H:ag}
theorem bC.len (b:bC f e i H) {a:List UInt8} (c:B.length=32) (d:H.m B=some a):a.length<=1000000000000:=by obtain⟨h,_,k⟩:=b.mp;grind
def fq (d:ag) (a:Nat) (b:ay):Option c5:=
 match d.m b.sum with
 |none=>none
 |some h=>match pn a h with
  |none=>none
  |some c=>if fK a c=some b then some c else none
theorem xA (b:U) (B C:Nat) (t:ag) (H:bC b B C t) (c:ay) (o p q:Own) (x:c.sum.length=32) (a:c.cF) (k:Nat) (I:1<=k) (y:k<=8):
  AC Tryz.prog 73 [.ptr B 0,.agg (ab c o p q),.v (.int .i64 (k:Int))] b λr m=>b.sub m/\match fq t k c with
   |none=>r= .aL [xz,.v (.int .i64 21)]
   |some l=> ∃d e,r= .aL [gQ l d e,.v (.int .i64 0)]/\hy b m l d e:=by
 refine bf hm Ln a9s ?_;have a: ∀f,(R.agg f).cells=f:=λ_=>rfl;have f: ∀j i n d e g:R,putAt [j,i,n] 0 [d,e,g]= [d,e,g]:=λ_ _ _ _ _ _=>rfl;have h: ∀j i n,aY true 3 [j,i,n]= .agg [j,i,n]:=λ_ _ _=>rfl;have g: ∀j i n:R,[j,i,n].length=3:=λ_ _ _=>rfl;have D:=aX (N:=o) (e5:=p) (h5:=q) x;have z:=D.len;have A:=(aX (N:= .nil) (e5:= .nil) (h5:= .nil) bl).len;refine ax (c2 @a @z) ?_;refine aP λs w=> ?_;refine ax (c2 @a @z) ?_;refine aP λj n=> ?_;have u:s≠j:=by rintro rfl;rw[U.ah]at n;cases n
 have F:b j=none:=by rw[U.an _ _ (a4S u)]at n;exact n
 have n:=a4S u;obtain⟨n,v⟩: ∃n:U,n=(b.set s (.cells (ab c o p q))).set j (.cells [.v (.int .u8 0),.J [] .nil,.J [] .nil]):=⟨_,rfl⟩;have G:b.sub n:=by rw[v];exact U.ae (U.ae U.a1 w) F
 have aM:n s=some (.cells (ab c o p q)):=by rw[v,U.an _ _ u,U.ah]
 have bD:n j=some (.cells [.v (.int .u8 0),.J [] .nil,.J [] .nil]):=by rw[v,U.ah]
 have E: ∀(m:U) (w:bq),b.sub m->b.sub (m.set j w):=λm w b=>U.ae b F;have b:R.agg (c.sum.map ak)=cM c.sum:=rfl;simp -dsimp -implicitDefEqProofs (disch:=first|omega|assumption|(simp only[aE,Nat.reduceAdd];try omega)) only[go_sem,simprocAttr,-List.reduceReplicate,a,z,U.an,u,U.ah,D.t32];rw[<-v,b];refine ai (Y0 n B C t (H.mono G) c.sum x) ?_;rintro r n ⟨m,b⟩;have F:=U.aq G m;have G:=m _ _ bD;have u:=m _ _ aM;unfold fq;cases hm:t.m c.sum with
 |none=>rw[hm]at b;obtain rfl:=b;refine ax (bp @a (U.aJ G) @f @g @h) ?_;exact⟨_,U.a1,E _ _ F⟩
 |some i=>
  rw[hm]at b;obtain⟨w,rfl⟩:=b;refine ax @a ?_;refine ai (Yj i w k I y n (H.len x hm)) ?_;rintro r v ⟨m,b⟩;have C:=U.aq F m;have w:=m _ _ G;have H:=m _ _ u;simp only;cases n:pn k i with
  |none=>
   rw[n]at b;obtain rfl:=b;refine ax (aI @a @f @g) ?_;refine aP λm B=> ?_;have i:j≠m:=by grind
   have t:=a4S i;refine ax (ds @a @f @g @h @U.set_set @U.an @i @t (U.aJ w)) ?_;grind[U.a1,U.aq,U.ae]
  |some l=>
   rw[n]at b;obtain⟨d,e,rfl,n⟩:=b;simp -dsimp -implicitDefEqProofs (disch:=first|omega|assumption|(simp only[aE,Nat.reduceAdd];try omega)) only[go_sem,simprocAttr,-List.reduceReplicate,a,f,g,h];refine aP λm B=> ?_;have i:j≠m:=by grind
   have i:s≠m:=by grind
   obtain⟨t,u⟩: ∃t:U,t=v.set m (.cells [.v (.int .u8 (l.kind.toNat:Int)),d,e]):=⟨_,rfl⟩;have i:v.sub t:=by rw[u];exact U.ae U.a1 B
   have cu:t m=some (.cells [.v (.int .u8 (l.kind.toNat:Int)),d,e]):=by rw[u,U.ah]
   refine ax (bp @a @f @g @h @U.set_set) ?_;rw[<-u];obtain⟨u,v,B⟩:=(n.mono i).L;refine ai (Dc l u v d e k I y t B) ?_;rintro r I ⟨r,b⟩;replace i:=U.aq i r;replace n:=n.mono i;have B:=i _ _ w;have K:=i _ _ H;have L:=r _ _ cu;have P:=U.aq C i;cases r:fK k l with
   |none=>
    rw[r]at b;obtain rfl:=b;have t:putAt (ab aA .nil .nil .nil) 0 (ab aA .nil .nil .nil)=ab aA .nil .nil .nil:=cG bl bl;simp -dsimp -implicitDefEqProofs (disch:=first|omega|assumption|(simp only[aE,Nat.reduceAdd];try omega)) only[go_sem,simprocAttr,-List.reduceReplicate,a,f,g,h,ct,A];refine aP λk i=> ?_;have C:j≠k:=by rintro rfl;rw[B]at i;cases i
    have M:=a4S C;refine ax (jd @a @f @g @h @ct @A @t @U.set_set @U.an @C @M (U.aJ B)) ?_;grind[U.a1,U.aq,U.ae]
   |some t=>
    rw[r]at b;obtain⟨u,v,w,rfl⟩:=b;have H:=(uq y r).1;have Q:=Dj y r;have y:=aX (N:=u) (e5:=v) (h5:=w) H;have N:=y.len;have O:putAt (ab aA .nil .nil .nil) 0 (ab t u v w)=ab t u v w:=cG bl H;refine ax (bw @a @f @g @h @ct @A @N @O) ?_;refine aP λk i=> ?_;have C:j≠k:=by rintro rfl;rw[B]at i;cases i
    have M:=a4S C;have C:s≠k:=by rintro rfl;rw[K]at i;cases i
    have b:m≠k:=by rintro rfl;rw[L]at i;cases i
    obtain⟨b,m⟩: ∃b:U,b=I.set k (.cells (ab t u v w)):=⟨_,rfl⟩;have j:I.sub b:=by rw[m];exact U.ae U.a1 i
    refine ax (p9 @a @f @g @h @ct @A @N @O @U.set_set @U.ah @U.an @C y.t37 D.t37 (U.af K) @z) ?_;rw[<-m];have i:=j _ _ B;have k:=j _ _ L;have m:=U.aq P j;replace n:=n.mono j;refine ai (Da t c u v w o p q b H x Q) ?_;rintro _ b ⟨rfl,rfl⟩;by_cases b:t=c
    .refine ax (bw @a @f @g @h @b @a5H (U.af k) (U.aJ i)) ?_;have:=n.set (ob:= .cells [.v (.int .u8 (l.kind.toNat:Int)),d,e]) G;refine⟨_,U.a1,E _ _ m,?_⟩;simp only[r,b,if_true];exact⟨d,e,rfl,this.base (E _ _ F)⟩
    .refine ax (bw @a @f @g @h @b @a5y (U.af k) (U.aJ i)) ?_;grind[U.a1]
theorem Ext.set {l d a:Nat}{b h:U}{ob:bq} (o:Ext l d b h) (p:b a=none):Ext l d b (h.set a ob):=λk r x y c=>by
 have z:k≠a:=by rintro rfl;rw[p]at c;cases c
 rw[U.an _ _ z];exact o k r x y c
theorem Yk (b:U) (h l:Nat) (y:ag) (r:bC b h l y) (a:c5) (z A:List R) (m n:R) (f:Nat) (H:1<=f) (t:f<=8) (B:fC b a m n z A):
  AC Tryz.prog 233 [.ptr h 0,gQ a m n,.v (.int .i64 (f:Int))] b λu e=>match fK f a with
   |none=>b.sub e/\u= .aL [.agg (ab aA .nil .nil .nil),.v (.int .i64 1)]
   |some C=>bC e h l (eO y (dc a))/\Ext h l b e/\ ∃c d g,u= .aL [.agg (ab C c d g),.v (.int .i64 0)]:=by
 refine bf hm Q3 a9s ?_;have c: ∀d,(R.agg d).cells=d:=λ_=>rfl;have I: ∀d g i,aY true 3 [d,g,i]= .agg [d,g,i]:=λ_ _ _=>rfl;have D: ∀d g i:R,[d,g,i].length=3:=λ_ _ _=>rfl;have K: ∀d g i:R,List.take 3 [d,g,i]= [d,g,i]:=λ_ _ _=>rfl;have i:=(aX (N:= .nil) (e5:= .nil) (h5:= .nil) bl).len;have w:=(aX (N:= .nil) (e5:= .nil) (h5:= .nil) bl).t37;have p:putAt (ab aA .nil .nil .nil) 0 (ab aA .nil .nil .nil)=ab aA .nil .nil .nil:=cG bl bl;refine ax (c2 @c @D) ?_;refine aP λs v=> ?_;refine ax (aI @c @ct @i) ?_;refine aP λd g=> ?_;have o:s≠d:=by rintro rfl;rw[U.ah]at g;cases g
 have j:b d=none:=by rw[U.an _ _ (a4S o)]at g;exact g
 obtain⟨g,k⟩: ∃g:U,g=(b.set s (.cells [.v (.int .u8 (a.kind.toNat:Int)),m,n])).set d (.cells (ab aA .nil .nil .nil)):=⟨_,rfl⟩;have q:b.sub g:=by rw[k];exact U.ae (U.ae U.a1 v) j
 have aM:g s=some (.cells [.v (.int .u8 (a.kind.toNat:Int)),m,n]):=by rw[k,U.an _ _ o,U.ah]
 have bD:g d=some (.cells (ab aA .nil .nil .nil)):=by rw[k,U.ah]
 have v: ∀(e:U) (v:bq),b.sub e->b.sub (e.set d v):=λe v b=>U.ae b j;refine ax (ds @c @ct @i @D @I @K @U.an @o @U.ah) ?_;rw[<-k];refine ai (Dc a z A m n f H t g (B.mono q)) ?_;rintro u L ⟨e,k⟩;have M:=U.aq q e;have N:=e _ _ aM;have v:=e _ _ bD;cases x:fK f a with
 |none=>
  rw[x]at k;obtain rfl:=k;simp -dsimp -implicitDefEqProofs (disch:=first|omega|assumption|(simp only[aE,Nat.reduceAdd];try omega)) only[go_sem,simprocAttr,-List.reduceReplicate,c,ct,i,p];refine aP λg e=> ?_;have o:d≠g:=by rintro rfl;rw[v]at e;cases e
  have q:=a4S o;refine ax (cu @c @ct @i @p @w @U.set_set @U.an @o @q (U.aJ v)) ?_;grind[U.a1,U.aq,U.ae]
 |some w=>
  rw[x]at k;obtain⟨o,p,q,rfl⟩:=k;have O:dX f a=true:=by grind[fK]
  have G:=(uq t x).1;have P:=aX (N:=o) (e5:=p) (h5:=q) G;have E:=P.len;have F:putAt (ab aA .nil .nil .nil) 0 (ab w o p q)=ab w o p q:=cG bl G;refine ax (bp @c @ct @i @E @F) ?_;refine aP λg e=> ?_;have S:s≠g:=by rintro rfl;rw[N]at e;cases e
  have x:=U.bG M e;have s:d≠g:=by rintro rfl;rw[v]at e;cases e
  obtain⟨s,G⟩: ∃s:U,s=L.set g (.cells (ab w o p q)):=⟨_,rfl⟩;have Q:L.sub s:=by rw[G];exact U.ae U.a1 e
  have bw:s g=some (.cells (ab w o p q)):=by rw[G,U.ah]
  refine ax (jd @c @ct @i @E @F @U.set_set @U.an @S (U.af N) @I @D @K) ?_;rw[<-G];have w:=U.aq M Q;refine ai (xw a z A m n f H t s (B.mono w)) ?_;rintro u m ⟨e,k⟩;rw[ss,if_pos O]at k;obtain⟨n,rfl⟩:=k;have f:=U.aq w e;have k:=xy t O λC k=>(B.kids.all C k).1;refine ax @c ?_;refine ai (Y2 m h l y (r.mono f) (dc a) n a9r) ?_;rintro _ a ⟨rfl,n,a⟩;have k:d≠h:=by rintro rfl;obtain⟨_,_,b⟩:=r.at_;rw[b]at j;cases j
  have m:d≠l:=by rintro rfl;obtain⟨_,⟨_,_,b,_⟩,_⟩:=r.mp;rw[b]at j;cases j
  have d:g≠h:=by rintro rfl;obtain⟨_,_,b⟩:=r.at_;rw[b]at x;cases x
  have h:g≠l:=by rintro rfl;obtain⟨_,⟨_,_,b,_⟩,_⟩:=r.mp;rw[b]at x;cases x
  have b:=a _ _ k m (e _ _ (Q _ _ v));have g:=a _ _ d h (e _ _ bw);refine ax (cd @c (U.af g) (U.aJ b) P.t37 @E @i @F) ?_;refine⟨_,U.a1,n.other (U.an _ _ (a4S k)) (U.an _ _ (a4S m)),?_,o,p,q,rfl⟩;exact((Ext.of f).trans a).set j
end Go.Proofs.YtlgnfcaolejgeaaGreat
namespace Go.a6
def val:List Bool->Nat
 | []=>0
 |b::a=>(if b then 2^a.length else 0)+val a
theorem ni: ∀a:List Bool,val a<2^a.length
 | []=>by simp[val]
 |b::a=>by
  have:=ni a;simp only[val,a4O,a8F];split<;>omega
def lexB:List Bool->List Bool->Bool
 |b::c,a::d=>if b=a then lexB c d else a
 | _,_=>false
def ps: ∀ {a b:List Bool},a.length=b.length->(val a<val b↔lexB a b=true)
 | [],[],_=>by simp[val,lexB]
 |d::a,h::b,k=>by
  have c:a.length=b.length:=by simpa using k
  have o:=ni a;have p:=ni b;simp only[val,lexB];rw[c]at o|-;cases d<;>cases h<;>simp[<-ps c]<;>omega
theorem val_inj: ∀ {a b:List Bool},a.length=b.length->val a=val b->a=b
 | [],[],_,_=>rfl
 |h::a,k::b,o,c=>by
  have d:a.length=b.length:=by simpa using o
  have p:=ni a;have r:=ni b;simp only[val]at c;rw[d]at p c;have:h=k:=by grind
  subst this;rw[val_inj d a9r]
theorem Dk {b c a d:List Bool} (h:b.length=a.length):lexB (b++c) (a++d)=if b=a then lexB c d else lexB b a:=by
 induction b generalizing a with
 |nil=>grind
 |cons k b ih=>
  match a,h with
  |o::a,h=>grind[lexB]
def fN (a:List Nat) (b:Nat):List Bool:=a.map (·.testBit b)
def cc (a:List Nat):Nat->List Bool
 |0=> []
 |b+1=>fN a b++cc a b
def Dl (b:List Nat): ∀a,(cc b a).length=b.length*a
 |0=>by simp[cc]
 |a+1=>by simp[cc,fN,Dl b a,Nat.mul_succ];omega
def pick (b:(Nat×Nat)×Nat) (a:Nat×Nat):(Nat×Nat)×Nat:=
 if b.2<a.1^^^a.2/\b.2<b.2^^^(a.1^^^a.2)then(a,a.1^^^a.2)else b
variable{e i v M c0 j0:Nat}
def Yl (a:i<2^e) (b:v<2^e):i^^^v<2^e:=a7z a b
def ur (a:e.testBit i=true):2^i<=e:=Nat.ge_two_pow_of_testBit a
theorem sG (a:e<2^(i+1)) (b:e.testBit i=false):e<2^i:=by grind[Nat.lt_pow_two_of_testBit,Nat.testBit_lt_two_pow,Nat.lt_of_lt_of_le,Nat.pow_le_pow_right]
def Dm {c:Nat}: ∀(d:List (Nat×Nat)) (b:(Nat×Nat)×Nat),b.2.testBit c=true->b.2<2^(c+1)->(∀a∈d,a.1^^^a.2<2^(c+1))->d.foldl pick b=b
 | [],b,_,_,_=>rfl
 |a::d,b,k,o,p=>by
  have h:=p a a9s;have:pick b a=b:=by
   simp only[pick];rw[if_neg];rintro⟨x,y⟩;have z:=ur k;cases cw:(a.1^^^a.2).testBit c with
   |false=>have:=sG h cw;omega
   |true=>
    have r:(b.2^^^(a.1^^^a.2)).testBit c=false:=by rw[a8l,k,cw];rfl
    have:=sG (Yl o h) r;omega
  rw[a5Q,this];exact Dm d b k o (λa h=>p a (by simp[h]))
theorem Ym {b:(Nat×Nat)×Nat}{a:Nat×Nat} (c:b.2<2^e) (d:(a.1^^^a.2).testBit e=true):pick b a=(a,a.1^^^a.2):=by simp only[pick];refine if_pos ⟨a5Z c (ur d),a5Z c (ur (i:=e) ?_)⟩;grind[Nat.testBit_lt_two_pow]
theorem Dn (b:i.testBit e=false) (c:v.testBit e=true) (d: ∀a,e<a->i.testBit a=v.testBit a):i<v:=by
 have h:i>>>(e+1)=v>>>(e+1):=a7q λa=>by
  grind
 have k:i%2^(e+1)<2^e:=sG (a6U _ (Nat.two_pow_pos _)) (by grind);have o:2^e<=v%2^(e+1):=ur (by grind);grind[Nat.div_add_mod,Nat.shiftRight_eq_div_pow]
theorem Yn (o:i^^^v<2^(e+1)) (b:i.testBit e≠v.testBit e):i<v↔v.testBit e=true:=by
 have h: ∀a,e<a->i.testBit a=v.testBit a:=λa k=>by
  have p:(i^^^v).testBit a=false:=a6T (a5Z o (a6y a9r a9r));simp_all
 cases c:v.testBit e with
 |true=>
  have d:i.testBit e=false:=by rw[c]at b;simpa using b
  simp only[iff_true];exact Dn d c h
 |false=>
  have d:i.testBit e=true:=by rw[c]at b;simpa using b
  have:=Dn c d (λa k=>(h a k).symm);grind
theorem Dp (a:Nat): ∀(b c:List Nat),b.length=c.length->(∀h∈b.zip c,h.1^^^h.2<2^(a+1))->fN b a≠fN c a-> ∀r:(Nat×Nat)×Nat,r.2<2^a->
  (((b.zip c).foldl pick r).1.1<((b.zip c).foldl pick r).1.2↔lexB (fN b a) (fN c a)=true)
 | [],[],_,_,x,_,_=>absurd rfl x
 |k::b,o::c,E,y,z,r,C=>by
  have F:b.length=c.length:=by simpa using E
  have d:=y (k,o) a9s;simp only[List.zip_cons_cons,a5Q,fN,a5j,lexB]at z|-;by_cases p:k.testBit a=o.testBit a
  .rw[if_pos p];have G:(k^^^o).testBit a=false:=by rw[a8l,p];simp
   refine Dp a b c F (λh d=>y h (by simp[d])) (λx=>z ?_) _ ?_
   .rw[p];exact congrArg _ x
   .simp only[pick];split
    .exact sG d G
    .exact C
  .rw[if_neg p];have D:(k^^^o).testBit a=true:=by simp_all
   rw[Ym (a:=(k,o)) C D,Dm _ _ D d (λh d=>y h (by simp[d]))];exact Yn d p
theorem Yo {b c:List Nat} (r:b.length=c.length) (k: ∀a∈b.zip c,a.1^^^a.2<2^(e+1)) (o:fN b e=fN c e): ∀a∈b.zip c,a.1^^^a.2<2^e:=by
 intro a d;refine sG (k a d) ?_;obtain⟨h,p,rfl⟩:=a5A d;simp only[List.length_zip]at p;have x:(fN b e)[h]? =(fN c e)[h]? :=by rw[o]
 grind[fN,List.getElem?_eq_getElem,Option.some.injEq]
theorem Dq: ∀(d:Nat) (b c:List Nat),b.length=c.length->(∀h∈b.zip c,h.1^^^h.2<2^d)-> ∀a:Nat×Nat,a∈b.zip c->
  (((b.zip c).foldl pick (a,0)).1.1<((b.zip c).foldl pick (a,0)).1.2↔lexB (cc b d) (cc c d)=true)
 |0,b,c,o,p,a,r=>by
  have: ∀(k:List (Nat×Nat)),(∀h∈k,h.1^^^h.2<2^0)->k.foldl pick (a,0)=(a,0):=by
   intro k
   induction k with
   |nil=>intro _;rfl
   |cons h k ih=>simp_all [pick,if_neg,a5Q]
  rw[this _ p];have z:=p a r;have x:a.1=a.2:=a7q λy=>by
   have C:(a.1^^^a.2).testBit y=false:=by simp_all
   grind
  simp[cc,lexB,x]
 |d+1,b,c,o,p,a,r=>by
  simp only[cc];rw[Dk (by simp[fN,o])];by_cases he:fN b d=fN c d
  .rw[if_pos he];exact Dq d b c o (Yo o p he) a r
  .rw[if_neg he];grind[Dp,Nat.two_pow_pos]
theorem Yp {c d:List Nat} (p:c.length=d.length): ∀a,cc c a=cc d a->(∀h∈c,h<2^a)->(∀h∈d,h<2^a)->c=d:=by
 intro a r y z;have x: ∀a,cc c a=cc d a-> ∀b,b<a->fN c b=fN d b:=by
  intro a
  induction a with
  |zero=>intro _ b k;omega
  |succ a ih=>grind[cc,List.append_inj,fN]
 refine a8G p λo C D=>a7q λb=> ?_;by_cases k:b<a
 .have E:(fN c b)[o]? =(fN d b)[o]? :=by rw[x a r b k]
  grind[fN,List.getElem?_eq_getElem]
 grind[Nat.lt_of_lt_of_le,List.getElem_mem,Nat.pow_le_pow_right,Nat.testBit_lt_two_pow]
def iH:Nat->List Bool->List UInt8
 |0,_=> []
 |b+1,a=>UInt8.ofNat (val (a.take 8))::iH b (a.drop 8)
def Dr: ∀(a:Nat) (b:List Bool),(iH a b).length=a
 |0,_=>rfl
 |a+1,b=>by simp[iH,Dr a]
def sH:List UInt8->List UInt8->Bool
 |a::c,b::d=>if a=b then sH c d else decide (a<b)
 | _,_=>false
theorem Yq (b:e<256) (c:i<256) (a:UInt8.ofNat e=UInt8.ofNat i):e=i:=by have:=congrArg UInt8.toNat a;grind[UInt8.toNat_ofNat',Nat.mod_eq_of_lt]
theorem Ds: ∀(c:Nat) (a b:List Bool),a.length=8*c->b.length=8*c->sH (iH c a) (iH c b)=lexB a b
 |0,a,b,d,r=>by
  obtain rfl:=a4P (by simpa using d);obtain rfl:=a4P (by simpa using r);rfl
 |c+1,a,b,x,hm=>by
  have h:(a.take 8).length=8:=a9t;have k:(b.take 8).length=8:=a9t;have o:val (a.take 8)<256:=by grind[ni]
  have p:val (b.take 8)<256:=by grind[ni]
  have ih:=Ds c (a.drop 8) (b.drop 8) a9t a9t
  conv=>rhs;rw[<-a5r 8 a,<-a5r 8 b]
  rw[Dk (h.trans k.symm)];simp only[iH,sH];by_cases he:a.take 8=b.take 8
  .rw[he];simp[ih]
  .rw[if_neg he,if_neg (λd=>he (val_inj (h.trans k.symm) (Yq o p d)))];have:=ps (h.trans k.symm);have y:UInt8.ofNat (val (a.take 8))<UInt8.ofNat (val (b.take 8))↔val (a.take 8)<val (b.take 8):=by rw[UInt8.lt_iff_toNat_lt];simp[a5N,a6x o,a6x p]
   simp_all
def Yr {b a c:List Bool} (d:b.length=a.length) (h:a.length=c.length) (k:lexB b a=true) (o:lexB a c=true):lexB b c=true:=by rw[<-ps d]at k;rw[<-ps h]at o;rw[<-ps (d.trans h)];omega
theorem Ys {a b:List Bool} (c:a.length=b.length) (d:lexB a b=false) (h:lexB b a=false):a=b:=by refine val_inj c ?_;have k:=ps c;have o:=ps c.symm;grind
end Go.a6
