import Derived.Test.YtlgnfcaolejgeaaGreatMC
set_option linter.all false
set_option maxRecDepth 100000
namespace Go.Proofs.YtlgnfcaolejgeaaGreat
open Go Go.bA
structure Rd where
 b:List UInt8
 e:Int
def hU (a:Rd) (b:Own):bp:= .cells [.J (a.b.map ak) b,.v (.int .i64 a.e)]
def bW (a:U) (b:Nat) (c:Rd) (d:U):Prop:= ∃h,(a.set b (hU c h)).sub d
variable{f t e7:U}{e i v M c0 j0:Nat}
def bW.cell {a:Rd} (b:bW t e a f): ∃c,f e=some (.cells [.J (a.b.map ak) c,.v (.int .i64 a.e)]):=by obtain⟨c,b⟩:=b;exact⟨c,b _ _ (U.ah _ _ _)⟩
def bW.mono {b:Rd} (a:bW f e b t) (c:t.sub e7):bW f e b e7:=by obtain⟨d,a⟩:=a;exact⟨d,U.aq a c⟩
theorem bW.base {b:Rd} (a:bW f e b e7) (c:t.sub f):bW t e b e7:=by obtain⟨d,a⟩:=a;exact⟨d,U.aq (U.lg c) a⟩
def bW.sub {a c:U}{d:Nat}{h:Rd} (b:bW a d h c) (k:a d=none):a.sub c:=by obtain⟨o,b⟩:=b;exact U.aq (U.ae U.a1 k) b
theorem bW.set {b c:U}{l:Nat}{k:Rd} (a:bW b l k c) (d:Rd) (h:Own):bW b l d (c.set l (hU d h)):=by obtain⟨o,a⟩:=a;exact⟨h,U.CC a⟩
variable{Y:bp}
def bW.get {b:Rd} (a:bW f i b t) (c:e≠i) (d:f e=some Y):t e=some Y:=by obtain⟨h,a⟩:=a;exact a _ _ (by rw[U.an _ _ c];exact d)
def bW.new {c:Rd}{ob:bp} (a:bW f i c t) (d:t e=none):e≠i/\f e=none/\bW (f.set e ob) i c (t.set e ob):=by
 obtain⟨h,k⟩:=a.cell;have b:e≠i:=by rintro rfl;rw[d]at k;cases k
 obtain⟨h,a⟩:=a;have o:=U.bF a d;rw[U.an _ _ b]at o;refine⟨b,o,h,?_⟩;rw[U.ef _ b];exact U.lg a
def bW.other {b:Rd}{ob:bp} (a:bW f e b t) (c:i≠e):bW (f.set i ob) e b (t.set i ob):=by obtain⟨d,a⟩:=a;refine⟨d,?_⟩;rw[U.ef _ c];exact U.lg a
def CJ (a:List UInt8) (c:Own) (b:U) (p:c= .nil->a= []) (r:a.length<=70368744177664):
  AC Tryz.prog 108 [.J (a.map ak) c] b λx y=> ∃d,b d=none/\x= .ptr d 0/\bW b d ⟨a,0⟩ y:=by
 refine bf hm Mq a9q ?_;refine aF (c2 @ba @bb) ?_;refine ai (xf a c b p r) ?_;rintro _ D ⟨h,k,rfl⟩;have o:putAt [R.J [] Own.nil,R.v (Value.int IntKind.i64 0)] 0 [R.J (a.map ak) h]= [R.J (a.map ak) h,R.v (Value.int IntKind.i64 0)]:=rfl;refine aF (aI @o @ba @bb) ?_;refine aP λz C=> ?_;refine aF (aI @o @ba @bb) ?_;exact⟨_,U.a1,z,U.bF k.sub C,rfl,h,U.lg k.sub⟩
def mc (a:Rd) (e:Int):Rd:=if a.e=0 then {a with e:=e}else a
variable{n b3:R}
def XB {a:R}:putAt [n,a] 1 [b3]= [n,b3]:=rfl
def XC {a:R}:putAt [a,n] 0 [b3]= [b3,n]:=rfl
def sm (k o:U) (c:Nat) (a:Rd) (e:Int) (d:bW k c a o):
  AC Tryz.prog 176 [.ptr c 0,.v (.int .i64 e)] o λ_ p=>bW k c (mc a e) p:=by
 obtain⟨r,h⟩:=d.cell;refine bf hm Ox a9q ?_;by_cases b:a.e=0
 .refine aF (bC (U.af h) (U.aJ h) @b @XB @ba @bb) ?_;refine⟨_,U.a1,?_⟩;rw[mc,if_pos b];exact d.set {a with e:=e} r
 .refine aF (aM (U.af h) @b @ba @bb) ?_;refine⟨_,U.a1,?_⟩;rw[mc,if_neg b];exact d
def ds (a:Rd) (c:Nat):Option (List UInt8)×Rd:=
 if a.e=0 then(if a.b.length<c then(none,{a with e:=20})else(some (a.b.take c),{a with b:=a.b.drop c}))else(none,a)
def CK (p r:U) (k:Nat) (a:Rd) (c:Nat) (F:c<=100000000) (h:bW p k a r):
  AC Tryz.prog 173 [.ptr k 0,.v (.int .i64 c)] r λC D=>bW p k (ds a c).2 D/\
   (∃x,(x= .nil->(ds a c).1.getD []= [])/\C= .aL [.J (((ds a c).1.getD []).map ak) x,.v (.bool (ds a c).1.isSome)]):=by
 obtain⟨x,o⟩:=h.cell;refine bf hm Oo a9q ?_;by_cases d:a.e=0
 .by_cases c2:a.b.length<c
  .have y:(a.b.length:Int)<c:=a9p;have e:ds a c=(none,{a with e:=20}):=by rw[ds,if_pos d,if_pos c2]
   rw[e];refine aF (bo (U.af o) @d @y @ba @bb) ?_;refine ai (sm p r k a 20 h) ?_;intro C G z;rw[mc,if_pos d]at z;obtain⟨L,E⟩:=z.cell;refine aF (aI (U.af E) @ba @bb) ?_;exact⟨_,U.a1,z,.nil,λ_=>rfl,rfl⟩
  .have y: ¬(a.b.length:Int)<c:=a9p;have e:ds a c=(some (a.b.take c),{a with b:=a.b.drop c}):=by rw[ds,if_pos d,if_neg c2]
   rw[e];refine aF (cc (U.af o) (U.aJ o) @d @y @XC @ba @bb) ?_;exact⟨_,U.a1,h.set ⟨a.b.drop c,0⟩ .any,.any,(λh=>by cases h),rfl⟩
 .have e:ds a c=(none,a):=by rw[ds,if_neg d]
  rw[e];refine aF (aM (U.af o) @d @ba @bb) ?_;exact⟨_,U.a1,h,.nil,λ_=>rfl,rfl⟩
def ub (d h:U) (c:Nat) (b:Rd) (a:Nat) (o:a<=100000000) (p:bW d c b h):
  AC Tryz.prog 173 [.ptr c 0,.v (.int .i64 a)] h λr x=>bW d c (ds b a).2 x/\
   (∃k,r= .aL [.J (((ds b a).1.getD []).map ak) k,.v (.bool (ds b a).1.isSome)]):=
 (CK d h c b a o p).mono λ_ _ ⟨y,k,_,z⟩=>⟨y,k,z⟩
def dt (a:Rd):UInt8×Rd:=((ds a 1).1.getD []|>.headD 0,(ds a 1).2)
variable{B:List UInt8}
theorem qF {a:Rd} (b:(ds a e).1=some B):B.length=e:=by grind[ds,Option.some.injEq,List.length_take]
def pg (c d:U) (b:Nat) (a:Rd) (r:bW c b a d):
  AC Tryz.prog 109 [.ptr b 0] d λk x=>bW c b (dt a).2 x/\k= .v (.int .u8 (dt a).1.toNat):=by
 refine bf hm Ms a9q ?_;refine aF (c2 @ba @bb) ?_;refine ai (ub c d b a 1 a9p r) ?_;rintro k C ⟨o,D,rfl⟩;unfold dt;have h:=λaR=>qF (a:=a) (e:=1) (B:=aR);generalize ds a 1=y at*;obtain⟨aR,E⟩:=y;cases aR with
 |none=>simp only[a6I,a7Z]at*;refine aF (c2 @ba @bb) ?_;exact⟨_,U.a1,o,rfl⟩
 |some aR=>
  simp only[a7i,a6K]at*;have h:=h aR rfl
  match aR,h with
  | [p],_=>have z:eC 1 (some (ak p))=some (.bV [.v (.int .u8 p.toNat)]):=rfl;simp -dsimp -implicitDefEqProofs (disch:=first|omega|assumption|(simp only[aE,Nat.reduceAdd];try omega)) only[hl,z,go_sem,↓reduceIte,Nat.reduceEqDiff,Nat.reduceAdd,Nat.reduceSub,Nat.reduceMul,Nat.reduceLeDiff,Nat.reduceLT,Int.reduceNeg,Int.reduceToNat,Int.reduceAdd,Int.reduceSub,Int.reduceMul,Int.reduceLT,Int.reduceLE,Int.reduceEq,Int.reduceNe,ba,bb,List.headD_cons];exact⟨_,U.a1,o⟩
def fl (a:List UInt8):Nat:=a.foldl (λb c=>b*256+c.toNat) 0
def iD (a:Rd):Int×Rd:=
 match(ds a 8).1 with
 |none=>(0,(ds a 8).2)
 |some aR=>((BitVec.ofNat 64 (fl aR)^^^9223372036854775808#64).toInt,(ds a 8).2)
def CL: ∀(aR:List UInt8) (a:Nat),aR.foldl (λa b=>a*256+b.toNat) a+1<=(a+1)*256^aR.length
 | [],a=>by simp
 |b::aR,a=>by
  have c:=CL aR (a*256+b.toNat);have d:=b.toNat_lt;rw[a5O,a4M,a8D];refine a5H c ?_;rw[a9k (256^aR.length) 256,<-Nat.mul_assoc];exact a4Y _ a9p
def CM (a:List UInt8):fl a<256^a.length:=by have:=CL a 0;rw[fl];omega
def XD (a:List UInt8) (b:Nat) (c:b<a.length):fl (a.take (b+1))=fl (a.take b)*256+(a.getD b 0).toNat:=by rw[a8W,a4H c,fl,a6N];simp[fl,List.getD,c]
theorem XE (a b:Nat) (c:a<18446744073709551616) (d:b<18446744073709551616):bn .or (.int .u64 a) (.int .u64 b)=some (.int .u64 ((a|||b:Nat):Int)):=by have h:bn .or (.int .u64 a) (.int .u64 b)=some (.int .u64 (IntKind.u64.wrap (BitVec.ofInt 64 (a:Int)|||BitVec.ofInt 64 (b:Int)).toNat)):=rfl;have k:=(BitVec.ofInt 64 (a:Int)|||BitVec.ofInt 64 (b:Int)).isLt;grind[wrap_u64,BitVec.toNat_or,BitVec.toNat_ofNat,Nat.mod_eq_of_lt]
def CN (b a:Nat) (d:a<256):b*256|||a=b*256+a:=by have c:=a7z (i:=8) (b:=a) a9p b;rw[a7b]at c;exact c.symm
def XF (a:Nat) (c:a<72057594037927936):bn .shl (.int .u64 a) (.int .u64 8)=some (.int .u64 ((a*256:Nat):Int)):=by have b:bn .shl (.int .u64 a) (.int .u64 8)=some (.int .u64 (IntKind.u64.wrap ((a:Int)*2^8))):=rfl;rw[b,wrap_u64 a9p a9p];simp
theorem XG (a:Nat) (b:a<18446744073709551616):bn .xor (.int .u64 a) (.int .u64 9223372036854775808)=some (.int .u64 ((BitVec.ofNat 64 a^^^9223372036854775808#64).toNat:Int)):=by have c:bn .xor (.int .u64 a) (.int .u64 9223372036854775808)=some (.int .u64 (IntKind.u64.wrap (BitVec.ofInt 64 (a:Int)^^^BitVec.ofInt 64 9223372036854775808).toNat)):=rfl;grind[BitVec.ofNat,BitVec.ofInt,wrap_u64]
def XH (a:BitVec 64):IntKind.i64.wrap (a.toNat:Int)=a.toInt:=by have b:((2:Int)^IntKind.i64.bits)=18446744073709551616:=rfl;have c:((2:Int)^(IntKind.i64.bits - 1))=9223372036854775808:=rfl;have d:=a.isLt;simp only[IntKind.wrap,b,c,IntKind.signed,a6m,decide_eq_true_eq,BitVec.toInt_eq_toNat_cond];omega
theorem XI (k o:U) (h:Nat) (c:Rd) (S:bW k h c o):
  AC Tryz.prog 282 [.ptr h 0] o λy p=>bW k h (iD c).2 p/\y= .v (.int .i64 (iD c).1):=by
 refine bf hm R6 a9q ?_;refine aF (c2 @ba @bb) ?_;refine ai (ub k o h c 8 a9p S) ?_;rintro y T ⟨z,V,rfl⟩;unfold iD;have C:=λaR=>qF (a:=c) (e:=8) (B:=aR);generalize ds c 8=W at*;obtain⟨aR,n⟩:=W;cases aR with
 |none=>simp only[a6I,a7Z]at*;refine aF (c2 @ba @bb) ?_;exact⟨_,U.a1,z⟩
 |some aR=>
  simp only[a7i,a6K]at*;have C:=C aR rfl;refine aF (c2 @ba @bb) ?_;refine cu (λb p=> ∃a:Nat,a<=8/\p=T/\b 15= .J (aR.map ak) V/\b 16= .v (.int .i64 aR.length)/\b 17= .v (.int .i64 a)/\b 5= .v (.int .u64 (fl (aR.take a))))
   (λb _=>match b 17 with| .v (.int _ e)=>(8 - e).toNat| _=>0) ⟨0,a9p,rfl,?_⟩ ?_
  .refine aF (aI @a6q.{0} @ba @bb) ?_;rfl
  .rintro b q ⟨a,s,rfl,D,E,F,r⟩;have x:=CM (aR.take a);rw[a4L]at x;by_cases G:(a:Int)<aR.length
   .have L:a<aR.length:=a9p;have t:fl (aR.take a)<72057594037927936:=by refine a5X x ?_;refine a5H (a6w (n:=256) (i:=min a aR.length) (j:=7) a9p a9p) a9t
    have f:=wM (B:=aR) L;have g:=XD aR a L;generalize u:aR.getD a 0=d at*;have v:=d.toNat_lt;have i:IntKind.u64.wrap (d.toNat:Int)=d.toNat:=wrap_u64 a9p a9p;generalize fl (aR.take a)=P at*;have j:bn .or (.int .u64 ((P*256:Nat):Int)) (.int .u64 (d.toNat:Int))=some (.int .u64 ((P*256+d.toNat:Nat):Int)):=by rw[XE _ _ a9p a9p,CN _ _ a9p]
    have l:eC 1 (aR.map ak)[a]? =some (.bV [.v (.int .u8 d.toNat)]):=by rw[f];rfl
    simp -dsimp -implicitDefEqProofs (disch:=first|omega|assumption|(simp only[aE,Nat.reduceAdd];try omega)) only[D,E,F,r,G,go_sem,↓reduceIte,Nat.reduceEqDiff,Nat.reduceAdd,Nat.reduceSub,Nat.reduceMul,Nat.reduceLeDiff,Nat.reduceLT,Int.reduceNeg,Int.reduceToNat,Int.reduceAdd,Int.reduceSub,Int.reduceMul,Int.reduceLT,Int.reduceLE,Int.reduceEq,Int.reduceNe,ba,bb,hl,l,XF,i,j];refine⟨⟨a+1,a9p,a9q,?_⟩,a9p⟩;rw[g]
   .obtain rfl:a=8:=a9p;have m:aR.take 8=aR:=a4I a9p;rw[m]at r x;have w:fl aR<18446744073709551616:=by simp_all
    simp -dsimp -implicitDefEqProofs (disch:=first|omega|assumption|(simp only[aE,Nat.reduceAdd];try omega)) only[D,E,F,r,G,go_sem,↓reduceIte,Nat.reduceEqDiff,Nat.reduceAdd,Nat.reduceSub,Nat.reduceMul,Nat.reduceLeDiff,Nat.reduceLT,Int.reduceNeg,Int.reduceToNat,Int.reduceAdd,Int.reduceSub,Int.reduceMul,Int.reduceLT,Int.reduceLE,Int.reduceEq,Int.reduceNe,ba,bb,XG,XH];exact⟨_,U.a1,z⟩
def mY (a:Rd):List UInt8×Rd:=((ds a 32).1.getD u7,(ds a 32).2)
def CO (a:Rd):(mY a).1.length=32:=by
 unfold mY;have b:=λaR=>qF (a:=a) (e:=32) (B:=aR);cases c:(ds a 32).1 with
 |none=>rfl
 |some aR=>exact b aR c
def CP (r D:U) (h:Nat) (b:Rd) (k:bW r h b D):
  AC Tryz.prog 256 [.ptr h 0] D λc P=>bW r h (mY b).2 P/\c=cL (mY b).1:=by
 refine bf hm QK a9q ?_;have E:=CO b;refine aF (c2 @ba @bb) ?_;refine aP λS T=> ?_;obtain⟨F,V,k⟩:=k.new (ob:=eQ) T;refine aF (c2 @ba @bb) ?_;refine aP λW e=> ?_;obtain⟨G,x,k⟩:=k.new (ob:=eQ) e;obtain⟨d,x⟩:=U.gM x;refine aF (c2 @ba @bb) ?_;refine ai (ub _ _ h b 32 a9p k) ?_;rintro c f ⟨y,i,rfl⟩;have o:=y.get F (by rw[U.an _ _ (a4Q d)];exact U.ah _ _ _);have a:=y.get G (U.ah _ _ _);have L: ∀(c z:bp),bW r h (ds b 32).2 ((f.set W c).set S z):=λc z=>by
  have:=(y.other (ob:=c) G).other (ob:=z) F;rw[U.set_set]at this;refine this.base ?_;rw[U.ef _ d,U.set_set];exact U.ae (U.ae U.a1 V) x
 unfold mY at E|-;have p:=λaR=>qF (a:=b) (e:=32) (B:=aR);generalize ds b 32=g at*;obtain⟨aR,j⟩:=g;unfold eQ at o a;have l:(List.replicate 32 (R.v (Value.int IntKind.u8 0))).length=32:=rfl;cases aR with
 |none=>
  simp only[a6I,a7Z]at*;simp -dsimp -implicitDefEqProofs (disch:=first|omega|assumption|(simp only[aE,Nat.reduceAdd];try omega)) only[go_sem,↓reduceIte,Nat.reduceEqDiff,Nat.reduceAdd,Nat.reduceSub,Nat.reduceMul,Nat.reduceLeDiff,Nat.reduceLT,Int.reduceNeg,Int.reduceToNat,Int.reduceAdd,Int.reduceSub,Int.reduceMul,Int.reduceLT,Int.reduceLE,Int.reduceEq,Int.reduceNe,ba,bb,U.af a,U.aJ a,wQ (U.af a)];refine C4 ?_ a ?_ ?_
  .simp[aN]
  .simp
  have C:putAt (List.replicate 32 (R.v (Value.int IntKind.u8 0))) 0 (flat (List.take 32 []))=u7.map ak:=rfl;rw[C];refine aF (cc @E @d (a4Q d) (U.af o) (U.aJ o) @ba @bb) ?_;exact⟨_,U.a1,L _ _⟩
 |some aR=>
  simp only[a7i,a6K]at*;have p:=p aR rfl;simp -dsimp -implicitDefEqProofs (disch:=first|omega|assumption|(simp only[aE,Nat.reduceAdd];try omega)) only[go_sem,↓reduceIte,Nat.reduceEqDiff,Nat.reduceAdd,Nat.reduceSub,Nat.reduceMul,Nat.reduceLeDiff,Nat.reduceLT,Int.reduceNeg,Int.reduceToNat,Int.reduceAdd,Int.reduceSub,Int.reduceMul,Int.reduceLT,Int.reduceLE,Int.reduceEq,Int.reduceNe,ba,bb,U.af a,U.aJ a,wQ (U.af a)];refine C4 ?_ a ?_ ?_
  .rw[tN];trivial
  .simp
  have C:putAt (List.replicate 32 (R.v (Value.int IntKind.u8 0))) 0 (flat (List.take 32 (List.map ak aR)))=aR.map ak:=by rw[a4I (by simp[p]),rE,ql (by simp[p])]
  rw[C];refine aF (cc @p @d (a4Q d) (U.af o) (U.aJ o) @ba @bb) ?_;exact⟨_,U.a1,L _ _⟩
def oa (a:Rd):Rd:=if 0<a.b.length then mc a 22 else a
def CQ (c d:U) (b:Nat) (a:Rd) (h:bW c b a d):
  AC Tryz.prog 111 [.ptr b 0] d λo y=>bW c b (oa a) y/\o= .v (.int .i64 (oa a).e):=by
 obtain⟨C,p⟩:=h.cell;refine bf hm Mw a9q ?_;unfold oa;by_cases r:0<a.b.length
 .have k:(0:Int)<a.b.length:=a9p;refine aF (aM (U.af p) @k @ba @bb) ?_;refine ai (sm c d b a 22 h) ?_;intro o D x;obtain⟨E,z⟩:=x.cell;rw[if_pos r];refine aF (aI (U.af z) @ba @bb) ?_;exact⟨_,U.a1,x⟩
 .have k: ¬(0:Int)<a.b.length:=a9p;rw[if_neg r];refine aF (aM (U.af p) @k @ba @bb) ?_;exact⟨_,U.a1,h⟩
def fm (a:Nat):List UInt8:= [UInt8.ofNat (a>>>16),UInt8.ofNat (a>>>8),UInt8.ofNat a]
def hV (a:List UInt8):List UInt8:=fm a.length++a
def dy (a:List Int):List UInt8:=UInt8.ofNat a.length::a.flatMap hT
theorem kA (a:Nat):(fm a).length=3:=rfl
theorem xh (a:List UInt8):(hV a).length=3+a.length:=by simp[hV,fm];omega
theorem ob (a:List Int):(a.flatMap hT).length=8*a.length:=by
 induction a with
 |nil=>rfl
 |cons b a ih=>rw[a5l,a4J,ih,CI,a4M];omega
def xi (a:List Int):(dy a).length=1+8*a.length:=by rw[dy,a4M,ob];omega
theorem CR (b a:Nat) (c:a<=64):bn .shr (.int .i64 (b:Int)) (.int .u64 (a:Int))=some (.int .i64 ((b>>>a:Nat):Int)):=by
 have d:bn .shr (.int .i64 (b:Int)) (.int .u64 (a:Int))=some (.int .i64 ((b:Int).fdiv (2^a))):=by have hm:min a IntKind.i64.bits=a:=a6r c;simp[bn,eK,nL,hm]
 grind[Nat.shiftRight_eq_div_pow,Int.ofNat_fdiv]
def sn (d h:U) (b:Nat) (c:List UInt8) (a:Nat) (F:a<=1048576) (r:cD d b c h) (G:c.length<=1000000000000):
  AC Tryz.prog 169 [.ptr b 0,.v (.int .i64 a)] h λ_ x=>cD d b (c++fm a) x:=by
 refine bf hm Of a9q ?_;have k:bn .shr (.int .i64 (a:Int)) (.int .u64 16)=some (.int .i64 ((a>>>16:Nat):Int)):=CR a 16 a9p;have o:bn .shr (.int .i64 (a:Int)) (.int .u64 8)=some (.int .i64 ((a>>>8:Nat):Int)):=CR a 8 a9p;have p:(0:Int)<=a:=a9p;have c2:(a:Int)<=1048576:=a9p;refine aF (bo @k @o @ix @p @c2) ?_;refine cI U.a1 (by simp[aN,R.cells]) λy z C=> ?_;refine aF (bo @k @o @ix @p @c2) ?_;refine ai (ua d z b c (fm a) y (r.mono C.sub) (by rw[kA];omega)) ?_;intro L D E;refine eD ?_;exact⟨D,U.a1,E⟩
def CS (c h:U) (b:Nat) (d a:List UInt8) (k:Own) (o:a.length<=1048576) (p:cD c b d h) (r:d.length<=1000000000000):
  AC Tryz.prog 104 [.ptr b 0,.J (a.map ak) k] h λ_ x=>cD c b (d++hV a) x:=by
 refine bf hm Mi a9q ?_;have c2: ¬(1048576:Int)<a.length:=a9p;simp -dsimp -implicitDefEqProofs (disch:=first|omega|assumption|(simp only[aE,Nat.reduceAdd];try omega)) only[go_sem,simprocAttr,c2];refine ai (sn c h b d a.length o p r) ?_;intro y z C;simp -dsimp -implicitDefEqProofs (disch:=first|omega|assumption|(simp only[aE,Nat.reduceAdd];try omega)) only[go_sem,simprocAttr];refine ai (ua c z b _ a k C (by rw[a4J,kA];omega)) ?_;intro y D E;simp -dsimp -implicitDefEqProofs (disch:=first|omega|assumption|(simp only[aE,Nat.reduceAdd];try omega)) only[go_sem,simprocAttr];refine⟨D,U.a1,?_⟩;rw[hV,<-a4U];exact E
def ad (a:List Int):List R:=a.map λb=> .v (.int .i64 b)
def dO {a:List Int}{b:Nat} (c:b<a.length):(ad a)[b]? =some (.v (.int .i64 (a.getD b 0))):=by simp[ad,c,List.getD]
variable{q b6:List Int}
theorem bH:(ad q).length=q.length:=by simp[ad]
theorem so (h o:U) (c:Nat) (k:List UInt8) (a:List Int) (D:Own) (e:a.length<=255) (L:cD h c k o) (f:k.length<=1000000000000):
  AC Tryz.prog 171 [.ptr c 0,.J (ad a) D] o λ_ p=>cD h c (k++dy a) p:=by
 refine bf hm Oj a9q ?_;have c2: ¬(255:Int)<a.length:=a9p;have E:=bH (q:=a);refine aF (aI @E @c2 @ix) ?_;refine ai (mX h o c k _ L a9p) ?_;intro P g S;refine aF @E ?_;refine cu (λd p=> ∃b:Nat,b<=a.length/\cD h c (k++(UInt8.ofNat a.length::(a.take b).flatMap hT)) p/\d 0= .ptr c 0/\d 17= .J (ad a) D/\d 18= .v (.int .i64 a.length)/\d 19= .v (.int .i64 b))
  (λd _=>match d 19 with| .v (.int _ T)=>(a.length - T).toNat| _=>0) ⟨0,a9p,by simpa using S,?_⟩ ?_
 .exact qw
 .rintro d F ⟨b,i,r,x,y,z,C⟩;by_cases G:(b:Int)<a.length
  .have V:b<a.length:=a9p;have W:=dO V;refine aF (cc @x @y @z @C @G @hl @W) ?_;refine ai (Xx h F c _ _ r ?_) ?_;grind[ob,List.length_append,List.length_cons,List.length_take];intro P j l;refine aF (aM @x @y @z @C) ?_;refine⟨⟨b+1,a9p,?_,a9q⟩,a9p⟩;grind[hT,List.take_succ,List.getElem?_eq_getElem,List.getD]
  .obtain rfl:b=a.length:=a9p;refine aF (bo @x @y @z @C @G) ?_;refine⟨F,U.a1,?_⟩;rw[a5f]at r;exact r
def CT (h a:U) (b:Nat) (c:List UInt8) (k:cD h b c a):
  AC Tryz.prog 107 [.ptr b 0] a λo p=>p=a/\o= .v (.int .i64 0):=by
 obtain⟨r,d⟩:=k.cell;refine bf hm Mo a9q ?_;have x:aY false 1 ([R.J (c.map ak) r,.v (.int .i64 0)].drop 1)= .v (.int .i64 0):=rfl;unfold u9 at d;refine aF (c2 (U.af d) @x) ?_;exact⟨a,U.a1,rfl⟩
def fy (b:Nat) (a:Rd):Nat×Rd:=
 match(ds a 3).1 with
 |none=>(0,(ds a 3).2)
 |some aR=>if min b 1048576<fl aR then(0,mc (ds a 3).2 10)else(fl aR,(ds a 3).2)
def qG (a:Nat) (b:Rd):List UInt8×Rd:=((ds (fy a b).2 (fy a b).1).1.getD [],(ds (fy a b).2 (fy a b).1).2)
theorem CU (a b:Nat) (c:a<4611686018427387904) (d:b<4611686018427387904):bn .or (.int .i64 a) (.int .i64 b)=some (.int .i64 ((a|||b:Nat):Int)):=by
 have h:bn .or (.int .i64 a) (.int .i64 b)=some (.int .i64 (IntKind.i64.wrap (BitVec.ofInt 64 (a:Int)|||BitVec.ofInt 64 (b:Int)).toNat)):=rfl;have k:a|||b<4611686018427387904:=Nat.or_lt_two_pow (n:=62) c d
 grind[BitVec.toNat_or,BitVec.toNat_ofNat,Nat.mod_eq_of_lt,wrap_i64]
theorem wN (b:UInt8) (a:Nat) (c:a<=16):bn .shl (.int .i64 (b.toNat:Int)) (.int .u64 (a:Int))=some (.int .i64 ((b.toNat*2^a:Nat):Int)):=by
 have k:=b.toNat_lt;have o:bn .shl (.int .i64 (b.toNat:Int)) (.int .u64 (a:Int))=some (.int .i64 (IntKind.i64.wrap ((b.toNat:Int)*2^(min (a:Int).toNat 64)))):=by have d: ¬(a:Int)<0:=a9p;simp only[bn,eK,nL,d,if_false,if_true];rfl
 have hm:min (a:Int).toNat 64=a:=a9p;have h:2^a<=65536:=a6w (n:=2) a9p c;have p:b.toNat*2^a<=256*65536:=a8m a9p h;grind[wrap_i64]
theorem XJ (a b c:UInt8):a.toNat*65536|||b.toNat*256|||c.toNat=fl [a,b,c]:=by
 have h:=a.toNat_lt;have k:=b.toNat_lt;have d:=c.toNat_lt;have o:a.toNat*65536|||b.toNat*256=a.toNat*65536+b.toNat*256:=by have:=a7z (a:=a.toNat) (i:=16) (b:=b.toNat*256) a9p;rw[a7b]at this;exact this.symm
 have p:(a.toNat*256+b.toNat)*256|||c.toNat=(a.toNat*256+b.toNat)*256+c.toNat:=CN _ _ d
 grind[fl]
def XK (a:B.length=3):fl B<16777216:=by have:=CM B;rw[a]at this;exact this
def sq (o r:U) (k:Nat) (d:Nat) (n:d<=1048576) (h:Rd) (E:bW o k h r):
  AC Tryz.prog 255 [.ptr k 0,.v (.int .i64 d)] r λx F=>bW o k (fy d h).2 F/\x= .v (.int .i64 (fy d h).1):=by
 refine bf hm QI a9q ?_;refine eD ?_;refine ai (ub o r k h 3 a9p E) ?_;rintro x G ⟨y,q,rfl⟩;unfold fy;have p:=λaR=>qF (a:=h) (e:=3) (B:=aR);generalize ds h 3=L at*;obtain⟨aR,P⟩:=L;cases aR with
 |none=>simp only[a6I,a7Z]at*;refine eD ?_;exact⟨_,U.a1,y⟩
 |some aR=>
  simp only[a7i,a6K]at*;have p:=p aR rfl;have s:=XK p
  match aR,p with
  | [a,b,c],_=>
   have S:eC 1 (some (ak a))=some (.bV [.v (.int .u8 a.toNat)]):=rfl;have T:eC 1 (some (ak b))=some (.bV [.v (.int .u8 b.toNat)]):=rfl;have V:eC 1 (some (ak c))=some (.bV [.v (.int .u8 c.toNat)]):=rfl;have t:=a.toNat_lt;have u:=b.toNat_lt;have v:=c.toNat_lt;have W:IntKind.i64.wrap (a.toNat:Int)=a.toNat:=wrap_i64 a9p a9p;have e:IntKind.i64.wrap (b.toNat:Int)=b.toNat:=wrap_i64 a9p a9p;have f:IntKind.i64.wrap (c.toNat:Int)=c.toNat:=wrap_i64 a9p a9p;have g:bn .shl (.int .i64 (a.toNat:Int)) (.int .u64 16)=some (.int .i64 ((a.toNat*65536:Nat):Int)):=wN a 16 a9p;have i:bn .shl (.int .i64 (b.toNat:Int)) (.int .u64 8)=some (.int .i64 ((b.toNat*256:Nat):Int)):=wN b 8 a9p;have j:bn .or (.int .i64 ((a.toNat*65536:Nat):Int)) (.int .i64 ((b.toNat*256:Nat):Int))=some (.int .i64 ((a.toNat*65536|||b.toNat*256:Nat):Int)):=CU _ _ a9p a9p;have w:a.toNat*65536|||b.toNat*256<16777216:=Nat.or_lt_two_pow (n:=24) a9p a9p
   have l:bn .or (.int .i64 ((a.toNat*65536|||b.toNat*256:Nat):Int)) (.int .i64 (c.toNat:Int))=some (.int .i64 ((fl [a,b,c]:Nat):Int)):=by rw[CU _ _ a9p a9p,XJ]
   simp -dsimp -implicitDefEqProofs (disch:=first|omega|assumption|(simp only[aE,Nat.reduceAdd];try omega)) only[hl,S,T,V,↓s7,s8,aj,ofConst,cY,simprocAttr,gd,a6c,↓sa,sb,ne_eq,not_true_eq_false,not_false_eq_true,Int.reduceNe,a6u,a6L,↓Ca,Cb,W,e,f,g,i,j,l];have C:min (d:Int) 1048576=((min d 1048576:Nat):Int):=a9p;by_cases D:min d 1048576<fl [a,b,c]
   .have z:((min d 1048576:Nat):Int)<(fl [a,b,c]:Int):=a9p;refine aF (c2 @C @z) ?_;refine ai (sm o G k P 10 y) ?_;intro x A m;refine eD ?_;rw[if_pos D];exact⟨_,U.a1,m,rfl⟩
   .have z: ¬((min d 1048576:Nat):Int)<(fl [a,b,c]:Int):=a9p;refine aF (c2 @C @z) ?_;rw[if_neg D];exact⟨_,U.a1,y,rfl⟩
theorem xj (a:Nat) (b:Rd):(fy a b).1<=a/\(fy a b).1<=1048576:=by grind[fy]
theorem CV (d k:U) (c:Nat) (a:Nat) (r:a<=1048576) (b:Rd) (x:bW d c b k):
  AC Tryz.prog 174 [.ptr c 0,.v (.int .i64 a)] k λo y=>bW d c (qG a b).2 y/\ ∃h,(h= .nil->(qG a b).1= [])/\o= .J ((qG a b).1.map ak) h:=by
 refine bf hm Ot a9q ?_;simp -dsimp -implicitDefEqProofs (disch:=first|omega|assumption|(simp only[aE,Nat.reduceAdd];try omega)) only[go_sem,simprocAttr];refine ai (sq d k c a r b x) ?_;rintro o z ⟨C,rfl⟩;have P:=xj a b;simp -dsimp -implicitDefEqProofs (disch:=first|omega|assumption|(simp only[aE,Nat.reduceAdd];try omega)) only[go_sem,simprocAttr];refine ai (CK d z c (fy a b).2 (fy a b).1 a9p C) ?_;rintro o D ⟨E,h,F,rfl⟩;simp -dsimp -implicitDefEqProofs (disch:=first|omega|assumption|(simp only[aE,Nat.reduceAdd];try omega)) only[go_sem,simprocAttr];have S:((ds (fy a b).2 (fy a b).1).1.getD []).length<=1048576:=by grind[ds,fy,qF]
 refine ai (xf _ h D F a9p) ?_;rintro _ G ⟨L,p,rfl⟩;simp -dsimp -implicitDefEqProofs (disch:=first|omega|assumption|(simp only[aE,Nat.reduceAdd];try omega)) only[go_sem,simprocAttr];refine⟨G,U.a1,E.mono p.sub,L,?_,rfl⟩;rintro rfl;have:=p.2;simpa[qG] using this
def jO:Nat->Rd->List Int->List Int×Rd
 |0,a,acc=>(acc,a)
 |b+1,a,acc=>jO b (iD a).2 (if(iD a).2.e=0 then acc++ [(iD a).1]else acc)
def hX (c:Nat) (d:Rd):List Int×Rd:=
 let a:=dt d
 let b:=jO a.1.toNat (if c<a.1.toNat then mc a.2 10 else a.2) []
 if b.2.e=0 then b else([],b.2)
theorem CW: ∀(c:Nat) (a:Rd) (b:List Int),(jO c a b).1.length<=b.length+c
 |0,a,b=>by simp[jO]
 |c+1,a,b=>by
  rw[jO];have:=CW c (iD a).2 (if(iD a).2.e=0 then b++ [(iD a).1]else b);grind
theorem xk (b:Nat) (a:Rd):(hX b a).1.length<=255:=by unfold hX;have c:=CW (dt a).1.toNat (if b<(dt a).1.toNat then mc (dt a).2 10 else(dt a).2) [];have d:=(dt a).1.toNat_lt;grind
def bW.full {c:Rd} (d:bW t e c f):bW (f.del e) e c f:=by
 obtain⟨h,k⟩:=d.cell;refine⟨h,λo p a=> ?_⟩;by_cases b:o=e
 .subst b;rw[U.ah]at a;rw[k];exact a
 .rw[U.an _ _ b,U.eI _ b]at a;exact a
def CX (d:(f.set e Y).sub t) (h:f e=none):f.sub (t.del e):=λb k a=>by
 have c:b≠e:=by rintro rfl;rw[h]at a;cases a
 rw[U.eI _ c];exact d b k (by rw[U.an _ _ c];exact a)
def dk.step {d o p:U}{a r:Nat}{E x:Rd}{F:Own}{y:List R}{h:Own} (z:bh (d.set a (hU E F)) o r y h) (G:d a=none) (L:bW (o.del a) a x p): ∃k,bh (d.set a (hU x k)) p r y h:=by
 obtain⟨k,C⟩:=L;refine⟨k,?_,?_⟩
 .refine U.aq ?_ C;exact U.lg (CX z.sub G)
 .have b:=z.2;cases h with
  |buf P S=>
   have c:P≠a:=by rintro rfl;have:=b.1;rw[U.ah]at this;cases this
   have D:=b.1;rw[U.an _ _ c]at D;exact⟨by rw[U.an _ _ c];exact D,C _ _ (by rw[U.an _ _ c,U.eI _ c];exact b.2)⟩
  | _=>exact b
variable{g A e1:List R}{N e5 h5:Own}
def dk.rs {a:Rd} (b:bh (f.set e (hU a N)) t i g e5):bW f e a t:=⟨N,b.sub⟩
theorem ph (x j:U) (c:Nat) (y:Nat) (k3:y<=1048576) (P:Rd) (I:x c=none) (K:bW x c P j):
  AC Tryz.prog 207 [.ptr c 0,.v (.int .i64 y)] j λr S=>bW x c (hX y P).2 S/\ ∃G,r= .J (ad (hX y P).1) G:=by
 refine bf hm Pj a9q ?_;refine eD ?_;refine ai (pg x j c P K) ?_;rintro r M ⟨l,rfl⟩;unfold hX;generalize dt P=N at*;obtain⟨o,m⟩:=N;simp only at l|-;have k4:=o.toNat_lt;have n:IntKind.i64.wrap (o.toNat:Int)=o.toNat:=wrap_i64 a9p a9p;have O: ∃L,L=(if y<o.toNat then mc m 10 else m):=⟨_,rfl⟩;obtain⟨L,T⟩:=O;rw[<-T];refine aF @n ?_;refine BU (λp S=>p 0= .ptr c 0/\p 5= .v (.int .i64 o.toNat)/\bW x c L S) ?_ ?_ ?_
 .intro h;have q:y<o.toNat:=by have:=of_decide_eq_true h;omega
  rw[if_pos q]at T;refine eD ?_;refine ai (sm x M c m 10 l) ?_;intro r Q V;refine aF @n ?_;rw[T];exact V
 .intro h;have q: ¬y<o.toNat:=by have:=of_decide_eq_false h;omega
  rw[if_neg q]at T;refine aF @n ?_;rw[T];exact l
 rintro p Q ⟨v,w,V⟩;generalize o.toNat=k at*;refine aF (c2 @v @w) ?_;refine cu (λp S=> ∃(b:Nat) (a:Rd) (d:List Int) (i G:Own),b<=k/\jO (k - b) a d=jO k L []/\d.length<=b/\bh (x.set c (hU a G)) S 1 (ad d) i/\p 0= .ptr c 0/\p 6= .J (ad d) i/\p 16= .v (.int .i64 k)/\p 17= .v (.int .i64 b))
  (λp _=>match p 17 with| .v (.int _ o)=>(k - o).toNat| _=>0) ?_ ?_
 .obtain⟨G,V⟩:=V;refine⟨0,L,[],.nil,G,a9p,rfl,a9q,bh.nil V,?_⟩;refine aF (c2 @v @w) ?_;rfl
 .rintro k5 A ⟨b,a,d,i,G,k6,z,k7,W,C,D,E,F⟩;by_cases s:(b:Int)<k
  .refine aF (bo @C @D @E @F @s) ?_;refine ai (XI (A.del c) A c a (dk.rs W).full) ?_;rintro r k8 ⟨t,rfl⟩;have X:jO (k - b) a d=jO (k -(b+1)) (iD a).2 (if(iD a).2.e=0 then d++ [(iD a).1]else d):=by rw[show k - b=(k -(b+1))+1 by omega];rfl
   rw[X]at z;obtain⟨Y,B⟩:=dk.step W I t;generalize iD a=Z at*;obtain⟨r,e⟩:=Z;simp only at t B z|-;obtain⟨u,f⟩:=t.cell;have g:aY false 1 ([R.J (e.b.map ak) u,.v (.int .i64 e.e)].drop 1)= .v (.int .i64 e.e):=rfl;by_cases h:e.e=0
   .rw[if_pos h]at z;refine aF (cc @C @D @E @F (U.af f) @g @h) ?_;refine cI U.a1 (by simp[aN,R.cells]) λk9 l0 j9=> ?_;refine aF (aM @C @D @E @F) ?_;refine dp (B.mono j9.sub) (by simp[aN,ad,R.cells]) (by simp[aN,R.cells]) (by simp[bH];omega) (by simp[bH];omega) λk0 l1 H=> ?_;refine aF (aM @C @D @E @F) ?_;have k1:ad d++ [R.v (.int .i64 r)]=ad (d++ [r]):=by simp[ad]
    rw[k1]at H|-;exact⟨⟨b+1,e,d++ [r],k0,Y,a9p,z,a9r,H,rfl,a9q⟩,a9p⟩
   .rw[if_neg h]at z;refine aF (cc @C @D @E @F (U.af f) @g @h) ?_;grind
  .obtain rfl:b=k:=a9p;rw[a7h]at z;have k2:jO b L []=(d,a):=by rw[<-z];rfl
   rw[k2];obtain⟨u,f⟩:=(dk.rs W).cell;have g:aY false 1 ([R.J (a.b.map ak) u,.v (.int .i64 a.e)].drop 1)= .v (.int .i64 a.e):=rfl;by_cases h:a.e=0
   .refine aF (bu @C @D @E @F @s (U.af f) @g @h) ?_;exact⟨_,U.a1,dk.rs W,i,rfl⟩
   .refine aF (bu @C @D @E @F @s (U.af f) @g @h) ?_;exact⟨_,U.a1,dk.rs W,.nil,rfl⟩
def headD (b:List (List UInt8)) (a:Nat):List UInt8:=if a=0 then u7 else b.getD (a - 1) u7
def XL (a:Int) (b c:List UInt8) (d:Int) (h:R):List R:=xg a b c++ [.v (.int .i64 d),h]
structure xl where
 o:iC
 st:Int
 xm:Option (iC×iC)
def xl.ok (a:xl):Prop:=a.o.ok/\ ∀b c,a.xm=some (b,c)->b.ok/\c.ok
def CY (a:iC) (b:Int) (c:R):List R:=XL a.n a.h a.d b c
def FS (c:U) (d:Nat) (a:xl) (h:U):Prop:=
 match a.xm with
 |none=>(c.set d (.cells (CY a.o a.st (.v (.pointer none))))).sub h
 |some (k,o)=> ∃b,c b=none/\b≠d/\((c.set d (.cells (CY a.o a.st (.ptr b 0)))).set b (.cells (k.C++o.C))).sub h
def XM (c d:U) (a:Nat) (b:List UInt8) (h:Bool) (o:cD c a b d) (p:b.length+1<=70368744177664):
  AC Tryz.prog 290 [.ptr a 0,.v (.bool h)] d λ_ r=>cD c a (b++ [if h then 1 else 0]) r:=by
 refine bf hm Rn a9q ?_;cases h
 .refine aF (c2 @ba @bb) ?_;refine ai (mX c d a b 0 o p) ?_;intro x y k;refine aF (c2 @ba @bb) ?_;exact⟨_,U.a1,k⟩
 .refine aF (c2 @ba @bb) ?_;refine ai (mX c d a b 1 o p) ?_;intro x y k;refine aF (c2 @ba @bb) ?_;exact⟨_,U.a1,k⟩
theorem CZ (a c:List UInt8) (D E:Own) (h:U) (f:a.length<=70368744177664):
  AC Tryz.prog 112 [.J (a.map ak) D,.J (c.map ak) E] h λL z=>z=h/\L= .v (.bool (decide (a=c))):=by
 refine bf hm My a9q ?_;by_cases P:a.length=c.length
 .have k:(a.length:Int)=c.length:=a9p;refine aF (aI @k @ba @bb) ?_;rw[<-k];refine cu (λd z=> ∃b:Nat,b<=a.length/\z=h/\d 0= .J (a.map ak) D/\d 1= .J (c.map ak) E/\d 12= .v (.int .i64 a.length)/\d 13= .v (.int .i64 b)/\a.take b=c.take b)
   (λd _=>match d 13 with| .v (.int _ S)=>(a.length - S).toNat| _=>0) ⟨0,a9p,rfl,?_⟩ ?_
  .exact gW (aI @a6q.{0} @ba @bb)
  .rintro d F ⟨b,g,rfl,o,p,r,x,i⟩;by_cases y:(b:Int)<a.length
   .have T:b<a.length:=a9p;have V:b<c.length:=a9p;have W:eC 1 (a.map ak)[b]? =some (.bV [.v (.int .u8 (a.getD b 0).toNat)]):=by rw[wM T];rfl
    have e:eC 1 (c.map ak)[b]? =some (.bV [.v (.int .u8 (c.getD b 0).toNat)]):=by rw[wM V];rfl
    simp -dsimp -implicitDefEqProofs (disch:=first|omega|assumption|(simp only[aE,Nat.reduceAdd];try omega)) only[o,p,r,x,y,hl,W,e,go_sem,simprocAttr,ba,bb];by_cases G:a.getD b 0=c.getD b 0
    .have C:(((a.getD b 0).toNat:Int)=(c.getD b 0).toNat)=True:=by rw[G];simp
     simp -dsimp -implicitDefEqProofs (disch:=first|omega|assumption|(simp only[aE,Nat.reduceAdd];try omega)) only[o,p,r,x,y,C,go_sem,simprocAttr,ba,bb];refine⟨⟨b+1,a9p,a9q,?_⟩,a9p⟩;grind[List.take_succ,List.getElem?_eq_getElem,List.getD]
    .have C:(((a.getD b 0).toNat:Int)=(c.getD b 0).toNat)=False:=by simp only[eq_iff_iff,iff_false];grind[UInt8.toNat_inj]
     simp -dsimp -implicitDefEqProofs (disch:=first|omega|assumption|(simp only[aE,Nat.reduceAdd];try omega)) only[o,p,r,x,y,C,go_sem,simprocAttr,ba,bb];refine⟨F,U.a1,rfl,?_⟩;have:a≠c:=by rintro rfl;exact G rfl
     simp[this]
   .obtain rfl:b=a.length:=a9p;simp -dsimp -implicitDefEqProofs (disch:=first|omega|assumption|(simp only[aE,Nat.reduceAdd];try omega)) only[o,p,r,x,y,go_sem,simprocAttr,ba,bb];refine⟨F,U.a1,rfl,?_⟩;grind
 .have k:((a.length:Int)=c.length)=False:=by grind
  refine aF (aI @k @ba @bb) ?_;refine⟨h,U.a1,rfl,?_⟩;have:a≠c:=by rintro rfl;exact P rfl
  simp[this]
def mZ (a:Rd):Bool×Rd:=(decide ((dt a).1=1),if 1<(dt a).1.toNat then mc (dt a).2 21 else(dt a).2)
theorem XN (d h:U) (b:Nat) (c:Rd) (y:bW d b c h):
  AC Tryz.prog 206 [.ptr b 0] h λk z=>bW d b (mZ c).2 z/\k= .v (.bool (mZ c).1):=by
 refine bf hm Pg a9q ?_;refine aF (c2 @ba @bb) ?_;refine ai (pg d h b c y) ?_;rintro k C ⟨o,rfl⟩;unfold mZ;generalize dt c=D at*;obtain⟨a,E⟩:=D;simp only at o|-;have r:decide ((a.toNat:Int)=1)=decide (a=1):=by
  have:((a.toNat:Int)=1)↔a=1:=by rw[<-a5G];grind
  simp only[this]
 by_cases x:1<a.toNat
 .have p:(1:Int)<a.toNat:=a9p;refine aF (aI @p @ba @bb) ?_;refine ai (sm d C b E 21 o) ?_;intro k G F;rw[if_pos x];refine aF (aI @r @ba @bb) ?_;exact⟨_,U.a1,F⟩
 .have p: ¬(1:Int)<a.toNat:=a9p;rw[if_neg x];refine aF (aM @p @r @ba @bb) ?_;exact⟨_,U.a1,o⟩
structure ay where
 sum:List UInt8
 aV:List Int
 aW:List Int
 live:Int
 size:Int
 key:List Int
 deriving DecidableEq
def aA:ay:=⟨List.replicate 32 0,[],[],0,0,[]⟩
structure c4 where
 kind:UInt8
 rows:List (List Int×Bool)
 kids:List ay
 deriving DecidableEq
def cT (b c:List Int) (a:Nat):Bool:=decide (1<=a)&&decide (a<=8)&&decide (b.length=a)&&decide (c.length=a)&&(List.range a).all λd=>decide (b.getD d 0<=c.getD d 0)
def fo (b:Nat) (a:ay):Bool:=
 decide (a=aA)||(!(decide (a.size<1)||decide (1048576<a.size)||decide (a.live<0)||decide (a.size<a.live))&&
  if a.live=0 then decide (a.aV.length=0)&&decide (a.aW.length=0)else cT a.aV a.aW b)
def dW (c:Nat) (a:c4):Bool:=
  a.rows.all (λd=>decide (d.1.length=c))&&a.kids.all (fo c)&&
  (if a.kind=1 then decide (a.rows.length=1)&&decide (a.kids.length=2)&&a.kids.all (λb=>decide (b.key.length=0))
   else if a.kind=2 then decide (1<=a.rows.length)&&decide (a.rows.length<=4)&&decide (a.kids.length=0)&&a.rows.all (λd=>d.2)
   else if a.kind=3 then decide (a.rows.length=0)&&decide (2<=a.kids.length)&&decide (a.kids.length<=4)&&a.kids.all (λb=>decide (b.key.length=c)&& !decide (b=aA))
   else false)
def gq (a:List Int×Bool):List UInt8:=(if a.2=true then(1:UInt8)else 0)::dy a.1
def eh (a:ay):List UInt8:=a.sum++(fm a.live.toNat++(fm a.size.toNat++(dy a.aV++(dy a.aW++dy a.key))))
def db (a:c4):List UInt8:=a.kind::UInt8.ofNat a.rows.length::(a.rows.flatMap gq++UInt8.ofNat a.kids.length::a.kids.flatMap eh)
def sr (b:Nat) (a:c4):Option (List UInt8):=if dW b a=true then some (db a)else none
def cU (b a:List Int×List Int):List Int×List Int:=
 if cT b.1 b.2 b.1.length=true then
  (if cT a.1 a.2 a.1.length=true then(if b.1.length=a.1.length then(List.zipWith min b.1 a.1,List.zipWith max b.2 a.2)else([],[]))else b)
 else if cT a.1 a.2 a.1.length=true then a else([],[])
def gr (a:List Int):List Int×List Int:=if 1<=a.length/\a.length<=8 then(a,a)else([],[])
structure gf where
 live:Int
 size:Int
 aQ:List Int×List Int
def dP (a:gf) (b:List Int×Bool):gf:=if b.2=true then {a with live:=a.live+1,aQ:=cU a.aQ (gr b.1)}else a
def ev (b:gf) (a:ay):gf:=⟨b.live+a.live,b.size+a.size,cU b.aQ (a.aV,a.aW)⟩
def eF (a:c4):gf:=a.kids.foldl ev (a.rows.foldl dP ⟨0,a.rows.length,([],[])⟩)
def keyOf (a:c4):List Int:=if a.kind=2 then(a.rows.headD ([],false)).1 else if a.kind=3 then(a.kids.headD aA).key else []
def eU (a:List UInt8):List UInt8:=fk (preB 80 [a])
def eV (a:c4):ay:=⟨eU (db a),(eF a).aQ.1,(eF a).aQ.2,(eF a).live,(eF a).size,keyOf a⟩
def fJ (b:Nat) (a:c4):Option ay:=if dW b a=true then(if 1048576<(eF a).size then none else some (eV a))else none
def je (b:Nat) (a:Rd):(List Int×Bool)×Rd:=(((hX b (mZ a).2).1,(mZ a).1),(hX b (mZ a).2).2)
def hY (a:Nat) (p:Rd):ay×Rd:=
 let b:=mY p
 let c:=fy 1048576 b.2
 let d:=fy 1048576 c.2
 let h:=hX a d.2
 let k:=hX a h.2
 let o:=hX a k.2
 (⟨b.1,h.1,k.1,(c.1:Int),(d.1:Int),o.1⟩,o.2)
def fA {b:Type} (c:Rd->b×Rd):Nat->Rd->List b->List b×Rd
 |0,a,acc=>(acc,a)
 |d+1,a,acc=>fA c d (c a).2 (acc++ [(c a).1])
def pj (a:Nat) (o:List UInt8):c4×Rd:=
 let b:=dt ⟨o,0⟩
 let c:=dt b.2
 let d:=fA (je a) c.1.toNat c.2 []
 let h:=dt d.2
 let k:=fA (hY a) h.1.toNat h.2 []
 (⟨b.1,d.1,k.1⟩,oa k.2)
def pk (a:Nat) (b:List UInt8):Option c4:=
 if(pj a b).2.e=0/\dW a (pj a b).1=true/\db (pj a b).1=b then some (pj a b).1 else none
abbrev cK (b:List Int):Prop:= ∀a∈b,-9223372036854775808<=a/\a<9223372036854775808
theorem qH (a b:List UInt8):ds ⟨a++b,0⟩ a.length=(some a,⟨b,0⟩):=by unfold ds;simp
theorem qI (a:UInt8) (b:List UInt8):dt ⟨a::b,0⟩=(a,⟨b,0⟩):=by have:=qH [a] b;grind[List.length_singleton,List.singleton_append,dt]
def XO (a:Nat) (b:a<18446744073709551616):fl (cJ a)=a:=by simp only[fl,cJ,a5O,a7U,a5L,a5C];omega
theorem XP (a:Int) (b: -9223372036854775808<=a) (c:a<9223372036854775808):(BitVec.ofNat 64 (cd a)^^^9223372036854775808#64).toInt=a:=by grind[BitVec.ofInt,cd,BitVec.setWidth_eq,BitVec.xor_assoc,BitVec.xor_self,BitVec.xor_zero,BitVec.toInt_ofInt]
def XQ (a:Int) (b:List UInt8) (d: -9223372036854775808<=a) (h:a<9223372036854775808):iD ⟨hT a++b,0⟩=(a,⟨b,0⟩):=by have c:=qH (hT a) b;rw[CI]at c;unfold iD;rw[c];simp only;rw[hT,XO _ (by exact(BitVec.ofInt 64 a^^^BitVec.ofInt 64 9223372036854775808).isLt),XP a d h]
theorem D0 (a b:List UInt8) (c:a.length=32):mY ⟨a++b,0⟩=(a,⟨b,0⟩):=by grind[qH,mY]
def XR (a:Bool) (b:List UInt8):mZ ⟨(if a=true then(1:UInt8)else 0)::b,0⟩=(a,⟨b,0⟩):=by unfold mZ;rw[qI];cases a<;>rfl
theorem uc (a:Nat) (c:a<=1048576) (b:List UInt8):fy 1048576 ⟨fm a++b,0⟩=(a,⟨b,0⟩):=by have d:=qH (fm a) b;grind[kA,fy,fl,fm,UInt8.toNat_ofNat',Nat.shiftRight_eq_div_pow]
def D1: ∀(a c:List Int) (b:List UInt8),cK a->jO a.length ⟨a.flatMap hT++b,0⟩ c=(c++a,⟨b,0⟩)
 | [],c,b,_=>by simp[jO]
 |d::a,c,b,h=>by
  have k:=h d a9q;rw[a4M,jO,a5l,a4U,XQ d _ k.1 k.2];simp only[if_true];rw[D1 a _ b (λo p=>h o (by simp[p]))];simp
def pn (a:List Int) (b:Nat) (c:List UInt8) (o:a.length<=b) (p:a.length<=255) (d:cK a):hX b ⟨dy a++c,0⟩=(a,⟨c,0⟩):=by
 have h:(UInt8.ofNat a.length).toNat=a.length:=by rw[a5L];omega
 unfold hX;have k: ¬b<a.length:=a9p;rw[dy,a5I,qI];simp only[h,k,if_false,D1 a [] c d];simp
def XS (a:List Int×Bool) (b:Nat) (c:List UInt8) (d:a.1.length<=b) (h:a.1.length<=255) (k:cK a.1):je b ⟨gq a++c,0⟩=(a,⟨c,0⟩):=by unfold je;rw[gq,a5I,XR,pn _ _ _ d h k]
structure ay.In (d:Nat) (k:ay):Prop where
 sum:k.sum.length=32
 aV:cK k.aV
 aW:cK k.aW
 key:cK k.key
 oc:k.aV.length<=d
 od:k.aW.length<=d
 oe:k.key.length<=d
 nc:0<=k.live
 live:k.live<=1048576
 nd:0<=k.size
 size:k.size<=1048576
def XT (b:ay) (c:Nat) (x:c<=255) (d:List UInt8) (a:b.In c):hY c ⟨eh b++d,0⟩=(b,⟨d,0⟩):=by have y:=a.live;have h:=a.nc;have z:=a.size;have k:=a.nd;have o:=a.oc;have p:=a.od;have r:=a.oe;unfold hY;simp only[eh,a4U];rw[D0 _ _ a.sum];simp only[];rw[uc _ a9p];simp only[];rw[uc _ a9p];simp only[];rw[pn _ _ _ o a9p a.aV];simp only[];rw[pn _ _ _ p a9p a.aW];simp only[];rw[pn _ _ _ r a9p a.key];rw[a6o h,a6o k]
def xn {d:Type} (k:Rd->d×Rd) (o:d->List UInt8) (p:d->Prop) (r: ∀a b,p a->k ⟨o a++b,0⟩=(a,⟨b,0⟩)): ∀(c h:List d) (b:List UInt8),(∀a∈c,p a)->fA k c.length ⟨c.flatMap o++b,0⟩ h=(h++c,⟨b,0⟩)
 | [],h,b,_=>by simp[fA]
 |a::c,h,b,x=>by
  rw[a4M,fA,a5l,a4U,r a _ (x a a9q)];rw[xn k o p r c _ b (λy z=>x y (by simp[z]))];simp
structure c4.In (d:Nat) (n:c4):Prop where
 ok:dW d n=true
 rows: ∀r∈n.rows,cK r.1
 kids: ∀k∈n.kids,k.In d
variable{e0:c4}
theorem ll (a:dW e e0=true):(∀b∈e0.rows,b.1.length=e)/\e0.rows.length<=4/\e0.kids.length<=4:=by unfold dW at a;grind
def D2 (k:e<=255) (b:e0.In e):pk e (db e0)=some e0:=by
 obtain⟨o,z,C⟩:=ll b.ok;have p:(UInt8.ofNat e0.rows.length).toNat=e0.rows.length:=by rw[a5L];omega
 have r:(UInt8.ofNat e0.kids.length).toNat=e0.kids.length:=by rw[a5L];omega
 have x:pj e (db e0)=(e0,⟨[],0⟩):=by unfold pj db;simp only[qI,p];rw[xn (je e) gq (λa=>a.1.length=e/\cK a.1) (λa d c=>XS a e d a9p a9p c.2) e0.rows [] _ (λa c=>⟨o a c,b.rows a c⟩)];simp only[qI,r];have:=xn (hY e) eh (λh=>h.In e) (λh d y=>XT h e k d y) e0.kids [] [] b.kids;rw[a5R]at this;rw[this];simp[oa]
 unfold pk;rw[x];simp[b.ok]
def ud (a:List (List UInt8)) (b:Nat) (c:List UInt8):List Nat:=(List.range b).filter λd=>decide (fk (a.getD d [])=c)
def XU (a:List Nat):List R:=a.map λb=> .v (.int .i64 ((b:Nat):Int))
abbrev ue:List (Nat×c5):= [(32,.int .u8)]
theorem po (a:B.length=32):dB ue (B.map ak):=by
 refine⟨by simp[a],λc b=> ?_,?_⟩
 .rw[a4I (by simp[a])]at b;obtain⟨d,_,rfl⟩:=a5d.1 b;rfl
 .show List.drop 32 _= [];simp_all
structure PB (k p:U) (r:Nat) (b:List (List UInt8)) (n:Nat) (h:R->Option R):Prop where
 sub:k.sub p
 new:k r=none
 val: ∀d,d.length=32->(ud b n d= []/\h (cL d)=none)\/(ud b n d≠ []/\ ∃a c,h (cL d)=some (.J (XU (ud b n d)) (.buf a c))/\k a=none/\a≠r/\p a=some (.buf 1 (ud b n d).length c))
 inj: ∀d o x y a c z,d.length=32->o.length=32->h (cL d)=some (.J x (.buf a c))->h (cL o)=some (.J y (.buf a z))->d=o
theorem ss (a:List UInt8) (d:Own) (b:U) (D:a.length<=70368744177664):
  AC Tryz.prog 100 [.J (a.map ak) d] b λk o=> ∃h,bh b o 1 (a.map ak) h/\k= .J (a.map ak) h:=by
 refine mT λE=> ?_;have p:d= .nil->a= []:=λF=>by simp_all
 refine bf hm Ma a9q ?_;simp -dsimp -implicitDefEqProofs (disch:=first|omega|assumption|(simp only[aE,Nat.reduceAdd];try omega)) only[go_sem,simprocAttr,-List.reduceReplicate,↓o8];refine o9 (λc=>by rw[p c];rfl) (λc=> ?_) ?_
 .have r:a= []:=by simpa using c
  subst r;refine ax @a5w ?_;exact⟨b,U.a1,.nil,bh.nil U.a1,rfl⟩
 .refine cn ?_;refine cI U.a1 (by simp[aN]) λG L x=> ?_;refine cn ?_;refine mQ (B:= []) x a9r λy z C=> ?_;refine ax @a5b.{0} ?_;exact⟨z,U.a1,y,by simpa using C,rfl⟩
def XV (a b:List UInt8) (d h:Own) (c:U):
  AC Tryz.prog 337 [.J (a.map ak) d,.J (b.map ak) h] c λk o=>o=c/\k= .v (.bool (decide (a=b))):=by
 refine bf hm Sf a9q ?_;have p:mS (.J (a.map ak) d)=some (bd a):=p5;have r:mS (.J (b.map ak) h)=some (bd b):=p5;refine ax (aI @p @r @qu) ?_;exact⟨c,U.a1,rfl⟩
def XW (a:List UInt8) (b:Own) (c:U) (C:a.length<=1000000000000):
  AC Tryz.prog 291 [.J (a.map ak) b] c λh k=> ∃d,bh c k 1 ((preB 80 [a]).map ak) d/\h= .J ((preB 80 [a]).map ak) d:=by
 refine bf hm Rp a9q ?_;refine cn ?_;refine cI U.a1 (by simp[aN,R.cells]) λo p r=> ?_;refine cn ?_;refine ai (Xp 80 [(a,b)] o (by simp[preB,chunk,cJ];omega) p) ?_;rintro _ x ⟨y,z,rfl⟩;refine cn ?_;exact⟨x,U.a1,y,z.base r.sub,rfl⟩
def og (a:List UInt8):(eU a).length=32:=sk _
def D3 (a:List UInt8) (d:Own) (c:U) (p:a.length<=1000000000000):
  AC Tryz.prog 211 [.J (a.map ak) d] c λr x=>x=c/\r=cL (eU a):=by
 refine bf hm Pr a9q ?_;refine cn ?_;refine aP λE h=> ?_;refine cn ?_;refine ai (XW a d _ p) ?_;rintro _ F ⟨y,k,rfl⟩;have z:=k.sub _ _ (U.ah _ _ _);refine cn ?_;refine ai (Xu _ y (by simp[preB,chunk,cJ];omega) _) ?_;rintro _ _ ⟨rfl,rfl⟩;have o:(fk (preB 80 [a])).length=32:=og a;have C: ∀b,(cL b).cells=b.map ak:=λ_=>rfl;rw[show eU a=fk (preB 80 [a])from rfl];generalize fk (preB 80 [a])=b at*;have D:(b.map ak).length=32:=by simp[o]
 refine ax (aM @C @D @o (U.aJ z)) ?_;refine⟨c,U.ae (U.aq (U.ae U.a1 h) k.sub) h,rfl,?_⟩;rw[a4I a9p];rfl
structure ag where
 m:List UInt8->Option (List UInt8)
 a:List UInt8
 b:List UInt8
 one:Bool
def ag.new:ag:=⟨λ_=>none,[],[],false⟩
def eN (c:ag) (b:List UInt8):ag:=
 match c.m (eU b)with
 |none=> {c with m:=λd=>if d=eU b then some b else c.m d}
 |some h=>if c.one=false/\h≠b then {c with a:=h,b:=b,one:=true}else c
abbrev D4 (b:Nat) (a:ag) (c d:Own):List R:= [.gT b,.J (a.a.map ak) c,.J (a.b.map ak) d,.v (.bool a.one)]
structure bB (h:U) (l k:Nat) (a:ag):Prop where
 at_: ∃hs dS,h l=some (.cells (D4 k a hs dS))
 mp: ∃c,qt h k ue c/\ ∀d,d.length=32->match a.m d with
  |none=>c (cL d)=none
  |some b=>b.length<=1000000000000/\ ∃o,c (cL d)=some (.J (b.map ak) o)
 su:a.a.length<=1000000000000
 sv:a.b.length<=1000000000000
def Ext (c d:Nat) (h k:U):Prop:= ∀a b,a≠c->a≠d->h a=some b->k a=some b
theorem Ext.refl:Ext e i f f:=λ_ _ _ _ a=>a
theorem Ext.of {l lM:Nat}{s:U} (a:s.sub f):Ext l lM s f:=λb c _ _ d=>a b c d
theorem Ext.trans (h:Ext e i f t) (k:Ext e i t e7):Ext e i f e7:=λa b c d o=>k a b c d (h a b c d o)
variable{H:ag}
def bB.ne (a:bB f e i H):e≠i:=by obtain⟨d,h,c⟩:=a.at_;obtain⟨k,⟨o,p,b,_⟩,_⟩:=a.mp;rintro rfl;rw[c]at b;cases b
def bB.mono (a:bB f e i H) (b:f.sub t):bB t e i H:=by obtain⟨c,d,h⟩:=a.at_;obtain⟨k,⟨o,p,r,x⟩,y⟩:=a.mp;exact⟨⟨c,d,b _ _ h⟩,⟨k,⟨o,p,b _ _ r,x⟩,y⟩,a.su,a.sv⟩
def bB.other (a:bB f e i H) (b:t e=f e) (c:t i=f i):bB t e i H:=by obtain⟨d,h,k⟩:=a.at_;obtain⟨o,⟨p,r,x,y⟩,z⟩:=a.mp;exact⟨⟨d,h,by rw[b];exact k⟩,⟨o,⟨p,r,by rw[c];exact x,y⟩,z⟩,a.su,a.sv⟩
def XX:(R.gT e).cells= [.gT e]:=rfl
def XY (b:U):AC Tryz.prog 63 [] b λE k=> ∃a c,b a=none/\b c=none/\E= .ptr a 0/\bB k a c ag.new/\b.sub k:=by
 refine bf hm Lc a9q ?_;refine cn ?_;refine aP λc o=> ?_;have F: ∀G p r h x:R,putAt [G,p,r,h] 0 [x]= [x,p,r,h]:=λ_ _ _ _ _=>rfl;have y: ∀z,(R.agg z).cells=z:=λ_=>rfl;refine ax (aI @XX @F @y) ?_;refine aP λa d=> ?_;refine ax @y ?_;have C:a≠c:=by rintro rfl;rw[U.ah]at d;cases d
 have D:b a=none:=by rw[U.an _ _ C]at d;exact d
 refine⟨_,U.a1,a,c,D,o,rfl,⟨⟨.nil,.nil,by rw[U.ah];rfl⟩,⟨_,⟨[],0,by rw[U.an _ _ (a4Q C),U.ah],lj.new⟩,λh _=>rfl⟩,by simp[ag.new],by simp[ag.new]⟩,U.ae (U.ae U.a1 o) D⟩
def iE:(cL B).cells=B.map ak:=rfl
def XZ (d:U) (z C:Nat) (h:ag) (F:bB d z C h) (a:List UInt8) (k:a.length=32):
  AC Tryz.prog 136 [.ptr z 0,cL a] d λD G=>d.sub G/\match h.m a with
   |none=>D= .aL [.J [] .nil,.v (.int .i64 9)]
   |some o=> ∃p,D= .aL [.J (o.map ak) p,.v (.int .i64 0)]:=by
 obtain⟨⟨s,t,L⟩,⟨c,P,b⟩,_,_⟩:=F;have b:=b a k;have r:(a.map ak).length=32:=by simp[k]
 refine bf hm N9 a9q ?_;refine ax (c2 @iE @r) ?_;refine aP λS T=> ?_;have x:=U.ae (Y:= .cells (a.map ak)) (U.a1 (f:=d)) T;have V:qt (d.set S (.cells (a.map ak))) C ue c:=by obtain⟨W,e,f,g⟩:=P;exact⟨W,e,x _ _ f,g⟩
 have i:=x _ _ L;have j:aY true 32 (a.map ak)=cL a:=by rw[aY,if_pos rfl,a4I a9p];rfl
 refine ax (bo @iE @r @k (U.af i) @j) ?_;refine Ce V (po k) (λv y=> ?_) (λE=> ?_)
 .cases hm:h.m a with
  |none=>rw[hm]at b;rw[show c (.agg (a.map ak))=c (cL a)from rfl,b]at y;cases y
  |some o=>rw[hm]at b;obtain⟨l,p,b⟩:=b;rw[show c (.agg (a.map ak))=c (cL a)from rfl,b]at y;obtain rfl:=a4G y;refine ax (c2 @iE @r) ?_;refine ai (ss o p _ a9p) ?_;rintro _ m ⟨n,q,rfl⟩;refine cn ?_;exact⟨m,U.a1,U.aq x q.sub,n,rfl⟩
 .cases hm:h.m a with
  |none=>refine ax (c2 @iE @r) ?_;exact⟨_,U.a1,x⟩
  |some o=>rw[hm]at b;obtain⟨l,p,b⟩:=b;rw[show c (.agg (a.map ak))=c (cL a)from rfl,b]at E;cases E
def Y0 (b:U) (k y:Nat) (a:ag) (c:bB b k y a):
  AC Tryz.prog 56 [.ptr k 0] b λz C=>b.sub C/\ ∃d h,z= .aL [.J (a.a.map ak) d,.J (a.b.map ak) h,.v (.bool a.one)]:=by
 have L:=c.su;have P:=c.sv;obtain⟨d,h,o⟩:=c.at_;refine bf hm L0 a9q ?_;refine ax (U.af o) ?_;refine ai (ss a.a d _ a9p) ?_;rintro _ S ⟨D,p,rfl⟩;have r:=p.sub _ _ o;refine ax (U.af r) ?_;refine ai (ss a.b h _ a9p) ?_;rintro _ E ⟨F,x,rfl⟩;have G:=x.sub _ _ r;refine ax (U.af G) ?_;exact⟨E,U.a1,U.aq p.sub x.sub,D,F,rfl⟩
theorem Y1 (y:U) (k d:Nat) (h:ag) (G:bB y k d h) (b:List UInt8) (V:Own) (X:b.length<=1000000000000):
  AC Tryz.prog 300 [.ptr k 0,.J (b.map ak) V] y λl9 L=>l9=cL (eU b)/\bB L k d (eN h b)/\Ext k d y L:=by
 have k8:=G.ne;refine bf hm Rz a9q ?_;refine cn ?_;refine aP λD i=> ?_;have u:=U.ae (Y:= .cells (List.replicate 32 (.v (.int .u8 0)))) (U.a1 (f:=y)) i;have aM:(y.set D (.cells (List.replicate 32 (.v (.int .u8 0))))) D= _:=U.ah _ _ _;refine cn ?_;generalize y.set D (.cells (List.replicate 32 (.v (.int .u8 0))))=a08 at*;refine ai (D3 b V _ X) ?_;rintro _ w ⟨rfl,rfl⟩;refine cn ?_;refine aP λW e=> ?_;have a09:D≠W:=by rintro rfl;rw[aM]at e;cases e
 have o:=og b;have n0: ∀c,eN h b=eN h b->c=eU b->c.length=32:=λc _ z=>by rw[z];exact o
 generalize Y:eU b=c at*;have x:(c.map ak).length=32:=by simp[o]
 have j:putAt (List.replicate 32 (R.v (.int .u8 0))) 0 (c.map ak)=c.map ak:=by rw[putAt,a6q,a5b,x,a5v a9q,a5R]
 refine ax (bo @iE @x @o @j @U.set_set) ?_;have Z:=U.ae (Y:= .cells (c.map ak)) (U.a1 (f:=w)) e;have bo:(w.set W (.cells (c.map ak))) W= _:=U.ah _ _ _;have k9:=Z _ _ aM;have l0:=G.mono (U.aq u Z);have l1:Ext k d y (w.set W (.cells (c.map ak))):=Ext.of (U.aq u Z);have n1:D≠k:=by rintro rfl;obtain⟨_,_,z⟩:=G.at_;rw[z]at i;cases i
 have n2:W≠k:=by rintro rfl;obtain⟨_,_,z⟩:=G.at_;rw[u _ _ z]at e;cases e
 have l2:D≠d:=by rintro rfl;obtain⟨_,⟨_,_,z,_⟩,_⟩:=G.mp;rw[z]at i;cases i
 have n3:W≠d:=by rintro rfl;obtain⟨_,⟨_,_,z,_⟩,_⟩:=G.mp;rw[u _ _ z]at e;cases e
 obtain⟨l3,l,n⟩:=l0.at_;obtain⟨P,A,j9⟩:=l0.mp;have E:=j9 c o;have F:aY true 32 (c.map ak)=cL c:=by rw[aY,if_pos rfl,a4I a9p];rfl
 clear n0;have l4: ∀L:U,bB L k d (eN h b)->Ext k d y L->bB (L.set D (.cells (c.map ak))) k d (eN h b)/\Ext k d y (L.set D (.cells (c.map ak))):=by
  intro L n4 n5;refine⟨n4.other (U.an _ _ (a4Q n1)) (U.an _ _ (a4Q l2)),λp V n r S=> ?_⟩;have n9:p≠D:=by rintro rfl;rw[i]at S;cases S
  rw[U.an _ _ n9];exact n5 p V n r S
 have f:w k=some (.cells (D4 d h l3 l)):=by rw[U.an _ _ (a4Q n2)]at n;exact n
 refine ax (bC @iE @x @o (U.af f) (U.af bo) @F) ?_;refine Ce A (po o) (λv B=> ?_) (λl5=> ?_)
 .cases hm:h.m c with
  |none=>rw[hm]at E;rw[show P (.agg (c.map ak))=P (cL c)from rfl,E]at B;cases B
  |some q=>
   rw[hm]at E;obtain⟨l6,H,E⟩:=E;rw[show P (.agg (c.map ak))=P (cL c)from rfl,E]at B;obtain rfl:=a4G B;have g:eN h b=if h.one=false/\q≠b then {h with a:=q,b:=b,one:=true}else h:=by unfold eN;rw[Y,hm]
   refine ax (bC @iE @x @o (U.af f) (U.af bo) @F) ?_;cases s:h.one with
   |true=>refine ax (dr @iE @x @o (U.af f) (U.af bo) (U.aJ aM) @F @j @s) ?_;rw[s]at g;rw[if_neg a9q]at g;grind[U.a1]
   |false=>
    refine ax (cc @iE @x @o (U.af f) (U.af bo) @F @s) ?_;refine ai (XV q b H V _) ?_;rintro _ _ ⟨rfl,rfl⟩;by_cases I:q=b
    .refine ax (ct @iE @x @o (U.af f) (U.af bo) (U.aJ aM) @F @j @s @I) ?_;rw[if_neg (by simp[I])]at g;grind[U.a1]
    .refine ax (ct @iE @x @o (U.af f) (U.af bo) (U.aJ aM) @F @j @s @I) ?_;rw[if_pos ⟨s,I⟩]at g;refine ai (ss b V _ a9p) ?_;rintro _ T ⟨K,r,rfl⟩;have M:=r.sub _ _ n;have N:=r.sub _ _ k9;have t:=r.sub _ _ bo;have l7:=A;have a00: ∀a b C c p:R,putAt [a,b,C,c] 1 [p]= [a,p,C,c]:=λ_ _ _ _ _=>rfl;have a01: ∀a b C c p:R,putAt [a,b,C,c] 2 [p]= [a,b,p,c]:=λ_ _ _ _ _=>rfl;have a02: ∀a b C c p:R,putAt [a,b,C,c] 3 [p]= [a,b,C,p]:=λ_ _ _ _ _=>rfl;refine ax (jc @iE @x @o (U.aJ M) (U.af t) (U.aJ N) @F @j @a00 @a01 @a02 @U.set_set) ?_;have a03: ∀k0,k0=bp.cells [.gT d,.J (q.map ak) H,.J (b.map ak) K,.v (.bool true)]->bB (T.set k k0) k d (eN h b)/\Ext k d y (T.set k k0):=by rintro _ rfl;obtain⟨k1,C,k2,k3⟩:=A;rw[g];refine⟨⟨⟨H,K,U.ah _ _ _⟩,⟨P,⟨k1,C,by rw[U.an _ _ (a4Q k8)];exact r.sub _ _ k2,k3⟩,j9⟩,l6,X⟩,λp l S O k4=> ?_⟩;rw[U.an _ _ S];exact r.sub _ _ (l1 p l S O k4)
     obtain⟨k5,k6⟩:=a03 _ rfl;exact⟨_,U.a1,l4 _ k5 k6⟩
 .cases hm:h.m c with
  |some q=>rw[hm]at E;obtain⟨l6,H,E⟩:=E;rw[show P (.agg (c.map ak))=P (cL c)from rfl,E]at l5;cases l5
  |none=>
   have g:eN h b= {h with m:=λc=>if c=eU b then some b else h.m c}:=by unfold eN;rw[Y,hm]
   refine ax (bC @iE @x @o (U.af f) (U.af bo) @F) ?_;refine ai (ss b V _ a9p) ?_;rintro _ T ⟨K,r,rfl⟩;have M:=r.sub _ _ n;have N:=r.sub _ _ k9;have t:=r.sub _ _ bo;have l7:qt T d ue P:=by obtain⟨k1,C,k2,k3⟩:=A;exact⟨k1,C,r.sub _ _ k2,k3⟩
   refine ax (bC @iE @x @o (U.af M) (U.af t) @F) ?_;refine W2 l7 (po o) λQ a04=> ?_;have a05:(T.set d Q) W=some (.cells (c.map ak)):=by rw[U.an _ _ n3];exact t
   have a06:(T.set d Q) D=some (.cells (List.replicate 32 (.v (.int .u8 0)))):=by rw[U.an _ _ l2];exact N
   refine ax (dr @iE @x @o (U.af t) (U.af a05) (U.aJ N) (U.aJ a06) @F @j) ?_;have k5:bB (T.set d Q) k d (eN h b):=by
    rw[g];refine⟨⟨l3,l,by rw[U.an _ _ k8];exact M⟩,⟨_,a04,λl8 a07=> ?_⟩,G.su,G.sv⟩;simp only[Y];by_cases k7:l8=c
    .subst k7;rw[if_pos rfl];exact⟨X,K,tP⟩
    .rw[if_neg k7];rw[show(R.agg (c.map ak))=cL c from rfl,qs (λz=>k7 (CD z))];exact j9 l8 a07
   have k6:Ext k d y (T.set d Q):=λp l S O k4=>by
    rw[U.an _ _ O];exact r.sub _ _ (l1 p l S O k4)
   exact⟨_,U.a1,l4 _ k5 k6⟩
def xo:ad (q++b6)=ad q++ad b6:=by simp[ad]
def gu {v:Int} (a:q[e]? =some v):cR 1 (.J (ad q) N) (.v (.int .i64 (e:Int)))=some (.bV [.v (.int .i64 v)]):=by
 have b:(0:Int)<=(e:Int):=a9p;have c:(ad q)[e]? =some (.v (.int .i64 v)):=by simp[ad,a]
 simp only[cR,b,if_true,a5g,c];rw[iw (e:=1) rfl];rfl
def oh {v:Int}:dq false 1 f (.bV [.v (.int .i64 v)])=some (.v (.int .i64 v)):=rfl
theorem Y2:bM f 1 (.J (ad q) N)=some (q.length,ad q):=by
 have a:((ad q).all λb=>decide (b.cells.length=1))=true:=by simp[ad,R.cells]
 have c:flat (ad q)=ad q:=by induction q with
  |nil=>rfl
  |cons d q ih=>grind[ad,flat,R.cells]
 simp[bM,a,c,bH]
theorem xp (a:List Int) (h:Own) (c:U) (r:a.length<=1000000000000):
  AC Tryz.prog 214 [.J (ad a) h] c λk d=>ar c d 1 (ad a) k:=by
 refine mT λx=> ?_;have o:h= .nil->a= []:=λy=>by simp_all [ad]
 refine bf hm Px a9q ?_;simp -dsimp -implicitDefEqProofs (disch:=first|omega|assumption|(simp only[aE,Nat.reduceAdd];try omega)) only[go_sem,simprocAttr,-List.reduceReplicate,↓o8];refine o9 (λb=>by rw[o b];rfl) (λb=> ?_) ?_
 .have p:a= []:=by simpa[ad] using b
  subst p;refine aa ?_;exact⟨c,U.a1,ar.nil U.a1⟩
 .simp -dsimp -implicitDefEqProofs (disch:=first|omega|assumption|(simp only[aE,Nat.reduceAdd];try omega)) only[go_sem,simprocAttr,-List.reduceReplicate,nW];refine fj (ar.zero (U.a1 (f:=c))) a9p Y2 (by rw[bH];omega) (by simp[bH];omega) (by simp[bH];omega) λk d b=> ?_;refine aa ?_;exact⟨d,U.a1,by simpa using b⟩
theorem sw (b:ar f t 1 (ad q) n): ∃a,f.sub a/\View t n a (.J (ad q) .any):=by grind[View.dV,ky,List.take_of_length_le]
def sx (a:List Int) (c:Own) (b:U) (k:a.length<=1000000000000):
  AC Tryz.prog 214 [.J (ad a) c] b λd h=>b.sub h/\d= .J (ad a) .any:=
 (xp a c b k).view λd h o=>by
  obtain⟨p,r,x⟩:=sw o;exact⟨_,p,x,r,rfl⟩
theorem ln (a c:List Int) (G L:Own) (h:U) (m:a.length<=1000000000000):
  AC Tryz.prog 216 [.J (ad a) G,.J (ad c) L] h λp r=>r=h/\p= .v (.bool (decide (a=c))):=by
 refine bf hm PC a9q ?_;have V:=bH (q:=a);have W:=bH (q:=c);by_cases e:a.length=c.length
 .have x:(a.length:Int)=c.length:=a9p;refine aa ?_;rw[<-x];refine cu (λd r=> ∃b:Nat,b<=a.length/\r=h/\d 0= .J (ad a) G/\d 1= .J (ad c) L/\d 12= .v (.int .i64 a.length)/\d 13= .v (.int .i64 b)/\a.take b=c.take b)
   (λd _=>match d 13 with| .v (.int _ f)=>(a.length - f).toNat| _=>0) ⟨0,a9p,rfl,?_⟩ ?_
  .exact aU
  .rintro d n ⟨b,q,rfl,y,z,C,D,g⟩;by_cases E:(b:Int)<a.length
   .have k:a[b]? =some a[b]:=a4H a9p;have o:c[b]? =some c[b]:=a4H a9p;have P:a.take (b+1)=a.take b++ [a[b]]:=by rw[a5W,k];rfl
    have S:c.take (b+1)=c.take b++ [c[b]]:=by rw[a5W,o];rfl
    have T:a[b]'a9p≠c[b]'a9p->a≠c:=λi j=>i (by simp[j]);generalize a[b]'a9p=p at k P T;generalize c[b]'a9p=l at o S T;by_cases F:p=l
    .simp -dsimp -implicitDefEqProofs (disch:=first|omega|assumption|(simp only[aE,Nat.reduceAdd];try omega)) only[go_sem,simprocAttr,-List.reduceReplicate,y,z,C,D,E,gu k,gu o,oh,F];exact⟨⟨b+1,a9p,a9q,by rw[P,S,g,F]⟩,a9p⟩
    .simp -dsimp -implicitDefEqProofs (disch:=first|omega|assumption|(simp only[aE,Nat.reduceAdd];try omega)) only[go_sem,simprocAttr,-List.reduceReplicate,y,z,C,D,E,gu k,gu o,oh,F];grind[U.a1]
   .obtain rfl:b=a.length:=a9p;simp -dsimp -implicitDefEqProofs (disch:=first|omega|assumption|(simp only[aE,Nat.reduceAdd];try omega)) only[go_sem,simprocAttr,-List.reduceReplicate,y,z,C,D,E];grind[List.take_length,U.a1]
 .have x: ¬(a.length:Int)=c.length:=a9p;simp -dsimp -implicitDefEqProofs (disch:=first|omega|assumption|(simp only[aE,Nat.reduceAdd];try omega)) only[go_sem,simprocAttr,-List.reduceReplicate,V,W,x];have:a≠c:=by rintro rfl;exact e rfl
  exact⟨h,U.a1,by simp[this]⟩
abbrev ew (a b:List Int) (c d:Own):R:= .agg [.J (ad a) c,.J (ad b) d]
theorem xq (b:Nat) (k:FuncId) (p r:List R) (d:U) (o:Nat->Bool) (S:b<=1000000000000) (F:gk Tryz.prog k=true)
  (G: ∀a:Nat,a<b->AC Tryz.prog k (p++ [.v (.int .i64 (a:Int))]++r) d λx h=>h=d/\x= .v (.bool (o a))):
  AC Tryz.prog 194 [.v (.int .i64 (b:Int)),.bG k p r] d λx h=>h=d/\x= .v (.bool ((List.range b).all o)):=by
 refine bf hm P2 a9q ?_;refine aa ?_;refine cu (λc h=> ∃a:Nat,a<=b/\h=d/\(List.range a).all o=true/\c 0= .v (.int .i64 (b:Int))/\c 1= .bG k p r/\c 6= .v (.int .i64 (b:Int))/\c 7= .v (.int .i64 (a:Int)))
  (λc _=>match c 7 with| .v (.int _ L)=>b - L.toNat| _=>0) ⟨0,a9p,rfl,rfl,?_⟩ ?_
 .exact aU
 rintro c T ⟨a,V,rfl,P,y,z,C,D⟩;by_cases E:(a:Int)<b
 .refine aa ?_;refine fI F (G a a9p) ?_;rintro _ _ ⟨rfl,rfl⟩;cases W:o a with
  |true=>refine aa ?_;grind
  |false=>simp -dsimp -implicitDefEqProofs (disch:=first|omega|assumption|(simp only[aE,Nat.reduceAdd];try omega)) only[go_sem,simprocAttr,-List.reduceReplicate,y,z,C,D,E,a5w];refine⟨_,U.a1,rfl,?_⟩;grind
 .obtain rfl:a=b:=a9p;simp -dsimp -implicitDefEqProofs (disch:=first|omega|assumption|(simp only[aE,Nat.reduceAdd];try omega)) only[go_sem,simprocAttr,-List.reduceReplicate,y,z,C,D,E];exact⟨_,U.a1,rfl,by rw[P]⟩
def Y3 (d:U) (h:Nat) (b c:List Int) (p r:Own) (a:Nat) (x:d.read h=some [.J (ad b) p,.J (ad c) r]) (y:a<b.length) (z:a<c.length):
  AC Tryz.prog 195 [.v (.int .i64 (a:Int)),.ptr h 0] d λC D=>D=d/\C= .v (.bool (decide (b.getD a 0<=c.getD a 0))):=by
 refine bf hm P4 a9q ?_;have k:b[a]? =some (b.getD a 0):=by simp[List.getD,y]
 have o:c[a]? =some (c.getD a 0):=by simp[List.getD,z]
 generalize b.getD a 0=E at k;generalize c.getD a 0=F at o;simp -dsimp -implicitDefEqProofs (disch:=first|omega|assumption|(simp only[aE,Nat.reduceAdd];try omega)) only[go_sem,simprocAttr,-List.reduceReplicate,x,gu k,gu o,oh];exact⟨d,U.a1,rfl⟩
def om (d:U) (b c:List Int) (y z:Own) (a:Nat) (D:a<=1000000000000):
  AC Tryz.prog 127 [ew b c y z,.v (.int .i64 (a:Int))] d λE F=>F=d/\E= .v (.bool (cT b c a)):=by
 refine bf hm MV a9q ?_;have C:=bH (q:=b);have G:=bH (q:=c);refine aa ?_;refine aP λL h=> ?_;unfold cT;by_cases c1:(a:Int)<1
 .have k: ¬1<=a:=a9p;simp -dsimp -implicitDefEqProofs (disch:=first|omega|assumption|(simp only[aE,Nat.reduceAdd];try omega)) only[go_sem,simprocAttr,-List.reduceReplicate,c1,k];exact⟨d,U.ae U.a1 h,by simp[k]⟩
 have k:1<=a:=a9p;by_cases c2:(8:Int)<a
 .have p: ¬a<=8:=a9p;simp -dsimp -implicitDefEqProofs (disch:=first|omega|assumption|(simp only[aE,Nat.reduceAdd];try omega)) only[go_sem,simprocAttr,-List.reduceReplicate,c1,c2];exact⟨d,U.ae U.a1 h,by simp[p]⟩
 have p:a<=8:=a9p;by_cases aI:(b.length:Int)=a
 .have r:b.length=a:=a9p;by_cases aM:(c.length:Int)=a
  .have x:c.length=a:=a9p;refine aa ?_;refine ai (xq a _ _ _ _ (λo=>decide (b.getD o 0<=c.getD o 0)) D a9u λo P=>Y3 _ L b c y z o ?_ a9p a9p) ?_
   .simp[U.read,U.ah]
   rintro _ _ ⟨rfl,rfl⟩;simp -dsimp -implicitDefEqProofs (disch:=first|omega|assumption|(simp only[aE,Nat.reduceAdd];try omega)) only[go_sem,simprocAttr,-List.reduceReplicate];exact⟨d,U.ae U.a1 h,rfl,by simp[k,p,r,x]⟩
  .have x: ¬c.length=a:=a9p;simp -dsimp -implicitDefEqProofs (disch:=first|omega|assumption|(simp only[aE,Nat.reduceAdd];try omega)) only[go_sem,simprocAttr,-List.reduceReplicate,c1,c2,aI,aM,C,G];exact⟨d,U.ae U.a1 h,by simp[x]⟩
 .have r: ¬b.length=a:=a9p;simp -dsimp -implicitDefEqProofs (disch:=first|omega|assumption|(simp only[aE,Nat.reduceAdd];try omega)) only[go_sem,simprocAttr,-List.reduceReplicate,c1,c2,aI,C];exact⟨d,U.ae U.a1 h,by simp[r]⟩
def Y4 (y:U) (a:List Int) (h:Own) (z:a.length<=1000000000000):
  AC Tryz.prog 213 [.J (ad a) h] y λk L=>y.sub L/\ ∃P S,k=ew (gr a).1 (gr a).2 P S:=by
 refine bf hm Pv a9q ?_;have C:=bH (q:=a);refine aa ?_;refine aP λf o=> ?_;unfold gr;have p: ∀b c d D:R,putAt [b,c] 0 [d,D]= [d,D]:=λ_ _ _ _=>rfl;have r: ∀E,(R.agg E).cells=E:=λ_=>rfl;have x: ∀b c,aY true 2 [b,c]= .agg [b,c]:=λ_ _=>rfl;by_cases c1:(a.length:Int)<1
 .simp -dsimp -implicitDefEqProofs (disch:=first|omega|assumption|(simp only[aE,Nat.reduceAdd];try omega)) only[go_sem,simprocAttr,-List.reduceReplicate,c1,C,p,r,x];rw[if_neg a9p];exact⟨_,U.a1,U.ae U.a1 o,.nil,.nil,rfl⟩
 by_cases c2:(8:Int)<a.length
 .simp -dsimp -implicitDefEqProofs (disch:=first|omega|assumption|(simp only[aE,Nat.reduceAdd];try omega)) only[go_sem,simprocAttr,-List.reduceReplicate,c1,c2,C,p,r,x];rw[if_neg a9p];exact⟨_,U.a1,U.ae U.a1 o,.nil,.nil,rfl⟩
 refine aa ?_;refine ai (sx a h _ z) ?_;rintro _ g ⟨F,rfl⟩;refine aa ?_;refine ai (sx a h _ z) ?_;rintro _ i ⟨G,rfl⟩;have T:=G _ _ (F _ _ (U.ah _ _ _));have V: ∀b c d:R,putAt [b,c] 0 [d]= [d,c]:=λ_ _ _=>rfl;have W: ∀b c d:R,putAt [b,c] 1 [d]= [b,d]:=λ_ _ _=>rfl;have e: ∀k h,(R.J k h).cells= [.J k h]:=λ_ _=>rfl;simp -dsimp -implicitDefEqProofs (disch:=first|omega|assumption|(simp only[aE,Nat.reduceAdd];try omega)) only[go_sem,simprocAttr,-List.reduceReplicate,U.aJ T,p,V,W,r,e,x];rw[if_pos a9p];exact⟨_,U.a1,U.ae (U.aq (U.ae U.a1 o) (U.aq F G)) o,.any,.any,rfl⟩
theorem Y5 (h:U) (a b c k:List Int) (o p r x:Own) (C:a.length<=1000000000000) (D:b.length<=1000000000000):
  AC Tryz.prog 215 [ew a b o p,ew c k r x] h λE F=>F=h/\E= .v (.bool (decide (a=c)&&decide (b=k))):=by
 refine bf hm Pz a9q ?_;refine aa ?_;refine aP λG S=> ?_;refine aa ?_;refine aP λy d=> ?_;have L:G≠y:=by rintro rfl;rw[U.ah]at d;cases d
 have P:=a4Q L;have T:h y=none:=by rw[U.an _ _ P]at d;exact d
 refine aa ?_;refine ai (ln a c o r _ C) ?_;rintro _ _ ⟨rfl,rfl⟩;by_cases z:a=c
 .refine aa ?_;refine ai (ln b k p x _ D) ?_;rintro _ _ ⟨rfl,rfl⟩;simp -dsimp -implicitDefEqProofs (disch:=first|omega|assumption|(simp only[aE,Nat.reduceAdd];try omega)) only[go_sem,simprocAttr,-List.reduceReplicate,z];grind[U.ae,U.a1]
 .simp -dsimp -implicitDefEqProofs (disch:=first|omega|assumption|(simp only[aE,Nat.reduceAdd];try omega)) only[go_sem,simprocAttr,-List.reduceReplicate,z];grind[U.ae,U.a1]
def pq (b c:U) (d h:List Int) (k o:R):Prop:= ∃a,ar b a 1 (ad d) k/\ar a c 1 (ad h) o
def fK (a:ar f t e g n):n.cells= [n]:=by obtain⟨_,⟨_,rfl|rfl⟩|⟨_,_,_,_,rfl,_⟩⟩:=a<;>rfl
def jP {k:bp} (o:ar f t i g n) (b:f e=some k):ar (f.set e Y) (t.set e Y) i g n:=by
 obtain⟨p,a⟩:=o;refine⟨U.lg p,?_⟩;rcases a with a|⟨c,r,x,y,z,d,C,D⟩
 .exact .inl a
 .have h:c≠e:=by rintro rfl;rw[d]at b;cases b
  exact .inr ⟨c,r,x,y,z,by rw[U.an _ _ h];exact d,by rw[U.an _ _ h];exact C,D⟩
def uf (o:U) (d h:List Int) (p r:Own) (V:d.length<=1000000000000) (W:h.length<=1000000000000):
  AC Tryz.prog 199 [ew d h p r] o λe f=> ∃a b,e= .agg [a,b]/\pq o f d h a b:=by
 refine bf hm Pa a9q ?_;refine cn ?_;refine aP λE F=> ?_;refine cn ?_;refine aP λx y=> ?_;have k:E≠x:=by rintro rfl;rw[U.ah]at y;cases y
 have G:=a4Q k;have L:o x=none:=by rw[U.an _ _ G]at y;exact y
 have P: ∀S,(R.agg S).cells=S:=λ_=>rfl;have q:=U.ae (Y:= .cells [.J [] .nil,.J [] .nil]) (U.ae (Y:= .cells [.J (ad d) p,.J (ad h) r]) (U.a1 (f:=o)) F) L;refine ax (aM @P @U.an @k @G) ?_;refine ai (xp d p _ V) ?_;intro a D z;have T:D E=some (.cells [.J (ad d) p,.J (ad h) r]):=z.1 _ _ (by rw[U.an _ _ k,U.ah]);have c2:D x=some (.cells [.J [] .nil,.J [] .nil]):=z.1 _ _ (U.ah _ _ _);refine ax (U.af T) ?_;refine ai (xp h r _ W) ?_;intro b s C;have g:=C.1 _ _ T;have i:=C.1 _ _ c2;have j: ∀a b c:R,putAt [a,b] 0 [c]= [c,b]:=λ_ _ _=>rfl;have l: ∀a b c:R,putAt [a,b] 1 [c]= [a,c]:=λ_ _ _=>rfl;have m: ∀a b c k:R,putAt [a,b] 0 [c,k]= [c,k]:=λ_ _ _ _=>rfl;have n: ∀a b,aY true 2 [a,b]= .agg [a,b]:=λ_ _=>rfl;refine ax (dr (U.af g) (U.aJ i) (fK z) (fK C) @j @l @m @P @n) ?_;refine⟨_,U.a1,a,b,rfl,D.set x (.cells [a,b]),?_,jP C c2⟩;have:=jP (Y:= .cells [a,b]) z (U.ah _ _ _);rw[U.set_set]at this;exact this.base (U.ae (U.ae U.a1 F) L)
def mix (c:Int->Int->Int) (a d:List Int) (b:Nat):List Int:=(List.zipWith c a d).take b++a.drop b
def ug {a:Int->Int->Int} (b:q.length=b6.length) (c:e<=q.length):(mix a q b6 e).length=q.length:=by simp[mix,b];omega
theorem uh {a:Int->Int->Int} (d:q.length=b6.length) (h:e<q.length) (b:List R) {v:Int} (x:v=a (q.getD e 0) (b6.getD e 0)):
  putAt (ad (mix a q b6 e)++b) e [.v (.int .i64 v)]=ad (mix a q b6 (e+1))++b:=by
 have c:(ad ((List.zipWith a q b6).take e)).length=e:=by simp[ad,d];omega
 have k:(List.zipWith a q b6)[e]? =some v:=by simp_all
 have o:q.drop e=q[e]::q.drop (e+1):=a5c h;have p:ad (mix a q b6 e)++b=ad ((List.zipWith a q b6).take e)++(.v (.int .i64 q[e])::(ad (q.drop (e+1))++b)):=by unfold mix;rw[xo,o];simp only[ad,a5h,a4U,a5I]
 have r:ad (mix a q b6 (e+1))++b=ad ((List.zipWith a q b6).take e)++(.v (.int .i64 v)::(ad (q.drop (e+1))++b)):=by unfold mix;rw[a5W,k,xo,xo];simp[ad]
 rw[p,r];generalize ad ((List.zipWith a q b6).take e)=y at c;subst c;simp[putAt]
theorem Y6 (r:U) (a d b h:List Int) (P S W e:Own) (l4:a.length<=1000000000000) (a08:d.length<=1000000000000) (a09:b.length<=1000000000000) (a68:h.length<=1000000000000):
  AC Tryz.prog 212 [ew a d P S,ew b h W e] r λa69 E=> ∃k z,a69= .agg [k,z]/\pq r E (cU (a,d) (b,h)).1 (cU (a,d) (b,h)).2 k z:=by
 refine bf hm Pt a9q ?_;have i: ∀a10,(R.agg a10).cells=a10:=λ_=>rfl;have n: ∀o p,aY true 2 [o,p]= .agg [o,p]:=λ_ _=>rfl;have Z: ∀o p T:R,putAt [o,p] 0 [T]= [T,p]:=λ_ _ _=>rfl;have j9: ∀o p T:R,putAt [o,p] 1 [T]= [o,T]:=λ_ _ _=>rfl;have M: ∀o p T N:R,putAt [o,p] 0 [T,N]= [T,N]:=λ_ _ _ _=>rfl;have q:=bH (q:=a);have v:=bH (q:=b);refine ax @i ?_;refine aP λF a71=> ?_;refine ax @i ?_;refine aP λC k0=> ?_;have k1:F≠C:=by rintro rfl;rw[U.ah]at k0;cases k0
 have a73:r C=none:=by rw[U.an _ _ (a4Q k1)]at k0;exact k0
 have b17:=a4Q k1;refine ax @i ?_;refine aP λx k2=> ?_;have a74:C≠x:=by rintro rfl;rw[U.ah]at k2;cases k2
 have a81:F≠x:=by rintro rfl;rw[U.an _ _ k1,U.ah]at k2;cases k2
 have l5:r x=none:=by simp_all [U.an,a4Q]
 have k3:=U.ae (Y:= .cells [.J [] .nil,.J [] .nil]) (U.ae (Y:= .cells [.J (ad b) W,.J (ad h) e]) (U.ae (Y:= .cells [.J (ad a) P,.J (ad d) S]) (U.a1 (f:=r)) a71) a73) l5;have f:(((r.set F (.cells [.J (ad a) P,.J (ad d) S])).set C (.cells [.J (ad b) W,.J (ad h) e])).set x (.cells [.J [] .nil,.J [] .nil])) F=some (.cells [.J (ad a) P,.J (ad d) S]):=by rw[U.an _ _ a81,U.an _ _ k1,U.ah]
 have g:(((r.set F (.cells [.J (ad a) P,.J (ad d) S])).set C (.cells [.J (ad b) W,.J (ad h) e])).set x (.cells [.J [] .nil,.J [] .nil])) C=some (.cells [.J (ad b) W,.J (ad h) e]):=by rw[U.an _ _ a74,U.ah]
 have aM:(((r.set F (.cells [.J (ad a) P,.J (ad d) S])).set C (.cells [.J (ad b) W,.J (ad h) e])).set x (.cells [.J [] .nil,.J [] .nil])) x=some (.cells [.J [] .nil,.J [] .nil]):=U.ah _ _ _;refine ax @i ?_;generalize ((r.set F (.cells [.J (ad a) P,.J (ad d) S])).set C (.cells [.J (ad b) W,.J (ad h) e])).set x (.cells [.J [] .nil,.J [] .nil])=j at*;have s: ∀o p:R,List.take 2 [o,p]= [o,p]:=λ_ _=>rfl;refine ax (aI @q @v @s) ?_;refine ai (om j a d P S a.length l4) ?_;rintro _ j ⟨rfl,rfl⟩;refine ax (bC @q @v @s (U.af f) (U.af g) @n) ?_;refine ai (om j b h W e b.length a09) ?_;rintro _ j ⟨rfl,rfl⟩;have O: ∀(w:U) (k z:R) (l6 l7:List Int),pq j w l6 l7 k z->pq r (w.set x (.cells [k,z])) l6 l7 k z:=by
  rintro w k z l6 l7 ⟨A,D,G⟩;refine⟨A.set x (.cells [k,z]),?_,jP G (D.1 _ _ aM)⟩;refine(jP (Y:= .cells [k,z]) D aM).base λa11 k4 l8=> ?_;have Q:a11≠x:=by rintro rfl;rw[l5]at l8;cases l8
  rw[U.an _ _ Q];exact k3 a11 k4 l8
 unfold cU;cases a83:cT a d a.length with
 |true=>
  cases a13:cT b h b.length with
  |false=>refine ax (cc @q @v @s (U.af f) (U.af g) @n @a5w) ?_;refine ai (uf _ a d P S l4 a08) ?_;rintro _ w ⟨k,z,rfl,X⟩;obtain⟨A,D,G⟩:=X;have B:=G.1 _ _ (D.1 _ _ aM);refine ax (bC (U.aJ B) @i @Z @j9 @M @n) ?_;exact⟨_,U.a1,k,z,rfl,O _ _ _ _ _ ⟨A,D,G⟩⟩
  |true=>
   by_cases a14:(a.length:Int)=b.length
   .have H:a.length=b.length:=a9p;refine ax (bu @q @v @s (U.af f) (U.af g) @n @a5F @a14) ?_;rw[if_pos H];have k5:=a83;have l9:=a13;simp only[cT,a4K,decide_eq_true_eq]at k5 l9;have b18:d.length=a.length:=k5.1.2;have b19:h.length=a.length:=by rw[H];exact l9.1.2
    have b20:1<=a.length:=k5.1.1.1.1;clear k5 l9;refine ai (uf _ a d P S l4 a08) ?_;rintro _ w ⟨k,z,rfl,A,D,G⟩;have kz:=G.1 _ _ (D.1 _ _ f);have a15:=G.1 _ _ (D.1 _ _ g);have B:=G.1 _ _ (D.1 _ _ aM);obtain⟨I,⟨k6,_⟩|⟨L,a84,n0,a16,rfl,k7,a18,a86,n1,k8,a19,cg⟩⟩:=D
    .exfalso;grind
    obtain⟨n2,⟨k6,_⟩|⟨y,a88,n3,a27,rfl,l,a29,a89,n4,k9,a30,c9⟩⟩:=G
    .exfalso;have:=congrArg List.length k6;rw[bH,a4R]at this;omega
    have a90:a84=a.length:=by rw[q]at k8;omega
    have Y:a88=a.length:=by rw[bH]at k9;omega
    subst a90;subst Y;have n5:L≠y:=by rintro rfl;rw[a18]at l;cases l
    have a34:=n2 _ _ a18;simp only[a5t]at a86 a89 n1 n4 a19 a30;obtain⟨n9,rfl⟩: ∃a00,a16=ad a++a00:=⟨a16.drop a.length,by rw[<-n1,a5p]⟩;obtain⟨a01,rfl⟩: ∃a00,a27=ad d++a00:=⟨a27.drop a.length,by rw[<-n4,a5p]⟩;have a36:L≠x:=by rintro rfl;rw[k7]at aM;cases aM
    have a92:L≠F:=by rintro rfl;rw[k7]at f;cases f
    have a94:L≠C:=by rintro rfl;rw[k7]at g;cases g
    have a38:y≠x:=by rintro rfl;rw[I _ _ aM]at l;cases l
    have a95:y≠F:=by rintro rfl;rw[I _ _ f]at l;cases l
    have a96:y≠C:=by rintro rfl;rw[I _ _ g]at l;cases l
    have a97:r L=none:=U.bF k3 k7;have a98:r y=none:=U.bF (U.aq k3 I) l;have a42:=U.aq k3 (U.aq I n2);clear n1 n4 I n2 k8 k9 O;refine cn ?_;refine aP λt V=> ?_;have a43:t≠x:=by rintro rfl;rw[B]at V;cases V
    have a47:t≠F:=by rintro rfl;rw[kz]at V;cases V
    have a48:t≠C:=by rintro rfl;rw[a15]at V;cases V
    have l0:t≠L:=by rintro rfl;rw[a34]at V;cases V
    have l1:t≠y:=by rintro rfl;rw[a29]at V;cases V
    have a99:r t=none:=U.bF a42 V;have b21: ∀o p T N:Nat,(R.al o p T N).cells= [.al o p T N]:=λ_ _ _ _=>rfl;refine ax (c2 @i @M) ?_;refine cu (λm E=> ∃c:Nat,c<=a.length/\r.sub E/\E F=some (.cells [.J (ad a) P,.J (ad d) S])/\E C=some (.cells [.J (ad b) W,.J (ad h) e])/\E x=some (.cells [.J [] .nil,.J [] .nil])/\
      E t=some (.cells [.al L a.length n0 1,.al y a.length n3 1])/\E L=some (.cells (ad (mix min a b c)++n9))/\E y=some (.cells (ad (mix max d h c)++a01))/\
      m 2= .ptr F 0/\m 3= .ptr C 0/\m 4= .ptr x 0/\m 7= .ptr t 0/\m 52= .v (.int .i64 a.length)/\m 53= .v (.int .i64 c))
     (λm _=>match m 53 with| .v (.int _ X)=>a.length - X.toNat| _=>0) ⟨0,a9p,?_⟩ ?_
    .have a52: ∀(a56:Int->Int->Int) (o p:List Int),mix a56 o p 0=o:=λa56 o p=>by simp[mix]
     rw[a52,a52];refine ax (nZ @U.an @a47 @a48 @a43 @l0 @l1 (a4Q a47) (a4Q a48) (a4Q a43) (a4Q l0) (a4Q l1) @kz @a15 @B @a34 @a29 @U.ah) ?_;exact U.ae a42 a99
    rintro m E ⟨c,b22,b00,c2,aI,aM,cc,l2,l3,Y,a02,a03,a04,a05,a06⟩;by_cases a07:(c:Int)<a.length
    .have a57:c<a.length:=a9p;have a61:a[c]? =some (a.getD c 0):=by simp[List.getD,a57]
     have a62:b[c]? =some (b.getD c 0):=by simp_all
     have a63:d[c]? =some (d.getD c 0):=by simp_all
     have a65:h[c]? =some (h.getD c 0):=by simp_all
     have b01:=uh (a:=min) H a57 n9 (v:=min (a.getD c 0) (b.getD c 0)) rfl;have b02:=uh (a:=max) (q:=d) (b6:=h) (e:=c) a9p a9p a01 (v:=max (d.getD c 0) (h.getD c 0)) rfl;generalize a.getD c 0=b23 at*;generalize b.getD c 0=b24 at*;generalize d.getD c 0=a3 at*;generalize h.getD c 0=a4 at*;simp -dsimp -implicitDefEqProofs (disch:=first|omega|assumption|(simp only[aE,Nat.reduceAdd];try omega)) only[go_sem,simprocAttr,-List.reduceReplicate,Y,a02,a03,a04,a05,a06,a07,U.af c2,U.af aI,U.af cc,U.aJ l2,U.aJ l3,gu a61,gu a62,gu a63,gu a65,oh];have b03:c+1<=(ad (mix min a b c)++n9).length:=by rw[a4J,bH,ug H a9p];omega
     have b04:c+1<=(ad (mix max d h c)++a01).length:=by rw[a4J,bH,ug a9p a9p];omega
     have b05:=a4Q a92;have b06:=a4Q a94;have b07:=a4Q n5;have b08:=a4Q a36;have b09:=a4Q a95;have b10:=a4Q a96;have b11:=a4Q a38;have b12:=a4Q l0;have b13:=a4Q l1;simp -dsimp -implicitDefEqProofs (disch:=first|omega|assumption|(simp only[aE,Nat.reduceAdd];try omega)) only[go_sem,simprocAttr,-List.reduceReplicate,Y,a02,a03,a04,a05,a06,a07,U.af c2,U.af aI,U.af cc,U.aJ l2,U.aJ l3,gu a61,gu a62,gu a63,gu a65,oh,b03,b04,b01,b02,U.an,U.ah,n5,b07,b05,b06,b08,b09,b10,b11,b12,b13,l0,l1,c2,aI,aM,cc];grind[U.ae]
    .obtain rfl:c=a.length:=a9p;refine ax (ct @Y @a02 @a03 @a04 @a05 @a06 @a07 (U.af cc) (U.aJ aM) @s) ?_;have k8:mix min a b a.length=List.zipWith min a b:=by unfold mix;grind
     have k9:mix max d h a.length=List.zipWith max d h:=by unfold mix;grind
     rw[k8]at l2;rw[k9]at l3;have b25:(ad (List.zipWith min a b)).length=a.length:=by rw[bH,a6B];omega
     have b26:(ad (List.zipWith max d h)).length=a.length:=by rw[bH,a6B];omega
     have b14: ∀K:U,K L=E L->K y=E y->r.sub K->pq r K (List.zipWith min a b) (List.zipWith max d h) (.al L a.length n0 1) (.al y a.length n3 1):=by
      intro K k6 b15 b16;refine⟨K.del y,⟨λk k4 u=> ?_,.inr ⟨L,a.length,n0,_,rfl,a97,by rw[U.eI _ n5,k6];exact l2,?_,?_,?_,a19,cg⟩⟩,⟨λk k4 u=> ?_,.inr ⟨y,a.length,n3,_,rfl,U.ir _ _,by rw[b15];exact l3,?_,?_,?_,a30,c9⟩⟩⟩
      .have Q:k≠y:=by rintro rfl;rw[a98]at u;cases u
       rw[U.eI _ Q];exact b16 k k4 u
      simp_all;simp_all
      .omega
      .have Q:k≠y:=by rintro rfl;rw[U.ir]at u;cases u
       rw[U.eI _ Q]at u;exact u
      grind[List.length_append,bH];simp_all
      .omega
     exact⟨_,U.a1,_,_,rfl,b14 _ (U.an _ _ a36) (U.an _ _ a38) (U.ae b00 l5)⟩
   .have H: ¬a.length=b.length:=a9p;refine ax (p6 @q @v @s (U.af f) (U.af g) (U.aJ aM) @n @a5F @a14 @i @Z @j9 @M) ?_;rw[if_neg H];exact⟨_,U.a1,_,_,rfl,O j _ _ _ _ ⟨j,ar.nil U.a1,ar.nil U.a1⟩⟩
 |false=>
  cases a13:cT b h b.length with
  |false=>refine ax (jc @q @v @s (U.af f) (U.af g) (U.aJ aM) @n @a5w @i @Z @j9 @M) ?_;exact⟨_,U.a1,_,_,rfl,O j _ _ _ _ ⟨j,ar.nil U.a1,ar.nil U.a1⟩⟩
  |true=>refine ax (cc @q @v @s (U.af f) (U.af g) @n @a5w) ?_;refine ai (uf _ b h W e a09 a68) ?_;rintro _ w ⟨k,z,rfl,X⟩;obtain⟨A,D,G⟩:=X;have B:=G.1 _ _ (D.1 _ _ aM);refine ax (bC (U.aJ B) @i @Z @j9 @M @n) ?_;exact⟨_,U.a1,k,z,rfl,O _ _ _ _ _ ⟨A,D,G⟩⟩
def D5 (h:U) (a b c d:List Int) (k o p r:Own) (z:a.length<=1000000000000) (C:b.length<=1000000000000) (D:c.length<=1000000000000) (E:d.length<=1000000000000):
  AC Tryz.prog 212 [ew a b k o,ew c d p r] h λx y=>h.sub y/\x=ew (cU (a,b) (c,d)).1 (cU (a,b) (c,d)).2 .any .any:=
 (Y6 h a b c d k o p r z C D E).view λx y F=>by
  obtain⟨G,g,rfl,i,L,P⟩:=F;obtain⟨j,S,T⟩:=sw P;have V:=L.mono S;obtain⟨W,e,f⟩:=sw V;exact⟨_,W,(View.agg (a:= [G]) (k:= []) rfl T).trans (View.agg (a:= []) (k:= [_]) rfl f),e,rfl⟩
theorem oo (b c:List Int×List Int) (a:Nat) (d:b.1.length<=a) (h:b.2.length<=a) (k:c.1.length<=a) (o:c.2.length<=a):(cU b c).1.length<=a/\(cU b c).2.length<=a:=by grind[cU]
def az {a:Type} (b:a->R->Prop):List a->List R->Prop
 | [],[]=>True
 |c::xs,d::h=>b c d/\az b xs h
 | _,_=>False
def az.len {b:Type}{h:b->R->Prop}: ∀ {c:List b}{d:List R},az h c d->d.length=c.length
 | [],[],_=>rfl
 | _:: _,_:: _,a=>by rw[a4M,a4M,a.2.len]
 | [],_:: _,a=>a.elim
 | _:: _,[],a=>a.elim
def az.get {k:Type}{o:k->R->Prop}: ∀ {d:List k}{h:List R}{i:Nat}{x:k},az o d h->d[i]? =some x-> ∃b,h[i]? =some b/\o x b
 | [],_,_,_,_,a=>by simp at a
 |x::d,b::h,0,p,a,c=>by simp only[a6u,a4S]at c|-;subst c;exact⟨b,rfl,a.1⟩
 |x::d,b::h,i+1,p,a,c=>by simp only[a6L]at c|-;exact a.2.get c
 | _:: _,[],_,_,a,_=>a.elim
def az.append {c:Type}{b:c->R->Prop}: ∀ {d h:List c}{k o:List R},az b d k->az b h o->az b (d++h) (k++o)
 | [],_,[],_,_,a=>a
 | _:: _,_,_:: _,_,a,p=>⟨a.1,a.2.append p⟩
 | [],_,_:: _,_,a,_=>a.elim
 | _:: _,_,[],_,a,_=>a.elim
variable{b0:Type}
def az.snoc {a:b0->R->Prop}{b:List b0}{c:b0} (d:az a b g) (h:a c n):az a (b++ [c]) (g++ [n]):=d.append ⟨h,trivial⟩
def az.take {c:Type}{d:c->R->Prop}: ∀ {h:List c}{k:List R} (b:Nat),az d h k->az d (h.take b) (k.take b)
 | [],[],b,_=>by simp[az]
 | _:: _,_:: _,0,_=>by simp[az]
 | _:: _,_:: _,b+1,a=>⟨a.1,a.2.take b⟩
 | [],_:: _,_,a=>a.elim
 | _:: _,[],_,a=>a.elim
def az.drop {c:Type}{d:c->R->Prop}: ∀ {h:List c}{k:List R} (b:Nat),az d h k->az d (h.drop b) (k.drop b)
 | [],[],b,_=>by simp[az]
 | _:: _,_:: _,0,a=>a
 | _:: _,_:: _,b+1,a=>a.2.drop b
 | [],_:: _,_,a=>a.elim
 | _:: _,[],_,a=>a.elim
def az.mono {b:Type}{c d:b->R->Prop} (h: ∀k o,c k o->d k o): ∀ {p:List b}{r:List R},az c p r->az d p r
 | [],[],a=>a
 | _:: _,_:: _,a=>⟨h _ _ a.1,a.2.mono h⟩
 | [],_:: _,a=>a.elim
 | _:: _,[],a=>a.elim
theorem az.cells {b:Type}{c:b->R->Prop}{d:Nat} (h: ∀p k,c p k->k.cells.length=d): ∀ {r:List b}{o:List R},az c r o->aN d o
 | [],[],_=>by simp[aN]
 | _:: _,_:: _,a=>by rw[BQ];exact⟨h _ _ a.1,a.2.cells h⟩
 | [],_:: _,a=>a.elim
 | _:: _,[],a=>a.elim
def isRow (a:List Int) (b:R):Prop:= ∃c,b= .J (ad a) c
def dh (a:List Int×Bool) (b:R):Prop:= ∃c,b= .agg [.J (ad a.1) c,.v (.bool a.2)]
def ab (a:ay) (b c d:Own):List R:=a.sum.map ak++ [.J (ad a.aV) b,.J (ad a.aW) c,.v (.int .i64 a.live),.v (.int .i64 a.size),.J (ad a.key) d]
structure qJ (k:ay) (ht eW b:Own) (a:List R):Prop where
 len:a.length=37
 t37:a.take 37=a
 t32:a.take 32=k.sum.map ak
 d32:a.drop 32= [.J (ad k.aV) ht,.J (ad k.aW) eW,.v (.int .i64 k.live),.v (.int .i64 k.size),.J (ad k.key) b]
 d33:a.drop 33= [.J (ad k.aW) eW,.v (.int .i64 k.live),.v (.int .i64 k.size),.J (ad k.key) b]
 d34:a.drop 34= [.v (.int .i64 k.live),.v (.int .i64 k.size),.J (ad k.key) b]
 d35:a.drop 35= [.v (.int .i64 k.size),.J (ad k.key) b]
 d36:a.drop 36= [.J (ad k.key) b]
variable{w j2:ay}
theorem aX (b:w.sum.length=32):qJ w N e5 h5 (ab w N e5 h5):=by
 have d:(w.sum.map ak).length=32:=by simp[b]
 have a: ∀c,(ab w N e5 h5).drop (32+c)= [R.J (ad w.aV) N,.J (ad w.aW) e5,.v (.int .i64 w.live),.v (.int .i64 w.size),.J (ad w.key) h5].drop c:=λc=>by
  unfold ab;rw[a6k,a5v a9p,d];simp
 exact⟨by simp[ab,b],a4I (by simp[ab,b]),by unfold ab;simp_all,a 0,a 1,a 2,a 3,a 4⟩
theorem qJ.all (a:qJ w N e5 h5 g):g.length=37/\g.take 37=g/\g.take 32=w.sum.map ak/\(g.drop 32).take 2= [.J (ad w.aV) N,.J (ad w.aW) e5]/\
  aY false 1 (g.drop 32)= .J (ad w.aV) N/\aY false 1 (g.drop 33)= .J (ad w.aW) e5/\aY false 1 (g.drop 34)= .v (.int .i64 w.live)/\aY false 1 (g.drop 35)= .v (.int .i64 w.size)/\aY false 1 (g.drop 36)= .J (ad w.key) h5:=
 ⟨a.len,a.t37,a.t32,by rw[a.d32];rfl,by rw[a.d32];rfl,by rw[a.d33];rfl,by rw[a.d34];rfl,by rw[a.d35];rfl,by rw[a.d36];rfl⟩
structure ay.cE (k:ay):Prop where
 aV:k.aV.length<=1000000000000
 aW:k.aW.length<=1000000000000
 key:k.key.length<=1000000000000
def me:aA.cE:=⟨by simp[aA],by simp[aA],by simp[aA]⟩
def bs (a:ay) (b:R):Prop:=a.sum.length=32/\a.cE/\ ∃c d h,b= .agg (ab a c d h)
theorem dh.cells {b:List Int×Bool}{a:R} (c:dh b a):a.cells.length=2:=by obtain⟨d,rfl⟩:=c;rfl
theorem bs.cells {b:ay}{a:R} (c:bs b a):a.cells.length=37:=by obtain⟨d,_,h,k,o,rfl⟩:=c;exact(aX d).len
theorem isRow.cells {b:List Int}{a:R} (c:isRow b a):a.cells.length=1:=by obtain⟨d,rfl⟩:=c;rfl
structure nf (c:U) (p:R) (cells:List R):Prop where
 ld: ∀(a:U),c.sub a-> ∀agg n,0<n->n<=cells.length->dq agg n a p=some (aY agg n cells)
 kY: ∀(a:U),c.sub a-> ∀b agg n,0<n->b+n<=cells.length-> ∃d,rV b p=some d/\dq agg n a d=some (aY agg n (cells.drop b))
structure bS (b:U) (k:Nat) (x:R) (a:List R):Prop where
 one:x.cells= [x]
 len:ff x=some (.v (.int .i64 a.length))
 get: ∀(i:Nat) e,a[i]? =some e-> ∃p,cR k x (.v (.int .i64 (i:Int)))=some p/\nf b p e.cells
def nf.mono (c:nf f n g) (d:f.sub t):nf t n g:=⟨λa b=>c.ld a (U.aq d b),λa b=>c.kY a (U.aq d b)⟩
def bS.mono {b c:U}{d:Nat}{h:R}{k:List R} (a:bS b d h k) (o:b.sub c):bS c d h k:=⟨a.one,a.len,λp r x=>by
 obtain⟨y,z,C⟩:=a.get p r x;exact⟨y,z,C.mono o⟩⟩
theorem bS.J {s:U}{c:Nat}{a:List R}{o:Own} (p:aN c a):bS s c (.J a o) a:=⟨rfl,rfl,λr b d=>by
 have x:(0:Int)<=(r:Int):=a9p;refine⟨.bV b.cells,?_,⟨λy _ z h _ k=>by simp[dq,k],λy _ C z h _ k=>⟨_,rfl,?_⟩⟩⟩
 .simp only[cR,x,if_true,a5g,d];exact iw (p b (a4O d))
 .have:h<=(b.cells.drop C).length:=by rw[a4V];omega
  simp only[dq];rw[if_pos this]⟩
theorem D6 (a:aN e g) (c:g[i]? =some n):((flat g).drop (i*e)).take e=n.cells:=by obtain⟨b,rfl⟩:=a4P.1 c;rw[(fZ i a).1,a5c b];have d:(g[i]).cells.length=e:=a _ (a5m b);simp only[flat,a5l];simp_all
theorem bS.al {F:U}{r n cap k:Nat}{c o:List R} (y:aN k o) (G:F r=some (.cells c)) (L:o.length=n) (T:c.take (n*k)=flat o):bS F k (.al r n cap k) o:=by
 refine⟨rfl,by rw[L];rfl,λd p z=> ?_⟩;obtain⟨e,_⟩:=a4P.1 z;have f:(flat o).length=n*k:=by rw[dg y,L]
 have g:n*k<=c.length:=by grind
 have V:(d+1)*k<=n*k:=a4Y _ a9p;rw[a5J,a7g]at V;have i:p.cells.length=k:=y p (a4O z);have P: ∀a b,a+b<=k->((c.drop (d*k+a)).take b)=(p.cells.drop a).take b:=by intro a b hm;rw[<-D6 y z,<-T];grind[List.drop_take,Nat.min_eq_left,List.drop_drop]
 have S: ∀h a b,a+b<=k->0<b->aY h b (c.drop (d*k+a))=aY h b (p.cells.drop a):=by
  intro h a b hm x;cases h with
  |true=>simp only[aY,if_true];rw[P a b hm]
  |false=>
   have j:=P a 1 a9p;simp only[aY,a5Q,if_false];cases bP:c.drop (d*k+a)with
   |nil=>simp_all
   |cons l m=>
    cases cv:p.cells.drop a with
    |nil=>simp_all
    |cons q s=>grind
 refine⟨.ptr r (d*k),?_,⟨λW C h b x hm=> ?_,λW C a h b x hm=>⟨.ptr r (d*k+a),rfl,?_⟩⟩⟩;grind[iZ,Int.toNat_natCast]
 .have D:=U.af (C _ _ G);have E:d*k+b<=c.length:=a9p;simp only[dq,D,if_pos E];have:=S h 0 b a9p x;simp_all
 .have D:=U.af (C _ _ G);have E:d*k+a+b<=c.length:=a9p;simp only[dq,D,if_pos E];rw[S h a b a9p x]
theorem bS.dV (a:ar t f e A n) (d:0<e) (b:A=flat g) (c:aN e g):bS f e n g:=by subst b;have h:=dg c;obtain⟨k,⟨o,rfl|rfl⟩|⟨p,r,x,y,rfl,z,C,D,E,F,G,L⟩⟩:=a;grind[List.eq_nil_of_length_eq_zero,List.length_nil,Nat.mul_eq_zero,bS.J];grind[List.eq_nil_of_length_eq_zero,List.length_nil,Nat.mul_eq_zero,bS.J];grind[bS.al,Nat.eq_of_mul_eq_mul_right]
def gZ (h:b0->R->Prop) (k:U) (b:FuncId) (o p:List R) (r:b0->Bool):Prop:=
 gk Tryz.prog b=true/\ ∀c d (a:U),h c d->k.sub a->AC Tryz.prog b (o++ [d]++p) a λx y=>y=a/\x= .v (.bool (r c))
variable{b4:FuncId}
theorem Y7 (a:List (List Int×Bool)) (L:List R) (y:R) (d:U) (P:az dh a L) (S:bS d 2 y L) (w:a.length<=1000000000000) {h:(List Int×Bool)->Bool} (T:gZ dh d b4 g A h):
  AC Tryz.prog 349 [y,.bG b4 g A] d λf z=>z=d/\ ∃V:Int,f= .v (.int .i64 V)/\decide (0<=V)=a.any h:=by
 refine bf hm Su a9q ?_;have i:=P.len;have C:=S.len;rw[i]at C;refine ax @C ?_;refine cu (λc z=> ∃b:Nat,b<=a.length/\z=d/\c 0=y/\c 1= .bG b4 g A/\c 7= .v (.int .i64 a.length)/\c 8= .v (.int .i64 b)/\(a.take b).any h=false)
  (λc _=>match c 8 with| .v (.int _ j)=>a.length - j.toNat| _=>0) ⟨0,a9p,rfl,?_⟩ ?_
 .refine ax @C ?_;simp
 rintro c D ⟨b,B,rfl,k,o,p,r,W⟩;by_cases x:(b:Int)<(a.length:Int)
 .have E:a[b]? =some a[b]:=a4H a9p;have l:a.take (b+1)=a.take b++ [a[b]]:=by rw[a5W,E];rfl
  have m:a[b]'a9p∈a:=a5m _;generalize a[b]'a9p=e at E l m;obtain⟨F,n,G⟩:=P.get E;obtain⟨q,s,t⟩:=S.get b F n;have u:dq true 2 D q=some F:=by have v:=t.ld D U.a1 true 2 a9p (by rw[dh.cells G];omega);rw[v];obtain⟨H,rfl⟩:=G;rfl
  refine ax (cc @k @o @p @r @x @s @u) ?_;refine fI T.1 (T.2 e F _ G U.a1) ?_;rintro _ D ⟨rfl,rfl⟩;cases I:h e with
  |true=>refine ax (bo @k @o @p @r @x) ?_;refine⟨_,U.a1,rfl,_,rfl,?_⟩;grind
  |false=>refine ax (bo @k @o @p @r @x) ?_;grind
 .obtain rfl:b=a.length:=a9p;refine ax (bo @k @o @p @r @x) ?_;rw[a5f]at W;exact⟨_,U.a1,rfl,_,rfl,by rw[W];simp⟩
def Y8 (b:List (List Int×Bool)) (c:List R) (d:R) (a:U) (k:az dh b c) (o:bS a 2 d c) (p:b.length<=1000000000000) {h:(List Int×Bool)->Bool} (r:gZ dh a b4 g A h):
  AC Tryz.prog 329 [d,.bG b4 g A] a λx y=>y=a/\x= .v (.bool (b.any h)):=by
 refine bf hm S3 a9q ?_;refine cn ?_;refine ai (Y7 b c d a k o p r) ?_;rintro _ C ⟨rfl,D,rfl,z⟩;refine cn ?_;exact⟨_,U.a1,rfl,by rw[z]⟩
theorem D7 (h:List (List Int×Bool)) (p:List R) (r:R) (c:U) (P:az dh h p) (S:bS c 2 r p) (T:h.length<=1000000000000) {x:(List Int×Bool)->Bool} (C:gZ dh c b4 g A x):
  AC Tryz.prog 283 [r,.bG b4 g A] c λV b=>b=c/\V= .v (.bool (h.all x)):=by
 refine bf hm R8 a9q ?_;refine cn ?_;refine aP λd W=> ?_;have D:=U.ae (Y:= .cells [.bG b4 g A]) (U.a1 (f:=c)) W;have aI:(c.set d (.cells [.bG b4 g A])) d=some (.cells [.bG b4 g A]):=U.ah _ _ _;have e:(R.bG b4 g A).cells= [.bG b4 g A]:=rfl;refine ax @e ?_;generalize c.set d (.cells [.bG b4 g A])=E at*;refine ai (Y8 h p r E P (S.mono D) T (b4:=330) (g:= []) (A:= [.ptr d 0]) (h:=λy=> !x y) ⟨a9u,λy a b k F=> ?_⟩) ?_
 .change AC Tryz.prog _ [a,.ptr d 0] b _;refine bf hm S5 a9q ?_;have f:=F _ _ aI;refine ax (dh.cells k) ?_;refine aP λo i=> ?_;have z:=U.ae (Y:= .cells a.cells) (U.a1 (f:=b)) i;have c2:(b.set o (.cells a.cells)) o=some (.cells a.cells):=U.ah _ _ _;have aM:=z _ _ f;have G:aY true 2 (a.cells.drop 0)=a:=by obtain⟨n,rfl⟩:=k;rfl
  have j:aY true 2 a.cells=a:=G;have L:=dh.cells k;refine ax @L ?_;have l:=C.2 y a (b.set o (.cells a.cells)) k (U.aq D (U.aq F z));generalize b.set o (.cells a.cells)=m at*;refine ax (bo (U.af aM) (U.af c2) @L @G @j) ?_;refine fI C.1 l ?_;rintro _ m ⟨rfl,rfl⟩;refine cn ?_;exact⟨b,z,rfl⟩
 rintro _ E ⟨rfl,rfl⟩;refine cn ?_;grind
theorem Y9 (a:List ay) (L:List R) (y:R) (d:U) (P:az bs a L) (S:bS d 37 y L) (K:a.length<=1000000000000) {h:ay->Bool} (T:gZ bs d b4 g A h):
  AC Tryz.prog 350 [y,.bG b4 g A] d λf z=>z=d/\ ∃V:Int,f= .v (.int .i64 V)/\decide (0<=V)=a.any h:=by
 refine bf hm Sw a9q ?_;have i:=P.len;have C:=S.len;rw[i]at C;refine ax @C ?_;refine cu (λc z=> ∃b:Nat,b<=a.length/\z=d/\c 0=y/\c 1= .bG b4 g A/\c 7= .v (.int .i64 a.length)/\c 8= .v (.int .i64 b)/\(a.take b).any h=false)
  (λc _=>match c 8 with| .v (.int _ j)=>a.length - j.toNat| _=>0) ⟨0,a9p,rfl,?_⟩ ?_
 .refine ax @C ?_;simp
 rintro c D ⟨b,M,rfl,k,o,p,r,W⟩;by_cases x:(b:Int)<(a.length:Int)
 .have E:a[b]? =some a[b]:=a4H a9p;have l:a.take (b+1)=a.take b++ [a[b]]:=by rw[a5W,E];rfl
  have m:a[b]'a9p∈a:=a5m _;generalize a[b]'a9p=e at E l m;obtain⟨F,n,G⟩:=P.get E;obtain⟨q,s,t⟩:=S.get b F n;have u:dq true 37 D q=some F:=by have v:=t.ld D U.a1 true 37 a9p (by rw[bs.cells G];omega);rw[v];obtain⟨w,_,B,H,I,rfl⟩:=G;simp[R.cells,aY,(aX (N:=B) (e5:=H) (h5:=I) w).t37]
  refine ax (cc @k @o @p @r @x @s @u) ?_;refine fI T.1 (T.2 e F _ G U.a1) ?_;rintro _ D ⟨rfl,rfl⟩;cases N:h e with
  |true=>refine ax (bo @k @o @p @r @x) ?_;refine⟨_,U.a1,rfl,_,rfl,?_⟩;grind
  |false=>refine ax (bo @k @o @p @r @x) ?_;grind
 .obtain rfl:b=a.length:=a9p;refine ax (bo @k @o @p @r @x) ?_;rw[a5f]at W;exact⟨_,U.a1,rfl,_,rfl,by rw[W];simp⟩
def Ya (b:List ay) (c:List R) (d:R) (a:U) (k:az bs b c) (o:bS a 37 d c) (p:b.length<=1000000000000) {h:ay->Bool} (r:gZ bs a b4 g A h):
  AC Tryz.prog 331 [d,.bG b4 g A] a λx y=>y=a/\x= .v (.bool (b.any h)):=by
 refine bf hm S7 a9q ?_;refine cn ?_;refine ai (Y9 b c d a k o p r) ?_;rintro _ C ⟨rfl,D,rfl,z⟩;refine cn ?_;exact⟨_,U.a1,rfl,by rw[z]⟩
theorem xr (h:List ay) (r:List R) (x:R) (c:U) (P:az bs h r) (S:bS c 37 x r) (T:h.length<=1000000000000) {y:ay->Bool} (C:gZ bs c b4 g A y):
  AC Tryz.prog 285 [x,.bG b4 g A] c λV b=>b=c/\V= .v (.bool (h.all y)):=by
 refine bf hm Rc a9q ?_;refine cn ?_;refine aP λd W=> ?_;have D:=U.ae (Y:= .cells [.bG b4 g A]) (U.a1 (f:=c)) W;have aI:(c.set d (.cells [.bG b4 g A])) d=some (.cells [.bG b4 g A]):=U.ah _ _ _;have e:(R.bG b4 g A).cells= [.bG b4 g A]:=rfl;refine ax @e ?_;generalize c.set d (.cells [.bG b4 g A])=E at*;refine ai (Ya h r x E P (S.mono D) T (b4:=332) (g:= []) (A:= [.ptr d 0]) (h:=λk=> !y k) ⟨a9u,λk a b o F=> ?_⟩) ?_
 .change AC Tryz.prog _ [a,.ptr d 0] b _;refine bf hm S9 a9q ?_;have f:=F _ _ aI;refine ax (bs.cells o) ?_;refine aP λp i=> ?_;have z:=U.ae (Y:= .cells a.cells) (U.a1 (f:=b)) i;have c2:(b.set p (.cells a.cells)) p=some (.cells a.cells):=U.ah _ _ _;have aM:=z _ _ f;have G:aY true 37 (a.cells.drop 0)=a:=by obtain⟨j,_,l,m,n,rfl⟩:=o;show aY true 37 (ab k l m n)= _;rw[aY,if_pos rfl,(aX j).t37]
  have q:aY true 37 a.cells=a:=G;have L:=bs.cells o;refine ax @L ?_;have s:=C.2 k a (b.set p (.cells a.cells)) o (U.aq D (U.aq F z));generalize b.set p (.cells a.cells)=t at*;refine ax (bo (U.af aM) (U.af c2) @L @G @q) ?_;refine fI C.1 s ?_;rintro _ t ⟨rfl,rfl⟩;refine cn ?_;exact⟨b,z,rfl⟩
 rintro _ E ⟨rfl,rfl⟩;refine cn ?_;grind
theorem D8 (a b:ay):(decide (a=b))=(decide (a.sum=b.sum)&&decide (a.live=b.live)&&decide (a.size=b.size)&&(decide (a.aV=b.aV)&&decide (a.aW=b.aW))&&decide (a.key=b.key)):=by obtain⟨c,d,h,k,o,p⟩:=a;obtain⟨r,x,y,z,C,D⟩:=b;grind
def sy {b c:List UInt8}:peq (.agg (b.map ak)) (.agg (c.map ak))=decide (b=c):=by rw[<-Bool.coe_iff_coe,rz,decide_eq_true_eq];exact⟨λa=>CD a,λa=>by rw[a]⟩
def D9 (a b:ay) (k o p r x y:Own) (c:U) (i:a.sum.length=32) (j:b.sum.length=32) (e:a.cE):
  AC Tryz.prog 139 [.agg (ab a k o p),.agg (ab b r x y)] c λv w=>w=c/\v= .v (.bool (decide (a=b))):=by
 have l:=aX (N:=k) (e5:=o) (h5:=p) i;have m:=aX (N:=r) (e5:=x) (h5:=y) j;rw[D8];generalize ab a k o p=A at l;generalize ab b r x y=B at m;obtain⟨z,Q,a3,a4,_,dw,C,X⟩:=l;obtain⟨D,Y,E,F,_,G,L,Z⟩:=m;refine bf hm Ng a9q ?_;have d: ∀n,(R.agg n).cells=n:=λ_=>rfl;refine aa ?_;refine aP λH I=> ?_;refine aa ?_;refine aP λq P=> ?_;have f:H≠q:=by rintro rfl;rw[U.ah]at P;cases P
 have K:=a4Q f;have M:c q=none:=by rw[U.an _ _ K]at P;exact P
 have h:=U.ae (Y:= .cells B) (U.ae (Y:= .cells A) (U.a1 (f:=c)) I) M;have S:dB [(32,.int .u8)] (a.sum.map ak):=po i;have T:dB [(32,.int .u8)] (b.sum.map ak):=po j;have V: ∀s t N f O:R,List.take 2 [s,t,N,f,O]= [s,t]:=λ_ _ _ _ _=>rfl;by_cases W:a.sum=b.sum
 .by_cases g:a.live=b.live
  .by_cases u:a.size=b.size
   .simp -dsimp -implicitDefEqProofs (disch:=first|omega|assumption|(simp only[aE,Nat.reduceAdd];try omega)) only[go_sem,simprocAttr,-List.reduceReplicate,d,a3,E,S,T,sy,W,g,u,z,D,dw,G,C,L,a4,F,V,a7A];refine ai (Y5 _ a.aV a.aW b.aV b.aW k o r x e.aV e.aW) ?_;rintro _ _ ⟨rfl,rfl⟩;cases j9:(decide (a.aV=b.aV)&&decide (a.aW=b.aW))with
    |true=>refine aa ?_;refine ai (ln a.key b.key p y _ e.key) ?_;rintro _ _ ⟨rfl,rfl⟩;simp -dsimp -implicitDefEqProofs (disch:=first|omega|assumption|(simp only[aE,Nat.reduceAdd];try omega)) only[go_sem,simprocAttr,-List.reduceReplicate];exact⟨c,h,by simp[*]⟩
    |false=>simp -dsimp -implicitDefEqProofs (disch:=first|omega|assumption|(simp only[aE,Nat.reduceAdd];try omega)) only[go_sem,simprocAttr,-List.reduceReplicate,d];exact⟨c,h,by simp[*]⟩
   .simp -dsimp -implicitDefEqProofs (disch:=first|omega|assumption|(simp only[aE,Nat.reduceAdd];try omega)) only[go_sem,simprocAttr,-List.reduceReplicate,d,a3,E,S,T,sy,W,g,u,z,D,dw,G,C,L,a4,F,V,a7A];exact⟨c,h,by simp[*]⟩
  .simp -dsimp -implicitDefEqProofs (disch:=first|omega|assumption|(simp only[aE,Nat.reduceAdd];try omega)) only[go_sem,simprocAttr,-List.reduceReplicate,d,a3,E,S,T,sy,W,g,z,D,dw,G,C,L,a4,F,V,a7A];exact⟨c,h,by simp[*]⟩
 .simp -dsimp -implicitDefEqProofs (disch:=first|omega|assumption|(simp only[aE,Nat.reduceAdd];try omega)) only[go_sem,simprocAttr,-List.reduceReplicate,d,a3,E,S,T,sy,W,z,D,dw,G,C,L,a4,F,V,a7A];exact⟨c,h,by simp[*]⟩
def ng (a:ay) (c d h:Own) (k:U) (o:a.sum.length=32) (x:a.cE):
  AC Tryz.prog 154 [.agg (ab a c d h)] k λy z=>z=k/\y= .v (.bool (decide (a=aA))):=by
 have b:=aX (N:=c) (e5:=d) (h5:=h) o;refine bf hm NL a9q ?_;have p: ∀r,(R.agg r).cells=r:=λ_=>rfl;have E:=b.len;have C:(List.replicate 32 (R.v (.int .u8 0))++ [R.J [] .nil,.J [] .nil]++ [R.v (.int .i64 0),.v (.int .i64 0)]++ [R.J [] .nil])=ab aA .nil .nil .nil:=by rw[show List.replicate 32 (R.v (.int .u8 0))=(List.replicate 32 (0:UInt8)).map ak by rw[List.map_replicate];rfl];simp only[a4U];rfl
 simp -dsimp -implicitDefEqProofs (disch:=first|omega|assumption|(simp only[aE,Nat.reduceAdd];try omega)) only[go_sem,simprocAttr,-List.reduceReplicate,p,b.len];refine aP λF D=> ?_;simp -dsimp -implicitDefEqProofs (disch:=first|omega|assumption|(simp only[aE,Nat.reduceAdd];try omega)) only[go_sem,simprocAttr,-List.reduceReplicate,p,b.len,b.t37,C];refine ai (D9 a aA c d h .nil .nil .nil _ o rfl x) ?_;rintro _ _ ⟨rfl,rfl⟩;simp -dsimp -implicitDefEqProofs (disch:=first|omega|assumption|(simp only[aE,Nat.reduceAdd];try omega)) only[go_sem,simprocAttr,-List.reduceReplicate];exact⟨k,U.ae U.a1 D,rfl⟩
theorem xt (a:ay) (r x C:Own) (d:Nat) (b:U) (i:d<=1000000000000) (F:a.sum.length=32) (j:a.cE):
  AC Tryz.prog 225 [.agg (ab a r x C),.v (.int .i64 (d:Int))] b λl m=>m=b/\l= .v (.bool (fo d a)):=by
 have G:=aX (N:=r) (e5:=x) (h5:=C) F;have L:=λb=>ng a r x C b F j;generalize ab a r x C=n at G L;obtain⟨h,u,a3,a4,a5,dw,k,v⟩:=G;refine bf hm PO a9q ?_;have o: ∀P,(R.agg P).cells=P:=λ_=>rfl;have S:=bH (q:=a.aV);have T:=bH (q:=a.aW);refine aa ?_;refine aP λw q=> ?_;have y:=U.ae (Y:= .cells n) (U.a1 (f:=b)) q;refine aa ?_;refine ai (L _) ?_;rintro _ _ ⟨rfl,rfl⟩;have A: ∀V W s d t:R,List.take 2 [V,W,s,d,t]= [V,W]:=λ_ _ _ _ _=>rfl;unfold fo;by_cases c:a=aA
 .simp -dsimp -implicitDefEqProofs (disch:=first|omega|assumption|(simp only[aE,Nat.reduceAdd];try omega)) only[go_sem,simprocAttr,-List.reduceReplicate,c];exact⟨b,y,rfl,a9q⟩
 by_cases p:a.size<1
 .simp -dsimp -implicitDefEqProofs (disch:=first|omega|assumption|(simp only[aE,Nat.reduceAdd];try omega)) only[go_sem,simprocAttr,-List.reduceReplicate,c,p,o,h,dw,k];exact⟨b,y,by simp[*]⟩
 by_cases z:(1048576:Int)<a.size
 .simp -dsimp -implicitDefEqProofs (disch:=first|omega|assumption|(simp only[aE,Nat.reduceAdd];try omega)) only[go_sem,simprocAttr,-List.reduceReplicate,c,p,z,o,h,dw,k];exact⟨b,y,by simp[*]⟩
 by_cases D:a.live<0
 .simp -dsimp -implicitDefEqProofs (disch:=first|omega|assumption|(simp only[aE,Nat.reduceAdd];try omega)) only[go_sem,simprocAttr,-List.reduceReplicate,c,p,z,D,o,h,dw,k];exact⟨b,y,by simp[*]⟩
 by_cases E:a.size<a.live
 .simp -dsimp -implicitDefEqProofs (disch:=first|omega|assumption|(simp only[aE,Nat.reduceAdd];try omega)) only[go_sem,simprocAttr,-List.reduceReplicate,c,p,z,D,E,o,h,dw,k];exact⟨b,y,by simp[*]⟩
 by_cases e:a.live=0
 .have f: ¬a.size<0:=a9p;by_cases g:(a.aV.length:Int)=0
  .simp -dsimp -implicitDefEqProofs (disch:=first|omega|assumption|(simp only[aE,Nat.reduceAdd];try omega)) only[go_sem,simprocAttr,-List.reduceReplicate,c,p,z,D,E,e,g,f,o,h,a4,a5,dw,k,S,T];simp_all
  .simp -dsimp -implicitDefEqProofs (disch:=first|omega|assumption|(simp only[aE,Nat.reduceAdd];try omega)) only[go_sem,simprocAttr,-List.reduceReplicate,c,p,z,D,E,e,g,f,o,h,a4,a5,dw,k,S,T];simp_all
 .refine aa ?_;refine ai (om _ a.aV a.aW r x d i) ?_;rintro _ _ ⟨rfl,rfl⟩;simp -dsimp -implicitDefEqProofs (disch:=first|omega|assumption|(simp only[aE,Nat.reduceAdd];try omega)) only[go_sem,simprocAttr,-List.reduceReplicate];simp_all
theorem Yb (b:Nat) (a:List Int×Bool) (h:R) (r:dh a h) (c:U) (d:Nat) (k:c.read d=some [.v (.int .i64 (b:Int))]):
  AC Tryz.prog 284 [h,.ptr d 0] c λx y=>y=c/\x= .v (.bool (decide (a.1.length=b))):=by
 obtain⟨F,rfl⟩:=r;refine bf hm Ra a9q ?_;have z: ∀o,(R.agg o).cells=o:=λ_=>rfl;have C:=bH (q:=a.1);refine aa ?_;refine aP λD p=> ?_;have G:d≠D:=by rintro rfl;simp[U.read,p]at k
 simp -dsimp -implicitDefEqProofs (disch:=first|omega|assumption|(simp only[aE,Nat.reduceAdd];try omega)) only[go_sem,simprocAttr,-List.reduceReplicate,z,C,k];have E:decide ((a.1.length:Int)=b)=decide (a.1.length=b):=by grind
 exact⟨c,U.ae U.a1 p,rfl,by rw[E]⟩
def Yc (a:Nat) (E:a<=1000000000000) (c:ay) (h:R) (F:bs c h) (b:U) (d:Nat) (k:b.read d=some [.v (.int .i64 (a:Int))]):
  AC Tryz.prog 286 [h,.ptr d 0] b λG L=>L=b/\G= .v (.bool (fo a c)):=by
 obtain⟨o,P,p,r,x,rfl⟩:=F;refine bf hm Rf a9q ?_;have y: ∀z,(R.agg z).cells=z:=λ_=>rfl;have C:=aX (N:=p) (e5:=r) (h5:=x) o;have T:=C.len;simp -dsimp -implicitDefEqProofs (disch:=first|omega|assumption|(simp only[aE,Nat.reduceAdd];try omega)) only[go_sem,simprocAttr,-List.reduceReplicate,y];refine aP λS D=> ?_;have V:d≠S:=by rintro rfl;simp[U.read,D]at k
 simp -dsimp -implicitDefEqProofs (disch:=first|omega|assumption|(simp only[aE,Nat.reduceAdd];try omega)) only[go_sem,simprocAttr,-List.reduceReplicate,y,k,C.t37];refine ai (xt c p r x a _ E o P) ?_;rintro _ _ ⟨rfl,rfl⟩;simp -dsimp -implicitDefEqProofs (disch:=first|omega|assumption|(simp only[aE,Nat.reduceAdd];try omega)) only[go_sem,simprocAttr,-List.reduceReplicate];exact⟨b,U.ae U.a1 D,rfl⟩
def Yd (a:ay) (c:R) (k:bs a c) (b:U):
  AC Tryz.prog 287 [c] b λo p=>p=b/\o= .v (.bool (decide (a.key.length=0))):=by
 obtain⟨r,G,x,y,z,rfl⟩:=k;refine bf hm Rh a9q ?_;have C: ∀d,(R.agg d).cells=d:=λ_=>rfl;have h:=aX (N:=x) (e5:=y) (h5:=z) r;have L:=h.len;have D:=bH (q:=a.key);refine aa ?_;refine aP λP E=> ?_;simp -dsimp -implicitDefEqProofs (disch:=first|omega|assumption|(simp only[aE,Nat.reduceAdd];try omega)) only[go_sem,simprocAttr,-List.reduceReplicate,C,h.d36,D];have F:decide ((a.key.length:Int)=0)=decide (a.key.length=0):=by simp
 exact⟨b,U.ae U.a1 E,rfl,by rw[F]⟩
def Ye (b:List Int×Bool) (c:R) (h:dh b c) (a:U):
  AC Tryz.prog 288 [c] a λk o=>o=a/\k= .v (.bool b.2):=by
 obtain⟨x,rfl⟩:=h;refine bf hm Rj a9q ?_;have p: ∀d,(R.agg d).cells=d:=λ_=>rfl;refine aa ?_;refine aP λy r=> ?_;simp -dsimp -implicitDefEqProofs (disch:=first|omega|assumption|(simp only[aE,Nat.reduceAdd];try omega)) only[go_sem,simprocAttr,-List.reduceReplicate,p];exact⟨a,U.ae U.a1 r,rfl⟩
def Yf (b:Nat) (a:ay) (r:R) (L:bs a r) (c:U) (h:Nat) (k:c.read h=some [.v (.int .i64 (b:Int))]):
  AC Tryz.prog 289 [r,.ptr h 0] c λP S=>S=c/\P= .v (.bool (decide (a.key.length=b)&& !decide (a=aA))):=by
 obtain⟨x,T,y,z,C,rfl⟩:=L;refine bf hm Rl a9q ?_;have D: ∀E,(R.agg E).cells=E:=λ_=>rfl;have d:=aX (N:=y) (e5:=z) (h5:=C) x;have W:=d.len;have F:=bH (q:=a.key);refine aa ?_;refine aP λV o=> ?_;have e:h≠V:=by rintro rfl;simp[U.read,o]at k
 by_cases G:(a.key.length:Int)=b
 .have p:a.key.length=b:=a9p;simp -dsimp -implicitDefEqProofs (disch:=first|omega|assumption|(simp only[aE,Nat.reduceAdd];try omega)) only[go_sem,simprocAttr,-List.reduceReplicate,D,k,d.t37,d.d36,F,G];refine ai (ng a y z C _ x T) ?_;rintro _ _ ⟨rfl,rfl⟩;simp -dsimp -implicitDefEqProofs (disch:=first|omega|assumption|(simp only[aE,Nat.reduceAdd];try omega)) only[go_sem,simprocAttr,-List.reduceReplicate];exact⟨c,U.ae U.a1 o,rfl,by simp[p]⟩
 .have p: ¬a.key.length=b:=a9p;simp -dsimp -implicitDefEqProofs (disch:=first|omega|assumption|(simp only[aE,Nat.reduceAdd];try omega)) only[go_sem,simprocAttr,-List.reduceReplicate,D,k,d.t37,d.d36,F,G];exact⟨c,U.ae U.a1 o,rfl,by simp[p]⟩
structure fB (a:U) (n:c4) (x y:R) (b c:List R):Prop where
 rows:az dh n.rows b
 kids:az bs n.kids c
 lQ:bS a 2 x b
 gW:bS a 37 y c
 kB:n.rows.length<=100000
 iB:n.kids.length<=100000
def fB.mono {b c:U}{d:c4}{h k:R}{o p:List R} (a:fB b d h k o p) (r:b.sub c):fB c d h k o p:=⟨a.rows,a.kids,a.lQ.mono r,a.gW.mono r,a.kB,a.iB⟩
def fB.ha (a:fB f e0 n b3 g A):ff n=some (.v (.int .i64 e0.rows.length)):=by rw[a.lQ.len,a.rows.len]
def fB.ui (a:fB f e0 b3 n g A):ff n=some (.v (.int .i64 e0.kids.length)):=by rw[a.gW.len,a.kids.len]
abbrev gP (a:c4) (b c:R):R:= .agg [.v (.int .u8 (a.kind.toNat:Int)),b,c]
theorem iF (b:UInt8) (a:Nat) (c:a<256):(decide ((b.toNat:Int)=(a:Int)))=decide (b=UInt8.ofNat a):=by grind[UInt8.ofNat,UInt8.toNat_inj,UInt8.toNat_ofNat']
theorem Da (a:c4) (m g:List R) (c G:R) (b:Nat) (k1:1<=b) (k2:b<=8) (L:U) (p:fB L a c G m g):
  AC Tryz.prog 209 [gP a c G,.v (.int .i64 (b:Int))] L λC d=>d=L/\C= .v (.bool (dW b a)):=by
 have D:=p.ha;have E:=p.ui;have k3:=p.kB;have k4:=p.iB;refine bf hm Pn a9q ?_;have k5: ∀w,(R.agg w).cells=w:=λ_=>rfl;refine aa ?_;refine aP λi O=> ?_;refine aa ?_;refine aP λh j=> ?_;have k:i≠h:=by rintro rfl;rw[U.ah]at j;cases j
 have o:=a4Q k;have Q:L h=none:=by rw[U.an _ _ o]at j;exact j
 have W:=U.ae (Y:= .cells [.v (.int .i64 (b:Int))]) (U.ae (Y:= .cells [.v (.int .u8 (a.kind.toNat:Int)),c,G]) (U.a1 (f:=L)) O) Q;have c2:((L.set i (.cells [.v (.int .u8 (a.kind.toNat:Int)),c,G])).set h (.cells [.v (.int .i64 (b:Int))])) i=some (.cells [.v (.int .u8 (a.kind.toNat:Int)),c,G]):=by rw[U.an _ _ k,U.ah]
 have aI:((L.set i (.cells [.v (.int .u8 (a.kind.toNat:Int)),c,G])).set h (.cells [.v (.int .i64 (b:Int))])) h=some (.cells [.v (.int .i64 (b:Int))]):=U.ah _ _ _;have r: ¬(b:Int)<1:=a9p;have x: ¬(8:Int)<(b:Int):=a9p;refine aa ?_;have X: ∀y:U,y h=some (.cells [.v (.int .i64 (b:Int))])->(gZ dh y 284 [] [.ptr h 0] λC=>decide (C.1.length=b))/\gZ bs y 286 [] [.ptr h 0] (fo b)/\(gZ bs y 287 [] [] λP=>decide (P.key.length=0))/\(gZ dh y 288 [] [] λC=>C.2)/\(gZ bs y 289 [] [.ptr h 0] λP=>decide (P.key.length=b)&& !decide (P=aA)):=by intro y aI;have n: ∀d,y.sub d->d.read h=some [.v (.int .i64 (b:Int))]:=λd S=>U.af (S _ _ aI);have q:gZ dh y 284 [] [.ptr h 0] λC=>decide (C.1.length=b):=⟨a9u,λc T d V S=>Yb b c T V d h (n d S)⟩;have s:gZ bs y 286 [] [.ptr h 0] (fo b):=⟨a9u,λc T d V S=>Yc b a9p c T V d h (n d S)⟩;have t:gZ bs y 287 [] [] λP=>decide (P.key.length=0):=⟨a9u,λc T d V S=>Yd c T V d⟩;have u:gZ dh y 288 [] [] λC=>C.2:=⟨a9u,λc T d V S=>Ye c T V d⟩;have v:gZ bs y 289 [] [.ptr h 0] λP=>decide (P.key.length=b)&& !decide (P=aA):=⟨a9u,λc T d V S=>Yf b c T V d h (n d S)⟩;exact⟨q,s,t,u,v⟩
 obtain⟨q,s,t,u,v⟩:=X _ aI;refine aa ?_;refine ai (D7 a.rows m c _ p.rows (p.lQ.mono W) a9p q) ?_;rintro _ _ ⟨rfl,rfl⟩;unfold dW;cases k6:a.rows.all (λC=>decide (C.1.length=b))with
 |false=>simp -dsimp -implicitDefEqProofs (disch:=first|omega|assumption|(simp only[aE,Nat.reduceAdd];try omega)) only[go_sem,simprocAttr,-List.reduceReplicate,r,x,U.af c2,U.af aI,U.an,k,o,a5w];exact⟨L,W,a9q⟩
 |true=>
 refine aa ?_;refine ai (xr a.kids g G _ p.kids (p.gW.mono W) a9p s) ?_;rintro _ _ ⟨rfl,rfl⟩;cases k7:a.kids.all (fo b)with
 |false=>simp -dsimp -implicitDefEqProofs (disch:=first|omega|assumption|(simp only[aE,Nat.reduceAdd];try omega)) only[go_sem,simprocAttr,-List.reduceReplicate,r,x,U.af c2,U.af aI,U.an,k,o,a5w];exact⟨L,W,a9q⟩
 |true=>
 have Y:=iF a.kind 1 a9p;have Z:=iF a.kind 2 a9p;have j9:=iF a.kind 3 a9p;simp only[Int.natCast_one,a7P]at Y Z j9;by_cases A:a.kind=1
 .have B:((a.kind.toNat:Int)=1)=True:=by rw[A];simp
  refine aa ?_;by_cases z:(a.rows.length:Int)=1
  .by_cases F:(a.kids.length:Int)=2
   .simp -dsimp -implicitDefEqProofs (disch:=first|omega|assumption|(simp only[aE,Nat.reduceAdd];try omega)) only[go_sem,simprocAttr,-List.reduceReplicate,r,x,U.af c2,U.af aI,U.an,k,o,a5F,z,F,D,E];refine ai (xr a.kids g G _ p.kids (p.gW.mono W) a9p t) ?_;rintro _ _ ⟨rfl,rfl⟩;simp -dsimp -implicitDefEqProofs (disch:=first|omega|assumption|(simp only[aE,Nat.reduceAdd];try omega)) only[go_sem,simprocAttr,-List.reduceReplicate];have e:a.rows.length=1:=a9p;have l:a.kids.length=2:=a9p;simp_all
   .have l: ¬a.kids.length=2:=a9p;simp -dsimp -implicitDefEqProofs (disch:=first|omega|assumption|(simp only[aE,Nat.reduceAdd];try omega)) only[go_sem,simprocAttr,-List.reduceReplicate,r,x,U.af c2,U.af aI,U.an,k,o,a5F,z,F,D,E];simp_all
  .have e: ¬a.rows.length=1:=a9p;simp -dsimp -implicitDefEqProofs (disch:=first|omega|assumption|(simp only[aE,Nat.reduceAdd];try omega)) only[go_sem,simprocAttr,-List.reduceReplicate,r,x,U.af c2,U.af aI,U.an,k,o,a5F,z,D,E];simp_all
 have B: ¬(a.kind.toNat:Int)=1:=λH=>A (by simp_all);by_cases I:a.kind=2
 .have K:((a.kind.toNat:Int)=2)=True:=by rw[I];simp
  refine aa ?_;by_cases z:(1:Int)<=a.rows.length
  .by_cases F:(a.rows.length:Int)<=4
   .by_cases f:(a.kids.length:Int)=0
    .simp -dsimp -implicitDefEqProofs (disch:=first|omega|assumption|(simp only[aE,Nat.reduceAdd];try omega)) only[go_sem,simprocAttr,-List.reduceReplicate,r,x,U.af c2,U.af aI,U.an,k,o,a5F,D,E,z,F,f];refine ai (D7 a.rows m c _ p.rows (p.lQ.mono W) a9p u) ?_;rintro _ _ ⟨rfl,rfl⟩;simp -dsimp -implicitDefEqProofs (disch:=first|omega|assumption|(simp only[aE,Nat.reduceAdd];try omega)) only[go_sem,simprocAttr,-List.reduceReplicate];have e:1<=a.rows.length:=a9p;have l:a.rows.length<=4:=a9p;simp_all
    .have k0: ¬a.kids.length=0:=a9p;simp -dsimp -implicitDefEqProofs (disch:=first|omega|assumption|(simp only[aE,Nat.reduceAdd];try omega)) only[go_sem,simprocAttr,-List.reduceReplicate,r,x,U.af c2,U.af aI,U.an,k,o,a5F,D,E,z,F,f];simp_all
   .have l: ¬a.rows.length<=4:=a9p;simp -dsimp -implicitDefEqProofs (disch:=first|omega|assumption|(simp only[aE,Nat.reduceAdd];try omega)) only[go_sem,simprocAttr,-List.reduceReplicate,r,x,U.af c2,U.af aI,U.an,k,o,a5F,D,E,z,F];grind
  .have e: ¬1<=a.rows.length:=a9p;simp -dsimp -implicitDefEqProofs (disch:=first|omega|assumption|(simp only[aE,Nat.reduceAdd];try omega)) only[go_sem,simprocAttr,-List.reduceReplicate,r,x,U.af c2,U.af aI,U.an,k,o,a5F,D,E,z];simp_all
 have K: ¬(a.kind.toNat:Int)=2:=λH=>I (by simp_all);by_cases M:a.kind=3
 .have N:((a.kind.toNat:Int)=3)=True:=by rw[M];simp
  refine aa ?_;by_cases z:(a.rows.length:Int)=0
  .by_cases F:(2:Int)<=a.kids.length
   .by_cases f:(a.kids.length:Int)<=4
    .simp -dsimp -implicitDefEqProofs (disch:=first|omega|assumption|(simp only[aE,Nat.reduceAdd];try omega)) only[go_sem,simprocAttr,-List.reduceReplicate,r,x,U.af c2,U.af aI,U.an,k,o,a5F,D,E,z,F,f];refine ai (xr a.kids g G _ p.kids (p.gW.mono W) a9p v) ?_;rintro _ _ ⟨rfl,rfl⟩;simp -dsimp -implicitDefEqProofs (disch:=first|omega|assumption|(simp only[aE,Nat.reduceAdd];try omega)) only[go_sem,simprocAttr,-List.reduceReplicate];have e:a.rows.length=0:=a9p;grind
    .have k0: ¬a.kids.length<=4:=a9p;simp -dsimp -implicitDefEqProofs (disch:=first|omega|assumption|(simp only[aE,Nat.reduceAdd];try omega)) only[go_sem,simprocAttr,-List.reduceReplicate,r,x,U.af c2,U.af aI,U.an,k,o,a5F,D,E,z,F,f];grind
   .have l: ¬2<=a.kids.length:=a9p;simp -dsimp -implicitDefEqProofs (disch:=first|omega|assumption|(simp only[aE,Nat.reduceAdd];try omega)) only[go_sem,simprocAttr,-List.reduceReplicate,r,x,U.af c2,U.af aI,U.an,k,o,a5F,D,E,z,F];grind
  .have e: ¬a.rows.length=0:=a9p;simp -dsimp -implicitDefEqProofs (disch:=first|omega|assumption|(simp only[aE,Nat.reduceAdd];try omega)) only[go_sem,simprocAttr,-List.reduceReplicate,r,x,U.af c2,U.af aI,U.an,k,o,a5F,D,E,z];simp_all
 have N: ¬(a.kind.toNat:Int)=3:=λH=>M (by simp_all);simp -dsimp -implicitDefEqProofs (disch:=first|omega|assumption|(simp only[aE,Nat.reduceAdd];try omega)) only[go_sem,simprocAttr,-List.reduceReplicate,r,x,U.af c2,U.af aI,U.an,k,o,a5F,B,K,N];simp_all
def qK {b k:Type}{c:b->List k}{d:Nat}: ∀ {l:List b},(∀a∈l,(c a).length<=d)->(l.flatMap c).length<=l.length*d
 | [],_=>by simp
 |a::l,h=>by
  have r:=h a a9q;have x:=qK (l:=l) λo p=>h o (by simp[p]);rw[a5l,a4J,a4M,a5J];omega
structure ay.hv (k:ay):Prop where
 aV:k.aV.length<=8
 aW:k.aW.length<=8
 key:k.key.length<=8
 nc:0<=k.live
 live:k.live<=1048576
 nd:0<=k.size
 size:k.size<=1048576
theorem lo (a:cT q b6 e=true):q.length=e/\b6.length=e/\1<=e/\e<=8:=by simp_all [cT,a4K,decide_eq_true_eq]
theorem qL (a:fo e w=true):w.aV.length<=8/\w.aW.length<=8/\0<=w.live/\w.live<=1048576/\0<=w.size/\w.size<=1048576:=by
 unfold fo at a;rw[a6s]at a;rcases a with a|a
 .have:w=aA:=of_decide_eq_true a;subst this;simp[aA]
 .simp only[a4K,a6l,a8i,decide_eq_false_iff_not]at a;obtain⟨c,b⟩:=a;have:w.aV.length<=8/\w.aW.length<=8:=by
   split at b;simp_all
   .have:=lo b;omega
  omega
theorem uj (o:e<=8) (a:dW e e0=true): ∀b∈e0.kids,b.hv:=by intro b c;unfold dW at a;simp only[a4K,a4W]at a;obtain⟨⟨_,d⟩,p⟩:=a;obtain⟨h,k,a3,a4,a5,dw⟩:=qL (d b c);refine⟨h,k,?_,a3,a4,a5,dw⟩;grind
def xu {a:List Int×Bool} (b:a.1.length<=8):(gq a).length<=100:=by simp[gq,xi];omega
def sz (b:w.sum.length=32) (a:w.hv):(eh w).length<=300:=by have c:=a.aV;have d:=a.aW;have h:=a.key;simp[eh,xi,kA,b];omega
theorem xv (a:c4) (k9 l0:List R) (z C:R) (D:Nat) (a05:1<=D) (l1:D<=8) (l:U) (E:fB l a z C k9 l0):
  AC Tryz.prog 210 [gP a z C,.v (.int .i64 (D:Int))] l λd p=>l.sub p/\match sr D a with
   |none=>d= .aL [.J [] .nil,.v (.int .i64 1)]
   |some F=> ∃a06,d= .aL [.J (F.map ak) a06,.v (.int .i64 0)]:=by
 have l2:=E.ha;have l3:=E.ui;have a88:=E.kB;have a89:=E.iB;refine bf hm Pp a9q ?_;have K: ∀k0,(R.agg k0).cells=k0:=λ_=>rfl;have a90: ∀y F S,aY true 3 [y,F,S]= .agg [y,F,S]:=λ_ _ _=>rfl;have a07: ∀y F S:R,List.take 3 [y,F,S]= [y,F,S]:=λ_ _ _=>rfl;refine ax @K ?_;refine aP λm a08=> ?_;have t:=U.ae (Y:= .cells [.v (.int .u8 (a.kind.toNat:Int)),z,C]) (U.a1 (f:=l)) a08;have c2:(l.set m (.cells [.v (.int .u8 (a.kind.toNat:Int)),z,C])) m=some (.cells [.v (.int .u8 (a.kind.toNat:Int)),z,C]):=U.ah _ _ _;simp -dsimp -implicitDefEqProofs (disch:=first|omega|assumption|(simp only[aE,Nat.reduceAdd];try omega)) only[go_sem,simprocAttr,-List.reduceReplicate,K,a07];refine ai (Da a k9 l0 z C D a05 l1 _ (E.mono t)) ?_;rintro _ _ ⟨rfl,rfl⟩;unfold sr;cases l4:dW D a with
 |false=>refine ax @a5w ?_;exact⟨_,U.a1,t⟩
 |true=>
 obtain⟨a09,a92,a94⟩:=ll l4;have l5:=uj l1 l4;refine ax @a5F ?_;refine aP λc a10=> ?_;have l6:m≠c:=by grind
 obtain⟨o,k1⟩: ∃o:U,o=l.set m (.cells [.v (.int .u8 (a.kind.toNat:Int)),z,C]):=⟨_,rfl⟩;rw[<-k1]at t c2;have l7:o c=none:=by rw[k1];exact a10
 have a11:cD o c [] (o.set c (.cells [.J [] .nil,.v (.int .i64 0)])):=⟨.nil,bh.nil U.a1⟩;have l8:=E.mono t;have a13:=l8.lQ;have a14:=l8.gW;have M: ∀aR p,cD o c aR p->p m=some (.cells [.v (.int .u8 (a.kind.toNat:Int)),z,C]):=λaR p u=>u.get l6 c2;have l9: ∀aR p,cD o c aR p->o.sub p:=λaR p u=>u.sub l7;have a15:db a=([a.kind]++ [UInt8.ofNat a.rows.length]++a.rows.flatMap gq++ [UInt8.ofNat a.kids.length])++a.kids.flatMap eh:=by simp[db]
 have n0: ∀b,((a.rows.take b).flatMap gq).length<=400:=λb=>by
  have:=qK (l:=a.rows.take b) (d:=100) λd a95=>xu (a:=d) (by grind);grind
 rw[<-k1];simp -dsimp -implicitDefEqProofs (disch:=first|omega|assumption|(simp only[aE,Nat.reduceAdd];try omega)) only[go_sem,simprocAttr,-List.reduceReplicate,U.af c2,l6];refine ai (mX o _ c [] a.kind a11 a9q) ?_;intro _ a16 n1;simp -dsimp -implicitDefEqProofs (disch:=first|omega|assumption|(simp only[aE,Nat.reduceAdd];try omega)) only[go_sem,simprocAttr,-List.reduceReplicate,U.af (M _ _ n1),l2,ix];refine ai (mX o a16 c _ (UInt8.ofNat a.rows.length) n1 a9q) ?_;intro _ a96 n2;simp -dsimp -implicitDefEqProofs (disch:=first|omega|assumption|(simp only[aE,Nat.reduceAdd];try omega)) only[go_sem,simprocAttr,-List.reduceReplicate,U.af (M _ _ n2),l2];refine cu (λr p=> ∃b:Nat,b<=a.rows.length/\cD o c ([a.kind]++ [UInt8.ofNat a.rows.length]++(a.rows.take b).flatMap gq) p/\r 2= .ptr m 0/\r 6= .ptr c 0/\r 28=z/\r 29= .v (.int .i64 a.rows.length)/\r 30= .v (.int .i64 b))
  (λr _=>match r 30 with| .v (.int _ k2)=>a.rows.length - k2.toNat| _=>0) ⟨0,a9p,by simpa using n2,?_⟩ ?_
 .exact nY
 rintro r v ⟨b,a18,x,T,k,n,q,s⟩;by_cases w:(b:Int)<a.rows.length
 .have e:a.rows[b]? =some a.rows[b]:=a4H a9p;have N:a.rows.take (b+1)=a.rows.take b++ [a.rows[b]]:=by rw[a5W,e];rfl
  have a19:=a09 _ (a5m (l:=a.rows) (n:=b) a9p);generalize a.rows[b]'a9p=d at e N a19;obtain⟨y,k3,f,rfl⟩:=E.rows.get e;obtain⟨a27,k4,O⟩:=a13.get b _ k3;have A:=O.ld v (l9 _ _ x) true 2 a9p (by simp[R.cells]);have n3:=n0 b;have a29:aY true 2 (R.agg [.J (ad d.1) f,.v (.bool d.2)]).cells= .agg [.J (ad d.1) f,.v (.bool d.2)]:=rfl;rw[a29]at A;refine ax (bu @T @k @n @q @s @w @k4 @A) ?_;refine aP λn4 a30=> ?_;have a34: ∀y F S D:R,putAt [y,F] 0 [S,D]= [S,D]:=λ_ _ _ _=>rfl;obtain⟨a36,a38,Q⟩:=x.new (ob:= .cells [.J (ad d.1) f,.v (.bool d.2)]) a30;have a42:(o.set n4 (.cells [.J (ad d.1) f,.v (.bool d.2)])) n4=some (.cells [.J (ad d.1) f,.v (.bool d.2)]):=U.ah _ _ _;refine ax (bu @T @k @n @q @s @K @a34 @U.set_set) ?_;refine ai (XM _ _ c _ d.2 Q (by grind)) ?_;intro _ a43 B;refine ax (bC @T @k @n @q @s (U.af (B.get a36 a42))) ?_;refine ai (so _ _ c _ d.1 f a9p B (by grind)) ?_;intro _ a47 X;refine ax (bo @T @k @n @q @s) ?_;refine⟨⟨b+1,a9p,?_,a9q⟩,a9p⟩;have H:=X.base (U.ae (Y:= .cells [.J (ad d.1) f,.v (.bool d.2)]) (U.a1 (f:=o)) a38);rw[N,a5D];simpa[gq] using H
 .obtain rfl:b=a.rows.length:=a9p;rw[a5f]at x;have n3:=n0 a.rows.length;rw[a5f]at n3;simp -dsimp -implicitDefEqProofs (disch:=first|omega|assumption|(simp only[aE,Nat.reduceAdd];try omega)) only[go_sem,simprocAttr,-List.reduceReplicate,T,k,n,q,s,w,U.af (M _ _ x),l3,ix];refine ai (mX o v c _ (UInt8.ofNat a.kids.length) x (by grind)) ?_;intro _ a97 n5;have a98:([a.kind]++ [UInt8.ofNat a.rows.length]++a.rows.flatMap gq++ [UInt8.ofNat a.kids.length]).length<=500:=by grind
  generalize [a.kind]++ [UInt8.ofNat a.rows.length]++a.rows.flatMap gq++ [UInt8.ofNat a.kids.length]=k5 at*;have n9: ∀b,((a.kids.take b).flatMap eh).length<=1200:=λb=>by
   have:=qK (l:=a.kids.take b) (d:=300) λh a48=>by
    have hm:=a4Z a48;obtain⟨a99,a52,rfl⟩:=a5y hm;obtain⟨y,_,Y,_⟩:=E.kids.get (a4H a52);exact sz Y (l5 _ hm)
   grind
  simp -dsimp -implicitDefEqProofs (disch:=first|omega|assumption|(simp only[aE,Nat.reduceAdd];try omega)) only[go_sem,simprocAttr,-List.reduceReplicate,T,k,U.af (M _ _ n5),l3];refine cu (λr p=> ∃b:Nat,b<=a.kids.length/\cD o c (k5++(a.kids.take b).flatMap eh) p/\r 6= .ptr c 0/\r 50=C/\r 51= .v (.int .i64 a.kids.length)/\r 52= .v (.int .i64 b))
   (λr _=>match r 52 with| .v (.int _ k2)=>a.kids.length - k2.toNat| _=>0) ⟨0,a9p,by simpa using n5,?_⟩ ?_
  .simp -dsimp -implicitDefEqProofs (disch:=first|omega|assumption|(simp only[aE,Nat.reduceAdd];try omega)) only[go_sem,simprocAttr,-List.reduceReplicate,T,k]
  clear T k n q s;rintro r v ⟨b,a18,x,k,G,L,P⟩;by_cases w:(b:Int)<a.kids.length
  .have e:a.kids[b]? =some a.kids[b]:=a4H a9p;have N:a.kids.take (b+1)=a.kids.take b++ [a.kids[b]]:=by rw[a5W,e];rfl
   have V:=l5 _ (a5m (l:=a.kids) (n:=b) a9p);generalize a.kids[b]'a9p=h at e N V;obtain⟨y,k3,Y,_,g,i,j,rfl⟩:=E.kids.get e;obtain⟨a27,k4,O⟩:=a14.get b _ k3;have Z:=aX (N:=g) (e5:=i) (h5:=j) Y;have a56:(R.agg (ab h g i j)).cells=ab h g i j:=rfl;rw[a56]at O;have A:=O.ld v (l9 _ _ x) true 37 a9p (by rw[Z.len];omega);rw[show aY true 37 (ab h g i j)= .agg (ab h g i j) by rw[aY,if_pos rfl,Z.t37]]at A;have k6:=Z.len;generalize ab h g i j=W at*;obtain⟨b00,b01,a3,a4,a5,dw,a57,a61⟩:=Z;have b02:=n9 b;refine ax (cc @k @G @L @P @w @k4 @A) ?_;refine aP λj9 a62=> ?_;obtain⟨a63,a65,Q⟩:=x.new (ob:= .cells W) a62;have a68:(o.set j9 (.cells W)) j9=some (.cells W):=U.ah _ _ _;have b03:=k6;have b04:=V.nc;have cq:=V.nd;have b05:=V.live;have b06:=V.size;have b07:=V.aV;have b08:=V.aW;have b09:=V.key;have a69: ∀k7:List R,k7.length=37->putAt k7 0 W=W:=λk7 a71=>by rw[putAt];simp[a71,k6]
   refine ax (ct @k @G @L @P @K @a69 @k6 @U.set_set @a4J.{0} @a6H.{0}) ?_;have a73:h.live=(h.live.toNat:Int):=a9p;have a74:h.size=(h.size.toNat:Int):=a9p;have I: ∀aR p,cD (o.set j9 (.cells W)) c aR p->p j9=some (.cells W):=λaR p u=>u.get a63 a68;rw[a3];have k8:(k5++(a.kids.take b).flatMap eh).length<=1700:=by grind
   obtain⟨b10,a81⟩: ∃a83,a83=k5++(a.kids.take b).flatMap eh:=⟨_,rfl⟩;rw[<-a81]at Q k8;refine ai (CH _ _ c _ h.sum Y Q a9p) ?_;intro _ a43 B;simp -dsimp -implicitDefEqProofs (disch:=first|omega|assumption|(simp only[aE,Nat.reduceAdd];try omega)) only[go_sem,simprocAttr,-List.reduceReplicate,k,G,L,P,U.af (I _ _ B),dw];rw[a73];refine ai (sn _ _ c _ h.live.toNat a9p B (by grind)) ?_;intro _ a47 X;simp -dsimp -implicitDefEqProofs (disch:=first|omega|assumption|(simp only[aE,Nat.reduceAdd];try omega)) only[go_sem,simprocAttr,-List.reduceReplicate,k,G,L,P,U.af (I _ _ X),a57];rw[a74];have cl:=kA h.live.toNat;have k0:=kA h.size.toNat;refine ai (sn _ _ c _ h.size.toNat a9p X (by grind)) ?_;intro _ b11 H;simp -dsimp -implicitDefEqProofs (disch:=first|omega|assumption|(simp only[aE,Nat.reduceAdd];try omega)) only[go_sem,simprocAttr,-List.reduceReplicate,k,G,L,P,U.af (I _ _ H),a4];have a00:=λd=>xi (a:=d);have b12:=a00 h.aV;have b13:=a00 h.aW;refine ai (so _ _ c _ h.aV g a9p H (by grind)) ?_;intro _ b14 a01;simp -dsimp -implicitDefEqProofs (disch:=first|omega|assumption|(simp only[aE,Nat.reduceAdd];try omega)) only[go_sem,simprocAttr,-List.reduceReplicate,k,G,L,P,U.af (I _ _ a01),a5];refine ai (so _ _ c _ h.aW i a9p a01 (by grind)) ?_;intro _ b15 a02;simp -dsimp -implicitDefEqProofs (disch:=first|omega|assumption|(simp only[aE,Nat.reduceAdd];try omega)) only[go_sem,simprocAttr,-List.reduceReplicate,k,G,L,P,U.af (I _ _ a02),a61];refine ai (so _ _ c _ h.key j a9p a02 (by grind)) ?_;intro _ b16 a84;refine ax (aM @k @G @L @P) ?_;refine⟨⟨b+1,a9p,?_,a9q⟩,a9p⟩;have H:=a84.base (U.ae (Y:= .cells W) (U.a1 (f:=o)) a65);grind[List.append_assoc,eh]
  .obtain rfl:b=a.kids.length:=a9p;rw[a5f]at x;have k8:=n9 a.kids.length;rw[a5f]at k8;refine ax (bo @k @G @L @P @w) ?_;refine ai (CG _ v c _ x (by grind)) ?_;rintro _ a03 ⟨a86,a04,rfl⟩;refine ax @k ?_;refine ai (CT _ a03 c _ (x.mono a04.sub)) ?_;rintro _ a03 ⟨rfl,rfl⟩;refine cn ?_;refine⟨_,U.a1,U.aq t (U.aq (x.sub l7) a04.sub),a86,?_⟩;rw[a15]
end Go.Proofs.YtlgnfcaolejgeaaGreat
set_option maxHeartbeats 1000000
namespace Go.Proofs.YtlgnfcaolejgeaaGreat
open Go Go.bA
theorem cr:(List.replicate 32 (R.v (.int .u8 0))++ [R.J [] .nil,.J [] .nil]++ [R.v (.int .i64 0),.v (.int .i64 0)]++ [R.J [] .nil])=ab aA .nil .nil .nil:=by rw[show List.replicate 32 (R.v (.int .u8 0))=(List.replicate 32 (0:UInt8)).map ak by rw[List.map_replicate];rfl];simp only[a4U];rfl
variable{w j2:ay}{B:List UInt8}{N e5 h5:Own}
theorem uk (a:w.sum.length=32) (b:B.length=32):putAt (ab w N e5 h5) 0 (B.map ak)=ab {w with sum:=B} N e5 h5:=by grind[ak,ab,putAt,List.length_map,List.drop_append,List.drop_eq_nil_of_le]
variable{n b3:R}{g A e1:List R}
theorem um {b c d:R} (r:g.length=32):(∀a x,putAt (g++ [n,b3,b,c,d]) 32 [a,x]=g++ [a,x,b,c,d])/\(∀a,putAt (g++ [n,b3,b,c,d]) 34 [a]=g++ [n,b3,a,c,d])/\
  (∀a,putAt (g++ [n,b3,b,c,d]) 35 [a]=g++ [n,b3,b,a,d])/\ ∀a,putAt (g++ [n,b3,b,c,d]) 36 [a]=g++ [n,b3,b,c,a]:=by
 have o: ∀h (k:List R),(g++k).take (32+h)=g++k.take h:=λh k=>by rw[<-r,a7C]
 have p: ∀h (k:List R),(g++k).drop (32+h)=k.drop h:=λh k=>by rw[<-r,a7D]
 have y:=o 0;have z:=o 2;have C:=o 3;have D:=o 4;have E:=p 2;have F:=p 3;have G:=p 4;simp_all [a6x,Nat.reduceAdd,putAt,a4M,a4R,a5e]
variable{b1:Int}
theorem sA (a:w.sum.length=32):putAt (ab w N e5 h5) 34 [.v (.int .i64 b1)]=ab {w with live:=b1} N e5 h5:=(um (by simp[a])).2.1 _
theorem sB (a:w.sum.length=32):putAt (ab w N e5 h5) 35 [.v (.int .i64 b1)]=ab {w with size:=b1} N e5 h5:=(um (by simp[a])).2.2.1 _
variable{q b6:List Int}
theorem sC {a:Own} (b:w.sum.length=32):putAt (ab w N e5 a) 36 [.J (ad q) h5]=ab {w with key:=q} N e5 h5:=(um (by simp[b])).2.2.2 _
theorem xw {a b:Own} (c:w.sum.length=32):putAt (ab w a b N) 32 [.J (ad q) e5,.J (ad b6) h5]=ab {w with aV:=q,aW:=b6} e5 h5 N:=(um (by simp[c])).1 _ _
theorem cF {a b c:Own} (d:j2.sum.length=32) (h:w.sum.length=32):putAt (ab j2 a b c) 0 (ab w N e5 h5)=ab w N e5 h5:=by have o:=(aX (N:=a) (e5:=b) (h5:=c) d).len;have k:=(aX (N:=N) (e5:=e5) (h5:=h5) h).len;rw[putAt,a6q,a5b,k,a5v a9p,a5R]
theorem bk:aA.sum.length=32:=by simp[aA]
theorem sD:(gr q).1.length<=8/\(gr q).2.length<=8:=by grind[gr]
variable{e i v M c0 j0:Nat}{e0:c4}
theorem xx (b:e<=8) (c:dW e e0=true) (k: ∀a∈e0.kids,a.sum.length=32):(db e0).length<=2000:=by obtain⟨o,p,r⟩:=ll c;have x:=uj b c;have z:=qK (l:=e0.rows) (d:=100) λd y=>xu (a:=d) (by rw[o d y];exact b);have C:=qK (l:=e0.kids) (d:=300) λa h=>sz (k a h) (x a h);have a3:e0.rows.length*100<=4*100:=a4Y _ p;have a4:e0.kids.length*300<=4*300:=a4Y _ r;unfold db;grind
theorem az.all (b:az bs e0.kids g): ∀a∈e0.kids,a.sum.length=32/\a.cE:=by intro a c;obtain⟨o,d,rfl⟩:=a5y c;obtain⟨p,_,h,k,_⟩:=b.get (a4H d);exact⟨h,k⟩
abbrev fL (b:List UInt8) (a:gf):ay:=⟨b,a.aQ.1,a.aQ.2,a.live,a.size,[]⟩
theorem Yg (z:B.length=32): ∃p:List Int->List Int->Int->Int->List Int->Own->Own->Own->List R,(∀(x:ay) a b c,x.sum=B->ab x a b c=p x.aV x.aW x.live x.size x.key a b c)/\putAt (ab aA .nil .nil .nil) 0 (B.map ak)=p [] [] 0 0 [] .nil .nil .nil/\
  ∀d h k cq o a b c,(p d h k cq o a b c).length=37/\(p d h k cq o a b c).take 37=p d h k cq o a b c/\((p d h k cq o a b c).drop 32).take 2= [.J (ad d) a,.J (ad h) b]/\aY false 1 ((p d h k cq o a b c).drop 34)= .v (.int .i64 k)/\aY false 1 ((p d h k cq o a b c).drop 35)= .v (.int .i64 cq)/\putAt (ab aA .nil .nil .nil) 0 (p d h k cq o a b c)=p d h k cq o a b c/\
   (∀r,putAt (p d h k cq o a b c) 34 [.v (.int .i64 r)]=p d h r cq o a b c)/\(∀r,putAt (p d h k cq o a b c) 35 [.v (.int .i64 r)]=p d h k r o a b c)/\(∀r y,putAt (p d h k cq o a b c) 36 [.J (ad r) y]=p d h k cq r a b y)/\ ∀r C y D,putAt (p d h k cq o a b c) 32 [.J (ad r) y,.J (ad C) D]=p r C k cq o y D c:=by
 refine⟨λd h k cq o a b c=>ab ⟨B,d,h,k,cq,o⟩ a b c,λx _ _ _ E=>by subst E;rfl,uk bk z,λd h k cq o a b c=> ?_⟩;have F:=(aX (w:=⟨B,d,h,k,cq,o⟩) (N:=a) (e5:=b) (h5:=c) z).all;grind[cF,bk,sA,sB,sC,xw]
theorem Db (b:c4) (n9 a00:List R) (X Y:R) (w:Nat) (a34:1<=w) (l3:w<=8) (O:U) (x:fB O b X Y n9 a00):
  AC Tryz.prog 138 [gP b X Y,.v (.int .i64 (w:Int))] O λc F=>O.sub F/\match fJ w b with
   |none=>c= .aL [.agg (ab aA .nil .nil .nil),.v (.int .i64 1)]
   |some d=> ∃k o l4,c= .aL [.agg (ab d k o l4),.v (.int .i64 0)]:=by
 have a84:=x.ha;have a86:=x.ui;have a88:=x.kB;have a89:=x.iB;have a01:=og (db b);obtain⟨k5,a90,a92,a36⟩:=Yg a01;have A:=λa38 k6 Z cq a42 k o l4=>(a36 a38 k6 Z cq a42 k o l4).1;have a94:(cL (eU (db b))).cells=(eU (db b)).map ak:=rfl;have a95:((eU (db b)).map ak).length=32:=by simp[a01]
 have a96:=cr;have a97:=(aX (N:= .nil) (e5:= .nil) (h5:= .nil) bk).all;have a02:=λd (y z E:Own) B=>cF (a:= .nil) (b:= .nil) (c:= .nil) (w:=d) (N:=y) (e5:=z) (h5:=E) bk B;have a98:=a02 aA .nil .nil .nil bk;generalize a99:ab aA .nil .nil .nil=l5 at*;obtain⟨a03,L⟩: ∃a03,fJ w b=a03:=⟨_,rfl⟩;rw[L];unfold fJ eV at L;have a43:= @U.set_set;have b00:= @rS;refine aO hm Nd ?_;refine bq λa04 a47=> ?_;refine da λj9 a48 _ _=> ?_;generalize C:(O.set a04 _).set j9 _=l6;have a05:O.sub l6:=by subst C;exact aU
 have c2:l6 a04=some (.cells [.v (.int .u8 (b.kind.toNat:Int)),X,Y]):=by subst C;exact aU
 have aM:l6 j9=some (.cells l5):=by subst C;exact aU
 clear C a47;refine cl (xv b n9 a00 X Y w a34 l3 _ (x.mono a05)) ?_;rintro c k0 ⟨l7,k1⟩;replace c2:=l7 _ _ c2;replace aM:=l7 _ _ aM;have H:=U.aq a05 l7;have k2:=U.af c2;have l8:=U.aJ aM;have b01: ∀F i,k0.sub F->O.sub (F.set j9 i):=λF i B=>U.ae (U.aq H B) a48;unfold sr at k1;cases S:dW w b with
 |false=>rw[S]at k1 L;rw[if_neg a9q]at L;obtain rfl:=k1;subst L;exact aU
 |true=>
  rw[S]at k1 L;rw[if_pos rfl]at L;obtain⟨a52,rfl⟩:=k1;obtain⟨a06,b02,b03⟩:=ll S;have a07:=uj l3 S;have a56:=x.kids.all;have b04:=xx l3 S λd a57=>(a56 d a57).1;obtain⟨h,j⟩: ∃h:Nat->gf,h=λa=>(b.rows.take a).foldl dP ⟨0,b.rows.length,([],[])⟩:=⟨_,rfl⟩;obtain⟨T,I⟩: ∃T:Nat->gf,T=λa=>(b.kids.take a).foldl ev (h b.rows.length):=⟨_,rfl⟩;have a08:h 0=⟨0,b.rows.length,([],[])⟩:=by subst j;rfl
  have a09:T 0=h b.rows.length:=by subst I;rfl
  have a61: ∀a c,b.rows[a]? =some c->h (a+1)=dP (h a) c:=λa c B=>by subst j;simp[a5W,B]
  have a10: ∀a d,b.kids[a]? =some d->T (a+1)=ev (T a) d:=λa d B=>by subst I;simp[a5W,B]
  have a11:eF b=T b.kids.length:=by subst I;subst j;simp[eF]
  rw[a11]at L;clear j I a11;refine aa ?_;refine lX (D3 (db b) a52 _ a9p) ?_;refine bq λl Q=> ?_;have b05:=U.gY Q c2;have b06:=U.gY Q aM;refine aa ?_;refine ch [2,4,8,30,31] (λa:Nat=> [(32,.v (.int .i64 (a:Int)))]) (λa F=>a<=b.rows.length/\k0.sub F/\(0<=(h a).live/\(h a).live<=a/\(h a).size=b.rows.length/\(h a).aQ.1.length<=8/\(h a).aQ.2.length<=8)/\ ∃k o,F l=some (.cells (k5 (h a).aQ.1 (h a).aQ.2 (h a).live b.rows.length [] k o .nil))) (λa=>b.rows.length - a) 0 ⟨⟨a9p,U.ae (U.ae U.a1 Q) Q,by simp[a08],.nil,.nil,by rw[a08];exact U.ah _ _ _⟩,aU⟩ ?_;rintro a D ⟨k6,p,⟨a13,a14,l9,k7,k8⟩,k,o,bu⟩ a62;have a15:=A (h a).aQ.1 (h a).aQ.2 (h a).live b.rows.length [] k o .nil;have k9:=A (h a).aQ.1 (h a).aQ.2 ((h a).live+1) b.rows.length [] k o .nil;have m:=U.af bu;have V:=U.aJ bu;have k2:=rd p c2;refine aa ?_;refine aH (λP=> ?_) λP=> ?_
  .have K:=a4H (show a<b.rows.length by omega);have j:=a61 a _ K;have n0:=a06 _ (a5m (l:=b.rows) (n:=a) a9p);generalize b.rows[a]'a9p=c at K j n0;obtain⟨_,M,n,rfl⟩:=x.rows.get K;obtain⟨q,W,G⟩:=(x.lQ.mono (U.aq H p)).get a _ M;have e:dq true 2 D q=some (.agg [.J (ad c.1) n,.v (.bool c.2)]):=G.ld D U.a1 true 2 a9p (by simp[R.cells]);obtain⟨c,Z⟩:=c;refine aa ?_;refine bq λn1 a16=> ?_;have a63:=U.gY a16 bu;obtain⟨r,s⟩: ∃r,D.set n1 (.cells [.J (ad c) n,.v (.bool Z)])=r:=⟨_,rfl⟩;have f:D.sub r:=by rw[<-s];exact U.ae U.a1 a16
   have ct:r n1=some (.cells [.J (ad c) n,.v (.bool Z)]):=by rw[<-s,U.ah]
   rw[a43,s];have m:=rd f bu;have V:=U.aJ (f _ _ bu);have a65:=U.af ct;clear s e W G k2;refine aH (λP=> ?_) λP=> ?_<;>subst P
   .generalize C:r.set l _=t;have bu:t l=some (.cells (k5 (h a).aQ.1 (h a).aQ.2 ((h a).live+1) b.rows.length [] k o .nil)):=by subst C;exact U.ah _ _ _
    have ct:t n1=some (.cells [.J (ad c) n,.v (.bool true)]):=by subst C;rw[U.an _ _ a63.symm];exact ct
    have n2:k0.sub t:=by subst C;exact U.ae (U.aq p f) Q
    clear C;refine cl (Y4 t c n (by dsimp only at n0;omega)) ?_;rintro _ a68 ⟨l0,y,z,rfl⟩;have m:=rd l0 bu;have a65:=rd l0 ct;have a18:=sD (q:=c);refine cl (D5 a68 (h a).aQ.1 (h a).aQ.2 (gr c).1 (gr c).2 k o y z a9p a9p a9p a9p) ?_;rintro _ a69 ⟨k3,rfl⟩;have V:=U.aJ (k3 _ _ (l0 _ _ bu));have n3:=oo (h a).aQ (gr c) 8 k7 k8 a18.1 a18.2;refine aa ?_;refine⟨a+1,⟨a9p,U.aq n2 (U.aq l0 k3),?_,.any,.any,?_⟩,rfl,a9p⟩<;>rw[j,dP,if_pos rfl];grind
   .refine⟨a+1,⟨a9p,U.aq p f,?_,k,o,?_⟩,rfl,a9p⟩<;>rw[j,dP,if_neg a9q];omega
    .exact f _ _ bu
  obtain rfl:a=b.rows.length:=a9p;refine ch [2,4,8,51,52] (λa:Nat=> [(53,.v (.int .i64 (a:Int)))]) (λa F=>a<=b.kids.length/\k0.sub F/\(0<=(T a).live/\(T a).live<=4+a*1048576/\0<=(T a).size/\(T a).size<=4+a*1048576/\(T a).aQ.1.length<=8/\(T a).aQ.2.length<=8)/\ ∃k o,F l=some (.cells (k5 (T a).aQ.1 (T a).aQ.2 (T a).live (T a).size [] k o .nil))) (λa=>b.kids.length - a) 0 ⟨⟨a9p,p,by grind,k,o,by rw[a09,l9];exact bu⟩,aU⟩ ?_;clear a15 k9 bu m V k2 p P a13 a14 l9 k7 k8 k6;rintro a D ⟨k6,p,⟨a13,a14,l9,b07,k7,k8⟩,k,o,bu⟩ a62;have a15:=A (T a).aQ.1 (T a).aQ.2 (T a).live (T a).size [] k o .nil;have m:=U.af bu;have V:=U.aJ bu;have k2:=rd p c2;have l8:=U.aJ (p _ _ aM);refine aa ?_;refine aH (λP=> ?_) λP=> ?_
  .have K:=a4H (show a<b.kids.length by omega);have I:=a10 a _ K;have u:=a07 _ (a5m (l:=b.kids) (n:=a) a9p);generalize b.kids[a]'a9p=d at K I u;obtain⟨_,M,l1,a71,y,z,E,rfl⟩:=x.kids.get K;obtain⟨q,W,G⟩:=(x.gW.mono (U.aq H p)).get a _ M;have N:=aX (N:=y) (e5:=z) (h5:=E) l1;change nf D q (ab d y z E)at G;have e:=G.ld D U.a1 true 37 a9p (by rw[N.len];omega);rw[show aY true 37 (ab d y z E)= .agg (ab d y z E) by rw[aY,if_pos rfl,N.t37]]at e;have N:=N.all;have b08:=a02 d y z E l1;generalize ab d y z E=a19 at*;have Z:=u.nc;have cq:=u.nd;have b09:=u.live;have b10:=u.size;have a73:=u.aV;have a74:=u.aW;refine aa ?_;have k9:=A (T a).aQ.1 (T a).aQ.2 ((T a).live+d.live) (T a).size [] k o .nil;have b11:=A (T a).aQ.1 (T a).aQ.2 ((T a).live+d.live) ((T a).size+d.size) [] k o .nil;refine bq λa27 a29=> ?_;have b12:=U.gY a29 bu;obtain⟨r,s⟩: ∃r,D.set a27 (.cells a19)=r:=⟨_,rfl⟩;have f:D.sub r:=by rw[<-s];exact U.ae U.a1 a29
   have a81:r.read a27=some a19:=U.af (by rw[<-s,U.ah]);have m:=rd f bu;have V:=U.aJ (f _ _ bu);clear e W G k2;refine aa ?_;generalize C:r.set l _=t;have bu:t l=some (.cells (k5 (T a).aQ.1 (T a).aQ.2 ((T a).live+d.live) ((T a).size+d.size) [] k o .nil)):=by subst C;exact U.ah _ _ _
   have n2:k0.sub t:=by subst C;exact U.ae (U.aq p f) Q
   clear C s m V a81;refine cl (D5 t (T a).aQ.1 (T a).aQ.2 d.aV d.aW k o y z a9p a9p a9p a9p) ?_;rintro _ a69 ⟨k3,rfl⟩;have V:=U.aJ (k3 _ _ bu);have n3:=oo (T a).aQ (d.aV,d.aW) 8 k7 k8 a73 a74;refine aa ?_;refine⟨a+1,⟨a9p,U.aq n2 k3,?_,.any,.any,?_⟩,rfl,a9p⟩<;>rw[I,ev];exact⟨by dsimp only;omega,by dsimp only;omega,by dsimp only;omega,by dsimp only;omega,n3.1,n3.2⟩
  obtain rfl:a=b.kids.length:=a9p;clear a10 a09;generalize T b.kids.length=v at*;refine aH (λP=> ?_) λP=> ?_;grind;rw[if_neg P]at L;subst L;by_cases g2:b.kind=2
  .have bq:(b.kind.toNat:Int)=2:=by rw[g2];rfl
   obtain⟨c,l2,n4⟩: ∃c l2,b.rows=c::l2:=a6T (by rintro k4;unfold dW at S;simp[g2,k4]at S);have n0:=a06 c (by simp[n4]);obtain⟨_,M,n,rfl⟩:=x.rows.get (i:=0) (x:=c) (by rw[n4];rfl);obtain⟨q,W,G⟩:=(x.lQ.mono (U.aq H p)).get 0 _ M;obtain⟨a30,a83,e⟩:=G.kY D U.a1 0 false 1 a9p (by simp[R.cells]);have W:cR 2 X (.v (.int .i64 0))=some q:=W;have e:dq false 1 D a30=some (.J (ad c.1) n):=e;have k9:=A v.aQ.1 v.aQ.2 v.live v.size c.1 k o .any;refine iA ?_;refine cl (sx c.1 n _ a9p) ?_;rintro _ r ⟨g,rfl⟩;have m:=rd g bu;have V:=U.aJ (g _ _ bu);have l8: ∀i,eo (r.set l i) j9=some l5:=λi=>U.aJ (by rw[U.an _ _ a9s];exact g _ _ (p _ _ aM));refine aa ?_;exact⟨U.aq H (U.aq p g),k,o,.any,by simp[keyOf,g2,n4]⟩
  have bq: ¬(b.kind.toNat:Int)=2:=λk4=>g2 (a5G.1 (by grind));refine iA ?_;by_cases g3:b.kind=3
  .have hp:(b.kind.toNat:Int)=3:=by rw[g3];rfl
   obtain⟨d,b13,n5⟩: ∃c l2,b.kids=c::l2:=a6T (by rintro k4;unfold dW at S;simp[g3,k4]at S);have u:=(a07 d (by simp[n5])).key;obtain⟨_,M,l1,a71,y,z,E,rfl⟩:=x.kids.get (i:=0) (x:=d) (by rw[n5];rfl);obtain⟨q,W,G⟩:=(x.gW.mono (U.aq H p)).get 0 _ M;have N:=aX (N:=y) (e5:=z) (h5:=E) l1;change nf D q (ab d y z E)at G;obtain⟨a30,a83,e⟩:=G.kY D U.a1 36 false 1 a9p (by rw[N.len];omega);have W:cR 37 Y (.v (.int .i64 0))=some q:=W;rw[N.all.2.2.2.2.2.2.2.2]at e;have k9:=A v.aQ.1 v.aQ.2 v.live v.size d.key k o .any;refine iA ?_;refine cl (sx d.key E _ a9p) ?_;rintro _ r ⟨g,rfl⟩;have m:=rd g bu;have V:=U.aJ (g _ _ bu);have l8: ∀i,eo (r.set l i) j9=some l5:=λi=>U.aJ (by rw[U.an _ _ a9s];exact g _ _ (p _ _ aM));refine aa ?_;exact⟨U.aq H (U.aq p g),k,o,.any,by simp[keyOf,g3,n5]⟩
  have hp: ¬(b.kind.toNat:Int)=3:=λk4=>g3 (a5G.1 (by grind));refine iA ?_;grind[keyOf]
theorem Dc {h k d:R} (o:g.length=32):(∀c,putAt (g++ [h,k,n,b3,d]) 32 [c]=g++ [c,k,n,b3,d])/\ ∀c,putAt (g++ [h,k,n,b3,d]) 33 [c]=g++ [h,c,n,b3,d]:=by
 have p: ∀a (b:List R),(g++b).take (32+a)=g++b.take a:=λa b=>by rw[<-o,a7C]
 have r: ∀a (b:List R),(g++b).drop (32+a)=b.drop a:=λa b=>by rw[<-o,a7D]
 have x:=p 0;have y:=p 1;have z:=r 1;have C:=r 2;simp_all [a6x,Nat.reduceAdd,putAt,a4M,a4R,a5e]
def Dd {a:Own} (b:w.sum.length=32):putAt (ab w a N e5) 32 [.J (ad q) h5]=ab {w with aV:=q} h5 N e5:=(Dc (by simp[b])).1 _
def De {a:Own} (b:w.sum.length=32):putAt (ab w N a e5) 33 [.J (ad q) h5]=ab {w with aW:=q} N h5 e5:=(Dc (by simp[b])).2 _
variable{f t e7:U}{Y:bp}
def bW.put {b:Rd} (a:bp) (c:bW (f.set e Y) i b t) (d:e≠i):bW (f.set e a) i b (t.set e a):=by have:=c.other (ob:=a) d;rwa[U.set_set]at this
theorem Yh (L H:U) (y:Nat) (r:Nat) (a04:r<=8) (C:Rd) (l0:L y=none) (P:bW L y C H):
  AC Tryz.prog 208 [.ptr y 0,.v (.int .i64 (r:Int))] H λD V=>bW L y (hY r C).2 V/\(hY r C).1.sum.length=32/\(hY r C).1.cE/\ ∃b h o,D= .agg (ab (hY r C).1 b h o):=by
 have eQ:=aX (N:= .nil) (e5:= .nil) (h5:= .nil) bk;have n:=eQ.len;have a05:=eQ.t37;refine bf hm Pl a9q ?_;have q: ∀I,(R.agg I).cells=I:=λ_=>rfl;have K: ∀c:Int,(R.v (.int .i64 c)).cells= [.v (.int .i64 c)]:=λ_=>rfl;have s: ∀(c:List Int) (M:Own),(R.J (ad c) M).cells= [.J (ad c) M]:=λ_ _=>rfl;refine ax @cr ?_;refine aP λF l1=> ?_;obtain⟨t,N,P⟩:=P.new (ob:= .cells (ab aA .nil .nil .nil)) l1;have l2:L.sub (L.set F (.cells (ab aA .nil .nil .nil))):=U.ae U.a1 N;have O:(L.set F (.cells (ab aA .nil .nil .nil))) y=none:=by rw[U.an _ _ (a4Q t)];exact l0
 have u:(L.set F (.cells (ab aA .nil .nil .nil))) F=some (.cells (ab aA .nil .nil .nil)):=U.ah _ _ _;obtain⟨l,l3⟩: ∃l:U,l=L.set F (.cells (ab aA .nil .nil .nil)):=⟨_,rfl⟩;rw[<-l3]at P l2 O u;refine cn ?_;refine ai (CP _ _ y C P) ?_;rintro D a06 ⟨Q,rfl⟩;unfold hY;have z:=CO C;generalize mY C=p at*;obtain⟨a,X⟩:=p;simp only at Q z|-;have Y:(cL a).cells=a.map ak:=rfl;have Z:(a.map ak).length=32:=by simp[z]
 have j9:putAt (ab aA .nil .nil .nil) 0 (a.map ak)=ab ⟨a,[],[],0,0,[]⟩ .nil .nil .nil:=uk bk z;have k0: ∀(p:ay) (b h o:Own),p.sum.length=32->putAt (ab aA .nil .nil .nil) 0 (ab p b h o)=ab p b h o:=λp b h o l4=>cF bk l4;have cl: ∀(k x:List Int) (v w:Int) (E:List Int) (b h o:Own),qJ ⟨a,k,x,v,w,E⟩ b h o (ab ⟨a,k,x,v,w,E⟩ b h o):=λk x v w E b h o=>aX z;have A:=(cl [] [] 0 0 [] .nil .nil .nil).len;have k1:=k0 ⟨a,[],[],0,0,[]⟩ .nil .nil .nil z;refine ax (bu @q @Y @Z @cr @j9 @n @A @k1) ?_;refine aP λW l5=> ?_;obtain⟨S,k2,l6⟩:=Q.new (ob:= .cells (ab ⟨a,[],[],0,0,[]⟩ .nil .nil .nil)) l5;have m:F≠W:=by rintro rfl;rw[u]at k2;cases k2
 have B: ∀e,(l.set W e) y=none:=λe=>by rw[U.an _ _ (a4Q S)];exact O
 have aa: ∀ {e C V},bW (l.set W e) y C V->V W=some e/\V F=some (.cells (ab aA .nil .nil .nil)):=λP=>⟨P.get S (U.ah _ _ _),P.get t (by rw[U.an _ _ m];exact u)⟩;refine ax (dr @q @Y @Z @cr @j9 @n @A @k1 @U.set_set) ?_;refine ai (sq _ _ y 1048576 a9p _ l6) ?_;rintro D a07 ⟨f,rfl⟩;have l7:=xj 1048576 X;generalize fy 1048576 X=p at*;obtain⟨d,k3⟩:=p;simp only at f l7|-;have G:=(aa f).1;have c2:=(cl [] [] d 0 [] .nil .nil .nil).len;have l8:putAt (ab ⟨a,[],[],0,0,[]⟩ .nil .nil .nil) 34 [.v (.int .i64 (d:Int))]=ab ⟨a,[],[],d,0,[]⟩ .nil .nil .nil:=sA z;replace f:=f.put (.cells (ab ⟨a,[],[],d,0,[]⟩ .nil .nil .nil)) S;refine ax (aM @K (U.aJ G) @A @l8) ?_;refine ai (sq _ _ y 1048576 a9p _ f) ?_;rintro D a08 ⟨g,rfl⟩;have l9:=xj 1048576 k3;generalize fy 1048576 k3=p at*;obtain⟨c,k4⟩:=p;simp only at g l9|-;replace G:=(aa g).1;have aI:=(cl [] [] d c [] .nil .nil .nil).len;have n0:putAt (ab ⟨a,[],[],d,0,[]⟩ .nil .nil .nil) 35 [.v (.int .i64 (c:Int))]=ab ⟨a,[],[],d,c,[]⟩ .nil .nil .nil:=sB z;replace g:=g.put (.cells (ab ⟨a,[],[],d,c,[]⟩ .nil .nil .nil)) S;refine ax (aM @K (U.aJ G) @c2 @n0) ?_;refine ai (ph _ _ y r a9p _ (B _) g) ?_;rintro D a09 ⟨i,b,rfl⟩;have n1:=xk r k4;generalize hX r k4=p at*;obtain⟨k,k5⟩:=p;simp only at i n1|-;replace G:=(aa i).1;have aM:=(cl k [] d c [] b .nil .nil).len;have n2:putAt (ab ⟨a,[],[],d,c,[]⟩ .nil .nil .nil) 32 [.J (ad k) b]=ab ⟨a,k,[],d,c,[]⟩ b .nil .nil:=Dd z;replace i:=i.put (.cells (ab ⟨a,k,[],d,c,[]⟩ b .nil .nil)) S;simp -dsimp -implicitDefEqProofs (disch:=first|omega|assumption|(simp only[aE,Nat.reduceAdd];try omega)) only[go_sem,simprocAttr,-List.reduceReplicate,s,U.aJ G,aI,n2];refine ai (ph _ _ y r a9p _ (B _) i) ?_;rintro D a10 ⟨j,h,rfl⟩;have n3:=xk r k5;generalize hX r k5=p at*;obtain⟨x,k6⟩:=p;simp only at j n3|-;replace G:=(aa j).1;have bo:=(cl k x d c [] b h .nil).len;have n4:putAt (ab ⟨a,k,[],d,c,[]⟩ b .nil .nil) 33 [.J (ad x) h]=ab ⟨a,k,x,d,c,[]⟩ b h .nil:=De z;replace j:=j.put (.cells (ab ⟨a,k,x,d,c,[]⟩ b h .nil)) S;simp -dsimp -implicitDefEqProofs (disch:=first|omega|assumption|(simp only[aE,Nat.reduceAdd];try omega)) only[go_sem,simprocAttr,-List.reduceReplicate,s,U.aJ G,aM,n4];refine ai (ph _ _ y r a9p _ (B _) j) ?_;rintro D n5 ⟨T,o,rfl⟩;have n9:=xk r k6;generalize hX r k6=p at*;obtain⟨E,a11⟩:=p;simp only at T n9|-;replace G:=(aa T).1;have k7:=cl k x d c E b h o;have bC:=k7.len;have a00:putAt (ab ⟨a,k,x,d,c,[]⟩ b h .nil) 36 [.J (ad E) o]=ab ⟨a,k,x,d,c,E⟩ b h o:=sC z;replace T:=T.put (.cells (ab ⟨a,k,x,d,c,E⟩ b h o)) S;have k8:=(aa T).2;have a13:=(aa T).1;have a01:=a4Q m;have a02:=k0 ⟨a,k,x,d,c,E⟩ b h o z;have a03:n5 F=some (.cells (ab aA .nil .nil .nil)):=by rw[U.an _ _ m]at k8;exact k8
 refine ax (fw @s (U.aJ G) @bo @a00 @U.ah @U.an @m @a01 (U.aJ a03) k7.t37 @n @bC @a02 @q) ?_;refine⟨_,U.a1,?_,z,⟨by simp only;omega,by simp only;omega,by simp only;omega⟩,b,h,o,rfl⟩;refine(T.other (ob:= .cells (ab ⟨a,k,x,d,c,E⟩ b h o)) t).base ?_;intro D a14 k9;have a15:D≠F:=by rintro rfl;rw[N]at k9;cases k9
 have a16:D≠W:=by rintro rfl;simp_all [U.an]
 simp_all [U.an]
def oq (a:g.length=e*i):bM (f.set v (.cells g)) i (.al v e e i)=some (e,g):=by simp[bM,U.af (U.ah _ _ _),<-a]
def ar.rs {a:Rd} (b:ar (f.set e (hU a N)) t i g n):bW f e a t:=⟨N,b.1⟩
def ar.sE {p h:Rd} (r:ar (f.set e (hU p N)) t i g n) (x:f e=none) (y:bW (t.del e) e h e7): ∃c,ar (f.set e (hU h c)) e7 i g n:=by
 obtain⟨c,k⟩:=y;obtain⟨z,d⟩:=r;refine⟨c,U.aq (U.lg (CX z x)) k,?_⟩;rcases d with d|⟨o,C,D,E,F,a,G,L⟩
 .exact .inl d
 .have b:o≠e:=by rintro rfl;rw[U.ah]at a;cases a
  rw[U.an _ _ b]at a;exact .inr ⟨o,C,D,E,F,by rw[U.an _ _ b];exact a,k _ _ (by rw[U.an _ _ b,U.eI _ b];exact G),L⟩
def hx (h k:U) (a:c4) (o p:R):Prop:= ∃b c d,ar h b 2 (flat c) o/\ar b k 37 (flat d) p/\az dh a.rows c/\az bs a.kids d/\a.rows.length<=100000/\a.kids.length<=100000
def hx.sub {a b:U}{c:c4}{d h:R} (k:hx a b c d h):a.sub b:=by obtain⟨r,x,y,o,p,_⟩:=k;exact U.aq o.1 p.1
def hx.L (k:hx t f e0 n b3): ∃a b,fB f e0 n b3 a b:=by obtain⟨x,a,b,o,c,d,h,p,r⟩:=k;exact⟨a,b,d,h,(bS.dV o a9p rfl (d.cells λ_ _=>dh.cells)).mono c.1,bS.dV c a9p rfl (h.cells λ_ _=>bs.cells),p,r⟩
theorem hx.base {a b c:U}{d:c4}{h k:R} (o:hx b c d h k) (p:a.sub b):hx a c d h k:=by obtain⟨r,x,y,z,C,D⟩:=o;exact⟨r,x,y,z.base p,C,D⟩
def hx.mono {a b c:U}{d:c4}{h k:R} (o:hx a b d h k) (p:b.sub c):hx a c d h k:=by obtain⟨r,x,y,z,C,D⟩:=o;exact⟨r,x,y,z,C.mono p,D⟩
theorem hx.set {b c:U}{a:Nat}{r ob:bp}{d:c4}{h k:R} (x:hx b c d h k) (o:b a=some r):hx (b.set a ob) (c.set a ob) d h k:=by obtain⟨y,z,C,p,D,E⟩:=x;exact⟨y.set a ob,z,C,jP p o,jP D (p.1 _ _ o),E⟩
variable{b0:Type}
def Df {a:Rd->b0×Rd}{b:Rd}{c:List b0} (d:i<e):fA a (e - i) b c=fA a (e -(i+1)) (a b).2 (c++ [(a b).1]):=by rw[show e - i=(e -(i+1))+1 by omega];rfl
abbrev xy:R:= .agg [.v (.int .u8 0),.J [] .nil,.J [] .nil]
theorem Yi (e:List UInt8) (v:Own) (k:Nat) (a42:1<=k) (n1:k<=8) (n:U) (b21:e.length<=1000000000000):
  AC Tryz.prog 137 [.J (e.map ak) v,.v (.int .i64 (k:Int))] n λq D=>n.sub D/\match pk k e with
   |none=>q= .aL [xy,.v (.int .i64 21)]
   |some w=> ∃c P,q= .aL [gP w c P,.v (.int .i64 0)]/\hx n D w c P:=by
 refine mT λb22=> ?_;have a88:v= .nil->e= []:=λa43=>by simp_all
 refine bf hm Nb a9q ?_;have A: ∀n2,(R.agg n2).cells=n2:=λ_=>rfl;have k1: ∀a d b c P l0:R,putAt [a,d,b] 0 [c,P,l0]= [c,P,l0]:=λ_ _ _ _ _ _=>rfl;have k2: ∀a d b,aY true 3 [a,d,b]= .agg [a,d,b]:=λ_ _ _=>rfl;have a47: ∀a d b:R,aY false 1 ([a,d,b].drop 1)=d:=λ_ _ _=>rfl;have a48: ∀a d b:R,aY false 1 ([a,d,b].drop 2)=b:=λ_ _ _=>rfl;have a89: ∀a d b c:R,putAt [a,d,b] 0 [c]= [c,d,b]:=λ_ _ _ _=>rfl;have O: ∀a d b:R,[a,d,b].length=3:=λ_ _ _=>rfl;have a90: ∀a d c:R,putAt [a,d] 0 [c]= [c,d]:=λ_ _ _=>rfl;have a92: ∀a d c:R,putAt [a,d] 1 [c]= [a,c]:=λ_ _ _=>rfl;have a94: ∀a d:R,[a,d].length=2:=λ_ _=>rfl;have a95: ∀d:Bool,(R.v (.bool d)).cells= [.v (.bool d)]:=λ_=>rfl;have a96: ∀(l0:List Int) (a52:Own),(R.J (ad l0) a52).cells= [.J (ad l0) a52]:=λ_ _=>rfl;have a97: ∀a d b c:R,putAt [a,d,b] 1 [c]= [a,c,b]:=λ_ _ _ _=>rfl;have a98: ∀a d b c:R,putAt [a,d,b] 2 [c]= [a,d,c]:=λ_ _ _ _=>rfl;refine cn ?_;refine aP λg a56=> ?_;have a07:n.sub (n.set g (.cells [.v (.int .u8 0),.J [] .nil,.J [] .nil])):=U.ae U.a1 a56;have n3:(n.set g (.cells [.v (.int .u8 0),.J [] .nil,.J [] .nil])) g=some (.cells [.v (.int .u8 0),.J [] .nil,.J [] .nil]):=U.ah _ _ _;obtain⟨Q,a57⟩: ∃Q:U,Q=n.set g (.cells [.v (.int .u8 0),.J [] .nil,.J [] .nil]):=⟨_,rfl⟩;rw[<-a57]at a07 n3;have a61: ∀(D:U) (B:bp),n.sub D->n.sub (D.set g B):=λD B j=>U.ae j a56;refine cn ?_;rw[<-a57];refine ai (CJ e v Q a88 a9p) ?_;rintro _ b23 ⟨o,n4,rfl,a99⟩;have b24:g≠o:=by rintro rfl;rw[n3]at n4;cases n4
 refine cn ?_;refine ai (pg _ _ o _ a99) ?_;rintro c b25 ⟨a62,rfl⟩;have a63: ∀h:UInt8×Rd,h=dt ⟨e,0⟩->pj k e=(⟨h.1,(fA (je k) (dt h.2).1.toNat (dt h.2).2 []).1,(fA (hY k) (dt (fA (je k) (dt h.2).1.toNat (dt h.2).2 []).2).1.toNat (dt (fA (je k) (dt h.2).1.toNat (dt h.2).2 []).2).2 []).1⟩,
   oa (fA (hY k) (dt (fA (je k) (dt h.2).1.toNat (dt h.2).2 []).2).1.toNat (dt (fA (je k) (dt h.2).1.toNat (dt h.2).2 []).2).2 []).2):=by rintro h rfl;rfl
 have a65:=a63 _ rfl;clear a63;unfold pk;rw[a65];clear a65;generalize dt ⟨e,0⟩=h at*;obtain⟨V,b00⟩:=h;simp only at a62|-;refine ax (c2 @k1 @A) ?_;refine aP λE b01=> ?_;obtain⟨H,a08,b02⟩:=a62.new (ob:= .cells [.v (.int .u8 V.toNat),.J [] .nil,.J [] .nil]) b01;have b26:g≠E:=by rintro rfl;rw[n3]at a08;cases a08
 have a09: ∀B,(Q.set E B) o=none:=λB=>by rw[U.an _ _ (a4Q H)];exact n4
 refine ax (bo @k1 @A @a89 @O @U.set_set) ?_;refine ai (pg _ _ o _ b02) ?_;rintro c b27 ⟨n5,rfl⟩;generalize dt b00=h at*;obtain⟨s,n9⟩:=h;simp only at n5|-;have b03:=s.toNat_lt;have a10:IntKind.i64.wrap (s.toNat:Int)=s.toNat:=wrap_i64 a9p a9p;refine ax @a10 ?_;generalize s.toNat=X at*;have l1: ∀F b q D h l2 a,ar ((Q.set E (.cells b)).set o (hU q F)) D h l2 a->D E=some (.cells b)/\D g=some (.cells [.v (.int .u8 0),.J [] .nil,.J [] .nil]):=λF b q D h l2 a j=>⟨j.1 _ _ (by rw[U.an _ _ H,U.ah]),j.1 _ _ (by grind[U.an])⟩;refine cu (λC D=> ∃(L:Nat) (G:Rd) (S:List (List Int×Bool)) (I:List R) (a:R) (F:Own),L<=X/\fA (je k) (X - L) G S=fA (je k) X n9 []/\S.length=L/\az dh S I/\ar ((Q.set E (.cells [.v (.int .u8 V.toNat),a,.J [] .nil])).set o (hU G F)) D 2 (flat I) a/\
   C 0= .J (e.map ak) v/\C 1= .v (.int .i64 k)/\C 4= .ptr g 0/\C 6= .ptr o 0/\C 7= .ptr E 0/\C 18= .v (.int .i64 X)/\C 19= .v (.int .i64 L))
  (λC _=>match C 19 with| .v (.int _ w)=>(X - w).toNat| _=>0) ?_ ?_
 .obtain⟨F,n5⟩:=n5;refine⟨0,n9,[],[],.J [] .nil,F,a9p,rfl,rfl,trivial,ar.nil n5,?_⟩;exact nY
 rintro C b04 ⟨L,G,S,I,a,F,b28,W,b05,a00,f,p,r,x,y,z,Y,Z⟩;by_cases K:(L:Int)<X
 .refine ax (bu @p @r @x @y @z @Y @Z @K) ?_;refine ai (XN _ _ o G (ar.rs f).full) ?_;rintro c k3 ⟨a11,rfl⟩;rw[Df a9p]at W;unfold je at W;obtain⟨b06,l⟩:=ar.sE f (a09 _) a11;generalize mZ G=h at*;obtain⟨k4,M⟩:=h;simp only at l W|-;have cc:=(l1 _ _ _ _ _ _ _ l).1;refine ax (ct @p @r @x @y @z @Y @Z @K (U.af cc) @a47) ?_;refine ai (ph _ _ o k a9p M (U.ir _ _) (ar.rs l).full) ?_;rintro c k5 ⟨l3,a01,rfl⟩;obtain⟨a02,i⟩:=ar.sE l (a09 _) l3;generalize hX k M=h at*;obtain⟨k6,a13⟩:=h;simp only at i W|-;have bu:=(l1 _ _ _ _ _ _ _ i).1;refine ax (p8 @p @r @x @y @z @Y @Z @K (U.af bu) @a47 @A @a90 @a92 @a94 @a95 @a96) ?_;refine eS (by simp[aN,R.cells]) a9q λb07 a14=> ?_;have a15:=ar.mono i (U.ae (Y:= .cells (flat [R.agg [.J (ad k6) a01,.v (.bool k4)]])) U.a1 a14);have a16:az dh (S++ [(k6,k4)]) (I++ [R.agg [.J (ad k6) a01,.v (.bool k4)]]):=a00.snoc ⟨_,rfl⟩;have l4:(flat I).length=S.length*2:=by rw[dg (a00.cells λ_ _=>dh.cells),a00.len]
  simp -dsimp -implicitDefEqProofs (disch:=first|omega|assumption|(simp only[aE,Nat.reduceAdd];try omega)) only[go_sem,simprocAttr,-List.reduceReplicate,p,r,x,y,z,Y,Z];refine fj a15 a9p (oq rfl) rfl (by rw[l4];simp[flat,R.cells];omega) (by rw[l4];simp[flat,R.cells];omega) λt b08 u=> ?_;have a18:flat I++flat [R.agg [.J (ad k6) a01,.v (.bool k4)]]=flat (I++ [R.agg [.J (ad k6) a01,.v (.bool k4)]]):=by simp[flat]
  rw[a18]at u;have dr:=(l1 _ _ _ _ _ _ _ u).1;have a19:t.cells= [t]:=fK u;refine ax (iy @p @r @x @y @z @Y @Z (U.aJ dr) @a19 @a97 @O) ?_;refine⟨⟨L+1,a13,S++ [(k6,k4)],_,t,a02,a9p,W,by simp[b05],a16,?_,a9q⟩,a9p⟩;have:=jP (e:=E) (Y:= .cells [.v (.int .u8 V.toNat),t,.J [] .nil]) u (by rw[U.an _ _ H,U.ah]);rw[U.ef _ (a4Q H),U.set_set]at this;exact this
 .obtain rfl:L=X:=a9p;rw[a7h]at W;obtain⟨b09,b10⟩:S=(fA (je k) L n9 []).1/\G=(fA (je k) L n9 []).2:=by rw[<-W];exact⟨rfl,rfl⟩
  rw[<-b09,<-b10];refine ax (bu @p @r @x @y @z @Y @Z @K) ?_;refine ai (pg _ _ o G (ar.rs f).full) ?_;rintro c k3 ⟨a11,rfl⟩;obtain⟨b06,l⟩:=ar.sE f (a09 _) a11;clear f;generalize dt G=h at*;obtain⟨s,M⟩:=h;simp only at l|-;have b03:=s.toNat_lt;have a10:IntKind.i64.wrap (s.toNat:Int)=s.toNat:=wrap_i64 a9p a9p;refine ax (bC @p @r @x @y @z @a10) ?_;have cc:=(l1 _ _ _ _ _ _ _ l).1;have aM:=(l1 _ _ _ _ _ _ _ l).2;have a68: ∀B,((k3.del o).set E B) o=none:=λB=>by rw[U.an _ _ (a4Q H),U.ir]
  have l5: ∀F b q D h l2 a,ar (((k3.del o).set E (.cells b)).set o (hU q F)) D h l2 a->D E=some (.cells b)/\D g=some (.cells [.v (.int .u8 0),.J [] .nil,.J [] .nil]):=λF b q D h l2 a j=>⟨j.1 _ _ (by rw[U.an _ _ H,U.ah]),j.1 _ _ (by grind[U.an,U.eI])⟩;obtain⟨b11,b12⟩: ∃F,(((k3.del o).set E (.cells [.v (.int .u8 V.toNat),a,.J [] .nil])).set o (hU M F)).sub k3:=by
   obtain⟨F,j⟩:=(ar.rs l).full;refine⟨F,λc v m=> ?_⟩;by_cases a43:c=E;grind[U.an,U.ah,Option.some.inj]
   .by_cases a27:c=o
    .subst a27;rw[U.ah]at m;exact j _ _ (by rw[U.ah];exact m)
    .rw[U.an _ _ a27,U.an _ _ a43]at m;exact j _ _ (by rw[U.an _ _ a27];exact m)
  generalize s.toNat=j9 at*;refine cu (λC D=> ∃(L:Nat) (G:Rd) (T:List ay) (N:List R) (P:R) (F:Own),L<=j9/\fA (hY k) (j9 - L) G T=fA (hY k) j9 M []/\T.length=L/\az bs T N/\ar (((k3.del o).set E (.cells [.v (.int .u8 V.toNat),a,P])).set o (hU G F)) D 37 (flat N) P/\
    C 0= .J (e.map ak) v/\C 1= .v (.int .i64 k)/\C 4= .ptr g 0/\C 6= .ptr o 0/\C 7= .ptr E 0/\C 36= .v (.int .i64 j9)/\C 37= .v (.int .i64 L))
   (λC _=>match C 37 with| .v (.int _ w)=>(j9 - w).toNat| _=>0) ?_ ?_
  .refine⟨0,M,[],[],.J [] .nil,b11,a9p,rfl,rfl,trivial,ar.nil b12,?_⟩;exact cq (bo @p @r @x @y @z)
  clear p r x y z Y Z;rintro C b04 ⟨l6,G,T,N,P,F,b29,W,a69,a03,f,p,r,x,y,z,l7,l8⟩;by_cases K:(l6:Int)<j9
  .have bu:=(l5 _ _ _ _ _ _ _ f).1;refine ax (ct @p @r @x @y @z @l7 @l8 @K (U.af bu) @a48) ?_;refine ai (Yh _ _ o k n1 G (U.ir _ _) (ar.rs f).full) ?_;rintro c k5 ⟨l3,a29,a71,k7,k8,k9,rfl⟩;rw[Df a9p]at W;obtain⟨a02,i⟩:=ar.sE f (a68 _) l3;have a30:=(aX (N:=k7) (e5:=k8) (h5:=k9) a29).len;generalize hY k G=h at*;obtain⟨k0,a13⟩:=h;simp only at i W a29 a71 a30|-;have dr:=(l5 _ _ _ _ _ _ _ i).1;refine ax (iy @p @r @x @y @z @l7 @l8 @K (U.af dr) @a48 @A) ?_;refine eS (by simp[aN,R.cells,a30]) a9q λb07 a14=> ?_;have a15:=ar.mono i (U.ae (Y:= .cells (flat [R.agg (ab k0 k7 k8 k9)])) U.a1 a14);have a16:az bs (T++ [k0]) (N++ [R.agg (ab k0 k7 k8 k9)]):=a03.snoc ⟨a29,a71,_,_,_,rfl⟩;have l4:(flat N).length=T.length*37:=by rw[dg (a03.cells λ_ _=>bs.cells),a03.len]
   have a04:(flat [R.agg (ab k0 k7 k8 k9)]).length=1*37:=by simp[flat,R.cells,a30]
   simp -dsimp -implicitDefEqProofs (disch:=first|omega|assumption|(simp only[aE,Nat.reduceAdd];try omega)) only[go_sem,simprocAttr,-List.reduceReplicate,p,r,x,y,z,l7,l8];refine fj a15 a9p (oq a04) a04 (by rw[l4,a04];omega) (by rw[l4,a04];omega) λt b08 u=> ?_;have a18:flat N++flat [R.agg (ab k0 k7 k8 k9)]=flat (N++ [R.agg (ab k0 k7 k8 k9)]):=by simp[flat]
   rw[a18]at u;have dr:=(l5 _ _ _ _ _ _ _ u).1;have a19:t.cells= [t]:=fK u;refine ax (iy @p @r @x @y @z @l7 @l8 (U.aJ dr) @a19 @a98 @O) ?_;refine⟨⟨l6+1,a13,T++ [k0],_,t,a02,a9p,W,by simp[a69],a16,?_,a9q⟩,a9p⟩;have:=jP (e:=E) (Y:= .cells [.v (.int .u8 V.toNat),a,t]) u (by rw[U.an _ _ H,U.ah]);rw[U.ef _ (a4Q H),U.set_set]at this;exact this
  .obtain rfl:l6=j9:=a9p;rw[a7h]at W;obtain⟨b13,b14⟩:T=(fA (hY k) l6 M []).1/\G=(fA (hY k) l6 M []).2:=by rw[<-W];exact⟨rfl,rfl⟩
   rw[<-b13,<-b14];refine ax (bu @p @r @x @y @z @l7 @l8 @K) ?_;refine ai (CQ _ _ o G (ar.rs f).full) ?_;rintro c k5 ⟨l3,rfl⟩;obtain⟨a02,i⟩:=ar.sE f (a68 _) l3;clear f;have bu:=(l5 _ _ _ _ _ _ _ i).1;have aM:=(l5 _ _ _ _ _ _ _ i).2;have l9:hx Q k5 ⟨V,S,T⟩ a P:=by
    refine⟨_,I,N,?_,i,a00,a03,by simp only;omega,by simp only;omega⟩;obtain⟨b15,a34⟩:=l;refine⟨λc v m=> ?_,?_⟩
    .have ei:c≠o:=by rintro rfl;rw[n4]at m;cases m
     have a05:c≠E:=by rintro rfl;rw[a08]at m;cases m
     rw[U.an _ _ ei,U.an _ _ a05,U.eI _ ei];exact b15 _ _ (by rw[U.an _ _ ei,U.an _ _ a05];exact m)
    .rcases a34 with a34|⟨d,w,b16,n2,b17,n0,b30,b18⟩
     .exact .inl a34
     .have ei:d≠o:=by rintro rfl;rw[U.ah]at n0;cases n0
      rw[U.an _ _ ei]at n0;have a05:d≠E:=by grind
      rw[U.an _ _ a05]at n0;exact .inr ⟨d,w,b16,n2,b17,n0,by grind[U.an,U.eI],b18⟩
   have a36:=U.aq a07 l9.sub;by_cases b:(oa G).e=0
   .simp -dsimp -implicitDefEqProofs (disch:=first|omega|assumption|(simp only[aE,Nat.reduceAdd];try omega)) only[go_sem,simprocAttr,-List.reduceReplicate,p,r,x,y,z,b,U.af bu,k2];obtain⟨a73,a74,a38⟩:=l9.L;refine ai (Da ⟨V,S,T⟩ a73 a74 a P k a42 n1 k5 a38) ?_;rintro _ k5 ⟨rfl,rfl⟩;cases a81:dW k ⟨V,S,T⟩with
    |false=>refine ax (jc @p @r @x @y @z @b (U.aJ aM) @k1 @k2 @O @A @a5w) ?_;grind[U.a1]
    |true=>
     refine ax (dr @p @r @x @y @z @b (U.af bu) @k2 @a5F) ?_;refine ai (xv ⟨V,S,T⟩ a73 a74 a P k a42 n1 k5 a38) ?_;rintro q a83 ⟨a06,a84⟩;rw[sr,if_pos a81]at a84;obtain⟨b19,rfl⟩:=a84;replace l9:=l9.mono a06;replace a36:=U.aq a36 a06;replace bu:=a06 _ _ bu;replace aM:=a06 _ _ aM;refine ax (bC @p @r @x @y @z @b) ?_;have a69:=xx n1 a81 λh b20=>(a38.kids.all h b20).1;refine ai (CZ (db ⟨V,S,T⟩) e b19 v a83 a9p) ?_;rintro _ a83 ⟨rfl,rfl⟩;by_cases a86:db ⟨V,S,T⟩=e
     .refine ax (fw @p @r @x @y @z @b @a86 (U.af bu) (U.aJ aM) @k1 @k2 @O @A @a5F) ?_;have:=l9.set (ob:= .cells [.v (.int .u8 V.toNat),a,P]) n3;refine⟨_,U.a1,a61 _ _ a36,?_⟩;exact⟨a,P,rfl,this.base (a61 _ _ a07)⟩
     .refine ax (fw @p @r @x @y @z @b @a86 (U.af bu) (U.aJ aM) @k1 @k2 @O @A @a5w) ?_;grind[U.a1]
   .refine ax (iy @p @r @x @y @z @b (U.aJ aM) @k1 @k2 @O @A) ?_;grind[U.a1]
def Dg: ∀(c:List (List Int×Bool)) (a:gf),a.aQ.1.length<=8->a.aQ.2.length<=8->(c.foldl dP a).aQ.1.length<=8/\(c.foldl dP a).aQ.2.length<=8
 | [],a,h1,b=>⟨h1,b⟩
 |d::c,a,h1,b=>by
  rw[a5O];refine Dg c _ ?_ ?_<;>unfold dP<;>split
  .exact(oo _ _ 8 h1 b sD.1 sD.2).1
  .exact h1
  .exact(oo _ _ 8 h1 b sD.1 sD.2).2
  .exact b
def Dh: ∀(b:List ay) (a:gf),(∀d∈b,d.hv)->a.aQ.1.length<=8->a.aQ.2.length<=8->(b.foldl ev a).aQ.1.length<=8/\(b.foldl ev a).aQ.2.length<=8
 | [],a,_,h1,c=>⟨h1,c⟩
 |d::b,a,hk,h1,c=>by
  rw[a5O];have:=hk d a9q;exact Dh b _ (λh k=>hk h (by simp[k])) (oo _ _ 8 h1 c this.aV this.aW).1 (oo _ _ 8 h1 c this.aV this.aW).2
theorem uo (p:e<=8) (a:fJ e e0=some w):w.sum.length=32/\w.aV.length<=8/\w.aW.length<=8/\w.key.length<=8:=by
 unfold fJ at a;split at a
 .rename_i b;split at a
  .cases a
  .obtain rfl:=a4G a;obtain⟨x,_,_⟩:=ll b;have c:=uj p b;have d:=Dg e0.rows ⟨0,e0.rows.length,([],[])⟩ a9q a9q;have h:=Dh e0.kids _ c d.1 d.2;refine⟨og _,h.1,h.2,?_⟩;simp only[eV,keyOf];split
   .cases k:e0.rows with
    |nil=>simp
    |cons o r=>simp_all
   .split
    .cases k:e0.kids with
     |nil=>simp[aA]
     |cons o r=>exact(c o (by rw[k];simp)).key
    .simp
 .cases a
def Di (a:e<=8) (b:fJ e e0=some w):w.cE:=by obtain⟨_,c,d,h⟩:=uo a b;exact⟨a9p,a9p,a9p⟩
variable{H:ag}
theorem bB.len (b:bB f e i H) {a:List UInt8} (c:B.length=32) (d:H.m B=some a):a.length<=1000000000000:=by obtain⟨h,_,k⟩:=b.mp;grind
def fp (d:ag) (a:Nat) (b:ay):Option c4:=
 match d.m b.sum with
 |none=>none
 |some h=>match pk a h with
  |none=>none
  |some c=>if fJ a c=some b then some c else none
theorem xz (x:U) (X k7:Nat) (u:ag) (k8:bB x X k7 u) (c:ay) (W e f:Own) (v:c.sum.length=32) (a27:c.cE) (C:Nat) (k9:1<=C) (w:C<=8):
  AC Tryz.prog 73 [.ptr X 0,.agg (ab c W e f),.v (.int .i64 (C:Int))] x λg G=>x.sub G/\match fp u C c with
   |none=>g= .aL [xy,.v (.int .i64 21)]
   |some D=> ∃d h,g= .aL [gP D d h,.v (.int .i64 0)]/\hx x G D d h:=by
 refine bf hm Lm a9q ?_;have a: ∀l0,(R.agg l0).cells=l0:=λ_=>rfl;have k: ∀L y P d h l1:R,putAt [L,y,P] 0 [d,h,l1]= [d,h,l1]:=λ_ _ _ _ _ _=>rfl;have p: ∀L y P,aY true 3 [L,y,P]= .agg [L,y,P]:=λ_ _ _=>rfl;have o: ∀L y P:R,[L,y,P].length=3:=λ_ _ _=>rfl;have Y:=aX (N:=W) (e5:=e) (h5:=f) v;have A:=Y.len;have B:=(aX (N:= .nil) (e5:= .nil) (h5:= .nil) bk).len;refine ax (c2 @a @A) ?_;refine aP λi a02=> ?_;refine ax (c2 @a @A) ?_;refine aP λz H=> ?_;have I:i≠z:=by rintro rfl;rw[U.ah]at H;cases H
 have l2:x z=none:=by rw[U.an _ _ (a4Q I)]at H;exact H
 have a29:=a4Q I;obtain⟨S,K⟩: ∃S:U,S=(x.set i (.cells (ab c W e f))).set z (.cells [.v (.int .u8 0),.J [] .nil,.J [] .nil]):=⟨_,rfl⟩;have l3:x.sub S:=by rw[K];exact U.ae (U.ae U.a1 a02) l2
 have aM:S i=some (.cells (ab c W e f)):=by rw[K,U.an _ _ I,U.ah]
 have bC:S z=some (.cells [.v (.int .u8 0),.J [] .nil,.J [] .nil]):=by rw[K,U.ah]
 have Z: ∀(G:U) (M:bp),x.sub G->x.sub (G.set z M):=λG M a03=>U.ae a03 l2;have a04:R.agg (c.sum.map ak)=cL c.sum:=rfl;simp -dsimp -implicitDefEqProofs (disch:=first|omega|assumption|(simp only[aE,Nat.reduceAdd];try omega)) only[go_sem,simprocAttr,-List.reduceReplicate,a,A,U.an,I,U.ah,Y.t32];rw[<-K,a04];refine ai (XZ S X k7 u (k8.mono l3) c.sum v) ?_;rintro g a05 ⟨j9,b⟩;have k0:=U.aq l3 j9;have k1:=j9 _ _ bC;have a06:=j9 _ _ aM;unfold fp;cases hm:u.m c.sum with
 |none=>rw[hm]at b;obtain rfl:=b;refine ax (bo @a (U.aJ k1) @k @o @p) ?_;exact⟨_,U.a1,Z _ _ k0⟩
 |some y=>
  rw[hm]at b;obtain⟨M,rfl⟩:=b;refine ax @a ?_;refine ai (Yi y M C k9 w a05 (k8.len v hm)) ?_;rintro g l4 ⟨k2,b⟩;have a07:=U.aq k0 k2;have l5:=k2 _ _ k1;have a08:=k2 _ _ a06;simp only;cases l6:pk C y with
  |none=>
   rw[l6]at b;obtain rfl:=b;refine ax (aI @a @k @o) ?_;refine aP λE l7=> ?_;have k3:z≠E:=by grind
   have a09:=a4Q k3;refine ax (dr @a @k @o @p @U.set_set @U.an @k3 @a09 (U.aJ l5)) ?_;grind[U.a1,U.aq,U.ae]
  |some D=>
   rw[l6]at b;obtain⟨d,h,rfl,T⟩:=b;simp -dsimp -implicitDefEqProofs (disch:=first|omega|assumption|(simp only[aE,Nat.reduceAdd];try omega)) only[go_sem,simprocAttr,-List.reduceReplicate,a,k,o,p];refine aP λE l7=> ?_;have k3:z≠E:=by grind
   have a30:i≠E:=by grind
   obtain⟨j,k4⟩: ∃j:U,j=l4.set E (.cells [.v (.int .u8 (D.kind.toNat:Int)),d,h]):=⟨_,rfl⟩;have F:l4.sub j:=by rw[k4];exact U.ae U.a1 l7
   have ct:j E=some (.cells [.v (.int .u8 (D.kind.toNat:Int)),d,h]):=by rw[k4,U.ah]
   refine ax (bo @a @k @o @p @U.set_set) ?_;rw[<-k4];obtain⟨a10,a11,a13⟩:=(T.mono F).L;refine ai (Db D a10 a11 d h C k9 w j a13) ?_;rintro g l8 ⟨l9,b⟩;replace F:=U.aq F l9;replace T:=T.mono F;have N:=F _ _ l5;have n0:=F _ _ a08;have n1:=l9 _ _ ct;have a14:=U.aq a07 F;cases l:fJ C D with
   |none=>
    rw[l]at b;obtain rfl:=b;have a15:putAt (ab aA .nil .nil .nil) 0 (ab aA .nil .nil .nil)=ab aA .nil .nil .nil:=cF bk bk;simp -dsimp -implicitDefEqProofs (disch:=first|omega|assumption|(simp only[aE,Nat.reduceAdd];try omega)) only[go_sem,simprocAttr,-List.reduceReplicate,a,k,o,p,cr,B];refine aP λV r=> ?_;have O:z≠V:=by rintro rfl;rw[N]at r;cases r
    have n2:=a4Q O;refine ax (jc @a @k @o @p @cr @B @a15 @U.set_set @U.an @O @n2 (U.aJ N)) ?_;grind[U.a1,U.aq,U.ae]
   |some m=>
    rw[l]at b;obtain⟨n,q,s,rfl⟩:=b;have k5:=(uo w l).1;have a16:=Di w l;have n3:=aX (N:=n) (e5:=q) (h5:=s) k5;have n4:=n3.len;have n5:putAt (ab aA .nil .nil .nil) 0 (ab m n q s)=ab m n q s:=cF bk k5;refine ax (bu @a @k @o @p @cr @B @n4 @n5) ?_;refine aP λV r=> ?_;have O:z≠V:=by rintro rfl;rw[N]at r;cases r
    have n2:=a4Q O;have a18:i≠V:=by rintro rfl;rw[n0]at r;cases r
    have a34:E≠V:=by rintro rfl;rw[n1]at r;cases r
    obtain⟨t,n9⟩: ∃t:U,t=l8.set V (.cells (ab m n q s)):=⟨_,rfl⟩;have Q:l8.sub t:=by rw[n9];exact U.ae U.a1 r
    refine ax (p8 @a @k @o @p @cr @B @n4 @n5 @U.set_set @U.ah @U.an @a18 n3.t37 Y.t37 (U.af n0) @A) ?_;rw[<-n9];have a00:=Q _ _ N;have a01:=Q _ _ n1;have a19:=U.aq a14 Q;replace T:=T.mono Q;refine ai (D9 m c n q s W e f t k5 v a16) ?_;rintro _ t ⟨rfl,rfl⟩;by_cases k6:m=c
    .refine ax (bu @a @k @o @p @k6 @a5F (U.af a01) (U.aJ a00)) ?_;have:=T.set (ob:= .cells [.v (.int .u8 (D.kind.toNat:Int)),d,h]) k1;refine⟨_,U.a1,Z _ _ a19,?_⟩;simp only[l,k6,if_true];exact⟨d,h,rfl,this.base (Z _ _ k0)⟩
    .refine ax (bu @a @k @o @p @k6 @a5w (U.af a01) (U.aJ a00)) ?_;grind[U.a1]
theorem Ext.set {l d a:Nat}{b h:U}{ob:bp} (o:Ext l d b h) (p:b a=none):Ext l d b (h.set a ob):=λk r x y c=>by
 have z:k≠a:=by rintro rfl;rw[p]at c;cases c
 rw[U.an _ _ z];exact o k r x y c
theorem Yj (b:U) (r G:Nat) (t:ag) (e:bB b r G t) (a:c4) (u v:List R) (L P:R) (o:Nat) (Y:1<=o) (g:o<=8) (w:fB b a L P u v):
  AC Tryz.prog 233 [.ptr r 0,gP a L P,.v (.int .i64 (o:Int))] b λi x=>match fJ o a with
   |none=>b.sub x/\i= .aL [.agg (ab aA .nil .nil .nil),.v (.int .i64 1)]
   |some A=>bB x r G (eN t (db a))/\Ext r G b x/\ ∃l6 l7 l8,i= .aL [.agg (ab A l6 l7 l8),.v (.int .i64 0)]:=by
 refine bf hm Q2 a9q ?_;have c: ∀Z,(R.agg Z).cells=Z:=λ_=>rfl;have j9: ∀y z C,aY true 3 [y,z,C]= .agg [y,z,C]:=λ_ _ _=>rfl;have B: ∀y z C:R,[y,z,C].length=3:=λ_ _ _=>rfl;have k0: ∀y z C:R,List.take 3 [y,z,C]= [y,z,C]:=λ_ _ _=>rfl;have D:=(aX (N:= .nil) (e5:= .nil) (h5:= .nil) bk).len;have l9:=(aX (N:= .nil) (e5:= .nil) (h5:= .nil) bk).t37;have k1:putAt (ab aA .nil .nil .nil) 0 (ab aA .nil .nil .nil)=ab aA .nil .nil .nil:=cF bk bk;refine ax (c2 @c @B) ?_;refine aP λj n0=> ?_;refine ax (aI @c @cr @D) ?_;refine aP λd l=> ?_;have H:j≠d:=by rintro rfl;rw[U.ah]at l;cases l
 have E:b d=none:=by rw[U.an _ _ (a4Q H)]at l;exact l
 obtain⟨S,m⟩: ∃S:U,S=(b.set j (.cells [.v (.int .u8 (a.kind.toNat:Int)),L,P])).set d (.cells (ab aA .nil .nil .nil)):=⟨_,rfl⟩;have k2:b.sub S:=by rw[m];exact U.ae (U.ae U.a1 n0) E
 have aM:S j=some (.cells [.v (.int .u8 (a.kind.toNat:Int)),L,P]):=by rw[m,U.an _ _ H,U.ah]
 have bC:S d=some (.cells (ab aA .nil .nil .nil)):=by rw[m,U.ah]
 have a04: ∀(x:U) (k3:bp),b.sub x->b.sub (x.set d k3):=λx k3 h=>U.ae h E;refine ax (dr @c @cr @D @B @j9 @k0 @U.an @H @U.ah) ?_;rw[<-m];refine ai (Db a u v L P o Y g S (w.mono k2)) ?_;rintro i k4 ⟨I,F⟩;have k5:=U.aq k2 I;have k6:=I _ _ aM;have n:=I _ _ bC;cases K:fJ o a with
 |none=>
  rw[K]at F;obtain rfl:=F;simp -dsimp -implicitDefEqProofs (disch:=first|omega|assumption|(simp only[aE,Nat.reduceAdd];try omega)) only[go_sem,simprocAttr,-List.reduceReplicate,c,cr,D,k1];refine aP λp k=> ?_;have k7:d≠p:=by rintro rfl;rw[n]at k;cases k
  have n1:=a4Q k7;refine ax (ct @c @cr @D @k1 @l9 @U.set_set @U.an @k7 @n1 (U.aJ n)) ?_;grind[U.a1,U.aq,U.ae]
 |some q=>
  rw[K]at F;obtain⟨T,V,W,rfl⟩:=F;have k8:dW o a=true:=by grind[fJ]
  have k9:=(uo g K).1;have l0:=aX (N:=T) (e5:=V) (h5:=W) k9;have M:=l0.len;have N:putAt (ab aA .nil .nil .nil) 0 (ab q T V W)=ab q T V W:=cF bk k9;refine ax (bo @c @cr @D @M @N) ?_;refine aP λp k=> ?_;have n2:j≠p:=by rintro rfl;rw[k6]at k;cases k
  have s:=U.bF k5 k;have a05:d≠p:=by rintro rfl;rw[n]at k;cases k
  obtain⟨f,O⟩: ∃f:U,f=k4.set p (.cells (ab q T V W)):=⟨_,rfl⟩;have l1:k4.sub f:=by rw[O];exact U.ae U.a1 k
  have bu:f p=some (.cells (ab q T V W)):=by rw[O,U.ah]
  refine ax (jc @c @cr @D @M @N @U.set_set @U.an @n2 (U.af k6) @j9 @B @k0) ?_;rw[<-O];have l2:=U.aq k5 l1;refine ai (xv a u v L P o Y g f (w.mono l2)) ?_;rintro i n3 ⟨Q,F⟩;rw[sr,if_pos k8]at F;obtain⟨n4,rfl⟩:=F;have l3:=U.aq l2 Q;have a06:=xx g k8 λA n5=>(w.kids.all A n5).1;refine ax @c ?_;refine ai (Y1 n3 r G t (e.mono l3) (db a) n4 a9p) ?_;rintro _ a07 ⟨rfl,n9,X⟩;have l4:d≠r:=by rintro rfl;obtain⟨_,_,h⟩:=e.at_;rw[h]at E;cases E
  have l5:d≠G:=by rintro rfl;obtain⟨_,⟨_,_,h,_⟩,_⟩:=e.mp;rw[h]at E;cases E
  have a00:p≠r:=by rintro rfl;obtain⟨_,_,h⟩:=e.at_;rw[h]at s;cases s
  have a01:p≠G:=by rintro rfl;obtain⟨_,⟨_,_,h,_⟩,_⟩:=e.mp;rw[h]at s;cases s
  have a02:=X _ _ l4 l5 (Q _ _ (l1 _ _ n));have a03:=X _ _ a00 a01 (Q _ _ bu);refine ax (cc @c (U.af a03) (U.aJ a02) l0.t37 @M @D @N) ?_;refine⟨_,U.a1,n9.other (U.an _ _ (a4Q l4)) (U.an _ _ (a4Q l5)),?_,T,V,W,rfl⟩;exact((Ext.of l3).trans X).set E
end Go.Proofs.YtlgnfcaolejgeaaGreat
namespace Go.a6
def val:List Bool->Nat
 | []=>0
 |b::a=>(if b then 2^a.length else 0)+val a
theorem nh: ∀a:List Bool,val a<2^a.length
 | []=>by simp[val]
 |b::a=>by
  have:=nh a;simp only[val,a4M,a8D];split<;>omega
def lexB:List Bool->List Bool->Bool
 |b::c,a::d=>if b=a then lexB c d else a
 | _,_=>false
def pr: ∀ {a b:List Bool},a.length=b.length->(val a<val b↔lexB a b=true)
 | [],[],_=>by simp[val,lexB]
 |d::a,h::b,k=>by
  have c:a.length=b.length:=by simpa using k
  have o:=nh a;have p:=nh b;simp only[val,lexB];rw[c]at o|-;cases d<;>cases h<;>simp[<-pr c]<;>omega
theorem val_inj: ∀ {a b:List Bool},a.length=b.length->val a=val b->a=b
 | [],[],_,_=>rfl
 |h::a,k::b,o,c=>by
  have d:a.length=b.length:=by simpa using o
  have p:=nh a;have r:=nh b;simp only[val]at c;rw[d]at p c;have:h=k:=by grind
  subst this;rw[val_inj d a9p]
theorem Dj {b c a d:List Bool} (h:b.length=a.length):lexB (b++c) (a++d)=if b=a then lexB c d else lexB b a:=by
 induction b generalizing a with
 |nil=>grind
 |cons k b ih=>
  match a,h with
  |o::a,h=>grind[lexB]
def fM (a:List Nat) (b:Nat):List Bool:=a.map (·.testBit b)
def cb (a:List Nat):Nat->List Bool
 |0=> []
 |b+1=>fM a b++cb a b
def Dk (b:List Nat): ∀a,(cb b a).length=b.length*a
 |0=>by simp[cb]
 |a+1=>by simp[cb,fM,Dk b a,Nat.mul_succ];omega
def pick (b:(Nat×Nat)×Nat) (a:Nat×Nat):(Nat×Nat)×Nat:=
 if b.2<a.1^^^a.2/\b.2<b.2^^^(a.1^^^a.2)then(a,a.1^^^a.2)else b
variable{e i v M c0 j0:Nat}
def Yk (a:i<2^e) (b:v<2^e):i^^^v<2^e:=a7x a b
def uq (a:e.testBit i=true):2^i<=e:=Nat.ge_two_pow_of_testBit a
theorem sF (a:e<2^(i+1)) (b:e.testBit i=false):e<2^i:=by grind[Nat.lt_pow_two_of_testBit,Nat.testBit_lt_two_pow,Nat.lt_of_lt_of_le,Nat.pow_le_pow_right]
def Dl {c:Nat}: ∀(d:List (Nat×Nat)) (b:(Nat×Nat)×Nat),b.2.testBit c=true->b.2<2^(c+1)->(∀a∈d,a.1^^^a.2<2^(c+1))->d.foldl pick b=b
 | [],b,_,_,_=>rfl
 |a::d,b,k,o,p=>by
  have h:=p a a9q;have:pick b a=b:=by
   simp only[pick];rw[if_neg];rintro⟨x,y⟩;have z:=uq k;cases cv:(a.1^^^a.2).testBit c with
   |false=>have:=sF h cv;omega
   |true=>
    have r:(b.2^^^(a.1^^^a.2)).testBit c=false:=by rw[a8j,k,cv];rfl
    have:=sF (Yk o h) r;omega
  rw[a5O,this];exact Dl d b k o (λa h=>p a (by simp[h]))
theorem Yl {b:(Nat×Nat)×Nat}{a:Nat×Nat} (c:b.2<2^e) (d:(a.1^^^a.2).testBit e=true):pick b a=(a,a.1^^^a.2):=by simp only[pick];refine if_pos ⟨a5X c (uq d),a5X c (uq (i:=e) ?_)⟩;grind[Nat.testBit_lt_two_pow]
theorem Dm (b:i.testBit e=false) (c:v.testBit e=true) (d: ∀a,e<a->i.testBit a=v.testBit a):i<v:=by
 have h:i>>>(e+1)=v>>>(e+1):=a7o λa=>by
  grind
 have k:i%2^(e+1)<2^e:=sF (a6S _ (Nat.two_pow_pos _)) (by grind);have o:2^e<=v%2^(e+1):=uq (by grind);grind[Nat.div_add_mod,Nat.shiftRight_eq_div_pow]
theorem Ym (o:i^^^v<2^(e+1)) (b:i.testBit e≠v.testBit e):i<v↔v.testBit e=true:=by
 have h: ∀a,e<a->i.testBit a=v.testBit a:=λa k=>by
  have p:(i^^^v).testBit a=false:=a6R (a5X o (a6w a9p a9p));simp_all
 cases c:v.testBit e with
 |true=>
  have d:i.testBit e=false:=by rw[c]at b;simpa using b
  simp only[iff_true];exact Dm d c h
 |false=>
  have d:i.testBit e=true:=by rw[c]at b;simpa using b
  have:=Dm c d (λa k=>(h a k).symm);grind
theorem Dn (a:Nat): ∀(b c:List Nat),b.length=c.length->(∀h∈b.zip c,h.1^^^h.2<2^(a+1))->fM b a≠fM c a-> ∀r:(Nat×Nat)×Nat,r.2<2^a->
  (((b.zip c).foldl pick r).1.1<((b.zip c).foldl pick r).1.2↔lexB (fM b a) (fM c a)=true)
 | [],[],_,_,x,_,_=>absurd rfl x
 |k::b,o::c,E,y,z,r,C=>by
  have F:b.length=c.length:=by simpa using E
  have d:=y (k,o) a9q;simp only[List.zip_cons_cons,a5O,fM,a5h,lexB]at z|-;by_cases p:k.testBit a=o.testBit a
  .rw[if_pos p];have G:(k^^^o).testBit a=false:=by rw[a8j,p];simp
   refine Dn a b c F (λh d=>y h (by simp[d])) (λx=>z ?_) _ ?_
   .rw[p];exact congrArg _ x
   .simp only[pick];split
    .exact sF d G
    .exact C
  .rw[if_neg p];have D:(k^^^o).testBit a=true:=by simp_all
   rw[Yl (a:=(k,o)) C D,Dl _ _ D d (λh d=>y h (by simp[d]))];exact Ym d p
theorem Yn {b c:List Nat} (r:b.length=c.length) (k: ∀a∈b.zip c,a.1^^^a.2<2^(e+1)) (o:fM b e=fM c e): ∀a∈b.zip c,a.1^^^a.2<2^e:=by
 intro a d;refine sF (k a d) ?_;obtain⟨h,p,rfl⟩:=a5y d;simp only[List.length_zip]at p;have x:(fM b e)[h]? =(fM c e)[h]? :=by rw[o]
 grind[fM,List.getElem?_eq_getElem,Option.some.injEq]
theorem Dp: ∀(d:Nat) (b c:List Nat),b.length=c.length->(∀h∈b.zip c,h.1^^^h.2<2^d)-> ∀a:Nat×Nat,a∈b.zip c->
  (((b.zip c).foldl pick (a,0)).1.1<((b.zip c).foldl pick (a,0)).1.2↔lexB (cb b d) (cb c d)=true)
 |0,b,c,o,p,a,r=>by
  have: ∀(k:List (Nat×Nat)),(∀h∈k,h.1^^^h.2<2^0)->k.foldl pick (a,0)=(a,0):=by
   intro k
   induction k with
   |nil=>intro _;rfl
   |cons h k ih=>simp_all [pick,if_neg,a5O]
  rw[this _ p];have z:=p a r;have x:a.1=a.2:=a7o λy=>by
   have C:(a.1^^^a.2).testBit y=false:=by simp_all
   grind
  simp[cb,lexB,x]
 |d+1,b,c,o,p,a,r=>by
  simp only[cb];rw[Dj (by simp[fM,o])];by_cases he:fM b d=fM c d
  .rw[if_pos he];exact Dp d b c o (Yn o p he) a r
  .rw[if_neg he];grind[Dn,Nat.two_pow_pos]
theorem Yo {c d:List Nat} (p:c.length=d.length): ∀a,cb c a=cb d a->(∀h∈c,h<2^a)->(∀h∈d,h<2^a)->c=d:=by
 intro a r y z;have x: ∀a,cb c a=cb d a-> ∀b,b<a->fM c b=fM d b:=by
  intro a
  induction a with
  |zero=>intro _ b k;omega
  |succ a ih=>grind[cb,List.append_inj,fM]
 refine a8E p λo C D=>a7o λb=> ?_;by_cases k:b<a
 .have E:(fM c b)[o]? =(fM d b)[o]? :=by rw[x a r b k]
  grind[fM,List.getElem?_eq_getElem]
 grind[Nat.lt_of_lt_of_le,List.getElem_mem,Nat.pow_le_pow_right,Nat.testBit_lt_two_pow]
def iG:Nat->List Bool->List UInt8
 |0,_=> []
 |b+1,a=>UInt8.ofNat (val (a.take 8))::iG b (a.drop 8)
def Dq: ∀(a:Nat) (b:List Bool),(iG a b).length=a
 |0,_=>rfl
 |a+1,b=>by simp[iG,Dq a]
def sG:List UInt8->List UInt8->Bool
 |a::c,b::d=>if a=b then sG c d else decide (a<b)
 | _,_=>false
theorem Yp (b:e<256) (c:i<256) (a:UInt8.ofNat e=UInt8.ofNat i):e=i:=by have:=congrArg UInt8.toNat a;grind[UInt8.toNat_ofNat',Nat.mod_eq_of_lt]
theorem Dr: ∀(c:Nat) (a b:List Bool),a.length=8*c->b.length=8*c->sG (iG c a) (iG c b)=lexB a b
 |0,a,b,d,r=>by
  obtain rfl:=a4N (by simpa using d);obtain rfl:=a4N (by simpa using r);rfl
 |c+1,a,b,x,hm=>by
  have h:(a.take 8).length=8:=a9r;have k:(b.take 8).length=8:=a9r;have o:val (a.take 8)<256:=by grind[nh]
  have p:val (b.take 8)<256:=by grind[nh]
  have ih:=Dr c (a.drop 8) (b.drop 8) a9r a9r
  conv=>rhs;rw[<-a5p 8 a,<-a5p 8 b]
  rw[Dj (h.trans k.symm)];simp only[iG,sG];by_cases he:a.take 8=b.take 8
  .rw[he];simp[ih]
  .rw[if_neg he,if_neg (λd=>he (val_inj (h.trans k.symm) (Yp o p d)))];have:=pr (h.trans k.symm);have y:UInt8.ofNat (val (a.take 8))<UInt8.ofNat (val (b.take 8))↔val (a.take 8)<val (b.take 8):=by rw[UInt8.lt_iff_toNat_lt];simp[a5L,a6v o,a6v p]
   simp_all
def Yq {b a c:List Bool} (d:b.length=a.length) (h:a.length=c.length) (k:lexB b a=true) (o:lexB a c=true):lexB b c=true:=by rw[<-pr d]at k;rw[<-pr h]at o;rw[<-pr (d.trans h)];omega
theorem Yr {a b:List Bool} (c:a.length=b.length) (d:lexB a b=false) (h:lexB b a=false):a=b:=by refine val_inj c ?_;have k:=pr c;have o:=pr c.symm;grind
end Go.a6
