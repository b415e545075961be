import Derived.Test.YtcfpcblgmmeioaaGreatMC
set_option linter.all false
open Option renaming some->β,none->ε
open Go.Proofs.Tryz renaming prog->γ
open List renaming replicate->ζ,range->ψ,zipWith->Α,length_append->Γ,take_of_length_le->Θ,length->α
open Bool renaming true->η,false->ι
open Go.bt.U renaming a6->θ,af->κ,ag->μ,aj->ν,al->ξ,au->ο,set_set->σ,aK->χ,bH->Μ
open BitVec renaming ofInt->π
open UInt8 renaming ofNat->ς
open Go.bt.R renaming cells->τ
set_option maxRecDepth 100000
namespace Go.Proofs.YtcfpcblgmmeioaaGreat
open Go Go.bt
structure Rd where
 b:Τ
 e:Int
def iz(a:Rd)(b:Own):bl:=.cells [.J (a.b.map ao) b,.v (.int .i64 a.e)]
def cr(a:U)(b:Nat)(c:Rd)(d:U):Prop:=∃h,(a.set b (iz c h)).sub d
variable{f u e1:U}{e i v M b9 h9:Nat}
def cr.cell{a:Rd}(b:cr u e a f):∃c,f e=β (.cells [.J (a.b.map ao) c,.v (.int .i64 a.e)]):=by obtain⟨c,b⟩:=b;exact⟨c,b _ _ (ν _ _ _)⟩
theorem cr.base{b:Rd}(a:cr f e b e1)(c:u.sub f):cr u e b e1:=by obtain⟨d,a⟩:=a;exact⟨d,ο (U.kB c) a⟩
theorem cr.set{c d:U}{a:Nat}{o:Rd}(b:cr c a o d)(h:Rd)(k:Own):cr c a h (d.set a (iz h k)):=by obtain⟨p,b⟩:=b;exact⟨k,U.BB b⟩
variable{X j6:bl}
def cr.get{b:Rd}(a:cr f i b u)(c:e≠i)(d:f e=β X):u e=β X:=by obtain⟨h,a⟩:=a;exact a _ _ (by rw[ξ _ _ c];exact d)
def cr.new{c:Rd}{ob:bl}(a:cr f i c u)(d:u e=ε):e≠i/\f e=ε/\cr (f.set e ob) i c (u.set e ob):=by
 obtain⟨h,k⟩:=a.cell;have b:e≠i:=by rintro rfl;rw[d]at k;cases k
 obtain⟨h,a⟩:=a;have o:=Μ a d;rw[ξ _ _ b]at o;refine⟨b,o,h,?_⟩;rw[U.dU _ b];exact U.kB a
def cr.other{b:Rd}{ob:bl}(a:cr f e b u)(c:i≠e):cr (f.set i ob) e b (u.set i ob):=by obtain⟨d,a⟩:=a;refine⟨d,?_⟩;rw[U.dU _ c];exact U.kB a
def Wj(a:Τ)(c:Own)(b:U)(p:c=.nil->a=[])(r:α a<=70368744177664):
  AC γ 77 [.J (a.map ao) c] b λx y=>∃d,b d=ε/\x=.ptr d 0/\cr b d ⟨a,0⟩ y:=by
 refine aZ hm KI ρ ?_;refine aI (c2 @c5 @c6) ?_;refine ak (BJ a c b p r) ?_;rintro _ D⟨h,k,rfl⟩;have o:putAt [R.J [] Own.nil,R.v (Value.int IntKind.i64 0)] 0 [R.J (a.map ao) h]=[R.J (a.map ao) h,R.v (Value.int IntKind.i64 0)]:=rfl;refine aI (aE @o @c5 @c6) ?_;refine aO λz C=>?_;refine aI (aE @o @c5 @c6) ?_;exact⟨_,θ,z,Μ k.sub C,rfl,h,U.kB k.sub⟩
def lI(a:Rd)(e:Int):Rd:=if a.e=0 then {a with e:=e}else a
variable{q b7:R}
def Wk{a:R}:putAt [q,a] 1 [b7]=[q,b7]:=rfl
def Wl{a:R}:putAt [a,q] 0 [b7]=[b7,q]:=rfl
def rD(k o:U)(c:Nat)(a:Rd)(e:Int)(d:cr k c a o):
  AC γ 134 [.ptr c 0,.v (.int .i64 e)] o λ_ p=>cr k c (lI a e) p:=by
 obtain⟨r,h⟩:=d.cell;refine aZ hm Mi ρ ?_;by_cases b:a.e=0
 .refine aI (bx (κ h) (χ h) @b @Wk @c5 @c6) ?_;refine⟨_,θ,?_⟩;rw[lI,if_pos b];exact d.set {a with e:=e} r
 .refine aI (aL (κ h) @b @c5 @c6) ?_;refine⟨_,θ,?_⟩;rw[lI,if_neg b];exact d
def dx(a:Rd)(c:Nat):Option Τ×Rd:=
 if a.e=0 then(if α a.b<c then(ε,{a with e:=20})else(β (a.b.take c),{a with b:=a.b.drop c}))else(ε,a)
def Wm(p r:U)(k:Nat)(a:Rd)(c:Nat)(F:c<=100000000)(h:cr p k a r):
  AC γ 131 [.ptr k 0,.v (.int .i64 c)] r λC D=>cr p k (dx a c).2 D/\
   (∃x,(x=.nil->(dx a c).1.getD []=[])/\C=.aF [.J (((dx a c).1.getD []).map ao) x,.v (.bool (dx a c).1.isSome)]):=by
 obtain⟨x,o⟩:=h.cell;refine aZ hm Mg ρ ?_;by_cases d:a.e=0
 .by_cases c2:α a.b<c
  .have y:(α a.b:Int)<c:=δ;have e:dx a c=(ε,{a with e:=20}):=by rw[dx,if_pos d,if_pos c2]
   rw[e];refine aI (ba (κ o) @d @y @c5 @c6) ?_;refine ak (rD p r k a 20 h) ?_;intro C G z;rw[lI,if_pos d]at z;obtain⟨L,E⟩:=z.cell;refine aI (aE (κ E) @c5 @c6) ?_;exact⟨_,θ,z,.nil,λ_=>rfl,rfl⟩
  .have y:¬(α a.b:Int)<c:=δ;have e:dx a c=(β (a.b.take c),{a with b:=a.b.drop c}):=by rw[dx,if_pos d,if_neg c2]
   rw[e];refine aI (cd (κ o) (χ o) @d @y @Wl @c5 @c6) ?_;exact⟨_,θ,h.set ⟨a.b.drop c,0⟩ .any,.any,(λh=>by cases h),rfl⟩
 .have e:dx a c=(ε,a):=by rw[dx,if_neg d]
  rw[e];refine aI (aL (κ o) @d @c5 @c6) ?_;exact⟨_,θ,h,.nil,λ_=>rfl,rfl⟩
def tu(d h:U)(c:Nat)(b:Rd)(a:Nat)(o:a<=100000000)(p:cr d c b h):
  AC γ 131 [.ptr c 0,.v (.int .i64 a)] h λr x=>cr d c (dx b a).2 x/\
   (∃k,r=.aF [.J (((dx b a).1.getD []).map ao) k,.v (.bool (dx b a).1.isSome)]):=
 (Wm d h c b a o p).mono λ_ _ ⟨y,k,_,z⟩=>⟨y,k,z⟩
def dm(a:Rd):UInt8×Rd:=((dx a 1).1.getD []|>.headD 0,(dx a 1).2)
variable{B:Τ}
theorem rE{a:Rd}(b:(dx a e).1=β B):α B=e:=by grind[dx,Option.some.injEq,List.length_take]
def rF(c d:U)(b:Nat)(a:Rd)(r:cr c b a d):
  AC γ 78 [.ptr b 0] d λk x=>cr c b (dm a).2 x/\k=.v (.int .u8 (dm a).1.toNat):=by
 refine aZ hm KK ρ ?_;refine aI (c2 @c5 @c6) ?_;refine ak (tu c d b a 1 δ r) ?_;rintro k C⟨o,D,rfl⟩;unfold dm;have h:=λaX=>rE (a:=a) (e:=1) (B:=aX);generalize dx a 1=y at*;obtain⟨aX,E⟩:=y;cases aX with
 |none=>simp only[a4G,a5V]at*;refine aI (c2 @c5 @c6) ?_;exact⟨_,θ,o,rfl⟩
 |some aX=>
  simp only[a5e,a4I]at*;have h:=h aX rfl
  match aX,h with
  |[p],_=>have z:eJ 1 (β (ao p))=β (.bR [.v (.int .u8 p.toNat)]):=rfl;simp -dsimp -implicitDefEqProofs (disch:=first|omega|assumption|(simp only[aR,Nat.reduceAdd];try omega)) only[fJ,z,go_sem,↓reduceIte,Nat.reduceEqDiff,Nat.reduceAdd,Nat.reduceSub,Nat.reduceMul,Nat.reduceLeDiff,Nat.reduceLT,Int.reduceNeg,Int.reduceToNat,Int.reduceAdd,Int.reduceSub,Int.reduceMul,Int.reduceLT,Int.reduceLE,Int.reduceEq,Int.reduceNe,c5,c6,List.headD_cons];exact⟨_,θ,o⟩
def eT(a:Τ):Nat:=a.foldl (λb c=>b*256+c.toNat) 0
def hL(a:Rd):Int×Rd:=
 match(dx a 8).1 with
 |none=>(0,(dx a 8).2)
 |some aX=>((BitVec.ofNat 64 (eT aX)^^^9223372036854775808#64).toInt,(dx a 8).2)
def BL:∀(aX:Τ)(a:Nat),aX.foldl (λa b=>a*256+b.toNat) a+1<=(a+1)*256^α aX
 |[],a=>by simp
 |b::aX,a=>by
  have c:=BL aX (a*256+b.toNat);have d:=b.toNat_lt;rw[a3I,a3e,a7k];refine a4f c ?_;rw[a7l (256^α aX) 256,<-Nat.mul_assoc];exact a3g _ δ
def BM(a:Τ):eT a<256^α a:=by have:=BL a 0;rw[eT];omega
def Wn(a:Τ)(b:Nat)(c:b<α a):eT (a.take (b+1))=eT (a.take b)*256+(a.getD b 0).toNat:=by rw[a6V,Ν c,eT,a5j];simp[eT,c]
theorem Wo(a b:Nat)(c:a<18446744073709551616)(d:b<18446744073709551616):br .or (.int .u64 a) (.int .u64 b)=β (.int .u64 ((a|||b:Nat):Int)):=by have h:br .or (.int .u64 a) (.int .u64 b)=β (.int .u64 (IntKind.u64.wrap (π 64 (a)|||π 64 (b)).toNat)):=rfl;have k:=(π 64 (a)|||π 64 (b)).isLt;grind[wrap_u64,BitVec.toNat_or,BitVec.toNat_ofNat,Nat.mod_eq_of_lt]
def BN(a b:Nat)(d:b<256):a*256|||b=a*256+b:=by have c:=a6g (i:=8) δ a;rw[a6w]at c;exact c.symm
def Wp(a:Nat)(c:a<72057594037927936):br .shl (.int .u64 a) (.int .u64 8)=β (.int .u64 ((a*256:Nat):Int)):=by have b:br .shl (.int .u64 a) (.int .u64 8)=β (.int .u64 (IntKind.u64.wrap ((a)*2^8))):=rfl;rw[b,wrap_u64 δ δ];simp
theorem Wq(a:Nat)(b:a<18446744073709551616):br .xor (.int .u64 a) (.int .u64 9223372036854775808)=β (.int .u64 ((BitVec.ofNat 64 a^^^9223372036854775808#64).toNat:Int)):=by have c:br .xor (.int .u64 a) (.int .u64 9223372036854775808)=β (.int .u64 (IntKind.u64.wrap (π 64 (a)^^^π 64 9223372036854775808).toNat)):=rfl;grind[BitVec.ofNat,π,wrap_u64]
def Wr(a:BitVec 64):IntKind.i64.wrap (a.toNat:Int)=a.toInt:=by have b:((2:Int)^IntKind.i64.bits)=18446744073709551616:=rfl;have c:((2:Int)^(IntKind.i64.bits - 1))=9223372036854775808:=rfl;have d:=a.isLt;simp only[IntKind.wrap,b,c,IntKind.signed,a4q,decide_eq_true_eq,BitVec.toInt_eq_toNat_cond];omega
theorem Ws(k o:U)(h:Nat)(c:Rd)(S:cr k h c o):
  AC γ 244 [.ptr h 0] o λy p=>cr k h (hL c).2 p/\y=.v (.int .i64 (hL c).1):=by
 refine aZ hm P4 ρ ?_;refine aI (c2 @c5 @c6) ?_;refine ak (tu k o h c 8 δ S) ?_;rintro y T⟨z,V,rfl⟩;unfold hL;have C:=λaX=>rE (a:=c) (e:=8) (B:=aX);generalize dx c 8=W at*;obtain⟨aX,n⟩:=W;cases aX with
 |none=>simp only[a4G,a5V]at*;refine aI (c2 @c5 @c6) ?_;exact⟨_,θ,z⟩
 |some aX=>
  simp only[a5e,a4I]at*;have C:=C aX rfl;refine aI (c2 @c5 @c6) ?_;refine cz (λb p=>∃a:Nat,a<=8/\p=T/\b 15=.J (aX.map ao) V/\b 16=.v (.int .i64 (α aX))/\b 17=.v (.int .i64 a)/\b 5=.v (.int .u64 (eT (aX.take a))))
   (λb _=>match b 17 with|.v (.int _ e)=>(8 - e).toNat|_=>0) ⟨0,δ,rfl,?_⟩ ?_
  .refine aI (aE @a4Q.{0} @c5 @c6) ?_;rfl
  .rintro b q⟨a,s,rfl,D,E,F,r⟩;have x:=BM (aX.take a);rw[a2X]at x;by_cases G:(a:Int)<α aX
   .have L:a<α aX:=δ;have t:eT (aX.take a)<72057594037927936:=by refine a4c x ?_;refine a4f (a4J (j:=7) δ δ) Λ
    have f:=vT L;have g:=Wn aX a L;generalize u:aX.getD a 0=d at*;have v:=d.toNat_lt;have i:IntKind.u64.wrap (d.toNat)=d.toNat:=wrap_u64 δ δ;generalize eT (aX.take a)=P at*;have j:br .or (.int .u64 ((P*256:Nat))) (.int .u64 (d.toNat))=β (.int .u64 ((P*256+d.toNat:Nat))):=by rw[Wo _ _ δ δ,BN _ _ δ]
    have l:eJ 1 (aX.map ao)[a]?=β (.bR [.v (.int .u8 d.toNat)]):=by rw[f];rfl
    simp -dsimp -implicitDefEqProofs (disch:=first|omega|assumption|(simp only[aR,Nat.reduceAdd];try omega)) only[D,E,F,r,G,go_sem,↓reduceIte,Nat.reduceEqDiff,Nat.reduceAdd,Nat.reduceSub,Nat.reduceMul,Nat.reduceLeDiff,Nat.reduceLT,Int.reduceNeg,Int.reduceToNat,Int.reduceAdd,Int.reduceSub,Int.reduceMul,Int.reduceLT,Int.reduceLE,Int.reduceEq,Int.reduceNe,c5,c6,fJ,l,Wp,i,j];refine⟨⟨a+1,δ,ρ,?_⟩,δ⟩;rw[g]
   .obtain rfl:a=8:=δ;have m:aX.take 8=aX:=a2U δ;rw[m]at r x;have w:eT aX<18446744073709551616:=by simp_all
    simp -dsimp -implicitDefEqProofs (disch:=first|omega|assumption|(simp only[aR,Nat.reduceAdd];try omega)) only[D,E,F,r,G,go_sem,↓reduceIte,Nat.reduceEqDiff,Nat.reduceAdd,Nat.reduceSub,Nat.reduceMul,Nat.reduceLeDiff,Nat.reduceLT,Int.reduceNeg,Int.reduceToNat,Int.reduceAdd,Int.reduceSub,Int.reduceMul,Int.reduceLT,Int.reduceLE,Int.reduceEq,Int.reduceNe,c5,c6,Wq,Wr];exact⟨_,θ,z⟩
def mC(a:Rd):Τ×Rd:=((dx a 32).1.getD tr,(dx a 32).2)
def BO(a:Rd):(mC a).1.length=32:=by
 unfold mC;have b:=λaX=>rE (a:=a) (e:=32) (B:=aX);cases c:(dx a 32).1 with
 |none=>rfl
 |some aX=>exact b aX c
def Wt(r D:U)(h:Nat)(b:Rd)(k:cr r h b D):
  AC γ 186 [.ptr h 0] D λc P=>cr r h (mC b).2 P/\c=c3 (mC b).1:=by
 refine aZ hm NF ρ ?_;have E:=BO b;refine aI (c2 @c5 @c6) ?_;refine aO λS T=>?_;obtain⟨F,V,k⟩:=k.new (ob:=gN) T;refine aI (c2 @c5 @c6) ?_;refine aO λW e=>?_;obtain⟨G,x,k⟩:=k.new (ob:=gN) e;obtain⟨d,x⟩:=U.gq x;refine aI (c2 @c5 @c6) ?_;refine ak (tu _ _ h b 32 δ k) ?_;rintro c f⟨y,i,rfl⟩;have o:=y.get F (by rw[ξ _ _ (Ζ d)];exact ν _ _ _);have a:=y.get G (ν _ _ _);have L:∀(c z),cr r h (dx b 32).2 ((f.set W c).set S z):=λc z=>by
  have:=(y.other (ob:=c) G).other (ob:=z) F;rw[σ]at this;refine this.base ?_;rw[U.dU _ d,σ];exact μ (μ θ V) x
 unfold mC at E|-;have p:=λaX=>rE (a:=b) (e:=32) (B:=aX);generalize dx b 32=g at*;obtain⟨aX,j⟩:=g;unfold gN at o a;have l:(ζ 32 (R.v (Value.int IntKind.u8 0))).length=32:=rfl;cases aX with
 |none=>
  simp only[a4G,a5V]at*;simp -dsimp -implicitDefEqProofs (disch:=first|omega|assumption|(simp only[aR,Nat.reduceAdd];try omega)) only[go_sem,↓reduceIte,Nat.reduceEqDiff,Nat.reduceAdd,Nat.reduceSub,Nat.reduceMul,Nat.reduceLeDiff,Nat.reduceLT,Int.reduceNeg,Int.reduceToNat,Int.reduceAdd,Int.reduceSub,Int.reduceMul,Int.reduceLT,Int.reduceLE,Int.reduceEq,Int.reduceNe,c5,c6,κ a,χ a,vX (κ a)];refine B1 ?_ a ?_ ?_
  .simp[bc]
  .simp
  have C:putAt (ζ 32 (R.v (Value.int IntKind.u8 0))) 0 (flat (List.take 32 []))=tr.map ao:=rfl;rw[C];refine aI (cd @E @d (Ζ d) (κ o) (χ o) @c5 @c6) ?_;exact⟨_,θ,L _ _⟩
 |some aX=>
  simp only[a5e,a4I]at*;have p:=p aX rfl;simp -dsimp -implicitDefEqProofs (disch:=first|omega|assumption|(simp only[aR,Nat.reduceAdd];try omega)) only[go_sem,↓reduceIte,Nat.reduceEqDiff,Nat.reduceAdd,Nat.reduceSub,Nat.reduceMul,Nat.reduceLeDiff,Nat.reduceLT,Int.reduceNeg,Int.reduceToNat,Int.reduceAdd,Int.reduceSub,Int.reduceMul,Int.reduceLT,Int.reduceLE,Int.reduceEq,Int.reduceNe,c5,c6,κ a,χ a,vX (κ a)];refine B1 ?_ a ?_ ?_
  .rw[sZ];trivial
  .simp
  have C:putAt (ζ 32 (R.v (Value.int IntKind.u8 0))) 0 (flat (List.take 32 (List.map ao aX)))=aX.map ao:=by rw[a2U (by simp[p]),qU,sX (by simp[p])]
  rw[C];refine aI (cd @p @d (Ζ d) (κ o) (χ o) @c5 @c6) ?_;exact⟨_,θ,L _ _⟩
def q9(a:Rd):Rd:=if 0<α a.b then lI a 22 else a
def Wu(c d:U)(b:Nat)(a:Rd)(h:cr c b a d):
  AC γ 80 [.ptr b 0] d λo y=>cr c b (q9 a) y/\o=.v (.int .i64 (q9 a).e):=by
 obtain⟨C,p⟩:=h.cell;refine aZ hm KM ρ ?_;unfold q9;by_cases r:0<α a.b
 .have k:(0:Int)<α a.b:=δ;refine aI (aL (κ p) @k @c5 @c6) ?_;refine ak (rD c d b a 22 h) ?_;intro o D x;obtain⟨E,z⟩:=x.cell;rw[if_pos r];refine aI (aE (κ z) @c5 @c6) ?_;exact⟨_,θ,x⟩
 .have k:¬(0:Int)<α a.b:=δ;rw[if_neg r];refine aI (aL (κ p) @k @c5 @c6) ?_;exact⟨_,θ,h⟩
def nF(a:Nat):Τ:=[ς (a>>>16),ς (a>>>8),ς a]
def mD(a:Ρ):Τ:=ς (α a)::a.flatMap jU
theorem rG(a:Nat):(nF a).length=3:=rfl
theorem BP(a:Ρ):(a.flatMap jU).length=8*α a:=by
 induction a with
 |nil=>rfl
 |cons b a ih=>rw[a3A,a2V,ih,BK,a3e];omega
def wG(a:Ρ):(mD a).length=1+8*α a:=by rw[mD,a3e,BP];omega
theorem BQ(b a:Nat)(c:a<=64):br .shr (.int .i64 (b:Int)) (.int .u64 (a:Int))=β (.int .i64 ((b>>>a:Nat):Int)):=by
 have d:br .shr (.int .i64 (b)) (.int .u64 (a))=β (.int .i64 ((b:Int).fdiv (2^a))):=by have hm:min a IntKind.i64.bits=a:=a4w c;simp[br,fE,nh,hm]
 grind[Nat.shiftRight_eq_div_pow,Int.ofNat_fdiv]
def BR(d h:U)(b:Nat)(c:Τ)(a:Nat)(F:a<=1048576)(r:cZ d b c h)(G:α c<=1000000000000):
  AC γ 127 [.ptr b 0,.v (.int .i64 a)] h λ_ x=>cZ d b (c++nF a) x:=by
 refine aZ hm M8 ρ ?_;have k:br .shr (.int .i64 (a)) (.int .u64 16)=β (.int .i64 ((a>>>16))):=BQ a 16 δ;have o:br .shr (.int .i64 (a)) (.int .u64 8)=β (.int .i64 ((a>>>8))):=BQ a 8 δ;have p:(0:Int)<=a:=δ;have c2:(a:Int)<=1048576:=δ;refine aI (ba @k @o @oG @p @c2) ?_;refine eb θ (by simp[bc,τ]) λy z C=>?_;refine aI (ba @k @o @oG @p @c2) ?_;refine ak (wE d z b c (nF a) y (r.mono C.sub) (by rw[rG];omega)) ?_;intro L D E;refine dS ?_;exact⟨D,θ,E⟩
def ab(a:Ρ):Χ:=a.map λb=>.v (.int .i64 b)
def er{a:Ρ}{b:Nat}(c:b<α a):(ab a)[b]?=β (.v (.int .i64 (a.getD b 0))):=by simp[ab,c]
variable{n b6:Ρ}
theorem bK:(ab n).length=α n:=by simp[ab]
theorem tv(h o:U)(c:Nat)(k:Τ)(a:Ρ)(D:Own)(W:α a<=255)(L:cZ h c k o)(e:α k<=1000000000000):
  AC γ 129 [.ptr c 0,.J (ab a) D] o λ_ p=>cZ h c (k++mD a) p:=by
 refine aZ hm Mc ρ ?_;have c2:¬(255:Int)<α a:=δ;have E:=bK (n:=a);refine aI (aE @E @c2 @oG) ?_;refine ak (oQ h o c k _ L δ) ?_;intro P f g;refine aI @E ?_;refine cz (λd p=>∃b:Nat,b<=α a/\cZ h c (k++(ς (α a)::(a.take b).flatMap jU)) p/\d 0=.ptr c 0/\d 17=.J (ab a) D/\d 18=.v (.int .i64 (α a))/\d 19=.v (.int .i64 b))
  (λd _=>match d 19 with|.v (.int _ S)=>(α a - S).toNat|_=>0) ⟨0,δ,by trivial,?_⟩ ?_
 .exact pW
 .rintro d F⟨b,i,r,x,y,z,C⟩;by_cases G:(b:Int)<α a
  .have T:b<α a:=δ;have V:=er T;refine aI (cd @x @y @z @C @G @fJ @V) ?_;refine ak (Wd h F c _ _ r ?_) ?_;grind[BP,Γ,List.length_cons,List.length_take];intro P j l;refine aI (aL @x @y @z @C) ?_;refine⟨⟨b+1,δ,?_,ρ⟩,δ⟩;grind[jU,List.take_succ,List.getElem?_eq_getElem,List.getD]
  .obtain rfl:b=α a:=δ;refine aI (ba @x @y @z @C @G) ?_;refine⟨F,θ,?_⟩;rw[a3K]at r;exact r
def Wv(h a:U)(b:Nat)(c:Τ)(k:cZ h b c a):
  AC γ 76 [.ptr b 0] a λo p=>p=a/\o=.v (.int .i64 0):=by
 obtain⟨r,d⟩:=k.cell;refine aZ hm KG ρ ?_;have x:aP ι 1 ([R.J (c.map ao) r,.v (.int .i64 0)].drop 1)=.v (.int .i64 0):=rfl;unfold tt at d;refine aI (c2 (κ d) @x) ?_;exact⟨a,θ,rfl⟩
def jV(b:Nat)(a:Rd):Nat×Rd:=
 match(dx a 3).1 with
 |none=>(0,(dx a 3).2)
 |some aX=>if min b 1048576<eT aX then(0,lI (dx a 3).2 10)else(eT aX,(dx a 3).2)
theorem BS(a b:Nat)(c:a<4611686018427387904)(d:b<4611686018427387904):br .or (.int .i64 a) (.int .i64 b)=β (.int .i64 ((a|||b:Nat):Int)):=by
 have h:br .or (.int .i64 a) (.int .i64 b)=β (.int .i64 (IntKind.i64.wrap (π 64 (a)|||π 64 (b)).toNat)):=rfl;have k:a|||b<4611686018427387904:=Nat.or_lt_two_pow (n:=62) c d
 grind[BitVec.toNat_or,BitVec.toNat_ofNat,Nat.mod_eq_of_lt,wrap_i64]
theorem vU(b:UInt8)(a:Nat)(c:a<=16):br .shl (.int .i64 (b.toNat:Int)) (.int .u64 (a:Int))=β (.int .i64 ((b.toNat*2^a:Nat):Int)):=by
 have k:=b.toNat_lt;have o:br .shl (.int .i64 (b.toNat)) (.int .u64 (a))=β (.int .i64 (IntKind.i64.wrap ((b.toNat)*2^(min (a:Int).toNat 64)))):=by have d:¬(a)<0:=δ;simp only[br,fE,nh,d,if_false,if_true];rfl
 have hm:min (a:Int).toNat 64=a:=δ;have h:2^a<=65536:=a4J δ c;have p:b.toNat*2^a<=256*65536:=a6l δ h;grind[wrap_i64]
theorem Ww(a b c:UInt8):a.toNat*65536|||b.toNat*256|||c.toNat=eT [a,b,c]:=by
 have h:=a.toNat_lt;have k:=b.toNat_lt;have d:=c.toNat_lt;have o:a.toNat*65536|||b.toNat*256=a.toNat*65536+b.toNat*256:=by have:=a6g (a:=a.toNat) (i:=16) (b:=b.toNat*256) δ;rw[a6w]at this;exact this.symm
 have p:(a.toNat*256+b.toNat)*256|||c.toNat=(a.toNat*256+b.toNat)*256+c.toNat:=BN _ _ d
 grind[eT]
def Wx(a:α B=3):eT B<16777216:=by have:=BM B;rw[a]at this;exact this
def BT(o r:U)(k:Nat)(d:Nat)(n:d<=1048576)(h:Rd)(E:cr o k h r):
  AC γ 185 [.ptr k 0,.v (.int .i64 d)] r λx F=>cr o k (jV d h).2 F/\x=.v (.int .i64 (jV d h).1):=by
 refine aZ hm NC ρ ?_;refine dS ?_;refine ak (tu o r k h 3 δ E) ?_;rintro x G⟨y,q,rfl⟩;unfold jV;have p:=λaX=>rE (a:=h) (e:=3) (B:=aX);generalize dx h 3=L at*;obtain⟨aX,P⟩:=L;cases aX with
 |none=>simp only[a4G,a5V]at*;refine dS ?_;exact⟨_,θ,y⟩
 |some aX=>
  simp only[a5e,a4I]at*;have p:=p aX rfl;have s:=Wx p
  match aX,p with
  |[a,b,c],_=>
   have S:eJ 1 (β (ao a))=β (.bR [.v (.int .u8 a.toNat)]):=rfl;have T:eJ 1 (β (ao b))=β (.bR [.v (.int .u8 b.toNat)]):=rfl;have V:eJ 1 (β (ao c))=β (.bR [.v (.int .u8 c.toNat)]):=rfl;have t:=a.toNat_lt;have u:=b.toNat_lt;have v:=c.toNat_lt;have W:IntKind.i64.wrap (a.toNat)=a.toNat:=wrap_i64 δ δ;have e:IntKind.i64.wrap (b.toNat)=b.toNat:=wrap_i64 δ δ;have f:IntKind.i64.wrap (c.toNat)=c.toNat:=wrap_i64 δ δ;have g:br .shl (.int .i64 (a.toNat)) (.int .u64 16)=β (.int .i64 ((a.toNat*65536:Nat))):=vU a 16 δ;have i:br .shl (.int .i64 (b.toNat)) (.int .u64 8)=β (.int .i64 ((b.toNat*256:Nat))):=vU b 8 δ;have j:br .or (.int .i64 ((a.toNat*65536:Nat))) (.int .i64 ((b.toNat*256:Nat)))=β (.int .i64 ((a.toNat*65536|||b.toNat*256))):=BS _ _ δ δ;have w:a.toNat*65536|||b.toNat*256<16777216:=Nat.or_lt_two_pow (n:=24) δ δ
   have l:br .or (.int .i64 ((a.toNat*65536|||b.toNat*256))) (.int .i64 (c.toNat))=β (.int .i64 ((eT [a,b,c]))):=by rw[BS _ _ δ δ,Ww]
   simp -dsimp -implicitDefEqProofs (disch:=first|omega|assumption|(simp only[aR,Nat.reduceAdd];try omega)) only[fJ,S,T,V,↓iV,iW,ah,ofConst,cv,simprocAttr,fe,a5o,↓B3,B4,ne_eq,not_true_eq_false,not_false_eq_true,Int.reduceNe,a5s,a5R,↓B9,Ba,W,e,f,g,i,j,l];have C:min (d:Int) 1048576=((min d 1048576)):=δ;by_cases D:min d 1048576<eT [a,b,c]
   .have z:((min d 1048576))<(eT [a,b,c]:Int):=δ;refine aI (c2 @C @z) ?_;refine ak (rD o G k P 10 y) ?_;intro x A m;refine dS ?_;rw[if_pos D];exact⟨_,θ,m,rfl⟩
   .have z:¬((min d 1048576))<(eT [a,b,c]:Int):=δ;refine aI (c2 @C @z) ?_;rw[if_neg D];exact⟨_,θ,y,rfl⟩
theorem BU(a:Nat)(b:Rd):(jV a b).1<=a/\(jV a b).1<=1048576:=by grind[jV]
def iX:Nat->Rd->Ρ->Ρ×Rd
 |0,a,acc=>(acc,a)
 |b+1,a,acc=>iX b (hL a).2 (if(hL a).2.e=0 then acc++[(hL a).1]else acc)
def ho(c:Nat)(d:Rd):Ρ×Rd:=
 let a:=dm d
 let b:=iX a.1.toNat (if c<a.1.toNat then lI a.2 10 else a.2) []
 if b.2.e=0 then b else([],b.2)
theorem BV:∀(c:Nat)(a:Rd)(b:Ρ),(iX c a b).1.length<=α b+c
 |0,a,b=>by simp[iX]
 |c+1,a,b=>by
  rw[iX];have:=BV c (hL a).2 (if(hL a).2.e=0 then b++[(hL a).1]else b);grind
theorem wH(b:Nat)(a:Rd):(ho b a).1.length<=255:=by unfold ho;have c:=BV (dm a).1.toNat (if b<(dm a).1.toNat then lI (dm a).2 10 else(dm a).2) [];have d:=(dm a).1.toNat_lt;grind
def cr.full{c:Rd}(d:cr u e c f):cr (f.del e) e c f:=by
 obtain⟨h,k⟩:=d.cell;refine⟨h,λo p a=>?_⟩;by_cases b:o=e
 .subst b;rw[ν]at a;rw[k];exact a
 .rw[ξ _ _ b,U.eg _ b]at a;exact a
def BW(d:(f.set e X).sub u)(h:f e=ε):f.sub (u.del e):=λb k a=>by
 have c:b≠e:=by rintro rfl;rw[h]at a;cases a
 rw[U.eg _ c];exact d b k (by rw[ξ _ _ c];exact a)
def dv.step{d o p:U}{a r:Nat}{E x:Rd}{F:Own}{y:Χ}{h:Own}(z:bj (d.set a (iz E F)) o r y h)(G:d a=ε)(L:cr (o.del a) a x p):∃k,bj (d.set a (iz x k)) p r y h:=by
 obtain⟨k,C⟩:=L;refine⟨k,?_,?_⟩
 .refine ο ?_ C;exact U.kB (BW z.sub G)
 .have b:=z.2;cases h with
  |buf P S=>
   have c:P≠a:=by rintro rfl;have:=b.1;rw[ν]at this;cases this
   have D:=b.1;rw[ξ _ _ c]at D;exact⟨by rw[ξ _ _ c];exact D,C _ _ (by rw[ξ _ _ c,U.eg _ c];exact b.2)⟩
  |_=>exact b
variable{g A c0:Χ}{O e4 h5:Own}
def dv.rs{a:Rd}(b:bj (f.set e (iz a O)) u i g e4):cr f e a u:=⟨O,b.sub⟩
theorem tw(r j:U)(b:Nat)(x:Nat)(k3:x<=1048576)(P:Rd)(H:r b=ε)(I:cr r b P j):
  AC γ 187 [.ptr b 0,.v (.int .i64 x)] j λy S=>cr r b (ho x P).2 S/\∃F,y=.J (ab (ho x P).1) F:=by
 refine aZ hm NH ρ ?_;refine dS ?_;refine ak (rF r j b P I) ?_;rintro y K⟨l,rfl⟩;unfold ho;generalize dm P=M at*;obtain⟨o,m⟩:=M;simp only at l|-;have k4:=o.toNat_lt;have n:IntKind.i64.wrap (o.toNat)=o.toNat:=wrap_i64 δ δ;have N:∃G,G=(if x<o.toNat then lI m 10 else m):=⟨_,rfl⟩;obtain⟨G,T⟩:=N;rw[<-T];refine aI @n ?_;refine rm (λp S=>p 0=.ptr b 0/\p 5=.v (.int .i64 o.toNat)/\cr r b G S) ?_ ?_ ?_
 .intro d;have q:x<o.toNat:=by have:=of_decide_eq_true d;omega
  rw[if_pos q]at T;refine dS ?_;refine ak (rD r K b m 10 l) ?_;intro y O V;refine aI @n ?_;rw[T];exact V
 .intro d;have q:¬x<o.toNat:=by have:=of_decide_eq_false d;omega
  rw[if_neg q]at T;refine aI @n ?_;rw[T];exact l
 rintro p O⟨v,w,V⟩;generalize o.toNat=h at*;refine aI (c2 @v @w) ?_;refine cz (λp S=>∃(c:Nat)(a:Rd)(k:Ρ)(g F:Own),c<=h/\iX (h - c) a k=iX h G []/\α k<=c/\bj (r.set b (iz a F)) S 1 (ab k) g/\p 0=.ptr b 0/\p 6=.J (ab k) g/\p 16=.v (.int .i64 h)/\p 17=.v (.int .i64 c))
  (λp _=>match p 17 with|.v (.int _ o)=>(h - o).toNat|_=>0) ?_ ?_
 .obtain⟨F,V⟩:=V;refine⟨0,G,[],.nil,F,δ,rfl,ρ,bj.nil V,?_⟩;refine aI (c2 @v @w) ?_;rfl
 .rintro k5 A⟨c,a,k,g,F,k6,L,k7,W,z,C,D,E⟩;by_cases s:(c:Int)<h
  .refine aI (ba @z @C @D @E @s) ?_;refine ak (Ws (A.del b) A b a (dv.rs W).full) ?_;rintro y k8⟨t,rfl⟩;have Q:iX (h - c) a k=iX (h -(c+1)) (hL a).2 (if(hL a).2.e=0 then k++[(hL a).1]else k):=by rw[show h - c=(h -(c+1))+1 by omega];rfl
   rw[Q]at L;obtain⟨k9,B⟩:=dv.step W H t;generalize hL a=X at*;obtain⟨y,i⟩:=X;simp only at t B L|-;obtain⟨u,e⟩:=t.cell;have f:aP ι 1 ([R.J (i.b.map ao) u,.v (.int .i64 i.e)].drop 1)=.v (.int .i64 i.e):=rfl;by_cases d:i.e=0
   .rw[if_pos d]at L;refine aI (cd @z @C @D @E (κ e) @f @d) ?_;refine eb θ (by simp[bc,τ]) λl0 l1 Y=>?_;refine aI (aL @z @C @D @E) ?_;refine ei (B.mono Y.sub) (by simp[bc,ab,τ]) (by simp[bc,τ]) (by simp[bK];omega) (by simp[bK];omega) λl2 l3 Z=>?_;refine aI (aL @z @C @D @E) ?_;have k0:ab k++[R.v (.int .i64 y)]=ab (k++[y]):=by simp[ab]
    rw[k0]at Z|-;grind
   .rw[if_neg d]at L;refine aI (cd @z @C @D @E (κ e) @f @d) ?_;grind
  .obtain rfl:c=h:=δ;rw[a5d]at L;have k2:iX c G []=(k,a):=by rw[<-L];rfl
   rw[k2];obtain⟨u,e⟩:=(dv.rs W).cell;have f:aP ι 1 ([R.J (a.b.map ao) u,.v (.int .i64 a.e)].drop 1)=.v (.int .i64 a.e):=rfl;by_cases d:a.e=0
   .refine aI (bs @z @C @D @E @s (κ e) @f @d) ?_;exact⟨_,θ,dv.rs W,g,rfl⟩
   .refine aI (bs @z @C @D @E @s (κ e) @f @d) ?_;exact⟨_,θ,dv.rs W,.nil,rfl⟩
def headD(b:List Τ)(a:Nat):Τ:=if a=0 then tr else b.getD (a - 1) tr
def Wy(a:Int)(b c:Τ)(d:Int)(h:R):Χ:=wF a b c++[.v (.int .i64 d),h]
structure wI where
 o:hK
 st:Int
 wJ:Option (hK×hK)
def wI.ok(a:wI):Prop:=a.o.ok/\∀b c,a.wJ=β (b,c)->b.ok/\c.ok
def BX(a:hK)(b:Int)(c:R):Χ:=Wy a.n a.h a.d b c
def FS(c:U)(d:Nat)(a:wI)(h:U):Prop:=
 match a.wJ with
 |none=>(c.set d (.cells (BX a.o a.st (.v (.pointer ε))))).sub h
 |some (k,o)=>∃b,c b=ε/\b≠d/\((c.set d (.cells (BX a.o a.st (.ptr b 0)))).set b (.cells (k.C++o.C))).sub h
def Wz(c d:U)(a:Nat)(b:Τ)(h:Bool)(o:cZ c a b d)(p:α b+1<=70368744177664):
  AC γ 206 [.ptr a 0,.v (.bool h)] d λ_ r=>cZ c a (b++[if h then 1 else 0]) r:=by
 refine aZ hm NX ρ ?_;cases h
 .refine aI (c2 @c5 @c6) ?_;refine ak (oQ c d a b 0 o p) ?_;intro x y k;refine aI (c2 @c5 @c6) ?_;exact⟨_,θ,k⟩
 .refine aI (c2 @c5 @c6) ?_;refine ak (oQ c d a b 1 o p) ?_;intro x y k;refine aI (c2 @c5 @c6) ?_;exact⟨_,θ,k⟩
theorem WA(a c:Τ)(D E:Own)(h:U)(e:α a<=70368744177664):
  AC γ 81 [.J (a.map ao) D,.J (c.map ao) E] h λL z=>z=h/\L=.v (.bool (decide (a=c))):=by
 refine aZ hm KO ρ ?_;by_cases f:α a=α c
 .have k:(α a:Int)=α c:=δ;refine aI (aE @k @c5 @c6) ?_;rw[<-k];refine cz (λd z=>∃b:Nat,b<=α a/\z=h/\d 0=.J (a.map ao) D/\d 1=.J (c.map ao) E/\d 12=.v (.int .i64 (α a))/\d 13=.v (.int .i64 b)/\a.take b=c.take b)
   (λd _=>match d 13 with|.v (.int _ P)=>(α a - P).toNat|_=>0) ⟨0,δ,rfl,?_⟩ ?_
  .exact hh (aE @a4Q.{0} @c5 @c6)
  .rintro d F⟨b,g,rfl,o,p,r,x,i⟩;by_cases y:(b:Int)<α a
   .have S:b<α a:=δ;have T:b<α c:=δ;have V:eJ 1 (a.map ao)[b]?=β (.bR [.v (.int .u8 (a.getD b 0).toNat)]):=by rw[vT S];rfl
    have W:eJ 1 (c.map ao)[b]?=β (.bR [.v (.int .u8 (c.getD b 0).toNat)]):=by rw[vT T];rfl
    simp -dsimp -implicitDefEqProofs (disch:=first|omega|assumption|(simp only[aR,Nat.reduceAdd];try omega)) only[o,p,r,x,y,fJ,V,W,go_sem,simprocAttr,c5,c6];by_cases G:a.getD b 0=c.getD b 0
    .have C:(((a.getD b 0).toNat:Int)=(c.getD b 0).toNat)=True:=by rw[G];simp
     simp -dsimp -implicitDefEqProofs (disch:=first|omega|assumption|(simp only[aR,Nat.reduceAdd];try omega)) only[o,p,r,x,y,C,go_sem,simprocAttr,c5,c6];refine⟨⟨b+1,δ,ρ,?_⟩,δ⟩;grind[List.take_succ,List.getElem?_eq_getElem,List.getD]
    .have C:(((a.getD b 0).toNat:Int)=(c.getD b 0).toNat)=False:=by simp only[eq_iff_iff,iff_false];grind[UInt8.toNat_inj]
     simp -dsimp -implicitDefEqProofs (disch:=first|omega|assumption|(simp only[aR,Nat.reduceAdd];try omega)) only[o,p,r,x,y,C,go_sem,simprocAttr,c5,c6];refine⟨F,θ,rfl,?_⟩;have:a≠c:=by rintro rfl;exact G rfl
     simp[this]
   .obtain rfl:b=α a:=δ;simp -dsimp -implicitDefEqProofs (disch:=first|omega|assumption|(simp only[aR,Nat.reduceAdd];try omega)) only[o,p,r,x,y,go_sem,simprocAttr,c5,c6];refine⟨F,θ,rfl,?_⟩;grind
 .have k:((α a:Int)=α c)=False:=by grind
  refine aI (aE @k @c5 @c6) ?_;refine⟨h,θ,rfl,?_⟩;have:a≠c:=by rintro rfl;omega
  simp[this]
def mE(a:Rd):Bool×Rd:=(decide ((dm a).1=1),if 1<(dm a).1.toNat then lI (dm a).2 21 else(dm a).2)
theorem WB(d h:U)(b:Nat)(c:Rd)(y:cr d b c h):
  AC γ 241 [.ptr b 0] h λk z=>cr d b (mE c).2 z/\k=.v (.bool (mE c).1):=by
 refine aZ hm OY ρ ?_;refine aI (c2 @c5 @c6) ?_;refine ak (rF d h b c y) ?_;rintro k C⟨o,rfl⟩;unfold mE;generalize dm c=D at*;obtain⟨a,E⟩:=D;simp only at o|-;have r:decide ((a.toNat:Int)=1)=decide (a=1):=by
  have:((a.toNat:Int)=1)↔a=1:=by rw[<-a3Z];grind
  simp only[this]
 by_cases x:1<a.toNat
 .have p:(1:Int)<a.toNat:=δ;refine aI (aE @p @c5 @c6) ?_;refine ak (rD d C b E 21 o) ?_;intro k G F;rw[if_pos x];refine aI (aE @r @c5 @c6) ?_;exact⟨_,θ,F⟩
 .have p:¬(1:Int)<a.toNat:=δ;rw[if_neg x];refine aI (aL @p @r @c5 @c6) ?_;exact⟨_,θ,o⟩
structure an where
 sum:Τ
 aT:Ρ
 aS:Ρ
 live:Int
 size:Int
 key:Ρ
 deriving DecidableEq
def aB:an:=⟨ζ 32 0,[],[],0,0,[]⟩
structure bQ where
 kind:UInt8
 rows:List (Ρ×Bool)
 kids:List an
 deriving DecidableEq
def dD(b c:Ρ)(a:Nat):Bool:=decide (1<=a)&&decide (a<=8)&&decide (α b=a)&&decide (α c=a)&&(ψ a).all λd=>decide (b.getD d 0<=c.getD d 0)
def eK(b:Nat)(a:an):Bool:=
 decide (a=aB)||(!(decide (a.size<1)||decide (1048576<a.size)||decide (a.live<0)||decide (a.size<a.live))&&
  if a.live=0 then decide (α a.aT=0)&&decide (α a.aS=0)else dD a.aT a.aS b)
def dE(c:Nat)(a:bQ):Bool:=
  a.rows.all (λd=>decide (α d.1=c))&&a.kids.all (eK c)&&
  (if a.kind=1 then decide (α a.rows=1)&&decide (α a.kids=2)&&a.kids.all (λb=>decide (α b.key=0))
   else if a.kind=2 then decide (1<=α a.rows)&&decide (α a.rows<=4)&&decide (α a.kids=0)&&a.rows.all (λd=>d.2)
   else if a.kind=3 then decide (α a.rows=0)&&decide (2<=α a.kids)&&decide (α a.kids<=4)&&a.kids.all (λb=>decide (α b.key=c)&& !decide (b=aB))
   else ι)
def iY(a:Ρ×Bool):Τ:=(if a.2=η then(1:UInt8)else 0)::mD a.1
def iZ(a:an):Τ:=a.sum++(nF a.live.toNat++(nF a.size.toNat++(mD a.aT++(mD a.aS++mD a.key))))
def da(a:bQ):Τ:=a.kind::ς (α a.rows)::(a.rows.flatMap iY++ς (α a.kids)::a.kids.flatMap iZ)
def rH(b:Nat)(a:bQ):Option Τ:=if dE b a=η then β (da a)else ε
def dV(b a:Ρ×Ρ):Ρ×Ρ:=
 if dD b.1 b.2 (α b.1)=η then
  (if dD a.1 a.2 (α a.1)=η then(if α b.1=α a.1 then(Α min b.1 a.1,Α max b.2 a.2)else([],[]))else b)
 else if dD a.1 a.2 (α a.1)=η then a else([],[])
def gx(a:Ρ):Ρ×Ρ:=if 1<=α a/\α a<=8 then(a,a)else([],[])
structure gy where
 live:Int
 size:Int
 bf:Ρ×Ρ
def fy(a:gy)(b:Ρ×Bool):gy:=if b.2=η then {a with live:=a.live+1,bf:=dV a.bf (gx b.1)}else a
def gd(b:gy)(a:an):gy:=⟨b.live+a.live,b.size+a.size,dV b.bf (a.aT,a.aS)⟩
def fz(a:bQ):gy:=a.kids.foldl gd (a.rows.foldl fy ⟨0,α a.rows,([],[])⟩)
def keyOf(a:bQ):Ρ:=if a.kind=2 then(a.rows.headD ([],ι)).1 else if a.kind=3 then(a.kids.headD aB).key else []
def gS(a:Τ):Τ:=jT (preB 80 [a])
def gf(a:bQ):an:=⟨gS (da a),(fz a).bf.1,(fz a).bf.2,(fz a).live,(fz a).size,keyOf a⟩
def fg(b:Nat)(a:bQ):Option an:=if dE b a=η then(if 1048576<(fz a).size then ε else β (gf a))else ε
def hM(b:Nat)(a:Rd):(Ρ×Bool)×Rd:=(((ho b (mE a).2).1,(mE a).1),(ho b (mE a).2).2)
def gT(a:Nat)(p:Rd):an×Rd:=
 let b:=mC p
 let c:=jV 1048576 b.2
 let d:=jV 1048576 c.2
 let h:=ho a d.2
 let k:=ho a h.2
 let o:=ho a k.2
 (⟨b.1,h.1,k.1,(c.1:Int),(d.1:Int),o.1⟩,o.2)
def eU{b:Type}(c:Rd->b×Rd):Nat->Rd->List b->List b×Rd
 |0,a,acc=>(acc,a)
 |d+1,a,acc=>eU c d (c a).2 (acc++[(c a).1])
def mF(a:Nat)(o:Τ):bQ×Rd:=
 let b:=dm ⟨o,0⟩
 let c:=dm b.2
 let d:=eU (hM a) c.1.toNat c.2 []
 let h:=dm d.2
 let k:=eU (gT a) h.1.toNat h.2 []
 (⟨b.1,d.1,k.1⟩,q9 k.2)
def nG(a:Nat)(b:Τ):Option bQ:=
 if(mF a b).2.e=0/\dE a (mF a b).1=η/\da (mF a b).1=b then β (mF a b).1 else ε
abbrev dc(b:Ρ):Prop:=∀a∈b,-9223372036854775808<=a/\a<9223372036854775808
theorem tx(a b:Τ):dx ⟨a++b,0⟩ (α a)=(β a,⟨b,0⟩):=by unfold dx;simp
def qa(a:UInt8)(b:Τ):dm ⟨a::b,0⟩=(a,⟨b,0⟩):=by have:=tx [a] b;rfl
def WC(a:Nat)(b:a<18446744073709551616):eT (ej a)=a:=by simp only[eT,ej,a3I,a5Q,a4n,a4g];omega
theorem WD(a:Int)(b: -9223372036854775808<=a)(c:a<9223372036854775808):(BitVec.ofNat 64 (cp a)^^^9223372036854775808#64).toInt=a:=by grind[π,cp,BitVec.setWidth_eq,BitVec.xor_assoc,BitVec.xor_self,BitVec.xor_zero,BitVec.toInt_ofInt]
def WE(a:Int)(b:Τ)(d: -9223372036854775808<=a)(h:a<9223372036854775808):hL ⟨jU a++b,0⟩=(a,⟨b,0⟩):=by have c:=tx (jU a) b;rw[BK]at c;unfold hL;rw[c];simp only;rw[jU,WC _ (by exact(π 64 a^^^π 64 9223372036854775808).isLt),WD a d h]
theorem WG(a b:Τ)(c:α a=32):mC ⟨a++b,0⟩=(a,⟨b,0⟩):=by grind[tx,mC]
def WH(a:Bool)(b:Τ):mE ⟨(if a=η then(1:UInt8)else 0)::b,0⟩=(a,⟨b,0⟩):=by unfold mE;rw[qa];cases a<;>rfl
theorem BY(a:Nat)(c:a<=1048576)(b:Τ):jV 1048576 ⟨nF a++b,0⟩=(a,⟨b,0⟩):=by have d:=tx (nF a) b;grind[rG,jV,eT,nF,UInt8.toNat_ofNat',Nat.shiftRight_eq_div_pow]
def BZ:∀(a c:Ρ)(b:Τ),dc a->iX (α a) ⟨a.flatMap jU++b,0⟩ c=(c++a,⟨b,0⟩)
 |[],c,b,_=>by simp[iX]
 |d::a,c,b,h=>by
  have k:=h d ρ;rw[a3e,iX,a3A,a3o,WE d _ k.1 k.2];simp only[if_true];rw[BZ a _ b (λo p=>h o (by simp[p]))];simp
def tz(a:Ρ)(b:Nat)(c:Τ)(o:α a<=b)(p:α a<=255)(d:dc a):ho b ⟨mD a++c,0⟩=(a,⟨c,0⟩):=by
 have h:(ς (α a)).toNat=α a:=by rw[a4n];omega
 unfold ho;have k:¬b<α a:=δ;rw[mD,a4l,qa];simp only[h,k,if_false,BZ a [] c d];simp
def C0(a:Ρ×Bool)(b:Nat)(c:Τ)(d:α a.1<=b)(h:α a.1<=255)(k:dc a.1):hM b ⟨iY a++c,0⟩=(a,⟨c,0⟩):=by unfold hM;rw[iY,a4l,WH,tz _ _ _ d h k]
structure an.In(d:Nat)(k:an):Prop where
 sum:α k.sum=32
 aT:dc k.aT
 aS:dc k.aS
 key:dc k.key
 C1:α k.aT<=d
 C2:α k.aS<=d
 C3:α k.key<=d
 rI:0<=k.live
 live:k.live<=1048576
 rJ:0<=k.size
 size:k.size<=1048576
def C4(b:an)(c:Nat)(x:c<=255)(d:Τ)(a:b.In c):gT c ⟨iZ b++d,0⟩=(b,⟨d,0⟩):=by have y:=a.live;have h:=a.rI;have z:=a.size;have k:=a.rJ;have o:=a.C1;have p:=a.C2;have r:=a.C3;unfold gT;simp only[iZ,a3o];rw[WG _ _ a.sum];simp only[];rw[BY _ δ];simp only[];rw[BY _ δ];simp only[];rw[tz _ _ _ o δ a.aT];simp only[];rw[tz _ _ _ p δ a.aS];simp only[];rw[tz _ _ _ r δ a.key];rw[a4s h,a4s k]
def rK{d:Type}(k:Rd->d×Rd)(o:d->Τ)(p:d->Prop)(r:∀a b,p a->k ⟨o a++b,0⟩=(a,⟨b,0⟩)):∀(c h:List d)(b:Τ),(∀a∈c,p a)->eU k (α c) ⟨c.flatMap o++b,0⟩ h=(h++c,⟨b,0⟩)
 |[],h,b,_=>by simp[eU]
 |a::c,h,b,x=>by
  rw[a3e,eU,a3A,a3o,r a _ (x a ρ)];rw[rK k o p r c _ b (λy z=>x y (by simp[z]))];simp
structure bQ.In(d:Nat)(n:bQ):Prop where
 ok:dE d n=η
 rows:∀r∈n.rows,dc r.1
 kids:∀k∈n.kids,k.In d
variable{b3:bQ}
theorem kF(a:dE e b3=η):(∀b∈b3.rows,α b.1=e)/\α b3.rows<=4/\α b3.kids<=4:=by unfold dE at a;grind
def C5(k:e<=255)(b:b3.In e):nG e (da b3)=β b3:=by
 obtain⟨o,z,C⟩:=kF b.ok;have p:(ς (α b3.rows)).toNat=α b3.rows:=by rw[a4n];omega
 have r:(ς (α b3.kids)).toNat=α b3.kids:=by rw[a4n];omega
 have x:mF e (da b3)=(b3,⟨[],0⟩):=by unfold mF da;simp only[qa,p];rw[rK (hM e) iY (λa=>α a.1=e/\dc a.1) (λa d c=>C0 a e d δ δ c.2) b3.rows [] _ (λa c=>⟨o a c,b.rows a c⟩)];simp only[qa,r];have:=rK (gT e) iZ (λh=>h.In e) (λh d y=>C4 h e k d y) b3.kids [] [] b.kids;rw[a3Y]at this;rw[this];rfl
 unfold nG;rw[x];simp[b.ok]
def tA(a:List Τ)(b:Nat)(c:Τ):Υ:=(ψ b).filter λd=>decide (jT (a.getD d [])=c)
def WI(a:Υ):Χ:=a.map λb=>.v (.int .i64 ((b:Nat):Int))
abbrev oR:List (Nat×bZ):=[(32,.int .u8)]
theorem nH(a:α B=32):db oR (B.map ao):=by
 refine⟨by simp[a],λc b=>?_,?_⟩
 .rw[a2U (by simp[a])]at b;obtain⟨d,_,rfl⟩:=a3m.1 b;rfl
 .show List.drop 32 _=[];simp_all
structure PB(k p:U)(r:Nat)(b:List Τ)(n:Nat)(h:R->Option R):Prop where
 sub:k.sub p
 new:k r=ε
 val:∀d,α d=32->(tA b n d=[]/\h (c3 d)=ε)\/(tA b n d≠[]/\∃a c,h (c3 d)=β (.J (WI (tA b n d)) (.buf a c))/\k a=ε/\a≠r/\p a=β (.buf 1 (tA b n d).length c))
 inj:∀d o x y a c z,α d=32->α o=32->h (c3 d)=β (.J x (.buf a c))->h (c3 o)=β (.J y (.buf a z))->d=o
theorem rL(a:Τ)(d:Own)(b:U)(C:α a<=70368744177664):
  AC γ 40 [.J (a.map ao) d] b λk o=>∃h,bj b o 1 (a.map ao) h/\k=.J (a.map ao) h:=by
 refine nu λD=>?_;have p:d=.nil->a=[]:=λE=>by simp_all
 refine aZ hm JC ρ ?_;simp -dsimp -implicitDefEqProofs (disch:=first|omega|assumption|(simp only[aR,Nat.reduceAdd];try omega)) only[go_sem,simprocAttr,-List.reduceReplicate,↓nD];refine nE (λc=>by rw[p c];rfl) (λc=>?_) ?_
 .have r:a=[]:=by simpa using c
  subst r;refine ai @a3H ?_;exact⟨b,θ,.nil,bj.nil θ,rfl⟩
 .refine bJ ?_;refine eb θ (by simp[bc]) λF G x=>?_;refine bJ ?_;refine mx (B:=[]) x Κ λy z L=>?_;refine ai @a3l.{0} ?_;exact⟨z,θ,y,by trivial,rfl⟩
def WJ(a b:Τ)(d h:Own)(c:U):
  AC γ 42 [.J (a.map ao) d,.J (b.map ao) h] c λk o=>o=c/\k=.v (.bool (decide (a=b))):=by
 refine aZ hm JG ρ ?_;have p:my (.J (a.map ao) d)=β (bo a):=ru;have r:my (.J (b.map ao) h)=β (bo b):=ru;refine ai (aE @p @r @pV) ?_;exact⟨c,θ,rfl⟩
def WK(a:Τ)(b:Own)(c:U)(C:α a<=1000000000000):
  AC γ 87 [.J (a.map ao) b] c λh k=>∃d,bj c k 1 ((preB 80 [a]).map ao) d/\h=.J ((preB 80 [a]).map ao) d:=by
 refine aZ hm KU ρ ?_;refine bJ ?_;refine eb θ (by simp[bc,τ]) λo p r=>?_;refine bJ ?_;refine ak (W0 80 [(a,b)] o (by simp[preB,chunk,ej];omega) p) ?_;rintro _ x⟨y,z,rfl⟩;refine bJ ?_;exact⟨x,θ,y,z.base r.sub,rfl⟩
def oS(a:Τ):(gS a).length=32:=wC _
def C6(a:Τ)(d:Own)(c:U)(p:α a<=1000000000000):
  AC γ 41 [.J (a.map ao) d] c λr x=>x=c/\r=c3 (gS a):=by
 refine aZ hm JE ρ ?_;refine bJ ?_;refine aO λE h=>?_;refine bJ ?_;refine ak (WK a d _ p) ?_;rintro _ F⟨y,k,rfl⟩;have z:=k.sub _ _ (ν _ _ _);refine bJ ?_;refine ak (W5 _ y (by simp[preB,chunk,ej];omega) _) ?_;rintro _ _⟨rfl,rfl⟩;have o:(jT (preB 80 [a])).length=32:=oS a;have C:∀b,(c3 b).cells=b.map ao:=λ_=>rfl;rw[show gS a=jT (preB 80 [a])from rfl];generalize jT (preB 80 [a])=b at*;have D:(b.map ao).length=32:=by simp[o]
 refine ai (aL @C @D @o (χ z)) ?_;refine⟨c,μ (ο (μ θ h) k.sub) h,rfl,?_⟩;rw[a2U δ];rfl
structure ad where
 m:Τ->Option Τ
 a:Τ
 b:Τ
 one:Bool
def ad.new:ad:=⟨λ_=>ε,[],[],ι⟩
def eV(c:ad)(b:Τ):ad:=
 match c.m (gS b)with
 |none=> {c with m:=λd=>if d=gS b then β b else c.m d}
 |some h=>if c.one=ι/\h≠b then {c with a:=h,b:=b,one:=η}else c
abbrev C7(b:Nat)(a:ad)(c d:Own):Χ:=[.ey b,.J (a.a.map ao) c,.J (a.b.map ao) d,.v (.bool a.one)]
structure bh(h:U)(l k:Nat)(a:ad):Prop where
 at_:∃gU cM,h l=β (.cells (C7 k a gU cM))
 mp:∃c,mz h k oR c/\∀d,α d=32->match a.m d with
  |none=>c (c3 d)=ε
  |some b=>α b<=1000000000000/\∃o,c (c3 d)=β (.J (b.map ao) o)
 qb:α a.a<=1000000000000
 qc:α a.b<=1000000000000
def Ext(c d:Nat)(h k:U):Prop:=∀a b,a≠c->a≠d->h a=β b->k a=β b
def Ext.refl:Ext e i f f:=λ_ _ _ _ a=>a
theorem Ext.of{l lM:Nat}{s:U}(a:s.sub f):Ext l lM s f:=λb c _ _ d=>a b c d
theorem Ext.trans(h:Ext e i f u)(k:Ext e i u e1):Ext e i f e1:=λa b c d o=>k a b c d (h a b c d o)
variable{H:ad}
def bh.ne(a:bh f e i H):e≠i:=by obtain⟨d,h,c⟩:=a.at_;obtain⟨k,⟨o,p,b,_⟩,_⟩:=a.mp;rintro rfl;rw[c]at b;cases b
def bh.mono(a:bh f e i H)(b:f.sub u):bh u e i H:=by obtain⟨c,d,h⟩:=a.at_;obtain⟨k,⟨o,p,r,x⟩,y⟩:=a.mp;exact⟨⟨c,d,b _ _ h⟩,⟨k,⟨o,p,b _ _ r,x⟩,y⟩,a.qb,a.qc⟩
def bh.other(a:bh f e i H)(b:u e=f e)(c:u i=f i):bh u e i H:=by obtain⟨d,h,k⟩:=a.at_;obtain⟨o,⟨p,r,x,y⟩,z⟩:=a.mp;exact⟨⟨d,h,by rw[b];exact k⟩,⟨o,⟨p,r,by rw[c];exact x,y⟩,z⟩,a.qb,a.qc⟩
def WL:(R.ey e).cells=[.ey e]:=rfl
def tB(b:U):AC γ 18 [] b λE k=>∃a c,b a=ε/\b c=ε/\E=.ptr a 0/\bh k a c ad.new/\b.sub k:=by
 refine aZ hm J9 ρ ?_;refine bJ ?_;refine aO λc o=>?_;have F:∀G p r h x:R,putAt [G,p,r,h] 0 [x]=[x,p,r,h]:=λ_ _ _ _ _=>rfl;have y:∀z,(R.agg z).cells=z:=λ_=>rfl;refine ai (aE @WL @F @y) ?_;refine aO λa d=>?_;refine ai @y ?_;have C:a≠c:=by rintro rfl;rw[ν]at d;cases d
 have D:b a=none:=by rw[ξ _ _ C]at d;exact d
 refine⟨_,θ,a,c,D,o,rfl,⟨⟨.nil,.nil,by rw[ν];rfl⟩,⟨_,⟨[],0,by rw[ξ _ _ (Ζ C),ν],jM.new⟩,λh _=>rfl⟩,by trivial,by trivial⟩,μ (μ θ o) D⟩
def hN:(c3 B).cells=B.map ao:=rfl
def WM(d:U)(z C:Nat)(h:ad)(F:bh d z C h)(a:Τ)(k:α a=32):
  AC γ 19 [.ptr z 0,c3 a] d λD G=>d.sub G/\match h.m a with
   |none=>D=.aF [.J [] .nil,.v (.int .i64 9)]
   |some o=>∃p,D=.aF [.J (o.map ao) p,.v (.int .i64 0)]:=by
 obtain⟨⟨s,t,L⟩,⟨c,P,b⟩,_,_⟩:=F;have b:=b a k;have r:(a.map ao).length=32:=by simp[k]
 refine aZ hm Jb ρ ?_;refine ai (c2 @hN @r) ?_;refine aO λS T=>?_;have x:=μ (X:=.cells (a.map ao)) (θ) T;have V:mz (d.set S (.cells (a.map ao))) C oR c:=by obtain⟨W,e,f,g⟩:=P;exact⟨W,e,x _ _ f,g⟩
 have i:=x _ _ L;have j:aP η 32 (a.map ao)=c3 a:=by rw[aP,if_pos rfl,a2U δ];rfl
 refine ai (ba @hN @r @k (κ i) @j) ?_;refine td V (nH k) (λv y=>?_) (λE=>?_)
 .cases hm:h.m a with
  |none=>rw[hm]at b;rw[show c (.agg (a.map ao))=c (c3 a)from rfl,b]at y;cases y
  |some o=>rw[hm]at b;obtain⟨l,p,b⟩:=b;rw[show c (.agg (a.map ao))=c (c3 a)from rfl,b]at y;obtain rfl:=Δ y;refine ai (c2 @hN @r) ?_;refine ak (rL o p _ δ) ?_;rintro _ m⟨n,q,rfl⟩;refine bJ ?_;exact⟨m,θ,ο x q.sub,n,rfl⟩
 .cases hm:h.m a with
  |none=>refine ai (c2 @hN @r) ?_;exact⟨_,θ,x⟩
  |some o=>rw[hm]at b;obtain⟨l,p,b⟩:=b;rw[show c (.agg (a.map ao))=c (c3 a)from rfl,b]at E;cases E
def WN(b:U)(k y:Nat)(a:ad)(c:bh b k y a):
  AC γ 29 [.ptr k 0] b λz C=>b.sub C/\∃d h,z=.aF [.J (a.a.map ao) d,.J (a.b.map ao) h,.v (.bool a.one)]:=by
 have L:=c.qb;have P:=c.qc;obtain⟨d,h,o⟩:=c.at_;refine aZ hm Jt ρ ?_;refine ai (κ o) ?_;refine ak (rL a.a d _ δ) ?_;rintro _ S⟨D,p,rfl⟩;have r:=p.sub _ _ o;refine ai (κ r) ?_;refine ak (rL a.b h _ δ) ?_;rintro _ E⟨F,x,rfl⟩;have G:=x.sub _ _ r;refine ai (κ G) ?_;exact⟨E,θ,ο p.sub x.sub,D,F,rfl⟩
theorem WO(C:U)(k d:Nat)(h:ad)(G:bh C k d h)(b:Τ)(V:Own)(Q:α b<=1000000000000):
  AC γ 20 [.ptr k 0,.J (b.map ao) V] C λn0 L=>n0=c3 (gS b)/\bh L k d (eV h b)/\Ext k d C L:=by
 have k9:=G.ne;refine aZ hm Jd ρ ?_;refine bJ ?_;refine aO λD i=>?_;have u:=μ (X:=.cells (ζ 32 (.v (.int .u8 0)))) (θ) i;have aL:(C.set D (.cells (ζ 32 (.v (.int .u8 0))))) D= _:=ν _ _ _;refine bJ ?_;generalize C.set D (.cells (ζ 32 (.v (.int .u8 0))))=a09 at*;refine ak (C6 b V _ Q) ?_;rintro _ X⟨rfl,rfl⟩;refine bJ ?_;refine aO λW e=>?_;have a10:D≠W:=by rintro rfl;rw[aL]at e;cases e
 have o:=oS b;have n1:∀c,eV h b=eV h b->c=gS b->α c=32:=λc _ y=>by rw[y];exact o
 generalize Y:gS b=c at*;have x:(c.map ao).length=32:=by simp[o]
 have j:putAt (ζ 32 (R.v (.int .u8 0))) 0 (c.map ao)=c.map ao:=by rw[putAt,a4Q,a3l,x,a3D ρ,a3Y]
 refine ai (ba @hN @x @o @j @σ) ?_;have Z:=μ (X:=.cells (c.map ao)) (θ) e;have ba:(X.set W (.cells (c.map ao))) W= _:=ν _ _ _;have l0:=Z _ _ aL;have l1:=G.mono (ο u Z);have l2:Ext k d C (X.set W (.cells (c.map ao))):=Ext.of (ο u Z);have n2:D≠k:=by rintro rfl;obtain⟨_,_,y⟩:=G.at_;rw[y]at i;cases i
 have n3:W≠k:=by rintro rfl;obtain⟨_,_,y⟩:=G.at_;rw[u _ _ y]at e;cases e
 have l3:D≠d:=by rintro rfl;obtain⟨_,⟨_,_,y,_⟩,_⟩:=G.mp;rw[y]at i;cases i
 have n4:W≠d:=by rintro rfl;obtain⟨_,⟨_,_,y,_⟩,_⟩:=G.mp;rw[u _ _ y]at e;cases e
 obtain⟨l4,l,n⟩:=l1.at_;obtain⟨P,w,k0⟩:=l1.mp;have E:=k0 c o;have F:aP η 32 (c.map ao)=c3 c:=by rw[aP,if_pos rfl,a2U δ];rfl
 clear n1;have l5:∀L:U,bh L k d (eV h b)->Ext k d C L->bh (L.set D (.cells (c.map ao))) k d (eV h b)/\Ext k d C (L.set D (.cells (c.map ao))):=by
  intro L n5 n9;refine⟨n5.other (ξ _ _ (Ζ n2)) (ξ _ _ (Ζ l3)),λp V n r S=>?_⟩;have a00:p≠D:=by rintro rfl;rw[i]at S;cases S
  rw[ξ _ _ a00];exact n9 p V n r S
 have f:X k=β (.cells (C7 d h l4 l)):=by rw[ξ _ _ (Ζ n3)]at n;exact n
 refine ai (bx @hN @x @o (κ f) (κ ba) @F) ?_;refine td w (nH o) (λv A=>?_) (λl6=>?_)
 .cases hm:h.m c with
  |none=>rw[hm]at E;rw[show P (.agg (c.map ao))=P (c3 c)from rfl,E]at A;cases A
  |some q=>
   rw[hm]at E;obtain⟨l7,B,E⟩:=E;rw[show P (.agg (c.map ao))=P (c3 c)from rfl,E]at A;obtain rfl:=Δ A;have g:eV h b=if h.one=ι/\q≠b then {h with a:=q,b:=b,one:=η}else h:=by unfold eV;rw[Y,hm]
   refine ai (bx @hN @x @o (κ f) (κ ba) @F) ?_;cases s:h.one with
   |true=>refine ai (cW @hN @x @o (κ f) (κ ba) (χ aL) @F @j @s) ?_;rw[s]at g;rw[if_neg ρ]at g;grind[θ]
   |false=>
    refine ai (cd @hN @x @o (κ f) (κ ba) @F @s) ?_;refine ak (WJ q b B V _) ?_;rintro _ _⟨rfl,rfl⟩;by_cases H:q=b
    .refine ai (ck @hN @x @o (κ f) (κ ba) (χ aL) @F @j @s @H) ?_;rw[if_neg (by simp[H])]at g;grind[θ]
    .refine ai (ck @hN @x @o (κ f) (κ ba) (χ aL) @F @j @s @H) ?_;rw[if_pos ⟨s,H⟩]at g;refine ak (rL b V _ δ) ?_;rintro _ T⟨I,r,rfl⟩;have K:=r.sub _ _ n;have M:=r.sub _ _ l0;have t:=r.sub _ _ ba;have l8:=w;have a01:∀a b z c p:R,putAt [a,b,z,c] 1 [p]=[a,p,z,c]:=λ_ _ _ _ _=>rfl;have a02:∀a b z c p:R,putAt [a,b,z,c] 2 [p]=[a,b,p,c]:=λ_ _ _ _ _=>rfl;have a03:∀a b z c p:R,putAt [a,b,z,c] 3 [p]=[a,b,z,p]:=λ_ _ _ _ _=>rfl;refine ai (fZ @hN @x @o (χ K) (κ t) (χ M) @F @j @a01 @a02 @a03 @σ) ?_;have a04:∀k2,k2=bl.cells [.ey d,.J (q.map ao) B,.J (b.map ao) I,.v (.bool η)]->bh (T.set k k2) k d (eV h b)/\Ext k d C (T.set k k2):=by rintro _ rfl;obtain⟨k3,z,k4,k5⟩:=w;rw[g];refine⟨⟨⟨B,I,ν _ _ _⟩,⟨P,⟨k3,z,by rw[ξ _ _ (Ζ k9)];exact r.sub _ _ k4,k5⟩,k0⟩,l7,Q⟩,λp l S N k6=>?_⟩;rw[ξ _ _ S];exact r.sub _ _ (l2 p l S N k6)
     obtain⟨bm,k7⟩:=a04 _ rfl;exact⟨_,θ,l5 _ bm k7⟩
 .cases hm:h.m c with
  |some q=>rw[hm]at E;obtain⟨l7,B,E⟩:=E;rw[show P (.agg (c.map ao))=P (c3 c)from rfl,E]at l6;cases l6
  |none=>
   have g:eV h b= {h with m:=λc=>if c=gS b then β b else h.m c}:=by unfold eV;rw[Y,hm]
   refine ai (bx @hN @x @o (κ f) (κ ba) @F) ?_;refine ak (rL b V _ δ) ?_;rintro _ T⟨I,r,rfl⟩;have K:=r.sub _ _ n;have M:=r.sub _ _ l0;have t:=r.sub _ _ ba;have l8:mz T d oR P:=by obtain⟨k3,z,k4,k5⟩:=w;exact⟨k3,z,r.sub _ _ k4,k5⟩
   refine ai (bx @hN @x @o (κ K) (κ t) @F) ?_;refine Be l8 (nH o) λO a05=>?_;have a06:(T.set d O) W=β (.cells (c.map ao)):=by rw[ξ _ _ n4];exact t
   have a07:(T.set d O) D=β (.cells (ζ 32 (.v (.int .u8 0)))):=by rw[ξ _ _ l3];exact M
   refine ai (cW @hN @x @o (κ t) (κ a06) (χ M) (χ a07) @F @j) ?_;have bm:bh (T.set d O) k d (eV h b):=by
    rw[g];refine⟨⟨l4,l,by rw[ξ _ _ k9];exact K⟩,⟨_,a05,λl9 a08=>?_⟩,G.qb,G.qc⟩;simp only[Y];by_cases k8:l9=c
    .subst k8;rw[if_pos rfl];exact⟨Q,I,rr⟩
    .rw[if_neg k8];rw[show(R.agg (c.map ao))=c3 c from rfl,oK (λy=>k8 (ts y))];exact k0 l9 a08
   have k7:Ext k d C (T.set d O):=λp l S N k6=>by
    rw[ξ _ _ N];exact r.sub _ _ (l2 p l S N k6)
   exact⟨_,θ,l5 _ bm k7⟩
structure eE(a b:U)(h c:Nat)(l:List Τ):Prop where
 cM:∃o,b h=β (.cells [.J (l.map c3) o,.ey c])/\bj a b 32 (l.map c3) o
 new:a h=ε/\a c=ε
 mp:∃k,mz b c oR k/\∀d,α d=32->k (c3 d)=if d∈l then β (.v (.bool η))else ε
 len:∀d∈l,α d=32
def C8:U.emp.sub f:=λ_ _ a=>by cases a
def iA(b c:Nat)(d:U):U:=λa=>if a=b\/a=c then ε else match d a with
 |some (.buf _ _ _)=>ε
 |h=>h
abbrev dO(a b:Nat)(c d:U):Prop:=(iA a b c).sub d
def C9:(iA e i f).sub f:=λb c a=>by
 unfold iA at a;split at a
 .cases a
 .split at a
  .cases a
  .exact a
def wK(a:f e=β X)(o:e≠i)(p:e≠v)(b:∀c d h,X≠.buf c d h):iA i v f e=β X:=by
 unfold iA;rw[if_neg δ,a];split
 .rename_i k;exact absurd (Δ k) (b _ _ _)
 .rfl
def qd(a:f e=β (.cells g))(b:e≠i)(c:e≠v):iA i v f e=β (.cells g):=wK a b c λ_ _ _ d=>by cases d
theorem dO.of{X:Nat}{s:U}(a:s.sub f):dO X e s f:=ο C9 a
theorem dO.trans(d:dO e i u e1)(h:dO e i e1 f):dO e i u f:=λb c a=>by
 refine h b c (wK (d b c a) ?_ ?_ ?_)
 .rintro rfl;simp[iA]at a
 .rintro rfl;simp[iA]at a
 .rintro o p f rfl;unfold iA at a;split at a
  .cases a
  .split at a
   .cases a
   .rename_i k;exact k _ _ _ a
def eE.sub{b c:U}{d h:Nat}{k:List Τ}(a:eE b c d h k):b.sub c:=by obtain⟨o,_,a⟩:=a.cM;exact a.1
variable{j4:List Τ}
def eE.ne(a:eE f u e i j4):e≠i:=by obtain⟨d,c,_⟩:=a.cM;obtain⟨h,⟨k,o,b,_⟩,_⟩:=a.mp;rintro rfl;rw[c]at b;cases b
def eE.mono{c d h:U}{k o:Nat}{p:List Τ}(a:eE c d k o p)(b:d.sub h):eE c h k o p:=by obtain⟨r,x,y⟩:=a.cM;obtain⟨z,⟨C,D,E,F⟩,G⟩:=a.mp;exact⟨⟨r,b _ _ x,y.mono b⟩,a.new,⟨z,⟨C,D,b _ _ E,F⟩,G⟩,a.len⟩
theorem bh.fc(a:bh f v M H)(d:eE e1 f e i j4)(h:dO e i f u)(p:M≠i):bh u v M H:=by
 obtain⟨r,x,c⟩:=a.at_;obtain⟨y,⟨z,C,k,D⟩,E⟩:=a.mp;obtain⟨P,b,_⟩:=d.cM;obtain⟨_,⟨_,_,o,_⟩,_⟩:=d.mp;have F:v≠e:=by rintro rfl;rw[c]at b;cases b
 have G:v≠i:=by rintro rfl;rw[c]at o;cases o
 have a3:M≠e:=by rintro rfl;rw[k]at b;cases b
 exact⟨⟨r,x,h _ _ (qd c F G)⟩,⟨y,⟨z,C,h _ _ (wK k a3 p λ_ _ _ L=>by cases L),D⟩,E⟩,a.qb,a.qc⟩
def Ca(b:bj f u i g O)(h:f e=ε)(c:u e=β X)(k:∀o d,X≠.buf i o d):bj f (u.set e j6) i g O:=by
 refine⟨μ b.1 h,?_⟩;have a:=b.2;cases O with
 |buf p d=>
  have:p≠e:=by rintro rfl;rw[a.2]at c;exact k _ _ (Δ c).symm
  exact⟨a.1,by rw[ξ _ _ this];exact a.2⟩
 |_=>exact a
def Cb(b:U):AC γ 30 [] b λy z=>∃a c,b a=ε/\b c=ε/\y=.ptr a 0/\eE b z a c []:=by
 have F:∀o:Nat,(R.ey o).cells=[.ey o]:=λ_=>rfl;have G:∀p C r:R,putAt [p,C] 1 [r]=[p,r]:=λ_ _ _=>rfl;refine aM hm Jv ?_;refine aO λc h=>?_;refine aa ?_;refine aO λa d=>?_;have x:a≠c:=by rintro rfl;rw[ν]at d;cases d
 have k:b a=none:=by rw[ξ _ _ x]at d;exact d
 refine aa ?_;refine⟨_,θ,a,c,k,h,rfl,⟨.nil,ν _ _ _,bj.nil (μ (μ θ h) k)⟩,⟨k,h⟩,⟨_,⟨[],0,by rw[ξ _ _ x.symm,ν],jM.new⟩,λD _=>rfl⟩,λD E=>by cases E⟩
def eL(a:List Τ)(b:Τ):List Τ:=if b∈a then a else a++[b]
def Cc(g C:U)(D b:Nat)(c:List Τ)(y:eE g C D b c)(a:Τ)(L:α a=32)(n2:α c<=1000000000):
  AC γ 70 [.ptr D 0,c3 a] C λk2 t=>dO D b C t/\eE g t D b (eL c a)/\k2=.v (.bool (decide (a∉c))):=by
 have u:=y.ne;have k3:=y;obtain⟨⟨w,k4,k5⟩,⟨A,B⟩,⟨E,H,I⟩,K⟩:=y;have M:=I a L;have k6:(a.map ao).length=32:=by simp[L]
 have d:aP η 32 (a.map ao)=c3 a:=by rw[aP,if_pos rfl,a2U δ];rfl
 have k7:(c3 a).cells=a.map ao:=rfl;refine aM hm Ky ?_;refine aO λT i=>?_;rw[k7];have aE:=ν C T (.cells (a.map ao));have F:=μ (X:=.cells (a.map ao)) (θ (f:=C)) i;have k8:T≠b:=by obtain⟨P,k,p,_⟩:=H;rintro rfl;rw[p]at i;cases i
 generalize C.set T _=z at*;have N:=F _ _ k4;have fe:=κ N;have k9:=κ aE;have j:mz z b oR E:=by obtain⟨P,k,p,S⟩:=H;exact⟨P,k,F _ _ p,S⟩
 refine aa ?_;refine td j (nH L) (λv r=>?_) (λr=>?_)
 .rw[show E (.agg (a.map ao))=E (c3 a)from rfl,M]at r;by_cases G:a∈c
  .rw[if_pos G]at r;obtain rfl:=Δ r;refine aa ?_;exact⟨_,θ,dO.of F,by rw[eL,if_pos G];exact k3.mono F⟩
  .rw[if_neg G]at r;cases r
 .rw[show E (.agg (a.map ao))=E (c3 a)from rfl,M]at r;by_cases G:a∈c
  .rw[if_pos G]at r;cases r
  refine aa ?_;refine Be j (nH L) λav l0=>?_;have O:bj g (z.set b av) 32 (c.map c3) w:=by obtain⟨P,k,p,_⟩:=j;exact Ca (k5.mono F) B p λ_ _ d=>by cases d
  have Q:(z.set b av) D=β (.cells [.J (c.map c3) w,.ey b]):=by rw[ξ _ _ u];exact N
  have c2:(z.set b av) T=β (.cells (a.map ao)):=by rw[ξ _ _ k8];exact aE
  have l1:∀h o,h≠b->z h=β o->(z.set b av) h=β o:=λh o l V=>by rw[ξ _ _ l];exact V
  generalize z.set b av=l2 at*;have fe:=κ Q;have k9:=κ c2;obtain⟨l3,l4,n3,l5,l6⟩:=O.nB;have m:∀h o,(∀W e k,o≠.buf W e k)->l2 h=β o->l3 h=β o:=λh o l V=>by
   rw[l6 h (λn4 k d=>by rintro rfl;subst d;have:=O.2.2;rw[V]at this;exact l _ _ _ (Δ this))];exact V
  have n5:(c3 a).cells.length=32:=k6;have n9:(c.map c3).length=α c:=a3k _;refine aa ?_;refine gR l4 (λX n=>by obtain⟨Y,l7,rfl⟩:=a3m.1 n;show(Y.map ao).length=32;simp[K Y l7]) λ_ l8 a00 f _=>?_;have q:=f.sub _ _ (m _ _ (λ_ _ _ d=>by cases d) Q);have fe:=κ q;have a01:=χ q;refine aa ?_;have Z:c.map c3++[c3 a]=(c++[a]).map c3:=ρ;refine⟨_,θ,λh o x=>?_,?_⟩
  .have p:h≠D:=by rintro rfl;simp[iA]at x
   have S:h≠b:=by rintro rfl;simp[iA]at x
   have l9:∀W e k,o≠.buf W e k:=by
    rintro W e k rfl;unfold iA at x;split at x
    .cases x
    .split at x
     .cases x
     .rename_i n0;exact n0 _ _ _ x
   rw[ξ _ _ p];exact f.sub _ _ (m _ _ l9 (l1 _ _ S (F _ _ (C9 _ _ x))))
  .rw[eL,if_neg G];refine⟨⟨l8,by rw[ν,<-Z],?_⟩,⟨A,B⟩,⟨iw E (c3 a) (.v (.bool η)),?_,λk0 n1=>?_⟩,λX n=>?_⟩
   .rw[<-Z];exact Ca (f.base l5) A q λ_ _ d=>by cases d
   .obtain⟨P,k,p,S⟩:=l0;exact⟨P,k,by rw[ξ _ _ u.symm];exact f.sub _ _ (m _ _ (λ_ _ _ d=>by cases d) p),S⟩
   .by_cases s:k0=a
    .subst s;rw[rr,if_pos ρ]
    .rw[oK (λd=>s (ts d)),I k0 n1];simp[s]
   .rcases a3f.1 n with y|y
    .exact K X y
    .obtain rfl:=a3s.1 y;exact L
def wL:ab (n++b6)=ab n++ab b6:=by simp[ab]
def fL{v:Int}(a:n[e]?=β v):cJ 1 (.J (ab n) O) (.v (.int .i64 (e:Int)))=β (.bR [.v (.int .i64 v)]):=by
 have b:(0)<=(e:Int):=δ;have c:(ab n)[e]?=β (.v (.int .i64 v)):=by simp[ab,a]
 simp only[cJ,b,if_true,a3p,c];rw[kA (e:=1) rfl];rfl
def nI{v:Int}:cV ι 1 f (.bR [.v (.int .i64 v)])=β (.v (.int .i64 v)):=rfl
theorem WQ:c8 f 1 (.J (ab n) O)=β (α n,ab n):=by
 have a:((ab n).all λb=>decide (α b.cells=1))=true:=by simp[ab,τ]
 have c:flat (ab n)=ab n:=by induction n with
  |nil=>rfl
  |cons d n ih=>grind[ab,flat,τ]
 simp[c8,a,c,bK]
theorem wM(a:Ρ)(h:Own)(c:U)(r:α a<=1000000000000):
  AC γ 204 [.J (ab a) h] c λk d=>aw c d 1 (ab a) k:=by
 refine nu λx=>?_;have o:h=.nil->a=[]:=λy=>by simp_all [ab]
 refine aZ hm NT ρ ?_;simp -dsimp -implicitDefEqProofs (disch:=first|omega|assumption|(simp only[aR,Nat.reduceAdd];try omega)) only[go_sem,simprocAttr,-List.reduceReplicate,↓nD];refine nE (λb=>by rw[o b];rfl) (λb=>?_) ?_
 .have p:a=[]:=by simpa[ab] using b
  subst p;refine aa ?_;exact⟨c,θ,aw.nil θ⟩
 .refine ai @rq ?_;refine fx (aw.zero (θ)) δ WQ (by rw[bK];omega) (by simp[bK];omega) (by simp[bK];omega) λk d b=>?_;refine aa ?_;exact⟨d,θ,by trivial⟩
theorem rM(b:aw f u 1 (ab n) q):∃a,f.sub a/\View u q a (.J (ab n) .any):=by grind[View.dC,lE,Θ]
theorem rN(a:Ρ)(c:Own)(b:U)(k:α a<=1000000000000):
  AC γ 204 [.J (ab a) c] b λd h=>b.sub h/\d=.J (ab a) .any:=
 (wM a c b k).view λd h o=>by
  obtain⟨p,r,x⟩:=rM o;grind
theorem jW(a c:Ρ)(G L:Own)(h:U)(l:α a<=1000000000000):
  AC γ 48 [.J (ab a) G,.J (ab c) L] h λp r=>r=h/\p=.v (.bool (decide (a=c))):=by
 refine aZ hm JS ρ ?_;have V:=bK (n:=a);have W:=bK (n:=c);by_cases m:α a=α c
 .have x:(α a:Int)=α c:=δ;refine aa ?_;rw[<-x];refine cz (λd r=>∃b:Nat,b<=α a/\r=h/\d 0=.J (ab a) G/\d 1=.J (ab c) L/\d 12=.v (.int .i64 (α a))/\d 13=.v (.int .i64 b)/\a.take b=c.take b)
   (λd _=>match d 13 with|.v (.int _ e)=>(α a - e).toNat|_=>0) ⟨0,δ,rfl,?_⟩ ?_
  .exact aV
  .rintro d n⟨b,q,rfl,y,z,C,D,f⟩;by_cases E:(b:Int)<α a
   .have k:a[b]?=β a[b]:=Ν δ;have o:c[b]?=β c[b]:=Ν δ;have P:a.take (b+1)=a.take b++[a[b]]:=by rw[a3W,k];rfl
    have S:c.take (b+1)=c.take b++[c[b]]:=by rw[a3W,o];rfl
    have T:a[b]'δ≠c[b]'δ->a≠c:=λg i=>g (by simp[i]);generalize a[b]'δ=p at k P T;generalize c[b]'δ=j at o S T;by_cases F:p=j
    .simp -dsimp -implicitDefEqProofs (disch:=first|omega|assumption|(simp only[aR,Nat.reduceAdd];try omega)) only[go_sem,simprocAttr,-List.reduceReplicate,y,z,C,D,E,fL k,fL o,nI,F];exact⟨⟨b+1,δ,ρ,by rw[P,S,f,F]⟩,δ⟩
    .simp -dsimp -implicitDefEqProofs (disch:=first|omega|assumption|(simp only[aR,Nat.reduceAdd];try omega)) only[go_sem,simprocAttr,-List.reduceReplicate,y,z,C,D,E,fL k,fL o,nI,F];grind[θ]
   .obtain rfl:b=α a:=δ;refine ai (ba @y @z @C @D @E) ?_;grind[List.take_length,θ]
 .have x:¬(α a:Int)=α c:=δ;refine ai (aE @V @W @x) ?_;have:a≠c:=by rintro rfl;omega
  exact⟨h,θ,by simp[this]⟩
abbrev fh(a b:Ρ)(c d:Own):R:=.agg [.J (ab a) c,.J (ab b) d]
theorem wN(b:Nat)(k:FuncId)(p r:Χ)(d:U)(o:Nat->Bool)(S:b<=1000000000000)(F:fa γ k=η)
  (G:∀a:Nat,a<b->AC γ k (p++[.v (.int .i64 (a:Int))]++r) d λx h=>h=d/\x=.v (.bool (o a))):
  AC γ 289 [.v (.int .i64 (b:Int)),.bA k p r] d λx h=>h=d/\x=.v (.bool ((ψ b).all o)):=by
 refine aZ hm Q6 ρ ?_;refine aa ?_;refine cz (λc h=>∃a:Nat,a<=b/\h=d/\(ψ a).all o=η/\c 0=.v (.int .i64 (b))/\c 1=.bA k p r/\c 6=.v (.int .i64 (b))/\c 7=.v (.int .i64 (a)))
  (λc _=>match c 7 with|.v (.int _ L)=>b - L.toNat|_=>0) ⟨0,δ,rfl,rfl,?_⟩ ?_
 .exact aV
 rintro c T⟨a,V,rfl,P,y,z,C,D⟩;by_cases E:(a:Int)<b
 .refine aa ?_;refine eC F (G a δ) ?_;rintro _ _⟨rfl,rfl⟩;cases W:o a with
  |true=>refine aa ?_;grind
  |false=>refine ai (bx @y @z @C @D @E @a3H) ?_;refine⟨_,θ,rfl,?_⟩;grind
 .obtain rfl:a=b:=δ;simp -dsimp -implicitDefEqProofs (disch:=first|omega|assumption|(simp only[aR,Nat.reduceAdd];try omega)) only[go_sem,simprocAttr,-List.reduceReplicate,y,z,C,D,E];exact⟨_,θ,rfl,by rw[P]⟩
theorem WR(d:U)(h:Nat)(b c:Ρ)(p r:Own)(a:Nat)(x:d.read h=β [.J (ab b) p,.J (ab c) r])(C:a<α b)(D:a<α c):
  AC γ 290 [.v (.int .i64 (a:Int)),.ptr h 0] d λy z=>z=d/\y=.v (.bool (decide (b.getD a 0<=c.getD a 0))):=by
 refine aZ hm Q8 ρ ?_;have k:b[a]?=β (b.getD a 0):=by simp_all
 have o:c[a]?=β (c.getD a 0):=by simp_all
 generalize b.getD a 0=E at k;generalize c.getD a 0=F at o;simp -dsimp -implicitDefEqProofs (disch:=first|omega|assumption|(simp only[aR,Nat.reduceAdd];try omega)) only[go_sem,simprocAttr,-List.reduceReplicate,x,fL k,fL o,nI];exact⟨d,θ,rfl⟩
theorem nJ(d:U)(b c:Ρ)(o p:Own)(a:Nat)(D:a<=1000000000000):
  AC γ 243 [fh b c o p,.v (.int .i64 (a:Int))] d λE F=>F=d/\E=.v (.bool (dD b c a)):=by
 refine aZ hm P2 ρ ?_;have r:=bK (n:=b);have G:=bK (n:=c);refine aa ?_;refine aO λL h=>?_;unfold dD;by_cases c1:(a:Int)<1
 .have x:¬1<=a:=δ;refine ai (c2 @c1 @x) ?_;exact⟨d,μ θ h,by rfl⟩
 have x:1<=a:=δ;by_cases c2:(8:Int)<a
 .have y:¬a<=8:=δ;simp -dsimp -implicitDefEqProofs (disch:=first|omega|assumption|(simp only[aR,Nat.reduceAdd];try omega)) only[go_sem,simprocAttr,-List.reduceReplicate,c1,c2];exact⟨d,μ θ h,by simp[y]⟩
 have y:a<=8:=δ;by_cases aE:(α b:Int)=a
 .have z:α b=a:=δ;by_cases aL:(α c:Int)=a
  .have C:α c=a:=δ;refine aa ?_;refine ak (wN a _ _ _ _ (λk=>decide (b.getD k 0<=c.getD k 0)) D a7v λk P=>WR _ L b c o p k ?_ δ δ) ?_
   .simp[U.read,ν]
   rintro _ _⟨rfl,rfl⟩;refine bJ ?_;exact⟨d,μ θ h,rfl,by simp_all⟩
  .have C:¬α c=a:=δ;refine ai (bx @c1 @c2 @aE @aL @r @G) ?_;exact⟨d,μ θ h,by simp[C]⟩
 .have z:¬α b=a:=δ;refine ai (aL @c1 @c2 @aE @r) ?_;exact⟨d,μ θ h,by simp[z]⟩
def WS(y:U)(a:Ρ)(h:Own)(z:α a<=1000000000000):
  AC γ 203 [.J (ab a) h] y λk L=>y.sub L/\∃P S,k=fh (gx a).1 (gx a).2 P S:=by
 refine aZ hm NR ρ ?_;have C:=bK (n:=a);refine aa ?_;refine aO λf o=>?_;unfold gx;have p:∀b c d D:R,putAt [b,c] 0 [d,D]=[d,D]:=λ_ _ _ _=>rfl;have r:∀E,(R.agg E).cells=E:=λ_=>rfl;have x:∀b c,aP η 2 [b,c]=.agg [b,c]:=λ_ _=>rfl;by_cases c1:(α a:Int)<1
 .refine ai (ba @c1 @C @p @r @x) ?_;rw[if_neg δ];exact⟨_,θ,μ θ o,.nil,.nil,rfl⟩
 by_cases c2:(8:Int)<α a
 .refine ai (bx @c1 @c2 @C @p @r @x) ?_;rw[if_neg δ];exact⟨_,θ,μ θ o,.nil,.nil,rfl⟩
 refine aa ?_;refine ak (rN a h _ z) ?_;rintro _ g⟨F,rfl⟩;refine aa ?_;refine ak (rN a h _ z) ?_;rintro _ i⟨G,rfl⟩;have T:=G _ _ (F _ _ (ν _ _ _));have V:∀b c d:R,putAt [b,c] 0 [d]=[d,c]:=λ_ _ _=>rfl;have W:∀b c d:R,putAt [b,c] 1 [d]=[b,d]:=λ_ _ _=>rfl;have e:∀k h,(R.J k h).cells=[.J k h]:=λ_ _=>rfl;refine ai (cd (χ T) @p @V @W @r @e @x) ?_;rw[if_pos δ];exact⟨_,θ,μ (ο (μ θ o) (ο F G)) o,.any,.any,rfl⟩
theorem WT(h:U)(a b c k:Ρ)(o p r x:Own)(C:α a<=1000000000000)(D:α b<=1000000000000):
  AC γ 240 [fh a b o p,fh c k r x] h λE F=>F=h/\E=.v (.bool (decide (a=c)&&decide (b=k))):=by
 refine aZ hm OW ρ ?_;refine aa ?_;refine aO λG S=>?_;refine aa ?_;refine aO λy d=>?_;have L:G≠y:=by rintro rfl;rw[ν]at d;cases d
 have P:=Ζ L;have T:h y=none:=by rw[ξ _ _ P]at d;exact d
 refine aa ?_;refine ak (jW a c o r _ C) ?_;rintro _ _⟨rfl,rfl⟩;by_cases z:a=c
 .refine aa ?_;refine ak (jW b k p x _ D) ?_;rintro _ _⟨rfl,rfl⟩;refine ai @z ?_;grind[μ,θ]
 .refine ai @z ?_;grind[μ,θ]
def oT(b c:U)(d h:Ρ)(k o:R):Prop:=∃a,aw b a 1 (ab d) k/\aw a c 1 (ab h) o
def fi(a:aw f u e g q):q.cells=[q]:=by obtain⟨_,⟨_,rfl|rfl⟩|⟨_,_,_,_,rfl,_⟩⟩:=a<;>rfl
def ja(k:aw f u i g q)(b:f e=β j6):aw (f.set e X) (u.set e X) i g q:=by
 obtain⟨o,a⟩:=k;refine⟨U.kB o,?_⟩;rcases a with a|⟨c,p,r,x,y,d,z,C⟩
 .exact .inl a
 .have h:c≠e:=by rintro rfl;rw[d]at b;cases b
  exact .inr ⟨c,p,r,x,y,by rw[ξ _ _ h];exact d,by rw[ξ _ _ h];exact z,C⟩
def tC(x:U)(h k:Ρ)(y z:Own)(S:α h<=1000000000000)(T:α k<=1000000000000):
  AC γ 252 [fh h k y z] x λV W=>∃a b,V=.agg [a,b]/\oT x W h k a b:=by
 refine aZ hm Pc ρ ?_;refine bJ ?_;refine aO λe D=>?_;refine bJ ?_;refine aO λC o=>?_;have d:e≠C:=by rintro rfl;rw[ν]at o;cases o
 have E:=Ζ d;have F:x C=none:=by rw[ξ _ _ E]at o;exact o
 have G:∀L,(R.agg L).cells=L:=λ_=>rfl;have q:=μ (X:=.cells [.J [] .nil,.J [] .nil]) (μ (X:=.cells [.J (ab h) y,.J (ab k) z]) (θ) D) F;refine ai (aL @G @ξ @d @E) ?_;refine ak (wM h y _ S) ?_;intro a f p;have P:=p.1 _ _ (by rw[ξ _ _ d,ν]);have c2:=p.1 _ _ (ν _ _ _);refine ai (κ P) ?_;refine ak (wM k z _ T) ?_;intro b s r;have g:=r.1 _ _ P;have i:=r.1 _ _ c2;have j:∀a b c:R,putAt [a,b] 0 [c]=[c,b]:=λ_ _ _=>rfl;have l:∀a b c:R,putAt [a,b] 1 [c]=[a,c]:=λ_ _ _=>rfl;have m:∀a b c d:R,putAt [a,b] 0 [c,d]=[c,d]:=λ_ _ _ _=>rfl;have n:∀a b,aP η 2 [a,b]=.agg [a,b]:=λ_ _=>rfl;refine ai (cW (κ g) (χ i) (fi p) (fi r) @j @l @m @G @n) ?_;refine⟨_,θ,a,b,rfl,f.set C (.cells [a,b]),?_,ja r c2⟩;have:=ja (X:=.cells [a,b]) p (ν _ _ _);rw[σ]at this;exact this.base (μ (μ θ D) F)
def mix(c:Int->Int->Int)(a d:Ρ)(b:Nat):Ρ:=(Α c a d).take b++a.drop b
def tD{a:Int->Int->Int}(b:α n=α b6)(c:e<=α n):(mix a n b6 e).length=α n:=by simp[mix,b];omega
theorem tE{a:Int->Int->Int}(d:α n=α b6)(h:e<α n)(b:Χ){v:Int}(x:v=a (n.getD e 0) (b6.getD e 0)):
  putAt (ab (mix a n b6 e)++b) e [.v (.int .i64 v)]=ab (mix a n b6 (e+1))++b:=by
 have c:(ab ((Α a n b6).take e)).length=e:=by simp[ab,d];omega
 have k:(Α a n b6)[e]?=β v:=by simp_all
 have o:=a3z h;have p:ab (mix a n b6 e)++b=ab ((Α a n b6).take e)++(.v (.int .i64 n[e])::(ab (n.drop (e+1))++b)):=by unfold mix;rw[wL,o];simp only[ab,a3q,a3o,a4l]
 have r:ab (mix a n b6 (e+1))++b=ab ((Α a n b6).take e)++(.v (.int .i64 v)::(ab (n.drop (e+1))++b)):=by unfold mix;rw[a3W,k,wL,wL];simp[ab]
 rw[p,r];generalize ab ((Α a n b6).take e)=y at c;subst c;simp[putAt]
theorem WU(D:U)(a d b h:Ρ)(L P W e:Own)(l6:α a<=1000000000000)(a08:α d<=1000000000000)(a09:α b<=1000000000000)(a68:α h<=1000000000000):
  AC γ 202 [fh a d L P,fh b h W e] D λa69 E=>∃o y,a69=.agg [o,y]/\oT D E (dV (a,d) (b,h)).1 (dV (a,d) (b,h)).2 o y:=by
 refine aZ hm NP ρ ?_;have i:∀a10,(R.agg a10).cells=a10:=λ_=>rfl;have n:∀k p,aP η 2 [k,p]=.agg [k,p]:=λ_ _=>rfl;have Z:∀k p S:R,putAt [k,p] 0 [S]=[S,p]:=λ_ _ _=>rfl;have k0:∀k p S:R,putAt [k,p] 1 [S]=[k,S]:=λ_ _ _=>rfl;have M:∀k p S N:R,putAt [k,p] 0 [S,N]=[S,N]:=λ_ _ _ _=>rfl;have q:=bK (n:=a);have u:=bK (n:=b);refine ai @i ?_;refine aO λF a71=>?_;refine ai @i ?_;refine aO λz k2=>?_;have k3:F≠z:=by rintro rfl;rw[ν]at k2;cases k2
 have a73:D z=none:=by rw[ξ _ _ (Ζ k3)]at k2;exact k2
 have b20:=Ζ k3;refine ai @i ?_;refine aO λr k4=>?_;have a74:z≠r:=by rintro rfl;rw[ν]at k4;cases k4
 have a81:F≠r:=by rintro rfl;rw[ξ _ _ k3,ν]at k4;cases k4
 have l7:D r=none:=by simp_all [ξ,Ζ]
 have k5:=μ (X:=.cells [.J [] .nil,.J [] .nil]) (μ (X:=.cells [.J (ab b) W,.J (ab h) e]) (μ (X:=.cells [.J (ab a) L,.J (ab d) P]) (θ) a71) a73) l7;have f:(((D.set F (.cells [.J (ab a) L,.J (ab d) P])).set z (.cells [.J (ab b) W,.J (ab h) e])).set r (.cells [.J [] .nil,.J [] .nil])) F=β (.cells [.J (ab a) L,.J (ab d) P]):=by rw[ξ _ _ a81,ξ _ _ k3,ν]
 have g:(((D.set F (.cells [.J (ab a) L,.J (ab d) P])).set z (.cells [.J (ab b) W,.J (ab h) e])).set r (.cells [.J [] .nil,.J [] .nil])) z=β (.cells [.J (ab b) W,.J (ab h) e]):=by rw[ξ _ _ a74,ν]
 have aL:(((D.set F (.cells [.J (ab a) L,.J (ab d) P])).set z (.cells [.J (ab b) W,.J (ab h) e])).set r (.cells [.J [] .nil,.J [] .nil])) r=β (.cells [.J [] .nil,.J [] .nil]):=ν _ _ _;refine ai @i ?_;generalize ((D.set F (.cells [.J (ab a) L,.J (ab d) P])).set z (.cells [.J (ab b) W,.J (ab h) e])).set r (.cells [.J [] .nil,.J [] .nil])=j at*;have s:∀k p:R,List.take 2 [k,p]=[k,p]:=λ_ _=>rfl;refine ai (aE @q @u @s) ?_;refine ak (nJ j a d L P (α a) l6) ?_;rintro _ j⟨rfl,rfl⟩;refine ai (bx @q @u @s (κ f) (κ g) @n) ?_;refine ak (nJ j b h W e (α b) a09) ?_;rintro _ j⟨rfl,rfl⟩;have O:∀(w)(o y)(l8 l9),oT j w l8 l9 o y->oT D (w.set r (.cells [o,y])) l8 l9 o y:=by
  rintro w o y l8 l9⟨A,C,G⟩;refine⟨A.set r (.cells [o,y]),?_,ja G (C.1 _ _ aL)⟩;refine(ja C aL).base λa11 k6 n0=>?_;have Q:a11≠r:=by rintro rfl;rw[l7]at n0;cases n0
  rw[ξ _ _ Q];exact k5 a11 k6 n0
 unfold dV;cases a83:dD a d (α a) with
 |true=>
  cases a13:dD b h (α b) with
  |false=>refine ai (cd @q @u @s (κ f) (κ g) @n @a3H) ?_;refine ak (tC _ a d L P l6 a08) ?_;rintro _ w⟨o,y,rfl,X⟩;obtain⟨A,C,G⟩:=X;have B:=G.1 _ _ (C.1 _ _ aL);refine ai (bx (χ B) @i @Z @k0 @M @n) ?_;exact⟨_,θ,o,y,rfl,O _ _ _ _ _ ⟨A,C,G⟩⟩
  |true=>
   by_cases a14:(α a:Int)=α b
   .have H:α a=α b:=δ;refine ai (bs @q @u @s (κ f) (κ g) @n @a3E @a14) ?_;rw[if_pos H];have k7:=a83;have a15:=a13;simp only[dD,Ξ,decide_eq_true_eq]at k7 a15;have b21:=k7.1.2;have b22:α h=α a:=by rw[H];omega
    have b23:=k7.1.1.1.1;clear k7 a15;refine ak (tC _ a d L P l6 a08) ?_;rintro _ w⟨o,y,rfl,A,C,G⟩;have jO:=G.1 _ _ (C.1 _ _ f);have a16:=G.1 _ _ (C.1 _ _ g);have B:=G.1 _ _ (C.1 _ _ aL);obtain⟨I,⟨k8,_⟩|⟨T,a84,bm,a18,rfl,k9,a19,a86,n1,l0,a27,a88⟩⟩:=C
    .exfalso;grind
    obtain⟨n2,⟨k8,_⟩|⟨x,a89,n3,a29,rfl,l,a30,a90,n4,l1,a34,a92⟩⟩:=G
    .exfalso;have:=congrArg α k8;rw[bK,a3a]at this;omega
    have a94:a84=α a:=by rw[q]at l0;omega
    have Y:a89=α a:=by rw[bK]at l1;omega
    subst a94;subst Y;have n5:T≠x:=by rintro rfl;rw[a19]at l;cases l
    have a36:=n2 _ _ a19;simp only[a3M]at a86 a90 n1 n4 a27 a34;obtain⟨n9,rfl⟩:∃a00,a18=ab a++a00:=⟨a18.drop (α a),by rw[<-n1,a3y]⟩;obtain⟨a01,rfl⟩:∃a00,a29=ab d++a00:=⟨a29.drop (α a),by rw[<-n4,a3y]⟩;have a38:T≠r:=by rintro rfl;rw[k9]at aL;cases aL
    have a95:T≠F:=by rintro rfl;rw[k9]at f;cases f
    have a96:T≠z:=by rintro rfl;rw[k9]at g;cases g
    have a42:x≠r:=by rintro rfl;rw[I _ _ aL]at l;cases l
    have a97:x≠F:=by rintro rfl;rw[I _ _ f]at l;cases l
    have a98:x≠z:=by rintro rfl;rw[I _ _ g]at l;cases l
    have a99:=Μ k5 k9;have b00:=Μ (ο k5 I) l;have a43:=ο k5 (ο I n2);clear n1 n4 I n2 l0 l1 O;refine bJ ?_;refine aO λv V=>?_;have a47:v≠r:=by rintro rfl;rw[B]at V;cases V
    have a48:v≠F:=by rintro rfl;rw[jO]at V;cases V
    have a52:v≠z:=by rintro rfl;rw[a16]at V;cases V
    have l2:v≠T:=by rintro rfl;rw[a36]at V;cases V
    have l3:v≠x:=by rintro rfl;rw[a30]at V;cases V
    have b01:=Μ a43 V;have b24:∀k p S N:Nat,(R.aq k p S N).cells=[.aq k p S N]:=λ_ _ _ _=>rfl;refine ai (c2 @i @M) ?_;refine cz (λm E=>∃c:Nat,c<=α a/\D.sub E/\E F=β (.cells [.J (ab a) L,.J (ab d) P])/\E z=β (.cells [.J (ab b) W,.J (ab h) e])/\E r=β (.cells [.J [] .nil,.J [] .nil])/\
      E v=β (.cells [.aq T (α a) bm 1,.aq x (α a) n3 1])/\E T=β (.cells (ab (mix min a b c)++n9))/\E x=β (.cells (ab (mix max d h c)++a01))/\
      m 2=.ptr F 0/\m 3=.ptr z 0/\m 4=.ptr r 0/\m 7=.ptr v 0/\m 52=.v (.int .i64 (α a))/\m 53=.v (.int .i64 c))
     (λm _=>match m 53 with|.v (.int _ X)=>α a - X.toNat|_=>0) ⟨0,δ,?_⟩ ?_
    .have a56:∀(a57)(k p),mix a57 k p 0=k:=λa57 k p=>by rfl
     rw[a56,a56];refine ai (nx @ξ @a48 @a52 @a47 @l2 @l3 (Ζ a48) (Ζ a52) (Ζ a47) (Ζ l2) (Ζ l3) @jO @a16 @B @a36 @a30 @ν) ?_;exact μ a43 b01
    rintro m E⟨c,b25,b02,c2,aE,aL,cd,l4,l5,Y,a02,a03,a04,a05,a06⟩;by_cases a07:(c:Int)<α a
    .have b03:c<α a:=δ;have a61:a[c]?=β (a.getD c 0):=by simp_all
     have a62:b[c]?=β (b.getD c 0):=by simp_all
     have a63:d[c]?=β (d.getD c 0):=by simp_all
     have a65:h[c]?=β (h.getD c 0):=by simp_all
     have b04:=tE H b03 n9 (v:=min (a.getD c 0) (b.getD c 0)) rfl;have b05:=tE δ δ a01 (v:=max (d.getD c 0) (h.getD c 0)) rfl;generalize a.getD c 0=b26 at*;generalize b.getD c 0=b27 at*;generalize d.getD c 0=a3 at*;generalize h.getD c 0=a4 at*;simp -dsimp -implicitDefEqProofs (disch:=first|omega|assumption|(simp only[aR,Nat.reduceAdd];try omega)) only[go_sem,simprocAttr,-List.reduceReplicate,Y,a02,a03,a04,a05,a06,a07,κ c2,κ aE,κ cd,χ l4,χ l5,fL a61,fL a62,fL a63,fL a65,nI];have b06:c+1<=(ab (mix min a b c)++n9).length:=by rw[a2V,bK,tD H δ];omega
     have b07:c+1<=(ab (mix max d h c)++a01).length:=by rw[a2V,bK,tD δ δ];omega
     have b08:=Ζ a95;have b09:=Ζ a96;have b10:=Ζ n5;have b11:=Ζ a38;have b12:=Ζ a97;have b13:=Ζ a98;have b14:=Ζ a42;have b15:=Ζ l2;have b16:=Ζ l3;simp -dsimp -implicitDefEqProofs (disch:=first|omega|assumption|(simp only[aR,Nat.reduceAdd];try omega)) only[go_sem,simprocAttr,-List.reduceReplicate,Y,a02,a03,a04,a05,a06,a07,κ c2,κ aE,κ cd,χ l4,χ l5,fL a61,fL a62,fL a63,fL a65,nI,b06,b07,b04,b05,ξ,ν,n5,b10,b08,b09,b11,b12,b13,b14,b15,b16,l2,l3,c2,aE,aL,cd];grind[μ]
    .obtain rfl:c=α a:=δ;refine ai (ck @Y @a02 @a03 @a04 @a05 @a06 @a07 (κ cd) (χ aL) @s) ?_;have l0:mix min a b (α a)=Α min a b:=by unfold mix;grind
     have l1:mix max d h (α a)=Α max d h:=by unfold mix;grind
     rw[l0]at l4;rw[l1]at l5;have b28:(ab (Α min a b)).length=α a:=by rw[bK,a5p];omega
     have b29:(ab (Α max d h)).length=α a:=by rw[bK,a5p];omega
     have b17:∀K:U,K T=E T->K x=E x->D.sub K->oT D K (Α min a b) (Α max d h) (.aq T (α a) bm 1) (.aq x (α a) n3 1):=by
      intro K k8 b18 b19;refine⟨K.del x,⟨λo k6 t=>?_,.inr ⟨T,α a,bm,_,rfl,a99,by rw[U.eg _ n5,k8];exact l4,?_,?_,?_,a27,a88⟩⟩,⟨λo k6 t=>?_,.inr ⟨x,α a,n3,_,rfl,U.hC _ _,by rw[b18];exact l5,?_,?_,?_,a34,a92⟩⟩⟩
      .have Q:o≠x:=by rintro rfl;rw[b00]at t;cases t
       rw[U.eg _ Q];exact b19 o k6 t
      simp_all;simp_all
      .omega
      .have Q:o≠x:=by rintro rfl;rw[U.hC]at t;cases t
       rw[U.eg _ Q]at t;exact t
      grind[Γ,bK];simp_all
      .omega
     exact⟨_,θ,_,_,rfl,b17 _ (ξ _ _ a38) (ξ _ _ a42) (μ b02 l7)⟩
   .have H:¬α a=α b:=δ;refine ai (kD @q @u @s (κ f) (κ g) (χ aL) @n @a3E @a14 @i @Z @k0 @M) ?_;rw[if_neg H];exact⟨_,θ,_,_,rfl,O j _ _ _ _ ⟨j,aw.nil θ,aw.nil θ⟩⟩
 |false=>
  cases a13:dD b h (α b) with
  |false=>refine ai (fZ @q @u @s (κ f) (κ g) (χ aL) @n @a3H @i @Z @k0 @M) ?_;exact⟨_,θ,_,_,rfl,O j _ _ _ _ ⟨j,aw.nil θ,aw.nil θ⟩⟩
  |true=>refine ai (cd @q @u @s (κ f) (κ g) @n @a3H) ?_;refine ak (tC _ b h W e a09 a68) ?_;rintro _ w⟨o,y,rfl,X⟩;obtain⟨A,C,G⟩:=X;have B:=G.1 _ _ (C.1 _ _ aL);refine ai (bx (χ B) @i @Z @k0 @M @n) ?_;exact⟨_,θ,o,y,rfl,O _ _ _ _ _ ⟨A,C,G⟩⟩
def Cd(h:U)(a b c d:Ρ)(k o p r:Own)(z:α a<=1000000000000)(C:α b<=1000000000000)(D:α c<=1000000000000)(E:α d<=1000000000000):
  AC γ 202 [fh a b k o,fh c d p r] h λx y=>h.sub y/\x=fh (dV (a,b) (c,d)).1 (dV (a,b) (c,d)).2 .any .any:=
 (WU h a b c d k o p r z C D E).view λx y F=>by
  obtain⟨G,g,rfl,i,L,P⟩:=F;obtain⟨j,S,T⟩:=rM P;have V:=L.mono S;obtain⟨W,e,f⟩:=rM V;exact⟨_,W,(View.agg (a:=[G]) rfl T).trans (View.agg (a:=[]) rfl f),e,rfl⟩
theorem qe(b c:Ρ×Ρ)(a:Nat)(d:α b.1<=a)(h:α b.2<=a)(k:α c.1<=a)(o:α c.2<=a):(dV b c).1.length<=a/\(dV b c).2.length<=a:=by grind[dV]
def aC{a:Type}(b:a->R->Prop):List a->Χ->Prop
 |[],[]=>True
 |c::xs,d::h=>b c d/\aC b xs h
 |_,_=>False
def aC.len{b:Type}{h:b->R->Prop}:∀ {c:List b}{d:Χ},aC h c d->α d=α c
 |[],[],_=>rfl
 |_:: _,_:: _,a=>by rw[a3e,a3e,a.2.len]
 |[],_:: _,a=>a.elim
 |_:: _,[],a=>a.elim
def aC.get{k:Type}{o:k->R->Prop}:∀ {d:List k}{h:Χ}{i:Nat}{x:k},aC o d h->d[i]?=β x->∃b,h[i]?=β b/\o x b
 |[],_,_,_,_,a=>by simp at a
 |x::d,b::h,0,p,a,c=>by simp only[a5s,a3c]at c|-;subst c;exact⟨b,rfl,a.1⟩
 |x::d,b::h,i+1,p,a,c=>by simp only[a5R]at c|-;exact a.2.get c
 |_:: _,[],_,_,a,_=>a.elim
def aC.append{c:Type}{b:c->R->Prop}:∀ {d h:List c}{k o:Χ},aC b d k->aC b h o->aC b (d++h) (k++o)
 |[],_,[],_,_,a=>a
 |_:: _,_,_:: _,_,a,p=>⟨a.1,a.2.append p⟩
 |[],_,_:: _,_,a,_=>a.elim
 |_:: _,_,[],_,a,_=>a.elim
variable{b0:Type}
def aC.snoc{a:b0->R->Prop}{b:List b0}{c:b0}(d:aC a b g)(h:a c q):aC a (b++[c]) (g++[q]):=d.append ⟨h,trivial⟩
def aC.take{c:Type}{d:c->R->Prop}:∀ {h:List c}{k:Χ} (b:Nat),aC d h k->aC d (h.take b) (k.take b)
 |[],[],b,_=>by simp[aC]
 |_:: _,_:: _,0,_=>by simp[aC]
 |_:: _,_:: _,b+1,a=>⟨a.1,a.2.take b⟩
 |[],_:: _,_,a=>a.elim
 |_:: _,[],_,a=>a.elim
def aC.drop{c:Type}{d:c->R->Prop}:∀ {h:List c}{k:Χ} (b:Nat),aC d h k->aC d (h.drop b) (k.drop b)
 |[],[],b,_=>by simp[aC]
 |_:: _,_:: _,0,a=>a
 |_:: _,_:: _,b+1,a=>a.2.drop b
 |[],_:: _,_,a=>a.elim
 |_:: _,[],_,a=>a.elim
def aC.mono{b:Type}{c d:b->R->Prop}(h:∀k o,c k o->d k o):∀ {p:List b}{r:Χ},aC c p r->aC d p r
 |[],[],a=>a
 |_:: _,_:: _,a=>⟨h _ _ a.1,a.2.mono h⟩
 |[],_:: _,a=>a.elim
 |_:: _,[],a=>a.elim
theorem aC.cells{b:Type}{c:b->R->Prop}{d:Nat}(h:∀p k,c p k->α k.cells=d):∀ {r:List b}{o:Χ},aC c r o->bc d o
 |[],[],_=>by simp[bc]
 |_:: _,_:: _,a=>by rw[AP];exact⟨h _ _ a.1,a.2.cells h⟩
 |[],_:: _,a=>a.elim
 |_:: _,[],a=>a.elim
def isRow(a:Ρ)(b:R):Prop:=∃c,b=.J (ab a) c
def dy(a:Ρ×Bool)(b:R):Prop:=∃c,b=.agg [.J (ab a.1) c,.v (.bool a.2)]
def ae(a:an)(b c d:Own):Χ:=a.sum.map ao++[.J (ab a.aT) b,.J (ab a.aS) c,.v (.int .i64 a.live),.v (.int .i64 a.size),.J (ab a.key) d]
structure qf(k:an)(gg ec b:Own)(a:Χ):Prop where
 len:α a=37
 t37:a.take 37=a
 t32:a.take 32=k.sum.map ao
 d32:a.drop 32=[.J (ab k.aT) gg,.J (ab k.aS) ec,.v (.int .i64 k.live),.v (.int .i64 k.size),.J (ab k.key) b]
 d33:a.drop 33=[.J (ab k.aS) ec,.v (.int .i64 k.live),.v (.int .i64 k.size),.J (ab k.key) b]
 d34:a.drop 34=[.v (.int .i64 k.live),.v (.int .i64 k.size),.J (ab k.key) b]
 d35:a.drop 35=[.v (.int .i64 k.size),.J (ab k.key) b]
 d36:a.drop 36=[.J (ab k.key) b]
variable{w j0:an}
theorem aN(b:α w.sum=32):qf w O e4 h5 (ae w O e4 h5):=by
 have d:(w.sum.map ao).length=32:=by simp[b]
 have a:∀c,(ae w O e4 h5).drop (32+c)=[R.J (ab w.aT) O,.J (ab w.aS) e4,.v (.int .i64 w.live),.v (.int .i64 w.size),.J (ab w.key) h5].drop c:=λc=>by
  unfold ae;rw[a4z,a3D δ,d];simp
 exact⟨by simp[ae,b],a2U (by simp[ae,b]),by unfold ae;simp_all,a 0,a 1,a 2,a 3,a 4⟩
theorem qf.all(a:qf w O e4 h5 g):α g=37/\g.take 37=g/\g.take 32=w.sum.map ao/\(g.drop 32).take 2=[.J (ab w.aT) O,.J (ab w.aS) e4]/\
  aP ι 1 (g.drop 32)=.J (ab w.aT) O/\aP ι 1 (g.drop 33)=.J (ab w.aS) e4/\aP ι 1 (g.drop 34)=.v (.int .i64 w.live)/\aP ι 1 (g.drop 35)=.v (.int .i64 w.size)/\aP ι 1 (g.drop 36)=.J (ab w.key) h5:=
 ⟨a.len,a.t37,a.t32,by rw[a.d32];rfl,by rw[a.d32];rfl,by rw[a.d33];rfl,by rw[a.d34];rfl,by rw[a.d35];rfl,by rw[a.d36];rfl⟩
structure an.cH(k:an):Prop where
 aT:α k.aT<=1000000000000
 aS:α k.aS<=1000000000000
 key:α k.key<=1000000000000
def oU:aB.cH:=⟨by simp[aB],by simp[aB],by simp[aB]⟩
def bu(a:an)(b:R):Prop:=α a.sum=32/\a.cH/\∃c d h,b=.agg (ae a c d h)
theorem dy.cells{b:Ρ×Bool}{a:R}(c:dy b a):α a.cells=2:=by obtain⟨d,rfl⟩:=c;rfl
theorem bu.cells{b:an}{a:R}(c:bu b a):α a.cells=37:=by obtain⟨d,_,h,k,o,rfl⟩:=c;exact(aN d).len
theorem isRow.cells{b:Ρ}{a:R}(c:isRow b a):α a.cells=1:=by obtain⟨d,rfl⟩:=c;rfl
structure lJ(c:U)(p:R)(cells:Χ):Prop where
 ld:∀(a:U),c.sub a->∀agg n,0<n->n<=α cells->cV agg n a p=β (aP agg n cells)
 kq:∀(a:U),c.sub a->∀b agg n,0<n->b+n<=α cells->∃d,re b p=β d/\cV agg n a d=β (aP agg n (cells.drop b))
structure bM(b:U)(k:Nat)(x:R)(a:Χ):Prop where
 one:x.cells=[x]
 len:fY x=β (.v (.int .i64 (α a)))
 get:∀(i:Nat) e,a[i]?=β e->∃p,cJ k x (.v (.int .i64 (i:Int)))=β p/\lJ b p e.cells
def lJ.mono(c:lJ f q g)(d:f.sub u):lJ u q g:=⟨λa b=>c.ld a (ο d b),λa b=>c.kq a (ο d b)⟩
def bM.mono{b c:U}{d:Nat}{h:R}{k:Χ}(a:bM b d h k)(o:b.sub c):bM c d h k:=⟨a.one,a.len,λp r x=>by
 obtain⟨y,z,C⟩:=a.get p r x;exact⟨y,z,C.mono o⟩⟩
theorem bM.J{s:U}{c:Nat}{a:Χ}{o:Own}(p:bc c a):bM s c (.J a o) a:=⟨rfl,rfl,λr b d=>by
 have x:(0)<=(r:Int):=δ;refine⟨.bR b.cells,?_,⟨λy _ z h _ k=>by simp[cV,k],λy _ C z h _ k=>⟨_,rfl,?_⟩⟩⟩
 .simp only[cJ,x,if_true,a3p,d];exact kA (p b (a3d d))
 .have:h<=(b.cells.drop C).length:=by rw[a3i];omega
  simp only[cV];rw[if_pos this]⟩
theorem Ce(a:bc e g)(c:g[i]?=β q):((flat g).drop (i*e)).take e=q.cells:=by obtain⟨b,rfl⟩:=a2Z.1 c;rw[(fw i a).1,a3z b];have d:=a _ (a3r b);simp only[flat,a3A];simp_all
theorem bM.aq{F:U}{p n cap k:Nat}{c o:Χ}(x:bc k o)(G:F p=β (.cells c))(L:α o=n)(S:c.take (n*k)=flat o):bM F k (.aq p n cap k) o:=by
 refine⟨rfl,by rw[L];rfl,λd r y=>?_⟩;obtain⟨e,_⟩:=a2Z.1 y;have f:(flat o).length=n*k:=by rw[cT x,L]
 have g:n*k<=α c:=by grind
 have T:(d+1)*k<=n*k:=a3g _ δ;rw[a3U,a5H]at T;have i:=x r (a3d y);have P:∀a b,a+b<=k->((c.drop (d*k+a)).take b)=(r.cells.drop a).take b:=by intro a b hm;rw[<-Ce x y,<-S];grind[List.drop_take,Nat.min_eq_left,List.drop_drop]
 have V:∀h a b,a+b<=k->0<b->aP h b (c.drop (d*k+a))=aP h b (r.cells.drop a):=by
  intro h a b hm z;cases h with
  |true=>simp only[aP,if_true];rw[P a b hm]
  |false=>
   have j:=P a 1 δ;simp only[aP,a3R,if_false];cases bS:c.drop (d*k+a)with
   |nil=>simp_all
   |cons l m=>
    cases cf:r.cells.drop a with
    |nil=>simp_all
    |cons q s=>grind
 refine⟨.ptr p (d*k),?_,⟨λW C h b z hm=>?_,λW C a h b z hm=>⟨.ptr p (d*k+a),rfl,?_⟩⟩⟩;grind[jL,Int.toNat_natCast]
 .have D:=κ (C _ _ G);have E:d*k+b<=α c:=δ;simp only[cV,D,if_pos E];have:=V h 0 b δ z;simp_all
 .have D:=κ (C _ _ G);have E:d*k+a+b<=α c:=δ;simp only[cV,D,if_pos E];grind
theorem bM.dC(a:aw u f e A q)(d:0<e)(b:A=flat g)(c:bc e g):bM f e q g:=by subst b;have h:=cT c;obtain⟨k,⟨o,rfl|rfl⟩|⟨p,r,x,y,rfl,z,C,D,E,F,G,L⟩⟩:=a;grind[List.eq_nil_of_length_eq_zero,List.length_nil,Nat.mul_eq_zero,bM.J];grind[List.eq_nil_of_length_eq_zero,List.length_nil,Nat.mul_eq_zero,bM.J];grind[bM.aq,Nat.eq_of_mul_eq_mul_right]
def gz(h:b0->R->Prop)(k:U)(b:FuncId)(o p:Χ)(r:b0->Bool):Prop:=
 fa γ b=η/\∀c d (a:U),h c d->k.sub a->AC γ b (o++[d]++p) a λx y=>y=a/\x=.v (.bool (r c))
variable{b4:FuncId}
theorem WV(a:List (Ρ×Bool))(L:Χ)(y:R)(d:U)(P:aC dy a L)(S:bM d 2 y L)(w:α a<=1000000000000){h:(Ρ×Bool)->Bool}(T:gz dy d b4 g A h):
  AC γ 323 [y,.bA b4 g A] d λf z=>z=d/\∃V:Int,f=.v (.int .i64 V)/\decide (0<=V)=a.any h:=by
 refine aZ hm QO ρ ?_;have i:=P.len;have C:=S.len;rw[i]at C;refine ai @C ?_;refine cz (λc z=>∃b:Nat,b<=α a/\z=d/\c 0=y/\c 1=.bA b4 g A/\c 7=.v (.int .i64 (α a))/\c 8=.v (.int .i64 b)/\(a.take b).any h=ι)
  (λc _=>match c 8 with|.v (.int _ j)=>α a - j.toNat|_=>0) ⟨0,δ,rfl,?_⟩ ?_
 .refine ai @C ?_;simp
 rintro c D⟨b,B,rfl,k,o,p,r,W⟩;by_cases x:(b)<(α a:Int)
 .have E:a[b]?=β a[b]:=Ν δ;have l:a.take (b+1)=a.take b++[a[b]]:=by rw[a3W,E];rfl
  have m:a[b]'δ∈a:=a3r _;generalize a[b]'δ=e at E l m;obtain⟨F,n,G⟩:=P.get E;obtain⟨q,s,t⟩:=S.get b F n;have u:cV η 2 D q=β F:=by have v:=t.ld D θ η 2 δ (by rw[dy.cells G];omega);rw[v];obtain⟨H,rfl⟩:=G;rfl
  refine ai (cd @k @o @p @r @x @s @u) ?_;refine eC T.1 (T.2 e F _ G θ) ?_;rintro _ D⟨rfl,rfl⟩;cases I:h e with
  |true=>refine ai (ba @k @o @p @r @x) ?_;refine⟨_,θ,rfl,_,rfl,?_⟩;grind
  |false=>refine ai (ba @k @o @p @r @x) ?_;grind
 .obtain rfl:b=α a:=δ;refine ai (ba @k @o @p @r @x) ?_;rw[a3K]at W;exact⟨_,θ,rfl,_,rfl,by rw[W];simp⟩
def WW(b:List (Ρ×Bool))(c:Χ)(d:R)(a:U)(k:aC dy b c)(o:bM a 2 d c)(p:α b<=1000000000000){h:(Ρ×Bool)->Bool}(r:gz dy a b4 g A h):
  AC γ 292 [d,.bA b4 g A] a λx y=>y=a/\x=.v (.bool (b.any h)):=by
 refine aZ hm Qa ρ ?_;refine bJ ?_;refine ak (WV b c d a k o p r) ?_;rintro _ C⟨rfl,D,rfl,z⟩;refine bJ ?_;exact⟨_,θ,rfl,by rw[z]⟩
theorem Cf(h:List (Ρ×Bool))(p:Χ)(r:R)(b:U)(P:aC dy h p)(S:bM b 2 r p)(T:α h<=1000000000000){x:(Ρ×Bool)->Bool}(z:gz dy b b4 g A x):
  AC γ 253 [r,.bA b4 g A] b λV c=>c=b/\V=.v (.bool (h.all x)):=by
 refine aZ hm Pe ρ ?_;refine bJ ?_;refine aO λd W=>?_;have C:=μ (X:=.cells [.bA b4 g A]) (θ) W;have aE:(b.set d (.cells [.bA b4 g A])) d=β (.cells [.bA b4 g A]):=ν _ _ _;have e:(R.bA b4 g A).cells=[.bA b4 g A]:=rfl;refine ai @e ?_;generalize b.set d (.cells [.bA b4 g A])=D at*;refine ak (WW h p r D P (S.mono C) T (b4:=293) (g:=[]) (A:=[.ptr d 0]) (h:=λy=> !x y) ⟨Ο,λy a c k E=>?_⟩) ?_
 .change AC γ _ [a,.ptr d 0] c _;refine aZ hm Qc ρ ?_;have f:=E _ _ aE;refine ai (dy.cells k) ?_;refine aO λo i=>?_;have F:=μ (X:=.cells a.cells) (θ) i;have c2:(c.set o (.cells a.cells)) o=β (.cells a.cells):=ν _ _ _;have aL:=F _ _ f;have G:aP η 2 (a.cells.drop 0)=a:=by obtain⟨n,rfl⟩:=k;rfl
  have j:aP η 2 a.cells=a:=G;have L:=dy.cells k;refine ai @L ?_;have l:=z.2 y a (c.set o (.cells a.cells)) k (ο C (ο E F));generalize c.set o (.cells a.cells)=m at*;refine ai (ba (κ aL) (κ c2) @L @G @j) ?_;refine eC z.1 l ?_;rintro _ m⟨rfl,rfl⟩;refine bJ ?_;simp_all
 rintro _ D⟨rfl,rfl⟩;refine bJ ?_;grind
theorem WX(a:List an)(L:Χ)(y:R)(d:U)(P:aC bu a L)(S:bM d 37 y L)(B:α a<=1000000000000){h:an->Bool}(T:gz bu d b4 g A h):
  AC γ 324 [y,.bA b4 g A] d λf z=>z=d/\∃V:Int,f=.v (.int .i64 V)/\decide (0<=V)=a.any h:=by
 refine aZ hm QQ ρ ?_;have i:=P.len;have C:=S.len;rw[i]at C;refine ai @C ?_;refine cz (λc z=>∃b:Nat,b<=α a/\z=d/\c 0=y/\c 1=.bA b4 g A/\c 7=.v (.int .i64 (α a))/\c 8=.v (.int .i64 b)/\(a.take b).any h=ι)
  (λc _=>match c 8 with|.v (.int _ j)=>α a - j.toNat|_=>0) ⟨0,δ,rfl,?_⟩ ?_
 .refine ai @C ?_;simp
 rintro c D⟨b,H,rfl,k,o,p,r,W⟩;by_cases x:(b)<(α a:Int)
 .have E:a[b]?=β a[b]:=Ν δ;have l:a.take (b+1)=a.take b++[a[b]]:=by rw[a3W,E];rfl
  have m:a[b]'δ∈a:=a3r _;generalize a[b]'δ=e at E l m;obtain⟨F,n,G⟩:=P.get E;obtain⟨q,s,t⟩:=S.get b F n;have u:cV η 37 D q=β F:=by have v:=t.ld D θ η 37 δ (by rw[bu.cells G];omega);rw[v];obtain⟨w,_,I,K,M,rfl⟩:=G;simp[τ,aP,(aN w).t37]
  refine ai (cd @k @o @p @r @x @s @u) ?_;refine eC T.1 (T.2 e F _ G θ) ?_;rintro _ D⟨rfl,rfl⟩;cases N:h e with
  |true=>refine ai (ba @k @o @p @r @x) ?_;refine⟨_,θ,rfl,_,rfl,?_⟩;grind
  |false=>refine ai (ba @k @o @p @r @x) ?_;grind
 .obtain rfl:b=α a:=δ;refine ai (ba @k @o @p @r @x) ?_;rw[a3K]at W;exact⟨_,θ,rfl,_,rfl,by rw[W];simp⟩
def WY(b:List an)(c:Χ)(d:R)(a:U)(k:aC bu b c)(o:bM a 37 d c)(p:α b<=1000000000000){h:an->Bool}(r:gz bu a b4 g A h):
  AC γ 294 [d,.bA b4 g A] a λx y=>y=a/\x=.v (.bool (b.any h)):=by
 refine aZ hm Qe ρ ?_;refine bJ ?_;refine ak (WX b c d a k o p r) ?_;rintro _ C⟨rfl,D,rfl,z⟩;refine bJ ?_;exact⟨_,θ,rfl,by rw[z]⟩
theorem wO(h:List an)(r:Χ)(x:R)(b:U)(P:aC bu h r)(S:bM b 37 x r)(T:α h<=1000000000000){y:an->Bool}(z:gz bu b b4 g A y):
  AC γ 255 [x,.bA b4 g A] b λV c=>c=b/\V=.v (.bool (h.all y)):=by
 refine aZ hm Pj ρ ?_;refine bJ ?_;refine aO λd W=>?_;have C:=μ (X:=.cells [.bA b4 g A]) (θ) W;have aE:(b.set d (.cells [.bA b4 g A])) d=β (.cells [.bA b4 g A]):=ν _ _ _;have e:(R.bA b4 g A).cells=[.bA b4 g A]:=rfl;refine ai @e ?_;generalize b.set d (.cells [.bA b4 g A])=D at*;refine ak (WY h r x D P (S.mono C) T (b4:=295) (g:=[]) (A:=[.ptr d 0]) (h:=λk=> !y k) ⟨Ο,λk a c o E=>?_⟩) ?_
 .change AC γ _ [a,.ptr d 0] c _;refine aZ hm Qg ρ ?_;have f:=E _ _ aE;refine ai (bu.cells o) ?_;refine aO λp i=>?_;have F:=μ (X:=.cells a.cells) (θ) i;have c2:(c.set p (.cells a.cells)) p=β (.cells a.cells):=ν _ _ _;have aL:=F _ _ f;have G:aP η 37 (a.cells.drop 0)=a:=by obtain⟨j,_,l,m,n,rfl⟩:=o;show aP η 37 (ae k l m n)= _;rw[aP,if_pos rfl,(aN j).t37]
  have q:aP η 37 a.cells=a:=G;have L:=bu.cells o;refine ai @L ?_;have s:=z.2 k a (c.set p (.cells a.cells)) o (ο C (ο E F));generalize c.set p (.cells a.cells)=t at*;refine ai (ba (κ aL) (κ c2) @L @G @q) ?_;refine eC z.1 s ?_;rintro _ t⟨rfl,rfl⟩;refine bJ ?_;simp_all
 rintro _ D⟨rfl,rfl⟩;refine bJ ?_;grind
theorem WZ(a b:an):(decide (a=b))=(decide (a.sum=b.sum)&&decide (a.live=b.live)&&decide (a.size=b.size)&&(decide (a.aT=b.aT)&&decide (a.aS=b.aS))&&decide (a.key=b.key)):=by obtain⟨c,d,h,k,o,bm⟩:=a;obtain⟨p,r,x,y,z,C⟩:=b;grind
def tF{b:Τ}:peq (.agg (B.map ao)) (.agg (b.map ao))=decide (B=b):=by rw[<-Bool.coe_iff_coe,pz,decide_eq_true_eq];exact⟨λa=>ts a,λa=>by rw[a]⟩
theorem Cg(a b:an)(h k o p r x:Own)(W:U)(f:α a.sum=32)(g:α b.sum=32)(c:a.live=b.live->a.cH):
  AC γ 181 [.agg (ae a h k o),.agg (ae b p r x)] W λt u=>u=W/\t=.v (.bool (decide (a=b))):=by
 have i:=aN (O:=h) (e4:=k) (h5:=o) f;have j:=aN (O:=p) (e4:=r) (h5:=x) g;rw[WZ];generalize ae a h k o=v at i;generalize ae b p r x=w at j;obtain⟨y,N,a3,a4,_,du,z,O⟩:=i;obtain⟨C,Q,D,E,_,F,G,X⟩:=j;refine aZ hm Nu ρ ?_;have d:∀l,(R.agg l).cells=l:=λ_=>rfl;refine aa ?_;refine aO λA B=>?_;refine aa ?_;refine aO λm L=>?_;have e:A≠m:=by rintro rfl;rw[ν]at L;cases L
 have H:=Ζ e;have I:W m=none:=by rw[ξ _ _ H]at L;exact L
 have Y:=μ (X:=.cells w) (μ (X:=.cells v) (θ) B) I;have P:db [(32,.int .u8)] (a.sum.map ao):=nH f;have S:db [(32,.int .u8)] (b.sum.map ao):=nH g;have T:∀n q K e M:R,List.take 2 [n,q,K,e,M]=[n,q]:=λ_ _ _ _ _=>rfl;by_cases bm:a.sum=b.sum
 .by_cases V:a.live=b.live
  .by_cases s:a.size=b.size
   .have c:=c V;simp -dsimp -implicitDefEqProofs (disch:=first|omega|assumption|(simp only[aR,Nat.reduceAdd];try omega)) only[go_sem,simprocAttr,-List.reduceReplicate,d,a3,D,P,S,tF,bm,V,s,y,C,du,F,z,G,a4,E,T,a5x];refine ak (WT _ a.aT a.aS b.aT b.aS h k p r c.aT c.aS) ?_;rintro _ _⟨rfl,rfl⟩;cases Z:(decide (a.aT=b.aT)&&decide (a.aS=b.aS))with
    |true=>refine aa ?_;refine ak (jW a.key b.key o x _ c.key) ?_;rintro _ _⟨rfl,rfl⟩;refine bJ ?_;simp_all
    |false=>refine ai @d ?_;simp_all
   .simp -dsimp -implicitDefEqProofs (disch:=first|omega|assumption|(simp only[aR,Nat.reduceAdd];try omega)) only[go_sem,simprocAttr,-List.reduceReplicate,d,a3,D,P,S,tF,bm,V,s,y,C,du,F,z,G,a4,E,T,a5x];simp_all
  .simp -dsimp -implicitDefEqProofs (disch:=first|omega|assumption|(simp only[aR,Nat.reduceAdd];try omega)) only[go_sem,simprocAttr,-List.reduceReplicate,d,a3,D,P,S,tF,bm,V,y,C,du,F,z,G,a4,E,T,a5x];simp_all
 .simp -dsimp -implicitDefEqProofs (disch:=first|omega|assumption|(simp only[aR,Nat.reduceAdd];try omega)) only[go_sem,simprocAttr,-List.reduceReplicate,d,a3,D,P,S,tF,bm,y,C,du,F,z,G,a4,E,T,a5x];simp_all
def lK(a:an)(c d h:Own)(k:U)(o:α a.sum=32)(x:a.live=0->a.cH):
  AC γ 123 [.agg (ae a c d h)] k λy z=>z=k/\y=.v (.bool (decide (a=aB))):=by
 have b:=aN (O:=c) (e4:=d) (h5:=h) o;refine aZ hm LZ ρ ?_;have p:∀r,(R.agg r).cells=r:=λ_=>rfl;have E:=b.len;have C:(ζ 32 (R.v (.int .u8 0))++[R.J [] .nil,.J [] .nil]++[R.v (.int .i64 0),.v (.int .i64 0)]++[R.J [] .nil])=ae aB .nil .nil .nil:=by rw[show ζ 32 (R.v (.int .u8 0))=(ζ 32 (0)).map ao by rw[List.map_replicate];rfl];simp only[a3o];rfl
 refine ai (c2 @p b.len) ?_;refine aO λF D=>?_;refine ai (aL @p b.len b.t37 @C) ?_;refine ak (Cg a aB c d h .nil .nil .nil _ o rfl x) ?_;rintro _ _⟨rfl,rfl⟩;refine bJ ?_;exact⟨k,μ θ D,rfl⟩
theorem wP(a:an)(o p x:Own)(c:Nat)(y:U)(f:c<=1000000000000)(D:α a.sum=32)(g:a.cH):
  AC γ 183 [.agg (ae a o p x),.v (.int .i64 (c:Int))] y λi j=>j=y/\i=.v (.bool (eK c a)):=by
 have E:=aN (O:=o) (e4:=p) (h5:=x) D;have F:=λy=>lK a o p x y D λ_=>g;generalize ae a o p x=l at E F;obtain⟨d,s,a3,a4,a5,du,h,t⟩:=E;refine aZ hm Ny ρ ?_;have k:∀G,(R.agg G).cells=G:=λ_=>rfl;have L:=bK (n:=a.aT);have P:=bK (n:=a.aS);refine aa ?_;refine aO λu m=>?_;have v:=μ (X:=.cells l) (θ) m;refine aa ?_;refine ak (F _) ?_;rintro _ _⟨rfl,rfl⟩;have w:∀S T n c q:R,List.take 2 [S,T,n,c,q]=[S,T]:=λ_ _ _ _ _=>rfl;unfold eK;by_cases b:a=aB
 .refine ai @b ?_;simp_all
 by_cases bm:a.size<1
 .simp -dsimp -implicitDefEqProofs (disch:=first|omega|assumption|(simp only[aR,Nat.reduceAdd];try omega)) only[go_sem,simprocAttr,-List.reduceReplicate,b,bm,k,d,du,h];simp_all
 by_cases r:(1048576)<a.size
 .simp -dsimp -implicitDefEqProofs (disch:=first|omega|assumption|(simp only[aR,Nat.reduceAdd];try omega)) only[go_sem,simprocAttr,-List.reduceReplicate,b,bm,r,k,d,du,h];simp_all
 by_cases z:a.live<0
 .simp -dsimp -implicitDefEqProofs (disch:=first|omega|assumption|(simp only[aR,Nat.reduceAdd];try omega)) only[go_sem,simprocAttr,-List.reduceReplicate,b,bm,r,z,k,d,du,h];simp_all
 by_cases C:a.size<a.live
 .simp -dsimp -implicitDefEqProofs (disch:=first|omega|assumption|(simp only[aR,Nat.reduceAdd];try omega)) only[go_sem,simprocAttr,-List.reduceReplicate,b,bm,r,z,C,k,d,du,h];simp_all
 by_cases V:a.live=0
 .have W:¬a.size<0:=δ;by_cases e:(α a.aT:Int)=0
  .simp -dsimp -implicitDefEqProofs (disch:=first|omega|assumption|(simp only[aR,Nat.reduceAdd];try omega)) only[go_sem,simprocAttr,-List.reduceReplicate,b,bm,r,z,C,V,e,W,k,d,a4,a5,du,h,L,P];simp_all
  .simp -dsimp -implicitDefEqProofs (disch:=first|omega|assumption|(simp only[aR,Nat.reduceAdd];try omega)) only[go_sem,simprocAttr,-List.reduceReplicate,b,bm,r,z,C,V,e,W,k,d,a4,a5,du,h,L,P];simp_all
 .refine aa ?_;refine ak (nJ _ a.aT a.aS o p c f) ?_;rintro _ _⟨rfl,rfl⟩;refine bJ ?_;simp_all
theorem X0(b:Nat)(a:Ρ×Bool)(h:R)(r:dy a h)(c:U)(d:Nat)(k:c.read d=β [.v (.int .i64 (b:Int))]):
  AC γ 254 [h,.ptr d 0] c λx y=>y=c/\x=.v (.bool (decide (α a.1=b))):=by
 obtain⟨F,rfl⟩:=r;refine aZ hm Pg ρ ?_;have z:∀o,(R.agg o).cells=o:=λ_=>rfl;have C:=bK (n:=a.1);refine aa ?_;refine aO λD p=>?_;have G:d≠D:=by rintro rfl;simp[U.read,p]at k
 refine ai (aE @z @C @k) ?_;have E:decide ((α a.1:Int)=b)=decide (α a.1=b):=by grind
 exact⟨c,μ θ p,rfl,by rw[E]⟩
def X1(a:Nat)(E:a<=1000000000000)(c:an)(h:R)(F:bu c h)(b:U)(d:Nat)(k:b.read d=β [.v (.int .i64 (a:Int))]):
  AC γ 256 [h,.ptr d 0] b λG L=>L=b/\G=.v (.bool (eK a c)):=by
 obtain⟨o,P,p,r,x,rfl⟩:=F;refine aZ hm Pl ρ ?_;have y:∀z,(R.agg z).cells=z:=λ_=>rfl;have C:=aN (O:=p) (e4:=r) (h5:=x) o;have T:=C.len;refine ai @y ?_;refine aO λS D=>?_;have V:d≠S:=by rintro rfl;simp[U.read,D]at k
 refine ai (aE @y @k C.t37) ?_;refine ak (wP c p r x a _ E o P) ?_;rintro _ _⟨rfl,rfl⟩;refine bJ ?_;exact⟨b,μ θ D,rfl⟩
def X2(a:an)(c:R)(k:bu a c)(b:U):
  AC γ 257 [c] b λo p=>p=b/\o=.v (.bool (decide (α a.key=0))):=by
 obtain⟨r,G,x,y,z,rfl⟩:=k;refine aZ hm Pn ρ ?_;have C:∀d,(R.agg d).cells=d:=λ_=>rfl;have h:=aN (O:=x) (e4:=y) (h5:=z) r;have L:=h.len;have D:=bK (n:=a.key);refine aa ?_;refine aO λP E=>?_;refine ai (aE @C h.d36 @D) ?_;have F:decide ((α a.key:Int)=0)=decide (α a.key=0):=by simp
 exact⟨b,μ θ E,rfl,by rw[F]⟩
def X3(b:Ρ×Bool)(c:R)(h:dy b c)(a:U):
  AC γ 258 [c] a λk o=>o=a/\k=.v (.bool b.2):=by
 obtain⟨x,rfl⟩:=h;refine aZ hm Pp ρ ?_;have p:∀d,(R.agg d).cells=d:=λ_=>rfl;refine aa ?_;refine aO λy r=>?_;refine ai @p ?_;exact⟨a,μ θ r,rfl⟩
def X4(b:Nat)(a:an)(r:R)(G:bu a r)(c:U)(h:Nat)(k:c.read h=β [.v (.int .i64 (b:Int))]):
  AC γ 259 [r,.ptr h 0] c λL P=>P=c/\L=.v (.bool (decide (α a.key=b)&& !decide (a=aB))):=by
 obtain⟨x,S,y,z,C,rfl⟩:=G;refine aZ hm Pr ρ ?_;have D:∀E,(R.agg E).cells=E:=λ_=>rfl;have d:=aN (O:=y) (e4:=z) (h5:=C) x;have V:=d.len;have F:=bK (n:=a.key);refine aa ?_;refine aO λT o=>?_;have W:h≠T:=by rintro rfl;simp[U.read,o]at k
 by_cases bm:(α a.key:Int)=b
 .have p:α a.key=b:=δ;simp -dsimp -implicitDefEqProofs (disch:=first|omega|assumption|(simp only[aR,Nat.reduceAdd];try omega)) only[go_sem,simprocAttr,-List.reduceReplicate,D,k,d.t37,d.d36,F,bm];refine ak (lK a y z C _ x λ_=>S) ?_;rintro _ _⟨rfl,rfl⟩;refine bJ ?_;exact⟨c,μ θ o,rfl,by simp[p]⟩
 .have p:¬α a.key=b:=δ;simp -dsimp -implicitDefEqProofs (disch:=first|omega|assumption|(simp only[aR,Nat.reduceAdd];try omega)) only[go_sem,simprocAttr,-List.reduceReplicate,D,k,d.t37,d.d36,F,bm];exact⟨c,μ θ o,rfl,by simp[p]⟩
structure fj(a:U)(n:bQ)(x y:R)(b c:Χ):Prop where
 rows:aC dy n.rows b
 kids:aC bu n.kids c
 lv:bM a 2 x b
 hh:bM a 37 y c
 jX:α n.rows<=100000
 hn:α n.kids<=100000
def fj.mono{b c:U}{d:bQ}{h k:R}{o p:Χ}(a:fj b d h k o p)(r:b.sub c):fj c d h k o p:=⟨a.rows,a.kids,a.lv.mono r,a.hh.mono r,a.jX,a.hn⟩
def fj.gA(a:fj f b3 q b7 g A):fY q=β (.v (.int .i64 (α b3.rows))):=by rw[a.lv.len,a.rows.len]
def fj.rO(a:fj f b3 b7 q g A):fY q=β (.v (.int .i64 (α b3.kids))):=by rw[a.hh.len,a.kids.len]
abbrev jb(a:bQ)(b c:R):R:=.agg [.v (.int .u8 (a.kind.toNat:Int)),b,c]
theorem hP(b:UInt8)(a:Nat)(c:a<256):(decide ((b.toNat:Int)=(a:Int)))=decide (b=ς a):=by grind[ς,UInt8.toNat_inj,UInt8.toNat_ofNat']
theorem Ch(a:bQ)(m g:Χ)(c G:R)(b:Nat)(k2:1<=b)(k3:b<=8)(V:U)(p:fj V a c G m g):
  AC γ 205 [jb a c G,.v (.int .i64 (b:Int))] V λC d=>d=V/\C=.v (.bool (dE b a)):=by
 have D:=p.gA;have E:=p.rO;have k4:=p.jX;have k5:=p.hn;refine aZ hm NV ρ ?_;have k6:∀q,(R.agg q).cells=q:=λ_=>rfl;refine aa ?_;refine aO λi N=>?_;refine aa ?_;refine aO λh j=>?_;have k:i≠h:=by rintro rfl;rw[ν]at j;cases j
 have o:=Ζ k;have O:V h=none:=by rw[ξ _ _ o]at j;exact j
 have W:=μ (X:=.cells [.v (.int .i64 (b))]) (μ (X:=.cells [.v (.int .u8 (a.kind.toNat)),c,G]) (θ) N) O;have c2:((V.set i (.cells [.v (.int .u8 (a.kind.toNat)),c,G])).set h (.cells [.v (.int .i64 (b))])) i=β (.cells [.v (.int .u8 (a.kind.toNat)),c,G]):=by rw[ξ _ _ k,ν]
 have aE:((V.set i (.cells [.v (.int .u8 (a.kind.toNat)),c,G])).set h (.cells [.v (.int .i64 (b))])) h=β (.cells [.v (.int .i64 (b))]):=ν _ _ _;have r:¬(b:Int)<1:=δ;have x:¬(8)<(b:Int):=δ;refine aa ?_;have Q:∀y:U,y h=β (.cells [.v (.int .i64 (b:Int))])->(gz dy y 254 [] [.ptr h 0] λC=>decide (α C.1=b))/\gz bu y 256 [] [.ptr h 0] (eK b)/\(gz bu y 257 [] [] λL=>decide (α L.key=0))/\(gz dy y 258 [] [] λC=>C.2)/\(gz bu y 259 [] [.ptr h 0] λL=>decide (α L.key=b)&& !decide (L=aB)):=by intro y aE;have n:∀d,y.sub d->d.read h=β [.v (.int .i64 (b))]:=λd P=>κ (P _ _ aE);have s:gz dy y 254 [] [.ptr h 0] λC=>decide (α C.1=b):=⟨Ο,λc S d T P=>X0 b c S T d h (n d P)⟩;have t:gz bu y 256 [] [.ptr h 0] (eK b):=⟨Ο,λc S d T P=>X1 b δ c S T d h (n d P)⟩;have u:gz bu y 257 [] [] λL=>decide (α L.key=0):=⟨Ο,λc S d T P=>X2 c S T d⟩;have v:gz dy y 258 [] [] λC=>C.2:=⟨Ο,λc S d T P=>X3 c S T d⟩;have w:gz bu y 259 [] [.ptr h 0] λL=>decide (α L.key=b)&& !decide (L=aB):=⟨Ο,λc S d T P=>X4 b c S T d h (n d P)⟩;simp_all
 obtain⟨s,t,u,v,w⟩:=Q _ aE;refine aa ?_;refine ak (Cf a.rows m c _ p.rows (p.lv.mono W) δ s) ?_;rintro _ _⟨rfl,rfl⟩;unfold dE;cases k7:a.rows.all (λC=>decide (α C.1=b))with
 |false=>refine ai (bs @r @x (κ c2) (κ aE) @ξ @k @o @a3H) ?_;simp_all
 |true=>
 refine aa ?_;refine ak (wO a.kids g G _ p.kids (p.hh.mono W) δ t) ?_;rintro _ _⟨rfl,rfl⟩;cases k8:a.kids.all (eK b)with
 |false=>refine ai (bs @r @x (κ c2) (κ aE) @ξ @k @o @a3H) ?_;simp_all
 |true=>
 have X:=hP a.kind 1 δ;have Y:=hP a.kind 2 δ;have Z:=hP a.kind 3 δ;simp only[a5N]at X Y Z;by_cases bm:a.kind=1
 .have A:((a.kind.toNat:Int)=1)=True:=by rw[bm];simp
  refine aa ?_;by_cases z:(α a.rows:Int)=1
  .by_cases F:(α a.kids:Int)=2
   .refine ai (fZ @r @x (κ c2) (κ aE) @ξ @k @o @a3E @z @F @D @E) ?_;refine ak (wO a.kids g G _ p.kids (p.hh.mono W) δ u) ?_;rintro _ _⟨rfl,rfl⟩;refine bJ ?_;have e:α a.rows=1:=δ;have l:α a.kids=2:=δ;simp_all
   .have l:¬α a.kids=2:=δ;refine ai (fZ @r @x (κ c2) (κ aE) @ξ @k @o @a3E @z @F @D @E) ?_;simp_all
  .have e:¬α a.rows=1:=δ;refine ai (ff @r @x (κ c2) (κ aE) @ξ @k @o @a3E @z @D @E) ?_;simp_all
 have A:¬(a.kind.toNat:Int)=1:=λB=>bm (by simp_all);by_cases H:a.kind=2
 .have I:((a.kind.toNat:Int)=2)=True:=by rw[H];simp
  refine aa ?_;by_cases z:(1:Int)<=α a.rows
  .by_cases F:(α a.rows:Int)<=4
   .by_cases f:(α a.kids:Int)=0
    .refine ai (kD @r @x (κ c2) (κ aE) @ξ @k @o @a3E @D @E @z @F @f) ?_;refine ak (Cf a.rows m c _ p.rows (p.lv.mono W) δ v) ?_;rintro _ _⟨rfl,rfl⟩;refine bJ ?_;have e:1<=α a.rows:=δ;have l:α a.rows<=4:=δ;simp_all
    .have k0:¬α a.kids=0:=δ;refine ai (kD @r @x (κ c2) (κ aE) @ξ @k @o @a3E @D @E @z @F @f) ?_;simp_all
   .have l:¬α a.rows<=4:=δ;refine ai (fZ @r @x (κ c2) (κ aE) @ξ @k @o @a3E @D @E @z @F) ?_;grind
  .have e:¬1<=α a.rows:=δ;refine ai (ff @r @x (κ c2) (κ aE) @ξ @k @o @a3E @D @E @z) ?_;simp_all
 have I:¬(a.kind.toNat:Int)=2:=λB=>H (by simp_all);by_cases K:a.kind=3
 .have M:((a.kind.toNat:Int)=3)=True:=by rw[K];simp
  refine aa ?_;by_cases z:(α a.rows:Int)=0
  .by_cases F:(2:Int)<=α a.kids
   .by_cases f:(α a.kids:Int)<=4
    .refine ai (kD @r @x (κ c2) (κ aE) @ξ @k @o @a3E @D @E @z @F @f) ?_;refine ak (wO a.kids g G _ p.kids (p.hh.mono W) δ w) ?_;rintro _ _⟨rfl,rfl⟩;refine bJ ?_;have e:α a.rows=0:=δ;grind
    .have k0:¬α a.kids<=4:=δ;refine ai (kD @r @x (κ c2) (κ aE) @ξ @k @o @a3E @D @E @z @F @f) ?_;grind
   .have l:¬2<=α a.kids:=δ;refine ai (fZ @r @x (κ c2) (κ aE) @ξ @k @o @a3E @D @E @z @F) ?_;grind
  .have e:¬α a.rows=0:=δ;refine ai (ff @r @x (κ c2) (κ aE) @ξ @k @o @a3E @D @E @z) ?_;simp_all
 have M:¬(a.kind.toNat:Int)=3:=λB=>K (by simp_all);refine ai (ff @r @x (κ c2) (κ aE) @ξ @k @o @a3E @A @I @M) ?_;simp_all
def rP{b k:Type}{c:b->List k}{d:Nat}:∀ {l:List b},(∀a∈l,(c a).length<=d)->(l.flatMap c).length<=α l*d
 |[],_=>by simp
 |a::l,h=>by
  have r:=h a ρ;have x:=rP (l:=l) λo p=>h o (by simp[p]);rw[a3A,a2V,a3e,a3U];omega
structure an.mG(k:an):Prop where
 aT:α k.aT<=8
 aS:α k.aS<=8
 key:α k.key<=8
 rI:0<=k.live
 live:k.live<=1048576
 rJ:0<=k.size
 size:k.size<=1048576
theorem mH(a:dD n b6 e=η):α n=e/\α b6=e/\1<=e/\e<=8:=by simp_all [dD]
theorem qg(a:eK e w=η):α w.aT<=8/\α w.aS<=8/\0<=w.live/\w.live<=1048576/\0<=w.size/\w.size<=1048576:=by
 unfold eK at a;rw[a4x]at a;rcases a with a|a
 .have:=of_decide_eq_true a;subst this;simp[aB]
 .simp only[Ξ,a4p,a7b,decide_eq_false_iff_not]at a;obtain⟨c,b⟩:=a;have:α w.aT<=8/\α w.aS<=8:=by
   split at b;simp_all
   .have:=mH b;omega
  omega
theorem tG(o:e<=8)(a:dE e b3=η):∀b∈b3.kids,b.mG:=by intro b c;unfold dE at a;simp only[Ξ,a3h]at a;obtain⟨⟨_,d⟩,p⟩:=a;obtain⟨h,k,a3,a4,a5,du⟩:=qg (d b c);refine⟨h,k,?_,a3,a4,a5,du⟩;grind
def Ci{a:Ρ×Bool}(b:α a.1<=8):(iY a).length<=100:=by simp[iY,wG];omega
def Cj(b:α w.sum=32)(a:w.mG):(iZ w).length<=300:=by have c:=a.aT;have d:=a.aS;have h:=a.key;simp[iZ,wG,rG,b];omega
theorem wQ(a:bQ)(l1 l2:Χ)(z C:R)(D:Nat)(a06:1<=D)(l3:D<=8)(s:U)(E:fj s a z C l1 l2):
  AC γ 156 [jb a z C,.v (.int .i64 (D:Int))] s λh o=>s.sub o/\match rH D a with
   |none=>h=.aF [.J [] .nil,.v (.int .i64 1)]
   |some F=>∃a07,h=.aF [.J (F.map ao) a07,.v (.int .i64 0)]:=by
 have l4:=E.gA;have l5:=E.rO;have a90:=E.jX;have a92:=E.hn;refine aZ hm MF ρ ?_;have K:∀k2,(R.agg k2).cells=k2:=λ_=>rfl;have a94:∀y F S,aP η 3 [y,F,S]=.agg [y,F,S]:=λ_ _ _=>rfl;have a08:∀y F S:R,List.take 3 [y,F,S]=[y,F,S]:=λ_ _ _=>rfl;refine ai @K ?_;refine aO λj a09=>?_;have t:=μ (X:=.cells [.v (.int .u8 (a.kind.toNat)),z,C]) (θ) a09;have c2:(s.set j (.cells [.v (.int .u8 (a.kind.toNat)),z,C])) j=β (.cells [.v (.int .u8 (a.kind.toNat)),z,C]):=ν _ _ _;simp -dsimp -implicitDefEqProofs (disch:=first|omega|assumption|(simp only[aR,Nat.reduceAdd];try omega)) only[go_sem,simprocAttr,-List.reduceReplicate,K,a08];refine ak (Ch a l1 l2 z C D a06 l3 _ (E.mono t)) ?_;rintro _ _⟨rfl,rfl⟩;unfold rH;cases l6:dE D a with
 |false=>refine ai @a3H ?_;exact⟨_,θ,t⟩
 |true=>
 obtain⟨a10,a95,a96⟩:=kF l6;have l7:=tG l3 l6;refine ai @a3E ?_;refine aO λc a11=>?_;have l8:j≠c:=by grind
 obtain⟨p,k3⟩:∃p:U,p=s.set j (.cells [.v (.int .u8 (a.kind.toNat)),z,C]):=⟨_,rfl⟩;rw[<-k3]at t c2;have l9:p c=none:=by rw[k3];exact a11
 have a13:cZ p c [] (p.set c (.cells [.J [] .nil,.v (.int .i64 0)])):=⟨.nil,bj.nil θ⟩;have n0:=E.mono t;have a14:=n0.lv;have a15:=n0.hh;have M:∀aX o,cZ p c aX o->o j=β (.cells [.v (.int .u8 (a.kind.toNat)),z,C]):=λaX o u=>u.get l8 c2;have n1:∀aX o,cZ p c aX o->p.sub o:=λaX o u=>u.sub l9;have a16:da a=([a.kind]++[ς (α a.rows)]++a.rows.flatMap iY++[ς (α a.kids)])++a.kids.flatMap iZ:=by simp[da]
 have n2:∀b,((a.rows.take b).flatMap iY).length<=400:=λb=>by
  have:=rP (l:=a.rows.take b) λh a97=>Ci (a:=h) (by grind);grind
 rw[<-k3];simp -dsimp -implicitDefEqProofs (disch:=first|omega|assumption|(simp only[aR,Nat.reduceAdd];try omega)) only[go_sem,simprocAttr,-List.reduceReplicate,κ c2,l8];refine ak (oQ p _ c [] a.kind a13 ρ) ?_;intro _ a18 n3;simp -dsimp -implicitDefEqProofs (disch:=first|omega|assumption|(simp only[aR,Nat.reduceAdd];try omega)) only[go_sem,simprocAttr,-List.reduceReplicate,κ (M _ _ n3),l4,oG];refine ak (oQ p a18 c _ (ς (α a.rows)) n3 ρ) ?_;intro _ a98 a19;simp -dsimp -implicitDefEqProofs (disch:=first|omega|assumption|(simp only[aR,Nat.reduceAdd];try omega)) only[go_sem,simprocAttr,-List.reduceReplicate,κ (M _ _ a19),l4];refine cz (λr o=>∃b:Nat,b<=α a.rows/\cZ p c ([a.kind]++[ς (α a.rows)]++(a.rows.take b).flatMap iY) o/\r 2=.ptr j 0/\r 6=.ptr c 0/\r 28=z/\r 29=.v (.int .i64 (α a.rows))/\r 30=.v (.int .i64 b))
  (λr _=>match r 30 with|.v (.int _ k4)=>α a.rows - k4.toNat|_=>0) ⟨0,δ,by trivial,?_⟩ ?_
 .exact jN
 rintro r v⟨b,a27,x,T,k,l,m,n⟩;by_cases w:(b:Int)<α a.rows
 .have W:a.rows[b]?=β a.rows[b]:=Ν δ;have N:a.rows.take (b+1)=a.rows.take b++[a.rows[b]]:=by rw[a3W,W];rfl
  have a29:=a10 _ (a3r (n:=b) δ);generalize a.rows[b]'δ=h at W N a29;obtain⟨y,k5,q,rfl⟩:=E.rows.get W;obtain⟨a30,k6,O⟩:=a14.get b _ k5;have A:=O.ld v (n1 _ _ x) η 2 δ (by simp[τ]);have n4:=n2 b;have a34:aP η 2 (R.agg [.J (ab h.1) q,.v (.bool h.2)]).cells=.agg [.J (ab h.1) q,.v (.bool h.2)]:=rfl;rw[a34]at A;refine ai (bs @T @k @l @m @n @w @k6 @A) ?_;refine aO λn5 a36=>?_;have a38:∀y F S D:R,putAt [y,F] 0 [S,D]=[S,D]:=λ_ _ _ _=>rfl;obtain⟨a42,a43,Q⟩:=x.new (ob:=.cells [.J (ab h.1) q,.v (.bool h.2)]) a36;have a47:(p.set n5 (.cells [.J (ab h.1) q,.v (.bool h.2)])) n5=β (.cells [.J (ab h.1) q,.v (.bool h.2)]):=ν _ _ _;refine ai (bs @T @k @l @m @n @K @a38 @σ) ?_;refine ak (Wz _ _ c _ h.2 Q (by grind)) ?_;intro _ a48 B;refine ai (bx @T @k @l @m @n (κ (B.get a42 a47))) ?_;refine ak (tv _ _ c _ h.1 q δ B (by grind)) ?_;intro _ a52 X;refine ai (ba @T @k @l @m @n) ?_;refine⟨⟨b+1,δ,?_,ρ⟩,δ⟩;have H:=X.base (μ (θ) a43);rw[N,a3S];simpa[iY] using H
 .obtain rfl:b=α a.rows:=δ;rw[a3K]at x;have n4:=n2 (α a.rows);rw[a3K]at n4;simp -dsimp -implicitDefEqProofs (disch:=first|omega|assumption|(simp only[aR,Nat.reduceAdd];try omega)) only[go_sem,simprocAttr,-List.reduceReplicate,T,k,l,m,n,w,κ (M _ _ x),l5,oG];refine ak (oQ p v c _ (ς (α a.kids)) x (by grind)) ?_;intro _ a99 n9;have b00:([a.kind]++[ς (α a.rows)]++a.rows.flatMap iY++[ς (α a.kids)]).length<=500:=by grind
  generalize [a.kind]++[ς (α a.rows)]++a.rows.flatMap iY++[ς (α a.kids)]=k7 at*;have a00:∀b,((a.kids.take b).flatMap iZ).length<=1200:=λb=>by
   have:=rP (l:=a.kids.take b) λd a56=>by
    have hm:=a3j a56;obtain⟨b01,a57,rfl⟩:=a3B hm;obtain⟨y,_,Y,_⟩:=E.kids.get (Ν a57);exact Cj Y (l7 _ hm)
   grind
  simp -dsimp -implicitDefEqProofs (disch:=first|omega|assumption|(simp only[aR,Nat.reduceAdd];try omega)) only[go_sem,simprocAttr,-List.reduceReplicate,T,k,κ (M _ _ n9),l5];refine cz (λr o=>∃b:Nat,b<=α a.kids/\cZ p c (k7++(a.kids.take b).flatMap iZ) o/\r 6=.ptr c 0/\r 50=C/\r 51=.v (.int .i64 (α a.kids))/\r 52=.v (.int .i64 b))
   (λr _=>match r 52 with|.v (.int _ k4)=>α a.kids - k4.toNat|_=>0) ⟨0,δ,by simpa using n9,?_⟩ ?_
  .simp -dsimp -implicitDefEqProofs (disch:=first|omega|assumption|(simp only[aR,Nat.reduceAdd];try omega)) only[go_sem,simprocAttr,-List.reduceReplicate,T,k]
  clear T k l m n;rintro r v⟨b,a27,x,k,G,L,P⟩;by_cases w:(b:Int)<α a.kids
  .have W:a.kids[b]?=β a.kids[b]:=Ν δ;have N:a.kids.take (b+1)=a.kids.take b++[a.kids[b]]:=by rw[a3W,W];rfl
   have V:=l7 _ (a3r (n:=b) δ);generalize a.kids[b]'δ=d at W N V;obtain⟨y,k5,Y,_,e,f,g,rfl⟩:=E.kids.get W;obtain⟨a30,k6,O⟩:=a15.get b _ k5;have Z:=aN (O:=e) (e4:=f) (h5:=g) Y;have a61:(R.agg (ae d e f g)).cells=ae d e f g:=rfl;rw[a61]at O;have A:=O.ld v (n1 _ _ x) η 37 δ (by rw[Z.len];omega);rw[show aP η 37 (ae d e f g)=.agg (ae d e f g) by rw[aP,if_pos rfl,Z.t37]]at A;have k8:=Z.len;generalize ae d e f g=i at*;obtain⟨b02,b03,a3,a4,a5,du,a62,a63⟩:=Z;have b04:=a00 b;refine ai (cd @k @G @L @P @w @k6 @A) ?_;refine aO λk0 a65=>?_;obtain⟨a68,a69,Q⟩:=x.new (ob:=.cells i) a65;have a71:(p.set k0 (.cells i)) k0=β (.cells i):=ν _ _ _;have b05:=k8;have b06:=V.rI;have cn:=V.rJ;have b07:=V.live;have b08:=V.size;have b09:=V.aT;have b10:=V.aS;have b11:=V.key;have a73:∀k9:Χ,α k9=37->putAt k9 0 i=i:=λk9 a74=>by rw[putAt];simp[a74,k8]
   refine ai (ck @k @G @L @P @K @a73 @k8 @σ @a2V.{0} @a4E.{0}) ?_;have a81:d.live=(d.live.toNat):=δ;have a83:d.size=(d.size.toNat):=δ;have I:∀aX o,cZ (p.set k0 (.cells i)) c aX o->o k0=β (.cells i):=λaX o u=>u.get a68 a71;rw[a3];have l0:(k7++(a.kids.take b).flatMap iZ).length<=1700:=by grind
   obtain⟨b12,a84⟩:∃a86,a86=k7++(a.kids.take b).flatMap iZ:=⟨_,rfl⟩;rw[<-a84]at Q l0;refine ak (Wi _ _ c _ d.sum Y Q δ) ?_;intro _ a48 B;simp -dsimp -implicitDefEqProofs (disch:=first|omega|assumption|(simp only[aR,Nat.reduceAdd];try omega)) only[go_sem,simprocAttr,-List.reduceReplicate,k,G,L,P,κ (I _ _ B),du];rw[a81];refine ak (BR _ _ c _ d.live.toNat δ B (by grind)) ?_;intro _ a52 X;simp -dsimp -implicitDefEqProofs (disch:=first|omega|assumption|(simp only[aR,Nat.reduceAdd];try omega)) only[go_sem,simprocAttr,-List.reduceReplicate,k,G,L,P,κ (I _ _ X),a62];rw[a83];have cl:=rG d.live.toNat;have k2:=rG d.size.toNat;refine ak (BR _ _ c _ d.size.toNat δ X (by grind)) ?_;intro _ b13 H;simp -dsimp -implicitDefEqProofs (disch:=first|omega|assumption|(simp only[aR,Nat.reduceAdd];try omega)) only[go_sem,simprocAttr,-List.reduceReplicate,k,G,L,P,κ (I _ _ H),a4];have a01:=λh=>wG (a:=h);have b14:=a01 d.aT;have b15:=a01 d.aS;refine ak (tv _ _ c _ d.aT e δ H (by grind)) ?_;intro _ b16 a02;simp -dsimp -implicitDefEqProofs (disch:=first|omega|assumption|(simp only[aR,Nat.reduceAdd];try omega)) only[go_sem,simprocAttr,-List.reduceReplicate,k,G,L,P,κ (I _ _ a02),a5];refine ak (tv _ _ c _ d.aS f δ a02 (by grind)) ?_;intro _ b17 a03;simp -dsimp -implicitDefEqProofs (disch:=first|omega|assumption|(simp only[aR,Nat.reduceAdd];try omega)) only[go_sem,simprocAttr,-List.reduceReplicate,k,G,L,P,κ (I _ _ a03),a63];refine ak (tv _ _ c _ d.key g δ a03 (by grind)) ?_;intro _ b18 a88;refine ai (aL @k @G @L @P) ?_;refine⟨⟨b+1,δ,?_,ρ⟩,δ⟩;have H:=a88.base (μ (θ) a69);grind[List.append_assoc,iZ]
  .obtain rfl:b=α a.kids:=δ;rw[a3K]at x;have l0:=a00 (α a.kids);rw[a3K]at l0;refine ai (ba @k @G @L @P @w) ?_;refine ak (We _ v c _ x (by grind)) ?_;rintro _ a04⟨a89,a05,rfl⟩;refine ai @k ?_;refine ak (Wv _ a04 c _ (x.mono a05.sub)) ?_;rintro _ a04⟨rfl,rfl⟩;refine bJ ?_;refine⟨_,θ,ο t (ο (x.sub l9) a05.sub),a89,?_⟩;rw[a16]
end Go.Proofs.YtcfpcblgmmeioaaGreat
set_option maxHeartbeats 1000000
namespace Go.Proofs.YtcfpcblgmmeioaaGreat
open Go Go.bt
theorem cm:(ζ 32 (R.v (.int .u8 0))++[R.J [] .nil,.J [] .nil]++[R.v (.int .i64 0),.v (.int .i64 0)]++[R.J [] .nil])=ae aB .nil .nil .nil:=by rw[show ζ 32 (R.v (.int .u8 0))=(ζ 32 (0)).map ao by rw[List.map_replicate];rfl];simp only[a3o];rfl
variable{w j0:an}{B:Τ}{O e4 h5:Own}
theorem Ck(a:α w.sum=32)(b:α B=32):putAt (ae w O e4 h5) 0 (B.map ao)=ae {w with sum:=B} O e4 h5:=by grind[ao,ae,putAt,List.length_map,List.drop_append,List.drop_eq_nil_of_le]
variable{q b7:R}{g A c0:Χ}
theorem tH{b c d:R}(r:α g=32):(∀a x,putAt (g++[q,b7,b,c,d]) 32 [a,x]=g++[a,x,b,c,d])/\(∀a,putAt (g++[q,b7,b,c,d]) 34 [a]=g++[q,b7,a,c,d])/\
  (∀a,putAt (g++[q,b7,b,c,d]) 35 [a]=g++[q,b7,b,a,d])/\∀a,putAt (g++[q,b7,b,c,d]) 36 [a]=g++[q,b7,b,c,a]:=by
 have o:∀h (k),(g++k).take (32+h)=g++k.take h:=λh k=>by rw[<-r,a5z]
 have p:∀h (k),(g++k).drop (32+h)=k.drop h:=λh k=>by rw[<-r,a5A]
 have y:=o 0;have z:=o 2;have C:=o 3;have D:=o 4;have E:=p 2;have F:=p 3;have G:=p 4;simp_all [Nat.reduceAdd,putAt]
variable{b1:Int}
theorem Cl(a:α w.sum=32):putAt (ae w O e4 h5) 34 [.v (.int .i64 b1)]=ae {w with live:=b1} O e4 h5:=(tH (by simp[a])).2.1 _
theorem Cm(a:α w.sum=32):putAt (ae w O e4 h5) 35 [.v (.int .i64 b1)]=ae {w with size:=b1} O e4 h5:=(tH (by simp[a])).2.2.1 _
variable{n b6:Ρ}
theorem Cn{a:Own}(b:α w.sum=32):putAt (ae w O e4 a) 36 [.J (ab n) h5]=ae {w with key:=n} O e4 h5:=(tH (by simp[b])).2.2.2 _
theorem X5{a b:Own}(c:α w.sum=32):putAt (ae w a b O) 32 [.J (ab n) e4,.J (ab b6) h5]=ae {w with aT:=n,aS:=b6} e4 h5 O:=(tH (by simp[c])).1 _ _
theorem cC{a b c:Own}(d:α j0.sum=32)(h:α w.sum=32):putAt (ae j0 a b c) 0 (ae w O e4 h5)=ae w O e4 h5:=by have o:=(aN (O:=a) (e4:=b) (h5:=c) d).len;have k:=(aN (O:=O) (e4:=e4) (h5:=h5) h).len;rw[putAt,a4Q,a3l,k,a3D δ,a3Y]
theorem bg:α aB.sum=32:=by rfl
theorem rQ:(gx n).1.length<=8/\(gx n).2.length<=8:=by grind[gx]
variable{e i v M b9 h9:Nat}{b3:bQ}
theorem wR(b:e<=8)(c:dE e b3=η)(k:∀a∈b3.kids,α a.sum=32):(da b3).length<=2000:=by obtain⟨o,p,r⟩:=kF c;have x:=tG b c;have z:=rP λd y=>Ci (a:=d) (by rw[o d y];exact b);have C:=rP λa h=>Cj (k a h) (x a h);have a3:α b3.rows*100<=4*100:=a3g _ p;have a4:α b3.kids*300<=4*300:=a3g _ r;unfold da;grind
theorem aC.all(b:aC bu b3.kids g):∀a∈b3.kids,α a.sum=32/\a.cH:=by intro a c;obtain⟨h,d,rfl⟩:=a3B c;obtain⟨k,_,o,p,_⟩:=b.get (Ν d);trivial
theorem X6(z:α B=32):∃p:Ρ->Ρ->Int->Int->Ρ->Own->Own->Own->Χ,(∀(x:an) a b c,x.sum=B->ae x a b c=p x.aT x.aS x.live x.size x.key a b c)/\putAt (ae aB .nil .nil .nil) 0 (B.map ao)=p [] [] 0 0 [] .nil .nil .nil/\
  ∀d h k cn o a b c,(p d h k cn o a b c).length=37/\(p d h k cn o a b c).take 37=p d h k cn o a b c/\((p d h k cn o a b c).drop 32).take 2=[.J (ab d) a,.J (ab h) b]/\aP ι 1 ((p d h k cn o a b c).drop 34)=.v (.int .i64 k)/\aP ι 1 ((p d h k cn o a b c).drop 35)=.v (.int .i64 cn)/\putAt (ae aB .nil .nil .nil) 0 (p d h k cn o a b c)=p d h k cn o a b c/\
   (∀r,putAt (p d h k cn o a b c) 34 [.v (.int .i64 r)]=p d h r cn o a b c)/\(∀r,putAt (p d h k cn o a b c) 35 [.v (.int .i64 r)]=p d h k r o a b c)/\(∀r y,putAt (p d h k cn o a b c) 36 [.J (ab r) y]=p d h k cn r a b y)/\∀r C y D,putAt (p d h k cn o a b c) 32 [.J (ab r) y,.J (ab C) D]=p r C k cn o y D c:=by
 refine⟨λd h k cn o a b c=>ae ⟨B,d,h,k,cn,o⟩ a b c,λx _ _ _ E=>by subst E;rfl,Ck bg z,λd h k cn o a b c=>?_⟩;have F:=(aN (w:=⟨B,d,h,k,cn,o⟩) (O:=a) (e4:=b) (h5:=c) z).all;grind[cC,bg,Cl,Cm,Cn,X5]
theorem Co(b:bQ)(a01 a02:Χ)(X Y:R)(w:Nat)(a38:1<=w)(l5:w<=8)(O:U)(x:fj O b X Y a01 a02):
  AC γ 155 [jb b X Y,.v (.int .i64 (w:Int))] O λc F=>O.sub F/\match fg w b with
   |none=>c=.aF [.agg (ae aB .nil .nil .nil),.v (.int .i64 1)]
   |some d=>∃k o l6,c=.aF [.agg (ae d k o l6),.v (.int .i64 0)]:=by
 have a88:=x.gA;have a89:=x.rO;have a90:=x.jX;have a92:=x.hn;have a03:=oS (da b);obtain⟨k7,a94,a95,a42⟩:=X6 a03;have A:=λa43 k8 Z cn a47 k o l6=>(a42 a43 k8 Z cn a47 k o l6).1;have a96:(c3 (gS (da b))).cells=(gS (da b)).map ao:=rfl;have a97:((gS (da b)).map ao).length=32:=by simp[a03]
 have a98:=cm;have a99:=(aN (O:=.nil) (e4:=.nil) (h5:=.nil) bg).all;have a04:=λd y z E B=>cC (a:=.nil) (b:=.nil) (c:=.nil) (w:=d) (O:=y) (e4:=z) (h5:=E) bg B;have b00:=a04 aB .nil .nil .nil bg;generalize b01:ae aB .nil .nil .nil=l7 at*;obtain⟨a05,L⟩:∃a05,fg w b=a05:=⟨_,rfl⟩;rw[L];unfold fg gf at L;have a48:=@σ;have b02:=@r9;refine aM hm MD ?_;refine bp λa06 a52=>?_;refine dk λk0 a56 _ _=>?_;generalize C:(O.set a06 _).set k0 _=l8;have a07:O.sub l8:=by subst C;exact aV
 have c2:l8 a06=β (.cells [.v (.int .u8 (b.kind.toNat)),X,Y]):=by subst C;exact aV
 have aL:l8 k0=β (.cells l7):=by subst C;exact aV
 clear C a52;refine cl (wQ b a01 a02 X Y w a38 l5 _ (x.mono a07)) ?_;rintro c k2⟨l9,k3⟩;replace c2:=l9 _ _ c2;replace aL:=l9 _ _ aL;have H:=ο a07 l9;have k4:=κ c2;have n0:=χ aL;have b03:∀F i,k2.sub F->O.sub (F.set k0 i):=λF i B=>μ (ο H B) a56;unfold rH at k3;cases S:dE w b with
 |false=>rw[S]at k3 L;rw[if_neg ρ]at L;obtain rfl:=k3;subst L;exact aV
 |true=>
  rw[S]at k3 L;rw[if_pos rfl]at L;obtain⟨a57,rfl⟩:=k3;obtain⟨a08,b04,b05⟩:=kF S;have a09:=tG l5 S;have a61:=x.kids.all;have b06:=wR l5 S λd a62=>(a61 d a62).1;obtain⟨h,j⟩:∃h:Nat->gy,h=λa=>(b.rows.take a).foldl fy ⟨0,α b.rows,([],[])⟩:=⟨_,rfl⟩;obtain⟨T,I⟩:∃T:Nat->gy,T=λa=>(b.kids.take a).foldl gd (h (α b.rows)):=⟨_,rfl⟩;have a10:h 0=⟨0,α b.rows,([],[])⟩:=by subst j;rfl
  have a11:T 0=h (α b.rows):=by subst I;rfl
  have a63:∀a c,b.rows[a]?=β c->h (a+1)=fy (h a) c:=λa c B=>by subst j;simp[a3W,B]
  have a13:∀a d,b.kids[a]?=β d->T (a+1)=gd (T a) d:=λa d B=>by subst I;simp[a3W,B]
  have a14:fz b=T (α b.kids):=by subst I;subst j;simp[fz]
  rw[a14]at L;clear j I a14;refine aa ?_;refine mA (C6 (da b) a57 _ δ) ?_;refine bp λl Q=>?_;have b07:=U.gu Q c2;have b08:=U.gu Q aL;refine aa ?_;refine cQ [2,4,8,30,31] (λa:Nat=>[(32,.v (.int .i64 (a)))]) (λa F=>a<=α b.rows/\k2.sub F/\(0<=(h a).live/\(h a).live<=a/\(h a).size=α b.rows/\(h a).bf.1.length<=8/\(h a).bf.2.length<=8)/\∃k o,F l=β (.cells (k7 (h a).bf.1 (h a).bf.2 (h a).live (α b.rows) [] k o .nil))) (λa=>α b.rows - a) 0 ⟨⟨δ,μ (μ θ Q) Q,by simp[a10],.nil,.nil,by rw[a10];exact ν _ _ _⟩,aV⟩ ?_;rintro a D⟨k8,p,⟨a15,a16,n1,k9,l0⟩,k,o,bs⟩a65;have a18:=A (h a).bf.1 (h a).bf.2 (h a).live (α b.rows) [] k o .nil;have l1:=A (h a).bf.1 (h a).bf.2 ((h a).live+1) (α b.rows) [] k o .nil;have m:=κ bs;have V:=χ bs;have k4:=rd p c2;refine aa ?_;refine aH (λP=>?_) λP=>?_
  .have K:=Ν (show a<α b.rows by omega);have j:=a63 a _ K;have n2:=a08 _ (a3r (n:=a) δ);generalize b.rows[a]'δ=c at K j n2;obtain⟨_,M,n,rfl⟩:=x.rows.get K;obtain⟨q,W,G⟩:=(x.lv.mono (ο H p)).get a _ M;have e:cV η 2 D q=β (.agg [.J (ab c.1) n,.v (.bool c.2)]):=G.ld D θ η 2 δ (by simp[τ]);obtain⟨c,Z⟩:=c;refine aa ?_;refine bp λn3 a19=>?_;have a68:=U.gu a19 bs;obtain⟨r,s⟩:∃r,D.set n3 (.cells [.J (ab c) n,.v (.bool Z)])=r:=⟨_,rfl⟩;have f:D.sub r:=by rw[<-s];exact μ θ a19
   have ck:r n3=β (.cells [.J (ab c) n,.v (.bool Z)]):=by rw[<-s,ν]
   rw[a48,s];have m:=rd f bs;have V:=χ (f _ _ bs);have a69:=κ ck;clear s e W G k4;refine aH (λP=>?_) λP=>?_<;>subst P
   .generalize C:r.set l _=t;have bs:t l=β (.cells (k7 (h a).bf.1 (h a).bf.2 ((h a).live+1) (α b.rows) [] k o .nil)):=by subst C;exact ν _ _ _
    have ck:t n3=β (.cells [.J (ab c) n,.v (.bool η)]):=by subst C;rw[ξ _ _ a68.symm];exact ck
    have n4:k2.sub t:=by subst C;exact μ (ο p f) Q
    clear C;refine cl (WS t c n (by dsimp only at n2;omega)) ?_;rintro _ a71⟨l2,y,z,rfl⟩;have m:=rd l2 bs;have a69:=rd l2 ck;have a27:=rQ (n:=c);refine cl (Cd a71 (h a).bf.1 (h a).bf.2 (gx c).1 (gx c).2 k o y z δ δ δ δ) ?_;rintro _ a73⟨k5,rfl⟩;have V:=χ (k5 _ _ (l2 _ _ bs));have n5:=qe (h a).bf (gx c) 8 k9 l0 a27.1 a27.2;refine aa ?_;refine⟨a+1,⟨δ,ο n4 (ο l2 k5),?_,.any,.any,?_⟩,rfl,δ⟩<;>rw[j,fy,if_pos rfl];grind
   .refine⟨a+1,⟨δ,ο p f,?_,k,o,?_⟩,rfl,δ⟩<;>rw[j,fy,if_neg ρ];omega
    .exact f _ _ bs
  obtain rfl:a=α b.rows:=δ;refine cQ [2,4,8,51,52] (λa:Nat=>[(53,.v (.int .i64 (a)))]) (λa F=>a<=α b.kids/\k2.sub F/\(0<=(T a).live/\(T a).live<=4+a*1048576/\0<=(T a).size/\(T a).size<=4+a*1048576/\(T a).bf.1.length<=8/\(T a).bf.2.length<=8)/\∃k o,F l=β (.cells (k7 (T a).bf.1 (T a).bf.2 (T a).live (T a).size [] k o .nil))) (λa=>α b.kids - a) 0 ⟨⟨δ,p,by grind,k,o,by rw[a11,n1];exact bs⟩,aV⟩ ?_;clear a18 l1 bs m V k4 p P a15 a16 n1 k9 l0 k8;rintro a D⟨k8,p,⟨a15,a16,n1,b09,k9,l0⟩,k,o,bs⟩a65;have a18:=A (T a).bf.1 (T a).bf.2 (T a).live (T a).size [] k o .nil;have m:=κ bs;have V:=χ bs;have k4:=rd p c2;have n0:=χ (p _ _ aL);refine aa ?_;refine aH (λP=>?_) λP=>?_
  .have K:=Ν (show a<α b.kids by omega);have I:=a13 a _ K;have u:=a09 _ (a3r (n:=a) δ);generalize b.kids[a]'δ=d at K I u;obtain⟨_,M,l3,a74,y,z,E,rfl⟩:=x.kids.get K;obtain⟨q,W,G⟩:=(x.hh.mono (ο H p)).get a _ M;have N:=aN (O:=y) (e4:=z) (h5:=E) l3;change lJ D q (ae d y z E)at G;have e:=G.ld D θ η 37 δ (by rw[N.len];omega);rw[show aP η 37 (ae d y z E)=.agg (ae d y z E) by rw[aP,if_pos rfl,N.t37]]at e;have N:=N.all;have b10:=a04 d y z E l3;generalize ae d y z E=a29 at*;have Z:=u.rI;have cn:=u.rJ;have b11:=u.live;have b12:=u.size;have a81:=u.aT;have a83:=u.aS;refine aa ?_;have l1:=A (T a).bf.1 (T a).bf.2 ((T a).live+d.live) (T a).size [] k o .nil;have b13:=A (T a).bf.1 (T a).bf.2 ((T a).live+d.live) ((T a).size+d.size) [] k o .nil;refine bp λa30 a34=>?_;have b14:=U.gu a34 bs;obtain⟨r,s⟩:∃r,D.set a30 (.cells a29)=r:=⟨_,rfl⟩;have f:D.sub r:=by rw[<-s];exact μ θ a34
   have a84:r.read a30=β a29:=κ (by rw[<-s,ν]);have m:=rd f bs;have V:=χ (f _ _ bs);clear e W G k4;refine aa ?_;generalize C:r.set l _=t;have bs:t l=β (.cells (k7 (T a).bf.1 (T a).bf.2 ((T a).live+d.live) ((T a).size+d.size) [] k o .nil)):=by subst C;exact ν _ _ _
   have n4:k2.sub t:=by subst C;exact μ (ο p f) Q
   clear C s m V a84;refine cl (Cd t (T a).bf.1 (T a).bf.2 d.aT d.aS k o y z δ δ δ δ) ?_;rintro _ a73⟨k5,rfl⟩;have V:=χ (k5 _ _ bs);have n5:=qe (T a).bf (d.aT,d.aS) 8 k9 l0 a81 a83;refine aa ?_;refine⟨a+1,⟨δ,ο n4 k5,?_,.any,.any,?_⟩,rfl,δ⟩<;>rw[I,gd];exact⟨by dsimp only;omega,by dsimp only;omega,by dsimp only;omega,by dsimp only;omega,n5.1,n5.2⟩
  obtain rfl:a=α b.kids:=δ;clear a13 a11;generalize T (α b.kids)=v at*;refine aH (λP=>?_) λP=>?_;grind;rw[if_neg P]at L;subst L;by_cases g2:b.kind=2
  .have bp:(b.kind.toNat:Int)=2:=by rw[g2];rfl
   obtain⟨c,l4,n9⟩:∃c l4,b.rows=c::l4:=a5F (by rintro k6;unfold dE at S;simp[g2,k6]at S);have n2:=a08 c (by simp[n9]);obtain⟨_,M,n,rfl⟩:=x.rows.get (i:=0) (by rw[n9];rfl);obtain⟨q,W,G⟩:=(x.lv.mono (ο H p)).get 0 _ M;obtain⟨a36,a86,e⟩:=G.kq D θ 0 ι 1 δ (by simp[τ]);have W:cJ 2 X (.v (.int .i64 0))=β q:=W;have e:cV ι 1 D a36=β (.J (ab c.1) n):=e;have l1:=A v.bf.1 v.bf.2 v.live v.size c.1 k o .any;refine q2 ?_;refine cl (rN c.1 n _ δ) ?_;rintro _ r⟨g,rfl⟩;have m:=rd g bs;have V:=χ (g _ _ bs);have n0:∀i,dR (r.set l i) k0=β l7:=λi=>χ (by rw[ξ _ _ a7s];exact g _ _ (p _ _ aL));refine aa ?_;exact⟨ο H (ο p g),k,o,.any,by simp[keyOf,g2,n9]⟩
  have bp:¬(b.kind.toNat:Int)=2:=λk6=>g2 (a3Z.1 (by grind));refine q2 ?_;by_cases g3:b.kind=3
  .have hG:(b.kind.toNat:Int)=3:=by rw[g3];rfl
   obtain⟨d,b15,a00⟩:∃c l4,b.kids=c::l4:=a5F (by rintro k6;unfold dE at S;simp[g3,k6]at S);have u:=(a09 d (by simp[a00])).key;obtain⟨_,M,l3,a74,y,z,E,rfl⟩:=x.kids.get (i:=0) (by rw[a00];rfl);obtain⟨q,W,G⟩:=(x.hh.mono (ο H p)).get 0 _ M;have N:=aN (O:=y) (e4:=z) (h5:=E) l3;change lJ D q (ae d y z E)at G;obtain⟨a36,a86,e⟩:=G.kq D θ 36 ι 1 δ (by rw[N.len];omega);have W:cJ 37 Y (.v (.int .i64 0))=β q:=W;rw[N.all.2.2.2.2.2.2.2.2]at e;have l1:=A v.bf.1 v.bf.2 v.live v.size d.key k o .any;refine q2 ?_;refine cl (rN d.key E _ δ) ?_;rintro _ r⟨g,rfl⟩;have m:=rd g bs;have V:=χ (g _ _ bs);have n0:∀i,dR (r.set l i) k0=β l7:=λi=>χ (by rw[ξ _ _ a7s];exact g _ _ (p _ _ aL));refine aa ?_;exact⟨ο H (ο p g),k,o,.any,by simp[keyOf,g3,a00]⟩
  have hG:¬(b.kind.toNat:Int)=3:=λk6=>g3 (a3Z.1 (by grind));refine q2 ?_;grind[keyOf]
theorem Cp{h k d:R}(o:α g=32):(∀c,putAt (g++[h,k,q,b7,d]) 32 [c]=g++[c,k,q,b7,d])/\∀c,putAt (g++[h,k,q,b7,d]) 33 [c]=g++[h,c,q,b7,d]:=by
 have p:∀a (b),(g++b).take (32+a)=g++b.take a:=λa b=>by rw[<-o,a5z]
 have r:∀a (b),(g++b).drop (32+a)=b.drop a:=λa b=>by rw[<-o,a5A]
 have x:=p 0;have y:=p 1;have z:=r 1;have C:=r 2;simp_all [Nat.reduceAdd,putAt]
def X7{a:Own}(b:α w.sum=32):putAt (ae w a O e4) 32 [.J (ab n) h5]=ae {w with aT:=n} h5 O e4:=(Cp (by simp[b])).1 _
def X8{a:Own}(b:α w.sum=32):putAt (ae w O a e4) 33 [.J (ab n) h5]=ae {w with aS:=n} O h5 e4:=(Cp (by simp[b])).2 _
variable{f u e1:U}{X j6:bl}
def cr.put{b:Rd}(a:bl)(c:cr (f.set e X) i b u)(d:e≠i):cr (f.set e a) i b (u.set e a):=by have:=c.other (ob:=a) d;rwa[σ]at this
theorem X9(L H:U)(x:Nat)(r:Nat)(a06:r<=8)(C:Rd)(l2:L x=ε)(P:cr L x C H):
  AC γ 242 [.ptr x 0,.v (.int .i64 (r:Int))] H λD V=>cr L x (gT r C).2 V/\(gT r C).1.sum.length=32/\(gT r C).1.cH/\∃b h o,D=.agg (ae (gT r C).1 b h o):=by
 have gN:=aN (O:=.nil) (e4:=.nil) (h5:=.nil) bg;have n:=gN.len;have a07:=gN.t37;refine aZ hm P0 ρ ?_;have q:∀I,(R.agg I).cells=I:=λ_=>rfl;have K:∀c:Int,(R.v (.int .i64 c)).cells=[.v (.int .i64 c)]:=λ_=>rfl;have s:∀(c)(M),(R.J (ab c) M).cells=[.J (ab c) M]:=λ_ _=>rfl;refine ai @cm ?_;refine aO λE l3=>?_;obtain⟨t,N,P⟩:=P.new (ob:=.cells (ae aB .nil .nil .nil)) l3;have l4:L.sub (L.set E (.cells (ae aB .nil .nil .nil))):=μ θ N;have O:(L.set E (.cells (ae aB .nil .nil .nil))) x=none:=by rw[ξ _ _ (Ζ t)];exact l2
 have u:(L.set E (.cells (ae aB .nil .nil .nil))) E=β (.cells (ae aB .nil .nil .nil)):=ν _ _ _;obtain⟨l,l5⟩:∃l:U,l=L.set E (.cells (ae aB .nil .nil .nil)):=⟨_,rfl⟩;rw[<-l5]at P l4 O u;refine bJ ?_;refine ak (Wt _ _ x C P) ?_;rintro D a08⟨Q,rfl⟩;unfold gT;have z:=BO C;generalize mC C=p at*;obtain⟨a,X⟩:=p;simp only at Q z|-;have Y:(c3 a).cells=a.map ao:=rfl;have Z:(a.map ao).length=32:=by simp[z]
 have k0:putAt (ae aB .nil .nil .nil) 0 (a.map ao)=ae ⟨a,[],[],0,0,[]⟩ .nil .nil .nil:=Ck bg z;have k2:∀(p)(b h o),α p.sum=32->putAt (ae aB .nil .nil .nil) 0 (ae p b h o)=ae p b h o:=λp b h o l6=>cC bg l6;have cl:∀(k y)(v w)(F)(b h o),qf ⟨a,k,y,v,w,F⟩ b h o (ae ⟨a,k,y,v,w,F⟩ b h o):=λk y v w F b h o=>aN z;have A:=(cl [] [] 0 0 [] .nil .nil .nil).len;have k3:=k2 ⟨a,[],[],0,0,[]⟩ .nil .nil .nil z;refine ai (bs @q @Y @Z @cm @k0 @n @A @k3) ?_;refine aO λW l7=>?_;obtain⟨S,k4,l8⟩:=Q.new (ob:=.cells (ae ⟨a,[],[],0,0,[]⟩ .nil .nil .nil)) l7;have m:E≠W:=by rintro rfl;rw[u]at k4;cases k4
 have B:∀e,(l.set W e) x=none:=λe=>by rw[ξ _ _ (Ζ S)];exact O
 have aa:∀ {e C V},cr (l.set W e) x C V->V W=β e/\V E=β (.cells (ae aB .nil .nil .nil)):=λP=>⟨P.get S (ν _ _ _),P.get t (by rw[ξ _ _ m];exact u)⟩;refine ai (cW @q @Y @Z @cm @k0 @n @A @k3 @σ) ?_;refine ak (BT _ _ x 1048576 δ _ l8) ?_;rintro D a09⟨f,rfl⟩;have l9:=BU 1048576 X;generalize jV 1048576 X=p at*;obtain⟨d,k5⟩:=p;simp only at f l9|-;have G:=(aa f).1;have c2:=(cl [] [] d 0 [] .nil .nil .nil).len;have n0:putAt (ae ⟨a,[],[],0,0,[]⟩ .nil .nil .nil) 34 [.v (.int .i64 (d))]=ae ⟨a,[],[],d,0,[]⟩ .nil .nil .nil:=Cl z;replace f:=f.put (.cells (ae ⟨a,[],[],d,0,[]⟩ .nil .nil .nil)) S;refine ai (aL @K (χ G) @A @n0) ?_;refine ak (BT _ _ x 1048576 δ _ f) ?_;rintro D a10⟨g,rfl⟩;have n1:=BU 1048576 k5;generalize jV 1048576 k5=p at*;obtain⟨c,k6⟩:=p;simp only at g n1|-;replace G:=(aa g).1;have aE:=(cl [] [] d c [] .nil .nil .nil).len;have n2:putAt (ae ⟨a,[],[],d,0,[]⟩ .nil .nil .nil) 35 [.v (.int .i64 (c))]=ae ⟨a,[],[],d,c,[]⟩ .nil .nil .nil:=Cm z;replace g:=g.put (.cells (ae ⟨a,[],[],d,c,[]⟩ .nil .nil .nil)) S;refine ai (aL @K (χ G) @c2 @n2) ?_;refine ak (tw _ _ x r δ _ (B _) g) ?_;rintro D a11⟨i,b,rfl⟩;have n3:=wH r k6;generalize ho r k6=p at*;obtain⟨k,k7⟩:=p;simp only at i n3|-;replace G:=(aa i).1;have aL:=(cl k [] d c [] b .nil .nil).len;have n4:putAt (ae ⟨a,[],[],d,c,[]⟩ .nil .nil .nil) 32 [.J (ab k) b]=ae ⟨a,k,[],d,c,[]⟩ b .nil .nil:=X7 z;replace i:=i.put (.cells (ae ⟨a,k,[],d,c,[]⟩ b .nil .nil)) S;simp -dsimp -implicitDefEqProofs (disch:=first|omega|assumption|(simp only[aR,Nat.reduceAdd];try omega)) only[go_sem,simprocAttr,-List.reduceReplicate,s,χ G,aE,n4];refine ak (tw _ _ x r δ _ (B _) i) ?_;rintro D a13⟨j,h,rfl⟩;have n5:=wH r k7;generalize ho r k7=p at*;obtain⟨y,k8⟩:=p;simp only at j n5|-;replace G:=(aa j).1;have ba:=(cl k y d c [] b h .nil).len;have n9:putAt (ae ⟨a,k,[],d,c,[]⟩ b .nil .nil) 33 [.J (ab y) h]=ae ⟨a,k,y,d,c,[]⟩ b h .nil:=X8 z;replace j:=j.put (.cells (ae ⟨a,k,y,d,c,[]⟩ b h .nil)) S;simp -dsimp -implicitDefEqProofs (disch:=first|omega|assumption|(simp only[aR,Nat.reduceAdd];try omega)) only[go_sem,simprocAttr,-List.reduceReplicate,s,χ G,aL,n9];refine ak (tw _ _ x r δ _ (B _) j) ?_;rintro D a00⟨T,o,rfl⟩;have a01:=wH r k8;generalize ho r k8=p at*;obtain⟨F,a14⟩:=p;simp only at T a01|-;replace G:=(aa T).1;have k9:=cl k y d c F b h o;have bx:=k9.len;have a02:putAt (ae ⟨a,k,y,d,c,[]⟩ b h .nil) 36 [.J (ab F) o]=ae ⟨a,k,y,d,c,F⟩ b h o:=Cn z;replace T:=T.put (.cells (ae ⟨a,k,y,d,c,F⟩ b h o)) S;have l0:=(aa T).2;have a15:=(aa T).1;have a03:=Ζ m;have a04:=k2 ⟨a,k,y,d,c,F⟩ b h o z;have a05:a00 E=β (.cells (ae aB .nil .nil .nil)):=by rw[ξ _ _ m]at l0;exact l0
 refine ai (ga @s (χ G) @ba @a02 @ν @ξ @m @a03 (χ a05) k9.t37 @n @bx @a04 @q) ?_;refine⟨_,θ,?_,z,⟨by simp only;omega,by simp only;omega,by simp only;omega⟩,b,h,o,rfl⟩;refine(T.other t).base ?_;intro D a16 l1;have a18:D≠E:=by rintro rfl;rw[N]at l1;cases l1
 have a19:D≠W:=by rintro rfl;simp_all [ξ]
 simp_all [ξ]
def nK(a:α g=e*i):c8 (f.set v (.cells g)) i (.aq v e e i)=β (e,g):=by simp[c8,κ (ν _ _ _),<-a]
def aw.rs{a:Rd}(b:aw (f.set e (iz a O)) u i g q):cr f e a u:=⟨O,b.1⟩
def aw.rR{p h:Rd}(r:aw (f.set e (iz p O)) u i g q)(x:f e=ε)(y:cr (u.del e) e h e1):∃c,aw (f.set e (iz h c)) e1 i g q:=by
 obtain⟨c,k⟩:=y;obtain⟨z,d⟩:=r;refine⟨c,ο (U.kB (BW z x)) k,?_⟩;rcases d with d|⟨o,C,D,E,F,a,G,L⟩
 .exact .inl d
 .have b:o≠e:=by rintro rfl;rw[ν]at a;cases a
  rw[ξ _ _ b]at a;exact .inr ⟨o,C,D,E,F,by rw[ξ _ _ b];exact a,k _ _ (by rw[ξ _ _ b,U.eg _ b];exact G),L⟩
def gh(h k:U)(a:bQ)(o p:R):Prop:=∃b c d,aw h b 2 (flat c) o/\aw b k 37 (flat d) p/\aC dy a.rows c/\aC bu a.kids d/\α a.rows<=100000/\α a.kids<=100000
def gh.sub{a b:U}{c:bQ}{d h:R}(k:gh a b c d h):a.sub b:=by obtain⟨r,x,y,o,p,_⟩:=k;exact ο o.1 p.1
def gh.L(k:gh u f b3 q b7):∃a b,fj f b3 q b7 a b:=by obtain⟨x,a,b,o,c,d,h,p,r⟩:=k;exact⟨a,b,d,h,(bM.dC o δ rfl (d.cells λ_ _=>dy.cells)).mono c.1,bM.dC c δ rfl (h.cells λ_ _=>bu.cells),p,r⟩
theorem gh.base{a b c:U}{d:bQ}{h k:R}(o:gh b c d h k)(p:a.sub b):gh a c d h k:=by obtain⟨r,x,y,z,C,D⟩:=o;exact⟨r,x,y,z.base p,C,D⟩
def gh.mono{a b c:U}{d:bQ}{h k:R}(o:gh a b d h k)(p:b.sub c):gh a c d h k:=by obtain⟨r,x,y,z,C,D⟩:=o;exact⟨r,x,y,z,C.mono p,D⟩
theorem gh.set{b c:U}{a:Nat}{r ob:bl}{d:bQ}{h k:R}(x:gh b c d h k)(o:b a=β r):gh (b.set a ob) (c.set a ob) d h k:=by obtain⟨y,z,C,p,D,E⟩:=x;exact⟨y.set a ob,z,C,ja p o,ja D (p.1 _ _ o),E⟩
variable{b0:Type}
def Cq{a:Rd->b0×Rd}{b:Rd}{c:List b0}(d:i<e):eU a (e - i) b c=eU a (e -(i+1)) (a b).2 (c++[(a b).1]):=by rw[show e - i=(e -(i+1))+1 by omega];rfl
abbrev wS:R:=.agg [.v (.int .u8 0),.J [] .nil,.J [] .nil]
theorem Xa(e:Τ)(u:Own)(k:Nat)(a48:1<=k)(n4:k<=8)(n:U)(b24:α e<=1000000000000):
  AC γ 182 [.J (e.map ao) u,.v (.int .i64 (k:Int))] n λq D=>n.sub D/\match nG k e with
   |none=>q=.aF [wS,.v (.int .i64 21)]
   |some v=>∃c P,q=.aF [jb v c P,.v (.int .i64 0)]/\gh n D v c P:=by
 refine nu λb25=>?_;have a92:u=.nil->e=[]:=λa52=>by simp_all
 refine aZ hm Nw ρ ?_;have w:∀n5,(R.agg n5).cells=n5:=λ_=>rfl;have k2:∀a d b c P l1:R,putAt [a,d,b] 0 [c,P,l1]=[c,P,l1]:=λ_ _ _ _ _ _=>rfl;have k3:∀a d b,aP η 3 [a,d,b]=.agg [a,d,b]:=λ_ _ _=>rfl;have a56:∀a d b:R,aP ι 1 ([a,d,b].drop 1)=d:=λ_ _ _=>rfl;have a57:∀a d b:R,aP ι 1 ([a,d,b].drop 2)=b:=λ_ _ _=>rfl;have a94:∀a d b c:R,putAt [a,d,b] 0 [c]=[c,d,b]:=λ_ _ _ _=>rfl;have N:∀a d b:R,[a,d,b].length=3:=λ_ _ _=>rfl;have a95:∀a d c:R,putAt [a,d] 0 [c]=[c,d]:=λ_ _ _=>rfl;have a96:∀a d c:R,putAt [a,d] 1 [c]=[a,c]:=λ_ _ _=>rfl;have a97:∀a d:R,[a,d].length=2:=λ_ _=>rfl;have a98:∀d:Bool,(R.v (.bool d)).cells=[.v (.bool d)]:=λ_=>rfl;have a99:∀(l1)(a61),(R.J (ab l1) a61).cells=[.J (ab l1) a61]:=λ_ _=>rfl;have b00:∀a d b c:R,putAt [a,d,b] 1 [c]=[a,c,b]:=λ_ _ _ _=>rfl;have b01:∀a d b c:R,putAt [a,d,b] 2 [c]=[a,d,c]:=λ_ _ _ _=>rfl;refine bJ ?_;refine aO λg a62=>?_;have a10:n.sub (n.set g (.cells [.v (.int .u8 0),.J [] .nil,.J [] .nil])):=μ θ a62;have n9:(n.set g (.cells [.v (.int .u8 0),.J [] .nil,.J [] .nil])) g=β (.cells [.v (.int .u8 0),.J [] .nil,.J [] .nil]):=ν _ _ _;obtain⟨O,a63⟩:∃O:U,O=n.set g (.cells [.v (.int .u8 0),.J [] .nil,.J [] .nil]):=⟨_,rfl⟩;rw[<-a63]at a10 n9;have a65:∀(D)(A),n.sub D->n.sub (D.set g A):=λD A j=>μ j a62;refine bJ ?_;rw[<-a63];refine ak (Wj e u O a92 δ) ?_;rintro _ b26⟨o,a00,rfl,b02⟩;have b27:g≠o:=by rintro rfl;rw[n9]at a00;cases a00
 refine bJ ?_;refine ak (rF _ _ o _ b02) ?_;rintro c b28⟨a68,rfl⟩;have a69:∀h:UInt8×Rd,h=dm ⟨e,0⟩->mF k e=(⟨h.1,(eU (hM k) (dm h.2).1.toNat (dm h.2).2 []).1,(eU (gT k) (dm (eU (hM k) (dm h.2).1.toNat (dm h.2).2 []).2).1.toNat (dm (eU (hM k) (dm h.2).1.toNat (dm h.2).2 []).2).2 []).1⟩,
   q9 (eU (gT k) (dm (eU (hM k) (dm h.2).1.toNat (dm h.2).2 []).2).1.toNat (dm (eU (hM k) (dm h.2).1.toNat (dm h.2).2 []).2).2 []).2):=by rintro h rfl;rfl
 have a71:=a69 _ rfl;clear a69;unfold nG;rw[a71];clear a71;generalize dm ⟨e,0⟩=h at*;obtain⟨V,b03⟩:=h;simp only at a68|-;refine ai (c2 @k2 @w) ?_;refine aO λG b04=>?_;obtain⟨B,a11,b05⟩:=a68.new (ob:=.cells [.v (.int .u8 V.toNat),.J [] .nil,.J [] .nil]) b04;have b29:g≠G:=by rintro rfl;rw[n9]at a11;cases a11
 have a13:∀A,(O.set G A) o=none:=λA=>by rw[ξ _ _ (Ζ B)];exact a00
 refine ai (ba @k2 @w @a94 @N @σ) ?_;refine ak (rF _ _ o _ b05) ?_;rintro c b30⟨a01,rfl⟩;generalize dm b03=h at*;obtain⟨s,a02⟩:=h;simp only at a01|-;have b06:=s.toNat_lt;have a14:IntKind.i64.wrap (s.toNat)=s.toNat:=wrap_i64 δ δ;refine ai @a14 ?_;generalize s.toNat=Q at*;have l2:∀E b q D h l3 a,aw ((O.set G (.cells b)).set o (iz q E)) D h l3 a->D G=β (.cells b)/\D g=β (.cells [.v (.int .u8 0),.J [] .nil,.J [] .nil]):=λE b q D h l3 a j=>⟨j.1 _ _ (by rw[ξ _ _ B,ν]),j.1 _ _ (by grind[ξ])⟩;refine cz (λC D=>∃(L:Nat)(F:Rd)(S:List (Ρ×Bool))(H:Χ)(a:R)(E:Own),L<=Q/\eU (hM k) (Q - L) F S=eU (hM k) Q a02 []/\α S=L/\aC dy S H/\aw ((O.set G (.cells [.v (.int .u8 V.toNat),a,.J [] .nil])).set o (iz F E)) D 2 (flat H) a/\
   C 0=.J (e.map ao) u/\C 1=.v (.int .i64 k)/\C 4=.ptr g 0/\C 6=.ptr o 0/\C 7=.ptr G 0/\C 18=.v (.int .i64 Q)/\C 19=.v (.int .i64 L))
  (λC _=>match C 19 with|.v (.int _ v)=>(Q - v).toNat|_=>0) ?_ ?_
 .obtain⟨E,a01⟩:=a01;refine⟨0,a02,[],[],.J [] .nil,E,δ,rfl,rfl,trivial,aw.nil a01,?_⟩;exact jN
 rintro C b07⟨L,F,S,H,a,E,b31,W,b08,a03,f,p,r,x,y,z,X,Y⟩;by_cases I:(L:Int)<Q
 .refine ai (bs @p @r @x @y @z @X @Y @I) ?_;refine ak (WB _ _ o F (aw.rs f).full) ?_;rintro c k4⟨a15,rfl⟩;rw[Cq δ]at W;unfold hM at W;obtain⟨b09,l⟩:=aw.rR f (a13 _) a15;generalize mE F=h at*;obtain⟨k5,K⟩:=h;simp only at l W|-;have cd:=(l2 _ _ _ _ _ _ _ l).1;refine ai (ck @p @r @x @y @z @X @Y @I (κ cd) @a56) ?_;refine ak (tw _ _ o k δ K (U.hC _ _) (aw.rs l).full) ?_;rintro c k6⟨l4,a04,rfl⟩;obtain⟨a05,i⟩:=aw.rR l (a13 _) l4;generalize ho k K=h at*;obtain⟨k7,a16⟩:=h;simp only at i W|-;have bs:=(l2 _ _ _ _ _ _ _ i).1;refine ai (nv @p @r @x @y @z @X @Y @I (κ bs) @a56 @w @a95 @a96 @a97 @a98 @a99) ?_;refine iv (by simp[bc,τ]) ρ λb10 a18=>?_;have a19:=aw.mono i (μ (X:=.cells (flat [R.agg [.J (ab k7) a04,.v (.bool k5)]])) θ a18);have a27:aC dy (S++[(k7,k5)]) (H++[R.agg [.J (ab k7) a04,.v (.bool k5)]]):=a03.snoc ⟨_,rfl⟩;have l5:(flat H).length=α S*2:=by rw[cT (a03.cells λ_ _=>dy.cells),a03.len]
  simp -dsimp -implicitDefEqProofs (disch:=first|omega|assumption|(simp only[aR,Nat.reduceAdd];try omega)) only[go_sem,simprocAttr,-List.reduceReplicate,p,r,x,y,z,X,Y];refine fx a19 δ (nK rfl) rfl (by rw[l5];simp[flat,τ];omega) (by rw[l5];simp[flat,τ];omega) λl6 b11 t=>?_;have a29:flat H++flat [R.agg [.J (ab k7) a04,.v (.bool k5)]]=flat (H++[R.agg [.J (ab k7) a04,.v (.bool k5)]]):=by simp[flat]
  rw[a29]at t;have cW:=(l2 _ _ _ _ _ _ _ t).1;have a30:=fi t;refine ai (ff @p @r @x @y @z @X @Y (χ cW) @a30 @b00 @N) ?_;refine⟨⟨L+1,a16,S++[(k7,k5)],_,l6,a05,δ,W,by simp[b08],a27,?_,ρ⟩,δ⟩;have:=ja (X:=.cells [.v (.int .u8 V.toNat),l6,.J [] .nil]) t (by rw[ξ _ _ B,ν]);rw[U.dU _ (Ζ B),σ]at this;exact this
 .obtain rfl:L=Q:=δ;rw[a5d]at W;obtain⟨b12,b13⟩:S=(eU (hM k) L a02 []).1/\F=(eU (hM k) L a02 []).2:=by rw[<-W];trivial
  rw[<-b12,<-b13];refine ai (bs @p @r @x @y @z @X @Y @I) ?_;refine ak (rF _ _ o F (aw.rs f).full) ?_;rintro c k4⟨a15,rfl⟩;obtain⟨b09,l⟩:=aw.rR f (a13 _) a15;clear f;generalize dm F=h at*;obtain⟨s,K⟩:=h;simp only at l|-;have b06:=s.toNat_lt;have a14:IntKind.i64.wrap (s.toNat)=s.toNat:=wrap_i64 δ δ;refine ai (bx @p @r @x @y @z @a14) ?_;have cd:=(l2 _ _ _ _ _ _ _ l).1;have aL:=(l2 _ _ _ _ _ _ _ l).2;have a73:∀A,((k4.del o).set G A) o=none:=λA=>by rw[ξ _ _ (Ζ B),U.hC]
  have l7:∀E b q D h l3 a,aw (((k4.del o).set G (.cells b)).set o (iz q E)) D h l3 a->D G=β (.cells b)/\D g=β (.cells [.v (.int .u8 0),.J [] .nil,.J [] .nil]):=λE b q D h l3 a j=>⟨j.1 _ _ (by rw[ξ _ _ B,ν]),j.1 _ _ (by grind[ξ,U.eg])⟩;obtain⟨b14,b15⟩:∃E,(((k4.del o).set G (.cells [.v (.int .u8 V.toNat),a,.J [] .nil])).set o (iz K E)).sub k4:=by
   obtain⟨E,j⟩:=(aw.rs l).full;refine⟨E,λc u m=>?_⟩;by_cases a52:c=G;grind[ξ,ν,Option.some.inj]
   .by_cases a34:c=o
    .subst a34;rw[ν]at m;exact j _ _ (by rw[ν];exact m)
    .rw[ξ _ _ a34,ξ _ _ a52]at m;exact j _ _ (by rw[ξ _ _ a34];exact m)
  generalize s.toNat=Z at*;refine cz (λC D=>∃(L:Nat)(F:Rd)(T:List an)(M:Χ)(P:R)(E:Own),L<=Z/\eU (gT k) (Z - L) F T=eU (gT k) Z K []/\α T=L/\aC bu T M/\aw (((k4.del o).set G (.cells [.v (.int .u8 V.toNat),a,P])).set o (iz F E)) D 37 (flat M) P/\
    C 0=.J (e.map ao) u/\C 1=.v (.int .i64 k)/\C 4=.ptr g 0/\C 6=.ptr o 0/\C 7=.ptr G 0/\C 36=.v (.int .i64 Z)/\C 37=.v (.int .i64 L))
   (λC _=>match C 37 with|.v (.int _ v)=>(Z - v).toNat|_=>0) ?_ ?_
  .refine⟨0,K,[],[],.J [] .nil,b14,δ,rfl,rfl,trivial,aw.nil b15,?_⟩;exact cn (ba @p @r @x @y @z)
  clear p r x y z X Y;rintro C b07⟨l8,F,T,M,P,E,b32,W,a74,a06,f,p,r,x,y,z,l9,n0⟩;by_cases I:(l8:Int)<Z
  .have bs:=(l7 _ _ _ _ _ _ _ f).1;refine ai (ck @p @r @x @y @z @l9 @n0 @I (κ bs) @a57) ?_;refine ak (X9 _ _ o k n4 F (U.hC _ _) (aw.rs f).full) ?_;rintro c k6⟨l4,a36,a81,k8,k9,l0,rfl⟩;rw[Cq δ]at W;obtain⟨a05,i⟩:=aw.rR f (a73 _) l4;have a38:=(aN (O:=k8) (e4:=k9) (h5:=l0) a36).len;generalize gT k F=h at*;obtain⟨k0,a16⟩:=h;simp only at i W a36 a81 a38|-;have cW:=(l7 _ _ _ _ _ _ _ i).1;refine ai (ff @p @r @x @y @z @l9 @n0 @I (κ cW) @a57 @w) ?_;refine iv (by simp[bc,τ,a38]) ρ λb10 a18=>?_;have a19:=aw.mono i (μ (X:=.cells (flat [R.agg (ae k0 k8 k9 l0)])) θ a18);have a27:aC bu (T++[k0]) (M++[R.agg (ae k0 k8 k9 l0)]):=a06.snoc ⟨a36,a81,_,_,_,rfl⟩;have l5:(flat M).length=α T*37:=by rw[cT (a06.cells λ_ _=>bu.cells),a06.len]
   have a07:(flat [R.agg (ae k0 k8 k9 l0)]).length=1*37:=by simp[flat,τ,a38]
   simp -dsimp -implicitDefEqProofs (disch:=first|omega|assumption|(simp only[aR,Nat.reduceAdd];try omega)) only[go_sem,simprocAttr,-List.reduceReplicate,p,r,x,y,z,l9,n0];refine fx a19 δ (nK a07) a07 (by rw[l5,a07];omega) (by rw[l5,a07];omega) λl6 b11 t=>?_;have a29:flat M++flat [R.agg (ae k0 k8 k9 l0)]=flat (M++[R.agg (ae k0 k8 k9 l0)]):=by simp[flat]
   rw[a29]at t;have cW:=(l7 _ _ _ _ _ _ _ t).1;have a30:=fi t;refine ai (ff @p @r @x @y @z @l9 @n0 (χ cW) @a30 @b01 @N) ?_;refine⟨⟨l8+1,a16,T++[k0],_,l6,a05,δ,W,by simp[a74],a27,?_,ρ⟩,δ⟩;have:=ja (X:=.cells [.v (.int .u8 V.toNat),a,l6]) t (by rw[ξ _ _ B,ν]);rw[U.dU _ (Ζ B),σ]at this;exact this
  .obtain rfl:l8=Z:=δ;rw[a5d]at W;obtain⟨b16,b17⟩:T=(eU (gT k) l8 K []).1/\F=(eU (gT k) l8 K []).2:=by rw[<-W];trivial
   rw[<-b16,<-b17];refine ai (bs @p @r @x @y @z @l9 @n0 @I) ?_;refine ak (Wu _ _ o F (aw.rs f).full) ?_;rintro c k6⟨l4,rfl⟩;obtain⟨a05,i⟩:=aw.rR f (a73 _) l4;clear f;have bs:=(l7 _ _ _ _ _ _ _ i).1;have aL:=(l7 _ _ _ _ _ _ _ i).2;have n1:gh O k6 ⟨V,S,T⟩ a P:=by
    refine⟨_,H,M,?_,i,a03,a06,by simp only;omega,by simp only;omega⟩;obtain⟨b18,a42⟩:=l;refine⟨λc u m=>?_,?_⟩
    .have n2:c≠o:=by rintro rfl;rw[a00]at m;cases m
     have a08:c≠G:=by rintro rfl;rw[a11]at m;cases m
     rw[ξ _ _ n2,ξ _ _ a08,U.eg _ n2];exact b18 _ _ (by rw[ξ _ _ n2,ξ _ _ a08];exact m)
    .rcases a42 with a42|⟨d,v,b19,n5,b20,n3,b33,b21⟩
     .exact .inl a42
     .have n2:d≠o:=by rintro rfl;rw[ν]at n3;cases n3
      rw[ξ _ _ n2]at n3;have a08:d≠G:=by grind
      rw[ξ _ _ a08]at n3;exact .inr ⟨d,v,b19,n5,b20,n3,by grind[ξ,U.eg],b21⟩
   have a43:=ο a10 n1.sub;by_cases b:(q9 F).e=0
   .simp -dsimp -implicitDefEqProofs (disch:=first|omega|assumption|(simp only[aR,Nat.reduceAdd];try omega)) only[go_sem,simprocAttr,-List.reduceReplicate,p,r,x,y,z,b,κ bs,k3];obtain⟨a83,a84,a47⟩:=n1.L;refine ak (Ch ⟨V,S,T⟩ a83 a84 a P k a48 n4 k6 a47) ?_;rintro _ k6⟨rfl,rfl⟩;cases a86:dE k ⟨V,S,T⟩with
    |false=>refine ai (fZ @p @r @x @y @z @b (χ aL) @k2 @k3 @N @w @a3H) ?_;grind[θ]
    |true=>
     refine ai (cW @p @r @x @y @z @b (κ bs) @k3 @a3E) ?_;refine ak (wQ ⟨V,S,T⟩ a83 a84 a P k a48 n4 k6 a47) ?_;rintro q a88⟨a09,a89⟩;rw[rH,if_pos a86]at a89;obtain⟨b22,rfl⟩:=a89;replace n1:=n1.mono a09;replace a43:=ο a43 a09;replace bs:=a09 _ _ bs;replace aL:=a09 _ _ aL;refine ai (bx @p @r @x @y @z @b) ?_;have a74:=wR n4 a86 λh b23=>(a47.kids.all h b23).1;refine ak (WA (da ⟨V,S,T⟩) e b22 u a88 δ) ?_;rintro _ a88⟨rfl,rfl⟩;by_cases a90:da ⟨V,S,T⟩=e
     .refine ai (ga @p @r @x @y @z @b @a90 (κ bs) (χ aL) @k2 @k3 @N @w @a3E) ?_;have:=n1.set (ob:=.cells [.v (.int .u8 V.toNat),a,P]) n9;refine⟨_,θ,a65 _ _ a43,?_⟩;exact⟨a,P,rfl,this.base (a65 _ _ a10)⟩
     .refine ai (ga @p @r @x @y @z @b @a90 (κ bs) (χ aL) @k2 @k3 @N @w @a3H) ?_;grind[θ]
   .refine ai (ff @p @r @x @y @z @b (χ aL) @k2 @k3 @N @w) ?_;grind[θ]
def Cr:∀(c:List (Ρ×Bool))(a:gy),α a.bf.1<=8->α a.bf.2<=8->(c.foldl fy a).bf.1.length<=8/\(c.foldl fy a).bf.2.length<=8
 |[],a,h1,b=>⟨h1,b⟩
 |d::c,a,h1,b=>by
  rw[a3I];refine Cr c _ ?_ ?_<;>unfold fy<;>split
  .exact(qe _ _ 8 h1 b rQ.1 rQ.2).1
  .exact h1
  .exact(qe _ _ 8 h1 b rQ.1 rQ.2).2
  .exact b
def Cs:∀(b:List an)(a:gy),(∀d∈b,d.mG)->α a.bf.1<=8->α a.bf.2<=8->(b.foldl gd a).bf.1.length<=8/\(b.foldl gd a).bf.2.length<=8
 |[],a,_,h1,c=>⟨h1,c⟩
 |d::b,a,hk,h1,c=>by
  rw[a3I];have:=hk d ρ;exact Cs b _ (λh k=>hk h (by simp[k])) (qe _ _ 8 h1 c this.aT this.aS).1 (qe _ _ 8 h1 c this.aT this.aS).2
theorem tI(p:e<=8)(a:fg e b3=β w):α w.sum=32/\α w.aT<=8/\α w.aS<=8/\α w.key<=8:=by
 unfold fg at a;split at a
 .rename_i b;split at a
  .cases a
  .obtain rfl:=Δ a;obtain⟨x,_,_⟩:=kF b;have c:=tG p b;have d:=Cr b3.rows ⟨0,α b3.rows,([],[])⟩ ρ ρ;have h:=Cs b3.kids _ c d.1 d.2;refine⟨oS _,h.1,h.2,?_⟩;simp only[gf,keyOf];split
   .cases k:b3.rows with
    |nil=>simp
    |cons o r=>simp_all
   .split
    .cases k:b3.kids with
     |nil=>simp[aB]
     |cons o r=>exact(c o (by rw[k];simp)).key
    .simp
 .cases a
def Ct(a:e<=8)(b:fg e b3=β w):w.cH:=by obtain⟨_,c,d,h⟩:=tI a b;exact⟨δ,δ,δ⟩
variable{H:ad}
theorem bh.len(b:bh f e i H){a:Τ}(c:α B=32)(d:H.m B=β a):α a<=1000000000000:=by obtain⟨h,_,k⟩:=b.mp;grind
def dn(d:ad)(a:Nat)(b:an):Option bQ:=
 match d.m b.sum with
 |none=>ε
 |some h=>match nG a h with
  |none=>ε
  |some c=>if fg a c=β b then β c else ε
theorem tJ(x:U)(X k9:Nat)(W:ad)(l0:bh x X k9 W)(c:an)(e f g:Own)(v:α c.sum=32)(a30:W.m c.sum≠ε->c.cH)(C:Nat)(l1:1<=C)(w:C<=8):
  AC γ 124 [.ptr X 0,.agg (ae c e f g),.v (.int .i64 (C:Int))] x λi G=>x.sub G/\match dn W C c with
   |none=>i=.aF [wS,.v (.int .i64 21)]
   |some D=>∃d h,i=.aF [jb D d h,.v (.int .i64 0)]/\gh x G D d h:=by
 refine aZ hm M1 ρ ?_;have a:∀l2,(R.agg l2).cells=l2:=λ_=>rfl;have k:∀L y P d h l3:R,putAt [L,y,P] 0 [d,h,l3]=[d,h,l3]:=λ_ _ _ _ _ _=>rfl;have p:∀L y P,aP η 3 [L,y,P]=.agg [L,y,P]:=λ_ _ _=>rfl;have o:∀L y P:R,[L,y,P].length=3:=λ_ _ _=>rfl;have Y:=aN (O:=e) (e4:=f) (h5:=g) v;have A:=Y.len;have B:=(aN (O:=.nil) (e4:=.nil) (h5:=.nil) bg).len;refine ai (c2 @a @A) ?_;refine aO λj a04=>?_;refine ai (c2 @a @A) ?_;refine aO λz H=>?_;have I:j≠z:=by rintro rfl;rw[ν]at H;cases H
 have l4:x z=none:=by rw[ξ _ _ (Ζ I)]at H;exact H
 have a34:=Ζ I;obtain⟨S,K⟩:∃S:U,S=(x.set j (.cells (ae c e f g))).set z (.cells [.v (.int .u8 0),.J [] .nil,.J [] .nil]):=⟨_,rfl⟩;have l5:x.sub S:=by rw[K];exact μ (μ θ a04) l4
 have aL:S j=β (.cells (ae c e f g)):=by rw[K,ξ _ _ I,ν]
 have bx:S z=β (.cells [.v (.int .u8 0),.J [] .nil,.J [] .nil]):=by rw[K,ν]
 have Z:∀(G)(M),x.sub G->x.sub (G.set z M):=λG M a05=>μ a05 l4;have a06:R.agg (c.sum.map ao)=c3 c.sum:=rfl;simp -dsimp -implicitDefEqProofs (disch:=first|omega|assumption|(simp only[aR,Nat.reduceAdd];try omega)) only[go_sem,simprocAttr,-List.reduceReplicate,a,A,ξ,I,ν,Y.t32];rw[<-K,a06];refine ak (WM S X k9 W (l0.mono l5) c.sum v) ?_;rintro i a07⟨k0,b⟩;have k2:=ο l5 k0;have k3:=k0 _ _ bx;have a08:=k0 _ _ aL;unfold dn;cases hm:W.m c.sum with
 |none=>rw[hm]at b;obtain rfl:=b;refine ai (ba @a (χ k3) @k @o @p) ?_;exact⟨_,θ,Z _ _ k2⟩
 |some y=>
  rw[hm]at b;obtain⟨M,rfl⟩:=b;refine ai @a ?_;refine ak (Xa y M C l1 w a07 (l0.len v hm)) ?_;rintro i l6⟨k4,b⟩;have a09:=ο k2 k4;have l7:=k4 _ _ k3;have a10:=k4 _ _ a08;simp only;cases l8:nG C y with
  |none=>
   rw[l8]at b;obtain rfl:=b;refine ai (aE @a @k @o) ?_;refine aO λE l9=>?_;have k5:z≠E:=by grind
   have a11:=Ζ k5;refine ai (cW @a @k @o @p @σ @ξ @k5 @a11 (χ l7)) ?_;grind[θ,ο,μ]
  |some D=>
   rw[l8]at b;obtain⟨d,h,rfl,T⟩:=b;simp -dsimp -implicitDefEqProofs (disch:=first|omega|assumption|(simp only[aR,Nat.reduceAdd];try omega)) only[go_sem,simprocAttr,-List.reduceReplicate,a,k,o,p];refine aO λE l9=>?_;have k5:z≠E:=by grind
   have a36:j≠E:=by grind
   obtain⟨l,k6⟩:∃l:U,l=l6.set E (.cells [.v (.int .u8 (D.kind.toNat)),d,h]):=⟨_,rfl⟩;have F:l6.sub l:=by rw[k6];exact μ θ l9
   have ck:l E=β (.cells [.v (.int .u8 (D.kind.toNat)),d,h]):=by rw[k6,ν]
   refine ai (ba @a @k @o @p @σ) ?_;rw[<-k6];obtain⟨a13,a14,a15⟩:=(T.mono F).L;refine ak (Co D a13 a14 d h C l1 w l a15) ?_;rintro i n0⟨n1,b⟩;replace F:=ο F n1;replace T:=T.mono F;have N:=F _ _ l7;have n2:=F _ _ a10;have n3:=n1 _ _ ck;have a16:=ο a09 F;cases m:fg C D with
   |none=>
    rw[m]at b;obtain rfl:=b;have a18:putAt (ae aB .nil .nil .nil) 0 (ae aB .nil .nil .nil)=ae aB .nil .nil .nil:=cC bg bg;simp -dsimp -implicitDefEqProofs (disch:=first|omega|assumption|(simp only[aR,Nat.reduceAdd];try omega)) only[go_sem,simprocAttr,-List.reduceReplicate,a,k,o,p,cm,B];refine aO λV r=>?_;have O:z≠V:=by rintro rfl;rw[N]at r;cases r
    have n4:=Ζ O;refine ai (fZ @a @k @o @p @cm @B @a18 @σ @ξ @O @n4 (χ N)) ?_;grind[θ,ο,μ]
   |some n=>
    rw[m]at b;obtain⟨q,s,t,rfl⟩:=b;have k7:=(tI w m).1;have a19:=Ct w m;have n5:=aN (O:=q) (e4:=s) (h5:=t) k7;have n9:=n5.len;have a00:putAt (ae aB .nil .nil .nil) 0 (ae n q s t)=ae n q s t:=cC bg k7;refine ai (bs @a @k @o @p @cm @B @n9 @a00) ?_;refine aO λV r=>?_;have O:z≠V:=by rintro rfl;rw[N]at r;cases r
    have n4:=Ζ O;have a27:j≠V:=by rintro rfl;rw[n2]at r;cases r
    have a38:E≠V:=by rintro rfl;rw[n3]at r;cases r
    obtain⟨u,a01⟩:∃u:U,u=n0.set V (.cells (ae n q s t)):=⟨_,rfl⟩;have Q:n0.sub u:=by rw[a01];exact μ θ r
    refine ai (nv @a @k @o @p @cm @B @n9 @a00 @σ @ν @ξ @a27 n5.t37 Y.t37 (κ n2) @A) ?_;rw[<-a01];have a02:=Q _ _ N;have a03:=Q _ _ n3;have a29:=ο a16 Q;replace T:=T.mono Q;refine ak (Cg n c q s t e f g u k7 v λ_=>a19) ?_;rintro _ u⟨rfl,rfl⟩;by_cases k8:n=c
    .refine ai (bs @a @k @o @p @k8 @a3E (κ a03) (χ a02)) ?_;have:=T.set (ob:=.cells [.v (.int .u8 (D.kind.toNat)),d,h]) k3;refine⟨_,θ,Z _ _ a29,?_⟩;simp only[m,k8,if_true];exact⟨d,h,rfl,this.base (Z _ _ k2)⟩
    .refine ai (bs @a @k @o @p @k8 @a3H (κ a03) (χ a02)) ?_;grind[θ]
theorem Ext.set{d h a:Nat}{b k:U}{ob:bl}(p:Ext d h b k)(r:b a=ε):Ext d h b (k.set a ob):=λo x y z c=>by
 have C:o≠a:=by rintro rfl;rw[r]at c;cases c
 rw[ξ _ _ C];exact p o x y z c
theorem Xb(b:U)(r G:Nat)(t:ad)(e:bh b r G t)(a:bQ)(u v:Χ)(L P:R)(o:Nat)(Y:1<=o)(g:o<=8)(w:fj b a L P u v):
  AC γ 93 [.ptr r 0,jb a L P,.v (.int .i64 (o:Int))] b λi x=>match fg o a with
   |none=>b.sub x/\i=.aF [.agg (ae aB .nil .nil .nil),.v (.int .i64 1)]
   |some A=>bh x r G (eV t (da a))/\Ext r G b x/\∃l8 l9 n0,i=.aF [.agg (ae A l8 l9 n0),.v (.int .i64 0)]:=by
 refine aZ hm L6 ρ ?_;have c:∀Z,(R.agg Z).cells=Z:=λ_=>rfl;have k0:∀y z C,aP η 3 [y,z,C]=.agg [y,z,C]:=λ_ _ _=>rfl;have B:∀y z C:R,[y,z,C].length=3:=λ_ _ _=>rfl;have k2:∀y z C:R,List.take 3 [y,z,C]=[y,z,C]:=λ_ _ _=>rfl;have D:=(aN (O:=.nil) (e4:=.nil) (h5:=.nil) bg).len;have n1:=(aN (O:=.nil) (e4:=.nil) (h5:=.nil) bg).t37;have k3:putAt (ae aB .nil .nil .nil) 0 (ae aB .nil .nil .nil)=ae aB .nil .nil .nil:=cC bg bg;refine ai (c2 @c @B) ?_;refine aO λj n2=>?_;refine ai (aE @c @cm @D) ?_;refine aO λd l=>?_;have H:j≠d:=by rintro rfl;rw[ν]at l;cases l
 have E:b d=none:=by rw[ξ _ _ (Ζ H)]at l;exact l
 obtain⟨S,m⟩:∃S:U,S=(b.set j (.cells [.v (.int .u8 (a.kind.toNat)),L,P])).set d (.cells (ae aB .nil .nil .nil)):=⟨_,rfl⟩;have k4:b.sub S:=by rw[m];exact μ (μ θ n2) E
 have aL:S j=β (.cells [.v (.int .u8 (a.kind.toNat)),L,P]):=by rw[m,ξ _ _ H,ν]
 have bx:S d=β (.cells (ae aB .nil .nil .nil)):=by rw[m,ν]
 have a06:∀(x)(k5),b.sub x->b.sub (x.set d k5):=λx k5 h=>μ h E;refine ai (cW @c @cm @D @B @k0 @k2 @ξ @H @ν) ?_;rw[<-m];refine ak (Co a u v L P o Y g S (w.mono k4)) ?_;rintro i k6⟨I,F⟩;have k7:=ο k4 I;have k8:=I _ _ aL;have n:=I _ _ bx;cases K:fg o a with
 |none=>
  rw[K]at F;obtain rfl:=F;simp -dsimp -implicitDefEqProofs (disch:=first|omega|assumption|(simp only[aR,Nat.reduceAdd];try omega)) only[go_sem,simprocAttr,-List.reduceReplicate,c,cm,D,k3];refine aO λp k=>?_;have k9:d≠p:=by rintro rfl;rw[n]at k;cases k
  have n3:=Ζ k9;refine ai (ck @c @cm @D @k3 @n1 @σ @ξ @k9 @n3 (χ n)) ?_;grind[θ,ο,μ]
 |some q=>
  rw[K]at F;obtain⟨T,V,W,rfl⟩:=F;have l0:dE o a=true:=by grind[fg]
  have l1:=(tI g K).1;have l2:=aN (O:=T) (e4:=V) (h5:=W) l1;have M:=l2.len;have N:putAt (ae aB .nil .nil .nil) 0 (ae q T V W)=ae q T V W:=cC bg l1;refine ai (ba @c @cm @D @M @N) ?_;refine aO λp k=>?_;have n4:j≠p:=by rintro rfl;rw[k8]at k;cases k
  have s:=Μ k7 k;have a07:d≠p:=by rintro rfl;rw[n]at k;cases k
  obtain⟨f,O⟩:∃f:U,f=k6.set p (.cells (ae q T V W)):=⟨_,rfl⟩;have l3:k6.sub f:=by rw[O];exact μ θ k
  have bs:f p=β (.cells (ae q T V W)):=by rw[O,ν]
  refine ai (fZ @c @cm @D @M @N @σ @ξ @n4 (κ k8) @k0 @B @k2) ?_;rw[<-O];have l4:=ο k7 l3;refine ak (wQ a u v L P o Y g f (w.mono l4)) ?_;rintro i n5⟨Q,F⟩;rw[rH,if_pos l0]at F;obtain⟨n9,rfl⟩:=F;have l5:=ο l4 Q;have a08:=wR g l0 λA a00=>(w.kids.all A a00).1;refine ai @c ?_;refine ak (WO n5 r G t (e.mono l5) (da a) n9 δ) ?_;rintro _ a09⟨rfl,a01,X⟩;have l6:d≠r:=by rintro rfl;obtain⟨_,_,h⟩:=e.at_;rw[h]at E;cases E
  have l7:d≠G:=by rintro rfl;obtain⟨_,⟨_,_,h,_⟩,_⟩:=e.mp;rw[h]at E;cases E
  have a02:p≠r:=by rintro rfl;obtain⟨_,_,h⟩:=e.at_;rw[h]at s;cases s
  have a03:p≠G:=by rintro rfl;obtain⟨_,⟨_,_,h,_⟩,_⟩:=e.mp;rw[h]at s;cases s
  have a04:=X _ _ l6 l7 (Q _ _ (l3 _ _ n));have a05:=X _ _ a02 a03 (Q _ _ bs);refine ai (cd @c (κ a05) (χ a04) l2.t37 @M @D @N) ?_;refine⟨_,θ,a01.other (ξ _ _ (Ζ l6)) (ξ _ _ (Ζ l7)),?_,T,V,W,rfl⟩;exact((Ext.of l5).trans X).set E
end Go.Proofs.YtcfpcblgmmeioaaGreat
namespace Go.a1
def val:List Bool->Nat
 |[]=>0
 |b::a=>(if b then 2^α a else 0)+val a
theorem mI:∀a:List Bool,val a<2^α a
 |[]=>by simp[val]
 |b::a=>by
  have:=mI a;simp only[val,a3e,a7k];split<;>omega
def lexB:List Bool->List Bool->Bool
 |b::c,a::d=>if b=a then lexB c d else a
 |_,_=>ι
def oV:∀ {a b:List Bool},α a=α b->(val a<val b↔lexB a b=η)
 |[],[],_=>by trivial
 |d::a,h::b,k=>by
  have c:α a=α b:=by simpa using k
  have o:=mI a;have p:=mI b;simp only[val,lexB];rw[c]at o|-;cases d<;>cases h<;>simp[<-oV c]<;>omega
theorem val_inj:∀ {a b:List Bool},α a=α b->val a=val b->a=b
 |[],[],_,_=>rfl
 |h::a,k::b,o,c=>by
  have d:α a=α b:=by simpa using o
  have p:=mI a;have r:=mI b;simp only[val]at c;rw[d]at p c;have:h=k:=by grind
  subst this;rw[val_inj d δ]
theorem Cu{b c a d:List Bool}(h:α b=α a):lexB (b++c) (a++d)=if b=a then lexB c d else lexB b a:=by
 induction b generalizing a with
 |nil=>grind
 |cons k b ih=>
  match a,h with
  |o::a,h=>grind[lexB]
def fk(a:Υ)(b:Nat):List Bool:=a.map (·.testBit b)
def cg(a:Υ):Nat->List Bool
 |0=>[]
 |b+1=>fk a b++cg a b
def Cv(b:Υ):∀a,(cg b a).length=α b*a
 |0=>by rfl
 |a+1=>by simp[cg,fk,Cv b a,Nat.mul_succ];omega
def pick(b:(Nat×Nat)×Nat)(a:Nat×Nat):(Nat×Nat)×Nat:=
 if b.2<a.1^^^a.2/\b.2<b.2^^^(a.1^^^a.2)then(a,a.1^^^a.2)else b
variable{e i v M b9 h9:Nat}
def Xc(a:i<2^e)(b:v<2^e):i^^^v<2^e:=a5u a b
def tK(a:e.testBit i=η):2^i<=e:=Nat.ge_two_pow_of_testBit a
theorem rS(a:e<2^(i+1))(b:e.testBit i=ι):e<2^i:=by grind[Nat.lt_pow_two_of_testBit,Nat.testBit_lt_two_pow,Nat.lt_of_lt_of_le,Nat.pow_le_pow_right]
def Cw{c:Nat}:∀(d:List (Nat×Nat))(b:(Nat×Nat)×Nat),b.2.testBit c=η->b.2<2^(c+1)->(∀a∈d,a.1^^^a.2<2^(c+1))->d.foldl pick b=b
 |[],b,_,_,_=>rfl
 |a::d,b,k,o,p=>by
  have h:=p a ρ;have:pick b a=b:=by
   simp only[pick];rw[if_neg];rintro⟨x,y⟩;have z:=tK k;cases cf:(a.1^^^a.2).testBit c with
   |false=>have:=rS h cf;omega
   |true=>
    have r:(b.2^^^(a.1^^^a.2)).testBit c=false:=by rw[a6H,k,cf];rfl
    have:=rS (Xc o h) r;omega
  rw[a3I,this];exact Cw d b k o (λa h=>p a (by simp[h]))
theorem Xd{b:(Nat×Nat)×Nat}{a:Nat×Nat}(c:b.2<2^e)(d:(a.1^^^a.2).testBit e=η):pick b a=(a,a.1^^^a.2):=by simp only[pick];refine if_pos ⟨a4c c (tK d),a4c c (tK ?_)⟩;grind[Nat.testBit_lt_two_pow]
theorem Cx(b:i.testBit e=ι)(c:v.testBit e=η)(d:∀a,e<a->i.testBit a=v.testBit a):i<v:=by
 have h:i>>>(e+1)=v>>>(e+1):=a5C λa=>by
  grind
 have k:i%2^(e+1)<2^e:=rS (a4O _ (Nat.two_pow_pos _)) (by grind);have o:2^e<=v%2^(e+1):=tK (by grind);grind[Nat.div_add_mod,Nat.shiftRight_eq_div_pow]
theorem Xe(o:i^^^v<2^(e+1))(b:i.testBit e≠v.testBit e):i<v↔v.testBit e=true:=by
 have h:∀a,e<a->i.testBit a=v.testBit a:=λa k=>by
  have p:(i^^^v).testBit a=false:=a5c (a4c o (a4J δ δ));simp_all
 cases c:v.testBit e with
 |true=>
  have d:i.testBit e=false:=by rw[c]at b;simpa using b
  simp only[iff_true];exact Cx d c h
 |false=>
  have d:i.testBit e=true:=by rw[c]at b;simpa using b
  have:=Cx c d (λa k=>(h a k).symm);grind
theorem Cy(a:Nat):∀(b c:Υ),α b=α c->(∀h∈b.zip c,h.1^^^h.2<2^(a+1))->fk b a≠fk c a->∀o:(Nat×Nat)×Nat,o.2<2^a->
  (((b.zip c).foldl pick o).1.1<((b.zip c).foldl pick o).1.2↔lexB (fk b a) (fk c a)=η)
 |[],[],_,_,x,_,_=>absurd rfl x
 |p::b,r::c,E,y,z,o,C=>by
  have F:α b=α c:=by simpa using E
  have d:=y (p,r) ρ;simp only[List.zip_cons_cons,a3I,fk,a3q,lexB]at z|-;by_cases k:p.testBit a=r.testBit a
  .rw[if_pos k];have G:(p^^^r).testBit a=false:=by rw[a6H,k];simp
   refine Cy a b c F (λh d=>y h (by simp[d])) (λx=>z ?_) _ ?_
   .rw[k];exact congrArg _ x
   .simp only[pick];split
    .exact rS d G
    .exact C
  .rw[if_neg k];have D:(p^^^r).testBit a=true:=by simp_all
   rw[Xd C D,Cw _ _ D d (λh d=>y h (by simp[d]))];exact Xe d k
variable{j8:Υ}
theorem Xf{b:Υ}(p:α j8=α b)(h:∀a∈j8.zip b,a.1^^^a.2<2^(e+1))(k:fk j8 e=fk b e):∀a∈j8.zip b,a.1^^^a.2<2^e:=by
 intro a c;refine rS (h a c) ?_;obtain⟨d,o,rfl⟩:=a3B c;simp only[List.length_zip]at o;have r:(fk j8 e)[d]?=(fk b e)[d]? :=by rw[k]
 grind[fk,List.getElem?_eq_getElem,Option.some.injEq]
theorem Cz:∀(d:Nat)(b c:Υ),α b=α c->(∀h∈b.zip c,h.1^^^h.2<2^d)->∀a:Nat×Nat,a∈b.zip c->
  (((b.zip c).foldl pick (a,0)).1.1<((b.zip c).foldl pick (a,0)).1.2↔lexB (cg b d) (cg c d)=η)
 |0,b,c,o,p,a,r=>by
  have:∀(k:List (Nat×Nat)),(∀h∈k,h.1^^^h.2<2^0)->k.foldl pick (a,0)=(a,0):=by
   intro k
   induction k with
   |nil=>intro _;rfl
   |cons h k ih=>simp_all [pick]
  rw[this _ p];have z:=p a r;have x:a.1=a.2:=a5C λy=>by
   have C:(a.1^^^a.2).testBit y=false:=by simp_all
   grind
  simp[cg,lexB,x]
 |d+1,b,c,o,p,a,r=>by
  simp only[cg];rw[Cu (by simp[fk,o])];by_cases he:fk b d=fk c d
  .rw[if_pos he];exact Cz d b c o (Xf o p he) a r
  .rw[if_neg he];grind[Cy,Nat.two_pow_pos]
theorem Xg{c:Υ}(o:α j8=α c):∀a,cg j8 a=cg c a->(∀d∈j8,d<2^a)->(∀d∈c,d<2^a)->j8=c:=by
 intro a p x y;have r:∀a,cg j8 a=cg c a->∀b,b<a->fk j8 b=fk c b:=by
  intro a
  induction a with
  |zero=>intro _ b h;omega
  |succ a ih=>grind[cg,List.append_inj,fk]
 refine a6y o λk z C=>a5C λb=>?_;by_cases h:b<a
 .have D:(fk j8 b)[k]?=(fk c b)[k]? :=by rw[r a p b h]
  grind[fk,List.getElem?_eq_getElem]
 grind[Nat.lt_of_lt_of_le,List.getElem_mem,Nat.pow_le_pow_right,Nat.testBit_lt_two_pow]
def hQ:Nat->List Bool->Τ
 |0,_=>[]
 |b+1,a=>ς (val (a.take 8))::hQ b (a.drop 8)
def CA:∀(a:Nat)(b:List Bool),(hQ a b).length=a
 |0,_=>rfl
 |a+1,b=>by simp[hQ,CA a]
def rT:Τ->Τ->Bool
 |a::c,b::d=>if a=b then rT c d else decide (a<b)
 |_,_=>ι
theorem Xh(b:e<256)(c:i<256)(a:ς e=ς i):e=i:=by have:=congrArg UInt8.toNat a;grind[UInt8.toNat_ofNat',Nat.mod_eq_of_lt]
theorem CB:∀(c:Nat)(a b:List Bool),α a=8*c->α b=8*c->rT (hQ c a) (hQ c b)=lexB a b
 |0,a,b,d,r=>by
  obtain rfl:=a2Y (by simpa using d);obtain rfl:=a2Y (by simpa using r);rfl
 |c+1,a,b,x,hm=>by
  have h:(a.take 8).length=8:=Κ;have k:(b.take 8).length=8:=Κ;have o:val (a.take 8)<256:=by grind[mI]
  have p:val (b.take 8)<256:=by grind[mI]
  have ih:=CB c (a.drop 8) (b.drop 8) Κ Κ
  conv=>rhs;rw[<-a3y 8 a,<-a3y 8 b]
  rw[Cu (h.trans k.symm)];simp only[hQ,rT];by_cases he:a.take 8=b.take 8
  .rw[he];simp[ih]
  .rw[if_neg he,if_neg (λd=>he (val_inj (h.trans k.symm) (Xh o p d)))];have:=oV (h.trans k.symm);have y:ς (val (a.take 8))<ς (val (b.take 8))↔val (a.take 8)<val (b.take 8):=by rw[UInt8.lt_iff_toNat_lt];simp[a4A o,a4A p]
   simp_all
def Xi{b a c:List Bool}(d:α b=α a)(h:α a=α c)(k:lexB b a=η)(o:lexB a c=η):lexB b c=true:=by rw[<-oV d]at k;rw[<-oV h]at o;rw[<-oV (d.trans h)];omega
theorem Xj{a b:List Bool}(c:α a=α b)(d:lexB a b=ι)(h:lexB b a=ι):a=b:=by refine val_inj c ?_;have bm:=oV c;have k:=oV c.symm;grind
end Go.a1
