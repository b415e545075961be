import Derived.Test.YtgchlmdfldnhnaaGreatMC
set_option linter.all false
open Option renaming some->γ,none->η
open Go.Proofs.Tryz renaming prog->δ
open Bool renaming true->ζ,false->κ
open List renaming replicate->θ,range->ψ,zipWith->Β,length_append->Ζ,take_of_length_le->Λ,length->β
open Go.bw.U renaming a1->ι,ad->μ,ae->ν,ah->ξ,al->ο,ao->π,set_set->υ,aO->ω,bH->Ν
open BitVec renaming ofInt->ς
open Go.bw.R renaming cells->τ
open UInt8 renaming ofNat->φ
set_option maxRecDepth 100000
namespace Go.Proofs.YtgchlmdfldnhnaaGreat
open Go Go.bw
def oV(a:Nat):ϊ:=[φ (a>>>16),φ (a>>>8),φ a]
def nV(a:Ω):ϊ:=φ (β a)::a.flatMap kY
theorem tp(a:Nat):(oV a).length=3:=rfl
theorem Ee(a:Ω):(a.flatMap kY).length=8*β a:=by
 induction a with
 |nil=>rfl
 |cons b a ih=>rw[a7R,Ρ,ih,E9,a7I];omega
def yr(a:Ω):(nV a).length=1+8*β a:=by rw[nV,a7I,Ee];omega
theorem Ef(b a:Nat)(c:a<=64):bj .shr (.int .i64 (b:Int)) (.int .u64 (a:Int))=γ (.int .i64 ((b>>>a:Nat):Int)):=by
 have d:bj .shr (.int .i64 (b)) (.int .u64 (a))=γ (.int .i64 ((b:Int).fdiv (2^a))):=by have hm:min a IntKind.i64.bits=a:=a8P c;simp[bj,gI,oF,hm]
 grind[Nat.shiftRight_eq_div_pow,Int.ofNat_fdiv]
def Eg(d f:U)(b:Nat)(c:ϊ)(a:Nat)(E:a<=1048576)(p:dx d b c f)(F:β c<=1000000000000):
  AC δ 229 [.ptr b 0,.v (.int .i64 a)] f λ_ r=>dx d b (c++oV a) r:=by
 refine bh hm Sx σ ?_;have h:bj .shr (.int .i64 (a)) (.int .u64 16)=γ (.int .i64 ((a>>>16))):=Ef a 16 ε;have k:bj .shr (.int .i64 (a)) (.int .u64 8)=γ (.int .i64 ((a>>>8))):=Ef a 8 ε;have o:(0:Int)<=a:=ε;have c2:(a:Int)<=1048576:=ε;refine aS (aZ @h @k @pS @o @c2) ?_;refine eF ι (by simp[ba,τ]) λx y z=>?_;refine aS (aZ @h @k @pS @o @c2) ?_;refine ak (yp d y b c (oV a) x (p.mono z.sub) (by rw[tp];omega)) ?_;intro G C D;refine eS ?_;exact⟨C,ι,D⟩
def ab(a:Ω):ύ:=a.map λb=>.v (.int .i64 b)
def cP{a:Ω}{b:Nat}(c:b<β a):(ab a)[b]?=γ (.v (.int .i64 (a.getD b 0))):=by simp[ab,c]
variable{n b5:Ω}
theorem bn:(ab n).length=β n:=by simp[ab]
theorem uV(f k:U)(c:Nat)(h:ϊ)(a:Ω)(C:Own)(V:β a<=255)(G:dx f c h k)(W:β h<=1000000000000):
  AC δ 227 [.ptr c 0,.J (ab a) C] k λ_ o=>dx f c (h++nV a) o:=by
 refine bh hm St σ ?_;have c2:¬(255:Int)<β a:=ε;have D:=bn (n:=a);refine aS (aD @D @c2 @pS) ?_;refine ak (q4 f k c h _ G ε) ?_;intro L e g;refine aS @D ?_;refine cZ (λd o=>∃b:Nat,b<=β a/\dx f c (h++(φ (β a)::(a.take b).flatMap kY)) o/\d 0=.ptr c 0/\d 17=.J (ab a) C/\d 18=.v (.int .i64 (β a))/\d 19=.v (.int .i64 b))
  (λd _=>match d 19 with|.v (.int _ P)=>(β a - P).toNat|_=>0) ⟨0,ε,by trivial,?_⟩ ?_
 .exact r7
 .rintro d E⟨b,i,p,r,x,y,z⟩;by_cases F:(b:Int)<β a
  .have S:b<β a:=ε;have T:=cP S;refine aS (cr @r @x @y @z @F @ir @T) ?_;refine ak (Zq f E c _ _ p ?_) ?_;grind[Ee,Ζ,List.length_cons,List.length_take];intro L j l;refine aS (aL @r @x @y @z) ?_;refine⟨⟨b+1,ε,?_,σ⟩,ε⟩;grind[kY,List.take_succ,List.getElem?_eq_getElem,List.getD]
  .obtain rfl:b=β a:=ε;refine aS (aZ @r @x @y @z @F) ?_;refine⟨E,ι,?_⟩;rw[a8c]at p;exact p
def ZI(f a:U)(b:Nat)(c:ϊ)(h:dx f b c a):
  AC δ 231 [.ptr b 0] a λk o=>o=a/\k=.v (.int .i64 0):=by
 obtain⟨p,d⟩:=h.cell;refine bh hm SB σ ?_;have r:aX κ 1 ([R.J (c.map av) p,.v (.int .i64 0)].drop 1)=.v (.int .i64 0):=rfl;unfold uT at d;refine aS (c2 (μ d) @r) ?_;exact⟨a,ι,rfl⟩
def kZ(b:Nat)(a:Rd):Nat×Rd:=
 match(dW a 3).1 with
 |none=>(0,(dW a 3).2)
 |some aN=>if min b 1048576<fv aN then(0,lU (dW a 3).2 10)else(fv aN,(dW a 3).2)
theorem Eh(a b:Nat)(c:a<4611686018427387904)(d:b<4611686018427387904):bj .or (.int .i64 a) (.int .i64 b)=γ (.int .i64 ((a|||b:Nat):Int)):=by
 have f:bj .or (.int .i64 a) (.int .i64 b)=γ (.int .i64 (IntKind.i64.wrap (ς 64 (a)|||ς 64 (b)).toNat)):=rfl;have h:a|||b<4611686018427387904:=Nat.or_lt_two_pow (n:=62) c d
 grind[BitVec.toNat_or,BitVec.toNat_ofNat,Nat.mod_eq_of_lt,wrap_i64]
theorem xQ(b:UInt8)(a:Nat)(c:a<=16):bj .shl (.int .i64 (b.toNat:Int)) (.int .u64 (a:Int))=γ (.int .i64 ((b.toNat*2^a:Nat):Int)):=by
 have h:=b.toNat_lt;have k:bj .shl (.int .i64 (b.toNat)) (.int .u64 (a))=γ (.int .i64 (IntKind.i64.wrap ((b.toNat)*2^(min (a:Int).toNat 64)))):=by have d:¬(a)<0:=ε;simp only[bj,gI,oF,d,if_false,if_true];rfl
 have hm:min (a:Int).toNat 64=a:=ε;have f:2^a<=65536:=a9a ε c;have o:b.toNat*2^a<=256*65536:=aaW ε f;grind[wrap_i64]
theorem ZJ(a b c:UInt8):a.toNat*65536|||b.toNat*256|||c.toNat=fv [a,b,c]:=by
 have f:=a.toNat_lt;have h:=b.toNat_lt;have d:=c.toNat_lt;have k:a.toNat*65536|||b.toNat*256=a.toNat*65536+b.toNat*256:=by have:=aaR (a:=a.toNat) (i:=16) (b:=b.toNat*256) ε;rw[ab9]at this;exact this.symm
 have o:(a.toNat*256+b.toNat)*256|||c.toNat=(a.toNat*256+b.toNat)*256+c.toNat:=Ec _ _ d
 grind[fv]
variable{O:ϊ}
def ZK(a:β O=3):fv O<16777216:=by have:=Eb O;rw[a]at this;exact this
def Ei(k p:U)(h:Nat)(d:Nat)(m:d<=1048576)(f:Rd)(C:cA k h f p):
  AC δ 217 [.ptr h 0,.v (.int .i64 d)] p λr D=>cA k h (kZ d f).2 D/\r=.v (.int .i64 (kZ d f).1):=by
 refine bh hm S8 σ ?_;refine eS ?_;refine ak (uU k p h f 3 ε C) ?_;rintro r E⟨x,n,rfl⟩;unfold kZ;have o:=λaN=>tm (a:=f) (e:=3) (O:=aN);generalize dW f 3=F at*;obtain⟨aN,G⟩:=F;cases aN with
 |none=>simp only[a9t,aaJ]at*;refine eS ?_;exact⟨_,ι,x⟩
 |some aN=>
  simp only[a9V,a9u]at*;have o:=o aN rfl;have q:=ZK o
  match aN,o with
  |[a,b,c],_=>
   have L:fC 1 (γ (av a))=γ (.c4 [.v (.int .u8 a.toNat)]):=rfl;have P:fC 1 (γ (av b))=γ (.c4 [.v (.int .u8 b.toNat)]):=rfl;have S:fC 1 (γ (av c))=γ (.c4 [.v (.int .u8 c.toNat)]):=rfl;have s:=a.toNat_lt;have t:=b.toNat_lt;have u:=c.toNat_lt;have T:IntKind.i64.wrap (a.toNat)=a.toNat:=wrap_i64 ε ε;have V:IntKind.i64.wrap (b.toNat)=b.toNat:=wrap_i64 ε ε;have W:IntKind.i64.wrap (c.toNat)=c.toNat:=wrap_i64 ε ε;have e:bj .shl (.int .i64 (a.toNat)) (.int .u64 16)=γ (.int .i64 ((a.toNat*65536:Nat))):=xQ a 16 ε;have g:bj .shl (.int .i64 (b.toNat)) (.int .u64 8)=γ (.int .i64 ((b.toNat*256:Nat))):=xQ b 8 ε;have i:bj .or (.int .i64 ((a.toNat*65536:Nat))) (.int .i64 ((b.toNat*256:Nat)))=γ (.int .i64 ((a.toNat*65536|||b.toNat*256))):=Eh _ _ ε ε;have v:a.toNat*65536|||b.toNat*256<16777216:=Nat.or_lt_two_pow (n:=24) ε ε
   have j:bj .or (.int .i64 ((a.toNat*65536|||b.toNat*256))) (.int .i64 (c.toNat))=γ (.int .i64 ((fv [a,b,c]))):=by rw[Eh _ _ ε ε,ZJ]
   simp -dsimp -implicitDefEqProofs (disch:=first|omega|assumption|(simp only[bd,Nat.reduceAdd];try omega)) only[ir,L,P,S,↓Dm,Dn,ai,ofConst,dt,simprocAttr,dV,aa8,↓Dw,Dx,ne_eq,not_true_eq_false,not_false_eq_true,Int.reduceNe,aad,aaD,↓DB,DC,T,V,W,e,g,i,j];have z:min (d:Int) 1048576=((min d 1048576)):=ε;by_cases q5:min d 1048576<fv [a,b,c]
   .have y:((min d 1048576))<(fv [a,b,c]:Int):=ε;refine aS (c2 @z @y) ?_;refine ak (tl k E h G 10 x) ?_;intro r w l;refine eS ?_;rw[if_pos q5];exact⟨_,ι,l,rfl⟩
   .have y:¬((min d 1048576))<(fv [a,b,c]:Int):=ε;refine aS (c2 @z @y) ?_;rw[if_neg q5];exact⟨_,ι,x,rfl⟩
theorem Ej(a:Nat)(b:Rd):(kZ a b).1<=a/\(kZ a b).1<=1048576:=by grind[kZ]
def iv:Nat->Rd->Ω->Ω×Rd
 |0,a,acc=>(acc,a)
 |b+1,a,acc=>iv b (hy a).2 (if(hy a).2.e=0 then acc++[(hy a).1]else acc)
def hz(c:Nat)(d:Rd):Ω×Rd:=
 let a:=dh d
 let b:=iv a.1.toNat (if c<a.1.toNat then lU a.2 10 else a.2) []
 if b.2.e=0 then b else([],b.2)
theorem Ek:∀(c:Nat)(a:Rd)(b:Ω),(iv c a b).1.length<=β b+c
 |0,a,b=>by simp[iv]
 |c+1,a,b=>by
  rw[iv];have:=Ek c (hy a).2 (if(hy a).2.e=0 then b++[(hy a).1]else b);grind
theorem ys(b:Nat)(a:Rd):(hz b a).1.length<=255:=by unfold hz;have c:=Ek (dh a).1.toNat (if b<(dh a).1.toNat then lU (dh a).2 10 else(dh a).2) [];have d:=(dh a).1.toNat_lt;grind
variable{g w h7:U}{e i t I b3 e5:Nat}
def cA.full{c:Rd}(d:cA w e c g):cA (g.del e) e c g:=by
 obtain⟨f,h⟩:=d.cell;refine⟨f,λk o a=>?_⟩;by_cases b:k=e
 .subst b;rw[ξ]at a;rw[h];exact a
 .rw[ο _ _ b,U.eX _ b]at a;exact a
variable{b0:bq}
def El(d:(g.set e b0).sub w)(f:g e=η):g.sub (w.del e):=λb h a=>by
 have c:b≠e:=by rintro rfl;rw[f]at a;cases a
 rw[U.eX _ c];exact d b h (by rw[ο _ _ c];exact a)
def cS.step{d k o:U}{a p:Nat}{D r:Rd}{E:Own}{x:ύ}{f:Own}(y:bk (d.set a (jz D E)) k p x f)(F:d a=η)(G:cA (k.del a) a r o):∃h,bk (d.set a (jz r h)) o p x f:=by
 obtain⟨h,z⟩:=G;refine⟨h,?_,?_⟩
 .refine π ?_ z;exact U.lP (El y.sub F)
 .have b:=y.2;cases f with
  |buf L P=>
   have c:L≠a:=by rintro rfl;have:=b.1;rw[ξ]at this;cases this
   have C:=b.1;rw[ο _ _ c]at C;exact⟨by rw[ο _ _ c];exact C,z _ _ (by rw[ο _ _ c,U.eX _ c];exact b.2)⟩
  |_=>exact b
variable{j B b7:ύ}{a7 h5 j1:Own}
def cS.rs{a:Rd}(b:bk (g.set e (jz a a7)) w i j h5):cA g e a w:=⟨a7,b.sub⟩
theorem uW(p j:U)(b:Nat)(r:Nat)(k4:r<=1048576)(L:Rd)(H:p b=η)(I:cA p b L j):
  AC δ 143 [.ptr b 0,.v (.int .i64 r)] j λx P=>cA p b (hz r L).2 P/\∃E,x=.J (ab (hz r L).1) E:=by
 refine bh hm Qi σ ?_;refine eS ?_;refine ak (tn p j b L I) ?_;rintro x K⟨l,rfl⟩;unfold hz;generalize dh L=M at*;obtain⟨k,m⟩:=M;simp only at l|-;have k5:=k.toNat_lt;have n:IntKind.i64.wrap (k.toNat)=k.toNat:=wrap_i64 ε ε;have N:∃F,F=(if r<k.toNat then lU m 10 else m):=⟨_,rfl⟩;obtain⟨F,S⟩:=N;rw[<-S];refine aS @n ?_;refine Di (λo P=>o 0=.ptr b 0/\o 5=.v (.int .i64 k.toNat)/\cA p b F P) ?_ ?_ ?_
 .intro d;have q:r<k.toNat:=by have:=of_decide_eq_true d;omega
  rw[if_pos q]at S;refine eS ?_;refine ak (tl p K b m 10 l) ?_;intro x O T;refine aS @n ?_;rw[S];exact T
 .intro d;have q:¬r<k.toNat:=by have:=of_decide_eq_false d;omega
  rw[if_neg q]at S;refine aS @n ?_;rw[S];exact l
 rintro o O⟨v,w,T⟩;generalize k.toNat=f at*;refine aS (c2 @v @w) ?_;refine cZ (λo P=>∃(c:Nat)(a:Rd)(h:Ω)(g E:Own),c<=f/\iv (f - c) a h=iv f F []/\β h<=c/\bk (p.set b (jz a E)) P 1 (ab h) g/\o 0=.ptr b 0/\o 6=.J (ab h) g/\o 16=.v (.int .i64 f)/\o 17=.v (.int .i64 c))
  (λo _=>match o 17 with|.v (.int _ k)=>(f - k).toNat|_=>0) ?_ ?_
 .obtain⟨E,T⟩:=T;refine⟨0,F,[],.nil,E,ε,rfl,σ,bk.nil T,?_⟩;refine aS (c2 @v @w) ?_;rfl
 .rintro k6 A⟨c,a,h,g,E,k7,G,k8,V,y,z,C,D⟩;by_cases s:(c:Int)<f
  .refine aS (aZ @y @z @C @D @s) ?_;refine ak (ZF (A.del b) A b a (cS.rs V).full) ?_;rintro x k9⟨t,rfl⟩;have Q:iv (f - c) a h=iv (f -(c+1)) (hy a).2 (if(hy a).2.e=0 then h++[(hy a).1]else h):=by rw[show f - c=(f -(c+1))+1 by omega];rfl
   rw[Q]at G;obtain⟨l0,B⟩:=cS.step V H t;generalize hy a=X at*;obtain⟨x,i⟩:=X;simp only at t B G|-;obtain⟨u,W⟩:=t.cell;have e:aX κ 1 ([R.J (i.b.map av) u,.v (.int .i64 i.e)].drop 1)=.v (.int .i64 i.e):=rfl;by_cases d:i.e=0
   .rw[if_pos d]at G;refine aS (cr @y @z @C @D (μ W) @e @d) ?_;refine eF ι (by simp[ba,τ]) λl1 l2 Y=>?_;refine aS (aL @y @z @C @D) ?_;refine ef (B.mono Y.sub) (by simp[ba,ab,τ]) (by simp[ba,τ]) (by simp[bn];omega) (by simp[bn];omega) λl3 l4 Z=>?_;refine aS (aL @y @z @C @D) ?_;have k2:ab h++[R.v (.int .i64 x)]=ab (h++[x]):=by simp[ab]
    rw[k2]at Z|-;grind
   .rw[if_neg d]at G;refine aS (cr @y @z @C @D (μ W) @e @d) ?_;grind
  .obtain rfl:c=f:=ε;rw[a9U]at G;have k3:iv c F []=(h,a):=by rw[<-G];rfl
   rw[k3];obtain⟨u,W⟩:=(cS.rs V).cell;have e:aX κ 1 ([R.J (a.b.map av) u,.v (.int .i64 a.e)].drop 1)=.v (.int .i64 a.e):=rfl;by_cases d:a.e=0
   .refine aS (bl @y @z @C @D @s (μ W) @e @d) ?_;exact⟨_,ι,cS.rs V,g,rfl⟩
   .refine aS (bl @y @z @C @D @s (μ W) @e @d) ?_;exact⟨_,ι,cS.rs V,.nil,rfl⟩
def headD(b:List ϊ)(a:Nat):ϊ:=if a=0 then uS else b.getD (a - 1) uS
def ZL(a:Int)(b c:ϊ)(d:Int)(f:R):ύ:=yq a b c++[.v (.int .i64 d),f]
structure yt where
 o:iQ
 st:Int
 yu:Option (iQ×iQ)
def yt.ok(a:yt):Prop:=a.o.ok/\∀b c,a.yu=γ (b,c)->b.ok/\c.ok
def Em(a:iQ)(b:Int)(c:R):ύ:=ZL a.n a.h a.d b c
def FS(c:U)(d:Nat)(a:yt)(f:U):Prop:=
 match a.yu with
 |none=>(c.set d (.cells (Em a.o a.st (.v (.pointer η))))).sub f
 |some (h,k)=>∃b,c b=η/\b≠d/\((c.set d (.cells (Em a.o a.st (.ptr b 0)))).set b (.cells (h.C++k.C))).sub f
def ZM(c d:U)(a:Nat)(b:ϊ)(f:Bool)(k:dx c a b d)(o:β b+1<=70368744177664):
  AC δ 226 [.ptr a 0,.v (.bool f)] d λ_ p=>dx c a (b++[if f then 1 else 0]) p:=by
 refine bh hm Sr σ ?_;cases f
 .refine aS (c2 @cd @cf) ?_;refine ak (q4 c d a b 0 k o) ?_;intro r x h;refine aS (c2 @cd @cf) ?_;exact⟨_,ι,h⟩
 .refine aS (c2 @cd @cf) ?_;refine ak (q4 c d a b 1 k o) ?_;intro r x h;refine aS (c2 @cd @cf) ?_;exact⟨_,ι,h⟩
theorem ZN(a c:ϊ)(C D:Own)(f:U)(W:β a<=70368744177664):
  AC δ 148 [.J (a.map av) C,.J (c.map av) D] f λG y=>y=f/\G=.v (.bool (decide (a=c))):=by
 refine bh hm Qs σ ?_;by_cases e:β a=β c
 .have h:(β a:Int)=β c:=ε;refine aS (aD @h @cd @cf) ?_;rw[<-h];refine cZ (λd y=>∃b:Nat,b<=β a/\y=f/\d 0=.J (a.map av) C/\d 1=.J (c.map av) D/\d 12=.v (.int .i64 (β a))/\d 13=.v (.int .i64 b)/\a.take b=c.take b)
   (λd _=>match d 13 with|.v (.int _ L)=>(β a - L).toNat|_=>0) ⟨0,ε,rfl,?_⟩ ?_
  .exact iM (aD @a9o.{0} @cd @cf)
  .rintro d E⟨b,g,rfl,k,o,p,r,i⟩;by_cases x:(b:Int)<β a
   .have P:b<β a:=ε;have S:b<β c:=ε;have T:fC 1 (a.map av)[b]?=γ (.c4 [.v (.int .u8 (a.getD b 0).toNat)]):=by rw[xP P];rfl
    have V:fC 1 (c.map av)[b]?=γ (.c4 [.v (.int .u8 (c.getD b 0).toNat)]):=by rw[xP S];rfl
    simp -dsimp -implicitDefEqProofs (disch:=first|omega|assumption|(simp only[bd,Nat.reduceAdd];try omega)) only[k,o,p,r,x,ir,T,V,go_sem,simprocAttr,cd,cf];by_cases F:a.getD b 0=c.getD b 0
    .have z:(((a.getD b 0).toNat:Int)=(c.getD b 0).toNat)=True:=by rw[F];simp
     simp -dsimp -implicitDefEqProofs (disch:=first|omega|assumption|(simp only[bd,Nat.reduceAdd];try omega)) only[k,o,p,r,x,z,go_sem,simprocAttr,cd,cf];refine⟨⟨b+1,ε,σ,?_⟩,ε⟩;grind[List.take_succ,List.getElem?_eq_getElem,List.getD]
    .have z:(((a.getD b 0).toNat:Int)=(c.getD b 0).toNat)=False:=by simp only[eq_iff_iff,iff_false];grind[UInt8.toNat_inj]
     simp -dsimp -implicitDefEqProofs (disch:=first|omega|assumption|(simp only[bd,Nat.reduceAdd];try omega)) only[k,o,p,r,x,z,go_sem,simprocAttr,cd,cf];refine⟨E,ι,rfl,?_⟩;have:a≠c:=by rintro rfl;exact F rfl
     simp[this]
   .obtain rfl:b=β a:=ε;simp -dsimp -implicitDefEqProofs (disch:=first|omega|assumption|(simp only[bd,Nat.reduceAdd];try omega)) only[k,o,p,r,x,go_sem,simprocAttr,cd,cf];refine⟨E,ι,rfl,?_⟩;grind
 .have h:((β a:Int)=β c)=False:=by grind
  refine aS (aD @h @cd @cf) ?_;refine⟨f,ι,rfl,?_⟩;have:a≠c:=by rintro rfl;omega
  simp[this]
def nW(a:Rd):Bool×Rd:=(decide ((dh a).1=1),if 1<(dh a).1.toNat then lU (dh a).2 21 else(dh a).2)
theorem ZO(d f:U)(b:Nat)(c:Rd)(x:cA d b c f):
  AC δ 142 [.ptr b 0] f λh y=>cA d b (nW c).2 y/\h=.v (.bool (nW c).1):=by
 refine bh hm Qg σ ?_;refine aS (c2 @cd @cf) ?_;refine ak (tn d f b c x) ?_;rintro h z⟨k,rfl⟩;unfold nW;generalize dh c=C at*;obtain⟨a,D⟩:=C;simp only at k|-;have p:decide ((a.toNat:Int)=1)=decide (a=1):=by
  have:((a.toNat:Int)=1)↔a=1:=by rw[<-a8v];grind
  simp only[this]
 by_cases r:1<a.toNat
 .have o:(1:Int)<a.toNat:=ε;refine aS (aD @o @cd @cf) ?_;refine ak (tl d z b D 21 k) ?_;intro h F E;rw[if_pos r];refine aS (aD @p @cd @cf) ?_;exact⟨_,ι,E⟩
 .have o:¬(1:Int)<a.toNat:=ε;rw[if_neg r];refine aS (aL @o @p @cd @cf) ?_;exact⟨_,ι,k⟩
structure aj where
 sum:ϊ
 az:Ω
 aE:Ω
 live:Int
 size:Int
 key:Ω
 deriving DecidableEq
def aG:aj:=⟨θ 32 0,[],[],0,0,[]⟩
structure bO where
 kind:UInt8
 rows:List (Ω×Bool)
 kids:List aj
 deriving DecidableEq
def cV(b c:Ω)(a:Nat):Bool:=decide (1<=a)&&decide (a<=8)&&decide (β b=a)&&decide (β c=a)&&(ψ a).all λd=>decide (b.getD d 0<=c.getD d 0)
def fl(b:Nat)(a:aj):Bool:=
 decide (a=aG)||(!(decide (a.size<1)||decide (1048576<a.size)||decide (a.live<0)||decide (a.size<a.live))&&
  if a.live=0 then decide (β a.az=0)&&decide (β a.aE=0)else cV a.az a.aE b)
def ea(c:Nat)(a:bO):Bool:=
  a.rows.all (λd=>decide (β d.1=c))&&a.kids.all (fl c)&&
  (if a.kind=1 then decide (β a.rows=1)&&decide (β a.kids=2)&&a.kids.all (λb=>decide (β b.key=0))
   else if a.kind=2 then decide (1<=β a.rows)&&decide (β a.rows<=4)&&decide (β a.kids=0)&&a.rows.all (λd=>d.2)
   else if a.kind=3 then decide (β a.rows=0)&&decide (2<=β a.kids)&&decide (β a.kids<=4)&&a.kids.all (λb=>decide (β b.key=c)&& !decide (b=aG))
   else κ)
def la(a:Ω×Bool):ϊ:=(if a.2=ζ then(1:UInt8)else 0)::nV a.1
def lb(a:aj):ϊ:=a.sum++(oV a.live.toNat++(oV a.size.toNat++(nV a.az++(nV a.aE++nV a.key))))
def dX(a:bO):ϊ:=a.kind::φ (β a.rows)::(a.rows.flatMap la++φ (β a.kids)::a.kids.flatMap lb)
def tq(b:Nat)(a:bO):Option ϊ:=if ea b a=ζ then γ (dX a)else η
def et(b a:Ω×Ω):Ω×Ω:=
 if cV b.1 b.2 (β b.1)=ζ then
  (if cV a.1 a.2 (β a.1)=ζ then(if β b.1=β a.1 then(Β min b.1 a.1,Β max b.2 a.2)else([],[]))else b)
 else if cV a.1 a.2 (β a.1)=ζ then a else([],[])
def gM(a:Ω):Ω×Ω:=if 1<=β a/\β a<=8 then(a,a)else([],[])
structure fY where
 live:Int
 size:Int
 aY:Ω×Ω
def eu(a:fY)(b:Ω×Bool):fY:=if b.2=ζ then {a with live:=a.live+1,aY:=et a.aY (gM b.1)}else a
def fw(b:fY)(a:aj):fY:=⟨b.live+a.live,b.size+a.size,et b.aY (a.az,a.aE)⟩
def fx(a:bO):fY:=a.kids.foldl fw (a.rows.foldl eu ⟨0,β a.rows,([],[])⟩)
def keyOf(a:bO):Ω:=if a.kind=2 then(a.rows.headD ([],κ)).1 else if a.kind=3 then(a.kids.headD aG).key else []
def fZ(a:ϊ):ϊ:=kX (preB 80 [a])
def gA(a:bO):aj:=⟨fZ (dX a),(fx a).aY.1,(fx a).aY.2,(fx a).live,(fx a).size,keyOf a⟩
def ga(b:Nat)(a:bO):Option aj:=if ea b a=ζ then(if 1048576<(fx a).size then η else γ (gA a))else η
def jE(b:Nat)(a:Rd):(Ω×Bool)×Rd:=(((hz b (nW a).2).1,(nW a).1),(hz b (nW a).2).2)
def iw(a:Nat)(o:Rd):aj×Rd:=
 let b:=nU o
 let c:=kZ 1048576 b.2
 let d:=kZ 1048576 c.2
 let f:=hz a d.2
 let h:=hz a f.2
 let k:=hz a h.2
 (⟨b.1,f.1,h.1,(c.1:Int),(d.1:Int),k.1⟩,k.2)
def fy{b:Type}(c:Rd->b×Rd):Nat->Rd->List b->List b×Rd
 |0,a,acc=>(acc,a)
 |d+1,a,acc=>fy c d (c a).2 (acc++[(c a).1])
def q6(a:Nat)(k:ϊ):bO×Rd:=
 let b:=dh ⟨k,0⟩
 let c:=dh b.2
 let d:=fy (jE a) c.1.toNat c.2 []
 let f:=dh d.2
 let h:=fy (iw a) f.1.toNat f.2 []
 (⟨b.1,d.1,h.1⟩,rn h.2)
def nX(a:Nat)(b:ϊ):Option bO:=
 if(q6 a b).2.e=0/\ea a (q6 a b).1=ζ/\dX (q6 a b).1=b then γ (q6 a b).1 else η
abbrev bs(b:Ω):Prop:=∀a∈b,-9223372036854775808<=a/\a<9223372036854775808
theorem uX(a b:ϊ):dW ⟨a++b,0⟩ (β a)=(γ a,⟨b,0⟩):=by unfold dW;simp
def uY(a:UInt8)(b:ϊ):dh ⟨a::b,0⟩=(a,⟨b,0⟩):=by have:=uX [a] b;rfl
def ZP(a:Nat)(b:a<18446744073709551616):fv (fb a)=a:=by simp only[fv,fb,a8j,aa2,a9j,a9e];omega
theorem ZQ(a:Int)(b: -9223372036854775808<=a)(c:a<9223372036854775808):(BitVec.ofNat 64 (cx a)^^^9223372036854775808#64).toInt=a:=by grind[ς,cx,BitVec.setWidth_eq,BitVec.xor_assoc,BitVec.xor_self,BitVec.xor_zero,BitVec.toInt_ofInt]
def ZR(a:Int)(b:ϊ)(d: -9223372036854775808<=a)(f:a<9223372036854775808):hy ⟨kY a++b,0⟩=(a,⟨b,0⟩):=by have c:=uX (kY a) b;rw[E9]at c;unfold hy;rw[c];simp only;rw[kY,ZP _ (by exact(ς 64 a^^^ς 64 9223372036854775808).isLt),ZQ a d f]
theorem ZS(a b:ϊ)(c:β a=32):nU ⟨a++b,0⟩=(a,⟨b,0⟩):=by grind[uX,nU]
def ZT(a:Bool)(b:ϊ):nW ⟨(if a=ζ then(1:UInt8)else 0)::b,0⟩=(a,⟨b,0⟩):=by unfold nW;rw[uY];cases a<;>rfl
theorem En(a:Nat)(c:a<=1048576)(b:ϊ):kZ 1048576 ⟨oV a++b,0⟩=(a,⟨b,0⟩):=by have d:=uX (oV a) b;grind[tp,kZ,fv,oV,UInt8.toNat_ofNat',Nat.shiftRight_eq_div_pow]
def Eo:∀(a c:Ω)(b:ϊ),bs a->iv (β a) ⟨a.flatMap kY++b,0⟩ c=(c++a,⟨b,0⟩)
 |[],c,b,_=>by simp[iv]
 |d::a,c,b,f=>by
  have h:=f d σ;rw[a7I,iv,a7R,a7P,ZR d _ h.1 h.2];simp only[if_true];rw[Eo a _ b (λk o=>f k (by simp[o]))];simp
def uZ(a:Ω)(b:Nat)(c:ϊ)(k:β a<=b)(o:β a<=255)(d:bs a):hz b ⟨nV a++c,0⟩=(a,⟨c,0⟩):=by
 have f:(φ (β a)).toNat=β a:=by rw[a9j];omega
 unfold hz;have h:¬b<β a:=ε;rw[nV,a8K,uY];simp only[f,h,if_false,Eo a [] c d];simp
def ZU(a:Ω×Bool)(b:Nat)(c:ϊ)(d:β a.1<=b)(f:β a.1<=255)(h:bs a.1):jE b ⟨la a++c,0⟩=(a,⟨c,0⟩):=by unfold jE;rw[la,a8K,ZT,uZ _ _ _ d f h]
structure aj.In(d:Nat)(k:aj):Prop where
 sum:β k.sum=32
 az:bs k.az
 aE:bs k.aE
 key:bs k.key
 yv:β k.az<=d
 yw:β k.aE<=d
 yx:β k.key<=d
 rp:0<=k.live
 live:k.live<=1048576
 rq:0<=k.size
 size:k.size<=1048576
def ZV(b:aj)(c:Nat)(r:c<=255)(d:ϊ)(a:b.In c):iw c ⟨lb b++d,0⟩=(b,⟨d,0⟩):=by have x:=a.live;have f:=a.rp;have y:=a.size;have h:=a.rq;have k:=a.yv;have o:=a.yw;have p:=a.yx;unfold iw;simp only[lb,a7P];rw[ZS _ _ a.sum];simp only[];rw[En _ ε];simp only[];rw[En _ ε];simp only[];rw[uZ _ _ _ k ε a.az];simp only[];rw[uZ _ _ _ o ε a.aE];simp only[];rw[uZ _ _ _ p ε a.key];rw[a9g f,a9g h]
def yy{d:Type}(h:Rd->d×Rd)(k:d->ϊ)(o:d->Prop)(p:∀a b,o a->h ⟨k a++b,0⟩=(a,⟨b,0⟩)):∀(c f:List d)(b:ϊ),(∀a∈c,o a)->fy h (β c) ⟨c.flatMap k++b,0⟩ f=(f++c,⟨b,0⟩)
 |[],f,b,_=>by simp[fy]
 |a::c,f,b,r=>by
  rw[a7I,fy,a7R,a7P,p a _ (r a σ)];rw[yy h k o p c _ b (λx y=>r x (by simp[y]))];simp
structure bO.In(d:Nat)(n:bO):Prop where
 ok:ea d n=ζ
 rows:∀r∈n.rows,bs r.1
 kids:∀k∈n.kids,k.In d
variable{c0:bO}
theorem iR(a:ea e c0=ζ):(∀b∈c0.rows,β b.1=e)/\β c0.rows<=4/\β c0.kids<=4:=by unfold ea at a;grind
def Ep(h:e<=255)(b:c0.In e):nX e (dX c0)=γ c0:=by
 obtain⟨k,y,z⟩:=iR b.ok;have o:(φ (β c0.rows)).toNat=β c0.rows:=by rw[a9j];omega
 have p:(φ (β c0.kids)).toNat=β c0.kids:=by rw[a9j];omega
 have r:q6 e (dX c0)=(c0,⟨[],0⟩):=by unfold q6 dX;simp only[uY,o];rw[yy (jE e) la (λa=>β a.1=e/\bs a.1) (λa d c=>ZU a e d ε ε c.2) c0.rows [] _ (λa c=>⟨k a c,b.rows a c⟩)];simp only[uY,p];have:=yy (iw e) lb (λf=>f.In e) (λf d x=>ZV f e h d x) c0.kids [] [] b.kids;rw[a8u]at this;rw[this];rfl
 unfold nX;rw[r];simp[b.ok]
def v7(a:List ϊ)(b:Nat)(c:ϊ):ϋ:=(ψ b).filter λd=>decide (kX (a.getD d [])=c)
def ZW(a:ϋ):ύ:=a.map λb=>.v (.int .i64 ((b:Nat):Int))
abbrev v8:List (Nat×bZ):=[(32,.int .u8)]
theorem tr(a:β O=32):dO v8 (O.map av):=by
 refine⟨by simp[a],λc b=>?_,?_⟩
 .rw[a7x (by simp[a])]at b;obtain⟨d,_,rfl⟩:=a7M.1 b;rfl
 .show List.drop 32 _=[];simp_all
structure PB(h o:U)(p:Nat)(b:List ϊ)(n:Nat)(f:R->Option R):Prop where
 sub:h.sub o
 new:h p=η
 val:∀d,β d=32->(v7 b n d=[]/\f (dJ d)=η)\/(v7 b n d≠[]/\∃a c,f (dJ d)=γ (.J (ZW (v7 b n d)) (.buf a c))/\h a=η/\a≠p/\o a=γ (.buf 1 (v7 b n d).length c))
 inj:∀d k x r a c y,β d=32->β k=32->f (dJ d)=γ (.J x (.buf a c))->f (dJ k)=γ (.J r (.buf a y))->d=k
theorem ts(a:ϊ)(d:Own)(b:U)(z:β a<=70368744177664):
  AC δ 79 [.J (a.map av) d] b λh k=>∃f,bk b k 1 (a.map av) f/\h=.J (a.map av) f:=by
 refine oO λC=>?_;have o:d=.nil->a=[]:=λD=>by simp_all
 refine bh hm Ot σ ?_;simp -dsimp -implicitDefEqProofs (disch:=first|omega|assumption|(simp only[bd,Nat.reduceAdd];try omega)) only[go_sem,simprocAttr,-List.reduceReplicate,↓oT];refine oU (λc=>by rw[o c];rfl) (λc=>?_) ?_
 .have p:a=[]:=by simpa using c
  subst p;refine an @a8q ?_;exact⟨b,ι,.nil,bk.nil ι,rfl⟩
 .refine bU ?_;refine eF ι (by simp[ba]) λE F r=>?_;refine bU ?_;refine nO (O:=[]) r Ι λx y G=>?_;refine an @a7T.{0} ?_;exact⟨y,ι,x,by trivial,rfl⟩
def ZX(a b:ϊ)(d f:Own)(c:U):
  AC δ 281 [.J (a.map av) d,.J (b.map av) f] c λh k=>k=c/\h=.v (.bool (decide (a=b))):=by
 refine bh hm TL σ ?_;have o:nP (.J (a.map av) d)=γ (bm a):=tc;have p:nP (.J (b.map av) f)=γ (bm b):=tc;refine an (aD @o @p @r6) ?_;exact⟨c,ι,rfl⟩
def ZY(a:ϊ)(b:Own)(c:U)(z:β a<=1000000000000):
  AC δ 233 [.J (a.map av) b] c λf h=>∃d,bk c h 1 ((preB 80 [a]).map av) d/\f=.J ((preB 80 [a]).map av) d:=by
 refine bh hm SF σ ?_;refine bU ?_;refine eF ι (by simp[ba,τ]) λk o p=>?_;refine bU ?_;refine ak (Zi 80 [(a,b)] k (by simp[preB,chunk,fb];omega) o) ?_;rintro _ r⟨x,y,rfl⟩;refine bU ?_;exact⟨r,ι,x,y.base p.sub,rfl⟩
def q7(a:ϊ):(fZ a).length=32:=yo _
def Er(a:ϊ)(d:Own)(c:U)(o:β a<=1000000000000):
  AC δ 149 [.J (a.map av) d] c λp r=>r=c/\p=dJ (fZ a):=by
 refine bh hm Qu σ ?_;refine bU ?_;refine aR λD f=>?_;refine bU ?_;refine ak (ZY a d _ o) ?_;rintro _ E⟨x,h,rfl⟩;have y:=h.sub _ _ (ξ _ _ _);refine bU ?_;refine ak (Zn _ x (by simp[preB,chunk,fb];omega) _) ?_;rintro _ _⟨rfl,rfl⟩;have k:(kX (preB 80 [a])).length=32:=q7 a;have z:∀b,(dJ b).cells=b.map av:=λ_=>rfl;rw[show fZ a=kX (preB 80 [a])from rfl];generalize kX (preB 80 [a])=b at*;have C:(b.map av).length=32:=by simp[k]
 refine an (aL @z @C @k (ω y)) ?_;refine⟨c,ν (π (ν ι f) h.sub) f,rfl,?_⟩;rw[a7x ε];rfl
structure af where
 m:ϊ->Option ϊ
 a:ϊ
 b:ϊ
 one:Bool
def af.new:af:=⟨λ_=>η,[],[],κ⟩
def fc(c:af)(b:ϊ):af:=
 match c.m (fZ b)with
 |none=> {c with m:=λd=>if d=fZ b then γ b else c.m d}
 |some f=>if c.one=κ/\f≠b then {c with a:=f,b:=b,one:=ζ}else c
abbrev Es(b:Nat)(a:af)(c d:Own):ύ:=[.gr b,.J (a.a.map av) c,.J (a.b.map av) d,.v (.bool a.one)]
structure bz(f:U)(l h:Nat)(a:af):Prop where
 at_:∃fe dN,f l=γ (.cells (Es h a fe dN))
 mp:∃c,r5 f h v8 c/\∀d,β d=32->match a.m d with
  |none=>c (dJ d)=η
  |some b=>β b<=1000000000000/\∃o,c (dJ d)=γ (.J (b.map av) o)
 tt:β a.a<=1000000000000
 tu:β a.b<=1000000000000
def Ext(c d:Nat)(f h:U):Prop:=∀a b,a≠c->a≠d->f a=γ b->h a=γ b
theorem Ext.refl:Ext e i g g:=λ_ _ _ _ a=>a
theorem Ext.of{l lM:Nat}{s:U}(a:s.sub g):Ext l lM s g:=λb c _ _ d=>a b c d
theorem Ext.trans(f:Ext e i g w)(h:Ext e i w h7):Ext e i g h7:=λa b c d k=>h a b c d (f a b c d k)
variable{H:af}
def bz.ne(a:bz g e i H):e≠i:=by obtain⟨d,f,c⟩:=a.at_;obtain⟨h,⟨k,o,b,_⟩,_⟩:=a.mp;rintro rfl;rw[c]at b;cases b
def bz.mono(a:bz g e i H)(b:g.sub w):bz w e i H:=by obtain⟨c,d,f⟩:=a.at_;obtain⟨h,⟨k,o,p,r⟩,x⟩:=a.mp;exact⟨⟨c,d,b _ _ f⟩,⟨h,⟨k,o,b _ _ p,r⟩,x⟩,a.tt,a.tu⟩
def bz.other(a:bz g e i H)(b:w e=g e)(c:w i=g i):bz w e i H:=by obtain⟨d,f,h⟩:=a.at_;obtain⟨k,⟨o,p,r,x⟩,y⟩:=a.mp;exact⟨⟨d,f,by rw[b];exact h⟩,⟨k,⟨o,p,by rw[c];exact r,x⟩,y⟩,a.tt,a.tu⟩
def ZZ:(R.gr e).cells=[.gr e]:=rfl
def a0a(b:U):AC δ 28 [] b λD h=>∃a c,b a=η/\b c=η/\D=.ptr a 0/\bz h a c af.new/\b.sub h:=by
 refine bh hm N0 σ ?_;refine bU ?_;refine aR λc k=>?_;have E:∀F o p f r:R,putAt [F,o,p,f] 0 [r]=[r,o,p,f]:=λ_ _ _ _ _=>rfl;have x:∀y,(R.agg y).cells=y:=λ_=>rfl;refine an (aD @ZZ @E @x) ?_;refine aR λa d=>?_;refine an @x ?_;have z:a≠c:=by rintro rfl;rw[ξ]at d;cases d
 have C:b a=none:=by rw[ο _ _ z]at d;exact d
 refine⟨_,ι,a,c,C,k,rfl,⟨⟨.nil,.nil,by rw[ξ];rfl⟩,⟨_,⟨[],0,by rw[ο _ _ (Θ z),ξ],lS.new⟩,λf _=>rfl⟩,by trivial,by trivial⟩,ν (ν ι k) C⟩
def iS:(dJ O).cells=O.map av:=rfl
def a0b(d:U)(y z:Nat)(f:af)(E:bz d y z f)(a:ϊ)(h:β a=32):
  AC δ 89 [.ptr y 0,dJ a] d λC F=>d.sub F/\match f.m a with
   |none=>C=.aJ [.J [] .nil,.v (.int .i64 9)]
   |some k=>∃o,C=.aJ [.J (k.map av) o,.v (.int .i64 0)]:=by
 obtain⟨⟨s,t,G⟩,⟨c,L,b⟩,_,_⟩:=E;have b:=b a h;have p:(a.map av).length=32:=by simp[h]
 refine bh hm OI σ ?_;refine an (c2 @iS @p) ?_;refine aR λP S=>?_;have r:=ν (b0:=.cells (a.map av)) (ι) S;have T:r5 (d.set P (.cells (a.map av))) z v8 c:=by obtain⟨V,W,e,g⟩:=L;exact⟨V,W,r _ _ e,g⟩
 have i:=r _ _ G;have j:aX ζ 32 (a.map av)=dJ a:=by rw[aX,if_pos rfl,a7x ε];rfl
 refine an (aZ @iS @p @h (μ i) @j) ?_;refine DF T (tr h) (λv x=>?_) (λD=>?_)
 .cases hm:f.m a with
  |none=>rw[hm]at b;rw[show c (.agg (a.map av))=c (dJ a)from rfl,b]at x;cases x
  |some k=>rw[hm]at b;obtain⟨l,o,b⟩:=b;rw[show c (.agg (a.map av))=c (dJ a)from rfl,b]at x;obtain rfl:=Δ x;refine an (c2 @iS @p) ?_;refine ak (ts k o _ ε) ?_;rintro _ m⟨n,q,rfl⟩;refine bU ?_;exact⟨m,ι,π r q.sub,n,rfl⟩
 .cases hm:f.m a with
  |none=>refine an (c2 @iS @p) ?_;exact⟨_,ι,r⟩
  |some k=>rw[hm]at b;obtain⟨l,o,b⟩:=b;rw[show c (.agg (a.map av))=c (dJ a)from rfl,b]at D;cases D
def a0c(b:U)(h x:Nat)(a:af)(c:bz b h x a):
  AC δ 41 [.ptr h 0] b λy z=>b.sub z/\∃d f,y=.aJ [.J (a.a.map av) d,.J (a.b.map av) f,.v (.bool a.one)]:=by
 have G:=c.tt;have L:=c.tu;obtain⟨d,f,k⟩:=c.at_;refine bh hm Nq σ ?_;refine an (μ k) ?_;refine ak (ts a.a d _ ε) ?_;rintro _ P⟨C,o,rfl⟩;have p:=o.sub _ _ k;refine an (μ p) ?_;refine ak (ts a.b f _ ε) ?_;rintro _ D⟨E,r,rfl⟩;have F:=r.sub _ _ p;refine an (μ F) ?_;exact⟨D,ι,π o.sub r.sub,C,E,rfl⟩
theorem a0d(z:U)(h d:Nat)(f:af)(F:bz z h d f)(b:ϊ)(T:Own)(Q:β b<=1000000000000):
  AC δ 242 [.ptr h 0,.J (b.map av) T] z λn3 G=>n3=dJ (fZ b)/\bz G h d (fc f b)/\Ext h d z G:=by
 have l1:=F.ne;refine bh hm SU σ ?_;refine bU ?_;refine aR λC i=>?_;have u:=ν (b0:=.cells (θ 32 (.v (.int .u8 0)))) (ι) i;have aL:(z.set C (.cells (θ 32 (.v (.int .u8 0))))) C= _:=ξ _ _ _;refine bU ?_;generalize z.set C (.cells (θ 32 (.v (.int .u8 0))))=a13 at*;refine ak (Er b T _ Q) ?_;rintro _ X⟨rfl,rfl⟩;refine bU ?_;refine aR λV W=>?_;have a14:C≠V:=by rintro rfl;rw[aL]at W;cases W
 have k:=q7 b;have n4:∀c,fc f b=fc f b->c=fZ b->β c=32:=λc _ x=>by rw[x];exact k
 generalize Y:fZ b=c at*;have r:(c.map av).length=32:=by simp[k]
 have j:putAt (θ 32 (R.v (.int .u8 0))) 0 (c.map av)=c.map av:=by rw[putAt,a9o,a7T,r,a8k σ,a8u]
 refine an (aZ @iS @r @k @j @υ) ?_;have Z:=ν (b0:=.cells (c.map av)) (ι) W;have aZ:(X.set V (.cells (c.map av))) V= _:=ξ _ _ _;have l2:=Z _ _ aL;have l3:=F.mono (π u Z);have l4:Ext h d z (X.set V (.cells (c.map av))):=Ext.of (π u Z);have n5:C≠h:=by rintro rfl;obtain⟨_,_,x⟩:=F.at_;rw[x]at i;cases i
 have n9:V≠h:=by rintro rfl;obtain⟨_,_,x⟩:=F.at_;rw[u _ _ x]at W;cases W
 have l5:C≠d:=by rintro rfl;obtain⟨_,⟨_,_,x,_⟩,_⟩:=F.mp;rw[x]at i;cases i
 have a00:V≠d:=by rintro rfl;obtain⟨_,⟨_,_,x,_⟩,_⟩:=F.mp;rw[u _ _ x]at W;cases W
 obtain⟨l6,l,n⟩:=l3.at_;obtain⟨L,w,k2⟩:=l3.mp;have D:=k2 c k;have E:aX ζ 32 (c.map av)=dJ c:=by rw[aX,if_pos rfl,a7x ε];rfl
 clear n4;have l7:∀G:U,bz G h d (fc f b)->Ext h d z G->bz (G.set C (.cells (c.map av))) h d (fc f b)/\Ext h d z (G.set C (.cells (c.map av))):=by
  intro G a01 a02;refine⟨a01.other (ο _ _ (Θ n5)) (ο _ _ (Θ l5)),λo T n p P=>?_⟩;have a03:o≠C:=by rintro rfl;rw[i]at P;cases P
  rw[ο _ _ a03];exact a02 o T n p P
 have e:X h=γ (.cells (Es d f l6 l)):=by rw[ο _ _ (Θ n9)]at n;exact n
 refine an (bt @iS @r @k (μ e) (μ aZ) @E) ?_;refine DF w (tr k) (λv A=>?_) (λl8=>?_)
 .cases hm:f.m c with
  |none=>rw[hm]at D;rw[show L (.agg (c.map av))=L (dJ c)from rfl,D]at A;cases A
  |some q=>
   rw[hm]at D;obtain⟨l9,B,D⟩:=D;rw[show L (.agg (c.map av))=L (dJ c)from rfl,D]at A;obtain rfl:=Δ A;have g:fc f b=if f.one=κ/\q≠b then {f with a:=q,b:=b,one:=ζ}else f:=by unfold fc;rw[Y,hm]
   refine an (bt @iS @r @k (μ e) (μ aZ) @E) ?_;cases s:f.one with
   |true=>refine an (dz @iS @r @k (μ e) (μ aZ) (ω aL) @E @j @s) ?_;rw[s]at g;rw[if_neg σ]at g;grind[ι]
   |false=>
    refine an (cr @iS @r @k (μ e) (μ aZ) @E @s) ?_;refine ak (ZX q b B T _) ?_;rintro _ _⟨rfl,rfl⟩;by_cases H:q=b
    .refine an (cw @iS @r @k (μ e) (μ aZ) (ω aL) @E @j @s @H) ?_;rw[if_neg (by simp[H])]at g;grind[ι]
    .refine an (cw @iS @r @k (μ e) (μ aZ) (ω aL) @E @j @s @H) ?_;rw[if_pos ⟨s,H⟩]at g;refine ak (ts b T _ ε) ?_;rintro _ S⟨I,p,rfl⟩;have K:=p.sub _ _ n;have M:=p.sub _ _ l2;have t:=p.sub _ _ aZ;have n0:=w;have a04:∀a b y c o:R,putAt [a,b,y,c] 1 [o]=[a,o,y,c]:=λ_ _ _ _ _=>rfl;have a05:∀a b y c o:R,putAt [a,b,y,c] 2 [o]=[a,b,o,c]:=λ_ _ _ _ _=>rfl;have a06:∀a b y c o:R,putAt [a,b,y,c] 3 [o]=[a,b,y,o]:=λ_ _ _ _ _=>rfl;refine an (ha @iS @r @k (ω K) (μ t) (ω M) @E @j @a04 @a05 @a06 @υ) ?_;have a07:∀k3,k3=bq.cells [.gr d,.J (q.map av) B,.J (b.map av) I,.v (.bool ζ)]->bz (S.set h k3) h d (fc f b)/\Ext h d z (S.set h k3):=by rintro _ rfl;obtain⟨k4,y,k5,k6⟩:=w;rw[g];refine⟨⟨⟨B,I,ξ _ _ _⟩,⟨L,⟨k4,y,by rw[ο _ _ (Θ l1)];exact p.sub _ _ k5,k6⟩,k2⟩,l9,Q⟩,λo l P N k7=>?_⟩;rw[ο _ _ P];exact p.sub _ _ (l4 o l P N k7)
     obtain⟨k8,k9⟩:=a07 _ rfl;exact⟨_,ι,l7 _ k8 k9⟩
 .cases hm:f.m c with
  |some q=>rw[hm]at D;obtain⟨l9,B,D⟩:=D;rw[show L (.agg (c.map av))=L (dJ c)from rfl,D]at l8;cases l8
  |none=>
   have g:fc f b= {f with m:=λc=>if c=fZ b then γ b else f.m c}:=by unfold fc;rw[Y,hm]
   refine an (bt @iS @r @k (μ e) (μ aZ) @E) ?_;refine ak (ts b T _ ε) ?_;rintro _ S⟨I,p,rfl⟩;have K:=p.sub _ _ n;have M:=p.sub _ _ l2;have t:=p.sub _ _ aZ;have n0:r5 S d v8 L:=by obtain⟨k4,y,k5,k6⟩:=w;exact⟨k4,y,p.sub _ _ k5,k6⟩
   refine an (bt @iS @r @k (μ K) (μ t) @E) ?_;refine XU n0 (tr k) λO a08=>?_;have a09:(S.set d O) V=γ (.cells (c.map av)):=by rw[ο _ _ a00];exact t
   have a10:(S.set d O) C=γ (.cells (θ 32 (.v (.int .u8 0)))):=by rw[ο _ _ l5];exact M
   refine an (dz @iS @r @k (μ t) (μ a09) (ω M) (ω a10) @E @j) ?_;have k8:bz (S.set d O) h d (fc f b):=by
    rw[g];refine⟨⟨l6,l,by rw[ο _ _ l1];exact K⟩,⟨_,a08,λn2 a11=>?_⟩,F.tt,F.tu⟩;simp only[Y];by_cases l0:n2=c
    .subst l0;rw[if_pos rfl];exact⟨Q,I,uH⟩
    .rw[if_neg l0];rw[show(R.agg (c.map av))=dJ c from rfl,r4 (λx=>l0 (E5 x))];exact k2 n2 a11
   have k9:Ext h d z (S.set d O):=λo l P N k7=>by
    rw[ο _ _ N];exact p.sub _ _ (l4 o l P N k7)
   exact⟨_,ι,l7 _ k8 k9⟩
def yz:ab (n++b5)=ab n++ab b5:=by simp[ab]
def gN{v:Int}(a:n[e]?=γ v):cU 1 (.J (ab n) a7) (.v (.int .i64 (e:Int)))=γ (.c4 [.v (.int .i64 v)]):=by
 have b:(0)<=(e:Int):=ε;have c:(ab n)[e]?=γ (.v (.int .i64 v)):=by simp[ab,a]
 simp only[cU,b,if_true,a8a,c];rw[pO (e:=1) rfl];rfl
def oW{v:Int}:cO κ 1 g (.c4 [.v (.int .i64 v)])=γ (.v (.int .i64 v)):=rfl
theorem a0e:c8 g 1 (.J (ab n) a7)=γ (β n,ab n):=by
 have a:((ab n).all λb=>decide (β b.cells=1))=true:=by simp[ab,τ]
 have c:flat (ab n)=ab n:=by induction n with
  |nil=>rfl
  |cons d n ih=>grind[ab,flat,τ]
 simp[c8,a,c,bn]
theorem yA(a:Ω)(f:Own)(c:U)(p:β a<=1000000000000):
  AC δ 152 [.J (ab a) f] c λh d=>aq c d 1 (ab a) h:=by
 refine oO λr=>?_;have k:f=.nil->a=[]:=λx=>by simp_all [ab]
 refine bh hm QA σ ?_;simp -dsimp -implicitDefEqProofs (disch:=first|omega|assumption|(simp only[bd,Nat.reduceAdd];try omega)) only[go_sem,simprocAttr,-List.reduceReplicate,↓oT];refine oU (λb=>by rw[k b];rfl) (λb=>?_) ?_
 .have o:a=[]:=by simpa[ab] using b
  subst o;refine aa ?_;exact⟨c,ι,aq.nil ι⟩
 .refine an @tb ?_;refine fN (aq.zero (ι)) ε a0e (by rw[bn];omega) (by simp[bn];omega) (by simp[bn];omega) λh d b=>?_;refine aa ?_;exact⟨d,ι,by trivial⟩
variable{s b8:R}
theorem tv(b:aq g w 1 (ab n) s):∃a,g.sub a/\View w s a (.J (ab n) .any):=by grind[View.dq,ki,Λ]
theorem rr(a:Ω)(c:Own)(b:U)(h:β a<=1000000000000):
  AC δ 152 [.J (ab a) c] b λd f=>b.sub f/\d=.J (ab a) .any:=
 (yA a c b h).view λd f k=>by
  obtain⟨o,p,r⟩:=tv k;grind
theorem lV(a c:Ω)(F G:Own)(f:U)(l:β a<=1000000000000):
  AC δ 154 [.J (ab a) F,.J (ab c) G] f λo p=>p=f/\o=.v (.bool (decide (a=c))):=by
 refine bh hm QE σ ?_;have T:=bn (n:=a);have V:=bn (n:=c);by_cases m:β a=β c
 .have r:(β a:Int)=β c:=ε;refine aa ?_;rw[<-r];refine cZ (λd p=>∃b:Nat,b<=β a/\p=f/\d 0=.J (ab a) F/\d 1=.J (ab c) G/\d 12=.v (.int .i64 (β a))/\d 13=.v (.int .i64 b)/\a.take b=c.take b)
   (λd _=>match d 13 with|.v (.int _ W)=>(β a - W).toNat|_=>0) ⟨0,ε,rfl,?_⟩ ?_
  .exact aK
  .rintro d n⟨b,q,rfl,x,y,z,C,e⟩;by_cases D:(b:Int)<β a
   .have h:a[b]?=γ a[b]:=Τ ε;have k:c[b]?=γ c[b]:=Τ ε;have L:a.take (b+1)=a.take b++[a[b]]:=by rw[a8E,h];rfl
    have P:c.take (b+1)=c.take b++[c[b]]:=by rw[a8E,k];rfl
    have S:a[b]'ε≠c[b]'ε->a≠c:=λg i=>g (by simp[i]);generalize a[b]'ε=o at h L S;generalize c[b]'ε=j at k P S;by_cases E:o=j
    .simp -dsimp -implicitDefEqProofs (disch:=first|omega|assumption|(simp only[bd,Nat.reduceAdd];try omega)) only[go_sem,simprocAttr,-List.reduceReplicate,x,y,z,C,D,gN h,gN k,oW,E];exact⟨⟨b+1,ε,σ,by rw[L,P,e,E]⟩,ε⟩
    .simp -dsimp -implicitDefEqProofs (disch:=first|omega|assumption|(simp only[bd,Nat.reduceAdd];try omega)) only[go_sem,simprocAttr,-List.reduceReplicate,x,y,z,C,D,gN h,gN k,oW,E];grind[ι]
   .obtain rfl:b=β a:=ε;refine an (aZ @x @y @z @C @D) ?_;grind[List.take_length,ι]
 .have r:¬(β a:Int)=β c:=ε;refine an (aD @T @V @r) ?_;have:a≠c:=by rintro rfl;omega
  exact⟨f,ι,by simp[this]⟩
abbrev eL(a b:Ω)(c d:Own):R:=.agg [.J (ab a) c,.J (ab b) d]
theorem va(b:Nat)(h:FuncId)(o p:ύ)(d:U)(k:Nat->Bool)(P:b<=1000000000000)(E:gw δ h=ζ)
  (F:∀a:Nat,a<b->AC δ h (o++[.v (.int .i64 (a:Int))]++p) d λr f=>f=d/\r=.v (.bool (k a))):
  AC δ 128 [.v (.int .i64 (b:Int)),.bG h o p] d λr f=>f=d/\r=.v (.bool ((ψ b).all k)):=by
 refine bh hm PT σ ?_;refine aa ?_;refine cZ (λc f=>∃a:Nat,a<=b/\f=d/\(ψ a).all k=ζ/\c 0=.v (.int .i64 (b))/\c 1=.bG h o p/\c 6=.v (.int .i64 (b))/\c 7=.v (.int .i64 (a)))
  (λc _=>match c 7 with|.v (.int _ G)=>b - G.toNat|_=>0) ⟨0,ε,rfl,rfl,?_⟩ ?_
 .exact aK
 rintro c S⟨a,T,rfl,L,x,y,z,C⟩;by_cases D:(a:Int)<b
 .refine aa ?_;refine fa E (F a ε) ?_;rintro _ _⟨rfl,rfl⟩;cases V:k a with
  |true=>refine aa ?_;grind
  |false=>refine an (bt @x @y @z @C @D @a8q) ?_;refine⟨_,ι,rfl,?_⟩;grind
 .obtain rfl:a=b:=ε;simp -dsimp -implicitDefEqProofs (disch:=first|omega|assumption|(simp only[bd,Nat.reduceAdd];try omega)) only[go_sem,simprocAttr,-List.reduceReplicate,x,y,z,C,D];exact⟨_,ι,rfl,by rw[L]⟩
theorem a0f(d:U)(f:Nat)(b c:Ω)(o p:Own)(a:Nat)(r:d.read f=γ [.J (ab b) o,.J (ab c) p])(z:a<β b)(C:a<β c):
  AC δ 129 [.v (.int .i64 (a:Int)),.ptr f 0] d λx y=>y=d/\x=.v (.bool (decide (b.getD a 0<=c.getD a 0))):=by
 refine bh hm PV σ ?_;have h:b[a]?=γ (b.getD a 0):=by simp_all
 have k:c[a]?=γ (c.getD a 0):=by simp_all
 generalize b.getD a 0=D at h;generalize c.getD a 0=E at k;simp -dsimp -implicitDefEqProofs (disch:=first|omega|assumption|(simp only[bd,Nat.reduceAdd];try omega)) only[go_sem,simprocAttr,-List.reduceReplicate,r,gN h,gN k,oW];exact⟨d,ι,rfl⟩
theorem mT(d:U)(b c:Ω)(k o:Own)(a:Nat)(C:a<=1000000000000):
  AC δ 80 [eL b c k o,.v (.int .i64 (a:Int))] d λD E=>E=d/\D=.v (.bool (cV b c a)):=by
 refine bh hm Ov σ ?_;have p:=bn (n:=b);have F:=bn (n:=c);refine aa ?_;refine aR λG f=>?_;unfold cV;by_cases c1:(a:Int)<1
 .have r:¬1<=a:=ε;refine an (c2 @c1 @r) ?_;exact⟨d,ν ι f,by rfl⟩
 have r:1<=a:=ε;by_cases c2:(8:Int)<a
 .have x:¬a<=8:=ε;simp -dsimp -implicitDefEqProofs (disch:=first|omega|assumption|(simp only[bd,Nat.reduceAdd];try omega)) only[go_sem,simprocAttr,-List.reduceReplicate,c1,c2];exact⟨d,ν ι f,by simp[x]⟩
 have x:a<=8:=ε;by_cases aD:(β b:Int)=a
 .have y:β b=a:=ε;by_cases aL:(β c:Int)=a
  .have z:β c=a:=ε;refine aa ?_;refine ak (va a _ _ _ _ (λh=>decide (b.getD h 0<=c.getD h 0)) C abY λh L=>a0f _ G b c k o h ?_ ε ε) ?_
   .simp[U.read,ξ]
   rintro _ _⟨rfl,rfl⟩;refine bU ?_;exact⟨d,ν ι f,rfl,by simp_all⟩
  .have z:¬β c=a:=ε;refine an (bt @c1 @c2 @aD @aL @p @F) ?_;exact⟨d,ν ι f,by simp[z]⟩
 .have y:¬β b=a:=ε;refine an (aL @c1 @c2 @aD @p) ?_;exact⟨d,ν ι f,by simp[y]⟩
def a0g(x:U)(a:Ω)(f:Own)(y:β a<=1000000000000):
  AC δ 151 [.J (ab a) f] x λh G=>x.sub G/\∃L P,h=eL (gM a).1 (gM a).2 L P:=by
 refine bh hm Qy σ ?_;have z:=bn (n:=a);refine aa ?_;refine aR λe k=>?_;unfold gM;have o:∀b c d C:R,putAt [b,c] 0 [d,C]=[d,C]:=λ_ _ _ _=>rfl;have p:∀D,(R.agg D).cells=D:=λ_=>rfl;have r:∀b c,aX ζ 2 [b,c]=.agg [b,c]:=λ_ _=>rfl;by_cases c1:(β a:Int)<1
 .refine an (aZ @c1 @z @o @p @r) ?_;rw[if_neg ε];exact⟨_,ι,ν ι k,.nil,.nil,rfl⟩
 by_cases c2:(8:Int)<β a
 .refine an (bt @c1 @c2 @z @o @p @r) ?_;rw[if_neg ε];exact⟨_,ι,ν ι k,.nil,.nil,rfl⟩
 refine aa ?_;refine ak (rr a f _ y) ?_;rintro _ g⟨E,rfl⟩;refine aa ?_;refine ak (rr a f _ y) ?_;rintro _ i⟨F,rfl⟩;have S:=F _ _ (E _ _ (ξ _ _ _));have T:∀b c d:R,putAt [b,c] 0 [d]=[d,c]:=λ_ _ _=>rfl;have V:∀b c d:R,putAt [b,c] 1 [d]=[b,d]:=λ_ _ _=>rfl;have W:∀h f,(R.J h f).cells=[.J h f]:=λ_ _=>rfl;refine an (cr (ω S) @o @T @V @p @W @r) ?_;rw[if_pos ε];exact⟨_,ι,ν (π (ν ι k) (π E F)) k,.any,.any,rfl⟩
theorem a0h(f:U)(a b c h:Ω)(k o p r:Own)(z:β a<=1000000000000)(C:β b<=1000000000000):
  AC δ 153 [eL a b k o,eL c h p r] f λD E=>E=f/\D=.v (.bool (decide (a=c)&&decide (b=h))):=by
 refine bh hm QC σ ?_;refine aa ?_;refine aR λF P=>?_;refine aa ?_;refine aR λx d=>?_;have G:F≠x:=by rintro rfl;rw[ξ]at d;cases d
 have L:=Θ G;have S:f x=none:=by rw[ο _ _ L]at d;exact d
 refine aa ?_;refine ak (lV a c k p _ z) ?_;rintro _ _⟨rfl,rfl⟩;by_cases y:a=c
 .refine aa ?_;refine ak (lV b h o r _ C) ?_;rintro _ _⟨rfl,rfl⟩;refine an @y ?_;grind[ν,ι]
 .refine an @y ?_;grind[ν,ι]
def q8(b c:U)(d f:Ω)(h k:R):Prop:=∃a,aq b a 1 (ab d) h/\aq a c 1 (ab f) k
def eG(a:aq g w e j s):s.cells=[s]:=by obtain⟨_,⟨_,rfl|rfl⟩|⟨_,_,_,_,rfl,_⟩⟩:=a<;>rfl
def kj{h:bq}(k:aq g w i j s)(b:g e=γ h):aq (g.set e b0) (w.set e b0) i j s:=by
 obtain⟨o,a⟩:=k;refine⟨U.lP o,?_⟩;rcases a with a|⟨c,p,r,x,y,d,z,C⟩
 .exact .inl a
 .have f:c≠e:=by rintro rfl;rw[d]at b;cases b
  exact .inr ⟨c,p,r,x,y,by rw[ο _ _ f];exact d,by rw[ο _ _ f];exact z,C⟩
def vb(r:U)(f h:Ω)(x y:Own)(P:β f<=1000000000000)(S:β h<=1000000000000):
  AC δ 133 [eL f h x y] r λT V=>∃a b,T=.agg [a,b]/\q8 r V f h a b:=by
 refine bh hm Q3 σ ?_;refine bU ?_;refine aR λW C=>?_;refine bU ?_;refine aR λz k=>?_;have d:W≠z:=by rintro rfl;rw[ξ]at k;cases k
 have D:=Θ d;have E:r z=none:=by rw[ο _ _ D]at k;exact k
 have F:∀G,(R.agg G).cells=G:=λ_=>rfl;have q:=ν (b0:=.cells [.J [] .nil,.J [] .nil]) (ν (b0:=.cells [.J (ab f) x,.J (ab h) y]) (ι) C) E;refine an (aL @F @ο @d @D) ?_;refine ak (yA f x _ P) ?_;intro a e o;have L:=o.1 _ _ (by rw[ο _ _ d,ξ]);have c2:=o.1 _ _ (ξ _ _ _);refine an (μ L) ?_;refine ak (yA h y _ S) ?_;intro b s p;have g:=p.1 _ _ L;have i:=p.1 _ _ c2;have j:∀a b c:R,putAt [a,b] 0 [c]=[c,b]:=λ_ _ _=>rfl;have l:∀a b c:R,putAt [a,b] 1 [c]=[a,c]:=λ_ _ _=>rfl;have m:∀a b c d:R,putAt [a,b] 0 [c,d]=[c,d]:=λ_ _ _ _=>rfl;have n:∀a b,aX ζ 2 [a,b]=.agg [a,b]:=λ_ _=>rfl;refine an (dz (μ g) (ω i) (eG o) (eG p) @j @l @m @F @n) ?_;refine⟨_,ι,a,b,rfl,e.set z (.cells [a,b]),?_,kj p c2⟩;have:=kj (b0:=.cells [a,b]) o (ξ _ _ _);rw[υ]at this;exact this.base (ν (ν ι C) E)
def mix(c:Int->Int->Int)(a d:Ω)(b:Nat):Ω:=(Β c a d).take b++a.drop b
def vc{a:Int->Int->Int}(b:β n=β b5)(c:e<=β n):(mix a n b5 e).length=β n:=by simp[mix,b];omega
theorem vd{a:Int->Int->Int}(d:β n=β b5)(f:e<β n)(b:ύ){v:Int}(r:v=a (n.getD e 0) (b5.getD e 0)):
  putAt (ab (mix a n b5 e)++b) e [.v (.int .i64 v)]=ab (mix a n b5 (e+1))++b:=by
 have c:(ab ((Β a n b5).take e)).length=e:=by simp[ab,d];omega
 have h:(Β a n b5)[e]?=γ v:=by simp_all
 have k:=a8g f;have o:ab (mix a n b5 e)++b=ab ((Β a n b5).take e)++(.v (.int .i64 n[e])::(ab (n.drop (e+1))++b)):=by unfold mix;rw[yz,k];simp only[ab,a7O,a7P,a8K]
 have p:ab (mix a n b5 (e+1))++b=ab ((Β a n b5).take e)++(.v (.int .i64 v)::(ab (n.drop (e+1))++b)):=by unfold mix;rw[a8E,h,yz,yz];simp[ab]
 rw[o,p];generalize ab ((Β a n b5).take e)=x at c;subst c;simp[putAt]
theorem a0i(C:U)(a d b f:Ω)(G L V W:Own)(l7:β a<=1000000000000)(a11:β d<=1000000000000)(a13:β b<=1000000000000)(a73:β f<=1000000000000):
  AC δ 150 [eL a d G L,eL b f V W] C λa74 D=>∃k x,a74=.agg [k,x]/\q8 C D (et (a,d) (b,f)).1 (et (a,d) (b,f)).2 k x:=by
 refine bh hm Qw σ ?_;have i:∀a14,(R.agg a14).cells=a14:=λ_=>rfl;have n:∀h o,aX ζ 2 [h,o]=.agg [h,o]:=λ_ _=>rfl;have Z:∀h o P:R,putAt [h,o] 0 [P]=[P,o]:=λ_ _ _=>rfl;have k2:∀h o P:R,putAt [h,o] 1 [P]=[h,P]:=λ_ _ _=>rfl;have M:∀h o P N:R,putAt [h,o] 0 [P,N]=[P,N]:=λ_ _ _ _=>rfl;have q:=bn (n:=a);have u:=bn (n:=b);refine an @i ?_;refine aR λE a81=>?_;refine an @i ?_;refine aR λy k3=>?_;have k4:E≠y:=by rintro rfl;rw[ξ]at k3;cases k3
 have a83:C y=none:=by rw[ο _ _ (Θ k4)]at k3;exact k3
 have b21:=Θ k4;refine an @i ?_;refine aR λp k5=>?_;have a84:y≠p:=by rintro rfl;rw[ξ]at k5;cases k5
 have a86:E≠p:=by rintro rfl;rw[ο _ _ k4,ξ]at k5;cases k5
 have l8:C p=none:=by simp_all [ο,Θ]
 have k6:=ν (b0:=.cells [.J [] .nil,.J [] .nil]) (ν (b0:=.cells [.J (ab b) V,.J (ab f) W]) (ν (b0:=.cells [.J (ab a) G,.J (ab d) L]) (ι) a81) a83) l8;have e:(((C.set E (.cells [.J (ab a) G,.J (ab d) L])).set y (.cells [.J (ab b) V,.J (ab f) W])).set p (.cells [.J [] .nil,.J [] .nil])) E=γ (.cells [.J (ab a) G,.J (ab d) L]):=by rw[ο _ _ a86,ο _ _ k4,ξ]
 have g:(((C.set E (.cells [.J (ab a) G,.J (ab d) L])).set y (.cells [.J (ab b) V,.J (ab f) W])).set p (.cells [.J [] .nil,.J [] .nil])) y=γ (.cells [.J (ab b) V,.J (ab f) W]):=by rw[ο _ _ a84,ξ]
 have aL:(((C.set E (.cells [.J (ab a) G,.J (ab d) L])).set y (.cells [.J (ab b) V,.J (ab f) W])).set p (.cells [.J [] .nil,.J [] .nil])) p=γ (.cells [.J [] .nil,.J [] .nil]):=ξ _ _ _;refine an @i ?_;generalize ((C.set E (.cells [.J (ab a) G,.J (ab d) L])).set y (.cells [.J (ab b) V,.J (ab f) W])).set p (.cells [.J [] .nil,.J [] .nil])=j at*;have s:∀h o:R,List.take 2 [h,o]=[h,o]:=λ_ _=>rfl;refine an (aD @q @u @s) ?_;refine ak (mT j a d G L (β a) l7) ?_;rintro _ j⟨rfl,rfl⟩;refine an (bt @q @u @s (μ e) (μ g) @n) ?_;refine ak (mT j b f V W (β b) a13) ?_;rintro _ j⟨rfl,rfl⟩;have O:∀(w)(k x)(l9 n0),q8 j w l9 n0 k x->q8 C (w.set p (.cells [k,x])) l9 n0 k x:=by
  rintro w k x l9 n0⟨A,z,F⟩;refine⟨A.set p (.cells [k,x]),?_,kj F (z.1 _ _ aL)⟩;refine(kj z aL).base λa15 k7 n2=>?_;have Q:a15≠p:=by rintro rfl;rw[l8]at n2;cases n2
  rw[ο _ _ Q];exact k6 a15 k7 n2
 unfold et;cases a88:cV a d (β a) with
 |true=>
  cases a16:cV b f (β b) with
  |false=>refine an (cr @q @u @s (μ e) (μ g) @n @a8q) ?_;refine ak (vb _ a d G L l7 a11) ?_;rintro _ w⟨k,x,rfl,X⟩;obtain⟨A,z,F⟩:=X;have B:=F.1 _ _ (z.1 _ _ aL);refine an (bt (ω B) @i @Z @k2 @M @n) ?_;exact⟨_,ι,k,x,rfl,O _ _ _ _ _ ⟨A,z,F⟩⟩
  |true=>
   by_cases a18:(β a:Int)=β b
   .have H:β a=β b:=ε;refine an (bl @q @u @s (μ e) (μ g) @n @a8n @a18) ?_;rw[if_pos H];have k8:=a88;have a19:=a16;simp only[cV,Κ,decide_eq_true_eq]at k8 a19;have b22:=k8.1.2;have b23:β f=β a:=by rw[H];omega
    have b24:=k8.1.1.1.1;clear k8 a19;refine ak (vb _ a d G L l7 a11) ?_;rintro _ w⟨k,x,rfl,A,z,F⟩;have kS:=F.1 _ _ (z.1 _ _ e);have a27:=F.1 _ _ (z.1 _ _ g);have B:=F.1 _ _ (z.1 _ _ aL);obtain⟨I,⟨k9,_⟩|⟨S,a89,n3,a29,rfl,l0,a30,a90,n4,l1,a34,c3⟩⟩:=z
    .exfalso;grind
    obtain⟨n5,⟨k9,_⟩|⟨r,a92,n9,a36,rfl,l,a38,a94,a00,l2,a42,bS⟩⟩:=F
    .exfalso;have:=congrArg β k9;rw[bn,a7E]at this;omega
    have a95:a89=β a:=by rw[q]at l1;omega
    have Y:a92=β a:=by rw[bn]at l2;omega
    subst a95;subst Y;have a01:S≠r:=by rintro rfl;rw[a30]at l;cases l
    have a43:=n5 _ _ a30;simp only[a8m]at a90 a94 n4 a00 a34 a42;obtain⟨a02,rfl⟩:∃a03,a29=ab a++a03:=⟨a29.drop (β a),by rw[<-n4,a8d]⟩;obtain⟨a04,rfl⟩:∃a03,a36=ab d++a03:=⟨a36.drop (β a),by rw[<-a00,a8d]⟩;have a47:S≠p:=by rintro rfl;rw[l0]at aL;cases aL
    have a96:S≠E:=by rintro rfl;rw[l0]at e;cases e
    have a97:S≠y:=by rintro rfl;rw[l0]at g;cases g
    have a48:r≠p:=by rintro rfl;rw[I _ _ aL]at l;cases l
    have a98:r≠E:=by rintro rfl;rw[I _ _ e]at l;cases l
    have a99:r≠y:=by rintro rfl;rw[I _ _ g]at l;cases l
    have b00:=Ν k6 l0;have b01:=Ν (π k6 I) l;have a52:=π k6 (π I n5);clear n4 a00 I n5 l1 l2 O;refine bU ?_;refine aR λv T=>?_;have a56:v≠p:=by rintro rfl;rw[B]at T;cases T
    have a57:v≠E:=by rintro rfl;rw[kS]at T;cases T
    have a61:v≠y:=by rintro rfl;rw[a27]at T;cases T
    have l3:v≠S:=by rintro rfl;rw[a43]at T;cases T
    have l4:v≠r:=by rintro rfl;rw[a38]at T;cases T
    have b02:=Ν a52 T;have b25:∀h o P N:Nat,(R.ar h o P N).cells=[.ar h o P N]:=λ_ _ _ _=>rfl;refine an (c2 @i @M) ?_;refine cZ (λm D=>∃c:Nat,c<=β a/\C.sub D/\D E=γ (.cells [.J (ab a) G,.J (ab d) L])/\D y=γ (.cells [.J (ab b) V,.J (ab f) W])/\D p=γ (.cells [.J [] .nil,.J [] .nil])/\
      D v=γ (.cells [.ar S (β a) n3 1,.ar r (β a) n9 1])/\D S=γ (.cells (ab (mix min a b c)++a02))/\D r=γ (.cells (ab (mix max d f c)++a04))/\
      m 2=.ptr E 0/\m 3=.ptr y 0/\m 4=.ptr p 0/\m 7=.ptr v 0/\m 52=.v (.int .i64 (β a))/\m 53=.v (.int .i64 c))
     (λm _=>match m 53 with|.v (.int _ X)=>β a - X.toNat|_=>0) ⟨0,ε,?_⟩ ?_
    .have a62:∀(a63)(h o),mix a63 h o 0=h:=λa63 h o=>by rfl
     rw[a62,a62];refine an (oQ @ο @a57 @a61 @a56 @l3 @l4 (Θ a57) (Θ a61) (Θ a56) (Θ l3) (Θ l4) @kS @a27 @B @a43 @a38 @ξ) ?_;exact ν a52 b02
    rintro m D⟨c,b26,b03,c2,aD,aL,cr,l5,l6,Y,a05,a06,a07,a08,a09⟩;by_cases a10:(c:Int)<β a
    .have b04:c<β a:=ε;have a65:a[c]?=γ (a.getD c 0):=by simp_all
     have a68:b[c]?=γ (b.getD c 0):=by simp_all
     have a69:d[c]?=γ (d.getD c 0):=by simp_all
     have a71:f[c]?=γ (f.getD c 0):=by simp_all
     have b05:=vd H b04 a02 (v:=min (a.getD c 0) (b.getD c 0)) rfl;have b06:=vd ε ε a04 (v:=max (d.getD c 0) (f.getD c 0)) rfl;generalize a.getD c 0=b27 at*;generalize b.getD c 0=b28 at*;generalize d.getD c 0=a3 at*;generalize f.getD c 0=a4 at*;simp -dsimp -implicitDefEqProofs (disch:=first|omega|assumption|(simp only[bd,Nat.reduceAdd];try omega)) only[go_sem,simprocAttr,-List.reduceReplicate,Y,a05,a06,a07,a08,a09,a10,μ c2,μ aD,μ cr,ω l5,ω l6,gN a65,gN a68,gN a69,gN a71,oW];have b07:c+1<=(ab (mix min a b c)++a02).length:=by rw[Ρ,bn,vc H ε];omega
     have b08:c+1<=(ab (mix max d f c)++a04).length:=by rw[Ρ,bn,vc ε ε];omega
     have b09:=Θ a96;have b10:=Θ a97;have b11:=Θ a01;have b12:=Θ a47;have b13:=Θ a98;have b14:=Θ a99;have b15:=Θ a48;have b16:=Θ l3;have b17:=Θ l4;simp -dsimp -implicitDefEqProofs (disch:=first|omega|assumption|(simp only[bd,Nat.reduceAdd];try omega)) only[go_sem,simprocAttr,-List.reduceReplicate,Y,a05,a06,a07,a08,a09,a10,μ c2,μ aD,μ cr,ω l5,ω l6,gN a65,gN a68,gN a69,gN a71,oW,b07,b08,b05,b06,ο,ξ,a01,b11,b09,b10,b12,b13,b14,b15,b16,b17,l3,l4,c2,aD,aL,cr];grind[ν]
    .obtain rfl:c=β a:=ε;refine an (cw @Y @a05 @a06 @a07 @a08 @a09 @a10 (μ cr) (ω aL) @s) ?_;have l1:mix min a b (β a)=Β min a b:=by unfold mix;grind
     have l2:mix max d f (β a)=Β max d f:=by unfold mix;grind
     rw[l1]at l5;rw[l2]at l6;have b29:(ab (Β min a b)).length=β a:=by rw[bn,aa9];omega
     have b30:(ab (Β max d f)).length=β a:=by rw[bn,aa9];omega
     have b18:∀K:U,K S=D S->K r=D r->C.sub K->q8 C K (Β min a b) (Β max d f) (.ar S (β a) n3 1) (.ar r (β a) n9 1):=by
      intro K k9 b19 b20;refine⟨K.del r,⟨λk k7 t=>?_,.inr ⟨S,β a,n3,_,rfl,b00,by rw[U.eX _ a01,k9];exact l5,?_,?_,?_,a34,c3⟩⟩,⟨λk k7 t=>?_,.inr ⟨r,β a,n9,_,rfl,U.iI _ _,by rw[b19];exact l6,?_,?_,?_,a42,bS⟩⟩⟩
      .have Q:k≠r:=by rintro rfl;rw[b01]at t;cases t
       rw[U.eX _ Q];exact b20 k k7 t
      simp_all;simp_all
      .omega
      .have Q:k≠r:=by rintro rfl;rw[U.iI]at t;cases t
       rw[U.eX _ Q]at t;exact t
      grind[Ζ,bn];simp_all
      .omega
     exact⟨_,ι,_,_,rfl,b18 _ (ο _ _ a47) (ο _ _ a48) (ν b03 l8)⟩
   .have H:¬β a=β b:=ε;refine an (jw @q @u @s (μ e) (μ g) (ω aL) @n @a8n @a18 @i @Z @k2 @M) ?_;rw[if_neg H];exact⟨_,ι,_,_,rfl,O j _ _ _ _ ⟨j,aq.nil ι,aq.nil ι⟩⟩
 |false=>
  cases a16:cV b f (β b) with
  |false=>refine an (ha @q @u @s (μ e) (μ g) (ω aL) @n @a8q @i @Z @k2 @M) ?_;exact⟨_,ι,_,_,rfl,O j _ _ _ _ ⟨j,aq.nil ι,aq.nil ι⟩⟩
  |true=>refine an (cr @q @u @s (μ e) (μ g) @n @a8q) ?_;refine ak (vb _ b f V W a13 a73) ?_;rintro _ w⟨k,x,rfl,X⟩;obtain⟨A,z,F⟩:=X;have B:=F.1 _ _ (z.1 _ _ aL);refine an (bt (ω B) @i @Z @k2 @M @n) ?_;exact⟨_,ι,k,x,rfl,O _ _ _ _ _ ⟨A,z,F⟩⟩
def Et(f:U)(a b c d:Ω)(h k o p:Own)(y:β a<=1000000000000)(z:β b<=1000000000000)(C:β c<=1000000000000)(D:β d<=1000000000000):
  AC δ 150 [eL a b h k,eL c d o p] f λr x=>f.sub x/\r=eL (et (a,b) (c,d)).1 (et (a,b) (c,d)).2 .any .any:=
 (a0i f a b c d h k o p y z C D).view λr x E=>by
  obtain⟨F,g,rfl,i,G,L⟩:=E;obtain⟨j,P,S⟩:=tv L;have T:=G.mono P;obtain⟨V,W,e⟩:=tv T;exact⟨_,V,(View.agg (a:=[F]) rfl S).trans (View.agg (a:=[]) rfl e),W,rfl⟩
theorem ru(b c:Ω×Ω)(a:Nat)(d:β b.1<=a)(f:β b.2<=a)(h:β c.1<=a)(k:β c.2<=a):(et b c).1.length<=a/\(et b c).2.length<=a:=by grind[et]
def aw{a:Type}(b:a->R->Prop):List a->ύ->Prop
 |[],[]=>True
 |c::xs,d::f=>b c d/\aw b xs f
 |_,_=>False
def aw.len{b:Type}{f:b->R->Prop}:∀ {c:List b}{d:ύ},aw f c d->β d=β c
 |[],[],_=>rfl
 |_:: _,_:: _,a=>by rw[a7I,a7I,a.2.len]
 |[],_:: _,a=>a.elim
 |_:: _,[],a=>a.elim
def aw.get{h:Type}{k:h->R->Prop}:∀ {d:List h}{f:ύ}{i:Nat}{x:h},aw k d f->d[i]?=γ x->∃b,f[i]?=γ b/\k x b
 |[],_,_,_,_,a=>by simp at a
 |x::d,b::f,0,o,a,c=>by simp only[aad,a7G]at c|-;subst c;exact⟨b,rfl,a.1⟩
 |x::d,b::f,i+1,o,a,c=>by simp only[aaD]at c|-;exact a.2.get c
 |_:: _,[],_,_,a,_=>a.elim
def aw.append{c:Type}{b:c->R->Prop}:∀ {d f:List c}{h k:ύ},aw b d h->aw b f k->aw b (d++f) (h++k)
 |[],_,[],_,_,a=>a
 |_:: _,_,_:: _,_,a,o=>⟨a.1,a.2.append o⟩
 |[],_,_:: _,_,a,_=>a.elim
 |_:: _,_,[],_,a,_=>a.elim
variable{K:Type}
def aw.snoc{a:K->R->Prop}{b:List K}{c:K}(d:aw a b j)(f:a c s):aw a (b++[c]) (j++[s]):=d.append ⟨f,trivial⟩
def aw.take{c:Type}{d:c->R->Prop}:∀ {f:List c}{h:ύ} (b:Nat),aw d f h->aw d (f.take b) (h.take b)
 |[],[],b,_=>by simp[aw]
 |_:: _,_:: _,0,_=>by simp[aw]
 |_:: _,_:: _,b+1,a=>⟨a.1,a.2.take b⟩
 |[],_:: _,_,a=>a.elim
 |_:: _,[],_,a=>a.elim
def aw.drop{c:Type}{d:c->R->Prop}:∀ {f:List c}{h:ύ} (b:Nat),aw d f h->aw d (f.drop b) (h.drop b)
 |[],[],b,_=>by simp[aw]
 |_:: _,_:: _,0,a=>a
 |_:: _,_:: _,b+1,a=>a.2.drop b
 |[],_:: _,_,a=>a.elim
 |_:: _,[],_,a=>a.elim
def aw.mono{b:Type}{c d:b->R->Prop}(f:∀h k,c h k->d h k):∀ {o:List b}{p:ύ},aw c o p->aw d o p
 |[],[],a=>a
 |_:: _,_:: _,a=>⟨f _ _ a.1,a.2.mono f⟩
 |[],_:: _,a=>a.elim
 |_:: _,[],a=>a.elim
theorem aw.cells{b:Type}{c:b->R->Prop}{d:Nat}(f:∀o h,c o h->β h.cells=d):∀ {p:List b}{k:ύ},aw c p k->ba d k
 |[],[],_=>by simp[ba]
 |_:: _,_:: _,a=>by rw[De];exact⟨f _ _ a.1,a.2.cells f⟩
 |[],_:: _,a=>a.elim
 |_:: _,[],a=>a.elim
def isRow(a:Ω)(b:R):Prop:=∃c,b=.J (ab a) c
def dR(a:Ω×Bool)(b:R):Prop:=∃c,b=.agg [.J (ab a.1) c,.v (.bool a.2)]
def ag(a:aj)(b c d:Own):ύ:=a.sum.map av++[.J (ab a.az) b,.J (ab a.aE) c,.v (.int .i64 a.live),.v (.int .i64 a.size),.J (ab a.key) d]
structure rv(k:aj)(ff dK b:Own)(a:ύ):Prop where
 len:β a=37
 t37:a.take 37=a
 t32:a.take 32=k.sum.map av
 d32:a.drop 32=[.J (ab k.az) ff,.J (ab k.aE) dK,.v (.int .i64 k.live),.v (.int .i64 k.size),.J (ab k.key) b]
 d33:a.drop 33=[.J (ab k.aE) dK,.v (.int .i64 k.live),.v (.int .i64 k.size),.J (ab k.key) b]
 d34:a.drop 34=[.v (.int .i64 k.live),.v (.int .i64 k.size),.J (ab k.key) b]
 d35:a.drop 35=[.v (.int .i64 k.size),.J (ab k.key) b]
 d36:a.drop 36=[.J (ab k.key) b]
variable{A j6:aj}
theorem aV(b:β A.sum=32):rv A a7 h5 j1 (ag A a7 h5 j1):=by
 have d:(A.sum.map av).length=32:=by simp[b]
 have a:∀c,(ag A a7 h5 j1).drop (32+c)=[R.J (ab A.az) a7,.J (ab A.aE) h5,.v (.int .i64 A.live),.v (.int .i64 A.size),.J (ab A.key) j1].drop c:=λc=>by
  unfold ag;rw[a9m,a8k ε,d];simp
 exact⟨by simp[ag,b],a7x (by simp[ag,b]),by unfold ag;simp_all,a 0,a 1,a 2,a 3,a 4⟩
theorem rv.all(a:rv A a7 h5 j1 j):β j=37/\j.take 37=j/\j.take 32=A.sum.map av/\(j.drop 32).take 2=[.J (ab A.az) a7,.J (ab A.aE) h5]/\
  aX κ 1 (j.drop 32)=.J (ab A.az) a7/\aX κ 1 (j.drop 33)=.J (ab A.aE) h5/\aX κ 1 (j.drop 34)=.v (.int .i64 A.live)/\aX κ 1 (j.drop 35)=.v (.int .i64 A.size)/\aX κ 1 (j.drop 36)=.J (ab A.key) j1:=
 ⟨a.len,a.t37,a.t32,by rw[a.d32];rfl,by rw[a.d32];rfl,by rw[a.d33];rfl,by rw[a.d34];rfl,by rw[a.d35];rfl,by rw[a.d36];rfl⟩
structure aj.cL(k:aj):Prop where
 az:β k.az<=1000000000000
 aE:β k.aE<=1000000000000
 key:β k.key<=1000000000000
def q9:aG.cL:=⟨by simp[aG],by simp[aG],by simp[aG]⟩
def bA(a:aj)(b:R):Prop:=β a.sum=32/\a.cL/\∃c d f,b=.agg (ag a c d f)
theorem dR.cells{b:Ω×Bool}{a:R}(c:dR b a):β a.cells=2:=by obtain⟨d,rfl⟩:=c;rfl
theorem bA.cells{b:aj}{a:R}(c:bA b a):β a.cells=37:=by obtain⟨d,_,f,h,k,rfl⟩:=c;exact(aV d).len
theorem isRow.cells{b:Ω}{a:R}(c:isRow b a):β a.cells=1:=by obtain⟨d,rfl⟩:=c;rfl
structure nY(c:U)(p:R)(cells:ύ):Prop where
 ld:∀(a:U),c.sub a->∀agg n,0<n->n<=β cells->cO agg n a p=γ (aX agg n cells)
 lH:∀(a:U),c.sub a->∀b agg n,0<n->b+n<=β cells->∃d,sR b p=γ d/\cO agg n a d=γ (aX agg n (cells.drop b))
structure bL(b:U)(k:Nat)(x:R)(a:ύ):Prop where
 one:x.cells=[x]
 len:gX x=γ (.v (.int .i64 (β a)))
 get:∀(i:Nat) e,a[i]?=γ e->∃p,cU k x (.v (.int .i64 (i:Int)))=γ p/\nY b p e.cells
def nY.mono(c:nY g s j)(d:g.sub w):nY w s j:=⟨λa b=>c.ld a (π d b),λa b=>c.lH a (π d b)⟩
def bL.mono{b c:U}{d:Nat}{f:R}{h:ύ}(a:bL b d f h)(k:b.sub c):bL c d f h:=⟨a.one,a.len,λo p r=>by
 obtain⟨x,y,z⟩:=a.get o p r;exact⟨x,y,z.mono k⟩⟩
theorem bL.J{s:U}{c:Nat}{a:ύ}{o:Own}(k:ba c a):bL s c (.J a o) a:=⟨rfl,rfl,λp b d=>by
 have r:(0)<=(p:Int):=ε;refine⟨.c4 b.cells,?_,⟨λx _ y f _ h=>by simp[cO,h],λx _ z y f _ h=>⟨_,rfl,?_⟩⟩⟩
 .simp only[cU,r,if_true,a8a,d];exact pO (k b (a7C d))
 .have:f<=(b.cells.drop z).length:=by rw[a7F];omega
  simp only[cO];rw[if_pos this]⟩
theorem Eu(a:ba e j)(c:j[i]?=γ s):((flat j).drop (i*e)).take e=s.cells:=by obtain⟨b,rfl⟩:=a7B.1 c;rw[(gx i a).1,a8g b];have d:=a _ (a8b b);simp only[flat,a7R];simp_all
theorem bL.ar{E:U}{o n cap k:Nat}{c h:ύ}(r:ba k h)(F:E o=γ (.cells c))(G:β h=n)(P:c.take (n*k)=flat h):bL E k (.ar o n cap k) h:=by
 refine⟨rfl,by rw[G];rfl,λd p x=>?_⟩;obtain⟨W,_⟩:=a7B.1 x;have e:(flat h).length=n*k:=by rw[dg r,G]
 have g:n*k<=β c:=by grind
 have S:(d+1)*k<=n*k:=a7N _ ε;rw[a8D,aax]at S;have i:=r p (a7C x);have L:∀a b,a+b<=k->((c.drop (d*k+a)).take b)=(p.cells.drop a).take b:=by intro a b hm;rw[<-Eu r x,<-P];grind[List.drop_take,Nat.min_eq_left,List.drop_drop]
 have T:∀f a b,a+b<=k->0<b->aX f b (c.drop (d*k+a))=aX f b (p.cells.drop a):=by
  intro f a b hm y;cases f with
  |true=>simp only[aX,if_true];rw[L a b hm]
  |false=>
   have j:=L a 1 ε;simp only[aX,a8x,if_false];cases bQ:c.drop (d*k+a)with
   |nil=>simp_all
   |cons l m=>
    cases bW:p.cells.drop a with
    |nil=>simp_all
    |cons q s=>grind
 refine⟨.ptr o (d*k),?_,⟨λV z f b y hm=>?_,λV z a f b y hm=>⟨.ptr o (d*k+a),rfl,?_⟩⟩⟩;grind[iL,Int.toNat_natCast]
 .have C:=μ (z _ _ F);have D:d*k+b<=β c:=ε;simp only[cO,C,if_pos D];have:=T f 0 b ε y;simp_all
 .have C:=μ (z _ _ F);have D:d*k+a+b<=β c:=ε;simp only[cO,C,if_pos D];grind
theorem bL.dq(a:aq w g e B s)(d:0<e)(b:B=flat j)(c:ba e j):bL g e s j:=by subst b;have f:=dg c;obtain⟨h,⟨k,rfl|rfl⟩|⟨o,p,r,x,rfl,y,z,C,D,E,F,G⟩⟩:=a;grind[List.eq_nil_of_length_eq_zero,List.length_nil,Nat.mul_eq_zero,bL.J];grind[List.eq_nil_of_length_eq_zero,List.length_nil,Nat.mul_eq_zero,bL.J];grind[bL.ar,Nat.eq_of_mul_eq_mul_right]
def hA(f:K->R->Prop)(h:U)(b:FuncId)(k o:ύ)(p:K->Bool):Prop:=
 gw δ b=ζ/\∀c d (a:U),f c d->h.sub a->AC δ b (k++[d]++o) a λr x=>x=a/\r=.v (.bool (p c))
variable{b9:FuncId}
theorem a0j(a:List (Ω×Bool))(G:ύ)(x:R)(d:U)(L:aw dR a G)(P:bL d 2 x G)(w:β a<=1000000000000){f:(Ω×Bool)->Bool}(S:hA dR d b9 j B f):
  AC δ 293 [x,.bG b9 j B] d λe y=>y=d/\∃T:Int,e=.v (.int .i64 T)/\decide (0<=T)=a.any f:=by
 refine bh hm U3 σ ?_;have g:=L.len;have z:=P.len;rw[g]at z;refine an @z ?_;refine cZ (λc y=>∃b:Nat,b<=β a/\y=d/\c 0=x/\c 1=.bG b9 j B/\c 7=.v (.int .i64 (β a))/\c 8=.v (.int .i64 b)/\(a.take b).any f=κ)
  (λc _=>match c 8 with|.v (.int _ i)=>β a - i.toNat|_=>0) ⟨0,ε,rfl,?_⟩ ?_
 .refine an @z ?_;simp
 rintro c C⟨b,A,rfl,h,k,o,p,V⟩;by_cases r:(b)<(β a:Int)
 .have D:a[b]?=γ a[b]:=Τ ε;have l:a.take (b+1)=a.take b++[a[b]]:=by rw[a8E,D];rfl
  have m:a[b]'ε∈a:=a8b _;generalize a[b]'ε=W at D l m;obtain⟨E,n,F⟩:=L.get D;obtain⟨q,s,t⟩:=P.get b E n;have u:cO ζ 2 C q=γ E:=by have v:=t.ld C ι ζ 2 ε (by rw[dR.cells F];omega);rw[v];obtain⟨H,rfl⟩:=F;rfl
  refine an (cr @h @k @o @p @r @s @u) ?_;refine fa S.1 (S.2 W E _ F ι) ?_;rintro _ C⟨rfl,rfl⟩;cases I:f W with
  |true=>refine an (aZ @h @k @o @p @r) ?_;refine⟨_,ι,rfl,_,rfl,?_⟩;grind
  |false=>refine an (aZ @h @k @o @p @r) ?_;grind
 .obtain rfl:b=β a:=ε;refine an (aZ @h @k @o @p @r) ?_;rw[a8c]at V;exact⟨_,ι,rfl,_,rfl,by rw[V];simp⟩
def a0k(b:List (Ω×Bool))(c:ύ)(d:R)(a:U)(h:aw dR b c)(k:bL a 2 d c)(o:β b<=1000000000000){f:(Ω×Bool)->Bool}(p:hA dR a b9 j B f):
  AC δ 267 [d,.bG b9 j B] a λr x=>x=a/\r=.v (.bool (b.any f)):=by
 refine bh hm Tn σ ?_;refine bU ?_;refine ak (a0j b c d a h k o p) ?_;rintro _ z⟨rfl,C,rfl,y⟩;refine bU ?_;exact⟨_,ι,rfl,by rw[y]⟩
theorem Ev(f:List (Ω×Bool))(o:ύ)(p:R)(b:U)(L:aw dR f o)(P:bL b 2 p o)(S:β f<=1000000000000){r:(Ω×Bool)->Bool}(y:hA dR b b9 j B r):
  AC δ 218 [p,.bG b9 j B] b λT c=>c=b/\T=.v (.bool (f.all r)):=by
 refine bh hm Sa σ ?_;refine bU ?_;refine aR λd V=>?_;have z:=ν (b0:=.cells [.bG b9 j B]) (ι) V;have aD:(b.set d (.cells [.bG b9 j B])) d=γ (.cells [.bG b9 j B]):=ξ _ _ _;have W:(R.bG b9 j B).cells=[.bG b9 j B]:=rfl;refine an @W ?_;generalize b.set d (.cells [.bG b9 j B])=C at*;refine ak (a0k f o p C L (P.mono z) S (b9:=268) (j:=[]) (B:=[.ptr d 0]) (f:=λx=> !r x) ⟨Φ,λx a c h D=>?_⟩) ?_
 .change AC δ _ [a,.ptr d 0] c _;refine bh hm Tp σ ?_;have e:=D _ _ aD;refine an (dR.cells h) ?_;refine aR λk g=>?_;have E:=ν (b0:=.cells a.cells) (ι) g;have c2:(c.set k (.cells a.cells)) k=γ (.cells a.cells):=ξ _ _ _;have aL:=E _ _ e;have F:aX ζ 2 (a.cells.drop 0)=a:=by obtain⟨n,rfl⟩:=h;rfl
  have i:aX ζ 2 a.cells=a:=F;have G:=dR.cells h;refine an @G ?_;have l:=y.2 x a (c.set k (.cells a.cells)) h (π z (π D E));generalize c.set k (.cells a.cells)=m at*;refine an (aZ (μ aL) (μ c2) @G @F @i) ?_;refine fa y.1 l ?_;rintro _ m⟨rfl,rfl⟩;refine bU ?_;simp_all
 rintro _ C⟨rfl,rfl⟩;refine bU ?_;grind
theorem a0l(a:List aj)(G:ύ)(x:R)(d:U)(L:aw bA a G)(P:bL d 37 x G)(A:β a<=1000000000000){f:aj->Bool}(S:hA bA d b9 j B f):
  AC δ 294 [x,.bG b9 j B] d λe y=>y=d/\∃T:Int,e=.v (.int .i64 T)/\decide (0<=T)=a.any f:=by
 refine bh hm U5 σ ?_;have g:=L.len;have z:=P.len;rw[g]at z;refine an @z ?_;refine cZ (λc y=>∃b:Nat,b<=β a/\y=d/\c 0=x/\c 1=.bG b9 j B/\c 7=.v (.int .i64 (β a))/\c 8=.v (.int .i64 b)/\(a.take b).any f=κ)
  (λc _=>match c 8 with|.v (.int _ i)=>β a - i.toNat|_=>0) ⟨0,ε,rfl,?_⟩ ?_
 .refine an @z ?_;simp
 rintro c C⟨b,H,rfl,h,k,o,p,V⟩;by_cases r:(b)<(β a:Int)
 .have D:a[b]?=γ a[b]:=Τ ε;have l:a.take (b+1)=a.take b++[a[b]]:=by rw[a8E,D];rfl
  have m:a[b]'ε∈a:=a8b _;generalize a[b]'ε=W at D l m;obtain⟨E,n,F⟩:=L.get D;obtain⟨q,s,t⟩:=P.get b E n;have u:cO ζ 37 C q=γ E:=by have v:=t.ld C ι ζ 37 ε (by rw[bA.cells F];omega);rw[v];obtain⟨w,_,I,K,M,rfl⟩:=F;simp[τ,aX,(aV w).t37]
  refine an (cr @h @k @o @p @r @s @u) ?_;refine fa S.1 (S.2 W E _ F ι) ?_;rintro _ C⟨rfl,rfl⟩;cases N:f W with
  |true=>refine an (aZ @h @k @o @p @r) ?_;refine⟨_,ι,rfl,_,rfl,?_⟩;grind
  |false=>refine an (aZ @h @k @o @p @r) ?_;grind
 .obtain rfl:b=β a:=ε;refine an (aZ @h @k @o @p @r) ?_;rw[a8c]at V;exact⟨_,ι,rfl,_,rfl,by rw[V];simp⟩
def a0m(b:List aj)(c:ύ)(d:R)(a:U)(h:aw bA b c)(k:bL a 37 d c)(o:β b<=1000000000000){f:aj->Bool}(p:hA bA a b9 j B f):
  AC δ 269 [d,.bG b9 j B] a λr x=>x=a/\r=.v (.bool (b.any f)):=by
 refine bh hm Tr σ ?_;refine bU ?_;refine ak (a0l b c d a h k o p) ?_;rintro _ z⟨rfl,C,rfl,y⟩;refine bU ?_;exact⟨_,ι,rfl,by rw[y]⟩
theorem yB(f:List aj)(p:ύ)(r:R)(b:U)(L:aw bA f p)(P:bL b 37 r p)(S:β f<=1000000000000){x:aj->Bool}(y:hA bA b b9 j B x):
  AC δ 220 [r,.bG b9 j B] b λT c=>c=b/\T=.v (.bool (f.all x)):=by
 refine bh hm Se σ ?_;refine bU ?_;refine aR λd V=>?_;have z:=ν (b0:=.cells [.bG b9 j B]) (ι) V;have aD:(b.set d (.cells [.bG b9 j B])) d=γ (.cells [.bG b9 j B]):=ξ _ _ _;have W:(R.bG b9 j B).cells=[.bG b9 j B]:=rfl;refine an @W ?_;generalize b.set d (.cells [.bG b9 j B])=C at*;refine ak (a0m f p r C L (P.mono z) S (b9:=270) (j:=[]) (B:=[.ptr d 0]) (f:=λh=> !x h) ⟨Φ,λh a c k D=>?_⟩) ?_
 .change AC δ _ [a,.ptr d 0] c _;refine bh hm Tt σ ?_;have e:=D _ _ aD;refine an (bA.cells k) ?_;refine aR λo g=>?_;have E:=ν (b0:=.cells a.cells) (ι) g;have c2:(c.set o (.cells a.cells)) o=γ (.cells a.cells):=ξ _ _ _;have aL:=E _ _ e;have F:aX ζ 37 (a.cells.drop 0)=a:=by obtain⟨i,_,l,m,n,rfl⟩:=k;show aX ζ 37 (ag h l m n)= _;rw[aX,if_pos rfl,(aV i).t37]
  have q:aX ζ 37 a.cells=a:=F;have G:=bA.cells k;refine an @G ?_;have s:=y.2 h a (c.set o (.cells a.cells)) k (π z (π D E));generalize c.set o (.cells a.cells)=t at*;refine an (aZ (μ aL) (μ c2) @G @F @q) ?_;refine fa y.1 s ?_;rintro _ t⟨rfl,rfl⟩;refine bU ?_;simp_all
 rintro _ C⟨rfl,rfl⟩;refine bU ?_;grind
theorem a0n(a b:aj):(decide (a=b))=(decide (a.sum=b.sum)&&decide (a.live=b.live)&&decide (a.size=b.size)&&(decide (a.az=b.az)&&decide (a.aE=b.aE))&&decide (a.key=b.key)):=by obtain⟨c,d,f,h,k,o⟩:=a;obtain⟨p,r,x,y,z,C⟩:=b;grind
def ve{b:ϊ}:peq (.agg (O.map av)) (.agg (b.map av))=decide (O=b):=by rw[<-Bool.coe_iff_coe,so,decide_eq_true_eq];exact⟨λa=>E5 a,λa=>by rw[a]⟩
theorem Ew(a b:aj)(f h k o p r:Own)(W:U)(g:β a.sum=32)(i:β b.sum=32)(c:a.live=b.live->a.cL):
  AC δ 92 [.agg (ag a f h k),.agg (ag b o p r)] W λu v=>v=W/\u=.v (.bool (decide (a=b))):=by
 have j:=aV (a7:=f) (h5:=h) (j1:=k) g;have l:=aV (a7:=o) (h5:=p) (j1:=r) i;rw[a0n];generalize ag a f h k=w at j;generalize ag b o p r=A at l;obtain⟨x,O,a3,a4,_,dQ,y,Q⟩:=j;obtain⟨z,X,C,D,_,E,F,Y⟩:=l;refine bh hm OO σ ?_;have d:∀m,(R.agg m).cells=m:=λ_=>rfl;refine aa ?_;refine aR λB H=>?_;refine aa ?_;refine aR λn G=>?_;have e:B≠n:=by rintro rfl;rw[ξ]at G;cases G
 have I:=Θ e;have K:W n=none:=by rw[ο _ _ I]at G;exact G
 have Z:=ν (b0:=.cells A) (ν (b0:=.cells w) (ι) H) K;have L:dO [(32,.int .u8)] (a.sum.map av):=tr g;have P:dO [(32,.int .u8)] (b.sum.map av):=tr i;have S:∀q s M e N:R,List.take 2 [q,s,M,e,N]=[q,s]:=λ_ _ _ _ _=>rfl;by_cases T:a.sum=b.sum
 .by_cases V:a.live=b.live
  .by_cases t:a.size=b.size
   .have c:=c V;simp -dsimp -implicitDefEqProofs (disch:=first|omega|assumption|(simp only[bd,Nat.reduceAdd];try omega)) only[go_sem,simprocAttr,-List.reduceReplicate,d,a3,C,L,P,ve,T,V,t,x,z,dQ,E,y,F,a4,D,S,aam];refine ak (a0h _ a.az a.aE b.az b.aE f h o p c.az c.aE) ?_;rintro _ _⟨rfl,rfl⟩;cases k2:(decide (a.az=b.az)&&decide (a.aE=b.aE))with
    |true=>refine aa ?_;refine ak (lV a.key b.key k r _ c.key) ?_;rintro _ _⟨rfl,rfl⟩;refine bU ?_;simp_all
    |false=>refine an @d ?_;simp_all
   .simp -dsimp -implicitDefEqProofs (disch:=first|omega|assumption|(simp only[bd,Nat.reduceAdd];try omega)) only[go_sem,simprocAttr,-List.reduceReplicate,d,a3,C,L,P,ve,T,V,t,x,z,dQ,E,y,F,a4,D,S,aam];simp_all
  .simp -dsimp -implicitDefEqProofs (disch:=first|omega|assumption|(simp only[bd,Nat.reduceAdd];try omega)) only[go_sem,simprocAttr,-List.reduceReplicate,d,a3,C,L,P,ve,T,V,x,z,dQ,E,y,F,a4,D,S,aam];simp_all
 .simp -dsimp -implicitDefEqProofs (disch:=first|omega|assumption|(simp only[bd,Nat.reduceAdd];try omega)) only[go_sem,simprocAttr,-List.reduceReplicate,d,a3,C,L,P,ve,T,x,z,dQ,E,y,F,a4,D,S,aam];simp_all
def nZ(a:aj)(c d f:Own)(h:U)(k:β a.sum=32)(r:a.live=0->a.cL):
  AC δ 109 [.agg (ag a c d f)] h λx y=>y=h/\x=.v (.bool (decide (a=aG))):=by
 have b:=aV (a7:=c) (h5:=d) (j1:=f) k;refine bh hm Pj σ ?_;have o:∀p,(R.agg p).cells=p:=λ_=>rfl;have D:=b.len;have z:(θ 32 (R.v (.int .u8 0))++[R.J [] .nil,.J [] .nil]++[R.v (.int .i64 0),.v (.int .i64 0)]++[R.J [] .nil])=ag aG .nil .nil .nil:=by rw[show θ 32 (R.v (.int .u8 0))=(θ 32 (0)).map av by rw[List.map_replicate];rfl];simp only[a7P];rfl
 refine an (c2 @o b.len) ?_;refine aR λE C=>?_;refine an (aL @o b.len b.t37 @z) ?_;refine ak (Ew a aG c d f .nil .nil .nil _ k rfl r) ?_;rintro _ _⟨rfl,rfl⟩;refine bU ?_;exact⟨h,ν ι C,rfl⟩
theorem yC(a:aj)(o p x:Own)(c:Nat)(y:U)(g:c<=1000000000000)(D:β a.sum=32)(i:a.cL):
  AC δ 163 [.agg (ag a o p x),.v (.int .i64 (c:Int))] y λj l=>l=y/\j=.v (.bool (fl c a)):=by
 have E:=aV (a7:=o) (h5:=p) (j1:=x) D;have F:=λy=>nZ a o p x y D λ_=>i;generalize ag a o p x=m at E F;obtain⟨d,t,a3,a4,a5,dQ,f,u⟩:=E;refine bh hm QQ σ ?_;have h:∀G,(R.agg G).cells=G:=λ_=>rfl;have L:=bn (n:=a.az);have P:=bn (n:=a.aE);refine aa ?_;refine aR λv n=>?_;have w:=ν (b0:=.cells m) (ι) n;refine aa ?_;refine ak (F _) ?_;rintro _ _⟨rfl,rfl⟩;have A:∀S T q c s:R,List.take 2 [S,T,q,c,s]=[S,T]:=λ_ _ _ _ _=>rfl;unfold fl;by_cases b:a=aG
 .refine an @b ?_;simp_all
 by_cases k:a.size<1
 .simp -dsimp -implicitDefEqProofs (disch:=first|omega|assumption|(simp only[bd,Nat.reduceAdd];try omega)) only[go_sem,simprocAttr,-List.reduceReplicate,b,k,h,d,dQ,f];simp_all
 by_cases r:(1048576)<a.size
 .simp -dsimp -implicitDefEqProofs (disch:=first|omega|assumption|(simp only[bd,Nat.reduceAdd];try omega)) only[go_sem,simprocAttr,-List.reduceReplicate,b,k,r,h,d,dQ,f];simp_all
 by_cases z:a.live<0
 .simp -dsimp -implicitDefEqProofs (disch:=first|omega|assumption|(simp only[bd,Nat.reduceAdd];try omega)) only[go_sem,simprocAttr,-List.reduceReplicate,b,k,r,z,h,d,dQ,f];simp_all
 by_cases C:a.size<a.live
 .simp -dsimp -implicitDefEqProofs (disch:=first|omega|assumption|(simp only[bd,Nat.reduceAdd];try omega)) only[go_sem,simprocAttr,-List.reduceReplicate,b,k,r,z,C,h,d,dQ,f];simp_all
 by_cases V:a.live=0
 .have W:¬a.size<0:=ε;by_cases e:(β a.az:Int)=0
  .simp -dsimp -implicitDefEqProofs (disch:=first|omega|assumption|(simp only[bd,Nat.reduceAdd];try omega)) only[go_sem,simprocAttr,-List.reduceReplicate,b,k,r,z,C,V,e,W,h,d,a4,a5,dQ,f,L,P];simp_all
  .simp -dsimp -implicitDefEqProofs (disch:=first|omega|assumption|(simp only[bd,Nat.reduceAdd];try omega)) only[go_sem,simprocAttr,-List.reduceReplicate,b,k,r,z,C,V,e,W,h,d,a4,a5,dQ,f,L,P];simp_all
 .refine aa ?_;refine ak (mT _ a.az a.aE o p c g) ?_;rintro _ _⟨rfl,rfl⟩;refine bU ?_;simp_all
theorem a0o(b:Nat)(a:Ω×Bool)(f:R)(p:dR a f)(c:U)(d:Nat)(h:c.read d=γ [.v (.int .i64 (b:Int))]):
  AC δ 219 [f,.ptr d 0] c λr x=>x=c/\r=.v (.bool (decide (β a.1=b))):=by
 obtain⟨E,rfl⟩:=p;refine bh hm Sc σ ?_;have y:∀k,(R.agg k).cells=k:=λ_=>rfl;have z:=bn (n:=a.1);refine aa ?_;refine aR λC o=>?_;have F:d≠C:=by rintro rfl;simp[U.read,o]at h
 refine an (aD @y @z @h) ?_;have D:decide ((β a.1:Int)=b)=decide (β a.1=b):=by grind
 exact⟨c,ν ι o,rfl,by rw[D]⟩
def a0p(a:Nat)(D:a<=1000000000000)(c:aj)(f:R)(E:bA c f)(b:U)(d:Nat)(h:b.read d=γ [.v (.int .i64 (a:Int))]):
  AC δ 221 [f,.ptr d 0] b λF G=>G=b/\F=.v (.bool (fl a c)):=by
 obtain⟨k,L,o,p,r,rfl⟩:=E;refine bh hm Sg σ ?_;have x:∀y,(R.agg y).cells=y:=λ_=>rfl;have z:=aV (a7:=o) (h5:=p) (j1:=r) k;have S:=z.len;refine an @x ?_;refine aR λP C=>?_;have T:d≠P:=by rintro rfl;simp[U.read,C]at h
 refine an (aD @x @h z.t37) ?_;refine ak (yC c o p r a _ D k L) ?_;rintro _ _⟨rfl,rfl⟩;refine bU ?_;exact⟨b,ν ι C,rfl⟩
def a0q(a:aj)(c:R)(h:bA a c)(b:U):
  AC δ 222 [c] b λk o=>o=b/\k=.v (.bool (decide (β a.key=0))):=by
 obtain⟨p,F,r,x,y,rfl⟩:=h;refine bh hm Si σ ?_;have z:∀d,(R.agg d).cells=d:=λ_=>rfl;have f:=aV (a7:=r) (h5:=x) (j1:=y) p;have G:=f.len;have C:=bn (n:=a.key);refine aa ?_;refine aR λL D=>?_;refine an (aD @z f.d36 @C) ?_;have E:decide ((β a.key:Int)=0)=decide (β a.key=0):=by simp
 exact⟨b,ν ι D,rfl,by rw[E]⟩
def a0r(b:Ω×Bool)(c:R)(f:dR b c)(a:U):
  AC δ 223 [c] a λh k=>k=a/\h=.v (.bool b.2):=by
 obtain⟨r,rfl⟩:=f;refine bh hm Sk σ ?_;have o:∀d,(R.agg d).cells=d:=λ_=>rfl;refine aa ?_;refine aR λx p=>?_;refine an @o ?_;exact⟨a,ν ι p,rfl⟩
def a0s(b:Nat)(a:aj)(p:R)(G:bA a p)(c:U)(f:Nat)(h:c.read f=γ [.v (.int .i64 (b:Int))]):
  AC δ 224 [p,.ptr f 0] c λL P=>P=c/\L=.v (.bool (decide (β a.key=b)&& !decide (a=aG))):=by
 obtain⟨r,S,x,y,z,rfl⟩:=G;refine bh hm Sm σ ?_;have C:∀D,(R.agg D).cells=D:=λ_=>rfl;have d:=aV (a7:=x) (h5:=y) (j1:=z) r;have V:=d.len;have E:=bn (n:=a.key);refine aa ?_;refine aR λT k=>?_;have W:f≠T:=by rintro rfl;simp[U.read,k]at h
 by_cases F:(β a.key:Int)=b
 .have o:β a.key=b:=ε;simp -dsimp -implicitDefEqProofs (disch:=first|omega|assumption|(simp only[bd,Nat.reduceAdd];try omega)) only[go_sem,simprocAttr,-List.reduceReplicate,C,h,d.t37,d.d36,E,F];refine ak (nZ a x y z _ r λ_=>S) ?_;rintro _ _⟨rfl,rfl⟩;refine bU ?_;exact⟨c,ν ι k,rfl,by simp[o]⟩
 .have o:¬β a.key=b:=ε;simp -dsimp -implicitDefEqProofs (disch:=first|omega|assumption|(simp only[bd,Nat.reduceAdd];try omega)) only[go_sem,simprocAttr,-List.reduceReplicate,C,h,d.t37,d.d36,E,F];exact⟨c,ν ι k,rfl,by simp[o]⟩
structure gB(a:U)(n:bO)(x y:R)(b c:ύ):Prop where
 rows:aw dR n.rows b
 kids:aw bA n.kids c
 mI:bL a 2 x b
 iM:bL a 37 y c
 lf:β n.rows<=100000
 iP:β n.kids<=100000
def gB.mono{b c:U}{d:bO}{f h:R}{k o:ύ}(a:gB b d f h k o)(p:b.sub c):gB c d f h k o:=⟨a.rows,a.kids,a.mI.mono p,a.iM.mono p,a.lf,a.iP⟩
def gB.eg(a:gB g c0 s b8 j B):gX s=γ (.v (.int .i64 (β c0.rows))):=by rw[a.mI.len,a.rows.len]
def gB.vf(a:gB g c0 b8 s j B):gX s=γ (.v (.int .i64 (β c0.kids))):=by rw[a.iM.len,a.kids.len]
abbrev kk(a:bO)(b c:R):R:=.agg [.v (.int .u8 (a.kind.toNat:Int)),b,c]
theorem fP(b:UInt8)(a:Nat)(c:a<256):(decide ((b.toNat:Int)=(a:Int)))=decide (b=φ a):=by grind[φ,UInt8.toNat_inj,UInt8.toNat_ofNat']
theorem Ex(a:bO)(m g:ύ)(c F:R)(b:Nat)(k4:1<=b)(k5:b<=8)(T:U)(o:gB T a c F m g):
  AC δ 146 [kk a c F,.v (.int .i64 (b:Int))] T λz d=>d=T/\z=.v (.bool (ea b a)):=by
 have C:=o.eg;have D:=o.vf;have k6:=o.lf;have k7:=o.iP;refine bh hm Qo σ ?_;have k8:∀q,(R.agg q).cells=q:=λ_=>rfl;refine aa ?_;refine aR λi O=>?_;refine aa ?_;refine aR λf j=>?_;have h:i≠f:=by rintro rfl;rw[ξ]at j;cases j
 have k:=Θ h;have Q:T f=none:=by rw[ο _ _ k]at j;exact j
 have V:=ν (b0:=.cells [.v (.int .i64 (b))]) (ν (b0:=.cells [.v (.int .u8 (a.kind.toNat)),c,F]) (ι) O) Q;have c2:((T.set i (.cells [.v (.int .u8 (a.kind.toNat)),c,F])).set f (.cells [.v (.int .i64 (b))])) i=γ (.cells [.v (.int .u8 (a.kind.toNat)),c,F]):=by rw[ο _ _ h,ξ]
 have aD:((T.set i (.cells [.v (.int .u8 (a.kind.toNat)),c,F])).set f (.cells [.v (.int .i64 (b))])) f=γ (.cells [.v (.int .i64 (b))]):=ξ _ _ _;have p:¬(b:Int)<1:=ε;have r:¬(8)<(b:Int):=ε;refine aa ?_;have X:∀x:U,x f=γ (.cells [.v (.int .i64 (b:Int))])->(hA dR x 219 [] [.ptr f 0] λz=>decide (β z.1=b))/\hA bA x 221 [] [.ptr f 0] (fl b)/\(hA bA x 222 [] [] λG=>decide (β G.key=0))/\(hA dR x 223 [] [] λz=>z.2)/\(hA bA x 224 [] [.ptr f 0] λG=>decide (β G.key=b)&& !decide (G=aG)):=by intro x aD;have n:∀d,x.sub d->d.read f=γ [.v (.int .i64 (b))]:=λd L=>μ (L _ _ aD);have s:hA dR x 219 [] [.ptr f 0] λz=>decide (β z.1=b):=⟨Φ,λc P d S L=>a0o b c P S d f (n d L)⟩;have t:hA bA x 221 [] [.ptr f 0] (fl b):=⟨Φ,λc P d S L=>a0p b ε c P S d f (n d L)⟩;have u:hA bA x 222 [] [] λG=>decide (β G.key=0):=⟨Φ,λc P d S L=>a0q c P S d⟩;have v:hA dR x 223 [] [] λz=>z.2:=⟨Φ,λc P d S L=>a0r c P S d⟩;have w:hA bA x 224 [] [.ptr f 0] λG=>decide (β G.key=b)&& !decide (G=aG):=⟨Φ,λc P d S L=>a0s b c P S d f (n d L)⟩;simp_all
 obtain⟨s,t,u,v,w⟩:=X _ aD;refine aa ?_;refine ak (Ev a.rows m c _ o.rows (o.mI.mono V) ε s) ?_;rintro _ _⟨rfl,rfl⟩;unfold ea;cases k9:a.rows.all (λz=>decide (β z.1=b))with
 |false=>refine an (bl @p @r (μ c2) (μ aD) @ο @h @k @a8q) ?_;simp_all
 |true=>
 refine aa ?_;refine ak (yB a.kids g F _ o.kids (o.iM.mono V) ε t) ?_;rintro _ _⟨rfl,rfl⟩;cases l0:a.kids.all (fl b)with
 |false=>refine an (bl @p @r (μ c2) (μ aD) @ο @h @k @a8q) ?_;simp_all
 |true=>
 have Y:=fP a.kind 1 ε;have Z:=fP a.kind 2 ε;have k2:=fP a.kind 3 ε;simp only[aaA]at Y Z k2;by_cases A:a.kind=1
 .have B:((a.kind.toNat:Int)=1)=True:=by rw[A];simp
  refine aa ?_;by_cases y:(β a.rows:Int)=1
  .by_cases E:(β a.kids:Int)=2
   .refine an (ha @p @r (μ c2) (μ aD) @ο @h @k @a8n @y @E @C @D) ?_;refine ak (yB a.kids g F _ o.kids (o.iM.mono V) ε u) ?_;rintro _ _⟨rfl,rfl⟩;refine bU ?_;have W:β a.rows=1:=ε;have l:β a.kids=2:=ε;simp_all
   .have l:¬β a.kids=2:=ε;refine an (ha @p @r (μ c2) (μ aD) @ο @h @k @a8n @y @E @C @D) ?_;simp_all
  .have W:¬β a.rows=1:=ε;refine an (gZ @p @r (μ c2) (μ aD) @ο @h @k @a8n @y @C @D) ?_;simp_all
 have B:¬(a.kind.toNat:Int)=1:=λH=>A (by simp_all);by_cases I:a.kind=2
 .have K:((a.kind.toNat:Int)=2)=True:=by rw[I];simp
  refine aa ?_;by_cases y:(1:Int)<=β a.rows
  .by_cases E:(β a.rows:Int)<=4
   .by_cases e:(β a.kids:Int)=0
    .refine an (jw @p @r (μ c2) (μ aD) @ο @h @k @a8n @C @D @y @E @e) ?_;refine ak (Ev a.rows m c _ o.rows (o.mI.mono V) ε v) ?_;rintro _ _⟨rfl,rfl⟩;refine bU ?_;have W:1<=β a.rows:=ε;have l:β a.rows<=4:=ε;simp_all
    .have k3:¬β a.kids=0:=ε;refine an (jw @p @r (μ c2) (μ aD) @ο @h @k @a8n @C @D @y @E @e) ?_;simp_all
   .have l:¬β a.rows<=4:=ε;refine an (ha @p @r (μ c2) (μ aD) @ο @h @k @a8n @C @D @y @E) ?_;grind
  .have W:¬1<=β a.rows:=ε;refine an (gZ @p @r (μ c2) (μ aD) @ο @h @k @a8n @C @D @y) ?_;simp_all
 have K:¬(a.kind.toNat:Int)=2:=λH=>I (by simp_all);by_cases M:a.kind=3
 .have N:((a.kind.toNat:Int)=3)=True:=by rw[M];simp
  refine aa ?_;by_cases y:(β a.rows:Int)=0
  .by_cases E:(2:Int)<=β a.kids
   .by_cases e:(β a.kids:Int)<=4
    .refine an (jw @p @r (μ c2) (μ aD) @ο @h @k @a8n @C @D @y @E @e) ?_;refine ak (yB a.kids g F _ o.kids (o.iM.mono V) ε w) ?_;rintro _ _⟨rfl,rfl⟩;refine bU ?_;have W:β a.rows=0:=ε;grind
    .have k3:¬β a.kids<=4:=ε;refine an (jw @p @r (μ c2) (μ aD) @ο @h @k @a8n @C @D @y @E @e) ?_;grind
   .have l:¬2<=β a.kids:=ε;refine an (ha @p @r (μ c2) (μ aD) @ο @h @k @a8n @C @D @y @E) ?_;grind
  .have W:¬β a.rows=0:=ε;refine an (gZ @p @r (μ c2) (μ aD) @ο @h @k @a8n @C @D @y) ?_;simp_all
 have N:¬(a.kind.toNat:Int)=3:=λH=>M (by simp_all);refine an (gZ @p @r (μ c2) (μ aD) @ο @h @k @a8n @B @K @N) ?_;simp_all
def tw{b h:Type}{c:b->List h}{d:Nat}:∀ {l:List b},(∀a∈l,(c a).length<=d)->(l.flatMap c).length<=β l*d
 |[],_=>by simp
 |a::l,f=>by
  have p:=f a σ;have r:=tw (l:=l) λk o=>f k (by simp[o]);rw[a7R,Ρ,a7I,a8D];omega
structure aj.o0(k:aj):Prop where
 az:β k.az<=8
 aE:β k.aE<=8
 key:β k.key<=8
 rp:0<=k.live
 live:k.live<=1048576
 rq:0<=k.size
 size:k.size<=1048576
theorem kl(a:cV n b5 e=ζ):β n=e/\β b5=e/\1<=e/\e<=8:=by simp_all [cV]
theorem ry(a:fl e A=ζ):β A.az<=8/\β A.aE<=8/\0<=A.live/\A.live<=1048576/\0<=A.size/\A.size<=1048576:=by
 unfold fl at a;rw[a8Y]at a;rcases a with a|a
 .have:=of_decide_eq_true a;subst this;simp[aG]
 .simp only[Κ,a8V,abA,decide_eq_false_iff_not]at a;obtain⟨c,b⟩:=a;have:β A.az<=8/\β A.aE<=8:=by
   split at b;simp_all
   .have:=kl b;omega
  omega
theorem vg(k:e<=8)(a:ea e c0=ζ):∀b∈c0.kids,b.o0:=by intro b c;unfold ea at a;simp only[Κ,a7L]at a;obtain⟨⟨_,d⟩,o⟩:=a;obtain⟨f,h,a3,a4,a5,dQ⟩:=ry (d b c);refine⟨f,h,?_,a3,a4,a5,dQ⟩;grind
def Ey{a:Ω×Bool}(b:β a.1<=8):(la a).length<=100:=by simp[la,yr];omega
def Ez(b:β A.sum=32)(a:A.o0):(lb A).length<=300:=by have c:=a.az;have d:=a.aE;have f:=a.key;simp[lb,yr,tp,b];omega
theorem yD(a:bO)(l2 l3:ύ)(y z:R)(C:Nat)(a08:1<=C)(l4:C<=8)(s:U)(D:gB s a y z l2 l3):
  AC δ 147 [kk a y z,.v (.int .i64 (C:Int))] s λf k=>s.sub k/\match tq C a with
   |none=>f=.aJ [.J [] .nil,.v (.int .i64 1)]
   |some E=>∃a09,f=.aJ [.J (E.map av) a09,.v (.int .i64 0)]:=by
 have l5:=D.eg;have l6:=D.vf;have a94:=D.lf;have a95:=D.iP;refine bh hm Qq σ ?_;have K:∀k3,(R.agg k3).cells=k3:=λ_=>rfl;have a96:∀x E P,aX ζ 3 [x,E,P]=.agg [x,E,P]:=λ_ _ _=>rfl;have a10:∀x E P:R,List.take 3 [x,E,P]=[x,E,P]:=λ_ _ _=>rfl;refine an @K ?_;refine aR λj a11=>?_;have t:=ν (b0:=.cells [.v (.int .u8 (a.kind.toNat)),y,z]) (ι) a11;have c2:(s.set j (.cells [.v (.int .u8 (a.kind.toNat)),y,z])) j=γ (.cells [.v (.int .u8 (a.kind.toNat)),y,z]):=ξ _ _ _;simp -dsimp -implicitDefEqProofs (disch:=first|omega|assumption|(simp only[bd,Nat.reduceAdd];try omega)) only[go_sem,simprocAttr,-List.reduceReplicate,K,a10];refine ak (Ex a l2 l3 y z C a08 l4 _ (D.mono t)) ?_;rintro _ _⟨rfl,rfl⟩;unfold tq;cases l7:ea C a with
 |false=>refine an @a8q ?_;exact⟨_,ι,t⟩
 |true=>
 obtain⟨a13,a97,a98⟩:=iR l7;have l8:=vg l4 l7;refine an @a8n ?_;refine aR λc a14=>?_;have l9:j≠c:=by grind
 obtain⟨o,k4⟩:∃o:U,o=s.set j (.cells [.v (.int .u8 (a.kind.toNat)),y,z]):=⟨_,rfl⟩;rw[<-k4]at t c2;have n0:o c=none:=by rw[k4];exact a14
 have a15:dx o c [] (o.set c (.cells [.J [] .nil,.v (.int .i64 0)])):=⟨.nil,bk.nil ι⟩;have n2:=D.mono t;have a16:=n2.mI;have a18:=n2.iM;have M:∀aN k,dx o c aN k->k j=γ (.cells [.v (.int .u8 (a.kind.toNat)),y,z]):=λaN k u=>u.get l9 c2;have n3:∀aN k,dx o c aN k->o.sub k:=λaN k u=>u.sub n0;have a19:dX a=([a.kind]++[φ (β a.rows)]++a.rows.flatMap la++[φ (β a.kids)])++a.kids.flatMap lb:=by simp[dX]
 have n4:∀b,((a.rows.take b).flatMap la).length<=400:=λb=>by
  have:=tw (l:=a.rows.take b) λf a99=>Ey (a:=f) (by grind);grind
 rw[<-k4];simp -dsimp -implicitDefEqProofs (disch:=first|omega|assumption|(simp only[bd,Nat.reduceAdd];try omega)) only[go_sem,simprocAttr,-List.reduceReplicate,μ c2,l9];refine ak (q4 o _ c [] a.kind a15 σ) ?_;intro _ a27 n5;simp -dsimp -implicitDefEqProofs (disch:=first|omega|assumption|(simp only[bd,Nat.reduceAdd];try omega)) only[go_sem,simprocAttr,-List.reduceReplicate,μ (M _ _ n5),l5,pS];refine ak (q4 o a27 c _ (φ (β a.rows)) n5 σ) ?_;intro _ b00 a29;simp -dsimp -implicitDefEqProofs (disch:=first|omega|assumption|(simp only[bd,Nat.reduceAdd];try omega)) only[go_sem,simprocAttr,-List.reduceReplicate,μ (M _ _ a29),l5];refine cZ (λp k=>∃b:Nat,b<=β a.rows/\dx o c ([a.kind]++[φ (β a.rows)]++(a.rows.take b).flatMap la) k/\p 2=.ptr j 0/\p 6=.ptr c 0/\p 28=y/\p 29=.v (.int .i64 (β a.rows))/\p 30=.v (.int .i64 b))
  (λp _=>match p 30 with|.v (.int _ k5)=>β a.rows - k5.toNat|_=>0) ⟨0,ε,by trivial,?_⟩ ?_
 .exact nQ
 rintro p v⟨b,a30,r,S,h,l,m,n⟩;by_cases w:(b:Int)<β a.rows
 .have V:a.rows[b]?=γ a.rows[b]:=Τ ε;have N:a.rows.take (b+1)=a.rows.take b++[a.rows[b]]:=by rw[a8E,V];rfl
  have a34:=a13 _ (a8b (n:=b) ε);generalize a.rows[b]'ε=f at V N a34;obtain⟨x,k6,q,rfl⟩:=D.rows.get V;obtain⟨a36,k7,O⟩:=a16.get b _ k6;have A:=O.ld v (n3 _ _ r) ζ 2 ε (by simp[τ]);have n9:=n4 b;have a38:aX ζ 2 (R.agg [.J (ab f.1) q,.v (.bool f.2)]).cells=.agg [.J (ab f.1) q,.v (.bool f.2)]:=rfl;rw[a38]at A;refine an (bl @S @h @l @m @n @w @k7 @A) ?_;refine aR λa00 a42=>?_;have a43:∀x E P C:R,putAt [x,E] 0 [P,C]=[P,C]:=λ_ _ _ _=>rfl;obtain⟨a47,a48,Q⟩:=r.new (ob:=.cells [.J (ab f.1) q,.v (.bool f.2)]) a42;have a52:(o.set a00 (.cells [.J (ab f.1) q,.v (.bool f.2)])) a00=γ (.cells [.J (ab f.1) q,.v (.bool f.2)]):=ξ _ _ _;refine an (bl @S @h @l @m @n @K @a43 @υ) ?_;refine ak (ZM _ _ c _ f.2 Q (by grind)) ?_;intro _ a56 B;refine an (bt @S @h @l @m @n (μ (B.get a47 a52))) ?_;refine ak (uV _ _ c _ f.1 q ε B (by grind)) ?_;intro _ a57 X;refine an (aZ @S @h @l @m @n) ?_;refine⟨⟨b+1,ε,?_,σ⟩,ε⟩;have H:=X.base (ν (ι) a48);rw[N,a8A];simpa[la] using H
 .obtain rfl:b=β a.rows:=ε;rw[a8c]at r;have n9:=n4 (β a.rows);rw[a8c]at n9;simp -dsimp -implicitDefEqProofs (disch:=first|omega|assumption|(simp only[bd,Nat.reduceAdd];try omega)) only[go_sem,simprocAttr,-List.reduceReplicate,S,h,l,m,n,w,μ (M _ _ r),l6,pS];refine ak (q4 o v c _ (φ (β a.kids)) r (by grind)) ?_;intro _ b01 a01;have b02:([a.kind]++[φ (β a.rows)]++a.rows.flatMap la++[φ (β a.kids)]).length<=500:=by grind
  generalize [a.kind]++[φ (β a.rows)]++a.rows.flatMap la++[φ (β a.kids)]=k8 at*;have a02:∀b,((a.kids.take b).flatMap lb).length<=1200:=λb=>by
   have:=tw (l:=a.kids.take b) λd a61=>by
    have hm:=a7J a61;obtain⟨b03,a62,rfl⟩:=a8e hm;obtain⟨x,_,Y,_⟩:=D.kids.get (Τ a62);exact Ez Y (l8 _ hm)
   grind
  simp -dsimp -implicitDefEqProofs (disch:=first|omega|assumption|(simp only[bd,Nat.reduceAdd];try omega)) only[go_sem,simprocAttr,-List.reduceReplicate,S,h,μ (M _ _ a01),l6];refine cZ (λp k=>∃b:Nat,b<=β a.kids/\dx o c (k8++(a.kids.take b).flatMap lb) k/\p 6=.ptr c 0/\p 50=z/\p 51=.v (.int .i64 (β a.kids))/\p 52=.v (.int .i64 b))
   (λp _=>match p 52 with|.v (.int _ k5)=>β a.kids - k5.toNat|_=>0) ⟨0,ε,by simpa using a01,?_⟩ ?_
  .simp -dsimp -implicitDefEqProofs (disch:=first|omega|assumption|(simp only[bd,Nat.reduceAdd];try omega)) only[go_sem,simprocAttr,-List.reduceReplicate,S,h]
  clear S h l m n;rintro p v⟨b,a30,r,h,F,G,L⟩;by_cases w:(b:Int)<β a.kids
  .have V:a.kids[b]?=γ a.kids[b]:=Τ ε;have N:a.kids.take (b+1)=a.kids.take b++[a.kids[b]]:=by rw[a8E,V];rfl
   have T:=l8 _ (a8b (n:=b) ε);generalize a.kids[b]'ε=d at V N T;obtain⟨x,k6,Y,_,W,e,g,rfl⟩:=D.kids.get V;obtain⟨a36,k7,O⟩:=a18.get b _ k6;have Z:=aV (a7:=W) (h5:=e) (j1:=g) Y;have a63:(R.agg (ag d W e g)).cells=ag d W e g:=rfl;rw[a63]at O;have A:=O.ld v (n3 _ _ r) ζ 37 ε (by rw[Z.len];omega);rw[show aX ζ 37 (ag d W e g)=.agg (ag d W e g) by rw[aX,if_pos rfl,Z.t37]]at A;have k9:=Z.len;generalize ag d W e g=i at*;obtain⟨b04,b05,a3,a4,a5,dQ,a65,a68⟩:=Z;have b06:=a02 b;refine an (cr @h @F @G @L @w @k7 @A) ?_;refine aR λk2 a69=>?_;obtain⟨a71,a73,Q⟩:=r.new (ob:=.cells i) a69;have a74:(o.set k2 (.cells i)) k2=γ (.cells i):=ξ _ _ _;have b07:=k9;have b08:=T.rp;have ch:=T.rq;have b09:=T.live;have b10:=T.size;have b11:=T.az;have b12:=T.aE;have b13:=T.key;have a81:∀l0:ύ,β l0=37->putAt l0 0 i=i:=λl0 a83=>by rw[putAt];simp[a83,k9]
   refine an (cw @h @F @G @L @K @a81 @k9 @υ @Ρ.{0} @a9s.{0}) ?_;have a84:d.live=(d.live.toNat):=ε;have a86:d.size=(d.size.toNat):=ε;have I:∀aN k,dx (o.set k2 (.cells i)) c aN k->k k2=γ (.cells i):=λaN k u=>u.get a71 a74;rw[a3];have l1:(k8++(a.kids.take b).flatMap lb).length<=1700:=by grind
   obtain⟨b14,a88⟩:∃a89,a89=k8++(a.kids.take b).flatMap lb:=⟨_,rfl⟩;rw[<-a88]at Q l1;refine ak (Zv _ _ c _ d.sum Y Q ε) ?_;intro _ a56 B;simp -dsimp -implicitDefEqProofs (disch:=first|omega|assumption|(simp only[bd,Nat.reduceAdd];try omega)) only[go_sem,simprocAttr,-List.reduceReplicate,h,F,G,L,μ (I _ _ B),dQ];rw[a84];refine ak (Eg _ _ c _ d.live.toNat ε B (by grind)) ?_;intro _ a57 X;simp -dsimp -implicitDefEqProofs (disch:=first|omega|assumption|(simp only[bd,Nat.reduceAdd];try omega)) only[go_sem,simprocAttr,-List.reduceReplicate,h,F,G,L,μ (I _ _ X),a65];rw[a86];have cl:=tp d.live.toNat;have k3:=tp d.size.toNat;refine ak (Eg _ _ c _ d.size.toNat ε X (by grind)) ?_;intro _ b15 H;simp -dsimp -implicitDefEqProofs (disch:=first|omega|assumption|(simp only[bd,Nat.reduceAdd];try omega)) only[go_sem,simprocAttr,-List.reduceReplicate,h,F,G,L,μ (I _ _ H),a4];have a03:=λf=>yr (a:=f);have b16:=a03 d.az;have b17:=a03 d.aE;refine ak (uV _ _ c _ d.az W ε H (by grind)) ?_;intro _ b18 a04;simp -dsimp -implicitDefEqProofs (disch:=first|omega|assumption|(simp only[bd,Nat.reduceAdd];try omega)) only[go_sem,simprocAttr,-List.reduceReplicate,h,F,G,L,μ (I _ _ a04),a5];refine ak (uV _ _ c _ d.aE e ε a04 (by grind)) ?_;intro _ b19 a05;simp -dsimp -implicitDefEqProofs (disch:=first|omega|assumption|(simp only[bd,Nat.reduceAdd];try omega)) only[go_sem,simprocAttr,-List.reduceReplicate,h,F,G,L,μ (I _ _ a05),a68];refine ak (uV _ _ c _ d.key g ε a05 (by grind)) ?_;intro _ b20 a90;refine an (aL @h @F @G @L) ?_;refine⟨⟨b+1,ε,?_,σ⟩,ε⟩;have H:=a90.base (ν (ι) a73);grind[List.append_assoc,lb]
  .obtain rfl:b=β a.kids:=ε;rw[a8c]at r;have l1:=a02 (β a.kids);rw[a8c]at l1;refine an (aZ @h @F @G @L @w) ?_;refine ak (Zr _ v c _ r (by grind)) ?_;rintro _ a06⟨a92,a07,rfl⟩;refine an @h ?_;refine ak (ZI _ a06 c _ (r.mono a07.sub)) ?_;rintro _ a06⟨rfl,rfl⟩;refine bU ?_;refine⟨_,ι,π t (π (r.sub n0) a07.sub),a92,?_⟩;rw[a19]
end Go.Proofs.YtgchlmdfldnhnaaGreat
set_option maxHeartbeats 1000000
namespace Go.Proofs.YtgchlmdfldnhnaaGreat
open Go Go.bw
theorem cB:(θ 32 (R.v (.int .u8 0))++[R.J [] .nil,.J [] .nil]++[R.v (.int .i64 0),.v (.int .i64 0)]++[R.J [] .nil])=ag aG .nil .nil .nil:=by rw[show θ 32 (R.v (.int .u8 0))=(θ 32 (0)).map av by rw[List.map_replicate];rfl];simp only[a7P];rfl
variable{A j6:aj}{O:ϊ}{a7 h5 j1:Own}
theorem EA(a:β A.sum=32)(b:β O=32):putAt (ag A a7 h5 j1) 0 (O.map av)=ag {A with sum:=O} a7 h5 j1:=by grind[av,ag,putAt,List.length_map,List.drop_append,List.drop_eq_nil_of_le]
variable{s b8:R}{j B b7:ύ}
theorem vh{b c d:R}(p:β j=32):(∀a r,putAt (j++[s,b8,b,c,d]) 32 [a,r]=j++[a,r,b,c,d])/\(∀a,putAt (j++[s,b8,b,c,d]) 34 [a]=j++[s,b8,a,c,d])/\
  (∀a,putAt (j++[s,b8,b,c,d]) 35 [a]=j++[s,b8,b,a,d])/\∀a,putAt (j++[s,b8,b,c,d]) 36 [a]=j++[s,b8,b,c,a]:=by
 have k:∀f (h),(j++h).take (32+f)=j++h.take f:=λf h=>by rw[<-p,aap]
 have o:∀f (h),(j++h).drop (32+f)=h.drop f:=λf h=>by rw[<-p,aaq]
 have x:=k 0;have y:=k 2;have z:=k 3;have C:=k 4;have D:=o 2;have E:=o 3;have F:=o 4;simp_all [Nat.reduceAdd,putAt]
variable{N j2:Int}
theorem EB(a:β A.sum=32):putAt (ag A a7 h5 j1) 34 [.v (.int .i64 N)]=ag {A with live:=N} a7 h5 j1:=(vh (by simp[a])).2.1 _
theorem EC(a:β A.sum=32):putAt (ag A a7 h5 j1) 35 [.v (.int .i64 N)]=ag {A with size:=N} a7 h5 j1:=(vh (by simp[a])).2.2.1 _
variable{n b5:Ω}
theorem ED{a:Own}(b:β A.sum=32):putAt (ag A a7 h5 a) 36 [.J (ab n) j1]=ag {A with key:=n} a7 h5 j1:=(vh (by simp[b])).2.2.2 _
theorem a0t{a b:Own}(c:β A.sum=32):putAt (ag A a b a7) 32 [.J (ab n) h5,.J (ab b5) j1]=ag {A with az:=n,aE:=b5} h5 j1 a7:=(vh (by simp[c])).1 _ _
theorem cT{a b c:Own}(d:β j6.sum=32)(f:β A.sum=32):putAt (ag j6 a b c) 0 (ag A a7 h5 j1)=ag A a7 h5 j1:=by have k:=(aV (a7:=a) (h5:=b) (j1:=c) d).len;have h:=(aV (a7:=a7) (h5:=h5) (j1:=j1) f).len;rw[putAt,a9o,a7T,h,a8k ε,a8u]
theorem bo:β aG.sum=32:=by rfl
theorem tx:(gM n).1.length<=8/\(gM n).2.length<=8:=by grind[gM]
variable{e i t I b3 e5:Nat}{c0:bO}
theorem yE(b:e<=8)(c:ea e c0=ζ)(h:∀a∈c0.kids,β a.sum=32):(dX c0).length<=2000:=by obtain⟨k,o,p⟩:=iR c;have r:=vg b c;have y:=tw λd x=>Ey (a:=d) (by rw[k d x];exact b);have z:=tw λa f=>Ez (h a f) (r a f);have a3:β c0.rows*100<=4*100:=a7N _ o;have a4:β c0.kids*300<=4*300:=a7N _ p;unfold dX;grind
theorem aw.all(b:aw bA c0.kids j):∀a∈c0.kids,β a.sum=32/\a.cL:=by intro a c;obtain⟨f,d,rfl⟩:=a8e c;obtain⟨h,_,k,o,_⟩:=b.get (Τ d);trivial
theorem a0u(y:β O=32):∃o:Ω->Ω->Int->Int->Ω->Own->Own->Own->ύ,(∀(r:aj) a b c,r.sum=O->ag r a b c=o r.az r.aE r.live r.size r.key a b c)/\putAt (ag aG .nil .nil .nil) 0 (O.map av)=o [] [] 0 0 [] .nil .nil .nil/\
  ∀d f h ch k a b c,(o d f h ch k a b c).length=37/\(o d f h ch k a b c).take 37=o d f h ch k a b c/\((o d f h ch k a b c).drop 32).take 2=[.J (ab d) a,.J (ab f) b]/\aX κ 1 ((o d f h ch k a b c).drop 34)=.v (.int .i64 h)/\aX κ 1 ((o d f h ch k a b c).drop 35)=.v (.int .i64 ch)/\putAt (ag aG .nil .nil .nil) 0 (o d f h ch k a b c)=o d f h ch k a b c/\
   (∀p,putAt (o d f h ch k a b c) 34 [.v (.int .i64 p)]=o d f p ch k a b c)/\(∀p,putAt (o d f h ch k a b c) 35 [.v (.int .i64 p)]=o d f h p k a b c)/\(∀p x,putAt (o d f h ch k a b c) 36 [.J (ab p) x]=o d f h ch p a b x)/\∀p z x C,putAt (o d f h ch k a b c) 32 [.J (ab p) x,.J (ab z) C]=o p z h ch k x C c:=by
 refine⟨λd f h ch k a b c=>ag ⟨O,d,f,h,ch,k⟩ a b c,λr _ _ _ D=>by subst D;rfl,EA bo y,λd f h ch k a b c=>?_⟩;have E:=(aV (A:=⟨O,d,f,h,ch,k⟩) (a7:=a) (h5:=b) (j1:=c) y).all;grind[cT,bo,EB,EC,ED,a0t]
theorem EE(b:bO)(a03 a04:ύ)(X Y:R)(w:Nat)(a43:1<=w)(l6:w<=8)(O:U)(r:gB O b X Y a03 a04):
  AC δ 91 [kk b X Y,.v (.int .i64 (w:Int))] O λc E=>O.sub E/\match ga w b with
   |none=>c=.aJ [.agg (ag aG .nil .nil .nil),.v (.int .i64 1)]
   |some d=>∃h k l7,c=.aJ [.agg (ag d h k l7),.v (.int .i64 0)]:=by
 have a90:=r.eg;have a92:=r.vf;have a94:=r.lf;have a95:=r.iP;have a05:=q7 (dX b);obtain⟨k8,a96,a97,a47⟩:=a0u a05;have A:=λa48 k9 Z ch a52 h k l7=>(a47 a48 k9 Z ch a52 h k l7).1;have a98:(dJ (fZ (dX b))).cells=(fZ (dX b)).map av:=rfl;have a99:((fZ (dX b)).map av).length=32:=by simp[a05]
 have b00:=cB;have b01:=(aV (a7:=.nil) (h5:=.nil) (j1:=.nil) bo).all;have a06:=λd x y D B=>cT (a:=.nil) (b:=.nil) (c:=.nil) (A:=d) (a7:=x) (h5:=y) (j1:=D) bo B;have b02:=a06 aG .nil .nil .nil bo;generalize b03:ag aG .nil .nil .nil=l8 at*;obtain⟨a07,G⟩:∃a07,ga w b=a07:=⟨_,rfl⟩;rw[G];unfold ga gA at G;have a56:=@υ;have b04:=@sO;refine aM hm OM ?_;refine bg λa08 a57=>?_;refine cy λk2 a61 _ _=>?_;generalize z:(O.set a08 _).set k2 _=l9;have a09:O.sub l9:=by subst z;exact aK
 have c2:l9 a08=γ (.cells [.v (.int .u8 (b.kind.toNat)),X,Y]):=by subst z;exact aK
 have aL:l9 k2=γ (.cells l8):=by subst z;exact aK
 clear z a57;refine cl (yD b a03 a04 X Y w a43 l6 _ (r.mono a09)) ?_;rintro c k3⟨n0,k4⟩;replace c2:=n0 _ _ c2;replace aL:=n0 _ _ aL;have H:=π a09 n0;have k5:=μ c2;have n2:=ω aL;have b05:∀E i,k3.sub E->O.sub (E.set k2 i):=λE i B=>ν (π H B) a61;unfold tq at k4;cases P:ea w b with
 |false=>rw[P]at k4 G;rw[if_neg σ]at G;obtain rfl:=k4;subst G;exact aK
 |true=>
  rw[P]at k4 G;rw[if_pos rfl]at G;obtain⟨a62,rfl⟩:=k4;obtain⟨a10,b06,b07⟩:=iR P;have a11:=vg l6 P;have a63:=r.kids.all;have b08:=yE l6 P λd a65=>(a63 d a65).1;obtain⟨f,j⟩:∃f:Nat->fY,f=λa=>(b.rows.take a).foldl eu ⟨0,β b.rows,([],[])⟩:=⟨_,rfl⟩;obtain⟨T,I⟩:∃T:Nat->fY,T=λa=>(b.kids.take a).foldl fw (f (β b.rows)):=⟨_,rfl⟩;have a13:f 0=⟨0,β b.rows,([],[])⟩:=by subst j;rfl
  have a14:T 0=f (β b.rows):=by subst I;rfl
  have a68:∀a c,b.rows[a]?=γ c->f (a+1)=eu (f a) c:=λa c B=>by subst j;simp[a8E,B]
  have a15:∀a d,b.kids[a]?=γ d->T (a+1)=fw (T a) d:=λa d B=>by subst I;simp[a8E,B]
  have a16:fx b=T (β b.kids):=by subst I;subst j;simp[fx]
  rw[a16]at G;clear j I a16;refine aa ?_;refine mP (Er (dX b) a62 _ ε) ?_;refine bg λl Q=>?_;have b09:=U.ht Q c2;have b10:=U.ht Q aL;refine aa ?_;refine ck [2,4,8,30,31] (λa:Nat=>[(32,.v (.int .i64 (a)))]) (λa E=>a<=β b.rows/\k3.sub E/\(0<=(f a).live/\(f a).live<=a/\(f a).size=β b.rows/\(f a).aY.1.length<=8/\(f a).aY.2.length<=8)/\∃h k,E l=γ (.cells (k8 (f a).aY.1 (f a).aY.2 (f a).live (β b.rows) [] h k .nil))) (λa=>β b.rows - a) 0 ⟨⟨ε,ν (ν ι Q) Q,by simp[a13],.nil,.nil,by rw[a13];exact ξ _ _ _⟩,aK⟩ ?_;rintro a C⟨k9,o,⟨a18,a19,n3,l0,l1⟩,h,k,bl⟩a69;have a27:=A (f a).aY.1 (f a).aY.2 (f a).live (β b.rows) [] h k .nil;have l2:=A (f a).aY.1 (f a).aY.2 ((f a).live+1) (β b.rows) [] h k .nil;have m:=μ bl;have S:=ω bl;have k5:=rd o c2;refine aa ?_;refine ay (λL=>?_) λL=>?_
  .have K:=Τ (show a<β b.rows by omega);have j:=a68 a _ K;have n4:=a10 _ (a8b (n:=a) ε);generalize b.rows[a]'ε=c at K j n4;obtain⟨_,M,n,rfl⟩:=r.rows.get K;obtain⟨q,V,F⟩:=(r.mI.mono (π H o)).get a _ M;have W:cO ζ 2 C q=γ (.agg [.J (ab c.1) n,.v (.bool c.2)]):=F.ld C ι ζ 2 ε (by simp[τ]);obtain⟨c,Z⟩:=c;refine aa ?_;refine bg λn5 a29=>?_;have a71:=U.ht a29 bl;obtain⟨p,s⟩:∃p,C.set n5 (.cells [.J (ab c) n,.v (.bool Z)])=p:=⟨_,rfl⟩;have e:C.sub p:=by rw[<-s];exact ν ι a29
   have cw:p n5=γ (.cells [.J (ab c) n,.v (.bool Z)]):=by rw[<-s,ξ]
   rw[a56,s];have m:=rd e bl;have S:=ω (e _ _ bl);have a73:=μ cw;clear s W V F k5;refine ay (λL=>?_) λL=>?_<;>subst L
   .generalize z:p.set l _=t;have bl:t l=γ (.cells (k8 (f a).aY.1 (f a).aY.2 ((f a).live+1) (β b.rows) [] h k .nil)):=by subst z;exact ξ _ _ _
    have cw:t n5=γ (.cells [.J (ab c) n,.v (.bool ζ)]):=by subst z;rw[ο _ _ a71.symm];exact cw
    have n9:k3.sub t:=by subst z;exact ν (π o e) Q
    clear z;refine cl (a0g t c n (by dsimp only at n4;omega)) ?_;rintro _ a74⟨l3,x,y,rfl⟩;have m:=rd l3 bl;have a73:=rd l3 cw;have a30:=tx (n:=c);refine cl (Et a74 (f a).aY.1 (f a).aY.2 (gM c).1 (gM c).2 h k x y ε ε ε ε) ?_;rintro _ a81⟨k6,rfl⟩;have S:=ω (k6 _ _ (l3 _ _ bl));have a00:=ru (f a).aY (gM c) 8 l0 l1 a30.1 a30.2;refine aa ?_;refine⟨a+1,⟨ε,π n9 (π l3 k6),?_,.any,.any,?_⟩,rfl,ε⟩<;>rw[j,eu,if_pos rfl];grind
   .refine⟨a+1,⟨ε,π o e,?_,h,k,?_⟩,rfl,ε⟩<;>rw[j,eu,if_neg σ];omega
    .exact e _ _ bl
  obtain rfl:a=β b.rows:=ε;refine ck [2,4,8,51,52] (λa:Nat=>[(53,.v (.int .i64 (a)))]) (λa E=>a<=β b.kids/\k3.sub E/\(0<=(T a).live/\(T a).live<=4+a*1048576/\0<=(T a).size/\(T a).size<=4+a*1048576/\(T a).aY.1.length<=8/\(T a).aY.2.length<=8)/\∃h k,E l=γ (.cells (k8 (T a).aY.1 (T a).aY.2 (T a).live (T a).size [] h k .nil))) (λa=>β b.kids - a) 0 ⟨⟨ε,o,by grind,h,k,by rw[a14,n3];exact bl⟩,aK⟩ ?_;clear a27 l2 bl m S k5 o L a18 a19 n3 l0 l1 k9;rintro a C⟨k9,o,⟨a18,a19,n3,b11,l0,l1⟩,h,k,bl⟩a69;have a27:=A (T a).aY.1 (T a).aY.2 (T a).live (T a).size [] h k .nil;have m:=μ bl;have S:=ω bl;have k5:=rd o c2;have n2:=ω (o _ _ aL);refine aa ?_;refine ay (λL=>?_) λL=>?_
  .have K:=Τ (show a<β b.kids by omega);have I:=a15 a _ K;have u:=a11 _ (a8b (n:=a) ε);generalize b.kids[a]'ε=d at K I u;obtain⟨_,M,l4,a83,x,y,D,rfl⟩:=r.kids.get K;obtain⟨q,V,F⟩:=(r.iM.mono (π H o)).get a _ M;have N:=aV (a7:=x) (h5:=y) (j1:=D) l4;change nY C q (ag d x y D)at F;have W:=F.ld C ι ζ 37 ε (by rw[N.len];omega);rw[show aX ζ 37 (ag d x y D)=.agg (ag d x y D) by rw[aX,if_pos rfl,N.t37]]at W;have N:=N.all;have b12:=a06 d x y D l4;generalize ag d x y D=a34 at*;have Z:=u.rp;have ch:=u.rq;have b13:=u.live;have b14:=u.size;have a84:=u.az;have a86:=u.aE;refine aa ?_;have l2:=A (T a).aY.1 (T a).aY.2 ((T a).live+d.live) (T a).size [] h k .nil;have b15:=A (T a).aY.1 (T a).aY.2 ((T a).live+d.live) ((T a).size+d.size) [] h k .nil;refine bg λa36 a38=>?_;have b16:=U.ht a38 bl;obtain⟨p,s⟩:∃p,C.set a36 (.cells a34)=p:=⟨_,rfl⟩;have e:C.sub p:=by rw[<-s];exact ν ι a38
   have a88:p.read a36=γ a34:=μ (by rw[<-s,ξ]);have m:=rd e bl;have S:=ω (e _ _ bl);clear W V F k5;refine aa ?_;generalize z:p.set l _=t;have bl:t l=γ (.cells (k8 (T a).aY.1 (T a).aY.2 ((T a).live+d.live) ((T a).size+d.size) [] h k .nil)):=by subst z;exact ξ _ _ _
   have n9:k3.sub t:=by subst z;exact ν (π o e) Q
   clear z s m S a88;refine cl (Et t (T a).aY.1 (T a).aY.2 d.az d.aE h k x y ε ε ε ε) ?_;rintro _ a81⟨k6,rfl⟩;have S:=ω (k6 _ _ bl);have a00:=ru (T a).aY (d.az,d.aE) 8 l0 l1 a84 a86;refine aa ?_;refine⟨a+1,⟨ε,π n9 k6,?_,.any,.any,?_⟩,rfl,ε⟩<;>rw[I,fw];exact⟨by dsimp only;omega,by dsimp only;omega,by dsimp only;omega,by dsimp only;omega,a00.1,a00.2⟩
  obtain rfl:a=β b.kids:=ε;clear a15 a14;generalize T (β b.kids)=v at*;refine ay (λL=>?_) λL=>?_;grind;rw[if_neg L]at G;subst G;by_cases g2:b.kind=2
  .have bg:(b.kind.toNat:Int)=2:=by rw[g2];rfl
   obtain⟨c,l5,a01⟩:∃c l5,b.rows=c::l5:=aaw (by rintro k7;unfold ea at P;simp[g2,k7]at P);have n4:=a10 c (by simp[a01]);obtain⟨_,M,n,rfl⟩:=r.rows.get (i:=0) (by rw[a01];rfl);obtain⟨q,V,F⟩:=(r.mI.mono (π H o)).get 0 _ M;obtain⟨a42,a89,W⟩:=F.lH C ι 0 κ 1 ε (by simp[τ]);have V:cU 2 X (.v (.int .i64 0))=γ q:=V;have W:cO κ 1 C a42=γ (.J (ab c.1) n):=W;have l2:=A v.aY.1 v.aY.2 v.live v.size c.1 h k .any;refine rf ?_;refine cl (rr c.1 n _ ε) ?_;rintro _ p⟨g,rfl⟩;have m:=rd g bl;have S:=ω (g _ _ bl);have n2:∀i,eE (p.set l i) k2=γ l8:=λi=>ω (by rw[ο _ _ abV];exact g _ _ (o _ _ aL));refine aa ?_;exact⟨π H (π o g),h,k,.any,by simp[keyOf,g2,a01]⟩
  have bg:¬(b.kind.toNat:Int)=2:=λk7=>g2 (a8v.1 (by grind));refine rf ?_;by_cases g3:b.kind=3
  .have gz:(b.kind.toNat:Int)=3:=by rw[g3];rfl
   obtain⟨d,b17,a02⟩:∃c l5,b.kids=c::l5:=aaw (by rintro k7;unfold ea at P;simp[g3,k7]at P);have u:=(a11 d (by simp[a02])).key;obtain⟨_,M,l4,a83,x,y,D,rfl⟩:=r.kids.get (i:=0) (by rw[a02];rfl);obtain⟨q,V,F⟩:=(r.iM.mono (π H o)).get 0 _ M;have N:=aV (a7:=x) (h5:=y) (j1:=D) l4;change nY C q (ag d x y D)at F;obtain⟨a42,a89,W⟩:=F.lH C ι 36 κ 1 ε (by rw[N.len];omega);have V:cU 37 Y (.v (.int .i64 0))=γ q:=V;rw[N.all.2.2.2.2.2.2.2.2]at W;have l2:=A v.aY.1 v.aY.2 v.live v.size d.key h k .any;refine rf ?_;refine cl (rr d.key D _ ε) ?_;rintro _ p⟨g,rfl⟩;have m:=rd g bl;have S:=ω (g _ _ bl);have n2:∀i,eE (p.set l i) k2=γ l8:=λi=>ω (by rw[ο _ _ abV];exact g _ _ (o _ _ aL));refine aa ?_;exact⟨π H (π o g),h,k,.any,by simp[keyOf,g3,a02]⟩
  have gz:¬(b.kind.toNat:Int)=3:=λk7=>g3 (a8v.1 (by grind));refine rf ?_;grind[keyOf]
theorem EF{f h d:R}(k:β j=32):(∀c,putAt (j++[f,h,s,b8,d]) 32 [c]=j++[c,h,s,b8,d])/\∀c,putAt (j++[f,h,s,b8,d]) 33 [c]=j++[f,c,s,b8,d]:=by
 have o:∀a (b),(j++b).take (32+a)=j++b.take a:=λa b=>by rw[<-k,aap]
 have p:∀a (b),(j++b).drop (32+a)=b.drop a:=λa b=>by rw[<-k,aaq]
 have r:=o 0;have x:=o 1;have y:=p 1;have z:=p 2;simp_all [Nat.reduceAdd,putAt]
def a0v{a:Own}(b:β A.sum=32):putAt (ag A a a7 h5) 32 [.J (ab n) j1]=ag {A with az:=n} j1 a7 h5:=(EF (by simp[b])).1 _
def a0w{a:Own}(b:β A.sum=32):putAt (ag A a7 a h5) 33 [.J (ab n) j1]=ag {A with aE:=n} a7 j1 h5:=(EF (by simp[b])).2 _
variable{g w h7:U}{b0:bq}
def cA.put{b:Rd}(a:bq)(c:cA (g.set e b0) i b w)(d:e≠i):cA (g.set e a) i b (w.set e a):=by have:=c.other (ob:=a) d;rwa[υ]at this
theorem a0x(G H:U)(r:Nat)(p:Nat)(a08:p<=8)(z:Rd)(l3:G r=η)(L:cA G r z H):
  AC δ 144 [.ptr r 0,.v (.int .i64 (p:Int))] H λC T=>cA G r (iw p z).2 T/\(iw p z).1.sum.length=32/\(iw p z).1.cL/\∃b f k,C=.agg (ag (iw p z).1 b f k):=by
 have hN:=aV (a7:=.nil) (h5:=.nil) (j1:=.nil) bo;have n:=hN.len;have a09:=hN.t37;refine bh hm Qk σ ?_;have q:∀I,(R.agg I).cells=I:=λ_=>rfl;have K:∀c:Int,(R.v (.int .i64 c)).cells=[.v (.int .i64 c)]:=λ_=>rfl;have s:∀(c)(M),(R.J (ab c) M).cells=[.J (ab c) M]:=λ_ _=>rfl;refine an @cB ?_;refine aR λD l4=>?_;obtain⟨t,N,L⟩:=L.new (ob:=.cells (ag aG .nil .nil .nil)) l4;have l5:G.sub (G.set D (.cells (ag aG .nil .nil .nil))):=ν ι N;have O:(G.set D (.cells (ag aG .nil .nil .nil))) r=none:=by rw[ο _ _ (Θ t)];exact l3
 have u:(G.set D (.cells (ag aG .nil .nil .nil))) D=γ (.cells (ag aG .nil .nil .nil)):=ξ _ _ _;obtain⟨l,l6⟩:∃l:U,l=G.set D (.cells (ag aG .nil .nil .nil)):=⟨_,rfl⟩;rw[<-l6]at L l5 O u;refine bU ?_;refine ak (ZG _ _ r z L) ?_;rintro C a10⟨Q,rfl⟩;unfold iw;have y:=Ed z;generalize nU z=o at*;obtain⟨a,X⟩:=o;simp only at Q y|-;have Y:(dJ a).cells=a.map av:=rfl;have Z:(a.map av).length=32:=by simp[y]
 have k2:putAt (ag aG .nil .nil .nil) 0 (a.map av)=ag ⟨a,[],[],0,0,[]⟩ .nil .nil .nil:=EA bo y;have k3:∀(o)(b f k),β o.sum=32->putAt (ag aG .nil .nil .nil) 0 (ag o b f k)=ag o b f k:=λo b f k l7=>cT bo l7;have cl:∀(h x)(v w)(E)(b f k),rv ⟨a,h,x,v,w,E⟩ b f k (ag ⟨a,h,x,v,w,E⟩ b f k):=λh x v w E b f k=>aV y;have A:=(cl [] [] 0 0 [] .nil .nil .nil).len;have k4:=k3 ⟨a,[],[],0,0,[]⟩ .nil .nil .nil y;refine an (bl @q @Y @Z @cB @k2 @n @A @k4) ?_;refine aR λV l8=>?_;obtain⟨P,k5,l9⟩:=Q.new (ob:=.cells (ag ⟨a,[],[],0,0,[]⟩ .nil .nil .nil)) l8;have m:D≠V:=by rintro rfl;rw[u]at k5;cases k5
 have B:∀W,(l.set V W) r=none:=λW=>by rw[ο _ _ (Θ P)];exact O
 have aa:∀ {W z T},cA (l.set V W) r z T->T V=γ W/\T D=γ (.cells (ag aG .nil .nil .nil)):=λL=>⟨L.get P (ξ _ _ _),L.get t (by rw[ο _ _ m];exact u)⟩;refine an (dz @q @Y @Z @cB @k2 @n @A @k4 @υ) ?_;refine ak (Ei _ _ r 1048576 ε _ l9) ?_;rintro C a11⟨e,rfl⟩;have n0:=Ej 1048576 X;generalize kZ 1048576 X=o at*;obtain⟨d,k6⟩:=o;simp only at e n0|-;have F:=(aa e).1;have c2:=(cl [] [] d 0 [] .nil .nil .nil).len;have n2:putAt (ag ⟨a,[],[],0,0,[]⟩ .nil .nil .nil) 34 [.v (.int .i64 (d))]=ag ⟨a,[],[],d,0,[]⟩ .nil .nil .nil:=EB y;replace e:=e.put (.cells (ag ⟨a,[],[],d,0,[]⟩ .nil .nil .nil)) P;refine an (aL @K (ω F) @A @n2) ?_;refine ak (Ei _ _ r 1048576 ε _ e) ?_;rintro C a13⟨g,rfl⟩;have n3:=Ej 1048576 k6;generalize kZ 1048576 k6=o at*;obtain⟨c,k7⟩:=o;simp only at g n3|-;replace F:=(aa g).1;have aD:=(cl [] [] d c [] .nil .nil .nil).len;have n4:putAt (ag ⟨a,[],[],d,0,[]⟩ .nil .nil .nil) 35 [.v (.int .i64 (c))]=ag ⟨a,[],[],d,c,[]⟩ .nil .nil .nil:=EC y;replace g:=g.put (.cells (ag ⟨a,[],[],d,c,[]⟩ .nil .nil .nil)) P;refine an (aL @K (ω F) @c2 @n4) ?_;refine ak (uW _ _ r p ε _ (B _) g) ?_;rintro C a14⟨i,b,rfl⟩;have n5:=ys p k7;generalize hz p k7=o at*;obtain⟨h,k8⟩:=o;simp only at i n5|-;replace F:=(aa i).1;have aL:=(cl h [] d c [] b .nil .nil).len;have n9:putAt (ag ⟨a,[],[],d,c,[]⟩ .nil .nil .nil) 32 [.J (ab h) b]=ag ⟨a,h,[],d,c,[]⟩ b .nil .nil:=a0v y;replace i:=i.put (.cells (ag ⟨a,h,[],d,c,[]⟩ b .nil .nil)) P;simp -dsimp -implicitDefEqProofs (disch:=first|omega|assumption|(simp only[bd,Nat.reduceAdd];try omega)) only[go_sem,simprocAttr,-List.reduceReplicate,s,ω F,aD,n9];refine ak (uW _ _ r p ε _ (B _) i) ?_;rintro C a15⟨j,f,rfl⟩;have a00:=ys p k8;generalize hz p k8=o at*;obtain⟨x,k9⟩:=o;simp only at j a00|-;replace F:=(aa j).1;have aZ:=(cl h x d c [] b f .nil).len;have a01:putAt (ag ⟨a,h,[],d,c,[]⟩ b .nil .nil) 33 [.J (ab x) f]=ag ⟨a,h,x,d,c,[]⟩ b f .nil:=a0w y;replace j:=j.put (.cells (ag ⟨a,h,x,d,c,[]⟩ b f .nil)) P;simp -dsimp -implicitDefEqProofs (disch:=first|omega|assumption|(simp only[bd,Nat.reduceAdd];try omega)) only[go_sem,simprocAttr,-List.reduceReplicate,s,ω F,aL,a01];refine ak (uW _ _ r p ε _ (B _) j) ?_;rintro C a02⟨S,k,rfl⟩;have a03:=ys p k9;generalize hz p k9=o at*;obtain⟨E,a16⟩:=o;simp only at S a03|-;replace F:=(aa S).1;have l0:=cl h x d c E b f k;have bt:=l0.len;have a04:putAt (ag ⟨a,h,x,d,c,[]⟩ b f .nil) 36 [.J (ab E) k]=ag ⟨a,h,x,d,c,E⟩ b f k:=ED y;replace S:=S.put (.cells (ag ⟨a,h,x,d,c,E⟩ b f k)) P;have l1:=(aa S).2;have a18:=(aa S).1;have a05:=Θ m;have a06:=k3 ⟨a,h,x,d,c,E⟩ b f k y;have a07:a02 D=γ (.cells (ag aG .nil .nil .nil)):=by rw[ο _ _ m]at l1;exact l1
 refine an (hb @s (ω F) @aZ @a04 @ξ @ο @m @a05 (ω a07) l0.t37 @n @bt @a06 @q) ?_;refine⟨_,ι,?_,y,⟨by simp only;omega,by simp only;omega,by simp only;omega⟩,b,f,k,rfl⟩;refine(S.other t).base ?_;intro C a19 l2;have a27:C≠D:=by rintro rfl;rw[N]at l2;cases l2
 have a29:C≠V:=by rintro rfl;simp_all [ο]
 simp_all [ο]
def mU(a:β j=e*i):c8 (g.set t (.cells j)) i (.ar t e e i)=γ (e,j):=by simp[c8,μ (ξ _ _ _),<-a]
def aq.rs{a:Rd}(b:aq (g.set e (jz a a7)) w i j s):cA g e a w:=⟨a7,b.1⟩
def aq.tz{o f:Rd}(p:aq (g.set e (jz o a7)) w i j s)(r:g e=η)(x:cA (w.del e) e f h7):∃c,aq (g.set e (jz f c)) h7 i j s:=by
 obtain⟨c,h⟩:=x;obtain⟨y,d⟩:=p;refine⟨c,π (U.lP (El y r)) h,?_⟩;rcases d with d|⟨k,z,C,D,E,a,F,G⟩
 .exact .inl d
 .have b:k≠e:=by rintro rfl;rw[ξ]at a;cases a
  rw[ο _ _ b]at a;exact .inr ⟨k,z,C,D,E,by rw[ο _ _ b];exact a,h _ _ (by rw[ο _ _ b,U.eX _ b];exact F),G⟩
def hT(f h:U)(a:bO)(k o:R):Prop:=∃b c d,aq f b 2 (flat c) k/\aq b h 37 (flat d) o/\aw dR a.rows c/\aw bA a.kids d/\β a.rows<=100000/\β a.kids<=100000
def hT.sub{a b:U}{c:bO}{d f:R}(h:hT a b c d f):a.sub b:=by obtain⟨p,r,x,k,o,_⟩:=h;exact π k.1 o.1
def hT.L(h:hT w g c0 s b8):∃a b,gB g c0 s b8 a b:=by obtain⟨r,a,b,k,c,d,f,o,p⟩:=h;exact⟨a,b,d,f,(bL.dq k ε rfl (d.cells λ_ _=>dR.cells)).mono c.1,bL.dq c ε rfl (f.cells λ_ _=>bA.cells),o,p⟩
theorem hT.base{a b c:U}{d:bO}{f h:R}(k:hT b c d f h)(o:a.sub b):hT a c d f h:=by obtain⟨p,r,x,y,z,C⟩:=k;exact⟨p,r,x,y.base o,z,C⟩
def hT.mono{a b c:U}{d:bO}{f h:R}(k:hT a b d f h)(o:b.sub c):hT a c d f h:=by obtain⟨p,r,x,y,z,C⟩:=k;exact⟨p,r,x,y,z.mono o,C⟩
theorem hT.set{b c:U}{a:Nat}{p ob:bq}{d:bO}{f h:R}(r:hT b c d f h)(k:b a=γ p):hT (b.set a ob) (c.set a ob) d f h:=by obtain⟨x,y,z,o,C,D⟩:=r;exact⟨x.set a ob,y,z,kj o k,kj C (o.1 _ _ k),D⟩
variable{K:Type}
def EG{a:Rd->K×Rd}{b:Rd}{c:List K}(d:i<e):fy a (e - i) b c=fy a (e -(i+1)) (a b).2 (c++[(a b).1]):=by rw[show e - i=(e -(i+1))+1 by omega];rfl
abbrev yF:R:=.agg [.v (.int .u8 0),.J [] .nil,.J [] .nil]
theorem a0y(W:ϊ)(u:Own)(h:Nat)(a52:1<=h)(n5:h<=8)(n:U)(b25:β W<=1000000000000):
  AC δ 90 [.J (W.map av) u,.v (.int .i64 (h:Int))] n λq C=>n.sub C/\match nX h W with
   |none=>q=.aJ [yF,.v (.int .i64 21)]
   |some v=>∃c L,q=.aJ [kk v c L,.v (.int .i64 0)]/\hT n C v c L:=by
 refine oO λb26=>?_;have a94:u=.nil->W=[]:=λa56=>by simp_all
 refine bh hm OK σ ?_;have w:∀n9,(R.agg n9).cells=n9:=λ_=>rfl;have k3:∀a d b c L l2:R,putAt [a,d,b] 0 [c,L,l2]=[c,L,l2]:=λ_ _ _ _ _ _=>rfl;have k4:∀a d b,aX ζ 3 [a,d,b]=.agg [a,d,b]:=λ_ _ _=>rfl;have a57:∀a d b:R,aX κ 1 ([a,d,b].drop 1)=d:=λ_ _ _=>rfl;have a61:∀a d b:R,aX κ 1 ([a,d,b].drop 2)=b:=λ_ _ _=>rfl;have a95:∀a d b c:R,putAt [a,d,b] 0 [c]=[c,d,b]:=λ_ _ _ _=>rfl;have N:∀a d b:R,[a,d,b].length=3:=λ_ _ _=>rfl;have a96:∀a d c:R,putAt [a,d] 0 [c]=[c,d]:=λ_ _ _=>rfl;have a97:∀a d c:R,putAt [a,d] 1 [c]=[a,c]:=λ_ _ _=>rfl;have a98:∀a d:R,[a,d].length=2:=λ_ _=>rfl;have a99:∀d:Bool,(R.v (.bool d)).cells=[.v (.bool d)]:=λ_=>rfl;have b00:∀(l2)(a62),(R.J (ab l2) a62).cells=[.J (ab l2) a62]:=λ_ _=>rfl;have b01:∀a d b c:R,putAt [a,d,b] 1 [c]=[a,c,b]:=λ_ _ _ _=>rfl;have b02:∀a d b c:R,putAt [a,d,b] 2 [c]=[a,d,c]:=λ_ _ _ _=>rfl;refine bU ?_;refine aR λg a63=>?_;have a11:n.sub (n.set g (.cells [.v (.int .u8 0),.J [] .nil,.J [] .nil])):=ν ι a63;have a00:(n.set g (.cells [.v (.int .u8 0),.J [] .nil,.J [] .nil])) g=γ (.cells [.v (.int .u8 0),.J [] .nil,.J [] .nil]):=ξ _ _ _;obtain⟨O,a65⟩:∃O:U,O=n.set g (.cells [.v (.int .u8 0),.J [] .nil,.J [] .nil]):=⟨_,rfl⟩;rw[<-a65]at a11 a00;have a68:∀(C)(A),n.sub C->n.sub (C.set g A):=λC A j=>ν j a63;refine bU ?_;rw[<-a65];refine ak (Zw W u O a94 ε) ?_;rintro _ b27⟨k,a01,rfl,b03⟩;have b28:g≠k:=by rintro rfl;rw[a00]at a01;cases a01
 refine bU ?_;refine ak (tn _ _ k _ b03) ?_;rintro c b29⟨a69,rfl⟩;have a71:∀f:UInt8×Rd,f=dh ⟨W,0⟩->q6 h W=(⟨f.1,(fy (jE h) (dh f.2).1.toNat (dh f.2).2 []).1,(fy (iw h) (dh (fy (jE h) (dh f.2).1.toNat (dh f.2).2 []).2).1.toNat (dh (fy (jE h) (dh f.2).1.toNat (dh f.2).2 []).2).2 []).1⟩,
   rn (fy (iw h) (dh (fy (jE h) (dh f.2).1.toNat (dh f.2).2 []).2).1.toNat (dh (fy (jE h) (dh f.2).1.toNat (dh f.2).2 []).2).2 []).2):=by rintro f rfl;rfl
 have a73:=a71 _ rfl;clear a71;unfold nX;rw[a73];clear a73;generalize dh ⟨W,0⟩=f at*;obtain⟨T,b04⟩:=f;simp only at a69|-;refine an (c2 @k3 @w) ?_;refine aR λF b05=>?_;obtain⟨B,a13,b06⟩:=a69.new (ob:=.cells [.v (.int .u8 T.toNat),.J [] .nil,.J [] .nil]) b05;have b30:g≠F:=by rintro rfl;rw[a00]at a13;cases a13
 have a14:∀A,(O.set F A) k=none:=λA=>by rw[ο _ _ (Θ B)];exact a01
 refine an (aZ @k3 @w @a95 @N @υ) ?_;refine ak (tn _ _ k _ b06) ?_;rintro c b31⟨a02,rfl⟩;generalize dh b04=f at*;obtain⟨s,a03⟩:=f;simp only at a02|-;have b07:=s.toNat_lt;have a15:IntKind.i64.wrap (s.toNat)=s.toNat:=wrap_i64 ε ε;refine an @a15 ?_;generalize s.toNat=Q at*;have l3:∀D b q C f l4 a,aq ((O.set F (.cells b)).set k (jz q D)) C f l4 a->C F=γ (.cells b)/\C g=γ (.cells [.v (.int .u8 0),.J [] .nil,.J [] .nil]):=λD b q C f l4 a j=>⟨j.1 _ _ (by rw[ο _ _ B,ξ]),j.1 _ _ (by grind[ο])⟩;refine cZ (λz C=>∃(G:Nat)(E:Rd)(P:List (Ω×Bool))(H:ύ)(a:R)(D:Own),G<=Q/\fy (jE h) (Q - G) E P=fy (jE h) Q a03 []/\β P=G/\aw dR P H/\aq ((O.set F (.cells [.v (.int .u8 T.toNat),a,.J [] .nil])).set k (jz E D)) C 2 (flat H) a/\
   z 0=.J (W.map av) u/\z 1=.v (.int .i64 h)/\z 4=.ptr g 0/\z 6=.ptr k 0/\z 7=.ptr F 0/\z 18=.v (.int .i64 Q)/\z 19=.v (.int .i64 G))
  (λz _=>match z 19 with|.v (.int _ v)=>(Q - v).toNat|_=>0) ?_ ?_
 .obtain⟨D,a02⟩:=a02;refine⟨0,a03,[],[],.J [] .nil,D,ε,rfl,rfl,trivial,aq.nil a02,?_⟩;exact nQ
 rintro z b08⟨G,E,P,H,a,D,b32,V,b09,a04,e,o,p,r,x,y,X,Y⟩;by_cases I:(G:Int)<Q
 .refine an (bl @o @p @r @x @y @X @Y @I) ?_;refine ak (ZO _ _ k E (aq.rs e).full) ?_;rintro c k5⟨a16,rfl⟩;rw[EG ε]at V;unfold jE at V;obtain⟨b10,l⟩:=aq.tz e (a14 _) a16;generalize nW E=f at*;obtain⟨k6,K⟩:=f;simp only at l V|-;have cr:=(l3 _ _ _ _ _ _ _ l).1;refine an (cw @o @p @r @x @y @X @Y @I (μ cr) @a57) ?_;refine ak (uW _ _ k h ε K (U.iI _ _) (aq.rs l).full) ?_;rintro c k7⟨l5,a05,rfl⟩;obtain⟨a06,i⟩:=aq.tz l (a14 _) l5;generalize hz h K=f at*;obtain⟨k8,a18⟩:=f;simp only at i V|-;have bl:=(l3 _ _ _ _ _ _ _ i).1;refine an (oP @o @p @r @x @y @X @Y @I (μ bl) @a57 @w @a96 @a97 @a98 @a99 @b00) ?_;refine gY (by simp[ba,τ]) σ λb11 a19=>?_;have a27:=aq.mono i (ν (b0:=.cells (flat [R.agg [.J (ab k8) a05,.v (.bool k6)]])) ι a19);have a29:aw dR (P++[(k8,k6)]) (H++[R.agg [.J (ab k8) a05,.v (.bool k6)]]):=a04.snoc ⟨_,rfl⟩;have l6:(flat H).length=β P*2:=by rw[dg (a04.cells λ_ _=>dR.cells),a04.len]
  simp -dsimp -implicitDefEqProofs (disch:=first|omega|assumption|(simp only[bd,Nat.reduceAdd];try omega)) only[go_sem,simprocAttr,-List.reduceReplicate,o,p,r,x,y,X,Y];refine fN a27 ε (mU rfl) rfl (by rw[l6];simp[flat,τ];omega) (by rw[l6];simp[flat,τ];omega) λl7 b12 t=>?_;have a30:flat H++flat [R.agg [.J (ab k8) a05,.v (.bool k6)]]=flat (H++[R.agg [.J (ab k8) a05,.v (.bool k6)]]):=by simp[flat]
  rw[a30]at t;have dz:=(l3 _ _ _ _ _ _ _ t).1;have a34:=eG t;refine an (gZ @o @p @r @x @y @X @Y (ω dz) @a34 @b01 @N) ?_;refine⟨⟨G+1,a18,P++[(k8,k6)],_,l7,a06,ε,V,by simp[b09],a29,?_,σ⟩,ε⟩;have:=kj (b0:=.cells [.v (.int .u8 T.toNat),l7,.J [] .nil]) t (by rw[ο _ _ B,ξ]);rw[U.er _ (Θ B),υ]at this;exact this
 .obtain rfl:G=Q:=ε;rw[a9U]at V;obtain⟨b13,b14⟩:P=(fy (jE h) G a03 []).1/\E=(fy (jE h) G a03 []).2:=by rw[<-V];trivial
  rw[<-b13,<-b14];refine an (bl @o @p @r @x @y @X @Y @I) ?_;refine ak (tn _ _ k E (aq.rs e).full) ?_;rintro c k5⟨a16,rfl⟩;obtain⟨b10,l⟩:=aq.tz e (a14 _) a16;clear e;generalize dh E=f at*;obtain⟨s,K⟩:=f;simp only at l|-;have b07:=s.toNat_lt;have a15:IntKind.i64.wrap (s.toNat)=s.toNat:=wrap_i64 ε ε;refine an (bt @o @p @r @x @y @a15) ?_;have cr:=(l3 _ _ _ _ _ _ _ l).1;have aL:=(l3 _ _ _ _ _ _ _ l).2;have a74:∀A,((k5.del k).set F A) k=none:=λA=>by rw[ο _ _ (Θ B),U.iI]
  have l8:∀D b q C f l4 a,aq (((k5.del k).set F (.cells b)).set k (jz q D)) C f l4 a->C F=γ (.cells b)/\C g=γ (.cells [.v (.int .u8 0),.J [] .nil,.J [] .nil]):=λD b q C f l4 a j=>⟨j.1 _ _ (by rw[ο _ _ B,ξ]),j.1 _ _ (by grind[ο,U.eX])⟩;obtain⟨b15,b16⟩:∃D,(((k5.del k).set F (.cells [.v (.int .u8 T.toNat),a,.J [] .nil])).set k (jz K D)).sub k5:=by
   obtain⟨D,j⟩:=(aq.rs l).full;refine⟨D,λc u m=>?_⟩;by_cases a56:c=F;grind[ο,ξ,Option.some.inj]
   .by_cases a36:c=k
    .subst a36;rw[ξ]at m;exact j _ _ (by rw[ξ];exact m)
    .rw[ο _ _ a36,ο _ _ a56]at m;exact j _ _ (by rw[ο _ _ a36];exact m)
  generalize s.toNat=Z at*;refine cZ (λz C=>∃(G:Nat)(E:Rd)(S:List aj)(M:ύ)(L:R)(D:Own),G<=Z/\fy (iw h) (Z - G) E S=fy (iw h) Z K []/\β S=G/\aw bA S M/\aq (((k5.del k).set F (.cells [.v (.int .u8 T.toNat),a,L])).set k (jz E D)) C 37 (flat M) L/\
    z 0=.J (W.map av) u/\z 1=.v (.int .i64 h)/\z 4=.ptr g 0/\z 6=.ptr k 0/\z 7=.ptr F 0/\z 36=.v (.int .i64 Z)/\z 37=.v (.int .i64 G))
   (λz _=>match z 37 with|.v (.int _ v)=>(Z - v).toNat|_=>0) ?_ ?_
  .refine⟨0,K,[],[],.J [] .nil,b15,ε,rfl,rfl,trivial,aq.nil b16,?_⟩;exact ch (aZ @o @p @r @x @y)
  clear o p r x y X Y;rintro z b08⟨l9,E,S,M,L,D,b33,V,a81,a07,e,o,p,r,x,y,n0,n2⟩;by_cases I:(l9:Int)<Z
  .have bl:=(l8 _ _ _ _ _ _ _ e).1;refine an (cw @o @p @r @x @y @n0 @n2 @I (μ bl) @a61) ?_;refine ak (a0x _ _ k h n5 E (U.iI _ _) (aq.rs e).full) ?_;rintro c k7⟨l5,a38,a83,k9,l0,l1,rfl⟩;rw[EG ε]at V;obtain⟨a06,i⟩:=aq.tz e (a74 _) l5;have a42:=(aV (a7:=k9) (h5:=l0) (j1:=l1) a38).len;generalize iw h E=f at*;obtain⟨k2,a18⟩:=f;simp only at i V a38 a83 a42|-;have dz:=(l8 _ _ _ _ _ _ _ i).1;refine an (gZ @o @p @r @x @y @n0 @n2 @I (μ dz) @a61 @w) ?_;refine gY (by simp[ba,τ,a42]) σ λb11 a19=>?_;have a27:=aq.mono i (ν (b0:=.cells (flat [R.agg (ag k2 k9 l0 l1)])) ι a19);have a29:aw bA (S++[k2]) (M++[R.agg (ag k2 k9 l0 l1)]):=a07.snoc ⟨a38,a83,_,_,_,rfl⟩;have l6:(flat M).length=β S*37:=by rw[dg (a07.cells λ_ _=>bA.cells),a07.len]
   have a08:(flat [R.agg (ag k2 k9 l0 l1)]).length=1*37:=by simp[flat,τ,a42]
   simp -dsimp -implicitDefEqProofs (disch:=first|omega|assumption|(simp only[bd,Nat.reduceAdd];try omega)) only[go_sem,simprocAttr,-List.reduceReplicate,o,p,r,x,y,n0,n2];refine fN a27 ε (mU a08) a08 (by rw[l6,a08];omega) (by rw[l6,a08];omega) λl7 b12 t=>?_;have a30:flat M++flat [R.agg (ag k2 k9 l0 l1)]=flat (M++[R.agg (ag k2 k9 l0 l1)]):=by simp[flat]
   rw[a30]at t;have dz:=(l8 _ _ _ _ _ _ _ t).1;have a34:=eG t;refine an (gZ @o @p @r @x @y @n0 @n2 (ω dz) @a34 @b02 @N) ?_;refine⟨⟨l9+1,a18,S++[k2],_,l7,a06,ε,V,by simp[a81],a29,?_,σ⟩,ε⟩;have:=kj (b0:=.cells [.v (.int .u8 T.toNat),a,l7]) t (by rw[ο _ _ B,ξ]);rw[U.er _ (Θ B),υ]at this;exact this
  .obtain rfl:l9=Z:=ε;rw[a9U]at V;obtain⟨b17,b18⟩:S=(fy (iw h) l9 K []).1/\E=(fy (iw h) l9 K []).2:=by rw[<-V];trivial
   rw[<-b17,<-b18];refine an (bl @o @p @r @x @y @n0 @n2 @I) ?_;refine ak (ZH _ _ k E (aq.rs e).full) ?_;rintro c k7⟨l5,rfl⟩;obtain⟨a06,i⟩:=aq.tz e (a74 _) l5;clear e;have bl:=(l8 _ _ _ _ _ _ _ i).1;have aL:=(l8 _ _ _ _ _ _ _ i).2;have n3:hT O k7 ⟨T,P,S⟩ a L:=by
    refine⟨_,H,M,?_,i,a04,a07,by simp only;omega,by simp only;omega⟩;obtain⟨b19,a43⟩:=l;refine⟨λc u m=>?_,?_⟩
    .have eH:c≠k:=by rintro rfl;rw[a01]at m;cases m
     have a09:c≠F:=by rintro rfl;rw[a13]at m;cases m
     rw[ο _ _ eH,ο _ _ a09,U.eX _ eH];exact b19 _ _ (by rw[ο _ _ eH,ο _ _ a09];exact m)
    .rcases a43 with a43|⟨d,v,b20,n9,b21,n4,b34,b22⟩
     .exact .inl a43
     .have eH:d≠k:=by rintro rfl;rw[ξ]at n4;cases n4
      rw[ο _ _ eH]at n4;have a09:d≠F:=by grind
      rw[ο _ _ a09]at n4;exact .inr ⟨d,v,b20,n9,b21,n4,by grind[ο,U.eX],b22⟩
   have a47:=π a11 n3.sub;by_cases b:(rn E).e=0
   .simp -dsimp -implicitDefEqProofs (disch:=first|omega|assumption|(simp only[bd,Nat.reduceAdd];try omega)) only[go_sem,simprocAttr,-List.reduceReplicate,o,p,r,x,y,b,μ bl,k4];obtain⟨a84,a86,a48⟩:=n3.L;refine ak (Ex ⟨T,P,S⟩ a84 a86 a L h a52 n5 k7 a48) ?_;rintro _ k7⟨rfl,rfl⟩;cases a88:ea h ⟨T,P,S⟩with
    |false=>refine an (ha @o @p @r @x @y @b (ω aL) @k3 @k4 @N @w @a8q) ?_;grind[ι]
    |true=>
     refine an (dz @o @p @r @x @y @b (μ bl) @k4 @a8n) ?_;refine ak (yD ⟨T,P,S⟩ a84 a86 a L h a52 n5 k7 a48) ?_;rintro q a89⟨a10,a90⟩;rw[tq,if_pos a88]at a90;obtain⟨b23,rfl⟩:=a90;replace n3:=n3.mono a10;replace a47:=π a47 a10;replace bl:=a10 _ _ bl;replace aL:=a10 _ _ aL;refine an (bt @o @p @r @x @y @b) ?_;have a81:=yE n5 a88 λf b24=>(a48.kids.all f b24).1;refine ak (ZN (dX ⟨T,P,S⟩) W b23 u a89 ε) ?_;rintro _ a89⟨rfl,rfl⟩;by_cases a92:dX ⟨T,P,S⟩=W
     .refine an (hb @o @p @r @x @y @b @a92 (μ bl) (ω aL) @k3 @k4 @N @w @a8n) ?_;have:=n3.set (ob:=.cells [.v (.int .u8 T.toNat),a,L]) a00;refine⟨_,ι,a68 _ _ a47,?_⟩;exact⟨a,L,rfl,this.base (a68 _ _ a11)⟩
     .refine an (hb @o @p @r @x @y @b @a92 (μ bl) (ω aL) @k3 @k4 @N @w @a8q) ?_;grind[ι]
   .refine an (gZ @o @p @r @x @y @b (ω aL) @k3 @k4 @N @w) ?_;grind[ι]
def EH:∀(c:List (Ω×Bool))(a:fY),β a.aY.1<=8->β a.aY.2<=8->(c.foldl eu a).aY.1.length<=8/\(c.foldl eu a).aY.2.length<=8
 |[],a,h1,b=>⟨h1,b⟩
 |d::c,a,h1,b=>by
  rw[a8j];refine EH c _ ?_ ?_<;>unfold eu<;>split
  .exact(ru _ _ 8 h1 b tx.1 tx.2).1
  .exact h1
  .exact(ru _ _ 8 h1 b tx.1 tx.2).2
  .exact b
def EI:∀(b:List aj)(a:fY),(∀d∈b,d.o0)->β a.aY.1<=8->β a.aY.2<=8->(b.foldl fw a).aY.1.length<=8/\(b.foldl fw a).aY.2.length<=8
 |[],a,_,h1,c=>⟨h1,c⟩
 |d::b,a,hk,h1,c=>by
  rw[a8j];have:=hk d σ;exact EI b _ (λf h=>hk f (by simp[h])) (ru _ _ 8 h1 c this.az this.aE).1 (ru _ _ 8 h1 c this.az this.aE).2
theorem vi(o:e<=8)(a:ga e c0=γ A):β A.sum=32/\β A.az<=8/\β A.aE<=8/\β A.key<=8:=by
 unfold ga at a;split at a
 .rename_i b;split at a
  .cases a
  .obtain rfl:=Δ a;obtain⟨r,_,_⟩:=iR b;have c:=vg o b;have d:=EH c0.rows ⟨0,β c0.rows,([],[])⟩ σ σ;have f:=EI c0.kids _ c d.1 d.2;refine⟨q7 _,f.1,f.2,?_⟩;simp only[gA,keyOf];split
   .cases h:c0.rows with
    |nil=>simp
    |cons k p=>simp_all
   .split
    .cases h:c0.kids with
     |nil=>simp[aG]
     |cons k p=>exact(c k (by rw[h];simp)).key
    .simp
 .cases a
def EJ(a:e<=8)(b:ga e c0=γ A):A.cL:=by obtain⟨_,c,d,f⟩:=vi a b;exact⟨ε,ε,ε⟩
variable{H:af}
theorem bz.len(b:bz g e i H){a:ϊ}(c:β O=32)(d:H.m O=γ a):β a<=1000000000000:=by obtain⟨f,_,h⟩:=b.mp;grind
def di(d:af)(a:Nat)(b:aj):Option bO:=
 match d.m b.sum with
 |none=>η
 |some f=>match nX a f with
  |none=>η
  |some c=>if ga a c=γ b then γ c else η
theorem vj(r:U)(X l0:Nat)(V:af)(l1:bz r X l0 V)(c:aj)(W e g:Own)(v:β c.sum=32)(a36:V.m c.sum≠η->c.cL)(z:Nat)(l2:1<=z)(w:z<=8):
  AC δ 47 [.ptr X 0,.agg (ag c W e g),.v (.int .i64 (z:Int))] r λi F=>r.sub F/\match di V z c with
   |none=>i=.aJ [yF,.v (.int .i64 21)]
   |some C=>∃d f,i=.aJ [kk C d f,.v (.int .i64 0)]/\hT r F C d f:=by
 refine bh hm Nx σ ?_;have a:∀l3,(R.agg l3).cells=l3:=λ_=>rfl;have h:∀G x L d f l4:R,putAt [G,x,L] 0 [d,f,l4]=[d,f,l4]:=λ_ _ _ _ _ _=>rfl;have o:∀G x L,aX ζ 3 [G,x,L]=.agg [G,x,L]:=λ_ _ _=>rfl;have k:∀G x L:R,[G,x,L].length=3:=λ_ _ _=>rfl;have Y:=aV (a7:=W) (h5:=e) (j1:=g) v;have A:=Y.len;have B:=(aV (a7:=.nil) (h5:=.nil) (j1:=.nil) bo).len;refine an (c2 @a @A) ?_;refine aR λj a06=>?_;refine an (c2 @a @A) ?_;refine aR λy H=>?_;have I:j≠y:=by rintro rfl;rw[ξ]at H;cases H
 have l5:r y=none:=by rw[ο _ _ (Θ I)]at H;exact H
 have a38:=Θ I;obtain⟨P,K⟩:∃P:U,P=(r.set j (.cells (ag c W e g))).set y (.cells [.v (.int .u8 0),.J [] .nil,.J [] .nil]):=⟨_,rfl⟩;have l6:r.sub P:=by rw[K];exact ν (ν ι a06) l5
 have aL:P j=γ (.cells (ag c W e g)):=by rw[K,ο _ _ I,ξ]
 have bt:P y=γ (.cells [.v (.int .u8 0),.J [] .nil,.J [] .nil]):=by rw[K,ξ]
 have Z:∀(F)(M),r.sub F->r.sub (F.set y M):=λF M a07=>ν a07 l5;have a08:R.agg (c.sum.map av)=dJ c.sum:=rfl;simp -dsimp -implicitDefEqProofs (disch:=first|omega|assumption|(simp only[bd,Nat.reduceAdd];try omega)) only[go_sem,simprocAttr,-List.reduceReplicate,a,A,ο,I,ξ,Y.t32];rw[<-K,a08];refine ak (a0b P X l0 V (l1.mono l6) c.sum v) ?_;rintro i a09⟨k2,b⟩;have k3:=π l6 k2;have k4:=k2 _ _ bt;have a10:=k2 _ _ aL;unfold di;cases hm:V.m c.sum with
 |none=>rw[hm]at b;obtain rfl:=b;refine an (aZ @a (ω k4) @h @k @o) ?_;exact⟨_,ι,Z _ _ k3⟩
 |some x=>
  rw[hm]at b;obtain⟨M,rfl⟩:=b;refine an @a ?_;refine ak (a0y x M z l2 w a09 (l1.len v hm)) ?_;rintro i l7⟨k5,b⟩;have a11:=π k3 k5;have l8:=k5 _ _ k4;have a13:=k5 _ _ a10;simp only;cases l9:nX z x with
  |none=>
   rw[l9]at b;obtain rfl:=b;refine an (aD @a @h @k) ?_;refine aR λD n0=>?_;have k6:y≠D:=by grind
   have a14:=Θ k6;refine an (dz @a @h @k @o @υ @ο @k6 @a14 (ω l8)) ?_;grind[ι,π,ν]
  |some C=>
   rw[l9]at b;obtain⟨d,f,rfl,S⟩:=b;simp -dsimp -implicitDefEqProofs (disch:=first|omega|assumption|(simp only[bd,Nat.reduceAdd];try omega)) only[go_sem,simprocAttr,-List.reduceReplicate,a,h,k,o];refine aR λD n0=>?_;have k6:y≠D:=by grind
   have a42:j≠D:=by grind
   obtain⟨l,k7⟩:∃l:U,l=l7.set D (.cells [.v (.int .u8 (C.kind.toNat)),d,f]):=⟨_,rfl⟩;have E:l7.sub l:=by rw[k7];exact ν ι n0
   have cw:l D=γ (.cells [.v (.int .u8 (C.kind.toNat)),d,f]):=by rw[k7,ξ]
   refine an (aZ @a @h @k @o @υ) ?_;rw[<-k7];obtain⟨a15,a16,a18⟩:=(S.mono E).L;refine ak (EE C a15 a16 d f z l2 w l a18) ?_;rintro i n2⟨n3,b⟩;replace E:=π E n3;replace S:=S.mono E;have N:=E _ _ l8;have n4:=E _ _ a13;have n5:=n3 _ _ cw;have a19:=π a11 E;cases m:ga z C with
   |none=>
    rw[m]at b;obtain rfl:=b;have a27:putAt (ag aG .nil .nil .nil) 0 (ag aG .nil .nil .nil)=ag aG .nil .nil .nil:=cT bo bo;simp -dsimp -implicitDefEqProofs (disch:=first|omega|assumption|(simp only[bd,Nat.reduceAdd];try omega)) only[go_sem,simprocAttr,-List.reduceReplicate,a,h,k,o,cB,B];refine aR λT p=>?_;have O:y≠T:=by rintro rfl;rw[N]at p;cases p
    have n9:=Θ O;refine an (ha @a @h @k @o @cB @B @a27 @υ @ο @O @n9 (ω N)) ?_;grind[ι,π,ν]
   |some n=>
    rw[m]at b;obtain⟨q,s,t,rfl⟩:=b;have k8:=(vi w m).1;have a29:=EJ w m;have a00:=aV (a7:=q) (h5:=s) (j1:=t) k8;have a01:=a00.len;have a02:putAt (ag aG .nil .nil .nil) 0 (ag n q s t)=ag n q s t:=cT bo k8;refine an (bl @a @h @k @o @cB @B @a01 @a02) ?_;refine aR λT p=>?_;have O:y≠T:=by rintro rfl;rw[N]at p;cases p
    have n9:=Θ O;have a30:j≠T:=by rintro rfl;rw[n4]at p;cases p
    have a43:D≠T:=by rintro rfl;rw[n5]at p;cases p
    obtain⟨u,a03⟩:∃u:U,u=n2.set T (.cells (ag n q s t)):=⟨_,rfl⟩;have Q:n2.sub u:=by rw[a03];exact ν ι p
    refine an (oP @a @h @k @o @cB @B @a01 @a02 @υ @ξ @ο @a30 a00.t37 Y.t37 (μ n4) @A) ?_;rw[<-a03];have a04:=Q _ _ N;have a05:=Q _ _ n5;have a34:=π a19 Q;replace S:=S.mono Q;refine ak (Ew n c q s t W e g u k8 v λ_=>a29) ?_;rintro _ u⟨rfl,rfl⟩;by_cases k9:n=c
    .refine an (bl @a @h @k @o @k9 @a8n (μ a05) (ω a04)) ?_;have:=S.set (ob:=.cells [.v (.int .u8 (C.kind.toNat)),d,f]) k4;refine⟨_,ι,Z _ _ a34,?_⟩;simp only[m,k9,if_true];exact⟨d,f,rfl,this.base (Z _ _ k3)⟩
    .refine an (bl @a @h @k @o @k9 @a8q (μ a05) (ω a04)) ?_;grind[ι]
theorem Ext.set{d f a:Nat}{b h:U}{ob:bq}(o:Ext d f b h)(p:b a=η):Ext d f b (h.set a ob):=λk r x y c=>by
 have z:k≠a:=by rintro rfl;rw[p]at c;cases c
 rw[ο _ _ z];exact o k r x y c
theorem a0z(b:U)(p F:Nat)(t:af)(W:bz b p F t)(a:bO)(u v:ύ)(G L:R)(k:Nat)(Y:1<=k)(g:k<=8)(w:gB b a G L u v):
  AC δ 171 [.ptr p 0,kk a G L,.v (.int .i64 (k:Int))] b λi r=>match ga k a with
   |none=>b.sub r/\i=.aJ [.agg (ag aG .nil .nil .nil),.v (.int .i64 1)]
   |some A=>bz r p F (fc t (dX a))/\Ext p F b r/\∃l9 n0 n2,i=.aJ [.agg (ag A l9 n0 n2),.v (.int .i64 0)]:=by
 refine bh hm R2 σ ?_;have c:∀Z,(R.agg Z).cells=Z:=λ_=>rfl;have k2:∀x y z,aX ζ 3 [x,y,z]=.agg [x,y,z]:=λ_ _ _=>rfl;have B:∀x y z:R,[x,y,z].length=3:=λ_ _ _=>rfl;have k3:∀x y z:R,List.take 3 [x,y,z]=[x,y,z]:=λ_ _ _=>rfl;have C:=(aV (a7:=.nil) (h5:=.nil) (j1:=.nil) bo).len;have n3:=(aV (a7:=.nil) (h5:=.nil) (j1:=.nil) bo).t37;have k4:putAt (ag aG .nil .nil .nil) 0 (ag aG .nil .nil .nil)=ag aG .nil .nil .nil:=cT bo bo;refine an (c2 @c @B) ?_;refine aR λj n4=>?_;refine an (aD @c @cB @C) ?_;refine aR λd l=>?_;have H:j≠d:=by rintro rfl;rw[ξ]at l;cases l
 have D:b d=none:=by rw[ο _ _ (Θ H)]at l;exact l
 obtain⟨P,m⟩:∃P:U,P=(b.set j (.cells [.v (.int .u8 (a.kind.toNat)),G,L])).set d (.cells (ag aG .nil .nil .nil)):=⟨_,rfl⟩;have k5:b.sub P:=by rw[m];exact ν (ν ι n4) D
 have aL:P j=γ (.cells [.v (.int .u8 (a.kind.toNat)),G,L]):=by rw[m,ο _ _ H,ξ]
 have bt:P d=γ (.cells (ag aG .nil .nil .nil)):=by rw[m,ξ]
 have a08:∀(r)(k6),b.sub r->b.sub (r.set d k6):=λr k6 f=>ν f D;refine an (dz @c @cB @C @B @k2 @k3 @ο @H @ξ) ?_;rw[<-m];refine ak (EE a u v G L k Y g P (w.mono k5)) ?_;rintro i k7⟨I,E⟩;have k8:=π k5 I;have k9:=I _ _ aL;have n:=I _ _ bt;cases K:ga k a with
 |none=>
  rw[K]at E;obtain rfl:=E;simp -dsimp -implicitDefEqProofs (disch:=first|omega|assumption|(simp only[bd,Nat.reduceAdd];try omega)) only[go_sem,simprocAttr,-List.reduceReplicate,c,cB,C,k4];refine aR λo h=>?_;have l0:d≠o:=by rintro rfl;rw[n]at h;cases h
  have n5:=Θ l0;refine an (cw @c @cB @C @k4 @n3 @υ @ο @l0 @n5 (ω n)) ?_;grind[ι,π,ν]
 |some q=>
  rw[K]at E;obtain⟨S,T,V,rfl⟩:=E;have l1:ea k a=true:=by grind[ga]
  have l2:=(vi g K).1;have l3:=aV (a7:=S) (h5:=T) (j1:=V) l2;have M:=l3.len;have N:putAt (ag aG .nil .nil .nil) 0 (ag q S T V)=ag q S T V:=cT bo l2;refine an (aZ @c @cB @C @M @N) ?_;refine aR λo h=>?_;have n9:j≠o:=by rintro rfl;rw[k9]at h;cases h
  have s:=Ν k8 h;have a09:d≠o:=by rintro rfl;rw[n]at h;cases h
  obtain⟨e,O⟩:∃e:U,e=k7.set o (.cells (ag q S T V)):=⟨_,rfl⟩;have l4:k7.sub e:=by rw[O];exact ν ι h
  have bl:e o=γ (.cells (ag q S T V)):=by rw[O,ξ]
  refine an (ha @c @cB @C @M @N @υ @ο @n9 (μ k9) @k2 @B @k3) ?_;rw[<-O];have l5:=π k8 l4;refine ak (yD a u v G L k Y g e (w.mono l5)) ?_;rintro i a00⟨Q,E⟩;rw[tq,if_pos l1]at E;obtain⟨a01,rfl⟩:=E;have l6:=π l5 Q;have a10:=yE g l1 λA a02=>(w.kids.all A a02).1;refine an @c ?_;refine ak (a0d a00 p F t (W.mono l6) (dX a) a01 ε) ?_;rintro _ a11⟨rfl,a03,X⟩;have l7:d≠p:=by rintro rfl;obtain⟨_,_,f⟩:=W.at_;rw[f]at D;cases D
  have l8:d≠F:=by rintro rfl;obtain⟨_,⟨_,_,f,_⟩,_⟩:=W.mp;rw[f]at D;cases D
  have a04:o≠p:=by rintro rfl;obtain⟨_,_,f⟩:=W.at_;rw[f]at s;cases s
  have a05:o≠F:=by rintro rfl;obtain⟨_,⟨_,_,f,_⟩,_⟩:=W.mp;rw[f]at s;cases s
  have a06:=X _ _ l7 l8 (Q _ _ (l4 _ _ n));have a07:=X _ _ a04 a05 (Q _ _ bl);refine an (cr @c (μ a07) (ω a06) l3.t37 @M @C @N) ?_;refine⟨_,ι,a03.other (ο _ _ (Θ l7)) (ο _ _ (Θ l8)),?_,S,T,V,rfl⟩;exact((Ext.of l6).trans X).set D
end Go.Proofs.YtgchlmdfldnhnaaGreat
namespace Go.a6
def val:List Bool->Nat
 |[]=>0
 |b::a=>(if b then 2^β a else 0)+val a
theorem o1:∀a:List Bool,val a<2^β a
 |[]=>by simp[val]
 |b::a=>by
  have:=o1 a;simp only[val,a7I,abJ];split<;>omega
def lexB:List Bool->List Bool->Bool
 |b::c,a::d=>if b=a then lexB c d else a
 |_,_=>κ
def qa:∀ {a b:List Bool},β a=β b->(val a<val b↔lexB a b=ζ)
 |[],[],_=>by trivial
 |d::a,f::b,h=>by
  have c:β a=β b:=by simpa using h
  have k:=o1 a;have o:=o1 b;simp only[val,lexB];rw[c]at k|-;cases d<;>cases f<;>simp[<-qa c]<;>omega
theorem val_inj:∀ {a b:List Bool},β a=β b->val a=val b->a=b
 |[],[],_,_=>rfl
 |f::a,h::b,k,c=>by
  have d:β a=β b:=by simpa using k
  have o:=o1 a;have p:=o1 b;simp only[val]at c;rw[d]at o c;have:f=h:=by grind
  subst this;rw[val_inj d ε]
theorem EK{b c a d:List Bool}(f:β b=β a):lexB (b++c) (a++d)=if b=a then lexB c d else lexB b a:=by
 induction b generalizing a with
 |nil=>grind
 |cons h b ih=>
  match a,f with
  |k::a,f=>grind[lexB]
def gb(a:ϋ)(b:Nat):List Bool:=a.map (·.testBit b)
def ct(a:ϋ):Nat->List Bool
 |0=>[]
 |b+1=>gb a b++ct a b
def EL(b:ϋ):∀a,(ct b a).length=β b*a
 |0=>by rfl
 |a+1=>by simp[ct,gb,EL b a,Nat.mul_succ];omega
def pick(b:(Nat×Nat)×Nat)(a:Nat×Nat):(Nat×Nat)×Nat:=
 if b.2<a.1^^^a.2/\b.2<b.2^^^(a.1^^^a.2)then(a,a.1^^^a.2)else b
variable{e i t I b3 e5:Nat}
def a0A(a:i<2^e)(b:t<2^e):i^^^t<2^e:=aag a b
def vk(a:e.testBit i=ζ):2^i<=e:=Nat.ge_two_pow_of_testBit a
theorem tA(a:e<2^(i+1))(b:e.testBit i=κ):e<2^i:=by grind[Nat.lt_pow_two_of_testBit,Nat.testBit_lt_two_pow,Nat.lt_of_lt_of_le,Nat.pow_le_pow_right]
def EM{c:Nat}:∀(d:List (Nat×Nat))(b:(Nat×Nat)×Nat),b.2.testBit c=ζ->b.2<2^(c+1)->(∀a∈d,a.1^^^a.2<2^(c+1))->d.foldl pick b=b
 |[],b,_,_,_=>rfl
 |a::d,b,h,k,o=>by
  have f:=o a σ;have:pick b a=b:=by
   simp only[pick];rw[if_neg];rintro⟨r,x⟩;have y:=vk h;cases bW:(a.1^^^a.2).testBit c with
   |false=>have:=tA f bW;omega
   |true=>
    have p:(b.2^^^(a.1^^^a.2)).testBit c=false:=by rw[aaP,h,bW];rfl
    have:=tA (a0A k f) p;omega
  rw[a8j,this];exact EM d b h k (λa f=>o a (by simp[f]))
theorem a0B{b:(Nat×Nat)×Nat}{a:Nat×Nat}(c:b.2<2^e)(d:(a.1^^^a.2).testBit e=ζ):pick b a=(a,a.1^^^a.2):=by simp only[pick];refine if_pos ⟨a8F c (vk d),a8F c (vk ?_)⟩;grind[Nat.testBit_lt_two_pow]
theorem EN(b:i.testBit e=κ)(c:t.testBit e=ζ)(d:∀a,e<a->i.testBit a=t.testBit a):i<t:=by
 have f:i>>>(e+1)=t>>>(e+1):=aa1 λa=>by
  grind
 have h:i%2^(e+1)<2^e:=tA (a9w _ (Nat.two_pow_pos _)) (by grind);have k:2^e<=t%2^(e+1):=vk (by grind);grind[Nat.div_add_mod,Nat.shiftRight_eq_div_pow]
theorem a0C(k:i^^^t<2^(e+1))(b:i.testBit e≠t.testBit e):i<t↔t.testBit e=true:=by
 have f:∀a,e<a->i.testBit a=t.testBit a:=λa h=>by
  have o:(i^^^t).testBit a=false:=a9d (a8F k (a9a ε ε));simp_all
 cases c:t.testBit e with
 |true=>
  have d:i.testBit e=false:=by rw[c]at b;simpa using b
  simp only[iff_true];exact EN d c f
 |false=>
  have d:i.testBit e=true:=by rw[c]at b;simpa using b
  have:=EN c d (λa h=>(f a h).symm);grind
theorem EO(a:Nat):∀(b c:ϋ),β b=β c->(∀f∈b.zip c,f.1^^^f.2<2^(a+1))->gb b a≠gb c a->∀k:(Nat×Nat)×Nat,k.2<2^a->
  (((b.zip c).foldl pick k).1.1<((b.zip c).foldl pick k).1.2↔lexB (gb b a) (gb c a)=ζ)
 |[],[],_,_,r,_,_=>absurd rfl r
 |o::b,p::c,D,x,y,k,z=>by
  have E:β b=β c:=by simpa using D
  have d:=x (o,p) σ;simp only[List.zip_cons_cons,a8j,gb,a7O,lexB]at y|-;by_cases h:o.testBit a=p.testBit a
  .rw[if_pos h];have F:(o^^^p).testBit a=false:=by rw[aaP,h];simp
   refine EO a b c E (λf d=>x f (by simp[d])) (λr=>y ?_) _ ?_
   .rw[h];exact congrArg _ r
   .simp only[pick];split
    .exact tA d F
    .exact z
  .rw[if_neg h];have C:(o^^^p).testBit a=true:=by simp_all
   rw[a0B z C,EM _ _ C d (λf d=>x f (by simp[d]))];exact a0C d h
variable{j7:ϋ}
theorem a0D{b:ϋ}(o:β j7=β b)(f:∀a∈j7.zip b,a.1^^^a.2<2^(e+1))(h:gb j7 e=gb b e):∀a∈j7.zip b,a.1^^^a.2<2^e:=by
 intro a c;refine tA (f a c) ?_;obtain⟨d,k,rfl⟩:=a8e c;simp only[List.length_zip]at k;have p:(gb j7 e)[d]?=(gb b e)[d]? :=by rw[h]
 grind[gb,List.getElem?_eq_getElem,Option.some.injEq]
theorem EP:∀(d:Nat)(b c:ϋ),β b=β c->(∀f∈b.zip c,f.1^^^f.2<2^d)->∀a:Nat×Nat,a∈b.zip c->
  (((b.zip c).foldl pick (a,0)).1.1<((b.zip c).foldl pick (a,0)).1.2↔lexB (ct b d) (ct c d)=ζ)
 |0,b,c,k,o,a,p=>by
  have:∀(h:List (Nat×Nat)),(∀f∈h,f.1^^^f.2<2^0)->h.foldl pick (a,0)=(a,0):=by
   intro h
   induction h with
   |nil=>intro _;rfl
   |cons f h ih=>simp_all [pick]
  rw[this _ o];have y:=o a p;have r:a.1=a.2:=aa1 λx=>by
   have z:(a.1^^^a.2).testBit x=false:=by simp_all
   grind
  simp[ct,lexB,r]
 |d+1,b,c,k,o,a,p=>by
  simp only[ct];rw[EK (by simp[gb,k])];by_cases he:gb b d=gb c d
  .rw[if_pos he];exact EP d b c k (a0D k o he) a p
  .rw[if_neg he];grind[EO,Nat.two_pow_pos]
theorem a0E{c:ϋ}(k:β j7=β c):∀a,ct j7 a=ct c a->(∀d∈j7,d<2^a)->(∀d∈c,d<2^a)->j7=c:=by
 intro a o r x;have p:∀a,ct j7 a=ct c a->∀b,b<a->gb j7 b=gb c b:=by
  intro a
  induction a with
  |zero=>intro _ b f;omega
  |succ a ih=>grind[ct,List.append_inj,gb]
 refine abc k λh y z=>aa1 λb=>?_;by_cases f:b<a
 .have C:(gb j7 b)[h]?=(gb c b)[h]? :=by rw[p a o b f]
  grind[gb,List.getElem?_eq_getElem]
 grind[Nat.lt_of_lt_of_le,List.getElem_mem,Nat.pow_le_pow_right,Nat.testBit_lt_two_pow]
def iT:Nat->List Bool->ϊ
 |0,_=>[]
 |b+1,a=>φ (val (a.take 8))::iT b (a.drop 8)
def ER:∀(a:Nat)(b:List Bool),(iT a b).length=a
 |0,_=>rfl
 |a+1,b=>by simp[iT,ER a]
def tB:ϊ->ϊ->Bool
 |a::c,b::d=>if a=b then tB c d else decide (a<b)
 |_,_=>κ
theorem a0F(b:e<256)(c:i<256)(a:φ e=φ i):e=i:=by have:=congrArg UInt8.toNat a;grind[UInt8.toNat_ofNat',Nat.mod_eq_of_lt]
theorem ES:∀(c:Nat)(a b:List Bool),β a=8*c->β b=8*c->tB (iT c a) (iT c b)=lexB a b
 |0,a,b,d,p=>by
  obtain rfl:=a7y (by simpa using d);obtain rfl:=a7y (by simpa using p);rfl
 |c+1,a,b,r,hm=>by
  have f:(a.take 8).length=8:=Ι;have h:(b.take 8).length=8:=Ι;have k:val (a.take 8)<256:=by grind[o1]
  have o:val (b.take 8)<256:=by grind[o1]
  have ih:=ES c (a.drop 8) (b.drop 8) Ι Ι
  conv=>rhs;rw[<-a8d 8 a,<-a8d 8 b]
  rw[EK (f.trans h.symm)];simp only[iT,tB];by_cases he:a.take 8=b.take 8
  .rw[he];simp[ih]
  .rw[if_neg he,if_neg (λd=>he (val_inj (f.trans h.symm) (a0F k o d)))];have:=qa (f.trans h.symm);have x:φ (val (a.take 8))<φ (val (b.take 8))↔val (a.take 8)<val (b.take 8):=by rw[UInt8.lt_iff_toNat_lt];simp[a9c k,a9c o]
   simp_all
def a0G{b a c:List Bool}(d:β b=β a)(f:β a=β c)(h:lexB b a=ζ)(k:lexB a c=ζ):lexB b c=true:=by rw[<-qa d]at h;rw[<-qa f]at k;rw[<-qa (d.trans f)];omega
theorem a0H{a b:List Bool}(c:β a=β b)(d:lexB a b=κ)(f:lexB b a=κ):a=b:=by refine val_inj c ?_;have h:=qa c;have k:=qa c.symm;grind
end Go.a6
namespace Go.Proofs.YtgchlmdfldnhnaaGreat
open Go Go.bw
variable{e i t I b3 e5:Nat}
theorem ET(b:e<18446744073709551616)(c:i<18446744073709551616):bj .xor (.int .u64 (e:Int)) (.int .u64 (i:Int))=γ (.int .u64 ((e^^^i:Nat):Int)):=by
 have d:bj .xor (.int .u64 (e)) (.int .u64 (i))=γ (.int .u64 (IntKind.u64.wrap (ς 64 (e)^^^ς 64 (i)).toNat)):=rfl;have f:∀a:Nat,a<18446744073709551616->(ς 64 (a)).toNat=a:=λa h=>by simp;omega
 grind[Nat.xor_lt_two_pow,BitVec.toNat_xor,wrap_u64]
def oX(a:Int):cx a<18446744073709551616:=(ς 64 a^^^ς 64 9223372036854775808).isLt
def EU(b:Int)(a:U):AC δ 283 [.v (.int .i64 b)] a λc d=>d=a/\c=.v (.int .u64 (cx b:Int)):=by refine bh hm TP σ ?_;refine an @E6 ?_;exact⟨a,ι,rfl⟩
def a0I(a:Int)(b:U):AC δ 282 [.v (.int .i64 a)] b λd f=>f=b/\d=.v (.bool (decide (1<=a)&&decide (a<=8))):=by
 refine bh hm TN σ ?_;by_cases c:1<=a
 .refine an @c ?_;exact⟨b,ι,by simp[]⟩
 .refine an @c ?_;exact⟨b,ι,by simp[]⟩
def hd(b:(Int×Int)×Nat)(a:Int×Int):(Int×Int)×Nat:=
 if b.2<cx a.1^^^cx a.2/\b.2<b.2^^^(cx a.1^^^cx a.2)then(a,cx a.1^^^cx a.2)else b
def bE(a b:Ω):Bool:=
 if 1<=β a/\β a<=8/\β b=β a then
  decide (((a.zip b).foldl hd ((a.zip b).headD (0,0),0)).1.1<((a.zip b).foldl hd ((a.zip b).headD (0,0),0)).1.2)
 else κ
theorem yG(a c:Ω)(i j:Own)(D:U):
  AC δ 243 [.J (ab a) i,.J (ab c) j] D λI L=>L=D/\I=.v (.bool (bE a c)):=by
 refine bh hm SX σ ?_;have C:=bn (n:=a);have P:=bn (n:=c);refine an @C ?_;refine ak (a0I _ _) ?_;rintro _ D⟨rfl,rfl⟩;unfold bE;by_cases h1:1<=β a/\β a<=8
 .have l:(1:Int)<=β a:=ε;have m:(β a:Int)<=8:=ε;by_cases n:(β c:Int)=β a
  .have S:β c=β a:=ε;rw[if_pos ⟨h1.1,h1.2,S⟩];refine an (bt @C @P @l @m @n @a8n) ?_;have Z:(a.zip c).length=β a:=by simp[S]
   have q:∀b,b<β a->∃d,(a.zip c)[b]?=γ d/\a[b]?=γ d.1/\c[b]?=γ d.2:=λb K=>by
    simp_all
   obtain⟨E,F,M,N⟩:=q 0 ε;have O:(a.zip c).headD (0,0)=E:=by
    cases s:a.zip c with
    |nil=>rw[s]at F;cases F
    |cons k2 k3=>rw[s]at F;simpa using F
   rw[O];refine cZ (λh L=>∃(b k:Nat)(f:(Int×Int)×Nat),b<=β a/\k<β a/\L=D/\f=((a.zip c).take b).foldl hd (E,0)/\f.2<18446744073709551616/\a[k]?=γ f.1.1/\c[k]?=γ f.1.2/\
     h 0=.J (ab a) i/\h 1=.J (ab c) j/\h 5=.v (.int .i64 k)/\h 6=.v (.int .u64 f.2)/\h 21=.v (.int .i64 (β a))/\h 22=.v (.int .i64 b))
    (λh _=>match h 22 with|.v (.int _ Q)=>β a - Q.toNat|_=>0) ⟨0,0,(E,0),ε,ε,rfl,σ,σ,M,N,?_⟩ ?_
   .exact ch @C
   rintro h t⟨b,k,f,K,u,rfl,T,G,V,W,o,p,r,x,y,z⟩;by_cases e:(b:Int)<β a
   .obtain⟨d,X,v,w⟩:=q b ε;have Y:((a.zip c).take (b+1)).foldl hd (E,0)=hd f d:=by rw[a8E,X,a9z,<-T];rfl
    simp -dsimp -implicitDefEqProofs (disch:=first|omega|assumption|(simp only[bd,Nat.reduceAdd];try omega)) only[go_sem,simprocAttr,-List.reduceReplicate,o,p,r,x,y,z,e,gN v,gN w,oW];refine ak (EU d.1 _) ?_;rintro _ t⟨rfl,rfl⟩;simp -dsimp -implicitDefEqProofs (disch:=first|omega|assumption|(simp only[bd,Nat.reduceAdd];try omega)) only[go_sem,simprocAttr,-List.reduceReplicate,o,p,r,x,y,z,e,gN v,gN w,oW];refine ak (EU d.2 _) ?_;rintro _ t⟨rfl,rfl⟩;have A:cx d.1^^^cx d.2<18446744073709551616:=aag (n:=64) (oX _) (oX _);have k4:f.2^^^(cx d.1^^^cx d.2)<18446744073709551616:=aag (n:=64) G A;have c3:=ET (oX d.1) (oX d.2);have bS:=ET G A;rw[hd]at Y;generalize cx d.1^^^cx d.2=B at*;by_cases g:(f.2)<(B:Int)
    .by_cases H:(f.2)<((f.2^^^B):Int)
     .simp -dsimp -implicitDefEqProofs (disch:=first|omega|assumption|(simp only[bd,Nat.reduceAdd];try omega)) only[go_sem,simprocAttr,-List.reduceReplicate,o,p,r,x,y,z,c3,bS,g,H];grind
     .simp -dsimp -implicitDefEqProofs (disch:=first|omega|assumption|(simp only[bd,Nat.reduceAdd];try omega)) only[go_sem,simprocAttr,-List.reduceReplicate,o,p,r,x,y,z,c3,bS,g,H];refine⟨⟨b+1,k,f,ε,u,?_,G,V,W,?_⟩,ε⟩
      .grind
      .simp
    .simp -dsimp -implicitDefEqProofs (disch:=first|omega|assumption|(simp only[bd,Nat.reduceAdd];try omega)) only[go_sem,simprocAttr,-List.reduceReplicate,o,p,r,x,y,z,c3,bS,g];refine⟨⟨b+1,k,f,ε,u,?_,G,V,W,?_⟩,ε⟩
     .grind
     .simp
   .obtain rfl:b=β a:=ε;rw[a7x ε]at T;simp -dsimp -implicitDefEqProofs (disch:=first|omega|assumption|(simp only[bd,Nat.reduceAdd];try omega)) only[go_sem,simprocAttr,-List.reduceReplicate,o,p,r,x,y,z,e,gN V,gN W,oW];exact⟨_,ι,rfl,by rw[T]⟩
  .have S:¬β c=β a:=ε;refine an (bt @C @P @l @m @n @a8n) ?_;exact⟨_,ι,rfl,by simp_all⟩
 .have:(decide ((1:Int)<=β a)&&decide ((β a:Int)<=8))=false:=by grind
  refine an (aL @C @P @this @a8q) ?_;exact⟨_,ι,rfl,by grind⟩
def mV(a b:Ω):Int:=if bE a b=ζ then -1 else if bE b a=ζ then 1 else 0
def EV(a b:Ω)(d f:Own)(c:U):
  AC δ 175 [.J (ab a) d,.J (ab b) f] c λh k=>k=c/\h=.v (.int .i64 (mV a b)):=by
 refine bh hm Ra σ ?_;refine bU ?_;refine ak (yG a b d f c) ?_;rintro _ c⟨rfl,rfl⟩;unfold mV;cases h1:bE a b with
 |true=>refine bU ?_;exact⟨_,ι,rfl⟩
 |false=>
  refine bU ?_;refine ak (yG b a f d c) ?_;rintro _ c⟨rfl,rfl⟩;cases o:bE b a with
  |true=>refine bU ?_;exact⟨_,ι,rfl⟩
  |false=>refine bU ?_;exact⟨_,ι,rfl⟩
end Go.Proofs.YtgchlmdfldnhnaaGreat
namespace Go.a6
variable{K:Type}
def fm:Nat->List K->List (List K)
 |0,_=>[]
 |b+1,a=>a.take (β a/(b+1)+if 0<β a%(b+1)then 1 else 0)::fm b (a.drop (β a/(b+1)+if 0<β a%(b+1)then 1 else 0))
def bV(a:Nat):Nat:=(a+3)/4
def chunks(a:List K):List (List K):=fm (bV (β a)) a
theorem EW:∀(a:Nat)(b:List K),fm a b=(ψ a).map λf=>(b.drop (f*(β b/a)+min f (β b%a))).take (β b/a+if f<β b%a then 1 else 0)
 |0,b=>rfl
 |a+1,b=>by
  have x:=aay (β b) (a+1);have y:=a9w (β b) (abK a);simp only[fm];generalize z:β b/(a+1)=d at*;generalize C:β b%(a+1)=c at*;rw[EW a,abn,a7O,a9v];congr 1
  .simp
  .by_cases o:a=0
   .subst o;simp
   have h:(b.drop (d+if 0<c then 1 else 0)).length=d*a+(c - if 0<c then 1 else 0):=by grind
   have k:c -(if 0<c then 1 else 0)<a:=by split<;>omega
   have p:(b.drop (d+if 0<c then 1 else 0)).length/a=d:=by rw[h,abb,Nat.mul_add_div ε,abe k];rfl
   have r:(b.drop (d+if 0<c then 1 else 0)).length%a=c - if 0<c then 1 else 0:=by rw[h,abb,Nat.mul_add_mod,a9c k]
   rw[p,r];refine a8I λf D=>?_;simp only[Function.comp,a8p];grind
def EX:∀(a:Nat)(b:List K),(0<a\/b=[])->(fm a b).flatten=b
 |0,b,c=>by rcases c with c|c;(·omega);(·subst c;rfl)
 |a+1,b,_=>by
  simp only[fm,a9p];rw[EX a,a8d];by_cases d:a=0
  .right;subst d;simp
  .left;omega
def chunks_flatten(a:List K):(chunks a).flatten=a:=EX _ _ (by
 cases a with
 |nil=>simp
 |cons b a=>left;simp only[bV,a7I];omega)
theorem qb{a:List K}(b:1<=β a)(c:β a<=4):chunks a=[a]:=by
 have:bV (β a)=1:=by unfold bV;omega
 simp[chunks,this,fm,abP]
theorem tC{a:List K}(b:β a=5):chunks a=[a.take 3,a.drop 3]:=by simp_all [bV,chunks,fm,a7x]
abbrev Row:=Ω
structure yH where
 rows:List Row
structure yI(a:Type) where
 kids:List a
def T:Nat->Type
 |0=>yH
 |a+1=>yI (T a)
def leaf(a:List Row):T 0:=yH.mk a
variable{e i t I b3 e5:Nat}
def node(a:List (T e)):T (e+1):=yI.mk a
def rows(a:T 0):List Row:=yH.rows a
def kids{a:Nat}(b:T (a+1)):List (T a):=yI.kids b
variable{j5:List Row}
theorem rz:rows (leaf j5)=j5:=rfl
theorem fE{a:List (T e)}:kids (node a)=a:=rfl
def iU(a:T 0):∃b,a=leaf b:=⟨rows a,rfl⟩
def hf(a:T (e+1)):∃b,a=node b:=⟨kids a,rfl⟩
def len: {b:Nat}->T b->Nat
 |0,a=>(rows a).length
 |_+1,a=>(kids a).length
def bb:(a:Nat)->T a->List Row
 |0,b=>rows b
 |a+1,b=>(kids b).flatMap (bb a)
theorem jG:len (leaf j5)=β j5:=rfl
def eh{a:List (T e)}:len (node a)=β a:=rfl
theorem km:bb 0 (leaf j5)=j5:=rfl
theorem gd{a:List (T e)}:bb (e+1) (node a)=a.flatMap (bb e):=rfl
theorem EY(a:List Row):((chunks a).map leaf).flatMap (bb 0)=a:=by
 conv=>rhs;rw[<-chunks_flatten a]
 rw[a9D,a9v];congr 1;exact List.map_id _
theorem EZ(a:List (T e)):((chunks a).map node).flatMap (bb (e+1))=a.flatMap (bb e):=by
 conv=>rhs;rw[<-chunks_flatten a]
 induction chunks a with
 |nil=>rfl
 |cons b c ih=>rw[a7O,a7R,ih,a9p,a8A];rfl
def WF:(b:Nat)->T b->Prop
 |0,a=>2<=len a/\len a<=4
 |b+1,a=>2<=len a/\len a<=4/\∀c∈kids a,WF b c
def lW:(a:Nat)->T a->Prop
 |0,_=>True
 |a+1,b=>∀c∈kids b,WF a c
theorem hB{a:T e}:WF e a↔2<=len a/\len a<=4/\lW e a:=by
 cases e with
 |zero=>simp[WF,lW]
 |succ e=>rfl
def kn(b:Nat)(a:T b):Prop:=1<=len a/\len a<=4/\lW b a/\(0<b->2<=len a)
theorem kn.of{a:T e}(b:WF e a):kn e a:=by have:=hB.1 b;exact⟨ε,this.2.1,this.2.2,λ_=>this.1⟩
def yJ:∀ {a:T e},1<=len a->lW e a->bb e a≠[]:=by
 induction e with
 |zero=>intro a c _ b;obtain⟨d,rfl⟩:=iU a;rw[km]at b;subst b;trivial
 |succ e ih=>
  intro a c f b;obtain⟨d,rfl⟩:=hf a;rw[eh]at c
  match d,c with
  |h::d,_=>rw[gd,a7R]at b;have k:=hB.1 (f h a8X);exact ih ε k.2.2 (List.append_eq_nil_iff.1 b).1
def cW(a:Nat)(b:T a):Row:=(bb a b).headD []
section
variable(lt:Row->Row->Bool)
structure Ord(ok:Row->Prop):Prop where
 jH:∀p,lt p p=κ
 trans:∀p q r,ok p->ok q->ok r->lt p q=ζ->lt q r=ζ->lt p r=ζ
 total:∀p q,ok p->ok q->lt p q=κ->lt q p=κ->p=q
def da(a:Row):List Row->Nat
 |_::b::c=>if lt a b then 0 else da a (b::c)+1
 |_=>0
def eb(c:List Row)(a:Row):List Row:=c.takeWhile (λb=>lt b a)++a::c.dropWhile (λb=>lt b a)
def fo(c:Row):(b:Nat)->T b->List (T b)
 |0,a=>(chunks (eb lt (rows a) c)).map leaf
 |b+1,a=>
  match(kids a)[da lt c ((kids a).map (cW b))]? with
  |some d=>(chunks ((kids a).take (da lt c ((kids a).map (cW b)))++fo c b d++(kids a).drop (da lt c ((kids a).map (cW b))+1))).map node
  |none=>[]
def lg: {a:Nat}->T a->T a->List (T a)
 |0,b,c=>(chunks (rows b++rows c)).map leaf
 |_+1,b,c=>(chunks (kids b++kids c)).map node
def lX(b:List (T e))(a:Nat)(c:T e):List (T e):=
 if 2<=len c then b.set a c
 else match b[if a=0 then 1 else a - 1]? with
  |some d=>b.take (a - 1)++(if a=0 then lg c d else lg d c)++b.drop (a - 1+2)
  |none=>[]
def cQ(c:Row):(b:Nat)->T b->T b
 |0,a=>leaf ((rows a).filter λd=>decide (d≠c))
 |b+1,a=>
  match(kids a)[da lt c ((kids a).map (cW b))]? with
  |some f=>node (lX (kids a) (da lt c ((kids a).map (cW b))) (cQ c b f))
  |none=>a
end
theorem F0(c:2<=β j5)(d:β j5<=5):(∀b∈(chunks j5).map leaf,WF 0 b)/\1<=(chunks j5).length/\(chunks j5).length<=2/\(β j5<=4->(chunks j5).length=1):=by
 by_cases a:β j5=5
 .rw[tC a];simp[WF,a,jG]
 .rw[qb ε ε];simp only[a7O,a8R,a7H,forall_eq,a8M,WF,jG];grind
theorem F1{a:List (T e)}(d:2<=β a)(f:β a<=5)(h:∀b∈a,WF e b):(∀b∈(chunks a).map node,WF (e+1) b)/\1<=(chunks a).length/\(chunks a).length<=2/\(β a<=4->(chunks a).length=1):=by
 by_cases c:β a=5
 .rw[tC c];simp only[a7O,a8R,a7S,a8f,or_false,forall_eq_or_imp,forall_eq,a7I,a7E,WF,eh,fE];grind
 .rw[qb ε ε];simp only[a7O,a8R,a7H,forall_eq,a8M,WF,eh,fE];grind
variable{h9:Row}
section
variable{lt:Row->Row->Bool}{ok:Row->Prop}
abbrev jI(a:Row->Row->Bool)(b:List Row):Prop:=b.Pairwise λc d=>a c d=ζ
theorem yK{a:List Row}(c:∀b∈j5,lt b h9=ζ):eb lt (j5++a) h9=j5++eb lt a h9:=by unfold eb;simp_all
theorem a0J{b:List Row}(f:∀a∈j5,lt a h9=κ):eb lt (b++j5) h9=eb lt b h9++j5:=by
 have c:j5.takeWhile (λa=>lt a h9)=[]/\j5.dropWhile (λa=>lt a h9)=j5:=by
  cases j5 with
  |nil=>trivial
  |cons h j5=>simp_all
 induction b with
 |nil=>simp[eb,c.1,c.2]
 |cons d b ih=>unfold eb at ih|-;by_cases bQ:lt d h9=ζ;simp_all;simp_all
theorem tD{a:Row}:h9∈eb lt j5 a↔h9=a\/h9∈j5:=by grind[eb,List.takeWhile_append_dropWhile]
theorem oY:(eb lt j5 h9).length=β j5+1:=by unfold eb;have:=congrArg β (a8h (p:=λa=>lt a h9) (l:=j5));grind
def a0K(o:Ord lt ok)(p:jI lt j5)(f:∀c∈j5,ok c)(r:ok h9)(x:h9∉j5):jI lt (eb lt j5 h9):=by
 induction j5 with
 |nil=>simp[eb]
 |cons a j5 ih=>
  have h:=a7W.1 p;have ih:=ih h.2 (λc b=>f c (by simp[b])) (λk=>x (by simp[k]));by_cases bQ:lt a h9=ζ
  .have d:eb lt (a::j5) h9=a::eb lt j5 h9:=yK (j5:=[a]) (by simpa using bQ);rw[d];refine a7W.2 ⟨λc b=>?_,ih⟩;rcases tD.1 b with rfl|b
   .exact bQ
   .exact h.1 c b
  .have d:eb lt (a::j5) h9=h9::a::j5:=by simp[eb,bQ]
   rw[d];have y:lt h9 a=true:=by
    cases k:lt h9 a with
    |true=>rfl
    |false=>exact absurd (o.total h9 a r (f a σ) k (by simpa using bQ)) (λd=>x (by simp[d]))
   refine a7W.2 ⟨λc b=>?_,p⟩;rcases a7S.1 b with rfl|b
   .exact y
   .exact o.trans h9 a c r (f a σ) (f c (by simp[b])) y (h.1 c b)
theorem F2(o:Ord lt ok){d:Row}(p:ok d):∀(f:List (List Row)),f≠[]->(∀C∈f,C≠[])->jI lt f.flatten->(∀a∈f.flatten,ok a)->
  da lt d (f.map (·.headD []))<β f/\(∀a∈(f.take (da lt d (f.map (·.headD [])))).flatten,lt a d=ζ)/\(∀a∈(f.drop (da lt d (f.map (·.headD []))+1)).flatten,lt d a=ζ)
 |[],T,_,_,_=>absurd rfl T
 |[V],_,_,_,_=>by simp[da]
 |V::h::r,_,W,m,x=>by
  simp only[a7O,da];obtain⟨c,y,z⟩:∃c y,h=c::y:=by
   cases z:h with
   |nil=>simp_all
   |cons c y=>simp
  have F:h.headD []=c:=by rw[z];rfl
  have D:=x c (by simp[z]);have E:jI lt (h::r).flatten:=by grind
  rw[F];by_cases k:lt d c=ζ
  .rw[if_pos k];refine⟨σ,σ,λa b=>?_⟩;simp only[aa8,a9F]at b;have e:(h::r).flatten=c::(y++r.flatten):=by rw[z];rfl
   rw[e]at b E;rcases a7S.1 b with rfl|b
   .exact k
   .refine o.trans d c a p D (x a ?_) k ((a7W.1 E).1 a b);simp_all
  .rw[if_neg k];have ih:=F2 o p (h::r) σ (λC G=>W C (by simp at G|-;exact .inr G)) E (λa b=>x a (by simp_all));simp only[a7O,F]at ih;obtain⟨g,i,j⟩:=ih;refine⟨by simp at g|-;omega,λa b=>?_,λa b=>j a (by trivial)⟩;simp only[aaa,a9p,Ψ]at b;rcases b with b|b
   .
    have L:lt a c=true:=by grind
    by_cases P:c=d
    .rw[<-P];exact L
    .have l:=x a (by simp[b]);cases S:lt c d with
     |true=>exact o.trans a c d l D p L S
     |false=>exact absurd (o.total c d D p S (by simpa using k)) P
   .exact i a b
end
end Go.a6
