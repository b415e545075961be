import Derived.Test.YtlgnfcaolejgeaaGreatMF
import Derived.Test.YtlgnfcaolejgeaaGreatMD
import Derived.Test.YtlgnfcaolejgeaaGreatMC
import Derived.Test.YtlgnfcaolejgeaaGreatMB
set_option linter.all false
set_option maxRecDepth 100000
namespace Go.Proofs.YtlgnfcaolejgeaaGreat
open Go Go.bB
variable{f t e7:U}{e i v M c0 j0:Nat}
def uP {a:UInt8}:bN (f.set e (.cells (flat [.v (.int .u8 (a.toNat:Int))]))) 1 (.al e 1 1 1)=some ([a].length,[a].map ak):=by simp[bN,U.af (U.ah _ _ _),flat,R.cells,ak]
variable{g A e1:List R}{B:List UInt8}
theorem a0k (a:g.take B.length=B.map ak) (b:e<B.length):aY false 1 (g.drop e)= .v (.int .u8 (B.getD e 0).toNat):=by grind[ak,List.take_append_drop,List.drop_eq_getElem_cons,aY,List.getD]
def a0l (a:UInt32):bo .rem (.int .u32 (a.toNat:Int)) (.int .u32 256)=some (.int .u32 ((a.toNat%256:Nat):Int)):=by have b:bo .rem (.int .u32 (a.toNat:Int)) (.int .u32 256)=(if(256:Int)=0 then none else some (.int .u32 ((a.toNat:Int).tmod 256))):=rfl;rw[b,if_neg a9v];rfl
variable{n b3:R}
theorem yD {v:List UInt8} (d:ar f t 1 (v.map ak) n) (h:v≠ []): ∃a b c,n= .al a v.length b 1/\f a=none/\t a=some (.cells c)/\c.length=b/\c.take v.length=v.map ak/\v.length<=b:=by
 obtain⟨_,d|⟨a,k,b,c,rfl,o,p,r,x,y,z,C⟩⟩:=d
 .exact absurd (by simpa using d.1) h
 grind
theorem a0m (m:List UInt32) (C:m=gq) (a:List UInt8) (d:a.length<=1000000000) (g:R) (q:Nat) (i:U) (b:bN i 1 g=some (a.length,a.map ak)) (L:fg g=some (.v (.int .i64 a.length))) (c:i q=some (.cells (wl mX))):
  AC Tryz.prog 190 [g,.al q 64 64 1] i λd k=>k=i/\d=cM (fl a):=by
 refine bf hm OV a9s ?_;refine ax (c2 @ba @bb) ?_;refine aP λl v=> ?_;have d:=yB (U.ae (U.a1 (f:=i)) v) b (t:=i.set l (.cells (List.replicate 32 (.v (.int .u8 0)))));have M:=U.ae (U.a1 (f:=i)) v (Y:= .cells (List.replicate 32 (.v (.int .u8 0)))) _ _ c;have N:=U.ae (U.a1 (f:=i)) v (Y:= .cells (List.replicate 32 (.v (.int .u8 0))));have O:(i.set l (.cells (List.replicate 32 (.v (.int .u8 0))))) l=some (.cells (List.replicate 32 (.v (.int .u8 0)))):=U.ah _ _ _;refine ax (aI @nX @ba @bb) ?_;generalize i.set l (.cells (List.replicate 32 (.v (.int .u8 0))))=x at*;refine qW (c:= []) (ar.zero U.a1) d a9t λch b d=> ?_;rw[a5d]at d;refine ax (c2 @ba @bb) ?_;refine eT (by simp[aN,R.cells]) a9s λD r=> ?_;refine ax (c2 @ba @bb) ?_;refine qW (d.mono (U.ae U.a1 r)) (uP (a:=128)) a9t λca o j=> ?_;refine ax (c2 @ba @bb) ?_;have b:er a.length<64:=by unfold er;omega
 refine cv (λb k=> ∃c:Nat,c<=er a.length/\ar x k 1 ((a++128::List.replicate c 0).map ak) (b 5)/\b 0=g/\b 1= .al q 64 64 1/\b 4= .ptr l 0)
  (λb _=>match b 5 with| .al _ p _ _=>er a.length+a.length+1 - p| _=>0) ⟨0,a9r,?_⟩ ?_
 .refine ax (c2 @ba @bb) ?_;exact j
 .clear j d;rintro b o ⟨c,F,j,h,e,d⟩;obtain⟨s,w,G,f,E,y,H,z,I⟩:=yD j a9s;have u:(a++128::List.replicate c 0).length=a.length+1+c:=a9t;rw[u]at f;by_cases n:c<er a.length
  .have t: ¬(Int.tmod ((a.length+1+c:Nat):Int) 64=56):=by have:Int.tmod ((a.length+1+c:Nat):Int) 64=(((a.length+1+c)%64:Nat):Int):=rfl;rw[this];unfold er at n;omega
   refine ax (cd @h @e @d @f @t @ba @bb) ?_;refine eT (by simp[aN,R.cells]) a9s λD r=> ?_;refine ax (cd @h @e @d @f @t @ba @bb) ?_;rw[<-f];refine qW (j.mono (U.ae U.a1 r)) (uP (a:=0)) a9t λcX K A=> ?_;refine ax (bD @h @e @d @f @ba @bb) ?_;have B:a++128::List.replicate c 0++ [0]=a++128::List.replicate (c+1) 0:=by rw[a9c];simp
   rw[B]at A;obtain⟨P,P,P,rfl,_⟩:=yD A a9s;grind
  .obtain rfl:c=er a.length:=a9r;have t:(Int.tmod ((a.length+1+er a.length:Nat):Int) 64=56):=by have:Int.tmod ((a.length+1+er a.length:Nat):Int) 64=(((a.length+1+er a.length)%64:Nat):Int):=rfl;rw[this];unfold er;omega
   have P:IntKind.u64.wrap (8*IntKind.u64.wrap (a.length:Int))=((8*a.length:Nat):Int):=by rw[ky,ky];omega
   rw[<-u]at f;refine ax (cu @h @e @d @f @u @t @L @P @ba @bb) ?_;rw[<-f]at*;refine cv (λb k=> ∃c:Nat,c<=8/\ar x k 1 ((a++128::List.replicate (er a.length) 0++(cK (8*a.length)).take c).map ak) (b 5)/\b 0=g/\b 1= .al q 64 64 1/\b 4= .ptr l 0/\b 6= .v (.int .u64 ((8*a.length:Nat):Int))/\b 7= .v (.int .i64 c))
    (λb _=>match b 7 with| .v (.int _ p)=>(8 - p).toNat| _=>0) ⟨0,a9r,?_⟩ ?_
   .refine ax (bp @h @e @d @ba @bb) ?_;simp_all
   .clear E y H z I h e d f j;rintro b o ⟨c,F,j,h,e,d,t,u⟩;have g:=EY (8*a.length) c;by_cases n:(c:Int)<8
    .have L:IntKind.u64.wrap (56 - 8*(c:Int))=((56 - 8*c:Nat):Int):=by rw[ky];omega
     have g:=yl ((8*a.length)>>>(56 - 8*c)) 256 a9r;have P:((256:Nat):Int)=256:=rfl;rw[P]at g;refine ax (iz @h @e @d @t @u @n @L @g @iy @ba @bb) ?_;refine eT (by simp[aN,R.cells]) a9s λD r=> ?_;refine ax (cd @h @e @d @t @u @ba @bb) ?_;refine qW (j.mono (U.ae U.a1 r)) uP (by simp[cK];omega) λcX K A=> ?_;refine ax (cd @h @e @d @t @u @ba @bb) ?_;grind
    .obtain rfl:c=8:=a9r;have g:(cK (8*a.length)).take 8=cK (8*a.length):=rfl;rw[g]at j;refine ax (bw @h @e @d @t @u @n @ba @bb) ?_;refine eT (by simp[aN,R.cells]) a9s λg r=> ?_;have D:flat [R.v (Value.int IntKind.u32 1779033703),R.v (Value.int IntKind.u32 3144134277),R.v (Value.int IntKind.u32 1013904242),R.v (Value.int IntKind.u32 2773480762),R.v (Value.int IntKind.u32 1359893119),R.v (Value.int IntKind.u32 2600822924),R.v (Value.int IntKind.u32 528734635),R.v (Value.int IntKind.u32 1541459225)]=wl gq:=rfl;rw[D];have A:=yC a;have A:=a0h a;have L:ar x o 1 ((kN a).map ak) (b 5):=j;obtain⟨s,w,G,f,E,y,H,z,I⟩:=yD L (by grind);have x:=j.1;have A:=a0i a;have E:ar o (o.set g (.cells (wl gq))) 1 (wl gq) (.al g 8 8 1):=⟨U.ae U.a1 r,.inr ⟨g,8,8,_,rfl,r,U.ah _ _ _,rfl,rfl,rfl,a9r,a9v⟩⟩;have r:gq.length=8:=rfl;generalize o.set g (.cells (wl gq))=K at*;rw[<-C]at E A r;clear C D;generalize C:kN a=g at*;clear j L C;refine ax (bD @h @e @d @f @ba @bb) ?_;refine cv (λb k=> ∃a:Nat,a<=g.length/64/\ar o k 1 (wl (blocks a m g)) (b 8)/\b 1= .al q 64 64 1/\b 4= .ptr l 0/\b 5= .al s g.length w 1/\b 9= .v (.int .i64 ((64*a:Nat):Int)))
      (λb _=>match b 9 with| .v (.int _ p)=>(g.length - p).toNat| _=>0) ⟨0,a9r,?_⟩ ?_
     .refine ax (bp @e @d @f @ba @bb) ?_;exact E
     .clear h e d f t u;rintro b u ⟨a,h,C,e,d,f,o⟩;have j:(blocks a m g).length=8:=pf _ _ _ r;obtain⟨D,H,E,h,r,t,r,r⟩:=EX C (by intro B;rw[B]at j;cases j);rw[j]at h;have r:=C.1;by_cases n:a<g.length/64
      .have B:((64*a:Nat):Int)<(g.length:Int):=a9r;have K:dO 1 (.al s g.length w 1) (some (.v (.int .i64 ((64*a:Nat):Int)))) (some (.v (.int .i64 (((64*a:Nat):Int)+64))))=some (.bx s (64*a) 64 (w - 64*a) 1):=by have I:(((64*a:Nat):Int)+64).toNat=64*a+64:=a9r;simp only[dO,cA,intOf,q9];grind
       refine ax (ds @e @d @f @h @o @B @K @ba @bb) ?_;have w:=u4 a m g;refine ai (a0g (blocks a m g) ((g.drop (64*a)).take 64) j D H E s (64*a) G q u t (r _ _ y) a9r ?_ (r _ _ (x _ _ M))) ?_
       .intro c F;rw[a0k z a9r];simp_all
       rintro gS c c;refine ax (cd @e @d @f @h @o @ba @bb) ?_;rw[<-w]at c;exact⟨⟨a+1,a9r,c.base r,a9t⟩,a9r⟩
      .have B: ¬((64*a:Nat):Int)<(g.length:Int):=a9r;obtain rfl:a=g.length/64:=a9r;refine ax (bw @e @d @f @h @o @B @ba @bb) ?_;refine aP λq w=> ?_;have y:D≠q:=by rintro rfl;rw[w]at t;cases t
       have s:=r _ _ (x _ _ O);have z:l≠q:=by rintro rfl;rw[w]at s;cases s
       have B:=a0j (blocks (g.length/64) m g) j;have F:(et (blocks (g.length/64) m g)).length=32:=by rw[u7,j]
       rw[A];clear A C;generalize blocks (g.length/64) m g=c at*;have g:(wl c++E).length=8+E.length:=by rw[uO,j]
       refine ax (cd @e @d @f @h @o @ba @bb) ?_;refine cv (λb k=> ∃a:Nat,a<=32/\k=u.set q (.cells (hT ((et c).take a)))/\b 8= .al D 8 H 1/\b 10= .ptr q 0/\b 4= .ptr l 0/\b 11= .v (.int .i64 a))
        (λb _=>match b 11 with| .v (.int _ p)=>(32 - p).toNat| _=>0) ⟨0,a9r,?_⟩ ?_
       .refine ax (aM @d @h @ba @bb) ?_;rfl
       .clear e d f h o;rintro b _ ⟨a,b,rfl,h,b,d,e⟩;have j:((et c).take a).length=a:=a9t;have f:(hT ((et c).take a)).length=32:=u6 a9r;by_cases n:(a:Int)<32
        .have I:IntKind.i64.wrap ((a:Int).tdiv 4)=((a/4:Nat):Int):=by have:(a:Int).tdiv 4=((a/4:Nat):Int):=rfl;rw[this,wrap_i64 a9r a9r]
         have k:(a:Int).tmod 4=((a%4:Nat):Int):=rfl;have l:IntKind.u64.wrap (24 - 8*((a%4:Nat):Int))=((24 - 8*(a%4):Nat):Int):=by rw[ky];omega
         have m:a/4<8:=a9r;have o:((a/4:Nat):Int)<((8:Nat):Int):=a9r;refine ax (o1 @h @b @d @e @n @I @k @l @o @m @g @f (U.af t) @y (a4S y) @mn @a0l @iy @ba @bb) ?_;rw[xf _ j.symm a9r,B a a9r];grind
        .obtain rfl:a=32:=a9r;refine ax (jd @h @b @d @e @n @f @z (a4S z) (U.af s) (U.aJ s) @ba @bb) ?_;have b:(et c).take 32=et c:=a4K a9r;have d:hT (et c)=(et c).map ak:=by simp[hT,F]
         have a:((et c).map ak).take 32=(et c).map ak:=a4K a9t;rw[b,d,a,a];refine⟨i,?_,rfl,rfl⟩;have a:i.sub u:=U.aq N (U.aq x r);exact U.ae (U.ae a (U.bG a w)) v
def a0n (a:List UInt8) (h:a.length<=1000000000) (c:R) (d:Nat) (b:U) (k:bN b 1 c=some (a.length,a.map ak)) (o:fg c=some (.v (.int .i64 a.length))) (p:b d=some (.cells (wl mX))):
  AC Tryz.prog 190 [c,.al d 64 64 1] b λr x=>x=b/\r=cM (fl a):=a0m gq rfl a h c d b k o p
def a0o (a:List UInt8) (r:a.length<=1000000000) (c:R) (b:U) (x:bN b 1 c=some (a.length,a.map ak)) (y:fg c=some (.v (.int .i64 a.length))):
  AC Tryz.prog 123 [c] b λz C=>C=b/\z=cM (fl a):=by
 refine bf hm MQ a9s ?_;refine ax (c2 @ba @bb) ?_;refine aP λD d=> ?_;refine ax (c2 @ba @bb) ?_;refine ai (ZY _) ?_;rintro _ _ ⟨h,E,rfl,rfl⟩;obtain⟨k,o⟩:=U.gN E;refine ax (c2 @ba @bb) ?_;have F:b.sub ((b.set D (.cells (List.replicate 32 (.v (.int .u8 0))))).set h (.cells (wl mX))):=U.ae (U.ae U.a1 d) o;refine ai (a0n a r c h _ (yB F x) y (U.ah _ _ _)) ?_;rintro _ _ ⟨rfl,rfl⟩;have p:((fl a).map ak).length=32:=by rw[a4V,sl]
 have G:cM (fl a)= .agg ((fl a).map ak):=rfl;have L:((fl a).map ak).take 32=(fl a).map ak:=a4K a9r;rw[G];have P:putAt (List.replicate 32 (R.v (.int .u8 0))) 0 ((fl a).map ak)=(fl a).map ak:=by rw[putAt,p];simp
 refine ax (cd @p @L @P @k (a4S k) @ba @bb) ?_;exact⟨b,U.ae (U.ae U.a1 d) o,rfl⟩
def a0p {a:UInt8} (b:f e=none):ar f (f.set e (.cells (flat [.v (.int .u8 (a.toNat:Int))]))) 1 ([a].map ak) (.al e 1 1 1):=
 ⟨U.ae U.a1 b,.inr ⟨e,1,1,_,rfl,b,U.ah _ _ _,rfl,rfl,rfl,a9r,a9v⟩⟩
theorem a0q (e:UInt8) (b:List (R×List UInt8)) (h:R) (c:Nat) (g:U) (t:fg h=some (.v (.int .i64 b.length)))
  (u: ∀a:Nat,a<b.length->cS 1 h (.v (.int .i64 a))=some (.ptr c a))
  (w: ∀a (d:a<b.length),∃i,g c=some (.cells i)/\a<i.length/\aY false 1 (i.drop a)=b[a].1)
  (y: ∀a∈b,bN g 1 a.1=some (a.2.length,a.2.map ak)/\fg a.1=some (.v (.int .i64 a.2.length)))
  (z:(preB e (b.map (·.2))).length<=1000000):
  AC Tryz.prog 192 [.v (.int .u8 (e.toNat:Int)),h] g λc j=>ar g j 1 ((preB e (b.map (·.2))).map ak) c:=by
 refine bf hm OZ a9s ?_;refine aF (c2 @ba @bb) ?_;refine eT (by simp[aN,R.cells]) a9s λA n=> ?_;refine aF (c2 @ba @bb) ?_;have d:=a0p (a:=e) n;refine cv (λc j=> ∃a k:List (R×List UInt8),b=a++k/\ar g j 1 ((preB e (a.map (·.2))).map ak) (c 5)/\c 1=h/\c 6= .v (.int .i64 a.length))
  (λc _=>match c 6 with| .v (.int _ o)=>(b.length - o).toNat| _=>0) ⟨[],b,rfl,?_⟩ ?_
 .refine aF (c2 @ba @bb) ?_;exact d
 .clear d;rintro c d ⟨a,k,f,p,q,l⟩;cases k with
  |nil=>
   have m:b.length=a.length:=by rw[f];simp
   rw[a5T]at f;have r: ¬(a.length:Int)<(b.length:Int):=a9r;refine aF (bD @q @l @t @r @ba @bb) ?_;rw[f];exact⟨_,U.a1,p⟩
  |cons v k=>
   obtain⟨s,d⟩:=v;have m:a.length<b.length:=by rw[f];simp
   have r:(a.length:Int)<(b.length:Int):=a9r;have x:b[a.length]=(s,d):=by subst f;simp
   obtain⟨i,v,c2,aI⟩:=w a.length m;rw[x]at aI;obtain⟨w,x⟩:=y (s,d) (by rw[f];simp);simp only at w x aI;have y:(preB e (a.map (·.2))).length+8+d.length<=1000000:=by refine a5J ?_ z;rw[f];simp[preB,chunk,cK];omega
   have y:=xb e (b.map (·.2));rw[a4V]at y;have y:a.length+1<=i.length:=a9r;have i:=p.1;simp -dsimp -implicitDefEqProofs (disch:=first|omega|assumption|(simp only[aE,Nat.reduceAdd];try omega)) only[go_sem,simprocAttr,ba,bb,q,l,t,r,u _ m,U.af (i _ _ v),y,aI,x];refine cv (λc j=> ∃b:Nat,b<=8/\ar g j 1 ((preB e (a.map (·.2))++(cK d.length).take b).map ak) (c 5)/\c 1=h/\c 6= .v (.int .i64 a.length)/\c 7= .v (.int .u64 (d.length:Int))/\c 8= .v (.int .i64 b))
    (λc _=>match c 8 with| .v (.int _ o)=>(8 - o).toNat| _=>0) ⟨0,a9r,?_⟩ ?_
   .refine aF (aM @q @l @ba @bb) ?_;simp_all
   .clear p i;rintro c c ⟨b,c,i,c,e,g,h⟩;have j:=EY d.length b;by_cases j:(b:Int)<8
    .have p:IntKind.u64.wrap (56 - 8*(b:Int))=((56 - 8*b:Nat):Int):=by rw[ky];omega
     have o:=yl (d.length>>>(56 - 8*b)) 256 a9r;have q:((256:Nat):Int)=256:=rfl;rw[q]at o;refine aF (cu @c @e @g @h @j @p @o @iy @ba @bb) ?_;refine eT (by simp[aN,R.cells]) a9s λA n=> ?_;refine aF (bD @c @e @g @h @ba @bb) ?_;refine qW (i.mono (U.ae U.a1 n)) uP (by simp[cK];omega) λcX n o=> ?_;refine aF (bD @c @e @g @h @ba @bb) ?_;grind
    .obtain rfl:b=8:=a9r;have b:(cK d.length).take 8=cK d.length:=rfl;rw[b]at i;have b:=i.1;simp -dsimp -implicitDefEqProofs (disch:=first|omega|assumption|(simp only[aE,Nat.reduceAdd];try omega)) only[go_sem,simprocAttr,ba,bb,c,e,g,h,l,j,u _ m,U.af (b _ _ v),y,aI];refine qW i (yB b w) (by simp[cK];omega) λcX n o=> ?_;refine aF (cd @c @e @g @h @l @ba @bb) ?_;refine⟨⟨a++ [(s,d)],k,by simp[f],?_,a9s⟩,a9r⟩;grind[preB,cK,chunk]
theorem a0r (h:UInt8) (b:List (R×List UInt8)) (k:Nat) (c:U) (o:c k=some (.cells (b.map (·.1))))
  (p: ∀a∈b,ar c c 1 (a.2.map ak) a.1\/(bN c 1 a.1=some (a.2.length,a.2.map ak)/\fg a.1=some (.v (.int .i64 a.2.length))))
  (r:(preB h (b.map (·.2))).length<=1000000):
  AC Tryz.prog 192 [.v (.int .u8 (h.toNat:Int)),.al k b.length b.length 1] c λx y=>ar c y 1 ((preB h (b.map (·.2))).map ak) x:=by
 refine a0q h b _ k c rfl ?_ ?_ ?_ r;grind[ja]
 .intro C d;refine⟨_,o,by simpa using d,?_⟩;rw[a5e (by simpa using d),a8J];rfl
 .intro a z;rcases p a z with d|d
  .obtain⟨D,E,F,G⟩:=d.src;simp_all
  .exact d
def hi (a:aK):List UInt8:=hX a.name++(UInt8.ofNat a.aC.length::(a.aC.flatMap hX++(ei a.bL++ei a.ck)))
def pH (a:List aK):List UInt8:=UInt8.ofNat a.length::a.flatMap hi
structure aK.hx (t:aK):Prop where
 n:t.name.length<=16
 c:t.aC.length<=7
 cs: ∀c∈t.aC,c.length<=16
 k:t.bL.hx
 z:t.ck.hx
theorem EZ {a:List (List UInt8)} (c: ∀b∈a,b.length<=16):(a.flatMap hX).length<=19*a.length:=by
 induction a with
 |nil=>simp
 |cons d a ih=>grind[List.length_append,xi,List.length_cons]
variable{e6:aK}
def yE (a:e6.hx) (b:e6.bL.sum.length=32) (c:e6.ck.sum.length=32):(hi e6).length<=1000:=by have:=EZ a.cs;have:=a.n;have:=a.c;have:=sA b a.k;have:=sA c a.z;simp only[hi,a4L,xi,a4O];omega
variable{b9:List aK}
theorem a0s (b:az dE b9 g) (d: ∀h∈b9,h.hx) (a:Nat):((b9.take a).flatMap hi).length<=1000*a:=by
 induction b9 generalizing g a with
 |nil=>simp
 |cons k b9 ih=>
  cases g with
  |nil=>exact b.elim
  |cons v g=>
   obtain⟨⟨_,_,c⟩,b⟩:=b;cases a with
   |zero=>simp
   |succ a=>have:=yE (d k a9s) c.k.1 c.z.1;grind
def uQ (a b:Nat) (c:U) (h:R) (k:R->U->Prop):Prop:=
 match h with
 | .ptr d off=>match c.read d with
  |some cs=>off+b*a<=cs.length/\k (.J (dL a b (cs.drop off)) .any) (c.set d (.ro cs))
  |none=>False
 | _=>False
variable{s a7:R -> U -> Prop}
def a0t {a:cD s} (b:f.read v=some g) (c:M+i*e<=g.length) (d:s (.J (dL e i (g.drop M)) .any) (f.set v (.ro g))):uQ e i f (.ptr v M) (bP s a):=by simp only[uQ,b];exact⟨c,d⟩
variable{K:Ctx}{j:Fr}{Z e9:Operand}
theorem a0u:G K (.kk e i Z none none true) j f s=uQ e i f (aj j Z) (bP (λa b=>s a b) ()):=by grind[G,uQ,dg,aj,bP]
theorem yF: ∀ {rows:List (List Int×Bool)},(∀a∈rows,a.1.length<=8)->(rows.flatMap gr).length<=66*rows.length
 | [],_=>by simp
 |a::rows,b=>by
  have d:=b a a9s;have:=yF (rows:=rows) λa c=>b a (a6l _ c);grind[List.length_append,gr,List.length_cons,dz,oc]
theorem yG: ∀ {kids:List ay},(∀a∈kids,a.hx/\a.sum.length=32/\a.cF)->(kids.flatMap ei).length<=300*kids.length
 | [],_=>by simp
 |a::kids,b=>by
  obtain⟨⟨d,h,k,_,_,_,_⟩,o,_⟩:=b a a9s;have:=yG (kids:=kids) λa c=>b a (a6l _ c);grind[kB,dz,List.length_cons,oc,List.length_append,ei]
theorem a0v (a:c5) (e p:List R) (b c:Own) (g:U) (n:az di a.rows e) (z:az bt a.kids p) (d:a.rows.length<=5) (f:a.kids.length<=5)
  (u: ∀h∈a.rows,h.1.length<=8) (A: ∀i∈a.kids,i.hx/\i.sum.length=32/\i.cF):
  AC Tryz.prog 178 [gQ a (.J e b) (.J p c)] g λh d=>fy g d (dc a) h:=by
 have f:=n.len;have f:=z.len;obtain⟨q,rows,kids⟩:=a
 dsimp only at*
 refine aO hm OC ?_;have a: ∀f:Nat,IntKind.u8.wrap (f:Int)=((UInt8.ofNat f).toNat:Int):=λf=>iy f;refine aP λa l=> ?_;refine aa ?_;generalize k:g.set a (.cells [R.v (.int .u8 (q.toNat:Int)),.J e b,.J p c])=j;have E:g.sub j:=k▸U.ae U.a1 l;have g:j a=some (.cells [R.v (.int .u8 (q.toNat:Int)),.J e b,.J p c]):=k▸U.ah _ _ _;have r: ∀d,j.sub d->d.read a=some [R.v (.int .u8 (q.toNat:Int)),.J e b,.J p c]:=λd l=>U.af (l _ _ g);clear k;have b:=r _ U.a1;refine u1 [q,UInt8.ofNat rows.length] (λg a a _=> ?_);clear b;have k:=r _ a.sub;refine cj [0,1] (λb:Nat×R=> [(4,.v (.int .i64 b.1)),(3,b.2)]) (λb d=>b.1<=rows.length/\fy j d (q::UInt8.ofNat rows.length::(rows.take b.1).flatMap gr) b.2) (λb=>rows.length - b.1) (0,g) ⟨⟨a9r,by simpa using a⟩,aU⟩ ?_;rintro⟨a,g⟩ m ⟨v,c⟩ F
 dsimp only at v c|-
 clear k;have G:=r _ c.sub;refine aa ?_;refine aH (λw=> ?_) λw=> ?_
 .obtain⟨_,s,k,rfl⟩:=n.get (i:=a) (x:=rows.getD a ([],false)) (by simp_all);have H:eD 2 e[a]? =some (.bW [.J (ad (rows.getD a ([],false)).1) k,.v (.bool (rows.getD a ([],false)).2)]):=by rw[s];rfl
  have e:(rows.getD a ([],false)).1.length<=8:=u _ (by simp_all);have x:=eU (a:=rows) (e:=a) (b:=([],false)) a9r;have B:=yF (rows:=rows.take a) λh l=>u h (a5b l);rw[a4N]at B;generalize rows.getD a ([],false)=b at*;have C:(dz b.1).length=8*b.1.length+1:=by rw[dz,a4O,oc]
  clear s;have e:(gr b).length=8*b.1.length+2:=by rw[gr,a4O,C]
  refine aa ?_;refine hS (ZI _ _) λn o e=> ?_;refine mW c (show fy m o [if b.2=true then(1:UInt8)else 0] n from e) λa4 I t _=> ?_;have D:=r _ t.sub;refine hS (uH _ _ _ a9r) λk y k=> ?_;refine mW t k λdx K K _=> ?_;refine⟨(a+1,dx),⟨by simp only;omega,?_⟩,⟨rfl,rfl⟩,by simp only;omega⟩;simp only[x,a5F,a5n,a7H,a5T,gr];simpa using K
 obtain rfl:a=rows.length:=a9r;rw[a5h]at c;have B:=yF u;generalize u:q::UInt8.ofNat rows.length::rows.flatMap gr=q at*;have u:q.length<=400:=by grind
 refine u1 [UInt8.ofNat kids.length] (λn o e _=> ?_);refine mW c e λa3 I t _=> ?_;clear G;have D:=r _ t.sub;refine cj [0,1] (λb:Nat×R=> [(5,.v (.int .i64 b.1)),(3,b.2)]) (λb d=>b.1<=kids.length/\fy j d (q++ [UInt8.ofNat kids.length]++(kids.take b.1).flatMap ei) b.2) (λb=>kids.length - b.1) (0,a3) ⟨⟨a9r,by simpa using t⟩,aU⟩ ?_;clear D;rintro⟨a,g⟩ y ⟨v,k⟩ F
 dsimp only at v k|-
 have b:=r _ k.sub;refine aa ?_;refine aH (λw=> ?_) λw=> ?_
 .obtain⟨_,s,v,w,b,r,t,rfl⟩:=z.get (i:=a) (x:=kids.getD a aA) (by simp_all);have z:=(A (kids.getD a aA) (by simp_all)).1;have x:=eU (a:=kids) (e:=a) (b:=aA) a9r;generalize kids.getD a aA=i at*;have u:=(aX (N:=b) (e5:=r) (h5:=t) v).all;have H:eD 37 p[a]? =some (.bW (ab i b r t)):=by rw[s];exact ix u.1
  generalize ab i b r t=b at*;clear s;refine aa ?_;refine aP λf p=> ?_;refine aa ?_;rw[a0u];refine aa ?_;refine a0t (U.af (U.ah _ _ _)) a9r ?_;rw[U.set_set];have r:fy (j.set f (.ro b)) (y.set f (.ro b)) _ g:=k.new p;have s:=U.bG k.sub p;have p:=U.ae (Y:= .ro b) U.a1 s;have s:(j.set f (.ro b)) f=some (.ro b):=U.ah _ _ _;generalize j.set f (.ro b)=j at*;generalize y.set f (.ro b)=t at*;have t: ∀d,j.sub d->d.read f=some b:=λd l=>U.Ui (l _ _ s);have d:dL 1 32 (b.drop 0)=i.sum.map ak:=by simp[dL,u.1,u.2.2.1]
  rw[d];obtain⟨b,b,b⟩:=w;obtain⟨b,b,b,b,f,f,j⟩:=z;obtain⟨j,s⟩:=a6O b;obtain⟨b,s⟩:=a6O f;have f:=kB j;have f:=kB b;have C: ∀h:List Int,(dz h).length=8*h.length+1:=λh=>by rw[dz,a4O,oc]
  have b:((kids.take a).flatMap ei).length<=300*a:=by have:=yG (kids:=kids.take a) λi l=>A i (a5b l);rw[a4N]at this;omega
  generalize f:q++ [UInt8.ofNat kids.length]++(kids.take a).flatMap ei=f at*;have h:f.length<=3000:=by grind
  clear d b;refine Cq r o5.J λg m c _=> ?_;refine hS (EP _ _ a9r) λn o e=> ?_;refine mW c e λg m c _=> ?_;refine hS (EP _ _ a9r) λn o e=> ?_;refine mW c e λg m c _=> ?_;refine hS (uH _ _ _ a9r) λn o e=> ?_;refine mW c e λg m c _=> ?_;refine hS (uH _ _ _ a9r) λn o e=> ?_;refine mW c e λg m c _=> ?_;refine hS (uH _ _ _ a9r) λn o e=> ?_;refine mW c e λg m c _=> ?_;refine⟨(a+1,g),⟨by simp only;omega,?_⟩,⟨rfl,rfl⟩,by simp only;omega⟩;have b:=c.base p;simp only[x,a5F,a5n,a7H,a5T];grind[ei,List.append_assoc,Int.toNat_natCast]
 obtain rfl:a=kids.length:=a9r;rw[a5h]at k;refine⟨_,U.a1,?_⟩;have:=k.base E;grind[dc,List.append_assoc]
structure kO where
 kind:UInt8
 r2:Int
 at_:List Int
abbrev kO.V (a:kO) (b:Own):R:= .agg [.v (.int .u8 (a.kind.toNat:Int)),.v (.int .i64 a.r2),.J (ad a.at_) b]
def kO.ok (a:kO) (b:Nat):Bool:=
 decide (1<=b/\b<=8)&&(if a.kind=0 then decide (a.r2=0)&&decide (a.at_.length=0)
  else if a.kind=1\/a.kind=2 then(decide (0<a.r2)||decide (a.r2=0)&&decide (a.kind=2))&&decide (a.r2<=(b:Int) - 1)&&decide (a.at_.length=0)
  else decide (a.kind=3)&&decide (a.r2=0)&&decide (1<b)&&decide (a.at_.length=b - 1))
theorem F0 (a:kO) (h:Own) (c:Nat) (d:U) (r:c<=1000000000000) (x:a.at_.length<=1000000000000):
  AC Tryz.prog 42 [a.V h,.v (.int .i64 (c:Int))] d λk o=>o=d/\k= .v (.bool (a.ok c)):=by
 obtain⟨b,y,p⟩:=a
 dsimp only at*
 have z:=bI (q:=p);have C:=iG b 0 a9r;have D:=iG b 1 a9r;have E:=iG b 2 a9r;have F:=iG b 3 a9r;refine aO hm KD ?_;refine br λG L=> ?_
 repeat' first|refine aH (λ_=> ?_) λ_=> ?_|trivial
 all_goals grind[kO.ok,aQ,aR]
theorem uR (b:kO) (h:Own) (c:Nat) (d:U) (r:c<=1000000000000) (x:b.at_.length<=1000000000000):
  AC Tryz.prog 128 [b.V h,.v (.int .i64 (c:Int))] d λk o=>o=d/\k= .v (.bool (b.ok c)):=by
 obtain⟨a,y,p⟩:=b
 dsimp only at*
 have z:=bI (q:=p);have C:=iG a 0 a9r;have D:=iG a 1 a9r;have E:=iG a 2 a9r;have F:=iG a 3 a9r;refine aO hm MY ?_;refine br λG L=> ?_
 repeat' first|refine aH (λ_=> ?_) λ_=> ?_|trivial
 all_goals try first
  |(rw[kO.ok];exact aQ)
  |(refine aR ?_;simp only[kO.ok]at*;grind)
 rename_i P S T;obtain rfl:a=2:=a5I.1 (by simp_all);refine aR ?_;rw[a7x];simp[kO.ok,-List.length_eq_zero_iff]
 first
  |omega
  |grind
abbrev il (a b:Nat):R:= .agg [.v (.int .u64 (a:Int)),.v (.int .u64 (b:Int))]
def a0w (a c b d:Nat) (h:U):AC Tryz.prog 145 [il a c,il b d] h λk o=>o=h/\k= .v (.bool (decide (a<b\/a=b/\c<d))):=by
 refine aO hm Nu ?_;refine br λp r=> ?_;refine db λx y z C=> ?_
 repeat' first|refine aH (λ_=> ?_) λ_=> ?_|trivial
 all_goals exact aQ
def r3 (a c b d:Nat):Int:=if a=b/\c=d then 0 else if a<b\/a=b/\c<d then -1 else 1
theorem F1 (a b c d:Nat) (h:U):AC Tryz.prog 134 [il a b,il c d] h λk o=>o=h/\k= .v (.int .i64 (r3 a b c d)):=by
 have p: ∀a b:Nat,dC [(2,c6.int IntKind.u64)] [R.v (.int .u64 (a:Int)),R.v (.int .u64 (b:Int))]:=λa b=>by simp[dC,c6.tx]
 have r:peq (il a b) (il c d)=decide ((a:Int)=c/\(b:Int)=d):=by rw[a7x];simp[peq]
 refine aO hm N6 ?_;refine br λx y=> ?_;refine db λz C D E=> ?_
 repeat' first|refine aH (λ_=> ?_) λ_=> ?_|trivial
 all_goals grind[r3]
abbrev hF (a:List Int) (b:Nat):Int:=a.getD b 0
def jk (c d a:List Int):Bool:=cU c d a.length&&(List.range a.length).all λb=>decide (hF c b<=hF a b)&&decide (hF a b<=hF d b)
def oD (a b c d:List Int):Bool:=cU a b a.length&&cU c d a.length
def jZ (b c d h:List Int):Bool:=oD b c d h&&(List.range b.length).all λa=>decide (hF b a<=hF h a)&&decide (hF d a<=hF c a)
def a0x (c:U) (k o:Nat) (d h b:List Int) (p r x:Own) (a:Nat) (C:c.read k=some [.J (ad d) p,.J (ad h) r]) (D:c.read o=some [.J (ad b) x]) (E:a<d.length) (F:a<h.length) (G:a<b.length):
  AC Tryz.prog 217 [.v (.int .i64 (a:Int)),.ptr k 0,.ptr o 0] c λy z=>z=c/\y= .v (.bool (decide (hF d a<=hF b a)&&decide (hF b a<=hF h a))):=by
 have L:= @dP d;have P:= @dP h;have S:= @dP b;refine aO hm PF ?_
 repeat' first|refine aH (λ_=> ?_) λ_=> ?_|trivial
 all_goals exact aQ
def a0y (h:U) (b c a:List Int) (k o p:Own) (r:a.length<=1000000000000):
  AC Tryz.prog 140 [ey b c k o,.J (ad a) p] h λx y=>y=h/\x= .v (.bool (jk b c a)):=by
 have L:=bI (q:=a);refine aO hm Nj ?_;refine br λz P=> ?_;refine db λC S D E=> ?_;refine bk (oo _ b c _ _ _ r) ?_;refine aH (λd=> ?_) λd=> ?_
 .obtain⟨T,V,W,e⟩:=lp d;refine bk (xr a.length _ _ _ _ _ r a9w λF G=>a0x _ z C b c a k o p F (by simp[U.read,U.ah,U.an,D,E]) (by simp[U.read,U.ah]) a9r a9r G) ?_;refine aR ?_;rw[jk,d,a6o]
 .refine aR ?_;rw[jk,d,a7f]
def a0z (b:U) (o p:Nat) (c d h k:List Int) (r x y z:Own) (a:Nat) (E:b.read o=some [.J (ad c) r,.J (ad d) x]) (F:b.read p=some [.J (ad h) y,.J (ad k) z]) (G:a<c.length) (L:a<d.length) (P:a<h.length) (S:a<k.length):
  AC Tryz.prog 274 [.v (.int .i64 (a:Int)),.ptr o 0,.ptr p 0] b λC D=>D=b/\C= .v (.bool (decide (hF c a<=hF k a)&&decide (hF h a<=hF d a))):=by
 have T:= @dP c;have V:= @dP d;have W:= @dP h;have e:= @dP k;refine aO hm R1 ?_
 repeat' first|refine aH (λ_=> ?_) λ_=> ?_|trivial
 all_goals exact aQ
def a0A (d:U) (b c a h:List Int) (o p r x:Own) (k:b.length<=1000000000000):
  AC Tryz.prog 196 [ey b c o p,ey a h r x] d λy z=>z=d/\y= .v (.bool (oD b c a h)):=by
 have C:=bI (q:=b);refine aO hm P7 ?_;refine br λD E=> ?_;refine db λF G L P=> ?_;refine bk (oo _ b c _ _ _ k) ?_;refine aH (λa=> ?_) λa=> ?_
 .refine bk (oo _ _ _ _ _ _ k) ?_;refine aR ?_;rw[oD,a,a6o]
 .refine aR ?_;rw[oD,a,a7f]
variable{q b6:List Int}
theorem yH {a b:List Int} (c:oD q b6 a b=true):b6.length=q.length/\a.length=q.length/\b.length=q.length/\1<=q.length/\q.length<=8:=by rw[oD,a4M]at c;obtain⟨d,h⟩:=c;have d:=lp d;grind[lp]
def F2 (k:U) (a b c d:List Int) (o p r x:Own) (y:a.length<=1000000000000):
  AC Tryz.prog 198 [ey a b o p,ey c d r x] k λz C=>C=k/\z= .v (.bool (jZ a b c d)):=by
 have S:=bI (q:=a);refine aO hm P9 ?_;refine br λD T=> ?_;refine db λE V F G=> ?_;refine bk (a0A _ a b c d _ _ _ _ y) ?_;refine aH (λh=> ?_) λh=> ?_
 .obtain⟨W,e,f,g⟩:=yH h;refine bk (xr a.length _ _ _ _ _ y a9w λL P=>a0z _ D E a b c d o p r x L (by simp[U.read,U.ah,U.an,F,G]) (by simp[U.read,U.ah]) P a9r a9r a9r) ?_;refine aR ?_;rw[jZ,h,a6o]
 .refine aR ?_;rw[jZ,h,a7f]
def gC (a b c d:List Int):List Int×List Int:=if jZ a b c d=true then(List.zipWith max a c,List.zipWith min b d)else([],[])
set_option maxHeartbeats 1000000 in
theorem a0B (h:U) (a c e d:List Int) (y z A B:Own) (m:a.length<=1000000000000):
  AC Tryz.prog 131 [ey a c y z,ey e d A B] h λb g=> ∃i j,b= .aL [.agg [i,j],.v (.bool (jZ a c e d))]/\pr h g (gC a c e d).1 (gC a c e d).2 i j:=by
 have Q:=bI (q:=a);have C:= @dP a;have D:= @dP c;have E:= @dP e;have F:= @dP d;refine aO hm N2 ?_;refine br λG b=> ?_;refine db λH b I Z=> ?_;refine hq λn j9 k0 k1 k2 k3=> ?_;refine bk (F2 _ a c e d _ _ _ _ m) ?_;refine aH (λb=> ?_) λb=> ?_
 .rw[gC,if_neg (by simp[b])];exact⟨_,U.a1,_,_,rfl,h,ar.nil U.a1,ar.nil aU⟩
 .rw[gC,if_pos b];obtain⟨f,f,f,f,f⟩:=yH (q:=a) (b6:=c) (a:=e) (b:=d) (by rw[jZ,a4M]at b;exact b.1);generalize b:((h.set G _).set H _).set n _=f;have s:h.sub f:=by subst b;exact aU
  have K:f G=some (.cells [.J (ad a) y,.J (ad c) z]):=by subst b;exact aU
  have L:f H=some (.cells [.J (ad e) A,.J (ad d) B]):=by subst b;exact aU
  have aM:f n=some (.cells [.J [] .nil,.J [] .nil]):=by subst b;exact aU
  clear b;refine ai (ug f a c _ _ m a9r) ?_;rintro _ k4 ⟨i,j,rfl,b,b,u⟩;obtain⟨j,⟨I,_⟩|⟨o,v,M,f,rfl,t,S,x,N,p,T,ch⟩⟩:=b
  .exfalso;grind
  obtain⟨l,⟨I,_⟩|⟨k,b,O,w,rfl,q,V,Y,P,r,W,ca⟩⟩:=u
  .exfalso;grind
  obtain rfl:v=a.length:=by rw[Q]at p;omega
  obtain rfl:b=a.length:=by rw[bI]at r;omega
  have X:=l _ _ S;simp only[a5v]at x Y N P T W;obtain⟨u,rfl⟩: ∃b,f=ad a++b:=⟨f.drop a.length,by rw[<-N,a5r]⟩;obtain⟨v,rfl⟩: ∃b,w=ad c++b:=⟨w.drop a.length,by rw[<-P,a5r]⟩;have f: ∀ {Y:U}{b x:Nat}{w:bq},Y b=none->Y x=some w->b≠x/\x≠b:=λm x=>⟨(by rintro rfl;rw[m]at x;cases x),(by rintro rfl;rw[m]at x;cases x)⟩;have kA:=l _ _ (j _ _ K);have x:=l _ _ (j _ _ L);have Y:=l _ _ (j _ _ aM);obtain⟨m,k5⟩:=f q S;obtain⟨m,m⟩:=f t K;obtain⟨m,m⟩:=f t L;obtain⟨S,m⟩:=f t aM;obtain⟨m,m⟩:=f q (j _ _ K);obtain⟨m,m⟩:=f q (j _ _ L);obtain⟨K,m⟩:=f q (j _ _ aM);have L:h o=none:=U.bG s t;have k6:h k=none:=U.bG (U.aq s j) q;have m:=U.aq s (U.aq j l);clear N P p r j l;have j: ∀a c q d:Nat,(R.al a c q d).cells= [.al a c q d]:=λ_ _ _ _=>rfl;refine aa ?_;refine aP λj l=> ?_;obtain⟨t,t⟩:=f l kA;obtain⟨t,t⟩:=f l x;obtain⟨t,t⟩:=f l Y;obtain⟨t,t⟩:=f l X;obtain⟨Xx,t⟩:=f l V;have t:h j=none:=U.bG m l;refine aa ?_;refine cj [2,3,4,6,17] (λb:Nat=> [(18,.v (.int .i64 (b:Int)))]) (λb g=>b<=a.length/\h.sub g/\g G=some (.cells [.J (ad a) y,.J (ad c) z])/\g H=some (.cells [.J (ad e) A,.J (ad d) B])/\g n=some (.cells [.J [] .nil,.J [] .nil])/\
      g j=some (.cells [.al o a.length M 1,.al k a.length O 1])/\g o=some (.cells (ad (mix h a e b)++u))/\g k=some (.cells (ad (mix j c d b)++v))) (λb=>a.length - b) 0 ⟨⟨a5q _,U.ae (U.ae m t) t,aU,aU,aU,aU,?_,?_⟩,aU⟩ ?_
  .have t:mix h a e 0=a:=by simp[mix]
   exact aU
  .have t:mix j c d 0=c:=by simp[mix]
   exact aU
  clear kA x Y X V l Q;rintro b g ⟨l,x,c2,aI,aM,cd,l,t⟩ y;have y:=U.af c2;have y:=U.af aI;have y:=U.af cd;have k4:=U.aJ l;have y:=U.aJ t;clear I Z k0 k1 k2 k3 m s;by_cases m:b<a.length
  .have q:(b:Int)<(a.length:Int):=a9r;have m:=C (b:=b) a9r;have m:=D (b:=b) a9r;have m:=E (b:=b) a9r;have m:=F (b:=b) a9r;clear C D E F;have m:=ui (a:=h) (q:=a) (b6:=e) (e:=b) a9r a9r u (v:=h (a.getD b 0) (e.getD b 0)) rfl;have m:=ui (a:=j) (q:=c) (b6:=d) (e:=b) a9r a9r v (v:=j (c.getD b 0) (d.getD b 0)) rfl;have m:b+1<=(ad (mix h a e b)++u).length:=by rw[a4L,bI,uh a9r a9r];omega
   have m:b+1<=(ad (mix j c d b)++v).length:=by rw[a4L,bI,uh a9r a9r];omega
   generalize a.getD b 0=m at*;generalize e.getD b 0=m at*;generalize c.getD b 0=a3 at*;generalize d.getD b 0=a4 at*;generalize ad (mix h a e b)++u=m at*;generalize ad (mix j c d b)++v=m at*;refine aa ?_;grind
  .obtain rfl:b=a.length:=a9r;clear C D E F;have p:mix h a e a.length=List.zipWith h a e:=by unfold mix;grind
   have r:mix j c d a.length=List.zipWith j c d:=by unfold mix;grind
   have b:(ad (mix h a e a.length)).length=a.length:=by rw[p,bI,a6D];omega
   have b:(ad (mix j c d a.length)).length=a.length:=by rw[r,bI,a6D];omega
   have b:=U.aJ aM;have b: ¬(a.length:Int)<a.length:=a9r;refine aa ?_;refine⟨_,U.a1,_,_,rfl,?_⟩;rw[<-p,<-r];refine⟨(g.set n (.cells [.al o a.length M 1,.al k a.length O 1])).del k,⟨λi w b=> ?_,.inr ⟨o,a.length,M,_,rfl,L,by rw[U.eJ _ k5,U.an _ _ S];exact l,?_,?_,?_,T,ch⟩⟩,⟨λi w b=> ?_,.inr ⟨k,a.length,O,_,rfl,U.iu _ _,by rw[U.an _ _ K];exact t,?_,?_,?_,W,ca⟩⟩⟩
   .have f:i≠k:=by rintro rfl;rw[k6]at b;cases b
    have a:i≠n:=by rintro rfl;rw[j9]at b;cases b
    rw[U.eJ _ f,U.an _ _ a];exact x i w b
   .rw[a4L,bI]at*;omega
   simp_all
   .omega
   .have f:i≠k:=by rintro rfl;rw[U.iu]at b;cases b
    rw[U.eJ _ f]at b;exact b
   .rw[a4L,bI]at*;omega
   simp_all
   .omega
def F3 (h:U) (a b c d:List Int) (k o p r:Own) (z:a.length<=1000000000000):
  AC Tryz.prog 131 [ey a b k o,ey c d p r] h λx y=>h.sub y/\x= .aL [ey (gC a b c d).1 (gC a b c d).2 .any .any,.v (.bool (jZ a b c d))]:=
 (a0B h a b c d k o p r z).view λx y C=>by
  obtain⟨D,W,rfl,e,E,F⟩:=C;obtain⟨f,G,L⟩:=sx F;have P:=E.mono G;obtain⟨S,T,V⟩:=sx P;exact⟨_,S,View.aL (a:= []) (k:= [_]) ((View.agg (a:= [D]) (k:= []) rfl L).trans (View.agg (a:= []) (k:= [_]) rfl V)),T,rfl⟩
abbrev fT:kO:=⟨0,0,[]⟩
def r4 (a:Nat):fT.ok a=decide (1<=a/\a<=8):=by simp[kO.ok]
def nx (a:Int):Nat:=(IntKind.u64.wrap ((BitVec.ofInt 64 (IntKind.u64.wrap a)^^^BitVec.ofInt 64 9223372036854775808).toNat:Int)).toNat
def a0C (a:Int):bo .xor (.int .u64 (IntKind.u64.wrap a)) (.int .u64 9223372036854775808)=some (.int .u64 (nx a:Int)):=by have b:bo .xor (.int .u64 (IntKind.u64.wrap a)) (.int .u64 9223372036854775808)=some (.int .u64 (IntKind.u64.wrap ((BitVec.ofInt 64 (IntKind.u64.wrap a)^^^BitVec.ofInt 64 9223372036854775808).toNat:Int))):=rfl;rw[b,nx,a6q];exact Int.emod_nonneg _ a9v
def F4 (a:Int) (b:U):AC Tryz.prog 200 [.v (.int .i64 a)] b λc d=>d=b/\c=il 0 (nx a):=by have h:=a0C a;refine aO hm Pd ?_;refine br λk o=> ?_;rfl
def mo (b:0<q.length) (a:Own):cS 1 (.J (ad q) a) (.v (.int .i64 0))=some (.bW [.v (.int .i64 (q.getD 0 0))]):=by have:=o3 (e:=1) (g:=ad q) (N:=a) (e2:= .i64) (i:=0);rw[dP b]at this;exact this
def yI (a:List Int):R:=if 1<=a.length/\a.length<=8 then .aL [il 0 (nx (a.getD 0 0)),.v (.int .i64 0)]else .aL [il 0 0,.v (.int .i64 1)]
def yJ (c d:Own) (a:List Int) (b:U) (k:a.length<=1000000000000):AC Tryz.prog 280 [fT.V c,.J (ad a) d] b λo p=>p=b/\o=yI a:=by
 have x:=bI (q:=a);have y:= @dP a;have h:=λb=>uR fT c a.length b k a9s;simp only[r4]at h;refine aO hm R3 ?_;refine br λz C=> ?_;refine db λD E F G=> ?_;refine bk (h _) ?_;rw[yI];refine aH (λr=> ?_) λr=> ?_
 .rfl
 .have L:=mo (q:=a) a9r d;refine aa ?_;refine bk (F4 _ _) ?_;rfl
def yK (a b:Nat) (h:Int) (c d:Nat) (k:Int):Bool:=if r3 a b c d=0 then decide (h<k)else decide (r3 a b c d<0)
theorem F5 (a b c d:Nat) (h k:Int) (o:U):AC Tryz.prog 281 [il a b,.v (.int .i64 h),il c d,.v (.int .i64 k)] o λp r=>r=o/\p= .v (.bool (yK a b h c d k)):=by
 refine aO hm R5 ?_;refine br λx y=> ?_;refine db λz C D E=> ?_;refine bk (F1 _ _ _ _ _) ?_
 repeat' first|refine aH (λ_=> ?_) λ_=> ?_|trivial
 all_goals simp_all [yK,if_pos,if_neg]
def oE (a:List Int):Prop:=1<=a.length/\a.length<=8
def yL (a:oE q):yI q= .aL [il 0 (nx (q.getD 0 0)),.v (.int .i64 0)]:=if_pos a
def sV (a b:List Int):Bool:=yK 0 (nx (a.getD 0 0)) (a.getD 0 0) 0 (nx (b.getD 0 0)) (b.getD 0 0)
def F6 (o c d:Own) (a b:List Int) (h:U) (k:oE a) (y:b.length=a.length):AC Tryz.prog 220 [fT.V o,.J (ad a) c,.J (ad b) d] h λp r=>r=h/\p= .v (.bool (sV a b)):=by have z:=bI (q:=a);have C:=bI (q:=b);have D:= @dP a;have E:= @dP b;have x:=id k;obtain⟨F,G⟩:=k;have L:=yL x;have P:=yL (q:=b) ⟨a9r,a9r⟩;refine aO hm PJ ?_;refine br λS T=> ?_;refine bk (yJ _ _ a _ a9r) ?_;have V:=mo (q:=a) a9r c;have W:=mo (q:=b) a9r d;refine db λe f g i=> ?_;refine bk (yJ _ _ b _ a9r) ?_;refine hq λj l _ _ _ _=> ?_;refine bk (F5 _ _ _ _ _ _ _) ?_;rfl
abbrev a0D:=sV
def sW (a b:List Int):Int:=if sV a b=true then -1 else if sV b a=true then 1 else 0
theorem a0E (d r x:Own) (a b:List Int) (h:U) (p:Nat) (C:h.read p=some [.v (.int .u8 0),.v (.int .i64 0),.J (ad []) d]) (k:oE a) (c:b.length=a.length):AC Tryz.prog 219 [.J (ad a) r,.J (ad b) x,.ptr p 0] h λy z=>z=h/\y= .v (.int .i64 (sW a b)):=by
 refine aO hm PH ?_;refine bk (F6 d _ _ a b _ k c) ?_;refine aH (λo=> ?_) λo=> ?_
 .rw[sW,if_pos o]
 .refine bk (F6 d _ _ b a _ ⟨by rw[c];exact k.1,by rw[c];exact k.2⟩ c.symm) ?_;refine aH (λc2=> ?_) λc2=> ?_
  .rw[sW,if_neg (by simp[o]),if_pos c2]
  simp_all [sW,if_neg]
def F7 (h c k:Own) (a b:List Int) (d:U) (o:cU a b a.length=true):AC Tryz.prog 132 [fT.V h,ey a b c k] d λp r=>r=d/\p= .aL [il 0 (nx (a.getD 0 0)),.v (.int .i64 (a.getD 0 0)),.v (.int .i64 0)]:=by
 obtain⟨z,C,x,y⟩:=lp o;have D:=bI (q:=a);have E:fT.ok a.length=true:=by rw[r4];exact decide_eq_true ⟨x,y⟩
 have F:=mo (q:=a) a9r c;refine aO hm N4 ?_;refine br λG L=> ?_;refine db λP S T V=> ?_;refine hq λW e f g a3 a4=> ?_;refine bk (oo _ a b _ _ _ a9r) ?_;refine bk (uR fT _ _ _ a9r a9s) ?_;refine bk (F4 _ _) ?_;refine x6 λi j l m n q s t=> ?_;rfl
def a0F (d p r h:Own) (a c b:List Int) (k:U) (o:cU a c a.length=true) (z:b.length=a.length):AC Tryz.prog 205 [fT.V d,ey a c p r,.J (ad b) h] k λx y=>y=k/\x= .v (.bool (a0D b a)):=by obtain⟨C,D,E,F⟩:=lp o;have G:=bI (q:=a);have L:=bI (q:=b);have P:=mo (q:=b) a9r h;have S:=yL (q:=b) ⟨a9r,a9r⟩;refine aO hm Pf ?_;refine br λT V=> ?_;refine db λW e f g=> ?_;refine bk (F7 d _ _ a c _ o) ?_;refine hq λi j l m a3 a4=> ?_;refine bk (yJ _ _ b _ a9r) ?_;refine x6 λn q s t u v w A=> ?_;refine bk (F5 _ _ _ _ _ _ _) ?_;rfl
def a0G (a:Nat) (k:a<=8) (b:U):AC Tryz.prog 143 [.v (.int .u64 1),.v (.int .u64 (a:Int))] b λc d=>d=b/\c= .aL [.v (.int .u64 0),.v (.int .u64 (a:Int))]:=by
 have h:AC Tryz.prog 222 [.v (.int .u64 1),.v (.int .u64 (a:Int))] b λc d=>d=b/\c= .aL [.v (.int .u64 0),.v (.int .u64 (a:Int))]:=by
  have o:bo .and (.int .u64 1) (.int .u64 4294967295)=some (.int .u64 1):=a9w;have p:bo .shr (.int .u64 1) (.int .u64 32)=some (.int .u64 0):=a9w;obtain⟨r,x⟩:bo .and (.int .u64 (a:Int)) (.int .u64 4294967295)=some (.int .u64 (a:Int))/\bo .shr (.int .u64 (a:Int)) (.int .u64 32)=some (.int .u64 0):=by
   obtain rfl|rfl|rfl|rfl|rfl|rfl|rfl|rfl|rfl:a=0\/a=1\/a=2\/a=3\/a=4\/a=5\/a=6\/a=7\/a=8:=a9r
   all_goals exact⟨a9w,a9w⟩
  have y:bo .shr (.int .u64 0) (.int .u64 32)=some (.int .u64 0):=a9w;have z:bo .and (.int .u64 0) (.int .u64 4294967295)=some (.int .u64 0):=a9w;have C:(1:Int)*(a:Int)=a:=Int.one_mul _;have D:(0:Int)*(a:Int)=0:=Int.zero_mul _;exact aO hm PL trivial
 refine aO hm Nq ?_;exact bk h trivial
def a0H: ∀ {a:Nat},(List.replicate a [n]).flatten=List.replicate a n
 |0=>rfl
 |a+1=>by simp
theorem F8 (b:Nat) (z:1<=b) (C:b<=8) (d:Int) (r:Own) (h:U):AC Tryz.prog 75 [.J [.v (.int .i64 d)] r,.v (.int .i64 (b:Int))] h λD p=>ar h p 1 (ad (List.replicate b d)) D:=by
 refine aO hm Lr ?_;refine iB ?_;refine bk (a0G b C h) ?_;refine iB ?_;refine wS a9r a9r λc x=> ?_;rw[a0H];have T:la 1 (.al c b b 1) (.J [.v (.int .i64 d)] r) (h.set c (.cells (List.replicate b (.v (.int .i64 0)))))=some (.v (.int .i64 1),h.set c (.cells (List.replicate 1 (.v (.int .i64 d))++List.replicate (b - 1) (.v (.int .i64 0))))):=by obtain⟨o,rfl⟩: ∃o,b=o+1:=⟨b - 1,a9r⟩;simp[la,bN,U.ah,U.set_set,flat,R.cells,putAt,a6Q]
 refine aa ?_;refine cj [7] (λa:Nat=> [(8,.v (.int .i64 (a:Int)))]) (λa p=>1<=a/\a<=b/\p=h.set c (.cells (List.replicate a (.v (.int .i64 d))++List.replicate (b - a) (.v (.int .i64 0))))) (λa=>b - a) 1 ⟨⟨a5m _,z,rfl⟩,aU⟩ ?_;rintro a _ ⟨V,E,rfl⟩ W;refine aa ?_;refine aH (λF=> ?_) λF=> ?_
 .have e:c8 1 (.al c b b 1) (some (.v (.int .i64 (a:Int)))) none none=some (.bx c a (b - a) (b - a) 1):=by simp_all [gp,a5v]
  have f:c8 1 (.al c b b 1) none (some (.v (.int .i64 (a:Int)))) none=some (.al c a b 1):=hQ E;generalize y:List.replicate a (R.v (.int .i64 d))++List.replicate (b - a) (.v (.int .i64 0))=k;have G:k.length=b:=by subst y;simp;omega
  have L:bN (h.set c (.cells k)) 1 (.al c a b 1)=some (a,List.replicate a (.v (.int .i64 d))):=by have P:(h.set c (.cells k)).read c=some k:=U.af (U.ah _ _ _);simp only[bN,P,G,a5v];grind
  have S:=ho (e:=1) (v:=c) (M:=a) (i:=b - a) (j0:=b - a) L (U.ah h c (.cells k)) a9r;have o:putAt k a ((List.replicate a (R.v (.int .i64 d))).take ((b - a)*1))=List.replicate (a+min a (b - a)) (.v (.int .i64 d))++List.replicate (b -(a+min a (b - a))) (.v (.int .i64 0)):=by subst y;rw[a5v,List.take_replicate,putAt,a6H a9s,a6J,Nat.min_comm (b - a) a,<-List.replicate_append_replicate,a6m,a6J,a5x a9s,a5d,List.drop_replicate];congr 2;omega
  rw[o,U.set_set]at S;refine aa ?_;exact⟨a+min a (b - a),⟨a9r,a9r,rfl⟩,by congr 2,a9r⟩
 .obtain rfl:a=b:=a9r;refine⟨_,U.a1,U.ae U.a1 x,.inr ⟨c,a,a,_,rfl,x,U.ah _ _ _,?_,?_,?_,a5m _,by unfold maxLen;omega⟩⟩
  .simp
  .simp[ad]
  .simp[ad]
def hG:Int:= -9223372036854775808
def im:Int:=9223372036854775807
def a0I (a:Nat) (r:1<=a) (x:a<=8) (b:U):AC Tryz.prog 40 [.v (.int .i64 (a:Int))] b λC D=> ∃c d,C= .agg [c,d]/\pr b D (List.replicate a hG) (List.replicate a im) c d:=by have L: ¬(a:Int)<1:=a9r;have P: ¬8<(a:Int):=a9r;refine aO hm Kz ?_;refine br λk o=> ?_;have S:b k=none:=o;refine X9 λT E V y=> ?_;refine hS (F8 a r x hG _ _) λc W p=> ?_;have z:=p.1 _ _ ((U.an _ _ y).trans (U.ah b k (.cells [.J [] .nil,.J [] .nil])));refine jN λe F=> ?_;refine hS (F8 a r x im _ _) λd f h=> ?_;have h:=h.base (U.ae U.a1 F);have c2:=U.aJ (h.1 _ _ z);have g:=fL p;have i:=fL h;refine aa ?_;have G:=(jQ (Y:= .cells [c,d]) p ((U.an _ _ y).trans (U.ah b k (.cells [.J [] .nil,.J [] .nil])))).base (U.ae (U.ae (U.ae U.a1 o) E) o);exact⟨_,U.a1,c,d,rfl,_,G,jQ h z⟩
def pI (a:Nat) (b:Bool):ao:=⟨38,5,
(.seq
(.plain (bE 10 (.fc (lU 0))::[]))
(.block 0
(.loop
(.seq
(.seq
(.plain (aB 11 10::aB 12 3::cI 13 .lss 11 12::[]))
(.cond (aG 13)
.skip
(.exit 0)))
(.seq
(.block 1
(.draw (aB 16 0::aB 17 1::aB 18 10::cI 19 .add 17 18::aB 20 0::aB 21 2::aB 22 10::cI 23 .add 21 22::aB 24 0::aB 25 2::aB 26 10::cI 27 .add 25 26::bE 28 (.dM a (aG 24) (aG 27))::bE 29 (.load b a (aG 28))::aB 30 0::aB 31 1::aB 32 10::cI 33 .add 31 32::bE 34 (.dM a (aG 30) (aG 33))::bE 35 (.load b a (aG 34))::bE 36 (.dM a (aG 16) (aG 19))::on (.store a (aG 36) (aG 29))::bE 37 (.dM a (aG 20) (aG 23))::on (.store a (aG 37) (aG 35))::[])
(bh 0::bh 1::bh 2::bh 3::bh 4::bh 5::bh 6::bh 7::bh 8::bh 9::bh 10::bh 11::bh 12::bh 13::bh 14::bh 15::bh 16::bh 17::bh 18::bh 19::bh 20::bh 21::bh 22::bh 23:: [])))
(.plain (aB 14 10::fw 15 .add 14 1::aB 10 15::[]))))))),[]⟩
def a0J:dw Tryz.prog 0 327=some (pI 41 true):=a9w
def a0K:dw Tryz.prog 0 357=some (pI 1 false):=a9w
def r5 (b:Nat) (c:Bool) (a:FuncId):ao:=⟨58,5,
(.seq
(.plain (aB 12 2::aB 13 1::cI 14 .sub 12 13::aB 10 14::[]))
(.seq
(.plain (aB 15 3::aB 16 2::cI 17 .sub 15 16::aB 11 17::[]))
(.seq
(.block 0
(.loop
(.seq
(.seq
(.plain (aB 18 10::aB 19 11::cI 20 .neq 18 19::[]))
(.cond (aG 20)
.skip
(.exit 0)))
(.block 1
(.seq
(.plain (aB 21 10::aB 22 11::cI 23 .gtr 21 22::[]))
(.cond (aG 23)
(.seq
(.plain (aB 24 0::aB 25 2::aB 26 10::cI 27 .sub 25 26::aB 28 2::aB 29 11::aB 30 4::bE 31 (.fZ a [(aG 24),(aG 27),(aG 28),(aG 29),(aG 30)])::[]))
(.plain (aB 32 10::aB 33 11::cI 34 .sub 32 33::aB 10 34::[])))
(.seq
(.plain (aB 35 0::aB 36 2::aB 37 10::cI 38 .sub 36 37::aB 39 2::aB 40 11::cI 41 .add 39 40::aB 42 10::cI 43 .sub 41 42::aB 44 10::aB 45 4::bE 46 (.fZ a [(aG 35),(aG 38),(aG 43),(aG 44),(aG 45)])::[]))
(.plain (aB 47 11::aB 48 10::cI 49 .sub 47 48::aB 11 49::[])))))))))
(.plain (aB 50 0::aB 51 2::aB 52 10::cI 53 .sub 51 52::aB 54 2::aB 55 10::aB 56 4::bE 57 (.fZ a [(aG 50),(aG 53),(aG 54),(aG 55),(aG 56)])::[]))))),[]⟩
def a0L:dw Tryz.prog 0 279=some (r5 41 true 327):=a9w
def a0M:dw Tryz.prog 0 351=some (r5 1 false 357):=a9w
def sX (a:Nat) (b:Bool):ao:=⟨53,4,
(.seq
(.plain (aB 10 1::fw 11 .add 10 1::aB 8 11::[]))
(.block 0
(.loop
(.seq
(.seq
(.plain (aB 12 8::aB 13 2::cI 14 .lss 12 13::[]))
(.cond (aG 14)
.skip
(.exit 0)))
(.seq
(.block 1
(.seq
(.plain (aB 17 8::aB 9 17::[]))
(.block 2
(.loop
(.seq
(.seq
(.draw (aB 18 9::aB 19 1::cI 20 .gtr 18 19::aB 21 20::ff 21 true 22 (.fc (aG 3))::ff 21 true 23 (.fc (aG 0))::ff 21 true 24 (.fc (aG 9))::ff 21 true 25 (.dM a (aG 23) (aG 24))::ff 21 true 26 (.load b a (aG 25))::ff 21 true 27 (.fc (aG 0))::ff 21 true 28 (.fc (aG 9))::ff 21 true 29 (.bin .sub (aG 28) (lU 1))::ff 21 true 30 (.dM a (aG 27) (aG 29))::ff 21 true 31 (.load b a (aG 30))::ff 21 true 32 (.iS (aG 22) [(aG 26),(aG 31)])::ff 21 true 33 (.bin .lss (aG 32) (lU 0))::bE 34 (.pick (aG 21) (aG 33) qk)::[])
(bh 0::bh 1::bh 2::bh 3::bh 4::bh 5::bh 6::bh 7::bh 8::bh 9::bh 10::bh 11::bh 12::bh 13::bh 14::bh 15::bh 16:: []))
(.cond (aG 34)
.skip
(.exit 2)))
(.seq
(.block 3
(.draw (aB 37 0::aB 38 9::aB 39 0::aB 40 9::fw 41 .sub 40 1::aB 42 0::aB 43 9::fw 44 .sub 43 1::bE 45 (.dM a (aG 42) (aG 44))::bE 46 (.load b a (aG 45))::aB 47 0::aB 48 9::bE 49 (.dM a (aG 47) (aG 48))::bE 50 (.load b a (aG 49))::bE 51 (.dM a (aG 37) (aG 38))::on (.store a (aG 51) (aG 46))::bE 52 (.dM a (aG 39) (aG 41))::on (.store a (aG 52) (aG 50))::[])
(bh 0::bh 1::bh 2::bh 3::bh 4::bh 5::bh 6::bh 7::bh 8::bh 9::bh 10::bh 11::bh 12::bh 13::bh 14::bh 15::bh 16::bh 17:: [])))
(.plain (aB 35 9::fw 36 .sub 35 1::aB 9 36::[]))))))))
(.plain (aB 15 8::fw 16 .add 15 1::aB 8 16::[]))))))),[]⟩
def a0N:dw Tryz.prog 0 203=some (sX 41 true):=a9w
def a0O:dw Tryz.prog 0 259=some (sX 1 false):=a9w
def sY (a:Nat) (b:Bool) (c d:FuncId):ao:=⟨220,5,
(.seq
(.seq
(.plain (aB 25 2::aB 26 1::cI 27 .sub 25 26::fw 28 .eql 27 1::[]))
(.cond (aG 28)
(.seq
(.plain (aB 29 2::aB 10 29::[]))
(.seq
(.plain (aB 30 3::aB 11 30::[]))
(.seq
(.block 0
(.loop
(.seq
(.seq
(.plain (aB 31 10::aB 32 11::cI 33 .lss 31 32::[]))
(.cond (aG 33)
.skip
(.exit 0)))
(.block 1
(.seq
(.plain (aB 34 10::aB 35 11::cI 36 .add 34 35::bE 37 (.iR .u64 (aG 36))::bE 38 (.bin .shr (aG 37) (.const (.int .u64 1)))::bE 39 (.iR .i64 (aG 38))::aB 12 39::[]))
(.seq
(.draw (aB 40 4::aB 41 0::aB 42 12::bE 43 (.dM a (aG 41) (aG 42))::bE 44 (.load b a (aG 43))::aB 45 0::aB 46 1::bE 47 (.dM a (aG 45) (aG 46))::bE 48 (.load b a (aG 47))::bE 49 (.iS (aG 40) [(aG 44),(aG 48)])::fw 50 .lss 49 0::[])
(bh 0::bh 1::bh 2::bh 3::bh 4::bh 5::bh 6::bh 7::bh 8::bh 9::bh 10:: []))
(.cond (aG 50)
(.plain (aB 51 12::fw 52 .add 51 1::aB 10 52::[]))
(.plain (aB 53 12::aB 11 53::[])))))))))
(.seq
(.seq
(.plain (aB 54 1::aB 13 54::[]))
(.block 2
(.loop
(.seq
(.seq
(.plain (aB 55 13::aB 56 10::fw 57 .sub 56 1::cI 58 .lss 55 57::[]))
(.cond (aG 58)
.skip
(.exit 2)))
(.seq
(.block 3
(.draw (aB 61 0::aB 62 13::aB 63 0::aB 64 13::fw 65 .add 64 1::aB 66 0::aB 67 13::fw 68 .add 67 1::bE 69 (.dM a (aG 66) (aG 68))::bE 70 (.load b a (aG 69))::aB 71 0::aB 72 13::bE 73 (.dM a (aG 71) (aG 72))::bE 74 (.load b a (aG 73))::bE 75 (.dM a (aG 61) (aG 62))::on (.store a (aG 75) (aG 70))::bE 76 (.dM a (aG 63) (aG 65))::on (.store a (aG 76) (aG 74))::[])
(bh 0::bh 1::bh 2::bh 3::bh 4::bh 5::bh 6::bh 7::bh 8::bh 9::bh 10::bh 11::bh 12::bh 13::bh 14::bh 15::bh 16::bh 17:: [])))
(.plain (aB 59 13::fw 60 .add 59 1::aB 13 60::[])))))))
.ret))))
.skip))
(.seq
(.seq
(.plain (aB 77 3::aB 78 2::cI 79 .sub 77 78::fw 80 .eql 79 1::[]))
(.cond (aG 80)
(.seq
(.plain (aB 81 1::aB 14 81::[]))
(.seq
(.plain (aB 82 2::aB 15 82::[]))
(.seq
(.block 4
(.loop
(.seq
(.seq
(.plain (aB 83 14::aB 84 15::cI 85 .lss 83 84::[]))
(.cond (aG 85)
.skip
(.exit 4)))
(.block 5
(.seq
(.plain (aB 86 14::aB 87 15::cI 88 .add 86 87::bE 89 (.iR .u64 (aG 88))::bE 90 (.bin .shr (aG 89) (.const (.int .u64 1)))::bE 91 (.iR .i64 (aG 90))::aB 16 91::[]))
(.seq
(.draw (aB 92 4::aB 93 0::aB 94 2::bE 95 (.dM a (aG 93) (aG 94))::bE 96 (.load b a (aG 95))::aB 97 0::aB 98 16::bE 99 (.dM a (aG 97) (aG 98))::bE 100 (.load b a (aG 99))::bE 101 (.iS (aG 92) [(aG 96),(aG 100)])::fw 102 .lss 101 0::bE 103 (.un .not (aG 102))::[])
(bh 0::bh 1::bh 2::bh 3::bh 4::bh 5::bh 6::bh 7::bh 8::bh 9::bh 10::bh 11:: []))
(.cond (aG 103)
(.plain (aB 104 16::fw 105 .add 104 1::aB 14 105::[]))
(.plain (aB 106 16::aB 15 106::[])))))))))
(.seq
(.seq
(.plain (aB 107 2::aB 17 107::[]))
(.block 6
(.loop
(.seq
(.seq
(.plain (aB 108 17::aB 109 14::cI 110 .gtr 108 109::[]))
(.cond (aG 110)
.skip
(.exit 6)))
(.seq
(.block 7
(.draw (aB 113 0::aB 114 17::aB 115 0::aB 116 17::fw 117 .sub 116 1::aB 118 0::aB 119 17::fw 120 .sub 119 1::bE 121 (.dM a (aG 118) (aG 120))::bE 122 (.load b a (aG 121))::aB 123 0::aB 124 17::bE 125 (.dM a (aG 123) (aG 124))::bE 126 (.load b a (aG 125))::bE 127 (.dM a (aG 113) (aG 114))::on (.store a (aG 127) (aG 122))::bE 128 (.dM a (aG 115) (aG 117))::on (.store a (aG 128) (aG 126))::[])
(bh 0::bh 1::bh 2::bh 3::bh 4::bh 5::bh 6::bh 7::bh 8::bh 9::bh 10::bh 11::bh 12::bh 13::bh 14::bh 15::bh 16::bh 17:: [])))
(.plain (aB 111 17::fw 112 .sub 111 1::aB 17 112::[])))))))
.ret))))
.skip))
(.seq
(.plain (aB 129 1::aB 130 3::cI 131 .add 129 130::bE 132 (.iR .u64 (aG 131))::bE 133 (.bin .shr (aG 132) (.const (.int .u64 1)))::bE 134 (.iR .i64 (aG 133))::aB 18 134::[]))
(.seq
(.plain (aB 135 18::aB 136 2::cI 137 .add 135 136::aB 19 137::[]))
(.seq
(.plain (bE 20 (.fc (lU 0))::bE 21 (.fc (lU 0))::[]))
(.seq
(.seq
(.plain (aB 138 2::aB 139 18::cI 140 .gtr 138 139::[]))
(.cond (aG 140)
(.seq
(.plain (aB 141 19::aB 142 3::cI 143 .sub 141 142::aB 20 143::[]))
(.plain (aB 144 18::aB 21 144::[])))
(.seq
(.plain (aB 145 1::aB 20 145::[]))
(.plain (aB 146 2::aB 21 146::[])))))
(.seq
(.plain (aB 147 19::fw 148 .sub 147 1::aB 22 148::[]))
(.seq
(.block 8
(.loop
(.seq
(.seq
(.plain (aB 149 20::aB 150 21::cI 151 .lss 149 150::[]))
(.cond (aG 151)
.skip
(.exit 8)))
(.block 9
(.seq
(.plain (aB 152 20::aB 153 21::cI 154 .add 152 153::bE 155 (.iR .u64 (aG 154))::bE 156 (.bin .shr (aG 155) (.const (.int .u64 1)))::bE 157 (.iR .i64 (aG 156))::aB 23 157::[]))
(.seq
(.draw (aB 158 4::aB 159 0::aB 160 22::aB 161 23::cI 162 .sub 160 161::bE 163 (.dM a (aG 159) (aG 162))::bE 164 (.load b a (aG 163))::aB 165 0::aB 166 23::bE 167 (.dM a (aG 165) (aG 166))::bE 168 (.load b a (aG 167))::bE 169 (.iS (aG 158) [(aG 164),(aG 168)])::fw 170 .lss 169 0::bE 171 (.un .not (aG 170))::[])
(bh 0::bh 1::bh 2::bh 3::bh 4::bh 5::bh 6::bh 7::bh 8::bh 9::bh 10::bh 11::bh 12::bh 13:: []))
(.cond (aG 171)
(.plain (aB 172 23::fw 173 .add 172 1::aB 20 173::[]))
(.plain (aB 174 23::aB 21 174::[])))))))))
(.seq
(.plain (aB 175 19::aB 176 20::cI 177 .sub 175 176::aB 24 177::[]))
(.seq
(.seq
(.plain (aB 178 20::aB 179 2::cI 180 .lss 178 179::aB 181 180::ff 181 true 182 (.fc (aG 2))::ff 181 true 183 (.fc (aG 24))::ff 181 true 184 (.bin .lss (aG 182) (aG 183))::bE 185 (.pick (aG 181) (aG 184) qk)::[]))
(.cond (aG 185)
(.plain (aB 186 0::aB 187 20::aB 188 2::aB 189 24::aB 190 4::bE 191 (.fZ d [(aG 186),(aG 187),(aG 188),(aG 189),(aG 190)])::[]))
.skip))
(.seq
(.seq
(.plain (aB 192 1::aB 193 20::cI 194 .lss 192 193::aB 195 194::ff 195 true 196 (.fc (aG 20))::ff 195 true 197 (.fc (aG 18))::ff 195 true 198 (.bin .lss (aG 196) (aG 197))::bE 199 (.pick (aG 195) (aG 198) qk)::[]))
(.cond (aG 199)
(.plain (aB 200 0::aB 201 1::aB 202 20::aB 203 18::aB 204 4::bE 205 (.fZ c [(aG 200),(aG 201),(aG 202),(aG 203),(aG 204)])::[]))
.skip))
(.seq
(.plain (aB 206 18::aB 207 24::cI 208 .lss 206 207::aB 209 208::ff 209 true 210 (.fc (aG 24))::ff 209 true 211 (.fc (aG 3))::ff 209 true 212 (.bin .lss (aG 210) (aG 211))::bE 213 (.pick (aG 209) (aG 212) qk)::[]))
(.cond (aG 213)
(.plain (aB 214 0::aB 215 18::aB 216 24::aB 217 3::aB 218 4::bE 219 (.fZ c [(aG 214),(aG 215),(aG 216),(aG 217),(aG 218)])::[]))
.skip))))))))))))),[]⟩
def a0P:dw Tryz.prog 0 204=some (sY 41 true 204 279):=a9w
def a0Q:dw Tryz.prog 0 333=some (sY 1 false 333 351):=a9w
def uS (c:Nat) (d:Bool) (a b:FuncId):ao:=⟨63,3,
(.seq
(.plain (bE 6 (.fc (lU 20))::[]))
(.seq
(.plain (aB 10 6::bE 7 (.fc (lU 0))::aB 8 10::[]))
(.seq
(.block 0
(.loop
(.seq
(.seq
(.plain (aB 11 8::aB 12 1::cI 13 .leq 11 12::[]))
(.cond (aG 13)
.skip
(.exit 0)))
(.block 1
(.seq
(.plain (aB 14 0::aB 15 7::aB 16 8::aB 17 2::bE 18 (.fZ a [(aG 14),(aG 15),(aG 16),(aG 17)])::[]))
(.seq
(.plain (aB 19 8::aB 7 19::[]))
(.plain (aB 20 8::aB 21 6::cI 22 .add 20 21::aB 8 22::[]))))))))
(.seq
(.plain (aB 23 0::aB 24 7::aB 25 1::aB 26 2::bE 27 (.fZ a [(aG 23),(aG 24),(aG 25),(aG 26)])::[]))
(.block 2
(.loop
(.seq
(.seq
(.plain (aB 28 6::aB 29 1::cI 30 .lss 28 29::[]))
(.cond (aG 30)
.skip
(.exit 2)))
(.block 3
(.seq
(.plain (aB 31 6::bE 32 (.bin .mul (lU 2) (aG 31))::bE 7 (.fc (lU 0))::aB 8 32::[]))
(.seq
(.block 4
(.loop
(.seq
(.seq
(.plain (aB 33 8::aB 34 1::cI 35 .leq 33 34::[]))
(.cond (aG 35)
.skip
(.exit 4)))
(.block 5
(.seq
(.plain (aB 36 0::aB 37 7::aB 38 7::aB 39 6::cI 40 .add 38 39::aB 41 8::aB 42 2::bE 43 (.fZ b [(aG 36),(aG 37),(aG 40),(aG 41),(aG 42)])::[]))
(.seq
(.plain (aB 44 8::aB 7 44::[]))
(.plain (aB 45 8::aB 46 6::bE 47 (.bin .mul (lU 2) (aG 46))::cI 48 .add 45 47::aB 8 48::[]))))))))
(.seq
(.seq
(.plain (aB 49 7::aB 50 6::cI 51 .add 49 50::aB 9 51::[]))
(.seq
(.plain (aB 52 9::aB 53 1::cI 54 .lss 52 53::[]))
(.cond (aG 54)
(.plain (aB 55 0::aB 56 7::aB 57 9::aB 58 1::aB 59 2::bE 60 (.fZ b [(aG 55),(aG 56),(aG 57),(aG 58),(aG 59)])::[]))
.skip)))
(.plain (aB 61 6::fw 62 .mul 61 2::aB 6 62::[]))))))))))))),[]⟩
def a0R:dw Tryz.prog 0 133=some (uS 41 true 203 204):=a9w
def a0S:dw Tryz.prog 0 292=some (uS 1 false 259 333):=a9w
structure oF (k:Nat) (a:R) (l b n:Nat):Prop where
 jl: ∀i,i<n->cS k a (.v (.int .i64 ((i:Nat):Int)))=some (.ptr l (b+i*k))
 len:fg a=some (.v (.int .i64 (n:Int)))
 cl:a.cells= [a]
def oG (b:Nat) (c:Bool) (a:R):Prop:=a.cells.length=b/\aY c b a.cells=a
def el (a:List R) (b:Nat):R:=a.getD b (.aL [])
def uT (a:List R) (b c:Nat):List R:=(a.set b (el a c)).set c (el a b)
def W (a:U) (b:Nat) (c d h:List R):U:=a.set b (.cells (c++flat h++d))
def a0T (a:e<g.length):g[e]? =some (el g e):=by simp[el,List.getD,a]
theorem ka (a:e<g.length):el g e∈g:=a4Q (a0T a)
theorem uU (a:e<g.length) (b:i<g.length):(uT g e i).Perm g:=by have c:=Array.swap_perm (xs:=g.toArray) (i:=e) (j:=i) (by simpa using a) (by simpa using b);grind[Array.perm_iff_toList_perm,uT,Array.swap,el,List.getD]
theorem yM (b: ∀a∈g,a.cells.length=i) (d:e<g.length):(A++flat g++e1).drop (A.length+e*i)=(el g e).cells++(flat (g.drop (e+1))++e1):=by
 have h:g=g.take e++el g e::g.drop (e+1):=by grind[List.take_append_drop,List.drop_eq_getElem_cons,el,List.getD]
 have k:(flat (g.take e)).length=e*i:=by rw[dh (λa c=>b a (a5b c)),a4N,a6t a9r]
 grind[flat,el,List.append_assoc,List.drop_drop,List.drop_left]
theorem F9 (a: ∀b∈g,b.cells.length=i) (c:e<g.length) (d:n.cells.length=i):putAt (A++flat g++e1) (A.length+e*i) n.cells=A++flat (g.set e n)++e1:=by
 have y:(flat (g.take e)).length=e*i:=by rw[dh (λb h=>a b (a5b h)),a4N,a6t a9r]
 have k:g=g.take e++el g e::g.drop (e+1):=by grind[List.take_append_drop,List.drop_eq_getElem_cons,el,List.getD]
 have z:flat g=flat (g.take e)++((el g e).cells++flat (g.drop (e+1))):=by
  conv=>lhs;rw[k]
  simp[flat]
 have o:flat (g.set e n)=flat (g.take e)++(n.cells++flat (g.drop (e+1))):=by rw[a6d,if_pos c];simp[flat]
 have p:=a _ (ka c);have r:(A++flat g++e1).take (A.length+e*i)=A++flat (g.take e):=by grind
 have x:(A++flat g++e1).drop (A.length+e*i+n.cells.length)=flat (g.drop (e+1))++e1:=by rw[<-a5D,yM a c,d,<-p,a7g]
 rw[putAt,r,x,o];simp
structure a0U (k:Nat) (p:Bool) (d:U) (l c:Nat) (pre post es:List R) (i h:Nat) (a b:R) (cs o r:List R):Prop where
 st:ep (W d l pre post es) l=some cs
 sv:dr p k (W d l pre post es) (.ptr l (c+i*k))=some a
 sw:dr p k (W d l pre post es) (.ptr l (c+h*k))=some b
 pJ:a.cells.length=k
 ik:b.cells.length=k
 oi:c+i*k+k<=cs.length
 oj:c+h*k+k<=o.length
 nv:putAt cs (c+i*k) b.cells=o
 nw:putAt o (c+h*k) a.cells=r
 fin:(W d l pre post es).set l (.cells r)=W d l pre post (uT es i h)
variable{I:Bool}
theorem ny (D:0<e) (o:A.length=M) (c: ∀a∈g,oG e I a) (d:i<g.length):dr I e (W f v A e1 g) (.ptr v (M+i*e))=some (el g i):=by
 subst o;have p:=λa r=>(c a r).1;have x:=c _ (ka d);have y:(W f v A e1 g).read v=some (A++flat g++e1):=U.af (U.ah _ _ _);have h:=yM p d (A:=A) (e1:=e1);have z:A.length+i*e+e<=(A++flat g++e1).length:=by have:=congrArg List.length h;grind[List.length_append,el,flat,List.length_drop]
 simp only[dr,y,if_pos z,h];obtain⟨k,b⟩:=x;rw[<-b]
 conv=>rhs;rw[b]
 generalize el g i=a at*;cases I
 .simp only[aY,a5S,if_false]at b|-;cases C:a.cells with
  |nil=>rw[C]at k;simp at k;omega
  |cons E F=>simp_all
 simp_all [List.take,a4K,aY,if_true,a6j]
theorem uV (E:0<e) (o:A.length=c0) (p: ∀a∈g,oG e I a) (b:i<g.length) (c:v<g.length):
  ∃F G L,a0U e I f M c0 A e1 g i v (el g i) (el g v) F G L:=by
 have d:=λa r=>(p a r).1;have x:=d _ (ka b);have y:=d _ (ka c);have z: ∀a∈g.set i (el g v),a.cells.length=e:=λa r=>by
  grind
 have P:=F9 d b (A:=A) (e1:=e1) y;have S:=F9 z (e:=v) (by simpa using c) (A:=A) (e1:=e1) x;have C:=λ{i} b=>ny (I:=I) E (f:=f) (v:=M) (e1:=e1) o p (i:=i) b;have D: ∀(h:List R) (k:Nat),(∀a∈h,a.cells.length=e)->k<h.length->A.length+k*e+e<=(A++flat h++e1).length:=λh k T V=>by
  have:=congrArg List.length (yM T V (A:=A) (e1:=e1));grind[List.length_append,el,flat,List.length_drop,ka]
 subst o;refine⟨_,_,_,?_,C b,C c,x,y,D g i d b,D _ v z (by simpa using c),P,S,?_⟩
 .simp[ep,W,U.ah]
 .simp only[W,U.set_set,uT]
variable{b4:FuncId}
section
def yN (d:dw Tryz.prog 0 b4=some (pI e I)) (k:0<e) (l:g.length=v) (h:oF e n i v e1.length) (c:e1.length<=1000000000000) (p:M+j0<=e1.length) (q:c0+j0<=e1.length) (b:R) (a:List R) (m:a.Perm e1) (o: ∀j∈e1,oG e I j):
  AC Tryz.prog b4 [n,.v (.int .i64 (M:Int)),.v (.int .i64 (c0:Int)),.v (.int .i64 (j0:Int)),b] (W f i g A a) λb c=> ∃b,b.Perm e1/\c=W f i g A b:=by
 have b:=h.cl;refine aO hm d ?_;refine cj [0,1,2,3] (λb:Nat×List R=> [(10,.v (.int .i64 (b.1:Int)))]) (λb c=>c=W f i g A b.2/\b.2.Perm e1/\b.1<=j0) (λb=>j0 - b.1) (0,a) ⟨⟨rfl,m,a9r⟩,aU⟩ ?_;rintro⟨a,d⟩ _ ⟨rfl,c,e⟩ m
 dsimp only at c e|-
 refine aa ?_;refine aH (λe=> ?_) λe=> ?_
 .have e:=c.length_eq;obtain⟨e,e,e,e⟩:=uV k (f:=f) (M:=i) (e1:=A) l (λj k=>o j (c.mem_iff.1 k)) (i:=M+a) (v:=c0+a) a9r a9r;have j:=uU (g:=d) (e:=M+a) (i:=c0+a) a9r a9r;obtain⟨k,k,k,k,k,k,k,k,k,k⟩:=e;have e:=h.jl (M+a) a9r;have e:=h.jl (c0+a) a9r;generalize W f i g A d=e at*;generalize el d (M+a)=b at*;generalize el d (c0+a)=b at*;have b:(M:Int)+(a:Int)=((M+a:Nat):Int):=rfl;have b:(c0:Int)+(a:Int)=((c0+a:Nat):Int):=rfl;refine aa ?_;exact⟨(a+1,_),⟨rfl,j.trans c,by show a+1<=j0;omega⟩,rfl,by show j0 -(a+1)<j0 - a;omega⟩
 .exact⟨_,U.a1,_,c,rfl⟩
theorem a0V {L:FuncId} (T:dw Tryz.prog 0 b4=some (r5 e I L)) (r:dw Tryz.prog 0 L=some (pI e I)) (x:0<e) (y:g.length=v) (o:oF e n i v e1.length) (z:e1.length<=1000000000000) (u:j0<M) (w:M<c0) (B:c0<=e1.length) (p:R) (C:List R) (V:C.Perm e1) (D: ∀j∈e1,oG e I j):
  AC Tryz.prog b4 [n,.v (.int .i64 (j0:Int)),.v (.int .i64 (M:Int)),.v (.int .i64 (c0:Int)),p] (W f i g A C) λE F=> ∃P,P.Perm e1/\F=W f i g A P:=by
 have H:=o.cl;have S:(M:Int) -(j0:Int)=((M - j0:Nat):Int):=a9r;have d:(c0:Int) -(M:Int)=((c0 - M:Nat):Int):=a9r;refine aO hm T ?_;refine cj [0,1,2,3,4] (λc:(Nat×Nat)×List R=> [(10,.v (.int .i64 (c.1.1:Int))),(11,.v (.int .i64 (c.1.2:Int)))]) (λc F=>F=W f i g A c.2/\c.2.Perm e1/\0<c.1.1/\0<c.1.2/\c.1.1<=M - j0/\c.1.2<=c0 - M) (λc=>c.1.1+c.1.2) ((M - j0,c0 - M),C) ⟨⟨rfl,V,by show 0<M - j0;omega,by show 0<c0 - M;omega,a5m _,a5m _⟩,aU⟩ ?_;clear S d;rintro⟨⟨a,b⟩,d⟩ _ ⟨rfl,G,l,m,q,s⟩ K
 dsimp only at*
 have S:(M:Int) -(a:Int)=((M - a:Nat):Int):=a9r;refine aa ?_;refine aH (λt=> ?_) λt=> ?_
 .refine aH (λc2=> ?_) λc2=> ?_
  .refine ai (yN r x y o z (M:=M - a) (c0:=M) (j0:=b) a9r a9r p d G D) ?_;rintro E _ ⟨h,k,rfl⟩;refine aa ?_;exact⟨((a - b,b),h),⟨rfl,k,by show 0<a - b;omega,m,by show a - b<=M - j0;omega,s⟩,⟨by grind,rfl⟩,by show a - b+b<a+b;omega⟩
  .have h:(M:Int)+(b:Int) -(a:Int)=((M+b - a:Nat):Int):=a9r;refine aa ?_;refine ai (yN r x y o z (M:=M - a) (c0:=M+b - a) (j0:=a) a9r a9r p d G D) ?_;rintro E _ ⟨h,k,rfl⟩;refine aa ?_;exact⟨((a,b - a),h),⟨rfl,k,l,by show 0<b - a;omega,q,by show b - a<=c0 - M;omega⟩,⟨rfl,by grind⟩,by show a+(b - a)<a+b;omega⟩
 .obtain rfl:a=b:=a9r;refine aa ?_;refine ai (yN r x y o z (M:=M - a) (c0:=M) (j0:=a) a9r a9r p d G D) ?_;rintro E _ ⟨h,k,rfl⟩;refine aa ?_;exact⟨_,U.a1,_,k,rfl⟩
def oH (c:U) (d:Nat) (h k a:List R) (o:FuncId) (x y:List R) (z:R->R->Int):Prop:=
 gl Tryz.prog o=true/\ ∀b,b.Perm a-> ∀p∈a,∀r∈a,AC Tryz.prog o (x++ [p,r]++y) (W c d h k b) λC D=>D=W c d h k b/\C= .v (.int .i64 (z p r))
def Fa (o:dw Tryz.prog 0 b4=some (sX e I)) (h:0<e) (j:g.length=v) (k:oF e n i v e1.length) (s:e1.length<=1000000000000) (t:M<=c0) (u:c0<=e1.length) {a:FuncId}{b d:List R}{p:R->R->Int} (m:oH f i g A e1 a b d p) (c:List R) (q:c.Perm e1) (r: ∀l∈e1,oG e I l):
  AC Tryz.prog b4 [n,.v (.int .i64 (M:Int)),.v (.int .i64 (c0:Int)),.bH a b d] (W f i g A c) λa a=> ∃b,b.Perm e1/\a=W f i g A b:=by
 have b:=k.cl;refine aO hm o ?_;refine cj [0,1,2,3] (λb:Nat×List R=> [(8,.v (.int .i64 (b.1:Int)))]) (λb a=>a=W f i g A b.2/\b.2.Perm e1/\M<b.1/\b.1<=c0+1) (λb=>c0+1 - b.1) (M+1,c) ⟨⟨rfl,q,by show M<M+1;omega,by show M+1<=c0+1;omega⟩,aa X3⟩ ?_;rintro⟨c,d⟩ _ ⟨rfl,n,e,e⟩ e
 dsimp only at*
 refine aa ?_;refine aH (λe=> ?_) λe=> ?_
 .refine cj [0,1,2,3,8] (λb:Nat×List R=> [(9,.v (.int .i64 (b.1:Int)))]) (λb a=>a=W f i g A b.2/\b.2.Perm e1/\M<=b.1/\b.1<=c) (λb=>b.1) (c,d) ⟨⟨rfl,n,by show M<=c;omega,a5m _⟩,aU⟩ ?_;rintro⟨a,e⟩ _ ⟨rfl,d,o,o⟩ o
  dsimp only at*
  have o:=d.length_eq;refine aa ?_;refine aH (λo=> ?_) λo=> ?_
  .have o:=k.jl a a9r;have o:=k.jl (a - 1) a9r;have k:(a:Int) - 1=((a - 1:Nat):Int):=a9r;have k:=λl o=>r l (d.mem_iff.1 o);have l:=ny (I:=I) h (f:=f) (v:=i) (e1:=A) j k (i:=a) a9r;have l:=ny (I:=I) h (f:=f) (v:=i) (e1:=A) j k (i:=a - 1) a9r;refine aa ?_;refine fJ m.1 (m.2 e d _ (d.mem_iff.1 (ka (e:=a) a9r)) _ (d.mem_iff.1 (ka (e:=a - 1) a9r))) ?_;rintro _ _ ⟨rfl,rfl⟩;refine aa ?_;refine aH (λc2=> ?_) λc2=> ?_
   .obtain⟨l,l,l,l,l,l,l,l,l,l,l,l,l⟩:=uV h (f:=f) (M:=i) (e1:=A) j k (i:=a) (v:=a - 1) a9r a9r;have h:=uU (g:=e) (e:=a) (i:=a - 1) a9r a9r;generalize W f i g A e=f at*;generalize el e a=b at*;generalize el e (a - 1)=b at*;refine aa ?_;exact⟨(a - 1,_),⟨rfl,h.trans d,by show M<=a - 1;omega,by show a - 1<=c;omega⟩,rfl,by show a - 1<a;omega⟩
   .exact⟨(c+1,_),⟨rfl,d,by show M<c+1;omega,by show c+1<=c0+1;omega⟩,rfl,a9r⟩
  .exact⟨(c+1,_),⟨rfl,d,by show M<c+1;omega,by show c+1<=c0+1;omega⟩,rfl,a9r⟩
 .exact⟨_,U.a1,_,n,rfl⟩
def uW (a b:Nat):bo .shr (.int .u64 ((a:Int)+(b:Int))) (.int .u64 1)=some (.int .u64 (((a+b)/2:Nat):Int)):=by have:=s4 (a+b) .u64 1 a9r a9r;rw[a5E]at this;exact this
theorem uX {a E b:FuncId} (N:dw Tryz.prog 0 a=some (sY e I a E)) (O:dw Tryz.prog 0 E=some (r5 e I b)) (P:dw Tryz.prog 0 b=some (pI e I)) (u:0<e) (w:g.length=v) (r:oF e n i v e1.length) (Q:e1.length<=1000000000000) {d:FuncId}{j k:List R}{c:R->R->Int} (x:oH f i g A e1 d j k c) (y: ∀o∈e1,oG e I o): ∀(H e c h:Nat),h - e<=H->e<c->c<h->h<=e1.length-> ∀(q:List R),q.Perm e1->
  AC Tryz.prog a [n,.v (.int .i64 (e:Int)),.v (.int .i64 (c:Int)),.v (.int .i64 (h:Int)),.bH d j k] (W f i g A q) λa p=> ∃a,a.Perm e1/\p=W f i g A a
 |0,e,c,h,a,b,d,j,q,m=>by omega
 |H+1,e,c,h,a,b,d,j,q,m=>by
  have a:=r.cl;refine aO hm N ?_;refine aH (λa=> ?_) λa=> ?_
  .refine gP [0,1,2,3,4] (λa:Nat×Nat=> [(10,.v (.int .i64 (a.1:Int))),(11,.v (.int .i64 (a.2:Int)))]) (λa=>c<=a.1/\a.1<=a.2/\a.2<=h) (λa=>a.2 - a.1) (c,h) ⟨a5m _,by show c<=h;omega,a5m _⟩ aU ?_;rintro⟨b,d⟩ ⟨s,z,t⟩ B
   dsimp only at s z t|-
   refine aa ?_;have S:=uW b d;have K:=m.length_eq;have C:=λo v=>y o (m.mem_iff.1 v);refine aH (λc2=> ?_) λc2=> ?_
   .have L:=r.jl ((b+d)/2) a9r;have M:=r.jl e a9r;have Y:=ny (I:=I) u (f:=f) (v:=i) (e1:=A) w C (i:=(b+d)/2) a9r;have Z:=ny (I:=I) u (f:=f) (v:=i) (e1:=A) w C (i:=e) a9r;have j9:(b+d)/2<=1000000000000:=a9r;obtain⟨D,T⟩:b<=(b+d)/2/\(b+d)/2<d:=a9r;have G:=x.2 q m _ (m.mem_iff.1 (ka (e:=(b+d)/2) a9r)) _ (m.mem_iff.1 (ka (e:=e) a9r));generalize (b+d)/2=j at*;refine aa ?_;refine fJ x.1 G ?_;rintro _ _ ⟨rfl,rfl⟩;refine aa ?_;refine aH (λaI=> ?_) λaI=> ?_
    .exact⟨(j+1,d),⟨by show c<=j+1;omega,by show j+1<=d;omega,t⟩,⟨rfl,rfl⟩,by show d -(j+1)<d - b;omega⟩
    .exact⟨(b,j),⟨s,D,by show j<=h;omega⟩,⟨rfl,rfl⟩,by show j - b<d - b;omega⟩
   .refine cj [0,1,2,3,4,10] (λa:Nat×List R=> [(13,.v (.int .i64 (a.1:Int)))]) (λa p=>p=W f i g A a.2/\a.2.Perm e1/\e<=a.1) (λa=>b - a.1) (e,q) ⟨⟨rfl,m,a5m _⟩,aU⟩ ?_;rintro⟨k,n⟩ _ ⟨rfl,l,F⟩ E
    dsimp only at l F|-
    refine aa ?_;refine aH (λaI=> ?_) λaI=> ?_
    .have K:=l.length_eq;have V:=λo v=>y o (l.mem_iff.1 v);have L:=r.jl k a9r;have M:=r.jl (k+1) a9r;have k0:(k:Int)+1=((k+1:Nat):Int):=a9r;obtain⟨k1,k2,k3,k4,k5,k6,k7,k8,k9,l0,l1,l2,l3⟩:=uV u (f:=f) (M:=i) (e1:=A) w V (i:=k) (v:=k+1) a9r a9r;have X:=uU (g:=n) (e:=k) (i:=k+1) a9r a9r;generalize W f i g A n=l4 at*;generalize el n k=a at*;generalize el n (k+1)=l5 at*;refine aa ?_;exact⟨(k+1,_),⟨rfl,X.trans l,by show e<=k+1;omega⟩,rfl,by show b -(k+1)<b - k;omega⟩
    .exact⟨_,U.a1,_,l,rfl⟩
  .refine aH (λc2=> ?_) λc2=> ?_
   .refine gP [0,1,2,3,4] (λa:Nat×Nat=> [(14,.v (.int .i64 (a.1:Int))),(15,.v (.int .i64 (a.2:Int)))]) (λa=>e<=a.1/\a.1<=a.2/\a.2<=c) (λa=>a.2 - a.1) (e,c) ⟨a5m _,by show e<=c;omega,a5m _⟩ aU ?_;rintro⟨b,d⟩ ⟨s,z,t⟩ B
    dsimp only at s z t|-
    refine aa ?_;have S:=uW b d;have K:=m.length_eq;have C:=λo v=>y o (m.mem_iff.1 v);refine aH (λaI=> ?_) λaI=> ?_
    .have L:=r.jl ((b+d)/2) a9r;have M:=r.jl c a9r;have Y:=ny (I:=I) u (f:=f) (v:=i) (e1:=A) w C (i:=(b+d)/2) a9r;have Z:=ny (I:=I) u (f:=f) (v:=i) (e1:=A) w C (i:=c) a9r;obtain⟨D,T⟩:b<=(b+d)/2/\(b+d)/2<d:=a9r;have G:=x.2 q m _ (m.mem_iff.1 (ka (e:=c) a9r)) _ (m.mem_iff.1 (ka (e:=(b+d)/2) a9r));have j9:(b+d)/2<=1000000000000:=a9r;generalize (b+d)/2=j at*;refine aa ?_;refine fJ x.1 G ?_;rintro _ _ ⟨rfl,rfl⟩;refine aa ?_;refine aH (λaI=> ?_) λaI=> ?_
     .exact⟨(j+1,d),⟨by show e<=j+1;omega,by show j+1<=d;omega,t⟩,⟨rfl,rfl⟩,by show d -(j+1)<d - b;omega⟩
     .exact⟨(b,j),⟨s,D,by show j<=c;omega⟩,⟨rfl,rfl⟩,by show j - b<d - b;omega⟩
    .refine cj [0,1,2,3,4,14] (λa:Nat×List R=> [(17,.v (.int .i64 (a.1:Int)))]) (λa p=>p=W f i g A a.2/\a.2.Perm e1/\a.1<=c) (λa=>a.1) (c,q) ⟨⟨rfl,m,a5m _⟩,aU⟩ ?_;rintro⟨k,n⟩ _ ⟨rfl,l,F⟩ E
     dsimp only at l F|-
     refine aa ?_;refine aH (λaM=> ?_) λaM=> ?_
     .have K:=l.length_eq;have V:=λo v=>y o (l.mem_iff.1 v);have L:=r.jl k a9r;have M:=r.jl (k - 1) a9r;have k0:(k:Int) - 1=((k - 1:Nat):Int):=a9r;obtain⟨k1,k2,k3,k4,k5,k6,k7,k8,k9,l0,l1,l2,l3⟩:=uV u (f:=f) (M:=i) (e1:=A) w V (i:=k) (v:=k - 1) a9r a9r;have X:=uU (g:=n) (e:=k) (i:=k - 1) a9r a9r;generalize W f i g A n=l4 at*;generalize el n k=a at*;generalize el n (k - 1)=l5 at*;refine aa ?_;exact⟨(k - 1,_),⟨rfl,X.trans l,by show k - 1<=c;omega⟩,rfl,by show k - 1<k;omega⟩
     .exact⟨_,U.a1,_,l,rfl⟩
   .have S:=uW e h;have k:(e+h)/2<=1000000000000:=a9r;obtain⟨D,T⟩:e<(e+h)/2/\(e+h)/2<h:=a9r;have k:(e+h)/2 - e<=h -(e+h)/2:=a9r;have k:h -(e+h)/2<=(e+h)/2 - e+1:=a9r;generalize (e+h)/2=k at*;refine aa ?_;refine o6 [0,1,2,3,4,18,19] (λa:Nat×Nat=> [(20,.v (.int .i64 (a.1:Int))),(21,.v (.int .i64 (a.2:Int)))]) (λa p=>p=W f i g A q/\e<=a.1/\a.1<=a.2/\k+c<=h+a.1/\a.2<=k/\a.2<=c) (λaI=> ?_) (λaI=> ?_) ?_
    .have aI:=of_decide_eq_true aI;have E:(k:Int)+(c:Int) -(h:Int)=((k+c - h:Nat):Int):=a9r;refine aa ?_;exact⟨(k+c - h,k),⟨by show e<=k+c - h;omega,by show k+c - h<=k;omega,a9r,a5m _,by show k<=c;omega⟩,rfl,rfl⟩
    .have aI:=of_decide_eq_false aI;refine aa ?_;exact⟨(e,c),⟨a5m _,by show e<=c;omega,by show k+c<=h+e;omega,by show c<=k;omega,a5m _⟩,rfl,rfl⟩
    rintro⟨b,d⟩ _ ⟨rfl,s,z,E,t,F⟩ B
    dsimp only at s z E t F|-
    refine pb [0,1,2,3,4,18,19,20,21] (λ_:Unit=> [(22,.v (.int .i64 ((k+c - 1:Nat):Int)))]) (λ_ p=>p=W f i g A q) ?_ ?_
    .refine aa ?_;exact⟨(),by congr 2;omega⟩
    rintro _ _ rfl B;refine pb [0,1,2,3,4,18,19] (λb:Nat=> [(20,.v (.int .i64 (b:Int)))]) (λb p=>p=W f i g A q/\e<=b/\k+c<=h+b/\b<=k/\b<=c) ?_ ?_
    .refine aa ?_;refine gP [0,1,2,3,4,18,19,22] (λa:Nat×Nat=> [(20,.v (.int .i64 (a.1:Int))),(21,.v (.int .i64 (a.2:Int)))]) (λa=>e<=a.1/\a.1<=a.2/\k+c<=h+a.1/\a.2<=k/\a.2<=c) (λa=>a.2 - a.1) (b,d) ⟨s,z,E,t,F⟩ aU ?_;rintro⟨b,d⟩ ⟨s,z,E,t,F⟩ B
     dsimp only at s z E t F|-
     have S:=uW b d;have K:=m.length_eq;have C:=λo v=>y o (m.mem_iff.1 v);refine aa ?_;refine aH (λaM=> ?_) λaM=> ?_
     .obtain⟨D,T⟩:b<=(b+d)/2/\(b+d)/2<d:=a9r;have j9:(b+d)/2<=1000000000000:=a9r;generalize (b+d)/2=j at*;have k0:((k+c - 1:Nat):Int) -(j:Int)=((k+c - 1 - j:Nat):Int):=a9r;have L:=r.jl j a9r;have M:=r.jl (k+c - 1 - j) a9r;have Y:=ny (I:=I) u (f:=f) (v:=i) (e1:=A) w C (i:=j) a9r;have Z:=ny (I:=I) u (f:=f) (v:=i) (e1:=A) w C (i:=k+c - 1 - j) a9r;have G:=x.2 q m _ (m.mem_iff.1 (ka (e:=k+c - 1 - j) a9r)) _ (m.mem_iff.1 (ka (e:=j) a9r));refine aa ?_;refine fJ x.1 G ?_;rintro _ _ ⟨rfl,rfl⟩;refine aa ?_;refine aH (λbp=> ?_) λbp=> ?_
      .exact⟨(j+1,d),⟨by show e<=j+1;omega,by show j+1<=d;omega,by show k+c<=h+(j+1);omega,t,F⟩,⟨rfl,rfl⟩,by show d -(j+1)<d - b;omega⟩
      .exact⟨(b,j),⟨s,D,E,by show j<=k;omega,by show j<=c;omega⟩,⟨rfl,rfl⟩,by show j - b<d - b;omega⟩
     grind
    rintro b _ ⟨rfl,s,E,t,F⟩ B;refine pb [0,1,2,3,4,18,20] (λ_:Unit=> [(24,.v (.int .i64 ((k+c - b:Nat):Int)))]) (λ_ p=>p=W f i g A q) ?_ ?_
    .refine aa ?_;exact⟨(),by congr 2;omega⟩
    rintro _ _ rfl B;obtain⟨o,v⟩: ∃o,k+c - b=o:=⟨_,rfl⟩;have d:o<=h:=a9r;rw[v];refine pb [0,1,2,3,4,18,20,24] (λ_:List R=> []) (λa p=>p=W f i g A a/\a.Perm e1) ?_ ?_
    .refine aa ?_;refine aH (λaM=> ?_) λaM=> ?_
     .refine aH (λbp=> ?_) λbp=> ?_
      .refine ai (a0V O P u w r Q (j0:=b) (M:=c) (c0:=o) a9r a9r a9r _ q m y) ?_;rintro _ _ ⟨n,l,rfl⟩;refine aa ?_;exact⟨n,rfl,l⟩
      .exact⟨q,rfl,m⟩
     .exact⟨q,rfl,m⟩
    rintro n _ ⟨rfl,l⟩ B;refine pb [0,1,2,3,4,18,20,24] (λ_:List R=> []) (λa p=>p=W f i g A a/\a.Perm e1) ?_ ?_
    .refine aa ?_;refine aH (λaM=> ?_) λaM=> ?_
     .refine aH (λbp=> ?_) λbp=> ?_
      .refine ai (uX N O P u w r Q x y H e b k a9r a9r a9r a9r n l) ?_;rintro _ _ ⟨a,l,rfl⟩;refine aa ?_;exact⟨a,rfl,l⟩
      .exact⟨n,rfl,l⟩
     .exact⟨n,rfl,l⟩
    rintro n _ ⟨rfl,l⟩ B;refine aa ?_;refine aH (λaM=> ?_) λaM=> ?_
    .refine aH (λbp=> ?_) λbp=> ?_
     .refine ai (uX N O P u w r Q x y H k o h a9r a9r a9r a9r n l) ?_;rintro _ _ ⟨a,l,rfl⟩;refine aa ?_;exact⟨_,U.a1,a,l,rfl⟩
     .exact⟨_,U.a1,n,l,rfl⟩
    .exact⟨_,U.a1,n,l,rfl⟩
def a0W {b c o d:FuncId} (r:dw Tryz.prog 0 b=some (uS e I c b4)) (s:dw Tryz.prog 0 c=some (sX e I)) (t:dw Tryz.prog 0 b4=some (sY e I b4 o)) (u:dw Tryz.prog 0 o=some (r5 e I d)) (w:dw Tryz.prog 0 d=some (pI e I)) (h:0<e) (j:g.length=v) (a:oF e n i v e1.length) (x:e1.length<=1000000000) {m:FuncId}{p q:List R}{y:R->R->Int} (k:oH f i g A e1 m p q y) (l: ∀z∈e1,oG e I z):
  AC Tryz.prog b [n,.v (.int .i64 (e1.length:Int)),.bH m p q] (W f i g A e1) λb d=> ∃b,b.Perm e1/\d=W f i g A b:=by
 have b:=a.cl;have c:e1.length<=1000000000000:=a9r;have m:=a;have n:=c;obtain⟨b,e⟩: ∃b,e1.length=b:=⟨_,rfl⟩;rw[e]at x c a|-;refine aO hm r ?_;refine cj [0,1,2,6] (λa:Nat×List R=> [(7,.v (.int .i64 (a.1:Int))),(8,.v (.int .i64 ((a.1+20:Nat):Int)))]) (λa d=>d=W f i g A a.2/\a.2.Perm e1/\a.1<=b) (λa=>b - a.1) (0,e1) ⟨⟨rfl,.refl _,a5q _⟩,aU⟩ ?_;rintro⟨c,v⟩ _ ⟨rfl,p,q⟩ e
 dsimp only at p q|-
 refine aa ?_;refine aH (λe=> ?_) λe=> ?_
 .refine ai (Fa s h j m n (M:=c) (c0:=c+20) a9r a9r k v p l) ?_;rintro _ _ ⟨r,e,rfl⟩;refine aa ?_;exact⟨(c+20,r),⟨rfl,e,by show c+20<=b;omega⟩,⟨rfl,rfl⟩,by show b -(c+20)<b - c;omega⟩
 .refine ai (Fa s h j m n (M:=c) (c0:=b) a9r a9r k v p l) ?_;rintro _ _ ⟨r,e,rfl⟩;refine aa ?_;refine cj [0,1,2] (λa:Nat×List R=> [(6,.v (.int .i64 (a.1:Int)))]) (λa d=>d=W f i g A a.2/\a.2.Perm e1/\0<a.1/\a.1<=20+2*b) (λa=>b - a.1) (20,r) ⟨⟨rfl,e,by show 0<20;omega,by show 20<=20+2*b;omega⟩,aU⟩ ?_;rintro⟨aR,s⟩ _ ⟨rfl,p,r,v⟩ b4
  dsimp only at p r v|-
  refine aa ?_;refine aH (λc2=> ?_) λc2=> ?_
  .have r:2*(aR:Int)=((2*aR:Nat):Int):=a9r;refine cj [0,1,2,6] (λa:Nat×List R=> [(7,.v (.int .i64 (a.1:Int))),(8,.v (.int .i64 ((a.1+2*aR:Nat):Int)))]) (λa d=>d=W f i g A a.2/\a.2.Perm e1/\a.1<=b) (λa=>b - a.1) (0,s) ⟨⟨rfl,p,a5q _⟩,by rw[a5g];exact aU⟩ ?_;rintro⟨c,v⟩ _ ⟨rfl,r,q⟩ o
   dsimp only at r q|-
   have a:(c:Int)+(aR:Int)=((c+aR:Nat):Int):=rfl;refine aa ?_;refine aH (λaI=> ?_) λaI=> ?_
   .refine ai (uX t u w h j m n k l _ c (c+aR) (c+2*aR) (a5m _) a9r a9r a9r v r) ?_;rintro _ _ ⟨a,e,rfl⟩;refine aa ?_;exact⟨(c+2*aR,a),⟨rfl,e,by show c+2*aR<=b;omega⟩,⟨rfl,a9s⟩,by show b -(c+2*aR)<b - c;omega⟩
   .have o: ∀a:List R,a.Perm e1-> ∃d:Nat×List R,(W f i g A a=W f i g A d.2/\d.2.Perm e1/\0<d.1/\d.1<=20+2*b)/\R.v (.int .i64 ((aR:Int)*2))= .v (.int .i64 (d.1:Int))/\b - d.1<b - aR:=λa d=>⟨(aR*2,a),⟨rfl,d,by show 0<aR*2;omega,by show aR*2<= _;omega⟩,rfl,by show b - aR*2<b - aR;omega⟩;refine aH (λaM=> ?_) λaM=> ?_
    .refine ai (uX t u w h j m n k l _ c (c+aR) b (a5m _) a9r a9r a9r v r) ?_;rintro _ _ ⟨a,e,rfl⟩;have:=o a e;exact aU
    .trivial
  .exact⟨_,U.a1,s,p,rfl⟩
def yO (a:FuncId):ao:=⟨9,2,.plain (aB 4 0::aB 5 0::p0 6 5::aB 7 1::bE 8 (.fZ a [aG 4,aG 6,aG 7]):: []),[]⟩
def Fb {b c d h k:FuncId} (y:dw Tryz.prog 0 b=some (yO c)) (z:dw Tryz.prog 0 c=some (uS e I d b4)) (C:dw Tryz.prog 0 d=some (sX e I)) (D:dw Tryz.prog 0 b4=some (sY e I b4 h)) (E:dw Tryz.prog 0 h=some (r5 e I k)) (F:dw Tryz.prog 0 k=some (pI e I)) (G:0<e) (L:g.length=v) (a:oF e n i v e1.length) (P:e1.length<=1000000000) {o:FuncId}{p r:List R}{S:R->R->Int} (T:oH f i g A e1 o p r S) (V: ∀j∈e1,oG e I j):
  AC Tryz.prog b [n,.bH o p r] (W f i g A e1) λs l=> ∃x,x.Perm e1/\l=W f i g A x:=by
 have t:=a.cl;have u:=a.len;refine aO hm y ?_;refine ai (a0W z C D E F G L a P T V) ?_;rintro _ _ ⟨m,q,rfl⟩;refine aa ?_;exact⟨_,U.a1,m,q,rfl⟩
end
def a0X:dw Tryz.prog 0 70=some (yO 133):=a9w
def a0Y:dw Tryz.prog 0 218=some (yO 292):=a9w
theorem ar.wr (d:ar t f e A n) (h:0<e) (k:A=flat g) (o: ∀c∈g,c.cells.length=e) (G:g≠ []):
  ∃a post b,t a=none/\n= .al a g.length b e/\f=W f a [] post g/\oF e n a 0 g.length/\g.length<=b/\b<=maxLen/\(g.length*e+post.length=b*e):=by
 subst k;have p:=dh o;obtain⟨L,⟨c,_⟩|⟨a,r,b,x,rfl,y,z,P,C,D,E,F⟩⟩:=d;grind[List.length_nil,List.length_pos_iff,Nat.mul_pos]
 .obtain rfl:r=g.length:=a7o h (by rw[<-D,p]);refine⟨a,x.drop (g.length*e),b,y,rfl,?_,⟨λS T=> ?_,rfl,rfl⟩,E,F,?_⟩
  .rw[W,a5d,<-C,a5r];exact(U.sK z).symm
  simp_all [ja,a5i,a5g];grind
theorem W.dW (d:f.sub t) (b:f v=none) (h: ∀a∈g,a.cells.length=e) (c:A.Perm g) (k:g.length<=i) (o:i<=maxLen) (x:g.length*e+e1.length=i*e):
  ar f (W t v [] e1 A) e (flat A) (.al v g.length i e):=by
 have p:(flat A).length=g.length*e:=by rw[dh λa r=>h a (c.mem_iff.1 r),c.length_eq]
 refine⟨U.ae d b,.inr ⟨v,_,i,_,rfl,b,U.ah _ _ _,?_,?_,p,k,o⟩⟩;simp_all;simp_all
def az.mem {h:Type}{k:h->R->Prop}: ∀ {d:List h}{aR:List R},az k d aR-> ∀ {b:R},b∈aR-> ∃c,c∈d/\k c b
 | [],[],_,b,a=>by cases a
 |c::d,y::aR,⟨h1,o⟩,b,a=>by
  rcases a5k.1 a with rfl|a
  .exact⟨c,a9s,h1⟩
  .obtain⟨p,r,x⟩:=az.mem o a;exact⟨p,by simp[r],x⟩
 | [],_:: _,a,_,_=>a.elim
 | _:: _,[],a,_,_=>a.elim
variable{b0:Type}
def az.perm {p:b0->R->Prop} (r:g.Perm A): ∀ {a:List b0},az p a A-> ∃c,c.Perm a/\az p c g:=by
 induction r with
 |nil=>exact λ{a} b=>⟨a,.refl _,b⟩
 |cons x _ ih=>
  intro a b
  match a,b with
  |h::a,⟨h1,k⟩=>obtain⟨c,d,o⟩:=ih k;exact⟨h::c,d.cons _,h1,o⟩
 |swap x G L=>
  intro a b
  match a,b with
  |h::y::a,⟨h1,k,d⟩=>exact⟨y::h::a,.swap _ _ _,k,h1,d⟩
 |trans _ _ z C=>intro a b;obtain⟨c,d,o⟩:=C b;obtain⟨D,E,F⟩:=z o;exact⟨D,E.trans d,F⟩
theorem oH.of {s:U}{l:Nat}{ds d:List R} (r:gl Tryz.prog b4=true) (x: ∀b∈e1,∀c∈e1,∃h:Int,∀a,a.Perm e1->AC Tryz.prog b4 (ds++ [b,c]++d) (W s l g A a) λk o=>o=W s l g A a/\k= .v (.int .i64 h)):
  ∃y,oH s l g A e1 b4 ds d y:=by
 classical
 exact⟨λb c=>if z: ∃h:Int,∀a,a.Perm e1->AC Tryz.prog b4 (ds++ [b,c]++d) (W s l g A a) λk o=>o=W s l g A a/\k= .v (.int .i64 h)then z.choose else 0,r,λa C b D c E=>by
  have p:=x b D c E;simp only[dif_pos p];exact p.choose_spec a C⟩
theorem a0Z (m:Own) (h:Nat) (y:1<=h) (z:h<=8) (a:List (List Int)) (c:List R) (p:R) (b:U) (l:bT b 1 p c) (k:az isRow a c) (q: ∀e∈a,e.length=h) (d:a.length<=100000) (o:a≠ []):
  AC Tryz.prog 142 [fT.V m,p] b λe f=> ∃c r,r.Perm a/\az isRow r c/\ar b f 1 (flat c) e:=by
 have c:=k.len;have d:=l.one;have d:=l.len;rw[c]at d;refine aO hm No ?_;refine br λi c=> ?_;generalize c:b.set i _=g;have t:b.sub g:=by subst c;exact aU
 have n:g i=some (.cells [.v (.int .u8 0),.v (.int .i64 0),.J (ad []) m]):=by subst c;exact aU
 clear c;refine cj [1,2,8,9] (λc:Nat×R=> [(10,.v (.int .i64 (c.1:Int))),(5,c.2)]) (λc f=>c.1<=a.length/\ ∃d,ar g f 1 d c.2/\d=flat d/\az isRow (a.take c.1) d) (λc=>a.length - c.1) (0,.J [] .nil) ⟨⟨a5q _,[],ar.nil U.a1,rfl,trivial⟩,aU⟩ ?_;rintro⟨b,c⟩ f ⟨s,d,g,j,c⟩ u
 dsimp only at s g c|-
 have s:=U.af (g.1 _ _ n);refine aa ?_;refine aH (λs=> ?_) λs=> ?_
 .have u:0<a.length:=a5U.2 o;obtain⟨_,o,v,rfl⟩:=k.get (i:=b) (x:=a.getD b []) (by grind);obtain⟨_,A,B,rfl⟩:=k.get (i:=0) (x:=a.getD 0 []) (by simp[List.getD,u]);obtain⟨k,s,s⟩:=l.get b _ o;obtain⟨w,x,C⟩:=l.get 0 _ A;have x:cS 1 p (.v (.int .i64 0))=some w:=x;have l:=U.aq t g.1;have p:dr false 1 f k=some (.J (ad (a.getD b [])) v):=s.ld f l false 1 a9r (by simp[R.cells]);have p:dr false 1 f w=some (.J (ad (a.getD 0 [])) B):=C.ld f l false 1 a9r (by simp[R.cells]);have p:(ad (a.getD b [])).length=h:=by grind[bI,List.getD]
  have l:(ad (a.getD 0 [])).length=h:=by rw[bI];exact q _ (by simp[List.getD,u])
  have l:=eU (a:=a) (e:=b) (b:= []) a9r;have u:fT.ok h=true:=by rw[r4];exact decide_eq_true ⟨y,z⟩
  generalize a.getD b []=e at*;generalize a.getD 0 []=h at*;refine aa ?_;refine bk (uR fT _ _ _ a9r a9s) ?_;refine ai (sy e v f (by rw[bI]at p;omega)) ?_;rintro _ h ⟨h,rfl⟩;have u:=g.mono h;refine aa ?_;refine eT (by simp[aN,R.cells]) a9s λh h=> ?_;have p:=u.mono (U.ae (Y:= .cells (flat [R.J (ad e) .any])) U.a1 h);have h:(flat d).length=b:=by rw[dh (c.cells λ_ _=>isRow.cells),c.len,a4N];omega
  rw[j]at p;refine aa ?_;refine fk p a9r (ot rfl) rfl (by rw[h];simp[flat,R.cells];omega) (by rw[h];simp[flat,R.cells];omega) λu p p=> ?_;refine aa ?_;refine⟨(b+1,u),⟨by show b+1<=a.length;omega,d++ [.J (ad e) .any],?_,?_,?_⟩,⟨rfl,rfl⟩,a9r⟩
  .rw[<-j]at p;exact p
  .conv=>lhs;rw[j]
   simp[flat,R.cells]
  .show az isRow (a.take (b+1)) _;rw[l];exact c.snoc ⟨_,rfl⟩
 .obtain rfl:b=a.length:=a9r;rw[a5h]at c;have a: ∀l∈d,l.cells.length=1:=c.cells λ_ _=>isRow.cells;have h:=c.len;have b:d≠ []:=by grind
  obtain⟨p,post,h,u,rfl,v,w,z,A,x⟩:=ar.wr g a9r j a b;have h:p≠i:=by rintro rfl;rw[u]at n;cases n
  have y: ∀b,(W f p [] post b).read i=some [.v (.int .u8 0),.v (.int .i64 0),.J (ad []) m]:=λb=>U.af ((U.an _ _ h.symm).trans (g.1 _ _ n));have n:=λb h=>W.dW (A:=b) g.1 u a h z A x;obtain⟨g,g⟩:=oH.of (s:=f) (l:=p) (g:= []) (A:=post) (e1:=d) (b4:=219) (ds:= []) (d:= [.ptr i 0]) a9w λd d f p=>by
   obtain⟨k,s,f,rfl⟩:=c.mem d;obtain⟨d,u,z,rfl⟩:=c.mem p;have x:=q k s;have p:=q d u;exact⟨sW k d,λb _=>a0E m f z k d _ i (y b) ⟨a9r,a9r⟩ a9r⟩
  rw[v];clear v;refine ai (Fb a0Y a0S a0O a0Q a0M a0K a9r rfl w a9r g λl o=>⟨a l o,?_⟩) ?_
  .obtain⟨e,_,f,rfl⟩:=c.mem o;rfl
  rintro _ _ ⟨b,h,rfl⟩;clear j y a w;refine aa ?_;obtain⟨r,a,a⟩:=c.perm h;have a:=(n _ h).base t;grind[U.a1]
abbrev nz (a b:List Int) (c d h:Own):List R:= [.J (ad a) c,.J (ad b) d,.v (.int .u8 0),.v (.int .i64 0),.J [] h,.v (.int .i64 1),.v (.bool false)]
theorem a1a (y z:List Int) (C D E:Own) (d h:U) (k:List R) (o:R) (a:ar d h 1 k o):AC Tryz.prog 141 [o,.agg (nz y z C D E)] h λF G=>ar d G 1 (k.take 1) F:=by
 have g:=fL a;obtain⟨L,P,_,i⟩:=a.src;refine aO hm Nl ?_;refine br λj p=> ?_;refine aH (λS=> ?_) λS=> ?_
 .obtain⟨r,⟨rfl,_⟩|⟨b,x,c,T,rfl,V,W,e,l,m,n,f⟩⟩:=a
  .simp at P;omega
  .obtain rfl:x=L:=a9r;have q:c8 1 (.al b x c 1) none (some (.v (.int .i64 1))) none=some (.al b 1 c 1):=hQ (v:=1) a9r;refine aa ?_;refine⟨_,U.a1,U.ae r (U.bG r p),.inr ⟨b,1,c,T,rfl,V,U.ae U.a1 p _ _ W,e,?_,?_,a9r,f⟩⟩;grind
   .rw[a4N];omega
 grind[List.take_of_length_le,U.a1,U.ae]
def ev (b c:List Int) (a:ay):Bool:=decide (a.live≠0)&&jZ b c a.aV a.aW
theorem a1b (b c:List Int) (r x y d h k:Own) (a:ay) (z:a.sum.length=32) (C:b.length<=1000000000000) (o:U):AC Tryz.prog 130 [.agg (nz b c r x y),.agg (ab a d h k)] o λD E=>E=o/\D= .v (.bool (ev b c a)):=by
 have F:=(aX (N:=d) (e5:=h) (h5:=k) z).all;refine aO hm N0 ?_;refine br λG L=> ?_;refine db λP S T V=> ?_;generalize W:ab a d h k=e at*;refine aH (λp=> ?_) λp=> ?_
 .refine bk (F2 _ b c a.aV a.aW _ _ _ _ C) ?_;refine aH (λc2=> ?_) λc2=> ?_
  .refine aR ?_;rw[ev,c2,Bool.and_false]
  simp_all [aR,ev,a8u,decide_eq_true]
 .refine aR ?_;rw[ev,decide_eq_false (by simpa using p),a7f]
theorem Fc {a b:List Int} (c:jZ q b6 a b=true):cU (gC q b6 a b).1 (gC q b6 a b).2 (gC q b6 a b).1.length=true/\(gC q b6 a b).1.length=q.length:=by
 have d:=id c;rw[jZ,a4M]at c;obtain⟨h,hm⟩:=c;obtain⟨y,z,C,D,E⟩:=yH h;rw[oD,a4M]at h;obtain⟨r,x⟩:=h;simp only[cU,a4M,decide_eq_true_eq,a4Y,a6b]at r x hm;have k:(gC q b6 a b).1.length=q.length:=by rw[gC,if_pos d];simp[z]
 have F:(gC q b6 a b).2.length=q.length:=by rw[gC,if_pos d];simp[y,C]
 refine⟨?_,k⟩;rw[k];simp only[cU,a4M,decide_eq_true_eq,a4Y,a6b];refine⟨⟨⟨⟨D,E⟩,k⟩,F⟩,λo p=> ?_⟩;have G:=r.2 o p;have L:=x.2 o p;obtain⟨P,S⟩:=hm o p;rw[gC,if_pos d];grind
def yP (b c:List Int) (a:ay) (d:List Int):Bool:=jZ b c a.aV a.aW&&sV d (gC b c a.aV a.aW).1
def a1c (a h:List Int) (G L r x y z T:Own) (b:ay) (k:List Int) (V:b.sum.length=32) (j:k.length=a.length) (l:a.length<=8) (c:U):AC Tryz.prog 135 [.agg (nz a h G L r),.agg (ab b x y z),.J (ad k) T] c λW e=>e=c/\W= .v (.bool (yP a h b k)):=by
 have m:=(aX (N:=x) (e5:=y) (h5:=z) V).all;refine aO hm N8 ?_;refine br λC n=> ?_;refine db λP q s t=> ?_;generalize u:ab b x y z=f at*;generalize o:(c.set C _).set P _=D;have E:c.sub D:=by subst o;exact aU
 have cl:D C=some (.cells (nz a h G L r)):=by subst o;exact aU
 have v:D P=some (.cells f):=by subst o;exact aU
 clear o;refine gs (F3 _ a h b.aV b.aW _ _ _ _ a9r) λw d=> ?_;have A:=U.af (d _ _ cl);refine aP λS F=> ?_;have g:C≠S:=by rintro rfl;rw[d _ _ cl]at F;cases F
 have B:=g.symm;have H:c S=none:=U.bG (U.aq E d) F;refine aa ?_;refine aH (λp=> ?_) λp=> ?_
 .obtain⟨i,c2⟩:=Fc p;refine bk (a0F r _ _ _ _ _ k _ i a9r) ?_;refine⟨U.aq E d,aR ?_⟩;rw[yP,p,a6o]
 .refine⟨U.aq E d,aR ?_⟩;rw[yP,p,a7f]
abbrev kP (a:ay) (b c d:Own) (h k:Nat) (o p:Int):List R:=ab a b c d++ [.v (.int .u64 (h:Int)),.v (.int .u64 (k:Int)),.v (.int .i64 o),.v (.int .i64 p)]
def r6 (a:ay) (b:R):Prop:=a.sum.length=32/\a.cF/\ ∃c d h k o id p,b= .agg (kP a c d h k o id p)
variable{b1:Int}{w j2:ay}{N e5 h5:Own}
theorem uY {a:Int} (h:w.sum.length=32):(kP w N e5 h5 e i b1 a).length=41/\(kP w N e5 h5 e i b1 a).take 41=kP w N e5 h5 e i b1 a/\(kP w N e5 h5 e i b1 a).take 37=ab w N e5 h5/\
  ((kP w N e5 h5 e i b1 a).drop 37).take 2= [.v (.int .u64 (e:Int)),.v (.int .u64 (i:Int))]/\aY false 1 ((kP w N e5 h5 e i b1 a).drop 39)= .v (.int .i64 b1)/\aY false 1 ((kP w N e5 h5 e i b1 a).drop 40)= .v (.int .i64 a):=by
 have d:=(aX (N:=N) (e5:=e5) (h5:=h5) h).len;have b: ∀c,(kP w N e5 h5 e i b1 a).drop (37+c)= [R.v (.int .u64 (e:Int)),.v (.int .u64 (i:Int)),.v (.int .i64 b1),.v (.int .i64 a)].drop c:=λc=>by
  rw[a6m,a5x a9r,d,a7v,a5d]
 have k:(kP w N e5 h5 e i b1 a).length=41:=by rw[a4L,d];rfl
 refine⟨k,a4K a9r,?_,?_,?_,?_⟩;simp_all
 .rw[b 0];rfl
 .rw[b 2];rfl
 .rw[b 3];rfl
theorem a1d (E:r6 w n) (F:r6 j2 b3): ∃G:Int,∀k,AC Tryz.prog 71 [n,b3] k λL P=>P=k/\L= .v (.int .i64 G):=by
 obtain⟨S,_,r,x,y,a,b,id,o,rfl⟩:=E;obtain⟨T,_,z,C,D,c,d,h,p,rfl⟩:=F;have V:=uY (N:=r) (e5:=x) (h5:=y) (e:=a) (i:=b) (b1:=id) (a:=o) S;have W:=uY (N:=z) (e5:=C) (h5:=D) (e:=c) (i:=d) (b1:=h) (a:=p) T;refine⟨if r3 a b c d=0 then(if id=h then IntKind.i64.wrap (o - p)else if id<h then -1 else 1)else r3 a b c d,λk=> ?_⟩;generalize kP w r x y a b id o=e at*;generalize kP j2 z C D c d h p=f at*;refine aO hm Lj ?_;refine br λg i=> ?_;refine db λj l a b=> ?_;refine bk (F1 _ _ _ _ _) ?_
 repeat' first|refine aH (λ_=> ?_) λ_=> ?_|trivial
 all_goals simp_all
theorem a1e (c d:List Int) (k o h:Own) (a:Nat) (p:a<=1000000000000) (b:U):AC Tryz.prog 68 [.agg (nz c d k o h),.v (.int .i64 (a:Int))] b λy z=>z=b/\y= .v (.bool (cU c d a)):=by
 have r:=λb=>uR fT h a b p a9s;simp only[r4]at r;refine aO hm Lf ?_;refine br λC F=> ?_;refine aH (λD=> ?_) λD=> ?_
 .refine aH (λc2=> ?_) λc2=> ?_
  .refine bk (oo _ c d _ _ _ p) ?_;refine aH (λaI=> ?_) λaI=> ?_
   .trivial
   .have E:decide (1<=a/\a<=8)=true:=decide_eq_true a9r;have x:=r (b.set C (.cells (nz c d k o h)));rw[E]at x;exact bk x trivial
  grind[cU,lp]
 grind[cU,lp]
theorem Fe {a:Int}:ij b1 a<0↔b1<a:=by unfold ij;split<;>(try split)<;>omega
theorem Ff {a:Int}:ij b1 a=0↔b1=a:=by unfold ij;split<;>(try split)<;>omega
def kQ:List Int->List Int->Prop
 |a::c,b::d=>a<b\/a=b/\kQ c d
 | _,_=>False
theorem r7: ∀ {p q:List Int},p.length=q.length->(fR p q<0↔kQ p q)
 | [],[],_=>by simp[fR,kQ]
 |b::p,c::q,a=>by
  have ih:=r7 (p:=p) (q:=q) (by simpa using a);grind[fR,kQ,Ff,Fe]
 | [],_:: _,a=>by simp at a
 | _:: _,[],a=>by simp at a
def yQ: ∀ {b:List Int},¬kQ b b
 | [],a=>a
 |c::b,a=>a.elim a9r λa=>yQ a.2
def yR: ∀ {c d h:List Int},kQ c d->kQ d h->kQ c h
 |k::c,o::d,p::h,a,b=>by
  rcases a with a|⟨rfl,a⟩<;>rcases b with b|⟨rfl,b⟩
  .exact .inl a9r
  .exact .inl a
  .exact .inl b
  .exact .inr ⟨rfl,yR a b⟩
theorem yS: ∀ {p q:List Int},p.length=q.length->kQ p q\/p=q\/kQ q p
 | [],[],_=> .inr (.inl rfl)
 |d::p,h::q,a=>by
  rcases Int.lt_trichotomy d h with b|rfl|b
  .exact .inl (.inl b)
  .rcases yS (p:=p) (q:=q) (by simpa using a)with c|rfl|c
   .exact .inl (.inr ⟨rfl,c⟩)
   .exact .inr (.inl rfl)
   .exact .inr (.inr (.inr ⟨rfl,c⟩))
  .exact .inr (.inr (.inl b))
 | [],_:: _,a=>by simp at a
 | _:: _,[],a=>by simp at a
def yT (a:Nat) (b c:List Int):Prop:=b.getD a 0<c.getD a 0\/b.getD a 0=c.getD a 0/\kQ b c
theorem uZ (a:q.length=b6.length):cO e q b6<0↔yT e q b6:=by grind[cO,yT,Ff,r7,Fe]
structure nA (d:Nat) (a:List Int->List Int->Int):Prop where
 jg: ∀x,x.length=d-> ¬a x x<0
 sZ: ∀x y z,x.length=d->y.length=d->z.length=d->a x y<0->a y z<0->a x z<0
 r8: ∀x y,x.length=d->y.length=d->a x y<0\/x=y\/a y x<0
def nA.yU {a:List Int->List Int->Int} (c:nA e a) (b:q.length=e) (d:b6.length=e) (h:a q b6<0): ¬a b6 q<0:=λk=>c.jg q b (c.sZ q b6 q b d b h k)
def nA.Fg {c:List Int->List Int->Int} (k:nA e c): ∀a b d,a.length=e->b.length=e->d.length=e-> ¬c a b<0-> ¬c b d<0-> ¬c a d<0:=λa b d o p y z r x=>by
 rcases k.r8 a b o p with h|rfl|h
 .exact z h
 .exact r x
 .exact r (k.sZ _ _ _ p o y h x)
theorem pK (k o:Nat):nA k (cO o) where
 jg d h a:=by
  rw[uZ rfl]at a;rcases a with a|a
  .omega
  .exact yQ a.2
 sZ d p z h r C b c:=by
  rw[uZ a9r]at*;rcases b with b|⟨b,x⟩<;>rcases c with c|⟨c,y⟩
  .exact .inl a9r
  .exact .inl a9r
  .exact .inl a9r
  .exact .inr ⟨a9r,yR x y⟩
 r8 d p h r:=by rw[uZ a9r,uZ a9r];grind[yT,Int.lt_trichotomy,yS]
theorem a1f (d:Nat):nA d fR where
 jg a b c:=by rw[r7 rfl]at c;exact yQ c
 sZ a h p b k r h1 o:=by rw[r7 a9r]at*;exact yR h1 o
 r8 a h b k:=by simp_all [r7,yS]
def yV {z:Nat}{p:List Int->List Int->Int} (C:nA z p): ∀ {c a:List (List Int)},(∀b∈c,b.length=z)->a.Perm c->c.Pairwise (λr x=> ¬p x r<0)->a.Pairwise (λr x=> ¬p x r<0)->a=c
 | [],a,_,d,_,_=>d.eq_nil
 |b::c,a,y,d,h1,E=>by
  cases a with
  |nil=>exact absurd d.length_eq a9s
  |cons h a=>
   obtain⟨F,G⟩:=a5t.1 h1;obtain⟨L,P⟩:=a5t.1 E;have D:h∈b::c:=d.mem_iff.1 a9s;have S:b∈h::a:=d.mem_iff.2 a9s;have k:h=b:=by
    rcases a5k.1 D with k|T
    .exact k
    rcases a5k.1 S with k|V
    .exact k.symm
    rcases C.r8 h b (y h D) (y b a9s)with o|o|o
    .exact absurd o (F h T)
    .exact o
    .exact absurd o (L b V)
   subst k;rw[yV C (λW e=>y W (by simp[e])) (List.Perm.cons_inv d) G P]
theorem a1g (c:Nat) (a:List Int) (b:List (List Int)):(fb c a b).Perm (a::b):=by grind[List.takeWhile_append_dropWhile,decide,cO,fb,List.perm_middle]
def Fh {p c:Nat}{d:List Int} (r:d.length=p): ∀ {h:List (List Int)},(∀b∈h,b.length=p)->h.Pairwise (λx y=> ¬cO c y x<0)->(fb c d h).Pairwise (λx y=> ¬cO c y x<0)
 | [],_,_=>by simp[fb]
 |b::h,z,D=>by
  obtain⟨E,L⟩:=a5t.1 D;have F:=pK p c;have G:=z b a9s;by_cases o:cO c b d<0
  .have C:fb c d (b::h)=b::fb c d h:=by simp[fb,a5B,a6f,o]
   rw[C];refine a5t.2 ⟨λk a=> ?_,Fh r (λk a=>z k (by simp[a])) L⟩;rcases yq.1 a with rfl|a
   .exact F.yU G r o
   .exact E k a
  .have C:fb c d (b::h)=d::b::h:=by simp[fb,a5B,a6f,o]
   rw[C];refine a5t.2 ⟨λk a=> ?_,D⟩;rcases a5k.1 a with rfl|a
   .exact o
   .exact F.Fg k b d (z k (by simp[a])) G r (E k a) o
theorem Fi {o d:Nat}: ∀(h a:List (List Int)),(∀b∈h,b.length=o)->(∀b∈a,b.length=o)->a.Pairwise (λp r=> ¬cO d r p<0)->(h.foldl (λx c=>fb d c x) a).Perm (a++h)/\(h.foldl (λx c=>fb d c x) a).Pairwise (λp r=> ¬cO d r p<0)
 | [],a,_,_,y=>by simpa using y
 |c::h,a,h1,z,y=>by
  have C:=h1 c a9s;have D: ∀b∈fb d c a,b.length=o:=λb k=>by
   rcases yq.1 k with rfl|k
   .exact C
   .exact z b k
  obtain⟨E,F⟩:=Fi h (fb d c a) (λb k=>h1 b (by simp[k])) D (Fh C z y);grind[a1g,trans]
variable{O:List (List Int)}
def ta (a: ∀b∈O,b.length=i):(dJ e O).Perm O/\(dJ e O).Pairwise (λc d=> ¬cO e d c<0):=by simpa[dJ] using Fi (o:=i) (d:=e) O [] a a9s .nil
def a1h (a:isRow q n):n.one=true/\n.cells= [n]:=by obtain⟨b,rfl⟩:=a;exact⟨rfl,rfl⟩
theorem az.of {k:Type}{o:k->R->Prop}: ∀ {b:List k}{aR:List R},aR.length=b.length->(∀(c:Nat) d h,b[c]? =some d->aR[c]? =some h->o d h)->az o b aR
 | [],[],_,_=>trivial
 |d::b,r::aR,a,p=>⟨p 0 d r rfl rfl,az.of (by simpa using a) λc x h y z=>p (c+1) x h y z⟩
 | [],_:: _,a,_=>by simp at a
 | _:: _,[],a,_=>by simp at a
variable{m:Program}
def a1i (a:gl m b4=true): ∀b c,(callFunc b4 b).run m c= .ok (.enter b4 b) c:=by
 unfold gl at a;split at a
 .rename_i k d;rw[a4M]at a;obtain⟨o,h⟩:=a5C.1 a.1;exact enters_of d (by simpa using a.2) h
 .cases a
theorem a1j {h:List Int->List Int->Int} (j:nA i h) {k:List (List Int)} (y:f v=some (.cells g)) (s:az isRow O A) (u:O.length=e) (z:g.take e=A) (n:e<=4000000) (B:0<e) (w: ∀a∈O,a.length=i)
  (x:k.Perm O) (C:k.Pairwise (λo c=> ¬h c o<0)) (l:FuncId) (p:List R) (D:t.sub f) (E: ∀c,t c=none\/ ∃b,t c=some (.ro b)) (F:gl Tryz.prog l=true)
  (G: ∀b d q r,b.length=i->d.length=i->AC Tryz.prog l ([.J (ad b) q,.J (ad d) r]++p) t λa _=>a= .v (.int .i64 (h b d))):
  AC Tryz.prog 118 [.al v e M 1,.bH l [] p] f λa t=>a= .aL []/\ ∃m,az isRow k m/\t=f.set v (.cells (m++g.drop e)):=by
 refine(ZS (m:=Tryz.prog) Tryz.EW isRow (λ_ _=>a1h) y s.len (λe b o e f=> ?_) u z a9r l p D E (λa=>a.length=i) w B h j.jg j.sZ j.Fg (a1i F) λb d o c f n e g=> ?_).mono λa t h=> ?_
 .obtain⟨c,n,a⟩:=s.get e;simp_all
 .obtain⟨q,rfl⟩:=f;obtain⟨r,rfl⟩:=n;exact G b d q r e g
 .obtain⟨c,m,d,a,f,g,i,l⟩:=h;have:d=k:=yV j (λb e=>w b (x.mem_iff.1 e)) (a.trans x.symm) C i;subst this;exact⟨c,m,az.of (by rw[f,a.length_eq,u]) g,l⟩
def gD (k o:U) (a:List R) (c:R):Prop:=
 k.sub o/\(∀p∈a,p.cells.length=41)/\((a= []/\(c= .J [] .nil\/c= .J [] .zero))\/ ∃d h post b,k d=none/\o d=some (.cells (h++flat a++post))/\a.length<=b/\b<=maxLen/\a.length*41+post.length=b*41/\
  ((c= .al d a.length b 41/\h= [])\/c= .bx d h.length a.length b 41))
def gD.mono {a:R} (c:gD f t g a) (b:t.sub e7):gD f e7 g a:=by obtain⟨d,h,k⟩:=c;refine⟨U.aq d b,h,k.imp_right ?_⟩;rintro⟨o,p,post,r,x,y,z⟩;exact⟨o,p,post,r,x,b _ _ y,z⟩
def gD.len (a:gD f t g n):fg n=some (.v (.int .i64 (g.length:Int)))/\n.cells= [n]:=by obtain⟨_,_,⟨rfl,rfl|rfl⟩|⟨b,c,post,d,_,_,_,_,_,⟨rfl,_⟩|rfl⟩⟩:=a<;>exact⟨rfl,rfl⟩
def gD.other {q:Nat}{o:bq} (c:gD f t g n) (d:f q=none) (h:cR n≠some q):gD f (t.set q o) g n:=by
 obtain⟨k,p,r⟩:=c;refine⟨U.ae k d,p,r.imp_right ?_⟩;rintro⟨a,x,post,y,z,C,D,E,F,b⟩;have G:a≠q:=by rintro rfl;rcases b with ⟨rfl,_⟩|rfl<;>exact h rfl
 exact⟨a,x,post,y,z,by rw[U.an _ _ G];exact C,D,E,F,b⟩
def ar.other {q:Nat}{o:bq} (b:ar f t e g n) (c:f q=none) (d:cR n≠some q):ar f (t.set q o) e g n:=by
 obtain⟨h,k⟩:=b;refine⟨U.ae h c,k.imp_right ?_⟩;rintro⟨a,p,r,x,rfl,y,z,C⟩;have D:a≠q:=by rintro rfl;exact d rfl
 exact⟨a,p,r,x,rfl,y,by rw[U.an _ _ D];exact z,C⟩
theorem gD.app {d:R}{e:cD s} (h:gD t f g b3) (u:n.cells.length=41) (i:bN f 41 d=some (1,n.cells)) (j:g.length<=100000000)
  (o: ∀c b,gD t b (g++ [n]) c->(∀a,cR c=some a->cR b3=some a\/f a=none)->(∀a,cR b3≠some a->f a≠none->b a=f a)->s c b):jL 41 152 f b3 d (bP s e):=by
 obtain⟨k,d,m⟩:=h;have p: ∀b∈g++ [n],b.cells.length=41:=λb b=>by
  grind
 have q:flat (g++ [n])=flat g++n.cells:=by simp[flat]
 have l:(flat g).length=g.length*41:=dh d;unfold jL;rw[vP i];simp only[bP];have b: ∀(b d:Nat) (e:List R),f b=none->g.length+1<=d->d<=maxLen->e.length=(d -(g.length+1))*41->s (.al b (g.length+1) d 41) (f.set b (.cells (flat g++n.cells++e))):=λb d e j i hm h=>by
  have h:=U.bG k j;refine o _ _ ⟨U.ae k h,p,.inr ⟨b,[],e,d,h,?_,?_,hm,?_,.inl ⟨?_,rfl⟩⟩⟩ (λa h=> ?_) λa h d=> ?_
  .rw[U.ah,q];rfl
  .simpa using i
  grind
  .rw[a4L];rfl
  grind[cR,Option.some.injEq]
  .have:a≠b:=by rintro rfl;exact d j
   exact U.an _ _ this
 rcases m with ⟨rfl,j⟩|⟨d,b,post,e,r,t,m,v,m,w⟩
 .rcases j with rfl|rfl;simp_all;simp_all
 .have x:g.length+1<=e-> ∃j,putAt (b++flat g++post) (b.length+g.length*41) n.cells=b++flat (g++ [n])++j/\(g.length+1)*41+j.length=e*41:=λi=>by
   refine⟨post.drop 41,?_,by rw[a4X];omega⟩;have m:(b++flat g).length=b.length+g.length*41:=by rw[a4L,l]
   rw[putAt,<-m,a7e,<-a5D,a7g,u,q];simp
  have q: ∀c,cR b3=some d->cR c=some d->((c= .al d (g.length+1) e 41/\b= [])\/c= .bx d b.length (g.length+1) e 41)->g.length+1<=e->s c (f.set d (.cells (putAt (b++flat g++post) (b.length+g.length*41) n.cells))):=λc c f n i=>by
   obtain⟨j,m,s⟩:=x i;rw[m];refine o _ _ ⟨U.ae k r,p,.inr ⟨d,b,j,e,r,U.ah _ _ _,by simpa using i,v,by simpa using s,?_⟩⟩ (λa h=> .inl ?_) λa h _=> ?_
   .simpa using n
   .rw[f]at h;rw[c];exact h
   .have:a≠d:=by rintro rfl;exact h c
    exact U.an _ _ this
  rcases w with ⟨rfl,rfl⟩|rfl
  .simp only[t];refine⟨trivial,by simp[l];omega,a9r,a9r,?_⟩;split
   .have:=q (.al d (g.length+1) e 41) rfl rfl (.inl ⟨rfl,rfl⟩)‹_›;simpa using this
   simp_all
  .simp only[t];refine⟨trivial,by simp[l];omega,a9r,a9r,?_⟩;split
   .exact q (.bx d b.length (g.length+1) e 41) rfl rfl (.inr rfl)‹_›
   simp_all
abbrev lB (a:Nat) (b c:List Int) (d h k:Own) (o:Nat) (p:R) (r x y:Int) (z:R):List R:=
 [.ptr a 0,.J (ad b) d,.J (ad c) h,.v (.int .u8 0),.v (.int .i64 0),.J [] k,.v (.int .i64 1),.v (.bool false),.v (.int .i64 (o:Int)),p,.v (.int .i64 r),.v (.int .i64 x),.v (.int .i64 y),z]
structure iq where
 gE:Nat
 aV:List Int
 aW:List Int
 hv:Own
 eX:Own
 ht:Own
 d:Nat
structure dK (A:iq) (b c:U) (a:Nat) (us:List R) (L:R) (es:List R) (oI:R):Prop where
 gM:b a=none
 x: ∃n oy d:Int,c a=some (.cells (lB A.gE A.aV A.aW A.hv A.eX A.ht A.d L n oy d oI))
 l:ar b c 1 us L
 w:gD b c es oI
 hb:cR L≠some a
 kb:cR oI≠some a
 lw: ∀p,cR L=some p->cR oI≠some p
def dK.mono {c:iq}{d h k:U}{o:Nat}{p:List R}{r:R}{x:List R}{y:R} (a:dK c d h o p r x y) (b:h.sub k):dK c d k o p r x y:=
 ⟨a.gM,by obtain⟨z,C,D,a⟩:=a.x;exact⟨z,C,D,b _ _ a⟩,a.l.mono b,a.w.mono b,a.hb,a.kb,a.lw⟩
theorem dK.set {b:iq}{k o:U}{c:Nat}{p:List R}{d:R}{r:List R}{h:R} (a:dK b k o c p d r h) (x y z:Int):dK b k (o.set c (.cells (lB b.gE b.aV b.aW b.hv b.eX b.ht b.d d x y z h))) c p d r h:=
 ⟨a.gM,⟨x,y,z,U.ah _ _ _⟩,ar.other a.l a.gM a.hb,a.w.other a.gM a.kb,a.hb,a.kb,a.lw⟩
def ar.has (a:ar t f i g n) (b:cR n=some e):f e≠none:=by
 obtain⟨_,⟨_,rfl|rfl⟩|⟨d,h,k,o,rfl,_,c,_⟩⟩:=a
 .cases b
 .cases b
 .obtain rfl:=a4I b;rw[c];exact λa=>by cases a
def gD.has (a:gD t f g n) (b:cR n=some e):f e≠none:=by
 obtain⟨_,_,⟨_,rfl|rfl⟩|⟨d,h,post,k,_,c,_,_,_,⟨rfl,_⟩|rfl⟩⟩:=a
 .cases b
 .cases b
 all_goals (obtain rfl:=a4I b;rw[c];exact λa=>by cases a)
def ar.fH (c:ar f e7 e g n) (d:f.sub t) (h: ∀a,cR n=some a->t a=e7 a):ar f t e g n:=by obtain⟨C,k⟩:=c;refine⟨d,k.imp_right ?_⟩;rintro⟨b,o,p,r,rfl,x,y,z⟩;exact⟨b,o,p,r,rfl,x,(h b rfl).trans y,z⟩
structure Fj (A:iq) (b:U) (c:Nat) (L oI:R) (a:Nat):Prop where
 n:b a=none
 x:a≠c
 l:cR L≠some a
 w:cR oI≠some a
def dK.fresh {d:iq} (a:dK d f t e g n A b3) (b:t i=none):Fj d f e n b3 i:=
 ⟨U.bG a.l.1 b,(by obtain⟨_,_,_,h⟩:=a.x;rintro rfl;rw[b]at h;cases h),(λc=>ar.has a.l c b),λc=>a.w.has c b⟩
def dK.wr {c:iq} (a:dK c f t e g n A b3) (b:Fj c f e n b3 i) (d:bq):dK c f (t.set i d) e g n A b3:=
 ⟨a.gM,(by obtain⟨h,k,o,p⟩:=a.x;exact⟨h,k,o,(U.an _ _ b.x.symm).trans p⟩),ar.other a.l b.n b.l,a.w.other b.n b.w,a.hb,a.kb,a.lw⟩
def r9 (p:g.length=37) (a b c d:R):(g++ [a,b,c,d]).length=41/\(g++ [a,b,c,d]).take 41=g++ [a,b,c,d]/\(∀h o,putAt (g++ [a,b,c,d]) 37 [h,o]=g++ [h,o,c,d])/\(∀h,putAt (g++ [a,b,c,d]) 39 [h]=g++ [a,b,h,d])/\ ∀h,putAt (g++ [a,b,c,d]) 40 [h]=g++ [a,b,c,h]:=by
 have r: ∀k,(g++ [a,b,c,d]).take (37+k)=g++ [a,b,c,d].take k:=λk=>by rw[a7h,p,a4K a9r,a7v]
 have x: ∀k,(g++ [a,b,c,d]).drop (37+k)= [a,b,c,d].drop k:=λk=>by rw[a6m,p,a5x a9r,a5d,a7v]
 have y:(g++ [a,b,c,d]).length=41:=by rw[a4L,p];rfl
 refine⟨y,a4K a9r,λh o=> ?_,λh=> ?_,λh=> ?_⟩
 .show(g++ [a,b,c,d]).take (37+0)++ [h,o]++(g++ [a,b,c,d]).drop (37+2)= _;rw[r,x];simp
 .show(g++ [a,b,c,d]).take (37+2)++ [h]++(g++ [a,b,c,d]).drop (37+3)= _;rw[r,x];simp
 .show(g++ [a,b,c,d]).take (37+3)++ [h]++(g++ [a,b,c,d]).drop (37+4)= _;rw[r,x];simp
abbrev zW:List R:=List.replicate 32 (R.v (.int .u8 0))++ [.J [] .nil,.J [] .nil]++ [.v (.int .i64 0),.v (.int .i64 0)]++ [.J [] .nil]++ [.v (.int .u64 0),.v (.int .u64 0)]++ [.v (.int .i64 0),.v (.int .i64 0)]
def a1k (a:g.length=37):putAt zW 0 g=g++ [.v (.int .u64 0),.v (.int .u64 0),.v (.int .i64 0),.v (.int .i64 0)]:=by rw[putAt,a];rfl
theorem Fk (a:iq) (g f:U) (c:Nat) (h:List R) (q:R) (j:List R) (x:R) (d:dK a g f c h q j x) (b:ay) (k l m:Own) (y:b.sum.length=32) (L:b.cF) (e:a.aV.length<=8) (i:j.length<=100000000):
  AC Tryz.prog 69 [.ptr c 0,.agg (ab b k l m)] f λ_ z=> ∃i e,dK a g z c h q e i/\if ev a.aV a.aW b=true then∃g,r6 b g/\e=j++ [g]else e=j:=by
 obtain⟨r,s,e,g⟩:=d.x;have o:=(aX (N:=k) (e5:=l) (h5:=m) y).all;refine aO hm Lh ?_;refine br λp h=> ?_;have C:p≠c:=by rintro rfl;rw[h]at g;cases g
 have h:=C.symm;rw[hP];generalize h:f.set p _=i;have n:f.sub i:=by subst h;exact aU
 have cl:i p=some (.cells (ab b k l m)):=by subst h;exact U.ah _ _ _
 have D:=d.mono n;have v:=n _ _ g;clear h;generalize A:ab b k l m=n at*;have I:=U.af cl;have gf:=U.af v;have K:=U.aJ v;refine aa ?_;rw[<-A];refine bk (a1b a.aV a.aW _ _ _ _ _ _ b y a9r i) ?_;rw[A];refine aH (λw=> ?_) λw=> ?_;grind;have f:bo .add (.int .i64 e) (.int .i64 1)=some (.int .i64 (IntKind.i64.wrap (e+1))):=rfl;obtain⟨f,f⟩:=d.w.len;have f:=fL d.l;have g:=o.1;have M:=a1k g;obtain⟨N,_,_,_,B⟩:=r9 g (.v (.int .u64 0)) (.v (.int .u64 0)) (.v (.int .i64 0)) (.v (.int .i64 0));have B:=B (.v (.int .i64 (IntKind.i64.wrap (e+1))));have O:=(r9 g (.v (.int .u64 0)) (.v (.int .u64 0)) (.v (.int .i64 0)) (.v (.int .i64 (IntKind.i64.wrap (e+1))))).1;have f:=(r9 g (.v (.int .u64 0)) (.v (.int .u64 0)) (.v (.int .i64 0)) (.v (.int .i64 (IntKind.i64.wrap (e+1))))).2.1;generalize t:R.v (.int .i64 (IntKind.i64.wrap (e+1)))=T at*;generalize f:n++ [R.v (.int .u64 0),.v (.int .u64 0),.v (.int .i64 0),.v (.int .i64 0)]=f at*;generalize P:n++ [R.v (.int .u64 0),.v (.int .u64 0),.v (.int .i64 0),T]=o at*;have f:T.cells= [T]:=by subst t;rfl
 refine aa ?_;have u:=D.set r s (IntKind.i64.wrap (e+1));simp only[lB,t]at u;refine aP λh f=> ?_;have Q:=u.fresh f;have E:p≠h:=by rintro rfl;rw[U.an _ _ C,cl]at f;cases f
 have p:=E.symm;have C:c≠h:=by rintro rfl;rw[U.ah]at f;cases f
 have p:=C.symm;refine aa ?_;have hm:jZ a.aV a.aW b.aV b.aW=true:=by rw[ev,a4M]at w;exact w.2
 obtain⟨E,S⟩:=Fc hm;have p:=U.ah i c (.cells [.ptr a.gE 0,.J (ad a.aV) a.hv,.J (ad a.aW) a.eX,.v (.int .u8 0),.v (.int .i64 0),.J [] a.ht,.v (.int .i64 1),.v (.bool false),.v (.int .i64 (a.d:Int)),q,.v (.int .i64 r),.v (.int .i64 s),T,x]);generalize i.set c _=i at*;have F:=u.mono (U.ae (Y:= .cells o) U.a1 f);have G:=U.ae (Y:= .cells o) U.a1 f _ _ p;have H:=U.ah i h (.cells o);generalize i.set h _=i at*;clear p f u gf K v D cl I d M N B O;refine gs (F3 _ a.aV a.aW b.aV b.aW _ _ _ _ a9r) λB u=> ?_;refine aP λi f=> ?_;have M:=F.mono (U.aq u (U.ae (Y:= .cells [.J (ad (gC a.aV a.aW b.aV b.aW).1) .any,.J (ad (gC a.aV a.aW b.aV b.aW).2) .any]) U.a1 f));have v:=u _ _ G;have w:=u _ _ H;have D:c≠i:=by rintro rfl;rw[v]at f;cases f
 have N:=D.symm;have I:h≠i:=by rintro rfl;rw[w]at f;cases f
 have O:=I.symm;have V:=U.af v;have W:=U.af w;refine aa ?_;generalize p:(gC a.aV a.aW b.aV b.aW).1=p at*;generalize (gC a.aV a.aW b.aV b.aW).2=b at*;have K:=U.ae (Y:= .cells [.J (ad p) .any,.J (ad b) .any]) U.a1 f _ _ v;have X:=U.ae (Y:= .cells [.J (ad p) .any,.J (ad b) .any]) U.a1 f _ _ w;generalize B.set i _=B at*;refine bk (F7 a.ht _ _ p b B E) ?_;obtain⟨i,Y⟩: ∃b,nx (p.getD 0 0)=b:=⟨_,rfl⟩;obtain⟨id,Z⟩: ∃b,p.getD 0 0=b:=⟨_,rfl⟩;rw[Z]at Y;clear V W f D I N O v w u G H F E S;have b:=U.aJ X;have b:=U.af K;have b:o.length=41:=by grind
 have b:putAt o 37 [.v (.int .u64 0),.v (.int .u64 (i:Int))]=n++ [.v (.int .u64 0),.v (.int .u64 (i:Int)),.v (.int .i64 0),T]:=by subst P;exact(r9 g _ _ _ _).2.2.1 _ _
 obtain⟨b,_,_,b,_⟩:=r9 g (.v (.int .u64 0)) (.v (.int .u64 (i:Int))) (.v (.int .i64 0)) T;have b:=b (.v (.int .i64 id));obtain⟨o,b,_⟩:=r9 g (.v (.int .u64 0)) (.v (.int .u64 (i:Int))) (.v (.int .i64 id)) T;generalize n++ [R.v (.int .u64 0),.v (.int .u64 (i:Int)),.v (.int .i64 0),T]=b at*;generalize u:n++ [R.v (.int .u64 0),.v (.int .u64 (i:Int)),.v (.int .i64 id),T]=b at*;refine aa ?_;have f:=M.wr Q (.cells b);have p:(B.set h (.cells b)) c=some (.cells [.ptr a.gE 0,.J (ad a.aV) a.hv,.J (ad a.aW) a.eX,.v (.int .u8 0),.v (.int .i64 0),.J [] a.ht,.v (.int .i64 1),.v (.bool false),.v (.int .i64 (a.d:Int)),q,.v (.int .i64 r),.v (.int .i64 s),T,x]):=(U.an _ _ C).trans K;generalize B.set h _=h at*;refine eT (by simp[aN,hP,o]) a9s λg n=> ?_;have a:=f.mono (U.ae (Y:= .cells (flat [R.agg b])) U.a1 n);have f:=U.ae (Y:= .cells (flat [R.agg b])) U.a1 n _ _ p;have n:bN (h.set g (.cells (flat [R.agg b]))) 41 (.al g 1 1 41)=some (1,(R.agg b).cells):=by simp_all [flat,read,U.af,U.ah,hP,bN,if_pos,trivial]
 generalize h.set g _=p at*;have gf:=U.af f;refine aa ?_;refine gD.app (n:= .agg b) a.w o n a9r λh z g n o=> ?_;have q:z c= _:=(o c a.kb (by rw[f];exact λd=>by cases d)).trans f;have v:=U.aJ q;have q:=g.len.2;refine aa ?_;have q:p c≠none:=by rw[f];exact λd=>by cases d
 have p:cR h≠some c:=λf=>(n c f).elim a.kb q;refine⟨_,U.a1,h,j++ [.agg b],⟨a.gM,⟨r,s,IntKind.i64.wrap (e+1),by subst t;exact U.ah _ _ _⟩,ar.other (ar.fH a.l g.1 λc d=>o c (a.lw c d) (ar.has a.l d)) a.gM a.hb,g.other a.gM p,a.hb,p,λc d f=>(n c f).elim (a.lw c d) (ar.has a.l d)⟩,.agg b,⟨y,L,k,l,m,0,i,id,IntKind.i64.wrap (e+1),?_⟩,rfl⟩;subst t;subst u;subst A;rfl
def ar.wide (p:ar t f e g n): ∃o,ar o f e g n/\t.sub o/\o.sub f/\ ∀k b,f k=some b->cR n≠some k->o k=some b:=by
 obtain⟨r,x|⟨d,y,z,C,rfl,D,E⟩⟩:=p
 .exact⟨f,⟨U.a1,.inl x⟩,r,U.a1,λ_ _ p _=>p⟩
 .refine⟨f.del d,⟨λh b a=> ?_,.inr ⟨d,y,z,C,rfl,U.iu _ _,E⟩⟩,λh b a=> ?_,λh b a=> ?_,λk b F G=> ?_⟩
  .have c:h≠d:=by rintro rfl;rw[U.iu]at a;cases a
   rwa[U.eJ _ c]at a
  .have c:h≠d:=by rintro rfl;rw[D]at a;cases a
   rw[U.eJ _ c];exact r h b a
  .have c:h≠d:=by rintro rfl;rw[U.iu]at a;cases a
   rwa[U.eJ _ c]at a
  .have c:k≠d:=by rintro rfl;exact G rfl
   rw[U.eJ _ c];exact F
def ar.fresh (b:ar f t i g n) (a:cR n=some e):f e=none:=by
 obtain⟨_,⟨_,rfl|rfl⟩|⟨d,h,k,o,rfl,c,_⟩⟩:=b
 .cases a
 .cases a
 .obtain rfl:=a4I a;exact c
def gD.fH (h:gD f e7 g n) (k:f.sub t) (o: ∀a b,cR n=some a->e7 a=some b->t a=some b):gD f t g n:=by obtain⟨G,p,r⟩:=h;refine⟨k,p,r.imp_right ?_⟩;rintro⟨c,x,post,y,z,C,D,E,F,d⟩;refine⟨c,x,post,y,z,o c _ ?_ C,D,E,F,d⟩;rcases d with ⟨rfl,_⟩|rfl<;>rfl
theorem az.flat {b:List (List Int)}{a:List R} (h:az isRow b a):flat a=a:=by
 induction a generalizing b with
 |nil=>rfl
 |cons o a ih=>
  match b,h with
  |c::b,⟨⟨d,h1⟩,k⟩=>subst h1;rw[show Go.bB.flat (R.J (ad c) d::a)= [R.J (ad c) d]++Go.bB.flat a from rfl,ih k];rfl
theorem a1l (a:iq) (p e:U) (j:Nat) (q:List R) (f:List (List Int)) (m:R) (d:List R) (n:R) (h:dK a p e j q m d n) (t:az isRow f q) (g: ∀b∈f,b.length=a.d) (x:1<=a.d) (y:a.d<=8) (k:a.aV.length=a.d) (l:f.length<=1) (b:List Int) (i:Bool) (c:Own) (o:b.length=a.d):
  AC Tryz.prog 74 [.ptr j 0,.agg [.J (ad b) c,.v (.bool i)]] e λ_ k=> ∃g l o,dK a p k j g o d n/\az isRow l g/\if(i&&jk a.aV a.aW b)=true then∃d,l= [d]/\(d=b\/d∈f)else l=f:=by
 obtain⟨z,A,B,o⟩:=h.x;refine aO hm Lp ?_;refine br λk g=> ?_;rw[hP];have r:k≠j:=by rintro rfl;rw[g]at o;cases o
 have g:=r.symm;generalize r:e.set k _=g;have s:e.sub g:=by subst r;exact aU
 have cl:g k=some (.cells [.J (ad b) c,.v (.bool i)]):=by subst r;exact U.ah _ _ _
 have u:=h.mono s;have k:=s _ _ o;clear r;have e:=U.af cl;have gf:=U.af k;have e:=U.aJ k;cases i with
 |false=>refine aa ?_;grind
 |true=>
 refine aa ?_;refine bk (a0y g a.aV a.aW b _ _ _ a9r) ?_;refine aH (λe=> ?_) λe=> ?_;grind;refine eT (by simp[aN,R.cells]) a9s λi r=> ?_;have e:=u.mono (U.ae (Y:= .cells (flat [R.J (ad b) c])) U.a1 r);have u:=U.ae (Y:= .cells (flat [R.J (ad b) c])) U.a1 r _ _ k;have k:bN (g.set i (.cells (flat [R.J (ad b) c]))) 1 (.al i 1 1 1)=some (1,[R.J (ad b) c]):=ot rfl;generalize g.set i _=v at*;have g:=fL h.l;have g:=t.len;obtain⟨i,i,w,r,r⟩:=ar.wide e.l;refine aa ?_;refine fk i a9r k rfl (by simp[g];omega) (by simp[g];omega) λC i k=> ?_;have s:=k.1 _ _ (r j _ u e.hb);have g:=U.af s;refine aa ?_;have g:az isRow (f++ [b]) (q++ [.J (ad b) c]):=t.snoc ⟨c,rfl⟩;have q:=bT.dW k a9r g.flat.symm (g.cells λ_ _=>isRow.cells);refine ai (a0Z a.ht a.d x y (f++ [b]) _ C i q g (λg o=> ?_) a9t a9s) ?_;grind;rintro q x ⟨y,l,g,t,o⟩;have C:=o.1 _ _ s;have D:=U.af C;refine aa ?_;refine ai (a1a a.aV a.aW a.hv a.eX a.ht i x _ q o) ?_;rintro o a i;have q:=fL i;have q:=i.1 _ _ s;have s:=U.aJ q;have s:=U.af q;refine aa ?_;rw[t.flat]at i;have s: ∀ {d c},v d=some c->cR m≠some d->a d=some c:=λh q=>i.1 _ _ (k.1 _ _ (r _ _ h q));have x:p.sub a:=U.aq w (U.aq k.1 i.1);have C: ∀ {a},cR o=some a-> ∀ {c},v a=some c->cR m≠some a->False:=λg _ h q=>by
  have:=ar.fresh i g;rw[k.1 _ _ (r _ _ h q)]at this;cases this
 have p:cR o≠some j:=λh=>C h u e.hb;have j: ∀a,cR n=some a->cR m≠some a:=λa g h=>e.lw a h g;have m: ∀a,cR o=some a->cR n≠some a:=λa g h=>by
  have n:=e.w.has h;simp_all [Option.ne_none_iff_exists']
 have n:l≠ []:=λh=>by simp_all
 obtain⟨d,h,rfl⟩:=a6V n;refine⟨_,U.a1,y.take 1,[d],o,⟨e.gM,⟨z,A,B,U.ah _ _ _⟩,ar.other (i.base (U.aq w k.1)) e.gM p,(gD.fH e.w x λa c g c=>s c (j a g)).other e.gM e.kb,p,e.kb,m⟩,t.take 1,d,rfl,?_⟩;have:d∈f++ [b]:=g.mem_iff.1 a9s;grind
theorem a1m (a:iq) (n h:U) (g:Nat) (k:List R) (i:List (List Int)) (l:R) (o:List R) (p:R) (m:dK a n h g k l o p) (j:az isRow i k) (r: ∀b∈i,b.length=a.d) (s:a.d<=8) (t:a.aV.length=a.d) (c:ay) (d e f:Own) (q:c.sum.length=32):
  AC Tryz.prog 72 [.ptr g 0,.agg (ab c d e f)] h λb s=>dK a n s g k l o p/\ ∃k,b= .v (.bool k)/\(k=true->i.length=1):=by
 obtain⟨k,k,k,k⟩:=m.x;have n:=(aX (N:=d) (e5:=e) (h5:=f) q).all;have o:=j.len;obtain⟨n,n,_,p⟩:=m.l.src;rw[a5v,o]at n;subst n;refine aO hm Ll ?_;refine br λn o=> ?_;rw[hP];have p:n≠g:=by rintro rfl;rw[o]at k;cases k
 have g:=p.symm;generalize o:h.set n _=g;have p:h.sub g:=by subst o;exact aU
 have cl:g n=some (.cells (ab c d e f)):=by subst o;exact U.ah _ _ _
 have h:=m.mono p;have m:=p _ _ k;clear o;generalize k:ab c d e f=n at*;have n:=U.af cl;have gf:=U.af m;refine aa ?_;refine aH (λm=> ?_) λm=> ?_
 .obtain⟨b,rfl⟩:=a6S.1 (show i.length=1 by omega);have m:=bT.dW h.l a9r j.flat.symm (j.cells λ_ _=>isRow.cells);obtain⟨_,n,h,rfl⟩:=j.get (i:=0) (x:=b) rfl;obtain⟨i,j,o⟩:=m.get 0 _ n;have j:cS 1 l (.v (.int .i64 0))=some i:=j;have j:dr false 1 g i=some (.J (ad b) h):=o.ld g U.a1 false 1 a9r (by simp[R.cells]);have i:=r b a9s;have i:((1:Nat):Int) - 1=0:=rfl;refine aa ?_;rw[<-k];refine bk (a1c a.aV a.aW a.hv a.eX a.ht d e f h c b q a9r a9r g) ?_;grind
 grind
theorem dK.base {c:iq}{d h k:U}{o:Nat}{p:List R}{r:R}{x:List R}{y:R} (a:dK c h k o p r x y) (b:d.sub h):dK c d k o p r x y:=by refine⟨U.bG b a.gM,a.x,a.l.base b,?_,a.hb,a.kb,a.lw⟩;obtain⟨z,C,D⟩:=a.w;refine⟨U.aq b z,C,D.imp_right ?_⟩;rintro⟨E,F,post,G,L,P⟩;exact⟨E,F,post,G,U.bG b L,P⟩
noncomputable def res (b:Nat->Prop) (c:U):U:=λa=>open Classical in if b a then none else c a
variable{j5:Nat -> Prop}
theorem ra (a:j5 e):res j5 f e=none:=if_pos a
theorem oJ (a: ¬j5 e):res j5 f e=f e:=if_neg a
theorem Fl:(res j5 f).sub f:=λa b c=>by
 grind[ra,oJ]
def Fm (c:f.sub t):(res j5 f).sub (res j5 t):=λd h a=>by
 by_cases b:j5 d
 .rw[ra b]at a;cases a
 .rw[oJ b]at a|-;exact c _ _ a
def ar.res {a:Nat->Prop}{c d:U}{h:Nat}{k:List R}{b:R} (r:ar c d h k b) (x: ∀o,cR b=some o-> ¬a o):ar (res a c) (res a d) h k b:=by obtain⟨y,z⟩:=r;refine⟨Fm y,z.imp_right ?_⟩;rintro⟨p,C,D,E,rfl,F,G,L⟩;have:=x p rfl;exact⟨p,C,D,E,rfl,by rw[oJ this];exact F,by rw[oJ this];exact G,L⟩
def kc (b:Nat) (c d:R) (a:Nat):Prop:=a=b\/cR c=some a\/cR d=some a
def dK.wide {r:iq} (a:dK r t f e g n A b3):dK r (res (kc e n b3) f) f e g n A b3/\t.sub (res (kc e n b3) f):=by
 have z:t.sub (res (kc e n b3) f):=λC S b=>by
  have: ¬kc e n b3 C:=by
   rintro(rfl|c|c)
   .rw[a.gM]at b;cases b
   .rw[ar.fresh a.l c]at b;cases b
   .obtain⟨_,_,⟨_,rfl|rfl⟩|⟨d,x,post,h,k,_,_,_,_,⟨rfl,_⟩|rfl⟩⟩:=a.w
    .cases c
    .cases c
    all_goals (obtain rfl:=a4I c;rw[k]at b;cases b)
  rw[oJ this];exact a.l.1 _ _ b
 refine⟨⟨ra (.inl rfl),a.x,?_,?_,a.hb,a.kb,a.lw⟩,z⟩
 .obtain⟨_,o⟩:=a.l;refine⟨Fl,o.imp_right ?_⟩;rintro⟨d,D,h,E,rfl,k,p⟩;exact⟨d,D,h,E,rfl,ra (.inr (.inl rfl)),p⟩
 .obtain⟨_,o,F⟩:=a.w;refine⟨Fl,o,F.imp_right ?_⟩;rintro⟨d,x,post,h,k,p,G,L,P,y⟩;refine⟨d,x,post,h,ra (.inr (.inr ?_)),p,G,L,P,y⟩;rcases y with ⟨rfl,_⟩|rfl<;>rfl
def dK.sort {r:iq} (a:dK r t f e A b3 g n) (E:g≠ []): ∃b c post,f=W f b c post g/\oF 41 n b c.length g.length/\b≠e/\ ∀h,h.Perm g->dK r t (W f b c post h) e A b3 h n:=by
 obtain⟨F,G,⟨d,_⟩|⟨b,c,post,L,o,P,S,T,V,p⟩⟩:=a.w
 .exact absurd d E
 have x:cR n=some b:=by rcases p with ⟨rfl,_⟩|rfl<;>rfl
 have y:b≠e:=by rintro rfl;exact a.kb x
 refine⟨b,c,post,(U.sK P).symm,⟨λz s=> ?_,a.w.len.1,a.w.len.2⟩,y,λh k=>⟨a.gM,?_,?_,⟨U.ae F o,λd i=>G d (k.mem_iff.1 i),.inr ⟨b,c,post,L,o,U.ah _ _ _,by rw[k.length_eq];exact S,T,by rw[k.length_eq];exact V,by rw[k.length_eq];exact p⟩⟩,a.hb,a.kb,a.lw⟩⟩
 .have C:(0:Int)<=(z:Int):=a9r;have D:(z:Int)<g.length:=a9r;rcases p with ⟨rfl,rfl⟩|rfl
  .rw[ja C D,a5i,a4T,a5g]
  .rw[rY C D,a5i]
 .obtain⟨j,l,m,q⟩:=a.x;exact⟨j,l,m,(U.an _ _ y.symm).trans q⟩
 .refine ar.other a.l o λd=>a.lw _ d x
theorem dK.tail {a:iq}{z:R} (h:dK a t f e A b3 (n::g) z): ∃b,c8 41 z (some (.v (.int .i64 1))) none none=some b/\b.cells= [b]/\(∀p r x,dK a t (f.set e (.cells (lB a.gE a.aV a.aW a.hv a.eX a.ht a.d b3 p r x b))) e A b3 g b)/\
  ∃c o,cS 41 z (.v (.int .i64 0))=some (.ptr c o)/\dr true 37 f (.ptr c o)=some (.agg (n.cells.take 37)):=by
 obtain⟨l,P,⟨m,_⟩|⟨c,k,post,d,q,S,T,M,s,E⟩⟩:=h.w
 .cases m
 have V:cR z=some c:=by rcases E with ⟨rfl,_⟩|rfl<;>rfl
 have N:c≠e:=by rintro rfl;exact h.kb V
 have W:n.cells.length=41:=P n a9s;have u:flat (n::g)=n.cells++flat g:=rfl;rw[a4O]at T s E;have C: ∀b:R,(cR b=none\/cR b=some c)->((g= []/\(b= .J [] .nil\/b= .J [] .zero))\/b= .bx c (k++n.cells).length g.length (d - 1) 41)-> ∀p r x,dK a t (f.set e (.cells (lB a.gE a.aV a.aW a.hv a.eX a.ht a.d b3 p r x b))) e A b3 g b:=λb v F p r x=>by
  have i:cR b≠some e:=λy=>by simp_all
  have w:gD t f g b:=by refine⟨l,λB H=>P B (by simp[H]),F.imp_right λF=> ?_⟩;refine⟨c,k++n.cells,post,d - 1,q,?_,a9r,a9r,a9r,.inr F⟩;rw[S,u];simp
  exact⟨h.gM,⟨p,r,x,U.ah _ _ _⟩,ar.other h.l h.gM h.hb,w.other h.gM i,h.hb,i,λO I y=>by
   rcases v with G|G
   .rw[G]at y;cases y
   .rw[G]at y;obtain rfl:=a4I y;exact h.lw _ I V⟩
 have D: ∀o,o=k.length->dr true 37 f (.ptr c o)=some (.agg (n.cells.take 37)):=λo K=>by
  subst K;have Q:=U.af S;have X:k.length+37<=(k++flat (n::g)++post).length:=by grind
  simp_all [dr,if_pos,aY,if_true,a4W,a7g,a6j]
 rcases E with ⟨rfl,rfl⟩|rfl
 .by_cases j:1<d
  .refine⟨.bx c (1*41) (g.length+1 - 1) (d - 1) 41,gp (e:=1) a9r T j,rfl,C _ (.inr rfl) (.inr ?_),c,0,?_,D 0 rfl⟩
   .simp[W]
   .exact ja (b1:=0) a9r a9r
  .obtain rfl:d=1:=a9r;have L:g= []:=a4P a9r;subst L;refine⟨.J [] .zero,tT (e:=1) rfl,rfl,C _ (.inl rfl) (.inl ⟨rfl,.inr rfl⟩),c,0,?_,D 0 rfl⟩;exact ja (b1:=0) a9r a9s
 .by_cases j:1<d
  .refine⟨.bx c (k.length+1*41) (g.length+1 - 1) (d - 1) 41,?_,rfl,C _ (.inr rfl) (.inr ?_),c,k.length,?_,D _ rfl⟩
   .have Y:(1:Int)<=((g.length+1:Nat):Int):=a9r;have c2:((g.length+1:Nat):Int)<=d:=a9r;have aI:(1:Int)<d:=a9r;simp_all [c8,cA,intOf,if_pos,trivial,a8p]
   .simp[W]
   grind[rY]
  .obtain rfl:d=1:=a9r;have L:g= []:=a4P a9r;subst L;refine⟨.J [] .zero,?_,rfl,C _ (.inl rfl) (.inl ⟨rfl,.inr rfl⟩),c,k.length,?_,D _ rfl⟩
   .simp[c8,cA,intOf]
   grind[rY]
section
variable (S:ag) (d:Nat) (lo hi:List Int)
inductive lC:ay->ay->Prop
 |refl (k:ay):lC k k
 |step {k a b:ay}{n:c5} (h:fq S d k=some n) (hk:a∈n.kids) (c:ev lo hi a=true) (o:lC a b):lC k b
def nB (h:ay) (a:List Int):Prop:= ∃b c,lC S d lo hi h b/\fq S d b=some c/\(a,true)∈c.rows/\jk lo hi a=true
end
def gi (a:ay):Nat:=2*a.size.toNat - 1
theorem yW (d h:List Int) (c:Nat): ∀(b:List ay),(∀a∈b,ev d h a=true->1<=a.size)->(∀a∈b,(c:Int)<=a.size)->c<=1->((((b.filter (ev d h)).map gi).sum:Nat):Int)+(b.length:Int)*c<=2*(b.map ay.size).sum/\0<=(b.map ay.size).sum
 | [],_,_,_=>by simp
 |a::b,o,p,he=>by
  have ih:=yW d h c b (λa k=>o a (by simp[k])) (λa k=>p a (by simp[k])) he;have r:=o a a9s;have x:=p a a9s;rw[a8e,a5j,a7Z,a4O];grind[Int.natCast_add,Int.add_mul,gi]
def yX (a:ev q b6 w=true):w.live≠0:=by rw[ev,a4M]at a;exact of_decide_eq_true a.1
def lD (a:w.sum.length=32):putAt (List.replicate 32 (R.v (.int .u8 0))++ [R.J [] .nil,.J [] .nil]++ [.v (.int .i64 0),.v (.int .i64 0)]++ [.J [] .nil]) 0 (ab w N e5 h5)=ab w N e5 h5:=by have:=(aX (N:=N) (e5:=e5) (h5:=h5) a).len;rw[putAt,this];simp
variable{e0:c5}
def v7 (a:dX e e0=true): ∀b∈e0.kids,fp e b=true:=by simp only[dX,a4M,a4Y]at a;exact a.1.2
def nC (b:fp e w=true):0<=w.size/\(w≠aA->1<=w.size)/\(w.live≠0->w≠aA):=by refine⟨(qM b).2.2.2.2.1,λa=> ?_,λc a=>c (by rw[a];rfl)⟩;simp only[fp,decide_eq_false a,a8v,a4M,a6n,a8k,decide_eq_false_iff_not]at b;omega
variable{H:ag}
theorem Fo (o:fq H e w=some e0):((e0.kids.filter (ev q b6)).map gi).sum<gi w/\1<=w.size:=by
 have h:=xU o;have z:w.size=e0.rows.length+(e0.kids.map ay.size).sum:=h.size;have k:=h.ok;simp only[dX,a4M]at k;obtain⟨⟨_,c⟩,a⟩:=k;have c:=a4Y.1 c;have d: ∀w∈e0.kids,ev q b6 w=true->1<=w.size:=λw b d=>by
  obtain⟨_,p,r⟩:=nC (c w b);exact p (r (yX d))
 have x: ∀w∈e0.kids,((0:Nat):Int)<=w.size:=λw b=>(nC (c w b)).1;have y:=yW q b6 0 e0.kids d x a9r;rw[show(e0.kids.length:Int)*((0:Nat):Int)=0 from Int.mul_zero _]at y;have C:(gi w:Int)=2*w.size - 1\/w.size<1:=by unfold gi;omega
 split at a;grind;split at a;grind;split at a
 .simp only[a4M,decide_eq_true_eq,a4Y,a6n,decide_eq_false_iff_not]at a;have D:=yW q b6 1 e0.kids d (λw b=>(nC (c w b)).2.1 (a.2 w b).2) a9r;omega
 .cases a
def en (a:ag) (b:Nat):Nat->ay->Option (List (List Int))
 |0,_=>none
 |c+1,d=>if d.live=0 then some []else match kM a b d with
  |none=>none
  |some (h,bJ)=>match en a b c (bJ.getD 0 aA),en a b c (bJ.getD 1 aA)with
   |some k,some o=>some ((if h.2=true then [h.1]else [])++k++o)
   | _,_=>none
def v8 {d:List Int×Bool}{o:List ay} (a:kM H e w=some (d,o)): ∃b c,o= [b,c]/\fq H e w=some (cm d b c)/\w.size=1+b.size+c.size/\0<=b.size/\0<=c.size/\d.1.length=e/\w.size<=1048576:=by
 unfold kM at a;split at a
 .cases a
 rename_i y h;split at a
 .rename_i p;simp only[a4U,a5W]at a;obtain⟨rfl,rfl⟩:=a;have k:=ES h;obtain⟨z,C,E⟩:=ET k p;have r:=xU h;obtain⟨F,rows,kids⟩:=y
  dsimp only at*
  obtain⟨d,rfl⟩:=a6S.1 z
  match kids,C with
  | [b,c],_=>have D:=r.size;have x:=v7 k;subst p;simp only[a6g,a5j,a6A,a7Z,List.sum_nil]at D;refine⟨b,c,rfl,h,a9r,(nC (x b a9s)).1,(nC (x c a9s)).1,(ln k).1 _ a9s,r.o7⟩
 .cases a
theorem rb {k:ag}{d:Nat}: ∀ {h:Nat}{c:ay}{b:List (List Int)},en k d h c=some b->(b.length:Int)<=max 0 c.size/\ ∀o∈b,o.length=d
 |0,_,_,a=>by cases a
 |h+1,c,b,a=>by
  rw[en]at a;split at a;grind;split at a
  .cases a
  rename_i y z p;split at a
  .rename_i C D r x;obtain rfl:=a4I a;obtain⟨E,F,rfl,_,G,L,P,S,_⟩:=v8 p;have T:=rb r;have V:=rb x;grind
  .cases a
theorem yY (n u:Nat) (e:ag) (c:Nat) (z:1<=c) (A:c<=8): ∀(d:Nat) (b:U) (_:bC b n u e) (a:ay) (g i m:Own),a.sum.length=32->a.cF->a.size.toNat<d->
  AC Tryz.prog 117 [dY n c,.agg (ab a g i m)] b λo j=>b.sub j/\match en e c d a with
   |none=>o= .aL [.J [] .nil,.v (.int .i64 21)]
   |some rows=> ∃f h,o= .aL [h,.v (.int .i64 0)]/\ar b j 1 f h/\az isRow rows f
 |0,_,_,_,_,_,_,_,_,l=>by omega
 |d+1,b,y,a,g,i,m,gF,t,k=>by
  have k:=(aX (N:=g) (e5:=i) (h5:=m) gF).all;refine aO hm MI ?_;refine br λp k=> ?_;refine db λs k k k=> ?_;generalize q:(b.set p _).set s _=r;have k:b.sub r:=by subst q;exact aU
  have c2:r p=some (.cells [.ptr n 0,.v (.int .i64 (c:Int))]):=by subst q;exact aU
  have aI:r s=some (.cells (ab a g i m)):=by subst q;exact aU
  clear q;rw[en];have b:=U.af c2;have b:=U.af aI;refine aH (λq=> ?_) λq=> ?_
  .exact⟨_,U.a1,k,[],.J [] .nil,rfl,ar.nil k,trivial⟩
  rw[if_neg q];refine ai (yo r n u e (y.mono k) a g i m gF t c z A) ?_;rintro o v ⟨m,g⟩;cases s:kM e c a with
  |none=>rw[s]at g;obtain rfl:=g;refine aa ?_;refine aP λr a=> ?_;refine aa ?_;exact U.ae (U.aq k m) (U.bG (U.aq k m) a)
  |some i=>
   obtain⟨b,t⟩:=i;rw[s]at g;obtain⟨i,x,rfl,t,t,t,w⟩:=g;obtain⟨g,cc,rfl,B,B,B,B,B,B⟩:=v8 s;have s:=fL t;have s:=bT.dW t a9r rfl (w.cells λ_ _=>bt.cells);have t:=s.len;rw[w.len]at t;have t:fg x=some (.v (.int .i64 2)):=t;refine aa ?_;refine aP λr a=> ?_;have x:=m _ _ c2;have t:p≠r:=by rintro rfl;rw[x]at a;cases a
   have B:=t.symm;have t:=U.ae (Y:= .cells [.J (ad b.1) i,.v (.bool b.2)]) (U.a1 (f:=v)) a;have bD:=U.ah v r (.cells [.J (ad b.1) i,.v (.bool b.2)]);refine aa ?_;rw[U.set_set];have F:=t _ _ x;have s:=s.mono t;have x:=U.aq k (U.aq m t);have G:=(y.mono k).mono (U.aq m t);generalize v.set r _=k at*;have a:=U.af bD;refine o6 [2,7] (λh:R=> [(9,h)]) (λh j=>k.sub j/\ ∃f,ar k j 1 f h/\az isRow (if b.2=true then [b.1]else []) f) (λa=> ?_) (λa=> ?_) ?_
   .refine aa ?_;refine eT (by simp[aN,R.cells]) a9s λa a=> ?_;refine aa ?_;refine fk (ar.nil (U.ae U.a1 a) (s0:=k)) a9r (ot rfl) rfl (by simp[flat,R.cells]) (by simp[flat,R.cells]) λr t a=> ?_;refine aa ?_;exact⟨r,⟨a.1,_,a,⟨⟨i,rfl⟩,trivial⟩⟩,rfl⟩
   .refine aa ?_;exact⟨_,⟨[],ar.nil U.a1,trivial⟩,rfl⟩
   rintro h t ⟨a,f,t,r⟩ a;refine aa ?_;obtain⟨own,a⟩: ∃own,(if b.2=true then [b.1]else [])=own:=⟨_,rfl⟩;have v:own.length<=1:=by subst a;split<;>simp
   rw[a]at r
   let ac:Nat->List (List Int):=λa=>own++(if 0<a then(en e c d g).getD []else [])++(if 1<a then(en e c d cc).getD []else []);refine cj [2,34,35] (λb:Nat×R=> [(36,.v (.int .i64 (b.1:Int))),(9,b.2)]) (λb j=>b.1<=2/\(∃f,ar k j 1 f b.2/\az isRow (ac b.1) f)/\(0<b.1->(en e c d g).isSome=true)/\(1<b.1->(en e c d cc).isSome=true)) (λb=>2 - b.1) (0,h) ⟨⟨a9r,⟨f,t,by simpa[ac] using r⟩,λl=>absurd l (Nat.lt_irrefl 0),λl=>absurd l a9r⟩,aU⟩ ?_;rintro⟨a,H⟩ t ⟨f,⟨I,b,r⟩,v,B⟩ h
   dsimp only at f b r v B
   refine aa ?_;refine aH (λq=> ?_) λq=> ?_
   .have f:a<2:=a9r;obtain⟨_,y,q,C,h,j,k,rfl⟩:=w.get (i:=a) (x:= [g,cc].getD a aA) (by simp_all);obtain⟨f,w,w⟩:=s.get a _ y;have D:=(aX (N:=h) (e5:=j) (h5:=k) q).all;have K:dr true 37 t f=some (.agg (ab ([g,cc].getD a aA) h j k)):=by have:=w.ld t b.1 true 37 a9r (by rw[hP];omega);rw[this,aY,if_pos rfl,hP,D.2.1]
    have L:=lD (N:=h) (e5:=j) (h5:=k) q;have E:([g,cc].getD a aA).size.toNat<d:=by
     obtain rfl|rfl:a=0\/a=1:=a9r
     .show g.size.toNat<d;omega
     .show cc.size.toNat<d;omega
    obtain⟨f,s⟩: ∃f,[g,cc].getD a aA=f:=⟨_,rfl⟩;rw[s]at y q C D K L E;clear w y;refine aa ?_;refine aP λD w=> ?_;have y:=b.1 _ _ F;have F:p≠D:=by rintro rfl;rw[y]at w;cases w
    have p:=F.symm;have p:=U.ae (Y:= .cells (ab f h j k)) (U.a1 (f:=t)) w;have t:=U.af y;refine aa ?_;refine ai (yY n u e c z A d _ (G.mono (U.aq b.1 p)) f h j k q C E) ?_;rintro o h ⟨k,h⟩;have n:en e c d f=if a=0 then en e c d g else en e c d cc:=by
     rw[<-s];obtain rfl|rfl:a=0\/a=1:=a9r
     .rfl
     .rfl
    cases j:en e c d f with
    |none=>rw[j]at h;obtain rfl:=h;refine aa ?_;refine⟨_,U.a1,U.aq x (U.aq b.1 (U.aq p k)),?_⟩;grind
    |some iC=>
     rw[j]at h n;obtain⟨n,n,rfl,n,o⟩:=h;obtain⟨h,q,t,h⟩:=n.src;have h:=fL n;have n:=b.mono (U.aq p k);have h:=r.len;have h:=o.len;have h:=(rb j).1;have h:(ac a).length<=3000000:=by
      have: ∀i:Option (List (List Int)),(∀h,i=some h->h.length<=1048576)->(i.getD []).length<=1048576:=λi l=>by
       cases i with
       |none=>simp
       |some h=>exact l h rfl
      have m:=this (en e c d g) λh c=>by have:=(rb c).1;omega
      grind
     have c:f.size<=1048576:=by
      rw[<-s];obtain rfl|rfl:a=0\/a=1:=a9r
      .show g.size<= _;omega
      .show cc.size<= _;omega
     refine aa ?_;refine fk n a9r t q a9r a9r λc d d=> ?_;refine aa ?_;refine⟨(a+1,c),⟨by dsimp only;omega,⟨_,d,?_⟩,?_,?_⟩,⟨rfl,rfl⟩,by dsimp only;omega⟩
     .have:ac (a+1)=ac a++iC:=by grind
      rw[this];exact r.append o
     .intro _;obtain rfl|rfl:a=0\/a=1:=a9r;grind
      .exact v a9r
     grind
   .obtain rfl:a=2:=a9r;obtain⟨a,a⟩:=a5C.1 (v a9r);obtain⟨c,c⟩:=a5C.1 (B a9r);refine aa ?_;refine⟨_,U.a1,U.aq x b.1,?_⟩;refine⟨I,H,rfl,b.base x,?_⟩;simpa[ac,a,c] using r
end Go.Proofs.YtlgnfcaolejgeaaGreat
namespace Go.bB
open Go
def View.freeze {a:U}{b:R}{l:Nat}{cs:List R} (d:a l=some (.cells cs)):View a b (a.set l (.ro cs)) b:=λp r v h k=>by
 obtain⟨o,c⟩:=Step.freeze h d;exact⟨o,c,k.mono c.le⟩
variable{f t e7:U}{g A e1:List R}{e i v M c0 j0:Nat}
def View.Fp (b:f M=some (.ro g)) (c:e*i<=g.length):View f (.al M e c0 i) f (.J (dL i e g) .any):=λd k v a h=>⟨d,.refl a,aZ.frozen a b c h⟩
variable{u:bm}{l h8:World}
theorem aZ.frozenAt {v:Value} (k:Holds u f l) (o:f M=some (.ro g)) (S:e+i<=g.length) (p:aZ u v (.bx M e i c0 1)):aZ u v (.J ((g.drop e).take i) .any):=by
 obtain⟨r,d,T,V,W,h,j⟩:=k.dT M _ o;have m:d.size=g.length:=h.1;cases p with
 |bx M e i c0 n hk x=>
  have y: ∀b∈g.drop e,b.one=true:=λb z=>r b (a5p z);obtain⟨C,D,E⟩:=vX (i:=1) (e:=i) (g:=g.drop e) a9r (by rw[a4X];omega) y;rw[kz,a5v]at*;by_cases F:i=0
  .subst F;rw[a6s];exact .dj _ _ _ (λG=>by cases G) trivial
  .refine .J M e i c0 1 (λa=>d.getD (e+a) Go.undef) _ .any hk E.symm x C ?_ ?_ ?_ trivial;grind;grind
   .intro a L c;rw[D]at c;have P:a<i:=by grind
    rw[a5M P,a7Q]at c;exact h.2 (e+a) L c
def View.a1n (b:f M=some (.ro g)) (c:e+i<=g.length):View f (.bx M e i c0 1) f (.J ((g.drop e).take i) .any):=λd k v a h=>⟨d,.refl a,aZ.frozenAt a b c h⟩
end Go.bB
namespace Go.Proofs.YtlgnfcaolejgeaaGreat
open Go Go.bB
def a1o (p:List (List Int)) (a:List R) (h:Own) (b:U) (k:az isRow p a) (G:p.length<=4000000):
  AC Tryz.prog 311 [.J a h] b λr o=>ar b o 1 a r:=by
 have L:=k.len;refine mU λx=> ?_;have y:h= .nil->a= []:=λc=>by subst c;simpa using x a a9s
 refine bf hm RM a9s ?_;simp -dsimp -implicitDefEqProofs (disch:=first|omega|assumption|(simp only[aE,Nat.reduceAdd];try omega)) only[go_sem,simprocAttr,↓o9];refine oa (λd=>by rw[y d]) (λd=> ?_) ?_
 .have z:a= []:=by simpa using d
  subst z;simp -dsimp -implicitDefEqProofs (disch:=first|omega|assumption|(simp only[aE,Nat.reduceAdd];try omega)) only[go_sem,simprocAttr,a5y];exact⟨b,U.a1,ar.nil U.a1⟩
 .simp -dsimp -implicitDefEqProofs (disch:=first|omega|assumption|(simp only[aE,Nat.reduceAdd];try omega)) only[go_sem,simprocAttr,nX];have C:bN b 1 (.J a h)=some (a.length,a):=by have D:=k.flat;have E:a.all (λc=>decide (c.cells.length=1))=true:=a4Y.2 λc F=>decide_eq_true (k.cells (λ_ _=>isRow.cells) c F);simp only[bN,E,if_true,D]
  refine fk (ar.zero (U.a1 (f:=b))) a9r C a9r a9t a9t λr o d=> ?_;simp -dsimp -implicitDefEqProofs (disch:=first|omega|assumption|(simp only[aE,Nat.reduceAdd];try omega)) only[go_sem,simprocAttr];exact⟨o,U.a1,by simpa using d⟩
variable{n b3:R}{f t e7:U}{O:List (List Int)}{g A e1:List R}{e i v M c0 j0:Nat}
theorem Fq {d:List Int->List Int->Int} (s:nA e d) {j:List (List Int)} (k:ar t e7 1 g n) (l:az isRow O g) (u: ∀b∈O,b.length=e) (z:O.length<=4000000) (p:O≠ [])
  (q:j.Perm O) (v:j.Pairwise (λn a=> ¬d a n<0)) (h:FuncId) (m:List R) (o:f.sub e7) (w: ∀a,f a=none\/ ∃c,f a=some (.ro c)) (x:gl Tryz.prog h=true)
  (y: ∀c a i r,c.length=e->a.length=e->AC Tryz.prog h ([.J (ad c) i,.J (ad a) r]++m) f λb _=>b= .v (.int .i64 (d c a))):
  ∃a e,n= .al a O.length e 1/\O.length<=e/\AC Tryz.prog 118 [n,.bH h [] m] e7 λb g=>b= .aL []/\t.sub g/\f.sub g/\ ∃d f,az isRow j d/\g a=some (.ro (d++f))/\ar t (g.set a (.cells (d++f))) 1 d n:=by
 obtain⟨a,t,e,f,rfl,j,z,A,n,B,r,C⟩:=k.al (λD=>p (by have:=l.len;grind));rw[a5v]at A n B;have A:=l.len;obtain rfl:t=O.length:=a9r;have t:0<O.length:=a5U.2 p;refine⟨a,e,rfl,r,?_⟩;refine(a1j s z l rfl n a9r t u q v h m o w x y).view λb g g=> ?_;obtain⟨rfl,d,b,rfl⟩:=g;have g:=b.len;have g:=q.length_eq;refine⟨.aL [],_,View.freeze (l:=a) (cs:=d++f.drop O.length) (U.ah _ _ _),rfl,?_,?_,d,f.drop O.length,b,U.ah _ _ _,?_⟩
 .rw[U.set_set];intro c i b;have:c≠a:=by rintro rfl;rw[j]at b;cases b
  rw[U.an _ _ this];exact k.1 _ _ b
 .rw[U.set_set];intro c i b;have:c≠a:=by rintro rfl;have:=o _ _ b;grind
  rw[U.an _ _ this];exact o _ _ b
 .rw[U.set_set,U.set_set];refine⟨λc i b=> ?_,.inr ⟨a,O.length,e,d++f.drop O.length,rfl,j,U.ah _ _ _,?_,?_,?_,r,C⟩⟩
  .have:c≠a:=by rintro rfl;rw[j]at b;cases b
   rw[U.an _ _ this];exact k.1 _ _ b
  simp_all;simp_all
  .omega
end Go.Proofs.YtlgnfcaolejgeaaGreat
namespace Go.bB
open Go
variable{s a7:R -> U -> Prop}{b4:FuncId}{f t e7:U}{g A e1:List R}{e i v M c0 j0:Nat}{m:Program}
def AC.fz (b:f e=some (.cells A)) (c:AC m b4 g (f.set e (.ro A)) s):AC m b4 g f s:=
 c.pre λo p r d h=>by
  obtain⟨k,a⟩:=Step.freeze h b;exact⟨k,d.mono a.le,a⟩
def U.one (a:Nat) (b:bq):U:=λc=>if c=a then some b else none
variable{Y:bq}
def U.a1p:U.one e Y e=some Y:=by simp[U.one]
theorem U.one_sub (b:f e=some Y):(U.one e Y).sub f:=λc d a=>by
 unfold U.one at a;simp_all
theorem U.a1q: ∀a,U.one e (.ro g) a=none\/ ∃b,U.one e (.ro g) a=some (.ro b):=λa=>by
 unfold U.one;grind
end Go.bB
namespace Go.Proofs.YtlgnfcaolejgeaaGreat
open Go Go.bB
variable{n b3:R}{f t e7:U}{O:List (List Int)}{g A e1:List R}{e i v M c0 j0:Nat}
def a1r {o:List (List Int)} (p:ar f e7 1 g n) (y:e7.sub t) (z:az isRow O g) (C: ∀a∈O,a.length=v) (D:O.length<=4000000) (E:O≠ []) (w:i<v) (A:v<=8)
  (F:o.Perm O) (G:o.Pairwise (λn L=> ¬cO i L n<0)) (P:t e=some (.cells [.v (.int .i64 (i:Int))])) (r:e7 e=none):
  ∃b h,n= .al b O.length h 1/\O.length<=h/\AC Tryz.prog 118 [n,.bH 336 [] [.ptr e 0]] t λa c=>a= .aL []/\f.sub c/\ ∃k x,az isRow o k/\c b=some (.ro (k++x))/\ar f (c.set b (.cells (k++x))) 1 k n:=by
 have S:f e=none:=U.bG p.1 r;have T:cR n≠some e:=λV=>ar.has p V r;have W:=ar.other (p.mono y) (q:=e) (o:= .ro [.v (.int .i64 (i:Int))]) S T;obtain⟨b,h,rfl,j,l⟩:=Fq (pK v i) W z C D E F G 336 [.ptr e 0] (U.one_sub (U.ah t e (.ro [.v (.int .i64 (i:Int))]))) U.a1q a9w (λm q s u B H=>(EH m q s u i _ e (by simp[U.read,U.a1p]) a9r a9r a9r).mono λa c d=>d.2);refine⟨b,h,rfl,j,AC.fz P (l.mono λa c d=> ?_)⟩;exact⟨d.1,d.2.1,d.2.2.2⟩
def iO (b:Nat):Nat->ag->List (List Int)->Nat->Except Int ay×ag
 |0,c,_,_=>(.ok aA,c)
 |o+1,c,a,dep=>if a= []then(.ok aA,c)else
  match iO b o c ((dJ (dep%b) a).take (a.length/2)) (dep+1)with
  |(.error d,h)=>(.error d,h)
  |(.ok p,h)=>match iO b o h ((dJ (dep%b) a).drop (a.length/2+1)) (dep+1)with
   |(.error d,k)=>(.error d,k)
   |(.ok r,k)=>dv k b (cm ((dJ (dep%b) a).getD (a.length/2) [],true) p r)
def oK (h a:U) (b c:Nat) (d:Except Int ay×ag) (k:R):Prop:=bC a b c d.2/\Ext b c h a/\hd d.1 k
theorem hd.z:hd (.ok aA) (.aL [.agg (ab aA .nil .nil .nil),.v (.int .i64 0)]):=⟨bl,mf,_,_,_,rfl⟩
theorem oK.z {a b:U}{c d:Nat}{h:ag} (o:bC a c d h) (k:a.sub b):oK a b c d (.ok aA,h) (.aL [.agg (ab aA .nil .nil .nil),.v (.int .i64 0)]):=⟨o.mono k,Ext.of k,hd.z⟩
theorem Fs (a c:Nat) (h:Nat) (k:Own) (o:Nat) (b:U) (d:ag) (x:bC b a c d):
  AC Tryz.prog 247 [dY a h,.J [] k,.v (.int .i64 (o:Int))] b λp r=>oK b r a c (.ok aA,d) p:=by
 refine aO hm Bs ?_;refine br λy z=> ?_;refine db λC D E F=> ?_;refine⟨_,U.a1,?_⟩;grind[ct,List.take_of_length_le,aX,bl,oK.z,U.ae,U.a1]
theorem yZ (e k:Nat) (c:Nat) (r:1<=c) (s:c<=8): ∀(f:Nat) (a:List (List Int)) (h:List R) (i:Own) (dep:Nat) (b:U) (g:ag),bC b e k g->az isRow a h->(∀d∈a,d.length=c)->a.length<=f->f<=4000000->dep+f<=100000000->
  AC Tryz.prog 247 [dY e c,.J h i,.v (.int .i64 (dep:Int))] b λd j=>oK b j e k (iO c f g a dep) d
 |0,a,h,i,dep,b,g,j,m,o,l,_,_=>by
  obtain rfl:a= []:=a4P a9r;obtain rfl:h= []:=a4P m.len;exact Fs e k c i dep b g j
 |f+1,a,h,i,dep,b,g,j,m,o,l,l,l=>by
  have l:=m.len;by_cases t:a= []
  .subst t;obtain rfl:h= []:=a4P m.len;rw[iO,if_pos rfl];exact Fs e k c i dep b g j
  have l:0<a.length:=a5U.2 t;have l: ¬(a.length:Int)=0:=a9r;have z:=a6U dep r;have E:=iO.eq_2 c g a dep f;rw[if_neg t]at E;generalize iO c (f+1) g a dep=l at E;obtain⟨w,B⟩:=ta (e:=dep%c) o;have W:=pC (dep%c) a;have N: ∀d∈dJ (dep%c) a,d.length=c:=λd p=>o d (w.mem_iff.1 p);generalize dJ (dep%c) a=l at*;refine aO hm Bs ?_;refine br λx C=> ?_;refine db λq y n n=> ?_;generalize n:(b.set x _).set q _=u;have K:b.sub u:=by subst n;exact aU
  have aI:u x=some (.cells [.ptr e 0,.v (.int .i64 (c:Int))]):=by subst n;exact aU
  have bD:u q=some (.cells (ab aA .nil .nil .nil)):=by subst n;rw[<-ct];exact aU
  clear n;have F:=j.mono K;refine ai (a1o a h i u m a9r) ?_;intro b h b;refine aa ?_;have O:=U.af (b.1 _ _ aI);refine aa ?_;refine ai (EI e c dep r a9r s h) ?_;rintro _ h ⟨u,h,n,x,rfl⟩;refine aa ?_;obtain⟨i,h,rfl,X,A⟩:=a1r b u m o a9r t z s w B n x;refine ai A ?_;rintro _ t ⟨rfl,o,m,G,z,w,B⟩;have P:=ar.fresh B (e:=i) rfl;clear B;have B:=z.len;have B:=F.mono o;have D:=U.af (o _ _ aI);clear A b n x u O;have b:(a.length:Int).tdiv 2=((a.length/2:Nat):Int):=rfl;have b:c8 1 (.al i a.length h 1) none (some (.v (.int .i64 ((a.length/2:Nat):Int)))) none=some (.al i (a.length/2) h 1):=hQ a9r;generalize b:a.length/2=b at*;have Y:b<a.length:=a9r;refine aa ?_;have u:(m++G).length=h\/True:= .inr trivial;have u:(dep:Int)+1=((dep+1:Nat):Int):=rfl;rw[u];have u:View t (.al i b h 1) t (.J (m.take b) .any):=by have:=View.Fp (e:=b) (c0:=h) (i:=1) w (by rw[a4L];omega);rwa[kz,a6j a9r]at this
  refine ai (AC.nn (g:= [dY e c]) u (yZ e k c r s f (l.take b) (m.take b) .any (dep+1) t g B (z.take b) (λd p=>N d (a5b p)) (by rw[a4N];omega) a9r a9r)) ?_;rintro d H ⟨A,t,I⟩;generalize u:iO c f g (l.take b) (dep+1)=qw at*;obtain⟨u,Q⟩:=qw
  dsimp only at A I
  have B:=j.cH C;have g:=j.cH y;have C:=F.cH P;have S:=t _ _ B.1 B.2 (o _ _ aI);have D:=t _ _ g.1 g.2 (o _ _ bD);have Z:=t _ _ C.1 C.2 w;have T:=((Ext.of (l:=e) (lM:=k) (U.aq K o)).trans t);cases u with
  |error V=>
   obtain⟨K,rfl⟩:=I;refine aa ?_;refine aP λt j=> ?_;have o:t≠q:=by rintro rfl;rw[D]at j;cases j
   have j9:=o.symm;have k0:=(aX (N:= .nil) (e5:= .nil) (h5:= .nil) bl).all;have k1:=lD (N:= .nil) (e5:= .nil) (h5:= .nil) bl;refine aa ?_;have k2:=U.aJ D;have k3:=cG (a:= .nil) (b:= .nil) (c:= .nil) (N:= .nil) (e5:= .nil) (h5:= .nil) bl bl;rw[ct];refine aa ?_;refine⟨_,U.a1,?_⟩;exact⟨(A.mono (U.ae U.a1 j)).set g,(T.trans (Ext.of (U.ae U.a1 j))).ec y,K,rfl⟩
  |ok L=>
   obtain⟨M,k4,u,w,x,rfl⟩:=I;refine aa ?_;refine aP λt j=> ?_;have o:t≠q:=by rintro rfl;rw[D]at j;cases j
   have j9:=o.symm;have o:=(aX (N:=u) (e5:=w) (h5:=x) M).all;have o:=lD (N:=u) (e5:=w) (h5:=x) M;refine aa ?_;have o:=U.ae (Y:= .cells (ab L u w x)) (U.a1 (f:=H)) j;have ds:=U.ah H t (.cells (ab L u w x));have I:=A.mono o;have O:=U.af (o _ _ S);have O:=o _ _ Z;have Z:=o _ _ D;have j9:=o _ _ S;have S:=T.trans (Ext.of o);rw[U.set_set];generalize H.set t _=o at*;have t: ∃v,c8 1 (.al i a.length h 1) (some (.v (.int .i64 ((b:Int)+1)))) none none=some v/\View o v o (.J (m.drop (b+1)) .any):=by
    by_cases n:b+1<h
    .refine⟨_,gp (e:=b+1) a9r X n,?_⟩;rw[a5v];have:=View.a1n (e:=b+1) (i:=a.length -(b+1)) (c0:=h -(b+1)) O (by rw[a4L];omega);grind
    .have D:a.length=h:=a9r;have H:b+1=a.length:=a9r;refine⟨_,by have:=tT (i:=1) (M:=i) (e2:= .i64) D;rw[show(b:Int)+1=(a.length:Int) by omega];exact this,?_⟩;rw[a5x a9r];exact View.J
   obtain⟨H,t,D⟩:=t;refine aa ?_;refine ai (AC.nn (g:= [dY e c]) D (yZ e k c r s f (l.drop (b+1)) (m.drop (b+1)) .any (dep+1) o Q I (z.drop (b+1)) (λd p=>N d (a5p p)) (by rw[a4X];omega) a9r a9r)) ?_;rintro d D ⟨I,o,N⟩;generalize p:iO c f Q (l.drop (b+1)) (dep+1)=mV at*;obtain⟨cI,o5⟩:=mV
   dsimp only at I N E
   have f:=F.cH P;have f:=A.cH j;have E:=o _ _ B.1 B.2 j9;have A:=o _ _ g.1 g.2 Z;have F:=o _ _ C.1 C.2 O;have O:=o _ _ f.1 f.2 ds;have C:=S.trans o;cases cI with
   |error V=>
    obtain⟨K,rfl⟩:=N;refine aa ?_;refine aP λt f=> ?_;have j:t≠q:=by rintro rfl;rw[A]at f;cases f
    have o:=j.symm;have k0:=(aX (N:= .nil) (e5:= .nil) (h5:= .nil) bl).all;have k1:=lD (N:= .nil) (e5:= .nil) (h5:= .nil) bl;have k2:=U.aJ A;have k3:=cG (a:= .nil) (b:= .nil) (c:= .nil) (N:= .nil) (e5:= .nil) (h5:= .nil) bl bl;refine aa ?_;rw[ct];refine aa ?_;refine⟨_,U.a1,?_⟩;exact⟨(I.mono (U.ae U.a1 f)).set g,(C.trans (Ext.of (U.ae U.a1 f))).ec y,K,rfl⟩
   |ok cc=>
    obtain⟨B,K,j,o,p,rfl⟩:=N;refine aa ?_;refine aP λt f=> ?_;have q:=(aX (N:=j) (e5:=o) (h5:=p) B).all;have q:=lD (N:=j) (e5:=o) (h5:=p) B;refine aa ?_;rw[U.set_set];have q:=U.ae (Y:= .cells (ab cc j o p)) (U.a1 (f:=D)) f;have f:=U.af (U.ah D t (.cells (ab cc j o p)));have N:=I.mono q;have f:=U.af (q _ _ E);have f:=U.af (q _ _ O);have f:(D.set t (.cells (ab cc j o p))).read i=some (m++G):=by have:=q _ _ F;simp only[U.read,this]
    have E:=q _ _ A;have A:=C.trans (Ext.of q);generalize D.set t _=q at*;obtain⟨_,t,f,rfl⟩:=z.get (i:=b) (x:=l.getD b []) (by simp[List.getD,W,Y]);have z:cS 1 (.al i a.length h 1) (.v (.int .i64 (b:Int)))=some (.ptr i (b*1)):=by grind[ja,Int.toNat_natCast]
    have a:aY false 1 (List.drop b (m++G))= .J (ad (l.getD b [])) f:=by obtain⟨a,n⟩:=a4R.1 t;rw[a6k a9r,a5e a,n];rfl
    refine aa ?_;refine ai (uI q e k o5 N (l.getD b [],true) L cc f u w x j o p c r s M B k4 K) ?_;rintro d a ⟨f,a,b⟩;have c:=U.aJ (a _ _ g.1 g.2 E);obtain⟨c,c,H,d,V,e,rfl⟩:=b.shape;have h:=(aX (N:=c) (e5:=H) (h5:=d) e).all;have h:=cG (a:= .nil) (b:= .nil) (c:= .nil) (N:=c) (e5:=H) (h5:=d) bl e;have c:=(aX (N:= .nil) (e5:= .nil) (h5:= .nil) bl).len;refine aa ?_;refine⟨_,U.a1,?_⟩;exact⟨f.set g,(A.trans a).ec y,b⟩
def kR (a:ag) (b:Nat) (c:ay) (h:Nat):Except Int ay×ag:=
 match en a b (c.size.toNat+1) c with
 |none=>(.error 21,a)
 |some d=>iO b d.length a d h
def Ft (f:U) (e j:Nat) (c:ag) (g:bC f e j c) (a:ay) (n o p:Own) (r:a.sum.length=32) (x:a.cF) (b:Nat) (s:1<=b) (t:b<=8) (d:Nat) (h:d<=10000000) (i:a.size<=4000000):
  AC Tryz.prog 159 [dY e b,.agg (ab a n o p),.v (.int .i64 (d:Int))] f λq h=>oK f h e j (kR c b a d) q:=by
 have h:=(aX (N:=n) (e5:=o) (h5:=p) r).all;have u:kR c b a d=match en c b (a.size.toNat+1) a with
  |none=>(.error 21,c)
  |some h=>iO b h.length c h d:=rfl
 generalize kR c b a d=i at*;refine aO hm NW ?_;refine br λv i=> ?_;refine db λi k k k=> ?_;refine hq λw k a3 a4 a5 dx=> ?_;generalize l:((f.set v _).set i _).set w _=m;have i:f.sub m:=by subst l;exact aU
 have aI:m v=some (.cells [.ptr e 0,.v (.int .i64 (b:Int))]):=by subst l;exact aU
 have bp:m w=some (.cells (ab aA .nil .nil .nil)):=by subst l;rw[<-ct];exact aU
 clear l;refine ai (yY e j c b s t (a.size.toNat+1) m (g.mono i) a n o p r x a9r) ?_;rintro q f ⟨l,f⟩;cases m:en c b (a.size.toNat+1) a with
 |none=>rw[m]at f u;obtain rfl:=f;have a:=(aX (N:= .nil) (e5:= .nil) (h5:= .nil) bl).all;have n:=cG (a:= .nil) (b:= .nil) (c:= .nil) (N:= .nil) (e5:= .nil) (h5:= .nil) bl bl;have o:=U.aJ (l _ _ bp);refine aa ?_;refine⟨_,U.a1,?_⟩;rw[ct,a4K (by rw[a.1];omega)];exact⟨((g.mono i).mono l).set (g.cH k),((Ext.of i).trans (Ext.of l)).ec k,a9v,rfl⟩
 |some h=>rw[m]at f u;obtain⟨p,a,rfl,l,a⟩:=f;have n:=l;have f:=U.af (l.1 _ _ aI);rw[<-a.flat]at n;obtain⟨r,u,f⟩:=ar.DK n a;obtain⟨l,n⟩:=rb m;have l:=g.cH k;have m:=(aX (N:= .nil) (e5:= .nil) (h5:= .nil) bl).len;refine aa ?_;have m:=AC.nn (m:=Tryz.prog) (g:= [dY e b]) (A:= [.v (.int .i64 (d:Int))]) u (yZ e j b s t h.length h p .any d r c (((g.mono i)).mono f) a n a9r a9r a9r);refine ai m ?_;rintro q a ⟨h,a,b⟩;obtain⟨c,c,d,e,g,g,rfl⟩:=b.shape;have o:=U.aJ (a _ _ l.1 l.2 (f _ _ bp));have j:=(aX (N:=c) (e5:=d) (h5:=e) g).all;have j:=cG (a:= .nil) (b:= .nil) (c:= .nil) (N:=c) (e5:=d) (h5:=e) bl g;refine aa ?_;refine⟨_,U.a1,?_⟩;exact⟨h.set l,(((Ext.of i).trans (Ext.of f)).trans a).ec k,b⟩
end Go.Proofs.YtlgnfcaolejgeaaGreat
namespace Go.bB
open Go
section
end
end Go.bB
namespace Go.Proofs.YtlgnfcaolejgeaaGreat
open Go Go.bB
def kS (k:ag) (c:Nat) (o:List Int×Bool) (d h:ay) (p:Nat):Except Int ay×ag:=
 match dv k c (cm o d h)with
 |(.error r,a)=>(.error r,a)
 |(.ok b,a)=>if(2*b.size).tdiv 3+1<max d.size h.size then kR a c b p else(.ok b,a)
def jm (b:Nat) (h:List Int):Nat->ag->ay->Nat->Except Int ay×ag
 |0,a,_,_=>(.error 21,a)
 |r+1,a,k,dep=>if k=aA then dv a b (cm (h,true) k k)else match kM a b k with
  |none=>(.error 21,a)
  |some (d,bJ)=>if d.1=h then(if d.2=true then(.error 8,a)else kS a b (d.1,true) (bJ.getD 0 aA) (bJ.getD 1 aA) dep)
   else if cO (dep%b) h d.1<0 then match jm b h r a (bJ.getD 0 aA) (dep+1)with
    |(.error o,c)=>(.error o,c)
    |(.ok p,c)=>kS c b d p (bJ.getD 1 aA) dep
   else match jm b h r a (bJ.getD 1 aA) (dep+1)with
    |(.error o,c)=>(.error o,c)
    |(.ok p,c)=>kS c b d (bJ.getD 0 aA) p dep
variable{w j2:ay}{e i v M c0 j0:Nat}{H:ag}
def Fu {h:ag}{k:List Int×Bool}{b:ay} (a:dv H e (cm k w j2)=(.ok b,h)):b.size=1+w.size+j2.size/\0<=w.size/\0<=j2.size/\b.size<=1048576:=by
 unfold dv at a;split at a
 .cases (a6B a).1
 .rename_i p o;simp only[a5W,Except.ok.injEq]at a;obtain⟨rfl,_⟩:=a;have c:=ux o;have d:=v7 c.ok;have:=c.size;simp only[cm,a6g,a5j,a6A,a7Z,List.sum_nil]at this;exact⟨a9r,(nC (d w (by simp[cm]))).1,(nC (d j2 (by simp[cm]))).1,c.o7⟩
structure jn (cs:List R) (a b:ay):Prop where
 len:74<=cs.length
 bQ:a.sum.length=32
 pL:a.cF
 cw:b.sum.length=32
 lZ:b.cF
 cs: ∃nv nw c d h k r,cs=ab a nv nw c++(ab b d h k++r)
variable{n b3:R}{f t e7:U}{g A e1:List R}
theorem jn.of {s:U} (p:ar f s 37 (flat g) n) (r:az bt [w,j2] g): ∃a o b,n= .al a 2 o 37/\f a=none/\s a=some (.cells b)/\jn b w j2:=by
 match g,r with
 | [_,_],⟨⟨bQ,pL,nv,nw,c,rfl⟩,⟨cw,lZ,d,h,k,rfl⟩,_⟩=>
  have F:=(aX (N:=nv) (e5:=nw) (h5:=c) bQ).len;have G:=(aX (N:=d) (e5:=h) (h5:=k) cw).len;have x:flat [R.agg (ab w nv nw c),.agg (ab j2 d h k)]=ab w nv nw c++ab j2 d h k:=by simp[flat,R.cells]
  rw[x]at p;obtain⟨a,y,o,b,rfl,z,C,L,D,E,P,_⟩:=p.al (λS=>by simp_all);rw[a4L]at E;obtain rfl:y=2:=a9r;refine⟨a,o,b,rfl,z,C,a9r,bQ,pL,cw,lZ,nv,nw,c,d,h,k,b.drop 74,?_⟩;rw[<-a4W,<-D,a5r]
def jn.ld (p:jn g j2 w): ∃h k o b c d,aY true 37 g= .agg (ab j2 h k o)/\aY true 37 (g.drop 37)= .agg (ab w b c d)/\aY false 1 (g.drop 35)= .v (.int .i64 j2.size)/\aY false 1 (g.drop 72)= .v (.int .i64 w.size):=by
 obtain⟨h,k,o,b,c,d,r,rfl⟩:=p.cs;have x:=(aX (N:=h) (e5:=k) (h5:=o) p.bQ).len;have z:=(aX (N:=b) (e5:=c) (h5:=d) p.cw).len;have C: ∀a,a<=37->(ab j2 h k o++(ab w b c d++r)).drop a=(ab j2 h k o).drop a++(ab w b c d++r):=λa D=>a6k a9r;have y: ∀a,a<=37->(ab j2 h k o++(ab w b c d++r)).drop (37+a)=(ab w b c d).drop a++r:=λa D=>by
  rw[<-a5D,a7O x,a6k a9r]
 refine⟨h,k,o,b,c,d,?_,?_,?_,?_⟩
 .simp only[aY,if_true];rw[a6H x]
 .rw[y 0 a9r,a6W];simp only[aY,if_true];rw[a6H z]
 .rw[C 35 a9r,(aX p.bQ).d35];rfl
 .rw[y 35 a9r,(aX p.cw).d35];rfl
variable{N e5 h5:Own}
theorem jn.Fv {k:ay} (a:jn g k j2) (o:w.sum.length=32) (y:w.cF):jn (putAt g 0 (ab w N e5 h5)) w j2:=by
 obtain⟨p,r,x,b,c,d,h,rfl⟩:=a.cs;have C:=(aX (N:=p) (e5:=r) (h5:=x) a.bQ).len;have D:=(aX (N:=b) (e5:=c) (h5:=d) a.cw).len;have E:=(aX (N:=N) (e5:=e5) (h5:=h5) o).len;have z:putAt (ab k p r x++(ab j2 b c d++h)) 0 (ab w N e5 h5)=ab w N e5 h5++(ab j2 b c d++h):=by simp_all [putAt,a6s,a5d,a5g,a6k,a5x]
 rw[z];exact⟨by simp only[a4L];omega,o,y,a.cw,a.lZ,_,_,_,_,_,_,h,rfl⟩
theorem jn.Fw {k:ay} (a:jn g j2 k) (o:w.sum.length=32) (y:w.cF):jn (putAt g 37 (ab w N e5 h5)) j2 w:=by
 obtain⟨b,c,d,p,r,x,h,rfl⟩:=a.cs;have C:=(aX (N:=b) (e5:=c) (h5:=d) a.bQ).len;have D:=(aX (N:=p) (e5:=r) (h5:=x) a.cw).len;have E:=(aX (N:=N) (e5:=e5) (h5:=h5) o).len;have z:putAt (ab j2 b c d++(ab k p r x++h)) 37 (ab w N e5 h5)=ab j2 b c d++(ab w N e5 h5++h):=by grind[putAt,List.take_left',List.drop_drop,List.drop_left',List.append_assoc]
 rw[z];exact⟨by simp only[a4L];omega,a.bQ,a.pL,o,y,_,_,_,_,_,_,h,rfl⟩
set_option maxHeartbeats 1600000 in
theorem Fx (f n:Nat) (a:Nat) (M:1<=a) (H:a<=8) (c:List Int) (y:Own) (k6:c.length=a): ∀(r:Nat) (s:U) (h:ag) (_:bC s f n h) (g:ay) (i j k:Own) (dep:Nat),g.sum.length=32->g.cF->g.size.toNat<r->dep+r<=4000000->
  AC Tryz.prog 152 [dY f a,.agg (ab g i j k),.J (ad c) y,.v (.int .i64 (dep:Int))] s λI o=>oK s o f n (jm a c r h g dep) I
 |0,s,h,u,g,i,j,k,dep,gF,m,b,d=>by omega
 |r+1,s,h,u,g,i,j,k,dep,gF,m,b,d=>by
  have l2:=(aX (N:=i) (e5:=j) (h5:=k) gF).all;have b:=(jm.eq_2 a c h g dep r).symm;generalize jm a c (r+1) h g dep=k4 at*;refine aO hm NI ?_;refine br λB p=> ?_;refine db λl Y d d=> ?_;refine hq λz A a3 a4 a5 dx=> ?_;generalize d:((s.set B _).set l _).set z _=e;have x:s.sub e:=by subst d;exact aU
  have aM:e B=some (.cells [.ptr f 0,.v (.int .i64 (a:Int))]):=by subst d;exact aU
  have bp:e l=some (.cells (ab g i j k)):=by subst d;exact aU
  have bw:e z=some (.cells (ab aA .nil .nil .nil)):=by subst d;rw[<-ct];exact aU
  clear d;have d:=U.af aM;have d:=U.af bp;have V:=u.mono x;have K:=u.cH p;have L:=u.cH Y;have d:=u.cH A;by_cases N:g=aA
  .subst N;refine bk (nh aA i j k e gF m) ?_;refine ai (uI e f n h V (c,true) aA aA y i j k i j k a M H gF gF m m) ?_;rintro I p ⟨t,p,q⟩;obtain⟨l3,O,P,Q,S,T,rfl⟩:=q.shape;have W:=U.aJ (p _ _ d.1 d.2 bw);have l4:=(aX (N:=O) (e5:=P) (h5:=Q) T).all;have C:=(aX (N:= .nil) (e5:= .nil) (h5:= .nil) bl).len;have D:=cG (a:= .nil) (b:= .nil) (c:= .nil) (N:=O) (e5:=P) (h5:=Q) bl T;rw[if_pos rfl]at b;refine aa ?_;refine⟨_,U.a1,?_⟩;rw[<-b];exact⟨t.set d,((Ext.of x).trans p).ec A,q⟩
  rw[if_neg N]at b;refine bk (nh g i j k e gF m) ?_;generalize k5:bU (Ctx.of Tryz.prog) (dN.seq (dN.block 0 _) _)=p;refine ai (yo e f n h V g i j k gF m a M H) ?_;rintro I Z ⟨E,q⟩;cases v:kM h a g with
  |none=>
   rw[v]at q b;obtain rfl:=q
   dsimp only at b
   refine aa ?_;refine aP λp t=> ?_;have e:p≠z:=by rintro rfl;rw[E _ _ bw]at t;cases t
   have m:=e.symm;have W:=U.aJ (E _ _ bw);subst k5;have C:=(aX (N:= .nil) (e5:= .nil) (h5:= .nil) bl).len;have D:=cG (a:= .nil) (b:= .nil) (c:= .nil) (N:= .nil) (e5:= .nil) (h5:= .nil) bl bl;refine aa ?_;refine⟨_,U.a1,?_⟩;rw[<-b,ct,a4K (by rw[C];omega)];exact⟨((V.mono E).mono (U.ae U.a1 t)).set d,(((Ext.of x).trans (Ext.of E)).trans (Ext.of (U.ae U.a1 t))).ec A,a9v,rfl⟩
  |some m=>
   obtain⟨e,w⟩:=m;rw[v]at q b;obtain⟨m,w,rfl,w,w,G,j9⟩:=q;obtain⟨X,cc,rfl,q,q,q,q,l5,q⟩:=v8 v;obtain⟨F,q,q,rfl,v,k7,w⟩:=jn.of G j9;refine aa ?_;refine aP λp t=> ?_;refine aa ?_;have k1:=U.ae (Y:= .cells [.J (ad e.1) m,.v (.bool e.2)]) (U.a1 (f:=Z)) t;have cu:=U.ah Z p (.cells [.J (ad e.1) m,.v (.bool e.2)]);have G:=U.aq E k1;have j9:=G _ _ aM;have k8:=G _ _ bp;have k0:=G _ _ bw;have k9:=k1 _ _ k7;have k1:=V.mono G;have k2:=(Ext.of (l:=f) (lM:=n) x).trans (Ext.of G);have k3:s p=none:=U.bG x (U.bG E t);have V:s F=none:=U.bG x v;have x:F≠p:=by rintro rfl;rw[k7]at t;cases t
   generalize Z.set p _=G at*;subst k5;refine pb [2,3,4,5,8,10,11] (λ_:(List Int×Bool)×ay×ay×ag=> []) (λx o=>kS x.2.2.2 a x.1 x.2.1 x.2.2.1 dep=k4/\bC o f n x.2.2.2/\Ext f n s o/\(∃m,o p=some (.cells [.J (ad x.1.1) m,.v (.bool x.1.2)]))/\(∃q,o F=some (.cells q)/\jn q x.2.1 x.2.2.1)/\o B=some (.cells [.ptr f 0,.v (.int .i64 (a:Int))])/\o l=some (.cells (ab g i j k))/\o z=some (.cells (ab aA .nil .nil .nil))) ?_ ?_
   .have l6:=U.af cu;have l7:=U.af j9;refine aa ?_;simp only[a5s,a5z]at b;have g:G p=some (.cells [.J (ad e.1) m,.v (.bool e.2)]):=cu;by_cases g:e.1=c
    .rw[if_pos g]at b;refine bk (lo e.1 c m y G a9r) ?_;cases s:e.2 with
     |true=>rw[if_pos s]at b;have C:=(aX (N:= .nil) (e5:= .nil) (h5:= .nil) bl).len;have D:=cG (a:= .nil) (b:= .nil) (c:= .nil) (N:= .nil) (e5:= .nil) (h5:= .nil) bl bl;have W:=U.aJ k0;refine aa ?_;refine⟨_,U.a1,?_⟩;rw[<-b,ct,a4K (by rw[C];omega)];exact⟨k1.set d,k2.ec A,a9v,rfl⟩
     |false=>
      rw[if_neg (by rw[s];decide)]at b;refine aa ?_;refine bk (lo c c m y G a9r) ?_;have s:=U.aJ cu;refine aa ?_;have s:B≠p:=by grind
      have x:l≠p:=by grind
      have Z:z≠p:=by rintro rfl;exact absurd (E _ _ bw) (by rw[t];simp)
      refine⟨((e.1,true),X,cc,h),b,k1.set (u.cH k3),k2.ec k3,⟨m,by rw[g]⟩,⟨q,rfl,w⟩,?_,?_,?_⟩
      .rw[U.an _ _ s];exact j9
      .rw[U.an _ _ x];exact k8
      .rw[U.an _ _ Z];exact k0
    .rw[if_neg g]at b;refine bk (lo e.1 c m y G a9r) ?_;refine bk (lo e.1 c m y G a9r) ?_;obtain⟨g,p,s,l8,k7,l9⟩: ∃(g:Nat) (p:ay),g<2/\(if cO (dep%a) c e.1<0 then(0:Int)else 1)=(g:Int)/\(p.size.toNat<r/\p.sum.length=32/\p.cF)/\
       (match jm a c r h p (dep+1)with
        |(.error S,E)=>(.error S,E)
        |(.ok N,E)=>kS E a e (if g=0 then N else X) (if g=0 then cc else N) dep)=k4/\ ∃s t x,aY true 37 (q.drop (g*37))= .agg (ab p s t x):=by
      obtain⟨s,t,x,Z,k4,k5,l0,l1,_⟩:=w.ld;by_cases q:cO (dep%a) c e.1<0
      .rw[if_pos q]at b;exact⟨0,X,a9r,by rw[if_pos q];rfl,⟨a9r,w.bQ,w.pL⟩,b,s,t,x,l0⟩
      .rw[if_neg q]at b;exact⟨1,cc,a9r,by rw[if_neg q];rfl,⟨a9r,w.cw,w.lZ⟩,b,Z,k4,k5,l1⟩
     obtain⟨b,s,t,x,N⟩:=l9;obtain⟨l9,n0,n1⟩:=k7;have N:=EJ c e.1 y m f a dep a9r H a9r k6 l5 G;rw[l8]at N;have l5:=U.af k9;have l8:=w.len;refine bk N ?_;have N:(dep:Int)+1=((dep+1:Nat):Int):=rfl;rw[N];refine ai (Fx f n a M H c y k6 r G h k1 p s t x (dep+1) n0 n1 l9 a9r) ?_;rintro I y ⟨N,G,k1⟩;have y:=u.cH V;have k6:=u.cH k3;have k3:=G _ _ K.1 K.2 j9;have j9:=G _ _ L.1 L.2 k8;have j9:=G _ _ d.1 d.2 k0;have k0:=G _ _ y.1 y.2 k9;have k3:=G _ _ k6.1 k6.2 cu;have W:=U.aJ j9;have j9:=U.aJ k0;have j9:=k2.trans G;have G:F≠z:=by rintro rfl;rw[bw]at v;cases v
     have k0:=G.symm;have G:B≠F:=by rintro rfl;rw[aM]at v;cases v
     have G:l≠F:=by rintro rfl;rw[bp]at v;cases v
     have C:=(aX (N:= .nil) (e5:= .nil) (h5:= .nil) bl).all;have k0:g*37+37<=q.length:=a9r;generalize q:jm a c r h p (dep+1)=c at*;obtain⟨p0,k3⟩:=c;cases p0 with
     |error S=>
      obtain⟨r,rfl⟩:=k1
      dsimp only at b N
      have D:=cG (a:= .nil) (b:= .nil) (c:= .nil) (N:= .nil) (e5:= .nil) (h5:= .nil) bl bl;refine aa ?_;refine⟨_,U.a1,?_⟩;rw[<-b,ct,a4K (by rw[C.1];omega)];exact⟨(N.set y).set d,(j9.ec V).ec A,r,rfl⟩
     |ok k0=>
      obtain⟨q,k2,c,h,p,rfl⟩:=k1
      dsimp only at b N
      have k7:=(aX (N:=c) (e5:=h) (h5:=p) q).all;refine aa ?_;refine⟨(e,(if g=0 then k0 else X),(if g=0 then cc else k0),k3),b,N.set y,j9.ec V,⟨m,rfl⟩,_,rfl,?_⟩;obtain rfl|rfl:g=0\/g=1:=a9r
      .exact w.Fv q k2
      .exact w.Fw q k2
   .rintro⟨g,N,X,E⟩ o ⟨b,q,j9,⟨k2,m⟩,⟨e,k0,e⟩,w,k3,k1⟩ k6
    dsimp only at*
    have l6:=U.af m;have l7:=U.af w;have l5:=U.af k0;obtain⟨s,t,x,Z,k4,k5,l0,l1,m,m⟩:=e.ld;have l8:=e.len;refine aa ?_;have m:=uI o f n E q g N X k2 s t x Z k4 k5 a M H e.bQ e.cw e.pL e.lZ;refine ai m ?_;clear m;rintro I m ⟨q,e,s⟩;have o:=U.af (e _ _ K.1 K.2 w);have o:=e _ _ L.1 L.2 k3;have t:=U.aJ o;have W:=U.aJ (e _ _ d.1 d.2 k1);have y:=u.cH V;have o:=U.af (e _ _ y.1 y.2 k0);have o:l≠z:=dx;have u:=o.symm;unfold kS at b;generalize x:dv E a (cm g N X)=g at*;obtain⟨qk,t⟩:=g;have C:=(aX (N:= .nil) (e5:= .nil) (h5:= .nil) bl).all;have g:=l2;cases qk with
    |error S=>
     obtain⟨r,rfl⟩:=s
     dsimp only at b q
     have D:=cG (a:=i) (b:=j) (c:=k) (N:= .nil) (e5:= .nil) (h5:= .nil) gF bl;have g:=cG (a:= .nil) (b:= .nil) (c:= .nil) (N:= .nil) (e5:= .nil) (h5:= .nil) bl bl;refine aa ?_;refine⟨_,U.a1,?_⟩;rw[<-b];exact⟨(q.set L).set d,((j9.trans e).ec Y).ec A,r,rfl⟩
    |ok g=>
     obtain⟨o,r,c,h,p,rfl⟩:=s;obtain⟨s,y,y,y⟩:=Fu x
     dsimp only at b q
     have D:=cG (a:=i) (b:=j) (c:=k) (N:=c) (e5:=h) (h5:=p) gF o;have i:=(aX (N:=c) (e5:=h) (h5:=p) o).all;have i:0<=(2*g.size).tdiv 3/\(2*g.size).tdiv 3<=3000000:=by grind
     have G:F≠l:=by rintro rfl;rw[bp]at v;cases v
     have i:=G.symm;have i:B≠l:=a9u;have j:=i.symm;have j:=s.symm;clear s;refine aa ?_;have j:bC (m.set l (.cells (ab g c h p))) f n t:=q.set L;have q:=U.ah m l (.cells (ab g c h p));have s:(m.set l (.cells (ab g c h p))) B=some (.cells [.ptr f 0,.v (.int .i64 (a:Int))]):=by rw[U.an _ _ i];exact e _ _ K.1 K.2 w
     have i:(m.set l (.cells (ab g c h p))) z=some (.cells (ab aA .nil .nil .nil)):=by rw[U.an _ _ u];exact e _ _ d.1 d.2 k1
     have k:=(j9.trans e).ec (Y:= .cells (ab g c h p)) Y;generalize m.set l _=l at*;have e:=U.af s;have e:=U.af q;have m:=U.aJ i;refine aH (λe=> ?_) λe=> ?_
     .rw[if_pos e]at b;refine ai (Ft l f n t j g c h p o r a M H dep a9r a9r) ?_;rintro I a ⟨g,a,f⟩;obtain⟨l3,O,P,Q,S,T,rfl⟩:=f.shape;have m:=U.aJ (a _ _ d.1 d.2 i);have l4:=(aX (N:=O) (e5:=P) (h5:=Q) T).all;have D:=cG (a:= .nil) (b:= .nil) (c:= .nil) (N:=O) (e5:=P) (h5:=Q) bl T;refine aa ?_;refine⟨_,U.a1,?_⟩;rw[<-b];exact⟨g.set d,(k.trans a).ec A,f⟩
     .rw[if_neg e]at b;have D:=cG (a:= .nil) (b:= .nil) (c:= .nil) (N:=c) (e5:=h) (h5:=p) bl o;refine⟨_,U.a1,?_⟩;rw[<-b];exact⟨j.set d,k.ec A,o,r,_,_,_,rfl⟩
def Fy (o:Except Int ay) (h:R):Prop:=
 match o with
 | .error k=>k≠0/\ ∃a b c d,a.sum.length=32/\h= .aL [.agg (ab a b c d),.v (.int .i64 k)]
 | .ok a=>a.sum.length=32/\a.cF/\ ∃b c d,h= .aL [.agg (ab a b c d),.v (.int .i64 0)]
def hd.x {a:Except Int ay} (b:hd a n):Fy a n:=by
 cases a with
 |error c=>exact⟨b.1,aA,_,_,_,bl,b.2⟩
 |ok d=>exact b
def z1 (h a:U) (b c:Nat) (d:Except Int ay×ag) (k:R):Prop:=bC a b c d.2/\Ext b c h a/\Fy d.1 k
def gG (b:Nat) (h:List Int):Nat->ag->ay->Nat->Except Int ay×ag
 |0,a,_,_=>(.error 21,a)
 |p+1,a,r,dep=>if r=aA then(.error 9,a)else match kM a b r with
  |none=>(.error 21,a)
  |some (d,bJ)=>if d.1=h then(if d.2=true then dv a b (cm (d.1,false) (bJ.getD 0 aA) (bJ.getD 1 aA))else(.error 9,a))
   else if cO (dep%b) h d.1<0 then match gG b h p a (bJ.getD 0 aA) (dep+1)with
    |(.error k,c)=>(.error k,c)
    |(.ok o,c)=>dv c b (cm d o (bJ.getD 1 aA))
   else match gG b h p a (bJ.getD 1 aA) (dep+1)with
    |(.error k,c)=>(.error k,c)
    |(.ok o,c)=>dv c b (cm d (bJ.getD 0 aA) o)
set_option maxHeartbeats 1600000 in
theorem Fz (f u:Nat) (b:Nat) (O:1<=b) (H:b<=8) (c:List Int) (w:Own) (Y:c.length=b): ∀(l:Nat) (m:U) (g:ag) (_:bC m f u g) (e:ay) (n o p:Own) (dep:Nat),e.sum.length=32->e.cF->e.size.toNat<l->dep+l<=4000000->
  AC Tryz.prog 158 [dY f b,.agg (ab e n o p),.J (ad c) w,.v (.int .i64 (dep:Int))] m λI i=>z1 m i f u (gG b c l g e dep) I
 |0,m,g,v,e,n,o,p,dep,gF,j,a,d=>by omega
 |l+1,m,g,v,e,n,o,p,dep,gF,j,a,d=>by
  have a:=(aX (N:=n) (e5:=o) (h5:=p) gF).all;have a:=(gG.eq_2 b c g e dep l).symm;generalize gG b c (l+1) g e dep=X at*;refine aO hm NU ?_;refine br λE k=> ?_;refine db λF q d d=> ?_;refine hq λB C a3 a4 a5 dx=> ?_;generalize h:((m.set E _).set F _).set B _=d;have t:m.sub d:=by subst h;exact aU
  have aM:d E=some (.cells [.ptr f 0,.v (.int .i64 (b:Int))]):=by subst h;exact aU
  have bp:d F=some (.cells (ab e n o p)):=by subst h;exact aU
  have bw:d B=some (.cells (ab aA .nil .nil .nil)):=by subst h;rw[<-ct];exact aU
  clear h;have h:=U.af aM;have h:=U.af bp;have K:=v.mono t;have Z:=v.cH k;have j9:=v.cH q;have r:=v.cH C;by_cases G:e=aA
  .subst G;refine bk (nh aA n o p d gF j) ?_;have L:=U.aJ bw;have M:=cG (a:= .nil) (b:= .nil) (c:= .nil) (N:=n) (e5:=o) (h5:=p) bl gF;have x:=(aX (N:= .nil) (e5:= .nil) (h5:= .nil) bl).len;rw[if_pos rfl]at a;refine aa ?_;refine⟨_,U.a1,?_⟩;rw[<-a];exact⟨K.set r,(Ext.of t).ec C,a9v,aA,_,_,_,gF,rfl⟩
  rw[if_neg G]at a;refine bk (nh e n o p d gF j) ?_;generalize k0:bU (Ctx.of Tryz.prog) (dN.seq (dN.block 0 _) _)=h;refine ai (yo d f u g K e n o p gF j b O H) ?_;rintro I P ⟨y,k⟩;cases s:kM g b e with
  |none=>
   rw[s]at k a;obtain rfl:=k
   dsimp only at a
   refine aa ?_;refine aP λj q=> ?_;have d:j≠B:=by rintro rfl;rw[y _ _ bw]at q;cases q
   have h:=d.symm;have L:=U.aJ (y _ _ bw);subst k0;have x:=(aX (N:= .nil) (e5:= .nil) (h5:= .nil) bl).len;have M:=cG (a:= .nil) (b:= .nil) (c:= .nil) (N:= .nil) (e5:= .nil) (h5:= .nil) bl bl;refine aa ?_;refine⟨_,U.a1,?_⟩;rw[<-a,ct,a4K (by rw[x];omega)];exact⟨((K.mono y).mono (U.ae U.a1 q)).set r,(((Ext.of t).trans (Ext.of y)).trans (Ext.of (U.ae U.a1 q))).ec C,a9v,aA,_,_,_,bl,rfl⟩
  |some h=>
   obtain⟨d,z⟩:=h;rw[s]at k a;obtain⟨h,z,rfl,z,z,A,Q⟩:=k;obtain⟨N,cc,rfl,k,k,k,k,k5,k⟩:=v8 s;obtain⟨D,k,k,rfl,z,k1,s⟩:=jn.of A Q;refine aa ?_;refine aP λj q=> ?_;refine aa ?_;have T:=U.ae (Y:= .cells [.J (ad d.1) h,.v (.bool d.2)]) (U.a1 (f:=P)) q;have cu:=U.ah P j (.cells [.J (ad d.1) h,.v (.bool d.2)]);have A:=U.aq y T;have Q:=A _ _ aM;have k2:=A _ _ bp;have S:=A _ _ bw;have k3:=T _ _ k1;have T:=K.mono A;have K:=(Ext.of (l:=f) (lM:=u) t).trans (Ext.of A);have V:m j=none:=U.bG t (U.bG y q);have W:m D=none:=U.bG t z;have t:D≠j:=by rintro rfl;rw[k1]at q;cases q
   generalize P.set j _=A at*;subst k0;refine pb [2,3,4,5,8,10,11] (λ_:(List Int×Bool)×ay×ay×ag=> []) (λt i=>dv t.2.2.2 b (cm t.1 t.2.1 t.2.2.1)=X/\bC i f u t.2.2.2/\Ext f u m i/\(∃h,i j=some (.cells [.J (ad t.1.1) h,.v (.bool t.1.2)]))/\(∃k,i D=some (.cells k)/\jn k t.2.1 t.2.2.1)/\i E=some (.cells [.ptr f 0,.v (.int .i64 (b:Int))])/\i F=some (.cells (ab e n o p))/\i B=some (.cells (ab aA .nil .nil .nil))) ?_ ?_
   .have k6:=U.af cu;have k7:=U.af Q;refine aa ?_;simp only[a5s,a5z]at a;have e:A j=some (.cells [.J (ad d.1) h,.v (.bool d.2)]):=cu;by_cases e:d.1=c
    .rw[if_pos e]at a;refine bk (lo d.1 c h w A a9r) ?_;cases m:d.2 with
     |false=>rw[if_neg (by rw[m];decide)]at a;have x:=(aX (N:= .nil) (e5:= .nil) (h5:= .nil) bl).len;have M:=cG (a:= .nil) (b:= .nil) (c:= .nil) (N:= .nil) (e5:= .nil) (h5:= .nil) bl bl;have L:=U.aJ S;refine aa ?_;refine⟨_,U.a1,?_⟩;rw[<-a,ct,a4K (by rw[x];omega)];exact⟨T.set r,K.ec C,a9v,aA,_,_,_,bl,rfl⟩
     |true=>
      rw[if_pos m]at a;refine aa ?_;refine bk (lo c c h w A a9r) ?_;have m:=U.aJ cu;refine aa ?_;have m:E≠j:=by grind
      have n:F≠j:=by grind
      have o:B≠j:=by rintro rfl;exact absurd (y _ _ bw) (by rw[q];simp)
      refine⟨((d.1,false),N,cc,g),a,T.set (v.cH V),K.ec V,⟨h,by rw[e]⟩,⟨k,rfl,s⟩,?_,?_,?_⟩
      .rw[U.an _ _ m];exact Q
      .rw[U.an _ _ n];exact k2
      .rw[U.an _ _ o];exact S
    .rw[if_neg e]at a;refine bk (lo d.1 c h w A a9r) ?_;refine bk (lo d.1 c h w A a9r) ?_;obtain⟨e,j,m,t,k0,p⟩: ∃(e:Nat) (j:ay),e<2/\(if cO (dep%b) c d.1<0 then(0:Int)else 1)=(e:Int)/\(j.size.toNat<l/\j.sum.length=32/\j.cF)/\
       (match gG b c l g j (dep+1)with
        |(.error y,q)=>(.error y,q)
        |(.ok G,q)=>dv q b (cm d (if e=0 then G else N) (if e=0 then cc else G)))=X/\ ∃m n o,aY true 37 (k.drop (e*37))= .agg (ab j m n o):=by
      obtain⟨m,n,o,G,P,X,k1,k4,_⟩:=s.ld;by_cases k:cO (dep%b) c d.1<0
      .rw[if_pos k]at a;exact⟨0,N,a9r,by rw[if_pos k];rfl,⟨a9r,s.bQ,s.pL⟩,a,m,n,o,k1⟩
      .rw[if_neg k]at a;exact⟨1,cc,a9r,by rw[if_neg k];rfl,⟨a9r,s.cw,s.lZ⟩,a,G,P,X,k4⟩
     obtain⟨a,m,n,o,k8⟩:=p;obtain⟨k8,k9,l0⟩:=k0;have p:=EJ c d.1 w h f b dep a9r H a9r Y k5 A;rw[t]at p;have k5:=U.af k3;have l1:=s.len;refine bk p ?_;have p:(dep:Int)+1=((dep+1:Nat):Int):=rfl;rw[p];refine ai (Fz f u b O H c w Y l A g T j m n o (dep+1) k9 l0 k8 a9r) ?_;rintro I p ⟨t,p,A⟩;have w:=v.cH W;have T:=v.cH V;have v:=p _ _ Z.1 Z.2 Q;have v:=p _ _ j9.1 j9.2 k2;have v:=p _ _ r.1 r.2 S;have Q:=p _ _ w.1 w.2 k3;have S:=p _ _ T.1 T.2 cu;have L:=U.aJ v;have v:=U.aJ Q;have v:=K.trans p;have p:D≠B:=by rintro rfl;rw[bw]at z;cases z
     have B:=p.symm;have p:E≠D:=by rintro rfl;rw[aM]at z;cases z
     have p:F≠D:=by rintro rfl;rw[bp]at z;cases z
     have x:=(aX (N:= .nil) (e5:= .nil) (h5:= .nil) bl).all;have p:e*37+37<=k.length:=a9r;generalize k:gG b c l g j (dep+1)=c at*;obtain⟨p0,k⟩:=c;cases p0 with
     |error y=>
      obtain⟨c,g,g,j,l,p,rfl⟩:=A
      dsimp only at a t
      have M:=cG (a:= .nil) (b:= .nil) (c:= .nil) (N:= .nil) (e5:= .nil) (h5:= .nil) bl bl;have z:=(aX (N:=g) (e5:=j) (h5:=l) p).all;refine aa ?_;refine⟨_,U.a1,?_⟩;rw[<-a,ct,a4K (by rw[x.1];omega)];exact⟨(t.set w).set r,(v.ec W).ec C,c,aA,_,_,_,bl,rfl⟩
     |ok g=>
      obtain⟨c,j,l,p,z,rfl⟩:=A
      dsimp only at a t
      have k0:=(aX (N:=l) (e5:=p) (h5:=z) c).all;refine aa ?_;refine⟨(d,(if e=0 then g else N),(if e=0 then cc else g),k),a,t.set w,v.ec W,⟨h,rfl⟩,_,rfl,?_⟩;obtain rfl|rfl:e=0\/e=1:=a9r
      .exact s.Fv c j
      .exact s.Fw c j
   .rintro⟨d,e,g,q⟩ i ⟨h,j,k,⟨l,c⟩,⟨a,p,a⟩,s,t,t⟩ v
    dsimp only at*
    have k6:=U.af c;have k7:=U.af s;have k5:=U.af p;obtain⟨m,n,o,G,P,X,k1,k4,c,c⟩:=a.ld;have l1:=a.len;refine aa ?_;have c:=uI i f u q j d e g l m n o G P X b O H a.bQ a.cw a.pL a.lZ;refine ai c ?_;clear c;rintro I a ⟨g,a,b⟩;have L:=U.aJ (a _ _ r.1 r.2 t);obtain⟨c,c,d,e,y,f,rfl⟩:=b.shape;have i:=(aX (N:=c) (e5:=d) (h5:=e) f).all;have x:=(aX (N:= .nil) (e5:= .nil) (h5:= .nil) bl).len;have M:=cG (a:= .nil) (b:= .nil) (c:= .nil) (N:=c) (e5:=d) (h5:=e) bl f;refine aa ?_;refine⟨_,U.a1,?_⟩;rw[<-h];exact⟨g.set r,(k.trans a).ec C,b.x⟩
end Go.Proofs.YtlgnfcaolejgeaaGreat
