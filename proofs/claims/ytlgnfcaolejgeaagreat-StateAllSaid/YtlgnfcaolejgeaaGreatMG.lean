import Derived.Test.YtlgnfcaolejgeaaGreatMF
import Derived.Test.YtlgnfcaolejgeaaGreatMD
import Derived.Test.YtlgnfcaolejgeaaGreatMC
import Derived.Test.YtlgnfcaolejgeaaGreatMB
set_option linter.all false
set_option maxRecDepth 100000
namespace Go.Proofs.YtlgnfcaolejgeaaGreat
open Go Go.bA
variable{f t e7:U}{e i v M c0 j0:Nat}
def uO {a:UInt8}:bM (f.set e (.cells (flat [.v (.int .u8 (a.toNat:Int))]))) 1 (.al e 1 1 1)=some ([a].length,[a].map ak):=by simp[bM,U.af (U.ah _ _ _),flat,R.cells,ak]
variable{g A e1:List R}{B:List UInt8}
theorem a0j (a:g.take B.length=B.map ak) (b:e<B.length):aY false 1 (g.drop e)= .v (.int .u8 (B.getD e 0).toNat):=by grind[ak,List.take_append_drop,List.drop_eq_getElem_cons,aY,List.getD]
def a0k (a:UInt32):bn .rem (.int .u32 (a.toNat:Int)) (.int .u32 256)=some (.int .u32 ((a.toNat%256:Nat):Int)):=by have b:bn .rem (.int .u32 (a.toNat:Int)) (.int .u32 256)=(if(256:Int)=0 then none else some (.int .u32 ((a.toNat:Int).tmod 256))):=rfl;rw[b,if_neg a9t];rfl
variable{n b3:R}
theorem yC {v:List UInt8} (d:ar f t 1 (v.map ak) n) (h:v≠ []): ∃a b c,n= .al a v.length b 1/\f a=none/\t a=some (.cells c)/\c.length=b/\c.take v.length=v.map ak/\v.length<=b:=by
 obtain⟨_,d|⟨a,k,b,c,rfl,o,p,r,x,y,z,C⟩⟩:=d
 .exact absurd (by simpa using d.1) h
 grind
theorem a0l (G:List UInt32) (k1:G=gp) (a:List UInt8) (a38:a.length<=1000000000) (W:R) (V:Nat) (y:U) (n5:bM y 1 W=some (a.length,a.map ak)) (n9:ff W=some (.v (.int .i64 a.length))) (a00:y V=some (.cells (wl mW))):
  AC Tryz.prog 190 [W,.al V 64 64 1] y λa01 E=>E=y/\a01=cL (fk a):=by
 refine bf hm OU a9q ?_;refine ax (c2 @ba @bb) ?_;refine aP λF m=> ?_;have a02:=yA (U.ae (U.a1 (f:=y)) m) n5 (t:=y.set F (.cells (List.replicate 32 (.v (.int .u8 0)))));have a03:=U.ae (U.a1 (f:=y)) m (Y:= .cells (List.replicate 32 (.v (.int .u8 0)))) _ _ a00;have a04:=U.ae (U.a1 (f:=y)) m (Y:= .cells (List.replicate 32 (.v (.int .u8 0))));have a05:(y.set F (.cells (List.replicate 32 (.v (.int .u8 0))))) F=some (.cells (List.replicate 32 (.v (.int .u8 0)))):=U.ah _ _ _;refine ax (aI @nW @ba @bb) ?_;generalize y.set F (.cells (List.replicate 32 (.v (.int .u8 0))))=w at*;refine qV (c:= []) (ar.zero U.a1) a02 a9r λcg a42 A=> ?_;rw[a5b]at A;refine ax (c2 @ba @bb) ?_;refine eS (by simp[aN,R.cells]) a9q λk2 e=> ?_;refine ax (c2 @ba @bb) ?_;refine qV (A.mono (U.ae U.a1 e)) (uO (a:=128)) a9r λc9 P z=> ?_;refine ax (c2 @ba @bb) ?_;have a43:ep a.length<64:=by unfold ep;omega
 refine cu (λb E=> ∃c:Nat,c<=ep a.length/\ar w E 1 ((a++128::List.replicate c 0).map ak) (b 5)/\b 0=W/\b 1= .al V 64 64 1/\b 4= .ptr F 0)
  (λb _=>match b 5 with| .al _ S _ _=>ep a.length+a.length+1 - S| _=>0) ⟨0,a9p,?_⟩ ?_
 .refine ax (c2 @ba @bb) ?_;exact z
 .clear z A;rintro b P ⟨c,k3,z,x,h,d⟩;obtain⟨f,n,k4,p,k5,B,k6,H,k7⟩:=yC z a9q;have I:(a++128::List.replicate c 0).length=a.length+1+c:=a9r;rw[I]at p;by_cases L:c<ep a.length
  .have q: ¬(Int.tmod ((a.length+1+c:Nat):Int) 64=56):=by have:Int.tmod ((a.length+1+c:Nat):Int) 64=(((a.length+1+c)%64:Nat):Int):=rfl;rw[this];unfold ep at L;omega
   refine ax (cc @x @h @d @p @q @ba @bb) ?_;refine eS (by simp[aN,R.cells]) a9q λk2 e=> ?_;refine ax (cc @x @h @d @p @q @ba @bb) ?_;rw[<-p];refine qV (z.mono (U.ae U.a1 e)) (uO (a:=0)) a9r λcW k8 K=> ?_;refine ax (bC @x @h @d @p @ba @bb) ?_;have M:a++128::List.replicate c 0++ [0]=a++128::List.replicate (c+1) 0:=by rw[a9a];simp
   rw[M]at K;obtain⟨a47,a48,a52,rfl,_⟩:=yC K a9q;grind
  .obtain rfl:c=ep a.length:=a9p;have q:(Int.tmod ((a.length+1+ep a.length:Nat):Int) 64=56):=by have:Int.tmod ((a.length+1+ep a.length:Nat):Int) 64=(((a.length+1+ep a.length)%64:Nat):Int):=rfl;rw[this];unfold ep;omega
   have a06:IntKind.u64.wrap (8*IntKind.u64.wrap (a.length:Int))=((8*a.length:Nat):Int):=by rw[kx,kx];omega
   rw[<-I]at p;refine ax (ct @x @h @d @p @I @q @n9 @a06 @ba @bb) ?_;rw[<-p]at*;refine cu (λb E=> ∃c:Nat,c<=8/\ar w E 1 ((a++128::List.replicate (ep a.length) 0++(cJ (8*a.length)).take c).map ak) (b 5)/\b 0=W/\b 1= .al V 64 64 1/\b 4= .ptr F 0/\b 6= .v (.int .u64 ((8*a.length:Nat):Int))/\b 7= .v (.int .i64 c))
    (λb _=>match b 7 with| .v (.int _ S)=>(8 - S).toNat| _=>0) ⟨0,a9p,?_⟩ ?_
   .refine ax (bo @x @h @d @ba @bb) ?_;simp_all
   .clear k5 B k6 H k7 x h d p z;rintro b P ⟨c,k3,z,x,h,d,g,i⟩;have a56:=EX (8*a.length) c;by_cases L:(c:Int)<8
    .have a07:IntKind.u64.wrap (56 - 8*(c:Int))=((56 - 8*c:Nat):Int):=by rw[kx];omega
     have k9:=yk ((8*a.length)>>>(56 - 8*c)) 256 a9p;have a08:((256:Nat):Int)=256:=rfl;rw[a08]at k9;refine ax (iy @x @h @d @g @i @L @a07 @k9 @ix @ba @bb) ?_;refine eS (by simp[aN,R.cells]) a9q λk2 e=> ?_;refine ax (cc @x @h @d @g @i @ba @bb) ?_;refine qV (z.mono (U.ae U.a1 e)) uO (by simp[cJ];omega) λcW k8 K=> ?_;refine ax (cc @x @h @d @g @i @ba @bb) ?_;grind
    .obtain rfl:c=8:=a9p;have a09:(cJ (8*a.length)).take 8=cJ (8*a.length):=rfl;rw[a09]at z;refine ax (bu @x @h @d @g @i @L @ba @bb) ?_;refine eS (by simp[aN,R.cells]) a9q λs l0=> ?_;have l1:flat [R.v (Value.int IntKind.u32 1779033703),R.v (Value.int IntKind.u32 3144134277),R.v (Value.int IntKind.u32 1013904242),R.v (Value.int IntKind.u32 2773480762),R.v (Value.int IntKind.u32 1359893119),R.v (Value.int IntKind.u32 2600822924),R.v (Value.int IntKind.u32 528734635),R.v (Value.int IntKind.u32 1541459225)]=wl gp:=rfl;rw[l1];have a57:=yB a;have a61:=a0g a;have l2:ar w P 1 ((kM a).map ak) (b 5):=z;obtain⟨f,n,k4,p,k5,B,k6,H,k7⟩:=yC l2 (by grind);have N:=z.1;have O:=a0h a;have l3:ar P (P.set s (.cells (wl gp))) 1 (wl gp) (.al s 8 8 1):=⟨U.ae U.a1 l0,.inr ⟨s,8,8,_,rfl,l0,U.ah _ _ _,rfl,rfl,rfl,a9p,a9t⟩⟩;have l4:gp.length=8:=rfl;generalize P.set s (.cells (wl gp))=k8 at*;rw[<-k1]at l3 O l4;clear k1 l1;generalize a10:kM a=r at*;clear z l2 a10;refine ax (bC @x @h @d @p @ba @bb) ?_;refine cu (λb E=> ∃k:Nat,k<=r.length/64/\ar P E 1 (wl (blocks k G r)) (b 8)/\b 1= .al V 64 64 1/\b 4= .ptr F 0/\b 5= .al f r.length n 1/\b 9= .v (.int .i64 ((64*k:Nat):Int)))
      (λb _=>match b 9 with| .v (.int _ S)=>(r.length - S).toNat| _=>0) ⟨0,a9p,?_⟩ ?_
     .refine ax (bo @h @d @p @ba @bb) ?_;exact l3
     .clear x h d p g i;rintro b Q ⟨k,a62,X,h,d,p,j⟩;have T:(blocks k G r).length=8:=pe _ _ _ l4;obtain⟨Y,l5,Z,C,a63,t,a65,a68⟩:=EW X (by intro M;rw[M]at T;cases T);rw[T]at C;have l:=X.1;by_cases L:k<r.length/64
      .have j9:((64*k:Nat):Int)<(r.length:Int):=a9p;have a11:dN 1 (.al f r.length n 1) (some (.v (.int .i64 ((64*k:Nat):Int)))) (some (.v (.int .i64 (((64*k:Nat):Int)+64))))=some (.bw f (64*k) 64 (n - 64*k) 1):=by have l6:(((64*k:Nat):Int)+64).toNat=64*k+64:=a9p;simp only[dN,cz,intOf,q8];grind
       refine ax (dr @h @d @p @C @j @j9 @a11 @ba @bb) ?_;have a13:=u3 k G r;refine ai (a0f (blocks k G r) ((r.drop (64*k)).take 64) T Y l5 Z f (64*k) k4 V Q t (l _ _ B) a9p ?_ (l _ _ (N _ _ a03))) ?_
       .intro c k3;rw[a0j H a9p];simp_all
       rintro gR a69 l7;refine ax (cc @h @d @p @C @j @ba @bb) ?_;rw[<-a13]at l7;exact⟨⟨k+1,a9p,l7.base l,a9r⟩,a9p⟩
      .have j9: ¬((64*k:Nat):Int)<(r.length:Int):=a9p;obtain rfl:k=r.length/64:=a9p;refine ax (bu @h @d @p @C @j @j9 @ba @bb) ?_;refine aP λu k0=> ?_;have l8:Y≠u:=by rintro rfl;rw[k0]at t;cases t
       have v:=l _ _ (N _ _ a05);have l9:F≠u:=by rintro rfl;rw[k0]at v;cases v
       have a14:=a0i (blocks (r.length/64) G r) T;have a15:(er (blocks (r.length/64) G r)).length=32:=by rw[u6,T]
       rw[O];clear O X;generalize blocks (r.length/64) G r=D at*;have a16:(wl D++Z).length=8+Z.length:=by rw[uN,T]
       refine ax (cc @h @d @p @C @j @ba @bb) ?_;refine cu (λb E=> ∃o:Nat,o<=32/\E=Q.set u (.cells (hS ((er D).take o)))/\b 8= .al Y 8 l5 1/\b 10= .ptr u 0/\b 4= .ptr F 0/\b 11= .v (.int .i64 o))
        (λb _=>match b 11 with| .v (.int _ S)=>(32 - S).toNat| _=>0) ⟨0,a9p,?_⟩ ?_
       .refine ax (aM @d @C @ba @bb) ?_;rfl
       .clear h d p C j;rintro b _ ⟨o,a71,rfl,C,n0,d,n1⟩;have a18:((er D).take o).length=o:=a9r;have n2:(hS ((er D).take o)).length=32:=u5 a9p;by_cases L:(o:Int)<32
        .have l6:IntKind.i64.wrap ((o:Int).tdiv 4)=((o/4:Nat):Int):=by have:(o:Int).tdiv 4=((o/4:Nat):Int):=rfl;rw[this,wrap_i64 a9p a9p]
         have a19:(o:Int).tmod 4=((o%4:Nat):Int):=rfl;have a27:IntKind.u64.wrap (24 - 8*((o%4:Nat):Int))=((24 - 8*(o%4):Nat):Int):=by rw[kx];omega
         have a29:o/4<8:=a9p;have a30:((o/4:Nat):Int)<((8:Nat):Int):=a9p;refine ax (o0 @C @n0 @d @n1 @L @l6 @a19 @a27 @a30 @a29 @a16 @n2 (U.af t) @l8 (a4Q l8) @mm @a0k @ix @ba @bb) ?_;rw[xe _ a18.symm a9p,a14 o a9p];grind
        .obtain rfl:o=32:=a9p;refine ax (jc @C @n0 @d @n1 @L @n2 @l9 (a4Q l9) (U.af v) (U.aJ v) @ba @bb) ?_;have a34:(er D).take 32=er D:=a4I a9p;have a36:hS (er D)=(er D).map ak:=by simp[hS,a15]
         have n3:((er D).map ak).take 32=(er D).map ak:=a4I a9r;rw[a34,a36,n3,n3];refine⟨y,?_,rfl,rfl⟩;have n4:y.sub Q:=U.aq a04 (U.aq N l);exact U.ae (U.ae n4 (U.bF n4 k0)) m
def a0m (a:List UInt8) (h:a.length<=1000000000) (c:R) (d:Nat) (b:U) (k:bM b 1 c=some (a.length,a.map ak)) (o:ff c=some (.v (.int .i64 a.length))) (p:b d=some (.cells (wl mW))):
  AC Tryz.prog 190 [c,.al d 64 64 1] b λr x=>x=b/\r=cL (fk a):=a0l gp rfl a h c d b k o p
def a0n (a:List UInt8) (r:a.length<=1000000000) (c:R) (b:U) (x:bM b 1 c=some (a.length,a.map ak)) (y:ff c=some (.v (.int .i64 a.length))):
  AC Tryz.prog 123 [c] b λz C=>C=b/\z=cL (fk a):=by
 refine bf hm MP a9q ?_;refine ax (c2 @ba @bb) ?_;refine aP λD d=> ?_;refine ax (c2 @ba @bb) ?_;refine ai (ZX _) ?_;rintro _ _ ⟨h,E,rfl,rfl⟩;obtain⟨k,o⟩:=U.gM E;refine ax (c2 @ba @bb) ?_;have F:b.sub ((b.set D (.cells (List.replicate 32 (.v (.int .u8 0))))).set h (.cells (wl mW))):=U.ae (U.ae U.a1 d) o;refine ai (a0m a r c h _ (yA F x) y (U.ah _ _ _)) ?_;rintro _ _ ⟨rfl,rfl⟩;have p:((fk a).map ak).length=32:=by rw[a4T,sk]
 have G:cL (fk a)= .agg ((fk a).map ak):=rfl;have L:((fk a).map ak).take 32=(fk a).map ak:=a4I a9p;rw[G];have P:putAt (List.replicate 32 (R.v (.int .u8 0))) 0 ((fk a).map ak)=(fk a).map ak:=by rw[putAt,p];simp
 refine ax (cc @p @L @P @k (a4Q k) @ba @bb) ?_;exact⟨b,U.ae (U.ae U.a1 d) o,rfl⟩
def a0o {a:UInt8} (b:f e=none):ar f (f.set e (.cells (flat [.v (.int .u8 (a.toNat:Int))]))) 1 ([a].map ak) (.al e 1 1 1):=
 ⟨U.ae U.a1 b,.inr ⟨e,1,1,_,rfl,b,U.ah _ _ _,rfl,rfl,rfl,a9p,a9t⟩⟩
theorem a0p (k:UInt8) (b:List (R×List UInt8)) (x:R) (i:Nat) (r:U) (j:ff x=some (.v (.int .i64 b.length)))
  (l: ∀o:Nat,o<b.length->cR 1 x (.v (.int .i64 o))=some (.ptr i o))
  (B: ∀o (k1:o<b.length),∃y,r i=some (.cells y)/\o<y.length/\aY false 1 (y.drop o)=b[o].1)
  (H: ∀a∈b,bM r 1 a.1=some (a.2.length,a.2.map ak)/\ff a.1=some (.v (.int .i64 a.2.length)))
  (I:(preB k (b.map (·.2))).length<=1000000):
  AC Tryz.prog 192 [.v (.int .u8 (k.toNat:Int)),x] r λK z=>ar r z 1 ((preB k (b.map (·.2))).map ak) K:=by
 refine bf hm OY a9q ?_;refine aF (c2 @ba @bb) ?_;refine eS (by simp[aN,R.cells]) a9q λM T=> ?_;refine aF (c2 @ba @bb) ?_;have m:=a0o (a:=k) T;refine cu (λc z=> ∃a C:List (R×List UInt8),b=a++C/\ar r z 1 ((preB k (a.map (·.2))).map ak) (c 5)/\c 1=x/\c 6= .v (.int .i64 a.length))
  (λc _=>match c 6 with| .v (.int _ V)=>(b.length - V).toNat| _=>0) ⟨[],b,rfl,?_⟩ ?_
 .refine aF (c2 @ba @bb) ?_;exact m
 .clear m;rintro c k2 ⟨a,C,p,W,e,D⟩;cases C with
  |nil=>
   have P:b.length=a.length:=by rw[p];simp
   rw[a5R]at p;have f: ¬(a.length:Int)<(b.length:Int):=a9p;refine aF (bC @e @D @j @f @ba @bb) ?_;rw[p];exact⟨_,U.a1,W⟩
  |cons N C=>
   obtain⟨g,d⟩:=N;have P:a.length<b.length:=by rw[p];simp
   have f:(a.length:Int)<(b.length:Int):=a9p;have O:b[a.length]=(g,d):=by subst p;simp
   obtain⟨y,n,c2,aI⟩:=B a.length P;rw[O]at aI;obtain⟨q,s⟩:=H (g,d) (by rw[p];simp);simp only at q s aI;have k3:(preB k (a.map (·.2))).length+8+d.length<=1000000:=by refine a5H ?_ I;rw[p];simp[preB,chunk,cJ];omega
   have Q:=xa k (b.map (·.2));rw[a4T]at Q;have t:a.length+1<=y.length:=a9p;have u:=W.1;simp -dsimp -implicitDefEqProofs (disch:=first|omega|assumption|(simp only[aE,Nat.reduceAdd];try omega)) only[go_sem,simprocAttr,ba,bb,e,D,j,f,l _ P,U.af (u _ _ n),t,aI,s];refine cu (λc z=> ∃h:Nat,h<=8/\ar r z 1 ((preB k (a.map (·.2))++(cJ d.length).take h).map ak) (c 5)/\c 1=x/\c 6= .v (.int .i64 a.length)/\c 7= .v (.int .u64 (d.length:Int))/\c 8= .v (.int .i64 h))
    (λc _=>match c 8 with| .v (.int _ V)=>(8 - V).toNat| _=>0) ⟨0,a9p,?_⟩ ?_
   .refine aF (aM @e @D @ba @bb) ?_;simp_all
   .clear W u;rintro k4 k5 ⟨h,k6,S,E,F,G,L⟩;have k7:=EX d.length h;by_cases v:(h:Int)<8
    .have X:IntKind.u64.wrap (56 - 8*(h:Int))=((56 - 8*h:Nat):Int):=by rw[kx];omega
     have w:=yk (d.length>>>(56 - 8*h)) 256 a9p;have Y:((256:Nat):Int)=256:=rfl;rw[Y]at w;refine aF (ct @E @F @G @L @v @X @w @ix @ba @bb) ?_;refine eS (by simp[aN,R.cells]) a9q λM T=> ?_;refine aF (bC @E @F @G @L @ba @bb) ?_;refine qV (S.mono (U.ae U.a1 T)) uO (by simp[cJ];omega) λcW Z j9=> ?_;refine aF (bC @E @F @G @L @ba @bb) ?_;grind
    .obtain rfl:h=8:=a9p;have k0:(cJ d.length).take 8=cJ d.length:=rfl;rw[k0]at S;have A:=S.1;simp -dsimp -implicitDefEqProofs (disch:=first|omega|assumption|(simp only[aE,Nat.reduceAdd];try omega)) only[go_sem,simprocAttr,ba,bb,E,F,G,L,D,v,l _ P,U.af (A _ _ n),t,aI];refine qV S (yA A q) (by simp[cJ];omega) λcW Z j9=> ?_;refine aF (cc @E @F @G @L @D @ba @bb) ?_;refine⟨⟨a++ [(g,d)],C,by simp[p],?_,a9q⟩,a9p⟩;grind[preB,cJ,chunk]
theorem a0q (h:UInt8) (b:List (R×List UInt8)) (k:Nat) (c:U) (o:c k=some (.cells (b.map (·.1))))
  (p: ∀a∈b,ar c c 1 (a.2.map ak) a.1\/(bM c 1 a.1=some (a.2.length,a.2.map ak)/\ff a.1=some (.v (.int .i64 a.2.length))))
  (r:(preB h (b.map (·.2))).length<=1000000):
  AC Tryz.prog 192 [.v (.int .u8 (h.toNat:Int)),.al k b.length b.length 1] c λx y=>ar c y 1 ((preB h (b.map (·.2))).map ak) x:=by
 refine a0p h b _ k c rfl ?_ ?_ ?_ r;grind[iZ]
 .intro C d;refine⟨_,o,by simpa using d,?_⟩;rw[a5c (by simpa using d),a8H];rfl
 .intro a z;rcases p a z with d|d
  .obtain⟨D,E,F,G⟩:=d.src;simp_all
  .exact d
def hh (a:aK):List UInt8:=hV a.name++(UInt8.ofNat a.aC.length::(a.aC.flatMap hV++(eh a.bK++eh a.cj)))
def pG (a:List aK):List UInt8:=UInt8.ofNat a.length::a.flatMap hh
structure aK.hv (t:aK):Prop where
 n:t.name.length<=16
 c:t.aC.length<=7
 cs: ∀c∈t.aC,c.length<=16
 k:t.bK.hv
 z:t.cj.hv
theorem EY {a:List (List UInt8)} (c: ∀b∈a,b.length<=16):(a.flatMap hV).length<=19*a.length:=by
 induction a with
 |nil=>simp
 |cons d a ih=>grind[List.length_append,xh,List.length_cons]
variable{e6:aK}
def yD (a:e6.hv) (b:e6.bK.sum.length=32) (c:e6.cj.sum.length=32):(hh e6).length<=1000:=by have:=EY a.cs;have:=a.n;have:=a.c;have:=sz b a.k;have:=sz c a.z;simp only[hh,a4J,xh,a4M];omega
variable{b9:List aK}
theorem a0r (b:az dD b9 g) (d: ∀h∈b9,h.hv) (a:Nat):((b9.take a).flatMap hh).length<=1000*a:=by
 induction b9 generalizing g a with
 |nil=>simp
 |cons k b9 ih=>
  cases g with
  |nil=>exact b.elim
  |cons v g=>
   obtain⟨⟨_,_,c⟩,b⟩:=b;cases a with
   |zero=>simp
   |succ a=>have:=yD (d k a9q) c.k.1 c.z.1;grind
def uP (a b:Nat) (c:U) (h:R) (k:R->U->Prop):Prop:=
 match h with
 | .ptr d off=>match c.read d with
  |some cs=>off+b*a<=cs.length/\k (.J (dK a b (cs.drop off)) .any) (c.set d (.ro cs))
  |none=>False
 | _=>False
variable{s a7:R -> U -> Prop}
def a0s {a:cC s} (b:f.read v=some g) (c:M+i*e<=g.length) (d:s (.J (dK e i (g.drop M)) .any) (f.set v (.ro g))):uP e i f (.ptr v M) (bO s a):=by simp only[uP,b];exact⟨c,d⟩
variable{K:Ctx}{j:Fr}{Z e9:Operand}
theorem a0t:G K (.kj e i Z none none true) j f s=uP e i f (aj j Z) (bO (λa b=>s a b) ()):=by grind[G,uP,df,aj,bO]
theorem yE: ∀ {rows:List (List Int×Bool)},(∀a∈rows,a.1.length<=8)->(rows.flatMap gq).length<=66*rows.length
 | [],_=>by simp
 |a::rows,b=>by
  have d:=b a a9q;have:=yE (rows:=rows) λa c=>b a (a6j _ c);grind[List.length_append,gq,List.length_cons,dy,ob]
theorem yF: ∀ {kids:List ay},(∀a∈kids,a.hv/\a.sum.length=32/\a.cE)->(kids.flatMap eh).length<=300*kids.length
 | [],_=>by simp
 |a::kids,b=>by
  obtain⟨⟨d,h,k,_,_,_,_⟩,o,_⟩:=b a a9q;have:=yF (kids:=kids) λa c=>b a (a6j _ c);grind[kA,dy,List.length_cons,ob,List.length_append,eh]
theorem a0u (p:c4) (L P:List R) (e f:Own) (g:U) (B:az dh p.rows L) (H:az bs p.kids P) (n2:p.rows.length<=5) (n3:p.kids.length<=5)
  (i: ∀r∈p.rows,r.1.length<=8) (I: ∀x∈p.kids,x.hv/\x.sum.length=32/\x.cE):
  AC Tryz.prog 178 [gP p (.J L e) (.J P f)] g λr d=>fx g d (db p) r:=by
 have n4:=B.len;have n5:=H.len;obtain⟨S,rows,kids⟩:=p
 dsimp only at*
 refine aO hm OB ?_;have n9: ∀k:Nat,IntKind.u8.wrap (k:Int)=((UInt8.ofNat k).toNat:Int):=λk=>ix k;refine aP λj Y=> ?_;refine aa ?_;generalize l:g.set j (.cells [R.v (.int .u8 (S.toNat:Int)),.J L e,.J P f])=z;have Z:g.sub z:=l▸U.ae U.a1 Y;have j9:z j=some (.cells [R.v (.int .u8 (S.toNat:Int)),.J L e,.J P f]):=l▸U.ah _ _ _;have T: ∀d,z.sub d->d.read j=some [R.v (.int .u8 (S.toNat:Int)),.J L e,.J P f]:=λd D=>U.af (D _ _ j9);clear l;have k0:=T _ U.a1;refine u0 [S,UInt8.ofNat rows.length] (λo a00 K _=> ?_);clear k0;have k1:=T _ K.sub;refine ch [0,1] (λb:Nat×R=> [(4,.v (.int .i64 b.1)),(3,b.2)]) (λb d=>b.1<=rows.length/\fx z d (S::UInt8.ofNat rows.length::(rows.take b.1).flatMap gq) b.2) (λb=>rows.length - b.1) (0,o) ⟨⟨a9p,by simpa using K⟩,aU⟩ ?_;rintro⟨a,o⟩ E ⟨m,c⟩ k2
 dsimp only at m c|-
 clear k1;have k3:=T _ c.sub;refine aa ?_;refine aH (λn=> ?_) λn=> ?_
 .obtain⟨_,V,k4,rfl⟩:=B.get (i:=a) (x:=rows.getD a ([],false)) (by simp_all);have k5:eC 2 L[a]? =some (.bV [.J (ad (rows.getD a ([],false)).1) k4,.v (.bool (rows.getD a ([],false)).2)]):=by rw[V];rfl
  have a01:(rows.getD a ([],false)).1.length<=8:=i _ (by simp_all);have q:=eT (a:=rows) (e:=a) (b:=([],false)) a9p;have M:=yE (rows:=rows.take a) λr D=>i r (a4Z D);rw[a4L]at M;generalize rows.getD a ([],false)=b at*;have N:(dy b.1).length=8*b.1.length+1:=by rw[dy,a4M,ob]
  clear V;have a02:(gq b).length=8*b.1.length+2:=by rw[gq,a4M,N]
  refine aa ?_;refine hR (ZH _ _) λF G h=> ?_;refine mV c (show fx E G [if b.2=true then(1:UInt8)else 0] F from h) λa4 k6 W _=> ?_;have O:=T _ W.sub;refine hR (uG _ _ _ a9p) λa03 s C=> ?_;refine mV W C λdw a04 k7 _=> ?_;refine⟨(a+1,dw),⟨by simp only;omega,?_⟩,⟨rfl,rfl⟩,by simp only;omega⟩;simp only[q,a5D,a5l,a7F,a5R,gq];simpa using k7
 obtain rfl:a=rows.length:=a9p;rw[a5f]at c;have M:=yE i;generalize a05:S::UInt8.ofNat rows.length::rows.flatMap gq=t at*;have a06:t.length<=400:=by grind
 refine u0 [UInt8.ofNat kids.length] (λF G h _=> ?_);refine mV c h λa3 k6 W _=> ?_;clear k3;have O:=T _ W.sub;refine ch [0,1] (λb:Nat×R=> [(5,.v (.int .i64 b.1)),(3,b.2)]) (λb d=>b.1<=kids.length/\fx z d (t++ [UInt8.ofNat kids.length]++(kids.take b.1).flatMap eh) b.2) (λb=>kids.length - b.1) (0,a3) ⟨⟨a9p,by simpa using W⟩,aU⟩ ?_;clear O;rintro⟨a,o⟩ s ⟨m,C⟩ k2
 dsimp only at m C|-
 have a07:=T _ C.sub;refine aa ?_;refine aH (λn=> ?_) λn=> ?_
 .obtain⟨_,V,k8,k9,u,v,w,rfl⟩:=H.get (i:=a) (x:=kids.getD a aA) (by simp_all);have l0:=(I (kids.getD a aA) (by simp_all)).1;have q:=eT (a:=kids) (e:=a) (b:=aA) a9p;generalize kids.getD a aA=x at*;have A:=(aX (N:=u) (e5:=v) (h5:=w) k8).all;have k5:eC 37 P[a]? =some (.bV (ab x u v w)):=by rw[V];exact iw A.1
  generalize ab x u v w=y at*;clear V;refine aa ?_;refine aP λk Q=> ?_;refine aa ?_;rw[a0t];refine aa ?_;refine a0s (U.af (U.ah _ _ _)) a9p ?_;rw[U.set_set];have l1:fx (z.set k (.ro y)) (s.set k (.ro y)) _ o:=C.new Q;have l2:=U.bF C.sub Q;have l3:=U.ae (Y:= .ro y) U.a1 l2;have l4:(z.set k (.ro y)) k=some (.ro y):=U.ah _ _ _;generalize z.set k (.ro y)=l5 at*;generalize s.set k (.ro y)=a08 at*;have a09: ∀d,l5.sub d->d.read k=some y:=λd D=>U.Uh (D _ _ l4);have X:dK 1 32 (y.drop 0)=x.sum.map ak:=by simp[dK,A.1,A.2.2.1]
  rw[X];obtain⟨a10,a11,a13⟩:=k9;obtain⟨a14,a15,a16,l6,a18,l7,a19⟩:=l0;obtain⟨l8,a27⟩:=a6M l6;obtain⟨l9,a29⟩:=a6M l7;have a30:=kA l8;have a34:=kA l9;have N: ∀r:List Int,(dy r).length=8*r.length+1:=λr=>by rw[dy,a4M,ob]
  have n0:((kids.take a).flatMap eh).length<=300*a:=by have:=yF (kids:=kids.take a) λx D=>I x (a4Z D);rw[a4L]at this;omega
  generalize a36:t++ [UInt8.ofNat kids.length]++(kids.take a).flatMap eh=n1 at*;have a38:n1.length<=3000:=by grind
  clear X n0;refine Cp l1 o4.J λo E c _=> ?_;refine hR (EO _ _ a9p) λF G h=> ?_;refine mV c h λo E c _=> ?_;refine hR (EO _ _ a9p) λF G h=> ?_;refine mV c h λo E c _=> ?_;refine hR (uG _ _ _ a9p) λF G h=> ?_;refine mV c h λo E c _=> ?_;refine hR (uG _ _ _ a9p) λF G h=> ?_;refine mV c h λo E c _=> ?_;refine hR (uG _ _ _ a9p) λF G h=> ?_;refine mV c h λo E c _=> ?_;refine⟨(a+1,o),⟨by simp only;omega,?_⟩,⟨rfl,rfl⟩,by simp only;omega⟩;have a42:=c.base l3;simp only[q,a5D,a5l,a7F,a5R];grind[eh,List.append_assoc,Int.toNat_natCast]
 obtain rfl:a=kids.length:=a9p;rw[a5f]at C;refine⟨_,U.a1,?_⟩;have:=C.base Z;grind[db,List.append_assoc]
structure kN where
 kind:UInt8
 r1:Int
 at_:List Int
abbrev kN.V (a:kN) (b:Own):R:= .agg [.v (.int .u8 (a.kind.toNat:Int)),.v (.int .i64 a.r1),.J (ad a.at_) b]
def kN.ok (a:kN) (b:Nat):Bool:=
 decide (1<=b/\b<=8)&&(if a.kind=0 then decide (a.r1=0)&&decide (a.at_.length=0)
  else if a.kind=1\/a.kind=2 then(decide (0<a.r1)||decide (a.r1=0)&&decide (a.kind=2))&&decide (a.r1<=(b:Int) - 1)&&decide (a.at_.length=0)
  else decide (a.kind=3)&&decide (a.r1=0)&&decide (1<b)&&decide (a.at_.length=b - 1))
theorem EZ (a:kN) (h:Own) (c:Nat) (d:U) (r:c<=1000000000000) (x:a.at_.length<=1000000000000):
  AC Tryz.prog 42 [a.V h,.v (.int .i64 (c:Int))] d λk o=>o=d/\k= .v (.bool (a.ok c)):=by
 obtain⟨b,y,p⟩:=a
 dsimp only at*
 have z:=bH (q:=p);have C:=iF b 0 a9p;have D:=iF b 1 a9p;have E:=iF b 2 a9p;have F:=iF b 3 a9p;refine aO hm KC ?_;refine bq λG L=> ?_
 repeat' first|refine aH (λ_=> ?_) λ_=> ?_|trivial
 all_goals grind[kN.ok,aQ,aR]
theorem uQ (b:kN) (h:Own) (c:Nat) (d:U) (r:c<=1000000000000) (x:b.at_.length<=1000000000000):
  AC Tryz.prog 128 [b.V h,.v (.int .i64 (c:Int))] d λk o=>o=d/\k= .v (.bool (b.ok c)):=by
 obtain⟨a,y,p⟩:=b
 dsimp only at*
 have z:=bH (q:=p);have C:=iF a 0 a9p;have D:=iF a 1 a9p;have E:=iF a 2 a9p;have F:=iF a 3 a9p;refine aO hm MX ?_;refine bq λG L=> ?_
 repeat' first|refine aH (λ_=> ?_) λ_=> ?_|trivial
 all_goals try first
  |(rw[kN.ok];exact aQ)
  |(refine aR ?_;simp only[kN.ok]at*;grind)
 rename_i P S T;obtain rfl:a=2:=a5G.1 (by simp_all);refine aR ?_;rw[a7v];simp[kN.ok,-List.length_eq_zero_iff]
 first
  |omega
  |grind
abbrev ik (a b:Nat):R:= .agg [.v (.int .u64 (a:Int)),.v (.int .u64 (b:Int))]
def a0v (a c b d:Nat) (h:U):AC Tryz.prog 145 [ik a c,ik b d] h λk o=>o=h/\k= .v (.bool (decide (a<b\/a=b/\c<d))):=by
 refine aO hm Nt ?_;refine bq λp r=> ?_;refine da λx y z C=> ?_
 repeat' first|refine aH (λ_=> ?_) λ_=> ?_|trivial
 all_goals exact aQ
def r2 (a c b d:Nat):Int:=if a=b/\c=d then 0 else if a<b\/a=b/\c<d then -1 else 1
theorem F0 (a b c d:Nat) (h:U):AC Tryz.prog 134 [ik a b,ik c d] h λk o=>o=h/\k= .v (.int .i64 (r2 a b c d)):=by
 have p: ∀a b:Nat,dB [(2,c5.int IntKind.u64)] [R.v (.int .u64 (a:Int)),R.v (.int .u64 (b:Int))]:=λa b=>by simp[dB,c5.tw]
 have r:peq (ik a b) (ik c d)=decide ((a:Int)=c/\(b:Int)=d):=by rw[a7v];simp[peq]
 refine aO hm N5 ?_;refine bq λx y=> ?_;refine da λz C D E=> ?_
 repeat' first|refine aH (λ_=> ?_) λ_=> ?_|trivial
 all_goals grind[r2]
abbrev hE (a:List Int) (b:Nat):Int:=a.getD b 0
def jj (c d a:List Int):Bool:=cT c d a.length&&(List.range a.length).all λb=>decide (hE c b<=hE a b)&&decide (hE a b<=hE d b)
def oC (a b c d:List Int):Bool:=cT a b a.length&&cT c d a.length
def jY (b c d h:List Int):Bool:=oC b c d h&&(List.range b.length).all λa=>decide (hE b a<=hE h a)&&decide (hE d a<=hE c a)
def a0w (c:U) (k o:Nat) (d h b:List Int) (p r x:Own) (a:Nat) (C:c.read k=some [.J (ad d) p,.J (ad h) r]) (D:c.read o=some [.J (ad b) x]) (E:a<d.length) (F:a<h.length) (G:a<b.length):
  AC Tryz.prog 217 [.v (.int .i64 (a:Int)),.ptr k 0,.ptr o 0] c λy z=>z=c/\y= .v (.bool (decide (hE d a<=hE b a)&&decide (hE b a<=hE h a))):=by
 have L:= @dO d;have P:= @dO h;have S:= @dO b;refine aO hm PE ?_
 repeat' first|refine aH (λ_=> ?_) λ_=> ?_|trivial
 all_goals exact aQ
def a0x (h:U) (b c a:List Int) (k o p:Own) (r:a.length<=1000000000000):
  AC Tryz.prog 140 [ew b c k o,.J (ad a) p] h λx y=>y=h/\x= .v (.bool (jj b c a)):=by
 have L:=bH (q:=a);refine aO hm Ni ?_;refine bq λz P=> ?_;refine da λC S D E=> ?_;refine bj (om _ b c _ _ _ r) ?_;refine aH (λd=> ?_) λd=> ?_
 .obtain⟨T,V,W,e⟩:=lo d;refine bj (xq a.length _ _ _ _ _ r a9u λF G=>a0w _ z C b c a k o p F (by simp[U.read,U.ah,U.an,D,E]) (by simp[U.read,U.ah]) a9p a9p G) ?_;refine aR ?_;rw[jj,d,a6m]
 .refine aR ?_;rw[jj,d,a7d]
def a0y (b:U) (o p:Nat) (c d h k:List Int) (r x y z:Own) (a:Nat) (E:b.read o=some [.J (ad c) r,.J (ad d) x]) (F:b.read p=some [.J (ad h) y,.J (ad k) z]) (G:a<c.length) (L:a<d.length) (P:a<h.length) (S:a<k.length):
  AC Tryz.prog 274 [.v (.int .i64 (a:Int)),.ptr o 0,.ptr p 0] b λC D=>D=b/\C= .v (.bool (decide (hE c a<=hE k a)&&decide (hE h a<=hE d a))):=by
 have T:= @dO c;have V:= @dO d;have W:= @dO h;have e:= @dO k;refine aO hm R0 ?_
 repeat' first|refine aH (λ_=> ?_) λ_=> ?_|trivial
 all_goals exact aQ
def a0z (d:U) (b c a h:List Int) (o p r x:Own) (k:b.length<=1000000000000):
  AC Tryz.prog 196 [ew b c o p,ew a h r x] d λy z=>z=d/\y= .v (.bool (oC b c a h)):=by
 have C:=bH (q:=b);refine aO hm P6 ?_;refine bq λD E=> ?_;refine da λF G L P=> ?_;refine bj (om _ b c _ _ _ k) ?_;refine aH (λa=> ?_) λa=> ?_
 .refine bj (om _ _ _ _ _ _ k) ?_;refine aR ?_;rw[oC,a,a6m]
 .refine aR ?_;rw[oC,a,a7d]
variable{q b6:List Int}
theorem yG {a b:List Int} (c:oC q b6 a b=true):b6.length=q.length/\a.length=q.length/\b.length=q.length/\1<=q.length/\q.length<=8:=by rw[oC,a4K]at c;obtain⟨d,h⟩:=c;have d:=lo d;grind[lo]
def F1 (k:U) (a b c d:List Int) (o p r x:Own) (y:a.length<=1000000000000):
  AC Tryz.prog 198 [ew a b o p,ew c d r x] k λz C=>C=k/\z= .v (.bool (jY a b c d)):=by
 have S:=bH (q:=a);refine aO hm P8 ?_;refine bq λD T=> ?_;refine da λE V F G=> ?_;refine bj (a0z _ a b c d _ _ _ _ y) ?_;refine aH (λh=> ?_) λh=> ?_
 .obtain⟨W,e,f,g⟩:=yG h;refine bj (xq a.length _ _ _ _ _ y a9u λL P=>a0y _ D E a b c d o p r x L (by simp[U.read,U.ah,U.an,F,G]) (by simp[U.read,U.ah]) P a9p a9p a9p) ?_;refine aR ?_;rw[jY,h,a6m]
 .refine aR ?_;rw[jY,h,a7d]
def gB (a b c d:List Int):List Int×List Int:=if jY a b c d=true then(List.zipWith max a c,List.zipWith min b d)else([],[])
set_option maxHeartbeats 1000000 in
theorem a0A (r:U) (a c h d:List Int) (q s t u:Own) (G:a.length<=1000000000000):
  AC Tryz.prog 131 [ew a c q s,ew h d t u] r λl8 o=> ∃x v,l8= .aL [.agg [x,v],.v (.bool (jY a c h d))]/\pq r o (gB a c h d).1 (gB a c h d).2 x v:=by
 have k3:=bH (q:=a);have w:= @dO a;have A:= @dO c;have B:= @dO h;have H:= @dO d;refine aO hm N1 ?_;refine bq λI a14=> ?_;refine da λK a15 M l9=> ?_;refine hp λL n0 n1 n2 n3 n4=> ?_;refine bj (F1 _ a c h d _ _ _ _ G) ?_;refine aH (λP=> ?_) λP=> ?_
 .rw[gB,if_neg (by simp[P])];exact⟨_,U.a1,_,_,rfl,r,ar.nil U.a1,ar.nil aU⟩
 .rw[gB,if_pos P];obtain⟨a16,a18,a19,a27,a29⟩:=yG (q:=a) (b6:=c) (a:=h) (b:=d) (by rw[jY,a4K]at P;exact P.1);generalize S:((r.set I _).set K _).set L _=T;have g:r.sub T:=by subst S;exact aU
  have N:T I=some (.cells [.J (ad a) q,.J (ad c) s]):=by subst S;exact aU
  have O:T K=some (.cells [.J (ad h) t,.J (ad d) u]):=by subst S;exact aU
  have aM:T L=some (.cells [.J [] .nil,.J [] .nil]):=by subst S;exact aU
  clear S;refine ai (uf T a c _ _ G a9p) ?_;rintro _ n5 ⟨x,v,rfl,a30,n9,a00⟩;obtain⟨y,⟨M,_⟩|⟨V,a01,Q,k4,rfl,i,k5,a02,X,W,k6,cg⟩⟩:=n9
  .exfalso;grind
  obtain⟨F,⟨M,_⟩|⟨z,a03,Y,k7,rfl,e,k8,a04,Z,f,k9,c9⟩⟩:=a00
  .exfalso;grind
  obtain rfl:a01=a.length:=by rw[k3]at W;omega
  obtain rfl:a03=a.length:=by rw[bH]at f;omega
  have l0:=F _ _ k5;simp only[a5t]at a02 a04 X Z k6 k9;obtain⟨j,rfl⟩: ∃j9,k4=ad a++j9:=⟨k4.drop a.length,by rw[<-X,a5p]⟩;obtain⟨l,rfl⟩: ∃j9,k7=ad c++j9:=⟨k7.drop a.length,by rw[<-Z,a5p]⟩;have k: ∀ {l1:U}{b k0:Nat}{m:bp},l1 b=none->l1 k0=some m->b≠k0/\k0≠b:=λG n=>⟨(by rintro rfl;rw[G]at n;cases n),(by rintro rfl;rw[G]at n;cases n)⟩;have kz:=F _ _ (y _ _ N);have l2:=F _ _ (y _ _ O);have l3:=F _ _ (y _ _ aM);obtain⟨a34,a05⟩:=k e k5;obtain⟨a36,a38⟩:=k i N;obtain⟨a42,a43⟩:=k i O;obtain⟨a06,a47⟩:=k i aM;obtain⟨a48,a52⟩:=k e (y _ _ N);obtain⟨a56,a57⟩:=k e (y _ _ O);obtain⟨a07,a61⟩:=k e (y _ _ aM);have a08:r V=none:=U.bF g i;have a09:r z=none:=U.bF (U.aq g y) e;have k1:=U.aq g (U.aq y F);clear X Z W f y F;have a62: ∀a c k2 d:Nat,(R.al a c k2 d).cells= [.al a c k2 d]:=λ_ _ _ _=>rfl;refine aa ?_;refine aP λl4 E=> ?_;obtain⟨a63,a65⟩:=k E kz;obtain⟨a68,a69⟩:=k E l2;obtain⟨a71,a73⟩:=k E l3;obtain⟨a74,a81⟩:=k E l0;obtain⟨Xw,a83⟩:=k E k8;have l5:r l4=none:=U.bF k1 E;refine aa ?_;refine ch [2,3,4,6,17] (λb:Nat=> [(18,.v (.int .i64 (b:Int)))]) (λb o=>b<=a.length/\r.sub o/\o I=some (.cells [.J (ad a) q,.J (ad c) s])/\o K=some (.cells [.J (ad h) t,.J (ad d) u])/\o L=some (.cells [.J [] .nil,.J [] .nil])/\
      o l4=some (.cells [.al V a.length Q 1,.al z a.length Y 1])/\o V=some (.cells (ad (mix C a h b)++j))/\o z=some (.cells (ad (mix D c d b)++l))) (λb=>a.length - b) 0 ⟨⟨a5o _,U.ae (U.ae k1 l5) l5,aU,aU,aU,aU,?_,?_⟩,aU⟩ ?_
  .have a10:mix C a h 0=a:=by simp[mix]
   exact aU
  .have a10:mix D c d 0=c:=by simp[mix]
   exact aU
  clear kz l2 l3 l0 k8 E k3;rintro b o ⟨a84,a11,c2,aI,aM,cc,l6,l7⟩ a86;have a88:=U.af c2;have a89:=U.af aI;have a90:=U.af cc;have n5:=U.aJ l6;have a92:=U.aJ l7;clear M l9 n1 n2 n3 n4 k1 g;by_cases a94:b<a.length
  .have k2:(b:Int)<(a.length:Int):=a9p;have a95:=w (b:=b) a9p;have a96:=A (b:=b) a9p;have a97:=B (b:=b) a9p;have a98:=H (b:=b) a9p;clear w A B H;have a99:=uh (a:=C) (q:=a) (b6:=h) (e:=b) a9p a9p j (v:=C (a.getD b 0) (h.getD b 0)) rfl;have b00:=uh (a:=D) (q:=c) (b6:=d) (e:=b) a9p a9p l (v:=D (c.getD b 0) (d.getD b 0)) rfl;have b01:b+1<=(ad (mix C a h b)++j).length:=by rw[a4J,bH,ug a9p a9p];omega
   have b02:b+1<=(ad (mix D c d b)++l).length:=by rw[a4J,bH,ug a9p a9p];omega
   generalize a.getD b 0=b03 at*;generalize h.getD b 0=b04 at*;generalize c.getD b 0=a3 at*;generalize d.getD b 0=a4 at*;generalize ad (mix C a h b)++j=b05 at*;generalize ad (mix D c d b)++l=b06 at*;refine aa ?_;grind
  .obtain rfl:b=a.length:=a9p;clear w A B H;have W:mix C a h a.length=List.zipWith C a h:=by unfold mix;grind
   have f:mix D c d a.length=List.zipWith D c d:=by unfold mix;grind
   have b07:(ad (mix C a h a.length)).length=a.length:=by rw[W,bH,a6B];omega
   have b08:(ad (mix D c d a.length)).length=a.length:=by rw[f,bH,a6B];omega
   have b09:=U.aJ aM;have b10: ¬(a.length:Int)<a.length:=a9p;refine aa ?_;refine⟨_,U.a1,_,_,rfl,?_⟩;rw[<-W,<-f];refine⟨(o.set L (.cells [.al V a.length Q 1,.al z a.length Y 1])).del z,⟨λx m p=> ?_,.inr ⟨V,a.length,Q,_,rfl,a08,by rw[U.eI _ a05,U.an _ _ a06];exact l6,?_,?_,?_,k6,cg⟩⟩,⟨λx m p=> ?_,.inr ⟨z,a.length,Y,_,rfl,U.ir _ _,by rw[U.an _ _ a07];exact l7,?_,?_,?_,k9,c9⟩⟩⟩
   .have k:x≠z:=by rintro rfl;rw[a09]at p;cases p
    have a13:x≠L:=by rintro rfl;rw[n0]at p;cases p
    rw[U.eI _ k,U.an _ _ a13];exact a11 x m p
   .rw[a4J,bH]at*;omega
   simp_all
   .omega
   .have k:x≠z:=by rintro rfl;rw[U.ir]at p;cases p
    rw[U.eI _ k]at p;exact p
   .rw[a4J,bH]at*;omega
   simp_all
   .omega
def F2 (h:U) (a b c d:List Int) (k o p r:Own) (z:a.length<=1000000000000):
  AC Tryz.prog 131 [ew a b k o,ew c d p r] h λx y=>h.sub y/\x= .aL [ew (gB a b c d).1 (gB a b c d).2 .any .any,.v (.bool (jY a b c d))]:=
 (a0A h a b c d k o p r z).view λx y C=>by
  obtain⟨D,W,rfl,e,E,F⟩:=C;obtain⟨f,G,L⟩:=sw F;have P:=E.mono G;obtain⟨S,T,V⟩:=sw P;exact⟨_,S,View.aL (a:= []) (k:= [_]) ((View.agg (a:= [D]) (k:= []) rfl L).trans (View.agg (a:= []) (k:= [_]) rfl V)),T,rfl⟩
abbrev fS:kN:=⟨0,0,[]⟩
def r3 (a:Nat):fS.ok a=decide (1<=a/\a<=8):=by simp[kN.ok]
def nw (a:Int):Nat:=(IntKind.u64.wrap ((BitVec.ofInt 64 (IntKind.u64.wrap a)^^^BitVec.ofInt 64 9223372036854775808).toNat:Int)).toNat
def a0B (a:Int):bn .xor (.int .u64 (IntKind.u64.wrap a)) (.int .u64 9223372036854775808)=some (.int .u64 (nw a:Int)):=by have b:bn .xor (.int .u64 (IntKind.u64.wrap a)) (.int .u64 9223372036854775808)=some (.int .u64 (IntKind.u64.wrap ((BitVec.ofInt 64 (IntKind.u64.wrap a)^^^BitVec.ofInt 64 9223372036854775808).toNat:Int))):=rfl;rw[b,nw,a6o];exact Int.emod_nonneg _ a9t
def F3 (a:Int) (b:U):AC Tryz.prog 200 [.v (.int .i64 a)] b λc d=>d=b/\c=ik 0 (nw a):=by have h:=a0B a;refine aO hm Pc ?_;refine bq λk o=> ?_;rfl
def mn (b:0<q.length) (a:Own):cR 1 (.J (ad q) a) (.v (.int .i64 0))=some (.bV [.v (.int .i64 (q.getD 0 0))]):=by have:=o2 (e:=1) (g:=ad q) (N:=a) (e2:= .i64) (i:=0);rw[dO b]at this;exact this
def yH (a:List Int):R:=if 1<=a.length/\a.length<=8 then .aL [ik 0 (nw (a.getD 0 0)),.v (.int .i64 0)]else .aL [ik 0 0,.v (.int .i64 1)]
def yI (c d:Own) (a:List Int) (b:U) (k:a.length<=1000000000000):AC Tryz.prog 280 [fS.V c,.J (ad a) d] b λo p=>p=b/\o=yH a:=by
 have x:=bH (q:=a);have y:= @dO a;have h:=λb=>uQ fS c a.length b k a9q;simp only[r3]at h;refine aO hm R2 ?_;refine bq λz C=> ?_;refine da λD E F G=> ?_;refine bj (h _) ?_;rw[yH];refine aH (λr=> ?_) λr=> ?_
 .rfl
 .have L:=mn (q:=a) a9p d;refine aa ?_;refine bj (F3 _ _) ?_;rfl
def yJ (a b:Nat) (h:Int) (c d:Nat) (k:Int):Bool:=if r2 a b c d=0 then decide (h<k)else decide (r2 a b c d<0)
theorem F4 (a b c d:Nat) (h k:Int) (o:U):AC Tryz.prog 281 [ik a b,.v (.int .i64 h),ik c d,.v (.int .i64 k)] o λp r=>r=o/\p= .v (.bool (yJ a b h c d k)):=by
 refine aO hm R4 ?_;refine bq λx y=> ?_;refine da λz C D E=> ?_;refine bj (F0 _ _ _ _ _) ?_
 repeat' first|refine aH (λ_=> ?_) λ_=> ?_|trivial
 all_goals simp_all [yJ,if_pos,if_neg]
def oD (a:List Int):Prop:=1<=a.length/\a.length<=8
def yK (a:oD q):yH q= .aL [ik 0 (nw (q.getD 0 0)),.v (.int .i64 0)]:=if_pos a
def sU (a b:List Int):Bool:=yJ 0 (nw (a.getD 0 0)) (a.getD 0 0) 0 (nw (b.getD 0 0)) (b.getD 0 0)
def F5 (o c d:Own) (a b:List Int) (h:U) (k:oD a) (y:b.length=a.length):AC Tryz.prog 220 [fS.V o,.J (ad a) c,.J (ad b) d] h λp r=>r=h/\p= .v (.bool (sU a b)):=by have z:=bH (q:=a);have C:=bH (q:=b);have D:= @dO a;have E:= @dO b;have x:=id k;obtain⟨F,G⟩:=k;have L:=yK x;have P:=yK (q:=b) ⟨a9p,a9p⟩;refine aO hm PI ?_;refine bq λS T=> ?_;refine bj (yI _ _ a _ a9p) ?_;have V:=mn (q:=a) a9p c;have W:=mn (q:=b) a9p d;refine da λe f g i=> ?_;refine bj (yI _ _ b _ a9p) ?_;refine hp λj l _ _ _ _=> ?_;refine bj (F4 _ _ _ _ _ _ _) ?_;rfl
abbrev a0C:=sU
def sV (a b:List Int):Int:=if sU a b=true then -1 else if sU b a=true then 1 else 0
theorem a0D (d r x:Own) (a b:List Int) (h:U) (p:Nat) (C:h.read p=some [.v (.int .u8 0),.v (.int .i64 0),.J (ad []) d]) (k:oD a) (c:b.length=a.length):AC Tryz.prog 219 [.J (ad a) r,.J (ad b) x,.ptr p 0] h λy z=>z=h/\y= .v (.int .i64 (sV a b)):=by
 refine aO hm PG ?_;refine bj (F5 d _ _ a b _ k c) ?_;refine aH (λo=> ?_) λo=> ?_
 .rw[sV,if_pos o]
 .refine bj (F5 d _ _ b a _ ⟨by rw[c];exact k.1,by rw[c];exact k.2⟩ c.symm) ?_;refine aH (λc2=> ?_) λc2=> ?_
  .rw[sV,if_neg (by simp[o]),if_pos c2]
  simp_all [sV,if_neg]
def F6 (h c k:Own) (a b:List Int) (d:U) (o:cT a b a.length=true):AC Tryz.prog 132 [fS.V h,ew a b c k] d λp r=>r=d/\p= .aL [ik 0 (nw (a.getD 0 0)),.v (.int .i64 (a.getD 0 0)),.v (.int .i64 0)]:=by
 obtain⟨z,C,x,y⟩:=lo o;have D:=bH (q:=a);have E:fS.ok a.length=true:=by rw[r3];exact decide_eq_true ⟨x,y⟩
 have F:=mn (q:=a) a9p c;refine aO hm N3 ?_;refine bq λG L=> ?_;refine da λP S T V=> ?_;refine hp λW e f g a3 a4=> ?_;refine bj (om _ a b _ _ _ a9p) ?_;refine bj (uQ fS _ _ _ a9p a9q) ?_;refine bj (F3 _ _) ?_;refine x5 λi j l m n q s t=> ?_;rfl
def a0E (d p r h:Own) (a c b:List Int) (k:U) (o:cT a c a.length=true) (z:b.length=a.length):AC Tryz.prog 205 [fS.V d,ew a c p r,.J (ad b) h] k λx y=>y=k/\x= .v (.bool (a0C b a)):=by obtain⟨C,D,E,F⟩:=lo o;have G:=bH (q:=a);have L:=bH (q:=b);have P:=mn (q:=b) a9p h;have S:=yK (q:=b) ⟨a9p,a9p⟩;refine aO hm Pe ?_;refine bq λT V=> ?_;refine da λW e f g=> ?_;refine bj (F6 d _ _ a c _ o) ?_;refine hp λi j l m a3 a4=> ?_;refine bj (yI _ _ b _ a9p) ?_;refine x5 λn q s t u v w A=> ?_;refine bj (F4 _ _ _ _ _ _ _) ?_;rfl
def a0F (a:Nat) (k:a<=8) (b:U):AC Tryz.prog 143 [.v (.int .u64 1),.v (.int .u64 (a:Int))] b λc d=>d=b/\c= .aL [.v (.int .u64 0),.v (.int .u64 (a:Int))]:=by
 have h:AC Tryz.prog 222 [.v (.int .u64 1),.v (.int .u64 (a:Int))] b λc d=>d=b/\c= .aL [.v (.int .u64 0),.v (.int .u64 (a:Int))]:=by
  have o:bn .and (.int .u64 1) (.int .u64 4294967295)=some (.int .u64 1):=a9u;have p:bn .shr (.int .u64 1) (.int .u64 32)=some (.int .u64 0):=a9u;obtain⟨r,x⟩:bn .and (.int .u64 (a:Int)) (.int .u64 4294967295)=some (.int .u64 (a:Int))/\bn .shr (.int .u64 (a:Int)) (.int .u64 32)=some (.int .u64 0):=by
   obtain rfl|rfl|rfl|rfl|rfl|rfl|rfl|rfl|rfl:a=0\/a=1\/a=2\/a=3\/a=4\/a=5\/a=6\/a=7\/a=8:=a9p
   all_goals exact⟨a9u,a9u⟩
  have y:bn .shr (.int .u64 0) (.int .u64 32)=some (.int .u64 0):=a9u;have z:bn .and (.int .u64 0) (.int .u64 4294967295)=some (.int .u64 0):=a9u;have C:(1:Int)*(a:Int)=a:=Int.one_mul _;have D:(0:Int)*(a:Int)=0:=Int.zero_mul _;exact aO hm PK trivial
 refine aO hm Np ?_;exact bj h trivial
def a0G: ∀ {a:Nat},(List.replicate a [n]).flatten=List.replicate a n
 |0=>rfl
 |a+1=>by simp
theorem F7 (b:Nat) (z:1<=b) (C:b<=8) (d:Int) (r:Own) (h:U):AC Tryz.prog 75 [.J [.v (.int .i64 d)] r,.v (.int .i64 (b:Int))] h λD p=>ar h p 1 (ad (List.replicate b d)) D:=by
 refine aO hm Lq ?_;refine iA ?_;refine bj (a0F b C h) ?_;refine iA ?_;refine wR a9p a9p λc x=> ?_;rw[a0G];have T:kZ 1 (.al c b b 1) (.J [.v (.int .i64 d)] r) (h.set c (.cells (List.replicate b (.v (.int .i64 0)))))=some (.v (.int .i64 1),h.set c (.cells (List.replicate 1 (.v (.int .i64 d))++List.replicate (b - 1) (.v (.int .i64 0))))):=by obtain⟨o,rfl⟩: ∃o,b=o+1:=⟨b - 1,a9p⟩;simp[kZ,bM,U.ah,U.set_set,flat,R.cells,putAt,a6O]
 refine aa ?_;refine ch [7] (λa:Nat=> [(8,.v (.int .i64 (a:Int)))]) (λa p=>1<=a/\a<=b/\p=h.set c (.cells (List.replicate a (.v (.int .i64 d))++List.replicate (b - a) (.v (.int .i64 0))))) (λa=>b - a) 1 ⟨⟨a5k _,z,rfl⟩,aU⟩ ?_;rintro a _ ⟨V,E,rfl⟩ W;refine aa ?_;refine aH (λF=> ?_) λF=> ?_
 .have e:c7 1 (.al c b b 1) (some (.v (.int .i64 (a:Int)))) none none=some (.bw c a (b - a) (b - a) 1):=by simp_all [gn,a5t]
  have f:c7 1 (.al c b b 1) none (some (.v (.int .i64 (a:Int)))) none=some (.al c a b 1):=hP E;generalize y:List.replicate a (R.v (.int .i64 d))++List.replicate (b - a) (.v (.int .i64 0))=k;have G:k.length=b:=by subst y;simp;omega
  have L:bM (h.set c (.cells k)) 1 (.al c a b 1)=some (a,List.replicate a (.v (.int .i64 d))):=by have P:(h.set c (.cells k)).read c=some k:=U.af (U.ah _ _ _);simp only[bM,P,G,a5t];grind
  have S:=hn (e:=1) (v:=c) (M:=a) (i:=b - a) (j0:=b - a) L (U.ah h c (.cells k)) a9p;have o:putAt k a ((List.replicate a (R.v (.int .i64 d))).take ((b - a)*1))=List.replicate (a+min a (b - a)) (.v (.int .i64 d))++List.replicate (b -(a+min a (b - a))) (.v (.int .i64 0)):=by subst y;rw[a5t,List.take_replicate,putAt,a6F a9q,a6H,Nat.min_comm (b - a) a,<-List.replicate_append_replicate,a6k,a6H,a5v a9q,a5b,List.drop_replicate];congr 2;omega
  rw[o,U.set_set]at S;refine aa ?_;exact⟨a+min a (b - a),⟨a9p,a9p,rfl⟩,by congr 2,a9p⟩
 .obtain rfl:a=b:=a9p;refine⟨_,U.a1,U.ae U.a1 x,.inr ⟨c,a,a,_,rfl,x,U.ah _ _ _,?_,?_,?_,a5k _,by unfold maxLen;omega⟩⟩
  .simp
  .simp[ad]
  .simp[ad]
def hF:Int:= -9223372036854775808
def il:Int:=9223372036854775807
def a0H (a:Nat) (r:1<=a) (x:a<=8) (b:U):AC Tryz.prog 40 [.v (.int .i64 (a:Int))] b λC D=> ∃c d,C= .agg [c,d]/\pq b D (List.replicate a hF) (List.replicate a il) c d:=by have L: ¬(a:Int)<1:=a9p;have P: ¬8<(a:Int):=a9p;refine aO hm Ky ?_;refine bq λk o=> ?_;have S:b k=none:=o;refine X8 λT E V y=> ?_;refine hR (F7 a r x hF _ _) λc W p=> ?_;have z:=p.1 _ _ ((U.an _ _ y).trans (U.ah b k (.cells [.J [] .nil,.J [] .nil])));refine jM λe F=> ?_;refine hR (F7 a r x il _ _) λd f h=> ?_;have h:=h.base (U.ae U.a1 F);have c2:=U.aJ (h.1 _ _ z);have g:=fK p;have i:=fK h;refine aa ?_;have G:=(jP (Y:= .cells [c,d]) p ((U.an _ _ y).trans (U.ah b k (.cells [.J [] .nil,.J [] .nil])))).base (U.ae (U.ae (U.ae U.a1 o) E) o);exact⟨_,U.a1,c,d,rfl,_,G,jP h z⟩
def pH (a:Nat) (b:Bool):ao:=⟨38,5,
(.seq
(.plain (bD 10 (.fb (lT 0))::[]))
(.block 0
(.loop
(.seq
(.seq
(.plain (aB 11 10::aB 12 3::cH 13 .lss 11 12::[]))
(.cond (aG 13)
.skip
(.exit 0)))
(.seq
(.block 1
(.draw (aB 16 0::aB 17 1::aB 18 10::cH 19 .add 17 18::aB 20 0::aB 21 2::aB 22 10::cH 23 .add 21 22::aB 24 0::aB 25 2::aB 26 10::cH 27 .add 25 26::bD 28 (.dL a (aG 24) (aG 27))::bD 29 (.load b a (aG 28))::aB 30 0::aB 31 1::aB 32 10::cH 33 .add 31 32::bD 34 (.dL a (aG 30) (aG 33))::bD 35 (.load b a (aG 34))::bD 36 (.dL a (aG 16) (aG 19))::on (.store a (aG 36) (aG 29))::bD 37 (.dL a (aG 20) (aG 23))::on (.store a (aG 37) (aG 35))::[])
(bg 0::bg 1::bg 2::bg 3::bg 4::bg 5::bg 6::bg 7::bg 8::bg 9::bg 10::bg 11::bg 12::bg 13::bg 14::bg 15::bg 16::bg 17::bg 18::bg 19::bg 20::bg 21::bg 22::bg 23:: [])))
(.plain (aB 14 10::fv 15 .add 14 1::aB 10 15::[]))))))),[]⟩
def a0I:dv Tryz.prog 0 327=some (pH 41 true):=a9u
def a0J:dv Tryz.prog 0 357=some (pH 1 false):=a9u
def r4 (b:Nat) (c:Bool) (a:FuncId):ao:=⟨58,5,
(.seq
(.plain (aB 12 2::aB 13 1::cH 14 .sub 12 13::aB 10 14::[]))
(.seq
(.plain (aB 15 3::aB 16 2::cH 17 .sub 15 16::aB 11 17::[]))
(.seq
(.block 0
(.loop
(.seq
(.seq
(.plain (aB 18 10::aB 19 11::cH 20 .neq 18 19::[]))
(.cond (aG 20)
.skip
(.exit 0)))
(.block 1
(.seq
(.plain (aB 21 10::aB 22 11::cH 23 .gtr 21 22::[]))
(.cond (aG 23)
(.seq
(.plain (aB 24 0::aB 25 2::aB 26 10::cH 27 .sub 25 26::aB 28 2::aB 29 11::aB 30 4::bD 31 (.fY a [(aG 24),(aG 27),(aG 28),(aG 29),(aG 30)])::[]))
(.plain (aB 32 10::aB 33 11::cH 34 .sub 32 33::aB 10 34::[])))
(.seq
(.plain (aB 35 0::aB 36 2::aB 37 10::cH 38 .sub 36 37::aB 39 2::aB 40 11::cH 41 .add 39 40::aB 42 10::cH 43 .sub 41 42::aB 44 10::aB 45 4::bD 46 (.fY a [(aG 35),(aG 38),(aG 43),(aG 44),(aG 45)])::[]))
(.plain (aB 47 11::aB 48 10::cH 49 .sub 47 48::aB 11 49::[])))))))))
(.plain (aB 50 0::aB 51 2::aB 52 10::cH 53 .sub 51 52::aB 54 2::aB 55 10::aB 56 4::bD 57 (.fY a [(aG 50),(aG 53),(aG 54),(aG 55),(aG 56)])::[]))))),[]⟩
def a0K:dv Tryz.prog 0 279=some (r4 41 true 327):=a9u
def a0L:dv Tryz.prog 0 351=some (r4 1 false 357):=a9u
def sW (a:Nat) (b:Bool):ao:=⟨53,4,
(.seq
(.plain (aB 10 1::fv 11 .add 10 1::aB 8 11::[]))
(.block 0
(.loop
(.seq
(.seq
(.plain (aB 12 8::aB 13 2::cH 14 .lss 12 13::[]))
(.cond (aG 14)
.skip
(.exit 0)))
(.seq
(.block 1
(.seq
(.plain (aB 17 8::aB 9 17::[]))
(.block 2
(.loop
(.seq
(.seq
(.draw (aB 18 9::aB 19 1::cH 20 .gtr 18 19::aB 21 20::fe 21 true 22 (.fb (aG 3))::fe 21 true 23 (.fb (aG 0))::fe 21 true 24 (.fb (aG 9))::fe 21 true 25 (.dL a (aG 23) (aG 24))::fe 21 true 26 (.load b a (aG 25))::fe 21 true 27 (.fb (aG 0))::fe 21 true 28 (.fb (aG 9))::fe 21 true 29 (.bin .sub (aG 28) (lT 1))::fe 21 true 30 (.dL a (aG 27) (aG 29))::fe 21 true 31 (.load b a (aG 30))::fe 21 true 32 (.iR (aG 22) [(aG 26),(aG 31)])::fe 21 true 33 (.bin .lss (aG 32) (lT 0))::bD 34 (.pick (aG 21) (aG 33) qj)::[])
(bg 0::bg 1::bg 2::bg 3::bg 4::bg 5::bg 6::bg 7::bg 8::bg 9::bg 10::bg 11::bg 12::bg 13::bg 14::bg 15::bg 16:: []))
(.cond (aG 34)
.skip
(.exit 2)))
(.seq
(.block 3
(.draw (aB 37 0::aB 38 9::aB 39 0::aB 40 9::fv 41 .sub 40 1::aB 42 0::aB 43 9::fv 44 .sub 43 1::bD 45 (.dL a (aG 42) (aG 44))::bD 46 (.load b a (aG 45))::aB 47 0::aB 48 9::bD 49 (.dL a (aG 47) (aG 48))::bD 50 (.load b a (aG 49))::bD 51 (.dL a (aG 37) (aG 38))::on (.store a (aG 51) (aG 46))::bD 52 (.dL a (aG 39) (aG 41))::on (.store a (aG 52) (aG 50))::[])
(bg 0::bg 1::bg 2::bg 3::bg 4::bg 5::bg 6::bg 7::bg 8::bg 9::bg 10::bg 11::bg 12::bg 13::bg 14::bg 15::bg 16::bg 17:: [])))
(.plain (aB 35 9::fv 36 .sub 35 1::aB 9 36::[]))))))))
(.plain (aB 15 8::fv 16 .add 15 1::aB 8 16::[]))))))),[]⟩
def a0M:dv Tryz.prog 0 203=some (sW 41 true):=a9u
def a0N:dv Tryz.prog 0 259=some (sW 1 false):=a9u
def sX (a:Nat) (b:Bool) (c d:FuncId):ao:=⟨220,5,
(.seq
(.seq
(.plain (aB 25 2::aB 26 1::cH 27 .sub 25 26::fv 28 .eql 27 1::[]))
(.cond (aG 28)
(.seq
(.plain (aB 29 2::aB 10 29::[]))
(.seq
(.plain (aB 30 3::aB 11 30::[]))
(.seq
(.block 0
(.loop
(.seq
(.seq
(.plain (aB 31 10::aB 32 11::cH 33 .lss 31 32::[]))
(.cond (aG 33)
.skip
(.exit 0)))
(.block 1
(.seq
(.plain (aB 34 10::aB 35 11::cH 36 .add 34 35::bD 37 (.iQ .u64 (aG 36))::bD 38 (.bin .shr (aG 37) (.const (.int .u64 1)))::bD 39 (.iQ .i64 (aG 38))::aB 12 39::[]))
(.seq
(.draw (aB 40 4::aB 41 0::aB 42 12::bD 43 (.dL a (aG 41) (aG 42))::bD 44 (.load b a (aG 43))::aB 45 0::aB 46 1::bD 47 (.dL a (aG 45) (aG 46))::bD 48 (.load b a (aG 47))::bD 49 (.iR (aG 40) [(aG 44),(aG 48)])::fv 50 .lss 49 0::[])
(bg 0::bg 1::bg 2::bg 3::bg 4::bg 5::bg 6::bg 7::bg 8::bg 9::bg 10:: []))
(.cond (aG 50)
(.plain (aB 51 12::fv 52 .add 51 1::aB 10 52::[]))
(.plain (aB 53 12::aB 11 53::[])))))))))
(.seq
(.seq
(.plain (aB 54 1::aB 13 54::[]))
(.block 2
(.loop
(.seq
(.seq
(.plain (aB 55 13::aB 56 10::fv 57 .sub 56 1::cH 58 .lss 55 57::[]))
(.cond (aG 58)
.skip
(.exit 2)))
(.seq
(.block 3
(.draw (aB 61 0::aB 62 13::aB 63 0::aB 64 13::fv 65 .add 64 1::aB 66 0::aB 67 13::fv 68 .add 67 1::bD 69 (.dL a (aG 66) (aG 68))::bD 70 (.load b a (aG 69))::aB 71 0::aB 72 13::bD 73 (.dL a (aG 71) (aG 72))::bD 74 (.load b a (aG 73))::bD 75 (.dL a (aG 61) (aG 62))::on (.store a (aG 75) (aG 70))::bD 76 (.dL a (aG 63) (aG 65))::on (.store a (aG 76) (aG 74))::[])
(bg 0::bg 1::bg 2::bg 3::bg 4::bg 5::bg 6::bg 7::bg 8::bg 9::bg 10::bg 11::bg 12::bg 13::bg 14::bg 15::bg 16::bg 17:: [])))
(.plain (aB 59 13::fv 60 .add 59 1::aB 13 60::[])))))))
.ret))))
.skip))
(.seq
(.seq
(.plain (aB 77 3::aB 78 2::cH 79 .sub 77 78::fv 80 .eql 79 1::[]))
(.cond (aG 80)
(.seq
(.plain (aB 81 1::aB 14 81::[]))
(.seq
(.plain (aB 82 2::aB 15 82::[]))
(.seq
(.block 4
(.loop
(.seq
(.seq
(.plain (aB 83 14::aB 84 15::cH 85 .lss 83 84::[]))
(.cond (aG 85)
.skip
(.exit 4)))
(.block 5
(.seq
(.plain (aB 86 14::aB 87 15::cH 88 .add 86 87::bD 89 (.iQ .u64 (aG 88))::bD 90 (.bin .shr (aG 89) (.const (.int .u64 1)))::bD 91 (.iQ .i64 (aG 90))::aB 16 91::[]))
(.seq
(.draw (aB 92 4::aB 93 0::aB 94 2::bD 95 (.dL a (aG 93) (aG 94))::bD 96 (.load b a (aG 95))::aB 97 0::aB 98 16::bD 99 (.dL a (aG 97) (aG 98))::bD 100 (.load b a (aG 99))::bD 101 (.iR (aG 92) [(aG 96),(aG 100)])::fv 102 .lss 101 0::bD 103 (.un .not (aG 102))::[])
(bg 0::bg 1::bg 2::bg 3::bg 4::bg 5::bg 6::bg 7::bg 8::bg 9::bg 10::bg 11:: []))
(.cond (aG 103)
(.plain (aB 104 16::fv 105 .add 104 1::aB 14 105::[]))
(.plain (aB 106 16::aB 15 106::[])))))))))
(.seq
(.seq
(.plain (aB 107 2::aB 17 107::[]))
(.block 6
(.loop
(.seq
(.seq
(.plain (aB 108 17::aB 109 14::cH 110 .gtr 108 109::[]))
(.cond (aG 110)
.skip
(.exit 6)))
(.seq
(.block 7
(.draw (aB 113 0::aB 114 17::aB 115 0::aB 116 17::fv 117 .sub 116 1::aB 118 0::aB 119 17::fv 120 .sub 119 1::bD 121 (.dL a (aG 118) (aG 120))::bD 122 (.load b a (aG 121))::aB 123 0::aB 124 17::bD 125 (.dL a (aG 123) (aG 124))::bD 126 (.load b a (aG 125))::bD 127 (.dL a (aG 113) (aG 114))::on (.store a (aG 127) (aG 122))::bD 128 (.dL a (aG 115) (aG 117))::on (.store a (aG 128) (aG 126))::[])
(bg 0::bg 1::bg 2::bg 3::bg 4::bg 5::bg 6::bg 7::bg 8::bg 9::bg 10::bg 11::bg 12::bg 13::bg 14::bg 15::bg 16::bg 17:: [])))
(.plain (aB 111 17::fv 112 .sub 111 1::aB 17 112::[])))))))
.ret))))
.skip))
(.seq
(.plain (aB 129 1::aB 130 3::cH 131 .add 129 130::bD 132 (.iQ .u64 (aG 131))::bD 133 (.bin .shr (aG 132) (.const (.int .u64 1)))::bD 134 (.iQ .i64 (aG 133))::aB 18 134::[]))
(.seq
(.plain (aB 135 18::aB 136 2::cH 137 .add 135 136::aB 19 137::[]))
(.seq
(.plain (bD 20 (.fb (lT 0))::bD 21 (.fb (lT 0))::[]))
(.seq
(.seq
(.plain (aB 138 2::aB 139 18::cH 140 .gtr 138 139::[]))
(.cond (aG 140)
(.seq
(.plain (aB 141 19::aB 142 3::cH 143 .sub 141 142::aB 20 143::[]))
(.plain (aB 144 18::aB 21 144::[])))
(.seq
(.plain (aB 145 1::aB 20 145::[]))
(.plain (aB 146 2::aB 21 146::[])))))
(.seq
(.plain (aB 147 19::fv 148 .sub 147 1::aB 22 148::[]))
(.seq
(.block 8
(.loop
(.seq
(.seq
(.plain (aB 149 20::aB 150 21::cH 151 .lss 149 150::[]))
(.cond (aG 151)
.skip
(.exit 8)))
(.block 9
(.seq
(.plain (aB 152 20::aB 153 21::cH 154 .add 152 153::bD 155 (.iQ .u64 (aG 154))::bD 156 (.bin .shr (aG 155) (.const (.int .u64 1)))::bD 157 (.iQ .i64 (aG 156))::aB 23 157::[]))
(.seq
(.draw (aB 158 4::aB 159 0::aB 160 22::aB 161 23::cH 162 .sub 160 161::bD 163 (.dL a (aG 159) (aG 162))::bD 164 (.load b a (aG 163))::aB 165 0::aB 166 23::bD 167 (.dL a (aG 165) (aG 166))::bD 168 (.load b a (aG 167))::bD 169 (.iR (aG 158) [(aG 164),(aG 168)])::fv 170 .lss 169 0::bD 171 (.un .not (aG 170))::[])
(bg 0::bg 1::bg 2::bg 3::bg 4::bg 5::bg 6::bg 7::bg 8::bg 9::bg 10::bg 11::bg 12::bg 13:: []))
(.cond (aG 171)
(.plain (aB 172 23::fv 173 .add 172 1::aB 20 173::[]))
(.plain (aB 174 23::aB 21 174::[])))))))))
(.seq
(.plain (aB 175 19::aB 176 20::cH 177 .sub 175 176::aB 24 177::[]))
(.seq
(.seq
(.plain (aB 178 20::aB 179 2::cH 180 .lss 178 179::aB 181 180::fe 181 true 182 (.fb (aG 2))::fe 181 true 183 (.fb (aG 24))::fe 181 true 184 (.bin .lss (aG 182) (aG 183))::bD 185 (.pick (aG 181) (aG 184) qj)::[]))
(.cond (aG 185)
(.plain (aB 186 0::aB 187 20::aB 188 2::aB 189 24::aB 190 4::bD 191 (.fY d [(aG 186),(aG 187),(aG 188),(aG 189),(aG 190)])::[]))
.skip))
(.seq
(.seq
(.plain (aB 192 1::aB 193 20::cH 194 .lss 192 193::aB 195 194::fe 195 true 196 (.fb (aG 20))::fe 195 true 197 (.fb (aG 18))::fe 195 true 198 (.bin .lss (aG 196) (aG 197))::bD 199 (.pick (aG 195) (aG 198) qj)::[]))
(.cond (aG 199)
(.plain (aB 200 0::aB 201 1::aB 202 20::aB 203 18::aB 204 4::bD 205 (.fY c [(aG 200),(aG 201),(aG 202),(aG 203),(aG 204)])::[]))
.skip))
(.seq
(.plain (aB 206 18::aB 207 24::cH 208 .lss 206 207::aB 209 208::fe 209 true 210 (.fb (aG 24))::fe 209 true 211 (.fb (aG 3))::fe 209 true 212 (.bin .lss (aG 210) (aG 211))::bD 213 (.pick (aG 209) (aG 212) qj)::[]))
(.cond (aG 213)
(.plain (aB 214 0::aB 215 18::aB 216 24::aB 217 3::aB 218 4::bD 219 (.fY c [(aG 214),(aG 215),(aG 216),(aG 217),(aG 218)])::[]))
.skip))))))))))))),[]⟩
def a0O:dv Tryz.prog 0 204=some (sX 41 true 204 279):=a9u
def a0P:dv Tryz.prog 0 333=some (sX 1 false 333 351):=a9u
def uR (c:Nat) (d:Bool) (a b:FuncId):ao:=⟨63,3,
(.seq
(.plain (bD 6 (.fb (lT 20))::[]))
(.seq
(.plain (aB 10 6::bD 7 (.fb (lT 0))::aB 8 10::[]))
(.seq
(.block 0
(.loop
(.seq
(.seq
(.plain (aB 11 8::aB 12 1::cH 13 .leq 11 12::[]))
(.cond (aG 13)
.skip
(.exit 0)))
(.block 1
(.seq
(.plain (aB 14 0::aB 15 7::aB 16 8::aB 17 2::bD 18 (.fY a [(aG 14),(aG 15),(aG 16),(aG 17)])::[]))
(.seq
(.plain (aB 19 8::aB 7 19::[]))
(.plain (aB 20 8::aB 21 6::cH 22 .add 20 21::aB 8 22::[]))))))))
(.seq
(.plain (aB 23 0::aB 24 7::aB 25 1::aB 26 2::bD 27 (.fY a [(aG 23),(aG 24),(aG 25),(aG 26)])::[]))
(.block 2
(.loop
(.seq
(.seq
(.plain (aB 28 6::aB 29 1::cH 30 .lss 28 29::[]))
(.cond (aG 30)
.skip
(.exit 2)))
(.block 3
(.seq
(.plain (aB 31 6::bD 32 (.bin .mul (lT 2) (aG 31))::bD 7 (.fb (lT 0))::aB 8 32::[]))
(.seq
(.block 4
(.loop
(.seq
(.seq
(.plain (aB 33 8::aB 34 1::cH 35 .leq 33 34::[]))
(.cond (aG 35)
.skip
(.exit 4)))
(.block 5
(.seq
(.plain (aB 36 0::aB 37 7::aB 38 7::aB 39 6::cH 40 .add 38 39::aB 41 8::aB 42 2::bD 43 (.fY b [(aG 36),(aG 37),(aG 40),(aG 41),(aG 42)])::[]))
(.seq
(.plain (aB 44 8::aB 7 44::[]))
(.plain (aB 45 8::aB 46 6::bD 47 (.bin .mul (lT 2) (aG 46))::cH 48 .add 45 47::aB 8 48::[]))))))))
(.seq
(.seq
(.plain (aB 49 7::aB 50 6::cH 51 .add 49 50::aB 9 51::[]))
(.seq
(.plain (aB 52 9::aB 53 1::cH 54 .lss 52 53::[]))
(.cond (aG 54)
(.plain (aB 55 0::aB 56 7::aB 57 9::aB 58 1::aB 59 2::bD 60 (.fY b [(aG 55),(aG 56),(aG 57),(aG 58),(aG 59)])::[]))
.skip)))
(.plain (aB 61 6::fv 62 .mul 61 2::aB 6 62::[]))))))))))))),[]⟩
def a0Q:dv Tryz.prog 0 133=some (uR 41 true 203 204):=a9u
def a0R:dv Tryz.prog 0 292=some (uR 1 false 259 333):=a9u
structure oE (k:Nat) (a:R) (l b n:Nat):Prop where
 jk: ∀i,i<n->cR k a (.v (.int .i64 ((i:Nat):Int)))=some (.ptr l (b+i*k))
 len:ff a=some (.v (.int .i64 (n:Int)))
 cl:a.cells= [a]
def oF (b:Nat) (c:Bool) (a:R):Prop:=a.cells.length=b/\aY c b a.cells=a
def el (a:List R) (b:Nat):R:=a.getD b (.aL [])
def uS (a:List R) (b c:Nat):List R:=(a.set b (el a c)).set c (el a b)
def W (a:U) (b:Nat) (c d h:List R):U:=a.set b (.cells (c++flat h++d))
def a0S (a:e<g.length):g[e]? =some (el g e):=by simp[el,List.getD,a]
theorem jZ (a:e<g.length):el g e∈g:=a4O (a0S a)
theorem uT (a:e<g.length) (b:i<g.length):(uS g e i).Perm g:=by have c:=Array.swap_perm (xs:=g.toArray) (i:=e) (j:=i) (by simpa using a) (by simpa using b);grind[Array.perm_iff_toList_perm,uS,Array.swap,el,List.getD]
theorem yL (b: ∀a∈g,a.cells.length=i) (d:e<g.length):(A++flat g++e1).drop (A.length+e*i)=(el g e).cells++(flat (g.drop (e+1))++e1):=by
 have h:g=g.take e++el g e::g.drop (e+1):=by grind[List.take_append_drop,List.drop_eq_getElem_cons,el,List.getD]
 have k:(flat (g.take e)).length=e*i:=by rw[dg (λa c=>b a (a4Z c)),a4L,a6r a9p]
 grind[flat,el,List.append_assoc,List.drop_drop,List.drop_left]
theorem F8 (a: ∀b∈g,b.cells.length=i) (c:e<g.length) (d:n.cells.length=i):putAt (A++flat g++e1) (A.length+e*i) n.cells=A++flat (g.set e n)++e1:=by
 have y:(flat (g.take e)).length=e*i:=by rw[dg (λb h=>a b (a4Z h)),a4L,a6r a9p]
 have k:g=g.take e++el g e::g.drop (e+1):=by grind[List.take_append_drop,List.drop_eq_getElem_cons,el,List.getD]
 have z:flat g=flat (g.take e)++((el g e).cells++flat (g.drop (e+1))):=by
  conv=>lhs;rw[k]
  simp[flat]
 have o:flat (g.set e n)=flat (g.take e)++(n.cells++flat (g.drop (e+1))):=by rw[a6b,if_pos c];simp[flat]
 have p:=a _ (jZ c);have r:(A++flat g++e1).take (A.length+e*i)=A++flat (g.take e):=by grind
 have x:(A++flat g++e1).drop (A.length+e*i+n.cells.length)=flat (g.drop (e+1))++e1:=by rw[<-a5B,yL a c,d,<-p,a7e]
 rw[putAt,r,x,o];simp
structure a0T (k:Nat) (p:Bool) (d:U) (l c:Nat) (pre post es:List R) (i h:Nat) (a b:R) (cs o r:List R):Prop where
 st:eo (W d l pre post es) l=some cs
 su:dq p k (W d l pre post es) (.ptr l (c+i*k))=some a
 sv:dq p k (W d l pre post es) (.ptr l (c+h*k))=some b
 pI:a.cells.length=k
 ij:b.cells.length=k
 oi:c+i*k+k<=cs.length
 oj:c+h*k+k<=o.length
 nu:putAt cs (c+i*k) b.cells=o
 nv:putAt o (c+h*k) a.cells=r
 fin:(W d l pre post es).set l (.cells r)=W d l pre post (uS es i h)
variable{I:Bool}
theorem nx (D:0<e) (o:A.length=M) (c: ∀a∈g,oF e I a) (d:i<g.length):dq I e (W f v A e1 g) (.ptr v (M+i*e))=some (el g i):=by
 subst o;have p:=λa r=>(c a r).1;have x:=c _ (jZ d);have y:(W f v A e1 g).read v=some (A++flat g++e1):=U.af (U.ah _ _ _);have h:=yL p d (A:=A) (e1:=e1);have z:A.length+i*e+e<=(A++flat g++e1).length:=by have:=congrArg List.length h;grind[List.length_append,el,flat,List.length_drop]
 simp only[dq,y,if_pos z,h];obtain⟨k,b⟩:=x;rw[<-b]
 conv=>rhs;rw[b]
 generalize el g i=a at*;cases I
 .simp only[aY,a5Q,if_false]at b|-;cases C:a.cells with
  |nil=>rw[C]at k;simp at k;omega
  |cons E F=>simp_all
 simp_all [List.take,a4I,aY,if_true,a6h]
theorem uU (E:0<e) (o:A.length=c0) (p: ∀a∈g,oF e I a) (b:i<g.length) (c:v<g.length):
  ∃F G L,a0T e I f M c0 A e1 g i v (el g i) (el g v) F G L:=by
 have d:=λa r=>(p a r).1;have x:=d _ (jZ b);have y:=d _ (jZ c);have z: ∀a∈g.set i (el g v),a.cells.length=e:=λa r=>by
  grind
 have P:=F8 d b (A:=A) (e1:=e1) y;have S:=F8 z (e:=v) (by simpa using c) (A:=A) (e1:=e1) x;have C:=λ{i} b=>nx (I:=I) E (f:=f) (v:=M) (e1:=e1) o p (i:=i) b;have D: ∀(h:List R) (k:Nat),(∀a∈h,a.cells.length=e)->k<h.length->A.length+k*e+e<=(A++flat h++e1).length:=λh k T V=>by
  have:=congrArg List.length (yL T V (A:=A) (e1:=e1));grind[List.length_append,el,flat,List.length_drop,jZ]
 subst o;refine⟨_,_,_,?_,C b,C c,x,y,D g i d b,D _ v z (by simpa using c),P,S,?_⟩
 .simp[eo,W,U.ah]
 .simp only[W,U.set_set,uS]
variable{b4:FuncId}
section
def yM (x:dv Tryz.prog 0 b4=some (pH e I)) (y:0<e) (z:g.length=v) (h:oE e n i v e1.length) (T:e1.length<=1000000000000) (V:M+j0<=e1.length) (j:c0+j0<=e1.length) (C:R) (k:List R) (D:k.Perm e1) (E: ∀o∈e1,oF e I o):
  AC Tryz.prog b4 [n,.v (.int .i64 (M:Int)),.v (.int .i64 (c0:Int)),.v (.int .i64 (j0:Int)),C] (W f i g A k) λl p=> ∃r,r.Perm e1/\p=W f i g A r:=by
 have m:=h.cl;refine aO hm x ?_;refine ch [0,1,2,3] (λb:Nat×List R=> [(10,.v (.int .i64 (b.1:Int)))]) (λb p=>p=W f i g A b.2/\b.2.Perm e1/\b.1<=j0) (λb=>j0 - b.1) (0,k) ⟨⟨rfl,D,a9p⟩,aU⟩ ?_;rintro⟨a,d⟩ _ ⟨rfl,c,F⟩ q
 dsimp only at c F|-
 refine aa ?_;refine aH (λG=> ?_) λG=> ?_
 .have s:=c.length_eq;obtain⟨t,u,w,L⟩:=uU y (f:=f) (M:=i) (e1:=A) z (λo P=>E o (c.mem_iff.1 P)) (i:=M+a) (v:=c0+a) a9p a9p;have S:=uT (g:=d) (e:=M+a) (i:=c0+a) a9p a9p;obtain⟨B,H,K,N,O,Q,X,Y,Z,j9⟩:=L;have k0:=h.jk (M+a) a9p;have k1:=h.jk (c0+a) a9p;generalize W f i g A d=k2 at*;generalize el d (M+a)=b at*;generalize el d (c0+a)=k3 at*;have k4:(M:Int)+(a:Int)=((M+a:Nat):Int):=rfl;have k5:(c0:Int)+(a:Int)=((c0+a:Nat):Int):=rfl;refine aa ?_;exact⟨(a+1,_),⟨rfl,S.trans c,by show a+1<=j0;omega⟩,rfl,by show j0 -(a+1)<j0 - a;omega⟩
 .exact⟨_,U.a1,_,c,rfl⟩
theorem a0U {L:FuncId} (T:dv Tryz.prog 0 b4=some (r4 e I L)) (r:dv Tryz.prog 0 L=some (pH e I)) (x:0<e) (y:g.length=v) (o:oE e n i v e1.length) (z:e1.length<=1000000000000) (u:j0<M) (w:M<c0) (B:c0<=e1.length) (p:R) (C:List R) (V:C.Perm e1) (D: ∀j∈e1,oF e I j):
  AC Tryz.prog b4 [n,.v (.int .i64 (j0:Int)),.v (.int .i64 (M:Int)),.v (.int .i64 (c0:Int)),p] (W f i g A C) λE F=> ∃P,P.Perm e1/\F=W f i g A P:=by
 have H:=o.cl;have S:(M:Int) -(j0:Int)=((M - j0:Nat):Int):=a9p;have d:(c0:Int) -(M:Int)=((c0 - M:Nat):Int):=a9p;refine aO hm T ?_;refine ch [0,1,2,3,4] (λc:(Nat×Nat)×List R=> [(10,.v (.int .i64 (c.1.1:Int))),(11,.v (.int .i64 (c.1.2:Int)))]) (λc F=>F=W f i g A c.2/\c.2.Perm e1/\0<c.1.1/\0<c.1.2/\c.1.1<=M - j0/\c.1.2<=c0 - M) (λc=>c.1.1+c.1.2) ((M - j0,c0 - M),C) ⟨⟨rfl,V,by show 0<M - j0;omega,by show 0<c0 - M;omega,a5k _,a5k _⟩,aU⟩ ?_;clear S d;rintro⟨⟨a,b⟩,d⟩ _ ⟨rfl,G,l,m,q,s⟩ K
 dsimp only at*
 have S:(M:Int) -(a:Int)=((M - a:Nat):Int):=a9p;refine aa ?_;refine aH (λt=> ?_) λt=> ?_
 .refine aH (λc2=> ?_) λc2=> ?_
  .refine ai (yM r x y o z (M:=M - a) (c0:=M) (j0:=b) a9p a9p p d G D) ?_;rintro E _ ⟨h,k,rfl⟩;refine aa ?_;exact⟨((a - b,b),h),⟨rfl,k,by show 0<a - b;omega,m,by show a - b<=M - j0;omega,s⟩,⟨by grind,rfl⟩,by show a - b+b<a+b;omega⟩
  .have h:(M:Int)+(b:Int) -(a:Int)=((M+b - a:Nat):Int):=a9p;refine aa ?_;refine ai (yM r x y o z (M:=M - a) (c0:=M+b - a) (j0:=a) a9p a9p p d G D) ?_;rintro E _ ⟨h,k,rfl⟩;refine aa ?_;exact⟨((a,b - a),h),⟨rfl,k,l,by show 0<b - a;omega,q,by show b - a<=c0 - M;omega⟩,⟨rfl,by grind⟩,by show a+(b - a)<a+b;omega⟩
 .obtain rfl:a=b:=a9p;refine aa ?_;refine ai (yM r x y o z (M:=M - a) (c0:=M) (j0:=a) a9p a9p p d G D) ?_;rintro E _ ⟨h,k,rfl⟩;refine aa ?_;exact⟨_,U.a1,_,k,rfl⟩
def oG (c:U) (d:Nat) (h k a:List R) (o:FuncId) (x y:List R) (z:R->R->Int):Prop:=
 gk Tryz.prog o=true/\ ∀b,b.Perm a-> ∀p∈a,∀r∈a,AC Tryz.prog o (x++ [p,r]++y) (W c d h k b) λC D=>D=W c d h k b/\C= .v (.int .i64 (z p r))
def F9 (P:dv Tryz.prog 0 b4=some (sW e I)) (o:0<e) (p:g.length=v) (r:oE e n i v e1.length) (t:e1.length<=1000000000000) (u:M<=c0) (w:c0<=e1.length) {C:FuncId}{D E:List R}{S:R->R->Int} (F:oG f i g A e1 C D E S) (x:List R) (T:x.Perm e1) (V: ∀y∈e1,oF e I y):
  AC Tryz.prog b4 [n,.v (.int .i64 (M:Int)),.v (.int .i64 (c0:Int)),.bG C D E] (W f i g A x) λB h=> ∃G,G.Perm e1/\h=W f i g A G:=by
 have H:=r.cl;refine aO hm P ?_;refine ch [0,1,2,3] (λb:Nat×List R=> [(8,.v (.int .i64 (b.1:Int)))]) (λb h=>h=W f i g A b.2/\b.2.Perm e1/\M<b.1/\b.1<=c0+1) (λb=>c0+1 - b.1) (M+1,x) ⟨⟨rfl,T,by show M<M+1;omega,by show M+1<=c0+1;omega⟩,aa X2⟩ ?_;rintro⟨c,j⟩ _ ⟨rfl,L,K,N⟩ O
 dsimp only at*
 refine aa ?_;refine aH (λl=> ?_) λl=> ?_
 .refine ch [0,1,2,3,8] (λb:Nat×List R=> [(9,.v (.int .i64 (b.1:Int)))]) (λb h=>h=W f i g A b.2/\b.2.Perm e1/\M<=b.1/\b.1<=c) (λb=>b.1) (c,j) ⟨⟨rfl,L,by show M<=c;omega,a5k _⟩,aU⟩ ?_;rintro⟨a,k⟩ _ ⟨rfl,d,Q,X⟩ Y
  dsimp only at*
  have Z:=d.length_eq;refine aa ?_;refine aH (λm=> ?_) λm=> ?_
  .have j9:=r.jk a a9p;have k0:=r.jk (a - 1) a9p;have k1:(a:Int) - 1=((a - 1:Nat):Int):=a9p;have z:=λy q=>V y (d.mem_iff.1 q);have k2:=nx (I:=I) o (f:=f) (v:=i) (e1:=A) p z (i:=a) a9p;have k3:=nx (I:=I) o (f:=f) (v:=i) (e1:=A) p z (i:=a - 1) a9p;refine aa ?_;refine fI F.1 (F.2 k d _ (d.mem_iff.1 (jZ (e:=a) a9p)) _ (d.mem_iff.1 (jZ (e:=a - 1) a9p))) ?_;rintro _ _ ⟨rfl,rfl⟩;refine aa ?_;refine aH (λc2=> ?_) λc2=> ?_
   .obtain⟨k4,k5,k6,k7,k8,k9,l0,l1,l2,l3,l4,l5,l6⟩:=uU o (f:=f) (M:=i) (e1:=A) p z (i:=a) (v:=a - 1) a9p a9p;have s:=uT (g:=k) (e:=a) (i:=a - 1) a9p a9p;generalize W f i g A k=l7 at*;generalize el k a=b at*;generalize el k (a - 1)=l8 at*;refine aa ?_;exact⟨(a - 1,_),⟨rfl,s.trans d,by show M<=a - 1;omega,by show a - 1<=c;omega⟩,rfl,by show a - 1<a;omega⟩
   .exact⟨(c+1,_),⟨rfl,d,by show M<c+1;omega,by show c+1<=c0+1;omega⟩,rfl,a9p⟩
  .exact⟨(c+1,_),⟨rfl,d,by show M<c+1;omega,by show c+1<=c0+1;omega⟩,rfl,a9p⟩
 .exact⟨_,U.a1,_,L,rfl⟩
def uV (a b:Nat):bn .shr (.int .u64 ((a:Int)+(b:Int))) (.int .u64 1)=some (.int .u64 (((a+b)/2:Nat):Int)):=by have:=s3 (a+b) .u64 1 a9p a9p;rw[a5C]at this;exact this
theorem uW {O B k5:FuncId} (Q:dv Tryz.prog 0 O=some (sX e I O B)) (X:dv Tryz.prog 0 B=some (r4 e I k5)) (Y:dv Tryz.prog 0 k5=some (pH e I)) (P:0<e) (S:g.length=v) (F:oE e n i v e1.length) (Z:e1.length<=1000000000000) {k6:FuncId}{k7 k8:List R}{l4:R->R->Int} (V:oG f i g A e1 k6 k7 k8 l4) (j: ∀C∈e1,oF e I C): ∀(H h c k:Nat),k - h<=H->h<c->c<k->k<=e1.length-> ∀(E:List R),E.Perm e1->
  AC Tryz.prog O [n,.v (.int .i64 (h:Int)),.v (.int .i64 (c:Int)),.v (.int .i64 (k:Int)),.bG k6 k7 k8] (W f i g A E) λa08 D=> ∃k9,k9.Perm e1/\D=W f i g A k9
 |0,h,c,k,l5,l6,l7,l8,E,y=>by omega
 |H+1,h,c,k,l5,l6,l7,l8,E,y=>by
  have a09:=F.cl;refine aO hm Q ?_;refine aH (λl9=> ?_) λl9=> ?_
  .refine gO [0,1,2,3,4] (λa:Nat×Nat=> [(10,.v (.int .i64 (a.1:Int))),(11,.v (.int .i64 (a.2:Int)))]) (λa=>c<=a.1/\a.1<=a.2/\a.2<=k) (λa=>a.2 - a.1) (c,k) ⟨a5k _,by show c<=k;omega,a5k _⟩ aU ?_;rintro⟨b,d⟩ ⟨G,l,L⟩ m
   dsimp only at G l L|-
   refine aa ?_;have j9:=uV b d;have K:=y.length_eq;have q:=λC T=>j C (y.mem_iff.1 T);refine aH (λc2=> ?_) λc2=> ?_
   .have M:=F.jk ((b+d)/2) a9p;have N:=F.jk h a9p;have l0:=nx (I:=I) P (f:=f) (v:=i) (e1:=A) S q (i:=(b+d)/2) a9p;have l1:=nx (I:=I) P (f:=f) (v:=i) (e1:=A) S q (i:=h) a9p;have l2:(b+d)/2<=1000000000000:=a9p;obtain⟨s,k0⟩:b<=(b+d)/2/\(b+d)/2<d:=a9p;have w:=V.2 E y _ (y.mem_iff.1 (jZ (e:=(b+d)/2) a9p)) _ (y.mem_iff.1 (jZ (e:=h) a9p));generalize (b+d)/2=o at*;refine aa ?_;refine fI V.1 w ?_;rintro _ _ ⟨rfl,rfl⟩;refine aa ?_;refine aH (λaI=> ?_) λaI=> ?_
    .exact⟨(o+1,d),⟨by show c<=o+1;omega,by show o+1<=d;omega,L⟩,⟨rfl,rfl⟩,by show d -(o+1)<d - b;omega⟩
    .exact⟨(b,o),⟨G,s,by show o<=k;omega⟩,⟨rfl,rfl⟩,by show o - b<d - b;omega⟩
   .refine ch [0,1,2,3,4,10] (λa:Nat×List R=> [(13,.v (.int .i64 (a.1:Int)))]) (λa D=>D=W f i g A a.2/\a.2.Perm e1/\h<=a.1) (λa=>b - a.1) (h,E) ⟨⟨rfl,y,a5k _⟩,aU⟩ ?_;rintro⟨p,z⟩ _ ⟨rfl,x,k1⟩ B
    dsimp only at x k1|-
    refine aa ?_;refine aH (λaI=> ?_) λaI=> ?_
    .have K:=x.length_eq;have k2:=λC T=>j C (x.mem_iff.1 T);have M:=F.jk p a9p;have N:=F.jk (p+1) a9p;have l3:(p:Int)+1=((p+1:Nat):Int):=a9p;obtain⟨n0,n1,n2,n3,n4,n5,n9,a00,a01,a02,a03,a04,a05⟩:=uU P (f:=f) (M:=i) (e1:=A) S k2 (i:=p) (v:=p+1) a9p a9p;have k3:=uT (g:=z) (e:=p) (i:=p+1) a9p a9p;generalize W f i g A z=a06 at*;generalize el z p=a at*;generalize el z (p+1)=a07 at*;refine aa ?_;exact⟨(p+1,_),⟨rfl,k3.trans x,by show h<=p+1;omega⟩,rfl,by show b -(p+1)<b - p;omega⟩
    .exact⟨_,U.a1,_,x,rfl⟩
  .refine aH (λc2=> ?_) λc2=> ?_
   .refine gO [0,1,2,3,4] (λa:Nat×Nat=> [(14,.v (.int .i64 (a.1:Int))),(15,.v (.int .i64 (a.2:Int)))]) (λa=>h<=a.1/\a.1<=a.2/\a.2<=c) (λa=>a.2 - a.1) (h,c) ⟨a5k _,by show h<=c;omega,a5k _⟩ aU ?_;rintro⟨b,d⟩ ⟨G,l,L⟩ m
    dsimp only at G l L|-
    refine aa ?_;have j9:=uV b d;have K:=y.length_eq;have q:=λC T=>j C (y.mem_iff.1 T);refine aH (λaI=> ?_) λaI=> ?_
    .have M:=F.jk ((b+d)/2) a9p;have N:=F.jk c a9p;have l0:=nx (I:=I) P (f:=f) (v:=i) (e1:=A) S q (i:=(b+d)/2) a9p;have l1:=nx (I:=I) P (f:=f) (v:=i) (e1:=A) S q (i:=c) a9p;obtain⟨s,k0⟩:b<=(b+d)/2/\(b+d)/2<d:=a9p;have w:=V.2 E y _ (y.mem_iff.1 (jZ (e:=c) a9p)) _ (y.mem_iff.1 (jZ (e:=(b+d)/2) a9p));have l2:(b+d)/2<=1000000000000:=a9p;generalize (b+d)/2=o at*;refine aa ?_;refine fI V.1 w ?_;rintro _ _ ⟨rfl,rfl⟩;refine aa ?_;refine aH (λaI=> ?_) λaI=> ?_
     .exact⟨(o+1,d),⟨by show h<=o+1;omega,by show o+1<=d;omega,L⟩,⟨rfl,rfl⟩,by show d -(o+1)<d - b;omega⟩
     .exact⟨(b,o),⟨G,s,by show o<=c;omega⟩,⟨rfl,rfl⟩,by show o - b<d - b;omega⟩
    .refine ch [0,1,2,3,4,14] (λa:Nat×List R=> [(17,.v (.int .i64 (a.1:Int)))]) (λa D=>D=W f i g A a.2/\a.2.Perm e1/\a.1<=c) (λa=>a.1) (c,E) ⟨⟨rfl,y,a5k _⟩,aU⟩ ?_;rintro⟨p,z⟩ _ ⟨rfl,x,k1⟩ B
     dsimp only at x k1|-
     refine aa ?_;refine aH (λaM=> ?_) λaM=> ?_
     .have K:=x.length_eq;have k2:=λC T=>j C (x.mem_iff.1 T);have M:=F.jk p a9p;have N:=F.jk (p - 1) a9p;have l3:(p:Int) - 1=((p - 1:Nat):Int):=a9p;obtain⟨n0,n1,n2,n3,n4,n5,n9,a00,a01,a02,a03,a04,a05⟩:=uU P (f:=f) (M:=i) (e1:=A) S k2 (i:=p) (v:=p - 1) a9p a9p;have k3:=uT (g:=z) (e:=p) (i:=p - 1) a9p a9p;generalize W f i g A z=a06 at*;generalize el z p=a at*;generalize el z (p - 1)=a07 at*;refine aa ?_;exact⟨(p - 1,_),⟨rfl,k3.trans x,by show p - 1<=c;omega⟩,rfl,by show p - 1<p;omega⟩
     .exact⟨_,U.a1,_,x,rfl⟩
   .have j9:=uV h k;have a10:(h+k)/2<=1000000000000:=a9p;obtain⟨s,k0⟩:h<(h+k)/2/\(h+k)/2<k:=a9p;have a11:(h+k)/2 - h<=k -(h+k)/2:=a9p;have a13:k -(h+k)/2<=(h+k)/2 - h+1:=a9p;generalize (h+k)/2=r at*;refine aa ?_;refine o5 [0,1,2,3,4,18,19] (λa:Nat×Nat=> [(20,.v (.int .i64 (a.1:Int))),(21,.v (.int .i64 (a.2:Int)))]) (λa D=>D=W f i g A E/\h<=a.1/\a.1<=a.2/\r+c<=k+a.1/\a.2<=r/\a.2<=c) (λaI=> ?_) (λaI=> ?_) ?_
    .have aI:=of_decide_eq_true aI;have a14:(r:Int)+(c:Int) -(k:Int)=((r+c - k:Nat):Int):=a9p;refine aa ?_;exact⟨(r+c - k,r),⟨by show h<=r+c - k;omega,by show r+c - k<=r;omega,a9p,a5k _,by show r<=c;omega⟩,rfl,rfl⟩
    .have aI:=of_decide_eq_false aI;refine aa ?_;exact⟨(h,c),⟨a5k _,by show h<=c;omega,by show r+c<=k+h;omega,by show c<=r;omega,a5k _⟩,rfl,rfl⟩
    rintro⟨b,d⟩ _ ⟨rfl,G,l,t,L,u⟩ m
    dsimp only at G l t L u|-
    refine pa [0,1,2,3,4,18,19,20,21] (λ_:Unit=> [(22,.v (.int .i64 ((r+c - 1:Nat):Int)))]) (λ_ D=>D=W f i g A E) ?_ ?_
    .refine aa ?_;exact⟨(),by congr 2;omega⟩
    rintro _ _ rfl m;refine pa [0,1,2,3,4,18,19] (λb:Nat=> [(20,.v (.int .i64 (b:Int)))]) (λb D=>D=W f i g A E/\h<=b/\r+c<=k+b/\b<=r/\b<=c) ?_ ?_
    .refine aa ?_;refine gO [0,1,2,3,4,18,19,22] (λa:Nat×Nat=> [(20,.v (.int .i64 (a.1:Int))),(21,.v (.int .i64 (a.2:Int)))]) (λa=>h<=a.1/\a.1<=a.2/\r+c<=k+a.1/\a.2<=r/\a.2<=c) (λa=>a.2 - a.1) (b,d) ⟨G,l,t,L,u⟩ aU ?_;rintro⟨b,d⟩ ⟨G,l,t,L,u⟩ m
     dsimp only at G l t L u|-
     have j9:=uV b d;have K:=y.length_eq;have q:=λC T=>j C (y.mem_iff.1 T);refine aa ?_;refine aH (λaM=> ?_) λaM=> ?_
     .obtain⟨s,k0⟩:b<=(b+d)/2/\(b+d)/2<d:=a9p;have l2:(b+d)/2<=1000000000000:=a9p;generalize (b+d)/2=o at*;have l3:((r+c - 1:Nat):Int) -(o:Int)=((r+c - 1 - o:Nat):Int):=a9p;have M:=F.jk o a9p;have N:=F.jk (r+c - 1 - o) a9p;have l0:=nx (I:=I) P (f:=f) (v:=i) (e1:=A) S q (i:=o) a9p;have l1:=nx (I:=I) P (f:=f) (v:=i) (e1:=A) S q (i:=r+c - 1 - o) a9p;have w:=V.2 E y _ (y.mem_iff.1 (jZ (e:=r+c - 1 - o) a9p)) _ (y.mem_iff.1 (jZ (e:=o) a9p));refine aa ?_;refine fI V.1 w ?_;rintro _ _ ⟨rfl,rfl⟩;refine aa ?_;refine aH (λbo=> ?_) λbo=> ?_
      .exact⟨(o+1,d),⟨by show h<=o+1;omega,by show o+1<=d;omega,by show r+c<=k+(o+1);omega,L,u⟩,⟨rfl,rfl⟩,by show d -(o+1)<d - b;omega⟩
      .exact⟨(b,o),⟨G,s,t,by show o<=r;omega,by show o<=c;omega⟩,⟨rfl,rfl⟩,by show o - b<d - b;omega⟩
     grind
    rintro b _ ⟨rfl,G,t,L,u⟩ m;refine pa [0,1,2,3,4,18,20] (λ_:Unit=> [(24,.v (.int .i64 ((r+c - b:Nat):Int)))]) (λ_ D=>D=W f i g A E) ?_ ?_
    .refine aa ?_;exact⟨(),by congr 2;omega⟩
    rintro _ _ rfl m;obtain⟨C,T⟩: ∃C,r+c - b=C:=⟨_,rfl⟩;have a15:C<=k:=a9p;rw[T];refine pa [0,1,2,3,4,18,20,24] (λ_:List R=> []) (λa D=>D=W f i g A a/\a.Perm e1) ?_ ?_
    .refine aa ?_;refine aH (λaM=> ?_) λaM=> ?_
     .refine aH (λbo=> ?_) λbo=> ?_
      .refine ai (a0U X Y P S F Z (j0:=b) (M:=c) (c0:=C) a9p a9p a9p _ E y j) ?_;rintro _ _ ⟨z,x,rfl⟩;refine aa ?_;exact⟨z,rfl,x⟩
      .exact⟨E,rfl,y⟩
     .exact⟨E,rfl,y⟩
    rintro z _ ⟨rfl,x⟩ m;refine pa [0,1,2,3,4,18,20,24] (λ_:List R=> []) (λa D=>D=W f i g A a/\a.Perm e1) ?_ ?_
    .refine aa ?_;refine aH (λaM=> ?_) λaM=> ?_
     .refine aH (λbo=> ?_) λbo=> ?_
      .refine ai (uW Q X Y P S F Z V j H h b r a9p a9p a9p a9p z x) ?_;rintro _ _ ⟨k4,x,rfl⟩;refine aa ?_;exact⟨k4,rfl,x⟩
      .exact⟨z,rfl,x⟩
     .exact⟨z,rfl,x⟩
    rintro z _ ⟨rfl,x⟩ m;refine aa ?_;refine aH (λaM=> ?_) λaM=> ?_
    .refine aH (λbo=> ?_) λbo=> ?_
     .refine ai (uW Q X Y P S F Z V j H r C k a9p a9p a9p a9p z x) ?_;rintro _ _ ⟨k4,x,rfl⟩;refine aa ?_;exact⟨_,U.a1,k4,x,rfl⟩
     .exact⟨_,U.a1,z,x,rfl⟩
    .exact⟨_,U.a1,z,x,rfl⟩
def a0V {T V D j:FuncId} (O:dv Tryz.prog 0 T=some (uR e I V b4)) (l:dv Tryz.prog 0 V=some (sW e I)) (m:dv Tryz.prog 0 b4=some (sX e I b4 D)) (q:dv Tryz.prog 0 D=some (r4 e I j)) (s:dv Tryz.prog 0 j=some (pH e I)) (p:0<e) (r:g.length=v) (E:oE e n i v e1.length) (Q:e1.length<=1000000000) {t:FuncId}{u w:List R}{X:R->R->Int} (x:oG f i g A e1 t u w X) (y: ∀Y∈e1,oF e I Y):
  AC Tryz.prog T [n,.v (.int .i64 (e1.length:Int)),.bG t u w] (W f i g A e1) λk4 h=> ∃B,B.Perm e1/\h=W f i g A B:=by
 have k5:=E.cl;have H:e1.length<=1000000000000:=a9p;have z:=E;have C:=H;obtain⟨b,Z⟩: ∃b,e1.length=b:=⟨_,rfl⟩;rw[Z]at Q H E|-;refine aO hm O ?_;refine ch [0,1,2,6] (λa:Nat×List R=> [(7,.v (.int .i64 (a.1:Int))),(8,.v (.int .i64 ((a.1+20:Nat):Int)))]) (λa h=>h=W f i g A a.2/\a.2.Perm e1/\a.1<=b) (λa=>b - a.1) (0,e1) ⟨⟨rfl,.refl _,a5o _⟩,aU⟩ ?_;rintro⟨c,K⟩ _ ⟨rfl,F,G⟩ k6
 dsimp only at F G|-
 refine aa ?_;refine aH (λj9=> ?_) λj9=> ?_
 .refine ai (F9 l p r z C (M:=c) (c0:=c+20) a9p a9p x K F y) ?_;rintro _ _ ⟨L,k,rfl⟩;refine aa ?_;exact⟨(c+20,L),⟨rfl,k,by show c+20<=b;omega⟩,⟨rfl,rfl⟩,by show b -(c+20)<b - c;omega⟩
 .refine ai (F9 l p r z C (M:=c) (c0:=b) a9p a9p x K F y) ?_;rintro _ _ ⟨L,k,rfl⟩;refine aa ?_;refine ch [0,1,2] (λa:Nat×List R=> [(6,.v (.int .i64 (a.1:Int)))]) (λa h=>h=W f i g A a.2/\a.2.Perm e1/\0<a.1/\a.1<=20+2*b) (λa=>b - a.1) (20,L) ⟨⟨rfl,k,by show 0<20;omega,by show 20<=20+2*b;omega⟩,aU⟩ ?_;rintro⟨aR,M⟩ _ ⟨rfl,P,k0,k1⟩ b4
  dsimp only at P k0 k1|-
  refine aa ?_;refine aH (λc2=> ?_) λc2=> ?_
  .have k7:2*(aR:Int)=((2*aR:Nat):Int):=a9p;refine ch [0,1,2,6] (λa:Nat×List R=> [(7,.v (.int .i64 (a.1:Int))),(8,.v (.int .i64 ((a.1+2*aR:Nat):Int)))]) (λa h=>h=W f i g A a.2/\a.2.Perm e1/\a.1<=b) (λa=>b - a.1) (0,M) ⟨⟨rfl,P,a5o _⟩,by rw[a5e];exact aU⟩ ?_;rintro⟨c,N⟩ _ ⟨rfl,S,G⟩ D
   dsimp only at S G|-
   have k8:(c:Int)+(aR:Int)=((c+aR:Nat):Int):=rfl;refine aa ?_;refine aH (λaI=> ?_) λaI=> ?_
   .refine ai (uW m q s p r z C x y _ c (c+aR) (c+2*aR) (a5k _) a9p a9p a9p N S) ?_;rintro _ _ ⟨d,k,rfl⟩;refine aa ?_;exact⟨(c+2*aR,d),⟨rfl,k,by show c+2*aR<=b;omega⟩,⟨rfl,a9q⟩,by show b -(c+2*aR)<b - c;omega⟩
   .have k2: ∀d:List R,d.Perm e1-> ∃o:Nat×List R,(W f i g A d=W f i g A o.2/\o.2.Perm e1/\0<o.1/\o.1<=20+2*b)/\R.v (.int .i64 ((aR:Int)*2))= .v (.int .i64 (o.1:Int))/\b - o.1<b - aR:=λd k3=>⟨(aR*2,d),⟨rfl,k3,by show 0<aR*2;omega,by show aR*2<= _;omega⟩,rfl,by show b - aR*2<b - aR;omega⟩;refine aH (λaM=> ?_) λaM=> ?_
    .refine ai (uW m q s p r z C x y _ c (c+aR) b (a5k _) a9p a9p a9p N S) ?_;rintro _ _ ⟨d,k,rfl⟩;have:=k2 d k;exact aU
    .trivial
  .exact⟨_,U.a1,M,P,rfl⟩
def yN (a:FuncId):ao:=⟨9,2,.plain (aB 4 0::aB 5 0::oZ 6 5::aB 7 1::bD 8 (.fY a [aG 4,aG 6,aG 7]):: []),[]⟩
def Fa {b c d h k:FuncId} (y:dv Tryz.prog 0 b=some (yN c)) (z:dv Tryz.prog 0 c=some (uR e I d b4)) (C:dv Tryz.prog 0 d=some (sW e I)) (D:dv Tryz.prog 0 b4=some (sX e I b4 h)) (E:dv Tryz.prog 0 h=some (r4 e I k)) (F:dv Tryz.prog 0 k=some (pH e I)) (G:0<e) (L:g.length=v) (a:oE e n i v e1.length) (P:e1.length<=1000000000) {o:FuncId}{p r:List R}{S:R->R->Int} (T:oG f i g A e1 o p r S) (V: ∀j∈e1,oF e I j):
  AC Tryz.prog b [n,.bG o p r] (W f i g A e1) λs l=> ∃x,x.Perm e1/\l=W f i g A x:=by
 have t:=a.cl;have u:=a.len;refine aO hm y ?_;refine ai (a0V z C D E F G L a P T V) ?_;rintro _ _ ⟨m,q,rfl⟩;refine aa ?_;exact⟨_,U.a1,m,q,rfl⟩
end
def a0W:dv Tryz.prog 0 70=some (yN 133):=a9u
def a0X:dv Tryz.prog 0 218=some (yN 292):=a9u
theorem ar.wr (d:ar t f e A n) (h:0<e) (k:A=flat g) (o: ∀c∈g,c.cells.length=e) (G:g≠ []):
  ∃a post b,t a=none/\n= .al a g.length b e/\f=W f a [] post g/\oE e n a 0 g.length/\g.length<=b/\b<=maxLen/\(g.length*e+post.length=b*e):=by
 subst k;have p:=dg o;obtain⟨L,⟨c,_⟩|⟨a,r,b,x,rfl,y,z,P,C,D,E,F⟩⟩:=d;grind[List.length_nil,List.length_pos_iff,Nat.mul_pos]
 .obtain rfl:r=g.length:=a7m h (by rw[<-D,p]);refine⟨a,x.drop (g.length*e),b,y,rfl,?_,⟨λS T=> ?_,rfl,rfl⟩,E,F,?_⟩
  .rw[W,a5b,<-C,a5p];exact(U.sJ z).symm
  simp_all [iZ,a5g,a5e];grind
theorem W.dV (d:f.sub t) (b:f v=none) (h: ∀a∈g,a.cells.length=e) (c:A.Perm g) (k:g.length<=i) (o:i<=maxLen) (x:g.length*e+e1.length=i*e):
  ar f (W t v [] e1 A) e (flat A) (.al v g.length i e):=by
 have p:(flat A).length=g.length*e:=by rw[dg λa r=>h a (c.mem_iff.1 r),c.length_eq]
 refine⟨U.ae d b,.inr ⟨v,_,i,_,rfl,b,U.ah _ _ _,?_,?_,p,k,o⟩⟩;simp_all;simp_all
def az.mem {h:Type}{k:h->R->Prop}: ∀ {d:List h}{aR:List R},az k d aR-> ∀ {b:R},b∈aR-> ∃c,c∈d/\k c b
 | [],[],_,b,a=>by cases a
 |c::d,y::aR,⟨h1,o⟩,b,a=>by
  rcases a5i.1 a with rfl|a
  .exact⟨c,a9q,h1⟩
  .obtain⟨p,r,x⟩:=az.mem o a;exact⟨p,by simp[r],x⟩
 | [],_:: _,a,_,_=>a.elim
 | _:: _,[],a,_,_=>a.elim
variable{b0:Type}
def az.perm {p:b0->R->Prop} (r:g.Perm A): ∀ {a:List b0},az p a A-> ∃c,c.Perm a/\az p c g:=by
 induction r with
 |nil=>exact λ{a} b=>⟨a,.refl _,b⟩
 |cons x _ ih=>
  intro a b
  match a,b with
  |h::a,⟨h1,k⟩=>obtain⟨c,d,o⟩:=ih k;exact⟨h::c,d.cons _,h1,o⟩
 |swap x G L=>
  intro a b
  match a,b with
  |h::y::a,⟨h1,k,d⟩=>exact⟨y::h::a,.swap _ _ _,k,h1,d⟩
 |trans _ _ z C=>intro a b;obtain⟨c,d,o⟩:=C b;obtain⟨D,E,F⟩:=z o;exact⟨D,E.trans d,F⟩
theorem oG.of {s:U}{l:Nat}{ds d:List R} (r:gk Tryz.prog b4=true) (x: ∀b∈e1,∀c∈e1,∃h:Int,∀a,a.Perm e1->AC Tryz.prog b4 (ds++ [b,c]++d) (W s l g A a) λk o=>o=W s l g A a/\k= .v (.int .i64 h)):
  ∃y,oG s l g A e1 b4 ds d y:=by
 classical
 exact⟨λb c=>if z: ∃h:Int,∀a,a.Perm e1->AC Tryz.prog b4 (ds++ [b,c]++d) (W s l g A a) λk o=>o=W s l g A a/\k= .v (.int .i64 h)then z.choose else 0,r,λa C b D c E=>by
  have p:=x b D c E;simp only[dif_pos p];exact p.choose_spec a C⟩
theorem a0Y (E:Own) (r:Nat) (k0:1<=r) (k1:r<=8) (a:List (List Int)) (t:List R) (V:R) (y:U) (F:bS y 1 V t) (e:az isRow a t) (f: ∀k∈a,k.length=r) (n5:a.length<=100000) (k2:a≠ []):
  AC Tryz.prog 142 [fS.V E,V] y λk g=> ∃u i,i.Perm a/\az isRow i u/\ar y g 1 (flat u) k:=by
 have k3:=e.len;have n9:=F.one;have k4:=F.len;rw[k3]at k4;refine aO hm Nn ?_;refine bq λx a00=> ?_;generalize j:y.set x _=l;have v:y.sub l:=by subst j;exact aU
 have G:l x=some (.cells [.v (.int .u8 0),.v (.int .i64 0),.J (ad []) E]):=by subst j;exact aU
 clear j;refine ch [1,2,8,9] (λh:Nat×R=> [(10,.v (.int .i64 (h.1:Int))),(5,h.2)]) (λh g=>h.1<=a.length/\ ∃d,ar l g 1 d h.2/\d=flat d/\az isRow (a.take h.1) d) (λh=>a.length - h.1) (0,.J [] .nil) ⟨⟨a5o _,[],ar.nil U.a1,rfl,trivial⟩,aU⟩ ?_;rintro⟨b,h⟩ o ⟨k5,d,p,z,c⟩ a01
 dsimp only at k5 p c|-
 have a02:=U.af (p.1 _ _ G);refine aa ?_;refine aH (λk6=> ?_) λk6=> ?_
 .have w:0<a.length:=a5S.2 k2;obtain⟨_,L,A,rfl⟩:=e.get (i:=b) (x:=a.getD b []) (by grind);obtain⟨_,k7,k8,rfl⟩:=e.get (i:=0) (x:=a.getD 0 []) (by simp[List.getD,w]);obtain⟨C,a03,m⟩:=F.get b _ L;obtain⟨B,H,k9⟩:=F.get 0 _ k7;have H:cR 1 V (.v (.int .i64 0))=some B:=H;have I:=U.aq v p.1;have a04:dq false 1 o C=some (.J (ad (a.getD b [])) A):=m.ld o I false 1 a9p (by simp[R.cells]);have a05:dq false 1 o B=some (.J (ad (a.getD 0 [])) k8):=k9.ld o I false 1 a9p (by simp[R.cells]);have l0:(ad (a.getD b [])).length=r:=by grind[bH,List.getD]
  have a06:(ad (a.getD 0 [])).length=r:=by rw[bH];exact f _ (by simp[List.getD,w])
  have D:=eT (a:=a) (e:=b) (b:= []) a9p;have a07:fS.ok r=true:=by rw[r3];exact decide_eq_true ⟨k0,k1⟩
  generalize a.getD b []=k at*;generalize a.getD 0 []=a08 at*;refine aa ?_;refine bj (uQ fS _ _ _ a9p a9q) ?_;refine ai (sx k A o (by rw[bH]at l0;omega)) ?_;rintro _ a09 ⟨l1,rfl⟩;have l2:=p.mono l1;refine aa ?_;refine eS (by simp[aN,R.cells]) a9q λa10 l3=> ?_;have K:=l2.mono (U.ae (Y:= .cells (flat [R.J (ad k) .any])) U.a1 l3);have n:(flat d).length=b:=by rw[dg (c.cells λ_ _=>isRow.cells),c.len,a4L];omega
  rw[z]at K;refine aa ?_;refine fj K a9p (oq rfl) rfl (by rw[n];simp[flat,R.cells];omega) (by rw[n];simp[flat,R.cells];omega) λl4 a11 M=> ?_;refine aa ?_;refine⟨(b+1,l4),⟨by show b+1<=a.length;omega,d++ [.J (ad k) .any],?_,?_,?_⟩,⟨rfl,rfl⟩,a9p⟩
  .rw[<-z]at M;exact M
  .conv=>lhs;rw[z]
   simp[flat,R.cells]
  .show az isRow (a.take (b+1)) _;rw[D];exact c.snoc ⟨_,rfl⟩
 .obtain rfl:b=a.length:=a9p;rw[a5f]at c;have P: ∀D∈d,D.cells.length=1:=c.cells λ_ _=>isRow.cells;have n:=c.len;have l5:d≠ []:=by grind
  obtain⟨q,post,a13,N,rfl,O,Q,l6,l7,X⟩:=ar.wr p a9p z P l5;have l8:q≠x:=by rintro rfl;rw[N]at G;cases G
  have Y: ∀Z,(W o q [] post Z).read x=some [.v (.int .u8 0),.v (.int .i64 0),.J (ad []) E]:=λZ=>U.af ((U.an _ _ l8.symm).trans (p.1 _ _ G));have l9:=λS T=>W.dV (A:=S) p.1 N P T l6 l7 X;obtain⟨a14,n0⟩:=oG.of (s:=o) (l:=q) (g:= []) (A:=post) (e1:=d) (b4:=219) (ds:= []) (d:= [.ptr x 0]) a9u λa15 n1 a16 n2=>by
   obtain⟨C,m,j9,rfl⟩:=c.mem n1;obtain⟨s,n3,n4,rfl⟩:=c.mem n2;have X:=f C m;have a18:=f s n3;exact⟨sV C s,λS _=>a0D E j9 n4 C s _ x (Y S) ⟨a9p,a9p⟩ a9p⟩
  rw[O];clear O;refine ai (Fa a0X a0R a0N a0P a0L a0J a9p rfl Q a9p n0 λD L=>⟨P D L,?_⟩) ?_
  .obtain⟨k,_,j9,rfl⟩:=c.mem L;rfl
  rintro _ _ ⟨S,T,rfl⟩;clear z Y P Q;refine aa ?_;obtain⟨i,a19,a27⟩:=c.perm T;have a29:=(l9 _ T).base v;grind[U.a1]
abbrev ny (a b:List Int) (c d h:Own):List R:= [.J (ad a) c,.J (ad b) d,.v (.int .u8 0),.v (.int .i64 0),.J [] h,.v (.int .i64 1),.v (.bool false)]
theorem a0Z (y z:List Int) (C D E:Own) (d h:U) (k:List R) (o:R) (a:ar d h 1 k o):AC Tryz.prog 141 [o,.agg (ny y z C D E)] h λF G=>ar d G 1 (k.take 1) F:=by
 have g:=fK a;obtain⟨L,P,_,i⟩:=a.src;refine aO hm Nk ?_;refine bq λj p=> ?_;refine aH (λS=> ?_) λS=> ?_
 .obtain⟨r,⟨rfl,_⟩|⟨b,x,c,T,rfl,V,W,e,l,m,n,f⟩⟩:=a
  .simp at P;omega
  .obtain rfl:x=L:=a9p;have q:c7 1 (.al b x c 1) none (some (.v (.int .i64 1))) none=some (.al b 1 c 1):=hP (v:=1) a9p;refine aa ?_;refine⟨_,U.a1,U.ae r (U.bF r p),.inr ⟨b,1,c,T,rfl,V,U.ae U.a1 p _ _ W,e,?_,?_,a9p,f⟩⟩;grind
   .rw[a4L];omega
 grind[List.take_of_length_le,U.a1,U.ae]
def eu (b c:List Int) (a:ay):Bool:=decide (a.live≠0)&&jY b c a.aV a.aW
theorem a1a (b c:List Int) (r x y d h k:Own) (a:ay) (z:a.sum.length=32) (C:b.length<=1000000000000) (o:U):AC Tryz.prog 130 [.agg (ny b c r x y),.agg (ab a d h k)] o λD E=>E=o/\D= .v (.bool (eu b c a)):=by
 have F:=(aX (N:=d) (e5:=h) (h5:=k) z).all;refine aO hm MZ ?_;refine bq λG L=> ?_;refine da λP S T V=> ?_;generalize W:ab a d h k=e at*;refine aH (λp=> ?_) λp=> ?_
 .refine bj (F1 _ b c a.aV a.aW _ _ _ _ C) ?_;refine aH (λc2=> ?_) λc2=> ?_
  .refine aR ?_;rw[eu,c2,Bool.and_false]
  simp_all [aR,eu,a8s,decide_eq_true]
 .refine aR ?_;rw[eu,decide_eq_false (by simpa using p),a7d]
theorem Fb {a b:List Int} (c:jY q b6 a b=true):cT (gB q b6 a b).1 (gB q b6 a b).2 (gB q b6 a b).1.length=true/\(gB q b6 a b).1.length=q.length:=by
 have d:=id c;rw[jY,a4K]at c;obtain⟨h,hm⟩:=c;obtain⟨y,z,C,D,E⟩:=yG h;rw[oC,a4K]at h;obtain⟨r,x⟩:=h;simp only[cT,a4K,decide_eq_true_eq,a4W,a5Z]at r x hm;have k:(gB q b6 a b).1.length=q.length:=by rw[gB,if_pos d];simp[z]
 have F:(gB q b6 a b).2.length=q.length:=by rw[gB,if_pos d];simp[y,C]
 refine⟨?_,k⟩;rw[k];simp only[cT,a4K,decide_eq_true_eq,a4W,a5Z];refine⟨⟨⟨⟨D,E⟩,k⟩,F⟩,λo p=> ?_⟩;have G:=r.2 o p;have L:=x.2 o p;obtain⟨P,S⟩:=hm o p;rw[gB,if_pos d];grind
def yO (b c:List Int) (a:ay) (d:List Int):Bool:=jY b c a.aV a.aW&&sU d (gB b c a.aV a.aW).1
def a1b (a h:List Int) (G L r x y z T:Own) (b:ay) (k:List Int) (V:b.sum.length=32) (j:k.length=a.length) (l:a.length<=8) (c:U):AC Tryz.prog 135 [.agg (ny a h G L r),.agg (ab b x y z),.J (ad k) T] c λW e=>e=c/\W= .v (.bool (yO a h b k)):=by
 have m:=(aX (N:=x) (e5:=y) (h5:=z) V).all;refine aO hm N7 ?_;refine bq λC n=> ?_;refine da λP q s t=> ?_;generalize u:ab b x y z=f at*;generalize o:(c.set C _).set P _=D;have E:c.sub D:=by subst o;exact aU
 have cl:D C=some (.cells (ny a h G L r)):=by subst o;exact aU
 have v:D P=some (.cells f):=by subst o;exact aU
 clear o;refine gs (F2 _ a h b.aV b.aW _ _ _ _ a9p) λw d=> ?_;have A:=U.af (d _ _ cl);refine aP λS F=> ?_;have g:C≠S:=by rintro rfl;rw[d _ _ cl]at F;cases F
 have B:=g.symm;have H:c S=none:=U.bF (U.aq E d) F;refine aa ?_;refine aH (λp=> ?_) λp=> ?_
 .obtain⟨i,c2⟩:=Fb p;refine bj (a0E r _ _ _ _ _ k _ i a9p) ?_;refine⟨U.aq E d,aR ?_⟩;rw[yO,p,a6m]
 .refine⟨U.aq E d,aR ?_⟩;rw[yO,p,a7d]
abbrev kO (a:ay) (b c d:Own) (h k:Nat) (o p:Int):List R:=ab a b c d++ [.v (.int .u64 (h:Int)),.v (.int .u64 (k:Int)),.v (.int .i64 o),.v (.int .i64 p)]
def r5 (a:ay) (b:R):Prop:=a.sum.length=32/\a.cE/\ ∃c d h k o id p,b= .agg (kO a c d h k o id p)
variable{b1:Int}{w j2:ay}{N e5 h5:Own}
theorem uX {a:Int} (h:w.sum.length=32):(kO w N e5 h5 e i b1 a).length=41/\(kO w N e5 h5 e i b1 a).take 41=kO w N e5 h5 e i b1 a/\(kO w N e5 h5 e i b1 a).take 37=ab w N e5 h5/\
  ((kO w N e5 h5 e i b1 a).drop 37).take 2= [.v (.int .u64 (e:Int)),.v (.int .u64 (i:Int))]/\aY false 1 ((kO w N e5 h5 e i b1 a).drop 39)= .v (.int .i64 b1)/\aY false 1 ((kO w N e5 h5 e i b1 a).drop 40)= .v (.int .i64 a):=by
 have d:=(aX (N:=N) (e5:=e5) (h5:=h5) h).len;have b: ∀c,(kO w N e5 h5 e i b1 a).drop (37+c)= [R.v (.int .u64 (e:Int)),.v (.int .u64 (i:Int)),.v (.int .i64 b1),.v (.int .i64 a)].drop c:=λc=>by
  rw[a6k,a5v a9p,d,a7t,a5b]
 have k:(kO w N e5 h5 e i b1 a).length=41:=by rw[a4J,d];rfl
 refine⟨k,a4I a9p,?_,?_,?_,?_⟩;simp_all
 .rw[b 0];rfl
 .rw[b 2];rfl
 .rw[b 3];rfl
theorem a1c (E:r5 w n) (F:r5 j2 b3): ∃G:Int,∀k,AC Tryz.prog 71 [n,b3] k λL P=>P=k/\L= .v (.int .i64 G):=by
 obtain⟨S,_,r,x,y,a,b,id,o,rfl⟩:=E;obtain⟨T,_,z,C,D,c,d,h,p,rfl⟩:=F;have V:=uX (N:=r) (e5:=x) (h5:=y) (e:=a) (i:=b) (b1:=id) (a:=o) S;have W:=uX (N:=z) (e5:=C) (h5:=D) (e:=c) (i:=d) (b1:=h) (a:=p) T;refine⟨if r2 a b c d=0 then(if id=h then IntKind.i64.wrap (o - p)else if id<h then -1 else 1)else r2 a b c d,λk=> ?_⟩;generalize kO w r x y a b id o=e at*;generalize kO j2 z C D c d h p=f at*;refine aO hm Li ?_;refine bq λg i=> ?_;refine da λj l a b=> ?_;refine bj (F0 _ _ _ _ _) ?_
 repeat' first|refine aH (λ_=> ?_) λ_=> ?_|trivial
 all_goals simp_all
theorem a1d (c d:List Int) (k o h:Own) (a:Nat) (p:a<=1000000000000) (b:U):AC Tryz.prog 68 [.agg (ny c d k o h),.v (.int .i64 (a:Int))] b λy z=>z=b/\y= .v (.bool (cT c d a)):=by
 have r:=λb=>uQ fS h a b p a9q;simp only[r3]at r;refine aO hm Le ?_;refine bq λC F=> ?_;refine aH (λD=> ?_) λD=> ?_
 .refine aH (λc2=> ?_) λc2=> ?_
  .refine bj (om _ c d _ _ _ p) ?_;refine aH (λaI=> ?_) λaI=> ?_
   .trivial
   .have E:decide (1<=a/\a<=8)=true:=decide_eq_true a9p;have x:=r (b.set C (.cells (ny c d k o h)));rw[E]at x;exact bj x trivial
  grind[cT,lo]
 grind[cT,lo]
theorem Fc {a:Int}:ig b1 a<0↔b1<a:=by unfold ig;split<;>(try split)<;>omega
theorem Fe {a:Int}:ig b1 a=0↔b1=a:=by unfold ig;split<;>(try split)<;>omega
def kP:List Int->List Int->Prop
 |a::c,b::d=>a<b\/a=b/\kP c d
 | _,_=>False
theorem r6: ∀ {p q:List Int},p.length=q.length->(fQ p q<0↔kP p q)
 | [],[],_=>by simp[fQ,kP]
 |b::p,c::q,a=>by
  have ih:=r6 (p:=p) (q:=q) (by simpa using a);grind[fQ,kP,Fe,Fc]
 | [],_:: _,a=>by simp at a
 | _:: _,[],a=>by simp at a
def yP: ∀ {b:List Int},¬kP b b
 | [],a=>a
 |c::b,a=>a.elim a9p λa=>yP a.2
def yQ: ∀ {c d h:List Int},kP c d->kP d h->kP c h
 |k::c,o::d,p::h,a,b=>by
  rcases a with a|⟨rfl,a⟩<;>rcases b with b|⟨rfl,b⟩
  .exact .inl a9p
  .exact .inl a
  .exact .inl b
  .exact .inr ⟨rfl,yQ a b⟩
theorem yR: ∀ {p q:List Int},p.length=q.length->kP p q\/p=q\/kP q p
 | [],[],_=> .inr (.inl rfl)
 |d::p,h::q,a=>by
  rcases Int.lt_trichotomy d h with b|rfl|b
  .exact .inl (.inl b)
  .rcases yR (p:=p) (q:=q) (by simpa using a)with c|rfl|c
   .exact .inl (.inr ⟨rfl,c⟩)
   .exact .inr (.inl rfl)
   .exact .inr (.inr (.inr ⟨rfl,c⟩))
  .exact .inr (.inr (.inl b))
 | [],_:: _,a=>by simp at a
 | _:: _,[],a=>by simp at a
def yS (a:Nat) (b c:List Int):Prop:=b.getD a 0<c.getD a 0\/b.getD a 0=c.getD a 0/\kP b c
theorem uY (a:q.length=b6.length):cN e q b6<0↔yS e q b6:=by grind[cN,yS,Fe,r6,Fc]
structure nz (d:Nat) (a:List Int->List Int->Int):Prop where
 jf: ∀x,x.length=d-> ¬a x x<0
 sY: ∀x y z,x.length=d->y.length=d->z.length=d->a x y<0->a y z<0->a x z<0
 r7: ∀x y,x.length=d->y.length=d->a x y<0\/x=y\/a y x<0
def nz.yT {a:List Int->List Int->Int} (c:nz e a) (b:q.length=e) (d:b6.length=e) (h:a q b6<0): ¬a b6 q<0:=λk=>c.jf q b (c.sY q b6 q b d b h k)
def nz.Ff {c:List Int->List Int->Int} (k:nz e c): ∀a b d,a.length=e->b.length=e->d.length=e-> ¬c a b<0-> ¬c b d<0-> ¬c a d<0:=λa b d o p y z r x=>by
 rcases k.r7 a b o p with h|rfl|h
 .exact z h
 .exact r x
 .exact r (k.sY _ _ _ p o y h x)
theorem pJ (k o:Nat):nz k (cN o) where
 jf d h a:=by
  rw[uY rfl]at a;rcases a with a|a
  .omega
  .exact yP a.2
 sY d p z h r C b c:=by
  rw[uY a9p]at*;rcases b with b|⟨b,x⟩<;>rcases c with c|⟨c,y⟩
  .exact .inl a9p
  .exact .inl a9p
  .exact .inl a9p
  .exact .inr ⟨a9p,yQ x y⟩
 r7 d p h r:=by rw[uY a9p,uY a9p];grind[yS,Int.lt_trichotomy,yR]
theorem a1e (d:Nat):nz d fQ where
 jf a b c:=by rw[r6 rfl]at c;exact yP c
 sY a h p b k r h1 o:=by rw[r6 a9p]at*;exact yQ h1 o
 r7 a h b k:=by simp_all [r6,yR]
def yU {z:Nat}{p:List Int->List Int->Int} (C:nz z p): ∀ {c a:List (List Int)},(∀b∈c,b.length=z)->a.Perm c->c.Pairwise (λr x=> ¬p x r<0)->a.Pairwise (λr x=> ¬p x r<0)->a=c
 | [],a,_,d,_,_=>d.eq_nil
 |b::c,a,y,d,h1,E=>by
  cases a with
  |nil=>exact absurd d.length_eq a9q
  |cons h a=>
   obtain⟨F,G⟩:=a5r.1 h1;obtain⟨L,P⟩:=a5r.1 E;have D:h∈b::c:=d.mem_iff.1 a9q;have S:b∈h::a:=d.mem_iff.2 a9q;have k:h=b:=by
    rcases a5i.1 D with k|T
    .exact k
    rcases a5i.1 S with k|V
    .exact k.symm
    rcases C.r7 h b (y h D) (y b a9q)with o|o|o
    .exact absurd o (F h T)
    .exact o
    .exact absurd o (L b V)
   subst k;rw[yU C (λW e=>y W (by simp[e])) (List.Perm.cons_inv d) G P]
theorem a1f (c:Nat) (a:List Int) (b:List (List Int)):(fa c a b).Perm (a::b):=by grind[List.takeWhile_append_dropWhile,decide,cN,fa,List.perm_middle]
def Fg {p c:Nat}{d:List Int} (r:d.length=p): ∀ {h:List (List Int)},(∀b∈h,b.length=p)->h.Pairwise (λx y=> ¬cN c y x<0)->(fa c d h).Pairwise (λx y=> ¬cN c y x<0)
 | [],_,_=>by simp[fa]
 |b::h,z,D=>by
  obtain⟨E,L⟩:=a5r.1 D;have F:=pJ p c;have G:=z b a9q;by_cases o:cN c b d<0
  .have C:fa c d (b::h)=b::fa c d h:=by simp[fa,a5z,a6d,o]
   rw[C];refine a5r.2 ⟨λk a=> ?_,Fg r (λk a=>z k (by simp[a])) L⟩;rcases yp.1 a with rfl|a
   .exact F.yT G r o
   .exact E k a
  .have C:fa c d (b::h)=d::b::h:=by simp[fa,a5z,a6d,o]
   rw[C];refine a5r.2 ⟨λk a=> ?_,D⟩;rcases a5i.1 a with rfl|a
   .exact o
   .exact F.Ff k b d (z k (by simp[a])) G r (E k a) o
theorem Fh {o d:Nat}: ∀(h a:List (List Int)),(∀b∈h,b.length=o)->(∀b∈a,b.length=o)->a.Pairwise (λp r=> ¬cN d r p<0)->(h.foldl (λx c=>fa d c x) a).Perm (a++h)/\(h.foldl (λx c=>fa d c x) a).Pairwise (λp r=> ¬cN d r p<0)
 | [],a,_,_,y=>by simpa using y
 |c::h,a,h1,z,y=>by
  have C:=h1 c a9q;have D: ∀b∈fa d c a,b.length=o:=λb k=>by
   rcases yp.1 k with rfl|k
   .exact C
   .exact z b k
  obtain⟨E,F⟩:=Fh h (fa d c a) (λb k=>h1 b (by simp[k])) D (Fg C z y);grind[a1f,trans]
variable{O:List (List Int)}
def sZ (a: ∀b∈O,b.length=i):(dI e O).Perm O/\(dI e O).Pairwise (λc d=> ¬cN e d c<0):=by simpa[dI] using Fh (o:=i) (d:=e) O [] a a9q .nil
def a1g (a:isRow q n):n.one=true/\n.cells= [n]:=by obtain⟨b,rfl⟩:=a;exact⟨rfl,rfl⟩
theorem az.of {k:Type}{o:k->R->Prop}: ∀ {b:List k}{aR:List R},aR.length=b.length->(∀(c:Nat) d h,b[c]? =some d->aR[c]? =some h->o d h)->az o b aR
 | [],[],_,_=>trivial
 |d::b,r::aR,a,p=>⟨p 0 d r rfl rfl,az.of (by simpa using a) λc x h y z=>p (c+1) x h y z⟩
 | [],_:: _,a,_=>by simp at a
 | _:: _,[],a,_=>by simp at a
variable{m:Program}
def a1h (a:gk m b4=true): ∀b c,(callFunc b4 b).run m c= .ok (.enter b4 b) c:=by
 unfold gk at a;split at a
 .rename_i k d;rw[a4K]at a;obtain⟨o,h⟩:=a5A.1 a.1;exact enters_of d (by simpa using a.2) h
 .cases a
theorem a1i {k:List Int->List Int->Int} (o:nz i k) {p:List (List Int)} (W:f v=some (.cells g)) (F:az isRow O A) (G:O.length=e) (j:g.take e=A) (y:e<=4000000) (l:0<e) (L: ∀a∈O,a.length=i)
  (P:p.Perm O) (m:p.Pairwise (λz c=> ¬k c z<0)) (r:FuncId) (C:List R) (n:t.sub f) (q: ∀c,t c=none\/ ∃s,t c=some (.ro s)) (u:gk Tryz.prog r=true)
  (w: ∀b d D E,b.length=i->d.length=i->AC Tryz.prog r ([.J (ad b) D,.J (ad d) E]++C) t λa _=>a= .v (.int .i64 (k b d))):
  AC Tryz.prog 118 [.al v e M 1,.bG r [] C] f λa S=>a= .aL []/\ ∃x,az isRow p x/\S=f.set v (.cells (x++g.drop e)):=by
 refine(ZR (m:=Tryz.prog) Tryz.EV isRow (λ_ _=>a1g) W F.len (λZ b z h T=> ?_) G j a9p r C n q (λa=>a.length=i) L l k o.jf o.sY o.Ff (a1h u) λb d z c T y h B=> ?_).mono λa S H=> ?_
 .obtain⟨c,y,j9⟩:=F.get h;simp_all
 .obtain⟨D,rfl⟩:=T;obtain⟨E,rfl⟩:=y;exact w b d D E h B
 .obtain⟨I,x,K,V,N,Q,X,Y⟩:=H;have:K=p:=yU o (λb h=>L b (P.mem_iff.1 h)) (V.trans P.symm) m X;subst this;exact⟨I,x,az.of (by rw[N,V.length_eq,G]) Q,Y⟩
def gC (k o:U) (a:List R) (c:R):Prop:=
 k.sub o/\(∀p∈a,p.cells.length=41)/\((a= []/\(c= .J [] .nil\/c= .J [] .zero))\/ ∃d h post b,k d=none/\o d=some (.cells (h++flat a++post))/\a.length<=b/\b<=maxLen/\a.length*41+post.length=b*41/\
  ((c= .al d a.length b 41/\h= [])\/c= .bw d h.length a.length b 41))
def gC.mono {a:R} (c:gC f t g a) (b:t.sub e7):gC f e7 g a:=by obtain⟨d,h,k⟩:=c;refine⟨U.aq d b,h,k.imp_right ?_⟩;rintro⟨o,p,post,r,x,y,z⟩;exact⟨o,p,post,r,x,b _ _ y,z⟩
def gC.len (a:gC f t g n):ff n=some (.v (.int .i64 (g.length:Int)))/\n.cells= [n]:=by obtain⟨_,_,⟨rfl,rfl|rfl⟩|⟨b,c,post,d,_,_,_,_,_,⟨rfl,_⟩|rfl⟩⟩:=a<;>exact⟨rfl,rfl⟩
def gC.other {q:Nat}{o:bp} (c:gC f t g n) (d:f q=none) (h:cQ n≠some q):gC f (t.set q o) g n:=by
 obtain⟨k,p,r⟩:=c;refine⟨U.ae k d,p,r.imp_right ?_⟩;rintro⟨a,x,post,y,z,C,D,E,F,b⟩;have G:a≠q:=by rintro rfl;rcases b with ⟨rfl,_⟩|rfl<;>exact h rfl
 exact⟨a,x,post,y,z,by rw[U.an _ _ G];exact C,D,E,F,b⟩
def ar.other {q:Nat}{o:bp} (b:ar f t e g n) (c:f q=none) (d:cQ n≠some q):ar f (t.set q o) e g n:=by
 obtain⟨h,k⟩:=b;refine⟨U.ae h c,k.imp_right ?_⟩;rintro⟨a,p,r,x,rfl,y,z,C⟩;have D:a≠q:=by rintro rfl;exact d rfl
 exact⟨a,p,r,x,rfl,y,by rw[U.an _ _ D];exact z,C⟩
theorem gC.app {F:R}{l:cC s} (m:gC t f g b3) (q:n.cells.length=41) (u:bM f 41 F=some (1,n.cells)) (Q:g.length<=100000000)
  (G: ∀c z,gC t z (g++ [n]) c->(∀a,cQ c=some a->cQ b3=some a\/f a=none)->(∀a,cQ b3≠some a->f a≠none->z a=f a)->s c z):jK 41 152 f b3 F (bO s l):=by
 obtain⟨C,v,w⟩:=m;have L: ∀P∈g++ [n],P.cells.length=41:=λP X=>by
  grind
 have S:flat (g++ [n])=flat g++n.cells:=by simp[flat]
 have D:(flat g).length=g.length*41:=dg v;unfold jK;rw[vO u];simp only[bO];have Y: ∀(k o:Nat) (x:List R),f k=none->g.length+1<=o->o<=maxLen->x.length=(o -(g.length+1))*41->s (.al k (g.length+1) o 41) (f.set k (.cells (flat g++n.cells++x))):=λk o x T r hm Z=>by
  have V:=U.bF C T;refine G _ _ ⟨U.ae C V,L,.inr ⟨k,[],x,o,V,?_,?_,hm,?_,.inl ⟨?_,rfl⟩⟩⟩ (λa p=> ?_) λa p A=> ?_
  .rw[U.ah,S];rfl
  .simpa using r
  grind
  .rw[a4J];rfl
  grind[cQ,Option.some.injEq]
  .have:a≠k:=by rintro rfl;exact A T
   exact U.an _ _ this
 rcases w with ⟨rfl,B⟩|⟨d,b,post,h,W,e,j9,H,k0,I⟩
 .rcases B with rfl|rfl;simp_all;simp_all
 .have K:g.length+1<=h-> ∃y,putAt (b++flat g++post) (b.length+g.length*41) n.cells=b++flat (g++ [n])++y/\(g.length+1)*41+y.length=h*41:=λr=>by
   refine⟨post.drop 41,?_,by rw[a4V];omega⟩;have E:(b++flat g).length=b.length+g.length*41:=by rw[a4J,D]
   rw[putAt,<-E,a7c,<-a5B,a7e,q,S];simp
  have i: ∀c,cQ b3=some d->cQ c=some d->((c= .al d (g.length+1) h 41/\b= [])\/c= .bw d b.length (g.length+1) h 41)->g.length+1<=h->s c (f.set d (.cells (putAt (b++flat g++post) (b.length+g.length*41) n.cells))):=λc j M N r=>by
   obtain⟨y,E,O⟩:=K r;rw[E];refine G _ _ ⟨U.ae C W,L,.inr ⟨d,b,y,h,W,U.ah _ _ _,by simpa using r,H,by simpa using O,?_⟩⟩ (λa p=> .inl ?_) λa p _=> ?_
   .simpa using N
   .rw[M]at p;rw[j];exact p
   .have:a≠d:=by rintro rfl;exact p j
    exact U.an _ _ this
  rcases I with ⟨rfl,rfl⟩|rfl
  .simp only[e];refine⟨trivial,by simp[D];omega,a9p,a9p,?_⟩;split
   .have:=i (.al d (g.length+1) h 41) rfl rfl (.inl ⟨rfl,rfl⟩)‹_›;simpa using this
   simp_all
  .simp only[e];refine⟨trivial,by simp[D];omega,a9p,a9p,?_⟩;split
   .exact i (.bw d b.length (g.length+1) h 41) rfl rfl (.inr rfl)‹_›
   simp_all
abbrev lA (a:Nat) (b c:List Int) (d h k:Own) (o:Nat) (p:R) (r x y:Int) (z:R):List R:=
 [.ptr a 0,.J (ad b) d,.J (ad c) h,.v (.int .u8 0),.v (.int .i64 0),.J [] k,.v (.int .i64 1),.v (.bool false),.v (.int .i64 (o:Int)),p,.v (.int .i64 r),.v (.int .i64 x),.v (.int .i64 y),z]
structure im where
 gD:Nat
 aV:List Int
 aW:List Int
 ht:Own
 eW:Own
 hs:Own
 d:Nat
structure dJ (A:im) (b c:U) (a:Nat) (us:List R) (L:R) (es:List R) (oH:R):Prop where
 gL:b a=none
 x: ∃n ox d:Int,c a=some (.cells (lA A.gD A.aV A.aW A.ht A.eW A.hs A.d L n ox d oH))
 l:ar b c 1 us L
 w:gC b c es oH
 ha:cQ L≠some a
 ka:cQ oH≠some a
 lw: ∀p,cQ L=some p->cQ oH≠some p
def dJ.mono {c:im}{d h k:U}{o:Nat}{p:List R}{r:R}{x:List R}{y:R} (a:dJ c d h o p r x y) (b:h.sub k):dJ c d k o p r x y:=
 ⟨a.gL,by obtain⟨z,C,D,a⟩:=a.x;exact⟨z,C,D,b _ _ a⟩,a.l.mono b,a.w.mono b,a.ha,a.ka,a.lw⟩
theorem dJ.set {b:im}{k o:U}{c:Nat}{p:List R}{d:R}{r:List R}{h:R} (a:dJ b k o c p d r h) (x y z:Int):dJ b k (o.set c (.cells (lA b.gD b.aV b.aW b.ht b.eW b.hs b.d d x y z h))) c p d r h:=
 ⟨a.gL,⟨x,y,z,U.ah _ _ _⟩,ar.other a.l a.gL a.ha,a.w.other a.gL a.ka,a.ha,a.ka,a.lw⟩
def ar.has (a:ar t f i g n) (b:cQ n=some e):f e≠none:=by
 obtain⟨_,⟨_,rfl|rfl⟩|⟨d,h,k,o,rfl,_,c,_⟩⟩:=a
 .cases b
 .cases b
 .obtain rfl:=a4G b;rw[c];exact λa=>by cases a
def gC.has (a:gC t f g n) (b:cQ n=some e):f e≠none:=by
 obtain⟨_,_,⟨_,rfl|rfl⟩|⟨d,h,post,k,_,c,_,_,_,⟨rfl,_⟩|rfl⟩⟩:=a
 .cases b
 .cases b
 all_goals (obtain rfl:=a4G b;rw[c];exact λa=>by cases a)
def ar.fG (c:ar f e7 e g n) (d:f.sub t) (h: ∀a,cQ n=some a->t a=e7 a):ar f t e g n:=by obtain⟨C,k⟩:=c;refine⟨d,k.imp_right ?_⟩;rintro⟨b,o,p,r,rfl,x,y,z⟩;exact⟨b,o,p,r,rfl,x,(h b rfl).trans y,z⟩
structure Fi (A:im) (b:U) (c:Nat) (L oH:R) (a:Nat):Prop where
 n:b a=none
 x:a≠c
 l:cQ L≠some a
 w:cQ oH≠some a
def dJ.fresh {d:im} (a:dJ d f t e g n A b3) (b:t i=none):Fi d f e n b3 i:=
 ⟨U.bF a.l.1 b,(by obtain⟨_,_,_,h⟩:=a.x;rintro rfl;rw[b]at h;cases h),(λc=>ar.has a.l c b),λc=>a.w.has c b⟩
def dJ.wr {c:im} (a:dJ c f t e g n A b3) (b:Fi c f e n b3 i) (d:bp):dJ c f (t.set i d) e g n A b3:=
 ⟨a.gL,(by obtain⟨h,k,o,p⟩:=a.x;exact⟨h,k,o,(U.an _ _ b.x.symm).trans p⟩),ar.other a.l b.n b.l,a.w.other b.n b.w,a.ha,a.ka,a.lw⟩
def r8 (p:g.length=37) (a b c d:R):(g++ [a,b,c,d]).length=41/\(g++ [a,b,c,d]).take 41=g++ [a,b,c,d]/\(∀h o,putAt (g++ [a,b,c,d]) 37 [h,o]=g++ [h,o,c,d])/\(∀h,putAt (g++ [a,b,c,d]) 39 [h]=g++ [a,b,h,d])/\ ∀h,putAt (g++ [a,b,c,d]) 40 [h]=g++ [a,b,c,h]:=by
 have r: ∀k,(g++ [a,b,c,d]).take (37+k)=g++ [a,b,c,d].take k:=λk=>by rw[a7f,p,a4I a9p,a7t]
 have x: ∀k,(g++ [a,b,c,d]).drop (37+k)= [a,b,c,d].drop k:=λk=>by rw[a6k,p,a5v a9p,a5b,a7t]
 have y:(g++ [a,b,c,d]).length=41:=by rw[a4J,p];rfl
 refine⟨y,a4I a9p,λh o=> ?_,λh=> ?_,λh=> ?_⟩
 .show(g++ [a,b,c,d]).take (37+0)++ [h,o]++(g++ [a,b,c,d]).drop (37+2)= _;rw[r,x];simp
 .show(g++ [a,b,c,d]).take (37+2)++ [h]++(g++ [a,b,c,d]).drop (37+3)= _;rw[r,x];simp
 .show(g++ [a,b,c,d]).take (37+3)++ [h]++(g++ [a,b,c,d]).drop (37+4)= _;rw[r,x];simp
abbrev zW:List R:=List.replicate 32 (R.v (.int .u8 0))++ [.J [] .nil,.J [] .nil]++ [.v (.int .i64 0),.v (.int .i64 0)]++ [.J [] .nil]++ [.v (.int .u64 0),.v (.int .u64 0)]++ [.v (.int .i64 0),.v (.int .i64 0)]
def a1j (a:g.length=37):putAt zW 0 g=g++ [.v (.int .u64 0),.v (.int .u64 0),.v (.int .i64 0),.v (.int .i64 0)]:=by rw[putAt,a];rfl
theorem Fj (a:im) (k1 e:U) (c:Nat) (k2:List R) (f:R) (C:List R) (u:R) (h:dJ a k1 e c k2 f C u) (b:ay) (D E F:Own) (v:b.sum.length=32) (n5:b.cE) (a48:a.aV.length<=8) (a52:C.length<=100000000):
  AC Tryz.prog 69 [.ptr c 0,.agg (ab b D E F)] e λ_ w=> ∃n9 A,dJ a k1 w c k2 f A n9/\if eu a.aV a.aW b=true then∃k3,r5 b k3/\A=C++ [k3]else A=C:=by
 obtain⟨g,i,k,B⟩:=h.x;have a00:=(aX (N:=D) (e5:=E) (h5:=F) v).all;refine aO hm Lg ?_;refine bq λj a01=> ?_;have k4:j≠c:=by rintro rfl;rw[a01]at B;cases B
 have a56:=k4.symm;rw[hN];generalize H:e.set j _=G;have k5:e.sub G:=by subst H;exact aU
 have cl:G j=some (.cells (ab b D E F)):=by subst H;exact U.ah _ _ _
 have k6:=h.mono k5;have I:=k5 _ _ B;clear H;generalize K:ab b D E F=L at*;have a02:=U.af cl;have gd:=U.af I;have a03:=U.aJ I;refine aa ?_;rw[<-K];refine bj (a1a a.aV a.aW _ _ _ _ _ _ b v a9p G) ?_;rw[K];refine aH (λM=> ?_) λM=> ?_;grind;have a57:bn .add (.int .i64 k) (.int .i64 1)=some (.int .i64 (IntKind.i64.wrap (k+1))):=rfl;obtain⟨a61,a62⟩:=h.w.len;have a63:=fK h.l;have x:=a00.1;have a04:=a1j x;obtain⟨a05,_,_,_,N⟩:=r8 x (.v (.int .u64 0)) (.v (.int .u64 0)) (.v (.int .i64 0)) (.v (.int .i64 0));have N:=N (.v (.int .i64 (IntKind.i64.wrap (k+1))));have a06:=(r8 x (.v (.int .u64 0)) (.v (.int .u64 0)) (.v (.int .i64 0)) (.v (.int .i64 (IntKind.i64.wrap (k+1))))).1;have a65:=(r8 x (.v (.int .u64 0)) (.v (.int .u64 0)) (.v (.int .i64 0)) (.v (.int .i64 (IntKind.i64.wrap (k+1))))).2.1;generalize l:R.v (.int .i64 (IntKind.i64.wrap (k+1)))=T at*;generalize a68:L++ [R.v (.int .u64 0),.v (.int .u64 0),.v (.int .i64 0),.v (.int .i64 0)]=a69 at*;generalize a07:L++ [R.v (.int .u64 0),.v (.int .u64 0),.v (.int .i64 0),T]=P at*;have a71:T.cells= [T]:=by subst l;rfl
 refine aa ?_;have m:=k6.set g i (IntKind.i64.wrap (k+1));simp only[lA,l]at m;refine aP λy p=> ?_;have a08:=m.fresh p;have a09:j≠y:=by rintro rfl;rw[U.an _ _ k4,cl]at p;cases p
 have a73:=a09.symm;have k7:c≠y:=by rintro rfl;rw[U.ah]at p;cases p
 have a74:=k7.symm;refine aa ?_;have hm:jY a.aV a.aW b.aV b.aW=true:=by rw[eu,a4K]at M;exact M.2
 obtain⟨k8,a10⟩:=Fb hm;have k9:=U.ah G c (.cells [.ptr a.gD 0,.J (ad a.aV) a.ht,.J (ad a.aW) a.eW,.v (.int .u8 0),.v (.int .i64 0),.J [] a.hs,.v (.int .i64 1),.v (.bool false),.v (.int .i64 (a.d:Int)),f,.v (.int .i64 g),.v (.int .i64 i),T,u]);generalize G.set c _=l0 at*;have l1:=m.mono (U.ae (Y:= .cells P) U.a1 p);have l2:=U.ae (Y:= .cells P) U.a1 p _ _ k9;have l3:=U.ah l0 y (.cells P);generalize l0.set y _=a81 at*;clear k9 p m gd a03 I k6 cl a02 h a04 a05 N a06;refine gs (F2 _ a.aV a.aW b.aV b.aW _ _ _ _ a9p) λa11 n=> ?_;refine aP λO r=> ?_;have a13:=l1.mono (U.aq n (U.ae (Y:= .cells [.J (ad (gB a.aV a.aW b.aV b.aW).1) .any,.J (ad (gB a.aV a.aW b.aV b.aW).2) .any]) U.a1 r));have q:=n _ _ l2;have s:=n _ _ l3;have l4:c≠O:=by rintro rfl;rw[q]at r;cases r
 have a14:=l4.symm;have l5:y≠O:=by rintro rfl;rw[s]at r;cases r
 have a15:=l5.symm;have a16:=U.af q;have a18:=U.af s;refine aa ?_;generalize a83:(gB a.aV a.aW b.aV b.aW).1=S at*;generalize (gB a.aV a.aW b.aV b.aW).2=Q at*;have l6:=U.ae (Y:= .cells [.J (ad S) .any,.J (ad Q) .any]) U.a1 r _ _ q;have a19:=U.ae (Y:= .cells [.J (ad S) .any,.J (ad Q) .any]) U.a1 r _ _ s;generalize a11.set O _=X at*;refine bj (F6 a.hs _ _ S Q X k8) ?_;obtain⟨z,a27⟩: ∃Y,nw (S.getD 0 0)=Y:=⟨_,rfl⟩;obtain⟨id,a29⟩: ∃Y,S.getD 0 0=Y:=⟨_,rfl⟩;rw[a29]at a27;clear a16 a18 r l4 l5 a14 a15 q s n l2 l3 l1 k8 a10;have a84:=U.aJ a19;have a86:=U.af l6;have a88:P.length=41:=by grind
 have a89:putAt P 37 [.v (.int .u64 0),.v (.int .u64 (z:Int))]=L++ [.v (.int .u64 0),.v (.int .u64 (z:Int)),.v (.int .i64 0),T]:=by subst a07;exact(r8 x _ _ _ _).2.2.1 _ _
 obtain⟨a90,_,_,l7,_⟩:=r8 x (.v (.int .u64 0)) (.v (.int .u64 (z:Int))) (.v (.int .i64 0)) T;have l7:=l7 (.v (.int .i64 id));obtain⟨l8,a92,_⟩:=r8 x (.v (.int .u64 0)) (.v (.int .u64 (z:Int))) (.v (.int .i64 id)) T;generalize L++ [R.v (.int .u64 0),.v (.int .u64 (z:Int)),.v (.int .i64 0),T]=a94 at*;generalize a30:L++ [R.v (.int .u64 0),.v (.int .u64 (z:Int)),.v (.int .i64 id),T]=o at*;refine aa ?_;have a34:=a13.wr a08 (.cells o);have a36:(X.set y (.cells o)) c=some (.cells [.ptr a.gD 0,.J (ad a.aV) a.ht,.J (ad a.aW) a.eW,.v (.int .u8 0),.v (.int .i64 0),.J [] a.hs,.v (.int .i64 1),.v (.bool false),.v (.int .i64 (a.d:Int)),f,.v (.int .i64 g),.v (.int .i64 i),T,u]):=(U.an _ _ k7).trans l6;generalize X.set y _=l9 at*;refine eS (by simp[aN,hN,l8]) a9q λZ n0=> ?_;have d:=a34.mono (U.ae (Y:= .cells (flat [R.agg o])) U.a1 n0);have t:=U.ae (Y:= .cells (flat [R.agg o])) U.a1 n0 _ _ a36;have a38:bM (l9.set Z (.cells (flat [R.agg o]))) 41 (.al Z 1 1 41)=some (1,(R.agg o).cells):=by simp_all [flat,read,U.af,U.ah,hN,bM,if_pos,trivial]
 generalize l9.set Z _=a42 at*;have gd:=U.af t;refine aa ?_;refine gC.app (n:= .agg o) d.w l8 a38 a9p λn1 w j9 n2 n3=> ?_;have a43:w c= _:=(n3 c d.ka (by rw[t];exact λh=>by cases h)).trans t;have a95:=U.aJ a43;have a96:=j9.len.2;refine aa ?_;have a47:a42 c≠none:=by rw[t];exact λh=>by cases h
 have n4:cQ n1≠some c:=λk0=>(n2 c k0).elim d.ka a47;refine⟨_,U.a1,n1,C++ [.agg o],⟨d.gL,⟨g,i,IntKind.i64.wrap (k+1),by subst l;exact U.ah _ _ _⟩,ar.other (ar.fG d.l j9.1 λV W=>n3 V (d.lw V W) (ar.has d.l W)) d.gL d.ha,j9.other d.gL n4,d.ha,n4,λV W k0=>(n2 V k0).elim (d.lw V W) (ar.has d.l W)⟩,.agg o,⟨v,n5,D,E,F,0,z,id,IntKind.i64.wrap (k+1),?_⟩,rfl⟩;subst l;subst a30;subst K;rfl
def ar.wide (p:ar t f e g n): ∃o,ar o f e g n/\t.sub o/\o.sub f/\ ∀k b,f k=some b->cQ n≠some k->o k=some b:=by
 obtain⟨r,x|⟨d,y,z,C,rfl,D,E⟩⟩:=p
 .exact⟨f,⟨U.a1,.inl x⟩,r,U.a1,λ_ _ p _=>p⟩
 .refine⟨f.del d,⟨λh b a=> ?_,.inr ⟨d,y,z,C,rfl,U.ir _ _,E⟩⟩,λh b a=> ?_,λh b a=> ?_,λk b F G=> ?_⟩
  .have c:h≠d:=by rintro rfl;rw[U.ir]at a;cases a
   rwa[U.eI _ c]at a
  .have c:h≠d:=by rintro rfl;rw[D]at a;cases a
   rw[U.eI _ c];exact r h b a
  .have c:h≠d:=by rintro rfl;rw[U.ir]at a;cases a
   rwa[U.eI _ c]at a
  .have c:k≠d:=by rintro rfl;exact G rfl
   rw[U.eI _ c];exact F
def ar.fresh (b:ar f t i g n) (a:cQ n=some e):f e=none:=by
 obtain⟨_,⟨_,rfl|rfl⟩|⟨d,h,k,o,rfl,c,_⟩⟩:=b
 .cases a
 .cases a
 .obtain rfl:=a4G a;exact c
def gC.fG (h:gC f e7 g n) (k:f.sub t) (o: ∀a b,cQ n=some a->e7 a=some b->t a=some b):gC f t g n:=by obtain⟨G,p,r⟩:=h;refine⟨k,p,r.imp_right ?_⟩;rintro⟨c,x,post,y,z,C,D,E,F,d⟩;refine⟨c,x,post,y,z,o c _ ?_ C,D,E,F,d⟩;rcases d with ⟨rfl,_⟩|rfl<;>rfl
theorem az.flat {b:List (List Int)}{a:List R} (h:az isRow b a):flat a=a:=by
 induction a generalizing b with
 |nil=>rfl
 |cons o a ih=>
  match b,h with
  |c::b,⟨⟨d,h1⟩,k⟩=>subst h1;rw[show Go.bA.flat (R.J (ad c) d::a)= [R.J (ad c) d]++Go.bA.flat a from rfl,ih k];rfl
theorem a1k (a:im) (V F:U) (y:Nat) (W:List R) (o:List (List Int)) (G:R) (q:List R) (L:R) (r:dJ a V F y W G q L) (s:az isRow o W) (n2: ∀b∈o,b.length=a.d) (X:1<=a.d) (Y:a.d<=8) (n3:a.aV.length=a.d) (n4:o.length<=1) (b:List Int) (P:Bool) (c:Own) (n5:b.length=a.d):
  AC Tryz.prog 74 [.ptr y 0,.agg [.J (ad b) c,.v (.bool P)]] F λ_ Z=> ∃t D j9,dJ a V Z y t j9 q L/\az isRow D t/\if(P&&jj a.aV a.aW b)=true then∃h,D= [h]/\(h=b\/h∈o)else D=o:=by
 obtain⟨k0,k1,k2,S⟩:=r.x;refine aO hm Lo ?_;refine bq λe k3=> ?_;rw[hN];have k4:e≠y:=by rintro rfl;rw[k3]at S;cases S
 have n9:=k4.symm;generalize f:F.set e _=E;have u:F.sub E:=by subst f;exact aU
 have cl:E e=some (.cells [.J (ad b) c,.v (.bool P)]):=by subst f;exact U.ah _ _ _
 have k5:=r.mono u;have g:=u _ _ S;clear f;have a00:=U.af cl;have gd:=U.af g;have a01:=U.aJ g;cases P with
 |false=>refine aa ?_;grind
 |true=>
 refine aa ?_;refine bj (a0x E a.aV a.aW b _ _ _ a9p) ?_;refine aH (λk6=> ?_) λk6=> ?_;grind;refine eS (by simp[aN,R.cells]) a9q λi v=> ?_;have k:=k5.mono (U.ae (Y:= .cells (flat [R.J (ad b) c])) U.a1 v);have w:=U.ae (Y:= .cells (flat [R.J (ad b) c])) U.a1 v _ _ g;have k7:bM (E.set i (.cells (flat [R.J (ad b) c]))) 1 (.al i 1 1 1)=some (1,[R.J (ad b) c]):=oq rfl;generalize E.set i _=A at*;have a02:=fK r.l;have B:=s.len;obtain⟨a03,k8,H,a04,j⟩:=ar.wide k.l;refine aa ?_;refine fj k8 a9p k7 rfl (by simp[B];omega) (by simp[B];omega) λk9 I z=> ?_;have l:=z.1 _ _ (j y _ w k.ha);have a05:=U.af l;refine aa ?_;have m:az isRow (o++ [b]) (W++ [.J (ad b) c]):=s.snoc ⟨c,rfl⟩;have l0:=bS.dV z a9p m.flat.symm (m.cells λ_ _=>isRow.cells);refine ai (a0Y a.hs a.d X Y (o++ [b]) _ k9 I l0 m (λa06 S=> ?_) a9r a9q) ?_;grind;rintro l1 l2 ⟨l3,D,p,K,M⟩;have l4:=M.1 _ _ l;have a07:=U.af l4;refine aa ?_;refine ai (a0Z a.aV a.aW a.ht a.eW a.hs I l2 _ l1 M) ?_;rintro T N x;have a08:=fK x;have O:=x.1 _ _ l;have a09:=U.aJ O;have a10:=U.af O;refine aa ?_;rw[K.flat]at x;have l5: ∀ {h c},A h=some c->cQ G≠some h->N h=some c:=λr n=>x.1 _ _ (z.1 _ _ (j _ _ r n));have l6:V.sub N:=U.aq H (U.aq z.1 x.1);have l7: ∀ {d},cQ T=some d-> ∀ {c},A d=some c->cQ G≠some d->False:=λp _ r n=>by
  have:=ar.fresh x p;rw[z.1 _ _ (j _ _ r n)]at this;cases this
 have Q:cQ T≠some y:=λC=>l7 C w k.ha;have l8: ∀d,cQ L=some d->cQ G≠some d:=λd p C=>k.lw d C p;have l9: ∀d,cQ T=some d->cQ L≠some d:=λd p C=>by
  have a11:=k.w.has C;simp_all [Option.ne_none_iff_exists']
 have n0:D≠ []:=λC=>by simp_all
 obtain⟨h,a13,rfl⟩:=a6T n0;refine⟨_,U.a1,l3.take 1,[h],T,⟨k.gL,⟨k0,k1,k2,U.ah _ _ _⟩,ar.other (x.base (U.aq H z.1)) k.gL Q,(gC.fG k.w l6 λd c p n1=>l5 n1 (l8 d p)).other k.gL k.ka,Q,k.ka,l9⟩,K.take 1,h,rfl,?_⟩;have:h∈o++ [b]:=p.mem_iff.1 a9q;grind
theorem a1l (a:im) (L p:U) (r:Nat) (z:List R) (x:List (List Int)) (C:R) (P:List R) (S:R) (D:dJ a L p r z C P S) (y:az isRow x z) (j: ∀b∈x,b.length=a.d) (H:a.d<=8) (I:a.aV.length=a.d) (c:ay) (d h k:Own) (T:c.sum.length=32):
  AC Tryz.prog 72 [.ptr r 0,.agg (ab c d h k)] p λb l=>dJ a L l r z C P S/\ ∃V,b= .v (.bool V)/\(V=true->x.length=1):=by
 obtain⟨K,M,N,E⟩:=D.x;have O:=(aX (N:=d) (e5:=h) (h5:=k) T).all;have m:=y.len;obtain⟨Q,W,_,X⟩:=D.l.src;rw[a5t,m]at W;subst W;refine aO hm Lk ?_;refine bq λF n=> ?_;rw[hN];have q:F≠r:=by rintro rfl;rw[n]at E;cases E
 have Y:=q.symm;generalize G:p.set F _=o;have e:p.sub o:=by subst G;exact aU
 have cl:o F=some (.cells (ab c d h k)):=by subst G;exact U.ah _ _ _
 have s:=D.mono e;have t:=e _ _ E;clear G;generalize u:ab c d h k=Z at*;have j9:=U.af cl;have gd:=U.af t;refine aa ?_;refine aH (λv=> ?_) λv=> ?_
 .obtain⟨b,rfl⟩:=a6Q.1 (show x.length=1 by omega);have w:=bS.dV s.l a9p y.flat.symm (y.cells λ_ _=>isRow.cells);obtain⟨_,A,f,rfl⟩:=y.get (i:=0) (x:=b) rfl;obtain⟨g,i,B⟩:=w.get 0 _ A;have i:cR 1 C (.v (.int .i64 0))=some g:=i;have k0:dq false 1 o g=some (.J (ad b) f):=B.ld o U.a1 false 1 a9p (by simp[R.cells]);have k1:=j b a9q;have k2:((1:Nat):Int) - 1=0:=rfl;refine aa ?_;rw[<-u];refine bj (a1b a.aV a.aW a.ht a.eW a.hs d h k f c b T a9p a9p o) ?_;grind
 grind
theorem dJ.base {c:im}{d h k:U}{o:Nat}{p:List R}{r:R}{x:List R}{y:R} (a:dJ c h k o p r x y) (b:d.sub h):dJ c d k o p r x y:=by refine⟨U.bF b a.gL,a.x,a.l.base b,?_,a.ha,a.ka,a.lw⟩;obtain⟨z,C,D⟩:=a.w;refine⟨U.aq b z,C,D.imp_right ?_⟩;rintro⟨E,F,post,G,L,P⟩;exact⟨E,F,post,G,U.bF b L,P⟩
noncomputable def res (b:Nat->Prop) (c:U):U:=λa=>open Classical in if b a then none else c a
variable{j5:Nat -> Prop}
theorem r9 (a:j5 e):res j5 f e=none:=if_pos a
theorem oI (a: ¬j5 e):res j5 f e=f e:=if_neg a
theorem Fk:(res j5 f).sub f:=λa b c=>by
 grind[r9,oI]
def Fl (c:f.sub t):(res j5 f).sub (res j5 t):=λd h a=>by
 by_cases b:j5 d
 .rw[r9 b]at a;cases a
 .rw[oI b]at a|-;exact c _ _ a
def ar.res {a:Nat->Prop}{c d:U}{h:Nat}{k:List R}{b:R} (r:ar c d h k b) (x: ∀o,cQ b=some o-> ¬a o):ar (res a c) (res a d) h k b:=by obtain⟨y,z⟩:=r;refine⟨Fl y,z.imp_right ?_⟩;rintro⟨p,C,D,E,rfl,F,G,L⟩;have:=x p rfl;exact⟨p,C,D,E,rfl,by rw[oI this];exact F,by rw[oI this];exact G,L⟩
def kb (b:Nat) (c d:R) (a:Nat):Prop:=a=b\/cQ c=some a\/cQ d=some a
def dJ.wide {r:im} (a:dJ r t f e g n A b3):dJ r (res (kb e n b3) f) f e g n A b3/\t.sub (res (kb e n b3) f):=by
 have z:t.sub (res (kb e n b3) f):=λC S b=>by
  have: ¬kb e n b3 C:=by
   rintro(rfl|c|c)
   .rw[a.gL]at b;cases b
   .rw[ar.fresh a.l c]at b;cases b
   .obtain⟨_,_,⟨_,rfl|rfl⟩|⟨d,x,post,h,k,_,_,_,_,⟨rfl,_⟩|rfl⟩⟩:=a.w
    .cases c
    .cases c
    all_goals (obtain rfl:=a4G c;rw[k]at b;cases b)
  rw[oI this];exact a.l.1 _ _ b
 refine⟨⟨r9 (.inl rfl),a.x,?_,?_,a.ha,a.ka,a.lw⟩,z⟩
 .obtain⟨_,o⟩:=a.l;refine⟨Fk,o.imp_right ?_⟩;rintro⟨d,D,h,E,rfl,k,p⟩;exact⟨d,D,h,E,rfl,r9 (.inr (.inl rfl)),p⟩
 .obtain⟨_,o,F⟩:=a.w;refine⟨Fk,o,F.imp_right ?_⟩;rintro⟨d,x,post,h,k,p,G,L,P,y⟩;refine⟨d,x,post,h,r9 (.inr (.inr ?_)),p,G,L,P,y⟩;rcases y with ⟨rfl,_⟩|rfl<;>rfl
def dJ.sort {r:im} (a:dJ r t f e A b3 g n) (E:g≠ []): ∃b c post,f=W f b c post g/\oE 41 n b c.length g.length/\b≠e/\ ∀h,h.Perm g->dJ r t (W f b c post h) e A b3 h n:=by
 obtain⟨F,G,⟨d,_⟩|⟨b,c,post,L,o,P,S,T,V,p⟩⟩:=a.w
 .exact absurd d E
 have x:cQ n=some b:=by rcases p with ⟨rfl,_⟩|rfl<;>rfl
 have y:b≠e:=by rintro rfl;exact a.ka x
 refine⟨b,c,post,(U.sJ P).symm,⟨λz s=> ?_,a.w.len.1,a.w.len.2⟩,y,λh k=>⟨a.gL,?_,?_,⟨U.ae F o,λd i=>G d (k.mem_iff.1 i),.inr ⟨b,c,post,L,o,U.ah _ _ _,by rw[k.length_eq];exact S,T,by rw[k.length_eq];exact V,by rw[k.length_eq];exact p⟩⟩,a.ha,a.ka,a.lw⟩⟩
 .have C:(0:Int)<=(z:Int):=a9p;have D:(z:Int)<g.length:=a9p;rcases p with ⟨rfl,rfl⟩|rfl
  .rw[iZ C D,a5g,a4R,a5e]
  .rw[rX C D,a5g]
 .obtain⟨j,l,m,q⟩:=a.x;exact⟨j,l,m,(U.an _ _ y.symm).trans q⟩
 .refine ar.other a.l o λd=>a.lw _ d x
theorem dJ.tail {a:im}{z:R} (h:dJ a t f e A b3 (n::g) z): ∃b,c7 41 z (some (.v (.int .i64 1))) none none=some b/\b.cells= [b]/\(∀p r x,dJ a t (f.set e (.cells (lA a.gD a.aV a.aW a.ht a.eW a.hs a.d b3 p r x b))) e A b3 g b)/\
  ∃c o,cR 41 z (.v (.int .i64 0))=some (.ptr c o)/\dq true 37 f (.ptr c o)=some (.agg (n.cells.take 37)):=by
 obtain⟨l,P,⟨m,_⟩|⟨c,k,post,d,q,S,T,M,s,E⟩⟩:=h.w
 .cases m
 have V:cQ z=some c:=by rcases E with ⟨rfl,_⟩|rfl<;>rfl
 have N:c≠e:=by rintro rfl;exact h.ka V
 have W:n.cells.length=41:=P n a9q;have u:flat (n::g)=n.cells++flat g:=rfl;rw[a4M]at T s E;have C: ∀b:R,(cQ b=none\/cQ b=some c)->((g= []/\(b= .J [] .nil\/b= .J [] .zero))\/b= .bw c (k++n.cells).length g.length (d - 1) 41)-> ∀p r x,dJ a t (f.set e (.cells (lA a.gD a.aV a.aW a.ht a.eW a.hs a.d b3 p r x b))) e A b3 g b:=λb v F p r x=>by
  have i:cQ b≠some e:=λy=>by simp_all
  have w:gC t f g b:=by refine⟨l,λB H=>P B (by simp[H]),F.imp_right λF=> ?_⟩;refine⟨c,k++n.cells,post,d - 1,q,?_,a9p,a9p,a9p,.inr F⟩;rw[S,u];simp
  exact⟨h.gL,⟨p,r,x,U.ah _ _ _⟩,ar.other h.l h.gL h.ha,w.other h.gL i,h.ha,i,λO I y=>by
   rcases v with G|G
   .rw[G]at y;cases y
   .rw[G]at y;obtain rfl:=a4G y;exact h.lw _ I V⟩
 have D: ∀o,o=k.length->dq true 37 f (.ptr c o)=some (.agg (n.cells.take 37)):=λo K=>by
  subst K;have Q:=U.af S;have X:k.length+37<=(k++flat (n::g)++post).length:=by grind
  simp_all [dq,if_pos,aY,if_true,a4U,a7e,a6h]
 rcases E with ⟨rfl,rfl⟩|rfl
 .by_cases j:1<d
  .refine⟨.bw c (1*41) (g.length+1 - 1) (d - 1) 41,gn (e:=1) a9p T j,rfl,C _ (.inr rfl) (.inr ?_),c,0,?_,D 0 rfl⟩
   .simp[W]
   .exact iZ (b1:=0) a9p a9p
  .obtain rfl:d=1:=a9p;have L:g= []:=a4N a9p;subst L;refine⟨.J [] .zero,tS (e:=1) rfl,rfl,C _ (.inl rfl) (.inl ⟨rfl,.inr rfl⟩),c,0,?_,D 0 rfl⟩;exact iZ (b1:=0) a9p a9q
 .by_cases j:1<d
  .refine⟨.bw c (k.length+1*41) (g.length+1 - 1) (d - 1) 41,?_,rfl,C _ (.inr rfl) (.inr ?_),c,k.length,?_,D _ rfl⟩
   .have Y:(1:Int)<=((g.length+1:Nat):Int):=a9p;have c2:((g.length+1:Nat):Int)<=d:=a9p;have aI:(1:Int)<d:=a9p;simp_all [c7,cz,intOf,if_pos,trivial,a8n]
   .simp[W]
   grind[rX]
  .obtain rfl:d=1:=a9p;have L:g= []:=a4N a9p;subst L;refine⟨.J [] .zero,?_,rfl,C _ (.inl rfl) (.inl ⟨rfl,.inr rfl⟩),c,k.length,?_,D _ rfl⟩
   .simp[c7,cz,intOf]
   grind[rX]
section
variable (S:ag) (d:Nat) (lo hi:List Int)
inductive lB:ay->ay->Prop
 |refl (k:ay):lB k k
 |step {k a b:ay}{n:c4} (h:fp S d k=some n) (hk:a∈n.kids) (c:eu lo hi a=true) (o:lB a b):lB k b
def nA (h:ay) (a:List Int):Prop:= ∃b c,lB S d lo hi h b/\fp S d b=some c/\(a,true)∈c.rows/\jj lo hi a=true
end
def gh (a:ay):Nat:=2*a.size.toNat - 1
theorem yV (d h:List Int) (c:Nat): ∀(b:List ay),(∀a∈b,eu d h a=true->1<=a.size)->(∀a∈b,(c:Int)<=a.size)->c<=1->((((b.filter (eu d h)).map gh).sum:Nat):Int)+(b.length:Int)*c<=2*(b.map ay.size).sum/\0<=(b.map ay.size).sum
 | [],_,_,_=>by simp
 |a::b,o,p,he=>by
  have ih:=yV d h c b (λa k=>o a (by simp[k])) (λa k=>p a (by simp[k])) he;have r:=o a a9q;have x:=p a a9q;rw[a8c,a5h,a7X,a4M];grind[Int.natCast_add,Int.add_mul,gh]
def yW (a:eu q b6 w=true):w.live≠0:=by rw[eu,a4K]at a;exact of_decide_eq_true a.1
def lC (a:w.sum.length=32):putAt (List.replicate 32 (R.v (.int .u8 0))++ [R.J [] .nil,.J [] .nil]++ [.v (.int .i64 0),.v (.int .i64 0)]++ [.J [] .nil]) 0 (ab w N e5 h5)=ab w N e5 h5:=by have:=(aX (N:=N) (e5:=e5) (h5:=h5) a).len;rw[putAt,this];simp
variable{e0:c4}
def uZ (a:dW e e0=true): ∀b∈e0.kids,fo e b=true:=by simp only[dW,a4K,a4W]at a;exact a.1.2
def nB (b:fo e w=true):0<=w.size/\(w≠aA->1<=w.size)/\(w.live≠0->w≠aA):=by refine⟨(qL b).2.2.2.2.1,λa=> ?_,λc a=>c (by rw[a];rfl)⟩;simp only[fo,decide_eq_false a,a8t,a4K,a6l,a8i,decide_eq_false_iff_not]at b;omega
variable{H:ag}
theorem Fm (o:fp H e w=some e0):((e0.kids.filter (eu q b6)).map gh).sum<gh w/\1<=w.size:=by
 have h:=xT o;have z:w.size=e0.rows.length+(e0.kids.map ay.size).sum:=h.size;have k:=h.ok;simp only[dW,a4K]at k;obtain⟨⟨_,c⟩,a⟩:=k;have c:=a4W.1 c;have d: ∀w∈e0.kids,eu q b6 w=true->1<=w.size:=λw b d=>by
  obtain⟨_,p,r⟩:=nB (c w b);exact p (r (yW d))
 have x: ∀w∈e0.kids,((0:Nat):Int)<=w.size:=λw b=>(nB (c w b)).1;have y:=yV q b6 0 e0.kids d x a9p;rw[show(e0.kids.length:Int)*((0:Nat):Int)=0 from Int.mul_zero _]at y;have C:(gh w:Int)=2*w.size - 1\/w.size<1:=by unfold gh;omega
 split at a;grind;split at a;grind;split at a
 .simp only[a4K,decide_eq_true_eq,a4W,a6l,decide_eq_false_iff_not]at a;have D:=yV q b6 1 e0.kids d (λw b=>(nB (c w b)).2.1 (a.2 w b).2) a9p;omega
 .cases a
def ek (a:ag) (b:Nat):Nat->ay->Option (List (List Int))
 |0,_=>none
 |c+1,d=>if d.live=0 then some []else match kL a b d with
  |none=>none
  |some (h,bI)=>match ek a b c (bI.getD 0 aA),ek a b c (bI.getD 1 aA)with
   |some k,some o=>some ((if h.2=true then [h.1]else [])++k++o)
   | _,_=>none
def v7 {d:List Int×Bool}{o:List ay} (a:kL H e w=some (d,o)): ∃b c,o= [b,c]/\fp H e w=some (ck d b c)/\w.size=1+b.size+c.size/\0<=b.size/\0<=c.size/\d.1.length=e/\w.size<=1048576:=by
 unfold kL at a;split at a
 .cases a
 rename_i y h;split at a
 .rename_i p;simp only[a4S,a5U]at a;obtain⟨rfl,rfl⟩:=a;have k:=ER h;obtain⟨z,C,E⟩:=ES k p;have r:=xT h;obtain⟨F,rows,kids⟩:=y
  dsimp only at*
  obtain⟨d,rfl⟩:=a6Q.1 z
  match kids,C with
  | [b,c],_=>have D:=r.size;have x:=uZ k;subst p;simp only[a6e,a5h,a6y,a7X,List.sum_nil]at D;refine⟨b,c,rfl,h,a9p,(nB (x b a9q)).1,(nB (x c a9q)).1,(ll k).1 _ a9q,r.o6⟩
 .cases a
theorem ra {k:ag}{d:Nat}: ∀ {h:Nat}{c:ay}{b:List (List Int)},ek k d h c=some b->(b.length:Int)<=max 0 c.size/\ ∀o∈b,o.length=d
 |0,_,_,a=>by cases a
 |h+1,c,b,a=>by
  rw[ek]at a;split at a;grind;split at a
  .cases a
  rename_i y z p;split at a
  .rename_i C D r x;obtain rfl:=a4G a;obtain⟨E,F,rfl,_,G,L,P,S,_⟩:=v7 p;have T:=ra r;have V:=ra x;grind
  .cases a
theorem yX (L H:Nat) (h:ag) (c:Nat) (k2:1<=c) (k3:c<=8): ∀(d:Nat) (z:U) (_:bB z L H h) (p:ay) (P S T:Own),p.sum.length=32->p.cE->p.size.toNat<d->
  AC Tryz.prog 117 [dX L c,.agg (ab p P S T)] z λi C=>z.sub C/\match ek h c d p with
   |none=>i= .aL [.J [] .nil,.v (.int .i64 21)]
   |some rows=> ∃k r,i= .aL [r,.v (.int .i64 0)]/\ar z C 1 k r/\az isRow rows k
 |0,_,_,_,_,_,_,_,_,F=>by omega
 |d+1,z,k4,p,P,S,T,gE,n0,a34=>by
  have a36:=(aX (N:=P) (e5:=S) (h5:=T) gE).all;refine aO hm MH ?_;refine bq λj a38=> ?_;refine da λk5 a42 a43 a47=> ?_;generalize l:(z.set j _).set k5 _=m;have D:z.sub m:=by subst l;exact aU
  have c2:m j=some (.cells [.ptr L 0,.v (.int .i64 (c:Int))]):=by subst l;exact aU
  have aI:m k5=some (.cells (ab p P S T)):=by subst l;exact aU
  clear l;rw[ek];have a48:=U.af c2;have a52:=U.af aI;refine aH (λn=> ?_) λn=> ?_
  .exact⟨_,U.a1,D,[],.J [] .nil,rfl,ar.nil D,trivial⟩
  rw[if_neg n];refine ai (yn m L H h (k4.mono D) p P S T gE n0 c k2 k3) ?_;rintro i I ⟨G,q⟩;cases K:kL h c p with
  |none=>rw[K]at q;obtain rfl:=q;refine aa ?_;refine aP λs V=> ?_;refine aa ?_;exact U.ae (U.aq D G) (U.bF (U.aq D G) V)
  |some n1=>
   obtain⟨b,a56⟩:=n1;rw[K]at q;obtain⟨x,n2,rfl,a57,a61,k6,M⟩:=q;obtain⟨o,cb,rfl,a62,a63,a65,a68,a69,a71⟩:=v7 K;have a73:=fK k6;have t:=bS.dV k6 a9p rfl (M.cells λ_ _=>bs.cells);have N:=t.len;rw[M.len]at N;have N:ff n2=some (.v (.int .i64 2)):=N;refine aa ?_;refine aP λs V=> ?_;have k7:=G _ _ c2;have n3:j≠s:=by rintro rfl;rw[k7]at V;cases V
   have a74:=n3.symm;have u:=U.ae (Y:= .cells [.J (ad b.1) x,.v (.bool b.2)]) (U.a1 (f:=I)) V;have bC:=U.ah I s (.cells [.J (ad b.1) x,.v (.bool b.2)]);refine aa ?_;rw[U.set_set];have n4:=u _ _ k7;have t:=t.mono u;have O:=U.aq D (U.aq G u);have n5:=(k4.mono D).mono (U.aq G u);generalize I.set s _=v at*;have a81:=U.af bC;refine o5 [2,7] (λr:R=> [(9,r)]) (λr C=>v.sub C/\ ∃k,ar v C 1 k r/\az isRow (if b.2=true then [b.1]else []) k) (λn9=> ?_) (λn9=> ?_) ?_
   .refine aa ?_;refine eS (by simp[aN,R.cells]) a9q λa83 a00=> ?_;refine aa ?_;refine fj (ar.nil (U.ae U.a1 a00) (s0:=v)) a9p (oq rfl) rfl (by simp[flat,R.cells]) (by simp[flat,R.cells]) λa01 a02 k8=> ?_;refine aa ?_;exact⟨a01,⟨k8.1,_,k8,⟨⟨x,rfl⟩,trivial⟩⟩,rfl⟩
   .refine aa ?_;exact⟨_,⟨[],ar.nil U.a1,trivial⟩,rfl⟩
   rintro r a02 ⟨a84,k,a03,k9⟩ a86;refine aa ?_;obtain⟨own,l0⟩: ∃own,(if b.2=true then [b.1]else [])=own:=⟨_,rfl⟩;have a88:own.length<=1:=by subst l0;split<;>simp
   rw[l0]at k9
   let ac:Nat->List (List Int):=λa=>own++(if 0<a then(ek h c d o).getD []else [])++(if 1<a then(ek h c d cb).getD []else []);refine ch [2,34,35] (λb:Nat×R=> [(36,.v (.int .i64 (b.1:Int))),(9,b.2)]) (λb C=>b.1<=2/\(∃k,ar v C 1 k b.2/\az isRow (ac b.1) k)/\(0<b.1->(ek h c d o).isSome=true)/\(1<b.1->(ek h c d cb).isSome=true)) (λb=>2 - b.1) (0,r) ⟨⟨a9p,⟨k,a03,by simpa[ac] using k9⟩,λF=>absurd F (Nat.lt_irrefl 0),λF=>absurd F a9p⟩,aU⟩ ?_;rintro⟨a,a04⟩ Q ⟨a05,⟨a06,y,w⟩,X,l1⟩ a89
   dsimp only at a05 y w X l1
   refine aa ?_;refine aH (λn=> ?_) λn=> ?_
   .have a90:a<2:=a9p;obtain⟨_,Y,A,l2,W,e,f,rfl⟩:=M.get (i:=a) (x:= [o,cb].getD a aA) (by simp_all);obtain⟨a07,a92,l3⟩:=t.get a _ Y;have l4:=(aX (N:=W) (e5:=e) (h5:=f) A).all;have a08:dq true 37 Q a07=some (.agg (ab ([o,cb].getD a aA) W e f)):=by have:=l3.ld Q y.1 true 37 a9p (by rw[hN];omega);rw[this,aY,if_pos rfl,hN,l4.2.1]
    have a09:=lC (N:=W) (e5:=e) (h5:=f) A;have l5:([o,cb].getD a aA).size.toNat<d:=by
     obtain rfl|rfl:a=0\/a=1:=a9p
     .show o.size.toNat<d;omega
     .show cb.size.toNat<d;omega
    obtain⟨E,Z⟩: ∃E,[o,cb].getD a aA=E:=⟨_,rfl⟩;rw[Z]at Y A l2 l4 a08 a09 l5;clear l3 Y;refine aa ?_;refine aP λa10 j9=> ?_;have l6:=y.1 _ _ n4;have a11:j≠a10:=by rintro rfl;rw[l6]at j9;cases j9
    have a94:=a11.symm;have k0:=U.ae (Y:= .cells (ab E W e f)) (U.a1 (f:=Q)) j9;have a95:=U.af l6;refine aa ?_;refine ai (yX L H h c k2 k3 d _ (n5.mono (U.aq y.1 k0)) E W e f A l2 l5) ?_;rintro i a96 ⟨l7,B⟩;have a13:ek h c d E=if a=0 then ek h c d o else ek h c d cb:=by
     rw[<-Z];obtain rfl|rfl:a=0\/a=1:=a9p
     .rfl
     .rfl
    cases k1:ek h c d E with
    |none=>rw[k1]at B;obtain rfl:=B;refine aa ?_;refine⟨_,U.a1,U.aq O (U.aq y.1 (U.aq k0 l7)),?_⟩;grind
    |some iB=>
     rw[k1]at B a13;obtain⟨a97,a98,rfl,l8,l9⟩:=B;obtain⟨a99,a14,a15,b00⟩:=l8.src;have b01:=fK l8;have a16:=y.mono (U.aq k0 l7);have b02:=w.len;have b03:=l9.len;have b04:=(ra k1).1;have b05:(ac a).length<=3000000:=by
      have: ∀x:Option (List (List Int)),(∀g,x=some g->g.length<=1048576)->(x.getD []).length<=1048576:=λx F=>by
       cases x with
       |none=>simp
       |some g=>exact F g rfl
      have G:=this (ek h c d o) λg a18=>by have:=(ra a18).1;omega
      grind
     have b06:E.size<=1048576:=by
      rw[<-Z];obtain rfl|rfl:a=0\/a=1:=a9p
      .show o.size<= _;omega
      .show cb.size<= _;omega
     refine aa ?_;refine fj a16 a9p a15 a14 a9p a9p λa19 b07 a27=> ?_;refine aa ?_;refine⟨(a+1,a19),⟨by dsimp only;omega,⟨_,a27,?_⟩,?_,?_⟩,⟨rfl,rfl⟩,by dsimp only;omega⟩
     .have:ac (a+1)=ac a++iB:=by grind
      rw[this];exact w.append l9
     .intro _;obtain rfl|rfl:a=0\/a=1:=a9p;grind
      .exact X a9p
     grind
   .obtain rfl:a=2:=a9p;obtain⟨b08,a29⟩:=a5A.1 (X a9p);obtain⟨b09,a30⟩:=a5A.1 (l1 a9p);refine aa ?_;refine⟨_,U.a1,U.aq O y.1,?_⟩;refine⟨a06,a04,rfl,y.base O,?_⟩;simpa[ac,a29,a30] using w
end Go.Proofs.YtlgnfcaolejgeaaGreat
namespace Go.bA
open Go
def View.freeze {a:U}{b:R}{l:Nat}{cs:List R} (d:a l=some (.cells cs)):View a b (a.set l (.ro cs)) b:=λp r v h k=>by
 obtain⟨o,c⟩:=Step.freeze h d;exact⟨o,c,k.mono c.le⟩
variable{f t e7:U}{g A e1:List R}{e i v M c0 j0:Nat}
def View.Fo (b:f M=some (.ro g)) (c:e*i<=g.length):View f (.al M e c0 i) f (.J (dK i e g) .any):=λd k v a h=>⟨d,.refl a,aZ.frozen a b c h⟩
variable{u:bl}{l h8:World}
theorem aZ.frozenAt {v:Value} (k:Holds u f l) (o:f M=some (.ro g)) (S:e+i<=g.length) (p:aZ u v (.bw M e i c0 1)):aZ u v (.J ((g.drop e).take i) .any):=by
 obtain⟨r,d,T,V,W,h,j⟩:=k.dS M _ o;have m:d.size=g.length:=h.1;cases p with
 |bw M e i c0 n hk x=>
  have y: ∀b∈g.drop e,b.one=true:=λb z=>r b (a5n z);obtain⟨C,D,E⟩:=vW (i:=1) (e:=i) (g:=g.drop e) a9p (by rw[a4V];omega) y;rw[ky,a5t]at*;by_cases F:i=0
  .subst F;rw[a6q];exact .di _ _ _ (λG=>by cases G) trivial
  .refine .J M e i c0 1 (λa=>d.getD (e+a) Go.undef) _ .any hk E.symm x C ?_ ?_ ?_ trivial;grind;grind
   .intro a L c;rw[D]at c;have P:a<i:=by grind
    rw[a5K P,a7O]at c;exact h.2 (e+a) L c
def View.a1m (b:f M=some (.ro g)) (c:e+i<=g.length):View f (.bw M e i c0 1) f (.J ((g.drop e).take i) .any):=λd k v a h=>⟨d,.refl a,aZ.frozenAt a b c h⟩
end Go.bA
namespace Go.Proofs.YtlgnfcaolejgeaaGreat
open Go Go.bA
def a1n (p:List (List Int)) (a:List R) (h:Own) (b:U) (k:az isRow p a) (G:p.length<=4000000):
  AC Tryz.prog 311 [.J a h] b λr o=>ar b o 1 a r:=by
 have L:=k.len;refine mT λx=> ?_;have y:h= .nil->a= []:=λc=>by subst c;simpa using x a a9q
 refine bf hm RL a9q ?_;simp -dsimp -implicitDefEqProofs (disch:=first|omega|assumption|(simp only[aE,Nat.reduceAdd];try omega)) only[go_sem,simprocAttr,↓o8];refine o9 (λd=>by rw[y d]) (λd=> ?_) ?_
 .have z:a= []:=by simpa using d
  subst z;simp -dsimp -implicitDefEqProofs (disch:=first|omega|assumption|(simp only[aE,Nat.reduceAdd];try omega)) only[go_sem,simprocAttr,a5w];exact⟨b,U.a1,ar.nil U.a1⟩
 .simp -dsimp -implicitDefEqProofs (disch:=first|omega|assumption|(simp only[aE,Nat.reduceAdd];try omega)) only[go_sem,simprocAttr,nW];have C:bM b 1 (.J a h)=some (a.length,a):=by have D:=k.flat;have E:a.all (λc=>decide (c.cells.length=1))=true:=a4W.2 λc F=>decide_eq_true (k.cells (λ_ _=>isRow.cells) c F);simp only[bM,E,if_true,D]
  refine fj (ar.zero (U.a1 (f:=b))) a9p C a9p a9r a9r λr o d=> ?_;simp -dsimp -implicitDefEqProofs (disch:=first|omega|assumption|(simp only[aE,Nat.reduceAdd];try omega)) only[go_sem,simprocAttr];exact⟨o,U.a1,by simpa using d⟩
variable{n b3:R}{f t e7:U}{O:List (List Int)}{g A e1:List R}{e i v M c0 j0:Nat}
theorem Fp {y:List Int->List Int->Int} (l:nz e y) {z:List (List Int)} (C:ar t e7 1 g n) (D:az isRow O g) (m: ∀h∈O,h.length=e) (X:O.length<=4000000) (S:O≠ [])
  (T:z.Perm O) (q:z.Pairwise (λn p=> ¬y p n<0)) (r:FuncId) (E:List R) (F:f.sub e7) (s: ∀p,f p=none\/ ∃u,f p=some (.ro u)) (v:gk Tryz.prog r=true)
  (w: ∀c G x A,c.length=e->G.length=e->AC Tryz.prog r ([.J (ad c) x,.J (ad G) A]++E) f λh _=>h= .v (.int .i64 (y c G))):
  ∃a k,n= .al a O.length k 1/\O.length<=k/\AC Tryz.prog 118 [n,.bG r [] E] e7 λh o=>h= .aL []/\t.sub o/\f.sub o/\ ∃d V,az isRow z d/\o a=some (.ro (d++V))/\ar t (o.set a (.cells (d++V))) 1 d n:=by
 obtain⟨a,B,k,L,rfl,P,H,I,W,K,i,M⟩:=C.al (λY=>S (by have:=D.len;grind));rw[a5t]at I W K;have Z:=D.len;obtain rfl:B=O.length:=a9p;have N:0<O.length:=a5S.2 S;refine⟨a,k,rfl,i,?_⟩;refine(a1i l H D rfl W a9p N m T q r E F s v w).view λh o Q=> ?_;obtain⟨rfl,d,j,rfl⟩:=Q;have j9:=j.len;have k0:=T.length_eq;refine⟨.aL [],_,View.freeze (l:=a) (cs:=d++L.drop O.length) (U.ah _ _ _),rfl,?_,?_,d,L.drop O.length,j,U.ah _ _ _,?_⟩
 .rw[U.set_set];intro c x b;have:c≠a:=by rintro rfl;rw[P]at b;cases b
  rw[U.an _ _ this];exact C.1 _ _ b
 .rw[U.set_set];intro c x b;have:c≠a:=by rintro rfl;have:=F _ _ b;grind
  rw[U.an _ _ this];exact F _ _ b
 .rw[U.set_set,U.set_set];refine⟨λc x b=> ?_,.inr ⟨a,O.length,k,d++L.drop O.length,rfl,P,U.ah _ _ _,?_,?_,?_,i,M⟩⟩
  .have:c≠a:=by rintro rfl;rw[P]at b;cases b
   rw[U.an _ _ this];exact C.1 _ _ b
  simp_all;simp_all
  .omega
end Go.Proofs.YtlgnfcaolejgeaaGreat
namespace Go.bA
open Go
variable{s a7:R -> U -> Prop}{b4:FuncId}{f t e7:U}{g A e1:List R}{e i v M c0 j0:Nat}{m:Program}
def AC.fz (b:f e=some (.cells A)) (c:AC m b4 g (f.set e (.ro A)) s):AC m b4 g f s:=
 c.pre λo p r d h=>by
  obtain⟨k,a⟩:=Step.freeze h b;exact⟨k,d.mono a.le,a⟩
def U.one (a:Nat) (b:bp):U:=λc=>if c=a then some b else none
variable{Y:bp}
def U.a1o:U.one e Y e=some Y:=by simp[U.one]
theorem U.one_sub (b:f e=some Y):(U.one e Y).sub f:=λc d a=>by
 unfold U.one at a;simp_all
theorem U.a1p: ∀a,U.one e (.ro g) a=none\/ ∃b,U.one e (.ro g) a=some (.ro b):=λa=>by
 unfold U.one;grind
end Go.bA
namespace Go.Proofs.YtlgnfcaolejgeaaGreat
open Go Go.bA
variable{n b3:R}{f t e7:U}{O:List (List Int)}{g A e1:List R}{e i v M c0 j0:Nat}
def a1q {o:List (List Int)} (p:ar f e7 1 g n) (y:e7.sub t) (z:az isRow O g) (C: ∀a∈O,a.length=v) (D:O.length<=4000000) (E:O≠ []) (w:i<v) (A:v<=8)
  (F:o.Perm O) (G:o.Pairwise (λn L=> ¬cN i L n<0)) (P:t e=some (.cells [.v (.int .i64 (i:Int))])) (r:e7 e=none):
  ∃b h,n= .al b O.length h 1/\O.length<=h/\AC Tryz.prog 118 [n,.bG 336 [] [.ptr e 0]] t λa c=>a= .aL []/\f.sub c/\ ∃k x,az isRow o k/\c b=some (.ro (k++x))/\ar f (c.set b (.cells (k++x))) 1 k n:=by
 have S:f e=none:=U.bF p.1 r;have T:cQ n≠some e:=λV=>ar.has p V r;have W:=ar.other (p.mono y) (q:=e) (o:= .ro [.v (.int .i64 (i:Int))]) S T;obtain⟨b,h,rfl,j,l⟩:=Fp (pJ v i) W z C D E F G 336 [.ptr e 0] (U.one_sub (U.ah t e (.ro [.v (.int .i64 (i:Int))]))) U.a1p a9u (λm q s u B H=>(EG m q s u i _ e (by simp[U.read,U.a1o]) a9p a9p a9p).mono λa c d=>d.2);refine⟨b,h,rfl,j,AC.fz P (l.mono λa c d=> ?_)⟩;exact⟨d.1,d.2.1,d.2.2.2⟩
def iN (b:Nat):Nat->ag->List (List Int)->Nat->Except Int ay×ag
 |0,c,_,_=>(.ok aA,c)
 |o+1,c,a,dep=>if a= []then(.ok aA,c)else
  match iN b o c ((dI (dep%b) a).take (a.length/2)) (dep+1)with
  |(.error d,h)=>(.error d,h)
  |(.ok p,h)=>match iN b o h ((dI (dep%b) a).drop (a.length/2+1)) (dep+1)with
   |(.error d,k)=>(.error d,k)
   |(.ok r,k)=>du k b (ck ((dI (dep%b) a).getD (a.length/2) [],true) p r)
def oJ (h a:U) (b c:Nat) (d:Except Int ay×ag) (k:R):Prop:=bB a b c d.2/\Ext b c h a/\hc d.1 k
theorem hc.z:hc (.ok aA) (.aL [.agg (ab aA .nil .nil .nil),.v (.int .i64 0)]):=⟨bk,me,_,_,_,rfl⟩
theorem oJ.z {a b:U}{c d:Nat}{h:ag} (o:bB a c d h) (k:a.sub b):oJ a b c d (.ok aA,h) (.aL [.agg (ab aA .nil .nil .nil),.v (.int .i64 0)]):=⟨o.mono k,Ext.of k,hc.z⟩
theorem Fq (a c:Nat) (h:Nat) (k:Own) (o:Nat) (b:U) (d:ag) (x:bB b a c d):
  AC Tryz.prog 247 [dX a h,.J [] k,.v (.int .i64 (o:Int))] b λp r=>oJ b r a c (.ok aA,d) p:=by
 refine aO hm Br ?_;refine bq λy z=> ?_;refine da λC D E F=> ?_;refine⟨_,U.a1,?_⟩;grind[cr,List.take_of_length_le,aX,bk,oJ.z,U.ae,U.a1]
theorem yY (h C:Nat) (c:Nat) (i:1<=c) (j:c<=8): ∀(k:Nat) (a:List (List Int)) (D:List R) (G:Own) (dep:Nat) (r:U) (o:ag),bB r h C o->az isRow a D->(∀d∈a,d.length=c)->a.length<=k->k<=4000000->dep+k<=100000000->
  AC Tryz.prog 247 [dX h c,.J D G,.v (.int .i64 (dep:Int))] r λd a16=>oJ r a16 h C (iN c k o a dep) d
 |0,a,D,G,dep,r,o,L,P,B,a18,_,_=>by
  obtain rfl:a= []:=a4N a9p;obtain rfl:D= []:=a4N P.len;exact Fq h C c G dep r o L
 |k+1,a,D,G,dep,r,o,L,P,B,a18,a99,b00=>by
  have b01:=P.len;by_cases H:a= []
  .subst H;obtain rfl:D= []:=a4N P.len;rw[iN,if_pos rfl];exact Fq h C c G dep r o L
  have b02:0<a.length:=a5S.2 H;have b03: ¬(a.length:Int)=0:=a9p;have a19:=a6S dep i;have k0:=iN.eq_2 c o a dep k;rw[if_neg H]at k0;generalize iN c (k+1) o a dep=b04 at k0;obtain⟨l7,a27⟩:=sZ (e:=dep%c) B;have a29:=pB (dep%c) a;have l8: ∀d∈dI (dep%c) a,d.length=c:=λd l=>B d (l7.mem_iff.1 l);generalize dI (dep%c) a=E at*;refine aO hm Br ?_;refine bq λl9 a30=> ?_;refine da λm I b05 b06=> ?_;generalize K:(r.set l9 _).set m _=M;have n0:r.sub M:=by subst K;exact aU
  have aI:M l9=some (.cells [.ptr h 0,.v (.int .i64 (c:Int))]):=by subst K;exact aU
  have bC:M m=some (.cells (ab aA .nil .nil .nil)):=by subst K;rw[<-cr];exact aU
  clear K;have k1:=L.mono n0;refine ai (a1n a D G M P a9p) ?_;intro b07 a34 k2;refine aa ?_;have n1:=U.af (k2.1 _ _ aI);refine aa ?_;refine ai (EH h c dep i a9p j a34) ?_;rintro _ b08 ⟨n2,b09,S,n3,rfl⟩;refine aa ?_;obtain⟨x,p,rfl,a36,n4⟩:=a1q k2 n2 P B a9p H a19 j l7 a27 S n3;refine ai n4 ?_;rintro _ k3 ⟨rfl,n,F,k4,N,n5,n9⟩;have a00:=ar.fresh n9 (e:=x) rfl;clear n9;have b10:=N.len;have a38:=k1.mono n;have b11:=U.af (n _ _ aI);clear n4 k2 S n3 n2 n1;have b12:(a.length:Int).tdiv 2=((a.length/2:Nat):Int):=rfl;have b13:c7 1 (.al x a.length p 1) none (some (.v (.int .i64 ((a.length/2:Nat):Int)))) none=some (.al x (a.length/2) p 1):=hP a9p;generalize b14:a.length/2=b at*;have a42:b<a.length:=a9p;refine aa ?_;have b15:(F++k4).length=p\/True:= .inr trivial;have a43:(dep:Int)+1=((dep+1:Nat):Int):=rfl;rw[a43];have a47:View k3 (.al x b p 1) k3 (.J (F.take b) .any):=by have:=View.Fo (e:=b) (c0:=p) (i:=1) n5 (by rw[a4J];omega);rwa[ky,a6h a9p]at this
  refine ai (AC.nm (g:= [dX h c]) a47 (yY h C c i j k (E.take b) (F.take b) .any (dep+1) k3 o a38 (N.take b) (λd l=>l8 d (a4Z l)) (by rw[a4L];omega) a9p a9p)) ?_;rintro d k5 ⟨O,Q,k6⟩;generalize b16:iN c k o (E.take b) (dep+1)=qv at*;obtain⟨a48,a01⟩:=qv
  dsimp only at O k6
  have X:=L.cG a30;have y:=L.cG I;have Y:=k1.cG a00;have a02:=Q _ _ X.1 X.2 (n _ _ aI);have Z:=Q _ _ y.1 y.2 (n _ _ bC);have a52:=Q _ _ Y.1 Y.2 n5;have a03:=((Ext.of (l:=h) (lM:=C) (U.aq n0 n)).trans Q);cases a48 with
  |error a04=>
   obtain⟨k7,rfl⟩:=k6;refine aa ?_;refine aP λq z=> ?_;have k8:q≠m:=by rintro rfl;rw[Z]at z;cases z
   have a56:=k8.symm;have a57:=(aX (N:= .nil) (e5:= .nil) (h5:= .nil) bk).all;have a61:=lC (N:= .nil) (e5:= .nil) (h5:= .nil) bk;refine aa ?_;have a62:=U.aJ Z;have a63:=cF (a:= .nil) (b:= .nil) (c:= .nil) (N:= .nil) (e5:= .nil) (h5:= .nil) bk bk;rw[cr];refine aa ?_;refine⟨_,U.a1,?_⟩;exact⟨(O.mono (U.ae U.a1 z)).set y,(a03.trans (Ext.of (U.ae U.a1 z))).eb I,k7,rfl⟩
  |ok k9=>
   obtain⟨l0,a65,s,t,u,rfl⟩:=k6;refine aa ?_;refine aP λq z=> ?_;have k8:q≠m:=by rintro rfl;rw[Z]at z;cases z
   have a56:=k8.symm;have b17:=(aX (N:=s) (e5:=t) (h5:=u) l0).all;have b18:=lC (N:=s) (e5:=t) (h5:=u) l0;refine aa ?_;have T:=U.ae (Y:= .cells (ab k9 s t u)) (U.a1 (f:=k5)) z;have dr:=U.ah k5 q (.cells (ab k9 s t u));have a68:=O.mono T;have n1:=U.af (T _ _ a02);have a05:=T _ _ a52;have a69:=T _ _ Z;have a71:=T _ _ a02;have a73:=a03.trans (Ext.of T);rw[U.set_set];generalize k5.set q _=l1 at*;have a06: ∃v,c7 1 (.al x a.length p 1) (some (.v (.int .i64 ((b:Int)+1)))) none none=some v/\View l1 v l1 (.J (F.drop (b+1)) .any):=by
    by_cases S:b+1<p
    .refine⟨_,gn (e:=b+1) a9p a36 S,?_⟩;rw[a5t];have:=View.a1m (e:=b+1) (i:=a.length -(b+1)) (c0:=p -(b+1)) a05 (by rw[a4J];omega);grind
    .have a74:a.length=p:=a9p;have b19:b+1=a.length:=a9p;refine⟨_,by have:=tS (i:=1) (M:=x) (e2:= .i64) a74;rw[show(b:Int)+1=(a.length:Int) by omega];exact this,?_⟩;rw[a5v a9p];exact View.J
   obtain⟨l2,a06,a81⟩:=a06;refine aa ?_;refine ai (AC.nm (g:= [dX h c]) a81 (yY h C c i j k (E.drop (b+1)) (F.drop (b+1)) .any (dep+1) l1 a01 a68 (N.drop (b+1)) (λd l=>l8 d (a5n l)) (by rw[a4V];omega) a9p a9p)) ?_;rintro d j9 ⟨l3,w,l4⟩;generalize b20:iN c k a01 (E.drop (b+1)) (dep+1)=mU at*;obtain⟨cH,o4⟩:=mU
   dsimp only at l3 l4 k0
   have b21:=k1.cG a00;have a07:=O.cG z;have a83:=w _ _ X.1 X.2 a71;have l5:=w _ _ y.1 y.2 a69;have a84:=w _ _ Y.1 Y.2 a05;have a86:=w _ _ a07.1 a07.2 dr;have a08:=a73.trans w;cases cH with
   |error a04=>
    obtain⟨k7,rfl⟩:=l4;refine aa ?_;refine aP λA V=> ?_;have a88:A≠m:=by rintro rfl;rw[l5]at V;cases V
    have b22:=a88.symm;have a57:=(aX (N:= .nil) (e5:= .nil) (h5:= .nil) bk).all;have a61:=lC (N:= .nil) (e5:= .nil) (h5:= .nil) bk;have a62:=U.aJ l5;have a63:=cF (a:= .nil) (b:= .nil) (c:= .nil) (N:= .nil) (e5:= .nil) (h5:= .nil) bk bk;refine aa ?_;rw[cr];refine aa ?_;refine⟨_,U.a1,?_⟩;exact⟨(l3.mono (U.ae U.a1 V)).set y,(a08.trans (Ext.of (U.ae U.a1 V))).eb I,k7,rfl⟩
   |ok cb=>
    obtain⟨l6,a89,W,e,f,rfl⟩:=l4;refine aa ?_;refine aP λA V=> ?_;have b23:=(aX (N:=W) (e5:=e) (h5:=f) l6).all;have b24:=lC (N:=W) (e5:=e) (h5:=f) l6;refine aa ?_;rw[U.set_set];have g:=U.ae (Y:= .cells (ab cb W e f)) (U.a1 (f:=j9)) V;have b25:=U.af (U.ah j9 A (.cells (ab cb W e f)));have a90:=l3.mono g;have b26:=U.af (g _ _ a83);have b27:=U.af (g _ _ a86);have b28:(j9.set A (.cells (ab cb W e f))).read x=some (F++k4):=by have:=g _ _ a84;simp only[U.read,this]
    have a92:=g _ _ l5;have a94:=a08.trans (Ext.of g);generalize j9.set A _=a95 at*;obtain⟨_,a96,a09,rfl⟩:=N.get (i:=b) (x:=E.getD b []) (by simp[List.getD,a29,a42]);have b29:cR 1 (.al x a.length p 1) (.v (.int .i64 (b:Int)))=some (.ptr x (b*1)):=by grind[iZ,Int.toNat_natCast]
    have b30:aY false 1 (List.drop b (F++k4))= .J (ad (E.getD b [])) a09:=by obtain⟨a97,S⟩:=a4P.1 a96;rw[a6i a9p,a5c a97,S];rfl
    refine aa ?_;refine ai (uH a95 h C o4 a90 (E.getD b [],true) k9 cb a09 s t u W e f c i j l0 l6 a65 a89) ?_;rintro d b31 ⟨a98,a10,a11⟩;have b32:=U.aJ (a10 _ _ y.1 y.2 a92);obtain⟨b33,a13,l2,a14,a04,a15,rfl⟩:=a11.shape;have b34:=(aX (N:=a13) (e5:=l2) (h5:=a14) a15).all;have b35:=cF (a:= .nil) (b:= .nil) (c:= .nil) (N:=a13) (e5:=l2) (h5:=a14) bk a15;have b36:=(aX (N:= .nil) (e5:= .nil) (h5:= .nil) bk).len;refine aa ?_;refine⟨_,U.a1,?_⟩;exact⟨a98.set y,(a94.trans a10).eb I,a11⟩
def kQ (a:ag) (b:Nat) (c:ay) (h:Nat):Except Int ay×ag:=
 match ek a b (c.size.toNat+1) c with
 |none=>(.error 21,a)
 |some d=>iN b d.length a d h
def Fs (k:U) (h x:Nat) (c:ag) (o:bB k h x c) (a:ay) (E F G:Own) (e:a.sum.length=32) (A:a.cE) (b:Nat) (f:1<=b) (g:b<=8) (d:Nat) (Z:d<=10000000) (j9:a.size<=4000000):
  AC Tryz.prog 159 [dX h b,.agg (ab a E F G),.v (.int .i64 (d:Int))] k λL B=>oJ k B h x (kQ c b a d) L:=by
 have k0:=(aX (N:=E) (e5:=F) (h5:=G) e).all;have i:kQ c b a d=match ek c b (a.size.toNat+1) a with
  |none=>(.error 21,c)
  |some p=>iN b p.length c p d:=rfl
 generalize kQ c b a d=k1 at*;refine aO hm NV ?_;refine bq λj k2=> ?_;refine da λH k3 k4 k5=> ?_;refine hp λl y a3 a4 a5 dw=> ?_;generalize z:((k.set j _).set H _).set l _=C;have r:k.sub C:=by subst z;exact aU
 have aI:C j=some (.cells [.ptr h 0,.v (.int .i64 (b:Int))]):=by subst z;exact aU
 have bo:C l=some (.cells (ab aA .nil .nil .nil)):=by subst z;rw[<-cr];exact aU
 clear z;refine ai (yX h x c b f g (a.size.toNat+1) C (o.mono r) a E F G e A a9p) ?_;rintro L k6 ⟨P,D⟩;cases S:ek c b (a.size.toNat+1) a with
 |none=>rw[S]at D i;obtain rfl:=D;have I:=(aX (N:= .nil) (e5:= .nil) (h5:= .nil) bk).all;have k7:=cF (a:= .nil) (b:= .nil) (c:= .nil) (N:= .nil) (e5:= .nil) (h5:= .nil) bk bk;have K:=U.aJ (P _ _ bo);refine aa ?_;refine⟨_,U.a1,?_⟩;rw[cr,a4I (by rw[I.1];omega)];exact⟨((o.mono r).mono P).set (o.cG y),((Ext.of r).trans (Ext.of P)).eb y,a9t,rfl⟩
 |some p=>rw[S]at D i;obtain⟨M,k8,rfl,m,T⟩:=D;have n:=m;have k9:=U.af (m.1 _ _ aI);rw[<-T.flat]at n;obtain⟨N,O,V⟩:=ar.DJ n T;obtain⟨l0,Q⟩:=ra S;have W:=o.cG y;have l1:=(aX (N:= .nil) (e5:= .nil) (h5:= .nil) bk).len;refine aa ?_;have X:=AC.nm (m:=Tryz.prog) (g:= [dX h b]) (A:= [.v (.int .i64 (d:Int))]) O (yY h x b f g p.length p M .any d N c (((o.mono r)).mono V) T Q a9p a9p a9p);refine ai X ?_;rintro L l2 ⟨Y,q,s⟩;obtain⟨l3,t,u,v,l4,w,rfl⟩:=s.shape;have K:=U.aJ (q _ _ W.1 W.2 (V _ _ bo));have l5:=(aX (N:=t) (e5:=u) (h5:=v) w).all;have l6:=cF (a:= .nil) (b:= .nil) (c:= .nil) (N:=t) (e5:=u) (h5:=v) bk w;refine aa ?_;refine⟨_,U.a1,?_⟩;exact⟨Y.set W,(((Ext.of r).trans (Ext.of V)).trans q).eb y,s⟩
end Go.Proofs.YtlgnfcaolejgeaaGreat
namespace Go.bA
open Go
section
end
end Go.bA
namespace Go.Proofs.YtlgnfcaolejgeaaGreat
open Go Go.bA
def kR (k:ag) (c:Nat) (o:List Int×Bool) (d h:ay) (p:Nat):Except Int ay×ag:=
 match du k c (ck o d h)with
 |(.error r,a)=>(.error r,a)
 |(.ok b,a)=>if(2*b.size).tdiv 3+1<max d.size h.size then kQ a c b p else(.ok b,a)
def jl (b:Nat) (h:List Int):Nat->ag->ay->Nat->Except Int ay×ag
 |0,a,_,_=>(.error 21,a)
 |r+1,a,k,dep=>if k=aA then du a b (ck (h,true) k k)else match kL a b k with
  |none=>(.error 21,a)
  |some (d,bI)=>if d.1=h then(if d.2=true then(.error 8,a)else kR a b (d.1,true) (bI.getD 0 aA) (bI.getD 1 aA) dep)
   else if cN (dep%b) h d.1<0 then match jl b h r a (bI.getD 0 aA) (dep+1)with
    |(.error o,c)=>(.error o,c)
    |(.ok p,c)=>kR c b d p (bI.getD 1 aA) dep
   else match jl b h r a (bI.getD 1 aA) (dep+1)with
    |(.error o,c)=>(.error o,c)
    |(.ok p,c)=>kR c b d (bI.getD 0 aA) p dep
variable{w j2:ay}{e i v M c0 j0:Nat}{H:ag}
def Ft {h:ag}{k:List Int×Bool}{b:ay} (a:du H e (ck k w j2)=(.ok b,h)):b.size=1+w.size+j2.size/\0<=w.size/\0<=j2.size/\b.size<=1048576:=by
 unfold du at a;split at a
 .cases (a6z a).1
 .rename_i p o;simp only[a5U,Except.ok.injEq]at a;obtain⟨rfl,_⟩:=a;have c:=uw o;have d:=uZ c.ok;have:=c.size;simp only[ck,a6e,a5h,a6y,a7X,List.sum_nil]at this;exact⟨a9p,(nB (d w (by simp[ck]))).1,(nB (d j2 (by simp[ck]))).1,c.o6⟩
structure jm (cs:List R) (a b:ay):Prop where
 len:74<=cs.length
 bP:a.sum.length=32
 pK:a.cE
 cv:b.sum.length=32
 lY:b.cE
 cs: ∃nu nv c d h k r,cs=ab a nu nv c++(ab b d h k++r)
variable{n b3:R}{f t e7:U}{g A e1:List R}
theorem jm.of {s:U} (p:ar f s 37 (flat g) n) (r:az bs [w,j2] g): ∃a o b,n= .al a 2 o 37/\f a=none/\s a=some (.cells b)/\jm b w j2:=by
 match g,r with
 | [_,_],⟨⟨bP,pK,nu,nv,c,rfl⟩,⟨cv,lY,d,h,k,rfl⟩,_⟩=>
  have F:=(aX (N:=nu) (e5:=nv) (h5:=c) bP).len;have G:=(aX (N:=d) (e5:=h) (h5:=k) cv).len;have x:flat [R.agg (ab w nu nv c),.agg (ab j2 d h k)]=ab w nu nv c++ab j2 d h k:=by simp[flat,R.cells]
  rw[x]at p;obtain⟨a,y,o,b,rfl,z,C,L,D,E,P,_⟩:=p.al (λS=>by simp_all);rw[a4J]at E;obtain rfl:y=2:=a9p;refine⟨a,o,b,rfl,z,C,a9p,bP,pK,cv,lY,nu,nv,c,d,h,k,b.drop 74,?_⟩;rw[<-a4U,<-D,a5p]
def jm.ld (p:jm g j2 w): ∃h k o b c d,aY true 37 g= .agg (ab j2 h k o)/\aY true 37 (g.drop 37)= .agg (ab w b c d)/\aY false 1 (g.drop 35)= .v (.int .i64 j2.size)/\aY false 1 (g.drop 72)= .v (.int .i64 w.size):=by
 obtain⟨h,k,o,b,c,d,r,rfl⟩:=p.cs;have x:=(aX (N:=h) (e5:=k) (h5:=o) p.bP).len;have z:=(aX (N:=b) (e5:=c) (h5:=d) p.cv).len;have C: ∀a,a<=37->(ab j2 h k o++(ab w b c d++r)).drop a=(ab j2 h k o).drop a++(ab w b c d++r):=λa D=>a6i a9p;have y: ∀a,a<=37->(ab j2 h k o++(ab w b c d++r)).drop (37+a)=(ab w b c d).drop a++r:=λa D=>by
  rw[<-a5B,a7M x,a6i a9p]
 refine⟨h,k,o,b,c,d,?_,?_,?_,?_⟩
 .simp only[aY,if_true];rw[a6F x]
 .rw[y 0 a9p,a6U];simp only[aY,if_true];rw[a6F z]
 .rw[C 35 a9p,(aX p.bP).d35];rfl
 .rw[y 35 a9p,(aX p.cv).d35];rfl
variable{N e5 h5:Own}
theorem jm.Fu {k:ay} (a:jm g k j2) (o:w.sum.length=32) (y:w.cE):jm (putAt g 0 (ab w N e5 h5)) w j2:=by
 obtain⟨p,r,x,b,c,d,h,rfl⟩:=a.cs;have C:=(aX (N:=p) (e5:=r) (h5:=x) a.bP).len;have D:=(aX (N:=b) (e5:=c) (h5:=d) a.cv).len;have E:=(aX (N:=N) (e5:=e5) (h5:=h5) o).len;have z:putAt (ab k p r x++(ab j2 b c d++h)) 0 (ab w N e5 h5)=ab w N e5 h5++(ab j2 b c d++h):=by simp_all [putAt,a6q,a5b,a5e,a6i,a5v]
 rw[z];exact⟨by simp only[a4J];omega,o,y,a.cv,a.lY,_,_,_,_,_,_,h,rfl⟩
theorem jm.Fv {k:ay} (a:jm g j2 k) (o:w.sum.length=32) (y:w.cE):jm (putAt g 37 (ab w N e5 h5)) j2 w:=by
 obtain⟨b,c,d,p,r,x,h,rfl⟩:=a.cs;have C:=(aX (N:=b) (e5:=c) (h5:=d) a.bP).len;have D:=(aX (N:=p) (e5:=r) (h5:=x) a.cv).len;have E:=(aX (N:=N) (e5:=e5) (h5:=h5) o).len;have z:putAt (ab j2 b c d++(ab k p r x++h)) 37 (ab w N e5 h5)=ab j2 b c d++(ab w N e5 h5++h):=by grind[putAt,List.take_left',List.drop_drop,List.drop_left',List.append_assoc]
 rw[z];exact⟨by simp only[a4J];omega,a.bP,a.pK,o,y,_,_,_,_,_,_,h,rfl⟩
set_option maxHeartbeats 1600000 in
theorem Fw (k D:Nat) (a:Nat) (k5:1<=a) (X:a<=8) (c:List Int) (l:Own) (a13:c.length=a): ∀(V:Nat) (W:U) (p:ag) (_:bB W k D p) (o:ay) (r x y:Own) (dep:Nat),o.sum.length=32->o.cE->o.size.toNat<V->dep+V<=4000000->
  AC Tryz.prog 152 [dX k a,.agg (ab o r x y),.J (ad c) l,.v (.int .i64 (dep:Int))] W λY E=>oJ W E k D (jl a c V p o dep) Y
 |0,W,p,f,o,r,x,y,dep,gE,Z,a95,a96=>by omega
 |V+1,W,p,f,o,r,x,y,dep,gE,Z,a95,a96=>by
  have a97:=(aX (N:=r) (e5:=x) (h5:=y) gE).all;have b:=(jl.eq_2 a c p o dep V).symm;generalize jl a c (V+1) p o dep=a14 at*;refine aO hm NH ?_;refine bq λw a98=> ?_;refine da λz n3 b39 b40=> ?_;refine hp λm n a3 a4 a5 dw=> ?_;generalize k6:((W.set w _).set z _).set m _=q;have j9:W.sub q:=by subst k6;exact aU
  have aM:q w=some (.cells [.ptr k 0,.v (.int .i64 (a:Int))]):=by subst k6;exact aU
  have bo:q z=some (.cells (ab o r x y)):=by subst k6;exact aU
  have bu:q m=some (.cells (ab aA .nil .nil .nil)):=by subst k6;rw[<-cr];exact aU
  clear k6;have b41:=U.af aM;have b42:=U.af bo;have l6:=f.mono j9;have k0:=f.cG a98;have k1:=f.cG n3;have d:=f.cG n;by_cases k7:o=aA
  .subst k7;refine bj (ng aA r x y q gE Z) ?_;refine ai (uH q k D p l6 (c,true) aA aA l r x y r x y a k5 X gE gE Z Z) ?_;rintro Y b43 ⟨a99,a15,a16⟩;obtain⟨b00,k8,k9,l0,l1,l2,rfl⟩:=a16.shape;have l7:=U.aJ (a15 _ _ d.1 d.2 bu);have b01:=(aX (N:=k8) (e5:=k9) (h5:=l0) l2).all;have A:=(aX (N:= .nil) (e5:= .nil) (h5:= .nil) bk).len;have B:=cF (a:= .nil) (b:= .nil) (c:= .nil) (N:=k8) (e5:=k9) (h5:=l0) bk l2;rw[if_pos rfl]at b;refine aa ?_;refine⟨_,U.a1,?_⟩;rw[<-b];exact⟨a99.set d,((Ext.of j9).trans a15).eb n,a16⟩
  rw[if_neg k7]at b;refine bj (ng o r x y q gE Z) ?_;generalize a18:bT (Ctx.of Tryz.prog) (dM.seq (dM.block 0 _) _)=b44;refine ai (yn q k D p l6 o r x y gE Z a k5 X) ?_;rintro Y n4 ⟨H,l8⟩;cases n5:kL p a o with
  |none=>
   rw[n5]at l8 b;obtain rfl:=l8
   dsimp only at b
   refine aa ?_;refine aP λF e=> ?_;have b02:F≠m:=by rintro rfl;rw[H _ _ bu]at e;cases e
   have b45:=b02.symm;have l7:=U.aJ (H _ _ bu);subst a18;have A:=(aX (N:= .nil) (e5:= .nil) (h5:= .nil) bk).len;have B:=cF (a:= .nil) (b:= .nil) (c:= .nil) (N:= .nil) (e5:= .nil) (h5:= .nil) bk bk;refine aa ?_;refine⟨_,U.a1,?_⟩;rw[<-b,cr,a4I (by rw[A];omega)];exact⟨((l6.mono H).mono (U.ae U.a1 e)).set d,(((Ext.of j9).trans (Ext.of H)).trans (Ext.of (U.ae U.a1 e))).eb n,a9t,rfl⟩
  |some b03=>
   obtain⟨h,b46⟩:=b03;rw[n5]at l8 b;obtain⟨C,b47,rfl,b48,b49,b04,b05⟩:=l8;obtain⟨l9,cb,rfl,b50,b51,b52,b53,b06,b54⟩:=v7 n5;obtain⟨I,b55,G,rfl,g,a19,i⟩:=jm.of b04 b05;refine aa ?_;refine aP λF e=> ?_;refine aa ?_;have a27:=U.ae (Y:= .cells [.J (ad h.1) C,.v (.bool h.2)]) (U.a1 (f:=n4)) e;have ct:=U.ah n4 F (.cells [.J (ad h.1) C,.v (.bool h.2)]);have l3:=U.aq H a27;have n9:=l3 _ _ aM;have a29:=l3 _ _ bo;have a00:=l3 _ _ bu;have a30:=a27 _ _ a19;have a01:=l6.mono l3;have a02:=(Ext.of (l:=k) (lM:=D) j9).trans (Ext.of l3);have a03:W F=none:=U.bF j9 (U.bF H e);have n0:W I=none:=U.bF j9 g;have b56:I≠F:=by rintro rfl;rw[a19]at e;cases e
   generalize n4.set F _=K at*;subst a18;refine pa [2,3,4,5,8,10,11] (λ_:(List Int×Bool)×ay×ay×ag=> []) (λj E=>kR j.2.2.2 a j.1 j.2.1 j.2.2.1 dep=a14/\bB E k D j.2.2.2/\Ext k D W E/\(∃C,E F=some (.cells [.J (ad j.1.1) C,.v (.bool j.1.2)]))/\(∃G,E I=some (.cells G)/\jm G j.2.1 j.2.2.1)/\E w=some (.cells [.ptr k 0,.v (.int .i64 (a:Int))])/\E z=some (.cells (ab o r x y))/\E m=some (.cells (ab aA .nil .nil .nil))) ?_ ?_
   .have b07:=U.af ct;have b08:=U.af n9;refine aa ?_;simp only[a5q,a5x]at b;have b57:K F=some (.cells [.J (ad h.1) C,.v (.bool h.2)]):=ct;by_cases a04:h.1=c
    .rw[if_pos a04]at b;refine bj (ln h.1 c C l K a9p) ?_;cases a34:h.2 with
     |true=>rw[if_pos a34]at b;have A:=(aX (N:= .nil) (e5:= .nil) (h5:= .nil) bk).len;have B:=cF (a:= .nil) (b:= .nil) (c:= .nil) (N:= .nil) (e5:= .nil) (h5:= .nil) bk bk;have l7:=U.aJ a00;refine aa ?_;refine⟨_,U.a1,?_⟩;rw[<-b,cr,a4I (by rw[A];omega)];exact⟨a01.set d,a02.eb n,a9t,rfl⟩
     |false=>
      rw[if_neg (by rw[a34];decide)]at b;refine aa ?_;refine bj (ln c c C l K a9p) ?_;have b58:=U.aJ ct;refine aa ?_;have b09:w≠F:=by grind
      have b10:z≠F:=by grind
      have b11:m≠F:=by rintro rfl;exact absurd (H _ _ bu) (by rw[e];simp)
      refine⟨((h.1,true),l9,cb,p),b,a01.set (f.cG a03),a02.eb a03,⟨C,by rw[a04]⟩,⟨G,rfl,i⟩,?_,?_,?_⟩
      .rw[U.an _ _ b09];exact n9
      .rw[U.an _ _ b10];exact a29
      .rw[U.an _ _ b11];exact a00
    .rw[if_neg a04]at b;refine bj (ln h.1 c C l K a9p) ?_;refine bj (ln h.1 c C l K a9p) ?_;obtain⟨L,s,b59,b12,a36,b13⟩: ∃(L:Nat) (s:ay),L<2/\(if cN (dep%a) c h.1<0 then(0:Int)else 1)=(L:Int)/\(s.size.toNat<V/\s.sum.length=32/\s.cE)/\
       (match jl a c V p s (dep+1)with
        |(.error l1,k2)=>(.error l1,k2)
        |(.ok k7,k2)=>kR k2 a h (if L=0 then k7 else l9) (if L=0 then cb else k7) dep)=a14/\ ∃M N O,aY true 37 (G.drop (L*37))= .agg (ab s M N O):=by
      obtain⟨M,N,O,a05,a06,a07,a38,a42,_⟩:=i.ld;by_cases G:cN (dep%a) c h.1<0
      .rw[if_pos G]at b;exact⟨0,l9,a9p,by rw[if_pos G];rfl,⟨a9p,i.bP,i.pK⟩,b,M,N,O,a38⟩
      .rw[if_neg G]at b;exact⟨1,cb,a9p,by rw[if_neg G];rfl,⟨a9p,i.cv,i.lY⟩,b,a05,a06,a07,a42⟩
     obtain⟨b,M,N,O,b60⟩:=b13;obtain⟨b14,b15,b16⟩:=a36;have a43:=EI c h.1 l C k a dep a9p X a9p a13 b06 K;rw[b12]at a43;have b17:=U.af a30;have b18:=i.len;refine bj a43 ?_;have b19:(dep:Int)+1=((dep+1:Nat):Int):=rfl;rw[b19];refine ai (Fw k D a k5 X c l a13 V K p a01 s M N O (dep+1) b15 b16 b14 a9p) ?_;rintro Y b61 ⟨n1,k3,a47⟩;have Q:=f.cG n0;have a48:=f.cG a03;have b62:=k3 _ _ k0.1 k0.2 n9;have b63:=k3 _ _ k1.1 k1.2 a29;have b20:=k3 _ _ d.1 d.2 a00;have b21:=k3 _ _ Q.1 Q.2 a30;have b64:=k3 _ _ a48.1 a48.2 ct;have l7:=U.aJ b20;have b65:=U.aJ b21;have a52:=a02.trans k3;have b22:I≠m:=by rintro rfl;rw[bu]at g;cases g
     have b66:=b22.symm;have b67:w≠I:=by rintro rfl;rw[aM]at g;cases g
     have a56:z≠I:=by rintro rfl;rw[bo]at g;cases g
     have A:=(aX (N:= .nil) (e5:= .nil) (h5:= .nil) bk).all;have b68:L*37+37<=G.length:=a9p;generalize b69:jl a c V p s (dep+1)=b23 at*;obtain⟨oZ,b24⟩:=b23;cases oZ with
     |error l1=>
      obtain⟨a08,rfl⟩:=a47
      dsimp only at b n1
      have B:=cF (a:= .nil) (b:= .nil) (c:= .nil) (N:= .nil) (e5:= .nil) (h5:= .nil) bk bk;refine aa ?_;refine⟨_,U.a1,?_⟩;rw[<-b,cr,a4I (by rw[A.1];omega)];exact⟨(n1.set Q).set d,(a52.eb n0).eb n,a08,rfl⟩
     |ok a57=>
      obtain⟨a09,a61,P,S,T,rfl⟩:=a47
      dsimp only at b n1
      have a36:=(aX (N:=P) (e5:=S) (h5:=T) a09).all;refine aa ?_;refine⟨(h,(if L=0 then a57 else l9),(if L=0 then cb else a57),b24),b,n1.set Q,a52.eb n0,⟨C,rfl⟩,_,rfl,?_⟩;obtain rfl|rfl:L=0\/L=1:=a9p
      .exact i.Fu a09 a61
      .exact i.Fv a09 a61
   .rintro⟨a62,a63,a65,k2⟩ E ⟨t,b25,a68,⟨b26,b27⟩,⟨b70,a69,k4⟩,a10,b28,a71⟩ b71
    dsimp only at*
    have b07:=U.af b27;have b08:=U.af a10;have b17:=U.af a69;obtain⟨M,N,O,a05,a06,a07,a38,a42,b72,b73⟩:=k4.ld;have b18:=k4.len;refine aa ?_;have a73:=uH E k D k2 b25 a62 a63 a65 b26 M N O a05 a06 a07 a k5 X k4.bP k4.cv k4.pK k4.lY;refine ai a73 ?_;clear a73;rintro Y l4 ⟨n2,u,a74⟩;have b74:=U.af (u _ _ k0.1 k0.2 a10);have b29:=u _ _ k1.1 k1.2 b28;have b75:=U.aJ b29;have l7:=U.aJ (u _ _ d.1 d.2 a71);have Q:=f.cG n0;have b76:=U.af (u _ _ Q.1 Q.2 a69);have b30:z≠m:=dw;have b31:=b30.symm;unfold kR at t;generalize b32:du k2 a (ck a62 a63 a65)=b33 at*;obtain⟨qj,a81⟩:=b33;have A:=(aX (N:= .nil) (e5:= .nil) (h5:= .nil) bk).all;have b77:=a97;cases qj with
    |error l1=>
     obtain⟨a08,rfl⟩:=a74
     dsimp only at t n2
     have B:=cF (a:=r) (b:=x) (c:=y) (N:= .nil) (e5:= .nil) (h5:= .nil) gE bk;have b78:=cF (a:= .nil) (b:= .nil) (c:= .nil) (N:= .nil) (e5:= .nil) (h5:= .nil) bk bk;refine aa ?_;refine⟨_,U.a1,?_⟩;rw[<-t];exact⟨(n2.set k1).set d,((a68.trans u).eb n3).eb n,a08,rfl⟩
    |ok v=>
     obtain⟨l5,a83,P,S,T,rfl⟩:=a74;obtain⟨a84,b79,b80,b81⟩:=Ft b32
     dsimp only at t n2
     have B:=cF (a:=r) (b:=x) (c:=y) (N:=P) (e5:=S) (h5:=T) gE l5;have b82:=(aX (N:=P) (e5:=S) (h5:=T) l5).all;have b83:0<=(2*v.size).tdiv 3/\(2*v.size).tdiv 3<=3000000:=by grind
     have a56:I≠z:=by rintro rfl;rw[bo]at g;cases g
     have b84:=a56.symm;have a86:w≠z:=a9s;have b85:=a86.symm;have b86:=a84.symm;clear a84;refine aa ?_;have a88:bB (l4.set z (.cells (ab v P S T))) k D a81:=n2.set k1;have b34:=U.ah l4 z (.cells (ab v P S T));have b35:(l4.set z (.cells (ab v P S T))) w=some (.cells [.ptr k 0,.v (.int .i64 (a:Int))]):=by rw[U.an _ _ a86];exact u _ _ k0.1 k0.2 a10
     have a89:(l4.set z (.cells (ab v P S T))) m=some (.cells (ab aA .nil .nil .nil)):=by rw[U.an _ _ b31];exact u _ _ d.1 d.2 a71
     have a90:=(a68.trans u).eb (Y:= .cells (ab v P S T)) n3;generalize l4.set z _=b36 at*;have b87:=U.af b35;have b88:=U.af b34;have b37:=U.aJ a89;refine aH (λa11=> ?_) λa11=> ?_
     .rw[if_pos a11]at t;refine ai (Fs b36 k D a81 a88 v P S T l5 a83 a k5 X dep a9p a9p) ?_;rintro Y b89 ⟨b38,a92,a94⟩;obtain⟨b00,k8,k9,l0,l1,l2,rfl⟩:=a94.shape;have b37:=U.aJ (a92 _ _ d.1 d.2 a89);have b01:=(aX (N:=k8) (e5:=k9) (h5:=l0) l2).all;have B:=cF (a:= .nil) (b:= .nil) (c:= .nil) (N:=k8) (e5:=k9) (h5:=l0) bk l2;refine aa ?_;refine⟨_,U.a1,?_⟩;rw[<-t];exact⟨b38.set d,(a90.trans a92).eb n,a94⟩
     .rw[if_neg a11]at t;have B:=cF (a:= .nil) (b:= .nil) (c:= .nil) (N:=P) (e5:=S) (h5:=T) bk l5;refine⟨_,U.a1,?_⟩;rw[<-t];exact⟨a88.set d,a90.eb n,l5,a83,_,_,_,rfl⟩
def Fx (o:Except Int ay) (h:R):Prop:=
 match o with
 | .error k=>k≠0/\ ∃a b c d,a.sum.length=32/\h= .aL [.agg (ab a b c d),.v (.int .i64 k)]
 | .ok a=>a.sum.length=32/\a.cE/\ ∃b c d,h= .aL [.agg (ab a b c d),.v (.int .i64 0)]
def hc.x {a:Except Int ay} (b:hc a n):Fx a n:=by
 cases a with
 |error c=>exact⟨b.1,aA,_,_,_,bk,b.2⟩
 |ok d=>exact b
def yZ (h a:U) (b c:Nat) (d:Except Int ay×ag) (k:R):Prop:=bB a b c d.2/\Ext b c h a/\Fx d.1 k
def gF (b:Nat) (h:List Int):Nat->ag->ay->Nat->Except Int ay×ag
 |0,a,_,_=>(.error 21,a)
 |p+1,a,r,dep=>if r=aA then(.error 9,a)else match kL a b r with
  |none=>(.error 21,a)
  |some (d,bI)=>if d.1=h then(if d.2=true then du a b (ck (d.1,false) (bI.getD 0 aA) (bI.getD 1 aA))else(.error 9,a))
   else if cN (dep%b) h d.1<0 then match gF b h p a (bI.getD 0 aA) (dep+1)with
    |(.error k,c)=>(.error k,c)
    |(.ok o,c)=>du c b (ck d o (bI.getD 1 aA))
   else match gF b h p a (bI.getD 1 aA) (dep+1)with
    |(.error k,c)=>(.error k,c)
    |(.ok o,c)=>du c b (ck d (bI.getD 0 aA) o)
set_option maxHeartbeats 1600000 in
theorem Fy (k V:Nat) (b:Nat) (k5:1<=b) (Q:b<=8) (c:List Int) (f:Own) (n0:c.length=b): ∀(C:Nat) (D:U) (o:ag) (_:bB D k V o) (h:ay) (E F G:Own) (dep:Nat),h.sum.length=32->h.cE->h.size.toNat<C->dep+C<=4000000->
  AC Tryz.prog 158 [dX k b,.agg (ab h E F G),.J (ad c) f,.v (.int .i64 (dep:Int))] D λX r=>yZ D r k V (gF b c C o h dep) X
 |0,D,o,W,h,E,F,G,dep,gE,Y,a29,a30=>by omega
 |C+1,D,o,W,h,E,F,G,dep,gE,Y,a29,a30=>by
  have b12:=(aX (N:=E) (e5:=F) (h5:=G) gE).all;have a:=(gF.eq_2 b c o h dep C).symm;generalize gF b c (C+1) o h dep=n1 at*;refine aO hm NT ?_;refine bq λH a34=> ?_;refine da λI a36 b13 b14=> ?_;refine hp λt u a3 a4 a5 dw=> ?_;generalize K:((D.set H _).set I _).set t _=g;have v:D.sub g:=by subst K;exact aU
  have aM:g H=some (.cells [.ptr k 0,.v (.int .i64 (b:Int))]):=by subst K;exact aU
  have bo:g I=some (.cells (ab h E F G)):=by subst K;exact aU
  have bu:g t=some (.cells (ab aA .nil .nil .nil)):=by subst K;rw[<-cr];exact aU
  clear K;have b15:=U.af aM;have b16:=U.af bo;have Z:=W.mono v;have n2:=W.cG a34;have n3:=W.cG a36;have P:=W.cG u;by_cases M:h=aA
  .subst M;refine bj (ng aA E F G g gE Y) ?_;have j9:=U.aJ bu;have k0:=cF (a:= .nil) (b:= .nil) (c:= .nil) (N:=E) (e5:=F) (h5:=G) bk gE;have i:=(aX (N:= .nil) (e5:= .nil) (h5:= .nil) bk).len;rw[if_pos rfl]at a;refine aa ?_;refine⟨_,U.a1,?_⟩;rw[<-a];exact⟨Z.set P,(Ext.of v).eb u,a9t,aA,_,_,_,gE,rfl⟩
  rw[if_neg M]at a;refine bj (ng h E F G g gE Y) ?_;generalize n4:bT (Ctx.of Tryz.prog) (dM.seq (dM.block 0 _) _)=b17;refine ai (yn g k V o Z h E F G gE Y b k5 Q) ?_;rintro X k6 ⟨j,k1⟩;cases k7:kL o b h with
  |none=>
   rw[k7]at k1 a;obtain rfl:=k1
   dsimp only at a
   refine aa ?_;refine aP λx L=> ?_;have a38:x≠t:=by rintro rfl;rw[j _ _ bu]at L;cases L
   have b18:=a38.symm;have j9:=U.aJ (j _ _ bu);subst n4;have i:=(aX (N:= .nil) (e5:= .nil) (h5:= .nil) bk).len;have k0:=cF (a:= .nil) (b:= .nil) (c:= .nil) (N:= .nil) (e5:= .nil) (h5:= .nil) bk bk;refine aa ?_;refine⟨_,U.a1,?_⟩;rw[<-a,cr,a4I (by rw[i];omega)];exact⟨((Z.mono j).mono (U.ae U.a1 L)).set P,(((Ext.of v).trans (Ext.of j)).trans (Ext.of (U.ae U.a1 L))).eb u,a9t,aA,_,_,_,bk,rfl⟩
  |some a42=>
   obtain⟨d,b19⟩:=a42;rw[k7]at k1 a;obtain⟨p,b20,rfl,b21,b22,a43,a47⟩:=k1;obtain⟨k2,cb,rfl,b23,b24,b25,b26,a48,b27⟩:=v7 k7;obtain⟨w,b28,y,rfl,l,n5,S⟩:=jm.of a43 a47;refine aa ?_;refine aP λx L=> ?_;refine aa ?_;have n9:=U.ae (Y:= .cells [.J (ad d.1) p,.v (.bool d.2)]) (U.a1 (f:=k6)) L;have ct:=U.ah k6 x (.cells [.J (ad d.1) p,.v (.bool d.2)]);have N:=U.aq j n9;have k8:=N _ _ aM;have a00:=N _ _ bo;have k9:=N _ _ bu;have a01:=n9 _ _ n5;have l0:=Z.mono N;have l1:=(Ext.of (l:=k) (lM:=V) v).trans (Ext.of N);have l2:D x=none:=U.bF v (U.bF j L);have l3:D w=none:=U.bF v l;have b29:w≠x:=by rintro rfl;rw[n5]at L;cases L
   generalize k6.set x _=m at*;subst n4;refine pa [2,3,4,5,8,10,11] (λ_:(List Int×Bool)×ay×ay×ag=> []) (λT r=>du T.2.2.2 b (ck T.1 T.2.1 T.2.2.1)=n1/\bB r k V T.2.2.2/\Ext k V D r/\(∃p,r x=some (.cells [.J (ad T.1.1) p,.v (.bool T.1.2)]))/\(∃y,r w=some (.cells y)/\jm y T.2.1 T.2.2.1)/\r H=some (.cells [.ptr k 0,.v (.int .i64 (b:Int))])/\r I=some (.cells (ab h E F G))/\r t=some (.cells (ab aA .nil .nil .nil))) ?_ ?_
   .have a52:=U.af ct;have a56:=U.af k8;refine aa ?_;simp only[a5q,a5x]at a;have b30:m x=some (.cells [.J (ad d.1) p,.v (.bool d.2)]):=ct;by_cases l4:d.1=c
    .rw[if_pos l4]at a;refine bj (ln d.1 c p f m a9p) ?_;cases a02:d.2 with
     |false=>rw[if_neg (by rw[a02];decide)]at a;have i:=(aX (N:= .nil) (e5:= .nil) (h5:= .nil) bk).len;have k0:=cF (a:= .nil) (b:= .nil) (c:= .nil) (N:= .nil) (e5:= .nil) (h5:= .nil) bk bk;have j9:=U.aJ k9;refine aa ?_;refine⟨_,U.a1,?_⟩;rw[<-a,cr,a4I (by rw[i];omega)];exact⟨l0.set P,l1.eb u,a9t,aA,_,_,_,bk,rfl⟩
     |true=>
      rw[if_pos a02]at a;refine aa ?_;refine bj (ln c c p f m a9p) ?_;have b31:=U.aJ ct;refine aa ?_;have a57:H≠x:=by grind
      have a61:I≠x:=by grind
      have a62:t≠x:=by rintro rfl;exact absurd (j _ _ bu) (by rw[L];simp)
      refine⟨((d.1,false),k2,cb,o),a,l0.set (W.cG l2),l1.eb l2,⟨p,by rw[l4]⟩,⟨y,rfl,S⟩,?_,?_,?_⟩
      .rw[U.an _ _ a57];exact k8
      .rw[U.an _ _ a61];exact a00
      .rw[U.an _ _ a62];exact k9
    .rw[if_neg l4]at a;refine bj (ln d.1 c p f m a9p) ?_;refine bj (ln d.1 c p f m a9p) ?_;obtain⟨z,e,b32,a63,a03,a65⟩: ∃(z:Nat) (e:ay),z<2/\(if cN (dep%b) c d.1<0 then(0:Int)else 1)=(z:Int)/\(e.size.toNat<C/\e.sum.length=32/\e.cE)/\
       (match gF b c C o e (dep+1)with
        |(.error l5,O)=>(.error l5,O)
        |(.ok M,O)=>du O b (ck d (if z=0 then M else k2) (if z=0 then cb else M)))=n1/\ ∃n q s,aY true 37 (y.drop (z*37))= .agg (ab e n q s):=by
      obtain⟨n,q,s,l6,l7,l8,a04,a05,_⟩:=S.ld;by_cases y:cN (dep%b) c d.1<0
      .rw[if_pos y]at a;exact⟨0,k2,a9p,by rw[if_pos y];rfl,⟨a9p,S.bP,S.pK⟩,a,n,q,s,a04⟩
      .rw[if_neg y]at a;exact⟨1,cb,a9p,by rw[if_neg y];rfl,⟨a9p,S.cv,S.lY⟩,a,l6,l7,l8,a05⟩
     obtain⟨a,n,q,s,b33⟩:=a65;obtain⟨a68,a69,a71⟩:=a03;have a06:=EI c d.1 f p k b dep a9p Q a9p n0 a48 m;rw[a63]at a06;have a73:=U.af a01;have a74:=S.len;refine bj a06 ?_;have a81:(dep:Int)+1=((dep+1:Nat):Int):=rfl;rw[a81];refine ai (Fy k V b k5 Q c f n0 C m o l0 e n q s (dep+1) a69 a71 a68 a9p) ?_;rintro X b34 ⟨k3,A,a07⟩;have k4:=W.cG l3;have a08:=W.cG l2;have b35:=A _ _ n2.1 n2.2 k8;have b36:=A _ _ n3.1 n3.2 a00;have a83:=A _ _ P.1 P.2 k9;have a84:=A _ _ k4.1 k4.2 a01;have b37:=A _ _ a08.1 a08.2 ct;have j9:=U.aJ a83;have b38:=U.aJ a84;have a09:=l1.trans A;have a86:w≠t:=by rintro rfl;rw[bu]at l;cases l
     have b39:=a86.symm;have b40:H≠w:=by rintro rfl;rw[aM]at l;cases l
     have b41:I≠w:=by rintro rfl;rw[bo]at l;cases l
     have i:=(aX (N:= .nil) (e5:= .nil) (h5:= .nil) bk).all;have b42:z*37+37<=y.length:=a9p;generalize b43:gF b c C o e (dep+1)=a88 at*;obtain⟨oZ,a89⟩:=a88;cases oZ with
     |error l5=>
      obtain⟨a90,b44,a92,a94,a95,a96,rfl⟩:=a07
      dsimp only at a k3
      have k0:=cF (a:= .nil) (b:= .nil) (c:= .nil) (N:= .nil) (e5:= .nil) (h5:= .nil) bk bk;have b45:=(aX (N:=a92) (e5:=a94) (h5:=a95) a96).all;refine aa ?_;refine⟨_,U.a1,?_⟩;rw[<-a,cr,a4I (by rw[i.1];omega)];exact⟨(k3.set k4).set P,(a09.eb l3).eb u,a90,aA,_,_,_,bk,rfl⟩
     |ok a10=>
      obtain⟨l9,a11,a97,a98,a99,rfl⟩:=a07
      dsimp only at a k3
      have a03:=(aX (N:=a97) (e5:=a98) (h5:=a99) l9).all;refine aa ?_;refine⟨(d,(if z=0 then a10 else k2),(if z=0 then cb else a10),a89),a,k3.set k4,a09.eb l3,⟨p,rfl⟩,_,rfl,?_⟩;obtain rfl|rfl:z=0\/z=1:=a9p
      .exact S.Fu l9 a11
      .exact S.Fv l9 a11
   .rintro⟨b00,b01,b02,O⟩ r ⟨b03,b04,b05,⟨b06,b07⟩,⟨b46,b08,B⟩,b09,b47,b10⟩ b48
    dsimp only at*
    have a52:=U.af b07;have a56:=U.af b09;have a73:=U.af b08;obtain⟨n,q,s,l6,l7,l8,a04,a05,b49,b50⟩:=B.ld;have a74:=B.len;refine aa ?_;have a13:=uH r k V O b04 b00 b01 b02 b06 n q s l6 l7 l8 b k5 Q B.bP B.cv B.pK B.lY;refine ai a13 ?_;clear a13;rintro X b51 ⟨b11,a14,a15⟩;have j9:=U.aJ (a14 _ _ P.1 P.2 b10);obtain⟨b52,a16,a18,a19,l5,a27,rfl⟩:=a15.shape;have b53:=(aX (N:=a16) (e5:=a18) (h5:=a19) a27).all;have i:=(aX (N:= .nil) (e5:= .nil) (h5:= .nil) bk).len;have k0:=cF (a:= .nil) (b:= .nil) (c:= .nil) (N:=a16) (e5:=a18) (h5:=a19) bk a27;refine aa ?_;refine⟨_,U.a1,?_⟩;rw[<-b03];exact⟨b11.set P,(b05.trans a14).eb u,a15.x⟩
end Go.Proofs.YtlgnfcaolejgeaaGreat
