import Derived.Test.YtlgnfcaolejgeaaGreatME
import Derived.Test.YtlgnfcaolejgeaaGreatMC
import Derived.Test.YtlgnfcaolejgeaaGreatMD
import Derived.Test.YtlgnfcaolejgeaaGreatMB
import Derived.Shelf.SlSortCmp.NoneTotal
import Derived.Shelf.SlLaysF
import Derived.Test.YtlgnfcaolejgeaaGreatProg
set_option linter.all false
set_option maxRecDepth 100000
namespace Go.bA
open Go
theorem Z0 (a:Nat) (c:a<18446744073709551616):a^^^9223372036854775808=(a+9223372036854775808)%18446744073709551616:=by
 have h:(9223372036854775808:Nat)=2^63:=a9t;have d:(18446744073709551616:Nat)=2^64:=a9t;rw[d]at c;rw[h,d];apply a7o;intro b;rw[a8j,a9g,a8J,a8B];by_cases h1:b<63
 .rw[a8u h1];grind
 .by_cases k:b=63;grind
  .have o: ¬b<64:=a9p;have p:a.testBit b=false:=a6R (a5X c (a6w a9p a9p));grind
end Go.bA
namespace Go.Proofs.YtlgnfcaolejgeaaGreat
open Go Go.bA
theorem DY (a:Int):(cd a:Int)=(a+9223372036854775808)%18446744073709551616:=by grind[BitVec.ofInt,BitVec.toNat_ofInt,cd,BitVec.toNat_xor,Z0]
def Z1 (a:Int):IntKind.u64.wrap (IntKind.u64.wrap a+9223372036854775808)=(cd a:Int):=by rw[DY,kx,kx];omega
variable{b1:Int}
theorem DZ (a: -9223372036854775808<=b1) (b:b1<9223372036854775808):(cd b1:Int)=b1+9223372036854775808:=by rw[DY];omega
variable{b0:Type}
theorem uy {a b:List b0}{d:b0} (h:a.length=b.length) (k: ∀c<a.length,a.getD c d=b.getD c d):a=b:=
 a8E h λc o p=>by grind
theorem nn (a c:List Int) (o p:Own) (h:U) (D:a.length<=1000000000000):
  AC Tryz.prog 14 [.J (ad a) o,.J (ad c) p] h λr x=>x=h/\r= .v (.bool (decide (a=c))):=by
 have E:=bH (q:=a);have F:=bH (q:=c);have G:= @dO a;have L:= @dO c;refine aO hm JY ?_;refine aH (λy=> ?_) λy=> ?_
 .exact aR (by grind)
 refine gO [0,1] (λb:Nat=> [(5,.v (.int .i64 b))]) (λb=>b<=a.length/\ ∀d<b,a.getD d 0=c.getD d 0) (λb=>a.length - b) 0 ⟨a9p,λd z=>by omega⟩ aU ?_;rintro b ⟨P,k⟩ S;refine aa ?_;refine aH (λC=> ?_) λC=> ?_;rotate_left
 .exact aR (by simp[uy (a:=a) (b:=c) (d:=0) a9p (λd z=>k d a9p)])
 refine aH (λc2=> ?_) λc2=> ?_
 .exact aR (by grind)
 .exact⟨b+1,⟨a9p,upto k c2⟩,rfl,a9p⟩
variable{g A e1:List R}{e i v M c0 j0:Nat}
def az.at {b:b0->R->Prop}{a:List b0} (d:b0) (h:az b a g) (k:e<a.length): ∃c,g[e]? =some c/\b (a.getD e d) c:=h.get (by simp[List.getD,k])
theorem Z2 (b d:List (List Int)) (k o:List R) (z C:Own) (p:U) (r:az isRow b k) (x:az isRow d o) (P:b.length<=1000000000000) (D: ∀h∈b,h.length<=1000000000000):
  AC Tryz.prog 28 [.J k z,.J o C] p λh E=>E=p/\h= .v (.bool (decide (b=d))):=by
 have S:=r.len;have T:=x.len;refine aO hm Kk ?_;refine aH (λF=> ?_) λF=> ?_
 .exact aR (by grind)
 refine gO [0,1] (λa:Nat=> [(5,.v (.int .i64 a))]) (λa=>a<=b.length/\ ∀c<a,b.getD c []=d.getD c []) (λa=>b.length - a) 0 ⟨a9p,λc G=>by omega⟩ aU ?_;rintro a ⟨V,y⟩ W;refine aa ?_;refine aH (λL=> ?_) λL=> ?_;rotate_left
 .exact aR (by simp[uy (a:=b) (b:=d) (d:= []) a9p (λc G=>y c a9p)])
 obtain⟨_,e,_,rfl⟩:=r.at [] (e:=a) a9p;obtain⟨_,f,_,rfl⟩:=x.at [] (e:=a) a9p;refine lX (nn _ _ _ _ _ (D (b.getD a []) (by grind))) ?_;refine aH (λc2=> ?_) λc2=> ?_
 .exact aR (by grind)
 .exact⟨a+1,⟨a9p,upto y c2⟩,rfl,a9p⟩
def ie (a:Bool):UInt8:=if a=true then 1 else 0
def sM (a:List Int):List UInt8:=(a6.cb (a.map cd) 64).map ie
theorem np (a:List Int) (b:Nat):(a6.cb (a.map cd) b).length=a.length*b:=by rw[a6.Dk,a4T]
theorem Z3 (c:List Int) (P:Own) (o:U) (n:c.length<=1000):
  AC Tryz.prog 345 [.J (ad c) P] o λS k=> ∃C,bh o k 1 ((sM c).map ak) C/\S= .J ((sM c).map ak) C:=by
 have q:=bH (q:=c);have D:= @dO c;have T:(sM c).length=c.length*64:=by rw[sM,a4T,np]
 refine aO hm Ss ?_;refine ch [0] (λa:Nat×List UInt8×Own=> [(3,.J (a.2.1.map ak) a.2.2),(4,.v (.int .i64 ((a.1:Int) - 1)))]) (λa k=>a.1<=64/\a.2.1++(a6.cb (c.map cd) a.1).map ie=sM c/\bh o k 1 (a.2.1.map ak) a.2.2) (λa=>a.1) (64,[],.nil) ⟨⟨a9t,rfl,bh.nil U.a1⟩,aU⟩ ?_;rintro⟨x,E,V⟩ s ⟨y,p,h⟩ W
 dsimp only at y p h|-
 refine aa ?_;refine aH (λF=> ?_) λF=> ?_
 .obtain⟨b,rfl⟩: ∃b,x=b+1:=⟨x - 1,a9p⟩;have e:=congrArg List.length p;rw[a4J,T]at e;rw[a6.cb,a5N,<-a4U]at p;have f:((b+1:Nat):Int) - 1=(b:Int):=a9p;have t:IntKind.u64.wrap (b:Int)=(b:Int):=wrap_u64 a9p a9p;rw[f]at F|-;refine ch [0,4] (λa:Nat×List UInt8×Own=> [(3,.J (a.2.1.map ak) a.2.2),(5,.v (.int .i64 (a.1:Int)))]) (λa k=>a.1<=c.length/\E++((c.take a.1).map λg=>ie ((cd g).testBit b))=a.2.1/\bh o k 1 (a.2.1.map ak) a.2.2) (λa=>c.length - a.1) (0,E,V) ⟨⟨a9q,a9q,h⟩,aU⟩ ?_;clear h;rintro⟨r,G,i⟩ u ⟨j,z,h⟩ W
  dsimp only at j z h|-
  have v:G.length<=65000:=by grind
  refine aa ?_;refine aH (λl=> ?_) λl=> ?_
  .have w:=eT (a:=c) (b:=0) (e:=r) a9p;have A:=D (r:=r) a9p;clear D;generalize c.getD r 0=d at*;have B:bn .shr (.int .u64 (cd d:Int)) (.int .u64 (b:Int))=some (.int .u64 ((cd d>>>b:Nat):Int)):=by rw[s3 _ _ _ a9p a9p];simp
   have H:bn .rem (.int .u64 ((cd d>>>b:Nat):Int)) (.int .u64 2)=some (.int .u64 (((cd d>>>b)%2:Nat):Int)):=by simp only[bn,eK,gj,a5Q,if_false,if_true];rfl
   have I:IntKind.u8.wrap (((cd d>>>b)%2:Nat):Int)=((ie ((cd d).testBit b)).toNat:Int):=by
    rw[wrap_u8 a9p a9p];have:(cd d).testBit b=decide ((cd d>>>b)%2=1):=by simp
    rw[this,ie];rcases Nat.mod_two_eq_zero_or_one (cd d>>>b)with L|L<;>simp[L]
   have K:=Z1 d;refine Xc h λM m N y _=> ?_;exact⟨(r+1,_,m),⟨by simp only;omega,by grind,y⟩,⟨rfl,rfl⟩,by simp only;omega⟩
  .rw[a4I a9p]at z;refine⟨(b,G,i),⟨by simp only;omega,by simp only[<-z,<-p,a6.fM,a6J];rfl,h⟩,⟨rfl,rfl⟩,a9q⟩
 .obtain rfl:x=0:=a9p;grind[a6.cb,U.a1]
def Z4 (b:Nat) (c:List Bool) (a:Nat) (d:a<b):a6.iG (b - a) (c.drop (8*a))=UInt8.ofNat (a6.val ((c.drop (8*a)).take 8))::a6.iG (b -(a+1)) (c.drop (8*(a+1))):=by rw[show b - a=(b -(a+1))+1 by omega,a6.iG,a5B,show 8*(a+1)=8*a+8 by omega]
theorem xU: ∀(b:List Bool) (a:Bool),a6.val (b++ [a])=2*a6.val b+(if a=true then 1 else 0)
 | [],a=>by simp[a6.val]
 |c::b,a=>by
  simp only[a5I,a6.val,a4J,a4M,a4R,a5e,xU b a,a8D];split<;>omega
theorem Z5 (b:List Bool) (h:Nat) (l:b.length=8*h) (D:Own) (G:U) (O:h<=100000):
  AC Tryz.prog 344 [.J ((b.map ie).map ak) D] G λm z=> ∃W,bh G z 1 ((a6.iG h b).map ak) W/\m= .J ((a6.iG h b).map ak) W:=by
 refine bf hm Sq a9q ?_;have e:((b.map ie).map ak).length=8*h:=by simp[l]
 simp -dsimp -implicitDefEqProofs (disch:=first|omega|assumption|(simp only[aE,Nat.reduceAdd];try omega)) only[go_sem,simprocAttr,-List.reduceReplicate];refine cu (λd z=> ∃(a:Nat) (x:List UInt8) (C:Own),a<=h/\x++a6.iG (h - a) (b.drop (8*a))=a6.iG h b/\x.length=a/\bh G z 1 (x.map ak) C/\d 0= .J ((b.map ie).map ak) D/\d 3= .J (x.map ak) C/\d 4= .v (.int .i64 ((8*a:Nat):Int)))
  (λd _=>match d 4 with| .v (.int _ L)=>8*h - L.toNat| _=>0) ⟨0,[],.nil,a9p,rfl,rfl,bh.nil U.a1,?_⟩ ?_
 .simp -dsimp -implicitDefEqProofs (disch:=first|omega|assumption|(simp only[aE,Nat.reduceAdd];try omega)) only[go_sem,simprocAttr,-List.reduceReplicate]
 rintro d n ⟨a,x,C,Q,P,X,f,p,r,o⟩;by_cases g:((8*a:Nat):Int)+7<((8*h:Nat):Int)
 .rw[Z4 h b a a9p]at P;simp -dsimp -implicitDefEqProofs (disch:=first|omega|assumption|(simp only[aE,Nat.reduceAdd];try omega)) only[go_sem,simprocAttr,-List.reduceReplicate,p,r,o,e,g];refine cu (λd z=> ∃c:Nat,c<=8/\z=n/\d 0= .J ((b.map ie).map ak) D/\d 3= .J (x.map ak) C/\d 4= .v (.int .i64 ((8*a:Nat):Int))/\d 5= .v (.int .u8 (a6.val ((b.drop (8*a)).take c):Int))/\d 6= .v (.int .i64 c))
   (λd _=>match d 6 with| .v (.int _ L)=>8 - L.toNat| _=>0) ⟨0,a9p,rfl,?_⟩ ?_
  .simp -dsimp -implicitDefEqProofs (disch:=first|omega|assumption|(simp only[aE,Nat.reduceAdd];try omega)) only[go_sem,simprocAttr,-List.reduceReplicate,p,r,o];rfl
  have q:=o;clear p r o;rintro Y s ⟨c,Z,rfl,p,r,o,E,F⟩;by_cases i:(c:Int)<8
  .have S:b[8*a+c]? =some b[8*a+c]:=a4H a9p;have j:(b.drop (8*a)).take (c+1)=(b.drop (8*a)).take c++ [b[8*a+c]]:=by rw[a5W,a7O,S];rfl
   generalize b[8*a+c]'a9p=k at S j;have T:=a6.nh ((b.drop (8*a)).take (c+1));have V:a6.val ((b.drop (8*a)).take (c+1))<256:=a5X T (by
    have:((b.drop (8*a)).take (c+1)).length<=8:=by rw[a4L];omega
    exact a6w a9p this)
   rw[j,xU]at V;have t:cR 1 (.J ((b.map ie).map ak) D) (.v (.int .i64 (((8*a:Nat):Int)+(c:Int))))=some (.bV [.v (.int .u8 ((ie k).toNat:Int))]):=by rw[show((8*a:Nat):Int)+(c:Int)=((8*a+c:Nat):Int) by omega,hl a9p];rw[a5g,a5j,a5j,S];rfl
   have u:dq false 1 s (.bV [.v (.int .u8 ((ie k).toNat:Int))])=some (.v (.int .u8 ((ie k).toNat:Int))):=rfl;have j9:((ie k).toNat:Int)=if k=true then 1 else 0:=by cases k<;>rfl
   generalize k0:a6.val ((b.drop (8*a)).take c)=y at*;have k1:(if k=true then 1 else 0:Nat)<=1:=by split<;>omega
   have v:IntKind.u8.wrap (2*(y:Int))=((2*y:Nat):Int):=by rw[wrap_u8 a9p a9p];omega
   have w:IntKind.u8.wrap (((2*y:Nat):Int)+((ie k).toNat:Int))=((2*y+(if k=true then 1 else 0):Nat):Int):=by grind[wrap_u8]
   have A:bn .mul (.int .u8 2) (.int .u8 (y:Int))=some (.int .u8 ((2*y:Nat):Int)):=by rw[<-v];simp[bn,eK,gj]
   have B:bn .add (.int .u8 ((2*y:Nat):Int)) (.int .u8 ((ie k).toNat:Int))=some (.int .u8 ((2*y+(if k=true then 1 else 0):Nat):Int)):=by rw[<-w];simp[bn,eK,gj]
   simp -dsimp -implicitDefEqProofs (disch:=first|omega|assumption|(simp only[aE,Nat.reduceAdd];try omega)) only[go_sem,simprocAttr,-List.reduceReplicate,p,r,o,E,F,i,t,u,A,B];grind[xU]
  .obtain rfl:c=8:=a9p;simp -dsimp -implicitDefEqProofs (disch:=first|omega|assumption|(simp only[aE,Nat.reduceAdd];try omega)) only[go_sem,simprocAttr,-List.reduceReplicate,p,r,o,E,F,i];refine cI U.a1 (by simp[aN,R.cells]) λk2 k3 H=> ?_;simp -dsimp -implicitDefEqProofs (disch:=first|omega|assumption|(simp only[aE,Nat.reduceAdd];try omega)) only[go_sem,simprocAttr,-List.reduceReplicate,p,r,o,E,F];refine dp (f.mono H.sub) (by intro k4 I;obtain⟨k5,_,rfl⟩:=a5d.1 I;rfl) (by simp[aN,R.cells]) (by grind) (by grind) λk6 k7 K=> ?_;have T:=a6.nh ((b.drop (8*a)).take 8);have V:a6.val ((b.drop (8*a)).take 8)<256:=a5X T (by
    grind)
   have M:R.v (.int .u8 (a6.val ((b.drop (8*a)).take 8):Int))=ak (UInt8.ofNat (a6.val ((b.drop (8*a)).take 8))):=by show _=R.v (.int .u8 ((UInt8.ofNat (a6.val ((b.drop (8*a)).take 8))).toNat:Int));rw[a5L,a6v V]
   have N:x.map ak++ [R.v (.int .u8 (a6.val ((b.drop (8*a)).take 8):Int))]=(x++ [UInt8.ofNat (a6.val ((b.drop (8*a)).take 8))]).map ak:=by rw[M,a5N];rfl
   rw[N]at K|-;simp -dsimp -implicitDefEqProofs (disch:=first|omega|assumption|(simp only[aE,Nat.reduceAdd];try omega)) only[go_sem,simprocAttr,-List.reduceReplicate,p,r,o,E,F,q];grind
 .obtain rfl:a=h:=a9p;rw[a7h,a6.iG,a5R]at P;subst P;simp -dsimp -implicitDefEqProofs (disch:=first|omega|assumption|(simp only[aE,Nat.reduceAdd];try omega)) only[go_sem,simprocAttr,-List.reduceReplicate,p,r,o,e,g];exact⟨_,U.a1,C,f,rfl⟩
def codeF (a:List Int):List UInt8:=a6.iG (8*a.length) (a6.cb (a.map cd) 64)
def uz (a:List Int):(codeF a).length=8*a.length:=a6.Dq _ _
def E0 (a:List Int) (c:Own) (b:U) (d:a.length<=1000):
  AC Tryz.prog 315 [.J (ad a) c] b λh k=>b.sub k/\ ∃o,h= .J ((codeF a).map ak) o:=by
 refine bf hm RT a9q ?_;refine cn ?_;refine ai (Z3 a c b d) ?_;rintro _ p ⟨r,x,rfl⟩;refine cn ?_;refine ai (Z5 (a6.cb (a.map cd) 64) (8*a.length) (by rw[np];omega) r p a9p) ?_;rintro _ C ⟨y,z,rfl⟩;refine cn ?_;exact⟨_,U.a1,U.aq x.sub z.sub,y,rfl⟩
def kI (a b:List Int):Bool:=if a.length=b.length then Op.bytesLess (codeF a) (codeF b)else decide (a.length<b.length)
def Z6 (a b:List UInt8):ja .lss (bd a) (bd b)=some (.v (.bool (Op.bytesLess a b))):=by show(bn .lss (.string ⟨a.toArray⟩) (.string ⟨b.toArray⟩)).map R.v= _;simp only[bn,pZ,toList_mk,a5M]
theorem Z7 (a b:List Int) (d h:Own) (k:U):
  AC Tryz.prog 314 [.J ((codeF a).map ak) d,.J ((codeF b).map ak) h] k λy z=>z=k/\y= .v (.bool (kI a b)):=by
 refine bf hm RR a9q ?_;have o:((codeF a).map ak).length=8*a.length:=by rw[a4T,uz]
 have p:((codeF b).map ak).length=8*b.length:=by rw[a4T,uz]
 have r:mS (.J ((codeF a).map ak) d)=some (bd (codeF a)):=p5;have x:mS (.J ((codeF b).map ak) h)=some (bd (codeF b)):=p5;unfold kI;by_cases C:a.length=b.length
 .have c:((8*a.length:Nat):Int)=((8*b.length:Nat):Int):=a9p;refine ax (bC @o @p @c @r @x @Z6) ?_;exact⟨_,U.a1,rfl,by rw[if_pos C]⟩
 .have c: ¬((8*a.length:Nat):Int)=((8*b.length:Nat):Int):=a9p;refine ax (bo @o @p @c @r @x) ?_;refine⟨_,U.a1,rfl,?_⟩;simp_all
theorem E1 (a b:List Int) (d h:Own) (c:U) (o:a.length<=1000) (p:b.length<=1000):
  AC Tryz.prog 251 [.J (ad a) d,.J (ad b) h] c λr x=>c.sub x/\r= .v (.bool (kI a b)):=by
 refine bf hm QA a9q ?_;refine cn ?_;refine ai (E0 a d c o) ?_;rintro _ y ⟨D,z,rfl⟩;refine cn ?_;refine ai (E0 b h y p) ?_;rintro _ k ⟨E,C,rfl⟩;refine cn ?_;refine ai (Z7 a b z C k) ?_;rintro _ k ⟨rfl,rfl⟩;refine cn ?_;grind
theorem E2: ∀ {a b:List UInt8},a.length=b.length->Op.bytesLess a b=a6.sG a b
 | [],[],_=>rfl
 |h::a,k::b,c=>by
  have d:a.length=b.length:=by simpa using c
  simp only[Op.bytesLess,a6.sG,E2 d];grind
theorem E3 (d h:List Int): ∀(b:List (Int×Int)) (a:(Int×Int)×Nat),(b.map λc=>(cd c.1,cd c.2)).foldl a6.pick ((cd a.1.1,cd a.1.2),a.2)=((cd (b.foldl gQ a).1.1,cd (b.foldl gQ a).1.2),(b.foldl gQ a).2)
 | [],a=>rfl
 |c::b,a=>by
  simp only[a5h,a5O];rw[<-E3 d h b];grind[a6.pick,gQ]
structure bN (d:Nat) (p:List Int):Prop where
 len:p.length=d
 jU:cK p
def E4 (a b:List Int):(a.map cd).zip (b.map cd)=(a.zip b).map λc=>(cd c.1,cd c.2):=by rw[List.zip_map];rfl
theorem Z8 {b:(Int×Int)×Nat}: ∀(a:List (Int×Int)),(a.foldl gQ b).1=b.1\/(a.foldl gQ b).1∈a:=by
 intro a
 induction a generalizing b with
 |nil=>exact .inl rfl
 |cons d a ih=>
  rw[a5O];rcases ih (b:=gQ b d)with c|c
  .rw[c];unfold gQ;split
   .exact .inr a9q
   .exact .inl rfl
  .exact .inr (by simp[c])
variable{q b6:List Int}
theorem qQ (D:1<=e) (E:e<=8) (h:bN e q) (k:bN e b6):bx q b6=a6.lexB (a6.cb (q.map cd) 64) (a6.cb (b6.map cd) 64):=by
 unfold bx;have F:=h.len;have G:=k.len;rw[if_pos ⟨a9p,a9p,a9p⟩];have y:q.zip b6≠ []:=by intro d;have:=congrArg List.length d;simp_all
 obtain⟨a,b,c⟩: ∃a b,q.zip b6=a::b:=by
  cases z:q.zip b6 with
  |nil=>exact absurd z y
  |cons a b=>exact⟨a,b,rfl⟩
 have C:(q.zip b6).headD (0,0)=a:=by rw[c];rfl
 rw[C];have o:=a6.Dp 64 (q.map cd) (b6.map cd) a9r (λa c=>by
  obtain⟨L,P⟩:=a;have hm:=List.of_mem_zip c;obtain⟨p,_,rfl⟩:=a5d.1 hm.1;obtain⟨r,_,rfl⟩:=a5d.1 hm.2;exact a7x (n:=64) (ot _) (ot _)) (cd a.1,cd a.2) (by rw[E4,c];simp)
 rw[E4,E3 q b6 (q.zip b6) (a,0)]at o;rw[<-Bool.coe_iff_coe,decide_eq_true_eq];rw[<-o];simp only;have x:((q.zip b6).foldl gQ (a,0)).1∈q.zip b6:=by grind[Z8]
 generalize ((q.zip b6).foldl gQ (a,0)).1=d at x;obtain⟨p,r⟩:=d;have hm:=List.of_mem_zip x;have S:=h.jU p hm.1;have T:=k.jU r hm.2;grind[DZ]
theorem E5 (c:1<=e) (d:e<=8) (a:bN e q) (b:bN e b6):kI q b6=bx q b6:=by have h:=a.len;have k:=b.len;rw[qQ c d a b];unfold kI;rw[if_pos a9p,E2 (by rw[uz,uz];omega)];grind[codeF,a6.Dr,np]
def E6: ∀(c:List Int),∀b∈c.zip c,b.1=b.2
 | [],b,a=>by cases a
 |d::c,b,a=>by
  rw[List.zip_cons_cons]at a;rcases a5i.1 a with rfl|a
  .rfl
  .exact E6 c b a
theorem sN (a:List Int):bx a a=false:=by
 unfold bx;split
 .have: ∀(c:List (Int×Int)) (d:(Int×Int)×Nat),(∀b∈c,b.1=b.2)->d.1.1=d.1.2->(c.foldl gQ d).1.1=(c.foldl gQ d).1.2:=by
   intro c
   induction c with
   |nil=>intro d _ h;exact h
   |cons b c ih=>grind[gQ]
  have k: ∀b∈a.zip a,b.1=b.2:=E6 a;have o:((a.zip a).headD (0,0)).1=((a.zip a).headD (0,0)).2:=by
   cases h:a.zip a with
   |nil=>rfl
   |cons b c=>exact k b (by rw[h];simp)
  grind
 .rfl
theorem gy (d:1<=e) (h:e<=8):a6.Ord bx (bN e) where
 jf:=sN
 trans p r L b a x h1 k:=by rw[qQ d h b a]at h1;rw[qQ d h a x]at k;rw[qQ d h b x];exact a6.Yq (by rw[np,np,b.len,a.len]) (by rw[np,np,a.len,x.len]) h1 k
 total p r b a h1 k:=by
  rw[qQ d h b a]at h1;rw[qQ d h a b]at k;have:=a6.Yr (by rw[np,np,b.len,a.len]) h1 k;have F:=a6.Yo (c:=p.map cd) (d:=r.map cd) (by simp[b.len,a.len]) 64 this (λy z=>by obtain⟨o,_,rfl⟩:=a5d.1 z;exact ot o) (λy z=>by obtain⟨o,_,rfl⟩:=a5d.1 z;exact ot o);refine a8y λC=> ?_;have c:=congrArg (λG=>G[C]?) F;simp only[a5j]at c;cases E:p[C]? with
  |none=>grind
  |some y=>rw[E]at c;cases D:r[C]? with
   |none=>rw[D]at c;cases c
   |some o=>rw[D]at c;simp only[a5M,a4S]at c;have P:=b.jU y (a4O E);have S:=a.jU o (a4O D);grind[DZ]
variable{O:List (List Int)}
def iK (a:az isRow O g):aN 1 g:=a.cells λ_ _=>isRow.cells
theorem E7 {a:List Int->List Int->Bool} (d: ∀b<e,a (O.getD b []) q=true) (c:e<=O.length) (h:e<O.length->a (O.getD e []) q=false):a6.dQ a O q=O.take e++ [q]++O.drop e:=by
 rw[a4U];change _=O.take e++q::O.drop e
 induction O generalizing e with
 |nil=>simp at c;subst c;rfl
 |cons k O ih=>
  cases e with
  |zero=>grind[a6.dQ,List.takeWhile_cons,List.dropWhile_cons]
  |succ e=>have p:a k q=true:=d 0 a9p;have:=ih (λb r=>d (b+1) a9p) (by simpa using c) (λo=>h (by simpa using o));simp_all [a6.dQ,a5z,a6d,if_true,a5I,a6C,a6c]
theorem Z9 (b:List (List Int)) (L:List R) (W o:Own) (k:List Int) (y:U) (h:az isRow b L) (t:b.length<=1000) (e: ∀z∈b,z.length<=1000) (f:k.length<=1000):
  AC Tryz.prog 166 [.J L W,.J (ad k) o] y λz p=>y.sub p/\ ∃P C,z= .J P C/\az isRow (a6.dQ kI b k) P:=by
 have u:=h.len;have v:=iK h;refine aO hm O9 ?_;refine ch [0,1] (λa:Nat×List R×Own=> [(5,.J a.2.1 a.2.2),(6,.v (.int .i64 (a.1:Int)))]) (λa p=>a.1<=b.length/\(∀S<a.1,kI (b.getD S []) k=true)/\az isRow (b.take a.1) a.2.1/\bh y p 1 a.2.1 a.2.2) (λa=>b.length - a.1) (0,[],.nil) ⟨⟨a9q,λS w=>by omega,trivial,bh.nil U.a1⟩,aU⟩ ?_;rintro⟨d,A,on⟩ g ⟨D,r,c,x⟩ B
 dsimp only at D r c x|-
 have i:=c.len;rw[a4L]at i;refine aa ?_;refine aH (λj=> ?_) λj=> ?_
 .obtain⟨_,H,T,rfl⟩:=h.at [] (e:=d) a9p;have l:=eT (a:=b) (b:= []) (e:=d) a9p;refine cl (E1 (b.getD d []) k T o g (e _ (by grind)) f) ?_;rintro _ I ⟨V,rfl⟩;refine aa ?_;refine aH (λc2=> ?_) λc2=> ?_
  .refine o7 (x.mono V) (iK c) λ_ C p m _=> ?_;exact⟨(d+1,_,C),⟨by simp only;omega,upto r c2,by simp only[l];exact c.snoc ⟨T,rfl⟩,m⟩,⟨rfl,rfl⟩,by simp only;omega⟩
  .rw[E7 r D λ_=>c2];refine o7 (x.mono V) (iK c) λ_ n q E _=> ?_;refine kz E (Cr (iK c) rfl) (iK (h.drop d)) λF s G _=> ?_;exact⟨G.sub,_,F,rfl,(c.snoc ⟨o,rfl⟩).append (h.drop d)⟩
 .rw[E7 r D λ_=>by omega];refine o7 x (iK c) λ_ n q E _=> ?_;refine kz E (Cr (iK c) rfl) (iK (h.drop d)) λF s G _=> ?_;exact⟨G.sub,_,F,rfl,(c.snoc ⟨o,rfl⟩).append (h.drop d)⟩
def hf (a:Nat):List Nat:=(List.range (a6.bU a)).map λb=>a/a6.bU a+if b<a%a6.bU a then 1 else 0
def iL (a:List Nat):List R:=a.map λ(b:Nat)=>R.v (.int .i64 (b:Int))
def xV {a:Nat}:a6.bU a<=a:=by unfold a6.bU;omega
def uA {a:List Nat}:(iL a).length=a.length:=by simp[iL]
def E8 {a:List Nat}:aN 1 (iL a):=λc b=>by obtain⟨_,_,rfl⟩:=a5d.1 b;rfl
def uB {a:Nat}:(hf a).length=a6.bU a:=by simp[hf]
def xW {a b:Nat} (c:b<a6.bU a):(hf a).getD b 0=a/a6.bU a+if b<a%a6.bU a then 1 else 0:=by simp[hf,List.getD,c]
def E9 (a:Nat) (g:a<=1000) (o:U):
  AC Tryz.prog 253 [.v (.int .i64 (a:Int))] o λG d=>o.sub d/\ ∃L,G= .J (iL (hf a)) L:=by
 have P:(a:Int).tdiv 4=((a/4:Nat):Int):=rfl;have x:a6.bU a=if 4*(a/4)<a then a/4+1 else a/4:=by unfold a6.bU;split<;>omega
 refine aO hm QE ?_;refine o5 [0] (λ_:Unit=> [(3,.v (.int .i64 (a6.bU a:Int)))]) (λ_ d=>d=o) (λh=> ?_) (λh=> ?_) ?_
 .have h:=of_decide_eq_true h;rw[if_pos a9p]at x;have b:((a/4:Nat):Int)+1=(a6.bU a:Int):=a9p;exact aU
 .have h:=of_decide_eq_false h;rw[if_neg a9p]at x;have b:((a/4:Nat):Int)=(a6.bU a:Int):=a9p;exact aU
 rintro _ o rfl S;have i:iL []= []:=rfl;clear x P;have j:= @xV a;have T:= @uB a;have E:= @xW a;refine aa ?_;refine ch [0,3] (λc:Nat×Own=> [(4,.J (iL ((hf a).take c.1)) c.2),(5,.v (.int .i64 (c.1:Int)))]) (λc d=>c.1<=a6.bU a/\bh o d 1 (iL ((hf a).take c.1)) c.2) (λc=>a6.bU a - c.1) (0,.nil) ⟨⟨a9q,bh.nil U.a1⟩,aU⟩ ?_;rintro⟨k,V⟩ l ⟨W,p⟩ S
 dsimp only at W p|-
 have m:=a7L a (a6.bU a);have n:(a:Int).tdiv (a6.bU a:Int)=((a/a6.bU a:Nat):Int):=rfl;have q:(a:Int).tmod (a6.bU a:Int)=((a%a6.bU a:Nat):Int):=rfl;refine aa ?_;refine aH (λh=> ?_) λh=> ?_
 .have F:=E (k:=k) a9p;have y:=eT (a:=hf a) (b:=0) (e:=k) a9p;rw[F]at y;have z: ∀r:Nat,(if k<a%a6.bU a then 1 else 0)=r->iL ((hf a).take k)++ [R.v (.int .i64 ((a/a6.bU a+r:Nat):Int))]=iL ((hf a).take (k+1)):=λr b=>by
   rw[y,b,iL,iL,a5N];rfl
  have e:=z 0;have f:=z 1;clear E F y z T;generalize a/a6.bU a=r at*;generalize a%a6.bU a=s at*;generalize hf a=t at*;refine aH (λc2=> ?_) λc2=> ?_
  .have b:=f (if_pos a9p);refine o7 p E8 (λ_ C d D _=> ?_) (P:=by rw[uA,a4L];omega);exact⟨(k+1,C),⟨by simp only;omega,b▸D⟩,⟨by simp only[<-b];rfl,rfl⟩,by simp only;omega⟩
  .have b:=e (if_neg a9p);refine o7 p E8 (λ_ C d D _=> ?_) (P:=by rw[uA,a4L];omega);exact⟨(k+1,C),⟨by simp only;omega,b▸D⟩,⟨by simp only[<-b];rfl,rfl⟩,by simp only;omega⟩
 .rw[a4I a9p]at p|-;exact⟨p.sub,V,rfl⟩
def bt (c:U):(d:Nat)->a6.T d->R->Prop
 |0,a,h=> ∃b p k o,h= .ptr b 0/\c b=some (.cells [.J p k,.J [] o])/\az isRow (a6.rows a) p
 |d+1,a,h=> ∃b r k o,h= .ptr b 0/\c b=some (.cells [.J [] o,.J r k])/\az (bt c d) (a6.kids a) r/\a6.kids a≠ []/\(a6.kids a).length<=1000
def bt.fG {r x:U} (d:iz r x): ∀ {a:Nat}{b:a6.T a}{c:R},bt r a b c->bt x a b c
 |0,b,c,⟨h,y,k,eW,h1,o,p⟩=>⟨h,y,k,eW,h1,d _ _ o,p⟩
 |a+1,b,c,⟨h,z,k,eW,h1,o,p,C⟩=>⟨h,z,k,eW,h1,d _ _ o,p.mono λ_ _=>bt.fG d,C⟩
variable{f t e7:U}
def bt.mono (b:f.sub e7) {t:a6.T e}{a:R} (c:bt f e t a):bt e7 e t a:=c.fG (U.o3 b)
theorem bt.cells {d:U}{a:Nat}{h:a6.T a}{b:R} (c:bt d a h b):b.cells.length=1:=by
 cases a with
 |zero=>obtain⟨k,_,_,_,rfl,_⟩:=c;rfl
 |succ a=>obtain⟨k,_,_,_,rfl,_⟩:=c;rfl
def bt.ptr {d:U}{b:Nat}{o:a6.T b}{h:R} (k:bt d b o h): ∃a p r,h= .ptr a 0/\d a=some (.cells [p,r]):=by
 cases b with
 |zero=>obtain⟨a,_,_,_,rfl,c,_⟩:=k;exact⟨a,_,_,rfl,c⟩
 |succ b=>obtain⟨a,_,_,_,rfl,c,_⟩:=k;exact⟨a,_,_,rfl,c⟩
theorem Ea {k:Type}: ∀(a:Nat) (b:List k),a<=b.length-> ∀d∈a6.eX a b,d≠ []
 |0,b,_,d,c=>by cases c
 |a+1,b,p,d,c=>by
  have r:=a7K b.length (a+1);have hm:=a6S b.length (a9l a);have x:1<=b.length/(a+1):=(Nat.le_div_iff_mul_le (a9l a)).2 a9p;rw[a6.eX]at c;generalize b.length/(a+1)=h at*;generalize b.length%(a+1)=y at*;have z:(a+1)*h=a*h+h:=by rw[a5J];omega
  have C:a<=a*h:=a8I _ a9p;rcases a5i.1 c with rfl|c
  .intro o;have:=congrArg List.length o;grind
  .exact Ea a _ (by rw[a4V];split<;>omega) d c
def Za (a:List b0):a6.chunks a=(List.range (a6.bU a.length)).map λb=>(a.drop (b*(a.length/a6.bU a.length)+min b (a.length%a6.bU a.length))).take (a.length/a6.bU a.length+if b<a.length%a6.bU a.length then 1 else 0):=a6.Dv _ _
def fr (a b:Nat):Nat:=b*(a/a6.bU a)+min b (a%a6.bU a)
def xX (a:i<a6.bU e):fr e (i+1)=fr e i+(hf e).getD i 0:=by rw[xW a];unfold fr;rw[a5J];split<;>omega
def Eb (a:i<=a6.bU e):fr e i<=e:=by have:=a7K e (a6.bU e);have:=a4Y (e/a6.bU e) a;unfold fr;omega
def uC {a:List b0}:(a6.chunks a).length=a6.bU a.length:=nj.1
def Ec {a:List b0} (b:e<a6.bU a.length):(a6.chunks a).take (e+1)=(a6.chunks a).take e++ [(a.take (fr a.length (e+1))).drop (fr a.length e)]:=by rw[a5W,Za,a5j,a7a b,xX b,xW b,a6f];simp[fr]
def Ed (a:i<a6.bU e):(iL (hf e))[i]? =some (.v (.int .i64 ((hf e).getD i 0:Nat))):=by simp[iL,List.getD,uB,a]
def bt.c {a:List (a6.T e)} (b:az (bt f e) a g):aN 1 g:=b.cells λ_ _=>bt.cells
def Ee (a:List (List Int)) (o:List R) (G:Own) (p:U) (r:az isRow a o) (L:a.length<=1000):
  AC Tryz.prog 164 [.J o G] p λP d=>p.sub d/\ ∃k x,P= .J k x/\az (bt d 0) ((a6.chunks a).map a6.leaf) k:=by
 have s:=r.len;have t:=iK r;have u:=xV (a:=a.length);have v:(iL (hf a.length)).length=a6.bU a.length:=uA.trans uB;refine aO hm O5 ?_;refine cl (E9 a.length L p) ?_;rintro _ S ⟨T,w,rfl⟩;have A:fr a.length 0=0:=by simp[fr]
 refine aa ?_;refine ch [0,5] (λb:Nat×List R×Own=> [(3,.J b.2.1 b.2.2),(4,.v (.int .i64 (fr a.length b.1:Int))),(6,.v (.int .i64 (b.1:Int)))]) (λb d=>b.1<=a6.bU a.length/\az (bt d 0) (((a6.chunks a).take b.1).map a6.leaf) b.2.1/\bh S d 1 b.2.1 b.2.2) (λb=>a6.bU a.length - b.1) (0,[],.nil) ⟨⟨a9q,trivial,bh.nil U.a1⟩,aU⟩ ?_;rintro⟨c,k,V⟩ W ⟨e,h,y⟩ B
 dsimp only at e h y|-
 have f:=h.len;rw[a4T,a4L,uC]at f;refine aa ?_;refine aH (λg=> ?_) λg=> ?_
 .have H:=xX (e:=a.length) (i:=c) a9p;have I:=Eb (e:=a.length) (i:=c+1) a9p;have K:=Ed (e:=a.length) (i:=c) a9p;have i:=Ec (a:=a) (e:=c) a9p;have z:=(r.take (fr a.length (c+1))).drop (fr a.length c);generalize M:fr a.length (c+1)=C at*;generalize fr a.length c=D at*;generalize (hf a.length).getD c 0=j at*;have N:(D:Int)+(j:Int)=(C:Int):=a9p;refine sh (iK z) (λE l O=> ?_) (x:=by rw[a4V,a4L];omega);refine bq λF Q=> ?_;have m:=qz (f:=W) (t:=l.set F (.cells [.J ((o.take C).drop D) E,.J [] .nil]));refine o7 (y.mono m) (bt.c h) λ_ x d n q=> ?_;refine⟨(c+1,_,x),⟨by simp only;omega,?_,n⟩,⟨rfl,by simp only;congr 3;omega,rfl⟩,by simp only;omega⟩;simp only[i,a5N];exact(h.mono λ_ _=>bt.fG fX).snoc ⟨F,_,E,.nil,rfl,q _ _ (U.ah _ _ _),z⟩
 .rw[a4I (by rw[uC];omega)]at h;exact⟨_,U.a1,U.aq T y.sub,k,V,rfl,h⟩
theorem xY (z:U) (a:List (a6.T e)) (r:List R) (P:Own) (k:U) (x:az (bt z e) a r) (S:a.length<=1000) (T:z.sub k):
  AC Tryz.prog 165 [.J r P] k λV d=>k.sub d/\ ∃o y,V= .J o y/\az (bt d (e+1)) ((a6.chunks a).map a6.node) o:=by
 have A:=x.len;have B:=bt.c x;have W:=xV (a:=a.length);have H:(iL (hf a.length)).length=a6.bU a.length:=uA.trans uB;refine aO hm O7 ?_;refine cl (E9 a.length S k) ?_;rintro _ f ⟨C,I,rfl⟩;have K:fr a.length 0=0:=by simp[fr]
 refine aa ?_;refine ch [0,5] (λc:Nat×List R×Own=> [(3,.J c.2.1 c.2.2),(4,.v (.int .i64 (fr a.length c.1:Int))),(6,.v (.int .i64 (c.1:Int)))]) (λc d=>c.1<=a6.bU a.length/\az (bt d (e+1)) (((a6.chunks a).take c.1).map a6.node) c.2.1/\bh f d 1 c.2.1 c.2.2) (λc=>a6.bU a.length - c.1) (0,[],.nil) ⟨⟨a9q,trivial,bh.nil U.a1⟩,aU⟩ ?_;rintro⟨b,o,g⟩ i ⟨j,h,p⟩ M
 dsimp only at j h p|-
 have l:=h.len;rw[a4T,a4L,uC]at l;refine aa ?_;refine aH (λm=> ?_) λm=> ?_
 .have N:=xX (e:=a.length) (i:=b) a9p;have O:=Eb (e:=a.length) (i:=b+1) a9p;have Q:=Ed (e:=a.length) (i:=b) a9p;have n:=Ec (a:=a) (e:=b) a9p;have q:(a.take (fr a.length (b+1))).drop (fr a.length b)≠ []:=Ea (a6.bU a.length) a W _ (a4Z (i:=b+1) (by grind[a6.chunks]));have D:=(x.take (fr a.length (b+1))).drop (fr a.length b);generalize X:fr a.length (b+1)=E at*;generalize fr a.length b=F at*;generalize (hf a.length).getD b 0=s at*;have Y:(F:Int)+(s:Int)=(E:Int):=a9p;refine sh (bt.c D) (λG t Z=> ?_) (x:=by rw[a4V,a4L];omega);refine bq λL j9=> ?_;have u:=qz (f:=i) (t:=t.set L (.cells [.J [] .nil,.J ((r.take E).drop F) G]));have k0:=U.aq T (U.aq C p.sub);refine o7 (p.mono u) (bt.c h) λ_ y d v w=> ?_;refine⟨(b+1,_,y),⟨by simp only;omega,?_,v⟩,⟨rfl,by simp only;congr 3;omega,rfl⟩,by simp only;omega⟩;simp only[n,a5N];exact(h.mono λ_ _=>bt.fG fX).snoc ⟨L,_,G,.nil,rfl,w _ _ (U.ah _ _ _),D.mono λ_ _=>bt.fG fX,q,by simp[a6.fg];omega⟩
 .rw[a4I (by rw[uC];omega)]at h;exact⟨_,U.a1,U.aq C p.sub,o,g,rfl,h⟩
end Go.Proofs.YtlgnfcaolejgeaaGreat
namespace Go.a6
variable {lt:Row->Row->Bool}{ok:Row->Prop}
variable{e i v M c0 j0:Nat}{b0:Type}
def qR {a:List b0}{b:b0} (c:a[e]? =some b):a=a.take e++b::a.drop (e+1):=by obtain⟨d,rfl⟩:=a4P.1 c;simp
variable{h2:Row}
def uD (y:Ord lt ok) (z:ok h2) {a:List (T e)} (C:a≠ []) (k: ∀b∈a,1<=len b/\lp e b) (o:jg lt (a.flatMap (bc e))) (p: ∀c∈a.flatMap (bc e),ok c):
  ∃b,a[cV lt h2 (a.map (cS e))]? =some b/\(∀c∈(a.take (cV lt h2 (a.map (cS e)))).flatMap (bc e),lt c h2=true)/\(∀c∈(a.drop (cV lt h2 (a.map (cS e))+1)).flatMap (bc e),lt h2 c=true):=by
 have D:a.map (cS e)=(a.map (bc e)).map (·.headD []):=by rw[a6J];rfl
 rw[a8a]at o p;obtain⟨r,d,h⟩:=DB y z (a.map (bc e)) (by simpa using C) (λF E=>by
  obtain⟨b,x,rfl⟩:=a5d.1 E;exact xD (k b x).1 (k b x).2) o p
 rw[<-D]at r d h;rw[<-a7I,<-a8a]at d;rw[<-a7u,<-a8a]at h;exact⟨_,a4H (by simpa using r),d,h⟩
theorem qS (C:Ord lt ok) (P:ok h2): ∀(a:Nat) (c:T a),jQ a c->jg lt (bc a c)->(∀d∈bc a c,ok d)->h2∉bc a c->
  (eO lt h2 a c).flatMap (bc a)=dQ lt (bc a c) h2/\(∀b∈eO lt h2 a c,WF a b)/\1<=(eO lt h2 a c).length/\(eO lt h2 a c).length<=2:=by
 intro a
 induction a with
 |zero=>intro c D r o y;obtain⟨e,rfl⟩:=hZ c;obtain⟨z,E,_,_⟩:=D;rw[hy]at z E;obtain⟨F,G,b,_⟩:=Dz (h9:=dQ lt e h2) (by rw[ou];omega) (by rw[ou];omega);exact⟨Dx _,F,by simpa[eO,qM] using G,by simpa[eO,qM] using b⟩
 |succ a ih=>
  intro c D r o y;obtain⟨h,rfl⟩:=gv c;obtain⟨z,E,f,L⟩:=D;rw[dF]at z E L;have L:=L a9p;rw[fN]at r o y|-;have g: ∀b∈h,WF a b:=f;obtain⟨b,x,S,V⟩:=uD C P (a:=h) (by intro i;subst i;simp at z) (λb x=>by grind[hb]) r o;simp only[eO,fg];generalize cV lt h2 (h.map (cS a))=p at x S V;rw[x];have s:=qR x;have j:h.flatMap (bc a)=(h.take p).flatMap (bc a)++(bc a b++(h.drop (p+1)).flatMap (bc a)):=by grind
  rw[j]at r o y|-;have l:=(a5P.1 (a5P.1 r).2.1).1;obtain⟨m,t,u,v⟩:=ih b (jQ.of (g b (a4O x))) l (λd k=>o d (by simp[k])) (λk=>y (by simp[k]));have W:(h.take p++eO lt h2 a b++h.drop (p+1)).length=h.length - 1+(eO lt h2 a b).length:=by grind
  obtain⟨F,G,n,_⟩:=DA (a:=h.take p++eO lt h2 a b++h.drop (p+1)) (by rw[W];omega) (by rw[W];omega) (λd k=>by
   grind)
  refine⟨?_,F,by simpa using G,by simpa using n⟩;simp only[];rw[Dy,a5D,a5D,m,xE S,Yt (b:=bc a b),a4U];intro d k;cases q:lt d h2 with
  |false=>rfl
  |true=>have:=C.trans d h2 d (o d (by simp[k])) P (o d (by simp[k])) q (V d k);rw[C.jf]at this;cases this
theorem Ef {a b:T e} (k:lp e a) (o:lp e b) (d:2<=len a+len b) (h:len a+len b<=5):
  (kD a b).flatMap (bc e)=bc e a++bc e b/\(∀c∈kD a b,WF e c)/\1<=(kD a b).length/\(kD a b).length<=2:=by
 cases e with
 |zero=>obtain⟨a,rfl⟩:=hZ a;obtain⟨b,rfl⟩:=hZ b;grind[hy,Dz,kD,qM,kC,Dx]
 |succ e=>obtain⟨a,rfl⟩:=gv a;obtain⟨b,rfl⟩:=gv b;rw[dF,dF]at d h;obtain⟨r,x,y,_⟩:=DA (a:=a++b) (by simpa using d) (by simpa using h) (λc p=>(a5a.1 p).elim (k c) (o c));grind[kD,fg,fN,Dy]
variable{h9:List Row}
theorem filter_none (b:h2∉h9):h9.filter (λa=>decide (a≠h2))=h9:=by rw[a8l];grind
theorem Zb (b:jg lt h9) (d: ∀h2,lt h2 h2=false):h9.length - 1<=(h9.filter λc=>decide (c≠h2)).length:=by
 induction h9 with
 |nil=>simp
 |cons a h9 ih=>
  have h:=a5r.1 b;by_cases bP:a=h2
  .subst bP;have:a∉h9:=λk=>by grind
   rw[a8K a9q,filter_none this];simp
  simp_all
theorem pw (E:Ord lt ok) (w:ok h2): ∀(a:Nat) (h:T a),jQ a h->jg lt (bc a h)->(∀d∈bc a h,ok d)->
  bc a (cM lt h2 a h)=(bc a h).filter (λd=>decide (d≠h2))/\lp a (cM lt h2 a h)/\len h - 1<=len (cM lt h2 a h)/\len (cM lt h2 a h)<=4:=by
 intro a
 induction a with
 |zero=>intro h P o x;obtain⟨Q,rfl⟩:=hZ h;obtain⟨F,G,_,_⟩:=P;rw[hy]at F G;simp only[cM,qM,kC,hy]at o|-;exact⟨trivial,trivial,Zb o E.jf,by grind⟩
 |succ a ih=>
  intro h P o x;obtain⟨b,rfl⟩:=gv h;obtain⟨F,G,A,S⟩:=P;rw[dF]at F G S;have S:=S a9p;rw[fN]at o x|-;have V: ∀p∈b,WF a p:=A;obtain⟨p,y,i,j⟩:=uD E w (a:=b) (by intro z;subst z;simp at F) (λp y=>by grind[hb]) o x;simp only[cM,fg,dF];generalize cV lt h2 (b.map (cS a))=c at y i j;rw[y];simp only[fg,dF,fN];have X:=qR y;obtain⟨B,_⟩:=a4P.1 y;have H:b.flatMap (bc a)=(b.take c).flatMap (bc a)++(bc a p++(b.drop (c+1)).flatMap (bc a)):=by grind
  have Y:=o;have Z:=x;rw[H]at o x;have l:=V p (a4O y);have j9:=hb.1 l;obtain⟨I,L,K,m⟩:=ih p (jQ.of l) (a5P.1 (a5P.1 o).2.1).1 (λd C=>x d (by simp[C]));generalize cM lt h2 a p=d at I L K m;have k0:((b.take c).flatMap (bc a)).filter (λd=>decide (d≠h2))=(b.take c).flatMap (bc a):=filter_none λC=>by
   have:=i h2 C;rw[E.jf]at this;cases this
  have k1:((b.drop (c+1)).flatMap (bc a)).filter (λd=>decide (d≠h2))=(b.drop (c+1)).flatMap (bc a):=filter_none λC=>by
   have:=j h2 C;rw[E.jf]at this;cases this
  have n:(b.flatMap (bc a)).filter (λd=>decide (d≠h2))=(b.take c).flatMap (bc a)++(bc a d++(b.drop (c+1)).flatMap (bc a)):=by grind
  rw[n];unfold lq;by_cases W:2<=len d
  .rw[if_pos W];have z:b.set c d=b.take c++d::b.drop (c+1):=by rw[a6b,if_pos B]
   refine⟨by grind,λq D=> ?_,a9q,by simpa using G⟩;rw[fg,z]at D;simp only[a5a,a5i]at D;rcases D with D|rfl|D;grind
   .exact hb.2 ⟨W,m,L⟩
   grind
  .rw[if_neg W];have k2:len d=1:=a9p;by_cases e:c=0
   .subst e;have k:b[1]? =some b[1]:=a4H a9p;simp only[if_true];rw[k];simp only[Nat.zero_sub,a6q,a5b,a5e,a7F]at n|-;generalize b[1]=r at k;have f:=V r (a4O k);have g:=hb.1 f;obtain⟨s,M,q,z⟩:=Ef (a:=d) (b:=r) L g.2.2 a9p a9p;have t:b.drop 1=r::b.drop 2:=by obtain⟨u,rfl⟩:=a4P.1 k;exact a5c u
    refine⟨by grind,λN v=> ?_,a9r,a9r⟩;grind[fg,List.mem_of_mem_drop]
   .rw[if_neg e];have k:b[c - 1]? =some b[c - 1]:=a4H a9p;rw[k];simp only[if_neg e];generalize b[c - 1]=r at k;have f:=V r (a4O k);have g:=hb.1 f;obtain⟨s,M,q,z⟩:=Ef (a:=r) (b:=d) g.2.2 L a9p a9p;have t:b.take c=b.take (c - 1)++ [r]:=by
     obtain⟨u,rfl⟩:=a4P.1 k
     conv=>lhs;rw[show c=c - 1+1 by omega]
     simp
    have O:c - 1+2=c+1:=a9p;rw[O];refine⟨by rw[a5D,a5D,s,t,a5D];simp,λN v=> ?_,a9r,a9r⟩;simp only[fg,a5a]at v;grind
end Go.a6
namespace Go.Proofs.YtlgnfcaolejgeaaGreat
open Go Go.bA
abbrev eG:=Option ((a:Nat)×a6.T a)
def fP (c:U) (a:eG) (b:R):Prop:=
 match a with
 |none=>b= .v (.pointer none)
 |some ⟨d,a⟩=>bt c d a b
def fP.fG {b c:U} (k:iz b c) {a:eG}{d:R} (h:fP b a d):fP c a d:=by
 match a with
 |none=>exact h
 |some ⟨_,_⟩=>exact bt.fG k h
variable{e i v M c0 j0:Nat}
def px:List (a6.T e)->eG
 | []=>none
 | [a]=>some ⟨e,a⟩
 |b=>some ⟨e+1,a6.node b⟩
variable{b0:Type}
def Zc {a:List b0} (b:a.length=1): ∃c,a= [c]:=a6Q.1 b
def Zd (c:List (a6.T e)) (y:List R) (E:Own) (p:U) (F:az (bt p e) c y) (G:c.length<=4):
  AC Tryz.prog 98 [.J y E] p λL h=>p.sub h/\fP h (px c) L:=by
 refine aO hm M7 ?_;refine ch [] (λd:List R×Own=> [(0,.J d.1 d.2)]) (λd h=>p.sub h/\(az (bt h e) c d.1\/2<=c.length/\ ∃a,d.1= [a]/\bt h (e+1) (a6.node c) a)) (λd=>d.1.length) (y,E) ⟨⟨U.a1,.inl F⟩,aU⟩ ?_;rintro⟨r,P⟩ z ⟨C,b⟩ i
 dsimp only at b|-
 refine aa ?_;refine aH (λk=> ?_) λk=> ?_
 .rcases b with b|⟨_,a,rfl,_⟩
  .have j:=b.len;refine cl (xY z c r P z b a9p U.a1) ?_;rintro _ l ⟨S,m,T,rfl,D⟩;rw[a6.ps a9p G]at D;obtain⟨a,rfl⟩:=Zc D.len;refine aa ?_;exact⟨([a],T),⟨U.aq C S,.inr ⟨a9p,a,rfl,D.1⟩⟩,rfl,a9r⟩
  .simp at k
 .have V:(r= []/\c= [])\/ ∃a,r= [a]/\fP z (px c) a:=by
   rcases b with b|⟨W,a,rfl,b⟩
   .match c,r,b,k with
    | [],[],_,_=>exact .inl ⟨rfl,rfl⟩
    | [n],[a],b,_=>exact .inr ⟨a,rfl,b.1⟩
    | _:: _:: _,_:: _:: _,_,k=>simp at k;omega
   .match c,W with
    | _:: _:: _,_=>exact .inr ⟨a,rfl,b⟩
  clear b;rcases V with ⟨rfl,rfl⟩|⟨a,rfl,o⟩
  .refine aa ?_;exact⟨_,U.a1,C,rfl⟩
  .have f:(∃x,a= .ptr x 0)\/a= .v (.pointer none):=by
    unfold fP at o;split at o
    .exact .inr o
    .obtain⟨x,_,_,g,_⟩:=o.ptr;exact .inl ⟨x,g⟩
   rcases f with ⟨x,rfl⟩|rfl
   all_goals refine aa ?_;exact⟨_,U.a1,C,o⟩
theorem xZ: ∀(b:Nat) (d:a6.T b) (T:R) (p:U),bt p b d T->(a6.bc b d).length<=100000->
  AC Tryz.prog 94 [T] p λW F=>p.sub F/\ ∃h G,W= .J h G/\az isRow (a6.bc b d) h:=by
 intro b
 induction b with
 |zero=>rintro d _ p ⟨e,h,G,f,rfl,k,o⟩ L;have P:=U.af k;have g:=o.len;have w:(a6.rows d).length<=100000:=L;refine aO hm wC ?_;refine sh (iK o) λC i D=> ?_;have P:=rd D.sub k;refine gO [0] (λc:Nat=> [(3,.J h C),(4,.v (.int .i64 (c:Int)))]) (λc=>c=0) (λ_=>0) 0 rfl aU ?_;rintro _ rfl j;refine aa ?_;exact⟨D.sub,h,C,rfl,o⟩
 |succ b ih=>
  rintro d _ p ⟨e,A,G,f,rfl,k,o,B,l⟩ L;obtain⟨r,rfl⟩:=a6.gv d;rw[a6.fg]at o l;rw[a6.fN]at L|-;have P:=U.af k;have g:=o.len;refine aO hm wC ?_;refine sh Cs λC i D=> ?_;refine ch [0] (λa:Nat×List R×Own=> [(3,.J a.2.1 a.2.2),(4,.v (.int .i64 (a.1:Int)))]) (λa F=>a.1<=r.length/\az isRow ((r.take a.1).flatMap (a6.bc b)) a.2.1/\bh p F 1 a.2.1 a.2.2) (λa=>r.length - a.1) (0,[],C) ⟨⟨a9q,trivial,D⟩,aU⟩ ?_;rintro⟨c,h,m⟩ n ⟨y,x,z⟩ j
  dsimp only at y x z|-
  have P:=rd z.sub k;refine aa ?_;refine aH (λE=> ?_) λE=> ?_
  .have y:c<r.length:=a9p;obtain⟨H,aO,V⟩:=o.get (a4H y);have q:=a6.qR (a4H y);have s:=a5V y;have t:=bt.mono z.sub V;obtain⟨I,_,_,rfl,_⟩:=V.ptr;generalize r[c]=E at*;have K:((r.take c).flatMap (a6.bc b)).length+(a6.bc b E).length<=100000:=by grind
   clear q;have M:=x.len;refine cl (ih E _ n t a9p) ?_;rintro _ N ⟨u,O,Q,rfl,S⟩;have X:=S.len;refine kz (z.mono u) (iK x) (iK S) λv Y k _=> ?_;refine⟨(c+1,_,v),⟨by simp only;omega,?_,k⟩,⟨rfl,rfl⟩,by simp only;omega⟩;simp only[s,a5D,a5l,a7F,a5R];exact x.append S
  .rw[a4I a9p]at x;exact⟨z.sub,h,m,rfl,x⟩
def Ze (a:U):AC Tryz.prog 94 [.v (.pointer none)] a λb c=>c=a/\b= .J [] .nil:=by refine aO hm wC ?_;trivial
def Zf (a:Nat) (b:a6.T a) (d:R) (c:U) (r:bt c a b d) (x:(a6.bc a b).length<=100000) (y:a6.bc a b≠ []):
  AC Tryz.prog 252 [d] c λh z=>c.sub z/\ ∃k,h= .J (ad (a6.cS a b)) k:=by
 refine aO hm QC ?_;refine cl (xZ a b d c r x) ?_;rintro _ D ⟨E,F,k,rfl,o⟩;unfold a6.cS;cases p:a6.bc a b with
 |nil=>exact absurd p y
 |cons G h=>rw[p]at o;obtain⟨L,aO,C,rfl⟩:=o.get (i:=0) rfl;refine aa ?_;exact⟨C,rfl⟩
theorem y0 (b:List (List Int)) (k:List R) (x o:Own) (c:List Int) (d:U) (p:az isRow b k) (E:b.length<=100000) (F: ∀h∈b,h.length<=1000):
  AC Tryz.prog 93 [.J k x,.J (ad c) o] d λh y=>y=d/\h= .v (.bool (decide (c∈b))):=by
 have G:=p.len;refine aO hm LY ?_;refine gO [0,1] (λa:Nat=> [(5,.v (.int .i64 (a:Int)))]) (λa=>a<=b.length/\ ∀r<a,b.getD r []≠c) (λa=>b.length - a) 0 ⟨a9p,λr L=>by omega⟩ aU ?_;rintro a ⟨P,z⟩ S;refine aa ?_;refine aH (λC=> ?_) λC=> ?_
 .obtain⟨_,T,D,rfl⟩:=p.at [] (e:=a) a9p;refine lX (nn (b.getD a []) c D o d (by grind)) ?_;refine aH (λc2=> ?_) λc2=> ?_
  .exact aR (by grind)
  .exact⟨a+1,⟨a9p,upto z c2⟩,rfl,a9p⟩
 grind[aR,List.getElem_of_mem,List.getD]
def gz (a:List Int->List Int->Bool) (b:List Int):Nat->Nat->List (List Int)->Nat
 | _,at_,[]=>at_
 |c,at_,d::bI=>gz a b (c+1) (if a b d=true then at_ else c) bI
def Eg {d:List Int->List Int->Bool}{h:List Int}: ∀(b:List (List Int)) (k c:Nat),(∀a∈b,d h a=true)->gz d h k c b=c
 | [],_,_,_=>rfl
 |a::b,k,c,o=>by
  rw[gz,if_pos (o a a9q)];exact Eg b _ _ λa p=>o a (by simp[p])
theorem Eh {a:List Int->List Int->Bool}{b:List Int}: ∀(c:List (List Int)) (k:List Int) (d:Nat),c.Pairwise (λo p=>a b o=true->a b p=true)->gz a b (d+1) d c=d+a6.cV a b (k::c)
 | [],k,d,_=>rfl
 |h::c,k,d,r=>by
  have x:=a5r.1 r;rw[gz];have y:a6.cV a b (k::h::c)=if a b h=true then 0 else a6.cV a b (h::c)+1:=rfl;rw[y];by_cases hk:a b h=true;simp_all [if_pos,Eg]
  .rw[if_neg hk,if_neg hk,Eh c h (d+1) x.2];omega
variable{O:List (List Int)}{q b6:List Int}
theorem Zg {a:List Int->List Int->Bool} (d:O.Pairwise (λb c=>a q b=true->a q c=true)):gz a q 0 0 O=a6.cV a q O:=by
 cases O with
 |nil=>rfl
 |cons h O=>grind[gz,Eh,List.pairwise_cons]
def Ei {k o:List Int->List Int->Bool}{c:List Int}: ∀(b:List (List Int)) (d h:Nat),(∀a∈b,k c a=o c a)->gz k c d h b=gz o c d h b
 | [],_,_,_=>rfl
 |a::b,d,h,p=>by
  rw[gz,gz,p a a9q];exact Ei b _ _ λa r=>p a (by simp[r])
def Ej {d:List Int->List Int->Bool}{h k:List Int}: ∀(a:List (List Int)) (b c:Nat),gz d h b c (a++ [k])=if d h k=true then gz d h b c a else b+a.length
 | [],b,c=>by simp[gz]
 |o::a,b,c=>by
  rw[a5I,gz,Ej a,gz,a4M];split<;>omega
theorem Ek (b:List (a6.T e)) (y:R) (c:List Int) (z:Own) (h:U) (E:bt h (e+1) (a6.node b) y) (F:c.length<=1000) (G: ∀d∈b,(a6.bc e d).length<=100000/\a6.bc e d≠ []/\(a6.cS e d).length<=1000):
  AC Tryz.prog 163 [y,.J (ad c) z] h λL o=>h.sub o/\L= .v (.int .i64 (gz kI c 0 0 (b.map (a6.cS e)):Int)):=by
 obtain⟨j,l,m,n,rfl,P,p,_,S⟩:=E;rw[a6.fg]at p S;have q:=p.len;have s:gz kI c 0 0 []=0:=rfl;refine aO hm O3 ?_;refine ch [0,1] (λa:Nat=> [(5,.v (.int .i64 (gz kI c 0 0 ((b.map (a6.cS e)).take a):Int))),(6,.v (.int .i64 (a:Int)))]) (λa o=>a<=b.length/\h.sub o) (λa=>b.length - a) 0 ⟨⟨a9p,U.a1⟩,aU⟩ ?_;rintro a T ⟨k,r⟩ t;have u:=rd r P;refine aa ?_;refine aH (λd=> ?_) λd=> ?_
 .have k:a<b.length:=a9p;have V:=Ej (d:=kI) (h:=c) (k:=a6.cS e b[a]) ((b.map (a6.cS e)).take a) 0 0;rw[a4L,a4T,a6r a9p,show(b.map (a6.cS e)).take a++ [a6.cS e b[a]]=(b.map (a6.cS e)).take (a+1) by simp[a5V,k]]at V;have x:=G _ (a5m k);obtain⟨v,aO,C⟩:=p.get (a4H k);obtain⟨w,_,_,rfl,_⟩:=C.ptr;generalize b[a]=D at*;refine cl (Zf e D _ T (bt.mono r C) x.1 x.2.1) ?_;rintro _ W ⟨f,g,rfl⟩;refine cl (E1 c (a6.cS e D) z g W F x.2.2) ?_;rintro _ A ⟨i,rfl⟩;have B:=U.aq r (U.aq f i);refine aa ?_;refine aH (λc2=> ?_) λc2=> ?_;grind;grind
 .rw[a4I (by rw[a4T];omega)]
def Zh {b c:List Int->List Int->Bool} (d: ∀a∈O,b a q=c a q):a6.dQ b O q=a6.dQ c O q:=by
 unfold a6.dQ;have h: ∀O:List (List Int),(∀a∈O,b a q=c a q)->O.takeWhile (λa=>b a q)=O.takeWhile (λa=>c a q)/\O.dropWhile (λa=>b a q)=O.dropWhile (λa=>c a q):=by
  intro O
  induction O with
  |nil=>intro _;exact⟨rfl,rfl⟩
  |cons k O ih=>intro d;obtain⟨o,p⟩:=ih λa r=>d a (by simp[r]);simp only[a5z,a6d,d k a9q];rw[o,p];exact⟨rfl,rfl⟩
 rw[(h O d).1,(h O d).2]
structure GT (d h:Nat) (t:a6.T h):Prop where
 wf:a6.jQ h t
 dZ:a6.jg bx (a6.bc h t)
 ok: ∀x∈a6.bc h t,bN d x
 dH:(a6.bc h t).length<=1000
def y3 {a:a6.T e} (b:a6.bc e a≠ []):a6.cS e a∈a6.bc e a:=by
 unfold a6.cS;cases c:a6.bc e a with
 |nil=>exact absurd c b
 |cons d h=>simp
structure Zi (d:Nat) {h:Nat} (bI:List (a6.T h)) (p:List Int):Prop where
 ne:bI≠ []
 two:2<=bI.length/\bI.length<=4
 hd: ∀c∈bI,GT d h c/\a6.WF h c/\a6.bc h c≠ []/\bN d (a6.cS h c)
 El:gz kI p 0 0 (bI.map (a6.cS h))=a6.cV bx p (bI.map (a6.cS h))
 at_: ∃c,bI[a6.cV bx p (bI.map (a6.cS h))]? =some c
theorem GT.kids (x:1<=i) (y:i<=8) {c:List (a6.T e)} (p:GT i (e+1) (a6.node c)) (z:bN i q):Zi i c q:=by
 obtain⟨D,E,T,r⟩:=p.wf;rw[a6.dF]at D E r;have r:=r a9p;have V: ∀a∈c,a6.WF e a:=T;have h:=p.dZ;have k:=p.ok;have F:=p.dH;rw[a6.fN]at h k F;have o:c≠ []:=by intro W;subst W;simp at D
 have d: ∀a∈c,GT i e a/\a6.WF e a/\a6.bc e a≠ []/\bN i (a6.cS e a):=by intro a b;have C:=V a b;have f:=a6.hb.1 C;have o:a6.bc e a≠ []:=a6.xD a9p f.2.2;obtain⟨v,w,g⟩:=a7w b;rw[g,a5D,a5l]at h k F;have j:=(a5P.1 (a5P.1 h).2.1).1;refine⟨⟨a6.jQ.of C,j,λl m=>k l (by simp[m]),by grind⟩,C,o,k _ (by simp[y3 o])⟩
 refine⟨o,⟨r,E⟩,d,?_,?_⟩
 .rw[Ei (o:=bx) _ _ _ λA n=>by
   obtain⟨a,b,rfl⟩:=a5d.1 n;exact E5 x y z (d a b).2.2.2]
  refine Zg ?_;rw[a7n];have s:=(List.pairwise_flatMap.1 h).2;refine a7Q (λ{G L} P S t=> ?_) s;intro u;exact(gy x y).trans q _ _ z (d G P).2.2.2 (d L S).2.2.2 u (t _ (y3 (d G P).2.2.1) _ (y3 (d L S).2.2.1))
 .obtain⟨a,b,_⟩:=a6.uD (gy x y) z (a:=c) o (λa b=>by grind[a6.hb]) h k;exact⟨a,b⟩
theorem Zj (P:1<=e) (S:e<=8) (b:List Int) (T:Own) (E:bN e b): ∀(a:Nat) (h:a6.T a) (F:R) (c:U),bt c a h F->GT e a h->b∉a6.bc a h->
  AC Tryz.prog 99 [F,.J (ad b) T] c λV j=>c.sub j/\ ∃x y,V= .J x y/\az (bt j a) (a6.eO bx b a h) x:=by
 have l8:=E.len;intro a
 induction a with
 |zero=>rintro h _ c ⟨l,O,y,m,rfl,z,d⟩ G n;obtain⟨Q,rfl⟩:=a6.hZ h;rw[a6.qM]at d;obtain⟨_,X,_,_⟩:=G.wf;have W:=G.ok;rw[a6.hy]at X;rw[a6.kC]at W;have q:=U.af z;refine aO hm Bm ?_;refine cl (Z9 Q O y T b c d a9p (λV Y=>by have:=(W V Y).len;omega) a9p) ?_;rintro _ s ⟨C,Z,j9,rfl,t⟩;rw[Zh (c:=bx) λk0 u=>E5 P S (W k0 u) E]at t;refine cl (Ee _ Z j9 s t (by rw[a6.ou];omega)) ?_;rintro _ l9 ⟨k1,x,k2,rfl,L⟩;refine aa ?_;exact⟨_,U.a1,U.aq C k1,x,k2,rfl,L⟩
 |succ a ih=>
  intro h F c L G n;obtain⟨k,rfl⟩:=a6.gv h;have D:=G.kids P S E;have v:=Ek k F b T c L a9p λo p=>by
   obtain⟨r,_,k3,k4⟩:=D.hd o p;have:=r.dH;have:=k4.len;exact⟨a9p,k3,a9p⟩
  obtain⟨l,k5,y,m,rfl,z,d,_,_⟩:=L;rw[a6.fg]at d;have n0:=d.len;obtain⟨n1,n2⟩:=D.two;have n3: ¬(k.length:Int)=0:=a9p;have q:=U.af z;obtain⟨o,p⟩:=D.at_;have w:a6.eO bx b (a+1) (a6.node k)=(a6.chunks (k.take (a6.cV bx b (k.map (a6.cS a)))++a6.eO bx b a o++k.drop (a6.cV bx b (k.map (a6.cS a))+1))).map a6.node:=by simp only[a6.eO,a6.fg];rw[p]
  rw[w];rw[D.El]at v;clear w;generalize a6.cV bx b (k.map (a6.cS a))=A at*;have n4:=(a4P.1 p).1;obtain⟨r,_,_,_⟩:=D.hd o (a4O p);have B:b∉a6.bc a o:=λu=>n (by rw[a6.fN];grind);obtain⟨_,_,n5,n9⟩:=a6.qS (gy P S) E a o r.wf r.dZ r.ok B;have a00:=bt.c d;obtain⟨_,a01,H⟩:=d.get p;obtain⟨a02,_,_,rfl,_⟩:=H.ptr;refine aO hm Bm ?_;refine cl v ?_;rintro _ s ⟨C,rfl⟩;have q:=rd C z;have f:=d.take A;refine sh (bt.c f) λa03 k6 I=> ?_;have a04:=rd (U.aq C I.sub) z;refine cl (ih o _ k6 (H.fG fX) r B) ?_;rintro _ a05 ⟨k7,x,a06,rfl,g⟩;have a07:=g.len;refine kz (I.mono k7) (bt.c f) (bt.c g) (λa08 K k8 k9=> ?_) (y:=by rw[a4L];omega);have a09:K.read l= _:=U.af (g:= [.J [] m,.J k5 y]) dw;have M:=(f.mono λ_ _ a=>bt.fG (fX (f:=c) (t:=K)) a).append (g.mono λ_ _=>bt.fG k9);have N:=d.drop (A+1);refine kz k8 (bt.c M) (bt.c N) (λl0 i l1 l2=> ?_) (y:=by grind);have l3:=(M.mono λ_ _=>bt.fG l2).append (N.mono λ_ _ a=>bt.fG (fX (f:=c) (t:=i)) a);refine cl (xY i _ _ l0 i l3 (by grind) U.a1) ?_;rintro _ a10 ⟨l4,l5,l6,rfl,l7⟩;refine aa ?_;exact⟨_,U.a1,U.aq C (U.aq l1.sub l4),l5,l6,rfl,l7⟩
def ez:eG->List (List Int)
 |none=> []
 |some ⟨a,b⟩=>a6.bc a b
def iM (a:Nat):eG->Prop
 |none=>True
 |some ⟨b,c⟩=>GT a b c
def kJ (a:eG) (b:List Int):eG:=
 match a with
 |none=>some ⟨0,a6.leaf [b]⟩
 |some ⟨c,a⟩=>if b∈a6.bc c a then some ⟨c,a⟩else px (a6.eO bx b c a)
def Zk (z:1<=e) (C:e<=8) (c:List Int) (k:Own) (D:bN e c) (a:eG) (E:R) (o:U) (d:fP o a E) (S:iM e a):
  AC Tryz.prog 55 [E,.J (ad c) k] o λp F=>o.sub F/\ ∃G r,p= .aL [G,.v (.bool r)]/\fP F (kJ a c) G:=by
 match a with
 |none=>obtain rfl:=d;refine aO hm Bf ?_;refine cI U.a1 (by simp[aN,R.cells]) λT v V=> ?_;refine aa ?_;refine bq λL W=> ?_;exact⟨_,U.a1,U.aq V.sub (U.ae U.a1 W),_,_,rfl,L,_,T,.nil,rfl,U.ah _ _ _,⟨k,rfl⟩,trivial⟩
 |some ⟨x,a⟩=>
  obtain⟨r,L,w,rfl,A⟩:=bt.ptr d;have b:GT e x a:=S;have B:=b.dH;refine aO hm Bf ?_;refine cl (xZ x a (.ptr r 0) o d a9p) ?_;rintro _ P ⟨y,f,g,rfl,i⟩;refine lX (y0 _ f g k c P i a9p λp j=>by have:=(b.ok p j).len;omega) ?_;refine aH (λh=> ?_) λh=> ?_
  .refine⟨_,U.a1,y,_,_,rfl,?_⟩;simp only[kJ,if_pos h];exact bt.mono y d
  .refine cl (Zj z C c k D x a (.ptr r 0) P (bt.mono y d) b h) ?_;rintro _ l ⟨m,n,q,rfl,s⟩;obtain⟨_,_,H,I⟩:=a6.qS (gy z C) D x a b.wf b.dZ b.ok h;refine cl (Zd _ n q l s a9p) ?_;rintro p K ⟨t,u⟩;refine aa ?_;refine⟨_,U.a1,U.aq y (U.aq m t),_,_,rfl,?_⟩;simp only[kJ,if_neg h];exact u
structure hg (d:Nat) (b:List Int×List Int):Prop where
 ok:cT b.1 b.2 d=true
 aV:cK b.1
 aW:cK b.2
theorem lr:cT q b6 e=true↔1<=e/\e<=8/\q.length=e/\b6.length=e/\ ∀a,a<e->q.getD a 0<=b6.getD a 0:=by unfold cT;grind
theorem Em {b:Int->Int->Int} (h: ∀a c,b a c=a\/b a c=c) (k:cK q) (o:cK b6):cK (List.zipWith b q b6):=by intro a d;obtain⟨p,r,rfl⟩:=a5y d;grind[List.length_zipWith,List.getElem_mem]
theorem En {a:Int->Int->Int} (b:e<q.length) (c:e<b6.length):(List.zipWith a q b6).getD e 0=a (q.getD e 0) (b6.getD e 0):=by grind
theorem y4 {h k:List Int×List Int} (b:hg e h) (c:hg e k):hg e (cU h k):=by
 have a:=lr.1 b.ok;have d:=lr.1 c.ok;unfold cU;rw[a.2.2.1,d.2.2.1,if_pos b.ok,if_pos c.ok,if_pos rfl];refine⟨lr.2 ⟨a.1,a.2.1,by simp[a.2.2.1,d.2.2.1],by simp[a.2.2.2.1,d.2.2.2.1],λr x=> ?_⟩,?_,?_⟩;grind
 .exact Em (λo p=>by omega) b.aV c.aV
 .exact Em (λo p=>by omega) b.aW c.aW
theorem py {a:List Int×List Int} (b:hg e a):cU ([],[]) a=a:=by have c:=lr.1 b.ok;unfold cU;have:cT ([]:List Int) [] ([]:List Int).length=false:=rfl;rw[if_neg (by rw[this];simp),c.2.2.1,if_pos b.ok]
def y5 (c:1<=e) (d:e<=8) (a:bN e q):hg e (gr q):=by have b:=a.len;unfold gr;rw[if_pos a9p];exact⟨lr.2 ⟨c,d,b,b,λ_ _=>a8n _⟩,a.jU,a.jU⟩
structure mi (d:Nat) (n:Nat) (y:gf):Prop where
 live:y.live=n
 aQ:(n=0/\y.aQ=([],[]))\/(0<n/\hg d y.aQ)
theorem Eo {h:Nat} (o:1<=h) (p:h<=8): ∀(b:List (List Int)) (c:Nat) (a:gf),(∀d∈b,bN h d)->mi h c a->mi h (c+b.length) ((b.map λd=>(d,true)).foldl dP a)
 | [],c,a,_,k=>by simpa using k
 |d::b,c,a,r,k=>by
  rw[a5h,a5O,a4M,show c+(b.length+1)=(c+1)+b.length by omega];refine Eo o p b (c+1) _ (λy z=>r y (by simp[z])) ?_;have C:=y5 o p (r d a9q);rw[dP,if_pos rfl];refine⟨by rw[show(({a with live:=a.live+1,aQ:=cU a.aQ (gr d)}:gf)).live=a.live+1 from rfl,k.live];omega,.inr ⟨a9p,?_⟩⟩;rcases k.aQ with ⟨_,x⟩|⟨_,x⟩;grind[cU,gr,py]
  .exact y4 x C
structure ji (d n:Nat) (k:ay):Prop where
 sum:k.sum.length=32
 live:k.live=n
 size:k.size=n
 pos:1<=n
 aQ:hg d (k.aV,k.aW)
 key:bN d k.key
def Ep {k:Nat}: ∀(a:List (ay×Nat)) (b:Nat) (d:gf),(∀c∈a,ji k c.2 c.1)->mi k b d->mi k (b+(a.map Prod.snd).sum) ((a.map Prod.fst).foldl ev d)
 | [],b,d,_,o=>by simpa using o
 |(c,h)::a,b,d,y,o=>by
  have p:=y (c,h) a9q;simp only[a5h,a5O,a7X];rw[show b+(h+(a.map Prod.snd).sum)=(b+h)+(a.map Prod.snd).sum by omega];refine Ep a (b+h) _ (λz C=>y z (by simp[C])) ?_;have r:=p.aQ;have D:=p.pos;refine⟨?_,.inr ⟨by have:1<=h:=D;omega,?_⟩⟩
  .show d.live+c.live= _;rw[o.live,p.live];push_cast;rfl
  .show hg k (cU d.aQ (c.aV,c.aW));rcases o.aQ with ⟨_,x⟩|⟨_,x⟩
   .rw[x,py r];exact r
   .exact y4 x r
def bX:(a:Nat)->a6.T a->ay
 |0,b=>eV (dG (a6.rows b))
 |a+1,b=>eV (ej ((a6.kids b).map (bX a)))
def dz:(a:Nat)->a6.T a->c4
 |0,b=>dG (a6.rows b)
 |a+1,b=>ej ((a6.kids b).map (bX a))
def sO: ∀ {a:Nat}{b:a6.T a},bX a b=eV (dz a b)
 |0,_=>rfl
 | _+1,_=>rfl
def Zl:dz 0 (a6.leaf O)=dG O:=rfl
def y6 {a:List (a6.T e)}:dz (e+1) (a6.node a)=ej (a.map (bX e)):=rfl
structure eZ (d h:Nat) (t:a6.T h):Prop where
 wf:a6.jQ h t
 ok: ∀x∈a6.bc h t,bN d x
 dH:(a6.bc h t).length<=1048576
def GT.jV {b:a6.T e} (a:GT i e b):eZ i e b:=⟨a.wf,a.ok,by have:=a.dH;omega⟩
theorem eZ.hd {d:List (a6.T e)} (b:eZ i (e+1) (a6.node d)): ∀a∈d,eZ i e a/\a6.WF e a:=by obtain⟨z,C,p,D⟩:=b.wf;have c:=b.ok;have h:=b.dH;rw[a6.fN]at c h;intro a k;have o:a6.WF e a:=p a k;obtain⟨E,F,r⟩:=a7w k;rw[r,a5D,a5l]at c h;exact⟨⟨a6.jQ.of o,λx y=>c x (by simp[y]),by grind⟩,o⟩
def eZ.ne {a:a6.T e} (b:eZ i e a):a6.bc e a≠ []:=a6.xD b.wf.1 b.wf.2.2.1
structure y7 (d n:Nat) (x:c4):Prop where
 y8:x.In d
 kK:ji d n (eV x)
 oy:fJ d x=some (eV x)
variable{w j2:ay}
def ji.ne (a:ji e i w):w≠aA:=by rintro rfl;have:=a.size;have:=a.pos;simp[aA]at*;omega
theorem ji.ok {b c:Nat}{d:ay} (a:ji b c d) (h:c<=1048576):fo b d=true:=by have k:=a.size;have o:=a.live;have p:=a.pos;unfold fo;rw[decide_eq_false a.ne,a8t,a4K];refine⟨a9r,?_⟩;rw[if_neg a9p];exact a.aQ.ok
def ji.kK (a:ji e i w) (c:i<=1048576):w.In e:=by have d:=a.size;have h:=a.live;have k:=a.pos;have b:=lr.1 a.aQ.ok;have o:w.aV.length=e:=b.2.2.1;have p:w.aW.length=e:=b.2.2.2.1;have r:=a.key.len;exact⟨a.sum,a.aQ.aV,a.aQ.aW,a.key.jU,a9p,a9p,a9p,a9p,a9p,a9p,a9p⟩
theorem uE (o:1<=e) (p:e<=8) (c:1<=O.length) (r:O.length<=4) (b: ∀a∈O,bN e a):y7 e O.length (dG O):=by
 have x:dW e (dG O)=true:=by unfold dW dG;simp only[a9m,a4T,List.all_nil,a8s,a4R,decide_true,a4K,a4W,decide_eq_true_eq,Function.comp];refine⟨λa d=>(b a d).len,?_⟩;simp[c,r]
 have h:=Eo o p O 0 ⟨0,(dG O).rows.length,([],[])⟩ b ⟨rfl,.inl ⟨rfl,rfl⟩⟩;have y:eF (dG O)=(O.map λa=>(a,true)).foldl dP ⟨0,(dG O).rows.length,([],[])⟩:=rfl;rw[<-y,a5e]at h;have z:(eF (dG O)).size=O.length:=by rw[xO];simp[dG]
 have C:hg e (eF (dG O)).aQ:=by
  rcases h.aQ with ⟨k,_⟩|⟨_,k⟩
  .omega
  .exact k
 refine⟨⟨x,λa d=> ?_,λG D=>by simp[dG]at D⟩,⟨og _,h.live,z,c,C,?_⟩,?_⟩
 .obtain⟨E,F,rfl⟩:=a5d.1 d;exact(b E F).jU
 .show bN e (keyOf (dG O))
  match O,c with
  |a::O,_=>exact b a a9q
 .unfold fJ;grind
def Zm:(eV (dG O)).key=O.headD []:=by show keyOf (dG O)= _;cases O<;>rfl
theorem Zn {a:List (ay×Nat)} (o:2<=a.length) (z:a.length<=4) (c: ∀b∈a,ji e b.2 b.1) (p:(a.map Prod.snd).sum=i) (P:i<=1048576):y7 e i (ej (a.map Prod.fst)):=by
 have r: ∀b∈a,b.2<=i:=λb c=>by
  rw[<-p];obtain⟨S,T,rfl⟩:=a7w c;simp;omega
 have C:dW e (ej (a.map Prod.fst))=true:=by unfold dW ej;simp only[a9m,a4T,List.all_nil,a6m,a4R,decide_true,a4K,a4W,decide_eq_true_eq,Function.comp];refine⟨λb d=>(c b d).ok (by have:=r b d;omega),?_⟩;simp[o,z];exact λV W d=>⟨(c _ d).key.len,(c _ d).ne⟩
 have x:=Ep a 0 ⟨0,0,([],[])⟩ c ⟨rfl,.inl ⟨rfl,rfl⟩⟩;have D:eF (ej (a.map Prod.fst))=(a.map Prod.fst).foldl ev ⟨0,0,([],[])⟩:=rfl;rw[<-D,a5e,p]at x;have E:1<=i:=by
  match a,o with
  |b::a,_=>have:=(c b a9q).pos;have:=r b a9q;omega
 have F:(eF (ej (a.map Prod.fst))).size=i:=by
  rw[xO,<-p];have: ∀(a:List (ay×Nat)),(∀b∈a,ji e b.2 b.1)->(((a.map Prod.fst).map (·.size)).sum:Int)=(((a.map Prod.snd).sum:Nat):Int):=by
   intro a
   induction a with
   |nil=>intro _;rfl
   |cons b a ih=>intro d;simp only[a5h,a7X];rw[ih λh k=>d h (by simp[k]),(d b a9q).size];push_cast;rfl
  simp only[ej,a4R];rw[this a c];simp
 have G:hg e (eF (ej (a.map Prod.fst))).aQ:=by
  rcases x.aQ with ⟨y,_⟩|⟨_,y⟩
  .omega
  .exact y
 refine⟨⟨C,λf L=>by simp[ej]at L,λb d=> ?_⟩,⟨og _,x.live,F,E,G,?_⟩,?_⟩
 .obtain⟨h,k,rfl⟩:=a5d.1 d;exact(c h k).kK (by have:=r h k;omega)
 .show bN e (keyOf (ej (a.map Prod.fst)))
  match a,o with
  |b::a,_=>exact(c b a9q).key
 .unfold fJ;grind
def nq {k:Nat} (y:1<=k) (z:k<=8): ∀(a:Nat) (c:a6.T a),eZ k a c->y7 k (a6.bc a c).length (dz a c)/\(bX a c).key=a6.cS a c
 |0,c,h=>by
  obtain⟨E,rfl⟩:=a6.hZ c;obtain⟨x,o,_⟩:=h.wf;rw[a6.hy]at x o;have C:=h.ok;rw[a6.kC]at C;exact⟨uE y z x o C,Zm⟩
 |a+1,c,h=>by
  obtain⟨d,rfl⟩:=a6.gv c;obtain⟨x,o,T,p⟩:=h.wf;rw[a6.dF]at x o p;have p:=p a9p;have D:=h.hd;have F:=h.dH;have ih:=λb r=>nq y z a b (D b r).1;have G:(d.map λb=>(bX a b,(a6.bc a b).length)).map Prod.fst=d.map (bX a):=by rw[a6J];rfl
  have L:((d.map λb=>(bX a b,(a6.bc a b).length)).map Prod.snd).sum=(a6.bc (a+1) (a6.node d)).length:=by rw[a6J,a6.fN,List.length_flatMap];rfl
  have:=Zn (e:=k) (i:=(a6.bc (a+1) (a6.node d)).length) (a:=d.map λb=>(bX a b,(a6.bc a b).length)) (by simpa using p) (by simpa using o) (λV P=>by
   obtain⟨b,r,rfl⟩:=a5d.1 P;simp only[sO];exact(ih b r).1.kK) L F
  rw[G]at this;refine⟨this,?_⟩
  match d,p with
  |b::d,_=>
   show(bX a b).key= _;have r:=ih b a9q;rw[r.2];unfold a6.cS;rw[a6.fN,a5l];have:=(D b a9q).1.ne;cases S:a6.bc a b with
   |nil=>exact absurd S this
   |cons W E=>rfl
def uF (b:1<=i) (c:i<=8) {a:a6.T e} (d:eZ i e a):ji i (a6.bc e a).length (bX e a):=by rw[sO];exact(nq b c e a d).1.kK
def Zo (b:1<=i) (c:i<=8) {a:a6.T e} (d:eZ i e a):(bX e a).key=a6.cS e a:=(nq b c e a d).2
theorem eZ.high {r:Nat}: ∀(a:Nat) (b:a6.T a),eZ r a b->a+1<=(a6.bc a b).length
 |0,b,c=>by
  have:=c.ne;grind
 |a+1,b,c=>by
  obtain⟨h,rfl⟩:=a6.gv b;obtain⟨x,y,z,d⟩:=c.wf;rw[a6.dF]at x y d;have d:=d a9p;have k:=c.hd
  match h,d with
  |o::p::h,_=>have C:=eZ.high a o (k o a9q).1;have D:=eZ.high a p (k p a9q).1;rw[a6.fN,a5l,a5l];simp only[a4J];omega
structure ag.le (a c:ag):Prop where
 m: ∀d b,a.m d=some b->c.m d=some b
 one:a.one=true->c.one=true
variable{H:ag}
theorem ag.le_refl:H.le H:=⟨λ_ _ a=>a,λa=>a⟩
theorem ag.le.trans {b c:ag} (d:H.le b) (h:b.le c):H.le c:=⟨λ_ _ a=>h.m _ _ (d.m _ _ a),λa=>h.one (d.one a)⟩
def ag.le.zero {a:ag} (c:H.le a) (b:a.one=false):H.one=false:=by
 cases d:H.one with
 |false=>rfl
 |true=>rw[c.one d]at b;cases b
theorem lu (b:ag) (c:List UInt8):b.le (eN b c):=by
 unfold eN;split
 .rename_i a;refine⟨λd h k=> ?_,λa=>a⟩;grind
 .split
  .exact⟨λ_ _ a=>a,λ_=>rfl⟩
  .exact ag.le_refl
variable{B:List UInt8}
theorem qT (a:(eN H B).one=false):(eN H B).m (eU B)=some B:=by unfold eN at a|-;grind
variable{e0:c4}
theorem oz (b:fJ e e0=some (eV e0)) (a:ag):du a e e0=(.ok (eV e0),eN a (db e0)):=by unfold du;rw[b]
def gA (c:ag):(b:Nat)->a6.T b->Prop
 |0,a=>c.m (bX 0 a).sum=some (db (dz 0 a))
 |b+1,a=>c.m (bX (b+1) a).sum=some (db (dz (b+1) a))/\ ∀d∈a6.kids a,gA c b d
def gA.mono {c d:ag} (b:c.le d): ∀ {a:Nat}{h:a6.T a},gA c a h->gA d a h
 |0,_,a=>b.m _ _ a
 | _+1,_,a=>⟨b.m _ _ a.1,λk o=>gA.mono b (a.2 k o)⟩
def gA.Zp: ∀ {a:Nat}{b:a6.T a},gA H a b->H.m (bX a b).sum=some (db (dz a b))
 |0,_,a=>a
 | _+1,_,a=>a.1
def Er {a:a6.T e}:(dz e a).kind=if e=0 then 2 else 3:=by cases e<;>rfl
def Zq (c:1<=i) (d:i<=8) {a:a6.T e} (h:eZ i e a) (k:gA H e a):fp H i (bX e a)=some (dz e a):=by have b:=(nq c d e a h).1;unfold fp;rw[k.Zp];simp only;rw[D2 a9p b.y8];simp only;rw[b.oy,sO,if_pos rfl]
theorem qU (b:1<=i) (c:i<=8) {a:a6.T e} (d:eZ i e a) (h:gA H e a):iH H i (bX e a)=some (dz e a):=by simp_all [iH,Zq,if_pos,Er]
theorem y9 {r:Type}{b:List r->c4}{x:Nat}: ∀(gs:List (List r)) (c:ag) (h:List ay),(∀a∈gs,fJ x (b a)=some (eV (b a)))->
  ∃d,ey b x c gs h=(.ok (h++gs.map λa=>eV (b a)),d)/\c.le d/\(d.one=false-> ∀a∈gs,d.m (eU (db (b a)))=some (db (b a)))
 | [],c,h,_=>⟨c,by simp[ey],ag.le_refl,λ_ a z=>by cases z⟩
 |a::gs,c,h,C=>by
  obtain⟨d,E,o,D⟩:=y9 gs (eN c (db (b a))) (h++ [eV (b a)]) (λp k=>C p (by simp[k]));refine⟨d,?_,(lu _ _).trans o,λy p k=> ?_⟩;grind[ey,oz]
  .rcases a5i.1 k with rfl|k
   .exact o.m _ _ (qT (o.zero y))
   .exact D y p k
structure Laid (a:ag) (h:Nat) (sl:List (a6.T h)) (r:Except Int (List ay)×ag):Prop where
 ok:r.1= .ok (sl.map (bX h))
 le:a.le r.2
 ins:r.2.one=false-> ∀c∈sl,gA r.2 h c
def Es {a:a6.T e} (b:a6.WF e a) (c: ∀d∈a6.bc e a,bN i d) (h:(a6.bc e a).length<=1048576):eZ i e a:=⟨a6.jQ.of b,c,h⟩
theorem Et (o:1<=e) (p:e<=8) (h:ag) (a:List (List Int)) (r:1<=a.length) (L:a.length<=5) (x: ∀c∈a,bN e c):Laid h 0 ((a6.chunks a).map a6.leaf) (nk h e a):=by
 have k: ∀b∈a6.chunks a,1<=b.length/\b.length<=4/\ ∀c∈b,c∈a:=by
  by_cases y:a.length=5
  .rw[a6.sH y];grind
  .rw[a6.ps r a9p];grind
 obtain⟨P,z,C,D⟩:=y9 (b:=dG) (x:=e) (a6.chunks a) h [] (λb d=>(uE o p (k b d).1 (k b d).2.1 (λc E=>x c ((k b d).2.2 c E))).oy);unfold nk;rw[z];refine⟨?_,C,λF S G=> ?_⟩
 .rw[a5b,a6J];rfl
 .obtain⟨b,d,rfl⟩:=a5d.1 G;exact D F b d
theorem ya (C:1<=i) (D:i<=8) (p:ag) (a:List (a6.T e)) (f:2<=a.length) (g:a.length<=5) (E: ∀d∈a,a6.WF e d) (j: ∀F∈a.flatMap (a6.bc e),bN i F) (l:(a.flatMap (a6.bc e)).length<=1048576)
  (G: ∀o,p.le o->o.one=false-> ∀d∈a,gA o e d):Laid p (e+1) ((a6.chunks a).map a6.node) (jh p i (a.map (bX e))):=by
 have r: ∀b∈a6.chunks a,2<=b.length/\b.length<=4/\(∀d∈b,d∈a)/\(b.flatMap (a6.bc e)).length<=(a.flatMap (a6.bc e)).length:=by
  by_cases x:a.length=5
  .rw[a6.sH x];simp only[a5i,a6n,or_false,forall_eq_or_imp,forall_eq,a4L,a4V];have L:a.flatMap (a6.bc e)=(a.take 3).flatMap (a6.bc e)++(a.drop 3).flatMap (a6.bc e):=by rw[<-a5D,a5p]
   grind
  .rw[a6.ps a9p a9p];grind
 have P: ∀b∈a6.chunks a,eZ i (e+1) (a6.node b):=λb h=>by
  obtain⟨m,n,d,L⟩:=r b h;refine Es (a6.hb.2 ⟨by rw[a6.dF];omega,by rw[a6.dF];omega,λc k=>E c (d c k)⟩) (λc k=> ?_) (by rw[a6.fN];omega);grind[a6.fN]
 have S:a6.chunks (a.map (bX e))=(a6.chunks a).map (List.map (bX e)):=by by_cases x:a.length=5;simp_all [a6.sH,bX];grind[a6.ps,bX]
 obtain⟨o,T,y,V⟩:=y9 (b:=ej) (x:=i) ((a6.chunks a).map (List.map (bX e))) p [] (λb h=>by
  obtain⟨c,k,rfl⟩:=a5d.1 h;exact(nq C D (e+1) (a6.node c) (P c k)).1.oy)
 unfold jh;rw[S,T];refine⟨?_,y,λz d W=> ?_⟩
 .rw[a5b,a6J,a6J];rfl
 .obtain⟨b,h,rfl⟩:=a5d.1 W;exact⟨V z _ (a5d.2 ⟨b,h,rfl⟩),λc k=>G o y z c ((r b h).2.2.1 c k)⟩
theorem Eu:mf q b6<0↔bx q b6=true:=by grind[mf]
theorem yb (b:1<=e) (c:e<=8) (d:bN e q) (h:bN e b6):mf q b6=0↔q=b6:=by
 unfold mf;constructor
 .intro a;split at a
  .omega
  .rename_i k;split at a
   .omega
   .rename_i o;exact(gy b c).total q b6 d h (by simpa using k) (by simpa using o)
 .rintro rfl;rw[sN];simp
theorem yc {y:Nat} (z:1<=y) (C:y<=8) {c:List (List Int)}{k:List Int} (E:a6.jg bx c) (r: ∀h∈c,bN y h) (D:bN y k): ∀(p d a:Nat),d<=a->a<=c.length->a - d<=p->
  (∀b h,c[b]? =some h->b<d->bx h k=true)->(∀b h,c[b]? =some h->a<=b->bx h k=false)->
  (∀b h,c[b]? =some h->b<mh c k p d a->bx h k=true)/\(∀b h,c[b]? =some h->mh c k p d a<=b->bx h k=false)/\mh c k p d a<=c.length
 |0,d,a,T,F,V,h1,G=>by
  obtain rfl:d=a:=a9p;exact⟨h1,G,F⟩
 |p+1,d,a,T,F,V,h1,G=>by
  rw[mh];by_cases W:d<a
  .rw[if_pos W];have hm:(d+a)/2<c.length:=a9p;have e:c[(d+a)/2]? =some c[(d+a)/2]:=a4H hm;rw[e];simp only;have P:=a6G.1 E;have S:=r _ (a5m hm);by_cases o:mf c[(d+a)/2] k<0
   .rw[if_pos o];have o:=Eu.1 o;refine yc z C E r D p _ _ a9p F a9p (λb h L f=> ?_) G;by_cases he:b=(d+a)/2;simp_all
    .obtain⟨x,rfl⟩:=a4P.1 L;exact(gy z C).trans _ _ _ (r _ (a5m x)) S D (P b _ x hm a9p) o
   .rw[if_neg o];have o:bx c[(d+a)/2] k=false:=by simp_all [bx,absurd,Eu]
    refine yc z C E r D p _ _ a9p a9p a9p h1 (λb h L f=> ?_);by_cases he:b=(d+a)/2;simp_all
    .obtain⟨x,rfl⟩:=a4P.1 L;cases g:bx c[b] k with
     |false=>rfl
     |true=>have:=(gy z C).trans _ _ _ S (r _ (a5m x)) D (P _ b hm x a9p) g;rw[this]at o;cases o
  grind
theorem Ev (c:1<=e) (d:e<=8) (h:a6.jg bx O) (k: ∀a∈O,bN e a) (o:bN e q):
  (∀b a,O[b]? =some a->b<eY O q->bx a q=true)/\(∀b a,O[b]? =some a->eY O q<=b->bx a q=false)/\eY O q<=O.length:=
 yc c d h k o O.length 0 O.length a9p (a5k _) a9p (λb a _ p=>by omega) (λb a r p=>by
  simp_all)
theorem Zr (h:1<=e) (k:e<=8) (o:a6.jg bx O) (p: ∀b∈O,bN e b) (r:bN e q):O.take (eY O q)++q::O.drop (eY O q)=a6.dQ bx O q:=by
 obtain⟨D,x,E⟩:=Ev h k o p r;generalize eY O q=a at*;have y: ∀b∈O.take a,bx b q=true:=λb z=>by
  obtain⟨F,G,rfl⟩:=a5y z;grind
 conv=>rhs;rw[<-a5p a O]
 rw[a6.xE y];congr 1;unfold a6.dQ;cases C:O.drop a with
 |nil=>rfl
 |cons c d=>
  have:O[a]? =some c:=by have:=congrArg (λd=>d[0]?) C;simpa using this
  have:=x a c this (a5k _);simp[this]
theorem yd (d:1<=e) (h:e<=8) (k:a6.jg bx O) (x: ∀y∈O,bN e y) (c:bN e q):kE O q=decide (q∈O):=by
 obtain⟨F,z,G⟩:=Ev d h k x c;unfold kE;by_cases o:q∈O
 .obtain⟨a,hm,p⟩:=a5y o;have C:O[a]? =some q:=by rw[a4H hm,p]
  have D:=a6G.1 k;have E:a=eY O q:=by
   rcases a8x a (eY O q)with b|b|b;grind[sN]
   .exact b
   .have r:=D (eY O q) a a9p hm b;rw[p]at r;have:=z (eY O q) _ (a4H a9p) (a5k _);rw[r]at this;cases this
  rw[<-E,C,decide_eq_true o];simp only;rw[decide_eq_true];exact(yb d h c c).2 rfl
 grind[decide_eq_false,eY,List.mem_of_getElem?,yb]
theorem Zs (d:1<=e) (h:e<=8) (p:a6.jg bx O) (k: ∀b∈O,bN e b) (o:bN e q) (r:q∈O):O.take (eY O q)++O.drop (eY O q+1)=O.filter λb=>decide (b≠q):=by
 have a:=yd d h p k o;rw[decide_eq_true r]at a;unfold kE at a;generalize eY O q=x at*;cases c:O[x]? with
 |none=>rw[c]at a;cases a
 |some b=>rw[c]at a;simp only[decide_eq_true_eq]at a;obtain rfl:=(yb d h (k b (a4O c)) o).1 a;have y:=a6.qR c;grind[List.pairwise_cons,List.filter_cons_of_neg,a6.filter_none,sN]
def jW:H.le (du H e e0).2:=by
 unfold du;split
 .exact ag.le_refl
 .exact lu _ _
def ye {h:Type}{c:List h->c4}{d:Nat}: ∀(gs:List (List h)) (a:ag) (b:List ay),a.le (ey c d a gs b).2
 | [],a,b=>ag.le_refl
 |k::gs,a,b=>by
  have o:=jW (H:=a) (e:=d) (e0:=c k);rw[ey];generalize du a d (c k)=p at*;obtain⟨r,x⟩:=p;cases r with
  |error z=>exact o
  |ok y=>exact o.trans (ye gs x (b++ [y]))
def Ew:H.le (nk H e O).2:=ye _ _ _
def yf {a:List ay}:H.le (jh H e a).2:=ye _ _ _
def Ex {c:Nat}{b:List Int}: ∀(d:Nat) (a:ag) (h:ay),a.le (gw c b d a h).2
 |0,a,h=>ag.le_refl
 |d+1,a,h=>by
  rw[gw];cases iH a c h with
  |none=>exact ag.le_refl
  |some k=>
   simp only;by_cases o:k.kind=2
   .rw[if_pos o];by_cases p:kE (k.rows.map Prod.fst) b=true
    .rw[if_pos p];exact ag.le_refl
    .rw[if_neg p];exact Ew
   .rw[if_neg o];cases k.kids[hz b k]? with
    |none=>exact ag.le_refl
    |some r=>
     have x:=Ex (c:=c) (b:=b) d a r;simp only;generalize gw c b d a r=y at*;obtain⟨z,C⟩:=y;cases z with
     |error D=>exact x
     |ok E=>exact x.trans yf
def Ey {d:Nat}: ∀(h:Nat) (a:ag) (b:List ay),a.le (ia d h a b).2
 |0,a,b=>ag.le_refl
 |h+1,a,b=>by
  rw[ia];by_cases c:1<b.length
  .rw[if_pos c];have c:=yf (H:=a) (e:=d) (a:=b);generalize jh a d b=k at*;obtain⟨o,p⟩:=k;cases o with
   |error x=>exact c
   |ok r=>exact c.trans (Ey h p r)
  .rw[if_neg c];exact ag.le_refl
def Ez:H.le (iI e q H w).2:=by
 unfold iI;split
 .exact jW
 .have a:=Ex (c:=e) (b:=q) (w.size.toNat+1) H w;generalize gw e q (w.size.toNat+1) H w=b at*;obtain⟨c,d⟩:=b;cases c with
  |error h=>exact a
  |ok k=>exact a.trans (Ey _ _ _)
variable{I:Bool}
theorem EA {a:List ay}:H.le (mg H e I O a).2:=by unfold mg;split<;>exact jW
theorem join_le {a b:ib}:H.le (kF H e a b).2:=by
 unfold kF;split
 .exact Ew
 .exact yf
theorem Zt {c:List ay}{a:ib}:H.le (jT H e c i a).2:=by
 unfold jT;by_cases b:2<=a.rows.length+a.kids.length
 .rw[if_pos b];grind[EA,mg]
 .rw[if_neg b];grind[ag.le_refl,iH,join_le,fO,kF]
def EB {d:Nat}{b:List Int}: ∀(k:Nat) (c:ag) (o:ay),c.le (ic d b k c o).2
 |0,c,o=>ag.le_refl
 |k+1,c,o=>by
  rw[ic];cases iH c d o with
  |none=>exact ag.le_refl
  |some a=>
   simp only;by_cases h:a.kind=2
   .rw[if_pos h];by_cases y:kE (a.rows.map Prod.fst) b=true
    .rw[if_pos y];exact ag.le_refl
    .rw[if_neg y];exact ag.le_refl
   .rw[if_neg h];cases a.kids[hz b a]? with
    |none=>exact ag.le_refl
    |some z=>
     have p:=EB (d:=d) (b:=b) k c z;simp only;generalize ic d b k c z=r at*;obtain⟨x,C⟩:=r;cases x with
     |error E=>exact p
     |ok D=>
      have h:=Zt (H:=C) (e:=d) (c:=a.kids) (i:=hz b a) (a:=D);simp only;generalize jT C d a.kids (hz b a) D=r at*;obtain⟨x,F⟩:=r;cases x with
      |error E=>exact p.trans h
      |ok G=>exact p.trans h
theorem EC:H.le (kG e q H w).2:=by
 unfold kG;split
 .exact ag.le_refl
 .have a:=EB (d:=e) (b:=q) (w.size.toNat+1) H w;generalize ic e q (w.size.toNat+1) H w=b at*;obtain⟨c,d⟩:=b;cases c with
  |error h=>exact a
  |ok k=>
   simp only;split
   .exact a
   .split
    .exact a
    .exact a.trans EA
def ig (a b:Int):Int:=if a<b then -1 else if b<a then 1 else 0
def fQ:List Int->List Int->Int
 | [],[]=>0
 | [],_:: _=> -1
 | _:: _,[]=>1
 |a::c,b::d=>if ig a b=0 then fQ c d else ig a b
def ED (b:Int) (a:U):AC Tryz.prog 269 [.v (.int .i64 b)] a λc d=>d=a/\c= .v (.bool false):=by
 refine aO hm QQ ?_
 repeat' first|refine aH (λ_=> ?_) λ_=> ?_|trivial
def EE (b c:Int) (a:U):AC Tryz.prog 185 [.v (.int .i64 b),.v (.int .i64 c)] a λd h=>h=a/\d= .v (.int .i64 (ig b c)):=by
 refine aO hm OK ?_;refine bj (ED b a) ?_;refine bj (ED c a) ?_
 repeat' first|refine aH (λ_=> ?_) λ_=> ?_|trivial
 .rw[ig,if_pos‹_›]
 .rw[ig,if_neg‹_›,if_pos‹_›]
 .rw[ig,if_neg‹_›,if_neg‹_›]
theorem drop_cons {a:List b0}{b:b0} (c:e<a.length):a.drop e=a.getD e b::a.drop (e+1):=by simp_all
theorem sP {a:List b0} (b:a.length<=e):a.drop e= []:=a5v b
theorem EF (a c:List Int) (h k:Own) (d:U) (y:a.length<=1000000000000):AC Tryz.prog 120 [.J (ad a) h,.J (ad c) k] d λo p=>p=d/\o= .v (.int .i64 (fQ a c)):=by
 have z:=bH (q:=a);have C:=bH (q:=c);have D:= @dO a;have E:= @dO c;refine aO hm ML ?_;refine gO [0,1,9,10] (λb:Nat=> [(11,.v (.int .i64 b))]) (λb=>b<=a.length/\b<=c.length/\fQ a c=fQ (a.drop b) (c.drop b)) (λb=>a.length - b) 0 ⟨a9p,a9p,rfl⟩ aU ?_;rintro b ⟨F,G,L⟩ P;refine aa ?_;refine aH (λr=> ?_) λr=> ?_
 .refine aH (λx=> ?_) λx=> ?_
  .rw[drop_cons (a:=a) (b:=0) a9p,sP (a:=c) a9p,fQ]
  .have S:=drop_cons (a:=a) (b:=0) (e:=b) a9p;have T:=drop_cons (a:=c) (b:=0) (e:=b) a9p;refine bj (EE _ _ _) ?_;refine aH (λc2=> ?_) λc2=> ?_
   .rw[fQ,if_neg c2]
   .rw[fQ,if_pos a9p];grind
 .repeat' first|refine aH (λ_=> ?_) λ_=> ?_|trivial
  .rw[sP (a:=a) a9p,drop_cons (a:=c) (b:=0) a9p,fQ]
  grind[sP,fQ]
def cN (a:Nat) (b c:List Int):Int:=if ig (b.getD a 0) (c.getD a 0)=0 then fQ b c else ig (b.getD a 0) (c.getD a 0)
def EG (a b:List Int) (o p:Own) (c:Nat) (d:U) (h:Nat) (z:d.read h=some [.v (.int .i64 (c:Int))]) (C:c<a.length) (D:c<b.length) (r:a.length<=1000000000000):
  AC Tryz.prog 336 [.J (ad a) o,.J (ad b) p,.ptr h 0] d λx y=>y=d/\x= .v (.int .i64 (cN c a b)):=by
 have E:= @dO a;have F:= @dO b;refine aO hm Sd ?_;refine bj (EE _ _ _) ?_;refine aH (λk=> ?_) λk=> ?_
 .rw[cN,if_neg k]
 .refine bj (EF _ _ _ _ _ r) ?_;rw[cN,if_pos a9p]
def EH (o a b:Nat) (y:0<a) (z:b<=1000000000000) (C:a<=8) (d:U):
  AC Tryz.prog 299 [dX o a,.v (.int .i64 (b:Int))] d λp h=>d.sub h/\ ∃c,h c=some (.cells [.v (.int .i64 ((b%a:Nat):Int))])/\d c=none/\p= .bG 336 [] [.ptr c 0]:=by
 have D:(b:Int).tmod (a:Int)=((b%a:Nat):Int):=rfl;have E: ¬(a:Int)=0:=a9p;refine aO hm Rx ?_;refine bq λc r=> ?_;refine da λx k F G=> ?_;refine⟨_,U.a1,?_,x,U.ah _ _ _,k,rfl⟩;exact U.ae (U.ae U.a1 r) k
def EI (c d:List Int) (h k:Own) (o a b:Nat) (p:0<a) (x:a<=8) (y:b<=1000000000000) (P:c.length=a) (S:d.length=a) (r:U):
  AC Tryz.prog 231 [dX o a,.J (ad c) h,.J (ad d) k,.v (.int .i64 (b:Int))] r λz C=>C=r/\z= .v (.int .i64 (if cN (b%a) c d<0 then 0 else 1)):=by
 have T:=a6S b p;refine aO hm PY ?_;refine bq λV D=> ?_;refine ai (EH o a b p y x _) ?_;rintro _ E ⟨F,G,L,_,rfl⟩;refine aa ?_;refine fI a9u (EG c d h k (b%a) E G (U.af L) a9p a9p a9p) ?_;rintro _ _ ⟨rfl,rfl⟩;refine aa ?_
 repeat' first|refine aH (λ_=> ?_) λ_=> ?_|trivial
 all_goals exact U.aq (U.ae U.a1 D) F
structure oA where
 prev:List UInt8
 num:Int
 ops:List UInt8
 EJ:List UInt8
 deriving DecidableEq
def oA.ok (a:oA):Prop:=a.prev.length=32/\a.ops.length=32/\a.EJ.length=32
def Zu (a:List UInt8) (b:Int) (c d:List UInt8):List R:=a.map ak++(.v (.int .i64 b)::(c.map ak++d.map ak))
def oA.C (a:oA):List R:=Zu a.prev a.num a.ops a.EJ
def oA.V (a:oA):R:= .agg a.C
def oA.may (a:oA):Bool:=decide (0<=a.num)&&decide (a.num<=1099511627776)
theorem yg (a:List UInt8) (b:Nat) (c:b<a.length):(⟨a.toArray⟩:ByteArray).get! b=a[b]:=by simp[ByteArray.get!,c]
theorem EK (a:List UInt8) (b:Nat) (c:b<a.length) (d:a[b].toNat<128):Utf8.decode ⟨a.toArray⟩ b=(a[b].toNat,1):=by simp[Utf8.decode,yg a b c,d]
theorem decode_high (b:List UInt8) (a:Nat) (E:a<b.length) (F:128<=b[a].toNat):
  128<=(Utf8.decode ⟨b.toArray⟩ a).1/\(Utf8.decode ⟨b.toArray⟩ a).1<=1114111/\1<=(Utf8.decode ⟨b.toArray⟩ a).2/\a+(Utf8.decode ⟨b.toArray⟩ a).2<=b.length/\
   ∀c,(r:c<b.length)->a<=c->c<a+(Utf8.decode ⟨b.toArray⟩ a).2->128<=b[c].toNat:=by
 have f: ∀c,(r:c<b.length)->a<=c->c<a+1->128<=b[c].toNat:=λc r G x=>by
  grind
 have h: ∀k,(a+k<b.length/\((⟨b.toArray⟩:ByteArray).get! (a+k)).toNat/64=2)-> ∃E:a+k<b.length,128<=b[a+k].toNat:=λk g=>by
  grind[yg]
 have S:(⟨b.toArray⟩:ByteArray).size=b.length:=mR b;have T:((⟨b.toArray⟩:ByteArray).get! (a+0)).toNat=b[a].toNat:=by rw[a6x,yg b a E]
 have i:b[a].toNat<256:=b[a].toNat_lt;unfold Utf8.decode;simp only[T,S];rw[if_neg a9p];have v: ∀z:Nat,Utf8.valid (z:Int)=true->z<=1114111:=λz d=>by
  simp only[Utf8.valid,a6s,a4K,decide_eq_true_eq]at d;omega
 split
 .rename_i d;simp only[a4K,decide_eq_true_eq,beq_iff_eq]at d;obtain⟨L,o⟩:=d;obtain⟨P,y⟩:=h 1 o;split;grind;grind[Utf8.runeError]
 .split
  .rename_i d;simp only[a4K,decide_eq_true_eq,beq_iff_eq]at d;obtain⟨⟨L,o⟩,C⟩:=d;obtain⟨P,y⟩:=h 1 o;obtain⟨V,D⟩:=h 2 C;split
   .rename_i p;simp only[a4K,decide_eq_true_eq]at p;refine⟨by simp only;omega,v _ p.2,a9q,a9r,λc r G x=> ?_⟩;rcases(by simp only at x;omega:c=a\/c=a+1\/c=a+2)with rfl|rfl|rfl
    .exact F
    .exact y
    .exact D
   grind[Utf8.runeError]
  .split
   .rename_i d;simp only[a4K,decide_eq_true_eq,beq_iff_eq]at d;obtain⟨⟨⟨L,o⟩,C⟩,W⟩:=d;obtain⟨P,y⟩:=h 1 o;obtain⟨V,D⟩:=h 2 C;obtain⟨j,e⟩:=h 3 W;split
    .rename_i p;simp only[a4K,decide_eq_true_eq]at p;refine⟨by simp only;omega,v _ p.2,a9q,a9r,λc r G x=> ?_⟩;rcases(by simp only at x;omega:c=a\/c=a+1\/c=a+2\/c=a+3)with rfl|rfl|rfl|rfl
     .exact F
     .exact y
     .exact D
     .exact e
    grind[Utf8.runeError]
   grind[Utf8.runeError]
def fR (b:Nat) (a:Int):Bool:=(decide (97<=a)&&decide (a<=122))||(!decide (b=0)&&((decide (48<=a)&&decide (a<=57))||decide (a=95)))
def lv (b:ByteArray):Nat->Nat->Bool
 |0,_=>true
 |c+1,a=>if a<b.size then fR a (Utf8.decode b a).1&&lv b c (a+(Utf8.decode b a).2)else true
def jX (a:List UInt8):Bool:=lv ⟨a.toArray⟩ (a.length+1) 0&&decide (1<=a.length/\a.length<=16)
theorem Zv (a:List UInt8) (b:Nat) (c:b<a.length):1<=(Utf8.decode ⟨a.toArray⟩ b).2/\b+(Utf8.decode ⟨a.toArray⟩ b).2<=a.length/\(Utf8.decode ⟨a.toArray⟩ b).1<=1114111:=by grind[EK,decode_high]
def sQ:qp (bd B)=some (.v (.int .i64 B.length)):=wO
theorem EL (a:List UInt8) (l:a.length<=1000000) (k:U):
  AC Tryz.prog 77 [bd a] k λe o=>o=k/\e= .v (.bool (jX a)):=by
 refine bf hm Lu a9q ?_;have f: ∀(G:Nat->ByteArray->Prop) (V:cC G),wU (bd a) k (bO G V)=iY k (c3 (λg=>G g ⟨a.toArray⟩) ()):=λG V=>C9;refine aF @f ?_;refine aP λr y=> ?_;refine eD ?_;refine cu (λP o=> ∃x b:Nat,b<=a.length/\a.length<x+b/\lv ⟨a.toArray⟩ x b=lv ⟨a.toArray⟩ (a.length+1) 0/\k.sub o/\o r=some (.it ⟨a.toArray⟩ b)/\P 0=bd a/\P 7= .ptr r 0)
  (λ_ o=>match o r with|some (.it _ b)=>a.length - b| _=>0) ⟨a.length+1,0,a9p,a9p,rfl,U.ae U.a1 y,U.ah _ _ _,?_⟩ ?_
 .exact qw
 .rintro P o ⟨x,b,m,n,z,C,S,p,h⟩;refine aF @h ?_;by_cases D:b<a.length
  .obtain⟨x,rfl⟩: ∃i,x=i+1:=⟨x - 1,a9p⟩;obtain⟨q,s,t⟩:=Zv a b D;have j:(⟨a.toArray⟩:ByteArray).size=a.length:=mR a;rw[lv,if_pos (by rw[j];exact D)]at z;refine VI S D ?_;generalize (Utf8.decode ⟨a.toArray⟩ b).1=c at*;generalize (Utf8.decode ⟨a.toArray⟩ b).2=E at*;have F (d:fR b c=false):jX a=false:=by rw[d,a7d]at z;rw[jX,<-z];rfl
   have u (d:fR b c=true):(∃W L:Nat,L<=a.length/\a.length<W+L/\lv ⟨a.toArray⟩ W L=lv ⟨a.toArray⟩ (a.length+1) 0/\k.sub (o.set r (.it ⟨a.toArray⟩ (b+E)))/\(o.set r (.it ⟨a.toArray⟩ (b+E))) r=some (.it ⟨a.toArray⟩ L)):=by rw[d,a6m]at z;grind[U.ae,U.ah]
   have T:((b:Int)=0)=(b=0):=a9q;have v:(match o r with|some (.it _ b)=>a.length - b| _=>0)=a.length - b:=by rw[S]
   have w:(match(o.set r (.it ⟨a.toArray⟩ (b+E))) r with|some (.it _ b)=>a.length - b| _=>0)=a.length -(b+E):=by rw[U.ah]
   have A:a.length -(b+E)<a.length - b:=a9p;by_cases hB:(97:Int)<=(c:Int)
   .by_cases a2:(c:Int)<=122
    .have d:fR b c=true:=by simp[fR,hB,a2]
     refine aF (aM @p @h @hB @a2) ?_;simp_all
    .by_cases a0:(b:Int)=0
     .have d:fR b c=false:=by simp[fR,hB,a2];omega
      refine aF (bo @p @h @hB @a2 @a0) ?_;exact⟨k,U.ae C y,rfl,by rw[F d]⟩
     .have d:fR b c=false:=by simp[fR,hB,a2];omega
      have a3: ¬(c:Int)<48:=a9p;have a4:(57:Int)<c:=a9p;have a5: ¬(c:Int)=95:=a9p;refine aF (bu @p @h @hB @a2 @a0 @a3 @a4 @a5) ?_;exact⟨k,U.ae C y,rfl,by rw[F d]⟩
   .by_cases a0:(b:Int)=0
    .have d:fR b c=false:=by simp[fR,hB];omega
     refine aF (aM @p @h @hB @a0) ?_;exact⟨k,U.ae C y,rfl,by rw[F d]⟩
    .have T: ¬b=0:=a9p;by_cases a3:(c:Int)<48
     .have d:fR b c=false:=by simp[fR,hB];omega
      have a5: ¬(c:Int)=95:=a9p;refine aF (bC @p @h @hB @a0 @a3 @a5) ?_;exact⟨k,U.ae C y,rfl,by rw[F d]⟩
     .by_cases a4:(57:Int)<c
      .by_cases a5:(c:Int)=95
       .have d:fR b c=true:=by simp[fR,hB,a5,T]
        refine aF (cc @p @h @hB @a0 @a3 @a4 @a5) ?_;simp_all
       .have d:fR b c=false:=by simp[fR,hB,a5];omega
        refine aF (cc @p @h @hB @a0 @a3 @a4 @a5) ?_;exact⟨k,U.ae C y,rfl,by rw[F d]⟩
      .have d:fR b c=true:=by simp[fR,hB,T];omega
       refine aF (bC @p @h @hB @a0 @a3 @a4) ?_;simp_all
  .have B:jX a=decide (1<=a.length/\a.length<=16):=by
    have:lv ⟨a.toArray⟩ x b=true:=by
     cases x with
     |zero=>rfl
     |succ x=>rw[lv,if_neg (by rw[mR];exact D)]
    rw[jX,<-z,this,a6m]
   refine VJ S D ?_;by_cases d1:(1:Int)<=a.length
   .by_cases d2:(a.length:Int)<=16
    .refine aF (bo @p @h @sQ @d1 @d2) ?_;grind
    .refine aF (bo @p @h @sQ @d1 @d2) ?_;grind
   .refine aF (aM @p @h @sQ @d1) ?_;grind
def bE (a:List (List UInt8)):List R:=a.map bd
def hC {a:List (List UInt8)}:(bE a).length=a.length:=by simp[bE]
def pz {a:List (List UInt8)}{b:Nat} (c:b<a.length):(bE a)[b]? =some (bd (a.getD b [])):=by simp[bE,c,List.getD]
def yh:eC 1 (some (bd B))=some (.bV [bd B]):=rfl
theorem Zw (a:List (List UInt8)) (C:Own) (h:List UInt8) (T:a.length<=1000000) (d:U):
  AC Tryz.prog 224 [.J (bE a) C,bd h] d λG o=>o=d/\ ∃k:Int,G= .v (.int .i64 k)/\decide (0<=k)=decide (h∈a):=by
 refine bf hm PM a9q ?_;have L:=hC (a:=a);refine aF @L ?_;refine cu (λc o=> ∃b:Nat,b<=a.length/\o=d/\h∉a.take b/\c 0= .J (bE a) C/\c 1=bd h/\c 7= .v (.int .i64 a.length)/\c 8= .v (.int .i64 b))
  (λc _=>match c 8 with| .v (.int _ k)=>(a.length - k).toNat| _=>0) ⟨0,a9p,rfl,a9q,?_⟩ ?_
 .exact qw
 .rintro c d ⟨b,V,rfl,W,p,r,x,y⟩;by_cases z:(b:Int)<a.length
  .have D:b<a.length:=a9p;have E:=pz D;have P:a.getD b []∈a:=by simp[List.getD,D]
   have e:a.take (b+1)=a.take b++ [a.getD b []]:=by simp_all
   generalize a.getD b []=S at*;by_cases F:h=S
   .refine aF (dr @p @r @x @y @z @hl @E @yh @F) ?_;refine⟨d,U.a1,rfl,b,rfl,?_⟩;simp[P]
   .refine aF (dr @p @r @x @y @z @hl @E @yh @F) ?_;grind
  .obtain rfl:b=a.length:=a9p;refine aF (bo @p @r @x @y @z) ?_;refine⟨d,U.a1,rfl,-1,rfl,?_⟩;simp_all
def Zx (b:List (List UInt8)) (d:Own) (c:List UInt8) (h:b.length<=1000000) (a:U):
  AC Tryz.prog 146 [.J (bE b) d,bd c] a λk o=>o=a/\k= .v (.bool (decide (c∈b))):=by
 refine bf hm Nv a9q ?_;refine eD ?_;refine ai (Zw b d c h a) ?_;rintro _ a ⟨rfl,r,rfl,p⟩;refine aF @p ?_
 all_goals exact⟨a,U.a1,rfl⟩
def mj (a:List (List UInt8)) (b:Nat):Bool:=jX (a.getD b [])&&(!decide (a.getD b []= [105,100])&& !decide (a.getD b []∈a.take b))
def nr (a:List (List UInt8)):Bool:=(List.range a.length).all (mj a)&&decide (1<=a.length/\a.length<=7)
theorem yi {a:List (List UInt8)} (b:e<a.length) (c:mj a e=false):nr a=false:=by grind[nr,Bool.and_eq_false_iff,List.all_eq_false]
theorem Zy {a:List (List UInt8)} (c: ∀b,b<a.length->mj a b=true):nr a=decide (1<=a.length/\a.length<=7):=by
 have:(List.range a.length).all (mj a)=true:=by simp_all
 rw[nr,this,a6m]
theorem Zz (a:List (List UInt8)) (y:Own) (n:a.length<=1000000) (V: ∀W∈a,W.length<=1000000) (c:U):
  AC Tryz.prog 78 [.J (bE a) y] c λe E=>E=c/\e= .v (.bool (nr a)):=by
 refine bf hm Lw a9q ?_;have z:=hC (a:=a);refine aF @z ?_;refine cu (λr E=> ∃b:Nat,b<=a.length/\E=c/\(∀C,C<b->mj a C=true)/\r 0= .J (bE a) y/\r 5= .J (bE a) y/\r 6= .v (.int .i64 a.length)/\r 7= .v (.int .i64 b))
  (λr _=>match r 7 with| .v (.int _ f)=>(a.length - f).toNat| _=>0) ⟨0,a9p,rfl,λC g=>by omega,?_⟩ ?_
 .exact qw
 .rintro r c ⟨b,q,rfl,i,h,k,o,p⟩;by_cases D:(b:Int)<a.length
  .have x:b<a.length:=a9p;have j:=pz x;have l:a.getD b []∈a:=by simp[List.getD,x]
   have P:mj a b=(jX (a.getD b [])&&(!decide (a.getD b []= [105,100])&& !decide (a.getD b []∈a.take b))):=rfl;generalize a.getD b []=d at*;refine aF (bu @h @k @o @p @D @hl @j @yh) ?_;refine ai (EL d (V d l) c) ?_;rintro _ c ⟨rfl,rfl⟩;cases S:jX d
   .refine aF (aM @h @k @o @p) ?_;exact⟨c,U.a1,rfl,by rw[yi x (by rw[P,S];rfl)]⟩
   .have s:(bE a).take b=bE (a.take b):=by simp[bE,a7I]
    by_cases F:d= [105,100]
    .have G:ja .eql (bd d) (.v (.string ⟨#[105,100]⟩))=some (.v (.bool true)):=by have:=qu (a:=d) (b:= [105,100]);rw[decide_eq_true F]at this;exact this
     refine aF (bo @h @k @o @p @G) ?_;exact⟨c,U.a1,rfl,by rw[yi x (by rw[P,S,decide_eq_true F];rfl)]⟩
    .have G:ja .eql (bd d) (.v (.string ⟨#[105,100]⟩))=some (.v (.bool false)):=by have:=qu (a:=d) (b:= [105,100]);rw[decide_eq_false F]at this;exact this
     have m:dN 1 (.J (bE a) y) none (some (.v (.int .i64 (b:Int))))=some (.J (bE (a.take b)) .any):=by grind[nU,aN,bE,bd,R.cells,Int.toNat_natCast]
     refine aF (bC @h @k @o @p @G @m) ?_;refine ai (Zx (a.take b) _ d (by rw[a4L];omega) c) ?_;rintro _ c ⟨rfl,rfl⟩;by_cases T:d∈a.take b
     .refine aF (bo @h @k @o @p @T) ?_;exact⟨c,U.a1,rfl,by rw[yi x (by simp_all)]⟩
     .refine aF (bo @h @k @o @p @T) ?_;refine⟨⟨b+1,a9p,λC g=> ?_,a9q⟩,a9p⟩;grind
  .obtain rfl:b=a.length:=a9p;have L:=Zy i;by_cases d1:(1:Int)<=a.length
   .by_cases d2:(a.length:Int)<=7
    .refine aF (bu @h @k @o @p @D @z @d1 @d2) ?_;exact⟨c,U.a1,rfl,by rw[L];simp;omega⟩
    .refine aF (bu @h @k @o @p @D @z @d1 @d2) ?_;exact⟨c,U.a1,rfl,by rw[L];simp;omega⟩
   .refine aF (cc @h @k @o @p @D @z @d1) ?_;exact⟨c,U.a1,rfl,by rw[L];simp;omega⟩
structure cp where
 kind:UInt8
 table:List UInt8
 aC:List (List UInt8)
 row:List Int
structure cf where
 d:cp
 gx:Own
 dn:Own
def cf.C (a:cf):List R:= [ak a.d.kind,bd a.d.table,.J (bE a.d.aC) a.gx,.J (ad a.d.row) a.dn]
def cf.V (a:cf):R:= .agg a.C
def cf.ZA {a:cf}:a.C.length=4:=rfl
def cf.m1 {a:cf}:aY false 1 (a.C.drop 1)=bd a.d.table:=rfl
def cf.m2 {a:cf}:aY false 1 (a.C.drop 2)= .J (bE a.d.aC) a.gx:=rfl
def cf.m3 {a:cf}:aY false 1 (a.C.drop 3)= .J (ad a.d.row) a.dn:=rfl
def cp.ok (a:cp):Prop:=a.table.length<=16/\a.aC.length<=8/\(∀b∈a.aC,b.length<=16)/\a.row.length<=255
def ea (a:cp):Bool:=jX a.table&&
  (if a.kind.toNat=1 then nr a.aC&&decide (a.row.length=0)
   else if a.kind.toNat=2 then decide (a.aC.length=0)&&decide (a.row.length=0)
   else if a.kind.toNat=3\/a.kind.toNat=4 then decide (a.aC.length=0)&&(decide (2<=a.row.length)&&decide (a.row.length<=8))
   else false)
structure cp.Fit (d:cp):Prop where
 t:d.table.length<=1000000
 c:d.aC.length<=1000000
 cs: ∀c∈d.aC,c.length<=1000000
 r:d.row.length<=1000000
def EM (a:cf) (k:a.d.Fit) (b:U):
  AC Tryz.prog 46 [a.V] b λo p=>p=b/\o= .v (.bool (ea a.d)):=by
 obtain⟨⟨r,d,c,h⟩,x,y⟩:=a;obtain⟨z,C,D,G⟩:=k;have L:=hC (a:=c);have P:=bH (q:=h);show AC _ _ [.agg [ak r,bd d,.J (bE c) x,.J (ad h) y]] b _;refine aO hm KI ?_;refine bq λS T=> ?_;refine bj (EL d z _) ?_;refine aH (λE=> ?_) λE=> ?_
 .rw[ea];exact aQ
 refine aH (λF=> ?_) λF=> ?_
 .refine bj (Zz c _ C D _) ?_
  repeat' first|refine aH (λ_=> ?_) λ_=> ?_|trivial
  all_goals (rw[ea];exact aQ)
 repeat' first|refine aH (λ_=> ?_) λ_=> ?_|trivial
 all_goals (rw[ea];exact aQ)
def ZB (a b c d:List Int) (k o p r:Own) (h:U) (C:a.length<=1000000000000) (D:b.length<=1000000000000):
  AC Tryz.prog 167 [ew a b k o,ew c d p r] h λx y=>y=h/\x= .v (.bool (decide (a=c)&&decide (b=d))):=by
 refine aO hm Ob ?_;refine bq λE F=> ?_;refine da λG L P S=> ?_;refine bj (nn _ _ _ _ _ a9p) ?_;refine aH (λz=> ?_) λz=> ?_
 .refine bj (nn _ _ _ _ _ a9p) trivial
 trivial
def ns (b:Nat) (a:UInt8):Bool:=(decide (97<=a.toNat)&&decide (a.toNat<=122))||(!decide (b=0)&&((decide (48<=a.toNat)&&decide (a.toNat<=57))||decide (a.toNat=95)))
def nt (a:List UInt8):Bool:=(List.range a.length).all (λb=>ns b (a.getD b 0))&&(decide (0<a.length)&&decide (a.length<17))
def EN (a:List UInt8) (d:U) (y:a.length<=1000000):
  AC Tryz.prog 88 [bd a] d λp h=>h=d/\p= .v (.bool (nt a)):=by
 refine aO hm LR ?_;refine ch [0] (λb:Nat=> [(3,.v (.int .i64 b))]) (λb h=>h=d/\b<=a.length/\ ∀c<b,ns c (a.getD c 0)=true) (λb=>a.length - b) 0 ?_ ?_
 .refine aa ?_;simp
 rintro b _ ⟨rfl,z,k⟩ C;refine aa ?_;refine aH (λr=> ?_) λr=> ?_
 .have x:ns b (a.getD b 0)=false->nt a=false:=λo=>by rw[nt,sf a9p o];rfl
  repeat' first|refine aH (λ_=> ?_) λ_=> ?_|trivial
  all_goals first
   |omega
   |(rw[x (by rw[ns];exact qy)])
   |exact⟨b+1,⟨a9p,upto k (by rw[ns];exact qy)⟩,rfl,a9p⟩
 have D:nt a=(decide (0<a.length)&&decide (a.length<17)):=by rw[nt,sg λc o=>k c a9p];rfl
 repeat' first|refine aH (λ_=> ?_) λ_=> ?_|trivial
 all_goals exact aQ
def lx (a:List (List UInt8)) (b:Nat):Bool:=nt (a.getD b [])&&(!decide (a.getD b []= [105,100])&&(List.range b).all λc=> !decide (a.getD c []=a.getD b []))
def yj (a:List (List UInt8)):Bool:=(List.range a.length).all (lx a)
def oB (a:cp):Bool:=nt a.table&&
  (if a.kind.toNat=1 then yj a.aC&&(decide (0<a.aC.length)&&(decide (a.aC.length<8)&&decide (a.row.length=0)))
   else if a.kind.toNat=2 then decide (a.aC.length+a.row.length=0)
   else(decide (a.kind.toNat=3)||decide (a.kind.toNat=4))&&(decide (a.aC.length=0)&&(decide (1<a.row.length)&&decide (a.row.length<9))))
theorem ZC (h:cf) (F:h.d.Fit) (k:U):
  AC Tryz.prog 51 [h.V] k λG L=>L=k/\G= .v (.bool (oB h.d)):=by
 obtain⟨⟨x,o,b,p⟩,P,S⟩:=h;obtain⟨y,T,z,V⟩:=F
 dsimp only at y T z V|-
 have l:=hC (a:=b);have m:=bH (q:=p);show AC _ _ [.agg [.v (.int .u8 x.toNat),bd o,.J (bE b) P,.J (ad p) S]] k _;refine aO hm KS ?_;refine bq λn q=> ?_;refine bj (EN o _ y) ?_;refine aH (λW=> ?_) λW=> ?_
 .rw[oB];exact aQ
 refine aH (λe=> ?_) λe=> ?_
 .have s:yj b=(List.range b.length).all (lx b):=rfl;have t:= @pz b;have u: ∀r,ja .eql (bd r) (.v (.string ⟨#[105,100]⟩))=some (.v (.bool (decide (r= [105,100])))):=λr=>qu (b:= [105,100]);have f: ∀a,a<b.length->(b.getD a []).length<=1000000:=λa C=>z _ (by simp[List.getD,C]);refine gO [1] (λa:Nat=> [(3,.v (.int .i64 a))]) (λa=>a<=b.length/\ ∀d<a,lx b d=true) (λa=>b.length - a) 0 ⟨a9p,λd D=>by omega⟩ (aU) ?_;rintro a ⟨C,g⟩ i;refine aa ?_;refine aH (λc2=> ?_) λc2=> ?_
  .have E:lx b a=false->oB ⟨x,o,b,p⟩=false:=λD=>by grind[oB,sf]
   refine bj (EN _ _ (f a a9p)) ?_
   repeat' first|refine aH (λ_=> ?_) λ_=> ?_|trivial
   .exact aR (E (by rw[lx];simp[*,-a5s])).symm
   .refine gO [1,3] (λc:Nat=> [(4,.v (.int .i64 c))]) (λc=>c<=a/\ ∀d<c,b.getD d []≠b.getD a []) (λc=>a - c) 0 ⟨a9p,λd D=>by omega⟩ (aU) ?_;rintro c ⟨v,j⟩ i;refine aa ?_;refine aH (λaI=> ?_) λaI=> ?_
    .refine aH (λaM=> ?_) λaM=> ?_;grind[aR,lx,sf]
     .exact⟨c+1,⟨a9p,upto j aM⟩,rfl,a9p⟩
    .refine⟨a+1,⟨a9p,upto g ?_⟩,rfl,a9p⟩;grind[lx,sg]
   .exact aR (E (by rw[lx];simp[*,-a5s])).symm
  repeat' first|refine aH (λ_=> ?_) λ_=> ?_|trivial
  all_goals grind[oB,sg,aQ]
 repeat' first|refine aH (λ_=> ?_) λ_=> ?_|trivial
 all_goals (rw[oB];exact aQ)
theorem ZD (a b:Nat) (h:a<18446744073709551616) (k:0<b):bn .quo (.int .u64 a) (.int .u64 (b:Int))=some (.int .u64 ((a/b:Nat):Int)):=by have c:bn .quo (.int .u64 a) (.int .u64 (b:Int))=(if(b:Int)=0 then none else some (.int .u64 (IntKind.u64.wrap ((a:Int).tdiv (b:Int))))):=rfl;have d:((a:Int).tdiv (b:Int))=((a/b:Nat):Int):=rfl;have o:a/b<=a:=a7L a b;rw[c,if_neg a9p,d];grind[wrap_u64]
def yk (b a:Nat) (d:0<a):bn .rem (.int .u64 b) (.int .u64 (a:Int))=some (.int .u64 ((b%a:Nat):Int)):=by have c:bn .rem (.int .u64 b) (.int .u64 (a:Int))=(if(a:Int)=0 then none else some (.int .u64 ((b:Int).tmod (a:Int)))):=rfl;rw[c,if_neg a9p];rfl
variable{n b3:R}{s a7:R -> U -> Prop}{f t e7:U}
theorem qV {c:List UInt8}{k:cC s} (r:ar t f 1 (c.map ak) n) (a:bM f 1 b3=some (e,B.map ak)) (x:c.length+B.length<=70368744177664)
  (y: ∀d h,ar t h 1 ((c++B).map ak) d->s d h):jK 1 1 f n b3 (bO s k):=by
 have z:B.length=e:=by
  unfold bM at a;split at a
  .split at a
   .rename_i C _ D;simp only[a4S,a5U]at a;have b:=congrArg List.length a.2;rw[dg (c:=1) (by simp_all)]at b;simp at b;omega
   .cases a
  .split at a
   .split at a
    .rename_i o _ p;simp only[a4S,a5U]at a;have b:=congrArg List.length a.2;simp at b;omega
    .cases a
   .cases a
  .split at a
   .split at a
    .rename_i o _ p;simp only[a4S,a5U]at a;have b:=congrArg List.length a.2;simp at b;omega
    .cases a
   .cases a
  .cases a
 grind[fj]
end Go.Proofs.YtlgnfcaolejgeaaGreat
namespace Go.bA
open Go
theorem ZE (a:Nat) (c:a<18446744073709551616):a^^^9223372036854775808=(a+9223372036854775808)%18446744073709551616:=by
 have h:(9223372036854775808:Nat)=2^63:=a9t;have d:(18446744073709551616:Nat)=2^64:=a9t;rw[d]at c;rw[h,d];apply a7o;intro b;rw[a8j,a9g,a8J,a8B];by_cases h1:b<63
 .rw[a8u h1];grind
 .by_cases k:b=63;grind
  .have o: ¬b<64:=a9p;have p:a.testBit b=false:=a6R (a5X c (a6w a9p a9p));grind
end Go.bA
namespace Go.Proofs.YtlgnfcaolejgeaaGreat
open Go Go.bA
theorem ZF (a:Int):IntKind.u64.wrap (IntKind.u64.wrap a+9223372036854775808)=(cd a:Int):=by grind[kx,BitVec.ofInt,BitVec.toNat_ofInt,cd,BitVec.toNat_xor,ZE]
theorem ZG (b:Int) (k:U):
  AC Tryz.prog 193 [.v (.int .i64 b)] k λE h=>ar k h 1 ((hT b).map ak) E:=by
 refine bf hm P0 a9q ?_;refine aF (aI @ZF @ba @bb) ?_;have F:cd b<18446744073709551616:=(BitVec.ofInt 64 b^^^BitVec.ofInt 64 9223372036854775808).isLt;have G:hT b=cJ (cd b):=rfl;rw[G];generalize cd b=c at*;refine wR (e:=8) a9p a9p λo p=> ?_;refine aF (c2 @ba @bb) ?_;refine cu (λd h=> ∃a:Nat,a<=8/\h=k.set o (.cells (List.replicate (8 - a) (ak 0)++((cJ c).drop (8 - a)).map ak))/\d 4= .al o 8 8 1/\d 3= .v (.int .u64 ((c/256^a:Nat):Int))/\d 5= .v (.int .i64 (7 -(a:Int))))
  (λd _=>match d 5 with| .v (.int _ b)=>(b+8).toNat| _=>0) ⟨0,a9p,?_⟩ ?_
 .refine aF (c2 @ba @bb) ?_
  try (simp;try rfl)
 .rintro d h ⟨a,T,rfl,r,x,y⟩;by_cases z:(0:Int)<=7 -(a:Int)
  .have L:c/256^a<18446744073709551616:=Nat.lt_of_le_of_lt (a7L _ _) F;have C:=ZD (c/256^a) 256 L a9p;have D:=yk (c/256^a) 256 a9p;have P:((256:Nat):Int)=256:=rfl;rw[P]at C D;have S:(List.replicate (8 - a) (ak 0)++((cJ c).drop (8 - a)).map ak).length=8:=by
    have:(cJ c).length=8:=rfl;simp[this]
    try omega
   refine aF (ct @x @r @y @z @C @D @ix @S @ba @bb) ?_;refine⟨⟨a+1,a9p,?_,?_,by(congr 2;try omega)⟩,a9p⟩
   .congr 2;have yl:UInt8.ofNat (c/256^a%256)=UInt8.ofNat (c>>>(8*a)):=by grind[UInt8.toNat_inj,UInt8.toNat_ofNat',Nat.shiftRight_eq_div_pow,Nat.pow_mul]
    rw[yl];rcases(by omega:a=0\/a=1\/a=2\/a=3\/a=4\/a=5\/a=6\/a=7)with rfl|rfl|rfl|rfl|rfl|rfl|rfl|rfl<;>rfl
   .rw[Nat.div_div_eq_div_mul,<-a8D]
  .obtain rfl:a=8:=a9p;refine aF (bC @x @r @y @z @ba @bb) ?_;refine⟨_,U.a1,U.ae U.a1 p,.inr ⟨o,8,8,_,rfl,p,U.ah _ _ _,rfl,rfl,rfl,a9p,a9t⟩⟩
def ZH (b:Bool) (d:U):
  AC Tryz.prog 257 [.v (.bool b)] d λh k=>ar d k 1 ([if b then(1:UInt8)else 0].map ak) h:=by
 refine bf hm QM a9q ?_;cases b
 .refine aF (c2 @ba @bb) ?_;refine eS (by simp[aN,R.cells]) a9q λc a=> ?_;refine aF (c2 @ba @bb) ?_;exact⟨_,U.a1,U.ae U.a1 a,.inr ⟨c,1,1,_,rfl,a,U.ah _ _ _,rfl,rfl,rfl,a9p,a9t⟩⟩
 .refine aF (c2 @ba @bb) ?_;refine eS (by simp[aN,R.cells]) a9q λc a=> ?_;refine aF (c2 @ba @bb) ?_;exact⟨_,U.a1,U.ae U.a1 a,.inr ⟨c,1,1,_,rfl,a,U.ah _ _ _,rfl,rfl,rfl,a9p,a9t⟩⟩
structure ym where
 o:iC
 st:Int
 xm:Bool
 a:iC
 b:iC
def ym.ok (a:ym):Prop:=a.o.ok/\a.a.ok/\a.b.ok
section
variable {F:ym} (h:F.ok)
include h
end
def EO (b:Nat) (d:U) (r:b<=1000000000000):AC Tryz.prog 125 [.v (.int .i64 (b:Int))] d λk h=>fx d h (fm b) k:=by
 have x: ∀a:Nat,(a:Int).tdiv 65536=((a/65536:Nat):Int):=λ_=>rfl;have y: ∀a:Nat,(a:Int).tdiv 256=((a/256:Nat):Int):=λ_=>rfl;have z: ∀a:Nat,(a:Int).tmod 256=((a%256:Nat):Int):=λ_=>rfl;have C: ∀a:Nat,IntKind.u8.wrap (a:Int)=((UInt8.ofNat a).toNat:Int):=λa=>ix a;refine aO hm MR ?_;have o:fm b= [UInt8.ofNat (b/65536%256),UInt8.ofNat (b/256%256),UInt8.ofNat (b%256)]:=by have a: ∀c,UInt8.ofNat (c%256)=UInt8.ofNat c:=λc=>a5G.1 a9q;simp only[fm,a5C,a,Nat.reducePow]
 rw[o];refine u0 [_,_,_] (λD h p _=> ?_);exact⟨_,U.a1,p⟩
theorem uG (a:List Int) (r:Own) (o:U) (E:a.length<=1000000):AC Tryz.prog 126 [.J (ad a) r] o λd p=>fx o p (dy a) d:=by
 have F: ∀h:Nat,IntKind.u8.wrap (h:Int)=((UInt8.ofNat h).toNat:Int):=λh=>ix h;have G:=bH (q:=a);refine aO hm MT ?_;refine u0 [UInt8.ofNat a.length] (λd L x _=> ?_);refine ch [0] (λb:Nat×R=> [(4,.v (.int .i64 b.1)),(3,b.2)]) (λb p=>b.1<=a.length/\fx o p (UInt8.ofNat a.length::(a.take b.1).flatMap hT) b.2) (λb=>a.length - b.1) (0,d) ⟨⟨a9p,by simpa using x⟩,aU⟩ ?_;rintro⟨c,d⟩ P ⟨y,k⟩ S
 dsimp only at y k|-
 have T:= @dO a;refine aa ?_;refine aH (λz=> ?_) λz=> ?_
 .refine hR (ZG _ _) λV W C=> ?_;have e:=ob (a.take c);have f:(a.take c).length=c:=a9r;have g: ∀D,(hT D).length=8:=λ_=>rfl;refine mV k C λa4 i j _=> ?_;refine⟨(c+1,a4),⟨by simp only;omega,?_⟩,⟨rfl,rfl⟩,by simp only;omega⟩;grind[eT]
 .obtain rfl:c=a.length:=a9p;rw[a5f]at k;exact⟨_,U.a1,k⟩
def EP (a b:ay) (c d h k o p:Own) (r:U) (x:a.sum.length=32) (y:b.sum.length=32) (z:a.cE):
  AC Tryz.prog 101 [.agg (ab a c d h),.agg (ab b k o p)] r λC D=>D=r/\C= .v (.bool (decide (a=b))):=by
 have L:=(aX (N:=c) (e5:=d) (h5:=h) x).all;have P:=(aX (N:=k) (e5:=o) (h5:=p) y).all;rw[D8];generalize ab a c d h=S at*;generalize ab b k o p=T at*;obtain⟨E,F,G⟩:=z;have V:dB [(32,.int .u8)] (a.sum.map ak):=po x;have W:dB [(32,.int .u8)] (b.sum.map ak):=po y;have e:= @sy a.sum b.sum;refine aO hm Mc ?_;refine bq λf g=> ?_;refine da λi j l m=> ?_
 repeat' first|refine aH (λ_=> ?_) λ_=> ?_|trivial
 all_goals first
  |exact aQ
  |refine bj (ZB _ _ _ _ _ _ _ _ _ E F) ?_
   repeat' first|refine aH (λ_=> ?_) λ_=> ?_|trivial
   all_goals first
    |exact aQ
    |refine bj (nn _ _ _ _ _ G) ?_
     first|trivial|exact aQ
structure aK where
 name:List UInt8
 aC:List (List UInt8)
 bK:ay
 cj:ay
 deriving DecidableEq
instance:Inhabited aK:=⟨⟨[],[],aA,aA⟩⟩
structure et (t:aK) (T:List R):Prop where
 e: ∃gx ht eW a nu nv b,T=bd t.name:: .J (bE t.aC) gx::(ab t.bK ht eW a++ab t.cj nu nv b)
 k:t.bK.sum.length=32/\t.bK.cE
 z:t.cj.sum.length=32/\t.cj.cE
 c:t.aC.length<=1000000
def dD (a:aK) (b:R):Prop:= ∃T,b= .agg T/\et a T
variable{g A e1:List R}{e6:aK}
theorem et.all (x:et e6 g):g.length=76/\g.take 76=g/\aY false 1 g=bd e6.name/\ ∃o a b c d h k,aY false 1 (g.drop 1)= .J (bE e6.aC) o/\(g.drop 2).take 37=ab e6.bK a b c/\(g.drop 39).take 37=ab e6.cj d h k:=by obtain⟨⟨o,a,b,c,d,h,k,rfl⟩,⟨y,_⟩,⟨z,_⟩,_⟩:=x;have p:=(aX (N:=a) (e5:=b) (h5:=c) y).len;have r:=(aX (N:=d) (e5:=h) (h5:=k) z).len;refine⟨by simp[p,r],a4I (by simp[p,r]),rfl,o,a,b,c,d,h,k,rfl,?_,?_⟩;simp_all;grind
theorem ZI (z C:aK) (E F:R) (G:U) (y:dD z E) (S:dD C F):
  AC Tryz.prog 57 [E,F] G λV W=>W=G/\V= .v (.bool (decide (z=C))):=by
 obtain⟨T,rfl,L⟩:=y;obtain⟨s,rfl,P⟩:=S;obtain⟨t,u,w,A,B,H,I,K,M,N,O,Q,X⟩:=L.all;obtain⟨Y,Z,j9,k0,k1,k2,k3,k4,k5,k6,k7,k8,k9⟩:=P.all;obtain⟨_,⟨e,f⟩,⟨g,i⟩,l0⟩:=L;obtain⟨_,⟨j,_⟩,⟨l,_⟩,_⟩:=P;obtain⟨d,ac,h,k⟩:=z;obtain⟨o,a,p,r⟩:=C
 dsimp only at*
 have l1:=hC (a:=ac);have l2:=hC (a:=a);have l3:= @pz ac;have l4:= @pz a;have D: ¬(d=o/\ac=a/\h=p/\k=r)->decide (aK.mk d ac h k=aK.mk o a p r)=false:=λc=>by simpa using c
 have m:d=o/\ac=a/\h=p/\k=r->decide (aK.mk d ac h k=aK.mk o a p r)=true:=λc=>by simpa using c
 generalize decide (aK.mk d ac h k=aK.mk o a p r)=l5 at*;have l6:=λn v=> @wY n v;refine aO hm L2 ?_;refine bq λl7 l8=> ?_;refine da λl9 n0 n1 n2=> ?_
 repeat' first|refine aH (λ_=> ?_) λ_=> ?_|trivial
 .refine bj (EP _ _ _ _ _ _ _ _ _ e j f) ?_
  repeat' first|refine aH (λ_=> ?_) λ_=> ?_|trivial
  .refine bj (EP _ _ _ _ _ _ _ _ _ g l i) ?_
   repeat' first|refine aH (λ_=> ?_) λ_=> ?_|trivial
   .exact aR (D (by grind)).symm
   .refine gO [2,3] (λb:Nat=> [(5,.v (.int .i64 b))]) (λb=>b<=ac.length/\ ∀x<b,ac.getD x []=a.getD x []) (λb=>ac.length - b) 0 ⟨a9p,λx c=>by omega⟩ aU ?_;rintro b ⟨n3,y⟩ n4;refine aa ?_;refine aH (λq=> ?_) λq=> ?_
    .repeat' first|refine aH (λ_=> ?_) λ_=> ?_|trivial
     .exact aR (D λc=>by grind).symm
     .exact⟨b+1,⟨a9p,upto y (by grind)⟩,rfl,a9p⟩
    .exact aR (m (by have:=uy (a:=ac) (b:=a) (d:= []) a9p (λx c=>y x a9p);grind)).symm
  grind
 all_goals exact aR (D (by grind)).symm
theorem ZJ (b c:List aK) (h k:List R) (D E:Own) (o:U) (p:az dD b h) (r:az dD c k) (e:b.length<=1000000):
  AC Tryz.prog 23 [.J h D,.J k E] o λF G=>G=o/\F= .v (.bool (decide (b=c))):=by
 have f:=p.len;have g:=r.len;refine aO hm Ka ?_;refine aH (λL=> ?_) λL=> ?_
 .exact aR (by grind)
 refine gO [0,1] (λa:Nat=> [(5,.v (.int .i64 a))]) (λa=>a<=b.length/\ ∀d<a,b.getD d default=c.getD d default) (λa=>b.length - a) 0 ⟨a9p,λd P=>by omega⟩ aU ?_;rintro a ⟨i,x⟩ j;refine aa ?_;refine aH (λS=> ?_) λS=> ?_
 .obtain⟨_,l,T,rfl,y⟩:=p.get (i:=a) (x:=b.getD a default) (by grind);obtain⟨_,m,z,rfl,C⟩:=r.get (i:=a) (x:=c.getD a default) (by simp_all);have V:=y.all;have W:=C.all;have n:=iw (e:=76) (n:= .agg T) V.1;have q:=iw (e:=76) (n:= .agg z) W.1;refine aa ?_;refine bj (ZI _ _ _ _ _ ⟨T,rfl,y⟩ ⟨z,rfl,C⟩) ?_;refine aH (λc2=> ?_) λc2=> ?_
  .exact aR (by grind)
  .exact⟨a+1,⟨a9p,upto x (by simpa using c2)⟩,rfl,a9p⟩
 .exact aR (by have:=uy (a:=b) (b:=c) (d:=default) a9p (λd P=>x d a9p);simp[this])
variable{f t e7:U}{e i v M c0 j0:Nat}{Y:bp}
def Ext.eb (c:Ext i v f t) (d:f e=none):Ext i v f (t.set e Y):=λb h k o a=>by
 have p:b≠e:=by rintro rfl;rw[d]at a;cases a
 rw[U.an _ _ p];exact c b h k o a
def ck (a:List Int×Bool) (b c:ay):c4:=⟨1,[a],[b,c]⟩
def uH (h:U) (k o:Nat) (p:ag) (T:bB h k o p) (c:List Int×Bool) (a b:ay) (V r x y z C D:Own) (d:Nat) (q:1<=d) (s:d<=8) (W:a.sum.length=32) (e:b.sum.length=32) (t:a.cE) (u:b.cE):
  AC Tryz.prog 230 [dX k d,.agg [.J (ad c.1) V,.v (.bool c.2)],.agg (ab a r x y),.agg (ab b z C D)] h λf g=>bB g k o (du p d (ck c a b)).2/\Ext k o h g/\hc (du p d (ck c a b)).1 f:=by
 have v:=(aX (N:=r) (e5:=x) (h5:=y) W).all;have w:=(aX (N:=z) (e5:=C) (h5:=D) e).all;have A:bs a (.agg (ab a r x y)):=⟨W,t,_,_,_,rfl⟩;have B:bs b (.agg (ab b z C D)):=⟨e,u,_,_,_,rfl⟩;generalize ab a r x y=H at*;generalize ab b z C D=I at*;refine aO hm PW ?_;refine bq λcg X=> ?_;refine da λc9 Y Z j9=> ?_;refine hp λcW k0 k1 k2 k3 k4=> ?_;refine x5 λdY k5 _ _ _ _ _ _=> ?_;refine X7 λgR i _ _ _ _ _ _ _ _=> ?_;refine X9 λK k6 _ _ _ _ _ _ _ _ _ _=> ?_;refine Xa λM k7 _ _ _ _ _ _ _ _ _ _ _ _=> ?_;generalize E:((((((h.set cg _).set c9 _).set cW _).set dY _).set gR _).set K _).set M _=F;have j:h.sub F:=by subst E;exact aU
 have N:F gR=some (.cells (ab aA .nil .nil .nil)):=by subst E;rw[<-cr];exact aU
 clear E;have k8:=(aX (N:= .nil) (e5:= .nil) (h5:= .nil) bk).len;refine ai (xG F k o p (T.mono j) (ck c a b) [.agg [.J (ad c.1) V,.v (.bool c.2)]] [.agg H,.agg I] _ _ d q s ⟨⟨⟨_,rfl⟩,trivial⟩,⟨A,B,trivial⟩,bS.J (by simp[aN,R.cells]),bS.J (by simp[aN,R.cells,v.1,w.1]),by simp[ck],by simp[ck]⟩) ?_;rintro f k9 ⟨O,l,Q⟩;have G:=(T.cG i);have l0:=U.aJ (l gR _ G.1 G.2 N);obtain⟨m,L,P,S,l1,n,rfl⟩:=Q.shape;have l2:=(aX (N:=L) (e5:=P) (h5:=S) n).all;have l3:putAt (ab aA .nil .nil .nil) 0 (ab m L P S)=ab m L P S:=cF bk n;refine aa ?_;exact⟨_,U.a1,O.set G,((Ext.of j).trans l).eb i⟩
def kL (b:ag) (c:Nat) (d:ay):Option ((List Int×Bool)×List ay):=
 match fp b c d with
 |none=>none
 |some a=>if a.kind=1 then some (a.rows.headD ([],false),a.kids)else none
variable{w j2:ay}{e0:c4}{H:ag}
theorem ER (a:fp H e w=some e0):dW e e0=true:=by
 unfold fp at a;split at a
 .cases a
 split at a
 .cases a
 rename_i c d b;split at a
 .obtain rfl:=a4G a;unfold pk at b;grind
 .cases a
theorem ES (b:dW e e0=true) (c:e0.kind=1):e0.rows.length=1/\e0.kids.length=2/\ ∀a∈e0.kids,a.key.length=0:=by simp_all [dW,if_true,a4K,decide_eq_true_eq,a4W]
def ZK (b c:U) (d:List ay) (h:R):Prop:= ∃a,ar b c 37 (flat a) h/\az bs d a
def yn (d:U) (F j:Nat) (y:ag) (w:bB d F j y) (h:ay) (G L P:Own) (l:h.sum.length=32) (A:h.cE) (a:Nat) (B:1<=a) (H:a<=8):
  AC Tryz.prog 182 [dX F a,.agg (ab h G L P)] d λS b=>d.sub b/\match kL y a h with
   |none=>S= .aL [.agg [.J [] .nil,.v (.bool false)],.J [] .nil,.v (.int .i64 21)]
   |some (k,bI)=> ∃I z,S= .aL [.agg [.J (ad k.1) I,.v (.bool k.2)],z,.v (.int .i64 0)]/\bI.length=2/\ZK d b bI z:=by
 have k4:=(aX (N:=G) (e5:=L) (h5:=P) l).all;refine aO hm OI ?_;refine bq λcg k5=> ?_;refine da λc9 k6 _ _=> ?_;refine hp λcW m _ _ _ _=> ?_;generalize T:((d.set cg _).set c9 _).set cW _=V;have o:d.sub V:=by subst T;exact aU
 have p:V cW=some (.cells [.J [] .nil,.v (.bool false)]):=by subst T;exact aU
 clear T;refine ai (xz V F j y (w.mono o) h G L P l A a B H) ?_;rintro S n ⟨C,D⟩;have K:=U.aJ (C _ _ p);rw[kL];cases W:fp y a h with
 |none=>
  rw[W]at D;obtain rfl:=D;refine aa ?_;refine aP λdY c=> ?_;have a:cW≠dY:=by rintro rfl;rw[C _ _ p]at c;cases c
  have M:=a4Q a;refine aa ?_;exact U.ae (U.aq o C) (U.bF (U.aq o C) c)
 |some r=>
  rw[W]at D;obtain⟨k,z,rfl,E⟩:=D;refine aa ?_;refine aP λdY c=> ?_;have a:cW≠dY:=by rintro rfl;rw[E.sub _ _ p]at c;cases c
  have M:=a4Q a;have K:=U.aJ (E.sub _ _ p);have q:d.sub n:=U.aq o E.sub;have e:(r.kind=1)↔(r.kind.toNat:Int)=1:=by rw[<-a5G];show r.kind.toNat=1↔ _;omega
  by_cases x: ¬r.kind=1
  .have:=mt e.2 x;exact aU
  have x:=Decidable.not_not.1 x;have k7:=e.1 x;clear e;obtain⟨N,k8,_⟩:=ES (ER W) x;obtain⟨O,k9,Q,f,s,t,X,_⟩:=E;obtain⟨l0,l1,l2⟩:=r
  dsimp only at*
  obtain⟨g,rfl⟩:=a6Q.1 N;have Y:=(bS.dV f a9p rfl (t.cells λ_ _=>dh.cells)).mono s.1;obtain⟨l3,Z,j9,rfl⟩:=t.get (i:=0) (x:=g) rfl;obtain⟨u,v,k0⟩:=Y.get 0 _ Z;have k1:=λb i=>k0.ld b i true 2 a9p (by simp[R.cells]);have v:cR 2 k (.v (.int .i64 0))=some u:=v;have k2: ∀b,n.sub b->dq true 2 b u=some (.agg [.J (ad g.1) j9,.v (.bool g.2)]):=λb i=>k1 b i;have l4:=k2 _ (U.ae (Y:= .cells [.v (.int .u8 1),k,z]) U.a1 c);refine aa ?_;refine⟨_,U.a1,U.ae (U.ae q (U.bF q c)) m,?_⟩;have k3:d.sub O:=U.aq o f.1;exact⟨_,_,rfl,Q,(jP (s.mono (U.ae U.a1 c)) (f.1 _ _ p)).base (U.ae k3 m),X⟩
theorem yo (a c:List Int) (r x:Own) (k:Nat) (p:U) (F:k<a.length) (G:c.length=a.length) (L:a.length<=1000000000000):
  AC Tryz.prog 97 [.J (ad a) r,.J (ad c) x,.v (.int .i64 (k:Int))] p λy z=>z=p/\y= .v (.bool (decide (cN k a c<0))):=by
 have P:=bH (q:=a);have S:= @dO a;have T:= @dO c;have C: ∀d h:Int,ig d h=0↔d=h:=λd h=>by unfold ig;split<;>(try split)<;>omega
 have V: ∀d h:Int,ig d h<0↔d<h:=λd h=>by unfold ig;split<;>(try split)<;>omega
 refine aO hm M5 ?_;refine aH (λD=> ?_) λD=> ?_;simp_all [aR,cN,if_neg];have W:cN k a c=fQ a c:=by rw[cN,if_pos (by rw[C];omega)]
 refine gO [0,1] (λb:Nat=> [(7,.v (.int .i64 b))]) (λb=>b<=a.length/\fQ (a.drop b) (c.drop b)=fQ a c) (λb=>a.length - b) 0 ⟨a9p,rfl⟩ aU ?_;rintro b ⟨e,o⟩ f;refine aa ?_;refine aH (λE=> ?_) λE=> ?_
 .rw[drop_cons (a:=a) (b:=0) (e:=b) a9p,drop_cons (a:=c) (b:=0) (e:=b) a9p,fQ]at o;refine aH (λc2=> ?_) λc2=> ?_;grind;grind
 .rw[sP (a:=a) (e:=b) a9p,sP (a:=c) (e:=b) a9p]at o;exact aR (by rw[<-o];rfl)
def fa (c:Nat) (a:List Int) (d:List (List Int)):List (List Int):=d.takeWhile (λb=>decide (cN c b a<0))++a::d.dropWhile (λb=>decide (cN c b a<0))
def dI (a:Nat) (b:List (List Int)):List (List Int):=b.foldl (λc d=>fa a d c) []
theorem ZL (b:Nat) (c:List Int) (a:List (List Int)):(fa b c a).length=a.length+1:=by have:=congrArg List.length (a5E (p:=λd=>decide (cN b d c<0)) (l:=a));grind[List.length_append,fa,List.length_cons]
variable{O:List (List Int)}{q b6:List Int}
theorem yp:q∈fa e b6 O↔q=b6\/q∈O:=by have:=congrArg (λO=>q∈O) (a5E (p:=λq=>decide (cN e q b6<0)) (l:=O));simp only[a5a,eq_iff_iff]at this;grind[fa]
theorem ZM (c: ∀a<e,cN i (O.getD a []) q<0) (b:e<=O.length) (d:e<O.length-> ¬cN i (O.getD e []) q<0):fa i q O=O.take e++q::O.drop e:=by
 induction O generalizing e with
 |nil=>simp at b;subst b;rfl
 |cons h O ih=>
  cases e with
  |zero=>grind[cN,fa,List.takeWhile_cons,List.dropWhile_cons]
  |succ e=>have o:cN i h q<0:=c 0 a9p;have:=ih (λa p=>c (a+1) a9p) (by simpa using b) (λk=>d (by simpa using k));simp_all [fa,a5z,a6d,decide_true,if_true,a5I,a6C,a6c]
theorem ZN (o:List (List Int)) (l:List R) (H:Own) (y G:Nat) (e:U) (m:az isRow o l) (I: ∀L∈o,L.length=G) (k3:y<G) (k4:G<=8) (k5:o.length<=100000):
  AC Tryz.prog 162 [.J l H,.v (.int .i64 (y:Int))] e λL P=>e.sub P/\ ∃n K,az isRow (dI y o) n/\L= .J n K:=by
 have k6:=m.len;refine aO hm O1 ?_;refine ch [0,1] (λb:Nat×List R×Own=> [(6,.v (.int .i64 b.1)),(5,.J b.2.1 b.2.2)]) (λb P=>e.sub P/\b.1<=o.length/\ ∃c,(o.take b.1).foldl (λc x=>fa y x c) []=c/\c.length=b.1/\(∀L∈c,L.length=G)/\az isRow c b.2.1) (λb=>o.length - b.1) (0,[],.nil) ⟨⟨U.a1,a9p,[],rfl,rfl,a9q,trivial⟩,aU⟩ ?_;rintro⟨z,C,bD⟩ M ⟨q,N,c,S,O,Q,p⟩ X
 dsimp only at N S O p|-
 have k7:=p.len;refine aa ?_;refine aH (λY=> ?_) λY=> ?_
 .have s:o[z]? =some (o.getD z []):=by simp_all
  obtain⟨_,k8,f,rfl⟩:=m.get s;have k9:=I _ (a4O s);have t:=eT (a:=o) (b:= []) (e:=z) a9p;generalize o.getD z []=x at*;have el: ∀a,a<c.length-> ∃E,C[a]? =some (.J (ad (c.getD a [])) E):=λa F=>by
   obtain⟨_,h,E,rfl⟩:=p.get (i:=a) (x:=c.getD a []) (by simp[List.getD,F]);exact⟨E,h⟩
  have Z: ∀a,a<c.length->(c.getD a []).length=G:=λa F=>Q _ (by simp[List.getD,F]);refine ch [0,1,5,6] (λb:Nat×List R×Own=> [(8,.v (.int .i64 b.1)),(7,.J b.2.1 b.2.2)]) (λb P=>b.1<=c.length/\(∀u<b.1,cN y (c.getD u []) x<0)/\az isRow (c.take b.1) b.2.1/\bh M P 1 b.2.1 b.2.2) (λb=>c.length - b.1) (0,[],.nil) ⟨⟨a9p,λu k=>by simp at k,trivial,bh.nil U.a1⟩,aU⟩ ?_;rintro⟨a,V,on⟩ l0 ⟨F,v,r,W⟩ X
  dsimp only at F v r W|-
  have l1:V.length=a:=by rw[r.len,a4L];omega
  have w: ¬(a<c.length/\cN y (c.getD a []) x<0)->fa y x c=c.take a++x::c.drop a:=λk=>ZM v F λj9 D=>k ⟨j9,D⟩;by_cases jS:(a:Int)<(z:Int)
  .obtain⟨E,l2⟩:=el a a9p;have l3:=Z a a9p;have k0:=eT (a:=c) (b:= []) (e:=a) a9p;generalize l4:c.getD a []=b at*;refine aa ?_;refine bj (yo b x E f y _ a9p a9p a9p) ?_;refine aH (λc2=> ?_) λc2=> ?_
   .refine jM (λA T=> ?_) (d:=λh d=>by rw[a4X]at d;subst d;rfl);refine dp (W.mono (U.ae U.a1 T)) (r.cells λ_ _=>isRow.cells) (λh d=>by rw[a4X]at d;subst d;rfl) a9r a9r λg B D=> ?_;refine aa ?_;refine⟨(a+1,V++ [.J (ad b) E],g),⟨by simp only;omega,?_,?_,D⟩,⟨rfl,rfl⟩,by simp only;omega⟩;grind
    .simp only[k0];exact r.snoc ⟨_,rfl⟩
   .have h:=w (by simpa using λ_=>c2);refine jM (λA T=> ?_) (d:=λh d=>by rw[a4X]at d;subst d;rfl);refine dp (W.mono (U.ae U.a1 T)) (r.cells λ_ _=>isRow.cells) (λh d=>by rw[a4X]at d;subst d;rfl) a9r a9r λg B D=> ?_;have k1:dN 1 (.J C bD) (some (.v (.int .i64 (a:Int)))) none=some (.J (C.drop a) .any):=p9 a9p (p.cells λ_ _=>isRow.cells);refine aa ?_;refine dp D (λh d=>by rcases a5a.1 d with k|k;exact r.cells (λ_ _=>isRow.cells) h k;rw[a4X]at k;subst k;rfl) ((p.drop a).cells λ_ _=>isRow.cells) a9r a9r λi k2 j=> ?_;refine aa ?_;refine⟨(z+1,V++ [.J (ad x) f]++C.drop a,i),⟨U.aq q j.sub,by simp only;omega,_,rfl,?_,?_,?_⟩,⟨rfl,rfl⟩,by simp only;omega⟩;grind;grind
    .simp only[t,a6N,S,a5O,a7U,h];rw[a8b];exact(r.snoc ⟨_,rfl⟩).append (p.drop a)
  .have h:=w a9p;refine aa ?_;refine jM (λA T=> ?_) (d:=λh d=>by rw[a4X]at d;subst d;rfl);refine dp (W.mono (U.ae U.a1 T)) (r.cells λ_ _=>isRow.cells) (λh d=>by rw[a4X]at d;subst d;rfl) a9r a9r λg B D=> ?_;have k1:dN 1 (.J C bD) (some (.v (.int .i64 (a:Int)))) none=some (.J (C.drop a) .any):=p9 a9p (p.cells λ_ _=>isRow.cells);refine aa ?_;refine dp D (λh d=>by rcases a5a.1 d with k|k;exact r.cells (λ_ _=>isRow.cells) h k;rw[a4X]at k;subst k;rfl) ((p.drop a).cells λ_ _=>isRow.cells) a9r a9r λi k2 j=> ?_;refine aa ?_;refine⟨(z+1,V++ [.J (ad x) f]++C.drop a,i),⟨U.aq q j.sub,by simp only;omega,_,rfl,?_,?_,?_⟩,⟨rfl,rfl⟩,by simp only;omega⟩;grind;grind
   .simp only[t,a6N,S,a5O,a7U,h];rw[a8b];exact(r.snoc ⟨_,rfl⟩).append (p.drop a)
 .obtain rfl:z=o.length:=a9p;rw[a5f]at S;exact⟨C,bD,by rw[dI,S];exact p,rfl⟩
inductive aD where
 |nil
 |node (r:List Int) (live:Bool) (a b:aD)
def dR (a:U):aD->R->Prop
 | .nil,b=>b= .v (.pointer none)
 | .node k live o p,b=> ∃c r d h,b= .ptr c 0/\a c=some (.cells [.J (ad k) r,.v (.bool live),d,h])/\dR a o d/\dR a p h
def dR.mono {b c:U} (a:b.sub c): ∀ {d:aD}{h:R},dR b d h->dR c d h
 | .nil,_,k=>k
 | .node _ _ _ _,_,⟨o,p,r,x,h1,y,z,C⟩=>⟨o,p,r,x,h1,a _ _ y,z.mono a,C.mono a⟩
theorem dR.cells {b:U}: ∀ {c:aD}{a:R},dR b c a->a.cells= [a]
 | .nil,_,rfl=>rfl
 | .node _ _ _ _,_,⟨_,_,_,_,rfl,_⟩=>rfl
def _root_.Go.bA.U.part (b c d:U):U:=λa=>if c a=none\/d a≠none then b a else none
def ET:U:=λ_=>none
theorem qW:(f.part t e7).sub f:=λa b c=>by
 grind[U.part]
def EU {c d:U} (h:f.sub t) (k:e7.sub c):(e7.part t d).sub (c.part f d):=λo p a=>by
 rw[U.part]at a|-;split at a
 .rename_i b;rw[if_pos (b.imp_left λb=>U.bF h b)];exact k _ _ a
 .cases a
def ZO {c:U} (b:f.sub t):(e7.part t ET).sub (e7.part f c):=λh k a=>by
 rw[U.part]at a|-;split at a
 .rename_i d;rw[if_pos (.inl (U.bF b (d.resolve_right λb=>b rfl)))];exact a
 .cases a
def pA (b:f.sub t):f.sub (t.part e7 f):=λc d a=>by rw[U.part,if_pos (.inr (by rw[a];simp))];exact b _ _ a
theorem uI (a:f e=none):t.part f e7 e=t e:=if_pos (.inl a)
def aD.size:aD->Nat
 | .nil=>0
 | .node _ _ a b=>1+a.size+b.size
def aD.all:aD->List (List Int)
 | .nil=> []
 | .node a live b c=>b.all++c.all++(if live=true then [a]else [])
theorem qX: ∀(c:aD) (b:R) (a:U),dR a c b->c.size<=1000000->AC Tryz.prog 91 [b] a λd h=>h=a/\d= .v (.int .i64 (c.size:Int))
 | .nil,b,a,k,_=>by
  obtain rfl:b= .v (.pointer none):=k;refine aO hm Bk ?_;trivial
 | .node d live o p,b,a,⟨E,F,r,x,h1,y,z,C⟩,D=>by
  subst h1;have G:=U.af y;simp only[aD.size]at D;refine aO hm Bk ?_;refine bj (qX o r a z a9p) ?_;refine bj (qX p x a C a9p) ?_;grind[aD.size]
def ly: ∀a:aD,a.all.length<=a.size
 | .nil=>by simp[aD.all,aD.size]
 | .node d live b c=>by
  have:=ly b;have:=ly c;simp only[aD.all,aD.size,a4J];split<;>simp<;>omega
def sR: ∀(x:aD) (b:R) (a:U),dR a x b->x.size<=1000000->AC Tryz.prog 90 [b] a λC G=> ∃y o,bh a G 1 y o/\az isRow x.all y/\C= .J y o
 | .nil,b,a,L,_=>by
  obtain rfl:b= .v (.pointer none):=L;refine aO hm Bj ?_;exact⟨_,U.a1,[],.nil,bh.nil U.a1,trivial,rfl⟩
 | .node C live D E,b,a,⟨i,o,P,S,h1,p,c,z⟩,T=>by
  subst h1;have j:=U.af p;simp only[aD.size]at T;have l:=ly D;have m:=ly E;refine aO hm Bj ?_;refine ai (sR D P a c a9p) ?_;rintro _ V ⟨n,q,r,d,rfl⟩;have s:=U.af (r.sub _ _ p);refine aa ?_;refine ai (sR E S V (z.mono r.sub) a9p) ?_;rintro _ t ⟨u,v,F,h,rfl⟩;have w:=U.af (F.sub _ _ (r.sub _ _ p));have A:=d.len;have B:=h.len;refine aa ?_;refine dp (r.mono F.sub) (d.cells λ_ _=>isRow.cells) (h.cells λ_ _=>isRow.cells) a9p a9p λW H c=> ?_;have I:=U.af (c.sub _ _ p);refine aa ?_;cases live with
  |true=>refine aa ?_;refine jM (λK e=> ?_) (d:=λf k=>by rw[a4X]at k;subst k;rfl);refine dp (c.mono (U.ae U.a1 e)) ((d.append h).cells λ_ _=>isRow.cells) (λf k=>by rw[a4X]at k;subst k;rfl) a9r a9r λg M z=> ?_;refine aa ?_;exact⟨_,U.a1,_,g,z,(d.append h).append ⟨⟨o,rfl⟩,trivial⟩,rfl⟩
  |false=>refine aa ?_;exact⟨_,U.a1,_,W,c,by simpa[aD.all] using d.append h,rfl⟩
def fC (b:Nat):Nat->List (List Int)->Nat->aD
 |0,_,_=> .nil
 |c+1,a,dep=>if a= []then .nil else
  .node ((dI (dep%b) a).getD (a.length/2) []) true (fC b c ((dI (dep%b) a).take (a.length/2)) (dep+1)) (fC b c ((dI (dep%b) a).drop (a.length/2+1)) (dep+1))
theorem yq {h:Nat}: ∀(b a:List (List Int)),(b.foldl (λk c=>fa h c k) a).length=a.length+b.length/\ ∀d,d∈b.foldl (λk c=>fa h c k) a↔d∈a\/d∈b
 | [],a=>by simp
 |c::b,a=>by
  obtain⟨o,p⟩:=yq b (fa h c a);refine⟨by rw[a5O,o,ZL,a4M];omega,λd=> ?_⟩;grind[yp]
theorem pB (b:Nat) (a:List (List Int)):(dI b a).length=a.length:=by rw[dI,(yq a []).1];simp
def qY:q∈dI e O↔q∈O:=by rw[dI,(yq O []).2];simp
theorem uJ (b:Nat) (E:0<b) (F:b<=8): ∀(h:Nat) (a:List (List Int)) (d:List R) (k:Own) (dep:Nat) (r:U),az isRow a d->(∀o∈a,o.length=b)->a.length<=h->h<=100000->dep+h<=1000000->
  AC Tryz.prog 92 [.J d k,.v (.int .i64 (dep:Int))] r λo g=>r.sub g/\dR (g.part r ET) (fC b h a dep) o
 |0,a,d,k,dep,r,x,C,w,_,_=>by
  obtain rfl:a= []:=a4N a9p;obtain rfl:d= []:=a4N x.len;refine aO hm wB ?_;exact⟨_,U.a1,U.a1,rfl⟩
 |h+1,a,d,k,dep,r,x,C,w,O,Q=>by
  have X:=x.len;by_cases G:a= []
  .subst G;obtain rfl:d= []:=a4N x.len;refine aO hm wB ?_;rw[fC,if_pos rfl];exact⟨_,U.a1,U.a1,rfl⟩
  have i:0<a.length:=a5S.2 G;have Y: ¬(a.length:Int)=0:=a9p;obtain⟨_,Z,j9,rfl⟩:=x.get (i:=0) (x:=a.getD 0 []) (by simp[List.getD,i]);have k0:=C (a.getD 0 []) (by simp[List.getD,i]);have k1:=bH (q:=a.getD 0 []);have A:(dep:Int).tmod (b:Int)=((dep%b:Nat):Int):=rfl;have k2: ¬(b:Int)=0:=a9p;have B:(a.length:Int).tdiv 2=((a.length/2:Nat):Int):=rfl;have k3: ∀L k,cR L (.J d k) (.v (.int .i64 0))=eC L d[0]? :=λL k=>o2 (i:=0);refine aO hm wB ?_;refine ai (ZN a d k (dep%b) b r x C (a6S _ E) F a9p) ?_;rintro _ H ⟨D,y,P,p,rfl⟩;have j:=p.len;rw[pB]at j;have l:=pB (dep%b) a;have S: ∀T∈dI (dep%b) a,T.length=b:=λT I=>C T (qY.1 I);obtain⟨z,m⟩: ∃z,dI (dep%b) a=z:=⟨_,rfl⟩;rw[fC,if_neg G];rw[m]at l S p|-;generalize K:a.length/2=c at*;obtain⟨_,k4,n,rfl⟩:=p.get (i:=c) (x:=z.getD c []) (by grind);have k5:dN 1 (.J y P) none (some (.v (.int .i64 (c:Int))))=some (.J (y.take c) .any):=by have:=nU (e2:= .i64) (N:=P) (b1:=(c:Int)) a9p a9p (p.cells λ_ _=>isRow.cells);rwa[a5g]at this
  have k6:dN 1 (.J y P) (some (.v (.int .i64 ((c:Int)+1)))) none=some (.J (y.drop (c+1)) .any):=p9 (e:=c+1) a9p (p.cells λ_ _=>isRow.cells);refine aa ?_;refine ai (uJ b E F h (z.take c) (y.take c) .any (dep+1) H (p.take c) (λo V=>S o (a4Z V)) (by rw[a4L];omega) a9p a9p) ?_;rintro q M ⟨W,s⟩;refine aa ?_;refine ai (uJ b E F h (z.drop (c+1)) (y.drop (c+1)) .any (dep+1) M (p.drop (c+1)) (λo V=>S o (a5n V)) (by rw[a4V];omega) a9p a9p) ?_;rintro t k7 ⟨e,u⟩;clear m l j A B K;have k8:=s.cells;have k9:=u.cells;refine aa ?_;refine aP λN v=> ?_;refine aa ?_;have f:=U.ae (Y:= .cells [.J (ad (z.getD c [])) n,.v (.bool true),q,t]) U.a1 v;exact⟨_,U.a1,U.aq D (U.aq W (U.aq e f)),N,n,q,t,rfl,(uI (U.bF D (U.bF W (U.bF e v)))).trans (U.ah _ _ _),s.mono (EU D (U.aq e f)),u.mono (EU (U.aq D W) f)⟩
end Go.Proofs.YtlgnfcaolejgeaaGreat
namespace Go.bA
open Go
variable{f t e7:U}{u:bl}{l h8:World}
theorem Step.ZP {p:bl} (b:Step u f l p t h8) (r: ∀a,f a=none\/ ∃c,f a=some (.ro c)): ∃x k,h8=Sort.grow (l.drewN x) k:=by
 have d: ∀a,a<l.heap.size->h8.heap[a]? =l.heap[a]? :=λa d=>by
  rcases r a with h|⟨c,h⟩
  .exact b.block a d h
  .exact(b.jz a c d h).1
 have y:=b.os;have z:=b.tape;have o:=b.output;have C:=b.size;refine⟨h8.drawn - l.drawn,h8.heap.extract l.heap.size h8.heap.size,?_⟩;obtain⟨D,E,F,k,G⟩:=l;obtain⟨L,P,S,T,V⟩:=h8;simp only at*;obtain⟨rfl,o⟩:=o;subst y;subst z;simp only[Sort.grow,World.drewN,World.mk.injEq,true_and,and_true];grind
def Step.grown (d:Holds u f l) (o:Nat) (os:Array Obj):Step u f l u f (Sort.grow (l.drewN o) os):=by
 have c: ∀a,a<l.heap.size->(Sort.grow (l.drewN o) os).heap[a]? =l.heap[a]? :=λa c=>by
  show(l.heap++os)[a]? = _;rw[a7l c]
 exact {holds:=⟨λa h v p=>by rw[<-d.ro a h v p];exact World.cell?_of_block (c a (d.lt p)),λk h r=>(d.dS k h r).kept (.refl u) (c k (d.dS k h r).lt) (λ_ x=>x)⟩
     le:= .refl u,os:=rfl,tape:=rfl,output:=⟨rfl,Nat.le_add_right _ _⟩
     size:=a9q
     block:=λa b _=>c a b,en:=λ_ b=> .inl b,mw:=λ_ _ b=> .inl b,jz:=λa y b z=>⟨c a b,.inr ⟨y,z⟩⟩}
variable{b0:Type}
theorem ZQ [Inhabited b0] (h:b0->Value) (b:World) (a:Nat) (c:Array b0) (d:Array Value) (k:TypeId) (o:Nat×Nat) (p:b.heap[a]? =some (.cells d k o)) (x:c.size<=d.size):
  Sort.putRow h b a 0 c=b.setRow a (cX d 0 (c.toList.map h)):=by
 unfold Sort.putRow Sort.mapBlock World.setRow;congr 1;apply Array.ext_getElem?;intro r;simp only[Array.getElem?_modify];by_cases hk:a=r
 .subst hk;simp only[if_true,p,a5M,Sort.onCells];congr 2;apply a8Y;apply a8y;intro y;simp only[Sort.putCells,cX,a6g,Array.getElem?_mapIdx,a6q,a5b,a5e,a4T,a7J];grind
 .simp[hk]
variable{g A e1:List R}{e i v M c0 j0:Nat}{m:Program}
theorem ZR {k7:Shelf.Ren} (n9:Proofs.SlLaysF.n6 m k7) (S:b0->R->Prop) (k8: ∀a d,S a d->d.one=true/\d.cells= [d]) {F:List b0}
  (Z:f e=some (.cells g)) (a74:A.length=F.length) (a00: ∀(b:Nat) a d,F[b]? =some a->A[b]? =some d->S a d) (a01:F.length=i) (k9:g.take i=A) (a81:i<4611686018427387904)
  (V:FuncId) (I:List R) (l0:t.sub f) (l1: ∀c,t c=none\/ ∃j9,t c=some (.ro j9)) (x:b0->Prop) (a02: ∀n∈F,x n) (a03:0<i)
  (y:b0->b0->Int) (a04: ∀a,x a-> ¬y a a<0) (a05: ∀a h z,x a->x h->x z->y a h<0->y h z<0->y a z<0) (a83: ∀a h z,x a->x h->x z-> ¬y a h<0-> ¬y h z<0-> ¬y a z<0)
  (a06: ∀l2 o,(callFunc V l2).run m o= .ok (.enter V l2) o)
  (a07: ∀a h d c,S a d->S h c->x a->x h->AC m V ([d,c]++I) t λn _=>n= .v (.int .i64 (y a h))):
  AC m (k7.f 6) [.al e i M 1,.bG V [] I] f λn l3=>n= .aL []/\ ∃p k0,k0.Perm F/\p.length=i/\(∀(b:Nat) a d,k0[b]? =some a->p[b]? =some d->S a d)/\List.Pairwise (λd c=> ¬y c d<0) k0/\l3=f.set e (.cells (p++g.drop i)):=by
 intro K o C k1 w;have l4:=k1.2 0 _ rfl;have l5:=k1.2 1 _ rfl;have a08:K.size=2:=k1.1;generalize a09:K.getD 0 undef=a84 at l4;generalize a10:K.getD 1 undef=a86 at l5;cases l4 with
 |al e i M a88 a89 a90=>
 cases l5 with
 |bG a92 ws ij cB a94 hw a95 a11 a13=>
 obtain rfl:ws= #[]:=a8h hw;have aj:K= #[.slice (some ⟨e,0,none⟩) i M,.func (.func V) #[] ij]:=by
  apply Array.ext
  .exact a08
  .intro b D L
   match b,D with
   |0,D=>rw[<-a09];simp[Array.getD,D]
   |1,D=>rw[<-a10];simp[Array.getD,D]
   |b+2,D=>omega
 rw[aj];obtain⟨a96,W,T,k2,l6,a14⟩:=w.dS e _ Z;have a97:i<=g.length:=by grind
 have a98:W.size=g.length:=l6.1
 let j:= {P:Value×b0//(∃d,S P.2 d/\aZ C P.1 d)/\x P.2};have l7: ∀b (q:b<i),∃a:j,a.1.1=W[b]'a9p/\a.1.2=F[b]'a9p:=λb q=>by
  have D:g[b]? =some (A[b]'a9p):=by grind
  have L:=l6.2 b _ D;have B:W.getD b undef=W[b]'a9p:=by simp[Array.getD,show b<W.size by omega]
  rw[B]at L;exact⟨⟨(W[b]'a9p,F[b]'a9p),⟨_,a00 b _ _ (a4H _) (a4H _),L⟩,a02 _ (a5m _)⟩,rfl,rfl⟩
 haveI:Inhabited j:=⟨(l7 0 a03).choose⟩
 obtain⟨E,l8,a99⟩: ∃E:Array j,E.size=i/\ ∀b (q:b<i) (a15:b<E.size),E[b].1.1=W[b]'a9p/\E[b].1.2=F[b]'a9p:=
  ⟨Array.ofFn (n:=i) λb=>(l7 b b.2).choose,a9q,λb q a15=>by grind[Array.getElem_ofFn]⟩
 let k:j->Value:=λa=>a.1.1;have D:Proofs.OneCell k:=λa=>by
  obtain⟨⟨d,L,B⟩,_⟩:=a.2;exact B.nI (k8 _ _ L).1
 have a16:Sort.Holds k o e 0 E:=λr N=>by
  have b00:r<i:=a9p;rw[getElem!_pos E r N];constructor
  .simp only[World.cell?,k2,a5e,a6I,a5Q,if_false];grind
  .simp[World.frozen?,k2]
 have a18:e<o.heap.size:=(a6a.1 k2).1
 let k3:j->j->Int:=λa h=>y a.1.2 h.1.2;have a19:Proofs.CmpLays1 m V ij k k3 e 0 E.size o:=λl9 s n0 b01 a h=>by
  have n1: ∀c,c<o.heap.size->c≠e->(Proofs.sortWorld k o e 0 l9 n0 s).heap[c]? =o.heap[c]? :=λc O Q=>by
   show(((o.heap.modify e _)++s)[c]?)= _;grind
  have a27:Holds C t (Proofs.sortWorld k o e 0 l9 n0 s):=⟨λc k4 v u=>by
   have Q:c≠e:=by rintro rfl;rw[a14]at u;cases u
   rw[<-w.ro c k4 v u];exact World.cell?_of_block (n1 c (w.lt u) Q),λc k4 O=>by
   have Q:c≠e:=by
    rintro rfl;rcases l1 c with H|⟨j9,H⟩
    .rw[H]at O;cases O
    .have:=l0 _ _ H;rw[Z]at this;cases this
   have L:=w.dS c k4 (l0 _ _ O);exact L.kept (.refl C) (n1 c L.lt Q) λ_ q=>q⟩
  obtain⟨⟨d,aO,a29⟩,a30⟩:=a.2;obtain⟨⟨c,a34,a36⟩,a38⟩:=h.2;have a42:br C (#[k a,k h]++ij) ([d,c]++I):=⟨by simp[a11];omega,λr X l=>by
   match r,l with
   |0,l=>obtain rfl:=a4G l;rw[show(#[k a,k h]++ij).getD 0 undef=k a by rw[a5u,a7l a9q];rfl];exact a29
   |1,l=>obtain rfl:=a4G l;rw[show(#[k a,k h]++ij).getD 1 undef=k h by rw[a5u,a7l a9q];rfl];exact a36
   |r+2,l=>
    have B:I[r]? =some X:=by simpa using l
    have N:r<ij.size:=by grind
    have b02:=a13 r X B;simp_all [undef,a5u,Array.getElem?_append_right]⟩
  refine(a07 _ _ d c aO a34 a30 a38 _ _ C a42 a27).mono ?_;rintro a43 a47 ⟨v,n,b03,l3,rfl,Y,u,rfl⟩;refine⟨by rw[u.dU],Y.ZP l1⟩
 have a48:Sort.SWO (Proofs.ltOf k3):=⟨λa=>by simp only[Proofs.ltOf];exact decide_eq_false (a04 _ a.2.2),λa h z=>by simp only[Proofs.ltOf,decide_eq_true_eq];exact a05 _ _ _ a.2.2 h.2.2 z.2.2,λa h z=>by grind[Proofs.ltOf,decide_eq_false_iff_not]⟩;have n2:=Proofs.Any.slices_SortFunc n9 k D k3 a48 V ij e 0 M E o a06 a19 a16 a18 a9p;rw[l8]at n2;refine n2.mono ?_;rintro a43 a47 ⟨rfl,G,P,s,⟨b04,_,n3⟩,a52,rfl⟩;have k5:G.size=i:=a9p;rw[a8q a9p,a8q a9p]at n3
 let p:List R:=G.toList.map λa=>a.2.1.choose;have a56: ∀a:j,S a.1.2 a.2.1.choose/\aZ C a.1.1 a.2.1.choose:=λa=>a.2.1.choose_spec;have a57:br C (G.toList.map k).toArray p:=br.dT.2 ⟨by simp[p],λr b05 X n4 a61=>by
  simp only[a9d,a5j,p]at n4 a61;cases k6:G.toList[r]? with
  |none=>simp[k6]at n4
  |some a=>grind⟩
 obtain⟨a62,b06,b07,b08,Y⟩:=Step.store w Z 0 p _ a57 (λj9 k9=>by
  obtain⟨a,_,rfl⟩:=a5d.1 k9;exact(k8 _ _ (a56 a).1).1) (by simp[p];omega)
 have a63:Sort.putRow k (Sort.ahead o P) e 0 G=Sort.ahead (o.setRow e (cX a62 0 (G.toList.map k))) P:=by grind[Sort.putRow_ahead,ZQ]
 have a65:=Y.trans (Step.grown Y.holds P s);refine⟨_,.aL [],C,f.set e (.cells (p++g.drop i)),rfl,?_,.aL #[] [] rfl (λr X H=>by simp at H),rfl,p,G.toList.map (λa=>a.1.2),?_,by simp[p,k5],?_,?_,rfl⟩
 .have a68:putAt g 0 p=p++g.drop i:=by simp[putAt,p,k5]
  rw[<-a68];show Step C f o C _ (Sort.grow (Sort.putRow k (Sort.ahead o P) e 0 G) s);rw[a63];exact a65
 .have a69:F=E.toList.map (λa=>a.1.2):=by
   apply a8E
   .simp[a01,l8]
   simp_all
  rw[a69];exact n3.map _
 .intro b a d n5 a71;simp only[a5j,p]at n5 a71;cases k6:G.toList[b]? with
  |none=>simp[k6]at n5
  |some h=>grind
 .rw[a7n,a6G];intro b r q N a73;have:=a52 b r (a5o _) a73 (by simpa[k5] using N);grind[Array.length_toList,Proofs.ltOf]
end Go.bA
namespace Go.Proofs
open Go.Shelf
def Tryz.ZS:Go.Shelf.Ren:=⟨λ|6=>118|15=>184|14=>183|28=>267|29=>268|20=>259|21=>260|22=>261|23=>262|24=>263|25=>264|26=>265|27=>266|46=>316|47=>317|48=>318|49=>319|50=>320|57=>346|a=>a,λ|22=>37|24=>24|25=>196|3=>3|39=>213|0=>0|53=>284|55=>130|4=>4|46=>324|45=>323|50=>221|5=>5|9=>9|66=>368|70=>372|76=>385|77=>386|a=>a,λ|a=>a⟩
def Tryz.EV:Go.Proofs.SlLaysF.n6 Tryz.prog Tryz.ZS:= {
 mixed:=a9u
 f6:=⟨Tryz.f118.name,a9t,Tryz.func118.trans (congrArg some a9u)⟩
 f14:=⟨Tryz.f183.name,a9t,Tryz.func183.trans (congrArg some a9u)⟩
 f15:=Tryz.func184.trans (congrArg some a9u)
 f20:=⟨Tryz.f259.name,a9t,Tryz.func259.trans (congrArg some a9u)⟩
 f21:=⟨Tryz.f260.name,a9t,Tryz.func260.trans (congrArg some a9u)⟩
 f22:=⟨Tryz.f261.name,a9t,Tryz.func261.trans (congrArg some a9u)⟩
 f23:=⟨Tryz.f262.name,a9t,Tryz.func262.trans (congrArg some a9u)⟩
 f24:=⟨Tryz.f263.name,a9t,Tryz.func263.trans (congrArg some a9u)⟩
 f25:=⟨Tryz.f264.name,a9t,Tryz.func264.trans (congrArg some a9u)⟩
 f26:=⟨Tryz.f265.name,a9t,Tryz.func265.trans (congrArg some a9u)⟩
 f27:=⟨Tryz.f266.name,a9t,Tryz.func266.trans (congrArg some a9u)⟩
 f28:=Tryz.func267.trans (congrArg some a9u)
 f29:=Tryz.func268.trans (congrArg some a9u)
 f46:=⟨Tryz.f316.name,a9t,Tryz.func316.trans (congrArg some a9u)⟩
 f47:=Tryz.func317.trans (congrArg some a9u)
 f48:=Tryz.func318.trans (congrArg some a9u)
 f49:=⟨Tryz.f319.name,a9t,Tryz.func319.trans (congrArg some a9u)⟩
 f50:=⟨Tryz.f320.name,a9t,Tryz.func320.trans (congrArg some a9u)⟩
 f57:=⟨Tryz.f346.name,a9t,Tryz.func346.trans (congrArg some a9u)⟩
 t0:=Tryz.underlying0
 a0:=Tryz.isAgg0
 z0:=Tryz.sizeOf0
 v0:=Tryz.zeroValue0
 t3:=Tryz.underlying3
 a3:=Tryz.isAgg3
 z3:=Tryz.sizeOf3
 v3:=Tryz.zeroValue3
 t4:=Tryz.underlying4
 a4:=Tryz.isAgg4
 z4:=Tryz.sizeOf4
 v4:=Tryz.zeroValue4
 t5:=Tryz.underlying5
 a5:=Tryz.isAgg5
 z5:=Tryz.sizeOf5
 v5:=Tryz.zeroValue5
 t9:=Tryz.underlying9
 a9:=Tryz.isAgg9
 z9:=Tryz.sizeOf9
 v9:=Tryz.zeroValue9
 t22:=Tryz.underlying37
 a22:=Tryz.isAgg37
 z22:=Tryz.sizeOf37
 v22:=Tryz.zeroValue37
 a24:=Tryz.isAgg24
 z24:=Tryz.sizeOf24
 t25:=Tryz.underlying196
 a25:=Tryz.isAgg196
 z25:=Tryz.sizeOf196
 v25:=Tryz.zeroValue196
 t39:=Tryz.underlying213
 a39:=Tryz.isAgg213
 z39:=Tryz.sizeOf213
 v39:=Tryz.zeroValue213
 t45:=Tryz.underlying323
 a45:=Tryz.isAgg323
 z45:=Tryz.sizeOf323
 v45:=Tryz.zeroValue323
 t46:=Tryz.underlying324
 a46:=Tryz.isAgg324
 z46:=Tryz.sizeOf324
 v46:=Tryz.zeroValue324
 t50:=Tryz.underlying221
 a50:=Tryz.isAgg221
 z50:=Tryz.sizeOf221
 v50:=Tryz.zeroValue221
 t53:=Tryz.underlying284
 a53:=Tryz.isAgg284
 z53:=Tryz.sizeOf284
 v53:=Tryz.zeroValue284
 t55:=Tryz.underlying130
 a55:=Tryz.isAgg130
 z55:=Tryz.sizeOf130
 v55:=Tryz.zeroValue130
 t66:=Tryz.underlying368
 a66:=Tryz.isAgg368
 z66:=Tryz.sizeOf368
 v66:=Tryz.zeroValue368
 t70:=Tryz.underlying372
 a70:=Tryz.isAgg372
 z70:=Tryz.sizeOf372
 v70:=Tryz.zeroValue372
 t76:=Tryz.underlying385
 a76:=Tryz.isAgg385
 z76:=Tryz.sizeOf385
 v76:=Tryz.zeroValue385
 t77:=Tryz.underlying386
 a77:=Tryz.isAgg386
 z77:=Tryz.sizeOf386
 v77:=Tryz.zeroValue386}
end Go.Proofs
namespace Go.Proofs.YtlgnfcaolejgeaaGreat
open Go Go.bA
variable{f t e7:U}
theorem ZT {b c:U} (h: ∀a,t a=none->f a=none) (k: ∀a,c a≠none->f a=none\/b a≠none):(e7.part t c).sub (e7.part f b):=λa o d=>by
 rw[U.part]at d|-;grind
variable{e i v M c0 j0:Nat}{Y:bp}
def yr (c:f.sub t):(f.set e Y).sub (t.set e Y):=λd h a=>by
 by_cases b:d=e
 .subst b;rw[U.ah]at a|-;exact a
 .rw[U.an _ _ b]at a|-;exact c _ _ a
theorem ys {d h:U}{o:bp} (p:f.sub t) (r:e7=f.set e o) (k:f e=none):
  (d.part (t.set e Y) ((t.part e7 h).set e Y)).sub (d.part f h):=ZT (λc a=>by
   by_cases b:c=e
   .subst b;exact k
   .rw[U.an _ _ b]at a;exact U.bF p a) λc a=>by
   by_cases b:c=e
   .subst b;exact .inl k
   .rw[U.an _ _ b,U.part]at a;split at a;simp_all [U.an]
    .exact absurd rfl a
theorem uK {a:U} (b:f=e7.set e Y) (c:t e=none):a.part f t e=none:=by simp_all [U.part,if_neg,U.ah]
def aD.Ok (a:Nat):aD->Prop
 | .nil=>True
 | .node b _ c d=>b.length=a/\c.Ok a/\d.Ok a
theorem aD.Ok.all {c:Nat}: ∀ {d:aD},d.Ok c-> ∀b∈d.all,b.length=c
 | .nil,_,b,a=>by simp[aD.all]at a
 | .node o live p r,⟨h1,h,k⟩,b,a=>by
  simp only[aD.all,a5a]at a;rcases a with (a|a)|a
  .exact h.all b a
  .exact k.all b a
  simp_all
def hD (d:Nat) (h:aD) (k:Nat):aD:=
 match h with
 | .nil=> .nil
 | .node c live a b=>if max a.size b.size>2*(aD.node c live a b).size/3+1 then fC d (aD.node c live a b).all.length (aD.node c live a b).all k else .node c live a b
theorem yt (o:Nat) (j:0<o) (l:o<=8) (d:List Int) (h:Bool) (a b:aD) (F:R) (p:Nat) (k r:U) (G:dR r (.node d h a b) F) (L:r.sub k) (m:(aD.node d h a b).Ok o) (x:(aD.node d h a b).size<=100000) (k1:p<=100000):
  AC Tryz.prog 96 [F,.v (.int .i64 (p:Int))] k λy P=>k.sub P/\dR (P.part k r) (hD o (.node d h a b) p) y:=by
 have z:=G.mono L;obtain⟨k2,k3,y,n,rfl,q,s,t⟩:=id z;have k4:=U.af q;have u:a.size<=100000:=by simp only[aD.size]at x;omega
 have w:b.size<=100000:=by simp only[aD.size]at x;omega
 refine aO hm M3 ?_;refine bj (qX a y k s a9p) ?_;refine bj (qX b n k t a9p) ?_;have A:=ly (aD.node d h a b);have S:=qX _ _ k z a9p;rw[hD];have B:=uJ o j l (aD.node d h a b).all.length (aD.node d h a b).all;have H:=sR _ _ k z a9p;have I:=m.all;generalize aD.node d h a b=K at*;obtain⟨c,T⟩: ∃c,K.size=c:=⟨_,rfl⟩;obtain⟨C,V⟩: ∃c,a.size=c:=⟨_,rfl⟩;obtain⟨D,W⟩: ∃c,b.size=c:=⟨_,rfl⟩;rw[T]at S x A|-;rw[V]at u|-;rw[W]at w|-;clear T V W;have M:(2*(c:Int)).tdiv 3=((2*c/3:Nat):Int):=by grind
 obtain⟨E,e⟩: ∃E,2*c/3=E:=⟨_,rfl⟩;rw[e]at M|-;have N:max (C:Int) (D:Int)=((max C D:Nat):Int):=a9p;obtain⟨f,g⟩: ∃f,max C D=f:=⟨_,rfl⟩;rw[g]at N|-;have hm:E<=100000:=a9p;clear e g;refine bj S ?_;refine aH (λO=> ?_) λO=> ?_
 .rw[if_pos a9p];refine ai H ?_;rintro _ Q ⟨X,Y,i,Z,rfl⟩;refine aa ?_;refine ai (B X Y p Q Z I a9p a9p a9p) ?_;rintro v k5 ⟨j9,k0⟩;refine aa ?_;exact⟨_,U.a1,U.aq i.sub j9,k0.mono (ZO i.sub)⟩
 .rw[if_neg a9p];exact⟨_,U.a1,U.a1,G.mono (pA L)⟩
theorem qZ (b:Nat): ∀(c:Nat) (a:List (List Int)) (dep:Nat),(fC b c a dep).size<=a.length
 |0,_,_=>a5o _
 |c+1,a,dep=>by
  rw[fC];split
  .exact a5o _
  .rename_i d;have:=a5S.2 d;have h:=qZ b c ((dI (dep%b) a).take (a.length/2)) (dep+1);have k:=qZ b c ((dI (dep%b) a).drop (a.length/2+1)) (dep+1);grind[List.length_take,pB,List.length_drop,aD.size]
theorem yu (b:Nat): ∀(d:Nat) (h:List (List Int)) (dep:Nat),(∀a∈h,a.length=b)->(fC b d h dep).Ok b
 |0,_,_,_=>trivial
 |d+1,h,dep,o=>by
  rw[fC];split
  .trivial
  .rename_i p;have:=a5S.2 p;have k: ∀a∈dI (dep%b) h,a.length=b:=λa c=>o a (qY.1 c);refine⟨?_,yu b d _ _ λa c=>k a (a4Z c),yu b d _ _ λa c=>k a (a5n c)⟩;grind[dI,pB,List.getD,List.getElem?_eq_getElem,List.getElem_mem]
theorem ZU (b:Nat) (a:aD) (c:Nat):(hD b a c).size<=a.size:=by
 unfold hD;split
 .exact a5k _
 .split
  .exact a5H (qZ _ _ _ _) (ly _)
  .exact a5k _
variable{a8:aD}
def yv (b:Nat) (a:a8.Ok e):(hD e a8 b).Ok e:=by
 unfold hD;split
 .trivial
 .split
  .exact yu _ _ _ _ a.all
  .exact a
def dd (a:Nat) (b:List Int):aD->Nat->aD×Bool
 | .nil,_=>(.node b true .nil .nil,true)
 | .node c live d h,dep=>
  if c=b then(hD a (.node c true d h) dep,!live)
  else if cN (dep%a) b c<0 then(hD a (.node c live (dd a b d (dep+1)).1 h) dep,(dd a b d (dep+1)).2)
  else(hD a (.node c live d (dd a b h (dep+1)).1) dep,(dd a b h (dep+1)).2)
theorem pC (a:Nat) (b:List Int): ∀(c:aD) (dep:Nat),(dd a b c dep).1.size<=c.size+1
 | .nil,_=>a5k _
 | .node k live d h,dep=>by
  have o:=pC a b d (dep+1);have p:=pC a b h (dep+1);grind[dd,Nat.le_trans,ZU,aD.size]
def uL {a:Nat}{b:List Int} (c:b.length=a): ∀ {r:aD} (dep:Nat),r.Ok a->(dd a b r dep).1.Ok a
 | .nil,_,_=>⟨c,trivial,trivial⟩
 | .node d live h k,dep,⟨h1,o,p⟩=>by
  rw[dd];split
  .exact yv (a8:= .node d true h k) _ ⟨h1,o,p⟩
  .split
   .exact yv (a8:= .node d live (dd a b h (dep+1)).1 k) _ ⟨h1,uL c _ o,p⟩
   .exact yv (a8:= .node d live h (dd a b k (dep+1)).1) _ ⟨h1,o,uL c _ p⟩
def yw (a:Nat) (F:0<a) (P:a<=8) (o:List Int) (g:Own) (S:o.length=a): ∀(T:aD) (V:R) (dep:Nat) (x y:U),dR y T V->y.sub x->T.Ok a->T.size+1+dep<=100000->
  AC Tryz.prog 54 [V,.J (ad o) g,.v (.int .i64 (dep:Int))] x λk H=>x.sub H/\ ∃d,k= .aL [d,.v (.bool (dd a o T dep).2)]/\dR (H.part x y) (dd a o T dep).1 d
 | .nil,V,dep,x,y,q,z,I,K=>by
  obtain rfl:V= .v (.pointer none):=q;refine aO hm Be ?_;refine aP λb h=> ?_;refine aa ?_;exact⟨_,U.a1,U.ae U.a1 h,_,rfl,b,g,_,_,rfl,(uI h).trans (U.ah _ _ _),rfl,rfl⟩
 | .node c live G L,V,dep,x,y,q,z,I,K=>by
  obtain⟨M,p,k,d,rfl,N,i,j⟩:=q;have W:=z _ _ N;have O:=i.mono z;have Q:=j.mono z;obtain⟨s,l,m⟩:=id I;have k4:=U.af W;have k5:=bH (q:=o);have k6:=O.cells;have k7:=Q.cells;refine aO hm Be ?_;refine bq λb h=> ?_;have X:=U.ae (Y:= .cells [.J (ad c) p,.v (.bool live),k,d]) U.a1 h;have k8:=U.af (X _ _ W);have k9:M≠b:=by rintro rfl;rw[h]at W;cases W
  have D:=U.bF z h;obtain⟨n,Y⟩: ∃n,n=x.set b (.cells [.J (ad c) p,.v (.bool live),k,d]):=⟨_,rfl⟩;simp only[aD.size]at K;refine aa ?_;refine ai (nn c o _ _ _ a9p) ?_;rintro _ _ ⟨rfl,rfl⟩;refine aa ?_;refine aH (λt=> ?_) λt=> ?_
  .subst t;have Z:dR ((x.part n y).set b (.cells [.J (ad c) p,.v (.bool true),k,d])) (.node c true G L) (.ptr b 0):=by have r:=U.ae (Y:= .cells [.J (ad c) p,.v (.bool true),k,d]) (pA (e7:=n) z) D;exact⟨b,p,k,d,rfl,U.ah _ _ _,i.mono r,j.mono r⟩
   refine ai (yt a F P c true G L _ dep _ _ Z (yr qW) ⟨s,l,m⟩ (by simp only[aD.size];omega) a9p) ?_;rintro v C ⟨r,E⟩;have l0:=U.af (r _ _ (U.ae U.a1 h _ _ W));refine aa ?_;rw[dd,if_pos rfl];exact⟨_,U.a1,U.aq (U.ae U.a1 h) r,_,rfl,E.mono (ys U.a1 Y h)⟩
  rw[dd,if_neg t];have l1:(dep:Int).tmod (a:Int)=((dep%a:Nat):Int):=rfl;refine ai (yo o c _ _ (dep%a) _ (by rw[S];exact a6S _ F) a9p a9p) ?_;rintro _ _ ⟨rfl,rfl⟩;refine aa ?_;refine aH (λc2=> ?_) λc2=> ?_
  .refine ai (yw a F P o g S G k (dep+1) _ y i (U.ae z D) l a9p) ?_;rintro _ C ⟨r,v,rfl,E⟩;have u:=r _ _ (U.ah _ _ _);have j9:eo C b=some [.J (ad c) p,.v (.bool live),k,d]:=by simp[eo,u]
   have k0:=E.cells;have e:=U.aq (U.ae U.a1 h) r;rw[if_pos c2];refine aa ?_;have f:=U.ae (Y:= .cells [.J (ad c) p,.v (.bool live),v,d]) U.a1 (uK (a:=C) rfl D:C.part (x.set b (.cells [.J (ad c) p,.v (.bool live),k,d])) y b=none);have w:dR _ (.node c live (dd a o G (dep+1)).1 L) (.ptr b 0):=⟨b,p,v,d,rfl,U.ah _ _ _,E.mono f,j.mono (U.aq (pA (U.aq (U.ae z D) r)) f)⟩;have k1:=pC a o G (dep+1);refine ai (yt a F P _ _ _ _ _ dep _ _ w (yr qW) ⟨s,uL S _ l,m⟩ (by simp only[aD.size];omega) a9p) ?_;rintro k2 k3 ⟨A,B⟩;refine aa ?_;exact⟨_,U.a1,U.aq (U.ae e h) A,_,rfl,B.mono (ys e rfl h)⟩
  .refine ai (yw a F P o g S L d (dep+1) _ y j (U.ae z D) m a9p) ?_;rintro _ C ⟨r,v,rfl,E⟩;have u:=r _ _ (U.ah _ _ _);have j9:eo C b=some [.J (ad c) p,.v (.bool live),k,d]:=by simp[eo,u]
   have k0:=E.cells;have e:=U.aq (U.ae U.a1 h) r;rw[if_neg c2];refine aa ?_;have f:=U.ae (Y:= .cells [.J (ad c) p,.v (.bool live),k,v]) U.a1 (uK (a:=C) rfl D:C.part (x.set b (.cells [.J (ad c) p,.v (.bool live),k,d])) y b=none);have w:dR _ (.node c live G (dd a o L (dep+1)).1) (.ptr b 0):=⟨b,p,k,v,rfl,U.ah _ _ _,i.mono (U.aq (pA (U.aq (U.ae z D) r)) f),E.mono f⟩;have k1:=pC a o L (dep+1);refine ai (yt a F P _ _ _ _ _ dep _ _ w (yr qW) ⟨s,l,uL S _ m⟩ (by simp only[aD.size];omega) a9p) ?_;rintro k2 k3 ⟨A,B⟩;refine aa ?_;exact⟨_,U.a1,U.aq (U.ae e h) A,_,rfl,B.mono (ys e rfl h)⟩
theorem uM {a:U}{b:bp} (d:t=f.set e b) (h:f e=none):((e7.part t a).set e Y).sub ((e7.set e Y).part f a):=λc k o=>by
 by_cases p:c=e;grind[U.ah,uI];simp_all [U.an,U.part,if_pos]
def cm (b:Nat) (a:List Int):aD->Nat->aD×Bool
 | .nil,_=>(.nil,false)
 | .node c live d h,dep=>
  if c=a then(.node c false d h,live)
  else if cN (dep%b) a c<0 then(.node c live (cm b a d (dep+1)).1 h,(cm b a d (dep+1)).2)
  else(.node c live d (cm b a h (dep+1)).1,(cm b a h (dep+1)).2)
theorem pD (a:Nat) (b:List Int): ∀(c:aD) (dep:Nat),(cm a b c dep).1.size=c.size
 | .nil,_=>rfl
 | .node k live d h,dep=>by
  have o:=pD a b d (dep+1);have p:=pD a b h (dep+1);grind[cm,aD.size]
def yx {a:Nat}{h:List Int}: ∀ {d:aD} (dep:Nat),d.Ok a->(cm a h d dep).1.Ok a
 | .nil,_,_=>trivial
 | .node k live o p,dep,⟨h1,b,c⟩=>by
  rw[cm];split
  .exact⟨h1,b,c⟩
  .split
   .exact⟨h1,yx _ b,c⟩
   .exact⟨h1,b,yx _ c⟩
def yy (b:Nat) (V:0<b) (s:b<=8) (p:List Int) (W:Own) (e:p.length=b): ∀(E:aD) (F:R) (dep:Nat) (y z:U),dR z E F->z.sub y->E.Ok b->E.size+1+dep<=1000000->
  AC Tryz.prog 89 [F,.J (ad p) W,.v (.int .i64 (dep:Int))] y λc t=>y.sub t/\ ∃a,c= .aL [a,.v (.bool (cm b p E dep).2)]/\dR (t.part y z) (cm b p E dep).1 a
 | .nil,F,dep,y,z,f,r,u,w=>by
  obtain rfl:F= .v (.pointer none):=f;refine aO hm Bi ?_;exact⟨_,U.a1,U.a1,_,rfl,rfl⟩
 | .node d live g i,F,dep,y,z,f,r,u,w=>by
  obtain⟨B,o,c,a,rfl,H,P,S⟩:=f;have T:=r _ _ H;have I:=P.mono r;have K:=S.mono r;obtain⟨Y,M,N⟩:=id u;have Z:=U.af T;have j9:=bH (q:=p);have k0:=I.cells;have k1:=K.cells;refine aO hm Bi ?_;refine bq λh k=> ?_;have O:=U.ae (Y:= .cells [.J (ad d) o,.v (.bool live),c,a]) U.a1 k;have k2:=U.af (O _ _ T);have k3:B≠h:=by rintro rfl;rw[k]at T;cases T
  have C:=U.bF r k;obtain⟨j,A⟩: ∃j,j=y.set h (.cells [.J (ad d) o,.v (.bool live),c,a]):=⟨_,rfl⟩;simp only[aD.size]at w;refine aa ?_;refine ai (nn d p _ _ _ a9p) ?_;rintro _ _ ⟨rfl,rfl⟩;refine aa ?_;refine aH (λl=> ?_) λl=> ?_
  .subst l;rw[cm,if_pos rfl];have x:=U.ae (Y:= .cells [.J (ad d) o,.v (.bool false),c,a]) (pA (e7:=j) r) C;exact⟨_,U.a1,U.ae U.a1 k,_,rfl,h,o,c,a,rfl,(uI k).trans (U.ah _ _ _),P.mono (U.aq x (uM A k)),S.mono (U.aq x (uM A k))⟩
  rw[cm,if_neg l];have k4:(dep:Int).tmod (b:Int)=((dep%b:Nat):Int):=rfl;refine ai (yo p d _ _ (dep%b) _ (by rw[e];exact a6S _ V) a9p a9p) ?_;rintro _ _ ⟨rfl,rfl⟩;refine aa ?_;refine aH (λc2=> ?_) λc2=> ?_
  .refine ai (yy b V s p W e g c (dep+1) _ z P (U.ae r C) M a9p) ?_;rintro _ D ⟨x,v,rfl,G⟩;have m:=x _ _ (U.ah _ _ _);have Q:eo D h=some [.J (ad d) o,.v (.bool live),c,a]:=by simp[eo,m]
   have X:=G.cells;have n:=U.aq (U.ae U.a1 k) x;rw[if_pos c2];refine aa ?_;have L:=U.ae (Y:= .cells [.J (ad d) o,.v (.bool live),v,a]) U.a1 (uK (a:=D) rfl C:D.part (y.set h (.cells [.J (ad d) o,.v (.bool live),c,a])) z h=none);have q:dR _ (.node d live (cm b p g (dep+1)).1 i) (.ptr h 0):=⟨h,o,v,a,rfl,U.ah _ _ _,G.mono L,S.mono (U.aq (pA (U.aq (U.ae r C) x)) L)⟩;exact⟨_,U.a1,U.ae n k,_,rfl,q.mono (uM rfl k)⟩
  .refine ai (yy b V s p W e i a (dep+1) _ z S (U.ae r C) N a9p) ?_;rintro _ D ⟨x,v,rfl,G⟩;have m:=x _ _ (U.ah _ _ _);have Q:eo D h=some [.J (ad d) o,.v (.bool live),c,a]:=by simp[eo,m]
   have X:=G.cells;have n:=U.aq (U.ae U.a1 k) x;rw[if_neg c2];refine aa ?_;have L:=U.ae (Y:= .cells [.J (ad d) o,.v (.bool live),c,v]) U.a1 (uK (a:=D) rfl C:D.part (y.set h (.cells [.J (ad d) o,.v (.bool live),c,a])) z h=none);have q:dR _ (.node d live g (cm b p i (dep+1)).1) (.ptr h 0):=⟨h,o,c,v,rfl,U.ah _ _ _,P.mono (U.aq (pA (U.aq (U.ae r C) x)) L),G.mono L⟩;exact⟨_,U.a1,U.ae n k,_,rfl,q.mono (uM rfl k)⟩
def lz (a:Nat) (b:List Int) (c:aD):aD×Bool:=
 if(cm a b c 0).2=true/\2*(cm a b c 0).1.all.length<(cm a b c 0).1.size then(fC a (cm a b c 0).1.all.length (cm a b c 0).1.all 0,true)else cm a b c 0
def ZV (a:Nat) (z:0<a) (C:a<=8) (b:List Int) (D:Own) (L:b.length=a) (c:aD) (o:R) (k:U) (P:dR k c o) (E:c.Ok a) (u:c.size+1<=100000):
  AC Tryz.prog 52 [o,.J (ad b) D] k λS F=>k.sub F/\ ∃d,S= .aL [d,.v (.bool (lz a b c).2)]/\dR F (lz a b c).1 d:=by
 refine aO hm KU ?_;refine ai (yy a z C b D L c o 0 k k P U.a1 E a9p) ?_;rintro _ T ⟨p,d,rfl,V⟩;have r:=V.mono qW;have W:=yx (h:=b) 0 E;have cq:=pD a b c 0;rw[lz];generalize cm a b c 0=e at*;obtain⟨h,f⟩:=e
 dsimp only at*
 have w:=ly h;cases f with
 |false=>refine aa ?_;rw[if_neg a9q];exact⟨_,U.a1,p,d,rfl,r⟩
 |true=>
  refine aa ?_;refine ai (sR h d T r a9p) ?_;rintro _ G ⟨A,B,x,g,rfl⟩;have y:=r.mono x.sub;have H:=g.len;refine aa ?_;refine bj (qX h d G y a9p) ?_;refine aH (λi=> ?_) λi=> ?_
  .rw[if_pos ⟨rfl,a9p⟩];refine ai (sR h d G y a9p) ?_;rintro _ j ⟨l,m,n,q,rfl⟩;refine aa ?_;refine ai (uJ a z C h.all.length h.all l m 0 j q W.all a9p a9p a9p) ?_;rintro v I ⟨s,t⟩;refine aa ?_;exact⟨_,U.a1,U.aq p (U.aq x.sub (U.aq n.sub s)),v,rfl,t.mono qW⟩
  .rw[if_neg a9p];exact⟨_,U.a1,U.aq p x.sub,d,rfl,y⟩
def ZW (a:UInt32):bn .mul (.int .u32 256) (.int .u32 a.toNat)=some (.int .u32 (256*a).toNat):=BP (x:=256) (y:=a)
def pE (a:UInt32):bn .sub (.int .u32 4294967295) (.int .u32 a.toNat)=some (.int .u32 (~~~a).toNat):=by
 have b:=BO (x:=4294967295) (y:=a);have c:(4294967295:UInt32) - a= ~~~a:=by apply UInt32.toNat_inj.1;rw[UInt32.toNat_sub,UInt32.toNat_not];have:=a.toNat_lt;simp;omega
 rw[c]at b;exact b
theorem sS (a:UInt32):bn .quo (.int .u32 a.toNat) (.int .u32 8)=some (.int .u32 (a>>>3).toNat):=by have b:=a.toNat_lt;grind[Int.tdiv,Int.tdiv_eq_ediv_of_nonneg,UInt32.toNat_shiftRight,Nat.shiftRight_eq_div_pow,bn,eK,gj,qm]
theorem sT (a:UInt32):bn .quo (.int .u32 a.toNat) (.int .u32 1024)=some (.int .u32 (a>>>10).toNat):=by have b:=a.toNat_lt;grind[Int.tdiv,Int.tdiv_eq_ediv_of_nonneg,UInt32.toNat_shiftRight,Nat.shiftRight_eq_div_pow,bn,eK,gj,qm]
theorem ml (c:UInt32) (d:Int) (a:Nat) (r:0<a/\a<32) (h:d=((32 - a:Nat):Int)) (b:U):AC Tryz.prog 324 [.v (.int .u32 c.toNat),.v (.int .u64 d)] b λk o=>o=b/\k= .v (.int .u32 (rotl c a).toNat):=by
 subst h;have p:bn .sub (.int .u64 32) (.int .u64 ((32 - a:Nat):Int))=some (.int .u64 (a:Int)):=by grind[bn,eK,gj,kx]
 refine bf hm S1 a9q ?_;simp -dsimp -implicitDefEqProofs (disch:=first|omega|assumption|(simp only[aE,Nat.reduceAdd];try omega)) only[↓s7,s8,aj,ofConst,cY,simprocAttr,gd,ba,bb,a6c,↓sa,sb,ne_eq,not_true_eq_false,not_false_eq_true,Int.reduceNe,a6u,a6L,p];refine⟨b,U.a1,rfl,?_⟩;simp only[a5g,rotl];rw[UInt32.or_comm]
def ZX (a:U):AC Tryz.prog 191 [] a λc d=> ∃b,a b=none/\c= .al b 64 64 1/\d=a.set b (.cells (wl mW)):=by refine bf hm OW a9q ?_;simp -dsimp -implicitDefEqProofs (disch:=first|omega|assumption|(simp only[aE,Nat.reduceAdd];try omega)) only[↓s7,s8,aj,ofConst,cY,simprocAttr,gd,ba,bb,a6c,↓sa,sb,ne_eq,not_true_eq_false,not_false_eq_true,Int.reduceNe,a6u,a6L];refine eS (by simp[aN,R.cells]) a9q λh k=> ?_;simp -dsimp -implicitDefEqProofs (disch:=first|omega|assumption|(simp only[aE,Nat.reduceAdd];try omega)) only[↓s7,s8,aj,ofConst,cY,simprocAttr,gd,ba,bb,a6c,↓sa,sb,ne_eq,not_true_eq_false,not_false_eq_true,Int.reduceNe,a6u,a6L];refine⟨_,U.a1,h,k,rfl,?_⟩;rfl
variable{g A e1:List R}{h6:List UInt32}
def uN:(wl h6++g).length=h6.length+g.length:=by simp[wl]
theorem mm (a:e<h6.length):aY false 1 ((wl h6++g).drop e)= .v (.int .u32 (h6.getD e 0).toNat):=by grind[wl,aY,List.map_drop,List.drop_eq_getElem_cons,List.getD]
def pF (a:0<h6.length):aY false 1 (wl h6++g)= .v (.int .u32 (h6.getD 0 0).toNat):=mm (e:=0) a
theorem ZY (a:UInt32) (b:e<h6.length):putAt (wl h6++g) e [.v (.int .u32 a.toNat)]=wl (h6.set e a)++g:=by rw[<-Ct a b,putAt,putAt];grind[wl,eM,List.length_singleton]
def r0 (a:List UInt8) (b:Nat):Nat->UInt32
 |0=>0
 |c+1=>256*r0 a b c+(a.getD (4*b+c) 0).toUInt32
def yz (c a b:Nat) (d:a<2^b):c*2^b|||a=c*2^b+a:=by have:=a7z (a:=c) (i:=b) (b:=a) d;rw[a7b]at this;exact this.symm
def ZZ (b a c d:Nat) (h:a<256) (k:c<256) (o:d<256):b*2^24|||a*2^16|||c*2^8|||d=((b*256+a)*256+c)*256+d:=by
 rw[yz b (a*2^16) 24 a9p,show b*2^24+a*2^16=(b*256+a)*2^16 by omega,yz (b*256+a) (c*2^8) 16 a9p,
  show(b*256+a)*2^16+c*2^8=((b*256+a)*256+c)*2^8 by omega,yz _ d 8 a9p]
 all_goals omega
def a0a (a b c d:UInt8):(256:UInt32)*((256:UInt32)*((256:UInt32)*((256:UInt32)*(0:UInt32)+a.toUInt32)+b.toUInt32)+c.toUInt32)+d.toUInt32=a.toUInt32<<<24|||b.toUInt32<<<16|||c.toUInt32<<<8|||d.toUInt32:=by
 have z:=a.toNat_lt;have h:=b.toNat_lt;have k:=c.toNat_lt;have o:=d.toNat_lt;apply UInt32.toNat_inj.1;have p:(a.toUInt32<<<24).toNat=a.toNat*2^24:=by rw[UInt32.toNat_shiftLeft];simp[a7b];omega
 have r:(b.toUInt32<<<16).toNat=b.toNat*2^16:=by rw[UInt32.toNat_shiftLeft];simp[a7b];omega
 have x:(c.toUInt32<<<8).toNat=c.toNat*2^8:=by rw[UInt32.toNat_shiftLeft];simp[a7b];omega
 have y:d.toUInt32.toNat=d.toNat:=a9q;rw[UInt32.toNat_or,UInt32.toNat_or,UInt32.toNat_or,p,r,x,y,ZZ _ _ _ _ h k o];simp only[UInt32.toNat_add,UInt32.toNat_mul,UInt8.toNat_toUInt32,UInt32.reduceToNat];omega
def a0b (a:List UInt8) (b:Nat):r0 a b 4=word a b:=a0a _ _ _ _
def a0c (b:h6.length<64):eg (h6++ [0])=eg h6:=by have a:64 - h6.length=(64 -(h6.length+1))+1:=a9p;simp only[eg,a,a6O];simp
def a0d {b:UInt32} (a:UInt32) (c:e=h6.length) (d:h6.length<64):putAt (eg (h6++ [b])) e [.v (.int .u32 a.toNat)]=eg (h6++ [a]):=by subst c;simp[putAt,eg,a7f,a6k]
variable{n b3:R}
def EW {v:List UInt32} (c:ar f t 1 (wl v) n) (o:v≠ []): ∃a b d,n= .al a v.length b 1/\f a=none/\t a=some (.cells (wl v++d))/\v.length+d.length=b/\b<=maxLen:=by
 obtain⟨_,c|⟨a,C,b,p,rfl,r,x,y,h,k,D,z⟩⟩:=c
 .exact absurd (by simpa[wl] using c.1) o
 .simp only[a5t,eM]at y h k;subst k;refine⟨a,b,p.drop v.length,rfl,r,?_,?_,z⟩
  .rw[<-h,a5p];exact x
  .simp;omega
theorem a0e (x F:List UInt32) (y:List UInt8) (n:x.length=8) (a04:F.length=64) (D S:Nat) (k1:List R) (w A:Nat) (k6:List R) (L:Nat) (z:U)
  (k7:z D=some (.cells (wl x++k1))) (k8:z w=some (.cells k6)) (a52:A+64<=k6.length) (a05: ∀k9,k9<64->aY false 1 (k6.drop (A+k9))= .v (.int .u8 (y.getD k9 0).toNat)) (l0:z L=some (.cells (wl F))):
  AC Tryz.prog 273 [.al D 8 S 1,.bw w A 64 e 1,.al L 64 64 1] z λa06 E=>ar z E 1 (wl (List.zipWith (·+ ·) (hr F (sched y) x) x)) a06:=by
 refine bf hm QY a9q ?_;refine aF (c2 @ba @bb) ?_;refine wR (e:=64) a9p a9p λr k2=> ?_;have a07:D≠r:=by rintro rfl;rw[k2]at k7;cases k7
 have l5:w≠r:=by rintro rfl;rw[k2]at k8;cases k8
 have a08:L≠r:=by rintro rfl;rw[k2]at l0;cases l0
 have a09:(List.replicate 64 [R.v (.int .u32 0)]).flatten=eg (first y 0):=rfl;rw[a09];refine aF (c2 @ba @bb) ?_;refine cu (λb E=> ∃a:Nat,a<=16/\E=z.set r (.cells (eg (first y a)))/\b 0= .al D 8 S 1/\b 1= .bw w A 64 e 1/\b 2= .al L 64 64 1/\b 7= .al r 64 64 1/\b 8= .v (.int .i64 a))
  (λb _=>match b 8 with| .v (.int _ d)=>(16 - d).toNat| _=>0) ⟨0,a9p,?_⟩ ?_
 .exact gW (c2 @ba @bb)
 .rintro b _ ⟨a,l1,rfl,c,k3,h,k,k4⟩;have l2:(first y a).length=a:=by simp[first]
  by_cases o:(a:Int)<16
  .rw[<-a0c (h6:=first y a) a9p];refine aF (bu @c @k3 @h @k @k4 @o @ba @bb) ?_;refine cu (λb E=> ∃d:Nat,d<=4/\E=z.set r (.cells (eg (first y a++ [r0 y a d])))/\b 0= .al D 8 S 1/\b 1= .bw w A 64 e 1/\b 2= .al L 64 64 1/\b 7= .al r 64 64 1/\b 8= .v (.int .i64 a)/\b 9= .v (.int .i64 d))
    (λb _=>match b 9 with| .v (.int _ d)=>(4 - d).toNat| _=>0) ⟨0,a9p,?_⟩ ?_
   .refine aF (cc @c @k3 @h @k @k4 @ba @bb) ?_;rfl
   .rintro q _ ⟨d,a56,rfl,l6,l7,l8,l9,n0,n1⟩;by_cases n2:(d:Int)<4
    .have T:(eg (first y a++ [r0 y a d])).length=64:=si (by simp[l2];omega);have a10:aY false 1 ((eg (first y a++ [r0 y a d])).drop a)= .v (.int .u32 (r0 y a d).toNat):=by grind[lk,List.getD]
     have l3:(4*(a:Int)+(d:Int)).toNat=4*a+d:=a9p;have a11:=a05 (4*a+d) a9p;refine aF (Cf @l6 @l7 @l8 @l9 @n0 @n1 @n2 @T @a10 @rX @l3 (U.af k8) (a4Q l5) @l5 @a11 @ZW @ba @bb) ?_;rw[a0d _ l2.symm a9p];exact⟨⟨d+1,a9p,rfl,a9q⟩,a9p⟩
    .obtain rfl:d=4:=a9p;refine aF (ct @l6 @l7 @l8 @l9 @n0 @n1 @k4 @n2 @ba @bb) ?_;refine⟨⟨a+1,a9p,?_,a9q⟩,a9p⟩;rw[a0b];simp only[first,a8N,a5N,a5h,a6y]
  .obtain rfl:a=16:=a9p;refine aF (bu @c @k3 @h @k @k4 @o @ba @bb) ?_;refine cu (λb E=> ∃(p:List UInt32) (a:Nat),a<=48/\p.length=16+a/\grow (48 - a) p=sched y/\b 0= .al D 8 S 1/\b 2= .al L 64 64 1/\b 7= .al r 64 64 1/\b 10= .v (.int .i64 ((16+a:Nat):Int))/\E=z.set r (.cells (eg p)))
    (λb _=>match b 10 with| .v (.int _ d)=>(64 - d).toNat| _=>0) ⟨first y 16,0,a9p,l2,rfl,?_⟩ ?_
   .exact gW (bC @c @k3 @h @k @ba @bb)
    all_goals rfl
   .rintro b _ ⟨p,a,l1,B,H,c,h,k,s,rfl⟩;by_cases o:((16+a:Nat):Int)<64
    .have T:(eg p).length=64:=si a9p;have I:(((16+a:Nat):Int) - 15).toNat=a+1:=a9p;have K:(((16+a:Nat):Int) - 2).toNat=a+14:=a9p;have M:(((16+a:Nat):Int) - 16).toNat=a:=a9p;have N:(((16+a:Nat):Int) - 7).toNat=a+9:=a9p;refine aF (p7 @c @h @k @s @o @I @K @M @N @T @lk @sS @sT @ba @bb) ?_;refine ai (ml _ _ 25 a9t a9t _) ?_;rintro _ _ ⟨rfl,rfl⟩;refine aF (p7 @c @h @k @s @o @I @K @M @N @T @lk @sS @sT @ba @bb) ?_;refine ai (ml _ _ 14 a9t a9t _) ?_;rintro _ _ ⟨rfl,rfl⟩;refine aF (p7 @c @h @k @s @o @I @K @M @N @T @lk @sS @sT @ba @bb) ?_;refine ai (ml _ _ 15 a9t a9t _) ?_;rintro _ _ ⟨rfl,rfl⟩;refine aF (p7 @c @h @k @s @o @I @K @M @N @T @lk @sS @sT @ba @bb) ?_;refine ai (ml _ _ 13 a9t a9t _) ?_;rintro _ _ ⟨rfl,rfl⟩;refine aF (p7 @c @h @k @s @o @I @K @M @N @T @lk @sS @sT @ba @bb) ?_;rw[x7 _ B.symm a9p];refine⟨⟨_,a+1,a9p,by simp[B];omega,?_,?_,rfl⟩,a9p⟩
     .rw[<-H,show 48 - a=(48 -(a+1))+1 by omega,grow,more,B];rw[show 16+a - 16=a by omega,show 16+a - 15=a+1 by omega,show 16+a - 7=a+9 by omega,show 16+a - 2=a+14 by omega];rfl
     .simp;omega
    .obtain rfl:a=48:=a9p;have a13:p=sched y:=H;have a14:eg p=wl p:=by simp[eg,B,wl]
     rw[a14];clear H;generalize sched y=a57 at*;subst a13;have a15:bM (z.set r (.cells (wl p))) 1 (.al D 8 S 1)=some (8,wl x):=by simp_all [wl,U.an,eM,bM,U.af]
     refine aF (bu @c @h @k @s @o @nW @ba @bb) ?_;refine fj (t:=z.set r (.cells (wl p))) (ar.zero U.a1) a9p a15 (by rw[eM,n]) (by rw[eM,n];simp) (by rw[eM,n];simp) λa61 P t=> ?_;rw[a5b]at t;refine aF (bo @c @h @k @ba @bb) ?_;have V:(wl F).length=64:=by rw[eM,a04]
     have W:(wl p).length=64:=by rw[eM,B]
     have a16:(z.set r (.cells (wl p))) L=some (.cells (wl F)):=by rw[U.an _ _ a08];exact l0
     have a18:(z.set r (.cells (wl p))) r=some (.cells (wl p)):=U.ah _ _ _;have l4:(z.set r (.cells (wl p))) D=some (.cells (wl x++k1)):=by rw[U.an _ _ a07];exact k7
     have n3:z.sub (z.set r (.cells (wl p))):=U.ae U.a1 k2;generalize z.set r (.cells (wl p))=a19 at*;refine cu (λb E=> ∃(a:Nat) (v:List UInt32),a<=64/\v.length=8/\hr (F.drop a) (p.drop a) v=hr F p x/\ar a19 E 1 (wl v) (b 13)/\b 0= .al D 8 S 1/\b 2= .al L 64 64 1/\b 7= .al r 64 64 1/\b 14= .v (.int .i64 a))
      (λb _=>match b 14 with| .v (.int _ d)=>(64 - d).toNat| _=>0) ⟨0,x,a9p,n,rfl,?_⟩ ?_
     .refine aF (bo @c @h @k @ba @bb) ?_;exact t
     clear t;rintro b P ⟨a,v,l1,u,H,t,c,h,k,G⟩;have f:=t.1;obtain⟨k5,n4,O,C,n5,lZ,a27,a29⟩:=EW t (by intro g;rw[g]at u;cases u);rw[u]at C a27;by_cases o:(a:Int)<64
     .obtain⟨Q,X,Y,Z,g,j9,q,k0,rfl⟩: ∃Q X Y Z g j9 q k0,v= [Q,X,Y,Z,g,j9,q,k0]:=by
       match v,u with
       | [Q,X,Y,Z,g,j9,q,k0],_=>simp
      have i:(wl [Q,X,Y,Z,g,j9,q,k0]++O).length=8+O.length:=by rw[uN,u]
      have j:=U.af lZ;have l:=U.af (f _ _ a18);have m:=U.af (f _ _ a16);refine aF (o0 @c @h @k @C @G @o @i @j @l @m @mm @pF @hq @V @W @pE @a5q.{0} @a5x.{0} @ba @bb) ?_;refine ai (ml _ _ 26 a9t a9t _) ?_;rintro _ P ⟨rfl,rfl⟩;refine aF (o0 @c @h @k @C @G @o @i @j @l @m @mm @pF @hq @V @W @pE @a5q.{0} @a5x.{0} @ba @bb) ?_;refine ai (ml _ _ 21 a9t a9t _) ?_;rintro _ P ⟨rfl,rfl⟩;refine aF (o0 @c @h @k @C @G @o @i @j @l @m @mm @pF @hq @V @W @pE @a5q.{0} @a5x.{0} @ba @bb) ?_;refine ai (ml _ _ 7 a9t a9t _) ?_;rintro _ P ⟨rfl,rfl⟩;refine aF (o0 @c @h @k @C @G @o @i @j @l @m @mm @pF @hq @V @W @pE @a5q.{0} @a5x.{0} @ba @bb) ?_;refine ai (ml _ _ 30 a9t a9t _) ?_;rintro _ P ⟨rfl,rfl⟩;refine aF (o0 @c @h @k @C @G @o @i @j @l @m @mm @pF @hq @V @W @pE @a5q.{0} @a5x.{0} @ba @bb) ?_;refine ai (ml _ _ 19 a9t a9t _) ?_;rintro _ P ⟨rfl,rfl⟩;refine aF (o0 @c @h @k @C @G @o @i @j @l @m @mm @pF @hq @V @W @pE @a5q.{0} @a5x.{0} @ba @bb) ?_;refine ai (ml _ _ 10 a9t a9t _) ?_;rintro _ P ⟨rfl,rfl⟩;refine aF (o0 @c @h @k @C @G @o @i @j @l @m @mm @pF @hq @V @W @pE @a5q.{0} @a5x.{0} @ba @bb) ?_;refine eS (by simp[aN,R.cells]) a9q λa30 n9=> ?_;refine aF (bC @c @h @k @G @ba @bb) ?_;refine⟨⟨a+1,sj (F.getD a 0) (p.getD a 0) [Q,X,Y,Z,g,j9,q,k0],a9p,rfl,?_,?_,a9q⟩,a9p⟩;grind[Cx]
      .exact⟨U.ae f (U.bF f n9),.inr ⟨a30,8,8,_,rfl,U.bF f n9,U.ah _ _ _,rfl,rfl,rfl,a9p,a9t⟩⟩
     .obtain rfl:a=64:=a9p;have a34:hr F p x=v:=by rw[<-H,a5T a9p];rfl
      refine aF (bu @c @h @k @C @G @o @ba @bb) ?_;have a00:D≠k5:=by rintro rfl;rw[n5]at l4;cases l4
      have a01:=U.bF n3 n5;have a36:=f _ _ l4;refine cu (λb E=> ∃a:Nat,a<=8/\b 0= .al D 8 S 1/\b 13= .al k5 8 n4 1/\b 19= .v (.int .i64 a)/\E=P.set k5 (.cells (wl (jN a v x)++O)))
       (λb _=>match b 19 with| .v (.int _ d)=>(8 - d).toNat| _=>0) ⟨0,a9p,?_⟩ ?_
      .have l3:jN 0 v x=v:=rfl;rw[l3,U.pf lZ];exact gW (aM @c @C @ba @bb)
      .rintro b _ ⟨a,l1,c,C,a02,rfl⟩;by_cases o:(a:Int)<8
       .obtain⟨a38,a42⟩:=Cv v x u n a a9p;have a43:(wl (jN a v x)++O).length=8+O.length:=by rw[uN,a38]
        have a47:(wl x++k1).length=8+k1.length:=by rw[uN,n]
        refine aF (fw @c @C @a02 @o @a43 @a47 @mm @ZY @a42 (U.af a36) @a00 (a4Q a00) @ba @bb) ?_;grind
       .obtain rfl:a=8:=a9p;have a48:jN 8 v x=List.zipWith (·+ ·) v x:=by grind[jN,List.take_of_length_le,List.drop_of_length_le]
        have a03:(wl (List.zipWith (·+ ·) v x)).length=8:=by rw[eM];simp;omega
        rw[a48];refine aF (bC @c @C @a02 @o @ba @bb) ?_;rw[a34];refine⟨_,U.a1,U.ae (U.aq n3 f) a01,.inr ⟨k5,8,n4,_,rfl,a01,U.ah _ _ _,?_,?_,by rw[a03],a9p,a29⟩⟩
        .rw[a4J,a03];omega
        simp_all
def a0f (b:List UInt32) (h:List UInt8) (z:b.length=8) (k x:Nat) (y:List R) (o c:Nat) (d:List R) (p:Nat) (a:U)
  (C:a k=some (.cells (wl b++y))) (D:a o=some (.cells d)) (E:c+64<=d.length) (F: ∀r,r<64->aY false 1 (d.drop (c+r))= .v (.int .u8 (h.getD r 0).toNat)) (G:a p=some (.cells (wl mW))):
  AC Tryz.prog 273 [.al k 8 x 1,.bw o c 64 e 1,.al p 64 64 1] a λL P=>ar a P 1 (wl (comp b h)) L:=
 a0e b mW h z rfl k x y o c d p a C D E F G
end Go.Proofs.YtlgnfcaolejgeaaGreat
namespace Go.bA
open Go
variable{n b3:R}{f t e7:U}{e i v M c0 j0:Nat}
theorem yA {h:Nat×List R} (k:f.sub t) (o:bM f e n=some h):bM t e n=some h:=by
 have p: ∀b c,f.read b=some c->t.read b=some c:=by
  intro b c a;unfold U.read at a|-;cases d:f b with
  |none=>rw[d]at a;cases a
  |some r=>rw[k _ _ d];rw[d]at a;exact a
 unfold bM at o|-;grind
end Go.bA
namespace Go.Proofs.YtlgnfcaolejgeaaGreat
open Go Go.bA
def kM (a:List UInt8):List UInt8:=a++128::List.replicate (ep a.length) 0++cJ (8*a.length)
def yB (a:List UInt8):(kM a).length=a.length+9+ep a.length:=by simp[kM,cJ];omega
def a0g (a:List UInt8):(kM a).length%64=0:=by rw[yB];unfold ep;omega
theorem a0h (a:List UInt8):fk a=er (blocks ((kM a).length/64) gp (kM a)):=by
 have c:=yB a;have d:ep a.length<64:=by unfold ep;omega
 have b:kM a=a++(128::List.replicate (ep a.length) 0++cJ (8*a.length)):=by simp[kM]
 have h:jd a.length (a.drop (64*(a.length/64)))=(kM a).drop (64*(a.length/64)):=by rw[b,a6i a9p];simp[jd]
 have k:(kM a).length/64=a.length/64+((kM a).drop (64*(a.length/64))).length/64:=by rw[a4V];omega
 grind[fk,CA,CB]
theorem EX (b a:Nat) (d:a<8):(cJ b).take a++ [UInt8.ofNat (b>>>(56 - 8*a)%256)]=(cJ b).take (a+1):=by
 have c:UInt8.ofNat (b>>>(56 - 8*a)%256)=UInt8.ofNat (b>>>(56 - 8*a)):=by grind[UInt8.toNat_inj,UInt8.toNat_ofNat']
 rw[c];rcases(by omega:a=0\/a=1\/a=2\/a=3\/a=4\/a=5\/a=6\/a=7)with rfl|rfl|rfl|rfl|rfl|rfl|rfl|rfl<;>rfl
def yl (a:UInt32) (b:Nat):UInt8.ofNat ((a>>>UInt32.ofNat b).toNat%256)=(a>>>UInt32.ofNat b).toUInt8:=by apply a5G.1;rw[a5L];simp
theorem a0i (c:List UInt32) (k:c.length=8) (d:Nat) (p:d<32):(er c).take d++ [UInt8.ofNat ((c.getD (d/4) 0>>>UInt32.ofNat (24 - 8*(d%4))).toNat%256)]=(er c).take (d+1):=by
 rw[yl];have o: ∀h:UInt32,(h>>>UInt32.ofNat 0).toUInt8=h.toUInt8:=by intro h;simp
 have r: ∀a:Nat,a<8-> ∀b:Nat,b<4->(er c).take (4*a+b)++ [(c.getD a 0>>>UInt32.ofNat (24 - 8*b)).toUInt8]=(er c).take (4*a+b+1):=by
  match c,k with
  | [x,y,z,C,D,E,F,G],_=>
   intro a L b P;rcases(by omega:a=0\/a=1\/a=2\/a=3\/a=4\/a=5\/a=6\/a=7)with rfl|rfl|rfl|rfl|rfl|rfl|rfl|rfl<;>
    rcases(by omega:b=0\/b=1\/b=2\/b=3)with rfl|rfl|rfl|rfl<;>first|rfl|(simp only[a5q,a5x,Nat.reduceMul,Nat.reduceSub,o];rfl)
 grind
end Go.Proofs.YtlgnfcaolejgeaaGreat
