import Derived.Test.YtlgnfcaolejgeaaGreatME
import Derived.Test.YtlgnfcaolejgeaaGreatMC
import Derived.Test.YtlgnfcaolejgeaaGreatMD
import Derived.Test.YtlgnfcaolejgeaaGreatMB
import Derived.Shelf.SlSortCmp.NoneTotal
import Derived.Shelf.SlLaysF
import Derived.Test.YtlgnfcaolejgeaaGreatProg
set_option linter.all false
set_option maxRecDepth 100000
namespace Go.bB
open Go
theorem Z1 (a:Nat) (c:a<18446744073709551616):a^^^9223372036854775808=(a+9223372036854775808)%18446744073709551616:=by
 have h:(9223372036854775808:Nat)=2^63:=a9v;have d:(18446744073709551616:Nat)=2^64:=a9v;rw[d]at c;rw[h,d];apply a7q;intro b;rw[a8l,a9i,a8L,a8D];by_cases h1:b<63
 .rw[a8w h1];grind
 .by_cases k:b=63;grind
  .have o: ¬b<64:=a9r;have p:a.testBit b=false:=a6T (a5Z c (a6y a9r a9r));grind
end Go.bB
namespace Go.Proofs.YtlgnfcaolejgeaaGreat
open Go Go.bB
theorem DZ (a:Int):(cf a:Int)=(a+9223372036854775808)%18446744073709551616:=by grind[BitVec.ofInt,BitVec.toNat_ofInt,cf,BitVec.toNat_xor,Z1]
def Z2 (a:Int):IntKind.u64.wrap (IntKind.u64.wrap a+9223372036854775808)=(cf a:Int):=by rw[DZ,ky,ky];omega
variable{b1:Int}
theorem E0 (a: -9223372036854775808<=b1) (b:b1<9223372036854775808):(cf b1:Int)=b1+9223372036854775808:=by rw[DZ];omega
variable{b0:Type}
theorem uz {a b:List b0}{d:b0} (h:a.length=b.length) (k: ∀c<a.length,a.getD c d=b.getD c d):a=b:=
 a8G h λc o p=>by grind
theorem np (a c:List Int) (o p:Own) (h:U) (D:a.length<=1000000000000):
  AC Tryz.prog 14 [.J (ad a) o,.J (ad c) p] h λr x=>x=h/\r= .v (.bool (decide (a=c))):=by
 have E:=bI (q:=a);have F:=bI (q:=c);have G:= @dP a;have L:= @dP c;refine aO hm JZ ?_;refine aH (λy=> ?_) λy=> ?_
 .exact aR (by grind)
 refine gP [0,1] (λb:Nat=> [(5,.v (.int .i64 b))]) (λb=>b<=a.length/\ ∀d<b,a.getD d 0=c.getD d 0) (λb=>a.length - b) 0 ⟨a9r,λd z=>by omega⟩ aU ?_;rintro b ⟨P,k⟩ S;refine aa ?_;refine aH (λC=> ?_) λC=> ?_;rotate_left
 .exact aR (by simp[uz (a:=a) (b:=c) (d:=0) a9r (λd z=>k d a9r)])
 refine aH (λc2=> ?_) λc2=> ?_
 .exact aR (by grind)
 .exact⟨b+1,⟨a9r,upto k c2⟩,rfl,a9r⟩
variable{g A e1:List R}{e i v M c0 j0:Nat}
def az.at {b:b0->R->Prop}{a:List b0} (d:b0) (h:az b a g) (k:e<a.length): ∃c,g[e]? =some c/\b (a.getD e d) c:=h.get (by simp[List.getD,k])
theorem Z3 (b d:List (List Int)) (k o:List R) (z C:Own) (p:U) (r:az isRow b k) (x:az isRow d o) (P:b.length<=1000000000000) (D: ∀h∈b,h.length<=1000000000000):
  AC Tryz.prog 28 [.J k z,.J o C] p λh E=>E=p/\h= .v (.bool (decide (b=d))):=by
 have S:=r.len;have T:=x.len;refine aO hm Kl ?_;refine aH (λF=> ?_) λF=> ?_
 .exact aR (by grind)
 refine gP [0,1] (λa:Nat=> [(5,.v (.int .i64 a))]) (λa=>a<=b.length/\ ∀c<a,b.getD c []=d.getD c []) (λa=>b.length - a) 0 ⟨a9r,λc G=>by omega⟩ aU ?_;rintro a ⟨V,y⟩ W;refine aa ?_;refine aH (λL=> ?_) λL=> ?_;rotate_left
 .exact aR (by simp[uz (a:=b) (b:=d) (d:= []) a9r (λc G=>y c a9r)])
 obtain⟨_,e,_,rfl⟩:=r.at [] (e:=a) a9r;obtain⟨_,f,_,rfl⟩:=x.at [] (e:=a) a9r;refine lY (np _ _ _ _ _ (D (b.getD a []) (by grind))) ?_;refine aH (λc2=> ?_) λc2=> ?_
 .exact aR (by grind)
 .exact⟨a+1,⟨a9r,upto y c2⟩,rfl,a9r⟩
def ig (a:Bool):UInt8:=if a=true then 1 else 0
def sN (a:List Int):List UInt8:=(a6.cc (a.map cf) 64).map ig
theorem nq (a:List Int) (b:Nat):(a6.cc (a.map cf) b).length=a.length*b:=by rw[a6.Dl,a4V]
theorem Z4 (c:List Int) (P:Own) (o:U) (n:c.length<=1000):
  AC Tryz.prog 345 [.J (ad c) P] o λS k=> ∃C,bj o k 1 ((sN c).map ak) C/\S= .J ((sN c).map ak) C:=by
 have q:=bI (q:=c);have D:= @dP c;have T:(sN c).length=c.length*64:=by rw[sN,a4V,nq]
 refine aO hm St ?_;refine cj [0] (λa:Nat×List UInt8×Own=> [(3,.J (a.2.1.map ak) a.2.2),(4,.v (.int .i64 ((a.1:Int) - 1)))]) (λa k=>a.1<=64/\a.2.1++(a6.cc (c.map cf) a.1).map ig=sN c/\bj o k 1 (a.2.1.map ak) a.2.2) (λa=>a.1) (64,[],.nil) ⟨⟨a9v,rfl,bj.nil U.a1⟩,aU⟩ ?_;rintro⟨x,E,V⟩ s ⟨y,p,h⟩ W
 dsimp only at y p h|-
 refine aa ?_;refine aH (λF=> ?_) λF=> ?_
 .obtain⟨b,rfl⟩: ∃b,x=b+1:=⟨x - 1,a9r⟩;have e:=congrArg List.length p;rw[a4L,T]at e;rw[a6.cc,a5P,<-a4W]at p;have f:((b+1:Nat):Int) - 1=(b:Int):=a9r;have t:IntKind.u64.wrap (b:Int)=(b:Int):=wrap_u64 a9r a9r;rw[f]at F|-;refine cj [0,4] (λa:Nat×List UInt8×Own=> [(3,.J (a.2.1.map ak) a.2.2),(5,.v (.int .i64 (a.1:Int)))]) (λa k=>a.1<=c.length/\E++((c.take a.1).map λg=>ig ((cf g).testBit b))=a.2.1/\bj o k 1 (a.2.1.map ak) a.2.2) (λa=>c.length - a.1) (0,E,V) ⟨⟨a9s,a9s,h⟩,aU⟩ ?_;clear h;rintro⟨r,G,i⟩ u ⟨j,z,h⟩ W
  dsimp only at j z h|-
  have v:G.length<=65000:=by grind
  refine aa ?_;refine aH (λl=> ?_) λl=> ?_
  .have w:=eU (a:=c) (b:=0) (e:=r) a9r;have A:=D (r:=r) a9r;clear D;generalize c.getD r 0=d at*;have B:bo .shr (.int .u64 (cf d:Int)) (.int .u64 (b:Int))=some (.int .u64 ((cf d>>>b:Nat):Int)):=by rw[s4 _ _ _ a9r a9r];simp
   have H:bo .rem (.int .u64 ((cf d>>>b:Nat):Int)) (.int .u64 2)=some (.int .u64 (((cf d>>>b)%2:Nat):Int)):=by simp only[bo,eL,gk,a5S,if_false,if_true];rfl
   have I:IntKind.u8.wrap (((cf d>>>b)%2:Nat):Int)=((ig ((cf d).testBit b)).toNat:Int):=by
    rw[wrap_u8 a9r a9r];have:(cf d).testBit b=decide ((cf d>>>b)%2=1):=by simp
    rw[this,ig];rcases Nat.mod_two_eq_zero_or_one (cf d>>>b)with L|L<;>simp[L]
   have K:=Z2 d;refine Xd h λM m N y _=> ?_;exact⟨(r+1,_,m),⟨by simp only;omega,by grind,y⟩,⟨rfl,rfl⟩,by simp only;omega⟩
  .rw[a4K a9r]at z;refine⟨(b,G,i),⟨by simp only;omega,by simp only[<-z,<-p,a6.fN,a6L];rfl,h⟩,⟨rfl,rfl⟩,a9s⟩
 .obtain rfl:x=0:=a9r;grind[a6.cc,U.a1]
def Z5 (b:Nat) (c:List Bool) (a:Nat) (d:a<b):a6.iH (b - a) (c.drop (8*a))=UInt8.ofNat (a6.val ((c.drop (8*a)).take 8))::a6.iH (b -(a+1)) (c.drop (8*(a+1))):=by rw[show b - a=(b -(a+1))+1 by omega,a6.iH,a5D,show 8*(a+1)=8*a+8 by omega]
theorem xV: ∀(b:List Bool) (a:Bool),a6.val (b++ [a])=2*a6.val b+(if a=true then 1 else 0)
 | [],a=>by simp[a6.val]
 |c::b,a=>by
  simp only[a5K,a6.val,a4L,a4O,a4T,a5g,xV b a,a8F];split<;>omega
theorem Z6 (b:List Bool) (e:Nat) (d:b.length=8*e) (l:Own) (c:U) (a:e<=100000):
  AC Tryz.prog 344 [.J ((b.map ig).map ak) l] c λf j=> ∃a,bj c j 1 ((a6.iH e b).map ak) a/\f= .J ((a6.iH e b).map ak) a:=by
 refine bf hm Sr a9s ?_;have r:((b.map ig).map ak).length=8*e:=by simp[d]
 simp -dsimp -implicitDefEqProofs (disch:=first|omega|assumption|(simp only[aE,Nat.reduceAdd];try omega)) only[go_sem,simprocAttr,-List.reduceReplicate];refine cv (λd j=> ∃(a:Nat) (i:List UInt8) (k:Own),a<=e/\i++a6.iH (e - a) (b.drop (8*a))=a6.iH e b/\i.length=a/\bj c j 1 (i.map ak) k/\d 0= .J ((b.map ig).map ak) l/\d 3= .J (i.map ak) k/\d 4= .v (.int .i64 ((8*a:Nat):Int)))
  (λd _=>match d 4 with| .v (.int _ m)=>8*e - m.toNat| _=>0) ⟨0,[],.nil,a9r,rfl,rfl,bj.nil U.a1,?_⟩ ?_
 .simp -dsimp -implicitDefEqProofs (disch:=first|omega|assumption|(simp only[aE,Nat.reduceAdd];try omega)) only[go_sem,simprocAttr,-List.reduceReplicate]
 rintro d n ⟨a,i,k,c,o,c,s,g,h,f⟩;by_cases t:((8*a:Nat):Int)+7<((8*e:Nat):Int)
 .rw[Z5 e b a a9r]at o;simp -dsimp -implicitDefEqProofs (disch:=first|omega|assumption|(simp only[aE,Nat.reduceAdd];try omega)) only[go_sem,simprocAttr,-List.reduceReplicate,g,h,f,r,t];refine cv (λd j=> ∃c:Nat,c<=8/\j=n/\d 0= .J ((b.map ig).map ak) l/\d 3= .J (i.map ak) k/\d 4= .v (.int .i64 ((8*a:Nat):Int))/\d 5= .v (.int .u8 (a6.val ((b.drop (8*a)).take c):Int))/\d 6= .v (.int .i64 c))
   (λd _=>match d 6 with| .v (.int _ m)=>8 - m.toNat| _=>0) ⟨0,a9r,rfl,?_⟩ ?_
  .simp -dsimp -implicitDefEqProofs (disch:=first|omega|assumption|(simp only[aE,Nat.reduceAdd];try omega)) only[go_sem,simprocAttr,-List.reduceReplicate,g,h,f];rfl
  have w:=f;clear g h f;rintro d x ⟨c,d,rfl,g,h,f,m,n⟩;by_cases u:(c:Int)<8
  .have j:b[8*a+c]? =some b[8*a+c]:=a4J a9r;have v:(b.drop (8*a)).take (c+1)=(b.drop (8*a)).take c++ [b[8*a+c]]:=by rw[a5Y,a7Q,j];rfl
   generalize b[8*a+c]'a9r=d at j v;have p:=a6.ni ((b.drop (8*a)).take (c+1));have q:a6.val ((b.drop (8*a)).take (c+1))<256:=a5Z p (by
    have:((b.drop (8*a)).take (c+1)).length<=8:=by rw[a4N];omega
    exact a6y a9r this)
   rw[v,xV]at q;have v:cS 1 (.J ((b.map ig).map ak) l) (.v (.int .i64 (((8*a:Nat):Int)+(c:Int))))=some (.bW [.v (.int .u8 ((ig d).toNat:Int))]):=by rw[show((8*a:Nat):Int)+(c:Int)=((8*a+c:Nat):Int) by omega,hn a9r];rw[a5i,a5l,a5l,j];rfl
   have l:dr false 1 x (.bW [.v (.int .u8 ((ig d).toNat:Int))])=some (.v (.int .u8 ((ig d).toNat:Int))):=rfl;have j:((ig d).toNat:Int)=if d=true then 1 else 0:=by cases d<;>rfl
   generalize j:a6.val ((b.drop (8*a)).take c)=j at*;have x:(if d=true then 1 else 0:Nat)<=1:=by split<;>omega
   have x:IntKind.u8.wrap (2*(j:Int))=((2*j:Nat):Int):=by rw[wrap_u8 a9r a9r];omega
   have y:IntKind.u8.wrap (((2*j:Nat):Int)+((ig d).toNat:Int))=((2*j+(if d=true then 1 else 0):Nat):Int):=by grind[wrap_u8]
   have z:bo .mul (.int .u8 2) (.int .u8 (j:Int))=some (.int .u8 ((2*j:Nat):Int)):=by rw[<-x];simp[bo,eL,gk]
   have x:bo .add (.int .u8 ((2*j:Nat):Int)) (.int .u8 ((ig d).toNat:Int))=some (.int .u8 ((2*j+(if d=true then 1 else 0):Nat):Int)):=by rw[<-y];simp[bo,eL,gk]
   simp -dsimp -implicitDefEqProofs (disch:=first|omega|assumption|(simp only[aE,Nat.reduceAdd];try omega)) only[go_sem,simprocAttr,-List.reduceReplicate,g,h,f,m,n,u,v,l,z,x];grind[xV]
  .obtain rfl:c=8:=a9r;simp -dsimp -implicitDefEqProofs (disch:=first|omega|assumption|(simp only[aE,Nat.reduceAdd];try omega)) only[go_sem,simprocAttr,-List.reduceReplicate,g,h,f,m,n,u];refine cJ U.a1 (by simp[aN,R.cells]) λc c c=> ?_;simp -dsimp -implicitDefEqProofs (disch:=first|omega|assumption|(simp only[aE,Nat.reduceAdd];try omega)) only[go_sem,simprocAttr,-List.reduceReplicate,g,h,f,m,n];refine dq (s.mono c.sub) (by intro c c;obtain⟨d,_,rfl⟩:=a5f.1 c;rfl) (by simp[aN,R.cells]) (by grind) (by grind) λc c c=> ?_;have p:=a6.ni ((b.drop (8*a)).take 8);have q:a6.val ((b.drop (8*a)).take 8)<256:=a5Z p (by
    grind)
   have d:R.v (.int .u8 (a6.val ((b.drop (8*a)).take 8):Int))=ak (UInt8.ofNat (a6.val ((b.drop (8*a)).take 8))):=by show _=R.v (.int .u8 ((UInt8.ofNat (a6.val ((b.drop (8*a)).take 8))).toNat:Int));rw[a5N,a6x q]
   have j:i.map ak++ [R.v (.int .u8 (a6.val ((b.drop (8*a)).take 8):Int))]=(i++ [UInt8.ofNat (a6.val ((b.drop (8*a)).take 8))]).map ak:=by rw[d,a5P];rfl
   rw[j]at c|-;simp -dsimp -implicitDefEqProofs (disch:=first|omega|assumption|(simp only[aE,Nat.reduceAdd];try omega)) only[go_sem,simprocAttr,-List.reduceReplicate,g,h,f,m,n,w];grind
 .obtain rfl:a=e:=a9r;rw[a7j,a6.iH,a5T]at o;subst o;simp -dsimp -implicitDefEqProofs (disch:=first|omega|assumption|(simp only[aE,Nat.reduceAdd];try omega)) only[go_sem,simprocAttr,-List.reduceReplicate,g,h,f,r,t];exact⟨_,U.a1,k,s,rfl⟩
def codeF (a:List Int):List UInt8:=a6.iH (8*a.length) (a6.cc (a.map cf) 64)
def uA (a:List Int):(codeF a).length=8*a.length:=a6.Dr _ _
def E1 (a:List Int) (c:Own) (b:U) (d:a.length<=1000):
  AC Tryz.prog 315 [.J (ad a) c] b λh k=>b.sub k/\ ∃o,h= .J ((codeF a).map ak) o:=by
 refine bf hm RU a9s ?_;refine cp ?_;refine ai (Z4 a c b d) ?_;rintro _ p ⟨r,x,rfl⟩;refine cp ?_;refine ai (Z6 (a6.cc (a.map cf) 64) (8*a.length) (by rw[nq];omega) r p a9r) ?_;rintro _ C ⟨y,z,rfl⟩;refine cp ?_;exact⟨_,U.a1,U.aq x.sub z.sub,y,rfl⟩
def kJ (a b:List Int):Bool:=if a.length=b.length then Op.bytesLess (codeF a) (codeF b)else decide (a.length<b.length)
def Z7 (a b:List UInt8):jb .lss (bd a) (bd b)=some (.v (.bool (Op.bytesLess a b))):=by show(bo .lss (.string ⟨a.toArray⟩) (.string ⟨b.toArray⟩)).map R.v= _;simp only[bo,q0,toList_mk,a5O]
theorem Z8 (a b:List Int) (d h:Own) (k:U):
  AC Tryz.prog 314 [.J ((codeF a).map ak) d,.J ((codeF b).map ak) h] k λy z=>z=k/\y= .v (.bool (kJ a b)):=by
 refine bf hm RS a9s ?_;have o:((codeF a).map ak).length=8*a.length:=by rw[a4V,uA]
 have p:((codeF b).map ak).length=8*b.length:=by rw[a4V,uA]
 have r:mT (.J ((codeF a).map ak) d)=some (bd (codeF a)):=p6;have x:mT (.J ((codeF b).map ak) h)=some (bd (codeF b)):=p6;unfold kJ;by_cases C:a.length=b.length
 .have c:((8*a.length:Nat):Int)=((8*b.length:Nat):Int):=a9r;refine ax (bD @o @p @c @r @x @Z7) ?_;exact⟨_,U.a1,rfl,by rw[if_pos C]⟩
 .have c: ¬((8*a.length:Nat):Int)=((8*b.length:Nat):Int):=a9r;refine ax (bp @o @p @c @r @x) ?_;refine⟨_,U.a1,rfl,?_⟩;simp_all
theorem E2 (a b:List Int) (d h:Own) (c:U) (o:a.length<=1000) (p:b.length<=1000):
  AC Tryz.prog 251 [.J (ad a) d,.J (ad b) h] c λr x=>c.sub x/\r= .v (.bool (kJ a b)):=by
 refine bf hm QB a9s ?_;refine cp ?_;refine ai (E1 a d c o) ?_;rintro _ y ⟨D,z,rfl⟩;refine cp ?_;refine ai (E1 b h y p) ?_;rintro _ k ⟨E,C,rfl⟩;refine cp ?_;refine ai (Z8 a b z C k) ?_;rintro _ k ⟨rfl,rfl⟩;refine cp ?_;grind
theorem E3: ∀ {a b:List UInt8},a.length=b.length->Op.bytesLess a b=a6.sH a b
 | [],[],_=>rfl
 |h::a,k::b,c=>by
  have d:a.length=b.length:=by simpa using c
  simp only[Op.bytesLess,a6.sH,E3 d];grind
theorem E4 (d h:List Int): ∀(b:List (Int×Int)) (a:(Int×Int)×Nat),(b.map λc=>(cf c.1,cf c.2)).foldl a6.pick ((cf a.1.1,cf a.1.2),a.2)=((cf (b.foldl gR a).1.1,cf (b.foldl gR a).1.2),(b.foldl gR a).2)
 | [],a=>rfl
 |c::b,a=>by
  simp only[a5j,a5Q];rw[<-E4 d h b];grind[a6.pick,gR]
structure bO (d:Nat) (p:List Int):Prop where
 len:p.length=d
 jV:cL p
def E5 (a b:List Int):(a.map cf).zip (b.map cf)=(a.zip b).map λc=>(cf c.1,cf c.2):=by rw[List.zip_map];rfl
theorem Z9 {b:(Int×Int)×Nat}: ∀(a:List (Int×Int)),(a.foldl gR b).1=b.1\/(a.foldl gR b).1∈a:=by
 intro a
 induction a generalizing b with
 |nil=>exact .inl rfl
 |cons d a ih=>
  rw[a5Q];rcases ih (b:=gR b d)with c|c
  .rw[c];unfold gR;split
   .exact .inr a9s
   .exact .inl rfl
  .exact .inr (by simp[c])
variable{q b6:List Int}
theorem qR (D:1<=e) (E:e<=8) (h:bO e q) (k:bO e b6):bz q b6=a6.lexB (a6.cc (q.map cf) 64) (a6.cc (b6.map cf) 64):=by
 unfold bz;have F:=h.len;have G:=k.len;rw[if_pos ⟨a9r,a9r,a9r⟩];have y:q.zip b6≠ []:=by intro d;have:=congrArg List.length d;simp_all
 obtain⟨a,b,c⟩: ∃a b,q.zip b6=a::b:=by
  cases z:q.zip b6 with
  |nil=>exact absurd z y
  |cons a b=>exact⟨a,b,rfl⟩
 have C:(q.zip b6).headD (0,0)=a:=by rw[c];rfl
 rw[C];have o:=a6.Dq 64 (q.map cf) (b6.map cf) a9t (λa c=>by
  obtain⟨L,P⟩:=a;have hm:=List.of_mem_zip c;obtain⟨p,_,rfl⟩:=a5f.1 hm.1;obtain⟨r,_,rfl⟩:=a5f.1 hm.2;exact a7z (n:=64) (ou _) (ou _)) (cf a.1,cf a.2) (by rw[E5,c];simp)
 rw[E5,E4 q b6 (q.zip b6) (a,0)]at o;rw[<-Bool.coe_iff_coe,decide_eq_true_eq];rw[<-o];simp only;have x:((q.zip b6).foldl gR (a,0)).1∈q.zip b6:=by grind[Z9]
 generalize ((q.zip b6).foldl gR (a,0)).1=d at x;obtain⟨p,r⟩:=d;have hm:=List.of_mem_zip x;have S:=h.jV p hm.1;have T:=k.jV r hm.2;grind[E0]
theorem E6 (c:1<=e) (d:e<=8) (a:bO e q) (b:bO e b6):kJ q b6=bz q b6:=by have h:=a.len;have k:=b.len;rw[qR c d a b];unfold kJ;rw[if_pos a9r,E3 (by rw[uA,uA];omega)];grind[codeF,a6.Ds,nq]
def E7: ∀(c:List Int),∀b∈c.zip c,b.1=b.2
 | [],b,a=>by cases a
 |d::c,b,a=>by
  rw[List.zip_cons_cons]at a;rcases a5k.1 a with rfl|a
  .rfl
  .exact E7 c b a
theorem sO (a:List Int):bz a a=false:=by
 unfold bz;split
 .have: ∀(c:List (Int×Int)) (d:(Int×Int)×Nat),(∀b∈c,b.1=b.2)->d.1.1=d.1.2->(c.foldl gR d).1.1=(c.foldl gR d).1.2:=by
   intro c
   induction c with
   |nil=>intro d _ h;exact h
   |cons b c ih=>grind[gR]
  have k: ∀b∈a.zip a,b.1=b.2:=E7 a;have o:((a.zip a).headD (0,0)).1=((a.zip a).headD (0,0)).2:=by
   cases h:a.zip a with
   |nil=>rfl
   |cons b c=>exact k b (by rw[h];simp)
  grind
 .rfl
theorem gz (d:1<=e) (h:e<=8):a6.Ord bz (bO e) where
 jg:=sO
 trans p r L b a x h1 k:=by rw[qR d h b a]at h1;rw[qR d h a x]at k;rw[qR d h b x];exact a6.Yr (by rw[nq,nq,b.len,a.len]) (by rw[nq,nq,a.len,x.len]) h1 k
 total p r b a h1 k:=by
  rw[qR d h b a]at h1;rw[qR d h a b]at k;have:=a6.Ys (by rw[nq,nq,b.len,a.len]) h1 k;have F:=a6.Yp (c:=p.map cf) (d:=r.map cf) (by simp[b.len,a.len]) 64 this (λy z=>by obtain⟨o,_,rfl⟩:=a5f.1 z;exact ou o) (λy z=>by obtain⟨o,_,rfl⟩:=a5f.1 z;exact ou o);refine a8A λC=> ?_;have c:=congrArg (λG=>G[C]?) F;simp only[a5l]at c;cases E:p[C]? with
  |none=>grind
  |some y=>rw[E]at c;cases D:r[C]? with
   |none=>rw[D]at c;cases c
   |some o=>rw[D]at c;simp only[a5O,a4U]at c;have P:=b.jV y (a4Q E);have S:=a.jV o (a4Q D);grind[E0]
variable{O:List (List Int)}
def iL (a:az isRow O g):aN 1 g:=a.cells λ_ _=>isRow.cells
theorem E8 {a:List Int->List Int->Bool} (d: ∀b<e,a (O.getD b []) q=true) (c:e<=O.length) (h:e<O.length->a (O.getD e []) q=false):a6.dR a O q=O.take e++ [q]++O.drop e:=by
 rw[a4W];change _=O.take e++q::O.drop e
 induction O generalizing e with
 |nil=>simp at c;subst c;rfl
 |cons k O ih=>
  cases e with
  |zero=>grind[a6.dR,List.takeWhile_cons,List.dropWhile_cons]
  |succ e=>have p:a k q=true:=d 0 a9r;have:=ih (λb r=>d (b+1) a9r) (by simpa using c) (λo=>h (by simpa using o));simp_all [a6.dR,a5B,a6f,if_true,a5K,a6E,a6e]
theorem Za (b:List (List Int)) (L:List R) (W o:Own) (k:List Int) (y:U) (h:az isRow b L) (t:b.length<=1000) (e: ∀z∈b,z.length<=1000) (f:k.length<=1000):
  AC Tryz.prog 166 [.J L W,.J (ad k) o] y λz p=>y.sub p/\ ∃P C,z= .J P C/\az isRow (a6.dR kJ b k) P:=by
 have u:=h.len;have v:=iL h;refine aO hm Oa ?_;refine cj [0,1] (λa:Nat×List R×Own=> [(5,.J a.2.1 a.2.2),(6,.v (.int .i64 (a.1:Int)))]) (λa p=>a.1<=b.length/\(∀S<a.1,kJ (b.getD S []) k=true)/\az isRow (b.take a.1) a.2.1/\bj y p 1 a.2.1 a.2.2) (λa=>b.length - a.1) (0,[],.nil) ⟨⟨a9s,λS w=>by omega,trivial,bj.nil U.a1⟩,aU⟩ ?_;rintro⟨d,A,on⟩ g ⟨D,r,c,x⟩ B
 dsimp only at D r c x|-
 have i:=c.len;rw[a4N]at i;refine aa ?_;refine aH (λj=> ?_) λj=> ?_
 .obtain⟨_,H,T,rfl⟩:=h.at [] (e:=d) a9r;have l:=eU (a:=b) (b:= []) (e:=d) a9r;refine cl (E2 (b.getD d []) k T o g (e _ (by grind)) f) ?_;rintro _ I ⟨V,rfl⟩;refine aa ?_;refine aH (λc2=> ?_) λc2=> ?_
  .refine o8 (x.mono V) (iL c) λ_ C p m _=> ?_;exact⟨(d+1,_,C),⟨by simp only;omega,upto r c2,by simp only[l];exact c.snoc ⟨T,rfl⟩,m⟩,⟨rfl,rfl⟩,by simp only;omega⟩
  .rw[E8 r D λ_=>c2];refine o8 (x.mono V) (iL c) λ_ n q E _=> ?_;refine kA E (Cs (iL c) rfl) (iL (h.drop d)) λF s G _=> ?_;exact⟨G.sub,_,F,rfl,(c.snoc ⟨o,rfl⟩).append (h.drop d)⟩
 .rw[E8 r D λ_=>by omega];refine o8 x (iL c) λ_ n q E _=> ?_;refine kA E (Cs (iL c) rfl) (iL (h.drop d)) λF s G _=> ?_;exact⟨G.sub,_,F,rfl,(c.snoc ⟨o,rfl⟩).append (h.drop d)⟩
def hg (a:Nat):List Nat:=(List.range (a6.bV a)).map λb=>a/a6.bV a+if b<a%a6.bV a then 1 else 0
def iM (a:List Nat):List R:=a.map λ(b:Nat)=>R.v (.int .i64 (b:Int))
def xW {a:Nat}:a6.bV a<=a:=by unfold a6.bV;omega
def uB {a:List Nat}:(iM a).length=a.length:=by simp[iM]
def E9 {a:List Nat}:aN 1 (iM a):=λc b=>by obtain⟨_,_,rfl⟩:=a5f.1 b;rfl
def uC {a:Nat}:(hg a).length=a6.bV a:=by simp[hg]
def xX {a b:Nat} (c:b<a6.bV a):(hg a).getD b 0=a/a6.bV a+if b<a%a6.bV a then 1 else 0:=by simp[hg,List.getD,c]
def Ea (a:Nat) (g:a<=1000) (o:U):
  AC Tryz.prog 253 [.v (.int .i64 (a:Int))] o λG d=>o.sub d/\ ∃L,G= .J (iM (hg a)) L:=by
 have P:(a:Int).tdiv 4=((a/4:Nat):Int):=rfl;have x:a6.bV a=if 4*(a/4)<a then a/4+1 else a/4:=by unfold a6.bV;split<;>omega
 refine aO hm QF ?_;refine o6 [0] (λ_:Unit=> [(3,.v (.int .i64 (a6.bV a:Int)))]) (λ_ d=>d=o) (λh=> ?_) (λh=> ?_) ?_
 .have h:=of_decide_eq_true h;rw[if_pos a9r]at x;have b:((a/4:Nat):Int)+1=(a6.bV a:Int):=a9r;exact aU
 .have h:=of_decide_eq_false h;rw[if_neg a9r]at x;have b:((a/4:Nat):Int)=(a6.bV a:Int):=a9r;exact aU
 rintro _ o rfl S;have i:iM []= []:=rfl;clear x P;have j:= @xW a;have T:= @uC a;have E:= @xX a;refine aa ?_;refine cj [0,3] (λc:Nat×Own=> [(4,.J (iM ((hg a).take c.1)) c.2),(5,.v (.int .i64 (c.1:Int)))]) (λc d=>c.1<=a6.bV a/\bj o d 1 (iM ((hg a).take c.1)) c.2) (λc=>a6.bV a - c.1) (0,.nil) ⟨⟨a9s,bj.nil U.a1⟩,aU⟩ ?_;rintro⟨k,V⟩ l ⟨W,p⟩ S
 dsimp only at W p|-
 have m:=a7N a (a6.bV a);have n:(a:Int).tdiv (a6.bV a:Int)=((a/a6.bV a:Nat):Int):=rfl;have q:(a:Int).tmod (a6.bV a:Int)=((a%a6.bV a:Nat):Int):=rfl;refine aa ?_;refine aH (λh=> ?_) λh=> ?_
 .have F:=E (k:=k) a9r;have y:=eU (a:=hg a) (b:=0) (e:=k) a9r;rw[F]at y;have z: ∀r:Nat,(if k<a%a6.bV a then 1 else 0)=r->iM ((hg a).take k)++ [R.v (.int .i64 ((a/a6.bV a+r:Nat):Int))]=iM ((hg a).take (k+1)):=λr b=>by
   rw[y,b,iM,iM,a5P];rfl
  have e:=z 0;have f:=z 1;clear E F y z T;generalize a/a6.bV a=r at*;generalize a%a6.bV a=s at*;generalize hg a=t at*;refine aH (λc2=> ?_) λc2=> ?_
  .have b:=f (if_pos a9r);refine o8 p E9 (λ_ C d D _=> ?_) (P:=by rw[uB,a4N];omega);exact⟨(k+1,C),⟨by simp only;omega,b▸D⟩,⟨by simp only[<-b];rfl,rfl⟩,by simp only;omega⟩
  .have b:=e (if_neg a9r);refine o8 p E9 (λ_ C d D _=> ?_) (P:=by rw[uB,a4N];omega);exact⟨(k+1,C),⟨by simp only;omega,b▸D⟩,⟨by simp only[<-b];rfl,rfl⟩,by simp only;omega⟩
 .rw[a4K a9r]at p|-;exact⟨p.sub,V,rfl⟩
def bu (c:U):(d:Nat)->a6.T d->R->Prop
 |0,a,h=> ∃b p k o,h= .ptr b 0/\c b=some (.cells [.J p k,.J [] o])/\az isRow (a6.rows a) p
 |d+1,a,h=> ∃b r k o,h= .ptr b 0/\c b=some (.cells [.J [] o,.J r k])/\az (bu c d) (a6.kids a) r/\a6.kids a≠ []/\(a6.kids a).length<=1000
def bu.fH {r x:U} (d:iA r x): ∀ {a:Nat}{b:a6.T a}{c:R},bu r a b c->bu x a b c
 |0,b,c,⟨h,y,k,eX,h1,o,p⟩=>⟨h,y,k,eX,h1,d _ _ o,p⟩
 |a+1,b,c,⟨h,z,k,eX,h1,o,p,C⟩=>⟨h,z,k,eX,h1,d _ _ o,p.mono λ_ _=>bu.fH d,C⟩
variable{f t e7:U}
def bu.mono (b:f.sub e7) {t:a6.T e}{a:R} (c:bu f e t a):bu e7 e t a:=c.fH (U.o4 b)
theorem bu.cells {d:U}{a:Nat}{h:a6.T a}{b:R} (c:bu d a h b):b.cells.length=1:=by
 cases a with
 |zero=>obtain⟨k,_,_,_,rfl,_⟩:=c;rfl
 |succ a=>obtain⟨k,_,_,_,rfl,_⟩:=c;rfl
def bu.ptr {d:U}{b:Nat}{o:a6.T b}{h:R} (k:bu d b o h): ∃a p r,h= .ptr a 0/\d a=some (.cells [p,r]):=by
 cases b with
 |zero=>obtain⟨a,_,_,_,rfl,c,_⟩:=k;exact⟨a,_,_,rfl,c⟩
 |succ b=>obtain⟨a,_,_,_,rfl,c,_⟩:=k;exact⟨a,_,_,rfl,c⟩
theorem Eb {k:Type}: ∀(a:Nat) (b:List k),a<=b.length-> ∀d∈a6.eY a b,d≠ []
 |0,b,_,d,c=>by cases c
 |a+1,b,p,d,c=>by
  have r:=a7M b.length (a+1);have hm:=a6U b.length (a9n a);have x:1<=b.length/(a+1):=(Nat.le_div_iff_mul_le (a9n a)).2 a9r;rw[a6.eY]at c;generalize b.length/(a+1)=h at*;generalize b.length%(a+1)=y at*;have z:(a+1)*h=a*h+h:=by rw[a5L];omega
  have C:a<=a*h:=a8K _ a9r;rcases a5k.1 c with rfl|c
  .intro o;have:=congrArg List.length o;grind
  .exact Eb a _ (by rw[a4X];split<;>omega) d c
def Zb (a:List b0):a6.chunks a=(List.range (a6.bV a.length)).map λb=>(a.drop (b*(a.length/a6.bV a.length)+min b (a.length%a6.bV a.length))).take (a.length/a6.bV a.length+if b<a.length%a6.bV a.length then 1 else 0):=a6.Dw _ _
def fs (a b:Nat):Nat:=b*(a/a6.bV a)+min b (a%a6.bV a)
def xY (a:i<a6.bV e):fs e (i+1)=fs e i+(hg e).getD i 0:=by rw[xX a];unfold fs;rw[a5L];split<;>omega
def Ec (a:i<=a6.bV e):fs e i<=e:=by have:=a7M e (a6.bV e);have:=a5a (e/a6.bV e) a;unfold fs;omega
def uD {a:List b0}:(a6.chunks a).length=a6.bV a.length:=nk.1
def Ed {a:List b0} (b:e<a6.bV a.length):(a6.chunks a).take (e+1)=(a6.chunks a).take e++ [(a.take (fs a.length (e+1))).drop (fs a.length e)]:=by rw[a5Y,Zb,a5l,a7c b,xY b,xX b,a6h];simp[fs]
def Ee (a:i<a6.bV e):(iM (hg e))[i]? =some (.v (.int .i64 ((hg e).getD i 0:Nat))):=by simp[iM,List.getD,uC,a]
def bu.c {a:List (a6.T e)} (b:az (bu f e) a g):aN 1 g:=b.cells λ_ _=>bu.cells
def Ef (a:List (List Int)) (o:List R) (G:Own) (p:U) (r:az isRow a o) (L:a.length<=1000):
  AC Tryz.prog 164 [.J o G] p λP d=>p.sub d/\ ∃k x,P= .J k x/\az (bu d 0) ((a6.chunks a).map a6.leaf) k:=by
 have s:=r.len;have t:=iL r;have u:=xW (a:=a.length);have v:(iM (hg a.length)).length=a6.bV a.length:=uB.trans uC;refine aO hm O6 ?_;refine cl (Ea a.length L p) ?_;rintro _ S ⟨T,w,rfl⟩;have A:fs a.length 0=0:=by simp[fs]
 refine aa ?_;refine cj [0,5] (λb:Nat×List R×Own=> [(3,.J b.2.1 b.2.2),(4,.v (.int .i64 (fs a.length b.1:Int))),(6,.v (.int .i64 (b.1:Int)))]) (λb d=>b.1<=a6.bV a.length/\az (bu d 0) (((a6.chunks a).take b.1).map a6.leaf) b.2.1/\bj S d 1 b.2.1 b.2.2) (λb=>a6.bV a.length - b.1) (0,[],.nil) ⟨⟨a9s,trivial,bj.nil U.a1⟩,aU⟩ ?_;rintro⟨c,k,V⟩ W ⟨e,h,y⟩ B
 dsimp only at e h y|-
 have f:=h.len;rw[a4V,a4N,uD]at f;refine aa ?_;refine aH (λg=> ?_) λg=> ?_
 .have H:=xY (e:=a.length) (i:=c) a9r;have I:=Ec (e:=a.length) (i:=c+1) a9r;have K:=Ee (e:=a.length) (i:=c) a9r;have i:=Ed (a:=a) (e:=c) a9r;have z:=(r.take (fs a.length (c+1))).drop (fs a.length c);generalize M:fs a.length (c+1)=C at*;generalize fs a.length c=D at*;generalize (hg a.length).getD c 0=j at*;have N:(D:Int)+(j:Int)=(C:Int):=a9r;refine si (iL z) (λE l O=> ?_) (x:=by rw[a4X,a4N];omega);refine br λF Q=> ?_;have m:=qA (f:=W) (t:=l.set F (.cells [.J ((o.take C).drop D) E,.J [] .nil]));refine o8 (y.mono m) (bu.c h) λ_ x d n q=> ?_;refine⟨(c+1,_,x),⟨by simp only;omega,?_,n⟩,⟨rfl,by simp only;congr 3;omega,rfl⟩,by simp only;omega⟩;simp only[i,a5P];exact(h.mono λ_ _=>bu.fH fY).snoc ⟨F,_,E,.nil,rfl,q _ _ (U.ah _ _ _),z⟩
 .rw[a4K (by rw[uD];omega)]at h;exact⟨_,U.a1,U.aq T y.sub,k,V,rfl,h⟩
theorem xZ (c:U) (a:List (a6.T e)) (g:List R) (d:Own) (b:U) (h:az (bu c e) a g) (j:a.length<=1000) (n:c.sub b):
  AC Tryz.prog 165 [.J g d] b λd c=>b.sub c/\ ∃f i,d= .J f i/\az (bu c (e+1)) ((a6.chunks a).map a6.node) f:=by
 have d:=h.len;have d:=bu.c h;have k:=xW (a:=a.length);have d:(iM (hg a.length)).length=a6.bV a.length:=uB.trans uC;refine aO hm O8 ?_;refine cl (Ea a.length j b) ?_;rintro _ d ⟨j,b,rfl⟩;have b:fs a.length 0=0:=by simp[fs]
 refine aa ?_;refine cj [0,5] (λb:Nat×List R×Own=> [(3,.J b.2.1 b.2.2),(4,.v (.int .i64 (fs a.length b.1:Int))),(6,.v (.int .i64 (b.1:Int)))]) (λb c=>b.1<=a6.bV a.length/\az (bu c (e+1)) (((a6.chunks a).take b.1).map a6.node) b.2.1/\bj d c 1 b.2.1 b.2.2) (λb=>a6.bV a.length - b.1) (0,[],.nil) ⟨⟨a9s,trivial,bj.nil U.a1⟩,aU⟩ ?_;rintro⟨b,f,o⟩ p ⟨l,d,e⟩ m
 dsimp only at l d e|-
 have l:=d.len;rw[a4V,a4N,uD]at l;refine aa ?_;refine aH (λl=> ?_) λl=> ?_
 .have l:=xY (e:=a.length) (i:=b) a9r;have l:=Ec (e:=a.length) (i:=b+1) a9r;have l:=Ee (e:=a.length) (i:=b) a9r;have q:=Ed (a:=a) (e:=b) a9r;have r:(a.take (fs a.length (b+1))).drop (fs a.length b)≠ []:=Eb (a6.bV a.length) a k _ (a5b (i:=b+1) (by grind[a6.chunks]));have k:=(h.take (fs a.length (b+1))).drop (fs a.length b);generalize h:fs a.length (b+1)=h at*;generalize fs a.length b=l at*;generalize (hg a.length).getD b 0=a at*;have m:(l:Int)+(a:Int)=(h:Int):=a9r;refine si (bu.c k) (λa s m=> ?_) (x:=by rw[a4X,a4N];omega);refine br λm t=> ?_;have t:=qA (f:=p) (t:=s.set m (.cells [.J [] .nil,.J ((g.take h).drop l) a]));have g:=U.aq n (U.aq j e.sub);refine o8 (e.mono t) (bu.c d) λ_ i c c g=> ?_;refine⟨(b+1,_,i),⟨by simp only;omega,?_,c⟩,⟨rfl,by simp only;congr 3;omega,rfl⟩,by simp only;omega⟩;simp only[q,a5P];exact(d.mono λ_ _=>bu.fH fY).snoc ⟨m,_,a,.nil,rfl,g _ _ (U.ah _ _ _),k.mono λ_ _=>bu.fH fY,r,by simp[a6.fh];omega⟩
 .rw[a4K (by rw[uD];omega)]at d;exact⟨_,U.a1,U.aq j e.sub,f,o,rfl,d⟩
end Go.Proofs.YtlgnfcaolejgeaaGreat
namespace Go.a6
variable {lt:Row->Row->Bool}{ok:Row->Prop}
variable{e i v M c0 j0:Nat}{b0:Type}
def qS {a:List b0}{b:b0} (c:a[e]? =some b):a=a.take e++b::a.drop (e+1):=by obtain⟨d,rfl⟩:=a4R.1 c;simp
variable{h2:Row}
def uE (y:Ord lt ok) (z:ok h2) {a:List (T e)} (C:a≠ []) (k: ∀b∈a,1<=len b/\lq e b) (o:jh lt (a.flatMap (bc e))) (p: ∀c∈a.flatMap (bc e),ok c):
  ∃b,a[cW lt h2 (a.map (cT e))]? =some b/\(∀c∈(a.take (cW lt h2 (a.map (cT e)))).flatMap (bc e),lt c h2=true)/\(∀c∈(a.drop (cW lt h2 (a.map (cT e))+1)).flatMap (bc e),lt h2 c=true):=by
 have D:a.map (cT e)=(a.map (bc e)).map (·.headD []):=by rw[a6L];rfl
 rw[a8c]at o p;obtain⟨r,d,h⟩:=DC y z (a.map (bc e)) (by simpa using C) (λF E=>by
  obtain⟨b,x,rfl⟩:=a5f.1 E;exact xE (k b x).1 (k b x).2) o p
 rw[<-D]at r d h;rw[<-a7K,<-a8c]at d;rw[<-a7w,<-a8c]at h;exact⟨_,a4J (by simpa using r),d,h⟩
theorem qT (C:Ord lt ok) (P:ok h2): ∀(a:Nat) (c:T a),jR a c->jh lt (bc a c)->(∀d∈bc a c,ok d)->h2∉bc a c->
  (eP lt h2 a c).flatMap (bc a)=dR lt (bc a c) h2/\(∀b∈eP lt h2 a c,WF a b)/\1<=(eP lt h2 a c).length/\(eP lt h2 a c).length<=2:=by
 intro a
 induction a with
 |zero=>intro c D r o y;obtain⟨e,rfl⟩:=ia c;obtain⟨z,E,_,_⟩:=D;rw[hz]at z E;obtain⟨F,G,b,_⟩:=DA (h9:=dR lt e h2) (by rw[ov];omega) (by rw[ov];omega);exact⟨Dy _,F,by simpa[eP,qN] using G,by simpa[eP,qN] using b⟩
 |succ a ih=>
  intro c D r o y;obtain⟨h,rfl⟩:=gw c;obtain⟨z,E,f,L⟩:=D;rw[dG]at z E L;have L:=L a9r;rw[fO]at r o y|-;have g: ∀b∈h,WF a b:=f;obtain⟨b,x,S,V⟩:=uE C P (a:=h) (by intro i;subst i;simp at z) (λb x=>by grind[hc]) r o;simp only[eP,fh];generalize cW lt h2 (h.map (cT a))=p at x S V;rw[x];have s:=qS x;have j:h.flatMap (bc a)=(h.take p).flatMap (bc a)++(bc a b++(h.drop (p+1)).flatMap (bc a)):=by grind
  rw[j]at r o y|-;have l:=(a5R.1 (a5R.1 r).2.1).1;obtain⟨m,t,u,v⟩:=ih b (jR.of (g b (a4Q x))) l (λd k=>o d (by simp[k])) (λk=>y (by simp[k]));have W:(h.take p++eP lt h2 a b++h.drop (p+1)).length=h.length - 1+(eP lt h2 a b).length:=by grind
  obtain⟨F,G,n,_⟩:=DB (a:=h.take p++eP lt h2 a b++h.drop (p+1)) (by rw[W];omega) (by rw[W];omega) (λd k=>by
   grind)
  refine⟨?_,F,by simpa using G,by simpa using n⟩;simp only[];rw[Dz,a5F,a5F,m,xF S,Yu (b:=bc a b),a4W];intro d k;cases q:lt d h2 with
  |false=>rfl
  |true=>have:=C.trans d h2 d (o d (by simp[k])) P (o d (by simp[k])) q (V d k);rw[C.jg]at this;cases this
theorem Eg {a b:T e} (k:lq e a) (o:lq e b) (d:2<=len a+len b) (h:len a+len b<=5):
  (kE a b).flatMap (bc e)=bc e a++bc e b/\(∀c∈kE a b,WF e c)/\1<=(kE a b).length/\(kE a b).length<=2:=by
 cases e with
 |zero=>obtain⟨a,rfl⟩:=ia a;obtain⟨b,rfl⟩:=ia b;grind[hz,DA,kE,qN,kD,Dy]
 |succ e=>obtain⟨a,rfl⟩:=gw a;obtain⟨b,rfl⟩:=gw b;rw[dG,dG]at d h;obtain⟨r,x,y,_⟩:=DB (a:=a++b) (by simpa using d) (by simpa using h) (λc p=>(a5c.1 p).elim (k c) (o c));grind[kE,fh,fO,Dz]
variable{h9:List Row}
theorem filter_none (b:h2∉h9):h9.filter (λa=>decide (a≠h2))=h9:=by rw[a8n];grind
theorem Zc (b:jh lt h9) (d: ∀h2,lt h2 h2=false):h9.length - 1<=(h9.filter λc=>decide (c≠h2)).length:=by
 induction h9 with
 |nil=>simp
 |cons a h9 ih=>
  have h:=a5t.1 b;by_cases bQ:a=h2
  .subst bQ;have:a∉h9:=λk=>by grind
   rw[a8M a9s,filter_none this];simp
  simp_all
theorem px (j:Ord lt ok) (i:ok h2): ∀(a:Nat) (c:T a),jR a c->jh lt (bc a c)->(∀d∈bc a c,ok d)->
  bc a (cN lt h2 a c)=(bc a c).filter (λd=>decide (d≠h2))/\lq a (cN lt h2 a c)/\len c - 1<=len (cN lt h2 a c)/\len (cN lt h2 a c)<=4:=by
 intro a
 induction a with
 |zero=>intro c f e g;obtain⟨b,rfl⟩:=ia c;obtain⟨k,l,_,_⟩:=f;rw[hz]at k l;simp only[cN,qN,kD,hz]at e|-;exact⟨trivial,trivial,Zc e j.jg,by grind⟩
 |succ a ih=>
  intro c f e g;obtain⟨b,rfl⟩:=gw c;obtain⟨k,l,h,c⟩:=f;rw[dG]at k l c;have c:=c a9r;rw[fO]at e g|-;have m: ∀f∈b,WF a f:=h;obtain⟨f,h,n,o⟩:=uE j i (a:=b) (by intro i;subst i;simp at k) (λf h=>by grind[hc]) e g;simp only[cN,fh,dG];generalize cW lt h2 (b.map (cT a))=c at h n o;rw[h];simp only[fh,dG,fO];have k:=qS h;obtain⟨q,_⟩:=a4R.1 h;have k:b.flatMap (bc a)=(b.take c).flatMap (bc a)++(bc a f++(b.drop (c+1)).flatMap (bc a)):=by grind
  have p:=e;have p:=g;rw[k]at e g;have k:=m f (a4Q h);have h:=hc.1 k;obtain⟨r,h,s,p⟩:=ih f (jR.of k) (a5R.1 (a5R.1 e).2.1).1 (λd e=>g d (by simp[e]));generalize cN lt h2 a f=d at r h s p;have f:((b.take c).flatMap (bc a)).filter (λd=>decide (d≠h2))=(b.take c).flatMap (bc a):=filter_none λe=>by
   have:=n h2 e;rw[j.jg]at this;cases this
  have f:((b.drop (c+1)).flatMap (bc a)).filter (λd=>decide (d≠h2))=(b.drop (c+1)).flatMap (bc a):=filter_none λe=>by
   have:=o h2 e;rw[j.jg]at this;cases this
  have g:(b.flatMap (bc a)).filter (λd=>decide (d≠h2))=(b.take c).flatMap (bc a)++(bc a d++(b.drop (c+1)).flatMap (bc a)):=by grind
  rw[g];unfold lr;by_cases e:2<=len d
  .rw[if_pos e];have i:b.set c d=b.take c++d::b.drop (c+1):=by rw[a6d,if_pos q]
   refine⟨by grind,λk a=> ?_,a9s,by simpa using l⟩;rw[fh,i]at a;simp only[a5c,a5k]at a;rcases a with a|rfl|a;grind
   .exact hc.2 ⟨e,p,h⟩
   grind
  .rw[if_neg e];have a:len d=1:=a9r;by_cases f:c=0
   .subst f;have a:b[1]? =some b[1]:=a4J a9r;simp only[if_true];rw[a];simp only[Nat.zero_sub,a6s,a5d,a5g,a7H]at g|-;generalize b[1]=e at a;have g:=m e (a4Q a);have j:=hc.1 g;obtain⟨l,q,k,i⟩:=Eg (a:=d) (b:=e) h j.2.2 a9r a9r;have n:b.drop 1=e::b.drop 2:=by obtain⟨o,rfl⟩:=a4R.1 a;exact a5e o
    refine⟨by grind,λr p=> ?_,a9t,a9t⟩;grind[fh,List.mem_of_mem_drop]
   .rw[if_neg f];have a:b[c - 1]? =some b[c - 1]:=a4J a9r;rw[a];simp only[if_neg f];generalize b[c - 1]=e at a;have g:=m e (a4Q a);have j:=hc.1 g;obtain⟨l,q,k,i⟩:=Eg (a:=e) (b:=d) j.2.2 h a9r a9r;have n:b.take c=b.take (c - 1)++ [e]:=by
     obtain⟨o,rfl⟩:=a4R.1 a
     conv=>lhs;rw[show c=c - 1+1 by omega]
     simp
    have a:c - 1+2=c+1:=a9r;rw[a];refine⟨by rw[a5F,a5F,l,n,a5F];simp,λr p=> ?_,a9t,a9t⟩;simp only[fh,a5c]at p;grind
end Go.a6
namespace Go.Proofs.YtlgnfcaolejgeaaGreat
open Go Go.bB
abbrev eH:=Option ((a:Nat)×a6.T a)
def fQ (c:U) (a:eH) (b:R):Prop:=
 match a with
 |none=>b= .v (.pointer none)
 |some ⟨d,a⟩=>bu c d a b
def fQ.fH {b c:U} (k:iA b c) {a:eH}{d:R} (h:fQ b a d):fQ c a d:=by
 match a with
 |none=>exact h
 |some ⟨_,_⟩=>exact bu.fH k h
variable{e i v M c0 j0:Nat}
def py:List (a6.T e)->eH
 | []=>none
 | [a]=>some ⟨e,a⟩
 |b=>some ⟨e+1,a6.node b⟩
variable{b0:Type}
def Zd {a:List b0} (b:a.length=1): ∃c,a= [c]:=a6S.1 b
def Ze (c:List (a6.T e)) (y:List R) (E:Own) (p:U) (F:az (bu p e) c y) (G:c.length<=4):
  AC Tryz.prog 98 [.J y E] p λL h=>p.sub h/\fQ h (py c) L:=by
 refine aO hm M8 ?_;refine cj [] (λd:List R×Own=> [(0,.J d.1 d.2)]) (λd h=>p.sub h/\(az (bu h e) c d.1\/2<=c.length/\ ∃a,d.1= [a]/\bu h (e+1) (a6.node c) a)) (λd=>d.1.length) (y,E) ⟨⟨U.a1,.inl F⟩,aU⟩ ?_;rintro⟨r,P⟩ z ⟨C,b⟩ i
 dsimp only at b|-
 refine aa ?_;refine aH (λk=> ?_) λk=> ?_
 .rcases b with b|⟨_,a,rfl,_⟩
  .have j:=b.len;refine cl (xZ z c r P z b a9r U.a1) ?_;rintro _ l ⟨S,m,T,rfl,D⟩;rw[a6.pt a9r G]at D;obtain⟨a,rfl⟩:=Zd D.len;refine aa ?_;exact⟨([a],T),⟨U.aq C S,.inr ⟨a9r,a,rfl,D.1⟩⟩,rfl,a9t⟩
  .simp at k
 .have V:(r= []/\c= [])\/ ∃a,r= [a]/\fQ z (py c) a:=by
   rcases b with b|⟨W,a,rfl,b⟩
   .match c,r,b,k with
    | [],[],_,_=>exact .inl ⟨rfl,rfl⟩
    | [n],[a],b,_=>exact .inr ⟨a,rfl,b.1⟩
    | _:: _:: _,_:: _:: _,_,k=>simp at k;omega
   .match c,W with
    | _:: _:: _,_=>exact .inr ⟨a,rfl,b⟩
  clear b;rcases V with ⟨rfl,rfl⟩|⟨a,rfl,o⟩
  .refine aa ?_;exact⟨_,U.a1,C,rfl⟩
  .have f:(∃x,a= .ptr x 0)\/a= .v (.pointer none):=by
    unfold fQ at o;split at o
    .exact .inr o
    .obtain⟨x,_,_,g,_⟩:=o.ptr;exact .inl ⟨x,g⟩
   rcases f with ⟨x,rfl⟩|rfl
   all_goals refine aa ?_;exact⟨_,U.a1,C,o⟩
theorem y0: ∀(b:Nat) (d:a6.T b) (T:R) (p:U),bu p b d T->(a6.bc b d).length<=100000->
  AC Tryz.prog 94 [T] p λW F=>p.sub F/\ ∃h G,W= .J h G/\az isRow (a6.bc b d) h:=by
 intro b
 induction b with
 |zero=>rintro d _ p ⟨e,h,G,f,rfl,k,o⟩ L;have P:=U.af k;have g:=o.len;have w:(a6.rows d).length<=100000:=L;refine aO hm wD ?_;refine si (iL o) λC i D=> ?_;have P:=rd D.sub k;refine gP [0] (λc:Nat=> [(3,.J h C),(4,.v (.int .i64 (c:Int)))]) (λc=>c=0) (λ_=>0) 0 rfl aU ?_;rintro _ rfl j;refine aa ?_;exact⟨D.sub,h,C,rfl,o⟩
 |succ b ih=>
  rintro d _ p ⟨e,A,G,f,rfl,k,o,B,l⟩ L;obtain⟨r,rfl⟩:=a6.gw d;rw[a6.fh]at o l;rw[a6.fO]at L|-;have P:=U.af k;have g:=o.len;refine aO hm wD ?_;refine si Ct λC i D=> ?_;refine cj [0] (λa:Nat×List R×Own=> [(3,.J a.2.1 a.2.2),(4,.v (.int .i64 (a.1:Int)))]) (λa F=>a.1<=r.length/\az isRow ((r.take a.1).flatMap (a6.bc b)) a.2.1/\bj p F 1 a.2.1 a.2.2) (λa=>r.length - a.1) (0,[],C) ⟨⟨a9s,trivial,D⟩,aU⟩ ?_;rintro⟨c,h,m⟩ n ⟨y,x,z⟩ j
  dsimp only at y x z|-
  have P:=rd z.sub k;refine aa ?_;refine aH (λE=> ?_) λE=> ?_
  .have y:c<r.length:=a9r;obtain⟨H,aO,V⟩:=o.get (a4J y);have q:=a6.qS (a4J y);have s:=a5X y;have t:=bu.mono z.sub V;obtain⟨I,_,_,rfl,_⟩:=V.ptr;generalize r[c]=E at*;have K:((r.take c).flatMap (a6.bc b)).length+(a6.bc b E).length<=100000:=by grind
   clear q;have M:=x.len;refine cl (ih E _ n t a9r) ?_;rintro _ N ⟨u,O,Q,rfl,S⟩;have X:=S.len;refine kA (z.mono u) (iL x) (iL S) λv Y k _=> ?_;refine⟨(c+1,_,v),⟨by simp only;omega,?_,k⟩,⟨rfl,rfl⟩,by simp only;omega⟩;simp only[s,a5F,a5n,a7H,a5T];exact x.append S
  .rw[a4K a9r]at x;exact⟨z.sub,h,m,rfl,x⟩
def Zf (a:U):AC Tryz.prog 94 [.v (.pointer none)] a λb c=>c=a/\b= .J [] .nil:=by refine aO hm wD ?_;trivial
def Zg (a:Nat) (b:a6.T a) (d:R) (c:U) (r:bu c a b d) (x:(a6.bc a b).length<=100000) (y:a6.bc a b≠ []):
  AC Tryz.prog 252 [d] c λh z=>c.sub z/\ ∃k,h= .J (ad (a6.cT a b)) k:=by
 refine aO hm QD ?_;refine cl (y0 a b d c r x) ?_;rintro _ D ⟨E,F,k,rfl,o⟩;unfold a6.cT;cases p:a6.bc a b with
 |nil=>exact absurd p y
 |cons G h=>rw[p]at o;obtain⟨L,aO,C,rfl⟩:=o.get (i:=0) rfl;refine aa ?_;exact⟨C,rfl⟩
theorem y3 (b:List (List Int)) (k:List R) (x o:Own) (c:List Int) (d:U) (p:az isRow b k) (E:b.length<=100000) (F: ∀h∈b,h.length<=1000):
  AC Tryz.prog 93 [.J k x,.J (ad c) o] d λh y=>y=d/\h= .v (.bool (decide (c∈b))):=by
 have G:=p.len;refine aO hm LZ ?_;refine gP [0,1] (λa:Nat=> [(5,.v (.int .i64 (a:Int)))]) (λa=>a<=b.length/\ ∀r<a,b.getD r []≠c) (λa=>b.length - a) 0 ⟨a9r,λr L=>by omega⟩ aU ?_;rintro a ⟨P,z⟩ S;refine aa ?_;refine aH (λC=> ?_) λC=> ?_
 .obtain⟨_,T,D,rfl⟩:=p.at [] (e:=a) a9r;refine lY (np (b.getD a []) c D o d (by grind)) ?_;refine aH (λc2=> ?_) λc2=> ?_
  .exact aR (by grind)
  .exact⟨a+1,⟨a9r,upto z c2⟩,rfl,a9r⟩
 grind[aR,List.getElem_of_mem,List.getD]
def gA (a:List Int->List Int->Bool) (b:List Int):Nat->Nat->List (List Int)->Nat
 | _,at_,[]=>at_
 |c,at_,d::bJ=>gA a b (c+1) (if a b d=true then at_ else c) bJ
def Eh {d:List Int->List Int->Bool}{h:List Int}: ∀(b:List (List Int)) (k c:Nat),(∀a∈b,d h a=true)->gA d h k c b=c
 | [],_,_,_=>rfl
 |a::b,k,c,o=>by
  rw[gA,if_pos (o a a9s)];exact Eh b _ _ λa p=>o a (by simp[p])
theorem Ei {a:List Int->List Int->Bool}{b:List Int}: ∀(c:List (List Int)) (k:List Int) (d:Nat),c.Pairwise (λo p=>a b o=true->a b p=true)->gA a b (d+1) d c=d+a6.cW a b (k::c)
 | [],k,d,_=>rfl
 |h::c,k,d,r=>by
  have x:=a5t.1 r;rw[gA];have y:a6.cW a b (k::h::c)=if a b h=true then 0 else a6.cW a b (h::c)+1:=rfl;rw[y];by_cases hk:a b h=true;simp_all [if_pos,Eh]
  .rw[if_neg hk,if_neg hk,Ei c h (d+1) x.2];omega
variable{O:List (List Int)}{q b6:List Int}
theorem Zh {a:List Int->List Int->Bool} (d:O.Pairwise (λb c=>a q b=true->a q c=true)):gA a q 0 0 O=a6.cW a q O:=by
 cases O with
 |nil=>rfl
 |cons h O=>grind[gA,Ei,List.pairwise_cons]
def Ej {k o:List Int->List Int->Bool}{c:List Int}: ∀(b:List (List Int)) (d h:Nat),(∀a∈b,k c a=o c a)->gA k c d h b=gA o c d h b
 | [],_,_,_=>rfl
 |a::b,d,h,p=>by
  rw[gA,gA,p a a9s];exact Ej b _ _ λa r=>p a (by simp[r])
def Ek {d:List Int->List Int->Bool}{h k:List Int}: ∀(a:List (List Int)) (b c:Nat),gA d h b c (a++ [k])=if d h k=true then gA d h b c a else b+a.length
 | [],b,c=>by simp[gA]
 |o::a,b,c=>by
  rw[a5K,gA,Ek a,gA,a4O];split<;>omega
theorem El (b:List (a6.T e)) (y:R) (c:List Int) (z:Own) (h:U) (E:bu h (e+1) (a6.node b) y) (F:c.length<=1000) (G: ∀d∈b,(a6.bc e d).length<=100000/\a6.bc e d≠ []/\(a6.cT e d).length<=1000):
  AC Tryz.prog 163 [y,.J (ad c) z] h λL o=>h.sub o/\L= .v (.int .i64 (gA kJ c 0 0 (b.map (a6.cT e)):Int)):=by
 obtain⟨j,l,m,n,rfl,P,p,_,S⟩:=E;rw[a6.fh]at p S;have q:=p.len;have s:gA kJ c 0 0 []=0:=rfl;refine aO hm O4 ?_;refine cj [0,1] (λa:Nat=> [(5,.v (.int .i64 (gA kJ c 0 0 ((b.map (a6.cT e)).take a):Int))),(6,.v (.int .i64 (a:Int)))]) (λa o=>a<=b.length/\h.sub o) (λa=>b.length - a) 0 ⟨⟨a9r,U.a1⟩,aU⟩ ?_;rintro a T ⟨k,r⟩ t;have u:=rd r P;refine aa ?_;refine aH (λd=> ?_) λd=> ?_
 .have k:a<b.length:=a9r;have V:=Ek (d:=kJ) (h:=c) (k:=a6.cT e b[a]) ((b.map (a6.cT e)).take a) 0 0;rw[a4N,a4V,a6t a9r,show(b.map (a6.cT e)).take a++ [a6.cT e b[a]]=(b.map (a6.cT e)).take (a+1) by simp[a5X,k]]at V;have x:=G _ (a5o k);obtain⟨v,aO,C⟩:=p.get (a4J k);obtain⟨w,_,_,rfl,_⟩:=C.ptr;generalize b[a]=D at*;refine cl (Zg e D _ T (bu.mono r C) x.1 x.2.1) ?_;rintro _ W ⟨f,g,rfl⟩;refine cl (E2 c (a6.cT e D) z g W F x.2.2) ?_;rintro _ A ⟨i,rfl⟩;have B:=U.aq r (U.aq f i);refine aa ?_;refine aH (λc2=> ?_) λc2=> ?_;grind;grind
 .rw[a4K (by rw[a4V];omega)]
def Zi {b c:List Int->List Int->Bool} (d: ∀a∈O,b a q=c a q):a6.dR b O q=a6.dR c O q:=by
 unfold a6.dR;have h: ∀O:List (List Int),(∀a∈O,b a q=c a q)->O.takeWhile (λa=>b a q)=O.takeWhile (λa=>c a q)/\O.dropWhile (λa=>b a q)=O.dropWhile (λa=>c a q):=by
  intro O
  induction O with
  |nil=>intro _;exact⟨rfl,rfl⟩
  |cons k O ih=>intro d;obtain⟨o,p⟩:=ih λa r=>d a (by simp[r]);simp only[a5B,a6f,d k a9s];rw[o,p];exact⟨rfl,rfl⟩
 rw[(h O d).1,(h O d).2]
structure GT (d h:Nat) (t:a6.T h):Prop where
 wf:a6.jR h t
 ea:a6.jh bz (a6.bc h t)
 ok: ∀x∈a6.bc h t,bO d x
 dI:(a6.bc h t).length<=1000
def y4 {a:a6.T e} (b:a6.bc e a≠ []):a6.cT e a∈a6.bc e a:=by
 unfold a6.cT;cases c:a6.bc e a with
 |nil=>exact absurd c b
 |cons d h=>simp
structure Zj (d:Nat) {h:Nat} (bJ:List (a6.T h)) (p:List Int):Prop where
 ne:bJ≠ []
 two:2<=bJ.length/\bJ.length<=4
 hf: ∀c∈bJ,GT d h c/\a6.WF h c/\a6.bc h c≠ []/\bO d (a6.cT h c)
 Em:gA kJ p 0 0 (bJ.map (a6.cT h))=a6.cW bz p (bJ.map (a6.cT h))
 at_: ∃c,bJ[a6.cW bz p (bJ.map (a6.cT h))]? =some c
theorem GT.kids (x:1<=i) (y:i<=8) {c:List (a6.T e)} (p:GT i (e+1) (a6.node c)) (z:bO i q):Zj i c q:=by
 obtain⟨D,E,T,r⟩:=p.wf;rw[a6.dG]at D E r;have r:=r a9r;have V: ∀a∈c,a6.WF e a:=T;have h:=p.ea;have k:=p.ok;have F:=p.dI;rw[a6.fO]at h k F;have o:c≠ []:=by intro W;subst W;simp at D
 have d: ∀a∈c,GT i e a/\a6.WF e a/\a6.bc e a≠ []/\bO i (a6.cT e a):=by intro a b;have C:=V a b;have f:=a6.hc.1 C;have o:a6.bc e a≠ []:=a6.xE a9r f.2.2;obtain⟨v,w,g⟩:=a7y b;rw[g,a5F,a5n]at h k F;have j:=(a5R.1 (a5R.1 h).2.1).1;refine⟨⟨a6.jR.of C,j,λl m=>k l (by simp[m]),by grind⟩,C,o,k _ (by simp[y4 o])⟩
 refine⟨o,⟨r,E⟩,d,?_,?_⟩
 .rw[Ej (o:=bz) _ _ _ λA n=>by
   obtain⟨a,b,rfl⟩:=a5f.1 n;exact E6 x y z (d a b).2.2.2]
  refine Zh ?_;rw[a7p];have s:=(List.pairwise_flatMap.1 h).2;refine a7S (λ{G L} P S t=> ?_) s;intro u;exact(gz x y).trans q _ _ z (d G P).2.2.2 (d L S).2.2.2 u (t _ (y4 (d G P).2.2.1) _ (y4 (d L S).2.2.1))
 .obtain⟨a,b,_⟩:=a6.uE (gz x y) z (a:=c) o (λa b=>by grind[a6.hc]) h k;exact⟨a,b⟩
theorem Zk (p:1<=e) (q:e<=8) (b:List Int) (r:Own) (n:bO e b): ∀(a:Nat) (f:a6.T a) (g:R) (c:U),bu c a f g->GT e a f->b∉a6.bc a f->
  AC Tryz.prog 99 [g,.J (ad b) r] c λe d=>c.sub d/\ ∃i j,e= .J i j/\az (bu d a) (a6.eP bz b a f) i:=by
 have d:=n.len;intro a
 induction a with
 |zero=>rintro f _ c ⟨s,l,j,t,rfl,k,d⟩ h u;obtain⟨o,rfl⟩:=a6.ia f;rw[a6.qN]at d;obtain⟨_,v,_,_⟩:=h.wf;have m:=h.ok;rw[a6.hz]at v;rw[a6.kD]at m;have v:=U.af k;refine aO hm Bn ?_;refine cl (Za o l j r b c d a9r (λe l=>by have:=(m e l).len;omega) a9r) ?_;rintro _ w ⟨l,o,y,rfl,e⟩;rw[Zi (c:=bz) λz x=>E6 p q (m z x) n]at e;refine cl (Ef _ o y w e (by rw[a6.ov];omega)) ?_;rintro _ e ⟨e,i,m,rfl,o⟩;refine aa ?_;exact⟨_,U.a1,U.aq l e,i,m,rfl,o⟩
 |succ a ih=>
  intro f g c o h u;obtain⟨e,rfl⟩:=a6.gw f;have m:=h.kids p q n;have y:=El e g b r c o a9r λf g=>by
   obtain⟨h,_,r,z⟩:=m.hf f g;have:=h.dI;have:=z.len;exact⟨a9r,r,a9r⟩
  obtain⟨s,r,j,t,rfl,k,d,_,_⟩:=o;rw[a6.fh]at d;have o:=d.len;obtain⟨o,o⟩:=m.two;have o: ¬(e.length:Int)=0:=a9r;have v:=U.af k;obtain⟨f,g⟩:=m.at_;have o:a6.eP bz b (a+1) (a6.node e)=(a6.chunks (e.take (a6.cW bz b (e.map (a6.cT a)))++a6.eP bz b a f++e.drop (a6.cW bz b (e.map (a6.cT a))+1))).map a6.node:=by simp only[a6.eP,a6.fh];rw[g]
  rw[o];rw[m.Em]at y;clear o;generalize a6.cW bz b (e.map (a6.cT a))=o at*;have e:=(a4R.1 g).1;obtain⟨h,_,_,_⟩:=m.hf f (a4Q g);have e:b∉a6.bc a f:=λx=>u (by rw[a6.fO];grind);obtain⟨_,_,b,b⟩:=a6.qT (gz p q) n a f h.wf h.ea h.ok e;have b:=bu.c d;obtain⟨_,b,m⟩:=d.get g;obtain⟨b,_,_,rfl,_⟩:=m.ptr;refine aO hm Bn ?_;refine cl y ?_;rintro _ w ⟨l,rfl⟩;have v:=rd l k;have b:=d.take o;refine si (bu.c b) λg n g=> ?_;have p:=rd (U.aq l g.sub) k;refine cl (ih f _ n (m.fH fY) h e) ?_;rintro _ e ⟨f,i,e,rfl,e⟩;have h:=e.len;refine kA (g.mono f) (bu.c b) (bu.c e) (λf f h i=> ?_) (y:=by rw[a4N];omega);have g:f.read s= _:=U.af (g:= [.J [] t,.J r j]) dx;have g:=(b.mono λ_ _ a=>bu.fH (fY (f:=c) (t:=f)) a).append (e.mono λ_ _=>bu.fH i);have e:=d.drop (o+1);refine kA h (bu.c g) (bu.c e) (λd b f h=> ?_) (y:=by grind);have i:=(g.mono λ_ _=>bu.fH h).append (e.mono λ_ _ a=>bu.fH (fY (f:=c) (t:=b)) a);refine cl (xZ b _ _ d b i (by grind) U.a1) ?_;rintro _ a ⟨a,b,c,rfl,d⟩;refine aa ?_;exact⟨_,U.a1,U.aq l (U.aq f.sub a),b,c,rfl,d⟩
def eA:eH->List (List Int)
 |none=> []
 |some ⟨a,b⟩=>a6.bc a b
def iN (a:Nat):eH->Prop
 |none=>True
 |some ⟨b,c⟩=>GT a b c
def kK (a:eH) (b:List Int):eH:=
 match a with
 |none=>some ⟨0,a6.leaf [b]⟩
 |some ⟨c,a⟩=>if b∈a6.bc c a then some ⟨c,a⟩else py (a6.eP bz b c a)
def Zl (z:1<=e) (C:e<=8) (c:List Int) (k:Own) (D:bO e c) (a:eH) (E:R) (o:U) (d:fQ o a E) (S:iN e a):
  AC Tryz.prog 55 [E,.J (ad c) k] o λp F=>o.sub F/\ ∃G r,p= .aL [G,.v (.bool r)]/\fQ F (kK a c) G:=by
 match a with
 |none=>obtain rfl:=d;refine aO hm Bg ?_;refine cJ U.a1 (by simp[aN,R.cells]) λT v V=> ?_;refine aa ?_;refine br λL W=> ?_;exact⟨_,U.a1,U.aq V.sub (U.ae U.a1 W),_,_,rfl,L,_,T,.nil,rfl,U.ah _ _ _,⟨k,rfl⟩,trivial⟩
 |some ⟨x,a⟩=>
  obtain⟨r,L,w,rfl,A⟩:=bu.ptr d;have b:GT e x a:=S;have B:=b.dI;refine aO hm Bg ?_;refine cl (y0 x a (.ptr r 0) o d a9r) ?_;rintro _ P ⟨y,f,g,rfl,i⟩;refine lY (y3 _ f g k c P i a9r λp j=>by have:=(b.ok p j).len;omega) ?_;refine aH (λh=> ?_) λh=> ?_
  .refine⟨_,U.a1,y,_,_,rfl,?_⟩;simp only[kK,if_pos h];exact bu.mono y d
  .refine cl (Zk z C c k D x a (.ptr r 0) P (bu.mono y d) b h) ?_;rintro _ l ⟨m,n,q,rfl,s⟩;obtain⟨_,_,H,I⟩:=a6.qT (gz z C) D x a b.wf b.ea b.ok h;refine cl (Ze _ n q l s a9r) ?_;rintro p K ⟨t,u⟩;refine aa ?_;refine⟨_,U.a1,U.aq y (U.aq m t),_,_,rfl,?_⟩;simp only[kK,if_neg h];exact u
structure hh (d:Nat) (b:List Int×List Int):Prop where
 ok:cU b.1 b.2 d=true
 aV:cL b.1
 aW:cL b.2
theorem lu:cU q b6 e=true↔1<=e/\e<=8/\q.length=e/\b6.length=e/\ ∀a,a<e->q.getD a 0<=b6.getD a 0:=by unfold cU;grind
theorem En {b:Int->Int->Int} (h: ∀a c,b a c=a\/b a c=c) (k:cL q) (o:cL b6):cL (List.zipWith b q b6):=by intro a d;obtain⟨p,r,rfl⟩:=a5A d;grind[List.length_zipWith,List.getElem_mem]
theorem Eo {a:Int->Int->Int} (b:e<q.length) (c:e<b6.length):(List.zipWith a q b6).getD e 0=a (q.getD e 0) (b6.getD e 0):=by grind
theorem y5 {h k:List Int×List Int} (b:hh e h) (c:hh e k):hh e (cV h k):=by
 have a:=lu.1 b.ok;have d:=lu.1 c.ok;unfold cV;rw[a.2.2.1,d.2.2.1,if_pos b.ok,if_pos c.ok,if_pos rfl];refine⟨lu.2 ⟨a.1,a.2.1,by simp[a.2.2.1,d.2.2.1],by simp[a.2.2.2.1,d.2.2.2.1],λr x=> ?_⟩,?_,?_⟩;grind
 .exact En (λo p=>by omega) b.aV c.aV
 .exact En (λo p=>by omega) b.aW c.aW
theorem pz {a:List Int×List Int} (b:hh e a):cV ([],[]) a=a:=by have c:=lu.1 b.ok;unfold cV;have:cU ([]:List Int) [] ([]:List Int).length=false:=rfl;rw[if_neg (by rw[this];simp),c.2.2.1,if_pos b.ok]
def y6 (c:1<=e) (d:e<=8) (a:bO e q):hh e (gu q):=by have b:=a.len;unfold gu;rw[if_pos a9r];exact⟨lu.2 ⟨c,d,b,b,λ_ _=>a8p _⟩,a.jV,a.jV⟩
structure mj (d:Nat) (n:Nat) (y:gg):Prop where
 live:y.live=n
 aQ:(n=0/\y.aQ=([],[]))\/(0<n/\hh d y.aQ)
theorem Ep {h:Nat} (o:1<=h) (p:h<=8): ∀(b:List (List Int)) (c:Nat) (a:gg),(∀d∈b,bO h d)->mj h c a->mj h (c+b.length) ((b.map λd=>(d,true)).foldl dQ a)
 | [],c,a,_,k=>by simpa using k
 |d::b,c,a,r,k=>by
  rw[a5j,a5Q,a4O,show c+(b.length+1)=(c+1)+b.length by omega];refine Ep o p b (c+1) _ (λy z=>r y (by simp[z])) ?_;have C:=y6 o p (r d a9s);rw[dQ,if_pos rfl];refine⟨by rw[show(({a with live:=a.live+1,aQ:=cV a.aQ (gu d)}:gg)).live=a.live+1 from rfl,k.live];omega,.inr ⟨a9r,?_⟩⟩;rcases k.aQ with ⟨_,x⟩|⟨_,x⟩;grind[cV,gu,pz]
  .exact y5 x C
structure jj (d n:Nat) (k:ay):Prop where
 sum:k.sum.length=32
 live:k.live=n
 size:k.size=n
 pos:1<=n
 aQ:hh d (k.aV,k.aW)
 key:bO d k.key
def Er {k:Nat}: ∀(a:List (ay×Nat)) (b:Nat) (d:gg),(∀c∈a,jj k c.2 c.1)->mj k b d->mj k (b+(a.map Prod.snd).sum) ((a.map Prod.fst).foldl ew d)
 | [],b,d,_,o=>by simpa using o
 |(c,h)::a,b,d,y,o=>by
  have p:=y (c,h) a9s;simp only[a5j,a5Q,a7Z];rw[show b+(h+(a.map Prod.snd).sum)=(b+h)+(a.map Prod.snd).sum by omega];refine Er a (b+h) _ (λz C=>y z (by simp[C])) ?_;have r:=p.aQ;have D:=p.pos;refine⟨?_,.inr ⟨by have:1<=h:=D;omega,?_⟩⟩
  .show d.live+c.live= _;rw[o.live,p.live];push_cast;rfl
  .show hh k (cV d.aQ (c.aV,c.aW));rcases o.aQ with ⟨_,x⟩|⟨_,x⟩
   .rw[x,pz r];exact r
   .exact y5 x r
def bY:(a:Nat)->a6.T a->ay
 |0,b=>eW (dH (a6.rows b))
 |a+1,b=>eW (ek ((a6.kids b).map (bY a)))
def dA:(a:Nat)->a6.T a->c5
 |0,b=>dH (a6.rows b)
 |a+1,b=>ek ((a6.kids b).map (bY a))
def sP: ∀ {a:Nat}{b:a6.T a},bY a b=eW (dA a b)
 |0,_=>rfl
 | _+1,_=>rfl
def Zm:dA 0 (a6.leaf O)=dH O:=rfl
def y7 {a:List (a6.T e)}:dA (e+1) (a6.node a)=ek (a.map (bY e)):=rfl
structure fa (d h:Nat) (t:a6.T h):Prop where
 wf:a6.jR h t
 ok: ∀x∈a6.bc h t,bO d x
 dI:(a6.bc h t).length<=1048576
def GT.jW {b:a6.T e} (a:GT i e b):fa i e b:=⟨a.wf,a.ok,by have:=a.dI;omega⟩
theorem fa.hf {d:List (a6.T e)} (b:fa i (e+1) (a6.node d)): ∀a∈d,fa i e a/\a6.WF e a:=by obtain⟨z,C,p,D⟩:=b.wf;have c:=b.ok;have h:=b.dI;rw[a6.fO]at c h;intro a k;have o:a6.WF e a:=p a k;obtain⟨E,F,r⟩:=a7y k;rw[r,a5F,a5n]at c h;exact⟨⟨a6.jR.of o,λx y=>c x (by simp[y]),by grind⟩,o⟩
def fa.ne {a:a6.T e} (b:fa i e a):a6.bc e a≠ []:=a6.xE b.wf.1 b.wf.2.2.1
structure y8 (d n:Nat) (x:c5):Prop where
 y9:x.In d
 kL:jj d n (eW x)
 oz:fK d x=some (eW x)
variable{w j2:ay}
def jj.ne (a:jj e i w):w≠aA:=by rintro rfl;have:=a.size;have:=a.pos;simp[aA]at*;omega
theorem jj.ok {b c:Nat}{d:ay} (a:jj b c d) (h:c<=1048576):fp b d=true:=by have k:=a.size;have o:=a.live;have p:=a.pos;unfold fp;rw[decide_eq_false a.ne,a8v,a4M];refine⟨a9t,?_⟩;rw[if_neg a9r];exact a.aQ.ok
def jj.kL (a:jj e i w) (c:i<=1048576):w.In e:=by have d:=a.size;have h:=a.live;have k:=a.pos;have b:=lu.1 a.aQ.ok;have o:w.aV.length=e:=b.2.2.1;have p:w.aW.length=e:=b.2.2.2.1;have r:=a.key.len;exact⟨a.sum,a.aQ.aV,a.aQ.aW,a.key.jV,a9r,a9r,a9r,a9r,a9r,a9r,a9r⟩
theorem uF (o:1<=e) (p:e<=8) (c:1<=O.length) (r:O.length<=4) (b: ∀a∈O,bO e a):y8 e O.length (dH O):=by
 have x:dX e (dH O)=true:=by unfold dX dH;simp only[a9o,a4V,List.all_nil,a8u,a4T,decide_true,a4M,a4Y,decide_eq_true_eq,Function.comp];refine⟨λa d=>(b a d).len,?_⟩;simp[c,r]
 have h:=Ep o p O 0 ⟨0,(dH O).rows.length,([],[])⟩ b ⟨rfl,.inl ⟨rfl,rfl⟩⟩;have y:eG (dH O)=(O.map λa=>(a,true)).foldl dQ ⟨0,(dH O).rows.length,([],[])⟩:=rfl;rw[<-y,a5g]at h;have z:(eG (dH O)).size=O.length:=by rw[xP];simp[dH]
 have C:hh e (eG (dH O)).aQ:=by
  rcases h.aQ with ⟨k,_⟩|⟨_,k⟩
  .omega
  .exact k
 refine⟨⟨x,λa d=> ?_,λG D=>by simp[dH]at D⟩,⟨oh _,h.live,z,c,C,?_⟩,?_⟩
 .obtain⟨E,F,rfl⟩:=a5f.1 d;exact(b E F).jV
 .show bO e (keyOf (dH O))
  match O,c with
  |a::O,_=>exact b a a9s
 .unfold fK;grind
def Zn:(eW (dH O)).key=O.headD []:=by show keyOf (dH O)= _;cases O<;>rfl
theorem Zo {a:List (ay×Nat)} (o:2<=a.length) (z:a.length<=4) (c: ∀b∈a,jj e b.2 b.1) (p:(a.map Prod.snd).sum=i) (P:i<=1048576):y8 e i (ek (a.map Prod.fst)):=by
 have r: ∀b∈a,b.2<=i:=λb c=>by
  rw[<-p];obtain⟨S,T,rfl⟩:=a7y c;simp;omega
 have C:dX e (ek (a.map Prod.fst))=true:=by unfold dX ek;simp only[a9o,a4V,List.all_nil,a6o,a4T,decide_true,a4M,a4Y,decide_eq_true_eq,Function.comp];refine⟨λb d=>(c b d).ok (by have:=r b d;omega),?_⟩;simp[o,z];exact λV W d=>⟨(c _ d).key.len,(c _ d).ne⟩
 have x:=Er a 0 ⟨0,0,([],[])⟩ c ⟨rfl,.inl ⟨rfl,rfl⟩⟩;have D:eG (ek (a.map Prod.fst))=(a.map Prod.fst).foldl ew ⟨0,0,([],[])⟩:=rfl;rw[<-D,a5g,p]at x;have E:1<=i:=by
  match a,o with
  |b::a,_=>have:=(c b a9s).pos;have:=r b a9s;omega
 have F:(eG (ek (a.map Prod.fst))).size=i:=by
  rw[xP,<-p];have: ∀(a:List (ay×Nat)),(∀b∈a,jj e b.2 b.1)->(((a.map Prod.fst).map (·.size)).sum:Int)=(((a.map Prod.snd).sum:Nat):Int):=by
   intro a
   induction a with
   |nil=>intro _;rfl
   |cons b a ih=>intro d;simp only[a5j,a7Z];rw[ih λh k=>d h (by simp[k]),(d b a9s).size];push_cast;rfl
  simp only[ek,a4T];rw[this a c];simp
 have G:hh e (eG (ek (a.map Prod.fst))).aQ:=by
  rcases x.aQ with ⟨y,_⟩|⟨_,y⟩
  .omega
  .exact y
 refine⟨⟨C,λf L=>by simp[ek]at L,λb d=> ?_⟩,⟨oh _,x.live,F,E,G,?_⟩,?_⟩
 .obtain⟨h,k,rfl⟩:=a5f.1 d;exact(c h k).kL (by have:=r h k;omega)
 .show bO e (keyOf (ek (a.map Prod.fst)))
  match a,o with
  |b::a,_=>exact(c b a9s).key
 .unfold fK;grind
def nr {k:Nat} (y:1<=k) (z:k<=8): ∀(a:Nat) (c:a6.T a),fa k a c->y8 k (a6.bc a c).length (dA a c)/\(bY a c).key=a6.cT a c
 |0,c,h=>by
  obtain⟨E,rfl⟩:=a6.ia c;obtain⟨x,o,_⟩:=h.wf;rw[a6.hz]at x o;have C:=h.ok;rw[a6.kD]at C;exact⟨uF y z x o C,Zn⟩
 |a+1,c,h=>by
  obtain⟨d,rfl⟩:=a6.gw c;obtain⟨x,o,T,p⟩:=h.wf;rw[a6.dG]at x o p;have p:=p a9r;have D:=h.hf;have F:=h.dI;have ih:=λb r=>nr y z a b (D b r).1;have G:(d.map λb=>(bY a b,(a6.bc a b).length)).map Prod.fst=d.map (bY a):=by rw[a6L];rfl
  have L:((d.map λb=>(bY a b,(a6.bc a b).length)).map Prod.snd).sum=(a6.bc (a+1) (a6.node d)).length:=by rw[a6L,a6.fO,List.length_flatMap];rfl
  have:=Zo (e:=k) (i:=(a6.bc (a+1) (a6.node d)).length) (a:=d.map λb=>(bY a b,(a6.bc a b).length)) (by simpa using p) (by simpa using o) (λV P=>by
   obtain⟨b,r,rfl⟩:=a5f.1 P;simp only[sP];exact(ih b r).1.kL) L F
  rw[G]at this;refine⟨this,?_⟩
  match d,p with
  |b::d,_=>
   show(bY a b).key= _;have r:=ih b a9s;rw[r.2];unfold a6.cT;rw[a6.fO,a5n];have:=(D b a9s).1.ne;cases S:a6.bc a b with
   |nil=>exact absurd S this
   |cons W E=>rfl
def uG (b:1<=i) (c:i<=8) {a:a6.T e} (d:fa i e a):jj i (a6.bc e a).length (bY e a):=by rw[sP];exact(nr b c e a d).1.kL
def Zp (b:1<=i) (c:i<=8) {a:a6.T e} (d:fa i e a):(bY e a).key=a6.cT e a:=(nr b c e a d).2
theorem fa.high {r:Nat}: ∀(a:Nat) (b:a6.T a),fa r a b->a+1<=(a6.bc a b).length
 |0,b,c=>by
  have:=c.ne;grind
 |a+1,b,c=>by
  obtain⟨h,rfl⟩:=a6.gw b;obtain⟨x,y,z,d⟩:=c.wf;rw[a6.dG]at x y d;have d:=d a9r;have k:=c.hf
  match h,d with
  |o::p::h,_=>have C:=fa.high a o (k o a9s).1;have D:=fa.high a p (k p a9s).1;rw[a6.fO,a5n,a5n];simp only[a4L];omega
structure ag.le (a c:ag):Prop where
 m: ∀d b,a.m d=some b->c.m d=some b
 one:a.one=true->c.one=true
variable{H:ag}
theorem ag.le_refl:H.le H:=⟨λ_ _ a=>a,λa=>a⟩
theorem ag.le.trans {b c:ag} (d:H.le b) (h:b.le c):H.le c:=⟨λ_ _ a=>h.m _ _ (d.m _ _ a),λa=>h.one (d.one a)⟩
def ag.le.zero {a:ag} (c:H.le a) (b:a.one=false):H.one=false:=by
 cases d:H.one with
 |false=>rfl
 |true=>rw[c.one d]at b;cases b
theorem lv (b:ag) (c:List UInt8):b.le (eO b c):=by
 unfold eO;split
 .rename_i a;refine⟨λd h k=> ?_,λa=>a⟩;grind
 .split
  .exact⟨λ_ _ a=>a,λ_=>rfl⟩
  .exact ag.le_refl
variable{B:List UInt8}
theorem qU (a:(eO H B).one=false):(eO H B).m (eV B)=some B:=by unfold eO at a|-;grind
variable{e0:c5}
theorem oA (b:fK e e0=some (eW e0)) (a:ag):dv a e e0=(.ok (eW e0),eO a (dc e0)):=by unfold dv;rw[b]
def gB (c:ag):(b:Nat)->a6.T b->Prop
 |0,a=>c.m (bY 0 a).sum=some (dc (dA 0 a))
 |b+1,a=>c.m (bY (b+1) a).sum=some (dc (dA (b+1) a))/\ ∀d∈a6.kids a,gB c b d
def gB.mono {c d:ag} (b:c.le d): ∀ {a:Nat}{h:a6.T a},gB c a h->gB d a h
 |0,_,a=>b.m _ _ a
 | _+1,_,a=>⟨b.m _ _ a.1,λk o=>gB.mono b (a.2 k o)⟩
def gB.Zq: ∀ {a:Nat}{b:a6.T a},gB H a b->H.m (bY a b).sum=some (dc (dA a b))
 |0,_,a=>a
 | _+1,_,a=>a.1
def Es {a:a6.T e}:(dA e a).kind=if e=0 then 2 else 3:=by cases e<;>rfl
def Zr (c:1<=i) (d:i<=8) {a:a6.T e} (h:fa i e a) (k:gB H e a):fq H i (bY e a)=some (dA e a):=by have b:=(nr c d e a h).1;unfold fq;rw[k.Zq];simp only;rw[D3 a9r b.y9];simp only;rw[b.oz,sP,if_pos rfl]
theorem qV (b:1<=i) (c:i<=8) {a:a6.T e} (d:fa i e a) (h:gB H e a):iI H i (bY e a)=some (dA e a):=by simp_all [iI,Zr,if_pos,Es]
theorem ya {r:Type}{b:List r->c5}{x:Nat}: ∀(gs:List (List r)) (c:ag) (h:List ay),(∀a∈gs,fK x (b a)=some (eW (b a)))->
  ∃d,ez b x c gs h=(.ok (h++gs.map λa=>eW (b a)),d)/\c.le d/\(d.one=false-> ∀a∈gs,d.m (eV (dc (b a)))=some (dc (b a)))
 | [],c,h,_=>⟨c,by simp[ez],ag.le_refl,λ_ a z=>by cases z⟩
 |a::gs,c,h,C=>by
  obtain⟨d,E,o,D⟩:=ya gs (eO c (dc (b a))) (h++ [eW (b a)]) (λp k=>C p (by simp[k]));refine⟨d,?_,(lv _ _).trans o,λy p k=> ?_⟩;grind[ez,oA]
  .rcases a5k.1 k with rfl|k
   .exact o.m _ _ (qU (o.zero y))
   .exact D y p k
structure Laid (a:ag) (h:Nat) (sm:List (a6.T h)) (r:Except Int (List ay)×ag):Prop where
 ok:r.1= .ok (sm.map (bY h))
 le:a.le r.2
 ins:r.2.one=false-> ∀c∈sm,gB r.2 h c
def Et {a:a6.T e} (b:a6.WF e a) (c: ∀d∈a6.bc e a,bO i d) (h:(a6.bc e a).length<=1048576):fa i e a:=⟨a6.jR.of b,c,h⟩
theorem Eu (o:1<=e) (p:e<=8) (h:ag) (a:List (List Int)) (r:1<=a.length) (L:a.length<=5) (x: ∀c∈a,bO e c):Laid h 0 ((a6.chunks a).map a6.leaf) (nm h e a):=by
 have k: ∀b∈a6.chunks a,1<=b.length/\b.length<=4/\ ∀c∈b,c∈a:=by
  by_cases y:a.length=5
  .rw[a6.sI y];grind
  .rw[a6.pt r a9r];grind
 obtain⟨P,z,C,D⟩:=ya (b:=dH) (x:=e) (a6.chunks a) h [] (λb d=>(uF o p (k b d).1 (k b d).2.1 (λc E=>x c ((k b d).2.2 c E))).oz);unfold nm;rw[z];refine⟨?_,C,λF S G=> ?_⟩
 .rw[a5d,a6L];rfl
 .obtain⟨b,d,rfl⟩:=a5f.1 G;exact D F b d
theorem yb (C:1<=i) (D:i<=8) (p:ag) (a:List (a6.T e)) (f:2<=a.length) (g:a.length<=5) (E: ∀d∈a,a6.WF e d) (j: ∀F∈a.flatMap (a6.bc e),bO i F) (l:(a.flatMap (a6.bc e)).length<=1048576)
  (G: ∀o,p.le o->o.one=false-> ∀d∈a,gB o e d):Laid p (e+1) ((a6.chunks a).map a6.node) (ji p i (a.map (bY e))):=by
 have r: ∀b∈a6.chunks a,2<=b.length/\b.length<=4/\(∀d∈b,d∈a)/\(b.flatMap (a6.bc e)).length<=(a.flatMap (a6.bc e)).length:=by
  by_cases x:a.length=5
  .rw[a6.sI x];simp only[a5k,a6p,or_false,forall_eq_or_imp,forall_eq,a4N,a4X];have L:a.flatMap (a6.bc e)=(a.take 3).flatMap (a6.bc e)++(a.drop 3).flatMap (a6.bc e):=by rw[<-a5F,a5r]
   grind
  .rw[a6.pt a9r a9r];grind
 have P: ∀b∈a6.chunks a,fa i (e+1) (a6.node b):=λb h=>by
  obtain⟨m,n,d,L⟩:=r b h;refine Et (a6.hc.2 ⟨by rw[a6.dG];omega,by rw[a6.dG];omega,λc k=>E c (d c k)⟩) (λc k=> ?_) (by rw[a6.fO];omega);grind[a6.fO]
 have S:a6.chunks (a.map (bY e))=(a6.chunks a).map (List.map (bY e)):=by by_cases x:a.length=5;simp_all [a6.sI,bY];grind[a6.pt,bY]
 obtain⟨o,T,y,V⟩:=ya (b:=ek) (x:=i) ((a6.chunks a).map (List.map (bY e))) p [] (λb h=>by
  obtain⟨c,k,rfl⟩:=a5f.1 h;exact(nr C D (e+1) (a6.node c) (P c k)).1.oz)
 unfold ji;rw[S,T];refine⟨?_,y,λz d W=> ?_⟩
 .rw[a5d,a6L,a6L];rfl
 .obtain⟨b,h,rfl⟩:=a5f.1 W;exact⟨V z _ (a5f.2 ⟨b,h,rfl⟩),λc k=>G o y z c ((r b h).2.2.1 c k)⟩
theorem Ev:mg q b6<0↔bz q b6=true:=by grind[mg]
theorem yc (b:1<=e) (c:e<=8) (d:bO e q) (h:bO e b6):mg q b6=0↔q=b6:=by
 unfold mg;constructor
 .intro a;split at a
  .omega
  .rename_i k;split at a
   .omega
   .rename_i o;exact(gz b c).total q b6 d h (by simpa using k) (by simpa using o)
 .rintro rfl;rw[sO];simp
theorem yd {y:Nat} (z:1<=y) (C:y<=8) {c:List (List Int)}{k:List Int} (E:a6.jh bz c) (r: ∀h∈c,bO y h) (D:bO y k): ∀(p d a:Nat),d<=a->a<=c.length->a - d<=p->
  (∀b h,c[b]? =some h->b<d->bz h k=true)->(∀b h,c[b]? =some h->a<=b->bz h k=false)->
  (∀b h,c[b]? =some h->b<mi c k p d a->bz h k=true)/\(∀b h,c[b]? =some h->mi c k p d a<=b->bz h k=false)/\mi c k p d a<=c.length
 |0,d,a,T,F,V,h1,G=>by
  obtain rfl:d=a:=a9r;exact⟨h1,G,F⟩
 |p+1,d,a,T,F,V,h1,G=>by
  rw[mi];by_cases W:d<a
  .rw[if_pos W];have hm:(d+a)/2<c.length:=a9r;have e:c[(d+a)/2]? =some c[(d+a)/2]:=a4J hm;rw[e];simp only;have P:=a6I.1 E;have S:=r _ (a5o hm);by_cases o:mg c[(d+a)/2] k<0
   .rw[if_pos o];have o:=Ev.1 o;refine yd z C E r D p _ _ a9r F a9r (λb h L f=> ?_) G;by_cases he:b=(d+a)/2;simp_all
    .obtain⟨x,rfl⟩:=a4R.1 L;exact(gz z C).trans _ _ _ (r _ (a5o x)) S D (P b _ x hm a9r) o
   .rw[if_neg o];have o:bz c[(d+a)/2] k=false:=by simp_all [bz,absurd,Ev]
    refine yd z C E r D p _ _ a9r a9r a9r h1 (λb h L f=> ?_);by_cases he:b=(d+a)/2;simp_all
    .obtain⟨x,rfl⟩:=a4R.1 L;cases g:bz c[b] k with
     |false=>rfl
     |true=>have:=(gz z C).trans _ _ _ S (r _ (a5o x)) D (P _ b hm x a9r) g;rw[this]at o;cases o
  grind
theorem Ew (c:1<=e) (d:e<=8) (h:a6.jh bz O) (k: ∀a∈O,bO e a) (o:bO e q):
  (∀b a,O[b]? =some a->b<eZ O q->bz a q=true)/\(∀b a,O[b]? =some a->eZ O q<=b->bz a q=false)/\eZ O q<=O.length:=
 yd c d h k o O.length 0 O.length a9r (a5m _) a9r (λb a _ p=>by omega) (λb a r p=>by
  simp_all)
theorem Zs (h:1<=e) (k:e<=8) (o:a6.jh bz O) (p: ∀b∈O,bO e b) (r:bO e q):O.take (eZ O q)++q::O.drop (eZ O q)=a6.dR bz O q:=by
 obtain⟨D,x,E⟩:=Ew h k o p r;generalize eZ O q=a at*;have y: ∀b∈O.take a,bz b q=true:=λb z=>by
  obtain⟨F,G,rfl⟩:=a5A z;grind
 conv=>rhs;rw[<-a5r a O]
 rw[a6.xF y];congr 1;unfold a6.dR;cases C:O.drop a with
 |nil=>rfl
 |cons c d=>
  have:O[a]? =some c:=by have:=congrArg (λd=>d[0]?) C;simpa using this
  have:=x a c this (a5m _);simp[this]
theorem ye (d:1<=e) (h:e<=8) (k:a6.jh bz O) (x: ∀y∈O,bO e y) (c:bO e q):kF O q=decide (q∈O):=by
 obtain⟨F,z,G⟩:=Ew d h k x c;unfold kF;by_cases o:q∈O
 .obtain⟨a,hm,p⟩:=a5A o;have C:O[a]? =some q:=by rw[a4J hm,p]
  have D:=a6I.1 k;have E:a=eZ O q:=by
   rcases a8z a (eZ O q)with b|b|b;grind[sO]
   .exact b
   .have r:=D (eZ O q) a a9r hm b;rw[p]at r;have:=z (eZ O q) _ (a4J a9r) (a5m _);rw[r]at this;cases this
  rw[<-E,C,decide_eq_true o];simp only;rw[decide_eq_true];exact(yc d h c c).2 rfl
 grind[decide_eq_false,eZ,List.mem_of_getElem?,yc]
theorem Zt (d:1<=e) (h:e<=8) (p:a6.jh bz O) (k: ∀b∈O,bO e b) (o:bO e q) (r:q∈O):O.take (eZ O q)++O.drop (eZ O q+1)=O.filter λb=>decide (b≠q):=by
 have a:=ye d h p k o;rw[decide_eq_true r]at a;unfold kF at a;generalize eZ O q=x at*;cases c:O[x]? with
 |none=>rw[c]at a;cases a
 |some b=>rw[c]at a;simp only[decide_eq_true_eq]at a;obtain rfl:=(yc d h (k b (a4Q c)) o).1 a;have y:=a6.qS c;grind[List.pairwise_cons,List.filter_cons_of_neg,a6.filter_none,sO]
def jX:H.le (dv H e e0).2:=by
 unfold dv;split
 .exact ag.le_refl
 .exact lv _ _
def yf {h:Type}{c:List h->c5}{d:Nat}: ∀(gs:List (List h)) (a:ag) (b:List ay),a.le (ez c d a gs b).2
 | [],a,b=>ag.le_refl
 |k::gs,a,b=>by
  have o:=jX (H:=a) (e:=d) (e0:=c k);rw[ez];generalize dv a d (c k)=p at*;obtain⟨r,x⟩:=p;cases r with
  |error z=>exact o
  |ok y=>exact o.trans (yf gs x (b++ [y]))
def Ex:H.le (nm H e O).2:=yf _ _ _
def yg {a:List ay}:H.le (ji H e a).2:=yf _ _ _
def Ey {c:Nat}{b:List Int}: ∀(d:Nat) (a:ag) (h:ay),a.le (gx c b d a h).2
 |0,a,h=>ag.le_refl
 |d+1,a,h=>by
  rw[gx];cases iI a c h with
  |none=>exact ag.le_refl
  |some k=>
   simp only;by_cases o:k.kind=2
   .rw[if_pos o];by_cases p:kF (k.rows.map Prod.fst) b=true
    .rw[if_pos p];exact ag.le_refl
    .rw[if_neg p];exact Ex
   .rw[if_neg o];cases k.kids[hA b k]? with
    |none=>exact ag.le_refl
    |some r=>
     have x:=Ey (c:=c) (b:=b) d a r;simp only;generalize gx c b d a r=y at*;obtain⟨z,C⟩:=y;cases z with
     |error D=>exact x
     |ok E=>exact x.trans yg
def Ez {d:Nat}: ∀(h:Nat) (a:ag) (b:List ay),a.le (ib d h a b).2
 |0,a,b=>ag.le_refl
 |h+1,a,b=>by
  rw[ib];by_cases c:1<b.length
  .rw[if_pos c];have c:=yg (H:=a) (e:=d) (a:=b);generalize ji a d b=k at*;obtain⟨o,p⟩:=k;cases o with
   |error x=>exact c
   |ok r=>exact c.trans (Ez h p r)
  .rw[if_neg c];exact ag.le_refl
def EA:H.le (iJ e q H w).2:=by
 unfold iJ;split
 .exact jX
 .have a:=Ey (c:=e) (b:=q) (w.size.toNat+1) H w;generalize gx e q (w.size.toNat+1) H w=b at*;obtain⟨c,d⟩:=b;cases c with
  |error h=>exact a
  |ok k=>exact a.trans (Ez _ _ _)
variable{I:Bool}
theorem EB {a:List ay}:H.le (mh H e I O a).2:=by unfold mh;split<;>exact jX
theorem join_le {a b:ic}:H.le (kG H e a b).2:=by
 unfold kG;split
 .exact Ex
 .exact yg
theorem Zu {c:List ay}{a:ic}:H.le (jU H e c i a).2:=by
 unfold jU;by_cases b:2<=a.rows.length+a.kids.length
 .rw[if_pos b];grind[EB,mh]
 .rw[if_neg b];grind[ag.le_refl,iI,join_le,fP,kG]
def EC {d:Nat}{b:List Int}: ∀(k:Nat) (c:ag) (o:ay),c.le (ie d b k c o).2
 |0,c,o=>ag.le_refl
 |k+1,c,o=>by
  rw[ie];cases iI c d o with
  |none=>exact ag.le_refl
  |some a=>
   simp only;by_cases h:a.kind=2
   .rw[if_pos h];by_cases y:kF (a.rows.map Prod.fst) b=true
    .rw[if_pos y];exact ag.le_refl
    .rw[if_neg y];exact ag.le_refl
   .rw[if_neg h];cases a.kids[hA b a]? with
    |none=>exact ag.le_refl
    |some z=>
     have p:=EC (d:=d) (b:=b) k c z;simp only;generalize ie d b k c z=r at*;obtain⟨x,C⟩:=r;cases x with
     |error E=>exact p
     |ok D=>
      have h:=Zu (H:=C) (e:=d) (c:=a.kids) (i:=hA b a) (a:=D);simp only;generalize jU C d a.kids (hA b a) D=r at*;obtain⟨x,F⟩:=r;cases x with
      |error E=>exact p.trans h
      |ok G=>exact p.trans h
theorem ED:H.le (kH e q H w).2:=by
 unfold kH;split
 .exact ag.le_refl
 .have a:=EC (d:=e) (b:=q) (w.size.toNat+1) H w;generalize ie e q (w.size.toNat+1) H w=b at*;obtain⟨c,d⟩:=b;cases c with
  |error h=>exact a
  |ok k=>
   simp only;split
   .exact a
   .split
    .exact a
    .exact a.trans EB
def ij (a b:Int):Int:=if a<b then -1 else if b<a then 1 else 0
def fR:List Int->List Int->Int
 | [],[]=>0
 | [],_:: _=> -1
 | _:: _,[]=>1
 |a::c,b::d=>if ij a b=0 then fR c d else ij a b
def EE (b:Int) (a:U):AC Tryz.prog 269 [.v (.int .i64 b)] a λc d=>d=a/\c= .v (.bool false):=by
 refine aO hm QR ?_
 repeat' first|refine aH (λ_=> ?_) λ_=> ?_|trivial
def EF (b c:Int) (a:U):AC Tryz.prog 185 [.v (.int .i64 b),.v (.int .i64 c)] a λd h=>h=a/\d= .v (.int .i64 (ij b c)):=by
 refine aO hm OL ?_;refine bk (EE b a) ?_;refine bk (EE c a) ?_
 repeat' first|refine aH (λ_=> ?_) λ_=> ?_|trivial
 .rw[ij,if_pos‹_›]
 .rw[ij,if_neg‹_›,if_pos‹_›]
 .rw[ij,if_neg‹_›,if_neg‹_›]
theorem drop_cons {a:List b0}{b:b0} (c:e<a.length):a.drop e=a.getD e b::a.drop (e+1):=by simp_all
theorem sQ {a:List b0} (b:a.length<=e):a.drop e= []:=a5x b
theorem EG (a c:List Int) (h k:Own) (d:U) (y:a.length<=1000000000000):AC Tryz.prog 120 [.J (ad a) h,.J (ad c) k] d λo p=>p=d/\o= .v (.int .i64 (fR a c)):=by
 have z:=bI (q:=a);have C:=bI (q:=c);have D:= @dP a;have E:= @dP c;refine aO hm MM ?_;refine gP [0,1,9,10] (λb:Nat=> [(11,.v (.int .i64 b))]) (λb=>b<=a.length/\b<=c.length/\fR a c=fR (a.drop b) (c.drop b)) (λb=>a.length - b) 0 ⟨a9r,a9r,rfl⟩ aU ?_;rintro b ⟨F,G,L⟩ P;refine aa ?_;refine aH (λr=> ?_) λr=> ?_
 .refine aH (λx=> ?_) λx=> ?_
  .rw[drop_cons (a:=a) (b:=0) a9r,sQ (a:=c) a9r,fR]
  .have S:=drop_cons (a:=a) (b:=0) (e:=b) a9r;have T:=drop_cons (a:=c) (b:=0) (e:=b) a9r;refine bk (EF _ _ _) ?_;refine aH (λc2=> ?_) λc2=> ?_
   .rw[fR,if_neg c2]
   .rw[fR,if_pos a9r];grind
 .repeat' first|refine aH (λ_=> ?_) λ_=> ?_|trivial
  .rw[sQ (a:=a) a9r,drop_cons (a:=c) (b:=0) a9r,fR]
  grind[sQ,fR]
def cO (a:Nat) (b c:List Int):Int:=if ij (b.getD a 0) (c.getD a 0)=0 then fR b c else ij (b.getD a 0) (c.getD a 0)
def EH (a b:List Int) (o p:Own) (c:Nat) (d:U) (h:Nat) (z:d.read h=some [.v (.int .i64 (c:Int))]) (C:c<a.length) (D:c<b.length) (r:a.length<=1000000000000):
  AC Tryz.prog 336 [.J (ad a) o,.J (ad b) p,.ptr h 0] d λx y=>y=d/\x= .v (.int .i64 (cO c a b)):=by
 have E:= @dP a;have F:= @dP b;refine aO hm Se ?_;refine bk (EF _ _ _) ?_;refine aH (λk=> ?_) λk=> ?_
 .rw[cO,if_neg k]
 .refine bk (EG _ _ _ _ _ r) ?_;rw[cO,if_pos a9r]
def EI (o a b:Nat) (y:0<a) (z:b<=1000000000000) (C:a<=8) (d:U):
  AC Tryz.prog 299 [dY o a,.v (.int .i64 (b:Int))] d λp h=>d.sub h/\ ∃c,h c=some (.cells [.v (.int .i64 ((b%a:Nat):Int))])/\d c=none/\p= .bH 336 [] [.ptr c 0]:=by
 have D:(b:Int).tmod (a:Int)=((b%a:Nat):Int):=rfl;have E: ¬(a:Int)=0:=a9r;refine aO hm Ry ?_;refine br λc r=> ?_;refine db λx k F G=> ?_;refine⟨_,U.a1,?_,x,U.ah _ _ _,k,rfl⟩;exact U.ae (U.ae U.a1 r) k
def EJ (c d:List Int) (h k:Own) (o a b:Nat) (p:0<a) (x:a<=8) (y:b<=1000000000000) (P:c.length=a) (S:d.length=a) (r:U):
  AC Tryz.prog 231 [dY o a,.J (ad c) h,.J (ad d) k,.v (.int .i64 (b:Int))] r λz C=>C=r/\z= .v (.int .i64 (if cO (b%a) c d<0 then 0 else 1)):=by
 have T:=a6U b p;refine aO hm PZ ?_;refine br λV D=> ?_;refine ai (EI o a b p y x _) ?_;rintro _ E ⟨F,G,L,_,rfl⟩;refine aa ?_;refine fJ a9w (EH c d h k (b%a) E G (U.af L) a9r a9r a9r) ?_;rintro _ _ ⟨rfl,rfl⟩;refine aa ?_
 repeat' first|refine aH (λ_=> ?_) λ_=> ?_|trivial
 all_goals exact U.aq (U.ae U.a1 D) F
structure oB where
 prev:List UInt8
 num:Int
 ops:List UInt8
 EK:List UInt8
 deriving DecidableEq
def oB.ok (a:oB):Prop:=a.prev.length=32/\a.ops.length=32/\a.EK.length=32
def Zv (a:List UInt8) (b:Int) (c d:List UInt8):List R:=a.map ak++(.v (.int .i64 b)::(c.map ak++d.map ak))
def oB.C (a:oB):List R:=Zv a.prev a.num a.ops a.EK
def oB.V (a:oB):R:= .agg a.C
def oB.may (a:oB):Bool:=decide (0<=a.num)&&decide (a.num<=1099511627776)
theorem yh (a:List UInt8) (b:Nat) (c:b<a.length):(⟨a.toArray⟩:ByteArray).get! b=a[b]:=by simp[ByteArray.get!,c]
theorem EL (a:List UInt8) (b:Nat) (c:b<a.length) (d:a[b].toNat<128):Utf8.decode ⟨a.toArray⟩ b=(a[b].toNat,1):=by simp[Utf8.decode,yh a b c,d]
theorem decode_high (b:List UInt8) (a:Nat) (E:a<b.length) (F:128<=b[a].toNat):
  128<=(Utf8.decode ⟨b.toArray⟩ a).1/\(Utf8.decode ⟨b.toArray⟩ a).1<=1114111/\1<=(Utf8.decode ⟨b.toArray⟩ a).2/\a+(Utf8.decode ⟨b.toArray⟩ a).2<=b.length/\
   ∀c,(r:c<b.length)->a<=c->c<a+(Utf8.decode ⟨b.toArray⟩ a).2->128<=b[c].toNat:=by
 have f: ∀c,(r:c<b.length)->a<=c->c<a+1->128<=b[c].toNat:=λc r G x=>by
  grind
 have h: ∀k,(a+k<b.length/\((⟨b.toArray⟩:ByteArray).get! (a+k)).toNat/64=2)-> ∃E:a+k<b.length,128<=b[a+k].toNat:=λk g=>by
  grind[yh]
 have S:(⟨b.toArray⟩:ByteArray).size=b.length:=mS b;have T:((⟨b.toArray⟩:ByteArray).get! (a+0)).toNat=b[a].toNat:=by rw[a6z,yh b a E]
 have i:b[a].toNat<256:=b[a].toNat_lt;unfold Utf8.decode;simp only[T,S];rw[if_neg a9r];have v: ∀z:Nat,Utf8.valid (z:Int)=true->z<=1114111:=λz d=>by
  simp only[Utf8.valid,a6u,a4M,decide_eq_true_eq]at d;omega
 split
 .rename_i d;simp only[a4M,decide_eq_true_eq,beq_iff_eq]at d;obtain⟨L,o⟩:=d;obtain⟨P,y⟩:=h 1 o;split;grind;grind[Utf8.runeError]
 .split
  .rename_i d;simp only[a4M,decide_eq_true_eq,beq_iff_eq]at d;obtain⟨⟨L,o⟩,C⟩:=d;obtain⟨P,y⟩:=h 1 o;obtain⟨V,D⟩:=h 2 C;split
   .rename_i p;simp only[a4M,decide_eq_true_eq]at p;refine⟨by simp only;omega,v _ p.2,a9s,a9t,λc r G x=> ?_⟩;rcases(by simp only at x;omega:c=a\/c=a+1\/c=a+2)with rfl|rfl|rfl
    .exact F
    .exact y
    .exact D
   grind[Utf8.runeError]
  .split
   .rename_i d;simp only[a4M,decide_eq_true_eq,beq_iff_eq]at d;obtain⟨⟨⟨L,o⟩,C⟩,W⟩:=d;obtain⟨P,y⟩:=h 1 o;obtain⟨V,D⟩:=h 2 C;obtain⟨j,e⟩:=h 3 W;split
    .rename_i p;simp only[a4M,decide_eq_true_eq]at p;refine⟨by simp only;omega,v _ p.2,a9s,a9t,λc r G x=> ?_⟩;rcases(by simp only at x;omega:c=a\/c=a+1\/c=a+2\/c=a+3)with rfl|rfl|rfl|rfl
     .exact F
     .exact y
     .exact D
     .exact e
    grind[Utf8.runeError]
   grind[Utf8.runeError]
def fS (b:Nat) (a:Int):Bool:=(decide (97<=a)&&decide (a<=122))||(!decide (b=0)&&((decide (48<=a)&&decide (a<=57))||decide (a=95)))
def lx (b:ByteArray):Nat->Nat->Bool
 |0,_=>true
 |c+1,a=>if a<b.size then fS a (Utf8.decode b a).1&&lx b c (a+(Utf8.decode b a).2)else true
def jY (a:List UInt8):Bool:=lx ⟨a.toArray⟩ (a.length+1) 0&&decide (1<=a.length/\a.length<=16)
theorem Zw (a:List UInt8) (b:Nat) (c:b<a.length):1<=(Utf8.decode ⟨a.toArray⟩ b).2/\b+(Utf8.decode ⟨a.toArray⟩ b).2<=a.length/\(Utf8.decode ⟨a.toArray⟩ b).1<=1114111:=by grind[EL,decode_high]
def sR:qq (bd B)=some (.v (.int .i64 B.length)):=wP
theorem EM (a:List UInt8) (l:a.length<=1000000) (k:U):
  AC Tryz.prog 77 [bd a] k λe o=>o=k/\e= .v (.bool (jY a)):=by
 refine bf hm Lv a9s ?_;have f: ∀(G:Nat->ByteArray->Prop) (V:cD G),wV (bd a) k (bP G V)=iZ k (c4 (λg=>G g ⟨a.toArray⟩) ()):=λG V=>Ca;refine aF @f ?_;refine aP λr y=> ?_;refine eE ?_;refine cv (λP o=> ∃x b:Nat,b<=a.length/\a.length<x+b/\lx ⟨a.toArray⟩ x b=lx ⟨a.toArray⟩ (a.length+1) 0/\k.sub o/\o r=some (.it ⟨a.toArray⟩ b)/\P 0=bd a/\P 7= .ptr r 0)
  (λ_ o=>match o r with|some (.it _ b)=>a.length - b| _=>0) ⟨a.length+1,0,a9r,a9r,rfl,U.ae U.a1 y,U.ah _ _ _,?_⟩ ?_
 .exact qx
 .rintro P o ⟨x,b,m,n,z,C,S,p,h⟩;refine aF @h ?_;by_cases D:b<a.length
  .obtain⟨x,rfl⟩: ∃i,x=i+1:=⟨x - 1,a9r⟩;obtain⟨q,s,t⟩:=Zw a b D;have j:(⟨a.toArray⟩:ByteArray).size=a.length:=mS a;rw[lx,if_pos (by rw[j];exact D)]at z;refine VJ S D ?_;generalize (Utf8.decode ⟨a.toArray⟩ b).1=c at*;generalize (Utf8.decode ⟨a.toArray⟩ b).2=E at*;have F (d:fS b c=false):jY a=false:=by rw[d,a7f]at z;rw[jY,<-z];rfl
   have u (d:fS b c=true):(∃W L:Nat,L<=a.length/\a.length<W+L/\lx ⟨a.toArray⟩ W L=lx ⟨a.toArray⟩ (a.length+1) 0/\k.sub (o.set r (.it ⟨a.toArray⟩ (b+E)))/\(o.set r (.it ⟨a.toArray⟩ (b+E))) r=some (.it ⟨a.toArray⟩ L)):=by rw[d,a6o]at z;grind[U.ae,U.ah]
   have T:((b:Int)=0)=(b=0):=a9s;have v:(match o r with|some (.it _ b)=>a.length - b| _=>0)=a.length - b:=by rw[S]
   have w:(match(o.set r (.it ⟨a.toArray⟩ (b+E))) r with|some (.it _ b)=>a.length - b| _=>0)=a.length -(b+E):=by rw[U.ah]
   have A:a.length -(b+E)<a.length - b:=a9r;by_cases hC:(97:Int)<=(c:Int)
   .by_cases a2:(c:Int)<=122
    .have d:fS b c=true:=by simp[fS,hC,a2]
     refine aF (aM @p @h @hC @a2) ?_;simp_all
    .by_cases a0:(b:Int)=0
     .have d:fS b c=false:=by simp[fS,hC,a2];omega
      refine aF (bp @p @h @hC @a2 @a0) ?_;exact⟨k,U.ae C y,rfl,by rw[F d]⟩
     .have d:fS b c=false:=by simp[fS,hC,a2];omega
      have a3: ¬(c:Int)<48:=a9r;have a4:(57:Int)<c:=a9r;have a5: ¬(c:Int)=95:=a9r;refine aF (bw @p @h @hC @a2 @a0 @a3 @a4 @a5) ?_;exact⟨k,U.ae C y,rfl,by rw[F d]⟩
   .by_cases a0:(b:Int)=0
    .have d:fS b c=false:=by simp[fS,hC];omega
     refine aF (aM @p @h @hC @a0) ?_;exact⟨k,U.ae C y,rfl,by rw[F d]⟩
    .have T: ¬b=0:=a9r;by_cases a3:(c:Int)<48
     .have d:fS b c=false:=by simp[fS,hC];omega
      have a5: ¬(c:Int)=95:=a9r;refine aF (bD @p @h @hC @a0 @a3 @a5) ?_;exact⟨k,U.ae C y,rfl,by rw[F d]⟩
     .by_cases a4:(57:Int)<c
      .by_cases a5:(c:Int)=95
       .have d:fS b c=true:=by simp[fS,hC,a5,T]
        refine aF (cd @p @h @hC @a0 @a3 @a4 @a5) ?_;simp_all
       .have d:fS b c=false:=by simp[fS,hC,a5];omega
        refine aF (cd @p @h @hC @a0 @a3 @a4 @a5) ?_;exact⟨k,U.ae C y,rfl,by rw[F d]⟩
      .have d:fS b c=true:=by simp[fS,hC,T];omega
       refine aF (bD @p @h @hC @a0 @a3 @a4) ?_;simp_all
  .have B:jY a=decide (1<=a.length/\a.length<=16):=by
    have:lx ⟨a.toArray⟩ x b=true:=by
     cases x with
     |zero=>rfl
     |succ x=>rw[lx,if_neg (by rw[mS];exact D)]
    rw[jY,<-z,this,a6o]
   refine VK S D ?_;by_cases d1:(1:Int)<=a.length
   .by_cases d2:(a.length:Int)<=16
    .refine aF (bp @p @h @sR @d1 @d2) ?_;grind
    .refine aF (bp @p @h @sR @d1 @d2) ?_;grind
   .refine aF (aM @p @h @sR @d1) ?_;grind
def bF (a:List (List UInt8)):List R:=a.map bd
def hD {a:List (List UInt8)}:(bF a).length=a.length:=by simp[bF]
def pA {a:List (List UInt8)}{b:Nat} (c:b<a.length):(bF a)[b]? =some (bd (a.getD b [])):=by simp[bF,c,List.getD]
def yi:eD 1 (some (bd B))=some (.bW [bd B]):=rfl
theorem Zx (a:List (List UInt8)) (C:Own) (h:List UInt8) (T:a.length<=1000000) (d:U):
  AC Tryz.prog 224 [.J (bF a) C,bd h] d λG o=>o=d/\ ∃k:Int,G= .v (.int .i64 k)/\decide (0<=k)=decide (h∈a):=by
 refine bf hm PN a9s ?_;have L:=hD (a:=a);refine aF @L ?_;refine cv (λc o=> ∃b:Nat,b<=a.length/\o=d/\h∉a.take b/\c 0= .J (bF a) C/\c 1=bd h/\c 7= .v (.int .i64 a.length)/\c 8= .v (.int .i64 b))
  (λc _=>match c 8 with| .v (.int _ k)=>(a.length - k).toNat| _=>0) ⟨0,a9r,rfl,a9s,?_⟩ ?_
 .exact qx
 .rintro c d ⟨b,V,rfl,W,p,r,x,y⟩;by_cases z:(b:Int)<a.length
  .have D:b<a.length:=a9r;have E:=pA D;have P:a.getD b []∈a:=by simp[List.getD,D]
   have e:a.take (b+1)=a.take b++ [a.getD b []]:=by simp_all
   generalize a.getD b []=S at*;by_cases F:h=S
   .refine aF (ds @p @r @x @y @z @hn @E @yi @F) ?_;refine⟨d,U.a1,rfl,b,rfl,?_⟩;simp[P]
   .refine aF (ds @p @r @x @y @z @hn @E @yi @F) ?_;grind
  .obtain rfl:b=a.length:=a9r;refine aF (bp @p @r @x @y @z) ?_;refine⟨d,U.a1,rfl,-1,rfl,?_⟩;simp_all
def Zy (b:List (List UInt8)) (d:Own) (c:List UInt8) (h:b.length<=1000000) (a:U):
  AC Tryz.prog 146 [.J (bF b) d,bd c] a λk o=>o=a/\k= .v (.bool (decide (c∈b))):=by
 refine bf hm Nw a9s ?_;refine eE ?_;refine ai (Zx b d c h a) ?_;rintro _ a ⟨rfl,r,rfl,p⟩;refine aF @p ?_
 all_goals exact⟨a,U.a1,rfl⟩
def ml (a:List (List UInt8)) (b:Nat):Bool:=jY (a.getD b [])&&(!decide (a.getD b []= [105,100])&& !decide (a.getD b []∈a.take b))
def ns (a:List (List UInt8)):Bool:=(List.range a.length).all (ml a)&&decide (1<=a.length/\a.length<=7)
theorem yj {a:List (List UInt8)} (b:e<a.length) (c:ml a e=false):ns a=false:=by grind[ns,Bool.and_eq_false_iff,List.all_eq_false]
theorem Zz {a:List (List UInt8)} (c: ∀b,b<a.length->ml a b=true):ns a=decide (1<=a.length/\a.length<=7):=by
 have:(List.range a.length).all (ml a)=true:=by simp_all
 rw[ns,this,a6o]
theorem ZA (a:List (List UInt8)) (y:Own) (n:a.length<=1000000) (V: ∀W∈a,W.length<=1000000) (c:U):
  AC Tryz.prog 78 [.J (bF a) y] c λe E=>E=c/\e= .v (.bool (ns a)):=by
 refine bf hm Lx a9s ?_;have z:=hD (a:=a);refine aF @z ?_;refine cv (λr E=> ∃b:Nat,b<=a.length/\E=c/\(∀C,C<b->ml a C=true)/\r 0= .J (bF a) y/\r 5= .J (bF a) y/\r 6= .v (.int .i64 a.length)/\r 7= .v (.int .i64 b))
  (λr _=>match r 7 with| .v (.int _ f)=>(a.length - f).toNat| _=>0) ⟨0,a9r,rfl,λC g=>by omega,?_⟩ ?_
 .exact qx
 .rintro r c ⟨b,q,rfl,i,h,k,o,p⟩;by_cases D:(b:Int)<a.length
  .have x:b<a.length:=a9r;have j:=pA x;have l:a.getD b []∈a:=by simp[List.getD,x]
   have P:ml a b=(jY (a.getD b [])&&(!decide (a.getD b []= [105,100])&& !decide (a.getD b []∈a.take b))):=rfl;generalize a.getD b []=d at*;refine aF (bw @h @k @o @p @D @hn @j @yi) ?_;refine ai (EM d (V d l) c) ?_;rintro _ c ⟨rfl,rfl⟩;cases S:jY d
   .refine aF (aM @h @k @o @p) ?_;exact⟨c,U.a1,rfl,by rw[yj x (by rw[P,S];rfl)]⟩
   .have s:(bF a).take b=bF (a.take b):=by simp[bF,a7K]
    by_cases F:d= [105,100]
    .have G:jb .eql (bd d) (.v (.string ⟨#[105,100]⟩))=some (.v (.bool true)):=by have:=qv (a:=d) (b:= [105,100]);rw[decide_eq_true F]at this;exact this
     refine aF (bp @h @k @o @p @G) ?_;exact⟨c,U.a1,rfl,by rw[yj x (by rw[P,S,decide_eq_true F];rfl)]⟩
    .have G:jb .eql (bd d) (.v (.string ⟨#[105,100]⟩))=some (.v (.bool false)):=by have:=qv (a:=d) (b:= [105,100]);rw[decide_eq_false F]at this;exact this
     have m:dO 1 (.J (bF a) y) none (some (.v (.int .i64 (b:Int))))=some (.J (bF (a.take b)) .any):=by grind[nV,aN,bF,bd,R.cells,Int.toNat_natCast]
     refine aF (bD @h @k @o @p @G @m) ?_;refine ai (Zy (a.take b) _ d (by rw[a4N];omega) c) ?_;rintro _ c ⟨rfl,rfl⟩;by_cases T:d∈a.take b
     .refine aF (bp @h @k @o @p @T) ?_;exact⟨c,U.a1,rfl,by rw[yj x (by simp_all)]⟩
     .refine aF (bp @h @k @o @p @T) ?_;refine⟨⟨b+1,a9r,λC g=> ?_,a9s⟩,a9r⟩;grind
  .obtain rfl:b=a.length:=a9r;have L:=Zz i;by_cases d1:(1:Int)<=a.length
   .by_cases d2:(a.length:Int)<=7
    .refine aF (bw @h @k @o @p @D @z @d1 @d2) ?_;exact⟨c,U.a1,rfl,by rw[L];simp;omega⟩
    .refine aF (bw @h @k @o @p @D @z @d1 @d2) ?_;exact⟨c,U.a1,rfl,by rw[L];simp;omega⟩
   .refine aF (cd @h @k @o @p @D @z @d1) ?_;exact⟨c,U.a1,rfl,by rw[L];simp;omega⟩
structure cq where
 kind:UInt8
 table:List UInt8
 aC:List (List UInt8)
 row:List Int
structure cg where
 d:cq
 gy:Own
 dp:Own
def cg.C (a:cg):List R:= [ak a.d.kind,bd a.d.table,.J (bF a.d.aC) a.gy,.J (ad a.d.row) a.dp]
def cg.V (a:cg):R:= .agg a.C
def cg.ZB {a:cg}:a.C.length=4:=rfl
def cg.m1 {a:cg}:aY false 1 (a.C.drop 1)=bd a.d.table:=rfl
def cg.m2 {a:cg}:aY false 1 (a.C.drop 2)= .J (bF a.d.aC) a.gy:=rfl
def cg.m3 {a:cg}:aY false 1 (a.C.drop 3)= .J (ad a.d.row) a.dp:=rfl
def cq.ok (a:cq):Prop:=a.table.length<=16/\a.aC.length<=8/\(∀b∈a.aC,b.length<=16)/\a.row.length<=255
def eb (a:cq):Bool:=jY a.table&&
  (if a.kind.toNat=1 then ns a.aC&&decide (a.row.length=0)
   else if a.kind.toNat=2 then decide (a.aC.length=0)&&decide (a.row.length=0)
   else if a.kind.toNat=3\/a.kind.toNat=4 then decide (a.aC.length=0)&&(decide (2<=a.row.length)&&decide (a.row.length<=8))
   else false)
structure cq.Fit (d:cq):Prop where
 t:d.table.length<=1000000
 c:d.aC.length<=1000000
 cs: ∀c∈d.aC,c.length<=1000000
 r:d.row.length<=1000000
def EN (a:cg) (k:a.d.Fit) (b:U):
  AC Tryz.prog 46 [a.V] b λo p=>p=b/\o= .v (.bool (eb a.d)):=by
 obtain⟨⟨r,d,c,h⟩,x,y⟩:=a;obtain⟨z,C,D,G⟩:=k;have L:=hD (a:=c);have P:=bI (q:=h);show AC _ _ [.agg [ak r,bd d,.J (bF c) x,.J (ad h) y]] b _;refine aO hm KJ ?_;refine br λS T=> ?_;refine bk (EM d z _) ?_;refine aH (λE=> ?_) λE=> ?_
 .rw[eb];exact aQ
 refine aH (λF=> ?_) λF=> ?_
 .refine bk (ZA c _ C D _) ?_
  repeat' first|refine aH (λ_=> ?_) λ_=> ?_|trivial
  all_goals (rw[eb];exact aQ)
 repeat' first|refine aH (λ_=> ?_) λ_=> ?_|trivial
 all_goals (rw[eb];exact aQ)
def ZC (a b c d:List Int) (k o p r:Own) (h:U) (C:a.length<=1000000000000) (D:b.length<=1000000000000):
  AC Tryz.prog 167 [ey a b k o,ey c d p r] h λx y=>y=h/\x= .v (.bool (decide (a=c)&&decide (b=d))):=by
 refine aO hm Oc ?_;refine br λE F=> ?_;refine db λG L P S=> ?_;refine bk (np _ _ _ _ _ a9r) ?_;refine aH (λz=> ?_) λz=> ?_
 .refine bk (np _ _ _ _ _ a9r) trivial
 trivial
def nt (b:Nat) (a:UInt8):Bool:=(decide (97<=a.toNat)&&decide (a.toNat<=122))||(!decide (b=0)&&((decide (48<=a.toNat)&&decide (a.toNat<=57))||decide (a.toNat=95)))
def nu (a:List UInt8):Bool:=(List.range a.length).all (λb=>nt b (a.getD b 0))&&(decide (0<a.length)&&decide (a.length<17))
def EO (a:List UInt8) (d:U) (y:a.length<=1000000):
  AC Tryz.prog 88 [bd a] d λp h=>h=d/\p= .v (.bool (nu a)):=by
 refine aO hm LS ?_;refine cj [0] (λb:Nat=> [(3,.v (.int .i64 b))]) (λb h=>h=d/\b<=a.length/\ ∀c<b,nt c (a.getD c 0)=true) (λb=>a.length - b) 0 ?_ ?_
 .refine aa ?_;simp
 rintro b _ ⟨rfl,z,k⟩ C;refine aa ?_;refine aH (λr=> ?_) λr=> ?_
 .have x:nt b (a.getD b 0)=false->nu a=false:=λo=>by rw[nu,sg a9r o];rfl
  repeat' first|refine aH (λ_=> ?_) λ_=> ?_|trivial
  all_goals first
   |omega
   |(rw[x (by rw[nt];exact qz)])
   |exact⟨b+1,⟨a9r,upto k (by rw[nt];exact qz)⟩,rfl,a9r⟩
 have D:nu a=(decide (0<a.length)&&decide (a.length<17)):=by rw[nu,sh λc o=>k c a9r];rfl
 repeat' first|refine aH (λ_=> ?_) λ_=> ?_|trivial
 all_goals exact aQ
def ly (a:List (List UInt8)) (b:Nat):Bool:=nu (a.getD b [])&&(!decide (a.getD b []= [105,100])&&(List.range b).all λc=> !decide (a.getD c []=a.getD b []))
def yk (a:List (List UInt8)):Bool:=(List.range a.length).all (ly a)
def oC (a:cq):Bool:=nu a.table&&
  (if a.kind.toNat=1 then yk a.aC&&(decide (0<a.aC.length)&&(decide (a.aC.length<8)&&decide (a.row.length=0)))
   else if a.kind.toNat=2 then decide (a.aC.length+a.row.length=0)
   else(decide (a.kind.toNat=3)||decide (a.kind.toNat=4))&&(decide (a.aC.length=0)&&(decide (1<a.row.length)&&decide (a.row.length<9))))
theorem ZD (h:cg) (F:h.d.Fit) (k:U):
  AC Tryz.prog 51 [h.V] k λG L=>L=k/\G= .v (.bool (oC h.d)):=by
 obtain⟨⟨x,o,b,p⟩,P,S⟩:=h;obtain⟨y,T,z,V⟩:=F
 dsimp only at y T z V|-
 have l:=hD (a:=b);have m:=bI (q:=p);show AC _ _ [.agg [.v (.int .u8 x.toNat),bd o,.J (bF b) P,.J (ad p) S]] k _;refine aO hm KT ?_;refine br λn q=> ?_;refine bk (EO o _ y) ?_;refine aH (λW=> ?_) λW=> ?_
 .rw[oC];exact aQ
 refine aH (λe=> ?_) λe=> ?_
 .have s:yk b=(List.range b.length).all (ly b):=rfl;have t:= @pA b;have u: ∀r,jb .eql (bd r) (.v (.string ⟨#[105,100]⟩))=some (.v (.bool (decide (r= [105,100])))):=λr=>qv (b:= [105,100]);have f: ∀a,a<b.length->(b.getD a []).length<=1000000:=λa C=>z _ (by simp[List.getD,C]);refine gP [1] (λa:Nat=> [(3,.v (.int .i64 a))]) (λa=>a<=b.length/\ ∀d<a,ly b d=true) (λa=>b.length - a) 0 ⟨a9r,λd D=>by omega⟩ (aU) ?_;rintro a ⟨C,g⟩ i;refine aa ?_;refine aH (λc2=> ?_) λc2=> ?_
  .have E:ly b a=false->oC ⟨x,o,b,p⟩=false:=λD=>by grind[oC,sg]
   refine bk (EO _ _ (f a a9r)) ?_
   repeat' first|refine aH (λ_=> ?_) λ_=> ?_|trivial
   .exact aR (E (by rw[ly];simp[*,-a5u])).symm
   .refine gP [1,3] (λc:Nat=> [(4,.v (.int .i64 c))]) (λc=>c<=a/\ ∀d<c,b.getD d []≠b.getD a []) (λc=>a - c) 0 ⟨a9r,λd D=>by omega⟩ (aU) ?_;rintro c ⟨v,j⟩ i;refine aa ?_;refine aH (λaI=> ?_) λaI=> ?_
    .refine aH (λaM=> ?_) λaM=> ?_;grind[aR,ly,sg]
     .exact⟨c+1,⟨a9r,upto j aM⟩,rfl,a9r⟩
    .refine⟨a+1,⟨a9r,upto g ?_⟩,rfl,a9r⟩;grind[ly,sh]
   .exact aR (E (by rw[ly];simp[*,-a5u])).symm
  repeat' first|refine aH (λ_=> ?_) λ_=> ?_|trivial
  all_goals grind[oC,sh,aQ]
 repeat' first|refine aH (λ_=> ?_) λ_=> ?_|trivial
 all_goals (rw[oC];exact aQ)
theorem ZE (a b:Nat) (h:a<18446744073709551616) (k:0<b):bo .quo (.int .u64 a) (.int .u64 (b:Int))=some (.int .u64 ((a/b:Nat):Int)):=by have c:bo .quo (.int .u64 a) (.int .u64 (b:Int))=(if(b:Int)=0 then none else some (.int .u64 (IntKind.u64.wrap ((a:Int).tdiv (b:Int))))):=rfl;have d:((a:Int).tdiv (b:Int))=((a/b:Nat):Int):=rfl;have o:a/b<=a:=a7N a b;rw[c,if_neg a9r,d];grind[wrap_u64]
def yl (b a:Nat) (d:0<a):bo .rem (.int .u64 b) (.int .u64 (a:Int))=some (.int .u64 ((b%a:Nat):Int)):=by have c:bo .rem (.int .u64 b) (.int .u64 (a:Int))=(if(a:Int)=0 then none else some (.int .u64 ((b:Int).tmod (a:Int)))):=rfl;rw[c,if_neg a9r];rfl
variable{n b3:R}{s a7:R -> U -> Prop}{f t e7:U}
theorem qW {c:List UInt8}{k:cD s} (r:ar t f 1 (c.map ak) n) (a:bN f 1 b3=some (e,B.map ak)) (x:c.length+B.length<=70368744177664)
  (y: ∀d h,ar t h 1 ((c++B).map ak) d->s d h):jL 1 1 f n b3 (bP s k):=by
 have z:B.length=e:=by
  unfold bN at a;split at a
  .split at a
   .rename_i C _ D;simp only[a4U,a5W]at a;have b:=congrArg List.length a.2;rw[dh (c:=1) (by simp_all)]at b;simp at b;omega
   .cases a
  .split at a
   .split at a
    .rename_i o _ p;simp only[a4U,a5W]at a;have b:=congrArg List.length a.2;simp at b;omega
    .cases a
   .cases a
  .split at a
   .split at a
    .rename_i o _ p;simp only[a4U,a5W]at a;have b:=congrArg List.length a.2;simp at b;omega
    .cases a
   .cases a
  .cases a
 grind[fk]
end Go.Proofs.YtlgnfcaolejgeaaGreat
namespace Go.bB
open Go
theorem ZF (a:Nat) (c:a<18446744073709551616):a^^^9223372036854775808=(a+9223372036854775808)%18446744073709551616:=by
 have h:(9223372036854775808:Nat)=2^63:=a9v;have d:(18446744073709551616:Nat)=2^64:=a9v;rw[d]at c;rw[h,d];apply a7q;intro b;rw[a8l,a9i,a8L,a8D];by_cases h1:b<63
 .rw[a8w h1];grind
 .by_cases k:b=63;grind
  .have o: ¬b<64:=a9r;have p:a.testBit b=false:=a6T (a5Z c (a6y a9r a9r));grind
end Go.bB
namespace Go.Proofs.YtlgnfcaolejgeaaGreat
open Go Go.bB
theorem ZG (a:Int):IntKind.u64.wrap (IntKind.u64.wrap a+9223372036854775808)=(cf a:Int):=by grind[ky,BitVec.ofInt,BitVec.toNat_ofInt,cf,BitVec.toNat_xor,ZF]
theorem ZH (b:Int) (k:U):
  AC Tryz.prog 193 [.v (.int .i64 b)] k λE h=>ar k h 1 ((hU b).map ak) E:=by
 refine bf hm P1 a9s ?_;refine aF (aI @ZG @ba @bb) ?_;have F:cf b<18446744073709551616:=(BitVec.ofInt 64 b^^^BitVec.ofInt 64 9223372036854775808).isLt;have G:hU b=cK (cf b):=rfl;rw[G];generalize cf b=c at*;refine wS (e:=8) a9r a9r λo p=> ?_;refine aF (c2 @ba @bb) ?_;refine cv (λd h=> ∃a:Nat,a<=8/\h=k.set o (.cells (List.replicate (8 - a) (ak 0)++((cK c).drop (8 - a)).map ak))/\d 4= .al o 8 8 1/\d 3= .v (.int .u64 ((c/256^a:Nat):Int))/\d 5= .v (.int .i64 (7 -(a:Int))))
  (λd _=>match d 5 with| .v (.int _ b)=>(b+8).toNat| _=>0) ⟨0,a9r,?_⟩ ?_
 .refine aF (c2 @ba @bb) ?_
  try (simp;try rfl)
 .rintro d h ⟨a,T,rfl,r,x,y⟩;by_cases z:(0:Int)<=7 -(a:Int)
  .have L:c/256^a<18446744073709551616:=Nat.lt_of_le_of_lt (a7N _ _) F;have C:=ZE (c/256^a) 256 L a9r;have D:=yl (c/256^a) 256 a9r;have P:((256:Nat):Int)=256:=rfl;rw[P]at C D;have S:(List.replicate (8 - a) (ak 0)++((cK c).drop (8 - a)).map ak).length=8:=by
    have:(cK c).length=8:=rfl;simp[this]
    try omega
   refine aF (cu @x @r @y @z @C @D @iy @S @ba @bb) ?_;refine⟨⟨a+1,a9r,?_,?_,by(congr 2;try omega)⟩,a9r⟩
   .congr 2;have ym:UInt8.ofNat (c/256^a%256)=UInt8.ofNat (c>>>(8*a)):=by grind[UInt8.toNat_inj,UInt8.toNat_ofNat',Nat.shiftRight_eq_div_pow,Nat.pow_mul]
    rw[ym];rcases(by omega:a=0\/a=1\/a=2\/a=3\/a=4\/a=5\/a=6\/a=7)with rfl|rfl|rfl|rfl|rfl|rfl|rfl|rfl<;>rfl
   .rw[Nat.div_div_eq_div_mul,<-a8F]
  .obtain rfl:a=8:=a9r;refine aF (bD @x @r @y @z @ba @bb) ?_;refine⟨_,U.a1,U.ae U.a1 p,.inr ⟨o,8,8,_,rfl,p,U.ah _ _ _,rfl,rfl,rfl,a9r,a9v⟩⟩
def ZI (b:Bool) (d:U):
  AC Tryz.prog 257 [.v (.bool b)] d λh k=>ar d k 1 ([if b then(1:UInt8)else 0].map ak) h:=by
 refine bf hm QN a9s ?_;cases b
 .refine aF (c2 @ba @bb) ?_;refine eT (by simp[aN,R.cells]) a9s λc a=> ?_;refine aF (c2 @ba @bb) ?_;exact⟨_,U.a1,U.ae U.a1 a,.inr ⟨c,1,1,_,rfl,a,U.ah _ _ _,rfl,rfl,rfl,a9r,a9v⟩⟩
 .refine aF (c2 @ba @bb) ?_;refine eT (by simp[aN,R.cells]) a9s λc a=> ?_;refine aF (c2 @ba @bb) ?_;exact⟨_,U.a1,U.ae U.a1 a,.inr ⟨c,1,1,_,rfl,a,U.ah _ _ _,rfl,rfl,rfl,a9r,a9v⟩⟩
structure yn where
 o:iD
 st:Int
 xn:Bool
 a:iD
 b:iD
def yn.ok (a:yn):Prop:=a.o.ok/\a.a.ok/\a.b.ok
section
variable {F:yn} (h:F.ok)
include h
end
def EP (b:Nat) (d:U) (r:b<=1000000000000):AC Tryz.prog 125 [.v (.int .i64 (b:Int))] d λk h=>fy d h (fo b) k:=by
 have x: ∀a:Nat,(a:Int).tdiv 65536=((a/65536:Nat):Int):=λ_=>rfl;have y: ∀a:Nat,(a:Int).tdiv 256=((a/256:Nat):Int):=λ_=>rfl;have z: ∀a:Nat,(a:Int).tmod 256=((a%256:Nat):Int):=λ_=>rfl;have C: ∀a:Nat,IntKind.u8.wrap (a:Int)=((UInt8.ofNat a).toNat:Int):=λa=>iy a;refine aO hm MS ?_;have o:fo b= [UInt8.ofNat (b/65536%256),UInt8.ofNat (b/256%256),UInt8.ofNat (b%256)]:=by have a: ∀c,UInt8.ofNat (c%256)=UInt8.ofNat c:=λc=>a5I.1 a9s;simp only[fo,a5E,a,Nat.reducePow]
 rw[o];refine u1 [_,_,_] (λD h p _=> ?_);exact⟨_,U.a1,p⟩
theorem uH (a:List Int) (r:Own) (o:U) (E:a.length<=1000000):AC Tryz.prog 126 [.J (ad a) r] o λd p=>fy o p (dz a) d:=by
 have F: ∀h:Nat,IntKind.u8.wrap (h:Int)=((UInt8.ofNat h).toNat:Int):=λh=>iy h;have G:=bI (q:=a);refine aO hm MU ?_;refine u1 [UInt8.ofNat a.length] (λd L x _=> ?_);refine cj [0] (λb:Nat×R=> [(4,.v (.int .i64 b.1)),(3,b.2)]) (λb p=>b.1<=a.length/\fy o p (UInt8.ofNat a.length::(a.take b.1).flatMap hU) b.2) (λb=>a.length - b.1) (0,d) ⟨⟨a9r,by simpa using x⟩,aU⟩ ?_;rintro⟨c,d⟩ P ⟨y,k⟩ S
 dsimp only at y k|-
 have T:= @dP a;refine aa ?_;refine aH (λz=> ?_) λz=> ?_
 .refine hS (ZH _ _) λV W C=> ?_;have e:=oc (a.take c);have f:(a.take c).length=c:=a9t;have g: ∀D,(hU D).length=8:=λ_=>rfl;refine mW k C λa4 i j _=> ?_;refine⟨(c+1,a4),⟨by simp only;omega,?_⟩,⟨rfl,rfl⟩,by simp only;omega⟩;grind[eU]
 .obtain rfl:c=a.length:=a9r;rw[a5h]at k;exact⟨_,U.a1,k⟩
def ER (a b:ay) (c d h k o p:Own) (r:U) (x:a.sum.length=32) (y:b.sum.length=32) (z:a.cF):
  AC Tryz.prog 101 [.agg (ab a c d h),.agg (ab b k o p)] r λC D=>D=r/\C= .v (.bool (decide (a=b))):=by
 have L:=(aX (N:=c) (e5:=d) (h5:=h) x).all;have P:=(aX (N:=k) (e5:=o) (h5:=p) y).all;rw[D9];generalize ab a c d h=S at*;generalize ab b k o p=T at*;obtain⟨E,F,G⟩:=z;have V:dC [(32,.int .u8)] (a.sum.map ak):=pq x;have W:dC [(32,.int .u8)] (b.sum.map ak):=pq y;have e:= @sz a.sum b.sum;refine aO hm Md ?_;refine br λf g=> ?_;refine db λi j l m=> ?_
 repeat' first|refine aH (λ_=> ?_) λ_=> ?_|trivial
 all_goals first
  |exact aQ
  |refine bk (ZC _ _ _ _ _ _ _ _ _ E F) ?_
   repeat' first|refine aH (λ_=> ?_) λ_=> ?_|trivial
   all_goals first
    |exact aQ
    |refine bk (np _ _ _ _ _ G) ?_
     first|trivial|exact aQ
structure aK where
 name:List UInt8
 aC:List (List UInt8)
 bL:ay
 ck:ay
 deriving DecidableEq
instance:Inhabited aK:=⟨⟨[],[],aA,aA⟩⟩
structure eu (t:aK) (T:List R):Prop where
 e: ∃gy hv eX a nv nw b,T=bd t.name:: .J (bF t.aC) gy::(ab t.bL hv eX a++ab t.ck nv nw b)
 k:t.bL.sum.length=32/\t.bL.cF
 z:t.ck.sum.length=32/\t.ck.cF
 c:t.aC.length<=1000000
def dE (a:aK) (b:R):Prop:= ∃T,b= .agg T/\eu a T
variable{g A e1:List R}{e6:aK}
theorem eu.all (x:eu e6 g):g.length=76/\g.take 76=g/\aY false 1 g=bd e6.name/\ ∃o a b c d h k,aY false 1 (g.drop 1)= .J (bF e6.aC) o/\(g.drop 2).take 37=ab e6.bL a b c/\(g.drop 39).take 37=ab e6.ck d h k:=by obtain⟨⟨o,a,b,c,d,h,k,rfl⟩,⟨y,_⟩,⟨z,_⟩,_⟩:=x;have p:=(aX (N:=a) (e5:=b) (h5:=c) y).len;have r:=(aX (N:=d) (e5:=h) (h5:=k) z).len;refine⟨by simp[p,r],a4K (by simp[p,r]),rfl,o,a,b,c,d,h,k,rfl,?_,?_⟩;simp_all;grind
theorem ZJ (a c:aK) (b d:R) (e:U) (i:dE a b) (f:dE c d):
  AC Tryz.prog 57 [b,d] e λb d=>d=e/\b= .v (.bool (decide (a=c))):=by
 obtain⟨T,rfl,b⟩:=i;obtain⟨d,rfl,d⟩:=f;obtain⟨e,e,e,e,e,e,e,e,e,e,e,e,e⟩:=b.all;obtain⟨e,e,e,e,e,e,e,e,e,e,e,e,e⟩:=d.all;obtain⟨_,⟨k,l⟩,⟨m,n⟩,e⟩:=b;obtain⟨_,⟨o,_⟩,⟨p,_⟩,_⟩:=d;obtain⟨b,ac,d,e⟩:=a;obtain⟨f,a,g,h⟩:=c
 dsimp only at*
 have c:=hD (a:=ac);have c:=hD (a:=a);have c:= @pA ac;have c:= @pA a;have j: ¬(b=f/\ac=a/\d=g/\e=h)->decide (aK.mk b ac d e=aK.mk f a g h)=false:=λc=>by simpa using c
 have q:b=f/\ac=a/\d=g/\e=h->decide (aK.mk b ac d e=aK.mk f a g h)=true:=λc=>by simpa using c
 generalize decide (aK.mk b ac d e=aK.mk f a g h)=b at*;have b:=λb v=> @wZ b v;refine aO hm L3 ?_;refine br λb b=> ?_;refine db λb b b b=> ?_
 repeat' first|refine aH (λ_=> ?_) λ_=> ?_|trivial
 .refine bk (ER _ _ _ _ _ _ _ _ _ k o l) ?_
  repeat' first|refine aH (λ_=> ?_) λ_=> ?_|trivial
  .refine bk (ER _ _ _ _ _ _ _ _ _ m p n) ?_
   repeat' first|refine aH (λ_=> ?_) λ_=> ?_|trivial
   .exact aR (j (by grind)).symm
   .refine gP [2,3] (λb:Nat=> [(5,.v (.int .i64 b))]) (λb=>b<=ac.length/\ ∀d<b,ac.getD d []=a.getD d []) (λb=>ac.length - b) 0 ⟨a9r,λd c=>by omega⟩ aU ?_;rintro b ⟨e,i⟩ e;refine aa ?_;refine aH (λe=> ?_) λe=> ?_
    .repeat' first|refine aH (λ_=> ?_) λ_=> ?_|trivial
     .exact aR (j λc=>by grind).symm
     .exact⟨b+1,⟨a9r,upto i (by grind)⟩,rfl,a9r⟩
    .exact aR (q (by have:=uz (a:=ac) (b:=a) (d:= []) a9r (λd c=>i d a9r);grind)).symm
  grind
 all_goals exact aR (j (by grind)).symm
theorem ZK (b c:List aK) (h k:List R) (D E:Own) (o:U) (p:az dE b h) (r:az dE c k) (e:b.length<=1000000):
  AC Tryz.prog 23 [.J h D,.J k E] o λF G=>G=o/\F= .v (.bool (decide (b=c))):=by
 have f:=p.len;have g:=r.len;refine aO hm Kb ?_;refine aH (λL=> ?_) λL=> ?_
 .exact aR (by grind)
 refine gP [0,1] (λa:Nat=> [(5,.v (.int .i64 a))]) (λa=>a<=b.length/\ ∀d<a,b.getD d default=c.getD d default) (λa=>b.length - a) 0 ⟨a9r,λd P=>by omega⟩ aU ?_;rintro a ⟨i,x⟩ j;refine aa ?_;refine aH (λS=> ?_) λS=> ?_
 .obtain⟨_,l,T,rfl,y⟩:=p.get (i:=a) (x:=b.getD a default) (by grind);obtain⟨_,m,z,rfl,C⟩:=r.get (i:=a) (x:=c.getD a default) (by simp_all);have V:=y.all;have W:=C.all;have n:=ix (e:=76) (n:= .agg T) V.1;have q:=ix (e:=76) (n:= .agg z) W.1;refine aa ?_;refine bk (ZJ _ _ _ _ _ ⟨T,rfl,y⟩ ⟨z,rfl,C⟩) ?_;refine aH (λc2=> ?_) λc2=> ?_
  .exact aR (by grind)
  .exact⟨a+1,⟨a9r,upto x (by simpa using c2)⟩,rfl,a9r⟩
 .exact aR (by have:=uz (a:=b) (b:=c) (d:=default) a9r (λd P=>x d a9r);simp[this])
variable{f t e7:U}{e i v M c0 j0:Nat}{Y:bq}
def Ext.ec (c:Ext i v f t) (d:f e=none):Ext i v f (t.set e Y):=λb h k o a=>by
 have p:b≠e:=by rintro rfl;rw[d]at a;cases a
 rw[U.an _ _ p];exact c b h k o a
def cm (a:List Int×Bool) (b c:ay):c5:=⟨1,[a],[b,c]⟩
def uI (e:U) (f g:Nat) (h:ag) (o:bC e f g h) (c:List Int×Bool) (a b:ay) (p i j k l m n:Own) (d:Nat) (u:1<=d) (v:d<=8) (q:a.sum.length=32) (r:b.sum.length=32) (w:a.cF) (x:b.cF):
  AC Tryz.prog 230 [dY f d,.agg [.J (ad c.1) p,.v (.bool c.2)],.agg (ab a i j k),.agg (ab b l m n)] e λs t=>bC t f g (dv h d (cm c a b)).2/\Ext f g e t/\hd (dv h d (cm c a b)).1 s:=by
 have t:=(aX (N:=i) (e5:=j) (h5:=k) q).all;have y:=(aX (N:=l) (e5:=m) (h5:=n) r).all;have z:bt a (.agg (ab a i j k)):=⟨q,w,_,_,_,rfl⟩;have q:bt b (.agg (ab b l m n)):=⟨r,x,_,_,_,rfl⟩;generalize ab a i j k=r at*;generalize ab b l m n=m at*;refine aO hm PX ?_;refine br λch i=> ?_;refine db λca i i i=> ?_;refine hq λcX i i i i i=> ?_;refine x6 λdZ i _ _ _ _ _ _=> ?_;refine X8 λgS k _ _ _ _ _ _ _ _=> ?_;refine Xa λj i _ _ _ _ _ _ _ _ _ _=> ?_;refine Xb λl i _ _ _ _ _ _ _ _ _ _ _ _=> ?_;generalize i:((((((e.set ch _).set ca _).set cX _).set dZ _).set gS _).set j _).set l _=j;have l:e.sub j:=by subst i;exact aU
 have n:j gS=some (.cells (ab aA .nil .nil .nil)):=by subst i;rw[<-ct];exact aU
 clear i;have e:=(aX (N:= .nil) (e5:= .nil) (h5:= .nil) bl).len;refine ai (xH j f g h (o.mono l) (cm c a b) [.agg [.J (ad c.1) p,.v (.bool c.2)]] [.agg r,.agg m] _ _ d u v ⟨⟨⟨_,rfl⟩,trivial⟩,⟨z,q,trivial⟩,bT.J (by simp[aN,R.cells]),bT.J (by simp[aN,R.cells,t.1,y.1]),by simp[cm],by simp[cm]⟩) ?_;rintro s a ⟨h,e,i⟩;have a:=(o.cH k);have b:=U.aJ (e gS _ a.1 a.2 n);obtain⟨f,b,c,d,g,g,rfl⟩:=i.shape;have i:=(aX (N:=b) (e5:=c) (h5:=d) g).all;have i:putAt (ab aA .nil .nil .nil) 0 (ab f b c d)=ab f b c d:=cG bl g;refine aa ?_;exact⟨_,U.a1,h.set a,((Ext.of l).trans e).ec k⟩
def kM (b:ag) (c:Nat) (d:ay):Option ((List Int×Bool)×List ay):=
 match fq b c d with
 |none=>none
 |some a=>if a.kind=1 then some (a.rows.headD ([],false),a.kids)else none
variable{w j2:ay}{e0:c5}{H:ag}
theorem ES (a:fq H e w=some e0):dX e e0=true:=by
 unfold fq at a;split at a
 .cases a
 split at a
 .cases a
 rename_i c d b;split at a
 .obtain rfl:=a4I a;unfold pn at b;grind
 .cases a
theorem ET (b:dX e e0=true) (c:e0.kind=1):e0.rows.length=1/\e0.kids.length=2/\ ∀a∈e0.kids,a.key.length=0:=by simp_all [dX,if_true,a4M,decide_eq_true_eq,a4Y]
def ZL (b c:U) (d:List ay) (h:R):Prop:= ∃a,ar b c 37 (flat a) h/\az bt d a
def yo (d:U) (j q:Nat) (h:ag) (t:bC d j q h) (c:ay) (k l m:Own) (r:c.sum.length=32) (u:c.cF) (a:Nat) (v:1<=a) (w:a<=8):
  AC Tryz.prog 182 [dY j a,.agg (ab c k l m)] d λn b=>d.sub b/\match kM h a c with
   |none=>n= .aL [.agg [.J [] .nil,.v (.bool false)],.J [] .nil,.v (.int .i64 21)]
   |some (e,bJ)=> ∃f i,n= .aL [.agg [.J (ad e.1) f,.v (.bool e.2)],i,.v (.int .i64 0)]/\bJ.length=2/\ZL d b bJ i:=by
 have f:=(aX (N:=k) (e5:=l) (h5:=m) r).all;refine aO hm OJ ?_;refine br λch f=> ?_;refine db λca f _ _=> ?_;refine hq λcX s _ _ _ _=> ?_;generalize o:((d.set ch _).set ca _).set cX _=p;have f:d.sub p:=by subst o;exact aU
 have g:p cX=some (.cells [.J [] .nil,.v (.bool false)]):=by subst o;exact aU
 clear o;refine ai (xA p j q h (t.mono f) c k l m r u a v w) ?_;rintro n m ⟨j,k⟩;have n:=U.aJ (j _ _ g);rw[kM];cases l:fq h a c with
 |none=>
  rw[l]at k;obtain rfl:=k;refine aa ?_;refine aP λdZ c=> ?_;have a:cX≠dZ:=by rintro rfl;rw[j _ _ g]at c;cases c
  have o:=a4S a;refine aa ?_;exact U.ae (U.aq f j) (U.bG (U.aq f j) c)
 |some h=>
  rw[l]at k;obtain⟨e,i,rfl,j⟩:=k;refine aa ?_;refine aP λdZ c=> ?_;have a:cX≠dZ:=by rintro rfl;rw[j.sub _ _ g]at c;cases c
  have o:=a4S a;have n:=U.aJ (j.sub _ _ g);have n:d.sub m:=U.aq f j.sub;have k:(h.kind=1)↔(h.kind.toNat:Int)=1:=by rw[<-a5I];show h.kind.toNat=1↔ _;omega
  by_cases a: ¬h.kind=1
  .have:=mt k.2 a;exact aU
  have a:=Decidable.not_not.1 a;have o:=k.1 a;clear k;obtain⟨o,k,_⟩:=ET (ES l) a;obtain⟨p,a,q,a,k,l,r,_⟩:=j;obtain⟨j,j,j⟩:=h
  dsimp only at*
  obtain⟨h,rfl⟩:=a6S.1 o;have j:=(bT.dW a a9r rfl (l.cells λ_ _=>di.cells)).mono k.1;obtain⟨o,t,u,rfl⟩:=l.get (i:=0) (x:=h) rfl;obtain⟨l,o,v⟩:=j.get 0 _ t;have t:=λb j=>v.ld b j true 2 a9r (by simp[R.cells]);have o:cS 2 e (.v (.int .i64 0))=some l:=o;have o: ∀b,m.sub b->dr true 2 b l=some (.agg [.J (ad h.1) u,.v (.bool h.2)]):=λb j=>t b j;have b:=o _ (U.ae (Y:= .cells [.v (.int .u8 1),e,i]) U.a1 c);refine aa ?_;refine⟨_,U.a1,U.ae (U.ae n (U.bG n c)) s,?_⟩;have b:d.sub p:=U.aq f a.1;exact⟨_,_,rfl,q,(jQ (k.mono (U.ae U.a1 c)) (a.1 _ _ g)).base (U.ae b s),r⟩
theorem yp (a c:List Int) (r x:Own) (k:Nat) (p:U) (F:k<a.length) (G:c.length=a.length) (L:a.length<=1000000000000):
  AC Tryz.prog 97 [.J (ad a) r,.J (ad c) x,.v (.int .i64 (k:Int))] p λy z=>z=p/\y= .v (.bool (decide (cO k a c<0))):=by
 have P:=bI (q:=a);have S:= @dP a;have T:= @dP c;have C: ∀d h:Int,ij d h=0↔d=h:=λd h=>by unfold ij;split<;>(try split)<;>omega
 have V: ∀d h:Int,ij d h<0↔d<h:=λd h=>by unfold ij;split<;>(try split)<;>omega
 refine aO hm M6 ?_;refine aH (λD=> ?_) λD=> ?_;simp_all [aR,cO,if_neg];have W:cO k a c=fR a c:=by rw[cO,if_pos (by rw[C];omega)]
 refine gP [0,1] (λb:Nat=> [(7,.v (.int .i64 b))]) (λb=>b<=a.length/\fR (a.drop b) (c.drop b)=fR a c) (λb=>a.length - b) 0 ⟨a9r,rfl⟩ aU ?_;rintro b ⟨e,o⟩ f;refine aa ?_;refine aH (λE=> ?_) λE=> ?_
 .rw[drop_cons (a:=a) (b:=0) (e:=b) a9r,drop_cons (a:=c) (b:=0) (e:=b) a9r,fR]at o;refine aH (λc2=> ?_) λc2=> ?_;grind;grind
 .rw[sQ (a:=a) (e:=b) a9r,sQ (a:=c) (e:=b) a9r]at o;exact aR (by rw[<-o];rfl)
def fb (c:Nat) (a:List Int) (d:List (List Int)):List (List Int):=d.takeWhile (λb=>decide (cO c b a<0))++a::d.dropWhile (λb=>decide (cO c b a<0))
def dJ (a:Nat) (b:List (List Int)):List (List Int):=b.foldl (λc d=>fb a d c) []
theorem ZM (b:Nat) (c:List Int) (a:List (List Int)):(fb b c a).length=a.length+1:=by have:=congrArg List.length (a5G (p:=λd=>decide (cO b d c<0)) (l:=a));grind[List.length_append,fb,List.length_cons]
variable{O:List (List Int)}{q b6:List Int}
theorem yq:q∈fb e b6 O↔q=b6\/q∈O:=by have:=congrArg (λO=>q∈O) (a5G (p:=λq=>decide (cO e q b6<0)) (l:=O));simp only[a5c,eq_iff_iff]at this;grind[fb]
theorem ZN (c: ∀a<e,cO i (O.getD a []) q<0) (b:e<=O.length) (d:e<O.length-> ¬cO i (O.getD e []) q<0):fb i q O=O.take e++q::O.drop e:=by
 induction O generalizing e with
 |nil=>simp at b;subst b;rfl
 |cons h O ih=>
  cases e with
  |zero=>grind[cO,fb,List.takeWhile_cons,List.dropWhile_cons]
  |succ e=>have o:cO i h q<0:=c 0 a9r;have:=ih (λa p=>c (a+1) a9r) (by simpa using b) (λk=>d (by simpa using k));simp_all [fb,a5B,a6f,decide_true,if_true,a5K,a6E,a6e]
theorem ZO (f:List (List Int)) (b:List R) (g:Own) (j e:Nat) (c:U) (d:az isRow f b) (m: ∀a∈f,a.length=e) (h:j<e) (i:e<=8) (k:f.length<=100000):
  AC Tryz.prog 162 [.J b g,.v (.int .i64 (j:Int))] c λa h=>c.sub h/\ ∃b g,az isRow (dJ j f) b/\a= .J b g:=by
 have b:=d.len;refine aO hm O2 ?_;refine cj [0,1] (λb:Nat×List R×Own=> [(6,.v (.int .i64 b.1)),(5,.J b.2.1 b.2.2)]) (λb h=>c.sub h/\b.1<=f.length/\ ∃c,(f.take b.1).foldl (λc i=>fb j i c) []=c/\c.length=b.1/\(∀a∈c,a.length=e)/\az isRow c b.2.1) (λb=>f.length - b.1) (0,[],.nil) ⟨⟨U.a1,a9r,[],rfl,rfl,a9s,trivial⟩,aU⟩ ?_;rintro⟨k,l,bE⟩ p ⟨t,a,c,o,n,q,g⟩ v
 dsimp only at a o n g|-
 have a:=g.len;refine aa ?_;refine aH (λa=> ?_) λa=> ?_
 .have a:f[k]? =some (f.getD k []):=by simp_all
  obtain⟨_,n,r,rfl⟩:=d.get a;have d:=m _ (a4Q a);have u:=eU (a:=f) (b:= []) (e:=k) a9r;generalize f.getD k []=i at*;have el: ∀a,a<c.length-> ∃n,l[a]? =some (.J (ad (c.getD a [])) n):=λa m=>by
   obtain⟨_,d,n,rfl⟩:=g.get (i:=a) (x:=c.getD a []) (by simp[List.getD,m]);exact⟨n,d⟩
  have w: ∀a,a<c.length->(c.getD a []).length=e:=λa m=>q _ (by simp[List.getD,m]);refine cj [0,1,5,6] (λb:Nat×List R×Own=> [(8,.v (.int .i64 b.1)),(7,.J b.2.1 b.2.2)]) (λb h=>b.1<=c.length/\(∀e<b.1,cO j (c.getD e []) i<0)/\az isRow (c.take b.1) b.2.1/\bj p h 1 b.2.1 b.2.2) (λb=>c.length - b.1) (0,[],.nil) ⟨⟨a9r,λe e=>by simp at e,trivial,bj.nil U.a1⟩,aU⟩ ?_;rintro⟨a,p,on⟩ h ⟨m,s,h,q⟩ v
  dsimp only at m s h q|-
  have v:p.length=a:=by rw[h.len,a4N];omega
  have v: ¬(a<c.length/\cO j (c.getD a []) i<0)->fb j i c=c.take a++i::c.drop a:=λe=>ZN s m λs m=>e ⟨s,m⟩;by_cases jT:(a:Int)<(k:Int)
  .obtain⟨n,s⟩:=el a a9r;have s:=w a a9r;have y:=eU (a:=c) (b:= []) (e:=a) a9r;generalize s:c.getD a []=b at*;refine aa ?_;refine bk (yp b i n r j _ a9r a9r a9r) ?_;refine aH (λc2=> ?_) λc2=> ?_
   .refine jN (λw j=> ?_) (d:=λd c=>by rw[a4Z]at c;subst c;rfl);refine dq (q.mono (U.ae U.a1 j)) (h.cells λ_ _=>isRow.cells) (λd c=>by rw[a4Z]at c;subst c;rfl) a9t a9t λs x m=> ?_;refine aa ?_;refine⟨(a+1,p++ [.J (ad b) n],s),⟨by simp only;omega,?_,?_,m⟩,⟨rfl,rfl⟩,by simp only;omega⟩;grind
    .simp only[y];exact h.snoc ⟨_,rfl⟩
   .have d:=v (by simpa using λ_=>c2);refine jN (λw j=> ?_) (d:=λd c=>by rw[a4Z]at c;subst c;rfl);refine dq (q.mono (U.ae U.a1 j)) (h.cells λ_ _=>isRow.cells) (λd c=>by rw[a4Z]at c;subst c;rfl) a9t a9t λs x m=> ?_;have y:dO 1 (.J l bE) (some (.v (.int .i64 (a:Int)))) none=some (.J (l.drop a) .any):=pa a9r (g.cells λ_ _=>isRow.cells);refine aa ?_;refine dq m (λd c=>by rcases a5c.1 c with e|e;exact h.cells (λ_ _=>isRow.cells) d e;rw[a4Z]at e;subst e;rfl) ((g.drop a).cells λ_ _=>isRow.cells) a9t a9t λb z n=> ?_;refine aa ?_;refine⟨(k+1,p++ [.J (ad i) r]++l.drop a,b),⟨U.aq t n.sub,by simp only;omega,_,rfl,?_,?_,?_⟩,⟨rfl,rfl⟩,by simp only;omega⟩;grind;grind
    .simp only[u,a6P,o,a5Q,a7W,d];rw[a8d];exact(h.snoc ⟨_,rfl⟩).append (g.drop a)
  .have d:=v a9r;refine aa ?_;refine jN (λw j=> ?_) (d:=λd c=>by rw[a4Z]at c;subst c;rfl);refine dq (q.mono (U.ae U.a1 j)) (h.cells λ_ _=>isRow.cells) (λd c=>by rw[a4Z]at c;subst c;rfl) a9t a9t λs x m=> ?_;have y:dO 1 (.J l bE) (some (.v (.int .i64 (a:Int)))) none=some (.J (l.drop a) .any):=pa a9r (g.cells λ_ _=>isRow.cells);refine aa ?_;refine dq m (λd c=>by rcases a5c.1 c with e|e;exact h.cells (λ_ _=>isRow.cells) d e;rw[a4Z]at e;subst e;rfl) ((g.drop a).cells λ_ _=>isRow.cells) a9t a9t λb z n=> ?_;refine aa ?_;refine⟨(k+1,p++ [.J (ad i) r]++l.drop a,b),⟨U.aq t n.sub,by simp only;omega,_,rfl,?_,?_,?_⟩,⟨rfl,rfl⟩,by simp only;omega⟩;grind;grind
   .simp only[u,a6P,o,a5Q,a7W,d];rw[a8d];exact(h.snoc ⟨_,rfl⟩).append (g.drop a)
 .obtain rfl:k=f.length:=a9r;rw[a5h]at o;exact⟨l,bE,by rw[dJ,o];exact g,rfl⟩
inductive aD where
 |nil
 |node (r:List Int) (live:Bool) (a b:aD)
def dS (a:U):aD->R->Prop
 | .nil,b=>b= .v (.pointer none)
 | .node k live o p,b=> ∃c r d h,b= .ptr c 0/\a c=some (.cells [.J (ad k) r,.v (.bool live),d,h])/\dS a o d/\dS a p h
def dS.mono {b c:U} (a:b.sub c): ∀ {d:aD}{h:R},dS b d h->dS c d h
 | .nil,_,k=>k
 | .node _ _ _ _,_,⟨o,p,r,x,h1,y,z,C⟩=>⟨o,p,r,x,h1,a _ _ y,z.mono a,C.mono a⟩
theorem dS.cells {b:U}: ∀ {c:aD}{a:R},dS b c a->a.cells= [a]
 | .nil,_,rfl=>rfl
 | .node _ _ _ _,_,⟨_,_,_,_,rfl,_⟩=>rfl
def _root_.Go.bB.U.part (b c d:U):U:=λa=>if c a=none\/d a≠none then b a else none
def EU:U:=λ_=>none
theorem qX:(f.part t e7).sub f:=λa b c=>by
 grind[U.part]
def EV {c d:U} (h:f.sub t) (k:e7.sub c):(e7.part t d).sub (c.part f d):=λo p a=>by
 rw[U.part]at a|-;split at a
 .rename_i b;rw[if_pos (b.imp_left λb=>U.bG h b)];exact k _ _ a
 .cases a
def ZP {c:U} (b:f.sub t):(e7.part t EU).sub (e7.part f c):=λh k a=>by
 rw[U.part]at a|-;split at a
 .rename_i d;rw[if_pos (.inl (U.bG b (d.resolve_right λb=>b rfl)))];exact a
 .cases a
def pB (b:f.sub t):f.sub (t.part e7 f):=λc d a=>by rw[U.part,if_pos (.inr (by rw[a];simp))];exact b _ _ a
theorem uJ (a:f e=none):t.part f e7 e=t e:=if_pos (.inl a)
def aD.size:aD->Nat
 | .nil=>0
 | .node _ _ a b=>1+a.size+b.size
def aD.all:aD->List (List Int)
 | .nil=> []
 | .node a live b c=>b.all++c.all++(if live=true then [a]else [])
theorem qY: ∀(c:aD) (b:R) (a:U),dS a c b->c.size<=1000000->AC Tryz.prog 91 [b] a λd h=>h=a/\d= .v (.int .i64 (c.size:Int))
 | .nil,b,a,k,_=>by
  obtain rfl:b= .v (.pointer none):=k;refine aO hm Bl ?_;trivial
 | .node d live o p,b,a,⟨E,F,r,x,h1,y,z,C⟩,D=>by
  subst h1;have G:=U.af y;simp only[aD.size]at D;refine aO hm Bl ?_;refine bk (qY o r a z a9r) ?_;refine bk (qY p x a C a9r) ?_;grind[aD.size]
def lz: ∀a:aD,a.all.length<=a.size
 | .nil=>by simp[aD.all,aD.size]
 | .node d live b c=>by
  have:=lz b;have:=lz c;simp only[aD.all,aD.size,a4L];split<;>simp<;>omega
def sS: ∀(x:aD) (b:R) (a:U),dS a x b->x.size<=1000000->AC Tryz.prog 90 [b] a λC G=> ∃y o,bj a G 1 y o/\az isRow x.all y/\C= .J y o
 | .nil,b,a,L,_=>by
  obtain rfl:b= .v (.pointer none):=L;refine aO hm Bk ?_;exact⟨_,U.a1,[],.nil,bj.nil U.a1,trivial,rfl⟩
 | .node C live D E,b,a,⟨i,o,P,S,h1,p,c,z⟩,T=>by
  subst h1;have j:=U.af p;simp only[aD.size]at T;have l:=lz D;have m:=lz E;refine aO hm Bk ?_;refine ai (sS D P a c a9r) ?_;rintro _ V ⟨n,q,r,d,rfl⟩;have s:=U.af (r.sub _ _ p);refine aa ?_;refine ai (sS E S V (z.mono r.sub) a9r) ?_;rintro _ t ⟨u,v,F,h,rfl⟩;have w:=U.af (F.sub _ _ (r.sub _ _ p));have A:=d.len;have B:=h.len;refine aa ?_;refine dq (r.mono F.sub) (d.cells λ_ _=>isRow.cells) (h.cells λ_ _=>isRow.cells) a9r a9r λW H c=> ?_;have I:=U.af (c.sub _ _ p);refine aa ?_;cases live with
  |true=>refine aa ?_;refine jN (λK e=> ?_) (d:=λf k=>by rw[a4Z]at k;subst k;rfl);refine dq (c.mono (U.ae U.a1 e)) ((d.append h).cells λ_ _=>isRow.cells) (λf k=>by rw[a4Z]at k;subst k;rfl) a9t a9t λg M z=> ?_;refine aa ?_;exact⟨_,U.a1,_,g,z,(d.append h).append ⟨⟨o,rfl⟩,trivial⟩,rfl⟩
  |false=>refine aa ?_;exact⟨_,U.a1,_,W,c,by simpa[aD.all] using d.append h,rfl⟩
def fD (b:Nat):Nat->List (List Int)->Nat->aD
 |0,_,_=> .nil
 |c+1,a,dep=>if a= []then .nil else
  .node ((dJ (dep%b) a).getD (a.length/2) []) true (fD b c ((dJ (dep%b) a).take (a.length/2)) (dep+1)) (fD b c ((dJ (dep%b) a).drop (a.length/2+1)) (dep+1))
theorem yr {h:Nat}: ∀(b a:List (List Int)),(b.foldl (λk c=>fb h c k) a).length=a.length+b.length/\ ∀d,d∈b.foldl (λk c=>fb h c k) a↔d∈a\/d∈b
 | [],a=>by simp
 |c::b,a=>by
  obtain⟨o,p⟩:=yr b (fb h c a);refine⟨by rw[a5Q,o,ZM,a4O];omega,λd=> ?_⟩;grind[yq]
theorem pC (b:Nat) (a:List (List Int)):(dJ b a).length=a.length:=by rw[dJ,(yr a []).1];simp
def qZ:q∈dJ e O↔q∈O:=by rw[dJ,(yr O []).2];simp
theorem uK (b:Nat) (j:0<b) (k:b<=8): ∀(d:Nat) (a:List (List Int)) (c:List R) (e:Own) (dep:Nat) (g:U),az isRow a c->(∀f∈a,f.length=b)->a.length<=d->d<=100000->dep+d<=1000000->
  AC Tryz.prog 92 [.J c e,.v (.int .i64 (dep:Int))] g λf h=>g.sub h/\dS (h.part g EU) (fD b d a dep) f
 |0,a,c,e,dep,g,h,i,l,_,_=>by
  obtain rfl:a= []:=a4P a9r;obtain rfl:c= []:=a4P h.len;refine aO hm wC ?_;exact⟨_,U.a1,U.a1,rfl⟩
 |d+1,a,c,e,dep,g,h,i,l,l,l=>by
  have l:=h.len;by_cases l:a= []
  .subst l;obtain rfl:c= []:=a4P h.len;refine aO hm wC ?_;rw[fD,if_pos rfl];exact⟨_,U.a1,U.a1,rfl⟩
  have m:0<a.length:=a5U.2 l;have n: ¬(a.length:Int)=0:=a9r;obtain⟨_,n,n,rfl⟩:=h.get (i:=0) (x:=a.getD 0 []) (by simp[List.getD,m]);have n:=i (a.getD 0 []) (by simp[List.getD,m]);have m:=bI (q:=a.getD 0 []);have t:(dep:Int).tmod (b:Int)=((dep%b:Nat):Int):=rfl;have m: ¬(b:Int)=0:=a9r;have u:(a.length:Int).tdiv 2=((a.length/2:Nat):Int):=rfl;have m: ∀m e,cS m (.J c e) (.v (.int .i64 0))=eD m c[0]? :=λm e=>o3 (i:=0);refine aO hm wC ?_;refine ai (ZO a c e (dep%b) b g h i (a6U _ j) k a9r) ?_;rintro _ s ⟨h,e,m,c,rfl⟩;have o:=c.len;rw[pC]at o;have p:=pC (dep%b) a;have n: ∀g∈dJ (dep%b) a,g.length=b:=λg q=>i g (qZ.1 q);obtain⟨g,q⟩: ∃g,dJ (dep%b) a=g:=⟨_,rfl⟩;rw[fD,if_neg l];rw[q]at p n c|-;generalize v:a.length/2=a at*;obtain⟨_,i,r,rfl⟩:=c.get (i:=a) (x:=g.getD a []) (by grind);have i:dO 1 (.J e m) none (some (.v (.int .i64 (a:Int))))=some (.J (e.take a) .any):=by have:=nV (e2:= .i64) (N:=m) (b1:=(a:Int)) a9r a9r (c.cells λ_ _=>isRow.cells);rwa[a5i]at this
  have i:dO 1 (.J e m) (some (.v (.int .i64 ((a:Int)+1)))) none=some (.J (e.drop (a+1)) .any):=pa (e:=a+1) a9r (c.cells λ_ _=>isRow.cells);refine aa ?_;refine ai (uK b j k d (g.take a) (e.take a) .any (dep+1) s (c.take a) (λf i=>n f (a5b i)) (by rw[a4N];omega) a9r a9r) ?_;rintro m w ⟨l,s⟩;refine aa ?_;refine ai (uK b j k d (g.drop (a+1)) (e.drop (a+1)) .any (dep+1) w (c.drop (a+1)) (λf i=>n f (a5p i)) (by rw[a4X];omega) a9r a9r) ?_;rintro d b ⟨b,e⟩;clear q p o t u v;have c:=s.cells;have c:=e.cells;refine aa ?_;refine aP λi f=> ?_;refine aa ?_;have c:=U.ae (Y:= .cells [.J (ad (g.getD a [])) r,.v (.bool true),m,d]) U.a1 f;exact⟨_,U.a1,U.aq h (U.aq l (U.aq b c)),i,r,m,d,rfl,(uJ (U.bG h (U.bG l (U.bG b f)))).trans (U.ah _ _ _),s.mono (EV h (U.aq b c)),e.mono (EV (U.aq h l) c)⟩
end Go.Proofs.YtlgnfcaolejgeaaGreat
namespace Go.bB
open Go
variable{f t e7:U}{u:bm}{l h8:World}
theorem Step.ZQ {p:bm} (b:Step u f l p t h8) (r: ∀a,f a=none\/ ∃c,f a=some (.ro c)): ∃x k,h8=Sort.grow (l.drewN x) k:=by
 have d: ∀a,a<l.heap.size->h8.heap[a]? =l.heap[a]? :=λa d=>by
  rcases r a with h|⟨c,h⟩
  .exact b.block a d h
  .exact(b.jE a c d h).1
 have y:=b.os;have z:=b.tape;have o:=b.output;have C:=b.size;refine⟨h8.drawn - l.drawn,h8.heap.extract l.heap.size h8.heap.size,?_⟩;obtain⟨D,E,F,k,G⟩:=l;obtain⟨L,P,S,T,V⟩:=h8;simp only at*;obtain⟨rfl,o⟩:=o;subst y;subst z;simp only[Sort.grow,World.drewN,World.mk.injEq,true_and,and_true];grind
def Step.grown (d:Holds u f l) (o:Nat) (os:Array Obj):Step u f l u f (Sort.grow (l.drewN o) os):=by
 have c: ∀a,a<l.heap.size->(Sort.grow (l.drewN o) os).heap[a]? =l.heap[a]? :=λa c=>by
  show(l.heap++os)[a]? = _;rw[a7n c]
 exact {holds:=⟨λa h v p=>by rw[<-d.ro a h v p];exact World.cell?_of_block (c a (d.lt p)),λk h r=>(d.dT k h r).kept (.refl u) (c k (d.dT k h r).lt) (λ_ x=>x)⟩
     le:= .refl u,os:=rfl,tape:=rfl,output:=⟨rfl,Nat.le_add_right _ _⟩
     size:=a9s
     block:=λa b _=>c a b,eo:=λ_ b=> .inl b,mx:=λ_ _ b=> .inl b,jE:=λa y b z=>⟨c a b,.inr ⟨y,z⟩⟩}
variable{b0:Type}
theorem ZR [Inhabited b0] (h:b0->Value) (b:World) (a:Nat) (c:Array b0) (d:Array Value) (k:TypeId) (o:Nat×Nat) (p:b.heap[a]? =some (.cells d k o)) (x:c.size<=d.size):
  Sort.putRow h b a 0 c=b.setRow a (cY d 0 (c.toList.map h)):=by
 unfold Sort.putRow Sort.mapBlock World.setRow;congr 1;apply Array.ext_getElem?;intro r;simp only[Array.getElem?_modify];by_cases hk:a=r
 .subst hk;simp only[if_true,p,a5O,Sort.onCells];congr 2;apply a9a;apply a8A;intro y;simp only[Sort.putCells,cY,a6i,Array.getElem?_mapIdx,a6s,a5d,a5g,a4V,a7L];grind
 .simp[hk]
variable{g A e1:List R}{e i v M c0 j0:Nat}{m:Program}
theorem ZS {l:Shelf.Ren} (Z:Proofs.SlLaysF.n6 m l) (y:b0->R->Prop) (P: ∀a d,y a d->d.one=true/\d.cells= [d]) {u:List b0}
  (K:f e=some (.cells g)) (q:A.length=u.length) (H: ∀(b:Nat) a d,u[b]? =some a->A[b]? =some d->y a d) (j9:u.length=i) (Q:g.take i=A) (r:i<4611686018427387904)
  (z:FuncId) (G:List R) (S:t.sub f) (V: ∀c,t c=none\/ ∃L,t c=some (.ro L)) (j:b0->Prop) (I: ∀C∈u,j C) (N:0<i)
  (o:b0->b0->Int) (k0: ∀a,j a-> ¬o a a<0) (k1: ∀a h p,j a->j h->j p->o a h<0->o h p<0->o a p<0) (s: ∀a h p,j a->j h->j p-> ¬o a h<0-> ¬o h p<0-> ¬o a p<0)
  (k2: ∀n k,(callFunc z n).run m k= .ok (.enter z n) k)
  (k3: ∀a h d c,y a d->y h c->j a->j h->AC m z ([d,c]++G) t λC _=>C= .v (.int .i64 (o a h))):
  AC m (l.f 6) [.al e i M 1,.bH z [] G] f λC W=>C= .aL []/\ ∃l n,n.Perm u/\l.length=i/\(∀(b:Nat) a d,n[b]? =some a->l[b]? =some d->y a d)/\List.Pairwise (λd c=> ¬o c d<0) n/\W=f.set e (.cells (l++g.drop i)):=by
 intro n k q r E;have s:=r.2 0 _ rfl;have w:=r.2 1 _ rfl;have x:n.size=2:=r.1;generalize B:n.getD 0 undef=r at s;generalize D:n.getD 1 undef=r at w;cases s with
 |al e i M r r r=>
 cases w with
 |bH r ws ik cC r hw r k4 k5=>
 obtain rfl:ws= #[]:=a8j hw;have aj:n= #[.slice (some ⟨e,0,none⟩) i M,.func (.func z) #[] ik]:=by
  apply Array.ext
  .exact x
  .intro b r w
   match b,r with
   |0,r=>rw[<-B];simp[Array.getD,r]
   |1,r=>rw[<-D];simp[Array.getD,r]
   |b+2,r=>omega
 rw[aj];obtain⟨n,n,T,F,s,k6⟩:=E.dT e _ K;have x:i<=g.length:=by grind
 have x:n.size=g.length:=s.1
 let B:= {x:Value×b0//(∃d,y x.2 d/\aZ q x.1 d)/\j x.2};have j: ∀b (D:b<i),∃a:B,a.1.1=n[b]'a9r/\a.1.2=u[b]'a9r:=λb D=>by
  have r:g[b]? =some (A[b]'a9r):=by grind
  have w:=s.2 b _ r;have A:n.getD b undef=n[b]'a9r:=by simp[Array.getD,show b<n.size by omega]
  rw[A]at w;exact⟨⟨(n[b]'a9r,u[b]'a9r),⟨_,H b _ _ (a4J _) (a4J _),w⟩,I _ (a5o _)⟩,rfl,rfl⟩
 haveI:Inhabited B:=⟨(j 0 N).choose⟩
 obtain⟨s,X,H⟩: ∃s:Array B,s.size=i/\ ∀b (D:b<i) (H:b<s.size),s[b].1.1=n[b]'a9r/\s[b].1.2=u[b]'a9r:=
  ⟨Array.ofFn (n:=i) λb=>(j b b.2).choose,a9s,λb D H=>by grind[Array.getElem_ofFn]⟩
 let j:B->Value:=λa=>a.1.1;have r:Proofs.OneCell j:=λa=>by
  obtain⟨⟨d,w,A⟩,_⟩:=a.2;exact A.nJ (P _ _ w).1
 have k7:Sort.Holds j k e 0 s:=λn H=>by
  have I:n<i:=a9r;rw[getElem!_pos s n H];constructor
  .simp only[World.cell?,F,a5g,a6K,a5S,if_false];grind
  .simp[World.frozen?,F]
 have k8:e<k.heap.size:=(a6c.1 F).1
 let N:B->B->Int:=λa h=>o a.1.2 h.1.2;have k9:Proofs.CmpLays1 m z ik j N e 0 s.size k:=λF o O m a h=>by
  have Y: ∀c,c<k.heap.size->c≠e->(Proofs.sortWorld j k e 0 F O o).heap[c]? =k.heap[c]? :=λc m I=>by
   show(((k.heap.modify e _)++o)[c]?)= _;grind
  have l0:Holds q t (Proofs.sortWorld j k e 0 F O o):=⟨λc O v t=>by
   have I:c≠e:=by rintro rfl;rw[k6]at t;cases t
   rw[<-E.ro c O v t];exact World.cell?_of_block (Y c (E.lt t) I),λc O m=>by
   have I:c≠e:=by
    rintro rfl;rcases V c with F|⟨L,F⟩
    .rw[F]at m;cases m
    .have:=S _ _ F;rw[K]at this;cases this
   have w:=E.dT c O (S _ _ m);exact w.kept (.refl q) (Y c w.lt I) λ_ D=>D⟩
  obtain⟨⟨d,aO,I⟩,O⟩:=a.2;obtain⟨⟨c,S,Y⟩,k6⟩:=h.2;have l1:bs q (#[j a,j h]++ik) ([d,c]++G):=⟨by simp[k4];omega,λn w m=>by
   match n,m with
   |0,m=>obtain rfl:=a4I m;rw[show(#[j a,j h]++ik).getD 0 undef=j a by rw[a5w,a7n a9s];rfl];exact I
   |1,m=>obtain rfl:=a4I m;rw[show(#[j a,j h]++ik).getD 1 undef=j h by rw[a5w,a7n a9s];rfl];exact Y
   |n+2,m=>
    have A:G[n]? =some w:=by simpa using m
    have H:n<ik.size:=by grind
    have m:=k5 n w A;simp_all [undef,a5w,Array.getElem?_append_right]⟩
  refine(k3 _ _ d c aO S O k6 _ _ q l1 l0).mono ?_;rintro A G ⟨v,C,c,W,rfl,m,t,rfl⟩;refine⟨by rw[t.dV],m.ZQ V⟩
 have t:Sort.SWO (Proofs.ltOf N):=⟨λa=>by simp only[Proofs.ltOf];exact decide_eq_false (k0 _ a.2.2),λa h p=>by simp only[Proofs.ltOf,decide_eq_true_eq];exact k1 _ _ _ a.2.2 h.2.2 p.2.2,λa h p=>by grind[Proofs.ltOf,decide_eq_false_iff_not]⟩;have c:=Proofs.Any.slices_SortFunc Z j r N t z ik e 0 M s k k2 k9 k7 k8 a9r;rw[X]at c;refine c.mono ?_;rintro A G ⟨rfl,c,x,o,⟨p,_,t⟩,z,rfl⟩;have p:c.size=i:=a9r;rw[a8s a9r,a8s a9r]at t
 let l:List R:=c.toList.map λa=>a.2.1.choose;have A: ∀a:B,y a.1.2 a.2.1.choose/\aZ q a.1.1 a.2.1.choose:=λa=>a.2.1.choose_spec;have B:bs q (c.toList.map j).toArray l:=bs.dU.2 ⟨by simp[l],λn r w y r=>by
  simp only[a9f,a5l,l]at y r;cases r:c.toList[n]? with
  |none=>simp[r]at y
  |some a=>grind⟩
 obtain⟨y,C,C,C,m⟩:=Step.store E K 0 l _ B (λL Q=>by
  obtain⟨a,_,rfl⟩:=a5f.1 Q;exact(P _ _ (A a).1).1) (by simp[l];omega)
 have A:Sort.putRow j (Sort.ahead k x) e 0 c=Sort.ahead (k.setRow e (cY y 0 (c.toList.map j))) x:=by grind[Sort.putRow_ahead,ZR]
 have y:=m.trans (Step.grown m.holds x o);refine⟨_,.aL [],q,f.set e (.cells (l++g.drop i)),rfl,?_,.aL #[] [] rfl (λn w F=>by simp at F),rfl,l,c.toList.map (λa=>a.1.2),?_,by simp[l,p],?_,?_,rfl⟩
 .have m:putAt g 0 l=l++g.drop i:=by simp[putAt,l,p]
  rw[<-m];show Step q f k q _ (Sort.grow (Sort.putRow j (Sort.ahead k x) e 0 c) o);rw[A];exact y
 .have e:u=s.toList.map (λa=>a.1.2):=by
   apply a8G
   .simp[j9,X]
   simp_all
  rw[e];exact t.map _
 .intro b a d a d;simp only[a5l,l]at a d;cases r:c.toList[b]? with
  |none=>simp[r]at a
  |some h=>grind
 .rw[a7p,a6I];intro b n D H a;have:=z b n (a5q _) a (by simpa[p] using H);grind[Array.length_toList,Proofs.ltOf]
end Go.bB
namespace Go.Proofs
open Go.Shelf
def Tryz.ZT:Go.Shelf.Ren:=⟨λ|6=>118|15=>184|14=>183|28=>267|29=>268|20=>259|21=>260|22=>261|23=>262|24=>263|25=>264|26=>265|27=>266|46=>316|47=>317|48=>318|49=>319|50=>320|57=>346|a=>a,λ|22=>37|24=>24|25=>196|3=>3|39=>213|0=>0|53=>284|55=>130|4=>4|46=>324|45=>323|50=>221|5=>5|9=>9|66=>368|70=>372|76=>385|77=>386|a=>a,λ|a=>a⟩
def Tryz.EW:Go.Proofs.SlLaysF.n6 Tryz.prog Tryz.ZT:= {
 mixed:=a9w
 f6:=⟨Tryz.f118.name,a9v,Tryz.func118.trans (congrArg some a9w)⟩
 f14:=⟨Tryz.f183.name,a9v,Tryz.func183.trans (congrArg some a9w)⟩
 f15:=Tryz.func184.trans (congrArg some a9w)
 f20:=⟨Tryz.f259.name,a9v,Tryz.func259.trans (congrArg some a9w)⟩
 f21:=⟨Tryz.f260.name,a9v,Tryz.func260.trans (congrArg some a9w)⟩
 f22:=⟨Tryz.f261.name,a9v,Tryz.func261.trans (congrArg some a9w)⟩
 f23:=⟨Tryz.f262.name,a9v,Tryz.func262.trans (congrArg some a9w)⟩
 f24:=⟨Tryz.f263.name,a9v,Tryz.func263.trans (congrArg some a9w)⟩
 f25:=⟨Tryz.f264.name,a9v,Tryz.func264.trans (congrArg some a9w)⟩
 f26:=⟨Tryz.f265.name,a9v,Tryz.func265.trans (congrArg some a9w)⟩
 f27:=⟨Tryz.f266.name,a9v,Tryz.func266.trans (congrArg some a9w)⟩
 f28:=Tryz.func267.trans (congrArg some a9w)
 f29:=Tryz.func268.trans (congrArg some a9w)
 f46:=⟨Tryz.f316.name,a9v,Tryz.func316.trans (congrArg some a9w)⟩
 f47:=Tryz.func317.trans (congrArg some a9w)
 f48:=Tryz.func318.trans (congrArg some a9w)
 f49:=⟨Tryz.f319.name,a9v,Tryz.func319.trans (congrArg some a9w)⟩
 f50:=⟨Tryz.f320.name,a9v,Tryz.func320.trans (congrArg some a9w)⟩
 f57:=⟨Tryz.f346.name,a9v,Tryz.func346.trans (congrArg some a9w)⟩
 t0:=Tryz.underlying0
 a0:=Tryz.isAgg0
 z0:=Tryz.sizeOf0
 v0:=Tryz.zeroValue0
 t3:=Tryz.underlying3
 a3:=Tryz.isAgg3
 z3:=Tryz.sizeOf3
 v3:=Tryz.zeroValue3
 t4:=Tryz.underlying4
 a4:=Tryz.isAgg4
 z4:=Tryz.sizeOf4
 v4:=Tryz.zeroValue4
 t5:=Tryz.underlying5
 a5:=Tryz.isAgg5
 z5:=Tryz.sizeOf5
 v5:=Tryz.zeroValue5
 t9:=Tryz.underlying9
 a9:=Tryz.isAgg9
 z9:=Tryz.sizeOf9
 v9:=Tryz.zeroValue9
 t22:=Tryz.underlying37
 a22:=Tryz.isAgg37
 z22:=Tryz.sizeOf37
 v22:=Tryz.zeroValue37
 a24:=Tryz.isAgg24
 z24:=Tryz.sizeOf24
 t25:=Tryz.underlying196
 a25:=Tryz.isAgg196
 z25:=Tryz.sizeOf196
 v25:=Tryz.zeroValue196
 t39:=Tryz.underlying213
 a39:=Tryz.isAgg213
 z39:=Tryz.sizeOf213
 v39:=Tryz.zeroValue213
 t45:=Tryz.underlying323
 a45:=Tryz.isAgg323
 z45:=Tryz.sizeOf323
 v45:=Tryz.zeroValue323
 t46:=Tryz.underlying324
 a46:=Tryz.isAgg324
 z46:=Tryz.sizeOf324
 v46:=Tryz.zeroValue324
 t50:=Tryz.underlying221
 a50:=Tryz.isAgg221
 z50:=Tryz.sizeOf221
 v50:=Tryz.zeroValue221
 t53:=Tryz.underlying284
 a53:=Tryz.isAgg284
 z53:=Tryz.sizeOf284
 v53:=Tryz.zeroValue284
 t55:=Tryz.underlying130
 a55:=Tryz.isAgg130
 z55:=Tryz.sizeOf130
 v55:=Tryz.zeroValue130
 t66:=Tryz.underlying368
 a66:=Tryz.isAgg368
 z66:=Tryz.sizeOf368
 v66:=Tryz.zeroValue368
 t70:=Tryz.underlying372
 a70:=Tryz.isAgg372
 z70:=Tryz.sizeOf372
 v70:=Tryz.zeroValue372
 t76:=Tryz.underlying385
 a76:=Tryz.isAgg385
 z76:=Tryz.sizeOf385
 v76:=Tryz.zeroValue385
 t77:=Tryz.underlying386
 a77:=Tryz.isAgg386
 z77:=Tryz.sizeOf386
 v77:=Tryz.zeroValue386}
end Go.Proofs
namespace Go.Proofs.YtlgnfcaolejgeaaGreat
open Go Go.bB
variable{f t e7:U}
theorem ZU {b c:U} (h: ∀a,t a=none->f a=none) (k: ∀a,c a≠none->f a=none\/b a≠none):(e7.part t c).sub (e7.part f b):=λa o d=>by
 rw[U.part]at d|-;grind
variable{e i v M c0 j0:Nat}{Y:bq}
def ys (c:f.sub t):(f.set e Y).sub (t.set e Y):=λd h a=>by
 by_cases b:d=e
 .subst b;rw[U.ah]at a|-;exact a
 .rw[U.an _ _ b]at a|-;exact c _ _ a
theorem yt {d h:U}{o:bq} (p:f.sub t) (r:e7=f.set e o) (k:f e=none):
  (d.part (t.set e Y) ((t.part e7 h).set e Y)).sub (d.part f h):=ZU (λc a=>by
   by_cases b:c=e
   .subst b;exact k
   .rw[U.an _ _ b]at a;exact U.bG p a) λc a=>by
   by_cases b:c=e
   .subst b;exact .inl k
   .rw[U.an _ _ b,U.part]at a;split at a;simp_all [U.an]
    .exact absurd rfl a
theorem uL {a:U} (b:f=e7.set e Y) (c:t e=none):a.part f t e=none:=by simp_all [U.part,if_neg,U.ah]
def aD.Ok (a:Nat):aD->Prop
 | .nil=>True
 | .node b _ c d=>b.length=a/\c.Ok a/\d.Ok a
theorem aD.Ok.all {c:Nat}: ∀ {d:aD},d.Ok c-> ∀b∈d.all,b.length=c
 | .nil,_,b,a=>by simp[aD.all]at a
 | .node o live p r,⟨h1,h,k⟩,b,a=>by
  simp only[aD.all,a5c]at a;rcases a with (a|a)|a
  .exact h.all b a
  .exact k.all b a
  simp_all
def hE (d:Nat) (h:aD) (k:Nat):aD:=
 match h with
 | .nil=> .nil
 | .node c live a b=>if max a.size b.size>2*(aD.node c live a b).size/3+1 then fD d (aD.node c live a b).all.length (aD.node c live a b).all k else .node c live a b
theorem yu (f:Nat) (n:0<f) (o:f<=8) (c:List Int) (d:Bool) (a b:aD) (j:R) (g:Nat) (e h:U) (k:dS h (.node c d a b) j) (l:h.sub e) (p:(aD.node c d a b).Ok f) (i:(aD.node c d a b).size<=100000) (m:g<=100000):
  AC Tryz.prog 96 [j,.v (.int .i64 (g:Int))] e λj m=>e.sub m/\dS (m.part e h) (hE f (.node c d a b) g) j:=by
 have h:=k.mono l;obtain⟨m,m,j,m,rfl,q,r,s⟩:=id h;have t:=U.af q;have q:a.size<=100000:=by simp only[aD.size]at i;omega
 have t:b.size<=100000:=by simp only[aD.size]at i;omega
 refine aO hm M4 ?_;refine bk (qY a j e r a9r) ?_;refine bk (qY b m e s a9r) ?_;have m:=lz (aD.node c d a b);have j:=qY _ _ e h a9r;rw[hE];have r:=uK f n o (aD.node c d a b).all.length (aD.node c d a b).all;have n:=sS _ _ e h a9r;have o:=p.all;generalize aD.node c d a b=d at*;obtain⟨c,e⟩: ∃c,d.size=c:=⟨_,rfl⟩;obtain⟨d,f⟩: ∃c,a.size=c:=⟨_,rfl⟩;obtain⟨a,h⟩: ∃c,b.size=c:=⟨_,rfl⟩;rw[e]at j i m|-;rw[f]at q|-;rw[h]at t|-;clear e f h;have f:(2*(c:Int)).tdiv 3=((2*c/3:Nat):Int):=by grind
 obtain⟨b,e⟩: ∃b,2*c/3=b:=⟨_,rfl⟩;rw[e]at f|-;have h:max (d:Int) (a:Int)=((max d a:Nat):Int):=a9r;obtain⟨c,f⟩: ∃c,max d a=c:=⟨_,rfl⟩;rw[f]at h|-;have hm:b<=100000:=a9r;clear e f;refine bk j ?_;refine aH (λa=> ?_) λa=> ?_
 .rw[if_pos a9r];refine ai n ?_;rintro _ b ⟨c,d,a,e,rfl⟩;refine aa ?_;refine ai (r c d g b e o a9r a9r a9r) ?_;rintro v b ⟨b,c⟩;refine aa ?_;exact⟨_,U.a1,U.aq a.sub b,c.mono (ZP a.sub)⟩
 .rw[if_neg a9r];exact⟨_,U.a1,U.a1,k.mono (pB l)⟩
theorem r0 (b:Nat): ∀(c:Nat) (a:List (List Int)) (dep:Nat),(fD b c a dep).size<=a.length
 |0,_,_=>a5q _
 |c+1,a,dep=>by
  rw[fD];split
  .exact a5q _
  .rename_i d;have:=a5U.2 d;have h:=r0 b c ((dJ (dep%b) a).take (a.length/2)) (dep+1);have k:=r0 b c ((dJ (dep%b) a).drop (a.length/2+1)) (dep+1);grind[List.length_take,pC,List.length_drop,aD.size]
theorem yv (b:Nat): ∀(d:Nat) (h:List (List Int)) (dep:Nat),(∀a∈h,a.length=b)->(fD b d h dep).Ok b
 |0,_,_,_=>trivial
 |d+1,h,dep,o=>by
  rw[fD];split
  .trivial
  .rename_i p;have:=a5U.2 p;have k: ∀a∈dJ (dep%b) h,a.length=b:=λa c=>o a (qZ.1 c);refine⟨?_,yv b d _ _ λa c=>k a (a5b c),yv b d _ _ λa c=>k a (a5p c)⟩;grind[dJ,pC,List.getD,List.getElem?_eq_getElem,List.getElem_mem]
theorem ZV (b:Nat) (a:aD) (c:Nat):(hE b a c).size<=a.size:=by
 unfold hE;split
 .exact a5m _
 .split
  .exact a5J (r0 _ _ _ _) (lz _)
  .exact a5m _
variable{a8:aD}
def yw (b:Nat) (a:a8.Ok e):(hE e a8 b).Ok e:=by
 unfold hE;split
 .trivial
 .split
  .exact yv _ _ _ _ a.all
  .exact a
def de (a:Nat) (b:List Int):aD->Nat->aD×Bool
 | .nil,_=>(.node b true .nil .nil,true)
 | .node c live d h,dep=>
  if c=b then(hE a (.node c true d h) dep,!live)
  else if cO (dep%a) b c<0 then(hE a (.node c live (de a b d (dep+1)).1 h) dep,(de a b d (dep+1)).2)
  else(hE a (.node c live d (de a b h (dep+1)).1) dep,(de a b h (dep+1)).2)
theorem pD (a:Nat) (b:List Int): ∀(c:aD) (dep:Nat),(de a b c dep).1.size<=c.size+1
 | .nil,_=>a5m _
 | .node k live d h,dep=>by
  have o:=pD a b d (dep+1);have p:=pD a b h (dep+1);grind[de,Nat.le_trans,ZV,aD.size]
def uM {a:Nat}{b:List Int} (c:b.length=a): ∀ {r:aD} (dep:Nat),r.Ok a->(de a b r dep).1.Ok a
 | .nil,_,_=>⟨c,trivial,trivial⟩
 | .node d live h k,dep,⟨h1,o,p⟩=>by
  rw[de];split
  .exact yw (a8:= .node d true h k) _ ⟨h1,o,p⟩
  .split
   .exact yw (a8:= .node d live (de a b h (dep+1)).1 k) _ ⟨h1,uM c _ o,p⟩
   .exact yw (a8:= .node d live h (de a b k (dep+1)).1) _ ⟨h1,o,uM c _ p⟩
def yx (a:Nat) (p:0<a) (s:a<=8) (g:List Int) (x:Own) (t:g.length=a): ∀(b:aD) (h:R) (dep:Nat) (j k:U),dS k b h->k.sub j->b.Ok a->b.size+1+dep<=100000->
  AC Tryz.prog 54 [h,.J (ad g) x,.v (.int .i64 (dep:Int))] j λf c=>j.sub c/\ ∃d,f= .aL [d,.v (.bool (de a g b dep).2)]/\dS (c.part j k) (de a g b dep).1 d
 | .nil,h,dep,j,k,i,l,m,o=>by
  obtain rfl:h= .v (.pointer none):=i;refine aO hm Bf ?_;refine aP λb e=> ?_;refine aa ?_;exact⟨_,U.a1,U.ae U.a1 e,_,rfl,b,x,_,_,rfl,(uJ e).trans (U.ah _ _ _),rfl,rfl⟩
 | .node c live q r,h,dep,j,k,i,l,m,o=>by
  obtain⟨n,h,f,d,rfl,w,y,z⟩:=i;have u:=l _ _ w;have i:=y.mono l;have w:=z.mono l;obtain⟨C,A,B⟩:=id m;have m:=U.af u;have m:=bI (q:=g);have m:=i.cells;have i:=w.cells;refine aO hm Bf ?_;refine br λb e=> ?_;have i:=U.ae (Y:= .cells [.J (ad c) h,.v (.bool live),f,d]) U.a1 e;have m:=U.af (i _ _ u);have i:n≠b:=by rintro rfl;rw[e]at u;cases u
  have n:=U.bG l e;obtain⟨m,D⟩: ∃m,m=j.set b (.cells [.J (ad c) h,.v (.bool live),f,d]):=⟨_,rfl⟩;simp only[aD.size]at o;refine aa ?_;refine ai (np c g _ _ _ a9r) ?_;rintro _ _ ⟨rfl,rfl⟩;refine aa ?_;refine aH (λw=> ?_) λw=> ?_
  .subst w;have o:dS ((j.part m k).set b (.cells [.J (ad c) h,.v (.bool true),f,d])) (.node c true q r) (.ptr b 0):=by have i:=U.ae (Y:= .cells [.J (ad c) h,.v (.bool true),f,d]) (pB (e7:=m) l) n;exact⟨b,h,f,d,rfl,U.ah _ _ _,y.mono i,z.mono i⟩
   refine ai (yu a p s c true q r _ dep _ _ o (ys qX) ⟨C,A,B⟩ (by simp only[aD.size];omega) a9r) ?_;rintro v m ⟨i,o⟩;have E:=U.af (i _ _ (U.ae U.a1 e _ _ u));refine aa ?_;rw[de,if_pos rfl];exact⟨_,U.a1,U.aq (U.ae U.a1 e) i,_,rfl,o.mono (yt U.a1 D e)⟩
  rw[de,if_neg w];have u:(dep:Int).tmod (a:Int)=((dep%a:Nat):Int):=rfl;refine ai (yp g c _ _ (dep%a) _ (by rw[t];exact a6U _ p) a9r a9r) ?_;rintro _ _ ⟨rfl,rfl⟩;refine aa ?_;refine aH (λc2=> ?_) λc2=> ?_
  .refine ai (yx a p s g x t q f (dep+1) _ k y (U.ae l n) A a9r) ?_;rintro _ m ⟨i,v,rfl,o⟩;have D:=i _ _ (U.ah _ _ _);have H:ep m b=some [.J (ad c) h,.v (.bool live),f,d]:=by simp[ep,D]
   have I:=o.cells;have u:=U.aq (U.ae U.a1 e) i;rw[if_pos c2];refine aa ?_;have w:=U.ae (Y:= .cells [.J (ad c) h,.v (.bool live),v,d]) U.a1 (uL (a:=m) rfl n:m.part (j.set b (.cells [.J (ad c) h,.v (.bool live),f,d])) k b=none);have E:dS _ (.node c live (de a g q (dep+1)).1 r) (.ptr b 0):=⟨b,h,v,d,rfl,U.ah _ _ _,o.mono w,z.mono (U.aq (pB (U.aq (U.ae l n) i)) w)⟩;have K:=pD a g q (dep+1);refine ai (yu a p s _ _ _ _ _ dep _ _ E (ys qX) ⟨C,uM t _ A,B⟩ (by simp only[aD.size];omega) a9r) ?_;rintro L M ⟨F,G⟩;refine aa ?_;exact⟨_,U.a1,U.aq (U.ae u e) F,_,rfl,G.mono (yt u rfl e)⟩
  .refine ai (yx a p s g x t r d (dep+1) _ k z (U.ae l n) B a9r) ?_;rintro _ m ⟨i,v,rfl,o⟩;have D:=i _ _ (U.ah _ _ _);have H:ep m b=some [.J (ad c) h,.v (.bool live),f,d]:=by simp[ep,D]
   have I:=o.cells;have u:=U.aq (U.ae U.a1 e) i;rw[if_neg c2];refine aa ?_;have w:=U.ae (Y:= .cells [.J (ad c) h,.v (.bool live),f,v]) U.a1 (uL (a:=m) rfl n:m.part (j.set b (.cells [.J (ad c) h,.v (.bool live),f,d])) k b=none);have E:dS _ (.node c live q (de a g r (dep+1)).1) (.ptr b 0):=⟨b,h,f,v,rfl,U.ah _ _ _,y.mono (U.aq (pB (U.aq (U.ae l n) i)) w),o.mono w⟩;have K:=pD a g r (dep+1);refine ai (yu a p s _ _ _ _ _ dep _ _ E (ys qX) ⟨C,A,uM t _ B⟩ (by simp only[aD.size];omega) a9r) ?_;rintro L M ⟨F,G⟩;refine aa ?_;exact⟨_,U.a1,U.aq (U.ae u e) F,_,rfl,G.mono (yt u rfl e)⟩
theorem uN {a:U}{b:bq} (d:t=f.set e b) (h:f e=none):((e7.part t a).set e Y).sub ((e7.set e Y).part f a):=λc k o=>by
 by_cases p:c=e;grind[U.ah,uJ];simp_all [U.an,U.part,if_pos]
def cn (b:Nat) (a:List Int):aD->Nat->aD×Bool
 | .nil,_=>(.nil,false)
 | .node c live d h,dep=>
  if c=a then(.node c false d h,live)
  else if cO (dep%b) a c<0 then(.node c live (cn b a d (dep+1)).1 h,(cn b a d (dep+1)).2)
  else(.node c live d (cn b a h (dep+1)).1,(cn b a h (dep+1)).2)
theorem pE (a:Nat) (b:List Int): ∀(c:aD) (dep:Nat),(cn a b c dep).1.size=c.size
 | .nil,_=>rfl
 | .node k live d h,dep=>by
  have o:=pE a b d (dep+1);have p:=pE a b h (dep+1);grind[cn,aD.size]
def yy {a:Nat}{h:List Int}: ∀ {d:aD} (dep:Nat),d.Ok a->(cn a h d dep).1.Ok a
 | .nil,_,_=>trivial
 | .node k live o p,dep,⟨h1,b,c⟩=>by
  rw[cn];split
  .exact⟨h1,b,c⟩
  .split
   .exact⟨h1,yy _ b,c⟩
   .exact⟨h1,b,yy _ c⟩
def yz (b:Nat) (s:0<b) (B:b<=8) (h:List Int) (t:Own) (u:h.length=b): ∀(d:aD) (e:R) (dep:Nat) (k l:U),dS l d e->l.sub k->d.Ok b->d.size+1+dep<=1000000->
  AC Tryz.prog 89 [e,.J (ad h) t,.v (.int .i64 (dep:Int))] k λc f=>k.sub f/\ ∃a,c= .aL [a,.v (.bool (cn b h d dep).2)]/\dS (f.part k l) (cn b h d dep).1 a
 | .nil,e,dep,k,l,f,i,m,o=>by
  obtain rfl:e= .v (.pointer none):=f;refine aO hm Bj ?_;exact⟨_,U.a1,U.a1,_,rfl,rfl⟩
 | .node d live w x,e,dep,k,l,f,i,m,o=>by
  obtain⟨n,g,c,a,rfl,e,q,r⟩:=f;have j:=i _ _ e;have e:=q.mono i;have f:=r.mono i;obtain⟨p,y,C⟩:=id m;have m:=U.af j;have m:=bI (q:=h);have m:=e.cells;have e:=f.cells;refine aO hm Bj ?_;refine br λe f=> ?_;have m:=U.ae (Y:= .cells [.J (ad d) g,.v (.bool live),c,a]) U.a1 f;have p:=U.af (m _ _ j);have m:n≠e:=by rintro rfl;rw[f]at j;cases j
  have m:=U.bG i f;obtain⟨n,p⟩: ∃n,n=k.set e (.cells [.J (ad d) g,.v (.bool live),c,a]):=⟨_,rfl⟩;simp only[aD.size]at o;refine aa ?_;refine ai (np d h _ _ _ a9r) ?_;rintro _ _ ⟨rfl,rfl⟩;refine aa ?_;refine aH (λo=> ?_) λo=> ?_
  .subst o;rw[cn,if_pos rfl];have j:=U.ae (Y:= .cells [.J (ad d) g,.v (.bool false),c,a]) (pB (e7:=n) i) m;exact⟨_,U.a1,U.ae U.a1 f,_,rfl,e,g,c,a,rfl,(uJ f).trans (U.ah _ _ _),q.mono (U.aq j (uN p f)),r.mono (U.aq j (uN p f))⟩
  rw[cn,if_neg o];have n:(dep:Int).tmod (b:Int)=((dep%b:Nat):Int):=rfl;refine ai (yp h d _ _ (dep%b) _ (by rw[u];exact a6U _ s) a9r a9r) ?_;rintro _ _ ⟨rfl,rfl⟩;refine aa ?_;refine aH (λc2=> ?_) λc2=> ?_
  .refine ai (yz b s B h t u w c (dep+1) _ l q (U.ae i m) y a9r) ?_;rintro _ n ⟨j,v,rfl,o⟩;have y:=j _ _ (U.ah _ _ _);have D:ep n e=some [.J (ad d) g,.v (.bool live),c,a]:=by simp[ep,y]
   have E:=o.cells;have z:=U.aq (U.ae U.a1 f) j;rw[if_pos c2];refine aa ?_;have p:=U.ae (Y:= .cells [.J (ad d) g,.v (.bool live),v,a]) U.a1 (uL (a:=n) rfl m:n.part (k.set e (.cells [.J (ad d) g,.v (.bool live),c,a])) l e=none);have A:dS _ (.node d live (cn b h w (dep+1)).1 x) (.ptr e 0):=⟨e,g,v,a,rfl,U.ah _ _ _,o.mono p,r.mono (U.aq (pB (U.aq (U.ae i m) j)) p)⟩;exact⟨_,U.a1,U.ae z f,_,rfl,A.mono (uN rfl f)⟩
  .refine ai (yz b s B h t u x a (dep+1) _ l r (U.ae i m) C a9r) ?_;rintro _ n ⟨j,v,rfl,o⟩;have y:=j _ _ (U.ah _ _ _);have D:ep n e=some [.J (ad d) g,.v (.bool live),c,a]:=by simp[ep,y]
   have E:=o.cells;have z:=U.aq (U.ae U.a1 f) j;rw[if_neg c2];refine aa ?_;have p:=U.ae (Y:= .cells [.J (ad d) g,.v (.bool live),c,v]) U.a1 (uL (a:=n) rfl m:n.part (k.set e (.cells [.J (ad d) g,.v (.bool live),c,a])) l e=none);have A:dS _ (.node d live w (cn b h x (dep+1)).1) (.ptr e 0):=⟨e,g,c,v,rfl,U.ah _ _ _,q.mono (U.aq (pB (U.aq (U.ae i m) j)) p),o.mono p⟩;exact⟨_,U.a1,U.ae z f,_,rfl,A.mono (uN rfl f)⟩
def lA (a:Nat) (b:List Int) (c:aD):aD×Bool:=
 if(cn a b c 0).2=true/\2*(cn a b c 0).1.all.length<(cn a b c 0).1.size then(fD a (cn a b c 0).1.all.length (cn a b c 0).1.all 0,true)else cn a b c 0
def ZW (a:Nat) (z:0<a) (C:a<=8) (b:List Int) (D:Own) (L:b.length=a) (c:aD) (o:R) (k:U) (P:dS k c o) (E:c.Ok a) (u:c.size+1<=100000):
  AC Tryz.prog 52 [o,.J (ad b) D] k λS F=>k.sub F/\ ∃d,S= .aL [d,.v (.bool (lA a b c).2)]/\dS F (lA a b c).1 d:=by
 refine aO hm KV ?_;refine ai (yz a z C b D L c o 0 k k P U.a1 E a9r) ?_;rintro _ T ⟨p,d,rfl,V⟩;have r:=V.mono qX;have W:=yy (h:=b) 0 E;have cr:=pE a b c 0;rw[lA];generalize cn a b c 0=e at*;obtain⟨h,f⟩:=e
 dsimp only at*
 have w:=lz h;cases f with
 |false=>refine aa ?_;rw[if_neg a9s];exact⟨_,U.a1,p,d,rfl,r⟩
 |true=>
  refine aa ?_;refine ai (sS h d T r a9r) ?_;rintro _ G ⟨A,B,x,g,rfl⟩;have y:=r.mono x.sub;have H:=g.len;refine aa ?_;refine bk (qY h d G y a9r) ?_;refine aH (λi=> ?_) λi=> ?_
  .rw[if_pos ⟨rfl,a9r⟩];refine ai (sS h d G y a9r) ?_;rintro _ j ⟨l,m,n,q,rfl⟩;refine aa ?_;refine ai (uK a z C h.all.length h.all l m 0 j q W.all a9r a9r a9r) ?_;rintro v I ⟨s,t⟩;refine aa ?_;exact⟨_,U.a1,U.aq p (U.aq x.sub (U.aq n.sub s)),v,rfl,t.mono qX⟩
  .rw[if_neg a9r];exact⟨_,U.a1,U.aq p x.sub,d,rfl,y⟩
def ZX (a:UInt32):bo .mul (.int .u32 256) (.int .u32 a.toNat)=some (.int .u32 (256*a).toNat):=BQ (x:=256) (y:=a)
def pF (a:UInt32):bo .sub (.int .u32 4294967295) (.int .u32 a.toNat)=some (.int .u32 (~~~a).toNat):=by
 have b:=BP (x:=4294967295) (y:=a);have c:(4294967295:UInt32) - a= ~~~a:=by apply UInt32.toNat_inj.1;rw[UInt32.toNat_sub,UInt32.toNat_not];have:=a.toNat_lt;simp;omega
 rw[c]at b;exact b
theorem sT (a:UInt32):bo .quo (.int .u32 a.toNat) (.int .u32 8)=some (.int .u32 (a>>>3).toNat):=by have b:=a.toNat_lt;grind[Int.tdiv,Int.tdiv_eq_ediv_of_nonneg,UInt32.toNat_shiftRight,Nat.shiftRight_eq_div_pow,bo,eL,gk,qn]
theorem sU (a:UInt32):bo .quo (.int .u32 a.toNat) (.int .u32 1024)=some (.int .u32 (a>>>10).toNat):=by have b:=a.toNat_lt;grind[Int.tdiv,Int.tdiv_eq_ediv_of_nonneg,UInt32.toNat_shiftRight,Nat.shiftRight_eq_div_pow,bo,eL,gk,qn]
theorem mm (c:UInt32) (d:Int) (a:Nat) (r:0<a/\a<32) (h:d=((32 - a:Nat):Int)) (b:U):AC Tryz.prog 324 [.v (.int .u32 c.toNat),.v (.int .u64 d)] b λk o=>o=b/\k= .v (.int .u32 (rotl c a).toNat):=by
 subst h;have p:bo .sub (.int .u64 32) (.int .u64 ((32 - a:Nat):Int))=some (.int .u64 (a:Int)):=by grind[bo,eL,gk,ky]
 refine bf hm S2 a9s ?_;simp -dsimp -implicitDefEqProofs (disch:=first|omega|assumption|(simp only[aE,Nat.reduceAdd];try omega)) only[↓s8,s9,aj,ofConst,cZ,simprocAttr,gf,ba,bb,a6e,↓sb,sc,ne_eq,not_true_eq_false,not_false_eq_true,Int.reduceNe,a6w,a6N,p];refine⟨b,U.a1,rfl,?_⟩;simp only[a5i,rotl];rw[UInt32.or_comm]
def ZY (a:U):AC Tryz.prog 191 [] a λc d=> ∃b,a b=none/\c= .al b 64 64 1/\d=a.set b (.cells (wl mX)):=by refine bf hm OX a9s ?_;simp -dsimp -implicitDefEqProofs (disch:=first|omega|assumption|(simp only[aE,Nat.reduceAdd];try omega)) only[↓s8,s9,aj,ofConst,cZ,simprocAttr,gf,ba,bb,a6e,↓sb,sc,ne_eq,not_true_eq_false,not_false_eq_true,Int.reduceNe,a6w,a6N];refine eT (by simp[aN,R.cells]) a9s λh k=> ?_;simp -dsimp -implicitDefEqProofs (disch:=first|omega|assumption|(simp only[aE,Nat.reduceAdd];try omega)) only[↓s8,s9,aj,ofConst,cZ,simprocAttr,gf,ba,bb,a6e,↓sb,sc,ne_eq,not_true_eq_false,not_false_eq_true,Int.reduceNe,a6w,a6N];refine⟨_,U.a1,h,k,rfl,?_⟩;rfl
variable{g A e1:List R}{h6:List UInt32}
def uO:(wl h6++g).length=h6.length+g.length:=by simp[wl]
theorem mn (a:e<h6.length):aY false 1 ((wl h6++g).drop e)= .v (.int .u32 (h6.getD e 0).toNat):=by grind[wl,aY,List.map_drop,List.drop_eq_getElem_cons,List.getD]
def pG (a:0<h6.length):aY false 1 (wl h6++g)= .v (.int .u32 (h6.getD 0 0).toNat):=mn (e:=0) a
theorem ZZ (a:UInt32) (b:e<h6.length):putAt (wl h6++g) e [.v (.int .u32 a.toNat)]=wl (h6.set e a)++g:=by rw[<-Cu a b,putAt,putAt];grind[wl,eN,List.length_singleton]
def r1 (a:List UInt8) (b:Nat):Nat->UInt32
 |0=>0
 |c+1=>256*r1 a b c+(a.getD (4*b+c) 0).toUInt32
def yA (c a b:Nat) (d:a<2^b):c*2^b|||a=c*2^b+a:=by have:=a7B (a:=c) (i:=b) (b:=a) d;rw[a7d]at this;exact this.symm
def a0a (b a c d:Nat) (h:a<256) (k:c<256) (o:d<256):b*2^24|||a*2^16|||c*2^8|||d=((b*256+a)*256+c)*256+d:=by
 rw[yA b (a*2^16) 24 a9r,show b*2^24+a*2^16=(b*256+a)*2^16 by omega,yA (b*256+a) (c*2^8) 16 a9r,
  show(b*256+a)*2^16+c*2^8=((b*256+a)*256+c)*2^8 by omega,yA _ d 8 a9r]
 all_goals omega
def a0b (a b c d:UInt8):(256:UInt32)*((256:UInt32)*((256:UInt32)*((256:UInt32)*(0:UInt32)+a.toUInt32)+b.toUInt32)+c.toUInt32)+d.toUInt32=a.toUInt32<<<24|||b.toUInt32<<<16|||c.toUInt32<<<8|||d.toUInt32:=by
 have z:=a.toNat_lt;have h:=b.toNat_lt;have k:=c.toNat_lt;have o:=d.toNat_lt;apply UInt32.toNat_inj.1;have p:(a.toUInt32<<<24).toNat=a.toNat*2^24:=by rw[UInt32.toNat_shiftLeft];simp[a7d];omega
 have r:(b.toUInt32<<<16).toNat=b.toNat*2^16:=by rw[UInt32.toNat_shiftLeft];simp[a7d];omega
 have x:(c.toUInt32<<<8).toNat=c.toNat*2^8:=by rw[UInt32.toNat_shiftLeft];simp[a7d];omega
 have y:d.toUInt32.toNat=d.toNat:=a9s;rw[UInt32.toNat_or,UInt32.toNat_or,UInt32.toNat_or,p,r,x,y,a0a _ _ _ _ h k o];simp only[UInt32.toNat_add,UInt32.toNat_mul,UInt8.toNat_toUInt32,UInt32.reduceToNat];omega
def a0c (a:List UInt8) (b:Nat):r1 a b 4=word a b:=a0b _ _ _ _
def a0d (b:h6.length<64):eh (h6++ [0])=eh h6:=by have a:64 - h6.length=(64 -(h6.length+1))+1:=a9r;simp only[eh,a,a6Q];simp
def a0e {b:UInt32} (a:UInt32) (c:e=h6.length) (d:h6.length<64):putAt (eh (h6++ [b])) e [.v (.int .u32 a.toNat)]=eh (h6++ [a]):=by subst c;simp[putAt,eh,a7h,a6m]
variable{n b3:R}
def EX {v:List UInt32} (c:ar f t 1 (wl v) n) (o:v≠ []): ∃a b d,n= .al a v.length b 1/\f a=none/\t a=some (.cells (wl v++d))/\v.length+d.length=b/\b<=maxLen:=by
 obtain⟨_,c|⟨a,C,b,p,rfl,r,x,y,h,k,D,z⟩⟩:=c
 .exact absurd (by simpa[wl] using c.1) o
 .simp only[a5v,eN]at y h k;subst k;refine⟨a,b,p.drop v.length,rfl,r,?_,?_,z⟩
  .rw[<-h,a5r];exact x
  .simp;omega
theorem a0f (j o:List UInt32) (k:List UInt8) (z:j.length=8) (K:o.length=64) (m r:Nat) (L:List R) (q s:Nat) (a:List R) (p:Nat) (l:U)
  (D:l m=some (.cells (wl j++L))) (w:l q=some (.cells a)) (c:s+64<=a.length) (M: ∀b,b<64->aY false 1 (a.drop (s+b))= .v (.int .u8 (k.getD b 0).toNat)) (E:l p=some (.cells (wl o))):
  AC Tryz.prog 273 [.al m 8 r 1,.bx q s 64 e 1,.al p 64 64 1] l λa n=>ar l n 1 (wl (List.zipWith (·+ ·) (hs o (sched k) j) j)) a:=by
 refine bf hm QZ a9s ?_;refine aF (c2 @ba @bb) ?_;refine wS (e:=64) a9r a9r λi B=> ?_;have Q:m≠i:=by rintro rfl;rw[B]at D;cases D
 have y:q≠i:=by rintro rfl;rw[B]at w;cases w
 have P:p≠i:=by rintro rfl;rw[B]at E;cases E
 have a:(List.replicate 64 [R.v (.int .u32 0)]).flatten=eh (first k 0):=rfl;rw[a];refine aF (c2 @ba @bb) ?_;refine cv (λb n=> ∃a:Nat,a<=16/\n=l.set i (.cells (eh (first k a)))/\b 0= .al m 8 r 1/\b 1= .bx q s 64 e 1/\b 2= .al p 64 64 1/\b 7= .al i 64 64 1/\b 8= .v (.int .i64 a))
  (λb _=>match b 8 with| .v (.int _ d)=>(16 - d).toNat| _=>0) ⟨0,a9r,?_⟩ ?_
 .exact gX (c2 @ba @bb)
 .rintro b _ ⟨a,N,rfl,c,t,f,g,u⟩;have x:(first k a).length=a:=by simp[first]
  by_cases h:(a:Int)<16
  .rw[<-a0d (h6:=first k a) a9r];refine aF (bw @c @t @f @g @u @h @ba @bb) ?_;refine cv (λb n=> ∃d:Nat,d<=4/\n=l.set i (.cells (eh (first k a++ [r1 k a d])))/\b 0= .al m 8 r 1/\b 1= .bx q s 64 e 1/\b 2= .al p 64 64 1/\b 7= .al i 64 64 1/\b 8= .v (.int .i64 a)/\b 9= .v (.int .i64 d))
    (λb _=>match b 9 with| .v (.int _ d)=>(4 - d).toNat| _=>0) ⟨0,a9r,?_⟩ ?_
   .refine aF (cd @c @t @f @g @u @ba @bb) ?_;rfl
   .rintro A _ ⟨d,e,rfl,e,s,C,F,G,H⟩;by_cases I:(d:Int)<4
    .have q:(eh (first k a++ [r1 k a d])).length=64:=sj (by simp[x];omega);have S:aY false 1 ((eh (first k a++ [r1 k a d])).drop a)= .v (.int .u32 (r1 k a d).toNat):=by grind[ll,List.getD]
     have O:(4*(a:Int)+(d:Int)).toNat=4*a+d:=a9r;have T:=M (4*a+d) a9r;refine aF (Cg @e @s @C @F @G @H @I @q @S @rY @O (U.af w) (a4S y) @y @T @ZX @ba @bb) ?_;rw[a0e _ x.symm a9r];exact⟨⟨d+1,a9r,rfl,a9s⟩,a9r⟩
    .obtain rfl:d=4:=a9r;refine aF (cu @e @s @C @F @G @H @u @I @ba @bb) ?_;refine⟨⟨a+1,a9r,?_,a9s⟩,a9r⟩;rw[a0c];simp only[first,a8P,a5P,a5j,a6A]
  .obtain rfl:a=16:=a9r;refine aF (bw @c @t @f @g @u @h @ba @bb) ?_;refine cv (λb n=> ∃(e:List UInt32) (a:Nat),a<=48/\e.length=16+a/\grow (48 - a) e=sched k/\b 0= .al m 8 r 1/\b 2= .al p 64 64 1/\b 7= .al i 64 64 1/\b 10= .v (.int .i64 ((16+a:Nat):Int))/\n=l.set i (.cells (eh e)))
    (λb _=>match b 10 with| .v (.int _ d)=>(64 - d).toNat| _=>0) ⟨first k 16,0,a9r,x,rfl,?_⟩ ?_
   .exact gX (bD @c @t @f @g @ba @bb)
    all_goals rfl
   .rintro b _ ⟨e,a,N,w,C,c,f,g,s,rfl⟩;by_cases h:((16+a:Nat):Int)<64
    .have q:(eh e).length=64:=sj a9r;have t:(((16+a:Nat):Int) - 15).toNat=a+1:=a9r;have u:(((16+a:Nat):Int) - 2).toNat=a+14:=a9r;have x:(((16+a:Nat):Int) - 16).toNat=a:=a9r;have y:(((16+a:Nat):Int) - 7).toNat=a+9:=a9r;refine aF (p8 @c @f @g @s @h @t @u @x @y @q @ll @sT @sU @ba @bb) ?_;refine ai (mm _ _ 25 a9v a9v _) ?_;rintro _ _ ⟨rfl,rfl⟩;refine aF (p8 @c @f @g @s @h @t @u @x @y @q @ll @sT @sU @ba @bb) ?_;refine ai (mm _ _ 14 a9v a9v _) ?_;rintro _ _ ⟨rfl,rfl⟩;refine aF (p8 @c @f @g @s @h @t @u @x @y @q @ll @sT @sU @ba @bb) ?_;refine ai (mm _ _ 15 a9v a9v _) ?_;rintro _ _ ⟨rfl,rfl⟩;refine aF (p8 @c @f @g @s @h @t @u @x @y @q @ll @sT @sU @ba @bb) ?_;refine ai (mm _ _ 13 a9v a9v _) ?_;rintro _ _ ⟨rfl,rfl⟩;refine aF (p8 @c @f @g @s @h @t @u @x @y @q @ll @sT @sU @ba @bb) ?_;rw[x8 _ w.symm a9r];refine⟨⟨_,a+1,a9r,by simp[w];omega,?_,?_,rfl⟩,a9r⟩
     .rw[<-C,show 48 - a=(48 -(a+1))+1 by omega,grow,more,w];rw[show 16+a - 16=a by omega,show 16+a - 15=a+1 by omega,show 16+a - 7=a+9 by omega,show 16+a - 2=a+14 by omega];rfl
     .simp;omega
    .obtain rfl:a=48:=a9r;have q:e=sched k:=C;have t:eh e=wl e:=by simp[eh,w,wl]
     rw[t];clear C;generalize sched k=k at*;subst q;have k:bN (l.set i (.cells (wl e))) 1 (.al m 8 r 1)=some (8,wl j):=by simp_all [wl,U.an,eN,bN,U.af]
     refine aF (bw @c @f @g @s @h @nX @ba @bb) ?_;refine fk (t:=l.set i (.cells (wl e))) (ar.zero U.a1) a9r k (by rw[eN,z]) (by rw[eN,z];simp) (by rw[eN,z];simp) λk q u=> ?_;rw[a5d]at u;refine aF (bp @c @f @g @ba @bb) ?_;have s:(wl o).length=64:=by rw[eN,K]
     have t:(wl e).length=64:=by rw[eN,w]
     have V:(l.set i (.cells (wl e))) p=some (.cells (wl o)):=by rw[U.an _ _ P];exact E
     have y:(l.set i (.cells (wl e))) i=some (.cells (wl e)):=U.ah _ _ _;have P:(l.set i (.cells (wl e))) m=some (.cells (wl j++L)):=by rw[U.an _ _ Q];exact D
     have Q:l.sub (l.set i (.cells (wl e))):=U.ae U.a1 B;generalize l.set i (.cells (wl e))=k at*;refine cv (λb n=> ∃(a:Nat) (v:List UInt32),a<=64/\v.length=8/\hs (o.drop a) (e.drop a) v=hs o e j/\ar k n 1 (wl v) (b 13)/\b 0= .al m 8 r 1/\b 2= .al p 64 64 1/\b 7= .al i 64 64 1/\b 14= .v (.int .i64 a))
      (λb _=>match b 14 with| .v (.int _ d)=>(64 - d).toNat| _=>0) ⟨0,j,a9r,z,rfl,?_⟩ ?_
     .refine aF (bp @c @f @g @ba @bb) ?_;exact u
     clear u;rintro b q ⟨a,v,N,B,C,u,c,f,g,k⟩;have l:=u.1;obtain⟨M,S,D,i,T,ma,w,W⟩:=EX u (by intro p;rw[p]at B;cases B);rw[B]at i w;by_cases h:(a:Int)<64
     .obtain⟨E,F,G,H,p,I,A,K,rfl⟩: ∃E F G H p I A K,v= [E,F,G,H,p,I,A,K]:=by
       match v,B with
       | [E,F,G,H,p,I,A,K],_=>simp
      have u:(wl [E,F,G,H,p,I,A,K]++D).length=8+D.length:=by rw[uO,B]
      have w:=U.af ma;have x:=U.af (l _ _ y);have y:=U.af (l _ _ V);refine aF (o1 @c @f @g @i @k @h @u @w @x @y @mn @pG @hr @s @t @pF @a5s.{0} @a5z.{0} @ba @bb) ?_;refine ai (mm _ _ 26 a9v a9v _) ?_;rintro _ q ⟨rfl,rfl⟩;refine aF (o1 @c @f @g @i @k @h @u @w @x @y @mn @pG @hr @s @t @pF @a5s.{0} @a5z.{0} @ba @bb) ?_;refine ai (mm _ _ 21 a9v a9v _) ?_;rintro _ q ⟨rfl,rfl⟩;refine aF (o1 @c @f @g @i @k @h @u @w @x @y @mn @pG @hr @s @t @pF @a5s.{0} @a5z.{0} @ba @bb) ?_;refine ai (mm _ _ 7 a9v a9v _) ?_;rintro _ q ⟨rfl,rfl⟩;refine aF (o1 @c @f @g @i @k @h @u @w @x @y @mn @pG @hr @s @t @pF @a5s.{0} @a5z.{0} @ba @bb) ?_;refine ai (mm _ _ 30 a9v a9v _) ?_;rintro _ q ⟨rfl,rfl⟩;refine aF (o1 @c @f @g @i @k @h @u @w @x @y @mn @pG @hr @s @t @pF @a5s.{0} @a5z.{0} @ba @bb) ?_;refine ai (mm _ _ 19 a9v a9v _) ?_;rintro _ q ⟨rfl,rfl⟩;refine aF (o1 @c @f @g @i @k @h @u @w @x @y @mn @pG @hr @s @t @pF @a5s.{0} @a5z.{0} @ba @bb) ?_;refine ai (mm _ _ 10 a9v a9v _) ?_;rintro _ q ⟨rfl,rfl⟩;refine aF (o1 @c @f @g @i @k @h @u @w @x @y @mn @pG @hr @s @t @pF @a5s.{0} @a5z.{0} @ba @bb) ?_;refine eT (by simp[aN,R.cells]) a9s λt s=> ?_;refine aF (bD @c @f @g @k @ba @bb) ?_;refine⟨⟨a+1,sk (o.getD a 0) (e.getD a 0) [E,F,G,H,p,I,A,K],a9r,rfl,?_,?_,a9s⟩,a9r⟩;grind[Cy]
      .exact⟨U.ae l (U.bG l s),.inr ⟨t,8,8,_,rfl,U.bG l s,U.ah _ _ _,rfl,rfl,rfl,a9r,a9v⟩⟩
     .obtain rfl:a=64:=a9r;have p:hs o e j=v:=by rw[<-C,a5V a9r];rfl
      refine aF (bw @c @f @g @i @k @h @ba @bb) ?_;have e:m≠M:=by rintro rfl;rw[T]at P;cases P
      have f:=U.bG Q T;have g:=l _ _ P;refine cv (λb n=> ∃a:Nat,a<=8/\b 0= .al m 8 r 1/\b 13= .al M 8 S 1/\b 19= .v (.int .i64 a)/\n=q.set M (.cells (wl (jO a v j)++D)))
       (λb _=>match b 19 with| .v (.int _ d)=>(8 - d).toNat| _=>0) ⟨0,a9r,?_⟩ ?_
      .have O:jO 0 v j=v:=rfl;rw[O,U.pg ma];exact gX (aM @c @i @ba @bb)
      .rintro b _ ⟨a,N,c,i,b,rfl⟩;by_cases h:(a:Int)<8
       .obtain⟨d,k⟩:=Cw v j B z a a9r;have m:(wl (jO a v j)++D).length=8+D.length:=by rw[uO,d]
        have d:(wl j++L).length=8+L.length:=by rw[uO,z]
        refine aF (fx @c @i @b @h @m @d @mn @ZZ @k (U.af g) @e (a4S e) @ba @bb) ?_;grind
       .obtain rfl:a=8:=a9r;have d:jO 8 v j=List.zipWith (·+ ·) v j:=by grind[jO,List.take_of_length_le,List.drop_of_length_le]
        have a:(wl (List.zipWith (·+ ·) v j)).length=8:=by rw[eN];simp;omega
        rw[d];refine aF (bD @c @i @b @h @ba @bb) ?_;rw[p];refine⟨_,U.a1,U.ae (U.aq Q l) f,.inr ⟨M,8,S,_,rfl,f,U.ah _ _ _,?_,?_,by rw[a],a9r,W⟩⟩
        .rw[a4L,a];omega
        simp_all
def a0g (b:List UInt32) (h:List UInt8) (z:b.length=8) (k x:Nat) (y:List R) (o c:Nat) (d:List R) (p:Nat) (a:U)
  (C:a k=some (.cells (wl b++y))) (D:a o=some (.cells d)) (E:c+64<=d.length) (F: ∀r,r<64->aY false 1 (d.drop (c+r))= .v (.int .u8 (h.getD r 0).toNat)) (G:a p=some (.cells (wl mX))):
  AC Tryz.prog 273 [.al k 8 x 1,.bx o c 64 e 1,.al p 64 64 1] a λL P=>ar a P 1 (wl (comp b h)) L:=
 a0f b mX h z rfl k x y o c d p a C D E F G
end Go.Proofs.YtlgnfcaolejgeaaGreat
namespace Go.bB
open Go
variable{n b3:R}{f t e7:U}{e i v M c0 j0:Nat}
theorem yB {h:Nat×List R} (k:f.sub t) (o:bN f e n=some h):bN t e n=some h:=by
 have p: ∀b c,f.read b=some c->t.read b=some c:=by
  intro b c a;unfold U.read at a|-;cases d:f b with
  |none=>rw[d]at a;cases a
  |some r=>rw[k _ _ d];rw[d]at a;exact a
 unfold bN at o|-;grind
end Go.bB
namespace Go.Proofs.YtlgnfcaolejgeaaGreat
open Go Go.bB
def kN (a:List UInt8):List UInt8:=a++128::List.replicate (er a.length) 0++cK (8*a.length)
def yC (a:List UInt8):(kN a).length=a.length+9+er a.length:=by simp[kN,cK];omega
def a0h (a:List UInt8):(kN a).length%64=0:=by rw[yC];unfold er;omega
theorem a0i (a:List UInt8):fl a=et (blocks ((kN a).length/64) gq (kN a)):=by
 have c:=yC a;have d:er a.length<64:=by unfold er;omega
 have b:kN a=a++(128::List.replicate (er a.length) 0++cK (8*a.length)):=by simp[kN]
 have h:je a.length (a.drop (64*(a.length/64)))=(kN a).drop (64*(a.length/64)):=by rw[b,a6k a9r];simp[je]
 have k:(kN a).length/64=a.length/64+((kN a).drop (64*(a.length/64))).length/64:=by rw[a4X];omega
 grind[fl,CB,CC]
theorem EY (b a:Nat) (d:a<8):(cK b).take a++ [UInt8.ofNat (b>>>(56 - 8*a)%256)]=(cK b).take (a+1):=by
 have c:UInt8.ofNat (b>>>(56 - 8*a)%256)=UInt8.ofNat (b>>>(56 - 8*a)):=by grind[UInt8.toNat_inj,UInt8.toNat_ofNat']
 rw[c];rcases(by omega:a=0\/a=1\/a=2\/a=3\/a=4\/a=5\/a=6\/a=7)with rfl|rfl|rfl|rfl|rfl|rfl|rfl|rfl<;>rfl
def ym (a:UInt32) (b:Nat):UInt8.ofNat ((a>>>UInt32.ofNat b).toNat%256)=(a>>>UInt32.ofNat b).toUInt8:=by apply a5I.1;rw[a5N];simp
theorem a0j (c:List UInt32) (k:c.length=8) (d:Nat) (p:d<32):(et c).take d++ [UInt8.ofNat ((c.getD (d/4) 0>>>UInt32.ofNat (24 - 8*(d%4))).toNat%256)]=(et c).take (d+1):=by
 rw[ym];have o: ∀h:UInt32,(h>>>UInt32.ofNat 0).toUInt8=h.toUInt8:=by intro h;simp
 have r: ∀a:Nat,a<8-> ∀b:Nat,b<4->(et c).take (4*a+b)++ [(c.getD a 0>>>UInt32.ofNat (24 - 8*b)).toUInt8]=(et c).take (4*a+b+1):=by
  match c,k with
  | [x,y,z,C,D,E,F,G],_=>
   intro a L b P;rcases(by omega:a=0\/a=1\/a=2\/a=3\/a=4\/a=5\/a=6\/a=7)with rfl|rfl|rfl|rfl|rfl|rfl|rfl|rfl<;>
    rcases(by omega:b=0\/b=1\/b=2\/b=3)with rfl|rfl|rfl|rfl<;>first|rfl|(simp only[a5s,a5z,Nat.reduceMul,Nat.reduceSub,o];rfl)
 grind
end Go.Proofs.YtlgnfcaolejgeaaGreat
