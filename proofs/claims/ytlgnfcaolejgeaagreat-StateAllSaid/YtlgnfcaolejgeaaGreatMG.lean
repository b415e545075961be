import Derived.Test.YtlgnfcaolejgeaaGreatMF
import Derived.Test.YtlgnfcaolejgeaaGreatMC
import Derived.Test.YtlgnfcaolejgeaaGreatMB
set_option linter.all false
set_option maxRecDepth 100000
namespace Go.Proofs.YtlgnfcaolejgeaaGreat
open Go Go.bz
abbrev fP:kJ:=⟨0,0,[]⟩
def r0 (a:Nat):fP.ok a=decide (1<=a/\a<=8):=by simp[kJ.ok]
def nz (a:Int):Nat:=(IntKind.u64.wrap ((BitVec.ofInt 64 (IntKind.u64.wrap a)^^^BitVec.ofInt 64 9223372036854775808).toNat:Int)).toNat
def a0A (a:Int):bn .xor (.int .u64 (IntKind.u64.wrap a)) (.int .u64 9223372036854775808)=some (.int .u64 (nz a:Int)):=by have b:bn .xor (.int .u64 (IntKind.u64.wrap a)) (.int .u64 9223372036854775808)=some (.int .u64 (IntKind.u64.wrap ((BitVec.ofInt 64 (IntKind.u64.wrap a)^^^BitVec.ofInt 64 9223372036854775808).toNat))):=rfl;rw[b,nz,a6k];exact Int.emod_nonneg _ a9o
def F2 (a:Int) (b:U):AC Tryz.prog 200 [.v (.int .i64 a)] b λc d=>d=b/\c=ig 0 (nz a):=by have h:=a0A a;refine aM hm Pb ?_;refine bp λk o=> ?_;rfl
variable{q b6:List Int}
def mn (b:0<q.length) (a:Own):cP 1 (.J (ad q) a) (.v (.int .i64 0))=some (.bV [.v (.int .i64 (q.getD 0 0))]):=by have:=o3 (e:=1) (g:=ad q) (M:=a) (e2:= .i64) (i:=0);rw[dJ b]at this;exact this
def yH (a:List Int):R:=if 1<=a.length/\a.length<=8 then .aL [ig 0 (nz (a.getD 0 0)),.v (.int .i64 0)]else .aL [ig 0 0,.v (.int .i64 1)]
def yI (c d:Own) (a:List Int) (b:U) (k:a.length<=1000000000000):AC Tryz.prog 280 [fP.V c,.J (ad a) d] b λo p=>p=b/\o=yH a:=by
 have x:=bH (q:=a);have y:= @dJ a;have h:=λb=>uN fP c a.length b k a9l;simp only[r0]at h;refine aM hm R1 ?_;refine bp λz C=> ?_;refine cX λD E F G=> ?_;refine bh (h _) ?_;rw[yH];refine aG (λr=> ?_) λr=> ?_
 .rfl
 .have L:=mn (q:=a) a9k d;refine aa ?_;refine bh (F2 _ _) ?_;rfl
def yJ (a b:Nat) (h:Int) (c d:Nat) (k:Int):Bool:=if qZ a b c d=0 then decide (h<k)else decide (qZ a b c d<0)
theorem F3 (a b c d:Nat) (h k:Int) (o:U):AC Tryz.prog 281 [ig a b,.v (.int .i64 h),ig c d,.v (.int .i64 k)] o λp r=>r=o/\p= .v (.bool (yJ a b h c d k)):=by
 refine aM hm R3 ?_;refine bp λx y=> ?_;refine cX λz C D E=> ?_;refine bh (EZ _ _ _ _ _) ?_
 repeat' first|refine aG (λ_=> ?_) λ_=> ?_|trivial
 all_goals simp_all [yJ,if_pos,if_neg]
def oC (a:List Int):Prop:=1<=a.length/\a.length<=8
def yK (a:oC q):yH q= .aL [ig 0 (nz (q.getD 0 0)),.v (.int .i64 0)]:=if_pos a
def sQ (a b:List Int):Bool:=yJ 0 (nz (a.getD 0 0)) (a.getD 0 0) 0 (nz (b.getD 0 0)) (b.getD 0 0)
def F4 (o c d:Own) (a b:List Int) (h:U) (k:oC a) (y:b.length=a.length):AC Tryz.prog 220 [fP.V o,.J (ad a) c,.J (ad b) d] h λp r=>r=h/\p= .v (.bool (sQ a b)):=by have z:=bH (q:=a);have C:=bH (q:=b);have D:= @dJ a;have E:= @dJ b;have x:=id k;obtain⟨F,G⟩:=k;have L:=yK x;have P:=yK (q:=b) ⟨a9k,a9k⟩;refine aM hm PH ?_;refine bp λS T=> ?_;refine bh (yI _ _ a _ a9k) ?_;have V:=mn (q:=a) a9k c;have W:=mn (q:=b) a9k d;refine cX λe f g i=> ?_;refine bh (yI _ _ b _ a9k) ?_;refine hp λj l _ _ _ _=> ?_;refine bh (F3 _ _ _ _ _ _ _) ?_;rfl
abbrev a0B:=sQ
def sR (a b:List Int):Int:=if sQ a b=true then -1 else if sQ b a=true then 1 else 0
theorem a0C (d r x:Own) (a b:List Int) (h:U) (p:Nat) (C:h.read p=some [.v (.int .u8 0),.v (.int .i64 0),.J (ad []) d]) (k:oC a) (c:b.length=a.length):AC Tryz.prog 219 [.J (ad a) r,.J (ad b) x,.ptr p 0] h λy z=>z=h/\y= .v (.int .i64 (sR a b)):=by
 refine aM hm PF ?_;refine bh (F4 d _ _ a b _ k c) ?_;refine aG (λo=> ?_) λo=> ?_
 .rw[sR,if_pos o]
 .refine bh (F4 d _ _ b a _ ⟨by rw[c];exact k.1,by rw[c];exact k.2⟩ c.symm) ?_;refine aG (λc2=> ?_) λc2=> ?_
  .rw[sR,if_neg (by simp[o]),if_pos c2]
  simp_all [sR]
theorem F5 (h c k:Own) (a b:List Int) (d:U) (o:cR a b a.length=true):AC Tryz.prog 132 [fP.V h,et a b c k] d λp r=>r=d/\p= .aL [ig 0 (nz (a.getD 0 0)),.v (.int .i64 (a.getD 0 0)),.v (.int .i64 0)]:=by
 obtain⟨x,y,z,C⟩:=lk o;have D:=bH (q:=a);have E:fP.ok a.length=true:=by rw[r0];simp_all
 have F:=mn (q:=a) a9k c;refine aM hm N2 ?_;refine bp λG L=> ?_;refine cX λP S T V=> ?_;refine hp λW e f g a3 a4=> ?_;refine bh (oh _ a b _ _ _ a9k) ?_;refine bh (uN fP _ _ _ a9k a9l) ?_;refine bh (F2 _ _) ?_;refine x5 λi j l m n q s t=> ?_;rfl
def a0D (d p r h:Own) (a c b:List Int) (k:U) (o:cR a c a.length=true) (z:b.length=a.length):AC Tryz.prog 205 [fP.V d,et a c p r,.J (ad b) h] k λx y=>y=k/\x= .v (.bool (a0B b a)):=by obtain⟨C,D,E,F⟩:=lk o;have G:=bH (q:=a);have L:=bH (q:=b);have P:=mn (q:=b) a9k h;have S:=yK (q:=b) ⟨a9k,a9k⟩;refine aM hm Pd ?_;refine bp λT V=> ?_;refine cX λW e f g=> ?_;refine bh (F5 d _ _ a c _ o) ?_;refine hp λi j l m a3 a4=> ?_;refine bh (yI _ _ b _ a9k) ?_;refine x5 λn q s t u v w A=> ?_;refine bh (F3 _ _ _ _ _ _ _) ?_;rfl
def a0E (a:Nat) (k:a<=8) (b:U):AC Tryz.prog 143 [.v (.int .u64 1),.v (.int .u64 (a:Int))] b λc d=>d=b/\c= .aL [.v (.int .u64 0),.v (.int .u64 (a:Int))]:=by
 have h:AC Tryz.prog 222 [.v (.int .u64 1),.v (.int .u64 (a:Int))] b λc d=>d=b/\c= .aL [.v (.int .u64 0),.v (.int .u64 (a:Int))]:=by
  have o:bn .and (.int .u64 1) (.int .u64 4294967295)=some (.int .u64 1):=by rfl
  have p:bn .shr (.int .u64 1) (.int .u64 32)=some (.int .u64 0):=by rfl
  obtain⟨r,x⟩:bn .and (.int .u64 (a)) (.int .u64 4294967295)=some (.int .u64 (a))/\bn .shr (.int .u64 (a)) (.int .u64 32)=some (.int .u64 0):=by
   obtain rfl|rfl|rfl|rfl|rfl|rfl|rfl|rfl|rfl:a=0\/a=1\/a=2\/a=3\/a=4\/a=5\/a=6\/a=7\/a=8:=a9k
   all_goals exact⟨a9p,a9p⟩
  have y:bn .shr (.int .u64 0) (.int .u64 32)=some (.int .u64 0):=by rfl
  have z:bn .and (.int .u64 0) (.int .u64 4294967295)=some (.int .u64 0):=by rfl
  have C:(1)*(a:Int)=a:=Int.one_mul _;have D:(0)*(a:Int)=0:=Int.zero_mul _;exact aM hm PJ trivial
 refine aM hm No ?_;exact bh h trivial
variable{n b3:R}
def a0F: ∀ {a:Nat},(List.replicate a [n]).flatten=List.replicate a n
 |0=>rfl
 |a+1=>by simp
theorem F6 (b:Nat) (z:1<=b) (C:b<=8) (d:Int) (r:Own) (h:U):AC Tryz.prog 75 [.J [.v (.int .i64 d)] r,.v (.int .i64 (b:Int))] h λD p=>ar h p 1 (ad (List.replicate b d)) D:=by
 refine aM hm Lp ?_;refine iu ?_;refine bh (a0E b C h) ?_;refine iu ?_;refine wQ a9k a9k λc x=> ?_;rw[a0F];have T:lN 1 (.an c b b 1) (.J [.v (.int .i64 d)] r) (h.set c (.cells (List.replicate b (.v (.int .i64 0)))))=some (.v (.int .i64 1),h.set c (.cells (List.replicate 1 (.v (.int .i64 d))++List.replicate (b - 1) (.v (.int .i64 0))))):=by obtain⟨o,rfl⟩: ∃o,b=o+1:=⟨b - 1,a9k⟩;simp[lN,bN,U.ah,U.set_set,flat,R.cells,putAt]
 refine aa ?_;refine ch [7] (λa:Nat=> [(8,.v (.int .i64 (a)))]) (λa p=>1<=a/\a<=b/\p=h.set c (.cells (List.replicate a (.v (.int .i64 d))++List.replicate (b - a) (.v (.int .i64 0))))) (λa=>b - a) 1 ⟨⟨a5n _,z,rfl⟩,aS⟩ ?_;rintro a _ ⟨V,E,rfl⟩ W;refine aa ?_;refine aG (λF=> ?_) λF=> ?_
 .have e:cg 1 (.an c b b 1) (some (.v (.int .i64 (a)))) none none=some (.bx c a (b - a) (b - a) 1):=by simp_all [gk]
  have f:cg 1 (.an c b b 1) none (some (.v (.int .i64 (a)))) none=some (.an c a b 1):=hL E;generalize y:List.replicate a (R.v (.int .i64 d))++List.replicate (b - a) (.v (.int .i64 0))=k;have G:k.length=b:=by subst y;simp;omega
  have L:bN (h.set c (.cells k)) 1 (.an c a b 1)=some (a,List.replicate a (.v (.int .i64 d))):=by have P:(h.set c (.cells k)).read c=some k:=U.af (U.ah _ _ _);simp only[bN,P,G,a5y];grind
  have S:=hn (O:=a) (i:=b - a) (j1:=b - a) L (U.ah h c (.cells k)) a9k;have o:putAt k a ((List.replicate a (R.v (.int .i64 d))).take ((b - a)*1))=List.replicate (a+min a (b - a)) (.v (.int .i64 d))++List.replicate (b -(a+min a (b - a))) (.v (.int .i64 0)):=by subst y;rw[a5y,List.take_replicate,putAt,a6U a9l,a6z,Nat.min_comm (b - a) a,<-List.replicate_append_replicate,a6g,a6z,a5v a9l,a5a,List.drop_replicate];congr 2;omega
  rw[o,U.set_set]at S;refine aa ?_;exact⟨a+min a (b - a),⟨a9k,a9k,rfl⟩,by congr 2,a9k⟩
 .obtain rfl:a=b:=a9k;refine⟨_,U.a1,U.ae U.a1 x,.inr ⟨c,a,a,_,rfl,x,U.ah _ _ _,?_,?_,?_,a5n _,by unfold maxLen;omega⟩⟩
  .simp
  .simp[ad]
  .simp[ad]
def iI:Int:= -9223372036854775808
def jg:Int:=9223372036854775807
def a0G (a:Nat) (p:1<=a) (r:a<=8) (h:U):AC Tryz.prog 40 [.v (.int .i64 (a:Int))] h λC D=> ∃b c,C= .agg [b,c]/\pn h D (List.replicate a iI) (List.replicate a jg) b c:=by have L: ¬(a:Int)<1:=a9k;have P: ¬8<(a:Int):=a9k;refine aM hm Kx ?_;refine bp λx k=> ?_;have S:=k;refine X7 λT E V y=> ?_;refine hN (F6 a p r iI _ _) λb W o=> ?_;have z:=o.1 _ _ ((U.ao _ _ y).trans (U.ah h x (.cells [.J [] .nil,.J [] .nil])));refine jL λe F=> ?_;refine hN (F6 a p r jg _ _) λc f d=> ?_;have d:=d.base (U.ae U.a1 F);have c2:=U.aI (d.1 _ _ z);have g:=fH o;have i:=fH d;refine aa ?_;have G:=(jO (Y:= .cells [b,c]) o ((U.ao _ _ y).trans (U.ah h x (.cells [.J [] .nil,.J [] .nil])))).base (U.ae (U.ae (U.ae U.a1 k) E) k);exact⟨_,U.a1,b,c,rfl,_,G,jO d z⟩
def pF (a:Nat) (b:Bool):aq:=⟨38,5,
(.seq
(.plain (bD 10 (.eZ (lS 0))::[]))
(.block 0
(.loop
(.seq
(.seq
(.plain (aB 11 10::aB 12 3::cF 13 .lss 11 12::[]))
(.cond (aF 13)
.skip
(.exit 0)))
(.seq
(.block 1
(.draw (aB 16 0::aB 17 1::aB 18 10::cF 19 .add 17 18::aB 20 0::aB 21 2::aB 22 10::cF 23 .add 21 22::aB 24 0::aB 25 2::aB 26 10::cF 27 .add 25 26::bD 28 (.dG a (aF 24) (aF 27))::bD 29 (.load b a (aF 28))::aB 30 0::aB 31 1::aB 32 10::cF 33 .add 31 32::bD 34 (.dG a (aF 30) (aF 33))::bD 35 (.load b a (aF 34))::bD 36 (.dG a (aF 16) (aF 19))::on (.store a (aF 36) (aF 29))::bD 37 (.dG a (aF 20) (aF 23))::on (.store a (aF 37) (aF 35))::[])
(bd 0::bd 1::bd 2::bd 3::bd 4::bd 5::bd 6::bd 7::bd 8::bd 9::bd 10::bd 11::bd 12::bd 13::bd 14::bd 15::bd 16::bd 17::bd 18::bd 19::bd 20::bd 21::bd 22::bd 23:: [])))
(.plain (aB 14 10::fs 15 .add 14 1::aB 10 15::[]))))))),[]⟩
def a0H:dr Tryz.prog 0 327=some (pF 41 true):=a9p
def a0I:dr Tryz.prog 0 357=some (pF 1 false):=a9p
def r1 (b:Nat) (c:Bool) (a:FuncId):aq:=⟨58,5,
(.seq
(.plain (aB 12 2::aB 13 1::cF 14 .sub 12 13::aB 10 14::[]))
(.seq
(.plain (aB 15 3::aB 16 2::cF 17 .sub 15 16::aB 11 17::[]))
(.seq
(.block 0
(.loop
(.seq
(.seq
(.plain (aB 18 10::aB 19 11::cF 20 .neq 18 19::[]))
(.cond (aF 20)
.skip
(.exit 0)))
(.block 1
(.seq
(.plain (aB 21 10::aB 22 11::cF 23 .gtr 21 22::[]))
(.cond (aF 23)
(.seq
(.plain (aB 24 0::aB 25 2::aB 26 10::cF 27 .sub 25 26::aB 28 2::aB 29 11::aB 30 4::bD 31 (.fU a [(aF 24),(aF 27),(aF 28),(aF 29),(aF 30)])::[]))
(.plain (aB 32 10::aB 33 11::cF 34 .sub 32 33::aB 10 34::[])))
(.seq
(.plain (aB 35 0::aB 36 2::aB 37 10::cF 38 .sub 36 37::aB 39 2::aB 40 11::cF 41 .add 39 40::aB 42 10::cF 43 .sub 41 42::aB 44 10::aB 45 4::bD 46 (.fU a [(aF 35),(aF 38),(aF 43),(aF 44),(aF 45)])::[]))
(.plain (aB 47 11::aB 48 10::cF 49 .sub 47 48::aB 11 49::[])))))))))
(.plain (aB 50 0::aB 51 2::aB 52 10::cF 53 .sub 51 52::aB 54 2::aB 55 10::aB 56 4::bD 57 (.fU a [(aF 50),(aF 53),(aF 54),(aF 55),(aF 56)])::[]))))),[]⟩
def a0J:dr Tryz.prog 0 279=some (r1 41 true 327):=a9p
def a0K:dr Tryz.prog 0 351=some (r1 1 false 357):=a9p
def sS (a:Nat) (b:Bool):aq:=⟨53,4,
(.seq
(.plain (aB 10 1::fs 11 .add 10 1::aB 8 11::[]))
(.block 0
(.loop
(.seq
(.seq
(.plain (aB 12 8::aB 13 2::cF 14 .lss 12 13::[]))
(.cond (aF 14)
.skip
(.exit 0)))
(.seq
(.block 1
(.seq
(.plain (aB 17 8::aB 9 17::[]))
(.block 2
(.loop
(.seq
(.seq
(.draw (aB 18 9::aB 19 1::cF 20 .gtr 18 19::aB 21 20::fa 21 true 22 (.eZ (aF 3))::fa 21 true 23 (.eZ (aF 0))::fa 21 true 24 (.eZ (aF 9))::fa 21 true 25 (.dG a (aF 23) (aF 24))::fa 21 true 26 (.load b a (aF 25))::fa 21 true 27 (.eZ (aF 0))::fa 21 true 28 (.eZ (aF 9))::fa 21 true 29 (.bin .sub (aF 28) (lS 1))::fa 21 true 30 (.dG a (aF 27) (aF 29))::fa 21 true 31 (.load b a (aF 30))::fa 21 true 32 (.iO (aF 22) [(aF 26),(aF 31)])::fa 21 true 33 (.bin .lss (aF 32) (lS 0))::bD 34 (.pick (aF 21) (aF 33) qf)::[])
(bd 0::bd 1::bd 2::bd 3::bd 4::bd 5::bd 6::bd 7::bd 8::bd 9::bd 10::bd 11::bd 12::bd 13::bd 14::bd 15::bd 16:: []))
(.cond (aF 34)
.skip
(.exit 2)))
(.seq
(.block 3
(.draw (aB 37 0::aB 38 9::aB 39 0::aB 40 9::fs 41 .sub 40 1::aB 42 0::aB 43 9::fs 44 .sub 43 1::bD 45 (.dG a (aF 42) (aF 44))::bD 46 (.load b a (aF 45))::aB 47 0::aB 48 9::bD 49 (.dG a (aF 47) (aF 48))::bD 50 (.load b a (aF 49))::bD 51 (.dG a (aF 37) (aF 38))::on (.store a (aF 51) (aF 46))::bD 52 (.dG a (aF 39) (aF 41))::on (.store a (aF 52) (aF 50))::[])
(bd 0::bd 1::bd 2::bd 3::bd 4::bd 5::bd 6::bd 7::bd 8::bd 9::bd 10::bd 11::bd 12::bd 13::bd 14::bd 15::bd 16::bd 17:: [])))
(.plain (aB 35 9::fs 36 .sub 35 1::aB 9 36::[]))))))))
(.plain (aB 15 8::fs 16 .add 15 1::aB 8 16::[]))))))),[]⟩
def a0L:dr Tryz.prog 0 203=some (sS 41 true):=a9p
def a0M:dr Tryz.prog 0 259=some (sS 1 false):=a9p
def sT (a:Nat) (b:Bool) (c d:FuncId):aq:=⟨220,5,
(.seq
(.seq
(.plain (aB 25 2::aB 26 1::cF 27 .sub 25 26::fs 28 .eql 27 1::[]))
(.cond (aF 28)
(.seq
(.plain (aB 29 2::aB 10 29::[]))
(.seq
(.plain (aB 30 3::aB 11 30::[]))
(.seq
(.block 0
(.loop
(.seq
(.seq
(.plain (aB 31 10::aB 32 11::cF 33 .lss 31 32::[]))
(.cond (aF 33)
.skip
(.exit 0)))
(.block 1
(.seq
(.plain (aB 34 10::aB 35 11::cF 36 .add 34 35::bD 37 (.iN .u64 (aF 36))::bD 38 (.bin .shr (aF 37) (.const (.int .u64 1)))::bD 39 (.iN .i64 (aF 38))::aB 12 39::[]))
(.seq
(.draw (aB 40 4::aB 41 0::aB 42 12::bD 43 (.dG a (aF 41) (aF 42))::bD 44 (.load b a (aF 43))::aB 45 0::aB 46 1::bD 47 (.dG a (aF 45) (aF 46))::bD 48 (.load b a (aF 47))::bD 49 (.iO (aF 40) [(aF 44),(aF 48)])::fs 50 .lss 49 0::[])
(bd 0::bd 1::bd 2::bd 3::bd 4::bd 5::bd 6::bd 7::bd 8::bd 9::bd 10:: []))
(.cond (aF 50)
(.plain (aB 51 12::fs 52 .add 51 1::aB 10 52::[]))
(.plain (aB 53 12::aB 11 53::[])))))))))
(.seq
(.seq
(.plain (aB 54 1::aB 13 54::[]))
(.block 2
(.loop
(.seq
(.seq
(.plain (aB 55 13::aB 56 10::fs 57 .sub 56 1::cF 58 .lss 55 57::[]))
(.cond (aF 58)
.skip
(.exit 2)))
(.seq
(.block 3
(.draw (aB 61 0::aB 62 13::aB 63 0::aB 64 13::fs 65 .add 64 1::aB 66 0::aB 67 13::fs 68 .add 67 1::bD 69 (.dG a (aF 66) (aF 68))::bD 70 (.load b a (aF 69))::aB 71 0::aB 72 13::bD 73 (.dG a (aF 71) (aF 72))::bD 74 (.load b a (aF 73))::bD 75 (.dG a (aF 61) (aF 62))::on (.store a (aF 75) (aF 70))::bD 76 (.dG a (aF 63) (aF 65))::on (.store a (aF 76) (aF 74))::[])
(bd 0::bd 1::bd 2::bd 3::bd 4::bd 5::bd 6::bd 7::bd 8::bd 9::bd 10::bd 11::bd 12::bd 13::bd 14::bd 15::bd 16::bd 17:: [])))
(.plain (aB 59 13::fs 60 .add 59 1::aB 13 60::[])))))))
.ret))))
.skip))
(.seq
(.seq
(.plain (aB 77 3::aB 78 2::cF 79 .sub 77 78::fs 80 .eql 79 1::[]))
(.cond (aF 80)
(.seq
(.plain (aB 81 1::aB 14 81::[]))
(.seq
(.plain (aB 82 2::aB 15 82::[]))
(.seq
(.block 4
(.loop
(.seq
(.seq
(.plain (aB 83 14::aB 84 15::cF 85 .lss 83 84::[]))
(.cond (aF 85)
.skip
(.exit 4)))
(.block 5
(.seq
(.plain (aB 86 14::aB 87 15::cF 88 .add 86 87::bD 89 (.iN .u64 (aF 88))::bD 90 (.bin .shr (aF 89) (.const (.int .u64 1)))::bD 91 (.iN .i64 (aF 90))::aB 16 91::[]))
(.seq
(.draw (aB 92 4::aB 93 0::aB 94 2::bD 95 (.dG a (aF 93) (aF 94))::bD 96 (.load b a (aF 95))::aB 97 0::aB 98 16::bD 99 (.dG a (aF 97) (aF 98))::bD 100 (.load b a (aF 99))::bD 101 (.iO (aF 92) [(aF 96),(aF 100)])::fs 102 .lss 101 0::bD 103 (.un .not (aF 102))::[])
(bd 0::bd 1::bd 2::bd 3::bd 4::bd 5::bd 6::bd 7::bd 8::bd 9::bd 10::bd 11:: []))
(.cond (aF 103)
(.plain (aB 104 16::fs 105 .add 104 1::aB 14 105::[]))
(.plain (aB 106 16::aB 15 106::[])))))))))
(.seq
(.seq
(.plain (aB 107 2::aB 17 107::[]))
(.block 6
(.loop
(.seq
(.seq
(.plain (aB 108 17::aB 109 14::cF 110 .gtr 108 109::[]))
(.cond (aF 110)
.skip
(.exit 6)))
(.seq
(.block 7
(.draw (aB 113 0::aB 114 17::aB 115 0::aB 116 17::fs 117 .sub 116 1::aB 118 0::aB 119 17::fs 120 .sub 119 1::bD 121 (.dG a (aF 118) (aF 120))::bD 122 (.load b a (aF 121))::aB 123 0::aB 124 17::bD 125 (.dG a (aF 123) (aF 124))::bD 126 (.load b a (aF 125))::bD 127 (.dG a (aF 113) (aF 114))::on (.store a (aF 127) (aF 122))::bD 128 (.dG a (aF 115) (aF 117))::on (.store a (aF 128) (aF 126))::[])
(bd 0::bd 1::bd 2::bd 3::bd 4::bd 5::bd 6::bd 7::bd 8::bd 9::bd 10::bd 11::bd 12::bd 13::bd 14::bd 15::bd 16::bd 17:: [])))
(.plain (aB 111 17::fs 112 .sub 111 1::aB 17 112::[])))))))
.ret))))
.skip))
(.seq
(.plain (aB 129 1::aB 130 3::cF 131 .add 129 130::bD 132 (.iN .u64 (aF 131))::bD 133 (.bin .shr (aF 132) (.const (.int .u64 1)))::bD 134 (.iN .i64 (aF 133))::aB 18 134::[]))
(.seq
(.plain (aB 135 18::aB 136 2::cF 137 .add 135 136::aB 19 137::[]))
(.seq
(.plain (bD 20 (.eZ (lS 0))::bD 21 (.eZ (lS 0))::[]))
(.seq
(.seq
(.plain (aB 138 2::aB 139 18::cF 140 .gtr 138 139::[]))
(.cond (aF 140)
(.seq
(.plain (aB 141 19::aB 142 3::cF 143 .sub 141 142::aB 20 143::[]))
(.plain (aB 144 18::aB 21 144::[])))
(.seq
(.plain (aB 145 1::aB 20 145::[]))
(.plain (aB 146 2::aB 21 146::[])))))
(.seq
(.plain (aB 147 19::fs 148 .sub 147 1::aB 22 148::[]))
(.seq
(.block 8
(.loop
(.seq
(.seq
(.plain (aB 149 20::aB 150 21::cF 151 .lss 149 150::[]))
(.cond (aF 151)
.skip
(.exit 8)))
(.block 9
(.seq
(.plain (aB 152 20::aB 153 21::cF 154 .add 152 153::bD 155 (.iN .u64 (aF 154))::bD 156 (.bin .shr (aF 155) (.const (.int .u64 1)))::bD 157 (.iN .i64 (aF 156))::aB 23 157::[]))
(.seq
(.draw (aB 158 4::aB 159 0::aB 160 22::aB 161 23::cF 162 .sub 160 161::bD 163 (.dG a (aF 159) (aF 162))::bD 164 (.load b a (aF 163))::aB 165 0::aB 166 23::bD 167 (.dG a (aF 165) (aF 166))::bD 168 (.load b a (aF 167))::bD 169 (.iO (aF 158) [(aF 164),(aF 168)])::fs 170 .lss 169 0::bD 171 (.un .not (aF 170))::[])
(bd 0::bd 1::bd 2::bd 3::bd 4::bd 5::bd 6::bd 7::bd 8::bd 9::bd 10::bd 11::bd 12::bd 13:: []))
(.cond (aF 171)
(.plain (aB 172 23::fs 173 .add 172 1::aB 20 173::[]))
(.plain (aB 174 23::aB 21 174::[])))))))))
(.seq
(.plain (aB 175 19::aB 176 20::cF 177 .sub 175 176::aB 24 177::[]))
(.seq
(.seq
(.plain (aB 178 20::aB 179 2::cF 180 .lss 178 179::aB 181 180::fa 181 true 182 (.eZ (aF 2))::fa 181 true 183 (.eZ (aF 24))::fa 181 true 184 (.bin .lss (aF 182) (aF 183))::bD 185 (.pick (aF 181) (aF 184) qf)::[]))
(.cond (aF 185)
(.plain (aB 186 0::aB 187 20::aB 188 2::aB 189 24::aB 190 4::bD 191 (.fU d [(aF 186),(aF 187),(aF 188),(aF 189),(aF 190)])::[]))
.skip))
(.seq
(.seq
(.plain (aB 192 1::aB 193 20::cF 194 .lss 192 193::aB 195 194::fa 195 true 196 (.eZ (aF 20))::fa 195 true 197 (.eZ (aF 18))::fa 195 true 198 (.bin .lss (aF 196) (aF 197))::bD 199 (.pick (aF 195) (aF 198) qf)::[]))
(.cond (aF 199)
(.plain (aB 200 0::aB 201 1::aB 202 20::aB 203 18::aB 204 4::bD 205 (.fU c [(aF 200),(aF 201),(aF 202),(aF 203),(aF 204)])::[]))
.skip))
(.seq
(.plain (aB 206 18::aB 207 24::cF 208 .lss 206 207::aB 209 208::fa 209 true 210 (.eZ (aF 24))::fa 209 true 211 (.eZ (aF 3))::fa 209 true 212 (.bin .lss (aF 210) (aF 211))::bD 213 (.pick (aF 209) (aF 212) qf)::[]))
(.cond (aF 213)
(.plain (aB 214 0::aB 215 18::aB 216 24::aB 217 3::aB 218 4::bD 219 (.fU c [(aF 214),(aF 215),(aF 216),(aF 217),(aF 218)])::[]))
.skip))))))))))))),[]⟩
def a0N:dr Tryz.prog 0 204=some (sT 41 true 204 279):=a9p
def a0O:dr Tryz.prog 0 333=some (sT 1 false 333 351):=a9p
def uO (c:Nat) (d:Bool) (a b:FuncId):aq:=⟨63,3,
(.seq
(.plain (bD 6 (.eZ (lS 20))::[]))
(.seq
(.plain (aB 10 6::bD 7 (.eZ (lS 0))::aB 8 10::[]))
(.seq
(.block 0
(.loop
(.seq
(.seq
(.plain (aB 11 8::aB 12 1::cF 13 .leq 11 12::[]))
(.cond (aF 13)
.skip
(.exit 0)))
(.block 1
(.seq
(.plain (aB 14 0::aB 15 7::aB 16 8::aB 17 2::bD 18 (.fU a [(aF 14),(aF 15),(aF 16),(aF 17)])::[]))
(.seq
(.plain (aB 19 8::aB 7 19::[]))
(.plain (aB 20 8::aB 21 6::cF 22 .add 20 21::aB 8 22::[]))))))))
(.seq
(.plain (aB 23 0::aB 24 7::aB 25 1::aB 26 2::bD 27 (.fU a [(aF 23),(aF 24),(aF 25),(aF 26)])::[]))
(.block 2
(.loop
(.seq
(.seq
(.plain (aB 28 6::aB 29 1::cF 30 .lss 28 29::[]))
(.cond (aF 30)
.skip
(.exit 2)))
(.block 3
(.seq
(.plain (aB 31 6::bD 32 (.bin .mul (lS 2) (aF 31))::bD 7 (.eZ (lS 0))::aB 8 32::[]))
(.seq
(.block 4
(.loop
(.seq
(.seq
(.plain (aB 33 8::aB 34 1::cF 35 .leq 33 34::[]))
(.cond (aF 35)
.skip
(.exit 4)))
(.block 5
(.seq
(.plain (aB 36 0::aB 37 7::aB 38 7::aB 39 6::cF 40 .add 38 39::aB 41 8::aB 42 2::bD 43 (.fU b [(aF 36),(aF 37),(aF 40),(aF 41),(aF 42)])::[]))
(.seq
(.plain (aB 44 8::aB 7 44::[]))
(.plain (aB 45 8::aB 46 6::bD 47 (.bin .mul (lS 2) (aF 46))::cF 48 .add 45 47::aB 8 48::[]))))))))
(.seq
(.seq
(.plain (aB 49 7::aB 50 6::cF 51 .add 49 50::aB 9 51::[]))
(.seq
(.plain (aB 52 9::aB 53 1::cF 54 .lss 52 53::[]))
(.cond (aF 54)
(.plain (aB 55 0::aB 56 7::aB 57 9::aB 58 1::aB 59 2::bD 60 (.fU b [(aF 55),(aF 56),(aF 57),(aF 58),(aF 59)])::[]))
.skip)))
(.plain (aB 61 6::fs 62 .mul 61 2::aB 6 62::[]))))))))))))),[]⟩
def a0P:dr Tryz.prog 0 133=some (uO 41 true 203 204):=a9p
def a0Q:dr Tryz.prog 0 292=some (uO 1 false 259 333):=a9p
structure oD (k:Nat) (a:R) (l b n:Nat):Prop where
 jh: ∀i,i<n->cP k a (.v (.int .i64 ((i:Nat):Int)))=some (.ptr l (b+i*k))
 len:fb a=some (.v (.int .i64 (n:Int)))
 cl:a.cells= [a]
def oE (b:Nat) (c:Bool) (a:R):Prop:=a.cells.length=b/\aX c b a.cells=a
def el (a:List R) (b:Nat):R:=a.getD b (.aL [])
def uP (a:List R) (b c:Nat):List R:=(a.set b (el a c)).set c (el a b)
def W (a:U) (b:Nat) (c d h:List R):U:=a.set b (.cells (c++flat h++d))
variable{g A e1:List R}{e i v O b9 j1:Nat}
def a0R (a:e<g.length):g[e]? =some (el g e):=by simp[el,a]
theorem jZ (a:e<g.length):el g e∈g:=a4O (a0R a)
theorem uQ (a:e<g.length) (b:i<g.length):(uP g e i).Perm g:=by have c:=Array.swap_perm (xs:=g.toArray) (i:=e) (j:=i) (by trivial) (by trivial);grind[Array.perm_iff_toList_perm,uP,Array.swap,el,List.getD]
theorem yL (b: ∀a∈g,a.cells.length=i) (d:e<g.length):(A++flat g++e1).drop (A.length+e*i)=(el g e).cells++(flat (g.drop (e+1))++e1):=by
 have h:g=g.take e++el g e::g.drop (e+1):=by grind[List.take_append_drop,List.drop_eq_getElem_cons,el,List.getD]
 have k:(flat (g.take e)).length=e*i:=by rw[dc (λa c=>b a (a4V c)),a4K,a6p a9k]
 grind[flat,el,List.append_assoc,List.drop_drop,List.drop_left]
theorem F7 (a: ∀b∈g,b.cells.length=i) (c:e<g.length) (d:n.cells.length=i):putAt (A++flat g++e1) (A.length+e*i) n.cells=A++flat (g.set e n)++e1:=by
 have y:(flat (g.take e)).length=e*i:=by rw[dc (λb h=>a b (a4V h)),a4K,a6p a9k]
 have k:g=g.take e++el g e::g.drop (e+1):=by grind[List.take_append_drop,List.drop_eq_getElem_cons,el,List.getD]
 have z:flat g=flat (g.take e)++((el g e).cells++flat (g.drop (e+1))):=by
  conv=>lhs;rw[k]
  simp[flat]
 have o:flat (g.set e n)=flat (g.take e)++(n.cells++flat (g.drop (e+1))):=by rw[a5Y,if_pos c];simp[flat]
 have p:=a _ (jZ c);have r:(A++flat g++e1).take (A.length+e*i)=A++flat (g.take e):=by grind
 have x:(A++flat g++e1).drop (A.length+e*i+n.cells.length)=flat (g.drop (e+1))++e1:=by rw[<-a5w,yL a c,d,<-p,a7s]
 rw[putAt,r,x,o];simp
structure a0S (k:Nat) (p:Bool) (d:U) (l c:Nat) (pre post es:List R) (i h:Nat) (a b:R) (cs o r:List R):Prop where
 st:eg (W d l pre post es) l=some cs
 so:dn p k (W d l pre post es) (.ptr l (c+i*k))=some a
 sq:dn p k (W d l pre post es) (.ptr l (c+h*k))=some b
 pG:a.cells.length=k
 ie:b.cells.length=k
 oi:c+i*k+k<=cs.length
 oj:c+h*k+k<=o.length
 nx:putAt cs (c+i*k) b.cells=o
 ny:putAt o (c+h*k) a.cells=r
 fin:(W d l pre post es).set l (.cells r)=W d l pre post (uP es i h)
variable{I:Bool}{f t e4:U}
theorem nA (D:0<e) (o:A.length=O) (c: ∀a∈g,oE e I a) (d:i<g.length):dn I e (W f v A e1 g) (.ptr v (O+i*e))=some (el g i):=by
 subst o;have p:=λa r=>(c a r).1;have x:=c _ (jZ d);have y:(W f v A e1 g).read v=some (A++flat g++e1):=U.af (U.ah _ _ _);have h:=yL p d (A:=A) (e1:=e1);have z:A.length+i*e+e<=(A++flat g++e1).length:=by have:=congrArg List.length h;grind[List.length_append,el,flat,List.length_drop]
 simp only[dn,y,if_pos z,h];obtain⟨k,b⟩:=x;rw[<-b]
 conv=>rhs;rw[b]
 generalize el g i=a at*;cases I
 .simp only[aX,a5L,if_false]at b|-;cases C:a.cells with
  |nil=>rw[C]at k;simp at k;omega
  |cons E F=>simp_all
 simp_all [a4I,aX]
theorem uR (E:0<e) (o:A.length=b9) (p: ∀a∈g,oE e I a) (b:i<g.length) (c:v<g.length):
  ∃F G L,a0S e I f O b9 A e1 g i v (el g i) (el g v) F G L:=by
 have d:=λa r=>(p a r).1;have x:=d _ (jZ b);have y:=d _ (jZ c);have z: ∀a∈g.set i (el g v),a.cells.length=e:=λa r=>by
  grind
 have P:=F7 d b (A:=A) (e1:=e1) y;have S:=F7 z (by simpa using c) (A:=A) (e1:=e1) x;have C:=λ{i} b=>nA E (f:=f) (v:=O) (e1:=e1) o p (i:=i) b;have D: ∀(h) (k),(∀a∈h,a.cells.length=e)->k<h.length->A.length+k*e+e<=(A++flat h++e1).length:=λh k T V=>by
  have:=congrArg List.length (yL T V (A:=A) (e1:=e1));grind[List.length_append,el,flat,List.length_drop,jZ]
 subst o;refine⟨_,_,_,?_,C b,C c,x,y,D g i d b,D _ v z (by simpa using c),P,S,?_⟩
 .simp[eg,W,U.ah]
 .simp only[W,U.set_set,uP]
variable{b5:FuncId}
section
def yM (x:dr Tryz.prog 0 b5=some (pF e I)) (y:0<e) (z:g.length=v) (h:oD e n i v e1.length) (T:e1.length<=1000000000000) (V:O+j1<=e1.length) (j:b9+j1<=e1.length) (C:R) (k:List R) (D:k.Perm e1) (E: ∀o∈e1,oE e I o):
  AC Tryz.prog b5 [n,.v (.int .i64 (O:Int)),.v (.int .i64 (b9:Int)),.v (.int .i64 (j1:Int)),C] (W f i g A k) λl p=> ∃r,r.Perm e1/\p=W f i g A r:=by
 have m:=h.cl;refine aM hm x ?_;refine ch [0,1,2,3] (λb:Nat×List R=> [(10,.v (.int .i64 (b.1)))]) (λb p=>p=W f i g A b.2/\b.2.Perm e1/\b.1<=j1) (λb=>j1 - b.1) (0,k) ⟨⟨rfl,D,a9k⟩,aS⟩ ?_;rintro⟨a,d⟩ _ ⟨rfl,c,F⟩ q
 dsimp only at c F|-
 refine aa ?_;refine aG (λG=> ?_) λG=> ?_
 .have s:=c.length_eq;obtain⟨t,u,w,L⟩:=uR y (f:=f) (O:=i) (e1:=A) z (λo P=>E o (c.mem_iff.1 P)) (i:=O+a) (v:=b9+a) a9k a9k;have S:=uQ (g:=d) (e:=O+a) (i:=b9+a) a9k a9k;obtain⟨B,H,K,M,N,Q,X,Y,Z,j9⟩:=L;have k0:=h.jh (O+a) a9k;have k1:=h.jh (b9+a) a9k;generalize W f i g A d=k2 at*;generalize el d (O+a)=b at*;generalize el d (b9+a)=k3 at*;have k4:(O)+(a)=((O+a:Nat):Int):=rfl;have k5:(b9)+(a)=((b9+a:Nat):Int):=rfl;refine aa ?_;exact⟨(a+1,_),⟨rfl,S.trans c,by show a+1<=j1;omega⟩,rfl,by show j1 -(a+1)<j1 - a;omega⟩
 .exact⟨_,U.a1,_,c,rfl⟩
theorem a0T {L:FuncId} (T:dr Tryz.prog 0 b5=some (r1 e I L)) (r:dr Tryz.prog 0 L=some (pF e I)) (x:0<e) (y:g.length=v) (o:oD e n i v e1.length) (z:e1.length<=1000000000000) (u:j1<O) (w:O<b9) (B:b9<=e1.length) (p:R) (C:List R) (V:C.Perm e1) (D: ∀j∈e1,oE e I j):
  AC Tryz.prog b5 [n,.v (.int .i64 (j1:Int)),.v (.int .i64 (O:Int)),.v (.int .i64 (b9:Int)),p] (W f i g A C) λE F=> ∃P,P.Perm e1/\F=W f i g A P:=by
 have H:=o.cl;have S:(O) -(j1)=((O - j1:Nat):Int):=a9k;have d:(b9) -(O)=((b9 - O:Nat):Int):=a9k;refine aM hm T ?_;refine ch [0,1,2,3,4] (λc:(Nat×Nat)×List R=> [(10,.v (.int .i64 (c.1.1))),(11,.v (.int .i64 (c.1.2)))]) (λc F=>F=W f i g A c.2/\c.2.Perm e1/\0<c.1.1/\0<c.1.2/\c.1.1<=O - j1/\c.1.2<=b9 - O) (λc=>c.1.1+c.1.2) ((O - j1,b9 - O),C) ⟨⟨rfl,V,by show 0<O - j1;omega,by show 0<b9 - O;omega,a5n _,a5n _⟩,aS⟩ ?_;clear S d;rintro⟨⟨a,b⟩,d⟩ _ ⟨rfl,G,l,m,q,s⟩ K
 dsimp only at*
 have S:(O) -(a)=((O - a:Nat):Int):=a9k;refine aa ?_;refine aG (λt=> ?_) λt=> ?_
 .refine aG (λc2=> ?_) λc2=> ?_
  .refine ai (yM r x y o z a9k a9k p d G D) ?_;rintro E _ ⟨h,k,rfl⟩;refine aa ?_;exact⟨((a - b,b),h),⟨rfl,k,by show 0<a - b;omega,m,by show a - b<=O - j1;omega,s⟩,⟨by grind,rfl⟩,by show a - b+b<a+b;omega⟩
  .have h:(O)+(b) -(a)=((O+b - a:Nat):Int):=a9k;refine aa ?_;refine ai (yM r x y o z a9k a9k p d G D) ?_;rintro E _ ⟨h,k,rfl⟩;refine aa ?_;exact⟨((a,b - a),h),⟨rfl,k,l,by show 0<b - a;omega,q,by show b - a<=b9 - O;omega⟩,⟨rfl,by grind⟩,by show a+(b - a)<a+b;omega⟩
 .obtain rfl:a=b:=a9k;refine aa ?_;refine ai (yM r x y o z a9k a9k p d G D) ?_;rintro E _ ⟨h,k,rfl⟩;refine aa ?_;exact⟨_,U.a1,_,k,rfl⟩
def oF (c:U) (d:Nat) (h k a:List R) (o:FuncId) (x y:List R) (z:R->R->Int):Prop:=
 gf Tryz.prog o=true/\ ∀b,b.Perm a-> ∀p∈a,∀r∈a,AC Tryz.prog o (x++ [p,r]++y) (W c d h k b) λC D=>D=W c d h k b/\C= .v (.int .i64 (z p r))
def F8 (P:dr Tryz.prog 0 b5=some (sS e I)) (o:0<e) (p:g.length=v) (r:oD e n i v e1.length) (t:e1.length<=1000000000000) (u:O<=b9) (w:b9<=e1.length) {C:FuncId}{D E:List R}{S:R->R->Int} (F:oF f i g A e1 C D E S) (x:List R) (T:x.Perm e1) (V: ∀y∈e1,oE e I y):
  AC Tryz.prog b5 [n,.v (.int .i64 (O:Int)),.v (.int .i64 (b9:Int)),.bG C D E] (W f i g A x) λB h=> ∃G,G.Perm e1/\h=W f i g A G:=by
 have H:=r.cl;refine aM hm P ?_;refine ch [0,1,2,3] (λa:Nat×List R=> [(8,.v (.int .i64 (a.1)))]) (λa h=>h=W f i g A a.2/\a.2.Perm e1/\O<a.1/\a.1<=b9+1) (λa=>b9+1 - a.1) (O+1,x) ⟨⟨rfl,T,by show O<O+1;omega,by show O+1<=b9+1;omega⟩,aa X1⟩ ?_;rintro⟨c,j⟩ _ ⟨rfl,L,K,M⟩ N
 dsimp only at*
 refine aa ?_;refine aG (λl=> ?_) λl=> ?_
 .refine ch [0,1,2,3,8] (λa:Nat×List R=> [(9,.v (.int .i64 (a.1)))]) (λa h=>h=W f i g A a.2/\a.2.Perm e1/\O<=a.1/\a.1<=c) (λa=>a.1) (c,j) ⟨⟨rfl,L,by show O<=c;omega,a5n _⟩,aS⟩ ?_;rintro⟨b,k⟩ _ ⟨rfl,d,Q,X⟩ Y
  dsimp only at*
  have Z:=d.length_eq;refine aa ?_;refine aG (λm=> ?_) λm=> ?_
  .have j9:=r.jh b a9k;have k0:=r.jh (b - 1) a9k;have k1:(b) - 1=((b - 1:Nat):Int):=a9k;have z:=λy q=>V y (d.mem_iff.1 q);have k2:=nA o (f:=f) (v:=i) (e1:=A) p z (i:=b) a9k;have k3:=nA o (f:=f) (v:=i) (e1:=A) p z (i:=b - 1) a9k;refine aa ?_;refine fE F.1 (F.2 k d _ (d.mem_iff.1 (jZ a9k)) _ (d.mem_iff.1 (jZ a9k))) ?_;rintro _ _ ⟨rfl,rfl⟩;refine aa ?_;refine aG (λc2=> ?_) λc2=> ?_
   .obtain⟨k4,k5,k6,k7,k8,k9,l0,l1,l2,l3,l4,l5,l6⟩:=uR o (f:=f) (O:=i) (e1:=A) p z (i:=b) (v:=b - 1) a9k a9k;have s:=uQ (g:=k) (e:=b) (i:=b - 1) a9k a9k;generalize W f i g A k=l7 at*;generalize el k b=a at*;generalize el k (b - 1)=l8 at*;refine aa ?_;exact⟨(b - 1,_),⟨rfl,s.trans d,by show O<=b - 1;omega,by show b - 1<=c;omega⟩,rfl,by show b - 1<b;omega⟩
   .exact⟨(c+1,_),⟨rfl,d,by show O<c+1;omega,by show c+1<=b9+1;omega⟩,rfl,a9k⟩
  .exact⟨(c+1,_),⟨rfl,d,by show O<c+1;omega,by show c+1<=b9+1;omega⟩,rfl,a9k⟩
 .exact⟨_,U.a1,_,L,rfl⟩
def uS (a b:Nat):bn .shr (.int .u64 ((a:Int)+(b:Int))) (.int .u64 1)=some (.int .u64 (((a+b)/2:Nat):Int)):=by have:=rX (a+b) .u64 1 a9k a9k;rw[a5G]at this;exact this
theorem uT {O B k5:FuncId} (Q:dr Tryz.prog 0 O=some (sT e I O B)) (X:dr Tryz.prog 0 B=some (r1 e I k5)) (Y:dr Tryz.prog 0 k5=some (pF e I)) (P:0<e) (S:g.length=v) (F:oD e n i v e1.length) (Z:e1.length<=1000000000000) {k6:FuncId}{k7 k8:List R}{l4:R->R->Int} (V:oF f i g A e1 k6 k7 k8 l4) (j: ∀D∈e1,oE e I D): ∀(H h c k:Nat),k - h<=H->h<c->c<k->k<=e1.length-> ∀(E:List R),E.Perm e1->
  AC Tryz.prog O [n,.v (.int .i64 (h:Int)),.v (.int .i64 (c:Int)),.v (.int .i64 (k:Int)),.bG k6 k7 k8] (W f i g A E) λa08 C=> ∃k9,k9.Perm e1/\C=W f i g A k9
 |0,h,c,k,l5,l6,l7,l8,E,y=>by omega
 |H+1,h,c,k,l5,l6,l7,l8,E,y=>by
  have a09:=F.cl;refine aM hm Q ?_;refine aG (λl9=> ?_) λl9=> ?_
  .refine gK [0,1,2,3,4] (λa:Nat×Nat=> [(10,.v (.int .i64 (a.1))),(11,.v (.int .i64 (a.2)))]) (λa=>c<=a.1/\a.1<=a.2/\a.2<=k) (λa=>a.2 - a.1) (c,k) ⟨a5n _,by show c<=k;omega,a5n _⟩ aS ?_;rintro⟨b,d⟩ ⟨G,l,L⟩ m
   dsimp only at G l L|-
   refine aa ?_;have j9:=uS b d;have K:=y.length_eq;have q:=λD T=>j D (y.mem_iff.1 T);refine aG (λc2=> ?_) λc2=> ?_
   .have M:=F.jh ((b+d)/2) a9k;have N:=F.jh h a9k;have l0:=nA P (f:=f) (v:=i) (e1:=A) S q (i:=(b+d)/2) a9k;have l1:=nA P (f:=f) (v:=i) (e1:=A) S q (i:=h) a9k;have l2:(b+d)/2<=1000000000000:=a9k;obtain⟨s,k0⟩:b<=(b+d)/2/\(b+d)/2<d:=a9k;have w:=V.2 E y _ (y.mem_iff.1 (jZ (e:=(b+d)/2) a9k)) _ (y.mem_iff.1 (jZ (e:=h) a9k));generalize (b+d)/2=o at*;refine aa ?_;refine fE V.1 w ?_;rintro _ _ ⟨rfl,rfl⟩;refine aa ?_;refine aG (λaH=> ?_) λaH=> ?_
    .exact⟨(o+1,d),⟨by show c<=o+1;omega,by show o+1<=d;omega,L⟩,⟨rfl,rfl⟩,by show d -(o+1)<d - b;omega⟩
    .exact⟨(b,o),⟨G,s,by show o<=k;omega⟩,⟨rfl,rfl⟩,by show o - b<d - b;omega⟩
   .refine ch [0,1,2,3,4,10] (λa:Nat×List R=> [(13,.v (.int .i64 (a.1)))]) (λa C=>C=W f i g A a.2/\a.2.Perm e1/\h<=a.1) (λa=>b - a.1) (h,E) ⟨⟨rfl,y,a5n _⟩,aS⟩ ?_;rintro⟨p,z⟩ _ ⟨rfl,x,k1⟩ B
    dsimp only at x k1|-
    refine aa ?_;refine aG (λaH=> ?_) λaH=> ?_
    .have K:=x.length_eq;have k2:=λD T=>j D (x.mem_iff.1 T);have M:=F.jh p a9k;have N:=F.jh (p+1) a9k;have l3:(p)+1=((p+1:Nat):Int):=a9k;obtain⟨n0,n1,n2,n3,n4,n5,n9,a00,a01,a02,a03,a04,a05⟩:=uR P (f:=f) (O:=i) (e1:=A) S k2 (i:=p) (v:=p+1) a9k a9k;have k3:=uQ (g:=z) (e:=p) (i:=p+1) a9k a9k;generalize W f i g A z=a06 at*;generalize el z p=a at*;generalize el z (p+1)=a07 at*;refine aa ?_;exact⟨(p+1,_),⟨rfl,k3.trans x,by show h<=p+1;omega⟩,rfl,by show b -(p+1)<b - p;omega⟩
    .exact⟨_,U.a1,_,x,rfl⟩
  .refine aG (λc2=> ?_) λc2=> ?_
   .refine gK [0,1,2,3,4] (λa:Nat×Nat=> [(14,.v (.int .i64 (a.1))),(15,.v (.int .i64 (a.2)))]) (λa=>h<=a.1/\a.1<=a.2/\a.2<=c) (λa=>a.2 - a.1) (h,c) ⟨a5n _,by show h<=c;omega,a5n _⟩ aS ?_;rintro⟨b,d⟩ ⟨G,l,L⟩ m
    dsimp only at G l L|-
    refine aa ?_;have j9:=uS b d;have K:=y.length_eq;have q:=λD T=>j D (y.mem_iff.1 T);refine aG (λaH=> ?_) λaH=> ?_
    .have M:=F.jh ((b+d)/2) a9k;have N:=F.jh c a9k;have l0:=nA P (f:=f) (v:=i) (e1:=A) S q (i:=(b+d)/2) a9k;have l1:=nA P (f:=f) (v:=i) (e1:=A) S q (i:=c) a9k;obtain⟨s,k0⟩:b<=(b+d)/2/\(b+d)/2<d:=a9k;have w:=V.2 E y _ (y.mem_iff.1 (jZ (e:=c) a9k)) _ (y.mem_iff.1 (jZ (e:=(b+d)/2) a9k));have l2:(b+d)/2<=1000000000000:=a9k;generalize (b+d)/2=o at*;refine aa ?_;refine fE V.1 w ?_;rintro _ _ ⟨rfl,rfl⟩;refine aa ?_;refine aG (λaH=> ?_) λaH=> ?_
     .exact⟨(o+1,d),⟨by show h<=o+1;omega,by show o+1<=d;omega,L⟩,⟨rfl,rfl⟩,by show d -(o+1)<d - b;omega⟩
     .exact⟨(b,o),⟨G,s,by show o<=c;omega⟩,⟨rfl,rfl⟩,by show o - b<d - b;omega⟩
    .refine ch [0,1,2,3,4,14] (λa:Nat×List R=> [(17,.v (.int .i64 (a.1)))]) (λa C=>C=W f i g A a.2/\a.2.Perm e1/\a.1<=c) (λa=>a.1) (c,E) ⟨⟨rfl,y,a5n _⟩,aS⟩ ?_;rintro⟨p,z⟩ _ ⟨rfl,x,k1⟩ B
     dsimp only at x k1|-
     refine aa ?_;refine aG (λaJ=> ?_) λaJ=> ?_
     .have K:=x.length_eq;have k2:=λD T=>j D (x.mem_iff.1 T);have M:=F.jh p a9k;have N:=F.jh (p - 1) a9k;have l3:(p) - 1=((p - 1:Nat):Int):=a9k;obtain⟨n0,n1,n2,n3,n4,n5,n9,a00,a01,a02,a03,a04,a05⟩:=uR P (f:=f) (O:=i) (e1:=A) S k2 (i:=p) (v:=p - 1) a9k a9k;have k3:=uQ (g:=z) (e:=p) (i:=p - 1) a9k a9k;generalize W f i g A z=a06 at*;generalize el z p=a at*;generalize el z (p - 1)=a07 at*;refine aa ?_;exact⟨(p - 1,_),⟨rfl,k3.trans x,by show p - 1<=c;omega⟩,rfl,by show p - 1<p;omega⟩
     .exact⟨_,U.a1,_,x,rfl⟩
   .have j9:=uS h k;have a10:(h+k)/2<=1000000000000:=a9k;obtain⟨s,k0⟩:h<(h+k)/2/\(h+k)/2<k:=a9k;have a11:(h+k)/2 - h<=k -(h+k)/2:=a9k;have a13:k -(h+k)/2<=(h+k)/2 - h+1:=a9k;generalize (h+k)/2=r at*;refine aa ?_;refine o6 [0,1,2,3,4,18,19] (λa:Nat×Nat=> [(20,.v (.int .i64 (a.1))),(21,.v (.int .i64 (a.2)))]) (λa C=>C=W f i g A E/\h<=a.1/\a.1<=a.2/\r+c<=k+a.1/\a.2<=r/\a.2<=c) (λaH=> ?_) (λaH=> ?_) ?_
    .have aH:=of_decide_eq_true aH;have a14:(r)+(c) -(k)=((r+c - k:Nat):Int):=a9k;refine aa ?_;exact⟨(r+c - k,r),⟨by show h<=r+c - k;omega,by show r+c - k<=r;omega,a9k,a5n _,by show r<=c;omega⟩,rfl,rfl⟩
    .have aH:=of_decide_eq_false aH;refine aa ?_;exact⟨(h,c),⟨a5n _,by show h<=c;omega,by show r+c<=k+h;omega,by show c<=r;omega,a5n _⟩,rfl,rfl⟩
    rintro⟨b,d⟩ _ ⟨rfl,G,l,t,L,u⟩ m
    dsimp only at G l t L u|-
    refine p7 [0,1,2,3,4,18,19,20,21] (λ_:Unit=> [(22,.v (.int .i64 ((r+c - 1:Nat))))]) (λ_ C=>C=W f i g A E) ?_ ?_
    .refine aa ?_;exact⟨(),by congr 2;omega⟩
    rintro _ _ rfl m;refine p7 [0,1,2,3,4,18,19] (λb:Nat=> [(20,.v (.int .i64 (b)))]) (λb C=>C=W f i g A E/\h<=b/\r+c<=k+b/\b<=r/\b<=c) ?_ ?_
    .refine aa ?_;refine gK [0,1,2,3,4,18,19,22] (λa:Nat×Nat=> [(20,.v (.int .i64 (a.1))),(21,.v (.int .i64 (a.2)))]) (λa=>h<=a.1/\a.1<=a.2/\r+c<=k+a.1/\a.2<=r/\a.2<=c) (λa=>a.2 - a.1) (b,d) ⟨G,l,t,L,u⟩ aS ?_;rintro⟨b,d⟩ ⟨G,l,t,L,u⟩ m
     dsimp only at G l t L u|-
     have j9:=uS b d;have K:=y.length_eq;have q:=λD T=>j D (y.mem_iff.1 T);refine aa ?_;refine aG (λaJ=> ?_) λaJ=> ?_
     .obtain⟨s,k0⟩:b<=(b+d)/2/\(b+d)/2<d:=a9k;have l2:(b+d)/2<=1000000000000:=a9k;generalize (b+d)/2=o at*;have l3:((r+c - 1:Nat)) -(o)=((r+c - 1 - o:Nat):Int):=a9k;have M:=F.jh o a9k;have N:=F.jh (r+c - 1 - o) a9k;have l0:=nA P (f:=f) (v:=i) (e1:=A) S q (i:=o) a9k;have l1:=nA P (f:=f) (v:=i) (e1:=A) S q (i:=r+c - 1 - o) a9k;have w:=V.2 E y _ (y.mem_iff.1 (jZ (e:=r+c - 1 - o) a9k)) _ (y.mem_iff.1 (jZ (e:=o) a9k));refine aa ?_;refine fE V.1 w ?_;rintro _ _ ⟨rfl,rfl⟩;refine aa ?_;refine aG (λbm=> ?_) λbm=> ?_
      .exact⟨(o+1,d),⟨by show h<=o+1;omega,by show o+1<=d;omega,by show r+c<=k+(o+1);omega,L,u⟩,⟨rfl,rfl⟩,by show d -(o+1)<d - b;omega⟩
      .exact⟨(b,o),⟨G,s,t,by show o<=r;omega,by show o<=c;omega⟩,⟨rfl,rfl⟩,by show o - b<d - b;omega⟩
     grind
    rintro b _ ⟨rfl,G,t,L,u⟩ m;refine p7 [0,1,2,3,4,18,20] (λ_:Unit=> [(24,.v (.int .i64 ((r+c - b:Nat))))]) (λ_ C=>C=W f i g A E) ?_ ?_
    .refine aa ?_;exact⟨(),by congr 2;omega⟩
    rintro _ _ rfl m;obtain⟨D,T⟩: ∃D,r+c - b=D:=⟨_,rfl⟩;have a15:D<=k:=a9k;rw[T];refine p7 [0,1,2,3,4,18,20,24] (λ_:List R=> []) (λa C=>C=W f i g A a/\a.Perm e1) ?_ ?_
    .refine aa ?_;refine aG (λaJ=> ?_) λaJ=> ?_
     .refine aG (λbm=> ?_) λbm=> ?_
      .refine ai (a0T X Y P S F Z a9k a9k a9k _ E y j) ?_;rintro _ _ ⟨z,x,rfl⟩;refine aa ?_;exact⟨z,rfl,x⟩
      .exact⟨E,rfl,y⟩
     .exact⟨E,rfl,y⟩
    rintro z _ ⟨rfl,x⟩ m;refine p7 [0,1,2,3,4,18,20,24] (λ_:List R=> []) (λa C=>C=W f i g A a/\a.Perm e1) ?_ ?_
    .refine aa ?_;refine aG (λaJ=> ?_) λaJ=> ?_
     .refine aG (λbm=> ?_) λbm=> ?_
      .refine ai (uT Q X Y P S F Z V j H h b r a9k a9k a9k a9k z x) ?_;rintro _ _ ⟨k4,x,rfl⟩;refine aa ?_;exact⟨k4,rfl,x⟩
      .exact⟨z,rfl,x⟩
     .exact⟨z,rfl,x⟩
    rintro z _ ⟨rfl,x⟩ m;refine aa ?_;refine aG (λaJ=> ?_) λaJ=> ?_
    .refine aG (λbm=> ?_) λbm=> ?_
     .refine ai (uT Q X Y P S F Z V j H r D k a9k a9k a9k a9k z x) ?_;rintro _ _ ⟨k4,x,rfl⟩;refine aa ?_;exact⟨_,U.a1,k4,x,rfl⟩
     .exact⟨_,U.a1,z,x,rfl⟩
    .exact⟨_,U.a1,z,x,rfl⟩
def a0U {T V D j:FuncId} (O:dr Tryz.prog 0 T=some (uO e I V b5)) (l:dr Tryz.prog 0 V=some (sS e I)) (m:dr Tryz.prog 0 b5=some (sT e I b5 D)) (q:dr Tryz.prog 0 D=some (r1 e I j)) (s:dr Tryz.prog 0 j=some (pF e I)) (p:0<e) (r:g.length=v) (E:oD e n i v e1.length) (Q:e1.length<=1000000000) {t:FuncId}{u w:List R}{X:R->R->Int} (x:oF f i g A e1 t u w X) (y: ∀Y∈e1,oE e I Y):
  AC Tryz.prog T [n,.v (.int .i64 (e1.length:Int)),.bG t u w] (W f i g A e1) λk4 h=> ∃B,B.Perm e1/\h=W f i g A B:=by
 have k5:=E.cl;have H:e1.length<=1000000000000:=a9k;have z:=E;have C:=H;obtain⟨b,Z⟩: ∃b,e1.length=b:=⟨_,rfl⟩;rw[Z]at Q H E|-;refine aM hm O ?_;refine ch [0,1,2,6] (λa:Nat×List R=> [(7,.v (.int .i64 (a.1))),(8,.v (.int .i64 ((a.1+20:Nat))))]) (λa h=>h=W f i g A a.2/\a.2.Perm e1/\a.1<=b) (λa=>b - a.1) (0,e1) ⟨⟨rfl,.refl _,a5o _⟩,aS⟩ ?_;rintro⟨c,K⟩ _ ⟨rfl,F,G⟩ k6
 dsimp only at F G|-
 refine aa ?_;refine aG (λj9=> ?_) λj9=> ?_
 .refine ai (F8 l p r z C a9k a9k x K F y) ?_;rintro _ _ ⟨L,k,rfl⟩;refine aa ?_;exact⟨(c+20,L),⟨rfl,k,by show c+20<=b;omega⟩,⟨rfl,rfl⟩,by show b -(c+20)<b - c;omega⟩
 .refine ai (F8 l p r z C a9k a9k x K F y) ?_;rintro _ _ ⟨L,k,rfl⟩;refine aa ?_;refine ch [0,1,2] (λa:Nat×List R=> [(6,.v (.int .i64 (a.1)))]) (λa h=>h=W f i g A a.2/\a.2.Perm e1/\0<a.1/\a.1<=20+2*b) (λa=>b - a.1) (20,L) ⟨⟨rfl,k,by show 0<20;omega,by show 20<=20+2*b;omega⟩,aS⟩ ?_;rintro⟨aP,M⟩ _ ⟨rfl,P,k0,k1⟩ b5
  dsimp only at P k0 k1|-
  refine aa ?_;refine aG (λc2=> ?_) λc2=> ?_
  .have k7:2*(aP)=((2*aP:Nat):Int):=a9k;refine ch [0,1,2,6] (λa:Nat×List R=> [(7,.v (.int .i64 (a.1))),(8,.v (.int .i64 ((a.1+2*aP:Nat))))]) (λa h=>h=W f i g A a.2/\a.2.Perm e1/\a.1<=b) (λa=>b - a.1) (0,M) ⟨⟨rfl,P,a5o _⟩,by rw[a5h];exact aS⟩ ?_;rintro⟨c,N⟩ _ ⟨rfl,S,G⟩ D
   dsimp only at S G|-
   have k8:(c)+(aP)=((c+aP:Nat):Int):=rfl;refine aa ?_;refine aG (λaH=> ?_) λaH=> ?_
   .refine ai (uT m q s p r z C x y _ c (c+aP) (c+2*aP) (a5n _) a9k a9k a9k N S) ?_;rintro _ _ ⟨d,k,rfl⟩;refine aa ?_;exact⟨(c+2*aP,d),⟨rfl,k,by show c+2*aP<=b;omega⟩,⟨rfl,a9l⟩,by show b -(c+2*aP)<b - c;omega⟩
   .have k2: ∀d:List R,d.Perm e1-> ∃o:Nat×List R,(W f i g A d=W f i g A o.2/\o.2.Perm e1/\0<o.1/\o.1<=20+2*b)/\R.v (.int .i64 ((aP)*2))= .v (.int .i64 (o.1))/\b - o.1<b - aP:=λd k3=>⟨(aP*2,d),⟨rfl,k3,by show 0<aP*2;omega,by show aP*2<= _;omega⟩,rfl,by show b - aP*2<b - aP;omega⟩;refine aG (λaJ=> ?_) λaJ=> ?_
    .refine ai (uT m q s p r z C x y _ c (c+aP) b (a5n _) a9k a9k a9k N S) ?_;rintro _ _ ⟨d,k,rfl⟩;have:=k2 d k;exact aS
    .trivial
  .exact⟨_,U.a1,M,P,rfl⟩
def yN (a:FuncId):aq:=⟨9,2,.plain (aB 4 0::aB 5 0::oY 6 5::aB 7 1::bD 8 (.fU a [aF 4,aF 6,aF 7]):: []),[]⟩
def F9 {b c d h k:FuncId} (y:dr Tryz.prog 0 b=some (yN c)) (z:dr Tryz.prog 0 c=some (uO e I d b5)) (C:dr Tryz.prog 0 d=some (sS e I)) (D:dr Tryz.prog 0 b5=some (sT e I b5 h)) (E:dr Tryz.prog 0 h=some (r1 e I k)) (F:dr Tryz.prog 0 k=some (pF e I)) (G:0<e) (L:g.length=v) (a:oD e n i v e1.length) (P:e1.length<=1000000000) {o:FuncId}{p r:List R}{S:R->R->Int} (T:oF f i g A e1 o p r S) (V: ∀j∈e1,oE e I j):
  AC Tryz.prog b [n,.bG o p r] (W f i g A e1) λs l=> ∃x,x.Perm e1/\l=W f i g A x:=by
 have t:=a.cl;have u:=a.len;refine aM hm y ?_;refine ai (a0U z C D E F G L a P T V) ?_;rintro _ _ ⟨m,q,rfl⟩;refine aa ?_;exact⟨_,U.a1,m,q,rfl⟩
end
def a0V:dr Tryz.prog 0 70=some (yN 133):=a9p
def a0W:dr Tryz.prog 0 218=some (yN 292):=a9p
theorem ar.wr (d:ar t f e A n) (h:0<e) (k:A=flat g) (o: ∀c∈g,c.cells.length=e) (E:g≠ []):
  ∃a post b,t a=none/\n= .an a g.length b e/\f=W f a [] post g/\oD e n a 0 g.length/\g.length<=b/\b<=maxLen/\(g.length*e+post.length=b*e):=by
 subst k;have F:=dc o;obtain⟨G,⟨c,_⟩|⟨a,p,b,r,rfl,x,y,L,z,P,C,D⟩⟩:=d;grind[List.length_nil,List.length_pos_iff,Nat.mul_pos]
 .obtain rfl:p=g.length:=a7d h a9k;refine⟨a,r.drop (g.length*e),b,x,rfl,?_,⟨λS T=> ?_,rfl,rfl⟩,C,D,?_⟩
  .rw[W,a5a,<-z,a5p];exact(U.sF y).symm
  simp_all [jH];grind
theorem W.dQ (d:f.sub t) (b:f v=none) (h: ∀a∈g,a.cells.length=e) (c:A.Perm g) (k:g.length<=i) (o:i<=maxLen) (x:g.length*e+e1.length=i*e):
  ar f (W t v [] e1 A) e (flat A) (.an v g.length i e):=by
 have p:(flat A).length=g.length*e:=by rw[dc λa r=>h a (c.mem_iff.1 r),c.length_eq]
 refine⟨U.ae d b,.inr ⟨v,_,i,_,rfl,b,U.ah _ _ _,?_,?_,p,k,o⟩⟩;simp_all;simp_all
theorem az.mem {h:Type}{k:h->R->Prop}: ∀ {c:List h}{aP:List R},az k c aP-> ∀ {b:R},b∈aP-> ∃d,d∈c/\k d b
 | [],[],_,b,a=>by cases a
 |d::c,p::aP,⟨h1,o⟩,b,a=>by
  rcases a5g.1 a with rfl|a
  .simp_all
  .obtain⟨r,x,y⟩:=az.mem o a;grind
 | [],_:: _,a,_,_=>a.elim
 | _:: _,[],a,_,_=>a.elim
variable{b0:Type}
def az.perm {p:b0->R->Prop} (r:g.Perm A): ∀ {a:List b0},az p a A-> ∃c,c.Perm a/\az p c g:=by
 induction r with
 |nil=>exact λ{a} b=>⟨a,.refl _,b⟩
 |cons x _ ih=>
  intro a b
  match a,b with
  |h::a,⟨h1,k⟩=>obtain⟨c,d,o⟩:=ih k;exact⟨h::c,d.cons _,h1,o⟩
 |swap x G L=>
  intro a b
  match a,b with
  |h::y::a,⟨h1,k,d⟩=>exact⟨y::h::a,.swap _ _ _,k,h1,d⟩
 |trans _ _ z C=>intro a b;obtain⟨c,d,o⟩:=C b;obtain⟨D,E,F⟩:=z o;exact⟨D,E.trans d,F⟩
theorem oF.of {s:U}{l:Nat}{ds d:List R} (r:gf Tryz.prog b5=true) (x: ∀b∈e1,∀c∈e1,∃h:Int,∀a,a.Perm e1->AC Tryz.prog b5 (ds++ [b,c]++d) (W s l g A a) λk o=>o=W s l g A a/\k= .v (.int .i64 h)):
  ∃y,oF s l g A e1 b5 ds d y:=by
 classical
 exact⟨λb c=>if z: ∃h:Int,∀a,a.Perm e1->AC Tryz.prog b5 (ds++ [b,c]++d) (W s l g A a) λk o=>o=W s l g A a/\k= .v (.int .i64 h)then z.choose else 0,r,λa C b D c E=>by
  have p:=x b D c E;simp only[dif_pos p];exact p.choose_spec a C⟩
theorem a0X (E:Own) (p:Nat) (n3:1<=p) (n4:p<=8) (a:List (List Int)) (q:List R) (V:R) (x:U) (F:bR x 1 V q) (e:az isRow a q) (s: ∀k∈a,k.length=p) (n5:a.length<=100000) (j9:a≠ []):
  AC Tryz.prog 142 [fP.V E,V] x λk f=> ∃t g,g.Perm a/\az isRow g t/\ar x f 1 (flat t) k:=by
 have k0:=e.len;have n9:=F.one;have k1:=F.len;rw[k0]at k1;refine aM hm Nl ?_;refine bp λy a00=> ?_;generalize i:x.set y _=j;have u:x.sub j:=by subst i;exact aS
 have G:j y=some (.cells [.v (.int .u8 0),.v (.int .i64 0),.J (ad []) E]):=by subst i;exact aS
 clear i;refine ch [1,2,8,9] (λd:Nat×R=> [(10,.v (.int .i64 (d.1))),(5,d.2)]) (λd f=>d.1<=a.length/\ ∃h,ar j f 1 h d.2/\h=flat h/\az isRow (a.take d.1) h) (λd=>a.length - d.1) (0,.J [] .nil) ⟨⟨a5o _,[],ar.nil U.a1,rfl,trivial⟩,aS⟩ ?_;rintro⟨b,d⟩ r ⟨k2,h,o,z,c⟩ a01
 dsimp only at k2 o c|-
 have a02:=U.af (o.1 _ _ G);refine aa ?_;refine aG (λk3=> ?_) λk3=> ?_
 .have k4:=a5P.2 j9;obtain⟨_,L,v,rfl⟩:=e.get (i:=b) (x:=a.getD b []) (by grind);obtain⟨_,k5,k6,rfl⟩:=e.get (i:=0) (x:=a.getD 0 []) (by simp[k4]);obtain⟨C,a03,l⟩:=F.get b _ L;obtain⟨w,A,k7⟩:=F.get 0 _ k5;have A:cP 1 V (.v (.int .i64 0))=some w:=A;have B:=U.au u o.1;have a04:dn false 1 r C=some (.J (ad (a.getD b [])) v):=l.ld r B false 1 a9k (by simp[R.cells]);have a05:dn false 1 r w=some (.J (ad (a.getD 0 [])) k6):=k7.ld r B false 1 a9k (by simp[R.cells]);have k8:(ad (a.getD b [])).length=p:=by grind[bH,List.getD]
  have a06:(ad (a.getD 0 [])).length=p:=by rw[bH];grind
  have D:=eQ (a:=a) (e:=b) (b:= []) a9k;have a07:fP.ok p=true:=by rw[r0];grind
  generalize a.getD b []=k at*;generalize a.getD 0 []=a08 at*;refine aa ?_;refine bh (uN fP _ _ _ a9k a9l) ?_;refine ai (ss k v r (by rw[bH]at k8;omega)) ?_;rintro _ a09 ⟨k9,rfl⟩;have l0:=o.mono k9;refine aa ?_;refine eP (by simp[aT,R.cells]) a9l λa10 l1=> ?_;have H:=l0.mono (U.ae (Y:= .cells (flat [R.J (ad k) .any])) U.a1 l1);have m:(flat h).length=b:=by rw[dc (c.cells λ_ _=>isRow.cells),c.len,a4K];omega
  rw[z]at H;refine aa ?_;refine ff H a9k (oo rfl) rfl (by rw[m];simp[flat,R.cells];omega) (by rw[m];simp[flat,R.cells];omega) λl2 a11 I=> ?_;refine aa ?_;refine⟨(b+1,l2),⟨by show b+1<=a.length;omega,h++ [.J (ad k) .any],?_,?_,?_⟩,⟨rfl,rfl⟩,a9k⟩
  .rw[<-z]at I;exact I
  .conv=>lhs;rw[z]
   simp[flat,R.cells]
  .show az isRow (a.take (b+1)) _;rw[D];exact c.snoc ⟨_,rfl⟩
 .obtain rfl:b=a.length:=a9k;rw[a5d]at c;have P: ∀D∈h,D.cells.length=1:=c.cells λ_ _=>isRow.cells;have m:=c.len;have l3:h≠ []:=by grind
  obtain⟨K,post,a13,M,rfl,N,O,l4,l5,Q⟩:=ar.wr o a9k z P l3;have l6:K≠y:=by rintro rfl;rw[M]at G;cases G
  have X: ∀Y,(W r K [] post Y).read y=some [.v (.int .u8 0),.v (.int .i64 0),.J (ad []) E]:=λY=>U.af ((U.ao _ _ l6.symm).trans (o.1 _ _ G));have l7:=λS T=>W.dQ (A:=S) o.1 M P T l4 l5 Q;obtain⟨a14,l8⟩:=oF.of (b5:=219) (ds:= []) a9q λa15 l9 a16 n0=>by
   obtain⟨C,l,Z,rfl⟩:=c.mem l9;obtain⟨n,n1,n2,rfl⟩:=c.mem n0;have Q:=s C l;have a18:=s n n1;exact⟨sR C n,λS _=>a0C E Z n2 C n _ y (X S) ⟨a9k,a9k⟩ a9k⟩
  rw[N];clear N;refine ai (F9 a0W a0Q a0M a0O a0K a0I a9k rfl O a9k l8 λD L=>⟨P D L,?_⟩) ?_
  .obtain⟨k,_,Z,rfl⟩:=c.mem L;rfl
  rintro _ _ ⟨S,T,rfl⟩;clear z X P O;refine aa ?_;obtain⟨g,a19,a27⟩:=c.perm T;have a29:=(l7 _ T).base u;grind[U.a1]
abbrev nB (a b:List Int) (c d h:Own):List R:= [.J (ad a) c,.J (ad b) d,.v (.int .u8 0),.v (.int .i64 0),.J [] h,.v (.int .i64 1),.v (.bool false)]
theorem a0Y (y z:List Int) (C D E:Own) (d h:U) (k:List R) (o:R) (a:ar d h 1 k o):AC Tryz.prog 141 [o,.agg (nB y z C D E)] h λF G=>ar d G 1 (k.take 1) F:=by
 have g:=fH a;obtain⟨L,P,_,i⟩:=a.src;refine aM hm Nj ?_;refine bp λj p=> ?_;refine aG (λS=> ?_) λS=> ?_
 .obtain⟨r,⟨rfl,_⟩|⟨b,x,c,T,rfl,V,W,e,l,m,n,f⟩⟩:=a
  .simp at P;omega
  .obtain rfl:x=L:=a9k;have q:cg 1 (.an b x c 1) none (some (.v (.int .i64 1))) none=some (.an b 1 c 1):=hL (v:=1) a9k;refine aa ?_;refine⟨_,U.a1,U.ae r (U.bF r p),.inr ⟨b,1,c,T,rfl,V,U.ae U.a1 p _ _ W,e,?_,?_,a9k,f⟩⟩;grind
   .rw[a4K];omega
 grind[List.take_of_length_le,U.a1,U.ae]
def ew (b c:List Int) (a:ay):Bool:=decide (a.live≠0)&&jY b c a.aU a.aV
theorem a0Z (b c:List Int) (p r x d h k:Own) (a:ay) (y:a.sum.length=32) (z:b.length<=1000000000000) (o:U):AC Tryz.prog 130 [.agg (nB b c p r x),.agg (ab a d h k)] o λC D=>D=o/\C= .v (.bool (ew b c a)):=by
 have F:=(aW (M:=d) (e6:=h) (h5:=k) y).all;refine aM hm MY ?_;refine bp λG L=> ?_;refine cX λP S T V=> ?_;generalize W:ab a d h k=e at*;refine aG (λE=> ?_) λE=> ?_
 .refine bh (F0 _ b c a.aU a.aV _ _ _ _ z) ?_;refine aG (λc2=> ?_) λc2=> ?_
  .refine aP ?_;rw[ew,c2,Bool.and_false]
  simp_all [ew]
 .refine aP ?_;rw[ew,decide_eq_false a9k,a6Y]
theorem Fa {a b:List Int} (c:jY q b6 a b=true):cR (gw q b6 a b).1 (gw q b6 a b).2 (gw q b6 a b).1.length=true/\(gw q b6 a b).1.length=q.length:=by
 have d:=id c;rw[jY,a4L]at c;obtain⟨h,hm⟩:=c;obtain⟨y,z,C,D,E⟩:=yG h;rw[oB,a4L]at h;obtain⟨r,x⟩:=h;simp only[cR,a4L,decide_eq_true_eq,a4Z,a5Z]at r x hm;have k:(gw q b6 a b).1.length=q.length:=by rw[gw,if_pos d];simp[z]
 have F:(gw q b6 a b).2.length=q.length:=by rw[gw,if_pos d];simp[y,C]
 refine⟨?_,k⟩;rw[k];simp only[cR,a4L,decide_eq_true_eq,a4Z,a5Z];refine⟨⟨⟨⟨D,E⟩,k⟩,F⟩,λo p=> ?_⟩;have G:=r.2 o p;have L:=x.2 o p;obtain⟨P,S⟩:=hm o p;rw[gw,if_pos d];grind
def yO (b c:List Int) (a:ay) (d:List Int):Bool:=jY b c a.aU a.aV&&sQ d (gw b c a.aU a.aV).1
def a1a (a d:List Int) (G L r x y z S:Own) (b:ay) (h:List Int) (T:b.sum.length=32) (j:h.length=a.length) (l:a.length<=8) (k:U):AC Tryz.prog 135 [.agg (nB a d G L r),.agg (ab b x y z),.J (ad h) S] k λV W=>W=k/\V= .v (.bool (yO a d b h)):=by
 have m:=(aW (M:=x) (e6:=y) (h5:=z) T).all;refine aM hm N6 ?_;refine bp λC n=> ?_;refine cX λP q s t=> ?_;generalize u:ab b x y z=e at*;generalize o:(k.set C _).set P _=D;have E:k.sub D:=by subst o;exact aS
 have cl:D C=some (.cells (nB a d G L r)):=by subst o;exact aS
 have v:D P=some (.cells e):=by subst o;exact aS
 clear o;refine gs (F1 _ a d b.aU b.aV _ _ _ _ a9k) λw c=> ?_;have A:=U.af (c _ _ cl);refine aN λf F=> ?_;have g:C≠f:=by rintro rfl;rw[c _ _ cl]at F;cases F
 have B:=g.symm;have H:=U.bF (U.au E c) F;refine aa ?_;refine aG (λp=> ?_) λp=> ?_
 .obtain⟨i,c2⟩:=Fa p;refine bh (a0D r _ _ _ _ _ h _ i a9k) ?_;refine⟨U.au E c,aP ?_⟩;rw[yO,p,a6f]
 .refine⟨U.au E c,aP ?_⟩;rw[yO,p,a6Y]
abbrev kK (a:ay) (b c d:Own) (h k:Nat) (id o:Int):List R:=ab a b c d++ [.v (.int .u64 (h:Int)),.v (.int .u64 (k:Int)),.v (.int .i64 id),.v (.int .i64 o)]
def r2 (a:ay) (b:R):Prop:=a.sum.length=32/\a.cC/\ ∃c d h k o id p,b= .agg (kK a c d h k o id p)
variable{b1:Int}{w j3:ay}{M e6 h5:Own}
theorem uU {id:Int} (d:w.sum.length=32):(kK w M e6 h5 e i id b1).length=41/\(kK w M e6 h5 e i id b1).take 41=kK w M e6 h5 e i id b1/\(kK w M e6 h5 e i id b1).take 37=ab w M e6 h5/\
  ((kK w M e6 h5 e i id b1).drop 37).take 2= [.v (.int .u64 (e:Int)),.v (.int .u64 (i:Int))]/\aX false 1 ((kK w M e6 h5 e i id b1).drop 39)= .v (.int .i64 id)/\aX false 1 ((kK w M e6 h5 e i id b1).drop 40)= .v (.int .i64 b1):=by
 have c:=(aW (M:=M) (e6:=e6) (h5:=h5) d).len;have a: ∀b,(kK w M e6 h5 e i id b1).drop (37+b)= [R.v (.int .u64 (e)),.v (.int .u64 (i)),.v (.int .i64 id),.v (.int .i64 b1)].drop b:=λb=>by
  rw[a6g,a5v a9k,c,a7k,a5a]
 have h:(kK w M e6 h5 e i id b1).length=41:=by rw[a4J,c];rfl
 refine⟨h,a4I a9k,?_,?_,?_,?_⟩;simp_all
 .rw[a 0];rfl
 .rw[a 2];rfl
 .rw[a 3];rfl
theorem a1b (E:r2 w n) (F:r2 j3 b3): ∃G:Int,∀k,AC Tryz.prog 71 [n,b3] k λL P=>P=k/\L= .v (.int .i64 G):=by
 obtain⟨S,_,r,x,y,a,b,id,o,rfl⟩:=E;obtain⟨T,_,z,C,D,c,d,h,p,rfl⟩:=F;have V:=uU (M:=r) (e6:=x) (h5:=y) (e:=a) (i:=b) (id:=id) (b1:=o) S;have W:=uU (M:=z) (e6:=C) (h5:=D) (e:=c) (i:=d) (id:=h) (b1:=p) T;refine⟨if qZ a b c d=0 then(if id=h then IntKind.i64.wrap (o - p)else if id<h then -1 else 1)else qZ a b c d,λk=> ?_⟩;generalize kK w r x y a b id o=e at*;generalize kK j3 z C D c d h p=f at*;refine aM hm Lh ?_;refine bp λg i=> ?_;refine cX λj l a b=> ?_;refine bh (EZ _ _ _ _ _) ?_
 repeat' first|refine aG (λ_=> ?_) λ_=> ?_|trivial
 all_goals simp_all
theorem a1c (c d:List Int) (k o h:Own) (a:Nat) (p:a<=1000000000000) (b:U):AC Tryz.prog 68 [.agg (nB c d k o h),.v (.int .i64 (a:Int))] b λy z=>z=b/\y= .v (.bool (cR c d a)):=by
 have r:=λb=>uN fP h a b p a9l;simp only[r0]at r;refine aM hm Ld ?_;refine bp λC F=> ?_;refine aG (λD=> ?_) λD=> ?_
 .refine aG (λc2=> ?_) λc2=> ?_
  .refine bh (oh _ c d _ _ _ p) ?_;refine aG (λaH=> ?_) λaH=> ?_
   .trivial
   .have E:decide (1<=a/\a<=8)=true:=decide_eq_true a9k;have x:=r (b.set C (.cells (nB c d k o h)));rw[E]at x;exact bh x trivial
  grind[cR,lk]
 grind[cR,lk]
theorem Fb {a:Int}:ic b1 a<0↔b1<a:=by unfold ic;omega
theorem Fc {a:Int}:ic b1 a=0↔b1=a:=by unfold ic;omega
def kL:List Int->List Int->Prop
 |a::c,b::d=>a<b\/a=b/\kL c d
 | _,_=>False
theorem r3: ∀ {b c:List Int},b.length=c.length->(fM b c<0↔kL b c)
 | [],[],_=>by simp[fM,kL]
 |d::b,h::c,a=>by
  have ih:=r3 (by simpa using a);grind[fM,kL,Fc,Fb]
 | [],_:: _,a=>by simp at a
 | _:: _,[],a=>by simp at a
def yP: ∀ {b:List Int},¬kL b b
 | [],a=>a
 |c::b,a=>a.elim a9k λa=>yP a.2
def yQ: ∀ {c d h:List Int},kL c d->kL d h->kL c h
 |k::c,o::d,p::h,a,b=>by
  rcases a with a|⟨rfl,a⟩<;>rcases b with b|⟨rfl,b⟩
  .exact .inl a9k
  .exact .inl a
  .exact .inl b
  .exact .inr ⟨rfl,yQ a b⟩
theorem yR: ∀ {a b:List Int},a.length=b.length->kL a b\/a=b\/kL b a
 | [],[],_=> .inr (.inl rfl)
 |k::a,o::b,c=>by
  rcases Int.lt_trichotomy k o with d|rfl|d
  .exact .inl (.inl d)
  .rcases yR (by simpa using c)with h|rfl|h
   .exact .inl (.inr ⟨rfl,h⟩)
   .simp
   .exact .inr (.inr (.inr ⟨rfl,h⟩))
  .exact .inr (.inr (.inl d))
 | [],_:: _,c=>by simp at c
 | _:: _,[],c=>by simp at c
def yS (a:Nat) (b c:List Int):Prop:=b.getD a 0<c.getD a 0\/b.getD a 0=c.getD a 0/\kL b c
theorem uV (a:q.length=b6.length):cK e q b6<0↔yS e q b6:=by grind[cK,yS,Fc,r3,Fb]
structure nC (d:Nat) (a:List Int->List Int->Int):Prop where
 ja: ∀x,x.length=d-> ¬a x x<0
 sU: ∀x y z,x.length=d->y.length=d->z.length=d->a x y<0->a y z<0->a x z<0
 r4: ∀x y,x.length=d->y.length=d->a x y<0\/x=y\/a y x<0
def nC.yT {a:List Int->List Int->Int} (c:nC e a) (b:q.length=e) (d:b6.length=e) (h:a q b6<0): ¬a b6 q<0:=λk=>c.ja q b (c.sU q b6 q b d b h k)
def nC.Fe {c:List Int->List Int->Int} (h:nC e c): ∀a b d,a.length=e->b.length=e->d.length=e-> ¬c a b<0-> ¬c b d<0-> ¬c a d<0:=λa b d k o r z x y=>by
 rcases h.r4 a b k o with p|rfl|p
 .omega
 .omega
 .exact x (h.sU _ _ _ o k r p y)
theorem pH (k o:Nat):nC k (cK o) where
 ja d h a:=by
  rw[uV rfl]at a;rcases a with a|a
  .omega
  .exact yP a.2
 sU d p z h r C b c:=by
  rw[uV a9k]at*;rcases b with b|⟨b,x⟩<;>rcases c with c|⟨c,y⟩
  .exact .inl a9k
  .exact .inl a9k
  .exact .inl a9k
  .exact .inr ⟨a9k,yQ x y⟩
 r4 d p h r:=by rw[uV a9k,uV a9k];grind[yS,Int.lt_trichotomy,yR]
theorem a1d (d:Nat):nC d fM where
 ja a b c:=by rw[r3 rfl]at c;exact yP c
 sU a h p b k r h1 o:=by rw[r3 a9k]at*;exact yQ h1 o
 r4 a h b k:=by simp_all [r3,yR]
theorem yU {z:Nat}{o:List Int->List Int->Int} (C:nC z o): ∀ {c a:List (List Int)},(∀b∈c,b.length=z)->a.Perm c->c.Pairwise (λp r=> ¬o r p<0)->a.Pairwise (λp r=> ¬o r p<0)->a=c
 | [],a,_,d,_,_=>d.eq_nil
 |b::c,a,x,d,h1,E=>by
  cases a with
  |nil=>simp_all
  |cons h a=>
   obtain⟨T,F⟩:=a5r.1 h1;obtain⟨V,G⟩:=a5r.1 E;have D:h∈b::c:=d.mem_iff.1 a9l;have L:b∈h::a:=d.mem_iff.2 a9l;have k:h=b:=by
    rcases a5g.1 D with k|W
    .exact k
    rcases a5g.1 L with k|e
    .exact k.symm
    rcases C.r4 h b (x h D) (x b a9l)with y|y|y
    .grind
    .exact y
    .grind
   subst k;rw[yU C (λP S=>x P (by simp[S])) (List.Perm.cons_inv d) F G]
theorem a1e (c:Nat) (a:List Int) (b:List (List Int)):(eY c a b).Perm (a::b):=by grind[List.takeWhile_append_dropWhile,decide,cK,eY,List.perm_middle]
def Ff {p c:Nat}{d:List Int} (r:d.length=p): ∀ {h:List (List Int)},(∀b∈h,b.length=p)->h.Pairwise (λx y=> ¬cK c y x<0)->(eY c d h).Pairwise (λx y=> ¬cK c y x<0)
 | [],_,_=>by simp[eY]
 |b::h,z,D=>by
  obtain⟨E,L⟩:=a5r.1 D;have F:=pH p c;have G:=z b a9l;by_cases o:cK c b d<0
  .have C:eY c d (b::h)=b::eY c d h:=by simp[eY,o]
   rw[C];refine a5r.2 ⟨λk a=> ?_,Ff r (λk a=>z k (by simp[a])) L⟩;rcases yp.1 a with rfl|a
   .exact F.yT G r o
   .exact E k a
  .have C:eY c d (b::h)=d::b::h:=by simp[eY,o]
   rw[C];refine a5r.2 ⟨λk a=> ?_,D⟩;rcases a5g.1 a with rfl|a
   .exact o
   .exact F.Fe k b d (z k (by simp[a])) G r (E k a) o
theorem Fg {o d:Nat}: ∀(h a:List (List Int)),(∀b∈h,b.length=o)->(∀b∈a,b.length=o)->a.Pairwise (λp r=> ¬cK d r p<0)->(h.foldl (λx c=>eY d c x) a).Perm (a++h)/\(h.foldl (λx c=>eY d c x) a).Pairwise (λp r=> ¬cK d r p<0)
 | [],a,_,_,y=>by simpa using y
 |c::h,a,h1,z,y=>by
  have C:=h1 c a9l;have D: ∀b∈eY d c a,b.length=o:=λb k=>by
   rcases yp.1 k with rfl|k
   .exact C
   .exact z b k
  obtain⟨E,F⟩:=Fg h (eY d c a) (λb k=>h1 b (by simp[k])) D (Ff C z y);grind[a1e,trans]
variable{Q:List (List Int)}
def sV (a: ∀b∈Q,b.length=i):(ec e Q).Perm Q/\(ec e Q).Pairwise (λc d=> ¬cK e d c<0):=by simpa[ec] using Fg Q [] a a9l .nil
def a1f (a:isRow q n):n.one=true/\n.cells= [n]:=by obtain⟨b,rfl⟩:=a;trivial
theorem az.of {k:Type}{o:k->R->Prop}: ∀ {b:List k}{aP:List R},aP.length=b.length->(∀(c:Nat) d h,b[c]? =some d->aP[c]? =some h->o d h)->az o b aP
 | [],[],_,_=>trivial
 |d::b,r::aP,a,p=>⟨p 0 d r rfl rfl,az.of (by simpa using a) λc x h y z=>p (c+1) x h y z⟩
 | [],_:: _,a,_=>by simp at a
 | _:: _,[],a,_=>by simp at a
variable{m:Program}
def a1g (a:gf m b5=true): ∀b c,(callFunc b5 b).run m c= .ok (.enter b5 b) c:=by
 unfold gf at a;split at a
 .rename_i k d;rw[a4L]at a;obtain⟨o,h⟩:=a5u.1 a.1;exact enters_of d (by simpa using a.2) h
 .cases a
theorem a1h {k:List Int->List Int->Int} (o:nC i k) {x:List (List Int)} (W:f v=some (.cells g)) (F:az isRow Q A) (G:Q.length=e) (j:g.take e=A) (y:e<=4000000) (l:0<e) (L: ∀a∈Q,a.length=i)
  (P:x.Perm Q) (m:x.Pairwise (λz c=> ¬k c z<0)) (p:FuncId) (C:List R) (n:t.sub f) (q: ∀c,t c=none\/ ∃s,t c=some (.ro s)) (u:gf Tryz.prog p=true)
  (w: ∀b d D E,b.length=i->d.length=i->AC Tryz.prog p ([.J (ad b) D,.J (ad d) E]++C) t λa _=>a= .v (.int .i64 (k b d))):
  AC Tryz.prog 118 [.an v e O 1,.bG p [] C] f λa S=>a= .aL []/\ ∃r,az isRow x r/\S=f.set v (.cells (r++g.drop e)):=by
 refine(ZQ (m:=Tryz.prog) Tryz.EU isRow (λ_ _=>a1f) W F.len (λY b z h T=> ?_) G j a9k p C n q (λa=>a.length=i) L l k o.ja o.sU o.Fe (a1g u) λb d z c T y h B=> ?_).mono λa S H=> ?_
 .obtain⟨c,y,Z⟩:=F.get h;simp_all
 .obtain⟨D,rfl⟩:=T;obtain⟨E,rfl⟩:=y;exact w b d D E h B
 .obtain⟨I,r,j9,V,K,M,N,X⟩:=H;have:=yU o (λb h=>L b (P.mem_iff.1 h)) (V.trans P.symm) m N;subst this;exact⟨I,r,az.of (by rw[K,V.length_eq,G]) M,X⟩
def gx (k o:U) (a:List R) (c:R):Prop:=
 k.sub o/\(∀p∈a,p.cells.length=41)/\((a= []/\(c= .J [] .nil\/c= .J [] .zero))\/ ∃d h post b,k d=none/\o d=some (.cells (h++flat a++post))/\a.length<=b/\b<=maxLen/\a.length*41+post.length=b*41/\
  ((c= .an d a.length b 41/\h= [])\/c= .bx d h.length a.length b 41))
def gx.mono {a:R} (c:gx f t g a) (b:t.sub e4):gx f e4 g a:=by obtain⟨d,h,k⟩:=c;refine⟨U.au d b,h,k.imp_right ?_⟩;rintro⟨o,p,post,r,x,y,z⟩;exact⟨o,p,post,r,x,b _ _ y,z⟩
def gx.len (a:gx f t g n):fb n=some (.v (.int .i64 (g.length:Int)))/\n.cells= [n]:=by obtain⟨_,_,⟨rfl,rfl|rfl⟩|⟨b,c,post,d,_,_,_,_,_,⟨rfl,_⟩|rfl⟩⟩:=a<;>exact⟨rfl,rfl⟩
def gx.other {o:br} (c:gx f t g n) (d:f e=none) (h:cO n≠some e):gx f (t.set e o) g n:=by
 obtain⟨k,p,r⟩:=c;refine⟨U.ae k d,p,r.imp_right ?_⟩;rintro⟨a,x,post,y,z,C,D,E,F,b⟩;have G:a≠e:=by rintro rfl;rcases b with ⟨rfl,_⟩|rfl<;>exact h rfl
 exact⟨a,x,post,y,z,by rw[U.ao _ _ G];exact C,D,E,F,b⟩
def ar.other {o:br} (b:ar f t i g n) (c:f e=none) (d:cO n≠some e):ar f (t.set e o) i g n:=by
 obtain⟨h,k⟩:=b;refine⟨U.ae h c,k.imp_right ?_⟩;rintro⟨a,p,r,x,rfl,y,z,C⟩;have D:a≠e:=by rintro rfl;exact d rfl
 exact⟨a,p,r,x,rfl,y,by rw[U.ao _ _ D];exact z,C⟩
variable{s a7:R -> U -> Prop}
theorem gx.app {E:R}{l:cB s} (m:gx t f g b3) (q:n.cells.length=41) (u:bN f 41 E=some (1,n.cells)) (Q:g.length<=100000000)
  (F: ∀c z,gx t z (g++ [n]) c->(∀a,cO c=some a->cO b3=some a\/f a=none)->(∀a,cO b3≠some a->f a≠none->z a=f a)->s c z):jJ 41 152 f b3 E (bO s l):=by
 obtain⟨C,v,w⟩:=m;have G: ∀L∈g++ [n],L.cells.length=41:=λL X=>by
  grind
 have P:flat (g++ [n])=flat g++n.cells:=by simp[flat]
 have S:=dc v;unfold jJ;rw[vM u];simp only[bO];have Y: ∀(k o:Nat) (x:List R),f k=none->g.length+1<=o->o<=maxLen->x.length=(o -(g.length+1))*41->s (.an k (g.length+1) o 41) (f.set k (.cells (flat g++n.cells++x))):=λk o x T r hm Z=>by
  have V:=U.bF C T;refine F _ _ ⟨U.ae C V,G,.inr ⟨k,[],x,o,V,?_,?_,hm,?_,.inl ⟨?_,rfl⟩⟩⟩ (λa p=> ?_) λa p A=> ?_
  .rw[U.ah,P];rfl
  .simpa using r
  grind
  .rw[a4J];rfl
  grind[cO,Option.some.injEq]
  .have:a≠k:=by rintro rfl;exact A T
   exact U.ao _ _ this
 rcases w with ⟨rfl,B⟩|⟨d,b,post,h,W,e,j9,H,k0,I⟩
 .rcases B with rfl|rfl;simp_all;simp_all
 .have K:g.length+1<=h-> ∃y,putAt (b++flat g++post) (b.length+g.length*41) n.cells=b++flat (g++ [n])++y/\(g.length+1)*41+y.length=h*41:=λr=>by
   refine⟨post.drop 41,?_,by rw[a4Y];omega⟩;have D:(b++flat g).length=b.length+g.length*41:=by simp_all
   rw[putAt,<-D,a7q,<-a5w,a7s,q,P];simp
  have i: ∀c,cO b3=some d->cO c=some d->((c= .an d (g.length+1) h 41/\b= [])\/c= .bx d b.length (g.length+1) h 41)->g.length+1<=h->s c (f.set d (.cells (putAt (b++flat g++post) (b.length+g.length*41) n.cells))):=λc j M N r=>by
   obtain⟨y,D,O⟩:=K r;rw[D];refine F _ _ ⟨U.ae C W,G,.inr ⟨d,b,y,h,W,U.ah _ _ _,by simpa using r,H,by simpa using O,?_⟩⟩ (λa p=> .inl ?_) λa p _=> ?_
   .simpa using N
   .rw[M]at p;rw[j];exact p
   .have:a≠d:=by rintro rfl;exact p j
    exact U.ao _ _ this
  rcases I with ⟨rfl,rfl⟩|rfl
  .simp only[e];refine⟨trivial,by simp[S];omega,a9k,a9k,?_⟩;split
   .have:=i (.an d (g.length+1) h 41) rfl rfl (.inl ⟨rfl,rfl⟩) ‹_›;simpa using this
   simp_all
  .simp only[e];refine⟨trivial,by simp[S];omega,a9k,a9k,?_⟩;split
   .exact i (.bx d b.length (g.length+1) h 41) rfl rfl (.inr rfl) ‹_›
   simp_all
abbrev ly (a:Nat) (b c:List Int) (d h k:Own) (o:Nat) (p:R) (r x y:Int) (z:R):List R:=
 [.ptr a 0,.J (ad b) d,.J (ad c) h,.v (.int .u8 0),.v (.int .i64 0),.J [] k,.v (.int .i64 1),.v (.bool false),.v (.int .i64 (o:Int)),p,.v (.int .i64 r),.v (.int .i64 x),.v (.int .i64 y),z]
structure ij where
 gy:Nat
 aU:List Int
 aV:List Int
 hs:Own
 eT:Own
 hr:Own
 d:Nat
structure dF (A:ij) (b c:U) (a:Nat) (us:List R) (L:R) (es:List R) (oG:R):Prop where
 gH:b a=none
 x: ∃n ox d:Int,c a=some (.cells (ly A.gy A.aU A.aV A.hs A.eT A.hr A.d L n ox d oG))
 l:ar b c 1 us L
 w:gx b c es oG
 gY:cO L≠some a
 ka:cO oG≠some a
 lw: ∀p,cO L=some p->cO oG≠some p
def dF.mono {c:ij}{d h k:U}{o:Nat}{p:List R}{r:R}{x:List R}{y:R} (a:dF c d h o p r x y) (b:h.sub k):dF c d k o p r x y:=
 ⟨a.gH,by obtain⟨z,C,D,a⟩:=a.x;exact⟨z,C,D,b _ _ a⟩,a.l.mono b,a.w.mono b,a.gY,a.ka,a.lw⟩
theorem dF.set {b:ij}{k o:U}{c:Nat}{p:List R}{d:R}{r:List R}{h:R} (a:dF b k o c p d r h) (x y z:Int):dF b k (o.set c (.cells (ly b.gy b.aU b.aV b.hs b.eT b.hr b.d d x y z h))) c p d r h:=
 ⟨a.gH,⟨x,y,z,U.ah _ _ _⟩,ar.other a.l a.gH a.gY,a.w.other a.gH a.ka,a.gY,a.ka,a.lw⟩
def ar.has (b:ar t f i g n) (a:cO n=some e):f e≠none:=by
 obtain⟨_,⟨_,rfl|rfl⟩|⟨d,h,k,o,rfl,_,c,_⟩⟩:=b
 .cases a
 .cases a
 .obtain rfl:=a4G a;rw[c];simp
def gx.has (a:gx t f g n) (b:cO n=some e):f e≠none:=by
 obtain⟨_,_,⟨_,rfl|rfl⟩|⟨d,h,post,k,_,c,_,_,_,⟨rfl,_⟩|rfl⟩⟩:=a
 .cases b
 .cases b
 all_goals (obtain rfl:=a4G b;rw[c];exact λa=>by cases a)
def ar.fC (c:ar f e4 e g n) (d:f.sub t) (h: ∀a,cO n=some a->t a=e4 a):ar f t e g n:=by obtain⟨C,k⟩:=c;refine⟨d,k.imp_right ?_⟩;rintro⟨b,o,p,r,rfl,x,y,z⟩;exact⟨b,o,p,r,rfl,x,(h b rfl).trans y,z⟩
structure Fh (A:ij) (b:U) (c:Nat) (L oG:R) (a:Nat):Prop where
 n:b a=none
 x:a≠c
 l:cO L≠some a
 w:cO oG≠some a
def dF.fresh {d:ij} (a:dF d f t e g n A b3) (b:t i=none):Fh d f e n b3 i:=
 ⟨U.bF a.l.1 b,(by obtain⟨_,_,_,h⟩:=a.x;rintro rfl;rw[b]at h;cases h),(λc=>ar.has a.l c b),λc=>a.w.has c b⟩
def dF.wr {c:ij} (a:dF c f t e g n A b3) (b:Fh c f e n b3 i) (d:br):dF c f (t.set i d) e g n A b3:=
 ⟨a.gH,(by obtain⟨h,k,o,p⟩:=a.x;exact⟨h,k,o,(U.ao _ _ b.x.symm).trans p⟩),ar.other a.l b.n b.l,a.w.other b.n b.w,a.gY,a.ka,a.lw⟩
def r5 (p:g.length=37) (a b c d:R):(g++ [a,b,c,d]).length=41/\(g++ [a,b,c,d]).take 41=g++ [a,b,c,d]/\(∀h o,putAt (g++ [a,b,c,d]) 37 [h,o]=g++ [h,o,c,d])/\(∀h,putAt (g++ [a,b,c,d]) 39 [h]=g++ [a,b,h,d])/\ ∀h,putAt (g++ [a,b,c,d]) 40 [h]=g++ [a,b,c,h]:=by
 have r: ∀k,(g++ [a,b,c,d]).take (37+k)=g++ [a,b,c,d].take k:=λk=>by rw[a7R,p,a4I a9k,a7k]
 have x: ∀k,(g++ [a,b,c,d]).drop (37+k)= [a,b,c,d].drop k:=λk=>by rw[a6g,p,a5v a9k,a5a,a7k]
 have y:(g++ [a,b,c,d]).length=41:=by rw[a4J,p];rfl
 refine⟨y,a4I a9k,λh o=> ?_,λh=> ?_,λh=> ?_⟩
 .show(g++ [a,b,c,d]).take (37+0)++ [h,o]++(g++ [a,b,c,d]).drop (37+2)= _;rw[r,x];simp
 .show(g++ [a,b,c,d]).take (37+2)++ [h]++(g++ [a,b,c,d]).drop (37+3)= _;rw[r,x];simp
 .show(g++ [a,b,c,d]).take (37+3)++ [h]++(g++ [a,b,c,d]).drop (37+4)= _;rw[r,x];simp
abbrev zW:List R:=List.replicate 32 (R.v (.int .u8 0))++ [.J [] .nil,.J [] .nil]++ [.v (.int .i64 0),.v (.int .i64 0)]++ [.J [] .nil]++ [.v (.int .u64 0),.v (.int .u64 0)]++ [.v (.int .i64 0),.v (.int .i64 0)]
def a1i (a:g.length=37):putAt zW 0 g=g++ [.v (.int .u64 0),.v (.int .u64 0),.v (.int .i64 0),.v (.int .i64 0)]:=by rw[putAt,a];rfl
theorem Fi (a:ij) (k0 e:U) (c:Nat) (k1:List R) (f:R) (z:List R) (u:R) (C:dF a k0 e c k1 f z u) (b:ay) (D E F:Own) (v:b.sum.length=32) (n5:b.cC) (a48:a.aU.length<=8) (a52:z.length<=100000000):
  AC Tryz.prog 69 [.ptr c 0,.agg (ab b D E F)] e λ_ k2=> ∃n9 w,dF a k0 k2 c k1 f w n9/\if ew a.aU a.aV b=true then∃k3,r2 b k3/\w=z++ [k3]else w=z:=by
 obtain⟨g,i,h,A⟩:=C.x;have a00:=(aW (M:=D) (e6:=E) (h5:=F) v).all;refine aM hm Lf ?_;refine bp λj a01=> ?_;have k4:j≠c:=by rintro rfl;rw[a01]at A;cases A
 have a56:=k4.symm;rw[hK];generalize B:e.set j _=G;have k5:e.sub G:=by subst B;exact aS
 have cl:G j=some (.cells (ab b D E F)):=by subst B;exact U.ah _ _ _
 have k6:=C.mono k5;have H:=k5 _ _ A;clear B;generalize I:ab b D E F=L at*;have a02:=U.af cl;have fX:=U.af H;have a03:=U.aI H;refine aa ?_;rw[<-I];refine bh (a0Z a.aU a.aV _ _ _ _ _ _ b v a9k G) ?_;rw[I];refine aG (λK=> ?_) λK=> ?_;grind;have a57:bn .add (.int .i64 h) (.int .i64 1)=some (.int .i64 (IntKind.i64.wrap (h+1))):=rfl;obtain⟨a61,a62⟩:=C.w.len;have a63:=fH C.l;have r:=a00.1;have a04:=a1i r;obtain⟨a05,_,_,_,M⟩:=r5 r (.v (.int .u64 0)) (.v (.int .u64 0)) (.v (.int .i64 0)) (.v (.int .i64 0));have M:=M (.v (.int .i64 (IntKind.i64.wrap (h+1))));have a06:=(r5 r (.v (.int .u64 0)) (.v (.int .u64 0)) (.v (.int .i64 0)) (.v (.int .i64 (IntKind.i64.wrap (h+1))))).1;have a65:=(r5 r (.v (.int .u64 0)) (.v (.int .u64 0)) (.v (.int .i64 0)) (.v (.int .i64 (IntKind.i64.wrap (h+1))))).2.1;generalize l:R.v (.int .i64 (IntKind.i64.wrap (h+1)))=T at*;generalize a68:L++ [R.v (.int .u64 0),.v (.int .u64 0),.v (.int .i64 0),.v (.int .i64 0)]=a69 at*;generalize a07:L++ [R.v (.int .u64 0),.v (.int .u64 0),.v (.int .i64 0),T]=P at*;have a71:T.cells= [T]:=by subst l;rfl
 refine aa ?_;have m:=k6.set g i (IntKind.i64.wrap (h+1));simp only[ly,l]at m;refine aN λx o=> ?_;have a08:=m.fresh o;have a09:j≠x:=by rintro rfl;rw[U.ao _ _ k4,cl]at o;cases o
 have a73:=a09.symm;have k7:c≠x:=by rintro rfl;rw[U.ah]at o;cases o
 have a74:=k7.symm;refine aa ?_;have hm:jY a.aU a.aV b.aU b.aV=true:=by rw[ew,a4L]at K;exact K.2
 obtain⟨k8,a10⟩:=Fa hm;have k9:=U.ah G c (.cells [.ptr a.gy 0,.J (ad a.aU) a.hs,.J (ad a.aV) a.eT,.v (.int .u8 0),.v (.int .i64 0),.J [] a.hr,.v (.int .i64 1),.v (.bool false),.v (.int .i64 (a.d)),f,.v (.int .i64 g),.v (.int .i64 i),T,u]);generalize G.set c _=l0 at*;have l1:=m.mono (U.ae (Y:= .cells P) U.a1 o);have l2:=U.ae (Y:= .cells P) U.a1 o _ _ k9;have l3:=U.ah l0 x (.cells P);generalize l0.set x _=a81 at*;clear k9 o m fX a03 H k6 cl a02 C a04 a05 M a06;refine gs (F1 _ a.aU a.aV b.aU b.aV _ _ _ _ a9k) λa11 n=> ?_;refine aN λN p=> ?_;have a13:=l1.mono (U.au n (U.ae (Y:= .cells [.J (ad (gw a.aU a.aV b.aU b.aV).1) .any,.J (ad (gw a.aU a.aV b.aU b.aV).2) .any]) U.a1 p));have q:=n _ _ l2;have s:=n _ _ l3;have l4:c≠N:=by rintro rfl;rw[q]at p;cases p
 have a14:=l4.symm;have l5:x≠N:=by rintro rfl;rw[s]at p;cases p
 have a15:=l5.symm;have a16:=U.af q;have a18:=U.af s;refine aa ?_;generalize a83:(gw a.aU a.aV b.aU b.aV).1=S at*;generalize (gw a.aU a.aV b.aU b.aV).2=O at*;have l6:=U.ae (Y:= .cells [.J (ad S) .any,.J (ad O) .any]) U.a1 p _ _ q;have a19:=U.ae (Y:= .cells [.J (ad S) .any,.J (ad O) .any]) U.a1 p _ _ s;generalize a11.set N _=Q at*;refine bh (F5 a.hr _ _ S O Q k8) ?_;obtain⟨y,a27⟩: ∃X,nz (S.getD 0 0)=X:=⟨_,rfl⟩;obtain⟨id,a29⟩: ∃X,S.getD 0 0=X:=⟨_,rfl⟩;rw[a29]at a27;clear a16 a18 p l4 l5 a14 a15 q s n l2 l3 l1 k8 a10;have a84:=U.aI a19;have a86:=U.af l6;have a88:P.length=41:=by grind
 have a89:putAt P 37 [.v (.int .u64 0),.v (.int .u64 (y))]=L++ [.v (.int .u64 0),.v (.int .u64 (y)),.v (.int .i64 0),T]:=by subst a07;exact(r5 r _ _ _ _).2.2.1 _ _
 obtain⟨a90,_,_,l7,_⟩:=r5 r (.v (.int .u64 0)) (.v (.int .u64 (y))) (.v (.int .i64 0)) T;have l7:=l7 (.v (.int .i64 id));obtain⟨l8,a92,_⟩:=r5 r (.v (.int .u64 0)) (.v (.int .u64 (y))) (.v (.int .i64 id)) T;generalize L++ [R.v (.int .u64 0),.v (.int .u64 (y)),.v (.int .i64 0),T]=a94 at*;generalize a30:L++ [R.v (.int .u64 0),.v (.int .u64 (y)),.v (.int .i64 id),T]=k at*;refine aa ?_;have a34:=a13.wr a08 (.cells k);have a36:(Q.set x (.cells k)) c=some (.cells [.ptr a.gy 0,.J (ad a.aU) a.hs,.J (ad a.aV) a.eT,.v (.int .u8 0),.v (.int .i64 0),.J [] a.hr,.v (.int .i64 1),.v (.bool false),.v (.int .i64 (a.d)),f,.v (.int .i64 g),.v (.int .i64 i),T,u]):=(U.ao _ _ k7).trans l6;generalize Q.set x _=l9 at*;refine eP (by simp[aT,hK,l8]) a9l λY n0=> ?_;have d:=a34.mono (U.ae (Y:= .cells (flat [R.agg k])) U.a1 n0);have t:=U.ae (Y:= .cells (flat [R.agg k])) U.a1 n0 _ _ a36;have a38:bN (l9.set Y (.cells (flat [R.agg k]))) 41 (.an Y 1 1 41)=some (1,(R.agg k).cells):=by simp_all [flat,U.af,U.ah,hK,bN]
 generalize l9.set Y _=a42 at*;have fX:=U.af t;refine aa ?_;refine gx.app (n:= .agg k) d.w l8 a38 a9k λn1 k2 Z n2 n3=> ?_;have a43:=(n3 c d.ka (by rw[t];simp)).trans t;have a95:=U.aI a43;have a96:=Z.len.2;refine aa ?_;have a47:a42 c≠none:=by rw[t];simp
 have n4:cO n1≠some c:=λj9=>(n2 c j9).elim d.ka a47;refine⟨_,U.a1,n1,z++ [.agg k],⟨d.gH,⟨g,i,IntKind.i64.wrap (h+1),by subst l;exact U.ah _ _ _⟩,ar.other (ar.fC d.l Z.1 λV W=>n3 V (d.lw V W) (ar.has d.l W)) d.gH d.gY,Z.other d.gH n4,d.gY,n4,λV W j9=>(n2 V j9).elim (d.lw V W) (ar.has d.l W)⟩,.agg k,⟨v,n5,D,E,F,0,y,id,IntKind.i64.wrap (h+1),?_⟩,rfl⟩;subst l;subst a30;subst I;rfl
def ar.wide (p:ar t f e g n): ∃o,ar o f e g n/\t.sub o/\o.sub f/\ ∀k b,f k=some b->cO n≠some k->o k=some b:=by
 obtain⟨r,x|⟨d,y,z,C,rfl,D,E⟩⟩:=p
 .exact⟨f,⟨U.a1,.inl x⟩,r,U.a1,λ_ _ p _=>p⟩
 .refine⟨f.del d,⟨λh b a=> ?_,.inr ⟨d,y,z,C,rfl,U.il _ _,E⟩⟩,λh b a=> ?_,λh b a=> ?_,λk b F G=> ?_⟩
  .have c:h≠d:=by rintro rfl;rw[U.il]at a;cases a
   rwa[U.eG _ c]at a
  .have c:h≠d:=by rintro rfl;rw[D]at a;cases a
   rw[U.eG _ c];exact r h b a
  .have c:h≠d:=by rintro rfl;rw[U.il]at a;cases a
   rwa[U.eG _ c]at a
  .have c:k≠d:=by rintro rfl;exact G rfl
   rw[U.eG _ c];exact F
def ar.fresh (b:ar f t i g n) (a:cO n=some e):f e=none:=by
 obtain⟨_,⟨_,rfl|rfl⟩|⟨d,h,k,o,rfl,c,_⟩⟩:=b
 .cases a
 .cases a
 .obtain rfl:=a4G a;exact c
def gx.fC (h:gx f e4 g n) (k:f.sub t) (o: ∀a b,cO n=some a->e4 a=some b->t a=some b):gx f t g n:=by obtain⟨G,p,r⟩:=h;refine⟨k,p,r.imp_right ?_⟩;rintro⟨c,x,post,y,z,C,D,E,F,d⟩;refine⟨c,x,post,y,z,o c _ ?_ C,D,E,F,d⟩;rcases d with ⟨rfl,_⟩|rfl<;>rfl
theorem az.flat {b:List (List Int)}{a:List R} (h:az isRow b a):flat a=a:=by
 induction a generalizing b with
 |nil=>rfl
 |cons o a ih=>
  match b,h with
  |c::b,⟨⟨d,h1⟩,k⟩=>subst h1;rw[show Go.bz.flat (R.J (ad c) d::a)= [R.J (ad c) d]++Go.bz.flat a from rfl,ih k];rfl
theorem a1j (a:ij) (n F:U) (y:Nat) (V:List R) (o:List (List Int)) (G:R) (q:List R) (L:R) (r:dF a n F y V G q L) (s:az isRow o V) (n2: ∀b∈o,b.length=a.d) (Q:1<=a.d) (X:a.d<=8) (n3:a.aU.length=a.d) (n4:o.length<=1) (b:List Int) (P:Bool) (c:Own) (n5:b.length=a.d):
  AC Tryz.prog 74 [.ptr y 0,.agg [.J (ad b) c,.v (.bool P)]] F λ_ Y=> ∃t D Z,dF a n Y y t Z q L/\az isRow D t/\if(P&&jf a.aU a.aV b)=true then∃h,D= [h]/\(h=b\/h∈o)else D=o:=by
 obtain⟨j9,k0,k1,S⟩:=r.x;refine aM hm Ln ?_;refine bp λW k2=> ?_;rw[hK];have k3:W≠y:=by rintro rfl;rw[k2]at S;cases S
 have n9:=k3.symm;generalize e:F.set W _=E;have u:F.sub E:=by subst e;exact aS
 have cl:E W=some (.cells [.J (ad b) c,.v (.bool P)]):=by subst e;exact U.ah _ _ _
 have k4:=r.mono u;have f:=u _ _ S;clear e;have a00:=U.af cl;have fX:=U.af f;have a01:=U.aI f;cases P with
 |false=>refine aa ?_;grind
 |true=>
 refine aa ?_;refine bh (a0w E a.aU a.aV b _ _ _ a9k) ?_;refine aG (λk5=> ?_) λk5=> ?_;grind;refine eP (by simp[aT,R.cells]) a9l λg v=> ?_;have k:=k4.mono (U.ae (Y:= .cells (flat [R.J (ad b) c])) U.a1 v);have w:=U.ae (Y:= .cells (flat [R.J (ad b) c])) U.a1 v _ _ f;have k6:bN (E.set g (.cells (flat [R.J (ad b) c]))) 1 (.an g 1 1 1)=some (1,[R.J (ad b) c]):=oo rfl;generalize E.set g _=A at*;have a02:=fH r.l;have B:=s.len;obtain⟨a03,k7,H,a04,i⟩:=ar.wide k.l;refine aa ?_;refine ff k7 a9k k6 rfl (by simp[B];omega) (by simp[B];omega) λk8 I z=> ?_;have j:=z.1 _ _ (i y _ w k.gY);have a05:=U.af j;refine aa ?_;have l:az isRow (o++ [b]) (V++ [.J (ad b) c]):=s.snoc ⟨c,rfl⟩;have k9:=bR.dQ z a9k l.flat.symm (l.cells λ_ _=>isRow.cells);refine ai (a0X a.hr a.d Q X (o++ [b]) _ k8 I k9 l (λa06 S=> ?_) a9m a9l) ?_;grind;rintro l0 l1 ⟨l2,D,p,K,M⟩;have l3:=M.1 _ _ j;have a07:=U.af l3;refine aa ?_;refine ai (a0Y a.aU a.aV a.hs a.eT a.hr I l1 _ l0 M) ?_;rintro T l4 x;have a08:=fH x;have N:=x.1 _ _ j;have a09:=U.aI N;have a10:=U.af N;refine aa ?_;rw[K.flat]at x;have l5: ∀ {h c},A h=some c->cO G≠some h->l4 h=some c:=λr m=>x.1 _ _ (z.1 _ _ (i _ _ r m));have l6:=U.au H (U.au z.1 x.1);have l7: ∀ {d},cO T=some d-> ∀ {c},A d=some c->cO G≠some d->False:=λp _ r m=>by
  have:=ar.fresh x p;rw[z.1 _ _ (i _ _ r m)]at this;cases this
 have O:cO T≠some y:=λC=>l7 C w k.gY;have l8: ∀d,cO L=some d->cO G≠some d:=λd p C=>k.lw d C p;have l9: ∀d,cO T=some d->cO L≠some d:=λd p C=>by
  have a11:=k.w.has C;simp_all [Option.ne_none_iff_exists']
 have n0:D≠ []:=λC=>by simp_all
 obtain⟨h,a13,rfl⟩:=a6M n0;refine⟨_,U.a1,l2.take 1,[h],T,⟨k.gH,⟨j9,k0,k1,U.ah _ _ _⟩,ar.other (x.base (U.au H z.1)) k.gH O,(gx.fC k.w l6 λd c p n1=>l5 n1 (l8 d p)).other k.gH k.ka,O,k.ka,l9⟩,K.take 1,h,rfl,?_⟩;have:h∈o++ [b]:=p.mem_iff.1 a9l;grind
theorem a1k (a:ij) (L p:U) (r:Nat) (z:List R) (x:List (List Int)) (C:R) (P:List R) (S:R) (D:dF a L p r z C P S) (y:az isRow x z) (j: ∀b∈x,b.length=a.d) (H:a.d<=8) (I:a.aU.length=a.d) (c:ay) (d h k:Own) (T:c.sum.length=32):
  AC Tryz.prog 72 [.ptr r 0,.agg (ab c d h k)] p λb l=>dF a L l r z C P S/\ ∃V,b= .v (.bool V)/\(V=true->x.length=1):=by
 obtain⟨K,M,N,E⟩:=D.x;have O:=(aW (M:=d) (e6:=h) (h5:=k) T).all;have m:=y.len;obtain⟨Q,W,_,X⟩:=D.l.src;rw[a5y,m]at W;subst W;refine aM hm Lj ?_;refine bp λF n=> ?_;rw[hK];have q:F≠r:=by rintro rfl;rw[n]at E;cases E
 have Y:=q.symm;generalize G:p.set F _=o;have e:p.sub o:=by subst G;exact aS
 have cl:o F=some (.cells (ab c d h k)):=by subst G;exact U.ah _ _ _
 have s:=D.mono e;have t:=e _ _ E;clear G;generalize u:ab c d h k=Z at*;have j9:=U.af cl;have fX:=U.af t;refine aa ?_;refine aG (λv=> ?_) λv=> ?_
 .obtain⟨b,rfl⟩:=a6I.1 (show x.length=1 by omega);have w:=bR.dQ s.l a9k y.flat.symm (y.cells λ_ _=>isRow.cells);obtain⟨_,A,f,rfl⟩:=y.get (i:=0) rfl;obtain⟨g,i,B⟩:=w.get 0 _ A;have i:cP 1 C (.v (.int .i64 0))=some g:=i;have k0:dn false 1 o g=some (.J (ad b) f):=B.ld o U.a1 false 1 a9k (by simp[R.cells]);have k1:=j b a9l;have k2:((1:Nat):Int) - 1=0:=rfl;refine aa ?_;rw[<-u];refine bh (a1a a.aU a.aV a.hs a.eT a.hr d h k f c b T a9k a9k o) ?_;grind
 grind
theorem dF.base {c:ij}{d h k:U}{o:Nat}{p:List R}{r:R}{x:List R}{y:R} (a:dF c h k o p r x y) (b:d.sub h):dF c d k o p r x y:=by refine⟨U.bF b a.gH,a.x,a.l.base b,?_,a.gY,a.ka,a.lw⟩;obtain⟨z,C,D⟩:=a.w;refine⟨U.au b z,C,D.imp_right ?_⟩;rintro⟨E,F,post,G,L,P⟩;exact⟨E,F,post,G,U.bF b L,P⟩
noncomputable def res (b:Nat->Prop) (c:U):U:=λa=>open Classical in if b a then none else c a
variable{j5:Nat -> Prop}
theorem r6 (a:j5 e):res j5 f e=none:=if_pos a
theorem oH (a: ¬j5 e):res j5 f e=f e:=if_neg a
theorem Fj:(res j5 f).sub f:=λa b c=>by
 grind[r6,oH]
def Fk (c:f.sub t):(res j5 f).sub (res j5 t):=λd h a=>by
 by_cases b:j5 d
 .rw[r6 b]at a;cases a
 .rw[oH b]at a|-;exact c _ _ a
def ar.res {a:Nat->Prop}{c d:U}{h:Nat}{k:List R}{b:R} (r:ar c d h k b) (x: ∀o,cO b=some o-> ¬a o):ar (res a c) (res a d) h k b:=by obtain⟨y,z⟩:=r;refine⟨Fk y,z.imp_right ?_⟩;rintro⟨p,C,D,E,rfl,F,G,L⟩;have:=x p rfl;exact⟨p,C,D,E,rfl,by rw[oH this];exact F,by rw[oH this];exact G,L⟩
def kb (b:Nat) (c d:R) (a:Nat):Prop:=a=b\/cO c=some a\/cO d=some a
def dF.wide {r:ij} (a:dF r t f e g n A b3):dF r (res (kb e n b3) f) f e g n A b3/\t.sub (res (kb e n b3) f):=by
 have z:t.sub (res (kb e n b3) f):=λC S b=>by
  have: ¬kb e n b3 C:=by
   rintro(rfl|c|c)
   .rw[a.gH]at b;cases b
   .rw[ar.fresh a.l c]at b;cases b
   .obtain⟨_,_,⟨_,rfl|rfl⟩|⟨d,x,post,h,k,_,_,_,_,⟨rfl,_⟩|rfl⟩⟩:=a.w
    .cases c
    .cases c
    all_goals (obtain rfl:=a4G c;rw[k]at b;cases b)
  rw[oH this];exact a.l.1 _ _ b
 refine⟨⟨r6 (.inl rfl),a.x,?_,?_,a.gY,a.ka,a.lw⟩,z⟩
 .obtain⟨_,o⟩:=a.l;refine⟨Fj,o.imp_right ?_⟩;rintro⟨d,D,h,E,rfl,k,p⟩;exact⟨d,D,h,E,rfl,r6 (.inr (.inl rfl)),p⟩
 .obtain⟨_,o,F⟩:=a.w;refine⟨Fj,o,F.imp_right ?_⟩;rintro⟨d,x,post,h,k,p,G,L,P,y⟩;refine⟨d,x,post,h,r6 (.inr (.inr ?_)),p,G,L,P,y⟩;rcases y with ⟨rfl,_⟩|rfl<;>rfl
def dF.sort {r:ij} (a:dF r t f e A b3 g n) (q:g≠ []): ∃b c post,f=W f b c post g/\oD 41 n b c.length g.length/\b≠e/\ ∀d,d.Perm g->dF r t (W f b c post d) e A b3 d n:=by
 obtain⟨E,F,⟨h,_⟩|⟨b,c,post,G,o,L,P,S,T,p⟩⟩:=a.w
 .trivial
 have x:cO n=some b:=by rcases p with ⟨rfl,_⟩|rfl<;>rfl
 have y:b≠e:=by rintro rfl;exact a.ka x
 refine⟨b,c,post,(U.sF L).symm,⟨λz s=> ?_,a.w.len.1,a.w.len.2⟩,y,λd k=>⟨a.gH,?_,?_,⟨U.ae E o,λh V=>F h (k.mem_iff.1 V),.inr ⟨b,c,post,G,o,U.ah _ _ _,by rw[k.length_eq];exact P,S,by rw[k.length_eq];exact T,by rw[k.length_eq];exact p⟩⟩,a.gY,a.ka,a.lw⟩⟩
 .have C:(0)<=(z:Int):=a9k;have D:(z:Int)<g.length:=a9k;rcases p with ⟨rfl,rfl⟩|rfl
  .rw[jH C D,a5l,a4R,a5h]
  .rw[tF C D,a5l]
 .obtain⟨i,j,l,m⟩:=a.x;exact⟨i,j,l,(U.ao _ _ y.symm).trans m⟩
 .refine ar.other a.l o λh=>a.lw _ h x
theorem dF.tail {a:ij}{z:R} (h:dF a t f e A b3 (n::g) z): ∃b,cg 41 z (some (.v (.int .i64 1))) none none=some b/\b.cells= [b]/\(∀p r x,dF a t (f.set e (.cells (ly a.gy a.aU a.aV a.hs a.eT a.hr a.d b3 p r x b))) e A b3 g b)/\
  ∃c o,cP 41 z (.v (.int .i64 0))=some (.ptr c o)/\dn true 37 f (.ptr c o)=some (.agg (n.cells.take 37)):=by
 obtain⟨l,P,⟨m,_⟩|⟨c,k,post,d,q,S,T,M,s,E⟩⟩:=h.w
 .cases m
 have V:cO z=some c:=by rcases E with ⟨rfl,_⟩|rfl<;>rfl
 have N:c≠e:=by rintro rfl;exact h.ka V
 have W:=P n a9l;have u:flat (n::g)=n.cells++flat g:=rfl;rw[a4M]at T s E;have C: ∀b:R,(cO b=none\/cO b=some c)->((g= []/\(b= .J [] .nil\/b= .J [] .zero))\/b= .bx c (k++n.cells).length g.length (d - 1) 41)-> ∀p r x,dF a t (f.set e (.cells (ly a.gy a.aU a.aV a.hs a.eT a.hr a.d b3 p r x b))) e A b3 g b:=λb v F p r x=>by
  have i:cO b≠some e:=λy=>by simp_all
  have w:gx t f g b:=by refine⟨l,λB H=>P B (by simp[H]),F.imp_right λF=> ?_⟩;refine⟨c,k++n.cells,post,d - 1,q,?_,a9k,a9k,a9k,.inr F⟩;rw[S,u];simp
  exact⟨h.gH,⟨p,r,x,U.ah _ _ _⟩,ar.other h.l h.gH h.gY,w.other h.gH i,h.gY,i,λO I y=>by
   rcases v with G|G
   .rw[G]at y;cases y
   .rw[G]at y;obtain rfl:=a4G y;exact h.lw _ I V⟩
 have D: ∀o,o=k.length->dn true 37 f (.ptr c o)=some (.agg (n.cells.take 37)):=λo K=>by
  subst K;have Q:=U.af S;have X:k.length+37<=(k++flat (n::g)++post).length:=by grind
  simp_all [dn,aX,a6i]
 rcases E with ⟨rfl,rfl⟩|rfl
 .by_cases j:1<d
  .refine⟨.bx c (1*41) (g.length+1 - 1) (d - 1) 41,gk (e:=1) a9k T j,rfl,C _ (.inr rfl) (.inr ?_),c,0,?_,D 0 rfl⟩
   .simp[W]
   .exact jH a9k a9k
  .obtain rfl:d=1:=a9k;have L:g= []:=a4N a9k;subst L;refine⟨.J [] .zero,tP rfl,rfl,C _ (.inl rfl) (.inl ⟨rfl,.inr rfl⟩),c,0,?_,D 0 rfl⟩;rfl
 .by_cases j:1<d
  .refine⟨.bx c (k.length+1*41) (g.length+1 - 1) (d - 1) 41,?_,rfl,C _ (.inr rfl) (.inr ?_),c,k.length,?_,D _ rfl⟩
   .have Y:(1)<=((g.length+1:Nat):Int):=a9k;have c2:((g.length+1:Nat):Int)<=d:=a9k;have aH:(1:Int)<d:=a9k;simp_all [cg,cG,bz.intOf]
   .simp[W]
   grind[tF]
  .obtain rfl:d=1:=a9k;have L:g= []:=a4N a9k;subst L;refine⟨.J [] .zero,?_,rfl,C _ (.inl rfl) (.inl ⟨rfl,.inr rfl⟩),c,k.length,?_,D _ rfl⟩
   .rfl
   rfl
section
variable (S:ag) (d:Nat) (lo hi:List Int)
inductive mo:ay->ay->Prop
 |refl (k:ay):mo k k
 |step {k a b:ay}{n:c3} (h:fj S d k=some n) (hk:a∈n.kids) (c:ew lo hi a=true) (o:mo a b):mo k b
def nD (h:ay) (a:List Int):Prop:= ∃b c,mo S d lo hi h b/\fj S d b=some c/\(a,true)∈c.rows/\jf lo hi a=true
end
def gz (a:ay):Nat:=2*a.size.toNat - 1
theorem yV (d h:List Int) (c:Nat): ∀(b:List ay),(∀a∈b,ew d h a=true->1<=a.size)->(∀a∈b,(c:Int)<=a.size)->c<=1->((((b.filter (ew d h)).map gz).sum:Nat):Int)+(b.length:Int)*c<=2*(b.map ay.size).sum/\0<=(b.map ay.size).sum
 | [],_,_,_=>by simp
 |a::b,o,p,he=>by
  have ih:=yV d h c b (λa k=>o a (by simp[k])) (λa k=>p a (by simp[k])) he;have r:=o a a9l;have x:=p a a9l;rw[a7V,a5f,a7Q,a4M];grind[Int.natCast_add,Int.add_mul,gz]
theorem yW (a:ew q b6 w=true):w.live≠0:=by rw[ew,a4L]at a;simp_all
def lz (a:w.sum.length=32):putAt (List.replicate 32 (R.v (.int .u8 0))++ [R.J [] .nil,.J [] .nil]++ [.v (.int .i64 0),.v (.int .i64 0)]++ [.J [] .nil]) 0 (ab w M e6 h5)=ab w M e6 h5:=by have:=(aW (M:=M) (e6:=e6) (h5:=h5) a).len;rw[putAt,this];simp
variable{c0:c3}
def uW (a:dR e c0=true): ∀b∈c0.kids,fv e b=true:=by simp only[dR,a4L,a4Z]at a;exact a.1.2
def nE (b:fv e w=true):0<=w.size/\(w≠aA->1<=w.size)/\(w.live≠0->w≠aA):=by refine⟨(qH b).2.2.2.2.1,λa=> ?_,λc a=>c (by rw[a];rfl)⟩;simp only[fv,decide_eq_false a,a8Y,a4L,a6n,a8V,decide_eq_false_iff_not]at b;omega
variable{H:ag}
theorem Fl (o:fj H e w=some c0):((c0.kids.filter (ew q b6)).map gz).sum<gz w/\1<=w.size:=by
 have h:=xT o;have z:w.size=c0.rows.length+(c0.kids.map ay.size).sum:=h.size;have k:=h.ok;simp only[dR,a4L]at k;obtain⟨⟨_,c⟩,a⟩:=k;have c:=a4Z.1 c;have d: ∀w∈c0.kids,ew q b6 w=true->1<=w.size:=λw b d=>by
  obtain⟨_,p,r⟩:=nE (c w b);exact p (r (yW d))
 have x: ∀w∈c0.kids,((0:Nat))<=w.size:=λw b=>(nE (c w b)).1;have y:=yV q b6 0 c0.kids d x a9k;rw[show(c0.kids.length)*((0:Nat):Int)=0 from Int.mul_zero _]at y;have C:(gz w)=2*w.size - 1\/w.size<1:=by unfold gz;omega
 split at a;grind;split at a;grind;split at a
 .simp only[a4L,decide_eq_true_eq,a4Z,a6n,decide_eq_false_iff_not]at a;have D:=yV q b6 1 c0.kids d (λw b=>(nE (c w b)).2.1 (a.2 w b).2) a9k;omega
 .cases a
def ed (a:ag) (b:Nat):Nat->ay->Option (List (List Int))
 |0,_=>none
 |c+1,d=>if d.live=0 then some []else match kH a b d with
  |none=>none
  |some (h,bI)=>match ed a b c (bI.getD 0 aA),ed a b c (bI.getD 1 aA)with
   |some k,some o=>some ((if h.2=true then [h.1]else [])++k++o)
   | _,_=>none
def uX {d:List Int×Bool}{o:List ay} (a:kH H e w=some (d,o)): ∃b c,o= [b,c]/\fj H e w=some (cr d b c)/\w.size=1+b.size+c.size/\0<=b.size/\0<=c.size/\d.1.length=e/\w.size<=1048576:=by
 unfold kH at a;split at a
 .cases a
 rename_i y h;split at a
 .rename_i p;simp only[a4S,a5R]at a;obtain⟨rfl,rfl⟩:=a;have k:=EP h;obtain⟨z,C,E⟩:=ER k p;have r:=xT h;obtain⟨F,rows,kids⟩:=y
  dsimp only at*
  obtain⟨d,rfl⟩:=a6I.1 z
  match kids,C with
  | [b,c],_=>have D:=r.size;have x:=uW k;subst p;simp only[a6e,a5f,a6u,a7Q,List.sum_nil]at D;refine⟨b,c,rfl,h,a9k,(nE (x b a9l)).1,(nE (x c a9l)).1,(lh k).1 _ a9l,r.o7⟩
 .cases a
theorem r7 {k:ag}{d:Nat}: ∀ {h:Nat}{c:ay}{b:List (List Int)},ed k d h c=some b->(b.length:Int)<=max 0 c.size/\ ∀o∈b,o.length=d
 |0,_,_,a=>by cases a
 |h+1,c,b,a=>by
  rw[ed]at a;split at a;grind;split at a
  .cases a
  rename_i y z p;split at a
  .rename_i C D r x;obtain rfl:=a4G a;obtain⟨E,F,rfl,_,G,L,P,S,_⟩:=uX p;have T:=r7 r;have V:=r7 x;grind
  .cases a
theorem yX (L A:Nat) (h:ag) (c:Nat) (k0:1<=c) (k1:c<=8): ∀(d:Nat) (z:U) (_:bB z L A h) (p:ay) (P S T:Own),p.sum.length=32->p.cC->p.size.toNat<d->
  AC Tryz.prog 117 [dT L c,.agg (ab p P S T)] z λi C=>z.sub C/\match ed h c d p with
   |none=>i= .aL [.J [] .nil,.v (.int .i64 21)]
   |some rows=> ∃k r,i= .aL [r,.v (.int .i64 0)]/\ar z C 1 k r/\az isRow rows k
 |0,_,_,_,_,_,_,_,_,F=>by omega
 |d+1,z,k2,p,P,S,T,gA,n0,a29=>by
  have a30:=(aW (M:=P) (e6:=S) (h5:=T) gA).all;refine aM hm MG ?_;refine bp λj a34=> ?_;refine cX λk3 a36 a38 a42=> ?_;generalize l:(z.set j _).set k3 _=m;have D:z.sub m:=by subst l;exact aS
  have c2:m j=some (.cells [.ptr L 0,.v (.int .i64 (c))]):=by subst l;exact aS
  have aH:m k3=some (.cells (ab p P S T)):=by subst l;exact aS
  clear l;rw[ed];have a43:=U.af c2;have a47:=U.af aH;refine aG (λn=> ?_) λn=> ?_
  .exact⟨_,U.a1,D,[],.J [] .nil,rfl,ar.nil D,trivial⟩
  rw[if_neg n];refine ai (yn m L A h (k2.mono D) p P S T gA n0 c k0 k1) ?_;rintro i k4 ⟨G,q⟩;cases B:kH h c p with
  |none=>rw[B]at q;obtain rfl:=q;refine aa ?_;refine aN λs V=> ?_;refine aa ?_;exact U.ae (U.au D G) (U.bF (U.au D G) V)
  |some n1=>
   obtain⟨b,a48⟩:=n1;rw[B]at q;obtain⟨x,n2,rfl,a52,a56,k5,H⟩:=q;obtain⟨o,cc,rfl,a57,a61,a62,a63,a65,a68⟩:=uX B;have a69:=fH k5;have t:=bR.dQ k5 a9k rfl (H.cells λ_ _=>bu.cells);have I:=t.len;rw[H.len]at I;have I:fb n2=some (.v (.int .i64 2)):=I;refine aa ?_;refine aN λs V=> ?_;have k6:=G _ _ c2;have n3:j≠s:=by rintro rfl;rw[k6]at V;cases V
   have a71:=n3.symm;have u:=U.ae (Y:= .cells [.J (ad b.1) x,.v (.bool b.2)]) (U.a1) V;have bs:=U.ah k4 s (.cells [.J (ad b.1) x,.v (.bool b.2)]);refine aa ?_;rw[U.set_set];have n4:=u _ _ k6;have t:=t.mono u;have K:=U.au D (U.au G u);have n5:=(k2.mono D).mono (U.au G u);generalize k4.set s _=M at*;have a73:=U.af bs;refine o6 [2,7] (λr:R=> [(9,r)]) (λr C=>M.sub C/\ ∃k,ar M C 1 k r/\az isRow (if b.2=true then [b.1]else []) k) (λn9=> ?_) (λn9=> ?_) ?_
   .refine aa ?_;refine eP (by simp[aT,R.cells]) a9l λa74 a00=> ?_;refine aa ?_;refine ff (ar.nil (U.ae U.a1 a00)) a9k (oo rfl) rfl (by simp[flat,R.cells]) (by simp[flat,R.cells]) λa01 a02 k7=> ?_;refine aa ?_;exact⟨a01,⟨k7.1,_,k7,⟨⟨x,rfl⟩,trivial⟩⟩,rfl⟩
   .refine aa ?_;exact⟨_,⟨[],ar.nil U.a1,trivial⟩,rfl⟩
   rintro r a02 ⟨a81,k,a03,k8⟩ a83;refine aa ?_;obtain⟨own,k9⟩: ∃own,(if b.2=true then [b.1]else [])=own:=⟨_,rfl⟩;have a84:own.length<=1:=by subst k9;split<;>simp
   rw[k9]at k8
   let ac:Nat->List (List Int):=λa=>own++(if 0<a then(ed h c d o).getD []else [])++(if 1<a then(ed h c d cc).getD []else []);refine ch [2,34,35] (λb:Nat×R=> [(36,.v (.int .i64 (b.1))),(9,b.2)]) (λb C=>b.1<=2/\(∃k,ar M C 1 k b.2/\az isRow (ac b.1) k)/\(0<b.1->(ed h c d o).isSome=true)/\(1<b.1->(ed h c d cc).isSome=true)) (λb=>2 - b.1) (0,r) ⟨⟨a9k,⟨k,a03,by simpa[ac] using k8⟩,λF=>absurd F (Nat.lt_irrefl 0),λF=>absurd F a9k⟩,aS⟩ ?_;rintro⟨a,a04⟩ l0 ⟨a05,⟨a06,y,N⟩,O,l1⟩ a86
   dsimp only at a05 y N O l1
   refine aa ?_;refine aG (λn=> ?_) λn=> ?_
   .have a88:a<2:=a9k;obtain⟨_,Q,v,l2,W,e,f,rfl⟩:=H.get (i:=a) (x:= [o,cc].getD a aA) (by simp_all);obtain⟨a07,a89,l3⟩:=t.get a _ Q;have l4:=(aW (M:=W) (e6:=e) (h5:=f) v).all;have a08:dn true 37 l0 a07=some (.agg (ab ([o,cc].getD a aA) W e f)):=by have:=l3.ld l0 y.1 true 37 a9k (by rw[hK];omega);rw[this,aX,if_pos rfl,hK,l4.2.1]
    have a09:=lz (M:=W) (e6:=e) (h5:=f) v;have l5:([o,cc].getD a aA).size.toNat<d:=by
     obtain rfl|rfl:a=0\/a=1:=a9k
     .show o.size.toNat<d;omega
     .show cc.size.toNat<d;omega
    obtain⟨E,X⟩: ∃E,[o,cc].getD a aA=E:=⟨_,rfl⟩;rw[X]at Q v l2 l4 a08 a09 l5;clear l3 Q;refine aa ?_;refine aN λa10 Y=> ?_;have l6:=y.1 _ _ n4;have a11:j≠a10:=by rintro rfl;rw[l6]at Y;cases Y
    have a90:=a11.symm;have Z:=U.ae (Y:= .cells (ab E W e f)) (U.a1) Y;have a92:=U.af l6;refine aa ?_;refine ai (yX L A h c k0 k1 d _ (n5.mono (U.au y.1 Z)) E W e f v l2 l5) ?_;rintro i a94 ⟨l7,w⟩;have a13:ed h c d E=if a=0 then ed h c d o else ed h c d cc:=by
     rw[<-X];obtain rfl|rfl:a=0\/a=1:=a9k
     .rfl
     .rfl
    cases j9:ed h c d E with
    |none=>rw[j9]at w;obtain rfl:=w;refine aa ?_;refine⟨_,U.a1,U.au K (U.au y.1 (U.au Z l7)),?_⟩;grind
    |some iw=>
     rw[j9]at w a13;obtain⟨a95,a96,rfl,l8,l9⟩:=w;obtain⟨a97,a14,a15,a98⟩:=l8.src;have a99:=fH l8;have a16:=y.mono (U.au Z l7);have b00:=N.len;have b01:=l9.len;have b02:=(r7 j9).1;have b03:(ac a).length<=3000000:=by
      have: ∀x:Option (List (List Int)),(∀g,x=some g->g.length<=1048576)->(x.getD []).length<=1048576:=λx F=>by
       cases x with
       |none=>simp
       |some g=>exact F g rfl
      have G:=this (ed h c d o) λg a18=>by have:=(r7 a18).1;omega
      grind
     have b04:E.size<=1048576:=by
      rw[<-X];obtain rfl|rfl:a=0\/a=1:=a9k
      .show o.size<= _;omega
      .show cc.size<= _;omega
     refine aa ?_;refine ff a16 a9k a15 a14 a9k a9k λa19 b05 a27=> ?_;refine aa ?_;refine⟨(a+1,a19),⟨by dsimp only;omega,⟨_,a27,?_⟩,?_,?_⟩,⟨rfl,rfl⟩,by dsimp only;omega⟩
     .have:ac (a+1)=ac a++iw:=by grind
      rw[this];exact N.append l9
     .intro _;obtain rfl|rfl:a=0\/a=1:=a9k;grind
      .exact O a9k
     grind
   .obtain rfl:a=2:=a9k;obtain⟨b06,b07⟩:=a5u.1 (O a9k);obtain⟨b08,b09⟩:=a5u.1 (l1 a9k);refine aa ?_;refine⟨_,U.a1,U.au K y.1,?_⟩;refine⟨a06,a04,rfl,y.base K,?_⟩;grind
end Go.Proofs.YtlgnfcaolejgeaaGreat
namespace Go.bz
open Go
def View.freeze {a:U}{b:R}{c:Nat}{d:List R} (k:a c=some (.cells d)):View a b (a.set c (.ro d)) b:=λx y v o p=>by
 obtain⟨r,h⟩:=Step.freeze o k;exact⟨r,h,p.mono h.le⟩
variable{f t e4:U}{g A e1:List R}{e i v O b9 j1:Nat}
def View.Fm (b:f O=some (.ro g)) (c:e*i<=g.length):View f (.an O e b9 i) f (.J (ef i e g) .any):=λd k v a h=>⟨d,.refl a,aY.frozen a b c h⟩
variable{u:bl}{l h8:World}
theorem aY.frozenAt {v:Value} (h:Holds u f l) (k:f O=some (.ro g)) (S:e+i<=g.length) (o:aY u v (.bx O e i b9 1)):aY u v (.J ((g.drop e).take i) .any):=by
 obtain⟨p,r,T,V,W,d,j⟩:=h.dN O _ k;have m:=d.1;cases o with
 |bx O e i b9 n hk x=>
  have y: ∀b∈g.drop e,b.one=true:=λb z=>p b (a5m z);obtain⟨C,D,E⟩:=vU (i:=i) a9k (by rw[a4Y];omega) y;rw[ku,a5y]at*;by_cases F:i=0
  .subst F;rw[a6D];exact .dh _ _ _ (λG=>by cases G) trivial
  .refine .J O e i b9 1 (λa=>r.getD (e+a) Go.undef) _ .any hk E.symm x C ?_ ?_ ?_ trivial;grind;grind
   .intro a L c;rw[D]at c;have P:a<i:=by grind
    rw[a5H P,a7J]at c;exact d.2 (e+a) L c
def View.a1l (b:f O=some (.ro g)) (c:e+i<=g.length):View f (.bx O e i b9 1) f (.J ((g.drop e).take i) .any):=λd k v a h=>⟨d,.refl a,aY.frozenAt a b c h⟩
end Go.bz
namespace Go.Proofs.YtlgnfcaolejgeaaGreat
open Go Go.bz
theorem a1m (p:List (List Int)) (a:List R) (c:Own) (b:U) (d:az isRow p a) (F:p.length<=4000000):
  AC Tryz.prog 311 [.J a c] b λr h=>ar b h 1 a r:=by
 have G:=d.len;refine mV λL=> ?_;have x:c= .nil->a= []:=λk=>by subst k;simp_all
 refine bc hm RK a9l ?_;simp -dsimp -implicitDefEqProofs (disch:=first|omega|assumption|(simp only[bk,Nat.reduceAdd];try omega)) only[go_sem,simprocAttr,↓o8];refine o9 (λo=>by rw[x o]) (λo=> ?_) ?_
 .have y:a= []:=by trivial
  subst y;simp -dsimp -implicitDefEqProofs (disch:=first|omega|assumption|(simp only[bk,Nat.reduceAdd];try omega)) only[go_sem,simprocAttr,a5C];exact⟨b,U.a1,ar.nil U.a1⟩
 .simp -dsimp -implicitDefEqProofs (disch:=first|omega|assumption|(simp only[bk,Nat.reduceAdd];try omega)) only[go_sem,simprocAttr,o0];have z:bN b 1 (.J a c)=some (a.length,a):=by have C:=d.flat;have D:=a4Z.2 λk E=>decide_eq_true (d.cells (λ_ _=>isRow.cells) k E);simp only[bN,D,if_true,C]
  refine ff (ar.zero (U.a1)) a9k z a9k a9m a9m λr h o=> ?_;simp -dsimp -implicitDefEqProofs (disch:=first|omega|assumption|(simp only[bk,Nat.reduceAdd];try omega)) only[go_sem,simprocAttr];exact⟨h,U.a1,by trivial⟩
variable{n b3:R}{f t e4:U}{Q:List (List Int)}{g A e1:List R}{e i v O b9 j1:Nat}
theorem Fo {y:List Int->List Int->Int} (l:nC e y) {z:List (List Int)} (C:ar t e4 1 g n) (D:az isRow Q g) (m: ∀h∈Q,h.length=e) (X:Q.length<=4000000) (P:Q≠ [])
  (S:z.Perm Q) (q:z.Pairwise (λn p=> ¬y p n<0)) (r:FuncId) (E:List R) (F:f.sub e4) (s: ∀p,f p=none\/ ∃u,f p=some (.ro u)) (v:gf Tryz.prog r=true)
  (w: ∀b G x A,b.length=e->G.length=e->AC Tryz.prog r ([.J (ad b) x,.J (ad G) A]++E) f λh _=>h= .v (.int .i64 (y b G))):
  ∃c k,n= .an c Q.length k 1/\Q.length<=k/\AC Tryz.prog 118 [n,.bG r [] E] e4 λh o=>h= .aL []/\t.sub o/\f.sub o/\ ∃d T,az isRow z d/\o c=some (.ro (d++T))/\ar t (o.set c (.cells (d++T))) 1 d n:=by
 obtain⟨c,B,k,V,rfl,L,H,I,W,K,i,M⟩:=C.an (λY=>P (by have:=D.len;grind));rw[a5y]at I W K;have Z:=D.len;obtain rfl:B=Q.length:=a9k;have N:=a5P.2 P;refine⟨c,k,rfl,i,?_⟩;refine(a1h l H D rfl W a9k N m S q r E F s v w).view λh o O=> ?_;obtain⟨rfl,d,j,rfl⟩:=O;have j9:=j.len;have k0:=S.length_eq;refine⟨.aL [],_,View.freeze (U.ah _ _ _),rfl,?_,?_,d,V.drop Q.length,j,U.ah _ _ _,?_⟩
 .rw[U.set_set];intro b x a;have:b≠c:=by rintro rfl;rw[L]at a;cases a
  rw[U.ao _ _ this];exact C.1 _ _ a
 .rw[U.set_set];intro b x a;have:b≠c:=by rintro rfl;have:=F _ _ a;grind
  rw[U.ao _ _ this];exact F _ _ a
 .rw[U.set_set,U.set_set];refine⟨λb x a=> ?_,.inr ⟨c,Q.length,k,d++V.drop Q.length,rfl,L,U.ah _ _ _,?_,?_,?_,i,M⟩⟩
  .have:b≠c:=by rintro rfl;rw[L]at a;cases a
   rw[U.ao _ _ this];exact C.1 _ _ a
  simp_all;simp_all
  .omega
end Go.Proofs.YtlgnfcaolejgeaaGreat
namespace Go.bz
open Go
variable{s a7:R -> U -> Prop}{b5:FuncId}{f t e4:U}{g A e1:List R}{e i v O b9 j1:Nat}{m:Program}
def AC.fz (b:f e=some (.cells A)) (c:AC m b5 g (f.set e (.ro A)) s):AC m b5 g f s:=
 c.pre λo p r d h=>by
  obtain⟨k,a⟩:=Step.freeze h b;exact⟨k,d.mono a.le,a⟩
def U.one (a:Nat) (b:br):U:=λc=>if c=a then some b else none
variable{Y:br}
def U.a1n:U.one e Y e=some Y:=by simp[U.one]
theorem U.one_sub (b:f e=some Y):(U.one e Y).sub f:=λc d a=>by
 unfold U.one at a;simp_all
theorem U.a1o: ∀a,U.one e (.ro g) a=none\/ ∃b,U.one e (.ro g) a=some (.ro b):=λa=>by
 unfold U.one;grind
end Go.bz
namespace Go.Proofs.YtlgnfcaolejgeaaGreat
open Go Go.bz
variable{n b3:R}{f t e4:U}{Q:List (List Int)}{g A e1:List R}{e i v O b9 j1:Nat}
theorem a1p {k:List (List Int)} (o:ar t e4 1 g n) (y:e4.sub f) (z:az isRow Q g) (C: ∀a∈Q,a.length=v) (D:Q.length<=4000000) (E:Q≠ []) (w:e<v) (A:v<=8)
  (F:k.Perm Q) (G:k.Pairwise (λn L=> ¬cK e L n<0)) (P:f i=some (.cells [.v (.int .i64 (e:Int))])) (p:e4 i=none):
  ∃b d,n= .an b Q.length d 1/\Q.length<=d/\AC Tryz.prog 118 [n,.bG 336 [] [.ptr i 0]] f λa c=>a= .aL []/\t.sub c/\ ∃h r,az isRow k h/\c b=some (.ro (h++r))/\ar t (c.set b (.cells (h++r))) 1 h n:=by
 have S:=U.bF o.1 p;have T:cO n≠some i:=λV=>ar.has o V p;have W:=ar.other (o.mono y) (o:= .ro [.v (.int .i64 (e))]) S T;obtain⟨b,d,rfl,j,l⟩:=Fo (pH v e) W z C D E F G 336 [.ptr i 0] (U.one_sub (U.ah f i (.ro [.v (.int .i64 (e:Int))]))) U.a1o a9q (λm q s u B H=>(EF m q s u e _ i (by simp[U.read,U.a1n]) a9k a9k a9k).mono λa c x=>x.2);refine⟨b,d,rfl,j,AC.fz P (l.mono λa c x=> ?_)⟩;simp_all
def iJ (b:Nat):Nat->ag->List (List Int)->Nat->Except Int ay×ag
 |0,c,_,_=>(.ok aA,c)
 |o+1,c,a,dep=>if a= []then(.ok aA,c)else
  match iJ b o c ((ec (dep%b) a).take (a.length/2)) (dep+1)with
  |(.error d,h)=>(.error d,h)
  |(.ok p,h)=>match iJ b o h ((ec (dep%b) a).drop (a.length/2+1)) (dep+1)with
   |(.error d,k)=>(.error d,k)
   |(.ok r,k)=>dv k b (cr ((ec (dep%b) a).getD (a.length/2) [],true) p r)
def oI (h a:U) (b c:Nat) (d:Except Int ay×ag) (k:R):Prop:=bB a b c d.2/\Ext b c h a/\ha d.1 k
theorem ha.z:ha (.ok aA) (.aL [.agg (ab aA .nil .nil .nil),.v (.int .i64 0)]):=⟨bj,me,_,_,_,rfl⟩
theorem oI.z {a b:U}{c d:Nat}{h:ag} (o:bB a c d h) (k:a.sub b):oI a b c d (.ok aA,h) (.aL [.agg (ab aA .nil .nil .nil),.v (.int .i64 0)]):=⟨o.mono k,Ext.of k,ha.z⟩
theorem Fp (a c:Nat) (h:Nat) (k:Own) (o:Nat) (b:U) (d:ag) (x:bB b a c d):
  AC Tryz.prog 247 [dT a h,.J [] k,.v (.int .i64 (o:Int))] b λp r=>oI b r a c (.ok aA,d) p:=by
 refine aM hm Bq ?_;refine bp λy z=> ?_;refine cX λC D E F=> ?_;refine⟨_,U.a1,?_⟩;grind[cq,List.take_of_length_le,aW,bj,oI.z,U.ae,U.a1]
theorem yY (d C:Nat) (c:Nat) (i:1<=c) (j:c<=8): ∀(k:Nat) (b:List (List Int)) (D:List R) (G:Own) (dep:Nat) (r:U) (o:ag),bB r d C o->az isRow b D->(∀h∈b,h.length=c)->b.length<=k->k<=4000000->dep+k<=100000000->
  AC Tryz.prog 247 [dT d c,.J D G,.v (.int .i64 (dep:Int))] r λh a16=>oI r a16 d C (iJ c k o b dep) h
 |0,b,D,G,dep,r,o,L,P,B,a18,_,_=>by
  obtain rfl:b= []:=a4N a9k;obtain rfl:D= []:=a4N P.len;exact Fp d C c G dep r o L
 |k+1,b,D,G,dep,r,o,L,P,B,a18,a97,a98=>by
  have a99:=P.len;by_cases H:b= []
  .subst H;obtain rfl:D= []:=a4N P.len;rw[iJ,if_pos rfl];exact Fp d C c G dep r o L
  have b00:=a5P.2 H;have b01: ¬(b.length:Int)=0:=a9k;have a19:=a6L dep i;have j9:=iJ.eq_2 c o b dep k;rw[if_neg H]at j9;generalize iJ c (k+1) o b dep=b02 at j9;obtain⟨l6,a27⟩:=sV (e:=dep%c) B;have b03:=pz (dep%c) b;have l7:=λh l=>B h (l6.mem_iff.1 l);generalize ec (dep%c) b=E at*;refine aM hm Bq ?_;refine bp λl8 a29=> ?_;refine cX λm I b04 b05=> ?_;generalize K:(r.set l8 _).set m _=M;have l9:r.sub M:=by subst K;exact aS
  have aH:M l8=some (.cells [.ptr d 0,.v (.int .i64 (c))]):=by subst K;exact aS
  have bs:M m=some (.cells (ab aA .nil .nil .nil)):=by subst K;rw[<-cq];exact aS
  clear K;have k0:=L.mono l9;refine ai (a1m b D G M P a9k) ?_;intro b06 a30 k1;refine aa ?_;have n0:=U.af (k1.1 _ _ aH);refine aa ?_;refine ai (EG d c dep i a9k j a30) ?_;rintro _ b07 ⟨n1,b08,S,n2,rfl⟩;refine aa ?_;obtain⟨z,p,rfl,a34,n3⟩:=a1p k1 n1 P B a9k H a19 j l6 a27 S n2;refine ai n3 ?_;rintro _ k2 ⟨rfl,n,F,k3,N,n4,n5⟩;have n9:=ar.fresh n5 rfl;clear n5;have b09:=N.len;have a36:=k0.mono n;have b10:=U.af (n _ _ aH);clear n3 k1 S n2 n1 n0;have b11:(b.length:Int).tdiv 2=((b.length/2:Nat)):=rfl;have b12:cg 1 (.an z b.length p 1) none (some (.v (.int .i64 ((b.length/2:Nat))))) none=some (.an z (b.length/2) p 1):=hL a9k;generalize b13:b.length/2=a at*;have b14:a<b.length:=a9k;refine aa ?_;have b15:(F++k3).length=p\/True:= .inr trivial;have a38:(dep)+1=((dep+1:Nat):Int):=rfl;rw[a38];have a42:View k2 (.an z a p 1) k2 (.J (F.take a) .any):=by have:=View.Fm (e:=a) (b9:=p) (i:=1) n4 (by rw[a4J];omega);rwa[ku,a6i a9k]at this
  refine ai (AC.nq (g:= [dT d c]) a42 (yY d C c i j k (E.take a) (F.take a) .any (dep+1) k2 o a36 (N.take a) (λh l=>l7 h (a4V l)) (by rw[a4K];omega) a9k a9k)) ?_;rintro h a00 ⟨O,Q,k4⟩;generalize b16:iJ c k o (E.take a) (dep+1)=qq at*;obtain⟨a43,a01⟩:=qq
  dsimp only at O k4
  have X:=L.cE a29;have x:=L.cE I;have Y:=k0.cE n9;have a02:=Q _ _ X.1 X.2 (n _ _ aH);have Z:=Q _ _ x.1 x.2 (n _ _ bs);have a47:=Q _ _ Y.1 Y.2 n4;have a03:=((Ext.of (U.au l9 n)).trans Q);cases a43 with
  |error a04=>
   obtain⟨k5,rfl⟩:=k4;refine aa ?_;refine aN λq y=> ?_;have k6:q≠m:=by rintro rfl;rw[Z]at y;cases y
   have a48:=k6.symm;have a52:=(aW (M:= .nil) (e6:= .nil) (h5:= .nil) bj).all;have a56:=lz (M:= .nil) (e6:= .nil) (h5:= .nil) bj;refine aa ?_;have a57:=U.aI Z;have a61:=cD (a:= .nil) (b:= .nil) (c:= .nil) (M:= .nil) (e6:= .nil) (h5:= .nil) bj bj;rw[cq];refine aa ?_;refine⟨_,U.a1,?_⟩;exact⟨(O.mono (U.ae U.a1 y)).set x,(a03.trans (Ext.of (U.ae U.a1 y))).dV I,k5,rfl⟩
  |ok k7=>
   obtain⟨k8,a62,s,t,u,rfl⟩:=k4;refine aa ?_;refine aN λq y=> ?_;have k6:q≠m:=by rintro rfl;rw[Z]at y;cases y
   have a48:=k6.symm;have b17:=(aW (M:=s) (e6:=t) (h5:=u) k8).all;have b18:=lz (M:=s) (e6:=t) (h5:=u) k8;refine aa ?_;have T:=U.ae (Y:= .cells (ab k7 s t u)) (U.a1) y;have cW:=U.ah a00 q (.cells (ab k7 s t u));have a63:=O.mono T;have n0:=U.af (T _ _ a02);have a05:=T _ _ a47;have a65:=T _ _ Z;have a68:=T _ _ a02;have a69:=a03.trans (Ext.of T);rw[U.set_set];generalize a00.set q _=k9 at*;have a06: ∃v,cg 1 (.an z b.length p 1) (some (.v (.int .i64 ((a:Int)+1)))) none none=some v/\View k9 v k9 (.J (F.drop (a+1)) .any):=by
    by_cases S:a+1<p
    .refine⟨_,gk (e:=a+1) a9k a34 S,?_⟩;rw[a5y];have:=View.a1l (e:=a+1) (i:=b.length -(a+1)) (b9:=p -(a+1)) a05 (by rw[a4J];omega);grind
    .have a71:b.length=p:=a9k;have b19:a+1=b.length:=a9k;refine⟨_,by have:=tP (i:=1) (O:=z) (e2:= .i64) a71;rw[show(a)+1=(b.length:Int) by omega];exact this,?_⟩;rw[a5v a9k];exact View.J
   obtain⟨l0,a06,a73⟩:=a06;refine aa ?_;refine ai (AC.nq (g:= [dT d c]) a73 (yY d C c i j k (E.drop (a+1)) (F.drop (a+1)) .any (dep+1) k9 a01 a63 (N.drop (a+1)) (λh l=>l7 h (a5m l)) (by rw[a4Y];omega) a9k a9k)) ?_;rintro h l1 ⟨l2,w,l3⟩;generalize b20:iJ c k a01 (E.drop (a+1)) (dep+1)=mY at*;obtain⟨cF,o5⟩:=mY
   dsimp only at l2 l3 j9
   have b21:=k0.cE n9;have a07:=O.cE y;have a74:=w _ _ X.1 X.2 a68;have l4:=w _ _ x.1 x.2 a65;have a81:=w _ _ Y.1 Y.2 a05;have a83:=w _ _ a07.1 a07.2 cW;have a08:=a69.trans w;cases cF with
   |error a04=>
    obtain⟨k5,rfl⟩:=l3;refine aa ?_;refine aN λA V=> ?_;have a84:A≠m:=by rintro rfl;rw[l4]at V;cases V
    have b22:=a84.symm;have a52:=(aW (M:= .nil) (e6:= .nil) (h5:= .nil) bj).all;have a56:=lz (M:= .nil) (e6:= .nil) (h5:= .nil) bj;have a57:=U.aI l4;have a61:=cD (a:= .nil) (b:= .nil) (c:= .nil) (M:= .nil) (e6:= .nil) (h5:= .nil) bj bj;refine aa ?_;rw[cq];refine aa ?_;refine⟨_,U.a1,?_⟩;exact⟨(l2.mono (U.ae U.a1 V)).set x,(a08.trans (Ext.of (U.ae U.a1 V))).dV I,k5,rfl⟩
   |ok cc=>
    obtain⟨l5,a86,W,e,f,rfl⟩:=l3;refine aa ?_;refine aN λA V=> ?_;have b23:=(aW (M:=W) (e6:=e) (h5:=f) l5).all;have b24:=lz (M:=W) (e6:=e) (h5:=f) l5;refine aa ?_;rw[U.set_set];have g:=U.ae (Y:= .cells (ab cc W e f)) (U.a1) V;have b25:=U.af (U.ah l1 A (.cells (ab cc W e f)));have a88:=l2.mono g;have b26:=U.af (g _ _ a74);have b27:=U.af (g _ _ a83);have b28:(l1.set A (.cells (ab cc W e f))).read z=some (F++k3):=by have:=g _ _ a81;simp only[U.read,this]
    have a89:=g _ _ l4;have a90:=a08.trans (Ext.of g);generalize l1.set A _=a92 at*;obtain⟨_,a94,a09,rfl⟩:=N.get (i:=a) (x:=E.getD a []) (by simp_all);have b29:cP 1 (.an z b.length p 1) (.v (.int .i64 (a)))=some (.ptr z (a*1)):=by grind[jH,Int.toNat_natCast]
    have b30:aX false 1 (List.drop a (F++k3))= .J (ad (E.getD a [])) a09:=by obtain⟨a95,S⟩:=a4P.1 a94;rw[a6j a9k,a5e a95,S];rfl
    refine aa ?_;refine ai (uE a92 d C o5 a88 (E.getD a [],true) k7 cc a09 s t u W e f c i j k8 l5 a62 a86) ?_;rintro h b31 ⟨a96,a10,a11⟩;have b32:=U.aI (a10 _ _ x.1 x.2 a89);obtain⟨b33,a13,l0,a14,a04,a15,rfl⟩:=a11.shape;have b34:=(aW (M:=a13) (e6:=l0) (h5:=a14) a15).all;have b35:=cD (a:= .nil) (b:= .nil) (c:= .nil) (M:=a13) (e6:=l0) (h5:=a14) bj a15;have b36:=(aW (M:= .nil) (e6:= .nil) (h5:= .nil) bj).len;refine aa ?_;refine⟨_,U.a1,?_⟩;exact⟨a96.set x,(a90.trans a10).dV I,a11⟩
def mq (a:ag) (b:Nat) (c:ay) (h:Nat):Except Int ay×ag:=
 match ed a b (c.size.toNat+1) c with
 |none=>(.error 21,a)
 |some d=>iJ b d.length a d h
def Fq (k:U) (d x:Nat) (c:ag) (o:bB k d x c) (a:ay) (E F G:Own) (e:a.sum.length=32) (A:a.cC) (b:Nat) (f:1<=b) (g:b<=8) (h:Nat) (Z:h<=10000000) (j9:a.size<=4000000):
  AC Tryz.prog 159 [dT d b,.agg (ab a E F G),.v (.int .i64 (h:Int))] k λL B=>oI k B d x (mq c b a h) L:=by
 have k0:=(aW (M:=E) (e6:=F) (h5:=G) e).all;have i:mq c b a h=match ed c b (a.size.toNat+1) a with
  |none=>(.error 21,c)
  |some p=>iJ b p.length c p h:=rfl
 generalize mq c b a h=k1 at*;refine aM hm NU ?_;refine bp λj k2=> ?_;refine cX λH k3 k4 k5=> ?_;refine hp λl y a3 a4 a5 ds=> ?_;generalize z:((k.set j _).set H _).set l _=C;have r:k.sub C:=by subst z;exact aS
 have aH:C j=some (.cells [.ptr d 0,.v (.int .i64 (b))]):=by subst z;exact aS
 have bm:C l=some (.cells (ab aA .nil .nil .nil)):=by subst z;rw[<-cq];exact aS
 clear z;refine ai (yX d x c b f g (a.size.toNat+1) C (o.mono r) a E F G e A a9k) ?_;rintro L k6 ⟨P,D⟩;cases S:ed c b (a.size.toNat+1) a with
 |none=>rw[S]at D i;obtain rfl:=D;have I:=(aW (M:= .nil) (e6:= .nil) (h5:= .nil) bj).all;have k7:=cD (a:= .nil) (b:= .nil) (c:= .nil) (M:= .nil) (e6:= .nil) (h5:= .nil) bj bj;have K:=U.aI (P _ _ bm);refine aa ?_;refine⟨_,U.a1,?_⟩;rw[cq,a4I (by rw[I.1];omega)];exact⟨((o.mono r).mono P).set (o.cE y),((Ext.of r).trans (Ext.of P)).dV y,a9o,rfl⟩
 |some p=>rw[S]at D i;obtain⟨M,k8,rfl,m,T⟩:=D;have n:=m;have k9:=U.af (m.1 _ _ aH);rw[<-T.flat]at n;obtain⟨N,O,V⟩:=ar.DI n T;obtain⟨l0,Q⟩:=r7 S;have W:=o.cE y;have l1:=(aW (M:= .nil) (e6:= .nil) (h5:= .nil) bj).len;refine aa ?_;have X:=AC.nq (m:=Tryz.prog) (g:= [dT d b]) O (yY d x b f g p.length p M .any h N c (((o.mono r)).mono V) T Q a9k a9k a9k);refine ai X ?_;rintro L l2 ⟨Y,q,s⟩;obtain⟨l3,t,u,v,l4,w,rfl⟩:=s.shape;have K:=U.aI (q _ _ W.1 W.2 (V _ _ bm));have l5:=(aW (M:=t) (e6:=u) (h5:=v) w).all;have l6:=cD (a:= .nil) (b:= .nil) (c:= .nil) (M:=t) (e6:=u) (h5:=v) bj w;refine aa ?_;refine⟨_,U.a1,?_⟩;exact⟨Y.set W,(((Ext.of r).trans (Ext.of V)).trans q).dV y,s⟩
end Go.Proofs.YtlgnfcaolejgeaaGreat
namespace Go.bz
open Go
section
end
end Go.bz
namespace Go.Proofs.YtlgnfcaolejgeaaGreat
open Go Go.bz
def mr (k:ag) (c:Nat) (o:List Int×Bool) (d h:ay) (p:Nat):Except Int ay×ag:=
 match dv k c (cr o d h)with
 |(.error r,a)=>(.error r,a)
 |(.ok b,a)=>if(2*b.size).tdiv 3+1<max d.size h.size then mq a c b p else(.ok b,a)
def ji (b:Nat) (h:List Int):Nat->ag->ay->Nat->Except Int ay×ag
 |0,a,_,_=>(.error 21,a)
 |r+1,a,k,dep=>if k=aA then dv a b (cr (h,true) k k)else match kH a b k with
  |none=>(.error 21,a)
  |some (d,bI)=>if d.1=h then(if d.2=true then(.error 8,a)else mr a b (d.1,true) (bI.getD 0 aA) (bI.getD 1 aA) dep)
   else if cK (dep%b) h d.1<0 then match ji b h r a (bI.getD 0 aA) (dep+1)with
    |(.error o,c)=>(.error o,c)
    |(.ok p,c)=>mr c b d p (bI.getD 1 aA) dep
   else match ji b h r a (bI.getD 1 aA) (dep+1)with
    |(.error o,c)=>(.error o,c)
    |(.ok p,c)=>mr c b d (bI.getD 0 aA) p dep
variable{w j3:ay}{e i v O b9 j1:Nat}{H:ag}
theorem Fs {h:ag}{k:List Int×Bool}{b:ay} (a:dv H e (cr k w j3)=(.ok b,h)):b.size=1+w.size+j3.size/\0<=w.size/\0<=j3.size/\b.size<=1048576:=by
 unfold dv at a;split at a
 .simp_all
 .rename_i p o;simp only[a5R,Except.ok.injEq]at a;obtain⟨rfl,_⟩:=a;have c:=ur o;have d:=uW c.ok;have:=c.size;simp only[cr,a6e,a5f,a6u,a7Q,List.sum_nil]at this;exact⟨a9k,(nE (d w (by simp[cr]))).1,(nE (d j3 (by simp[cr]))).1,c.o7⟩
structure jj (cs:List R) (a b:ay):Prop where
 len:74<=cs.length
 bW:a.sum.length=32
 pI:a.cC
 cv:b.sum.length=32
 lY:b.cC
 cs: ∃nx ny c d h k r,cs=ab a nx ny c++(ab b d h k++r)
variable{n b3:R}{f t e4:U}{g A e1:List R}
theorem jj.of {s:U} (p:ar f s 37 (flat g) n) (r:az bu [w,j3] g): ∃a o b,n= .an a 2 o 37/\f a=none/\s a=some (.cells b)/\jj b w j3:=by
 match g,r with
 | [_,_],⟨⟨bW,pI,nx,ny,c,rfl⟩,⟨cv,lY,d,h,k,rfl⟩,_⟩=>
  have F:=(aW (M:=nx) (e6:=ny) (h5:=c) bW).len;have G:=(aW (M:=d) (e6:=h) (h5:=k) cv).len;have x:flat [R.agg (ab w nx ny c),.agg (ab j3 d h k)]=ab w nx ny c++ab j3 d h k:=by simp[flat,R.cells]
  rw[x]at p;obtain⟨a,y,o,b,rfl,z,C,L,D,E,P,_⟩:=p.an (λS=>by simp_all);rw[a4J]at E;obtain rfl:y=2:=a9k;refine⟨a,o,b,rfl,z,C,a9k,bW,pI,cv,lY,nx,ny,c,d,h,k,b.drop 74,?_⟩;rw[<-a4U,<-D,a5p]
theorem jj.ld (p:jj g j3 w): ∃h k o b c d,aX true 37 g= .agg (ab j3 h k o)/\aX true 37 (g.drop 37)= .agg (ab w b c d)/\aX false 1 (g.drop 35)= .v (.int .i64 j3.size)/\aX false 1 (g.drop 72)= .v (.int .i64 w.size):=by
 obtain⟨h,k,o,b,c,d,r,rfl⟩:=p.cs;have y:=(aW (M:=h) (e6:=k) (h5:=o) p.bW).len;have D:=(aW (M:=b) (e6:=c) (h5:=d) p.cv).len;have z: ∀a,a<=37->(ab j3 h k o++(ab w b c d++r)).drop a=(ab j3 h k o).drop a++(ab w b c d++r):=λa C=>a6j a9k;have x: ∀a,a<=37->(ab j3 h k o++(ab w b c d++r)).drop (37+a)=(ab w b c d).drop a++r:=λa C=>by
  rw[<-a5w,a7G y,a6j a9k]
 refine⟨h,k,o,b,c,d,?_,?_,?_,?_⟩
 .simp only[aX,if_true];simp_all
 .rw[x 0 a9k,a6N];simp only[aX,if_true];simp_all
 .rw[z 35 a9k,(aW p.bW).d35];rfl
 .rw[x 35 a9k,(aW p.cv).d35];rfl
variable{M e6 h5:Own}
theorem jj.Ft {k:ay} (a:jj g k j3) (o:w.sum.length=32) (y:w.cC):jj (putAt g 0 (ab w M e6 h5)) w j3:=by
 obtain⟨p,r,x,b,c,d,h,rfl⟩:=a.cs;have C:=(aW (M:=p) (e6:=r) (h5:=x) a.bW).len;have D:=(aW (M:=b) (e6:=c) (h5:=d) a.cv).len;have E:=(aW (M:=M) (e6:=e6) (h5:=h5) o).len;have z:putAt (ab k p r x++(ab j3 b c d++h)) 0 (ab w M e6 h5)=ab w M e6 h5++(ab j3 b c d++h):=by simp_all [putAt]
 rw[z];exact⟨by simp only[a4J];omega,o,y,a.cv,a.lY,_,_,_,_,_,_,h,rfl⟩
theorem jj.Fu {k:ay} (a:jj g j3 k) (o:w.sum.length=32) (y:w.cC):jj (putAt g 37 (ab w M e6 h5)) j3 w:=by
 obtain⟨b,c,d,p,r,x,h,rfl⟩:=a.cs;have C:=(aW (M:=b) (e6:=c) (h5:=d) a.bW).len;have D:=(aW (M:=p) (e6:=r) (h5:=x) a.cv).len;have E:=(aW (M:=M) (e6:=e6) (h5:=h5) o).len;have z:putAt (ab j3 b c d++(ab k p r x++h)) 37 (ab w M e6 h5)=ab j3 b c d++(ab w M e6 h5++h):=by grind[putAt,List.take_left',List.drop_drop,List.drop_left',List.append_assoc]
 rw[z];exact⟨by simp only[a4J];omega,a.bW,a.pI,o,y,_,_,_,_,_,_,h,rfl⟩
set_option maxHeartbeats 1600000 in
theorem Fv (h C:Nat) (a:Nat) (k5:1<=a) (O:a<=8) (c:List Int) (j:Own) (a11:c.length=a): ∀(T:Nat) (l:U) (p:ag) (_:bB l h C p) (k:ay) (r x y:Own) (dep:Nat),k.sum.length=32->k.cC->k.size.toNat<T->dep+T<=4000000->
  AC Tryz.prog 152 [dT h a,.agg (ab k r x y),.J (ad c) j,.v (.int .i64 (dep:Int))] l λQ D=>oI l D h C (ji a c T p k dep) Q
 |0,l,p,W,k,r,x,y,dep,gA,X,a95,a96=>by omega
 |T+1,l,p,W,k,r,x,y,dep,gA,X,a95,a96=>by
  have a97:=(aW (M:=r) (e6:=x) (h5:=y) gA).all;have b:=(ji.eq_2 a c p k dep T).symm;generalize ji a c (T+1) p k dep=a13 at*;refine aM hm NG ?_;refine bp λv a98=> ?_;refine cX λz n3 b39 b40=> ?_;refine hp λw m a3 a4 a5 ds=> ?_;generalize k6:((l.set v _).set z _).set w _=n;have Y:l.sub n:=by subst k6;exact aS
  have aJ:n v=some (.cells [.ptr h 0,.v (.int .i64 (a))]):=by subst k6;exact aS
  have bm:n z=some (.cells (ab k r x y)):=by subst k6;exact aS
  have bt:n w=some (.cells (ab aA .nil .nil .nil)):=by subst k6;rw[<-cq];exact aS
  clear k6;have b41:=U.af aJ;have b42:=U.af bm;have l6:=W.mono Y;have Z:=W.cE a98;have j9:=W.cE n3;have d:=W.cE m;by_cases k7:k=aA
  .subst k7;refine bh (nk aA r x y n gA X) ?_;refine ai (uE n h C p l6 (c,true) aA aA j r x y r x y a k5 O gA gA X X) ?_;rintro Q b43 ⟨a99,a14,a15⟩;obtain⟨b00,k8,k9,l0,l1,l2,rfl⟩:=a15.shape;have l7:=U.aI (a14 _ _ d.1 d.2 bt);have b01:=(aW (M:=k8) (e6:=k9) (h5:=l0) l2).all;have A:=(aW (M:= .nil) (e6:= .nil) (h5:= .nil) bj).len;have B:=cD (a:= .nil) (b:= .nil) (c:= .nil) (M:=k8) (e6:=k9) (h5:=l0) bj l2;rw[if_pos rfl]at b;refine aa ?_;refine⟨_,U.a1,?_⟩;rw[<-b];exact⟨a99.set d,((Ext.of Y).trans a14).dV m,a15⟩
  rw[if_neg k7]at b;refine bh (nk k r x y n gA X) ?_;generalize a16:bS (Ctx.of Tryz.prog) (dH.seq (dH.block 0 _) _)=b44;refine ai (yn n h C p l6 k r x y gA X a k5 O) ?_;rintro Q a18 ⟨H,l8⟩;cases n4:kH p a k with
  |none=>
   rw[n4]at l8 b;obtain rfl:=l8
   dsimp only at b
   refine aa ?_;refine aN λe V=> ?_;have b02:e≠w:=by rintro rfl;rw[H _ _ bt]at V;cases V
   have b45:=b02.symm;have l7:=U.aI (H _ _ bt);subst a16;have A:=(aW (M:= .nil) (e6:= .nil) (h5:= .nil) bj).len;have B:=cD (a:= .nil) (b:= .nil) (c:= .nil) (M:= .nil) (e6:= .nil) (h5:= .nil) bj bj;refine aa ?_;refine⟨_,U.a1,?_⟩;rw[<-b,cq,a4I (by rw[A];omega)];exact⟨((l6.mono H).mono (U.ae U.a1 V)).set d,(((Ext.of Y).trans (Ext.of H)).trans (Ext.of (U.ae U.a1 V))).dV m,a9o,rfl⟩
  |some b03=>
   obtain⟨o,b46⟩:=b03;rw[n4]at l8 b;obtain⟨E,b47,rfl,b48,b49,b04,b05⟩:=l8;obtain⟨l9,cc,rfl,b50,b51,b52,b53,b06,b54⟩:=uX n4;obtain⟨k0,b55,F,rfl,f,a19,g⟩:=jj.of b04 b05;refine aa ?_;refine aN λe V=> ?_;refine aa ?_;have a27:=U.ae (Y:= .cells [.J (ad o.1) E,.v (.bool o.2)]) (U.a1) V;have cf:=U.ah a18 e (.cells [.J (ad o.1) E,.v (.bool o.2)]);have l3:=U.au H a27;have n5:=l3 _ _ aJ;have a29:=l3 _ _ bm;have n9:=l3 _ _ bt;have a30:=a27 _ _ a19;have a00:=l6.mono l3;have a01:=(Ext.of (l:=h) (lM:=C) Y).trans (Ext.of l3);have a02:=U.bF Y (U.bF H V);have n0:=U.bF Y f;have b56:k0≠e:=by rintro rfl;rw[a19]at V;cases V
   generalize a18.set e _=k1 at*;subst a16;refine p7 [2,3,4,5,8,10,11] (λ_:(List Int×Bool)×ay×ay×ag=> []) (λi D=>mr i.2.2.2 a i.1 i.2.1 i.2.2.1 dep=a13/\bB D h C i.2.2.2/\Ext h C l D/\(∃E,D e=some (.cells [.J (ad i.1.1) E,.v (.bool i.1.2)]))/\(∃F,D k0=some (.cells F)/\jj F i.2.1 i.2.2.1)/\D v=some (.cells [.ptr h 0,.v (.int .i64 (a))])/\D z=some (.cells (ab k r x y))/\D w=some (.cells (ab aA .nil .nil .nil))) ?_ ?_
   .have b07:=U.af cf;have b08:=U.af n5;refine aa ?_;simp only[a5q,a5s]at b;have b57:=cf;by_cases a03:o.1=c
    .rw[if_pos a03]at b;refine bh (lj o.1 c E j k1 a9k) ?_;cases a34:o.2 with
     |true=>rw[if_pos a34]at b;have A:=(aW (M:= .nil) (e6:= .nil) (h5:= .nil) bj).len;have B:=cD (a:= .nil) (b:= .nil) (c:= .nil) (M:= .nil) (e6:= .nil) (h5:= .nil) bj bj;have l7:=U.aI n9;refine aa ?_;refine⟨_,U.a1,?_⟩;rw[<-b,cq,a4I (by rw[A];omega)];exact⟨a00.set d,a01.dV m,a9o,rfl⟩
     |false=>
      rw[if_neg (by rw[a34];decide)]at b;refine aa ?_;refine bh (lj c c E j k1 a9k) ?_;have b58:=U.aI cf;refine aa ?_;have b09:v≠e:=by grind
      have b10:z≠e:=by grind
      have b11:w≠e:=by rintro rfl;exact absurd (H _ _ bt) (by rw[V];simp)
      refine⟨((o.1,true),l9,cc,p),b,a00.set (W.cE a02),a01.dV a02,⟨E,by rw[a03]⟩,⟨F,rfl,g⟩,?_,?_,?_⟩
      .rw[U.ao _ _ b09];exact n5
      .rw[U.ao _ _ b10];exact a29
      .rw[U.ao _ _ b11];exact n9
    .rw[if_neg a03]at b;refine bh (lj o.1 c E j k1 a9k) ?_;refine bh (lj o.1 c E j k1 a9k) ?_;obtain⟨G,q,b59,b12,a36,b13⟩: ∃(G:Nat) (q:ay),G<2/\(if cK (dep%a) c o.1<0 then(0:Int)else 1)=(G:Int)/\(q.size.toNat<T/\q.sum.length=32/\q.cC)/\
       (match ji a c T p q (dep+1)with
        |(.error l1,k2)=>(.error l1,k2)
        |(.ok k7,k2)=>mr k2 a o (if G=0 then k7 else l9) (if G=0 then cc else k7) dep)=a13/\ ∃I K M,aX true 37 (F.drop (G*37))= .agg (ab q I K M):=by
      obtain⟨I,K,M,a04,a05,a06,a38,a42,_⟩:=g.ld;by_cases F:cK (dep%a) c o.1<0
      .rw[if_pos F]at b;exact⟨0,l9,a9k,by rw[if_pos F];rfl,⟨a9k,g.bW,g.pI⟩,b,I,K,M,a38⟩
      .rw[if_neg F]at b;exact⟨1,cc,a9k,by rw[if_neg F];rfl,⟨a9k,g.cv,g.lY⟩,b,a04,a05,a06,a42⟩
     obtain⟨b,I,K,M,b60⟩:=b13;obtain⟨b14,b15,b16⟩:=a36;have a43:=EH c o.1 j E h a dep a9k O a9k a11 b06 k1;rw[b12]at a43;have b17:=U.af a30;have b18:=g.len;refine bh a43 ?_;have b19:(dep)+1=((dep+1:Nat):Int):=rfl;rw[b19];refine ai (Fv h C a k5 O c j a11 T k1 p a00 q I K M (dep+1) b15 b16 b14 a9k) ?_;rintro Q b61 ⟨n1,k3,a47⟩;have N:=W.cE n0;have a48:=W.cE a02;have b62:=k3 _ _ Z.1 Z.2 n5;have b63:=k3 _ _ j9.1 j9.2 a29;have b20:=k3 _ _ d.1 d.2 n9;have b21:=k3 _ _ N.1 N.2 a30;have b64:=k3 _ _ a48.1 a48.2 cf;have l7:=U.aI b20;have b65:=U.aI b21;have a52:=a01.trans k3;have b22:k0≠w:=by rintro rfl;rw[bt]at f;cases f
     have b66:=b22.symm;have b67:v≠k0:=by rintro rfl;rw[aJ]at f;cases f
     have a56:z≠k0:=by rintro rfl;rw[bm]at f;cases f
     have A:=(aW (M:= .nil) (e6:= .nil) (h5:= .nil) bj).all;have b68:G*37+37<=F.length:=a9k;generalize b69:ji a c T p q (dep+1)=b23 at*;obtain⟨oY,b24⟩:=b23;cases oY with
     |error l1=>
      obtain⟨a07,rfl⟩:=a47
      dsimp only at b n1
      have B:=cD (a:= .nil) (b:= .nil) (c:= .nil) (M:= .nil) (e6:= .nil) (h5:= .nil) bj bj;refine aa ?_;refine⟨_,U.a1,?_⟩;rw[<-b,cq,a4I (by rw[A.1];omega)];exact⟨(n1.set N).set d,(a52.dV n0).dV m,a07,rfl⟩
     |ok a57=>
      obtain⟨a08,a61,L,P,S,rfl⟩:=a47
      dsimp only at b n1
      have a36:=(aW (M:=L) (e6:=P) (h5:=S) a08).all;refine aa ?_;refine⟨(o,(if G=0 then a57 else l9),(if G=0 then cc else a57),b24),b,n1.set N,a52.dV n0,⟨E,rfl⟩,_,rfl,?_⟩;obtain rfl|rfl:G=0\/G=1:=a9k
      .exact g.Ft a08 a61
      .exact g.Fu a08 a61
   .rintro⟨a62,a63,a65,k2⟩ D ⟨s,b25,a68,⟨b26,b27⟩,⟨b70,a69,k4⟩,a09,b28,a71⟩ b71
    dsimp only at*
    have b07:=U.af b27;have b08:=U.af a09;have b17:=U.af a69;obtain⟨I,K,M,a04,a05,a06,a38,a42,b72,b73⟩:=k4.ld;have b18:=k4.len;refine aa ?_;have a73:=uE D h C k2 b25 a62 a63 a65 b26 I K M a04 a05 a06 a k5 O k4.bW k4.cv k4.pI k4.lY;refine ai a73 ?_;clear a73;rintro Q l4 ⟨n2,t,a74⟩;have b74:=U.af (t _ _ Z.1 Z.2 a09);have b29:=t _ _ j9.1 j9.2 b28;have b75:=U.aI b29;have l7:=U.aI (t _ _ d.1 d.2 a71);have N:=W.cE n0;have b76:=U.af (t _ _ N.1 N.2 a69);have b30:=ds;have b31:=b30.symm;unfold mr at s;generalize b32:dv k2 a (cr a62 a63 a65)=b33 at*;obtain⟨qf,a81⟩:=b33;have A:=(aW (M:= .nil) (e6:= .nil) (h5:= .nil) bj).all;have b77:=a97;cases qf with
    |error l1=>
     obtain⟨a07,rfl⟩:=a74
     dsimp only at s n2
     have B:=cD (a:=r) (b:=x) (c:=y) (M:= .nil) (e6:= .nil) (h5:= .nil) gA bj;have b78:=cD (a:= .nil) (b:= .nil) (c:= .nil) (M:= .nil) (e6:= .nil) (h5:= .nil) bj bj;refine aa ?_;refine⟨_,U.a1,?_⟩;rw[<-s];exact⟨(n2.set j9).set d,((a68.trans t).dV n3).dV m,a07,rfl⟩
    |ok u=>
     obtain⟨l5,a83,L,P,S,rfl⟩:=a74;obtain⟨a84,b79,b80,b81⟩:=Fs b32
     dsimp only at s n2
     have B:=cD (a:=r) (b:=x) (c:=y) (M:=L) (e6:=P) (h5:=S) gA l5;have b82:=(aW (M:=L) (e6:=P) (h5:=S) l5).all;have b83:0<=(2*u.size).tdiv 3/\(2*u.size).tdiv 3<=3000000:=by grind
     have a56:k0≠z:=by rintro rfl;rw[bm]at f;cases f
     have b84:=a56.symm;have a86:v≠z:=a9n;have b85:=a86.symm;have b86:=a84.symm;clear a84;refine aa ?_;have a88:bB (l4.set z (.cells (ab u L P S))) h C a81:=n2.set j9;have b34:=U.ah l4 z (.cells (ab u L P S));have b35:(l4.set z (.cells (ab u L P S))) v=some (.cells [.ptr h 0,.v (.int .i64 (a))]):=by rw[U.ao _ _ a86];exact t _ _ Z.1 Z.2 a09
     have a89:(l4.set z (.cells (ab u L P S))) w=some (.cells (ab aA .nil .nil .nil)):=by rw[U.ao _ _ b31];exact t _ _ d.1 d.2 a71
     have a90:=(a68.trans t).dV (Y:= .cells (ab u L P S)) n3;generalize l4.set z _=b36 at*;have b87:=U.af b35;have b88:=U.af b34;have b37:=U.aI a89;refine aG (λa10=> ?_) λa10=> ?_
     .rw[if_pos a10]at s;refine ai (Fq b36 h C a81 a88 u L P S l5 a83 a k5 O dep a9k a9k) ?_;rintro Q b89 ⟨b38,a92,a94⟩;obtain⟨b00,k8,k9,l0,l1,l2,rfl⟩:=a94.shape;have b37:=U.aI (a92 _ _ d.1 d.2 a89);have b01:=(aW (M:=k8) (e6:=k9) (h5:=l0) l2).all;have B:=cD (a:= .nil) (b:= .nil) (c:= .nil) (M:=k8) (e6:=k9) (h5:=l0) bj l2;refine aa ?_;refine⟨_,U.a1,?_⟩;rw[<-s];exact⟨b38.set d,(a90.trans a92).dV m,a94⟩
     .rw[if_neg a10]at s;have B:=cD (a:= .nil) (b:= .nil) (c:= .nil) (M:=L) (e6:=P) (h5:=S) bj l5;refine⟨_,U.a1,?_⟩;rw[<-s];exact⟨a88.set d,a90.dV m,l5,a83,_,_,_,rfl⟩
def Fw (o:Except Int ay) (h:R):Prop:=
 match o with
 | .error k=>k≠0/\ ∃a b c d,a.sum.length=32/\h= .aL [.agg (ab a b c d),.v (.int .i64 k)]
 | .ok a=>a.sum.length=32/\a.cC/\ ∃b c d,h= .aL [.agg (ab a b c d),.v (.int .i64 0)]
def ha.x {a:Except Int ay} (b:ha a n):Fw a n:=by
 cases a with
 |error c=>exact⟨b.1,aA,_,_,_,bj,b.2⟩
 |ok d=>exact b
def yZ (h a:U) (b c:Nat) (d:Except Int ay×ag) (k:R):Prop:=bB a b c d.2/\Ext b c h a/\Fw d.1 k
def gB (b:Nat) (h:List Int):Nat->ag->ay->Nat->Except Int ay×ag
 |0,a,_,_=>(.error 21,a)
 |p+1,a,r,dep=>if r=aA then(.error 9,a)else match kH a b r with
  |none=>(.error 21,a)
  |some (d,bI)=>if d.1=h then(if d.2=true then dv a b (cr (d.1,false) (bI.getD 0 aA) (bI.getD 1 aA))else(.error 9,a))
   else if cK (dep%b) h d.1<0 then match gB b h p a (bI.getD 0 aA) (dep+1)with
    |(.error k,c)=>(.error k,c)
    |(.ok o,c)=>dv c b (cr d o (bI.getD 1 aA))
   else match gB b h p a (bI.getD 1 aA) (dep+1)with
    |(.error k,c)=>(.error k,c)
    |(.ok o,c)=>dv c b (cr d (bI.getD 0 aA) o)
set_option maxHeartbeats 1600000 in
theorem Fx (k T:Nat) (b:Nat) (k5:1<=b) (Q:b<=8) (c:List Int) (f:Own) (l9:c.length=b): ∀(z:Nat) (V:U) (o:ag) (_:bB V k T o) (d:ay) (C D E:Own) (dep:Nat),d.sum.length=32->d.cC->d.size.toNat<z->dep+z<=4000000->
  AC Tryz.prog 158 [dT k b,.agg (ab d C D E),.J (ad c) f,.v (.int .i64 (dep:Int))] V λX p=>yZ V p k T (gB b c z o d dep) X
 |0,V,o,W,d,C,D,E,dep,gA,Y,a29,a30=>by omega
 |z+1,V,o,W,d,C,D,E,dep,gA,Y,a29,a30=>by
  have b12:=(aW (M:=C) (e6:=D) (h5:=E) gA).all;have a:=(gB.eq_2 b c o d dep z).symm;generalize gB b c (z+1) o d dep=n0 at*;refine aM hm NS ?_;refine bp λB a34=> ?_;refine cX λH a36 b13 b14=> ?_;refine hp λs t a3 a4 a5 ds=> ?_;generalize I:((V.set B _).set H _).set s _=g;have u:V.sub g:=by subst I;exact aS
  have aJ:g B=some (.cells [.ptr k 0,.v (.int .i64 (b))]):=by subst I;exact aS
  have bm:g H=some (.cells (ab d C D E)):=by subst I;exact aS
  have bt:g s=some (.cells (ab aA .nil .nil .nil)):=by subst I;rw[<-cq];exact aS
  clear I;have b15:=U.af aJ;have b16:=U.af bm;have Z:=W.mono u;have n1:=W.cE a34;have n2:=W.cE a36;have G:=W.cE t;by_cases K:d=aA
  .subst K;refine bh (nk aA C D E g gA Y) ?_;have j9:=U.aI bt;have k0:=cD (a:= .nil) (b:= .nil) (c:= .nil) (M:=C) (e6:=D) (h5:=E) bj gA;have i:=(aW (M:= .nil) (e6:= .nil) (h5:= .nil) bj).len;rw[if_pos rfl]at a;refine aa ?_;refine⟨_,U.a1,?_⟩;rw[<-a];exact⟨Z.set G,(Ext.of u).dV t,a9o,aA,_,_,_,gA,rfl⟩
  rw[if_neg K]at a;refine bh (nk d C D E g gA Y) ?_;generalize n3:bS (Ctx.of Tryz.prog) (dH.seq (dH.block 0 _) _)=b17;refine ai (yn g k T o Z d C D E gA Y b k5 Q) ?_;rintro X n4 ⟨j,k1⟩;cases k6:kH o b d with
  |none=>
   rw[k6]at k1 a;obtain rfl:=k1
   dsimp only at a
   refine aa ?_;refine aN λL F=> ?_;have a38:L≠s:=by rintro rfl;rw[j _ _ bt]at F;cases F
   have b18:=a38.symm;have j9:=U.aI (j _ _ bt);subst n3;have i:=(aW (M:= .nil) (e6:= .nil) (h5:= .nil) bj).len;have k0:=cD (a:= .nil) (b:= .nil) (c:= .nil) (M:= .nil) (e6:= .nil) (h5:= .nil) bj bj;refine aa ?_;refine⟨_,U.a1,?_⟩;rw[<-a,cq,a4I (by rw[i];omega)];exact⟨((Z.mono j).mono (U.ae U.a1 F)).set G,(((Ext.of u).trans (Ext.of j)).trans (Ext.of (U.ae U.a1 F))).dV t,a9o,aA,_,_,_,bj,rfl⟩
  |some a42=>
   obtain⟨h,b19⟩:=a42;rw[k6]at k1 a;obtain⟨r,b20,rfl,b21,b22,a43,a47⟩:=k1;obtain⟨k2,cc,rfl,b23,b24,b25,b26,a48,b27⟩:=uX k6;obtain⟨M,b28,x,rfl,l,n5,P⟩:=jj.of a43 a47;refine aa ?_;refine aN λL F=> ?_;refine aa ?_;have n9:=U.ae (Y:= .cells [.J (ad h.1) r,.v (.bool h.2)]) (U.a1) F;have cf:=U.ah n4 L (.cells [.J (ad h.1) r,.v (.bool h.2)]);have N:=U.au j n9;have k7:=N _ _ aJ;have a00:=N _ _ bm;have k8:=N _ _ bt;have a01:=n9 _ _ n5;have k9:=Z.mono N;have l0:=(Ext.of (l:=k) (lM:=T) u).trans (Ext.of N);have l1:=U.bF u (U.bF j F);have l2:=U.bF u l;have b29:M≠L:=by rintro rfl;rw[n5]at F;cases F
   generalize n4.set L _=v at*;subst n3;refine p7 [2,3,4,5,8,10,11] (λ_:(List Int×Bool)×ay×ay×ag=> []) (λS p=>dv S.2.2.2 b (cr S.1 S.2.1 S.2.2.1)=n0/\bB p k T S.2.2.2/\Ext k T V p/\(∃r,p L=some (.cells [.J (ad S.1.1) r,.v (.bool S.1.2)]))/\(∃x,p M=some (.cells x)/\jj x S.2.1 S.2.2.1)/\p B=some (.cells [.ptr k 0,.v (.int .i64 (b))])/\p H=some (.cells (ab d C D E))/\p s=some (.cells (ab aA .nil .nil .nil))) ?_ ?_
   .have a52:=U.af cf;have a56:=U.af k7;refine aa ?_;simp only[a5q,a5s]at a;have b30:=cf;by_cases l3:h.1=c
    .rw[if_pos l3]at a;refine bh (lj h.1 c r f v a9k) ?_;cases a02:h.2 with
     |false=>rw[if_neg (by rw[a02];decide)]at a;have i:=(aW (M:= .nil) (e6:= .nil) (h5:= .nil) bj).len;have k0:=cD (a:= .nil) (b:= .nil) (c:= .nil) (M:= .nil) (e6:= .nil) (h5:= .nil) bj bj;have j9:=U.aI k8;refine aa ?_;refine⟨_,U.a1,?_⟩;rw[<-a,cq,a4I (by rw[i];omega)];exact⟨k9.set G,l0.dV t,a9o,aA,_,_,_,bj,rfl⟩
     |true=>
      rw[if_pos a02]at a;refine aa ?_;refine bh (lj c c r f v a9k) ?_;have b31:=U.aI cf;refine aa ?_;have a57:B≠L:=by grind
      have a61:H≠L:=by grind
      have a62:s≠L:=by rintro rfl;exact absurd (j _ _ bt) (by rw[F];simp)
      refine⟨((h.1,false),k2,cc,o),a,k9.set (W.cE l1),l0.dV l1,⟨r,by rw[l3]⟩,⟨x,rfl,P⟩,?_,?_,?_⟩
      .rw[U.ao _ _ a57];exact k7
      .rw[U.ao _ _ a61];exact a00
      .rw[U.ao _ _ a62];exact k8
    .rw[if_neg l3]at a;refine bh (lj h.1 c r f v a9k) ?_;refine bh (lj h.1 c r f v a9k) ?_;obtain⟨y,e,b32,a63,a03,a65⟩: ∃(y:Nat) (e:ay),y<2/\(if cK (dep%b) c h.1<0 then(0:Int)else 1)=(y:Int)/\(e.size.toNat<z/\e.sum.length=32/\e.cC)/\
       (match gB b c z o e (dep+1)with
        |(.error l4,O)=>(.error l4,O)
        |(.ok K,O)=>dv O b (cr h (if y=0 then K else k2) (if y=0 then cc else K)))=n0/\ ∃m n q,aX true 37 (x.drop (y*37))= .agg (ab e m n q):=by
      obtain⟨m,n,q,l5,l6,l7,a04,a05,_⟩:=P.ld;by_cases x:cK (dep%b) c h.1<0
      .rw[if_pos x]at a;exact⟨0,k2,a9k,by rw[if_pos x];rfl,⟨a9k,P.bW,P.pI⟩,a,m,n,q,a04⟩
      .rw[if_neg x]at a;exact⟨1,cc,a9k,by rw[if_neg x];rfl,⟨a9k,P.cv,P.lY⟩,a,l5,l6,l7,a05⟩
     obtain⟨a,m,n,q,b33⟩:=a65;obtain⟨a68,a69,a71⟩:=a03;have a06:=EH c h.1 f r k b dep a9k Q a9k l9 a48 v;rw[a63]at a06;have a73:=U.af a01;have a74:=P.len;refine bh a06 ?_;have a81:(dep)+1=((dep+1:Nat):Int):=rfl;rw[a81];refine ai (Fx k T b k5 Q c f l9 z v o k9 e m n q (dep+1) a69 a71 a68 a9k) ?_;rintro X b34 ⟨k3,w,a07⟩;have k4:=W.cE l2;have a08:=W.cE l1;have b35:=w _ _ n1.1 n1.2 k7;have b36:=w _ _ n2.1 n2.2 a00;have a83:=w _ _ G.1 G.2 k8;have a84:=w _ _ k4.1 k4.2 a01;have b37:=w _ _ a08.1 a08.2 cf;have j9:=U.aI a83;have b38:=U.aI a84;have a09:=l0.trans w;have a86:M≠s:=by rintro rfl;rw[bt]at l;cases l
     have b39:=a86.symm;have b40:B≠M:=by rintro rfl;rw[aJ]at l;cases l
     have b41:H≠M:=by rintro rfl;rw[bm]at l;cases l
     have i:=(aW (M:= .nil) (e6:= .nil) (h5:= .nil) bj).all;have b42:y*37+37<=x.length:=a9k;generalize b43:gB b c z o e (dep+1)=a88 at*;obtain⟨oY,a89⟩:=a88;cases oY with
     |error l4=>
      obtain⟨a90,b44,a92,a94,a95,a96,rfl⟩:=a07
      dsimp only at a k3
      have k0:=cD (a:= .nil) (b:= .nil) (c:= .nil) (M:= .nil) (e6:= .nil) (h5:= .nil) bj bj;have b45:=(aW (M:=a92) (e6:=a94) (h5:=a95) a96).all;refine aa ?_;refine⟨_,U.a1,?_⟩;rw[<-a,cq,a4I (by rw[i.1];omega)];exact⟨(k3.set k4).set G,(a09.dV l2).dV t,a90,aA,_,_,_,bj,rfl⟩
     |ok a10=>
      obtain⟨l8,a11,a97,a98,a99,rfl⟩:=a07
      dsimp only at a k3
      have a03:=(aW (M:=a97) (e6:=a98) (h5:=a99) l8).all;refine aa ?_;refine⟨(h,(if y=0 then a10 else k2),(if y=0 then cc else a10),a89),a,k3.set k4,a09.dV l2,⟨r,rfl⟩,_,rfl,?_⟩;obtain rfl|rfl:y=0\/y=1:=a9k
      .exact P.Ft l8 a11
      .exact P.Fu l8 a11
   .rintro⟨b00,b01,b02,O⟩ p ⟨b03,b04,b05,⟨b06,b07⟩,⟨b46,b08,A⟩,b09,b47,b10⟩ b48
    dsimp only at*
    have a52:=U.af b07;have a56:=U.af b09;have a73:=U.af b08;obtain⟨m,n,q,l5,l6,l7,a04,a05,b49,b50⟩:=A.ld;have a74:=A.len;refine aa ?_;have a13:=uE p k T O b04 b00 b01 b02 b06 m n q l5 l6 l7 b k5 Q A.bW A.cv A.pI A.lY;refine ai a13 ?_;clear a13;rintro X b51 ⟨b11,a14,a15⟩;have j9:=U.aI (a14 _ _ G.1 G.2 b10);obtain⟨b52,a16,a18,a19,l4,a27,rfl⟩:=a15.shape;have b53:=(aW (M:=a16) (e6:=a18) (h5:=a19) a27).all;have i:=(aW (M:= .nil) (e6:= .nil) (h5:= .nil) bj).len;have k0:=cD (a:= .nil) (b:= .nil) (c:= .nil) (M:=a16) (e6:=a18) (h5:=a19) bj a27;refine aa ?_;refine⟨_,U.a1,?_⟩;rw[<-b03];exact⟨b11.set G,(b05.trans a14).dV t,a15.x⟩
def a1q (b:Int) (a:List Int) (d:R) (k:isRow a d) (c:U) (h:Nat) (r:c.read h=some [.v (.int .i64 b)]):
  AC Tryz.prog 181 [d,.ptr h 0] c λo p=>p=c/\o= .v (.bool (!decide ((a.length:Int)=b))):=by
 obtain⟨x,rfl⟩:=k;have y:=bH (q:=a);by_cases z:(a.length)=b
 .refine aM hm Bo ?_
  repeat' first|refine aG (λ_=> ?_) λ_=> ?_|trivial
 .refine aM hm Bo ?_
  repeat' first|refine aG (λ_=> ?_) λ_=> ?_|trivial
theorem z1 (a:Nat) (b:List (List Int)) (d:List R) (r:Own) (h:U) (o:az isRow b d) (x:b.length<=1000000000000) (F:1<=a) (G:a<=8) (L: ∀c∈b,c.length=a):
  AC Tryz.prog 116 [.v (.int .i64 (a:Int)),.J d r] h λc k=>k=h/\c= .v (.bool true):=by
 have P:(1)<=(a:Int):=a9k;have S:(a:Int)<=8:=a9k;refine aM hm ME ?_;refine bp λp y=> ?_;have T:=U.ae (Y:= .cells [.v (.int .i64 (a))]) (U.a1) y;have c2:=U.ah h p (.cells [.v (.int .i64 (a))]);refine ai (DB b d _ _ o (bR.J (o.cells λ_ _=>isRow.cells)) x (b5:=181) ⟨by rfl,λz C k D E=>a1q a z C D k p (U.af (E _ _ c2))⟩) ?_;rintro _ _ ⟨rfl,rfl⟩;have:b.any (λc=> !decide ((c.length)=(a:Int)))=false:=by simp_all
 rw[this];exact aS
def nF (b:Nat) (c:List Int) (d:ag) (a:ay):Except Int ay×ag:=ji b c (a.size.toNat+1) d a 0
def a1r (c:U) (k y:Nat) (z:ag) (D:bB c k y z) (a:ay) (o p r:Own) (E:a.sum.length=32) (n:a.cC) (v:a.size<=2000000) (d:List Int) (F:Own) (b:Nat) (G:1<=b) (L:b<=8) (P:d.length=b):
  AC Tryz.prog 84 [.ptr k 0,.agg (ab a o p r),.J (ad d) F,.v (.int .i64 (b:Int))] c λS q=>oI c q k y (nF b d z a) S:=by
 have w:=(aW (M:=o) (e6:=p) (h5:=r) E).all;refine aM hm LI ?_;refine bp λT A=> ?_;refine cX λV W B H=> ?_;refine tY λs I _ _ _ _=> ?_;generalize x:((c.set T _).set V _).set s _=h;have e:c.sub h:=by subst x;exact aS
 have bm:h T=some (.cells (ab a o p r)):=by subst x;exact aS
 have bt:h V=some (.cells (ab aA .nil .nil .nil)):=by subst x;rw[<-cq];exact aS
 clear x;have t:=D.mono e;have C:=D.cE W;have K:=U.af bm;refine bh (z1 b [d] _ _ h ⟨⟨_,rfl⟩,trivial⟩ a9l G L (by simp[P])) ?_;refine ai (Fv k y b G L d F P (a.size.toNat+1) h z t a o p r 0 E n a9k a9k) ?_;rintro S M ⟨u,f,g⟩;obtain⟨N,i,j,l,O,m,rfl⟩:=g.shape;have Q:=U.aI (f _ _ C.1 C.2 bt);have X:=(aW (M:=i) (e6:=j) (h5:=l) m).all;have Y:=(aW (M:= .nil) (e6:= .nil) (h5:= .nil) bj).len;have Z:=cD (a:= .nil) (b:= .nil) (c:= .nil) (M:=i) (e6:=j) (h5:=l) bj m;refine aa ?_;refine⟨_,U.a1,?_⟩;exact⟨u.set C,((Ext.of e).trans f).dV W,g⟩
theorem a1s {h:ag}{k:List Int×Bool}{b:ay} (a:dv H e (cr k j3 b)=(.ok w,h)):0<=w.live/\w.live<=3000000:=by
 unfold dv at a;split at a
 .simp_all
 .rename_i p o;simp only[a5R,Except.ok.injEq]at a;obtain⟨rfl,_⟩:=a;have c:=ur o;have d:=uW c.ok;have r:=qH (d j3 (by simp[cr]));have x:=qH (d b (by simp[cr]));rw[c.eq];grind[eS,eD,cr,er,dK]
variable{q b6:List Int}
theorem a1t: ∀ {h:Nat}{c a:ag}{d b:ay}{dep:Nat},gB e q h c d dep=(.ok b,a)-> ∃o p r x,dv o e (cr p r x)=(.ok b,a)
 |0,c,a,d,b,dep,k=>by rw[gB]at k;simp_all
 |h+1,c,a,d,b,dep,k=>by
  grind[gB,Prod.mk.inj]
def iK (c:Nat) (h:List Int) (k:ag) (d:ay):Except Int ay×ag:=
 match gB c h (d.size.toNat+1) k d 0 with
 |(.error o,a)=>(.error o,a)
 |(.ok b,a)=>if 2*b.live<b.size then mq a c b 0 else(.ok b,a)
def a1u (S:U) (h T:Nat) (x:ag) (e:bB S h T x) (b:ay) (C D E:Own) (f:b.sum.length=32) (l8:b.cC) (a13:b.size<=2000000) (k:List Int) (O:Own) (a:Nat) (t:1<=a) (u:a<=8) (Q:k.length=a):
  AC Tryz.prog 86 [.ptr h 0,.agg (ab b C D E),.J (ad k) O,.v (.int .i64 (a:Int))] S λv l9=>yZ S l9 h T (iK a k x b) v:=by
 have a14:=(aW (M:=C) (e6:=D) (h5:=E) f).all;refine aM hm LM ?_;refine bp λd w=> ?_;refine cX λF g a15 a16=> ?_;refine tY λn0 a18 _ _ _ _=> ?_;generalize i:((S.set d _).set F _).set n0 _=G;have X:S.sub G:=by subst i;exact aS
 have bm:G d=some (.cells (ab b C D E)):=by subst i;exact aS
 have bt:G F=some (.cells (ab aA .nil .nil .nil)):=by subst i;rw[<-cq];exact aS
 clear i;refine bh (z1 a [k] _ _ G ⟨⟨_,rfl⟩,trivial⟩ a9l t u (by simp[Q])) ?_;refine aN λy L=> ?_;have Y:d≠y:=by rintro rfl;rw[bm]at L;cases L
 have n1:=Y.symm;have Z:F≠y:=by rintro rfl;rw[bt]at L;cases L
 have a19:=Z.symm;have n2:=U.bF X L;have a27:=U.af bm;refine aa ?_;have A:=U.ae (Y:= .cells [.ptr h 0,.v (.int .i64 (a))]) (U.a1) L;have j9:=U.au X A;have k0:=A _ _ bm;have n3:=A _ _ bt;have k1:=U.ah G y (.cells [.ptr h 0,.v (.int .i64 (a))]);generalize G.set y _=n4 at*;have n5:=e.mono j9;have a29:=U.af k0;have a30:=U.af k1;have j:=e.cE w;have z:=e.cE g;have k2:=e.cE n2;refine ai (Fx h T a t u k O Q (b.size.toNat+1) n4 x n5 b C D E 0 f l8 a9k a9k) ?_;rintro v V ⟨l,m,k3⟩;have n9:=m _ _ j.1 j.2 k0;have k4:=m _ _ z.1 z.2 n3;have a00:=m _ _ k2.1 k2.2 k1;have a34:=U.aI n9;have a36:=U.aI k4;have a38:=(aW (M:= .nil) (e6:= .nil) (h5:= .nil) bj).len;have c:iK a k x b=match gB a k (b.size.toNat+1) x b 0 with
  |(.error B,n)=>(.error B,n)
  |(.ok q,n)=>if 2*q.live<q.size then mq n a q 0 else(.ok q,n):=rfl
 generalize iK a k x b=a42 at c|-;have a01:d≠F:=a9n;have a02:=a01.symm;have Y:d≠y:=a9n;have Z:F≠y:=a9n;generalize a03:gB a k (b.size.toNat+1) x b 0=a04 at*;obtain⟨oY,k5⟩:=a04;have k6:=(Ext.of j9).trans m;cases oY with
 |error B=>
  obtain⟨a05,a06,H,I,K,s,rfl⟩:=k3
  dsimp only at c l
  have M:=cD (a:=C) (b:=D) (c:=E) (M:=H) (e6:=I) (h5:=K) f s;have a43:=cD (a:= .nil) (b:= .nil) (c:= .nil) (M:=H) (e6:=I) (h5:=K) bj s;have a47:=(aW (M:=H) (e6:=I) (h5:=K) s).all;replace c:=c.symm;refine aa ?_;refine⟨_,U.a1,?_⟩;rw[<-c];exact⟨(l.set j).set z,(k6.dV w).dV g,a05,a06,_,_,_,s,rfl⟩
 |ok P=>
  obtain⟨W,k7,o,p,r,rfl⟩:=k3
  dsimp only at c l
  obtain⟨_,_,_,_,k8⟩:=a1t a03;obtain⟨a48,a52⟩:=a1s k8;have a56:=(Fs k8).2.2.2;have M:=cD (a:=C) (b:=D) (c:=E) (M:=o) (e6:=p) (h5:=r) f W;have a57:=(aW (M:=o) (e6:=p) (h5:=r) W).all;replace c:=c.symm;refine aa ?_;have k9:bB (V.set d (.cells (ab P o p r))) h T k5:=l.set j;have a07:=U.ah V d (.cells (ab P o p r));have l0:(V.set d (.cells (ab P o p r))) F=some (.cells (ab aA .nil .nil .nil)):=by rw[U.ao _ _ a02];exact k4
  have a08:(V.set d (.cells (ab P o p r))) y=some (.cells [.ptr h 0,.v (.int .i64 (a))]):=by rw[U.ao _ _ n1];exact a00
  have l1:=k6.dV (Y:= .cells (ab P o p r)) w;generalize V.set d _=a09 at*;have a61:=U.af a07;have a62:=U.af a08;have a10:=U.aI l0;refine aG (λN=> ?_) λN=> ?_
  .rw[if_pos N]at c;refine ai (Fq a09 h T k5 k9 P o p r W k7 a t u 0 a9k a9k) ?_;rintro v a63 ⟨a11,l2,l3⟩;obtain⟨a65,l4,l5,l6,B,l7,rfl⟩:=l3.shape;have a10:=U.aI (l2 _ _ z.1 z.2 l0);have a68:=(aW (M:=l4) (e6:=l5) (h5:=l6) l7).all;have M:=cD (a:= .nil) (b:= .nil) (c:= .nil) (M:=l4) (e6:=l5) (h5:=l6) bj l7;refine aa ?_;refine⟨_,U.a1,?_⟩;rw[<-c];exact⟨a11.set z,(l1.trans l2).dV g,l3.x⟩
  .rw[if_neg N]at c;have M:=cD (a:= .nil) (b:= .nil) (c:= .nil) (M:=o) (e6:=p) (h5:=r) bj W;refine⟨_,U.a1,?_⟩;rw[<-c];exact⟨k9.set z,l1.dV g,W,k7,_,_,_,rfl⟩
end Go.Proofs.YtlgnfcaolejgeaaGreat
namespace Go.bz
open Go
variable{n b3:R}{f t e4:U}{m:Program}
theorem a1v {p:Shelf.Ren} (C:Proofs.SlLaysF.n6 m p) (D:(∃r,n= .J [] r)\/ ∃x a h,n= .an x 0 a h):AC m (p.f 6) [n,b3] f λE F=>F=f/\E= .aL []:=by
 intro b G L k P;have o:=k.2 0 _ rfl;have S:b.size=2:=k.1;generalize T:b.getD 0 undef=V at o;generalize W:b.getD 1 undef=y;have e: ∃c a,V= .slice c 0 a:=by
  rcases D with ⟨r,rfl⟩|⟨x,a,h,rfl⟩
  .cases o with
   |dh n a dm k g=>simp
   |J j off len a h l xs dm hk hlen q s t hH u g=>simp_all
  .cases o;simp
 obtain⟨c,a,rfl⟩:=e;have ak:b= #[.slice c 0 a,y]:=by
  apply Array.ext
  .exact S
  .intro z d v
   match z,d with
   |0,d=>rw[<-T];simp_all
   |1,d=>rw[<-W];simp_all
   |z+2,d=>omega
 rw[ak];refine(Proofs.AnyF.slices_SortFunc_none {C with} c a y G).mono ?_;rintro w A ⟨rfl,rfl⟩;exact⟨_,.aL [],L,f,rfl,.refl P,.aL #[] [] rfl (λB H i=>by simp at i),rfl,rfl⟩
end Go.bz
namespace Go.Proofs.YtlgnfcaolejgeaaGreat
open Go Go.bz
def a1w (a b:List Int) (d h:Own) (c:U) (k:a.length<=1000000000000):AC Tryz.prog 119 [.J (ad a) d,.J (ad b) h] c λo p=>p=c/\o= .v (.int .i64 (fM a b)):=by
 refine aM hm MI ?_;refine bh (EE a b d h c k) ?_
 repeat' first|refine aG (λ_=> ?_) λ_=> ?_|trivial
theorem a1x (h:U) (F j:Nat) (o:ag) (I:bB h F j o) (a:ay) (p r x:Own) (l:a.sum.length=32) (K:a.cC) (k5:a.size<=2000000) (b:Nat) (m:1<=b) (n:b<=8) (D:List (List Int)) (M: ∀c,ed o b (a.size.toNat+1) a=some c->D.Perm c/\D.Pairwise λN W=> ¬fM W N<0):
  AC Tryz.prog 62 [.ptr F 0,.agg (ab a p r x),.v (.int .i64 (b:Int))] h λk y=>h.sub y/\match ed o b (a.size.toNat+1) a with
   |none=>k= .aL [.J [] .nil,.v (.int .i64 21)]
   |some _=> ∃d,k= .aL [.J d .any,.v (.int .i64 0)]/\az isRow D d:=by
 have O:AC Tryz.prog 62 [.ptr F 0,.agg (ab a p r x),.v (.int .i64 (b:Int))] h λk y=>match ed o b (a.size.toNat+1) a with
   |none=>h.sub y/\k= .aL [.J [] .nil,.v (.int .i64 21)]
   |some _=> ∃z d G,k= .aL [z,.v (.int .i64 0)]/\View y z G (.J d .any)/\h.sub G/\az isRow D d:= ?_
 .refine O.view λk y L=> ?_;cases C:ed o b (a.size.toNat+1) a with
  |none=>grind[View.refl]
  |some c=>rw[C]at L;obtain⟨z,d,G,rfl,Q,e,f⟩:=L;exact⟨_,_,View.aL (a:= []) Q,e,d,rfl,f⟩
 have k6:=(aW (M:=p) (e6:=r) (h5:=x) l).all;refine aM hm L9 ?_;refine bp λq X=> ?_;have P:=U.ae (Y:= .cells (ab a p r x)) (U.a1) X;have aJ:=U.ah h q (.cells (ab a p r x));generalize h.set q _=s at*;have k7:=U.af aJ;refine bh (z1 b [] [] _ s trivial a9l m n a9l) ?_;refine ai (yX F j o b m n (a.size.toNat+1) s (I.mono P) a p r x l K a9k) ?_;rintro k G ⟨e,S⟩;cases C:ed o b (a.size.toNat+1) a with
 |none=>rw[C]at S;obtain rfl:=S;refine aa ?_;exact U.au P e
 |some c=>
  rw[C]at S;obtain⟨d,z,rfl,g,t⟩:=S;obtain⟨i,Y⟩:=M c C;obtain⟨k8,Z⟩:=r7 C;by_cases u:c= []
  .subst u;obtain rfl:d= []:=a4N t.len;obtain rfl:D= []:=i.eq_nil;have j9:(∃T,z= .J [] T)\/ ∃c V a,z= .an c 0 V a:=by
    rcases g.2 with ⟨_,v|v⟩|⟨c,w,V,k9,v,_,_,_,_,l0,_⟩
    .simp_all
    .simp_all
    simp_all
   refine aa ?_;refine ai (a1v Tryz.EU j9) ?_;rintro _ _ ⟨rfl,rfl⟩;refine aa ?_;obtain⟨w,l1,l2,k0,E⟩:=View.dQ g;have:ef 1 w ([])= []:=by rw[ku,a8W]
   rw[this]at E;exact⟨_,U.a1,_,_,_,rfl,E,U.au P k0,trivial⟩
  .obtain⟨W,V,rfl,l3,k1⟩:=Fo (a1d b) g t Z a9k u i Y 119 [] (λA T B=>by cases B) (λW=> .inl rfl) a9q (λA k2 T k3 B l4=>(a1w A k2 T k3 _ a9k).mono λk y L=>L.2);refine aa ?_;refine ai k1 ?_;rintro _ l5 ⟨rfl,f,_,l6,l7,H,k4,_⟩;have l8:=H.len;have l9:=i.length_eq;have E:=View.Fm (e:=c.length) (b9:=V) (i:=1) k4 (by rw[a4J];omega);rw[ku,a6U a9k]at E;refine aa ?_;exact⟨_,U.a1,_,_,_,rfl,E,U.au P f,H⟩
theorem a1y:cS ([],[]) ([],[])=(([],[]):List Int×List Int):=rfl
variable{e i v O b9 j1:Nat}
theorem Fy {a:List Int×List Int} (b:hg e a):cS a ([],[])=a:=by have c:=lp.1 b.ok;have d:cR ([]) [] ([]:List Int).length=false:=rfl;unfold cS;rw[c.2.2.1,if_pos b.ok,if_neg (by rw[d];simp)]
def aC.rows:aC->List (List Int)
 | .nil=> []
 | .node a _ b c=>a::(b.rows++c.rows)
theorem aC.gC: ∀ {c:aC}{b:List Int},b∈c.all->b∈c.rows
 | .nil,b,a=>a
 | .node d live h k,b,a=>by
  simp only[aC.all,a4X]at a;simp only[aC.rows,a5g,a4X];rcases a with (a|a)|a
  .exact .inr (.inl (aC.gC a))
  .exact .inr (.inr (aC.gC a))
  .cases live<;>simp at a;exact .inl a
def aC.c9 (a:Nat) (b:aC):Prop:= ∀c∈b.rows,bL a c
def aC.c9.a {a:Nat}{c:List Int}{d:Bool}{b h:aC} (k:(aC.node c d b h).c9 a):b.c9 a:=λo p=>k o (by simp[aC.rows,p])
def aC.c9.b {a:Nat}{c:List Int}{d:Bool}{h b:aC} (k:(aC.node c d h b).c9 a):b.c9 a:=λo p=>k o (by simp[aC.rows,p])
def aC.c9.r {b:Nat}{a:List Int}{c:Bool}{d h:aC} (k:(aC.node a c d h).c9 b):bL b a:=k a (by simp[aC.rows])
variable{I:Bool}{a8:aC}{q b6:List Int}
def aC.c9.mk {b:aC} (d:bL e q) (h:a8.c9 e) (k:b.c9 e):(aC.node q I a8 b).c9 e:=λc a=>by
 simp only[aC.rows,a5g,a4X]at a;rcases a with rfl|a|a
 .exact d
 .exact h c a
 .exact k c a
theorem aC.c9.ok {b:Nat}: ∀ {c:aC},c.c9 b->c.Ok b
 | .nil,_=>trivial
 | .node _ _ _ _,a=>⟨a.r.len,a.a.ok,a.b.ok⟩
def bo:aC->ay
 | .nil=>aA
 | .node a live b c=>eS (cr (a,live) (bo b) (bo c))
structure jk (d:Nat) (t:aC) (k:ay):Prop where
 sum:k.sum.length=32
 live:k.live=(t.all.length:Int)
 size:k.size=(t.size:Int)
 aO:(t.all.length=0/\k.aU= []/\k.aV= [])\/(0<t.all.length/\hg d (k.aU,k.aV))
 key:k.key= []
 z:t= .nil->k=aA
theorem jk.ok {c:Nat}{a:aC}{d:ay} (b:jk c a d) (y:a.size<=1048576):fv c d=true:=by
 have z:=b.size;have C:=b.live;have D:=lv a;unfold fv;cases a with
 |nil=>rw[decide_eq_true (b.z rfl),Bool.true_or]
 |node h k o p=>
  have E:1<=(aC.node h k o p).size:=by simp only[aC.size];omega
  generalize aC.node h k o p=a at*;rw[a6q];right;rw[a4L];refine⟨a9m,?_⟩;rcases b.aO with ⟨x,r,F⟩|⟨x,r⟩;grind
  .rw[if_neg a9k];exact r.ok
variable{w j3:ay}
theorem jk.kG (a:jk e a8 w) (p:a8.size<=1048576):w.In e:=by
 have r:=a.size;have x:=a.live;have y:=lv a8;have b:cI w.aU/\cI w.aV/\w.aU.length<=e/\w.aV.length<=e:=by
  rcases a.aO with ⟨h,c,z⟩|⟨h,c⟩;grind
  .have d:=lp.1 c.ok;have C:w.aU.length=e:=d.2.2.1;have D:w.aV.length=e:=d.2.2.2.1;exact⟨c.aU,c.aV,a9k,a9k⟩
 have k:cI w.key:=by rw[a.key];intro E o;cases o
 exact⟨a.sum,b.1,b.2.1,k,b.2.2.1,b.2.2.2,by rw[a.key];simp,a9k,a9k,a9k,a9k⟩
theorem z6 {a:gM} (d:mi i e a) (k:jk i a8 w):mi i (e+a8.all.length) (er a w):=by
 have o:(er a w).live=((e+a8.all.length:Nat)):=by show a.live+w.live= _;rw[d.live,k.live];push_cast;rfl
 refine⟨o,?_⟩;show(e+a8.all.length=0/\cS a.aO (w.aU,w.aV)=([],[]))\/(0<e+a8.all.length/\hg i (cS a.aO (w.aU,w.aV)));rcases k.aO with ⟨p,b,r⟩|⟨p,b⟩
 .rw[b,r];rcases d.aO with ⟨h,c⟩|⟨h,c⟩;grind[a1y];grind[Fy]
 .right;refine⟨a9k,?_⟩;rcases d.aO with ⟨h,c⟩|⟨h,c⟩
  .rw[c,pw b];exact b
  .exact y4 c b
def z7:jk e .nil aA:=⟨rfl,rfl,rfl,.inl ⟨rfl,rfl,rfl⟩,rfl,λ_=>rfl⟩
def uY (C:1<=e) (D:e<=8) {a:aC} (k:bL e q) (b:jk e a8 w) (c:jk e a j3) (T:a8.size+a.size<1048576):
  (cr (q,I) w j3).In e/\jk e (.node q I a8 a) (eS (cr (q,I) w j3))/\fG e (cr (q,I) w j3)=some (eS (cr (q,I) w j3)):=by
 have p:dR e (cr (q,I) w j3)=true:=by unfold dR cr;simp[k.len,b.ok a9k,c.ok a9k,b.key,c.key]
 have r:=y5 C D k;have E:mi e (if I=true then 1 else 0) (dK ⟨0,1,([],[])⟩ (q,I)):=by
  cases I with
  |false=>exact⟨rfl,.inl ⟨rfl,rfl⟩⟩
  |true=>refine⟨rfl,.inr ⟨a9o,?_⟩⟩;show hg e (cS ([],[]) (gm q));rw[pw r];exact r
 have o:=z6 (z6 E b) c;have x:eD (cr (q,I) w j3)=er (er (dK ⟨0,1,([],[])⟩ (q,I)) w) j3:=rfl;have F:(aC.node q I a8 a).all.length=(if I=true then 1 else 0)+a8.all.length+a.all.length:=by simp only[aC.all,a4J];split<;>simp<;>omega
 rw[<-x,<-F]at o;have y:(eD (cr (q,I) w j3)).size=((aC.node q I a8 a).size):=by
  rw[x];have d:(dK ⟨0,1,([],[])⟩ (q,I)).size=1:=by cases I<;>rfl
  show(dK ⟨0,1,([],[])⟩ (q,I)).size+w.size+j3.size= _;rw[d,b.size,c.size,aC.size];push_cast;rfl
 refine⟨⟨p,λG L=> ?_,λz P=> ?_⟩,⟨oe _,o.live,y,?_,?_,λS=>by cases S⟩,?_⟩
 .obtain rfl:G=(q,I):=by simpa[cr] using L
  exact k.jU
 .have:z=w\/z=j3:=by simpa[cr] using P
  rcases this with rfl|rfl
  .exact b.kG a9k
  .exact c.kG a9k
 .rcases o.aO with ⟨d,h⟩|⟨d,h⟩
  .left;refine⟨d,?_,?_⟩
   .show(eD _).aO.1= [];rw[h]
   .show(eD _).aO.2= [];rw[h]
  .exact .inr ⟨d,h⟩
 .show keyOf (cr (q,I) w j3)= [];unfold keyOf cr;rfl
 .unfold fG;rw[if_pos p,if_neg (by rw[y];simp only[aC.size];omega)]
def fc {a:Nat} (c:1<=a) (d:a<=8): ∀ {b:aC},b.c9 a->b.size<=1048576->jk a b (bo b)
 | .nil,_,_=>z7
 | .node o live p r,h,k=>by
  simp only[aC.size]at k;exact(uY c d h.r (fc c d h.a a9k) (fc c d h.b a9k) a9k).2.1
def dW (a:ag):aC->Prop
 | .nil=>True
 | .node d live b c=>a.m (eR (cY (cr (d,live) (bo b) (bo c))))=some (cY (cr (d,live) (bo b) (bo c)))/\dW a b/\dW a c
def dW.mono {c d:ag} (a:c.le d): ∀ {h:aC},dW c h->dW d h
 | .nil,_=>trivial
 | .node _ _ _ _,b=>⟨a.m _ _ b.1,b.2.1.mono a,b.2.2.mono a⟩
def z8 (c:1<=e) (d:e<=8) {a:aC} (h:(aC.node q I a8 a).c9 e) (k:(aC.node q I a8 a).size<=1048576):bo (.node q I a8 a)≠aA:=λo=>by
 have b:=(fc c d h k).size;rw[o]at b;have:(aA).size=0:=rfl;simp only[aC.size]at b;omega
variable{H:ag}
def sW (b:1<=e) (c:e<=8) {a:aC} (d:(aC.node q I a8 a).c9 e) (h:(aC.node q I a8 a).size<=1048576) (k:dW H (.node q I a8 a)):fj H e (bo (.node q I a8 a))=some (cr (q,I) (bo a8) (bo a)):=by have o:=h;simp only[aC.size]at o;obtain⟨p,x,r⟩:=uY (I:=I) b c d.r (fc b c d.a a9k) (fc b c d.b a9k) a9k;unfold fj;rw[show H.m (bo (.node q I a8 a)).sum=some (cY (cr (q,I) (bo a8) (bo a)))from k.1];simp only;rw[D1 a9k p];simp only;rw[r];exact if_pos rfl
def uZ (b:1<=e) (c:e<=8) {a:aC} (d:(aC.node q I a8 a).c9 e) (h:(aC.node q I a8 a).size<=1048576) (k:dW H (.node q I a8 a)):kH H e (bo (.node q I a8 a))=some ((q,I),[bo a8,bo a]):=by unfold kH;rw[sW b c d h k];rfl
theorem za {b:Nat} (c:1<=b) (d:b<=8) {x:ag}: ∀ {a:aC}{z:Nat},a.c9 b->a.size<=1048576->dW x a->a.size<z-> ∃y,ed x b z (bo a)=some y/\y.Perm a.all
 |a,0,_,_,_,C=>by omega
 | .nil,z+1,_,_,_,_=>⟨[],by rw[ed];rfl,.refl _⟩
 | .node E live h k,z+1,o,p,r,C=>by
  have F:=fc c d o p;have G:=p;simp only[aC.size]at G C;rw[ed];by_cases D:(bo (.node E live h k)).live=0
  .rw[if_pos D];have S:=F.live;simp_all
  .rw[if_neg D,uZ c d o p r];obtain⟨T,L,V⟩:=za c d (z:=z) o.a a9k r.2.1 a9k;obtain⟨W,P,e⟩:=za c d (z:=z) o.b a9k r.2.2 a9k
   dsimp only
   rw[show [bo h,bo k].getD 0 aA=bo h from rfl,show [bo h,bo k].getD 1 aA=bo k from rfl,L,P];refine⟨_,rfl,?_⟩;grind[aC.all,List.append_assoc]
def Fz (a:1<=e) (b:e<=8) (c:a8.c9 e) (d:a8.size<=1048576) (k:dW H a8): ∃h,ed H e ((bo a8).size.toNat+1) (bo a8)=some h/\h.Perm a8.all:=by have o:=(fc a b c d).size;exact za a b c d k a9k
structure gb (a:ag) (t:aC) (r:Except Int ay×ag):Prop where
 le:a.le r.2
 ins:r.2.one=false->r.1= .ok (bo t)/\dW r.2 t
def gb.bind {o:aC}{h:Except Int ay×ag}{k:ay->ag->Except Int ay×ag} (c:gb H a8 h) (p: ∀(b:ay) (a:ag),a.le (k b a).2) (y: ∀a,H.le a->a.one=false->dW a a8->gb a o (k (bo a8) a)):
  gb H o (match(generalizing:=false) h with
   |(.error r,a)=>(.error r,a)
   |(.ok b,a)=>k b a):=by
 obtain⟨z,a⟩:=h;cases z with
 |error r=>exact⟨c.le,λd=>by cases (c.ins d).1⟩
 |ok b=>refine⟨c.le.trans (p b a),λd=> ?_⟩;have x:=(p b a).zero d;obtain⟨C,D⟩:=c.ins x;obtain rfl:=Except.ok.inj C;exact(y a c.le x D).ins d
theorem v7 (c:Nat): ∀(k:Nat) (d:ag) (b:List (List Int)) (dep:Nat),d.le (iJ c k d b dep).2
 |0,d,_,_=>ag.le_refl
 |k+1,d,b,dep=>by
  rw[iJ];split
  .exact ag.le_refl
  have h:=v7 c k d ((ec (dep%c) b).take (b.length/2)) (dep+1);split
  .rename_i a;rw[a]at h;exact h
  rename_i r p a;rw[a]at h;have o:=v7 c k p ((ec (dep%c) b).drop (b.length/2+1)) (dep+1);split
  .rename_i a;rw[a]at o;exact h.trans o
  rename_i x y a;rw[a]at o;exact(h.trans o).trans (jW)
theorem v8 (a:ag) (b:Nat) (c:ay) (d:Nat):a.le (mq a b c d).2:=by grind[mq,ag.le_refl,v7]
theorem sX (b:ag) (d:Nat) (h:List Int×Bool) (k o:ay) (p:Nat):b.le (mr b d h k o p).2:=by
 unfold mr;have a:=jW (H:=b) (e:=d) (c0:=cr h k o);split
 .rename_i c;rw[c]at a;exact a
 rename_i c;rw[c]at a;split
 .exact a.trans (v8 _ _ _ _)
 .exact a
def r8 (b:1<=e) (c:e<=8) {a:aC} (d:(aC.node q I a8 a).c9 e) (k:(aC.node q I a8 a).size<=1048576) (o:dW H a8) (p:dW H a):gb H (.node q I a8 a) (dv H e (cr (q,I) (bo a8) (bo a))):=by simp only[aC.size]at k;obtain⟨y,z,r⟩:=uY (I:=I) b c d.r (fc b c d.a a9k) (fc b c d.b a9k) a9k;rw[qQ r];have h:=lq H (cY (cr (q,I) (bo a8) (bo a)));exact⟨h,λx=>⟨rfl,qP x,o.mono h,p.mono h⟩⟩
theorem r9 {h:Nat}: ∀ {k:Nat}{b:List (List Int)}{dep:Nat}{c:List Int},c∈(fO h k b dep).rows->c∈b
 |0,_,_,_,a=>by trivial
 |k+1,b,dep,c,a=>by
  rw[fO]at a;by_cases d:b= []
  .rw[if_pos d]at a;trivial
  rw[if_neg d]at a;have o:=a5P.2 d;have p:=pz (dep%h) b;simp only[aC.rows,a5g,a4X]at a;rcases a with rfl|a|a
  .rw[a5A,a4H a9k];exact qV.1 (a5k _)
  .exact qV.1 (a4V (r9 a))
  .exact qV.1 (a5m (r9 a))
def zb (b:Nat) (a:List (List Int)) (c:Nat) (d: ∀h∈a,bL e h):(fO e b a c).c9 e:=λk o=>d k (r9 o)
theorem zc {b:Nat} (E:1<=b) (F:b<=8): ∀(d:Nat) (x:ag) (a k:List (List Int)) (dep:Nat),k.Perm a->(∀c∈a,bL b c)->a.length<=d->a.length<=1048576->gb x (fO b d a dep) (iJ b d x k dep)
 |0,x,a,k,dep,_,_,_,_=>⟨ag.le_refl,λ_=>⟨rfl,trivial⟩⟩
 |d+1,x,a,k,dep,C,y,s,t=>by
  have T:=C.length_eq;by_cases D:a= []
  .subst D;obtain rfl:k= []:=C.eq_nil;rw[iJ,if_pos rfl,fO,if_pos rfl];exact⟨ag.le_refl,λ_=>⟨rfl,trivial⟩⟩
  have V:k≠ []:=λW=>D (by subst W;simp_all);have u:=a5P.2 D;have e:ec (dep%b) k=ec (dep%b) a:=by obtain⟨G,f⟩:=sV λo z=>(y o z).len;obtain⟨g,i⟩:=sV λo z=>(y o (C.mem_iff.1 z)).len;exact yU (pH b _) (λo z=>(y o (G.mem_iff.1 z)).len) (g.trans (C.trans G.symm)) f i
  rw[iJ,if_neg V,fO,if_neg D,e,T];have v:=pz (dep%b) a;have hm:=λo=>qV (e:=dep%b) (Q:=a) (q:=o);generalize ec (dep%b) a=h at*;have L: ∀c∈h.take (a.length/2),bL b c:=λc p=>y c ((hm c).1 (a4V p));have P: ∀c∈h.drop (a.length/2+1),bL b c:=λc p=>y c ((hm c).1 (a5m p));have w:(h.take (a.length/2)).length=a.length/2:=by rw[a4K];omega
  have A:(h.drop (a.length/2+1)).length=a.length -(a.length/2+1):=by rw[a4Y];omega
  have B:=qW b d (h.take (a.length/2)) (dep+1);have H:=qW b d (h.drop (a.length/2+1)) (dep+1);have j:bL b (h.getD (a.length/2) []):=by grind
  refine gb.bind (zc E F d x _ _ (dep+1) (.refl _) L a9k a9k) (λl S=> ?_) λm I K n=> ?_
  .have r:=v7 b d S (h.drop (a.length/2+1)) (dep+1);split
   .rename_i p;rw[p]at r;exact r
   .rename_i p;rw[p]at r;exact r.trans (jW)
  .refine gb.bind (zc E F d m _ _ (dep+1) (.refl _) P a9k a9k) (λl S=>jW) λM r N q=> ?_;exact r8 E F (aC.c9.mk j (zb _ _ _ L) (zb _ _ _ P)) (by simp only[aC.size];omega) (n.mono r) q
def FA (b:1<=e) (c:e<=8) (d:a8.c9 e) (k:a8.size<=1048576) (o:dW H a8) (a:Nat):gb H (fO e a8.all.length a8.all a) (mq H e (bo a8) a):=by
 obtain⟨y,p,h⟩:=Fz b c d k o;have z:=lv a8;unfold mq;rw[p]
 dsimp only
 rw[h.length_eq];exact zc b c _ H _ _ a h (λr x=>d r (aC.gC x)) (a5n _) a9k
theorem zd (c:1<=e) (d:e<=8) {a:aC} (b:(aC.node q I a8 a).c9 e) (h:(aC.node q I a8 a).size<=1048576) (p:dW H a8) (r:dW H a) (k:Nat):gb H (hA e (.node q I a8 a) k) (mr H e (q,I) (bo a8) (bo a) k):=by
 have x:=h;simp only[aC.size]at x;have C:=(fc c d b h).size;have D:=(fc c d b.a a9k).size;have E:=(fc c d b.b a9k).size;unfold mr;refine gb.bind (r8 c d b h p r) (λF G=> ?_) λL P S y=> ?_;grind[v8,ag.le_refl]
 .have z:((2*(bo (.node q I a8 a)).size).tdiv 3+1<max (bo a8).size (bo a).size)↔max a8.size a.size>2*(aC.node q I a8 a).size/3+1:=by grind
  unfold hA
  dsimp only
  by_cases o:max a8.size a.size>2*(aC.node q I a8 a).size/3+1;simp_all [FA]
  .rw[if_neg (λb=>o (z.1 b)),if_neg o];exact⟨ag.le_refl,λ_=>⟨rfl,y⟩⟩
theorem ze (a:q∈(hA e a8 i).rows):q∈a8.rows:=by unfold hA at a;grind[aC.gC,r9]
theorem sY {h:Nat}{d:List Int}: ∀ {r:aC}{dep:Nat}{c:List Int},c∈(cZ h d r dep).1.rows->c=d\/c∈r.rows
 | .nil,dep,c,b=>by
  grind[cZ,aC.rows,List.mem_singleton]
 | .node k live o p,dep,c,b=>by
  rw[cZ]at b;split at b
  .have:=ze (a8:= .node k true o p) b;exact .inr this
  split at b
  .have a:=ze (a8:= .node k live (cZ h d o (dep+1)).1 p) b;simp only[aC.rows,a5g,a4X]at a|-;rcases a with a|a|a
   .simp_all
   .exact(sY a).imp_right λb=> .inr (.inl b)
   .simp_all
  .have a:=ze (a8:= .node k live o (cZ h d p (dep+1)).1) b;simp only[aC.rows,a5g,a4X]at a|-;rcases a with a|a|a
   .simp_all
   .simp_all
   .exact(sY a).imp_right λb=> .inr (.inr b)
def pJ (b:bL e q) (c:a8.c9 e):(cZ e q a8 i).1.c9 e:=λd a=>by
 rcases sY a with rfl|a
 .exact b
 .exact c d a
theorem zf {h:Nat}{k:List Int}: ∀(d:Nat) (c:ag) (o:ay) (dep:Nat),c.le (ji h k d c o dep).2
 |0,c,_,_=>ag.le_refl
 |d+1,c,o,dep=>by
  rw[ji];split
  .exact jW
  split
  .exact ag.le_refl
  rename_i r p x;split;grind[ag.le_refl,sX];split
  .have a:=zf (h:=h) (k:=k) d c (p.getD 0 aA) (dep+1);split
   .rename_i b;rw[b]at a;exact a
   .rename_i b;rw[b]at a;exact a.trans (sX _ _ _ _ _ _)
  .have a:=zf (h:=h) (k:=k) d c (p.getD 1 aA) (dep+1);split
   .rename_i b;rw[b]at a;exact a
   .rename_i b;rw[b]at a;exact a.trans (sX _ _ _ _ _ _)
def zg {h:Nat}{k:List Int}: ∀(d:Nat) (c:ag) (o:ay) (dep:Nat),c.le (gB h k d c o dep).2
 |0,c,_,_=>ag.le_refl
 |d+1,c,o,dep=>by
  rw[gB];split
  .exact ag.le_refl
  split
  .exact ag.le_refl
  rename_i r p x;split
  .split
   .exact jW
   .exact ag.le_refl
  split
  .have a:=zg (h:=h) (k:=k) d c (p.getD 0 aA) (dep+1);split
   .rename_i b;rw[b]at a;exact a
   .rename_i b;rw[b]at a;exact a.trans (jW)
  .have a:=zg (h:=h) (k:=k) d c (p.getD 1 aA) (dep+1);split
   .rename_i b;rw[b]at a;exact a
   .rename_i b;rw[b]at a;exact a.trans (jW)
theorem a1z (b:ag) (c:ay):b.le (iK e q b c).2:=by
 unfold iK;have a:=zg (h:=e) (k:=q) (c.size.toNat+1) b c 0;split
 .rename_i d;rw[d]at a;exact a
 rename_i d;rw[d]at a;split
 .exact a.trans (v8 _ _ _ _)
 .exact a
theorem zh {b:Nat} (c:1<=b) (d:b<=8) {h:List Int} (y:bL b h): ∀(k:aC) (o:ag) (r dep:Nat),k.c9 b->k.size+1<=1048576->dW o k->k.size<r->(cZ b h k dep).2=true->gb o (cZ b h k dep).1 (ji b h r o (bo k) dep)
 |k,o,0,dep,_,_,_,L,_=>by omega
 | .nil,o,r+1,dep,_,_,_,_,_=>by
  rw[ji,if_pos (show bo .nil=aA from rfl),cZ];exact r8 c d (aC.c9.mk y (λS D=>by cases D) (λS D=>by cases D)) (by trivial) trivial trivial
 | .node P live z C,o,r+1,dep,a,T,p,L,x=>by
  have V:=T;simp only[aC.size]at V L;rw[ji,if_neg (z8 c d a a9k),uZ c d a a9k p]
  dsimp only
  rw[show [bo z,bo C].getD 0 aA=bo z from rfl,show [bo z,bo C].getD 1 aA=bo C from rfl];rw[cZ]at x|-;by_cases E:P=h
  .simp only[if_pos E]at x|-;have W:live=false:=by simp_all
   rw[if_neg (by rw[W];simp)];exact zd c d (aC.c9.mk a.r a.a a.b) (by simp only[aC.size];omega) p.2.1 p.2.2 dep
  .by_cases c2:cK (dep%b) h P<0
   .simp only[if_neg E,if_pos c2]at x|-;have e:=pA b h z (dep+1);exact gb.bind (zh c d y z o r (dep+1) a.a a9k p.2.1 a9k x) (λf g=>sX _ _ _ _ _ _) λi F j G=>zd c d (aC.c9.mk a.r (pJ y a.a) a.b) (by simp only[aC.size];omega) G (p.2.2.mono F) dep
   .simp only[if_neg E,if_neg c2]at x|-;have e:=pA b h C (dep+1);exact gb.bind (zh c d y C o r (dep+1) a.b a9k p.2.2 a9k x) (λf g=>sX _ _ _ _ _ _) λi F j G=>zd c d (aC.c9.mk a.r a.a (pJ y a.b)) (by simp only[aC.size];omega) (p.2.1.mono F) G dep
def sZ {b:Nat}{c:List Int}: ∀ {a:aC}{dep:Nat},(cj b c a dep).1.rows=a.rows
 | .nil,dep=>rfl
 | .node d live h k,dep=>by
  rw[cj];split
  .rfl
  split
  .show _::(_++ _)= _::(_++ _);rw[sZ]
  .show _::(_++ _)= _::(_++ _);rw[sZ]
def ta (a:a8.c9 e):(cj e q a8 i).1.c9 e:=λb c=>a b (by rwa[sZ]at c)
def zi {c:Nat} (k:1<=c) (o:c<=8) {p:List Int}: ∀(d:aC) (h:ag) (x dep:Nat),d.c9 c->d.size<=1048576->dW h d->d.size<x->(cj c p d dep).2=true->gb h (cj c p d dep).1 (gB c p x h (bo d) dep)
 |d,h,0,dep,_,_,_,G,_=>by omega
 | .nil,h,x+1,dep,_,_,_,_,b=>by rw[cj]at b;cases b
 | .node L live y z,h,x+1,dep,a,C,r,G,b=>by
  have P:=C;simp only[aC.size]at P G;rw[gB,if_neg (z8 k o a C),uZ k o a C r]
  dsimp only
  rw[show [bo y,bo z].getD 0 aA=bo y from rfl,show [bo y,bo z].getD 1 aA=bo z from rfl];rw[cj]at b|-;by_cases D:L=p
  .simp only[if_pos D]at b|-;rw[if_pos b];exact r8 k o (aC.c9.mk a.r a.a a.b) (by simp only[aC.size];omega) r.2.1 r.2.2
  .by_cases c2:cK (dep%c) p L<0
   .simp only[if_neg D,if_pos c2]at b|-;have S:=pB c p y (dep+1);exact gb.bind (zi k o y h x (dep+1) a.a a9k r.2.1 a9k b) (λT V=>jW) λW E e F=>r8 k o (aC.c9.mk a.r (ta a.a) a.b) (by simp only[aC.size];omega) F (r.2.2.mono E)
   .simp only[if_neg D,if_neg c2]at b|-;have S:=pB c p z (dep+1);exact gb.bind (zi k o z h x (dep+1) a.b a9k r.2.2 a9k b) (λT V=>jW) λW E e F=>r8 k o (aC.c9.mk a.r a.a (ta a.b)) (by simp only[aC.size];omega) (r.2.1.mono E) F
theorem zj {b:Nat} (h:1<=b) (k:b<=8) {o:List Int}{y:ag}: ∀(a:aC) (c dep:Nat),a.c9 b->a.size<=1048576->dW y a->a.size<c->(cj b o a dep).2=false->gB b o c y (bo a) dep=(.error 9,y)
 |a,0,dep,_,_,_,D,_=>by omega
 | .nil,c+1,dep,_,_,_,_,d=>by rw[gB];rfl
 | .node E live p r,c+1,dep,x,z,C,D,d=>by
  have G:=z;simp only[aC.size]at G D;rw[gB,if_neg (z8 h k x z),uZ h k x z C]
  dsimp only
  rw[show [bo p,bo r].getD 0 aA=bo p from rfl,show [bo p,bo r].getD 1 aA=bo r from rfl];rw[cj]at d;by_cases F:E=o;simp_all
  .by_cases c2:cK (dep%b) o E<0
   .simp only[if_neg F,if_pos c2]at d|-;rw[zj h k p c (dep+1) x.a a9k C.2.1 a9k d]
   .simp only[if_neg F,if_neg c2]at d|-;rw[zj h k r c (dep+1) x.b a9k C.2.2 a9k d]
def a1A (a:1<=e) (b:e<=8) (d:bL e q) (c:a8.c9 e) (h:a8.size+1<=1048576) (k:dW H a8) (o:(cZ e q a8 0).2=true):gb H (cZ e q a8 0).1 (nF e q H (bo a8)):=by have:=(fc a b c a9k).size;exact zh a b d a8 H _ 0 c h k a9k o
theorem FB (a:1<=e) (b:e<=8) (c:a8.c9 e) (d:a8.size<=1048576) (h:dW H a8) (k:(cj e q a8 0).2=false):iK e q H (bo a8)=(.error 9,H):=by have:=(fc a b c d).size;grind[iK,zj]
theorem a1B (b:1<=e) (c:e<=8) (a:a8.c9 e) (d:a8.size<=1048576) (x:dW H a8) (h:(cj e q a8 0).2=true):gb H (lx e q a8).1 (iK e q H (bo a8)):=by
 have y:=(fc b c a d).size;have z:=pB e q a8 0;have k:=ta (q:=q) (i:=0) a;have o:=fc b c k a9k;have C:=o.size;have D:=o.live;unfold iK;refine gb.bind (zi b c a8 H _ 0 a d x a9k h) (λE F=> ?_) λG L P p=> ?_;grind[v8,ag.le_refl]
 .unfold lx;by_cases r:2*(cj e q a8 0).1.all.length<(cj e q a8 0).1.size
  .rw[if_pos (show(cj e q a8 0).2=true/\2*(cj e q a8 0).1.all.length<(cj e q a8 0).1.size from⟨h,r⟩),if_pos (show 2*(bo (cj e q a8 0).1).live<(bo (cj e q a8 0).1).size by omega)];exact FA b c k a9k p 0
  .rw[if_neg (show¬((cj e q a8 0).2=true/\2*(cj e q a8 0).1.all.length<(cj e q a8 0).1.size)from λa=>r a.2),if_neg (show¬2*(bo (cj e q a8 0).1).live<(bo (cj e q a8 0).1).size by omega)];exact⟨ag.le_refl,λ_=>⟨rfl,p⟩⟩
def aC.kM (a:Nat):aC->Nat->Prop
 | .nil,_=>True
 | .node c _ d h,dep=>(∀b∈d.rows,cK (dep%a) b c<0)/\(∀b∈h.rows,cK (dep%a) c b<0)/\d.kM a (dep+1)/\h.kM a (dep+1)
def aC.ra {c:Nat}: ∀ {k:aC}{dep:Nat},k.c9 c->k.kM c dep->k.all.Pairwise (·≠ ·)
 | .nil,_,_,_=> .nil
 | .node y live D E,dep,b,⟨h1,r,z,C⟩=>by
  have o:=pH c (dep%c);rw[aC.all];refine a5K.2 ⟨a5K.2 ⟨aC.ra b.a z,aC.ra b.b C,λd a x h p=> ?_⟩,by cases live<;>simp,λd a x h p=> ?_⟩
  .subst p;exact o.yT (b.a d (aC.gC a)).len b.r.len (h1 d (aC.gC a)) (r d (aC.gC h))
  .obtain rfl:x=y:=by cases live<;>simp at h;exact h
   subst p;rcases a4X.1 a with a|a
   .exact o.ja _ b.r.len (h1 _ (aC.gC a))
   .exact o.ja _ b.r.len (r _ (aC.gC a))
variable{Q:List (List Int)}
theorem FC (a:e<Q.length):Q=Q.take e++Q.getD e []::Q.drop (e+1):=by simp_all
theorem va {h:Nat}: ∀(c:Nat) (a:List (List Int)) (dep:Nat),a.length<=c->(∀b∈a,b.length=h)->(fO h c a dep).all.Perm a
 |0,a,dep,x,_=>by
  obtain rfl:a= []:=a4N a9k;rfl
 |c+1,a,dep,x,p=>by
  rw[fO];by_cases k:a= []
  .rw[if_pos k,k];rfl
  rw[if_neg k];have y:=a5P.2 k;have r:=(sV (e:=dep%h) p).1;have z:=r.length_eq;have hm:=λb d=>p b (r.mem_iff.1 d);generalize ec (dep%h) a=o at*;have C:=FC (Q:=o) (e:=a.length/2) a9k;have D:=va c (o.take (a.length/2)) (dep+1) (by rw[a4K];omega) λb d=>hm b (a4V d);have E:=va c (o.drop (a.length/2+1)) (dep+1) (by rw[a4Y];omega) λb d=>hm b (a5m d);rw[aC.all,if_pos rfl];grind
def zk (a:a8.c9 e):(hA e a8 i).all.Perm a8.all:=by
 unfold hA;split
 .rfl
 .split
  .exact va _ _ _ (a5n _) λb c=>(a b (aC.gC c)).len
  .rfl
theorem zl {d:Nat}{b:List Int} (h:bL d b): ∀ {k:aC}{dep:Nat},k.c9 d->(cZ d b k dep).2=true->(cZ d b k dep).1.all.Perm (b::k.all)
 | .nil,dep,_,_=> .refl _
 | .node p live x y,dep,a,c=>by
  rw[cZ]at c|-;by_cases o:p=b
  .simp only[if_pos o]at c|-;have r:live=false:=by simp_all
   refine(zk (aC.c9.mk a.r a.a a.b)).trans ?_;simp only[aC.all,if_pos,r,o];grind
  .by_cases c2:cK (dep%d) b p<0
   .simp only[if_neg o,if_pos c2]at c|-;refine(zk (aC.c9.mk a.r (pJ h a.a) a.b)).trans ?_;exact((zl h a.a c).append_right _).append_right _
   .simp only[if_neg o,if_neg c2]at c|-;refine(zk (aC.c9.mk a.r a.a (pJ h a.b))).trans ?_;refine(((zl h a.b c).append_left _).append_right _).trans ?_;exact a7i.append_right _
theorem zm {c:Nat}{b:List Int}: ∀ {d:aC}{dep:Nat},(cZ c b d dep).2=false->b∈d.all
 | .nil,dep,a=>by rw[cZ]at a;cases a
 | .node h live o p,dep,a=>by
  rw[cZ]at a;simp only[aC.all,a4X];by_cases k:h=b;simp_all
  .by_cases c2:cK (dep%c) b h<0
   .simp only[if_neg k,if_pos c2]at a;exact .inl (.inl (zm a))
   .simp only[if_neg k,if_neg c2]at a;exact .inl (.inr (zm a))
theorem vb {d:Nat}{b:List Int}: ∀ {h:aC}{dep:Nat},(cj d b h dep).2=true->h.all.Perm (b::(cj d b h dep).1.all)
 | .nil,dep,a=>by rw[cj]at a;cases a
 | .node k live o p,dep,a=>by
  rw[cj]at a|-;by_cases c:k=b
  .simp only[if_pos c]at a|-;simp only[aC.all,if_pos a,c];grind
  .by_cases c2:cK (dep%d) b k<0
   .simp only[if_neg c,if_pos c2]at a|-;exact((vb a).append_right _).append_right _
   .simp only[if_neg c,if_neg c2]at a|-;refine(((vb a).append_left _).append_right _).trans ?_;exact a7i.append_right _
theorem zn {b:Nat}{d:List Int} (k:d.length=b): ∀ {o:aC}{dep:Nat},o.c9 b->o.kM b dep->(cj b d o dep).2=false->d∉o.all
 | .nil,dep,_,_,_=>λh=>by cases h
 | .node r live E F,dep,h,⟨h1,y,C,D⟩,c=>by
  have x:=pH b (dep%b);intro a;rw[cj]at c;simp only[aC.all,a4X]at a;by_cases p:r=d
  .simp only[if_pos p]at c;subst p;rcases a with (a|a)|a
   .exact x.ja _ k (h1 _ (aC.gC a))
   .exact x.ja _ k (y _ (aC.gC a))
   .rw[c]at a;simp at a
  .have z:d∉(if live=true then [r]else []):=λh=>by
    simp_all
   by_cases c2:cK (dep%b) d r<0
   .simp only[if_neg p,if_pos c2]at c;rcases a with (a|a)|a
    .exact zn k h.a C c a
    .exact x.yT k h.r.len c2 (y _ (aC.gC a))
    .exact z a
   .simp only[if_neg p,if_neg c2]at c;rcases a with (a|a)|a
    .exact c2 (h1 _ (aC.gC a))
    .exact zn k h.b D c a
    .exact z a
theorem vc {a:Nat}: ∀(p:Nat) (c:List (List Int)) (dep:Nat),(∀b∈c,b.length=a)->c.Pairwise (·≠ ·)->(fO a p c dep).kM a dep
 |0,_,_,_,_=>trivial
 |p+1,c,dep,z,D=>by
  rw[fO];by_cases r:c= []
  .rw[if_pos r];trivial
  rw[if_neg r];have g:=a5P.2 r;obtain⟨x,E⟩:=sV (e:=dep%a) z;have i:=x.length_eq;have hm:=λb d=>z b (x.mem_iff.1 d);have y:(ec (dep%a) c).Pairwise (·≠ ·):=x.symm.pairwise D λk=>k.symm;have F:=pH a (dep%a);have C:(ec (dep%a) c).Pairwise (λG L=>cK (dep%a) G L<0):=by
   refine a7L ?_ (E.and y);intro h b o d j;rcases F.r4 h b (hm h o) (hm b d)with k|k|k
   .exact k
   .simp_all
   .omega
  generalize ec (dep%a) c=P at*;have S:=FC (Q:=P) (e:=c.length/2) a9k;rw[S]at C y;obtain⟨l,T,V⟩:=a5K.1 C;obtain⟨W,m⟩:=a5r.1 T;obtain⟨e,f,_⟩:=a5K.1 y;refine⟨λh o=>V h (r9 o) _ a9l,λh o=>W h (r9 o),?_,?_⟩
  .exact vc p _ _ (λb d=>hm b (a4V d)) e
  .exact vc p _ _ (λb d=>hm b (a5m d)) (a5r.1 f).2
def zo (a:a8.c9 e) (b:a8.kM e i):(hA e a8 i).kM e i:=by
 unfold hA;split
 .trivial
 .split
  .exact vc _ _ _ (λc d=>(a c (aC.gC d)).len) (aC.ra a b)
  .exact b
theorem zp {c:Nat}{k:List Int} (h:bL c k): ∀ {o:aC}{dep:Nat},o.c9 c->o.kM c dep->(cZ c k o dep).1.kM c dep
 | .nil,dep,_,_=>⟨λd b=>(by cases b),λd b=>(by cases b),trivial,trivial⟩
 | .node p live D E,dep,a,⟨h1,r,x,y⟩=>by
  have C:=pH c (dep%c);rw[cZ];by_cases z:p=k
  .simp only[if_pos z];exact zo (aC.c9.mk a.r a.a a.b) ⟨h1,r,x,y⟩
  .by_cases c2:cK (dep%c) k p<0
   .simp only[if_neg z,if_pos c2];refine zo (aC.c9.mk a.r (pJ h a.a) a.b) ⟨λd b=> ?_,r,zp h a.a x,y⟩;rcases sY b with rfl|b
    .exact c2
    .exact h1 d b
   .simp only[if_neg z,if_neg c2];refine zo (aC.c9.mk a.r a.a (pJ h a.b)) ⟨h1,λd b=> ?_,x,zp h a.b y⟩;rcases sY b with rfl|b
    .rcases C.r4 d p h.len a.r.len with a|a|a
     .trivial
     .simp_all
     .exact a
    .exact r d b
def zq {a:Nat}{k:List Int}: ∀ {b:aC}{dep:Nat},b.kM a dep->(cj a k b dep).1.kM a dep
 | .nil,dep,_=>trivial
 | .node o live p r,dep,⟨h1,c,d,h⟩=>by
  rw[cj];split
  .trivial
  split
  .exact⟨by rw[sZ];exact h1,c,zq d,h⟩
  .exact⟨h1,by rw[sZ];exact c,d,zq h⟩
structure lA (d n:Nat) (t:aC):Prop where
 fe:t.c9 d
 vd:t.kM d 0
 cp:t.size<=n
theorem lA.nil {a n:Nat}:lA a n .nil:=⟨λc b=>(by cases b),trivial,a5o _⟩
def lA.ins (a:lA e i a8) (b:bL e q):lA e (i+1) (cZ e q a8 0).1:=⟨pJ b a.fe,zp b a.fe a.vd,by have:=pA e q a8 0;have:=a.cp;omega⟩
theorem lA.del (b:lA e i a8):lA e i (lx e q a8).1:=by
 have a:=ta (q:=q) (i:=0) b.fe;have c:=zq (k:=q) b.vd;have p:=pB e q a8 0;have r:=lv (cj e q a8 0).1;have x:=b.cp;unfold lx;split
 .refine⟨zb _ _ _ λd h=>a d (aC.gC h),vc _ _ _ (λk o=>(a k (aC.gC o)).len) (aC.ra a c),?_⟩;grind[qW,cj]
 .exact⟨a,c,a9k⟩
def a1C (a:lA e i a8) (b:(cj e q a8 0).2=true):a8.all.Perm (q::(lx e q a8).1.all):=by
 have c:=ta (q:=q) (i:=0) a.fe;refine(vb b).trans (.cons _ ?_);unfold lx;split
 .exact(va _ _ _ (a5n _) λd h=>(c d (aC.gC h)).len).symm
 .rfl
structure nG (c:U) (x:R) (b:List UInt8):Prop where
 one:x.cells= [x]
 len:fb x=some (.v (.int .i64 b.length))
 src: ∀a,c.sub a->o5 a x b
variable{n b3:R}{f t e4:U}{B:List UInt8}
theorem nG.an (a:fF t f B n):nG f n B:=by obtain⟨h,b,k,c⟩:=a.src;simp only[a4T,a5y]at b;subst b;refine⟨?_,c,λo d=>fF.lY (a.mono d)⟩;rcases a.2 with ⟨_,rfl|rfl⟩|⟨_,_,_,_,rfl,_⟩<;>rfl
def nG.mono (a:nG f n B) (b:f.sub t):nG t n B:=⟨a.one,a.len,λd c=>a.src _ (U.au b c)⟩
def a1D (c:UInt8) (b:List UInt8) (d:R) (h:Nat) (a:U) (k:nG a d b) (y:b.length<=900000) (p:a h=some (.cells [d])):
  AC Tryz.prog 192 [.v (.int .u8 (c.toNat:Int)),.an h 1 1 1] a λr x=>fF a x (preB c [b]) r:=
 a0p c [(d,b)] h a p (λz o=>by rw[a5b]at o;subst o;exact .inr ⟨k.src _ U.a1,k.len⟩) (by simp[preB,chunk,cH];omega)
theorem a1E (b:B.length=32) (a:R):(cJ B).cells.length=32/\putAt (List.replicate 32 a) 0 (cJ B).cells=(cJ B).cells/\(.agg ((cJ B).cells.take 32):R)=cJ B:=by grind[cJ,R.cells,putAt,List.take_of_length_le]
def a1F (b:List UInt8) (a:R) (c:U) (k:nG c a b) (y:b.length<=900000):
  AC Tryz.prog 177 [a] c λo z=>z=c/\o=cJ (eR b):=by
 have p:=k.one;refine aM hm Oy ?_;refine bp λF C=> ?_;refine eP (by simp[aT,p]) a9l λD E=> ?_;rw[show flat [a]= [a] by simp[flat,p]];have r:=U.ae (Y:= .cells (List.replicate 32 (.v (.int .u8 0)))) (U.a1) C;have d:=U.ae (Y:= .cells [a]) (U.a1) E;refine aa ?_;refine hN (a1D 80 b a D _ (k.mono (U.au r d)) y (U.ah _ _ _)) λo G h=> ?_;have x:=nG.an h;have L:=U.aI (h.sub _ _ (d _ _ (U.ah _ _ _)));have P:=a1E (sg (preB 80 [b])) (.v (.int .u8 0));refine bh (a0m _ (by simp[preB,chunk,cH];omega) _ _ (x.src _ U.a1) x.len) ?_;exact⟨U.au (U.au r d) h.sub,rfl⟩
theorem FD (c b:List Int) (p r:Own) (d:Nat) (k:U) (D:d<=1000000):
  AC Tryz.prog 41 [et c b p r,.v (.int .i64 (d:Int))] k λx y=>y=k/\x= .v (.bool (cR c b d)):=by
 have E:=bH (q:=c);have F:=bH (q:=b);have G:= @dJ c;have L:= @dJ b;refine aM hm Kz ?_;refine bp λP S=> ?_
 repeat' first|refine aG (λ_=> ?_) λ_=> ?_|trivial
 all_goals try (rw[cR];exact aO)
 refine gK [1,2] (λa:Nat=> [(5,.v (.int .i64 a))]) (λa=>a<=d/\ ∀h<a,decide (c.getD h 0<=b.getD h 0)=true) (λa=>d - a) 0 ⟨a9k,λh z=>by omega⟩ aS ?_;rintro a ⟨b,o⟩ T;refine aa ?_;refine aG (λC=> ?_) λC=> ?_
 .repeat' first|refine aG (λ_=> ?_) λ_=> ?_|trivial
  grind[cR,sb,decide_eq_false_iff_not,aO]
  .exact⟨a+1,⟨a9k,upto o (by simp only[decide_eq_true_eq];omega)⟩,rfl,a9k⟩
 .rw[cR,sc λh z=>o h a9k];exact aO
end Go.Proofs.YtlgnfcaolejgeaaGreat
