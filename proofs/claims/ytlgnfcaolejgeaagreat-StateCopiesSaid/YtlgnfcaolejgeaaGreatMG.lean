import Derived.Test.YtlgnfcaolejgeaaGreatMF
import Derived.Test.YtlgnfcaolejgeaaGreatMC
import Derived.Test.YtlgnfcaolejgeaaGreatMB
set_option linter.all false
set_option maxRecDepth 100000
namespace Go.Proofs.YtlgnfcaolejgeaaGreat
open Go Go.bx
abbrev fQ:kF:=⟨0,0,[]⟩
def qW (a:Nat):fQ.ok a=decide (1<=a/\a<=8):=by simp[kF.ok]
def nw (a:Int):Nat:=(IntKind.u64.wrap ((BitVec.ofInt 64 (IntKind.u64.wrap a)^^^BitVec.ofInt 64 9223372036854775808).toNat:Int)).toNat
def a0w (a:Int):bn .xor (.int .u64 (IntKind.u64.wrap a)) (.int .u64 9223372036854775808)=some (.int .u64 (nw a:Int)):=by have b:bn .xor (.int .u64 (IntKind.u64.wrap a)) (.int .u64 9223372036854775808)=some (.int .u64 (IntKind.u64.wrap ((BitVec.ofInt 64 (IntKind.u64.wrap a)^^^BitVec.ofInt 64 9223372036854775808).toNat))):=rfl;rw[b,nw,a6a];exact Int.emod_nonneg _ a9d
def F3 (a:Int) (b:U):AC Tryz.prog 200 [.v (.int .i64 a)] b λc d=>d=b/\c=ig 0 (nw a):=by have h:=a0w a;refine aN hm P8 ?_;refine bp λk o=> ?_;rfl
variable{q b6:List Int}
def mn (b:0<q.length) (a:Own):cL 1 (.J (ad q) a) (.v (.int .i64 0))=some (.bV [.v (.int .i64 (q.getD 0 0))]):=by have:=o0 (e:=1) (g:=ad q) (M:=a) (e2:= .i64) (i:=0);rw[dJ b]at this;exact this
def yD (a:List Int):R:=if 1<=a.length/\a.length<=8 then .aK [ig 0 (nw (a.getD 0 0)),.v (.int .i64 0)]else .aK [ig 0 0,.v (.int .i64 1)]
def yE (c d:Own) (a:List Int) (b:U) (k:a.length<=1000000000000):AC Tryz.prog 280 [fQ.V c,.J (ad a) d] b λo p=>p=b/\o=yD a:=by
 have x:=bH (q:=a);have y:= @dJ a;have h:=λb=>uK fQ c a.length b k a9a;simp only[qW]at h;refine aN hm QY ?_;refine bp λz C=> ?_;refine cW λD E F G=> ?_;refine bc (h _) ?_;rw[yD];refine aG (λr=> ?_) λr=> ?_
 .rfl
 .have L:=mn (q:=a) a8Z d;refine aa ?_;refine bc (F3 _ _) ?_;rfl
def yF (a b:Nat) (h:Int) (c d:Nat) (k:Int):Bool:=if qV a b c d=0 then decide (h<k)else decide (qV a b c d<0)
theorem F4 (a b c d:Nat) (h k:Int) (o:U):AC Tryz.prog 281 [ig a b,.v (.int .i64 h),ig c d,.v (.int .i64 k)] o λp r=>r=o/\p= .v (.bool (yF a b h c d k)):=by
 refine aN hm R0 ?_;refine bp λx y=> ?_;refine cW λz C D E=> ?_;refine bc (F0 _ _ _ _ _) ?_
 repeat' first|refine aG (λ_=> ?_) λ_=> ?_|trivial
 all_goals simp_all [yF,if_pos,if_neg]
def oz (a:List Int):Prop:=1<=a.length/\a.length<=8
def yG (a:oz q):yD q= .aK [ig 0 (nw (q.getD 0 0)),.v (.int .i64 0)]:=if_pos a
def sL (a b:List Int):Bool:=yF 0 (nw (a.getD 0 0)) (a.getD 0 0) 0 (nw (b.getD 0 0)) (b.getD 0 0)
def F5 (o c d:Own) (a b:List Int) (h:U) (k:oz a) (y:b.length=a.length):AC Tryz.prog 220 [fQ.V o,.J (ad a) c,.J (ad b) d] h λp r=>r=h/\p= .v (.bool (sL a b)):=by have z:=bH (q:=a);have C:=bH (q:=b);have D:= @dJ a;have E:= @dJ b;have x:=id k;obtain⟨F,G⟩:=k;have L:=yG x;have P:=yG (q:=b) ⟨a8Z,a8Z⟩;refine aN hm PE ?_;refine bp λS T=> ?_;refine bc (yE _ _ a _ a8Z) ?_;have V:=mn (q:=a) a8Z c;have W:=mn (q:=b) a8Z d;refine cW λe f g i=> ?_;refine bc (yE _ _ b _ a8Z) ?_;refine hp λj l _ _ _ _=> ?_;refine bc (F4 _ _ _ _ _ _ _) ?_;rfl
abbrev a0x:=sL
def sM (a b:List Int):Int:=if sL a b=true then -1 else if sL b a=true then 1 else 0
theorem a0y (d r x:Own) (a b:List Int) (h:U) (p:Nat) (C:h.read p=some [.v (.int .u8 0),.v (.int .i64 0),.J (ad []) d]) (k:oz a) (c:b.length=a.length):AC Tryz.prog 219 [.J (ad a) r,.J (ad b) x,.ptr p 0] h λy z=>z=h/\y= .v (.int .i64 (sM a b)):=by
 refine aN hm PC ?_;refine bc (F5 d _ _ a b _ k c) ?_;refine aG (λo=> ?_) λo=> ?_
 .rw[sM,if_pos o]
 .refine bc (F5 d _ _ b a _ ⟨by rw[c];exact k.1,by rw[c];exact k.2⟩ c.symm) ?_;refine aG (λc2=> ?_) λc2=> ?_
  .rw[sM,if_neg (by simp[o]),if_pos c2]
  simp_all [sM]
theorem F6 (h c k:Own) (a b:List Int) (d:U) (o:cP a b a.length=true):AC Tryz.prog 132 [fQ.V h,er a b c k] d λp r=>r=d/\p= .aK [ig 0 (nw (a.getD 0 0)),.v (.int .i64 (a.getD 0 0)),.v (.int .i64 0)]:=by
 obtain⟨x,y,z,C⟩:=lg o;have D:=bH (q:=a);have E:fQ.ok a.length=true:=by rw[qW];simp_all
 have F:=mn (q:=a) a8Z c;refine aN hm MZ ?_;refine bp λG L=> ?_;refine cW λP S T V=> ?_;refine hp λW e f g a3 a4=> ?_;refine bc (od _ a b _ _ _ a8Z) ?_;refine bc (uK fQ _ _ _ a8Z a9a) ?_;refine bc (F3 _ _) ?_;refine x1 λi j l m n q s t=> ?_;rfl
def a0z (d p r h:Own) (a c b:List Int) (k:U) (o:cP a c a.length=true) (z:b.length=a.length):AC Tryz.prog 205 [fQ.V d,er a c p r,.J (ad b) h] k λx y=>y=k/\x= .v (.bool (a0x b a)):=by obtain⟨C,D,E,F⟩:=lg o;have G:=bH (q:=a);have L:=bH (q:=b);have P:=mn (q:=b) a8Z h;have S:=yG (q:=b) ⟨a8Z,a8Z⟩;refine aN hm Pa ?_;refine bp λT V=> ?_;refine cW λW e f g=> ?_;refine bc (F6 d _ _ a c _ o) ?_;refine hp λi j l m a3 a4=> ?_;refine bc (yE _ _ b _ a8Z) ?_;refine x1 λn q s t u v w A=> ?_;refine bc (F4 _ _ _ _ _ _ _) ?_;rfl
def a0A (a:Nat) (k:a<=8) (b:U):AC Tryz.prog 143 [.v (.int .u64 1),.v (.int .u64 (a:Int))] b λc d=>d=b/\c= .aK [.v (.int .u64 0),.v (.int .u64 (a:Int))]:=by
 have h:AC Tryz.prog 222 [.v (.int .u64 1),.v (.int .u64 (a:Int))] b λc d=>d=b/\c= .aK [.v (.int .u64 0),.v (.int .u64 (a:Int))]:=by
  have o:bn .and (.int .u64 1) (.int .u64 4294967295)=some (.int .u64 1):=by rfl
  have p:bn .shr (.int .u64 1) (.int .u64 32)=some (.int .u64 0):=by rfl
  obtain⟨r,x⟩:bn .and (.int .u64 (a)) (.int .u64 4294967295)=some (.int .u64 (a))/\bn .shr (.int .u64 (a)) (.int .u64 32)=some (.int .u64 0):=by
   obtain rfl|rfl|rfl|rfl|rfl|rfl|rfl|rfl|rfl:a=0\/a=1\/a=2\/a=3\/a=4\/a=5\/a=6\/a=7\/a=8:=a8Z
   all_goals exact⟨a9e,a9e⟩
  have y:bn .shr (.int .u64 0) (.int .u64 32)=some (.int .u64 0):=by rfl
  have z:bn .and (.int .u64 0) (.int .u64 4294967295)=some (.int .u64 0):=by rfl
  have C:(1)*(a:Int)=a:=Int.one_mul _;have D:(0)*(a:Int)=0:=Int.zero_mul _;exact aN hm PG trivial
 refine aN hm Nk ?_;exact bc h trivial
variable{n b3:R}
def a0B: ∀ {a:Nat},(List.replicate a [n]).flatten=List.replicate a n
 |0=>rfl
 |a+1=>by simp
theorem F7 (b:Nat) (z:1<=b) (C:b<=8) (d:Int) (r:Own) (h:U):AC Tryz.prog 75 [.J [.v (.int .i64 d)] r,.v (.int .i64 (b:Int))] h λD p=>au h p 1 (ad (List.replicate b d)) D:=by
 refine aN hm Lm ?_;refine iu ?_;refine bc (a0A b C h) ?_;refine iu ?_;refine wM a8Z a8Z λc x=> ?_;rw[a0B];have T:lN 1 (.an c b b 1) (.J [.v (.int .i64 d)] r) (h.set c (.cells (List.replicate b (.v (.int .i64 0)))))=some (.v (.int .i64 1),h.set c (.cells (List.replicate 1 (.v (.int .i64 d))++List.replicate (b - 1) (.v (.int .i64 0))))):=by obtain⟨o,rfl⟩: ∃o,b=o+1:=⟨b - 1,a8Z⟩;simp[lN,bN,U.ah,U.set_set,flat,R.cells,putAt]
 refine aa ?_;refine ch [7] (λa:Nat=> [(8,.v (.int .i64 (a)))]) (λa p=>1<=a/\a<=b/\p=h.set c (.cells (List.replicate a (.v (.int .i64 d))++List.replicate (b - a) (.v (.int .i64 0))))) (λa=>b - a) 1 ⟨⟨a5c _,z,rfl⟩,aR⟩ ?_;rintro a _ ⟨V,E,rfl⟩ W;refine aa ?_;refine aG (λF=> ?_) λF=> ?_
 .have e:cg 1 (.an c b b 1) (some (.v (.int .i64 (a)))) none none=some (.bA c a (b - a) (b - a) 1):=by simp_all [gk]
  have f:cg 1 (.an c b b 1) none (some (.v (.int .i64 (a)))) none=some (.an c a b 1):=hL E;generalize y:List.replicate a (R.v (.int .i64 d))++List.replicate (b - a) (.v (.int .i64 0))=k;have G:k.length=b:=by subst y;simp;omega
  have L:bN (h.set c (.cells k)) 1 (.an c a b 1)=some (a,List.replicate a (.v (.int .i64 d))):=by have P:(h.set c (.cells k)).read c=some k:=U.ae (U.ah _ _ _);simp only[bN,P,G,a5n];grind
  have S:=hn (O:=a) (i:=b - a) (j0:=b - a) L (U.ah h c (.cells k)) a8Z;have o:putAt k a ((List.replicate a (R.v (.int .i64 d))).take ((b - a)*1))=List.replicate (a+min a (b - a)) (.v (.int .i64 d))++List.replicate (b -(a+min a (b - a))) (.v (.int .i64 0)):=by subst y;rw[a5n,List.take_replicate,putAt,a6J a9a,a6o,Nat.min_comm (b - a) a,<-List.replicate_append_replicate,a5V,a6o,a5k a9a,a4P,List.drop_replicate];congr 2;omega
  rw[o,U.set_set]at S;refine aa ?_;exact⟨a+min a (b - a),⟨a8Z,a8Z,rfl⟩,by congr 2,a8Z⟩
 .obtain rfl:a=b:=a8Z;refine⟨_,U.a1,U.af U.a1 x,.inr ⟨c,a,a,_,rfl,x,U.ah _ _ _,?_,?_,?_,a5c _,by unfold maxLen;omega⟩⟩
  .simp
  .simp[ad]
  .simp[ad]
def iI:Int:= -9223372036854775808
def jh:Int:=9223372036854775807
def a0C (a:Nat) (p:1<=a) (r:a<=8) (h:U):AC Tryz.prog 40 [.v (.int .i64 (a:Int))] h λC D=> ∃b c,C= .agg [b,c]/\ph h D (List.replicate a iI) (List.replicate a jh) b c:=by have L: ¬(a:Int)<1:=a8Z;have P: ¬8<(a:Int):=a8Z;refine aN hm Ku ?_;refine bp λx k=> ?_;have S:=k;refine X5 λT E V y=> ?_;refine hN (F7 a p r iI _ _) λb W o=> ?_;have z:=o.1 _ _ ((U.ao _ _ y).trans (U.ah h x (.cells [.J [] .nil,.J [] .nil])));refine jI λe F=> ?_;refine hN (F7 a p r jh _ _) λc f d=> ?_;have d:=d.base (U.af U.a1 F);have c2:=U.aJ (d.1 _ _ z);have g:=fI o;have i:=fI d;refine aa ?_;have G:=(jL (Y:= .cells [b,c]) o ((U.ao _ _ y).trans (U.ah h x (.cells [.J [] .nil,.J [] .nil])))).base (U.af (U.af (U.af U.a1 k) E) k);exact⟨_,U.a1,b,c,rfl,_,G,jL d z⟩
def pC (a:Nat) (b:Bool):aq:=⟨38,5,
(.seq
(.plain (bD 10 (.eZ (lS 0))::[]))
(.block 0
(.loop
(.seq
(.seq
(.plain (aB 11 10::aB 12 3::cD 13 .lss 11 12::[]))
(.cond (aF 13)
.skip
(.exit 0)))
(.seq
(.block 1
(.draw (aB 16 0::aB 17 1::aB 18 10::cD 19 .add 17 18::aB 20 0::aB 21 2::aB 22 10::cD 23 .add 21 22::aB 24 0::aB 25 2::aB 26 10::cD 27 .add 25 26::bD 28 (.dG a (aF 24) (aF 27))::bD 29 (.load b a (aF 28))::aB 30 0::aB 31 1::aB 32 10::cD 33 .add 31 32::bD 34 (.dG a (aF 30) (aF 33))::bD 35 (.load b a (aF 34))::bD 36 (.dG a (aF 16) (aF 19))::on (.store a (aF 36) (aF 29))::bD 37 (.dG a (aF 20) (aF 23))::on (.store a (aF 37) (aF 35))::[])
(bf 0::bf 1::bf 2::bf 3::bf 4::bf 5::bf 6::bf 7::bf 8::bf 9::bf 10::bf 11::bf 12::bf 13::bf 14::bf 15::bf 16::bf 17::bf 18::bf 19::bf 20::bf 21::bf 22::bf 23:: [])))
(.plain (aB 14 10::ft 15 .add 14 1::aB 10 15::[]))))))),[]⟩
def a0D:dr Tryz.prog 0 327=some (pC 41 true):=a9e
def a0E:dr Tryz.prog 0 357=some (pC 1 false):=a9e
def qX (b:Nat) (c:Bool) (a:FuncId):aq:=⟨58,5,
(.seq
(.plain (aB 12 2::aB 13 1::cD 14 .sub 12 13::aB 10 14::[]))
(.seq
(.plain (aB 15 3::aB 16 2::cD 17 .sub 15 16::aB 11 17::[]))
(.seq
(.block 0
(.loop
(.seq
(.seq
(.plain (aB 18 10::aB 19 11::cD 20 .neq 18 19::[]))
(.cond (aF 20)
.skip
(.exit 0)))
(.block 1
(.seq
(.plain (aB 21 10::aB 22 11::cD 23 .gtr 21 22::[]))
(.cond (aF 23)
(.seq
(.plain (aB 24 0::aB 25 2::aB 26 10::cD 27 .sub 25 26::aB 28 2::aB 29 11::aB 30 4::bD 31 (.fT a [(aF 24),(aF 27),(aF 28),(aF 29),(aF 30)])::[]))
(.plain (aB 32 10::aB 33 11::cD 34 .sub 32 33::aB 10 34::[])))
(.seq
(.plain (aB 35 0::aB 36 2::aB 37 10::cD 38 .sub 36 37::aB 39 2::aB 40 11::cD 41 .add 39 40::aB 42 10::cD 43 .sub 41 42::aB 44 10::aB 45 4::bD 46 (.fT a [(aF 35),(aF 38),(aF 43),(aF 44),(aF 45)])::[]))
(.plain (aB 47 11::aB 48 10::cD 49 .sub 47 48::aB 11 49::[])))))))))
(.plain (aB 50 0::aB 51 2::aB 52 10::cD 53 .sub 51 52::aB 54 2::aB 55 10::aB 56 4::bD 57 (.fT a [(aF 50),(aF 53),(aF 54),(aF 55),(aF 56)])::[]))))),[]⟩
def a0F:dr Tryz.prog 0 279=some (qX 41 true 327):=a9e
def a0G:dr Tryz.prog 0 351=some (qX 1 false 357):=a9e
def sN (a:Nat) (b:Bool):aq:=⟨53,4,
(.seq
(.plain (aB 10 1::ft 11 .add 10 1::aB 8 11::[]))
(.block 0
(.loop
(.seq
(.seq
(.plain (aB 12 8::aB 13 2::cD 14 .lss 12 13::[]))
(.cond (aF 14)
.skip
(.exit 0)))
(.seq
(.block 1
(.seq
(.plain (aB 17 8::aB 9 17::[]))
(.block 2
(.loop
(.seq
(.seq
(.draw (aB 18 9::aB 19 1::cD 20 .gtr 18 19::aB 21 20::fa 21 true 22 (.eZ (aF 3))::fa 21 true 23 (.eZ (aF 0))::fa 21 true 24 (.eZ (aF 9))::fa 21 true 25 (.dG a (aF 23) (aF 24))::fa 21 true 26 (.load b a (aF 25))::fa 21 true 27 (.eZ (aF 0))::fa 21 true 28 (.eZ (aF 9))::fa 21 true 29 (.bin .sub (aF 28) (lS 1))::fa 21 true 30 (.dG a (aF 27) (aF 29))::fa 21 true 31 (.load b a (aF 30))::fa 21 true 32 (.iO (aF 22) [(aF 26),(aF 31)])::fa 21 true 33 (.bin .lss (aF 32) (lS 0))::bD 34 (.pick (aF 21) (aF 33) qb)::[])
(bf 0::bf 1::bf 2::bf 3::bf 4::bf 5::bf 6::bf 7::bf 8::bf 9::bf 10::bf 11::bf 12::bf 13::bf 14::bf 15::bf 16:: []))
(.cond (aF 34)
.skip
(.exit 2)))
(.seq
(.block 3
(.draw (aB 37 0::aB 38 9::aB 39 0::aB 40 9::ft 41 .sub 40 1::aB 42 0::aB 43 9::ft 44 .sub 43 1::bD 45 (.dG a (aF 42) (aF 44))::bD 46 (.load b a (aF 45))::aB 47 0::aB 48 9::bD 49 (.dG a (aF 47) (aF 48))::bD 50 (.load b a (aF 49))::bD 51 (.dG a (aF 37) (aF 38))::on (.store a (aF 51) (aF 46))::bD 52 (.dG a (aF 39) (aF 41))::on (.store a (aF 52) (aF 50))::[])
(bf 0::bf 1::bf 2::bf 3::bf 4::bf 5::bf 6::bf 7::bf 8::bf 9::bf 10::bf 11::bf 12::bf 13::bf 14::bf 15::bf 16::bf 17:: [])))
(.plain (aB 35 9::ft 36 .sub 35 1::aB 9 36::[]))))))))
(.plain (aB 15 8::ft 16 .add 15 1::aB 8 16::[]))))))),[]⟩
def a0H:dr Tryz.prog 0 203=some (sN 41 true):=a9e
def a0I:dr Tryz.prog 0 259=some (sN 1 false):=a9e
def sO (a:Nat) (b:Bool) (c d:FuncId):aq:=⟨220,5,
(.seq
(.seq
(.plain (aB 25 2::aB 26 1::cD 27 .sub 25 26::ft 28 .eql 27 1::[]))
(.cond (aF 28)
(.seq
(.plain (aB 29 2::aB 10 29::[]))
(.seq
(.plain (aB 30 3::aB 11 30::[]))
(.seq
(.block 0
(.loop
(.seq
(.seq
(.plain (aB 31 10::aB 32 11::cD 33 .lss 31 32::[]))
(.cond (aF 33)
.skip
(.exit 0)))
(.block 1
(.seq
(.plain (aB 34 10::aB 35 11::cD 36 .add 34 35::bD 37 (.iN .u64 (aF 36))::bD 38 (.bin .shr (aF 37) (.const (.int .u64 1)))::bD 39 (.iN .i64 (aF 38))::aB 12 39::[]))
(.seq
(.draw (aB 40 4::aB 41 0::aB 42 12::bD 43 (.dG a (aF 41) (aF 42))::bD 44 (.load b a (aF 43))::aB 45 0::aB 46 1::bD 47 (.dG a (aF 45) (aF 46))::bD 48 (.load b a (aF 47))::bD 49 (.iO (aF 40) [(aF 44),(aF 48)])::ft 50 .lss 49 0::[])
(bf 0::bf 1::bf 2::bf 3::bf 4::bf 5::bf 6::bf 7::bf 8::bf 9::bf 10:: []))
(.cond (aF 50)
(.plain (aB 51 12::ft 52 .add 51 1::aB 10 52::[]))
(.plain (aB 53 12::aB 11 53::[])))))))))
(.seq
(.seq
(.plain (aB 54 1::aB 13 54::[]))
(.block 2
(.loop
(.seq
(.seq
(.plain (aB 55 13::aB 56 10::ft 57 .sub 56 1::cD 58 .lss 55 57::[]))
(.cond (aF 58)
.skip
(.exit 2)))
(.seq
(.block 3
(.draw (aB 61 0::aB 62 13::aB 63 0::aB 64 13::ft 65 .add 64 1::aB 66 0::aB 67 13::ft 68 .add 67 1::bD 69 (.dG a (aF 66) (aF 68))::bD 70 (.load b a (aF 69))::aB 71 0::aB 72 13::bD 73 (.dG a (aF 71) (aF 72))::bD 74 (.load b a (aF 73))::bD 75 (.dG a (aF 61) (aF 62))::on (.store a (aF 75) (aF 70))::bD 76 (.dG a (aF 63) (aF 65))::on (.store a (aF 76) (aF 74))::[])
(bf 0::bf 1::bf 2::bf 3::bf 4::bf 5::bf 6::bf 7::bf 8::bf 9::bf 10::bf 11::bf 12::bf 13::bf 14::bf 15::bf 16::bf 17:: [])))
(.plain (aB 59 13::ft 60 .add 59 1::aB 13 60::[])))))))
.ret))))
.skip))
(.seq
(.seq
(.plain (aB 77 3::aB 78 2::cD 79 .sub 77 78::ft 80 .eql 79 1::[]))
(.cond (aF 80)
(.seq
(.plain (aB 81 1::aB 14 81::[]))
(.seq
(.plain (aB 82 2::aB 15 82::[]))
(.seq
(.block 4
(.loop
(.seq
(.seq
(.plain (aB 83 14::aB 84 15::cD 85 .lss 83 84::[]))
(.cond (aF 85)
.skip
(.exit 4)))
(.block 5
(.seq
(.plain (aB 86 14::aB 87 15::cD 88 .add 86 87::bD 89 (.iN .u64 (aF 88))::bD 90 (.bin .shr (aF 89) (.const (.int .u64 1)))::bD 91 (.iN .i64 (aF 90))::aB 16 91::[]))
(.seq
(.draw (aB 92 4::aB 93 0::aB 94 2::bD 95 (.dG a (aF 93) (aF 94))::bD 96 (.load b a (aF 95))::aB 97 0::aB 98 16::bD 99 (.dG a (aF 97) (aF 98))::bD 100 (.load b a (aF 99))::bD 101 (.iO (aF 92) [(aF 96),(aF 100)])::ft 102 .lss 101 0::bD 103 (.un .not (aF 102))::[])
(bf 0::bf 1::bf 2::bf 3::bf 4::bf 5::bf 6::bf 7::bf 8::bf 9::bf 10::bf 11:: []))
(.cond (aF 103)
(.plain (aB 104 16::ft 105 .add 104 1::aB 14 105::[]))
(.plain (aB 106 16::aB 15 106::[])))))))))
(.seq
(.seq
(.plain (aB 107 2::aB 17 107::[]))
(.block 6
(.loop
(.seq
(.seq
(.plain (aB 108 17::aB 109 14::cD 110 .gtr 108 109::[]))
(.cond (aF 110)
.skip
(.exit 6)))
(.seq
(.block 7
(.draw (aB 113 0::aB 114 17::aB 115 0::aB 116 17::ft 117 .sub 116 1::aB 118 0::aB 119 17::ft 120 .sub 119 1::bD 121 (.dG a (aF 118) (aF 120))::bD 122 (.load b a (aF 121))::aB 123 0::aB 124 17::bD 125 (.dG a (aF 123) (aF 124))::bD 126 (.load b a (aF 125))::bD 127 (.dG a (aF 113) (aF 114))::on (.store a (aF 127) (aF 122))::bD 128 (.dG a (aF 115) (aF 117))::on (.store a (aF 128) (aF 126))::[])
(bf 0::bf 1::bf 2::bf 3::bf 4::bf 5::bf 6::bf 7::bf 8::bf 9::bf 10::bf 11::bf 12::bf 13::bf 14::bf 15::bf 16::bf 17:: [])))
(.plain (aB 111 17::ft 112 .sub 111 1::aB 17 112::[])))))))
.ret))))
.skip))
(.seq
(.plain (aB 129 1::aB 130 3::cD 131 .add 129 130::bD 132 (.iN .u64 (aF 131))::bD 133 (.bin .shr (aF 132) (.const (.int .u64 1)))::bD 134 (.iN .i64 (aF 133))::aB 18 134::[]))
(.seq
(.plain (aB 135 18::aB 136 2::cD 137 .add 135 136::aB 19 137::[]))
(.seq
(.plain (bD 20 (.eZ (lS 0))::bD 21 (.eZ (lS 0))::[]))
(.seq
(.seq
(.plain (aB 138 2::aB 139 18::cD 140 .gtr 138 139::[]))
(.cond (aF 140)
(.seq
(.plain (aB 141 19::aB 142 3::cD 143 .sub 141 142::aB 20 143::[]))
(.plain (aB 144 18::aB 21 144::[])))
(.seq
(.plain (aB 145 1::aB 20 145::[]))
(.plain (aB 146 2::aB 21 146::[])))))
(.seq
(.plain (aB 147 19::ft 148 .sub 147 1::aB 22 148::[]))
(.seq
(.block 8
(.loop
(.seq
(.seq
(.plain (aB 149 20::aB 150 21::cD 151 .lss 149 150::[]))
(.cond (aF 151)
.skip
(.exit 8)))
(.block 9
(.seq
(.plain (aB 152 20::aB 153 21::cD 154 .add 152 153::bD 155 (.iN .u64 (aF 154))::bD 156 (.bin .shr (aF 155) (.const (.int .u64 1)))::bD 157 (.iN .i64 (aF 156))::aB 23 157::[]))
(.seq
(.draw (aB 158 4::aB 159 0::aB 160 22::aB 161 23::cD 162 .sub 160 161::bD 163 (.dG a (aF 159) (aF 162))::bD 164 (.load b a (aF 163))::aB 165 0::aB 166 23::bD 167 (.dG a (aF 165) (aF 166))::bD 168 (.load b a (aF 167))::bD 169 (.iO (aF 158) [(aF 164),(aF 168)])::ft 170 .lss 169 0::bD 171 (.un .not (aF 170))::[])
(bf 0::bf 1::bf 2::bf 3::bf 4::bf 5::bf 6::bf 7::bf 8::bf 9::bf 10::bf 11::bf 12::bf 13:: []))
(.cond (aF 171)
(.plain (aB 172 23::ft 173 .add 172 1::aB 20 173::[]))
(.plain (aB 174 23::aB 21 174::[])))))))))
(.seq
(.plain (aB 175 19::aB 176 20::cD 177 .sub 175 176::aB 24 177::[]))
(.seq
(.seq
(.plain (aB 178 20::aB 179 2::cD 180 .lss 178 179::aB 181 180::fa 181 true 182 (.eZ (aF 2))::fa 181 true 183 (.eZ (aF 24))::fa 181 true 184 (.bin .lss (aF 182) (aF 183))::bD 185 (.pick (aF 181) (aF 184) qb)::[]))
(.cond (aF 185)
(.plain (aB 186 0::aB 187 20::aB 188 2::aB 189 24::aB 190 4::bD 191 (.fT d [(aF 186),(aF 187),(aF 188),(aF 189),(aF 190)])::[]))
.skip))
(.seq
(.seq
(.plain (aB 192 1::aB 193 20::cD 194 .lss 192 193::aB 195 194::fa 195 true 196 (.eZ (aF 20))::fa 195 true 197 (.eZ (aF 18))::fa 195 true 198 (.bin .lss (aF 196) (aF 197))::bD 199 (.pick (aF 195) (aF 198) qb)::[]))
(.cond (aF 199)
(.plain (aB 200 0::aB 201 1::aB 202 20::aB 203 18::aB 204 4::bD 205 (.fT c [(aF 200),(aF 201),(aF 202),(aF 203),(aF 204)])::[]))
.skip))
(.seq
(.plain (aB 206 18::aB 207 24::cD 208 .lss 206 207::aB 209 208::fa 209 true 210 (.eZ (aF 24))::fa 209 true 211 (.eZ (aF 3))::fa 209 true 212 (.bin .lss (aF 210) (aF 211))::bD 213 (.pick (aF 209) (aF 212) qb)::[]))
(.cond (aF 213)
(.plain (aB 214 0::aB 215 18::aB 216 24::aB 217 3::aB 218 4::bD 219 (.fT c [(aF 214),(aF 215),(aF 216),(aF 217),(aF 218)])::[]))
.skip))))))))))))),[]⟩
def a0J:dr Tryz.prog 0 204=some (sO 41 true 204 279):=a9e
def a0K:dr Tryz.prog 0 333=some (sO 1 false 333 351):=a9e
def uL (c:Nat) (d:Bool) (a b:FuncId):aq:=⟨63,3,
(.seq
(.plain (bD 6 (.eZ (lS 20))::[]))
(.seq
(.plain (aB 10 6::bD 7 (.eZ (lS 0))::aB 8 10::[]))
(.seq
(.block 0
(.loop
(.seq
(.seq
(.plain (aB 11 8::aB 12 1::cD 13 .leq 11 12::[]))
(.cond (aF 13)
.skip
(.exit 0)))
(.block 1
(.seq
(.plain (aB 14 0::aB 15 7::aB 16 8::aB 17 2::bD 18 (.fT a [(aF 14),(aF 15),(aF 16),(aF 17)])::[]))
(.seq
(.plain (aB 19 8::aB 7 19::[]))
(.plain (aB 20 8::aB 21 6::cD 22 .add 20 21::aB 8 22::[]))))))))
(.seq
(.plain (aB 23 0::aB 24 7::aB 25 1::aB 26 2::bD 27 (.fT a [(aF 23),(aF 24),(aF 25),(aF 26)])::[]))
(.block 2
(.loop
(.seq
(.seq
(.plain (aB 28 6::aB 29 1::cD 30 .lss 28 29::[]))
(.cond (aF 30)
.skip
(.exit 2)))
(.block 3
(.seq
(.plain (aB 31 6::bD 32 (.bin .mul (lS 2) (aF 31))::bD 7 (.eZ (lS 0))::aB 8 32::[]))
(.seq
(.block 4
(.loop
(.seq
(.seq
(.plain (aB 33 8::aB 34 1::cD 35 .leq 33 34::[]))
(.cond (aF 35)
.skip
(.exit 4)))
(.block 5
(.seq
(.plain (aB 36 0::aB 37 7::aB 38 7::aB 39 6::cD 40 .add 38 39::aB 41 8::aB 42 2::bD 43 (.fT b [(aF 36),(aF 37),(aF 40),(aF 41),(aF 42)])::[]))
(.seq
(.plain (aB 44 8::aB 7 44::[]))
(.plain (aB 45 8::aB 46 6::bD 47 (.bin .mul (lS 2) (aF 46))::cD 48 .add 45 47::aB 8 48::[]))))))))
(.seq
(.seq
(.plain (aB 49 7::aB 50 6::cD 51 .add 49 50::aB 9 51::[]))
(.seq
(.plain (aB 52 9::aB 53 1::cD 54 .lss 52 53::[]))
(.cond (aF 54)
(.plain (aB 55 0::aB 56 7::aB 57 9::aB 58 1::aB 59 2::bD 60 (.fT b [(aF 55),(aF 56),(aF 57),(aF 58),(aF 59)])::[]))
.skip)))
(.plain (aB 61 6::ft 62 .mul 61 2::aB 6 62::[]))))))))))))),[]⟩
def a0L:dr Tryz.prog 0 133=some (uL 41 true 203 204):=a9e
def a0M:dr Tryz.prog 0 292=some (uL 1 false 259 333):=a9e
structure oA (k:Nat) (a:R) (l b n:Nat):Prop where
 ji: ∀i,i<n->cL k a (.v (.int .i64 ((i:Nat):Int)))=some (.ptr l (b+i*k))
 len:fb a=some (.v (.int .i64 (n:Int)))
 cl:a.cells= [a]
def oB (b:Nat) (c:Bool) (a:R):Prop:=a.cells.length=b/\aX c b a.cells=a
def el (a:List R) (b:Nat):R:=a.getD b (.aK [])
def uM (a:List R) (b c:Nat):List R:=(a.set b (el a c)).set c (el a b)
def W (a:U) (b:Nat) (c d h:List R):U:=a.set b (.cells (c++flat h++d))
variable{g A e0:List R}{e i v O b8 j0:Nat}
def a0N (a:e<g.length):g[e]? =some (el g e):=by simp[el,a]
theorem jW (a:e<g.length):el g e∈g:=a4D (a0N a)
theorem uN (a:e<g.length) (b:i<g.length):(uM g e i).Perm g:=by have c:=Array.swap_perm (xs:=g.toArray) (i:=e) (j:=i) (by trivial) (by trivial);grind[Array.perm_iff_toList_perm,uM,Array.swap,el,List.getD]
theorem yH (b: ∀a∈g,a.cells.length=i) (d:e<g.length):(A++flat g++e0).drop (A.length+e*i)=(el g e).cells++(flat (g.drop (e+1))++e0):=by
 have h:g=g.take e++el g e::g.drop (e+1):=by grind[List.take_append_drop,List.drop_eq_getElem_cons,el,List.getD]
 have k:(flat (g.take e)).length=e*i:=by rw[db (λa c=>b a (a4K c)),a4z,a6f a8Z]
 grind[flat,el,List.append_assoc,List.drop_drop,List.drop_left]
theorem F8 (a: ∀b∈g,b.cells.length=i) (c:e<g.length) (d:n.cells.length=i):putAt (A++flat g++e0) (A.length+e*i) n.cells=A++flat (g.set e n)++e0:=by
 have y:(flat (g.take e)).length=e*i:=by rw[db (λb h=>a b (a4K h)),a4z,a6f a8Z]
 have k:g=g.take e++el g e::g.drop (e+1):=by grind[List.take_append_drop,List.drop_eq_getElem_cons,el,List.getD]
 have z:flat g=flat (g.take e)++((el g e).cells++flat (g.drop (e+1))):=by
  conv=>lhs;rw[k]
  simp[flat]
 have o:flat (g.set e n)=flat (g.take e)++(n.cells++flat (g.drop (e+1))):=by rw[a5N,if_pos c];simp[flat]
 have p:=a _ (jW c);have r:(A++flat g++e0).take (A.length+e*i)=A++flat (g.take e):=by grind
 have x:(A++flat g++e0).drop (A.length+e*i+n.cells.length)=flat (g.drop (e+1))++e0:=by rw[<-a5l,yH a c,d,<-p,a7g]
 rw[putAt,r,x,o];simp
structure a0O (k:Nat) (p:Bool) (d:U) (l c:Nat) (pre post es:List R) (i h:Nat) (a b:R) (cs o r:List R):Prop where
 st:ee (W d l pre post es) l=some cs
 sj:dn p k (W d l pre post es) (.ptr l (c+i*k))=some a
 sk:dn p k (W d l pre post es) (.ptr l (c+h*k))=some b
 pD:a.cells.length=k
 ie:b.cells.length=k
 oi:c+i*k+k<=cs.length
 oj:c+h*k+k<=o.length
 nu:putAt cs (c+i*k) b.cells=o
 nv:putAt o (c+h*k) a.cells=r
 fin:(W d l pre post es).set l (.cells r)=W d l pre post (uM es i h)
variable{I:Bool}{f t e4:U}
theorem nx (D:0<e) (o:A.length=O) (c: ∀a∈g,oB e I a) (d:i<g.length):dn I e (W f v A e0 g) (.ptr v (O+i*e))=some (el g i):=by
 subst o;have p:=λa r=>(c a r).1;have x:=c _ (jW d);have y:(W f v A e0 g).read v=some (A++flat g++e0):=U.ae (U.ah _ _ _);have h:=yH p d (A:=A) (e0:=e0);have z:A.length+i*e+e<=(A++flat g++e0).length:=by have:=congrArg List.length h;grind[List.length_append,el,flat,List.length_drop]
 simp only[dn,y,if_pos z,h];obtain⟨k,b⟩:=x;rw[<-b]
 conv=>rhs;rw[b]
 generalize el g i=a at*;cases I
 .simp only[aX,a5A,if_false]at b|-;cases C:a.cells with
  |nil=>rw[C]at k;simp at k;omega
  |cons E F=>simp_all
 simp_all [a4x,aX]
theorem uO (E:0<e) (o:A.length=b8) (p: ∀a∈g,oB e I a) (b:i<g.length) (c:v<g.length):
  ∃F G L,a0O e I f O b8 A e0 g i v (el g i) (el g v) F G L:=by
 have d:=λa r=>(p a r).1;have x:=d _ (jW b);have y:=d _ (jW c);have z: ∀a∈g.set i (el g v),a.cells.length=e:=λa r=>by
  grind
 have P:=F8 d b (A:=A) (e0:=e0) y;have S:=F8 z (by simpa using c) (A:=A) (e0:=e0) x;have C:=λ{i} b=>nx E (f:=f) (v:=O) (e0:=e0) o p (i:=i) b;have D: ∀(h) (k),(∀a∈h,a.cells.length=e)->k<h.length->A.length+k*e+e<=(A++flat h++e0).length:=λh k T V=>by
  have:=congrArg List.length (yH T V (A:=A) (e0:=e0));grind[List.length_append,el,flat,List.length_drop,jW]
 subst o;refine⟨_,_,_,?_,C b,C c,x,y,D g i d b,D _ v z (by simpa using c),P,S,?_⟩
 .simp[ee,W,U.ah]
 .simp only[W,U.set_set,uM]
variable{b5:FuncId}
section
def yI (x:dr Tryz.prog 0 b5=some (pC e I)) (y:0<e) (z:g.length=v) (h:oA e n i v e0.length) (T:e0.length<=1000000000000) (V:O+j0<=e0.length) (j:b8+j0<=e0.length) (C:R) (k:List R) (D:k.Perm e0) (E: ∀o∈e0,oB e I o):
  AC Tryz.prog b5 [n,.v (.int .i64 (O:Int)),.v (.int .i64 (b8:Int)),.v (.int .i64 (j0:Int)),C] (W f i g A k) λl p=> ∃r,r.Perm e0/\p=W f i g A r:=by
 have m:=h.cl;refine aN hm x ?_;refine ch [0,1,2,3] (λb:Nat×List R=> [(10,.v (.int .i64 (b.1)))]) (λb p=>p=W f i g A b.2/\b.2.Perm e0/\b.1<=j0) (λb=>j0 - b.1) (0,k) ⟨⟨rfl,D,a8Z⟩,aR⟩ ?_;rintro⟨a,d⟩ _ ⟨rfl,c,F⟩ q
 dsimp only at c F|-
 refine aa ?_;refine aG (λG=> ?_) λG=> ?_
 .have s:=c.length_eq;obtain⟨t,u,w,L⟩:=uO y (f:=f) (O:=i) (e0:=A) z (λo P=>E o (c.mem_iff.1 P)) (i:=O+a) (v:=b8+a) a8Z a8Z;have S:=uN (g:=d) (e:=O+a) (i:=b8+a) a8Z a8Z;obtain⟨B,H,K,M,N,Q,X,Y,Z,j9⟩:=L;have k0:=h.ji (O+a) a8Z;have k1:=h.ji (b8+a) a8Z;generalize W f i g A d=k2 at*;generalize el d (O+a)=b at*;generalize el d (b8+a)=k3 at*;have k4:(O)+(a)=((O+a:Nat):Int):=rfl;have k5:(b8)+(a)=((b8+a:Nat):Int):=rfl;refine aa ?_;exact⟨(a+1,_),⟨rfl,S.trans c,by show a+1<=j0;omega⟩,rfl,by show j0 -(a+1)<j0 - a;omega⟩
 .exact⟨_,U.a1,_,c,rfl⟩
theorem a0P {L:FuncId} (T:dr Tryz.prog 0 b5=some (qX e I L)) (r:dr Tryz.prog 0 L=some (pC e I)) (x:0<e) (y:g.length=v) (o:oA e n i v e0.length) (z:e0.length<=1000000000000) (u:j0<O) (w:O<b8) (B:b8<=e0.length) (p:R) (C:List R) (V:C.Perm e0) (D: ∀j∈e0,oB e I j):
  AC Tryz.prog b5 [n,.v (.int .i64 (j0:Int)),.v (.int .i64 (O:Int)),.v (.int .i64 (b8:Int)),p] (W f i g A C) λE F=> ∃P,P.Perm e0/\F=W f i g A P:=by
 have H:=o.cl;have S:(O) -(j0)=((O - j0:Nat):Int):=a8Z;have d:(b8) -(O)=((b8 - O:Nat):Int):=a8Z;refine aN hm T ?_;refine ch [0,1,2,3,4] (λc:(Nat×Nat)×List R=> [(10,.v (.int .i64 (c.1.1))),(11,.v (.int .i64 (c.1.2)))]) (λc F=>F=W f i g A c.2/\c.2.Perm e0/\0<c.1.1/\0<c.1.2/\c.1.1<=O - j0/\c.1.2<=b8 - O) (λc=>c.1.1+c.1.2) ((O - j0,b8 - O),C) ⟨⟨rfl,V,by show 0<O - j0;omega,by show 0<b8 - O;omega,a5c _,a5c _⟩,aR⟩ ?_;clear S d;rintro⟨⟨a,b⟩,d⟩ _ ⟨rfl,G,l,m,q,s⟩ K
 dsimp only at*
 have S:(O) -(a)=((O - a:Nat):Int):=a8Z;refine aa ?_;refine aG (λt=> ?_) λt=> ?_
 .refine aG (λc2=> ?_) λc2=> ?_
  .refine ai (yI r x y o z a8Z a8Z p d G D) ?_;rintro E _ ⟨h,k,rfl⟩;refine aa ?_;exact⟨((a - b,b),h),⟨rfl,k,by show 0<a - b;omega,m,by show a - b<=O - j0;omega,s⟩,⟨by grind,rfl⟩,by show a - b+b<a+b;omega⟩
  .have h:(O)+(b) -(a)=((O+b - a:Nat):Int):=a8Z;refine aa ?_;refine ai (yI r x y o z a8Z a8Z p d G D) ?_;rintro E _ ⟨h,k,rfl⟩;refine aa ?_;exact⟨((a,b - a),h),⟨rfl,k,l,by show 0<b - a;omega,q,by show b - a<=b8 - O;omega⟩,⟨rfl,by grind⟩,by show a+(b - a)<a+b;omega⟩
 .obtain rfl:a=b:=a8Z;refine aa ?_;refine ai (yI r x y o z a8Z a8Z p d G D) ?_;rintro E _ ⟨h,k,rfl⟩;refine aa ?_;exact⟨_,U.a1,_,k,rfl⟩
def oC (c:U) (d:Nat) (h k a:List R) (o:FuncId) (x y:List R) (z:R->R->Int):Prop:=
 gf Tryz.prog o=true/\ ∀b,b.Perm a-> ∀p∈a,∀r∈a,AC Tryz.prog o (x++ [p,r]++y) (W c d h k b) λC D=>D=W c d h k b/\C= .v (.int .i64 (z p r))
def F9 (P:dr Tryz.prog 0 b5=some (sN e I)) (o:0<e) (p:g.length=v) (r:oA e n i v e0.length) (t:e0.length<=1000000000000) (u:O<=b8) (w:b8<=e0.length) {C:FuncId}{D E:List R}{S:R->R->Int} (F:oC f i g A e0 C D E S) (x:List R) (T:x.Perm e0) (V: ∀y∈e0,oB e I y):
  AC Tryz.prog b5 [n,.v (.int .i64 (O:Int)),.v (.int .i64 (b8:Int)),.bG C D E] (W f i g A x) λB h=> ∃G,G.Perm e0/\h=W f i g A G:=by
 have H:=r.cl;refine aN hm P ?_;refine ch [0,1,2,3] (λa:Nat×List R=> [(8,.v (.int .i64 (a.1)))]) (λa h=>h=W f i g A a.2/\a.2.Perm e0/\O<a.1/\a.1<=b8+1) (λa=>b8+1 - a.1) (O+1,x) ⟨⟨rfl,T,by show O<O+1;omega,by show O+1<=b8+1;omega⟩,aa WZ⟩ ?_;rintro⟨c,j⟩ _ ⟨rfl,L,K,M⟩ N
 dsimp only at*
 refine aa ?_;refine aG (λl=> ?_) λl=> ?_
 .refine ch [0,1,2,3,8] (λa:Nat×List R=> [(9,.v (.int .i64 (a.1)))]) (λa h=>h=W f i g A a.2/\a.2.Perm e0/\O<=a.1/\a.1<=c) (λa=>a.1) (c,j) ⟨⟨rfl,L,by show O<=c;omega,a5c _⟩,aR⟩ ?_;rintro⟨b,k⟩ _ ⟨rfl,d,Q,X⟩ Y
  dsimp only at*
  have Z:=d.length_eq;refine aa ?_;refine aG (λm=> ?_) λm=> ?_
  .have j9:=r.ji b a8Z;have k0:=r.ji (b - 1) a8Z;have k1:(b) - 1=((b - 1:Nat):Int):=a8Z;have z:=λy q=>V y (d.mem_iff.1 q);have k2:=nx o (f:=f) (v:=i) (e0:=A) p z (i:=b) a8Z;have k3:=nx o (f:=f) (v:=i) (e0:=A) p z (i:=b - 1) a8Z;refine aa ?_;refine fF F.1 (F.2 k d _ (d.mem_iff.1 (jW a8Z)) _ (d.mem_iff.1 (jW a8Z))) ?_;rintro _ _ ⟨rfl,rfl⟩;refine aa ?_;refine aG (λc2=> ?_) λc2=> ?_
   .obtain⟨k4,k5,k6,k7,k8,k9,l0,l1,l2,l3,l4,l5,l6⟩:=uO o (f:=f) (O:=i) (e0:=A) p z (i:=b) (v:=b - 1) a8Z a8Z;have s:=uN (g:=k) (e:=b) (i:=b - 1) a8Z a8Z;generalize W f i g A k=l7 at*;generalize el k b=a at*;generalize el k (b - 1)=l8 at*;refine aa ?_;exact⟨(b - 1,_),⟨rfl,s.trans d,by show O<=b - 1;omega,by show b - 1<=c;omega⟩,rfl,by show b - 1<b;omega⟩
   .exact⟨(c+1,_),⟨rfl,d,by show O<c+1;omega,by show c+1<=b8+1;omega⟩,rfl,a8Z⟩
  .exact⟨(c+1,_),⟨rfl,d,by show O<c+1;omega,by show c+1<=b8+1;omega⟩,rfl,a8Z⟩
 .exact⟨_,U.a1,_,L,rfl⟩
def uP (a b:Nat):bn .shr (.int .u64 ((a:Int)+(b:Int))) (.int .u64 1)=some (.int .u64 (((a+b)/2:Nat):Int)):=by have:=rR (a+b) .u64 1 a8Z a8Z;rw[a5v]at this;exact this
theorem uQ {O B k5:FuncId} (Q:dr Tryz.prog 0 O=some (sO e I O B)) (X:dr Tryz.prog 0 B=some (qX e I k5)) (Y:dr Tryz.prog 0 k5=some (pC e I)) (P:0<e) (S:g.length=v) (F:oA e n i v e0.length) (Z:e0.length<=1000000000000) {k6:FuncId}{k7 k8:List R}{l4:R->R->Int} (V:oC f i g A e0 k6 k7 k8 l4) (j: ∀D∈e0,oB e I D): ∀(H h c k:Nat),k - h<=H->h<c->c<k->k<=e0.length-> ∀(E:List R),E.Perm e0->
  AC Tryz.prog O [n,.v (.int .i64 (h:Int)),.v (.int .i64 (c:Int)),.v (.int .i64 (k:Int)),.bG k6 k7 k8] (W f i g A E) λa08 C=> ∃k9,k9.Perm e0/\C=W f i g A k9
 |0,h,c,k,l5,l6,l7,l8,E,y=>by omega
 |H+1,h,c,k,l5,l6,l7,l8,E,y=>by
  have a09:=F.cl;refine aN hm Q ?_;refine aG (λl9=> ?_) λl9=> ?_
  .refine gJ [0,1,2,3,4] (λa:Nat×Nat=> [(10,.v (.int .i64 (a.1))),(11,.v (.int .i64 (a.2)))]) (λa=>c<=a.1/\a.1<=a.2/\a.2<=k) (λa=>a.2 - a.1) (c,k) ⟨a5c _,by show c<=k;omega,a5c _⟩ aR ?_;rintro⟨b,d⟩ ⟨G,l,L⟩ m
   dsimp only at G l L|-
   refine aa ?_;have j9:=uP b d;have K:=y.length_eq;have q:=λD T=>j D (y.mem_iff.1 T);refine aG (λc2=> ?_) λc2=> ?_
   .have M:=F.ji ((b+d)/2) a8Z;have N:=F.ji h a8Z;have l0:=nx P (f:=f) (v:=i) (e0:=A) S q (i:=(b+d)/2) a8Z;have l1:=nx P (f:=f) (v:=i) (e0:=A) S q (i:=h) a8Z;have l2:(b+d)/2<=1000000000000:=a8Z;obtain⟨s,k0⟩:b<=(b+d)/2/\(b+d)/2<d:=a8Z;have w:=V.2 E y _ (y.mem_iff.1 (jW (e:=(b+d)/2) a8Z)) _ (y.mem_iff.1 (jW (e:=h) a8Z));generalize (b+d)/2=o at*;refine aa ?_;refine fF V.1 w ?_;rintro _ _ ⟨rfl,rfl⟩;refine aa ?_;refine aG (λaH=> ?_) λaH=> ?_
    .exact⟨(o+1,d),⟨by show c<=o+1;omega,by show o+1<=d;omega,L⟩,⟨rfl,rfl⟩,by show d -(o+1)<d - b;omega⟩
    .exact⟨(b,o),⟨G,s,by show o<=k;omega⟩,⟨rfl,rfl⟩,by show o - b<d - b;omega⟩
   .refine ch [0,1,2,3,4,10] (λa:Nat×List R=> [(13,.v (.int .i64 (a.1)))]) (λa C=>C=W f i g A a.2/\a.2.Perm e0/\h<=a.1) (λa=>b - a.1) (h,E) ⟨⟨rfl,y,a5c _⟩,aR⟩ ?_;rintro⟨p,z⟩ _ ⟨rfl,x,k1⟩ B
    dsimp only at x k1|-
    refine aa ?_;refine aG (λaH=> ?_) λaH=> ?_
    .have K:=x.length_eq;have k2:=λD T=>j D (x.mem_iff.1 T);have M:=F.ji p a8Z;have N:=F.ji (p+1) a8Z;have l3:(p)+1=((p+1:Nat):Int):=a8Z;obtain⟨n0,n1,n2,n3,n4,n5,n9,a00,a01,a02,a03,a04,a05⟩:=uO P (f:=f) (O:=i) (e0:=A) S k2 (i:=p) (v:=p+1) a8Z a8Z;have k3:=uN (g:=z) (e:=p) (i:=p+1) a8Z a8Z;generalize W f i g A z=a06 at*;generalize el z p=a at*;generalize el z (p+1)=a07 at*;refine aa ?_;exact⟨(p+1,_),⟨rfl,k3.trans x,by show h<=p+1;omega⟩,rfl,by show b -(p+1)<b - p;omega⟩
    .exact⟨_,U.a1,_,x,rfl⟩
  .refine aG (λc2=> ?_) λc2=> ?_
   .refine gJ [0,1,2,3,4] (λa:Nat×Nat=> [(14,.v (.int .i64 (a.1))),(15,.v (.int .i64 (a.2)))]) (λa=>h<=a.1/\a.1<=a.2/\a.2<=c) (λa=>a.2 - a.1) (h,c) ⟨a5c _,by show h<=c;omega,a5c _⟩ aR ?_;rintro⟨b,d⟩ ⟨G,l,L⟩ m
    dsimp only at G l L|-
    refine aa ?_;have j9:=uP b d;have K:=y.length_eq;have q:=λD T=>j D (y.mem_iff.1 T);refine aG (λaH=> ?_) λaH=> ?_
    .have M:=F.ji ((b+d)/2) a8Z;have N:=F.ji c a8Z;have l0:=nx P (f:=f) (v:=i) (e0:=A) S q (i:=(b+d)/2) a8Z;have l1:=nx P (f:=f) (v:=i) (e0:=A) S q (i:=c) a8Z;obtain⟨s,k0⟩:b<=(b+d)/2/\(b+d)/2<d:=a8Z;have w:=V.2 E y _ (y.mem_iff.1 (jW (e:=c) a8Z)) _ (y.mem_iff.1 (jW (e:=(b+d)/2) a8Z));have l2:(b+d)/2<=1000000000000:=a8Z;generalize (b+d)/2=o at*;refine aa ?_;refine fF V.1 w ?_;rintro _ _ ⟨rfl,rfl⟩;refine aa ?_;refine aG (λaH=> ?_) λaH=> ?_
     .exact⟨(o+1,d),⟨by show h<=o+1;omega,by show o+1<=d;omega,L⟩,⟨rfl,rfl⟩,by show d -(o+1)<d - b;omega⟩
     .exact⟨(b,o),⟨G,s,by show o<=c;omega⟩,⟨rfl,rfl⟩,by show o - b<d - b;omega⟩
    .refine ch [0,1,2,3,4,14] (λa:Nat×List R=> [(17,.v (.int .i64 (a.1)))]) (λa C=>C=W f i g A a.2/\a.2.Perm e0/\a.1<=c) (λa=>a.1) (c,E) ⟨⟨rfl,y,a5c _⟩,aR⟩ ?_;rintro⟨p,z⟩ _ ⟨rfl,x,k1⟩ B
     dsimp only at x k1|-
     refine aa ?_;refine aG (λaI=> ?_) λaI=> ?_
     .have K:=x.length_eq;have k2:=λD T=>j D (x.mem_iff.1 T);have M:=F.ji p a8Z;have N:=F.ji (p - 1) a8Z;have l3:(p) - 1=((p - 1:Nat):Int):=a8Z;obtain⟨n0,n1,n2,n3,n4,n5,n9,a00,a01,a02,a03,a04,a05⟩:=uO P (f:=f) (O:=i) (e0:=A) S k2 (i:=p) (v:=p - 1) a8Z a8Z;have k3:=uN (g:=z) (e:=p) (i:=p - 1) a8Z a8Z;generalize W f i g A z=a06 at*;generalize el z p=a at*;generalize el z (p - 1)=a07 at*;refine aa ?_;exact⟨(p - 1,_),⟨rfl,k3.trans x,by show p - 1<=c;omega⟩,rfl,by show p - 1<p;omega⟩
     .exact⟨_,U.a1,_,x,rfl⟩
   .have j9:=uP h k;have a10:(h+k)/2<=1000000000000:=a8Z;obtain⟨s,k0⟩:h<(h+k)/2/\(h+k)/2<k:=a8Z;have a11:(h+k)/2 - h<=k -(h+k)/2:=a8Z;have a13:k -(h+k)/2<=(h+k)/2 - h+1:=a8Z;generalize (h+k)/2=r at*;refine aa ?_;refine o3 [0,1,2,3,4,18,19] (λa:Nat×Nat=> [(20,.v (.int .i64 (a.1))),(21,.v (.int .i64 (a.2)))]) (λa C=>C=W f i g A E/\h<=a.1/\a.1<=a.2/\r+c<=k+a.1/\a.2<=r/\a.2<=c) (λaH=> ?_) (λaH=> ?_) ?_
    .have aH:=of_decide_eq_true aH;have a14:(r)+(c) -(k)=((r+c - k:Nat):Int):=a8Z;refine aa ?_;exact⟨(r+c - k,r),⟨by show h<=r+c - k;omega,by show r+c - k<=r;omega,a8Z,a5c _,by show r<=c;omega⟩,rfl,rfl⟩
    .have aH:=of_decide_eq_false aH;refine aa ?_;exact⟨(h,c),⟨a5c _,by show h<=c;omega,by show r+c<=k+h;omega,by show c<=r;omega,a5c _⟩,rfl,rfl⟩
    rintro⟨b,d⟩ _ ⟨rfl,G,l,t,L,u⟩ m
    dsimp only at G l t L u|-
    refine p4 [0,1,2,3,4,18,19,20,21] (λ_:Unit=> [(22,.v (.int .i64 ((r+c - 1:Nat))))]) (λ_ C=>C=W f i g A E) ?_ ?_
    .refine aa ?_;exact⟨(),by congr 2;omega⟩
    rintro _ _ rfl m;refine p4 [0,1,2,3,4,18,19] (λb:Nat=> [(20,.v (.int .i64 (b)))]) (λb C=>C=W f i g A E/\h<=b/\r+c<=k+b/\b<=r/\b<=c) ?_ ?_
    .refine aa ?_;refine gJ [0,1,2,3,4,18,19,22] (λa:Nat×Nat=> [(20,.v (.int .i64 (a.1))),(21,.v (.int .i64 (a.2)))]) (λa=>h<=a.1/\a.1<=a.2/\r+c<=k+a.1/\a.2<=r/\a.2<=c) (λa=>a.2 - a.1) (b,d) ⟨G,l,t,L,u⟩ aR ?_;rintro⟨b,d⟩ ⟨G,l,t,L,u⟩ m
     dsimp only at G l t L u|-
     have j9:=uP b d;have K:=y.length_eq;have q:=λD T=>j D (y.mem_iff.1 T);refine aa ?_;refine aG (λaI=> ?_) λaI=> ?_
     .obtain⟨s,k0⟩:b<=(b+d)/2/\(b+d)/2<d:=a8Z;have l2:(b+d)/2<=1000000000000:=a8Z;generalize (b+d)/2=o at*;have l3:((r+c - 1:Nat)) -(o)=((r+c - 1 - o:Nat):Int):=a8Z;have M:=F.ji o a8Z;have N:=F.ji (r+c - 1 - o) a8Z;have l0:=nx P (f:=f) (v:=i) (e0:=A) S q (i:=o) a8Z;have l1:=nx P (f:=f) (v:=i) (e0:=A) S q (i:=r+c - 1 - o) a8Z;have w:=V.2 E y _ (y.mem_iff.1 (jW (e:=r+c - 1 - o) a8Z)) _ (y.mem_iff.1 (jW (e:=o) a8Z));refine aa ?_;refine fF V.1 w ?_;rintro _ _ ⟨rfl,rfl⟩;refine aa ?_;refine aG (λbm=> ?_) λbm=> ?_
      .exact⟨(o+1,d),⟨by show h<=o+1;omega,by show o+1<=d;omega,by show r+c<=k+(o+1);omega,L,u⟩,⟨rfl,rfl⟩,by show d -(o+1)<d - b;omega⟩
      .exact⟨(b,o),⟨G,s,t,by show o<=r;omega,by show o<=c;omega⟩,⟨rfl,rfl⟩,by show o - b<d - b;omega⟩
     grind
    rintro b _ ⟨rfl,G,t,L,u⟩ m;refine p4 [0,1,2,3,4,18,20] (λ_:Unit=> [(24,.v (.int .i64 ((r+c - b:Nat))))]) (λ_ C=>C=W f i g A E) ?_ ?_
    .refine aa ?_;exact⟨(),by congr 2;omega⟩
    rintro _ _ rfl m;obtain⟨D,T⟩: ∃D,r+c - b=D:=⟨_,rfl⟩;have a15:D<=k:=a8Z;rw[T];refine p4 [0,1,2,3,4,18,20,24] (λ_:List R=> []) (λa C=>C=W f i g A a/\a.Perm e0) ?_ ?_
    .refine aa ?_;refine aG (λaI=> ?_) λaI=> ?_
     .refine aG (λbm=> ?_) λbm=> ?_
      .refine ai (a0P X Y P S F Z a8Z a8Z a8Z _ E y j) ?_;rintro _ _ ⟨z,x,rfl⟩;refine aa ?_;exact⟨z,rfl,x⟩
      .exact⟨E,rfl,y⟩
     .exact⟨E,rfl,y⟩
    rintro z _ ⟨rfl,x⟩ m;refine p4 [0,1,2,3,4,18,20,24] (λ_:List R=> []) (λa C=>C=W f i g A a/\a.Perm e0) ?_ ?_
    .refine aa ?_;refine aG (λaI=> ?_) λaI=> ?_
     .refine aG (λbm=> ?_) λbm=> ?_
      .refine ai (uQ Q X Y P S F Z V j H h b r a8Z a8Z a8Z a8Z z x) ?_;rintro _ _ ⟨k4,x,rfl⟩;refine aa ?_;exact⟨k4,rfl,x⟩
      .exact⟨z,rfl,x⟩
     .exact⟨z,rfl,x⟩
    rintro z _ ⟨rfl,x⟩ m;refine aa ?_;refine aG (λaI=> ?_) λaI=> ?_
    .refine aG (λbm=> ?_) λbm=> ?_
     .refine ai (uQ Q X Y P S F Z V j H r D k a8Z a8Z a8Z a8Z z x) ?_;rintro _ _ ⟨k4,x,rfl⟩;refine aa ?_;exact⟨_,U.a1,k4,x,rfl⟩
     .exact⟨_,U.a1,z,x,rfl⟩
    .exact⟨_,U.a1,z,x,rfl⟩
def a0Q {T V D j:FuncId} (O:dr Tryz.prog 0 T=some (uL e I V b5)) (l:dr Tryz.prog 0 V=some (sN e I)) (m:dr Tryz.prog 0 b5=some (sO e I b5 D)) (q:dr Tryz.prog 0 D=some (qX e I j)) (s:dr Tryz.prog 0 j=some (pC e I)) (p:0<e) (r:g.length=v) (E:oA e n i v e0.length) (Q:e0.length<=1000000000) {t:FuncId}{u w:List R}{X:R->R->Int} (x:oC f i g A e0 t u w X) (y: ∀Y∈e0,oB e I Y):
  AC Tryz.prog T [n,.v (.int .i64 (e0.length:Int)),.bG t u w] (W f i g A e0) λk4 h=> ∃B,B.Perm e0/\h=W f i g A B:=by
 have k5:=E.cl;have H:e0.length<=1000000000000:=a8Z;have z:=E;have C:=H;obtain⟨b,Z⟩: ∃b,e0.length=b:=⟨_,rfl⟩;rw[Z]at Q H E|-;refine aN hm O ?_;refine ch [0,1,2,6] (λa:Nat×List R=> [(7,.v (.int .i64 (a.1))),(8,.v (.int .i64 ((a.1+20:Nat))))]) (λa h=>h=W f i g A a.2/\a.2.Perm e0/\a.1<=b) (λa=>b - a.1) (0,e0) ⟨⟨rfl,.refl _,a5d _⟩,aR⟩ ?_;rintro⟨c,K⟩ _ ⟨rfl,F,G⟩ k6
 dsimp only at F G|-
 refine aa ?_;refine aG (λj9=> ?_) λj9=> ?_
 .refine ai (F9 l p r z C a8Z a8Z x K F y) ?_;rintro _ _ ⟨L,k,rfl⟩;refine aa ?_;exact⟨(c+20,L),⟨rfl,k,by show c+20<=b;omega⟩,⟨rfl,rfl⟩,by show b -(c+20)<b - c;omega⟩
 .refine ai (F9 l p r z C a8Z a8Z x K F y) ?_;rintro _ _ ⟨L,k,rfl⟩;refine aa ?_;refine ch [0,1,2] (λa:Nat×List R=> [(6,.v (.int .i64 (a.1)))]) (λa h=>h=W f i g A a.2/\a.2.Perm e0/\0<a.1/\a.1<=20+2*b) (λa=>b - a.1) (20,L) ⟨⟨rfl,k,by show 0<20;omega,by show 20<=20+2*b;omega⟩,aR⟩ ?_;rintro⟨aP,M⟩ _ ⟨rfl,P,k0,k1⟩ b5
  dsimp only at P k0 k1|-
  refine aa ?_;refine aG (λc2=> ?_) λc2=> ?_
  .have k7:2*(aP)=((2*aP:Nat):Int):=a8Z;refine ch [0,1,2,6] (λa:Nat×List R=> [(7,.v (.int .i64 (a.1))),(8,.v (.int .i64 ((a.1+2*aP:Nat))))]) (λa h=>h=W f i g A a.2/\a.2.Perm e0/\a.1<=b) (λa=>b - a.1) (0,M) ⟨⟨rfl,P,a5d _⟩,by rw[a4W];exact aR⟩ ?_;rintro⟨c,N⟩ _ ⟨rfl,S,G⟩ D
   dsimp only at S G|-
   have k8:(c)+(aP)=((c+aP:Nat):Int):=rfl;refine aa ?_;refine aG (λaH=> ?_) λaH=> ?_
   .refine ai (uQ m q s p r z C x y _ c (c+aP) (c+2*aP) (a5c _) a8Z a8Z a8Z N S) ?_;rintro _ _ ⟨d,k,rfl⟩;refine aa ?_;exact⟨(c+2*aP,d),⟨rfl,k,by show c+2*aP<=b;omega⟩,⟨rfl,a9a⟩,by show b -(c+2*aP)<b - c;omega⟩
   .have k2: ∀d:List R,d.Perm e0-> ∃o:Nat×List R,(W f i g A d=W f i g A o.2/\o.2.Perm e0/\0<o.1/\o.1<=20+2*b)/\R.v (.int .i64 ((aP)*2))= .v (.int .i64 (o.1))/\b - o.1<b - aP:=λd k3=>⟨(aP*2,d),⟨rfl,k3,by show 0<aP*2;omega,by show aP*2<= _;omega⟩,rfl,by show b - aP*2<b - aP;omega⟩;refine aG (λaI=> ?_) λaI=> ?_
    .refine ai (uQ m q s p r z C x y _ c (c+aP) b (a5c _) a8Z a8Z a8Z N S) ?_;rintro _ _ ⟨d,k,rfl⟩;have:=k2 d k;exact aR
    .trivial
  .exact⟨_,U.a1,M,P,rfl⟩
def yJ (a:FuncId):aq:=⟨9,2,.plain (aB 4 0::aB 5 0::oV 6 5::aB 7 1::bD 8 (.fT a [aF 4,aF 6,aF 7]):: []),[]⟩
def Fa {b c d h k:FuncId} (y:dr Tryz.prog 0 b=some (yJ c)) (z:dr Tryz.prog 0 c=some (uL e I d b5)) (C:dr Tryz.prog 0 d=some (sN e I)) (D:dr Tryz.prog 0 b5=some (sO e I b5 h)) (E:dr Tryz.prog 0 h=some (qX e I k)) (F:dr Tryz.prog 0 k=some (pC e I)) (G:0<e) (L:g.length=v) (a:oA e n i v e0.length) (P:e0.length<=1000000000) {o:FuncId}{p r:List R}{S:R->R->Int} (T:oC f i g A e0 o p r S) (V: ∀j∈e0,oB e I j):
  AC Tryz.prog b [n,.bG o p r] (W f i g A e0) λs l=> ∃x,x.Perm e0/\l=W f i g A x:=by
 have t:=a.cl;have u:=a.len;refine aN hm y ?_;refine ai (a0Q z C D E F G L a P T V) ?_;rintro _ _ ⟨m,q,rfl⟩;refine aa ?_;exact⟨_,U.a1,m,q,rfl⟩
end
def a0R:dr Tryz.prog 0 70=some (yJ 133):=a9e
def a0S:dr Tryz.prog 0 218=some (yJ 292):=a9e
theorem au.wr (d:au t f e A n) (h:0<e) (k:A=flat g) (o: ∀c∈g,c.cells.length=e) (E:g≠ []):
  ∃a post b,t a=none/\n= .an a g.length b e/\f=W f a [] post g/\oA e n a 0 g.length/\g.length<=b/\b<=maxLen/\(g.length*e+post.length=b*e):=by
 subst k;have F:=db o;obtain⟨G,⟨c,_⟩|⟨a,p,b,r,rfl,x,y,L,z,P,C,D⟩⟩:=d;grind[List.length_nil,List.length_pos_iff,Nat.mul_pos]
 .obtain rfl:p=g.length:=a6S h a8Z;refine⟨a,r.drop (g.length*e),b,x,rfl,?_,⟨λS T=> ?_,rfl,rfl⟩,C,D,?_⟩
  .rw[W,a4P,<-z,a5e];exact(U.sA y).symm
  simp_all [jz];grind
theorem W.dR (d:f.sub t) (b:f v=none) (h: ∀a∈g,a.cells.length=e) (c:A.Perm g) (k:g.length<=i) (o:i<=maxLen) (x:g.length*e+e0.length=i*e):
  au f (W t v [] e0 A) e (flat A) (.an v g.length i e):=by
 have p:(flat A).length=g.length*e:=by rw[db λa r=>h a (c.mem_iff.1 r),c.length_eq]
 refine⟨U.af d b,.inr ⟨v,_,i,_,rfl,b,U.ah _ _ _,?_,?_,p,k,o⟩⟩;simp_all;simp_all
theorem az.mem {h:Type}{k:h->R->Prop}: ∀ {c:List h}{aP:List R},az k c aP-> ∀ {b:R},b∈aP-> ∃d,d∈c/\k d b
 | [],[],_,b,a=>by cases a
 |d::c,p::aP,⟨h1,o⟩,b,a=>by
  rcases a4T.1 a with rfl|a
  .simp_all
  .obtain⟨r,x,y⟩:=az.mem o a;grind
 | [],_:: _,a,_,_=>a.elim
 | _:: _,[],a,_,_=>a.elim
variable{b0:Type}
def az.perm {p:b0->R->Prop} (r:g.Perm A): ∀ {a:List b0},az p a A-> ∃c,c.Perm a/\az p c g:=by
 induction r with
 |nil=>exact λ{a} b=>⟨a,.refl _,b⟩
 |cons x _ ih=>
  intro a b
  match a,b with
  |h::a,⟨h1,k⟩=>obtain⟨c,d,o⟩:=ih k;exact⟨h::c,d.cons _,h1,o⟩
 |swap x G L=>
  intro a b
  match a,b with
  |h::y::a,⟨h1,k,d⟩=>exact⟨y::h::a,.swap _ _ _,k,h1,d⟩
 |trans _ _ z C=>intro a b;obtain⟨c,d,o⟩:=C b;obtain⟨D,E,F⟩:=z o;exact⟨D,E.trans d,F⟩
theorem oC.of {s:U}{l:Nat}{ds d:List R} (r:gf Tryz.prog b5=true) (x: ∀b∈e0,∀c∈e0,∃h:Int,∀a,a.Perm e0->AC Tryz.prog b5 (ds++ [b,c]++d) (W s l g A a) λk o=>o=W s l g A a/\k= .v (.int .i64 h)):
  ∃y,oC s l g A e0 b5 ds d y:=by
 classical
 exact⟨λb c=>if z: ∃h:Int,∀a,a.Perm e0->AC Tryz.prog b5 (ds++ [b,c]++d) (W s l g A a) λk o=>o=W s l g A a/\k= .v (.int .i64 h)then z.choose else 0,r,λa C b D c E=>by
  have p:=x b D c E;simp only[dif_pos p];exact p.choose_spec a C⟩
theorem a0T (E:Own) (p:Nat) (n3:1<=p) (n4:p<=8) (a:List (List Int)) (q:List R) (V:R) (x:U) (F:bR x 1 V q) (e:az isRow a q) (s: ∀k∈a,k.length=p) (n5:a.length<=100000) (j9:a≠ []):
  AC Tryz.prog 142 [fQ.V E,V] x λk f=> ∃t g,g.Perm a/\az isRow g t/\au x f 1 (flat t) k:=by
 have k0:=e.len;have n9:=F.one;have k1:=F.len;rw[k0]at k1;refine aN hm Ni ?_;refine bp λy a00=> ?_;generalize i:x.set y _=j;have u:x.sub j:=by subst i;exact aR
 have G:j y=some (.cells [.v (.int .u8 0),.v (.int .i64 0),.J (ad []) E]):=by subst i;exact aR
 clear i;refine ch [1,2,8,9] (λd:Nat×R=> [(10,.v (.int .i64 (d.1))),(5,d.2)]) (λd f=>d.1<=a.length/\ ∃h,au j f 1 h d.2/\h=flat h/\az isRow (a.take d.1) h) (λd=>a.length - d.1) (0,.J [] .nil) ⟨⟨a5d _,[],au.nil U.a1,rfl,trivial⟩,aR⟩ ?_;rintro⟨b,d⟩ r ⟨k2,h,o,z,c⟩ a01
 dsimp only at k2 o c|-
 have a02:=U.ae (o.1 _ _ G);refine aa ?_;refine aG (λk3=> ?_) λk3=> ?_
 .have k4:=a5E.2 j9;obtain⟨_,L,v,rfl⟩:=e.get (i:=b) (x:=a.getD b []) (by grind);obtain⟨_,k5,k6,rfl⟩:=e.get (i:=0) (x:=a.getD 0 []) (by simp[k4]);obtain⟨C,a03,l⟩:=F.get b _ L;obtain⟨w,A,k7⟩:=F.get 0 _ k5;have A:cL 1 V (.v (.int .i64 0))=some w:=A;have B:=U.ar u o.1;have a04:dn false 1 r C=some (.J (ad (a.getD b [])) v):=l.ld r B false 1 a8Z (by simp[R.cells]);have a05:dn false 1 r w=some (.J (ad (a.getD 0 [])) k6):=k7.ld r B false 1 a8Z (by simp[R.cells]);have k8:(ad (a.getD b [])).length=p:=by grind[bH,List.getD]
  have a06:(ad (a.getD 0 [])).length=p:=by rw[bH];grind
  have D:=eQ (a:=a) (e:=b) (b:= []) a8Z;have a07:fQ.ok p=true:=by rw[qW];grind
  generalize a.getD b []=k at*;generalize a.getD 0 []=a08 at*;refine aa ?_;refine bc (uK fQ _ _ _ a8Z a9a) ?_;refine ai (sm k v r (by rw[bH]at k8;omega)) ?_;rintro _ a09 ⟨k9,rfl⟩;have l0:=o.mono k9;refine aa ?_;refine eP (by simp[aS,R.cells]) a9a λa10 l1=> ?_;have H:=l0.mono (U.af (Y:= .cells (flat [R.J (ad k) .any])) U.a1 l1);have m:(flat h).length=b:=by rw[db (c.cells λ_ _=>isRow.cells),c.len,a4z];omega
  rw[z]at H;refine aa ?_;refine fg H a8Z (og rfl) rfl (by rw[m];simp[flat,R.cells];omega) (by rw[m];simp[flat,R.cells];omega) λl2 a11 I=> ?_;refine aa ?_;refine⟨(b+1,l2),⟨by show b+1<=a.length;omega,h++ [.J (ad k) .any],?_,?_,?_⟩,⟨rfl,rfl⟩,a8Z⟩
  .rw[<-z]at I;exact I
  .conv=>lhs;rw[z]
   simp[flat,R.cells]
  .show az isRow (a.take (b+1)) _;rw[D];exact c.snoc ⟨_,rfl⟩
 .obtain rfl:b=a.length:=a8Z;rw[a4S]at c;have P: ∀D∈h,D.cells.length=1:=c.cells λ_ _=>isRow.cells;have m:=c.len;have l3:h≠ []:=by grind
  obtain⟨K,post,a13,M,rfl,N,O,l4,l5,Q⟩:=au.wr o a8Z z P l3;have l6:K≠y:=by rintro rfl;rw[M]at G;cases G
  have X: ∀Y,(W r K [] post Y).read y=some [.v (.int .u8 0),.v (.int .i64 0),.J (ad []) E]:=λY=>U.ae ((U.ao _ _ l6.symm).trans (o.1 _ _ G));have l7:=λS T=>W.dR (A:=S) o.1 M P T l4 l5 Q;obtain⟨a14,l8⟩:=oC.of (b5:=219) (ds:= []) a9f λa15 l9 a16 n0=>by
   obtain⟨C,l,Z,rfl⟩:=c.mem l9;obtain⟨n,n1,n2,rfl⟩:=c.mem n0;have Q:=s C l;have a18:=s n n1;exact⟨sM C n,λS _=>a0y E Z n2 C n _ y (X S) ⟨a8Z,a8Z⟩ a8Z⟩
  rw[N];clear N;refine ai (Fa a0S a0M a0I a0K a0G a0E a8Z rfl O a8Z l8 λD L=>⟨P D L,?_⟩) ?_
  .obtain⟨k,_,Z,rfl⟩:=c.mem L;rfl
  rintro _ _ ⟨S,T,rfl⟩;clear z X P O;refine aa ?_;obtain⟨g,a19,a27⟩:=c.perm T;have a29:=(l7 _ T).base u;grind[U.a1]
abbrev ny (a b:List Int) (c d h:Own):List R:= [.J (ad a) c,.J (ad b) d,.v (.int .u8 0),.v (.int .i64 0),.J [] h,.v (.int .i64 1),.v (.bool false)]
theorem a0U (y z:List Int) (C D E:Own) (d h:U) (k:List R) (o:R) (a:au d h 1 k o):AC Tryz.prog 141 [o,.agg (ny y z C D E)] h λF G=>au d G 1 (k.take 1) F:=by
 have g:=fI a;obtain⟨L,P,_,i⟩:=a.src;refine aN hm Ng ?_;refine bp λj p=> ?_;refine aG (λS=> ?_) λS=> ?_
 .obtain⟨r,⟨rfl,_⟩|⟨b,x,c,T,rfl,V,W,e,l,m,n,f⟩⟩:=a
  .simp at P;omega
  .obtain rfl:x=L:=a8Z;have q:cg 1 (.an b x c 1) none (some (.v (.int .i64 1))) none=some (.an b 1 c 1):=hL (v:=1) a8Z;refine aa ?_;refine⟨_,U.a1,U.af r (U.bF r p),.inr ⟨b,1,c,T,rfl,V,U.af U.a1 p _ _ W,e,?_,?_,a8Z,f⟩⟩;grind
   .rw[a4z];omega
 grind[List.take_of_length_le,U.a1,U.af]
def ev (b c:List Int) (a:ay):Bool:=decide (a.live≠0)&&jV b c a.aU a.aV
theorem a0V (b c:List Int) (p r x d h k:Own) (a:ay) (y:a.sum.length=32) (z:b.length<=1000000000000) (o:U):AC Tryz.prog 130 [.agg (ny b c p r x),.agg (ab a d h k)] o λC D=>D=o/\C= .v (.bool (ev b c a)):=by
 have F:=(aW (M:=d) (e6:=h) (h4:=k) y).all;refine aN hm MV ?_;refine bp λG L=> ?_;refine cW λP S T V=> ?_;generalize W:ab a d h k=e at*;refine aG (λE=> ?_) λE=> ?_
 .refine bc (F1 _ b c a.aU a.aV _ _ _ _ z) ?_;refine aG (λc2=> ?_) λc2=> ?_
  .refine aP ?_;rw[ev,c2,Bool.and_false]
  simp_all [ev]
 .refine aP ?_;rw[ev,decide_eq_false a8Z,a6N]
theorem Fb {a b:List Int} (c:jV q b6 a b=true):cP (gx q b6 a b).1 (gx q b6 a b).2 (gx q b6 a b).1.length=true/\(gx q b6 a b).1.length=q.length:=by
 have d:=id c;rw[jV,a4A]at c;obtain⟨h,hm⟩:=c;obtain⟨y,z,C,D,E⟩:=yC h;rw[oy,a4A]at h;obtain⟨r,x⟩:=h;simp only[cP,a4A,decide_eq_true_eq,a4O,a5O]at r x hm;have k:(gx q b6 a b).1.length=q.length:=by rw[gx,if_pos d];simp[z]
 have F:(gx q b6 a b).2.length=q.length:=by rw[gx,if_pos d];simp[y,C]
 refine⟨?_,k⟩;rw[k];simp only[cP,a4A,decide_eq_true_eq,a4O,a5O];refine⟨⟨⟨⟨D,E⟩,k⟩,F⟩,λo p=> ?_⟩;have G:=r.2 o p;have L:=x.2 o p;obtain⟨P,S⟩:=hm o p;rw[gx,if_pos d];grind
def yK (b c:List Int) (a:ay) (d:List Int):Bool:=jV b c a.aU a.aV&&sL d (gx b c a.aU a.aV).1
def a0W (a d:List Int) (G L r x y z S:Own) (b:ay) (h:List Int) (T:b.sum.length=32) (j:h.length=a.length) (l:a.length<=8) (k:U):AC Tryz.prog 135 [.agg (ny a d G L r),.agg (ab b x y z),.J (ad h) S] k λV W=>W=k/\V= .v (.bool (yK a d b h)):=by
 have m:=(aW (M:=x) (e6:=y) (h4:=z) T).all;refine aN hm N3 ?_;refine bp λC n=> ?_;refine cW λP q s t=> ?_;generalize u:ab b x y z=e at*;generalize o:(k.set C _).set P _=D;have E:k.sub D:=by subst o;exact aR
 have cl:D C=some (.cells (ny a d G L r)):=by subst o;exact aR
 have v:D P=some (.cells e):=by subst o;exact aR
 clear o;refine gs (F2 _ a d b.aU b.aV _ _ _ _ a8Z) λw c=> ?_;have A:=U.ae (c _ _ cl);refine aM λf F=> ?_;have g:C≠f:=by rintro rfl;rw[c _ _ cl]at F;cases F
 have B:=g.symm;have H:=U.bF (U.ar E c) F;refine aa ?_;refine aG (λp=> ?_) λp=> ?_
 .obtain⟨i,c2⟩:=Fb p;refine bc (a0z r _ _ _ _ _ h _ i a8Z) ?_;refine⟨U.ar E c,aP ?_⟩;rw[yK,p,a5U]
 .refine⟨U.ar E c,aP ?_⟩;rw[yK,p,a6N]
abbrev kG (a:ay) (b c d:Own) (h k:Nat) (id o:Int):List R:=ab a b c d++ [.v (.int .u64 (h:Int)),.v (.int .u64 (k:Int)),.v (.int .i64 id),.v (.int .i64 o)]
def qY (a:ay) (b:R):Prop:=a.sum.length=32/\a.cz/\ ∃c d h k o id p,b= .agg (kG a c d h k o id p)
variable{b1:Int}{w j2:ay}{M e6 h4:Own}
theorem uR {id:Int} (d:w.sum.length=32):(kG w M e6 h4 e i id b1).length=41/\(kG w M e6 h4 e i id b1).take 41=kG w M e6 h4 e i id b1/\(kG w M e6 h4 e i id b1).take 37=ab w M e6 h4/\
  ((kG w M e6 h4 e i id b1).drop 37).take 2= [.v (.int .u64 (e:Int)),.v (.int .u64 (i:Int))]/\aX false 1 ((kG w M e6 h4 e i id b1).drop 39)= .v (.int .i64 id)/\aX false 1 ((kG w M e6 h4 e i id b1).drop 40)= .v (.int .i64 b1):=by
 have c:=(aW (M:=M) (e6:=e6) (h4:=h4) d).len;have a: ∀b,(kG w M e6 h4 e i id b1).drop (37+b)= [R.v (.int .u64 (e)),.v (.int .u64 (i)),.v (.int .i64 id),.v (.int .i64 b1)].drop b:=λb=>by
  rw[a5V,a5k a8Z,c,a6Y,a4P]
 have h:(kG w M e6 h4 e i id b1).length=41:=by rw[a4y,c];rfl
 refine⟨h,a4x a8Z,?_,?_,?_,?_⟩;simp_all
 .rw[a 0];rfl
 .rw[a 2];rfl
 .rw[a 3];rfl
theorem a0X (E:qY w n) (F:qY j2 b3): ∃G:Int,∀k,AC Tryz.prog 71 [n,b3] k λL P=>P=k/\L= .v (.int .i64 G):=by
 obtain⟨S,_,r,x,y,a,b,id,o,rfl⟩:=E;obtain⟨T,_,z,C,D,c,d,h,p,rfl⟩:=F;have V:=uR (M:=r) (e6:=x) (h4:=y) (e:=a) (i:=b) (id:=id) (b1:=o) S;have W:=uR (M:=z) (e6:=C) (h4:=D) (e:=c) (i:=d) (id:=h) (b1:=p) T;refine⟨if qV a b c d=0 then(if id=h then IntKind.i64.wrap (o - p)else if id<h then -1 else 1)else qV a b c d,λk=> ?_⟩;generalize kG w r x y a b id o=e at*;generalize kG j2 z C D c d h p=f at*;refine aN hm Le ?_;refine bp λg i=> ?_;refine cW λj l a b=> ?_;refine bc (F0 _ _ _ _ _) ?_
 repeat' first|refine aG (λ_=> ?_) λ_=> ?_|trivial
 all_goals simp_all
theorem a0Y (c d:List Int) (k o h:Own) (a:Nat) (p:a<=1000000000000) (b:U):AC Tryz.prog 68 [.agg (ny c d k o h),.v (.int .i64 (a:Int))] b λy z=>z=b/\y= .v (.bool (cP c d a)):=by
 have r:=λb=>uK fQ h a b p a9a;simp only[qW]at r;refine aN hm La ?_;refine bp λC F=> ?_;refine aG (λD=> ?_) λD=> ?_
 .refine aG (λc2=> ?_) λc2=> ?_
  .refine bc (od _ c d _ _ _ p) ?_;refine aG (λaH=> ?_) λaH=> ?_
   .trivial
   .have E:decide (1<=a/\a<=8)=true:=decide_eq_true a8Z;have x:=r (b.set C (.cells (ny c d k o h)));rw[E]at x;exact bc x trivial
  grind[cP,lg]
 grind[cP,lg]
theorem Fc {a:Int}:ic b1 a<0↔b1<a:=by unfold ic;omega
theorem Fe {a:Int}:ic b1 a=0↔b1=a:=by unfold ic;omega
def kH:List Int->List Int->Prop
 |a::c,b::d=>a<b\/a=b/\kH c d
 | _,_=>False
theorem qZ: ∀ {b c:List Int},b.length=c.length->(fN b c<0↔kH b c)
 | [],[],_=>by simp[fN,kH]
 |d::b,h::c,a=>by
  have ih:=qZ (by simpa using a);grind[fN,kH,Fe,Fc]
 | [],_:: _,a=>by simp at a
 | _:: _,[],a=>by simp at a
def yL: ∀ {b:List Int},¬kH b b
 | [],a=>a
 |c::b,a=>a.elim a8Z λa=>yL a.2
def yM: ∀ {c d h:List Int},kH c d->kH d h->kH c h
 |k::c,o::d,p::h,a,b=>by
  rcases a with a|⟨rfl,a⟩<;>rcases b with b|⟨rfl,b⟩
  .exact .inl a8Z
  .exact .inl a
  .exact .inl b
  .exact .inr ⟨rfl,yM a b⟩
theorem yN: ∀ {a b:List Int},a.length=b.length->kH a b\/a=b\/kH b a
 | [],[],_=> .inr (.inl rfl)
 |k::a,o::b,c=>by
  rcases Int.lt_trichotomy k o with d|rfl|d
  .exact .inl (.inl d)
  .rcases yN (by simpa using c)with h|rfl|h
   .exact .inl (.inr ⟨rfl,h⟩)
   .simp
   .exact .inr (.inr (.inr ⟨rfl,h⟩))
  .exact .inr (.inr (.inl d))
 | [],_:: _,c=>by simp at c
 | _:: _,[],c=>by simp at c
def yO (a:Nat) (b c:List Int):Prop:=b.getD a 0<c.getD a 0\/b.getD a 0=c.getD a 0/\kH b c
theorem uS (a:q.length=b6.length):cH e q b6<0↔yO e q b6:=by grind[cH,yO,Fe,qZ,Fc]
structure nz (d:Nat) (a:List Int->List Int->Int):Prop where
 jb: ∀x,x.length=d-> ¬a x x<0
 sP: ∀x y z,x.length=d->y.length=d->z.length=d->a x y<0->a y z<0->a x z<0
 r0: ∀x y,x.length=d->y.length=d->a x y<0\/x=y\/a y x<0
def nz.yP {a:List Int->List Int->Int} (c:nz e a) (b:q.length=e) (d:b6.length=e) (h:a q b6<0): ¬a b6 q<0:=λk=>c.jb q b (c.sP q b6 q b d b h k)
def nz.Ff {c:List Int->List Int->Int} (h:nz e c): ∀a b d,a.length=e->b.length=e->d.length=e-> ¬c a b<0-> ¬c b d<0-> ¬c a d<0:=λa b d k o r z x y=>by
 rcases h.r0 a b k o with p|rfl|p
 .omega
 .omega
 .exact x (h.sP _ _ _ o k r p y)
theorem pE (k o:Nat):nz k (cH o) where
 jb d h a:=by
  rw[uS rfl]at a;rcases a with a|a
  .omega
  .exact yL a.2
 sP d p z h r C b c:=by
  rw[uS a8Z]at*;rcases b with b|⟨b,x⟩<;>rcases c with c|⟨c,y⟩
  .exact .inl a8Z
  .exact .inl a8Z
  .exact .inl a8Z
  .exact .inr ⟨a8Z,yM x y⟩
 r0 d p h r:=by rw[uS a8Z,uS a8Z];grind[yO,Int.lt_trichotomy,yN]
theorem a0Z (d:Nat):nz d fN where
 jb a b c:=by rw[qZ rfl]at c;exact yL c
 sP a h p b k r h1 o:=by rw[qZ a8Z]at*;exact yM h1 o
 r0 a h b k:=by simp_all [qZ,yN]
theorem yQ {z:Nat}{o:List Int->List Int->Int} (C:nz z o): ∀ {c a:List (List Int)},(∀b∈c,b.length=z)->a.Perm c->c.Pairwise (λp r=> ¬o r p<0)->a.Pairwise (λp r=> ¬o r p<0)->a=c
 | [],a,_,d,_,_=>d.eq_nil
 |b::c,a,x,d,h1,E=>by
  cases a with
  |nil=>simp_all
  |cons h a=>
   obtain⟨T,F⟩:=a5g.1 h1;obtain⟨V,G⟩:=a5g.1 E;have D:h∈b::c:=d.mem_iff.1 a9a;have L:b∈h::a:=d.mem_iff.2 a9a;have k:h=b:=by
    rcases a4T.1 D with k|W
    .exact k
    rcases a4T.1 L with k|e
    .exact k.symm
    rcases C.r0 h b (x h D) (x b a9a)with y|y|y
    .grind
    .exact y
    .grind
   subst k;rw[yQ C (λP S=>x P (by simp[S])) (List.Perm.cons_inv d) F G]
theorem a1a (c:Nat) (a:List Int) (b:List (List Int)):(eY c a b).Perm (a::b):=by grind[List.takeWhile_append_dropWhile,decide,cH,eY,List.perm_middle]
def Fg {p c:Nat}{d:List Int} (r:d.length=p): ∀ {h:List (List Int)},(∀b∈h,b.length=p)->h.Pairwise (λx y=> ¬cH c y x<0)->(eY c d h).Pairwise (λx y=> ¬cH c y x<0)
 | [],_,_=>by simp[eY]
 |b::h,z,D=>by
  obtain⟨E,L⟩:=a5g.1 D;have F:=pE p c;have G:=z b a9a;by_cases o:cH c b d<0
  .have C:eY c d (b::h)=b::eY c d h:=by simp[eY,o]
   rw[C];refine a5g.2 ⟨λk a=> ?_,Fg r (λk a=>z k (by simp[a])) L⟩;rcases yl.1 a with rfl|a
   .exact F.yP G r o
   .exact E k a
  .have C:eY c d (b::h)=d::b::h:=by simp[eY,o]
   rw[C];refine a5g.2 ⟨λk a=> ?_,D⟩;rcases a4T.1 a with rfl|a
   .exact o
   .exact F.Ff k b d (z k (by simp[a])) G r (E k a) o
theorem Fh {o d:Nat}: ∀(h a:List (List Int)),(∀b∈h,b.length=o)->(∀b∈a,b.length=o)->a.Pairwise (λp r=> ¬cH d r p<0)->(h.foldl (λx c=>eY d c x) a).Perm (a++h)/\(h.foldl (λx c=>eY d c x) a).Pairwise (λp r=> ¬cH d r p<0)
 | [],a,_,_,y=>by simpa using y
 |c::h,a,h1,z,y=>by
  have C:=h1 c a9a;have D: ∀b∈eY d c a,b.length=o:=λb k=>by
   rcases yl.1 k with rfl|k
   .exact C
   .exact z b k
  obtain⟨E,F⟩:=Fh h (eY d c a) (λb k=>h1 b (by simp[k])) D (Fg C z y);grind[a1a,trans]
variable{Q:List (List Int)}
def sQ (a: ∀b∈Q,b.length=i):(ea e Q).Perm Q/\(ea e Q).Pairwise (λc d=> ¬cH e d c<0):=by simpa[ea] using Fh Q [] a a9a .nil
def a1b (a:isRow q n):n.one=true/\n.cells= [n]:=by obtain⟨b,rfl⟩:=a;trivial
theorem az.of {k:Type}{o:k->R->Prop}: ∀ {b:List k}{aP:List R},aP.length=b.length->(∀(c:Nat) d h,b[c]? =some d->aP[c]? =some h->o d h)->az o b aP
 | [],[],_,_=>trivial
 |d::b,r::aP,a,p=>⟨p 0 d r rfl rfl,az.of (by simpa using a) λc x h y z=>p (c+1) x h y z⟩
 | [],_:: _,a,_=>by simp at a
 | _:: _,[],a,_=>by simp at a
variable{m:Program}
def a1c (a:gf m b5=true): ∀b c,(callFunc b5 b).run m c= .ok (.enter b5 b) c:=by
 unfold gf at a;split at a
 .rename_i k d;rw[a4A]at a;obtain⟨o,h⟩:=a5j.1 a.1;exact enters_of d (by simpa using a.2) h
 .cases a
theorem a1d {k:List Int->List Int->Int} (o:nz i k) {x:List (List Int)} (W:f v=some (.cells g)) (F:az isRow Q A) (G:Q.length=e) (j:g.take e=A) (y:e<=4000000) (l:0<e) (L: ∀a∈Q,a.length=i)
  (P:x.Perm Q) (m:x.Pairwise (λz c=> ¬k c z<0)) (p:FuncId) (C:List R) (n:t.sub f) (q: ∀c,t c=none\/ ∃s,t c=some (.ro s)) (u:gf Tryz.prog p=true)
  (w: ∀b d D E,b.length=i->d.length=i->AC Tryz.prog p ([.J (ad b) D,.J (ad d) E]++C) t λa _=>a= .v (.int .i64 (k b d))):
  AC Tryz.prog 118 [.an v e O 1,.bG p [] C] f λa S=>a= .aK []/\ ∃r,az isRow x r/\S=f.set v (.cells (r++g.drop e)):=by
 refine(ZM (m:=Tryz.prog) Tryz.EV isRow (λ_ _=>a1b) W F.len (λY b z h T=> ?_) G j a8Z p C n q (λa=>a.length=i) L l k o.jb o.sP o.Ff (a1c u) λb d z c T y h B=> ?_).mono λa S H=> ?_
 .obtain⟨c,y,Z⟩:=F.get h;simp_all
 .obtain⟨D,rfl⟩:=T;obtain⟨E,rfl⟩:=y;exact w b d D E h B
 .obtain⟨I,r,j9,V,K,M,N,X⟩:=H;have:=yQ o (λb h=>L b (P.mem_iff.1 h)) (V.trans P.symm) m N;subst this;exact⟨I,r,az.of (by rw[K,V.length_eq,G]) M,X⟩
def gy (k o:U) (a:List R) (c:R):Prop:=
 k.sub o/\(∀p∈a,p.cells.length=41)/\((a= []/\(c= .J [] .nil\/c= .J [] .zero))\/ ∃d h post b,k d=none/\o d=some (.cells (h++flat a++post))/\a.length<=b/\b<=maxLen/\a.length*41+post.length=b*41/\
  ((c= .an d a.length b 41/\h= [])\/c= .bA d h.length a.length b 41))
def gy.mono {a:R} (c:gy f t g a) (b:t.sub e4):gy f e4 g a:=by obtain⟨d,h,k⟩:=c;refine⟨U.ar d b,h,k.imp_right ?_⟩;rintro⟨o,p,post,r,x,y,z⟩;exact⟨o,p,post,r,x,b _ _ y,z⟩
def gy.len (a:gy f t g n):fb n=some (.v (.int .i64 (g.length:Int)))/\n.cells= [n]:=by obtain⟨_,_,⟨rfl,rfl|rfl⟩|⟨b,c,post,d,_,_,_,_,_,⟨rfl,_⟩|rfl⟩⟩:=a<;>exact⟨rfl,rfl⟩
def gy.other {o:bq} (c:gy f t g n) (d:f e=none) (h:cK n≠some e):gy f (t.set e o) g n:=by
 obtain⟨k,p,r⟩:=c;refine⟨U.af k d,p,r.imp_right ?_⟩;rintro⟨a,x,post,y,z,C,D,E,F,b⟩;have G:a≠e:=by rintro rfl;rcases b with ⟨rfl,_⟩|rfl<;>exact h rfl
 exact⟨a,x,post,y,z,by rw[U.ao _ _ G];exact C,D,E,F,b⟩
def au.other {o:bq} (b:au f t i g n) (c:f e=none) (d:cK n≠some e):au f (t.set e o) i g n:=by
 obtain⟨h,k⟩:=b;refine⟨U.af h c,k.imp_right ?_⟩;rintro⟨a,p,r,x,rfl,y,z,C⟩;have D:a≠e:=by rintro rfl;exact d rfl
 exact⟨a,p,r,x,rfl,y,by rw[U.ao _ _ D];exact z,C⟩
variable{s a7:R -> U -> Prop}
theorem gy.app {E:R}{l:cy s} (m:gy t f g b3) (q:n.cells.length=41) (u:bN f 41 E=some (1,n.cells)) (Q:g.length<=100000000)
  (F: ∀c z,gy t z (g++ [n]) c->(∀a,cK c=some a->cK b3=some a\/f a=none)->(∀a,cK b3≠some a->f a≠none->z a=f a)->s c z):jG 41 152 f b3 E (bO s l):=by
 obtain⟨C,v,w⟩:=m;have G: ∀L∈g++ [n],L.cells.length=41:=λL X=>by
  grind
 have P:flat (g++ [n])=flat g++n.cells:=by simp[flat]
 have S:=db v;unfold jG;rw[vI u];simp only[bO];have Y: ∀(k o:Nat) (x:List R),f k=none->g.length+1<=o->o<=maxLen->x.length=(o -(g.length+1))*41->s (.an k (g.length+1) o 41) (f.set k (.cells (flat g++n.cells++x))):=λk o x T r hm Z=>by
  have V:=U.bF C T;refine F _ _ ⟨U.af C V,G,.inr ⟨k,[],x,o,V,?_,?_,hm,?_,.inl ⟨?_,rfl⟩⟩⟩ (λa p=> ?_) λa p A=> ?_
  .rw[U.ah,P];rfl
  .simpa using r
  grind
  .rw[a4y];rfl
  grind[cK,Option.some.injEq]
  .have:a≠k:=by rintro rfl;exact A T
   exact U.ao _ _ this
 rcases w with ⟨rfl,B⟩|⟨d,b,post,h,W,e,j9,H,k0,I⟩
 .rcases B with rfl|rfl;simp_all;simp_all
 .have K:g.length+1<=h-> ∃y,putAt (b++flat g++post) (b.length+g.length*41) n.cells=b++flat (g++ [n])++y/\(g.length+1)*41+y.length=h*41:=λr=>by
   refine⟨post.drop 41,?_,by rw[a4N];omega⟩;have D:(b++flat g).length=b.length+g.length*41:=by simp_all
   rw[putAt,<-D,a7e,<-a5l,a7g,q,P];simp
  have i: ∀c,cK b3=some d->cK c=some d->((c= .an d (g.length+1) h 41/\b= [])\/c= .bA d b.length (g.length+1) h 41)->g.length+1<=h->s c (f.set d (.cells (putAt (b++flat g++post) (b.length+g.length*41) n.cells))):=λc j M N r=>by
   obtain⟨y,D,O⟩:=K r;rw[D];refine F _ _ ⟨U.af C W,G,.inr ⟨d,b,y,h,W,U.ah _ _ _,by simpa using r,H,by simpa using O,?_⟩⟩ (λa p=> .inl ?_) λa p _=> ?_
   .simpa using N
   .rw[M]at p;rw[j];exact p
   .have:a≠d:=by rintro rfl;exact p j
    exact U.ao _ _ this
  rcases I with ⟨rfl,rfl⟩|rfl
  .simp only[e];refine⟨trivial,by simp[S];omega,a8Z,a8Z,?_⟩;split
   .have:=i (.an d (g.length+1) h 41) rfl rfl (.inl ⟨rfl,rfl⟩) ‹_›;simpa using this
   simp_all
  .simp only[e];refine⟨trivial,by simp[S];omega,a8Z,a8Z,?_⟩;split
   .exact i (.bA d b.length (g.length+1) h 41) rfl rfl (.inr rfl) ‹_›
   simp_all
abbrev lu (a:Nat) (b c:List Int) (d h k:Own) (o:Nat) (p:R) (r x y:Int) (z:R):List R:=
 [.ptr a 0,.J (ad b) d,.J (ad c) h,.v (.int .u8 0),.v (.int .i64 0),.J [] k,.v (.int .i64 1),.v (.bool false),.v (.int .i64 (o:Int)),p,.v (.int .i64 r),.v (.int .i64 x),.v (.int .i64 y),z]
structure ij where
 gz:Nat
 aU:List Int
 aV:List Int
 hs:Own
 eT:Own
 hr:Own
 d:Nat
structure dF (A:ij) (b c:U) (a:Nat) (us:List R) (L:R) (es:List R) (oD:R):Prop where
 gG:b a=none
 x: ∃n ou d:Int,c a=some (.cells (lu A.gz A.aU A.aV A.hs A.eT A.hr A.d L n ou d oD))
 l:au b c 1 us L
 w:gy b c es oD
 gY:cK L≠some a
 jX:cK oD≠some a
 lw: ∀p,cK L=some p->cK oD≠some p
def dF.mono {c:ij}{d h k:U}{o:Nat}{p:List R}{r:R}{x:List R}{y:R} (a:dF c d h o p r x y) (b:h.sub k):dF c d k o p r x y:=
 ⟨a.gG,by obtain⟨z,C,D,a⟩:=a.x;exact⟨z,C,D,b _ _ a⟩,a.l.mono b,a.w.mono b,a.gY,a.jX,a.lw⟩
theorem dF.set {b:ij}{k o:U}{c:Nat}{p:List R}{d:R}{r:List R}{h:R} (a:dF b k o c p d r h) (x y z:Int):dF b k (o.set c (.cells (lu b.gz b.aU b.aV b.hs b.eT b.hr b.d d x y z h))) c p d r h:=
 ⟨a.gG,⟨x,y,z,U.ah _ _ _⟩,au.other a.l a.gG a.gY,a.w.other a.gG a.jX,a.gY,a.jX,a.lw⟩
def au.has (b:au t f i g n) (a:cK n=some e):f e≠none:=by
 obtain⟨_,⟨_,rfl|rfl⟩|⟨d,h,k,o,rfl,_,c,_⟩⟩:=b
 .cases a
 .cases a
 .obtain rfl:=a4v a;rw[c];simp
def gy.has (a:gy t f g n) (b:cK n=some e):f e≠none:=by
 obtain⟨_,_,⟨_,rfl|rfl⟩|⟨d,h,post,k,_,c,_,_,_,⟨rfl,_⟩|rfl⟩⟩:=a
 .cases b
 .cases b
 all_goals (obtain rfl:=a4v b;rw[c];exact λa=>by cases a)
def au.fD (c:au f e4 e g n) (d:f.sub t) (h: ∀a,cK n=some a->t a=e4 a):au f t e g n:=by obtain⟨C,k⟩:=c;refine⟨d,k.imp_right ?_⟩;rintro⟨b,o,p,r,rfl,x,y,z⟩;exact⟨b,o,p,r,rfl,x,(h b rfl).trans y,z⟩
structure Fi (A:ij) (b:U) (c:Nat) (L oD:R) (a:Nat):Prop where
 n:b a=none
 x:a≠c
 l:cK L≠some a
 w:cK oD≠some a
def dF.fresh {d:ij} (a:dF d f t e g n A b3) (b:t i=none):Fi d f e n b3 i:=
 ⟨U.bF a.l.1 b,(by obtain⟨_,_,_,h⟩:=a.x;rintro rfl;rw[b]at h;cases h),(λc=>au.has a.l c b),λc=>a.w.has c b⟩
def dF.wr {c:ij} (a:dF c f t e g n A b3) (b:Fi c f e n b3 i) (d:bq):dF c f (t.set i d) e g n A b3:=
 ⟨a.gG,(by obtain⟨h,k,o,p⟩:=a.x;exact⟨h,k,o,(U.ao _ _ b.x.symm).trans p⟩),au.other a.l b.n b.l,a.w.other b.n b.w,a.gY,a.jX,a.lw⟩
def r1 (p:g.length=37) (a b c d:R):(g++ [a,b,c,d]).length=41/\(g++ [a,b,c,d]).take 41=g++ [a,b,c,d]/\(∀h o,putAt (g++ [a,b,c,d]) 37 [h,o]=g++ [h,o,c,d])/\(∀h,putAt (g++ [a,b,c,d]) 39 [h]=g++ [a,b,h,d])/\ ∀h,putAt (g++ [a,b,c,d]) 40 [h]=g++ [a,b,c,h]:=by
 have r: ∀k,(g++ [a,b,c,d]).take (37+k)=g++ [a,b,c,d].take k:=λk=>by rw[a7F,p,a4x a8Z,a6Y]
 have x: ∀k,(g++ [a,b,c,d]).drop (37+k)= [a,b,c,d].drop k:=λk=>by rw[a5V,p,a5k a8Z,a4P,a6Y]
 have y:(g++ [a,b,c,d]).length=41:=by rw[a4y,p];rfl
 refine⟨y,a4x a8Z,λh o=> ?_,λh=> ?_,λh=> ?_⟩
 .show(g++ [a,b,c,d]).take (37+0)++ [h,o]++(g++ [a,b,c,d]).drop (37+2)= _;rw[r,x];simp
 .show(g++ [a,b,c,d]).take (37+2)++ [h]++(g++ [a,b,c,d]).drop (37+3)= _;rw[r,x];simp
 .show(g++ [a,b,c,d]).take (37+3)++ [h]++(g++ [a,b,c,d]).drop (37+4)= _;rw[r,x];simp
abbrev zW:List R:=List.replicate 32 (R.v (.int .u8 0))++ [.J [] .nil,.J [] .nil]++ [.v (.int .i64 0),.v (.int .i64 0)]++ [.J [] .nil]++ [.v (.int .u64 0),.v (.int .u64 0)]++ [.v (.int .i64 0),.v (.int .i64 0)]
def a1e (a:g.length=37):putAt zW 0 g=g++ [.v (.int .u64 0),.v (.int .u64 0),.v (.int .i64 0),.v (.int .i64 0)]:=by rw[putAt,a];rfl
theorem Fj (a:ij) (k0 e:U) (c:Nat) (k1:List R) (f:R) (z:List R) (u:R) (C:dF a k0 e c k1 f z u) (b:ay) (D E F:Own) (v:b.sum.length=32) (n5:b.cz) (a48:a.aU.length<=8) (a52:z.length<=100000000):
  AC Tryz.prog 69 [.ptr c 0,.agg (ab b D E F)] e λ_ k2=> ∃n9 w,dF a k0 k2 c k1 f w n9/\if ev a.aU a.aV b=true then∃k3,qY b k3/\w=z++ [k3]else w=z:=by
 obtain⟨g,i,h,A⟩:=C.x;have a00:=(aW (M:=D) (e6:=E) (h4:=F) v).all;refine aN hm Lc ?_;refine bp λj a01=> ?_;have k4:j≠c:=by rintro rfl;rw[a01]at A;cases A
 have a56:=k4.symm;rw[hK];generalize B:e.set j _=G;have k5:e.sub G:=by subst B;exact aR
 have cl:G j=some (.cells (ab b D E F)):=by subst B;exact U.ah _ _ _
 have k6:=C.mono k5;have H:=k5 _ _ A;clear B;generalize I:ab b D E F=L at*;have a02:=U.ae cl;have fW:=U.ae H;have a03:=U.aJ H;refine aa ?_;rw[<-I];refine bc (a0V a.aU a.aV _ _ _ _ _ _ b v a8Z G) ?_;rw[I];refine aG (λK=> ?_) λK=> ?_;grind;have a57:bn .add (.int .i64 h) (.int .i64 1)=some (.int .i64 (IntKind.i64.wrap (h+1))):=rfl;obtain⟨a61,a62⟩:=C.w.len;have a63:=fI C.l;have r:=a00.1;have a04:=a1e r;obtain⟨a05,_,_,_,M⟩:=r1 r (.v (.int .u64 0)) (.v (.int .u64 0)) (.v (.int .i64 0)) (.v (.int .i64 0));have M:=M (.v (.int .i64 (IntKind.i64.wrap (h+1))));have a06:=(r1 r (.v (.int .u64 0)) (.v (.int .u64 0)) (.v (.int .i64 0)) (.v (.int .i64 (IntKind.i64.wrap (h+1))))).1;have a65:=(r1 r (.v (.int .u64 0)) (.v (.int .u64 0)) (.v (.int .i64 0)) (.v (.int .i64 (IntKind.i64.wrap (h+1))))).2.1;generalize l:R.v (.int .i64 (IntKind.i64.wrap (h+1)))=T at*;generalize a68:L++ [R.v (.int .u64 0),.v (.int .u64 0),.v (.int .i64 0),.v (.int .i64 0)]=a69 at*;generalize a07:L++ [R.v (.int .u64 0),.v (.int .u64 0),.v (.int .i64 0),T]=P at*;have a71:T.cells= [T]:=by subst l;rfl
 refine aa ?_;have m:=k6.set g i (IntKind.i64.wrap (h+1));simp only[lu,l]at m;refine aM λx o=> ?_;have a08:=m.fresh o;have a09:j≠x:=by rintro rfl;rw[U.ao _ _ k4,cl]at o;cases o
 have a73:=a09.symm;have k7:c≠x:=by rintro rfl;rw[U.ah]at o;cases o
 have a74:=k7.symm;refine aa ?_;have hm:jV a.aU a.aV b.aU b.aV=true:=by rw[ev,a4A]at K;exact K.2
 obtain⟨k8,a10⟩:=Fb hm;have k9:=U.ah G c (.cells [.ptr a.gz 0,.J (ad a.aU) a.hs,.J (ad a.aV) a.eT,.v (.int .u8 0),.v (.int .i64 0),.J [] a.hr,.v (.int .i64 1),.v (.bool false),.v (.int .i64 (a.d)),f,.v (.int .i64 g),.v (.int .i64 i),T,u]);generalize G.set c _=l0 at*;have l1:=m.mono (U.af (Y:= .cells P) U.a1 o);have l2:=U.af (Y:= .cells P) U.a1 o _ _ k9;have l3:=U.ah l0 x (.cells P);generalize l0.set x _=a81 at*;clear k9 o m fW a03 H k6 cl a02 C a04 a05 M a06;refine gs (F2 _ a.aU a.aV b.aU b.aV _ _ _ _ a8Z) λa11 n=> ?_;refine aM λN p=> ?_;have a13:=l1.mono (U.ar n (U.af (Y:= .cells [.J (ad (gx a.aU a.aV b.aU b.aV).1) .any,.J (ad (gx a.aU a.aV b.aU b.aV).2) .any]) U.a1 p));have q:=n _ _ l2;have s:=n _ _ l3;have l4:c≠N:=by rintro rfl;rw[q]at p;cases p
 have a14:=l4.symm;have l5:x≠N:=by rintro rfl;rw[s]at p;cases p
 have a15:=l5.symm;have a16:=U.ae q;have a18:=U.ae s;refine aa ?_;generalize a83:(gx a.aU a.aV b.aU b.aV).1=S at*;generalize (gx a.aU a.aV b.aU b.aV).2=O at*;have l6:=U.af (Y:= .cells [.J (ad S) .any,.J (ad O) .any]) U.a1 p _ _ q;have a19:=U.af (Y:= .cells [.J (ad S) .any,.J (ad O) .any]) U.a1 p _ _ s;generalize a11.set N _=Q at*;refine bc (F6 a.hr _ _ S O Q k8) ?_;obtain⟨y,a27⟩: ∃X,nw (S.getD 0 0)=X:=⟨_,rfl⟩;obtain⟨id,a29⟩: ∃X,S.getD 0 0=X:=⟨_,rfl⟩;rw[a29]at a27;clear a16 a18 p l4 l5 a14 a15 q s n l2 l3 l1 k8 a10;have a84:=U.aJ a19;have a86:=U.ae l6;have a88:P.length=41:=by grind
 have a89:putAt P 37 [.v (.int .u64 0),.v (.int .u64 (y))]=L++ [.v (.int .u64 0),.v (.int .u64 (y)),.v (.int .i64 0),T]:=by subst a07;exact(r1 r _ _ _ _).2.2.1 _ _
 obtain⟨a90,_,_,l7,_⟩:=r1 r (.v (.int .u64 0)) (.v (.int .u64 (y))) (.v (.int .i64 0)) T;have l7:=l7 (.v (.int .i64 id));obtain⟨l8,a92,_⟩:=r1 r (.v (.int .u64 0)) (.v (.int .u64 (y))) (.v (.int .i64 id)) T;generalize L++ [R.v (.int .u64 0),.v (.int .u64 (y)),.v (.int .i64 0),T]=a94 at*;generalize a30:L++ [R.v (.int .u64 0),.v (.int .u64 (y)),.v (.int .i64 id),T]=k at*;refine aa ?_;have a34:=a13.wr a08 (.cells k);have a36:(Q.set x (.cells k)) c=some (.cells [.ptr a.gz 0,.J (ad a.aU) a.hs,.J (ad a.aV) a.eT,.v (.int .u8 0),.v (.int .i64 0),.J [] a.hr,.v (.int .i64 1),.v (.bool false),.v (.int .i64 (a.d)),f,.v (.int .i64 g),.v (.int .i64 i),T,u]):=(U.ao _ _ k7).trans l6;generalize Q.set x _=l9 at*;refine eP (by simp[aS,hK,l8]) a9a λY n0=> ?_;have d:=a34.mono (U.af (Y:= .cells (flat [R.agg k])) U.a1 n0);have t:=U.af (Y:= .cells (flat [R.agg k])) U.a1 n0 _ _ a36;have a38:bN (l9.set Y (.cells (flat [R.agg k]))) 41 (.an Y 1 1 41)=some (1,(R.agg k).cells):=by simp_all [flat,U.ae,U.ah,hK,bN]
 generalize l9.set Y _=a42 at*;have fW:=U.ae t;refine aa ?_;refine gy.app (n:= .agg k) d.w l8 a38 a8Z λn1 k2 Z n2 n3=> ?_;have a43:=(n3 c d.jX (by rw[t];simp)).trans t;have a95:=U.aJ a43;have a96:=Z.len.2;refine aa ?_;have a47:a42 c≠none:=by rw[t];simp
 have n4:cK n1≠some c:=λj9=>(n2 c j9).elim d.jX a47;refine⟨_,U.a1,n1,z++ [.agg k],⟨d.gG,⟨g,i,IntKind.i64.wrap (h+1),by subst l;exact U.ah _ _ _⟩,au.other (au.fD d.l Z.1 λV W=>n3 V (d.lw V W) (au.has d.l W)) d.gG d.gY,Z.other d.gG n4,d.gY,n4,λV W j9=>(n2 V j9).elim (d.lw V W) (au.has d.l W)⟩,.agg k,⟨v,n5,D,E,F,0,y,id,IntKind.i64.wrap (h+1),?_⟩,rfl⟩;subst l;subst a30;subst I;rfl
def au.wide (p:au t f e g n): ∃o,au o f e g n/\t.sub o/\o.sub f/\ ∀k b,f k=some b->cK n≠some k->o k=some b:=by
 obtain⟨r,x|⟨d,y,z,C,rfl,D,E⟩⟩:=p
 .exact⟨f,⟨U.a1,.inl x⟩,r,U.a1,λ_ _ p _=>p⟩
 .refine⟨f.del d,⟨λh b a=> ?_,.inr ⟨d,y,z,C,rfl,U.il _ _,E⟩⟩,λh b a=> ?_,λh b a=> ?_,λk b F G=> ?_⟩
  .have c:h≠d:=by rintro rfl;rw[U.il]at a;cases a
   rwa[U.eG _ c]at a
  .have c:h≠d:=by rintro rfl;rw[D]at a;cases a
   rw[U.eG _ c];exact r h b a
  .have c:h≠d:=by rintro rfl;rw[U.il]at a;cases a
   rwa[U.eG _ c]at a
  .have c:k≠d:=by rintro rfl;exact G rfl
   rw[U.eG _ c];exact F
def au.fresh (b:au f t i g n) (a:cK n=some e):f e=none:=by
 obtain⟨_,⟨_,rfl|rfl⟩|⟨d,h,k,o,rfl,c,_⟩⟩:=b
 .cases a
 .cases a
 .obtain rfl:=a4v a;exact c
def gy.fD (h:gy f e4 g n) (k:f.sub t) (o: ∀a b,cK n=some a->e4 a=some b->t a=some b):gy f t g n:=by obtain⟨G,p,r⟩:=h;refine⟨k,p,r.imp_right ?_⟩;rintro⟨c,x,post,y,z,C,D,E,F,d⟩;refine⟨c,x,post,y,z,o c _ ?_ C,D,E,F,d⟩;rcases d with ⟨rfl,_⟩|rfl<;>rfl
theorem az.flat {b:List (List Int)}{a:List R} (h:az isRow b a):flat a=a:=by
 induction a generalizing b with
 |nil=>rfl
 |cons o a ih=>
  match b,h with
  |c::b,⟨⟨d,h1⟩,k⟩=>subst h1;rw[show Go.bx.flat (R.J (ad c) d::a)= [R.J (ad c) d]++Go.bx.flat a from rfl,ih k];rfl
theorem a1f (a:ij) (n F:U) (y:Nat) (V:List R) (o:List (List Int)) (G:R) (q:List R) (L:R) (r:dF a n F y V G q L) (s:az isRow o V) (n2: ∀b∈o,b.length=a.d) (Q:1<=a.d) (X:a.d<=8) (n3:a.aU.length=a.d) (n4:o.length<=1) (b:List Int) (P:Bool) (c:Own) (n5:b.length=a.d):
  AC Tryz.prog 74 [.ptr y 0,.agg [.J (ad b) c,.v (.bool P)]] F λ_ Y=> ∃t D Z,dF a n Y y t Z q L/\az isRow D t/\if(P&&jg a.aU a.aV b)=true then∃h,D= [h]/\(h=b\/h∈o)else D=o:=by
 obtain⟨j9,k0,k1,S⟩:=r.x;refine aN hm Lk ?_;refine bp λW k2=> ?_;rw[hK];have k3:W≠y:=by rintro rfl;rw[k2]at S;cases S
 have n9:=k3.symm;generalize e:F.set W _=E;have u:F.sub E:=by subst e;exact aR
 have cl:E W=some (.cells [.J (ad b) c,.v (.bool P)]):=by subst e;exact U.ah _ _ _
 have k4:=r.mono u;have f:=u _ _ S;clear e;have a00:=U.ae cl;have fW:=U.ae f;have a01:=U.aJ f;cases P with
 |false=>refine aa ?_;grind
 |true=>
 refine aa ?_;refine bc (a0s E a.aU a.aV b _ _ _ a8Z) ?_;refine aG (λk5=> ?_) λk5=> ?_;grind;refine eP (by simp[aS,R.cells]) a9a λg v=> ?_;have k:=k4.mono (U.af (Y:= .cells (flat [R.J (ad b) c])) U.a1 v);have w:=U.af (Y:= .cells (flat [R.J (ad b) c])) U.a1 v _ _ f;have k6:bN (E.set g (.cells (flat [R.J (ad b) c]))) 1 (.an g 1 1 1)=some (1,[R.J (ad b) c]):=og rfl;generalize E.set g _=A at*;have a02:=fI r.l;have B:=s.len;obtain⟨a03,k7,H,a04,i⟩:=au.wide k.l;refine aa ?_;refine fg k7 a8Z k6 rfl (by simp[B];omega) (by simp[B];omega) λk8 I z=> ?_;have j:=z.1 _ _ (i y _ w k.gY);have a05:=U.ae j;refine aa ?_;have l:az isRow (o++ [b]) (V++ [.J (ad b) c]):=s.snoc ⟨c,rfl⟩;have k9:=bR.dR z a8Z l.flat.symm (l.cells λ_ _=>isRow.cells);refine ai (a0T a.hr a.d Q X (o++ [b]) _ k8 I k9 l (λa06 S=> ?_) a9b a9a) ?_;grind;rintro l0 l1 ⟨l2,D,p,K,M⟩;have l3:=M.1 _ _ j;have a07:=U.ae l3;refine aa ?_;refine ai (a0U a.aU a.aV a.hs a.eT a.hr I l1 _ l0 M) ?_;rintro T l4 x;have a08:=fI x;have N:=x.1 _ _ j;have a09:=U.aJ N;have a10:=U.ae N;refine aa ?_;rw[K.flat]at x;have l5: ∀ {h c},A h=some c->cK G≠some h->l4 h=some c:=λr m=>x.1 _ _ (z.1 _ _ (i _ _ r m));have l6:=U.ar H (U.ar z.1 x.1);have l7: ∀ {d},cK T=some d-> ∀ {c},A d=some c->cK G≠some d->False:=λp _ r m=>by
  have:=au.fresh x p;rw[z.1 _ _ (i _ _ r m)]at this;cases this
 have O:cK T≠some y:=λC=>l7 C w k.gY;have l8: ∀d,cK L=some d->cK G≠some d:=λd p C=>k.lw d C p;have l9: ∀d,cK T=some d->cK L≠some d:=λd p C=>by
  have a11:=k.w.has C;simp_all [Option.ne_none_iff_exists']
 have n0:D≠ []:=λC=>by simp_all
 obtain⟨h,a13,rfl⟩:=a6B n0;refine⟨_,U.a1,l2.take 1,[h],T,⟨k.gG,⟨j9,k0,k1,U.ah _ _ _⟩,au.other (x.base (U.ar H z.1)) k.gG O,(gy.fD k.w l6 λd c p n1=>l5 n1 (l8 d p)).other k.gG k.jX,O,k.jX,l9⟩,K.take 1,h,rfl,?_⟩;have:h∈o++ [b]:=p.mem_iff.1 a9a;grind
theorem a1g (a:ij) (L p:U) (r:Nat) (z:List R) (x:List (List Int)) (C:R) (P:List R) (S:R) (D:dF a L p r z C P S) (y:az isRow x z) (j: ∀b∈x,b.length=a.d) (H:a.d<=8) (I:a.aU.length=a.d) (c:ay) (d h k:Own) (T:c.sum.length=32):
  AC Tryz.prog 72 [.ptr r 0,.agg (ab c d h k)] p λb l=>dF a L l r z C P S/\ ∃V,b= .v (.bool V)/\(V=true->x.length=1):=by
 obtain⟨K,M,N,E⟩:=D.x;have O:=(aW (M:=d) (e6:=h) (h4:=k) T).all;have m:=y.len;obtain⟨Q,W,_,X⟩:=D.l.src;rw[a5n,m]at W;subst W;refine aN hm Lg ?_;refine bp λF n=> ?_;rw[hK];have q:F≠r:=by rintro rfl;rw[n]at E;cases E
 have Y:=q.symm;generalize G:p.set F _=o;have e:p.sub o:=by subst G;exact aR
 have cl:o F=some (.cells (ab c d h k)):=by subst G;exact U.ah _ _ _
 have s:=D.mono e;have t:=e _ _ E;clear G;generalize u:ab c d h k=Z at*;have j9:=U.ae cl;have fW:=U.ae t;refine aa ?_;refine aG (λv=> ?_) λv=> ?_
 .obtain⟨b,rfl⟩:=a6x.1 (show x.length=1 by omega);have w:=bR.dR s.l a8Z y.flat.symm (y.cells λ_ _=>isRow.cells);obtain⟨_,A,f,rfl⟩:=y.get (i:=0) rfl;obtain⟨g,i,B⟩:=w.get 0 _ A;have i:cL 1 C (.v (.int .i64 0))=some g:=i;have k0:dn false 1 o g=some (.J (ad b) f):=B.ld o U.a1 false 1 a8Z (by simp[R.cells]);have k1:=j b a9a;have k2:((1:Nat):Int) - 1=0:=rfl;refine aa ?_;rw[<-u];refine bc (a0W a.aU a.aV a.hs a.eT a.hr d h k f c b T a8Z a8Z o) ?_;grind
 grind
theorem dF.base {c:ij}{d h k:U}{o:Nat}{p:List R}{r:R}{x:List R}{y:R} (a:dF c h k o p r x y) (b:d.sub h):dF c d k o p r x y:=by refine⟨U.bF b a.gG,a.x,a.l.base b,?_,a.gY,a.jX,a.lw⟩;obtain⟨z,C,D⟩:=a.w;refine⟨U.ar b z,C,D.imp_right ?_⟩;rintro⟨E,F,post,G,L,P⟩;exact⟨E,F,post,G,U.bF b L,P⟩
noncomputable def res (b:Nat->Prop) (c:U):U:=λa=>open Classical in if b a then none else c a
variable{j5:Nat -> Prop}
theorem r2 (a:j5 e):res j5 f e=none:=if_pos a
theorem oE (a: ¬j5 e):res j5 f e=f e:=if_neg a
theorem Fk:(res j5 f).sub f:=λa b c=>by
 grind[r2,oE]
def Fl (c:f.sub t):(res j5 f).sub (res j5 t):=λd h a=>by
 by_cases b:j5 d
 .rw[r2 b]at a;cases a
 .rw[oE b]at a|-;exact c _ _ a
def au.res {a:Nat->Prop}{c d:U}{h:Nat}{k:List R}{b:R} (r:au c d h k b) (x: ∀o,cK b=some o-> ¬a o):au (res a c) (res a d) h k b:=by obtain⟨y,z⟩:=r;refine⟨Fl y,z.imp_right ?_⟩;rintro⟨p,C,D,E,rfl,F,G,L⟩;have:=x p rfl;exact⟨p,C,D,E,rfl,by rw[oE this];exact F,by rw[oE this];exact G,L⟩
def jY (b:Nat) (c d:R) (a:Nat):Prop:=a=b\/cK c=some a\/cK d=some a
def dF.wide {r:ij} (a:dF r t f e g n A b3):dF r (res (jY e n b3) f) f e g n A b3/\t.sub (res (jY e n b3) f):=by
 have z:t.sub (res (jY e n b3) f):=λC S b=>by
  have: ¬jY e n b3 C:=by
   rintro(rfl|c|c)
   .rw[a.gG]at b;cases b
   .rw[au.fresh a.l c]at b;cases b
   .obtain⟨_,_,⟨_,rfl|rfl⟩|⟨d,x,post,h,k,_,_,_,_,⟨rfl,_⟩|rfl⟩⟩:=a.w
    .cases c
    .cases c
    all_goals (obtain rfl:=a4v c;rw[k]at b;cases b)
  rw[oE this];exact a.l.1 _ _ b
 refine⟨⟨r2 (.inl rfl),a.x,?_,?_,a.gY,a.jX,a.lw⟩,z⟩
 .obtain⟨_,o⟩:=a.l;refine⟨Fk,o.imp_right ?_⟩;rintro⟨d,D,h,E,rfl,k,p⟩;exact⟨d,D,h,E,rfl,r2 (.inr (.inl rfl)),p⟩
 .obtain⟨_,o,F⟩:=a.w;refine⟨Fk,o,F.imp_right ?_⟩;rintro⟨d,x,post,h,k,p,G,L,P,y⟩;refine⟨d,x,post,h,r2 (.inr (.inr ?_)),p,G,L,P,y⟩;rcases y with ⟨rfl,_⟩|rfl<;>rfl
def dF.sort {r:ij} (a:dF r t f e A b3 g n) (q:g≠ []): ∃b c post,f=W f b c post g/\oA 41 n b c.length g.length/\b≠e/\ ∀d,d.Perm g->dF r t (W f b c post d) e A b3 d n:=by
 obtain⟨E,F,⟨h,_⟩|⟨b,c,post,G,o,L,P,S,T,p⟩⟩:=a.w
 .trivial
 have x:cK n=some b:=by rcases p with ⟨rfl,_⟩|rfl<;>rfl
 have y:b≠e:=by rintro rfl;exact a.jX x
 refine⟨b,c,post,(U.sA L).symm,⟨λz s=> ?_,a.w.len.1,a.w.len.2⟩,y,λd k=>⟨a.gG,?_,?_,⟨U.af E o,λh V=>F h (k.mem_iff.1 V),.inr ⟨b,c,post,G,o,U.ah _ _ _,by rw[k.length_eq];exact P,S,by rw[k.length_eq];exact T,by rw[k.length_eq];exact p⟩⟩,a.gY,a.jX,a.lw⟩⟩
 .have C:(0)<=(z:Int):=a8Z;have D:(z:Int)<g.length:=a8Z;rcases p with ⟨rfl,rfl⟩|rfl
  .rw[jz C D,a5a,a4G,a4W]
  .rw[tC C D,a5a]
 .obtain⟨i,j,l,m⟩:=a.x;exact⟨i,j,l,(U.ao _ _ y.symm).trans m⟩
 .refine au.other a.l o λh=>a.lw _ h x
theorem dF.tail {a:ij}{z:R} (h:dF a t f e A b3 (n::g) z): ∃b,cg 41 z (some (.v (.int .i64 1))) none none=some b/\b.cells= [b]/\(∀p r x,dF a t (f.set e (.cells (lu a.gz a.aU a.aV a.hs a.eT a.hr a.d b3 p r x b))) e A b3 g b)/\
  ∃c o,cL 41 z (.v (.int .i64 0))=some (.ptr c o)/\dn true 37 f (.ptr c o)=some (.agg (n.cells.take 37)):=by
 obtain⟨l,P,⟨m,_⟩|⟨c,k,post,d,q,S,T,M,s,E⟩⟩:=h.w
 .cases m
 have V:cK z=some c:=by rcases E with ⟨rfl,_⟩|rfl<;>rfl
 have N:c≠e:=by rintro rfl;exact h.jX V
 have W:=P n a9a;have u:flat (n::g)=n.cells++flat g:=rfl;rw[a4C]at T s E;have C: ∀b:R,(cK b=none\/cK b=some c)->((g= []/\(b= .J [] .nil\/b= .J [] .zero))\/b= .bA c (k++n.cells).length g.length (d - 1) 41)-> ∀p r x,dF a t (f.set e (.cells (lu a.gz a.aU a.aV a.hs a.eT a.hr a.d b3 p r x b))) e A b3 g b:=λb v F p r x=>by
  have i:cK b≠some e:=λy=>by simp_all
  have w:gy t f g b:=by refine⟨l,λB H=>P B (by simp[H]),F.imp_right λF=> ?_⟩;refine⟨c,k++n.cells,post,d - 1,q,?_,a8Z,a8Z,a8Z,.inr F⟩;rw[S,u];simp
  exact⟨h.gG,⟨p,r,x,U.ah _ _ _⟩,au.other h.l h.gG h.gY,w.other h.gG i,h.gY,i,λO I y=>by
   rcases v with G|G
   .rw[G]at y;cases y
   .rw[G]at y;obtain rfl:=a4v y;exact h.lw _ I V⟩
 have D: ∀o,o=k.length->dn true 37 f (.ptr c o)=some (.agg (n.cells.take 37)):=λo K=>by
  subst K;have Q:=U.ae S;have X:k.length+37<=(k++flat (n::g)++post).length:=by grind
  simp_all [dn,aX,a5Y]
 rcases E with ⟨rfl,rfl⟩|rfl
 .by_cases j:1<d
  .refine⟨.bA c (1*41) (g.length+1 - 1) (d - 1) 41,gk (e:=1) a8Z T j,rfl,C _ (.inr rfl) (.inr ?_),c,0,?_,D 0 rfl⟩
   .simp[W]
   .exact jz a8Z a8Z
  .obtain rfl:d=1:=a8Z;have L:g= []:=a4B a8Z;subst L;refine⟨.J [] .zero,tM rfl,rfl,C _ (.inl rfl) (.inl ⟨rfl,.inr rfl⟩),c,0,?_,D 0 rfl⟩;rfl
 .by_cases j:1<d
  .refine⟨.bA c (k.length+1*41) (g.length+1 - 1) (d - 1) 41,?_,rfl,C _ (.inr rfl) (.inr ?_),c,k.length,?_,D _ rfl⟩
   .have Y:(1)<=((g.length+1:Nat):Int):=a8Z;have c2:((g.length+1:Nat):Int)<=d:=a8Z;have aH:(1:Int)<d:=a8Z;simp_all [cg,cE,Go.bx.intOf]
   .simp[W]
   grind[tC]
  .obtain rfl:d=1:=a8Z;have L:g= []:=a4B a8Z;subst L;refine⟨.J [] .zero,?_,rfl,C _ (.inl rfl) (.inl ⟨rfl,.inr rfl⟩),c,k.length,?_,D _ rfl⟩
   .rfl
   rfl
section
variable (S:ag) (d:Nat) (lo hi:List Int)
inductive mo:ay->ay->Prop
 |refl (k:ay):mo k k
 |step {k a b:ay}{n:c3} (h:fk S d k=some n) (hk:a∈n.kids) (c:ev lo hi a=true) (o:mo a b):mo k b
def nA (h:ay) (a:List Int):Prop:= ∃b c,mo S d lo hi h b/\fk S d b=some c/\(a,true)∈c.rows/\jg lo hi a=true
end
def gA (a:ay):Nat:=2*a.size.toNat - 1
theorem yR (d h:List Int) (c:Nat): ∀(b:List ay),(∀a∈b,ev d h a=true->1<=a.size)->(∀a∈b,(c:Int)<=a.size)->c<=1->((((b.filter (ev d h)).map gA).sum:Nat):Int)+(b.length:Int)*c<=2*(b.map ay.size).sum/\0<=(b.map ay.size).sum
 | [],_,_,_=>by simp
 |a::b,o,p,he=>by
  have ih:=yR d h c b (λa k=>o a (by simp[k])) (λa k=>p a (by simp[k])) he;have r:=o a a9a;have x:=p a a9a;rw[a7K,a4U,a7E,a4C];grind[Int.natCast_add,Int.add_mul,gA]
theorem yS (a:ev q b6 w=true):w.live≠0:=by rw[ev,a4A]at a;simp_all
def lv (a:w.sum.length=32):putAt (List.replicate 32 (R.v (.int .u8 0))++ [R.J [] .nil,.J [] .nil]++ [.v (.int .i64 0),.v (.int .i64 0)]++ [.J [] .nil]) 0 (ab w M e6 h4)=ab w M e6 h4:=by have:=(aW (M:=M) (e6:=e6) (h4:=h4) a).len;rw[putAt,this];simp
variable{b9:c3}
def uT (a:dS e b9=true): ∀b∈b9.kids,fw e b=true:=by simp only[dS,a4A,a4O]at a;exact a.1.2
def nB (b:fw e w=true):0<=w.size/\(w≠aA->1<=w.size)/\(w.live≠0->w≠aA):=by refine⟨(qD b).2.2.2.2.1,λa=> ?_,λc a=>c (by rw[a];rfl)⟩;simp only[fw,decide_eq_false a,a8N,a4A,a6d,a8K,decide_eq_false_iff_not]at b;omega
variable{H:ag}
theorem Fm (o:fk H e w=some b9):((b9.kids.filter (ev q b6)).map gA).sum<gA w/\1<=w.size:=by
 have h:=xP o;have z:w.size=b9.rows.length+(b9.kids.map ay.size).sum:=h.size;have k:=h.ok;simp only[dS,a4A]at k;obtain⟨⟨_,c⟩,a⟩:=k;have c:=a4O.1 c;have d: ∀w∈b9.kids,ev q b6 w=true->1<=w.size:=λw b d=>by
  obtain⟨_,p,r⟩:=nB (c w b);exact p (r (yS d))
 have x: ∀w∈b9.kids,((0:Nat))<=w.size:=λw b=>(nB (c w b)).1;have y:=yR q b6 0 b9.kids d x a8Z;rw[show(b9.kids.length)*((0:Nat):Int)=0 from Int.mul_zero _]at y;have C:(gA w)=2*w.size - 1\/w.size<1:=by unfold gA;omega
 split at a;grind;split at a;grind;split at a
 .simp only[a4A,decide_eq_true_eq,a4O,a6d,decide_eq_false_iff_not]at a;have D:=yR q b6 1 b9.kids d (λw b=>(nB (c w b)).2.1 (a.2 w b).2) a8Z;omega
 .cases a
def eb (a:ag) (b:Nat):Nat->ay->Option (List (List Int))
 |0,_=>none
 |c+1,d=>if d.live=0 then some []else match kD a b d with
  |none=>none
  |some (h,bI)=>match eb a b c (bI.getD 0 aA),eb a b c (bI.getD 1 aA)with
   |some k,some o=>some ((if h.2=true then [h.1]else [])++k++o)
   | _,_=>none
def uU {d:List Int×Bool}{o:List ay} (a:kD H e w=some (d,o)): ∃b c,o= [b,c]/\fk H e w=some (cp d b c)/\w.size=1+b.size+c.size/\0<=b.size/\0<=c.size/\d.1.length=e/\w.size<=1048576:=by
 unfold kD at a;split at a
 .cases a
 rename_i y h;split at a
 .rename_i p;simp only[a4H,a5G]at a;obtain⟨rfl,rfl⟩:=a;have k:=ER h;obtain⟨z,C,E⟩:=ES k p;have r:=xP h;obtain⟨F,rows,kids⟩:=y
  dsimp only at*
  obtain⟨d,rfl⟩:=a6x.1 z
  match kids,C with
  | [b,c],_=>have D:=r.size;have x:=uT k;subst p;simp only[a5T,a4U,a6k,a7E,List.sum_nil]at D;refine⟨b,c,rfl,h,a8Z,(nB (x b a9a)).1,(nB (x c a9a)).1,(lb k).1 _ a9a,r.o4⟩
 .cases a
theorem r3 {k:ag}{d:Nat}: ∀ {h:Nat}{c:ay}{b:List (List Int)},eb k d h c=some b->(b.length:Int)<=max 0 c.size/\ ∀o∈b,o.length=d
 |0,_,_,a=>by cases a
 |h+1,c,b,a=>by
  rw[eb]at a;split at a;grind;split at a
  .cases a
  rename_i y z p;split at a
  .rename_i C D r x;obtain rfl:=a4v a;obtain⟨E,F,rfl,_,G,L,P,S,_⟩:=uU p;have T:=r3 r;have V:=r3 x;grind
  .cases a
theorem yT (L A:Nat) (h:ag) (c:Nat) (k0:1<=c) (k1:c<=8): ∀(d:Nat) (z:U) (_:bB z L A h) (p:ay) (P S T:Own),p.sum.length=32->p.cz->p.size.toNat<d->
  AC Tryz.prog 117 [dU L c,.agg (ab p P S T)] z λi C=>z.sub C/\match eb h c d p with
   |none=>i= .aK [.J [] .nil,.v (.int .i64 21)]
   |some rows=> ∃k r,i= .aK [r,.v (.int .i64 0)]/\au z C 1 k r/\az isRow rows k
 |0,_,_,_,_,_,_,_,_,F=>by omega
 |d+1,z,k2,p,P,S,T,gB,n0,a29=>by
  have a30:=(aW (M:=P) (e6:=S) (h4:=T) gB).all;refine aN hm MD ?_;refine bp λj a34=> ?_;refine cW λk3 a36 a38 a42=> ?_;generalize l:(z.set j _).set k3 _=m;have D:z.sub m:=by subst l;exact aR
  have c2:m j=some (.cells [.ptr L 0,.v (.int .i64 (c))]):=by subst l;exact aR
  have aH:m k3=some (.cells (ab p P S T)):=by subst l;exact aR
  clear l;rw[eb];have a43:=U.ae c2;have a47:=U.ae aH;refine aG (λn=> ?_) λn=> ?_
  .exact⟨_,U.a1,D,[],.J [] .nil,rfl,au.nil D,trivial⟩
  rw[if_neg n];refine ai (yj m L A h (k2.mono D) p P S T gB n0 c k0 k1) ?_;rintro i k4 ⟨G,q⟩;cases B:kD h c p with
  |none=>rw[B]at q;obtain rfl:=q;refine aa ?_;refine aM λs V=> ?_;refine aa ?_;exact U.af (U.ar D G) (U.bF (U.ar D G) V)
  |some n1=>
   obtain⟨b,a48⟩:=n1;rw[B]at q;obtain⟨x,n2,rfl,a52,a56,k5,H⟩:=q;obtain⟨o,cc,rfl,a57,a61,a62,a63,a65,a68⟩:=uU B;have a69:=fI k5;have t:=bR.dR k5 a8Z rfl (H.cells λ_ _=>bu.cells);have I:=t.len;rw[H.len]at I;have I:fb n2=some (.v (.int .i64 2)):=I;refine aa ?_;refine aM λs V=> ?_;have k6:=G _ _ c2;have n3:j≠s:=by rintro rfl;rw[k6]at V;cases V
   have a71:=n3.symm;have u:=U.af (Y:= .cells [.J (ad b.1) x,.v (.bool b.2)]) (U.a1) V;have bs:=U.ah k4 s (.cells [.J (ad b.1) x,.v (.bool b.2)]);refine aa ?_;rw[U.set_set];have n4:=u _ _ k6;have t:=t.mono u;have K:=U.ar D (U.ar G u);have n5:=(k2.mono D).mono (U.ar G u);generalize k4.set s _=M at*;have a73:=U.ae bs;refine o3 [2,7] (λr:R=> [(9,r)]) (λr C=>M.sub C/\ ∃k,au M C 1 k r/\az isRow (if b.2=true then [b.1]else []) k) (λn9=> ?_) (λn9=> ?_) ?_
   .refine aa ?_;refine eP (by simp[aS,R.cells]) a9a λa74 a00=> ?_;refine aa ?_;refine fg (au.nil (U.af U.a1 a00)) a8Z (og rfl) rfl (by simp[flat,R.cells]) (by simp[flat,R.cells]) λa01 a02 k7=> ?_;refine aa ?_;exact⟨a01,⟨k7.1,_,k7,⟨⟨x,rfl⟩,trivial⟩⟩,rfl⟩
   .refine aa ?_;exact⟨_,⟨[],au.nil U.a1,trivial⟩,rfl⟩
   rintro r a02 ⟨a81,k,a03,k8⟩ a83;refine aa ?_;obtain⟨own,k9⟩: ∃own,(if b.2=true then [b.1]else [])=own:=⟨_,rfl⟩;have a84:own.length<=1:=by subst k9;split<;>simp
   rw[k9]at k8
   let ac:Nat->List (List Int):=λa=>own++(if 0<a then(eb h c d o).getD []else [])++(if 1<a then(eb h c d cc).getD []else []);refine ch [2,34,35] (λb:Nat×R=> [(36,.v (.int .i64 (b.1))),(9,b.2)]) (λb C=>b.1<=2/\(∃k,au M C 1 k b.2/\az isRow (ac b.1) k)/\(0<b.1->(eb h c d o).isSome=true)/\(1<b.1->(eb h c d cc).isSome=true)) (λb=>2 - b.1) (0,r) ⟨⟨a8Z,⟨k,a03,by simpa[ac] using k8⟩,λF=>absurd F (Nat.lt_irrefl 0),λF=>absurd F a8Z⟩,aR⟩ ?_;rintro⟨a,a04⟩ l0 ⟨a05,⟨a06,y,N⟩,O,l1⟩ a86
   dsimp only at a05 y N O l1
   refine aa ?_;refine aG (λn=> ?_) λn=> ?_
   .have a88:a<2:=a8Z;obtain⟨_,Q,v,l2,W,e,f,rfl⟩:=H.get (i:=a) (x:= [o,cc].getD a aA) (by simp_all);obtain⟨a07,a89,l3⟩:=t.get a _ Q;have l4:=(aW (M:=W) (e6:=e) (h4:=f) v).all;have a08:dn true 37 l0 a07=some (.agg (ab ([o,cc].getD a aA) W e f)):=by have:=l3.ld l0 y.1 true 37 a8Z (by rw[hK];omega);rw[this,aX,if_pos rfl,hK,l4.2.1]
    have a09:=lv (M:=W) (e6:=e) (h4:=f) v;have l5:([o,cc].getD a aA).size.toNat<d:=by
     obtain rfl|rfl:a=0\/a=1:=a8Z
     .show o.size.toNat<d;omega
     .show cc.size.toNat<d;omega
    obtain⟨E,X⟩: ∃E,[o,cc].getD a aA=E:=⟨_,rfl⟩;rw[X]at Q v l2 l4 a08 a09 l5;clear l3 Q;refine aa ?_;refine aM λa10 Y=> ?_;have l6:=y.1 _ _ n4;have a11:j≠a10:=by rintro rfl;rw[l6]at Y;cases Y
    have a90:=a11.symm;have Z:=U.af (Y:= .cells (ab E W e f)) (U.a1) Y;have a92:=U.ae l6;refine aa ?_;refine ai (yT L A h c k0 k1 d _ (n5.mono (U.ar y.1 Z)) E W e f v l2 l5) ?_;rintro i a94 ⟨l7,w⟩;have a13:eb h c d E=if a=0 then eb h c d o else eb h c d cc:=by
     rw[<-X];obtain rfl|rfl:a=0\/a=1:=a8Z
     .rfl
     .rfl
    cases j9:eb h c d E with
    |none=>rw[j9]at w;obtain rfl:=w;refine aa ?_;refine⟨_,U.a1,U.ar K (U.ar y.1 (U.ar Z l7)),?_⟩;grind
    |some iw=>
     rw[j9]at w a13;obtain⟨a95,a96,rfl,l8,l9⟩:=w;obtain⟨a97,a14,a15,a98⟩:=l8.src;have a99:=fI l8;have a16:=y.mono (U.ar Z l7);have b00:=N.len;have b01:=l9.len;have b02:=(r3 j9).1;have b03:(ac a).length<=3000000:=by
      have: ∀x:Option (List (List Int)),(∀g,x=some g->g.length<=1048576)->(x.getD []).length<=1048576:=λx F=>by
       cases x with
       |none=>simp
       |some g=>exact F g rfl
      have G:=this (eb h c d o) λg a18=>by have:=(r3 a18).1;omega
      grind
     have b04:E.size<=1048576:=by
      rw[<-X];obtain rfl|rfl:a=0\/a=1:=a8Z
      .show o.size<= _;omega
      .show cc.size<= _;omega
     refine aa ?_;refine fg a16 a8Z a15 a14 a8Z a8Z λa19 b05 a27=> ?_;refine aa ?_;refine⟨(a+1,a19),⟨by dsimp only;omega,⟨_,a27,?_⟩,?_,?_⟩,⟨rfl,rfl⟩,by dsimp only;omega⟩
     .have:ac (a+1)=ac a++iw:=by grind
      rw[this];exact N.append l9
     .intro _;obtain rfl|rfl:a=0\/a=1:=a8Z;grind
      .exact O a8Z
     grind
   .obtain rfl:a=2:=a8Z;obtain⟨b06,b07⟩:=a5j.1 (O a8Z);obtain⟨b08,b09⟩:=a5j.1 (l1 a8Z);refine aa ?_;refine⟨_,U.a1,U.ar K y.1,?_⟩;refine⟨a06,a04,rfl,y.base K,?_⟩;grind
end Go.Proofs.YtlgnfcaolejgeaaGreat
namespace Go.bx
open Go
def View.freeze {a:U}{b:R}{c:Nat}{d:List R} (k:a c=some (.cells d)):View a b (a.set c (.ro d)) b:=λx y v o p=>by
 obtain⟨r,h⟩:=Step.freeze o k;exact⟨r,h,p.mono h.le⟩
variable{f t e4:U}{g A e0:List R}{e i v O b8 j0:Nat}
def View.Fo (b:f O=some (.ro g)) (c:e*i<=g.length):View f (.an O e b8 i) f (.J (ed i e g) .any):=λd k v a h=>⟨d,.refl a,aY.frozen a b c h⟩
variable{u:bl}{l h7:World}
theorem aY.frozenAt {v:Value} (h:Holds u f l) (k:f O=some (.ro g)) (S:e+i<=g.length) (o:aY u v (.bA O e i b8 1)):aY u v (.J ((g.drop e).take i) .any):=by
 obtain⟨p,r,T,V,W,d,j⟩:=h.dO O _ k;have m:=d.1;cases o with
 |bA O e i b8 n hk x=>
  have y: ∀b∈g.drop e,b.one=true:=λb z=>p b (a5b z);obtain⟨C,D,E⟩:=vQ (i:=i) a8Z (by rw[a4N];omega) y;rw[kq,a5n]at*;by_cases F:i=0
  .subst F;rw[a6s];exact .dg _ _ _ (λG=>by cases G) trivial
  .refine .J O e i b8 1 (λa=>r.getD (e+a) Go.undef) _ .any hk E.symm x C ?_ ?_ ?_ trivial;grind;grind
   .intro a L c;rw[D]at c;have P:a<i:=by grind
    rw[a5w P,a7x]at c;exact d.2 (e+a) L c
def View.a1h (b:f O=some (.ro g)) (c:e+i<=g.length):View f (.bA O e i b8 1) f (.J ((g.drop e).take i) .any):=λd k v a h=>⟨d,.refl a,aY.frozenAt a b c h⟩
end Go.bx
namespace Go.Proofs.YtlgnfcaolejgeaaGreat
open Go Go.bx
theorem a1i (p:List (List Int)) (a:List R) (c:Own) (b:U) (d:az isRow p a) (F:p.length<=4000000):
  AC Tryz.prog 311 [.J a c] b λr h=>au b h 1 a r:=by
 have G:=d.len;refine mS λL=> ?_;have x:c= .nil->a= []:=λk=>by subst k;simp_all
 refine bd hm RH a9a ?_;simp -dsimp -implicitDefEqProofs (disch:=first|omega|assumption|(simp only[bk,Nat.reduceAdd];try omega)) only[go_sem,simprocAttr,↓o5];refine o6 (λo=>by rw[x o]) (λo=> ?_) ?_
 .have y:a= []:=by trivial
  subst y;simp -dsimp -implicitDefEqProofs (disch:=first|omega|assumption|(simp only[bk,Nat.reduceAdd];try omega)) only[go_sem,simprocAttr,a5r];exact⟨b,U.a1,au.nil U.a1⟩
 .simp -dsimp -implicitDefEqProofs (disch:=first|omega|assumption|(simp only[bk,Nat.reduceAdd];try omega)) only[go_sem,simprocAttr,nX];have z:bN b 1 (.J a c)=some (a.length,a):=by have C:=d.flat;have D:=a4O.2 λk E=>decide_eq_true (d.cells (λ_ _=>isRow.cells) k E);simp only[bN,D,if_true,C]
  refine fg (au.zero (U.a1)) a8Z z a8Z a9b a9b λr h o=> ?_;simp -dsimp -implicitDefEqProofs (disch:=first|omega|assumption|(simp only[bk,Nat.reduceAdd];try omega)) only[go_sem,simprocAttr];exact⟨h,U.a1,by trivial⟩
variable{n b3:R}{f t e4:U}{Q:List (List Int)}{g A e0:List R}{e i v O b8 j0:Nat}
theorem Fp {y:List Int->List Int->Int} (l:nz e y) {z:List (List Int)} (C:au t e4 1 g n) (D:az isRow Q g) (m: ∀h∈Q,h.length=e) (X:Q.length<=4000000) (P:Q≠ [])
  (S:z.Perm Q) (q:z.Pairwise (λn p=> ¬y p n<0)) (r:FuncId) (E:List R) (F:f.sub e4) (s: ∀p,f p=none\/ ∃u,f p=some (.ro u)) (v:gf Tryz.prog r=true)
  (w: ∀b G x A,b.length=e->G.length=e->AC Tryz.prog r ([.J (ad b) x,.J (ad G) A]++E) f λh _=>h= .v (.int .i64 (y b G))):
  ∃c k,n= .an c Q.length k 1/\Q.length<=k/\AC Tryz.prog 118 [n,.bG r [] E] e4 λh o=>h= .aK []/\t.sub o/\f.sub o/\ ∃d T,az isRow z d/\o c=some (.ro (d++T))/\au t (o.set c (.cells (d++T))) 1 d n:=by
 obtain⟨c,B,k,V,rfl,L,H,I,W,K,i,M⟩:=C.an (λY=>P (by have:=D.len;grind));rw[a5n]at I W K;have Z:=D.len;obtain rfl:B=Q.length:=a8Z;have N:=a5E.2 P;refine⟨c,k,rfl,i,?_⟩;refine(a1d l H D rfl W a8Z N m S q r E F s v w).view λh o O=> ?_;obtain⟨rfl,d,j,rfl⟩:=O;have j9:=j.len;have k0:=S.length_eq;refine⟨.aK [],_,View.freeze (U.ah _ _ _),rfl,?_,?_,d,V.drop Q.length,j,U.ah _ _ _,?_⟩
 .rw[U.set_set];intro b x a;have:b≠c:=by rintro rfl;rw[L]at a;cases a
  rw[U.ao _ _ this];exact C.1 _ _ a
 .rw[U.set_set];intro b x a;have:b≠c:=by rintro rfl;have:=F _ _ a;grind
  rw[U.ao _ _ this];exact F _ _ a
 .rw[U.set_set,U.set_set];refine⟨λb x a=> ?_,.inr ⟨c,Q.length,k,d++V.drop Q.length,rfl,L,U.ah _ _ _,?_,?_,?_,i,M⟩⟩
  .have:b≠c:=by rintro rfl;rw[L]at a;cases a
   rw[U.ao _ _ this];exact C.1 _ _ a
  simp_all;simp_all
  .omega
end Go.Proofs.YtlgnfcaolejgeaaGreat
namespace Go.bx
open Go
variable{s a7:R -> U -> Prop}{b5:FuncId}{f t e4:U}{g A e0:List R}{e i v O b8 j0:Nat}{m:Program}
def AC.fz (b:f e=some (.cells A)) (c:AC m b5 g (f.set e (.ro A)) s):AC m b5 g f s:=
 c.pre λo p r d h=>by
  obtain⟨k,a⟩:=Step.freeze h b;exact⟨k,d.mono a.le,a⟩
def U.one (a:Nat) (b:bq):U:=λc=>if c=a then some b else none
variable{Y:bq}
def U.a1j:U.one e Y e=some Y:=by simp[U.one]
theorem U.one_sub (b:f e=some Y):(U.one e Y).sub f:=λc d a=>by
 unfold U.one at a;simp_all
theorem U.a1k: ∀a,U.one e (.ro g) a=none\/ ∃b,U.one e (.ro g) a=some (.ro b):=λa=>by
 unfold U.one;grind
end Go.bx
namespace Go.Proofs.YtlgnfcaolejgeaaGreat
open Go Go.bx
variable{n b3:R}{f t e4:U}{Q:List (List Int)}{g A e0:List R}{e i v O b8 j0:Nat}
theorem a1l {k:List (List Int)} (o:au t e4 1 g n) (y:e4.sub f) (z:az isRow Q g) (C: ∀a∈Q,a.length=v) (D:Q.length<=4000000) (E:Q≠ []) (w:e<v) (A:v<=8)
  (F:k.Perm Q) (G:k.Pairwise (λn L=> ¬cH e L n<0)) (P:f i=some (.cells [.v (.int .i64 (e:Int))])) (p:e4 i=none):
  ∃b d,n= .an b Q.length d 1/\Q.length<=d/\AC Tryz.prog 118 [n,.bG 336 [] [.ptr i 0]] f λa c=>a= .aK []/\t.sub c/\ ∃h r,az isRow k h/\c b=some (.ro (h++r))/\au t (c.set b (.cells (h++r))) 1 h n:=by
 have S:=U.bF o.1 p;have T:cK n≠some i:=λV=>au.has o V p;have W:=au.other (o.mono y) (o:= .ro [.v (.int .i64 (e))]) S T;obtain⟨b,d,rfl,j,l⟩:=Fp (pE v e) W z C D E F G 336 [.ptr i 0] (U.one_sub (U.ah f i (.ro [.v (.int .i64 (e:Int))]))) U.a1k a9f (λm q s u B H=>(EF m q s u e _ i (by simp[U.read,U.a1j]) a8Z a8Z a8Z).mono λa c x=>x.2);refine⟨b,d,rfl,j,AC.fz P (l.mono λa c x=> ?_)⟩;simp_all
def iJ (b:Nat):Nat->ag->List (List Int)->Nat->Except Int ay×ag
 |0,c,_,_=>(.ok aA,c)
 |o+1,c,a,dep=>if a= []then(.ok aA,c)else
  match iJ b o c ((ea (dep%b) a).take (a.length/2)) (dep+1)with
  |(.error d,h)=>(.error d,h)
  |(.ok p,h)=>match iJ b o h ((ea (dep%b) a).drop (a.length/2+1)) (dep+1)with
   |(.error d,k)=>(.error d,k)
   |(.ok r,k)=>dv k b (cp ((ea (dep%b) a).getD (a.length/2) [],true) p r)
def oF (h a:U) (b c:Nat) (d:Except Int ay×ag) (k:R):Prop:=bB a b c d.2/\Ext b c h a/\ha d.1 k
theorem ha.z:ha (.ok aA) (.aK [.agg (ab aA .nil .nil .nil),.v (.int .i64 0)]):=⟨bj,me,_,_,_,rfl⟩
theorem oF.z {a b:U}{c d:Nat}{h:ag} (o:bB a c d h) (k:a.sub b):oF a b c d (.ok aA,h) (.aK [.agg (ab aA .nil .nil .nil),.v (.int .i64 0)]):=⟨o.mono k,Ext.of k,ha.z⟩
theorem Fq (a c:Nat) (h:Nat) (k:Own) (o:Nat) (b:U) (d:ag) (x:bB b a c d):
  AC Tryz.prog 247 [dU a h,.J [] k,.v (.int .i64 (o:Int))] b λp r=>oF b r a c (.ok aA,d) p:=by
 refine aN hm Bp ?_;refine bp λy z=> ?_;refine cW λC D E F=> ?_;refine⟨_,U.a1,?_⟩;grind[cn,List.take_of_length_le,aW,bj,oF.z,U.af,U.a1]
theorem yU (d C:Nat) (c:Nat) (i:1<=c) (j:c<=8): ∀(k:Nat) (b:List (List Int)) (D:List R) (G:Own) (dep:Nat) (r:U) (o:ag),bB r d C o->az isRow b D->(∀h∈b,h.length=c)->b.length<=k->k<=4000000->dep+k<=100000000->
  AC Tryz.prog 247 [dU d c,.J D G,.v (.int .i64 (dep:Int))] r λh a16=>oF r a16 d C (iJ c k o b dep) h
 |0,b,D,G,dep,r,o,L,P,B,a18,_,_=>by
  obtain rfl:b= []:=a4B a8Z;obtain rfl:D= []:=a4B P.len;exact Fq d C c G dep r o L
 |k+1,b,D,G,dep,r,o,L,P,B,a18,a97,a98=>by
  have a99:=P.len;by_cases H:b= []
  .subst H;obtain rfl:D= []:=a4B P.len;rw[iJ,if_pos rfl];exact Fq d C c G dep r o L
  have b00:=a5E.2 H;have b01: ¬(b.length:Int)=0:=a8Z;have a19:=a6A dep i;have j9:=iJ.eq_2 c o b dep k;rw[if_neg H]at j9;generalize iJ c (k+1) o b dep=b02 at j9;obtain⟨l6,a27⟩:=sQ (e:=dep%c) B;have b03:=pw (dep%c) b;have l7:=λh l=>B h (l6.mem_iff.1 l);generalize ea (dep%c) b=E at*;refine aN hm Bp ?_;refine bp λl8 a29=> ?_;refine cW λm I b04 b05=> ?_;generalize K:(r.set l8 _).set m _=M;have l9:r.sub M:=by subst K;exact aR
  have aH:M l8=some (.cells [.ptr d 0,.v (.int .i64 (c))]):=by subst K;exact aR
  have bs:M m=some (.cells (ab aA .nil .nil .nil)):=by subst K;rw[<-cn];exact aR
  clear K;have k0:=L.mono l9;refine ai (a1i b D G M P a8Z) ?_;intro b06 a30 k1;refine aa ?_;have n0:=U.ae (k1.1 _ _ aH);refine aa ?_;refine ai (EG d c dep i a8Z j a30) ?_;rintro _ b07 ⟨n1,b08,S,n2,rfl⟩;refine aa ?_;obtain⟨z,p,rfl,a34,n3⟩:=a1l k1 n1 P B a8Z H a19 j l6 a27 S n2;refine ai n3 ?_;rintro _ k2 ⟨rfl,n,F,k3,N,n4,n5⟩;have n9:=au.fresh n5 rfl;clear n5;have b09:=N.len;have a36:=k0.mono n;have b10:=U.ae (n _ _ aH);clear n3 k1 S n2 n1 n0;have b11:(b.length:Int).tdiv 2=((b.length/2:Nat)):=rfl;have b12:cg 1 (.an z b.length p 1) none (some (.v (.int .i64 ((b.length/2:Nat))))) none=some (.an z (b.length/2) p 1):=hL a8Z;generalize b13:b.length/2=a at*;have b14:a<b.length:=a8Z;refine aa ?_;have b15:(F++k3).length=p\/True:= .inr trivial;have a38:(dep)+1=((dep+1:Nat):Int):=rfl;rw[a38];have a42:View k2 (.an z a p 1) k2 (.J (F.take a) .any):=by have:=View.Fo (e:=a) (b8:=p) (i:=1) n4 (by rw[a4y];omega);rwa[kq,a5Y a8Z]at this
  refine ai (AC.nm (g:= [dU d c]) a42 (yU d C c i j k (E.take a) (F.take a) .any (dep+1) k2 o a36 (N.take a) (λh l=>l7 h (a4K l)) (by rw[a4z];omega) a8Z a8Z)) ?_;rintro h a00 ⟨O,Q,k4⟩;generalize b16:iJ c k o (E.take a) (dep+1)=qm at*;obtain⟨a43,a01⟩:=qm
  dsimp only at O k4
  have X:=L.cC a29;have x:=L.cC I;have Y:=k0.cC n9;have a02:=Q _ _ X.1 X.2 (n _ _ aH);have Z:=Q _ _ x.1 x.2 (n _ _ bs);have a47:=Q _ _ Y.1 Y.2 n4;have a03:=((Ext.of (U.ar l9 n)).trans Q);cases a43 with
  |error a04=>
   obtain⟨k5,rfl⟩:=k4;refine aa ?_;refine aM λq y=> ?_;have k6:q≠m:=by rintro rfl;rw[Z]at y;cases y
   have a48:=k6.symm;have a52:=(aW (M:= .nil) (e6:= .nil) (h4:= .nil) bj).all;have a56:=lv (M:= .nil) (e6:= .nil) (h4:= .nil) bj;refine aa ?_;have a57:=U.aJ Z;have a61:=cB (a:= .nil) (b:= .nil) (c:= .nil) (M:= .nil) (e6:= .nil) (h4:= .nil) bj bj;rw[cn];refine aa ?_;refine⟨_,U.a1,?_⟩;exact⟨(O.mono (U.af U.a1 y)).set x,(a03.trans (Ext.of (U.af U.a1 y))).dV I,k5,rfl⟩
  |ok k7=>
   obtain⟨k8,a62,s,t,u,rfl⟩:=k4;refine aa ?_;refine aM λq y=> ?_;have k6:q≠m:=by rintro rfl;rw[Z]at y;cases y
   have a48:=k6.symm;have b17:=(aW (M:=s) (e6:=t) (h4:=u) k8).all;have b18:=lv (M:=s) (e6:=t) (h4:=u) k8;refine aa ?_;have T:=U.af (Y:= .cells (ab k7 s t u)) (U.a1) y;have cV:=U.ah a00 q (.cells (ab k7 s t u));have a63:=O.mono T;have n0:=U.ae (T _ _ a02);have a05:=T _ _ a47;have a65:=T _ _ Z;have a68:=T _ _ a02;have a69:=a03.trans (Ext.of T);rw[U.set_set];generalize a00.set q _=k9 at*;have a06: ∃v,cg 1 (.an z b.length p 1) (some (.v (.int .i64 ((a:Int)+1)))) none none=some v/\View k9 v k9 (.J (F.drop (a+1)) .any):=by
    by_cases S:a+1<p
    .refine⟨_,gk (e:=a+1) a8Z a34 S,?_⟩;rw[a5n];have:=View.a1h (e:=a+1) (i:=b.length -(a+1)) (b8:=p -(a+1)) a05 (by rw[a4y];omega);grind
    .have a71:b.length=p:=a8Z;have b19:a+1=b.length:=a8Z;refine⟨_,by have:=tM (i:=1) (O:=z) (e2:= .i64) a71;rw[show(a)+1=(b.length:Int) by omega];exact this,?_⟩;rw[a5k a8Z];exact View.J
   obtain⟨l0,a06,a73⟩:=a06;refine aa ?_;refine ai (AC.nm (g:= [dU d c]) a73 (yU d C c i j k (E.drop (a+1)) (F.drop (a+1)) .any (dep+1) k9 a01 a63 (N.drop (a+1)) (λh l=>l7 h (a5b l)) (by rw[a4N];omega) a8Z a8Z)) ?_;rintro h l1 ⟨l2,w,l3⟩;generalize b20:iJ c k a01 (E.drop (a+1)) (dep+1)=mV at*;obtain⟨cD,o2⟩:=mV
   dsimp only at l2 l3 j9
   have b21:=k0.cC n9;have a07:=O.cC y;have a74:=w _ _ X.1 X.2 a68;have l4:=w _ _ x.1 x.2 a65;have a81:=w _ _ Y.1 Y.2 a05;have a83:=w _ _ a07.1 a07.2 cV;have a08:=a69.trans w;cases cD with
   |error a04=>
    obtain⟨k5,rfl⟩:=l3;refine aa ?_;refine aM λA V=> ?_;have a84:A≠m:=by rintro rfl;rw[l4]at V;cases V
    have b22:=a84.symm;have a52:=(aW (M:= .nil) (e6:= .nil) (h4:= .nil) bj).all;have a56:=lv (M:= .nil) (e6:= .nil) (h4:= .nil) bj;have a57:=U.aJ l4;have a61:=cB (a:= .nil) (b:= .nil) (c:= .nil) (M:= .nil) (e6:= .nil) (h4:= .nil) bj bj;refine aa ?_;rw[cn];refine aa ?_;refine⟨_,U.a1,?_⟩;exact⟨(l2.mono (U.af U.a1 V)).set x,(a08.trans (Ext.of (U.af U.a1 V))).dV I,k5,rfl⟩
   |ok cc=>
    obtain⟨l5,a86,W,e,f,rfl⟩:=l3;refine aa ?_;refine aM λA V=> ?_;have b23:=(aW (M:=W) (e6:=e) (h4:=f) l5).all;have b24:=lv (M:=W) (e6:=e) (h4:=f) l5;refine aa ?_;rw[U.set_set];have g:=U.af (Y:= .cells (ab cc W e f)) (U.a1) V;have b25:=U.ae (U.ah l1 A (.cells (ab cc W e f)));have a88:=l2.mono g;have b26:=U.ae (g _ _ a74);have b27:=U.ae (g _ _ a83);have b28:(l1.set A (.cells (ab cc W e f))).read z=some (F++k3):=by have:=g _ _ a81;simp only[U.read,this]
    have a89:=g _ _ l4;have a90:=a08.trans (Ext.of g);generalize l1.set A _=a92 at*;obtain⟨_,a94,a09,rfl⟩:=N.get (i:=a) (x:=E.getD a []) (by simp_all);have b29:cL 1 (.an z b.length p 1) (.v (.int .i64 (a)))=some (.ptr z (a*1)):=by grind[jz,Int.toNat_natCast]
    have b30:aX false 1 (List.drop a (F++k3))= .J (ad (E.getD a [])) a09:=by obtain⟨a95,S⟩:=a4E.1 a94;rw[a5Z a8Z,a4V a95,S];rfl
    refine aa ?_;refine ai (uB a92 d C o2 a88 (E.getD a [],true) k7 cc a09 s t u W e f c i j k8 l5 a62 a86) ?_;rintro h b31 ⟨a96,a10,a11⟩;have b32:=U.aJ (a10 _ _ x.1 x.2 a89);obtain⟨b33,a13,l0,a14,a04,a15,rfl⟩:=a11.shape;have b34:=(aW (M:=a13) (e6:=l0) (h4:=a14) a15).all;have b35:=cB (a:= .nil) (b:= .nil) (c:= .nil) (M:=a13) (e6:=l0) (h4:=a14) bj a15;have b36:=(aW (M:= .nil) (e6:= .nil) (h4:= .nil) bj).len;refine aa ?_;refine⟨_,U.a1,?_⟩;exact⟨a96.set x,(a90.trans a10).dV I,a11⟩
def mq (a:ag) (b:Nat) (c:ay) (h:Nat):Except Int ay×ag:=
 match eb a b (c.size.toNat+1) c with
 |none=>(.error 21,a)
 |some d=>iJ b d.length a d h
def Fs (k:U) (d x:Nat) (c:ag) (o:bB k d x c) (a:ay) (E F G:Own) (e:a.sum.length=32) (A:a.cz) (b:Nat) (f:1<=b) (g:b<=8) (h:Nat) (Z:h<=10000000) (j9:a.size<=4000000):
  AC Tryz.prog 159 [dU d b,.agg (ab a E F G),.v (.int .i64 (h:Int))] k λL B=>oF k B d x (mq c b a h) L:=by
 have k0:=(aW (M:=E) (e6:=F) (h4:=G) e).all;have i:mq c b a h=match eb c b (a.size.toNat+1) a with
  |none=>(.error 21,c)
  |some p=>iJ b p.length c p h:=rfl
 generalize mq c b a h=k1 at*;refine aN hm NR ?_;refine bp λj k2=> ?_;refine cW λH k3 k4 k5=> ?_;refine hp λl y a3 a4 a5 ds=> ?_;generalize z:((k.set j _).set H _).set l _=C;have r:k.sub C:=by subst z;exact aR
 have aH:C j=some (.cells [.ptr d 0,.v (.int .i64 (b))]):=by subst z;exact aR
 have bm:C l=some (.cells (ab aA .nil .nil .nil)):=by subst z;rw[<-cn];exact aR
 clear z;refine ai (yT d x c b f g (a.size.toNat+1) C (o.mono r) a E F G e A a8Z) ?_;rintro L k6 ⟨P,D⟩;cases S:eb c b (a.size.toNat+1) a with
 |none=>rw[S]at D i;obtain rfl:=D;have I:=(aW (M:= .nil) (e6:= .nil) (h4:= .nil) bj).all;have k7:=cB (a:= .nil) (b:= .nil) (c:= .nil) (M:= .nil) (e6:= .nil) (h4:= .nil) bj bj;have K:=U.aJ (P _ _ bm);refine aa ?_;refine⟨_,U.a1,?_⟩;rw[cn,a4x (by rw[I.1];omega)];exact⟨((o.mono r).mono P).set (o.cC y),((Ext.of r).trans (Ext.of P)).dV y,a9d,rfl⟩
 |some p=>rw[S]at D i;obtain⟨M,k8,rfl,m,T⟩:=D;have n:=m;have k9:=U.ae (m.1 _ _ aH);rw[<-T.flat]at n;obtain⟨N,O,V⟩:=au.DH n T;obtain⟨l0,Q⟩:=r3 S;have W:=o.cC y;have l1:=(aW (M:= .nil) (e6:= .nil) (h4:= .nil) bj).len;refine aa ?_;have X:=AC.nm (m:=Tryz.prog) (g:= [dU d b]) O (yU d x b f g p.length p M .any h N c (((o.mono r)).mono V) T Q a8Z a8Z a8Z);refine ai X ?_;rintro L l2 ⟨Y,q,s⟩;obtain⟨l3,t,u,v,l4,w,rfl⟩:=s.shape;have K:=U.aJ (q _ _ W.1 W.2 (V _ _ bm));have l5:=(aW (M:=t) (e6:=u) (h4:=v) w).all;have l6:=cB (a:= .nil) (b:= .nil) (c:= .nil) (M:=t) (e6:=u) (h4:=v) bj w;refine aa ?_;refine⟨_,U.a1,?_⟩;exact⟨Y.set W,(((Ext.of r).trans (Ext.of V)).trans q).dV y,s⟩
end Go.Proofs.YtlgnfcaolejgeaaGreat
namespace Go.bx
open Go
section
end
end Go.bx
namespace Go.Proofs.YtlgnfcaolejgeaaGreat
open Go Go.bx
def mr (k:ag) (c:Nat) (o:List Int×Bool) (d h:ay) (p:Nat):Except Int ay×ag:=
 match dv k c (cp o d h)with
 |(.error r,a)=>(.error r,a)
 |(.ok b,a)=>if(2*b.size).tdiv 3+1<max d.size h.size then mq a c b p else(.ok b,a)
def jj (b:Nat) (h:List Int):Nat->ag->ay->Nat->Except Int ay×ag
 |0,a,_,_=>(.error 21,a)
 |r+1,a,k,dep=>if k=aA then dv a b (cp (h,true) k k)else match kD a b k with
  |none=>(.error 21,a)
  |some (d,bI)=>if d.1=h then(if d.2=true then(.error 8,a)else mr a b (d.1,true) (bI.getD 0 aA) (bI.getD 1 aA) dep)
   else if cH (dep%b) h d.1<0 then match jj b h r a (bI.getD 0 aA) (dep+1)with
    |(.error o,c)=>(.error o,c)
    |(.ok p,c)=>mr c b d p (bI.getD 1 aA) dep
   else match jj b h r a (bI.getD 1 aA) (dep+1)with
    |(.error o,c)=>(.error o,c)
    |(.ok p,c)=>mr c b d (bI.getD 0 aA) p dep
variable{w j2:ay}{e i v O b8 j0:Nat}{H:ag}
theorem Ft {h:ag}{k:List Int×Bool}{b:ay} (a:dv H e (cp k w j2)=(.ok b,h)):b.size=1+w.size+j2.size/\0<=w.size/\0<=j2.size/\b.size<=1048576:=by
 unfold dv at a;split at a
 .simp_all
 .rename_i p o;simp only[a5G,Except.ok.injEq]at a;obtain⟨rfl,_⟩:=a;have c:=um o;have d:=uT c.ok;have:=c.size;simp only[cp,a5T,a4U,a6k,a7E,List.sum_nil]at this;exact⟨a8Z,(nB (d w (by simp[cp]))).1,(nB (d j2 (by simp[cp]))).1,c.o4⟩
structure jk (cs:List R) (a b:ay):Prop where
 len:74<=cs.length
 bW:a.sum.length=32
 pF:a.cz
 ct:b.sum.length=32
 lY:b.cz
 cs: ∃nu nv c d h k r,cs=ab a nu nv c++(ab b d h k++r)
variable{n b3:R}{f t e4:U}{g A e0:List R}
theorem jk.of {s:U} (p:au f s 37 (flat g) n) (r:az bu [w,j2] g): ∃a o b,n= .an a 2 o 37/\f a=none/\s a=some (.cells b)/\jk b w j2:=by
 match g,r with
 | [_,_],⟨⟨bW,pF,nu,nv,c,rfl⟩,⟨ct,lY,d,h,k,rfl⟩,_⟩=>
  have F:=(aW (M:=nu) (e6:=nv) (h4:=c) bW).len;have G:=(aW (M:=d) (e6:=h) (h4:=k) ct).len;have x:flat [R.agg (ab w nu nv c),.agg (ab j2 d h k)]=ab w nu nv c++ab j2 d h k:=by simp[flat,R.cells]
  rw[x]at p;obtain⟨a,y,o,b,rfl,z,C,L,D,E,P,_⟩:=p.an (λS=>by simp_all);rw[a4y]at E;obtain rfl:y=2:=a8Z;refine⟨a,o,b,rfl,z,C,a8Z,bW,pF,ct,lY,nu,nv,c,d,h,k,b.drop 74,?_⟩;rw[<-a4J,<-D,a5e]
theorem jk.ld (p:jk g j2 w): ∃h k o b c d,aX true 37 g= .agg (ab j2 h k o)/\aX true 37 (g.drop 37)= .agg (ab w b c d)/\aX false 1 (g.drop 35)= .v (.int .i64 j2.size)/\aX false 1 (g.drop 72)= .v (.int .i64 w.size):=by
 obtain⟨h,k,o,b,c,d,r,rfl⟩:=p.cs;have y:=(aW (M:=h) (e6:=k) (h4:=o) p.bW).len;have D:=(aW (M:=b) (e6:=c) (h4:=d) p.ct).len;have z: ∀a,a<=37->(ab j2 h k o++(ab w b c d++r)).drop a=(ab j2 h k o).drop a++(ab w b c d++r):=λa C=>a5Z a8Z;have x: ∀a,a<=37->(ab j2 h k o++(ab w b c d++r)).drop (37+a)=(ab w b c d).drop a++r:=λa C=>by
  rw[<-a5l,a7u y,a5Z a8Z]
 refine⟨h,k,o,b,c,d,?_,?_,?_,?_⟩
 .simp only[aX,if_true];simp_all
 .rw[x 0 a8Z,a6C];simp only[aX,if_true];simp_all
 .rw[z 35 a8Z,(aW p.bW).d35];rfl
 .rw[x 35 a8Z,(aW p.ct).d35];rfl
variable{M e6 h4:Own}
theorem jk.Fu {k:ay} (a:jk g k j2) (o:w.sum.length=32) (y:w.cz):jk (putAt g 0 (ab w M e6 h4)) w j2:=by
 obtain⟨p,r,x,b,c,d,h,rfl⟩:=a.cs;have C:=(aW (M:=p) (e6:=r) (h4:=x) a.bW).len;have D:=(aW (M:=b) (e6:=c) (h4:=d) a.ct).len;have E:=(aW (M:=M) (e6:=e6) (h4:=h4) o).len;have z:putAt (ab k p r x++(ab j2 b c d++h)) 0 (ab w M e6 h4)=ab w M e6 h4++(ab j2 b c d++h):=by simp_all [putAt]
 rw[z];exact⟨by simp only[a4y];omega,o,y,a.ct,a.lY,_,_,_,_,_,_,h,rfl⟩
theorem jk.Fv {k:ay} (a:jk g j2 k) (o:w.sum.length=32) (y:w.cz):jk (putAt g 37 (ab w M e6 h4)) j2 w:=by
 obtain⟨b,c,d,p,r,x,h,rfl⟩:=a.cs;have C:=(aW (M:=b) (e6:=c) (h4:=d) a.bW).len;have D:=(aW (M:=p) (e6:=r) (h4:=x) a.ct).len;have E:=(aW (M:=M) (e6:=e6) (h4:=h4) o).len;have z:putAt (ab j2 b c d++(ab k p r x++h)) 37 (ab w M e6 h4)=ab j2 b c d++(ab w M e6 h4++h):=by grind[putAt,List.take_left',List.drop_drop,List.drop_left',List.append_assoc]
 rw[z];exact⟨by simp only[a4y];omega,a.bW,a.pF,o,y,_,_,_,_,_,_,h,rfl⟩
set_option maxHeartbeats 1600000 in
theorem Fw (h C:Nat) (a:Nat) (k5:1<=a) (O:a<=8) (c:List Int) (j:Own) (a11:c.length=a): ∀(T:Nat) (l:U) (p:ag) (_:bB l h C p) (k:ay) (r x y:Own) (dep:Nat),k.sum.length=32->k.cz->k.size.toNat<T->dep+T<=4000000->
  AC Tryz.prog 152 [dU h a,.agg (ab k r x y),.J (ad c) j,.v (.int .i64 (dep:Int))] l λQ D=>oF l D h C (jj a c T p k dep) Q
 |0,l,p,W,k,r,x,y,dep,gB,X,a95,a96=>by omega
 |T+1,l,p,W,k,r,x,y,dep,gB,X,a95,a96=>by
  have a97:=(aW (M:=r) (e6:=x) (h4:=y) gB).all;have b:=(jj.eq_2 a c p k dep T).symm;generalize jj a c (T+1) p k dep=a13 at*;refine aN hm NC ?_;refine bp λv a98=> ?_;refine cW λz n3 b39 b40=> ?_;refine hp λw m a3 a4 a5 ds=> ?_;generalize k6:((l.set v _).set z _).set w _=n;have Y:l.sub n:=by subst k6;exact aR
  have aI:n v=some (.cells [.ptr h 0,.v (.int .i64 (a))]):=by subst k6;exact aR
  have bm:n z=some (.cells (ab k r x y)):=by subst k6;exact aR
  have bt:n w=some (.cells (ab aA .nil .nil .nil)):=by subst k6;rw[<-cn];exact aR
  clear k6;have b41:=U.ae aI;have b42:=U.ae bm;have l6:=W.mono Y;have Z:=W.cC a98;have j9:=W.cC n3;have d:=W.cC m;by_cases k7:k=aA
  .subst k7;refine bc (nh aA r x y n gB X) ?_;refine ai (uB n h C p l6 (c,true) aA aA j r x y r x y a k5 O gB gB X X) ?_;rintro Q b43 ⟨a99,a14,a15⟩;obtain⟨b00,k8,k9,l0,l1,l2,rfl⟩:=a15.shape;have l7:=U.aJ (a14 _ _ d.1 d.2 bt);have b01:=(aW (M:=k8) (e6:=k9) (h4:=l0) l2).all;have A:=(aW (M:= .nil) (e6:= .nil) (h4:= .nil) bj).len;have B:=cB (a:= .nil) (b:= .nil) (c:= .nil) (M:=k8) (e6:=k9) (h4:=l0) bj l2;rw[if_pos rfl]at b;refine aa ?_;refine⟨_,U.a1,?_⟩;rw[<-b];exact⟨a99.set d,((Ext.of Y).trans a14).dV m,a15⟩
  rw[if_neg k7]at b;refine bc (nh k r x y n gB X) ?_;generalize a16:bS (Ctx.of Tryz.prog) (dH.seq (dH.block 0 _) _)=b44;refine ai (yj n h C p l6 k r x y gB X a k5 O) ?_;rintro Q a18 ⟨H,l8⟩;cases n4:kD p a k with
  |none=>
   rw[n4]at l8 b;obtain rfl:=l8
   dsimp only at b
   refine aa ?_;refine aM λe V=> ?_;have b02:e≠w:=by rintro rfl;rw[H _ _ bt]at V;cases V
   have b45:=b02.symm;have l7:=U.aJ (H _ _ bt);subst a16;have A:=(aW (M:= .nil) (e6:= .nil) (h4:= .nil) bj).len;have B:=cB (a:= .nil) (b:= .nil) (c:= .nil) (M:= .nil) (e6:= .nil) (h4:= .nil) bj bj;refine aa ?_;refine⟨_,U.a1,?_⟩;rw[<-b,cn,a4x (by rw[A];omega)];exact⟨((l6.mono H).mono (U.af U.a1 V)).set d,(((Ext.of Y).trans (Ext.of H)).trans (Ext.of (U.af U.a1 V))).dV m,a9d,rfl⟩
  |some b03=>
   obtain⟨o,b46⟩:=b03;rw[n4]at l8 b;obtain⟨E,b47,rfl,b48,b49,b04,b05⟩:=l8;obtain⟨l9,cc,rfl,b50,b51,b52,b53,b06,b54⟩:=uU n4;obtain⟨k0,b55,F,rfl,f,a19,g⟩:=jk.of b04 b05;refine aa ?_;refine aM λe V=> ?_;refine aa ?_;have a27:=U.af (Y:= .cells [.J (ad o.1) E,.v (.bool o.2)]) (U.a1) V;have cf:=U.ah a18 e (.cells [.J (ad o.1) E,.v (.bool o.2)]);have l3:=U.ar H a27;have n5:=l3 _ _ aI;have a29:=l3 _ _ bm;have n9:=l3 _ _ bt;have a30:=a27 _ _ a19;have a00:=l6.mono l3;have a01:=(Ext.of (l:=h) (lM:=C) Y).trans (Ext.of l3);have a02:=U.bF Y (U.bF H V);have n0:=U.bF Y f;have b56:k0≠e:=by rintro rfl;rw[a19]at V;cases V
   generalize a18.set e _=k1 at*;subst a16;refine p4 [2,3,4,5,8,10,11] (λ_:(List Int×Bool)×ay×ay×ag=> []) (λi D=>mr i.2.2.2 a i.1 i.2.1 i.2.2.1 dep=a13/\bB D h C i.2.2.2/\Ext h C l D/\(∃E,D e=some (.cells [.J (ad i.1.1) E,.v (.bool i.1.2)]))/\(∃F,D k0=some (.cells F)/\jk F i.2.1 i.2.2.1)/\D v=some (.cells [.ptr h 0,.v (.int .i64 (a))])/\D z=some (.cells (ab k r x y))/\D w=some (.cells (ab aA .nil .nil .nil))) ?_ ?_
   .have b07:=U.ae cf;have b08:=U.ae n5;refine aa ?_;simp only[a5f,a5h]at b;have b57:=cf;by_cases a03:o.1=c
    .rw[if_pos a03]at b;refine bc (lf o.1 c E j k1 a8Z) ?_;cases a34:o.2 with
     |true=>rw[if_pos a34]at b;have A:=(aW (M:= .nil) (e6:= .nil) (h4:= .nil) bj).len;have B:=cB (a:= .nil) (b:= .nil) (c:= .nil) (M:= .nil) (e6:= .nil) (h4:= .nil) bj bj;have l7:=U.aJ n9;refine aa ?_;refine⟨_,U.a1,?_⟩;rw[<-b,cn,a4x (by rw[A];omega)];exact⟨a00.set d,a01.dV m,a9d,rfl⟩
     |false=>
      rw[if_neg (by rw[a34];decide)]at b;refine aa ?_;refine bc (lf c c E j k1 a8Z) ?_;have b58:=U.aJ cf;refine aa ?_;have b09:v≠e:=by grind
      have b10:z≠e:=by grind
      have b11:w≠e:=by rintro rfl;exact absurd (H _ _ bt) (by rw[V];simp)
      refine⟨((o.1,true),l9,cc,p),b,a00.set (W.cC a02),a01.dV a02,⟨E,by rw[a03]⟩,⟨F,rfl,g⟩,?_,?_,?_⟩
      .rw[U.ao _ _ b09];exact n5
      .rw[U.ao _ _ b10];exact a29
      .rw[U.ao _ _ b11];exact n9
    .rw[if_neg a03]at b;refine bc (lf o.1 c E j k1 a8Z) ?_;refine bc (lf o.1 c E j k1 a8Z) ?_;obtain⟨G,q,b59,b12,a36,b13⟩: ∃(G:Nat) (q:ay),G<2/\(if cH (dep%a) c o.1<0 then(0:Int)else 1)=(G:Int)/\(q.size.toNat<T/\q.sum.length=32/\q.cz)/\
       (match jj a c T p q (dep+1)with
        |(.error l1,k2)=>(.error l1,k2)
        |(.ok k7,k2)=>mr k2 a o (if G=0 then k7 else l9) (if G=0 then cc else k7) dep)=a13/\ ∃I K M,aX true 37 (F.drop (G*37))= .agg (ab q I K M):=by
      obtain⟨I,K,M,a04,a05,a06,a38,a42,_⟩:=g.ld;by_cases F:cH (dep%a) c o.1<0
      .rw[if_pos F]at b;exact⟨0,l9,a8Z,by rw[if_pos F];rfl,⟨a8Z,g.bW,g.pF⟩,b,I,K,M,a38⟩
      .rw[if_neg F]at b;exact⟨1,cc,a8Z,by rw[if_neg F];rfl,⟨a8Z,g.ct,g.lY⟩,b,a04,a05,a06,a42⟩
     obtain⟨b,I,K,M,b60⟩:=b13;obtain⟨b14,b15,b16⟩:=a36;have a43:=EH c o.1 j E h a dep a8Z O a8Z a11 b06 k1;rw[b12]at a43;have b17:=U.ae a30;have b18:=g.len;refine bc a43 ?_;have b19:(dep)+1=((dep+1:Nat):Int):=rfl;rw[b19];refine ai (Fw h C a k5 O c j a11 T k1 p a00 q I K M (dep+1) b15 b16 b14 a8Z) ?_;rintro Q b61 ⟨n1,k3,a47⟩;have N:=W.cC n0;have a48:=W.cC a02;have b62:=k3 _ _ Z.1 Z.2 n5;have b63:=k3 _ _ j9.1 j9.2 a29;have b20:=k3 _ _ d.1 d.2 n9;have b21:=k3 _ _ N.1 N.2 a30;have b64:=k3 _ _ a48.1 a48.2 cf;have l7:=U.aJ b20;have b65:=U.aJ b21;have a52:=a01.trans k3;have b22:k0≠w:=by rintro rfl;rw[bt]at f;cases f
     have b66:=b22.symm;have b67:v≠k0:=by rintro rfl;rw[aI]at f;cases f
     have a56:z≠k0:=by rintro rfl;rw[bm]at f;cases f
     have A:=(aW (M:= .nil) (e6:= .nil) (h4:= .nil) bj).all;have b68:G*37+37<=F.length:=a8Z;generalize b69:jj a c T p q (dep+1)=b23 at*;obtain⟨oV,b24⟩:=b23;cases oV with
     |error l1=>
      obtain⟨a07,rfl⟩:=a47
      dsimp only at b n1
      have B:=cB (a:= .nil) (b:= .nil) (c:= .nil) (M:= .nil) (e6:= .nil) (h4:= .nil) bj bj;refine aa ?_;refine⟨_,U.a1,?_⟩;rw[<-b,cn,a4x (by rw[A.1];omega)];exact⟨(n1.set N).set d,(a52.dV n0).dV m,a07,rfl⟩
     |ok a57=>
      obtain⟨a08,a61,L,P,S,rfl⟩:=a47
      dsimp only at b n1
      have a36:=(aW (M:=L) (e6:=P) (h4:=S) a08).all;refine aa ?_;refine⟨(o,(if G=0 then a57 else l9),(if G=0 then cc else a57),b24),b,n1.set N,a52.dV n0,⟨E,rfl⟩,_,rfl,?_⟩;obtain rfl|rfl:G=0\/G=1:=a8Z
      .exact g.Fu a08 a61
      .exact g.Fv a08 a61
   .rintro⟨a62,a63,a65,k2⟩ D ⟨s,b25,a68,⟨b26,b27⟩,⟨b70,a69,k4⟩,a09,b28,a71⟩ b71
    dsimp only at*
    have b07:=U.ae b27;have b08:=U.ae a09;have b17:=U.ae a69;obtain⟨I,K,M,a04,a05,a06,a38,a42,b72,b73⟩:=k4.ld;have b18:=k4.len;refine aa ?_;have a73:=uB D h C k2 b25 a62 a63 a65 b26 I K M a04 a05 a06 a k5 O k4.bW k4.ct k4.pF k4.lY;refine ai a73 ?_;clear a73;rintro Q l4 ⟨n2,t,a74⟩;have b74:=U.ae (t _ _ Z.1 Z.2 a09);have b29:=t _ _ j9.1 j9.2 b28;have b75:=U.aJ b29;have l7:=U.aJ (t _ _ d.1 d.2 a71);have N:=W.cC n0;have b76:=U.ae (t _ _ N.1 N.2 a69);have b30:=ds;have b31:=b30.symm;unfold mr at s;generalize b32:dv k2 a (cp a62 a63 a65)=b33 at*;obtain⟨qb,a81⟩:=b33;have A:=(aW (M:= .nil) (e6:= .nil) (h4:= .nil) bj).all;have b77:=a97;cases qb with
    |error l1=>
     obtain⟨a07,rfl⟩:=a74
     dsimp only at s n2
     have B:=cB (a:=r) (b:=x) (c:=y) (M:= .nil) (e6:= .nil) (h4:= .nil) gB bj;have b78:=cB (a:= .nil) (b:= .nil) (c:= .nil) (M:= .nil) (e6:= .nil) (h4:= .nil) bj bj;refine aa ?_;refine⟨_,U.a1,?_⟩;rw[<-s];exact⟨(n2.set j9).set d,((a68.trans t).dV n3).dV m,a07,rfl⟩
    |ok u=>
     obtain⟨l5,a83,L,P,S,rfl⟩:=a74;obtain⟨a84,b79,b80,b81⟩:=Ft b32
     dsimp only at s n2
     have B:=cB (a:=r) (b:=x) (c:=y) (M:=L) (e6:=P) (h4:=S) gB l5;have b82:=(aW (M:=L) (e6:=P) (h4:=S) l5).all;have b83:0<=(2*u.size).tdiv 3/\(2*u.size).tdiv 3<=3000000:=by grind
     have a56:k0≠z:=by rintro rfl;rw[bm]at f;cases f
     have b84:=a56.symm;have a86:v≠z:=a9c;have b85:=a86.symm;have b86:=a84.symm;clear a84;refine aa ?_;have a88:bB (l4.set z (.cells (ab u L P S))) h C a81:=n2.set j9;have b34:=U.ah l4 z (.cells (ab u L P S));have b35:(l4.set z (.cells (ab u L P S))) v=some (.cells [.ptr h 0,.v (.int .i64 (a))]):=by rw[U.ao _ _ a86];exact t _ _ Z.1 Z.2 a09
     have a89:(l4.set z (.cells (ab u L P S))) w=some (.cells (ab aA .nil .nil .nil)):=by rw[U.ao _ _ b31];exact t _ _ d.1 d.2 a71
     have a90:=(a68.trans t).dV (Y:= .cells (ab u L P S)) n3;generalize l4.set z _=b36 at*;have b87:=U.ae b35;have b88:=U.ae b34;have b37:=U.aJ a89;refine aG (λa10=> ?_) λa10=> ?_
     .rw[if_pos a10]at s;refine ai (Fs b36 h C a81 a88 u L P S l5 a83 a k5 O dep a8Z a8Z) ?_;rintro Q b89 ⟨b38,a92,a94⟩;obtain⟨b00,k8,k9,l0,l1,l2,rfl⟩:=a94.shape;have b37:=U.aJ (a92 _ _ d.1 d.2 a89);have b01:=(aW (M:=k8) (e6:=k9) (h4:=l0) l2).all;have B:=cB (a:= .nil) (b:= .nil) (c:= .nil) (M:=k8) (e6:=k9) (h4:=l0) bj l2;refine aa ?_;refine⟨_,U.a1,?_⟩;rw[<-s];exact⟨b38.set d,(a90.trans a92).dV m,a94⟩
     .rw[if_neg a10]at s;have B:=cB (a:= .nil) (b:= .nil) (c:= .nil) (M:=L) (e6:=P) (h4:=S) bj l5;refine⟨_,U.a1,?_⟩;rw[<-s];exact⟨a88.set d,a90.dV m,l5,a83,_,_,_,rfl⟩
def Fx (o:Except Int ay) (h:R):Prop:=
 match o with
 | .error k=>k≠0/\ ∃a b c d,a.sum.length=32/\h= .aK [.agg (ab a b c d),.v (.int .i64 k)]
 | .ok a=>a.sum.length=32/\a.cz/\ ∃b c d,h= .aK [.agg (ab a b c d),.v (.int .i64 0)]
def ha.x {a:Except Int ay} (b:ha a n):Fx a n:=by
 cases a with
 |error c=>exact⟨b.1,aA,_,_,_,bj,b.2⟩
 |ok d=>exact b
def yV (h a:U) (b c:Nat) (d:Except Int ay×ag) (k:R):Prop:=bB a b c d.2/\Ext b c h a/\Fx d.1 k
def gC (b:Nat) (h:List Int):Nat->ag->ay->Nat->Except Int ay×ag
 |0,a,_,_=>(.error 21,a)
 |p+1,a,r,dep=>if r=aA then(.error 9,a)else match kD a b r with
  |none=>(.error 21,a)
  |some (d,bI)=>if d.1=h then(if d.2=true then dv a b (cp (d.1,false) (bI.getD 0 aA) (bI.getD 1 aA))else(.error 9,a))
   else if cH (dep%b) h d.1<0 then match gC b h p a (bI.getD 0 aA) (dep+1)with
    |(.error k,c)=>(.error k,c)
    |(.ok o,c)=>dv c b (cp d o (bI.getD 1 aA))
   else match gC b h p a (bI.getD 1 aA) (dep+1)with
    |(.error k,c)=>(.error k,c)
    |(.ok o,c)=>dv c b (cp d (bI.getD 0 aA) o)
set_option maxHeartbeats 1600000 in
theorem Fy (k T:Nat) (b:Nat) (k5:1<=b) (Q:b<=8) (c:List Int) (f:Own) (l9:c.length=b): ∀(z:Nat) (V:U) (o:ag) (_:bB V k T o) (d:ay) (C D E:Own) (dep:Nat),d.sum.length=32->d.cz->d.size.toNat<z->dep+z<=4000000->
  AC Tryz.prog 158 [dU k b,.agg (ab d C D E),.J (ad c) f,.v (.int .i64 (dep:Int))] V λX p=>yV V p k T (gC b c z o d dep) X
 |0,V,o,W,d,C,D,E,dep,gB,Y,a29,a30=>by omega
 |z+1,V,o,W,d,C,D,E,dep,gB,Y,a29,a30=>by
  have b12:=(aW (M:=C) (e6:=D) (h4:=E) gB).all;have a:=(gC.eq_2 b c o d dep z).symm;generalize gC b c (z+1) o d dep=n0 at*;refine aN hm NP ?_;refine bp λB a34=> ?_;refine cW λH a36 b13 b14=> ?_;refine hp λs t a3 a4 a5 ds=> ?_;generalize I:((V.set B _).set H _).set s _=g;have u:V.sub g:=by subst I;exact aR
  have aI:g B=some (.cells [.ptr k 0,.v (.int .i64 (b))]):=by subst I;exact aR
  have bm:g H=some (.cells (ab d C D E)):=by subst I;exact aR
  have bt:g s=some (.cells (ab aA .nil .nil .nil)):=by subst I;rw[<-cn];exact aR
  clear I;have b15:=U.ae aI;have b16:=U.ae bm;have Z:=W.mono u;have n1:=W.cC a34;have n2:=W.cC a36;have G:=W.cC t;by_cases K:d=aA
  .subst K;refine bc (nh aA C D E g gB Y) ?_;have j9:=U.aJ bt;have k0:=cB (a:= .nil) (b:= .nil) (c:= .nil) (M:=C) (e6:=D) (h4:=E) bj gB;have i:=(aW (M:= .nil) (e6:= .nil) (h4:= .nil) bj).len;rw[if_pos rfl]at a;refine aa ?_;refine⟨_,U.a1,?_⟩;rw[<-a];exact⟨Z.set G,(Ext.of u).dV t,a9d,aA,_,_,_,gB,rfl⟩
  rw[if_neg K]at a;refine bc (nh d C D E g gB Y) ?_;generalize n3:bS (Ctx.of Tryz.prog) (dH.seq (dH.block 0 _) _)=b17;refine ai (yj g k T o Z d C D E gB Y b k5 Q) ?_;rintro X n4 ⟨j,k1⟩;cases k6:kD o b d with
  |none=>
   rw[k6]at k1 a;obtain rfl:=k1
   dsimp only at a
   refine aa ?_;refine aM λL F=> ?_;have a38:L≠s:=by rintro rfl;rw[j _ _ bt]at F;cases F
   have b18:=a38.symm;have j9:=U.aJ (j _ _ bt);subst n3;have i:=(aW (M:= .nil) (e6:= .nil) (h4:= .nil) bj).len;have k0:=cB (a:= .nil) (b:= .nil) (c:= .nil) (M:= .nil) (e6:= .nil) (h4:= .nil) bj bj;refine aa ?_;refine⟨_,U.a1,?_⟩;rw[<-a,cn,a4x (by rw[i];omega)];exact⟨((Z.mono j).mono (U.af U.a1 F)).set G,(((Ext.of u).trans (Ext.of j)).trans (Ext.of (U.af U.a1 F))).dV t,a9d,aA,_,_,_,bj,rfl⟩
  |some a42=>
   obtain⟨h,b19⟩:=a42;rw[k6]at k1 a;obtain⟨r,b20,rfl,b21,b22,a43,a47⟩:=k1;obtain⟨k2,cc,rfl,b23,b24,b25,b26,a48,b27⟩:=uU k6;obtain⟨M,b28,x,rfl,l,n5,P⟩:=jk.of a43 a47;refine aa ?_;refine aM λL F=> ?_;refine aa ?_;have n9:=U.af (Y:= .cells [.J (ad h.1) r,.v (.bool h.2)]) (U.a1) F;have cf:=U.ah n4 L (.cells [.J (ad h.1) r,.v (.bool h.2)]);have N:=U.ar j n9;have k7:=N _ _ aI;have a00:=N _ _ bm;have k8:=N _ _ bt;have a01:=n9 _ _ n5;have k9:=Z.mono N;have l0:=(Ext.of (l:=k) (lM:=T) u).trans (Ext.of N);have l1:=U.bF u (U.bF j F);have l2:=U.bF u l;have b29:M≠L:=by rintro rfl;rw[n5]at F;cases F
   generalize n4.set L _=v at*;subst n3;refine p4 [2,3,4,5,8,10,11] (λ_:(List Int×Bool)×ay×ay×ag=> []) (λS p=>dv S.2.2.2 b (cp S.1 S.2.1 S.2.2.1)=n0/\bB p k T S.2.2.2/\Ext k T V p/\(∃r,p L=some (.cells [.J (ad S.1.1) r,.v (.bool S.1.2)]))/\(∃x,p M=some (.cells x)/\jk x S.2.1 S.2.2.1)/\p B=some (.cells [.ptr k 0,.v (.int .i64 (b))])/\p H=some (.cells (ab d C D E))/\p s=some (.cells (ab aA .nil .nil .nil))) ?_ ?_
   .have a52:=U.ae cf;have a56:=U.ae k7;refine aa ?_;simp only[a5f,a5h]at a;have b30:=cf;by_cases l3:h.1=c
    .rw[if_pos l3]at a;refine bc (lf h.1 c r f v a8Z) ?_;cases a02:h.2 with
     |false=>rw[if_neg (by rw[a02];decide)]at a;have i:=(aW (M:= .nil) (e6:= .nil) (h4:= .nil) bj).len;have k0:=cB (a:= .nil) (b:= .nil) (c:= .nil) (M:= .nil) (e6:= .nil) (h4:= .nil) bj bj;have j9:=U.aJ k8;refine aa ?_;refine⟨_,U.a1,?_⟩;rw[<-a,cn,a4x (by rw[i];omega)];exact⟨k9.set G,l0.dV t,a9d,aA,_,_,_,bj,rfl⟩
     |true=>
      rw[if_pos a02]at a;refine aa ?_;refine bc (lf c c r f v a8Z) ?_;have b31:=U.aJ cf;refine aa ?_;have a57:B≠L:=by grind
      have a61:H≠L:=by grind
      have a62:s≠L:=by rintro rfl;exact absurd (j _ _ bt) (by rw[F];simp)
      refine⟨((h.1,false),k2,cc,o),a,k9.set (W.cC l1),l0.dV l1,⟨r,by rw[l3]⟩,⟨x,rfl,P⟩,?_,?_,?_⟩
      .rw[U.ao _ _ a57];exact k7
      .rw[U.ao _ _ a61];exact a00
      .rw[U.ao _ _ a62];exact k8
    .rw[if_neg l3]at a;refine bc (lf h.1 c r f v a8Z) ?_;refine bc (lf h.1 c r f v a8Z) ?_;obtain⟨y,e,b32,a63,a03,a65⟩: ∃(y:Nat) (e:ay),y<2/\(if cH (dep%b) c h.1<0 then(0:Int)else 1)=(y:Int)/\(e.size.toNat<z/\e.sum.length=32/\e.cz)/\
       (match gC b c z o e (dep+1)with
        |(.error l4,O)=>(.error l4,O)
        |(.ok K,O)=>dv O b (cp h (if y=0 then K else k2) (if y=0 then cc else K)))=n0/\ ∃m n q,aX true 37 (x.drop (y*37))= .agg (ab e m n q):=by
      obtain⟨m,n,q,l5,l6,l7,a04,a05,_⟩:=P.ld;by_cases x:cH (dep%b) c h.1<0
      .rw[if_pos x]at a;exact⟨0,k2,a8Z,by rw[if_pos x];rfl,⟨a8Z,P.bW,P.pF⟩,a,m,n,q,a04⟩
      .rw[if_neg x]at a;exact⟨1,cc,a8Z,by rw[if_neg x];rfl,⟨a8Z,P.ct,P.lY⟩,a,l5,l6,l7,a05⟩
     obtain⟨a,m,n,q,b33⟩:=a65;obtain⟨a68,a69,a71⟩:=a03;have a06:=EH c h.1 f r k b dep a8Z Q a8Z l9 a48 v;rw[a63]at a06;have a73:=U.ae a01;have a74:=P.len;refine bc a06 ?_;have a81:(dep)+1=((dep+1:Nat):Int):=rfl;rw[a81];refine ai (Fy k T b k5 Q c f l9 z v o k9 e m n q (dep+1) a69 a71 a68 a8Z) ?_;rintro X b34 ⟨k3,w,a07⟩;have k4:=W.cC l2;have a08:=W.cC l1;have b35:=w _ _ n1.1 n1.2 k7;have b36:=w _ _ n2.1 n2.2 a00;have a83:=w _ _ G.1 G.2 k8;have a84:=w _ _ k4.1 k4.2 a01;have b37:=w _ _ a08.1 a08.2 cf;have j9:=U.aJ a83;have b38:=U.aJ a84;have a09:=l0.trans w;have a86:M≠s:=by rintro rfl;rw[bt]at l;cases l
     have b39:=a86.symm;have b40:B≠M:=by rintro rfl;rw[aI]at l;cases l
     have b41:H≠M:=by rintro rfl;rw[bm]at l;cases l
     have i:=(aW (M:= .nil) (e6:= .nil) (h4:= .nil) bj).all;have b42:y*37+37<=x.length:=a8Z;generalize b43:gC b c z o e (dep+1)=a88 at*;obtain⟨oV,a89⟩:=a88;cases oV with
     |error l4=>
      obtain⟨a90,b44,a92,a94,a95,a96,rfl⟩:=a07
      dsimp only at a k3
      have k0:=cB (a:= .nil) (b:= .nil) (c:= .nil) (M:= .nil) (e6:= .nil) (h4:= .nil) bj bj;have b45:=(aW (M:=a92) (e6:=a94) (h4:=a95) a96).all;refine aa ?_;refine⟨_,U.a1,?_⟩;rw[<-a,cn,a4x (by rw[i.1];omega)];exact⟨(k3.set k4).set G,(a09.dV l2).dV t,a90,aA,_,_,_,bj,rfl⟩
     |ok a10=>
      obtain⟨l8,a11,a97,a98,a99,rfl⟩:=a07
      dsimp only at a k3
      have a03:=(aW (M:=a97) (e6:=a98) (h4:=a99) l8).all;refine aa ?_;refine⟨(h,(if y=0 then a10 else k2),(if y=0 then cc else a10),a89),a,k3.set k4,a09.dV l2,⟨r,rfl⟩,_,rfl,?_⟩;obtain rfl|rfl:y=0\/y=1:=a8Z
      .exact P.Fu l8 a11
      .exact P.Fv l8 a11
   .rintro⟨b00,b01,b02,O⟩ p ⟨b03,b04,b05,⟨b06,b07⟩,⟨b46,b08,A⟩,b09,b47,b10⟩ b48
    dsimp only at*
    have a52:=U.ae b07;have a56:=U.ae b09;have a73:=U.ae b08;obtain⟨m,n,q,l5,l6,l7,a04,a05,b49,b50⟩:=A.ld;have a74:=A.len;refine aa ?_;have a13:=uB p k T O b04 b00 b01 b02 b06 m n q l5 l6 l7 b k5 Q A.bW A.ct A.pF A.lY;refine ai a13 ?_;clear a13;rintro X b51 ⟨b11,a14,a15⟩;have j9:=U.aJ (a14 _ _ G.1 G.2 b10);obtain⟨b52,a16,a18,a19,l4,a27,rfl⟩:=a15.shape;have b53:=(aW (M:=a16) (e6:=a18) (h4:=a19) a27).all;have i:=(aW (M:= .nil) (e6:= .nil) (h4:= .nil) bj).len;have k0:=cB (a:= .nil) (b:= .nil) (c:= .nil) (M:=a16) (e6:=a18) (h4:=a19) bj a27;refine aa ?_;refine⟨_,U.a1,?_⟩;rw[<-b03];exact⟨b11.set G,(b05.trans a14).dV t,a15.x⟩
def a1m (b:Int) (a:List Int) (d:R) (k:isRow a d) (c:U) (h:Nat) (r:c.read h=some [.v (.int .i64 b)]):
  AC Tryz.prog 181 [d,.ptr h 0] c λo p=>p=c/\o= .v (.bool (!decide ((a.length:Int)=b))):=by
 obtain⟨x,rfl⟩:=k;have y:=bH (q:=a);by_cases z:(a.length)=b
 .refine aN hm Bn ?_
  repeat' first|refine aG (λ_=> ?_) λ_=> ?_|trivial
 .refine aN hm Bn ?_
  repeat' first|refine aG (λ_=> ?_) λ_=> ?_|trivial
theorem yW (a:Nat) (b:List (List Int)) (d:List R) (r:Own) (h:U) (o:az isRow b d) (x:b.length<=1000000000000) (F:1<=a) (G:a<=8) (L: ∀c∈b,c.length=a):
  AC Tryz.prog 116 [.v (.int .i64 (a:Int)),.J d r] h λc k=>k=h/\c= .v (.bool true):=by
 have P:(1)<=(a:Int):=a8Z;have S:(a:Int)<=8:=a8Z;refine aN hm MB ?_;refine bp λp y=> ?_;have T:=U.af (Y:= .cells [.v (.int .i64 (a))]) (U.a1) y;have c2:=U.ah h p (.cells [.v (.int .i64 (a))]);refine ai (DA b d _ _ o (bR.J (o.cells λ_ _=>isRow.cells)) x (b5:=181) ⟨by rfl,λz C k D E=>a1m a z C D k p (U.ae (E _ _ c2))⟩) ?_;rintro _ _ ⟨rfl,rfl⟩;have:b.any (λc=> !decide ((c.length)=(a:Int)))=false:=by simp_all
 rw[this];exact aR
def nC (b:Nat) (c:List Int) (d:ag) (a:ay):Except Int ay×ag:=jj b c (a.size.toNat+1) d a 0
def a1n (c:U) (k y:Nat) (z:ag) (D:bB c k y z) (a:ay) (o p r:Own) (E:a.sum.length=32) (n:a.cz) (v:a.size<=2000000) (d:List Int) (F:Own) (b:Nat) (G:1<=b) (L:b<=8) (P:d.length=b):
  AC Tryz.prog 84 [.ptr k 0,.agg (ab a o p r),.J (ad d) F,.v (.int .i64 (b:Int))] c λS q=>oF c q k y (nC b d z a) S:=by
 have w:=(aW (M:=o) (e6:=p) (h4:=r) E).all;refine aN hm LF ?_;refine bp λT A=> ?_;refine cW λV W B H=> ?_;refine tV λs I _ _ _ _=> ?_;generalize x:((c.set T _).set V _).set s _=h;have e:c.sub h:=by subst x;exact aR
 have bm:h T=some (.cells (ab a o p r)):=by subst x;exact aR
 have bt:h V=some (.cells (ab aA .nil .nil .nil)):=by subst x;rw[<-cn];exact aR
 clear x;have t:=D.mono e;have C:=D.cC W;have K:=U.ae bm;refine bc (yW b [d] _ _ h ⟨⟨_,rfl⟩,trivial⟩ a9a G L (by simp[P])) ?_;refine ai (Fw k y b G L d F P (a.size.toNat+1) h z t a o p r 0 E n a8Z a8Z) ?_;rintro S M ⟨u,f,g⟩;obtain⟨N,i,j,l,O,m,rfl⟩:=g.shape;have Q:=U.aJ (f _ _ C.1 C.2 bt);have X:=(aW (M:=i) (e6:=j) (h4:=l) m).all;have Y:=(aW (M:= .nil) (e6:= .nil) (h4:= .nil) bj).len;have Z:=cB (a:= .nil) (b:= .nil) (c:= .nil) (M:=i) (e6:=j) (h4:=l) bj m;refine aa ?_;refine⟨_,U.a1,?_⟩;exact⟨u.set C,((Ext.of e).trans f).dV W,g⟩
theorem a1o {h:ag}{k:List Int×Bool}{b:ay} (a:dv H e (cp k j2 b)=(.ok w,h)):0<=w.live/\w.live<=3000000:=by
 unfold dv at a;split at a
 .simp_all
 .rename_i p o;simp only[a5G,Except.ok.injEq]at a;obtain⟨rfl,_⟩:=a;have c:=um o;have d:=uT c.ok;have r:=qD (d j2 (by simp[cp]));have x:=qD (d b (by simp[cp]));rw[c.eq];grind[eS,eC,cp,ep,dK]
variable{q b6:List Int}
theorem a1p: ∀ {h:Nat}{c a:ag}{d b:ay}{dep:Nat},gC e q h c d dep=(.ok b,a)-> ∃o p r x,dv o e (cp p r x)=(.ok b,a)
 |0,c,a,d,b,dep,k=>by rw[gC]at k;simp_all
 |h+1,c,a,d,b,dep,k=>by
  grind[gC,Prod.mk.inj]
def iK (c:Nat) (h:List Int) (k:ag) (d:ay):Except Int ay×ag:=
 match gC c h (d.size.toNat+1) k d 0 with
 |(.error o,a)=>(.error o,a)
 |(.ok b,a)=>if 2*b.live<b.size then mq a c b 0 else(.ok b,a)
def a1q (S:U) (h T:Nat) (x:ag) (e:bB S h T x) (b:ay) (C D E:Own) (f:b.sum.length=32) (l8:b.cz) (a13:b.size<=2000000) (k:List Int) (O:Own) (a:Nat) (t:1<=a) (u:a<=8) (Q:k.length=a):
  AC Tryz.prog 86 [.ptr h 0,.agg (ab b C D E),.J (ad k) O,.v (.int .i64 (a:Int))] S λv l9=>yV S l9 h T (iK a k x b) v:=by
 have a14:=(aW (M:=C) (e6:=D) (h4:=E) f).all;refine aN hm LJ ?_;refine bp λd w=> ?_;refine cW λF g a15 a16=> ?_;refine tV λn0 a18 _ _ _ _=> ?_;generalize i:((S.set d _).set F _).set n0 _=G;have X:S.sub G:=by subst i;exact aR
 have bm:G d=some (.cells (ab b C D E)):=by subst i;exact aR
 have bt:G F=some (.cells (ab aA .nil .nil .nil)):=by subst i;rw[<-cn];exact aR
 clear i;refine bc (yW a [k] _ _ G ⟨⟨_,rfl⟩,trivial⟩ a9a t u (by simp[Q])) ?_;refine aM λy L=> ?_;have Y:d≠y:=by rintro rfl;rw[bm]at L;cases L
 have n1:=Y.symm;have Z:F≠y:=by rintro rfl;rw[bt]at L;cases L
 have a19:=Z.symm;have n2:=U.bF X L;have a27:=U.ae bm;refine aa ?_;have A:=U.af (Y:= .cells [.ptr h 0,.v (.int .i64 (a))]) (U.a1) L;have j9:=U.ar X A;have k0:=A _ _ bm;have n3:=A _ _ bt;have k1:=U.ah G y (.cells [.ptr h 0,.v (.int .i64 (a))]);generalize G.set y _=n4 at*;have n5:=e.mono j9;have a29:=U.ae k0;have a30:=U.ae k1;have j:=e.cC w;have z:=e.cC g;have k2:=e.cC n2;refine ai (Fy h T a t u k O Q (b.size.toNat+1) n4 x n5 b C D E 0 f l8 a8Z a8Z) ?_;rintro v V ⟨l,m,k3⟩;have n9:=m _ _ j.1 j.2 k0;have k4:=m _ _ z.1 z.2 n3;have a00:=m _ _ k2.1 k2.2 k1;have a34:=U.aJ n9;have a36:=U.aJ k4;have a38:=(aW (M:= .nil) (e6:= .nil) (h4:= .nil) bj).len;have c:iK a k x b=match gC a k (b.size.toNat+1) x b 0 with
  |(.error B,n)=>(.error B,n)
  |(.ok q,n)=>if 2*q.live<q.size then mq n a q 0 else(.ok q,n):=rfl
 generalize iK a k x b=a42 at c|-;have a01:d≠F:=a9c;have a02:=a01.symm;have Y:d≠y:=a9c;have Z:F≠y:=a9c;generalize a03:gC a k (b.size.toNat+1) x b 0=a04 at*;obtain⟨oV,k5⟩:=a04;have k6:=(Ext.of j9).trans m;cases oV with
 |error B=>
  obtain⟨a05,a06,H,I,K,s,rfl⟩:=k3
  dsimp only at c l
  have M:=cB (a:=C) (b:=D) (c:=E) (M:=H) (e6:=I) (h4:=K) f s;have a43:=cB (a:= .nil) (b:= .nil) (c:= .nil) (M:=H) (e6:=I) (h4:=K) bj s;have a47:=(aW (M:=H) (e6:=I) (h4:=K) s).all;replace c:=c.symm;refine aa ?_;refine⟨_,U.a1,?_⟩;rw[<-c];exact⟨(l.set j).set z,(k6.dV w).dV g,a05,a06,_,_,_,s,rfl⟩
 |ok P=>
  obtain⟨W,k7,o,p,r,rfl⟩:=k3
  dsimp only at c l
  obtain⟨_,_,_,_,k8⟩:=a1p a03;obtain⟨a48,a52⟩:=a1o k8;have a56:=(Ft k8).2.2.2;have M:=cB (a:=C) (b:=D) (c:=E) (M:=o) (e6:=p) (h4:=r) f W;have a57:=(aW (M:=o) (e6:=p) (h4:=r) W).all;replace c:=c.symm;refine aa ?_;have k9:bB (V.set d (.cells (ab P o p r))) h T k5:=l.set j;have a07:=U.ah V d (.cells (ab P o p r));have l0:(V.set d (.cells (ab P o p r))) F=some (.cells (ab aA .nil .nil .nil)):=by rw[U.ao _ _ a02];exact k4
  have a08:(V.set d (.cells (ab P o p r))) y=some (.cells [.ptr h 0,.v (.int .i64 (a))]):=by rw[U.ao _ _ n1];exact a00
  have l1:=k6.dV (Y:= .cells (ab P o p r)) w;generalize V.set d _=a09 at*;have a61:=U.ae a07;have a62:=U.ae a08;have a10:=U.aJ l0;refine aG (λN=> ?_) λN=> ?_
  .rw[if_pos N]at c;refine ai (Fs a09 h T k5 k9 P o p r W k7 a t u 0 a8Z a8Z) ?_;rintro v a63 ⟨a11,l2,l3⟩;obtain⟨a65,l4,l5,l6,B,l7,rfl⟩:=l3.shape;have a10:=U.aJ (l2 _ _ z.1 z.2 l0);have a68:=(aW (M:=l4) (e6:=l5) (h4:=l6) l7).all;have M:=cB (a:= .nil) (b:= .nil) (c:= .nil) (M:=l4) (e6:=l5) (h4:=l6) bj l7;refine aa ?_;refine⟨_,U.a1,?_⟩;rw[<-c];exact⟨a11.set z,(l1.trans l2).dV g,l3.x⟩
  .rw[if_neg N]at c;have M:=cB (a:= .nil) (b:= .nil) (c:= .nil) (M:=o) (e6:=p) (h4:=r) bj W;refine⟨_,U.a1,?_⟩;rw[<-c];exact⟨k9.set z,l1.dV g,W,k7,_,_,_,rfl⟩
end Go.Proofs.YtlgnfcaolejgeaaGreat
namespace Go.bx
open Go
variable{n b3:R}{f t e4:U}{m:Program}
theorem a1r {p:Shelf.Ren} (C:Proofs.SlLaysF.n6 m p) (D:(∃r,n= .J [] r)\/ ∃x a h,n= .an x 0 a h):AC m (p.f 6) [n,b3] f λE F=>F=f/\E= .aK []:=by
 intro b G L k P;have o:=k.2 0 _ rfl;have S:b.size=2:=k.1;generalize T:b.getD 0 undef=V at o;generalize W:b.getD 1 undef=y;have e: ∃c a,V= .slice c 0 a:=by
  rcases D with ⟨r,rfl⟩|⟨x,a,h,rfl⟩
  .cases o with
   |dg n a dm k g=>simp
   |J j off len a h l xs dm hk hlen q s t hH u g=>simp_all
  .cases o;simp
 obtain⟨c,a,rfl⟩:=e;have ak:b= #[.slice c 0 a,y]:=by
  apply Array.ext
  .exact S
  .intro z d v
   match z,d with
   |0,d=>rw[<-T];simp_all
   |1,d=>rw[<-W];simp_all
   |z+2,d=>omega
 rw[ak];refine(Proofs.AnyF.slices_SortFunc_none {C with} c a y G).mono ?_;rintro w A ⟨rfl,rfl⟩;exact⟨_,.aK [],L,f,rfl,.refl P,.aK #[] [] rfl (λB H i=>by simp at i),rfl,rfl⟩
end Go.bx
namespace Go.Proofs.YtlgnfcaolejgeaaGreat
open Go Go.bx
def a1s (a b:List Int) (d h:Own) (c:U) (k:a.length<=1000000000000):AC Tryz.prog 119 [.J (ad a) d,.J (ad b) h] c λo p=>p=c/\o= .v (.int .i64 (fN a b)):=by
 refine aN hm MF ?_;refine bc (EE a b d h c k) ?_
 repeat' first|refine aG (λ_=> ?_) λ_=> ?_|trivial
theorem a1t (h:U) (F j:Nat) (o:ag) (I:bB h F j o) (a:ay) (p r x:Own) (l:a.sum.length=32) (K:a.cz) (k5:a.size<=2000000) (b:Nat) (m:1<=b) (n:b<=8) (D:List (List Int)) (M: ∀c,eb o b (a.size.toNat+1) a=some c->D.Perm c/\D.Pairwise λN W=> ¬fN W N<0):
  AC Tryz.prog 62 [.ptr F 0,.agg (ab a p r x),.v (.int .i64 (b:Int))] h λk y=>h.sub y/\match eb o b (a.size.toNat+1) a with
   |none=>k= .aK [.J [] .nil,.v (.int .i64 21)]
   |some _=> ∃d,k= .aK [.J d .any,.v (.int .i64 0)]/\az isRow D d:=by
 have O:AC Tryz.prog 62 [.ptr F 0,.agg (ab a p r x),.v (.int .i64 (b:Int))] h λk y=>match eb o b (a.size.toNat+1) a with
   |none=>h.sub y/\k= .aK [.J [] .nil,.v (.int .i64 21)]
   |some _=> ∃z d G,k= .aK [z,.v (.int .i64 0)]/\View y z G (.J d .any)/\h.sub G/\az isRow D d:= ?_
 .refine O.view λk y L=> ?_;cases C:eb o b (a.size.toNat+1) a with
  |none=>grind[View.refl]
  |some c=>rw[C]at L;obtain⟨z,d,G,rfl,Q,e,f⟩:=L;exact⟨_,_,View.aK (a:= []) Q,e,d,rfl,f⟩
 have k6:=(aW (M:=p) (e6:=r) (h4:=x) l).all;refine aN hm L6 ?_;refine bp λq X=> ?_;have P:=U.af (Y:= .cells (ab a p r x)) (U.a1) X;have aI:=U.ah h q (.cells (ab a p r x));generalize h.set q _=s at*;have k7:=U.ae aI;refine bc (yW b [] [] _ s trivial a9a m n a9a) ?_;refine ai (yT F j o b m n (a.size.toNat+1) s (I.mono P) a p r x l K a8Z) ?_;rintro k G ⟨e,S⟩;cases C:eb o b (a.size.toNat+1) a with
 |none=>rw[C]at S;obtain rfl:=S;refine aa ?_;exact U.ar P e
 |some c=>
  rw[C]at S;obtain⟨d,z,rfl,g,t⟩:=S;obtain⟨i,Y⟩:=M c C;obtain⟨k8,Z⟩:=r3 C;by_cases u:c= []
  .subst u;obtain rfl:d= []:=a4B t.len;obtain rfl:D= []:=i.eq_nil;have j9:(∃T,z= .J [] T)\/ ∃c V a,z= .an c 0 V a:=by
    rcases g.2 with ⟨_,v|v⟩|⟨c,w,V,k9,v,_,_,_,_,l0,_⟩
    .simp_all
    .simp_all
    simp_all
   refine aa ?_;refine ai (a1r Tryz.EV j9) ?_;rintro _ _ ⟨rfl,rfl⟩;refine aa ?_;obtain⟨w,l1,l2,k0,E⟩:=View.dR g;have:ed 1 w ([])= []:=by rw[kq,a8L]
   rw[this]at E;exact⟨_,U.a1,_,_,_,rfl,E,U.ar P k0,trivial⟩
  .obtain⟨W,V,rfl,l3,k1⟩:=Fp (a0Z b) g t Z a8Z u i Y 119 [] (λA T B=>by cases B) (λW=> .inl rfl) a9f (λA k2 T k3 B l4=>(a1s A k2 T k3 _ a8Z).mono λk y L=>L.2);refine aa ?_;refine ai k1 ?_;rintro _ l5 ⟨rfl,f,_,l6,l7,H,k4,_⟩;have l8:=H.len;have l9:=i.length_eq;have E:=View.Fo (e:=c.length) (b8:=V) (i:=1) k4 (by rw[a4y];omega);rw[kq,a6J a8Z]at E;refine aa ?_;exact⟨_,U.a1,_,_,_,rfl,E,U.ar P f,H⟩
theorem a1u:cQ ([],[]) ([],[])=(([],[]):List Int×List Int):=rfl
variable{e i v O b8 j0:Nat}
theorem Fz {a:List Int×List Int} (b:hg e a):cQ a ([],[])=a:=by have c:=ll.1 b.ok;have d:cP ([]) [] ([]:List Int).length=false:=rfl;unfold cQ;rw[c.2.2.1,if_pos b.ok,if_neg (by rw[d];simp)]
def aC.rows:aC->List (List Int)
 | .nil=> []
 | .node a _ b c=>a::(b.rows++c.rows)
theorem aC.gD: ∀ {c:aC}{b:List Int},b∈c.all->b∈c.rows
 | .nil,b,a=>a
 | .node d live h k,b,a=>by
  simp only[aC.all,a4M]at a;simp only[aC.rows,a4T,a4M];rcases a with (a|a)|a
  .exact .inr (.inl (aC.gD a))
  .exact .inr (.inr (aC.gD a))
  .cases live<;>simp at a;exact .inl a
def aC.c9 (a:Nat) (b:aC):Prop:= ∀c∈b.rows,bL a c
def aC.c9.a {a:Nat}{c:List Int}{d:Bool}{b h:aC} (k:(aC.node c d b h).c9 a):b.c9 a:=λo p=>k o (by simp[aC.rows,p])
def aC.c9.b {a:Nat}{c:List Int}{d:Bool}{h b:aC} (k:(aC.node c d h b).c9 a):b.c9 a:=λo p=>k o (by simp[aC.rows,p])
def aC.c9.r {b:Nat}{a:List Int}{c:Bool}{d h:aC} (k:(aC.node a c d h).c9 b):bL b a:=k a (by simp[aC.rows])
variable{I:Bool}{a8:aC}{q b6:List Int}
def aC.c9.mk {b:aC} (d:bL e q) (h:a8.c9 e) (k:b.c9 e):(aC.node q I a8 b).c9 e:=λc a=>by
 simp only[aC.rows,a4T,a4M]at a;rcases a with rfl|a|a
 .exact d
 .exact h c a
 .exact k c a
theorem aC.c9.ok {b:Nat}: ∀ {c:aC},c.c9 b->c.Ok b
 | .nil,_=>trivial
 | .node _ _ _ _,a=>⟨a.r.len,a.a.ok,a.b.ok⟩
def bo:aC->ay
 | .nil=>aA
 | .node a live b c=>eS (cp (a,live) (bo b) (bo c))
structure jl (d:Nat) (t:aC) (k:ay):Prop where
 sum:k.sum.length=32
 live:k.live=(t.all.length:Int)
 size:k.size=(t.size:Int)
 aO:(t.all.length=0/\k.aU= []/\k.aV= [])\/(0<t.all.length/\hg d (k.aU,k.aV))
 key:k.key= []
 z:t= .nil->k=aA
theorem jl.ok {c:Nat}{a:aC}{d:ay} (b:jl c a d) (y:a.size<=1048576):fw c d=true:=by
 have z:=b.size;have C:=b.live;have D:=lq a;unfold fw;cases a with
 |nil=>rw[decide_eq_true (b.z rfl),Bool.true_or]
 |node h k o p=>
  have E:1<=(aC.node h k o p).size:=by simp only[aC.size];omega
  generalize aC.node h k o p=a at*;rw[a6g];right;rw[a4A];refine⟨a9b,?_⟩;rcases b.aO with ⟨x,r,F⟩|⟨x,r⟩;grind
  .rw[if_neg a8Z];exact r.ok
variable{w j2:ay}
theorem jl.kC (a:jl e a8 w) (p:a8.size<=1048576):w.In e:=by
 have r:=a.size;have x:=a.live;have y:=lq a8;have b:cR w.aU/\cR w.aV/\w.aU.length<=e/\w.aV.length<=e:=by
  rcases a.aO with ⟨h,c,z⟩|⟨h,c⟩;grind
  .have d:=ll.1 c.ok;have C:w.aU.length=e:=d.2.2.1;have D:w.aV.length=e:=d.2.2.2.1;exact⟨c.aU,c.aV,a8Z,a8Z⟩
 have k:cR w.key:=by rw[a.key];intro E o;cases o
 exact⟨a.sum,b.1,b.2.1,k,b.2.2.1,b.2.2.2,by rw[a.key];simp,a8Z,a8Z,a8Z,a8Z⟩
theorem yX {a:gL} (d:mi i e a) (k:jl i a8 w):mi i (e+a8.all.length) (ep a w):=by
 have o:(ep a w).live=((e+a8.all.length:Nat)):=by show a.live+w.live= _;rw[d.live,k.live];push_cast;rfl
 refine⟨o,?_⟩;show(e+a8.all.length=0/\cQ a.aO (w.aU,w.aV)=([],[]))\/(0<e+a8.all.length/\hg i (cQ a.aO (w.aU,w.aV)));rcases k.aO with ⟨p,b,r⟩|⟨p,b⟩
 .rw[b,r];rcases d.aO with ⟨h,c⟩|⟨h,c⟩;grind[a1u];grind[Fz]
 .right;refine⟨a8Z,?_⟩;rcases d.aO with ⟨h,c⟩|⟨h,c⟩
  .rw[c,ps b];exact b
  .exact xY c b
def yY:jl e .nil aA:=⟨rfl,rfl,rfl,.inl ⟨rfl,rfl,rfl⟩,rfl,λ_=>rfl⟩
def uV (C:1<=e) (D:e<=8) {a:aC} (k:bL e q) (b:jl e a8 w) (c:jl e a j2) (T:a8.size+a.size<1048576):
  (cp (q,I) w j2).In e/\jl e (.node q I a8 a) (eS (cp (q,I) w j2))/\fH e (cp (q,I) w j2)=some (eS (cp (q,I) w j2)):=by
 have p:dS e (cp (q,I) w j2)=true:=by unfold dS cp;simp[k.len,b.ok a8Z,c.ok a8Z,b.key,c.key]
 have r:=xZ C D k;have E:mi e (if I=true then 1 else 0) (dK ⟨0,1,([],[])⟩ (q,I)):=by
  cases I with
  |false=>exact⟨rfl,.inl ⟨rfl,rfl⟩⟩
  |true=>refine⟨rfl,.inr ⟨a9d,?_⟩⟩;show hg e (cQ ([],[]) (gm q));rw[ps r];exact r
 have o:=yX (yX E b) c;have x:eC (cp (q,I) w j2)=ep (ep (dK ⟨0,1,([],[])⟩ (q,I)) w) j2:=rfl;have F:(aC.node q I a8 a).all.length=(if I=true then 1 else 0)+a8.all.length+a.all.length:=by simp only[aC.all,a4y];split<;>simp<;>omega
 rw[<-x,<-F]at o;have y:(eC (cp (q,I) w j2)).size=((aC.node q I a8 a).size):=by
  rw[x];have d:(dK ⟨0,1,([],[])⟩ (q,I)).size=1:=by cases I<;>rfl
  show(dK ⟨0,1,([],[])⟩ (q,I)).size+w.size+j2.size= _;rw[d,b.size,c.size,aC.size];push_cast;rfl
 refine⟨⟨p,λG L=> ?_,λz P=> ?_⟩,⟨ob _,o.live,y,?_,?_,λS=>by cases S⟩,?_⟩
 .obtain rfl:G=(q,I):=by simpa[cp] using L
  exact k.jR
 .have:z=w\/z=j2:=by simpa[cp] using P
  rcases this with rfl|rfl
  .exact b.kC a8Z
  .exact c.kC a8Z
 .rcases o.aO with ⟨d,h⟩|⟨d,h⟩
  .left;refine⟨d,?_,?_⟩
   .show(eC _).aO.1= [];rw[h]
   .show(eC _).aO.2= [];rw[h]
  .exact .inr ⟨d,h⟩
 .show keyOf (cp (q,I) w j2)= [];unfold keyOf cp;rfl
 .unfold fH;rw[if_pos p,if_neg (by rw[y];simp only[aC.size];omega)]
def fc {a:Nat} (c:1<=a) (d:a<=8): ∀ {b:aC},b.c9 a->b.size<=1048576->jl a b (bo b)
 | .nil,_,_=>yY
 | .node o live p r,h,k=>by
  simp only[aC.size]at k;exact(uV c d h.r (fc c d h.a a8Z) (fc c d h.b a8Z) a8Z).2.1
def dW (a:ag):aC->Prop
 | .nil=>True
 | .node d live b c=>a.m (eR (cX (cp (d,live) (bo b) (bo c))))=some (cX (cp (d,live) (bo b) (bo c)))/\dW a b/\dW a c
def dW.mono {c d:ag} (a:c.le d): ∀ {h:aC},dW c h->dW d h
 | .nil,_=>trivial
 | .node _ _ _ _,b=>⟨a.m _ _ b.1,b.2.1.mono a,b.2.2.mono a⟩
def yZ (c:1<=e) (d:e<=8) {a:aC} (h:(aC.node q I a8 a).c9 e) (k:(aC.node q I a8 a).size<=1048576):bo (.node q I a8 a)≠aA:=λo=>by
 have b:=(fc c d h k).size;rw[o]at b;have:(aA).size=0:=rfl;simp only[aC.size]at b;omega
variable{H:ag}
def sR (b:1<=e) (c:e<=8) {a:aC} (d:(aC.node q I a8 a).c9 e) (h:(aC.node q I a8 a).size<=1048576) (k:dW H (.node q I a8 a)):fk H e (bo (.node q I a8 a))=some (cp (q,I) (bo a8) (bo a)):=by have o:=h;simp only[aC.size]at o;obtain⟨p,x,r⟩:=uV (I:=I) b c d.r (fc b c d.a a8Z) (fc b c d.b a8Z) a8Z;unfold fk;rw[show H.m (bo (.node q I a8 a)).sum=some (cX (cp (q,I) (bo a8) (bo a)))from k.1];simp only;rw[D0 a8Z p];simp only;rw[r];exact if_pos rfl
def uW (b:1<=e) (c:e<=8) {a:aC} (d:(aC.node q I a8 a).c9 e) (h:(aC.node q I a8 a).size<=1048576) (k:dW H (.node q I a8 a)):kD H e (bo (.node q I a8 a))=some ((q,I),[bo a8,bo a]):=by unfold kD;rw[sR b c d h k];rfl
theorem z1 {b:Nat} (c:1<=b) (d:b<=8) {x:ag}: ∀ {a:aC}{z:Nat},a.c9 b->a.size<=1048576->dW x a->a.size<z-> ∃y,eb x b z (bo a)=some y/\y.Perm a.all
 |a,0,_,_,_,C=>by omega
 | .nil,z+1,_,_,_,_=>⟨[],by rw[eb];rfl,.refl _⟩
 | .node E live h k,z+1,o,p,r,C=>by
  have F:=fc c d o p;have G:=p;simp only[aC.size]at G C;rw[eb];by_cases D:(bo (.node E live h k)).live=0
  .rw[if_pos D];have S:=F.live;simp_all
  .rw[if_neg D,uW c d o p r];obtain⟨T,L,V⟩:=z1 c d (z:=z) o.a a8Z r.2.1 a8Z;obtain⟨W,P,e⟩:=z1 c d (z:=z) o.b a8Z r.2.2 a8Z
   dsimp only
   rw[show [bo h,bo k].getD 0 aA=bo h from rfl,show [bo h,bo k].getD 1 aA=bo k from rfl,L,P];refine⟨_,rfl,?_⟩;grind[aC.all,List.append_assoc]
def FA (a:1<=e) (b:e<=8) (c:a8.c9 e) (d:a8.size<=1048576) (k:dW H a8): ∃h,eb H e ((bo a8).size.toNat+1) (bo a8)=some h/\h.Perm a8.all:=by have o:=(fc a b c d).size;exact z1 a b c d k a8Z
structure fZ (a:ag) (t:aC) (r:Except Int ay×ag):Prop where
 le:a.le r.2
 ins:r.2.one=false->r.1= .ok (bo t)/\dW r.2 t
def fZ.bind {o:aC}{h:Except Int ay×ag}{k:ay->ag->Except Int ay×ag} (c:fZ H a8 h) (p: ∀(b:ay) (a:ag),a.le (k b a).2) (y: ∀a,H.le a->a.one=false->dW a a8->fZ a o (k (bo a8) a)):
  fZ H o (match(generalizing:=false) h with
   |(.error r,a)=>(.error r,a)
   |(.ok b,a)=>k b a):=by
 obtain⟨z,a⟩:=h;cases z with
 |error r=>exact⟨c.le,λd=>by cases (c.ins d).1⟩
 |ok b=>refine⟨c.le.trans (p b a),λd=> ?_⟩;have x:=(p b a).zero d;obtain⟨C,D⟩:=c.ins x;obtain rfl:=Except.ok.inj C;exact(y a c.le x D).ins d
theorem uX (c:Nat): ∀(k:Nat) (d:ag) (b:List (List Int)) (dep:Nat),d.le (iJ c k d b dep).2
 |0,d,_,_=>ag.le_refl
 |k+1,d,b,dep=>by
  rw[iJ];split
  .exact ag.le_refl
  have h:=uX c k d ((ea (dep%c) b).take (b.length/2)) (dep+1);split
  .rename_i a;rw[a]at h;exact h
  rename_i r p a;rw[a]at h;have o:=uX c k p ((ea (dep%c) b).drop (b.length/2+1)) (dep+1);split
  .rename_i a;rw[a]at o;exact h.trans o
  rename_i x y a;rw[a]at o;exact(h.trans o).trans (jT)
theorem uY (a:ag) (b:Nat) (c:ay) (d:Nat):a.le (mq a b c d).2:=by grind[mq,ag.le_refl,uX]
theorem sS (b:ag) (d:Nat) (h:List Int×Bool) (k o:ay) (p:Nat):b.le (mr b d h k o p).2:=by
 unfold mr;have a:=jT (H:=b) (e:=d) (b9:=cp h k o);split
 .rename_i c;rw[c]at a;exact a
 rename_i c;rw[c]at a;split
 .exact a.trans (uY _ _ _ _)
 .exact a
def r4 (b:1<=e) (c:e<=8) {a:aC} (d:(aC.node q I a8 a).c9 e) (k:(aC.node q I a8 a).size<=1048576) (o:dW H a8) (p:dW H a):fZ H (.node q I a8 a) (dv H e (cp (q,I) (bo a8) (bo a))):=by simp only[aC.size]at k;obtain⟨y,z,r⟩:=uV (I:=I) b c d.r (fc b c d.a a8Z) (fc b c d.b a8Z) a8Z;rw[qM r];have h:=ln H (cX (cp (q,I) (bo a8) (bo a)));exact⟨h,λx=>⟨rfl,qL x,o.mono h,p.mono h⟩⟩
theorem r5 {h:Nat}: ∀ {k:Nat}{b:List (List Int)}{dep:Nat}{c:List Int},c∈(fP h k b dep).rows->c∈b
 |0,_,_,_,a=>by trivial
 |k+1,b,dep,c,a=>by
  rw[fP]at a;by_cases d:b= []
  .rw[if_pos d]at a;trivial
  rw[if_neg d]at a;have o:=a5E.2 d;have p:=pw (dep%h) b;simp only[aC.rows,a4T,a4M]at a;rcases a with rfl|a|a
  .rw[a5p,a4w a8Z];exact qR.1 (a4Z _)
  .exact qR.1 (a4K (r5 a))
  .exact qR.1 (a5b (r5 a))
def z6 (b:Nat) (a:List (List Int)) (c:Nat) (d: ∀h∈a,bL e h):(fP e b a c).c9 e:=λk o=>d k (r5 o)
theorem z7 {b:Nat} (E:1<=b) (F:b<=8): ∀(d:Nat) (x:ag) (a k:List (List Int)) (dep:Nat),k.Perm a->(∀c∈a,bL b c)->a.length<=d->a.length<=1048576->fZ x (fP b d a dep) (iJ b d x k dep)
 |0,x,a,k,dep,_,_,_,_=>⟨ag.le_refl,λ_=>⟨rfl,trivial⟩⟩
 |d+1,x,a,k,dep,C,y,s,t=>by
  have T:=C.length_eq;by_cases D:a= []
  .subst D;obtain rfl:k= []:=C.eq_nil;rw[iJ,if_pos rfl,fP,if_pos rfl];exact⟨ag.le_refl,λ_=>⟨rfl,trivial⟩⟩
  have V:k≠ []:=λW=>D (by subst W;simp_all);have u:=a5E.2 D;have e:ea (dep%b) k=ea (dep%b) a:=by obtain⟨G,f⟩:=sQ λo z=>(y o z).len;obtain⟨g,i⟩:=sQ λo z=>(y o (C.mem_iff.1 z)).len;exact yQ (pE b _) (λo z=>(y o (G.mem_iff.1 z)).len) (g.trans (C.trans G.symm)) f i
  rw[iJ,if_neg V,fP,if_neg D,e,T];have v:=pw (dep%b) a;have hm:=λo=>qR (e:=dep%b) (Q:=a) (q:=o);generalize ea (dep%b) a=h at*;have L: ∀c∈h.take (a.length/2),bL b c:=λc p=>y c ((hm c).1 (a4K p));have P: ∀c∈h.drop (a.length/2+1),bL b c:=λc p=>y c ((hm c).1 (a5b p));have w:(h.take (a.length/2)).length=a.length/2:=by rw[a4z];omega
  have A:(h.drop (a.length/2+1)).length=a.length -(a.length/2+1):=by rw[a4N];omega
  have B:=qS b d (h.take (a.length/2)) (dep+1);have H:=qS b d (h.drop (a.length/2+1)) (dep+1);have j:bL b (h.getD (a.length/2) []):=by grind
  refine fZ.bind (z7 E F d x _ _ (dep+1) (.refl _) L a8Z a8Z) (λl S=> ?_) λm I K n=> ?_
  .have r:=uX b d S (h.drop (a.length/2+1)) (dep+1);split
   .rename_i p;rw[p]at r;exact r
   .rename_i p;rw[p]at r;exact r.trans (jT)
  .refine fZ.bind (z7 E F d m _ _ (dep+1) (.refl _) P a8Z a8Z) (λl S=>jT) λM r N q=> ?_;exact r4 E F (aC.c9.mk j (z6 _ _ _ L) (z6 _ _ _ P)) (by simp only[aC.size];omega) (n.mono r) q
def FB (b:1<=e) (c:e<=8) (d:a8.c9 e) (k:a8.size<=1048576) (o:dW H a8) (a:Nat):fZ H (fP e a8.all.length a8.all a) (mq H e (bo a8) a):=by
 obtain⟨y,p,h⟩:=FA b c d k o;have z:=lq a8;unfold mq;rw[p]
 dsimp only
 rw[h.length_eq];exact z7 b c _ H _ _ a h (λr x=>d r (aC.gD x)) (a5c _) a8Z
theorem z8 (c:1<=e) (d:e<=8) {a:aC} (b:(aC.node q I a8 a).c9 e) (h:(aC.node q I a8 a).size<=1048576) (p:dW H a8) (r:dW H a) (k:Nat):fZ H (hA e (.node q I a8 a) k) (mr H e (q,I) (bo a8) (bo a) k):=by
 have x:=h;simp only[aC.size]at x;have C:=(fc c d b h).size;have D:=(fc c d b.a a8Z).size;have E:=(fc c d b.b a8Z).size;unfold mr;refine fZ.bind (r4 c d b h p r) (λF G=> ?_) λL P S y=> ?_;grind[uY,ag.le_refl]
 .have z:((2*(bo (.node q I a8 a)).size).tdiv 3+1<max (bo a8).size (bo a).size)↔max a8.size a.size>2*(aC.node q I a8 a).size/3+1:=by grind
  unfold hA
  dsimp only
  by_cases o:max a8.size a.size>2*(aC.node q I a8 a).size/3+1;simp_all [FB]
  .rw[if_neg (λb=>o (z.1 b)),if_neg o];exact⟨ag.le_refl,λ_=>⟨rfl,y⟩⟩
theorem za (a:q∈(hA e a8 i).rows):q∈a8.rows:=by unfold hA at a;grind[aC.gD,r5]
theorem sT {h:Nat}{d:List Int}: ∀ {r:aC}{dep:Nat}{c:List Int},c∈(cY h d r dep).1.rows->c=d\/c∈r.rows
 | .nil,dep,c,b=>by
  grind[cY,aC.rows,List.mem_singleton]
 | .node k live o p,dep,c,b=>by
  rw[cY]at b;split at b
  .have:=za (a8:= .node k true o p) b;exact .inr this
  split at b
  .have a:=za (a8:= .node k live (cY h d o (dep+1)).1 p) b;simp only[aC.rows,a4T,a4M]at a|-;rcases a with a|a|a
   .simp_all
   .exact(sT a).imp_right λb=> .inr (.inl b)
   .simp_all
  .have a:=za (a8:= .node k live o (cY h d p (dep+1)).1) b;simp only[aC.rows,a4T,a4M]at a|-;rcases a with a|a|a
   .simp_all
   .simp_all
   .exact(sT a).imp_right λb=> .inr (.inr b)
def pG (b:bL e q) (c:a8.c9 e):(cY e q a8 i).1.c9 e:=λd a=>by
 rcases sT a with rfl|a
 .exact b
 .exact c d a
theorem zb {h:Nat}{k:List Int}: ∀(d:Nat) (c:ag) (o:ay) (dep:Nat),c.le (jj h k d c o dep).2
 |0,c,_,_=>ag.le_refl
 |d+1,c,o,dep=>by
  rw[jj];split
  .exact jT
  split
  .exact ag.le_refl
  rename_i r p x;split;grind[ag.le_refl,sS];split
  .have a:=zb (h:=h) (k:=k) d c (p.getD 0 aA) (dep+1);split
   .rename_i b;rw[b]at a;exact a
   .rename_i b;rw[b]at a;exact a.trans (sS _ _ _ _ _ _)
  .have a:=zb (h:=h) (k:=k) d c (p.getD 1 aA) (dep+1);split
   .rename_i b;rw[b]at a;exact a
   .rename_i b;rw[b]at a;exact a.trans (sS _ _ _ _ _ _)
def zc {h:Nat}{k:List Int}: ∀(d:Nat) (c:ag) (o:ay) (dep:Nat),c.le (gC h k d c o dep).2
 |0,c,_,_=>ag.le_refl
 |d+1,c,o,dep=>by
  rw[gC];split
  .exact ag.le_refl
  split
  .exact ag.le_refl
  rename_i r p x;split
  .split
   .exact jT
   .exact ag.le_refl
  split
  .have a:=zc (h:=h) (k:=k) d c (p.getD 0 aA) (dep+1);split
   .rename_i b;rw[b]at a;exact a
   .rename_i b;rw[b]at a;exact a.trans (jT)
  .have a:=zc (h:=h) (k:=k) d c (p.getD 1 aA) (dep+1);split
   .rename_i b;rw[b]at a;exact a
   .rename_i b;rw[b]at a;exact a.trans (jT)
theorem a1v (b:ag) (c:ay):b.le (iK e q b c).2:=by
 unfold iK;have a:=zc (h:=e) (k:=q) (c.size.toNat+1) b c 0;split
 .rename_i d;rw[d]at a;exact a
 rename_i d;rw[d]at a;split
 .exact a.trans (uY _ _ _ _)
 .exact a
theorem zd {b:Nat} (c:1<=b) (d:b<=8) {h:List Int} (y:bL b h): ∀(k:aC) (o:ag) (r dep:Nat),k.c9 b->k.size+1<=1048576->dW o k->k.size<r->(cY b h k dep).2=true->fZ o (cY b h k dep).1 (jj b h r o (bo k) dep)
 |k,o,0,dep,_,_,_,L,_=>by omega
 | .nil,o,r+1,dep,_,_,_,_,_=>by
  rw[jj,if_pos (show bo .nil=aA from rfl),cY];exact r4 c d (aC.c9.mk y (λS D=>by cases D) (λS D=>by cases D)) (by trivial) trivial trivial
 | .node P live z C,o,r+1,dep,a,T,p,L,x=>by
  have V:=T;simp only[aC.size]at V L;rw[jj,if_neg (yZ c d a a8Z),uW c d a a8Z p]
  dsimp only
  rw[show [bo z,bo C].getD 0 aA=bo z from rfl,show [bo z,bo C].getD 1 aA=bo C from rfl];rw[cY]at x|-;by_cases E:P=h
  .simp only[if_pos E]at x|-;have W:live=false:=by simp_all
   rw[if_neg (by rw[W];simp)];exact z8 c d (aC.c9.mk a.r a.a a.b) (by simp only[aC.size];omega) p.2.1 p.2.2 dep
  .by_cases c2:cH (dep%b) h P<0
   .simp only[if_neg E,if_pos c2]at x|-;have e:=px b h z (dep+1);exact fZ.bind (zd c d y z o r (dep+1) a.a a8Z p.2.1 a8Z x) (λf g=>sS _ _ _ _ _ _) λi F j G=>z8 c d (aC.c9.mk a.r (pG y a.a) a.b) (by simp only[aC.size];omega) G (p.2.2.mono F) dep
   .simp only[if_neg E,if_neg c2]at x|-;have e:=px b h C (dep+1);exact fZ.bind (zd c d y C o r (dep+1) a.b a8Z p.2.2 a8Z x) (λf g=>sS _ _ _ _ _ _) λi F j G=>z8 c d (aC.c9.mk a.r a.a (pG y a.b)) (by simp only[aC.size];omega) (p.2.1.mono F) G dep
def sU {b:Nat}{c:List Int}: ∀ {a:aC}{dep:Nat},(cj b c a dep).1.rows=a.rows
 | .nil,dep=>rfl
 | .node d live h k,dep=>by
  rw[cj];split
  .rfl
  split
  .show _::(_++ _)= _::(_++ _);rw[sU]
  .show _::(_++ _)= _::(_++ _);rw[sU]
def sV (a:a8.c9 e):(cj e q a8 i).1.c9 e:=λb c=>a b (by rwa[sU]at c)
def ze {c:Nat} (k:1<=c) (o:c<=8) {p:List Int}: ∀(d:aC) (h:ag) (x dep:Nat),d.c9 c->d.size<=1048576->dW h d->d.size<x->(cj c p d dep).2=true->fZ h (cj c p d dep).1 (gC c p x h (bo d) dep)
 |d,h,0,dep,_,_,_,G,_=>by omega
 | .nil,h,x+1,dep,_,_,_,_,b=>by rw[cj]at b;cases b
 | .node L live y z,h,x+1,dep,a,C,r,G,b=>by
  have P:=C;simp only[aC.size]at P G;rw[gC,if_neg (yZ k o a C),uW k o a C r]
  dsimp only
  rw[show [bo y,bo z].getD 0 aA=bo y from rfl,show [bo y,bo z].getD 1 aA=bo z from rfl];rw[cj]at b|-;by_cases D:L=p
  .simp only[if_pos D]at b|-;rw[if_pos b];exact r4 k o (aC.c9.mk a.r a.a a.b) (by simp only[aC.size];omega) r.2.1 r.2.2
  .by_cases c2:cH (dep%c) p L<0
   .simp only[if_neg D,if_pos c2]at b|-;have S:=py c p y (dep+1);exact fZ.bind (ze k o y h x (dep+1) a.a a8Z r.2.1 a8Z b) (λT V=>jT) λW E e F=>r4 k o (aC.c9.mk a.r (sV a.a) a.b) (by simp only[aC.size];omega) F (r.2.2.mono E)
   .simp only[if_neg D,if_neg c2]at b|-;have S:=py c p z (dep+1);exact fZ.bind (ze k o z h x (dep+1) a.b a8Z r.2.2 a8Z b) (λT V=>jT) λW E e F=>r4 k o (aC.c9.mk a.r a.a (sV a.b)) (by simp only[aC.size];omega) (r.2.1.mono E) F
theorem zf {b:Nat} (h:1<=b) (k:b<=8) {o:List Int}{y:ag}: ∀(a:aC) (c dep:Nat),a.c9 b->a.size<=1048576->dW y a->a.size<c->(cj b o a dep).2=false->gC b o c y (bo a) dep=(.error 9,y)
 |a,0,dep,_,_,_,D,_=>by omega
 | .nil,c+1,dep,_,_,_,_,d=>by rw[gC];rfl
 | .node E live p r,c+1,dep,x,z,C,D,d=>by
  have G:=z;simp only[aC.size]at G D;rw[gC,if_neg (yZ h k x z),uW h k x z C]
  dsimp only
  rw[show [bo p,bo r].getD 0 aA=bo p from rfl,show [bo p,bo r].getD 1 aA=bo r from rfl];rw[cj]at d;by_cases F:E=o;simp_all
  .by_cases c2:cH (dep%b) o E<0
   .simp only[if_neg F,if_pos c2]at d|-;rw[zf h k p c (dep+1) x.a a8Z C.2.1 a8Z d]
   .simp only[if_neg F,if_neg c2]at d|-;rw[zf h k r c (dep+1) x.b a8Z C.2.2 a8Z d]
def a1w (a:1<=e) (b:e<=8) (d:bL e q) (c:a8.c9 e) (h:a8.size+1<=1048576) (k:dW H a8) (o:(cY e q a8 0).2=true):fZ H (cY e q a8 0).1 (nC e q H (bo a8)):=by have:=(fc a b c a8Z).size;exact zd a b d a8 H _ 0 c h k a8Z o
theorem FC (a:1<=e) (b:e<=8) (c:a8.c9 e) (d:a8.size<=1048576) (h:dW H a8) (k:(cj e q a8 0).2=false):iK e q H (bo a8)=(.error 9,H):=by have:=(fc a b c d).size;grind[iK,zf]
theorem a1x (b:1<=e) (c:e<=8) (a:a8.c9 e) (d:a8.size<=1048576) (x:dW H a8) (h:(cj e q a8 0).2=true):fZ H (lr e q a8).1 (iK e q H (bo a8)):=by
 have y:=(fc b c a d).size;have z:=py e q a8 0;have k:=sV (q:=q) (i:=0) a;have o:=fc b c k a8Z;have C:=o.size;have D:=o.live;unfold iK;refine fZ.bind (ze b c a8 H _ 0 a d x a8Z h) (λE F=> ?_) λG L P p=> ?_;grind[uY,ag.le_refl]
 .unfold lr;by_cases r:2*(cj e q a8 0).1.all.length<(cj e q a8 0).1.size
  .rw[if_pos (show(cj e q a8 0).2=true/\2*(cj e q a8 0).1.all.length<(cj e q a8 0).1.size from⟨h,r⟩),if_pos (show 2*(bo (cj e q a8 0).1).live<(bo (cj e q a8 0).1).size by omega)];exact FB b c k a8Z p 0
  .rw[if_neg (show¬((cj e q a8 0).2=true/\2*(cj e q a8 0).1.all.length<(cj e q a8 0).1.size)from λa=>r a.2),if_neg (show¬2*(bo (cj e q a8 0).1).live<(bo (cj e q a8 0).1).size by omega)];exact⟨ag.le_refl,λ_=>⟨rfl,p⟩⟩
def aC.kI (a:Nat):aC->Nat->Prop
 | .nil,_=>True
 | .node c _ d h,dep=>(∀b∈d.rows,cH (dep%a) b c<0)/\(∀b∈h.rows,cH (dep%a) c b<0)/\d.kI a (dep+1)/\h.kI a (dep+1)
def aC.r6 {c:Nat}: ∀ {k:aC}{dep:Nat},k.c9 c->k.kI c dep->k.all.Pairwise (·≠ ·)
 | .nil,_,_,_=> .nil
 | .node y live D E,dep,b,⟨h1,r,z,C⟩=>by
  have o:=pE c (dep%c);rw[aC.all];refine a5z.2 ⟨a5z.2 ⟨aC.r6 b.a z,aC.r6 b.b C,λd a x h p=> ?_⟩,by cases live<;>simp,λd a x h p=> ?_⟩
  .subst p;exact o.yP (b.a d (aC.gD a)).len b.r.len (h1 d (aC.gD a)) (r d (aC.gD h))
  .obtain rfl:x=y:=by cases live<;>simp at h;exact h
   subst p;rcases a4M.1 a with a|a
   .exact o.jb _ b.r.len (h1 _ (aC.gD a))
   .exact o.jb _ b.r.len (r _ (aC.gD a))
variable{Q:List (List Int)}
theorem FD (a:e<Q.length):Q=Q.take e++Q.getD e []::Q.drop (e+1):=by simp_all
theorem uZ {h:Nat}: ∀(c:Nat) (a:List (List Int)) (dep:Nat),a.length<=c->(∀b∈a,b.length=h)->(fP h c a dep).all.Perm a
 |0,a,dep,x,_=>by
  obtain rfl:a= []:=a4B a8Z;rfl
 |c+1,a,dep,x,p=>by
  rw[fP];by_cases k:a= []
  .rw[if_pos k,k];rfl
  rw[if_neg k];have y:=a5E.2 k;have r:=(sQ (e:=dep%h) p).1;have z:=r.length_eq;have hm:=λb d=>p b (r.mem_iff.1 d);generalize ea (dep%h) a=o at*;have C:=FD (Q:=o) (e:=a.length/2) a8Z;have D:=uZ c (o.take (a.length/2)) (dep+1) (by rw[a4z];omega) λb d=>hm b (a4K d);have E:=uZ c (o.drop (a.length/2+1)) (dep+1) (by rw[a4N];omega) λb d=>hm b (a5b d);rw[aC.all,if_pos rfl];grind
def zg (a:a8.c9 e):(hA e a8 i).all.Perm a8.all:=by
 unfold hA;split
 .rfl
 .split
  .exact uZ _ _ _ (a5c _) λb c=>(a b (aC.gD c)).len
  .rfl
theorem zh {d:Nat}{b:List Int} (h:bL d b): ∀ {k:aC}{dep:Nat},k.c9 d->(cY d b k dep).2=true->(cY d b k dep).1.all.Perm (b::k.all)
 | .nil,dep,_,_=> .refl _
 | .node p live x y,dep,a,c=>by
  rw[cY]at c|-;by_cases o:p=b
  .simp only[if_pos o]at c|-;have r:live=false:=by simp_all
   refine(zg (aC.c9.mk a.r a.a a.b)).trans ?_;simp only[aC.all,if_pos,r,o];grind
  .by_cases c2:cH (dep%d) b p<0
   .simp only[if_neg o,if_pos c2]at c|-;refine(zg (aC.c9.mk a.r (pG h a.a) a.b)).trans ?_;exact((zh h a.a c).append_right _).append_right _
   .simp only[if_neg o,if_neg c2]at c|-;refine(zg (aC.c9.mk a.r a.a (pG h a.b))).trans ?_;refine(((zh h a.b c).append_left _).append_right _).trans ?_;exact a6W.append_right _
theorem zi {c:Nat}{b:List Int}: ∀ {d:aC}{dep:Nat},(cY c b d dep).2=false->b∈d.all
 | .nil,dep,a=>by rw[cY]at a;cases a
 | .node h live o p,dep,a=>by
  rw[cY]at a;simp only[aC.all,a4M];by_cases k:h=b;simp_all
  .by_cases c2:cH (dep%c) b h<0
   .simp only[if_neg k,if_pos c2]at a;exact .inl (.inl (zi a))
   .simp only[if_neg k,if_neg c2]at a;exact .inl (.inr (zi a))
theorem v7 {d:Nat}{b:List Int}: ∀ {h:aC}{dep:Nat},(cj d b h dep).2=true->h.all.Perm (b::(cj d b h dep).1.all)
 | .nil,dep,a=>by rw[cj]at a;cases a
 | .node k live o p,dep,a=>by
  rw[cj]at a|-;by_cases c:k=b
  .simp only[if_pos c]at a|-;simp only[aC.all,if_pos a,c];grind
  .by_cases c2:cH (dep%d) b k<0
   .simp only[if_neg c,if_pos c2]at a|-;exact((v7 a).append_right _).append_right _
   .simp only[if_neg c,if_neg c2]at a|-;refine(((v7 a).append_left _).append_right _).trans ?_;exact a6W.append_right _
theorem zj {b:Nat}{d:List Int} (k:d.length=b): ∀ {o:aC}{dep:Nat},o.c9 b->o.kI b dep->(cj b d o dep).2=false->d∉o.all
 | .nil,dep,_,_,_=>λh=>by cases h
 | .node r live E F,dep,h,⟨h1,y,C,D⟩,c=>by
  have x:=pE b (dep%b);intro a;rw[cj]at c;simp only[aC.all,a4M]at a;by_cases p:r=d
  .simp only[if_pos p]at c;subst p;rcases a with (a|a)|a
   .exact x.jb _ k (h1 _ (aC.gD a))
   .exact x.jb _ k (y _ (aC.gD a))
   .rw[c]at a;simp at a
  .have z:d∉(if live=true then [r]else []):=λh=>by
    simp_all
   by_cases c2:cH (dep%b) d r<0
   .simp only[if_neg p,if_pos c2]at c;rcases a with (a|a)|a
    .exact zj k h.a C c a
    .exact x.yP k h.r.len c2 (y _ (aC.gD a))
    .exact z a
   .simp only[if_neg p,if_neg c2]at c;rcases a with (a|a)|a
    .exact c2 (h1 _ (aC.gD a))
    .exact zj k h.b D c a
    .exact z a
theorem v8 {a:Nat}: ∀(p:Nat) (c:List (List Int)) (dep:Nat),(∀b∈c,b.length=a)->c.Pairwise (·≠ ·)->(fP a p c dep).kI a dep
 |0,_,_,_,_=>trivial
 |p+1,c,dep,z,D=>by
  rw[fP];by_cases r:c= []
  .rw[if_pos r];trivial
  rw[if_neg r];have g:=a5E.2 r;obtain⟨x,E⟩:=sQ (e:=dep%a) z;have i:=x.length_eq;have hm:=λb d=>z b (x.mem_iff.1 d);have y:(ea (dep%a) c).Pairwise (·≠ ·):=x.symm.pairwise D λk=>k.symm;have F:=pE a (dep%a);have C:(ea (dep%a) c).Pairwise (λG L=>cH (dep%a) G L<0):=by
   refine a7z ?_ (E.and y);intro h b o d j;rcases F.r0 h b (hm h o) (hm b d)with k|k|k
   .exact k
   .simp_all
   .omega
  generalize ea (dep%a) c=P at*;have S:=FD (Q:=P) (e:=c.length/2) a8Z;rw[S]at C y;obtain⟨l,T,V⟩:=a5z.1 C;obtain⟨W,m⟩:=a5g.1 T;obtain⟨e,f,_⟩:=a5z.1 y;refine⟨λh o=>V h (r5 o) _ a9a,λh o=>W h (r5 o),?_,?_⟩
  .exact v8 p _ _ (λb d=>hm b (a4K d)) e
  .exact v8 p _ _ (λb d=>hm b (a5b d)) (a5g.1 f).2
def zk (a:a8.c9 e) (b:a8.kI e i):(hA e a8 i).kI e i:=by
 unfold hA;split
 .trivial
 .split
  .exact v8 _ _ _ (λc d=>(a c (aC.gD d)).len) (aC.r6 a b)
  .exact b
theorem zl {c:Nat}{k:List Int} (h:bL c k): ∀ {o:aC}{dep:Nat},o.c9 c->o.kI c dep->(cY c k o dep).1.kI c dep
 | .nil,dep,_,_=>⟨λd b=>(by cases b),λd b=>(by cases b),trivial,trivial⟩
 | .node p live D E,dep,a,⟨h1,r,x,y⟩=>by
  have C:=pE c (dep%c);rw[cY];by_cases z:p=k
  .simp only[if_pos z];exact zk (aC.c9.mk a.r a.a a.b) ⟨h1,r,x,y⟩
  .by_cases c2:cH (dep%c) k p<0
   .simp only[if_neg z,if_pos c2];refine zk (aC.c9.mk a.r (pG h a.a) a.b) ⟨λd b=> ?_,r,zl h a.a x,y⟩;rcases sT b with rfl|b
    .exact c2
    .exact h1 d b
   .simp only[if_neg z,if_neg c2];refine zk (aC.c9.mk a.r a.a (pG h a.b)) ⟨h1,λd b=> ?_,x,zl h a.b y⟩;rcases sT b with rfl|b
    .rcases C.r0 d p h.len a.r.len with a|a|a
     .trivial
     .simp_all
     .exact a
    .exact r d b
def zm {a:Nat}{k:List Int}: ∀ {b:aC}{dep:Nat},b.kI a dep->(cj a k b dep).1.kI a dep
 | .nil,dep,_=>trivial
 | .node o live p r,dep,⟨h1,c,d,h⟩=>by
  rw[cj];split
  .trivial
  split
  .exact⟨by rw[sU];exact h1,c,zm d,h⟩
  .exact⟨h1,by rw[sU];exact c,d,zm h⟩
structure lx (d n:Nat) (t:aC):Prop where
 fe:t.c9 d
 va:t.kI d 0
 cm:t.size<=n
theorem lx.nil {a n:Nat}:lx a n .nil:=⟨λc b=>(by cases b),trivial,a5d _⟩
def lx.ins (a:lx e i a8) (b:bL e q):lx e (i+1) (cY e q a8 0).1:=⟨pG b a.fe,zl b a.fe a.va,by have:=px e q a8 0;have:=a.cm;omega⟩
theorem lx.del (b:lx e i a8):lx e i (lr e q a8).1:=by
 have a:=sV (q:=q) (i:=0) b.fe;have c:=zm (k:=q) b.va;have p:=py e q a8 0;have r:=lq (cj e q a8 0).1;have x:=b.cm;unfold lr;split
 .refine⟨z6 _ _ _ λd h=>a d (aC.gD h),v8 _ _ _ (λk o=>(a k (aC.gD o)).len) (aC.r6 a c),?_⟩;grind[qS,cj]
 .exact⟨a,c,a8Z⟩
def a1y (a:lx e i a8) (b:(cj e q a8 0).2=true):a8.all.Perm (q::(lr e q a8).1.all):=by
 have c:=sV (q:=q) (i:=0) a.fe;refine(v7 b).trans (.cons _ ?_);unfold lr;split
 .exact(uZ _ _ _ (a5c _) λd h=>(c d (aC.gD h)).len).symm
 .rfl
structure nD (c:U) (x:R) (b:List UInt8):Prop where
 one:x.cells= [x]
 len:fb x=some (.v (.int .i64 b.length))
 src: ∀a,c.sub a->o2 a x b
variable{n b3:R}{f t e4:U}{B:List UInt8}
theorem nD.an (a:fG t f B n):nD f n B:=by obtain⟨h,b,k,c⟩:=a.src;simp only[a4I,a5n]at b;subst b;refine⟨?_,c,λo d=>fG.lY (a.mono d)⟩;rcases a.2 with ⟨_,rfl|rfl⟩|⟨_,_,_,_,rfl,_⟩<;>rfl
def nD.mono (a:nD f n B) (b:f.sub t):nD t n B:=⟨a.one,a.len,λd c=>a.src _ (U.ar b c)⟩
def a1z (c:UInt8) (b:List UInt8) (d:R) (h:Nat) (a:U) (k:nD a d b) (y:b.length<=900000) (p:a h=some (.cells [d])):
  AC Tryz.prog 192 [.v (.int .u8 (c.toNat:Int)),.an h 1 1 1] a λr x=>fG a x (preB c [b]) r:=
 a0l c [(d,b)] h a p (λz o=>by rw[a4Q]at o;subst o;exact .inr ⟨k.src _ U.a1,k.len⟩) (by simp[preB,chunk,cF];omega)
theorem a1A (b:B.length=32) (a:R):(cG B).cells.length=32/\putAt (List.replicate 32 a) 0 (cG B).cells=(cG B).cells/\(.agg ((cG B).cells.take 32):R)=cG B:=by grind[cG,R.cells,putAt,List.take_of_length_le]
def a1B (b:List UInt8) (a:R) (c:U) (k:nD c a b) (y:b.length<=900000):
  AC Tryz.prog 177 [a] c λo z=>z=c/\o=cG (eR b):=by
 have p:=k.one;refine aN hm Ov ?_;refine bp λF C=> ?_;refine eP (by simp[aS,p]) a9a λD E=> ?_;rw[show flat [a]= [a] by simp[flat,p]];have r:=U.af (Y:= .cells (List.replicate 32 (.v (.int .u8 0)))) (U.a1) C;have d:=U.af (Y:= .cells [a]) (U.a1) E;refine aa ?_;refine hN (a1z 80 b a D _ (k.mono (U.ar r d)) y (U.ah _ _ _)) λo G h=> ?_;have x:=nD.an h;have L:=U.aJ (h.sub _ _ (d _ _ (U.ah _ _ _)));have P:=a1A (sb (preB 80 [b])) (.v (.int .u8 0));refine bc (a0i _ (by simp[preB,chunk,cF];omega) _ _ (x.src _ U.a1) x.len) ?_;exact⟨U.ar (U.ar r d) h.sub,rfl⟩
theorem FE (c b:List Int) (p r:Own) (d:Nat) (k:U) (D:d<=1000000):
  AC Tryz.prog 41 [er c b p r,.v (.int .i64 (d:Int))] k λx y=>y=k/\x= .v (.bool (cP c b d)):=by
 have E:=bH (q:=c);have F:=bH (q:=b);have G:= @dJ c;have L:= @dJ b;refine aN hm Kw ?_;refine bp λP S=> ?_
 repeat' first|refine aG (λ_=> ?_) λ_=> ?_|trivial
 all_goals try (rw[cP];exact aO)
 refine gJ [1,2] (λa:Nat=> [(5,.v (.int .i64 a))]) (λa=>a<=d/\ ∀h<a,decide (c.getD h 0<=b.getD h 0)=true) (λa=>d - a) 0 ⟨a8Z,λh z=>by omega⟩ aR ?_;rintro a ⟨b,o⟩ T;refine aa ?_;refine aG (λC=> ?_) λC=> ?_
 .repeat' first|refine aG (λ_=> ?_) λ_=> ?_|trivial
  grind[cP,s6,decide_eq_false_iff_not,aO]
  .exact⟨a+1,⟨a8Z,upto o (by simp only[decide_eq_true_eq];omega)⟩,rfl,a8Z⟩
 .rw[cP,s7 λh z=>o h a8Z];exact aO
end Go.Proofs.YtlgnfcaolejgeaaGreat
