import Derived.Test.YtlgnfcaolejgeaaGreatMD
import Derived.Test.YtlgnfcaolejgeaaGreatMC
set_option linter.all false
set_option maxRecDepth 100000
namespace Go.Proofs.YtlgnfcaolejgeaaGreat
open Go Go.bB
variable{e i v M c0 j0:Nat}
theorem Dt (b:e<18446744073709551616) (c:i<18446744073709551616):bo .xor (.int .u64 (e:Int)) (.int .u64 (i:Int))=some (.int .u64 ((e^^^i:Nat):Int)):=by
 have d:bo .xor (.int .u64 (e:Int)) (.int .u64 (i:Int))=some (.int .u64 (IntKind.u64.wrap (BitVec.ofInt 64 (e:Int)^^^BitVec.ofInt 64 (i:Int)).toNat)):=rfl;have h: ∀a:Nat,a<18446744073709551616->(BitVec.ofInt 64 (a:Int)).toNat=a:=λa k=>by simp;omega
 grind[Nat.xor_lt_two_pow,BitVec.toNat_xor,wrap_u64]
def ou (a:Int):cf a<18446744073709551616:=(BitVec.ofInt 64 a^^^BitVec.ofInt 64 9223372036854775808).isLt
def Du (b:Int) (a:U):AC Tryz.prog 339 [.v (.int .i64 b)] a λc d=>d=a/\c= .v (.int .u64 (cf b:Int)):=by refine bf hm Sk a9s ?_;refine ax @CF ?_;exact⟨a,U.a1,rfl⟩
def Yt (a:Int) (b:U):AC Tryz.prog 338 [.v (.int .i64 a)] b λd h=>h=b/\d= .v (.bool (decide (1<=a)&&decide (a<=8))):=by
 refine bf hm Si a9s ?_;by_cases c:1<=a
 .refine ax @c ?_;exact⟨b,U.a1,by simp[c]⟩
 .refine ax @c ?_;exact⟨b,U.a1,by simp[c]⟩
def gR (b:(Int×Int)×Nat) (a:Int×Int):(Int×Int)×Nat:=
 if b.2<cf a.1^^^cf a.2/\b.2<b.2^^^(cf a.1^^^cf a.2)then(a,cf a.1^^^cf a.2)else b
def bz (a b:List Int):Bool:=
 if 1<=a.length/\a.length<=8/\b.length=a.length then
  decide (((a.zip b).foldl gR ((a.zip b).headD (0,0),0)).1.1<((a.zip b).foldl gR ((a.zip b).headD (0,0),0)).1.2)
 else false
theorem xB (a c:List Int) (j k:Own) (h:U):
  AC Tryz.prog 301 [.J (ad a) j,.J (ad c) k] h λb i=>i=h/\b= .v (.bool (bz a c)):=by
 refine bf hm RC a9s ?_;have m:=bI (q:=a);have q:=bI (q:=c);refine ax @m ?_;refine ai (Yt _ _) ?_;rintro _ h ⟨rfl,rfl⟩;unfold bz;by_cases h1:1<=a.length/\a.length<=8
 .have w:(1:Int)<=a.length:=a9r;have x:(a.length:Int)<=8:=a9r;by_cases y:(c.length:Int)=a.length
  .have n:c.length=a.length:=a9r;rw[if_pos ⟨h1.1,h1.2,n⟩];refine ax (bD @m @q @w @x @y @a5H) ?_;have b:(a.zip c).length=a.length:=by simp[n]
   have v: ∀b,b<a.length-> ∃d,(a.zip c)[b]? =some d/\a[b]? =some d.1/\c[b]? =some d.2:=λb l=>by
    simp_all
   obtain⟨o,e,p,r⟩:=v 0 a9r;have g:(a.zip c).headD (0,0)=o:=by
    cases f:a.zip c with
    |nil=>rw[f]at e;cases e
    |cons s s=>rw[f]at e;simpa using e
   rw[g];refine cv (λf i=> ∃(b g:Nat) (e:(Int×Int)×Nat),b<=a.length/\g<a.length/\i=h/\e=((a.zip c).take b).foldl gR (o,0)/\e.2<18446744073709551616/\a[g]? =some e.1.1/\c[g]? =some e.1.2/\
     f 0= .J (ad a) j/\f 1= .J (ad c) k/\f 5= .v (.int .i64 g)/\f 6= .v (.int .u64 e.2)/\f 21= .v (.int .i64 a.length)/\f 22= .v (.int .i64 b))
    (λf _=>match f 22 with| .v (.int _ h)=>a.length - h.toNat| _=>0) ⟨0,0,(o,0),a9r,a9r,rfl,a9s,a9s,p,r,?_⟩ ?_
   .exact cr @m
   rintro f z ⟨b,g,e,l,A,rfl,r,p,s,t,f,h,i,j,k,l⟩;by_cases u:(b:Int)<a.length
   .obtain⟨d,D,B,C⟩:=v b a9r;have v:((a.zip c).take (b+1)).foldl gR (o,0)=gR e d:=by rw[a5Y,D,a6P,<-r];rfl
    simp -dsimp -implicitDefEqProofs (disch:=first|omega|assumption|(simp only[aE,Nat.reduceAdd];try omega)) only[go_sem,simprocAttr,-List.reduceReplicate,f,h,i,j,k,l,u,gv B,gv C,om];refine ai (Du d.1 _) ?_;rintro _ z ⟨rfl,rfl⟩;simp -dsimp -implicitDefEqProofs (disch:=first|omega|assumption|(simp only[aE,Nat.reduceAdd];try omega)) only[go_sem,simprocAttr,-List.reduceReplicate,f,h,i,j,k,l,u,gv B,gv C,om];refine ai (Du d.2 _) ?_;rintro _ z ⟨rfl,rfl⟩;have o:cf d.1^^^cf d.2<18446744073709551616:=a7z (n:=64) (ou _) (ou _);have z:e.2^^^(cf d.1^^^cf d.2)<18446744073709551616:=a7z (n:=64) p o;have ch:=Dt (ou d.1) (ou d.2);have ca:=Dt p o;rw[gR]at v;generalize cf d.1^^^cf d.2=o at*;by_cases d:(e.2:Int)<(o:Int)
    .by_cases z:(e.2:Int)<((e.2^^^o:Nat):Int)
     .refine ax (cu @f @h @i @j @k @l @ch @ca @d @z) ?_;grind
     .refine ax (cu @f @h @i @j @k @l @ch @ca @d @z) ?_;refine⟨⟨b+1,g,e,a9r,A,?_,p,s,t,?_⟩,a9r⟩
      .rw[v,if_neg a9r]
      .simp
    .refine ax (ds @f @h @i @j @k @l @ch @ca @d) ?_;refine⟨⟨b+1,g,e,a9r,A,?_,p,s,t,?_⟩,a9r⟩
     .rw[v,if_neg a9r]
     .simp
   .obtain rfl:b=a.length:=a9r;rw[a4K a9r]at r;simp -dsimp -implicitDefEqProofs (disch:=first|omega|assumption|(simp only[aE,Nat.reduceAdd];try omega)) only[go_sem,simprocAttr,-List.reduceReplicate,f,h,i,j,k,l,u,gv s,gv t,om];exact⟨_,U.a1,rfl,by rw[r]⟩
  .have n: ¬c.length=a.length:=a9r;refine ax (bD @m @q @w @x @y @a5H) ?_;exact⟨_,U.a1,rfl,by rw[if_neg (λb=>n b.2.2)]⟩
 .have:(decide ((1:Int)<=a.length)&&decide ((a.length:Int)<=8))=false:=by grind
  refine ax (aM @m @q @this @a5y) ?_;exact⟨_,U.a1,rfl,by grind⟩
def mg (a b:List Int):Int:=if bz a b=true then -1 else if bz b a=true then 1 else 0
def Dv (a b:List Int) (d h:Own) (c:U):
  AC Tryz.prog 237 [.J (ad a) d,.J (ad b) h] c λk o=>o=c/\k= .v (.int .i64 (mg a b)):=by
 refine bf hm Qb a9s ?_;refine cp ?_;refine ai (xB a b d h c) ?_;rintro _ c ⟨rfl,rfl⟩;unfold mg;cases h1:bz a b with
 |true=>refine cp ?_;exact⟨_,U.a1,rfl⟩
 |false=>
  refine cp ?_;refine ai (xB b a h d c) ?_;rintro _ c ⟨rfl,rfl⟩;cases p:bz b a with
  |true=>refine cp ?_;exact⟨_,U.a1,rfl⟩
  |false=>refine cp ?_;exact⟨_,U.a1,rfl⟩
end Go.Proofs.YtlgnfcaolejgeaaGreat
namespace Go.a6
variable{b0:Type}
def eY:Nat->List b0->List (List b0)
 |0,_=> []
 |b+1,a=>a.take (a.length/(b+1)+if 0<a.length%(b+1)then 1 else 0)::eY b (a.drop (a.length/(b+1)+if 0<a.length%(b+1)then 1 else 0))
def bV (a:Nat):Nat:=(a+3)/4
def chunks (a:List b0):List (List b0):=eY (bV a.length) a
theorem Dw: ∀(a:Nat) (b:List b0),eY a b=(List.range a).map λh=>(b.drop (h*(b.length/a)+min h (b.length%a))).take (b.length/a+if h<b.length%a then 1 else 0)
 |0,b=>rfl
 |a+1,b=>by
  have y:=a7M b.length (a+1);have z:=a6U b.length (a9n a);simp only[eY];generalize C:b.length/(a+1)=d at*;generalize D:b.length%(a+1)=c at*;rw[Dw a,a8S,a5j,a6L];congr 1
  .simp
  .by_cases p:a=0
   .subst p;simp
   have k:(b.drop (d+if 0<c then 1 else 0)).length=d*a+(c - if 0<c then 1 else 0):=by grind
   have o:c -(if 0<c then 1 else 0)<a:=by split<;>omega
   have r:(b.drop (d+if 0<c then 1 else 0)).length/a=d:=by rw[k,a9m,Nat.mul_add_div a9r,Nat.div_eq_of_lt o];rfl
   have x:(b.drop (d+if 0<c then 1 else 0)).length%a=c - if 0<c then 1 else 0:=by rw[k,a9m,Nat.mul_add_mod,a6x o]
   rw[r,x];refine a6r λh E=> ?_;simp only[Function.comp,a5D];grind
def Dx: ∀(a:Nat) (b:List b0),(0<a\/b= [])->(eY a b).flatten=b
 |0,b,c=>by rcases c with c|c;(·omega);(·subst c;rfl)
 |a+1,b,_=>by
  simp only[eY,a6C];rw[Dx a,a5r];by_cases d:a=0
  .right;subst d;simp
  .left;omega
def chunks_flatten (a:List b0):(chunks a).flatten=a:=Dx _ _ (by
 cases a with
 |nil=>exact .inr rfl
 |cons b a=>left;simp only[bV,a4O];omega)
theorem pt {a:List b0} (b:1<=a.length) (c:a.length<=4):chunks a= [a]:=by
 have:bV a.length=1:=by unfold bV;omega
 simp[chunks,this,eY,Nat.mod_one]
theorem sI {a:List b0} (b:a.length=5):chunks a= [a.take 3,a.drop 3]:=by simp_all [bV,chunks,eY,a4X,a4K]
abbrev Row:=List Int
structure xC where
 rows:List Row
structure xD (a:Type) where
 kids:List a
def T:Nat->Type
 |0=>xC
 |a+1=>xD (T a)
def leaf (a:List Row):T 0:=xC.mk a
variable{e i v M c0 j0:Nat}
def node (a:List (T e)):T (e+1):=xD.mk a
def rows (a:T 0):List Row:=xC.rows a
def kids {a:Nat} (b:T (a+1)):List (T a):=xD.kids b
variable{h9:List Row}
theorem qN:rows (leaf h9)=h9:=rfl
theorem fh {a:List (T e)}:kids (node a)=a:=rfl
def ia (a:T 0): ∃b,a=leaf b:=⟨rows a,rfl⟩
def gw (a:T (e+1)): ∃b,a=node b:=⟨kids a,rfl⟩
def len: {b:Nat}->T b->Nat
 |0,a=>(rows a).length
 | _+1,a=>(kids a).length
def bc:(a:Nat)->T a->List Row
 |0,b=>rows b
 |a+1,b=>(kids b).flatMap (bc a)
theorem hz:len (leaf h9)=h9.length:=rfl
def dG {a:List (T e)}:len (node a)=a.length:=rfl
theorem kD:bc 0 (leaf h9)=h9:=rfl
theorem fO {a:List (T e)}:bc (e+1) (node a)=a.flatMap (bc e):=rfl
theorem Dy (a:List Row):((chunks a).map leaf).flatMap (bc 0)=a:=by
 conv=>rhs;rw[<-chunks_flatten a]
 rw[a8c,a6L];congr 1;exact List.map_id _
theorem Dz (a:List (T e)):((chunks a).map node).flatMap (bc (e+1))=a.flatMap (bc e):=by
 conv=>rhs;rw[<-chunks_flatten a]
 induction chunks a with
 |nil=>rfl
 |cons b c ih=>rw[a5j,a5n,ih,a6C,a5F];rfl
def WF:(b:Nat)->T b->Prop
 |0,a=>2<=len a/\len a<=4
 |b+1,a=>2<=len a/\len a<=4/\ ∀c∈kids a,WF b c
def lq:(a:Nat)->T a->Prop
 |0,_=>True
 |a+1,b=> ∀c∈kids b,WF a c
theorem hc {a:T e}:WF e a↔2<=len a/\len a<=4/\lq e a:=by
 cases e with
 |zero=>simp[WF,lq]
 |succ e=>rfl
def jR (b:Nat) (a:T b):Prop:=1<=len a/\len a<=4/\lq b a/\(0<b->2<=len a)
theorem jR.of {a:T e} (b:WF e a):jR e a:=by have:=hc.1 b;exact⟨a9r,this.2.1,this.2.2,λ_=>this.1⟩
def xE: ∀ {a:T e},1<=len a->lq e a->bc e a≠ []:=by
 induction e with
 |zero=>intro a c _ b;obtain⟨d,rfl⟩:=ia a;rw[kD]at b;subst b;simp[hz]at c
 |succ e ih=>
  intro a c h b;obtain⟨d,rfl⟩:=gw a;rw[dG]at c
  match d,c with
  |k::d,_=>rw[fO,a5n]at b;have o:=hc.1 (h k a6v);exact ih a9r o.2.2 (List.append_eq_nil_iff.1 b).1
def cT (a:Nat) (b:T a):Row:=(bc a b).headD []
section
variable (lt:Row->Row->Bool)
structure Ord (ok:Row->Prop):Prop where
 jg: ∀p,lt p p=false
 trans: ∀p a r,ok p->ok a->ok r->lt p a=true->lt a r=true->lt p r=true
 total: ∀p a,ok p->ok a->lt p a=false->lt a p=false->p=a
def cW (a:Row):List Row->Nat
 | _::b::c=>if lt a b then 0 else cW a (b::c)+1
 | _=>0
def dR (c:List Row) (a:Row):List Row:=c.takeWhile (λb=>lt b a)++a::c.dropWhile (λb=>lt b a)
def eP (c:Row):(b:Nat)->T b->List (T b)
 |0,a=>(chunks (dR lt (rows a) c)).map leaf
 |b+1,a=>
  match(kids a)[cW lt c ((kids a).map (cT b))]? with
  |some d=>(chunks ((kids a).take (cW lt c ((kids a).map (cT b)))++eP c b d++(kids a).drop (cW lt c ((kids a).map (cT b))+1))).map node
  |none=> []
def kE: {a:Nat}->T a->T a->List (T a)
 |0,b,c=>(chunks (rows b++rows c)).map leaf
 | _+1,b,c=>(chunks (kids b++kids c)).map node
def lr (b:List (T e)) (a:Nat) (c:T e):List (T e):=
 if 2<=len c then b.set a c
 else match b[if a=0 then 1 else a - 1]? with
  |some d=>b.take (a - 1)++(if a=0 then kE c d else kE d c)++b.drop (a - 1+2)
  |none=> []
def cN (c:Row):(b:Nat)->T b->T b
 |0,a=>leaf ((rows a).filter λd=>decide (d≠c))
 |b+1,a=>
  match(kids a)[cW lt c ((kids a).map (cT b))]? with
  |some h=>node (lr (kids a) (cW lt c ((kids a).map (cT b))) (cN c b h))
  |none=>a
end
theorem DA (c:2<=h9.length) (d:h9.length<=5):(∀b∈(chunks h9).map leaf,WF 0 b)/\1<=(chunks h9).length/\(chunks h9).length<=2/\(h9.length<=4->(chunks h9).length=1):=by
 by_cases a:h9.length=5
 .rw[sI a];simp[WF,a,hz]
 .rw[pt a9r a9r];simp only[a5j,a6A,a4Z,forall_eq,a6g,WF,hz];grind
theorem DB {a:List (T e)} (d:2<=a.length) (h:a.length<=5) (k: ∀b∈a,WF e b):(∀b∈(chunks a).map node,WF (e+1) b)/\1<=(chunks a).length/\(chunks a).length<=2/\(a.length<=4->(chunks a).length=1):=by
 by_cases c:a.length=5
 .rw[sI c];simp only[a5j,a6A,a5k,a6p,or_false,forall_eq_or_imp,forall_eq,a4O,a4T,WF,dG,fh];grind
 .rw[pt a9r a9r];simp only[a5j,a6A,a4Z,forall_eq,a6g,WF,dG,fh];grind
variable{h2:Row}
section
variable {lt:Row->Row->Bool}{ok:Row->Prop}
abbrev jh (a:Row->Row->Bool) (b:List Row):Prop:=b.Pairwise λc d=>a c d=true
theorem xF {a:List Row} (c: ∀b∈h9,lt b h2=true):dR lt (h9++a) h2=h9++dR lt a h2:=by unfold dR;simp_all
theorem Yu {b:List Row} (d: ∀a∈h9,lt a h2=false):dR lt (b++h9) h2=dR lt b h2++h9:=by
 have c:h9.takeWhile (λa=>lt a h2)= []/\h9.dropWhile (λa=>lt a h2)=h9:=by
  cases h9 with
  |nil=>exact⟨rfl,rfl⟩
  |cons h h9=>simp[d h a6v]
 induction b with
 |nil=>simp[dR,c.1,c.2]
 |cons k b ih=>unfold dR at ih|-;by_cases bQ:lt k h2=true;simp_all;simp_all
theorem sJ {a:Row}:h2∈dR lt h9 a↔h2=a\/h2∈h9:=by grind[dR,List.takeWhile_append_dropWhile]
theorem ov:(dR lt h9 h2).length=h9.length+1:=by unfold dR;have:=congrArg List.length (a5G (p:=λa=>lt a h2) (l:=h9));grind
def Yv (p:Ord lt ok) (r:jh lt h9) (h: ∀c∈h9,ok c) (x:ok h2) (y:h2∉h9):jh lt (dR lt h9 h2):=by
 induction h9 with
 |nil=>simp[dR]
 |cons a h9 ih=>
  have k:=a5t.1 r;have ih:=ih k.2 (λc b=>h c (by simp[b])) (λo=>y (by simp[o]));by_cases bQ:lt a h2=true
  .have d:dR lt (a::h9) h2=a::dR lt h9 h2:=xF (h9:= [a]) (by simpa using bQ);rw[d];refine a5t.2 ⟨λc b=> ?_,ih⟩;rcases sJ.1 b with rfl|b
   .exact bQ
   .exact k.1 c b
  .have d:dR lt (a::h9) h2=h2::a::h9:=by simp[dR,bQ]
   rw[d];have z:lt h2 a=true:=by
    cases o:lt h2 a with
    |true=>rfl
    |false=>exact absurd (p.total h2 a x (h a a9s) o (by simpa using bQ)) (λd=>y (by simp[d]))
   refine a5t.2 ⟨λc b=> ?_,r⟩;rcases a5k.1 b with rfl|b
   .exact z
   .exact p.trans h2 a c x (h a a9s) (h c (by simp[b])) z (k.1 c b)
theorem DC (x:Ord lt ok) {d:Row} (y:ok d): ∀(h:List (List Row)),h≠ []->(∀D∈h,D≠ [])->jh lt h.flatten->(∀a∈h.flatten,ok a)->
  cW lt d (h.map (·.headD []))<h.length/\(∀a∈(h.take (cW lt d (h.map (·.headD [])))).flatten,lt a d=true)/\(∀a∈(h.drop (cW lt d (h.map (·.headD []))+1)).flatten,lt d a=true)
 | [],W,_,_,_=>absurd rfl W
 | [e],_,_,_,_=>by simp[cW]
 |e::k::z,_,G,m,C=>by
  simp only[a5j,cW];obtain⟨b,o,p⟩: ∃b o,k=b::o:=by
   cases p:k with
   |nil=>exact absurd p (G k a9s)
   |cons b o=>exact⟨b,o,rfl⟩
  have L:k.headD []=b:=by rw[p];rfl
  have E:ok b:=C b (by simp[p]);have F:jh lt (k::z).flatten:=by grind
  rw[L];by_cases r:lt d b=true
  .rw[if_pos r];refine⟨a9s,a9s,λa c=> ?_⟩;simp only[a5g,a6e,a6W]at c;have f:(k::z).flatten=b::(o++z.flatten):=by rw[p];rfl
   rw[f]at c F;rcases a5k.1 c with rfl|c
   .exact r
   .refine x.trans d b a y E (C a ?_) r ((a5t.1 F).1 a c);simp_all
  .rw[if_neg r];have ih:=DC x y (k::z) a9s (λD P=>G D (by simp at P|-;exact .inr P)) F (λa c=>C a (by simp_all));simp only[a5j,L]at ih;obtain⟨g,i,j⟩:=ih;refine⟨by simp at g|-;omega,λa c=> ?_,λa c=>j a (by simpa using c)⟩;simp only[a6E,a6C,a5c]at c;rcases c with c|c
   .
    have S:lt a b=true:=by grind
    by_cases T:b=d
    .rw[<-T];exact S
    .have l:ok a:=C a (by simp[c]);cases V:lt b d with
     |true=>exact x.trans a b d l E y S V
     |false=>exact absurd (x.total b d E y V (by simpa using r)) T
   .exact i a c
end
end Go.a6
namespace Go.Proofs.YtlgnfcaolejgeaaGreat
open Go Go.bB
variable{b4:FuncId}{g A e1:List R}
theorem Yw (a:List (List Int)) (z:List R) (k:R) (d:U) (C:az isRow a z) (D:bT d 1 k z) (u:a.length<=1000000000000) {h:List Int->Bool} (E:ha isRow d b4 g A h):
  AC Tryz.prog 258 [k,.bH b4 g A] d λe o=>o=d/\ ∃F:Int,e= .v (.int .i64 F)/\decide (0<=F)=a.any h:=by
 refine bf hm QP a9s ?_;have f:=C.len;have i:=D.len;rw[f]at i;refine aa ?_;refine cv (λc o=> ∃b:Nat,b<=a.length/\o=d/\c 0=k/\c 1= .bH b4 g A/\c 7= .v (.int .i64 a.length)/\c 8= .v (.int .i64 b)/\(a.take b).any h=false)
  (λc _=>match c 8 with| .v (.int _ j)=>a.length - j.toNat| _=>0) ⟨0,a9r,rfl,?_⟩ ?_
 .refine aa ?_;simp
 rintro c p ⟨b,v,rfl,G,L,P,S,T⟩;by_cases V:(b:Int)<(a.length:Int)
 .have r:a[b]? =some a[b]:=a4J a9r;have l:a.take (b+1)=a.take b++ [a[b]]:=by rw[a5Y,r];rfl
  have m:a[b]'a9r∈a:=a5o _;generalize a[b]'a9r=W at r l m;obtain⟨x,n,y⟩:=C.get r;obtain⟨q,w,s⟩:=D.get b x n;have B:dr false 1 p q=some x:=by have t:=s.ld p U.a1 false 1 a9r (by rw[isRow.cells y];omega);rw[t];obtain⟨H,rfl⟩:=y;rfl
  refine aa ?_;refine fJ E.1 (E.2 W x _ y U.a1) ?_;rintro _ p ⟨rfl,rfl⟩;cases I:h W with
  |true=>simp -dsimp -implicitDefEqProofs (disch:=first|omega|assumption|(simp only[aE,Nat.reduceAdd];try omega)) only[go_sem,simprocAttr,-List.reduceReplicate,G,L,P,S,V];refine⟨_,U.a1,rfl,_,rfl,?_⟩;grind
  |false=>refine aa ?_;grind
 .obtain rfl:b=a.length:=a9r;simp -dsimp -implicitDefEqProofs (disch:=first|omega|assumption|(simp only[aE,Nat.reduceAdd];try omega)) only[go_sem,simprocAttr,-List.reduceReplicate,G,L,P,S,V];rw[a5h]at T;exact⟨_,U.a1,rfl,_,rfl,by rw[T];simp⟩
def DD (b:List (List Int)) (c:List R) (d:R) (a:U) (k:az isRow b c) (o:bT a 1 d c) (p:b.length<=1000000000000) {h:List Int->Bool} (r:ha isRow a b4 g A h):
  AC Tryz.prog 180 [d,.bH b4 g A] a λx y=>y=a/\x= .v (.bool (b.any h)):=by
 refine bf hm OG a9s ?_;refine aa ?_;refine ai (Yw b c d a k o p r) ?_;rintro _ C ⟨rfl,D,rfl,z⟩;simp -dsimp -implicitDefEqProofs (disch:=first|omega|assumption|(simp only[aE,Nat.reduceAdd];try omega)) only[go_sem,simprocAttr,-List.reduceReplicate];exact⟨_,U.a1,rfl,by rw[z]⟩
def Yx (d:Int) (b:List Int) (h:R) (r:isRow b h) (a:U) (k:Nat) (o:a.read k=some [.v (.int .i64 d)]):
  AC Tryz.prog 232 [h,.ptr k 0] a λx y=>y=a/\x= .v (.bool (!decide ((b.length:Int)=d))):=by
 obtain⟨z,rfl⟩:=r;refine bf hm Q1 a9s ?_;have p:=bI (q:=b);by_cases c:(b.length:Int)=d
 .simp -dsimp -implicitDefEqProofs (disch:=first|omega|assumption|(simp only[aE,Nat.reduceAdd];try omega)) only[go_sem,simprocAttr,-List.reduceReplicate,p,o,c];exact⟨a,U.a1,by simp[c]⟩
 .simp -dsimp -implicitDefEqProofs (disch:=first|omega|assumption|(simp only[aE,Nat.reduceAdd];try omega)) only[go_sem,simprocAttr,-List.reduceReplicate,p,o,c];exact⟨a,U.a1,by simp[c]⟩
def qO (a:Int) (b:List (List Int)):Bool:=decide (1<=a)&&decide (a<=8)&&b.all λc=>decide ((c.length:Int)=a)
def DE (a:Int) (c:List (List Int)) (k:List R) (o:R) (b:U) (y:az isRow c k) (z:bT b 1 o k) (C:c.length<=1000000000000):
  AC Tryz.prog 153 [.v (.int .i64 a),o] b λp r=>r=b/\p= .v (.bool (qO a c)):=by
 refine bf hm NK a9s ?_;refine aa ?_;refine aP λd D=> ?_;have h:=U.ae (Y:= .cells [.v (.int .i64 a)]) (U.a1 (f:=b)) D;have c2:(b.set d (.cells [.v (.int .i64 a)])) d=some (.cells [.v (.int .i64 a)]):=U.ah _ _ _;unfold qO;by_cases h1:1<=a
 .by_cases x:a<=8
  .refine aa ?_;refine ai (DD c k o _ y (z.mono h) C (b4:=232) (g:= []) (A:= [.ptr d 0]) (h:=λp=> !decide ((p.length:Int)=a)) ⟨a9w,λE F r G L=>Yx a E F G r d (U.af (L _ _ c2))⟩) ?_;rintro _ _ ⟨rfl,rfl⟩;simp -dsimp -implicitDefEqProofs (disch:=first|omega|assumption|(simp only[aE,Nat.reduceAdd];try omega)) only[go_sem,simprocAttr,-List.reduceReplicate];refine⟨b,h,rfl,?_⟩;rw[List.any_eq_not_all_not];simp[h1,x]
  .simp -dsimp -implicitDefEqProofs (disch:=first|omega|assumption|(simp only[aE,Nat.reduceAdd];try omega)) only[go_sem,simprocAttr,-List.reduceReplicate,h1,x];exact⟨b,h,by simp[x]⟩
 .simp -dsimp -implicitDefEqProofs (disch:=first|omega|assumption|(simp only[aE,Nat.reduceAdd];try omega)) only[go_sem,simprocAttr,-List.reduceReplicate,h1];exact⟨b,h,by simp[h1]⟩
theorem xG (a:Nat) (h:a<=1000000000000) (b:U):AC Tryz.prog 246 [.v (.int .i64 (a:Int))] b λc d=>d=b/\c= .v (.int .i64 (a6.bV a:Int)):=by refine bf hm Qs a9s ?_;simp -dsimp -implicitDefEqProofs (disch:=first|omega|assumption|(simp only[aE,Nat.reduceAdd];try omega)) only[go_sem,simprocAttr,-List.reduceReplicate];refine⟨b,U.a1,rfl,?_⟩;grind[a6.bV,wrap_i64]
def dv (a:ag) (c:Nat) (b:c5):Except Int ay×ag:=
 match fK c b with
 |none=>(.error 1,a)
 |some d=>(.ok d,eO a (dc b))
def dH (a:List (List Int)):c5:=⟨2,a.map λb=>(b,true),[]⟩
def ek (a:List ay):c5:=⟨3,[],a⟩
abbrev dY (a b:Nat):R:= .agg [.ptr a 0,.v (.int .i64 (b:Int))]
def hd (d:Except Int ay) (b:R):Prop:=
 match d with
 | .error c=>c≠0/\b= .aL [.agg (ab aA .nil .nil .nil),.v (.int .i64 c)]
 | .ok a=>a.sum.length=32/\a.cF/\ ∃h k o,b= .aL [.agg (ab a h k o),.v (.int .i64 0)]
variable{n b3:R}
def hd.shape {k:Except Int ay} (o:hd k n): ∃a b c d h,a.sum.length=32/\n= .aL [.agg (ab a b c d),.v (.int .i64 h)]:=by
 cases k with
 |error h=>exact⟨aA,_,_,_,h,bl,o.2⟩
 |ok a=>obtain⟨p,_,b,c,d,r⟩:=o;exact⟨a,b,c,d,0,p,r⟩
variable{f t e7:U}{e i v M c0 j0:Nat}{H:ag}
def bC.cH (a:bC f i v H) (b:f e=none):e≠i/\e≠v:=by
 refine⟨?_,?_⟩
 .rintro rfl;obtain⟨_,_,a⟩:=a.at_;rw[a]at b;cases b
 .rintro rfl;obtain⟨_,⟨_,_,a,_⟩,_⟩:=a.mp;rw[a]at b;cases b
theorem bC.set {c:U}{l a b:Nat}{d:ag}{ob:bq} (k:bC c l a d) (h:b≠l/\b≠a):bC (c.set b ob) l a d:=k.other (U.an _ _ (a4S h.1)) (U.an _ _ (a4S h.2))
def xH (d:U) (h k:Nat) (o:ag) (C:bC d h k o) (c:c5) (D E:List R) (r x:R) (b:Nat) (G:1<=b) (y:b<=8) (L:fC d c r x D E):
  AC Tryz.prog 233 [.ptr h 0,gQ c r x,.v (.int .i64 (b:Int))] d λF z=>bC z h k (dv o b c).2/\Ext h k d z/\hd (dv o b c).1 F:=by
 refine(Yk d h k o C c D E r x b G y L).mono λF z a=> ?_;unfold dv;cases p:fK b c with
 |none=>rw[p]at a;exact⟨C.mono a.1,Ext.of a.1,a9v,a.2⟩
 |some P=>rw[p]at a;exact⟨a.1,a.2.1,(uq y p).1,Dj y p,a.2.2⟩
theorem xI (d:U) (o t:Nat) (u:ag) (C:bC d o t u) (a:List (List Int)) (e:List R) (w:R) (k:Nat) (O:1<=k) (P:k<=8) (v:az isRow a e) (D:bT d 1 w e) (Q:a.length<=100000):
  AC Tryz.prog 155 [dY o k,w] d λi l=>bC l o t (dv u k (dH a)).2/\Ext o t d l/\hd (dv u k (dH a)).1 i:=by
 refine bf hm NO a9s ?_;have x: ∀b,(R.agg b).cells=b:=λ_=>rfl;have A: ∀b c f g h s:R,putAt [b,c,f] 0 [g,h,s]= [g,h,s]:=λ_ _ _ _ _ _=>rfl;have B: ∀b c f g:R,putAt [b,c,f] 0 [g]= [g,c,f]:=λ_ _ _ _=>rfl;have S: ∀b c f g:R,putAt [b,c,f] 1 [g]= [b,g,f]:=λ_ _ _ _=>rfl;have E: ∀b c f:R,[b,c,f].length=3:=λ_ _ _=>rfl;have h: ∀b c f:R,List.take 3 [b,c,f]= [b,c,f]:=λ_ _ _=>rfl;have z:=D.len;rw[v.len]at z;refine aa ?_;refine aP λr G=> ?_;refine aa ?_;refine aP λq j=> ?_;refine aa ?_;refine aP λm h=> ?_;have n:r≠q:=by rintro rfl;rw[U.ah]at j;cases j
 have K:q≠m:=by rintro rfl;rw[U.ah]at h;cases h
 have L:r≠m:=by rintro rfl;rw[U.an _ _ n,U.ah]at h;cases h
 have y:d q=none:=by rw[U.an _ _ (a4S n)]at j;exact j
 have j:d m=none:=by simp_all [U.an,a4S]
 obtain⟨p,j⟩: ∃p:U,p=(d.set r (.cells [.ptr o 0,.v (.int .i64 (k:Int))])).set q (.cells (ab aA .nil .nil .nil)):=⟨_,rfl⟩;have F:d.sub p:=by rw[j];exact U.ae (U.ae U.a1 G) y
 have c2:p r=some (.cells [.ptr o 0,.v (.int .i64 (k:Int))]):=by rw[j,U.an _ _ n,U.ah]
 have aM:p q=some (.cells (ab aA .nil .nil .nil)):=by rw[j,U.ah]
 have G:p m=none:=by rw[j];exact h
 have T:=(aX (N:= .nil) (e5:= .nil) (h5:= .nil) bl).len;simp -dsimp -implicitDefEqProofs (disch:=first|omega|assumption|(simp only[aE,Nat.reduceAdd];try omega)) only[go_sem,simprocAttr,-List.reduceReplicate,x,ct,B,E,A,U.set_set,z];rw[<-j]
 let h:R->R:=λb=> .agg [b,.v (.bool true)];have H: ∀d,az di ((a.take d).map λi=>(i,true)) ((e.take d).map h):=by
  have: ∀(a:List (List Int)) (e:List R),az isRow a e->az di (a.map λi=>(i,true)) (e.map h):=by
   intro a
   induction a with
   |nil=>intro e n;cases e with
    |nil=>trivial
    |cons=>exact n.elim
   |cons g a ih=>intro e n;cases e with
    |nil=>exact n.elim
    |cons b e=>exact⟨by obtain⟨j,rfl⟩:=n.1;exact⟨j,rfl⟩,ih e n.2⟩
  exact λd=>this _ _ (v.take d)
 have z: ∀d,((e.take d).map h).length<=100000:=λd=>by rw[a4V,a4N,v.len];omega
 have I: ∀ {l:U}{f a j},bj (p.set m (.cells f)) l 2 a j->l r=some (.cells [.ptr o 0,.v (.int .i64 (k:Int))])/\l q=some (.cells (ab aA .nil .nil .nil))/\l m=some (.cells f):=λn=>⟨n.sub _ _ (by rw[U.an _ _ L];exact c2),n.sub _ _ (by rw[U.an _ _ K];exact aM),n.sub _ _ (U.ah _ _ _)⟩;refine cv (λn l=> ∃(d:Nat) (j:Own),d<=a.length/\bj (p.set m (.cells [.v (.int .u8 2),.J ((e.take d).map h) j,.J [] .nil])) l 2 ((e.take d).map h) j/\
   n 2= .ptr r 0/\n 4= .ptr q 0/\n 6= .ptr m 0/\n 10=w/\n 11= .v (.int .i64 a.length)/\n 12= .v (.int .i64 d))
  (λn _=>match n 12 with| .v (.int _ l)=>a.length - l.toNat| _=>0) ⟨0,.nil,a9r,?_,?_⟩ ?_
 .rw[show(e.take 0).map h= []from rfl,U.set_set];exact bj.nil U.a1
 .exact aU
 rintro n r ⟨d,j,l,l,n,p,q,w,z,A⟩;obtain⟨V,W,K⟩:=I l;by_cases L:(d:Int)<a.length
 .have M:a[d]? =some a[d]:=a4J a9r;generalize a[d]'a9r=i at M;obtain⟨b,N,B,rfl⟩:=v.get M;obtain⟨v,M,X⟩:=(D.mono (U.aq F (U.aq (U.ae (Y:= .cells [.v (.int .u8 2),.J ((e.take d).map h) j,.J [] .nil]) U.a1 G) l.sub))).get d _ N;have v:=X.ld r U.a1 false 1 a9r (by simp[R.cells]);have D:aY false 1 (R.J (ad i) B).cells= .J (ad i) B:=rfl;rw[D]at v;have D:(e.take (d+1)).map h=(e.take d).map h++ [.agg [.J (ad i) B,.v (.bool true)]]:=by rw[a5Y,N,a5P];rfl
  have N: ∀b c f:R,aY false 1 ([b,c,f].drop 1)=c:=λ_ _ _=>rfl;have X: ∀b c g:R,putAt [b,c] 0 [g]= [g,c]:=λ_ _ _=>rfl;have Y: ∀b c g:R,putAt [b,c] 1 [g]= [b,g]:=λ_ _ _=>rfl;have Z: ∀b c:R,[b,c].length=2:=λ_ _=>rfl;have j9: ∀c:Bool,(R.v (.bool c)).cells= [.v (.bool c)]:=λ_=>rfl;have B: ∀(s:List R) (g:Own),(R.J s g).cells= [.J s g]:=λ_ _=>rfl;simp -dsimp -implicitDefEqProofs (disch:=first|omega|assumption|(simp only[aE,Nat.reduceAdd];try omega)) only[go_sem,simprocAttr,-List.reduceReplicate,n,p,q,w,z,A,L,M,v,U.af K,N,X,Y,Z,j9,B];refine cJ U.a1 (by simp[aN,R.cells]) λg g g=> ?_;refine aa ?_;refine dq (l.mono g.sub) ((H d).cells λ_ _=>di.cells) (by simp[aN,R.cells]) (by grind) (by grind) λs g g=> ?_;rw[<-D]at g|-;obtain⟨v,v,D⟩:=I g;simp -dsimp -implicitDefEqProofs (disch:=first|omega|assumption|(simp only[aE,Nat.reduceAdd];try omega)) only[go_sem,simprocAttr,-List.reduceReplicate,n,p,q,w,z,A,U.aJ D,B,S,E];have B:=g.set (l:=m) (ob:= .cells [.v (.int .u8 2),.J ((e.take (d+1)).map h) s,.J [] .nil]) (U.ah _ _ _);rw[U.set_set]at B;exact⟨⟨d+1,s,a9r,B,a9s⟩,a9r⟩
 .obtain rfl:d=a.length:=a9r;have d: ∀b c f,aY true 3 [b,c,f]= .agg [b,c,f]:=λ_ _ _=>rfl;have b:=H a.length;rw[a5h]at b;have f:=U.aq F (U.aq (U.ae (Y:= .cells [.v (.int .u8 2),.J ((e.take a.length).map h) j,.J [] .nil]) U.a1 G) l.sub);have c:fC r (dH a) (.J ((e.take a.length).map h) j) (.J [] .nil) ((e.take a.length).map h) []:=by
   refine⟨b,trivial,bT.J (b.cells λ_ _=>di.cells),bT.J (by simp[aN]),?_,?_⟩
   .simp only[dH,a4V];exact Q
   .simp[dH]
  simp -dsimp -implicitDefEqProofs (disch:=first|omega|assumption|(simp only[aE,Nat.reduceAdd];try omega)) only[go_sem,simprocAttr,-List.reduceReplicate,n,p,q,w,z,A,L,U.af V,U.af K,d,x];have b:=xH r o t u (C.mono f) (dH a) _ _ _ _ k O P c;refine ai b ?_;rintro i a ⟨k,e,g⟩;have a:=C.cH y;have v:=e _ _ a.1 a.2 W;obtain⟨h,b,c,d,i,i,rfl⟩:=g.shape;have j:=aX (N:=b) (e5:=c) (h5:=d) i;have l:=j.len;have m:putAt (ab aA .nil .nil .nil) 0 (ab h b c d)=ab h b c d:=cG bl i;simp -dsimp -implicitDefEqProofs (disch:=first|omega|assumption|(simp only[aE,Nat.reduceAdd];try omega)) only[go_sem,simprocAttr,-List.reduceReplicate,n,p,q,x,U.aJ v,m,l,T,j.t37];exact⟨_,U.a1,k.set a,((Ext.of f).trans e).set y,g⟩
def DF (a:U) (d i:Nat) (j:ag) (n:bC a d i j) (e:List ay) (k:List R) (l:R) (b:Nat) (s:1<=b) (t:b<=8) (u:az bt e k) (o:bT a 37 l k) (v:e.length<=100000):
  AC Tryz.prog 243 [dY d b,l] a λp c=>bC c d i (dv j b (ek e)).2/\Ext d i a c/\hd (dv j b (ek e)).1 p:=by
 refine bf hm Qm a9s ?_;have q: ∀c,(R.agg c).cells=c:=λ_=>rfl;have w: ∀f c g h:R,putAt [f,c,g] 0 [h]= [h,c,g]:=λ_ _ _ _=>rfl;have x: ∀f c g h:R,putAt [f,c,g] 2 [h]= [f,c,h]:=λ_ _ _ _=>rfl;have y: ∀f c g:R,[f,c,g].length=3:=λ_ _ _=>rfl;have z:=(aX (N:= .nil) (e5:= .nil) (h5:= .nil) bl).len;refine aa ?_;refine aP λm A=> ?_;refine aa ?_;refine aP λf c=> ?_;have r:m≠f:=by rintro rfl;rw[U.ah]at c;cases c
 have g:a f=none:=by rw[U.an _ _ (a4S r)]at c;exact c
 obtain⟨c,h⟩: ∃c:U,c=(a.set m (.cells [.ptr d 0,.v (.int .i64 (b:Int))])).set f (.cells (ab aA .nil .nil .nil)):=⟨_,rfl⟩;have m:a.sub c:=by rw[h];exact U.ae (U.ae U.a1 A) g
 have aM:c f=some (.cells (ab aA .nil .nil .nil)):=by rw[h,U.ah]
 simp -dsimp -implicitDefEqProofs (disch:=first|omega|assumption|(simp only[aE,Nat.reduceAdd];try omega)) only[go_sem,simprocAttr,-List.reduceReplicate,q,ct,w,x,y,o.one,U.an,r,U.ah];rw[<-h];have a:fC c (ek e) (.J [] .nil) l [] k:=⟨trivial,u,bT.J (by simp[aN]),o.mono m,by simp[ek],v⟩;refine ai (xH c d i j (n.mono m) (ek e) _ _ _ _ b s t a) ?_;rintro p a ⟨k,e,f⟩;have a:=n.cH g;have l:=e _ _ a.1 a.2 aM;obtain⟨h,b,c,d,i,i,rfl⟩:=f.shape;have j:=aX (N:=b) (e5:=c) (h5:=d) i;have n:=j.len;have o:putAt (ab aA .nil .nil .nil) 0 (ab h b c d)=ab h b c d:=cG bl i;simp -dsimp -implicitDefEqProofs (disch:=first|omega|assumption|(simp only[aE,Nat.reduceAdd];try omega)) only[go_sem,simprocAttr,-List.reduceReplicate,q,U.aJ l,o,n,z,j.t37];exact⟨_,U.a1,k.set a,((Ext.of m).trans e).set g,f⟩
def xJ (a:c5) (c d:List R) (f e:R) (b:U) (n:fC b a f e c d):
  AC Tryz.prog 236 [gQ a f e] b λc i=> ∃d,az isRow (a.rows.map Prod.fst) d/\ar b i 1 (flat d) c:=by
 refine bf hm Q9 a9s ?_;have o: ∀g,(R.agg g).cells=g:=λ_=>rfl;have k:=n.hb;have g:=n.kC;refine ax @o ?_;refine aP λh l=> ?_;obtain⟨g,j⟩: ∃g:U,g=b.set h (.cells [.v (.int .u8 (a.kind.toNat:Int)),f,e]):=⟨_,rfl⟩;have r:b.sub g:=by rw[j];exact U.ae U.a1 l
 have l:g h=some (.cells [.v (.int .u8 (a.kind.toNat:Int)),f,e]):=by rw[j,U.ah]
 have u:=n.lR.mono r;refine ax (aI @o @U.ah @k) ?_;rw[show b.set h (.cells (gQ a f e).cells)=g from j.symm];refine cv (λe i=> ∃(b:Nat) (c:R) (d:List R),b<=a.rows.length/\az isRow ((a.rows.take b).map Prod.fst) d/\ar g i 1 (flat d) c/\e 1= .ptr h 0/\e 3=c/\e 7=f/\e 8= .v (.int .i64 a.rows.length)/\e 9= .v (.int .i64 b))
  (λe _=>match e 9 with| .v (.int _ f)=>a.rows.length - f.toNat| _=>0) ⟨0,.J [] .nil,[],a9r,trivial,ar.nil U.a1,?_⟩ ?_
 .exact nZ
 rintro e v ⟨b,c,d,e,h,p,i,j,k,l,m⟩;by_cases s:(b:Int)<a.rows.length
 .have q:a.rows[b]? =some a.rows[b]:=a4J a9r;have t:a.rows.take (b+1)=a.rows.take b++ [a.rows[b]]:=by rw[a5Y,q];rfl
  generalize a.rows[b]'a9r=e at q t;obtain⟨g,w,f,rfl⟩:=n.rows.get q;obtain⟨n,x,q⟩:=u.get b _ w;have n:=q.ld v p.1 true 2 a9r (by simp[R.cells]);have w:aY true 2 (R.agg [.J (ad e.1) f,.v (.bool e.2)]).cells= .agg [.J (ad e.1) f,.v (.bool e.2)]:=rfl;have q: ∀c g u v:R,putAt [c,g] 0 [u,v]= [u,v]:=λ_ _ _ _=>rfl;have u: ∀c g:R,[c,g].length=2:=λ_ _=>rfl;have v: ∀c g:R,aY false 1 [c,g]=c:=λ_ _=>rfl;rw[w]at n;refine ax (iz @i @j @k @l @m @s @x @n @o @q @u) ?_;refine aP λc c=> ?_;have g:=ar.mono p (U.ae (Y:= .cells [.J (ad e.1) f,.v (.bool e.2)]) U.a1 c);refine ax (iz @i @j @k @l @m @o @q @u @v @U.set_set @U.ah) ?_;refine eT (by simp[aN,R.cells]) a9s λc c=> ?_;have n:=ar.mono g (U.ae (Y:= .cells (flat [R.J (ad e.1) f])) U.a1 c);have g:az isRow ((a.rows.take b).map Prod.fst++ [e.1]) (d++ [R.J (ad e.1) f]):=h.snoc ⟨_,rfl⟩;have c:(flat d).length=b:=by rw[dh (h.cells λ_ _=>isRow.cells),h.len];simp;omega
  refine ax (bp @i @j @k @l @m) ?_;refine fk n a9r (ot rfl) rfl (by rw[c];simp[flat,R.cells];omega) (by rw[c];simp[flat,R.cells];omega) λn c c=> ?_;have o:flat d++flat [R.J (ad e.1) f]=flat (d++ [R.J (ad e.1) f]):=by simp[flat]
  rw[o]at c;refine ax (bp @i @j @k @l @m) ?_;refine⟨⟨b+1,n,_,a9r,?_,c,a9s⟩,a9r⟩;rw[t,a5P];exact g
 .obtain rfl:b=a.rows.length:=a9r;rw[a5h]at h;refine ax (bD @i @j @k @l @m @s) ?_;exact⟨_,U.a1,d,h,p.base r⟩
def iI (b:ag) (c:Nat) (d:ay):Option c5:=
 match fq b c d with
 |none=>none
 |some a=>if a.kind=2\/a.kind=3 then some a else none
theorem xK (b:U) (o y:Nat) (p:ag) (C:bC b o y p) (g:ay) (q r s:Own) (z:g.sum.length=32) (D:g.cF) (h:Nat) (E:1<=h) (F:h<=8):
  AC Tryz.prog 234 [dY o h,.agg (ab g q r s)] b λt i=>b.sub i/\match iI p h g with
   |none=>t= .aL [xz,.v (.int .i64 21)]
   |some a=> ∃d e,t= .aL [gQ a d e,.v (.int .i64 0)]/\hy b i a d e:=by
 refine bf hm Q5 a9s ?_;have c: ∀f,(R.agg f).cells=f:=λ_=>rfl;have j: ∀f k l d e m:R,putAt [f,k,l] 0 [d,e,m]= [d,e,m]:=λ_ _ _ _ _ _=>rfl;have n: ∀f k l,aY true 3 [f,k,l]= .agg [f,k,l]:=λ_ _ _=>rfl;have m: ∀f k l:R,[f,k,l].length=3:=λ_ _ _=>rfl;have A:=aX (N:=q) (e5:=r) (h5:=s) z;have u:=A.len;refine ax @c ?_;refine aP λv f=> ?_;refine ax (c2 @c @u) ?_;refine aP λl f=> ?_;have w:v≠l:=by rintro rfl;rw[U.ah]at f;cases f
 have k:b l=none:=by rw[U.an _ _ (a4S w)]at f;exact f
 refine ax (c2 @c @u) ?_;refine aP λf k=> ?_;have G:l≠f:=by rintro rfl;rw[U.ah]at k;cases k
 have H:v≠f:=by rintro rfl;rw[U.an _ _ w,U.ah]at k;cases k
 have I:b f=none:=by simp_all [U.an,a4S]
 obtain⟨k,B⟩: ∃k:U,k=((b.set v (.cells [.ptr o 0,.v (.int .i64 (h:Int))])).set l (.cells (ab g q r s))).set f (.cells [.v (.int .u8 0),.J [] .nil,.J [] .nil]):=⟨_,rfl⟩;have v:b.sub k:=by grind[U.ae,U.a1]
 have aM:k f=some (.cells [.v (.int .u8 0),.J [] .nil,.J [] .nil]):=by rw[B,U.ah]
 have l: ∀(i:U) (x:bq),b.sub i->b.sub (i.set f x):=λi x x=>U.ae x I;refine ax (bw @c @u @U.an @w @H @G @U.ah A.t37) ?_;rw[<-B];refine ai (xA k o y p (C.mono v) g q r s z D h E F) ?_;rintro t b ⟨b,k⟩;have r:=U.aq v b;have i:=b _ _ aM;unfold iI;cases q:fq p h g with
 |none=>
  rw[q]at k;obtain rfl:=k;refine ax (aI @c @j @m) ?_;refine aP λo b=> ?_;have g:f≠o:=by rintro rfl;rw[i]at b;cases b
  have h:=a4S g;refine ax (ds @c @j @m @n @U.set_set @U.an @g @h (U.aJ i)) ?_;grind[U.a1,U.aq,U.ae]
 |some a=>
  rw[q]at k;obtain⟨d,e,rfl,p⟩:=k;simp -dsimp -implicitDefEqProofs (disch:=first|omega|assumption|(simp only[aE,Nat.reduceAdd];try omega)) only[go_sem,simprocAttr,-List.reduceReplicate,c,j,m,n];refine aP λo b=> ?_;have g:f≠o:=by rintro rfl;rw[i]at b;cases b
  have h:=a4S g;have f:=(p.mono (U.ae (Y:= .cells [.v (.int .u8 (a.kind.toNat:Int)),d,e]) U.a1 b)).set (ob:= .cells [.v (.int .u8 (a.kind.toNat:Int)),d,e]) aM;have k:=f.base (l _ _ v);have f:=U.aq r (U.ae (Y:= .cells [.v (.int .u8 (a.kind.toNat:Int)),d,e]) U.a1 b);have b:=iG a.kind 2 a9r;have d:=iG a.kind 3 a9r;simp only[a7R]at b d;simp only;by_cases d:a.kind=2
  .have b:((a.kind.toNat:Int)=2)=True:=by rw[d];simp
   refine ax (iz @c @j @m @n @U.set_set @U.ah @U.an @g @h (U.aJ i) @b) ?_;refine⟨_,U.a1,l _ _ f,?_⟩;grind
  .have b: ¬(a.kind.toNat:Int)=2:=λx=>d (by simp_all);by_cases e:a.kind=3
   .have d:((a.kind.toNat:Int)=3)=True:=by rw[e];simp
    refine ax (jd @c @j @m @n @U.set_set @U.ah @U.an @g @h (U.aJ i) @b @d) ?_;refine⟨_,U.a1,l _ _ f,?_⟩;grind
   .have d: ¬(a.kind.toNat:Int)=3:=λx=>e (by simp_all);refine ax (jd @c @j @m @n @U.set_set @U.ah @U.an @g @h (U.aJ i) @b @d) ?_;refine⟨_,U.a1,l _ _ f,?_⟩;simp_all
def xL (k:c5) (L P:List R) (d h:R) (o:U) (S:fC o k d h L P):
  AC Tryz.prog 248 [gQ k d h] o λi j=> ∃a r,i= .agg [.v (.bool (decide (k.kind=2))),a,h]/\az isRow (k.rows.map Prod.fst) r/\ar o j 1 (flat r) a:=by
 refine bf hm Qv a9s ?_;have x: ∀T,(R.agg T).cells=T:=λ_=>rfl;have V: ∀a b c,aY true 3 [a,b,c]= .agg [a,b,c]:=λ_ _ _=>rfl;have l: ∀a b c:R,[a,b,c].length=3:=λ_ _ _=>rfl;have m: ∀a b c d h W:R,putAt [a,b,c] 0 [d,h,W]= [d,h,W]:=λ_ _ _ _ _ _=>rfl;have n: ∀a b c d:R,putAt [a,b,c] 0 [d]= [d,b,c]:=λ_ _ _ _=>rfl;have q: ∀a b c d:R,putAt [a,b,c] 1 [d]= [a,d,c]:=λ_ _ _ _=>rfl;have s: ∀a b c d:R,putAt [a,b,c] 2 [d]= [a,b,d]:=λ_ _ _ _=>rfl;have t: ∀b:Bool,(R.v (.bool b)).cells= [.v (.bool b)]:=λ_=>rfl;have u: ∀a b c:R,aY false 1 ([a,b,c].drop 2)=c:=λ_ _ _=>rfl;have e: ∀a b c:R,List.take 3 [a,b,c]= [a,b,c]:=λ_ _ _=>rfl;refine ax @x ?_;refine aP λE v=> ?_;refine ax @x ?_;refine aP λy z=> ?_;have F:E≠y:=by rintro rfl;rw[U.ah]at z;cases z
 have f:o y=none:=by rw[U.an _ _ (a4S F)]at z;exact z
 obtain⟨p,C⟩: ∃p:U,p=(o.set E (.cells [.v (.int .u8 (k.kind.toNat:Int)),d,h])).set y (.cells [.v (.bool false),.J [] .nil,.J [] .nil]):=⟨_,rfl⟩;have g:o.sub p:=by rw[C];exact U.ae (U.ae U.a1 v) f
 have w:p E=some (.cells [.v (.int .u8 (k.kind.toNat:Int)),d,h]):=by rw[C,U.an _ _ F,U.ah]
 have c2:p y=some (.cells [.v (.bool false),.J [] .nil,.J [] .nil]):=by rw[C,U.ah]
 have G:=iG k.kind 2 a9r;simp only[a7R]at G;have A:UInt8.ofNat 2=2:=rfl;rw[A]at G;refine ax (bD @x @U.an @F @U.ah @V @e) ?_;rw[<-C];refine ai (xJ k L P d h p (S.mono g)) ?_;rintro a N ⟨r,B,D⟩;have H:=D.1 _ _ w;have I:=D.1 _ _ c2;have K:a.cells= [a]:=fL D;have M:=S.gX.one;refine ax (p8 @x (U.af H) (U.aJ I) @V @e @u @t @K @M @n @q @s @l @m @G) ?_;refine⟨_,U.a1,a,r,rfl,B,?_⟩;exact(jQ D c2).base (U.ae g f)
theorem Yy (h:R) (c d:R) (a b:Nat) (E:c.cells= [c]) (F:d.cells= [d]) (G:h.cells= [h]) (r:fg c=some (.v (.int .i64 (a:Int)))) (x:fg d=some (.v (.int .i64 (b:Int)))) (L:a<=1000000000000) (P:b<=1000000000000) (k:U):
  AC Tryz.prog 312 [.agg [h,c,d]] k λy z=>z=k/\y= .v (.bool (decide (a+b<2))):=by
 refine bf hm RO a9s ?_;have o: ∀p,(R.agg p).cells=p:=λ_=>rfl;refine ax @o ?_;refine aP λS C=> ?_;refine ax (aI @o @r @x) ?_;have D:decide ((a:Int)+b<2)=decide (a+b<2):=by grind
 exact⟨k,U.ae U.a1 C,rfl,by rw[D]⟩
def mh (a:ag) (b:Nat) (c:Bool) (d:List (List Int)) (h:List ay):Except Int ay×ag:=if c=true then dv a b (dH d)else dv a b (ek h)
theorem DG (a:U) (b d:Nat) (m:ag) (w:bC a b d m) (h:Bool) (i:List (List Int)) (p:List R) (o:R) (n:List ay) (x:List R) (t:R) (c:Nat) (D:1<=c) (E:c<=8) (r:az isRow i p) (s:bT a 1 o p) (A:i.length<=100000) (M:az bt n x) (N:bT a 37 t x) (O:n.length<=100000):
  AC Tryz.prog 161 [dY b c,.agg [.v (.bool h),o,t]] a λj e=>bC e b d (mh m c h i n).2/\Ext b d a e/\hd (mh m c h i n).1 j:=by
 refine bf hm O0 a9s ?_;have e: ∀f,(R.agg f).cells=f:=λ_=>rfl;have F:=(aX (N:= .nil) (e5:= .nil) (h5:= .nil) bl).len;have G: ∀f g:R,List.take 2 [f,g]= [f,g]:=λ_ _=>rfl;have H: ∀f g,aY true 2 [f,g]= .agg [f,g]:=λ_ _=>rfl;refine ax @e ?_;refine aP λl f=> ?_;refine ax @e ?_;refine aP λk f=> ?_;have u:l≠k:=by rintro rfl;rw[U.ah]at f;cases f
 have g:a k=none:=by rw[U.an _ _ (a4S u)]at f;exact f
 refine ax (c2 @e @ct) ?_;refine aP λg f=> ?_;have I:k≠g:=by rintro rfl;rw[U.ah]at f;cases f
 have K:l≠g:=by rintro rfl;rw[U.an _ _ u,U.ah]at f;cases f
 have y:a g=none:=by simp_all [U.an,a4S]
 obtain⟨f,z⟩: ∃f:U,f=((a.set l (.cells [.ptr b 0,.v (.int .i64 (c:Int))])).set k (.cells [.v (.bool h),o,t])).set g (.cells (ab aA .nil .nil .nil)):=⟨_,rfl⟩;have k:a.sub f:=by grind[U.ae,U.a1]
 have aM:f g=some (.cells (ab aA .nil .nil .nil)):=by rw[z,U.ah]
 have v:=w.cH y;unfold mh;have L: ∀(a:Except Int ay) (q:ag) (j:R) (l:U),bC l b d q->Ext b d f l->hd a j->l g=some (.cells (ab aA .nil .nil .nil)):=λa q j l _ a _=>a _ _ v.1 v.2 aM;cases h with
 |true=>refine ax (ds @e @ct @U.an @u @K @I @U.ah @G @H) ?_;rw[<-z];refine ai (xI f b d m (w.mono k) i p o c D E r (s.mono k) A) ?_;rintro j l ⟨o,p,a⟩;have A:=L _ _ _ _ o p a;obtain⟨q,g,h,i,P,r,rfl⟩:=a.shape;have s:=aX (N:=g) (e5:=h) (h5:=i) r;have B:=s.len;have C:putAt (ab aA .nil .nil .nil) 0 (ab q g h i)=ab q g h i:=cG bl r;refine ax (bD @e (U.aJ A) @C @B @F s.t37) ?_;exact⟨_,U.a1,o.set v,((Ext.of k).trans p).set y,a⟩
 |false=>refine ax (ds @e @ct @U.an @u @K @I @U.ah @G @H) ?_;rw[<-z];refine ai (DF f b d m (w.mono k) n x t c D E M (N.mono k) O) ?_;rintro j l ⟨o,p,a⟩;have A:=L _ _ _ _ o p a;obtain⟨q,g,h,i,P,r,rfl⟩:=a.shape;have s:=aX (N:=g) (e5:=h) (h5:=i) r;have B:=s.len;have C:putAt (ab aA .nil .nil .nil) 0 (ab q g h i)=ab q g h i:=cG bl r;refine ax (bD @e (U.aJ A) @C @B @F s.t37) ?_;exact⟨_,U.a1,o.set v,((Ext.of k).trans p).set y,a⟩
abbrev hA (a:List Int) (b:c5):Nat:=a6.cW bz a (b.kids.map (·.key))
variable{O:List (List Int)}{q b6:List Int}
def Yz {a:List Int}:a6.cW bz q (a::b6::O)=if bz q b6=true then 0 else a6.cW bz q (b6::O)+1:=rfl
theorem DH (a:c5) (d h:List R) (e f:R) (c:List Int) (m:Own) (b:U) (g:fC b a e f d h):
  AC Tryz.prog 240 [gQ a e f,.J (ad c) m] b λd i=>i=b/\d= .v (.int .i64 (hA c a:Int)):=by
 refine bf hm Qh a9s ?_;have k: ∀d,(R.agg d).cells=d:=λ_=>rfl;have n:=g.uj;have d:=g.iC;refine ax @k ?_;refine aP λh l=> ?_;obtain⟨d,j⟩: ∃d:U,d=b.set h (.cells [.v (.int .u8 (a.kind.toNat:Int)),e,f]):=⟨_,rfl⟩;have o:b.sub d:=by rw[j];exact U.ae U.a1 l
 have c2:d h=some (.cells [.v (.int .u8 (a.kind.toNat:Int)),e,f]):=by rw[j,U.ah]
 have s:=g.gX.mono o;refine ax @k ?_;rw[show b.set h (.cells (gQ a e f).cells)=d from j.symm];refine cv (λe i=> ∃b:Nat,i=d/\hA c a=b+a6.cW bz c ((a.kids.map (·.key)).drop b)/\b<=a.kids.length/\e 1= .J (ad c) m/\e 2= .ptr h 0/\e 5= .v (.int .i64 b))
  (λe _=>match e 5 with| .v (.int _ d)=>a.kids.length - d.toNat| _=>0) ⟨0,rfl,a9s,a9r,?_⟩ ?_
 .exact nZ
 rintro e o ⟨b,rfl,f,d,h,i,j⟩;have p: ∀e k d:R,aY false 1 ([e,k,d].drop 2)=d:=λ_ _ _=>rfl;by_cases q:(b:Int)+1<a.kids.length
 .have r:a.kids[b+1]? =some a.kids[b+1]:=a4J a9r;have d:(a.kids.map (·.key)).drop b=(a.kids[b]'a9r).key::(a.kids[b+1]'a9r).key::(a.kids.map (·.key)).drop (b+2):=by grind[List.drop_eq_getElem_cons,List.length_map]
  have k:(a.kids.map (·.key)).drop (b+1)=(a.kids[b+1]'a9r).key::(a.kids.map (·.key)).drop (b+2):=by rw[a5e (i:=b+1) (by rw[a4V];omega)];simp
  rw[d,Yz,<-k]at f;clear d k;generalize a.kids[b+1]'a9r=d at r f;obtain⟨e,t,u,e,k,l,e,rfl⟩:=g.kids.get r;obtain⟨g,g,r⟩:=s.get (b+1) _ t;have s:=aX (N:=k) (e5:=l) (h5:=e) u;have t:(R.agg (ab d k l e)).cells=ab d k l e:=rfl;rw[t]at r;obtain⟨t,u,t⟩:=r.kZ o U.a1 36 false 1 a9r (by rw[s.len];omega);have r:aY false 1 ((ab d k l e).drop 36)= .J (ad d.key) e:=by rw[s.d36];rfl
  rw[r]at t;have k:((b+1:Nat):Int)=(b:Int)+1:=a9r;rw[k]at g;refine ax (cu @h @i @j (U.af c2) @p @n @q @g @u @t) ?_;refine ai (xB c d.key m e _) ?_;rintro _ o ⟨rfl,rfl⟩;cases e:bz c d.key with
  |true=>rw[if_pos e]at f;refine ax (aM @h @i @j @a5H) ?_;simp_all
  |false=>rw[if_neg (by simp[e])]at f;refine ax (aM @h @i @j @a5y) ?_;grind
 .have d:a6.cW bz c ((a.kids.map (·.key)).drop b)=0:=by
   have c:((a.kids.map (·.key)).drop b).length<=1:=by grind
   generalize (a.kids.map (·.key)).drop b=a at c
   match a,c with
   | [],_=>rfl
   | [_],_=>rfl
  rw[d]at f;refine ax (cd @h @i @j (U.af c2) @p @n @q) ?_;simp_all
def mi (c:List (List Int)) (d:List Int):Nat->Nat->Nat->Nat
 |0,a,_=>a
 |h+1,a,b=>if a<b then(match c[(a+b)/2]? with
  |some k=>if mg k d<0 then mi c d h ((a+b)/2+1) b else mi c d h a ((a+b)/2)
  |none=>a)else a
def eZ (a:List (List Int)) (b:List Int):Nat:=mi a b a.length 0 a.length
def kF (a:List (List Int)) (b:List Int):Bool:=match a[eZ a b]? with|some c=>decide (mg c b=0)|none=>false
theorem DI (b:List (List Int)) (a:List R) (i:R) (d:List Int) (q:Own) (g:U) (t:az isRow b a) (u:bT g 1 i a) (c:b.length<=1000000000000):
  AC Tryz.prog 235 [i,.J (ad d) q,.bH 237 [] []] g λe j=>j=g/\eZ b d<=b.length/\e= .aL [.v (.int .i64 (eZ b d:Int)),.v (.bool (kF b d))]:=by
 refine bf hm Q7 a9s ?_;have a:=u.len;rw[t.len]at a;refine ax @a ?_;have A:gl Tryz.prog 237=true:=a9w;refine cv (λf j=> ∃(h a c:Nat),j=g/\eZ b d=mi b d h a c/\a<=c/\c<=b.length/\c - a<=h/\f 0=i/\f 1= .J (ad d) q/\f 2= .bH 237 [] []/\f 8= .v (.int .i64 b.length)/\f 9= .v (.int .i64 a)/\f 10= .v (.int .i64 c))
  (λf _=>match f 9,f 10 with| .v (.int _ a),.v (.int _ c)=>(c - a).toNat| _,_=>0) ⟨b.length,0,b.length,rfl,rfl,a9r,a9r,a9r,?_⟩ ?_
 .exact nZ
 rintro f r ⟨h,a,c,rfl,i,f,f,f,j,k,l,m,n,o⟩;by_cases v:(a:Int)<(c:Int)
 .obtain⟨f,rfl⟩: ∃f,h=f+1:=⟨h - 1,a9r⟩;have p:a<c:=a9r;have g:(a+c)/2<b.length:=a9r;have f:b[(a+c)/2]? =some b[(a+c)/2]:=a4J g;rw[mi,if_pos p,f]at i;simp only at i;generalize b[(a+c)/2]'g=e at f i;obtain⟨B,w,g,rfl⟩:=t.get f;obtain⟨C,x,y⟩:=u.get _ _ w;have p:=y.ld r U.a1 false 1 a9r (by simp[R.cells]);have z:aY false 1 (R.J (ad e) g).cells= .J (ad e) g:=rfl;rw[z]at p;have s:IntKind.u64.wrap ((a:Int)+c)=((a+c:Nat):Int):=by rw[wrap_u64 a9r a9r];omega
  have D:bo .shr (.int .u64 ((a+c:Nat):Int)) (.int .u64 1)=some (.int .u64 (((a+c)/2:Nat):Int)):=by rw[s4 _ _ _ a9r a9r];simp[a5E]
  have E:IntKind.i64.wrap (((a+c)/2:Nat):Int)=(((a+c)/2:Nat):Int):=wrap_i64 a9r a9r;generalize F:(a+c)/2=F at*;refine ax (jd @j @k @l @m @n @o @v @s @D @E @x @p) ?_;refine fJ A (Dv e d g q _) ?_;rintro _ r ⟨rfl,rfl⟩;by_cases s:mg e d<0
  .rw[if_pos s]at i;refine ax (cd @j @k @l @m @n @o @s) ?_;grind
  .rw[if_neg s]at i;refine ax (cd @j @k @l @m @n @o @s) ?_;grind
 .obtain rfl:a=c:=a9r;have c:eZ b d=a:=by rw[i];cases h<;>simp[mi]
  unfold kF;rw[c];by_cases c:(a:Int)<b.length
  .have f:b[a]? =some b[a]:=a4J a9r;rw[f];generalize b[a]'a9r=e at f;obtain⟨B,w,g,rfl⟩:=t.get f;obtain⟨C,x,y⟩:=u.get _ _ w;have p:=y.ld r U.a1 false 1 a9r (by simp[R.cells]);have z:aY false 1 (R.J (ad e) g).cells= .J (ad e) g:=rfl;rw[z]at p;refine ax (cu @j @k @l @m @n @o @v @c @x @p) ?_;refine fJ A (Dv e d g q _) ?_;rintro _ r ⟨rfl,rfl⟩;refine ax (bD @j @k @l @m @n @o) ?_;exact⟨_,U.a1,rfl,a9r⟩
  .have f:b[a]? =none:=a7D a9r;rw[f];refine ax (bw @j @k @l @m @n @o @v @c) ?_;exact⟨_,U.a1,rfl,a9r⟩
def dd (d h:U) (b c:Nat) (k:ag) (o:Nat) (p:List R) (r:R):Prop:= ∃a,ar a h o p r/\bC a b c k/\Ext b c d a
theorem dd.nil {a:U}{b c h:Nat}{d:ag} (k:bC a b c d):dd a a b c d h [] (.J [] .nil):=⟨a,ar.nil U.a1,k,Ext.refl⟩
def dd.gh (a:dd t f e i H v g n):bC f e i H:=by obtain⟨d,b,c,_⟩:=a;exact c.mono b.1
def dd.ext (a:dd f t e i H v g n):Ext e i f t:=by obtain⟨d,b,_,c⟩:=a;exact c.trans (Ext.of b.1)
theorem dd.of {s:U}{l lM:Nat} (a:ar f s e g n) (b:bC f l lM H) (c:Ext l lM t f):dd t s l lM H e g n:=⟨f,a,b,c⟩
def dd.mono {b c d:U}{h k:Nat}{o:ag}{p:Nat}{r:List R}{a:R} (x:dd b c h k o p r a) (y:c.sub d):dd b d h k o p r a:=by obtain⟨z,C,D⟩:=x;exact⟨z,C.mono y,D⟩
theorem dd.base (a:dd f e7 e i H v g n) (b:Ext e i t f):dd t e7 e i H v g n:=by obtain⟨c,d,h,k⟩:=a;exact⟨c,d,h,b.trans k⟩
theorem dd.step {r x h:U}{a b:Nat}{L y:ag}{z:Nat}{C:List R}{D:R} (P:dd r x a b L z C D) (E:Ext a b x h) (F:bC h a b y):dd r h a b y z C D:=by
 obtain⟨S,⟨T,o⟩,V,W⟩:=P;have e:=F.ne;refine⟨λc=>if c=a then h a else if c=b then h b else S c,⟨λc f d=> ?_,?_⟩,F.other a9s (by simp[a4S e]),λc f ch ca d=> ?_⟩
 .by_cases k:c=a
  .subst k;simpa using d
  .by_cases p:c=b
   .subst p;simpa[k] using d
   .simp only[k,p,if_false]at d;exact E _ _ k p (T _ _ d)
 .rcases o with o|⟨g,i,j,l,m,n,q,s⟩
  .exact .inl o
  .have G:=V.cH n;exact .inr ⟨g,i,j,l,m,by grind,E _ _ G.1 G.2 q,s⟩
 .simp only[ch,ca,if_false];exact W _ _ ch ca d
theorem xM (o:e≠1): ∀ {a:List R},(∀c∈a,∃b,c= .agg b/\b.length=e)->dL e a.length (flat a)=a:=by
 intro a h;have p:aN e a:=λc r=>by obtain⟨b,rfl,x⟩:=h c r;exact x
 unfold dL;rw[if_neg o];refine a8A λd=> ?_;rw[a5l];by_cases aW:d<a.length
 .rw[a7c aW];have k:a[d]? =some a[d]:=a4J aW;have:=D7 p k;obtain⟨b,y,_⟩:=h _ (a5o aW);rw[k,a5O,this,y];rfl
 simp_all
theorem DJ {a:List ay} (b:az bt a g): ∀c∈g,∃d,c= .agg d/\d.length=37:=by intro c k;obtain⟨o,p,rfl⟩:=a5A k;have z:=b.len;obtain⟨C,h,r⟩:=b.get (a4J (l:=a) (i:=o) a9r);rw[a4J p]at h;obtain rfl:=a4I h;obtain⟨x,_,D,E,F,y⟩:=r;exact⟨_,y,(aX x).len⟩
def dd.view (d:dd f t e i H v g n): ∃b a,g.length=b*v/\View t n a (.J (dL v b g) .any)/\bC a e i H/\Ext e i f a:=by obtain⟨x,h,k,o⟩:=d;obtain⟨b,a,p,c,r⟩:=View.dW h;exact⟨b,a,p,r,k.mono c,o.trans (Ext.of c)⟩
theorem dd.uu {b:List ay} (c:dd f t e i H 37 (flat g) n) (d:az bt b g): ∃a,View t n a (.J g .any)/\bC a e i H/\Ext e i f a:=by obtain⟨k,a,h,o,p⟩:=c.view;rw[dh (d.cells λ_ _=>bt.cells)]at h;grind[xM,DJ]
theorem ar.uu {b:List ay} (c:ar f t 37 (flat g) n) (d:az bt b g): ∃a,View t n a (.J g .any)/\f.sub a:=by obtain⟨k,a,h,o,p⟩:=View.dW c;rw[dh (d.cells λ_ _=>bt.cells)]at h;grind[xM,DJ]
theorem nj (a:az isRow O g):flat g=g:=by
 induction O generalizing g with
 |nil=>cases g with
  |nil=>rfl
  |cons=>exact a.elim
 |cons b O ih=>cases g with
  |nil=>exact a.elim
  |cons c g=>obtain⟨d,rfl⟩:=a.1;have:=ih a.2;simp only[flat,a5n]at this|-;rw[this];rfl
theorem ar.DK (b:ar f t 1 (flat g) n) (c:az isRow O g): ∃a,View t n a (.J g .any)/\f.sub a:=by grind[View.dW,nj,kz,List.take_of_length_le]
def ez {c:Type} (d:List c->c5) (h:Nat):ag->List (List c)->List ay->Except Int (List ay)×ag
 |a,[],acc=>(.ok acc,a)
 |a,k::gs,acc=>
  match dv a h (d k)with
  |(.error o,b)=>(.error o,b)
  |(.ok p,b)=>ez d h b gs (acc++ [p])
def YA (d:Except Int (List ay)) (a:R):Prop:=
 match d with
 | .error b=>b≠0/\a= .aL [.J [] .nil,.v (.int .i64 b)]
 | .ok bJ=> ∃c h,az bt bJ c/\a= .aL [.J c h,.v (.int .i64 0)]
variable{b0:Type}
def hB (b:b0->R->Prop) (c:List b0) (d:R):Prop:= ∃a h,d= .J a h/\az b c a
theorem hB.cells {a:Type}{c:a->R->Prop}{d:List a}{b:R} (h:hB c d b):b.cells.length=1:=by obtain⟨_,_,rfl,_⟩:=h;rfl
theorem az.xN {b:b0->R->Prop}{a:List b0} (c:az b a []):a= []:=by cases a with|nil=>rfl|cons=>exact c.elim
def DL (a:0<e) (c:i<=100000):i/e+(if 0<i%e then 1 else 0)<=i:=by
 have d:=a7M i e;by_cases b:0<i%e
 .rw[if_pos b];have:i/e<=e*(i/e):=a8T _ a;omega
 .rw[if_neg b];have:i/e<=e*(i/e):=a8T _ a;omega
def DM (d:List (List Int)) (a:List R) (h:Own) (c:U) (k:az isRow d a) (L:d.length<=100000):
  AC Tryz.prog 311 [.J a h] c λp r=> ∃o,bj c r 1 a o/\p= .J a o:=by
 refine mU λx=> ?_;have y:h= .nil->a= []:=λz=>by subst z;simpa using x a a9s
 refine bf hm RK a9s ?_;simp -dsimp -implicitDefEqProofs (disch:=first|omega|assumption|(simp only[aE,Nat.reduceAdd];try omega)) only[go_sem,simprocAttr,-List.reduceReplicate,↓o9];refine oa (λb=>by rw[y b]) (λb=> ?_) ?_
 .have C:a= []:=by simpa using b
  subst C;refine ax @a5y ?_;exact⟨c,U.a1,.nil,bj.nil U.a1,rfl⟩
 .refine cp ?_;refine cJ U.a1 (by simp[aN]) λP S D=> ?_;refine cp ?_;have T:=k.len;refine dq (g:= []) D (λ_ b=>by cases b) (k.cells λ_ _=>isRow.cells) (by rw[a4T];omega) (by rw[a4T];omega) λE F G=> ?_;refine ax @a5d.{0} ?_;exact⟨F,U.a1,E,by simpa using G,rfl⟩
theorem YB (f:List (List Int)) (g:List R) (j:Own) (c:Nat) (h:U) (k:az isRow f g) (l:f.length<=100000) (a:c<=100000):
  AC Tryz.prog 303 [.J g j,.v (.int .i64 (c:Int))] h λa i=>h.sub i/\ ∃gs b,a= .J gs b/\az (hB isRow) (a6.eY c f) gs:=by
 refine bf hm RG a9s ?_;refine cp ?_;refine cv (λa i=> ∃(d:Nat) (b:List (List Int)) (e:List R) (n:Own) (gs:List R) (p:Own) (o:List (List (List Int))),d<=c/\o++a6.eY (c - d) b=a6.eY c f/\az isRow b e/\b.length<=100000/\o.length=d/\az (hB isRow) o gs/\bj h i 1 gs p/\
   a 0= .J e n/\a 1= .v (.int .i64 c)/\a 5= .J gs p/\a 8= .v (.int .i64 c)/\a 9= .v (.int .i64 d))
  (λa _=>match a 9 with| .v (.int _ h)=>c - h.toNat| _=>0) ⟨0,f,g,j,[],.nil,[],a9r,rfl,k,l,rfl,trivial,bj.nil U.a1,?_⟩ ?_
 .exact nZ
 rintro a a ⟨d,b,e,n,gs,p,o,a,l,f,a,C,m,q,g,h,i,j,k⟩;by_cases r:(d:Int)<(c:Int)
 .have D:=f.len;have t:=DL (i:=b.length) (e:=c - d) a9r a;have E:(c:Int) -(d:Int)=((c - d:Nat):Int):=a9r;rw[show c - d=(c -(d+1))+1 by omega,a6.eY]at l;rw[show c -(d+1)+1=c - d by omega]at l;generalize a:c - d=G at*;have F: ¬(G:Int)=0:=a9r;have a:=a7N b.length G;have H:(b.length:Int).tdiv (G:Int)=((b.length/G:Nat):Int):=rfl;have I:(b.length:Int).tmod (G:Int)=((b.length%G:Nat):Int):=rfl;obtain⟨a,s⟩: ∃a,a=b.length/G+(if 0<b.length%G then 1 else 0):=⟨_,rfl⟩;rw[<-s]at t l;by_cases K:0<b.length%G
  .have t:((0:Int)<((b.length%G:Nat):Int))=True:=eq_true a9r;have u:((b.length/G:Nat):Int)+1=(a:Int):=by rw[s,if_pos K];omega
   have v:dO 1 (.J e n) none (some (.v (.int .i64 (a:Int))))=some (.J (e.take a) .any):=nV a9r a9r (f.cells λ_ _=>isRow.cells);have w:dO 1 (.J e n) (some (.v (.int .i64 (a:Int)))) none=some (.J (e.drop a) .any):=qo a9r a9r (f.cells λ_ _=>isRow.cells);refine ax (fx @g @h @i @j @k @r @D @E @H @I @F @t @u @v) ?_;refine ai (DM (b.take a) (e.take a) .any _ (f.take a) (by rw[a4N];omega)) ?_;rintro _ L ⟨x,y,rfl⟩;refine ax (bp @g @h @i @j @k) ?_;refine cJ U.a1 (by simp[aN,R.cells]) λM N z=> ?_;refine ax (bp @g @h @i @j @k) ?_;have O:=m.len;refine dq (q.mono (U.aq y.sub z.sub)) (m.cells λ_ _=>hB.cells) (by simp[aN,R.cells]) (by grind) (by grind) λA P B=> ?_;refine ax (bD @g @h @i @j @k @w) ?_;refine⟨⟨d+1,b.drop a,e.drop a,.any,gs++ [.J (e.take a) x],A,o++ [b.take a],a9r,?_,f.drop a,by rw[a4X];omega,by simp[C],m.snoc ⟨_,_,rfl,f.take a⟩,B,a9s⟩,a9r⟩;rw[<-l,a4W];rfl
  .have t:((0:Int)<((b.length%G:Nat):Int))=False:=eq_false a9r;have u:((b.length/G:Nat):Int)=(a:Int):=by rw[s,if_neg K];omega
   have v:dO 1 (.J e n) none (some (.v (.int .i64 (a:Int))))=some (.J (e.take a) .any):=nV a9r a9r (f.cells λ_ _=>isRow.cells);have w:dO 1 (.J e n) (some (.v (.int .i64 (a:Int)))) none=some (.J (e.drop a) .any):=qo a9r a9r (f.cells λ_ _=>isRow.cells);refine ax (fx @g @h @i @j @k @r @D @E @H @I @F @t @u @v) ?_;refine ai (DM (b.take a) (e.take a) .any _ (f.take a) (by rw[a4N];omega)) ?_;rintro _ L ⟨x,y,rfl⟩;refine ax (bp @g @h @i @j @k) ?_;refine cJ U.a1 (by simp[aN,R.cells]) λM N z=> ?_;refine ax (bp @g @h @i @j @k) ?_;have O:=m.len;refine dq (q.mono (U.aq y.sub z.sub)) (m.cells λ_ _=>hB.cells) (by simp[aN,R.cells]) (by grind) (by grind) λA P B=> ?_;refine ax (bD @g @h @i @j @k @w) ?_;refine⟨⟨d+1,b.drop a,e.drop a,.any,gs++ [.J (e.take a) x],A,o++ [b.take a],a9r,?_,f.drop a,by rw[a4X];omega,by simp[C],m.snoc ⟨_,_,rfl,f.take a⟩,B,a9s⟩,a9r⟩;rw[<-l,a4W];rfl
 .obtain rfl:d=c:=a9r;rw[a7j,a6.eY,a5T]at l;refine ax (bD @g @h @i @j @k @r) ?_;exact⟨_,U.a1,q.sub,gs,p,rfl,by rw[<-l];exact m⟩
def DN (d:List (ay)) (a:List R) (h:Own) (c:U) (k:az bt d a) (L:d.length<=100000):
  AC Tryz.prog 310 [.J a h] c λp r=> ∃o,bj c r 37 a o/\p= .J a o:=by
 refine mU λx=> ?_;have y:h= .nil->a= []:=λz=>by subst z;simpa using x a a9s
 refine bf hm RI a9s ?_;simp -dsimp -implicitDefEqProofs (disch:=first|omega|assumption|(simp only[aE,Nat.reduceAdd];try omega)) only[go_sem,simprocAttr,-List.reduceReplicate,↓o9];refine oa (λb=>by rw[y b]) (λb=> ?_) ?_
 .have C:a= []:=by simpa using b
  subst C;refine ax @a5y ?_;exact⟨c,U.a1,.nil,bj.nil U.a1,rfl⟩
 .refine cp ?_;refine cJ U.a1 (by simp[aN]) λP S D=> ?_;refine cp ?_;have T:=k.len;refine dq (g:= []) D (λ_ b=>by cases b) (k.cells λ_ _=>bt.cells) (by rw[a4T];omega) (by rw[a4T];omega) λE F G=> ?_;refine ax @a5d.{0} ?_;exact⟨F,U.a1,E,by simpa using G,rfl⟩
theorem DO (f:List (ay)) (g:List R) (j:Own) (c:Nat) (h:U) (k:az bt f g) (l:f.length<=100000) (a:c<=100000):
  AC Tryz.prog 245 [.J g j,.v (.int .i64 (c:Int))] h λa i=>h.sub i/\ ∃gs b,a= .J gs b/\az (hB bt) (a6.eY c f) gs:=by
 refine bf hm Qq a9s ?_;refine cp ?_;refine cv (λa i=> ∃(d:Nat) (b:List (ay)) (e:List R) (n:Own) (gs:List R) (p:Own) (o:List (List (ay))),d<=c/\o++a6.eY (c - d) b=a6.eY c f/\az bt b e/\b.length<=100000/\o.length=d/\az (hB bt) o gs/\bj h i 1 gs p/\
   a 0= .J e n/\a 1= .v (.int .i64 c)/\a 5= .J gs p/\a 8= .v (.int .i64 c)/\a 9= .v (.int .i64 d))
  (λa _=>match a 9 with| .v (.int _ h)=>c - h.toNat| _=>0) ⟨0,f,g,j,[],.nil,[],a9r,rfl,k,l,rfl,trivial,bj.nil U.a1,?_⟩ ?_
 .exact nZ
 rintro a a ⟨d,b,e,n,gs,p,o,a,l,f,a,C,m,q,g,h,i,j,k⟩;by_cases r:(d:Int)<(c:Int)
 .have D:=f.len;have t:=DL (i:=b.length) (e:=c - d) a9r a;have E:(c:Int) -(d:Int)=((c - d:Nat):Int):=a9r;rw[show c - d=(c -(d+1))+1 by omega,a6.eY]at l;rw[show c -(d+1)+1=c - d by omega]at l;generalize a:c - d=G at*;have F: ¬(G:Int)=0:=a9r;have a:=a7N b.length G;have H:(b.length:Int).tdiv (G:Int)=((b.length/G:Nat):Int):=rfl;have I:(b.length:Int).tmod (G:Int)=((b.length%G:Nat):Int):=rfl;obtain⟨a,s⟩: ∃a,a=b.length/G+(if 0<b.length%G then 1 else 0):=⟨_,rfl⟩;rw[<-s]at t l;by_cases K:0<b.length%G
  .have t:((0:Int)<((b.length%G:Nat):Int))=True:=eq_true a9r;have u:((b.length/G:Nat):Int)+1=(a:Int):=by rw[s,if_pos K];omega
   have v:dO 37 (.J e n) none (some (.v (.int .i64 (a:Int))))=some (.J (e.take a) .any):=nV a9r a9r (f.cells λ_ _=>bt.cells);have w:dO 37 (.J e n) (some (.v (.int .i64 (a:Int)))) none=some (.J (e.drop a) .any):=qo a9r a9r (f.cells λ_ _=>bt.cells);refine ax (fx @g @h @i @j @k @r @D @E @H @I @F @t @u @v) ?_;refine ai (DN (b.take a) (e.take a) .any _ (f.take a) (by rw[a4N];omega)) ?_;rintro _ L ⟨x,y,rfl⟩;refine ax (bp @g @h @i @j @k) ?_;refine cJ U.a1 (by simp[aN,R.cells]) λM N z=> ?_;refine ax (bp @g @h @i @j @k) ?_;have O:=m.len;refine dq (q.mono (U.aq y.sub z.sub)) (m.cells λ_ _=>hB.cells) (by simp[aN,R.cells]) (by grind) (by grind) λA P B=> ?_;refine ax (bD @g @h @i @j @k @w) ?_;refine⟨⟨d+1,b.drop a,e.drop a,.any,gs++ [.J (e.take a) x],A,o++ [b.take a],a9r,?_,f.drop a,by rw[a4X];omega,by simp[C],m.snoc ⟨_,_,rfl,f.take a⟩,B,a9s⟩,a9r⟩;rw[<-l,a4W];rfl
  .have t:((0:Int)<((b.length%G:Nat):Int))=False:=eq_false a9r;have u:((b.length/G:Nat):Int)=(a:Int):=by rw[s,if_neg K];omega
   have v:dO 37 (.J e n) none (some (.v (.int .i64 (a:Int))))=some (.J (e.take a) .any):=nV a9r a9r (f.cells λ_ _=>bt.cells);have w:dO 37 (.J e n) (some (.v (.int .i64 (a:Int)))) none=some (.J (e.drop a) .any):=qo a9r a9r (f.cells λ_ _=>bt.cells);refine ax (fx @g @h @i @j @k @r @D @E @H @I @F @t @u @v) ?_;refine ai (DN (b.take a) (e.take a) .any _ (f.take a) (by rw[a4N];omega)) ?_;rintro _ L ⟨x,y,rfl⟩;refine ax (bp @g @h @i @j @k) ?_;refine cJ U.a1 (by simp[aN,R.cells]) λM N z=> ?_;refine ax (bp @g @h @i @j @k) ?_;have O:=m.len;refine dq (q.mono (U.aq y.sub z.sub)) (m.cells λ_ _=>hB.cells) (by simp[aN,R.cells]) (by grind) (by grind) λA P B=> ?_;refine ax (bD @g @h @i @j @k @w) ?_;refine⟨⟨d+1,b.drop a,e.drop a,.any,gs++ [.J (e.take a) x],A,o++ [b.take a],a9r,?_,f.drop a,by rw[a4X];omega,by simp[C],m.snoc ⟨_,_,rfl,f.take a⟩,B,a9s⟩,a9r⟩;rw[<-l,a4W];rfl
 .obtain rfl:d=c:=a9r;rw[a7j,a6.eY,a5T]at l;refine ax (bD @g @h @i @j @k @r) ?_;exact⟨_,U.a1,q.sub,gs,p,rfl,by rw[<-l];exact m⟩
theorem nk {b:Type}: ∀ {g:Nat}{l:List b},(a6.eY g l).length=g/\ ∀a∈a6.eY g l,a.length<=l.length
 |0,l=>⟨rfl,λa c=>by cases c⟩
 |g+1,l=>by
  have ih:=nk (g:=g) (l:=l.drop (l.length/(g+1)+if 0<l.length%(g+1)then 1 else 0));refine⟨by rw[a6.eY,a4O,ih.1],λa d=> ?_⟩;rw[a6.eY]at d;grind
def YC (h:U) (g j:Nat) (k:ag) (o:bC h g j k) (a:List (List (List Int))) (m:List R) (r:Own) (c:Nat) (G:1<=c) (H:c<=8) (t:az (hB isRow) a m) (B: ∀u∈a,u.length<=100000) (b:a.length<=100000):
  AC Tryz.prog 302 [.J m r,.bH 155 [dY g c] []] h λw l=>match(ez dH c k a []).1 with
   | .error x=>bC l g j (ez dH c k a []).2/\Ext g j h l/\x≠0/\w= .aL [.J [] .nil,.v (.int .i64 x)]
   | .ok bJ=> ∃d e,az bt bJ d/\w= .aL [e,.v (.int .i64 0)]/\dd h l g j (ez dH c k a []).2 37 (flat d) e/\(bJ= []->e= .J [] .nil):=by
 refine bf hm RE a9s ?_;have y: ∀b,(R.agg b).cells=b:=λ_=>rfl;have z:=(aX (N:= .nil) (e5:= .nil) (h5:= .nil) bl).len;have n:=t.len;have I:gl Tryz.prog 155=true:=a9w;have b:=bT.J (s:=h) (o:=r) (t.cells λ_ _=>hB.cells);refine ax @n ?_;refine cv (λf l=> ∃(b:Nat) (s:ag) (i:List ay) (d:List R) (e:R),b<=a.length/\ez dH c s (a.drop b) i=ez dH c k a []/\az bt i d/\i.length=b/\dd h l g j s 37 (flat d) e/\(i= []->e= .J [] .nil)/\
   f 0= .J m r/\f 1= .bH 155 [dY g c] []/\f 6=e/\f 11= .J m r/\f 12= .v (.int .i64 a.length)/\f 13= .v (.int .i64 b))
  (λf _=>match f 13 with| .v (.int _ h)=>a.length - h.toNat| _=>0) ⟨0,k,[],[],.J [] .nil,a9r,rfl,trivial,rfl,dd.nil o,λ_=>rfl,?_⟩ ?_
 .exact cr @n
 rintro f h ⟨b,s,i,d,e,f,k,v,K,A,L,l,m,n,o,p,q⟩;by_cases C:(b:Int)<a.length
 .have D:a[b]? =some a[b]:=a4J a9r;have f:a.drop b=a[b]::a.drop (b+1):=a5e a9r;have E:=B _ (a5o (l:=a) (n:=b) a9r);rw[f,ez]at k;clear f;generalize a[b]'a9r=u at D k E;obtain⟨f,M,f,B,rfl,F⟩:=t.get D;obtain⟨D,D,N⟩:=(bT.J (s:=h) (o:=r) (t.cells λ_ _=>hB.cells)).get b _ M;have r:=N.ld h U.a1 false 1 a9r (by simp[R.cells]);have t:aY false 1 (R.J f B).cells= .J f B:=rfl;rw[t]at r;refine ax (ds @l @m @n @o @p @q @C @D @r) ?_;refine fJ I (xI h g j s A.gh u f (.J f B) c G H F (bT.J (F.cells λ_ _=>isRow.cells)) E) ?_;rintro w f ⟨f,g,t⟩;have w:=A.step g f;generalize g:dv s c (dH u)=c at*;obtain⟨res,B⟩:=c;simp only at k f t w;obtain⟨j,c,f,g,x,u,h⟩:=t.shape;have x:=aX (N:=c) (e5:=f) (h5:=g) u;have r:=x.len;have s:putAt (ab aA .nil .nil .nil) 0 (ab j c f g)=ab j c f g:=cG bl u;subst h;refine ax (iz @l @m @n @o @p @q @ct @y @z @r @s) ?_;refine aP λu D=> ?_;have u:=w.mono (U.ae (Y:= .cells (ab j c f g)) U.a1 D);cases res with
  |error w=>obtain⟨w,h⟩:=t;simp only[R.aL.injEq,a7l,R.v.injEq,Value.int.injEq,true_and,and_true]at h;obtain⟨_,rfl⟩:=h;rw[<-k];refine ax (p7 @l @m @n @o @p @q @ct @y @z @r @s @U.set_set @w) ?_;exact⟨_,U.a1,u.gh,u.ext⟩
  |ok w=>
   obtain⟨D,E,F,G,H,h⟩:=t;simp only[R.aL.injEq,a7l,R.v.injEq,Value.int.injEq,true_and,and_true,R.agg.injEq]at h;obtain⟨h,rfl⟩:=h;obtain⟨t,I,M,N⟩:=u;refine ax (fx @l @m @n @o @p @q @ct @y @z @r @s @U.set_set @U.ah x.t37) ?_;refine eT (by simp[aN,R.cells,r]) a9s λs s=> ?_;have u:=ar.mono I (U.ae (Y:= .cells (flat [R.agg (ab j c f g)])) U.a1 s);have x:az bt (i++ [w]) (d++ [R.agg (ab j c f g)]):=v.snoc ⟨D,E,F,G,H,by rw[h]⟩;have s:(flat d).length=i.length*37:=by rw[dh (v.cells λ_ _=>bt.cells),v.len]
   have h:(flat [R.agg (ab j c f g)]).length=1*37:=by simp[flat,R.cells,r]
   refine ax (bD @l @m @n @o @p @q) ?_;refine fk u a9r (ot h) h (by rw[s,h];omega) (by rw[s,h];omega) λr h h=> ?_;have s:flat d++flat [R.agg (ab j c f g)]=flat (d++ [R.agg (ab j c f g)]):=by simp[flat]
   rw[s]at h;refine ax (bD @l @m @n @o @p @q) ?_;exact⟨⟨b+1,B,i++ [w],_,r,a9r,k,x,by simp[K],⟨t,h,M,N⟩,(λc=>by simp at c),a9s⟩,a9r⟩
 .obtain rfl:b=a.length:=a9r;rw[a7s,ez]at k;rw[<-k];refine ax (cd @l @m @n @o @p @q @C) ?_;exact⟨_,U.a1,d,e,v,rfl,A,L⟩
def nm (a:ag) (b:Nat) (c:List (List Int)):Except Int (List ay)×ag:=ez dH b a (a6.chunks c) []
def DP (h:U) (g j:Nat) (k:ag) (o:bC h g j k) (a:List (List (ay))) (m:List R) (r:Own) (c:Nat) (G:1<=c) (H:c<=8) (t:az (hB bt) a m) (B: ∀u∈a,u.length<=100000) (b:a.length<=100000):
  AC Tryz.prog 244 [.J m r,.bH 243 [dY g c] []] h λw l=>match(ez ek c k a []).1 with
   | .error x=>bC l g j (ez ek c k a []).2/\Ext g j h l/\x≠0/\w= .aL [.J [] .nil,.v (.int .i64 x)]
   | .ok bJ=> ∃d e,az bt bJ d/\w= .aL [e,.v (.int .i64 0)]/\dd h l g j (ez ek c k a []).2 37 (flat d) e/\(bJ= []->e= .J [] .nil):=by
 refine bf hm Qo a9s ?_;have y: ∀b,(R.agg b).cells=b:=λ_=>rfl;have z:=(aX (N:= .nil) (e5:= .nil) (h5:= .nil) bl).len;have n:=t.len;have I:gl Tryz.prog 243=true:=a9w;have b:=bT.J (s:=h) (o:=r) (t.cells λ_ _=>hB.cells);refine ax @n ?_;refine cv (λf l=> ∃(b:Nat) (s:ag) (i:List ay) (d:List R) (e:R),b<=a.length/\ez ek c s (a.drop b) i=ez ek c k a []/\az bt i d/\i.length=b/\dd h l g j s 37 (flat d) e/\(i= []->e= .J [] .nil)/\
   f 0= .J m r/\f 1= .bH 243 [dY g c] []/\f 6=e/\f 11= .J m r/\f 12= .v (.int .i64 a.length)/\f 13= .v (.int .i64 b))
  (λf _=>match f 13 with| .v (.int _ h)=>a.length - h.toNat| _=>0) ⟨0,k,[],[],.J [] .nil,a9r,rfl,trivial,rfl,dd.nil o,λ_=>rfl,?_⟩ ?_
 .exact cr @n
 rintro f h ⟨b,s,i,d,e,f,k,v,K,A,L,l,m,n,o,p,q⟩;by_cases C:(b:Int)<a.length
 .have D:a[b]? =some a[b]:=a4J a9r;have f:a.drop b=a[b]::a.drop (b+1):=a5e a9r;have E:=B _ (a5o (l:=a) (n:=b) a9r);rw[f,ez]at k;clear f;generalize a[b]'a9r=u at D k E;obtain⟨f,M,f,B,rfl,F⟩:=t.get D;obtain⟨D,D,N⟩:=(bT.J (s:=h) (o:=r) (t.cells λ_ _=>hB.cells)).get b _ M;have r:=N.ld h U.a1 false 1 a9r (by simp[R.cells]);have t:aY false 1 (R.J f B).cells= .J f B:=rfl;rw[t]at r;refine ax (ds @l @m @n @o @p @q @C @D @r) ?_;refine fJ I (DF h g j s A.gh u f (.J f B) c G H F (bT.J (F.cells λ_ _=>bt.cells)) E) ?_;rintro w f ⟨f,g,t⟩;have w:=A.step g f;generalize g:dv s c (ek u)=c at*;obtain⟨res,B⟩:=c;simp only at k f t w;obtain⟨j,c,f,g,x,u,h⟩:=t.shape;have x:=aX (N:=c) (e5:=f) (h5:=g) u;have r:=x.len;have s:putAt (ab aA .nil .nil .nil) 0 (ab j c f g)=ab j c f g:=cG bl u;subst h;refine ax (iz @l @m @n @o @p @q @ct @y @z @r @s) ?_;refine aP λu D=> ?_;have u:=w.mono (U.ae (Y:= .cells (ab j c f g)) U.a1 D);cases res with
  |error w=>obtain⟨w,h⟩:=t;simp only[R.aL.injEq,a7l,R.v.injEq,Value.int.injEq,true_and,and_true]at h;obtain⟨_,rfl⟩:=h;rw[<-k];refine ax (p7 @l @m @n @o @p @q @ct @y @z @r @s @U.set_set @w) ?_;exact⟨_,U.a1,u.gh,u.ext⟩
  |ok w=>
   obtain⟨D,E,F,G,H,h⟩:=t;simp only[R.aL.injEq,a7l,R.v.injEq,Value.int.injEq,true_and,and_true,R.agg.injEq]at h;obtain⟨h,rfl⟩:=h;obtain⟨t,I,M,N⟩:=u;refine ax (fx @l @m @n @o @p @q @ct @y @z @r @s @U.set_set @U.ah x.t37) ?_;refine eT (by simp[aN,R.cells,r]) a9s λs s=> ?_;have u:=ar.mono I (U.ae (Y:= .cells (flat [R.agg (ab j c f g)])) U.a1 s);have x:az bt (i++ [w]) (d++ [R.agg (ab j c f g)]):=v.snoc ⟨D,E,F,G,H,by rw[h]⟩;have s:(flat d).length=i.length*37:=by rw[dh (v.cells λ_ _=>bt.cells),v.len]
   have h:(flat [R.agg (ab j c f g)]).length=1*37:=by simp[flat,R.cells,r]
   refine ax (bD @l @m @n @o @p @q) ?_;refine fk u a9r (ot h) h (by rw[s,h];omega) (by rw[s,h];omega) λr h h=> ?_;have s:flat d++flat [R.agg (ab j c f g)]=flat (d++ [R.agg (ab j c f g)]):=by simp[flat]
   rw[s]at h;refine ax (bD @l @m @n @o @p @q) ?_;exact⟨⟨b+1,B,i++ [w],_,r,a9r,k,x,by simp[K],⟨t,h,M,N⟩,(λc=>by simp at c),a9s⟩,a9r⟩
 .obtain rfl:b=a.length:=a9r;rw[a7s,ez]at k;rw[<-k];refine ax (cd @l @m @n @o @p @q @C) ?_;exact⟨_,U.a1,d,e,v,rfl,A,L⟩
def YD (h:U) (c k:Nat) (d:ag) (C:bC h c k d) (a:List (List (ay))) (p:List R) (r:Own) (b:Nat) (D:1<=b) (E:b<=8) (F:az (hB bt) a p) (G: ∀L∈a,L.length<=100000) (P:a.length<=100000):
  AC Tryz.prog 244 [.J p r,.bH 243 [dY c b] []] h λx o=>bC o c k (ez ek b d a []).2/\Ext c k h o/\YA (ez ek b d a []).1 x:=by
 refine(DP h c k d C a p r b D E F G P).view λx o y=> ?_;generalize ez ek b d a []=S at*;obtain⟨res,m⟩:=S;cases res with
 |error n=>obtain⟨T,V,W,rfl⟩:=y;exact⟨_,o,View.refl,T,V,W,rfl⟩
 |ok bJ=>obtain⟨e,q,z,rfl,f,_⟩:=y;obtain⟨g,i,j,l⟩:=f.uu z;exact⟨_,g,View.aL (a:= []) (k:= [_]) i,j,l,e,.any,z,rfl⟩
def ji (a:ag) (b:Nat) (c:List (ay)):Except Int (List ay)×ag:=ez ek b a (a6.chunks c) []
theorem qP {b:Type}{c:List b->c5}{d:Nat}: ∀ {gs:List (List b)}{S S':ag}{acc ks:List ay},ez c d S gs acc=(.ok ks,S')->ks.length=acc.length+gs.length
 | [],S,S',acc,ks,a=>by
  grind[ez,Prod.mk.inj,Except.ok.inj]
 |h::gs,S,S',acc,ks,a=>by
  rw[ez]at a;split at a
  .cases (a6B a).1
  .have:=qP a;rw[this];simp;omega
def ib (c:Nat):Nat->ag->List ay->Except Int ay×ag
 |0,a,_=>(.error 1,a)
 |d+1,a,bJ=>
  if 1<bJ.length then match ji a c bJ with
   |(.error h,b)=>(.error h,b)
   |(.ok up,b)=>ib c d b up
  else(.ok (bJ.headD aA),a)
def YE (a:U) (c f:Nat) (p:ag) (u:bC a c f p) (d:List ay) (q:List R) (A:Own) (b:Nat) (I:1<=b) (K:b<=8) (G:az bt d q) (e:d.length<=100000):
  AC Tryz.prog 157 [dY c b,.J q A] a λD e=>bC e c f (ib b (d.length+1) p d).2/\Ext c f a e/\hd (ib b (d.length+1) p d).1 D:=by
 refine bf hm NS a9s ?_;have l: ∀g,(R.agg g).cells=g:=λ_=>rfl;have v:=(aX (N:= .nil) (e5:= .nil) (h5:= .nil) bl).len;have w: ∀i m:R,List.take 2 [i,m]= [i,m]:=λ_ _=>rfl;have x: ∀i m,aY true 2 [i,m]= .agg [i,m]:=λ_ _=>rfl;refine ax @l ?_;refine aP λr o=> ?_;refine ax (c2 @l @ct) ?_;refine aP λj g=> ?_;have k:r≠j:=by rintro rfl;rw[U.ah]at g;cases g
 have n:a j=none:=by rw[U.an _ _ (a4S k)]at g;exact g
 obtain⟨g,h⟩: ∃g:U,g=(a.set r (.cells [.ptr c 0,.v (.int .i64 (b:Int))])).set j (.cells (ab aA .nil .nil .nil)):=⟨_,rfl⟩;have B:a.sub g:=by rw[h];exact U.ae (U.ae U.a1 o) n
 have aM:g j=some (.cells (ab aA .nil .nil .nil)):=by rw[h,U.ah]
 have c2:g r=some (.cells [.ptr c 0,.v (.int .i64 (b:Int))]):=by rw[h,U.an _ _ k,U.ah]
 have k:=u.cH n;have C:=u.cH o;have E:=(aX (N:= .nil) (e5:= .nil) (h5:= .nil) bl).t37;have F:putAt (ab aA .nil .nil .nil) 0 (ab aA .nil .nil .nil)=ab aA .nil .nil .nil:=cG bl bl;have y: ∀(e:U) (o:bq),Ext c f g e->Ext c f a (e.set j o):=λe o z=>((Ext.of B).trans z).set n;simp -dsimp -implicitDefEqProofs (disch:=first|omega|assumption|(simp only[aE,Nat.reduceAdd];try omega)) only[go_sem,simprocAttr,-List.reduceReplicate,l,ct];rw[show(a.set r (.cells (dY c b).cells)).set j (.cells (List.replicate 32 (R.v (.int .u8 0))++ [R.J [] .nil,.J [] .nil]++ [R.v (.int .i64 0),.v (.int .i64 0)]++ [R.J [] .nil]))=g by rw[h,<-ct];rfl];refine cv (λn e=> ∃(o:Nat) (h:ag) (a:List ay) (s:List R) (t:Own),ib b o h a=ib b (d.length+1) p d/\a.length<o/\o<=100001/\az bt a s/\bC e c f h/\Ext c f g e/\n 1= .J s t/\n 2= .ptr r 0/\n 4= .ptr j 0)
  (λn _=>match n 1 with| .J q _=>q.length| _=>0) ⟨d.length+1,p,d,q,A,rfl,a9r,a9r,G,u.mono B,Ext.refl,?_⟩ ?_
 .exact nZ
 rintro n n ⟨o,h,a,s,t,d,e,e,q,u,p,e,g,j⟩;have r:=q.len;have A:=p _ _ C.1 C.2 c2;have G:=p _ _ k.1 k.2 aM;obtain⟨B,rfl⟩: ∃B,o=B+1:=⟨o - 1,a9r⟩;rw[ib]at d;by_cases o:(1:Int)<a.length
 .rw[if_pos a9r]at d;refine ax (bw @e @g @j @r @o (U.af A) @w @x) ?_;refine ai (xG a.length a9r n) ?_;rintro _ n ⟨rfl,rfl⟩;refine ax (bw @e @g @j @r @o (U.af A) @w @x) ?_;have H:a6.bV a.length<=100000:=by unfold a6.bV;omega
  refine ai (DO a s t (a6.bV a.length) n q a9r H) ?_;rintro _ s ⟨C,gs,L,rfl,M⟩;have N:=C _ _ A;refine ax (bD @e @g @j (U.af N) @w @x) ?_;have w:=nk (g:=a6.bV a.length) (l:=a);refine ai (YD s c f h (u.mono C) _ gs L b I K M (λc f=>by have:=w.2 c f;omega) (by rw[w.1];exact H)) ?_;rintro D c ⟨f,D,c⟩;have x:ji h b a=ez ek b h (a6.eY (a6.bV a.length) a) []:=rfl;rw[<-x]at f c;have A:=λs H z=>qP (c:=ek) (d:=b) (gs:=a6.eY (a6.bV a.length) a) (S:=h) (S':=s) (acc:= []) (ks:=H) z;rw[<-x]at A;have x:=p.trans ((Ext.of C).trans D);have z:=x _ _ k.1 k.2 aM;generalize ji h b a=b at*;obtain⟨res,s⟩:=b;cases res with
  |error b=>obtain⟨b,rfl⟩:=c;simp only at d f;rw[<-d];refine ax (cu @e @g @j @b @ct @l (U.aJ z) @v @E @F) ?_;exact⟨_,U.a1,f.set k,y _ _ x,b,rfl⟩
  |ok up=>
   obtain⟨z,C,b,rfl⟩:=c;have h:=A s up rfl;rw[w.1]at h;have w:up.length<a.length:=by rw[h];unfold a6.bV;simp;omega
   have h:=b.len;simp only at d f;refine ax (aI @e @g @j) ?_;exact⟨⟨B,s,up,z,C,d,a9r,a9r,b,f,x,rfl⟩,a9r⟩
 .rw[if_neg a9r]at d;rw[<-d];by_cases h:(a.length:Int)=0
  .have:a= []:=a4P a9r;subst this;refine ax (jd @e @g @j @r @o @h @ct @l (U.aJ G) @v @E @F) ?_;exact⟨_,U.a1,u.set k,y _ _ p,bl,mf,.nil,.nil,.nil,rfl⟩
  .have s:a[0]? =some a[0]:=a4J a9r;have b:a.headD aA=a[0]'a9r:=by cases a with|nil=>simp at h|cons i m=>rfl
   rw[b];generalize a[0]'a9r=f at s;obtain⟨i,w,i,x,a,b,d,rfl⟩:=q.get s;obtain⟨m,m,s⟩:=(bT.J (s:=n) (o:=t) (q.cells λ_ _=>bt.cells)).get 0 _ w;have c:=aX (N:=a) (e5:=b) (h5:=d) i;have t:=c.len;have q:(R.agg (ab f a b d)).cells=ab f a b d:=rfl;rw[q]at s;have q:=s.ld n U.a1 true 37 a9r (by rw[c.len];omega);rw[show aY true 37 (ab f a b d)= .agg (ab f a b d) by rw[aY,if_pos rfl,c.t37]]at q;have n:((0:Nat):Int)=0:=rfl;rw[n]at m;have n:putAt (ab aA .nil .nil .nil) 0 (ab f a b d)=ab f a b d:=cG bl i;refine ax (fx @e @g @j @r @o @h @m @q @l (U.aJ G) @v @t @n c.t37) ?_;exact⟨_,U.a1,u.set k,y _ _ p,i,x,a,b,d,rfl⟩
end Go.Proofs.YtlgnfcaolejgeaaGreat
namespace Go.bB
open Go
variable{g A e1:List R}{e i v M c0 j0:Nat}
theorem pv {a:List R}{v:Nat} (b:g.take e=a) (c:A.length=v) (d:e1.length=i) (h:e+v+i<=g.length):
  (putAt (putAt g (e+v) e1) e A).take (e+v+i)=a++(A++e1)/\(putAt (putAt g e A) (e+v) e1).take (e+v+i)=a++(A++e1):=by
 have k:a.length=e:=by rw[<-b,a4N];omega
 constructor
 .have o:(g.take (e+v)).length=e+v:=by rw[a4N];omega
  grind[putAt,List.append_assoc,Nat.min_eq_left,List.drop_left',List.take_left',List.length_append]
 grind[putAt,List.take_left',List.length_append,List.append_assoc]
variable{e2:IntKind}
theorem ow (k:e<=M) (o:M<=c0): ∃v,c8 i (.al j0 M c0 i) (some (.v (.int e2 (e:Int)))) none none=some v/\fg v=some (.v (.int .i64 ((M - e:Nat):Int)))/\
  ∀(c:U) (a b:List R),c j0=some (.cells a)->M*i<=a.length->a.take (M*i)=b->bN c i v=some (M - e,b.drop (e*i)):=by
 by_cases p:e<c0
 .refine⟨_,gp k o p,rfl,λc a b d r h=> ?_⟩;have x:e*i+(M - e)*i=M*i:=by rw[<-a5L];congr 1;omega
  simp only[bN,U.af d];grind
 .obtain rfl:e=M:=a9r;obtain rfl:e=c0:=a9r;refine⟨_,tT rfl,by simp[fg],λc a b d r h=> ?_⟩;have:b.drop (e*i)= []:=a5x (by rw[<-h,a4N];omega);rw[this,a7j];rfl
theorem DQ {a:Nat}{b:IntKind} (c:c0<=e) (d:e<=M): ∃v,c8 i (.al j0 a M i) (some (.v (.int e2 (c0:Int)))) (some (.v (.int b (e:Int)))) none=some v:=by simp_all [c8,cA,intOf]
theorem DR {a b:Nat}{c d:IntKind} (h:j0<=e) (k:e<=i) (o:i<=c0): ∃v,c8 M (.al a b c0 M) (some (.v (.int e2 (j0:Int)))) (some (.v (.int c (e:Int)))) (some (.v (.int d (i:Int))))=some v:=by simp_all [c8,cA,intOf]
variable{f t e7:U}
theorem ar.first (c:ar f t e g (.al v M c0 e)) (d:i<=M):ar f t e (g.take (i*e)) (.al v i c0 e):=by
 obtain⟨h,a⟩:=c;rcases a with ⟨_,a|a⟩|⟨y,z,C,k,b,o,p,r,D,E,F,x⟩
 .cases a
 .cases a
 simp only[R.al.injEq,true_and,and_true]at b;obtain⟨rfl,rfl,rfl⟩:=b;have G:i*e<=M*e:=a5a _ d;exact⟨h,.inr ⟨v,i,c0,k,rfl,o,p,r,by grind,by simp_all,a9r,x⟩⟩
theorem ar.al {p r:U}{k:Nat}{a:List R}{x:R} (y:ar p r k a x) (z:a≠ []): ∃d b c h,x= .al d b c k/\p d=none/\r d=some (.cells h)/\h.length=c*k/\h.take (b*k)=a/\a.length=b*k/\b<=c/\c<=maxLen:=by
 rcases y.2 with ⟨o,_⟩|o
 .exact absurd o z
 .exact o
variable{n b3:R}{Y:bq}
theorem ar.add (o:ar t f i g n) (E:f e=some Y) (p: ∀a b c,n= .al a b c i->a≠e):ar (t.set e Y) f i g n:=by
 obtain⟨r,d⟩:=o;refine⟨λx F h=> ?_,?_⟩
 .by_cases y:x=e;grind[U.ah]
  .rw[U.an _ _ y]at h;exact r _ _ h
 .rcases d with d|⟨a,b,c,z,k,C,D⟩
  .exact .inl d
  .exact .inr ⟨a,b,c,z,k,by rw[U.an _ _ (p _ _ _ k)];exact C,D⟩
variable{s a7:R -> U -> Prop}
theorem uv {a:cD s} (b:f M=some (.cells g)) (c:g.length=c0*e) (d:bN f e n=some (v,A)) (h:i+v<=c0) (k:(i+v)*j0<=140737488355328) (o:i+v<=9223372036854775807)
  (p:s (.al M (i+v) c0 e) (f.set M (.cells (putAt g (i*e) A)))):jL e j0 f (.al M i c0 e) n (bP s a):=by
 simp_all [jL,vP,bP,if_pos,trivial]
end Go.bB
namespace Go.Proofs.YtlgnfcaolejgeaaGreat
open Go Go.bB
theorem YF (z o:U) (c:List R) (C:R) (D:ar z o 1 c C) (a:Nat) (E:a<c.length) (u:c.length<=100000):
  AC Tryz.prog 249 [C,.v (.int .i64 (a:Int)),.v (.int .i64 ((a:Int)+1))] o λT V=>ar z V 1 (c.take a++c.drop (a+1)) T:=by
 obtain⟨d,b,h,F,rfl,G,L,P,W,v,p,e⟩:=D.al (λf=>by rw[f]at E;simp at E);refine bf hm Qx a9s ?_;have w:b=c.length:=a9r;have g:(a:Int)+1=((a+1:Nat):Int):=a9r;rw[g];obtain⟨A,i⟩:=DR (M:=1) (a:=d) (b:=b) (c0:=h) (j0:=a) (e:=a+1) (i:=b) (e2:= .i64) (c:= .i64) (d:= .i64) a9r a9r p;have j:c8 1 (.al d b h 1) none (some (.v (.int .i64 (a:Int)))) none=some (.al d a h 1):=hQ a9r;obtain⟨B,l,_,r⟩:=ow (i:=1) (j0:=d) (M:=b) (c0:=h) (e:=a+1) (e2:= .i64) a9r p;have r:=r o F c L (by rw[P];omega) W;have m: ¬(a:Int)=((a+1:Nat):Int):=a9r;refine dD (aM @i @j @l @m) ?_;refine uv L P r a9r a9r a9r ?_;have n:a+(b -(a+1))=b - 1:=a9r;rw[n,a5v];have H:(c.drop ((a+1)*1)).length=b -(a+1):=by rw[a4X];omega
 obtain⟨k,x⟩: ∃k,k=putAt F a (c.drop ((a+1)*1)):=⟨_,rfl⟩;have y:k.length=h:=by rw[x,eK _ _ _ a9r];omega
 have q:k.take (b - 1)=c.take a++c.drop (a+1):=by rw[x,putAt];grind
 rw[<-x];have s:(o.set d (.cells k)) d=some (.cells k):=U.ah _ _ _;have S:c8 1 (.al d (b - 1) h 1) (some (.v (.int .i64 ((b - 1:Nat):Int)))) (some (.v (.int .i64 ((b:Nat):Int)))) none=some (.bx d ((b - 1)*1) (b -(b - 1)) (h -(b - 1)) 1):=Ch a9r p a9r;have t:=x1 (e:=1) (M:=b -(b - 1)) (v:=b - 1) (c0:=h -(b - 1)) (A:= [R.J [] .nil]) s (by rw[y];omega);rw[a5v]at S;refine dD (aI @S @t @U.set_set) ?_;refine⟨_,U.a1,U.ae D.1 G,.inr ⟨d,b - 1,h,_,rfl,G,U.ah _ _ _,?_,?_,?_,a9r,e⟩⟩
 .rw[eK _ _ _ (by rw[jI,y];simp;omega),y,a5v]
 .rw[putAt,a5v,a4W,a6j (by rw[a4N];omega),a6a,a7a,q]
 grind
theorem YG (b h:U) (d:List R) (c:R) (k:ar b h 1 d c) (m:d≠ []) (a:Nat) (e:a<=d.length) (g:d.length<=100000) (f:R) (l:Nat) (j:b l=some (.cells [f])):
  AC Tryz.prog 239 [c,.v (.int .i64 (a:Int)),.al l 1 1 1] h λc g=>ar b g 1 (d.take a++f::d.drop a) c:=by
 obtain⟨c,b,e,i,rfl,B,n,C,D,o,o,O⟩:=k.al m;refine bf hm Qf a9s ?_;have m:b=d.length:=a9r;have q:=k.1 _ _ j;have L:c≠l:=by rintro rfl;rw[B]at j;cases j
 have v:((1:Nat):Int)=1:=rfl;obtain⟨j,w,_,t⟩:=ow (i:=1) (j0:=c) (M:=b) (c0:=e) (e:=a) (e2:= .i64) a9r o;have E: ∀g:U,g l=some (.cells [f])->bN g 1 (.al l 1 1 1)=some (1,[f]):=λg k=>by simp[bN,U.af k]
 by_cases c1:(a:Int)=b
 .have j:=eq_true c1;refine dD (aI @w @j @v) ?_;refine fk k a9r (E h q) rfl (by grind) (by grind) λj g g=> ?_;refine Cl ?_;grind[U.a1,List.take_of_length_le,List.drop_eq_nil_of_le]
 have g:a<b:=a9r;have g:=t h i d n a9r D;rw[a5v]at g;have M:(d.drop a).length=b - a:=by rw[a4X];omega
 by_cases c2:(e:Int)<(b:Int)+1
 .have x:c8 1 (.al c b e 1) none (some (.v (.int .i64 (a:Int)))) none=some (.al c a e 1):=hQ a9r;have N:(b:Int)+1 -(a:Int)=((b+1 - a:Nat):Int):=a9r;refine dD (bD @w @c1 @v @c2 @x @N) ?_;refine x3 n C a9r a9r a9r λg m j y z P o=> ?_;have p:a+(b+1 - a)=b+1:=a9r;rw[p]at z o|-;have A:g≠c:=by rintro rfl;rw[y]at n;cases n
  have r:g≠l:=by rintro rfl;rw[y]at q;cases q
  obtain⟨o,p⟩: ∃o,o=i.take (a*1)++(List.replicate (b+1 - a) [R.J [] .nil]).flatten++j:=⟨_,rfl⟩;have K:o.length=m:=by grind[List.length_append,jI,List.length_take]
  have F:o.take a=d.take a:=by grind
  rw[<-p];have u:c8 1 (.al g (b+1) m 1) (some (.v (.int .i64 (a:Int)))) none none=some (.bx g (a*1) (b+1 - a) (m - a) 1):=gp a9r z a9r;have p:c8 1 (.al g (b+1) m 1) (some (.v (.int .i64 ((a:Int)+1)))) none none=some (.bx g ((a+1)*1) (b+1 -(a+1)) (m -(a+1)) 1):=by rw[show(a:Int)+1=((a+1:Nat):Int) by omega];exact gp a9r z a9r
  rw[a5v]at u p;rw[a8Z]at p;have G:(h.set g (.cells o)) l=some (.cells [f]):=by rw[U.an _ _ (a4S r)];exact q
  have r:=ho (e:=1) (v:=g) (M:=a) (j0:=m - a) (i:=b+1 - a) (E _ G) (U.ah h g (.cells o)) a9r;have H: [f].take ((b+1 - a)*1)= [f]:=a4K a9t;rw[H]at r;obtain⟨j,s⟩: ∃j,j=putAt o a [f]:=⟨_,rfl⟩;have I:j.length=m:=by rw[s,eK _ _ _ a9t,K]
  rw[<-s]at r;have K:(h.set g (.cells j)) c=some (.cells i):=by rw[U.an _ _ (a4S A)];exact n
  have A:=t _ i d K a9r D;rw[a5v]at A;have t:=ho (e:=1) (v:=g) (M:=a+1) (j0:=m -(a+1)) (i:=b - a) A (U.ah h g (.cells j)) a9r;have K:(d.drop a).take ((b - a)*1)=d.drop a:=a4K a9r;rw[K]at t;refine dD (iz @w @c1 @v @c2 @x @N @u @p @r @t @U.set_set) ?_;refine⟨_,U.a1,U.ae k.1 (U.bG k.1 y),.inr ⟨g,b+1,m,_,rfl,U.bG k.1 y,U.ah _ _ _,?_,?_,?_,z,P⟩⟩
  .rw[eK _ _ _ a9r,I,a5v]
  .have:=(pv (g:=o) (A:= [f]) (e1:=d.drop a) (v:=1) F rfl M a9r).2;rw[show(b+1)*1=a+1+(b - a) by omega,s];exact this
  grind
 .have x:c8 1 (.al c b e 1) none (some (.v (.int .i64 ((b:Int)+1)))) none=some (.al c (b+1) e 1):=by rw[show(b:Int)+1=((b+1:Nat):Int) by omega];exact hQ a9r
  have u:c8 1 (.al c (b+1) e 1) (some (.v (.int .i64 (a:Int)))) none none=some (.bx c (a*1) (b+1 - a) (e - a) 1):=gp a9r a9r a9r;have p:c8 1 (.al c (b+1) e 1) (some (.v (.int .i64 ((a:Int)+1)))) none none=some (.bx c ((a+1)*1) (b+1 -(a+1)) (e -(a+1)) 1):=by rw[show(a:Int)+1=((a+1:Nat):Int) by omega];exact gp a9r a9r a9r
  rw[a5v]at u p;rw[a8Z]at p;have g:i≠ []:=by rintro rfl;simp at C;omega
  have m:ks (.al l 1 1 1) (.bx c (a+1) (b - a) (e -(a+1)) 1) h=some (.v (.bool false)):=x2 rfl rfl (a4S L) (qy q a9s) (qy n g);have A:bN h 1 (.bx c a (b+1 - a) (e - a) 1)=some (b+1 - a,(i.drop a).take (b+1 - a)):=by simp only[bN,U.af n,a5v];rw[if_pos ⟨trivial,a9r⟩]
  have t:=ho (e:=1) (v:=c) (M:=a+1) (j0:=e -(a+1)) (i:=b - a) A n a9r;have K:((i.drop a).take (b+1 - a)).take ((b - a)*1)=d.drop a:=by rw[a6a,<-D,a6h];congr 1;omega
  rw[K]at t;obtain⟨j,s⟩: ∃j,j=putAt i (a+1) (d.drop a):=⟨_,rfl⟩;rw[<-s]at t;have I:j.length=i.length:=by rw[s,eK _ _ _ a9r]
  have G:(h.set c (.cells j)) l=some (.cells [f]):=by rw[U.an _ _ (a4S L)];exact q
  have r:=ho (e:=1) (v:=c) (M:=a) (j0:=e - a) (i:=b+1 - a) (E _ G) (U.ah h c (.cells j)) a9r;have H: [f].take ((b+1 - a)*1)= [f]:=a4K a9t;rw[H]at r;refine dD (iz @w @c1 @v @c2 @x @u @p @m @t @r @U.set_set) ?_;refine⟨_,U.a1,U.ae k.1 B,.inr ⟨c,b+1,e,_,rfl,B,U.ah _ _ _,?_,?_,?_,a9r,O⟩⟩
  .rw[eK _ _ _ a9t,I,C]
  .have F:i.take a=d.take a:=by grind
   have:=(pv (g:=i) (A:= [f]) (e1:=d.drop a) (v:=1) F rfl M a9r).1;grind
  grind
end Go.Proofs.YtlgnfcaolejgeaaGreat
namespace Go.bB
open Go
variable{f t e7:U}{e i v M c0 j0:Nat}{Y:bq}
theorem U.sK (a:f e=some Y):f.set e Y=f:=by grind[U.ah,U.an]
variable{e2:IntKind}{g A e1:List R}
def uw (k:i<=M) (h:M<=c0) (o:g.length=e): ∃v,c8 e (.al j0 M c0 e) (some (.v (.int e2 (i:Int)))) none none=some v/\
  ∀(b:U) (a:List R),b j0=some (.cells a)->a.length=c0*e-> ∃c,kq e g v b=some (b.set j0 (.cells c))/\c.length=a.length/\c.take (i*e)=a.take (i*e):=by
 by_cases p:i<c0
 .refine⟨_,gp k h p,λb a d r=> ?_⟩;have x:i*e+(M - i)*e=M*e:=by rw[<-a5L];congr 1;omega
  have y:M*e<=c0*e:=a5a _ h;have z:i*e<=a.length:=a9r;refine⟨_,x1 d a9r,?_,?_⟩
  .rw[eK _ _ _ (by rw[jI,o];omega)]
  .rw[putAt,a4W,a6j (by rw[a4N];omega),a6a,a7a]
 .obtain rfl:i=M:=a9r;obtain rfl:i=c0:=a9r;exact⟨_,tT rfl,λb a d r=>⟨a,by rw[Wk,U.sK d],rfl,rfl⟩⟩
end Go.bB
namespace Go.Proofs.YtlgnfcaolejgeaaGreat
open Go Go.bB
theorem DS (h d j:U) (i m:List R) (e v:R) (g b a c:Nat) (f:Int) (k:f=(c:Int)) (o:ar d j 37 i e) (l:i.length=g*37) (n:ar h d 37 m v) (t:m.length=b*37) (p:0<b) (q:a<c) (r:c<=g) (s:g<=100000) (u:b<=100000):
  AC Tryz.prog 242 [e,.v (.int .i64 (a:Int)),.v (.int .i64 f),v] j λf e=>ar d e 37 (i.take (a*37)++(m++i.drop (c*37))) f:=by
 subst k;obtain⟨d,q,h,k,rfl,u,p,E,Q,f,S,T⟩:=o.al (λf=>by rw[f]at l;simp at l;omega);obtain⟨w,r,Z,F,rfl,l,l,k5,s,s,s,s⟩:=n.al (λf=>by rw[f]at t;simp at t;omega);obtain rfl:g=q:=a9r;obtain rfl:b=r:=a9r;have r:=o.1 _ _ l;have j9:d≠w:=by rintro rfl;rw[u]at l;cases l
 have A: ∀e:U,e w=some (.cells F)->bN e 37 (.al w b Z 37)=some (b,m):=λe o=>by
  simp only[bN,U.af o];grind
 refine bf hm Br a9s ?_;obtain⟨f,B⟩:=DQ (i:=37) (j0:=d) (a:=g) (M:=h) (c0:=a) (e:=c) (e2:= .i64) (b:= .i64) a9r a9r;have C: ¬(a:Int)=c:=a9r;have D:c8 37 (.al d g h 37) none (some (.v (.int .i64 (a:Int)))) none=some (.al d a h 37):=hQ a9r;have k0:(List.replicate 32 (R.v (.int .u8 0))++ [R.J [] .nil,.J [] .nil]++ [R.v (.int .i64 0),.v (.int .i64 0)]++ [R.J [] .nil]).length=37:=a9s;have n:(i.take (a*37)).length=a*37:=by rw[a4N];omega
 by_cases c1:(c:Int)=g
 .have f:=eq_true c1;obtain rfl:c=g:=a9r;have l:i.drop (c*37)= []:=a5x a9r;rw[l,a5T];refine dD (aM @B @C @f @D) ?_;by_cases aI:a+b<c
  .refine uv p E (A j r) a9r a9r a9r ?_;obtain⟨f,l⟩: ∃f,f=putAt k (a*37) m:=⟨_,rfl⟩;have x:f.length=k.length:=by rw[l,eK _ _ _ a9r]
   rw[<-l];obtain⟨k6,ch,ca⟩:=uw (e:=37) (j0:=d) (M:=c) (c0:=h) (i:=a+b) (e2:= .i64) a9r S k0;obtain⟨y,V,k7,k1⟩:=ca (j.set d (.cells f)) f (U.ah _ _ _) a9r;have q:((a+b:Nat):Int)<(c:Int):=a9r;refine dD (aM @q @ch @V @U.set_set) ?_;refine⟨_,U.a1,U.ae o.1 u,.inr ⟨d,a+b,h,_,rfl,u,U.ah _ _ _,a9r,?_,by rw[a4L,n];omega,a9r,T⟩⟩;grind[putAt,List.take_left',List.length_append,List.length_take]
  .refine fk (o.first (i:=a) a9r) a9r (A j r) t (by rw[n];omega) (by rw[n];omega) λs e e=> ?_;obtain⟨s,z,G,G⟩:=e.src;rw[a4L,n,t]at z;obtain rfl:s=a+b:=a9r;have q: ¬((a+b:Nat):Int)<(c:Int):=a9r;refine dD (c2 @G @q) ?_;exact⟨_,U.a1,e⟩
 have e:c<g:=a9r;obtain⟨k8,G,H,k2⟩:=ow (i:=37) (j0:=d) (M:=g) (c0:=h) (e:=c) (e2:= .i64) a9r S;have X:(i.drop (c*37)).length=(g - c)*37:=by rw[a4X];omega
 obtain⟨e,n⟩: ∃n,n=a+b+(g - c):=⟨_,rfl⟩;have n:(a:Int)+(b:Int)+((g - c:Nat):Int)=(e:Int):=a9r;have I:(a:Int)+(b:Int)=((a+b:Nat):Int):=a9r;have K:((a+b:Nat):Int)+((g - c:Nat):Int)=(e:Int):=a9r;by_cases c2:(h:Int)<(e:Int)
 .have k3:(e:Int) -(a:Int)=((e - a:Nat):Int):=a9r;refine dD (cu @B @C @c1 @D @G @H @I @K @c2 @k3) ?_;refine x3 p E a9r a9r a9r λn s z L M k9 q=> ?_;have N:a+(e - a)=e:=a9r;rw[N]at M q|-;have k4:n≠d:=by rintro rfl;rw[L]at p;cases p
  have l0:n≠w:=by rintro rfl;rw[L]at r;cases r
  obtain⟨q,O⟩: ∃q,q=k.take (a*37)++(List.replicate (e - a) (List.replicate 32 (R.v (.int .u8 0))++ [R.J [] .nil,.J [] .nil]++ [R.v (.int .i64 0),.v (.int .i64 0)]++ [R.J [] .nil])).flatten++z:=⟨_,rfl⟩;have l1:q.length=s*37:=by grind[List.length_append,jI,List.length_take]
  have N:q.take (a*37)=i.take (a*37):=by grind
  rw[<-O];have O:c8 37 (.al n e s 37) (some (.v (.int .i64 (a:Int)))) none none=some (.bx n (a*37) (e - a) (s - a) 37):=gp a9r M a9r;have P:c8 37 (.al n e s 37) (some (.v (.int .i64 ((a+b:Nat):Int)))) none none=some (.bx n ((a+b)*37) (e -(a+b)) (s -(a+b)) 37):=gp a9r M a9r;have Y:(j.set n (.cells q)) w=some (.cells F):=by rw[U.an _ _ (a4S l0)];exact r
  have z:=ho (e:=37) (v:=n) (M:=a*37) (j0:=s - a) (i:=e - a) (A _ Y) (U.ah j n (.cells q)) a9r;rw[a4K (l:=m) a9r]at z;obtain⟨f,l⟩: ∃f,f=putAt q (a*37) m:=⟨_,rfl⟩;have x:f.length=q.length:=by rw[l,eK _ _ _ a9r]
  rw[<-l]at z;have l0:(j.set n (.cells f)) d=some (.cells k):=by rw[U.an _ _ (a4S k4)];exact p
  have k4:=ho (e:=37) (v:=n) (M:=(a+b)*37) (j0:=s -(a+b)) (i:=e -(a+b)) (k2 _ k i l0 a9r Q) (U.ah j n (.cells f)) a9r;rw[a4K (l:=i.drop (c*37)) a9r]at k4;refine dD (p8 @B @C @c1 @D @G @H @I @K @c2 @k3 @O @P @z @k4 @U.set_set) ?_;refine⟨_,U.a1,U.ae o.1 (U.bG o.1 L),.inr ⟨n,e,s,_,rfl,U.bG o.1 L,U.ah _ _ _,?_,?_,?_,M,k9⟩⟩
  .rw[eK _ _ _ a9r,x,l1]
  .have:=(pv (g:=q) (A:=m) (e1:=i.drop (c*37)) N t X a9r).2;rw[show e*37=a*37+b*37+(g - c)*37 by omega,l,show(a+b)*37=a*37+b*37 by omega];exact this
  grind
 have O:c8 37 (.al d g h 37) none (some (.v (.int .i64 (e:Int)))) none=some (.al d e h 37):=hQ a9r;have P:c8 37 (.al d e h 37) (some (.v (.int .i64 (a:Int)))) none none=some (.bx d (a*37) (e - a) (h - a) 37):=gp a9r a9r a9r;have z:c8 37 (.al d e h 37) (some (.v (.int .i64 ((a+b:Nat):Int)))) none none=some (.bx d ((a+b)*37) (e -(a+b)) (h -(a+b)) 37):=gp a9r a9r a9r;have N:k.take (a*37)=i.take (a*37):=by grind
 by_cases aI:((a+b:Nat):Int)<=(c:Int)
 .have ch:=ho (e:=37) (v:=d) (M:=a*37) (j0:=h - a) (i:=e - a) (A j r) p a9r;rw[a4K (l:=m) a9r]at ch;obtain⟨f,l⟩: ∃f,f=putAt k (a*37) m:=⟨_,rfl⟩;have x:f.length=k.length:=by rw[l,eK _ _ _ a9r]
  have n:(f.drop (c*37)).take ((g - c)*37)=i.drop (c*37):=by
   have n:(k.take (a*37)++m).length=(a+b)*37:=by grind
   rw[l,putAt,show c*37=(a+b)*37+(c*37 -(a+b)*37) by omega,<-a5D,a7O n,a5D,<-Q,a6h];congr 1
   .omega
   .congr 1;omega
  rw[<-l]at ch;have n:c8 37 (.al d g h 37) (some (.v (.int .i64 (c:Int)))) none none=some (.bx d (c*37) (g - c) (h - c) 37):=gp a9r a9r a9r;have n:bN (j.set d (.cells f)) 37 (.bx d (c*37) (g - c) (h - c) 37)=some (g - c,i.drop (c*37)):=by simp only[bN,U.af (U.ah j d (.cells f))];grind
  have ca:=ho (e:=37) (v:=d) (M:=(a+b)*37) (j0:=h -(a+b)) (i:=e -(a+b)) n (U.ah j d (.cells f)) a9r;rw[a4K (l:=i.drop (c*37)) a9r,U.set_set]at ca;obtain⟨y,n⟩: ∃y,y=putAt f ((a+b)*37) (i.drop (c*37)):=⟨_,rfl⟩;have q:y.length=k.length:=by rw[n,eK _ _ _ a9r,x]
  rw[<-n]at ca;obtain⟨k6,q,s⟩:=uw (e:=37) (j0:=d) (M:=g) (c0:=h) (i:=e) (e2:= .i64) a9r S k0;obtain⟨W,V,k7,k1⟩:=s (j.set d (.cells y)) y (U.ah _ _ _) a9r;have s:k8= .bx d (c*37) (g - c) (h - c) 37:=by grind
  subst s;refine dD (Cg @B @C @c1 @D @G @H @I @K @c2 @aI @O @P @z @ch @ca @q @V @U.set_set) ?_;refine⟨_,U.a1,U.ae o.1 u,.inr ⟨d,e,h,_,rfl,u,U.ah _ _ _,a9r,?_,?_,a9r,T⟩⟩
  .rw[k1,n,l,show e*37=a*37+b*37+(g - c)*37 by omega,show(a+b)*37=a*37+b*37 by omega];exact(pv (g:=k) (A:=m) (e1:=i.drop (c*37)) N t X a9r).2
  grind
 .have n:k≠ []:=by rintro rfl;simp at E;omega
  have q:F≠ []:=by rintro rfl;simp at k5;omega
  have s:ks (.bx d ((a+b)*37) (e -(a+b)) (h -(a+b)) 37) (.al w b Z 37) j=some (.v (.bool false)):=x2 rfl rfl j9 (qy p n) (qy r q);have ch:=ho (e:=37) (v:=d) (M:=(a+b)*37) (j0:=h -(a+b)) (i:=e -(a+b)) (k2 j k i p a9r Q) p a9r;rw[a4K (l:=i.drop (c*37)) a9r]at ch;obtain⟨f,l⟩: ∃f,f=putAt k ((a+b)*37) (i.drop (c*37)):=⟨_,rfl⟩;have x:f.length=k.length:=by rw[l,eK _ _ _ a9r]
  rw[<-l]at ch;have Y:(j.set d (.cells f)) w=some (.cells F):=by rw[U.an _ _ (a4S j9)];exact r
  have ca:=ho (e:=37) (v:=d) (M:=a*37) (j0:=h - a) (i:=e - a) (A _ Y) (U.ah j d (.cells f)) a9r;rw[a4K (l:=m) a9r,U.set_set]at ca;refine dD (o0 @B @C @c1 @D @G @H @I @K @c2 @aI @O @P @z @s @ch @ca @U.set_set) ?_;refine⟨_,U.a1,U.ae o.1 u,.inr ⟨d,e,h,_,rfl,u,U.ah _ _ _,?_,?_,?_,a9r,T⟩⟩
  .rw[eK _ _ _ a9r,x,E]
  .rw[l,show e*37=a*37+b*37+(g - c)*37 by omega,show(a+b)*37=a*37+b*37 by omega];exact(pv (g:=k) (A:=m) (e1:=i.drop (c*37)) N t X a9r).1
  grind
theorem YH (d i:U) (f:List R) (e:R) (c a b:Nat) (g:Int) (h:g=(b:Int)) (m:ar d i 37 f e) (k:f.length=c*37) (j:a<b) (l:b<=c) (n:c<=100000):
  AC Tryz.prog 242 [e,.v (.int .i64 (a:Int)),.v (.int .i64 g),.J [] .nil] i λe g=>ar d g 37 (f.take (a*37)++f.drop (b*37)) e:=by
 subst h;obtain⟨d,o,e,h,rfl,l,j,q,x,n,n,r⟩:=m.al (λp=>by rw[p]at k;simp at k;omega);obtain rfl:c=o:=a9r;have s: ∀g:U,bN g 37 (.J [] .nil)=some (0,[]):=λg=>rfl;refine bf hm Br a9s ?_;obtain⟨g,t⟩:=DQ (i:=37) (j0:=d) (a:=c) (M:=e) (c0:=a) (e:=b) (e2:= .i64) (b:= .i64) a9r a9r;have u: ¬(a:Int)=b:=a9r;have v:c8 37 (.al d c e 37) none (some (.v (.int .i64 (a:Int)))) none=some (.al d a e 37):=hQ a9r;have w:(List.replicate 32 (R.v (.int .u8 0))++ [R.J [] .nil,.J [] .nil]++ [R.v (.int .i64 0),.v (.int .i64 0)]++ [R.J [] .nil]).length=37:=a9s;have g:(f.take (a*37)).length=a*37:=by rw[a4N];omega
 by_cases c1:(b:Int)=c
 .have k:=eq_true c1;obtain rfl:b=c:=a9r;have o:f.drop (b*37)= []:=a5x a9r;rw[o,a5T];refine dD (aM @t @u @k @v) ?_;refine uv j q (s i) a9r a9r a9r ?_;have o:putAt h (a*37) []=h:=by simp[putAt]
  rw[o,U.sK j];obtain⟨y,ch,ca⟩:=uw (e:=37) (j0:=d) (M:=b) (c0:=e) (i:=a) (e2:= .i64) a9r n w;obtain⟨k,p,z,A⟩:=ca i h j q;have q:(a:Int)<(b:Int):=a9r;refine dD (aM @a6z @q @ch @p) ?_;refine⟨_,U.a1,U.ae m.1 l,.inr ⟨d,a,e,_,rfl,l,U.ah _ _ _,a9r,?_,g,a9r,r⟩⟩;grind
 have g:b<c:=a9r;obtain⟨q,B,C,D⟩:=ow (i:=37) (j0:=d) (M:=c) (c0:=e) (e:=b) (e2:= .i64) a9r n;have g:(f.drop (b*37)).length=(c - b)*37:=by rw[a4X];omega
 obtain⟨g,E⟩: ∃E,E=a+(c - b):=⟨_,rfl⟩;have E:(a:Int)+((c - b:Nat):Int)=(g:Int):=a9r;have c2: ¬(e:Int)<(g:Int):=a9r;have F:c8 37 (.al d c e 37) none (some (.v (.int .i64 (g:Int)))) none=some (.al d g e 37):=hQ a9r;have G:c8 37 (.al d g e 37) (some (.v (.int .i64 (a:Int)))) none none=some (.bx d (a*37) (g - a) (e - a) 37):=gp a9r a9r a9r;have H:h.take (a*37)=f.take (a*37):=by grind
 have aI:(a:Int)<=(b:Int):=a9r;have o:putAt h (a*37) ([]:List R)=h:=by simp[putAt]
 have ch:=ho (e:=37) (v:=d) (M:=a*37) (j0:=e - a) (i:=g - a) (s i) j a9r;rw[a9e,o,U.sK j]at ch;have o:c8 37 (.al d c e 37) (some (.v (.int .i64 (b:Int)))) none none=some (.bx d (b*37) (c - b) (e - b) 37):=gp a9r a9r a9r;have o:q= .bx d (b*37) (c - b) (e - b) 37:=by simp_all
 subst o;have ca:=ho (e:=37) (v:=d) (M:=a*37) (j0:=e - a) (i:=g - a) (D i h f j a9r x) j a9r;rw[a4K (l:=f.drop (b*37)) a9r]at ca;obtain⟨k,j⟩: ∃k,k=putAt h (a*37) (f.drop (b*37)):=⟨_,rfl⟩;have a:k.length=h.length:=by rw[j,eK _ _ _ a9r]
 rw[<-j]at ca;obtain⟨y,a,b⟩:=uw (e:=37) (j0:=d) (M:=c) (c0:=e) (i:=g) (e2:= .i64) a9r n w;obtain⟨W,p,z,A⟩:=b (i.set d (.cells k)) k (U.ah _ _ _) a9r;have b:(([]:List R).length:Int)=0:=rfl;refine dD (o0 @t @u @c1 @v @B @C @Int.add_zero @E @c2 @aI @F @G @ch @ca @a @p @U.set_set) ?_;refine⟨_,U.a1,U.ae m.1 l,.inr ⟨d,g,e,_,rfl,l,U.ah _ _ _,a9r,?_,?_,a9r,r⟩⟩;grind[putAt,List.take_left',List.length_append];grind
end Go.Proofs.YtlgnfcaolejgeaaGreat
namespace Go.bB
open Go
structure jS (c:U) (k:Nat) (a:R) (n:Nat) (us:List R):Prop where
 src: ∀b,c.sub b->bN b k a=some (n,us)
 len:fg a=some (.v (.int .i64 (n:Int)))
 one:a.cells= [a]
 full:us.length=n*k
variable{f t e7:U}{g A e1:List R}{e i v M c0 j0:Nat}
def jS.mono {a:R} (b:jS f e a i g) (c:f.sub t):jS t e a i g:=⟨λd h=>b.src d (U.aq c h),b.len,b.one,b.full⟩
theorem jS.J {s:U}{b:Nat}{a:List R}{o:Own} (d:aN b a):jS s b (.J a o) a.length (flat a):=⟨λk _=>by
 have:a.all (λc=>decide (c.cells.length=b))=true:=a4Y.2 λc h=>decide_eq_true (d c h);simp only[bN,this,if_true],rfl,rfl,dh d⟩
variable{n b3:R}
theorem ar.ax (b:ar t f e g n) (k:0<e): ∃a,g.length=a*e/\jS f e n a g:=by
 obtain⟨a,c,_,d⟩:=b.src;refine⟨a,c,λo h=> ?_,d,?_,c⟩
 .obtain⟨p,r,x,_⟩:=(ar.mono b h).src;grind
 .rcases b.2 with ⟨_,rfl|rfl⟩|⟨y,a,z,C,rfl,_⟩<;>rfl
variable{s a7:R -> U -> Prop}{b4:FuncId}{m:Program}
theorem AC.nn (h:View f n t b3) (k:AC m b4 (g++b3::A) t s):AC m b4 (g++n::A) f s:=by
 refine k.pre λC o p a r=> ?_;have x:=a.2 g.length n a9s;obtain⟨y,b,D⟩:=h p o _ r x;refine⟨y,?_,b⟩;have c:=a.mono b.le;refine⟨by rw[c.1];simp,λd z E=> ?_⟩;by_cases F:d=g.length;simp_all
 .refine c.2 d z ?_;grind
end Go.bB
namespace Go.Proofs.YtlgnfcaolejgeaaGreat
open Go Go.bB
theorem YI (a:Nat) (C:a<=100000000) (d:U):
  AC Tryz.prog 354 [.J [] .nil,.v (.int .i64 (a:Int))] d λr x=>ar d x 1 [] r:=by
 refine bf hm Sz a9s ?_;have h: ¬(a:Int)<0:=a9r;have k:(a:Int) -(0 - 0)=a:=a9r;have o:c8 1 (.J [] .nil) none (some (.v (.int .i64 0))) none=some (.J [] .nil):=x0;by_cases c1:(0:Int)<a
 .refine dD (bp @h @k @c1 @o @a8I) ?_;refine Ck a9r a9r a9r λb c D p E y F=> ?_;have z:c8 1 (.al b a c 1) none (some (.v (.int .i64 0))) none=some (.al b 0 c 1):=hQ (v:=0) a9r;refine dD @z ?_;refine⟨_,U.a1,U.ae U.a1 p,.inr ⟨b,0,c,_,rfl,p,U.ah _ _ _,?_,a9s,a9s,a9r,y⟩⟩;simp_all
 .refine dD (bp @h @k @c1 @o @a8I) ?_;exact⟨_,U.a1,ar.nil U.a1⟩
def YJ (c:U) (d e:R) (k:Own) (f g:Nat) (o s:List R) (i:jS c 1 d f o) (j:jS c 1 e g s) (a:f<=100000) (b:g<=100000):
  AC Tryz.prog 342 [.J [d,e] k] c λa b=>ar c b 1 (o++s) a:=by
 refine bf hm Sm a9s ?_;have y:=i.len;have z:=j.len;have a:bT c 1 (.J [d,e] k) [d,e]:=bT.J λh h=>by
  simp only[a5k,a6p,or_false]at h;rcases h with rfl|rfl
  .rw[i.one];rfl
  .rw[j.one];rfl
 have p:(([d,e].length:Nat):Int)=2:=rfl;obtain⟨h,q,l⟩:=a.get 0 d rfl;obtain⟨m,r,n⟩:=a.get 1 e rfl;have w: ∀b,c.sub b->dr false 1 b h=some d:=λb a=>by rw[l.ld b a false 1 a9r (by rw[i.one];simp),i.one];rfl
 have x: ∀b,c.sub b->dr false 1 b m=some e:=λb a=>by rw[n.ld b a false 1 a9r (by rw[j.one];simp),j.one];rfl
 have a:((0:Nat):Int)=0:=rfl;have h:((1:Nat):Int)=1:=rfl;rw[a]at q;rw[h]at r;have A:=w c U.a1;have B:=x c U.a1;have bp: ¬(f:Int)<0:=a9r;have bD: ¬(f:Int)+(g:Int)<0:=a9r;refine dD @p ?_;refine cv (λa b=>b=c/\a 0= .J [d,e] k/\a 9= .J [d,e] k/\a 10= .v (.int .i64 2)/\((a 11= .v (.int .i64 0)/\a 3= .v (.int .i64 0))\/(a 11= .v (.int .i64 1)/\a 3= .v (.int .i64 f))\/(a 11= .v (.int .i64 2)/\a 3= .v (.int .i64 ((f:Int)+(g:Int))))))
  (λa _=>match a 11 with| .v (.int _ t)=>2 - t.toNat| _=>0) ⟨rfl,?_⟩ ?_
 .refine dD @p ?_;exact .inl trivial
 rintro a u ⟨rfl,l,m,n,v⟩;rcases v with ⟨h,c⟩|⟨h,c⟩|⟨h,c⟩
 .refine dD (cu @l @m @n @h @c @q @A @y @bp @a8E) ?_;simp
 .refine dD (ds @l @m @n @h @c @r @B @z @bD) ?_;simp
 .have y:(f:Int)+(g:Int)=((f+g:Nat):Int):=a9r;rw[y]at c;simp -dsimp -implicitDefEqProofs (disch:=first|omega|assumption|(simp only[aE,Nat.reduceAdd];try omega)) only[go_sem,simprocAttr,-List.reduceReplicate,↓eM,l,m,n,h,c];refine ai (YI (f+g) a9r _) ?_;intro f f f;simp -dsimp -implicitDefEqProofs (disch:=first|omega|assumption|(simp only[aE,Nat.reduceAdd];try omega)) only[go_sem,simprocAttr,-List.reduceReplicate,↓eM,l,m,n,h,c,p];refine cv (λa b=>a 25= .J [d,e] k/\a 26= .v (.int .i64 2)/\((a 27= .v (.int .i64 0)/\ar u b 1 [] (a 6))\/(a 27= .v (.int .i64 1)/\ar u b 1 o (a 6))\/(a 27= .v (.int .i64 2)/\ar u b 1 (o++s) (a 6))))
   (λa _=>match a 27 with| .v (.int _ t)=>2 - t.toNat| _=>0) ?_ ?_
  .simp -dsimp -implicitDefEqProofs (disch:=first|omega|assumption|(simp only[aE,Nat.reduceAdd];try omega)) only[go_sem,simprocAttr,-List.reduceReplicate,↓eM,l,m,n,h,c,p];exact .inl f
  rintro a k ⟨e,f,v⟩;have g:=i.full;have l:=j.full;rcases v with ⟨d,c⟩|⟨d,c⟩|⟨d,c⟩
  .have h:=w k c.1;generalize m:a 6=ej at c;simp -dsimp -implicitDefEqProofs (disch:=first|omega|assumption|(simp only[aE,Nat.reduceAdd];try omega)) only[go_sem,simprocAttr,-List.reduceReplicate,↓eM,e,f,d,q,h,m];refine fk c a9r (i.src k c.1) g (by rw[a4T,g];omega) (by rw[a4T,g];omega) λn b i=> ?_;simp -dsimp -implicitDefEqProofs (disch:=first|omega|assumption|(simp only[aE,Nat.reduceAdd];try omega)) only[go_sem,simprocAttr,-List.reduceReplicate,↓eM,e,f,d,q,h];exact .inr (.inl i)
  .have h:=x k c.1;generalize m:a 6=ej at c;simp -dsimp -implicitDefEqProofs (disch:=first|omega|assumption|(simp only[aE,Nat.reduceAdd];try omega)) only[go_sem,simprocAttr,-List.reduceReplicate,↓eM,e,f,d,r,h,m];refine fk c a9r (j.src k c.1) l (by rw[g,l];omega) (by rw[g,l];omega) λn b i=> ?_;simp -dsimp -implicitDefEqProofs (disch:=first|omega|assumption|(simp only[aE,Nat.reduceAdd];try omega)) only[go_sem,simprocAttr,-List.reduceReplicate,↓eM,e,f,d,r,h];exact .inr (.inr i)
  .refine dD (aI @e @f @d) ?_;exact⟨_,U.a1,c⟩
def YK (a:Nat) (D:a<=100000000) (d:U):
  AC Tryz.prog 355 [.J [] .nil,.v (.int .i64 (a:Int))] d λr x=>ar d x 37 [] r:=by
 refine bf hm SB a9s ?_;have h: ¬(a:Int)<0:=a9r;have k:(a:Int) -(0 - 0)=a:=a9r;have o:c8 37 (.J [] .nil) none (some (.v (.int .i64 0))) none=some (.J [] .nil):=x0;by_cases c1:(0:Int)<a
 .refine dD (bp @h @k @c1 @o @a8I) ?_;refine Ck a9r a9r a9r λb c E p F y z=> ?_;have C:c8 37 (.al b a c 37) none (some (.v (.int .i64 0))) none=some (.al b 0 c 37):=hQ (v:=0) a9r;refine dD @C ?_;refine⟨_,U.a1,U.ae U.a1 p,.inr ⟨b,0,c,_,rfl,p,U.ah _ _ _,?_,a9s,a9s,a9r,y⟩⟩;rw[a4L,jI,z];simp;omega
 .refine dD (bp @h @k @c1 @o @a8I) ?_;exact⟨_,U.a1,ar.nil U.a1⟩
def YL (c:U) (d e:R) (k:Own) (f g:Nat) (o s:List R) (i:jS c 37 d f o) (j:jS c 37 e g s) (a:f<=100000) (b:g<=100000):
  AC Tryz.prog 343 [.J [d,e] k] c λa b=>ar c b 37 (o++s) a:=by
 refine bf hm Sp a9s ?_;have y:=i.len;have z:=j.len;have a:bT c 1 (.J [d,e] k) [d,e]:=bT.J λh h=>by
  simp only[a5k,a6p,or_false]at h;rcases h with rfl|rfl
  .rw[i.one];rfl
  .rw[j.one];rfl
 have p:(([d,e].length:Nat):Int)=2:=rfl;obtain⟨h,q,l⟩:=a.get 0 d rfl;obtain⟨m,r,n⟩:=a.get 1 e rfl;have w: ∀b,c.sub b->dr false 1 b h=some d:=λb a=>by rw[l.ld b a false 1 a9r (by rw[i.one];simp),i.one];rfl
 have x: ∀b,c.sub b->dr false 1 b m=some e:=λb a=>by rw[n.ld b a false 1 a9r (by rw[j.one];simp),j.one];rfl
 have a:((0:Nat):Int)=0:=rfl;have h:((1:Nat):Int)=1:=rfl;rw[a]at q;rw[h]at r;have A:=w c U.a1;have B:=x c U.a1;have bp: ¬(f:Int)<0:=a9r;have bD: ¬(f:Int)+(g:Int)<0:=a9r;refine dD @p ?_;refine cv (λa b=>b=c/\a 0= .J [d,e] k/\a 9= .J [d,e] k/\a 10= .v (.int .i64 2)/\((a 11= .v (.int .i64 0)/\a 3= .v (.int .i64 0))\/(a 11= .v (.int .i64 1)/\a 3= .v (.int .i64 f))\/(a 11= .v (.int .i64 2)/\a 3= .v (.int .i64 ((f:Int)+(g:Int))))))
  (λa _=>match a 11 with| .v (.int _ t)=>2 - t.toNat| _=>0) ⟨rfl,?_⟩ ?_
 .refine dD @p ?_;exact .inl trivial
 rintro a u ⟨rfl,l,m,n,v⟩;rcases v with ⟨h,c⟩|⟨h,c⟩|⟨h,c⟩
 .refine dD (cu @l @m @n @h @c @q @A @y @bp @a8E) ?_;simp
 .refine dD (ds @l @m @n @h @c @r @B @z @bD) ?_;simp
 .have y:(f:Int)+(g:Int)=((f+g:Nat):Int):=a9r;rw[y]at c;simp -dsimp -implicitDefEqProofs (disch:=first|omega|assumption|(simp only[aE,Nat.reduceAdd];try omega)) only[go_sem,simprocAttr,-List.reduceReplicate,↓eM,l,m,n,h,c];refine ai (YK (f+g) a9r _) ?_;intro f f f;simp -dsimp -implicitDefEqProofs (disch:=first|omega|assumption|(simp only[aE,Nat.reduceAdd];try omega)) only[go_sem,simprocAttr,-List.reduceReplicate,↓eM,l,m,n,h,c,p];refine cv (λa b=>a 25= .J [d,e] k/\a 26= .v (.int .i64 2)/\((a 27= .v (.int .i64 0)/\ar u b 37 [] (a 6))\/(a 27= .v (.int .i64 1)/\ar u b 37 o (a 6))\/(a 27= .v (.int .i64 2)/\ar u b 37 (o++s) (a 6))))
   (λa _=>match a 27 with| .v (.int _ t)=>2 - t.toNat| _=>0) ?_ ?_
  .simp -dsimp -implicitDefEqProofs (disch:=first|omega|assumption|(simp only[aE,Nat.reduceAdd];try omega)) only[go_sem,simprocAttr,-List.reduceReplicate,↓eM,l,m,n,h,c,p];exact .inl f
  rintro a k ⟨e,f,v⟩;have g:=i.full;have l:=j.full;rcases v with ⟨d,c⟩|⟨d,c⟩|⟨d,c⟩
  .have h:=w k c.1;generalize m:a 6=ej at c;simp -dsimp -implicitDefEqProofs (disch:=first|omega|assumption|(simp only[aE,Nat.reduceAdd];try omega)) only[go_sem,simprocAttr,-List.reduceReplicate,↓eM,e,f,d,q,h,m];refine fk c a9r (i.src k c.1) g (by rw[a4T,g];omega) (by rw[a4T,g];omega) λn b i=> ?_;simp -dsimp -implicitDefEqProofs (disch:=first|omega|assumption|(simp only[aE,Nat.reduceAdd];try omega)) only[go_sem,simprocAttr,-List.reduceReplicate,↓eM,e,f,d,q,h];exact .inr (.inl i)
  .have h:=x k c.1;generalize m:a 6=ej at c;simp -dsimp -implicitDefEqProofs (disch:=first|omega|assumption|(simp only[aE,Nat.reduceAdd];try omega)) only[go_sem,simprocAttr,-List.reduceReplicate,↓eM,e,f,d,r,h,m];refine fk c a9r (j.src k c.1) l (by rw[g,l];omega) (by rw[g,l];omega) λn b i=> ?_;simp -dsimp -implicitDefEqProofs (disch:=first|omega|assumption|(simp only[aE,Nat.reduceAdd];try omega)) only[go_sem,simprocAttr,-List.reduceReplicate,↓eM,e,f,d,r,h];exact .inr (.inr i)
  .refine dD (aI @e @f @d) ?_;exact⟨_,U.a1,c⟩
def fr (k a:U) (b c:Nat) (d:Except Int (List ay)×ag) (o:R):Prop:=
 match d.1 with
 | .error p=>bC a b c d.2/\Ext b c k a/\p≠0/\o= .aL [.J [] .nil,.v (.int .i64 p)]
 | .ok bJ=> ∃r h,az bt bJ r/\o= .aL [h,.v (.int .i64 0)]/\dd k a b c d.2 37 (flat r) h/\(bJ= []->h= .J [] .nil)
theorem fr.base {d h k:U}{b c:Nat}{o:Except Int (List ay)×ag}{p:R} (a:fr h k b c o p) (r:Ext b c d h):fr d k b c o p:=by
 unfold fr at a|-;split at a
 .exact⟨a.1,r.trans a.2.1,a.2.2⟩
 grind[dd.base]
variable{n b3:R}{f t e7:U}{e i v M c0 j0:Nat}
theorem fr.shape {a:Except Int (List ay)×ag} (d:fr f t e i a n): ∃b c,n= .aL [b,.v (.int .i64 c)]:=by grind[fr]
def YM (b:U) (d k:Nat) (h:ag) (E:bC b d k h) (a:List (List Int)) (o:List R) (r:Own) (c:Nat) (F:1<=c) (G:c<=8) (x:az isRow a o) (L:a.length<=100000):
  AC Tryz.prog 238 [.J o r,.bH 155 [dY d c] []] b λp P=>fr b P d k (nm h c a) p:=by
 refine bf hm Qd a9s ?_;have S:=x.len;refine ax @S ?_;refine ai (xG a.length a9r b) ?_;rintro _ b ⟨rfl,rfl⟩;refine cp ?_;have y:a6.bV a.length<=100000:=by unfold a6.bV;omega
 refine ai (YB a o r (a6.bV a.length) b x L y) ?_;rintro _ T ⟨z,gs,V,rfl,W⟩;refine cp ?_;have C:=nk (g:=a6.bV a.length) (l:=a);refine ai (YC T d k h (E.mono z) _ gs V c F G W (λe f=>by have:=C.2 e f;omega) (by rw[C.1];exact y)) ?_;intro p g i;have D:fr b g d k (nm h c a) p:=fr.base (o:=nm h c a) i (Ext.of z);obtain⟨j,l,rfl⟩:=D.shape;refine cp ?_;exact⟨_,U.a1,D⟩
def DT (d p:U) (b h:Nat) (k:ag) (D:bC d b h k) (c:List (List Int)) (o:List R) (r:R) (E:ar d p 1 (flat o) r) (a:Nat) (F:1<=a) (G:a<=8) (x:az isRow c o) (L:c.length<=100000):
  AC Tryz.prog 238 [r,.bH 155 [dY b a] []] p λy z=>fr d z b h (nm k a c) y:=by
 obtain⟨P,S,C⟩:=ar.DK E x;refine AC.nn (g:= []) S ?_;exact(YM P b h k (D.mono C) c o .any a F G x L).mono λy z T=>fr.base T (Ext.of C)
def YN (b:U) (d k:Nat) (h:ag) (E:bC b d k h) (a:List (ay)) (o:List R) (r:Own) (c:Nat) (F:1<=c) (G:c<=8) (x:az bt a o) (L:a.length<=100000):
  AC Tryz.prog 241 [.J o r,.bH 243 [dY d c] []] b λp P=>fr b P d k (ji h c a) p:=by
 refine bf hm Qj a9s ?_;have S:=x.len;refine ax @S ?_;refine ai (xG a.length a9r b) ?_;rintro _ b ⟨rfl,rfl⟩;refine cp ?_;have y:a6.bV a.length<=100000:=by unfold a6.bV;omega
 refine ai (DO a o r (a6.bV a.length) b x L y) ?_;rintro _ T ⟨z,gs,V,rfl,W⟩;refine cp ?_;have C:=nk (g:=a6.bV a.length) (l:=a);refine ai (DP T d k h (E.mono z) _ gs V c F G W (λe f=>by have:=C.2 e f;omega) (by rw[C.1];exact y)) ?_;intro p g i;have D:fr b g d k (ji h c a) p:=fr.base (o:=ji h c a) i (Ext.of z);obtain⟨j,l,rfl⟩:=D.shape;refine cp ?_;exact⟨_,U.a1,D⟩
def DU (d p:U) (b h:Nat) (k:ag) (D:bC d b h k) (c:List (ay)) (o:List R) (r:R) (E:ar d p 37 (flat o) r) (a:Nat) (F:1<=a) (G:a<=8) (x:az bt c o) (L:c.length<=100000):
  AC Tryz.prog 241 [r,.bH 243 [dY b a] []] p λy z=>fr d z b h (ji k a c) y:=by
 obtain⟨P,S,C⟩:=ar.uu E x;refine AC.nn (g:= []) S ?_;exact(YN P b h k (D.mono C) c o .any a F G x L).mono λy z T=>fr.base T (Ext.of C)
def DV: ∀(a:List ay) (b:gg),(a.foldl ew b).size=b.size+(a.map (·.size)).sum
 | [],b=>by simp
 |c::a,b=>by rw[a5Q,DV a];simp[ew];omega
def xO: ∀(b:List (List Int×Bool)) (a:gg),(b.foldl dQ a).size=a.size
 | [],a=>rfl
 |c::b,a=>by rw[a5Q,xO b];unfold dQ;split<;>rfl
def xP (a:c5):(eG a).size=a.rows.length+(a.kids.map (·.size)).sum:=by unfold eG;rw[DV,xO]
structure pw (d:Nat) (k:ay) (n:c5):Prop where
 ok:dX d n=true
 eq:k=eW n
 size:k.size=n.rows.length+(n.kids.map (·.size)).sum
 o7:k.size<=1048576
variable{w j2:ay}{e0:c5}
def ux (a:fK e e0=some w):pw e w e0:=by
 unfold fK at a;split at a
 .rename_i b;split at a
  .cases a
  .rename_i c;obtain rfl:=a4I a;exact⟨b,rfl,xP e0,by show(eG e0).size<= _;omega⟩
 .cases a
variable{H:ag}
def sL (a:iI H e w=some e0):pw e w e0/\(e0.kind=2\/e0.kind=3):=by
 unfold iI at a;split at a
 .cases a
 .rename_i d hm;split at a
  .rename_i b;obtain rfl:=a4I a;refine⟨?_,b⟩;unfold fq at hm;split at hm
   .cases hm
   .split at hm
    .cases hm
    .split at hm
     .rename_i c;obtain rfl:=a4I hm;exact ux c
     .cases hm
  .cases a
theorem pw.leaf (b:pw e w e0) (c:e0.kind=2):1<=e0.rows.length/\e0.rows.length<=4/\e0.kids= []/\(∀a∈e0.rows,a.1.length=e/\a.2=true):=by have:=b.ok;simp_all [dX,if_neg,if_pos,a4M,a4Y,decide_eq_true_eq,a4P]
theorem pw.inner (k:pw e w e0) (h:e0.kind=3):e0.rows= []/\2<=e0.kids.length/\e0.kids.length<=4/\(∀a∈e0.kids,a.key.length=e/\a≠aA/\fp e a=true/\1<=a.size/\a.size<w.size):=by
 have d:=k.ok;unfold dX at d;have x: ¬e0.kind=1:=by rw[h];decide
 have y: ¬e0.kind=2:=by rw[h];decide
 rw[if_neg x,if_neg y,if_pos h]at d;simp only[a4M,a4Y,decide_eq_true_eq,a6n,decide_eq_false_iff_not]at d;obtain⟨⟨_,z⟩,⟨⟨C,D⟩,E⟩,o⟩:=d;have p:e0.rows= []:=a4P C;have F: ∀a∈e0.kids,1<=a.size:=λa b=>by
  simp_all [fp,decide_false,a8v,a4M,a6n,a8k,decide_eq_false_iff_not]
 refine⟨p,D,E,λa b=>⟨(o a b).1,(o a b).2,z a b,F a b,?_⟩⟩;have r:=k.size;rw[p]at r;simp only[a4T]at r;have G: ∀(c:List ay),(∀a∈c,1<=a.size)->(c.length:Int)<=(c.map (·.size)).sum:=by
  intro c
  induction c with
  |nil=>intro _;simp
  |cons L c ih=>grind
 obtain⟨P,S,T⟩:=a7y b;grind
def gx (d:Nat) (b:List Int):Nat->ag->ay->Except Int (List ay)×ag
  |0,c,_=>(.error 21,c)
  |k+1,c,o=>match iI c d o with
    |none=>(.error 21,c)
    |some a=>
      if a.kind=2 then
        (if kF (a.rows.map Prod.fst) b=true then(.error 8,c)
         else nm c d ((a.rows.map Prod.fst).take (eZ (a.rows.map Prod.fst) b)++b::(a.rows.map Prod.fst).drop (eZ (a.rows.map Prod.fst) b)))
      else match a.kids[hA b a]? with
        |none=>(.error 21,c)
        |some p=>match gx d b k c p with
          |(.error r,h)=>(.error r,h)
          |(.ok x,h)=>ji h d (a.kids.take (hA b a)++(x++a.kids.drop (hA b a+1)))
theorem xQ (b:List Int): ∀(a:List (List Int)),a≠ []->a6.cW bz b a<a.length
 | [],c=>absurd rfl c
 | [_],_=>by simp[a6.cW]
 | _::d::h,_=>by
  have:=xQ b (d::h) a9s;grind[a6.cW,List.length_cons]
def xR (p:Nat) (r:List Int): ∀(d:Nat) (c h:ag) (k:ay) (b:List ay),gx p r d c k=(.ok b,h)->1<=b.length/\b.length<=3
 |0,c,h,k,b,a=>by rw[gx]at a;cases (a6B a).1
 |d+1,c,h,k,b,a=>by
  rw[gx]at a;split at a
  .cases (a6B a).1
  rename_i P y;obtain⟨x,z⟩:=sL y;split at a
  .rename_i o;obtain⟨C,D,_⟩:=x.leaf o;split at a
   .cases (a6B a).1
   .have:=qP a;rw[this];simp only[a4T,a5g,a6.chunks,(nk).1,a6.bV,a4L,a4O,a4N,a4X,a4V];omega
  .rename_i o;obtain⟨_,C,D,_⟩:=x.inner (z.resolve_left o);split at a
   .cases (a6B a).1
   .rename_i E S;split at a
    .cases (a6B a).1
    .rename_i F G L;have ih:=xR p r d c G E F L;have:=qP a;rw[this];simp only[a4T,a5g,a6.chunks,(nk).1,a6.bV,a4L,a4N,a4X];omega
theorem YO (k r:Nat) (g:List Int) (p:Own) (h:Nat) (Y:1<=h) (Z:h<=8): ∀(s:Nat) (t:U) (n:ag) (a:ay) (f j l:Own),bC t k r n->a.sum.length=32->a.cF->0<s->a.size<s->
  AC Tryz.prog 156 [dY k h,.agg (ab a f j l),.J (ad g) p] t λL b=>fr t b k r (gx h g s n a) L:=by
 intro s
 induction s with
 |zero=>intro t n a f j l x w B b b;omega
 |succ s ih=>
 intro t n a f j l x w B c b;refine bf hm NQ a9s ?_;have e: ∀b,(R.agg b).cells=b:=λ_=>rfl;have F: ∀b c d o i m:R,putAt [b,c,d] 0 [o,i,m]= [o,i,m]:=λ_ _ _ _ _ _=>rfl;have q: ∀b c d,aY true 3 [b,c,d]= .agg [b,c,d]:=λ_ _ _=>rfl;have y: ∀b c,aY true 2 [b,c]= .agg [b,c]:=λ_ _=>rfl;have z: ∀b c:R,List.take 2 [b,c]= [b,c]:=λ_ _=>rfl;have u: ∀b c d:R,List.take 3 [b,c,d]= [b,c,d]:=λ_ _ _=>rfl;have G: ∀b c d:R,[b,c,d].length=3:=λ_ _ _=>rfl;have K: ∀b c d:R,aY false 1 [b,c,d]=b:=λ_ _ _=>rfl;have k4: ∀b c d:R,aY false 1 ([b,c,d].drop 2)=d:=λ_ _ _=>rfl;have C:=aX (N:=f) (e5:=j) (h5:=l) w;have D:=C.len;simp -dsimp -implicitDefEqProofs (disch:=first|omega|assumption|(simp only[aE,Nat.reduceAdd];try omega)) only[go_sem,simprocAttr,-List.reduceReplicate,e];refine aP λcX E=> ?_;simp -dsimp -implicitDefEqProofs (disch:=first|omega|assumption|(simp only[aE,Nat.reduceAdd];try omega)) only[go_sem,simprocAttr,-List.reduceReplicate,e,D];refine aP λdZ m=> ?_;have A:cX≠dZ:=by rintro rfl;rw[U.ah]at m;cases m
 have H:t dZ=none:=by rw[U.an _ _ (a4S A)]at m;exact m
 obtain⟨m,v⟩: ∃m:U,m=(t.set cX (.cells [.ptr k 0,.v (.int .i64 (h:Int))])).set dZ (.cells (ab a f j l)):=⟨_,rfl⟩;have M:t.sub m:=by rw[v];exact U.ae (U.ae U.a1 E) H
 have aM:m dZ=some (.cells (ab a f j l)):=by rw[v,U.ah]
 have aI:m cX=some (.cells [.ptr k 0,.v (.int .i64 (h:Int))]):=by rw[v,U.an _ _ A,U.ah]
 simp -dsimp -implicitDefEqProofs (disch:=first|omega|assumption|(simp only[aE,Nat.reduceAdd];try omega)) only[go_sem,simprocAttr,-List.reduceReplicate,e,D,U.an,A,U.ah,C.t37,z,y];rw[<-v];refine ai (xK m k r n (x.mono M) a f j l w B h Y Z) ?_;rintro L v ⟨j,l⟩;obtain⟨m,f⟩: ∃m,m=gx h g (s+1) n a:=⟨_,rfl⟩;rw[<-f];rw[gx]at f;cases m:iI n h a with
 |none=>rw[m]at l f;obtain rfl:=l;simp only at f;subst f;simp -dsimp -implicitDefEqProofs (disch:=first|omega|assumption|(simp only[aE,Nat.reduceAdd];try omega)) only[go_sem,simprocAttr,-List.reduceReplicate,e,F,G];refine aP λH I=> ?_;simp -dsimp -implicitDefEqProofs (disch:=first|omega|assumption|(simp only[aE,Nat.reduceAdd];try omega)) only[go_sem,simprocAttr,-List.reduceReplicate,e,F,G,q,U.set_set];have a:=U.aq (U.aq M j) (U.ae (Y:= .cells [.v (.int .u8 0),.J [] .nil,.J [] .nil]) U.a1 I);exact⟨_,U.a1,x.mono a,Ext.of a,a9v,rfl⟩
 |some a=>
  rw[m]at l f;simp only at f;obtain⟨o,i,rfl,C⟩:=l;obtain⟨k5,l1⟩:=sL m;simp -dsimp -implicitDefEqProofs (disch:=first|omega|assumption|(simp only[aE,Nat.reduceAdd];try omega)) only[go_sem,simprocAttr,-List.reduceReplicate,e,F,G];refine aP λH I=> ?_;obtain⟨l,Q⟩: ∃l:U,l=v.set H (.cells [.v (.int .u8 (a.kind.toNat:Int)),o,i]):=⟨_,rfl⟩;have w:v.sub l:=by rw[Q];exact U.ae U.a1 I
  have bw:l H=some (.cells [.v (.int .u8 (a.kind.toNat:Int)),o,i]):=by rw[Q,U.ah]
  have m:=iG a.kind 2 a9r;simp only[a7R]at m;rw[show UInt8.ofNat 2=2 from rfl]at m;simp -dsimp -implicitDefEqProofs (disch:=first|omega|assumption|(simp only[aE,Nat.reduceAdd];try omega)) only[go_sem,simprocAttr,-List.reduceReplicate,e,F,G,q,U.set_set,U.ah,K];rw[U.set_set,<-Q];obtain⟨l2,S,m,j9,T,B,A,D,K⟩:=C;have C:fC v a o i S m:=⟨B,A,(bT.dW j9 a9r rfl (B.cells λ_ _=>di.cells)).mono T.1,bT.dW T a9r rfl (A.cells λ_ _=>bt.cells),D,K⟩;have N:=C.mono w;have k6:=(x.mono (U.aq M j)).cH I;have k7:=x.cH E;have V:=U.aq M (U.aq j w);have k8:l cX=some (.cells [.ptr k 0,.v (.int .i64 (h:Int))]):=w _ _ (j _ _ aI);have k9:=x.mono V;by_cases K:a.kind=2
  .rw[if_pos K]at f;have k0:((a.kind.toNat:Int)=2)=True:=by rw[K];simp
   simp -dsimp -implicitDefEqProofs (disch:=first|omega|assumption|(simp only[aE,Nat.reduceAdd];try omega)) only[go_sem,simprocAttr,-List.reduceReplicate,e,F,G,q,U.af bw,k0,u];refine ai (xJ a S m o i l N) ?_;rintro b B ⟨v,j,w⟩;have C:=bT.dW w a9r rfl (j.cells λ_ _=>isRow.cells);simp -dsimp -implicitDefEqProofs (disch:=first|omega|assumption|(simp only[aE,Nat.reduceAdd];try omega)) only[go_sem,simprocAttr,-List.reduceReplicate,e];have D:(a.rows.map Prod.fst).length=a.rows.length:=a4V _;obtain⟨l3,l4,_,_⟩:=k5.leaf K;generalize W:a.rows.map Prod.fst=E at*;refine ai (DI E v b g p B j C a9r) ?_;rintro _ B ⟨rfl,b,rfl⟩;have v:=w.1 _ _ bw;have D:=w.1 _ _ k8;generalize eZ E g=b at*;cases j:kF E g with
   |true=>rw[if_pos j]at f;subst f;simp -dsimp -implicitDefEqProofs (disch:=first|omega|assumption|(simp only[aE,Nat.reduceAdd];try omega)) only[go_sem,simprocAttr,-List.reduceReplicate,e];exact⟨_,U.a1,k9.mono w.1,Ext.of (U.aq V w.1),a9v,rfl⟩
   |false=>
    rw[if_neg (by simp[j])]at f;have j:nW 1 U.emp [R.J (ad g) p] (bP (λ_ _=>True) ())=True:=eq_true (eT (by simp[aN,R.cells]) a9s λ_ _=>trivial);simp -dsimp -implicitDefEqProofs (disch:=first|omega|assumption|(simp only[aE,Nat.reduceAdd];try omega)) only[go_sem,simprocAttr,-List.reduceReplicate,e,U.af v,U.af D,q,y,z,u,j,rT];refine ai (xJ a S m o i B (N.mono w.1)) ?_;rintro a4 j ⟨k1,O,P⟩;have j:=P.1 _ _ D;simp -dsimp -implicitDefEqProofs (disch:=first|omega|assumption|(simp only[aE,Nat.reduceAdd];try omega)) only[go_sem,simprocAttr,-List.reduceReplicate,e,U.af j,q,y,z,u];rw[W]at O;refine eT (by simp[aN,R.cells]) a9s λX j=> ?_;have v:flat [R.J (ad g) p]= [R.J (ad g) p]:=rfl;rw[v,a6g];have v:=ar.new (ob:= .cells [R.J (ad g) p]) P j;have W:=U.bG P.1 j;rw[nj O]at v;obtain⟨j,C⟩: ∃j:U,j=B.set X (.cells [R.J (ad g) p]):=⟨_,rfl⟩;have l0:B.sub j:=by rw[C];exact U.ae U.a1 W
    have k3:j X=some (.cells [R.J (ad g) p]):=by rw[C,U.ah]
    rw[<-C]at v;have W:=O.len;have W:=l0 _ _ D;have k2:=v.1 _ _ W;simp -dsimp -implicitDefEqProofs (disch:=first|omega|assumption|(simp only[aE,Nat.reduceAdd];try omega)) only[go_sem,simprocAttr,-List.reduceReplicate,e,U.af k2,q,y,z,u];refine ai (YG j _ k1 a4 v (by grind) b a9r a9r _ X k3) ?_;intro dx k3 D;have l5:=D.1 _ _ W;have X:az isRow (E.take b++g::E.drop b) (k1.take b++R.J (ad g) p::k1.drop b):=(O.take b).append ⟨⟨p,rfl⟩,O.drop b⟩;rw[<-nj X]at D;simp -dsimp -implicitDefEqProofs (disch:=first|omega|assumption|(simp only[aE,Nat.reduceAdd];try omega)) only[go_sem,simprocAttr,-List.reduceReplicate,e,U.af l5,q,y,z,u];have O:=U.aq V (U.aq w.1 l0);refine ai (DT j k3 k r n (x.mono O) _ _ dx D h Y Z X a9t) ?_;intro L k1 E;rw[<-f]at E;obtain⟨l0,l5,rfl⟩:=E.shape;simp -dsimp -implicitDefEqProofs (disch:=first|omega|assumption|(simp only[aE,Nat.reduceAdd];try omega)) only[go_sem,simprocAttr,-List.reduceReplicate,e];exact⟨_,U.a1,fr.base E (Ext.of O)⟩
  .have W:=l1.resolve_left K;rw[if_neg K]at f;have k0: ¬(a.kind.toNat:Int)=2:=λw=>K (by simp_all);simp -dsimp -implicitDefEqProofs (disch:=first|omega|assumption|(simp only[aE,Nat.reduceAdd];try omega)) only[go_sem,simprocAttr,-List.reduceReplicate,e,F,G,q,U.af bw,k0,u];refine ai (DH a S m o i g p l N) ?_;rintro _ l ⟨rfl,rfl⟩;obtain⟨p,l3,l4,k0⟩:=k5.inner W;have p:hA g a<a.kids.length:=by grind[xQ,List.length_map]
   generalize hA g a=b at*;have O:a.kids[b]? =some a.kids[b]:=a4J p;have S:a.kids[b]'p∈a.kids:=a5o _;rw[O]at f;simp only at f;generalize a.kids[b]'p=d at O S f;obtain⟨p,k5,W,l1,F,G,K,rfl⟩:=N.kids.get O;obtain⟨_,_,_,p,p⟩:=k0 d S;obtain⟨p,O⟩: ∃p:U,p=l2.set H (.cells [.v (.int .u8 (a.kind.toNat:Int)),o,i]):=⟨_,rfl⟩;have S:=ar.new (ob:= .cells [.v (.int .u8 (a.kind.toNat:Int)),o,i]) T I;rw[<-Q,<-O]at S;have Q:=U.bG T.1 I;have I:=U.aq M j9.1;have M:t.sub p:=by rw[O];exact U.ae I (U.bG I Q)
   have Q:p H=some (.cells [.v (.int .u8 (a.kind.toNat:Int)),o,i]):=by rw[O,U.ah]
   have k2:p cX=some (.cells [.ptr k 0,.v (.int .i64 (h:Int))]):=by
    have:cX≠H:=by grind
    rw[O,U.an _ _ this];exact j9.1 _ _ aI
   have O:dd p l k r n 37 (flat m) i:=dd.of S (x.mono M) Ext.refl;obtain⟨o,H,o⟩:=N.gX.get b _ k5;have t:=aX (N:=F) (e5:=G) (h5:=K) W;have x:(R.agg (ab d F G K)).cells=ab d F G K:=rfl;rw[x]at o;have x:=o.ld l U.a1 true 37 a9r (by rw[t.len];omega);rw[show aY true 37 (ab d F G K)= .agg (ab d F G K) by rw[aY,if_pos rfl,t.t37]]at x;simp -dsimp -implicitDefEqProofs (disch:=first|omega|assumption|(simp only[aE,Nat.reduceAdd];try omega)) only[go_sem,simprocAttr,-List.reduceReplicate,e,U.af bw,U.af k8,q,y,z,u,k4,H,x];refine ai (ih l n d F G K k9 W l1 a9r a9r) ?_;intro L B x;have H:=λt o w=>xR h g s n t d o w;generalize gx h g s n d=d at f x H;obtain⟨res,t⟩:=d;cases res with
   |error d=>obtain⟨n,g,d,rfl⟩:=x;simp only at f n;subst f;simp -dsimp -implicitDefEqProofs (disch:=first|omega|assumption|(simp only[aE,Nat.reduceAdd];try omega)) only[go_sem,simprocAttr,-List.reduceReplicate,e,d];exact⟨_,U.a1,n,(Ext.of V).trans g,d,rfl⟩
   |ok o=>
    obtain⟨g,d,s,rfl,⟨d,F,G,I⟩,_⟩:=x;obtain⟨d,d⟩:=H t o rfl;simp only at f G;have d:=s.len;have T:(flat g).length=o.length*37:=by rw[dh (s.cells λ_ _=>bt.cells),d]
    have V:(flat m).length=a.kids.length*37:=by rw[dh (A.cells λ_ _=>bt.cells),A.len]
    obtain⟨d,H,K,x,rfl,N,W,j9,k0,k5,k8,k9⟩:=ar.al F (by grind);have l1:Ext k r l B:=I.trans (Ext.of F.1);have n:=G.mono F.1;obtain⟨l2,P,l3,l4⟩:=O.step l1 n;have n:=G.cH N;have G:l d=none:=by
     cases F:l d with
     |none=>rfl
     |some l=>have:=I _ _ n.1 n.2 F;rw[N]at this;cases this
    have I: ∀c l F,i= .al c l F 37->c≠d:=by
     rintro c l F rfl rfl;rcases S.2 with ⟨_,w|w⟩|⟨c,_,_,_,w,_,c,_⟩
     .cases w
     .cases w
     simp_all
    obtain⟨j,C⟩: ∃j:U,j=l2.set d (.cells x):=⟨_,rfl⟩;have v:=ar.add P W I;rw[<-C]at v;have c:j d=some (.cells x):=by rw[C,U.ah]
    have l:ar (λ_=>none) j 37 (flat g) (.al d H K 37):=⟨(λ_ _ w=>by cases w),.inr ⟨d,H,K,x,rfl,rfl,c,j9,k0,k5,k8,k9⟩⟩;have w:bC j k r t:=by rw[C];exact l3.set n
    have n:p d=none:=U.bG S.1 G;have c:Ext k r p j:=by rw[C];exact l4.set n
    have n:=c _ _ k6.1 k6.2 Q;have d:=c _ _ k7.1 k7.2 k2;have p:=v.1 _ _ n;have n:=v.1 _ _ d;simp -dsimp -implicitDefEqProofs (disch:=first|omega|assumption|(simp only[aE,Nat.reduceAdd];try omega)) only[go_sem,simprocAttr,-List.reduceReplicate,e,U.af p,U.af n,q,y,z,u,k4];refine ai (DS _ j B (flat m) (flat g) i _ a.kids.length o.length b (b+1) _ rfl v V l T a9r a9r a9r a9r a9r) ?_;intro dx k3 D;have i:=D.1 _ _ d;have d:(flat m).take (b*37)++(flat g++(flat m).drop ((b+1)*37))=flat (m.take b++(g++m.drop (b+1))):=by rw[(ga b (A.cells λ_ _=>bt.cells)).2,(ga (b+1) (A.cells λ_ _=>bt.cells)).1];simp[flat]
    rw[d]at D;have X:az bt (a.kids.take b++(o++a.kids.drop (b+1))) (m.take b++(g++m.drop (b+1))):=(A.take b).append (s.append (A.drop (b+1)));simp -dsimp -implicitDefEqProofs (disch:=first|omega|assumption|(simp only[aE,Nat.reduceAdd];try omega)) only[go_sem,simprocAttr,-List.reduceReplicate,e,U.af i,q,y,z,u];refine ai (DU j k3 k r t w _ _ dx D h Y Z X a9t) ?_;intro L k1 E;rw[<-f]at E;obtain⟨l0,l5,rfl⟩:=E.shape;simp -dsimp -implicitDefEqProofs (disch:=first|omega|assumption|(simp only[aE,Nat.reduceAdd];try omega)) only[go_sem,simprocAttr,-List.reduceReplicate,e];exact⟨_,U.a1,fr.base E ((Ext.of M).trans c)⟩
def iJ (a:Nat) (d:List Int) (h:ag) (b:ay):Except Int ay×ag:=
 if b=aA then dv h a (dH [d])
 else match gx a d (b.size.toNat+1) h b with
  |(.error k,c)=>(.error k,c)
  |(.ok bJ,c)=>ib a (bJ.length+1) c bJ
variable{g A e1:List R}{N e5 h5:Own}
def qK.lt (a:qK w N e5 h5 g):g.length=37/\g.take 37=g:=⟨a.len,a.t37⟩
def YP (m:U) (d e:Nat) (j:ag) (u:bC m d e j) (b:ay) (p q r:Own) (z:b.sum.length=32) (G:b.cF) (c:List Int) (s:Own) (a:Nat) (A:1<=a) (B:a<=8) (f:c.length=a):
  AC Tryz.prog 85 [.ptr d 0,.agg (ab b p q r),.J (ad c) s,.v (.int .i64 (a:Int))] m λf g=>bC g d e (iJ a c j b).2/\Ext d e m g/\hd (iJ a c j b).1 f:=by
 have g:=(aX (N:=p) (e5:=q) (h5:=r) z).lt;have g:=(aX (N:= .nil) (e5:= .nil) (h5:= .nil) bl).lt;have g:=ct;have y:=λH (I K L:Own) C=>cG (a:= .nil) (b:= .nil) (c:= .nil) (w:=H) (N:=I) (e5:=K) (h5:=L) bl C;have g:=y aA .nil .nil .nil bl;generalize Q:ab aA .nil .nil .nil=D at*;obtain⟨g,h⟩: ∃g,iJ a c j b=g:=⟨_,rfl⟩;rw[h];unfold iJ at h;have g:qO (a:Int) [c]=true:=by simp[qO];omega
 have M:az isRow [c] [R.J (ad c) s]:=⟨⟨s,rfl⟩,trivial⟩;have N:aN 1 [R.J (ad c) s]:=by simp[aN,R.cells]
 refine aO hm LM ?_;refine br λgS S=> ?_;refine db λt E _ _=> ?_;refine u2 λg T _ _ _ _=> ?_;generalize i:((m.set gS _).set t _).set g _=g;have l:m.sub g:=by subst i;exact aU
 have bp:g gS=some (.cells (ab b p q r)):=by subst i;exact aU
 have bw:g t=some (.cells D):=by subst i;exact aU
 clear i;have n:=u.cH E;have i:= @U.set_set;refine lY (DE a [c] _ _ g M (bT.J N) a9s) ?_;refine br λi v=> ?_;have k:=U.gZ v bp;obtain⟨k,F⟩: ∃k,g.set i (.cells [.ptr d 0,.v (.int .i64 (a:Int))])=k:=⟨_,rfl⟩;have w:g.sub k:=by rw[<-F];exact U.ae U.a1 v
 have cu:k i=some (.cells [.ptr d 0,.v (.int .i64 (a:Int))]):=by rw[<-F,U.ah]
 have V:=U.af cu;have g:=rd w bp;have x:=U.aq l w;have O:=u.cH (U.bG l v);have P: ∀(l:ag) (i:U) (res:Except Int ay) (f:R),bC i d e l->Ext d e k i->hd res f-> ∃g o,g.length=37/\g.take 37=g/\putAt D 0 g=g/\f= .aL [.agg g,.v (.int .i64 o)]/\ep i t=some D/\bC (i.set t (.cells g)) d e l/\Ext d e m (i.set t (.cells g)):=by intro l i res f t D W;obtain⟨H,I,K,L,o,m,rfl⟩:=W.shape;exact⟨_,o,(aX m).len,(aX m).t37,y _ _ _ _ m,rfl,U.aJ (D _ _ n.1 n.2 (w _ _ bw)),t.set n,((Ext.of x).trans D).set E⟩
 refine lY (nh b p q r k z G) ?_;clear S v T F y;refine aH (λD=> ?_) λD=> ?_
 .rw[if_pos D]at h;refine jN λm m=> ?_;have t:=U.ae (Y:= .buf 1 1 1) (U.a1 (f:=k)) m;refine cl (xI _ d e j (u.mono (U.aq x t)) [c] _ _ a A B M (bT.J N) a9s) ?_;rintro f i ⟨v,y,m⟩;rw[h]at v m;obtain⟨g,o,H,I,K,rfl,L,F,sM⟩:=P _ i _ f v ((Ext.of t).trans y) m;refine aa ?_;exact⟨_,U.a1,F,sM⟩
 rw[if_neg D]at h;refine cl (YO d e c s a A B (b.size.toNat+1) k j b p q r (u.mono x) z G a9r a9r) ?_;intro f i i;have k:=λl p C=>xR a c (b.size.toNat+1) j l b p C;generalize gx a c (b.size.toNat+1) j b=b at i k h;obtain⟨res,l⟩:=b;cases res with
 |error o=>obtain⟨v,y,b,rfl⟩:=i;subst h;have c:=U.aJ (y _ _ n.1 n.2 (w _ _ bw));refine aa ?_;exact⟨_,U.a1,v.set n,((Ext.of x).trans y).set E,b,by rw[Q]⟩
 |ok bJ=>
  obtain⟨j,b,b,rfl,c,_⟩:=i;obtain⟨_,i⟩:=k l bJ rfl;have V:=U.af (c.ext _ _ O.1 O.2 cu);obtain⟨i,k,n,p⟩:=c.uu b;refine cl (AC.nn (g:= [_]) k (YE i d e l n bJ j .any a A B b a9r)) ?_;rintro f b ⟨a,c,m⟩
  dsimp only at h
  rw[h]at a m;obtain⟨g,o,H,I,K,rfl,L,F,sM⟩:=P _ b _ f a (p.trans c) m;refine aa ?_;exact⟨_,U.a1,F,sM⟩
end Go.Proofs.YtlgnfcaolejgeaaGreat
namespace Go.bB
open Go
variable{n b3:R}{f t e7:U}{g A e1:List R}{e i v M c0 j0:Nat}
theorem ar.emp (b:ar e7 f e g n) (k: ∀a c d,n= .al a c d e->t a=f a):ar (λ_=>none) t e g n:=by
 refine⟨(λ_ _ b=>by cases b),?_⟩;rcases b.2 with h|⟨a,c,d,o,rfl,p,r,x⟩
 .exact .inl h
 grind
theorem ar.put {a:R} (h:ar t f e (flat g) (.al v M c0 e)) (z:0<e) (d:aN e g) (C:g[i]? =some n) (o:a.cells.length=e):
  ∃b,f v=some (.cells b)/\i*e+e<=b.length/\M=g.length/\ar t (f.set v (.cells (putAt b (i*e) a.cells))) e (flat (g.set i a)) (.al v M c0 e):=by
 obtain⟨D,c⟩:=h;rcases c with ⟨_,c|c⟩|⟨l,m,q,b,p,r,E,F,G,L,x,P⟩
 .cases c
 .cases c
 simp only[R.al.injEq,true_and,and_true]at p;obtain⟨rfl,rfl,rfl⟩:=p;have y:=(a4R.1 C).1;have S:=dh d;have T:M=g.length:=a7o z (by rw[<-L,S]);subst T;have s:i*e+e<=g.length*e:=by rw[<-a9l];exact a5a _ y
 have u:g.length*e<=c0*e:=a5a _ x;refine⟨b,E,a9r,rfl,U.ae D r,.inr ⟨v,g.length,c0,_,rfl,r,U.ah _ _ _,by rw[eK _ _ _ a9r];exact F,?_,?_,x,P⟩⟩
 .have k:g.set i a=g.take i++a::g.drop (i+1):=by rw[a6d,if_pos y]
  have V:flat (g.take i++a::g.drop (i+1))=(flat g).take (i*e)++a.cells++(flat g).drop ((i+1)*e):=by rw[(ga i d).2,(ga (i+1) d).1];simp[flat]
  rw[k,V,putAt,o,<-G];have w:(b.take (i*e)++a.cells).length=i*e+e:=by grind
  grind[List.take_append,List.take_of_length_le,Nat.min_eq_left,List.drop_take,Nat.succ_mul]
 .have W:aN e (g.set i a):=λk j=>by
   rcases a6Y j with h|rfl
   .exact d k h
   .exact o
  rw[dh W,a7m]
end Go.bB
namespace Go.Proofs.YtlgnfcaolejgeaaGreat
open Go Go.bB
structure ic where
 leaf:Bool
 rows:List (List Int)
 kids:List ay
structure iK (a:U) (x:ic) (d h:R) (b c:List R):Prop where
 r:az isRow x.rows b
 k:az bt x.kids c
 ax:bT a 1 d b
 uy:bT a 37 h c
 ox:jS a 1 d x.rows.length b
 jT:jS a 37 h x.kids.length (flat c)
 kC:x.rows.length<=1000
 iC:x.kids.length<=1000
def iK.mono {c d:U}{h:ic}{k o:R}{p r:List R} (a:iK c h k o p r) (b:c.sub d):iK d h k o p r:=⟨a.r,a.k,a.ax.mono b,a.uy.mono b,a.ox.mono b,a.jT.mono b,a.kC,a.iC⟩
variable{n b3:R}{f t e7:U}{g A e1:List R}
theorem iK.of {s:U}{a:ic} (b:az isRow a.rows g) (c:az bt a.kids A) (d:ar f s 1 (flat g) n) (h:ar t s 37 (flat A) b3) (o:a.rows.length<=1000) (p:a.kids.length<=1000):iK s a n b3 g A:=by obtain⟨r,x,k⟩:=d.ax a9r;obtain⟨y,z,C⟩:=h.ax a9r;rw[nj b]at x k;rw[dh (c.cells λ_ _=>bt.cells)]at z;have:=b.len;have:=c.len;obtain rfl:r=a.rows.length:=a9r;obtain rfl:y=a.kids.length:=a9r;exact⟨b,c,bT.dW d a9r rfl (b.cells λ_ _=>isRow.cells),bT.dW h a9r rfl (c.cells λ_ _=>bt.cells),k,C,o,p⟩
def fP (a:c5):ic:=⟨decide (a.kind=2),a.rows.map Prod.fst,a.kids⟩
def kG (b:ag) (c:Nat) (a d:ic):Except Int (List ay)×ag:=if a.leaf=true then nm b c (a.rows++d.rows)else ji b c (a.kids++d.kids)
theorem YQ (d:U) (h q:Nat) (r:ag) (C:bC d h q r) (a b:ic) (m n k o p:R) (D E F G:List R) (e:iK d a m n D E) (f:iK d b o p F G) (c:k.cells= [k]) (g:Nat) (H:1<=g) (I:g<=8):
  AC Tryz.prog 313 [dY h g,.agg [.v (.bool a.leaf),m,n],.agg [k,o,p]] d λw c=>fr d c h q (kG r g a b) w:=by
 refine bf hm RQ a9s ?_;have c: ∀i,(R.agg i).cells=i:=λ_=>rfl;have s: ∀a b:R,List.take 2 [a,b]= [a,b]:=λ_ _=>rfl;have t: ∀a b,aY true 2 [a,b]= .agg [a,b]:=λ_ _=>rfl;have K: ∀a b i:R,aY false 1 [a,b,i]=a:=λ_ _ _=>rfl;have L: ∀a b i:R,aY false 1 ([a,b,i].drop 1)=b:=λ_ _ _=>rfl;have M: ∀a b i:R,aY false 1 ([a,b,i].drop 2)=i:=λ_ _ _=>rfl;refine ax @c ?_;refine aP λcX i=> ?_;refine ax @c ?_;refine aP λdZ i=> ?_;have l:cX≠dZ:=by rintro rfl;rw[U.ah]at i;cases i
 have j:d dZ=none:=by rw[U.an _ _ (a4S l)]at i;exact i
 refine ax @c ?_;refine aP λgS i=> ?_;have x:dZ≠gS:=by rintro rfl;rw[U.ah]at i;cases i
 have y:cX≠gS:=by rintro rfl;rw[U.an _ _ l,U.ah]at i;cases i
 have i:d gS=none:=by simp_all [U.an,a4S]
 obtain⟨j,i⟩: ∃j:U,j=((d.set cX (.cells [.ptr h 0,.v (.int .i64 (g:Int))])).set dZ (.cells [.v (.bool a.leaf),m,n])).set gS (.cells [k,o,p]):=⟨_,rfl⟩;have N:d.sub j:=by grind[U.ae,U.a1]
 have aI:j cX=some (.cells [.ptr h 0,.v (.int .i64 (g:Int))]):=by rw[i,U.an _ _ y,U.an _ _ l,U.ah]
 have aM:j dZ=some (.cells [.v (.bool a.leaf),m,n]):=by rw[i,U.an _ _ x,U.ah]
 have bp:j gS=some (.cells [k,o,p]):=by rw[i,U.ah]
 unfold kG;have d:=e.kC;have d:=f.kC;have d:=e.iC;have d:=f.iC;cases u:a.leaf with
 |true=>rw[u]at aM i;refine ax (cu @c @U.an @l @y @x @U.ah @K @L @M @u) ?_;rw[<-i];refine cJ U.a1 (by intro O k;simp only[a5k,a6p,or_false]at k;rcases k with rfl|rfl;(·rw[e.ox.one];rfl);(·rw[f.ox.one];rfl)) λz m n=> ?_;have d:=U.aq N n.sub;have o:=n.sub _ _ aI;simp -dsimp -implicitDefEqProofs (disch:=first|omega|assumption|(simp only[aE,Nat.reduceAdd];try omega)) only[go_sem,simprocAttr,-List.reduceReplicate,c,U.af o,t,s];refine ai (YJ m _ _ z _ _ _ _ (e.ox.mono d) (f.ox.mono d) a9r a9r) ?_;intro dx A j;have B:=j.1 _ _ o;have v:az isRow (a.rows++b.rows) (D++F):=e.r.append f.r;rw[<-nj v]at j;simp -dsimp -implicitDefEqProofs (disch:=first|omega|assumption|(simp only[aE,Nat.reduceAdd];try omega)) only[go_sem,simprocAttr,-List.reduceReplicate,c,U.af B,t,s];refine ai (DT m A h q r (C.mono d) _ _ dx j g H I v (by rw[a4L];omega)) ?_;intro w D p;obtain⟨F,P,rfl⟩:=p.shape;refine ax @c ?_;exact⟨_,U.a1,fr.base p (Ext.of d)⟩
 |false=>rw[u]at aM i;refine ax (cu @c @U.an @l @y @x @U.ah @K @L @M @u) ?_;rw[<-i];refine cJ U.a1 (by intro O k;simp only[a5k,a6p,or_false]at k;rcases k with rfl|rfl;(·rw[e.jT.one];rfl);(·rw[f.jT.one];rfl)) λz m n=> ?_;have d:=U.aq N n.sub;have o:=n.sub _ _ aI;simp -dsimp -implicitDefEqProofs (disch:=first|omega|assumption|(simp only[aE,Nat.reduceAdd];try omega)) only[go_sem,simprocAttr,-List.reduceReplicate,c,U.af o,t,s];refine ai (YL m _ _ z _ _ _ _ (e.jT.mono d) (f.jT.mono d) a9r a9r) ?_;intro dx A j;have B:=j.1 _ _ o;have v:az bt (a.kids++b.kids) (E++G):=e.k.append f.k;rw[<-oW]at j;simp -dsimp -implicitDefEqProofs (disch:=first|omega|assumption|(simp only[aE,Nat.reduceAdd];try omega)) only[go_sem,simprocAttr,-List.reduceReplicate,c,U.af B,t,s];refine ai (DU m A h q r (C.mono d) _ _ dx j g H I v (by rw[a4L];omega)) ?_;intro w D p;obtain⟨F,P,rfl⟩:=p.shape;refine ax @c ?_;exact⟨_,U.a1,fr.base p (Ext.of d)⟩
def jU (d:ag) (k:Nat) (h:List ay) (a:Nat) (b:ic):Except Int (List ay)×ag:=
 if 2<=b.rows.length+b.kids.length then
  match mh d k b.leaf b.rows b.kids with
  |(.error o,c)=>(.error o,c)
  |(.ok r,c)=>(.ok (h.set a r),c)
 else match h[if a=0 then 1 else a - 1]? with
  |none=>(.error 21,d)
  |some x=>match iI d k x with
   |none=>(.error 21,d)
   |some p=>match kG d k (if a=0 then b else fP p) (if a=0 then fP p else b)with
    |(.error o,c)=>(.error o,c)
    |(.ok y,c)=>(.ok (h.take (a - 1)++(y++h.drop (a - 1+2))),c)
def YR (k b:U) (c d:Nat) (h:Except Int (List ay)×ag) (o:R):Prop:=
 match h.1 with
 | .error p=>bC b c d h.2/\Ext c d k b/\p≠0/\ ∃a,o= .aL [a,.v (.int .i64 p)]/\a.cells= [a]
 | .ok bJ=> ∃r a,az bt bJ r/\o= .aL [a,.v (.int .i64 0)]/\dd k b c d h.2 37 (flat r) a
theorem az.set {c:Type}{d:c->R->Prop}: ∀ {k:List c}{o:List R}{p:c}{r:R} (b:Nat),az d k o->d p r->az d (k.set b p) (o.set b r)
 | [],[],_,_,_,a,_=>a
 | _:: _,_:: _,_,_,0,a,h=>⟨h,a.2⟩
 | _:: _,_:: _,_,_,b+1,a,h=>⟨a.1,az.set b a.2 h⟩
variable{e i v M c0 j0:Nat}{H:ag}
theorem DW {h:ag}{b c:ic}{d:List ay} (a:kG H e b c=(.ok d,h)) (o:b.rows.length<=1000/\c.rows.length<=1000/\b.kids.length<=1000/\c.kids.length<=1000):d.length<=501:=by
 unfold kG at a;split at a
 .rename_i k;have:=qP a;rw[this];simp only[a4T,a5g,a6.chunks,(nk).1,a6.bV,a4L];omega
 .rename_i k;have:=qP a;rw[this];simp only[a4T,a5g,a6.chunks,(nk).1,a6.bV,a4L];omega
def bt.c {a:List ay} (b:az bt a g):aN 37 g:=b.cells λ_ _=>bt.cells
def Ext.no (b:Ext i v f t) (a:e≠i/\e≠v) (c:t e=none):f e=none:=by
 cases d:f e with
 |none=>rfl
 |some h=>have:=b _ _ a.1 a.2 d;rw[c]at this;cases this
theorem YS (o h i:U) (g l:Nat) (u p:ag) (e f:List ay) (c:List R) (j q:Nat) (m:R) (n:dd o h g l u 37 (flat c) (.al j e.length q 37)) (d:az bt e c) (v:fr h i g l (.ok f,p) (.aL [m,.v (.int .i64 0)])) (b a:Nat) (k:Int) (r:k=(a:Int)) (s:b<a) (t:a<=e.length) (w:e.length<=1000) (x:f.length<=501):
  AC Tryz.prog 242 [.al j e.length q 37,.v (.int .i64 (b:Int)),.v (.int .i64 k),m] i λu w=> ∃q,az bt (e.take b++(f++e.drop a)) q/\dd o w g l p 37 (flat q) u:=by
 obtain⟨g,m,m,l,⟨o,o,p,q⟩,A⟩:=v;simp only[R.aL.injEq,a7l,and_true]at l;subst l;have u:=d.len;have w:=m.len;have v:(flat c).length=c.length*37:=dh (bt.c d);have E:(flat g).length=f.length*37:=by rw[dh (bt.c m),w]
 have F: ∃w,h j=some (.cells w):=by obtain⟨_,h,_⟩:=n;obtain⟨_,_,_,w,l,_,w,_⟩:=h.al (by grind);simp_all
 obtain⟨G,x,y,z⟩:=n.step (q.trans (Ext.of o.1)) (p.mono o.1);by_cases l:f= []
 .subst l;obtain rfl:=A rfl;refine(YH _ i (flat c) _ e.length b a k r x (by rw[v,u]) s t a9r).mono λdx H h=> ?_;rw[(ga b (bt.c d)).2,(ga a (bt.c d)).1,<-oW]at h;exact⟨_,(d.take b).append (d.drop a),_,h,y,z⟩
 have A:0<f.length:=a5U.2 l;obtain⟨l,A,B,C,rfl,D,I,K,L,M,N,O⟩:=ar.al o (by grind);have o:=p.cH D;have p:=q.no o D;obtain⟨q,q⟩:=F;have q:j≠l:=by grind
 have j:=ar.add x I (by simp_all);have q:ar (λ_=>none) (G.set l (.cells C)) 37 (flat g) (.al l A B 37):=⟨(λ_ _ w=>by cases w),.inr ⟨l,A,B,C,rfl,rfl,U.ah _ _ _,K,L,M,N,O⟩⟩;refine(DS _ _ i (flat c) (flat g) _ _ e.length f.length b a k r j (by rw[v,u]) q E a9r s t a9r a9r).mono λdx H h=> ?_;have e:(flat c).take (b*37)++(flat g++(flat c).drop (a*37))=flat (c.take b++(g++c.drop a)):=by rw[(ga b (bt.c d)).2,(ga a (bt.c d)).1];simp[flat]
 rw[e]at h;exact⟨_,(d.take b).append (m.append (d.drop a)),_,h,y.set o,z.set (n.ext.no o p)⟩
theorem YT (t j:U) (g q:Nat) (h:ag) (A:bC t g q h) (i:List ay) (r:List R) (c:R) (m:ar t j 37 (flat r) c) (s:az bt i r) (b:ic) (n o:R) (p u:List R) (f:iK j b n o p u) (e:2<=i.length) (l1:i.length<=1000) (a:Nat) (k:a<i.length) (d:Nat) (O:1<=d) (P:d<=8):
  AC Tryz.prog 250 [dY g d,c,.v (.int .i64 (a:Int)),.agg [.v (.bool b.leaf),n,o]] j λw B=>YR t B g q (jU h d i a b) w:=by
 have c:=s.len;have D:=A.mono m.1;have c:(flat r).length=r.length*37:=dh (bt.c s);obtain⟨E,c,Q,e,rfl,e,e,k4,k,l,x,e⟩:=ar.al m (by grind);obtain rfl:c=i.length:=a9r;have c:=f.kC;have c:=f.iC;have c:=(aX (N:= .nil) (e5:= .nil) (h5:= .nil) bl).len;obtain⟨c,e⟩: ∃c,jU h d i a b=c:=⟨_,rfl⟩;rw[e];rw[jU]at e;clear k4 k l;refine aO hm Qz ?_;refine br λdZ y=> ?_;refine db λz C _ _=> ?_;have k:=U.ae (Y:= .cells [.v (.bool b.leaf),n,o]) (U.ae (Y:= .cells [.ptr g 0,.v (.int .i64 (d:Int))]) (U.a1 (f:=j)) y) C;obtain⟨c,l⟩: ∃c:U,(j.set dZ (.cells [.ptr g 0,.v (.int .i64 (d:Int))])).set z (.cells [.v (.bool b.leaf),n,o])=c:=⟨_,rfl⟩;rw[l]at k|-;have aM:c dZ=some (.cells [.ptr g 0,.v (.int .i64 (d:Int))]):=by rw[<-l,U.an _ _ a9u,U.ah]
 have cd:c z=some (.cells [.v (.bool b.leaf),n,o]):=by rw[<-l,U.ah]
 have M:=U.af aM;have N:=U.af cd;clear l y C;have C:=ar.mono m k;have k5:dd t c g q h 37 (flat r) (.al E i.length Q 37):=dd.of C A Ext.refl;have y:=f.mono k;have S:=D.mono k;refine lY (Yy (.v (.bool b.leaf)) n o _ _ f.ox.one f.jT.one rfl f.ox.len f.jT.len a9r a9r c) ?_;refine aH (λG=> ?_) λG=> ?_
 .rw[if_pos a9r]at e;refine cl (DG c g q h S b.leaf b.rows p n b.kids u o d O P y.r y.ax a9r y.k y.uy a9r) ?_;rintro w T ⟨u,H,f⟩;generalize mh h d b.leaf b.rows b.kids=V at*;obtain⟨res,z⟩:=V
  dsimp only at u f
  obtain⟨m,j,k,l,l2,p,rfl⟩:=f.shape;have I:=(aX (N:=j) (e5:=k) (h5:=l) p).len;have D:=(aX (N:=j) (e5:=k) (h5:=l) p).t37;have D:putAt (ab aA .nil .nil .nil) 0 (ab m j k l)=ab m j k l:=cG bl p;have p:=ct;generalize ab aA .nil .nil .nil=p at*;refine aa ?_;refine br λp p=> ?_;obtain⟨K,L,D,F⟩:=dd.mono (k5.step H u) (U.ae (Y:= .cells (ab m j k l)) U.a1 p);obtain⟨p,u,p,-,p⟩:=ar.put (i:=a) (a:= .agg (ab m j k l)) L a9r (bt.c s) (a4J (show a<r.length by omega)) I;have m:cS 37 (.al E i.length Q 37) (.v (.int .i64 (a:Int)))=some (.ptr E (a*37)):=by simp_all [ja]
  have m:=U.aJ u;have u:Ext g q t _:=F.trans (Ext.of p.1);refine aa ?_;refine⟨_,U.a1,?_⟩;subst e;cases res with
  |error m=>obtain⟨W,m⟩:=f;simp only[R.aL.injEq,a7l,R.v.injEq,Value.int.injEq,true_and,and_true]at m;obtain⟨_,rfl⟩:=m;exact⟨D.mono p.1,u,W,_,rfl,rfl⟩
  |ok u=>obtain⟨u,H,I,L,X,m⟩:=f;simp only[R.aL.injEq,a7l,R.v.injEq,Value.int.injEq,true_and,and_true,R.agg.injEq]at m;obtain⟨m,rfl⟩:=m;exact⟨_,_,az.set a s ⟨u,H,I,L,X,by rw[m]⟩,rfl,⟨K,p,D,F⟩⟩
 rw[if_neg a9r]at e;have f:max ((a:Int) - 1) 0=((a - 1:Nat):Int):=a9r;obtain⟨u,p⟩: ∃u,(if a=0 then 1 else a - 1)=u:=⟨_,rfl⟩;rw[p]at e;refine o6 [1,2,4,7,12] (λ_:Unit=> [(13,.v (.int .i64 (u:Int)))]) (λ_ B=>B=c) (λf=> ?_) (λf=> ?_) ?_
 .rw[if_pos (by have:=of_decide_eq_true f;omega)]at p;subst p;exact aU
 .rw[if_neg (by have:=of_decide_eq_false f;omega)]at p;subst p;exact aU
 rintro _ c rfl l3;have D:u<i.length:=by rw[<-p];split<;>omega
 have B:=a4J D;rw[B]at e
 dsimp only at e
 generalize i[u]=p at*;obtain⟨D,H,F,K,j,k,l,rfl⟩:=s.get B;obtain⟨I,X,D⟩:=(bT.dW C a9r rfl (bt.c s)).get u _ H;have u:=aX (N:=j) (e5:=k) (h5:=l) F;change ng c I (ab p j k l)at D;have I:=D.ld c U.a1 true 37 a9r (by rw[u.len];omega);rw[show aY true 37 (ab p j k l)= .agg (ab p j k l) by rw[aY,if_pos rfl,u.t37]]at I;refine cl (xK c g q h S p j k l F K d O P) ?_;rintro w K ⟨L,m⟩;cases j:iI h d p with
 |none=>rw[j]at m e;obtain rfl:=m;subst e;refine aa ?_;refine br λF k=> ?_;have c:=λp=>U.aq C.1 (U.aq L (U.ae (Y:=p) U.a1 k));exact⟨_,U.a1,A.mono (c _),Ext.of (c _),a9v,_,rfl,rfl⟩
 |some c=>
 rw[j]at m e
 dsimp only at e
 obtain⟨u,l,rfl,C⟩:=m;obtain⟨m,A⟩:=sL j;obtain⟨j,j,j⟩:=ln m.ok;clear I X D M N G H B;refine aa ?_;refine br λF k=> ?_;obtain⟨j,m⟩: ∃j,K.set F (.cells [.v (.int .u8 (c.kind.toNat:Int)),u,l])=j:=⟨_,rfl⟩;have I:K.sub j:=by rw[<-m];exact U.ae U.a1 k
 have fx:j F=some (.cells [.v (.int .u8 (c.kind.toNat:Int)),u,l]):=by rw[<-m,U.ah]
 have K:=U.aq L I;obtain⟨A,X,Y,B,L,A,F,D,G⟩:=C;have k6:fC j c u l X Y:=fC.mono ⟨A,F,(bT.dW B a9r rfl (A.cells λ_ _=>di.cells)).mono L.1,bT.dW L a9r rfl (bt.c F),D,G⟩ I;have x:=rd K cd;have l4:=U.af fx;have A:= @rT;refine cl (xL c X Y u l j k6) ?_;rintro _ G ⟨M,j,rfl,l5,k7⟩;clear m k;have A:=k7.1;have B:=A _ _ (K _ _ cd);have x:=U.af B;refine aa ?_;refine br λC Z=> ?_;have j:=U.gZ Z B;refine db λD j9 _ _=> ?_;have j:=U.gZ j9 B;have k:= @U.set_set;obtain⟨m,H⟩: ∃m,(G.set C (.cells [.v (.bool (decide (c.kind=2))),M,l])).set D (.cells [.v (.bool b.leaf),n,o])=m:=⟨_,rfl⟩;have j:G.sub m:=by rw[<-H];exact U.ae (U.ae U.a1 Z) j9
 have p9:m C=some (.cells [.v (.bool (decide (c.kind=2))),M,l]):=by rw[<-H,U.an _ _ a9u,U.ah]
 have o0:m D=some (.cells [.v (.bool b.leaf),n,o]):=by rw[<-H,U.ah]
 have k8:=U.aq K A;have k9:=y.mono k8;have l0:=ar.mono L (U.aq I A);have I:(fP c).rows.length<=1000/\(fP c).kids.length<=1000:=by simp[fP];omega
 refine aa ?_;clear k x;refine o6 [1,4,12,16,17] (λ_:Unit=> []) (λ_ k=>G.sub k/\ ∃K L y M N k0 k1 k2 k3,k C=some (.cells [.v (.bool (if a=0 then b else fP c).leaf),K,L])/\k D=some (.cells [y,M,N])/\y.cells= [y]/\iK k (if a=0 then b else fP c) K L k0 k1/\iK k (if a=0 then fP c else b) M N k2 k3) (λf=> ?_) (λf=> ?_) ?_
 .have f:=of_decide_eq_true f;have f:a=0:=a9r;simp only[if_pos f];have x:=rd j B;have l4:=rd (U.aq A j) fx;refine cl (xL c X Y u l m (k6.mono (U.aq A j))) ?_;rintro _ T ⟨l,l,rfl,A,l⟩;have x:=rd l.1 (j _ _ B);have u:=U.aJ (l.1 _ _ p9);have u: ∀u,ep (T.set C u) D=some [.v (.bool b.leaf),n,o]:=λu=>U.aJ (by rw[U.an _ _ a9u];exact l.1 _ _ o0);have n: ∀p o,G.sub ((T.set C p).set D o):=λp o o v o=>by
   rw[U.an _ _ (U.gZ j9 o),U.an _ _ (U.gZ Z o)];exact l.1 _ _ (j _ _ o)
  refine aa ?_;refine⟨(),_,_,_,_,_,_,_,_,_,rfl,rfl,rfl,k9.mono (n _ _),iK.of (a:=fP c) A F (ar.emp l ?_) (ar.mono l0 (n _ _)) I.1 I.2⟩;rintro p o o rfl;have o:m p=none:=by
   rcases l.2 with ⟨_,l|l⟩|⟨m,_,_,_,l,m,_⟩
   .cases l
   .cases l
   simp_all
  rw[U.an _ _ (U.gZ o o0).symm,U.an _ _ (U.gZ o p9).symm]
 .have f:=of_decide_eq_false f;have f: ¬a=0:=a9r;simp only[if_neg f];refine aa ?_;subst H;exact⟨(),_,_,_,_,_,_,_,_,_,rfl,rfl,rfl,iK.of (a:=fP c) l5 F (k7.mono j) (l0.mono j) I.1 I.2,k9.mono j⟩
 rintro _ k ⟨n,K,L,y,M,N,k0,k1,k2,k3,p9,o0,m,o,p⟩ l3;have j:(if a=0 then b else fP c).rows.length<=1000/\(if a=0 then fP c else b).rows.length<=1000/\(if a=0 then b else fP c).kids.length<=1000/\(if a=0 then fP c else b).kids.length<=1000:=by split<;>omega
 have u:=λz f l=>DW (H:=h) (h:=z) (e:=d) (b:=if a=0 then b else fP c) (c:=if a=0 then fP c else b) (d:=f) l j;generalize (if a=0 then b else fP c)=j at*;generalize (if a=0 then fP c else b)=l at*;have b:=U.aq k8 n;have k4:=rd b aM;have c:=U.af p9;have c:=U.af o0;refine cl (YQ k g q h (S.mono b) j l K L y M N k0 k1 k2 k3 o p m d O P) ?_;intro w m c;generalize kG h d j l=V at*;obtain⟨res,z⟩:=V;have d:=dd.mono k5 b;cases res with
 |error l2=>obtain⟨b,j,W,rfl⟩:=c;subst e;refine aa ?_;exact⟨_,U.a1,b,d.ext.trans j,W,_,rfl,rfl⟩
 |ok f=>obtain⟨_,a3,_,rfl,_⟩:=id c;have b:=u z f rfl;have j:((a - 1:Nat):Int)+2=((a - 1+2:Nat):Int):=rfl;refine cl (YS t k m g q h z i f r E Q a3 d s c (a - 1) (a - 1+2) _ j a9r a9r l1 b) ?_;rintro w a ⟨a,a,b⟩;subst e;refine aa ?_;exact⟨_,U.a1,_,_,a,rfl,b⟩
end Go.Proofs.YtlgnfcaolejgeaaGreat
set_option maxHeartbeats 1000000
namespace Go.bB
open Go
variable{n b3:R}{f t e7:U}{g A e1:List R}{e i v M c0 j0:Nat}
theorem ar.o7 (x:ar t f e g n): ∃d:U,ar d f e g n/\d.sub f/\t.sub d/\ ∀a,(∀b h k,n= .al b h k e->b≠a)->d a=f a:=by
 obtain⟨p,o⟩:=x;rcases o with o|⟨b,h,k,y,rfl,z,C,D⟩
 .exact⟨f,⟨U.a1,.inl o⟩,U.a1,p,λ_ _=>rfl⟩
 .have r:(f.del b).sub f:=λa E c=>by
   grind[U.iu,U.eJ]
  refine⟨f.del b,⟨r,.inr ⟨b,h,k,y,rfl,U.iu _ _,C,D⟩⟩,r,λa E c=> ?_,λa c=>U.eJ _ (a4S (c _ _ _ rfl))⟩;have F:a≠b:=by rintro rfl;rw[z]at c;cases c
  rw[U.eJ _ F];exact p _ _ c
theorem ar.own (c:ar f t i g (.al e v M i)):f e=none/\ ∃b,t e=some (.cells b):=by
 rcases c.2 with ⟨_,a|a⟩|⟨d,h,k,b,o,p,r,_⟩
 .cases a
 .cases a
 simp_all
end Go.bB
namespace Go.Proofs.YtlgnfcaolejgeaaGreat
open Go Go.bB
def ie (d:Nat) (c:List Int):Nat->ag->ay->Except Int ic×ag
  |0,b,_=>(.error 21,b)
  |p+1,b,r=>match iI b d r with
    |none=>(.error 21,b)
    |some a=>
      if a.kind=2 then
        (if kF (a.rows.map Prod.fst) c=true then(.ok ⟨true,(a.rows.map Prod.fst).take (eZ (a.rows.map Prod.fst) c)++(a.rows.map Prod.fst).drop (eZ (a.rows.map Prod.fst) c+1),a.kids⟩,b)
         else(.error 9,b))
      else match a.kids[hA c a]? with
        |none=>(.error 21,b)
        |some x=>match ie d c p b x with
          |(.error h,k)=>(.error h,k)
          |(.ok y,k)=>match jU k d a.kids (hA c a) y with
            |(.error h,o)=>(.error h,o)
            |(.ok bJ,o)=>(.ok ⟨false,a.rows.map Prod.fst,bJ⟩,o)
def YU (x c:U) (d h:Nat) (k:Except Int ic×ag) (o:R):Prop:=
 bC c d h k.2/\Ext d h x c/\match k.1 with
 | .error p=>p≠0/\ ∃y a b,o= .aL [.agg [y,a,b],.v (.int .i64 p)]
 | .ok r=> ∃a b z C,o= .aL [.agg [.v (.bool r.leaf),a,b],.v (.int .i64 0)]/\iK c r a b z C
variable{e i v M c0 j0:Nat}{H:ag}
theorem YV {h:ag}{c d:List ay}{b:ic} (a:jU H e c i b=(.ok d,h)) (o:c.length<=4) (p:b.rows.length<=1000/\b.kids.length<=1000):d.length<=1000:=by
 unfold jU at a;split at a;grind
 .rename_i r;split at a
  .cases (a6B a).1
  .split at a
   .cases (a6B a).1
   .rename_i x k;obtain⟨y,z,C⟩:=ln (sL k).1.ok;grind[Prod.mk.inj,Except.ok.inj,DW,fP,List.length_append,List.length_take,List.length_drop]
theorem YW (l q:Nat) (s:List Int) (l4:Own) (r:Nat) (n3:1<=r) (n4:r<=8): ∀(C:Nat) (x:U) (y:ag) (a:ay) (c d e:Own),bC x l q y->a.sum.length=32->a.cF->0<C->a.size<C->
  AC Tryz.prog 160 [dY l r,.agg (ab a c d e),.J (ad s) l4] x λk4 b=>YU x b l q (ie r s C y a) k4:=by
 intro C
 induction C with
 |zero=>intros;omega
 |succ C ih=>
 intro x y a c d e t g i b b;have k5:=(aX (N:=c) (e5:=d) (h5:=e) g).lt;have w:= @U.set_set;have b:= @rT;obtain⟨f,b⟩: ∃f,ie r s (C+1) y a=f:=⟨_,rfl⟩;rw[b];rw[ie]at b;refine aO hm NY ?_;refine br λcX h=> ?_;refine db λdZ m _ _=> ?_;refine hq λej Q _ _ _ _=> ?_;generalize I:((x.set cX _).set dZ _).set ej _=f;have k6:x.sub f:=by subst I;exact aU
 have aI:f cX=some (.cells [.ptr l 0,.v (.int .i64 (r:Int))]):=by subst I;exact aU
 have bD:f ej=some (.cells [.v (.bool false),.J [] .nil,.J [] .nil]):=by subst I;exact aU
 clear I;have n5:=t.cH h;have o:=t.cH Q;refine cl (xK f l q y (t.mono k6) a c d e g i r n3 n4) ?_;rintro k4 k ⟨n,d⟩;have j:=n _ _ bD;have v:=U.aq k6 n;clear h m;cases h:iI y r a with
 |none=>rw[h]at d b;obtain rfl:=d;subst b;refine aa ?_;refine br λe c=> ?_;have a:=λf=>U.aq v (U.ae (Y:=f) U.a1 c);have g:=U.gZ c j;have X: ∀f,ep (k.set e f) ej=some [.v (.bool false),.J [] .nil,.J [] .nil]:=λf=>U.aJ (by rw[U.an _ _ g];exact j);refine aa ?_;exact⟨_,U.a1,(t.mono (a _)).set o,(Ext.of (a _)).set Q,a9v,_,_,_,rfl⟩
 |some g=>
  rw[h]at d b
  dsimp only at b
  obtain⟨Y,i,rfl,a,l5,K,Z,D,m,S,p,u⟩:=d;obtain⟨n9,a03⟩:=sL h;obtain⟨a,a,a⟩:=ln n9.ok;refine aa ?_;refine br λe c=> ?_;obtain⟨a,d⟩: ∃a,k.set e (.cells [.v (.int .u8 (g.kind.toNat:Int)),Y,i])=a:=⟨_,rfl⟩;have h:k.sub a:=by rw[<-d];exact U.ae U.a1 c
  have bw:a e=some (.cells [.v (.int .u8 (g.kind.toNat:Int)),Y,i]):=by rw[<-d,U.ah]
  have a00:fC a g Y i l5 K:=fC.mono ⟨m,S,(bT.dW Z a9r rfl (m.cells λ_ _=>di.cells)).mono D.1,bT.dW D a9r rfl (bt.c S),p,u⟩ h;have l6:=U.af bw;refine cl (xL g l5 K Y i a a00) ?_;rintro _ e ⟨u,j9,rfl,E,L⟩;clear d c l6;refine aa ?_;refine br λp k=> ?_;obtain⟨m,a⟩: ∃m,e.set p (.cells [.v (.bool (decide (g.kind=2))),u,i])=m:=⟨_,rfl⟩;rw[w,a];have z:e.sub m:=by rw[<-a];exact U.ae U.a1 k
  have cu:m p=some (.cells [.v (.bool (decide (g.kind=2))),u,i]):=by rw[<-a,U.ah]
  clear a;have M:=L.1;have B:=U.aq v h;have T:=U.aq B (U.aq M z);have k7:=U.aq h (U.aq M z);have l7:=U.bG (U.aq B M) k;have w:=t.cH l7;have k8:=k7 _ _ j;have l8:=k7 _ _ (n _ _ aI);have l9:ej≠p:=U.gZ k (M _ _ (h _ _ j));have k0:=U.af cu;have X:=U.aJ k8;have k9: ∀a c d,i= .al a c d 37->a≠l/\a≠q/\a≠ej/\a≠p/\a≠cX:=by
   rintro a c d rfl;obtain⟨e,n0,n⟩:=D.own;have n1:=Z.1 _ _ bD;have n2:=Z.1 _ _ aI;have N:=(t.mono (U.aq k6 Z.1)).cH e;refine⟨N.1,N.2,?_,?_,?_⟩
   .rintro rfl;rw[n1]at e;cases e
   .rintro rfl;rw[M _ _ (h _ _ n)]at k;cases k
   .rintro rfl;rw[n2]at e;cases e
  have l0: ∀a c d,u= .al a c d 1->a≠l/\a≠q/\a≠ej/\a≠p/\ ∀O V W,i= .al O V W 37->O≠a:=by
   rintro a c d rfl;obtain⟨e,n0,n⟩:=L.own;have N:=(t.mono B).cH e;refine⟨N.1,N.2,?_,?_,?_⟩
   .rintro rfl;rw[h _ _ j]at e;cases e
   grind
   .rintro O V W rfl rfl;obtain⟨_,j,j⟩:=D.own;rw[h _ _ j]at e;cases e
  refine aH (λk1=> ?_) λk1=> ?_
  .rw[if_pos k1]at b;have h:(g.rows.map Prod.fst).length=g.rows.length:=a4V _;generalize k3:g.rows.map Prod.fst=v at*;refine cl (DI v j9 u s l4 m E ((bT.dW L a9r rfl (E.cells λ_ _=>isRow.cells)).mono z) a9r) ?_;rintro _ m ⟨rfl,h,rfl⟩;have F:kF v s=true->eZ v s<v.length:=λh=>by
    grind[kF,List.getElem?_eq_some_iff]
   generalize eZ v s=k at*;refine aa ?_;refine aH (λA=> ?_) λA=> ?_
   .rw[if_neg (by simp[A])]at b;subst b;exact⟨_,U.a1,(t.mono T).set o,(Ext.of T).set Q,a9v,_,_,_,rfl⟩
   .rw[if_pos A]at b;have G:=F A;obtain⟨F,A,G,_,G⟩:=ar.o7 (ar.mono L z);rw[nj E]at A;have H:=E.len;refine cl (YF F m j9 u A k a9r a9r) ?_;intro a5 F P;have H:az isRow (v.take k++v.drop (k+1)) (j9.take k++j9.drop (k+1)):=(E.take k).append (E.drop (k+1));rw[<-nj H]at P;have l1: ∀A f,m A=some f->(∀a c d,u= .al a c d 1->a≠A)->F A=some f:=λA f h v=>P.1 _ _ (by rw[G A v];exact h);have l2:=l1 _ _ cu λa c d h=>(l0 a c d h).2.2.2.1;have l3:=l1 _ _ k8 λa c d h=>(l0 a c d h).2.2.1;have G:x.sub F:=λA f k2=>l1 A f (T _ _ k2) (by
     rintro a c d rfl rfl;have:=L.own.1;rw[B _ _ k2]at this;cases this)
    have v:a5.cells= [a5]:=fL P;obtain⟨v,B⟩: ∃v,(F.set p (.cells [.v (.bool true),a5,i])).set ej (.cells [.v (.bool true),a5,i])=v:=⟨_,rfl⟩;have X: ∀f,ep (F.set p f) ej=some [.v (.bool false),.J [] .nil,.J [] .nil]:=λf=>U.aJ (by rw[U.an _ _ l9];exact l3);have a01:=U.aJ l2;have a02:v.read ej=some [.v (.bool true),a5,i]:=U.af (by rw[<-B,U.ah]);clear k3 k0;refine aa ?_;refine⟨v,U.a1,?_⟩;subst b;refine⟨by rw[<-B];exact((t.mono G).set w).set o,by rw[<-B];exact((Ext.of G).set l7).set Q,a5,i,_,K,rfl,iK.of (f:=λ_=>none) (t:=λ_=>none) H S (ar.emp P ?_) (ar.emp D ?_) a9t a9t⟩
    .rintro a c d rfl;have k3:=P.own.1;have e:a≠p:=by grind
     have n:a≠ej:=by grind
     rw[<-B,U.an _ _ n,U.an _ _ e]
    .rintro a c d rfl;obtain⟨_,n0,j⟩:=D.own;have H:=k9 _ _ _ rfl;rw[<-B,U.an _ _ H.2.2.1,U.an _ _ H.2.2.2.1,j];exact l1 _ _ (k7 _ _ j) λO V W h=>a4S ((l0 O V W h).2.2.2.2 _ _ _ rfl)
  .rw[if_neg k1]at b;rw[decide_eq_false k1]at cu k0;have l1:=E.len;have l6:=rd (U.aq M z) bw;refine cl (DH g l5 K Y i s l4 m (a00.mono (U.aq M z))) ?_;rintro _ m ⟨rfl,rfl⟩;obtain⟨-,n1,n2,N⟩:=n9.inner (a03.resolve_left k1);have Y:hA s g<g.kids.length:=by grind[xQ,List.length_map]
   generalize hA s g=k at*;have k1:g.kids[k]? =some g.kids[k]:=a4J Y;have l1:g.kids[k]'Y∈g.kids:=a5o _;rw[k1]at b;simp only at b;generalize g.kids[k]'Y=M at k1 l1 b;obtain⟨l4,a04,l4,a05,e,n,j,rfl⟩:=S.get k1;obtain⟨_,_,_,k1,k1⟩:=N M l1;have k1:=ar.mono D k7;obtain⟨k7,a06,N,_,N⟩:=k1.o7;have l1:x.sub k7:=λA f k2=>by
    rw[N A (by
     rintro a c d rfl rfl;have:=D.own.1;rw[Z.1 _ _ (k6 _ _ k2)]at this;cases this)]
    exact T _ _ k2
   have l5:=(N _ λa c d h=>(k9 a c d h).2.2.2.1).trans cu;have n9:=(N _ λa c d h=>(k9 a c d h).2.2.1).trans k8;have A:=(N _ λa c d h=>(k9 a c d h).2.2.2.2).trans l8;have D:=t.mono T;have k6:=U.af l8;obtain⟨k2,a07,Z⟩:=(bT.dW k1 a9r rfl (bt.c S)).get k _ a04;have A:=aX (N:=e) (e5:=n) (h5:=j) l4;change ng m k2 (ab M e n j)at Z;have k1:=Z.ld m U.a1 true 37 a9r (by rw[A.len];omega);rw[show aY true 37 (ab M e n j)= .agg (ab M e n j) by rw[aY,if_pos rfl,A.t37]]at k1;refine aa ?_;refine cl (ih m y M e n j D l4 a05 a9r a9r) ?_;intro k4 F A;generalize ie r s C y M=k9 at A b;obtain⟨res,D⟩:=k9;obtain⟨M,G,A⟩:=A
   dsimp only at M A b
   have l3:=G _ _ o.1 o.2 k8;have l2:=G _ _ w.1 w.2 cu;have l4:=G _ _ n5.1 n5.2 l8;clear k6 l6 k0 k1 a07 Z;cases res with
   |error l6=>obtain⟨k8,a,Z,k1,rfl⟩:=A;subst b;refine aa ?_;refine br λk2 s=> ?_;have C:=U.gZ s l3;have X: ∀f,ep (F.set k2 f) ej=some [.v (.bool false),.J [] .nil,.J [] .nil]:=λf=>U.aJ (by rw[U.an _ _ C];exact l3);have C:=M.cH s;have I:=(Ext.of T).trans G;refine aa ?_;exact⟨_,U.a1,(M.set C).set o,(I.set (I.no C s)).set Q,k8,_,_,_,rfl⟩
   |ok C=>
    obtain⟨Z,k1,T,l3,rfl,I⟩:=A
    dsimp only at b
    refine aa ?_;refine br λk2 s=> ?_;obtain⟨v,B⟩: ∃v,F.set k2 (.cells [.v (.bool C.leaf),Z,k1])=v:=⟨_,rfl⟩;have A:F.sub v:=by rw[<-B];exact U.ae U.a1 s
    have l8:v.read k2=some [.v (.bool C.leaf),Z,k1]:=U.af (by rw[<-B,U.ah]);have k0:=rd A l2;have k6:=rd A l4;have F:=U.gZ s l2;have F:=U.gZ s l4;have k2:dd k7 v l q D 37 (flat K) i:=dd.mono ((dd.of a06 (t.mono l1) Ext.refl:dd k7 m l q y 37 (flat K) i).step G M) A;obtain⟨F,P,m,t⟩:=k2;refine cl (YT F v l q D m g.kids K i P S C Z k1 T l3 (I.mono A) n1 a9r k Y r n3 n4) ?_;intro k4 m k5;clear B s l8 k0 k6;have v:=λs y h=>YV (H:=D) (h:=s) (e:=r) (i:=k) (c:=g.kids) (d:=y) (b:=C) h n2 ⟨I.kC,I.iC⟩;generalize jU D r g.kids k C=k9 at b k5 v;obtain⟨res,s⟩:=k9;have k: ∀(r:R),bC m l q s->Ext l q F m->m ej=some (.cells [.v (.bool false),.J [] .nil,.J [] .nil])/\m p=some (.cells [.v (.bool false),u,i])/\
      ∃g:U,(m.set p (.cells [.v (.bool false),u,r])).set ej (.cells [.v (.bool false),u,r])=g/\g.read ej=some [.v (.bool false),u,r]/\bC g l q s/\Ext l q x g:=by
     intro r e n;have j:=t.trans n;exact⟨j _ _ o.1 o.2 n9,j _ _ w.1 w.2 l5,_,rfl,U.af (U.ah _ _ _),(e.set w).set o,((((Ext.of l1).trans j).set l7).set Q)⟩
    cases res with
    |error l6=>
     obtain⟨l,C,k8,i,rfl,D⟩:=k5
     dsimp only at b l
     subst b;obtain⟨q,r,g,x,a02,A,B⟩:=k i l C;have X: ∀f,ep (m.set p f) ej=some [.v (.bool false),.J [] .nil,.J [] .nil]:=λf=>U.aJ (by rw[U.an _ _ l9];exact q);have a01:=U.aJ r;clear v k;refine aa ?_;exact⟨_,U.a1,A,B,k8,_,_,_,rfl⟩
    |ok y=>
     obtain⟨C,i,F,rfl,l⟩:=k5;have G:=v s y rfl
     dsimp only at b l
     subst b;obtain⟨q,r,g,x,a02,A,B⟩:=k i l.gh l.ext;have X: ∀f,ep (m.set p f) ej=some [.v (.bool false),.J [] .nil,.J [] .nil]:=λf=>U.aJ (by rw[U.an _ _ l9];exact q);have a01:=U.aJ r;obtain⟨b,b,f,f⟩:=l;have D:i.cells= [i]:=fL b;clear v k;refine aa ?_;have g:=t.trans (f.trans (Ext.of b.1));refine⟨_,U.a1,A,B,u,i,j9,C,rfl,iK.of (f:=λ_=>none) (t:=λ_=>none) E F (ar.emp (ar.mono L z) ?_) (ar.emp b ?_) a9t G⟩
     .rintro a c d rfl;have H:=l0 _ _ _ rfl;obtain⟨_,n0,j⟩:=L.own;rw[<-x,U.an _ _ H.2.2.1,U.an _ _ H.2.2.2.1,z _ _ j];exact g _ _ H.1 H.2.1 (by rw[N _ (λO V W h=>H.2.2.2.2 O V W h)];exact z _ _ j)
     .rintro a c d rfl;have k3:=b.own.1;have b:=f _ _ w.1 w.2 (t _ _ w.1 w.2 l5);have c:=f _ _ o.1 o.2 (t _ _ o.1 o.2 n9);have e:a≠p:=by rintro rfl;rw[b]at k3;cases k3
      have n:a≠ej:=by rintro rfl;rw[c]at k3;cases k3
      rw[<-x,U.an _ _ n,U.an _ _ e]
def kH (d:Nat) (k:List Int) (h:ag) (c:ay):Except Int ay×ag:=
 if c=aA then(.error 9,h)
 else match ie d k (c.size.toNat+1) h c with
  |(.error o,b)=>(.error o,b)
  |(.ok a,b)=>
   if a.leaf=true/\a.rows.length=0 then(.ok aA,b)
   else if a.leaf=false/\a.kids.length=1 then(.ok (a.kids.headD aA),b)
   else mh b d a.leaf a.rows a.kids
def YX (h:U) (i q:Nat) (m:ag) (y:bC h i q m) (c:ay) (o p r:Own) (z:c.sum.length=32) (G:c.cF) (g:List Int) (u:Own) (b:Nat) (H:1<=b) (I:b<=8) (a:g.length=b):
  AC Tryz.prog 87 [.ptr i 0,.agg (ab c o p r),.J (ad g) u,.v (.int .i64 (b:Int))] h λA a=>bC a i q (kH b g m c).2/\Ext i q h a/\hd (kH b g m c).1 A:=by
 have a:=(aX (N:=o) (e5:=p) (h5:=r) z).lt;have a:=(aX (N:= .nil) (e5:= .nil) (h5:= .nil) bl).lt;have a:=ct;have B:=λC (d e f:Own) s=>cG (a:= .nil) (b:= .nil) (c:= .nil) (w:=C) (N:=d) (e5:=e) (h5:=f) bl s;have a:=B aA .nil .nil .nil bl;generalize D:ab aA .nil .nil .nil=K at*;obtain⟨j,a⟩: ∃j,kH b g m c=j:=⟨_,rfl⟩;rw[a];unfold kH at a;have j:qO (b:Int) [g]=true:=by simp[qO];omega
 refine aO hm LQ ?_;refine br λgS O=> ?_;refine db λE n _ _=> ?_;refine u2 λk j _ _ _ _=> ?_;generalize j:((h.set gS _).set E _).set k _=l;have v:h.sub l:=by subst j;exact aU
 have bp:l gS=some (.cells (ab c o p r)):=by subst j;exact aU
 have bw:l E=some (.cells K):=by subst j;exact aU
 clear j;have L:=y.mono v;have h:=y.cH n;have M:=U.af bp;have F:=U.aJ bw;have P:= @U.set_set;refine lY (DE b [g] [.J (ad g) u] _ l ⟨⟨u,rfl⟩,trivial⟩ (bT.J (by simp[aN,R.cells])) a9s) ?_;refine lY (nh c o p r l z G) ?_;refine aH (λk=> ?_) λk=> ?_
 .rw[if_pos k]at a;subst a;exact⟨_,U.a1,L.set h,(Ext.of v).set n,a9v,by rw[D]⟩
 rw[if_neg k]at a;refine br λN w=> ?_;have k:=U.gZ w bp;obtain⟨t,k⟩: ∃t,l.set N (.cells [.ptr i 0,.v (.int .i64 (b:Int))])=t:=⟨_,rfl⟩;have x:l.sub t:=by rw[<-k];exact U.ae U.a1 w
 have cu:t N=some (.cells [.ptr i 0,.v (.int .i64 (b:Int))]):=by rw[<-k,U.ah]
 have N:=U.af cu;have M:=rd x bp;refine cl (YW i q g u b H I (c.size.toNat+1) t m c o p r (L.mono x) z G a9r a9r) ?_;intro A z l;generalize ie b g (c.size.toNat+1) m c=c at l a;obtain⟨res,G⟩:=c;obtain⟨t,c,l⟩:=l
 dsimp only at t l a
 have u:=c _ _ h.1 h.2 (x _ _ bw);have g:=y.cH (U.bG v w);have L:=c _ _ g.1 g.2 cu;have j:=(Ext.of (U.aq v x)).trans c;clear k N M;cases res with
 |error M=>obtain⟨m,c,v,r,rfl⟩:=l;subst a;refine aa ?_;refine br λx o=> ?_;have c:=t.cH o;have p:=U.gZ o u;have F: ∀g,ep (z.set x g) E=some K:=λg=>U.aJ (by rw[U.an _ _ p];exact u);refine aa ?_;exact⟨_,U.a1,(t.set c).set h,(j.set (j.no c o)).set n,m,by rw[D]⟩
 |ok p=>
  obtain⟨v,r,E,K,rfl,c⟩:=l
  dsimp only at a
  refine aa ?_;refine br λx o=> ?_;obtain⟨m,y⟩: ∃m,z.set x (.cells [.v (.bool p.leaf),v,r])=m:=⟨_,rfl⟩;have g:z.sub m:=by rw[<-y];exact U.ae U.a1 o
  have z:m.read x=some [.v (.bool p.leaf),v,r]:=U.af (by rw[<-y,U.ah]);have N:=rd g L;have F:=U.aJ (g _ _ u);have x:=t.mono g;have t:=j.trans (Ext.of g);have j:=c.ox.len;have j:=c.jT.len;have j:=c.kC;have j:=c.iC;rw[P,y];clear o w O y;refine aH (λj=> ?_) λj=> ?_
  all_goals refine aH (λc2=> ?_) λc2=> ?_
  .rw[if_pos ⟨j,a9r⟩]at a;subst a;exact⟨_,U.a1,x.set h,t.set n,bl,mf,.nil,.nil,.nil,by rw[D]⟩
  rotate_left
  .obtain⟨o,y⟩:=a6S.1 (show p.kids.length=1 by omega);rw[if_neg (by simp[j]),if_pos ⟨j,a9r⟩,y]at a;subst a;obtain⟨w,L,w,N,d,e,f,rfl⟩:=c.k.get (show p.kids[0]? =some o by rw[y];rfl);obtain⟨y,z,D⟩:=(c.uy.mono g).get 0 _ L;have k:=aX (N:=d) (e5:=e) (h5:=f) w;change ng m y (ab o d e f)at D;have z:cS 37 r (.v (.int .i64 0))=some y:=z;have y:=D.ld m U.a1 true 37 a9r (by rw[k.len];omega);rw[show aY true 37 (ab o d e f)= .agg (ab o d e f) by rw[aY,if_pos rfl,k.t37]]at y;have y:=B o d e f w;have k:=k.lt;refine aa ?_;exact⟨_,U.a1,x.set h,t.set n,w,N,d,e,f,rfl⟩
  all_goals
   rw[if_neg (by rintro⟨s,k⟩;first|omega|simp[j]at s),if_neg (by rintro⟨s,k⟩;first|omega|simp[j]at s),j]at a;subst a;refine cl (DG m i q G x _ p.rows E v p.kids K r b H I c.r (c.ax.mono g) a9r c.k (c.uy.mono g) a9r) ?_;rintro A a ⟨c,a,l⟩;have F:=U.aJ (a _ _ h.1 h.2 (g _ _ u));obtain⟨C,d,e,f,M,b,rfl⟩:=l.shape;have g:=(aX (N:=d) (e5:=e) (h5:=f) b).lt;have y:=B C d e f b;refine aa ?_;exact⟨_,U.a1,c.set h,(t.trans a).set n⟩
end Go.Proofs.YtlgnfcaolejgeaaGreat
namespace Go.bB
open Go
end Go.bB
namespace Go.Proofs.YtlgnfcaolejgeaaGreat
open Go Go.bB
inductive qQ where
 |row (r:List Int)
 |hf (k:ay)
def YY (h:qQ) (b:R):Prop:=
 match h with
 | .row c=>c≠ []/\ ∃d,d≠ .nil/\b= .agg (.J (ad c) d::ab aA .nil .nil .nil)
 | .hf a=>a.sum.length=32/\a.cF/\ ∃k o p,b= .agg (.J [] .nil::ab a k o p)
abbrev YZ (a b:Nat) (c:List R) (d:Own):List R:= [.ptr a 0,.v (.int .i64 (b:Int)),.J c d]
def DX (b:U) (c d h:Nat) (k:List qQ):Prop:= ∃a o,b c=some (.cells (YZ d h a o))/\az YY k a
structure DY where
 A:List qQ
 B:List qQ
 gone:List (List Int)
 xS:List (List Int)
 oy:Int
abbrev Z0 (a b:Nat) (c d:List R) (h k:Own) (o:Int):List R:= [.ptr a 0,.ptr b 0,.J c h,.J d k,.v (.int .i64 o)]
structure a4D (h k:U) (W o p z C d:Nat) (w:DY):Prop where
 sub:h.sub k
 xT:h W=none
 na:h o=none
 nb:h p=none
 a4E:o≠p
 a:DX k o z d w.A
 b:DX k p C d w.B
 w: ∃ma ff r gy,k W=some (.cells (Z0 o p ma r ff gy w.oy))/\az isRow w.gone ma/\az isRow w.xS r/\bj h k 1 ma ff/\bj h k 1 r gy/\ ∀x c y D,ff= .buf x c->gy= .buf y D->x≠y
end Go.Proofs.YtlgnfcaolejgeaaGreat
namespace Go.bB
open Go
end Go.bB
namespace Go.Proofs.YtlgnfcaolejgeaaGreat
open Go Go.bB
variable{w j2:ay}{e i v M c0 j0:Nat}{e0:c5}{H:ag}
def xU (a:fq H e w=some e0):pw e w e0:=by
 unfold fq at a;split at a
 .cases a
 .split at a
  .cases a
  .split at a
   .rename_i b;obtain rfl:=a4I a;exact ux b
   .cases a
end Go.Proofs.YtlgnfcaolejgeaaGreat
namespace Go.bB
open Go
end Go.bB
namespace Go.Proofs.YtlgnfcaolejgeaaGreat
open Go Go.bB
def wt:qQ->Nat
 | .row _=>1
 | .hf a=>if 1<=a.size/\a.size<=1048576 then 3*a.size.toNat - 1 else 1
def kI (a:List qQ):Nat:=(a.map wt).sum
structure Bd (w a:DY):Prop where
 wt:kI a.A+kI a.B<kI w.A+kI w.B
 rows:a.gone.length+a.xS.length+(kI a.A+kI a.B)<=w.gone.length+w.xS.length+(kI w.A+kI w.B)
 oy:w.oy<=a.oy/\a.oy+2*(kI a.A+kI a.B:Nat)<=w.oy+2*(kI w.A+kI w.B:Nat)
end Go.Proofs.YtlgnfcaolejgeaaGreat
