import Derived.Test.YtlgnfcaolejgeaaGreatMD
import Derived.Test.YtlgnfcaolejgeaaGreatMC
set_option linter.all false
set_option maxRecDepth 100000
namespace Go.Proofs.YtlgnfcaolejgeaaGreat
open Go Go.bA
variable{e i v M c0 j0:Nat}
theorem Ds (b:e<18446744073709551616) (c:i<18446744073709551616):bn .xor (.int .u64 (e:Int)) (.int .u64 (i:Int))=some (.int .u64 ((e^^^i:Nat):Int)):=by
 have d:bn .xor (.int .u64 (e:Int)) (.int .u64 (i:Int))=some (.int .u64 (IntKind.u64.wrap (BitVec.ofInt 64 (e:Int)^^^BitVec.ofInt 64 (i:Int)).toNat)):=rfl;have h: ∀a:Nat,a<18446744073709551616->(BitVec.ofInt 64 (a:Int)).toNat=a:=λa k=>by simp;omega
 grind[Nat.xor_lt_two_pow,BitVec.toNat_xor,wrap_u64]
def ot (a:Int):cd a<18446744073709551616:=(BitVec.ofInt 64 a^^^BitVec.ofInt 64 9223372036854775808).isLt
def Dt (b:Int) (a:U):AC Tryz.prog 339 [.v (.int .i64 b)] a λc d=>d=a/\c= .v (.int .u64 (cd b:Int)):=by refine bf hm Sj a9q ?_;refine ax @CE ?_;exact⟨a,U.a1,rfl⟩
def Ys (a:Int) (b:U):AC Tryz.prog 338 [.v (.int .i64 a)] b λd h=>h=b/\d= .v (.bool (decide (1<=a)&&decide (a<=8))):=by
 refine bf hm Sh a9q ?_;by_cases c:1<=a
 .refine ax @c ?_;exact⟨b,U.a1,by simp[c]⟩
 .refine ax @c ?_;exact⟨b,U.a1,by simp[c]⟩
def gQ (b:(Int×Int)×Nat) (a:Int×Int):(Int×Int)×Nat:=
 if b.2<cd a.1^^^cd a.2/\b.2<b.2^^^(cd a.1^^^cd a.2)then(a,cd a.1^^^cd a.2)else b
def bx (a b:List Int):Bool:=
 if 1<=a.length/\a.length<=8/\b.length=a.length then
  decide (((a.zip b).foldl gQ ((a.zip b).headD (0,0),0)).1.1<((a.zip b).foldl gQ ((a.zip b).headD (0,0),0)).1.2)
 else false
theorem xA (a c:List Int) (j l:Own) (E:U):
  AC Tryz.prog 301 [.J (ad a) j,.J (ad c) l] E λK S=>S=E/\K= .v (.bool (bx a c)):=by
 refine bf hm RB a9q ?_;have D:=bH (q:=a);have T:=bH (q:=c);refine ax @D ?_;refine ai (Ys _ _) ?_;rintro _ E ⟨rfl,rfl⟩;unfold bx;by_cases h1:1<=a.length/\a.length<=8
 .have m:(1:Int)<=a.length:=a9p;have n:(a.length:Int)<=8:=a9p;by_cases q:(c.length:Int)=a.length
  .have F:c.length=a.length:=a9p;rw[if_pos ⟨h1.1,h1.2,F⟩];refine ax (bC @D @T @m @n @q @a5F) ?_;have j9:(a.zip c).length=a.length:=by simp[F]
   have s: ∀b,b<a.length-> ∃d,(a.zip c)[b]? =some d/\a[b]? =some d.1/\c[b]? =some d.2:=λb M=>by
    simp_all
   obtain⟨G,L,N,O⟩:=s 0 a9p;have Q:(a.zip c).headD (0,0)=G:=by
    cases t:a.zip c with
    |nil=>rw[t]at L;cases L
    |cons k0 k1=>rw[t]at L;simpa using L
   rw[Q];refine cu (λk S=> ∃(b o:Nat) (h:(Int×Int)×Nat),b<=a.length/\o<a.length/\S=E/\h=((a.zip c).take b).foldl gQ (G,0)/\h.2<18446744073709551616/\a[o]? =some h.1.1/\c[o]? =some h.1.2/\
     k 0= .J (ad a) j/\k 1= .J (ad c) l/\k 5= .v (.int .i64 o)/\k 6= .v (.int .u64 h.2)/\k 21= .v (.int .i64 a.length)/\k 22= .v (.int .i64 b))
    (λk _=>match k 22 with| .v (.int _ X)=>a.length - X.toNat| _=>0) ⟨0,0,(G,0),a9p,a9p,rfl,a9q,a9q,N,O,?_⟩ ?_
   .exact cq @D
   rintro k u ⟨b,o,h,M,v,rfl,V,P,W,e,p,r,x,y,z,C⟩;by_cases f:(b:Int)<a.length
   .obtain⟨d,Y,w,A⟩:=s b a9p;have g:((a.zip c).take (b+1)).foldl gQ (G,0)=gQ h d:=by rw[a5W,Y,a6N,<-V];rfl
    simp -dsimp -implicitDefEqProofs (disch:=first|omega|assumption|(simp only[aE,Nat.reduceAdd];try omega)) only[go_sem,simprocAttr,-List.reduceReplicate,p,r,x,y,z,C,f,gu w,gu A,oh];refine ai (Dt d.1 _) ?_;rintro _ u ⟨rfl,rfl⟩;simp -dsimp -implicitDefEqProofs (disch:=first|omega|assumption|(simp only[aE,Nat.reduceAdd];try omega)) only[go_sem,simprocAttr,-List.reduceReplicate,p,r,x,y,z,C,f,gu w,gu A,oh];refine ai (Dt d.2 _) ?_;rintro _ u ⟨rfl,rfl⟩;have B:cd d.1^^^cd d.2<18446744073709551616:=a7x (n:=64) (ot _) (ot _);have k2:h.2^^^(cd d.1^^^cd d.2)<18446744073709551616:=a7x (n:=64) P B;have cg:=Ds (ot d.1) (ot d.2);have c9:=Ds P B;rw[gQ]at g;generalize cd d.1^^^cd d.2=H at*;by_cases i:(h.2:Int)<(H:Int)
    .by_cases I:(h.2:Int)<((h.2^^^H:Nat):Int)
     .refine ax (ct @p @r @x @y @z @C @cg @c9 @i @I) ?_;grind
     .refine ax (ct @p @r @x @y @z @C @cg @c9 @i @I) ?_;refine⟨⟨b+1,o,h,a9p,v,?_,P,W,e,?_⟩,a9p⟩
      .rw[g,if_neg a9p]
      .simp
    .refine ax (dr @p @r @x @y @z @C @cg @c9 @i) ?_;refine⟨⟨b+1,o,h,a9p,v,?_,P,W,e,?_⟩,a9p⟩
     .rw[g,if_neg a9p]
     .simp
   .obtain rfl:b=a.length:=a9p;rw[a4I a9p]at V;simp -dsimp -implicitDefEqProofs (disch:=first|omega|assumption|(simp only[aE,Nat.reduceAdd];try omega)) only[go_sem,simprocAttr,-List.reduceReplicate,p,r,x,y,z,C,f,gu W,gu e,oh];exact⟨_,U.a1,rfl,by rw[V]⟩
  .have F: ¬c.length=a.length:=a9p;refine ax (bC @D @T @m @n @q @a5F) ?_;exact⟨_,U.a1,rfl,by rw[if_neg (λZ=>F Z.2.2)]⟩
 .have:(decide ((1:Int)<=a.length)&&decide ((a.length:Int)<=8))=false:=by grind
  refine ax (aM @D @T @this @a5w) ?_;exact⟨_,U.a1,rfl,by grind⟩
def mf (a b:List Int):Int:=if bx a b=true then -1 else if bx b a=true then 1 else 0
def Du (a b:List Int) (d h:Own) (c:U):
  AC Tryz.prog 237 [.J (ad a) d,.J (ad b) h] c λk o=>o=c/\k= .v (.int .i64 (mf a b)):=by
 refine bf hm Qa a9q ?_;refine cn ?_;refine ai (xA a b d h c) ?_;rintro _ c ⟨rfl,rfl⟩;unfold mf;cases h1:bx a b with
 |true=>refine cn ?_;exact⟨_,U.a1,rfl⟩
 |false=>
  refine cn ?_;refine ai (xA b a h d c) ?_;rintro _ c ⟨rfl,rfl⟩;cases p:bx b a with
  |true=>refine cn ?_;exact⟨_,U.a1,rfl⟩
  |false=>refine cn ?_;exact⟨_,U.a1,rfl⟩
end Go.Proofs.YtlgnfcaolejgeaaGreat
namespace Go.a6
variable{b0:Type}
def eX:Nat->List b0->List (List b0)
 |0,_=> []
 |b+1,a=>a.take (a.length/(b+1)+if 0<a.length%(b+1)then 1 else 0)::eX b (a.drop (a.length/(b+1)+if 0<a.length%(b+1)then 1 else 0))
def bU (a:Nat):Nat:=(a+3)/4
def chunks (a:List b0):List (List b0):=eX (bU a.length) a
theorem Dv: ∀(a:Nat) (b:List b0),eX a b=(List.range a).map λh=>(b.drop (h*(b.length/a)+min h (b.length%a))).take (b.length/a+if h<b.length%a then 1 else 0)
 |0,b=>rfl
 |a+1,b=>by
  have y:=a7K b.length (a+1);have z:=a6S b.length (a9l a);simp only[eX];generalize C:b.length/(a+1)=d at*;generalize D:b.length%(a+1)=c at*;rw[Dv a,a8Q,a5h,a6J];congr 1
  .simp
  .by_cases p:a=0
   .subst p;simp
   have k:(b.drop (d+if 0<c then 1 else 0)).length=d*a+(c - if 0<c then 1 else 0):=by grind
   have o:c -(if 0<c then 1 else 0)<a:=by split<;>omega
   have r:(b.drop (d+if 0<c then 1 else 0)).length/a=d:=by rw[k,a9k,Nat.mul_add_div a9p,Nat.div_eq_of_lt o];rfl
   have x:(b.drop (d+if 0<c then 1 else 0)).length%a=c - if 0<c then 1 else 0:=by rw[k,a9k,Nat.mul_add_mod,a6v o]
   rw[r,x];refine a6p λh E=> ?_;simp only[Function.comp,a5B];grind
def Dw: ∀(a:Nat) (b:List b0),(0<a\/b= [])->(eX a b).flatten=b
 |0,b,c=>by rcases c with c|c;(·omega);(·subst c;rfl)
 |a+1,b,_=>by
  simp only[eX,a6A];rw[Dw a,a5p];by_cases d:a=0
  .right;subst d;simp
  .left;omega
def chunks_flatten (a:List b0):(chunks a).flatten=a:=Dw _ _ (by
 cases a with
 |nil=>exact .inr rfl
 |cons b a=>left;simp only[bU,a4M];omega)
theorem ps {a:List b0} (b:1<=a.length) (c:a.length<=4):chunks a= [a]:=by
 have:bU a.length=1:=by unfold bU;omega
 simp[chunks,this,eX,Nat.mod_one]
theorem sH {a:List b0} (b:a.length=5):chunks a= [a.take 3,a.drop 3]:=by simp_all [bU,chunks,eX,a4V,a4I]
abbrev Row:=List Int
structure xB where
 rows:List Row
structure xC (a:Type) where
 kids:List a
def T:Nat->Type
 |0=>xB
 |a+1=>xC (T a)
def leaf (a:List Row):T 0:=xB.mk a
variable{e i v M c0 j0:Nat}
def node (a:List (T e)):T (e+1):=xC.mk a
def rows (a:T 0):List Row:=xB.rows a
def kids {a:Nat} (b:T (a+1)):List (T a):=xC.kids b
variable{h9:List Row}
theorem qM:rows (leaf h9)=h9:=rfl
theorem fg {a:List (T e)}:kids (node a)=a:=rfl
def hZ (a:T 0): ∃b,a=leaf b:=⟨rows a,rfl⟩
def gv (a:T (e+1)): ∃b,a=node b:=⟨kids a,rfl⟩
def len: {b:Nat}->T b->Nat
 |0,a=>(rows a).length
 | _+1,a=>(kids a).length
def bc:(a:Nat)->T a->List Row
 |0,b=>rows b
 |a+1,b=>(kids b).flatMap (bc a)
theorem hy:len (leaf h9)=h9.length:=rfl
def dF {a:List (T e)}:len (node a)=a.length:=rfl
theorem kC:bc 0 (leaf h9)=h9:=rfl
theorem fN {a:List (T e)}:bc (e+1) (node a)=a.flatMap (bc e):=rfl
theorem Dx (a:List Row):((chunks a).map leaf).flatMap (bc 0)=a:=by
 conv=>rhs;rw[<-chunks_flatten a]
 rw[a8a,a6J];congr 1;exact List.map_id _
theorem Dy (a:List (T e)):((chunks a).map node).flatMap (bc (e+1))=a.flatMap (bc e):=by
 conv=>rhs;rw[<-chunks_flatten a]
 induction chunks a with
 |nil=>rfl
 |cons b c ih=>rw[a5h,a5l,ih,a6A,a5D];rfl
def WF:(b:Nat)->T b->Prop
 |0,a=>2<=len a/\len a<=4
 |b+1,a=>2<=len a/\len a<=4/\ ∀c∈kids a,WF b c
def lp:(a:Nat)->T a->Prop
 |0,_=>True
 |a+1,b=> ∀c∈kids b,WF a c
theorem hb {a:T e}:WF e a↔2<=len a/\len a<=4/\lp e a:=by
 cases e with
 |zero=>simp[WF,lp]
 |succ e=>rfl
def jQ (b:Nat) (a:T b):Prop:=1<=len a/\len a<=4/\lp b a/\(0<b->2<=len a)
theorem jQ.of {a:T e} (b:WF e a):jQ e a:=by have:=hb.1 b;exact⟨a9p,this.2.1,this.2.2,λ_=>this.1⟩
def xD: ∀ {a:T e},1<=len a->lp e a->bc e a≠ []:=by
 induction e with
 |zero=>intro a c _ b;obtain⟨d,rfl⟩:=hZ a;rw[kC]at b;subst b;simp[hy]at c
 |succ e ih=>
  intro a c h b;obtain⟨d,rfl⟩:=gv a;rw[dF]at c
  match d,c with
  |k::d,_=>rw[fN,a5l]at b;have o:=hb.1 (h k a6t);exact ih a9p o.2.2 (List.append_eq_nil_iff.1 b).1
def cS (a:Nat) (b:T a):Row:=(bc a b).headD []
section
variable (lt:Row->Row->Bool)
structure Ord (ok:Row->Prop):Prop where
 jf: ∀p,lt p p=false
 trans: ∀p a r,ok p->ok a->ok r->lt p a=true->lt a r=true->lt p r=true
 total: ∀p a,ok p->ok a->lt p a=false->lt a p=false->p=a
def cV (a:Row):List Row->Nat
 | _::b::c=>if lt a b then 0 else cV a (b::c)+1
 | _=>0
def dQ (c:List Row) (a:Row):List Row:=c.takeWhile (λb=>lt b a)++a::c.dropWhile (λb=>lt b a)
def eO (c:Row):(b:Nat)->T b->List (T b)
 |0,a=>(chunks (dQ lt (rows a) c)).map leaf
 |b+1,a=>
  match(kids a)[cV lt c ((kids a).map (cS b))]? with
  |some d=>(chunks ((kids a).take (cV lt c ((kids a).map (cS b)))++eO c b d++(kids a).drop (cV lt c ((kids a).map (cS b))+1))).map node
  |none=> []
def kD: {a:Nat}->T a->T a->List (T a)
 |0,b,c=>(chunks (rows b++rows c)).map leaf
 | _+1,b,c=>(chunks (kids b++kids c)).map node
def lq (b:List (T e)) (a:Nat) (c:T e):List (T e):=
 if 2<=len c then b.set a c
 else match b[if a=0 then 1 else a - 1]? with
  |some d=>b.take (a - 1)++(if a=0 then kD c d else kD d c)++b.drop (a - 1+2)
  |none=> []
def cM (c:Row):(b:Nat)->T b->T b
 |0,a=>leaf ((rows a).filter λd=>decide (d≠c))
 |b+1,a=>
  match(kids a)[cV lt c ((kids a).map (cS b))]? with
  |some h=>node (lq (kids a) (cV lt c ((kids a).map (cS b))) (cM c b h))
  |none=>a
end
theorem Dz (c:2<=h9.length) (d:h9.length<=5):(∀b∈(chunks h9).map leaf,WF 0 b)/\1<=(chunks h9).length/\(chunks h9).length<=2/\(h9.length<=4->(chunks h9).length=1):=by
 by_cases a:h9.length=5
 .rw[sH a];simp[WF,a,hy]
 .rw[ps a9p a9p];simp only[a5h,a6y,a4X,forall_eq,a6e,WF,hy];grind
theorem DA {a:List (T e)} (d:2<=a.length) (h:a.length<=5) (k: ∀b∈a,WF e b):(∀b∈(chunks a).map node,WF (e+1) b)/\1<=(chunks a).length/\(chunks a).length<=2/\(a.length<=4->(chunks a).length=1):=by
 by_cases c:a.length=5
 .rw[sH c];simp only[a5h,a6y,a5i,a6n,or_false,forall_eq_or_imp,forall_eq,a4M,a4R,WF,dF,fg];grind
 .rw[ps a9p a9p];simp only[a5h,a6y,a4X,forall_eq,a6e,WF,dF,fg];grind
variable{h2:Row}
section
variable {lt:Row->Row->Bool}{ok:Row->Prop}
abbrev jg (a:Row->Row->Bool) (b:List Row):Prop:=b.Pairwise λc d=>a c d=true
theorem xE {a:List Row} (c: ∀b∈h9,lt b h2=true):dQ lt (h9++a) h2=h9++dQ lt a h2:=by unfold dQ;simp_all
theorem Yt {b:List Row} (d: ∀a∈h9,lt a h2=false):dQ lt (b++h9) h2=dQ lt b h2++h9:=by
 have c:h9.takeWhile (λa=>lt a h2)= []/\h9.dropWhile (λa=>lt a h2)=h9:=by
  cases h9 with
  |nil=>exact⟨rfl,rfl⟩
  |cons h h9=>simp[d h a6t]
 induction b with
 |nil=>simp[dQ,c.1,c.2]
 |cons k b ih=>unfold dQ at ih|-;by_cases bP:lt k h2=true;simp_all;simp_all
theorem sI {a:Row}:h2∈dQ lt h9 a↔h2=a\/h2∈h9:=by grind[dQ,List.takeWhile_append_dropWhile]
theorem ou:(dQ lt h9 h2).length=h9.length+1:=by unfold dQ;have:=congrArg List.length (a5E (p:=λa=>lt a h2) (l:=h9));grind
def Yu (p:Ord lt ok) (r:jg lt h9) (h: ∀c∈h9,ok c) (x:ok h2) (y:h2∉h9):jg lt (dQ lt h9 h2):=by
 induction h9 with
 |nil=>simp[dQ]
 |cons a h9 ih=>
  have k:=a5r.1 r;have ih:=ih k.2 (λc b=>h c (by simp[b])) (λo=>y (by simp[o]));by_cases bP:lt a h2=true
  .have d:dQ lt (a::h9) h2=a::dQ lt h9 h2:=xE (h9:= [a]) (by simpa using bP);rw[d];refine a5r.2 ⟨λc b=> ?_,ih⟩;rcases sI.1 b with rfl|b
   .exact bP
   .exact k.1 c b
  .have d:dQ lt (a::h9) h2=h2::a::h9:=by simp[dQ,bP]
   rw[d];have z:lt h2 a=true:=by
    cases o:lt h2 a with
    |true=>rfl
    |false=>exact absurd (p.total h2 a x (h a a9q) o (by simpa using bP)) (λd=>y (by simp[d]))
   refine a5r.2 ⟨λc b=> ?_,r⟩;rcases a5i.1 b with rfl|b
   .exact z
   .exact p.trans h2 a c x (h a a9q) (h c (by simp[b])) z (k.1 c b)
theorem DB (x:Ord lt ok) {d:Row} (y:ok d): ∀(h:List (List Row)),h≠ []->(∀D∈h,D≠ [])->jg lt h.flatten->(∀a∈h.flatten,ok a)->
  cV lt d (h.map (·.headD []))<h.length/\(∀a∈(h.take (cV lt d (h.map (·.headD [])))).flatten,lt a d=true)/\(∀a∈(h.drop (cV lt d (h.map (·.headD []))+1)).flatten,lt d a=true)
 | [],W,_,_,_=>absurd rfl W
 | [e],_,_,_,_=>by simp[cV]
 |e::k::z,_,G,m,C=>by
  simp only[a5h,cV];obtain⟨b,o,p⟩: ∃b o,k=b::o:=by
   cases p:k with
   |nil=>exact absurd p (G k a9q)
   |cons b o=>exact⟨b,o,rfl⟩
  have L:k.headD []=b:=by rw[p];rfl
  have E:ok b:=C b (by simp[p]);have F:jg lt (k::z).flatten:=by grind
  rw[L];by_cases r:lt d b=true
  .rw[if_pos r];refine⟨a9q,a9q,λa c=> ?_⟩;simp only[a5e,a6c,a6U]at c;have f:(k::z).flatten=b::(o++z.flatten):=by rw[p];rfl
   rw[f]at c F;rcases a5i.1 c with rfl|c
   .exact r
   .refine x.trans d b a y E (C a ?_) r ((a5r.1 F).1 a c);simp_all
  .rw[if_neg r];have ih:=DB x y (k::z) a9q (λD P=>G D (by simp at P|-;exact .inr P)) F (λa c=>C a (by simp_all));simp only[a5h,L]at ih;obtain⟨g,i,j⟩:=ih;refine⟨by simp at g|-;omega,λa c=> ?_,λa c=>j a (by simpa using c)⟩;simp only[a6C,a6A,a5a]at c;rcases c with c|c
   .
    have S:lt a b=true:=by grind
    by_cases T:b=d
    .rw[<-T];exact S
    .have l:ok a:=C a (by simp[c]);cases V:lt b d with
     |true=>exact x.trans a b d l E y S V
     |false=>exact absurd (x.total b d E y V (by simpa using r)) T
   .exact i a c
end
end Go.a6
namespace Go.Proofs.YtlgnfcaolejgeaaGreat
open Go Go.bA
variable{b4:FuncId}{g A e1:List R}
theorem Yv (a:List (List Int)) (z:List R) (k:R) (d:U) (C:az isRow a z) (D:bS d 1 k z) (u:a.length<=1000000000000) {h:List Int->Bool} (E:gZ isRow d b4 g A h):
  AC Tryz.prog 258 [k,.bG b4 g A] d λe o=>o=d/\ ∃F:Int,e= .v (.int .i64 F)/\decide (0<=F)=a.any h:=by
 refine bf hm QO a9q ?_;have f:=C.len;have i:=D.len;rw[f]at i;refine aa ?_;refine cu (λc o=> ∃b:Nat,b<=a.length/\o=d/\c 0=k/\c 1= .bG b4 g A/\c 7= .v (.int .i64 a.length)/\c 8= .v (.int .i64 b)/\(a.take b).any h=false)
  (λc _=>match c 8 with| .v (.int _ j)=>a.length - j.toNat| _=>0) ⟨0,a9p,rfl,?_⟩ ?_
 .refine aa ?_;simp
 rintro c p ⟨b,v,rfl,G,L,P,S,T⟩;by_cases V:(b:Int)<(a.length:Int)
 .have r:a[b]? =some a[b]:=a4H a9p;have l:a.take (b+1)=a.take b++ [a[b]]:=by rw[a5W,r];rfl
  have m:a[b]'a9p∈a:=a5m _;generalize a[b]'a9p=W at r l m;obtain⟨x,n,y⟩:=C.get r;obtain⟨q,w,s⟩:=D.get b x n;have B:dq false 1 p q=some x:=by have t:=s.ld p U.a1 false 1 a9p (by rw[isRow.cells y];omega);rw[t];obtain⟨H,rfl⟩:=y;rfl
  refine aa ?_;refine fI E.1 (E.2 W x _ y U.a1) ?_;rintro _ p ⟨rfl,rfl⟩;cases I:h W with
  |true=>simp -dsimp -implicitDefEqProofs (disch:=first|omega|assumption|(simp only[aE,Nat.reduceAdd];try omega)) only[go_sem,simprocAttr,-List.reduceReplicate,G,L,P,S,V];refine⟨_,U.a1,rfl,_,rfl,?_⟩;grind
  |false=>refine aa ?_;grind
 .obtain rfl:b=a.length:=a9p;simp -dsimp -implicitDefEqProofs (disch:=first|omega|assumption|(simp only[aE,Nat.reduceAdd];try omega)) only[go_sem,simprocAttr,-List.reduceReplicate,G,L,P,S,V];rw[a5f]at T;exact⟨_,U.a1,rfl,_,rfl,by rw[T];simp⟩
def DC (b:List (List Int)) (c:List R) (d:R) (a:U) (k:az isRow b c) (o:bS a 1 d c) (p:b.length<=1000000000000) {h:List Int->Bool} (r:gZ isRow a b4 g A h):
  AC Tryz.prog 180 [d,.bG b4 g A] a λx y=>y=a/\x= .v (.bool (b.any h)):=by
 refine bf hm OF a9q ?_;refine aa ?_;refine ai (Yv b c d a k o p r) ?_;rintro _ C ⟨rfl,D,rfl,z⟩;simp -dsimp -implicitDefEqProofs (disch:=first|omega|assumption|(simp only[aE,Nat.reduceAdd];try omega)) only[go_sem,simprocAttr,-List.reduceReplicate];exact⟨_,U.a1,rfl,by rw[z]⟩
def Yw (d:Int) (b:List Int) (h:R) (r:isRow b h) (a:U) (k:Nat) (o:a.read k=some [.v (.int .i64 d)]):
  AC Tryz.prog 232 [h,.ptr k 0] a λx y=>y=a/\x= .v (.bool (!decide ((b.length:Int)=d))):=by
 obtain⟨z,rfl⟩:=r;refine bf hm Q0 a9q ?_;have p:=bH (q:=b);by_cases c:(b.length:Int)=d
 .simp -dsimp -implicitDefEqProofs (disch:=first|omega|assumption|(simp only[aE,Nat.reduceAdd];try omega)) only[go_sem,simprocAttr,-List.reduceReplicate,p,o,c];exact⟨a,U.a1,by simp[c]⟩
 .simp -dsimp -implicitDefEqProofs (disch:=first|omega|assumption|(simp only[aE,Nat.reduceAdd];try omega)) only[go_sem,simprocAttr,-List.reduceReplicate,p,o,c];exact⟨a,U.a1,by simp[c]⟩
def qN (a:Int) (b:List (List Int)):Bool:=decide (1<=a)&&decide (a<=8)&&b.all λc=>decide ((c.length:Int)=a)
def DD (a:Int) (c:List (List Int)) (k:List R) (o:R) (b:U) (y:az isRow c k) (z:bS b 1 o k) (C:c.length<=1000000000000):
  AC Tryz.prog 153 [.v (.int .i64 a),o] b λp r=>r=b/\p= .v (.bool (qN a c)):=by
 refine bf hm NJ a9q ?_;refine aa ?_;refine aP λd D=> ?_;have h:=U.ae (Y:= .cells [.v (.int .i64 a)]) (U.a1 (f:=b)) D;have c2:(b.set d (.cells [.v (.int .i64 a)])) d=some (.cells [.v (.int .i64 a)]):=U.ah _ _ _;unfold qN;by_cases h1:1<=a
 .by_cases x:a<=8
  .refine aa ?_;refine ai (DC c k o _ y (z.mono h) C (b4:=232) (g:= []) (A:= [.ptr d 0]) (h:=λp=> !decide ((p.length:Int)=a)) ⟨a9u,λE F r G L=>Yw a E F G r d (U.af (L _ _ c2))⟩) ?_;rintro _ _ ⟨rfl,rfl⟩;simp -dsimp -implicitDefEqProofs (disch:=first|omega|assumption|(simp only[aE,Nat.reduceAdd];try omega)) only[go_sem,simprocAttr,-List.reduceReplicate];refine⟨b,h,rfl,?_⟩;rw[List.any_eq_not_all_not];simp[h1,x]
  .simp -dsimp -implicitDefEqProofs (disch:=first|omega|assumption|(simp only[aE,Nat.reduceAdd];try omega)) only[go_sem,simprocAttr,-List.reduceReplicate,h1,x];exact⟨b,h,by simp[x]⟩
 .simp -dsimp -implicitDefEqProofs (disch:=first|omega|assumption|(simp only[aE,Nat.reduceAdd];try omega)) only[go_sem,simprocAttr,-List.reduceReplicate,h1];exact⟨b,h,by simp[h1]⟩
theorem xF (a:Nat) (h:a<=1000000000000) (b:U):AC Tryz.prog 246 [.v (.int .i64 (a:Int))] b λc d=>d=b/\c= .v (.int .i64 (a6.bU a:Int)):=by refine bf hm Qr a9q ?_;simp -dsimp -implicitDefEqProofs (disch:=first|omega|assumption|(simp only[aE,Nat.reduceAdd];try omega)) only[go_sem,simprocAttr,-List.reduceReplicate];refine⟨b,U.a1,rfl,?_⟩;grind[a6.bU,wrap_i64]
def du (a:ag) (c:Nat) (b:c4):Except Int ay×ag:=
 match fJ c b with
 |none=>(.error 1,a)
 |some d=>(.ok d,eN a (db b))
def dG (a:List (List Int)):c4:=⟨2,a.map λb=>(b,true),[]⟩
def ej (a:List ay):c4:=⟨3,[],a⟩
abbrev dX (a b:Nat):R:= .agg [.ptr a 0,.v (.int .i64 (b:Int))]
def hc (d:Except Int ay) (b:R):Prop:=
 match d with
 | .error c=>c≠0/\b= .aL [.agg (ab aA .nil .nil .nil),.v (.int .i64 c)]
 | .ok a=>a.sum.length=32/\a.cE/\ ∃h k o,b= .aL [.agg (ab a h k o),.v (.int .i64 0)]
variable{n b3:R}
def hc.shape {k:Except Int ay} (o:hc k n): ∃a b c d h,a.sum.length=32/\n= .aL [.agg (ab a b c d),.v (.int .i64 h)]:=by
 cases k with
 |error h=>exact⟨aA,_,_,_,h,bk,o.2⟩
 |ok a=>obtain⟨p,_,b,c,d,r⟩:=o;exact⟨a,b,c,d,0,p,r⟩
variable{f t e7:U}{e i v M c0 j0:Nat}{H:ag}
def bB.cG (a:bB f i v H) (b:f e=none):e≠i/\e≠v:=by
 refine⟨?_,?_⟩
 .rintro rfl;obtain⟨_,_,a⟩:=a.at_;rw[a]at b;cases b
 .rintro rfl;obtain⟨_,⟨_,_,a,_⟩,_⟩:=a.mp;rw[a]at b;cases b
theorem bB.set {c:U}{l a b:Nat}{d:ag}{ob:bp} (k:bB c l a d) (h:b≠l/\b≠a):bB (c.set b ob) l a d:=k.other (U.an _ _ (a4Q h.1)) (U.an _ _ (a4Q h.2))
def xG (d:U) (h k:Nat) (o:ag) (C:bB d h k o) (c:c4) (D E:List R) (r x:R) (b:Nat) (G:1<=b) (y:b<=8) (L:fB d c r x D E):
  AC Tryz.prog 233 [.ptr h 0,gP c r x,.v (.int .i64 (b:Int))] d λF z=>bB z h k (du o b c).2/\Ext h k d z/\hc (du o b c).1 F:=by
 refine(Yj d h k o C c D E r x b G y L).mono λF z a=> ?_;unfold du;cases p:fJ b c with
 |none=>rw[p]at a;exact⟨C.mono a.1,Ext.of a.1,a9t,a.2⟩
 |some P=>rw[p]at a;exact⟨a.1,a.2.1,(uo y p).1,Di y p,a.2.2⟩
theorem xH (F:U) (G e:Nat) (f:ag) (X:bB F G e f) (a:List (List Int)) (h:List R) (q:R) (y:Nat) (n2:1<=y) (n3:y<=8) (g:az isRow a h) (Y:bS F 1 q h) (n4:a.length<=100000):
  AC Tryz.prog 155 [dX G y,q] F λr z=>bB z G e (du f y (dG a)).2/\Ext G e F z/\hc (du f y (dG a)).1 r:=by
 refine bf hm NN a9q ?_;have s: ∀Z,(R.agg Z).cells=Z:=λ_=>rfl;have n5: ∀b c k o j9 T:R,putAt [b,c,k] 0 [o,j9,T]= [o,j9,T]:=λ_ _ _ _ _ _=>rfl;have n9: ∀b c k o:R,putAt [b,c,k] 0 [o]= [o,c,k]:=λ_ _ _ _=>rfl;have a00: ∀b c k o:R,putAt [b,c,k] 1 [o]= [b,o,k]:=λ_ _ _ _=>rfl;have k0: ∀b c k:R,[b,c,k].length=3:=λ_ _ _=>rfl;have a43: ∀b c k:R,List.take 3 [b,c,k]= [b,c,k]:=λ_ _ _=>rfl;have k1:=Y.len;rw[g.len]at k1;refine aa ?_;refine aP λS a01=> ?_;refine aa ?_;refine aP λP i=> ?_;refine aa ?_;refine aP λC V=> ?_;have t:S≠P:=by rintro rfl;rw[U.ah]at i;cases i
 have a02:P≠C:=by rintro rfl;rw[U.ah]at V;cases V
 have a03:S≠C:=by rintro rfl;rw[U.an _ _ t,U.ah]at V;cases V
 have u:F P=none:=by rw[U.an _ _ (a4Q t)]at i;exact i
 have a47:F C=none:=by simp_all [U.an,a4Q]
 obtain⟨L,W⟩: ∃L:U,L=(F.set S (.cells [.ptr G 0,.v (.int .i64 (y:Int))])).set P (.cells (ab aA .nil .nil .nil)):=⟨_,rfl⟩;have k2:F.sub L:=by rw[W];exact U.ae (U.ae U.a1 a01) u
 have c2:L S=some (.cells [.ptr G 0,.v (.int .i64 (y:Int))]):=by rw[W,U.an _ _ t,U.ah]
 have aM:L P=some (.cells (ab aA .nil .nil .nil)):=by rw[W,U.ah]
 have k3:L C=none:=by rw[W];exact V
 have a04:=(aX (N:= .nil) (e5:= .nil) (h5:= .nil) bk).len;simp -dsimp -implicitDefEqProofs (disch:=first|omega|assumption|(simp only[aE,Nat.reduceAdd];try omega)) only[go_sem,simprocAttr,-List.reduceReplicate,s,cr,n9,k0,n5,U.set_set,k1];rw[<-W]
 let p:R->R:=λb=> .agg [b,.v (.bool true)];have k4: ∀d,az dh ((a.take d).map λr=>(r,true)) ((h.take d).map p):=by
  have: ∀(a:List (List Int)) (h:List R),az isRow a h->az dh (a.map λr=>(r,true)) (h.map p):=by
   intro a
   induction a with
   |nil=>intro h D;cases h with
    |nil=>trivial
    |cons=>exact D.elim
   |cons o a ih=>intro h D;cases h with
    |nil=>exact D.elim
    |cons b h=>exact⟨by obtain⟨x,rfl⟩:=D.1;exact⟨x,rfl⟩,ih h D.2⟩
  exact λd=>this _ _ (g.take d)
 have a48: ∀d,((h.take d).map p).length<=100000:=λd=>by rw[a4T,a4L,g.len];omega
 have k5: ∀ {z:U}{k a x},bh (L.set C (.cells k)) z 2 a x->z S=some (.cells [.ptr G 0,.v (.int .i64 (y:Int))])/\z P=some (.cells (ab aA .nil .nil .nil))/\z C=some (.cells k):=λD=>⟨D.sub _ _ (by rw[U.an _ _ a03];exact c2),D.sub _ _ (by rw[U.an _ _ a02];exact aM),D.sub _ _ (U.ah _ _ _)⟩;refine cu (λE z=> ∃(d:Nat) (x:Own),d<=a.length/\bh (L.set C (.cells [.v (.int .u8 2),.J ((h.take d).map p) x,.J [] .nil])) z 2 ((h.take d).map p) x/\
   E 2= .ptr S 0/\E 4= .ptr P 0/\E 6= .ptr C 0/\E 10=q/\E 11= .v (.int .i64 a.length)/\E 12= .v (.int .i64 d))
  (λE _=>match E 12 with| .v (.int _ a05)=>a.length - a05.toNat| _=>0) ⟨0,.nil,a9p,?_,?_⟩ ?_
 .rw[show(h.take 0).map p= []from rfl,U.set_set];exact bh.nil U.a1
 .exact aU
 rintro E v ⟨d,x,a52,j,l,m,n,w,A,B⟩;obtain⟨a06,a07,k6⟩:=k5 j;by_cases k7:(d:Int)<a.length
 .have k8:a[d]? =some a[d]:=a4H a9p;generalize a[d]'a9p=r at k8;obtain⟨b,k9,H,rfl⟩:=g.get k8;obtain⟨a56,a08,a09⟩:=(Y.mono (U.aq k2 (U.aq (U.ae (Y:= .cells [.v (.int .u8 2),.J ((h.take d).map p) x,.J [] .nil]) U.a1 k3) j.sub))).get d _ k9;have l0:=a09.ld v U.a1 false 1 a9p (by simp[R.cells]);have a10:aY false 1 (R.J (ad r) H).cells= .J (ad r) H:=rfl;rw[a10]at l0;have a11:(h.take (d+1)).map p=(h.take d).map p++ [.agg [.J (ad r) H,.v (.bool true)]]:=by rw[a5W,k9,a5N];rfl
  have a13: ∀b c k:R,aY false 1 ([b,c,k].drop 1)=c:=λ_ _ _=>rfl;have a14: ∀b c o:R,putAt [b,c] 0 [o]= [o,c]:=λ_ _ _=>rfl;have a15: ∀b c o:R,putAt [b,c] 1 [o]= [b,o]:=λ_ _ _=>rfl;have a16: ∀b c:R,[b,c].length=2:=λ_ _=>rfl;have a18: ∀c:Bool,(R.v (.bool c)).cells= [.v (.bool c)]:=λ_=>rfl;have l1: ∀(T:List R) (l2:Own),(R.J T l2).cells= [.J T l2]:=λ_ _=>rfl;simp -dsimp -implicitDefEqProofs (disch:=first|omega|assumption|(simp only[aE,Nat.reduceAdd];try omega)) only[go_sem,simprocAttr,-List.reduceReplicate,l,m,n,w,A,B,k7,a08,l0,U.af k6,a13,a14,a15,a16,a18,l1];refine cI U.a1 (by simp[aN,R.cells]) λa57 a61 a19=> ?_;refine aa ?_;refine dp (j.mono a19.sub) ((k4 d).cells λ_ _=>dh.cells) (by simp[aN,R.cells]) (by grind) (by grind) λl3 a62 I=> ?_;rw[<-a11]at I|-;obtain⟨a63,l4,a27⟩:=k5 I;simp -dsimp -implicitDefEqProofs (disch:=first|omega|assumption|(simp only[aE,Nat.reduceAdd];try omega)) only[go_sem,simprocAttr,-List.reduceReplicate,l,m,n,w,A,B,U.aJ a27,l1,a00,k0];have l5:=I.set (l:=C) (ob:= .cells [.v (.int .u8 2),.J ((h.take (d+1)).map p) l3,.J [] .nil]) (U.ah _ _ _);rw[U.set_set]at l5;exact⟨⟨d+1,l3,a9p,l5,a9q⟩,a9p⟩
 .obtain rfl:d=a.length:=a9p;have a29: ∀b c k,aY true 3 [b,c,k]= .agg [b,c,k]:=λ_ _ _=>rfl;have K:=k4 a.length;rw[a5f]at K;have l6:=U.aq k2 (U.aq (U.ae (Y:= .cells [.v (.int .u8 2),.J ((h.take a.length).map p) x,.J [] .nil]) U.a1 k3) j.sub);have a30:fB v (dG a) (.J ((h.take a.length).map p) x) (.J [] .nil) ((h.take a.length).map p) []:=by
   refine⟨K,trivial,bS.J (K.cells λ_ _=>dh.cells),bS.J (by simp[aN]),?_,?_⟩
   .simp only[dG,a4T];exact n4
   .simp[dG]
  simp -dsimp -implicitDefEqProofs (disch:=first|omega|assumption|(simp only[aE,Nat.reduceAdd];try omega)) only[go_sem,simprocAttr,-List.reduceReplicate,l,m,n,w,A,B,k7,U.af a06,U.af k6,a29,s];have a34:=xG v G e f (X.mono l6) (dG a) _ _ _ _ y n2 n3 a30;refine ai a34 ?_;rintro r a65 ⟨a36,l7,l8⟩;have M:=X.cG u;have l4:=l7 _ _ M.1 M.2 a07;obtain⟨l9,N,O,Q,a68,n0,rfl⟩:=l8.shape;have n1:=aX (N:=N) (e5:=O) (h5:=Q) n0;have a38:=n1.len;have a42:putAt (ab aA .nil .nil .nil) 0 (ab l9 N O Q)=ab l9 N O Q:=cF bk n0;simp -dsimp -implicitDefEqProofs (disch:=first|omega|assumption|(simp only[aE,Nat.reduceAdd];try omega)) only[go_sem,simprocAttr,-List.reduceReplicate,l,m,n,s,U.aJ l4,a42,a38,a04,n1.t37];exact⟨_,U.a1,a36.set M,((Ext.of l6).trans l7).set u,l8⟩
def DE (a:U) (d x:Nat) (y:ag) (W:bB a d x y) (h:List ay) (D:List R) (E:R) (b:Nat) (v:1<=b) (w:b<=8) (A:az bs h D) (e:bS a 37 E D) (B:h.length<=100000):
  AC Tryz.prog 243 [dX d b,E] a λf g=>bB g d x (du y b (ej h)).2/\Ext d x a g/\hc (du y b (ej h)).1 f:=by
 refine bf hm Ql a9q ?_;have i: ∀j,(R.agg j).cells=j:=λ_=>rfl;have H: ∀k c o r:R,putAt [k,c,o] 0 [r]= [r,c,o]:=λ_ _ _ _=>rfl;have I: ∀k c o r:R,putAt [k,c,o] 2 [r]= [k,c,r]:=λ_ _ _ _=>rfl;have K: ∀k c o:R,[k,c,o].length=3:=λ_ _ _=>rfl;have M:=(aX (N:= .nil) (e5:= .nil) (h5:= .nil) bk).len;refine aa ?_;refine aP λl N=> ?_;refine aa ?_;refine aP λz C=> ?_;have m:l≠z:=by rintro rfl;rw[U.ah]at C;cases C
 have F:a z=none:=by rw[U.an _ _ (a4Q m)]at C;exact C
 obtain⟨p,G⟩: ∃p:U,p=(a.set l (.cells [.ptr d 0,.v (.int .i64 (b:Int))])).set z (.cells (ab aA .nil .nil .nil)):=⟨_,rfl⟩;have L:a.sub p:=by rw[G];exact U.ae (U.ae U.a1 N) F
 have aM:p z=some (.cells (ab aA .nil .nil .nil)):=by rw[G,U.ah]
 simp -dsimp -implicitDefEqProofs (disch:=first|omega|assumption|(simp only[aE,Nat.reduceAdd];try omega)) only[go_sem,simprocAttr,-List.reduceReplicate,i,cr,H,I,K,e.one,U.an,m,U.ah];rw[<-G];have O:fB p (ej h) (.J [] .nil) E [] D:=⟨trivial,A,bS.J (by simp[aN]),e.mono L,by simp[ej],B⟩;refine ai (xG p d x y (W.mono L) (ej h) _ _ _ _ b v w O) ?_;rintro f j9 ⟨Q,n,q⟩;have P:=W.cG F;have X:=n _ _ P.1 P.2 aM;obtain⟨s,S,T,V,k0,t,rfl⟩:=q.shape;have u:=aX (N:=S) (e5:=T) (h5:=V) t;have Y:=u.len;have Z:putAt (ab aA .nil .nil .nil) 0 (ab s S T V)=ab s S T V:=cF bk t;simp -dsimp -implicitDefEqProofs (disch:=first|omega|assumption|(simp only[aE,Nat.reduceAdd];try omega)) only[go_sem,simprocAttr,-List.reduceReplicate,i,U.aJ X,Z,Y,M,u.t37];exact⟨_,U.a1,Q.set P,((Ext.of L).trans n).set F,q⟩
def xI (a:c4) (w A:List R) (p z:R) (r:U) (P:fB r a p z w A):
  AC Tryz.prog 236 [gP a p z] r λc V=> ∃d,az isRow (a.rows.map Prod.fst) d/\ar r V 1 (flat d) c:=by
 refine bf hm Q8 a9q ?_;have S: ∀g,(R.agg g).cells=g:=λ_=>rfl;have B:=P.ha;have k5:=P.kB;refine ax @S ?_;refine aP λT H=> ?_;obtain⟨x,W⟩: ∃x:U,x=r.set T (.cells [.v (.int .u8 (a.kind.toNat:Int)),p,z]):=⟨_,rfl⟩;have i:r.sub x:=by rw[W];exact U.ae U.a1 H
 have k6:x T=some (.cells [.v (.int .u8 (a.kind.toNat:Int)),p,z]):=by rw[W,U.ah]
 have I:=P.lQ.mono i;refine ax (aI @S @U.ah @B) ?_;rw[show r.set T (.cells (gP a p z).cells)=x from W.symm];refine cu (λk V=> ∃(b:Nat) (c:R) (d:List R),b<=a.rows.length/\az isRow ((a.rows.take b).map Prod.fst) d/\ar x V 1 (flat d) c/\k 1= .ptr T 0/\k 3=c/\k 7=p/\k 8= .v (.int .i64 a.rows.length)/\k 9= .v (.int .i64 b))
  (λk _=>match k 9 with| .v (.int _ K)=>a.rows.length - K.toNat| _=>0) ⟨0,.J [] .nil,[],a9p,trivial,ar.nil U.a1,?_⟩ ?_
 .exact nY
 rintro k M ⟨b,c,d,k7,C,e,D,E,F,G,L⟩;by_cases j:(b:Int)<a.rows.length
 .have f:a.rows[b]? =some a.rows[b]:=a4H a9p;have l:a.rows.take (b+1)=a.rows.take b++ [a.rows[b]]:=by rw[a5W,f];rfl
  generalize a.rows[b]'a9p=h at f l;obtain⟨y,N,o,rfl⟩:=P.rows.get f;obtain⟨k8,O,Q⟩:=I.get b _ N;have m:=Q.ld M e.1 true 2 a9p (by simp[R.cells]);have X:aY true 2 (R.agg [.J (ad h.1) o,.v (.bool h.2)]).cells= .agg [.J (ad h.1) o,.v (.bool h.2)]:=rfl;have n: ∀c y q s:R,putAt [c,y] 0 [q,s]= [q,s]:=λ_ _ _ _=>rfl;have t: ∀c y:R,[c,y].length=2:=λ_ _=>rfl;have Y: ∀c y:R,aY false 1 [c,y]=c:=λ_ _=>rfl;rw[X]at m;refine ax (iy @D @E @F @G @L @j @O @m @S @n @t) ?_;refine aP λk9 Z=> ?_;have j9:=ar.mono e (U.ae (Y:= .cells [.J (ad h.1) o,.v (.bool h.2)]) U.a1 Z);refine ax (iy @D @E @F @G @L @S @n @t @Y @U.set_set @U.ah) ?_;refine eS (by simp[aN,R.cells]) a9q λl0 k0=> ?_;have k1:=ar.mono j9 (U.ae (Y:= .cells (flat [R.J (ad h.1) o])) U.a1 k0);have k2:az isRow ((a.rows.take b).map Prod.fst++ [h.1]) (d++ [R.J (ad h.1) o]):=C.snoc ⟨_,rfl⟩;have u:(flat d).length=b:=by rw[dg (C.cells λ_ _=>isRow.cells),C.len];simp;omega
  refine ax (bo @D @E @F @G @L) ?_;refine fj k1 a9p (oq rfl) rfl (by rw[u];simp[flat,R.cells];omega) (by rw[u];simp[flat,R.cells];omega) λk3 l1 v=> ?_;have k4:flat d++flat [R.J (ad h.1) o]=flat (d++ [R.J (ad h.1) o]):=by simp[flat]
  rw[k4]at v;refine ax (bo @D @E @F @G @L) ?_;refine⟨⟨b+1,k3,_,a9p,?_,v,a9q⟩,a9p⟩;rw[l,a5N];exact k2
 .obtain rfl:b=a.rows.length:=a9p;rw[a5f]at C;refine ax (bC @D @E @F @G @L @j) ?_;exact⟨_,U.a1,d,C,e.base i⟩
def iH (b:ag) (c:Nat) (d:ay):Option c4:=
 match fp b c d with
 |none=>none
 |some a=>if a.kind=2\/a.kind=3 then some a else none
theorem xJ (b:U) (T I:Nat) (V:ag) (k1:bB b T I V) (o:ay) (W e f:Own) (K:o.sum.length=32) (k2:o.cE) (p:Nat) (k3:1<=p) (k4:p<=8):
  AC Tryz.prog 234 [dX T p,.agg (ab o W e f)] b λq y=>b.sub y/\match iH V p o with
   |none=>q= .aL [xy,.v (.int .i64 21)]
   |some a=> ∃d h,q= .aL [gP a d h,.v (.int .i64 0)]/\hx b y a d h:=by
 refine bf hm Q4 a9q ?_;have c: ∀M,(R.agg M).cells=M:=λ_=>rfl;have z: ∀C D E d h N:R,putAt [C,D,E] 0 [d,h,N]= [d,h,N]:=λ_ _ _ _ _ _=>rfl;have L: ∀C D E,aY true 3 [C,D,E]= .agg [C,D,E]:=λ_ _ _=>rfl;have F: ∀C D E:R,[C,D,E].length=3:=λ_ _ _=>rfl;have O:=aX (N:=W) (e5:=e) (h5:=f) K;have s:=O.len;refine ax @c ?_;refine aP λt l3=> ?_;refine ax (c2 @c @s) ?_;refine aP λg i=> ?_;have u:t≠g:=by rintro rfl;rw[U.ah]at i;cases i
 have l4:b g=none:=by rw[U.an _ _ (a4Q u)]at i;exact i
 refine ax (c2 @c @s) ?_;refine aP λk j=> ?_;have k5:g≠k:=by rintro rfl;rw[U.ah]at j;cases j
 have k6:t≠k:=by rintro rfl;rw[U.an _ _ u,U.ah]at j;cases j
 have k7:b k=none:=by simp_all [U.an,a4Q]
 obtain⟨P,Q⟩: ∃P:U,P=((b.set t (.cells [.ptr T 0,.v (.int .i64 (p:Int))])).set g (.cells (ab o W e f))).set k (.cells [.v (.int .u8 0),.J [] .nil,.J [] .nil]):=⟨_,rfl⟩;have v:b.sub P:=by grind[U.ae,U.a1]
 have aM:P k=some (.cells [.v (.int .u8 0),.J [] .nil,.J [] .nil]):=by rw[Q,U.ah]
 have l: ∀(y:U) (X:bp),b.sub y->b.sub (y.set k X):=λy X w=>U.ae w k7;refine ax (bu @c @s @U.an @u @k6 @k5 @U.ah O.t37) ?_;rw[<-Q];refine ai (xz P T I V (k1.mono v) o W e f K k2 p k3 k4) ?_;rintro q l5 ⟨Y,m⟩;have k8:=U.aq v Y;have G:=Y _ _ aM;unfold iH;cases Z:fp V p o with
 |none=>
  rw[Z]at m;obtain rfl:=m;refine ax (aI @c @z @F) ?_;refine aP λA r=> ?_;have x:k≠A:=by rintro rfl;rw[G]at r;cases r
  have S:=a4Q x;refine ax (dr @c @z @F @L @U.set_set @U.an @x @S (U.aJ G)) ?_;grind[U.a1,U.aq,U.ae]
 |some a=>
  rw[Z]at m;obtain⟨d,h,rfl,k9⟩:=m;simp -dsimp -implicitDefEqProofs (disch:=first|omega|assumption|(simp only[aE,Nat.reduceAdd];try omega)) only[go_sem,simprocAttr,-List.reduceReplicate,c,z,F,L];refine aP λA r=> ?_;have x:k≠A:=by rintro rfl;rw[G]at r;cases r
  have S:=a4Q x;have l0:=(k9.mono (U.ae (Y:= .cells [.v (.int .u8 (a.kind.toNat:Int)),d,h]) U.a1 r)).set (ob:= .cells [.v (.int .u8 (a.kind.toNat:Int)),d,h]) aM;have l6:=l0.base (l _ _ v);have B:=U.aq k8 (U.ae (Y:= .cells [.v (.int .u8 (a.kind.toNat:Int)),d,h]) U.a1 r);have l1:=iF a.kind 2 a9p;have l2:=iF a.kind 3 a9p;simp only[a7P]at l1 l2;simp only;by_cases j9:a.kind=2
  .have n:((a.kind.toNat:Int)=2)=True:=by rw[j9];simp
   refine ax (iy @c @z @F @L @U.set_set @U.ah @U.an @x @S (U.aJ G) @n) ?_;refine⟨_,U.a1,l _ _ B,?_⟩;grind
  .have n: ¬(a.kind.toNat:Int)=2:=λw=>j9 (by simp_all);by_cases k0:a.kind=3
   .have H:((a.kind.toNat:Int)=3)=True:=by rw[k0];simp
    refine ax (jc @c @z @F @L @U.set_set @U.ah @U.an @x @S (U.aJ G) @n @H) ?_;refine⟨_,U.a1,l _ _ B,?_⟩;grind
   .have H: ¬(a.kind.toNat:Int)=3:=λw=>k0 (by simp_all);refine ax (jc @c @z @F @L @U.set_set @U.ah @U.an @x @S (U.aJ G) @n @H) ?_;refine⟨_,U.a1,l _ _ B,?_⟩;simp_all
def xK (k:c4) (L P:List R) (d h:R) (o:U) (S:fB o k d h L P):
  AC Tryz.prog 248 [gP k d h] o λi j=> ∃a r,i= .agg [.v (.bool (decide (k.kind=2))),a,h]/\az isRow (k.rows.map Prod.fst) r/\ar o j 1 (flat r) a:=by
 refine bf hm Qu a9q ?_;have x: ∀T,(R.agg T).cells=T:=λ_=>rfl;have V: ∀a b c,aY true 3 [a,b,c]= .agg [a,b,c]:=λ_ _ _=>rfl;have l: ∀a b c:R,[a,b,c].length=3:=λ_ _ _=>rfl;have m: ∀a b c d h W:R,putAt [a,b,c] 0 [d,h,W]= [d,h,W]:=λ_ _ _ _ _ _=>rfl;have n: ∀a b c d:R,putAt [a,b,c] 0 [d]= [d,b,c]:=λ_ _ _ _=>rfl;have q: ∀a b c d:R,putAt [a,b,c] 1 [d]= [a,d,c]:=λ_ _ _ _=>rfl;have s: ∀a b c d:R,putAt [a,b,c] 2 [d]= [a,b,d]:=λ_ _ _ _=>rfl;have t: ∀b:Bool,(R.v (.bool b)).cells= [.v (.bool b)]:=λ_=>rfl;have u: ∀a b c:R,aY false 1 ([a,b,c].drop 2)=c:=λ_ _ _=>rfl;have e: ∀a b c:R,List.take 3 [a,b,c]= [a,b,c]:=λ_ _ _=>rfl;refine ax @x ?_;refine aP λE v=> ?_;refine ax @x ?_;refine aP λy z=> ?_;have F:E≠y:=by rintro rfl;rw[U.ah]at z;cases z
 have f:o y=none:=by rw[U.an _ _ (a4Q F)]at z;exact z
 obtain⟨p,C⟩: ∃p:U,p=(o.set E (.cells [.v (.int .u8 (k.kind.toNat:Int)),d,h])).set y (.cells [.v (.bool false),.J [] .nil,.J [] .nil]):=⟨_,rfl⟩;have g:o.sub p:=by rw[C];exact U.ae (U.ae U.a1 v) f
 have w:p E=some (.cells [.v (.int .u8 (k.kind.toNat:Int)),d,h]):=by rw[C,U.an _ _ F,U.ah]
 have c2:p y=some (.cells [.v (.bool false),.J [] .nil,.J [] .nil]):=by rw[C,U.ah]
 have G:=iF k.kind 2 a9p;simp only[a7P]at G;have A:UInt8.ofNat 2=2:=rfl;rw[A]at G;refine ax (bC @x @U.an @F @U.ah @V @e) ?_;rw[<-C];refine ai (xI k L P d h p (S.mono g)) ?_;rintro a N ⟨r,B,D⟩;have H:=D.1 _ _ w;have I:=D.1 _ _ c2;have K:a.cells= [a]:=fK D;have M:=S.gW.one;refine ax (p7 @x (U.af H) (U.aJ I) @V @e @u @t @K @M @n @q @s @l @m @G) ?_;refine⟨_,U.a1,a,r,rfl,B,?_⟩;exact(jP D c2).base (U.ae g f)
theorem Yx (h:R) (c d:R) (a b:Nat) (E:c.cells= [c]) (F:d.cells= [d]) (G:h.cells= [h]) (r:ff c=some (.v (.int .i64 (a:Int)))) (x:ff d=some (.v (.int .i64 (b:Int)))) (L:a<=1000000000000) (P:b<=1000000000000) (k:U):
  AC Tryz.prog 312 [.agg [h,c,d]] k λy z=>z=k/\y= .v (.bool (decide (a+b<2))):=by
 refine bf hm RN a9q ?_;have o: ∀p,(R.agg p).cells=p:=λ_=>rfl;refine ax @o ?_;refine aP λS C=> ?_;refine ax (aI @o @r @x) ?_;have D:decide ((a:Int)+b<2)=decide (a+b<2):=by grind
 exact⟨k,U.ae U.a1 C,rfl,by rw[D]⟩
def mg (a:ag) (b:Nat) (c:Bool) (d:List (List Int)) (h:List ay):Except Int ay×ag:=if c=true then du a b (dG d)else du a b (ej h)
theorem DF (a:U) (b d:Nat) (E:ag) (s:bB a b d E) (F:Bool) (G:List (List Int)) (t:List R) (g:R) (L:List ay) (u:List R) (i:R) (c:Nat) (K:1<=c) (M:c<=8) (k3:az isRow G t) (k4:bS a 1 g t) (k5:G.length<=100000) (k6:az bs L u) (k7:bS a 37 i u) (k8:L.length<=100000):
  AC Tryz.prog 161 [dX b c,.agg [.v (.bool F),g,i]] a λy N=>bB N b d (mg E c F G L).2/\Ext b d a N/\hc (mg E c F G L).1 y:=by
 refine bf hm NZ a9q ?_;have h: ∀O,(R.agg O).cells=O:=λ_=>rfl;have Q:=(aX (N:= .nil) (e5:= .nil) (h5:= .nil) bk).len;have X: ∀P S:R,List.take 2 [P,S]= [P,S]:=λ_ _=>rfl;have Y: ∀P S,aY true 2 [P,S]= .agg [P,S]:=λ_ _=>rfl;refine ax @h ?_;refine aP λv l1=> ?_;refine ax @h ?_;refine aP λj l=> ?_;have m:v≠j:=by rintro rfl;rw[U.ah]at l;cases l
 have l2:a j=none:=by rw[U.an _ _ (a4Q m)]at l;exact l
 refine ax (c2 @h @cr) ?_;refine aP λz n=> ?_;have Z:j≠z:=by rintro rfl;rw[U.ah]at n;cases n
 have j9:v≠z:=by rintro rfl;rw[U.an _ _ m,U.ah]at n;cases n
 have w:a z=none:=by simp_all [U.an,a4Q]
 obtain⟨k,A⟩: ∃k:U,k=((a.set v (.cells [.ptr b 0,.v (.int .i64 (c:Int))])).set j (.cells [.v (.bool F),g,i])).set z (.cells (ab aA .nil .nil .nil)):=⟨_,rfl⟩;have C:a.sub k:=by grind[U.ae,U.a1]
 have aM:k z=some (.cells (ab aA .nil .nil .nil)):=by rw[A,U.ah]
 have q:=s.cG w;unfold mg;have k0: ∀(k1:Except Int ay) (k2:ag) (y:R) (D:U),bB D b d k2->Ext b d k D->hc k1 y->D z=some (.cells (ab aA .nil .nil .nil)):=λk1 k2 y D _ k9 _=>k9 _ _ q.1 q.2 aM;cases F with
 |true=>refine ax (dr @h @cr @U.an @m @j9 @Z @U.ah @X @Y) ?_;rw[<-A];refine ai (xH k b d E (s.mono C) G t g c K M k3 (k4.mono C) k5) ?_;rintro y D ⟨T,V,o⟩;have B:=k0 _ _ _ _ T V o;obtain⟨W,p,r,x,l0,e,rfl⟩:=o.shape;have f:=aX (N:=p) (e5:=r) (h5:=x) e;have H:=f.len;have I:putAt (ab aA .nil .nil .nil) 0 (ab W p r x)=ab W p r x:=cF bk e;refine ax (bC @h (U.aJ B) @I @H @Q f.t37) ?_;exact⟨_,U.a1,T.set q,((Ext.of C).trans V).set w,o⟩
 |false=>refine ax (dr @h @cr @U.an @m @j9 @Z @U.ah @X @Y) ?_;rw[<-A];refine ai (DE k b d E (s.mono C) L u i c K M k6 (k7.mono C) k8) ?_;rintro y D ⟨T,V,o⟩;have B:=k0 _ _ _ _ T V o;obtain⟨W,p,r,x,l0,e,rfl⟩:=o.shape;have f:=aX (N:=p) (e5:=r) (h5:=x) e;have H:=f.len;have I:putAt (ab aA .nil .nil .nil) 0 (ab W p r x)=ab W p r x:=cF bk e;refine ax (bC @h (U.aJ B) @I @H @Q f.t37) ?_;exact⟨_,U.a1,T.set q,((Ext.of C).trans V).set w,o⟩
abbrev hz (a:List Int) (b:c4):Nat:=a6.cV bx a (b.kids.map (·.key))
variable{O:List (List Int)}{q b6:List Int}
def Yy {a:List Int}:a6.cV bx q (a::b6::O)=if bx q b6=true then 0 else a6.cV bx q (b6::O)+1:=rfl
theorem DG (a:c4) (B H:List R) (r x:R) (c:List Int) (P:Own) (d:U) (z:fB d a r x B H):
  AC Tryz.prog 240 [gP a r x,.J (ad c) P] d λI S=>S=d/\I= .v (.int .i64 (hz c a:Int)):=by
 refine bf hm Qg a9q ?_;have V: ∀W,(R.agg W).cells=W:=λ_=>rfl;have e:=z.ui;have k4:=z.iB;refine ax @V ?_;refine aP λC K=> ?_;obtain⟨h,T⟩: ∃h:U,h=d.set C (.cells [.v (.int .u8 (a.kind.toNat:Int)),r,x]):=⟨_,rfl⟩;have M:d.sub h:=by rw[T];exact U.ae U.a1 K
 have c2:h C=some (.cells [.v (.int .u8 (a.kind.toNat:Int)),r,x]):=by rw[T,U.ah]
 have N:=z.gW.mono M;refine ax @V ?_;rw[show d.set C (.cells (gP a r x).cells)=h from T.symm];refine cu (λk S=> ∃b:Nat,S=h/\hz c a=b+a6.cV bx c ((a.kids.map (·.key)).drop b)/\b<=a.kids.length/\k 1= .J (ad c) P/\k 2= .ptr C 0/\k 5= .v (.int .i64 b))
  (λk _=>match k 5 with| .v (.int _ O)=>a.kids.length - O.toNat| _=>0) ⟨0,rfl,a9q,a9p,?_⟩ ?_
 .exact nY
 rintro k f ⟨b,rfl,y,k5,D,E,F⟩;have g: ∀i Q j:R,aY false 1 ([i,Q,j].drop 2)=j:=λ_ _ _=>rfl;by_cases l:(b:Int)+1<a.kids.length
 .have m:a.kids[b+1]? =some a.kids[b+1]:=a4H a9p;have n:(a.kids.map (·.key)).drop b=(a.kids[b]'a9p).key::(a.kids[b+1]'a9p).key::(a.kids.map (·.key)).drop (b+2):=by grind[List.drop_eq_getElem_cons,List.length_map]
  have q:(a.kids.map (·.key)).drop (b+1)=(a.kids[b+1]'a9p).key::(a.kids.map (·.key)).drop (b+2):=by rw[a5c (i:=b+1) (by rw[a4T];omega)];simp
  rw[n,Yy,<-q]at y;clear n q;generalize a.kids[b+1]'a9p=o at m y;obtain⟨i,X,Y,k6,G,L,p,rfl⟩:=z.kids.get m;obtain⟨k7,s,t⟩:=N.get (b+1) _ X;have u:=aX (N:=G) (e5:=L) (h5:=p) Y;have Z:(R.agg (ab o G L p)).cells=ab o G L p:=rfl;rw[Z]at t;obtain⟨k8,j9,v⟩:=t.kY f U.a1 36 false 1 a9p (by rw[u.len];omega);have k0:aY false 1 ((ab o G L p).drop 36)= .J (ad o.key) p:=by rw[u.d36];rfl
  rw[k0]at v;have k1:((b+1:Nat):Int)=(b:Int)+1:=a9p;rw[k1]at s;refine ax (ct @D @E @F (U.af c2) @g @e @l @s @j9 @v) ?_;refine ai (xA c o.key P p _) ?_;rintro _ f ⟨rfl,rfl⟩;cases w:bx c o.key with
  |true=>rw[if_pos w]at y;refine ax (aM @D @E @F @a5F) ?_;simp_all
  |false=>rw[if_neg (by simp[w])]at y;refine ax (aM @D @E @F @a5w) ?_;grind
 .have k2:a6.cV bx c ((a.kids.map (·.key)).drop b)=0:=by
   have A:((a.kids.map (·.key)).drop b).length<=1:=by grind
   generalize (a.kids.map (·.key)).drop b=k3 at A
   match k3,A with
   | [],_=>rfl
   | [_],_=>rfl
  rw[k2]at y;refine ax (cc @D @E @F (U.af c2) @g @e @l) ?_;simp_all
def mh (c:List (List Int)) (d:List Int):Nat->Nat->Nat->Nat
 |0,a,_=>a
 |h+1,a,b=>if a<b then(match c[(a+b)/2]? with
  |some k=>if mf k d<0 then mh c d h ((a+b)/2+1) b else mh c d h a ((a+b)/2)
  |none=>a)else a
def eY (a:List (List Int)) (b:List Int):Nat:=mh a b a.length 0 a.length
def kE (a:List (List Int)) (b:List Int):Bool:=match a[eY a b]? with|some c=>decide (mf c b=0)|none=>false
theorem DH (b:List (List Int)) (n:List R) (V:R) (d:List Int) (L:Own) (P:U) (W:az isRow b n) (e:bS P 1 V n) (N:b.length<=1000000000000):
  AC Tryz.prog 235 [V,.J (ad d) L,.bG 237 [] []] P λh f=>f=P/\eY b d<=b.length/\h= .aL [.v (.int .i64 (eY b d:Int)),.v (.bool (kE b d))]:=by
 refine bf hm Q6 a9q ?_;have q:=e.len;rw[W.len]at q;refine ax @q ?_;have s:gk Tryz.prog 237=true:=a9u;refine cu (λk f=> ∃(r a c:Nat),f=P/\eY b d=mh b d r a c/\a<=c/\c<=b.length/\c - a<=r/\k 0=V/\k 1= .J (ad d) L/\k 2= .bG 237 [] []/\k 8= .v (.int .i64 b.length)/\k 9= .v (.int .i64 a)/\k 10= .v (.int .i64 c))
  (λk _=>match k 9,k 10 with| .v (.int _ a),.v (.int _ c)=>(c - a).toNat| _,_=>0) ⟨b.length,0,b.length,rfl,rfl,a9p,a9p,a9p,?_⟩ ?_
 .exact nY
 rintro k S ⟨r,a,c,rfl,x,O,Q,X,y,z,C,D,E,F⟩;by_cases g:(a:Int)<(c:Int)
 .obtain⟨Y,rfl⟩: ∃v,r=v+1:=⟨r - 1,a9p⟩;have w:a<c:=a9p;have t:(a+c)/2<b.length:=a9p;have o:b[(a+c)/2]? =some b[(a+c)/2]:=a4H t;rw[mh,if_pos w,o]at x;simp only at x;generalize b[(a+c)/2]'t=h at o x;obtain⟨A,i,p,rfl⟩:=W.get o;obtain⟨B,j,l⟩:=e.get _ _ i;have G:=l.ld S U.a1 false 1 a9p (by simp[R.cells]);have m:aY false 1 (R.J (ad h) p).cells= .J (ad h) p:=rfl;rw[m]at G;have H:IntKind.u64.wrap ((a:Int)+c)=((a+c:Nat):Int):=by rw[wrap_u64 a9p a9p];omega
  have I:bn .shr (.int .u64 ((a+c:Nat):Int)) (.int .u64 1)=some (.int .u64 (((a+c)/2:Nat):Int)):=by rw[s3 _ _ _ a9p a9p];simp[a5C]
  have K:IntKind.i64.wrap (((a+c)/2:Nat):Int)=(((a+c)/2:Nat):Int):=wrap_i64 a9p a9p;generalize Z:(a+c)/2=j9 at*;refine ax (jc @y @z @C @D @E @F @g @H @I @K @j @G) ?_;refine fI s (Du h d p L _) ?_;rintro _ S ⟨rfl,rfl⟩;by_cases T:mf h d<0
  .rw[if_pos T]at x;refine ax (cc @y @z @C @D @E @F @T) ?_;grind
  .rw[if_neg T]at x;refine ax (cc @y @z @C @D @E @F @T) ?_;grind
 .obtain rfl:a=c:=a9p;have M:eY b d=a:=by rw[x];cases r<;>simp[mh]
  unfold kE;rw[M];by_cases u:(a:Int)<b.length
  .have o:b[a]? =some b[a]:=a4H a9p;rw[o];generalize b[a]'a9p=h at o;obtain⟨A,i,p,rfl⟩:=W.get o;obtain⟨B,j,l⟩:=e.get _ _ i;have G:=l.ld S U.a1 false 1 a9p (by simp[R.cells]);have m:aY false 1 (R.J (ad h) p).cells= .J (ad h) p:=rfl;rw[m]at G;refine ax (ct @y @z @C @D @E @F @g @u @j @G) ?_;refine fI s (Du h d p L _) ?_;rintro _ S ⟨rfl,rfl⟩;refine ax (bC @y @z @C @D @E @F) ?_;exact⟨_,U.a1,rfl,a9p⟩
  .have o:b[a]? =none:=a7B a9p;rw[o];refine ax (bu @y @z @C @D @E @F @g @u) ?_;exact⟨_,U.a1,rfl,a9p⟩
def dc (d h:U) (b c:Nat) (k:ag) (o:Nat) (p:List R) (r:R):Prop:= ∃a,ar a h o p r/\bB a b c k/\Ext b c d a
theorem dc.nil {a:U}{b c h:Nat}{d:ag} (k:bB a b c d):dc a a b c d h [] (.J [] .nil):=⟨a,ar.nil U.a1,k,Ext.refl⟩
def dc.gg (a:dc t f e i H v g n):bB f e i H:=by obtain⟨d,b,c,_⟩:=a;exact c.mono b.1
def dc.ext (a:dc f t e i H v g n):Ext e i f t:=by obtain⟨d,b,_,c⟩:=a;exact c.trans (Ext.of b.1)
theorem dc.of {s:U}{l lM:Nat} (a:ar f s e g n) (b:bB f l lM H) (c:Ext l lM t f):dc t s l lM H e g n:=⟨f,a,b,c⟩
def dc.mono {b c d:U}{h k:Nat}{o:ag}{p:Nat}{r:List R}{a:R} (x:dc b c h k o p r a) (y:c.sub d):dc b d h k o p r a:=by obtain⟨z,C,D⟩:=x;exact⟨z,C.mono y,D⟩
theorem dc.base (a:dc f e7 e i H v g n) (b:Ext e i t f):dc t e7 e i H v g n:=by obtain⟨c,d,h,k⟩:=a;exact⟨c,d,h,b.trans k⟩
theorem dc.step {r x h:U}{a b:Nat}{L y:ag}{z:Nat}{C:List R}{D:R} (P:dc r x a b L z C D) (E:Ext a b x h) (F:bB h a b y):dc r h a b y z C D:=by
 obtain⟨S,⟨T,o⟩,V,W⟩:=P;have e:=F.ne;refine⟨λc=>if c=a then h a else if c=b then h b else S c,⟨λc f d=> ?_,?_⟩,F.other a9q (by simp[a4Q e]),λc f cg c9 d=> ?_⟩
 .by_cases k:c=a
  .subst k;simpa using d
  .by_cases p:c=b
   .subst p;simpa[k] using d
   .simp only[k,p,if_false]at d;exact E _ _ k p (T _ _ d)
 .rcases o with o|⟨g,i,j,l,m,n,q,s⟩
  .exact .inl o
  .have G:=V.cG n;exact .inr ⟨g,i,j,l,m,by grind,E _ _ G.1 G.2 q,s⟩
 .simp only[cg,c9,if_false];exact W _ _ cg c9 d
theorem xL (o:e≠1): ∀ {a:List R},(∀c∈a,∃b,c= .agg b/\b.length=e)->dK e a.length (flat a)=a:=by
 intro a h;have p:aN e a:=λc r=>by obtain⟨b,rfl,x⟩:=h c r;exact x
 unfold dK;rw[if_neg o];refine a8y λd=> ?_;rw[a5j];by_cases aW:d<a.length
 .rw[a7a aW];have k:a[d]? =some a[d]:=a4H aW;have:=D6 p k;obtain⟨b,y,_⟩:=h _ (a5m aW);rw[k,a5M,this,y];rfl
 simp_all
theorem DI {a:List ay} (b:az bs a g): ∀c∈g,∃d,c= .agg d/\d.length=37:=by intro c k;obtain⟨o,p,rfl⟩:=a5y k;have z:=b.len;obtain⟨C,h,r⟩:=b.get (a4H (l:=a) (i:=o) a9p);rw[a4H p]at h;obtain rfl:=a4G h;obtain⟨x,_,D,E,F,y⟩:=r;exact⟨_,y,(aX x).len⟩
def dc.view (d:dc f t e i H v g n): ∃b a,g.length=b*v/\View t n a (.J (dK v b g) .any)/\bB a e i H/\Ext e i f a:=by obtain⟨x,h,k,o⟩:=d;obtain⟨b,a,p,c,r⟩:=View.dV h;exact⟨b,a,p,r,k.mono c,o.trans (Ext.of c)⟩
theorem dc.ur {b:List ay} (c:dc f t e i H 37 (flat g) n) (d:az bs b g): ∃a,View t n a (.J g .any)/\bB a e i H/\Ext e i f a:=by obtain⟨k,a,h,o,p⟩:=c.view;rw[dg (d.cells λ_ _=>bs.cells)]at h;grind[xL,DI]
theorem ar.ur {b:List ay} (c:ar f t 37 (flat g) n) (d:az bs b g): ∃a,View t n a (.J g .any)/\f.sub a:=by obtain⟨k,a,h,o,p⟩:=View.dV c;rw[dg (d.cells λ_ _=>bs.cells)]at h;grind[xL,DI]
theorem ni (a:az isRow O g):flat g=g:=by
 induction O generalizing g with
 |nil=>cases g with
  |nil=>rfl
  |cons=>exact a.elim
 |cons b O ih=>cases g with
  |nil=>exact a.elim
  |cons c g=>obtain⟨d,rfl⟩:=a.1;have:=ih a.2;simp only[flat,a5l]at this|-;rw[this];rfl
theorem ar.DJ (b:ar f t 1 (flat g) n) (c:az isRow O g): ∃a,View t n a (.J g .any)/\f.sub a:=by grind[View.dV,ni,ky,List.take_of_length_le]
def ey {c:Type} (d:List c->c4) (h:Nat):ag->List (List c)->List ay->Except Int (List ay)×ag
 |a,[],acc=>(.ok acc,a)
 |a,k::gs,acc=>
  match du a h (d k)with
  |(.error o,b)=>(.error o,b)
  |(.ok p,b)=>ey d h b gs (acc++ [p])
def Yz (d:Except Int (List ay)) (a:R):Prop:=
 match d with
 | .error b=>b≠0/\a= .aL [.J [] .nil,.v (.int .i64 b)]
 | .ok bI=> ∃c h,az bs bI c/\a= .aL [.J c h,.v (.int .i64 0)]
variable{b0:Type}
def hA (b:b0->R->Prop) (c:List b0) (d:R):Prop:= ∃a h,d= .J a h/\az b c a
theorem hA.cells {a:Type}{c:a->R->Prop}{d:List a}{b:R} (h:hA c d b):b.cells.length=1:=by obtain⟨_,_,rfl,_⟩:=h;rfl
theorem az.xM {b:b0->R->Prop}{a:List b0} (c:az b a []):a= []:=by cases a with|nil=>rfl|cons=>exact c.elim
def DK (a:0<e) (c:i<=100000):i/e+(if 0<i%e then 1 else 0)<=i:=by
 have d:=a7K i e;by_cases b:0<i%e
 .rw[if_pos b];have:i/e<=e*(i/e):=a8R _ a;omega
 .rw[if_neg b];have:i/e<=e*(i/e):=a8R _ a;omega
def DL (d:List (List Int)) (a:List R) (h:Own) (c:U) (k:az isRow d a) (L:d.length<=100000):
  AC Tryz.prog 311 [.J a h] c λp r=> ∃o,bh c r 1 a o/\p= .J a o:=by
 refine mT λx=> ?_;have y:h= .nil->a= []:=λz=>by subst z;simpa using x a a9q
 refine bf hm RJ a9q ?_;simp -dsimp -implicitDefEqProofs (disch:=first|omega|assumption|(simp only[aE,Nat.reduceAdd];try omega)) only[go_sem,simprocAttr,-List.reduceReplicate,↓o8];refine o9 (λb=>by rw[y b]) (λb=> ?_) ?_
 .have C:a= []:=by simpa using b
  subst C;refine ax @a5w ?_;exact⟨c,U.a1,.nil,bh.nil U.a1,rfl⟩
 .refine cn ?_;refine cI U.a1 (by simp[aN]) λP S D=> ?_;refine cn ?_;have T:=k.len;refine dp (g:= []) D (λ_ b=>by cases b) (k.cells λ_ _=>isRow.cells) (by rw[a4R];omega) (by rw[a4R];omega) λE F G=> ?_;refine ax @a5b.{0} ?_;exact⟨F,U.a1,E,by simpa using G,rfl⟩
theorem YA (L:List (List Int)) (S:List R) (u:Own) (c:Nat) (T:U) (M:az isRow L S) (N:L.length<=100000) (k4:c<=100000):
  AC Tryz.prog 303 [.J S u,.v (.int .i64 (c:Int))] T λO V=>T.sub V/\ ∃gs Q,O= .J gs Q/\az (hA isRow) (a6.eX c L) gs:=by
 refine bf hm RF a9q ?_;refine cn ?_;refine cu (λz V=> ∃(d:Nat) (b:List (List Int)) (h:List R) (E:Own) (gs:List R) (P:Own) (F:List (List (List Int))),d<=c/\F++a6.eX (c - d) b=a6.eX c L/\az isRow b h/\b.length<=100000/\F.length=d/\az (hA isRow) F gs/\bh T V 1 gs P/\
   z 0= .J h E/\z 1= .v (.int .i64 c)/\z 5= .J gs P/\z 8= .v (.int .i64 c)/\z 9= .v (.int .i64 d))
  (λz _=>match z 9 with| .v (.int _ X)=>c - X.toNat| _=>0) ⟨0,L,S,u,[],.nil,[],a9p,rfl,M,N,rfl,trivial,bh.nil U.a1,?_⟩ ?_
 .exact nY
 rintro z k5 ⟨d,b,h,E,gs,P,F,k6,C,k,Y,v,D,W,o,p,r,x,y⟩;by_cases e:(d:Int)<(c:Int)
 .have w:=k.len;have Z:=DK (i:=b.length) (e:=c - d) a9p Y;have A:(c:Int) -(d:Int)=((c - d:Nat):Int):=a9p;rw[show c - d=(c -(d+1))+1 by omega,a6.eX]at C;rw[show c -(d+1)+1=c - d by omega]at C;generalize k7:c - d=G at*;have B: ¬(G:Int)=0:=a9p;have k8:=a7L b.length G;have H:(b.length:Int).tdiv (G:Int)=((b.length/G:Nat):Int):=rfl;have I:(b.length:Int).tmod (G:Int)=((b.length%G:Nat):Int):=rfl;obtain⟨a,f⟩: ∃a,a=b.length/G+(if 0<b.length%G then 1 else 0):=⟨_,rfl⟩;rw[<-f]at Z C;by_cases K:0<b.length%G
  .have g:((0:Int)<((b.length%G:Nat):Int))=True:=eq_true a9p;have i:((b.length/G:Nat):Int)+1=(a:Int):=by rw[f,if_pos K];omega
   have j:dN 1 (.J h E) none (some (.v (.int .i64 (a:Int))))=some (.J (h.take a) .any):=nU a9p a9p (k.cells λ_ _=>isRow.cells);have l:dN 1 (.J h E) (some (.v (.int .i64 (a:Int)))) none=some (.J (h.drop a) .any):=qn a9p a9p (k.cells λ_ _=>isRow.cells);refine ax (fw @o @p @r @x @y @e @w @A @H @I @B @g @i @j) ?_;refine ai (DL (b.take a) (h.take a) .any _ (k.take a) (by rw[a4L];omega)) ?_;rintro _ j9 ⟨m,n,rfl⟩;refine ax (bo @o @p @r @x @y) ?_;refine cI U.a1 (by simp[aN,R.cells]) λk0 k1 q=> ?_;refine ax (bo @o @p @r @x @y) ?_;have k2:=D.len;refine dp (W.mono (U.aq n.sub q.sub)) (D.cells λ_ _=>hA.cells) (by simp[aN,R.cells]) (by grind) (by grind) λs k3 t=> ?_;refine ax (bC @o @p @r @x @y @l) ?_;refine⟨⟨d+1,b.drop a,h.drop a,.any,gs++ [.J (h.take a) m],s,F++ [b.take a],a9p,?_,k.drop a,by rw[a4V];omega,by simp[v],D.snoc ⟨_,_,rfl,k.take a⟩,t,a9q⟩,a9p⟩;rw[<-C,a4U];rfl
  .have g:((0:Int)<((b.length%G:Nat):Int))=False:=eq_false a9p;have i:((b.length/G:Nat):Int)=(a:Int):=by rw[f,if_neg K];omega
   have j:dN 1 (.J h E) none (some (.v (.int .i64 (a:Int))))=some (.J (h.take a) .any):=nU a9p a9p (k.cells λ_ _=>isRow.cells);have l:dN 1 (.J h E) (some (.v (.int .i64 (a:Int)))) none=some (.J (h.drop a) .any):=qn a9p a9p (k.cells λ_ _=>isRow.cells);refine ax (fw @o @p @r @x @y @e @w @A @H @I @B @g @i @j) ?_;refine ai (DL (b.take a) (h.take a) .any _ (k.take a) (by rw[a4L];omega)) ?_;rintro _ j9 ⟨m,n,rfl⟩;refine ax (bo @o @p @r @x @y) ?_;refine cI U.a1 (by simp[aN,R.cells]) λk0 k1 q=> ?_;refine ax (bo @o @p @r @x @y) ?_;have k2:=D.len;refine dp (W.mono (U.aq n.sub q.sub)) (D.cells λ_ _=>hA.cells) (by simp[aN,R.cells]) (by grind) (by grind) λs k3 t=> ?_;refine ax (bC @o @p @r @x @y @l) ?_;refine⟨⟨d+1,b.drop a,h.drop a,.any,gs++ [.J (h.take a) m],s,F++ [b.take a],a9p,?_,k.drop a,by rw[a4V];omega,by simp[v],D.snoc ⟨_,_,rfl,k.take a⟩,t,a9q⟩,a9p⟩;rw[<-C,a4U];rfl
 .obtain rfl:d=c:=a9p;rw[a7h,a6.eX,a5R]at C;refine ax (bC @o @p @r @x @y @e) ?_;exact⟨_,U.a1,W.sub,gs,P,rfl,by rw[<-C];exact D⟩
def DM (d:List (ay)) (a:List R) (h:Own) (c:U) (k:az bs d a) (L:d.length<=100000):
  AC Tryz.prog 310 [.J a h] c λp r=> ∃o,bh c r 37 a o/\p= .J a o:=by
 refine mT λx=> ?_;have y:h= .nil->a= []:=λz=>by subst z;simpa using x a a9q
 refine bf hm RH a9q ?_;simp -dsimp -implicitDefEqProofs (disch:=first|omega|assumption|(simp only[aE,Nat.reduceAdd];try omega)) only[go_sem,simprocAttr,-List.reduceReplicate,↓o8];refine o9 (λb=>by rw[y b]) (λb=> ?_) ?_
 .have C:a= []:=by simpa using b
  subst C;refine ax @a5w ?_;exact⟨c,U.a1,.nil,bh.nil U.a1,rfl⟩
 .refine cn ?_;refine cI U.a1 (by simp[aN]) λP S D=> ?_;refine cn ?_;have T:=k.len;refine dp (g:= []) D (λ_ b=>by cases b) (k.cells λ_ _=>bs.cells) (by rw[a4R];omega) (by rw[a4R];omega) λE F G=> ?_;refine ax @a5b.{0} ?_;exact⟨F,U.a1,E,by simpa using G,rfl⟩
theorem DN (L:List (ay)) (S:List R) (u:Own) (c:Nat) (T:U) (M:az bs L S) (N:L.length<=100000) (k4:c<=100000):
  AC Tryz.prog 245 [.J S u,.v (.int .i64 (c:Int))] T λO V=>T.sub V/\ ∃gs Q,O= .J gs Q/\az (hA bs) (a6.eX c L) gs:=by
 refine bf hm Qp a9q ?_;refine cn ?_;refine cu (λz V=> ∃(d:Nat) (b:List (ay)) (h:List R) (E:Own) (gs:List R) (P:Own) (F:List (List (ay))),d<=c/\F++a6.eX (c - d) b=a6.eX c L/\az bs b h/\b.length<=100000/\F.length=d/\az (hA bs) F gs/\bh T V 1 gs P/\
   z 0= .J h E/\z 1= .v (.int .i64 c)/\z 5= .J gs P/\z 8= .v (.int .i64 c)/\z 9= .v (.int .i64 d))
  (λz _=>match z 9 with| .v (.int _ X)=>c - X.toNat| _=>0) ⟨0,L,S,u,[],.nil,[],a9p,rfl,M,N,rfl,trivial,bh.nil U.a1,?_⟩ ?_
 .exact nY
 rintro z k5 ⟨d,b,h,E,gs,P,F,k6,C,k,Y,v,D,W,o,p,r,x,y⟩;by_cases e:(d:Int)<(c:Int)
 .have w:=k.len;have Z:=DK (i:=b.length) (e:=c - d) a9p Y;have A:(c:Int) -(d:Int)=((c - d:Nat):Int):=a9p;rw[show c - d=(c -(d+1))+1 by omega,a6.eX]at C;rw[show c -(d+1)+1=c - d by omega]at C;generalize k7:c - d=G at*;have B: ¬(G:Int)=0:=a9p;have k8:=a7L b.length G;have H:(b.length:Int).tdiv (G:Int)=((b.length/G:Nat):Int):=rfl;have I:(b.length:Int).tmod (G:Int)=((b.length%G:Nat):Int):=rfl;obtain⟨a,f⟩: ∃a,a=b.length/G+(if 0<b.length%G then 1 else 0):=⟨_,rfl⟩;rw[<-f]at Z C;by_cases K:0<b.length%G
  .have g:((0:Int)<((b.length%G:Nat):Int))=True:=eq_true a9p;have i:((b.length/G:Nat):Int)+1=(a:Int):=by rw[f,if_pos K];omega
   have j:dN 37 (.J h E) none (some (.v (.int .i64 (a:Int))))=some (.J (h.take a) .any):=nU a9p a9p (k.cells λ_ _=>bs.cells);have l:dN 37 (.J h E) (some (.v (.int .i64 (a:Int)))) none=some (.J (h.drop a) .any):=qn a9p a9p (k.cells λ_ _=>bs.cells);refine ax (fw @o @p @r @x @y @e @w @A @H @I @B @g @i @j) ?_;refine ai (DM (b.take a) (h.take a) .any _ (k.take a) (by rw[a4L];omega)) ?_;rintro _ j9 ⟨m,n,rfl⟩;refine ax (bo @o @p @r @x @y) ?_;refine cI U.a1 (by simp[aN,R.cells]) λk0 k1 q=> ?_;refine ax (bo @o @p @r @x @y) ?_;have k2:=D.len;refine dp (W.mono (U.aq n.sub q.sub)) (D.cells λ_ _=>hA.cells) (by simp[aN,R.cells]) (by grind) (by grind) λs k3 t=> ?_;refine ax (bC @o @p @r @x @y @l) ?_;refine⟨⟨d+1,b.drop a,h.drop a,.any,gs++ [.J (h.take a) m],s,F++ [b.take a],a9p,?_,k.drop a,by rw[a4V];omega,by simp[v],D.snoc ⟨_,_,rfl,k.take a⟩,t,a9q⟩,a9p⟩;rw[<-C,a4U];rfl
  .have g:((0:Int)<((b.length%G:Nat):Int))=False:=eq_false a9p;have i:((b.length/G:Nat):Int)=(a:Int):=by rw[f,if_neg K];omega
   have j:dN 37 (.J h E) none (some (.v (.int .i64 (a:Int))))=some (.J (h.take a) .any):=nU a9p a9p (k.cells λ_ _=>bs.cells);have l:dN 37 (.J h E) (some (.v (.int .i64 (a:Int)))) none=some (.J (h.drop a) .any):=qn a9p a9p (k.cells λ_ _=>bs.cells);refine ax (fw @o @p @r @x @y @e @w @A @H @I @B @g @i @j) ?_;refine ai (DM (b.take a) (h.take a) .any _ (k.take a) (by rw[a4L];omega)) ?_;rintro _ j9 ⟨m,n,rfl⟩;refine ax (bo @o @p @r @x @y) ?_;refine cI U.a1 (by simp[aN,R.cells]) λk0 k1 q=> ?_;refine ax (bo @o @p @r @x @y) ?_;have k2:=D.len;refine dp (W.mono (U.aq n.sub q.sub)) (D.cells λ_ _=>hA.cells) (by simp[aN,R.cells]) (by grind) (by grind) λs k3 t=> ?_;refine ax (bC @o @p @r @x @y @l) ?_;refine⟨⟨d+1,b.drop a,h.drop a,.any,gs++ [.J (h.take a) m],s,F++ [b.take a],a9p,?_,k.drop a,by rw[a4V];omega,by simp[v],D.snoc ⟨_,_,rfl,k.take a⟩,t,a9q⟩,a9p⟩;rw[<-C,a4U];rfl
 .obtain rfl:d=c:=a9p;rw[a7h,a6.eX,a5R]at C;refine ax (bC @o @p @r @x @y @e) ?_;exact⟨_,U.a1,W.sub,gs,P,rfl,by rw[<-C];exact D⟩
theorem nj {b:Type}: ∀ {g:Nat}{l:List b},(a6.eX g l).length=g/\ ∀a∈a6.eX g l,a.length<=l.length
 |0,l=>⟨rfl,λa c=>by cases c⟩
 |g+1,l=>by
  have ih:=nj (g:=g) (l:=l.drop (l.length/(g+1)+if 0<l.length%(g+1)then 1 else 0));refine⟨by rw[a6.eX,a4M,ih.1],λa d=> ?_⟩;rw[a6.eX]at d;grind
def YB (T:U) (y V:Nat) (W:ag) (k8:bB T y V W) (a:List (List (List Int))) (j:List R) (e:Own) (c:Nat) (k9:1<=c) (l0:c<=8) (l:az (hA isRow) a j) (l1: ∀m∈a,m.length<=100000) (a14:a.length<=100000):
  AC Tryz.prog 302 [.J j e,.bG 155 [dX y c] []] T λu f=>match(ey dG c W a []).1 with
   | .error v=>bB f y V (ey dG c W a []).2/\Ext y V T f/\v≠0/\u= .aL [.J [] .nil,.v (.int .i64 v)]
   | .ok bI=> ∃d h,az bs bI d/\u= .aL [h,.v (.int .i64 0)]/\dc T f y V (ey dG c W a []).2 37 (flat d) h/\(bI= []->h= .J [] .nil):=by
 refine bf hm RD a9q ?_;have w: ∀N,(R.agg N).cells=N:=λ_=>rfl;have A:=(aX (N:= .nil) (e5:= .nil) (h5:= .nil) bk).len;have O:=l.len;have l2:gk Tryz.prog 155=true:=a9u;have a15:=bS.J (s:=T) (o:=e) (l.cells λ_ _=>hA.cells);refine ax @O ?_;refine cu (λk f=> ∃(b:Nat) (g:ag) (z:List ay) (d:List R) (h:R),b<=a.length/\ey dG c g (a.drop b) z=ey dG c W a []/\az bs z d/\z.length=b/\dc T f y V g 37 (flat d) h/\(z= []->h= .J [] .nil)/\
   k 0= .J j e/\k 1= .bG 155 [dX y c] []/\k 6=h/\k 11= .J j e/\k 12= .v (.int .i64 a.length)/\k 13= .v (.int .i64 b))
  (λk _=>match k 13 with| .v (.int _ l3)=>a.length - l3.toNat| _=>0) ⟨0,W,[],[],.J [] .nil,a9p,rfl,trivial,rfl,dc.nil k8,λ_=>rfl,?_⟩ ?_
 .exact cq @O
 rintro k B ⟨b,g,z,d,h,a16,D,n,l4,H,l5,E,F,G,L,P,S⟩;by_cases Q:(b:Int)<a.length
 .have X:a[b]? =some a[b]:=a4H a9p;have Y:a.drop b=a[b]::a.drop (b+1):=a5c a9p;have Z:=l1 _ (a5m (l:=a) (n:=b) a9p);rw[Y,ey]at D;clear Y;generalize a[b]'a9p=m at X D Z;obtain⟨a18,l6,q,I,rfl,j9⟩:=l.get X;obtain⟨a19,l7,l8⟩:=(bS.J (s:=B) (o:=e) (l.cells λ_ _=>hA.cells)).get b _ l6;have k0:=l8.ld B U.a1 false 1 a9p (by simp[R.cells]);have l9:aY false 1 (R.J q I).cells= .J q I:=rfl;rw[l9]at k0;refine ax (dr @E @F @G @L @P @S @Q @l7 @k0) ?_;refine fI l2 (xH B y V g H.gg m q (.J q I) c k9 l0 j9 (bS.J (j9.cells λ_ _=>isRow.cells)) Z) ?_;rintro u a27 ⟨k1,n0,s⟩;have k2:=H.step n0 k1;generalize a29:du g c (dG m)=n1 at*;obtain⟨res,n2⟩:=n1;simp only at D k1 s k2;obtain⟨C,o,p,r,v,k3,x⟩:=s.shape;have k4:=aX (N:=o) (e5:=p) (h5:=r) k3;have i:=k4.len;have K:putAt (ab aA .nil .nil .nil) 0 (ab C o p r)=ab C o p r:=cF bk k3;subst x;refine ax (iy @E @F @G @L @P @S @cr @w @A @i @K) ?_;refine aP λa30 n3=> ?_;have M:=k2.mono (U.ae (Y:= .cells (ab C o p r)) U.a1 n3);cases res with
  |error a34=>obtain⟨n4,x⟩:=s;simp only[R.aL.injEq,a7j,R.v.injEq,Value.int.injEq,true_and,and_true]at x;obtain⟨_,rfl⟩:=x;rw[<-D];refine ax (p6 @E @F @G @L @P @S @cr @w @A @i @K @U.set_set @n4) ?_;exact⟨_,U.a1,M.gg,M.ext⟩
  |ok k5=>
   obtain⟨n5,n9,a00,a01,a02,x⟩:=s;simp only[R.aL.injEq,a7j,R.v.injEq,Value.int.injEq,true_and,and_true,R.agg.injEq]at x;obtain⟨x,rfl⟩:=x;obtain⟨a03,a04,a05,a06⟩:=M;refine ax (fw @E @F @G @L @P @S @cr @w @A @i @K @U.set_set @U.ah k4.t37) ?_;refine eS (by simp[aN,R.cells,i]) a9q λa36 a07=> ?_;have a08:=ar.mono a04 (U.ae (Y:= .cells (flat [R.agg (ab C o p r)])) U.a1 a07);have a09:az bs (z++ [k5]) (d++ [R.agg (ab C o p r)]):=n.snoc ⟨n5,n9,a00,a01,a02,by rw[x]⟩;have k6:(flat d).length=z.length*37:=by rw[dg (n.cells λ_ _=>bs.cells),n.len]
   have t:(flat [R.agg (ab C o p r)]).length=1*37:=by simp[flat,R.cells,i]
   refine ax (bC @E @F @G @L @P @S) ?_;refine fj a08 a9p (oq t) t (by rw[k6,t];omega) (by rw[k6,t];omega) λa10 a38 k7=> ?_;have a11:flat d++flat [R.agg (ab C o p r)]=flat (d++ [R.agg (ab C o p r)]):=by simp[flat]
   rw[a11]at k7;refine ax (bC @E @F @G @L @P @S) ?_;exact⟨⟨b+1,n2,z++ [k5],_,a10,a9p,D,a09,by simp[l4],⟨a03,k7,a05,a06⟩,(λa13=>by simp at a13),a9q⟩,a9p⟩
 .obtain rfl:b=a.length:=a9p;rw[a7q,ey]at D;rw[<-D];refine ax (cc @E @F @G @L @P @S @Q) ?_;exact⟨_,U.a1,d,h,n,rfl,H,l5⟩
def nk (a:ag) (b:Nat) (c:List (List Int)):Except Int (List ay)×ag:=ey dG b a (a6.chunks c) []
def DO (T:U) (y V:Nat) (W:ag) (k8:bB T y V W) (a:List (List (ay))) (j:List R) (e:Own) (c:Nat) (k9:1<=c) (l0:c<=8) (l:az (hA bs) a j) (l1: ∀m∈a,m.length<=100000) (a14:a.length<=100000):
  AC Tryz.prog 244 [.J j e,.bG 243 [dX y c] []] T λu f=>match(ey ej c W a []).1 with
   | .error v=>bB f y V (ey ej c W a []).2/\Ext y V T f/\v≠0/\u= .aL [.J [] .nil,.v (.int .i64 v)]
   | .ok bI=> ∃d h,az bs bI d/\u= .aL [h,.v (.int .i64 0)]/\dc T f y V (ey ej c W a []).2 37 (flat d) h/\(bI= []->h= .J [] .nil):=by
 refine bf hm Qn a9q ?_;have w: ∀N,(R.agg N).cells=N:=λ_=>rfl;have A:=(aX (N:= .nil) (e5:= .nil) (h5:= .nil) bk).len;have O:=l.len;have l2:gk Tryz.prog 243=true:=a9u;have a15:=bS.J (s:=T) (o:=e) (l.cells λ_ _=>hA.cells);refine ax @O ?_;refine cu (λk f=> ∃(b:Nat) (g:ag) (z:List ay) (d:List R) (h:R),b<=a.length/\ey ej c g (a.drop b) z=ey ej c W a []/\az bs z d/\z.length=b/\dc T f y V g 37 (flat d) h/\(z= []->h= .J [] .nil)/\
   k 0= .J j e/\k 1= .bG 243 [dX y c] []/\k 6=h/\k 11= .J j e/\k 12= .v (.int .i64 a.length)/\k 13= .v (.int .i64 b))
  (λk _=>match k 13 with| .v (.int _ l3)=>a.length - l3.toNat| _=>0) ⟨0,W,[],[],.J [] .nil,a9p,rfl,trivial,rfl,dc.nil k8,λ_=>rfl,?_⟩ ?_
 .exact cq @O
 rintro k B ⟨b,g,z,d,h,a16,D,n,l4,H,l5,E,F,G,L,P,S⟩;by_cases Q:(b:Int)<a.length
 .have X:a[b]? =some a[b]:=a4H a9p;have Y:a.drop b=a[b]::a.drop (b+1):=a5c a9p;have Z:=l1 _ (a5m (l:=a) (n:=b) a9p);rw[Y,ey]at D;clear Y;generalize a[b]'a9p=m at X D Z;obtain⟨a18,l6,q,I,rfl,j9⟩:=l.get X;obtain⟨a19,l7,l8⟩:=(bS.J (s:=B) (o:=e) (l.cells λ_ _=>hA.cells)).get b _ l6;have k0:=l8.ld B U.a1 false 1 a9p (by simp[R.cells]);have l9:aY false 1 (R.J q I).cells= .J q I:=rfl;rw[l9]at k0;refine ax (dr @E @F @G @L @P @S @Q @l7 @k0) ?_;refine fI l2 (DE B y V g H.gg m q (.J q I) c k9 l0 j9 (bS.J (j9.cells λ_ _=>bs.cells)) Z) ?_;rintro u a27 ⟨k1,n0,s⟩;have k2:=H.step n0 k1;generalize a29:du g c (ej m)=n1 at*;obtain⟨res,n2⟩:=n1;simp only at D k1 s k2;obtain⟨C,o,p,r,v,k3,x⟩:=s.shape;have k4:=aX (N:=o) (e5:=p) (h5:=r) k3;have i:=k4.len;have K:putAt (ab aA .nil .nil .nil) 0 (ab C o p r)=ab C o p r:=cF bk k3;subst x;refine ax (iy @E @F @G @L @P @S @cr @w @A @i @K) ?_;refine aP λa30 n3=> ?_;have M:=k2.mono (U.ae (Y:= .cells (ab C o p r)) U.a1 n3);cases res with
  |error a34=>obtain⟨n4,x⟩:=s;simp only[R.aL.injEq,a7j,R.v.injEq,Value.int.injEq,true_and,and_true]at x;obtain⟨_,rfl⟩:=x;rw[<-D];refine ax (p6 @E @F @G @L @P @S @cr @w @A @i @K @U.set_set @n4) ?_;exact⟨_,U.a1,M.gg,M.ext⟩
  |ok k5=>
   obtain⟨n5,n9,a00,a01,a02,x⟩:=s;simp only[R.aL.injEq,a7j,R.v.injEq,Value.int.injEq,true_and,and_true,R.agg.injEq]at x;obtain⟨x,rfl⟩:=x;obtain⟨a03,a04,a05,a06⟩:=M;refine ax (fw @E @F @G @L @P @S @cr @w @A @i @K @U.set_set @U.ah k4.t37) ?_;refine eS (by simp[aN,R.cells,i]) a9q λa36 a07=> ?_;have a08:=ar.mono a04 (U.ae (Y:= .cells (flat [R.agg (ab C o p r)])) U.a1 a07);have a09:az bs (z++ [k5]) (d++ [R.agg (ab C o p r)]):=n.snoc ⟨n5,n9,a00,a01,a02,by rw[x]⟩;have k6:(flat d).length=z.length*37:=by rw[dg (n.cells λ_ _=>bs.cells),n.len]
   have t:(flat [R.agg (ab C o p r)]).length=1*37:=by simp[flat,R.cells,i]
   refine ax (bC @E @F @G @L @P @S) ?_;refine fj a08 a9p (oq t) t (by rw[k6,t];omega) (by rw[k6,t];omega) λa10 a38 k7=> ?_;have a11:flat d++flat [R.agg (ab C o p r)]=flat (d++ [R.agg (ab C o p r)]):=by simp[flat]
   rw[a11]at k7;refine ax (bC @E @F @G @L @P @S) ?_;exact⟨⟨b+1,n2,z++ [k5],_,a10,a9p,D,a09,by simp[l4],⟨a03,k7,a05,a06⟩,(λa13=>by simp at a13),a9q⟩,a9p⟩
 .obtain rfl:b=a.length:=a9p;rw[a7q,ey]at D;rw[<-D];refine ax (cc @E @F @G @L @P @S @Q) ?_;exact⟨_,U.a1,d,h,n,rfl,H,l5⟩
def YC (h:U) (c k:Nat) (d:ag) (C:bB h c k d) (a:List (List (ay))) (p:List R) (r:Own) (b:Nat) (D:1<=b) (E:b<=8) (F:az (hA bs) a p) (G: ∀L∈a,L.length<=100000) (P:a.length<=100000):
  AC Tryz.prog 244 [.J p r,.bG 243 [dX c b] []] h λx o=>bB o c k (ey ej b d a []).2/\Ext c k h o/\Yz (ey ej b d a []).1 x:=by
 refine(DO h c k d C a p r b D E F G P).view λx o y=> ?_;generalize ey ej b d a []=S at*;obtain⟨res,m⟩:=S;cases res with
 |error n=>obtain⟨T,V,W,rfl⟩:=y;exact⟨_,o,View.refl,T,V,W,rfl⟩
 |ok bI=>obtain⟨e,q,z,rfl,f,_⟩:=y;obtain⟨g,i,j,l⟩:=f.ur z;exact⟨_,g,View.aL (a:= []) (k:= [_]) i,j,l,e,.any,z,rfl⟩
def jh (a:ag) (b:Nat) (c:List (ay)):Except Int (List ay)×ag:=ey ej b a (a6.chunks c) []
theorem qO {b:Type}{c:List b->c4}{d:Nat}: ∀ {gs:List (List b)}{S S':ag}{acc ks:List ay},ey c d S gs acc=(.ok ks,S')->ks.length=acc.length+gs.length
 | [],S,S',acc,ks,a=>by
  grind[ey,Prod.mk.inj,Except.ok.inj]
 |h::gs,S,S',acc,ks,a=>by
  rw[ey]at a;split at a
  .cases (a6z a).1
  .have:=qO a;rw[this];simp;omega
def ia (c:Nat):Nat->ag->List ay->Except Int ay×ag
 |0,a,_=>(.error 1,a)
 |d+1,a,bI=>
  if 1<bI.length then match jh a c bI with
   |(.error h,b)=>(.error h,b)
   |(.ok up,b)=>ia c d b up
  else(.ok (bI.headD aA),a)
def YD (k:U) (c o:Nat) (g:ag) (H:bB k c o g) (d:List ay) (i:List R) (k4:Own) (b:Nat) (n5:1<=b) (n9:b<=8) (a00:az bs d i) (a30:d.length<=100000):
  AC Tryz.prog 157 [dX c b,.J i k4] k λk5 h=>bB h c o (ia b (d.length+1) g d).2/\Ext c o k h/\hc (ia b (d.length+1) g d).1 k5:=by
 refine bf hm NR a9q ?_;have T: ∀k6,(R.agg k6).cells=k6:=λ_=>rfl;have I:=(aX (N:= .nil) (e5:= .nil) (h5:= .nil) bk).len;have K: ∀E V:R,List.take 2 [E,V]= [E,V]:=λ_ _=>rfl;have M: ∀E V,aY true 2 [E,V]= .agg [E,V]:=λ_ _=>rfl;refine ax @T ?_;refine aP λj k7=> ?_;refine ax (c2 @T @cr) ?_;refine aP λF q=> ?_;have k8:j≠F:=by rintro rfl;rw[U.ah]at q;cases q
 have N:k F=none:=by rw[U.an _ _ (a4Q k8)]at q;exact q
 obtain⟨p,s⟩: ∃p:U,p=(k.set j (.cells [.ptr c 0,.v (.int .i64 (b:Int))])).set F (.cells (ab aA .nil .nil .nil)):=⟨_,rfl⟩;have k9:k.sub p:=by rw[s];exact U.ae (U.ae U.a1 k7) N
 have aM:p F=some (.cells (ab aA .nil .nil .nil)):=by rw[s,U.ah]
 have c2:p j=some (.cells [.ptr c 0,.v (.int .i64 (b:Int))]):=by rw[s,U.an _ _ k8,U.ah]
 have G:=H.cG N;have l0:=H.cG k7;have l1:=(aX (N:= .nil) (e5:= .nil) (h5:= .nil) bk).t37;have l2:putAt (ab aA .nil .nil .nil) 0 (ab aA .nil .nil .nil)=ab aA .nil .nil .nil:=cF bk bk;have O: ∀(h:U) (l3:bp),Ext c o p h->Ext c o k (h.set F l3):=λh l3 Q=>((Ext.of k9).trans Q).set N;simp -dsimp -implicitDefEqProofs (disch:=first|omega|assumption|(simp only[aE,Nat.reduceAdd];try omega)) only[go_sem,simprocAttr,-List.reduceReplicate,T,cr];rw[show(k.set j (.cells (dX c b).cells)).set F (.cells (List.replicate 32 (R.v (.int .u8 0))++ [R.J [] .nil,.J [] .nil]++ [R.v (.int .i64 0),.v (.int .i64 0)]++ [R.J [] .nil]))=p by rw[s,<-cr];rfl];refine cu (λW h=> ∃(e:Nat) (r:ag) (a:List ay) (t:List R) (u:Own),ia b e r a=ia b (d.length+1) g d/\a.length<e/\e<=100001/\az bs a t/\bB h c o r/\Ext c o p h/\W 1= .J t u/\W 2= .ptr j 0/\W 4= .ptr F 0)
  (λW _=>match W 1 with| .J i _=>i.length| _=>0) ⟨d.length+1,g,d,i,k4,rfl,a9p,a9p,a00,H.mono k9,Ext.refl,?_⟩ ?_
 .exact nY
 rintro W l ⟨e,r,a,t,u,x,a34,a36,v,X,m,L,P,S⟩;have w:=v.len;have Y:=m _ _ l0.1 l0.2 c2;have l4:=m _ _ G.1 G.2 aM;obtain⟨Z,rfl⟩: ∃Z,e=Z+1:=⟨e - 1,a9p⟩;rw[ia]at x;by_cases A:(1:Int)<a.length
 .rw[if_pos a9p]at x;refine ax (bu @L @P @S @w @A (U.af Y) @K @M) ?_;refine ai (xF a.length a9p l) ?_;rintro _ l ⟨rfl,rfl⟩;refine ax (bu @L @P @S @w @A (U.af Y) @K @M) ?_;have l5:a6.bU a.length<=100000:=by unfold a6.bU;omega
  refine ai (DN a t u (a6.bU a.length) l v a9p l5) ?_;rintro _ a01 ⟨j9,gs,a02,rfl,a03⟩;have a04:=j9 _ _ Y;refine ax (bC @L @P @S (U.af a04) @K @M) ?_;have k0:=nj (g:=a6.bU a.length) (l:=a);refine ai (YC a01 c o r (X.mono j9) _ gs a02 b n5 n9 a03 (λa05 a06=>by have:=k0.2 a05 a06;omega) (by rw[k0.1];exact l5)) ?_;rintro k5 a38 ⟨n,a07,y⟩;have l6:jh r b a=ey ej b r (a6.eX (a6.bU a.length) a) []:=rfl;rw[<-l6]at n y;have l7:=λB a08 Q=>qO (c:=ej) (d:=b) (gs:=a6.eX (a6.bU a.length) a) (S:=r) (S':=B) (acc:= []) (ks:=a08) Q;rw[<-l6]at l7;have k1:=m.trans ((Ext.of j9).trans a07);have a09:=k1 _ _ G.1 G.2 aM;generalize jh r b a=a10 at*;obtain⟨res,B⟩:=a10;cases res with
  |error a42=>obtain⟨l8,rfl⟩:=y;simp only at x n;rw[<-x];refine ax (ct @L @P @S @l8 @cr @T (U.aJ a09) @I @l1 @l2) ?_;exact⟨_,U.a1,n.set G,O _ _ k1,l8,rfl⟩
  |ok up=>
   obtain⟨a11,a13,l9,rfl⟩:=y;have n0:=l7 B up rfl;rw[k0.1]at n0;have a43:up.length<a.length:=by rw[n0];unfold a6.bU;simp;omega
   have a47:=l9.len;simp only at x n;refine ax (aI @L @P @S) ?_;exact⟨⟨Z,B,up,a11,a13,x,a9p,a9p,l9,n,k1,rfl⟩,a9p⟩
 .rw[if_neg a9p]at x;rw[<-x];by_cases k2:(a.length:Int)=0
  .have:a= []:=a4N a9p;subst this;refine ax (jc @L @P @S @w @A @k2 @cr @T (U.aJ l4) @I @l1 @l2) ?_;exact⟨_,U.a1,X.set G,O _ _ m,bk,me,.nil,.nil,.nil,rfl⟩
  .have n1:a[0]? =some a[0]:=a4H a9p;have a14:a.headD aA=a[0]'a9p:=by cases a with|nil=>simp at k2|cons E V=>rfl
   rw[a14];generalize a[0]'a9p=f at n1;obtain⟨E,a15,k3,a16,z,C,D,rfl⟩:=v.get n1;obtain⟨a48,n2,n3⟩:=(bS.J (s:=l) (o:=u) (v.cells λ_ _=>bs.cells)).get 0 _ a15;have y:=aX (N:=z) (e5:=C) (h5:=D) k3;have a18:=y.len;have a19:(R.agg (ab f z C D)).cells=ab f z C D:=rfl;rw[a19]at n3;have n4:=n3.ld l U.a1 true 37 a9p (by rw[y.len];omega);rw[show aY true 37 (ab f z C D)= .agg (ab f z C D) by rw[aY,if_pos rfl,y.t37]]at n4;have a27:((0:Nat):Int)=0:=rfl;rw[a27]at n2;have a29:putAt (ab aA .nil .nil .nil) 0 (ab f z C D)=ab f z C D:=cF bk k3;refine ax (fw @L @P @S @w @A @k2 @n2 @n4 @T (U.aJ l4) @I @a18 @a29 y.t37) ?_;exact⟨_,U.a1,X.set G,O _ _ m,k3,a16,z,C,D,rfl⟩
end Go.Proofs.YtlgnfcaolejgeaaGreat
namespace Go.bA
open Go
variable{g A e1:List R}{e i v M c0 j0:Nat}
theorem pt {a:List R}{v:Nat} (b:g.take e=a) (c:A.length=v) (d:e1.length=i) (h:e+v+i<=g.length):
  (putAt (putAt g (e+v) e1) e A).take (e+v+i)=a++(A++e1)/\(putAt (putAt g e A) (e+v) e1).take (e+v+i)=a++(A++e1):=by
 have k:a.length=e:=by rw[<-b,a4L];omega
 constructor
 .have o:(g.take (e+v)).length=e+v:=by rw[a4L];omega
  grind[putAt,List.append_assoc,Nat.min_eq_left,List.drop_left',List.take_left',List.length_append]
 grind[putAt,List.take_left',List.length_append,List.append_assoc]
variable{e2:IntKind}
theorem ov (k:e<=M) (o:M<=c0): ∃v,c7 i (.al j0 M c0 i) (some (.v (.int e2 (e:Int)))) none none=some v/\ff v=some (.v (.int .i64 ((M - e:Nat):Int)))/\
  ∀(c:U) (a b:List R),c j0=some (.cells a)->M*i<=a.length->a.take (M*i)=b->bM c i v=some (M - e,b.drop (e*i)):=by
 by_cases p:e<c0
 .refine⟨_,gn k o p,rfl,λc a b d r h=> ?_⟩;have x:e*i+(M - e)*i=M*i:=by rw[<-a5J];congr 1;omega
  simp only[bM,U.af d];grind
 .obtain rfl:e=M:=a9p;obtain rfl:e=c0:=a9p;refine⟨_,tS rfl,by simp[ff],λc a b d r h=> ?_⟩;have:b.drop (e*i)= []:=a5v (by rw[<-h,a4L];omega);rw[this,a7h];rfl
theorem DP {a:Nat}{b:IntKind} (c:c0<=e) (d:e<=M): ∃v,c7 i (.al j0 a M i) (some (.v (.int e2 (c0:Int)))) (some (.v (.int b (e:Int)))) none=some v:=by simp_all [c7,cz,intOf]
theorem DQ {a b:Nat}{c d:IntKind} (h:j0<=e) (k:e<=i) (o:i<=c0): ∃v,c7 M (.al a b c0 M) (some (.v (.int e2 (j0:Int)))) (some (.v (.int c (e:Int)))) (some (.v (.int d (i:Int))))=some v:=by simp_all [c7,cz,intOf]
variable{f t e7:U}
theorem ar.first (c:ar f t e g (.al v M c0 e)) (d:i<=M):ar f t e (g.take (i*e)) (.al v i c0 e):=by
 obtain⟨h,a⟩:=c;rcases a with ⟨_,a|a⟩|⟨y,z,C,k,b,o,p,r,D,E,F,x⟩
 .cases a
 .cases a
 simp only[R.al.injEq,true_and,and_true]at b;obtain⟨rfl,rfl,rfl⟩:=b;have G:i*e<=M*e:=a4Y _ d;exact⟨h,.inr ⟨v,i,c0,k,rfl,o,p,r,by grind,by simp_all,a9p,x⟩⟩
theorem ar.al {p r:U}{k:Nat}{a:List R}{x:R} (y:ar p r k a x) (z:a≠ []): ∃d b c h,x= .al d b c k/\p d=none/\r d=some (.cells h)/\h.length=c*k/\h.take (b*k)=a/\a.length=b*k/\b<=c/\c<=maxLen:=by
 rcases y.2 with ⟨o,_⟩|o
 .exact absurd o z
 .exact o
variable{n b3:R}{Y:bp}
theorem ar.add (o:ar t f i g n) (E:f e=some Y) (p: ∀a b c,n= .al a b c i->a≠e):ar (t.set e Y) f i g n:=by
 obtain⟨r,d⟩:=o;refine⟨λx F h=> ?_,?_⟩
 .by_cases y:x=e;grind[U.ah]
  .rw[U.an _ _ y]at h;exact r _ _ h
 .rcases d with d|⟨a,b,c,z,k,C,D⟩
  .exact .inl d
  .exact .inr ⟨a,b,c,z,k,by rw[U.an _ _ (p _ _ _ k)];exact C,D⟩
variable{s a7:R -> U -> Prop}
theorem uu {a:cC s} (b:f M=some (.cells g)) (c:g.length=c0*e) (d:bM f e n=some (v,A)) (h:i+v<=c0) (k:(i+v)*j0<=140737488355328) (o:i+v<=9223372036854775807)
  (p:s (.al M (i+v) c0 e) (f.set M (.cells (putAt g (i*e) A)))):jK e j0 f (.al M i c0 e) n (bO s a):=by
 simp_all [jK,vO,bO,if_pos,trivial]
end Go.bA
namespace Go.Proofs.YtlgnfcaolejgeaaGreat
open Go Go.bA
theorem YE (z o:U) (c:List R) (C:R) (D:ar z o 1 c C) (a:Nat) (E:a<c.length) (u:c.length<=100000):
  AC Tryz.prog 249 [C,.v (.int .i64 (a:Int)),.v (.int .i64 ((a:Int)+1))] o λT V=>ar z V 1 (c.take a++c.drop (a+1)) T:=by
 obtain⟨d,b,h,F,rfl,G,L,P,W,v,p,e⟩:=D.al (λf=>by rw[f]at E;simp at E);refine bf hm Qw a9q ?_;have w:b=c.length:=a9p;have g:(a:Int)+1=((a+1:Nat):Int):=a9p;rw[g];obtain⟨A,i⟩:=DQ (M:=1) (a:=d) (b:=b) (c0:=h) (j0:=a) (e:=a+1) (i:=b) (e2:= .i64) (c:= .i64) (d:= .i64) a9p a9p p;have j:c7 1 (.al d b h 1) none (some (.v (.int .i64 (a:Int)))) none=some (.al d a h 1):=hP a9p;obtain⟨B,l,_,r⟩:=ov (i:=1) (j0:=d) (M:=b) (c0:=h) (e:=a+1) (e2:= .i64) a9p p;have r:=r o F c L (by rw[P];omega) W;have m: ¬(a:Int)=((a+1:Nat):Int):=a9p;refine dC (aM @i @j @l @m) ?_;refine uu L P r a9p a9p a9p ?_;have n:a+(b -(a+1))=b - 1:=a9p;rw[n,a5t];have H:(c.drop ((a+1)*1)).length=b -(a+1):=by rw[a4V];omega
 obtain⟨k,x⟩: ∃k,k=putAt F a (c.drop ((a+1)*1)):=⟨_,rfl⟩;have y:k.length=h:=by rw[x,eJ _ _ _ a9p];omega
 have q:k.take (b - 1)=c.take a++c.drop (a+1):=by rw[x,putAt];grind
 rw[<-x];have s:(o.set d (.cells k)) d=some (.cells k):=U.ah _ _ _;have S:c7 1 (.al d (b - 1) h 1) (some (.v (.int .i64 ((b - 1:Nat):Int)))) (some (.v (.int .i64 ((b:Nat):Int)))) none=some (.bw d ((b - 1)*1) (b -(b - 1)) (h -(b - 1)) 1):=Cg a9p p a9p;have t:=x0 (e:=1) (M:=b -(b - 1)) (v:=b - 1) (c0:=h -(b - 1)) (A:= [R.J [] .nil]) s (by rw[y];omega);rw[a5t]at S;refine dC (aI @S @t @U.set_set) ?_;refine⟨_,U.a1,U.ae D.1 G,.inr ⟨d,b - 1,h,_,rfl,G,U.ah _ _ _,?_,?_,?_,a9p,e⟩⟩
 .rw[eJ _ _ _ (by rw[jH,y];simp;omega),y,a5t]
 .rw[putAt,a5t,a4U,a6h (by rw[a4L];omega),a5Y,a6Y,q]
 grind
theorem YF (l p:U) (d:List R) (H:R) (y:ar l p 1 d H) (O:d≠ []) (a:Nat) (l1:a<=d.length) (l2:d.length<=100000) (k:R) (z:Nat) (m:l z=some (.cells [k])):
  AC Tryz.prog 239 [H,.v (.int .i64 (a:Int)),.al z 1 1 1] p λQ G=>ar l G 1 (d.take a++k::d.drop a) Q:=by
 obtain⟨c,b,h,r,rfl,n,D,q,s,l3,X,Y⟩:=y.al O;refine bf hm Qe a9q ?_;have l4:b=d.length:=a9p;have L:=y.1 _ _ m;have I:c≠z:=by rintro rfl;rw[n]at m;cases m
 have W:((1:Nat):Int)=1:=rfl;obtain⟨l5,e,_,K⟩:=ov (i:=1) (j0:=c) (M:=b) (c0:=h) (e:=a) (e2:= .i64) a9p X;have t: ∀G:U,G z=some (.cells [k])->bM G 1 (.al z 1 1 1)=some (1,[k]):=λG y=>by simp[bM,U.af y]
 by_cases c1:(a:Int)=b
 .have Z:=eq_true c1;refine dC (aI @e @Z @W) ?_;refine fj y a9p (t p L) rfl (by grind) (by grind) λl6 G l7=> ?_;refine Ck ?_;grind[U.a1,List.take_of_length_le,List.drop_eq_nil_of_le]
 have l8:a<b:=a9p;have j9:=K p r d D a9p s;rw[a5t]at j9;have M:(d.drop a).length=b - a:=by rw[a4V];omega
 by_cases c2:(h:Int)<(b:Int)+1
 .have f:c7 1 (.al c b h 1) none (some (.v (.int .i64 (a:Int)))) none=some (.al c a h 1):=hP a9p;have N:(b:Int)+1 -(a:Int)=((b+1 - a:Nat):Int):=a9p;refine dC (bC @e @c1 @W @c2 @f @N) ?_;refine x2 D q a9p a9p a9p λo C k0 g i k1 k2=> ?_;have k3:a+(b+1 - a)=b+1:=a9p;rw[k3]at i k2|-;have k4:o≠c:=by rintro rfl;rw[g]at D;cases D
  have k5:o≠z:=by rintro rfl;rw[g]at L;cases L
  obtain⟨E,k6⟩: ∃E,E=r.take (a*1)++(List.replicate (b+1 - a) [R.J [] .nil]).flatten++k0:=⟨_,rfl⟩;have k7:E.length=C:=by grind[List.length_append,jH,List.length_take]
  have u:E.take a=d.take a:=by grind
  rw[<-k6];have V:c7 1 (.al o (b+1) C 1) (some (.v (.int .i64 (a:Int)))) none none=some (.bw o (a*1) (b+1 - a) (C - a) 1):=gn a9p i a9p;have F:c7 1 (.al o (b+1) C 1) (some (.v (.int .i64 ((a:Int)+1)))) none none=some (.bw o ((a+1)*1) (b+1 -(a+1)) (C -(a+1)) 1):=by rw[show(a:Int)+1=((a+1:Nat):Int) by omega];exact gn a9p i a9p
  rw[a5t]at V F;rw[a8X]at F;have v:(p.set o (.cells E)) z=some (.cells [k]):=by rw[U.an _ _ (a4Q k5)];exact L
  have P:=hn (e:=1) (v:=o) (M:=a) (j0:=C - a) (i:=b+1 - a) (t _ v) (U.ah p o (.cells E)) a9p;have w: [k].take ((b+1 - a)*1)= [k]:=a4I a9r;rw[w]at P;obtain⟨x,S⟩: ∃x,x=putAt E a [k]:=⟨_,rfl⟩;have A:x.length=C:=by rw[S,eJ _ _ _ a9r,k7]
  rw[<-S]at P;have k8:(p.set o (.cells x)) c=some (.cells r):=by rw[U.an _ _ (a4Q k4)];exact D
  have j:=K _ r d k8 a9p s;rw[a5t]at j;have T:=hn (e:=1) (v:=o) (M:=a+1) (j0:=C -(a+1)) (i:=b - a) j (U.ah p o (.cells x)) a9p;have B:(d.drop a).take ((b - a)*1)=d.drop a:=a4I a9p;rw[B]at T;refine dC (iy @e @c1 @W @c2 @f @N @V @F @P @T @U.set_set) ?_;refine⟨_,U.a1,U.ae y.1 (U.bF y.1 g),.inr ⟨o,b+1,C,_,rfl,U.bF y.1 g,U.ah _ _ _,?_,?_,?_,i,k1⟩⟩
  .rw[eJ _ _ _ a9p,A,a5t]
  .have:=(pt (g:=E) (A:= [k]) (e1:=d.drop a) (v:=1) u rfl M a9p).2;rw[show(b+1)*1=a+1+(b - a) by omega,S];exact this
  grind
 .have f:c7 1 (.al c b h 1) none (some (.v (.int .i64 ((b:Int)+1)))) none=some (.al c (b+1) h 1):=by rw[show(b:Int)+1=((b+1:Nat):Int) by omega];exact hP a9p
  have V:c7 1 (.al c (b+1) h 1) (some (.v (.int .i64 (a:Int)))) none none=some (.bw c (a*1) (b+1 - a) (h - a) 1):=gn a9p a9p a9p;have F:c7 1 (.al c (b+1) h 1) (some (.v (.int .i64 ((a:Int)+1)))) none none=some (.bw c ((a+1)*1) (b+1 -(a+1)) (h -(a+1)) 1):=by rw[show(a:Int)+1=((a+1:Nat):Int) by omega];exact gn a9p a9p a9p
  rw[a5t]at V F;rw[a8X]at F;have k9:r≠ []:=by rintro rfl;simp at q;omega
  have l0:kr (.al z 1 1 1) (.bw c (a+1) (b - a) (h -(a+1)) 1) p=some (.v (.bool false)):=x1 rfl rfl (a4Q I) (qx L a9q) (qx D k9);have j:bM p 1 (.bw c a (b+1 - a) (h - a) 1)=some (b+1 - a,(r.drop a).take (b+1 - a)):=by simp only[bM,U.af D,a5t];rw[if_pos ⟨trivial,a9p⟩]
  have T:=hn (e:=1) (v:=c) (M:=a+1) (j0:=h -(a+1)) (i:=b - a) j D a9p;have B:((r.drop a).take (b+1 - a)).take ((b - a)*1)=d.drop a:=by rw[a5Y,<-s,a6f];congr 1;omega
  rw[B]at T;obtain⟨x,S⟩: ∃x,x=putAt r (a+1) (d.drop a):=⟨_,rfl⟩;rw[<-S]at T;have A:x.length=r.length:=by rw[S,eJ _ _ _ a9p]
  have v:(p.set c (.cells x)) z=some (.cells [k]):=by rw[U.an _ _ (a4Q I)];exact L
  have P:=hn (e:=1) (v:=c) (M:=a) (j0:=h - a) (i:=b+1 - a) (t _ v) (U.ah p c (.cells x)) a9p;have w: [k].take ((b+1 - a)*1)= [k]:=a4I a9r;rw[w]at P;refine dC (iy @e @c1 @W @c2 @f @V @F @l0 @T @P @U.set_set) ?_;refine⟨_,U.a1,U.ae y.1 n,.inr ⟨c,b+1,h,_,rfl,n,U.ah _ _ _,?_,?_,?_,a9p,Y⟩⟩
  .rw[eJ _ _ _ a9r,A,q]
  .have u:r.take a=d.take a:=by grind
   have:=(pt (g:=r) (A:= [k]) (e1:=d.drop a) (v:=1) u rfl M a9p).1;grind
  grind
end Go.Proofs.YtlgnfcaolejgeaaGreat
namespace Go.bA
open Go
variable{f t e7:U}{e i v M c0 j0:Nat}{Y:bp}
theorem U.sJ (a:f e=some Y):f.set e Y=f:=by grind[U.ah,U.an]
variable{e2:IntKind}{g A e1:List R}
def uv (k:i<=M) (h:M<=c0) (o:g.length=e): ∃v,c7 e (.al j0 M c0 e) (some (.v (.int e2 (i:Int)))) none none=some v/\
  ∀(b:U) (a:List R),b j0=some (.cells a)->a.length=c0*e-> ∃c,kp e g v b=some (b.set j0 (.cells c))/\c.length=a.length/\c.take (i*e)=a.take (i*e):=by
 by_cases p:i<c0
 .refine⟨_,gn k h p,λb a d r=> ?_⟩;have x:i*e+(M - i)*e=M*e:=by rw[<-a5J];congr 1;omega
  have y:M*e<=c0*e:=a4Y _ h;have z:i*e<=a.length:=a9p;refine⟨_,x0 d a9p,?_,?_⟩
  .rw[eJ _ _ _ (by rw[jH,o];omega)]
  .rw[putAt,a4U,a6h (by rw[a4L];omega),a5Y,a6Y]
 .obtain rfl:i=M:=a9p;obtain rfl:i=c0:=a9p;exact⟨_,tS rfl,λb a d r=>⟨a,by rw[Wj,U.sJ d],rfl,rfl⟩⟩
end Go.bA
namespace Go.Proofs.YtlgnfcaolejgeaaGreat
open Go Go.bA
theorem DR (l6 O x:U) (r C:List R) (k5 v:R) (o b a c:Nat) (k6:Int) (l7:k6=(c:Int)) (E:ar O x 37 r k5) (k7:r.length=o*37) (l8:ar l6 O 37 C v) (S:C.length=b*37) (a36:0<b) (a38:a<c) (a42:c<=o) (a43:o<=100000) (a47:b<=100000):
  AC Tryz.prog 242 [k5,.v (.int .i64 (a:Int)),.v (.int .i64 k6),v] x λl9 e=>ar O e 37 (r.take (a*37)++(C++r.drop (c*37))) l9:=by
 subst l7;obtain⟨d,n0,p,y,rfl,T,F,q,Q,a48,X,Y⟩:=E.al (λZ=>by rw[Z]at k7;simp at k7;omega);obtain⟨V,n1,k8,s,rfl,a52,j9,n2,a56,a57,a61,a62⟩:=l8.al (λZ=>by rw[Z]at S;simp at S;omega);obtain rfl:o=n0:=a9p;obtain rfl:b=n1:=a9p;have L:=E.1 _ _ j9;have k9:d≠V:=by rintro rfl;rw[T]at j9;cases j9
 have j: ∀e:U,e V=some (.cells s)->bM e 37 (.al V b k8 37)=some (b,C):=λe E=>by
  simp only[bM,U.af E];grind
 refine bf hm Bq a9q ?_;obtain⟨a63,l⟩:=DP (i:=37) (j0:=d) (a:=o) (M:=p) (c0:=a) (e:=c) (e2:= .i64) (b:= .i64) a9p a9p;have m: ¬(a:Int)=c:=a9p;have n:c7 37 (.al d o p 37) none (some (.v (.int .i64 (a:Int)))) none=some (.al d a p 37):=hP a9p;have l0:(List.replicate 32 (R.v (.int .u8 0))++ [R.J [] .nil,.J [] .nil]++ [R.v (.int .i64 0),.v (.int .i64 0)]++ [R.J [] .nil]).length=37:=a9q;have t:(r.take (a*37)).length=a*37:=by rw[a4L];omega
 by_cases c1:(c:Int)=o
 .have n3:=eq_true c1;obtain rfl:c=o:=a9p;have n4:r.drop (c*37)= []:=a5v a9p;rw[n4,a5R];refine dC (aM @l @m @n3 @n) ?_;by_cases aI:a+b<c
  .refine uu F q (j x L) a9p a9p a9p ?_;obtain⟨k,z⟩: ∃k,k=putAt y (a*37) C:=⟨_,rfl⟩;have f:k.length=y.length:=by rw[z,eJ _ _ _ a9p]
   rw[<-z];obtain⟨n5,cg,c9⟩:=uv (e:=37) (j0:=d) (M:=c) (c0:=p) (i:=a+b) (e2:= .i64) a9p X l0;obtain⟨g,k0,n9,l1⟩:=c9 (x.set d (.cells k)) k (U.ah _ _ _) a9p;have k1:((a+b:Nat):Int)<(c:Int):=a9p;refine dC (aM @k1 @cg @k0 @U.set_set) ?_;refine⟨_,U.a1,U.ae E.1 T,.inr ⟨d,a+b,p,_,rfl,T,U.ah _ _ _,a9p,?_,by rw[a4J,t];omega,a9p,Y⟩⟩;grind[putAt,List.take_left',List.length_append,List.length_take]
  .refine fj (E.first (i:=a) a9p) a9p (j x L) S (by rw[t];omega) (by rw[t];omega) λa65 e l2=> ?_;obtain⟨a00,a01,a68,a02⟩:=l2.src;rw[a4J,t,S]at a01;obtain rfl:a00=a+b:=a9p;have k1: ¬((a+b:Nat):Int)<(c:Int):=a9p;refine dC (c2 @a02 @k1) ?_;exact⟨_,U.a1,l2⟩
 have a69:c<o:=a9p;obtain⟨a03,u,w,l3⟩:=ov (i:=37) (j0:=d) (M:=o) (c0:=p) (e:=c) (e2:= .i64) a9p X;have k2:(r.drop (c*37)).length=(o - c)*37:=by rw[a4V];omega
 obtain⟨h,a71⟩: ∃a04,a04=a+b+(o - c):=⟨_,rfl⟩;have a73:(a:Int)+(b:Int)+((o - c:Nat):Int)=(h:Int):=a9p;have A:(a:Int)+(b:Int)=((a+b:Nat):Int):=a9p;have B:((a+b:Nat):Int)+((o - c:Nat):Int)=(h:Int):=a9p;by_cases c2:(p:Int)<(h:Int)
 .have l4:(h:Int) -(a:Int)=((h - a:Nat):Int):=a9p;refine dC (ct @l @m @c1 @n @u @w @A @B @c2 @l4) ?_;refine x2 F q a9p a9p a9p λD P a05 H I a06 a07=> ?_;have a08:a+(h - a)=h:=a9p;rw[a08]at I a07|-;have a09:D≠d:=by rintro rfl;rw[H]at F;cases F
  have a10:D≠V:=by rintro rfl;rw[H]at L;cases L
  obtain⟨G,a11⟩: ∃G,G=y.take (a*37)++(List.replicate (h - a) (List.replicate 32 (R.v (.int .u8 0))++ [R.J [] .nil,.J [] .nil]++ [R.v (.int .i64 0),.v (.int .i64 0)]++ [R.J [] .nil])).flatten++a05:=⟨_,rfl⟩;have a13:G.length=P*37:=by grind[List.length_append,jH,List.length_take]
  have K:G.take (a*37)=r.take (a*37):=by grind
  rw[<-a11];have M:c7 37 (.al D h P 37) (some (.v (.int .i64 (a:Int)))) none none=some (.bw D (a*37) (h - a) (P - a) 37):=gn a9p I a9p;have N:c7 37 (.al D h P 37) (some (.v (.int .i64 ((a+b:Nat):Int)))) none none=some (.bw D ((a+b)*37) (h -(a+b)) (P -(a+b)) 37):=gn a9p I a9p;have k3:(x.set D (.cells G)) V=some (.cells s):=by rw[U.an _ _ (a4Q a10)];exact L
  have i:=hn (e:=37) (v:=D) (M:=a*37) (j0:=P - a) (i:=h - a) (j _ k3) (U.ah x D (.cells G)) a9p;rw[a4I (l:=C) a9p]at i;obtain⟨k,z⟩: ∃k,k=putAt G (a*37) C:=⟨_,rfl⟩;have f:k.length=G.length:=by rw[z,eJ _ _ _ a9p]
  rw[<-z]at i;have a14:(x.set D (.cells k)) d=some (.cells y):=by rw[U.an _ _ (a4Q a09)];exact F
  have l5:=hn (e:=37) (v:=D) (M:=(a+b)*37) (j0:=P -(a+b)) (i:=h -(a+b)) (l3 _ y r a14 a9p Q) (U.ah x D (.cells k)) a9p;rw[a4I (l:=r.drop (c*37)) a9p]at l5;refine dC (p7 @l @m @c1 @n @u @w @A @B @c2 @l4 @M @N @i @l5 @U.set_set) ?_;refine⟨_,U.a1,U.ae E.1 (U.bF E.1 H),.inr ⟨D,h,P,_,rfl,U.bF E.1 H,U.ah _ _ _,?_,?_,?_,I,a06⟩⟩
  .rw[eJ _ _ _ a9p,f,a13]
  .have:=(pt (g:=G) (A:=C) (e1:=r.drop (c*37)) K S k2 a9p).2;rw[show h*37=a*37+b*37+(o - c)*37 by omega,z,show(a+b)*37=a*37+b*37 by omega];exact this
  grind
 have M:c7 37 (.al d o p 37) none (some (.v (.int .i64 (h:Int)))) none=some (.al d h p 37):=hP a9p;have N:c7 37 (.al d h p 37) (some (.v (.int .i64 (a:Int)))) none none=some (.bw d (a*37) (h - a) (p - a) 37):=gn a9p a9p a9p;have i:c7 37 (.al d h p 37) (some (.v (.int .i64 ((a+b:Nat):Int)))) none none=some (.bw d ((a+b)*37) (h -(a+b)) (p -(a+b)) 37):=gn a9p a9p a9p;have K:y.take (a*37)=r.take (a*37):=by grind
 by_cases aI:((a+b:Nat):Int)<=(c:Int)
 .have cg:=hn (e:=37) (v:=d) (M:=a*37) (j0:=p - a) (i:=h - a) (j x L) F a9p;rw[a4I (l:=C) a9p]at cg;obtain⟨k,z⟩: ∃k,k=putAt y (a*37) C:=⟨_,rfl⟩;have f:k.length=y.length:=by rw[z,eJ _ _ _ a9p]
  have a74:(k.drop (c*37)).take ((o - c)*37)=r.drop (c*37):=by
   have a15:(y.take (a*37)++C).length=(a+b)*37:=by grind
   rw[z,putAt,show c*37=(a+b)*37+(c*37 -(a+b)*37) by omega,<-a5B,a7M a15,a5B,<-Q,a6f];congr 1
   .omega
   .congr 1;omega
  rw[<-z]at cg;have a81:c7 37 (.al d o p 37) (some (.v (.int .i64 (c:Int)))) none none=some (.bw d (c*37) (o - c) (p - c) 37):=gn a9p a9p a9p;have a16:bM (x.set d (.cells k)) 37 (.bw d (c*37) (o - c) (p - c) 37)=some (o - c,r.drop (c*37)):=by simp only[bM,U.af (U.ah x d (.cells k))];grind
  have c9:=hn (e:=37) (v:=d) (M:=(a+b)*37) (j0:=p -(a+b)) (i:=h -(a+b)) a16 (U.ah x d (.cells k)) a9p;rw[a4I (l:=r.drop (c*37)) a9p,U.set_set]at c9;obtain⟨g,k4⟩: ∃g,g=putAt k ((a+b)*37) (r.drop (c*37)):=⟨_,rfl⟩;have a83:g.length=y.length:=by rw[k4,eJ _ _ _ a9p,f]
  rw[<-k4]at c9;obtain⟨n5,a18,a19⟩:=uv (e:=37) (j0:=d) (M:=o) (c0:=p) (i:=h) (e2:= .i64) a9p X l0;obtain⟨W,k0,n9,l1⟩:=a19 (x.set d (.cells g)) g (U.ah _ _ _) a9p;have a27:a03= .bw d (c*37) (o - c) (p - c) 37:=by grind
  subst a27;refine dC (Cf @l @m @c1 @n @u @w @A @B @c2 @aI @M @N @i @cg @c9 @a18 @k0 @U.set_set) ?_;refine⟨_,U.a1,U.ae E.1 T,.inr ⟨d,h,p,_,rfl,T,U.ah _ _ _,a9p,?_,?_,a9p,Y⟩⟩
  .rw[l1,k4,z,show h*37=a*37+b*37+(o - c)*37 by omega,show(a+b)*37=a*37+b*37 by omega];exact(pt (g:=y) (A:=C) (e1:=r.drop (c*37)) K S k2 a9p).2
  grind
 .have a29:y≠ []:=by rintro rfl;simp at q;omega
  have a30:s≠ []:=by rintro rfl;simp at n2;omega
  have a34:kr (.bw d ((a+b)*37) (h -(a+b)) (p -(a+b)) 37) (.al V b k8 37) x=some (.v (.bool false)):=x1 rfl rfl k9 (qx F a29) (qx L a30);have cg:=hn (e:=37) (v:=d) (M:=(a+b)*37) (j0:=p -(a+b)) (i:=h -(a+b)) (l3 x y r F a9p Q) F a9p;rw[a4I (l:=r.drop (c*37)) a9p]at cg;obtain⟨k,z⟩: ∃k,k=putAt y ((a+b)*37) (r.drop (c*37)):=⟨_,rfl⟩;have f:k.length=y.length:=by rw[z,eJ _ _ _ a9p]
  rw[<-z]at cg;have k3:(x.set d (.cells k)) V=some (.cells s):=by rw[U.an _ _ (a4Q k9)];exact L
  have c9:=hn (e:=37) (v:=d) (M:=a*37) (j0:=p - a) (i:=h - a) (j _ k3) (U.ah x d (.cells k)) a9p;rw[a4I (l:=C) a9p,U.set_set]at c9;refine dC (nZ @l @m @c1 @n @u @w @A @B @c2 @aI @M @N @i @a34 @cg @c9 @U.set_set) ?_;refine⟨_,U.a1,U.ae E.1 T,.inr ⟨d,h,p,_,rfl,T,U.ah _ _ _,?_,?_,?_,a9p,Y⟩⟩
  .rw[eJ _ _ _ a9p,f,q]
  .rw[z,show h*37=a*37+b*37+(o - c)*37 by omega,show(a+b)*37=a*37+b*37 by omega];exact(pt (g:=y) (A:=C) (e1:=r.drop (c*37)) K S k2 a9p).1
  grind
theorem YG (L r:U) (k:List R) (P:R) (c a b:Nat) (S:Int) (n:S=(b:Int)) (D:ar L r 37 k P) (T:k.length=c*37) (k3:a<b) (k4:b<=c) (k5:c<=100000):
  AC Tryz.prog 242 [P,.v (.int .i64 (a:Int)),.v (.int .i64 S),.J [] .nil] r λq z=>ar L z 37 (k.take (a*37)++k.drop (b*37)) q:=by
 subst n;obtain⟨d,s,h,p,rfl,C,x,V,t,k6,E,e⟩:=D.al (λu=>by rw[u]at T;simp at T;omega);obtain rfl:c=s:=a9p;have f: ∀z:U,bM z 37 (.J [] .nil)=some (0,[]):=λz=>rfl;refine bf hm Bq a9q ?_;obtain⟨k7,g⟩:=DP (i:=37) (j0:=d) (a:=c) (M:=h) (c0:=a) (e:=b) (e2:= .i64) (b:= .i64) a9p a9p;have i: ¬(a:Int)=b:=a9p;have j:c7 37 (.al d c h 37) none (some (.v (.int .i64 (a:Int)))) none=some (.al d a h 37):=hP a9p;have l:(List.replicate 32 (R.v (.int .u8 0))++ [R.J [] .nil,.J [] .nil]++ [R.v (.int .i64 0),.v (.int .i64 0)]++ [R.J [] .nil]).length=37:=a9q;have v:(k.take (a*37)).length=a*37:=by rw[a4L];omega
 by_cases c1:(b:Int)=c
 .have w:=eq_true c1;obtain rfl:b=c:=a9p;have A:k.drop (b*37)= []:=a5v a9p;rw[A,a5R];refine dC (aM @g @i @w @j) ?_;refine uu x V (f r) a9p a9p a9p ?_;have F:putAt p (a*37) []=p:=by simp[putAt]
  rw[F,U.sJ x];obtain⟨B,cg,c9⟩:=uv (e:=37) (j0:=d) (M:=b) (c0:=h) (i:=a) (e2:= .i64) a9p E l;obtain⟨y,G,H,I⟩:=c9 r p x V;have K:(a:Int)<(b:Int):=a9p;refine dC (aM @a6x @K @cg @G) ?_;refine⟨_,U.a1,U.ae D.1 C,.inr ⟨d,a,h,_,rfl,C,U.ah _ _ _,a9p,?_,v,a9p,e⟩⟩;grind
 have k8:b<c:=a9p;obtain⟨M,N,O,Q⟩:=ov (i:=37) (j0:=d) (M:=c) (c0:=h) (e:=b) (e2:= .i64) a9p E;have k9:(k.drop (b*37)).length=(c - b)*37:=by rw[a4V];omega
 obtain⟨o,l0⟩: ∃X,X=a+(c - b):=⟨_,rfl⟩;have Y:(a:Int)+((c - b:Nat):Int)=(o:Int):=a9p;have c2: ¬(h:Int)<(o:Int):=a9p;have Z:c7 37 (.al d c h 37) none (some (.v (.int .i64 (o:Int)))) none=some (.al d o h 37):=hP a9p;have j9:c7 37 (.al d o h 37) (some (.v (.int .i64 (a:Int)))) none none=some (.bw d (a*37) (o - a) (h - a) 37):=gn a9p a9p a9p;have l1:p.take (a*37)=k.take (a*37):=by grind
 have aI:(a:Int)<=(b:Int):=a9p;have F:putAt p (a*37) ([]:List R)=p:=by simp[putAt]
 have cg:=hn (e:=37) (v:=d) (M:=a*37) (j0:=h - a) (i:=o - a) (f r) x a9p;rw[a9c,F,U.sJ x]at cg;have l2:c7 37 (.al d c h 37) (some (.v (.int .i64 (b:Int)))) none none=some (.bw d (b*37) (c - b) (h - b) 37):=gn a9p a9p a9p;have k0:M= .bw d (b*37) (c - b) (h - b) 37:=by simp_all
 subst k0;have c9:=hn (e:=37) (v:=d) (M:=a*37) (j0:=h - a) (i:=o - a) (Q r p k x a9p t) x a9p;rw[a4I (l:=k.drop (b*37)) a9p]at c9;obtain⟨y,m⟩: ∃y,y=putAt p (a*37) (k.drop (b*37)):=⟨_,rfl⟩;have l3:y.length=p.length:=by rw[m,eJ _ _ _ a9p]
 rw[<-m]at c9;obtain⟨B,k1,k2⟩:=uv (e:=37) (j0:=d) (M:=c) (c0:=h) (i:=o) (e2:= .i64) a9p E l;obtain⟨W,G,H,I⟩:=k2 (r.set d (.cells y)) y (U.ah _ _ _) a9p;have l4:(([]:List R).length:Int)=0:=rfl;refine dC (nZ @g @i @c1 @j @N @O @Int.add_zero @Y @c2 @aI @Z @j9 @cg @c9 @k1 @G @U.set_set) ?_;refine⟨_,U.a1,U.ae D.1 C,.inr ⟨d,o,h,_,rfl,C,U.ah _ _ _,a9p,?_,?_,a9p,e⟩⟩;grind[putAt,List.take_left',List.length_append];grind
end Go.Proofs.YtlgnfcaolejgeaaGreat
namespace Go.bA
open Go
structure jR (c:U) (k:Nat) (a:R) (n:Nat) (us:List R):Prop where
 src: ∀b,c.sub b->bM b k a=some (n,us)
 len:ff a=some (.v (.int .i64 (n:Int)))
 one:a.cells= [a]
 full:us.length=n*k
variable{f t e7:U}{g A e1:List R}{e i v M c0 j0:Nat}
def jR.mono {a:R} (b:jR f e a i g) (c:f.sub t):jR t e a i g:=⟨λd h=>b.src d (U.aq c h),b.len,b.one,b.full⟩
theorem jR.J {s:U}{b:Nat}{a:List R}{o:Own} (d:aN b a):jR s b (.J a o) a.length (flat a):=⟨λk _=>by
 have:a.all (λc=>decide (c.cells.length=b))=true:=a4W.2 λc h=>decide_eq_true (d c h);simp only[bM,this,if_true],rfl,rfl,dg d⟩
variable{n b3:R}
theorem ar.ax (b:ar t f e g n) (k:0<e): ∃a,g.length=a*e/\jR f e n a g:=by
 obtain⟨a,c,_,d⟩:=b.src;refine⟨a,c,λo h=> ?_,d,?_,c⟩
 .obtain⟨p,r,x,_⟩:=(ar.mono b h).src;grind
 .rcases b.2 with ⟨_,rfl|rfl⟩|⟨y,a,z,C,rfl,_⟩<;>rfl
variable{s a7:R -> U -> Prop}{b4:FuncId}{m:Program}
theorem AC.nm (h:View f n t b3) (k:AC m b4 (g++b3::A) t s):AC m b4 (g++n::A) f s:=by
 refine k.pre λC o p a r=> ?_;have x:=a.2 g.length n a9q;obtain⟨y,b,D⟩:=h p o _ r x;refine⟨y,?_,b⟩;have c:=a.mono b.le;refine⟨by rw[c.1];simp,λd z E=> ?_⟩;by_cases F:d=g.length;simp_all
 .refine c.2 d z ?_;grind
end Go.bA
namespace Go.Proofs.YtlgnfcaolejgeaaGreat
open Go Go.bA
theorem YH (a:Nat) (C:a<=100000000) (d:U):
  AC Tryz.prog 354 [.J [] .nil,.v (.int .i64 (a:Int))] d λr x=>ar d x 1 [] r:=by
 refine bf hm Sy a9q ?_;have h: ¬(a:Int)<0:=a9p;have k:(a:Int) -(0 - 0)=a:=a9p;have o:c7 1 (.J [] .nil) none (some (.v (.int .i64 0))) none=some (.J [] .nil):=wZ;by_cases c1:(0:Int)<a
 .refine dC (bo @h @k @c1 @o @a8G) ?_;refine Cj a9p a9p a9p λb c D p E y F=> ?_;have z:c7 1 (.al b a c 1) none (some (.v (.int .i64 0))) none=some (.al b 0 c 1):=hP (v:=0) a9p;refine dC @z ?_;refine⟨_,U.a1,U.ae U.a1 p,.inr ⟨b,0,c,_,rfl,p,U.ah _ _ _,?_,a9q,a9q,a9p,y⟩⟩;simp_all
 .refine dC (bo @h @k @c1 @o @a8G) ?_;exact⟨_,U.a1,ar.nil U.a1⟩
def YI (d:U) (h k:R) (D:Own) (o r:Nat) (V i:List R) (z:jR d 1 h o V) (C:jR d 1 k r i) (k2:o<=100000) (k3:r<=100000):
  AC Tryz.prog 342 [.J [h,k] D] d λB b=>ar d b 1 (V++i) B:=by
 refine bf hm Sl a9q ?_;have H:=z.len;have I:=C.len;have u:bS d 1 (.J [h,k] D) [h,k]:=bS.J λk4 v=>by
  simp only[a5i,a6n,or_false]at v;rcases v with rfl|rfl
  .rw[z.one];rfl
  .rw[C.one];rfl
 have W:(([h,k].length:Nat):Int)=2:=rfl;obtain⟨K,e,M⟩:=u.get 0 h rfl;obtain⟨N,f,O⟩:=u.get 1 k rfl;have w: ∀b,d.sub b->dq false 1 b K=some h:=λb j=>by rw[M.ld b j false 1 a9p (by rw[z.one];simp),z.one];rfl
 have A: ∀b,d.sub b->dq false 1 b N=some k:=λb j=>by rw[O.ld b j false 1 a9p (by rw[C.one];simp),C.one];rfl
 have Q:((0:Nat):Int)=0:=rfl;have X:((1:Nat):Int)=1:=rfl;rw[Q]at e;rw[X]at f;have Y:=w d U.a1;have Z:=A d U.a1;have bo: ¬(o:Int)<0:=a9p;have bC: ¬(o:Int)+(r:Int)<0:=a9p;refine dC @W ?_;refine cu (λa b=>b=d/\a 0= .J [h,k] D/\a 9= .J [h,k] D/\a 10= .v (.int .i64 2)/\((a 11= .v (.int .i64 0)/\a 3= .v (.int .i64 0))\/(a 11= .v (.int .i64 1)/\a 3= .v (.int .i64 o))\/(a 11= .v (.int .i64 2)/\a 3= .v (.int .i64 ((o:Int)+(r:Int))))))
  (λa _=>match a 11 with| .v (.int _ l)=>2 - l.toNat| _=>0) ⟨rfl,?_⟩ ?_
 .refine dC @W ?_;exact .inl trivial
 rintro a m ⟨rfl,E,F,G,n⟩;rcases n with ⟨x,p⟩|⟨x,p⟩|⟨x,p⟩
 .refine dC (ct @E @F @G @x @p @e @Y @H @bo @a8C) ?_;simp
 .refine dC (dr @E @F @G @x @p @f @Z @I @bC) ?_;simp
 .have j9:(o:Int)+(r:Int)=((o+r:Nat):Int):=a9p;rw[j9]at p;simp -dsimp -implicitDefEqProofs (disch:=first|omega|assumption|(simp only[aE,Nat.reduceAdd];try omega)) only[go_sem,simprocAttr,-List.reduceReplicate,↓eL,E,F,G,x,p];refine ai (YH (o+r) a9p _) ?_;intro k5 k6 k0;simp -dsimp -implicitDefEqProofs (disch:=first|omega|assumption|(simp only[aE,Nat.reduceAdd];try omega)) only[go_sem,simprocAttr,-List.reduceReplicate,↓eL,E,F,G,x,p,W];refine cu (λa b=>a 25= .J [h,k] D/\a 26= .v (.int .i64 2)/\((a 27= .v (.int .i64 0)/\ar m b 1 [] (a 6))\/(a 27= .v (.int .i64 1)/\ar m b 1 V (a 6))\/(a 27= .v (.int .i64 2)/\ar m b 1 (V++i) (a 6))))
   (λa _=>match a 27 with| .v (.int _ l)=>2 - l.toNat| _=>0) ?_ ?_
  .simp -dsimp -implicitDefEqProofs (disch:=first|omega|assumption|(simp only[aE,Nat.reduceAdd];try omega)) only[go_sem,simprocAttr,-List.reduceReplicate,↓eL,E,F,G,x,p,W];exact .inl k0
  rintro a g ⟨L,P,n⟩;have S:=z.full;have q:=C.full;rcases n with ⟨y,c⟩|⟨y,c⟩|⟨y,c⟩
  .have T:=w g c.1;generalize s:a 6=ei at c;simp -dsimp -implicitDefEqProofs (disch:=first|omega|assumption|(simp only[aE,Nat.reduceAdd];try omega)) only[go_sem,simprocAttr,-List.reduceReplicate,↓eL,L,P,y,e,T,s];refine fj c a9p (z.src g c.1) S (by rw[a4R,S];omega) (by rw[a4R,S];omega) λk1 b t=> ?_;simp -dsimp -implicitDefEqProofs (disch:=first|omega|assumption|(simp only[aE,Nat.reduceAdd];try omega)) only[go_sem,simprocAttr,-List.reduceReplicate,↓eL,L,P,y,e,T];exact .inr (.inl t)
  .have T:=A g c.1;generalize s:a 6=ei at c;simp -dsimp -implicitDefEqProofs (disch:=first|omega|assumption|(simp only[aE,Nat.reduceAdd];try omega)) only[go_sem,simprocAttr,-List.reduceReplicate,↓eL,L,P,y,f,T,s];refine fj c a9p (C.src g c.1) q (by rw[S,q];omega) (by rw[S,q];omega) λk1 b t=> ?_;simp -dsimp -implicitDefEqProofs (disch:=first|omega|assumption|(simp only[aE,Nat.reduceAdd];try omega)) only[go_sem,simprocAttr,-List.reduceReplicate,↓eL,L,P,y,f,T];exact .inr (.inr t)
  .refine dC (aI @L @P @y) ?_;exact⟨_,U.a1,c⟩
def YJ (a:Nat) (D:a<=100000000) (d:U):
  AC Tryz.prog 355 [.J [] .nil,.v (.int .i64 (a:Int))] d λr x=>ar d x 37 [] r:=by
 refine bf hm SA a9q ?_;have h: ¬(a:Int)<0:=a9p;have k:(a:Int) -(0 - 0)=a:=a9p;have o:c7 37 (.J [] .nil) none (some (.v (.int .i64 0))) none=some (.J [] .nil):=wZ;by_cases c1:(0:Int)<a
 .refine dC (bo @h @k @c1 @o @a8G) ?_;refine Cj a9p a9p a9p λb c E p F y z=> ?_;have C:c7 37 (.al b a c 37) none (some (.v (.int .i64 0))) none=some (.al b 0 c 37):=hP (v:=0) a9p;refine dC @C ?_;refine⟨_,U.a1,U.ae U.a1 p,.inr ⟨b,0,c,_,rfl,p,U.ah _ _ _,?_,a9q,a9q,a9p,y⟩⟩;rw[a4J,jH,z];simp;omega
 .refine dC (bo @h @k @c1 @o @a8G) ?_;exact⟨_,U.a1,ar.nil U.a1⟩
def YK (d:U) (h k:R) (D:Own) (o r:Nat) (V i:List R) (z:jR d 37 h o V) (C:jR d 37 k r i) (k2:o<=100000) (k3:r<=100000):
  AC Tryz.prog 343 [.J [h,k] D] d λB b=>ar d b 37 (V++i) B:=by
 refine bf hm Sn a9q ?_;have H:=z.len;have I:=C.len;have u:bS d 1 (.J [h,k] D) [h,k]:=bS.J λk4 v=>by
  simp only[a5i,a6n,or_false]at v;rcases v with rfl|rfl
  .rw[z.one];rfl
  .rw[C.one];rfl
 have W:(([h,k].length:Nat):Int)=2:=rfl;obtain⟨K,e,M⟩:=u.get 0 h rfl;obtain⟨N,f,O⟩:=u.get 1 k rfl;have w: ∀b,d.sub b->dq false 1 b K=some h:=λb j=>by rw[M.ld b j false 1 a9p (by rw[z.one];simp),z.one];rfl
 have A: ∀b,d.sub b->dq false 1 b N=some k:=λb j=>by rw[O.ld b j false 1 a9p (by rw[C.one];simp),C.one];rfl
 have Q:((0:Nat):Int)=0:=rfl;have X:((1:Nat):Int)=1:=rfl;rw[Q]at e;rw[X]at f;have Y:=w d U.a1;have Z:=A d U.a1;have bo: ¬(o:Int)<0:=a9p;have bC: ¬(o:Int)+(r:Int)<0:=a9p;refine dC @W ?_;refine cu (λa b=>b=d/\a 0= .J [h,k] D/\a 9= .J [h,k] D/\a 10= .v (.int .i64 2)/\((a 11= .v (.int .i64 0)/\a 3= .v (.int .i64 0))\/(a 11= .v (.int .i64 1)/\a 3= .v (.int .i64 o))\/(a 11= .v (.int .i64 2)/\a 3= .v (.int .i64 ((o:Int)+(r:Int))))))
  (λa _=>match a 11 with| .v (.int _ l)=>2 - l.toNat| _=>0) ⟨rfl,?_⟩ ?_
 .refine dC @W ?_;exact .inl trivial
 rintro a m ⟨rfl,E,F,G,n⟩;rcases n with ⟨x,p⟩|⟨x,p⟩|⟨x,p⟩
 .refine dC (ct @E @F @G @x @p @e @Y @H @bo @a8C) ?_;simp
 .refine dC (dr @E @F @G @x @p @f @Z @I @bC) ?_;simp
 .have j9:(o:Int)+(r:Int)=((o+r:Nat):Int):=a9p;rw[j9]at p;simp -dsimp -implicitDefEqProofs (disch:=first|omega|assumption|(simp only[aE,Nat.reduceAdd];try omega)) only[go_sem,simprocAttr,-List.reduceReplicate,↓eL,E,F,G,x,p];refine ai (YJ (o+r) a9p _) ?_;intro k5 k6 k0;simp -dsimp -implicitDefEqProofs (disch:=first|omega|assumption|(simp only[aE,Nat.reduceAdd];try omega)) only[go_sem,simprocAttr,-List.reduceReplicate,↓eL,E,F,G,x,p,W];refine cu (λa b=>a 25= .J [h,k] D/\a 26= .v (.int .i64 2)/\((a 27= .v (.int .i64 0)/\ar m b 37 [] (a 6))\/(a 27= .v (.int .i64 1)/\ar m b 37 V (a 6))\/(a 27= .v (.int .i64 2)/\ar m b 37 (V++i) (a 6))))
   (λa _=>match a 27 with| .v (.int _ l)=>2 - l.toNat| _=>0) ?_ ?_
  .simp -dsimp -implicitDefEqProofs (disch:=first|omega|assumption|(simp only[aE,Nat.reduceAdd];try omega)) only[go_sem,simprocAttr,-List.reduceReplicate,↓eL,E,F,G,x,p,W];exact .inl k0
  rintro a g ⟨L,P,n⟩;have S:=z.full;have q:=C.full;rcases n with ⟨y,c⟩|⟨y,c⟩|⟨y,c⟩
  .have T:=w g c.1;generalize s:a 6=ei at c;simp -dsimp -implicitDefEqProofs (disch:=first|omega|assumption|(simp only[aE,Nat.reduceAdd];try omega)) only[go_sem,simprocAttr,-List.reduceReplicate,↓eL,L,P,y,e,T,s];refine fj c a9p (z.src g c.1) S (by rw[a4R,S];omega) (by rw[a4R,S];omega) λk1 b t=> ?_;simp -dsimp -implicitDefEqProofs (disch:=first|omega|assumption|(simp only[aE,Nat.reduceAdd];try omega)) only[go_sem,simprocAttr,-List.reduceReplicate,↓eL,L,P,y,e,T];exact .inr (.inl t)
  .have T:=A g c.1;generalize s:a 6=ei at c;simp -dsimp -implicitDefEqProofs (disch:=first|omega|assumption|(simp only[aE,Nat.reduceAdd];try omega)) only[go_sem,simprocAttr,-List.reduceReplicate,↓eL,L,P,y,f,T,s];refine fj c a9p (C.src g c.1) q (by rw[S,q];omega) (by rw[S,q];omega) λk1 b t=> ?_;simp -dsimp -implicitDefEqProofs (disch:=first|omega|assumption|(simp only[aE,Nat.reduceAdd];try omega)) only[go_sem,simprocAttr,-List.reduceReplicate,↓eL,L,P,y,f,T];exact .inr (.inr t)
  .refine dC (aI @L @P @y) ?_;exact⟨_,U.a1,c⟩
def fq (k a:U) (b c:Nat) (d:Except Int (List ay)×ag) (o:R):Prop:=
 match d.1 with
 | .error p=>bB a b c d.2/\Ext b c k a/\p≠0/\o= .aL [.J [] .nil,.v (.int .i64 p)]
 | .ok bI=> ∃r h,az bs bI r/\o= .aL [h,.v (.int .i64 0)]/\dc k a b c d.2 37 (flat r) h/\(bI= []->h= .J [] .nil)
theorem fq.base {d h k:U}{b c:Nat}{o:Except Int (List ay)×ag}{p:R} (a:fq h k b c o p) (r:Ext b c d h):fq d k b c o p:=by
 unfold fq at a|-;split at a
 .exact⟨a.1,r.trans a.2.1,a.2.2⟩
 grind[dc.base]
variable{n b3:R}{f t e7:U}{e i v M c0 j0:Nat}
theorem fq.shape {a:Except Int (List ay)×ag} (d:fq f t e i a n): ∃b c,n= .aL [b,.v (.int .i64 c)]:=by grind[fq]
def YL (b:U) (d k:Nat) (h:ag) (E:bB b d k h) (a:List (List Int)) (o:List R) (r:Own) (c:Nat) (F:1<=c) (G:c<=8) (x:az isRow a o) (L:a.length<=100000):
  AC Tryz.prog 238 [.J o r,.bG 155 [dX d c] []] b λp P=>fq b P d k (nk h c a) p:=by
 refine bf hm Qc a9q ?_;have S:=x.len;refine ax @S ?_;refine ai (xF a.length a9p b) ?_;rintro _ b ⟨rfl,rfl⟩;refine cn ?_;have y:a6.bU a.length<=100000:=by unfold a6.bU;omega
 refine ai (YA a o r (a6.bU a.length) b x L y) ?_;rintro _ T ⟨z,gs,V,rfl,W⟩;refine cn ?_;have C:=nj (g:=a6.bU a.length) (l:=a);refine ai (YB T d k h (E.mono z) _ gs V c F G W (λe f=>by have:=C.2 e f;omega) (by rw[C.1];exact y)) ?_;intro p g i;have D:fq b g d k (nk h c a) p:=fq.base (o:=nk h c a) i (Ext.of z);obtain⟨j,l,rfl⟩:=D.shape;refine cn ?_;exact⟨_,U.a1,D⟩
def DS (d p:U) (b h:Nat) (k:ag) (D:bB d b h k) (c:List (List Int)) (o:List R) (r:R) (E:ar d p 1 (flat o) r) (a:Nat) (F:1<=a) (G:a<=8) (x:az isRow c o) (L:c.length<=100000):
  AC Tryz.prog 238 [r,.bG 155 [dX b a] []] p λy z=>fq d z b h (nk k a c) y:=by
 obtain⟨P,S,C⟩:=ar.DJ E x;refine AC.nm (g:= []) S ?_;exact(YL P b h k (D.mono C) c o .any a F G x L).mono λy z T=>fq.base T (Ext.of C)
def YM (b:U) (d k:Nat) (h:ag) (E:bB b d k h) (a:List (ay)) (o:List R) (r:Own) (c:Nat) (F:1<=c) (G:c<=8) (x:az bs a o) (L:a.length<=100000):
  AC Tryz.prog 241 [.J o r,.bG 243 [dX d c] []] b λp P=>fq b P d k (jh h c a) p:=by
 refine bf hm Qi a9q ?_;have S:=x.len;refine ax @S ?_;refine ai (xF a.length a9p b) ?_;rintro _ b ⟨rfl,rfl⟩;refine cn ?_;have y:a6.bU a.length<=100000:=by unfold a6.bU;omega
 refine ai (DN a o r (a6.bU a.length) b x L y) ?_;rintro _ T ⟨z,gs,V,rfl,W⟩;refine cn ?_;have C:=nj (g:=a6.bU a.length) (l:=a);refine ai (DO T d k h (E.mono z) _ gs V c F G W (λe f=>by have:=C.2 e f;omega) (by rw[C.1];exact y)) ?_;intro p g i;have D:fq b g d k (jh h c a) p:=fq.base (o:=jh h c a) i (Ext.of z);obtain⟨j,l,rfl⟩:=D.shape;refine cn ?_;exact⟨_,U.a1,D⟩
def DT (d p:U) (b h:Nat) (k:ag) (D:bB d b h k) (c:List (ay)) (o:List R) (r:R) (E:ar d p 37 (flat o) r) (a:Nat) (F:1<=a) (G:a<=8) (x:az bs c o) (L:c.length<=100000):
  AC Tryz.prog 241 [r,.bG 243 [dX b a] []] p λy z=>fq d z b h (jh k a c) y:=by
 obtain⟨P,S,C⟩:=ar.ur E x;refine AC.nm (g:= []) S ?_;exact(YM P b h k (D.mono C) c o .any a F G x L).mono λy z T=>fq.base T (Ext.of C)
def DU: ∀(a:List ay) (b:gf),(a.foldl ev b).size=b.size+(a.map (·.size)).sum
 | [],b=>by simp
 |c::a,b=>by rw[a5O,DU a];simp[ev];omega
def xN: ∀(b:List (List Int×Bool)) (a:gf),(b.foldl dP a).size=a.size
 | [],a=>rfl
 |c::b,a=>by rw[a5O,xN b];unfold dP;split<;>rfl
def xO (a:c4):(eF a).size=a.rows.length+(a.kids.map (·.size)).sum:=by unfold eF;rw[DU,xN]
structure pv (d:Nat) (k:ay) (n:c4):Prop where
 ok:dW d n=true
 eq:k=eV n
 size:k.size=n.rows.length+(n.kids.map (·.size)).sum
 o6:k.size<=1048576
variable{w j2:ay}{e0:c4}
def uw (a:fJ e e0=some w):pv e w e0:=by
 unfold fJ at a;split at a
 .rename_i b;split at a
  .cases a
  .rename_i c;obtain rfl:=a4G a;exact⟨b,rfl,xO e0,by show(eF e0).size<= _;omega⟩
 .cases a
variable{H:ag}
def sK (a:iH H e w=some e0):pv e w e0/\(e0.kind=2\/e0.kind=3):=by
 unfold iH at a;split at a
 .cases a
 .rename_i d hm;split at a
  .rename_i b;obtain rfl:=a4G a;refine⟨?_,b⟩;unfold fp at hm;split at hm
   .cases hm
   .split at hm
    .cases hm
    .split at hm
     .rename_i c;obtain rfl:=a4G hm;exact uw c
     .cases hm
  .cases a
theorem pv.leaf (b:pv e w e0) (c:e0.kind=2):1<=e0.rows.length/\e0.rows.length<=4/\e0.kids= []/\(∀a∈e0.rows,a.1.length=e/\a.2=true):=by have:=b.ok;simp_all [dW,if_neg,if_pos,a4K,a4W,decide_eq_true_eq,a4N]
theorem pv.inner (k:pv e w e0) (h:e0.kind=3):e0.rows= []/\2<=e0.kids.length/\e0.kids.length<=4/\(∀a∈e0.kids,a.key.length=e/\a≠aA/\fo e a=true/\1<=a.size/\a.size<w.size):=by
 have d:=k.ok;unfold dW at d;have x: ¬e0.kind=1:=by rw[h];decide
 have y: ¬e0.kind=2:=by rw[h];decide
 rw[if_neg x,if_neg y,if_pos h]at d;simp only[a4K,a4W,decide_eq_true_eq,a6l,decide_eq_false_iff_not]at d;obtain⟨⟨_,z⟩,⟨⟨C,D⟩,E⟩,o⟩:=d;have p:e0.rows= []:=a4N C;have F: ∀a∈e0.kids,1<=a.size:=λa b=>by
  simp_all [fo,decide_false,a8t,a4K,a6l,a8i,decide_eq_false_iff_not]
 refine⟨p,D,E,λa b=>⟨(o a b).1,(o a b).2,z a b,F a b,?_⟩⟩;have r:=k.size;rw[p]at r;simp only[a4R]at r;have G: ∀(c:List ay),(∀a∈c,1<=a.size)->(c.length:Int)<=(c.map (·.size)).sum:=by
  intro c
  induction c with
  |nil=>intro _;simp
  |cons L c ih=>grind
 obtain⟨P,S,T⟩:=a7w b;grind
def gw (d:Nat) (b:List Int):Nat->ag->ay->Except Int (List ay)×ag
  |0,c,_=>(.error 21,c)
  |k+1,c,o=>match iH c d o with
    |none=>(.error 21,c)
    |some a=>
      if a.kind=2 then
        (if kE (a.rows.map Prod.fst) b=true then(.error 8,c)
         else nk c d ((a.rows.map Prod.fst).take (eY (a.rows.map Prod.fst) b)++b::(a.rows.map Prod.fst).drop (eY (a.rows.map Prod.fst) b)))
      else match a.kids[hz b a]? with
        |none=>(.error 21,c)
        |some p=>match gw d b k c p with
          |(.error r,h)=>(.error r,h)
          |(.ok x,h)=>jh h d (a.kids.take (hz b a)++(x++a.kids.drop (hz b a+1)))
theorem xP (b:List Int): ∀(a:List (List Int)),a≠ []->a6.cV bx b a<a.length
 | [],c=>absurd rfl c
 | [_],_=>by simp[a6.cV]
 | _::d::h,_=>by
  have:=xP b (d::h) a9q;grind[a6.cV,List.length_cons]
def xQ (p:Nat) (r:List Int): ∀(d:Nat) (c h:ag) (k:ay) (b:List ay),gw p r d c k=(.ok b,h)->1<=b.length/\b.length<=3
 |0,c,h,k,b,a=>by rw[gw]at a;cases (a6z a).1
 |d+1,c,h,k,b,a=>by
  rw[gw]at a;split at a
  .cases (a6z a).1
  rename_i P y;obtain⟨x,z⟩:=sK y;split at a
  .rename_i o;obtain⟨C,D,_⟩:=x.leaf o;split at a
   .cases (a6z a).1
   .have:=qO a;rw[this];simp only[a4R,a5e,a6.chunks,(nj).1,a6.bU,a4J,a4M,a4L,a4V,a4T];omega
  .rename_i o;obtain⟨_,C,D,_⟩:=x.inner (z.resolve_left o);split at a
   .cases (a6z a).1
   .rename_i E S;split at a
    .cases (a6z a).1
    .rename_i F G L;have ih:=xQ p r d c G E F L;have:=qO a;rw[this];simp only[a4R,a5e,a6.chunks,(nj).1,a6.bU,a4J,a4L,a4V];omega
theorem YN (z S:Nat) (p:List Int) (L:Own) (r:Nat) (n0:1<=r) (n1:r<=8): ∀(T:Nat) (V:U) (E:ag) (F:ay) (t u v:Own),bB V z S E->F.sum.length=32->F.cE->0<T->F.size<T->
  AC Tryz.prog 156 [dX z r,.agg (ab F t u v),.J (ad p) L] V λk0 a99=>fq V a99 z S (gw r p T E F) k0:=by
 intro T
 induction T with
 |zero=>intro V E F t u v g n2 a18 b59 b00;omega
 |succ T ih=>
 intro V E F t u v g n2 a18 b60 b00;refine bf hm NP a9q ?_;have k: ∀a19,(R.agg a19).cells=a19:=λ_=>rfl;have H: ∀h c d G x a27:R,putAt [h,c,d] 0 [G,x,a27]= [G,x,a27]:=λ_ _ _ _ _ _=>rfl;have P: ∀h c d,aY true 3 [h,c,d]= .agg [h,c,d]:=λ_ _ _=>rfl;have i: ∀h c,aY true 2 [h,c]= .agg [h,c]:=λ_ _=>rfl;have j: ∀h c:R,List.take 2 [h,c]= [h,c]:=λ_ _=>rfl;have W: ∀h c d:R,List.take 3 [h,c,d]= [h,c,d]:=λ_ _ _=>rfl;have I: ∀h c d:R,[h,c,d].length=3:=λ_ _ _=>rfl;have b01: ∀h c d:R,aY false 1 [h,c,d]=h:=λ_ _ _=>rfl;have a29: ∀h c d:R,aY false 1 ([h,c,d].drop 2)=d:=λ_ _ _=>rfl;have a30:=aX (N:=t) (e5:=u) (h5:=v) n2;have a34:=a30.len;simp -dsimp -implicitDefEqProofs (disch:=first|omega|assumption|(simp only[aE,Nat.reduceAdd];try omega)) only[go_sem,simprocAttr,-List.reduceReplicate,k];refine aP λcW a36=> ?_;simp -dsimp -implicitDefEqProofs (disch:=first|omega|assumption|(simp only[aE,Nat.reduceAdd];try omega)) only[go_sem,simprocAttr,-List.reduceReplicate,k,a34];refine aP λdY k7=> ?_;have n3:cW≠dY:=by rintro rfl;rw[U.ah]at k7;cases k7
 have b02:V dY=none:=by rw[U.an _ _ (a4Q n3)]at k7;exact k7
 obtain⟨K,k8⟩: ∃K:U,K=(V.set cW (.cells [.ptr z 0,.v (.int .i64 (r:Int))])).set dY (.cells (ab F t u v)):=⟨_,rfl⟩;have k1:V.sub K:=by rw[k8];exact U.ae (U.ae U.a1 a36) b02
 have aM:K dY=some (.cells (ab F t u v)):=by rw[k8,U.ah]
 have aI:K cW=some (.cells [.ptr z 0,.v (.int .i64 (r:Int))]):=by rw[k8,U.an _ _ n3,U.ah]
 simp -dsimp -implicitDefEqProofs (disch:=first|omega|assumption|(simp only[aE,Nat.reduceAdd];try omega)) only[go_sem,simprocAttr,-List.reduceReplicate,k,a34,U.an,n3,U.ah,a30.t37,j,i];rw[<-k8];refine ai (xJ K z S E (g.mono k1) F t u v n2 a18 r n0 n1) ?_;rintro k0 n4 ⟨k9,l0⟩;obtain⟨a38,o⟩: ∃a38,a38=gw r p (T+1) E F:=⟨_,rfl⟩;rw[<-o];rw[gw]at o;cases n5:iH E r F with
 |none=>rw[n5]at l0 o;obtain rfl:=l0;simp only at o;subst o;simp -dsimp -implicitDefEqProofs (disch:=first|omega|assumption|(simp only[aE,Nat.reduceAdd];try omega)) only[go_sem,simprocAttr,-List.reduceReplicate,k,H,I];refine aP λM N=> ?_;simp -dsimp -implicitDefEqProofs (disch:=first|omega|assumption|(simp only[aE,Nat.reduceAdd];try omega)) only[go_sem,simprocAttr,-List.reduceReplicate,k,H,I,P,U.set_set];have a42:=U.aq (U.aq k1 k9) (U.ae (Y:= .cells [.v (.int .u8 0),.J [] .nil,.J [] .nil]) U.a1 N);exact⟨_,U.a1,g.mono a42,Ext.of a42,a9t,rfl⟩
 |some a=>
  rw[n5]at l0 o;simp only at o;obtain⟨G,x,rfl,b03⟩:=l0;obtain⟨a43,b04⟩:=sK n5;simp -dsimp -implicitDefEqProofs (disch:=first|omega|assumption|(simp only[aE,Nat.reduceAdd];try omega)) only[go_sem,simprocAttr,-List.reduceReplicate,k,H,I];refine aP λM N=> ?_;obtain⟨C,l1⟩: ∃C:U,C=n4.set M (.cells [.v (.int .u8 (a.kind.toNat:Int)),G,x]):=⟨_,rfl⟩;have n9:n4.sub C:=by rw[l1];exact U.ae U.a1 N
  have bu:C M=some (.cells [.v (.int .u8 (a.kind.toNat:Int)),G,x]):=by rw[l1,U.ah]
  have a47:=iF a.kind 2 a9p;simp only[a7P]at a47;rw[show UInt8.ofNat 2=2 from rfl]at a47;simp -dsimp -implicitDefEqProofs (disch:=first|omega|assumption|(simp only[aE,Nat.reduceAdd];try omega)) only[go_sem,simprocAttr,-List.reduceReplicate,k,H,I,P,U.set_set,U.ah,b01];rw[U.set_set,<-l1];obtain⟨b05,l2,D,a00,l3,a48,l,b06,b07⟩:=b03;have b08:fB n4 a G x l2 D:=⟨a48,l,(bS.dV a00 a9p rfl (a48.cells λ_ _=>dh.cells)).mono l3.1,bS.dV l3 a9p rfl (l.cells λ_ _=>bs.cells),b06,b07⟩;have k2:=b08.mono n9;have a52:=(g.mono (U.aq k1 k9)).cG N;have a56:=g.cG a36;have l4:=U.aq k1 (U.aq k9 n9);have a57:C cW=some (.cells [.ptr z 0,.v (.int .i64 (r:Int))]):=n9 _ _ (k9 _ _ aI);have a61:=g.mono l4;by_cases O:a.kind=2
  .rw[if_pos O]at o;have a01:((a.kind.toNat:Int)=2)=True:=by rw[O];simp
   simp -dsimp -implicitDefEqProofs (disch:=first|omega|assumption|(simp only[aE,Nat.reduceAdd];try omega)) only[go_sem,simprocAttr,-List.reduceReplicate,k,H,I,P,U.af bu,a01,W];refine ai (xI a l2 D G x C k2) ?_;rintro h m ⟨b09,a62,w⟩;have b10:=bS.dV w a9p rfl (a62.cells λ_ _=>isRow.cells);simp -dsimp -implicitDefEqProofs (disch:=first|omega|assumption|(simp only[aE,Nat.reduceAdd];try omega)) only[go_sem,simprocAttr,-List.reduceReplicate,k];have b61:(a.rows.map Prod.fst).length=a.rows.length:=a4T _;obtain⟨b11,b12,_,_⟩:=a43.leaf O;generalize b13:a.rows.map Prod.fst=k3 at*;refine ai (DH k3 b09 h p L m a62 b10 a9p) ?_;rintro _ m ⟨rfl,b62,rfl⟩;have b14:=w.1 _ _ bu;have a02:=w.1 _ _ a57;generalize eY k3 p=b at*;cases a63:kE k3 p with
   |true=>rw[if_pos a63]at o;subst o;simp -dsimp -implicitDefEqProofs (disch:=first|omega|assumption|(simp only[aE,Nat.reduceAdd];try omega)) only[go_sem,simprocAttr,-List.reduceReplicate,k];exact⟨_,U.a1,a61.mono w.1,Ext.of (U.aq l4 w.1),a9t,rfl⟩
   |false=>
    rw[if_neg (by simp[a63])]at o;have b15:nV 1 U.emp [R.J (ad p) L] (bO (λ_ _=>True) ())=True:=eq_true (eS (by simp[aN,R.cells]) a9q λ_ _=>trivial);simp -dsimp -implicitDefEqProofs (disch:=first|omega|assumption|(simp only[aE,Nat.reduceAdd];try omega)) only[go_sem,simprocAttr,-List.reduceReplicate,k,U.af b14,U.af a02,P,i,j,W,b15,rS];refine ai (xI a l2 D G x m (k2.mono w.1)) ?_;rintro a4 b63 ⟨a03,k4,k5⟩;have b16:=k5.1 _ _ a02;simp -dsimp -implicitDefEqProofs (disch:=first|omega|assumption|(simp only[aE,Nat.reduceAdd];try omega)) only[go_sem,simprocAttr,-List.reduceReplicate,k,U.af b16,P,i,j,W];rw[b13]at k4;refine eS (by simp[aN,R.cells]) a9q λa04 a65=> ?_;have b17:flat [R.J (ad p) L]= [R.J (ad p) L]:=rfl;rw[b17,a6e];have e:=ar.new (ob:= .cells [R.J (ad p) L]) k5 a65;have b18:=U.bF k5.1 a65;rw[ni k4]at e;obtain⟨y,n⟩: ∃y:U,y=m.set a04 (.cells [R.J (ad p) L]):=⟨_,rfl⟩;have a68:m.sub y:=by rw[n];exact U.ae U.a1 b18
    have b19:y a04=some (.cells [R.J (ad p) L]):=by rw[n,U.ah]
    rw[<-n]at e;have b64:=k4.len;have l5:=a68 _ _ a02;have a05:=e.1 _ _ l5;simp -dsimp -implicitDefEqProofs (disch:=first|omega|assumption|(simp only[aE,Nat.reduceAdd];try omega)) only[go_sem,simprocAttr,-List.reduceReplicate,k,U.af a05,P,i,j,W];refine ai (YF y _ a03 a4 e (by grind) b a9p a9p _ a04 b19) ?_;intro dw a06 A;have b20:=A.1 _ _ l5;have l6:az isRow (k3.take b++p::k3.drop b) (a03.take b++R.J (ad p) L::a03.drop b):=(k4.take b).append ⟨⟨L,rfl⟩,k4.drop b⟩;rw[<-ni l6]at A;simp -dsimp -implicitDefEqProofs (disch:=first|omega|assumption|(simp only[aE,Nat.reduceAdd];try omega)) only[go_sem,simprocAttr,-List.reduceReplicate,k,U.af b20,P,i,j,W];have a69:=U.aq l4 (U.aq w.1 a68);refine ai (DS y a06 z S E (g.mono a69) _ _ dw A r n0 n1 l6 a9r) ?_;intro k0 b21 B;rw[<-o]at B;obtain⟨b22,b23,rfl⟩:=B.shape;simp -dsimp -implicitDefEqProofs (disch:=first|omega|assumption|(simp only[aE,Nat.reduceAdd];try omega)) only[go_sem,simprocAttr,-List.reduceReplicate,k];exact⟨_,U.a1,fq.base B (Ext.of a69)⟩
  .have l5:=b04.resolve_left O;rw[if_neg O]at o;have a01: ¬(a.kind.toNat:Int)=2:=λf=>O (by simp_all);simp -dsimp -implicitDefEqProofs (disch:=first|omega|assumption|(simp only[aE,Nat.reduceAdd];try omega)) only[go_sem,simprocAttr,-List.reduceReplicate,k,H,I,P,U.af bu,a01,W];refine ai (DG a l2 D G x p L C k2) ?_;rintro _ C ⟨rfl,rfl⟩;obtain⟨b65,b11,b12,b24⟩:=a43.inner l5;have a07:hz p a<a.kids.length:=by grind[xP,List.length_map]
   generalize hz p a=b at*;have a08:a.kids[b]? =some a.kids[b]:=a4H a07;have a71:a.kids[b]'a07∈a.kids:=a5m _;rw[a08]at o;simp only at o;generalize a.kids[b]'a07=d at a08 a71 o;obtain⟨b66,b25,a73,b26,Q,X,Y,rfl⟩:=k2.kids.get a08;obtain⟨_,_,_,b67,b68⟩:=b24 d a71;obtain⟨q,l7⟩: ∃q:U,q=b05.set M (.cells [.v (.int .u8 (a.kind.toNat:Int)),G,x]):=⟨_,rfl⟩;have l8:=ar.new (ob:= .cells [.v (.int .u8 (a.kind.toNat:Int)),G,x]) l3 N;rw[<-l1,<-l7]at l8;have b27:=U.bF l3.1 N;have a74:=U.aq k1 a00.1;have a81:V.sub q:=by rw[l7];exact U.ae a74 (U.bF a74 b27)
   have b28:q M=some (.cells [.v (.int .u8 (a.kind.toNat:Int)),G,x]):=by rw[l7,U.ah]
   have a05:q cW=some (.cells [.ptr z 0,.v (.int .i64 (r:Int))]):=by
    have:cW≠M:=by grind
    rw[l7,U.an _ _ this];exact a00.1 _ _ aI
   have b29:dc q C z S E 37 (flat D) x:=dc.of l8 (g.mono a81) Ext.refl;obtain⟨b69,b30,a83⟩:=k2.gW.get b _ b25;have a84:=aX (N:=Q) (e5:=X) (h5:=Y) a73;have b31:(R.agg (ab d Q X Y)).cells=ab d Q X Y:=rfl;rw[b31]at a83;have a86:=a83.ld C U.a1 true 37 a9p (by rw[a84.len];omega);rw[show aY true 37 (ab d Q X Y)= .agg (ab d Q X Y) by rw[aY,if_pos rfl,a84.t37]]at a86;simp -dsimp -implicitDefEqProofs (disch:=first|omega|assumption|(simp only[aE,Nat.reduceAdd];try omega)) only[go_sem,simprocAttr,-List.reduceReplicate,k,U.af bu,U.af a57,P,i,j,W,a29,b30,a86];refine ai (ih C E d Q X Y a61 a73 b26 a9p a9p) ?_;intro k0 m a09;have a88:=λk6 Z f=>xQ r p T E k6 d Z f;generalize gw r p T E d=b32 at o a09 a88;obtain⟨res,k6⟩:=b32;cases res with
   |error b70=>obtain⟨l9,b33,a89,rfl⟩:=a09;simp only at o l9;subst o;simp -dsimp -implicitDefEqProofs (disch:=first|omega|assumption|(simp only[aE,Nat.reduceAdd];try omega)) only[go_sem,simprocAttr,-List.reduceReplicate,k,a89];exact⟨_,U.a1,l9,(Ext.of l4).trans b33,a89,rfl⟩
   |ok Z=>
    obtain⟨j9,b71,a10,rfl,⟨b72,a11,a13,a90⟩,_⟩:=a09;obtain⟨b73,b74⟩:=a88 k6 Z rfl;simp only at o a13;have b34:=a10.len;have b35:(flat j9).length=Z.length*37:=by rw[dg (a10.cells λ_ _=>bs.cells),b34]
    have b36:(flat D).length=a.kids.length*37:=by rw[dg (l.cells λ_ _=>bs.cells),l.len]
    obtain⟨s,a92,a94,a14,rfl,a95,b37,b38,b39,b40,b41,b42⟩:=ar.al a11 (by grind);have b43:Ext z S C m:=a90.trans (Ext.of a11.1);have l9:=a13.mono a11.1;obtain⟨b44,k5,b45,b46⟩:=b29.step b43 l9;have a15:=a13.cG a95;have b47:C s=none:=by
     cases b48:C s with
     |none=>rfl
     |some b75=>have:=a90 _ _ a15.1 a15.2 b48;rw[a95]at this;cases this
    have b49: ∀c a96 a97,x= .al c a96 a97 37->c≠s:=by
     rintro c a96 a97 rfl rfl;rcases l8.2 with ⟨_,f|f⟩|⟨b76,_,_,_,f,_,b77,_⟩
     .cases f
     .cases f
     simp_all
    obtain⟨y,n⟩: ∃y:U,y=b44.set s (.cells a14):=⟨_,rfl⟩;have e:=ar.add k5 b37 b49;rw[<-n]at e;have b50:y s=some (.cells a14):=by rw[n,U.ah]
    have b51:ar (λ_=>none) y 37 (flat j9) (.al s a92 a94 37):=⟨(λ_ _ f=>by cases f),.inr ⟨s,a92,a94,a14,rfl,rfl,b50,b38,b39,b40,b41,b42⟩⟩;have b52:bB y z S k6:=by rw[n];exact b45.set a15
    have b53:q s=none:=U.bF l8.1 b47;have a16:Ext z S q y:=by rw[n];exact b46.set b53
    have b54:=a16 _ _ a52.1 a52.2 b28;have a98:=a16 _ _ a56.1 a56.2 a05;have b55:=e.1 _ _ b54;have b56:=e.1 _ _ a98;simp -dsimp -implicitDefEqProofs (disch:=first|omega|assumption|(simp only[aE,Nat.reduceAdd];try omega)) only[go_sem,simprocAttr,-List.reduceReplicate,k,U.af b55,U.af b56,P,i,j,W,a29];refine ai (DR _ y m (flat D) (flat j9) x _ a.kids.length Z.length b (b+1) _ rfl e b36 b51 b35 a9p a9p a9p a9p a9p) ?_;intro dw a06 A;have b57:=A.1 _ _ a98;have b58:(flat D).take (b*37)++(flat j9++(flat D).drop ((b+1)*37))=flat (D.take b++(j9++D.drop (b+1))):=by rw[(fZ b (l.cells λ_ _=>bs.cells)).2,(fZ (b+1) (l.cells λ_ _=>bs.cells)).1];simp[flat]
    rw[b58]at A;have l6:az bs (a.kids.take b++(Z++a.kids.drop (b+1))) (D.take b++(j9++D.drop (b+1))):=(l.take b).append (a10.append (l.drop (b+1)));simp -dsimp -implicitDefEqProofs (disch:=first|omega|assumption|(simp only[aE,Nat.reduceAdd];try omega)) only[go_sem,simprocAttr,-List.reduceReplicate,k,U.af b57,P,i,j,W];refine ai (DT y a06 z S k6 b52 _ _ dw A r n0 n1 l6 a9r) ?_;intro k0 b21 B;rw[<-o]at B;obtain⟨b22,b23,rfl⟩:=B.shape;simp -dsimp -implicitDefEqProofs (disch:=first|omega|assumption|(simp only[aE,Nat.reduceAdd];try omega)) only[go_sem,simprocAttr,-List.reduceReplicate,k];exact⟨_,U.a1,fq.base B ((Ext.of a81).trans a16)⟩
def iI (a:Nat) (d:List Int) (h:ag) (b:ay):Except Int ay×ag:=
 if b=aA then du h a (dG [d])
 else match gw a d (b.size.toNat+1) h b with
  |(.error k,c)=>(.error k,c)
  |(.ok bI,c)=>ia a (bI.length+1) c bI
variable{g A e1:List R}{N e5 h5:Own}
def qJ.lt (a:qJ w N e5 h5 g):g.length=37/\g.take 37=g:=⟨a.len,a.t37⟩
def YO (C:U) (d h:Nat) (x:ag) (W:bB C d h x) (b:ay) (G L P:Own) (n:b.sum.length=32) (M:b.cE) (c:List Int) (S:Own) (a:Nat) (q:1<=a) (s:a<=8) (a04:c.length=a):
  AC Tryz.prog 85 [.ptr d 0,.agg (ab b G L P),.J (ad c) S,.v (.int .i64 (a:Int))] C λk N=>bB N d h (iI a c x b).2/\Ext d h C N/\hc (iI a c x b).1 k:=by
 have a05:=(aX (N:=G) (e5:=L) (h5:=P) n).lt;have a06:=(aX (N:= .nil) (e5:= .nil) (h5:= .nil) bk).lt;have a07:=cr;have t:=λO (Q X Y:Own) u=>cF (a:= .nil) (b:= .nil) (c:= .nil) (w:=O) (N:=Q) (e5:=X) (h5:=Y) bk u;have a08:=t aA .nil .nil .nil bk;generalize l0:ab aA .nil .nil .nil=v at*;obtain⟨Z,p⟩: ∃Z,iI a c x b=Z:=⟨_,rfl⟩;rw[p];unfold iI at p;have a09:qN (a:Int) [c]=true:=by simp[qN];omega
 have j9:az isRow [c] [R.J (ad c) S]:=⟨⟨S,rfl⟩,trivial⟩;have k0:aN 1 [R.J (ad c) S]:=by simp[aN,R.cells]
 refine aO hm LL ?_;refine bq λgR l1=> ?_;refine da λT w _ _=> ?_;refine u1 λl2 l3 _ _ _ _=> ?_;generalize e:((C.set gR _).set T _).set l2 _=D;have k1:C.sub D:=by subst e;exact aU
 have bo:D gR=some (.cells (ab b G L P)):=by subst e;exact aU
 have bu:D T=some (.cells v):=by subst e;exact aU
 clear e;have E:=W.cG w;have a10:= @U.set_set;refine lX (DD a [c] _ _ D j9 (bS.J k0) a9q) ?_;refine bq λk2 f=> ?_;have a11:=U.gY f bo;obtain⟨y,A⟩: ∃y,D.set k2 (.cells [.ptr d 0,.v (.int .i64 (a:Int))])=y:=⟨_,rfl⟩;have g:D.sub y:=by rw[<-A];exact U.ae U.a1 f
 have ct:y k2=some (.cells [.ptr d 0,.v (.int .i64 (a:Int))]):=by rw[<-A,U.ah]
 have l4:=U.af ct;have a13:=rd g bo;have i:=U.aq k1 g;have k3:=W.cG (U.bF k1 f);have k4: ∀(z:ag) (r:U) (res:Except Int ay) (k:R),bB r d h z->Ext d h y r->hc res k-> ∃o F,o.length=37/\o.take 37=o/\putAt v 0 o=o/\k= .aL [.agg o,.v (.int .i64 F)]/\eo r T=some v/\bB (r.set T (.cells o)) d h z/\Ext d h C (r.set T (.cells o)):=by intro z r res k j k5 l5;obtain⟨O,Q,X,Y,F,B,rfl⟩:=l5.shape;exact⟨_,F,(aX B).len,(aX B).t37,t _ _ _ _ B,rfl,U.aJ (k5 _ _ E.1 E.2 (g _ _ bu)),j.set E,((Ext.of i).trans k5).set w⟩
 refine lX (ng b G L P y n M) ?_;clear l1 f l3 A t;refine aH (λH=> ?_) λH=> ?_
 .rw[if_pos H]at p;refine jM λa14 l6=> ?_;have j:=U.ae (Y:= .buf 1 1 1) (U.a1 (f:=y)) l6;refine cl (xH _ d h x (W.mono (U.aq i j)) [c] _ _ a q s j9 (bS.J k0) a9q) ?_;rintro k r ⟨l,m,V⟩;rw[p]at l V;obtain⟨o,F,l7,l8,l9,rfl,n0,I,sL⟩:=k4 _ r _ k l ((Ext.of j).trans m) V;refine aa ?_;exact⟨_,U.a1,I,sL⟩
 rw[if_neg H]at p;refine cl (YN d h c S a q s (b.size.toNat+1) y x b G L P (W.mono i) n M a9p a9p) ?_;intro k r K;have k6:=λz n1 u=>xQ a c (b.size.toNat+1) x z b n1 u;generalize gw a c (b.size.toNat+1) x b=n2 at K k6 p;obtain⟨res,z⟩:=n2;cases res with
 |error F=>obtain⟨l,m,n3,rfl⟩:=K;subst p;have a15:=U.aJ (m _ _ E.1 E.2 (g _ _ bu));refine aa ?_;exact⟨_,U.a1,l.set E,((Ext.of i).trans m).set w,n3,by rw[l0]⟩
 |ok bI=>
  obtain⟨n4,a16,k7,rfl,k8,_⟩:=K;obtain⟨_,a18⟩:=k6 z bI rfl;have l4:=U.af (k8.ext _ _ k3.1 k3.2 ct);obtain⟨n5,n9,a00,a01⟩:=k8.ur k7;refine cl (AC.nm (g:= [_]) n9 (YD n5 d h z a00 bI n4 .any a q s k7 a9p)) ?_;rintro k a02 ⟨k9,a03,V⟩
  dsimp only at p
  rw[p]at k9 V;obtain⟨o,F,l7,l8,l9,rfl,n0,I,sL⟩:=k4 _ a02 _ k k9 (a01.trans a03) V;refine aa ?_;exact⟨_,U.a1,I,sL⟩
end Go.Proofs.YtlgnfcaolejgeaaGreat
namespace Go.bA
open Go
variable{n b3:R}{f t e7:U}{g A e1:List R}{e i v M c0 j0:Nat}
theorem ar.emp (b:ar e7 f e g n) (k: ∀a c d,n= .al a c d e->t a=f a):ar (λ_=>none) t e g n:=by
 refine⟨(λ_ _ b=>by cases b),?_⟩;rcases b.2 with h|⟨a,c,d,o,rfl,p,r,x⟩
 .exact .inl h
 grind
theorem ar.put {a:R} (h:ar t f e (flat g) (.al v M c0 e)) (z:0<e) (d:aN e g) (C:g[i]? =some n) (o:a.cells.length=e):
  ∃b,f v=some (.cells b)/\i*e+e<=b.length/\M=g.length/\ar t (f.set v (.cells (putAt b (i*e) a.cells))) e (flat (g.set i a)) (.al v M c0 e):=by
 obtain⟨D,c⟩:=h;rcases c with ⟨_,c|c⟩|⟨l,m,q,b,p,r,E,F,G,L,x,P⟩
 .cases c
 .cases c
 simp only[R.al.injEq,true_and,and_true]at p;obtain⟨rfl,rfl,rfl⟩:=p;have y:=(a4P.1 C).1;have S:=dg d;have T:M=g.length:=a7m z (by rw[<-L,S]);subst T;have s:i*e+e<=g.length*e:=by rw[<-a9j];exact a4Y _ y
 have u:g.length*e<=c0*e:=a4Y _ x;refine⟨b,E,a9p,rfl,U.ae D r,.inr ⟨v,g.length,c0,_,rfl,r,U.ah _ _ _,by rw[eJ _ _ _ a9p];exact F,?_,?_,x,P⟩⟩
 .have k:g.set i a=g.take i++a::g.drop (i+1):=by rw[a6b,if_pos y]
  have V:flat (g.take i++a::g.drop (i+1))=(flat g).take (i*e)++a.cells++(flat g).drop ((i+1)*e):=by rw[(fZ i d).2,(fZ (i+1) d).1];simp[flat]
  rw[k,V,putAt,o,<-G];have w:(b.take (i*e)++a.cells).length=i*e+e:=by grind
  grind[List.take_append,List.take_of_length_le,Nat.min_eq_left,List.drop_take,Nat.succ_mul]
 .have W:aN e (g.set i a):=λk j=>by
   rcases a6W j with h|rfl
   .exact d k h
   .exact o
  rw[dg W,a7k]
end Go.bA
namespace Go.Proofs.YtlgnfcaolejgeaaGreat
open Go Go.bA
structure ib where
 leaf:Bool
 rows:List (List Int)
 kids:List ay
structure iJ (a:U) (x:ib) (d h:R) (b c:List R):Prop where
 r:az isRow x.rows b
 k:az bs x.kids c
 ax:bS a 1 d b
 ux:bS a 37 h c
 ow:jR a 1 d x.rows.length b
 jS:jR a 37 h x.kids.length (flat c)
 kB:x.rows.length<=1000
 iB:x.kids.length<=1000
def iJ.mono {c d:U}{h:ib}{k o:R}{p r:List R} (a:iJ c h k o p r) (b:c.sub d):iJ d h k o p r:=⟨a.r,a.k,a.ax.mono b,a.ux.mono b,a.ow.mono b,a.jS.mono b,a.kB,a.iB⟩
variable{n b3:R}{f t e7:U}{g A e1:List R}
theorem iJ.of {s:U}{a:ib} (b:az isRow a.rows g) (c:az bs a.kids A) (d:ar f s 1 (flat g) n) (h:ar t s 37 (flat A) b3) (o:a.rows.length<=1000) (p:a.kids.length<=1000):iJ s a n b3 g A:=by obtain⟨r,x,k⟩:=d.ax a9p;obtain⟨y,z,C⟩:=h.ax a9p;rw[ni b]at x k;rw[dg (c.cells λ_ _=>bs.cells)]at z;have:=b.len;have:=c.len;obtain rfl:r=a.rows.length:=a9p;obtain rfl:y=a.kids.length:=a9p;exact⟨b,c,bS.dV d a9p rfl (b.cells λ_ _=>isRow.cells),bS.dV h a9p rfl (c.cells λ_ _=>bs.cells),k,C,o,p⟩
def fO (a:c4):ib:=⟨decide (a.kind=2),a.rows.map Prod.fst,a.kids⟩
def kF (b:ag) (c:Nat) (a d:ib):Except Int (List ay)×ag:=if a.leaf=true then nk b c (a.rows++d.rows)else jh b c (a.kids++d.kids)
theorem YP (d:U) (r T:Nat) (V:ag) (B:bB d r T V) (a b:ib) (W e D f g:R) (H I K M:List R) (k:iJ d a W e H I) (o:iJ d b f g K M) (k5:D.cells= [D]) (p:Nat) (N:1<=p) (O:p<=8):
  AC Tryz.prog 313 [dX r p,.agg [.v (.bool a.leaf),W,e],.agg [D,f,g]] d λs k0=>fq d k0 r T (kF V p a b) s:=by
 refine bf hm RP a9q ?_;have c: ∀Q,(R.agg Q).cells=Q:=λ_=>rfl;have i: ∀a b:R,List.take 2 [a,b]= [a,b]:=λ_ _=>rfl;have j: ∀a b,aY true 2 [a,b]= .agg [a,b]:=λ_ _=>rfl;have X: ∀a b z:R,aY false 1 [a,b,z]=a:=λ_ _ _=>rfl;have Y: ∀a b z:R,aY false 1 ([a,b,z].drop 1)=b:=λ_ _ _=>rfl;have Z: ∀a b z:R,aY false 1 ([a,b,z].drop 2)=z:=λ_ _ _=>rfl;refine ax @c ?_;refine aP λcW k6=> ?_;refine ax @c ?_;refine aP λdY l=> ?_;have E:cW≠dY:=by rintro rfl;rw[U.ah]at l;cases l
 have k7:d dY=none:=by rw[U.an _ _ (a4Q E)]at l;exact l
 refine ax @c ?_;refine aP λgR m=> ?_;have t:dY≠gR:=by rintro rfl;rw[U.ah]at m;cases m
 have u:cW≠gR:=by rintro rfl;rw[U.an _ _ E,U.ah]at m;cases m
 have k8:d gR=none:=by simp_all [U.an,a4Q]
 obtain⟨C,x⟩: ∃C:U,C=((d.set cW (.cells [.ptr r 0,.v (.int .i64 (p:Int))])).set dY (.cells [.v (.bool a.leaf),W,e])).set gR (.cells [D,f,g]):=⟨_,rfl⟩;have j9:d.sub C:=by grind[U.ae,U.a1]
 have aI:C cW=some (.cells [.ptr r 0,.v (.int .i64 (p:Int))]):=by rw[x,U.an _ _ u,U.an _ _ E,U.ah]
 have aM:C dY=some (.cells [.v (.bool a.leaf),W,e]):=by rw[x,U.an _ _ t,U.ah]
 have bo:C gR=some (.cells [D,f,g]):=by rw[x,U.ah]
 unfold kF;have k9:=k.kB;have l0:=o.kB;have l1:=k.iB;have l2:=o.iB;cases n:a.leaf with
 |true=>rw[n]at aM x;refine ax (ct @c @U.an @E @u @t @U.ah @X @Y @Z @n) ?_;rw[<-x];refine cI U.a1 (by intro k1 F;simp only[a5i,a6n,or_false]at F;rcases F with rfl|rfl;(·rw[k.ow.one];rfl);(·rw[o.ow.one];rfl)) λv G L=> ?_;have h:=U.aq j9 L.sub;have P:=L.sub _ _ aI;simp -dsimp -implicitDefEqProofs (disch:=first|omega|assumption|(simp only[aE,Nat.reduceAdd];try omega)) only[go_sem,simprocAttr,-List.reduceReplicate,c,U.af P,j,i];refine ai (YI G _ _ v _ _ _ _ (k.ow.mono h) (o.ow.mono h) a9p a9p) ?_;intro dw w y;have A:=y.1 _ _ P;have q:az isRow (a.rows++b.rows) (H++K):=k.r.append o.r;rw[<-ni q]at y;simp -dsimp -implicitDefEqProofs (disch:=first|omega|assumption|(simp only[aE,Nat.reduceAdd];try omega)) only[go_sem,simprocAttr,-List.reduceReplicate,c,U.af A,j,i];refine ai (DS G w r T V (B.mono h) _ _ dw y p N O q (by rw[a4J];omega)) ?_;intro s k2 S;obtain⟨k3,k4,rfl⟩:=S.shape;refine ax @c ?_;exact⟨_,U.a1,fq.base S (Ext.of h)⟩
 |false=>rw[n]at aM x;refine ax (ct @c @U.an @E @u @t @U.ah @X @Y @Z @n) ?_;rw[<-x];refine cI U.a1 (by intro k1 F;simp only[a5i,a6n,or_false]at F;rcases F with rfl|rfl;(·rw[k.jS.one];rfl);(·rw[o.jS.one];rfl)) λv G L=> ?_;have h:=U.aq j9 L.sub;have P:=L.sub _ _ aI;simp -dsimp -implicitDefEqProofs (disch:=first|omega|assumption|(simp only[aE,Nat.reduceAdd];try omega)) only[go_sem,simprocAttr,-List.reduceReplicate,c,U.af P,j,i];refine ai (YK G _ _ v _ _ _ _ (k.jS.mono h) (o.jS.mono h) a9p a9p) ?_;intro dw w y;have A:=y.1 _ _ P;have q:az bs (a.kids++b.kids) (I++M):=k.k.append o.k;rw[<-oV]at y;simp -dsimp -implicitDefEqProofs (disch:=first|omega|assumption|(simp only[aE,Nat.reduceAdd];try omega)) only[go_sem,simprocAttr,-List.reduceReplicate,c,U.af A,j,i];refine ai (DT G w r T V (B.mono h) _ _ dw y p N O q (by rw[a4J];omega)) ?_;intro s k2 S;obtain⟨k3,k4,rfl⟩:=S.shape;refine ax @c ?_;exact⟨_,U.a1,fq.base S (Ext.of h)⟩
def jT (d:ag) (k:Nat) (h:List ay) (a:Nat) (b:ib):Except Int (List ay)×ag:=
 if 2<=b.rows.length+b.kids.length then
  match mg d k b.leaf b.rows b.kids with
  |(.error o,c)=>(.error o,c)
  |(.ok r,c)=>(.ok (h.set a r),c)
 else match h[if a=0 then 1 else a - 1]? with
  |none=>(.error 21,d)
  |some x=>match iH d k x with
   |none=>(.error 21,d)
   |some p=>match kF d k (if a=0 then b else fO p) (if a=0 then fO p else b)with
    |(.error o,c)=>(.error o,c)
    |(.ok y,c)=>(.ok (h.take (a - 1)++(y++h.drop (a - 1+2))),c)
def YQ (k b:U) (c d:Nat) (h:Except Int (List ay)×ag) (o:R):Prop:=
 match h.1 with
 | .error p=>bB b c d h.2/\Ext c d k b/\p≠0/\ ∃a,o= .aL [a,.v (.int .i64 p)]/\a.cells= [a]
 | .ok bI=> ∃r a,az bs bI r/\o= .aL [a,.v (.int .i64 0)]/\dc k b c d h.2 37 (flat r) a
theorem az.set {c:Type}{d:c->R->Prop}: ∀ {k:List c}{o:List R}{p:c}{r:R} (b:Nat),az d k o->d p r->az d (k.set b p) (o.set b r)
 | [],[],_,_,_,a,_=>a
 | _:: _,_:: _,_,_,0,a,h=>⟨h,a.2⟩
 | _:: _,_:: _,_,_,b+1,a,h=>⟨a.1,az.set b a.2 h⟩
variable{e i v M c0 j0:Nat}{H:ag}
theorem DV {h:ag}{b c:ib}{d:List ay} (a:kF H e b c=(.ok d,h)) (o:b.rows.length<=1000/\c.rows.length<=1000/\b.kids.length<=1000/\c.kids.length<=1000):d.length<=501:=by
 unfold kF at a;split at a
 .rename_i k;have:=qO a;rw[this];simp only[a4R,a5e,a6.chunks,(nj).1,a6.bU,a4J];omega
 .rename_i k;have:=qO a;rw[this];simp only[a4R,a5e,a6.chunks,(nj).1,a6.bU,a4J];omega
def bs.c {a:List ay} (b:az bs a g):aN 37 g:=b.cells λ_ _=>bs.cells
def Ext.no (b:Ext i v f t) (a:e≠i/\e≠v) (c:t e=none):f e=none:=by
 cases d:f e with
 |none=>rfl
 |some h=>have:=b _ _ a.1 a.2 d;rw[c]at this;cases this
theorem YR (V C r:U) (D E:Nat) (M W:ag) (h k:List ay) (c:List R) (x e:Nat) (F:R) (G:dc V C D E M 37 (flat c) (.al x h.length e 37)) (d:az bs h c) (N:fq C r D E (.ok k,W) (.aL [F,.v (.int .i64 0)])) (b a:Nat) (y:Int) (f:y=(a:Int)) (g:b<a) (i:a<=h.length) (l3:h.length<=1000) (l4:k.length<=501):
  AC Tryz.prog 242 [.al x h.length e 37,.v (.int .i64 (b:Int)),.v (.int .i64 y),F] r λO Q=> ∃j,az bs (h.take b++(k++h.drop a)) j/\dc V Q D E W 37 (flat j) O:=by
 obtain⟨o,F,L,P,⟨l5,S,l,m⟩,X⟩:=N;simp only[R.aL.injEq,a7j,and_true]at P;subst P;have n:=d.len;have Y:=L.len;have q:(flat c).length=c.length*37:=dg (bs.c d);have Z:(flat o).length=k.length*37:=by rw[dg (bs.c L),Y]
 have j9: ∃s,C x=some (.cells s):=by obtain⟨_,k0,_⟩:=G;obtain⟨_,_,_,s,P,_,t,_⟩:=k0.al (by grind);simp_all
 obtain⟨k1,u,v,w⟩:=G.step (m.trans (Ext.of S.1)) (l.mono S.1);by_cases A:k= []
 .subst A;obtain rfl:=X rfl;refine(YG _ r (flat c) _ h.length b a y f u (by rw[q,n]) g i a9p).mono λdw k2 p=> ?_;rw[(fZ b (bs.c d)).2,(fZ a (bs.c d)).1,<-oV]at p;exact⟨_,(d.take b).append (d.drop a),_,p,v,w⟩
 have l6:0<k.length:=a5S.2 A;obtain⟨z,B,H,I,rfl,K,k3,k4,k5,k6,k7,k8⟩:=ar.al S (by grind);have T:=l.cG K;have k9:=m.no T K;obtain⟨l7,l8⟩:=j9;have l9:x≠z:=by grind
 have l0:=ar.add u k3 (by simp_all);have l1:ar (λ_=>none) (k1.set z (.cells I)) 37 (flat o) (.al z B H 37):=⟨(λ_ _ t=>by cases t),.inr ⟨z,B,H,I,rfl,rfl,U.ah _ _ _,k4,k5,k6,k7,k8⟩⟩;refine(DR _ _ r (flat c) (flat o) _ _ h.length k.length b a y f l0 (by rw[q,n]) l1 Z a9p g i a9p a9p).mono λdw k2 p=> ?_;have l2:(flat c).take (b*37)++(flat o++(flat c).drop (a*37))=flat (c.take b++(o++c.drop a)):=by rw[(fZ b (bs.c d)).2,(fZ a (bs.c d)).1];simp[flat]
 rw[l2]at p;exact⟨_,(d.take b).append (L.append (d.drop a)),_,p,v.set T,w.set (G.ext.no T k9)⟩
theorem YS (g q:U) (o L:Nat) (p:ag) (k9:bB g o L p) (r:List ay) (T:List R) (a15:R) (l0:ar g q 37 (flat T) a15) (V:az bs r T) (b:ib) (E F:R) (a16 a18:List R) (W:iJ q b E F a16 a18) (b40:2<=r.length) (a92:r.length<=1000) (a:Nat) (b41:a<r.length) (d:Nat) (l1:1<=d) (l2:d<=8):
  AC Tryz.prog 250 [dX o d,a15,.v (.int .i64 (a:Int)),.agg [.v (.bool b.leaf),E,F]] q λs l3=>YQ g l3 o L (jT p d r a b) s:=by
 have b42:=V.len;have a94:=k9.mono l0.1;have b43:(flat T).length=T.length*37:=dg (bs.c V);obtain⟨N,a95,l4,b44,rfl,b45,b46,a19,a96,a97,t,b47⟩:=ar.al l0 (by grind);obtain rfl:a95=r.length:=a9p;have b48:=W.kB;have b49:=W.iB;have b50:=(aX (N:= .nil) (e5:= .nil) (h5:= .nil) bk).len;obtain⟨a27,h⟩: ∃a27,jT p d r a b=a27:=⟨_,rfl⟩;rw[h];rw[jT]at h;clear a19 a96 a97;refine aO hm Qy ?_;refine bq λdY a29=> ?_;refine da λa30 a34 _ _=> ?_;have O:=U.ae (Y:= .cells [.v (.bool b.leaf),E,F]) (U.ae (Y:= .cells [.ptr o 0,.v (.int .i64 (d:Int))]) (U.a1 (f:=q)) a29) a34;obtain⟨x,Q⟩: ∃x:U,(q.set dY (.cells [.ptr o 0,.v (.int .i64 (d:Int))])).set a30 (.cells [.v (.bool b.leaf),E,F])=x:=⟨_,rfl⟩;rw[Q]at O|-;have aM:x dY=some (.cells [.ptr o 0,.v (.int .i64 (d:Int))]):=by rw[<-Q,U.an _ _ a9s,U.ah]
 have cc:x a30=some (.cells [.v (.bool b.leaf),E,F]):=by rw[<-Q,U.ah]
 have a98:=U.af aM;have a99:=U.af cc;clear Q a29 a34;have l5:=ar.mono l0 O;have a36:dc g x o L p 37 (flat T) (.al N r.length l4 37):=dc.of l5 k9 Ext.refl;have u:=W.mono O;have l6:=a94.mono O;refine lX (Yx (.v (.bool b.leaf)) E F _ _ W.ow.one W.jS.one rfl W.ow.len W.jS.len a9p a9p x) ?_;refine aH (λa38=> ?_) λa38=> ?_
 .rw[if_pos a9p]at h;refine cl (DF x o L p l6 b.leaf b.rows a16 E b.kids a18 F d l1 l2 u.r u.ax a9p u.k u.ux a9p) ?_;rintro s l7 ⟨a42,b00,X⟩;generalize mg p d b.leaf b.rows b.kids=l8 at*;obtain⟨res,w⟩:=l8
  dsimp only at a42 X
  obtain⟨Y,y,z,C,b01,l9,rfl⟩:=X.shape;have b02:=(aX (N:=y) (e5:=z) (h5:=C) l9).len;have b51:=(aX (N:=y) (e5:=z) (h5:=C) l9).t37;have b52:putAt (ab aA .nil .nil .nil) 0 (ab Y y z C)=ab Y y z C:=cF bk l9;have b53:=cr;generalize ab aA .nil .nil .nil=b54 at*;refine aa ?_;refine bq λb55 b03=> ?_;obtain⟨b04,b05,a43,a47⟩:=dc.mono (a36.step b00 a42) (U.ae (Y:= .cells (ab Y y z C)) U.a1 b03);obtain⟨b56,b06,b57,-,n0⟩:=ar.put (i:=a) (a:= .agg (ab Y y z C)) b05 a9p (bs.c V) (a4H (show a<T.length by omega)) b02;have b58:cR 37 (.al N r.length l4 37) (.v (.int .i64 (a:Int)))=some (.ptr N (a*37)):=by simp_all [iZ]
  have b59:=U.aJ b06;have b07:Ext o L g _:=a47.trans (Ext.of n0.1);refine aa ?_;refine⟨_,U.a1,?_⟩;subst h;cases res with
  |error b60=>obtain⟨n1,D⟩:=X;simp only[R.aL.injEq,a7j,R.v.injEq,Value.int.injEq,true_and,and_true]at D;obtain⟨_,rfl⟩:=D;exact⟨a43.mono n0.1,b07,n1,_,rfl,rfl⟩
  |ok b61=>obtain⟨b08,b09,b10,b11,b12,D⟩:=X;simp only[R.aL.injEq,a7j,R.v.injEq,Value.int.injEq,true_and,and_true,R.agg.injEq]at D;obtain⟨D,rfl⟩:=D;exact⟨_,_,az.set a V ⟨b08,b09,b10,b11,b12,by rw[D]⟩,rfl,⟨b04,n0,a43,a47⟩⟩
 rw[if_neg a9p]at h;have b62:max ((a:Int) - 1) 0=((a - 1:Nat):Int):=a9p;obtain⟨i,j⟩: ∃i,(if a=0 then 1 else a - 1)=i:=⟨_,rfl⟩;rw[j]at h;refine o5 [1,2,4,7,12] (λ_:Unit=> [(13,.v (.int .i64 (i:Int)))]) (λ_ l3=>l3=x) (λk=> ?_) (λk=> ?_) ?_
 .rw[if_pos (by have:=of_decide_eq_true k;omega)]at j;subst j;exact aU
 .rw[if_neg (by have:=of_decide_eq_false k;omega)]at j;subst j;exact aU
 rintro _ x rfl b13;have b14:i<r.length:=by rw[<-j];split<;>omega
 have n2:=a4H b14;rw[n2]at h
 dsimp only at h
 generalize r[i]=G at*;obtain⟨b63,a48,a52,b15,y,z,C,rfl⟩:=V.get n2;obtain⟨b16,b17,n3⟩:=(bS.dV l5 a9p rfl (bs.c V)).get i _ a48;have a56:=aX (N:=y) (e5:=z) (h5:=C) a52;change nf x b16 (ab G y z C)at n3;have a57:=n3.ld x U.a1 true 37 a9p (by rw[a56.len];omega);rw[show aY true 37 (ab G y z C)= .agg (ab G y z C) by rw[aY,if_pos rfl,a56.t37]]at a57;refine cl (xJ x o L p l6 G y z C a52 b15 d l1 l2) ?_;rintro s a61 ⟨a62,D⟩;cases n4:iH p d G with
 |none=>rw[n4]at D h;obtain rfl:=D;subst h;refine aa ?_;refine bq λn5 Z=> ?_;have a63:=λG=>U.aq l5.1 (U.aq a62 (U.ae (Y:=G) U.a1 Z));exact⟨_,U.a1,k9.mono (a63 _),Ext.of (a63 _),a9t,_,rfl,rfl⟩
 |some c=>
 rw[n4]at D h
 dsimp only at h
 obtain⟨A,e,rfl,b18⟩:=D;obtain⟨b19,b64⟩:=sK n4;obtain⟨b65,b66,b67⟩:=ll b19.ok;clear a57 b17 n3 a98 a99 a38 a48 n2;refine aa ?_;refine bq λn5 Z=> ?_;obtain⟨l,n9⟩: ∃l,a61.set n5 (.cells [.v (.int .u8 (c.kind.toNat:Int)),A,e])=l:=⟨_,rfl⟩;have a00:a61.sub l:=by rw[<-n9];exact U.ae U.a1 Z
 have fw:l n5=some (.cells [.v (.int .u8 (c.kind.toNat:Int)),A,e]):=by rw[<-n9,U.ah]
 have a01:=U.aq a62 a00;obtain⟨b68,a02,a03,b20,a04,a65,j9,b21,b22⟩:=b18;have a68:fB l c A e a02 a03:=fB.mono ⟨a65,j9,(bS.dV b20 a9p rfl (a65.cells λ_ _=>dh.cells)).mono a04.1,bS.dV a04 a9p rfl (bs.c j9),b21,b22⟩ a00;have t:=rd a01 cc;have b23:=U.af fw;have b69:= @rS;refine cl (xK c a02 a03 A e l a68) ?_;rintro _ k0 ⟨a69,b70,rfl,b24,a71⟩;clear n9 Z;have B:=a71.1;have H:=B _ _ (a01 _ _ cc);have t:=U.af H;refine aa ?_;refine bq λI a05=> ?_;have b71:=U.gY a05 H;refine da λK a06 _ _=> ?_;have b72:=U.gY a06 H;have b25:= @U.set_set;obtain⟨f,k1⟩: ∃f,(k0.set I (.cells [.v (.bool (decide (c.kind=2))),a69,e])).set K (.cells [.v (.bool b.leaf),E,F])=f:=⟨_,rfl⟩;have P:k0.sub f:=by rw[<-k1];exact U.ae (U.ae U.a1 a05) a06
 have p8:f I=some (.cells [.v (.bool (decide (c.kind=2))),a69,e]):=by rw[<-k1,U.an _ _ a9s,U.ah]
 have nZ:f K=some (.cells [.v (.bool b.leaf),E,F]):=by rw[<-k1,U.ah]
 have a73:=U.aq a01 B;have a74:=u.mono a73;have a81:=ar.mono a04 (U.aq a00 B);have k2:(fO c).rows.length<=1000/\(fO c).kids.length<=1000:=by simp[fO];omega
 refine aa ?_;clear b25 t;refine o5 [1,4,12,16,17] (λ_:Unit=> []) (λ_ S=>k0.sub S/\ ∃k3 k4 M k5 k6 a07 a08 a09 a10,S I=some (.cells [.v (.bool (if a=0 then b else fO c).leaf),k3,k4])/\S K=some (.cells [M,k5,k6])/\M.cells= [M]/\iJ S (if a=0 then b else fO c) k3 k4 a07 a08/\iJ S (if a=0 then fO c else b) k5 k6 a09 a10) (λk=> ?_) (λk=> ?_) ?_
 .have k:=of_decide_eq_true k;have k:a=0:=a9p;simp only[if_pos k];have t:=rd P H;have b23:=rd (U.aq B P) fw;refine cl (xK c a02 a03 A e f (a68.mono (U.aq B P))) ?_;rintro _ l7 ⟨b73,b74,rfl,b26,m⟩;have t:=rd m.1 (P _ _ H);have b75:=U.aJ (m.1 _ _ p8);have b76: ∀a83,eo (l7.set I a83) K=some [.v (.bool b.leaf),E,F]:=λa83=>U.aJ (by rw[U.an _ _ a9s];exact m.1 _ _ nZ);have k7: ∀G a84,k0.sub ((l7.set I G).set K a84):=λG a84 b77 v a11=>by
   rw[U.an _ _ (U.gY a06 a11),U.an _ _ (U.gY a05 a11)];exact m.1 _ _ (P _ _ a11)
  refine aa ?_;refine⟨(),_,_,_,_,_,_,_,_,_,rfl,rfl,rfl,a74.mono (k7 _ _),iJ.of (a:=fO c) b26 j9 (ar.emp m ?_) (ar.mono a81 (k7 _ _)) k2.1 k2.2⟩;rintro b27 b78 b79 rfl;have a86:f b27=none:=by
   rcases m.2 with ⟨_,n|n⟩|⟨b80,_,_,_,n,b81,_⟩
   .cases n
   .cases n
   simp_all
  rw[U.an _ _ (U.gY a86 nZ).symm,U.an _ _ (U.gY a86 p8).symm]
 .have k:=of_decide_eq_false k;have k: ¬a=0:=a9p;simp only[if_neg k];refine aa ?_;subst k1;exact⟨(),_,_,_,_,_,_,_,_,_,rfl,rfl,rfl,iJ.of (a:=fO c) b24 j9 (a71.mono P) (a81.mono P) k2.1 k2.2,a74.mono P⟩
 rintro _ S ⟨k7,k3,k4,M,k5,k6,a07,a08,a09,a10,p8,nZ,b28,b29,b30⟩ b13;have b31:(if a=0 then b else fO c).rows.length<=1000/\(if a=0 then fO c else b).rows.length<=1000/\(if a=0 then b else fO c).kids.length<=1000/\(if a=0 then fO c else b).kids.length<=1000:=by split<;>omega
 have b32:=λw k8 n=>DV (H:=p) (h:=w) (e:=d) (b:=if a=0 then b else fO c) (c:=if a=0 then fO c else b) (d:=k8) n b31;generalize (if a=0 then b else fO c)=a88 at*;generalize (if a=0 then fO c else b)=a89 at*;have a13:=U.aq a73 k7;have a19:=rd a13 aM;have b82:=U.af p8;have b83:=U.af nZ;refine cl (YP S o L p (l6.mono a13) a88 a89 k3 k4 M k5 k6 a07 a08 a09 a10 b29 b30 b28 d l1 l2) ?_;intro s b33 a14;generalize kF p d a88 a89=l8 at*;obtain⟨res,w⟩:=l8;have a90:=dc.mono a36 a13;cases res with
 |error b01=>obtain⟨b34,b35,n1,rfl⟩:=a14;subst h;refine aa ?_;exact⟨_,U.a1,b34,a90.ext.trans b35,n1,_,rfl,rfl⟩
 |ok k8=>obtain⟨_,a3,_,rfl,_⟩:=id a14;have b36:=b32 w k8 rfl;have b37:((a - 1:Nat):Int)+2=((a - 1+2:Nat):Int):=rfl;refine cl (YR g S b33 o L p w r k8 T N l4 a3 a90 V a14 (a - 1) (a - 1+2) _ b37 a9p a9p a92 b36) ?_;rintro s b84 ⟨b85,b38,b39⟩;subst h;refine aa ?_;exact⟨_,U.a1,_,_,b38,rfl,b39⟩
end Go.Proofs.YtlgnfcaolejgeaaGreat
set_option maxHeartbeats 1000000
namespace Go.bA
open Go
variable{n b3:R}{f t e7:U}{g A e1:List R}{e i v M c0 j0:Nat}
theorem ar.o6 (x:ar t f e g n): ∃d:U,ar d f e g n/\d.sub f/\t.sub d/\ ∀a,(∀b h k,n= .al b h k e->b≠a)->d a=f a:=by
 obtain⟨p,o⟩:=x;rcases o with o|⟨b,h,k,y,rfl,z,C,D⟩
 .exact⟨f,⟨U.a1,.inl o⟩,U.a1,p,λ_ _=>rfl⟩
 .have r:(f.del b).sub f:=λa E c=>by
   grind[U.ir,U.eI]
  refine⟨f.del b,⟨r,.inr ⟨b,h,k,y,rfl,U.ir _ _,C,D⟩⟩,r,λa E c=> ?_,λa c=>U.eI _ (a4Q (c _ _ _ rfl))⟩;have F:a≠b:=by rintro rfl;rw[z]at c;cases c
  rw[U.eI _ F];exact p _ _ c
theorem ar.own (c:ar f t i g (.al e v M i)):f e=none/\ ∃b,t e=some (.cells b):=by
 rcases c.2 with ⟨_,a|a⟩|⟨d,h,k,b,o,p,r,_⟩
 .cases a
 .cases a
 simp_all
end Go.bA
namespace Go.Proofs.YtlgnfcaolejgeaaGreat
open Go Go.bA
def ic (d:Nat) (c:List Int):Nat->ag->ay->Except Int ib×ag
  |0,b,_=>(.error 21,b)
  |p+1,b,r=>match iH b d r with
    |none=>(.error 21,b)
    |some a=>
      if a.kind=2 then
        (if kE (a.rows.map Prod.fst) c=true then(.ok ⟨true,(a.rows.map Prod.fst).take (eY (a.rows.map Prod.fst) c)++(a.rows.map Prod.fst).drop (eY (a.rows.map Prod.fst) c+1),a.kids⟩,b)
         else(.error 9,b))
      else match a.kids[hz c a]? with
        |none=>(.error 21,b)
        |some x=>match ic d c p b x with
          |(.error h,k)=>(.error h,k)
          |(.ok y,k)=>match jT k d a.kids (hz c a) y with
            |(.error h,o)=>(.error h,o)
            |(.ok bI,o)=>(.ok ⟨false,a.rows.map Prod.fst,bI⟩,o)
def YT (x c:U) (d h:Nat) (k:Except Int ib×ag) (o:R):Prop:=
 bB c d h k.2/\Ext d h x c/\match k.1 with
 | .error p=>p≠0/\ ∃y a b,o= .aL [.agg [y,a,b],.v (.int .i64 p)]
 | .ok r=> ∃a b z C,o= .aL [.agg [.v (.bool r.leaf),a,b],.v (.int .i64 0)]/\iJ c r a b z C
variable{e i v M c0 j0:Nat}{H:ag}
theorem YU {h:ag}{c d:List ay}{b:ib} (a:jT H e c i b=(.ok d,h)) (o:c.length<=4) (p:b.rows.length<=1000/\b.kids.length<=1000):d.length<=1000:=by
 unfold jT at a;split at a;grind
 .rename_i r;split at a
  .cases (a6z a).1
  .split at a
   .cases (a6z a).1
   .rename_i x k;obtain⟨y,z,C⟩:=ll (sK k).1.ok;grind[Prod.mk.inj,Except.ok.inj,DV,fO,List.length_append,List.length_take,List.length_drop]
theorem YV (z G:Nat) (P:List Int) (a43:Own) (L:Nat) (a98:1<=L) (a99:L<=8): ∀(m:Nat) (e:U) (f:ag) (g:ay) (n0 n1 n2:Own),bB e z G f->g.sum.length=32->g.cE->0<m->g.size<m->
  AC Tryz.prog 160 [dX z L,.agg (ab g n0 n1 n2),.J (ad P) a43] e λn3 b26=>YT e b26 z G (ic L P m f g) n3:=by
 intro m
 induction m with
 |zero=>intros;omega
 |succ m ih=>
 intro e f g n0 n1 n2 S b00 b27 b61 b62;have n4:=(aX (N:=n0) (e5:=n1) (h5:=n2) b00).lt;have b28:= @U.set_set;have b63:= @rS;obtain⟨b01,b⟩: ∃b01,ic L P (m+1) f g=b01:=⟨_,rfl⟩;rw[b];rw[ic]at b;refine aO hm NX ?_;refine bq λcW b02=> ?_;refine da λdY b29 _ _=> ?_;refine hp λei X _ _ _ _=> ?_;generalize w:((e.set cW _).set dY _).set ei _=n5;have n9:e.sub n5:=by subst w;exact aU
 have aI:n5 cW=some (.cells [.ptr z 0,.v (.int .i64 (L:Int))]):=by subst w;exact aU
 have bC:n5 ei=some (.cells [.v (.bool false),.J [] .nil,.J [] .nil]):=by subst w;exact aU
 clear w;have b03:=S.cG b02;have E:=S.cG X;refine cl (xJ n5 z G f (S.mono n9) g n0 n1 n2 b00 b27 L a98 a99) ?_;rintro n3 a47 ⟨a48,a00⟩;have k6:=a48 _ _ bC;have b04:=U.aq n9 a48;clear b02 b29;cases a52:iH f L g with
 |none=>rw[a52]at a00 b;obtain rfl:=a00;subst b;refine aa ?_;refine bq λa01 k7=> ?_;have b05:=λb30=>U.aq b04 (U.ae (Y:=b30) U.a1 k7);have b31:=U.gY k7 k6;have k8: ∀k,eo (a47.set a01 k) ei=some [.v (.bool false),.J [] .nil,.J [] .nil]:=λk=>U.aJ (by rw[U.an _ _ b31];exact k6);refine aa ?_;exact⟨_,U.a1,(S.mono (b05 _)).set E,(Ext.of (b05 _)).set X,a9t,_,_,_,rfl⟩
 |some o=>
  rw[a52]at a00 b
  dsimp only at b
  obtain⟨k9,r,rfl,b64,a56,A,l0,n,b06,Y,b32,b33⟩:=a00;obtain⟨b07,b34⟩:=sK a52;obtain⟨b65,b66,b67⟩:=ll b07.ok;refine aa ?_;refine bq λa01 k7=> ?_;obtain⟨Z,a57⟩: ∃Z,a47.set a01 (.cells [.v (.int .u8 (o.kind.toNat:Int)),k9,r])=Z:=⟨_,rfl⟩;have B:a47.sub Z:=by rw[<-a57];exact U.ae U.a1 k7
  have bu:Z a01=some (.cells [.v (.int .u8 (o.kind.toNat:Int)),k9,r]):=by rw[<-a57,U.ah]
  have b08:fB Z o k9 r a56 A:=fB.mono ⟨b06,Y,(bS.dV l0 a9p rfl (b06.cells λ_ _=>dh.cells)).mono n.1,bS.dV n a9p rfl (bs.c Y),b32,b33⟩ B;have a61:=U.af bu;refine cl (xK o a56 A k9 r Z b08) ?_;rintro _ b09 ⟨T,l1,rfl,q,H⟩;clear a57 k7 a61;refine aa ?_;refine bq λF l2=> ?_;obtain⟨C,a02⟩: ∃C,b09.set F (.cells [.v (.bool (decide (o.kind=2))),T,r])=C:=⟨_,rfl⟩;rw[b28,a02];have i:b09.sub C:=by rw[<-a02];exact U.ae U.a1 l2
  have ct:C F=some (.cells [.v (.bool (decide (o.kind=2))),T,r]):=by rw[<-a02,U.ah]
  clear a02;have I:=H.1;have a03:=U.aq b04 B;have j9:=U.aq a03 (U.aq I i);have a04:=U.aq B (U.aq I i);have a62:=U.bF (U.aq a03 I) l2;have W:=S.cG a62;have a05:=a04 _ _ k6;have a63:=a04 _ _ (a48 _ _ aI);have a65:ei≠F:=U.gY l2 (I _ _ (B _ _ k6));have l3:=U.af ct;have k8:=U.aJ a05;have a06: ∀a c d,r= .al a c d 37->a≠z/\a≠G/\a≠ei/\a≠F/\a≠cW:=by
   rintro a c d rfl;obtain⟨h,a68,D⟩:=n.own;have a69:=l0.1 _ _ bC;have a71:=l0.1 _ _ aI;have K:=(S.mono (U.aq n9 l0.1)).cG h;refine⟨K.1,K.2,?_,?_,?_⟩
   .rintro rfl;rw[a69]at h;cases h
   .rintro rfl;rw[I _ _ (B _ _ D)]at l2;cases l2
   .rintro rfl;rw[a71]at h;cases h
  have a07: ∀a c d,T= .al a c d 1->a≠z/\a≠G/\a≠ei/\a≠F/\ ∀M k0 k1,r= .al M k0 k1 37->M≠a:=by
   rintro a c d rfl;obtain⟨h,a68,D⟩:=H.own;have K:=(S.mono a03).cG h;refine⟨K.1,K.2,?_,?_,?_⟩
   .rintro rfl;rw[B _ _ k6]at h;cases h
   grind
   .rintro M k0 k1 rfl rfl;obtain⟨_,b68,x⟩:=n.own;rw[B _ _ x]at h;cases h
  refine aH (λl4=> ?_) λl4=> ?_
  .rw[if_pos l4]at b;have b69:(o.rows.map Prod.fst).length=o.rows.length:=a4T _;generalize b35:o.rows.map Prod.fst=N at*;refine cl (DH N l1 T P a43 C q ((bS.dV H a9p rfl (q.cells λ_ _=>isRow.cells)).mono i) a9p) ?_;rintro _ C ⟨rfl,b70,rfl⟩;have b36:kE N P=true->eY N P<N.length:=λp=>by
    grind[kE,List.getElem?_eq_some_iff]
   generalize eY N P=y at*;refine aa ?_;refine aH (λa08=> ?_) λa08=> ?_
   .rw[if_neg (by simp[a08])]at b;subst b;exact⟨_,U.a1,(S.mono j9).set E,(Ext.of j9).set X,a9t,_,_,_,rfl⟩
   .rw[if_pos a08]at b;have b71:=b36 a08;obtain⟨b37,b10,b72,_,b38⟩:=ar.o6 (ar.mono H i);rw[ni q]at b10;have b73:=q.len;refine cl (YE b37 C l1 T b10 y a9p a9p) ?_;intro a5 s O;have b11:az isRow (N.take y++N.drop (y+1)) (l1.take y++l1.drop (y+1)):=(q.take y).append (q.drop (y+1));rw[<-ni b11]at O;have a09: ∀j k,C j=some k->(∀a c d,T= .al a c d 1->a≠j)->s j=some k:=λj k p b39=>O.1 _ _ (by rw[b38 j b39];exact p);have a10:=a09 _ _ ct λa c d p=>(a07 a c d p).2.2.2.1;have a11:=a09 _ _ a05 λa c d p=>(a07 a c d p).2.2.1;have t:e.sub s:=λj k l5=>a09 j k (j9 _ _ l5) (by
     rintro a c d rfl rfl;have:=H.own.1;rw[a03 _ _ l5]at this;cases this)
    have b74:a5.cells= [a5]:=fK O;obtain⟨V,l⟩: ∃V,(s.set F (.cells [.v (.bool true),a5,r])).set ei (.cells [.v (.bool true),a5,r])=V:=⟨_,rfl⟩;have k8: ∀k,eo (s.set F k) ei=some [.v (.bool false),.J [] .nil,.J [] .nil]:=λk=>U.aJ (by rw[U.an _ _ a65];exact a11);have b12:=U.aJ a10;have b13:V.read ei=some [.v (.bool true),a5,r]:=U.af (by rw[<-l,U.ah]);clear b35 l3;refine aa ?_;refine⟨V,U.a1,?_⟩;subst b;refine⟨by rw[<-l];exact((S.mono t).set W).set E,by rw[<-l];exact((Ext.of t).set a62).set X,a5,r,_,A,rfl,iJ.of (f:=λ_=>none) (t:=λ_=>none) b11 Y (ar.emp O ?_) (ar.emp n ?_) a9r a9r⟩
    .rintro a c d rfl;have l6:=O.own.1;have h:a≠F:=by grind
     have D:a≠ei:=by grind
     rw[<-l,U.an _ _ D,U.an _ _ h]
    .rintro a c d rfl;obtain⟨_,a68,x⟩:=n.own;have u:=a06 _ _ _ rfl;rw[<-l,U.an _ _ u.2.2.1,U.an _ _ u.2.2.2.1,x];exact a09 _ _ (a04 _ _ x) λM k0 k1 p=>a4Q ((a07 M k0 k1 p).2.2.2.2 _ _ _ rfl)
  .rw[if_neg l4]at b;rw[decide_eq_false l4]at ct l3;have b75:=q.len;have a61:=rd (U.aq I i) bu;refine cl (DG o a56 A k9 r P a43 C (b08.mono (U.aq I i))) ?_;rintro _ C ⟨rfl,rfl⟩;obtain⟨-,a69,a71,K⟩:=b07.inner (b34.resolve_left l4);have a13:hz P o<o.kids.length:=by grind[xP,List.length_map]
   generalize hz P o=y at*;have a73:o.kids[y]? =some o.kids[y]:=a4H a13;have b14:o.kids[y]'a13∈o.kids:=a5m _;rw[a73]at b;simp only at b;generalize o.kids[y]'a13=k2 at a73 b14 b;obtain⟨b76,b40,b15,b41,h,D,x,rfl⟩:=Y.get a73;obtain⟨_,_,_,b77,b78⟩:=K k2 b14;have b16:=ar.mono n a04;obtain⟨a74,b42,b79,_,l7⟩:=b16.o6;have b17:e.sub a74:=λj k l5=>by
    rw[l7 j (by
     rintro a c d rfl rfl;have:=n.own.1;rw[l0.1 _ _ (n9 _ _ l5)]at this;cases this)]
    exact j9 _ _ l5
   have b18:=(l7 _ λa c d p=>(a06 a c d p).2.2.2.1).trans ct;have b19:=(l7 _ λa c d p=>(a06 a c d p).2.2.1).trans a05;have b80:=(l7 _ λa c d p=>(a06 a c d p).2.2.2.2).trans a63;have b43:=S.mono j9;have a81:=U.af a63;obtain⟨b44,b45,a83⟩:=(bS.dV b16 a9p rfl (bs.c Y)).get y _ b40;have b20:=aX (N:=h) (e5:=D) (h5:=x) b15;change nf C b44 (ab k2 h D x)at a83;have b21:=a83.ld C U.a1 true 37 a9p (by rw[b20.len];omega);rw[show aY true 37 (ab k2 h D x)= .agg (ab k2 h D x) by rw[aY,if_pos rfl,b20.t37]]at b21;refine aa ?_;refine cl (ih C f k2 h D x b43 b15 b41 a9p a9p) ?_;intro n3 s k3;generalize ic L P m f k2=a84 at k3 b;obtain⟨res,a14⟩:=a84;obtain⟨a15,t,k3⟩:=k3
   dsimp only at a15 k3 b
   have a11:=t _ _ E.1 E.2 a05;have a10:=t _ _ W.1 W.2 ct;have b22:=t _ _ b03.1 b03.2 a63;clear a81 a61 l3 b21 b45 a83;cases res with
   |error b46=>obtain⟨a86,a,a16,a18,rfl⟩:=k3;subst b;refine aa ?_;refine bq λa19 v=> ?_;have b47:=U.gY v a11;have k8: ∀k,eo (s.set a19 k) ei=some [.v (.bool false),.J [] .nil,.J [] .nil]:=λk=>U.aJ (by rw[U.an _ _ b47];exact a11);have b23:=a15.cG v;have w:=(Ext.of j9).trans t;refine aa ?_;exact⟨_,U.a1,(a15.set b23).set E,(w.set (w.no b23 v)).set X,a86,_,_,_,rfl⟩
   |ok l8=>
    obtain⟨a16,a18,b48,b49,rfl,a88⟩:=k3
    dsimp only at b
    refine aa ?_;refine bq λa19 v=> ?_;obtain⟨V,l⟩: ∃V,s.set a19 (.cells [.v (.bool l8.leaf),a16,a18])=V:=⟨_,rfl⟩;have a27:s.sub V:=by rw[<-l];exact U.ae U.a1 v
    have b50:V.read a19=some [.v (.bool l8.leaf),a16,a18]:=U.af (by rw[<-l,U.ah]);have l3:=rd a27 a10;have a81:=rd a27 b22;have b81:=U.gY v a10;have b82:=U.gY v b22;have b51:dc a74 V z G a14 37 (flat A) r:=dc.mono ((dc.of b42 (S.mono b17) Ext.refl:dc a74 C z G f 37 (flat A) r).step t a15) a27;obtain⟨b24,O,b52,a29⟩:=b51;refine cl (YS b24 V z G a14 b52 o.kids A r O Y l8 a16 a18 b48 b49 (a88.mono a27) a69 a9p y a13 L a98 a99) ?_;intro n3 Q n4;clear l v b50 l3 a81;have a30:=λl9 a89 p=>YU (H:=a14) (h:=l9) (e:=L) (i:=y) (c:=o.kids) (d:=a89) (b:=l8) p a71 ⟨a88.kB,a88.iB⟩;generalize jT a14 L o.kids y l8=a84 at b n4 a30;obtain⟨res,l9⟩:=a84;have a34: ∀(a36:R),bB Q z G l9->Ext z G b24 Q->Q ei=some (.cells [.v (.bool false),.J [] .nil,.J [] .nil])/\Q F=some (.cells [.v (.bool false),T,r])/\
      ∃k4:U,(Q.set F (.cells [.v (.bool false),T,a36])).set ei (.cells [.v (.bool false),T,a36])=k4/\k4.read ei=some [.v (.bool false),T,a36]/\bB k4 z G l9/\Ext z G e k4:=by
     intro a36 h D;have x:=a29.trans D;exact⟨x _ _ E.1 E.2 b19,x _ _ W.1 W.2 b18,_,rfl,U.af (U.ah _ _ _),(h.set W).set E,((((Ext.of b17).trans x).set a62).set X)⟩
    cases res with
    |error b46=>
     obtain⟨b25,b53,a86,k5,rfl,b54⟩:=n4
     dsimp only at b b25
     subst b;obtain⟨a90,a92,k4,a94,b13,a95,a96⟩:=a34 k5 b25 b53;have k8: ∀k,eo (Q.set F k) ei=some [.v (.bool false),.J [] .nil,.J [] .nil]:=λk=>U.aJ (by rw[U.an _ _ a65];exact a90);have b12:=U.aJ a92;clear a30 a34;refine aa ?_;exact⟨_,U.a1,a95,a96,a86,_,_,_,rfl⟩
    |ok a89=>
     obtain⟨b55,k5,b56,rfl,a38⟩:=n4;have b57:=a30 l9 a89 rfl
     dsimp only at b a38
     subst b;obtain⟨a90,a92,k4,a94,b13,a95,a96⟩:=a34 k5 a38.gg a38.ext;have k8: ∀k,eo (Q.set F k) ei=some [.v (.bool false),.J [] .nil,.J [] .nil]:=λk=>U.aJ (by rw[U.an _ _ a65];exact a90);have b12:=U.aJ a92;obtain⟨b83,a42,b84,a97⟩:=a38;have b54:k5.cells= [k5]:=fK a42;clear a30 a34;refine aa ?_;have b58:=a29.trans (a97.trans (Ext.of a42.1));refine⟨_,U.a1,a95,a96,T,k5,l1,b55,rfl,iJ.of (f:=λ_=>none) (t:=λ_=>none) q b56 (ar.emp (ar.mono H i) ?_) (ar.emp a42 ?_) a9r b57⟩
     .rintro a c d rfl;have u:=a07 _ _ _ rfl;obtain⟨_,a68,x⟩:=H.own;rw[<-a94,U.an _ _ u.2.2.1,U.an _ _ u.2.2.2.1,i _ _ x];exact b58 _ _ u.1 u.2.1 (by rw[l7 _ (λM k0 k1 p=>u.2.2.2.2 M k0 k1 p)];exact i _ _ x)
     .rintro a c d rfl;have l6:=a42.own.1;have b59:=a97 _ _ W.1 W.2 (a29 _ _ W.1 W.2 b18);have b60:=a97 _ _ E.1 E.2 (a29 _ _ E.1 E.2 b19);have h:a≠F:=by rintro rfl;rw[b59]at l6;cases l6
      have D:a≠ei:=by rintro rfl;rw[b60]at l6;cases l6
      rw[<-a94,U.an _ _ D,U.an _ _ h]
def kG (d:Nat) (k:List Int) (h:ag) (c:ay):Except Int ay×ag:=
 if c=aA then(.error 9,h)
 else match ic d k (c.size.toNat+1) h c with
  |(.error o,b)=>(.error o,b)
  |(.ok a,b)=>
   if a.leaf=true/\a.rows.length=0 then(.ok aA,b)
   else if a.leaf=false/\a.kids.length=1 then(.ok (a.kids.headD aA),b)
   else mg b d a.leaf a.rows a.kids
def YW (V:U) (x W:Nat) (L:ag) (H:bB V x W L) (c:ay) (e f g:Own) (I:c.sum.length=32) (k3:c.cE) (o:List Int) (n:Own) (b:Nat) (k4:1<=b) (k5:b<=8) (a13:o.length=b):
  AC Tryz.prog 87 [.ptr x 0,.agg (ab c e f g),.J (ad o) n,.v (.int .i64 (b:Int))] V λK k6=>bB k6 x W (kG b o L c).2/\Ext x W V k6/\hc (kG b o L c).1 K:=by
 have a14:=(aX (N:=e) (e5:=f) (h5:=g) I).lt;have a15:=(aX (N:= .nil) (e5:= .nil) (h5:= .nil) bk).lt;have a16:=cr;have M:=λN (d h k:Own) i=>cF (a:= .nil) (b:= .nil) (c:= .nil) (w:=N) (N:=d) (e5:=h) (h5:=k) bk i;have a18:=M aA .nil .nil .nil bk;generalize O:ab aA .nil .nil .nil=k7 at*;obtain⟨k8,a⟩: ∃k8,kG b o L c=k8:=⟨_,rfl⟩;rw[a];unfold kG at a;have a19:qN (b:Int) [o]=true:=by simp[qN];omega
 refine aO hm LP ?_;refine bq λgR n2=> ?_;refine da λQ P _ _=> ?_;refine u1 λn3 a27 _ _ _ _=> ?_;generalize y:((V.set gR _).set Q _).set n3 _=E;have q:V.sub E:=by subst y;exact aU
 have bo:E gR=some (.cells (ab c e f g)):=by subst y;exact aU
 have bu:E Q=some (.cells k7):=by subst y;exact aU
 clear y;have k9:=H.mono q;have r:=H.cG P;have l0:=U.af bo;have X:=U.aJ bu;have n4:= @U.set_set;refine lX (DD b [o] [.J (ad o) n] _ E ⟨⟨n,rfl⟩,trivial⟩ (bS.J (by simp[aN,R.cells])) a9q) ?_;refine lX (ng c e f g E I k3) ?_;refine aH (λY=> ?_) λY=> ?_
 .rw[if_pos Y]at a;subst a;exact⟨_,U.a1,k9.set r,(Ext.of q).set P,a9t,by rw[O]⟩
 rw[if_neg Y]at a;refine bq λl1 s=> ?_;have a29:=U.gY s bo;obtain⟨j,z⟩: ∃j,E.set l1 (.cells [.ptr x 0,.v (.int .i64 (b:Int))])=j:=⟨_,rfl⟩;have t:E.sub j:=by rw[<-z];exact U.ae U.a1 s
 have ct:j l1=some (.cells [.ptr x 0,.v (.int .i64 (b:Int))]):=by rw[<-z,U.ah]
 have l2:=U.af ct;have l0:=rd t bo;refine cl (YV x W o n b k4 k5 (c.size.toNat+1) j L c e f g (k9.mono t) I k3 a9p a9p) ?_;intro K Z C;generalize ic b o (c.size.toNat+1) L c=n5 at C a;obtain⟨res,n9⟩:=n5;obtain⟨u,j9,C⟩:=C
 dsimp only at u C a
 have v:=j9 _ _ r.1 r.2 (t _ _ bu);have l3:=H.cG (U.bF q s);have a00:=j9 _ _ l3.1 l3.2 ct;have y:=(Ext.of (U.aq q t)).trans j9;clear z l2 l0;cases res with
 |error a01=>obtain⟨a02,a30,w,l,rfl⟩:=C;subst a;refine aa ?_;refine bq λA S=> ?_;have l4:=u.cG S;have a03:=U.gY S v;have X: ∀l5,eo (Z.set A l5) Q=some k7:=λl5=>U.aJ (by rw[U.an _ _ a03];exact v);refine aa ?_;exact⟨_,U.a1,(u.set l4).set r,(y.set (y.no l4 S)).set P,a02,by rw[O]⟩
 |ok T=>
  obtain⟨w,l,a04,a05,rfl,p⟩:=C
  dsimp only at a
  refine aa ?_;refine bq λA S=> ?_;obtain⟨F,B⟩: ∃F,Z.set A (.cells [.v (.bool T.leaf),w,l])=F:=⟨_,rfl⟩;have D:Z.sub F:=by rw[<-B];exact U.ae U.a1 S
  have a34:F.read A=some [.v (.bool T.leaf),w,l]:=U.af (by rw[<-B,U.ah]);have l2:=rd D a00;have X:=U.aJ (D _ _ v);have k0:=u.mono D;have k1:=y.trans (Ext.of D);have a36:=p.ow.len;have a38:=p.jS.len;have a42:=p.kB;have a43:=p.iB;rw[n4,B];clear S s n2 B;refine aH (λG=> ?_) λG=> ?_
  all_goals refine aH (λc2=> ?_) λc2=> ?_
  .rw[if_pos ⟨G,a9p⟩]at a;subst a;exact⟨_,U.a1,k0.set r,k1.set P,bk,me,.nil,.nil,.nil,by rw[O]⟩
  rotate_left
  .obtain⟨m,l6⟩:=a6Q.1 (show T.kids.length=1 by omega);rw[if_neg (by simp[G]),if_pos ⟨G,a9p⟩,l6]at a;subst a;obtain⟨a47,a06,k2,a07,d,h,k,rfl⟩:=p.k.get (show T.kids[0]? =some m by rw[l6];rfl);obtain⟨l7,l8,l9⟩:=(p.ux.mono D).get 0 _ a06;have z:=aX (N:=d) (e5:=h) (h5:=k) k2;change nf F l7 (ab m d h k)at l9;have l8:cR 37 l (.v (.int .i64 0))=some l7:=l8;have a08:=l9.ld F U.a1 true 37 a9p (by rw[z.len];omega);rw[show aY true 37 (ab m d h k)= .agg (ab m d h k) by rw[aY,if_pos rfl,z.t37]]at a08;have a09:=M m d h k k2;have z:=z.lt;refine aa ?_;exact⟨_,U.a1,k0.set r,k1.set P,k2,a07,d,h,k,rfl⟩
  all_goals
   rw[if_neg (by rintro⟨i,a10⟩;first|omega|simp[G]at i),if_neg (by rintro⟨i,a10⟩;first|omega|simp[G]at i),G]at a;subst a;refine cl (DF F x W n9 k0 _ T.rows a04 w T.kids a05 l b k4 k5 p.r (p.ax.mono D) a9p p.k (p.ux.mono D) a9p) ?_;rintro K a48 ⟨a11,n0,C⟩;have X:=U.aJ (n0 _ _ r.1 r.2 (D _ _ v));obtain⟨N,d,h,k,a01,n1,rfl⟩:=C.shape;have a52:=(aX (N:=d) (e5:=h) (h5:=k) n1).lt;have a09:=M N d h k n1;refine aa ?_;exact⟨_,U.a1,a11.set r,(k1.trans n0).set P⟩
end Go.Proofs.YtlgnfcaolejgeaaGreat
namespace Go.bA
open Go
end Go.bA
namespace Go.Proofs.YtlgnfcaolejgeaaGreat
open Go Go.bA
inductive qP where
 |row (r:List Int)
 |hd (k:ay)
def YX (h:qP) (b:R):Prop:=
 match h with
 | .row c=>c≠ []/\ ∃d,d≠ .nil/\b= .agg (.J (ad c) d::ab aA .nil .nil .nil)
 | .hd a=>a.sum.length=32/\a.cE/\ ∃k o p,b= .agg (.J [] .nil::ab a k o p)
abbrev YY (a b:Nat) (c:List R) (d:Own):List R:= [.ptr a 0,.v (.int .i64 (b:Int)),.J c d]
def DW (b:U) (c d h:Nat) (k:List qP):Prop:= ∃a o,b c=some (.cells (YY d h a o))/\az YX k a
structure DX where
 A:List qP
 B:List qP
 gone:List (List Int)
 xR:List (List Int)
 ox:Int
abbrev YZ (a b:Nat) (c d:List R) (h k:Own) (o:Int):List R:= [.ptr a 0,.ptr b 0,.J c h,.J d k,.v (.int .i64 o)]
structure a4B (h k:U) (W o p z C d:Nat) (w:DX):Prop where
 sub:h.sub k
 xS:h W=none
 na:h o=none
 nb:h p=none
 a4C:o≠p
 a:DW k o z d w.A
 b:DW k p C d w.B
 w: ∃lZ fe r gx,k W=some (.cells (YZ o p lZ r fe gx w.ox))/\az isRow w.gone lZ/\az isRow w.xR r/\bh h k 1 lZ fe/\bh h k 1 r gx/\ ∀x c y D,fe= .buf x c->gx= .buf y D->x≠y
end Go.Proofs.YtlgnfcaolejgeaaGreat
namespace Go.bA
open Go
end Go.bA
namespace Go.Proofs.YtlgnfcaolejgeaaGreat
open Go Go.bA
variable{w j2:ay}{e i v M c0 j0:Nat}{e0:c4}{H:ag}
def xT (a:fp H e w=some e0):pv e w e0:=by
 unfold fp at a;split at a
 .cases a
 .split at a
  .cases a
  .split at a
   .rename_i b;obtain rfl:=a4G a;exact uw b
   .cases a
end Go.Proofs.YtlgnfcaolejgeaaGreat
namespace Go.bA
open Go
end Go.bA
namespace Go.Proofs.YtlgnfcaolejgeaaGreat
open Go Go.bA
def wt:qP->Nat
 | .row _=>1
 | .hd a=>if 1<=a.size/\a.size<=1048576 then 3*a.size.toNat - 1 else 1
def kH (a:List qP):Nat:=(a.map wt).sum
structure Bd (w a:DX):Prop where
 wt:kH a.A+kH a.B<kH w.A+kH w.B
 rows:a.gone.length+a.xR.length+(kH a.A+kH a.B)<=w.gone.length+w.xR.length+(kH w.A+kH w.B)
 ox:w.ox<=a.ox/\a.ox+2*(kH a.A+kH a.B:Nat)<=w.ox+2*(kH w.A+kH w.B:Nat)
end Go.Proofs.YtlgnfcaolejgeaaGreat
