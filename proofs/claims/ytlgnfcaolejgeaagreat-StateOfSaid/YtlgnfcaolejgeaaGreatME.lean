import Derived.Test.YtlgnfcaolejgeaaGreatMD
import Derived.Test.YtlgnfcaolejgeaaGreatMC
set_option linter.all false
namespace Go.a6
variable{b0:Type}
def eS:Nat->List b0->List (List b0)
 |0,_=> []
 |b+1,a=>a.take (a.length/(b+1)+if 0<a.length%(b+1)then 1 else 0)::eS b (a.drop (a.length/(b+1)+if 0<a.length%(b+1)then 1 else 0))
def bU (a:Nat):Nat:=(a+3)/4
def chunks (a:List b0):List (List b0):=eS (bU a.length) a
theorem Dx: ∀(a:Nat) (b:List b0),eS a b=(List.range a).map λh=>(b.drop (h*(b.length/a)+min h (b.length%a))).take (b.length/a+if h<b.length%a then 1 else 0)
 |0,b=>rfl
 |a+1,b=>by
  have y:=a7I b.length (a+1);have z:=a6Q b.length (a9l a);simp only[eS];generalize C:b.length/(a+1)=d at*;generalize D:b.length%(a+1)=c at*;rw[Dx a,a8O,a5k,a6P];congr 1
  .simp
  .by_cases p:a=0
   .subst p;simp
   have k:(b.drop (d+if 0<c then 1 else 0)).length=d*a+(c - if 0<c then 1 else 0):=by grind
   have o:c -(if 0<c then 1 else 0)<a:=by split<;>omega
   have r:(b.drop (d+if 0<c then 1 else 0)).length/a=d:=by rw[k,a9k,Nat.mul_add_div a9p,Nat.div_eq_of_lt o];rfl
   have x:(b.drop (d+if 0<c then 1 else 0)).length%a=c - if 0<c then 1 else 0:=by rw[k,a9k,Nat.mul_add_mod,a6y o]
   rw[r,x];refine a6r λh E=> ?_;simp only[Function.comp,a5B];grind
def Dy: ∀(a:Nat) (b:List b0),(0<a\/b= [])->(eS a b).flatten=b
 |0,b,c=>by rcases c with c|c;(·omega);(·subst c;rfl)
 |a+1,b,_=>by
  simp only[eS,a6B];rw[Dy a,a5t];by_cases d:a=0
  .right;subst d;simp
  .left;omega
def chunks_flatten (a:List b0):(chunks a).flatten=a:=Dy _ _ (by
 cases a with
 |nil=>simp
 |cons b a=>left;simp only[bU,a4S];omega)
theorem po {a:List b0} (b:1<=a.length) (c:a.length<=4):chunks a= [a]:=by
 have:bU a.length=1:=by unfold bU;omega
 simp[chunks,this,eS,Nat.mod_one]
theorem sz {a:List b0} (b:a.length=5):chunks a= [a.take 3,a.drop 3]:=by simp_all [bU,chunks,eS,a4N]
abbrev Row:=List Int
structure xz where
 rows:List Row
structure xA (a:Type) where
 kids:List a
def T:Nat->Type
 |0=>xz
 |a+1=>xA (T a)
def leaf (a:List Row):T 0:=xz.mk a
variable{e i v O b8 j0:Nat}
def node (a:List (T e)):T (e+1):=xA.mk a
def rows (a:T 0):List Row:=xz.rows a
def kids {a:Nat} (b:T (a+1)):List (T a):=xA.kids b
variable{h9:List Row}
theorem qG:rows (leaf h9)=h9:=rfl
theorem fl {a:List (T e)}:kids (node a)=a:=rfl
def hT (a:T 0): ∃b,a=leaf b:=⟨rows a,rfl⟩
def gl (a:T (e+1)): ∃b,a=node b:=⟨kids a,rfl⟩
def len: {b:Nat}->T b->Nat
 |0,a=>(rows a).length
 | _+1,a=>(kids a).length
def bg:(a:Nat)->T a->List Row
 |0,b=>rows b
 |a+1,b=>(kids b).flatMap (bg a)
theorem hU:len (leaf h9)=h9.length:=rfl
def dE {a:List (T e)}:len (node a)=a.length:=rfl
theorem ky:bg 0 (leaf h9)=h9:=rfl
theorem fX {a:List (T e)}:bg (e+1) (node a)=a.flatMap (bg e):=rfl
theorem Dz (a:List Row):((chunks a).map leaf).flatMap (bg 0)=a:=by
 conv=>rhs;rw[<-chunks_flatten a]
 rw[a7X,a6P];congr 1;exact List.map_id _
theorem DA (a:List (T e)):((chunks a).map node).flatMap (bg (e+1))=a.flatMap (bg e):=by
 conv=>rhs;rw[<-chunks_flatten a]
 induction chunks a with
 |nil=>rfl
 |cons b c ih=>rw[a5k,a5o,ih,a6B,a5C];rfl
def WF:(b:Nat)->T b->Prop
 |0,a=>2<=len a/\len a<=4
 |b+1,a=>2<=len a/\len a<=4/\ ∀c∈kids a,WF b c
def lj:(a:Nat)->T a->Prop
 |0,_=>True
 |a+1,b=> ∀c∈kids b,WF a c
theorem gU {a:T e}:WF e a↔2<=len a/\len a<=4/\lj e a:=by
 cases e with
 |zero=>simp[WF,lj]
 |succ e=>rfl
def jM (b:Nat) (a:T b):Prop:=1<=len a/\len a<=4/\lj b a/\(0<b->2<=len a)
theorem jM.of {a:T e} (b:WF e a):jM e a:=by have:=gU.1 b;exact⟨a9p,this.2.1,this.2.2,λ_=>this.1⟩
def xB: ∀ {a:T e},1<=len a->lj e a->bg e a≠ []:=by
 induction e with
 |zero=>intro a c _ b;obtain⟨d,rfl⟩:=hT a;rw[ky]at b;subst b;trivial
 |succ e ih=>
  intro a c h b;obtain⟨d,rfl⟩:=gl a;rw[dE]at c
  match d,c with
  |k::d,_=>rw[fX,a5o]at b;have o:=gU.1 (h k a6G);exact ih a9p o.2.2 (List.append_eq_nil_iff.1 b).1
def cM (a:Nat) (b:T a):Row:=(bg a b).headD []
section
variable (lt:Row->Row->Bool)
structure Ord (ok:Row->Prop):Prop where
 jc: ∀p,lt p p=false
 trans: ∀p a r,ok p->ok a->ok r->lt p a=true->lt a r=true->lt p r=true
 total: ∀p a,ok p->ok a->lt p a=false->lt a p=false->p=a
def cR (a:Row):List Row->Nat
 | _::b::c=>if lt a b then 0 else cR a (b::c)+1
 | _=>0
def dL (c:List Row) (a:Row):List Row:=c.takeWhile (λb=>lt b a)++a::c.dropWhile (λb=>lt b a)
def eT (c:Row):(b:Nat)->T b->List (T b)
 |0,a=>(chunks (dL lt (rows a) c)).map leaf
 |b+1,a=>
  match(kids a)[cR lt c ((kids a).map (cM b))]? with
  |some d=>(chunks ((kids a).take (cR lt c ((kids a).map (cM b)))++eT c b d++(kids a).drop (cR lt c ((kids a).map (cM b))+1))).map node
  |none=> []
def kz: {a:Nat}->T a->T a->List (T a)
 |0,b,c=>(chunks (rows b++rows c)).map leaf
 | _+1,b,c=>(chunks (kids b++kids c)).map node
def lk (b:List (T e)) (a:Nat) (c:T e):List (T e):=
 if 2<=len c then b.set a c
 else match b[if a=0 then 1 else a - 1]? with
  |some d=>b.take (a - 1)++(if a=0 then kz c d else kz d c)++b.drop (a - 1+2)
  |none=> []
def cI (c:Row):(b:Nat)->T b->T b
 |0,a=>leaf ((rows a).filter λd=>decide (d≠c))
 |b+1,a=>
  match(kids a)[cR lt c ((kids a).map (cM b))]? with
  |some h=>node (lk (kids a) (cR lt c ((kids a).map (cM b))) (cI c b h))
  |none=>a
end
theorem DB (c:2<=h9.length) (d:h9.length<=5):(∀b∈(chunks h9).map leaf,WF 0 b)/\1<=(chunks h9).length/\(chunks h9).length<=2/\(h9.length<=4->(chunks h9).length=1):=by
 by_cases a:h9.length=5
 .rw[sz a];simp[WF,a,hU]
 .rw[po a9p a9p];simp only[a5k,a6A,a5g,forall_eq,a6j,WF,hU];grind
theorem DC {a:List (T e)} (d:2<=a.length) (h:a.length<=5) (k: ∀b∈a,WF e b):(∀b∈(chunks a).map node,WF (e+1) b)/\1<=(chunks a).length/\(chunks a).length<=2/\(a.length<=4->(chunks a).length=1):=by
 by_cases c:a.length=5
 .rw[sz c];simp only[a5k,a6A,a5j,a6m,or_false,forall_eq_or_imp,forall_eq,a4S,a4W,WF,dE,fl];grind
 .rw[po a9p a9p];simp only[a5k,a6A,a5g,forall_eq,a6j,WF,dE,fl];grind
variable{h3:Row}
section
variable {lt:Row->Row->Bool}{ok:Row->Prop}
abbrev jd (a:Row->Row->Bool) (b:List Row):Prop:=b.Pairwise λc d=>a c d=true
theorem xC {a:List Row} (c: ∀b∈h9,lt b h3=true):dL lt (h9++a) h3=h9++dL lt a h3:=by unfold dL;simp_all
theorem Yv {b:List Row} (h: ∀a∈h9,lt a h3=false):dL lt (b++h9) h3=dL lt b h3++h9:=by
 have c:h9.takeWhile (λa=>lt a h3)= []/\h9.dropWhile (λa=>lt a h3)=h9:=by
  cases h9 with
  |nil=>trivial
  |cons k h9=>simp_all
 induction b with
 |nil=>simp[dL,c.1,c.2]
 |cons d b ih=>unfold dL at ih|-;by_cases bW:lt d h3=true;simp_all;simp_all
theorem sA {a:Row}:h3∈dL lt h9 a↔h3=a\/h3∈h9:=by grind[dL,List.takeWhile_append_dropWhile]
theorem oo:(dL lt h9 h3).length=h9.length+1:=by unfold dL;have:=congrArg List.length (a5E (p:=λa=>lt a h3) (l:=h9));grind
def Yw (p:Ord lt ok) (r:jd lt h9) (h: ∀c∈h9,ok c) (x:ok h3) (y:h3∉h9):jd lt (dL lt h9 h3):=by
 induction h9 with
 |nil=>simp[dL]
 |cons a h9 ih=>
  have k:=a5w.1 r;have ih:=ih k.2 (λc b=>h c (by simp[b])) (λo=>y (by simp[o]));by_cases bW:lt a h3=true
  .have d:dL lt (a::h9) h3=a::dL lt h9 h3:=xC (h9:= [a]) (by simpa using bW);rw[d];refine a5w.2 ⟨λc b=> ?_,ih⟩;rcases sA.1 b with rfl|b
   .exact bW
   .exact k.1 c b
  .have d:dL lt (a::h9) h3=h3::a::h9:=by simp[dL,bW]
   rw[d];have z:lt h3 a=true:=by
    cases o:lt h3 a with
    |true=>rfl
    |false=>exact absurd (p.total h3 a x (h a a9q) o (by simpa using bW)) (λd=>y (by simp[d]))
   refine a5w.2 ⟨λc b=> ?_,r⟩;rcases a5j.1 b with rfl|b
   .exact z
   .exact p.trans h3 a c x (h a a9q) (h c (by simp[b])) z (k.1 c b)
theorem DD (p:Ord lt ok) {d:Row} (r:ok d): ∀(h:List (List Row)),h≠ []->(∀D∈h,D≠ [])->jd lt h.flatten->(∀a∈h.flatten,ok a)->
  cR lt d (h.map (·.headD []))<h.length/\(∀a∈(h.take (cR lt d (h.map (·.headD [])))).flatten,lt a d=true)/\(∀a∈(h.drop (cR lt d (h.map (·.headD []))+1)).flatten,lt d a=true)
 | [],V,_,_,_=>absurd rfl V
 | [W],_,_,_,_=>by simp[cR]
 |W::k::x,_,e,m,y=>by
  simp only[a5k,cR];obtain⟨c,z,C⟩: ∃c z,k=c::z:=by
   cases C:k with
   |nil=>simp_all
   |cons c z=>simp
  have G:k.headD []=c:=by rw[C];rfl
  have E:=y c (by simp[C]);have F:jd lt (k::x).flatten:=by grind
  rw[G];by_cases o:lt d c=true
  .rw[if_pos o];refine⟨a9q,a9q,λa b=> ?_⟩;simp only[a6s,a6S]at b;have f:(k::x).flatten=c::(z++x.flatten):=by rw[C];rfl
   rw[f]at b F;rcases a5j.1 b with rfl|b
   .exact o
   .refine p.trans d c a r E (y a ?_) o ((a5w.1 F).1 a b);simp_all
  .rw[if_neg o];have ih:=DD p r (k::x) a9q (λD L=>e D (by simp at L|-;exact .inr L)) F (λa b=>y a (by simp_all));simp only[a5k,G]at ih;obtain⟨g,i,j⟩:=ih;refine⟨by simp at g|-;omega,λa b=> ?_,λa b=>j a (by trivial)⟩;simp only[a7H,a6B,a5a]at b;rcases b with b|b
   .
    have P:lt a c=true:=by grind
    by_cases S:c=d
    .rw[<-S];exact P
    .have l:=y a (by simp[b]);cases T:lt c d with
     |true=>exact p.trans a c d l E r P T
     |false=>exact absurd (p.total c d E r T (by simpa using o)) S
   .exact i a b
end
end Go.a6
set_option maxRecDepth 100000
namespace Go.Proofs.YtlgnfcaolejgeaaGreat
open Go Go.bz
variable{b5:FuncId}{g B e0:List R}
theorem Yx (a:List (List Int)) (z:List R) (k:R) (d:U) (C:aA isRow a z) (D:bR d 1 k z) (u:a.length<=1000000000000) {h:List Int->Bool} (E:gS isRow d b5 g B h):
  AC Tryz.prog 258 [k,.bG b5 g B] d λe o=>o=d/\ ∃F:Int,e= .v (.int .i64 F)/\decide (0<=F)=a.any h:=by
 refine bd hm QQ a9q ?_;have f:=C.len;have i:=D.len;rw[f]at i;refine aa ?_;refine ct (λc o=> ∃b:Nat,b<=a.length/\o=d/\c 0=k/\c 1= .bG b5 g B/\c 7= .v (.int .i64 a.length)/\c 8= .v (.int .i64 b)/\(a.take b).any h=false)
  (λc _=>match c 8 with| .v (.int _ j)=>a.length - j.toNat| _=>0) ⟨0,a9p,rfl,?_⟩ ?_
 .refine aa ?_;simp
 rintro c p ⟨b,v,rfl,G,L,P,S,T⟩;by_cases V:(b)<(a.length:Int)
 .have r:a[b]? =some a[b]:=a4M a9p;have l:a.take (b+1)=a.take b++ [a[b]]:=by rw[a5Y,r];rfl
  have m:a[b]'a9p∈a:=a5p _;generalize a[b]'a9p=W at r l m;obtain⟨x,n,y⟩:=C.get r;obtain⟨q,w,s⟩:=D.get b x n;have A:dq false 1 p q=some x:=by have t:=s.ld p U.a1 false 1 a9p (by rw[isRow.cells y];omega);rw[t];obtain⟨H,rfl⟩:=y;rfl
  refine aa ?_;refine fD E.1 (E.2 W x _ y U.a1) ?_;rintro _ p ⟨rfl,rfl⟩;cases I:h W with
  |true=>refine aj (bm @G @L @P @S @V) ?_;refine⟨_,U.a1,rfl,_,rfl,?_⟩;grind
  |false=>refine aa ?_;grind
 .obtain rfl:b=a.length:=a9p;refine aj (bm @G @L @P @S @V) ?_;rw[a5i]at T;exact⟨_,U.a1,rfl,_,rfl,by rw[T];simp⟩
def DE (b:List (List Int)) (c:List R) (d:R) (a:U) (k:aA isRow b c) (o:bR a 1 d c) (p:b.length<=1000000000000) {h:List Int->Bool} (r:gS isRow a b5 g B h):
  AC Tryz.prog 180 [d,.bG b5 g B] a λx y=>y=a/\x= .v (.bool (b.any h)):=by
 refine bd hm OH a9q ?_;refine aa ?_;refine ag (Yx b c d a k o p r) ?_;rintro _ C ⟨rfl,D,rfl,z⟩;refine bT ?_;exact⟨_,U.a1,rfl,by rw[z]⟩
def Yy (c:Int) (b:List Int) (d:R) (r:isRow b d) (a:U) (h:Nat) (k:a.read h=some [.v (.int .i64 c)]):
  AC Tryz.prog 232 [d,.ptr h 0] a λx y=>y=a/\x= .v (.bool (!decide ((b.length:Int)=c))):=by
 obtain⟨z,rfl⟩:=r;refine bd hm Q2 a9q ?_;have o:=bH (q:=b);by_cases p:(b.length)=c
 .refine aj (aH @o @k @p) ?_;exact⟨a,U.a1,by simp[]⟩
 .refine aj (aH @o @k @p) ?_;exact⟨a,U.a1,by simp[]⟩
def qH (a:Int) (b:List (List Int)):Bool:=decide (1<=a)&&decide (a<=8)&&b.all λc=>decide ((c.length:Int)=a)
theorem DF (a:Int) (c:List (List Int)) (d:List R) (h:R) (b:U) (x:aA isRow c d) (y:bR b 1 h d) (z:c.length<=1000000000000):
  AC Tryz.prog 153 [.v (.int .i64 a),h] b λC k=>k=b/\C= .v (.bool (qH a c)):=by
 refine bd hm NL a9q ?_;refine aa ?_;refine aN λo D=> ?_;have p:=U.af (Y:= .cells [.v (.int .i64 a)]) (U.a1) D;have c2:(b.set o (.cells [.v (.int .i64 a)])) o=some (.cells [.v (.int .i64 a)]):=U.ai _ _ _;unfold qH;by_cases h1:1<=a
 .by_cases r:a<=8
  .refine aa ?_;refine ag (DE c d h _ x (y.mono p) z (b5:=232) ⟨by rfl,λE F k G L=>Yy a E F G k o (U.ae (L _ _ c2))⟩) ?_;rintro _ _ ⟨rfl,rfl⟩;refine bT ?_;refine⟨b,p,rfl,?_⟩;rw[List.any_eq_not_all_not];simp[h1,r]
  .simp -dsimp -implicitDefEqProofs (disch:=first|omega|assumption|(simp only[bk,Nat.reduceAdd];try omega)) only[go_sem,simprocAttr,-List.reduceReplicate,h1,r];simp_all
 .refine aj @h1 ?_;simp_all
theorem xD (a:Nat) (h:a<=1000000000000) (b:U):AC Tryz.prog 246 [.v (.int .i64 (a:Int))] b λc d=>d=b/\c= .v (.int .i64 (a6.bU a:Int)):=by refine bd hm Qt a9q ?_;refine bT ?_;refine⟨b,U.a1,rfl,?_⟩;grind[a6.bU,wrap_i64]
def dx (a:ah) (c:Nat) (b:c3):Except Int az×ah:=
 match fF c b with
 |none=>(.error 1,a)
 |some d=>(.ok d,eK a (cW b))
def dT (a:List (List Int)):c3:=⟨2,a.map λb=>(b,true),[]⟩
def ek (a:List az):c3:=⟨3,[],a⟩
abbrev dU (a b:Nat):R:= .agg [.ptr a 0,.v (.int .i64 (b:Int))]
def gV (d:Except Int az) (b:R):Prop:=
 match d with
 | .error c=>c≠0/\b= .aI [.agg (ab ay .nil .nil .nil),.v (.int .i64 c)]
 | .ok a=>a.sum.length=32/\a.cB/\ ∃h k o,b= .aI [.agg (ab a h k o),.v (.int .i64 0)]
variable{n b3:R}
theorem gV.shape {c:Except Int az} (d:gV c n): ∃a h k o b,a.sum.length=32/\n= .aI [.agg (ab a h k o),.v (.int .i64 b)]:=by
 cases c with
 |error b=>exact⟨ay,_,_,_,b,bj,d.2⟩
 |ok a=>obtain⟨p,_,h,k,o,r⟩:=d;grind
variable{f t e4:U}{e i v O b8 j0:Nat}{H:ah}
def bB.cE (a:bB f i v H) (b:f e=none):e≠i/\e≠v:=by
 refine⟨?_,?_⟩
 .rintro rfl;obtain⟨_,_,a⟩:=a.at_;rw[a]at b;cases b
 .rintro rfl;obtain⟨_,⟨_,_,a,_⟩,_⟩:=a.mp;rw[a]at b;cases b
theorem bB.set {d:U}{a b c:Nat}{h:ah}{ob:br} (o:bB d a b h) (k:c≠a/\c≠b):bB (d.set c ob) a b h:=o.other (U.ao _ _ (a4U k.1)) (U.ao _ _ (a4U k.2))
def xE (d:U) (h k:Nat) (o:ah) (C:bB d h k o) (c:c3) (D E:List R) (r x:R) (b:Nat) (G:1<=b) (y:b<=8) (L:fW d c r x D E):
  AC Tryz.prog 233 [.ptr h 0,gH c r x,.v (.int .i64 (b:Int))] d λF z=>bB z h k (dx o b c).2/\Ext h k d z/\gV (dx o b c).1 F:=by
 refine(Yl d h k o C c D E r x b G y L).mono λF z a=> ?_;unfold dx;cases p:fF b c with
 |none=>rw[p]at a;exact⟨C.mono a.1,Ext.of a.1,a9t,a.2⟩
 |some P=>rw[p]at a;exact⟨a.1,a.2.1,(ug y p).1,Dk y p,a.2.2⟩
theorem xF (D:U) (E e:Nat) (f:ah) (X:bB D E e f) (c:List (List Int)) (h:List R) (q:R) (x:Nat) (n2:1<=x) (n3:x<=8) (g:aA isRow c h) (Y:bR D 1 q h) (n4:c.length<=100000):
  AC Tryz.prog 155 [dU E x,q] D λr y=>bB y E e (dx f x (dT c)).2/\Ext E e D y/\gV (dx f x (dT c)).1 r:=by
 refine bd hm NP a9q ?_;have s: ∀Z,(R.agg Z).cells=Z:=λ_=>rfl;have n5: ∀a b k o j9 T:R,putAt [a,b,k] 0 [o,j9,T]= [o,j9,T]:=λ_ _ _ _ _ _=>rfl;have n9: ∀a b k o:R,putAt [a,b,k] 0 [o]= [o,b,k]:=λ_ _ _ _=>rfl;have a00: ∀a b k o:R,putAt [a,b,k] 1 [o]= [a,o,k]:=λ_ _ _ _=>rfl;have k0: ∀a b k:R,[a,b,k].length=3:=λ_ _ _=>rfl;have a43: ∀a b k:R,List.take 3 [a,b,k]= [a,b,k]:=λ_ _ _=>rfl;have k1:=Y.len;rw[g.len]at k1;refine aa ?_;refine aN λS a01=> ?_;refine aa ?_;refine aN λP i=> ?_;refine aa ?_;refine aN λF V=> ?_;have t:S≠P:=by rintro rfl;rw[U.ai]at i;cases i
 have a02:P≠F:=by rintro rfl;rw[U.ai]at V;cases V
 have a03:S≠F:=by rintro rfl;rw[U.ao _ _ t,U.ai]at V;cases V
 have u:D P=none:=by rw[U.ao _ _ (a4U t)]at i;exact i
 have a47:D F=none:=by simp_all [U.ao,a4U]
 obtain⟨G,W⟩: ∃G:U,G=(D.set S (.cells [.ptr E 0,.v (.int .i64 (x))])).set P (.cells (ab ay .nil .nil .nil)):=⟨_,rfl⟩;have k2:D.sub G:=by rw[W];exact U.af (U.af U.a1 a01) u
 have c2:G S=some (.cells [.ptr E 0,.v (.int .i64 (x))]):=by rw[W,U.ao _ _ t,U.ai]
 have aK:G P=some (.cells (ab ay .nil .nil .nil)):=by rw[W,U.ai]
 have k3:G F=none:=by rw[W];exact V
 have a04:=(aV (M:= .nil) (e6:= .nil) (h4:= .nil) bj).len;refine aj (c6 @s @cp @n9 @k0 @n5 @U.set_set @k1) ?_;rw[<-W]
 let p:R->R:=λa=> .agg [a,.v (.bool true)];have k4: ∀d,aA de ((c.take d).map λr=>(r,true)) ((h.take d).map p):=by
  have: ∀(c) (h),aA isRow c h->aA de (c.map λr=>(r,true)) (h.map p):=by
   intro c
   induction c with
   |nil=>intro h z;cases h with
    |nil=>trivial
    |cons=>exact z.elim
   |cons o c ih=>intro h z;cases h with
    |nil=>exact z.elim
    |cons a h=>exact⟨by obtain⟨L,rfl⟩:=z.1;exact⟨L,rfl⟩,ih h z.2⟩
  exact λd=>this _ _ (g.take d)
 have a48: ∀d,((h.take d).map p).length<=100000:=λd=>by rw[a4Y,a4P,g.len];omega
 have k5: ∀ {y:U}{k c L},bh (G.set F (.cells k)) y 2 c L->y S=some (.cells [.ptr E 0,.v (.int .i64 (x))])/\y P=some (.cells (ab ay .nil .nil .nil))/\y F=some (.cells k):=λz=>⟨z.sub _ _ (by rw[U.ao _ _ a03];exact c2),z.sub _ _ (by rw[U.ao _ _ a02];exact aK),z.sub _ _ (U.ai _ _ _)⟩;refine ct (λC y=> ∃(d:Nat) (L:Own),d<=c.length/\bh (G.set F (.cells [.v (.int .u8 2),.J ((h.take d).map p) L,.J [] .nil])) y 2 ((h.take d).map p) L/\
   C 2= .ptr S 0/\C 4= .ptr P 0/\C 6= .ptr F 0/\C 10=q/\C 11= .v (.int .i64 c.length)/\C 12= .v (.int .i64 d))
  (λC _=>match C 12 with| .v (.int _ a05)=>c.length - a05.toNat| _=>0) ⟨0,.nil,a9p,?_,?_⟩ ?_
 .rw[show(h.take 0).map p= []from rfl,U.set_set];exact bh.nil U.a1
 .exact aS
 rintro C v ⟨d,L,a52,j,l,m,n,w,A,B⟩;obtain⟨a06,a07,k6⟩:=k5 j;by_cases k7:(d:Int)<c.length
 .have k8:c[d]? =some c[d]:=a4M a9p;generalize c[d]'a9p=r at k8;obtain⟨a,k9,H,rfl⟩:=g.get k8;obtain⟨a56,a08,a09⟩:=(Y.mono (U.aq k2 (U.aq (U.af U.a1 k3) j.sub))).get d _ k9;have l0:=a09.ld v U.a1 false 1 a9p (by simp[R.cells]);have a10:aX false 1 (R.J (ad r) H).cells= .J (ad r) H:=rfl;rw[a10]at l0;have a11:(h.take (d+1)).map p=(h.take d).map p++ [.agg [.J (ad r) H,.v (.bool true)]]:=by rw[a5Y,k9,a5P];rfl
  have a13: ∀a b k:R,aX false 1 ([a,b,k].drop 1)=b:=λ_ _ _=>rfl;have a14: ∀a b o:R,putAt [a,b] 0 [o]= [o,b]:=λ_ _ _=>rfl;have a15: ∀a b o:R,putAt [a,b] 1 [o]= [a,o]:=λ_ _ _=>rfl;have a16: ∀a b:R,[a,b].length=2:=λ_ _=>rfl;have a18: ∀b:Bool,(R.v (.bool b)).cells= [.v (.bool b)]:=λ_=>rfl;have l1: ∀(T) (l2),(R.J T l2).cells= [.J T l2]:=λ_ _=>rfl;refine aj (lV @l @m @n @w @A @B @k7 @a08 @l0 (U.ae k6) @a13 @a14 @a15 @a16 @a18 @l1) ?_;refine dc U.a1 (by simp[aR,R.cells]) λa57 a61 a19=> ?_;refine aa ?_;refine dY (j.mono a19.sub) ((k4 d).cells λ_ _=>de.cells) (by simp[aR,R.cells]) (by grind) (by grind) λl3 a62 I=> ?_;rw[<-a11]at I|-;obtain⟨a63,l4,a27⟩:=k5 I;refine aj (cf @l @m @n @w @A @B (U.aJ a27) @l1 @a00 @k0) ?_;have l5:=I.set (ob:= .cells [.v (.int .u8 2),.J ((h.take (d+1)).map p) l3,.J [] .nil]) (U.ai _ _ _);rw[U.set_set]at l5;exact⟨⟨d+1,l3,a9p,l5,a9q⟩,a9p⟩
 .obtain rfl:d=c.length:=a9p;have a29: ∀a b k,aX true 3 [a,b,k]= .agg [a,b,k]:=λ_ _ _=>rfl;have K:=k4 c.length;rw[a5i]at K;have l6:=U.aq k2 (U.aq (U.af U.a1 k3) j.sub);have a30:fW v (dT c) (.J ((h.take c.length).map p) L) (.J [] .nil) ((h.take c.length).map p) []:=by
   refine⟨K,trivial,bR.J (K.cells λ_ _=>de.cells),bR.J (by simp[aR]),?_,?_⟩
   .simp only[dT,a4Y];exact n4
   .simp[dT]
  refine aj (gf @l @m @n @w @A @B @k7 (U.ae a06) (U.ae k6) @a29 @s) ?_;have a34:=xE v E e f (X.mono l6) (dT c) _ _ _ _ x n2 n3 a30;refine ag a34 ?_;rintro r a65 ⟨a36,l7,l8⟩;have M:=X.cE u;have l4:=l7 _ _ M.1 M.2 a07;obtain⟨l9,N,O,Q,a68,n0,rfl⟩:=l8.shape;have n1:=aV (M:=N) (e6:=O) (h4:=Q) n0;have a38:=n1.len;have a42:putAt (ab ay .nil .nil .nil) 0 (ab l9 N O Q)=ab l9 N O Q:=cD bj n0;refine aj (cU @l @m @n @s (U.aJ l4) @a42 @a38 @a04 n1.t37) ?_;exact⟨_,U.a1,a36.set M,((Ext.of l6).trans l7).set u,l8⟩
def DG (a:U) (d x:Nat) (y:ah) (W:bB a d x y) (h:List az) (D:List R) (E:R) (b:Nat) (v:1<=b) (w:b<=8) (A:aA bu h D) (e:bR a 37 E D) (B:h.length<=100000):
  AC Tryz.prog 243 [dU d b,E] a λf g=>bB g d x (dx y b (ek h)).2/\Ext d x a g/\gV (dx y b (ek h)).1 f:=by
 refine bd hm Qn a9q ?_;have i: ∀j,(R.agg j).cells=j:=λ_=>rfl;have H: ∀k c o r:R,putAt [k,c,o] 0 [r]= [r,c,o]:=λ_ _ _ _=>rfl;have I: ∀k c o r:R,putAt [k,c,o] 2 [r]= [k,c,r]:=λ_ _ _ _=>rfl;have K: ∀k c o:R,[k,c,o].length=3:=λ_ _ _=>rfl;have M:=(aV (M:= .nil) (e6:= .nil) (h4:= .nil) bj).len;refine aa ?_;refine aN λl N=> ?_;refine aa ?_;refine aN λz C=> ?_;have m:l≠z:=by rintro rfl;rw[U.ai]at C;cases C
 have F:a z=none:=by rw[U.ao _ _ (a4U m)]at C;exact C
 obtain⟨p,G⟩: ∃p:U,p=(a.set l (.cells [.ptr d 0,.v (.int .i64 (b))])).set z (.cells (ab ay .nil .nil .nil)):=⟨_,rfl⟩;have L:a.sub p:=by rw[G];exact U.af (U.af U.a1 N) F
 have aK:p z=some (.cells (ab ay .nil .nil .nil)):=by rw[G,U.ai]
 refine aj (cU @i @cp @H @I @K e.one @U.ao @m @U.ai) ?_;rw[<-G];have O:fW p (ek h) (.J [] .nil) E [] D:=⟨trivial,A,bR.J (by simp[aR]),e.mono L,by simp[ek],B⟩;refine ag (xE p d x y (W.mono L) (ek h) _ _ _ _ b v w O) ?_;rintro f j9 ⟨Q,n,q⟩;have P:=W.cE F;have X:=n _ _ P.1 P.2 aK;obtain⟨s,S,T,V,k0,t,rfl⟩:=q.shape;have u:=aV (M:=S) (e6:=T) (h4:=V) t;have Y:=u.len;have Z:putAt (ab ay .nil .nil .nil) 0 (ab s S T V)=ab s S T V:=cD bj t;refine aj (bs @i (U.aJ X) @Z @Y @M u.t37) ?_;exact⟨_,U.a1,Q.set P,((Ext.of L).trans n).set F,q⟩
def xG (a:c3) (w A:List R) (p z:R) (r:U) (P:fW r a p z w A):
  AC Tryz.prog 236 [gH a p z] r λc V=> ∃d,aA isRow (a.rows.map Prod.fst) d/\au r V 1 (flat d) c:=by
 refine bd hm Qa a9q ?_;have S: ∀g,(R.agg g).cells=g:=λ_=>rfl;have B:=P.gT;have k5:=P.kx;refine aj @S ?_;refine aN λT H=> ?_;obtain⟨x,W⟩: ∃x:U,x=r.set T (.cells [.v (.int .u8 (a.kind.toNat)),p,z]):=⟨_,rfl⟩;have i:r.sub x:=by rw[W];exact U.af U.a1 H
 have k6:x T=some (.cells [.v (.int .u8 (a.kind.toNat)),p,z]):=by rw[W,U.ai]
 have I:=P.lO.mono i;refine aj (aH @S @U.ai @B) ?_;rw[show r.set T (.cells (gH a p z).cells)=x from W.symm];refine ct (λk V=> ∃(b:Nat) (c:R) (d:List R),b<=a.rows.length/\aA isRow ((a.rows.take b).map Prod.fst) d/\au x V 1 (flat d) c/\k 1= .ptr T 0/\k 3=c/\k 7=p/\k 8= .v (.int .i64 a.rows.length)/\k 9= .v (.int .i64 b))
  (λk _=>match k 9 with| .v (.int _ K)=>a.rows.length - K.toNat| _=>0) ⟨0,.J [] .nil,[],a9p,trivial,au.nil U.a1,?_⟩ ?_
 .exact mT
 rintro k M ⟨b,c,d,k7,C,e,D,E,F,G,L⟩;by_cases j:(b:Int)<a.rows.length
 .have f:a.rows[b]? =some a.rows[b]:=a4M a9p;have l:a.rows.take (b+1)=a.rows.take b++ [a.rows[b]]:=by rw[a5Y,f];rfl
  generalize a.rows[b]'a9p=h at f l;obtain⟨y,N,o,rfl⟩:=P.rows.get f;obtain⟨k8,O,Q⟩:=I.get b _ N;have m:=Q.ld M e.1 true 2 a9p (by simp[R.cells]);have X:aX true 2 (R.agg [.J (ad h.1) o,.v (.bool h.2)]).cells= .agg [.J (ad h.1) o,.v (.bool h.2)]:=rfl;have n: ∀c y q s:R,putAt [c,y] 0 [q,s]= [q,s]:=λ_ _ _ _=>rfl;have t: ∀c y:R,[c,y].length=2:=λ_ _=>rfl;have Y: ∀c y:R,aX false 1 [c,y]=c:=λ_ _=>rfl;rw[X]at m;refine aj (gf @D @E @F @G @L @j @O @m @S @n @t) ?_;refine aN λk9 Z=> ?_;have j9:=au.mono e (U.af (Y:= .cells [.J (ad h.1) o,.v (.bool h.2)]) U.a1 Z);refine aj (gf @D @E @F @G @L @S @n @t @Y @U.set_set @U.ai) ?_;refine eO (by simp[aR,R.cells]) a9q λl0 k0=> ?_;have k1:=au.mono j9 (U.af (Y:= .cells (flat [R.J (ad h.1) o])) U.a1 k0);have k2:aA isRow ((a.rows.take b).map Prod.fst++ [h.1]) (d++ [R.J (ad h.1) o]):=C.snoc ⟨_,rfl⟩;have u:(flat d).length=b:=by rw[db (C.cells λ_ _=>isRow.cells),C.len];simp;omega
  refine aj (bm @D @E @F @G @L) ?_;refine fh k1 a9p (oh rfl) rfl (by rw[u];simp[flat,R.cells];omega) (by rw[u];simp[flat,R.cells];omega) λk3 l1 v=> ?_;have k4:flat d++flat [R.J (ad h.1) o]=flat (d++ [R.J (ad h.1) o]):=by simp[flat]
  rw[k4]at v;refine aj (bm @D @E @F @G @L) ?_;refine⟨⟨b+1,k3,_,a9p,?_,v,a9q⟩,a9p⟩;rw[l,a5P];exact k2
 .obtain rfl:b=a.rows.length:=a9p;rw[a5i]at C;refine aj (bs @D @E @F @G @L @j) ?_;exact⟨_,U.a1,d,C,e.base i⟩
def iD (b:ah) (c:Nat) (d:az):Option c3:=
 match fk b c d with
 |none=>none
 |some a=>if a.kind=2\/a.kind=3 then some a else none
theorem xH (b:U) (T I:Nat) (V:ah) (k1:bB b T I V) (o:az) (W e f:Own) (K:o.sum.length=32) (k2:o.cB) (p:Nat) (k3:1<=p) (k4:p<=8):
  AC Tryz.prog 234 [dU T p,.agg (ab o W e f)] b λq y=>b.sub y/\match iD V p o with
   |none=>q= .aI [xw,.v (.int .i64 21)]
   |some a=> ∃d h,q= .aI [gH a d h,.v (.int .i64 0)]/\hs b y a d h:=by
 refine bd hm Q6 a9q ?_;have c: ∀M,(R.agg M).cells=M:=λ_=>rfl;have z: ∀C D E d h N:R,putAt [C,D,E] 0 [d,h,N]= [d,h,N]:=λ_ _ _ _ _ _=>rfl;have L: ∀C D E,aX true 3 [C,D,E]= .agg [C,D,E]:=λ_ _ _=>rfl;have F: ∀C D E:R,[C,D,E].length=3:=λ_ _ _=>rfl;have O:=aV (M:=W) (e6:=e) (h4:=f) K;have s:=O.len;refine aj @c ?_;refine aN λt l3=> ?_;refine aj (c2 @c @s) ?_;refine aN λg i=> ?_;have u:t≠g:=by rintro rfl;rw[U.ai]at i;cases i
 have l4:b g=none:=by rw[U.ao _ _ (a4U u)]at i;exact i
 refine aj (c2 @c @s) ?_;refine aN λk j=> ?_;have k5:g≠k:=by rintro rfl;rw[U.ai]at j;cases j
 have k6:t≠k:=by rintro rfl;rw[U.ao _ _ u,U.ai]at j;cases j
 have k7:b k=none:=by simp_all [U.ao,a4U]
 obtain⟨P,Q⟩: ∃P:U,P=((b.set t (.cells [.ptr T 0,.v (.int .i64 (p))])).set g (.cells (ab o W e f))).set k (.cells [.v (.int .u8 0),.J [] .nil,.J [] .nil]):=⟨_,rfl⟩;have v:b.sub P:=by grind[U.af,U.a1]
 have aK:P k=some (.cells [.v (.int .u8 0),.J [] .nil,.J [] .nil]):=by rw[Q,U.ai]
 have l: ∀(y) (X),b.sub y->b.sub (y.set k X):=λy X w=>U.af w k7;refine aj (bt @c @s @U.ao @u @k6 @k5 @U.ai O.t37) ?_;rw[<-Q];refine ag (xx P T I V (k1.mono v) o W e f K k2 p k3 k4) ?_;rintro q l5 ⟨Y,m⟩;have k8:=U.aq v Y;have G:=Y _ _ aK;unfold iD;cases Z:fk V p o with
 |none=>
  rw[Z]at m;obtain rfl:=m;refine aj (aH @c @z @F) ?_;refine aN λA r=> ?_;have x:k≠A:=by rintro rfl;rw[G]at r;cases r
  have S:=a4U x;refine aj (cU @c @z @F @L @U.set_set @U.ao @x @S (U.aJ G)) ?_;grind[U.a1,U.aq,U.af]
 |some a=>
  rw[Z]at m;obtain⟨d,h,rfl,k9⟩:=m;simp -dsimp -implicitDefEqProofs (disch:=first|omega|assumption|(simp only[bk,Nat.reduceAdd];try omega)) only[go_sem,simprocAttr,-List.reduceReplicate,c,z,F,L];refine aN λA r=> ?_;have x:k≠A:=by rintro rfl;rw[G]at r;cases r
  have S:=a4U x;have l0:=(k9.mono (U.af (Y:= .cells [.v (.int .u8 (a.kind.toNat)),d,h]) U.a1 r)).set (ob:= .cells [.v (.int .u8 (a.kind.toNat)),d,h]) aK;have l6:=l0.base (l _ _ v);have B:=U.aq k8 (U.af (Y:= .cells [.v (.int .u8 (a.kind.toNat)),d,h]) U.a1 r);have l1:=iB a.kind 2 a9p;have l2:=iB a.kind 3 a9p;simp only[a7O]at l1 l2;simp only;by_cases j9:a.kind=2
  .have n:((a.kind.toNat:Int)=2)=True:=by rw[j9];simp
   refine aj (gf @c @z @F @L @U.set_set @U.ai @U.ao @x @S (U.aJ G) @n) ?_;refine⟨_,U.a1,l _ _ B,?_⟩;grind
  .have n: ¬(a.kind.toNat:Int)=2:=λw=>j9 (by simp_all);by_cases k0:a.kind=3
   .have H:((a.kind.toNat:Int)=3)=True:=by rw[k0];simp
    refine aj (gP @c @z @F @L @U.set_set @U.ai @U.ao @x @S (U.aJ G) @n @H) ?_;refine⟨_,U.a1,l _ _ B,?_⟩;grind
   .have H: ¬(a.kind.toNat:Int)=3:=λw=>k0 (by simp_all);refine aj (gP @c @z @F @L @U.set_set @U.ai @U.ao @x @S (U.aJ G) @n @H) ?_;refine⟨_,U.a1,l _ _ B,?_⟩;simp_all
def xI (k:c3) (L P:List R) (d h:R) (o:U) (S:fW o k d h L P):
  AC Tryz.prog 248 [gH k d h] o λi j=> ∃a r,i= .agg [.v (.bool (decide (k.kind=2))),a,h]/\aA isRow (k.rows.map Prod.fst) r/\au o j 1 (flat r) a:=by
 refine bd hm Qw a9q ?_;have x: ∀T,(R.agg T).cells=T:=λ_=>rfl;have V: ∀a b c,aX true 3 [a,b,c]= .agg [a,b,c]:=λ_ _ _=>rfl;have l: ∀a b c:R,[a,b,c].length=3:=λ_ _ _=>rfl;have m: ∀a b c d h W:R,putAt [a,b,c] 0 [d,h,W]= [d,h,W]:=λ_ _ _ _ _ _=>rfl;have n: ∀a b c d:R,putAt [a,b,c] 0 [d]= [d,b,c]:=λ_ _ _ _=>rfl;have q: ∀a b c d:R,putAt [a,b,c] 1 [d]= [a,d,c]:=λ_ _ _ _=>rfl;have s: ∀a b c d:R,putAt [a,b,c] 2 [d]= [a,b,d]:=λ_ _ _ _=>rfl;have t: ∀b:Bool,(R.v (.bool b)).cells= [.v (.bool b)]:=λ_=>rfl;have u: ∀a b c:R,aX false 1 ([a,b,c].drop 2)=c:=λ_ _ _=>rfl;have e: ∀a b c:R,List.take 3 [a,b,c]= [a,b,c]:=λ_ _ _=>rfl;refine aj @x ?_;refine aN λE v=> ?_;refine aj @x ?_;refine aN λy z=> ?_;have F:E≠y:=by rintro rfl;rw[U.ai]at z;cases z
 have f:o y=none:=by rw[U.ao _ _ (a4U F)]at z;exact z
 obtain⟨p,C⟩: ∃p:U,p=(o.set E (.cells [.v (.int .u8 (k.kind.toNat)),d,h])).set y (.cells [.v (.bool false),.J [] .nil,.J [] .nil]):=⟨_,rfl⟩;have g:o.sub p:=by rw[C];exact U.af (U.af U.a1 v) f
 have w:p E=some (.cells [.v (.int .u8 (k.kind.toNat)),d,h]):=by rw[C,U.ao _ _ F,U.ai]
 have c2:p y=some (.cells [.v (.bool false),.J [] .nil,.J [] .nil]):=by rw[C,U.ai]
 have G:=iB k.kind 2 a9p;simp only[a7O]at G;have A:UInt8.ofNat 2=2:=rfl;rw[A]at G;refine aj (bs @x @U.ao @F @U.ai @V @e) ?_;rw[<-C];refine ag (xG k L P d h p (S.mono g)) ?_;rintro a N ⟨r,B,D⟩;have H:=D.1 _ _ w;have I:=D.1 _ _ c2;have K:=fG D;have M:=S.gO.one;refine aj (p4 @x (U.ae H) (U.aJ I) @V @e @u @t @K @M @n @q @s @l @m @G) ?_;refine⟨_,U.a1,a,r,rfl,B,?_⟩;exact(jL D c2).base (U.af g f)
theorem Yz (h:R) (c d:R) (a b:Nat) (E:c.cells= [c]) (F:d.cells= [d]) (G:h.cells= [h]) (r:fa c=some (.v (.int .i64 (a:Int)))) (x:fa d=some (.v (.int .i64 (b:Int)))) (L:a<=1000000000000) (P:b<=1000000000000) (k:U):
  AC Tryz.prog 312 [.agg [h,c,d]] k λy z=>z=k/\y= .v (.bool (decide (a+b<2))):=by
 refine bd hm RP a9q ?_;have o: ∀p,(R.agg p).cells=p:=λ_=>rfl;refine aj @o ?_;refine aN λS C=> ?_;refine aj (aH @o @r @x) ?_;have D:decide ((a:Int)+b<2)=decide (a+b<2):=by grind
 exact⟨k,U.af U.a1 C,rfl,by rw[D]⟩
def me (a:ah) (b:Nat) (c:Bool) (d:List (List Int)) (h:List az):Except Int az×ah:=if c=true then dx a b (dT d)else dx a b (ek h)
theorem DH (a:U) (b d:Nat) (E:ah) (s:bB a b d E) (F:Bool) (G:List (List Int)) (t:List R) (g:R) (L:List az) (u:List R) (i:R) (c:Nat) (K:1<=c) (M:c<=8) (k3:aA isRow G t) (k4:bR a 1 g t) (k5:G.length<=100000) (k6:aA bu L u) (k7:bR a 37 i u) (k8:L.length<=100000):
  AC Tryz.prog 161 [dU b c,.agg [.v (.bool F),g,i]] a λy N=>bB N b d (me E c F G L).2/\Ext b d a N/\gV (me E c F G L).1 y:=by
 refine bd hm O1 a9q ?_;have h: ∀O,(R.agg O).cells=O:=λ_=>rfl;have Q:=(aV (M:= .nil) (e6:= .nil) (h4:= .nil) bj).len;have X: ∀P S:R,List.take 2 [P,S]= [P,S]:=λ_ _=>rfl;have Y: ∀P S,aX true 2 [P,S]= .agg [P,S]:=λ_ _=>rfl;refine aj @h ?_;refine aN λv l1=> ?_;refine aj @h ?_;refine aN λj l=> ?_;have m:v≠j:=by rintro rfl;rw[U.ai]at l;cases l
 have l2:a j=none:=by rw[U.ao _ _ (a4U m)]at l;exact l
 refine aj (c2 @h @cp) ?_;refine aN λz n=> ?_;have Z:j≠z:=by rintro rfl;rw[U.ai]at n;cases n
 have j9:v≠z:=by rintro rfl;rw[U.ao _ _ m,U.ai]at n;cases n
 have w:a z=none:=by simp_all [U.ao,a4U]
 obtain⟨k,A⟩: ∃k:U,k=((a.set v (.cells [.ptr b 0,.v (.int .i64 (c))])).set j (.cells [.v (.bool F),g,i])).set z (.cells (ab ay .nil .nil .nil)):=⟨_,rfl⟩;have C:a.sub k:=by grind[U.af,U.a1]
 have aK:k z=some (.cells (ab ay .nil .nil .nil)):=by rw[A,U.ai]
 have q:=s.cE w;unfold me;have k0: ∀(k1) (k2) (y) (D),bB D b d k2->Ext b d k D->gV k1 y->D z=some (.cells (ab ay .nil .nil .nil)):=λk1 k2 y D _ k9 _=>k9 _ _ q.1 q.2 aK;cases F with
 |true=>refine aj (cU @h @cp @U.ao @m @j9 @Z @U.ai @X @Y) ?_;rw[<-A];refine ag (xF k b d E (s.mono C) G t g c K M k3 (k4.mono C) k5) ?_;rintro y D ⟨T,V,o⟩;have B:=k0 _ _ _ _ T V o;obtain⟨W,p,r,x,l0,e,rfl⟩:=o.shape;have f:=aV (M:=p) (e6:=r) (h4:=x) e;have H:=f.len;have I:putAt (ab ay .nil .nil .nil) 0 (ab W p r x)=ab W p r x:=cD bj e;refine aj (bs @h (U.aJ B) @I @H @Q f.t37) ?_;exact⟨_,U.a1,T.set q,((Ext.of C).trans V).set w,o⟩
 |false=>refine aj (cU @h @cp @U.ao @m @j9 @Z @U.ai @X @Y) ?_;rw[<-A];refine ag (DG k b d E (s.mono C) L u i c K M k6 (k7.mono C) k8) ?_;rintro y D ⟨T,V,o⟩;have B:=k0 _ _ _ _ T V o;obtain⟨W,p,r,x,l0,e,rfl⟩:=o.shape;have f:=aV (M:=p) (e6:=r) (h4:=x) e;have H:=f.len;have I:putAt (ab ay .nil .nil .nil) 0 (ab W p r x)=ab W p r x:=cD bj e;refine aj (bs @h (U.aJ B) @I @H @Q f.t37) ?_;exact⟨_,U.a1,T.set q,((Ext.of C).trans V).set w,o⟩
abbrev ht (a:List Int) (b:c3):Nat:=a6.cR bC a (b.kids.map (·.key))
variable{Q:List (List Int)}{q b6:List Int}
def YA {a:List Int}:a6.cR bC q (a::b6::Q)=if bC q b6=true then 0 else a6.cR bC q (b6::Q)+1:=rfl
theorem DI (a:c3) (B H:List R) (r x:R) (c:List Int) (P:Own) (d:U) (z:fW d a r x B H):
  AC Tryz.prog 240 [gH a r x,.J (ad c) P] d λI S=>S=d/\I= .v (.int .i64 (ht c a:Int)):=by
 refine bd hm Qi a9q ?_;have V: ∀W,(R.agg W).cells=W:=λ_=>rfl;have e:=z.uc;have k4:=z.ix;refine aj @V ?_;refine aN λC K=> ?_;obtain⟨h,T⟩: ∃h:U,h=d.set C (.cells [.v (.int .u8 (a.kind.toNat)),r,x]):=⟨_,rfl⟩;have M:d.sub h:=by rw[T];exact U.af U.a1 K
 have c2:h C=some (.cells [.v (.int .u8 (a.kind.toNat)),r,x]):=by rw[T,U.ai]
 have N:=z.gO.mono M;refine aj @V ?_;rw[show d.set C (.cells (gH a r x).cells)=h from T.symm];refine ct (λk S=> ∃b:Nat,S=h/\ht c a=b+a6.cR bC c ((a.kids.map (·.key)).drop b)/\b<=a.kids.length/\k 1= .J (ad c) P/\k 2= .ptr C 0/\k 5= .v (.int .i64 b))
  (λk _=>match k 5 with| .v (.int _ O)=>a.kids.length - O.toNat| _=>0) ⟨0,rfl,a9q,a9p,?_⟩ ?_
 .exact mT
 rintro k f ⟨b,rfl,y,k5,D,E,F⟩;have g: ∀i Q j:R,aX false 1 ([i,Q,j].drop 2)=j:=λ_ _ _=>rfl;by_cases l:(b:Int)+1<a.kids.length
 .have m:a.kids[b+1]? =some a.kids[b+1]:=a4M a9p;have n:(a.kids.map (·.key)).drop b=(a.kids[b]'a9p).key::(a.kids[b+1]'a9p).key::(a.kids.map (·.key)).drop (b+2):=by grind[List.drop_eq_getElem_cons,List.length_map]
  have q:(a.kids.map (·.key)).drop (b+1)=(a.kids[b+1]'a9p).key::(a.kids.map (·.key)).drop (b+2):=by rw[a5l (by rw[a4Y];omega)];simp
  rw[n,YA,<-q]at y;clear n q;generalize a.kids[b+1]'a9p=o at m y;obtain⟨i,X,Y,k6,G,L,p,rfl⟩:=z.kids.get m;obtain⟨k7,s,t⟩:=N.get (b+1) _ X;have u:=aV (M:=G) (e6:=L) (h4:=p) Y;have Z:(R.agg (ab o G L p)).cells=ab o G L p:=rfl;rw[Z]at t;obtain⟨k8,j9,v⟩:=t.kQ f U.a1 36 false 1 a9p (by rw[u.len];omega);have k0:aX false 1 ((ab o G L p).drop 36)= .J (ad o.key) p:=by rw[u.d36];rfl
  rw[k0]at v;have k1:((b+1:Nat))=(b:Int)+1:=a9p;rw[k1]at s;refine aj (cf @D @E @F (U.ae c2) @g @e @l @s @j9 @v) ?_;refine ag (xy c o.key P p _) ?_;rintro _ f ⟨rfl,rfl⟩;cases w:bC c o.key with
  |true=>rw[if_pos w]at y;refine aj (aK @D @E @F @a5G) ?_;simp_all
  |false=>rw[if_neg (by simp[w])]at y;refine aj (aK @D @E @F @a5H) ?_;grind
 .have k2:a6.cR bC c ((a.kids.map (·.key)).drop b)=0:=by
   have A:((a.kids.map (·.key)).drop b).length<=1:=by grind
   generalize (a.kids.map (·.key)).drop b=k3 at A
   match k3,A with
   | [],_=>rfl
   | [_],_=>rfl
  rw[k2]at y;refine aj (c6 @D @E @F (U.ae c2) @g @e @l) ?_;simp_all
def mf (c:List (List Int)) (d:List Int):Nat->Nat->Nat->Nat
 |0,a,_=>a
 |h+1,a,b=>if a<b then(match c[(a+b)/2]? with
  |some k=>if mc k d<0 then mf c d h ((a+b)/2+1) b else mf c d h a ((a+b)/2)
  |none=>a)else a
def eU (a:List (List Int)) (b:List Int):Nat:=mf a b a.length 0 a.length
def kA (a:List (List Int)) (b:List Int):Bool:=match a[eU a b]? with|some c=>decide (mc c b=0)|none=>false
theorem DJ (b:List (List Int)) (n:List R) (V:R) (d:List Int) (L:Own) (P:U) (W:aA isRow b n) (e:bR P 1 V n) (N:b.length<=1000000000000):
  AC Tryz.prog 235 [V,.J (ad d) L,.bG 237 [] []] P λh f=>f=P/\eU b d<=b.length/\h= .aI [.v (.int .i64 (eU b d:Int)),.v (.bool (kA b d))]:=by
 refine bd hm Q8 a9q ?_;have q:=e.len;rw[W.len]at q;refine aj @q ?_;have s:fZ Tryz.prog 237=true:=by rfl
 refine ct (λk f=> ∃(r a c:Nat),f=P/\eU b d=mf b d r a c/\a<=c/\c<=b.length/\c - a<=r/\k 0=V/\k 1= .J (ad d) L/\k 2= .bG 237 [] []/\k 8= .v (.int .i64 b.length)/\k 9= .v (.int .i64 a)/\k 10= .v (.int .i64 c))
  (λk _=>match k 9,k 10 with| .v (.int _ a),.v (.int _ c)=>(c - a).toNat| _,_=>0) ⟨b.length,0,b.length,rfl,rfl,a9p,a9p,a9p,?_⟩ ?_
 .exact mT
 rintro k S ⟨r,a,c,rfl,x,O,Q,X,y,z,C,D,E,F⟩;by_cases g:(a)<(c:Int)
 .obtain⟨Y,rfl⟩: ∃v,r=v+1:=⟨r - 1,a9p⟩;have w:a<c:=a9p;have t:(a+c)/2<b.length:=a9p;have o:=a4M t;rw[mf,if_pos w,o]at x;simp only at x;generalize b[(a+c)/2]'t=h at o x;obtain⟨A,i,p,rfl⟩:=W.get o;obtain⟨B,j,l⟩:=e.get _ _ i;have G:=l.ld S U.a1 false 1 a9p (by simp[R.cells]);have m:aX false 1 (R.J (ad h) p).cells= .J (ad h) p:=rfl;rw[m]at G;have H:IntKind.u64.wrap ((a)+c)=((a+c:Nat)):=by rw[wrap_u64 a9p a9p];omega
  have I:bn .shr (.int .u64 ((a+c:Nat))) (.int .u64 1)=some (.int .u64 (((a+c)/2:Nat))):=by rw[rS _ _ _ a9p a9p];rfl
  have K:IntKind.i64.wrap (((a+c)/2:Nat))=(((a+c)/2:Nat)):=wrap_i64 a9p a9p;generalize Z:(a+c)/2=j9 at*;refine aj (gP @y @z @C @D @E @F @g @H @I @K @j @G) ?_;refine fD s (Dw h d p L _) ?_;rintro _ S ⟨rfl,rfl⟩;by_cases T:mc h d<0
  .rw[if_pos T]at x;refine aj (c6 @y @z @C @D @E @F @T) ?_;grind
  .rw[if_neg T]at x;refine aj (c6 @y @z @C @D @E @F @T) ?_;grind
 .obtain rfl:a=c:=a9p;have M:eU b d=a:=by rw[x];cases r<;>simp[mf]
  unfold kA;rw[M];by_cases u:(a:Int)<b.length
  .have o:b[a]? =some b[a]:=a4M a9p;rw[o];generalize b[a]'a9p=h at o;obtain⟨A,i,p,rfl⟩:=W.get o;obtain⟨B,j,l⟩:=e.get _ _ i;have G:=l.ld S U.a1 false 1 a9p (by simp[R.cells]);have m:aX false 1 (R.J (ad h) p).cells= .J (ad h) p:=rfl;rw[m]at G;refine aj (cf @y @z @C @D @E @F @g @u @j @G) ?_;refine fD s (Dw h d p L _) ?_;rintro _ S ⟨rfl,rfl⟩;refine aj (bs @y @z @C @D @E @F) ?_;exact⟨_,U.a1,rfl,a9p⟩
  .have o:b[a]? =none:=a7x a9p;rw[o];refine aj (bt @y @z @C @D @E @F @g @u) ?_;exact⟨_,U.a1,rfl,a9p⟩
def ds (d h:U) (b c:Nat) (k:ah) (o:Nat) (p:List R) (r:R):Prop:= ∃a,au a h o p r/\bB a b c k/\Ext b c d a
theorem ds.nil {a:U}{b c h:Nat}{d:ah} (k:bB a b c d):ds a a b c d h [] (.J [] .nil):=⟨a,au.nil U.a1,k,Ext.refl⟩
def ds.gJ (a:ds t f e i H v g n):bB f e i H:=by obtain⟨d,b,c,_⟩:=a;exact c.mono b.1
def ds.ext (a:ds f t e i H v g n):Ext e i f t:=by obtain⟨d,b,_,c⟩:=a;exact c.trans (Ext.of b.1)
theorem ds.of {s:U}{l lM:Nat} (a:au f s e g n) (b:bB f l lM H) (c:Ext l lM t f):ds t s l lM H e g n:=⟨f,a,b,c⟩
def ds.mono {b c d:U}{h k:Nat}{o:ah}{p:Nat}{r:List R}{a:R} (x:ds b c h k o p r a) (y:c.sub d):ds b d h k o p r a:=by obtain⟨z,C,D⟩:=x;exact⟨z,C.mono y,D⟩
theorem ds.base (a:ds f e4 e i H v g n) (b:Ext e i t f):ds t e4 e i H v g n:=by obtain⟨c,d,h,k⟩:=a;exact⟨c,d,h,b.trans k⟩
theorem ds.step {r x h:U}{a b:Nat}{L y:ah}{z:Nat}{C:List R}{D:R} (P:ds r x a b L z C D) (E:Ext a b x h) (F:bB h a b y):ds r h a b y z C D:=by
 obtain⟨S,⟨T,o⟩,V,W⟩:=P;have e:=F.ne;refine⟨λc=>if c=a then h a else if c=b then h b else S c,⟨λc f d=> ?_,?_⟩,F.other a9q (by simp[a4U e]),λc f cd ca d=> ?_⟩
 .by_cases k:c=a
  .subst k;simpa using d
  .by_cases p:c=b
   .subst p;simpa[k] using d
   .simp only[k,p,if_false]at d;exact E _ _ k p (T _ _ d)
 .rcases o with o|⟨g,i,j,l,m,n,q,s⟩
  .exact .inl o
  .have G:=V.cE n;exact .inr ⟨g,i,j,l,m,by grind,E _ _ G.1 G.2 q,s⟩
 .simp only[cd,ca,if_false];exact W _ _ cd ca d
theorem xJ (k:e≠1): ∀ {a:List R},(∀c∈a,∃b,c= .agg b/\b.length=e)->ee e a.length (flat a)=a:=by
 intro a d;have o:aR e a:=λc p=>by obtain⟨b,rfl,r⟩:=d c p;exact r
 unfold ee;rw[if_neg k];refine a8u λx=> ?_;rw[a5n];by_cases aU:x<a.length
 .rw[a7b aU];have h:=a4M aU;have:=D8 o h;obtain⟨b,y,_⟩:=d _ (a5p aU);rw[h,a5O,this,y];rfl
 simp_all
theorem DK {h:List az} (a:aA bu h g): ∀b∈g,∃c,b= .agg c/\c.length=37:=by intro b k;obtain⟨o,p,rfl⟩:=a5y k;have z:=a.len;obtain⟨C,d,r⟩:=a.get (a4M (i:=o) a9p);rw[a4M p]at d;obtain rfl:=a4L d;obtain⟨x,_,D,E,F,y⟩:=r;exact⟨_,y,(aV x).len⟩
def ds.view (d:ds f t e i H v g n): ∃b a,g.length=b*v/\View t n a (.J (ee v b g) .any)/\bB a e i H/\Ext e i f a:=by obtain⟨x,h,k,o⟩:=d;obtain⟨b,a,p,c,r⟩:=View.dR h;exact⟨b,a,p,r,k.mono c,o.trans (Ext.of c)⟩
theorem ds.ui {b:List az} (c:ds f t e i H 37 (flat g) n) (d:aA bu b g): ∃a,View t n a (.J g .any)/\bB a e i H/\Ext e i f a:=by obtain⟨k,a,h,o,p⟩:=c.view;rw[db (d.cells λ_ _=>bu.cells)]at h;grind[xJ,DK]
theorem au.ui {b:List az} (c:au f t 37 (flat g) n) (d:aA bu b g): ∃a,View t n a (.J g .any)/\f.sub a:=by obtain⟨k,a,h,o,p⟩:=View.dR c;rw[db (d.cells λ_ _=>bu.cells)]at h;grind[xJ,DK]
theorem nj (a:aA isRow Q g):flat g=g:=by
 induction Q generalizing g with
 |nil=>cases g with
  |nil=>rfl
  |cons=>exact a.elim
 |cons b Q ih=>cases g with
  |nil=>rfl
  |cons c g=>obtain⟨d,rfl⟩:=a.1;have:=ih a.2;simp only[flat,a5o]at this|-;rw[this];rfl
theorem au.DL (b:au f t 1 (flat g) n) (c:aA isRow Q g): ∃a,View t n a (.J g .any)/\f.sub a:=by grind[View.dR,nj,ks,List.take_of_length_le]
def et {c:Type} (d:List c->c3) (h:Nat):ah->List (List c)->List az->Except Int (List az)×ah
 |a,[],acc=>(.ok acc,a)
 |a,k::gs,acc=>
  match dx a h (d k)with
  |(.error o,b)=>(.error o,b)
  |(.ok p,b)=>et d h b gs (acc++ [p])
def YB (d:Except Int (List az)) (a:R):Prop:=
 match d with
 | .error b=>b≠0/\a= .aI [.J [] .nil,.v (.int .i64 b)]
 | .ok bI=> ∃c h,aA bu bI c/\a= .aI [.J c h,.v (.int .i64 0)]
variable{b0:Type}
def hv (b:b0->R->Prop) (c:List b0) (d:R):Prop:= ∃a h,d= .J a h/\aA b c a
theorem hv.cells {a:Type}{c:a->R->Prop}{d:List a}{b:R} (h:hv c d b):b.cells.length=1:=by obtain⟨_,_,rfl,_⟩:=h;rfl
theorem aA.xK {b:b0->R->Prop}{a:List b0} (c:aA b a []):a= []:=by cases a with|nil=>rfl|cons=>exact c.elim
def DM (a:0<e) (c:i<=100000):i/e+(if 0<i%e then 1 else 0)<=i:=by
 have d:=a7I i e;by_cases b:0<i%e
 .rw[if_pos b];have:i/e<=e*(i/e):=a8P _ a;omega
 .rw[if_neg b];have:i/e<=e*(i/e):=a8P _ a;omega
theorem DN (d:List (List Int)) (a:List R) (h:Own) (c:U) (k:aA isRow d a) (F:d.length<=100000):
  AC Tryz.prog 311 [.J a h] c λp r=> ∃o,bh c r 1 a o/\p= .J a o:=by
 refine mS λG=> ?_;have x:h= .nil->a= []:=λy=>by subst y;simp_all
 refine bd hm RL a9q ?_;simp -dsimp -implicitDefEqProofs (disch:=first|omega|assumption|(simp only[bk,Nat.reduceAdd];try omega)) only[go_sem,simprocAttr,-List.reduceReplicate,↓o6];refine o7 (λb=>by rw[x b]) (λb=> ?_) ?_
 .have z:a= []:=by trivial
  subst z;refine aj @a5H ?_;exact⟨c,U.a1,.nil,bh.nil U.a1,rfl⟩
 .refine bT ?_;refine dc U.a1 (by simp[aR]) λL P C=> ?_;refine bT ?_;have S:=k.len;refine dY C (λ_ b=>by cases b) (k.cells λ_ _=>isRow.cells) (by rw[a4W];omega) (by rw[a4W];omega) λD E T=> ?_;refine aj @a5f.{0} ?_;exact⟨E,U.a1,D,by trivial,rfl⟩
theorem YC (L:List (List Int)) (S:List R) (u:Own) (c:Nat) (T:U) (M:aA isRow L S) (N:L.length<=100000) (k4:c<=100000):
  AC Tryz.prog 303 [.J S u,.v (.int .i64 (c:Int))] T λO V=>T.sub V/\ ∃gs Q,O= .J gs Q/\aA (hv isRow) (a6.eS c L) gs:=by
 refine bd hm RH a9q ?_;refine bT ?_;refine ct (λz V=> ∃(d:Nat) (b:List (List Int)) (h:List R) (E:Own) (gs:List R) (P:Own) (F:List (List (List Int))),d<=c/\F++a6.eS (c - d) b=a6.eS c L/\aA isRow b h/\b.length<=100000/\F.length=d/\aA (hv isRow) F gs/\bh T V 1 gs P/\
   z 0= .J h E/\z 1= .v (.int .i64 c)/\z 5= .J gs P/\z 8= .v (.int .i64 c)/\z 9= .v (.int .i64 d))
  (λz _=>match z 9 with| .v (.int _ X)=>c - X.toNat| _=>0) ⟨0,L,S,u,[],.nil,[],a9p,rfl,M,N,rfl,trivial,bh.nil U.a1,?_⟩ ?_
 .exact mT
 rintro z k5 ⟨d,b,h,E,gs,P,F,k6,C,k,Y,v,D,W,o,p,r,x,y⟩;by_cases e:(d)<(c:Int)
 .have w:=k.len;have Z:=DM (e:=c - d) a9p Y;have A:(c) -(d)=((c - d:Nat):Int):=a9p;rw[show c - d=(c -(d+1))+1 by omega,a6.eS]at C;rw[show c -(d+1)+1=c - d by omega]at C;generalize k7:c - d=G at*;have B: ¬(G:Int)=0:=a9p;have k8:=a7J b.length G;have H:(b.length:Int).tdiv (G:Int)=((b.length/G:Nat)):=rfl;have I:(b.length:Int).tmod (G:Int)=((b.length%G:Nat)):=rfl;obtain⟨a,f⟩: ∃a,a=b.length/G+(if 0<b.length%G then 1 else 0):=⟨_,rfl⟩;rw[<-f]at Z C;by_cases K:0<b.length%G
  .have g:((0)<((b.length%G:Nat):Int))=True:=eq_true a9p;have i:((b.length/G:Nat))+1=(a:Int):=by rw[f,if_pos K];omega
   have j:dI 1 (.J h E) none (some (.v (.int .i64 (a))))=some (.J (h.take a) .any):=nV a9p a9p (k.cells λ_ _=>isRow.cells);have l:dI 1 (.J h E) (some (.v (.int .i64 (a)))) none=some (.J (h.drop a) .any):=qi a9p a9p (k.cells λ_ _=>isRow.cells);refine aj (gg @o @p @r @x @y @e @w @A @H @I @B @g @i @j) ?_;refine ag (DN (b.take a) (h.take a) .any _ (k.take a) (by rw[a4P];omega)) ?_;rintro _ j9 ⟨m,n,rfl⟩;refine aj (bm @o @p @r @x @y) ?_;refine dc U.a1 (by simp[aR,R.cells]) λk0 k1 q=> ?_;refine aj (bm @o @p @r @x @y) ?_;have k2:=D.len;refine dY (W.mono (U.aq n.sub q.sub)) (D.cells λ_ _=>hv.cells) (by simp[aR,R.cells]) (by grind) (by grind) λs k3 t=> ?_;refine aj (bs @o @p @r @x @y @l) ?_;refine⟨⟨d+1,b.drop a,h.drop a,.any,gs++ [.J (h.take a) m],s,F++ [b.take a],a9p,?_,k.drop a,by rw[a5d];omega,by simp[v],D.snoc ⟨_,_,rfl,k.take a⟩,t,a9q⟩,a9p⟩;rw[<-C,a5b];rfl
  .have g:((0)<((b.length%G:Nat):Int))=False:=eq_false a9p;have i:((b.length/G:Nat))=(a:Int):=by rw[f,if_neg K];omega
   have j:dI 1 (.J h E) none (some (.v (.int .i64 (a))))=some (.J (h.take a) .any):=nV a9p a9p (k.cells λ_ _=>isRow.cells);have l:dI 1 (.J h E) (some (.v (.int .i64 (a)))) none=some (.J (h.drop a) .any):=qi a9p a9p (k.cells λ_ _=>isRow.cells);refine aj (gg @o @p @r @x @y @e @w @A @H @I @B @g @i @j) ?_;refine ag (DN (b.take a) (h.take a) .any _ (k.take a) (by rw[a4P];omega)) ?_;rintro _ j9 ⟨m,n,rfl⟩;refine aj (bm @o @p @r @x @y) ?_;refine dc U.a1 (by simp[aR,R.cells]) λk0 k1 q=> ?_;refine aj (bm @o @p @r @x @y) ?_;have k2:=D.len;refine dY (W.mono (U.aq n.sub q.sub)) (D.cells λ_ _=>hv.cells) (by simp[aR,R.cells]) (by grind) (by grind) λs k3 t=> ?_;refine aj (bs @o @p @r @x @y @l) ?_;refine⟨⟨d+1,b.drop a,h.drop a,.any,gs++ [.J (h.take a) m],s,F++ [b.take a],a9p,?_,k.drop a,by rw[a5d];omega,by simp[v],D.snoc ⟨_,_,rfl,k.take a⟩,t,a9q⟩,a9p⟩;rw[<-C,a5b];rfl
 .obtain rfl:d=c:=a9p;rw[a7e,a6.eS,a5R]at C;refine aj (bs @o @p @r @x @y @e) ?_;exact⟨_,U.a1,W.sub,gs,P,rfl,by rw[<-C];exact D⟩
theorem DO (d:List (az)) (a:List R) (h:Own) (c:U) (k:aA bu d a) (F:d.length<=100000):
  AC Tryz.prog 310 [.J a h] c λp r=> ∃o,bh c r 37 a o/\p= .J a o:=by
 refine mS λG=> ?_;have x:h= .nil->a= []:=λy=>by subst y;simp_all
 refine bd hm RJ a9q ?_;simp -dsimp -implicitDefEqProofs (disch:=first|omega|assumption|(simp only[bk,Nat.reduceAdd];try omega)) only[go_sem,simprocAttr,-List.reduceReplicate,↓o6];refine o7 (λb=>by rw[x b]) (λb=> ?_) ?_
 .have z:a= []:=by trivial
  subst z;refine aj @a5H ?_;exact⟨c,U.a1,.nil,bh.nil U.a1,rfl⟩
 .refine bT ?_;refine dc U.a1 (by simp[aR]) λL P C=> ?_;refine bT ?_;have S:=k.len;refine dY C (λ_ b=>by cases b) (k.cells λ_ _=>bu.cells) (by rw[a4W];omega) (by rw[a4W];omega) λD E T=> ?_;refine aj @a5f.{0} ?_;exact⟨E,U.a1,D,by trivial,rfl⟩
theorem DP (L:List (az)) (S:List R) (u:Own) (c:Nat) (T:U) (M:aA bu L S) (N:L.length<=100000) (k4:c<=100000):
  AC Tryz.prog 245 [.J S u,.v (.int .i64 (c:Int))] T λO V=>T.sub V/\ ∃gs Q,O= .J gs Q/\aA (hv bu) (a6.eS c L) gs:=by
 refine bd hm Qr a9q ?_;refine bT ?_;refine ct (λz V=> ∃(d:Nat) (b:List (az)) (h:List R) (E:Own) (gs:List R) (P:Own) (F:List (List (az))),d<=c/\F++a6.eS (c - d) b=a6.eS c L/\aA bu b h/\b.length<=100000/\F.length=d/\aA (hv bu) F gs/\bh T V 1 gs P/\
   z 0= .J h E/\z 1= .v (.int .i64 c)/\z 5= .J gs P/\z 8= .v (.int .i64 c)/\z 9= .v (.int .i64 d))
  (λz _=>match z 9 with| .v (.int _ X)=>c - X.toNat| _=>0) ⟨0,L,S,u,[],.nil,[],a9p,rfl,M,N,rfl,trivial,bh.nil U.a1,?_⟩ ?_
 .exact mT
 rintro z k5 ⟨d,b,h,E,gs,P,F,k6,C,k,Y,v,D,W,o,p,r,x,y⟩;by_cases e:(d)<(c:Int)
 .have w:=k.len;have Z:=DM (e:=c - d) a9p Y;have A:(c) -(d)=((c - d:Nat):Int):=a9p;rw[show c - d=(c -(d+1))+1 by omega,a6.eS]at C;rw[show c -(d+1)+1=c - d by omega]at C;generalize k7:c - d=G at*;have B: ¬(G:Int)=0:=a9p;have k8:=a7J b.length G;have H:(b.length:Int).tdiv (G:Int)=((b.length/G:Nat)):=rfl;have I:(b.length:Int).tmod (G:Int)=((b.length%G:Nat)):=rfl;obtain⟨a,f⟩: ∃a,a=b.length/G+(if 0<b.length%G then 1 else 0):=⟨_,rfl⟩;rw[<-f]at Z C;by_cases K:0<b.length%G
  .have g:((0)<((b.length%G:Nat):Int))=True:=eq_true a9p;have i:((b.length/G:Nat))+1=(a:Int):=by rw[f,if_pos K];omega
   have j:dI 37 (.J h E) none (some (.v (.int .i64 (a))))=some (.J (h.take a) .any):=nV a9p a9p (k.cells λ_ _=>bu.cells);have l:dI 37 (.J h E) (some (.v (.int .i64 (a)))) none=some (.J (h.drop a) .any):=qi a9p a9p (k.cells λ_ _=>bu.cells);refine aj (gg @o @p @r @x @y @e @w @A @H @I @B @g @i @j) ?_;refine ag (DO (b.take a) (h.take a) .any _ (k.take a) (by rw[a4P];omega)) ?_;rintro _ j9 ⟨m,n,rfl⟩;refine aj (bm @o @p @r @x @y) ?_;refine dc U.a1 (by simp[aR,R.cells]) λk0 k1 q=> ?_;refine aj (bm @o @p @r @x @y) ?_;have k2:=D.len;refine dY (W.mono (U.aq n.sub q.sub)) (D.cells λ_ _=>hv.cells) (by simp[aR,R.cells]) (by grind) (by grind) λs k3 t=> ?_;refine aj (bs @o @p @r @x @y @l) ?_;refine⟨⟨d+1,b.drop a,h.drop a,.any,gs++ [.J (h.take a) m],s,F++ [b.take a],a9p,?_,k.drop a,by rw[a5d];omega,by simp[v],D.snoc ⟨_,_,rfl,k.take a⟩,t,a9q⟩,a9p⟩;rw[<-C,a5b];rfl
  .have g:((0)<((b.length%G:Nat):Int))=False:=eq_false a9p;have i:((b.length/G:Nat))=(a:Int):=by rw[f,if_neg K];omega
   have j:dI 37 (.J h E) none (some (.v (.int .i64 (a))))=some (.J (h.take a) .any):=nV a9p a9p (k.cells λ_ _=>bu.cells);have l:dI 37 (.J h E) (some (.v (.int .i64 (a)))) none=some (.J (h.drop a) .any):=qi a9p a9p (k.cells λ_ _=>bu.cells);refine aj (gg @o @p @r @x @y @e @w @A @H @I @B @g @i @j) ?_;refine ag (DO (b.take a) (h.take a) .any _ (k.take a) (by rw[a4P];omega)) ?_;rintro _ j9 ⟨m,n,rfl⟩;refine aj (bm @o @p @r @x @y) ?_;refine dc U.a1 (by simp[aR,R.cells]) λk0 k1 q=> ?_;refine aj (bm @o @p @r @x @y) ?_;have k2:=D.len;refine dY (W.mono (U.aq n.sub q.sub)) (D.cells λ_ _=>hv.cells) (by simp[aR,R.cells]) (by grind) (by grind) λs k3 t=> ?_;refine aj (bs @o @p @r @x @y @l) ?_;refine⟨⟨d+1,b.drop a,h.drop a,.any,gs++ [.J (h.take a) m],s,F++ [b.take a],a9p,?_,k.drop a,by rw[a5d];omega,by simp[v],D.snoc ⟨_,_,rfl,k.take a⟩,t,a9q⟩,a9p⟩;rw[<-C,a5b];rfl
 .obtain rfl:d=c:=a9p;rw[a7e,a6.eS,a5R]at C;refine aj (bs @o @p @r @x @y @e) ?_;exact⟨_,U.a1,W.sub,gs,P,rfl,by rw[<-C];exact D⟩
theorem nk {b:Type}: ∀ {g:Nat}{l:List b},(a6.eS g l).length=g/\ ∀a∈a6.eS g l,a.length<=l.length
 |0,l=>⟨rfl,λa c=>by cases c⟩
 |g+1,l=>by
  have ih:=nk (g:=g) (l:=l.drop (l.length/(g+1)+if 0<l.length%(g+1)then 1 else 0));refine⟨by rw[a6.eS,a4S,ih.1],λa d=> ?_⟩;rw[a6.eS]at d;grind
def YD (T:U) (y V:Nat) (W:ah) (k8:bB T y V W) (a:List (List (List Int))) (j:List R) (e:Own) (c:Nat) (k9:1<=c) (l0:c<=8) (l:aA (hv isRow) a j) (l1: ∀m∈a,m.length<=100000) (a14:a.length<=100000):
  AC Tryz.prog 302 [.J j e,.bG 155 [dU y c] []] T λu f=>match(et dT c W a []).1 with
   | .error v=>bB f y V (et dT c W a []).2/\Ext y V T f/\v≠0/\u= .aI [.J [] .nil,.v (.int .i64 v)]
   | .ok bI=> ∃d h,aA bu bI d/\u= .aI [h,.v (.int .i64 0)]/\ds T f y V (et dT c W a []).2 37 (flat d) h/\(bI= []->h= .J [] .nil):=by
 refine bd hm RF a9q ?_;have w: ∀N,(R.agg N).cells=N:=λ_=>rfl;have A:=(aV (M:= .nil) (e6:= .nil) (h4:= .nil) bj).len;have O:=l.len;have l2:fZ Tryz.prog 155=true:=a9u;have a15:=bR.J (s:=T) (o:=e) (l.cells λ_ _=>hv.cells);refine aj @O ?_;refine ct (λk f=> ∃(b:Nat) (g:ah) (z:List az) (d:List R) (h:R),b<=a.length/\et dT c g (a.drop b) z=et dT c W a []/\aA bu z d/\z.length=b/\ds T f y V g 37 (flat d) h/\(z= []->h= .J [] .nil)/\
   k 0= .J j e/\k 1= .bG 155 [dU y c] []/\k 6=h/\k 11= .J j e/\k 12= .v (.int .i64 a.length)/\k 13= .v (.int .i64 b))
  (λk _=>match k 13 with| .v (.int _ l3)=>a.length - l3.toNat| _=>0) ⟨0,W,[],[],.J [] .nil,a9p,rfl,trivial,rfl,ds.nil k8,λ_=>rfl,?_⟩ ?_
 .exact cm @O
 rintro k B ⟨b,g,z,d,h,a16,D,n,l4,H,l5,E,F,G,L,P,S⟩;by_cases Q:(b:Int)<a.length
 .have X:a[b]? =some a[b]:=a4M a9p;have Y:a.drop b=a[b]::a.drop (b+1):=a5l a9p;have Z:=l1 _ (a5p (n:=b) a9p);rw[Y,et]at D;clear Y;generalize a[b]'a9p=m at X D Z;obtain⟨a18,l6,q,I,rfl,j9⟩:=l.get X;obtain⟨a19,l7,l8⟩:=(bR.J (s:=B) (o:=e) (l.cells λ_ _=>hv.cells)).get b _ l6;have k0:=l8.ld B U.a1 false 1 a9p (by simp[R.cells]);have l9:aX false 1 (R.J q I).cells= .J q I:=rfl;rw[l9]at k0;refine aj (cU @E @F @G @L @P @S @Q @l7 @k0) ?_;refine fD l2 (xF B y V g H.gJ m q (.J q I) c k9 l0 j9 (bR.J (j9.cells λ_ _=>isRow.cells)) Z) ?_;rintro u a27 ⟨k1,n0,s⟩;have k2:=H.step n0 k1;generalize a29:dx g c (dT m)=n1 at*;obtain⟨res,n2⟩:=n1;simp only at D k1 s k2;obtain⟨C,o,p,r,v,k3,x⟩:=s.shape;have k4:=aV (M:=o) (e6:=p) (h4:=r) k3;have i:=k4.len;have K:putAt (ab ay .nil .nil .nil) 0 (ab C o p r)=ab C o p r:=cD bj k3;subst x;refine aj (gf @E @F @G @L @P @S @cp @w @A @i @K) ?_;refine aN λa30 n3=> ?_;have M:=k2.mono (U.af (Y:= .cells (ab C o p r)) U.a1 n3);cases res with
  |error a34=>obtain⟨n4,x⟩:=s;simp only[R.aI.injEq,a7h,R.v.injEq,Value.int.injEq,true_and,and_true]at x;obtain⟨_,rfl⟩:=x;rw[<-D];refine aj (la @E @F @G @L @P @S @cp @w @A @i @K @U.set_set @n4) ?_;exact⟨_,U.a1,M.gJ,M.ext⟩
  |ok k5=>
   obtain⟨n5,n9,a00,a01,a02,x⟩:=s;simp only[R.aI.injEq,a7h,R.v.injEq,Value.int.injEq,true_and,and_true,R.agg.injEq]at x;obtain⟨x,rfl⟩:=x;obtain⟨a03,a04,a05,a06⟩:=M;refine aj (gg @E @F @G @L @P @S @cp @w @A @i @K @U.set_set @U.ai k4.t37) ?_;refine eO (by simp[aR,R.cells,i]) a9q λa36 a07=> ?_;have a08:=au.mono a04 (U.af (Y:= .cells (flat [R.agg (ab C o p r)])) U.a1 a07);have a09:aA bu (z++ [k5]) (d++ [R.agg (ab C o p r)]):=n.snoc ⟨n5,n9,a00,a01,a02,by rw[x]⟩;have k6:(flat d).length=z.length*37:=by rw[db (n.cells λ_ _=>bu.cells),n.len]
   have t:(flat [R.agg (ab C o p r)]).length=1*37:=by simp[flat,R.cells,i]
   refine aj (bs @E @F @G @L @P @S) ?_;refine fh a08 a9p (oh t) t (by rw[k6,t];omega) (by rw[k6,t];omega) λa10 a38 k7=> ?_;have a11:flat d++flat [R.agg (ab C o p r)]=flat (d++ [R.agg (ab C o p r)]):=by simp[flat]
   rw[a11]at k7;refine aj (bs @E @F @G @L @P @S) ?_;exact⟨⟨b+1,n2,z++ [k5],_,a10,a9p,D,a09,by simp[l4],⟨a03,k7,a05,a06⟩,(λa13=>by simp at a13),a9q⟩,a9p⟩
 .obtain rfl:b=a.length:=a9p;rw[a7Y,et]at D;rw[<-D];refine aj (c6 @E @F @G @L @P @S @Q) ?_;exact⟨_,U.a1,d,h,n,rfl,H,l5⟩
def oq (a:ah) (b:Nat) (c:List (List Int)):Except Int (List az)×ah:=et dT b a (a6.chunks c) []
def DQ (T:U) (y V:Nat) (W:ah) (k8:bB T y V W) (a:List (List (az))) (j:List R) (e:Own) (c:Nat) (k9:1<=c) (l0:c<=8) (l:aA (hv bu) a j) (l1: ∀m∈a,m.length<=100000) (a14:a.length<=100000):
  AC Tryz.prog 244 [.J j e,.bG 243 [dU y c] []] T λu f=>match(et ek c W a []).1 with
   | .error v=>bB f y V (et ek c W a []).2/\Ext y V T f/\v≠0/\u= .aI [.J [] .nil,.v (.int .i64 v)]
   | .ok bI=> ∃d h,aA bu bI d/\u= .aI [h,.v (.int .i64 0)]/\ds T f y V (et ek c W a []).2 37 (flat d) h/\(bI= []->h= .J [] .nil):=by
 refine bd hm Qp a9q ?_;have w: ∀N,(R.agg N).cells=N:=λ_=>rfl;have A:=(aV (M:= .nil) (e6:= .nil) (h4:= .nil) bj).len;have O:=l.len;have l2:fZ Tryz.prog 243=true:=a9u;have a15:=bR.J (s:=T) (o:=e) (l.cells λ_ _=>hv.cells);refine aj @O ?_;refine ct (λk f=> ∃(b:Nat) (g:ah) (z:List az) (d:List R) (h:R),b<=a.length/\et ek c g (a.drop b) z=et ek c W a []/\aA bu z d/\z.length=b/\ds T f y V g 37 (flat d) h/\(z= []->h= .J [] .nil)/\
   k 0= .J j e/\k 1= .bG 243 [dU y c] []/\k 6=h/\k 11= .J j e/\k 12= .v (.int .i64 a.length)/\k 13= .v (.int .i64 b))
  (λk _=>match k 13 with| .v (.int _ l3)=>a.length - l3.toNat| _=>0) ⟨0,W,[],[],.J [] .nil,a9p,rfl,trivial,rfl,ds.nil k8,λ_=>rfl,?_⟩ ?_
 .exact cm @O
 rintro k B ⟨b,g,z,d,h,a16,D,n,l4,H,l5,E,F,G,L,P,S⟩;by_cases Q:(b:Int)<a.length
 .have X:a[b]? =some a[b]:=a4M a9p;have Y:a.drop b=a[b]::a.drop (b+1):=a5l a9p;have Z:=l1 _ (a5p (n:=b) a9p);rw[Y,et]at D;clear Y;generalize a[b]'a9p=m at X D Z;obtain⟨a18,l6,q,I,rfl,j9⟩:=l.get X;obtain⟨a19,l7,l8⟩:=(bR.J (s:=B) (o:=e) (l.cells λ_ _=>hv.cells)).get b _ l6;have k0:=l8.ld B U.a1 false 1 a9p (by simp[R.cells]);have l9:aX false 1 (R.J q I).cells= .J q I:=rfl;rw[l9]at k0;refine aj (cU @E @F @G @L @P @S @Q @l7 @k0) ?_;refine fD l2 (DG B y V g H.gJ m q (.J q I) c k9 l0 j9 (bR.J (j9.cells λ_ _=>bu.cells)) Z) ?_;rintro u a27 ⟨k1,n0,s⟩;have k2:=H.step n0 k1;generalize a29:dx g c (ek m)=n1 at*;obtain⟨res,n2⟩:=n1;simp only at D k1 s k2;obtain⟨C,o,p,r,v,k3,x⟩:=s.shape;have k4:=aV (M:=o) (e6:=p) (h4:=r) k3;have i:=k4.len;have K:putAt (ab ay .nil .nil .nil) 0 (ab C o p r)=ab C o p r:=cD bj k3;subst x;refine aj (gf @E @F @G @L @P @S @cp @w @A @i @K) ?_;refine aN λa30 n3=> ?_;have M:=k2.mono (U.af (Y:= .cells (ab C o p r)) U.a1 n3);cases res with
  |error a34=>obtain⟨n4,x⟩:=s;simp only[R.aI.injEq,a7h,R.v.injEq,Value.int.injEq,true_and,and_true]at x;obtain⟨_,rfl⟩:=x;rw[<-D];refine aj (la @E @F @G @L @P @S @cp @w @A @i @K @U.set_set @n4) ?_;exact⟨_,U.a1,M.gJ,M.ext⟩
  |ok k5=>
   obtain⟨n5,n9,a00,a01,a02,x⟩:=s;simp only[R.aI.injEq,a7h,R.v.injEq,Value.int.injEq,true_and,and_true,R.agg.injEq]at x;obtain⟨x,rfl⟩:=x;obtain⟨a03,a04,a05,a06⟩:=M;refine aj (gg @E @F @G @L @P @S @cp @w @A @i @K @U.set_set @U.ai k4.t37) ?_;refine eO (by simp[aR,R.cells,i]) a9q λa36 a07=> ?_;have a08:=au.mono a04 (U.af (Y:= .cells (flat [R.agg (ab C o p r)])) U.a1 a07);have a09:aA bu (z++ [k5]) (d++ [R.agg (ab C o p r)]):=n.snoc ⟨n5,n9,a00,a01,a02,by rw[x]⟩;have k6:(flat d).length=z.length*37:=by rw[db (n.cells λ_ _=>bu.cells),n.len]
   have t:(flat [R.agg (ab C o p r)]).length=1*37:=by simp[flat,R.cells,i]
   refine aj (bs @E @F @G @L @P @S) ?_;refine fh a08 a9p (oh t) t (by rw[k6,t];omega) (by rw[k6,t];omega) λa10 a38 k7=> ?_;have a11:flat d++flat [R.agg (ab C o p r)]=flat (d++ [R.agg (ab C o p r)]):=by simp[flat]
   rw[a11]at k7;refine aj (bs @E @F @G @L @P @S) ?_;exact⟨⟨b+1,n2,z++ [k5],_,a10,a9p,D,a09,by simp[l4],⟨a03,k7,a05,a06⟩,(λa13=>by simp at a13),a9q⟩,a9p⟩
 .obtain rfl:b=a.length:=a9p;rw[a7Y,et]at D;rw[<-D];refine aj (c6 @E @F @G @L @P @S @Q) ?_;exact⟨_,U.a1,d,h,n,rfl,H,l5⟩
def YE (h:U) (c k:Nat) (d:ah) (C:bB h c k d) (a:List (List (az))) (p:List R) (r:Own) (b:Nat) (D:1<=b) (E:b<=8) (F:aA (hv bu) a p) (G: ∀L∈a,L.length<=100000) (P:a.length<=100000):
  AC Tryz.prog 244 [.J p r,.bG 243 [dU c b] []] h λx o=>bB o c k (et ek b d a []).2/\Ext c k h o/\YB (et ek b d a []).1 x:=by
 refine(DQ h c k d C a p r b D E F G P).view λx o y=> ?_;generalize et ek b d a []=S at*;obtain⟨res,m⟩:=S;cases res with
 |error n=>obtain⟨T,V,W,rfl⟩:=y;exact⟨_,o,View.refl,T,V,W,rfl⟩
 |ok bI=>obtain⟨e,q,z,rfl,f,_⟩:=y;obtain⟨g,i,j,l⟩:=f.ui z;exact⟨_,g,View.aI (a:= []) i,j,l,e,.any,z,rfl⟩
def jN (a:ah) (b:Nat) (c:List (az)):Except Int (List az)×ah:=et ek b a (a6.chunks c) []
theorem qI {b:Type}{c:List b->c3}{d:Nat}: ∀ {gs:List (List b)}{S S':ah}{acc ks:List az},et c d S gs acc=(.ok ks,S')->ks.length=acc.length+gs.length
 | [],S,S',acc,ks,a=>by
  grind[et,Prod.mk.inj,Except.ok.inj]
 |h::gs,S,S',acc,ks,a=>by
  rw[et]at a;split at a
  .simp_all
  .have:=qI a;rw[this];simp;omega
def iE (c:Nat):Nat->ah->List az->Except Int az×ah
 |0,a,_=>(.error 1,a)
 |d+1,a,bI=>
  if 1<bI.length then match jN a c bI with
   |(.error h,b)=>(.error h,b)
   |(.ok up,b)=>iE c d b up
  else(.ok (bI.headD ay),a)
def YF (k:U) (c o:Nat) (g:ah) (H:bB k c o g) (d:List az) (i:List R) (k4:Own) (b:Nat) (n5:1<=b) (n9:b<=8) (a00:aA bu d i) (a30:d.length<=100000):
  AC Tryz.prog 157 [dU c b,.J i k4] k λk5 h=>bB h c o (iE b (d.length+1) g d).2/\Ext c o k h/\gV (iE b (d.length+1) g d).1 k5:=by
 refine bd hm NT a9q ?_;have T: ∀k6,(R.agg k6).cells=k6:=λ_=>rfl;have I:=(aV (M:= .nil) (e6:= .nil) (h4:= .nil) bj).len;have K: ∀E V:R,List.take 2 [E,V]= [E,V]:=λ_ _=>rfl;have M: ∀E V,aX true 2 [E,V]= .agg [E,V]:=λ_ _=>rfl;refine aj @T ?_;refine aN λj k7=> ?_;refine aj (c2 @T @cp) ?_;refine aN λF q=> ?_;have k8:j≠F:=by rintro rfl;rw[U.ai]at q;cases q
 have N:k F=none:=by rw[U.ao _ _ (a4U k8)]at q;exact q
 obtain⟨p,s⟩: ∃p:U,p=(k.set j (.cells [.ptr c 0,.v (.int .i64 (b))])).set F (.cells (ab ay .nil .nil .nil)):=⟨_,rfl⟩;have k9:k.sub p:=by rw[s];exact U.af (U.af U.a1 k7) N
 have aK:p F=some (.cells (ab ay .nil .nil .nil)):=by rw[s,U.ai]
 have c2:p j=some (.cells [.ptr c 0,.v (.int .i64 (b))]):=by rw[s,U.ao _ _ k8,U.ai]
 have G:=H.cE N;have l0:=H.cE k7;have l1:=(aV (M:= .nil) (e6:= .nil) (h4:= .nil) bj).t37;have l2:putAt (ab ay .nil .nil .nil) 0 (ab ay .nil .nil .nil)=ab ay .nil .nil .nil:=cD bj bj;have O: ∀(h) (l3),Ext c o p h->Ext c o k (h.set F l3):=λh l3 Q=>((Ext.of k9).trans Q).set N;simp -dsimp -implicitDefEqProofs (disch:=first|omega|assumption|(simp only[bk,Nat.reduceAdd];try omega)) only[go_sem,simprocAttr,-List.reduceReplicate,T,cp];rw[show(k.set j (.cells (dU c b).cells)).set F (.cells (List.replicate 32 (R.v (.int .u8 0))++ [R.J [] .nil,.J [] .nil]++ [R.v (.int .i64 0),.v (.int .i64 0)]++ [R.J [] .nil]))=p by rw[s,<-cp];rfl];refine ct (λW h=> ∃(e:Nat) (r:ah) (a:List az) (t:List R) (u:Own),iE b e r a=iE b (d.length+1) g d/\a.length<e/\e<=100001/\aA bu a t/\bB h c o r/\Ext c o p h/\W 1= .J t u/\W 2= .ptr j 0/\W 4= .ptr F 0)
  (λW _=>match W 1 with| .J i _=>i.length| _=>0) ⟨d.length+1,g,d,i,k4,rfl,a9p,a9p,a00,H.mono k9,Ext.refl,?_⟩ ?_
 .exact mT
 rintro W l ⟨e,r,a,t,u,x,a34,a36,v,X,m,L,P,S⟩;have w:=v.len;have Y:=m _ _ l0.1 l0.2 c2;have l4:=m _ _ G.1 G.2 aK;obtain⟨Z,rfl⟩: ∃Z,e=Z+1:=⟨e - 1,a9p⟩;rw[iE]at x;by_cases A:(1:Int)<a.length
 .rw[if_pos a9p]at x;refine aj (bt @L @P @S @w @A (U.ae Y) @K @M) ?_;refine ag (xD a.length a9p l) ?_;rintro _ l ⟨rfl,rfl⟩;refine aj (bt @L @P @S @w @A (U.ae Y) @K @M) ?_;have l5:a6.bU a.length<=100000:=by unfold a6.bU;omega
  refine ag (DP a t u (a6.bU a.length) l v a9p l5) ?_;rintro _ a01 ⟨j9,gs,a02,rfl,a03⟩;have a04:=j9 _ _ Y;refine aj (bs @L @P @S (U.ae a04) @K @M) ?_;have k0:=nk (g:=a6.bU a.length) (l:=a);refine ag (YE a01 c o r (X.mono j9) _ gs a02 b n5 n9 a03 (λa05 a06=>by have:=k0.2 a05 a06;omega) (by rw[k0.1];exact l5)) ?_;rintro k5 a38 ⟨n,a07,y⟩;have l6:jN r b a=et ek b r (a6.eS (a6.bU a.length) a) []:=rfl;rw[<-l6]at n y;have l7:=λB a08 Q=>qI (c:=ek) (d:=b) (gs:=a6.eS (a6.bU a.length) a) (S:=r) (S':=B) (acc:= []) (ks:=a08) Q;rw[<-l6]at l7;have k1:=m.trans ((Ext.of j9).trans a07);have a09:=k1 _ _ G.1 G.2 aK;generalize jN r b a=a10 at*;obtain⟨res,B⟩:=a10;cases res with
  |error a42=>obtain⟨l8,rfl⟩:=y;simp only at x n;rw[<-x];refine aj (cf @L @P @S @l8 @cp @T (U.aJ a09) @I @l1 @l2) ?_;exact⟨_,U.a1,n.set G,O _ _ k1,l8,rfl⟩
  |ok up=>
   obtain⟨a11,a13,l9,rfl⟩:=y;have n0:=l7 B up rfl;rw[k0.1]at n0;have a43:up.length<a.length:=by rw[n0];unfold a6.bU;simp;omega
   have a47:=l9.len;simp only at x n;refine aj (aH @L @P @S) ?_;exact⟨⟨Z,B,up,a11,a13,x,a9p,a9p,l9,n,k1,rfl⟩,a9p⟩
 .rw[if_neg a9p]at x;rw[<-x];by_cases k2:(a.length:Int)=0
  .have:a= []:=a4R a9p;subst this;refine aj (gP @L @P @S @w @A @k2 @cp @T (U.aJ l4) @I @l1 @l2) ?_;exact⟨_,U.a1,X.set G,O _ _ m,bj,kv,.nil,.nil,.nil,rfl⟩
  .have n1:a[0]? =some a[0]:=a4M a9p;have a14:a.headD ay=a[0]'a9p:=by cases a with|nil=>simp at k2|cons E V=>rfl
   rw[a14];generalize a[0]'a9p=f at n1;obtain⟨E,a15,k3,a16,z,C,D,rfl⟩:=v.get n1;obtain⟨a48,n2,n3⟩:=(bR.J (s:=l) (o:=u) (v.cells λ_ _=>bu.cells)).get 0 _ a15;have y:=aV (M:=z) (e6:=C) (h4:=D) k3;have a18:=y.len;have a19:(R.agg (ab f z C D)).cells=ab f z C D:=rfl;rw[a19]at n3;have n4:=n3.ld l U.a1 true 37 a9p (by rw[y.len];omega);rw[show aX true 37 (ab f z C D)= .agg (ab f z C D) by rw[aX,if_pos rfl,y.t37]]at n4;have a27:((0:Nat):Int)=0:=rfl;rw[a27]at n2;have a29:putAt (ab ay .nil .nil .nil) 0 (ab f z C D)=ab f z C D:=cD bj k3;refine aj (gg @L @P @S @w @A @k2 @n2 @n4 @T (U.aJ l4) @I @a18 @a29 y.t37) ?_;exact⟨_,U.a1,X.set G,O _ _ m,k3,a16,z,C,D,rfl⟩
end Go.Proofs.YtlgnfcaolejgeaaGreat
namespace Go.bz
open Go
variable{g B e0:List R}{e i v O b8 j0:Nat}
theorem pq {a:List R}{v:Nat} (b:g.take e=a) (c:B.length=v) (d:e0.length=i) (h:e+v+i<=g.length):
  (putAt (putAt g (e+v) e0) e B).take (e+v+i)=a++(B++e0)/\(putAt (putAt g e B) (e+v) e0).take (e+v+i)=a++(B++e0):=by
 have k:a.length=e:=by rw[<-b,a4P];omega
 constructor
 .have o:(g.take (e+v)).length=e+v:=by rw[a4P];omega
  grind[putAt,List.append_assoc,Nat.min_eq_left,List.drop_left',List.take_left',List.length_append]
 grind[putAt,List.take_left',List.length_append,List.append_assoc]
variable{e2:IntKind}
theorem ot (k:e<=O) (o:O<=b8): ∃v,cg i (.an j0 O b8 i) (some (.v (.int e2 (e:Int)))) none none=some v/\fa v=some (.v (.int .i64 ((O - e:Nat):Int)))/\
  ∀(c:U) (a b:List R),c j0=some (.cells a)->O*i<=a.length->a.take (O*i)=b->bN c i v=some (O - e,b.drop (e*i)):=by
 by_cases p:e<b8
 .refine⟨_,gh k o p,rfl,λc a b d r h=> ?_⟩;have x:e*i+(O - e)*i=O*i:=by rw[<-a5V];congr 1;omega
  simp only[bN,U.ae d];grind
 .obtain rfl:e=O:=a9p;obtain rfl:e=b8:=a9p;refine⟨_,tM rfl,by simp[fa],λc a b d r h=> ?_⟩;have:b.drop (e*i)= []:=a5A (by rw[<-h,a4P];omega);rw[this,a7e];rfl
theorem DR {a:Nat}{b:IntKind} (c:b8<=e) (d:e<=O): ∃v,cg i (.an j0 a O i) (some (.v (.int e2 (b8:Int)))) (some (.v (.int b (e:Int)))) none=some v:=by simp_all [cg,cG,intOf]
theorem DS {a b:Nat}{c d:IntKind} (h:j0<=e) (k:e<=i) (o:i<=b8): ∃v,cg O (.an a b b8 O) (some (.v (.int e2 (j0:Int)))) (some (.v (.int c (e:Int)))) (some (.v (.int d (i:Int))))=some v:=by simp_all [cg,cG,intOf]
variable{f t e4:U}
theorem au.first (c:au f t e g (.an v O b8 e)) (d:i<=O):au f t e (g.take (i*e)) (.an v i b8 e):=by
 obtain⟨h,a⟩:=c;rcases a with ⟨_,a|a⟩|⟨y,z,C,k,b,o,p,r,D,E,F,x⟩
 .cases a
 .cases a
 simp only[R.an.injEq,and_true]at b;obtain⟨rfl,rfl,rfl⟩:=b;have G:i*e<=O*e:=a5c _ d;exact⟨h,.inr ⟨v,i,b8,k,rfl,o,p,r,by grind,by simp_all,a9p,x⟩⟩
theorem au.an {o p:U}{k:Nat}{a:List R}{r:R} (y:au o p k a r) (z:a≠ []): ∃d b c h,r= .an d b c k/\o d=none/\p d=some (.cells h)/\h.length=c*k/\h.take (b*k)=a/\a.length=b*k/\b<=c/\c<=maxLen:=by
 rcases y.2 with ⟨x,_⟩|x
 .trivial
 .exact x
variable{n b3:R}{Y:br}
theorem au.add (o:au t f i g n) (E:f e=some Y) (p: ∀a b c,n= .an a b c i->a≠e):au (t.set e Y) f i g n:=by
 obtain⟨r,d⟩:=o;refine⟨λx F h=> ?_,?_⟩
 .by_cases y:x=e;grind[U.ai]
  .rw[U.ao _ _ y]at h;exact r _ _ h
 .rcases d with d|⟨a,b,c,z,k,C,D⟩
  .exact .inl d
  .exact .inr ⟨a,b,c,z,k,by rw[U.ao _ _ (p _ _ _ k)];exact C,D⟩
variable{s a7:R -> U -> Prop}
theorem uj {a:cz s} (b:f O=some (.cells g)) (c:g.length=b8*e) (d:bN f e n=some (v,B)) (h:i+v<=b8) (k:(i+v)*j0<=140737488355328) (o:i+v<=9223372036854775807)
  (p:s (.an O (i+v) b8 e) (f.set O (.cells (putAt g (i*e) B)))):jG e j0 f (.an O i b8 e) n (bO s a):=by
 simp_all [jG,vJ,bO]
end Go.bz
namespace Go.Proofs.YtlgnfcaolejgeaaGreat
open Go Go.bz
theorem YG (z o:U) (c:List R) (C:R) (D:au z o 1 c C) (a:Nat) (E:a<c.length) (u:c.length<=100000):
  AC Tryz.prog 249 [C,.v (.int .i64 (a:Int)),.v (.int .i64 ((a:Int)+1))] o λT V=>au z V 1 (c.take a++c.drop (a+1)) T:=by
 obtain⟨d,b,h,F,rfl,G,L,P,W,v,p,e⟩:=D.an (λf=>by rw[f]at E;simp at E);refine bd hm Qy a9q ?_;have w:b=c.length:=a9p;have g:(a)+1=((a+1:Nat):Int):=a9p;rw[g];obtain⟨A,i⟩:=DS (O:=1) (a:=d) (b:=b) (j0:=a) (e:=a+1) (e2:= .i64) (c:= .i64) (d:= .i64) a9p a9p p;have j:cg 1 (.an d b h 1) none (some (.v (.int .i64 (a)))) none=some (.an d a h 1):=hJ a9p;obtain⟨B,l,_,r⟩:=ot (i:=1) (j0:=d) (e:=a+1) (e2:= .i64) a9p p;have r:=r o F c L (by rw[P];omega) W;have m: ¬(a)=((a+1:Nat):Int):=a9p;refine dA (aK @i @j @l @m) ?_;refine uj L P r a9p a9p a9p ?_;have n:a+(b -(a+1))=b - 1:=a9p;rw[n,a5D];have H:(c.drop ((a+1)*1)).length=b -(a+1):=by rw[a5d];omega
 obtain⟨k,x⟩: ∃k,k=putAt F a (c.drop ((a+1)*1)):=⟨_,rfl⟩;have y:k.length=h:=by rw[x,eH _ _ _ a9p];omega
 have q:k.take (b - 1)=c.take a++c.drop (a+1):=by rw[x,putAt];grind
 rw[<-x];have s:(o.set d (.cells k)) d=some (.cells k):=U.ai _ _ _;have S:cg 1 (.an d (b - 1) h 1) (some (.v (.int .i64 ((b - 1:Nat))))) (some (.v (.int .i64 ((b))))) none=some (.bA d ((b - 1)*1) (b -(b - 1)) (h -(b - 1)) 1):=Cg a9p p a9p;have t:=wX (e:=1) (O:=b -(b - 1)) (v:=b - 1) (b8:=h -(b - 1)) (B:= [R.J [] .nil]) s (by rw[y];omega);rw[a5D]at S;refine dA (aH @S @t @U.set_set) ?_;refine⟨_,U.a1,U.af D.1 G,.inr ⟨d,b - 1,h,_,rfl,G,U.ai _ _ _,?_,?_,?_,a9p,e⟩⟩
 .rw[eH _ _ _ (by rw[kT,y];simp;omega),y,a5D]
 .rw[putAt,a5D,a5b,a6o (by rw[a4P];omega),a6b,a6X,q]
 grind
theorem YH (l o:U) (d:List R) (H:R) (y:au l o 1 d H) (O:d≠ []) (a:Nat) (l1:a<=d.length) (l2:d.length<=100000) (k:R) (z:Nat) (m:l z=some (.cells [k])):
  AC Tryz.prog 239 [H,.v (.int .i64 (a:Int)),.an z 1 1 1] o λQ G=>au l G 1 (d.take a++k::d.drop a) Q:=by
 obtain⟨c,b,h,x,rfl,n,D,q,s,l3,X,Y⟩:=y.an O;refine bd hm Qg a9q ?_;have l4:b=d.length:=a9p;have L:=y.1 _ _ m;have I:c≠z:=by rintro rfl;rw[n]at m;cases m
 have W:((1:Nat):Int)=1:=rfl;obtain⟨l5,e,_,K⟩:=ot (i:=1) (j0:=c) (e:=a) (e2:= .i64) a9p X;have t: ∀G:U,G z=some (.cells [k])->bN G 1 (.an z 1 1 1)=some (1,[k]):=λG y=>by simp[bN,U.ae y]
 by_cases c1:(a:Int)=b
 .have Z:=eq_true c1;refine dA (aH @e @Z @W) ?_;refine fh y a9p (t o L) rfl (by grind) (by grind) λl6 G l7=> ?_;refine Ck ?_;grind[U.a1,List.take_of_length_le,List.drop_eq_nil_of_le]
 have l8:a<b:=a9p;have j9:=K o x d D a9p s;rw[a5D]at j9;have M:(d.drop a).length=b - a:=by rw[a5d];omega
 by_cases c2:(h)<(b:Int)+1
 .have f:cg 1 (.an c b h 1) none (some (.v (.int .i64 (a)))) none=some (.an c a h 1):=hJ a9p;have N:(b)+1 -(a)=((b+1 - a:Nat):Int):=a9p;refine dA (bs @e @c1 @W @c2 @f @N) ?_;refine wZ D q a9p a9p a9p λp C k0 g i k1 k2=> ?_;have k3:a+(b+1 - a)=b+1:=a9p;rw[k3]at i k2|-;have k4:p≠c:=by rintro rfl;rw[g]at D;cases D
  have k5:p≠z:=by rintro rfl;rw[g]at L;cases L
  obtain⟨E,k6⟩: ∃E,E=x.take (a*1)++(List.replicate (b+1 - a) [R.J [] .nil]).flatten++k0:=⟨_,rfl⟩;have k7:E.length=C:=by grind[List.length_append,kT,List.length_take]
  have u:E.take a=d.take a:=by grind
  rw[<-k6];have V:cg 1 (.an p (b+1) C 1) (some (.v (.int .i64 (a)))) none none=some (.bA p (a*1) (b+1 - a) (C - a) 1):=gh a9p i a9p;have F:cg 1 (.an p (b+1) C 1) (some (.v (.int .i64 ((a)+1)))) none none=some (.bA p ((a+1)*1) (b+1 -(a+1)) (C -(a+1)) 1):=by rw[show(a)+1=((a+1:Nat):Int) by omega];exact gh a9p i a9p
  rw[a5D]at V F;rw[a8V]at F;have v:(o.set p (.cells E)) z=some (.cells [k]):=by rw[U.ao _ _ (a4U k5)];exact L
  have P:=hi (O:=a) (j0:=C - a) (i:=b+1 - a) (t _ v) (U.ai o p (.cells E)) a9p;have w: [k].take ((b+1 - a)*1)= [k]:=a4N a9r;rw[w]at P;obtain⟨r,S⟩: ∃r,r=putAt E a [k]:=⟨_,rfl⟩;have A:r.length=C:=by rw[S,eH _ _ _ a9r,k7]
  rw[<-S]at P;have k8:(o.set p (.cells r)) c=some (.cells x):=by rw[U.ao _ _ (a4U k4)];exact D
  have j:=K _ x d k8 a9p s;rw[a5D]at j;have T:=hi (O:=a+1) (j0:=C -(a+1)) (i:=b - a) j (U.ai o p (.cells r)) a9p;have B:(d.drop a).take ((b - a)*1)=d.drop a:=a4N a9p;rw[B]at T;refine dA (gf @e @c1 @W @c2 @f @N @V @F @P @T @U.set_set) ?_;refine⟨_,U.a1,U.af y.1 (U.bF y.1 g),.inr ⟨p,b+1,C,_,rfl,U.bF y.1 g,U.ai _ _ _,?_,?_,?_,i,k1⟩⟩
  .rw[eH _ _ _ a9p,A,a5D]
  .have:=(pq (B:= [k]) (v:=1) u rfl M a9p).2;rw[show(b+1)*1=a+1+(b - a) by omega,S];exact this
  grind
 .have f:cg 1 (.an c b h 1) none (some (.v (.int .i64 ((b)+1)))) none=some (.an c (b+1) h 1):=by rw[show(b)+1=((b+1:Nat):Int) by omega];exact hJ a9p
  have V:cg 1 (.an c (b+1) h 1) (some (.v (.int .i64 (a)))) none none=some (.bA c (a*1) (b+1 - a) (h - a) 1):=gh a9p a9p a9p;have F:cg 1 (.an c (b+1) h 1) (some (.v (.int .i64 ((a)+1)))) none none=some (.bA c ((a+1)*1) (b+1 -(a+1)) (h -(a+1)) 1):=by rw[show(a)+1=((a+1:Nat):Int) by omega];exact gh a9p a9p a9p
  rw[a5D]at V F;rw[a8V]at F;have k9:x≠ []:=by rintro rfl;simp at q;omega
  have l0:kS (.an z 1 1 1) (.bA c (a+1) (b - a) (h -(a+1)) 1) o=some (.v (.bool false)):=wY rfl rfl (a4U I) (qq L a9q) (qq D k9);have j:bN o 1 (.bA c a (b+1 - a) (h - a) 1)=some (b+1 - a,(x.drop a).take (b+1 - a)):=by simp only[bN,U.ae D,a5D];grind
  have T:=hi (O:=a+1) (j0:=h -(a+1)) (i:=b - a) j D a9p;have B:((x.drop a).take (b+1 - a)).take ((b - a)*1)=d.drop a:=by rw[a6b,<-s,a6f];congr 1;omega
  rw[B]at T;obtain⟨r,S⟩: ∃r,r=putAt x (a+1) (d.drop a):=⟨_,rfl⟩;rw[<-S]at T;have A:r.length=x.length:=by rw[S,eH _ _ _ a9p]
  have v:(o.set c (.cells r)) z=some (.cells [k]):=by rw[U.ao _ _ (a4U I)];exact L
  have P:=hi (O:=a) (j0:=h - a) (i:=b+1 - a) (t _ v) (U.ai o c (.cells r)) a9p;have w: [k].take ((b+1 - a)*1)= [k]:=a4N a9r;rw[w]at P;refine dA (gf @e @c1 @W @c2 @f @V @F @l0 @T @P @U.set_set) ?_;refine⟨_,U.a1,U.af y.1 n,.inr ⟨c,b+1,h,_,rfl,n,U.ai _ _ _,?_,?_,?_,a9p,Y⟩⟩
  .rw[eH _ _ _ a9r,A,q]
  .have u:x.take a=d.take a:=by grind
   have:=(pq (B:= [k]) (v:=1) u rfl M a9p).1;grind
  grind
end Go.Proofs.YtlgnfcaolejgeaaGreat
namespace Go.bz
open Go
variable{f t e4:U}{e i v O b8 j0:Nat}{Y:br}
theorem U.sB (a:f e=some Y):f.set e Y=f:=by grind[U.ai,U.ao]
variable{e2:IntKind}{g B e0:List R}
def uk (k:i<=O) (h:O<=b8) (o:g.length=e): ∃v,cg e (.an j0 O b8 e) (some (.v (.int e2 (i:Int)))) none none=some v/\
  ∀(b:U) (a:List R),b j0=some (.cells a)->a.length=b8*e-> ∃c,kR e g v b=some (b.set j0 (.cells c))/\c.length=a.length/\c.take (i*e)=a.take (i*e):=by
 by_cases p:i<b8
 .refine⟨_,gh k h p,λb a d r=> ?_⟩;have x:i*e+(O - i)*e=O*e:=by rw[<-a5V];congr 1;omega
  have y:O*e<=b8*e:=a5c _ h;have z:i*e<=a.length:=a9p;refine⟨_,wX d a9p,?_,?_⟩
  .rw[eH _ _ _ (by rw[kT,o];omega)]
  .rw[putAt,a5b,a6o (by rw[a4P];omega),a6b,a6X]
 .obtain rfl:i=O:=a9p;obtain rfl:i=b8:=a9p;exact⟨_,tM rfl,λb a d r=>⟨a,by rw[Wl,U.sB d],rfl,rfl⟩⟩
end Go.bz
namespace Go.Proofs.YtlgnfcaolejgeaaGreat
open Go Go.bz
theorem DT (l6 O r:U) (x F:List R) (k5 v:R) (o b a c:Nat) (k6:Int) (l7:k6=(c:Int)) (C:au O r 37 x k5) (k7:x.length=o*37) (l8:au l6 O 37 F v) (S:F.length=b*37) (a36:0<b) (a38:a<c) (a42:c<=o) (a43:o<=100000) (a47:b<=100000):
  AC Tryz.prog 242 [k5,.v (.int .i64 (a:Int)),.v (.int .i64 k6),v] r λl9 e=>au O e 37 (x.take (a*37)++(F++x.drop (c*37))) l9:=by
 subst l7;obtain⟨h,n0,p,z,rfl,T,E,q,Q,a48,X,Y⟩:=C.an (λZ=>by rw[Z]at k7;simp at k7;omega);obtain⟨V,n1,k8,s,rfl,a52,j9,n2,a56,a57,a61,a62⟩:=l8.an (λZ=>by rw[Z]at S;simp at S;omega);obtain rfl:o=n0:=a9p;obtain rfl:b=n1:=a9p;have G:=C.1 _ _ j9;have k9:h≠V:=by rintro rfl;rw[T]at j9;cases j9
 have j: ∀e:U,e V=some (.cells s)->bN e 37 (.an V b k8 37)=some (b,F):=λe C=>by
  simp only[bN,U.ae C];grind
 refine bd hm Bq a9q ?_;obtain⟨a63,l⟩:=DR (i:=37) (j0:=h) (a:=o) (O:=p) (b8:=a) (e:=c) (e2:= .i64) (b:= .i64) a9p a9p;have m: ¬(a:Int)=c:=a9p;have n:cg 37 (.an h o p 37) none (some (.v (.int .i64 (a)))) none=some (.an h a p 37):=hJ a9p;have l0:(List.replicate 32 (R.v (.int .u8 0))++ [R.J [] .nil,.J [] .nil]++ [R.v (.int .i64 0),.v (.int .i64 0)]++ [R.J [] .nil]).length=37:=a9q;have t:(x.take (a*37)).length=a*37:=by rw[a4P];omega
 by_cases c1:(c:Int)=o
 .have n3:=eq_true c1;obtain rfl:c=o:=a9p;have n4:x.drop (c*37)= []:=a5A a9p;rw[n4,a5R];refine dA (aK @l @m @n3 @n) ?_;by_cases aH:a+b<c
  .refine uj E q (j r G) a9p a9p a9p ?_;obtain⟨k,y⟩: ∃k,k=putAt z (a*37) F:=⟨_,rfl⟩;have f:k.length=z.length:=by rw[y,eH _ _ _ a9p]
   rw[<-y];obtain⟨n5,cd,ca⟩:=uk (j0:=h) (i:=a+b) (e2:= .i64) a9p X l0;obtain⟨g,k0,n9,l1⟩:=ca (r.set h (.cells k)) k (U.ai _ _ _) a9p;have k1:((a+b:Nat))<(c:Int):=a9p;refine dA (aK @k1 @cd @k0 @U.set_set) ?_;refine⟨_,U.a1,U.af C.1 T,.inr ⟨h,a+b,p,_,rfl,T,U.ai _ _ _,a9p,?_,by rw[a4O,t];omega,a9p,Y⟩⟩;grind[putAt,List.take_left',List.length_append,List.length_take]
  .refine fh (C.first a9p) a9p (j r G) S (by rw[t];omega) (by rw[t];omega) λa65 e l2=> ?_;obtain⟨a00,a01,a68,a02⟩:=l2.src;rw[a4O,t,S]at a01;obtain rfl:a00=a+b:=a9p;have k1: ¬((a+b:Nat))<(c:Int):=a9p;refine dA (c2 @a02 @k1) ?_;exact⟨_,U.a1,l2⟩
 have a69:c<o:=a9p;obtain⟨a03,u,w,l3⟩:=ot (i:=37) (j0:=h) (e2:= .i64) a9p X;have k2:(x.drop (c*37)).length=(o - c)*37:=by rw[a5d];omega
 obtain⟨d,a71⟩: ∃a04,a04=a+b+(o - c):=⟨_,rfl⟩;have a73:(a)+(b)+((o - c:Nat))=(d:Int):=a9p;have A:(a)+(b)=((a+b:Nat):Int):=a9p;have B:((a+b:Nat))+((o - c:Nat))=(d:Int):=a9p;by_cases c2:(p)<(d:Int)
 .have l4:(d) -(a)=((d - a:Nat):Int):=a9p;refine dA (cf @l @m @c1 @n @u @w @A @B @c2 @l4) ?_;refine wZ E q a9p a9p a9p λD L a05 H I a06 a07=> ?_;have a08:a+(d - a)=d:=a9p;rw[a08]at I a07|-;have a09:D≠h:=by rintro rfl;rw[H]at E;cases E
  have a10:D≠V:=by rintro rfl;rw[H]at G;cases G
  obtain⟨P,a11⟩: ∃P,P=z.take (a*37)++(List.replicate (d - a) (List.replicate 32 (R.v (.int .u8 0))++ [R.J [] .nil,.J [] .nil]++ [R.v (.int .i64 0),.v (.int .i64 0)]++ [R.J [] .nil])).flatten++a05:=⟨_,rfl⟩;have a13:P.length=L*37:=by grind[List.length_append,kT,List.length_take]
  have K:P.take (a*37)=x.take (a*37):=by grind
  rw[<-a11];have M:cg 37 (.an D d L 37) (some (.v (.int .i64 (a)))) none none=some (.bA D (a*37) (d - a) (L - a) 37):=gh a9p I a9p;have N:cg 37 (.an D d L 37) (some (.v (.int .i64 ((a+b:Nat))))) none none=some (.bA D ((a+b)*37) (d -(a+b)) (L -(a+b)) 37):=gh a9p I a9p;have k3:(r.set D (.cells P)) V=some (.cells s):=by rw[U.ao _ _ (a4U a10)];exact G
  have i:=hi (O:=a*37) (j0:=L - a) (i:=d - a) (j _ k3) (U.ai r D (.cells P)) a9p;rw[a4N a9p]at i;obtain⟨k,y⟩: ∃k,k=putAt P (a*37) F:=⟨_,rfl⟩;have f:k.length=P.length:=by rw[y,eH _ _ _ a9p]
  rw[<-y]at i;have a14:(r.set D (.cells k)) h=some (.cells z):=by rw[U.ao _ _ (a4U a09)];exact E
  have l5:=hi (O:=(a+b)*37) (j0:=L -(a+b)) (i:=d -(a+b)) (l3 _ z x a14 a9p Q) (U.ai r D (.cells k)) a9p;rw[a4N a9p]at l5;refine dA (p4 @l @m @c1 @n @u @w @A @B @c2 @l4 @M @N @i @l5 @U.set_set) ?_;refine⟨_,U.a1,U.af C.1 (U.bF C.1 H),.inr ⟨D,d,L,_,rfl,U.bF C.1 H,U.ai _ _ _,?_,?_,?_,I,a06⟩⟩
  .rw[eH _ _ _ a9p,f,a13]
  .have:=(pq K S k2 a9p).2;rw[show d*37=a*37+b*37+(o - c)*37 by omega,y,show(a+b)*37=a*37+b*37 by omega];exact this
  grind
 have M:cg 37 (.an h o p 37) none (some (.v (.int .i64 (d)))) none=some (.an h d p 37):=hJ a9p;have N:cg 37 (.an h d p 37) (some (.v (.int .i64 (a)))) none none=some (.bA h (a*37) (d - a) (p - a) 37):=gh a9p a9p a9p;have i:cg 37 (.an h d p 37) (some (.v (.int .i64 ((a+b:Nat))))) none none=some (.bA h ((a+b)*37) (d -(a+b)) (p -(a+b)) 37):=gh a9p a9p a9p;have K:z.take (a*37)=x.take (a*37):=by grind
 by_cases aH:((a+b:Nat))<=(c:Int)
 .have cd:=hi (O:=a*37) (j0:=p - a) (i:=d - a) (j r G) E a9p;rw[a4N a9p]at cd;obtain⟨k,y⟩: ∃k,k=putAt z (a*37) F:=⟨_,rfl⟩;have f:k.length=z.length:=by rw[y,eH _ _ _ a9p]
  have a74:(k.drop (c*37)).take ((o - c)*37)=x.drop (c*37):=by
   have a15:(z.take (a*37)++F).length=(a+b)*37:=by grind
   rw[y,putAt,show c*37=(a+b)*37+(c*37 -(a+b)*37) by omega,<-a5B,a7K a15,a5B,<-Q,a6f];congr 1
   .omega
   .congr 1;omega
  rw[<-y]at cd;have a81:cg 37 (.an h o p 37) (some (.v (.int .i64 (c)))) none none=some (.bA h (c*37) (o - c) (p - c) 37):=gh a9p a9p a9p;have a16:bN (r.set h (.cells k)) 37 (.bA h (c*37) (o - c) (p - c) 37)=some (o - c,x.drop (c*37)):=by simp only[bN,U.ae (U.ai r h (.cells k))];grind
  have ca:=hi (O:=(a+b)*37) (j0:=p -(a+b)) (i:=d -(a+b)) a16 (U.ai r h (.cells k)) a9p;rw[a4N a9p,U.set_set]at ca;obtain⟨g,k4⟩: ∃g,g=putAt k ((a+b)*37) (x.drop (c*37)):=⟨_,rfl⟩;have a83:g.length=z.length:=by rw[k4,eH _ _ _ a9p,f]
  rw[<-k4]at ca;obtain⟨n5,a18,a19⟩:=uk (j0:=h) (i:=d) (e2:= .i64) a9p X l0;obtain⟨W,k0,n9,l1⟩:=a19 (r.set h (.cells g)) g (U.ai _ _ _) a9p;have a27:a03= .bA h (c*37) (o - c) (p - c) 37:=by grind
  subst a27;refine dA (wV @l @m @c1 @n @u @w @A @B @c2 @aH @M @N @i @cd @ca @a18 @k0 @U.set_set) ?_;refine⟨_,U.a1,U.af C.1 T,.inr ⟨h,d,p,_,rfl,T,U.ai _ _ _,a9p,?_,?_,a9p,Y⟩⟩
  .rw[l1,k4,y,show d*37=a*37+b*37+(o - c)*37 by omega,show(a+b)*37=a*37+b*37 by omega];exact(pq K S k2 a9p).2
  grind
 .have a29:z≠ []:=by rintro rfl;simp at q;omega
  have a30:s≠ []:=by rintro rfl;simp at n2;omega
  have a34:kS (.bA h ((a+b)*37) (d -(a+b)) (p -(a+b)) 37) (.an V b k8 37) r=some (.v (.bool false)):=wY rfl rfl k9 (qq E a29) (qq G a30);have cd:=hi (O:=(a+b)*37) (j0:=p -(a+b)) (i:=d -(a+b)) (l3 r z x E a9p Q) E a9p;rw[a4N a9p]at cd;obtain⟨k,y⟩: ∃k,k=putAt z ((a+b)*37) (x.drop (c*37)):=⟨_,rfl⟩;have f:k.length=z.length:=by rw[y,eH _ _ _ a9p]
  rw[<-y]at cd;have k3:(r.set h (.cells k)) V=some (.cells s):=by rw[U.ao _ _ (a4U k9)];exact G
  have ca:=hi (O:=a*37) (j0:=p - a) (i:=d - a) (j _ k3) (U.ai r h (.cells k)) a9p;rw[a4N a9p,U.set_set]at ca;refine dA (mU @l @m @c1 @n @u @w @A @B @c2 @aH @M @N @i @a34 @cd @ca @U.set_set) ?_;refine⟨_,U.a1,U.af C.1 T,.inr ⟨h,d,p,_,rfl,T,U.ai _ _ _,?_,?_,?_,a9p,Y⟩⟩
  .rw[eH _ _ _ a9p,f,q]
  .rw[y,show d*37=a*37+b*37+(o - c)*37 by omega,show(a+b)*37=a*37+b*37 by omega];exact(pq K S k2 a9p).1
  grind
theorem YI (L r:U) (k:List R) (P:R) (c a b:Nat) (S:Int) (n:S=(b:Int)) (D:au L r 37 k P) (T:k.length=c*37) (k3:a<b) (k4:b<=c) (k5:c<=100000):
  AC Tryz.prog 242 [P,.v (.int .i64 (a:Int)),.v (.int .i64 S),.J [] .nil] r λq z=>au L z 37 (k.take (a*37)++k.drop (b*37)) q:=by
 subst n;obtain⟨d,s,h,p,rfl,C,x,V,t,k6,E,e⟩:=D.an (λu=>by rw[u]at T;simp at T;omega);obtain rfl:c=s:=a9p;have f: ∀z:U,bN z 37 (.J [] .nil)=some (0,[]):=λz=>rfl;refine bd hm Bq a9q ?_;obtain⟨k7,g⟩:=DR (i:=37) (j0:=d) (a:=c) (O:=h) (b8:=a) (e:=b) (e2:= .i64) (b:= .i64) a9p a9p;have i: ¬(a:Int)=b:=a9p;have j:cg 37 (.an d c h 37) none (some (.v (.int .i64 (a)))) none=some (.an d a h 37):=hJ a9p;have l:(List.replicate 32 (R.v (.int .u8 0))++ [R.J [] .nil,.J [] .nil]++ [R.v (.int .i64 0),.v (.int .i64 0)]++ [R.J [] .nil]).length=37:=a9q;have v:(k.take (a*37)).length=a*37:=by rw[a4P];omega
 by_cases c1:(b:Int)=c
 .have w:=eq_true c1;obtain rfl:b=c:=a9p;have A:k.drop (b*37)= []:=a5A a9p;rw[A,a5R];refine dA (aK @g @i @w @j) ?_;refine uj x V (f r) a9p a9p a9p ?_;have F:putAt p (a*37) []=p:=by simp[putAt]
  rw[F,U.sB x];obtain⟨B,cd,ca⟩:=uk (j0:=d) (i:=a) (e2:= .i64) a9p E l;obtain⟨y,G,H,I⟩:=ca r p x V;have K:(a)<(b:Int):=a9p;refine dA (aK @a6M @K @cd @G) ?_;refine⟨_,U.a1,U.af D.1 C,.inr ⟨d,a,h,_,rfl,C,U.ai _ _ _,a9p,?_,v,a9p,e⟩⟩;grind
 have k8:b<c:=a9p;obtain⟨M,N,O,Q⟩:=ot (i:=37) (j0:=d) (e2:= .i64) a9p E;have k9:(k.drop (b*37)).length=(c - b)*37:=by rw[a5d];omega
 obtain⟨o,l0⟩: ∃X,X=a+(c - b):=⟨_,rfl⟩;have Y:(a)+((c - b:Nat))=(o:Int):=a9p;have c2: ¬(h)<(o:Int):=a9p;have Z:cg 37 (.an d c h 37) none (some (.v (.int .i64 (o)))) none=some (.an d o h 37):=hJ a9p;have j9:cg 37 (.an d o h 37) (some (.v (.int .i64 (a)))) none none=some (.bA d (a*37) (o - a) (h - a) 37):=gh a9p a9p a9p;have l1:p.take (a*37)=k.take (a*37):=by grind
 have aH:(a)<=(b:Int):=a9p;have F:putAt p (a*37) ([])=p:=by simp[putAt]
 have cd:=hi (O:=a*37) (j0:=h - a) (i:=o - a) (f r) x a9p;rw[a9b,F,U.sB x]at cd;have l2:cg 37 (.an d c h 37) (some (.v (.int .i64 (b)))) none none=some (.bA d (b*37) (c - b) (h - b) 37):=gh a9p a9p a9p;have k0:M= .bA d (b*37) (c - b) (h - b) 37:=by simp_all
 subst k0;have ca:=hi (O:=a*37) (j0:=h - a) (i:=o - a) (Q r p k x a9p t) x a9p;rw[a4N a9p]at ca;obtain⟨y,m⟩: ∃y,y=putAt p (a*37) (k.drop (b*37)):=⟨_,rfl⟩;have l3:y.length=p.length:=by rw[m,eH _ _ _ a9p]
 rw[<-m]at ca;obtain⟨B,k1,k2⟩:=uk (j0:=d) (i:=o) (e2:= .i64) a9p E l;obtain⟨W,G,H,I⟩:=k2 (r.set d (.cells y)) y (U.ai _ _ _) a9p;have l4:(([]:List R).length:Int)=0:=rfl;refine dA (mU @g @i @c1 @j @N @O @Int.add_zero @Y @c2 @aH @Z @j9 @cd @ca @k1 @G @U.set_set) ?_;refine⟨_,U.a1,U.af D.1 C,.inr ⟨d,o,h,_,rfl,C,U.ai _ _ _,a9p,?_,?_,a9p,e⟩⟩;grind[putAt,List.take_left',List.length_append];grind
end Go.Proofs.YtlgnfcaolejgeaaGreat
namespace Go.bz
open Go
structure jO (c:U) (k:Nat) (a:R) (n:Nat) (us:List R):Prop where
 src: ∀b,c.sub b->bN b k a=some (n,us)
 len:fa a=some (.v (.int .i64 (n:Int)))
 one:a.cells= [a]
 full:us.length=n*k
variable{f t e4:U}{g B e0:List R}{e i v O b8 j0:Nat}
def jO.mono {a:R} (b:jO f e a i g) (c:f.sub t):jO t e a i g:=⟨λd h=>b.src d (U.aq c h),b.len,b.one,b.full⟩
theorem jO.J {s:U}{b:Nat}{a:List R}{o:Own} (c:aR b a):jO s b (.J a o) a.length (flat a):=⟨λk _=>by
 have:=a5e.2 λd h=>decide_eq_true (c d h);simp only[bN,this,if_true],rfl,rfl,db c⟩
variable{n b3:R}
theorem au.aj (b:au t f e g n) (k:0<e): ∃a,g.length=a*e/\jO f e n a g:=by
 obtain⟨a,c,_,d⟩:=b.src;refine⟨a,c,λo h=> ?_,d,?_,c⟩
 .obtain⟨p,r,x,_⟩:=(au.mono b h).src;grind
 .rcases b.2 with ⟨_,rfl|rfl⟩|⟨y,a,z,C,rfl,_⟩<;>rfl
variable{s a7:R -> U -> Prop}{b5:FuncId}{m:Program}
theorem AC.nm (h:View f n t b3) (k:AC m b5 (g++b3::B) t s):AC m b5 (g++n::B) f s:=by
 refine k.pre λC o p a r=> ?_;have x:=a.2 g.length n a9q;obtain⟨y,b,D⟩:=h p o _ r x;refine⟨y,?_,b⟩;have c:=a.mono b.le;refine⟨by rw[c.1];simp,λd z E=> ?_⟩;by_cases F:d=g.length;simp_all
 .refine c.2 d z ?_;grind
end Go.bz
namespace Go.Proofs.YtlgnfcaolejgeaaGreat
open Go Go.bz
theorem YJ (a:Nat) (C:a<=100000000) (d:U):
  AC Tryz.prog 354 [.J [] .nil,.v (.int .i64 (a:Int))] d λr x=>au d x 1 [] r:=by
 refine bd hm SA a9q ?_;have h: ¬(a:Int)<0:=a9p;have k:(a:Int) -(0 - 0)=a:=a9p;have o:cg 1 (.J [] .nil) none (some (.v (.int .i64 0))) none=some (.J [] .nil):=wW;by_cases c1:(0:Int)<a
 .refine dA (bm @h @k @c1 @o @a8D) ?_;refine Cj a9p a9p a9p λb c D p E y F=> ?_;have z:cg 1 (.an b a c 1) none (some (.v (.int .i64 0))) none=some (.an b 0 c 1):=hJ (v:=0) a9p;refine dA @z ?_;refine⟨_,U.a1,U.af U.a1 p,.inr ⟨b,0,c,_,rfl,p,U.ai _ _ _,?_,a9q,a9q,a9p,y⟩⟩;simp_all
 .refine dA (bm @h @k @c1 @o @a8D) ?_;exact⟨_,U.a1,au.nil U.a1⟩
def YK (d:U) (h k:R) (D:Own) (o r:Nat) (V i:List R) (z:jO d 1 h o V) (C:jO d 1 k r i) (k2:o<=100000) (k3:r<=100000):
  AC Tryz.prog 342 [.J [h,k] D] d λB b=>au d b 1 (V++i) B:=by
 refine bd hm Sn a9q ?_;have H:=z.len;have I:=C.len;have u:bR d 1 (.J [h,k] D) [h,k]:=bR.J λk4 v=>by
  simp only[a5j,a6m,or_false]at v;rcases v with rfl|rfl
  .rw[z.one];rfl
  .rw[C.one];rfl
 have W:(([h,k].length):Int)=2:=rfl;obtain⟨K,e,M⟩:=u.get 0 h rfl;obtain⟨N,f,O⟩:=u.get 1 k rfl;have w: ∀b,d.sub b->dq false 1 b K=some h:=λb j=>by rw[M.ld b j false 1 a9p (by rw[z.one];simp),z.one];rfl
 have A: ∀b,d.sub b->dq false 1 b N=some k:=λb j=>by rw[O.ld b j false 1 a9p (by rw[C.one];simp),C.one];rfl
 have Q:((0:Nat):Int)=0:=rfl;have X:((1:Nat):Int)=1:=rfl;rw[Q]at e;rw[X]at f;have Y:=w d U.a1;have Z:=A d U.a1;have bm: ¬(o:Int)<0:=a9p;have bs: ¬(o)+(r:Int)<0:=a9p;refine dA @W ?_;refine ct (λa b=>b=d/\a 0= .J [h,k] D/\a 9= .J [h,k] D/\a 10= .v (.int .i64 2)/\((a 11= .v (.int .i64 0)/\a 3= .v (.int .i64 0))\/(a 11= .v (.int .i64 1)/\a 3= .v (.int .i64 o))\/(a 11= .v (.int .i64 2)/\a 3= .v (.int .i64 ((o)+(r))))))
  (λa _=>match a 11 with| .v (.int _ l)=>2 - l.toNat| _=>0) ⟨rfl,?_⟩ ?_
 .refine dA @W ?_;simp
 rintro a m ⟨rfl,E,F,G,n⟩;rcases n with ⟨x,p⟩|⟨x,p⟩|⟨x,p⟩
 .refine dA (cf @E @F @G @x @p @e @Y @H @bm @a8z) ?_;simp
 .refine dA (cU @E @F @G @x @p @f @Z @I @bs) ?_;simp
 .have j9:(o)+(r)=((o+r:Nat):Int):=a9p;rw[j9]at p;simp -dsimp -implicitDefEqProofs (disch:=first|omega|assumption|(simp only[bk,Nat.reduceAdd];try omega)) only[go_sem,simprocAttr,-List.reduceReplicate,↓eI,E,F,G,x,p];refine ag (YJ (o+r) a9p _) ?_;intro k5 k6 k0;simp -dsimp -implicitDefEqProofs (disch:=first|omega|assumption|(simp only[bk,Nat.reduceAdd];try omega)) only[go_sem,simprocAttr,-List.reduceReplicate,↓eI,E,F,G,x,p,W];refine ct (λa b=>a 25= .J [h,k] D/\a 26= .v (.int .i64 2)/\((a 27= .v (.int .i64 0)/\au m b 1 [] (a 6))\/(a 27= .v (.int .i64 1)/\au m b 1 V (a 6))\/(a 27= .v (.int .i64 2)/\au m b 1 (V++i) (a 6))))
   (λa _=>match a 27 with| .v (.int _ l)=>2 - l.toNat| _=>0) ?_ ?_
  .simp -dsimp -implicitDefEqProofs (disch:=first|omega|assumption|(simp only[bk,Nat.reduceAdd];try omega)) only[go_sem,simprocAttr,-List.reduceReplicate,↓eI,E,F,G,x,p,W];exact .inl k0
  rintro a g ⟨L,P,n⟩;have S:=z.full;have q:=C.full;rcases n with ⟨y,c⟩|⟨y,c⟩|⟨y,c⟩
  .have T:=w g c.1;generalize s:a 6=ej at c;simp -dsimp -implicitDefEqProofs (disch:=first|omega|assumption|(simp only[bk,Nat.reduceAdd];try omega)) only[go_sem,simprocAttr,-List.reduceReplicate,↓eI,L,P,y,e,T,s];refine fh c a9p (z.src g c.1) S (by rw[a4W,S];omega) (by rw[a4W,S];omega) λk1 b t=> ?_;simp -dsimp -implicitDefEqProofs (disch:=first|omega|assumption|(simp only[bk,Nat.reduceAdd];try omega)) only[go_sem,simprocAttr,-List.reduceReplicate,↓eI,L,P,y,e,T];exact .inr (.inl t)
  .have T:=A g c.1;generalize s:a 6=ej at c;simp -dsimp -implicitDefEqProofs (disch:=first|omega|assumption|(simp only[bk,Nat.reduceAdd];try omega)) only[go_sem,simprocAttr,-List.reduceReplicate,↓eI,L,P,y,f,T,s];refine fh c a9p (C.src g c.1) q (by rw[S,q];omega) (by rw[S,q];omega) λk1 b t=> ?_;simp -dsimp -implicitDefEqProofs (disch:=first|omega|assumption|(simp only[bk,Nat.reduceAdd];try omega)) only[go_sem,simprocAttr,-List.reduceReplicate,↓eI,L,P,y,f,T];exact .inr (.inr t)
  .refine dA (aH @L @P @y) ?_;exact⟨_,U.a1,c⟩
def YL (a:Nat) (D:a<=100000000) (d:U):
  AC Tryz.prog 355 [.J [] .nil,.v (.int .i64 (a:Int))] d λr x=>au d x 37 [] r:=by
 refine bd hm SC a9q ?_;have h: ¬(a:Int)<0:=a9p;have k:(a:Int) -(0 - 0)=a:=a9p;have o:cg 37 (.J [] .nil) none (some (.v (.int .i64 0))) none=some (.J [] .nil):=wW;by_cases c1:(0:Int)<a
 .refine dA (bm @h @k @c1 @o @a8D) ?_;refine Cj a9p a9p a9p λb c E p F y z=> ?_;have C:cg 37 (.an b a c 37) none (some (.v (.int .i64 0))) none=some (.an b 0 c 37):=hJ (v:=0) a9p;refine dA @C ?_;refine⟨_,U.a1,U.af U.a1 p,.inr ⟨b,0,c,_,rfl,p,U.ai _ _ _,?_,a9q,a9q,a9p,y⟩⟩;rw[a4O,kT,z];simp;omega
 .refine dA (bm @h @k @c1 @o @a8D) ?_;exact⟨_,U.a1,au.nil U.a1⟩
def YM (d:U) (h k:R) (D:Own) (o r:Nat) (V i:List R) (z:jO d 37 h o V) (C:jO d 37 k r i) (k2:o<=100000) (k3:r<=100000):
  AC Tryz.prog 343 [.J [h,k] D] d λB b=>au d b 37 (V++i) B:=by
 refine bd hm Sq a9q ?_;have H:=z.len;have I:=C.len;have u:bR d 1 (.J [h,k] D) [h,k]:=bR.J λk4 v=>by
  simp only[a5j,a6m,or_false]at v;rcases v with rfl|rfl
  .rw[z.one];rfl
  .rw[C.one];rfl
 have W:(([h,k].length):Int)=2:=rfl;obtain⟨K,e,M⟩:=u.get 0 h rfl;obtain⟨N,f,O⟩:=u.get 1 k rfl;have w: ∀b,d.sub b->dq false 1 b K=some h:=λb j=>by rw[M.ld b j false 1 a9p (by rw[z.one];simp),z.one];rfl
 have A: ∀b,d.sub b->dq false 1 b N=some k:=λb j=>by rw[O.ld b j false 1 a9p (by rw[C.one];simp),C.one];rfl
 have Q:((0:Nat):Int)=0:=rfl;have X:((1:Nat):Int)=1:=rfl;rw[Q]at e;rw[X]at f;have Y:=w d U.a1;have Z:=A d U.a1;have bm: ¬(o:Int)<0:=a9p;have bs: ¬(o)+(r:Int)<0:=a9p;refine dA @W ?_;refine ct (λa b=>b=d/\a 0= .J [h,k] D/\a 9= .J [h,k] D/\a 10= .v (.int .i64 2)/\((a 11= .v (.int .i64 0)/\a 3= .v (.int .i64 0))\/(a 11= .v (.int .i64 1)/\a 3= .v (.int .i64 o))\/(a 11= .v (.int .i64 2)/\a 3= .v (.int .i64 ((o)+(r))))))
  (λa _=>match a 11 with| .v (.int _ l)=>2 - l.toNat| _=>0) ⟨rfl,?_⟩ ?_
 .refine dA @W ?_;simp
 rintro a m ⟨rfl,E,F,G,n⟩;rcases n with ⟨x,p⟩|⟨x,p⟩|⟨x,p⟩
 .refine dA (cf @E @F @G @x @p @e @Y @H @bm @a8z) ?_;simp
 .refine dA (cU @E @F @G @x @p @f @Z @I @bs) ?_;simp
 .have j9:(o)+(r)=((o+r:Nat):Int):=a9p;rw[j9]at p;simp -dsimp -implicitDefEqProofs (disch:=first|omega|assumption|(simp only[bk,Nat.reduceAdd];try omega)) only[go_sem,simprocAttr,-List.reduceReplicate,↓eI,E,F,G,x,p];refine ag (YL (o+r) a9p _) ?_;intro k5 k6 k0;simp -dsimp -implicitDefEqProofs (disch:=first|omega|assumption|(simp only[bk,Nat.reduceAdd];try omega)) only[go_sem,simprocAttr,-List.reduceReplicate,↓eI,E,F,G,x,p,W];refine ct (λa b=>a 25= .J [h,k] D/\a 26= .v (.int .i64 2)/\((a 27= .v (.int .i64 0)/\au m b 37 [] (a 6))\/(a 27= .v (.int .i64 1)/\au m b 37 V (a 6))\/(a 27= .v (.int .i64 2)/\au m b 37 (V++i) (a 6))))
   (λa _=>match a 27 with| .v (.int _ l)=>2 - l.toNat| _=>0) ?_ ?_
  .simp -dsimp -implicitDefEqProofs (disch:=first|omega|assumption|(simp only[bk,Nat.reduceAdd];try omega)) only[go_sem,simprocAttr,-List.reduceReplicate,↓eI,E,F,G,x,p,W];exact .inl k0
  rintro a g ⟨L,P,n⟩;have S:=z.full;have q:=C.full;rcases n with ⟨y,c⟩|⟨y,c⟩|⟨y,c⟩
  .have T:=w g c.1;generalize s:a 6=ej at c;simp -dsimp -implicitDefEqProofs (disch:=first|omega|assumption|(simp only[bk,Nat.reduceAdd];try omega)) only[go_sem,simprocAttr,-List.reduceReplicate,↓eI,L,P,y,e,T,s];refine fh c a9p (z.src g c.1) S (by rw[a4W,S];omega) (by rw[a4W,S];omega) λk1 b t=> ?_;simp -dsimp -implicitDefEqProofs (disch:=first|omega|assumption|(simp only[bk,Nat.reduceAdd];try omega)) only[go_sem,simprocAttr,-List.reduceReplicate,↓eI,L,P,y,e,T];exact .inr (.inl t)
  .have T:=A g c.1;generalize s:a 6=ej at c;simp -dsimp -implicitDefEqProofs (disch:=first|omega|assumption|(simp only[bk,Nat.reduceAdd];try omega)) only[go_sem,simprocAttr,-List.reduceReplicate,↓eI,L,P,y,f,T,s];refine fh c a9p (C.src g c.1) q (by rw[S,q];omega) (by rw[S,q];omega) λk1 b t=> ?_;simp -dsimp -implicitDefEqProofs (disch:=first|omega|assumption|(simp only[bk,Nat.reduceAdd];try omega)) only[go_sem,simprocAttr,-List.reduceReplicate,↓eI,L,P,y,f,T];exact .inr (.inr t)
  .refine dA (aH @L @P @y) ?_;exact⟨_,U.a1,c⟩
def fJ (k a:U) (b c:Nat) (d:Except Int (List az)×ah) (o:R):Prop:=
 match d.1 with
 | .error p=>bB a b c d.2/\Ext b c k a/\p≠0/\o= .aI [.J [] .nil,.v (.int .i64 p)]
 | .ok bI=> ∃r h,aA bu bI r/\o= .aI [h,.v (.int .i64 0)]/\ds k a b c d.2 37 (flat r) h/\(bI= []->h= .J [] .nil)
theorem fJ.base {d h k:U}{b c:Nat}{o:Except Int (List az)×ah}{p:R} (a:fJ h k b c o p) (r:Ext b c d h):fJ d k b c o p:=by
 unfold fJ at a|-;split at a
 .exact⟨a.1,r.trans a.2.1,a.2.2⟩
 grind[ds.base]
variable{n b3:R}{f t e4:U}{e i v O b8 j0:Nat}
theorem fJ.shape {a:Except Int (List az)×ah} (d:fJ f t e i a n): ∃b c,n= .aI [b,.v (.int .i64 c)]:=by grind[fJ]
def YN (b:U) (d k:Nat) (h:ah) (E:bB b d k h) (a:List (List Int)) (o:List R) (p:Own) (c:Nat) (F:1<=c) (G:c<=8) (r:aA isRow a o) (L:a.length<=100000):
  AC Tryz.prog 238 [.J o p,.bG 155 [dU d c] []] b λx P=>fJ b P d k (oq h c a) x:=by
 refine bd hm Qe a9q ?_;have S:=r.len;refine aj @S ?_;refine ag (xD a.length a9p b) ?_;rintro _ b ⟨rfl,rfl⟩;refine bT ?_;have y:a6.bU a.length<=100000:=by unfold a6.bU;omega
 refine ag (YC a o p (a6.bU a.length) b r L y) ?_;rintro _ T ⟨z,gs,V,rfl,W⟩;refine bT ?_;have C:=nk (g:=a6.bU a.length) (l:=a);refine ag (YD T d k h (E.mono z) _ gs V c F G W (λe f=>by have:=C.2 e f;omega) (by rw[C.1];exact y)) ?_;intro x i g;have D:=fJ.base (o:=oq h c a) g (Ext.of z);obtain⟨j,l,rfl⟩:=D.shape;refine bT ?_;exact⟨_,U.a1,D⟩
def DU (d p:U) (b h:Nat) (k:ah) (D:bB d b h k) (c:List (List Int)) (o:List R) (r:R) (E:au d p 1 (flat o) r) (a:Nat) (F:1<=a) (G:a<=8) (x:aA isRow c o) (L:c.length<=100000):
  AC Tryz.prog 238 [r,.bG 155 [dU b a] []] p λy z=>fJ d z b h (oq k a c) y:=by
 obtain⟨P,S,C⟩:=au.DL E x;refine AC.nm (g:= []) S ?_;exact(YN P b h k (D.mono C) c o .any a F G x L).mono λy z T=>fJ.base T (Ext.of C)
def YO (b:U) (d k:Nat) (h:ah) (E:bB b d k h) (a:List (az)) (o:List R) (p:Own) (c:Nat) (F:1<=c) (G:c<=8) (r:aA bu a o) (L:a.length<=100000):
  AC Tryz.prog 241 [.J o p,.bG 243 [dU d c] []] b λx P=>fJ b P d k (jN h c a) x:=by
 refine bd hm Qk a9q ?_;have S:=r.len;refine aj @S ?_;refine ag (xD a.length a9p b) ?_;rintro _ b ⟨rfl,rfl⟩;refine bT ?_;have y:a6.bU a.length<=100000:=by unfold a6.bU;omega
 refine ag (DP a o p (a6.bU a.length) b r L y) ?_;rintro _ T ⟨z,gs,V,rfl,W⟩;refine bT ?_;have C:=nk (g:=a6.bU a.length) (l:=a);refine ag (DQ T d k h (E.mono z) _ gs V c F G W (λe f=>by have:=C.2 e f;omega) (by rw[C.1];exact y)) ?_;intro x i g;have D:=fJ.base (o:=jN h c a) g (Ext.of z);obtain⟨j,l,rfl⟩:=D.shape;refine bT ?_;exact⟨_,U.a1,D⟩
def DV (d p:U) (b h:Nat) (k:ah) (D:bB d b h k) (c:List (az)) (o:List R) (r:R) (E:au d p 37 (flat o) r) (a:Nat) (F:1<=a) (G:a<=8) (x:aA bu c o) (L:c.length<=100000):
  AC Tryz.prog 241 [r,.bG 243 [dU b a] []] p λy z=>fJ d z b h (jN k a c) y:=by
 obtain⟨P,S,C⟩:=au.ui E x;refine AC.nm (g:= []) S ?_;exact(YO P b h k (D.mono C) c o .any a F G x L).mono λy z T=>fJ.base T (Ext.of C)
def DW: ∀(a:List az) (b:gG),(a.foldl ep b).size=b.size+(a.map (·.size)).sum
 | [],b=>by simp
 |c::a,b=>by rw[a5S,DW a];simp[ep];omega
def xL: ∀(b:List (List Int×Bool)) (a:gG),(b.foldl dK a).size=a.size
 | [],a=>rfl
 |c::b,a=>by rw[a5S,xL b];unfold dK;split<;>rfl
def xM (a:c3):(eD a).size=a.rows.length+(a.kids.map (·.size)).sum:=by unfold eD;rw[DW,xL]
structure pr (d:Nat) (k:az) (n:c3):Prop where
 ok:dS d n=true
 eq:k=eQ n
 size:k.size=n.rows.length+(n.kids.map (·.size)).sum
 o4:k.size<=1048576
variable{A j2:az}{b9:c3}
def um (a:fF e b9=some A):pr e A b9:=by
 unfold fF at a;split at a
 .rename_i b;split at a
  .cases a
  .rename_i c;obtain rfl:=a4L a;exact⟨b,rfl,xM b9,by show(eD b9).size<= _;omega⟩
 .cases a
variable{H:ah}
def sC (a:iD H e A=some b9):pr e A b9/\(b9.kind=2\/b9.kind=3):=by
 unfold iD at a;split at a
 .cases a
 .rename_i d hm;split at a
  .rename_i b;obtain rfl:=a4L a;refine⟨?_,b⟩;unfold fk at hm;split at hm
   .cases hm
   .split at hm
    .cases hm
    .split at hm
     .rename_i c;obtain rfl:=a4L hm;exact um c
     .cases hm
  .cases a
theorem pr.leaf (b:pr e A b9) (c:b9.kind=2):1<=b9.rows.length/\b9.rows.length<=4/\b9.kids= []/\(∀a∈b9.rows,a.1.length=e/\a.2=true):=by have:=b.ok;simp_all [dS]
theorem pr.inner (k:pr e A b9) (h:b9.kind=3):b9.rows= []/\2<=b9.kids.length/\b9.kids.length<=4/\(∀a∈b9.kids,a.key.length=e/\a≠ay/\fv e a=true/\1<=a.size/\a.size<A.size):=by
 have d:=k.ok;unfold dS at d;have x: ¬b9.kind=1:=by rw[h];decide
 have y: ¬b9.kind=2:=by rw[h];decide
 rw[if_neg x,if_neg y,if_pos h]at d;simp only[a4Q,a5e,decide_eq_true_eq,a6t,decide_eq_false_iff_not]at d;obtain⟨⟨_,z⟩,⟨⟨C,D⟩,E⟩,o⟩:=d;have p:=a4R C;have F: ∀a∈b9.kids,1<=a.size:=λa b=>by
  simp_all [fv]
 refine⟨p,D,E,λa b=>⟨(o a b).1,(o a b).2,z a b,F a b,?_⟩⟩;have r:=k.size;rw[p]at r;simp only[a4W]at r;have G: ∀(c:List az),(∀a∈c,1<=a.size)->(c.length:Int)<=(c.map (·.size)).sum:=by
  intro c
  induction c with
  |nil=>intro _;simp
  |cons L c ih=>grind
 obtain⟨P,S,T⟩:=a7q b;grind
def gm (d:Nat) (b:List Int):Nat->ah->az->Except Int (List az)×ah
  |0,c,_=>(.error 21,c)
  |k+1,c,o=>match iD c d o with
    |none=>(.error 21,c)
    |some a=>
      if a.kind=2 then
        (if kA (a.rows.map Prod.fst) b=true then(.error 8,c)
         else oq c d ((a.rows.map Prod.fst).take (eU (a.rows.map Prod.fst) b)++b::(a.rows.map Prod.fst).drop (eU (a.rows.map Prod.fst) b)))
      else match a.kids[ht b a]? with
        |none=>(.error 21,c)
        |some p=>match gm d b k c p with
          |(.error r,h)=>(.error r,h)
          |(.ok x,h)=>jN h d (a.kids.take (ht b a)++(x++a.kids.drop (ht b a+1)))
theorem xN (b:List Int): ∀(a:List (List Int)),a≠ []->a6.cR bC b a<a.length
 | [],c=>absurd rfl c
 | [_],_=>by simp[a6.cR]
 | _::d::h,_=>by
  have:=xN b (d::h) a9q;grind[a6.cR,List.length_cons]
theorem xO (p:Nat) (r:List Int): ∀(d:Nat) (c h:ah) (k:az) (b:List az),gm p r d c k=(.ok b,h)->1<=b.length/\b.length<=3
 |0,c,h,k,b,a=>by rw[gm]at a;simp_all
 |d+1,c,h,k,b,a=>by
  rw[gm]at a;split at a
  .simp_all
  rename_i P y;obtain⟨x,z⟩:=sC y;split at a
  .rename_i o;obtain⟨C,D,_⟩:=x.leaf o;split at a
   .simp_all
   .have:=qI a;rw[this];simp only[a4W,a5m,a6.chunks,(nk).1,a6.bU,a4O,a4S,a4P,a5d,a4Y];omega
  .rename_i o;obtain⟨_,C,D,_⟩:=x.inner (z.resolve_left o);split at a
   .simp_all
   .rename_i E S;split at a
    .simp_all
    .rename_i F G L;have ih:=xO p r d c G E F L;have:=qI a;rw[this];simp only[a4W,a5m,a6.chunks,(nk).1,a6.bU,a4O,a4P,a5d];omega
theorem YP (D m:Nat) (p:List Int) (E:Own) (x:Nat) (n0:1<=x) (n1:x<=8): ∀(S:Nat) (T:U) (F:ah) (z:az) (n q s:Own),bB T D m F->z.sum.length=32->z.cB->0<S->z.size<S->
  AC Tryz.prog 156 [dU D x,.agg (ab z n q s),.J (ad p) E] T λZ a99=>fJ T a99 D m (gm x p S F z) Z:=by
 intro S
 induction S with
 |zero=>intro T F z n q s f n2 a18 b59 b00;omega
 |succ S ih=>
 intro T F z n q s f n2 a18 b60 b00;refine bd hm NR a9q ?_;have h: ∀a19,(R.agg a19).cells=a19:=λ_=>rfl;have B: ∀d b c C y a27:R,putAt [d,b,c] 0 [C,y,a27]= [C,y,a27]:=λ_ _ _ _ _ _=>rfl;have G: ∀d b c,aX true 3 [d,b,c]= .agg [d,b,c]:=λ_ _ _=>rfl;have g: ∀d b,aX true 2 [d,b]= .agg [d,b]:=λ_ _=>rfl;have i: ∀d b:R,List.take 2 [d,b]= [d,b]:=λ_ _=>rfl;have V: ∀d b c:R,List.take 3 [d,b,c]= [d,b,c]:=λ_ _ _=>rfl;have H: ∀d b c:R,[d,b,c].length=3:=λ_ _ _=>rfl;have b01: ∀d b c:R,aX false 1 [d,b,c]=d:=λ_ _ _=>rfl;have a29: ∀d b c:R,aX false 1 ([d,b,c].drop 2)=c:=λ_ _ _=>rfl;have a30:=aV (M:=n) (e6:=q) (h4:=s) n2;have a34:=a30.len;refine aj @h ?_;refine aN λdf a36=> ?_;refine aj (c2 @h @a34) ?_;refine aN λen k7=> ?_;have n3:df≠en:=by rintro rfl;rw[U.ai]at k7;cases k7
 have b02:T en=none:=by rw[U.ao _ _ (a4U n3)]at k7;exact k7
 obtain⟨I,k8⟩: ∃I:U,I=(T.set df (.cells [.ptr D 0,.v (.int .i64 (x))])).set en (.cells (ab z n q s)):=⟨_,rfl⟩;have j9:T.sub I:=by rw[k8];exact U.af (U.af U.a1 a36) b02
 have aK:I en=some (.cells (ab z n q s)):=by rw[k8,U.ai]
 have aH:I df=some (.cells [.ptr D 0,.v (.int .i64 (x))]):=by rw[k8,U.ao _ _ n3,U.ai]
 refine aj (bt @h @a34 @U.ao @n3 @U.ai a30.t37 @i @g) ?_;rw[<-k8];refine ag (xH I D m F (f.mono j9) z n q s n2 a18 x n0 n1) ?_;rintro Z n4 ⟨k9,l0⟩;obtain⟨a38,k⟩: ∃a38,a38=gm x p (S+1) F z:=⟨_,rfl⟩;rw[<-k];rw[gm]at k;cases n5:iD F x z with
 |none=>rw[n5]at l0 k;obtain rfl:=l0;simp only at k;subst k;simp -dsimp -implicitDefEqProofs (disch:=first|omega|assumption|(simp only[bk,Nat.reduceAdd];try omega)) only[go_sem,simprocAttr,-List.reduceReplicate,h,B,H];refine aN λK M=> ?_;refine aj (bm @h @B @H @G @U.set_set) ?_;have a42:=U.aq (U.aq j9 k9) (U.af (Y:= .cells [.v (.int .u8 0),.J [] .nil,.J [] .nil]) U.a1 M);exact⟨_,U.a1,f.mono a42,Ext.of a42,a9t,rfl⟩
 |some a=>
  rw[n5]at l0 k;simp only at k;obtain⟨C,y,rfl,b03⟩:=l0;obtain⟨a43,b04⟩:=sC n5;simp -dsimp -implicitDefEqProofs (disch:=first|omega|assumption|(simp only[bk,Nat.reduceAdd];try omega)) only[go_sem,simprocAttr,-List.reduceReplicate,h,B,H];refine aN λK M=> ?_;obtain⟨L,l1⟩: ∃L:U,L=n4.set K (.cells [.v (.int .u8 (a.kind.toNat)),C,y]):=⟨_,rfl⟩;have n9:n4.sub L:=by rw[l1];exact U.af U.a1 M
  have bt:L K=some (.cells [.v (.int .u8 (a.kind.toNat)),C,y]):=by rw[l1,U.ai]
  have a47:=iB a.kind 2 a9p;simp only[a7O]at a47;rw[show UInt8.ofNat 2=2 from rfl]at a47;refine aj (c6 @h @B @H @G @U.set_set @U.ai @b01) ?_;rw[U.set_set,<-l1];obtain⟨b05,l2,P,a00,l3,a48,j,b06,b07⟩:=b03;have b08:fW n4 a C y l2 P:=⟨a48,j,(bR.dR a00 a9p rfl (a48.cells λ_ _=>de.cells)).mono l3.1,bR.dR l3 a9p rfl (j.cells λ_ _=>bu.cells),b06,b07⟩;have k0:=b08.mono n9;have a52:=(f.mono (U.aq j9 k9)).cE M;have a56:=f.cE a36;have l4:=U.aq j9 (U.aq k9 n9);have a57:=n9 _ _ (k9 _ _ aH);have a61:=f.mono l4;by_cases N:a.kind=2
  .rw[if_pos N]at k;have a01:((a.kind.toNat:Int)=2)=True:=by rw[N];simp
   refine aj (c6 @h @B @H @G (U.ae bt) @a01 @V) ?_;refine ag (xG a l2 P C y L k0) ?_;rintro d t ⟨b09,a62,u⟩;have b10:=bR.dR u a9p rfl (a62.cells λ_ _=>isRow.cells);refine aj @h ?_;have b61:(a.rows.map Prod.fst).length=a.rows.length:=a4Y _;obtain⟨b11,b12,_,_⟩:=a43.leaf N;generalize b13:a.rows.map Prod.fst=k1 at*;refine ag (DJ k1 b09 d p E t a62 b10 a9p) ?_;rintro _ t ⟨rfl,b62,rfl⟩;have b14:=u.1 _ _ bt;have a02:=u.1 _ _ a57;generalize eU k1 p=o at*;cases a63:kA k1 p with
   |true=>rw[if_pos a63]at k;subst k;refine aj @h ?_;exact⟨_,U.a1,a61.mono u.1,Ext.of (U.aq l4 u.1),a9t,rfl⟩
   |false=>
    rw[if_neg (by simp[a63])]at k;have b15:nX 1 U.emp [R.J (ad p) E] (bO (λ_ _=>True) ())=True:=eq_true (eO (by simp[aR,R.cells]) a9q λ_ _=>trivial);refine aj (cU @h (U.ae b14) (U.ae a02) @G @g @i @V @b15 @rL) ?_;refine ag (xG a l2 P C y t (k0.mono u.1)) ?_;rintro a4 b63 ⟨a03,k2,k3⟩;have b16:=k3.1 _ _ a02;refine aj (bs @h (U.ae b16) @G @g @i @V) ?_;rw[b13]at k2;refine eO (by simp[aR,R.cells]) a9q λa04 a65=> ?_;have b17:flat [R.J (ad p) E]= [R.J (ad p) E]:=rfl;rw[b17,a6j];have W:=au.new (ob:= .cells [R.J (ad p) E]) k3 a65;have b18:=U.bF k3.1 a65;rw[nj k2]at W;obtain⟨r,l⟩: ∃r:U,r=t.set a04 (.cells [R.J (ad p) E]):=⟨_,rfl⟩;have a68:t.sub r:=by rw[l];exact U.af U.a1 b18
    have b19:r a04=some (.cells [R.J (ad p) E]):=by rw[l,U.ai]
    rw[<-l]at W;have b64:=k2.len;have l5:=a68 _ _ a02;have a05:=W.1 _ _ l5;refine aj (bs @h (U.ae a05) @G @g @i @V) ?_;refine ag (YH r _ a03 a4 W (by grind) o a9p a9p _ a04 b19) ?_;intro du a06 v;have b20:=v.1 _ _ l5;have l6:aA isRow (k1.take o++p::k1.drop o) (a03.take o++R.J (ad p) E::a03.drop o):=(k2.take o).append ⟨⟨E,rfl⟩,k2.drop o⟩;rw[<-nj l6]at v;refine aj (bs @h (U.ae b20) @G @g @i @V) ?_;have a69:=U.aq l4 (U.aq u.1 a68);refine ag (DU r a06 D m F (f.mono a69) _ _ du v x n0 n1 l6 a9r) ?_;intro Z b21 w;rw[<-k]at w;obtain⟨b22,b23,rfl⟩:=w.shape;refine aj @h ?_;exact⟨_,U.a1,fJ.base w (Ext.of a69)⟩
  .have l5:=b04.resolve_left N;rw[if_neg N]at k;have a01: ¬(a.kind.toNat:Int)=2:=λe=>N (by simp_all);refine aj (c6 @h @B @H @G (U.ae bt) @a01 @V) ?_;refine ag (DI a l2 P C y p E L k0) ?_;rintro _ L ⟨rfl,rfl⟩;obtain⟨b65,b11,b12,b24⟩:=a43.inner l5;have a07:ht p a<a.kids.length:=by grind[xN,List.length_map]
   generalize ht p a=o at*;have a08:=a4M a07;have a71:a.kids[o]'a07∈a.kids:=a5p _;rw[a08]at k;simp only at k;generalize a.kids[o]'a07=c at a08 a71 k;obtain⟨b66,b25,a73,b26,O,Q,X,rfl⟩:=k0.kids.get a08;obtain⟨_,_,_,b67,b68⟩:=b24 c a71;obtain⟨Y,l7⟩: ∃Y:U,Y=b05.set K (.cells [.v (.int .u8 (a.kind.toNat)),C,y]):=⟨_,rfl⟩;have l8:=au.new (ob:= .cells [.v (.int .u8 (a.kind.toNat)),C,y]) l3 M;rw[<-l1,<-l7]at l8;have b27:=U.bF l3.1 M;have a74:=U.aq j9 a00.1;have a81:T.sub Y:=by rw[l7];exact U.af a74 (U.bF a74 b27)
   have b28:Y K=some (.cells [.v (.int .u8 (a.kind.toNat)),C,y]):=by rw[l7,U.ai]
   have a05:Y df=some (.cells [.ptr D 0,.v (.int .i64 (x))]):=by
    have:df≠K:=by grind
    rw[l7,U.ao _ _ this];exact a00.1 _ _ aH
   have b29:=ds.of l8 (f.mono a81) Ext.refl;obtain⟨b69,b30,a83⟩:=k0.gO.get o _ b25;have a84:=aV (M:=O) (e6:=Q) (h4:=X) a73;have b31:(R.agg (ab c O Q X)).cells=ab c O Q X:=rfl;rw[b31]at a83;have a86:=a83.ld L U.a1 true 37 a9p (by rw[a84.len];omega);rw[show aX true 37 (ab c O Q X)= .agg (ab c O Q X) by rw[aX,if_pos rfl,a84.t37]]at a86;refine aj (cf @h (U.ae bt) (U.ae a57) @G @g @i @V @a29 @b30 @a86) ?_;refine ag (ih L F c O Q X a61 a73 b26 a9p a9p) ?_;intro Z t a09;have a88:=λk4 k5 e=>xO x p S F k4 c k5 e;generalize gm x p S F c=b32 at k a09 a88;obtain⟨res,k4⟩:=b32;cases res with
   |error b70=>obtain⟨l9,b33,a89,rfl⟩:=a09;simp only at k l9;subst k;refine aj (c2 @h @a89) ?_;exact⟨_,U.a1,l9,(Ext.of l4).trans b33,a89,rfl⟩
   |ok k5=>
    obtain⟨k6,b71,a10,rfl,⟨b72,a11,a13,a90⟩,_⟩:=a09;obtain⟨b73,b74⟩:=a88 k4 k5 rfl;simp only at k a13;have b34:=a10.len;have b35:(flat k6).length=k5.length*37:=by rw[db (a10.cells λ_ _=>bu.cells),b34]
    have b36:(flat P).length=a.kids.length*37:=by rw[db (j.cells λ_ _=>bu.cells),j.len]
    obtain⟨A,a92,a94,a14,rfl,a95,b37,b38,b39,b40,b41,b42⟩:=au.an a11 (by grind);have b43:=a90.trans (Ext.of a11.1);have l9:=a13.mono a11.1;obtain⟨b44,k3,b45,b46⟩:=b29.step b43 l9;have a15:=a13.cE a95;have b47:L A=none:=by
     cases b48:L A with
     |none=>rfl
     |some b75=>have:=a90 _ _ a15.1 a15.2 b48;rw[a95]at this;cases this
    have b49: ∀b a96 a97,y= .an b a96 a97 37->b≠A:=by
     rintro b a96 a97 rfl rfl;rcases l8.2 with ⟨_,e|e⟩|⟨b76,_,_,_,e,_,b77,_⟩
     .cases e
     .cases e
     simp_all
    obtain⟨r,l⟩: ∃r:U,r=b44.set A (.cells a14):=⟨_,rfl⟩;have W:=au.add k3 b37 b49;rw[<-l]at W;have b50:r A=some (.cells a14):=by rw[l,U.ai]
    have b51:au (λ_=>none) r 37 (flat k6) (.an A a92 a94 37):=⟨(λ_ _ e=>by cases e),.inr ⟨A,a92,a94,a14,rfl,rfl,b50,b38,b39,b40,b41,b42⟩⟩;have b52:bB r D m k4:=by rw[l];exact b45.set a15
    have b53:=U.bF l8.1 b47;have a16:Ext D m Y r:=by rw[l];exact b46.set b53
    have b54:=a16 _ _ a52.1 a52.2 b28;have a98:=a16 _ _ a56.1 a56.2 a05;have b55:=W.1 _ _ b54;have b56:=W.1 _ _ a98;simp -dsimp -implicitDefEqProofs (disch:=first|omega|assumption|(simp only[bk,Nat.reduceAdd];try omega)) only[go_sem,simprocAttr,-List.reduceReplicate,h,U.ae b55,U.ae b56,G,g,i,V,a29];refine ag (DT _ r t (flat P) (flat k6) y _ a.kids.length k5.length o (o+1) _ rfl W b36 b51 b35 a9p a9p a9p a9p a9p) ?_;intro du a06 v;have b57:=v.1 _ _ a98;have b58:(flat P).take (o*37)++(flat k6++(flat P).drop ((o+1)*37))=flat (P.take o++(k6++P.drop (o+1))):=by rw[(fS o (j.cells λ_ _=>bu.cells)).2,(fS (o+1) (j.cells λ_ _=>bu.cells)).1];simp[flat]
    rw[b58]at v;have l6:=(j.take o).append (a10.append (j.drop (o+1)));refine aj (bs @h (U.ae b57) @G @g @i @V) ?_;refine ag (DV r a06 D m k4 b52 _ _ du v x n0 n1 l6 a9r) ?_;intro Z b21 w;rw[<-k]at w;obtain⟨b22,b23,rfl⟩:=w.shape;refine aj @h ?_;exact⟨_,U.a1,fJ.base w ((Ext.of a81).trans a16)⟩
def je (a:Nat) (d:List Int) (h:ah) (b:az):Except Int az×ah:=
 if b=ay then dx h a (dT [d])
 else match gm a d (b.size.toNat+1) h b with
  |(.error k,c)=>(.error k,c)
  |(.ok bI,c)=>iE a (bI.length+1) c bI
variable{g B e0:List R}{M e6 h4:Own}
def qD.lt (a:qD A M e6 h4 g):g.length=37/\g.take 37=g:=⟨a.len,a.t37⟩
def YQ (C:U) (d h:Nat) (x:ah) (W:bB C d h x) (b:az) (G L P:Own) (n:b.sum.length=32) (M:b.cB) (c:List Int) (S:Own) (a:Nat) (q:1<=a) (s:a<=8) (a04:c.length=a):
  AC Tryz.prog 85 [.ptr d 0,.agg (ab b G L P),.J (ad c) S,.v (.int .i64 (a:Int))] C λk N=>bB N d h (je a c x b).2/\Ext d h C N/\gV (je a c x b).1 k:=by
 have a05:=(aV (M:=G) (e6:=L) (h4:=P) n).lt;have a06:=(aV (M:= .nil) (e6:= .nil) (h4:= .nil) bj).lt;have a07:=cp;have t:=λO Q X Y u=>cD (a:= .nil) (b:= .nil) (c:= .nil) (A:=O) (M:=Q) (e6:=X) (h4:=Y) bj u;have a08:=t ay .nil .nil .nil bj;generalize l0:ab ay .nil .nil .nil=v at*;obtain⟨Z,p⟩: ∃Z,je a c x b=Z:=⟨_,rfl⟩;rw[p];unfold je at p;have a09:qH (a) [c]=true:=by simp[qH];omega
 have j9:aA isRow [c] [R.J (ad c) S]:=⟨⟨S,rfl⟩,trivial⟩;have k0:aR 1 [R.J (ad c) S]:=by simp[aR,R.cells]
 refine aM hm LL ?_;refine bp λgW l1=> ?_;refine cV λT w _ _=> ?_;refine tV λl2 l3 _ _ _ _=> ?_;generalize e:((C.set gW _).set T _).set l2 _=D;have k1:C.sub D:=by subst e;exact aS
 have bm:D gW=some (.cells (ab b G L P)):=by subst e;exact aS
 have bt:D T=some (.cells v):=by subst e;exact aS
 clear e;have E:=W.cE w;have a10:= @U.set_set;refine lW (DF a [c] _ _ D j9 (bR.J k0) a9q) ?_;refine bp λk2 f=> ?_;have a11:=U.gR f bm;obtain⟨z,A⟩: ∃z,D.set k2 (.cells [.ptr d 0,.v (.int .i64 (a))])=z:=⟨_,rfl⟩;have g:D.sub z:=by rw[<-A];exact U.af U.a1 f
 have cf:z k2=some (.cells [.ptr d 0,.v (.int .i64 (a))]):=by rw[<-A,U.ai]
 have l4:=U.ae cf;have a13:=rd g bm;have i:=U.aq k1 g;have k3:=W.cE (U.bF k1 f);have k4: ∀(y) (r) (res) (k),bB r d h y->Ext d h z r->gV res k-> ∃o F,o.length=37/\o.take 37=o/\putAt v 0 o=o/\k= .aI [.agg o,.v (.int .i64 F)]/\ef r T=some v/\bB (r.set T (.cells o)) d h y/\Ext d h C (r.set T (.cells o)):=by intro y r res k j k5 l5;obtain⟨O,Q,X,Y,F,B,rfl⟩:=l5.shape;exact⟨_,F,(aV B).len,(aV B).t37,t _ _ _ _ B,rfl,U.aJ (k5 _ _ E.1 E.2 (g _ _ bt)),j.set E,((Ext.of i).trans k5).set w⟩
 refine lW (nh b G L P z n M) ?_;clear l1 f l3 A t;refine aG (λH=> ?_) λH=> ?_
 .rw[if_pos H]at p;refine jI λa14 l6=> ?_;have j:=U.af (Y:= .buf 1 1 1) (U.a1) l6;refine cl (xF _ d h x (W.mono (U.aq i j)) [c] _ _ a q s j9 (bR.J k0) a9q) ?_;rintro k r ⟨l,m,V⟩;rw[p]at l V;obtain⟨o,F,l7,l8,l9,rfl,n0,I,sD⟩:=k4 _ r _ k l ((Ext.of j).trans m) V;refine aa ?_;exact⟨_,U.a1,I,sD⟩
 rw[if_neg H]at p;refine cl (YP d h c S a q s (b.size.toNat+1) z x b G L P (W.mono i) n M a9p a9p) ?_;intro k r K;have k6:=λy n1 u=>xO a c (b.size.toNat+1) x y b n1 u;generalize gm a c (b.size.toNat+1) x b=n2 at K k6 p;obtain⟨res,y⟩:=n2;cases res with
 |error F=>obtain⟨l,m,n3,rfl⟩:=K;subst p;have a15:=U.aJ (m _ _ E.1 E.2 (g _ _ bt));refine aa ?_;exact⟨_,U.a1,l.set E,((Ext.of i).trans m).set w,n3,by rw[l0]⟩
 |ok bI=>
  obtain⟨n4,a16,k7,rfl,k8,_⟩:=K;obtain⟨_,a18⟩:=k6 y bI rfl;have l4:=U.ae (k8.ext _ _ k3.1 k3.2 cf);obtain⟨n5,n9,a00,a01⟩:=k8.ui k7;refine cl (AC.nm (g:= [_]) n9 (YF n5 d h y a00 bI n4 .any a q s k7 a9p)) ?_;rintro k a02 ⟨k9,a03,V⟩
  dsimp only at p
  rw[p]at k9 V;obtain⟨o,F,l7,l8,l9,rfl,n0,I,sD⟩:=k4 _ a02 _ k k9 (a01.trans a03) V;refine aa ?_;exact⟨_,U.a1,I,sD⟩
end Go.Proofs.YtlgnfcaolejgeaaGreat
namespace Go.bz
open Go
variable{n b3:R}{f t e4:U}{g B e0:List R}{e i v O b8 j0:Nat}
theorem au.emp (b:au e4 f e g n) (k: ∀a c d,n= .an a c d e->t a=f a):au (λ_=>none) t e g n:=by
 refine⟨(λ_ _ b=>by cases b),?_⟩;rcases b.2 with h|⟨a,c,d,o,rfl,p,r,x⟩
 .exact .inl h
 grind
theorem au.put {a:R} (h:au t f e (flat g) (.an v O b8 e)) (z:0<e) (d:aR e g) (C:g[i]? =some n) (o:a.cells.length=e):
  ∃b,f v=some (.cells b)/\i*e+e<=b.length/\O=g.length/\au t (f.set v (.cells (putAt b (i*e) a.cells))) e (flat (g.set i a)) (.an v O b8 e):=by
 obtain⟨D,c⟩:=h;rcases c with ⟨_,c|c⟩|⟨W,j,l,b,p,r,E,F,G,m,x,L⟩
 .cases c
 .cases c
 simp only[R.an.injEq,and_true]at p;obtain⟨rfl,rfl,rfl⟩:=p;have y:=(a4T.1 C).1;have q:=db d;have P:O=g.length:=a7i z a9p;subst P;have s:i*e+e<=g.length*e:=by rw[<-a9j];exact a5c _ y
 have u:g.length*e<=b8*e:=a5c _ x;refine⟨b,E,a9p,rfl,U.af D r,.inr ⟨v,g.length,b8,_,rfl,r,U.ai _ _ _,by rw[eH _ _ _ a9p];exact F,?_,?_,x,L⟩⟩
 .have k:g.set i a=g.take i++a::g.drop (i+1):=by rw[a6d,if_pos y]
  have S:flat (g.take i++a::g.drop (i+1))=(flat g).take (i*e)++a.cells++(flat g).drop ((i+1)*e):=by rw[(fS i d).2,(fS (i+1) d).1];simp[flat]
  rw[k,S,putAt,o,<-G];have w:(b.take (i*e)++a.cells).length=i*e+e:=by grind
  grind[List.take_append,List.take_of_length_le,Nat.min_eq_left,List.drop_take,Nat.succ_mul]
 .have T:aR e (g.set i a):=λk V=>by
   rcases a6V V with h|rfl
   .exact d k h
   .exact o
  rw[db T,a7L]
end Go.bz
namespace Go.Proofs.YtlgnfcaolejgeaaGreat
open Go Go.bz
structure hV where
 leaf:Bool
 rows:List (List Int)
 kids:List az
structure iF (a:U) (x:hV) (d h:R) (b c:List R):Prop where
 r:aA isRow x.rows b
 k:aA bu x.kids c
 aj:bR a 1 d b
 uo:bR a 37 h c
 ou:jO a 1 d x.rows.length b
 jP:jO a 37 h x.kids.length (flat c)
 kx:x.rows.length<=1000
 ix:x.kids.length<=1000
def iF.mono {c d:U}{h:hV}{k o:R}{p r:List R} (a:iF c h k o p r) (b:c.sub d):iF d h k o p r:=⟨a.r,a.k,a.aj.mono b,a.uo.mono b,a.ou.mono b,a.jP.mono b,a.kx,a.ix⟩
variable{n b3:R}{f t e4:U}{g B e0:List R}
theorem iF.of {s:U}{a:hV} (b:aA isRow a.rows g) (c:aA bu a.kids B) (d:au f s 1 (flat g) n) (h:au t s 37 (flat B) b3) (o:a.rows.length<=1000) (p:a.kids.length<=1000):iF s a n b3 g B:=by obtain⟨r,x,k⟩:=d.aj a9p;obtain⟨y,z,C⟩:=h.aj a9p;rw[nj b]at x k;rw[db (c.cells λ_ _=>bu.cells)]at z;have:=b.len;have:=c.len;obtain rfl:r=a.rows.length:=a9p;obtain rfl:y=a.kids.length:=a9p;exact⟨b,c,bR.dR d a9p rfl (b.cells λ_ _=>isRow.cells),bR.dR h a9p rfl (c.cells λ_ _=>bu.cells),k,C,o,p⟩
def gX (a:c3):hV:=⟨decide (a.kind=2),a.rows.map Prod.fst,a.kids⟩
def kB (b:ah) (c:Nat) (a d:hV):Except Int (List az)×ah:=if a.leaf=true then oq b c (a.rows++d.rows)else jN b c (a.kids++d.kids)
theorem YR (d:U) (r T:Nat) (V:ah) (B:bB d r T V) (a b:hV) (W e D f g:R) (X Y Z j9:List R) (k:iF d a W e X Y) (o:iF d b f g Z j9) (k5:D.cells= [D]) (p:Nat) (H:1<=p) (I:p<=8):
  AC Tryz.prog 313 [dU r p,.agg [.v (.bool a.leaf),W,e],.agg [D,f,g]] d λs k0=>fJ d k0 r T (kB V p a b) s:=by
 refine bd hm RR a9q ?_;have c: ∀K,(R.agg K).cells=K:=λ_=>rfl;have i: ∀a b:R,List.take 2 [a,b]= [a,b]:=λ_ _=>rfl;have j: ∀a b,aX true 2 [a,b]= .agg [a,b]:=λ_ _=>rfl;have M: ∀a b z:R,aX false 1 [a,b,z]=a:=λ_ _ _=>rfl;have N: ∀a b z:R,aX false 1 ([a,b,z].drop 1)=b:=λ_ _ _=>rfl;have O: ∀a b z:R,aX false 1 ([a,b,z].drop 2)=z:=λ_ _ _=>rfl;refine aj @c ?_;refine aN λdf k6=> ?_;refine aj @c ?_;refine aN λen l=> ?_;have E:df≠en:=by rintro rfl;rw[U.ai]at l;cases l
 have k7:d en=none:=by rw[U.ao _ _ (a4U E)]at l;exact l
 refine aj @c ?_;refine aN λgW m=> ?_;have t:en≠gW:=by rintro rfl;rw[U.ai]at m;cases m
 have u:df≠gW:=by rintro rfl;rw[U.ao _ _ E,U.ai]at m;cases m
 have k8:d gW=none:=by simp_all [U.ao,a4U]
 obtain⟨C,x⟩: ∃C:U,C=((d.set df (.cells [.ptr r 0,.v (.int .i64 (p))])).set en (.cells [.v (.bool a.leaf),W,e])).set gW (.cells [D,f,g]):=⟨_,rfl⟩;have Q:d.sub C:=by grind[U.af,U.a1]
 have aH:C df=some (.cells [.ptr r 0,.v (.int .i64 (p))]):=by rw[x,U.ao _ _ u,U.ao _ _ E,U.ai]
 have aK:C en=some (.cells [.v (.bool a.leaf),W,e]):=by rw[x,U.ao _ _ t,U.ai]
 have bm:C gW=some (.cells [D,f,g]):=by rw[x,U.ai]
 unfold kB;have k9:=k.kx;have l0:=o.kx;have l1:=k.ix;have l2:=o.ix;cases n:a.leaf with
 |true=>rw[n]at aK x;refine aj (cf @c @U.ao @E @u @t @U.ai @M @N @O @n) ?_;rw[<-x];refine dc U.a1 (by intro k1 F;simp only[a5j,a6m,or_false]at F;rcases F with rfl|rfl;(·rw[k.ou.one];rfl);(·rw[o.ou.one];rfl)) λv G L=> ?_;have h:=U.aq Q L.sub;have P:=L.sub _ _ aH;simp -dsimp -implicitDefEqProofs (disch:=first|omega|assumption|(simp only[bk,Nat.reduceAdd];try omega)) only[go_sem,simprocAttr,-List.reduceReplicate,c,U.ae P,j,i];refine ag (YK G _ _ v _ _ _ _ (k.ou.mono h) (o.ou.mono h) a9p a9p) ?_;intro du w y;have A:=y.1 _ _ P;have q:=k.r.append o.r;rw[<-nj q]at y;simp -dsimp -implicitDefEqProofs (disch:=first|omega|assumption|(simp only[bk,Nat.reduceAdd];try omega)) only[go_sem,simprocAttr,-List.reduceReplicate,c,U.ae A,j,i];refine ag (DU G w r T V (B.mono h) _ _ du y p H I q (by rw[a4O];omega)) ?_;intro s k2 S;obtain⟨k3,k4,rfl⟩:=S.shape;refine aj @c ?_;exact⟨_,U.a1,fJ.base S (Ext.of h)⟩
 |false=>rw[n]at aK x;refine aj (cf @c @U.ao @E @u @t @U.ai @M @N @O @n) ?_;rw[<-x];refine dc U.a1 (by intro k1 F;simp only[a5j,a6m,or_false]at F;rcases F with rfl|rfl;(·rw[k.jP.one];rfl);(·rw[o.jP.one];rfl)) λv G L=> ?_;have h:=U.aq Q L.sub;have P:=L.sub _ _ aH;simp -dsimp -implicitDefEqProofs (disch:=first|omega|assumption|(simp only[bk,Nat.reduceAdd];try omega)) only[go_sem,simprocAttr,-List.reduceReplicate,c,U.ae P,j,i];refine ag (YM G _ _ v _ _ _ _ (k.jP.mono h) (o.jP.mono h) a9p a9p) ?_;intro du w y;have A:=y.1 _ _ P;have q:=k.k.append o.k;rw[<-oT]at y;simp -dsimp -implicitDefEqProofs (disch:=first|omega|assumption|(simp only[bk,Nat.reduceAdd];try omega)) only[go_sem,simprocAttr,-List.reduceReplicate,c,U.ae A,j,i];refine ag (DV G w r T V (B.mono h) _ _ du y p H I q (by rw[a4O];omega)) ?_;intro s k2 S;obtain⟨k3,k4,rfl⟩:=S.shape;refine aj @c ?_;exact⟨_,U.a1,fJ.base S (Ext.of h)⟩
def jQ (d:ah) (k:Nat) (h:List az) (a:Nat) (b:hV):Except Int (List az)×ah:=
 if 2<=b.rows.length+b.kids.length then
  match me d k b.leaf b.rows b.kids with
  |(.error o,c)=>(.error o,c)
  |(.ok r,c)=>(.ok (h.set a r),c)
 else match h[if a=0 then 1 else a - 1]? with
  |none=>(.error 21,d)
  |some x=>match iD d k x with
   |none=>(.error 21,d)
   |some p=>match kB d k (if a=0 then b else gX p) (if a=0 then gX p else b)with
    |(.error o,c)=>(.error o,c)
    |(.ok y,c)=>(.ok (h.take (a - 1)++(y++h.drop (a - 1+2))),c)
def YS (k b:U) (c d:Nat) (h:Except Int (List az)×ah) (o:R):Prop:=
 match h.1 with
 | .error p=>bB b c d h.2/\Ext c d k b/\p≠0/\ ∃a,o= .aI [a,.v (.int .i64 p)]/\a.cells= [a]
 | .ok bI=> ∃r a,aA bu bI r/\o= .aI [a,.v (.int .i64 0)]/\ds k b c d h.2 37 (flat r) a
theorem aA.set {c:Type}{d:c->R->Prop}: ∀ {k:List c}{o:List R}{p:c}{r:R} (b:Nat),aA d k o->d p r->aA d (k.set b p) (o.set b r)
 | [],[],_,_,_,a,_=>a
 | _:: _,_:: _,_,_,0,a,h=>⟨h,a.2⟩
 | _:: _,_:: _,_,_,b+1,a,h=>⟨a.1,aA.set b a.2 h⟩
variable{e i v O b8 j0:Nat}{H:ah}
theorem DX {h:ah}{b c:hV}{d:List az} (a:kB H e b c=(.ok d,h)) (o:b.rows.length<=1000/\c.rows.length<=1000/\b.kids.length<=1000/\c.kids.length<=1000):d.length<=501:=by
 unfold kB at a;split at a
 .rename_i k;have:=qI a;rw[this];simp only[a4W,a5m,a6.chunks,(nk).1,a6.bU,a4O];omega
 .rename_i k;have:=qI a;rw[this];simp only[a4W,a5m,a6.chunks,(nk).1,a6.bU,a4O];omega
def bu.c {a:List az} (b:aA bu a g):aR 37 g:=b.cells λ_ _=>bu.cells
def Ext.no (b:Ext i v f t) (a:e≠i/\e≠v) (c:t e=none):f e=none:=by
 cases d:f e with
 |none=>rfl
 |some h=>have:=b _ _ a.1 a.2 d;rw[c]at this;cases this
theorem YT (V C r:U) (D E:Nat) (I W:ah) (d k:List az) (h:List R) (x e:Nat) (F:R) (G:ds V C D E I 37 (flat h) (.an x d.length e 37)) (c:aA bu d h) (K:fJ C r D E (.ok k,W) (.aI [F,.v (.int .i64 0)])) (b a:Nat) (y:Int) (f:y=(a:Int)) (g:b<a) (i:a<=d.length) (l1:d.length<=1000) (l2:k.length<=501):
  AC Tryz.prog 242 [.an x d.length e 37,.v (.int .i64 (b:Int)),.v (.int .i64 y),F] r λM N=> ∃j,aA bu (d.take b++(k++d.drop a)) j/\ds V N D E W 37 (flat j) M:=by
 obtain⟨o,F,L,P,⟨l3,S,l,m⟩,O⟩:=K;simp only[R.aI.injEq,a7h,and_true]at P;subst P;have l4:=c.len;have Q:=L.len;have l5:=db (bu.c c);have X:(flat o).length=k.length*37:=by rw[db (bu.c L),Q]
 have Y: ∃n,C x=some (.cells n):=by obtain⟨_,Z,_⟩:=G;obtain⟨_,_,_,n,P,_,q,_⟩:=Z.an (by grind);simp_all
 obtain⟨j9,s,t,u⟩:=G.step (m.trans (Ext.of S.1)) (l.mono S.1);by_cases v:k= []
 .subst v;obtain rfl:=O rfl;refine(YI _ r (flat h) _ d.length b a y f s a9p g i a9p).mono λdu k0 p=> ?_;rw[(fS b (bu.c c)).2,(fS a (bu.c c)).1,<-oT]at p;exact⟨_,(c.take b).append (c.drop a),_,p,t,u⟩
 have l6:=a5U.2 v;obtain⟨z,w,A,B,rfl,H,k1,k2,k3,k4,k5,k6⟩:=au.an S (by grind);have T:=l.cE H;have k7:=m.no T H;obtain⟨l7,l8⟩:=Y;have l9:x≠z:=by grind
 have k8:=au.add s k1 (by simp_all);have k9:au (λ_=>none) (j9.set z (.cells B)) 37 (flat o) (.an z w A 37):=⟨(λ_ _ q=>by cases q),.inr ⟨z,w,A,B,rfl,rfl,U.ai _ _ _,k2,k3,k4,k5,k6⟩⟩;refine(DT _ _ r (flat h) (flat o) _ _ d.length k.length b a y f k8 a9p k9 X a9p g i a9p a9p).mono λdu k0 p=> ?_;have l0:(flat h).take (b*37)++(flat o++(flat h).drop (a*37))=flat (h.take b++(o++h.drop a)):=by rw[(fS b (bu.c c)).2,(fS a (bu.c c)).1];simp[flat]
 rw[l0]at p;exact⟨_,(c.take b).append (L.append (c.drop a)),_,p,t.set T,u.set (G.ext.no T k7)⟩
theorem YU (H I:U) (D W:Nat) (y:ah) (k8:bB H D W y) (z:List az) (K:List R) (a11:R) (k9:au H I 37 (flat K) a11) (S:aA bu z K) (b:hV) (E F:R) (a13 a14:List R) (T:iF I b E F a13 a14) (b40:2<=z.length) (a92:z.length<=1000) (a:Nat) (b41:a<z.length) (d:Nat) (l0:1<=d) (l1:d<=8):
  AC Tryz.prog 250 [dU D d,a11,.v (.int .i64 (a:Int)),.agg [.v (.bool b.leaf),E,F]] I λl l2=>YS H l2 D W (jQ y d z a b) l:=by
 have b42:=S.len;have a94:=k8.mono k9.1;have b43:=db (bu.c S);obtain⟨l3,a95,a15,b44,rfl,b45,b46,a16,a96,a97,m,b47⟩:=au.an k9 (by grind);obtain rfl:a95=z.length:=a9p;have b48:=T.kx;have b49:=T.ix;have b50:=(aV (M:= .nil) (e6:= .nil) (h4:= .nil) bj).len;obtain⟨a18,h⟩: ∃a18,jQ y d z a b=a18:=⟨_,rfl⟩;rw[h];rw[jQ]at h;clear a16 a96 a97;refine aM hm QA ?_;refine bp λen a19=> ?_;refine cV λa27 a29 _ _=> ?_;have M:=U.af (Y:= .cells [.v (.bool b.leaf),E,F]) (U.af (Y:= .cells [.ptr D 0,.v (.int .i64 (d))]) (U.a1) a19) a29;obtain⟨C,N⟩: ∃C:U,(I.set en (.cells [.ptr D 0,.v (.int .i64 (d))])).set a27 (.cells [.v (.bool b.leaf),E,F])=C:=⟨_,rfl⟩;rw[N]at M|-;have aK:C en=some (.cells [.ptr D 0,.v (.int .i64 (d))]):=by rw[<-N,U.ao _ _ a9s,U.ai]
 have c6:C a27=some (.cells [.v (.bool b.leaf),E,F]):=by rw[<-N,U.ai]
 have a98:=U.ae aK;have a99:=U.ae c6;clear N a19 a29;have l4:=au.mono k9 M;have a30:=ds.of l4 k8 Ext.refl;have n:=T.mono M;have l5:=a94.mono M;refine lW (Yz (.v (.bool b.leaf)) E F _ _ T.ou.one T.jP.one rfl T.ou.len T.jP.len a9p a9p C) ?_;refine aG (λa34=> ?_) λa34=> ?_
 .rw[if_pos a9p]at h;refine cl (DH C D W y l5 b.leaf b.rows a13 E b.kids a14 F d l0 l1 n.r n.aj a9p n.k n.uo a9p) ?_;rintro l l6 ⟨a36,b00,O⟩;generalize me y d b.leaf b.rows b.kids=l7 at*;obtain⟨res,q⟩:=l7
  dsimp only at a36 O
  obtain⟨Q,o,p,r,b01,l8,rfl⟩:=O.shape;have b02:=(aV (M:=o) (e6:=p) (h4:=r) l8).len;have b51:=(aV (M:=o) (e6:=p) (h4:=r) l8).t37;have b52:putAt (ab ay .nil .nil .nil) 0 (ab Q o p r)=ab Q o p r:=cD bj l8;have b53:=cp;generalize ab ay .nil .nil .nil=b54 at*;refine aa ?_;refine bp λb55 b03=> ?_;obtain⟨b04,b05,a38,a42⟩:=ds.mono (a30.step b00 a36) (U.af (Y:= .cells (ab Q o p r)) U.a1 b03);obtain⟨b56,b06,b57,-,l9⟩:=au.put (a:= .agg (ab Q o p r)) b05 a9p (bu.c S) (a4M (show a<K.length by omega)) b02;have b58:cL 37 (.an l3 z.length a15 37) (.v (.int .i64 (a)))=some (.ptr l3 (a*37)):=by simp_all [jz]
  have b59:=U.aJ b06;have b07:=a42.trans (Ext.of l9.1);refine aa ?_;refine⟨_,U.a1,?_⟩;subst h;cases res with
  |error b60=>obtain⟨n0,x⟩:=O;simp only[R.aI.injEq,a7h,R.v.injEq,Value.int.injEq,true_and,and_true]at x;obtain⟨_,rfl⟩:=x;exact⟨a38.mono l9.1,b07,n0,_,rfl,rfl⟩
  |ok b61=>obtain⟨b08,b09,b10,b11,b12,x⟩:=O;simp only[R.aI.injEq,a7h,R.v.injEq,Value.int.injEq,true_and,and_true,R.agg.injEq]at x;obtain⟨x,rfl⟩:=x;exact⟨_,_,aA.set a S ⟨b08,b09,b10,b11,b12,by rw[x]⟩,rfl,⟨b04,l9,a38,a42⟩⟩
 rw[if_neg a9p]at h;have b62:max ((a:Int) - 1) 0=((a - 1:Nat)):=a9p;obtain⟨e,f⟩: ∃e,(if a=0 then 1 else a - 1)=e:=⟨_,rfl⟩;rw[f]at h;refine o3 [1,2,4,7,12] (λ_:Unit=> [(13,.v (.int .i64 (e)))]) (λ_ l2=>l2=C) (λk=> ?_) (λk=> ?_) ?_
 .rw[if_pos (by have:=of_decide_eq_true k;omega)]at f;subst f;exact aS
 .rw[if_neg (by have:=of_decide_eq_false k;omega)]at f;subst f;exact aS
 rintro _ C rfl b13;have b14:e<z.length:=by rw[<-f];split<;>omega
 have n1:=a4M b14;rw[n1]at h
 dsimp only at h
 generalize z[e]=G at*;obtain⟨b63,a43,a47,b15,o,p,r,rfl⟩:=S.get n1;obtain⟨b16,b17,n2⟩:=(bR.dR l4 a9p rfl (bu.c S)).get e _ a43;have a48:=aV (M:=o) (e6:=p) (h4:=r) a47;change ng C b16 (ab G o p r)at n2;have a52:=n2.ld C U.a1 true 37 a9p (by rw[a48.len];omega);rw[show aX true 37 (ab G o p r)= .agg (ab G o p r) by rw[aX,if_pos rfl,a48.t37]]at a52;refine cl (xH C D W y l5 G o p r a47 b15 d l0 l1) ?_;rintro l a56 ⟨a57,x⟩;cases n3:iD y d G with
 |none=>rw[n3]at x h;obtain rfl:=x;subst h;refine aa ?_;refine bp λn4 X=> ?_;have a61:=λG=>U.aq l4.1 (U.aq a57 (U.af (Y:=G) U.a1 X));exact⟨_,U.a1,k8.mono (a61 _),Ext.of (a61 _),a9t,_,rfl,rfl⟩
 |some c=>
 rw[n3]at x h
 dsimp only at h
 obtain⟨Y,g,rfl,b18⟩:=x;obtain⟨b19,b64⟩:=sC n3;obtain⟨b65,b66,b67⟩:=lf b19.ok;clear a52 b17 n2 a98 a99 a34 a43 n1;refine aa ?_;refine bp λn4 X=> ?_;obtain⟨s,n5⟩: ∃s,a56.set n4 (.cells [.v (.int .u8 (c.kind.toNat)),Y,g])=s:=⟨_,rfl⟩;have n9:a56.sub s:=by rw[<-n5];exact U.af U.a1 X
 have gg:s n4=some (.cells [.v (.int .u8 (c.kind.toNat)),Y,g]):=by rw[<-n5,U.ai]
 have a00:=U.aq a57 n9;obtain⟨b68,a62,a63,b20,a01,a65,Z,b21,b22⟩:=b18;have a68:=fW.mono ⟨a65,Z,(bR.dR b20 a9p rfl (a65.cells λ_ _=>de.cells)).mono a01.1,bR.dR a01 a9p rfl (bu.c Z),b21,b22⟩ n9;have m:=rd a00 c6;have b23:=U.ae gg;have b69:= @rL;refine cl (xI c a62 a63 Y g s a68) ?_;rintro _ j9 ⟨a69,b70,rfl,b24,a71⟩;clear n5 X;have t:=a71.1;have u:=t _ _ (a00 _ _ c6);have m:=U.ae u;refine aa ?_;refine bp λw a02=> ?_;have b71:=U.gR a02 u;refine cV λA a03 _ _=> ?_;have b72:=U.gR a03 u;have b25:= @U.set_set;obtain⟨V,k0⟩: ∃V,(j9.set w (.cells [.v (.bool (decide (c.kind=2))),a69,g])).set A (.cells [.v (.bool b.leaf),E,F])=V:=⟨_,rfl⟩;have L:j9.sub V:=by rw[<-k0];exact U.af (U.af U.a1 a02) a03
 have lV:V w=some (.cells [.v (.bool (decide (c.kind=2))),a69,g]):=by rw[<-k0,U.ao _ _ a9s,U.ai]
 have mU:V A=some (.cells [.v (.bool b.leaf),E,F]):=by rw[<-k0,U.ai]
 have a73:=U.aq a00 t;have a74:=n.mono a73;have a81:=au.mono a01 (U.aq n9 t);have k1:(gX c).rows.length<=1000/\(gX c).kids.length<=1000:=by simp[gX];omega
 refine aa ?_;clear b25 m;refine o3 [1,4,12,16,17] (λ_:Unit=> []) (λ_ P=>j9.sub P/\ ∃k2 k3 B k4 k5 a04 a05 a06 a07,P w=some (.cells [.v (.bool (if a=0 then b else gX c).leaf),k2,k3])/\P A=some (.cells [B,k4,k5])/\B.cells= [B]/\iF P (if a=0 then b else gX c) k2 k3 a04 a05/\iF P (if a=0 then gX c else b) k4 k5 a06 a07) (λk=> ?_) (λk=> ?_) ?_
 .have k:=of_decide_eq_true k;have k:a=0:=a9p;simp only[if_pos k];have m:=rd L u;have b23:=rd (U.aq t L) gg;refine cl (xI c a62 a63 Y g V (a68.mono (U.aq t L))) ?_;rintro _ l6 ⟨b73,b74,rfl,b26,i⟩;have m:=rd i.1 (L _ _ u);have b75:=U.aJ (i.1 _ _ lV);have b76: ∀a83,ef (l6.set w a83) A=some [.v (.bool b.leaf),E,F]:=λa83=>U.aJ (by rw[U.ao _ _ a9s];exact i.1 _ _ mU);have k6: ∀G a84,j9.sub ((l6.set w G).set A a84):=λG a84 b77 v a08=>by
   rw[U.ao _ _ (U.gR a03 a08),U.ao _ _ (U.gR a02 a08)];exact i.1 _ _ (L _ _ a08)
  refine aa ?_;refine⟨(),_,_,_,_,_,_,_,_,_,rfl,rfl,rfl,a74.mono (k6 _ _),iF.of b26 Z (au.emp i ?_) (au.mono a81 (k6 _ _)) k1.1 k1.2⟩;rintro b27 b78 b79 rfl;have a86:V b27=none:=by
   rcases i.2 with ⟨_,j|j⟩|⟨b80,_,_,_,j,b81,_⟩
   .cases j
   .cases j
   simp_all
  rw[U.ao _ _ (U.gR a86 mU).symm,U.ao _ _ (U.gR a86 lV).symm]
 .have k:=of_decide_eq_false k;have k: ¬a=0:=a9p;simp only[if_neg k];refine aa ?_;subst k0;exact⟨(),_,_,_,_,_,_,_,_,_,rfl,rfl,rfl,iF.of b24 Z (a71.mono L) (a81.mono L) k1.1 k1.2,a74.mono L⟩
 rintro _ P ⟨k6,k2,k3,B,k4,k5,a04,a05,a06,a07,lV,mU,b28,b29,b30⟩ b13;have b31:(if a=0 then b else gX c).rows.length<=1000/\(if a=0 then gX c else b).rows.length<=1000/\(if a=0 then b else gX c).kids.length<=1000/\(if a=0 then gX c else b).kids.length<=1000:=by split<;>omega
 have b32:=λq k7 j=>DX (H:=y) (h:=q) (e:=d) (d:=k7) j b31;generalize (if a=0 then b else gX c)=a88 at*;generalize (if a=0 then gX c else b)=a89 at*;have a09:=U.aq a73 k6;have a16:=rd a09 aK;have b82:=U.ae lV;have b83:=U.ae mU;refine cl (YR P D W y (l5.mono a09) a88 a89 k2 k3 B k4 k5 a04 a05 a06 a07 b29 b30 b28 d l0 l1) ?_;intro l b33 a10;generalize kB y d a88 a89=l7 at*;obtain⟨res,q⟩:=l7;have a90:=ds.mono a30 a09;cases res with
 |error b01=>obtain⟨b34,b35,n0,rfl⟩:=a10;subst h;refine aa ?_;exact⟨_,U.a1,b34,a90.ext.trans b35,n0,_,rfl,rfl⟩
 |ok k7=>obtain⟨_,a3,_,rfl,_⟩:=id a10;have b36:=b32 q k7 rfl;have b37:((a - 1:Nat))+2=((a - 1+2:Nat):Int):=rfl;refine cl (YT H P b33 D W y q z k7 K l3 a15 a3 a90 S a10 (a - 1) (a - 1+2) _ b37 a9p a9p a92 b36) ?_;rintro l b84 ⟨b85,b38,b39⟩;subst h;refine aa ?_;exact⟨_,U.a1,_,_,b38,rfl,b39⟩
end Go.Proofs.YtlgnfcaolejgeaaGreat
set_option maxHeartbeats 1000000
namespace Go.bz
open Go
variable{n b3:R}{f t e4:U}{g B e0:List R}{e i v O b8 j0:Nat}
theorem au.o4 (x:au t f e g n): ∃d:U,au d f e g n/\d.sub f/\t.sub d/\ ∀a,(∀b h k,n= .an b h k e->b≠a)->d a=f a:=by
 obtain⟨p,o⟩:=x;rcases o with o|⟨b,h,k,y,rfl,z,C,D⟩
 .exact⟨f,⟨U.a1,.inl o⟩,U.a1,p,λ_ _=>rfl⟩
 .have r:(f.del b).sub f:=λa E c=>by
   grind[U.im,U.eG]
  refine⟨f.del b,⟨r,.inr ⟨b,h,k,y,rfl,U.im _ _,C,D⟩⟩,r,λa E c=> ?_,λa c=>U.eG _ (a4U (c _ _ _ rfl))⟩;have F:a≠b:=by rintro rfl;rw[z]at c;cases c
  rw[U.eG _ F];exact p _ _ c
theorem au.own (c:au f t i g (.an e v O i)):f e=none/\ ∃b,t e=some (.cells b):=by
 rcases c.2 with ⟨_,a|a⟩|⟨d,h,k,b,o,p,r,_⟩
 .cases a
 .cases a
 simp_all
end Go.bz
namespace Go.Proofs.YtlgnfcaolejgeaaGreat
open Go Go.bz
def hX (d:Nat) (c:List Int):Nat->ah->az->Except Int hV×ah
  |0,b,_=>(.error 21,b)
  |p+1,b,r=>match iD b d r with
    |none=>(.error 21,b)
    |some a=>
      if a.kind=2 then
        (if kA (a.rows.map Prod.fst) c=true then(.ok ⟨true,(a.rows.map Prod.fst).take (eU (a.rows.map Prod.fst) c)++(a.rows.map Prod.fst).drop (eU (a.rows.map Prod.fst) c+1),a.kids⟩,b)
         else(.error 9,b))
      else match a.kids[ht c a]? with
        |none=>(.error 21,b)
        |some x=>match hX d c p b x with
          |(.error h,k)=>(.error h,k)
          |(.ok y,k)=>match jQ k d a.kids (ht c a) y with
            |(.error h,o)=>(.error h,o)
            |(.ok bI,o)=>(.ok ⟨false,a.rows.map Prod.fst,bI⟩,o)
def YV (x c:U) (d h:Nat) (k:Except Int hV×ah) (o:R):Prop:=
 bB c d h k.2/\Ext d h x c/\match k.1 with
 | .error p=>p≠0/\ ∃y a b,o= .aI [.agg [y,a,b],.v (.int .i64 p)]
 | .ok r=> ∃a b z C,o= .aI [.agg [.v (.bool r.leaf),a,b],.v (.int .i64 0)]/\iF c r a b z C
variable{e i v O b8 j0:Nat}{H:ah}
theorem YW {h:ah}{c d:List az}{b:hV} (a:jQ H e c i b=(.ok d,h)) (o:c.length<=4) (p:b.rows.length<=1000/\b.kids.length<=1000):d.length<=1000:=by
 unfold jQ at a;split at a;grind
 .rename_i r;split at a
  .simp_all
  .split at a
   .simp_all
   .rename_i x k;obtain⟨y,z,C⟩:=lf (sC k).1.ok;grind[Prod.mk.inj,Except.ok.inj,DX,gX,List.length_append,List.length_take,List.length_drop]
theorem YX (D S:Nat) (G:List Int) (a38:Own) (E:Nat) (a96:1<=E) (a97:E<=8): ∀(l:Nat) (e:U) (m:ah) (f:az) (l5 l6 l7:Own),bB e D S m->f.sum.length=32->f.cB->0<l->f.size<l->
  AC Tryz.prog 160 [dU D E,.agg (ab f l5 l6 l7),.J (ad G) a38] e λl8 b25=>YV e b25 D S (hX E G l m f) l8:=by
 intro l
 induction l with
 |zero=>intros;omega
 |succ l ih=>
 intro e m f l5 l6 l7 L a98 b26 b61 b62;have l9:=(aV (M:=l5) (e6:=l6) (h4:=l7) a98).lt;have b27:= @U.set_set;have b63:= @rL;obtain⟨a99,b⟩: ∃a99,hX E G (l+1) m f=a99:=⟨_,rfl⟩;rw[b];rw[hX]at b;refine aM hm NZ ?_;refine bp λdf b00=> ?_;refine cV λen b28 _ _=> ?_;refine hl λej O _ _ _ _=> ?_;generalize w:((e.set df _).set en _).set ej _=n0;have n1:e.sub n0:=by subst w;exact aS
 have aH:n0 df=some (.cells [.ptr D 0,.v (.int .i64 (E))]):=by subst w;exact aS
 have bs:n0 ej=some (.cells [.v (.bool false),.J [] .nil,.J [] .nil]):=by subst w;exact aS
 clear w;have b01:=L.cE b00;have z:=L.cE O;refine cl (xH n0 D S m (L.mono n1) f l5 l6 l7 a98 b26 E a96 a97) ?_;rintro l8 a42 ⟨a43,n2⟩;have k2:=a43 _ _ bs;have b02:=U.aq n1 a43;clear b00 b28;cases a47:iD m E f with
 |none=>rw[a47]at n2 b;obtain rfl:=n2;subst b;refine aa ?_;refine bp λn3 k3=> ?_;have b03:=λb29=>U.aq b02 (U.af (Y:=b29) U.a1 k3);have b30:=U.gR k3 k2;have k4: ∀k,ef (a42.set n3 k) ej=some [.v (.bool false),.J [] .nil,.J [] .nil]:=λk=>U.aJ (by rw[U.ao _ _ b30];exact k2);refine aa ?_;exact⟨_,U.a1,(L.mono (b03 _)).set z,(Ext.of (b03 _)).set O,a9t,_,_,_,rfl⟩
 |some p=>
  rw[a47]at n2 b
  dsimp only at b
  obtain⟨n4,x,rfl,b64,b04,n5,k5,n,b05,Q,b31,b32⟩:=n2;obtain⟨b06,b33⟩:=sC a47;obtain⟨b65,b66,b67⟩:=lf b06.ok;refine aa ?_;refine bp λn3 k3=> ?_;obtain⟨k6,a48⟩: ∃k6,a42.set n3 (.cells [.v (.int .u8 (p.kind.toNat)),n4,x])=k6:=⟨_,rfl⟩;have A:a42.sub k6:=by rw[<-a48];exact U.af U.a1 k3
  have bt:k6 n3=some (.cells [.v (.int .u8 (p.kind.toNat)),n4,x]):=by rw[<-a48,U.ai]
  have b07:=fW.mono ⟨b05,Q,(bR.dR k5 a9p rfl (b05.cells λ_ _=>de.cells)).mono n.1,bR.dR n a9p rfl (bu.c Q),b31,b32⟩ A;have a52:=U.ae bt;refine cl (xI p b04 n5 n4 x k6 b07) ?_;rintro _ b08 ⟨P,a56,rfl,q,B⟩;clear a48 k3 a52;refine aa ?_;refine bp λF k7=> ?_;obtain⟨C,n9⟩: ∃C,b08.set F (.cells [.v (.bool (decide (p.kind=2))),P,x])=C:=⟨_,rfl⟩;rw[b27,n9];have g:b08.sub C:=by rw[<-n9];exact U.af U.a1 k7
  have cf:C F=some (.cells [.v (.bool (decide (p.kind=2))),P,x]):=by rw[<-n9,U.ai]
  clear n9;have H:=B.1;have a00:=U.aq b02 A;have X:=U.aq a00 (U.aq H g);have a01:=U.aq A (U.aq H g);have a57:=U.bF (U.aq a00 H) k7;have T:=L.cE a57;have a02:=a01 _ _ k2;have a61:=a01 _ _ (a43 _ _ aH);have a62:=U.gR k7 (H _ _ (A _ _ k2));have k8:=U.ae cf;have k4:=U.aJ a02;have a03: ∀a c d,x= .an a c d 37->a≠D/\a≠S/\a≠ej/\a≠F/\a≠df:=by
   rintro a c d rfl;obtain⟨h,a63,y⟩:=n.own;have a65:=k5.1 _ _ bs;have a68:=k5.1 _ _ aH;have I:=(L.mono (U.aq n1 k5.1)).cE h;refine⟨I.1,I.2,?_,?_,?_⟩
   .rintro rfl;rw[a65]at h;cases h
   .rintro rfl;rw[H _ _ (A _ _ y)]at k7;cases k7
   .rintro rfl;rw[a68]at h;cases h
  have a04: ∀a c d,P= .an a c d 1->a≠D/\a≠S/\a≠ej/\a≠F/\ ∀K Y Z,x= .an K Y Z 37->K≠a:=by
   rintro a c d rfl;obtain⟨h,a63,y⟩:=B.own;have I:=(L.mono a00).cE h;refine⟨I.1,I.2,?_,?_,?_⟩
   .rintro rfl;rw[A _ _ k2]at h;cases h
   grind
   .rintro K Y Z rfl rfl;obtain⟨_,b68,r⟩:=n.own;rw[A _ _ r]at h;cases h
  refine aG (λk9=> ?_) λk9=> ?_
  .rw[if_pos k9]at b;have b69:(p.rows.map Prod.fst).length=p.rows.length:=a4Y _;generalize b34:p.rows.map Prod.fst=l0 at*;refine cl (DJ l0 a56 P G a38 C q ((bR.dR B a9p rfl (q.cells λ_ _=>isRow.cells)).mono g) a9p) ?_;rintro _ C ⟨rfl,b70,rfl⟩;have b35:kA l0 G=true->eU l0 G<l0.length:=λo=>by
    grind[kA,List.getElem?_eq_some_iff]
   generalize eU l0 G=V at*;refine aa ?_;refine aG (λa05=> ?_) λa05=> ?_
   .rw[if_neg (by simp[a05])]at b;subst b;exact⟨_,U.a1,(L.mono X).set z,(Ext.of X).set O,a9t,_,_,_,rfl⟩
   .rw[if_pos a05]at b;have b71:=b35 a05;obtain⟨b36,b09,b72,_,b37⟩:=au.o4 (au.mono B g);rw[nj q]at b09;have b73:=q.len;refine cl (YG b36 C a56 P b09 V a9p a9p) ?_;intro a5 s M;have b10:=(q.take V).append (q.drop (V+1));rw[<-nj b10]at M;have a06: ∀i k,C i=some k->(∀a c d,P= .an a c d 1->a≠i)->s i=some k:=λi k o b38=>M.1 _ _ (by rw[b37 i b38];exact o);have a07:=a06 _ _ cf λa c d o=>(a04 a c d o).2.2.2.1;have a08:=a06 _ _ a02 λa c d o=>(a04 a c d o).2.2.1;have t:e.sub s:=λi k l1=>a06 i k (X _ _ l1) (by
     rintro a c d rfl rfl;have:=B.own.1;rw[a00 _ _ l1]at this;cases this)
    have b74:=fG M;obtain⟨W,j⟩: ∃W,(s.set F (.cells [.v (.bool true),a5,x])).set ej (.cells [.v (.bool true),a5,x])=W:=⟨_,rfl⟩;have k4: ∀k,ef (s.set F k) ej=some [.v (.bool false),.J [] .nil,.J [] .nil]:=λk=>U.aJ (by rw[U.ao _ _ a62];exact a08);have b11:=U.aJ a07;have b12:W.read ej=some [.v (.bool true),a5,x]:=U.ae (by rw[<-j,U.ai]);clear b34 k8;refine aa ?_;refine⟨W,U.a1,?_⟩;subst b;refine⟨by rw[<-j];exact((L.mono t).set T).set z,by rw[<-j];exact((Ext.of t).set a57).set O,a5,x,_,n5,rfl,iF.of b10 Q (au.emp M ?_) (au.emp n ?_) a9r a9r⟩
    .rintro a c d rfl;have l2:=M.own.1;have h:a≠F:=by grind
     have y:a≠ej:=by grind
     rw[<-j,U.ao _ _ y,U.ao _ _ h]
    .rintro a c d rfl;obtain⟨_,a63,r⟩:=n.own;have u:=a03 _ _ _ rfl;rw[<-j,U.ao _ _ u.2.2.1,U.ao _ _ u.2.2.2.1,r];exact a06 _ _ (a01 _ _ r) λK Y Z o=>a4U ((a04 K Y Z o).2.2.2.2 _ _ _ rfl)
  .rw[if_neg k9]at b;rw[decide_eq_false k9]at cf k8;have b75:=q.len;have a52:=rd (U.aq H g) bt;refine cl (DI p b04 n5 n4 x G a38 C (b07.mono (U.aq H g))) ?_;rintro _ C ⟨rfl,rfl⟩;obtain⟨-,a65,a68,I⟩:=b06.inner (b33.resolve_left k9);have a09:ht G p<p.kids.length:=by grind[xN,List.length_map]
   generalize ht G p=V at*;have a69:=a4M a09;have b13:p.kids[V]'a09∈p.kids:=a5p _;rw[a69]at b;simp only at b;generalize p.kids[V]'a09=j9 at a69 b13 b;obtain⟨b76,b39,b14,b40,h,y,r,rfl⟩:=Q.get a69;obtain⟨_,_,_,b77,b78⟩:=I j9 b13;have b15:=au.mono n a01;obtain⟨b41,b42,b79,_,l3⟩:=b15.o4;have b16:e.sub b41:=λi k l1=>by
    rw[l3 i (by
     rintro a c d rfl rfl;have:=n.own.1;rw[k5.1 _ _ (n1 _ _ l1)]at this;cases this)]
    exact X _ _ l1
   have b17:=(l3 _ λa c d o=>(a03 a c d o).2.2.2.1).trans cf;have b18:=(l3 _ λa c d o=>(a03 a c d o).2.2.1).trans a02;have b80:=(l3 _ λa c d o=>(a03 a c d o).2.2.2.2).trans a61;have b43:=L.mono X;have a71:=U.ae a61;obtain⟨b44,b45,a73⟩:=(bR.dR b15 a9p rfl (bu.c Q)).get V _ b39;have b19:=aV (M:=h) (e6:=y) (h4:=r) b14;change ng C b44 (ab j9 h y r)at a73;have b20:=a73.ld C U.a1 true 37 a9p (by rw[b19.len];omega);rw[show aX true 37 (ab j9 h y r)= .agg (ab j9 h y r) by rw[aX,if_pos rfl,b19.t37]]at b20;refine aa ?_;refine cl (ih C m j9 h y r b43 b14 b40 a9p a9p) ?_;intro l8 s k0;generalize hX E G l m j9=a74 at k0 b;obtain⟨res,a81⟩:=a74;obtain⟨a10,t,k0⟩:=k0
   dsimp only at a10 k0 b
   have a08:=t _ _ z.1 z.2 a02;have a07:=t _ _ T.1 T.2 cf;have b21:=t _ _ b01.1 b01.2 a61;clear a71 a52 k8 b20 b45 a73;cases res with
   |error b46=>obtain⟨a83,a,a11,a13,rfl⟩:=k0;subst b;refine aa ?_;refine bp λa14 v=> ?_;have b47:=U.gR v a08;have k4: ∀k,ef (s.set a14 k) ej=some [.v (.bool false),.J [] .nil,.J [] .nil]:=λk=>U.aJ (by rw[U.ao _ _ b47];exact a08);have b22:=a10.cE v;have w:=(Ext.of X).trans t;refine aa ?_;exact⟨_,U.a1,(a10.set b22).set z,(w.set (w.no b22 v)).set O,a83,_,_,_,rfl⟩
   |ok a15=>
    obtain⟨a11,a13,b48,b49,rfl,a84⟩:=k0
    dsimp only at b
    refine aa ?_;refine bp λa14 v=> ?_;obtain⟨W,j⟩: ∃W,s.set a14 (.cells [.v (.bool a15.leaf),a11,a13])=W:=⟨_,rfl⟩;have a16:s.sub W:=by rw[<-j];exact U.af U.a1 v
    have b50:W.read a14=some [.v (.bool a15.leaf),a11,a13]:=U.ae (by rw[<-j,U.ai]);have k8:=rd a16 a07;have a71:=rd a16 b21;have b81:=U.gR v a07;have b82:=U.gR v b21;have b51:=ds.mono ((ds.of b42 (L.mono b16) Ext.refl).step t a10) a16;obtain⟨b23,M,b52,a18⟩:=b51;refine cl (YU b23 W D S a81 b52 p.kids n5 x M Q a15 a11 a13 b48 b49 (a84.mono a16) a65 a9p V a09 E a96 a97) ?_;intro l8 N l9;clear j v b50 k8 a71;have a19:=λl4 a86 o=>YW (H:=a81) (h:=l4) (e:=E) (i:=V) (d:=a86) o a68 ⟨a84.kx,a84.ix⟩;generalize jQ a81 E p.kids V a15=a74 at b l9 a19;obtain⟨res,l4⟩:=a74;have a27: ∀(a29),bB N D S l4->Ext D S b23 N->N ej=some (.cells [.v (.bool false),.J [] .nil,.J [] .nil])/\N F=some (.cells [.v (.bool false),P,x])/\
      ∃k1:U,(N.set F (.cells [.v (.bool false),P,a29])).set ej (.cells [.v (.bool false),P,a29])=k1/\k1.read ej=some [.v (.bool false),P,a29]/\bB k1 D S l4/\Ext D S e k1:=by
     intro a29 h y;have r:=a18.trans y;exact⟨r _ _ z.1 z.2 b18,r _ _ T.1 T.2 b17,_,rfl,U.ae (U.ai _ _ _),(h.set T).set z,((((Ext.of b16).trans r).set a57).set O)⟩
    cases res with
    |error b46=>
     obtain⟨b24,b53,a83,a30,rfl,b54⟩:=l9
     dsimp only at b b24
     subst b;obtain⟨a88,a89,k1,a90,b12,a92,a94⟩:=a27 a30 b24 b53;have k4: ∀k,ef (N.set F k) ej=some [.v (.bool false),.J [] .nil,.J [] .nil]:=λk=>U.aJ (by rw[U.ao _ _ a62];exact a88);have b11:=U.aJ a89;clear a19 a27;refine aa ?_;exact⟨_,U.a1,a92,a94,a83,_,_,_,rfl⟩
    |ok a86=>
     obtain⟨b55,a30,b56,rfl,a34⟩:=l9;have b57:=a19 l4 a86 rfl
     dsimp only at b a34
     subst b;obtain⟨a88,a89,k1,a90,b12,a92,a94⟩:=a27 a30 a34.gJ a34.ext;have k4: ∀k,ef (N.set F k) ej=some [.v (.bool false),.J [] .nil,.J [] .nil]:=λk=>U.aJ (by rw[U.ao _ _ a62];exact a88);have b11:=U.aJ a89;obtain⟨b83,a36,b84,a95⟩:=a34;have b54:=fG a36;clear a19 a27;refine aa ?_;have b58:=a18.trans (a95.trans (Ext.of a36.1));refine⟨_,U.a1,a92,a94,P,a30,a56,b55,rfl,iF.of q b56 (au.emp (au.mono B g) ?_) (au.emp a36 ?_) a9r b57⟩
     .rintro a c d rfl;have u:=a04 _ _ _ rfl;obtain⟨_,a63,r⟩:=B.own;rw[<-a90,U.ao _ _ u.2.2.1,U.ao _ _ u.2.2.2.1,g _ _ r];exact b58 _ _ u.1 u.2.1 (by rw[l3 _ (λK Y Z o=>u.2.2.2.2 K Y Z o)];exact g _ _ r)
     .rintro a c d rfl;have l2:=a36.own.1;have b59:=a95 _ _ T.1 T.2 (a18 _ _ T.1 T.2 b17);have b60:=a95 _ _ z.1 z.2 (a18 _ _ z.1 z.2 b18);have h:a≠F:=by rintro rfl;rw[b59]at l2;cases l2
      have y:a≠ej:=by rintro rfl;rw[b60]at l2;cases l2
      rw[<-a90,U.ao _ _ y,U.ao _ _ h]
def ll (d:Nat) (k:List Int) (h:ah) (c:az):Except Int az×ah:=
 if c=ay then(.error 9,h)
 else match hX d k (c.size.toNat+1) h c with
  |(.error o,b)=>(.error o,b)
  |(.ok a,b)=>
   if a.leaf=true/\a.rows.length=0 then(.ok ay,b)
   else if a.leaf=false/\a.kids.length=1 then(.ok (a.kids.headD ay),b)
   else me b d a.leaf a.rows a.kids
def YY (V:U) (x W:Nat) (L:ah) (H:bB V x W L) (c:az) (e f g:Own) (I:c.sum.length=32) (k3:c.cB) (o:List Int) (n:Own) (b:Nat) (k4:1<=b) (k5:b<=8) (a13:o.length=b):
  AC Tryz.prog 87 [.ptr x 0,.agg (ab c e f g),.J (ad o) n,.v (.int .i64 (b:Int))] V λK k6=>bB k6 x W (ll b o L c).2/\Ext x W V k6/\gV (ll b o L c).1 K:=by
 have a14:=(aV (M:=e) (e6:=f) (h4:=g) I).lt;have a15:=(aV (M:= .nil) (e6:= .nil) (h4:= .nil) bj).lt;have a16:=cp;have M:=λN d h k i=>cD (a:= .nil) (b:= .nil) (c:= .nil) (A:=N) (M:=d) (e6:=h) (h4:=k) bj i;have a18:=M ay .nil .nil .nil bj;generalize O:ab ay .nil .nil .nil=k7 at*;obtain⟨k8,a⟩: ∃k8,ll b o L c=k8:=⟨_,rfl⟩;rw[a];unfold ll at a;have a19:qH (b) [o]=true:=by simp[qH];omega
 refine aM hm LP ?_;refine bp λgW n2=> ?_;refine cV λQ P _ _=> ?_;refine tV λn3 a27 _ _ _ _=> ?_;generalize y:((V.set gW _).set Q _).set n3 _=E;have q:V.sub E:=by subst y;exact aS
 have bm:E gW=some (.cells (ab c e f g)):=by subst y;exact aS
 have bt:E Q=some (.cells k7):=by subst y;exact aS
 clear y;have k9:=H.mono q;have r:=H.cE P;have l0:=U.ae bm;have X:=U.aJ bt;have n4:= @U.set_set;refine lW (DF b [o] [.J (ad o) n] _ E ⟨⟨n,rfl⟩,trivial⟩ (bR.J (by simp[aR,R.cells])) a9q) ?_;refine lW (nh c e f g E I k3) ?_;refine aG (λY=> ?_) λY=> ?_
 .rw[if_pos Y]at a;subst a;exact⟨_,U.a1,k9.set r,(Ext.of q).set P,a9t,by rw[O]⟩
 rw[if_neg Y]at a;refine bp λl1 s=> ?_;have a29:=U.gR s bm;obtain⟨j,z⟩: ∃j,E.set l1 (.cells [.ptr x 0,.v (.int .i64 (b))])=j:=⟨_,rfl⟩;have t:E.sub j:=by rw[<-z];exact U.af U.a1 s
 have cf:j l1=some (.cells [.ptr x 0,.v (.int .i64 (b))]):=by rw[<-z,U.ai]
 have l2:=U.ae cf;have l0:=rd t bm;refine cl (YX x W o n b k4 k5 (c.size.toNat+1) j L c e f g (k9.mono t) I k3 a9p a9p) ?_;intro K Z C;generalize hX b o (c.size.toNat+1) L c=n5 at C a;obtain⟨res,n9⟩:=n5;obtain⟨u,j9,C⟩:=C
 dsimp only at u C a
 have v:=j9 _ _ r.1 r.2 (t _ _ bt);have l3:=H.cE (U.bF q s);have a00:=j9 _ _ l3.1 l3.2 cf;have y:=(Ext.of (U.aq q t)).trans j9;clear z l2 l0;cases res with
 |error a01=>obtain⟨a02,a30,w,l,rfl⟩:=C;subst a;refine aa ?_;refine bp λA S=> ?_;have l4:=u.cE S;have a03:=U.gR S v;have X: ∀l5,ef (Z.set A l5) Q=some k7:=λl5=>U.aJ (by rw[U.ao _ _ a03];exact v);refine aa ?_;exact⟨_,U.a1,(u.set l4).set r,(y.set (y.no l4 S)).set P,a02,by rw[O]⟩
 |ok T=>
  obtain⟨w,l,a04,a05,rfl,p⟩:=C
  dsimp only at a
  refine aa ?_;refine bp λA S=> ?_;obtain⟨F,B⟩: ∃F,Z.set A (.cells [.v (.bool T.leaf),w,l])=F:=⟨_,rfl⟩;have D:Z.sub F:=by rw[<-B];exact U.af U.a1 S
  have a34:F.read A=some [.v (.bool T.leaf),w,l]:=U.ae (by rw[<-B,U.ai]);have l2:=rd D a00;have X:=U.aJ (D _ _ v);have k0:=u.mono D;have k1:=y.trans (Ext.of D);have a36:=p.ou.len;have a38:=p.jP.len;have a42:=p.kx;have a43:=p.ix;rw[n4,B];clear S s n2 B;refine aG (λG=> ?_) λG=> ?_
  all_goals refine aG (λc2=> ?_) λc2=> ?_
  .rw[if_pos ⟨G,a9p⟩]at a;subst a;exact⟨_,U.a1,k0.set r,k1.set P,bj,kv,.nil,.nil,.nil,by rw[O]⟩
  rotate_left
  .obtain⟨m,l6⟩:=a6N.1 (show T.kids.length=1 by omega);rw[if_neg (by simp[G]),if_pos ⟨G,a9p⟩,l6]at a;subst a;obtain⟨a47,a06,k2,a07,d,h,k,rfl⟩:=p.k.get (show T.kids[0]? =some m by rw[l6];rfl);obtain⟨l7,l8,l9⟩:=(p.uo.mono D).get 0 _ a06;have z:=aV (M:=d) (e6:=h) (h4:=k) k2;change ng F l7 (ab m d h k)at l9;have l8:cL 37 l (.v (.int .i64 0))=some l7:=l8;have a08:=l9.ld F U.a1 true 37 a9p (by rw[z.len];omega);rw[show aX true 37 (ab m d h k)= .agg (ab m d h k) by rw[aX,if_pos rfl,z.t37]]at a08;have a09:=M m d h k k2;have z:=z.lt;refine aa ?_;exact⟨_,U.a1,k0.set r,k1.set P,k2,a07,d,h,k,rfl⟩
  all_goals
   rw[if_neg (by rintro⟨i,a10⟩;first|omega|simp[G]at i),if_neg (by rintro⟨i,a10⟩;first|omega|simp[G]at i),G]at a;subst a;refine cl (DH F x W n9 k0 _ T.rows a04 w T.kids a05 l b k4 k5 p.r (p.aj.mono D) a9p p.k (p.uo.mono D) a9p) ?_;rintro K a48 ⟨a11,n0,C⟩;have X:=U.aJ (n0 _ _ r.1 r.2 (D _ _ v));obtain⟨N,d,h,k,a01,n1,rfl⟩:=C.shape;have a52:=(aV (M:=d) (e6:=h) (h4:=k) n1).lt;have a09:=M N d h k n1;refine aa ?_;exact⟨_,U.a1,a11.set r,(k1.trans n0).set P⟩
end Go.Proofs.YtlgnfcaolejgeaaGreat
namespace Go.bz
open Go
end Go.bz
namespace Go.Proofs.YtlgnfcaolejgeaaGreat
open Go Go.bz
inductive qJ where
 |row (r:List Int)
 |gY (k:az)
def YZ (h:qJ) (b:R):Prop:=
 match h with
 | .row c=>c≠ []/\ ∃d,d≠ .nil/\b= .agg (.J (ad c) d::ab ay .nil .nil .nil)
 | .gY a=>a.sum.length=32/\a.cB/\ ∃k o p,b= .agg (.J [] .nil::ab a k o p)
abbrev Z0 (a b:Nat) (c:List R) (d:Own):List R:= [.ptr a 0,.v (.int .i64 (b:Int)),.J c d]
def DY (b:U) (c d h:Nat) (k:List qJ):Prop:= ∃a o,b c=some (.cells (Z0 d h a o))/\aA YZ k a
structure DZ where
 A:List qJ
 B:List qJ
 gone:List (List Int)
 xP:List (List Int)
 ov:Int
abbrev Z1 (a b:Nat) (c d:List R) (h k:Own) (o:Int):List R:= [.ptr a 0,.ptr b 0,.J c h,.J d k,.v (.int .i64 o)]
structure a4G (h k:U) (W o p z C d:Nat) (w:DZ):Prop where
 sub:h.sub k
 xQ:h W=none
 na:h o=none
 nb:h p=none
 a4H:o≠p
 a:DY k o z d w.A
 b:DY k p C d w.B
 w: ∃lY eZ r gn,k W=some (.cells (Z1 o p lY r eZ gn w.ov))/\aA isRow w.gone lY/\aA isRow w.xP r/\bh h k 1 lY eZ/\bh h k 1 r gn/\ ∀x c y D,eZ= .buf x c->gn= .buf y D->x≠y
end Go.Proofs.YtlgnfcaolejgeaaGreat
namespace Go.bz
open Go
end Go.bz
namespace Go.Proofs.YtlgnfcaolejgeaaGreat
open Go Go.bz
variable{A j2:az}{e i v O b8 j0:Nat}{b9:c3}{H:ah}
def xR (a:fk H e A=some b9):pr e A b9:=by
 unfold fk at a;split at a
 .cases a
 .split at a
  .cases a
  .split at a
   .rename_i b;obtain rfl:=a4L a;exact um b
   .cases a
end Go.Proofs.YtlgnfcaolejgeaaGreat
namespace Go.bz
open Go
end Go.bz
namespace Go.Proofs.YtlgnfcaolejgeaaGreat
open Go Go.bz
def wt:qJ->Nat
 | .row _=>1
 | .gY a=>if 1<=a.size/\a.size<=1048576 then 3*a.size.toNat - 1 else 1
def kC (a:List qJ):Nat:=(a.map wt).sum
structure Bd (w a:DZ):Prop where
 wt:kC a.A+kC a.B<kC w.A+kC w.B
 rows:a.gone.length+a.xP.length+(kC a.A+kC a.B)<=w.gone.length+w.xP.length+(kC w.A+kC w.B)
 ov:w.ov<=a.ov/\a.ov+2*(kC a.A+kC a.B:Nat)<=w.ov+2*(kC w.A+kC w.B:Nat)
end Go.Proofs.YtlgnfcaolejgeaaGreat
namespace Go.bz
open Go
theorem Z2 (a:Nat) (c:a<18446744073709551616):a^^^9223372036854775808=(a+9223372036854775808)%18446744073709551616:=by
 have h:(9223372036854775808)=2^63:=a9t;have d:(18446744073709551616)=2^64:=a9t;rw[d]at c;rw[h,d];apply a7k;intro b;rw[a8g,a9g,a8G,a8y];by_cases h1:b<63
 .rw[a8q h1];grind
 .by_cases k:b=63;grind
  .have o: ¬b<64:=a9p;have p:a.testBit b=false:=a6O (a5Z c (a6z a9p a9p));grind
end Go.bz
namespace Go.Proofs.YtlgnfcaolejgeaaGreat
open Go Go.bz
theorem E0 (a:Int):(ck a:Int)=(a+9223372036854775808)%18446744073709551616:=by grind[BitVec.ofInt,BitVec.toNat_ofInt,ck,BitVec.toNat_xor,Z2]
def Z3 (a:Int):IntKind.u64.wrap (IntKind.u64.wrap a+9223372036854775808)=(ck a:Int):=by rw[E0,kr,kr];omega
variable{b1:Int}
theorem E1 (a: -9223372036854775808<=b1) (b:b1<9223372036854775808):(ck b1:Int)=b1+9223372036854775808:=by rw[E0];omega
variable{b0:Type}
theorem uq {a b:List b0}{d:b0} (h:a.length=b.length) (k: ∀c<a.length,a.getD c d=b.getD c d):a=b:=
 a8B h λc o p=>by grind
theorem nn (a c:List Int) (o p:Own) (h:U) (D:a.length<=1000000000000):
  AC Tryz.prog 14 [.J (ad a) o,.J (ad c) p] h λr x=>x=h/\r= .v (.bool (decide (a=c))):=by
 have E:=bH (q:=a);have F:=bH (q:=c);have G:= @dJ a;have L:= @dJ c;refine aM hm JZ ?_;refine aG (λy=> ?_) λy=> ?_
 .exact aP (by grind)
 refine gE [0,1] (λb:Nat=> [(5,.v (.int .i64 b))]) (λb=>b<=a.length/\ ∀d<b,a.getD d 0=c.getD d 0) (λb=>a.length - b) 0 ⟨a9p,λd z=>by omega⟩ aS ?_;rintro b ⟨P,k⟩ S;refine aa ?_;refine aG (λC=> ?_) λC=> ?_;rotate_left
 .exact aP (by simp[uq a9p (λd z=>k d a9p)])
 refine aG (λc2=> ?_) λc2=> ?_
 .exact aP (by grind)
 .exact⟨b+1,⟨a9p,upto k c2⟩,rfl,a9p⟩
variable{g B e0:List R}{e i v O b8 j0:Nat}
theorem aA.at {b:b0->R->Prop}{a:List b0} (d:b0) (h:aA b a g) (k:e<a.length): ∃c,g[e]? =some c/\b (a.getD e d) c:=h.get (by simp_all)
theorem E2 (b d:List (List Int)) (k o:List R) (z C:Own) (p:U) (r:aA isRow b k) (x:aA isRow d o) (P:b.length<=1000000000000) (D: ∀h∈b,h.length<=1000000000000):
  AC Tryz.prog 28 [.J k z,.J o C] p λh E=>E=p/\h= .v (.bool (decide (b=d))):=by
 have S:=r.len;have T:=x.len;refine aM hm Kh ?_;refine aG (λF=> ?_) λF=> ?_
 .exact aP (by grind)
 refine gE [0,1] (λa:Nat=> [(5,.v (.int .i64 a))]) (λa=>a<=b.length/\ ∀c<a,b.getD c []=d.getD c []) (λa=>b.length - a) 0 ⟨a9p,λc G=>by omega⟩ aS ?_;rintro a ⟨V,y⟩ W;refine aa ?_;refine aG (λL=> ?_) λL=> ?_;rotate_left
 .exact aP (by simp[uq a9p (λc G=>y c a9p)])
 obtain⟨_,e,_,rfl⟩:=r.at [] (e:=a) a9p;obtain⟨_,f,_,rfl⟩:=x.at [] (e:=a) a9p;refine lW (nn _ _ _ _ _ (D (b.getD a []) (by grind))) ?_;refine aG (λc2=> ?_) λc2=> ?_
 .exact aP (by grind)
 .exact⟨a+1,⟨a9p,upto y c2⟩,rfl,a9p⟩
def hY (a:Bool):UInt8:=if a=true then 1 else 0
def sE (a:List Int):List UInt8:=(a6.cc (a.map ck) 64).map hY
theorem np (a:List Int) (b:Nat):(a6.cc (a.map ck) b).length=a.length*b:=by rw[a6.Dm,a4Y]
theorem Z4 (c:List Int) (P:Own) (o:U) (n:c.length<=1000):
  AC Tryz.prog 345 [.J (ad c) P] o λS k=> ∃C,bh o k 1 ((sE c).map ak) C/\S= .J ((sE c).map ak) C:=by
 have q:=bH (q:=c);have D:= @dJ c;have T:(sE c).length=c.length*64:=by rw[sE,a4Y,np]
 refine aM hm Su ?_;refine cn [0] (λa:Nat×List UInt8×Own=> [(3,.J (a.2.1.map ak) a.2.2),(4,.v (.int .i64 ((a.1) - 1)))]) (λa k=>a.1<=64/\a.2.1++(a6.cc (c.map ck) a.1).map hY=sE c/\bh o k 1 (a.2.1.map ak) a.2.2) (λa=>a.1) (64,[],.nil) ⟨⟨a9t,rfl,bh.nil U.a1⟩,aS⟩ ?_;rintro⟨x,E,V⟩ s ⟨y,p,h⟩ W
 dsimp only at y p h|-
 refine aa ?_;refine aG (λF=> ?_) λF=> ?_
 .obtain⟨b,rfl⟩: ∃b,x=b+1:=⟨x - 1,a9p⟩;have e:=congrArg List.length p;rw[a4O,T]at e;rw[a6.cc,a5P,<-a5b]at p;have f:((b+1:Nat)) - 1=(b:Int):=a9p;have t:IntKind.u64.wrap (b)=(b):=wrap_u64 a9p a9p;rw[f]at F|-;refine cn [0,4] (λa:Nat×List UInt8×Own=> [(3,.J (a.2.1.map ak) a.2.2),(5,.v (.int .i64 (a.1)))]) (λa k=>a.1<=c.length/\E++((c.take a.1).map λg=>hY ((ck g).testBit b))=a.2.1/\bh o k 1 (a.2.1.map ak) a.2.2) (λa=>c.length - a.1) (0,E,V) ⟨⟨a9q,a9q,h⟩,aS⟩ ?_;clear h;rintro⟨r,G,i⟩ u ⟨j,z,h⟩ W
  dsimp only at j z h|-
  have v:G.length<=65000:=by grind
  refine aa ?_;refine aG (λl=> ?_) λl=> ?_
  .have w:=fb (a:=c) (b:=0) (e:=r) a9p;have A:=D (b:=r) a9p;clear D;generalize c.getD r 0=d at*;have B:bn .shr (.int .u64 (ck d)) (.int .u64 (b))=some (.int .u64 ((ck d>>>b))):=by rw[rS _ _ _ a9p a9p];simp
   have H:bn .rem (.int .u64 ((ck d>>>b))) (.int .u64 2)=some (.int .u64 (((ck d>>>b)%2:Nat))):=by simp only[bn,fq,hD,a5M,if_false,if_true];rfl
   have I:IntKind.u8.wrap (((ck d>>>b)%2:Nat))=((hY ((ck d).testBit b)).toNat):=by
    rw[wrap_u8 a9p a9p];have:(ck d).testBit b=decide ((ck d>>>b)%2=1):=by simp
    rw[this,hY];rcases Nat.mod_two_eq_zero_or_one (ck d>>>b)with L|L<;>simp[L]
   have K:=Z3 d;refine Xe h λM m N y _=> ?_;exact⟨(r+1,_,m),⟨by simp only;omega,by grind,y⟩,⟨rfl,rfl⟩,by simp only;omega⟩
  .rw[a4N a9p]at z;refine⟨(b,G,i),⟨by simp only;omega,by simp only[<-z,<-p,a6.fI,a6P];rfl,h⟩,⟨rfl,rfl⟩,a9q⟩
 .obtain rfl:x=0:=a9p;grind[a6.cc,U.a1]
def Z5 (b:Nat) (c:List Bool) (a:Nat) (d:a<b):a6.iC (b - a) (c.drop (8*a))=UInt8.ofNat (a6.val ((c.drop (8*a)).take 8))::a6.iC (b -(a+1)) (c.drop (8*(a+1))):=by rw[show b - a=(b -(a+1))+1 by omega,a6.iC,a5B,show 8*(a+1)=8*a+8 by omega]
theorem xS: ∀(b:List Bool) (a:Bool),a6.val (b++ [a])=2*a6.val b+(if a=true then 1 else 0)
 | [],a=>by simp[a6.val]
 |c::b,a=>by
  simp only[a6a,a6.val,a4O,a4S,a4W,xS b a,a8A];split<;>omega
theorem Z6 (b:List Bool) (h:Nat) (l:b.length=8*h) (D:Own) (G:U) (O:h<=100000):
  AC Tryz.prog 344 [.J ((b.map hY).map ak) D] G λm z=> ∃W,bh G z 1 ((a6.iC h b).map ak) W/\m= .J ((a6.iC h b).map ak) W:=by
 refine bd hm Ss a9q ?_;have e:((b.map hY).map ak).length=8*h:=by simp[l]
 refine bT ?_;refine ct (λd z=> ∃(a:Nat) (x:List UInt8) (C:Own),a<=h/\x++a6.iC (h - a) (b.drop (8*a))=a6.iC h b/\x.length=a/\bh G z 1 (x.map ak) C/\d 0= .J ((b.map hY).map ak) D/\d 3= .J (x.map ak) C/\d 4= .v (.int .i64 ((8*a:Nat))))
  (λd _=>match d 4 with| .v (.int _ L)=>8*h - L.toNat| _=>0) ⟨0,[],.nil,a9p,rfl,rfl,bh.nil U.a1,?_⟩ ?_
 .exact mT
 rintro d n ⟨a,x,C,Q,P,X,f,p,r,o⟩;by_cases g:((8*a:Nat))+7<((8*h:Nat):Int)
 .rw[Z5 h b a a9p]at P;refine aj (bm @p @r @o @e @g) ?_;refine ct (λd z=> ∃c:Nat,c<=8/\z=n/\d 0= .J ((b.map hY).map ak) D/\d 3= .J (x.map ak) C/\d 4= .v (.int .i64 ((8*a:Nat)))/\d 5= .v (.int .u8 (a6.val ((b.drop (8*a)).take c)))/\d 6= .v (.int .i64 c))
   (λd _=>match d 6 with| .v (.int _ L)=>8 - L.toNat| _=>0) ⟨0,a9p,rfl,?_⟩ ?_
  .refine aj (aH @p @r @o) ?_;rfl
  have q:=o;clear p r o;rintro Y s ⟨c,Z,rfl,p,r,o,E,F⟩;by_cases i:(c:Int)<8
  .have S:b[8*a+c]? =some b[8*a+c]:=a4M a9p;have j:(b.drop (8*a)).take (c+1)=(b.drop (8*a)).take c++ [b[8*a+c]]:=by rw[a5Y,a7N,S];rfl
   generalize b[8*a+c]'a9p=k at S j;have T:=a6.ni ((b.drop (8*a)).take (c+1));have V:a6.val ((b.drop (8*a)).take (c+1))<256:=a5Z T (by
    have:((b.drop (8*a)).take (c+1)).length<=8:=by rw[a4P];omega
    exact a6z a9p this)
   rw[j,xS]at V;have t:cL 1 (.J ((b.map hY).map ak) D) (.v (.int .i64 (((8*a:Nat))+(c))))=some (.bV [.v (.int .u8 ((hY k).toNat))]):=by rw[show((8*a:Nat))+(c)=((8*a+c:Nat):Int) by omega,hG a9p];rw[a5q,a5n,a5n,S];rfl
   have u:dq false 1 s (.bV [.v (.int .u8 ((hY k).toNat))])=some (.v (.int .u8 ((hY k).toNat))):=rfl;have j9:((hY k).toNat:Int)=if k=true then 1 else 0:=by cases k<;>rfl
   generalize k0:a6.val ((b.drop (8*a)).take c)=y at*;have k1:(if k=true then 1 else 0)<=1:=by split<;>omega
   have v:IntKind.u8.wrap (2*(y))=((2*y:Nat)):=by rw[wrap_u8 a9p a9p];omega
   have w:IntKind.u8.wrap (((2*y:Nat))+((hY k).toNat))=((2*y+(if k=true then 1 else 0):Nat)):=by grind[wrap_u8]
   have A:bn .mul (.int .u8 2) (.int .u8 (y))=some (.int .u8 ((2*y:Nat))):=by rw[<-v];rfl
   have B:bn .add (.int .u8 ((2*y:Nat))) (.int .u8 ((hY k).toNat))=some (.int .u8 ((2*y+(if k=true then 1 else 0):Nat))):=by rw[<-w];rfl
   refine aj (cf @p @r @o @E @F @i @t @u @A @B) ?_;grind[xS]
  .obtain rfl:c=8:=a9p;refine aj (bs @p @r @o @E @F @i) ?_;refine dc U.a1 (by simp[aR,R.cells]) λk2 k3 H=> ?_;refine aj (bm @p @r @o @E @F) ?_;refine dY (f.mono H.sub) (by intro k4 I;obtain⟨k5,_,rfl⟩:=a5h.1 I;rfl) (by simp[aR,R.cells]) (by grind) (by grind) λk6 k7 K=> ?_;have T:=a6.ni ((b.drop (8*a)).take 8);have V:a6.val ((b.drop (8*a)).take 8)<256:=a5Z T (by
    grind)
   have M:R.v (.int .u8 (a6.val ((b.drop (8*a)).take 8)))=ak (UInt8.ofNat (a6.val ((b.drop (8*a)).take 8))):=by show _=R.v (.int .u8 ((UInt8.ofNat (a6.val ((b.drop (8*a)).take 8))).toNat));rw[a5T,a6y V]
   have N:x.map ak++ [R.v (.int .u8 (a6.val ((b.drop (8*a)).take 8)))]=(x++ [UInt8.ofNat (a6.val ((b.drop (8*a)).take 8))]).map ak:=by rw[M,a5P];rfl
   rw[N]at K|-;refine aj (bs @p @r @o @E @F @q) ?_;grind
 .obtain rfl:a=h:=a9p;rw[a7e,a6.iC,a5R]at P;subst P;refine aj (bm @p @r @o @e @g) ?_;exact⟨_,U.a1,C,f,rfl⟩
def codeF (a:List Int):List UInt8:=a6.iC (8*a.length) (a6.cc (a.map ck) 64)
def ur (a:List Int):(codeF a).length=8*a.length:=a6.Ds _ _
def E3 (a:List Int) (c:Own) (b:U) (d:a.length<=1000):
  AC Tryz.prog 315 [.J (ad a) c] b λh k=>b.sub k/\ ∃o,h= .J ((codeF a).map ak) o:=by
 refine bd hm RV a9q ?_;refine bT ?_;refine ag (Z4 a c b d) ?_;rintro _ p ⟨r,x,rfl⟩;refine bT ?_;refine ag (Z6 (a6.cc (a.map ck) 64) (8*a.length) (by rw[np];omega) r p a9p) ?_;rintro _ C ⟨y,z,rfl⟩;refine bT ?_;exact⟨_,U.a1,U.aq x.sub z.sub,y,rfl⟩
def kD (a b:List Int):Bool:=if a.length=b.length then Op.bytesLess (codeF a) (codeF b)else decide (a.length<b.length)
def Z7 (a b:List UInt8):iY .lss (bb a) (bb b)=some (.v (.bool (Op.bytesLess a b))):=by show(bn .lss (.string ⟨a.toArray⟩) (.string ⟨b.toArray⟩)).map R.v= _;simp only[bn,pV,toList_mk,a5O]
theorem Z8 (a b:List Int) (d h:Own) (k:U):
  AC Tryz.prog 314 [.J ((codeF a).map ak) d,.J ((codeF b).map ak) h] k λy z=>z=k/\y= .v (.bool (kD a b)):=by
 refine bd hm RT a9q ?_;have o:((codeF a).map ak).length=8*a.length:=by rw[a4Y,ur]
 have p:((codeF b).map ak).length=8*b.length:=by rw[a4Y,ur]
 have r:mR (.J ((codeF a).map ak) d)=some (bb (codeF a)):=p3;have x:mR (.J ((codeF b).map ak) h)=some (bb (codeF b)):=p3;unfold kD;by_cases C:a.length=b.length
 .have c:((8*a.length:Nat))=((8*b.length:Nat):Int):=a9p;refine aj (bs @o @p @c @r @x @Z7) ?_;exact⟨_,U.a1,rfl,by rw[if_pos C]⟩
 .have c: ¬((8*a.length:Nat))=((8*b.length:Nat):Int):=a9p;refine aj (bm @o @p @c @r @x) ?_;refine⟨_,U.a1,rfl,?_⟩;simp_all
theorem E4 (a b:List Int) (d h:Own) (c:U) (o:a.length<=1000) (p:b.length<=1000):
  AC Tryz.prog 251 [.J (ad a) d,.J (ad b) h] c λr x=>c.sub x/\r= .v (.bool (kD a b)):=by
 refine bd hm QC a9q ?_;refine bT ?_;refine ag (E3 a d c o) ?_;rintro _ y ⟨D,z,rfl⟩;refine bT ?_;refine ag (E3 b h y p) ?_;rintro _ k ⟨E,C,rfl⟩;refine bT ?_;refine ag (Z8 a b z C k) ?_;rintro _ k ⟨rfl,rfl⟩;refine bT ?_;grind
theorem E5: ∀ {a b:List UInt8},a.length=b.length->Op.bytesLess a b=a6.sy a b
 | [],[],_=>rfl
 |h::a,k::b,c=>by
  have d:a.length=b.length:=by simpa using c
  simp only[Op.bytesLess,a6.sy,E5 d];grind
theorem E6 (d h:List Int): ∀(b:List (Int×Int)) (a:(Int×Int)×Nat),(b.map λc=>(ck c.1,ck c.2)).foldl a6.pick ((ck a.1.1,ck a.1.2),a.2)=((ck (b.foldl gI a).1.1,ck (b.foldl gI a).1.2),(b.foldl gI a).2)
 | [],a=>rfl
 |c::b,a=>by
  simp only[a5k,a5S];rw[<-E6 d h b];grind[a6.pick,gI]
structure bL (d:Nat) (p:List Int):Prop where
 len:p.length=d
 jR:cX p
def E7 (a b:List Int):(a.map ck).zip (b.map ck)=(a.zip b).map λc=>(ck c.1,ck c.2):=by rw[List.zip_map];rfl
theorem Z9 {b:(Int×Int)×Nat}: ∀(a:List (Int×Int)),(a.foldl gI b).1=b.1\/(a.foldl gI b).1∈a:=by
 intro a
 induction a generalizing b with
 |nil=>simp
 |cons d a ih=>
  rw[a5S];rcases ih (b:=gI b d)with c|c
  .rw[c];unfold gI;split
   .simp
   .simp
  .simp_all
variable{q b6:List Int}
theorem qK (z:1<=e) (C:e<=8) (h:bL e q) (k:bL e b6):bC q b6=a6.lexB (a6.cc (q.map ck) 64) (a6.cc (b6.map ck) 64):=by
 unfold bC;have D:=h.len;have E:=k.len;rw[if_pos ⟨a9p,a9p,a9p⟩];have F:q.zip b6≠ []:=by intro c;have:=congrArg List.length c;simp_all
 obtain⟨a,d,b⟩: ∃a d,q.zip b6=a::d:=by
  cases G:q.zip b6 with
  |nil=>trivial
  |cons a d=>simp
 have y:(q.zip b6).headD (0,0)=a:=by rw[b];rfl
 rw[y];have o:=a6.Dr 64 (q.map ck) (b6.map ck) a9r (λa b=>by
  obtain⟨L,P⟩:=a;have hm:=List.of_mem_zip b;obtain⟨p,_,rfl⟩:=a5h.1 hm.1;obtain⟨r,_,rfl⟩:=a5h.1 hm.2;exact a7r (om _) (om _)) (ck a.1,ck a.2) (by rw[E7,b];simp)
 rw[E7,E6 q b6 (q.zip b6) (a,0)]at o;rw[<-Bool.coe_iff_coe,decide_eq_true_eq];rw[<-o];simp only;have x:((q.zip b6).foldl gI (a,0)).1∈q.zip b6:=by grind[Z9]
 generalize ((q.zip b6).foldl gI (a,0)).1=c at x;obtain⟨p,r⟩:=c;have hm:=List.of_mem_zip x;have S:=h.jR p hm.1;have T:=k.jR r hm.2;grind[E1]
theorem E8 (c:1<=e) (d:e<=8) (a:bL e q) (b:bL e b6):kD q b6=bC q b6:=by have h:=a.len;have k:=b.len;rw[qK c d a b];unfold kD;rw[if_pos a9p,E5 (by rw[ur,ur];omega)];grind[codeF,a6.Dt,np]
def E9: ∀(c:List Int),∀b∈c.zip c,b.1=b.2
 | [],b,a=>by cases a
 |d::c,b,a=>by
  rw[List.zip_cons_cons]at a;rcases a5j.1 a with rfl|a
  .rfl
  .exact E9 c b a
theorem sF (a:List Int):bC a a=false:=by
 unfold bC;split
 .have: ∀(b:List (Int×Int)) (c),(∀d∈b,d.1=d.2)->c.1.1=c.1.2->(b.foldl gI c).1.1=(b.foldl gI c).1.2:=by
   intro b
   induction b with
   |nil=>intro c _ h;exact h
   |cons d b ih=>grind[gI]
  have k:=E9 a;have o:((a.zip a).headD (0,0)).1=((a.zip a).headD (0,0)).2:=by
   cases h:a.zip a with
   |nil=>rfl
   |cons d b=>simp_all
  grind
 .rfl
theorem gp (d:1<=e) (h:e<=8):a6.Ord bC (bL e) where
 jc:=sF
 trans C D L b a p h1 k:=by rw[qK d h b a]at h1;rw[qK d h a p]at k;rw[qK d h b p];exact a6.Ys (by rw[np,np,b.len,a.len]) (by rw[np,np,a.len,p.len]) h1 k
 total C D b a h1 k:=by
  rw[qK d h b a]at h1;rw[qK d h a b]at k;have:=a6.Yt (by rw[np,np,b.len,a.len]) h1 k;have F:=a6.Yq (by simp[b.len,a.len]) 64 this (λr x=>by obtain⟨o,_,rfl⟩:=a5h.1 x;exact om o) (λr x=>by obtain⟨o,_,rfl⟩:=a5h.1 x;exact om o);refine a8u λy=> ?_;have c:=congrArg (λG=>G[y]?) F;simp only[a5n]at c;cases E:C[y]? with
  |none=>grind
  |some r=>rw[E]at c;cases z:D[y]? with
   |none=>rw[z]at c;cases c
   |some o=>rw[z]at c;simp only[a5O,a4X]at c;have P:=b.jR r (a4V E);have S:=a.jR o (a4V z);grind[E1]
variable{Q:List (List Int)}
def iG (a:aA isRow Q g):aR 1 g:=a.cells λ_ _=>isRow.cells
theorem Ea {a:List Int->List Int->Bool} (d: ∀b<e,a (Q.getD b []) q=true) (c:e<=Q.length) (h:e<Q.length->a (Q.getD e []) q=false):a6.dL a Q q=Q.take e++ [q]++Q.drop e:=by
 rw[a5b];change _=Q.take e++q::Q.drop e
 induction Q generalizing e with
 |nil=>simp at c;subst c;rfl
 |cons k Q ih=>
  cases e with
  |zero=>grind[a6.dL,List.takeWhile_cons,List.dropWhile_cons]
  |succ e=>have p:a k q=true:=d 0 a9p;have:=ih (λb r=>d (b+1) a9p) (by simpa using c) (λo=>h (by simpa using o));simp_all [a6.dL]
theorem Za (b:List (List Int)) (L:List R) (W o:Own) (k:List Int) (y:U) (h:aA isRow b L) (t:b.length<=1000) (e: ∀z∈b,z.length<=1000) (f:k.length<=1000):
  AC Tryz.prog 166 [.J L W,.J (ad k) o] y λz p=>y.sub p/\ ∃P C,z= .J P C/\aA isRow (a6.dL kD b k) P:=by
 have u:=h.len;have v:=iG h;refine aM hm Ob ?_;refine cn [0,1] (λa:Nat×List R×Own=> [(5,.J a.2.1 a.2.2),(6,.v (.int .i64 (a.1)))]) (λa p=>a.1<=b.length/\(∀S<a.1,kD (b.getD S []) k=true)/\aA isRow (b.take a.1) a.2.1/\bh y p 1 a.2.1 a.2.2) (λa=>b.length - a.1) (0,[],.nil) ⟨⟨a9q,λS w=>by omega,trivial,bh.nil U.a1⟩,aS⟩ ?_;rintro⟨d,A,on⟩ g ⟨D,r,c,x⟩ B
 dsimp only at D r c x|-
 have i:=c.len;rw[a4P]at i;refine aa ?_;refine aG (λj=> ?_) λj=> ?_
 .obtain⟨_,H,T,rfl⟩:=h.at [] (e:=d) a9p;have l:=fb (a:=b) (b:= []) (e:=d) a9p;refine cl (E4 (b.getD d []) k T o g (e _ (by grind)) f) ?_;rintro _ I ⟨V,rfl⟩;refine aa ?_;refine aG (λc2=> ?_) λc2=> ?_
  .refine hn (x.mono V) (iG c) λ_ C p m _=> ?_;exact⟨(d+1,_,C),⟨by simp only;omega,upto r c2,by simp only[l];exact c.snoc ⟨T,rfl⟩,m⟩,⟨rfl,rfl⟩,by simp only;omega⟩
  .rw[Ea r D λ_=>c2];refine hn (x.mono V) (iG c) λ_ n q E _=> ?_;refine kt E (Cr (iG c) rfl) (iG (h.drop d)) λF s G _=> ?_;exact⟨G.sub,_,F,rfl,(c.snoc ⟨o,rfl⟩).append (h.drop d)⟩
 .rw[Ea r D λ_=>by omega];refine hn x (iG c) λ_ n q E _=> ?_;refine kt E (Cr (iG c) rfl) (iG (h.drop d)) λF s G _=> ?_;exact⟨G.sub,_,F,rfl,(c.snoc ⟨o,rfl⟩).append (h.drop d)⟩
def gZ (a:Nat):List Nat:=(List.range (a6.bU a)).map λb=>a/a6.bU a+if b<a%a6.bU a then 1 else 0
def iH (a:List Nat):List R:=a.map λ(b:Nat)=>R.v (.int .i64 (b:Int))
def xT {a:Nat}:a6.bU a<=a:=by unfold a6.bU;omega
def uu {a:List Nat}:(iH a).length=a.length:=by simp[iH]
def Eb {a:List Nat}:aR 1 (iH a):=λc b=>by obtain⟨_,_,rfl⟩:=a5h.1 b;rfl
def uv {a:Nat}:(gZ a).length=a6.bU a:=by simp[gZ]
def xU {a b:Nat} (c:b<a6.bU a):(gZ a).getD b 0=a/a6.bU a+if b<a%a6.bU a then 1 else 0:=by simp[gZ,c]
def Ec (a:Nat) (g:a<=1000) (o:U):
  AC Tryz.prog 253 [.v (.int .i64 (a:Int))] o λG d=>o.sub d/\ ∃L,G= .J (iH (gZ a)) L:=by
 have P:(a:Int).tdiv 4=((a/4:Nat)):=rfl;have x:a6.bU a=if 4*(a/4)<a then a/4+1 else a/4:=by unfold a6.bU;split<;>omega
 refine aM hm QG ?_;refine o3 [0] (λ_:Unit=> [(3,.v (.int .i64 (a6.bU a)))]) (λ_ d=>d=o) (λh=> ?_) (λh=> ?_) ?_
 .have h:=of_decide_eq_true h;rw[if_pos a9p]at x;have b:((a/4:Nat))+1=(a6.bU a:Int):=a9p;exact aS
 .have h:=of_decide_eq_false h;rw[if_neg a9p]at x;have b:((a/4:Nat))=(a6.bU a:Int):=a9p;exact aS
 rintro _ o rfl S;have i:iH []= []:=rfl;clear x P;have j:= @xT a;have T:= @uv a;have E:= @xU a;refine aa ?_;refine cn [0,3] (λc:Nat×Own=> [(4,.J (iH ((gZ a).take c.1)) c.2),(5,.v (.int .i64 (c.1)))]) (λc d=>c.1<=a6.bU a/\bh o d 1 (iH ((gZ a).take c.1)) c.2) (λc=>a6.bU a - c.1) (0,.nil) ⟨⟨a9q,bh.nil U.a1⟩,aS⟩ ?_;rintro⟨k,V⟩ l ⟨W,p⟩ S
 dsimp only at W p|-
 have m:=a7J a (a6.bU a);have n:(a:Int).tdiv (a6.bU a:Int)=((a/a6.bU a:Nat)):=rfl;have q:(a:Int).tmod (a6.bU a:Int)=((a%a6.bU a:Nat)):=rfl;refine aa ?_;refine aG (λh=> ?_) λh=> ?_
 .have F:=E (b:=k) a9p;have y:=fb (a:=gZ a) (b:=0) (e:=k) a9p;rw[F]at y;have z: ∀r:Nat,(if k<a%a6.bU a then 1 else 0)=r->iH ((gZ a).take k)++ [R.v (.int .i64 ((a/a6.bU a+r:Nat)))]=iH ((gZ a).take (k+1)):=λr b=>by
   rw[y,b,iH,iH,a5P];rfl
  have e:=z 0;have f:=z 1;clear E F y z T;generalize a/a6.bU a=r at*;generalize a%a6.bU a=s at*;generalize gZ a=t at*;refine aG (λc2=> ?_) λc2=> ?_
  .have b:=f (if_pos a9p);refine hn p Eb (λ_ C d D _=> ?_) (P:=by rw[uu,a4P];omega);exact⟨(k+1,C),⟨by simp only;omega,b▸D⟩,⟨by simp only[<-b];rfl,rfl⟩,by simp only;omega⟩
  .have b:=e (if_neg a9p);refine hn p Eb (λ_ C d D _=> ?_) (P:=by rw[uu,a4P];omega);exact⟨(k+1,C),⟨by simp only;omega,b▸D⟩,⟨by simp only[<-b];rfl,rfl⟩,by simp only;omega⟩
 .rw[a4N a9p]at p|-;exact⟨p.sub,V,rfl⟩
end Go.Proofs.YtlgnfcaolejgeaaGreat
